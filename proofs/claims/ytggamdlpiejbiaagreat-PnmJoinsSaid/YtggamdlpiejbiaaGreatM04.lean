/- Walks and plain laws, a part of the proof of PnmJoins: every input that the law's guards let in, no condition beside. -/
import Derived.Test.YtggamdlpiejbiaaGreatM03
namespace Go.Proofs.YtggamdlpiejbiaaGreat
open Go.RowKit Go.Shelf
structure Fl where
  (i d : Nat) (v : Value) (ds : List Nat) (reg : Bool)
def edge (os : List Oper) (r c : Nat) : Bool := match os[r]? with
  | some o => o.after.toList.any fun e => Region.binds .any e && Nat.beq e.on c
  | none => false
def reach (os : List Oper) (m : Nat) : Nat → List Nat
  | 0 => [m]
  | s + 1 => cond ((reach os m s).any fun r => edge os r (m - (s + 1))) ((m - (s + 1)) :: reach os m s) (reach os m s)
def wt (os : List Oper) (m i : Nat) : Bool := inL i (reach os m m)
def frP : List Fl → Fr → Fr
  | [], fr => fr
  | p :: ps, fr => (p.d, p.v) :: frP ps fr
def depP : List Fl → Fr → List Nat → Fr
  | [], fr, _ => fr
  | p :: ps, fr, ds => cond (inL p.i ds) ((p.d, p.v) :: depP ps fr ds) (depP ps fr ds)
/-- Of those that are told the ones that m waits for, and the others. -/
def mgd (os : List Oper) (m : Nat) : List Fl → List Fl
  | [] => []
  | p :: ps => cond (wt os m p.i) (p :: mgd os m ps) (mgd os m ps)
def rmd (os : List Oper) (m : Nat) : List Fl → List Fl
  | [] => []
  | p :: ps => cond (wt os m p.i) (rmd os m ps) (p :: rmd os m ps)
theorem mem_mgd {os : List Oper} {m : Nat} {p : Fl} : ∀ {ps : List Fl}, p ∈ mgd os m ps ↔ p ∈ ps ∧ wt os m p.i = true
  | [] => by simp [mgd]
  | q :: ps => by
    simp only [mgd]
    cases h : wt os m q.i with
    | true => simp only [cond_true, List.mem_cons, mem_mgd (ps := ps)]; exact ⟨fun x => x.elim (fun e => by subst e; exact ⟨.inl rfl, h⟩) fun y => ⟨.inr y.1, y.2⟩, fun x => x.1.elim .inl fun y => .inr ⟨y, x.2⟩⟩
    | false => simp only [cond_false, List.mem_cons, mem_mgd (ps := ps)]; exact ⟨fun x => ⟨.inr x.1, x.2⟩, fun x => ⟨x.1.elim (fun e => by subst e; rw [h] at x; cases x.2) id, x.2⟩⟩
theorem mem_rmd {os : List Oper} {m : Nat} {p : Fl} : ∀ {ps : List Fl}, p ∈ rmd os m ps ↔ p ∈ ps ∧ wt os m p.i = false
  | [] => by simp [rmd]
  | q :: ps => by
    simp only [rmd]
    cases h : wt os m q.i with
    | false => simp only [cond_false, List.mem_cons, mem_rmd (ps := ps)]; exact ⟨fun x => x.elim (fun e => by subst e; exact ⟨.inl rfl, h⟩) fun y => ⟨.inr y.1, y.2⟩, fun x => x.1.elim .inl fun y => .inr ⟨y, x.2⟩⟩
    | true => simp only [cond_true, List.mem_cons, mem_rmd (ps := ps)]; exact ⟨fun x => ⟨.inr x.1, x.2⟩, fun x => ⟨x.1.elim (fun e => by subst e; rw [h] at x; cases x.2) id, x.2⟩⟩
section
variable {P : Program} {n : Cx} {D : List Deferred} {Q : Post} {fr fb : Fr} {l m fB : List HP}

theorem WpL.frame {ops : Array Oper} {rest : List Oper} {R : Fr → List HP → Prop} {F : List HP} (h : WpL P n D ops rest (fun e D' fr' l' => e = .normal ∧ D' = D ∧ R fr' l') fr l) :
    WpL P n D ops rest (fun e D' fr' l2 => e = .normal ∧ D' = D ∧ ∃ l', R fr' l' ∧ l2 = l' ++ F) fr (l ++ F) := by
  intro a w U hh hs
  obtain ⟨V, hV, hfr⟩ := Out.frame (F := F) hs
  refine Yk ?_ rest a w (h a w V hh hV)
  rintro e a' w' ⟨D', fr', l', ⟨he, hd, r⟩, hh', ho⟩
  exact ⟨D', fr', l' ++ F, ⟨he, hd, l', r, rfl⟩, hh', hfr l' w' ho⟩

theorem Take1.back {l m : List HP} {A : HP} (h : Take1 l A m) : Ent (A :: m) l := by
  induction h with
  | here => exact .refl _
  | there _ ih => exact Ent.swap.trans (Ent.cons ih)
theorem Take.back {l pre k : List HP} (h : Take l pre k) : Ent (pre ++ k) l := by
  induction h with
  | nil => exact .refl _
  | cons h1 _ ih => exact (Ent.cons ih).trans h1.back
theorem Ent.appl {l m F : List HP} (h : Ent l m) : Ent (l ++ F) (m ++ F) := fun w U hs => by
  obtain ⟨V, hV, h1, h2⟩ := Sat.split hs
  exact Sat.join (h w V h1) (fun b hb => (hV b hb).1) h2
/-- Parts that stay. -/
def Keep (l B : List HP) : Prop := ∃ R, Take l B R
def KeepR (l B : List HP) (ps : List Fl) : Prop := Keep l B ∨ (ps.all fun p => !p.reg) = true
def obsF (P : Program) (n : Cx) (D : List Deferred) (ops : Array Oper) (os : List Oper) (fb : Fr) (fB : List HP) (all : List Fl) (fr : Fr) (l : List HP) (p : Fl) : Prop :=
  ∃ o, os[p.i]? = some o ∧ o.dst = some p.d ∧ (∀ j ∈ p.ds, edge os p.i j = true) ∧ cond p.reg (WpL P n D ops [o] (obQ D p.d p.v fB) (depP all fb p.ds) fB) (WpL P n D ops [o] (obQ D p.d p.v l) (depP all fr p.ds) l)
def ZT (os : List Oper) (k : Nat) (pend : List Fl) : List Nat := (os.drop k).filterMap (·.dst) ++ pend.map (·.d)
/-- What is known all along may grow by a call's answer. -/
def GrF (o : Oper) (fr' fb fb' : Fr) : Prop := fb' = fb ∨ ∃ d v, o.dst = some d ∧ lk fr' d = some v ∧ fb' = (d, v) :: fb
/-- ja: the new variable's operation; k: the first one that is not walked yet; pend: those that may come later; all: all slots' values but the calls'. -/
def GoR (P : Program) (n : Cx) (D : List Deferred) (ops : Array Oper) (os : List Oper) (fb : Fr) (fB : List HP) (ja da : Nat) (z : List Value) (T : Nat) (Q : Post) (ss : List (Nat × Bool)) (k : Nat) (pend all : List Fl) (fr : Fr) (l : List HP) : Prop :=
  match ss with
  | [] => ∃ cur, KeepR l fB (pend ++ cur) ∧ cur.map (·.i) = List.range' k (os.length - k) ∧ (cur.all fun p => !Nat.beq p.i ja) = true ∧ (∀ p ∈ cur, obsF P n D ops os fb fB (all ++ cur) fr l p) ∧ Q .normal D (frP (pend ++ cur) fr) l
  | (nf, false) :: ss => ∃ cur, KeepR l fB (pend ++ cur) ∧ cur.map (·.i) = List.range' k nf ∧ (cur.all fun p => !Nat.beq p.i ja) = true ∧ (∀ p ∈ cur, obsF P n D ops os fb fB (all ++ cur) fr l p) ∧ (rmd os (k + nf) (pend ++ cur)).all (·.reg) = true ∧
      ∃ o, os[k + nf]? = some o ∧ WpL P n D ops [o] (fun e D' fr' l' => e = .normal ∧ D' = D ∧ ∃ fb', GrF o fr' fb fb' ∧ GoR P n D ops os fb' fB ja da z T Q ss (k + nf + 1) (rmd os (k + nf) (pend ++ cur)) (all ++ cur) (Yt (ZT os (k + nf + 1) (rmd os (k + nf) (pend ++ cur))) fr') l') (frP (mgd os (k + nf) (pend ++ cur)) fr) l
  | (nf, true) :: ss => ∃ cur, KeepR l fB (pend ++ cur) ∧ cur.map (·.i) = List.range' k nf ∧ (cur.all fun p => !Nat.beq p.i ja) = true ∧ (∀ p ∈ cur, obsF P n D ops os fb fB (all ++ cur) fr l p) ∧ (rmd os (k + nf + 1) (pend ++ cur)).all (·.reg) = true ∧ ja = k + nf ∧
      ∃ o, os[k + nf + 1]? = some o ∧ ∀ g, WpL P n D ops [o] (fun e D' fr' l' => e = .normal ∧ D' = D ∧ ∃ fb', GrF o fr' fb fb' ∧ GoR P n D ops os fb' fB ja da z T Q ss (k + nf + 2) (rmd os (k + nf + 1) (pend ++ cur)) (all ++ cur) (Yt (ZT os (k + nf + 2) (rmd os (k + nf + 1) (pend ++ cur))) fr') l')
        ((da, .pointer (some ⟨g, 0, none⟩)) :: frP (mgd os (k + nf + 1) (pend ++ cur)) fr) (QA g z T :: l)
/-- The mains' numbers. -/
def ZP : List (Nat × Bool) → Nat → List Nat
  | [], _ => []
  | (nf, al) :: ss, k => (cond al (k + nf + 1) (k + nf)) :: ZP ss (cond al (k + nf + 1) (k + nf) + 1)
def okG (os : List Oper) (ja da : Nat) (ss : List (Nat × Bool)) : Bool :=
  okDs [] (os.filterMap (·.dst)) &&
  ((os.zipIdx).all fun (o, i) => o.after.toList.all fun e => !Region.binds .any e || Nat.blt e.on i) &&
  ((ZP ss 0).all fun m => Nat.blt m os.length && !Nat.beq m ja && (List.range os.length).all fun i => !Nat.blt m i || Nat.beq i ja || wt os i m) &&
  ((List.range os.length).all fun m => !Nat.beq m (ja + 1) || wt os m ja) && Nat.ble ((ZP ss 0).length) os.length &&
  (match os[ja]? with | some o => o.dst == some da | none => true)
def closed (os : List Oper) (listed : Array Bool) : Prop := ∀ i o, os[i]? = some o → listed.getD i false = true → ∀ e ∈ o.after, Region.binds .any e = true → listed.getD e.on false = true
theorem edge_listed {os : List Oper} {listed : Array Bool} {r c : Nat} (he : edge os r c = true) (h : ∀ o, os[r]? = some o → ∀ e ∈ o.after, Region.binds .any e = true → listed.getD e.on false = true) : listed.getD c false = true := by
  unfold edge at he
  split at he
  · rename_i o ho
    obtain ⟨e, he', hc⟩ := List.any_eq_true.1 he
    simp only [Bool.and_eq_true] at hc
    have := h o ho e (Array.mem_toList_iff.1 he') hc.1
    rwa [Nat.eq_of_beq_eq_true hc.2] at this
  · cases he
theorem Zv {os : List Oper} {listed : Array Bool} {m : Nat} (hc : closed os listed) (hm : ∀ o, os[m]? = some o → ∀ e ∈ o.after, Region.binds .any e = true → listed.getD e.on false = true) :
    ∀ s, ∀ i ∈ reach os m s, i = m ∨ listed.getD i false = true
  | 0, i, hi => by simp [reach] at hi; exact .inl hi
  | s + 1, i, hi => by
    simp only [reach] at hi
    cases h : (reach os m s).any fun r => edge os r (m - (s + 1)) with
    | false => rw [h] at hi; exact Zv hc hm s i hi
    | true =>
      rw [h] at hi
      rcases List.mem_cons.1 hi with rfl | hi
      · obtain ⟨r, hr, he⟩ := List.any_eq_true.1 h
        rcases Zv hc hm s r hr with rfl | hl
        · exact .inr (edge_listed he hm)
        · exact .inr (edge_listed he fun o ho => hc r o ho hl)
      · exact Zv hc hm s i hi
theorem wt_listed {os : List Oper} {listed : Array Bool} {m i : Nat} (hc : closed os listed) (hm : ∀ o, os[m]? = some o → ∀ e ∈ o.after, Region.binds .any e = true → listed.getD e.on false = true) (h : wt os m i = true) (hne : i ≠ m) : listed.getD i false = true :=
  (Zv hc hm m i (inL_eq.1 h)).resolve_left hne
theorem frP_holds {a : Act} {base : Fr} (hb : Holds n D a base) : ∀ (ps : List Fl), (∀ p ∈ ps, a.tmps.getD p.d undef = p.v) → Holds n D a (frP ps base)
  | [], _ => hb
  | p :: ps, h => by
    have ih := frP_holds hb ps fun q hq => h q (List.mem_cons_of_mem _ hq)
    refine ⟨ih.1, ih.2.1, fun t v hv => ?_⟩
    simp only [frP, lk] at hv
    cases hbq : Nat.beq p.d t with
    | true => rw [hbq] at hv; have := Nat.eq_of_beq_eq_true hbq; subst this; simp only [cond_true, Option.some.injEq] at hv; subst hv; exact h p List.mem_cons_self
    | false => rw [hbq] at hv; exact ih.2.2 t v hv
theorem depP_holds {a : Act} {base : Fr} (hb : Holds n D a base) : ∀ (ps : List Fl) (ds : List Nat), (∀ p ∈ ps, p.i ∈ ds → a.tmps.getD p.d undef = p.v) → Holds n D a (depP ps base ds)
  | [], _, _ => hb
  | p :: ps, ds, h => by
    have ih := depP_holds hb ps ds fun q hq => h q (List.mem_cons_of_mem _ hq)
    simp only [depP]
    cases hi : inL p.i ds with
    | false => exact ih
    | true =>
      refine ⟨ih.1, ih.2.1, fun t v hv => ?_⟩
      simp only [cond_true, lk] at hv
      cases hbq : Nat.beq p.d t with
      | true => rw [hbq] at hv; have := Nat.eq_of_beq_eq_true hbq; subst this; simp only [cond_true, Option.some.injEq] at hv; subst hv; exact h p List.mem_cons_self (inL_eq.1 hi)
      | false => rw [hbq] at hv; exact ih.2.2 t v hv

theorem YU {a : Act} {o : Option Nat} {t : Nat} {v : Value} (h : ∀ d, o = some d → d ≠ t) : (a.put o v).tmps.getD t undef = a.tmps.getD t undef := by
  cases o with
  | none => rfl
  | some d => exact put_getD (h d rfl)
theorem okDs_inj {os : List Oper} (h : okDs [] (os.filterMap (·.dst)) = true) : ∀ (i j : Nat) (o o' : Oper) (d : Nat), os[i]? = some o → os[j]? = some o' → o.dst = some d → o'.dst = some d → i = j := by
  induction os with
  | nil => intro i j o o' d hi; simp at hi
  | cons x os ih =>
    intro i j o o' d hi hj hd hd'
    have key : ∀ (j : Nat) (o' : Oper), os[j]? = some o' → o'.dst = some d → d ∈ os.filterMap (·.dst) := fun j o' h1 h2 => List.mem_filterMap.2 ⟨o', List.mem_of_getElem? h1, h2⟩
    have htl : okDs [] (os.filterMap (·.dst)) = true := by
      cases hx : x.dst with
      | none => simpa [List.filterMap_cons, hx] using h
      | some e => simp only [List.filterMap_cons, hx, okDs, Bool.and_eq_true] at h; exact h.2
    have hnot : ∀ e, x.dst = some e → e ∉ os.filterMap (·.dst) := fun e hx => by
      simp only [List.filterMap_cons, hx, okDs, Bool.and_eq_true, Bool.not_eq_true', List.contains_eq_mem, decide_eq_false_iff_not] at h
      exact h.1.1
    cases i with
    | zero =>
      simp at hi; subst hi
      cases j with
      | zero => rfl
      | succ j => exact absurd (key j o' (by simpa using hj) hd') (hnot d hd)
    | succ i =>
      cases j with
      | zero => simp at hj; subst hj; exact absurd (key i o (by simpa using hi) hd) (hnot d hd')
      | succ j => rw [ih htl i j o o' d (by simpa using hi) (by simpa using hj) hd hd']
theorem obsF.reg {ops : Array Oper} {os : List Oper} {all : List Fl} {fr fr' : Fr} {l l' : List HP} {p : Fl} (hr : p.reg = true) (h : obsF P n D ops os fb fB all fr l p) : obsF P n D ops os fb fB all fr' l' p := by
  obtain ⟨o, h1, h2, h3, h4⟩ := h
  refine ⟨o, h1, h2, h3, ?_⟩
  rw [hr] at h4 ⊢
  exact h4
def Yv (N : Nat) : List (Nat × Bool) → Nat → Nat
  | [], _ => N
  | (nf, al) :: _, k => cond al (k + nf + 1) (k + nf)
structure InvG (P : Program) (n : Cx) (D : List Deferred) (os : List Oper) (fb : Fr) (fB : List HP) (ja da : Nat) (z : List Value) (T : Nat) (w0 : World) (U : Nat → Prop) (ss : List (Nat × Bool)) (k : Nat) (pend cur all : List Fl) (fr : Fr) (l : List HP) (listed : Array Bool) (a : Act) (w : World) : Prop where
  size : listed.size = os.length
  cl : closed os listed
  low : ∀ i, i < k → listed.getD i false = true ∨ ∃ p ∈ pend, p.i = i
  high : ∀ i, Yv os.length ss k ≤ i → i ≠ ja → listed.getD i false = false
  jal : ja < k → listed.getD ja false = true
  holds : Holds n D a fr
  hb : Holds n D a fb
  fbf : ∀ t v, lk fb t = some v → ∀ (i : Nat) (o : Oper), os[i]? = some o → o.dst = some t → listed.getD i false = true
  vals : ∀ p ∈ all, listed.getD p.i false = true → a.tmps.getD p.d undef = p.v
  ex : ∃ ex, Out (l ++ ex) U w0 w ∧ (listed.getD ja false = true → k ≤ ja → ∃ g, a.tmps.getD da undef = .pointer (some ⟨g, 0, none⟩) ∧ ex = [QA g z T])
  fresh : ∀ t v, lk fr t = some v → ∀ i o, os[i]? = some o → o.dst = some t → i < k ∧ ∀ p ∈ pend, p.i ≠ i
  sub : ∀ p ∈ pend ++ cur, p ∈ all
  plt : ∀ p ∈ pend, p.i < k
  clt : ∀ p ∈ cur, k ≤ p.i ∧ p.i < Yv os.length ss k
  obs : ∀ p ∈ pend ++ cur, ∃ all0 fb0, (∀ q ∈ all0, q ∈ all) ∧ (∀ t v, lk fb0 t = some v → lk fb t = some v) ∧ obsF P n D os.toArray os fb0 fB all0 fr l p
  idx : ∀ p ∈ all, ∃ o, os[p.i]? = some o ∧ o.dst = some p.d
  nja : ∀ p ∈ all, p.i ≠ ja
  un : ∀ p ∈ all, ∀ q ∈ all, p.i = q.i → p = q
  alt : ∀ p ∈ all, p.i < Yv os.length ss k
  kle : k ≤ Yv os.length ss k
  kp : KeepR l fB (pend ++ cur)
/-- One step of an operation of a region, wherever: what it does, and that its slot alone is written. -/
theorem step_op {ops : Array Oper} {i : Nat} {o : Oper} (ho : ops[i]? = some o) {R : Fr → List HP → Prop} {a : Act} {w w0 : World} {U : Nat → Prop} {K : Act → World → Prop} {gr : Fr} {l0 : List HP} {QQ : Exit → Act → World → Prop}
    (h : WpL P n D ops [o] (fun e D' fr' l' => e = .normal ∧ D' = D ∧ R fr' l') gr l0) (hh : Holds n D a gr) (hs : Out l0 U w0 w)
    (k : ∀ a' w' fr' l' v, a' = a.put o.dst v → R fr' l' → Holds n D a' fr' → Out l' U w0 w' → K a' w') : wpOpIn (FR n.ro) 0 P ops QQ i K a w := by
  have hw := h a w (Grow U w0) hh hs.1
  unfold wpOpIn
  rw [ho]
  have step : ∀ a' w', After n (fun e D' fr' l' => e = .normal ∧ D' = D ∧ R fr' l') (Grow U w0) w .normal a' w' → (∃ v, a' = a.put o.dst v) → K a' w' := by
    rintro a' w' ⟨D', fr', l', ⟨_, rfl, r⟩, hh', ho2⟩ ⟨v, hv⟩
    exact k a' w' fr' l' v hv r hh' (hs.then ho2)
  unfold wpListIn at hw
  simp only at hw ⊢
  split at hw
  · rename_i hwant
    rw [if_pos hwant]
    refine op_mono2 (fun a' w' hk => ?_) (fun e a' w' hne hk => ?_) (op_put hw)
    · obtain ⟨hk1, hk2⟩ := hk
      rcases hk2 with hk2 | hk2
      · exact step a' w' hk1 hk2
      · obtain ⟨D', fr', l', ⟨_, rfl, _⟩, hh', _⟩ := hk1
        exact absurd (hh'.1.trans hh.1.symm) hk2
    · obtain ⟨_, _, _, ⟨e, _⟩, _⟩ := hk
      exact absurd e hne
  · rename_i hwant
    rw [if_neg hwant]
    exact ⟨hw.1, step _ _ hw.2 ⟨_, rfl⟩⟩

def GoC (P : Program) (n : Cx) (D : List Deferred) (ops : Array Oper) (os : List Oper) (fb : Fr) (fB : List HP) (ja da : Nat) (z : List Value) (T : Nat) (Q : Post) : List (Nat × Bool) → Nat → List Fl → List Fl → List Fl → Fr → List HP → Prop
  | [], k, pend, cur, _, fr, l => cur.map (·.i) = List.range' k (os.length - k) ∧ Q .normal D (frP (pend ++ cur) fr) l
  | (nf, false) :: ss, k, pend, cur, all, fr, l => cur.map (·.i) = List.range' k nf ∧ (rmd os (k + nf) (pend ++ cur)).all (·.reg) = true ∧
      ∃ o, os[k + nf]? = some o ∧ WpL P n D ops [o] (fun e D' fr' l' => e = .normal ∧ D' = D ∧ ∃ fb', GrF o fr' fb fb' ∧ GoR P n D ops os fb' fB ja da z T Q ss (k + nf + 1) (rmd os (k + nf) (pend ++ cur)) all (Yt (ZT os (k + nf + 1) (rmd os (k + nf) (pend ++ cur))) fr') l') (frP (mgd os (k + nf) (pend ++ cur)) fr) l
  | (nf, true) :: ss, k, pend, cur, all, fr, l => cur.map (·.i) = List.range' k nf ∧ (rmd os (k + nf + 1) (pend ++ cur)).all (·.reg) = true ∧ ja = k + nf ∧
      ∃ o, os[k + nf + 1]? = some o ∧ ∀ g, WpL P n D ops [o] (fun e D' fr' l' => e = .normal ∧ D' = D ∧ ∃ fb', GrF o fr' fb fb' ∧ GoR P n D ops os fb' fB ja da z T Q ss (k + nf + 2) (rmd os (k + nf + 1) (pend ++ cur)) all (Yt (ZT os (k + nf + 2) (rmd os (k + nf + 1) (pend ++ cur))) fr') l')
        ((da, .pointer (some ⟨g, 0, none⟩)) :: frP (mgd os (k + nf + 1) (pend ++ cur)) fr) (QA g z T :: l)
def segN (N : Nat) : List (Nat × Bool) → Nat → Nat
  | [], k => N - k
  | (nf, _) :: _, _ => nf
theorem GoR.open {ops : Array Oper} {os : List Oper} {ja da : Nat} {z : List Value} {T : Nat} {ss : List (Nat × Bool)} {k : Nat} {pend all : List Fl} {fr : Fr} {l : List HP} (h : GoR P n D ops os fb fB ja da z T Q ss k pend all fr l) :
    ∃ cur, KeepR l fB (pend ++ cur) ∧ cur.map (·.i) = List.range' k (segN os.length ss k) ∧ (cur.all fun p => !Nat.beq p.i ja) = true ∧ (∀ p ∈ cur, obsF P n D ops os fb fB (all ++ cur) fr l p) ∧ GoC P n D ops os fb fB ja da z T Q ss k pend cur (all ++ cur) fr l := by
  cases ss with
  | nil => obtain ⟨cur, h0, h1, h2, h3, h4⟩ := h; exact ⟨cur, h0, h1, h2, h3, h1, h4⟩
  | cons s ss =>
    obtain ⟨nf, al⟩ := s
    cases al with
    | false => obtain ⟨cur, h0, h1, h2, h3, h4⟩ := h; exact ⟨cur, h0, h1, h2, h3, h1, h4⟩
    | true => obtain ⟨cur, h0, h1, h2, h3, h4⟩ := h; exact ⟨cur, h0, h1, h2, h3, h1, h4⟩
theorem ent_left {l ex : List HP} : Ent (l ++ ex) l := fun w U hs => by
  obtain ⟨V, hV, h1, _⟩ := Sat.split hs
  exact h1.mono fun b hb => (hV b hb).1
theorem map_un {α : Type} {f : α → Nat} : ∀ {l : List α}, (l.map f).Nodup → ∀ p ∈ l, ∀ q ∈ l, f p = f q → p = q
  | [], _, p, hp, _, _, _ => by cases hp
  | x :: l, h, p, hp, q, hq, e => by
    simp only [List.map_cons, List.nodup_cons] at h
    rcases List.mem_cons.1 hp with rfl | hp2
    · rcases List.mem_cons.1 hq with rfl | hq2
      · rfl
      · exact (h.1 (List.mem_map.2 ⟨q, hq2, e.symm⟩)).elim
    · rcases List.mem_cons.1 hq with rfl | hq2
      · exact (h.1 (List.mem_map.2 ⟨p, hp2, e⟩)).elim
      · exact map_un h.2 p hp2 q hq2 e
theorem kle_mfirst {N i : Nat} (h : i ≤ N) (ss : List (Nat × Bool)) : i ≤ Yv N ss i := by
  cases ss with
  | nil => exact h
  | cons s ss => obtain ⟨nf, al⟩ := s; cases al <;> simp only [Yv, cond_true, cond_false] <;> omega
theorem seg_mfirst {N i : Nat} (h : i ≤ N) (ss : List (Nat × Bool)) : i + segN N ss i ≤ Yv N ss i := by
  cases ss with
  | nil => simp only [segN, Yv]; omega
  | cons s ss => obtain ⟨nf, al⟩ := s; cases al <;> simp only [Yv, segN, cond_true, cond_false] <;> omega
theorem drawG_any {os : List Oper} {ja da : Nat} {z : List Value} {T : Nat} {ss0 : List (Nat × Bool)} (hok : okG os ja da ss0 = true)
    (hal : ∀ o, os[ja]? = some o → WpL P n D os.toArray [o] (fun e D' fr' l' => e = .normal ∧ D' = D ∧ ∃ g, lk fr' da = some (.pointer (some ⟨g, 0, none⟩)) ∧ Ent l' [QA g z T]) [] []) {w0 : World} {U : Nat → Prop} :
    ∀ (fuel : Nat) (listed : Array Bool) (a : Act) (w : World), unl listed os.length ≤ fuel → ∀ (fb : Fr) (ss : List (Nat × Bool)) (k : Nat) (pend cur all : List Fl) (fr : Fr) (l : List HP), (∀ m ∈ ZP ss k, m ∈ ZP ss0 0) →
      InvG P n D os fb fB ja da z T w0 U ss k pend cur all fr l listed a w → GoC P n D os.toArray os fb fB ja da z T Q ss k pend cur all fr l → wpAnyIn (FR n.ro) 0 P .any os.toArray (After n Q U w0) fuel listed a w := by
  simp only [okG, Bool.and_eq_true] at hok
  obtain ⟨⟨⟨⟨⟨hdd, hord⟩, hmn⟩, hwa⟩, _⟩, hda⟩ := hok
  have hinj := okDs_inj hdd
  have hmain : ∀ m ∈ ZP ss0 0, m < os.length ∧ m ≠ ja ∧ ∀ i, i < os.length → m < i → i ≠ ja → wt os i m = true := by
    intro m hm
    have h := List.all_eq_true.1 hmn m hm
    simp only [Bool.and_eq_true, Bool.not_eq_true'] at h
    refine ⟨Eq.mp Nat.blt_eq h.1.1, fun e => by subst e; simp at h, fun i hi hlt hne => ?_⟩
    have h2 := List.all_eq_true.1 h.2 i (List.mem_range.2 hi)
    simp only [Bool.or_eq_true, Bool.not_eq_true'] at h2
    rcases h2 with (h2 | h2) | h2
    · have : Nat.blt m i = true := by rw [Nat.blt_eq]; exact hlt
      rw [h2] at this; cases this
    · exact absurd (Nat.eq_of_beq_eq_true h2) hne
    · exact h2
  have hback : ∀ i o, os[i]? = some o → ∀ e ∈ o.after, Region.binds .any e = true → e.on < i := by
    intro i o ho e he hb
    have h1 := List.all_eq_true.1 hord (o, i) (by rw [List.mem_zipIdx_iff_getElem?]; exact ho)
    have h2 := List.all_eq_true.1 h1 e (Array.mem_toList_iff.2 he)
    rw [hb] at h2
    exact Eq.mp Nat.blt_eq h2
  have hmf : ∀ ss k, ss ≠ [] → Yv os.length ss k ∈ ZP ss k := by
    intro ss k hne
    cases ss with
    | nil => exact absurd rfl hne
    | cons s ss => obtain ⟨nf, al⟩ := s; cases al <;> simp [Yv, ZP]
  have fin : ∀ (listed : Array Bool) (a : Act) (w : World) (fb : Fr) (ss : List (Nat × Bool)) (k : Nat) (pend cur all : List Fl) (fr : Fr) (l : List HP), (∀ i, i < os.length → listed.getD i false = true) → (∀ m ∈ ZP ss k, m ∈ ZP ss0 0) →
      InvG P n D os fb fB ja da z T w0 U ss k pend cur all fr l listed a w → GoC P n D os.toArray os fb fB ja da z T Q ss k pend cur all fr l → After n Q U w0 .normal a w := by
    intro listed a w fb ss k pend cur all fr l hall hms I G
    cases ss with
    | nil =>
      obtain ⟨ex, ho, _⟩ := I.ex
      refine ⟨_, _, l, G.2, frP_holds I.holds _ fun p hp => ?_, ho.ent ent_left⟩
      obtain ⟨o, ho', _⟩ := I.idx p (I.sub p hp)
      exact I.vals p (I.sub p hp) (hall _ (List.getElem?_eq_some_iff.1 ho').1)
    | cons s ss =>
      have h1 := hmf (s :: ss) k (by simp)
      have h2 := hmain _ (hms _ h1)
      have h3 := I.high _ (Nat.le_refl _) h2.2.1
      rw [hall _ h2.1] at h3
      cases h3
  have noready : ∀ (listed : Array Bool), listed.size = os.length → Region.ready .any os.toArray listed = [] → ∀ i, i < os.length → listed.getD i false = true := by
    intro listed hsz hr i
    induction i using Nat.strongRecOn with
    | _ i ih =>
      intro hi
      cases hb : listed.getD i false with
      | true => rfl
      | false =>
        exfalso
        have hm : i ∈ Region.ready .any os.toArray listed := by
          refine mem_ready.2 ⟨?_, os[i], by simp [List.getElem?_eq_getElem hi], fun e he hbd => ?_⟩
          · simpa [Array.getD, hsz, hi] using hb
          · have := hback i _ (List.getElem?_eq_getElem hi) e he hbd
            exact ih e.on this (by omega)
        rw [hr] at hm; cases hm
  intro fuel
  induction fuel with
  | zero =>
    intro listed a w hu fb ss k pend cur all fr l hms I G
    have hall := unl_zero (k := os.length) (Nat.le_zero.1 hu)
    refine ⟨?_, fin listed a w fb ss k pend cur all fr l hall hms I G⟩
    refine List.eq_nil_iff_forall_not_mem.2 fun i hi => ?_
    obtain ⟨h1, o, ho', _⟩ := mem_ready.1 hi
    have hlt : i < os.length := by simpa using (Array.getElem?_eq_some_iff.1 ho').1
    have := hall i hlt
    simp [Array.getD, I.size, hlt] at this h1
    rw [this] at h1; cases h1
  | succ fuel ih =>
    intro listed a w hu fb ss k pend cur all fr l hms I G
    refine ⟨fun hr => fin listed a w fb ss k pend cur all fr l (noready listed I.size hr) hms I G, fun i hi => ?_⟩
    obtain ⟨h1, o, ho', hedges⟩ := mem_ready.1 hi
    have hlt : i < os.length := by simpa using (Array.getElem?_eq_some_iff.1 ho').1
    have hoi : os[i]? = some o := by simpa using ho'
    have hnl : listed.getD i false = false := by simpa [Array.getD, I.size, hlt] using h1
    have hlsz : i < listed.size := by rw [I.size]; exact hlt
    have hu2 : unl (listed.setIfInBounds i true) os.length ≤ fuel := by
      have := unl_set (listed := listed) hlsz hnl os.length
      rw [if_pos hlt] at this
      omega
    have hpre : ∀ o', os[i]? = some o' → ∀ e ∈ o'.after, Region.binds .any e = true → listed.getD e.on false = true := fun o' h' e he hb => by
      rw [hoi] at h'; cases h'; exact hedges e he hb
    have hup : ∀ j, listed.getD j false = true → (listed.setIfInBounds i true).getD j false = true := fun j hj => by
      rw [Yu hlsz]; split <;> first | rfl | exact hj
    have hdown : ∀ j, (listed.setIfInBounds i true).getD j false = true → j ≠ i → listed.getD j false = true := fun j hj hne => by
      rw [Yu hlsz, if_neg (Ne.symm hne)] at hj; exact hj
    have hself : (listed.setIfInBounds i true).getD i false = true := by rw [Yu hlsz, if_pos rfl]
    have hcl2 : closed os (listed.setIfInBounds i true) := by
      intro j oj hj hlj e he hb
      by_cases hji : j = i
      · subst hji; exact hup _ (hpre oj hj e he hb)
      · exact hup _ (I.cl j oj hj (hdown j hlj hji) e he hb)
    have hdne : ∀ p ∈ all, p.i ≠ i → ∀ d, o.dst = some d → d ≠ p.d := by
      rintro p hp hne d hd rfl
      obtain ⟨o', h2, h3⟩ := I.idx p hp
      exact hne (hinj _ _ _ _ _ h2 hoi h3 hd)
    have hbn : ∀ (v : Value) (fr' : Fr), Holds n D (a.put o.dst v) fr' → Holds n D (a.put o.dst v) fb := fun v fr' hh' => ⟨hh'.1, hh'.2.1, fun t u hu' => by
      rw [YU (fun d hd e => by subst e; have := I.fbf _ _ hu' i o hoi hd; rw [hnl] at this; cases this)]
      exact I.hb.2.2 t u hu'⟩
    have hfbf : ∀ t v, lk fb t = some v → ∀ (j : Nat) (o' : Oper), os[j]? = some o' → o'.dst = some t → (listed.setIfInBounds i true).getD j false = true := fun t v hv j o' ho2 hd => hup _ (I.fbf t v hv j o' ho2 hd)
    obtain ⟨ex, hout, hexa⟩ := I.ex
    have hdax : i ≠ ja → listed.getD ja false = true → ∀ d, o.dst = some d → d ≠ da := by
      rintro hne hlj d hd rfl
      have hjlt : ja < os.length := by
        rcases Nat.lt_or_ge ja os.length with h | h
        · exact h
        · rw [Array.getD, dif_neg (by rw [I.size]; omega)] at hlj; cases hlj
      rw [List.getElem?_eq_getElem hjlt] at hda
      exact hne (hinj _ _ _ _ _ hoi (List.getElem?_eq_getElem hjlt) hd (by simpa using hda))
    by_cases hflo : ∃ p ∈ pend ++ cur, p.i = i
    · -- one that only reads
      obtain ⟨p, hp, rfl⟩ := hflo
      obtain ⟨all0, fb0, hs0, hsf, hob⟩ := I.obs p hp
      have hpa := I.sub p hp
      have hobs := hob
      obtain ⟨o2, ho2, hdst, hdeps, hwp⟩ := hob
      rw [hoi] at ho2; cases ho2
      have hdep : ∀ q ∈ all0, q.i ∈ p.ds → a.tmps.getD q.d undef = q.v := fun q hq hqi =>
        I.vals q (hs0 q hq) (edge_listed (hdeps q.i hqi) hpre)
      have hrun : WpL P n D os.toArray [o] (fun e D' fr' l2 => e = .normal ∧ D' = D ∧ ∃ l', (lk fr' p.d = some p.v ∧ Ent l' l) ∧ l2 = l' ++ ex) (cond p.reg (depP all0 fb0 p.ds) (depP all0 fr p.ds)) (l ++ ex) := by
        cases hr : p.reg with
        | false =>
          rw [hr] at hwp
          exact WpL.frame (R := fun fr' l' => lk fr' p.d = some p.v ∧ Ent l' l) hwp
        | true =>
          rw [hr] at hwp
          obtain ⟨R, hR⟩ : Keep l fB := I.kp.resolve_right fun h => by
            have := List.all_eq_true.1 h p hp
            rw [hr] at this; cases this
          have := WpL.frame (F := R ++ ex) (R := fun fr' l' => lk fr' p.d = some p.v ∧ Ent l' fB) hwp
          intro a w U hh hs
          have e1 : Ent (l ++ ex) (fB ++ (R ++ ex)) := by rw [← List.append_assoc]; exact Ent.appl hR.ent
          refine Yk ?_ _ a w (this a w U hh (e1 _ _ hs))
          rintro e a' w' ⟨D', fr', l2, ⟨he, hd, l', ⟨hl', he2⟩, rfl⟩, hh', ho⟩
          refine ⟨D', fr', l ++ ex, ⟨he, hd, l, ⟨hl', Ent.refl _⟩, rfl⟩, hh', ho.ent ((Ent.appl he2).trans ?_)⟩
          rw [← List.append_assoc]
          exact Ent.appl hR.back
      have hfr : Holds n D a (cond p.reg (depP all0 fb0 p.ds) (depP all0 fr p.ds)) := by
        cases p.reg
        · exact depP_holds I.holds _ _ hdep
        · exact depP_holds ⟨I.hb.1, I.hb.2.1, fun t v hv => I.hb.2.2 t v (hsf t v hv)⟩ _ _ hdep
      refine step_op ho' hrun hfr hout ?_
      rintro a' w' fr' l2 v rfl ⟨l', ⟨hlk, he⟩, rfl⟩ hh' ho3
      have hpv : (a.put o.dst v).tmps.getD p.d undef = p.v := hh'.2.2 _ _ hlk
      refine ih _ _ _ hu2 fb ss k pend cur all fr l hms ?_ G
      have hpk : p.i < Yv os.length ss k := I.alt p hpa
      refine { size := by simpa using I.size, cl := hcl2, low := fun j hj => (I.low j hj).imp (hup j) id, high := fun j hj hne => ?_, jal := fun h => hup _ (I.jal h), hb := hbn v _ hh', fbf := hfbf, holds := ?_, vals := fun q hq hlq => ?_, ex := ⟨ex, ?_, fun hlj hk => ?_⟩, fresh := I.fresh, sub := I.sub, plt := I.plt, clt := I.clt, obs := I.obs, idx := I.idx, nja := I.nja, un := I.un, alt := I.alt, kle := I.kle, kp := I.kp }
      · cases hx : (listed.setIfInBounds p.i true).getD j false with
        | false => rfl
        | true => have := hdown j hx (by omega); rw [I.high j hj hne] at this; cases this
      · refine ⟨hh'.1, hh'.2.1, fun t u hu' => ?_⟩
        rw [YU (fun d hd e => ?_)]
        · exact I.holds.2.2 t u hu'
        · subst e
          obtain ⟨hk1, hk2⟩ := I.fresh _ _ hu' p.i o hoi hd
          rcases List.mem_append.1 hp with hp | hp
          · exact hk2 p hp rfl
          · have := (I.clt p hp).1; omega
      · by_cases hqi : q.i = p.i
        · rw [I.un q hq p hpa hqi]; exact hpv
        · rw [YU (hdne q hq hqi)]
          exact I.vals q hq (hdown _ hlq hqi)
      · exact ho3.ent fun w U hs => by
          obtain ⟨V, hV, h1, h2⟩ := Sat.split hs
          exact Sat.join (he w V h1) (fun b hb => (hV b hb).1) h2
      · have hnj := I.nja p hpa
        have hlj' := hdown _ hlj (Ne.symm hnj)
        rw [YU (hdax hnj hlj')]
        exact hexa hlj' hk
    · by_cases hij : i = ja
      · -- the new variable
        subst hij
        have hkj : k ≤ i := by
          rcases Nat.lt_or_ge i k with h | h
          · rw [I.jal h] at hnl; cases hnl
          · exact h
        have hd : o.dst = some da := by rw [hoi] at hda; simpa using hda
        have hrun := WpL.frame (F := l ++ ex) (R := fun fr' l' => ∃ g, lk fr' da = some (.pointer (some ⟨g, 0, none⟩)) ∧ Ent l' [QA g z T]) (hal o hoi)
        refine step_op ho' hrun ⟨I.holds.1, I.holds.2.1, fun t v hv => by cases hv⟩ hout ?_
        rintro a' w' fr' l2 v rfl ⟨l', ⟨g, hlk, he⟩, rfl⟩ hh' ho3
        refine ih _ _ _ hu2 fb ss k pend cur all fr l hms ?_ G
        refine { size := by simpa using I.size, cl := hcl2, low := fun j hj => (I.low j hj).imp (hup j) id, high := fun j hj hne => ?_, jal := fun _ => hself, hb := hbn v _ hh', fbf := hfbf, holds := ?_, vals := fun q hq hlq => ?_, ex := ⟨[QA g z T], ?_, fun _ _ => ⟨g, hh'.2.2 _ _ hlk, rfl⟩⟩, fresh := I.fresh, sub := I.sub, plt := I.plt, clt := I.clt, obs := I.obs, idx := I.idx, nja := I.nja, un := I.un, alt := I.alt, kle := I.kle, kp := I.kp }
        · cases hx : (listed.setIfInBounds i true).getD j false with
          | false => rfl
          | true => have := hdown j hx hne; rw [I.high j hj hne] at this; cases this
        · refine ⟨hh'.1, hh'.2.1, fun t u hu' => ?_⟩
          rw [YU (fun d hd e => ?_)]
          · exact I.holds.2.2 t u hu'
          · subst e
            have := (I.fresh _ _ hu' i o hoi hd).1; omega
        · have hqi := I.nja q hq
          rw [YU (hdne q hq hqi)]
          exact I.vals q hq (hdown _ hlq hqi)
        · exact ho3.ent fun w U hs => by
            obtain ⟨V, hV, h1, h2⟩ := Sat.split hs
            obtain ⟨V2, hV2, h3, _⟩ := Sat.split h2
            refine Sat.join (V := V2) h3 (fun b hb => (hV2 b hb).1.1) ?_
            exact (he w V h1).mono fun b hb => ⟨(hV b hb).1, fun x => (hV2 b x).1.2 hb⟩
      · -- the next one in the row
        have hki : k ≤ i := by
          rcases Nat.lt_or_ge i k with h | h
          · rcases I.low i h with h2 | ⟨p, hp, h2⟩
            · rw [h2] at hnl; cases hnl
            · exact absurd ⟨p, List.mem_append_left _ hp, h2⟩ hflo
          · exact h
        have hcase : ∃ nf al ss', ss = (nf, al) :: ss' ∧ i = cond al (k + nf + 1) (k + nf) := by
          cases ss with
          | nil =>
            have : i ∈ cur.map (·.i) := by rw [G.1, List.mem_range'_1]; omega
            obtain ⟨p, hp, h2⟩ := List.mem_map.1 this
            exact absurd ⟨p, List.mem_append_right _ hp, h2⟩ hflo
          | cons s ss' =>
            obtain ⟨nf, al⟩ := s
            refine ⟨nf, al, ss', rfl, ?_⟩
            have hm1 := hmf ((nf, al) :: ss') k (by simp)
            have hm := hmain _ (hms _ hm1)
            have hcur : cur.map (·.i) = List.range' k nf := by cases al <;> exact G.1
            have hnc : ¬ i < k + nf := fun h => by
              have : i ∈ cur.map (·.i) := by rw [hcur, List.mem_range'_1]; omega
              obtain ⟨p, hp, h2⟩ := List.mem_map.1 this
              exact hflo ⟨p, List.mem_append_right _ hp, h2⟩
            have hgt : ¬ Yv os.length ((nf, al) :: ss') k < i := fun h => by
              have h2 := wt_listed I.cl hpre (hm.2.2 i hlt h hij) (by omega)
              rw [I.high _ (Nat.le_refl _) hm.2.1] at h2
              cases h2
            cases al with
            | false => simp only [Yv, cond_false] at hgt ⊢; omega
            | true =>
              have hj : ja = k + nf := G.2.2.1
              simp only [Yv, cond_true] at hgt ⊢; omega
        obtain ⟨nf, al, ss', rfl, him⟩ := hcase
        have hmf0 : Yv os.length ((nf, al) :: ss') k = i := by simp only [Yv]; exact him.symm
        have hms' : ∀ m ∈ ZP ss' (i + 1), m ∈ ZP ss0 0 := fun m hm => hms m (by simp only [ZP]; rw [← him]; exact List.mem_cons_of_mem _ hm)
        have hpw : ∀ p ∈ pend ++ cur, wt os i p.i = true → listed.getD p.i false = true := fun p hp h => wt_listed I.cl hpre h fun e => hflo ⟨p, hp, e⟩
        have hcur : cur.map (·.i) = List.range' k nf := by cases al <;> exact G.1
        have next : ∀ (a' : Act) (w' : World) (fr' fb' : Fr) (l' ex' : List HP) (v : Value), GrF o fr' fb fb' → a' = a.put o.dst v → (rmd os i (pend ++ cur)).all (·.reg) = true →
            GoR P n D os.toArray os fb' fB ja da z T Q ss' (i + 1) (rmd os i (pend ++ cur)) all (Yt (ZT os (i + 1) (rmd os i (pend ++ cur))) fr') l' → Holds n D a' fr' → Out (l' ++ ex') U w0 w' → (ja < i + 1 → listed.getD ja false = true) →
            (listed.getD ja false = true → i + 1 ≤ ja → ∃ g, a'.tmps.getD da undef = .pointer (some ⟨g, 0, none⟩) ∧ ex' = [QA g z T]) → wpAnyIn (FR n.ro) 0 P .any os.toArray (After n Q U w0) fuel (listed.setIfInBounds i true) a' w' := by
          intro a' w' fr' fb' l' ex' v hgr ha' hreg hgo hh' ho3 hj1 hj2
          subst ha'
          have hfs : ∀ t u, lk fb t = some u → lk fb' t = some u := fun t u hu' => by
            rcases hgr with rfl | ⟨d, x, hd, _, rfl⟩
            · exact hu'
            · simp only [lk]
              cases hb : Nat.beq d t with
              | true => have := Nat.eq_of_beq_eq_true hb; subst this; have := I.fbf _ _ hu' i o hoi hd; rw [hnl] at this; cases this
              | false => exact hu'
          have hfb2 : Holds n D (a.put o.dst v) fb' := by
            rcases hgr with rfl | ⟨d, x, hd, hx, rfl⟩
            · exact hbn v _ hh'
            · refine ⟨hh'.1, hh'.2.1, fun t u hu' => ?_⟩
              simp only [lk] at hu'
              cases hb : Nat.beq d t with
              | true => rw [hb] at hu'; have := Nat.eq_of_beq_eq_true hb; subst this; simp only [cond_true, Option.some.injEq] at hu'; subst hu'; exact hh'.2.2 _ _ hx
              | false => rw [hb] at hu'; exact (hbn v _ hh').2.2 t u hu'
          have hfbf2 : ∀ t u, lk fb' t = some u → ∀ (j : Nat) (o' : Oper), os[j]? = some o' → o'.dst = some t → (listed.setIfInBounds i true).getD j false = true := fun t u hu' j o' ho2 hd2 => by
            rcases hgr with rfl | ⟨d, x, hd, _, rfl⟩
            · exact hfbf t u hu' j o' ho2 hd2
            · simp only [lk] at hu'
              cases hb : Nat.beq d t with
              | true => have := Nat.eq_of_beq_eq_true hb; subst this; rw [hinj _ _ _ _ _ ho2 hoi hd2 hd]; exact hself
              | false => rw [hb] at hu'; exact hfbf t u hu' j o' ho2 hd2
          obtain ⟨cur', hkp, hci, hcj, hco, G'⟩ := hgo.open
          have hcr : ∀ p ∈ cur', i + 1 ≤ p.i ∧ p.i < i + 1 + segN os.length ss' (i + 1) := fun p hp => by
            have : p.i ∈ cur'.map (·.i) := List.mem_map.2 ⟨p, hp, rfl⟩
            rw [hci, List.mem_range'_1] at this
            exact this
          have hsg := seg_mfirst (N := os.length) (i := i + 1) hlt ss'
          have hkl := kle_mfirst (N := os.length) (i := i + 1) hlt ss'
          have hcn : ∀ p ∈ cur', p.i ≠ ja := fun p hp e => by
            have := List.all_eq_true.1 hcj p hp
            rw [e] at this; simp at this
          have hrm : ∀ p ∈ rmd os i (pend ++ cur), p ∈ pend ++ cur ∧ p.reg = true := fun p hp => ⟨(mem_rmd.1 hp).1, List.all_eq_true.1 hreg p hp⟩
          have hpc : ∀ p ∈ pend ++ cur, p.i < i := fun p hp => by
            rcases List.mem_append.1 hp with h | h
            · have := I.plt p h; omega
            · have := (I.clt p h).2; rw [hmf0] at this; exact this
          refine ih _ _ _ hu2 fb' ss' (i + 1) (rmd os i (pend ++ cur)) cur' (all ++ cur') _ l' hms' ?_ G'
          refine { size := by simpa using I.size, cl := hcl2, low := fun j hj => ?_, high := fun j hj hne => ?_, jal := fun h => hup _ (hj1 h), hb := hfb2, fbf := hfbf2, holds := hh'.dropK _, vals := fun q hq hlq => ?_, ex := ⟨ex', ho3, fun h1 h2 => hj2 (hdown _ h1 (Ne.symm hij)) h2⟩, fresh := fun t v hv j oj hoj hdj => ?_, sub := fun p hp => ?_, plt := fun p hp => ?_, clt := fun p hp => ?_, obs := fun p hp => ?_, idx := fun p hp => ?_, nja := fun p hp => ?_, un := fun p hp q hq e => ?_, alt := fun p hp => ?_, kle := hkl, kp := hkp }
          · have hcov : ∀ p ∈ pend ++ cur, (listed.setIfInBounds i true).getD p.i false = true ∨ ∃ q ∈ rmd os i (pend ++ cur), q.i = p.i := fun p hp => by
              cases hw : wt os i p.i with
              | true => exact .inl (hup _ (hpw p hp hw))
              | false => exact .inr ⟨p, mem_rmd.2 ⟨hp, hw⟩, rfl⟩
            rcases Nat.lt_or_ge j k with h | h
            · rcases I.low j h with h2 | ⟨p, hp, rfl⟩
              · exact .inl (hup _ h2)
              · exact hcov p (List.mem_append_left _ hp)
            · rcases Nat.lt_or_ge j (k + nf) with h2 | h2
              · have : j ∈ cur.map (·.i) := by rw [hcur, List.mem_range'_1]; omega
                obtain ⟨p, hp, rfl⟩ := List.mem_map.1 this
                exact hcov p (List.mem_append_right _ hp)
              · by_cases hji : j = i
                · subst hji; exact .inl hself
                · cases al with
                  | false => simp only [cond_false] at him; omega
                  | true =>
                    simp only [cond_true] at him
                    have hjj : ja = k + nf := G.2.2.1
                    have : j = ja := by omega
                    subst this
                    exact .inl (hup _ (hj1 hj))
          · cases hx : (listed.setIfInBounds i true).getD j false with
            | false => rfl
            | true => have := hdown j hx (by omega); rw [I.high j (by rw [hmf0]; omega) hne] at this; cases this
          · rcases List.mem_append.1 hq with hq | hq
            · have hlt2 := I.alt q hq
              rw [hmf0] at hlt2
              rw [YU (hdne q hq (by omega))]
              exact I.vals q hq (hdown _ hlq (by omega))
            · have h2 := hcr q hq
              have := hdown _ hlq (by omega)
              rw [I.high q.i (by rw [hmf0]; omega) (hcn q hq)] at this
              cases this
          · obtain ⟨_, hnin⟩ := Y2 hv
            refine ⟨?_, fun p hp e => ?_⟩
            · rcases Nat.lt_or_ge j (i + 1) with h | h
              · exact h
              · refine absurd (List.mem_append_left _ (List.mem_filterMap.2 ⟨oj, ?_, hdj⟩)) hnin
                refine List.mem_of_getElem? (i := j - (i + 1)) ?_
                rw [List.getElem?_drop, show i + 1 + (j - (i + 1)) = j by omega]; exact hoj
            · obtain ⟨o', h1, h2⟩ := I.idx p (I.sub p (hrm p hp).1)
              rw [e, hoj] at h1
              cases h1
              rw [hdj] at h2
              cases h2
              exact hnin (List.mem_append_right _ (List.mem_map.2 ⟨p, hp, rfl⟩))
          · rcases List.mem_append.1 hp with hp | hp
            · exact List.mem_append_left _ (I.sub p (hrm p hp).1)
            · exact List.mem_append_right _ hp
          · have := hpc p (hrm p hp).1; omega
          · have := hcr p hp; exact ⟨this.1, by omega⟩
          · rcases List.mem_append.1 hp with hp | hp
            · obtain ⟨all0, fb0, h1, h0, h2⟩ := I.obs p (hrm p hp).1
              exact ⟨all0, fb0, fun q hq => List.mem_append_left _ (h1 q hq), fun t u hu' => hfs t u (h0 t u hu'), h2.reg (hrm p hp).2⟩
            · exact ⟨_, _, fun q hq => hq, fun _ _ h => h, hco p hp⟩
          · rcases List.mem_append.1 hp with hp | hp
            · exact I.idx p hp
            · obtain ⟨o', h1, h2, _⟩ := hco p hp
              exact ⟨o', h1, h2⟩
          · rcases List.mem_append.1 hp with hp | hp
            · exact I.nja p hp
            · exact hcn p hp
          · rcases List.mem_append.1 hp with hp | hp <;> rcases List.mem_append.1 hq with hq | hq
            · exact I.un p hp q hq e
            · have h1 := I.alt p hp; rw [hmf0] at h1; have := hcr q hq; omega
            · have h1 := I.alt q hq; rw [hmf0] at h1; have := hcr p hp; omega
            · refine map_un (f := (·.i)) ?_ p hp q hq e
              rw [hci]; exact List.nodup_range'
          · rcases List.mem_append.1 hp with hp | hp
            · have h1 := I.alt p hp; rw [hmf0] at h1; omega
            · have := hcr p hp; omega
        have hfrm : Holds n D a (frP (mgd os i (pend ++ cur)) fr) := frP_holds I.holds _ fun p hp => by
          obtain ⟨h1, h2⟩ := mem_mgd.1 hp
          exact I.vals p (I.sub p h1) (hpw p h1 h2)
        cases al with
        | false =>
          simp only [cond_false] at him
          obtain ⟨_, hreg, o2, ho2, hwp⟩ := G
          rw [← him] at hreg ho2 hwp
          rw [hoi] at ho2; cases ho2
          refine step_op ho' (WpL.frame (F := ex) (R := fun fr' l' => ∃ fb', GrF o fr' fb fb' ∧ GoR P n D os.toArray os fb' fB ja da z T Q ss' (i + 1) (rmd os i (pend ++ cur)) all (Yt (ZT os (i + 1) (rmd os i (pend ++ cur))) fr') l') hwp) hfrm hout ?_
          rintro a' w' fr' l2 v rfl ⟨l', ⟨fb', hgr, hgo⟩, rfl⟩ hh' ho3
          refine next _ w' fr' fb' l' ex v hgr rfl hreg hgo hh' ho3 (fun h => ?_) (fun h1 h2 => ?_)
          · rcases Nat.lt_or_ge ja k with h2 | h2
            · exact I.jal h2
            · exfalso
              have hcj : ja ∈ cur.map (·.i) := by rw [hcur, List.mem_range'_1]; omega
              obtain ⟨p, hp, h3⟩ := List.mem_map.1 hcj
              exact I.nja p (I.sub p (List.mem_append_right _ hp)) h3
          · rw [YU (hdax hij h1)]
            exact hexa h1 (by omega)
        | true =>
          simp only [cond_true] at him
          obtain ⟨_, hreg, hjj, o2, ho2, hwp⟩ := G
          have him2 : i + 1 = k + nf + 2 := by omega
          rw [← him2, ← him] at hwp
          rw [← him] at hreg ho2
          rw [hoi] at ho2; cases ho2
          have hjl : listed.getD ja false = true := by
            have hmi := hmain i (hms i (by simp only [ZP, cond_true]; rw [← him]; exact List.mem_cons_self))
            have h2 := List.all_eq_true.1 hwa i (List.mem_range.2 hlt)
            have e1 : Nat.beq i (ja + 1) = true := by rw [show ja + 1 = i by omega]; exact Nat.beq_refl i
            rw [e1] at h2
            exact wt_listed I.cl hpre (by simpa using h2) (Ne.symm hij)
          obtain ⟨g, hg, rfl⟩ := hexa hjl (by omega)
          have hfr2 : Holds n D a ((da, .pointer (some ⟨g, 0, none⟩)) :: frP (mgd os i (pend ++ cur)) fr) := by
            refine ⟨hfrm.1, hfrm.2.1, fun t u hu' => ?_⟩
            simp only [lk] at hu'
            cases hb : Nat.beq da t with
            | true => rw [hb] at hu'; have := Nat.eq_of_beq_eq_true hb; subst this; simp only [cond_true, Option.some.injEq] at hu'; subst hu'; exact hg
            | false => rw [hb] at hu'; exact hfrm.2.2 t u hu'
          have hout2 : Out (QA g z T :: l) U w0 w := hout.ent fun w U hs => by
            obtain ⟨V, hV, h1, h2⟩ := Sat.split hs
            have h3 : Sat w ([QA g z T] ++ l) U := by
              obtain ⟨V2, hV2, h4, h5⟩ := Sat.split (l := [QA g z T]) (m := []) (by simpa using h2)
              refine Sat.join (V := V2) h4 (fun b hb => (hV2 b hb).1.1) ?_
              exact h1.mono fun b hb => ⟨(hV b hb).1, fun x => (hV2 b x).1.2 hb⟩
            exact h3
          refine step_op (R := fun fr' l' => ∃ fb', GrF o fr' fb fb' ∧ GoR P n D os.toArray os fb' fB ja da z T Q ss' (i + 1) (rmd os i (pend ++ cur)) all (Yt (ZT os (i + 1) (rmd os i (pend ++ cur))) fr') l') ho' (hwp g) hfr2 hout2 ?_
          rintro a' w' fr' l' v rfl ⟨fb', hgr, hgo⟩ hh' ho3
          refine next _ w' fr' fb' l' [] v hgr rfl hreg hgo hh' (by simpa using ho3) (fun _ => hjl) (fun h1 h2 => by omega)

theorem Yi {N i : Nat} : (Array.replicate N false).getD i false = false := by
  simp [Array.getD]
theorem drawG_go {os : List Oper} (ja da : Nat) (z : List Value) (T : Nat) (ss : List (Nat × Bool)) (hok : okG os ja da ss = true)
    (hal : ∀ o, os[ja]? = some o → WpL P n D os.toArray [o] (fun e D' fr' l' => e = .normal ∧ D' = D ∧ ∃ g, lk fr' da = some (.pointer (some ⟨g, 0, none⟩)) ∧ Ent l' [QA g z T]) [] [])
    (go : GoR P n D os.toArray os (Yt (os.filterMap (·.dst)) fr) fB ja da z T Q ss 0 [] [] (Yt (os.filterMap (·.dst)) fr) l) : ∀ a w U, Holds n D a fr → Sat w l U → wpAnyIn (FR n.ro) 0 P .any os.toArray (After n Q U w) os.toArray.size (Array.replicate os.toArray.size false) a { w with drawn := w.drawn + 1 } := by
  intro a w U hh hs
  obtain ⟨cur, hkp, hci, hcj, hco, G⟩ := go.open
  have hcr : ∀ p ∈ cur, 0 ≤ p.i ∧ p.i < 0 + segN os.length ss 0 := fun p hp => by
    have : p.i ∈ cur.map (·.i) := List.mem_map.2 ⟨p, hp, rfl⟩
    rw [hci, List.mem_range'_1] at this
    exact this
  have hsg := seg_mfirst (N := os.length) (i := 0) (Nat.zero_le _) ss
  have hout : Out (l ++ []) U w { w with drawn := w.drawn + 1 } := ⟨by
    rw [List.append_nil]
    exact (Sat.keep (w := w) (w' := { w with drawn := w.drawn + 1 }) (Nat.le_refl _) hs fun _ _ _ => rfl).mono fun _ hb => .inl hb, ⟨rfl, rfl, rfl, Nat.le_refl _, fun _ _ _ => rfl⟩⟩
  refine drawG_any hok hal (w0 := w) (U := U) _ _ a _ ?_ _ ss 0 [] cur ([] ++ cur) _ l (fun _ h => h) ?_ G
  · simpa using unl_le (listed := Array.replicate os.length false) os.length
  · exact {
      size := by simp
      cl := fun i o _ hl => by simp only [List.size_toArray] at hl; rw [Yi] at hl; cases hl
      low := fun i hi => by omega
      high := fun i _ _ => by simp only [List.size_toArray]; exact Yi
      jal := fun h => by omega
      holds := hh.dropK _
      hb := hh.dropK _
      fbf := fun t v hv i o ho hd => by
        obtain ⟨_, hn⟩ := Y2 hv
        exact absurd (List.mem_filterMap.2 ⟨o, List.mem_of_getElem? ho, hd⟩) hn
      vals := fun p _ hl => by simp only [List.size_toArray] at hl; rw [Yi] at hl; cases hl
      ex := ⟨[], hout, fun hl => by simp only [List.size_toArray] at hl; rw [Yi] at hl; cases hl⟩
      fresh := fun t v hv i o ho hd => by
        obtain ⟨_, hn⟩ := Y2 hv
        exact absurd (List.mem_filterMap.2 ⟨o, List.mem_of_getElem? ho, hd⟩) hn
      sub := fun p hp => hp
      plt := fun p hp => by cases hp
      clt := fun p hp => by have := hcr p hp; exact ⟨this.1, by omega⟩
      obs := fun p hp => ⟨_, _, fun q hq => hq, fun _ _ h => h, hco p hp⟩
      idx := fun p hp => by obtain ⟨o', h1, h2, _⟩ := hco p hp; exact ⟨o', h1, h2⟩
      nja := fun p hp e => by
        have := List.all_eq_true.1 hcj p hp
        rw [e] at this; simp at this
      un := fun p hp q hq e => by
        refine map_un (f := (·.i)) ?_ p hp q hq e
        rw [List.nil_append, hci]; exact List.nodup_range'
      alt := fun p hp => by have := hcr p hp; omega
      kle := Nat.zero_le _
      kp := hkp }
def YX : List Nat → Nat → Nat
  | [], _ => 0
  | p :: ps, i => cond (Nat.beq p i) 0 (YX ps i + 1)
def renO (π : List Nat) (o : Oper) : Oper := { o with after := (o.after.toList.map fun e => { e with on := YX π e.on }).toArray, guard := o.guard.map fun p => (YX π p.1, p.2) }
def Y3 (os : List Oper) (π : List Nat) : List Oper := π.map fun i => renO π (os.getD i default)
def permOk (N : Nat) (π : List Nat) : Bool := Nat.beq π.length N && (π.all fun i => Nat.blt i N) && ((List.range N).all fun i => Nat.blt (YX π i) N) && okDs [] π
theorem posL_get : ∀ {π : List Nat} {i : Nat}, YX π i < π.length → π[YX π i]? = some i
  | [], i, h => by simp [YX] at h
  | p :: ps, i, h => by
    simp only [YX] at h ⊢
    cases hb : Nat.beq p i with
    | true => rw [Nat.eq_of_beq_eq_true hb]; rfl
    | false => rw [hb] at h; simp only [cond_false, List.length_cons] at h ⊢; rw [List.getElem?_cons_succ]; exact posL_get (by omega)
theorem posL_out : ∀ {π : List Nat} {i : Nat}, i ∉ π → YX π i = π.length
  | [], _, _ => rfl
  | p :: ps, i, h => by
    simp only [List.mem_cons, not_or] at h
    simp only [YX]
    cases hb : Nat.beq p i with
    | true => exact absurd (Nat.eq_of_beq_eq_true hb).symm h.1
    | false => simp only [cond_false, List.length_cons]; rw [posL_out h.2]
theorem posL_at : ∀ {π : List Nat}, okDs [] π = true → ∀ {j i : Nat}, π[j]? = some i → YX π i = j
  | [], _, j, i, h => by simp at h
  | p :: ps, hd, j, i, h => by
    simp only [okDs, Bool.and_eq_true, Bool.not_eq_true', List.contains_eq_mem, decide_eq_false_iff_not] at hd
    simp only [YX]
    cases j with
    | zero => simp at h; subst h; simp
    | succ j =>
      rw [List.getElem?_cons_succ] at h
      have hm := List.mem_of_getElem? h
      cases hb : Nat.beq p i with
      | true => exact absurd (by rw [Nat.eq_of_beq_eq_true hb]; exact hm) hd.1.1
      | false => simp only [cond_false]; rw [posL_at hd.2 h]
structure PermF (os : List Oper) (π : List Nat) : Prop where
  len : (Y3 os π).length = os.length
  get : ∀ i o, os[i]? = some o → (Y3 os π)[YX π i]? = some (renO π o)
  lt : ∀ i, i < os.length → YX π i < os.length
  out : ∀ i, os.length ≤ i → YX π i = os.length
  inv : ∀ j, j < os.length → ∃ i, i < os.length ∧ YX π i = j
  inj : ∀ i j, i < os.length → YX π i = YX π j → i = j
theorem permF {os : List Oper} {π : List Nat} (h : permOk os.length π = true) : PermF os π := by
  simp only [permOk, Bool.and_eq_true] at h
  obtain ⟨⟨⟨h1, h2⟩, h3⟩, h4⟩ := h
  have hl := Nat.eq_of_beq_eq_true h1
  have hlt : ∀ i ∈ π, i < os.length := fun i hi => Eq.mp Nat.blt_eq (List.all_eq_true.1 h2 i hi)
  have hpos : ∀ i, i < os.length → YX π i < os.length := fun i hi => Eq.mp Nat.blt_eq (List.all_eq_true.1 h3 i (List.mem_range.2 hi))
  have hout : ∀ i, os.length ≤ i → YX π i = os.length := fun i hi => by rw [posL_out fun hm => by have := hlt i hm; omega, hl]
  refine ⟨by simp [Y3, hl], fun i o ho => ?_, hpos, hout, fun j hj => ?_, fun i j hi he => ?_⟩
  · have hi := (List.getElem?_eq_some_iff.1 ho).1
    unfold Y3
    rw [List.getElem?_map, posL_get (by rw [hl]; exact hpos i hi)]
    simp [ho]
  · have hj2 : j < π.length := by rw [hl]; exact hj
    exact ⟨π[j], hlt _ (List.getElem_mem hj2), posL_at h4 (List.getElem?_eq_getElem hj2)⟩
  · rcases Nat.lt_or_ge j os.length with hj | hj
    · have e1 := posL_get (π := π) (i := i) (by rw [hl]; exact hpos i hi)
      have e2 := posL_get (π := π) (i := j) (by rw [hl]; exact hpos j hj)
      rw [he, e2] at e1
      injection e1 with e1
      exact e1.symm
    · have := hpos i hi
      rw [he, hout j hj] at this
      omega
theorem yielded_perm {os : List Oper} {π : List Nat} (hp : PermF os π) (tmps : Array Value) (j : Nat) : yielded (Y3 os π).toArray tmps (YX π j) = yielded os.toArray tmps j := by
  have e : ((Y3 os π).toArray[YX π j]?).bind (·.dst) = (os.toArray[j]?).bind (·.dst) := by
    simp only [List.getElem?_toArray]
    rcases Nat.lt_or_ge j os.length with h | h
    · rw [hp.get j _ (List.getElem?_eq_getElem h), List.getElem?_eq_getElem h]; rfl
    · rw [hp.out j h, List.getElem?_eq_none (by rw [hp.len]; exact Nat.le_refl _), List.getElem?_eq_none h]
  unfold yielded
  rw [e]
theorem any_perm {F : Fence} {k : Nat} {os : List Oper} {π : List Nat} {QQ : Exit → Act → World → Prop} (hp : PermF os π) : ∀ (fuel : Nat) (listed listed' : Array Bool) (a : Act) (w : World), listed.size = os.length → listed'.size = os.length →
    (∀ i, listed'.getD (YX π i) false = listed.getD i false) → wpAnyIn F k P .any (Y3 os π).toArray QQ fuel listed' a w → wpAnyIn F k P .any os.toArray QQ fuel listed a w := by
  have hrdy : ∀ (listed listed' : Array Bool), listed.size = os.length → listed'.size = os.length → (∀ i, listed'.getD (YX π i) false = listed.getD i false) → ∀ i, i < os.length → (i ∈ Region.ready .any os.toArray listed ↔ YX π i ∈ Region.ready .any (Y3 os π).toArray listed') := by
    intro listed listed' hs hs' hl i hi
    have hgt : listed'.getD (YX π i) true = listed.getD i true := by
      have := hl i
      have h2 := hp.lt i hi
      simp only [Array.getD, hs, hs', hi, h2, dite_true] at this ⊢
      exact this
    rw [mem_ready, mem_ready, hgt]
    constructor
    · rintro ⟨h1, o, ho, he⟩
      refine ⟨h1, renO π o, by rw [List.getElem?_toArray]; exact hp.get i o (by simpa using ho), fun e hee hb => ?_⟩
      simp only [renO, List.mem_toArray, List.mem_map] at hee
      obtain ⟨e0, he0, rfl⟩ := hee
      rw [hl]
      exact he e0 (Array.mem_toList_iff.1 he0) hb
    · rintro ⟨h1, o', ho', he⟩
      have ho : os[i]? = some os[i] := List.getElem?_eq_getElem hi
      rw [List.getElem?_toArray, hp.get i _ ho] at ho'
      injection ho' with ho'
      subst ho'
      refine ⟨h1, os[i], by simp [ho], fun e hee hb => ?_⟩
      rw [← hl]
      exact he { e with on := YX π e.on } (by simp only [renO, List.mem_toArray, List.mem_map]; exact ⟨e, Array.mem_toList_iff.2 hee, rfl⟩) hb
  have hnil : ∀ (listed listed' : Array Bool), listed.size = os.length → listed'.size = os.length → (∀ i, listed'.getD (YX π i) false = listed.getD i false) → Region.ready .any os.toArray listed = [] → Region.ready .any (Y3 os π).toArray listed' = [] := by
    intro listed listed' hs hs' hl hr
    refine List.eq_nil_iff_forall_not_mem.2 fun j hj => ?_
    have hjl : j < os.length := by
      obtain ⟨_, o, ho, _⟩ := mem_ready.1 hj
      have := (Array.getElem?_eq_some_iff.1 ho).1
      simpa [hp.len] using this
    obtain ⟨i, hi, rfl⟩ := hp.inv j hjl
    have := (hrdy listed listed' hs hs' hl i hi).2 hj
    rw [hr] at this; cases this
  intro fuel
  induction fuel with
  | zero =>
    intro listed listed' a w hs hs' hl h
    obtain ⟨h1, h2⟩ := h
    refine ⟨List.eq_nil_iff_forall_not_mem.2 fun i hi => ?_, h2⟩
    have hil : i < os.length := by
      obtain ⟨_, o, ho, _⟩ := mem_ready.1 hi
      simpa using (Array.getElem?_eq_some_iff.1 ho).1
    have := (hrdy listed listed' hs hs' hl i hil).1 hi
    rw [h1] at this; cases this
  | succ fuel ih =>
    intro listed listed' a w hs hs' hl h
    obtain ⟨h1, h2⟩ := h
    refine ⟨fun hr => h1 (hnil listed listed' hs hs' hl hr), fun i hi => ?_⟩
    obtain ⟨_, o, ho, _⟩ := mem_ready.1 hi
    have hil : i < os.length := by simpa using (Array.getElem?_eq_some_iff.1 ho).1
    have hoi : os[i]? = some o := by simpa using ho
    have h3 := h2 _ ((hrdy listed listed' hs hs' hl i hil).1 hi)
    unfold wpOpIn at h3 ⊢
    have hpo : (Y3 os π).toArray[YX π i]? = some (renO π o) := by rw [List.getElem?_toArray]; exact hp.get i o hoi
    rw [hpo] at h3
    rw [ho]
    have hw : Region.wanted (renO π o) (yielded (Y3 os π).toArray a.tmps) = Region.wanted o (yielded os.toArray a.tmps) := by
      cases hg : o.guard with
      | none => simp [Region.wanted, renO, hg]
      | some p => obtain ⟨j, b⟩ := p; simp [Region.wanted, renO, hg, yielded_perm hp]
    have hk : ∀ a w, wpAnyIn F k P .any (Y3 os π).toArray QQ fuel (listed'.setIfInBounds (YX π i) true) a w → wpAnyIn F k P .any os.toArray QQ fuel (listed.setIfInBounds i true) a w := fun a w hh => by
      refine ih _ _ a w (by simpa using hs) (by simpa using hs') (fun j => ?_) hh
      rw [Yu (by rw [hs']; exact hp.lt i hil), Yu (by rw [hs]; exact hil)]
      by_cases e : i = j
      · subst e; simp
      · rw [if_neg e, if_neg fun e2 => e (hp.inj i j hil e2)]
        exact hl j
    simp only at h3 ⊢
    rw [hw] at h3
    split
    · rename_i hwt
      rw [if_pos hwt] at h3
      exact Oper.wpIn_mono hk h3
    · rename_i hwt
      rw [if_neg hwt] at h3
      exact ⟨h3.1, hk _ _ h3.2⟩
theorem Wp.drawG {id : Nat} {os : List Oper} (hm : P.follows .mixedOrders = true) (ja da : Nat) (z : List Value) (T : Nat) (ss : List (Nat × Bool)) (hok : okG os ja da ss = true)
    (hal : ∀ o, os[ja]? = some o → WpL P n D os.toArray [o] (fun e D' fr' l' => e = .normal ∧ D' = D ∧ ∃ g, lk fr' da = some (.pointer (some ⟨g, 0, none⟩)) ∧ Ent l' [QA g z T]) [] [])
    (go : GoR P n D os.toArray os (Yt (os.filterMap (·.dst)) fr) fB ja da z T Q ss 0 [] [] (Yt (os.filterMap (·.dst)) fr) l) : Wp P n D (.region id os.toArray true) Q fr l := fun a w U hh hs =>
  wpIn_region_any hm (drawG_go ja da z T ss hok hal go a w U hh hs)
/-- os: the operations as they are; they are told in π's order. -/
theorem X8 {id : Nat} {os : List Oper} (π ds0 : List Nat) (N : Nat) (hm : P.follows .mixedOrders = true) (hπ : permOk os.length π = true) (ss : List (Nat × Bool)) (hok : okG (Y3 os π) (Y3 os π).length 0 ss = true) (hds : (Y3 os π).filterMap (·.dst) = ds0) (hN : (Y3 os π).length = N)
    (go : GoR P n D (Y3 os π).toArray (Y3 os π) (Yt ds0 fr) fB N 0 [] 0 Q ss 0 [] [] (Yt ds0 fr) l) : Wp P n D (.region id os.toArray true) Q fr l := fun a w U hh hs => by
  have hp := permF hπ
  subst hds; subst hN
  have h := drawG_go (os := Y3 os π) _ 0 [] 0 ss hok (fun o ho => by simp at ho) go a w U hh hs
  refine wpIn_region_any hm ?_
  simp only [List.size_toArray, hp.len] at h ⊢
  refine any_perm hp _ _ _ a _ (by simp) (by simp) (fun i => ?_) h
  rw [Yi, Yi]
theorem Xs {id : Nat} {os : List Oper} (hm : P.follows .mixedOrders = true) (ss : List (Nat × Bool)) (hok : okG os os.length 0 ss = true)
    (go : GoR P n D os.toArray os (Yt (os.filterMap (·.dst)) fr) fB os.length 0 [] 0 Q ss 0 [] [] (Yt (os.filterMap (·.dst)) fr) l) : Wp P n D (.region id os.toArray true) Q fr l :=
  Wp.drawG hm os.length 0 [] 0 ss hok (fun o ho => by simp at ho) go
theorem Wp.drawGA {id : Nat} {os : List Oper} (hm : P.follows .mixedOrders = true) (ja : Nat) (ss : List (Nat × Bool)) {da T ty : Nat} {pos : String} {aft : Array Edge} {z : List Value} (hj : os[ja]? = some ⟨some da, .alloc T, ty, pos, aft, none⟩) (hd : Nat.blt da n = true) [ZeroT P T z] (hok : okG os ja da ss = true)
    (go : GoR P n D os.toArray os (Yt (os.filterMap (·.dst)) fr) fB ja da z T Q ss 0 [] [] (Yt (os.filterMap (·.dst)) fr) l) : Wp P n D (.region id os.toArray true) Q fr l :=
  Wp.drawG hm ja da z T ss hok (fun o ho => by
    rw [hj] at ho; cases ho
    exact YE hd fun g => WpL.nil ⟨rfl, rfl, g, by simp [lk], Ent.refl _⟩) go
/-- Floats, one by one. -/
def AllF (P : Program) (n : Cx) (D : List Deferred) (ops : Array Oper) (os : List Oper) (fb : Fr) (fB : List HP) (all : List Fl) (fr : Fr) (l : List HP) (ps : List Fl) : Prop := ∀ p ∈ ps, obsF P n D ops os fb fB all fr l p
theorem AllF.nil {ops : Array Oper} {os : List Oper} {all : List Fl} : AllF P n D ops os fb fB all fr l [] := fun _ h => by cases h
theorem AllF.cons {ops : Array Oper} {os : List Oper} {all ps : List Fl} {p : Fl} {o : Oper} (ho : os[p.i]? = some o) (hd : o.dst = some p.d) (he : (p.ds.all fun j => edge os p.i j) = true) (hr : p.reg = false)
    (h : WpL P n D ops [o] (obQ D p.d p.v l) (depP all fr p.ds) l) (t : AllF P n D ops os fb fB all fr l ps) : AllF P n D ops os fb fB all fr l (p :: ps) := fun q hq => by
  rcases List.mem_cons.1 hq with rfl | hq
  · exact ⟨o, ho, hd, fun j hj => List.all_eq_true.1 he j hj, by rw [hr]; exact h⟩
  · exact t q hq
theorem Qp {ops : Array Oper} {os : List Oper} {all ps : List Fl} {p : Fl} (i : Nat) (ds : List Nat) {o : Oper} (hi : p.i = i) (hds : p.ds = ds) (ho : os[i]? = some o) (hd : o.dst = some p.d) (he : (ds.all fun j => edge os i j) = true) (hr : p.reg = false)
    (h : WpL P n D ops [o] (obQ D p.d p.v l) (depP all fr ds) l) (t : AllF P n D ops os fb fB all fr l ps) : AllF P n D ops os fb fB all fr l (p :: ps) := by
  subst hi; subst hds
  exact AllF.cons ho hd he hr h t
theorem XQ {ops : Array Oper} {os : List Oper} {all ps : List Fl} {p : Fl} {o : Oper} (ho : os[p.i]? = some o) (hd : o.dst = some p.d) (he : (p.ds.all fun j => edge os p.i j) = true) (hr : p.reg = true)
    (h : WpL P n D ops [o] (obQ D p.d p.v fB) (depP all fb p.ds) fB) (t : AllF P n D ops os fb fB all fr l ps) : AllF P n D ops os fb fB all fr l (p :: ps) := fun q hq => by
  rcases List.mem_cons.1 hq with rfl | hq
  · exact ⟨o, ho, hd, fun j hj => List.all_eq_true.1 he j hj, by rw [hr]; exact h⟩
  · exact t q hq
theorem Qw {ops : Array Oper} {os : List Oper} {all ps : List Fl} {p : Fl} (i : Nat) (ds : List Nat) {o : Oper} (hi : p.i = i) (hds : p.ds = ds) (ho : os[i]? = some o) (hd : o.dst = some p.d) (he : (ds.all fun j => edge os i j) = true) (hr : p.reg = true)
    (h : WpL P n D ops [o] (obQ D p.d p.v fB) (depP all fb ds) fB) (t : AllF P n D ops os fb fB all fr l ps) : AllF P n D ops os fb fB all fr l (p :: ps) := by
  subst hi; subst hds
  exact XQ ho hd he hr h t
def selP (is : List Nat) : List Fl → List Fl
  | [] => []
  | p :: ps => cond (inL p.i is) (p :: selP is ps) (selP is ps)
def remP (is : List Nat) : List Fl → List Fl
  | [] => []
  | p :: ps => cond (inL p.i is) (remP is ps) (p :: remP is ps)
theorem mgd_sel {os : List Oper} {m : Nat} {is : List Nat} : ∀ {ps : List Fl}, ((ps.map (·.i)).all fun i => wt os m i == inL i is) = true → mgd os m ps = selP is ps ∧ rmd os m ps = remP is ps
  | [], _ => ⟨rfl, rfl⟩
  | p :: ps, h => by
    simp only [List.map_cons, List.all_cons, Bool.and_eq_true, beq_iff_eq] at h
    obtain ⟨h1, h2⟩ := mgd_sel (ps := ps) h.2
    simp only [mgd, rmd, selP, remP, h.1, h1, h2]
    exact ⟨by trivial, by trivial⟩
theorem GoR.nil {ops : Array Oper} {os : List Oper} {ja da : Nat} {z : List Value} {T k : Nat} {pend all : List Fl} (cur : List Fl) (hB : KeepR l fB (pend ++ cur)) (h1 : cur.map (·.i) = List.range' k (os.length - k)) (h2 : (cur.all fun p => !Nat.beq p.i ja) = true) (h3 : AllF P n D ops os fb fB (all ++ cur) fr l cur)
    (h4 : Q .normal D (frP (pend ++ cur) fr) l) : GoR P n D ops os fb fB ja da z T Q [] k pend all fr l := ⟨cur, hB, h1, h2, h3, h4⟩
/-- is: whom the next one in the row waits for; ds: the slots of those behind it. -/
theorem Xk {ops : Array Oper} {os : List Oper} {ja da : Nat} {z : List Value} {T k nf : Nat} {ss : List (Nat × Bool)} {pend all : List Fl} (cur : List Fl) (pi is ds : List Nat) {o : Oper} (hB : KeepR l fB (pend ++ cur)) (hp : pend.map (·.i) = pi) (h1 : cur.map (·.i) = List.range' k nf) (h2 : (cur.all fun p => !Nat.beq p.i ja) = true)
    (his : ((pi ++ List.range' k nf).all fun i => wt os (k + nf) i == inL i is) = true) (hr : (remP is (pend ++ cur)).all (·.reg) = true) (hds : ZT os (k + nf + 1) (remP is (pend ++ cur)) = ds) (ho : os[k + nf]? = some o)
    (h3 : AllF P n D ops os fb fB (all ++ cur) fr l cur)
    (h4 : WpL P n D ops [o] (fun e D' fr' l' => e = .normal ∧ D' = D ∧ GoR P n D ops os fb fB ja da z T Q ss (k + nf + 1) (remP is (pend ++ cur)) (all ++ cur) (Yt ds fr') l') (frP (selP is (pend ++ cur)) fr) l) :
    GoR P n D ops os fb fB ja da z T Q ((nf, false) :: ss) k pend all fr l := by
  rw [← h1, ← hp, ← List.map_append] at his
  obtain ⟨e1, e2⟩ := mgd_sel his
  subst hds
  rw [← e1] at h4
  rw [← e2] at hr h4
  exact ⟨cur, hB, h1, h2, h3, hr, o, ho, fun a w U hh hs => Yk (fun e a' w' ⟨D', fr', l', ⟨q1, q2, q3⟩, hh', ho'⟩ => ⟨D', fr', l', ⟨q1, q2, _, .inl rfl, q3⟩, hh', ho'⟩) _ a w (h4 a w U hh hs)⟩
theorem Xe {ops : Array Oper} {os : List Oper} {ja da : Nat} {z : List Value} {T k nf : Nat} {ss : List (Nat × Bool)} {pend all : List Fl} (cur : List Fl) (pi is d1 ds : List Nat) {o : Oper} (hB : KeepR l fB (pend ++ cur)) (hp : pend.map (·.i) = pi) (h1 : cur.map (·.i) = List.range' k nf) (h2 : (cur.all fun p => !Nat.beq p.i ja) = true)
    (his : ((pi ++ List.range' k nf).all fun i => wt os (k + nf) i == inL i is) = true) (hr : (remP is (pend ++ cur)).all (·.reg) = true) (hd1 : (os.drop (k + nf + 1)).filterMap (·.dst) = d1) (hds : d1 ++ (remP is (pend ++ cur)).map (·.d) = ds) (ho : os[k + nf]? = some o)
    (h3 : AllF P n D ops os fb fB (all ++ cur) fr l cur)
    (h4 : WpL P n D ops [o] (fun e D' fr' l' => e = .normal ∧ D' = D ∧ GoR P n D ops os fb fB ja da z T Q ss (k + nf + 1) (remP is (pend ++ cur)) (all ++ cur) (Yt ds fr') l') (frP (selP is (pend ++ cur)) fr) l) :
    GoR P n D ops os fb fB ja da z T Q ((nf, false) :: ss) k pend all fr l := Xk cur pi is ds hB hp h1 h2 his hr (by unfold ZT; rw [hd1]; exact hds) ho h3 h4
theorem X7 {ops : Array Oper} {os : List Oper} {ja da : Nat} {z : List Value} {T k : Nat} {pend all : List Fl} (cur : List Fl) (N : Nat) (hN : os.length = N) (hB : KeepR l fB (pend ++ cur)) (h1 : cur.map (·.i) = List.range' k (N - k)) (h2 : (cur.all fun p => !Nat.beq p.i ja) = true) (h3 : AllF P n D ops os fb fB (all ++ cur) fr l cur)
    (h4 : Q .normal D (frP (pend ++ cur) fr) l) : GoR P n D ops os fb fB ja da z T Q [] k pend all fr l := GoR.nil cur hB (by rw [hN]; exact h1) h2 h3 h4
theorem GoR.segT {ops : Array Oper} {os : List Oper} {ja da : Nat} {z : List Value} {T k nf : Nat} {ss : List (Nat × Bool)} {pend all : List Fl} (cur : List Fl) (pi is ds : List Nat) {o : Oper} (hB : KeepR l fB (pend ++ cur)) (hp : pend.map (·.i) = pi) (h1 : cur.map (·.i) = List.range' k nf) (h2 : (cur.all fun p => !Nat.beq p.i ja) = true)
    (his : ((pi ++ List.range' k nf).all fun i => wt os (k + nf + 1) i == inL i is) = true) (hr : (remP is (pend ++ cur)).all (·.reg) = true) (hds : ZT os (k + nf + 2) (remP is (pend ++ cur)) = ds) (hj : ja = k + nf) (ho : os[k + nf + 1]? = some o)
    (h3 : AllF P n D ops os fb fB (all ++ cur) fr l cur)
    (h4 : ∀ g, WpL P n D ops [o] (fun e D' fr' l' => e = .normal ∧ D' = D ∧ GoR P n D ops os fb fB ja da z T Q ss (k + nf + 2) (remP is (pend ++ cur)) (all ++ cur) (Yt ds fr') l') ((da, .pointer (some ⟨g, 0, none⟩)) :: frP (selP is (pend ++ cur)) fr) (QA g z T :: l)) :
    GoR P n D ops os fb fB ja da z T Q ((nf, true) :: ss) k pend all fr l := by
  rw [← h1, ← hp, ← List.map_append] at his
  obtain ⟨e1, e2⟩ := mgd_sel his
  subst hds
  rw [← e1] at h4
  rw [← e2] at hr h4
  exact ⟨cur, hB, h1, h2, h3, hr, hj, o, ho, fun g a w U hh hs => Yk (fun e a' w' ⟨D', fr', l', ⟨q1, q2, q3⟩, hh', ho'⟩ => ⟨D', fr', l', ⟨q1, q2, _, .inl rfl, q3⟩, hh', ho'⟩) _ a w (h4 g a w U hh hs)⟩
end
end Go.Proofs.YtggamdlpiejbiaaGreat
