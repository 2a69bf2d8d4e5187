/- A range over a function: what a call of yield does, what an iterator must do, and the loop. -/
import Derived.Test.YtpoahaadnbdgcaaLoop
namespace Go.Proofs.Ytpoahaadnbdgcaa
open Go.RowKit Go.Shelf

/-- yield, called so, with these parts at hand. -/
def Yld (P : Program) (y : Nat) (args : Array Value) (pre : List HP) (R : Value → List HP → Prop) : Prop :=
  ∀ (w : World) (U : Nat → Prop), Sat w pre U → YieldAt (FR none) 0 P y args w fun e w' => ∃ v l, e = .returned v ∧ R v l ∧ Out l U w w'
/-- What a round answers: on, or no more. -/
def rdR (J Jx : Nat → List HP → Prop) (k : Nat) : Value → List HP → Prop := fun v m => (v = .bool true ∧ J (k + 1) m) ∨ (v = .bool false ∧ Jx k m)
/-- An iterator that tells xs: whatever the rounds keep. -/
def Iter {α : Type} (P : Program) (gf : Nat) (lb : List Value) (encs : α → List Value) (xs : List α) (own own' : List HP) : Prop :=
  ∀ (y : Nat) (J Jx : Nat → List HP → Prop), (∀ k (h : k < xs.length) m, J k m → Yld P y (encs xs[k]).toArray m (rdR J Jx k)) →
    ∀ m, J 0 m → Fn P gf (.func (.yield y) #[] #[] :: lb).toArray (own ++ m) (fun _ l => ∃ m', (J xs.length m' ∨ ∃ k, k < xs.length ∧ Jx k m') ∧ l = own' ++ m')

theorem Take.app {m F : List HP} : ∀ {l : List HP}, l = m ++ F → Take l m F := by
  induction m with
  | nil => rintro l rfl; exact .nil
  | cons A m ih => rintro l rfl; exact .cons .here (ih rfl)
theorem take1_last (A : HP) : ∀ (l : List HP), Take1 (l ++ [A]) A l
  | [] => .here
  | _ :: l => .there (take1_last A l)
theorem Take.skip {A : HP} {l pre F : List HP} (h : Take l pre F) : Take (A :: l) pre (A :: F) := by
  induction h generalizing A with
  | nil => exact .nil
  | cons h1 _ ih => exact .cons (.there h1) ih

theorem Take.all {m : List HP} : Take m m [] := Take.app (by simp)
theorem Ent.comm {l m : List HP} : Ent (l ++ m) (m ++ l) := fun w U h => by
  obtain ⟨V, hV, h1, h2⟩ := h.split
  refine Sat.join (V := fun b => U b ∧ ¬ V b) h2 (fun b hb => hb.1) (h1.mono fun b hb => ⟨(hV b hb).1, fun x => x.2 hb⟩)
section
variable {P : Program} {n : Cx} {D : List Deferred} {ops : Array Oper} {rest : List Oper} {Q : Post} {fr gr : Fr} {l m : List HP} {ty : Nat} {pos : String} {aft : Array Edge}

theorem roundIn_FR {ro : Option Nat} {k y f : Nat} {tmps : Array Value} {x b : Code} {w : World} {R : Ending → World → Prop} (h : RoundIn (FR none) k P y f tmps x b w R) : RoundIn (FR ro) k P y f tmps x b w R := by
  cases ro with
  | none => exact h
  | some l => exact h
theorem s_yield {d y : Nat} {fo : Operand} {xs : List Operand} {vs u c : List Value} {at_ : Array Nat} {pre F : List HP} {R : Value → List HP → Prop} (hd : Nat.blt d n = true)
    (hf : ev fr fo = some (.func (.yield y) u.toArray c.toArray)) (hu : u = []) (hx : evs fr xs = some vs) (ht : Take l pre F) (h : Yld P y vs.toArray pre R)
    (k : ∀ v m, R v m → WpL P n D ops rest Q ((d, v) :: fr) (F ++ m)) : WpL P n D ops (⟨some d, .call ⟨.value fo, xs.toArray, at_⟩, ty, pos, aft, none⟩ :: rest) Q fr l := by
  intro a w U hh hs
  subst hu
  obtain ⟨V, hV, hfr⟩ := Out.frame (F := F) (ht.ent w U hs)
  obtain ⟨fn, tmps, asg, body, hy, hr⟩ := h w V hV
  refine wpListIn_plain rfl fun K hK => ?_
  unfold Oper.wpIn
  have e1 := hh.ev hf
  have e2 := evs_map hh xs vs hx
  have he : (execOp a.eval ⟨some d, .call ⟨.value fo, xs.toArray, at_⟩, ty, pos, aft, none⟩).run P w = .ok (.round y fn tmps asg body) w := by
    simp only [execOp, resolve, Deferred.ofValue, invoke, Sem.run_bind, e1, Sem.run_pure, Result.andThen_ok, List.map_toArray, e2]
    simpa using hy
  rw [sem_of_exec he (fun _ e => nomatch e)]
  refine ⟨fun _ _ => trivial, fun h => (by simp [Fence.wide] at h), roundIn_FR (RoundIn.mono hr ?_)⟩
  rintro e w' ⟨v, m, rfl, r, ho⟩
  exact hK _ _ ((k v m r).go (hh.put hd v) ((hfr m w' ho).ent Ent.comm))

/-- The slots of a round: the parameters ahead of those that were. -/
def parms : List Nat → List Value → Fr → Fr
  | p :: ps, v :: vs, fr => parms ps vs ((p, v) :: fr)
  | _, _, fr => fr
theorem parms_holds {y : Option Nat} : ∀ (ps : List Nat) (vs : List Value) (t : Array Value) (fr : Fr), Holds ⟨n.n, y⟩ [] { tmps := t, defers := [] } fr → (ps.all fun p => Nat.blt p n.n) = true →
    Holds ⟨n.n, y⟩ [] { tmps := (ps.zip vs).foldl (fun t (p, v) => t.setIfInBounds p v) t, defers := [] } (parms ps vs fr)
  | [], _, _, _, h, _ => h
  | _ :: _, [], _, _, h, _ => by simpa [parms] using h
  | p :: ps, v :: vs, t, fr, h, hp => by
    simp only [List.all_cons, Bool.and_eq_true] at hp
    simp only [List.zip_cons_cons, List.foldl_cons, parms]
    exact parms_holds ps vs _ _ (h.put (n := ⟨n.n, y⟩) hp.1 v) hp.2

/-- What a round's body hands on. -/
def rndQ (I : Nat → List HP → Prop) (Ix : Code → Nat → List HP → Prop) (k : Nat) : Post
  | .normal, _, _, l => ∃ m, I (k + 1) m ∧ Ent l m
  | .ret, _, _, l => ∃ m, Ix .ret k m ∧ Ent l m
  | .exit id, _, _, l => ∃ m, Ix (.exit id) k m ∧ Ent l m
  | _, _, _, _ => False
def asgQ (R : Fr → List HP → Prop) : Post := fun e D fr l => e = .normal ∧ D = [] ∧ R fr l

theorem Wp.rangeF {α : Type} {g : Operand} {ps : List Nat} {asg body : Code} {gf : Nat} {lb : List Value} {encs : α → List Value} {xs : List α} {own own' m0 : List HP} (hn : n.ro = none)
    (hg : ev fr g = some (.func (.func gf) #[] lb.toArray)) [he : Ent1 P gf] (hI : Iter P gf lb encs xs own own') (hps : ∀ x, (encs x).length = ps.length) (hpn : (ps.all fun p => Nat.blt p n.n) = true)
    (I : Nat → List HP → Prop) (Ix : Code → Nat → List HP → Prop) (h0 : I 0 m0) (hl : Ent l (m0 ++ own))
    (hb : ∀ y k (_ : k < xs.length) m, I k m → Wp P ⟨n.n, some y⟩ [] asg (asgQ fun gr l => Wp P ⟨n.n, some y⟩ [] body (rndQ I Ix k) gr l) (parms ps (encs xs[k]) fr) m)
    (hdone : ∀ q m, I xs.length m → Q .normal (mrk q :: D) fr (dfr q :: (m ++ own')))
    (hstop : ∀ q c k m, k < xs.length → Ix c k m → Wp P n (mrk q :: D) c Q fr (dfr q :: (m ++ own'))) :
    Wp P n D (.rangeFunc g ps.toArray asg body) Q fr l := by
  obtain ⟨nn, ro⟩ := n
  change ro = none at hn
  subst hn
  intro a w U hh hs
  refine wpIn_rangeFunc fun fn hfn => ?_
  obtain ⟨rec, hrec⟩ : ∃ rec : LoopState → Option Code → Loop, rec = fun st pe => { state := st, pending := pe, fn, tmps := a.tmps, params := ps.toArray, assign := asg, body, defers := w.heap.size } := ⟨_, rfl⟩
  obtain ⟨W1, hW1⟩ : ∃ W1, (w.alloc (.deferred (some []))).alloc (.loop (rec .ready none)) = W1 := ⟨_, rfl⟩
  have o1 := ob_new (hl w U hs) (.deferred (some []))
  have o2 := o1.then (ob_new o1.1 (.loop (rec .ready none)))
  rw [World.size_alloc, hW1] at o2
  have o3 : Out ((ob (w.heap.size + 1) (.loop (rec .ready none)) :: m0) ++ (own ++ [dfr w.heap.size])) U w W1 := by
    refine o2.ent ?_
    refine Ent.cons ?_
    refine (Take.ent (pre := m0 ++ own) (k := [dfr w.heap.size]) ?_).trans ?_
    · exact Take.skip (Take.app (by simp))
    · simp only [List.append_assoc]; exact Ent.refl _
  refine ⟨w.heap.size + 1, [mrk w.heap.size], W1, { target := .fn (.func gf) lb.toArray, args := #[.func (.yield (w.heap.size + 1)) #[] #[]] }, W1, gf,
    #[.func (.yield (w.heap.size + 1)) #[] #[]] ++ lb.toArray, W1, ?_, ?_, fun _ _ => trivial, ?_, fun h => (by simp [Fence.wide] at h), ?_⟩
  · rw [← hW1, hrec]; exact run_enterLoop_outer _ _ _ _ _
  · have e1 := hh.ev hg
    simp only [resolve, e1]
    simp [Deferred.ofValue, Act.eval]
  · have := he.run (#[.func (.yield (w.heap.size + 1)) #[] #[]] ++ lb.toArray) W1
    simpa [invoke] using this
  · -- the iterator, over what the rounds keep
    obtain ⟨V, hV, hfr⟩ := Out.frame (F := [dfr w.heap.size]) (by have := o3.1; simp only [← List.append_assoc] at this ⊢; exact this)
    have hit := hI (w.heap.size + 1) (fun k m => ∃ mi, I k mi ∧ m = ob (w.heap.size + 1) (.loop (rec .ready none)) :: mi) (fun k m => ∃ c mi, Ix c k mi ∧ m = ob (w.heap.size + 1) (.loop (rec .done (some c))) :: mi)
      ?_ _ ⟨m0, h0, rfl⟩ W1 V (Ent.comm _ _ hV)
    · have hit' := hit
      rw [show ((.func (.yield (w.heap.size + 1)) #[] #[] :: lb).toArray : Array Value) = #[.func (.yield (w.heap.size + 1)) #[] #[]] ++ lb.toArray from by simp] at hit'
      refine callsIn_FR (Calls.mono hit' ?_)
      rintro e W2 ⟨v, l2, rfl, ⟨m', hm', rfl⟩, ho0⟩
      have ho := ho0.ent (Ent.comm (l := own') (m := m'))
      have ho2 := o3.then (hfr _ _ ho)
      rcases hm' with ⟨mi, hi, rfl⟩ | ⟨k, hk, c, mi, hi, rfl⟩
      · have hs2 : Sat W2 (ob (w.heap.size + 1) (.loop (rec .ready none)) :: (mi ++ own' ++ [dfr w.heap.size])) (Grow U w) := by simpa using ho2.1
        have hend := run_endLoop (P := P) (ob_at hs2) (by rw [hrec]; simp)
        refine ⟨_, _, hend, ?_⟩
        have ho3 := ho2.then (ob_put (by simpa using ho2.1) (.loop { rec .ready none with state := .exhausted }))
        rw [hrec]
        refine ⟨_, fr, _, hdone w.heap.size mi hi, ⟨by rw [hh.1]; rfl, hh.2⟩, ?_⟩
        rw [hrec] at ho3
        refine ho3.ent (Ent.drop ?_)
        rw [← List.append_assoc]
        refine (Take.ent (l := mi ++ own' ++ [dfr w.heap.size]) (pre := [dfr w.heap.size]) (k := mi ++ own') (Take.cons ?_ .nil)).trans (Ent.refl _)
        exact take1_last _ _
      · have hs2 : Sat W2 (ob (w.heap.size + 1) (.loop (rec .done (some c))) :: (mi ++ own' ++ [dfr w.heap.size])) (Grow U w) := by simpa using ho2.1
        have hend := run_endLoop (P := P) (ob_at hs2) (by rw [hrec]; simp)
        refine ⟨_, _, hend, ?_⟩
        have ho3 := ho2.then (ob_put (by simpa using ho2.1) (.loop { rec .done (some c) with state := .exhausted }))
        rw [hrec] at ho3 ⊢
        have ho4 : Out (dfr w.heap.size :: (mi ++ own')) U w _ := ho3.ent (Ent.drop (by rw [← List.append_assoc]; exact (Take.ent (l := mi ++ own' ++ [dfr w.heap.size]) (pre := [dfr w.heap.size]) (k := mi ++ own') (Take.cons (take1_last _ _) .nil)).trans (Ent.refl _)))
        have := hstop w.heap.size c k mi hk hi { a with defers := [mrk w.heap.size] ++ a.defers } _ _ ⟨by rw [hh.1]; rfl, hh.2⟩ ho4.1
        exact Go.wpIn_mono this fun _ _ _ kk => kk.later ho4
    · -- one round
      rintro k hk m ⟨mi, hi, rfl⟩ W V' hs'
      have hy := run_yield (P := P) (args := (encs xs[k]).toArray) (ob_at hs') (by rw [hrec]; simpa using hps _)
      rw [hrec] at hy
      have key : ∀ (t : Array Value) (R : Ending → World → Prop), t = (ps.zip (encs xs[k])).foldl (fun t (p, v) => t.setIfInBounds p v) a.tmps → Code.wpIn (FR (some (w.heap.size + 1))) 0 P asg (Exit.then (fun a₁ w₁ => ∃ w₂, (Instr.beginRound (w.heap.size + 1)).run P w₁ = .ok () w₂ ∧ body.wpIn (FR (some (w.heap.size + 1))) 0 P (roundPost P (w.heap.size + 1) R) a₁ w₂) (fun _ _ _ => False)) { tmps := (ps.zip (encs xs[k])).foldl (fun t (p, v) => t.setIfInBounds p v) a.tmps, defers := [] } W → RoundIn (FR none) 0 P (w.heap.size + 1) fn t asg body W R := by
        rintro t R rfl h
        exact roundIn_of_wpIn (F := FR none) trivial h
      refine ⟨fn, _, asg, body, hy, key _ _ (by simp) ?_⟩
      have hpar : Holds ⟨nn, some (w.heap.size + 1)⟩ [] { tmps := (ps.zip (encs xs[k])).foldl (fun t (p, v) => t.setIfInBounds p v) a.tmps, defers := [] } (parms ps (encs xs[k]) fr) := parms_holds (n := ⟨nn, none⟩) ps _ a.tmps fr ⟨rfl, hh.2⟩ hpn
      obtain ⟨Va, hVa, hfa⟩ := Out.frame (pre := mi) (F := [ob (w.heap.size + 1) (.loop (rec .ready none))]) ((Take.ent (l := ob (w.heap.size + 1) (.loop (rec .ready none)) :: mi) (pre := mi) (k := [ob (w.heap.size + 1) (.loop (rec .ready none))]) (Take.skip (Take.app (by simp)))) W V' hs')
      have hasg := hb (w.heap.size + 1) k hk mi hi _ W Va (by simpa using hpar) hVa
      refine Go.wpIn_mono hasg ?_
      rintro e a1 w1 ⟨D1, fr1, l1, ⟨rfl, rfl, hbody⟩, hh1, ho1⟩
      have hq1 : Out (ob (w.heap.size + 1) (.loop (rec .ready none)) :: l1) V' W w1 := (hfa l1 w1 ho1).ent (Take.ent (l := l1 ++ [ob (w.heap.size + 1) (.loop (rec .ready none))]) (pre := [ob (w.heap.size + 1) (.loop (rec .ready none))]) (k := l1) (Take.cons (take1_last _ _) .nil))
      refine ⟨_, run_beginRound (ob_at hq1.1) (by rw [hrec]), ?_⟩
      have hq2 := hq1.then (ob_put hq1.1 (.loop { rec .ready none with state := .busy }))
      obtain ⟨Vb, hVb, hfb⟩ := Out.frame (pre := l1) (F := [ob (w.heap.size + 1) (.loop { rec .ready none with state := .busy })]) ((Take.ent (l := ob (w.heap.size + 1) (.loop { rec .ready none with state := .busy }) :: l1) (pre := l1) (k := [ob (w.heap.size + 1) (.loop { rec .ready none with state := .busy })]) (Take.skip (Take.app (by simp)))) _ _ hq2.1)
      refine Go.wpIn_mono (hbody a1 _ Vb hh1 hVb) ?_
      have fin : ∀ (jump : Option Code) (m2 l2 : List HP) (W3 : World), Ent l2 m2 → Out l2 Vb (w1.putObj (w.heap.size + 1) (.loop { rec .ready none with state := .busy })) W3 →
          ∃ W4, (Instr.endRound (w.heap.size + 1) jump).run P W3 = .ok (.bool jump.isNone) W4 ∧ Out (ob (w.heap.size + 1) (.loop (rec (if jump.isNone then .ready else .done) jump)) :: m2) V' W W4 := by
        intro jump m2 l2 W3 he2 ho3
        have h3 := hq2.then (hfb l2 W3 ho3)
        have h4 : Out (ob (w.heap.size + 1) (.loop { rec .ready none with state := .busy }) :: l2) V' W W3 := h3.ent (Take.ent (pre := [ob (w.heap.size + 1) (.loop { rec .ready none with state := .busy })]) (k := l2) (Take.cons (take1_last _ _) .nil))
        refine ⟨_, run_endRound jump (ob_at h4.1), ?_⟩
        have h5 := h4.then (ob_put h4.1 (.loop { rec .ready none with state := if jump.isNone then .ready else .done, pending := jump }))
        have h6 := h5.ent (Ent.cons he2)
        rw [hrec] at h6 ⊢
        exact h6
      rintro e a3 W3 ⟨D3, fr3, l3, q, hh3, ho3⟩
      cases e with
      | normal =>
        obtain ⟨m2, hi2, he2⟩ := q
        obtain ⟨W4, hr, ho4⟩ := fin none m2 l3 W3 he2 ho3
        exact ⟨_, W4, hr, _, _, rfl, .inl ⟨rfl, m2, hi2, rfl⟩, ho4⟩
      | ret =>
        obtain ⟨m2, hi2, he2⟩ := q
        obtain ⟨W4, hr, ho4⟩ := fin (some .ret) m2 l3 W3 he2 ho3
        exact ⟨_, W4, hr, _, _, rfl, .inr ⟨rfl, .ret, m2, hi2, rfl⟩, ho4⟩
      | exit id =>
        obtain ⟨m2, hi2, he2⟩ := q
        obtain ⟨W4, hr, ho4⟩ := fin (some (.exit id)) m2 l3 W3 he2 ho3
        exact ⟨_, W4, hr, _, _, rfl, .inr ⟨rfl, .exit id, m2, hi2, rfl⟩, ho4⟩
      | goto t => exact q.elim
      | panic ch => exact q.elim
      | outgrown => exact q.elim
end
end Go.Proofs.Ytpoahaadnbdgcaa
