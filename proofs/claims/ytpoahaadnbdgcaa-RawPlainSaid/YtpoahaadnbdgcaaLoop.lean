/- Loops that keep what they don't write; reading mapped lists. -/
import Derived.Test.YtpoahaadnbdgcaaDrawT
namespace Go.Proofs.Ytpoahaadnbdgcaa
open Go.RowKit Go.Shelf

/-- Slots of ds alone were turned. -/
inductive Top (ds : List Nat) (base : Fr) : Fr → Prop
  | refl : Top ds base base
  | push {t : Nat} {v : Value} {fr : Fr} : inL t ds = true → Top ds base fr → Top ds base ((t, v) :: fr)
  | drop {es : List Nat} {fr : Fr} : (es.all fun t => inL t ds) = true → Top ds base fr → Top ds base (dropK es fr)
theorem lk_dropK {es : List Nat} : ∀ {fr : Fr} {t : Nat} {v : Value}, lk fr t = some v → t ∉ es → lk (dropK es fr) t = some v
  | [], t, v, h, _ => by simp [lk] at h
  | (k, u) :: fr, t, v, h, hn => by
    simp only [lk] at h
    simp only [dropK]
    cases hb : Nat.beq k t with
    | true =>
      rw [hb] at h
      have := Nat.eq_of_beq_eq_true hb; subst this
      have hi : inL k es = false := by
        cases hx : inL k es
        · rfl
        · exact absurd (inL_eq.1 hx) hn
      rw [hi]; simp only [cond_false, lk, hb]; exact h
    | false =>
      rw [hb] at h
      have ih := lk_dropK (es := es) (fr := fr) h hn
      cases inL k es with
      | true => exact ih
      | false => simp only [cond_false, lk, hb]; exact ih
theorem Top.lk {ds : List Nat} {base fr : Fr} (h : Top ds base fr) {t : Nat} {v : Value} (hl : Go.Proofs.Ytpoahaadnbdgcaa.lk base t = some v) (hn : t ∉ ds) : Go.Proofs.Ytpoahaadnbdgcaa.lk fr t = some v := by
  induction h with
  | refl => exact hl
  | push hi _ ih =>
    rename_i k u fr' _
    simp only [Go.Proofs.Ytpoahaadnbdgcaa.lk]
    cases hb : Nat.beq k t with
    | true => have := Nat.eq_of_beq_eq_true hb; subst this; exact absurd (inL_eq.1 hi) hn
    | false => exact ih
  | drop he _ ih => exact lk_dropK ih fun hm => hn (inL_eq.1 (List.all_eq_true.1 he t hm))
theorem FrLe.of {fr : Fr} : ∀ {gr : Fr}, (∀ p ∈ gr, Go.Proofs.Ytpoahaadnbdgcaa.lk fr p.1 = some p.2) → FrLe fr gr
  | [], _ => trivial
  | p :: _, h => ⟨h p List.mem_cons_self, FrLe.of fun q hq => h q (List.mem_cons_of_mem _ hq)⟩
theorem FrLe.mem {fr : Fr} : ∀ {gr : Fr}, FrLe fr gr → ∀ p ∈ gr, Go.Proofs.Ytpoahaadnbdgcaa.lk fr p.1 = some p.2
  | q :: gr, h, p, hp => by
    rcases List.mem_cons.1 hp with rfl | hp
    · exact h.1
    · exact h.2.mem p hp
theorem lk_append {gr hr : Fr} {t : Nat} {v : Value} (h : lk (gr ++ hr) t = some v) : lk gr t = some v ∨ lk hr t = some v := by
  induction gr with
  | nil => exact .inr h
  | cons p gr ih =>
    obtain ⟨k, u⟩ := p
    simp only [List.cons_append, lk] at h ⊢
    cases hb : Nat.beq k t with
    | true => rw [hb] at h; exact .inl h
    | false => rw [hb] at h; exact ih h

section
variable {P : Program} {n : Cx} {D : List Deferred} {ops : Array Oper} {rest : List Oper} {Q : Post} {fr gr : Fr} {l m : List HP} {ty : Nat} {pos : String} {aft : Array Edge}

def loopD {σ : Type} (D0 : List Deferred) (I : σ → Prop) (ds : List Nat) (G : σ → Fr) (base : Fr) (L : σ → List HP) (μ : σ → Nat) (x : σ) (Q : Post) : Post
  | .normal, D, fr, l => D = D0 ∧ ∃ y, I y ∧ μ y < μ x ∧ Top ds base fr ∧ FrLe fr (G y) ∧ Ent l (L y)
  | e, D, fr, l => Q e D fr l
theorem loopD.next {σ : Type} {I : σ → Prop} {ds : List Nat} {G : σ → Fr} {base : Fr} {L : σ → List HP} {μ : σ → Nat} {x : σ} (y : σ) (hI : I y) (hm : μ y < μ x) (ht : Top ds base fr) (hf : FrLe fr (G y)) (he : Ent l (L y)) : loopD D I ds G base L μ x Q .normal D fr l := ⟨rfl, y, hI, hm, ht, hf, he⟩
/-- ds: the slots that the loop writes; G: what is known of these at a round's head. -/
theorem Wp.loopD {σ : Type} (I : σ → Prop) (ds : List Nat) (G : σ → Fr) (L : σ → List HP) (μ : σ → Nat) (x0 : σ) (h0 : I x0) (hf : FrLe fr (G x0)) (hl : Ent l (L x0)) {c : Code}
    (body : ∀ x, I x → Wp P n D c (Go.Proofs.Ytpoahaadnbdgcaa.loopD D I ds G (dropK ds fr) L μ x Q) (G x ++ dropK ds fr) (L x)) : Wp P n D (.loop c) Q fr l := by
  intro a w U hh hs
  have hG : ∀ (fr' : Fr) (y : σ) (a' : Act), Holds n D a' fr' → Top ds (dropK ds fr) fr' → FrLe fr' (G y) → Holds n D a' (G y ++ dropK ds fr) := by
    intro fr' y a' hh' ht hy
    refine ⟨hh'.1, hh'.2.1, fun t v hv => hh'.2.2 t v ?_⟩
    rcases lk_append hv with hv | hv
    · exact hy.lk t v hv
    · exact ht.lk hv (dropK_lk hv).2
  have h00 : Holds n D a (G x0 ++ dropK ds fr) := by
    refine ⟨hh.1, hh.2.1, fun t v hv => hh.2.2 t v ?_⟩
    rcases lk_append hv with hv | hv
    · exact hf.lk t v hv
    · exact (dropK_lk hv).1
  refine wpIn_loop_ghost (fun k a' w' => ∃ x, I x ∧ μ x = k ∧ Holds n D a' (G x ++ dropK ds fr) ∧ Out (L x) U w w') (μ x0) ⟨x0, h0, rfl, h00, (Out.refl hs).ent hl⟩ ?_
  rintro k a1 w1 ⟨x, hx, rfl, hh1, ho⟩
  refine Go.wpIn_mono (body x hx a1 w1 (Grow U w) hh1 ho.1) ?_
  rintro e a2 w2 ⟨D2, fr2, l2, q, hh2, ho2⟩
  cases e with
  | normal =>
    obtain ⟨rfl, y, hy, hlt, ht, hf2, he2⟩ := q
    exact ⟨μ y, hlt, y, hy, rfl, hG fr2 y a2 hh2 ht hf2, (ho.then ho2).ent he2⟩
  | _ => exact ⟨D2, fr2, l2, q, hh2, ho.then ho2⟩
/-- Ways that meet again: of the slots ds nothing is known then. -/
def cutK (D : List Deferred) (R : Prop) (ds : List Nat) (fr : Fr) (l : List HP) : List Deferred → Fr → List HP → Prop := fun D' fr' l' => D' = D ∧ R ∧ Top ds fr fr' ∧ Ent l' l
theorem cut_end {R : Prop} {ds : List Nat} {fr0 : Fr} {l0 : List HP} (hR : R) (ht : Top ds fr0 fr) (he : Ent l l0) : thn (cutK D R ds fr0 l0) Q .normal D fr l := ⟨rfl, hR, ht, he⟩
theorem Wp.cut {x y : Code} (R : Prop) (ds : List Nat) (h : Wp P n D x (thn (cutK D R ds fr l) Q) fr l) (k : R → Wp P n D y Q (dropK ds fr) l) : Wp P n D (.seq x y) Q fr l := by
  refine Wp.seq (h.mono fun e D' fr' l' q => ?_)
  cases e with
  | normal =>
    obtain ⟨rfl, hR, ht, he⟩ := q
    intro a w U hh hs
    refine k hR a w U ⟨hh.1, hh.2.1, fun t v hv => hh.2.2 t v ?_⟩ (he w U hs)
    obtain ⟨h1, h2⟩ := dropK_lk hv
    exact ht.lk h1 h2
  | _ => exact q
theorem map_at {α : Type} (f : α → Value) (xs : List α) {k : Nat} (h : k < xs.length) : (xs.map f)[k]? = some (f (xs[k]'h)) := by
  rw [List.getElem?_map, List.getElem?_eq_getElem h]; rfl
end

/-! lists of numbers -/
def ints (xs : List Int) : List Value := xs.map (Value.int .i64)
def pxs (xs : List Int) : List Value := xs.map (Value.int .u64)
def u8s (xs : List Int) : List Value := xs.map (Value.int .u8)
theorem ints_len (xs : List Int) : (ints xs).length = xs.length := List.length_map _
theorem pxs_len (xs : List Int) : (pxs xs).length = xs.length := List.length_map _
theorem u8s_len (xs : List Int) : (u8s xs).length = xs.length := List.length_map _
theorem lens : (∀ xs : List Int, (ints xs).length = xs.length) ∧ (∀ xs : List Int, (pxs xs).length = xs.length) ∧ ∀ xs : List Int, (u8s xs).length = xs.length := ⟨ints_len, pxs_len, u8s_len⟩
theorem ints_one (xs : List Int) : ∀ u ∈ ints xs, u.oneCell' = true := by intro u hu; obtain ⟨x, _, rfl⟩ := List.mem_map.1 hu; rfl
theorem pxs_one (xs : List Int) : ∀ u ∈ pxs xs, u.oneCell' = true := by intro u hu; obtain ⟨x, _, rfl⟩ := List.mem_map.1 hu; rfl
theorem u8s_one (xs : List Int) : ∀ u ∈ u8s xs, u.oneCell' = true := by intro u hu; obtain ⟨x, _, rfl⟩ := List.mem_map.1 hu; rfl
theorem ints_snoc (xs : List Int) (x : Int) : ints xs ++ [.int .i64 x] = ints (xs ++ [x]) := by simp [ints]
theorem pxs_snoc (xs : List Int) (x : Int) : pxs xs ++ [.int .u64 x] = pxs (xs ++ [x]) := by simp [pxs]
theorem u8s_snoc (xs : List Int) (x : Int) : u8s xs ++ [.int .u8 x] = u8s (xs ++ [x]) := by simp [u8s]
theorem ints_app (xs ys : List Int) : ints xs ++ ints ys = ints (xs ++ ys) := by simp [ints]
theorem pxs_app (xs ys : List Int) : pxs xs ++ pxs ys = pxs (xs ++ ys) := by simp [pxs]
theorem ints_at (xs : List Int) {k : Nat} (h : k < xs.length) : (ints xs)[k]? = some (.int .i64 (xs[k]'h)) := map_at _ xs h
theorem pxs_at (xs : List Int) {k : Nat} (h : k < xs.length) : (pxs xs)[k]? = some (.int .u64 (xs[k]'h)) := map_at _ xs h
theorem u8s_at (xs : List Int) {k : Nat} (h : k < xs.length) : (u8s xs)[k]? = some (.int .u8 (xs[k]'h)) := map_at _ xs h
/-- A text's bytes. -/
def bsOf (s : ByteArray) : List Int := s.data.toList.map fun b => (b.toNat : Int)
theorem bsOf_len (s : ByteArray) : (bsOf s).length = s.size := by simp [bsOf]
theorem bsOf_at {s : ByteArray} {k : Nat} (h : k < s.size) : (bsOf s)[k]'(by rw [bsOf_len]; exact h) = ((s[k]'h).toNat : Int) := by simp [bsOf]; rfl
theorem bsOf_drop {s : ByteArray} {k : Nat} (h : k < s.size) : (bsOf s).drop k = ((s[k]'h).toNat : Int) :: (bsOf s).drop (k + 1) := by
  rw [List.drop_eq_getElem_cons (by rw [bsOf_len]; exact h), bsOf_at h]
def emp : HP where
  p _ S := ∀ b, ¬ S b
  loc := fun h _ _ => h
  lt := fun h b hb => absurd hb (h b)
theorem Ent.emp {l m : List HP} (h : Ent l m) : Ent l (emp :: m) := fun w U x => ⟨fun _ => False, fun _ h => h, fun _ h => h.elim, (h w U x).mono fun _ hb => ⟨hb, fun x => x⟩⟩
end Go.Proofs.Ytpoahaadnbdgcaa
