/- Walks. -/
import Derived.Test.YtpoahaadnbdgcaaLow
import Derived.Test.YtpoahaadnbdgcaaBuild
namespace Go.Proofs.Ytpoahaadnbdgcaa
open Go.RowKit Go.Shelf


theorem u8s_app (xs ys : List Int) : u8s xs ++ u8s ys = u8s (xs ++ ys) := by simp [u8s]
instance : BldF Try.prog 64 62 107 2 := ⟨Try.underlying62, Try.underlying107, by kernel_rfl, by kernel_rfl⟩
instance : NoEsc Try.prog 63 := noesc_of Try.func63 (by kernel_rfl) (by kernel_rfl) (by kernel_rfl) (by kernel_rfl)

theorem copyCheck_a (g : Nat) (v1 : Value) : Fn Try.prog 48 #[.pointer (some ⟨g, 0, none⟩)] [blk g [.pointer none, v1] 64] (fun _ l => l = [blk g [.pointer (some ⟨g, 0, none⟩), v1] 64]) := by
  refine Fn.intro (vs := [.pointer (some ⟨g, 0, none⟩)]) Try.func48 rfl Try.ntmps48 rfl ?_
  refine Wp.seq ?_
  refine Wp.region ?_
  refine s_mv rfl rfl ?_
  refine s_nc rfl rfl ?_
  refine s_fa (o2 := 0) rfl rfl rfl ?_
  refine s_ld rfl rfl (by rfl) ?_
  refine s_peq rfl Try.underlying62 rfl rfl ?_
  refine WpL.nil ?_
  refine Wp.condBT rfl (by rfl) ?_
  refine Wp.region ?_
  refine s_mv rfl rfl ?_
  refine s_mv rfl rfl ?_
  refine s_tou rfl rfl ?_
  refine s_noesc rfl rfl ?_
  refine s_fromu rfl rfl ?_
  refine s_nc rfl rfl ?_
  refine s_fa (o2 := 0) rfl rfl rfl ?_
  refine s_st rfl rfl rfl ?_
  refine WpL.nil ?_
  apply RetQ.nm
  · exact (Res.none rfl)
  · exact rfl
  · first | exact Ent.refl _ | exact Ent.nil _ | exact Take.ent' (by repeat' constructor) | (repeat (first | exact Ent.refl _ | refine Ent.drop ?_))

theorem copyCheck_b (g : Nat) (v1 : Value) : Fn Try.prog 48 #[.pointer (some ⟨g, 0, none⟩)] [blk g [.pointer (some ⟨g, 0, none⟩), v1] 64] (fun _ l => l = [blk g [.pointer (some ⟨g, 0, none⟩), v1] 64]) := by
  refine Fn.intro (vs := [.pointer (some ⟨g, 0, none⟩)]) Try.func48 rfl Try.ntmps48 rfl ?_
  refine Wp.seq ?_
  refine Wp.region ?_
  refine s_mv rfl rfl ?_
  refine s_nc rfl rfl ?_
  refine s_fa (o2 := 0) rfl rfl rfl ?_
  refine s_ld rfl rfl (by rfl) ?_
  refine s_peq rfl Try.underlying62 rfl rfl ?_
  refine WpL.nil ?_
  refine Wp.condBF rfl (by rfl) ?_
  refine Wp.seq ?_
  refine Wp.region ?_
  refine s_mv rfl rfl ?_
  refine s_nc rfl rfl ?_
  refine s_fa (o2 := 0) rfl rfl rfl ?_
  refine s_ld rfl rfl (by rfl) ?_
  refine s_mv rfl rfl ?_
  refine s_pself rfl Try.underlying62 (by kernel_rfl) rfl rfl ?_
  refine WpL.nil ?_
  refine Wp.condF rfl ?_
  refine Wp.skip ?_
  apply RetQ.nm
  · exact (Res.none rfl)
  · exact rfl
  · first | exact Ent.refl _ | exact Ent.nil _ | exact Take.ent' (by repeat' constructor) | (repeat (first | exact Ent.refl _ | refine Ent.drop ?_))

theorem copyCheck_spec (g : Nat) (p : Option Addr) (v1 : Value) (hp : p = none ∨ p = some ⟨g, 0, none⟩) : Fn Try.prog 48 #[.pointer (some ⟨g, 0, none⟩)] [blk g [.pointer p, v1] 64] (fun _ l => l = [blk g [.pointer (some ⟨g, 0, none⟩), v1] 64]) := by
  rcases hp with rfl | rfl
  · exact copyCheck_a g v1
  · exact copyCheck_b g v1
theorem Fn.ownSome {P : Program} {f : Nat} {args : Array Value} {pre F : List HP} {R : Value → List HP → Prop} {T s c m : Nat} {a : Option Addr} {xs : List Value} (ht : Take1 pre (own T s a c m xs) F) (hne : xs ≠ [])
    (h : ∀ g, a = some ⟨g, 0, none⟩ → m ≤ c → Fn P f args pre R) : Fn P f args pre R := by
  intro w U hs
  obtain ⟨S, hp, _⟩ := ht.ent w U hs
  rcases own_form hp with ⟨_, _, _, e⟩ | ⟨g, cur, e, _, hmc, _⟩
  · exact absurd e hne
  · exact h g e hmc w U hs

theorem BWriteString_spec (g : Nat) (p a : Option Addr) (c : Nat) (xs : List Int) (hp : p = none ∨ p = some ⟨g, 0, none⟩) (s : ByteArray) (hs : xs.length + s.size ≤ 140737488355328) : Fn Try.prog 27 #[.pointer (some ⟨g, 0, none⟩), .string s] [blk g [.pointer p, .slice a (xs).length c] 64, own 5 1 a c (xs).length (u8s (xs))] (fun _ l => ∃ a' c', l = [blk g [.pointer (some ⟨g, 0, none⟩), .slice a' (xs ++ bsOf s).length c'] 64, own 5 1 a' c' (xs ++ bsOf s).length (u8s (xs ++ bsOf s))]) := by
  refine Fn.intro (vs := [.pointer (some ⟨g, 0, none⟩), .string s]) Try.func27 rfl Try.ntmps27 rfl ?_
  refine Wp.seq ?_
  refine Wp.region ?_
  refine s_as rfl rfl ?_
  refine s_as rfl rfl ?_
  refine WpL.nil ?_
  refine Wp.seq ?_
  refine Wp.region ?_
  refine s_mv rfl rfl ?_
  refine s_callf rfl rfl (by repeat' constructor) (copyCheck_spec _ _ _ hp) ?_
  rintro _ _ rfl
  simp only [napp]
  refine WpL.nil ?_
  refine Wp.seq ?_
  refine Wp.region ?_
  refine s_mv rfl rfl ?_
  refine s_mv rfl rfl ?_
  refine s_nc rfl rfl ?_
  refine s_fa (o2 := 1) rfl rfl rfl ?_
  refine s_ld rfl rfl (by rfl) ?_
  refine s_mv rfl rfl ?_
  refine s_apps rfl Try.underlying9 rfl rfl (by repeat' constructor) (by omega) ?_
  intro a14 c14
  rw [u8s_app, show xs.length + s.size = (xs ++ bsOf s).length from by rw [List.length_append, bsOf_len]]
  refine s_nc rfl rfl ?_
  refine s_fa (o2 := 1) rfl rfl rfl ?_
  refine s_st rfl rfl rfl ?_
  refine WpL.nil ?_
  refine Wp.seq ?_
  refine Wp.region ?_
  refine s_mv rfl rfl ?_
  refine s_lens rfl Try.underlying9 rfl ?_
  refine s_as rfl rfl ?_
  refine s_as rfl rfl ?_
  refine WpL.nil ?_
  refine Wp.ret ?_
  apply RetQ.mk
  · exact (Res.two rfl rfl rfl)
  · exact ⟨a14, c14, rfl⟩
  · first | exact Ent.refl _ | exact Ent.nil _ | exact Take.ent' (by repeat' constructor) | (repeat (first | exact Ent.refl _ | refine Ent.drop ?_))

theorem BWriteByte_spec (g : Nat) (p a : Option Addr) (c : Nat) (xs : List Int) (hp : p = none ∨ p = some ⟨g, 0, none⟩) (b : Int) (hs : xs.length + 1 ≤ 140737488355328) : Fn Try.prog 29 #[.pointer (some ⟨g, 0, none⟩), .int .u8 b] [blk g [.pointer p, .slice a (xs).length c] 64, own 5 1 a c (xs).length (u8s (xs))] (fun _ l => ∃ a' c', l = [blk g [.pointer (some ⟨g, 0, none⟩), .slice a' (xs ++ [b]).length c'] 64, own 5 1 a' c' (xs ++ [b]).length (u8s (xs ++ [b]))]) := by
  refine Fn.intro (vs := [.pointer (some ⟨g, 0, none⟩), .int .u8 b]) Try.func29 rfl Try.ntmps29 rfl ?_
  refine Wp.seq ?_
  refine Wp.region ?_
  refine s_as rfl rfl ?_
  refine WpL.nil ?_
  refine Wp.seq ?_
  refine Wp.region ?_
  refine s_mv rfl rfl ?_
  refine s_callf rfl rfl (by repeat' constructor) (copyCheck_spec _ _ _ hp) ?_
  rintro _ _ rfl
  simp only [napp]
  refine WpL.nil ?_
  refine Wp.seq ?_
  refine Wp.region ?_
  refine s_mv rfl rfl ?_
  refine s_mv rfl rfl ?_
  refine s_nc rfl rfl ?_
  refine s_fa (o2 := 1) rfl rfl rfl ?_
  refine s_ld rfl rfl (by rfl) ?_
  refine s_mv rfl rfl ?_
  refine s_bs1 rfl rfl rfl rfl ?_
  intro g1
  refine s_app1 rfl rfl rfl (by repeat' constructor) (by rfl) (by rfl) (by rfl) (by rfl) (by omega) (by omega) ?_
  intro a14 c14
  rw [u8s_snoc, show xs.length + 1 = (xs ++ [b]).length from by simp]
  refine s_nc rfl rfl ?_
  refine s_fa (o2 := 1) rfl rfl rfl ?_
  refine s_st rfl rfl rfl ?_
  refine WpL.nil ?_
  refine Wp.seq ?_
  refine Wp.region ?_
  refine s_as rfl rfl ?_
  refine WpL.nil ?_
  refine Wp.ret ?_
  apply RetQ.mk
  · exact (Res.one rfl rfl)
  · exact ⟨a14, c14, rfl⟩
  · first | exact Ent.refl _ | exact Ent.nil _ | exact Take.ent' (by repeat' constructor) | (repeat (first | exact Ent.refl _ | refine Ent.drop ?_))

theorem BString_a (g g' c : Nat) (p : Option Addr) (xs : List Int) (h0 : 0 < xs.length) (hc : xs.length ≤ c) (h1 : xs.length ≤ 140737488355328) (hb : ∀ x ∈ xs, 0 ≤ x ∧ x ≤ 255) : Fn Try.prog 30 #[.pointer (some ⟨g, 0, none⟩)] [blk g [.pointer p, .slice (some ⟨g', 0, none⟩) (xs).length c] 64, own 5 1 (some ⟨g', 0, none⟩) c (xs).length (u8s (xs))] (fun v l => v = .string (strOfNums xs) ∧ l = []) := by
  refine Fn.intro (vs := [.pointer (some ⟨g, 0, none⟩)]) Try.func30 rfl Try.ntmps30 rfl ?_
  refine Wp.seq ?_
  refine Wp.region ?_
  refine s_as rfl rfl ?_
  refine WpL.nil ?_
  refine Wp.seq ?_
  apply Wp.drawGN (fB := []) mixed [(10, false)] (by kernel_rfl)
  apply GoR.segF [⟨0, 3, _, [], false⟩, ⟨1, 4, _, [0], false⟩, ⟨2, 5, _, [1], false⟩, ⟨3, 6, _, [2], false⟩, ⟨4, 7, _, [3], false⟩, ⟨5, 8, _, [], false⟩, ⟨6, 9, _, [5], false⟩, ⟨7, 10, _, [6], false⟩, ⟨8, 11, _, [7], false⟩, ⟨9, 12, _, [8], false⟩] [] [0, 1, 2, 3, 4, 5, 6, 7, 8, 9] [2] ⟨_, .nil⟩ rfl rfl rfl (by kernel_rfl) rfl rfl rfl
  · refine AllF.cons rfl rfl rfl rfl ?_ ?_
    · refine s_mv rfl rfl ?_
      exact obN rfl
    refine AllF.cons rfl rfl rfl rfl ?_ ?_
    · refine s_nc rfl rfl ?_
      exact obN rfl
    refine AllF.cons rfl rfl rfl rfl ?_ ?_
    · refine s_fa (o2 := 1) rfl rfl rfl ?_
      exact obN rfl
    refine AllF.cons rfl rfl rfl rfl ?_ ?_
    · refine s_ld rfl rfl (by rfl) ?_
      exact obN rfl
    refine AllF.cons rfl rfl rfl rfl ?_ ?_
    · refine s_usd rfl rfl (by omega) ?_
      exact WpL.nil ⟨rfl, rfl, rfl, by first | exact Ent.refl _ | exact Ent.nil _ | exact Take.ent' (by repeat' constructor) | (repeat (first | exact Ent.refl _ | refine Ent.drop ?_))⟩
    refine AllF.cons rfl rfl rfl rfl ?_ ?_
    · refine s_mv rfl rfl ?_
      exact obN rfl
    refine AllF.cons rfl rfl rfl rfl ?_ ?_
    · refine s_nc rfl rfl ?_
      exact obN rfl
    refine AllF.cons rfl rfl rfl rfl ?_ ?_
    · refine s_fa (o2 := 1) rfl rfl rfl ?_
      exact obN rfl
    refine AllF.cons rfl rfl rfl rfl ?_ ?_
    · refine s_ld rfl rfl (by rfl) ?_
      exact obN rfl
    refine AllF.cons rfl rfl rfl rfl ?_ ?_
    · refine s_lenl rfl rfl ?_
      exact WpL.nil ⟨rfl, rfl, rfl, by first | exact Ent.refl _ | exact Ent.nil _ | exact Take.ent' (by repeat' constructor) | (repeat (first | exact Ent.refl _ | refine Ent.drop ?_))⟩
    exact AllF.nil
  · refine s_uss rfl Try.underlying99 (by kernel_rfl) rfl rfl (by repeat' constructor) rfl h0 h1 hb ?_
    refine WpL.nil ⟨rfl, rfl, ?_⟩
    apply GoR.nil [⟨11, 2, _, [0, 1, 2, 3, 4, 5, 6, 7, 8, 9, 10], false⟩] ⟨_, .nil⟩ rfl rfl
    · refine AllF.cons rfl rfl rfl rfl ?_ ?_
      · refine s_as rfl rfl ?_
        exact obN rfl
      exact AllF.nil
    · refine Wp.ret ?_
      apply RetQ.mk
      · exact (Res.one rfl rfl)
      · exact ⟨rfl, rfl⟩
      · first | exact Ent.refl _ | exact Ent.nil _ | exact Take.ent' (by repeat' constructor) | (repeat (first | exact Ent.refl _ | refine Ent.drop ?_))

theorem BString_spec (g c : Nat) (p a : Option Addr) (xs : List Int) (h0 : 0 < xs.length) (h1 : xs.length ≤ 140737488355328) (hb : ∀ x ∈ xs, 0 ≤ x ∧ x ≤ 255) : Fn Try.prog 30 #[.pointer (some ⟨g, 0, none⟩)] [blk g [.pointer p, .slice a xs.length c] 64, own 5 1 a c xs.length (u8s xs)] (fun v l => v = .string (strOfNums xs) ∧ l = []) := by
  refine Fn.ownSome (Take1.there Take1.here) (fun e => by rw [← List.length_eq_zero_iff, u8s_len] at e; omega) fun g' e hmc => ?_
  subst e
  exact BString_a g g' c p xs h0 hmc h1 hb

end Go.Proofs.Ytpoahaadnbdgcaa
