/- Walks and plain laws, a part of the proof of PnmOpen: every input that the law's guards let in, no condition beside. -/
import Derived.Test.YtggamdlpiejbiaaGreatM29
namespace Go.Proofs.YtggamdlpiejbiaaGreat
open Go.RowKit Go.Shelf


/-- The kinds that may tell a format. -/
def kP (C M : Int) (k : Nat) : Bool := decide (1 ≤ k) && decide (((k : Int) % 3 = 0 ↔ C = 3) ∧ ((k : Int) % 3 ≠ 1 ∨ M = 1))
def kUp (C M : Int) (k : Nat) : List Int := ((List.range k).filter (kP C M)).map fun i : Nat => (i : Int)
theorem kUp_y {C M : Int} {k : Nat} (h : kP C M k = true) : kUp C M (k + 1) = kUp C M k ++ [(k : Int)] := by unfold kUp; rw [List.range_succ, List.filter_append, List.map_append]; simp [h]
theorem kUp_n {C M : Int} {k : Nat} (h : kP C M k = false) : kUp C M (k + 1) = kUp C M k := by unfold kUp; rw [List.range_succ, List.filter_append, List.map_append]; simp [h]
theorem kUp_one {C M : Int} : kUp C M 1 = [] := by unfold kUp kP; simp [List.range_succ]
theorem kUp_len {C M : Int} {k : Nat} : (kUp C M k).length ≤ k := by
  unfold kUp
  rw [List.length_map]
  exact Nat.le_trans (List.length_filter_le _ _) (by rw [List.length_range]; exact Nat.le_refl _)
def kindsF (C M : Int) : List Int := if FmtP C M then kUp C M 7 else []
structure KdX where
  (k : Nat) (out : List Int) (a : Option Addr) (c : Nat)

theorem rKinds10_spec (C M : Int) : Fn Tryz.prog 36 #[.agg #[.int .i64 C, .int .i64 M]] [] (fun v l => ∃ a c, v = .slice a (kindsF C M).length c ∧ l = [own 3 1 a c (kindsF C M).length (ints (kindsF C M))]) := by
  refine Fn.intro (vs := [.agg #[.int .i64 C, .int .i64 M]]) Tryz.func36 rfl Tryz.ntmps36 rfl ?_
  refine Wp.seq ?_
  refine Wp.region ?_
  refine s_box rfl rfl rfl ?_
  intro gF
  refine s_as rfl rfl ?_
  refine WpL.nil ?_
  refine Wp.seq ?_
  refine Wp.region ?_
  refine s_lda (vs := [_, _]) rfl rfl rfl (by rfl) ?_
  refine s_callf rfl rfl (by repeat' constructor) (rFormat1_spec _ _) ?_
  rintro _ _ ⟨rfl, rfl⟩
  simp only [napp]
  refine s_as rfl rfl ?_
  refine WpL.nil ?_
  refine Wp.seq ?_
  refine Wp.seq ?_
  refine Wp.region ?_
  refine s_mv rfl rfl ?_
  refine s_notD rfl rfl ?_
  refine WpL.nil ?_
  refine Wp.condD rfl (fun h0 => ?_) (fun h0 => ?_)
  · refine Wp.seq ?_
    refine Wp.region ?_
    refine s_as rfl rfl ?_
    refine WpL.nil ?_
    refine Wp.ret ?_
    apply RetQ.mk
    · exact (Res.one rfl rfl)
    · exact ⟨none, 0, by rw [kindsF, if_neg (by assumption)]; rfl, rfl⟩
    · rw [show kindsF C M = [] from if_neg (by assumption)]
      exact Ent.own_nil (Ent.nil _)
  · refine Wp.skip ?_
    refine Wp.seq ?_
    refine Wp.region ?_
    refine s_as rfl rfl ?_
    refine WpL.nil ?_
    refine Wp.seq ?_
    refine Wp.seq ?_
    refine Wp.region ?_
    refine s_as rfl rfl ?_
    refine WpL.nil ?_
    refine Wp.block ?_
    refine Wp.loopD (σ := KdX) (fun x => 1 ≤ x.k ∧ x.k ≤ 7 ∧ x.out = kUp C M x.k) [4, 5, 10, 11, 12, 13, 14, 15, 16, 17, 18, 19, 20, 21, 22, 23, 24, 25, 26, 27, 28, 29, 30, 31, 32, 33, 34] (fun x => [(5, .int .i64 (x.k : Int)), (4, .slice x.a x.out.length x.c)]) (fun x => [own 3 1 x.a x.c x.out.length (ints x.out), blk gF [.int .i64 C, .int .i64 M] 48]) (fun x => 7 - x.k) ⟨1, [], none, 0⟩ ?_ (by repeat (first | exact FrLe.nil | refine FrLe.cons rfl ?_)) ?_ ?_
    · exact ⟨Nat.le_refl _, by simp, kUp_one.symm⟩
    · exact Ent.own_nil (Ent.refl _)
    · rintro ⟨k, out, a, c⟩ ⟨hk1, hk7, ho⟩
      dsimp only at hk1 hk7 ho ⊢
      have hkl := kUp_len (C := C) (M := M) (k := k)
      rw [← ho] at hkl
      refine Wp.seq ?_
      refine Wp.seq ?_
      refine Wp.region ?_
      refine s_mv rfl rfl ?_
      refine s_le rfl rfl rfl ?_
      refine WpL.nil ?_
      refine Wp.condD rfl (fun h2 => ?_) (fun h2 => ?_)
      · refine Wp.skip ?_
        refine Wp.seq ?_
        refine Wp.block ?_
        refine Wp.seq ?_
        refine Wp.region ?_
        refine s_mv rfl rfl ?_
        refine s_rem rfl rfl rfl (by omega) (by omega) ?_
        refine s_eq rfl rfl rfl ?_
        refine s_fa (o2 := 0) rfl rfl rfl ?_
        refine s_ld rfl rfl (by rfl) ?_
        refine s_eq rfl rfl rfl ?_
        refine s_beq rfl Tryz.underlying4 rfl rfl ?_
        refine s_mv rfl rfl ?_
        refine WpL.grd rfl rfl rfl (fun hg1 => ?_) (fun hg1 => ?_)
        · refine s_mv rfl rfl ?_
          refine WpL.gon rfl rfl ?_
          refine s_rem rfl rfl rfl (by omega) (by omega) ?_
          refine WpL.gon rfl rfl ?_
          refine s_ne rfl rfl rfl ?_
          refine WpL.gon rfl rfl ?_
          refine s_mv rfl rfl ?_
          refine WpL.grd rfl rfl rfl (fun hg2 => ?_) (fun hg2 => ?_)
          · have hg2 := of_decide_eq_false hg2
            refine s_fa (o2 := 1) rfl rfl rfl ?_
            refine WpL.gon rfl rfl ?_
            refine s_ld rfl rfl (by rfl) ?_
            refine WpL.gon rfl rfl ?_
            refine s_eq rfl rfl rfl ?_
            refine WpL.gon rfl rfl ?_
            refine s_pickF rfl rfl rfl ?_
            refine s_pickT rfl rfl rfl ?_
            refine WpL.nil ?_
            refine Wp.condD rfl (fun h3 => ?_) (fun h3 => ?_)
            · refine Wp.region ?_
              refine s_mv rfl rfl ?_
              refine s_mv rfl rfl ?_
              refine s_bs1 rfl rfl rfl rfl ?_
              intro g2
              refine s_app1 rfl rfl rfl (by repeat' constructor) (by rfl) (by rfl) (by rfl) (by rfl) (by omega) (by omega) ?_
              intro a34 c34
              rw [ints_snoc, show out.length + 1 = (out ++ [(k : Int)]).length from by simp]
              refine s_as rfl rfl ?_
              refine WpL.nil ?_
              refine Wp.region ?_
              refine s_mv rfl rfl ?_
              first | refine s_add rfl rfl rfl (w_i64 (by omega) (by omega)) ?_ | refine s_addw rfl rfl rfl ?_
              refine s_as rfl rfl ?_
              refine WpL.nil ?_
              refine loopD.next (⟨k + 1, out ++ [(k : Int)], a34, c34⟩ : KdX) ?_ ?_ (by first | ((repeat (first | exact Top.refl | refine Top.push rfl ?_ | refine Top.drop rfl ?_)); done) | exact Top.le (by repeat (first | exact FrLe.nil | refine FrLe.cons rfl ?_))) (by repeat (first | exact FrLe.nil | refine FrLe.cons rfl ?_)) ?_
              · simp only [Bool.not_false, Bool.not_true, beq_iff_eq, beq_eq_false_iff_ne, ne_eq, decide_eq_decide] at hg1
                exact ⟨by simp only; omega, by simp only; omega, by simp only; rw [kUp_y (by unfold kP; simp only [Bool.and_eq_true, decide_eq_true_eq]; omega), ho]⟩
              · simp only; omega
              · first | exact Ent.refl _ | exact Ent.nil _ | exact Take.ent' (by repeat' constructor) | (repeat (first | exact Ent.refl _ | refine Ent.drop ?_))
            · refine Wp.skip ?_
              refine Wp.region ?_
              refine s_mv rfl rfl ?_
              first | refine s_add rfl rfl rfl (w_i64 (by omega) (by omega)) ?_ | refine s_addw rfl rfl rfl ?_
              refine s_as rfl rfl ?_
              refine WpL.nil ?_
              refine loopD.next (⟨k + 1, out, a, c⟩ : KdX) ?_ ?_ (by first | ((repeat (first | exact Top.refl | refine Top.push rfl ?_ | refine Top.drop rfl ?_)); done) | exact Top.le (by repeat (first | exact FrLe.nil | refine FrLe.cons rfl ?_))) (by repeat (first | exact FrLe.nil | refine FrLe.cons rfl ?_)) ?_
              · simp only [Bool.not_false, Bool.not_true, beq_iff_eq, beq_eq_false_iff_ne, ne_eq, decide_eq_decide] at hg1
                exact ⟨by simp only; omega, by simp only; omega, by simp only; rw [kUp_n (by rw [Bool.eq_false_iff]; unfold kP; simp only [ne_eq, Bool.and_eq_true, decide_eq_true_eq]; omega), ho]⟩
              · simp only; omega
              · first | exact Ent.refl _ | exact Ent.nil _ | exact Take.ent' (by repeat' constructor) | (repeat (first | exact Ent.refl _ | refine Ent.drop ?_))
          · have hg2 := of_decide_eq_true hg2
            refine WpL.goff rfl rfl rfl (by decide) ?_
            refine WpL.goff rfl rfl rfl (by decide) ?_
            refine WpL.gon rfl rfl ?_
            refine s_pickT rfl rfl rfl ?_
            refine s_pickT rfl rfl rfl ?_
            refine WpL.nil ?_
            refine Wp.condT rfl ?_
            refine Wp.region ?_
            refine s_mv rfl rfl ?_
            refine s_mv rfl rfl ?_
            refine s_bs1 rfl rfl rfl rfl ?_
            intro g3
            refine s_app1 rfl rfl rfl (by repeat' constructor) (by rfl) (by rfl) (by rfl) (by rfl) (by omega) (by omega) ?_
            intro a34 c34
            rw [ints_snoc, show out.length + 1 = (out ++ [(k : Int)]).length from by simp]
            refine s_as rfl rfl ?_
            refine WpL.nil ?_
            refine Wp.region ?_
            refine s_mv rfl rfl ?_
            first | refine s_add rfl rfl rfl (w_i64 (by omega) (by omega)) ?_ | refine s_addw rfl rfl rfl ?_
            refine s_as rfl rfl ?_
            refine WpL.nil ?_
            refine loopD.next (⟨k + 1, out ++ [(k : Int)], a34, c34⟩ : KdX) ?_ ?_ (by first | ((repeat (first | exact Top.refl | refine Top.push rfl ?_ | refine Top.drop rfl ?_)); done) | exact Top.le (by repeat (first | exact FrLe.nil | refine FrLe.cons rfl ?_))) (by repeat (first | exact FrLe.nil | refine FrLe.cons rfl ?_)) ?_
            · simp only [Bool.not_false, Bool.not_true, beq_iff_eq, beq_eq_false_iff_ne, ne_eq, decide_eq_decide] at hg1
              exact ⟨by simp only; omega, by simp only; omega, by simp only; rw [kUp_y (by unfold kP; simp only [Bool.and_eq_true, decide_eq_true_eq]; omega), ho]⟩
            · simp only; omega
            · first | exact Ent.refl _ | exact Ent.nil _ | exact Take.ent' (by repeat' constructor) | (repeat (first | exact Ent.refl _ | refine Ent.drop ?_))
        · refine WpL.goff rfl rfl rfl (by decide) ?_
          refine WpL.goff rfl rfl rfl (by decide) ?_
          refine WpL.goff rfl rfl rfl (by decide) ?_
          refine WpL.goffU rfl rfl rfl ?_
          refine WpL.goffU rfl rfl rfl ?_
          refine WpL.goffU rfl rfl rfl ?_
          refine WpL.goff rfl rfl rfl (by decide) ?_
          refine s_pickF rfl rfl rfl ?_
          refine WpL.nil ?_
          refine Wp.condF rfl ?_
          refine Wp.skip ?_
          refine Wp.region ?_
          refine s_mv rfl rfl ?_
          first | refine s_add rfl rfl rfl (w_i64 (by omega) (by omega)) ?_ | refine s_addw rfl rfl rfl ?_
          refine s_as rfl rfl ?_
          refine WpL.nil ?_
          refine loopD.next (⟨k + 1, out, a, c⟩ : KdX) ?_ ?_ (by first | ((repeat (first | exact Top.refl | refine Top.push rfl ?_ | refine Top.drop rfl ?_)); done) | exact Top.le (by repeat (first | exact FrLe.nil | refine FrLe.cons rfl ?_))) (by repeat (first | exact FrLe.nil | refine FrLe.cons rfl ?_)) ?_
          · simp only [Bool.not_false, Bool.not_true, beq_iff_eq, beq_eq_false_iff_ne, ne_eq, decide_eq_decide] at hg1
            exact ⟨by simp only; omega, by simp only; omega, by simp only; rw [kUp_n (by rw [Bool.eq_false_iff]; unfold kP; simp only [ne_eq, Bool.and_eq_true, decide_eq_true_eq]; omega), ho]⟩
          · simp only; omega
          · first | exact Ent.refl _ | exact Ent.nil _ | exact Take.ent' (by repeat' constructor) | (repeat (first | exact Ent.refl _ | refine Ent.drop ?_))
      · have ho2 : out = kindsF C M := by rw [kindsF, if_pos (Classical.not_not.1 h0), ho, show k = 7 by omega]
        subst ho2
        refine Wp.exit ?_
        refine Wp.seq ?_
        refine Wp.region ?_
        refine s_mv rfl rfl ?_
        refine s_as rfl rfl ?_
        refine WpL.nil ?_
        refine Wp.ret ?_
        apply RetQ.mk
        · exact (Res.one rfl rfl)
        · exact ⟨a, c, rfl, rfl⟩
        · first | exact Ent.refl _ | exact Ent.nil _ | exact Take.ent' (by repeat' constructor) | (repeat (first | exact Ent.refl _ | refine Ent.drop ?_))

end Go.Proofs.YtggamdlpiejbiaaGreat
namespace Go.Proofs.YtggamdlpiejbiaaGreat
open Go.RowKit Go.Shelf


def iC (r : Img × Option Addr × Nat) : List Value := imC r.1 r.2.1 r.2.2
instance : FOffA Tryz.prog 71 0 0 := ⟨fun _ _ => by kernel_rfl⟩
theorem iC_ne {L : List (Img × Option Addr × Nat)} (h : 0 < L.length) : L.flatMap iC ≠ [] := by
  cases L with
  | nil => simp at h
  | cons g t => simp [iC, imC]
theorem kinds_pos {C M : Int} (h : FmtP C M) : 0 < (kindsF C M).length := by
  rw [kindsF, if_pos h]
  apply List.length_pos_of_mem (a := if C = 3 then 3 else 2)
  unfold kUp
  rcases h.1 with rfl | rfl
  · exact List.mem_map.2 ⟨2, List.mem_filter.2 ⟨by decide, by unfold kP; simp⟩, rfl⟩
  · exact List.mem_map.2 ⟨3, List.mem_filter.2 ⟨by decide, by unfold kP; simp⟩, rfl⟩
theorem kinds_len {C M : Int} : (kindsF C M).length ≤ 7 := by
  unfold kindsF
  split
  · exact kUp_len
  · simp
/-- Kinds that may tell these. -/
def KindsOk : List Img → List Int → Prop
  | [], [] => True
  | m :: ms, k :: ks => k ∈ kindsF m.c m.m ∧ KindsOk ms ks
  | _, _ => False
theorem KindsOk.snoc {m : Img} {k : Int} (hk : k ∈ kindsF m.c m.m) : ∀ {ms : List Img} {ks : List Int}, KindsOk ms ks → KindsOk (ms ++ [m]) (ks ++ [k])
  | [], [], _ => ⟨hk, trivial⟩
  | _ :: _, _ :: _, ⟨h1, h2⟩ => ⟨h1, KindsOk.snoc hk h2⟩
theorem KindsOk.len : ∀ {ms : List Img} {ks : List Int}, KindsOk ms ks → ms.length = ks.length
  | [], [], _ => rfl
  | _ :: _, _ :: _, ⟨_, h2⟩ => by rw [List.length_cons, List.length_cons, KindsOk.len h2]
theorem KindsOk.get : ∀ {ms : List Img} {ks : List Int}, KindsOk ms ks → ∀ (i : Nat) (h1 : i < ms.length) (h2 : i < ks.length), ks[i] ∈ kindsF ms[i].c ms[i].m
  | _ :: _, _ :: _, ⟨h, _⟩, 0, _, _ => h
  | _ :: _, _ :: _, ⟨_, h⟩, i + 1, h1, h2 => KindsOk.get h i (by simpa using h1) (by simpa using h2)
theorem take_snocG {α : Type} (l : List α) {k : Nat} (h : k < l.length) : l.take (k + 1) = l.take k ++ [l[k]] := by
  rw [List.take_add_one, List.getElem?_eq_getElem h]
  rfl
theorem tmod_ix {z : Int} {n : Nat} (h : 0 < n) (h7 : n ≤ 7) : (max (z.tmod n) (-(z.tmod n))).toNat < n ∧ 0 ≤ max (z.tmod n) (-(z.tmod n)) ∧ -9223372036854775808 ≤ -(z.tmod n) ∧ -(z.tmod n) ≤ n ∧ z.tmod n < n := by
  have h1 := Int.tmod_lt_of_pos z (show (0 : Int) < n by omega)
  have h2 := Int.tmod_lt_of_pos (-z) (show (0 : Int) < n by omega)
  rw [Int.neg_tmod] at h2
  omega

theorem rKinds11_spec (As : List HP) (la : Option Addr) (lc : Nat) (L : List (Img × Option Addr × Nat)) (hL : RdsL As la (L.flatMap iC)) (hf : ∀ r ∈ L, FmtP r.1.c r.1.m) (hl : L.length ≤ 1000) (ya : Option Addr) (yc : Nat) (ys : List Int) (hy : RdsL As ya (ints ys)) (hyl : ys.length ≤ 9223372036854775807) : Fn Tryz.prog 27 #[.slice la L.length lc, .slice ya ys.length yc] As (fun v l => ∃ ks a c, KindsOk (L.map (·.1)) ks ∧ v = .slice a ks.length c ∧ l = own 3 1 a c ks.length (ints ks) :: As) := by
  refine Fn.intro (vs := [.slice la L.length lc, .slice ya ys.length yc]) Tryz.func27 rfl Tryz.ntmps27 rfl ?_
  refine Wp.seq ?_
  refine Wp.region ?_
  refine s_as rfl rfl ?_
  refine WpL.nil ?_
  refine Wp.seq ?_
  refine Wp.region ?_
  refine s_as rfl rfl ?_
  refine WpL.nil ?_
  refine Wp.seq ?_
  refine Wp.seq ?_
  refine Wp.region ?_
  refine s_as rfl rfl ?_
  refine WpL.nil ?_
  refine Wp.block ?_
  refine Wp.loopD (σ := KdX) (fun x => x.k ≤ L.length ∧ KindsOk ((L.take x.k).map (·.1)) x.out) [5, 6, 7, 8, 9, 10, 11, 12, 13, 14, 15, 16, 17, 18, 19, 20, 21, 22, 23, 24, 25, 26, 27, 28, 29, 30, 31, 32, 33, 34, 35, 36, 37, 38, 39, 40, 41] (fun x => [(6, .int .i64 (x.k : Int)), (5, .slice x.a x.out.length x.c)]) (fun x => own 3 1 x.a x.c x.out.length (ints x.out) :: As) (fun x => L.length - x.k) ⟨0, [], none, 0⟩ ?_ (by repeat (first | exact FrLe.nil | refine FrLe.cons rfl ?_)) ?_ ?_
  · exact ⟨Nat.zero_le _, trivial⟩
  · exact Ent.own_nil (Ent.refl _)
  · rintro ⟨k, out, a, c⟩ ⟨hk, ho⟩
    dsimp only at hk ho ⊢
    have hol : out.length = k := by rw [← ho.len, List.length_map, List.length_take]; omega
    refine Wp.seq ?_
    refine Wp.seq ?_
    refine Wp.region ?_
    refine s_mv rfl rfl ?_
    refine s_mv rfl rfl ?_
    refine s_lenl rfl rfl ?_
    refine s_lt rfl rfl rfl ?_
    refine WpL.nil ?_
    refine Wp.condD rfl (fun h1 => ?_) (fun h1 => ?_)
    · have hlt : k < L.length := by omega
      have hkp := kinds_pos (hf _ (List.getElem_mem hlt))
      have hkl := kinds_len (C := L[k].1.c) (M := L[k].1.m)
      refine Wp.skip ?_
      refine Wp.seq ?_
      refine Wp.block ?_
      refine Wp.seq ?_
      refine Wp.region ?_
      refine s_mv rfl rfl ?_
      refine s_mv rfl rfl ?_
      refine s_ixR (s := 5) k rfl rfl rfl hL (by first | exact Take.ent' (by repeat' constructor) | (repeat (first | exact Ent.refl _ | refine Ent.drop ?_))) rfl (by omega) (iC_ne (by omega)) ?_
      refine s_faR (k * 5 + 0) rfl rfl hL (by first | exact Take.ent' (by repeat' constructor) | (repeat (first | exact Ent.refl _ | refine Ent.drop ?_))) (iC_ne (by omega)) rfl ?_
      refine s_ldaX (vs := [.int .i64 L[k].1.c, .int .i64 L[k].1.m]) rfl rfl hL (by first | exact Take.ent' (by repeat' constructor) | (repeat (first | exact Ent.refl _ | refine Ent.drop ?_))) (iC_ne (by omega)) rfl (by have q := congrArg (List.take 2) (flat_seg (s := 5) (f := iC) (fun _ => rfl) L k hlt); rw [List.take_take] at q; exact q) ?_
      refine s_callf rfl rfl (by repeat' constructor) (rKinds10_spec _ _) ?_
      rintro _ _ ⟨a20, c20, rfl, rfl⟩
      simp only [napp]
      refine s_as rfl rfl ?_
      refine WpL.nil ?_
      refine Wp.seq ?_
      refine Wp.region ?_
      refine s_as rfl rfl ?_
      refine WpL.nil ?_
      refine Wp.seq ?_
      refine Wp.seq ?_
      refine Wp.region ?_
      refine s_mv rfl rfl ?_
      refine s_mv rfl rfl ?_
      refine s_lenl rfl rfl ?_
      refine s_lt rfl rfl rfl ?_
      refine WpL.nil ?_
      refine Wp.condD rfl (fun h2 => ?_) (fun h2 => ?_)
      · have hly : k < ys.length := by omega
        have htm := tmod_ix (z := ys[k]) hkp hkl
        have hix := htm.1
        refine Wp.region ?_
        refine s_mv rfl rfl ?_
        refine s_mv rfl rfl ?_
        refine s_ixa k rfl rfl rfl hy (by first | exact Take.ent' (by repeat' constructor) | (repeat (first | exact Ent.refl _ | refine Ent.drop ?_))) rfl (by omega) (by rw [ints_len]; omega) ?_
        refine s_ldx rfl rfl hy (by first | exact Take.ent' (by repeat' constructor) | (repeat (first | exact Ent.refl _ | refine Ent.drop ?_))) (ints_at ys hly) ?_
        refine s_mv rfl rfl ?_
        refine s_lenl rfl rfl ?_
        refine s_remt rfl rfl rfl (by omega) ?_
        refine s_as rfl rfl ?_
        refine WpL.nil ?_
        refine Wp.region ?_
        refine s_mv rfl rfl ?_
        refine s_mv rfl rfl ?_
        refine s_mv rfl rfl ?_
        refine s_mv rfl rfl ?_
        first | refine s_neg rfl rfl (w_i64 (by omega) (by omega)) ?_ | refine s_negw rfl rfl ?_
        refine s_max2 rfl rfl rfl ?_
        refine s_ixa (max (ys[k].tmod (((kindsF L[k].1.c L[k].1.m).length : Nat) : Int)) (-(ys[k].tmod (((kindsF L[k].1.c L[k].1.m).length : Nat) : Int)))).toNat rfl rfl rfl (RdsL.own (T := 3) (s := 1)) (by first | exact Take.ent' (by repeat' constructor) | (repeat (first | exact Ent.refl _ | refine Ent.drop ?_))) (by omega) hix (by rw [ints_len]; exact hix) ?_
        refine s_ldx rfl rfl (RdsL.own (T := 3) (s := 1)) (by first | exact Take.ent' (by repeat' constructor) | (repeat (first | exact Ent.refl _ | refine Ent.drop ?_))) (ints_at (kindsF L[k].1.c L[k].1.m) hix) ?_
        refine s_bs1 rfl rfl rfl rfl ?_
        intro g1
        first
          | (refine s_app1 rfl rfl rfl (by repeat' constructor) (by rfl) (by rfl) (by rfl) (by rfl) (by omega) (by omega) ?_; intro a41 c41; rw [ints_snoc, show out.length + 1 = (out ++ [(kindsF L[k].1.c L[k].1.m)[(max (ys[k].tmod (((kindsF L[k].1.c L[k].1.m).length : Nat) : Int)) (-(ys[k].tmod (((kindsF L[k].1.c L[k].1.m).length : Nat) : Int)))).toNat]'hix]).length from by simp])
          | (refine s_app1 rfl rfl rfl (by repeat' constructor) (by rfl) (by rfl) (by rfl) (by rfl) (by omega) (by omega) ?_; intro a41 c41; rw [ints_snoc, show out.length + 1 = (out ++ [(kindsF L[k].1.c L[k].1.m)[(max (0 : Int) (-0)).toNat]'hix]).length from by simp])
        refine s_as rfl rfl ?_
        refine WpL.nil ?_
        refine Wp.region ?_
        refine s_mv rfl rfl ?_
        first | refine s_add rfl rfl rfl (w_i64 (by omega) (by omega)) ?_ | refine s_addw rfl rfl rfl ?_
        refine s_as rfl rfl ?_
        refine WpL.nil ?_
        refine loopD.next (⟨k + 1, out ++ [(kindsF L[k].1.c L[k].1.m)[(max (ys[k].tmod (((kindsF L[k].1.c L[k].1.m).length : Nat) : Int)) (-(ys[k].tmod (((kindsF L[k].1.c L[k].1.m).length : Nat) : Int)))).toNat]'hix], a41, c41⟩ : KdX) ?_ ?_ (by first | ((repeat (first | exact Top.refl | refine Top.push rfl ?_ | refine Top.drop rfl ?_)); done) | exact Top.le (by repeat (first | exact FrLe.nil | refine FrLe.cons rfl ?_))) (by repeat (first | exact FrLe.nil | refine FrLe.cons rfl ?_)) ?_
        · exact ⟨by simp only; omega, by simp only; rw [take_snocG L hlt, List.map_append]; exact KindsOk.snoc (List.getElem_mem _) ho⟩
        · simp only; omega
        · first | exact Ent.cons (Ent.drop (Ent.refl _)) | exact Ent.cons (Ent.drop (Ent.drop (Ent.refl _)))
      · have hix : (max (0 : Int) (-0)).toNat < (kindsF L[k].1.c L[k].1.m).length := by simpa using hkp
        refine Wp.skip ?_
        refine Wp.region ?_
        refine s_mv rfl rfl ?_
        refine s_mv rfl rfl ?_
        refine s_mv rfl rfl ?_
        refine s_mv rfl rfl ?_
        first | refine s_neg rfl rfl (w_i64 (by omega) (by omega)) ?_ | refine s_negw rfl rfl ?_
        refine s_max2 rfl rfl rfl ?_
        refine s_ixa (max (0 : Int) (-0)).toNat rfl rfl rfl (RdsL.own (T := 3) (s := 1)) (by first | exact Take.ent' (by repeat' constructor) | (repeat (first | exact Ent.refl _ | refine Ent.drop ?_))) (by omega) hix (by rw [ints_len]; exact hix) ?_
        refine s_ldx rfl rfl (RdsL.own (T := 3) (s := 1)) (by first | exact Take.ent' (by repeat' constructor) | (repeat (first | exact Ent.refl _ | refine Ent.drop ?_))) (ints_at (kindsF L[k].1.c L[k].1.m) hix) ?_
        refine s_bs1 rfl rfl rfl rfl ?_
        intro g2
        first
          | (refine s_app1 rfl rfl rfl (by repeat' constructor) (by rfl) (by rfl) (by rfl) (by rfl) (by omega) (by omega) ?_; intro a41 c41; rw [ints_snoc, show out.length + 1 = (out ++ [(kindsF L[k].1.c L[k].1.m)[(max (ys[k].tmod (((kindsF L[k].1.c L[k].1.m).length : Nat) : Int)) (-(ys[k].tmod (((kindsF L[k].1.c L[k].1.m).length : Nat) : Int)))).toNat]'hix]).length from by simp])
          | (refine s_app1 rfl rfl rfl (by repeat' constructor) (by rfl) (by rfl) (by rfl) (by rfl) (by omega) (by omega) ?_; intro a41 c41; rw [ints_snoc, show out.length + 1 = (out ++ [(kindsF L[k].1.c L[k].1.m)[(max (0 : Int) (-0)).toNat]'hix]).length from by simp])
        refine s_as rfl rfl ?_
        refine WpL.nil ?_
        refine Wp.region ?_
        refine s_mv rfl rfl ?_
        first | refine s_add rfl rfl rfl (w_i64 (by omega) (by omega)) ?_ | refine s_addw rfl rfl rfl ?_
        refine s_as rfl rfl ?_
        refine WpL.nil ?_
        refine loopD.next (⟨k + 1, out ++ [(kindsF L[k].1.c L[k].1.m)[(max (0 : Int) (-0)).toNat]'hix], a41, c41⟩ : KdX) ?_ ?_ (by first | ((repeat (first | exact Top.refl | refine Top.push rfl ?_ | refine Top.drop rfl ?_)); done) | exact Top.le (by repeat (first | exact FrLe.nil | refine FrLe.cons rfl ?_))) (by repeat (first | exact FrLe.nil | refine FrLe.cons rfl ?_)) ?_
        · exact ⟨by simp only; omega, by simp only; rw [take_snocG L hlt, List.map_append]; exact KindsOk.snoc (List.getElem_mem _) ho⟩
        · simp only; omega
        · first | exact Ent.cons (Ent.drop (Ent.refl _)) | exact Ent.cons (Ent.drop (Ent.drop (Ent.refl _)))
    · have hkE : k = L.length := by omega
      rw [hkE, List.take_length] at ho
      refine Wp.exit ?_
      refine Wp.seq ?_
      refine Wp.region ?_
      refine s_mv rfl rfl ?_
      refine s_as rfl rfl ?_
      refine WpL.nil ?_
      refine Wp.ret ?_
      apply RetQ.mk
      · exact (Res.one rfl rfl)
      · exact ⟨out, a, c, ho, rfl, rfl⟩
      · first | exact Ent.refl _ | exact Ent.nil _ | exact Take.ent' (by repeat' constructor) | (repeat (first | exact Ent.refl _ | refine Ent.drop ?_))

end Go.Proofs.YtggamdlpiejbiaaGreat
namespace Go.Proofs.YtggamdlpiejbiaaGreat
open Go.RowKit Go.Shelf


def SizedP (w h : Int) : Prop := (1 ≤ w ∧ w ≤ 4096) ∧ (1 ≤ h ∧ h ≤ 65536) ∧ w * h ≤ 16777216
instance (w h : Int) : Decidable (SizedP w h) := by unfold SizedP; infer_instance
def FitsM (C M W H : Int) (px : List Int) : Prop := SizedP W H ∧ (px.length : Int) = W * H ∧ ∀ p ∈ px, FitP p C M
instance (C M W H : Int) (px : List Int) : Decidable (FitsM C M W H px) := by unfold FitsM; infer_instance
theorem Take1.mid {A : HP} {As : List HP} : ∀ (Bs : List HP), Take1 (Bs ++ A :: As) A (Bs ++ As)
  | [] => .here
  | _ :: Bs => .there (Take1.mid Bs)
theorem Take.underL (Bs : List HP) : ∀ (As : List HP), Take (Bs ++ As) As Bs
  | [] => by rw [List.append_nil]; exact .nil
  | _ :: As => .cons (Take1.mid Bs) (Take.underL Bs As)
theorem Ent.left : ∀ (As F : List HP), Ent (As ++ F) As
  | [], _ => Ent.nil _
  | _ :: As, F => Ent.cons (Ent.left As F)
theorem sz_mul {w h : Int} (hw : 1 ≤ w ∧ w ≤ 4096) (hh : 1 ≤ h ∧ h ≤ 65536) : 0 ≤ w * h ∧ w * h ≤ 4096 * 65536 := ⟨Int.mul_nonneg (by omega) (by omega), Int.mul_le_mul (by omega) (by omega) (by omega) (by omega)⟩

theorem rSized_spec (w h : Int) : Fn Tryz.prog 175 #[.int .i64 w, .int .i64 h] [] (fun v l => v = .bool (decide (SizedP w h)) ∧ l = []) := by
  refine Fn.intro (vs := [.int .i64 w, .int .i64 h]) Tryz.func175 rfl Tryz.ntmps175 rfl ?_
  refine Wp.seq ?_
  refine Wp.region ?_
  refine s_as rfl rfl ?_
  refine WpL.nil ?_
  refine Wp.seq ?_
  refine Wp.seq ?_
  refine Wp.region ?_
  refine s_mv rfl rfl ?_
  refine s_lt rfl rfl rfl ?_
  refine s_mv rfl rfl ?_
  refine WpL.grd rfl rfl rfl (fun hg1 => ?_) (fun hg1 => ?_)
  · have hg1 := of_decide_eq_false hg1
    refine s_mv rfl rfl ?_
    refine WpL.gon rfl rfl ?_
    refine s_gt rfl rfl rfl ?_
    refine s_pickF rfl rfl rfl ?_
    refine s_mv rfl rfl ?_
    refine WpL.grd rfl rfl rfl (fun hg2 => ?_) (fun hg2 => ?_)
    · have hg2 := of_decide_eq_false hg2
      refine s_mv rfl rfl ?_
      refine WpL.gon rfl rfl ?_
      refine s_lt rfl rfl rfl ?_
      refine s_pickF rfl rfl rfl ?_
      refine s_mv rfl rfl ?_
      refine WpL.grd rfl rfl rfl (fun hg3 => ?_) (fun hg3 => ?_)
      · have hg3 := of_decide_eq_false hg3
        refine s_mv rfl rfl ?_
        refine WpL.gon rfl rfl ?_
        refine s_gt rfl rfl rfl ?_
        refine s_pickF rfl rfl rfl ?_
        refine WpL.nil ?_
        refine Wp.condD rfl (fun h0 => ?_) (fun h0 => ?_)
        · refine Wp.seq ?_
          refine Wp.region ?_
          refine s_as rfl rfl ?_
          refine WpL.nil ?_
          refine Wp.ret ?_
          apply RetQ.mk
          · exact (Res.one rfl rfl)
          · first | exact ⟨congrArg Value.bool (decide_eq_decide.2 (by unfold SizedP; omega)), rfl⟩ | exact ⟨by rw [decide_eq_false (show ¬SizedP w h by unfold SizedP; omega)], rfl⟩
          · first | exact Ent.refl _ | exact Ent.nil _ | exact Take.ent' (by repeat' constructor) | (repeat (first | exact Ent.refl _ | refine Ent.drop ?_))
        · have hmb := sz_mul (w := w) (h := h) (by omega) (by omega)
          refine Wp.skip ?_
          refine Wp.seq ?_
          refine Wp.region ?_
          refine s_mv rfl rfl ?_
          refine s_mv rfl rfl ?_
          refine s_mul rfl rfl rfl (w_i64 (by omega) (by omega)) ?_
          refine s_le rfl rfl rfl ?_
          refine s_as rfl rfl ?_
          refine WpL.nil ?_
          refine Wp.ret ?_
          apply RetQ.mk
          · exact (Res.one rfl rfl)
          · first | exact ⟨congrArg Value.bool (decide_eq_decide.2 (by unfold SizedP; omega)), rfl⟩ | exact ⟨by rw [decide_eq_false (show ¬SizedP w h by unfold SizedP; omega)], rfl⟩
          · first | exact Ent.refl _ | exact Ent.nil _ | exact Take.ent' (by repeat' constructor) | (repeat (first | exact Ent.refl _ | refine Ent.drop ?_))
      · have hg3 := of_decide_eq_true hg3
        refine WpL.goff rfl rfl rfl (by decide) ?_
        refine s_pickT rfl rfl rfl ?_
        refine WpL.nil ?_
        refine Wp.condT rfl ?_
        refine Wp.seq ?_
        refine Wp.region ?_
        refine s_as rfl rfl ?_
        refine WpL.nil ?_
        refine Wp.ret ?_
        apply RetQ.mk
        · exact (Res.one rfl rfl)
        · first | exact ⟨congrArg Value.bool (decide_eq_decide.2 (by unfold SizedP; omega)), rfl⟩ | exact ⟨by rw [decide_eq_false (show ¬SizedP w h by unfold SizedP; omega)], rfl⟩
        · first | exact Ent.refl _ | exact Ent.nil _ | exact Take.ent' (by repeat' constructor) | (repeat (first | exact Ent.refl _ | refine Ent.drop ?_))
    · have hg2 := of_decide_eq_true hg2
      refine WpL.goff rfl rfl rfl (by decide) ?_
      refine s_pickT rfl rfl rfl ?_
      refine s_mv rfl rfl ?_
      refine WpL.goff rfl rfl rfl (by decide) ?_
      refine WpL.goff rfl rfl rfl (by decide) ?_
      refine s_pickT rfl rfl rfl ?_
      refine WpL.nil ?_
      refine Wp.condT rfl ?_
      refine Wp.seq ?_
      refine Wp.region ?_
      refine s_as rfl rfl ?_
      refine WpL.nil ?_
      refine Wp.ret ?_
      apply RetQ.mk
      · exact (Res.one rfl rfl)
      · first | exact ⟨congrArg Value.bool (decide_eq_decide.2 (by unfold SizedP; omega)), rfl⟩ | exact ⟨by rw [decide_eq_false (show ¬SizedP w h by unfold SizedP; omega)], rfl⟩
      · first | exact Ent.refl _ | exact Ent.nil _ | exact Take.ent' (by repeat' constructor) | (repeat (first | exact Ent.refl _ | refine Ent.drop ?_))
  · have hg1 := of_decide_eq_true hg1
    refine WpL.goff rfl rfl rfl (by decide) ?_
    refine s_pickT rfl rfl rfl ?_
    refine s_mv rfl rfl ?_
    refine WpL.goff rfl rfl rfl (by decide) ?_
    refine WpL.goff rfl rfl rfl (by decide) ?_
    refine s_pickT rfl rfl rfl ?_
    refine s_mv rfl rfl ?_
    refine WpL.goff rfl rfl rfl (by decide) ?_
    refine WpL.goff rfl rfl rfl (by decide) ?_
    refine s_pickT rfl rfl rfl ?_
    refine WpL.nil ?_
    refine Wp.condT rfl ?_
    refine Wp.seq ?_
    refine Wp.region ?_
    refine s_as rfl rfl ?_
    refine WpL.nil ?_
    refine Wp.ret ?_
    apply RetQ.mk
    · exact (Res.one rfl rfl)
    · first | exact ⟨congrArg Value.bool (decide_eq_decide.2 (by unfold SizedP; omega)), rfl⟩ | exact ⟨by rw [decide_eq_false (show ¬SizedP w h by unfold SizedP; omega)], rfl⟩
    · first | exact Ent.refl _ | exact Ent.nil _ | exact Take.ent' (by repeat' constructor) | (repeat (first | exact Ent.refl _ | refine Ent.drop ?_))

theorem rMay03_spec (W H : Int) (a : Option Addr) (n c : Nat) : Fn Tryz.prog 133 #[.agg #[.int .i64 W, .int .i64 H, .slice a n c]] [] (fun v l => v = .bool (decide (SizedP W H ∧ (n : Int) = W * H)) ∧ l = []) := by
  refine Fn.intro (vs := [.agg #[.int .i64 W, .int .i64 H, .slice a n c]]) Tryz.func133 rfl Tryz.ntmps133 rfl ?_
  refine Wp.seq ?_
  refine Wp.region ?_
  refine s_box rfl rfl rfl ?_
  intro g1
  refine s_as rfl rfl ?_
  refine WpL.nil ?_
  refine Wp.seq ?_
  refine Wp.region ?_
  refine s_fa (o2 := 0) rfl rfl rfl ?_
  refine s_ld rfl rfl (by rfl) ?_
  refine s_fa (o2 := 1) rfl rfl rfl ?_
  refine s_ld rfl rfl (by rfl) ?_
  refine s_callf rfl rfl (by repeat' constructor) (rSized_spec _ _) ?_
  rintro _ _ ⟨rfl, rfl⟩
  simp only [napp]
  refine s_as rfl rfl ?_
  refine WpL.nil ?_
  refine Wp.seq ?_
  refine Wp.seq ?_
  refine Wp.region ?_
  refine s_mv rfl rfl ?_
  refine s_notD rfl rfl ?_
  refine WpL.nil ?_
  refine Wp.condD rfl (fun h0 => ?_) (fun h0 => ?_)
  · refine Wp.seq ?_
    refine Wp.region ?_
    refine s_as rfl rfl ?_
    refine WpL.nil ?_
    refine Wp.ret ?_
    apply RetQ.mk
    · exact (Res.one rfl rfl)
    · exact ⟨by rw [decide_eq_false (fun q => absurd q.1 (by assumption))], rfl⟩
    · first | exact Ent.refl _ | exact Ent.nil _ | exact Take.ent' (by repeat' constructor) | (repeat (first | exact Ent.refl _ | refine Ent.drop ?_))
  · have hsz : SizedP W H := Classical.not_not.1 h0
    have hsz2 := hsz
    unfold SizedP at hsz2
    have hmb := sz_mul hsz2.1 hsz2.2.1
    refine Wp.skip ?_
    refine Wp.seq ?_
    refine Wp.region ?_
    refine s_fa (o2 := 2) rfl rfl rfl ?_
    refine s_ld rfl rfl (by rfl) ?_
    refine s_lenl rfl rfl ?_
    refine s_fa (o2 := 0) rfl rfl rfl ?_
    refine s_ld rfl rfl (by rfl) ?_
    refine s_fa (o2 := 1) rfl rfl rfl ?_
    refine s_ld rfl rfl (by rfl) ?_
    refine s_mul rfl rfl rfl (w_i64 (by omega) (by omega)) ?_
    refine s_eq rfl rfl rfl ?_
    refine s_as rfl rfl ?_
    refine WpL.nil ?_
    refine Wp.ret ?_
    apply RetQ.mk
    · exact (Res.one rfl rfl)
    · exact ⟨congrArg Value.bool (decide_eq_decide.2 ⟨fun q => ⟨hsz, q⟩, fun q => q.2⟩), rfl⟩
    · first | exact Ent.refl _ | exact Ent.nil _ | exact Take.ent' (by repeat' constructor) | (repeat (first | exact Ent.refl _ | refine Ent.drop ?_))

theorem rFits03_spec (As : List HP) (W H : Int) (a : Option Addr) (c : Nat) (px : List Int) (C M : Int) (hA : RdsL As a (pxs px)) (hb : ∀ p ∈ px, 0 ≤ p ∧ p < 18446744073709551616) (hl : px.length ≤ 9223372036854775807) : Fn Tryz.prog 86 #[.agg #[.int .i64 W, .int .i64 H, .slice a px.length c], .agg #[.int .i64 C, .int .i64 M]] As (fun v l => v = .bool (decide (FitsM C M W H px)) ∧ l = As) := by
  refine Fn.intro (vs := [.agg #[.int .i64 W, .int .i64 H, .slice a px.length c], .agg #[.int .i64 C, .int .i64 M]]) Tryz.func86 rfl Tryz.ntmps86 rfl ?_
  refine Wp.seq ?_
  refine Wp.region ?_
  refine s_box rfl rfl rfl ?_
  intro gM
  refine s_box rfl rfl rfl ?_
  intro gF
  refine s_as rfl rfl ?_
  refine WpL.nil ?_
  refine Wp.seq ?_
  refine Wp.region ?_
  refine s_lda (vs := [_, _, _]) rfl rfl rfl (by rfl) ?_
  refine s_callf rfl rfl (by repeat' constructor) (rMay03_spec _ _ _ _ _) ?_
  rintro _ _ ⟨rfl, rfl⟩
  simp only [napp]
  refine s_as rfl rfl ?_
  refine WpL.nil ?_
  refine Wp.seq ?_
  refine Wp.seq ?_
  refine Wp.region ?_
  refine s_mv rfl rfl ?_
  refine s_notD rfl rfl ?_
  refine WpL.nil ?_
  refine Wp.condD rfl (fun h0 => ?_) (fun h0 => ?_)
  · refine Wp.seq ?_
    refine Wp.region ?_
    refine s_as rfl rfl ?_
    refine WpL.nil ?_
    refine Wp.ret ?_
    apply RetQ.mk
    · exact (Res.one rfl rfl)
    · exact ⟨by rw [decide_eq_false (fun q => absurd (⟨q.1, q.2.1⟩ : SizedP W H ∧ (px.length : Int) = W * H) (by assumption))], rfl⟩
    · first | exact Ent.refl _ | exact Ent.nil _ | exact Take.ent' (by repeat' constructor) | (repeat (first | exact Ent.refl _ | refine Ent.drop ?_))
  · have hmy := Classical.not_not.1 h0
    refine Wp.skip ?_
    refine Wp.seq ?_
    refine Wp.seq ?_
    refine Wp.region ?_
    refine s_as rfl rfl ?_
    refine WpL.nil ?_
    refine Wp.block ?_
    refine Wp.loopD (σ := Nat) (fun k => k ≤ px.length ∧ ∀ p ∈ px.take k, FitP p C M) [4, 6, 7, 12, 13, 14, 15, 16, 17, 18, 19, 20, 21, 22, 23, 24, 25, 26, 27] (fun k => [(6, .int .i64 (k : Int))]) (fun k => blk gF [.int .i64 C, .int .i64 M] 48 :: blk gM [.int .i64 W, .int .i64 H, .slice a px.length c] 69 :: As) (fun k => px.length - k) 0 ?_ (by repeat (first | exact FrLe.nil | refine FrLe.cons rfl ?_)) ?_ ?_
    · exact ⟨Nat.zero_le _, by simp⟩
    · exact Ent.refl _
    · rintro k ⟨hk, hfi⟩
      refine Wp.seq ?_
      refine Wp.seq ?_
      refine Wp.region ?_
      refine s_mv rfl rfl ?_
      refine s_fa (o2 := 2) rfl rfl rfl ?_
      refine s_ld rfl rfl (by rfl) ?_
      refine s_lenl rfl rfl ?_
      refine s_lt rfl rfl rfl ?_
      refine WpL.nil ?_
      refine Wp.condD rfl (fun h2 => ?_) (fun h2 => ?_)
      · have hlt : k < px.length := by omega
        have hpb := hb _ (List.getElem_mem hlt)
        refine Wp.skip ?_
        refine Wp.seq ?_
        refine Wp.block ?_
        refine Wp.seq ?_
        apply Wp.draw mixed [⟨19, _, []⟩, ⟨20, _, [0]⟩, ⟨21, _, []⟩, ⟨22, _, [1, 2]⟩, ⟨23, _, [3]⟩, ⟨24, _, []⟩, ⟨25, _, [4, 5]⟩, ⟨7, _, [6, 0, 1, 2, 3, 4, 5]⟩] rfl
        · refine AllObs.mk ?_ ?_
          · refine s_fa (o2 := 2) rfl rfl rfl ?_
            exact obN rfl
          refine AllObs.mk ?_ ?_
          · refine s_ld rfl rfl (by rfl) ?_
            exact obN rfl
          refine AllObs.mk ?_ ?_
          · refine s_mv rfl rfl ?_
            exact obN rfl
          refine AllObs.mk ?_ ?_
          · refine s_ixa k rfl rfl rfl hA (by first | exact Take.ent' (by repeat' constructor) | (repeat (first | exact Ent.refl _ | refine Ent.drop ?_))) rfl (by omega) (by rw [pxs_len]; omega) ?_
            exact obN rfl
          refine AllObs.mk ?_ ?_
          · refine s_ldx rfl rfl hA (by first | exact Take.ent' (by repeat' constructor) | (repeat (first | exact Ent.refl _ | refine Ent.drop ?_))) (pxs_at px hlt) ?_
            exact obN rfl
          refine AllObs.mk ?_ ?_
          · refine s_lda (vs := [_, _]) rfl rfl rfl (by rfl) ?_
            exact obN rfl
          refine AllObs.mk ?_ ?_
          · refine s_callf rfl rfl (by repeat' constructor) (rFits_spec _ _ _ hpb.1 hpb.2) ?_
            rintro _ _ ⟨rfl, rfl⟩
            simp only [napp]
            exact WpL.nil ⟨rfl, rfl, rfl, by first | exact Ent.refl _ | exact Ent.nil _ | exact Take.ent' (by repeat' constructor) | (repeat (first | exact Ent.refl _ | refine Ent.drop ?_))⟩
          refine AllObs.mk ?_ ?_
          · refine s_as rfl rfl ?_
            exact obN rfl
          exact AllObs.nil
        · refine Wp.seq ?_
          refine Wp.region ?_
          refine s_mv rfl rfl ?_
          refine s_notD rfl rfl ?_
          refine WpL.nil ?_
          refine Wp.condD rfl (fun h3 => ?_) (fun h3 => ?_)
          · refine Wp.seq ?_
            refine Wp.region ?_
            refine s_as rfl rfl ?_
            refine WpL.nil ?_
            refine Wp.ret ?_
            apply RetQ.mk
            · exact (Res.one rfl rfl)
            · exact ⟨by rw [decide_eq_false (fun q => absurd (q.2.2 _ (List.getElem_mem hlt)) (by assumption))], rfl⟩
            · first | exact Ent.refl _ | exact Ent.nil _ | exact Take.ent' (by repeat' constructor) | (repeat (first | exact Ent.refl _ | refine Ent.drop ?_))
          · refine Wp.skip ?_
            refine Wp.region ?_
            refine s_mv rfl rfl ?_
            first | refine s_add rfl rfl rfl (w_i64 (by omega) (by omega)) ?_ | refine s_addw rfl rfl rfl ?_
            refine s_as rfl rfl ?_
            refine WpL.nil ?_
            refine loopD.next (k + 1) ?_ ?_ (by first | ((repeat (first | exact Top.refl | refine Top.push rfl ?_ | refine Top.drop rfl ?_)); done) | exact Top.le (by repeat (first | exact FrLe.nil | refine FrLe.cons rfl ?_))) (by repeat (first | exact FrLe.nil | refine FrLe.cons rfl ?_)) ?_
            · refine ⟨by omega, ?_⟩
              rw [take_snocG px hlt]
              intro q hq
              rcases List.mem_append.1 hq with hq | hq
              · exact hfi q hq
              · rw [List.mem_singleton.1 hq]; exact Classical.not_not.1 (by assumption)
            · omega
            · first | exact Ent.refl _ | exact Ent.nil _ | exact Take.ent' (by repeat' constructor) | (repeat (first | exact Ent.refl _ | refine Ent.drop ?_))
      · refine Wp.exit ?_
        refine Wp.seq ?_
        refine Wp.region ?_
        refine s_as rfl rfl ?_
        refine WpL.nil ?_
        refine Wp.ret ?_
        apply RetQ.mk
        · exact (Res.one rfl rfl)
        · have hkE : k = px.length := by omega
          rw [hkE, List.take_length] at hfi
          exact ⟨by rw [decide_eq_true (p := FitsM C M W H px) ⟨hmy.1, hmy.2, hfi⟩], rfl⟩
        · first | exact Ent.refl _ | exact Ent.nil _ | exact Take.ent' (by repeat' constructor) | (repeat (first | exact Ent.refl _ | refine Ent.drop ?_))

theorem rMay10_spec (As : List HP) (C M W H : Int) (a : Option Addr) (c : Nat) (px : List Int) (hA : RdsL As a (pxs px)) (hb : ∀ p ∈ px, 0 ≤ p ∧ p < 18446744073709551616) (hl : px.length ≤ 9223372036854775807) : Fn Tryz.prog 47 #[.agg #[.int .i64 C, .int .i64 M, .int .i64 W, .int .i64 H, .slice a px.length c]] As (fun v l => v = .bool (decide (FitsM C M W H px)) ∧ l = As) := by
  refine Fn.intro (vs := [.agg #[.int .i64 C, .int .i64 M, .int .i64 W, .int .i64 H, .slice a px.length c]]) Tryz.func47 rfl Tryz.ntmps47 rfl ?_
  refine Wp.seq ?_
  refine Wp.region ?_
  refine s_box rfl rfl rfl ?_
  intro gI
  refine s_as rfl rfl ?_
  refine WpL.nil ?_
  refine Wp.seq ?_
  refine Wp.region ?_
  refine s_fa (o2 := 2) rfl rfl rfl ?_
  refine s_lda (vs := [_, _, _]) rfl rfl rfl (by rfl) ?_
  refine s_fa (o2 := 0) rfl rfl rfl ?_
  refine s_lda (vs := [_, _]) rfl rfl rfl (by rfl) ?_
  refine s_callf rfl rfl (Take.underL [_] As) (rFits03_spec As W H a c px C M hA hb hl) ?_
  rintro _ _ ⟨rfl, rfl⟩
  refine s_as rfl rfl ?_
  refine WpL.nil ?_
  refine Wp.ret ?_
  apply RetQ.mk
  · exact (Res.one rfl rfl)
  · exact ⟨rfl, rfl⟩
  · exact Ent.left _ _

theorem rTells_spec (As : List HP) (C M W H : Int) (a : Option Addr) (c : Nat) (px : List Int) (hA : RdsL As a (pxs px)) (hb : ∀ p ∈ px, 0 ≤ p ∧ p < 18446744073709551616) (hl : px.length ≤ 9223372036854775807) (k : Int) : Fn Tryz.prog 67 #[.agg #[.int .i64 C, .int .i64 M, .int .i64 W, .int .i64 H, .slice a px.length c], .int .i64 k] As (fun v l => v = .bool (decide (k ∈ kindsF C M ∧ FitsM C M W H px)) ∧ l = As) := by
  refine Fn.intro (vs := [.agg #[.int .i64 C, .int .i64 M, .int .i64 W, .int .i64 H, .slice a px.length c], .int .i64 k]) Tryz.func67 rfl Tryz.ntmps67 rfl ?_
  refine Wp.seq ?_
  refine Wp.region ?_
  refine s_box rfl rfl rfl ?_
  intro gI
  refine s_as rfl rfl ?_
  refine WpL.nil ?_
  refine Wp.seq ?_
  refine Wp.region ?_
  refine s_fa (o2 := 0) rfl rfl rfl ?_
  refine s_lda (vs := [_, _]) rfl rfl rfl (by rfl) ?_
  refine s_callf rfl rfl (by repeat' constructor) (rKinds10_spec _ _) ?_
  rintro _ _ ⟨a9, c9, rfl, rfl⟩
  simp only [napp]
  refine s_as rfl rfl ?_
  refine WpL.nil ?_
  refine Wp.seq ?_
  refine Wp.seq ?_
  refine Wp.region ?_
  refine s_as rfl rfl ?_
  refine WpL.nil ?_
  refine Wp.block ?_
  have hk7 := kinds_len (C := C) (M := M)
  refine Wp.loopD (σ := Nat) (fun i => i ≤ (kindsF C M).length ∧ ∀ q ∈ (kindsF C M).take i, q ≠ k) [4, 6, 10, 11, 12, 13, 14, 15, 16, 17, 18, 19, 20, 21, 22, 23] (fun i => [(6, .int .i64 (i : Int))]) (fun i => own 3 1 a9 c9 (kindsF C M).length (ints (kindsF C M)) :: blk gI [.int .i64 C, .int .i64 M, .int .i64 W, .int .i64 H, .slice a px.length c] 71 :: As) (fun i => (kindsF C M).length - i) 0 ?_ (by repeat (first | exact FrLe.nil | refine FrLe.cons rfl ?_)) ?_ ?_
  · exact ⟨Nat.zero_le _, by simp⟩
  · exact Ent.refl _
  · rintro i ⟨hi, hne⟩
    refine Wp.seq ?_
    refine Wp.seq ?_
    refine Wp.region ?_
    refine s_mv rfl rfl ?_
    refine s_mv rfl rfl ?_
    refine s_lenl rfl rfl ?_
    refine s_lt rfl rfl rfl ?_
    refine WpL.nil ?_
    refine Wp.condD rfl (fun h1 => ?_) (fun h1 => ?_)
    · have hlt : i < (kindsF C M).length := by omega
      refine Wp.skip ?_
      refine Wp.seq ?_
      refine Wp.block ?_
      refine Wp.seq ?_
      refine Wp.region ?_
      refine s_mv rfl rfl ?_
      refine s_mv rfl rfl ?_
      refine s_ixa i rfl rfl rfl (RdsL.own (T := 3) (s := 1)) (by first | exact Take.ent' (by repeat' constructor) | (repeat (first | exact Ent.refl _ | refine Ent.drop ?_))) rfl (by omega) (by rw [ints_len]; omega) ?_
      refine s_ldx rfl rfl (RdsL.own (T := 3) (s := 1)) (by first | exact Take.ent' (by repeat' constructor) | (repeat (first | exact Ent.refl _ | refine Ent.drop ?_))) (ints_at (kindsF C M) hlt) ?_
      refine s_mv rfl rfl ?_
      refine s_eq rfl rfl rfl ?_
      refine WpL.nil ?_
      refine Wp.condD rfl (fun h2 => ?_) (fun h2 => ?_)
      · have hkm : k ∈ kindsF C M := by have q := List.getElem_mem hlt; rwa [show (kindsF C M)[i] = k by assumption] at q
        refine Wp.seq ?_
        refine Wp.region ?_
        refine s_lda (vs := [_, _, _, _, _]) rfl rfl rfl (by rfl) ?_
        refine s_callf rfl rfl (Take.underL [_, _] As) (rMay10_spec As C M W H a c px hA hb hl) ?_
        rintro _ _ ⟨rfl, rfl⟩
        refine s_as rfl rfl ?_
        refine WpL.nil ?_
        refine Wp.ret ?_
        apply RetQ.mk
        · exact (Res.one rfl rfl)
        · exact ⟨congrArg Value.bool (decide_eq_decide.2 ⟨fun q => ⟨hkm, q⟩, fun q => q.2⟩), rfl⟩
        · exact Ent.left _ _
      · refine Wp.skip ?_
        refine Wp.region ?_
        refine s_mv rfl rfl ?_
        first | refine s_add rfl rfl rfl (w_i64 (by omega) (by omega)) ?_ | refine s_addw rfl rfl rfl ?_
        refine s_as rfl rfl ?_
        refine WpL.nil ?_
        refine loopD.next (i + 1) ?_ ?_ (by first | ((repeat (first | exact Top.refl | refine Top.push rfl ?_ | refine Top.drop rfl ?_)); done) | exact Top.le (by repeat (first | exact FrLe.nil | refine FrLe.cons rfl ?_))) (by repeat (first | exact FrLe.nil | refine FrLe.cons rfl ?_)) ?_
        · refine ⟨by omega, ?_⟩
          rw [take_snocG _ hlt]
          intro q hq
          rcases List.mem_append.1 hq with hq | hq
          · exact hne q hq
          · rw [List.mem_singleton.1 hq]; assumption
        · omega
        · first | exact Ent.refl _ | exact Ent.nil _ | exact Take.ent' (by repeat' constructor) | (repeat (first | exact Ent.refl _ | refine Ent.drop ?_))
    · refine Wp.exit ?_
      refine Wp.seq ?_
      refine Wp.region ?_
      refine s_as rfl rfl ?_
      refine WpL.nil ?_
      refine Wp.ret ?_
      apply RetQ.mk
      · exact (Res.one rfl rfl)
      · rw [show i = (kindsF C M).length by omega, List.take_length] at hne
        exact ⟨by rw [decide_eq_false (fun q => hne _ q.1 rfl)], rfl⟩
      · exact Ent.drop (Ent.drop (Ent.refl _))

end Go.Proofs.YtggamdlpiejbiaaGreat
namespace Go.Proofs.YtggamdlpiejbiaaGreat
open Go.RowKit Go.Shelf

theorem Decimal6_spec (n : Int) (h0 : 0 ≤ n) (h1 : n ≤ 1000000) : Fn Tryz.prog 118 #[.int .i64 n] [] (fun v l => ∃ s, v = .string s ∧ bsOf s = digs n.toNat ∧ l = []) := by
  refine Fn.intro (vs := [.int .i64 n]) Tryz.func118 rfl Tryz.ntmps118 rfl ?_
  refine Wp.seq ?_
  refine Wp.region ?_
  refine s_as rfl rfl ?_
  refine WpL.nil ?_
  refine Wp.seq ?_
  refine Wp.region ?_
  refine s_mv rfl rfl ?_
  refine s_rem rfl rfl rfl (by omega) (by omega) ?_
  refine s_as rfl rfl ?_
  refine WpL.nil ?_
  refine Wp.seq ?_
  refine Wp.seq ?_
  refine Wp.region ?_
  refine s_mv rfl rfl ?_
  refine s_lt rfl rfl rfl ?_
  refine WpL.nil ?_
  refine Wp.condDF rfl (by omega) ?_
  refine Wp.skip ?_
  refine Wp.seq ?_
  refine Wp.region ?_
  refine s_mv rfl rfl ?_
  first | refine s_add rfl rfl rfl (w_i64 (by omega) (by omega)) ?_ | refine s_addw rfl rfl rfl ?_
  first | refine s_cvi rfl Tryz.underlying3 rfl (w_u8 (by omega) (by omega)) ?_ | refine s_cviw rfl Tryz.underlying3 rfl ?_
  refine s_bs1 rfl rfl rfl rfl ?_
  intro g1
  rw [show ([.int .u8 (48 + n % 10)] : List Value) = u8s [48 + n % 10] from rfl]
  refine s_b2s (xs := [48 + n % 10]) rfl Tryz.underlying22 Tryz.underlying5 Tryz.underlying9 rfl rfl ?_
  refine s_as rfl rfl ?_
  refine WpL.nil ?_
  refine Wp.seq ?_
  refine Wp.seq ?_
  refine Wp.region ?_
  refine s_mv rfl rfl ?_
  refine s_gt rfl rfl rfl ?_
  refine s_mv rfl rfl ?_
  refine WpL.knowT (dj := 18) rfl (decide_eq_true (by omega)) ?_
  refine WpL.gon rfl rfl ?_
  refine s_mv rfl rfl ?_
  refine WpL.gon rfl rfl ?_
  refine s_lt rfl rfl rfl ?_
  refine s_pickT rfl rfl rfl ?_
  refine WpL.nil ?_
  refine Wp.condD rfl (fun h1 => ?_) (fun h1 => ?_)
  · refine Wp.seq ?_
    refine Wp.seq ?_
    refine Wp.region ?_
    refine s_mv rfl rfl ?_
    refine s_lt rfl rfl rfl ?_
    refine WpL.nil ?_
    refine Wp.condDF rfl (by omega) ?_
    refine Wp.skip ?_
    refine Wp.seq ?_
    refine Wp.region ?_
    refine s_mv rfl rfl ?_
    refine s_as rfl rfl ?_
    refine WpL.nil ?_
    refine Wp.ret ?_
    apply RetQ.mk
    · exact (Res.one rfl rfl)
    · exact ⟨_, rfl, by rw [bsOf_nums (by intro x hx; simp at hx; omega), digs, if_pos (by omega)]; congr 1; omega, rfl⟩
    · first | exact Ent.refl _ | exact Ent.nil _ | exact Take.ent' (by repeat' constructor) | (repeat (first | exact Ent.refl _ | refine Ent.drop ?_))
  · refine Wp.skip ?_
    refine Wp.seq ?_
    refine Wp.region ?_
    refine s_mv rfl rfl ?_
    refine s_quo rfl rfl rfl (by omega) (by omega) (w_i64 (by omega) (by omega)) ?_
    refine s_callf rfl rfl (by repeat' constructor) (Decimal6_spec (n / 10) (by omega) (by omega)) ?_
    rintro _ _ ⟨s1, rfl, hs1, rfl⟩
    simp only [napp]
    have hsz1 : s1.size ≤ 1000001 := by rw [← bsOf_len, hs1]; have := digs_len (n / 10).toNat; omega
    refine s_mv rfl rfl ?_
    refine s_cat rfl rfl rfl (by rw [size_nums]; simp; omega) ?_
    refine s_as rfl rfl ?_
    refine WpL.nil ?_
    refine Wp.ret ?_
    apply RetQ.mk
    · exact (Res.one rfl rfl)
    · exact ⟨_, rfl, by rw [bsOf_app, hs1, bsOf_nums (by intro x hx; simp at hx; omega), digs_rec (n := n) (by omega)], rfl⟩
    · first | exact Ent.refl _ | exact Ent.nil _ | exact Take.ent' (by repeat' constructor) | (repeat (first | exact Ent.refl _ | refine Ent.drop ?_))
termination_by n.toNat
decreasing_by omega


def hdW (K W H M : Int) : List Int := [80] ++ digs K.toNat ++ [10] ++ digs W.toNat ++ [32] ++ digs H.toNat ++ [10] ++ (if K = 1 ∨ K = 4 then [] else digs M.toNat ++ [10])
theorem lit1 (x : UInt8) : (ByteArray.mk #[x]).size = 1 := rfl
theorem Decimal_det (n : Int) (h0 : 0 ≤ n) (h1 : n ≤ 1000000) : Fn Tryz.prog 118 #[.int .i64 n] [] (fun v l => v = .string (strOfNums (digs n.toNat)) ∧ l = []) := by
  refine Fn.mono (Decimal6_spec n h0 h1) ?_
  rintro v l ⟨s, rfl, hs, rfl⟩
  exact ⟨_, ⟨by rw [bsOf_inj (hs.trans (digs_str _).symm)], rfl⟩, Ent.nil _⟩
theorem digs_sz {n : Int} (h : n ≤ 1000000) : (strOfNums (digs n.toNat)).size ≤ 1000001 := by
  rw [size_nums]
  have := digs_len n.toNat
  omega

theorem rWrite06_spec (K W H M : Int) (hM : MayH K W H M) : Fn Tryz.prog 68 #[.agg #[.int .i64 K, .int .i64 W, .int .i64 H, .int .i64 M]] [] (fun v l => ∃ s, bsOf s = hdW K W H M ∧ v = .tuple #[.string s, .int .i64 0] ∧ l = []) := by
  have hM2 := hM
  unfold MayH at hM2
  have hs1 := digs_sz (n := K) (by omega)
  have hs2 := digs_sz (n := W) (by omega)
  have hs3 := digs_sz (n := H) (by omega)
  have hs4 := digs_sz (n := M) (by omega)
  refine Fn.intro (vs := [.agg #[.int .i64 K, .int .i64 W, .int .i64 H, .int .i64 M]]) Tryz.func68 rfl Tryz.ntmps68 rfl ?_
  refine Wp.seq ?_
  refine Wp.region ?_
  refine s_box rfl rfl rfl ?_
  intro gH
  refine s_as rfl rfl ?_
  refine s_as rfl rfl ?_
  refine WpL.nil ?_
  refine Wp.seq ?_
  refine Wp.region ?_
  refine s_lda (vs := [_, _, _, _]) rfl rfl rfl (by rfl) ?_
  refine s_callf rfl rfl (by repeat' constructor) (rMay06_spec _ _ _ _) ?_
  rintro _ _ ⟨rfl, rfl⟩
  simp only [napp]
  refine s_as rfl rfl ?_
  refine WpL.nil ?_
  refine Wp.seq ?_
  refine Wp.seq ?_
  refine Wp.region ?_
  refine s_mv rfl rfl ?_
  refine s_notD rfl rfl ?_
  refine WpL.nil ?_
  refine Wp.condD rfl (fun h0 => ?_) (fun h0 => ?_)
  · exfalso; exact absurd hM h0
  · refine Wp.skip ?_
    refine Wp.seq ?_
    apply Wp.draw mixed [⟨10, _, []⟩, ⟨11, _, [0]⟩, ⟨12, _, [1]⟩, ⟨13, _, [2]⟩, ⟨14, _, [3]⟩, ⟨15, _, []⟩, ⟨16, _, [5]⟩, ⟨17, _, [6, 2]⟩, ⟨18, _, [4, 7]⟩, ⟨19, _, [8]⟩, ⟨20, _, []⟩, ⟨21, _, [10]⟩, ⟨22, _, [11, 7]⟩, ⟨23, _, [9, 12]⟩, ⟨24, _, [13]⟩, ⟨5, _, [14, 12, 0, 1, 2, 3, 4, 5, 6, 7, 8, 9, 10, 11, 13]⟩] rfl
    · refine AllObs.mk ?_ ?_
      · refine s_fa (o2 := 0) rfl rfl rfl ?_
        exact obN rfl
      refine AllObs.mk ?_ ?_
      · refine s_ld rfl rfl (by rfl) ?_
        exact obN rfl
      refine AllObs.mk ?_ ?_
      · refine s_callf rfl rfl (by repeat' constructor) (Decimal_det _ (by omega) (by omega)) ?_
        rintro _ _ ⟨rfl, rfl⟩
        simp only [napp]
        exact WpL.nil ⟨rfl, rfl, rfl, by first | exact Ent.refl _ | exact Ent.nil _ | exact Take.ent' (by repeat' constructor) | (repeat (first | exact Ent.refl _ | refine Ent.drop ?_))⟩
      refine AllObs.mk ?_ ?_
      · refine s_cat rfl rfl rfl (by simp only [ByteArray.size_append, lit1]; omega) ?_
        exact obN rfl
      refine AllObs.mk ?_ ?_
      · refine s_cat rfl rfl rfl (by simp only [ByteArray.size_append, lit1]; omega) ?_
        exact obN rfl
      refine AllObs.mk ?_ ?_
      · refine s_fa (o2 := 1) rfl rfl rfl ?_
        exact obN rfl
      refine AllObs.mk ?_ ?_
      · refine s_ld rfl rfl (by rfl) ?_
        exact obN rfl
      refine AllObs.mk ?_ ?_
      · refine s_callf rfl rfl (by repeat' constructor) (Decimal_det _ (by omega) (by omega)) ?_
        rintro _ _ ⟨rfl, rfl⟩
        simp only [napp]
        exact WpL.nil ⟨rfl, rfl, rfl, by first | exact Ent.refl _ | exact Ent.nil _ | exact Take.ent' (by repeat' constructor) | (repeat (first | exact Ent.refl _ | refine Ent.drop ?_))⟩
      refine AllObs.mk ?_ ?_
      · refine s_cat rfl rfl rfl (by simp only [ByteArray.size_append, lit1]; omega) ?_
        exact obN rfl
      refine AllObs.mk ?_ ?_
      · refine s_cat rfl rfl rfl (by simp only [ByteArray.size_append, lit1]; omega) ?_
        exact obN rfl
      refine AllObs.mk ?_ ?_
      · refine s_fa (o2 := 2) rfl rfl rfl ?_
        exact obN rfl
      refine AllObs.mk ?_ ?_
      · refine s_ld rfl rfl (by rfl) ?_
        exact obN rfl
      refine AllObs.mk ?_ ?_
      · refine s_callf rfl rfl (by repeat' constructor) (Decimal_det _ (by omega) (by omega)) ?_
        rintro _ _ ⟨rfl, rfl⟩
        simp only [napp]
        exact WpL.nil ⟨rfl, rfl, rfl, by first | exact Ent.refl _ | exact Ent.nil _ | exact Take.ent' (by repeat' constructor) | (repeat (first | exact Ent.refl _ | refine Ent.drop ?_))⟩
      refine AllObs.mk ?_ ?_
      · refine s_cat rfl rfl rfl (by simp only [ByteArray.size_append, lit1]; omega) ?_
        exact obN rfl
      refine AllObs.mk ?_ ?_
      · refine s_cat rfl rfl rfl (by simp only [ByteArray.size_append, lit1]; omega) ?_
        exact obN rfl
      refine AllObs.mk ?_ ?_
      · refine s_as rfl rfl ?_
        exact obN rfl
      exact AllObs.nil
    · refine Wp.seq ?_
      refine Wp.seq ?_
      refine Wp.region ?_
      refine s_fa (o2 := 0) rfl rfl rfl ?_
      refine s_ld rfl rfl (by rfl) ?_
      refine s_callf rfl rfl (by repeat' constructor) (rbits_spec _) ?_
      rintro _ _ ⟨rfl, rfl⟩
      simp only [napp]
      refine s_notD rfl rfl ?_
      refine WpL.nil ?_
      refine Wp.condD rfl (fun h1 => ?_) (fun h1 => ?_)
      · refine Wp.region ?_
        refine s_mv rfl rfl ?_
        refine s_fa (o2 := 3) rfl rfl rfl ?_
        refine s_ld rfl rfl (by rfl) ?_
        refine s_callf rfl rfl (by repeat' constructor) (Decimal_det _ (by omega) (by omega)) ?_
        rintro _ _ ⟨rfl, rfl⟩
        simp only [napp]
        refine s_cat rfl rfl rfl (by simp only [ByteArray.size_append, lit1]; omega) ?_
        refine s_cat rfl rfl rfl (by simp only [ByteArray.size_append, lit1]; omega) ?_
        refine s_as rfl rfl ?_
        refine WpL.nil ?_
        refine Wp.seq ?_
        refine Wp.region ?_
        refine s_mv rfl rfl ?_
        refine s_as rfl rfl ?_
        refine s_as rfl rfl ?_
        refine WpL.nil ?_
        refine Wp.ret ?_
        apply RetQ.mk
        · exact (Res.two rfl rfl rfl)
        · first | exact ⟨_, by simp only [bsOf_app, digs_str]; rw [hdW, if_neg (by assumption)]; simp [bsOf], rfl, rfl⟩ | exact ⟨_, by simp only [bsOf_app, digs_str]; rw [hdW, if_pos (Classical.not_not.1 (by assumption))]; simp [bsOf], rfl, rfl⟩
        · first | exact Ent.refl _ | exact Ent.nil _ | exact Take.ent' (by repeat' constructor) | (repeat (first | exact Ent.refl _ | refine Ent.drop ?_))
      · refine Wp.skip ?_
        refine Wp.seq ?_
        refine Wp.region ?_
        refine s_mv rfl rfl ?_
        refine s_as rfl rfl ?_
        refine s_as rfl rfl ?_
        refine WpL.nil ?_
        refine Wp.ret ?_
        apply RetQ.mk
        · exact (Res.two rfl rfl rfl)
        · first | exact ⟨_, by simp only [bsOf_app, digs_str]; rw [hdW, if_neg (by assumption)]; simp [bsOf], rfl, rfl⟩ | exact ⟨_, by simp only [bsOf_app, digs_str]; rw [hdW, if_pos (Classical.not_not.1 (by assumption))]; simp [bsOf], rfl, rfl⟩
        · first | exact Ent.refl _ | exact Ent.nil _ | exact Take.ent' (by repeat' constructor) | (repeat (first | exact Ent.refl _ | refine Ent.drop ?_))

end Go.Proofs.YtggamdlpiejbiaaGreat
