/- Walks and plain laws, a part of the proof of PnmOpen: every input that the law's guards let in, no condition beside. -/
import Derived.Test.YtggamdlpiejbiaaGreatM20
namespace Go.Proofs.YtggamdlpiejbiaaGreat
open Go.RowKit Go.Shelf

theorem rlimits_spec (a b d : Int) : Fn Tryz.prog 102 #[.agg #[.int .i64 a, .int .i64 b, .int .i64 d]] [] (fun v l => ∃ gl, v = .slice (some ⟨gl, 0, none⟩) 3 3 ∧ l = [blk gl [.int .i64 (lim0 a), .int .i64 (lim1 b), .int .i64 (lim2 d)] 3]) := by
  refine Fn.intro (vs := [.agg #[.int .i64 a, .int .i64 b, .int .i64 d]]) Tryz.func102 rfl Tryz.ntmps102 rfl ?_
  refine Wp.seq ?_
  refine Wp.region ?_
  refine s_box rfl rfl rfl ?_
  intro g1
  refine s_as rfl rfl ?_
  refine WpL.nil ?_
  refine Wp.seq ?_
  refine Wp.region ?_
  refine s_fa (o2 := 0) rfl rfl rfl ?_
  refine s_ld rfl rfl (by rfl) ?_
  refine s_max2 rfl rfl rfl ?_
  refine s_min2 rfl rfl rfl ?_
  refine s_fa (o2 := 1) rfl rfl rfl ?_
  refine s_ld rfl rfl (by rfl) ?_
  refine s_max2 rfl rfl rfl ?_
  refine s_min2 rfl rfl rfl ?_
  refine s_fa (o2 := 2) rfl rfl rfl ?_
  refine s_ld rfl rfl (by rfl) ?_
  refine s_max2 rfl rfl rfl ?_
  refine s_min2 rfl rfl rfl ?_
  refine s_bs3 rfl rfl rfl rfl rfl rfl rfl rfl ?_
  intro g2
  refine s_as rfl rfl ?_
  refine WpL.nil ?_
  refine Wp.ret ?_
  apply RetQ.mk
  · exact (Res.one rfl rfl)
  · exact ⟨_, rfl, rfl⟩
  · first | exact Ent.refl _ | exact Ent.nil _ | exact Take.ent' (by repeat' constructor) | (repeat (first | exact Ent.refl _ | refine Ent.drop ?_))

set_option maxHeartbeats 2000000 in
theorem rParse_A (a b d : Int) (s : ByteArray) (h : s.size = 0) : Fn Tryz.prog 56 #[.string s, .agg #[.int .i64 a, .int .i64 b, .int .i64 d]] [] (fun v l => ∃ K W H M n e, ((K, W, H, M), n, e) = hdP (lim0 a) (lim1 b) (lim2 d) (bsOf s) ∧ v = .tuple #[.agg #[.int .i64 K, .int .i64 W, .int .i64 H, .int .i64 M], .int .i64 n, .int .i64 e] ∧ l = []) := by
  have hnil : bsOf s = [] := List.eq_nil_of_length_eq_zero (by rw [bsOf_len]; exact h)
  refine Fn.intro (vs := [.string s, .agg #[.int .i64 a, .int .i64 b, .int .i64 d]]) Tryz.func56 rfl Tryz.ntmps56 rfl ?_
  refine Wp.seq ?_
  refine Wp.region ?_
  refine s_box rfl rfl rfl ?_
  intro g1
  refine s_al rfl ?_
  intro g2
  refine s_as rfl rfl ?_
  refine s_as rfl rfl ?_
  refine WpL.nil ?_
  refine Wp.seq ?_
  refine Wp.seq ?_
  refine Wp.region ?_
  refine s_mv rfl rfl ?_
  refine s_lens rfl Tryz.underlying9 rfl ?_
  refine s_gt rfl rfl rfl ?_
  refine s_mv rfl rfl ?_
  refine WpL.knowF (dj := 19) rfl (decide_eq_false (by omega)) ?_
  refine WpL.goff rfl rfl rfl (by decide) ?_
  refine WpL.goff rfl rfl rfl (by decide) ?_
  refine WpL.goff rfl rfl rfl (by decide) ?_
  refine s_pickF rfl rfl rfl ?_
  refine WpL.nil ?_
  refine Wp.condF rfl ?_
  refine Wp.skip ?_
  refine Wp.seq ?_
  refine Wp.seq ?_
  refine Wp.region ?_
  refine s_mv rfl rfl ?_
  refine s_lens rfl Tryz.underlying9 rfl ?_
  refine s_gt rfl rfl rfl ?_
  refine s_mv rfl rfl ?_
  refine WpL.knowF (dj := 28) rfl (decide_eq_false (by omega)) ?_
  refine WpL.goff rfl rfl rfl (by decide) ?_
  refine WpL.goff rfl rfl rfl (by decide) ?_
  refine WpL.goff rfl rfl rfl (by decide) ?_
  refine WpL.goff rfl rfl rfl (by decide) ?_
  refine WpL.goffU rfl rfl rfl ?_
  refine WpL.goffU rfl rfl rfl ?_
  refine WpL.goffU rfl rfl rfl ?_
  refine WpL.goff rfl rfl rfl (by decide) ?_
  refine s_pickF rfl rfl rfl ?_
  refine WpL.nil ?_
  refine Wp.condF rfl ?_
  refine Wp.skip ?_
  refine Wp.seq ?_
  refine Wp.seq ?_
  refine Wp.region ?_
  refine s_mv rfl rfl ?_
  refine s_lens rfl Tryz.underlying9 rfl ?_
  refine s_gt rfl rfl rfl ?_
  refine s_mv rfl rfl ?_
  refine WpL.knowF (dj := 42) rfl (decide_eq_false (by omega)) ?_
  refine WpL.goff rfl rfl rfl (by decide) ?_
  refine WpL.goff rfl rfl rfl (by decide) ?_
  refine WpL.goff rfl rfl rfl (by decide) ?_
  refine s_pickF rfl rfl rfl ?_
  refine s_mv rfl rfl ?_
  refine WpL.goff rfl rfl rfl (by decide) ?_
  refine WpL.goff rfl rfl rfl (by decide) ?_
  refine WpL.goff rfl rfl rfl (by decide) ?_
  refine WpL.goff rfl rfl rfl (by decide) ?_
  refine s_pickF rfl rfl rfl ?_
  refine WpL.nil ?_
  refine Wp.condF rfl ?_
  refine Wp.skip ?_
  refine Wp.seq ?_
  refine Wp.seq ?_
  refine Wp.region ?_
  refine s_mv rfl rfl ?_
  refine s_lens rfl Tryz.underlying9 rfl ?_
  refine s_lt rfl rfl rfl ?_
  refine WpL.nil ?_
  refine Wp.condDT rfl (by omega) ?_
  refine Wp.seq ?_
  refine Wp.region ?_
  refine s_bd rfl rfl ?_
  refine s_mv rfl rfl ?_
  refine s_lens rfl Tryz.underlying9 rfl ?_
  refine s_sta rfl rfl rfl (by rfl) rfl ?_
  refine s_as rfl rfl ?_
  refine s_as rfl rfl ?_
  refine WpL.nil ?_
  refine Wp.ret ?_
  apply RetQ.mk
  · exact (RetQ.cell3 rfl rfl (by rfl) rfl rfl)
  · exact ⟨0, 0, 0, 0, _, _, by rw [hnil, hdP_s0, h]; rfl, rfl, rfl⟩
  · first | exact Ent.refl _ | exact Ent.nil _ | exact Take.ent' (by repeat' constructor) | (repeat (first | exact Ent.refl _ | refine Ent.drop ?_))

set_option maxHeartbeats 2000000 in
theorem rParse_B (a b d : Int) (s : ByteArray) (h : 1 ≤ s.size) (h80 : ((s[0]'(by omega)).toNat : Int) ≠ 80) : Fn Tryz.prog 56 #[.string s, .agg #[.int .i64 a, .int .i64 b, .int .i64 d]] [] (fun v l => ∃ K W H M n e, ((K, W, H, M), n, e) = hdP (lim0 a) (lim1 b) (lim2 d) (bsOf s) ∧ v = .tuple #[.agg #[.int .i64 K, .int .i64 W, .int .i64 H, .int .i64 M], .int .i64 n, .int .i64 e] ∧ l = []) := by
  have hbs : bsOf s = ((s[0]'(by omega)).toNat : Int) :: (bsOf s).drop 1 := by have := bsOf_drop (s := s) (k := 0) (by omega); simpa using this
  refine Fn.intro (vs := [.string s, .agg #[.int .i64 a, .int .i64 b, .int .i64 d]]) Tryz.func56 rfl Tryz.ntmps56 rfl ?_
  refine Wp.seq ?_
  refine Wp.region ?_
  refine s_box rfl rfl rfl ?_
  intro g1
  refine s_al rfl ?_
  intro g2
  refine s_as rfl rfl ?_
  refine s_as rfl rfl ?_
  refine WpL.nil ?_
  refine Wp.seq ?_
  refine Wp.seq ?_
  refine Wp.region ?_
  refine s_mv rfl rfl ?_
  refine s_lens rfl Tryz.underlying9 rfl ?_
  refine s_gt rfl rfl rfl ?_
  refine s_mv rfl rfl ?_
  refine WpL.knowT (dj := 19) rfl (decide_eq_true (by omega)) ?_
  refine WpL.gon rfl rfl ?_
  refine s_mv rfl rfl ?_
  refine WpL.gon rfl rfl ?_
  refine s_ixs rfl Tryz.underlying9 rfl rfl (by omega) (by omega) ?_
  refine WpL.gon rfl rfl ?_
  refine s_ne rfl rfl rfl ?_
  refine s_pickT rfl rfl rfl ?_
  refine WpL.nil ?_
  refine Wp.condDT rfl h80 ?_
  refine Wp.seq ?_
  refine Wp.region ?_
  refine s_bd rfl rfl ?_
  refine s_sta rfl rfl rfl (by rfl) rfl ?_
  refine s_as rfl rfl ?_
  refine s_as rfl rfl ?_
  refine WpL.nil ?_
  refine Wp.ret ?_
  apply RetQ.mk
  · exact (RetQ.cell3 rfl rfl (by rfl) rfl rfl)
  · exact ⟨0, 0, 0, 0, _, _, by rw [hbs, hdP_0 _ _ _ h80], rfl, rfl⟩
  · first | exact Ent.refl _ | exact Ent.nil _ | exact Take.ent' (by repeat' constructor) | (repeat (first | exact Ent.refl _ | refine Ent.drop ?_))

set_option maxHeartbeats 2000000 in
theorem rParse_C (a b d : Int) (s : ByteArray) (h : s.size = 1) (h80 : ((s[0]'(by omega)).toNat : Int) = 80) : Fn Tryz.prog 56 #[.string s, .agg #[.int .i64 a, .int .i64 b, .int .i64 d]] [] (fun v l => ∃ K W H M n e, ((K, W, H, M), n, e) = hdP (lim0 a) (lim1 b) (lim2 d) (bsOf s) ∧ v = .tuple #[.agg #[.int .i64 K, .int .i64 W, .int .i64 H, .int .i64 M], .int .i64 n, .int .i64 e] ∧ l = []) := by
  have hbs : bsOf s = ((s[0]'(by omega)).toNat : Int) :: (bsOf s).drop 1 := by have := bsOf_drop (s := s) (k := 0) (by omega); simpa using this
  have hnil : (bsOf s).drop 1 = [] := List.drop_of_length_le (by rw [bsOf_len]; omega)
  refine Fn.intro (vs := [.string s, .agg #[.int .i64 a, .int .i64 b, .int .i64 d]]) Tryz.func56 rfl Tryz.ntmps56 rfl ?_
  refine Wp.seq ?_
  refine Wp.region ?_
  refine s_box rfl rfl rfl ?_
  intro g1
  refine s_al rfl ?_
  intro g2
  refine s_as rfl rfl ?_
  refine s_as rfl rfl ?_
  refine WpL.nil ?_
  refine Wp.seq ?_
  refine Wp.seq ?_
  refine Wp.region ?_
  refine s_mv rfl rfl ?_
  refine s_lens rfl Tryz.underlying9 rfl ?_
  refine s_gt rfl rfl rfl ?_
  refine s_mv rfl rfl ?_
  refine WpL.knowT (dj := 19) rfl (decide_eq_true (by omega)) ?_
  refine WpL.gon rfl rfl ?_
  refine s_mv rfl rfl ?_
  refine WpL.gon rfl rfl ?_
  refine s_ixs rfl Tryz.underlying9 rfl rfl (by omega) (by omega) ?_
  refine WpL.gon rfl rfl ?_
  refine s_ne rfl rfl rfl ?_
  refine s_pickT rfl rfl rfl ?_
  refine WpL.nil ?_
  refine Wp.condDF rfl (fun h => h h80) ?_
  refine Wp.skip ?_
  refine Wp.seq ?_
  refine Wp.seq ?_
  refine Wp.region ?_
  refine s_mv rfl rfl ?_
  refine s_lens rfl Tryz.underlying9 rfl ?_
  refine s_gt rfl rfl rfl ?_
  refine s_mv rfl rfl ?_
  refine WpL.knowF (dj := 28) rfl (decide_eq_false (by omega)) ?_
  refine WpL.goff rfl rfl rfl (by decide) ?_
  refine WpL.goff rfl rfl rfl (by decide) ?_
  refine WpL.goff rfl rfl rfl (by decide) ?_
  refine WpL.goff rfl rfl rfl (by decide) ?_
  refine WpL.goffU rfl rfl rfl ?_
  refine WpL.goffU rfl rfl rfl ?_
  refine WpL.goffU rfl rfl rfl ?_
  refine WpL.goff rfl rfl rfl (by decide) ?_
  refine s_pickF rfl rfl rfl ?_
  refine WpL.nil ?_
  refine Wp.condF rfl ?_
  refine Wp.skip ?_
  refine Wp.seq ?_
  refine Wp.seq ?_
  refine Wp.region ?_
  refine s_mv rfl rfl ?_
  refine s_lens rfl Tryz.underlying9 rfl ?_
  refine s_gt rfl rfl rfl ?_
  refine s_mv rfl rfl ?_
  refine WpL.knowF (dj := 42) rfl (decide_eq_false (by omega)) ?_
  refine WpL.goff rfl rfl rfl (by decide) ?_
  refine WpL.goff rfl rfl rfl (by decide) ?_
  refine WpL.goff rfl rfl rfl (by decide) ?_
  refine s_pickF rfl rfl rfl ?_
  refine s_mv rfl rfl ?_
  refine WpL.goff rfl rfl rfl (by decide) ?_
  refine WpL.goff rfl rfl rfl (by decide) ?_
  refine WpL.goff rfl rfl rfl (by decide) ?_
  refine WpL.goff rfl rfl rfl (by decide) ?_
  refine s_pickF rfl rfl rfl ?_
  refine WpL.nil ?_
  refine Wp.condF rfl ?_
  refine Wp.skip ?_
  refine Wp.seq ?_
  refine Wp.seq ?_
  refine Wp.region ?_
  refine s_mv rfl rfl ?_
  refine s_lens rfl Tryz.underlying9 rfl ?_
  refine s_lt rfl rfl rfl ?_
  refine WpL.nil ?_
  refine Wp.condDT rfl (by omega) ?_
  refine Wp.seq ?_
  refine Wp.region ?_
  refine s_bd rfl rfl ?_
  refine s_mv rfl rfl ?_
  refine s_lens rfl Tryz.underlying9 rfl ?_
  refine s_sta rfl rfl rfl (by rfl) rfl ?_
  refine s_as rfl rfl ?_
  refine s_as rfl rfl ?_
  refine WpL.nil ?_
  refine Wp.ret ?_
  apply RetQ.mk
  · exact (RetQ.cell3 rfl rfl (by rfl) rfl rfl)
  · exact ⟨0, 0, 0, 0, _, _, by rw [hbs, hnil, hdP_s1 _ _ _ h80, h]; rfl, rfl, rfl⟩
  · first | exact Ent.refl _ | exact Ent.nil _ | exact Take.ent' (by repeat' constructor) | (repeat (first | exact Ent.refl _ | refine Ent.drop ?_))

set_option maxHeartbeats 2000000 in
theorem rParse_D (a b d : Int) (s : ByteArray) (h : 2 ≤ s.size) (h80 : ((s[0]'(by omega)).toNat : Int) = 80) (h1 : ((s[1]'(by omega)).toNat : Int) < 49 ∨ ((s[1]'(by omega)).toNat : Int) > 54) : Fn Tryz.prog 56 #[.string s, .agg #[.int .i64 a, .int .i64 b, .int .i64 d]] [] (fun v l => ∃ K W H M n e, ((K, W, H, M), n, e) = hdP (lim0 a) (lim1 b) (lim2 d) (bsOf s) ∧ v = .tuple #[.agg #[.int .i64 K, .int .i64 W, .int .i64 H, .int .i64 M], .int .i64 n, .int .i64 e] ∧ l = []) := by
  have hbs : bsOf s = ((s[0]'(by omega)).toNat : Int) :: (bsOf s).drop 1 := by have := bsOf_drop (s := s) (k := 0) (by omega); simpa using this
  have hbs1 : (bsOf s).drop 1 = ((s[1]'(by omega)).toNat : Int) :: (bsOf s).drop 2 := bsOf_drop (by omega)
  refine Fn.intro (vs := [.string s, .agg #[.int .i64 a, .int .i64 b, .int .i64 d]]) Tryz.func56 rfl Tryz.ntmps56 rfl ?_
  refine Wp.seq ?_
  refine Wp.region ?_
  refine s_box rfl rfl rfl ?_
  intro g1
  refine s_al rfl ?_
  intro g2
  refine s_as rfl rfl ?_
  refine s_as rfl rfl ?_
  refine WpL.nil ?_
  refine Wp.seq ?_
  refine Wp.seq ?_
  refine Wp.region ?_
  refine s_mv rfl rfl ?_
  refine s_lens rfl Tryz.underlying9 rfl ?_
  refine s_gt rfl rfl rfl ?_
  refine s_mv rfl rfl ?_
  refine WpL.knowT (dj := 19) rfl (decide_eq_true (by omega)) ?_
  refine WpL.gon rfl rfl ?_
  refine s_mv rfl rfl ?_
  refine WpL.gon rfl rfl ?_
  refine s_ixs rfl Tryz.underlying9 rfl rfl (by omega) (by omega) ?_
  refine WpL.gon rfl rfl ?_
  refine s_ne rfl rfl rfl ?_
  refine s_pickT rfl rfl rfl ?_
  refine WpL.nil ?_
  refine Wp.condDF rfl (fun h => h h80) ?_
  refine Wp.skip ?_
  refine Wp.seq ?_
  refine Wp.seq ?_
  refine Wp.region ?_
  refine s_mv rfl rfl ?_
  refine s_lens rfl Tryz.underlying9 rfl ?_
  refine s_gt rfl rfl rfl ?_
  refine s_mv rfl rfl ?_
  refine WpL.knowT (dj := 28) rfl (decide_eq_true (by omega)) ?_
  refine WpL.gon rfl rfl ?_
  refine s_mv rfl rfl ?_
  refine WpL.gon rfl rfl ?_
  refine s_ixs rfl Tryz.underlying9 rfl rfl (by omega) (by omega) ?_
  refine WpL.gon rfl rfl ?_
  refine s_lt rfl rfl rfl ?_
  refine WpL.gon rfl rfl ?_
  refine s_mv rfl rfl ?_
  refine WpL.grd rfl rfl rfl (fun hg3 => ?_) (fun hg3 => ?_)
  · have hg3 := of_decide_eq_false hg3
    refine s_mv rfl rfl ?_
    refine WpL.gon rfl rfl ?_
    refine s_ixs rfl Tryz.underlying9 rfl rfl (by omega) (by omega) ?_
    refine WpL.gon rfl rfl ?_
    refine s_gt rfl rfl rfl ?_
    refine WpL.gon rfl rfl ?_
    refine s_pickF rfl rfl rfl ?_
    refine s_pickT rfl rfl rfl ?_
    refine WpL.nil ?_
    refine Wp.condDT rfl (h1.resolve_left hg3) ?_
    refine Wp.seq ?_
    refine Wp.region ?_
    refine s_bd rfl rfl ?_
    refine s_sta rfl rfl rfl (by rfl) rfl ?_
    refine s_as rfl rfl ?_
    refine s_as rfl rfl ?_
    refine WpL.nil ?_
    refine Wp.ret ?_
    apply RetQ.mk
    · exact (RetQ.cell3 rfl rfl (by rfl) rfl rfl)
    · exact ⟨0, 0, 0, 0, _, _, by rw [hbs, hbs1, hdP_1 _ _ _ h80 h1], rfl, rfl⟩
    · first | exact Ent.refl _ | exact Ent.nil _ | exact Take.ent' (by repeat' constructor) | (repeat (first | exact Ent.refl _ | refine Ent.drop ?_))
  · have hg3 := of_decide_eq_true hg3
    refine WpL.goff rfl rfl rfl (by decide) ?_
    refine WpL.goff rfl rfl rfl (by decide) ?_
    refine WpL.gon rfl rfl ?_
    refine s_pickT rfl rfl rfl ?_
    refine s_pickT rfl rfl rfl ?_
    refine WpL.nil ?_
    refine Wp.condT rfl ?_
    refine Wp.seq ?_
    refine Wp.region ?_
    refine s_bd rfl rfl ?_
    refine s_sta rfl rfl rfl (by rfl) rfl ?_
    refine s_as rfl rfl ?_
    refine s_as rfl rfl ?_
    refine WpL.nil ?_
    refine Wp.ret ?_
    apply RetQ.mk
    · exact (RetQ.cell3 rfl rfl (by rfl) rfl rfl)
    · exact ⟨0, 0, 0, 0, _, _, by rw [hbs, hbs1, hdP_1 _ _ _ h80 h1], rfl, rfl⟩
    · first | exact Ent.refl _ | exact Ent.nil _ | exact Take.ent' (by repeat' constructor) | (repeat (first | exact Ent.refl _ | refine Ent.drop ?_))

set_option maxHeartbeats 2000000 in
theorem rParse_E (a b d : Int) (s : ByteArray) (h : s.size = 2) (h80 : ((s[0]'(by omega)).toNat : Int) = 80) (h1a : ¬ ((s[1]'(by omega)).toNat : Int) < 49) (h1b : ¬ ((s[1]'(by omega)).toNat : Int) > 54) : Fn Tryz.prog 56 #[.string s, .agg #[.int .i64 a, .int .i64 b, .int .i64 d]] [] (fun v l => ∃ K W H M n e, ((K, W, H, M), n, e) = hdP (lim0 a) (lim1 b) (lim2 d) (bsOf s) ∧ v = .tuple #[.agg #[.int .i64 K, .int .i64 W, .int .i64 H, .int .i64 M], .int .i64 n, .int .i64 e] ∧ l = []) := by
  have hbs : bsOf s = ((s[0]'(by omega)).toNat : Int) :: (bsOf s).drop 1 := by have := bsOf_drop (s := s) (k := 0) (by omega); simpa using this
  have hbs1 : (bsOf s).drop 1 = ((s[1]'(by omega)).toNat : Int) :: (bsOf s).drop 2 := bsOf_drop (by omega)
  have hnil : (bsOf s).drop 2 = [] := List.drop_of_length_le (by rw [bsOf_len]; omega)
  have h1c : 49 ≤ ((s[1]'(by omega)).toNat : Int) ∧ ((s[1]'(by omega)).toNat : Int) ≤ 54 := ⟨by omega, by omega⟩
  refine Fn.intro (vs := [.string s, .agg #[.int .i64 a, .int .i64 b, .int .i64 d]]) Tryz.func56 rfl Tryz.ntmps56 rfl ?_
  refine Wp.seq ?_
  refine Wp.region ?_
  refine s_box rfl rfl rfl ?_
  intro g1
  refine s_al rfl ?_
  intro g2
  refine s_as rfl rfl ?_
  refine s_as rfl rfl ?_
  refine WpL.nil ?_
  refine Wp.seq ?_
  refine Wp.seq ?_
  refine Wp.region ?_
  refine s_mv rfl rfl ?_
  refine s_lens rfl Tryz.underlying9 rfl ?_
  refine s_gt rfl rfl rfl ?_
  refine s_mv rfl rfl ?_
  refine WpL.knowT (dj := 19) rfl (decide_eq_true (by omega)) ?_
  refine WpL.gon rfl rfl ?_
  refine s_mv rfl rfl ?_
  refine WpL.gon rfl rfl ?_
  refine s_ixs rfl Tryz.underlying9 rfl rfl (by omega) (by omega) ?_
  refine WpL.gon rfl rfl ?_
  refine s_ne rfl rfl rfl ?_
  refine s_pickT rfl rfl rfl ?_
  refine WpL.nil ?_
  refine Wp.condDF rfl (fun h => h h80) ?_
  refine Wp.skip ?_
  refine Wp.seq ?_
  refine Wp.seq ?_
  refine Wp.region ?_
  refine s_mv rfl rfl ?_
  refine s_lens rfl Tryz.underlying9 rfl ?_
  refine s_gt rfl rfl rfl ?_
  refine s_mv rfl rfl ?_
  refine WpL.knowT (dj := 28) rfl (decide_eq_true (by omega)) ?_
  refine WpL.gon rfl rfl ?_
  refine s_mv rfl rfl ?_
  refine WpL.gon rfl rfl ?_
  refine s_ixs rfl Tryz.underlying9 rfl rfl (by omega) (by omega) ?_
  refine WpL.gon rfl rfl ?_
  refine s_lt rfl rfl rfl ?_
  refine WpL.gon rfl rfl ?_
  refine s_mv rfl rfl ?_
  refine WpL.knowF (dj := 32) rfl (decide_eq_false h1a) ?_
  refine WpL.gon rfl rfl ?_
  refine s_mv rfl rfl ?_
  refine WpL.gon rfl rfl ?_
  refine s_ixs rfl Tryz.underlying9 rfl rfl (by omega) (by omega) ?_
  refine WpL.gon rfl rfl ?_
  refine s_gt rfl rfl rfl ?_
  refine WpL.gon rfl rfl ?_
  refine s_pickF rfl rfl rfl ?_
  refine s_pickT rfl rfl rfl ?_
  refine WpL.nil ?_
  refine Wp.condDF rfl h1b ?_
  refine Wp.skip ?_
  refine Wp.seq ?_
  refine Wp.seq ?_
  refine Wp.region ?_
  refine s_mv rfl rfl ?_
  refine s_lens rfl Tryz.underlying9 rfl ?_
  refine s_gt rfl rfl rfl ?_
  refine s_mv rfl rfl ?_
  refine WpL.knowF (dj := 42) rfl (decide_eq_false (by omega)) ?_
  refine WpL.goff rfl rfl rfl (by decide) ?_
  refine WpL.goff rfl rfl rfl (by decide) ?_
  refine WpL.goff rfl rfl rfl (by decide) ?_
  refine s_pickF rfl rfl rfl ?_
  refine s_mv rfl rfl ?_
  refine WpL.goff rfl rfl rfl (by decide) ?_
  refine WpL.goff rfl rfl rfl (by decide) ?_
  refine WpL.goff rfl rfl rfl (by decide) ?_
  refine WpL.goff rfl rfl rfl (by decide) ?_
  refine s_pickF rfl rfl rfl ?_
  refine WpL.nil ?_
  refine Wp.condF rfl ?_
  refine Wp.skip ?_
  refine Wp.seq ?_
  refine Wp.seq ?_
  refine Wp.region ?_
  refine s_mv rfl rfl ?_
  refine s_lens rfl Tryz.underlying9 rfl ?_
  refine s_lt rfl rfl rfl ?_
  refine WpL.nil ?_
  refine Wp.condDT rfl (by omega) ?_
  refine Wp.seq ?_
  refine Wp.region ?_
  refine s_bd rfl rfl ?_
  refine s_mv rfl rfl ?_
  refine s_lens rfl Tryz.underlying9 rfl ?_
  refine s_sta rfl rfl rfl (by rfl) rfl ?_
  refine s_as rfl rfl ?_
  refine s_as rfl rfl ?_
  refine WpL.nil ?_
  refine Wp.ret ?_
  apply RetQ.mk
  · exact (RetQ.cell3 rfl rfl (by rfl) rfl rfl)
  · exact ⟨0, 0, 0, 0, _, _, by rw [hbs, hbs1, hnil, hdP_s2 _ _ _ h80 h1c, h]; rfl, rfl, rfl⟩
  · first | exact Ent.refl _ | exact Ent.nil _ | exact Take.ent' (by repeat' constructor) | (repeat (first | exact Ent.refl _ | refine Ent.drop ?_))

set_option maxHeartbeats 2000000 in
theorem rParse_F (a b d : Int) (s : ByteArray) (h : 3 ≤ s.size) (h80 : ((s[0]'(by omega)).toNat : Int) = 80) (h1a : ¬ ((s[1]'(by omega)).toNat : Int) < 49) (h1b : ¬ ((s[1]'(by omega)).toNat : Int) > 54) (h2 : ((s[2]'(by omega)).toNat : Int) ≠ 35) (h2b : blankB ((s[2]'(by omega)).toNat : Int) = false) : Fn Tryz.prog 56 #[.string s, .agg #[.int .i64 a, .int .i64 b, .int .i64 d]] [] (fun v l => ∃ K W H M n e, ((K, W, H, M), n, e) = hdP (lim0 a) (lim1 b) (lim2 d) (bsOf s) ∧ v = .tuple #[.agg #[.int .i64 K, .int .i64 W, .int .i64 H, .int .i64 M], .int .i64 n, .int .i64 e] ∧ l = []) := by
  have hbs : bsOf s = ((s[0]'(by omega)).toNat : Int) :: (bsOf s).drop 1 := by have := bsOf_drop (s := s) (k := 0) (by omega); simpa using this
  have hbs1 : (bsOf s).drop 1 = ((s[1]'(by omega)).toNat : Int) :: (bsOf s).drop 2 := bsOf_drop (by omega)
  have hbs2 : (bsOf s).drop 2 = ((s[2]'(by omega)).toNat : Int) :: (bsOf s).drop 3 := bsOf_drop (by omega)
  have h1c : 49 ≤ ((s[1]'(by omega)).toNat : Int) ∧ ((s[1]'(by omega)).toNat : Int) ≤ 54 := ⟨by omega, by omega⟩
  refine Fn.intro (vs := [.string s, .agg #[.int .i64 a, .int .i64 b, .int .i64 d]]) Tryz.func56 rfl Tryz.ntmps56 rfl ?_
  refine Wp.seq ?_
  refine Wp.region ?_
  refine s_box rfl rfl rfl ?_
  intro g1
  refine s_al rfl ?_
  intro g2
  refine s_as rfl rfl ?_
  refine s_as rfl rfl ?_
  refine WpL.nil ?_
  refine Wp.seq ?_
  refine Wp.seq ?_
  refine Wp.region ?_
  refine s_mv rfl rfl ?_
  refine s_lens rfl Tryz.underlying9 rfl ?_
  refine s_gt rfl rfl rfl ?_
  refine s_mv rfl rfl ?_
  refine WpL.knowT (dj := 19) rfl (decide_eq_true (by omega)) ?_
  refine WpL.gon rfl rfl ?_
  refine s_mv rfl rfl ?_
  refine WpL.gon rfl rfl ?_
  refine s_ixs rfl Tryz.underlying9 rfl rfl (by omega) (by omega) ?_
  refine WpL.gon rfl rfl ?_
  refine s_ne rfl rfl rfl ?_
  refine s_pickT rfl rfl rfl ?_
  refine WpL.nil ?_
  refine Wp.condDF rfl (fun h => h h80) ?_
  refine Wp.skip ?_
  refine Wp.seq ?_
  refine Wp.seq ?_
  refine Wp.region ?_
  refine s_mv rfl rfl ?_
  refine s_lens rfl Tryz.underlying9 rfl ?_
  refine s_gt rfl rfl rfl ?_
  refine s_mv rfl rfl ?_
  refine WpL.knowT (dj := 28) rfl (decide_eq_true (by omega)) ?_
  refine WpL.gon rfl rfl ?_
  refine s_mv rfl rfl ?_
  refine WpL.gon rfl rfl ?_
  refine s_ixs rfl Tryz.underlying9 rfl rfl (by omega) (by omega) ?_
  refine WpL.gon rfl rfl ?_
  refine s_lt rfl rfl rfl ?_
  refine WpL.gon rfl rfl ?_
  refine s_mv rfl rfl ?_
  refine WpL.knowF (dj := 32) rfl (decide_eq_false h1a) ?_
  refine WpL.gon rfl rfl ?_
  refine s_mv rfl rfl ?_
  refine WpL.gon rfl rfl ?_
  refine s_ixs rfl Tryz.underlying9 rfl rfl (by omega) (by omega) ?_
  refine WpL.gon rfl rfl ?_
  refine s_gt rfl rfl rfl ?_
  refine WpL.gon rfl rfl ?_
  refine s_pickF rfl rfl rfl ?_
  refine s_pickT rfl rfl rfl ?_
  refine WpL.nil ?_
  refine Wp.condDF rfl h1b ?_
  refine Wp.skip ?_
  refine Wp.seq ?_
  refine Wp.seq ?_
  refine Wp.region ?_
  refine s_mv rfl rfl ?_
  refine s_lens rfl Tryz.underlying9 rfl ?_
  refine s_gt rfl rfl rfl ?_
  refine s_mv rfl rfl ?_
  refine WpL.knowT (dj := 42) rfl (decide_eq_true (by omega)) ?_
  refine WpL.gon rfl rfl ?_
  refine s_mv rfl rfl ?_
  refine WpL.gon rfl rfl ?_
  refine s_ixs rfl Tryz.underlying9 rfl rfl (by omega) (by omega) ?_
  refine WpL.gon rfl rfl ?_
  refine s_ne rfl rfl rfl ?_
  refine s_pickT rfl rfl rfl ?_
  refine s_mv rfl rfl ?_
  refine WpL.knowT (dj := 47) rfl (decide_eq_true h2) ?_
  refine WpL.gon rfl rfl ?_
  refine s_mv rfl rfl ?_
  refine WpL.gon rfl rfl ?_
  refine s_ixs rfl Tryz.underlying9 rfl rfl (by omega) (by omega) ?_
  refine WpL.gon rfl rfl ?_
  refine s_callf rfl rfl (by repeat' constructor) (rBlank_spec _) ?_
  rintro _ _ ⟨rfl, rfl⟩
  simp only [napp]
  refine WpL.gon rfl rfl ?_
  refine s_not rfl rfl ?_
  refine s_pickT rfl rfl rfl ?_
  refine WpL.nil ?_
  refine Wp.condBT rfl (by first | exact congrArg (! ·) h2b | rw [h2b]; rfl) ?_
  refine Wp.seq ?_
  refine Wp.region ?_
  refine s_bd rfl rfl ?_
  refine s_sta rfl rfl rfl (by rfl) rfl ?_
  refine s_as rfl rfl ?_
  refine s_as rfl rfl ?_
  refine WpL.nil ?_
  refine Wp.ret ?_
  apply RetQ.mk
  · exact (RetQ.cell3 rfl rfl (by rfl) rfl rfl)
  · exact ⟨0, 0, 0, 0, _, _, by rw [hbs, hbs1, hbs2, hdP_2 _ _ _ h80 h1c ⟨h2b, h2⟩], rfl, rfl⟩
  · first | exact Ent.refl _ | exact Ent.nil _ | exact Take.ent' (by repeat' constructor) | (repeat (first | exact Ent.refl _ | refine Ent.drop ?_))


structure PaX where
  (i at_ : Nat) (W H M : Int)
structure PbX where
  (k : Int) (at_ : Nat) (t : TS)
theorem lsel_lim (a b d : Int) (i : Nat) (h : i < 3) : [Value.int .i64 (lim0 a), .int .i64 (lim1 b), .int .i64 (lim2 d)][i]? = some (.int .i64 (lsel (lim0 a) (lim1 b) (lim2 d) i)) := by
  obtain rfl | rfl | rfl : i = 0 ∨ i = 1 ∨ i = 2 := by omega
  all_goals rfl
theorem lsel_bd (a b d : Int) (i : Int) : 0 ≤ lsel (lim0 a) (lim1 b) (lim2 d) i ∧ lsel (lim0 a) (lim1 b) (lim2 d) i ≤ 1000000 := by
  have := lim_o a b d
  have h1 := this.a
  have h2 := this.b
  have h3 := this.c
  unfold lsel
  split
  · omega
  · split <;> omega
theorem numRun_step {most : Int} {t : TS} {c : Int} {bs : List Int} {n : Int} {r : TS × Int × Int} (h : r = numRun most t (c :: bs) n) : r = if (tkPut most t c).2 = 0 then numRun most (tkPut most t c).1 bs (n + 1) else ((tkPut most t c).1, (tkPut most t c).2, n + 1) := by
  rw [h, numRun]
  by_cases h0 : (tkPut most t c).2 = 0
  · rw [if_neg (fun q => q h0), if_pos h0]
  · rw [if_pos h0, if_neg h0]

set_option maxHeartbeats 2000000 in
theorem rParse_G (a b d : Int) (s : ByteArray) (h : 3 ≤ s.size) (h80 : ((s[0]'(by omega)).toNat : Int) = 80) (h1a : ¬ ((s[1]'(by omega)).toNat : Int) < 49) (h1b : ¬ ((s[1]'(by omega)).toNat : Int) > 54) (h2 : blankB ((s[2]'(by omega)).toNat : Int) = true ∨ ((s[2]'(by omega)).toNat : Int) = 35) (hsz : s.size ≤ 1000000000000) : Fn Tryz.prog 56 #[.string s, .agg #[.int .i64 a, .int .i64 b, .int .i64 d]] [] (fun v l => ∃ K W H M n e, ((K, W, H, M), n, e) = hdP (lim0 a) (lim1 b) (lim2 d) (bsOf s) ∧ v = .tuple #[.agg #[.int .i64 K, .int .i64 W, .int .i64 H, .int .i64 M], .int .i64 n, .int .i64 e] ∧ l = []) := by
  have hbs : bsOf s = ((s[0]'(by omega)).toNat : Int) :: (bsOf s).drop 1 := by have := bsOf_drop (s := s) (k := 0) (by omega); simpa using this
  have hbs1 : (bsOf s).drop 1 = ((s[1]'(by omega)).toNat : Int) :: (bsOf s).drop 2 := bsOf_drop (by omega)
  have hbs2 : (bsOf s).drop 2 = ((s[2]'(by omega)).toNat : Int) :: (bsOf s).drop 3 := bsOf_drop (by omega)
  have h1c : 49 ≤ ((s[1]'(by omega)).toNat : Int) ∧ ((s[1]'(by omega)).toNat : Int) ≤ 54 := ⟨by omega, by omega⟩
  refine Fn.intro (vs := [.string s, .agg #[.int .i64 a, .int .i64 b, .int .i64 d]]) Tryz.func56 rfl Tryz.ntmps56 rfl ?_
  refine Wp.seq ?_
  refine Wp.region ?_
  refine s_box rfl rfl rfl ?_
  intro g1
  refine s_al rfl ?_
  intro gO
  refine s_as rfl rfl ?_
  refine s_as rfl rfl ?_
  refine WpL.nil ?_
  refine Wp.seq ?_
  refine Wp.seq ?_
  refine Wp.region ?_
  refine s_mv rfl rfl ?_
  refine s_lens rfl Tryz.underlying9 rfl ?_
  refine s_gt rfl rfl rfl ?_
  refine s_mv rfl rfl ?_
  refine WpL.knowT (dj := 19) rfl (decide_eq_true (by omega)) ?_
  refine WpL.gon rfl rfl ?_
  refine s_mv rfl rfl ?_
  refine WpL.gon rfl rfl ?_
  refine s_ixs rfl Tryz.underlying9 rfl rfl (by omega) (by omega) ?_
  refine WpL.gon rfl rfl ?_
  refine s_ne rfl rfl rfl ?_
  refine s_pickT rfl rfl rfl ?_
  refine WpL.nil ?_
  refine Wp.condDF rfl (fun h => h h80) ?_
  refine Wp.skip ?_
  refine Wp.seq ?_
  refine Wp.seq ?_
  refine Wp.region ?_
  refine s_mv rfl rfl ?_
  refine s_lens rfl Tryz.underlying9 rfl ?_
  refine s_gt rfl rfl rfl ?_
  refine s_mv rfl rfl ?_
  refine WpL.knowT (dj := 28) rfl (decide_eq_true (by omega)) ?_
  refine WpL.gon rfl rfl ?_
  refine s_mv rfl rfl ?_
  refine WpL.gon rfl rfl ?_
  refine s_ixs rfl Tryz.underlying9 rfl rfl (by omega) (by omega) ?_
  refine WpL.gon rfl rfl ?_
  refine s_lt rfl rfl rfl ?_
  refine WpL.gon rfl rfl ?_
  refine s_mv rfl rfl ?_
  refine WpL.knowF (dj := 32) rfl (decide_eq_false h1a) ?_
  refine WpL.gon rfl rfl ?_
  refine s_mv rfl rfl ?_
  refine WpL.gon rfl rfl ?_
  refine s_ixs rfl Tryz.underlying9 rfl rfl (by omega) (by omega) ?_
  refine WpL.gon rfl rfl ?_
  refine s_gt rfl rfl rfl ?_
  refine WpL.gon rfl rfl ?_
  refine s_pickF rfl rfl rfl ?_
  refine s_pickT rfl rfl rfl ?_
  refine WpL.nil ?_
  refine Wp.condDF rfl h1b ?_
  refine Wp.skip ?_
  refine Wp.seq ?_
  refine Wp.seq ?_
  refine Wp.region ?_
  refine s_mv rfl rfl ?_
  refine s_lens rfl Tryz.underlying9 rfl ?_
  refine s_gt rfl rfl rfl ?_
  refine s_mv rfl rfl ?_
  refine WpL.knowT (dj := 42) rfl (decide_eq_true (by omega)) ?_
  refine WpL.gon rfl rfl ?_
  refine s_mv rfl rfl ?_
  refine WpL.gon rfl rfl ?_
  refine s_ixs rfl Tryz.underlying9 rfl rfl (by omega) (by omega) ?_
  refine WpL.gon rfl rfl ?_
  refine s_ne rfl rfl rfl ?_
  refine s_pickT rfl rfl rfl ?_
  refine s_mv rfl rfl ?_
  refine WpL.grd rfl rfl rfl (fun hg5 => ?_) (fun hg5 => ?_)
  · have hg5 := of_decide_eq_true hg5
    refine s_mv rfl rfl ?_
    refine WpL.gon rfl rfl ?_
    refine s_ixs rfl Tryz.underlying9 rfl rfl (by omega) (by omega) ?_
    refine WpL.gon rfl rfl ?_
    refine s_callf rfl rfl (by repeat' constructor) (rBlank_spec _) ?_
    rintro _ _ ⟨rfl, rfl⟩
    simp only [napp]
    refine WpL.gon rfl rfl ?_
    refine s_not rfl rfl ?_
    refine s_pickT rfl rfl rfl ?_
    refine WpL.nil ?_
    refine Wp.condBF rfl (by first | exact congrArg (! ·) (h2.resolve_right hg5) | (rw [h2.resolve_right hg5]; rfl)) ?_
    refine Wp.skip ?_
    refine Wp.seq ?_
    refine Wp.seq ?_
    refine Wp.region ?_
    refine s_mv rfl rfl ?_
    refine s_lens rfl Tryz.underlying9 rfl ?_
    refine s_lt rfl rfl rfl ?_
    refine WpL.nil ?_
    refine Wp.condDF rfl (by omega) ?_
    refine Wp.skip ?_
    refine Wp.seq ?_
    refine Wp.region ?_
    refine s_mv rfl rfl ?_
    refine s_ixs rfl Tryz.underlying9 rfl rfl (by omega) (by omega) ?_
    have hu1 := u8_lt (s[1]'(by omega))
    change WpL _ _ _ _ _ _ ((61, Value.int .u8 ((s[1]'(by omega)).toNat : Int)) :: _) _
    first | refine s_cvi rfl Tryz.underlying5 rfl (w_i64 (by omega) (by omega)) ?_ | refine s_cviw rfl Tryz.underlying5 rfl ?_
    refine s_sub rfl rfl rfl (w_i64 (by omega) (by omega)) ?_
    change WpL _ _ _ _ _ _ ((63, Value.int .i64 (((s[1]'(by omega)).toNat : Int) - 48)) :: _) _
    have hp0 := hdP_3 (lim0 a) (lim1 b) (lim2 d) (bs := (bsOf s).drop 3) (lim_o a b d).a.1 h80 h1c h2
    rw [← hbs2, ← hbs1, ← hbs] at hp0
    have hK0 : 1 ≤ ((s[1]'(by omega)).toNat : Int) - 48 ∧ ((s[1]'(by omega)).toNat : Int) - 48 ≤ 6 := by omega
    generalize ((s[1]'(by omega)).toNat : Int) - 48 = K at hp0 hK0 ⊢
    have hpar : ∀ M, parI (lim0 a) (lim1 b) (lim2 d) K (bsOf s) 0 2 0 0 M := fun M => by unfold parI; rw [if_neg (by omega)]; exact hp0
    refine s_bd rfl rfl ?_
    refine s_al rfl ?_
    intro gH
    refine s_sta rfl rfl rfl (by rfl) rfl ?_
    refine WpL.nil ?_
    refine Wp.seq ?_
    refine Wp.region ?_
    refine s_as rfl rfl ?_
    refine WpL.nil ?_
    refine Wp.seq ?_
    refine Wp.seq ?_
    refine Wp.region ?_
    refine s_fa (o2 := 0) rfl rfl rfl ?_
    refine s_ld rfl rfl (by rfl) ?_
    refine s_callf rfl rfl (by repeat' constructor) (rbits_spec _) ?_
    rintro _ _ ⟨rfl, rfl⟩
    simp only [napp]
    refine WpL.nil ?_
    refine Wp.condD rfl (fun h4 => ?_) (fun h4 => ?_)
    · refine Wp.seq ?_
      refine Wp.region ?_
      refine s_as rfl rfl ?_
      refine WpL.nil ?_
      refine Wp.region ?_
      refine s_fa (o2 := 3) rfl rfl rfl ?_
      refine s_st rfl rfl rfl ?_
      refine WpL.nil ?_
      refine Wp.seq ?_
      refine Wp.region ?_
      refine s_lda (vs := [_, _, _]) rfl rfl rfl (by rfl) ?_
      refine s_callf rfl rfl (by repeat' constructor) (rlimits_spec _ _ _) ?_
      rintro _ _ ⟨gl, rfl, rfl⟩
      simp only [napp]
      refine s_as rfl rfl ?_
      refine WpL.nil ?_
      refine Wp.seq ?_
      refine Wp.region ?_
      refine s_as rfl rfl ?_
      refine WpL.nil ?_
      refine Wp.seq ?_
      refine Wp.seq ?_
      refine Wp.region ?_
      refine s_as rfl rfl ?_
      refine WpL.nil ?_
      refine Wp.block ?_
      refine Wp.loopD (σ := PaX) (fun x => x.at_ ≤ s.size ∧ x.i ≤ 3 ∧ (bitsK K → x.i ≤ 2 ∧ x.M = 1) ∧ parI (lim0 a) (lim1 b) (lim2 d) K (bsOf s) x.i x.at_ x.W x.H x.M) [5, 6, 10, 11, 12, 13, 14, 15, 71, 72, 73, 74, 75, 76, 77, 78, 79, 80, 81, 82, 83, 84, 85, 86, 87, 88, 89, 90, 91, 92, 93, 94, 95, 96, 97, 98, 99, 100, 101, 102, 103, 104, 105, 106, 107, 108, 109, 110, 111, 112, 113, 114, 115, 116, 117, 118, 119, 120, 121, 122, 123, 124, 125, 126, 127, 128, 129] (fun x => [(11, .int .i64 (x.i : Int)), (10, .int .i64 (x.at_ : Int))]) (fun x => [blk gH [.int .i64 K, .int .i64 x.W, .int .i64 x.H, .int .i64 x.M] 113, blk gl [.int .i64 (lim0 a), .int .i64 (lim1 b), .int .i64 (lim2 d)] 3, blk gO [.int .i64 0, .int .i64 0, .int .i64 0, .int .i64 0] 113]) (fun x => 3 - x.i) ⟨0, 2, 0, 0, (if bitsK K then 1 else 0)⟩ ?_ (by repeat (first | exact FrLe.nil | refine FrLe.cons rfl ?_)) ?_ ?_
      · exact ⟨by simp only; omega, by simp, fun hb => ⟨by simp, by simp only; rw [if_pos hb]⟩, hpar _⟩
      · first | (rw [show (if bitsK K then (1 : Int) else 0) = 1 from if_pos h4]; first | exact Ent.refl _ | exact Ent.nil _ | exact Take.ent' (by repeat' constructor) | (repeat (first | exact Ent.refl _ | refine Ent.drop ?_))) | (rw [show (if bitsK K then (1 : Int) else 0) = 0 from if_neg h4]; first | exact Ent.refl _ | exact Ent.nil _ | exact Take.ent' (by repeat' constructor) | (repeat (first | exact Ent.refl _ | refine Ent.drop ?_)))
      · rintro ⟨i, at_, W, H, M⟩ ⟨hat, hi3, hbk, hpi⟩
        dsimp only at hat hi3 hbk hpi ⊢
        refine Wp.seq ?_
        refine Wp.seq ?_
        refine Wp.region ?_
        refine s_mv rfl rfl ?_
        refine s_mv rfl rfl ?_
        refine s_lt rfl rfl rfl ?_
        refine WpL.nil ?_
        refine Wp.condD rfl (fun h6 => ?_) (fun h6 => ?_)
        · have hi : i < 3 := by omega
          refine Wp.skip ?_
          refine Wp.seq ?_
          refine Wp.block ?_
          refine Wp.seq ?_
          refine Wp.region ?_
          refine s_mv rfl rfl ?_
          refine s_mv rfl rfl ?_
          refine s_ixa i rfl rfl rfl (RdsL.blk (o := 0) (xs := [.int .i64 (lim0 a), .int .i64 (lim1 b), .int .i64 (lim2 d)]) rfl) (by first | exact Take.ent' (by repeat' constructor) | (repeat (first | exact Ent.refl _ | refine Ent.drop ?_))) rfl (by omega) (by simp only [List.length_cons, List.length_nil]; omega) ?_
          refine s_ldx rfl rfl (RdsL.blk (o := 0) (xs := [.int .i64 (lim0 a), .int .i64 (lim1 b), .int .i64 (lim2 d)]) rfl) (by first | exact Take.ent' (by repeat' constructor) | (repeat (first | exact Ent.refl _ | refine Ent.drop ?_))) (lsel_lim a b d i hi) ?_
          refine s_callf rfl rfl (by repeat' constructor) (rtkNew_spec _) ?_
          rintro _ _ ⟨rfl, rfl⟩
          simp only [napp]
          refine s_al rfl ?_
          intro gN
          refine s_sta rfl rfl rfl (by rfl) rfl ?_
          refine WpL.nil ?_
          refine Wp.seq ?_
          refine Wp.region ?_
          refine s_as rfl rfl ?_
          refine WpL.nil ?_
          refine Wp.seq ?_
          refine Wp.block ?_
          refine Wp.loopD (σ := PbX) (fun y => at_ ≤ y.at_ ∧ y.at_ ≤ s.size ∧ (y.k = 0 → tkOk (lsel (lim0 a) (lim1 b) (lim2 d) i) y.t) ∧ numRun (lsel (lim0 a) (lim1 b) (lim2 d) i) tk0 ((bsOf s).drop at_) at_ = (if y.k = 0 then numRun (lsel (lim0 a) (lim1 b) (lim2 d) i) y.t ((bsOf s).drop y.at_) y.at_ else (y.t, y.k, (y.at_ : Int)))) [10, 13, 14, 15, 81, 82, 83, 84, 85, 86, 87, 88, 89, 90, 91, 92, 93, 94, 95, 96, 97, 98, 99, 100] (fun y => [(13, .int .i64 y.k), (10, .int .i64 (y.at_ : Int))]) (fun y => [blk gN [.int .i64 y.t.ph, .int .i64 y.t.n, .int .i64 (lsel (lim0 a) (lim1 b) (lim2 d) i), .int .i64 y.t.e] 170, blk gH [.int .i64 K, .int .i64 W, .int .i64 H, .int .i64 M] 113, blk gl [.int .i64 (lim0 a), .int .i64 (lim1 b), .int .i64 (lim2 d)] 3, blk gO [.int .i64 0, .int .i64 0, .int .i64 0, .int .i64 0] 113]) (fun y => s.size - y.at_) ⟨0, at_, tk0⟩ ?_ (by repeat (first | exact FrLe.nil | refine FrLe.cons rfl ?_)) ?_ ?_
          · exact ⟨Nat.le_refl _, hat, fun _ => (show tkOk _ tk0 by unfold tkOk tk0; dsimp only; have := (lsel_bd a b d i).1; omega), (if_pos rfl).symm⟩
          · first | exact Ent.refl _ | exact Ent.nil _ | exact Take.ent' (by repeat' constructor) | (repeat (first | exact Ent.refl _ | refine Ent.drop ?_))
          · rintro ⟨k, at2, t⟩ ⟨ha2, hat2, htk, hnr⟩
            dsimp only at ha2 hat2 htk hnr ⊢
            refine Wp.seq ?_
            refine Wp.seq ?_
            refine Wp.region ?_
            refine s_mv rfl rfl ?_
            refine s_eq rfl rfl rfl ?_
            refine s_mv rfl rfl ?_
            refine WpL.grd rfl rfl rfl (fun hg6 => ?_) (fun hg6 => ?_)
            · have hg6 := of_decide_eq_true hg6
              refine s_mv rfl rfl ?_
              refine WpL.gon rfl rfl ?_
              refine s_mv rfl rfl ?_
              refine WpL.gon rfl rfl ?_
              refine s_lens rfl Tryz.underlying9 rfl ?_
              refine WpL.gon rfl rfl ?_
              refine s_lt rfl rfl rfl ?_
              refine s_pickT rfl rfl rfl ?_
              refine WpL.nil ?_
              refine Wp.condD rfl (fun h8 => ?_) (fun h8 => ?_)
              · have hlt : at2 < s.size := by omega
                obtain ⟨cc, hcc⟩ : ∃ cc : Int, cc = ((s[at2]'hlt).toNat : Int) := ⟨_, rfl⟩
                obtain rfl : k = 0 := by assumption
                have htk2 := htk rfl
                rw [if_pos rfl] at hnr
                have hdr := bsOf_drop hlt
                rw [← hcc] at hdr
                rw [hdr] at hnr
                have hst := numRun_step hnr
                refine Wp.skip ?_
                refine Wp.block ?_
                refine Wp.seq ?_
                apply Wp.drawGA (fB := []) mixed 8 [(8, true)] rfl rfl (by kernel_rfl)
                apply GoR.segT [⟨0, 90, _, [], false⟩, ⟨1, 91, _, [], false⟩, ⟨2, 92, _, [], false⟩, ⟨3, 93, _, [1, 2], false⟩, ⟨4, 94, _, [0, 3], false⟩, ⟨5, 89, _, [4], false⟩, ⟨6, 95, _, [5], false⟩, ⟨7, 96, _, [5], true⟩] [] [0, 1, 2, 3, 4, 5, 6] [15, 96] (.inl ⟨_, .nil⟩) rfl rfl rfl (by kernel_rfl) rfl rfl rfl rfl
                · refine AllF.cons rfl rfl rfl rfl ?_ ?_
                  · refine s_lda (vs := [_, _, _, _]) rfl rfl rfl (by rfl) ?_
                    exact obN rfl
                  refine AllF.cons rfl rfl rfl rfl ?_ ?_
                  · refine s_mv rfl rfl ?_
                    exact obN rfl
                  refine AllF.cons rfl rfl rfl rfl ?_ ?_
                  · refine s_mv rfl rfl ?_
                    exact obN rfl
                  refine AllF.cons rfl rfl rfl rfl ?_ ?_
                  · refine s_ixs rfl Tryz.underlying9 rfl rfl (by omega) (by omega) ?_
                    change WpL _ _ _ _ _ _ ((93, Value.int .u8 ((s[at2]'hlt).toNat : Int)) :: _) _
                    rw [← hcc]
                    exact obN rfl
                  refine AllF.cons rfl rfl rfl rfl ?_ ?_
                  · refine s_callf rfl rfl (by repeat' constructor) (rtkPut_spec t.ph t.n _ t.e cc (by rw [hcc]; omega) (by rw [hcc]; exact u8_lt _) htk2.2.2.1 (lsel_bd a b d i).1 (lsel_bd a b d i).2 ⟨htk2.1, by have := htk2.2.1; omega⟩) ?_
                    rintro _ _ ⟨rfl, rfl⟩
                    simp only [napp]
                    exact WpL.nil ⟨rfl, rfl, rfl, by first | exact Ent.refl _ | exact Ent.nil _ | exact Take.ent' (by repeat' constructor) | (repeat (first | exact Ent.refl _ | refine Ent.drop ?_))⟩
                  refine AllF.cons rfl rfl rfl rfl ?_ ?_
                  · refine s_mv rfl rfl ?_
                    exact obN rfl
                  refine AllF.cons rfl rfl rfl rfl ?_ ?_
                  · refine s_ext rfl rfl rfl ?_
                    exact obN rfl
                  refine AllF.consR rfl rfl rfl rfl ?_ ?_
                  · refine s_ext rfl rfl rfl ?_
                    exact obN rfl
                  exact AllF.nil
                · intro gS
                  refine s_sta rfl rfl rfl (by rfl) rfl ?_
                  refine WpL.nil ⟨rfl, rfl, ?_⟩
                  apply GoR.nil [⟨10, 15, _, [0, 1, 2, 3, 4, 5, 6, 7, 8, 9], false⟩] (.inl ⟨_, .nil⟩) rfl rfl
                  · refine AllF.cons rfl rfl rfl rfl ?_ ?_
                    · refine s_as rfl rfl ?_
                      exact obN rfl
                    exact AllF.nil
                  · refine Wp.seq ?_
                    refine Wp.region ?_
                    refine s_lda (vs := [_, _, _, _]) rfl rfl rfl (by rfl) ?_
                    refine s_sta rfl rfl rfl (by rfl) rfl ?_
                    refine WpL.nil ?_
                    refine Wp.seq ?_
                    refine Wp.region ?_
                    refine s_mv rfl rfl ?_
                    refine s_as rfl rfl ?_
                    refine WpL.nil ?_
                    refine Wp.region ?_
                    refine s_mv rfl rfl ?_
                    first | refine s_add rfl rfl rfl (w_i64 (by omega) (by omega)) ?_ | refine s_addw rfl rfl rfl ?_
                    refine s_as rfl rfl ?_
                    refine WpL.nil ?_
                    refine loopD.next (Q := fun _ _ _ _ => False) (⟨(tkPut (lsel (lim0 a) (lim1 b) (lim2 d) i) t cc).2, at2 + 1, (tkPut (lsel (lim0 a) (lim1 b) (lim2 d) i) t cc).1⟩ : PbX) ?_ ?_ (by first | ((repeat (first | exact Top.refl | refine Top.push rfl ?_ | refine Top.drop rfl ?_)); done) | exact Top.le (by repeat (first | exact FrLe.nil | refine FrLe.cons rfl ?_))) (by repeat (first | exact FrLe.nil | refine FrLe.cons rfl ?_)) ?_
                    · exact ⟨by simp only; omega, by simp only; omega, fun q => by rcases tkPut_cases (c := cc) htk2 with z | z | z; exact z.2; exact absurd q (by simp only; omega); exact absurd q (by simp only; omega), hst⟩
                    · simp only; omega
                    · first | exact Ent.refl _ | exact Ent.nil _ | exact Take.ent' (by repeat' constructor) | (repeat (first | exact Ent.refl _ | refine Ent.drop ?_))
              · refine Wp.exit ?_
                refine Wp.seq ?_
                refine Wp.seq ?_
                refine Wp.region ?_
                refine s_mv rfl rfl ?_
                refine s_eq rfl rfl rfl ?_
                refine WpL.nil ?_
                refine Wp.condD rfl (fun h9 => ?_) (fun h9 => ?_)
                · have hr : numRun (lsel (lim0 a) (lim1 b) (lim2 d) i) tk0 ((bsOf s).drop at_) at_ = (t, k, (at2 : Int)) := by
                    by_cases hk0 : k = 0
                    · rw [hnr, if_pos hk0, show (bsOf s).drop at2 = [] from List.drop_of_length_le (by rw [bsOf_len]; omega), hk0]; rfl
                    · rw [hnr, if_neg hk0]
                  have hps := parI_step hpi hi (fun hb => ⟨by first | omega | exact absurd hb h4, (hbk hb).2⟩) hr
                  refine Wp.seq ?_
                  refine Wp.region ?_
                  refine s_bd rfl rfl ?_
                  refine s_mv rfl rfl ?_
                  refine s_sta rfl rfl rfl (by rfl) rfl ?_
                  refine s_as rfl rfl ?_
                  refine s_as rfl rfl ?_
                  refine WpL.nil ?_
                  refine Wp.ret ?_
                  apply RetQ.mk
                  · exact (RetQ.cell3 rfl rfl (by rfl) rfl rfl)
                  · exact ⟨0, 0, 0, 0, _, 6, by rw [hps.1 h9, bsOf_len, show s.size = at2 by omega], rfl, rfl⟩
                  · first | exact Ent.refl _ | exact Ent.nil _ | exact Take.ent' (by repeat' constructor) | (repeat (first | exact Ent.refl _ | refine Ent.drop ?_))
                · have hr : numRun (lsel (lim0 a) (lim1 b) (lim2 d) i) tk0 ((bsOf s).drop at_) at_ = (t, k, (at2 : Int)) := by
                    by_cases hk0 : k = 0
                    · rw [hnr, if_pos hk0, show (bsOf s).drop at2 = [] from List.drop_of_length_le (by rw [bsOf_len]; omega), hk0]; rfl
                    · rw [hnr, if_neg hk0]
                  have hps := parI_step hpi hi (fun hb => ⟨by first | omega | exact absurd hb h4, (hbk hb).2⟩) hr
                  refine Wp.skip ?_
                  refine Wp.seq ?_
                  refine Wp.seq ?_
                  refine Wp.region ?_
                  refine s_mv rfl rfl ?_
                  refine s_eq rfl rfl rfl ?_
                  refine WpL.nil ?_
                  refine Wp.condD rfl (fun h10 => ?_) (fun h10 => ?_)
                  · refine Wp.seq ?_
                    apply Wp.drawGN (fB := [blk gN [.int .i64 t.ph, .int .i64 t.n, .int .i64 (lsel (lim0 a) (lim1 b) (lim2 d) i), .int .i64 t.e] 170]) mixed [(4, false)] (by kernel_rfl)
                    apply GoR.segF [⟨0, 107, _, [], false⟩, ⟨1, 108, _, [], true⟩, ⟨2, 109, _, [], true⟩, ⟨3, 110, _, [2], true⟩] [] [0] [5, 6, 108, 109, 110] (.inl ⟨_, by repeat' constructor⟩) rfl rfl rfl (by kernel_rfl) rfl rfl rfl
                    · refine AllF.cons rfl rfl rfl rfl ?_ ?_
                      · refine s_bd rfl rfl ?_
                        exact obN rfl
                      refine AllF.consR rfl rfl rfl rfl ?_ ?_
                      · refine s_mv rfl rfl ?_
                        exact obN rfl
                      refine AllF.consR rfl rfl rfl rfl ?_ ?_
                      · refine s_fa (o2 := 3) rfl rfl rfl ?_
                        exact obN rfl
                      refine AllF.consR rfl rfl rfl rfl ?_ ?_
                      · refine s_ld rfl rfl (by rfl) ?_
                        exact obN rfl
                      exact AllF.nil
                    · refine s_sta rfl rfl rfl (by rfl) rfl ?_
                      refine WpL.nil ⟨rfl, rfl, ?_⟩
                      apply GoR.nil [⟨5, 5, _, [0, 1, 4], false⟩, ⟨6, 6, _, [0, 1, 2, 3, 4, 5], false⟩] (.inl ⟨_, by repeat' constructor⟩) rfl rfl
                      · refine AllF.cons rfl rfl rfl rfl ?_ ?_
                        · refine s_as rfl rfl ?_
                          exact obN rfl
                        refine AllF.cons rfl rfl rfl rfl ?_ ?_
                        · refine s_as rfl rfl ?_
                          exact obN rfl
                        exact AllF.nil
                      · refine Wp.ret ?_
                        apply RetQ.mk
                        · exact (RetQ.cell3 rfl rfl (by rfl) rfl rfl)
                        · exact ⟨0, 0, 0, 0, _, _, by rw [hps.2.1 h10], rfl, rfl⟩
                        · first | exact Ent.refl _ | exact Ent.nil _ | exact Take.ent' (by repeat' constructor) | (repeat (first | exact Ent.refl _ | refine Ent.drop ?_))
                  · refine Wp.skip ?_
                    refine Wp.seq ?_
                    refine Wp.seq ?_
                    refine Wp.region ?_
                    refine s_fa (o2 := 1) rfl rfl rfl ?_
                    refine s_ld rfl rfl (by rfl) ?_
                    refine s_eq rfl rfl rfl ?_
                    refine WpL.nil ?_
                    refine Wp.condD rfl (fun h11 => ?_) (fun h11 => ?_)
                    · refine Wp.seq ?_
                      refine Wp.region ?_
                      refine s_bd rfl rfl ?_
                      refine s_mv rfl rfl ?_
                      refine s_sta rfl rfl rfl (by rfl) rfl ?_
                      refine s_as rfl rfl ?_
                      refine s_as rfl rfl ?_
                      refine WpL.nil ?_
                      refine Wp.ret ?_
                      apply RetQ.mk
                      · exact (RetQ.cell3 rfl rfl (by rfl) rfl rfl)
                      · exact ⟨0, 0, 0, 0, _, 4, by rw [hps.2.2.1 h9 h10 h11], rfl, rfl⟩
                      · first | exact Ent.refl _ | exact Ent.nil _ | exact Take.ent' (by repeat' constructor) | (repeat (first | exact Ent.refl _ | refine Ent.drop ?_))
                    · have hpn := hps.2.2.2 h9 h10 h11
                      rw [Int.toNat_natCast] at hpn
                      refine Wp.skip ?_
                      refine Wp.seq ?_
                      refine Wp.region ?_
                      refine s_mv rfl rfl ?_
                      refine WpL.nil ?_
                      refine Wp.block ?_
                      refine Wp.seq ?_
                      refine Wp.region ?_
                      refine s_eq rfl rfl rfl ?_
                      refine s_as rfl rfl ?_
                      refine WpL.nil ?_
                      refine Wp.condD rfl (fun h12 => ?_) (fun h12 => ?_)
                      · refine Wp.region ?_
                        refine s_fa (o2 := 1) rfl rfl rfl ?_
                        refine s_ld rfl rfl (by rfl) ?_
                        refine s_fa (o2 := 1) rfl rfl rfl ?_
                        refine s_st rfl rfl rfl ?_
                        refine WpL.nil ?_
                        refine Wp.region ?_
                        refine s_mv rfl rfl ?_
                        first | refine s_add rfl rfl rfl (w_i64 (by omega) (by omega)) ?_ | refine s_addw rfl rfl rfl ?_
                        refine s_as rfl rfl ?_
                        refine WpL.nil ?_
                        refine loopD.next (⟨i + 1, at2, t.n, H, M⟩ : PaX) ?_ ?_ (by first | ((repeat (first | exact Top.refl | refine Top.push rfl ?_ | refine Top.drop rfl ?_)); done) | exact Top.le (by repeat (first | exact FrLe.nil | refine FrLe.cons rfl ?_))) (by repeat (first | exact FrLe.nil | refine FrLe.cons rfl ?_)) ?_
                        · have e : i = 0 := by omega
                          subst e
                          exact ⟨hat2, by simp only; omega, fun hb => ⟨by simp only; first | omega | exact absurd hb h4, by first | exact (hbk hb).2 | exact absurd hb h4 | (exfalso; have := (hbk hb).1; omega)⟩, hpn⟩
                        · simp only; omega
                        · first | exact Ent.refl _ | exact Ent.nil _ | exact Take.ent' (by repeat' constructor) | (repeat (first | exact Ent.refl _ | refine Ent.drop ?_))
                      · refine Wp.seq ?_
                        refine Wp.region ?_
                        refine s_eq rfl rfl rfl ?_
                        refine s_as rfl rfl ?_
                        refine WpL.nil ?_
                        refine Wp.condD rfl (fun h13 => ?_) (fun h13 => ?_)
                        · refine Wp.region ?_
                          refine s_fa (o2 := 1) rfl rfl rfl ?_
                          refine s_ld rfl rfl (by rfl) ?_
                          refine s_fa (o2 := 2) rfl rfl rfl ?_
                          refine s_st rfl rfl rfl ?_
                          refine WpL.nil ?_
                          refine Wp.region ?_
                          refine s_mv rfl rfl ?_
                          first | refine s_add rfl rfl rfl (w_i64 (by omega) (by omega)) ?_ | refine s_addw rfl rfl rfl ?_
                          refine s_as rfl rfl ?_
                          refine WpL.nil ?_
                          refine loopD.next (⟨i + 1, at2, W, t.n, M⟩ : PaX) ?_ ?_ (by first | ((repeat (first | exact Top.refl | refine Top.push rfl ?_ | refine Top.drop rfl ?_)); done) | exact Top.le (by repeat (first | exact FrLe.nil | refine FrLe.cons rfl ?_))) (by repeat (first | exact FrLe.nil | refine FrLe.cons rfl ?_)) ?_
                          · have e : i = 1 := by omega
                            subst e
                            exact ⟨hat2, by simp only; omega, fun hb => ⟨by simp only; first | omega | exact absurd hb h4, by first | exact (hbk hb).2 | exact absurd hb h4 | (exfalso; have := (hbk hb).1; omega)⟩, hpn⟩
                          · simp only; omega
                          · first | exact Ent.refl _ | exact Ent.nil _ | exact Take.ent' (by repeat' constructor) | (repeat (first | exact Ent.refl _ | refine Ent.drop ?_))
                        · refine Wp.region ?_
                          refine s_fa (o2 := 1) rfl rfl rfl ?_
                          refine s_ld rfl rfl (by rfl) ?_
                          refine s_fa (o2 := 3) rfl rfl rfl ?_
                          refine s_st rfl rfl rfl ?_
                          refine WpL.nil ?_
                          refine Wp.region ?_
                          refine s_mv rfl rfl ?_
                          first | refine s_add rfl rfl rfl (w_i64 (by omega) (by omega)) ?_ | refine s_addw rfl rfl rfl ?_
                          refine s_as rfl rfl ?_
                          refine WpL.nil ?_
                          refine loopD.next (⟨i + 1, at2, W, H, t.n⟩ : PaX) ?_ ?_ (by first | ((repeat (first | exact Top.refl | refine Top.push rfl ?_ | refine Top.drop rfl ?_)); done) | exact Top.le (by repeat (first | exact FrLe.nil | refine FrLe.cons rfl ?_))) (by repeat (first | exact FrLe.nil | refine FrLe.cons rfl ?_)) ?_
                          · have e : i = 2 := by omega
                            subst e
                            exact ⟨hat2, by simp only; omega, fun hb => ⟨by simp only; first | omega | exact absurd hb h4, by first | exact (hbk hb).2 | exact absurd hb h4 | (exfalso; have := (hbk hb).1; omega)⟩, hpn⟩
                          · simp only; omega
                          · first | exact Ent.refl _ | exact Ent.nil _ | exact Take.ent' (by repeat' constructor) | (repeat (first | exact Ent.refl _ | refine Ent.drop ?_))
            · have hg6 := of_decide_eq_false hg6
              refine WpL.goff rfl rfl rfl (by decide) ?_
              refine WpL.goff rfl rfl rfl (by decide) ?_
              refine WpL.goff rfl rfl rfl (by decide) ?_
              refine s_pickF rfl rfl rfl ?_
              refine WpL.nil ?_
              refine Wp.condF rfl ?_
              refine Wp.exit ?_
              refine Wp.seq ?_
              refine Wp.seq ?_
              refine Wp.region ?_
              refine s_mv rfl rfl ?_
              refine s_eq rfl rfl rfl ?_
              refine WpL.nil ?_
              refine Wp.condD rfl (fun h9 => ?_) (fun h9 => ?_)
              · have hr : numRun (lsel (lim0 a) (lim1 b) (lim2 d) i) tk0 ((bsOf s).drop at_) at_ = (t, k, (at2 : Int)) := by
                  by_cases hk0 : k = 0
                  · rw [hnr, if_pos hk0, show (bsOf s).drop at2 = [] from List.drop_of_length_le (by rw [bsOf_len]; omega), hk0]; rfl
                  · rw [hnr, if_neg hk0]
                have hps := parI_step hpi hi (fun hb => ⟨by first | omega | exact absurd hb h4, (hbk hb).2⟩) hr
                refine Wp.seq ?_
                refine Wp.region ?_
                refine s_bd rfl rfl ?_
                refine s_mv rfl rfl ?_
                refine s_sta rfl rfl rfl (by rfl) rfl ?_
                refine s_as rfl rfl ?_
                refine s_as rfl rfl ?_
                refine WpL.nil ?_
                refine Wp.ret ?_
                apply RetQ.mk
                · exact (RetQ.cell3 rfl rfl (by rfl) rfl rfl)
                · exact ⟨0, 0, 0, 0, _, 6, by rw [hps.1 h9, bsOf_len, show s.size = at2 by omega], rfl, rfl⟩
                · first | exact Ent.refl _ | exact Ent.nil _ | exact Take.ent' (by repeat' constructor) | (repeat (first | exact Ent.refl _ | refine Ent.drop ?_))
              · have hr : numRun (lsel (lim0 a) (lim1 b) (lim2 d) i) tk0 ((bsOf s).drop at_) at_ = (t, k, (at2 : Int)) := by
                  by_cases hk0 : k = 0
                  · rw [hnr, if_pos hk0, show (bsOf s).drop at2 = [] from List.drop_of_length_le (by rw [bsOf_len]; omega), hk0]; rfl
                  · rw [hnr, if_neg hk0]
                have hps := parI_step hpi hi (fun hb => ⟨by first | omega | exact absurd hb h4, (hbk hb).2⟩) hr
                refine Wp.skip ?_
                refine Wp.seq ?_
                refine Wp.seq ?_
                refine Wp.region ?_
                refine s_mv rfl rfl ?_
                refine s_eq rfl rfl rfl ?_
                refine WpL.nil ?_
                refine Wp.condD rfl (fun h10 => ?_) (fun h10 => ?_)
                · refine Wp.seq ?_
                  apply Wp.drawGN (fB := [blk gN [.int .i64 t.ph, .int .i64 t.n, .int .i64 (lsel (lim0 a) (lim1 b) (lim2 d) i), .int .i64 t.e] 170]) mixed [(4, false)] (by kernel_rfl)
                  apply GoR.segF [⟨0, 107, _, [], false⟩, ⟨1, 108, _, [], true⟩, ⟨2, 109, _, [], true⟩, ⟨3, 110, _, [2], true⟩] [] [0] [5, 6, 108, 109, 110] (.inl ⟨_, by repeat' constructor⟩) rfl rfl rfl (by kernel_rfl) rfl rfl rfl
                  · refine AllF.cons rfl rfl rfl rfl ?_ ?_
                    · refine s_bd rfl rfl ?_
                      exact obN rfl
                    refine AllF.consR rfl rfl rfl rfl ?_ ?_
                    · refine s_mv rfl rfl ?_
                      exact obN rfl
                    refine AllF.consR rfl rfl rfl rfl ?_ ?_
                    · refine s_fa (o2 := 3) rfl rfl rfl ?_
                      exact obN rfl
                    refine AllF.consR rfl rfl rfl rfl ?_ ?_
                    · refine s_ld rfl rfl (by rfl) ?_
                      exact obN rfl
                    exact AllF.nil
                  · refine s_sta rfl rfl rfl (by rfl) rfl ?_
                    refine WpL.nil ⟨rfl, rfl, ?_⟩
                    apply GoR.nil [⟨5, 5, _, [0, 1, 4], false⟩, ⟨6, 6, _, [0, 1, 2, 3, 4, 5], false⟩] (.inl ⟨_, by repeat' constructor⟩) rfl rfl
                    · refine AllF.cons rfl rfl rfl rfl ?_ ?_
                      · refine s_as rfl rfl ?_
                        exact obN rfl
                      refine AllF.cons rfl rfl rfl rfl ?_ ?_
                      · refine s_as rfl rfl ?_
                        exact obN rfl
                      exact AllF.nil
                    · refine Wp.ret ?_
                      apply RetQ.mk
                      · exact (RetQ.cell3 rfl rfl (by rfl) rfl rfl)
                      · exact ⟨0, 0, 0, 0, _, _, by rw [hps.2.1 h10], rfl, rfl⟩
                      · first | exact Ent.refl _ | exact Ent.nil _ | exact Take.ent' (by repeat' constructor) | (repeat (first | exact Ent.refl _ | refine Ent.drop ?_))
                · refine Wp.skip ?_
                  refine Wp.seq ?_
                  refine Wp.seq ?_
                  refine Wp.region ?_
                  refine s_fa (o2 := 1) rfl rfl rfl ?_
                  refine s_ld rfl rfl (by rfl) ?_
                  refine s_eq rfl rfl rfl ?_
                  refine WpL.nil ?_
                  refine Wp.condD rfl (fun h11 => ?_) (fun h11 => ?_)
                  · refine Wp.seq ?_
                    refine Wp.region ?_
                    refine s_bd rfl rfl ?_
                    refine s_mv rfl rfl ?_
                    refine s_sta rfl rfl rfl (by rfl) rfl ?_
                    refine s_as rfl rfl ?_
                    refine s_as rfl rfl ?_
                    refine WpL.nil ?_
                    refine Wp.ret ?_
                    apply RetQ.mk
                    · exact (RetQ.cell3 rfl rfl (by rfl) rfl rfl)
                    · exact ⟨0, 0, 0, 0, _, 4, by rw [hps.2.2.1 h9 h10 h11], rfl, rfl⟩
                    · first | exact Ent.refl _ | exact Ent.nil _ | exact Take.ent' (by repeat' constructor) | (repeat (first | exact Ent.refl _ | refine Ent.drop ?_))
                  · have hpn := hps.2.2.2 h9 h10 h11
                    rw [Int.toNat_natCast] at hpn
                    refine Wp.skip ?_
                    refine Wp.seq ?_
                    refine Wp.region ?_
                    refine s_mv rfl rfl ?_
                    refine WpL.nil ?_
                    refine Wp.block ?_
                    refine Wp.seq ?_
                    refine Wp.region ?_
                    refine s_eq rfl rfl rfl ?_
                    refine s_as rfl rfl ?_
                    refine WpL.nil ?_
                    refine Wp.condD rfl (fun h12 => ?_) (fun h12 => ?_)
                    · refine Wp.region ?_
                      refine s_fa (o2 := 1) rfl rfl rfl ?_
                      refine s_ld rfl rfl (by rfl) ?_
                      refine s_fa (o2 := 1) rfl rfl rfl ?_
                      refine s_st rfl rfl rfl ?_
                      refine WpL.nil ?_
                      refine Wp.region ?_
                      refine s_mv rfl rfl ?_
                      first | refine s_add rfl rfl rfl (w_i64 (by omega) (by omega)) ?_ | refine s_addw rfl rfl rfl ?_
                      refine s_as rfl rfl ?_
                      refine WpL.nil ?_
                      refine loopD.next (⟨i + 1, at2, t.n, H, M⟩ : PaX) ?_ ?_ (by first | ((repeat (first | exact Top.refl | refine Top.push rfl ?_ | refine Top.drop rfl ?_)); done) | exact Top.le (by repeat (first | exact FrLe.nil | refine FrLe.cons rfl ?_))) (by repeat (first | exact FrLe.nil | refine FrLe.cons rfl ?_)) ?_
                      · have e : i = 0 := by omega
                        subst e
                        exact ⟨hat2, by simp only; omega, fun hb => ⟨by simp only; first | omega | exact absurd hb h4, by first | exact (hbk hb).2 | exact absurd hb h4 | (exfalso; have := (hbk hb).1; omega)⟩, hpn⟩
                      · simp only; omega
                      · first | exact Ent.refl _ | exact Ent.nil _ | exact Take.ent' (by repeat' constructor) | (repeat (first | exact Ent.refl _ | refine Ent.drop ?_))
                    · refine Wp.seq ?_
                      refine Wp.region ?_
                      refine s_eq rfl rfl rfl ?_
                      refine s_as rfl rfl ?_
                      refine WpL.nil ?_
                      refine Wp.condD rfl (fun h13 => ?_) (fun h13 => ?_)
                      · refine Wp.region ?_
                        refine s_fa (o2 := 1) rfl rfl rfl ?_
                        refine s_ld rfl rfl (by rfl) ?_
                        refine s_fa (o2 := 2) rfl rfl rfl ?_
                        refine s_st rfl rfl rfl ?_
                        refine WpL.nil ?_
                        refine Wp.region ?_
                        refine s_mv rfl rfl ?_
                        first | refine s_add rfl rfl rfl (w_i64 (by omega) (by omega)) ?_ | refine s_addw rfl rfl rfl ?_
                        refine s_as rfl rfl ?_
                        refine WpL.nil ?_
                        refine loopD.next (⟨i + 1, at2, W, t.n, M⟩ : PaX) ?_ ?_ (by first | ((repeat (first | exact Top.refl | refine Top.push rfl ?_ | refine Top.drop rfl ?_)); done) | exact Top.le (by repeat (first | exact FrLe.nil | refine FrLe.cons rfl ?_))) (by repeat (first | exact FrLe.nil | refine FrLe.cons rfl ?_)) ?_
                        · have e : i = 1 := by omega
                          subst e
                          exact ⟨hat2, by simp only; omega, fun hb => ⟨by simp only; first | omega | exact absurd hb h4, by first | exact (hbk hb).2 | exact absurd hb h4 | (exfalso; have := (hbk hb).1; omega)⟩, hpn⟩
                        · simp only; omega
                        · first | exact Ent.refl _ | exact Ent.nil _ | exact Take.ent' (by repeat' constructor) | (repeat (first | exact Ent.refl _ | refine Ent.drop ?_))
                      · refine Wp.region ?_
                        refine s_fa (o2 := 1) rfl rfl rfl ?_
                        refine s_ld rfl rfl (by rfl) ?_
                        refine s_fa (o2 := 3) rfl rfl rfl ?_
                        refine s_st rfl rfl rfl ?_
                        refine WpL.nil ?_
                        refine Wp.region ?_
                        refine s_mv rfl rfl ?_
                        first | refine s_add rfl rfl rfl (w_i64 (by omega) (by omega)) ?_ | refine s_addw rfl rfl rfl ?_
                        refine s_as rfl rfl ?_
                        refine WpL.nil ?_
                        refine loopD.next (⟨i + 1, at2, W, H, t.n⟩ : PaX) ?_ ?_ (by first | ((repeat (first | exact Top.refl | refine Top.push rfl ?_ | refine Top.drop rfl ?_)); done) | exact Top.le (by repeat (first | exact FrLe.nil | refine FrLe.cons rfl ?_))) (by repeat (first | exact FrLe.nil | refine FrLe.cons rfl ?_)) ?_
                        · have e : i = 2 := by omega
                          subst e
                          exact ⟨hat2, by simp only; omega, fun hb => ⟨by simp only; first | omega | exact absurd hb h4, by first | exact (hbk hb).2 | exact absurd hb h4 | (exfalso; have := (hbk hb).1; omega)⟩, hpn⟩
                        · simp only; omega
                        · first | exact Ent.refl _ | exact Ent.nil _ | exact Take.ent' (by repeat' constructor) | (repeat (first | exact Ent.refl _ | refine Ent.drop ?_))
        · refine Wp.exit ?_
          refine Wp.seq ?_
          refine Wp.region ?_
          refine s_lda (vs := [_, _, _, _]) rfl rfl rfl (by rfl) ?_
          refine s_mv rfl rfl ?_
          refine s_sta rfl rfl rfl (by rfl) rfl ?_
          refine s_as rfl rfl ?_
          refine s_as rfl rfl ?_
          refine WpL.nil ?_
          refine Wp.ret ?_
          apply RetQ.mk
          · exact (RetQ.cell3 rfl rfl (by rfl) rfl rfl)
          · exact ⟨K, W, H, M, _, 0, by unfold parI at hpi; rw [hpi, if_pos (by first | exact .inr ⟨by have := (hbk h4).1; omega, h4⟩ | exact .inl (by omega))], rfl, rfl⟩
          · first | exact Ent.refl _ | exact Ent.nil _ | exact Take.ent' (by repeat' constructor) | (repeat (first | exact Ent.refl _ | refine Ent.drop ?_))
    · refine Wp.skip ?_
      refine Wp.seq ?_
      refine Wp.region ?_
      refine s_lda (vs := [_, _, _]) rfl rfl rfl (by rfl) ?_
      refine s_callf rfl rfl (by repeat' constructor) (rlimits_spec _ _ _) ?_
      rintro _ _ ⟨gl, rfl, rfl⟩
      simp only [napp]
      refine s_as rfl rfl ?_
      refine WpL.nil ?_
      refine Wp.seq ?_
      refine Wp.region ?_
      refine s_as rfl rfl ?_
      refine WpL.nil ?_
      refine Wp.seq ?_
      refine Wp.seq ?_
      refine Wp.region ?_
      refine s_as rfl rfl ?_
      refine WpL.nil ?_
      refine Wp.block ?_
      refine Wp.loopD (σ := PaX) (fun x => x.at_ ≤ s.size ∧ x.i ≤ 3 ∧ (bitsK K → x.i ≤ 2 ∧ x.M = 1) ∧ parI (lim0 a) (lim1 b) (lim2 d) K (bsOf s) x.i x.at_ x.W x.H x.M) [5, 6, 10, 11, 12, 13, 14, 15, 71, 72, 73, 74, 75, 76, 77, 78, 79, 80, 81, 82, 83, 84, 85, 86, 87, 88, 89, 90, 91, 92, 93, 94, 95, 96, 97, 98, 99, 100, 101, 102, 103, 104, 105, 106, 107, 108, 109, 110, 111, 112, 113, 114, 115, 116, 117, 118, 119, 120, 121, 122, 123, 124, 125, 126, 127, 128, 129] (fun x => [(11, .int .i64 (x.i : Int)), (10, .int .i64 (x.at_ : Int))]) (fun x => [blk gH [.int .i64 K, .int .i64 x.W, .int .i64 x.H, .int .i64 x.M] 113, blk gl [.int .i64 (lim0 a), .int .i64 (lim1 b), .int .i64 (lim2 d)] 3, blk gO [.int .i64 0, .int .i64 0, .int .i64 0, .int .i64 0] 113]) (fun x => 3 - x.i) ⟨0, 2, 0, 0, (if bitsK K then 1 else 0)⟩ ?_ (by repeat (first | exact FrLe.nil | refine FrLe.cons rfl ?_)) ?_ ?_
      · exact ⟨by simp only; omega, by simp, fun hb => ⟨by simp, by simp only; rw [if_pos hb]⟩, hpar _⟩
      · first | (rw [show (if bitsK K then (1 : Int) else 0) = 1 from if_pos h4]; first | exact Ent.refl _ | exact Ent.nil _ | exact Take.ent' (by repeat' constructor) | (repeat (first | exact Ent.refl _ | refine Ent.drop ?_))) | (rw [show (if bitsK K then (1 : Int) else 0) = 0 from if_neg h4]; first | exact Ent.refl _ | exact Ent.nil _ | exact Take.ent' (by repeat' constructor) | (repeat (first | exact Ent.refl _ | refine Ent.drop ?_)))
      · rintro ⟨i, at_, W, H, M⟩ ⟨hat, hi3, hbk, hpi⟩
        dsimp only at hat hi3 hbk hpi ⊢
        refine Wp.seq ?_
        refine Wp.seq ?_
        refine Wp.region ?_
        refine s_mv rfl rfl ?_
        refine s_mv rfl rfl ?_
        refine s_lt rfl rfl rfl ?_
        refine WpL.nil ?_
        refine Wp.condD rfl (fun h6 => ?_) (fun h6 => ?_)
        · have hi : i < 3 := by omega
          refine Wp.skip ?_
          refine Wp.seq ?_
          refine Wp.block ?_
          refine Wp.seq ?_
          refine Wp.region ?_
          refine s_mv rfl rfl ?_
          refine s_mv rfl rfl ?_
          refine s_ixa i rfl rfl rfl (RdsL.blk (o := 0) (xs := [.int .i64 (lim0 a), .int .i64 (lim1 b), .int .i64 (lim2 d)]) rfl) (by first | exact Take.ent' (by repeat' constructor) | (repeat (first | exact Ent.refl _ | refine Ent.drop ?_))) rfl (by omega) (by simp only [List.length_cons, List.length_nil]; omega) ?_
          refine s_ldx rfl rfl (RdsL.blk (o := 0) (xs := [.int .i64 (lim0 a), .int .i64 (lim1 b), .int .i64 (lim2 d)]) rfl) (by first | exact Take.ent' (by repeat' constructor) | (repeat (first | exact Ent.refl _ | refine Ent.drop ?_))) (lsel_lim a b d i hi) ?_
          refine s_callf rfl rfl (by repeat' constructor) (rtkNew_spec _) ?_
          rintro _ _ ⟨rfl, rfl⟩
          simp only [napp]
          refine s_al rfl ?_
          intro gN
          refine s_sta rfl rfl rfl (by rfl) rfl ?_
          refine WpL.nil ?_
          refine Wp.seq ?_
          refine Wp.region ?_
          refine s_as rfl rfl ?_
          refine WpL.nil ?_
          refine Wp.seq ?_
          refine Wp.block ?_
          refine Wp.loopD (σ := PbX) (fun y => at_ ≤ y.at_ ∧ y.at_ ≤ s.size ∧ (y.k = 0 → tkOk (lsel (lim0 a) (lim1 b) (lim2 d) i) y.t) ∧ numRun (lsel (lim0 a) (lim1 b) (lim2 d) i) tk0 ((bsOf s).drop at_) at_ = (if y.k = 0 then numRun (lsel (lim0 a) (lim1 b) (lim2 d) i) y.t ((bsOf s).drop y.at_) y.at_ else (y.t, y.k, (y.at_ : Int)))) [10, 13, 14, 15, 81, 82, 83, 84, 85, 86, 87, 88, 89, 90, 91, 92, 93, 94, 95, 96, 97, 98, 99, 100] (fun y => [(13, .int .i64 y.k), (10, .int .i64 (y.at_ : Int))]) (fun y => [blk gN [.int .i64 y.t.ph, .int .i64 y.t.n, .int .i64 (lsel (lim0 a) (lim1 b) (lim2 d) i), .int .i64 y.t.e] 170, blk gH [.int .i64 K, .int .i64 W, .int .i64 H, .int .i64 M] 113, blk gl [.int .i64 (lim0 a), .int .i64 (lim1 b), .int .i64 (lim2 d)] 3, blk gO [.int .i64 0, .int .i64 0, .int .i64 0, .int .i64 0] 113]) (fun y => s.size - y.at_) ⟨0, at_, tk0⟩ ?_ (by repeat (first | exact FrLe.nil | refine FrLe.cons rfl ?_)) ?_ ?_
          · exact ⟨Nat.le_refl _, hat, fun _ => (show tkOk _ tk0 by unfold tkOk tk0; dsimp only; have := (lsel_bd a b d i).1; omega), (if_pos rfl).symm⟩
          · first | exact Ent.refl _ | exact Ent.nil _ | exact Take.ent' (by repeat' constructor) | (repeat (first | exact Ent.refl _ | refine Ent.drop ?_))
          · rintro ⟨k, at2, t⟩ ⟨ha2, hat2, htk, hnr⟩
            dsimp only at ha2 hat2 htk hnr ⊢
            refine Wp.seq ?_
            refine Wp.seq ?_
            refine Wp.region ?_
            refine s_mv rfl rfl ?_
            refine s_eq rfl rfl rfl ?_
            refine s_mv rfl rfl ?_
            refine WpL.grd rfl rfl rfl (fun hg7 => ?_) (fun hg7 => ?_)
            · have hg7 := of_decide_eq_true hg7
              refine s_mv rfl rfl ?_
              refine WpL.gon rfl rfl ?_
              refine s_mv rfl rfl ?_
              refine WpL.gon rfl rfl ?_
              refine s_lens rfl Tryz.underlying9 rfl ?_
              refine WpL.gon rfl rfl ?_
              refine s_lt rfl rfl rfl ?_
              refine s_pickT rfl rfl rfl ?_
              refine WpL.nil ?_
              refine Wp.condD rfl (fun h8 => ?_) (fun h8 => ?_)
              · have hlt : at2 < s.size := by omega
                obtain ⟨cc, hcc⟩ : ∃ cc : Int, cc = ((s[at2]'hlt).toNat : Int) := ⟨_, rfl⟩
                obtain rfl : k = 0 := by assumption
                have htk2 := htk rfl
                rw [if_pos rfl] at hnr
                have hdr := bsOf_drop hlt
                rw [← hcc] at hdr
                rw [hdr] at hnr
                have hst := numRun_step hnr
                refine Wp.skip ?_
                refine Wp.block ?_
                refine Wp.seq ?_
                apply Wp.drawGA (fB := []) mixed 8 [(8, true)] rfl rfl (by kernel_rfl)
                apply GoR.segT [⟨0, 90, _, [], false⟩, ⟨1, 91, _, [], false⟩, ⟨2, 92, _, [], false⟩, ⟨3, 93, _, [1, 2], false⟩, ⟨4, 94, _, [0, 3], false⟩, ⟨5, 89, _, [4], false⟩, ⟨6, 95, _, [5], false⟩, ⟨7, 96, _, [5], true⟩] [] [0, 1, 2, 3, 4, 5, 6] [15, 96] (.inl ⟨_, .nil⟩) rfl rfl rfl (by kernel_rfl) rfl rfl rfl rfl
                · refine AllF.cons rfl rfl rfl rfl ?_ ?_
                  · refine s_lda (vs := [_, _, _, _]) rfl rfl rfl (by rfl) ?_
                    exact obN rfl
                  refine AllF.cons rfl rfl rfl rfl ?_ ?_
                  · refine s_mv rfl rfl ?_
                    exact obN rfl
                  refine AllF.cons rfl rfl rfl rfl ?_ ?_
                  · refine s_mv rfl rfl ?_
                    exact obN rfl
                  refine AllF.cons rfl rfl rfl rfl ?_ ?_
                  · refine s_ixs rfl Tryz.underlying9 rfl rfl (by omega) (by omega) ?_
                    change WpL _ _ _ _ _ _ ((93, Value.int .u8 ((s[at2]'hlt).toNat : Int)) :: _) _
                    rw [← hcc]
                    exact obN rfl
                  refine AllF.cons rfl rfl rfl rfl ?_ ?_
                  · refine s_callf rfl rfl (by repeat' constructor) (rtkPut_spec t.ph t.n _ t.e cc (by rw [hcc]; omega) (by rw [hcc]; exact u8_lt _) htk2.2.2.1 (lsel_bd a b d i).1 (lsel_bd a b d i).2 ⟨htk2.1, by have := htk2.2.1; omega⟩) ?_
                    rintro _ _ ⟨rfl, rfl⟩
                    simp only [napp]
                    exact WpL.nil ⟨rfl, rfl, rfl, by first | exact Ent.refl _ | exact Ent.nil _ | exact Take.ent' (by repeat' constructor) | (repeat (first | exact Ent.refl _ | refine Ent.drop ?_))⟩
                  refine AllF.cons rfl rfl rfl rfl ?_ ?_
                  · refine s_mv rfl rfl ?_
                    exact obN rfl
                  refine AllF.cons rfl rfl rfl rfl ?_ ?_
                  · refine s_ext rfl rfl rfl ?_
                    exact obN rfl
                  refine AllF.consR rfl rfl rfl rfl ?_ ?_
                  · refine s_ext rfl rfl rfl ?_
                    exact obN rfl
                  exact AllF.nil
                · intro gS
                  refine s_sta rfl rfl rfl (by rfl) rfl ?_
                  refine WpL.nil ⟨rfl, rfl, ?_⟩
                  apply GoR.nil [⟨10, 15, _, [0, 1, 2, 3, 4, 5, 6, 7, 8, 9], false⟩] (.inl ⟨_, .nil⟩) rfl rfl
                  · refine AllF.cons rfl rfl rfl rfl ?_ ?_
                    · refine s_as rfl rfl ?_
                      exact obN rfl
                    exact AllF.nil
                  · refine Wp.seq ?_
                    refine Wp.region ?_
                    refine s_lda (vs := [_, _, _, _]) rfl rfl rfl (by rfl) ?_
                    refine s_sta rfl rfl rfl (by rfl) rfl ?_
                    refine WpL.nil ?_
                    refine Wp.seq ?_
                    refine Wp.region ?_
                    refine s_mv rfl rfl ?_
                    refine s_as rfl rfl ?_
                    refine WpL.nil ?_
                    refine Wp.region ?_
                    refine s_mv rfl rfl ?_
                    first | refine s_add rfl rfl rfl (w_i64 (by omega) (by omega)) ?_ | refine s_addw rfl rfl rfl ?_
                    refine s_as rfl rfl ?_
                    refine WpL.nil ?_
                    refine loopD.next (Q := fun _ _ _ _ => False) (⟨(tkPut (lsel (lim0 a) (lim1 b) (lim2 d) i) t cc).2, at2 + 1, (tkPut (lsel (lim0 a) (lim1 b) (lim2 d) i) t cc).1⟩ : PbX) ?_ ?_ (by first | ((repeat (first | exact Top.refl | refine Top.push rfl ?_ | refine Top.drop rfl ?_)); done) | exact Top.le (by repeat (first | exact FrLe.nil | refine FrLe.cons rfl ?_))) (by repeat (first | exact FrLe.nil | refine FrLe.cons rfl ?_)) ?_
                    · exact ⟨by simp only; omega, by simp only; omega, fun q => by rcases tkPut_cases (c := cc) htk2 with z | z | z; exact z.2; exact absurd q (by simp only; omega); exact absurd q (by simp only; omega), hst⟩
                    · simp only; omega
                    · first | exact Ent.refl _ | exact Ent.nil _ | exact Take.ent' (by repeat' constructor) | (repeat (first | exact Ent.refl _ | refine Ent.drop ?_))
              · refine Wp.exit ?_
                refine Wp.seq ?_
                refine Wp.seq ?_
                refine Wp.region ?_
                refine s_mv rfl rfl ?_
                refine s_eq rfl rfl rfl ?_
                refine WpL.nil ?_
                refine Wp.condD rfl (fun h9 => ?_) (fun h9 => ?_)
                · have hr : numRun (lsel (lim0 a) (lim1 b) (lim2 d) i) tk0 ((bsOf s).drop at_) at_ = (t, k, (at2 : Int)) := by
                    by_cases hk0 : k = 0
                    · rw [hnr, if_pos hk0, show (bsOf s).drop at2 = [] from List.drop_of_length_le (by rw [bsOf_len]; omega), hk0]; rfl
                    · rw [hnr, if_neg hk0]
                  have hps := parI_step hpi hi (fun hb => ⟨by first | omega | exact absurd hb h4, (hbk hb).2⟩) hr
                  refine Wp.seq ?_
                  refine Wp.region ?_
                  refine s_bd rfl rfl ?_
                  refine s_mv rfl rfl ?_
                  refine s_sta rfl rfl rfl (by rfl) rfl ?_
                  refine s_as rfl rfl ?_
                  refine s_as rfl rfl ?_
                  refine WpL.nil ?_
                  refine Wp.ret ?_
                  apply RetQ.mk
                  · exact (RetQ.cell3 rfl rfl (by rfl) rfl rfl)
                  · exact ⟨0, 0, 0, 0, _, 6, by rw [hps.1 h9, bsOf_len, show s.size = at2 by omega], rfl, rfl⟩
                  · first | exact Ent.refl _ | exact Ent.nil _ | exact Take.ent' (by repeat' constructor) | (repeat (first | exact Ent.refl _ | refine Ent.drop ?_))
                · have hr : numRun (lsel (lim0 a) (lim1 b) (lim2 d) i) tk0 ((bsOf s).drop at_) at_ = (t, k, (at2 : Int)) := by
                    by_cases hk0 : k = 0
                    · rw [hnr, if_pos hk0, show (bsOf s).drop at2 = [] from List.drop_of_length_le (by rw [bsOf_len]; omega), hk0]; rfl
                    · rw [hnr, if_neg hk0]
                  have hps := parI_step hpi hi (fun hb => ⟨by first | omega | exact absurd hb h4, (hbk hb).2⟩) hr
                  refine Wp.skip ?_
                  refine Wp.seq ?_
                  refine Wp.seq ?_
                  refine Wp.region ?_
                  refine s_mv rfl rfl ?_
                  refine s_eq rfl rfl rfl ?_
                  refine WpL.nil ?_
                  refine Wp.condD rfl (fun h10 => ?_) (fun h10 => ?_)
                  · refine Wp.seq ?_
                    apply Wp.drawGN (fB := [blk gN [.int .i64 t.ph, .int .i64 t.n, .int .i64 (lsel (lim0 a) (lim1 b) (lim2 d) i), .int .i64 t.e] 170]) mixed [(4, false)] (by kernel_rfl)
                    apply GoR.segF [⟨0, 107, _, [], false⟩, ⟨1, 108, _, [], true⟩, ⟨2, 109, _, [], true⟩, ⟨3, 110, _, [2], true⟩] [] [0] [5, 6, 108, 109, 110] (.inl ⟨_, by repeat' constructor⟩) rfl rfl rfl (by kernel_rfl) rfl rfl rfl
                    · refine AllF.cons rfl rfl rfl rfl ?_ ?_
                      · refine s_bd rfl rfl ?_
                        exact obN rfl
                      refine AllF.consR rfl rfl rfl rfl ?_ ?_
                      · refine s_mv rfl rfl ?_
                        exact obN rfl
                      refine AllF.consR rfl rfl rfl rfl ?_ ?_
                      · refine s_fa (o2 := 3) rfl rfl rfl ?_
                        exact obN rfl
                      refine AllF.consR rfl rfl rfl rfl ?_ ?_
                      · refine s_ld rfl rfl (by rfl) ?_
                        exact obN rfl
                      exact AllF.nil
                    · refine s_sta rfl rfl rfl (by rfl) rfl ?_
                      refine WpL.nil ⟨rfl, rfl, ?_⟩
                      apply GoR.nil [⟨5, 5, _, [0, 1, 4], false⟩, ⟨6, 6, _, [0, 1, 2, 3, 4, 5], false⟩] (.inl ⟨_, by repeat' constructor⟩) rfl rfl
                      · refine AllF.cons rfl rfl rfl rfl ?_ ?_
                        · refine s_as rfl rfl ?_
                          exact obN rfl
                        refine AllF.cons rfl rfl rfl rfl ?_ ?_
                        · refine s_as rfl rfl ?_
                          exact obN rfl
                        exact AllF.nil
                      · refine Wp.ret ?_
                        apply RetQ.mk
                        · exact (RetQ.cell3 rfl rfl (by rfl) rfl rfl)
                        · exact ⟨0, 0, 0, 0, _, _, by rw [hps.2.1 h10], rfl, rfl⟩
                        · first | exact Ent.refl _ | exact Ent.nil _ | exact Take.ent' (by repeat' constructor) | (repeat (first | exact Ent.refl _ | refine Ent.drop ?_))
                  · refine Wp.skip ?_
                    refine Wp.seq ?_
                    refine Wp.seq ?_
                    refine Wp.region ?_
                    refine s_fa (o2 := 1) rfl rfl rfl ?_
                    refine s_ld rfl rfl (by rfl) ?_
                    refine s_eq rfl rfl rfl ?_
                    refine WpL.nil ?_
                    refine Wp.condD rfl (fun h11 => ?_) (fun h11 => ?_)
                    · refine Wp.seq ?_
                      refine Wp.region ?_
                      refine s_bd rfl rfl ?_
                      refine s_mv rfl rfl ?_
                      refine s_sta rfl rfl rfl (by rfl) rfl ?_
                      refine s_as rfl rfl ?_
                      refine s_as rfl rfl ?_
                      refine WpL.nil ?_
                      refine Wp.ret ?_
                      apply RetQ.mk
                      · exact (RetQ.cell3 rfl rfl (by rfl) rfl rfl)
                      · exact ⟨0, 0, 0, 0, _, 4, by rw [hps.2.2.1 h9 h10 h11], rfl, rfl⟩
                      · first | exact Ent.refl _ | exact Ent.nil _ | exact Take.ent' (by repeat' constructor) | (repeat (first | exact Ent.refl _ | refine Ent.drop ?_))
                    · have hpn := hps.2.2.2 h9 h10 h11
                      rw [Int.toNat_natCast] at hpn
                      refine Wp.skip ?_
                      refine Wp.seq ?_
                      refine Wp.region ?_
                      refine s_mv rfl rfl ?_
                      refine WpL.nil ?_
                      refine Wp.block ?_
                      refine Wp.seq ?_
                      refine Wp.region ?_
                      refine s_eq rfl rfl rfl ?_
                      refine s_as rfl rfl ?_
                      refine WpL.nil ?_
                      refine Wp.condD rfl (fun h12 => ?_) (fun h12 => ?_)
                      · refine Wp.region ?_
                        refine s_fa (o2 := 1) rfl rfl rfl ?_
                        refine s_ld rfl rfl (by rfl) ?_
                        refine s_fa (o2 := 1) rfl rfl rfl ?_
                        refine s_st rfl rfl rfl ?_
                        refine WpL.nil ?_
                        refine Wp.region ?_
                        refine s_mv rfl rfl ?_
                        first | refine s_add rfl rfl rfl (w_i64 (by omega) (by omega)) ?_ | refine s_addw rfl rfl rfl ?_
                        refine s_as rfl rfl ?_
                        refine WpL.nil ?_
                        refine loopD.next (⟨i + 1, at2, t.n, H, M⟩ : PaX) ?_ ?_ (by first | ((repeat (first | exact Top.refl | refine Top.push rfl ?_ | refine Top.drop rfl ?_)); done) | exact Top.le (by repeat (first | exact FrLe.nil | refine FrLe.cons rfl ?_))) (by repeat (first | exact FrLe.nil | refine FrLe.cons rfl ?_)) ?_
                        · have e : i = 0 := by omega
                          subst e
                          exact ⟨hat2, by simp only; omega, fun hb => ⟨by simp only; first | omega | exact absurd hb h4, by first | exact (hbk hb).2 | exact absurd hb h4 | (exfalso; have := (hbk hb).1; omega)⟩, hpn⟩
                        · simp only; omega
                        · first | exact Ent.refl _ | exact Ent.nil _ | exact Take.ent' (by repeat' constructor) | (repeat (first | exact Ent.refl _ | refine Ent.drop ?_))
                      · refine Wp.seq ?_
                        refine Wp.region ?_
                        refine s_eq rfl rfl rfl ?_
                        refine s_as rfl rfl ?_
                        refine WpL.nil ?_
                        refine Wp.condD rfl (fun h13 => ?_) (fun h13 => ?_)
                        · refine Wp.region ?_
                          refine s_fa (o2 := 1) rfl rfl rfl ?_
                          refine s_ld rfl rfl (by rfl) ?_
                          refine s_fa (o2 := 2) rfl rfl rfl ?_
                          refine s_st rfl rfl rfl ?_
                          refine WpL.nil ?_
                          refine Wp.region ?_
                          refine s_mv rfl rfl ?_
                          first | refine s_add rfl rfl rfl (w_i64 (by omega) (by omega)) ?_ | refine s_addw rfl rfl rfl ?_
                          refine s_as rfl rfl ?_
                          refine WpL.nil ?_
                          refine loopD.next (⟨i + 1, at2, W, t.n, M⟩ : PaX) ?_ ?_ (by first | ((repeat (first | exact Top.refl | refine Top.push rfl ?_ | refine Top.drop rfl ?_)); done) | exact Top.le (by repeat (first | exact FrLe.nil | refine FrLe.cons rfl ?_))) (by repeat (first | exact FrLe.nil | refine FrLe.cons rfl ?_)) ?_
                          · have e : i = 1 := by omega
                            subst e
                            exact ⟨hat2, by simp only; omega, fun hb => ⟨by simp only; first | omega | exact absurd hb h4, by first | exact (hbk hb).2 | exact absurd hb h4 | (exfalso; have := (hbk hb).1; omega)⟩, hpn⟩
                          · simp only; omega
                          · first | exact Ent.refl _ | exact Ent.nil _ | exact Take.ent' (by repeat' constructor) | (repeat (first | exact Ent.refl _ | refine Ent.drop ?_))
                        · refine Wp.region ?_
                          refine s_fa (o2 := 1) rfl rfl rfl ?_
                          refine s_ld rfl rfl (by rfl) ?_
                          refine s_fa (o2 := 3) rfl rfl rfl ?_
                          refine s_st rfl rfl rfl ?_
                          refine WpL.nil ?_
                          refine Wp.region ?_
                          refine s_mv rfl rfl ?_
                          first | refine s_add rfl rfl rfl (w_i64 (by omega) (by omega)) ?_ | refine s_addw rfl rfl rfl ?_
                          refine s_as rfl rfl ?_
                          refine WpL.nil ?_
                          refine loopD.next (⟨i + 1, at2, W, H, t.n⟩ : PaX) ?_ ?_ (by first | ((repeat (first | exact Top.refl | refine Top.push rfl ?_ | refine Top.drop rfl ?_)); done) | exact Top.le (by repeat (first | exact FrLe.nil | refine FrLe.cons rfl ?_))) (by repeat (first | exact FrLe.nil | refine FrLe.cons rfl ?_)) ?_
                          · have e : i = 2 := by omega
                            subst e
                            exact ⟨hat2, by simp only; omega, fun hb => ⟨by simp only; first | omega | exact absurd hb h4, by first | exact (hbk hb).2 | exact absurd hb h4 | (exfalso; have := (hbk hb).1; omega)⟩, hpn⟩
                          · simp only; omega
                          · first | exact Ent.refl _ | exact Ent.nil _ | exact Take.ent' (by repeat' constructor) | (repeat (first | exact Ent.refl _ | refine Ent.drop ?_))
            · have hg7 := of_decide_eq_false hg7
              refine WpL.goff rfl rfl rfl (by decide) ?_
              refine WpL.goff rfl rfl rfl (by decide) ?_
              refine WpL.goff rfl rfl rfl (by decide) ?_
              refine s_pickF rfl rfl rfl ?_
              refine WpL.nil ?_
              refine Wp.condF rfl ?_
              refine Wp.exit ?_
              refine Wp.seq ?_
              refine Wp.seq ?_
              refine Wp.region ?_
              refine s_mv rfl rfl ?_
              refine s_eq rfl rfl rfl ?_
              refine WpL.nil ?_
              refine Wp.condD rfl (fun h9 => ?_) (fun h9 => ?_)
              · have hr : numRun (lsel (lim0 a) (lim1 b) (lim2 d) i) tk0 ((bsOf s).drop at_) at_ = (t, k, (at2 : Int)) := by
                  by_cases hk0 : k = 0
                  · rw [hnr, if_pos hk0, show (bsOf s).drop at2 = [] from List.drop_of_length_le (by rw [bsOf_len]; omega), hk0]; rfl
                  · rw [hnr, if_neg hk0]
                have hps := parI_step hpi hi (fun hb => ⟨by first | omega | exact absurd hb h4, (hbk hb).2⟩) hr
                refine Wp.seq ?_
                refine Wp.region ?_
                refine s_bd rfl rfl ?_
                refine s_mv rfl rfl ?_
                refine s_sta rfl rfl rfl (by rfl) rfl ?_
                refine s_as rfl rfl ?_
                refine s_as rfl rfl ?_
                refine WpL.nil ?_
                refine Wp.ret ?_
                apply RetQ.mk
                · exact (RetQ.cell3 rfl rfl (by rfl) rfl rfl)
                · exact ⟨0, 0, 0, 0, _, 6, by rw [hps.1 h9, bsOf_len, show s.size = at2 by omega], rfl, rfl⟩
                · first | exact Ent.refl _ | exact Ent.nil _ | exact Take.ent' (by repeat' constructor) | (repeat (first | exact Ent.refl _ | refine Ent.drop ?_))
              · have hr : numRun (lsel (lim0 a) (lim1 b) (lim2 d) i) tk0 ((bsOf s).drop at_) at_ = (t, k, (at2 : Int)) := by
                  by_cases hk0 : k = 0
                  · rw [hnr, if_pos hk0, show (bsOf s).drop at2 = [] from List.drop_of_length_le (by rw [bsOf_len]; omega), hk0]; rfl
                  · rw [hnr, if_neg hk0]
                have hps := parI_step hpi hi (fun hb => ⟨by first | omega | exact absurd hb h4, (hbk hb).2⟩) hr
                refine Wp.skip ?_
                refine Wp.seq ?_
                refine Wp.seq ?_
                refine Wp.region ?_
                refine s_mv rfl rfl ?_
                refine s_eq rfl rfl rfl ?_
                refine WpL.nil ?_
                refine Wp.condD rfl (fun h10 => ?_) (fun h10 => ?_)
                · refine Wp.seq ?_
                  apply Wp.drawGN (fB := [blk gN [.int .i64 t.ph, .int .i64 t.n, .int .i64 (lsel (lim0 a) (lim1 b) (lim2 d) i), .int .i64 t.e] 170]) mixed [(4, false)] (by kernel_rfl)
                  apply GoR.segF [⟨0, 107, _, [], false⟩, ⟨1, 108, _, [], true⟩, ⟨2, 109, _, [], true⟩, ⟨3, 110, _, [2], true⟩] [] [0] [5, 6, 108, 109, 110] (.inl ⟨_, by repeat' constructor⟩) rfl rfl rfl (by kernel_rfl) rfl rfl rfl
                  · refine AllF.cons rfl rfl rfl rfl ?_ ?_
                    · refine s_bd rfl rfl ?_
                      exact obN rfl
                    refine AllF.consR rfl rfl rfl rfl ?_ ?_
                    · refine s_mv rfl rfl ?_
                      exact obN rfl
                    refine AllF.consR rfl rfl rfl rfl ?_ ?_
                    · refine s_fa (o2 := 3) rfl rfl rfl ?_
                      exact obN rfl
                    refine AllF.consR rfl rfl rfl rfl ?_ ?_
                    · refine s_ld rfl rfl (by rfl) ?_
                      exact obN rfl
                    exact AllF.nil
                  · refine s_sta rfl rfl rfl (by rfl) rfl ?_
                    refine WpL.nil ⟨rfl, rfl, ?_⟩
                    apply GoR.nil [⟨5, 5, _, [0, 1, 4], false⟩, ⟨6, 6, _, [0, 1, 2, 3, 4, 5], false⟩] (.inl ⟨_, by repeat' constructor⟩) rfl rfl
                    · refine AllF.cons rfl rfl rfl rfl ?_ ?_
                      · refine s_as rfl rfl ?_
                        exact obN rfl
                      refine AllF.cons rfl rfl rfl rfl ?_ ?_
                      · refine s_as rfl rfl ?_
                        exact obN rfl
                      exact AllF.nil
                    · refine Wp.ret ?_
                      apply RetQ.mk
                      · exact (RetQ.cell3 rfl rfl (by rfl) rfl rfl)
                      · exact ⟨0, 0, 0, 0, _, _, by rw [hps.2.1 h10], rfl, rfl⟩
                      · first | exact Ent.refl _ | exact Ent.nil _ | exact Take.ent' (by repeat' constructor) | (repeat (first | exact Ent.refl _ | refine Ent.drop ?_))
                · refine Wp.skip ?_
                  refine Wp.seq ?_
                  refine Wp.seq ?_
                  refine Wp.region ?_
                  refine s_fa (o2 := 1) rfl rfl rfl ?_
                  refine s_ld rfl rfl (by rfl) ?_
                  refine s_eq rfl rfl rfl ?_
                  refine WpL.nil ?_
                  refine Wp.condD rfl (fun h11 => ?_) (fun h11 => ?_)
                  · refine Wp.seq ?_
                    refine Wp.region ?_
                    refine s_bd rfl rfl ?_
                    refine s_mv rfl rfl ?_
                    refine s_sta rfl rfl rfl (by rfl) rfl ?_
                    refine s_as rfl rfl ?_
                    refine s_as rfl rfl ?_
                    refine WpL.nil ?_
                    refine Wp.ret ?_
                    apply RetQ.mk
                    · exact (RetQ.cell3 rfl rfl (by rfl) rfl rfl)
                    · exact ⟨0, 0, 0, 0, _, 4, by rw [hps.2.2.1 h9 h10 h11], rfl, rfl⟩
                    · first | exact Ent.refl _ | exact Ent.nil _ | exact Take.ent' (by repeat' constructor) | (repeat (first | exact Ent.refl _ | refine Ent.drop ?_))
                  · have hpn := hps.2.2.2 h9 h10 h11
                    rw [Int.toNat_natCast] at hpn
                    refine Wp.skip ?_
                    refine Wp.seq ?_
                    refine Wp.region ?_
                    refine s_mv rfl rfl ?_
                    refine WpL.nil ?_
                    refine Wp.block ?_
                    refine Wp.seq ?_
                    refine Wp.region ?_
                    refine s_eq rfl rfl rfl ?_
                    refine s_as rfl rfl ?_
                    refine WpL.nil ?_
                    refine Wp.condD rfl (fun h12 => ?_) (fun h12 => ?_)
                    · refine Wp.region ?_
                      refine s_fa (o2 := 1) rfl rfl rfl ?_
                      refine s_ld rfl rfl (by rfl) ?_
                      refine s_fa (o2 := 1) rfl rfl rfl ?_
                      refine s_st rfl rfl rfl ?_
                      refine WpL.nil ?_
                      refine Wp.region ?_
                      refine s_mv rfl rfl ?_
                      first | refine s_add rfl rfl rfl (w_i64 (by omega) (by omega)) ?_ | refine s_addw rfl rfl rfl ?_
                      refine s_as rfl rfl ?_
                      refine WpL.nil ?_
                      refine loopD.next (⟨i + 1, at2, t.n, H, M⟩ : PaX) ?_ ?_ (by first | ((repeat (first | exact Top.refl | refine Top.push rfl ?_ | refine Top.drop rfl ?_)); done) | exact Top.le (by repeat (first | exact FrLe.nil | refine FrLe.cons rfl ?_))) (by repeat (first | exact FrLe.nil | refine FrLe.cons rfl ?_)) ?_
                      · have e : i = 0 := by omega
                        subst e
                        exact ⟨hat2, by simp only; omega, fun hb => ⟨by simp only; first | omega | exact absurd hb h4, by first | exact (hbk hb).2 | exact absurd hb h4 | (exfalso; have := (hbk hb).1; omega)⟩, hpn⟩
                      · simp only; omega
                      · first | exact Ent.refl _ | exact Ent.nil _ | exact Take.ent' (by repeat' constructor) | (repeat (first | exact Ent.refl _ | refine Ent.drop ?_))
                    · refine Wp.seq ?_
                      refine Wp.region ?_
                      refine s_eq rfl rfl rfl ?_
                      refine s_as rfl rfl ?_
                      refine WpL.nil ?_
                      refine Wp.condD rfl (fun h13 => ?_) (fun h13 => ?_)
                      · refine Wp.region ?_
                        refine s_fa (o2 := 1) rfl rfl rfl ?_
                        refine s_ld rfl rfl (by rfl) ?_
                        refine s_fa (o2 := 2) rfl rfl rfl ?_
                        refine s_st rfl rfl rfl ?_
                        refine WpL.nil ?_
                        refine Wp.region ?_
                        refine s_mv rfl rfl ?_
                        first | refine s_add rfl rfl rfl (w_i64 (by omega) (by omega)) ?_ | refine s_addw rfl rfl rfl ?_
                        refine s_as rfl rfl ?_
                        refine WpL.nil ?_
                        refine loopD.next (⟨i + 1, at2, W, t.n, M⟩ : PaX) ?_ ?_ (by first | ((repeat (first | exact Top.refl | refine Top.push rfl ?_ | refine Top.drop rfl ?_)); done) | exact Top.le (by repeat (first | exact FrLe.nil | refine FrLe.cons rfl ?_))) (by repeat (first | exact FrLe.nil | refine FrLe.cons rfl ?_)) ?_
                        · have e : i = 1 := by omega
                          subst e
                          exact ⟨hat2, by simp only; omega, fun hb => ⟨by simp only; first | omega | exact absurd hb h4, by first | exact (hbk hb).2 | exact absurd hb h4 | (exfalso; have := (hbk hb).1; omega)⟩, hpn⟩
                        · simp only; omega
                        · first | exact Ent.refl _ | exact Ent.nil _ | exact Take.ent' (by repeat' constructor) | (repeat (first | exact Ent.refl _ | refine Ent.drop ?_))
                      · refine Wp.region ?_
                        refine s_fa (o2 := 1) rfl rfl rfl ?_
                        refine s_ld rfl rfl (by rfl) ?_
                        refine s_fa (o2 := 3) rfl rfl rfl ?_
                        refine s_st rfl rfl rfl ?_
                        refine WpL.nil ?_
                        refine Wp.region ?_
                        refine s_mv rfl rfl ?_
                        first | refine s_add rfl rfl rfl (w_i64 (by omega) (by omega)) ?_ | refine s_addw rfl rfl rfl ?_
                        refine s_as rfl rfl ?_
                        refine WpL.nil ?_
                        refine loopD.next (⟨i + 1, at2, W, H, t.n⟩ : PaX) ?_ ?_ (by first | ((repeat (first | exact Top.refl | refine Top.push rfl ?_ | refine Top.drop rfl ?_)); done) | exact Top.le (by repeat (first | exact FrLe.nil | refine FrLe.cons rfl ?_))) (by repeat (first | exact FrLe.nil | refine FrLe.cons rfl ?_)) ?_
                        · have e : i = 2 := by omega
                          subst e
                          exact ⟨hat2, by simp only; omega, fun hb => ⟨by simp only; first | omega | exact absurd hb h4, by first | exact (hbk hb).2 | exact absurd hb h4 | (exfalso; have := (hbk hb).1; omega)⟩, hpn⟩
                        · simp only; omega
                        · first | exact Ent.refl _ | exact Ent.nil _ | exact Take.ent' (by repeat' constructor) | (repeat (first | exact Ent.refl _ | refine Ent.drop ?_))
        · refine Wp.exit ?_
          refine Wp.seq ?_
          refine Wp.region ?_
          refine s_lda (vs := [_, _, _, _]) rfl rfl rfl (by rfl) ?_
          refine s_mv rfl rfl ?_
          refine s_sta rfl rfl rfl (by rfl) rfl ?_
          refine s_as rfl rfl ?_
          refine s_as rfl rfl ?_
          refine WpL.nil ?_
          refine Wp.ret ?_
          apply RetQ.mk
          · exact (RetQ.cell3 rfl rfl (by rfl) rfl rfl)
          · exact ⟨K, W, H, M, _, 0, by unfold parI at hpi; rw [hpi, if_pos (by first | exact .inr ⟨by have := (hbk h4).1; omega, h4⟩ | exact .inl (by omega))], rfl, rfl⟩
          · first | exact Ent.refl _ | exact Ent.nil _ | exact Take.ent' (by repeat' constructor) | (repeat (first | exact Ent.refl _ | refine Ent.drop ?_))
  · have hg5 := of_decide_eq_false hg5
    refine WpL.goff rfl rfl rfl (by decide) ?_
    refine WpL.goff rfl rfl rfl (by decide) ?_
    refine WpL.goff rfl rfl rfl (by decide) ?_
    refine s_pickF rfl rfl rfl ?_
    refine WpL.nil ?_
    refine Wp.condF rfl ?_
    refine Wp.skip ?_
    refine Wp.seq ?_
    refine Wp.seq ?_
    refine Wp.region ?_
    refine s_mv rfl rfl ?_
    refine s_lens rfl Tryz.underlying9 rfl ?_
    refine s_lt rfl rfl rfl ?_
    refine WpL.nil ?_
    refine Wp.condDF rfl (by omega) ?_
    refine Wp.skip ?_
    refine Wp.seq ?_
    refine Wp.region ?_
    refine s_mv rfl rfl ?_
    refine s_ixs rfl Tryz.underlying9 rfl rfl (by omega) (by omega) ?_
    have hu1 := u8_lt (s[1]'(by omega))
    change WpL _ _ _ _ _ _ ((61, Value.int .u8 ((s[1]'(by omega)).toNat : Int)) :: _) _
    first | refine s_cvi rfl Tryz.underlying5 rfl (w_i64 (by omega) (by omega)) ?_ | refine s_cviw rfl Tryz.underlying5 rfl ?_
    refine s_sub rfl rfl rfl (w_i64 (by omega) (by omega)) ?_
    change WpL _ _ _ _ _ _ ((63, Value.int .i64 (((s[1]'(by omega)).toNat : Int) - 48)) :: _) _
    have hp0 := hdP_3 (lim0 a) (lim1 b) (lim2 d) (bs := (bsOf s).drop 3) (lim_o a b d).a.1 h80 h1c h2
    rw [← hbs2, ← hbs1, ← hbs] at hp0
    have hK0 : 1 ≤ ((s[1]'(by omega)).toNat : Int) - 48 ∧ ((s[1]'(by omega)).toNat : Int) - 48 ≤ 6 := by omega
    generalize ((s[1]'(by omega)).toNat : Int) - 48 = K at hp0 hK0 ⊢
    have hpar : ∀ M, parI (lim0 a) (lim1 b) (lim2 d) K (bsOf s) 0 2 0 0 M := fun M => by unfold parI; rw [if_neg (by omega)]; exact hp0
    refine s_bd rfl rfl ?_
    refine s_al rfl ?_
    intro gH
    refine s_sta rfl rfl rfl (by rfl) rfl ?_
    refine WpL.nil ?_
    refine Wp.seq ?_
    refine Wp.region ?_
    refine s_as rfl rfl ?_
    refine WpL.nil ?_
    refine Wp.seq ?_
    refine Wp.seq ?_
    refine Wp.region ?_
    refine s_fa (o2 := 0) rfl rfl rfl ?_
    refine s_ld rfl rfl (by rfl) ?_
    refine s_callf rfl rfl (by repeat' constructor) (rbits_spec _) ?_
    rintro _ _ ⟨rfl, rfl⟩
    simp only [napp]
    refine WpL.nil ?_
    refine Wp.condD rfl (fun h4 => ?_) (fun h4 => ?_)
    · refine Wp.seq ?_
      refine Wp.region ?_
      refine s_as rfl rfl ?_
      refine WpL.nil ?_
      refine Wp.region ?_
      refine s_fa (o2 := 3) rfl rfl rfl ?_
      refine s_st rfl rfl rfl ?_
      refine WpL.nil ?_
      refine Wp.seq ?_
      refine Wp.region ?_
      refine s_lda (vs := [_, _, _]) rfl rfl rfl (by rfl) ?_
      refine s_callf rfl rfl (by repeat' constructor) (rlimits_spec _ _ _) ?_
      rintro _ _ ⟨gl, rfl, rfl⟩
      simp only [napp]
      refine s_as rfl rfl ?_
      refine WpL.nil ?_
      refine Wp.seq ?_
      refine Wp.region ?_
      refine s_as rfl rfl ?_
      refine WpL.nil ?_
      refine Wp.seq ?_
      refine Wp.seq ?_
      refine Wp.region ?_
      refine s_as rfl rfl ?_
      refine WpL.nil ?_
      refine Wp.block ?_
      refine Wp.loopD (σ := PaX) (fun x => x.at_ ≤ s.size ∧ x.i ≤ 3 ∧ (bitsK K → x.i ≤ 2 ∧ x.M = 1) ∧ parI (lim0 a) (lim1 b) (lim2 d) K (bsOf s) x.i x.at_ x.W x.H x.M) [5, 6, 10, 11, 12, 13, 14, 15, 71, 72, 73, 74, 75, 76, 77, 78, 79, 80, 81, 82, 83, 84, 85, 86, 87, 88, 89, 90, 91, 92, 93, 94, 95, 96, 97, 98, 99, 100, 101, 102, 103, 104, 105, 106, 107, 108, 109, 110, 111, 112, 113, 114, 115, 116, 117, 118, 119, 120, 121, 122, 123, 124, 125, 126, 127, 128, 129] (fun x => [(11, .int .i64 (x.i : Int)), (10, .int .i64 (x.at_ : Int))]) (fun x => [blk gH [.int .i64 K, .int .i64 x.W, .int .i64 x.H, .int .i64 x.M] 113, blk gl [.int .i64 (lim0 a), .int .i64 (lim1 b), .int .i64 (lim2 d)] 3, blk gO [.int .i64 0, .int .i64 0, .int .i64 0, .int .i64 0] 113]) (fun x => 3 - x.i) ⟨0, 2, 0, 0, (if bitsK K then 1 else 0)⟩ ?_ (by repeat (first | exact FrLe.nil | refine FrLe.cons rfl ?_)) ?_ ?_
      · exact ⟨by simp only; omega, by simp, fun hb => ⟨by simp, by simp only; rw [if_pos hb]⟩, hpar _⟩
      · first | (rw [show (if bitsK K then (1 : Int) else 0) = 1 from if_pos h4]; first | exact Ent.refl _ | exact Ent.nil _ | exact Take.ent' (by repeat' constructor) | (repeat (first | exact Ent.refl _ | refine Ent.drop ?_))) | (rw [show (if bitsK K then (1 : Int) else 0) = 0 from if_neg h4]; first | exact Ent.refl _ | exact Ent.nil _ | exact Take.ent' (by repeat' constructor) | (repeat (first | exact Ent.refl _ | refine Ent.drop ?_)))
      · rintro ⟨i, at_, W, H, M⟩ ⟨hat, hi3, hbk, hpi⟩
        dsimp only at hat hi3 hbk hpi ⊢
        refine Wp.seq ?_
        refine Wp.seq ?_
        refine Wp.region ?_
        refine s_mv rfl rfl ?_
        refine s_mv rfl rfl ?_
        refine s_lt rfl rfl rfl ?_
        refine WpL.nil ?_
        refine Wp.condD rfl (fun h6 => ?_) (fun h6 => ?_)
        · have hi : i < 3 := by omega
          refine Wp.skip ?_
          refine Wp.seq ?_
          refine Wp.block ?_
          refine Wp.seq ?_
          refine Wp.region ?_
          refine s_mv rfl rfl ?_
          refine s_mv rfl rfl ?_
          refine s_ixa i rfl rfl rfl (RdsL.blk (o := 0) (xs := [.int .i64 (lim0 a), .int .i64 (lim1 b), .int .i64 (lim2 d)]) rfl) (by first | exact Take.ent' (by repeat' constructor) | (repeat (first | exact Ent.refl _ | refine Ent.drop ?_))) rfl (by omega) (by simp only [List.length_cons, List.length_nil]; omega) ?_
          refine s_ldx rfl rfl (RdsL.blk (o := 0) (xs := [.int .i64 (lim0 a), .int .i64 (lim1 b), .int .i64 (lim2 d)]) rfl) (by first | exact Take.ent' (by repeat' constructor) | (repeat (first | exact Ent.refl _ | refine Ent.drop ?_))) (lsel_lim a b d i hi) ?_
          refine s_callf rfl rfl (by repeat' constructor) (rtkNew_spec _) ?_
          rintro _ _ ⟨rfl, rfl⟩
          simp only [napp]
          refine s_al rfl ?_
          intro gN
          refine s_sta rfl rfl rfl (by rfl) rfl ?_
          refine WpL.nil ?_
          refine Wp.seq ?_
          refine Wp.region ?_
          refine s_as rfl rfl ?_
          refine WpL.nil ?_
          refine Wp.seq ?_
          refine Wp.block ?_
          refine Wp.loopD (σ := PbX) (fun y => at_ ≤ y.at_ ∧ y.at_ ≤ s.size ∧ (y.k = 0 → tkOk (lsel (lim0 a) (lim1 b) (lim2 d) i) y.t) ∧ numRun (lsel (lim0 a) (lim1 b) (lim2 d) i) tk0 ((bsOf s).drop at_) at_ = (if y.k = 0 then numRun (lsel (lim0 a) (lim1 b) (lim2 d) i) y.t ((bsOf s).drop y.at_) y.at_ else (y.t, y.k, (y.at_ : Int)))) [10, 13, 14, 15, 81, 82, 83, 84, 85, 86, 87, 88, 89, 90, 91, 92, 93, 94, 95, 96, 97, 98, 99, 100] (fun y => [(13, .int .i64 y.k), (10, .int .i64 (y.at_ : Int))]) (fun y => [blk gN [.int .i64 y.t.ph, .int .i64 y.t.n, .int .i64 (lsel (lim0 a) (lim1 b) (lim2 d) i), .int .i64 y.t.e] 170, blk gH [.int .i64 K, .int .i64 W, .int .i64 H, .int .i64 M] 113, blk gl [.int .i64 (lim0 a), .int .i64 (lim1 b), .int .i64 (lim2 d)] 3, blk gO [.int .i64 0, .int .i64 0, .int .i64 0, .int .i64 0] 113]) (fun y => s.size - y.at_) ⟨0, at_, tk0⟩ ?_ (by repeat (first | exact FrLe.nil | refine FrLe.cons rfl ?_)) ?_ ?_
          · exact ⟨Nat.le_refl _, hat, fun _ => (show tkOk _ tk0 by unfold tkOk tk0; dsimp only; have := (lsel_bd a b d i).1; omega), (if_pos rfl).symm⟩
          · first | exact Ent.refl _ | exact Ent.nil _ | exact Take.ent' (by repeat' constructor) | (repeat (first | exact Ent.refl _ | refine Ent.drop ?_))
          · rintro ⟨k, at2, t⟩ ⟨ha2, hat2, htk, hnr⟩
            dsimp only at ha2 hat2 htk hnr ⊢
            refine Wp.seq ?_
            refine Wp.seq ?_
            refine Wp.region ?_
            refine s_mv rfl rfl ?_
            refine s_eq rfl rfl rfl ?_
            refine s_mv rfl rfl ?_
            refine WpL.grd rfl rfl rfl (fun hg8 => ?_) (fun hg8 => ?_)
            · have hg8 := of_decide_eq_true hg8
              refine s_mv rfl rfl ?_
              refine WpL.gon rfl rfl ?_
              refine s_mv rfl rfl ?_
              refine WpL.gon rfl rfl ?_
              refine s_lens rfl Tryz.underlying9 rfl ?_
              refine WpL.gon rfl rfl ?_
              refine s_lt rfl rfl rfl ?_
              refine s_pickT rfl rfl rfl ?_
              refine WpL.nil ?_
              refine Wp.condD rfl (fun h8 => ?_) (fun h8 => ?_)
              · have hlt : at2 < s.size := by omega
                obtain ⟨cc, hcc⟩ : ∃ cc : Int, cc = ((s[at2]'hlt).toNat : Int) := ⟨_, rfl⟩
                obtain rfl : k = 0 := by assumption
                have htk2 := htk rfl
                rw [if_pos rfl] at hnr
                have hdr := bsOf_drop hlt
                rw [← hcc] at hdr
                rw [hdr] at hnr
                have hst := numRun_step hnr
                refine Wp.skip ?_
                refine Wp.block ?_
                refine Wp.seq ?_
                apply Wp.drawGA (fB := []) mixed 8 [(8, true)] rfl rfl (by kernel_rfl)
                apply GoR.segT [⟨0, 90, _, [], false⟩, ⟨1, 91, _, [], false⟩, ⟨2, 92, _, [], false⟩, ⟨3, 93, _, [1, 2], false⟩, ⟨4, 94, _, [0, 3], false⟩, ⟨5, 89, _, [4], false⟩, ⟨6, 95, _, [5], false⟩, ⟨7, 96, _, [5], true⟩] [] [0, 1, 2, 3, 4, 5, 6] [15, 96] (.inl ⟨_, .nil⟩) rfl rfl rfl (by kernel_rfl) rfl rfl rfl rfl
                · refine AllF.cons rfl rfl rfl rfl ?_ ?_
                  · refine s_lda (vs := [_, _, _, _]) rfl rfl rfl (by rfl) ?_
                    exact obN rfl
                  refine AllF.cons rfl rfl rfl rfl ?_ ?_
                  · refine s_mv rfl rfl ?_
                    exact obN rfl
                  refine AllF.cons rfl rfl rfl rfl ?_ ?_
                  · refine s_mv rfl rfl ?_
                    exact obN rfl
                  refine AllF.cons rfl rfl rfl rfl ?_ ?_
                  · refine s_ixs rfl Tryz.underlying9 rfl rfl (by omega) (by omega) ?_
                    change WpL _ _ _ _ _ _ ((93, Value.int .u8 ((s[at2]'hlt).toNat : Int)) :: _) _
                    rw [← hcc]
                    exact obN rfl
                  refine AllF.cons rfl rfl rfl rfl ?_ ?_
                  · refine s_callf rfl rfl (by repeat' constructor) (rtkPut_spec t.ph t.n _ t.e cc (by rw [hcc]; omega) (by rw [hcc]; exact u8_lt _) htk2.2.2.1 (lsel_bd a b d i).1 (lsel_bd a b d i).2 ⟨htk2.1, by have := htk2.2.1; omega⟩) ?_
                    rintro _ _ ⟨rfl, rfl⟩
                    simp only [napp]
                    exact WpL.nil ⟨rfl, rfl, rfl, by first | exact Ent.refl _ | exact Ent.nil _ | exact Take.ent' (by repeat' constructor) | (repeat (first | exact Ent.refl _ | refine Ent.drop ?_))⟩
                  refine AllF.cons rfl rfl rfl rfl ?_ ?_
                  · refine s_mv rfl rfl ?_
                    exact obN rfl
                  refine AllF.cons rfl rfl rfl rfl ?_ ?_
                  · refine s_ext rfl rfl rfl ?_
                    exact obN rfl
                  refine AllF.consR rfl rfl rfl rfl ?_ ?_
                  · refine s_ext rfl rfl rfl ?_
                    exact obN rfl
                  exact AllF.nil
                · intro gS
                  refine s_sta rfl rfl rfl (by rfl) rfl ?_
                  refine WpL.nil ⟨rfl, rfl, ?_⟩
                  apply GoR.nil [⟨10, 15, _, [0, 1, 2, 3, 4, 5, 6, 7, 8, 9], false⟩] (.inl ⟨_, .nil⟩) rfl rfl
                  · refine AllF.cons rfl rfl rfl rfl ?_ ?_
                    · refine s_as rfl rfl ?_
                      exact obN rfl
                    exact AllF.nil
                  · refine Wp.seq ?_
                    refine Wp.region ?_
                    refine s_lda (vs := [_, _, _, _]) rfl rfl rfl (by rfl) ?_
                    refine s_sta rfl rfl rfl (by rfl) rfl ?_
                    refine WpL.nil ?_
                    refine Wp.seq ?_
                    refine Wp.region ?_
                    refine s_mv rfl rfl ?_
                    refine s_as rfl rfl ?_
                    refine WpL.nil ?_
                    refine Wp.region ?_
                    refine s_mv rfl rfl ?_
                    first | refine s_add rfl rfl rfl (w_i64 (by omega) (by omega)) ?_ | refine s_addw rfl rfl rfl ?_
                    refine s_as rfl rfl ?_
                    refine WpL.nil ?_
                    refine loopD.next (Q := fun _ _ _ _ => False) (⟨(tkPut (lsel (lim0 a) (lim1 b) (lim2 d) i) t cc).2, at2 + 1, (tkPut (lsel (lim0 a) (lim1 b) (lim2 d) i) t cc).1⟩ : PbX) ?_ ?_ (by first | ((repeat (first | exact Top.refl | refine Top.push rfl ?_ | refine Top.drop rfl ?_)); done) | exact Top.le (by repeat (first | exact FrLe.nil | refine FrLe.cons rfl ?_))) (by repeat (first | exact FrLe.nil | refine FrLe.cons rfl ?_)) ?_
                    · exact ⟨by simp only; omega, by simp only; omega, fun q => by rcases tkPut_cases (c := cc) htk2 with z | z | z; exact z.2; exact absurd q (by simp only; omega); exact absurd q (by simp only; omega), hst⟩
                    · simp only; omega
                    · first | exact Ent.refl _ | exact Ent.nil _ | exact Take.ent' (by repeat' constructor) | (repeat (first | exact Ent.refl _ | refine Ent.drop ?_))
              · refine Wp.exit ?_
                refine Wp.seq ?_
                refine Wp.seq ?_
                refine Wp.region ?_
                refine s_mv rfl rfl ?_
                refine s_eq rfl rfl rfl ?_
                refine WpL.nil ?_
                refine Wp.condD rfl (fun h9 => ?_) (fun h9 => ?_)
                · have hr : numRun (lsel (lim0 a) (lim1 b) (lim2 d) i) tk0 ((bsOf s).drop at_) at_ = (t, k, (at2 : Int)) := by
                    by_cases hk0 : k = 0
                    · rw [hnr, if_pos hk0, show (bsOf s).drop at2 = [] from List.drop_of_length_le (by rw [bsOf_len]; omega), hk0]; rfl
                    · rw [hnr, if_neg hk0]
                  have hps := parI_step hpi hi (fun hb => ⟨by first | omega | exact absurd hb h4, (hbk hb).2⟩) hr
                  refine Wp.seq ?_
                  refine Wp.region ?_
                  refine s_bd rfl rfl ?_
                  refine s_mv rfl rfl ?_
                  refine s_sta rfl rfl rfl (by rfl) rfl ?_
                  refine s_as rfl rfl ?_
                  refine s_as rfl rfl ?_
                  refine WpL.nil ?_
                  refine Wp.ret ?_
                  apply RetQ.mk
                  · exact (RetQ.cell3 rfl rfl (by rfl) rfl rfl)
                  · exact ⟨0, 0, 0, 0, _, 6, by rw [hps.1 h9, bsOf_len, show s.size = at2 by omega], rfl, rfl⟩
                  · first | exact Ent.refl _ | exact Ent.nil _ | exact Take.ent' (by repeat' constructor) | (repeat (first | exact Ent.refl _ | refine Ent.drop ?_))
                · have hr : numRun (lsel (lim0 a) (lim1 b) (lim2 d) i) tk0 ((bsOf s).drop at_) at_ = (t, k, (at2 : Int)) := by
                    by_cases hk0 : k = 0
                    · rw [hnr, if_pos hk0, show (bsOf s).drop at2 = [] from List.drop_of_length_le (by rw [bsOf_len]; omega), hk0]; rfl
                    · rw [hnr, if_neg hk0]
                  have hps := parI_step hpi hi (fun hb => ⟨by first | omega | exact absurd hb h4, (hbk hb).2⟩) hr
                  refine Wp.skip ?_
                  refine Wp.seq ?_
                  refine Wp.seq ?_
                  refine Wp.region ?_
                  refine s_mv rfl rfl ?_
                  refine s_eq rfl rfl rfl ?_
                  refine WpL.nil ?_
                  refine Wp.condD rfl (fun h10 => ?_) (fun h10 => ?_)
                  · refine Wp.seq ?_
                    apply Wp.drawGN (fB := [blk gN [.int .i64 t.ph, .int .i64 t.n, .int .i64 (lsel (lim0 a) (lim1 b) (lim2 d) i), .int .i64 t.e] 170]) mixed [(4, false)] (by kernel_rfl)
                    apply GoR.segF [⟨0, 107, _, [], false⟩, ⟨1, 108, _, [], true⟩, ⟨2, 109, _, [], true⟩, ⟨3, 110, _, [2], true⟩] [] [0] [5, 6, 108, 109, 110] (.inl ⟨_, by repeat' constructor⟩) rfl rfl rfl (by kernel_rfl) rfl rfl rfl
                    · refine AllF.cons rfl rfl rfl rfl ?_ ?_
                      · refine s_bd rfl rfl ?_
                        exact obN rfl
                      refine AllF.consR rfl rfl rfl rfl ?_ ?_
                      · refine s_mv rfl rfl ?_
                        exact obN rfl
                      refine AllF.consR rfl rfl rfl rfl ?_ ?_
                      · refine s_fa (o2 := 3) rfl rfl rfl ?_
                        exact obN rfl
                      refine AllF.consR rfl rfl rfl rfl ?_ ?_
                      · refine s_ld rfl rfl (by rfl) ?_
                        exact obN rfl
                      exact AllF.nil
                    · refine s_sta rfl rfl rfl (by rfl) rfl ?_
                      refine WpL.nil ⟨rfl, rfl, ?_⟩
                      apply GoR.nil [⟨5, 5, _, [0, 1, 4], false⟩, ⟨6, 6, _, [0, 1, 2, 3, 4, 5], false⟩] (.inl ⟨_, by repeat' constructor⟩) rfl rfl
                      · refine AllF.cons rfl rfl rfl rfl ?_ ?_
                        · refine s_as rfl rfl ?_
                          exact obN rfl
                        refine AllF.cons rfl rfl rfl rfl ?_ ?_
                        · refine s_as rfl rfl ?_
                          exact obN rfl
                        exact AllF.nil
                      · refine Wp.ret ?_
                        apply RetQ.mk
                        · exact (RetQ.cell3 rfl rfl (by rfl) rfl rfl)
                        · exact ⟨0, 0, 0, 0, _, _, by rw [hps.2.1 h10], rfl, rfl⟩
                        · first | exact Ent.refl _ | exact Ent.nil _ | exact Take.ent' (by repeat' constructor) | (repeat (first | exact Ent.refl _ | refine Ent.drop ?_))
                  · refine Wp.skip ?_
                    refine Wp.seq ?_
                    refine Wp.seq ?_
                    refine Wp.region ?_
                    refine s_fa (o2 := 1) rfl rfl rfl ?_
                    refine s_ld rfl rfl (by rfl) ?_
                    refine s_eq rfl rfl rfl ?_
                    refine WpL.nil ?_
                    refine Wp.condD rfl (fun h11 => ?_) (fun h11 => ?_)
                    · refine Wp.seq ?_
                      refine Wp.region ?_
                      refine s_bd rfl rfl ?_
                      refine s_mv rfl rfl ?_
                      refine s_sta rfl rfl rfl (by rfl) rfl ?_
                      refine s_as rfl rfl ?_
                      refine s_as rfl rfl ?_
                      refine WpL.nil ?_
                      refine Wp.ret ?_
                      apply RetQ.mk
                      · exact (RetQ.cell3 rfl rfl (by rfl) rfl rfl)
                      · exact ⟨0, 0, 0, 0, _, 4, by rw [hps.2.2.1 h9 h10 h11], rfl, rfl⟩
                      · first | exact Ent.refl _ | exact Ent.nil _ | exact Take.ent' (by repeat' constructor) | (repeat (first | exact Ent.refl _ | refine Ent.drop ?_))
                    · have hpn := hps.2.2.2 h9 h10 h11
                      rw [Int.toNat_natCast] at hpn
                      refine Wp.skip ?_
                      refine Wp.seq ?_
                      refine Wp.region ?_
                      refine s_mv rfl rfl ?_
                      refine WpL.nil ?_
                      refine Wp.block ?_
                      refine Wp.seq ?_
                      refine Wp.region ?_
                      refine s_eq rfl rfl rfl ?_
                      refine s_as rfl rfl ?_
                      refine WpL.nil ?_
                      refine Wp.condD rfl (fun h12 => ?_) (fun h12 => ?_)
                      · refine Wp.region ?_
                        refine s_fa (o2 := 1) rfl rfl rfl ?_
                        refine s_ld rfl rfl (by rfl) ?_
                        refine s_fa (o2 := 1) rfl rfl rfl ?_
                        refine s_st rfl rfl rfl ?_
                        refine WpL.nil ?_
                        refine Wp.region ?_
                        refine s_mv rfl rfl ?_
                        first | refine s_add rfl rfl rfl (w_i64 (by omega) (by omega)) ?_ | refine s_addw rfl rfl rfl ?_
                        refine s_as rfl rfl ?_
                        refine WpL.nil ?_
                        refine loopD.next (⟨i + 1, at2, t.n, H, M⟩ : PaX) ?_ ?_ (by first | ((repeat (first | exact Top.refl | refine Top.push rfl ?_ | refine Top.drop rfl ?_)); done) | exact Top.le (by repeat (first | exact FrLe.nil | refine FrLe.cons rfl ?_))) (by repeat (first | exact FrLe.nil | refine FrLe.cons rfl ?_)) ?_
                        · have e : i = 0 := by omega
                          subst e
                          exact ⟨hat2, by simp only; omega, fun hb => ⟨by simp only; first | omega | exact absurd hb h4, by first | exact (hbk hb).2 | exact absurd hb h4 | (exfalso; have := (hbk hb).1; omega)⟩, hpn⟩
                        · simp only; omega
                        · first | exact Ent.refl _ | exact Ent.nil _ | exact Take.ent' (by repeat' constructor) | (repeat (first | exact Ent.refl _ | refine Ent.drop ?_))
                      · refine Wp.seq ?_
                        refine Wp.region ?_
                        refine s_eq rfl rfl rfl ?_
                        refine s_as rfl rfl ?_
                        refine WpL.nil ?_
                        refine Wp.condD rfl (fun h13 => ?_) (fun h13 => ?_)
                        · refine Wp.region ?_
                          refine s_fa (o2 := 1) rfl rfl rfl ?_
                          refine s_ld rfl rfl (by rfl) ?_
                          refine s_fa (o2 := 2) rfl rfl rfl ?_
                          refine s_st rfl rfl rfl ?_
                          refine WpL.nil ?_
                          refine Wp.region ?_
                          refine s_mv rfl rfl ?_
                          first | refine s_add rfl rfl rfl (w_i64 (by omega) (by omega)) ?_ | refine s_addw rfl rfl rfl ?_
                          refine s_as rfl rfl ?_
                          refine WpL.nil ?_
                          refine loopD.next (⟨i + 1, at2, W, t.n, M⟩ : PaX) ?_ ?_ (by first | ((repeat (first | exact Top.refl | refine Top.push rfl ?_ | refine Top.drop rfl ?_)); done) | exact Top.le (by repeat (first | exact FrLe.nil | refine FrLe.cons rfl ?_))) (by repeat (first | exact FrLe.nil | refine FrLe.cons rfl ?_)) ?_
                          · have e : i = 1 := by omega
                            subst e
                            exact ⟨hat2, by simp only; omega, fun hb => ⟨by simp only; first | omega | exact absurd hb h4, by first | exact (hbk hb).2 | exact absurd hb h4 | (exfalso; have := (hbk hb).1; omega)⟩, hpn⟩
                          · simp only; omega
                          · first | exact Ent.refl _ | exact Ent.nil _ | exact Take.ent' (by repeat' constructor) | (repeat (first | exact Ent.refl _ | refine Ent.drop ?_))
                        · refine Wp.region ?_
                          refine s_fa (o2 := 1) rfl rfl rfl ?_
                          refine s_ld rfl rfl (by rfl) ?_
                          refine s_fa (o2 := 3) rfl rfl rfl ?_
                          refine s_st rfl rfl rfl ?_
                          refine WpL.nil ?_
                          refine Wp.region ?_
                          refine s_mv rfl rfl ?_
                          first | refine s_add rfl rfl rfl (w_i64 (by omega) (by omega)) ?_ | refine s_addw rfl rfl rfl ?_
                          refine s_as rfl rfl ?_
                          refine WpL.nil ?_
                          refine loopD.next (⟨i + 1, at2, W, H, t.n⟩ : PaX) ?_ ?_ (by first | ((repeat (first | exact Top.refl | refine Top.push rfl ?_ | refine Top.drop rfl ?_)); done) | exact Top.le (by repeat (first | exact FrLe.nil | refine FrLe.cons rfl ?_))) (by repeat (first | exact FrLe.nil | refine FrLe.cons rfl ?_)) ?_
                          · have e : i = 2 := by omega
                            subst e
                            exact ⟨hat2, by simp only; omega, fun hb => ⟨by simp only; first | omega | exact absurd hb h4, by first | exact (hbk hb).2 | exact absurd hb h4 | (exfalso; have := (hbk hb).1; omega)⟩, hpn⟩
                          · simp only; omega
                          · first | exact Ent.refl _ | exact Ent.nil _ | exact Take.ent' (by repeat' constructor) | (repeat (first | exact Ent.refl _ | refine Ent.drop ?_))
            · have hg8 := of_decide_eq_false hg8
              refine WpL.goff rfl rfl rfl (by decide) ?_
              refine WpL.goff rfl rfl rfl (by decide) ?_
              refine WpL.goff rfl rfl rfl (by decide) ?_
              refine s_pickF rfl rfl rfl ?_
              refine WpL.nil ?_
              refine Wp.condF rfl ?_
              refine Wp.exit ?_
              refine Wp.seq ?_
              refine Wp.seq ?_
              refine Wp.region ?_
              refine s_mv rfl rfl ?_
              refine s_eq rfl rfl rfl ?_
              refine WpL.nil ?_
              refine Wp.condD rfl (fun h9 => ?_) (fun h9 => ?_)
              · have hr : numRun (lsel (lim0 a) (lim1 b) (lim2 d) i) tk0 ((bsOf s).drop at_) at_ = (t, k, (at2 : Int)) := by
                  by_cases hk0 : k = 0
                  · rw [hnr, if_pos hk0, show (bsOf s).drop at2 = [] from List.drop_of_length_le (by rw [bsOf_len]; omega), hk0]; rfl
                  · rw [hnr, if_neg hk0]
                have hps := parI_step hpi hi (fun hb => ⟨by first | omega | exact absurd hb h4, (hbk hb).2⟩) hr
                refine Wp.seq ?_
                refine Wp.region ?_
                refine s_bd rfl rfl ?_
                refine s_mv rfl rfl ?_
                refine s_sta rfl rfl rfl (by rfl) rfl ?_
                refine s_as rfl rfl ?_
                refine s_as rfl rfl ?_
                refine WpL.nil ?_
                refine Wp.ret ?_
                apply RetQ.mk
                · exact (RetQ.cell3 rfl rfl (by rfl) rfl rfl)
                · exact ⟨0, 0, 0, 0, _, 6, by rw [hps.1 h9, bsOf_len, show s.size = at2 by omega], rfl, rfl⟩
                · first | exact Ent.refl _ | exact Ent.nil _ | exact Take.ent' (by repeat' constructor) | (repeat (first | exact Ent.refl _ | refine Ent.drop ?_))
              · have hr : numRun (lsel (lim0 a) (lim1 b) (lim2 d) i) tk0 ((bsOf s).drop at_) at_ = (t, k, (at2 : Int)) := by
                  by_cases hk0 : k = 0
                  · rw [hnr, if_pos hk0, show (bsOf s).drop at2 = [] from List.drop_of_length_le (by rw [bsOf_len]; omega), hk0]; rfl
                  · rw [hnr, if_neg hk0]
                have hps := parI_step hpi hi (fun hb => ⟨by first | omega | exact absurd hb h4, (hbk hb).2⟩) hr
                refine Wp.skip ?_
                refine Wp.seq ?_
                refine Wp.seq ?_
                refine Wp.region ?_
                refine s_mv rfl rfl ?_
                refine s_eq rfl rfl rfl ?_
                refine WpL.nil ?_
                refine Wp.condD rfl (fun h10 => ?_) (fun h10 => ?_)
                · refine Wp.seq ?_
                  apply Wp.drawGN (fB := [blk gN [.int .i64 t.ph, .int .i64 t.n, .int .i64 (lsel (lim0 a) (lim1 b) (lim2 d) i), .int .i64 t.e] 170]) mixed [(4, false)] (by kernel_rfl)
                  apply GoR.segF [⟨0, 107, _, [], false⟩, ⟨1, 108, _, [], true⟩, ⟨2, 109, _, [], true⟩, ⟨3, 110, _, [2], true⟩] [] [0] [5, 6, 108, 109, 110] (.inl ⟨_, by repeat' constructor⟩) rfl rfl rfl (by kernel_rfl) rfl rfl rfl
                  · refine AllF.cons rfl rfl rfl rfl ?_ ?_
                    · refine s_bd rfl rfl ?_
                      exact obN rfl
                    refine AllF.consR rfl rfl rfl rfl ?_ ?_
                    · refine s_mv rfl rfl ?_
                      exact obN rfl
                    refine AllF.consR rfl rfl rfl rfl ?_ ?_
                    · refine s_fa (o2 := 3) rfl rfl rfl ?_
                      exact obN rfl
                    refine AllF.consR rfl rfl rfl rfl ?_ ?_
                    · refine s_ld rfl rfl (by rfl) ?_
                      exact obN rfl
                    exact AllF.nil
                  · refine s_sta rfl rfl rfl (by rfl) rfl ?_
                    refine WpL.nil ⟨rfl, rfl, ?_⟩
                    apply GoR.nil [⟨5, 5, _, [0, 1, 4], false⟩, ⟨6, 6, _, [0, 1, 2, 3, 4, 5], false⟩] (.inl ⟨_, by repeat' constructor⟩) rfl rfl
                    · refine AllF.cons rfl rfl rfl rfl ?_ ?_
                      · refine s_as rfl rfl ?_
                        exact obN rfl
                      refine AllF.cons rfl rfl rfl rfl ?_ ?_
                      · refine s_as rfl rfl ?_
                        exact obN rfl
                      exact AllF.nil
                    · refine Wp.ret ?_
                      apply RetQ.mk
                      · exact (RetQ.cell3 rfl rfl (by rfl) rfl rfl)
                      · exact ⟨0, 0, 0, 0, _, _, by rw [hps.2.1 h10], rfl, rfl⟩
                      · first | exact Ent.refl _ | exact Ent.nil _ | exact Take.ent' (by repeat' constructor) | (repeat (first | exact Ent.refl _ | refine Ent.drop ?_))
                · refine Wp.skip ?_
                  refine Wp.seq ?_
                  refine Wp.seq ?_
                  refine Wp.region ?_
                  refine s_fa (o2 := 1) rfl rfl rfl ?_
                  refine s_ld rfl rfl (by rfl) ?_
                  refine s_eq rfl rfl rfl ?_
                  refine WpL.nil ?_
                  refine Wp.condD rfl (fun h11 => ?_) (fun h11 => ?_)
                  · refine Wp.seq ?_
                    refine Wp.region ?_
                    refine s_bd rfl rfl ?_
                    refine s_mv rfl rfl ?_
                    refine s_sta rfl rfl rfl (by rfl) rfl ?_
                    refine s_as rfl rfl ?_
                    refine s_as rfl rfl ?_
                    refine WpL.nil ?_
                    refine Wp.ret ?_
                    apply RetQ.mk
                    · exact (RetQ.cell3 rfl rfl (by rfl) rfl rfl)
                    · exact ⟨0, 0, 0, 0, _, 4, by rw [hps.2.2.1 h9 h10 h11], rfl, rfl⟩
                    · first | exact Ent.refl _ | exact Ent.nil _ | exact Take.ent' (by repeat' constructor) | (repeat (first | exact Ent.refl _ | refine Ent.drop ?_))
                  · have hpn := hps.2.2.2 h9 h10 h11
                    rw [Int.toNat_natCast] at hpn
                    refine Wp.skip ?_
                    refine Wp.seq ?_
                    refine Wp.region ?_
                    refine s_mv rfl rfl ?_
                    refine WpL.nil ?_
                    refine Wp.block ?_
                    refine Wp.seq ?_
                    refine Wp.region ?_
                    refine s_eq rfl rfl rfl ?_
                    refine s_as rfl rfl ?_
                    refine WpL.nil ?_
                    refine Wp.condD rfl (fun h12 => ?_) (fun h12 => ?_)
                    · refine Wp.region ?_
                      refine s_fa (o2 := 1) rfl rfl rfl ?_
                      refine s_ld rfl rfl (by rfl) ?_
                      refine s_fa (o2 := 1) rfl rfl rfl ?_
                      refine s_st rfl rfl rfl ?_
                      refine WpL.nil ?_
                      refine Wp.region ?_
                      refine s_mv rfl rfl ?_
                      first | refine s_add rfl rfl rfl (w_i64 (by omega) (by omega)) ?_ | refine s_addw rfl rfl rfl ?_
                      refine s_as rfl rfl ?_
                      refine WpL.nil ?_
                      refine loopD.next (⟨i + 1, at2, t.n, H, M⟩ : PaX) ?_ ?_ (by first | ((repeat (first | exact Top.refl | refine Top.push rfl ?_ | refine Top.drop rfl ?_)); done) | exact Top.le (by repeat (first | exact FrLe.nil | refine FrLe.cons rfl ?_))) (by repeat (first | exact FrLe.nil | refine FrLe.cons rfl ?_)) ?_
                      · have e : i = 0 := by omega
                        subst e
                        exact ⟨hat2, by simp only; omega, fun hb => ⟨by simp only; first | omega | exact absurd hb h4, by first | exact (hbk hb).2 | exact absurd hb h4 | (exfalso; have := (hbk hb).1; omega)⟩, hpn⟩
                      · simp only; omega
                      · first | exact Ent.refl _ | exact Ent.nil _ | exact Take.ent' (by repeat' constructor) | (repeat (first | exact Ent.refl _ | refine Ent.drop ?_))
                    · refine Wp.seq ?_
                      refine Wp.region ?_
                      refine s_eq rfl rfl rfl ?_
                      refine s_as rfl rfl ?_
                      refine WpL.nil ?_
                      refine Wp.condD rfl (fun h13 => ?_) (fun h13 => ?_)
                      · refine Wp.region ?_
                        refine s_fa (o2 := 1) rfl rfl rfl ?_
                        refine s_ld rfl rfl (by rfl) ?_
                        refine s_fa (o2 := 2) rfl rfl rfl ?_
                        refine s_st rfl rfl rfl ?_
                        refine WpL.nil ?_
                        refine Wp.region ?_
                        refine s_mv rfl rfl ?_
                        first | refine s_add rfl rfl rfl (w_i64 (by omega) (by omega)) ?_ | refine s_addw rfl rfl rfl ?_
                        refine s_as rfl rfl ?_
                        refine WpL.nil ?_
                        refine loopD.next (⟨i + 1, at2, W, t.n, M⟩ : PaX) ?_ ?_ (by first | ((repeat (first | exact Top.refl | refine Top.push rfl ?_ | refine Top.drop rfl ?_)); done) | exact Top.le (by repeat (first | exact FrLe.nil | refine FrLe.cons rfl ?_))) (by repeat (first | exact FrLe.nil | refine FrLe.cons rfl ?_)) ?_
                        · have e : i = 1 := by omega
                          subst e
                          exact ⟨hat2, by simp only; omega, fun hb => ⟨by simp only; first | omega | exact absurd hb h4, by first | exact (hbk hb).2 | exact absurd hb h4 | (exfalso; have := (hbk hb).1; omega)⟩, hpn⟩
                        · simp only; omega
                        · first | exact Ent.refl _ | exact Ent.nil _ | exact Take.ent' (by repeat' constructor) | (repeat (first | exact Ent.refl _ | refine Ent.drop ?_))
                      · refine Wp.region ?_
                        refine s_fa (o2 := 1) rfl rfl rfl ?_
                        refine s_ld rfl rfl (by rfl) ?_
                        refine s_fa (o2 := 3) rfl rfl rfl ?_
                        refine s_st rfl rfl rfl ?_
                        refine WpL.nil ?_
                        refine Wp.region ?_
                        refine s_mv rfl rfl ?_
                        first | refine s_add rfl rfl rfl (w_i64 (by omega) (by omega)) ?_ | refine s_addw rfl rfl rfl ?_
                        refine s_as rfl rfl ?_
                        refine WpL.nil ?_
                        refine loopD.next (⟨i + 1, at2, W, H, t.n⟩ : PaX) ?_ ?_ (by first | ((repeat (first | exact Top.refl | refine Top.push rfl ?_ | refine Top.drop rfl ?_)); done) | exact Top.le (by repeat (first | exact FrLe.nil | refine FrLe.cons rfl ?_))) (by repeat (first | exact FrLe.nil | refine FrLe.cons rfl ?_)) ?_
                        · have e : i = 2 := by omega
                          subst e
                          exact ⟨hat2, by simp only; omega, fun hb => ⟨by simp only; first | omega | exact absurd hb h4, by first | exact (hbk hb).2 | exact absurd hb h4 | (exfalso; have := (hbk hb).1; omega)⟩, hpn⟩
                        · simp only; omega
                        · first | exact Ent.refl _ | exact Ent.nil _ | exact Take.ent' (by repeat' constructor) | (repeat (first | exact Ent.refl _ | refine Ent.drop ?_))
        · refine Wp.exit ?_
          refine Wp.seq ?_
          refine Wp.region ?_
          refine s_lda (vs := [_, _, _, _]) rfl rfl rfl (by rfl) ?_
          refine s_mv rfl rfl ?_
          refine s_sta rfl rfl rfl (by rfl) rfl ?_
          refine s_as rfl rfl ?_
          refine s_as rfl rfl ?_
          refine WpL.nil ?_
          refine Wp.ret ?_
          apply RetQ.mk
          · exact (RetQ.cell3 rfl rfl (by rfl) rfl rfl)
          · exact ⟨K, W, H, M, _, 0, by unfold parI at hpi; rw [hpi, if_pos (by first | exact .inr ⟨by have := (hbk h4).1; omega, h4⟩ | exact .inl (by omega))], rfl, rfl⟩
          · first | exact Ent.refl _ | exact Ent.nil _ | exact Take.ent' (by repeat' constructor) | (repeat (first | exact Ent.refl _ | refine Ent.drop ?_))
    · refine Wp.skip ?_
      refine Wp.seq ?_
      refine Wp.region ?_
      refine s_lda (vs := [_, _, _]) rfl rfl rfl (by rfl) ?_
      refine s_callf rfl rfl (by repeat' constructor) (rlimits_spec _ _ _) ?_
      rintro _ _ ⟨gl, rfl, rfl⟩
      simp only [napp]
      refine s_as rfl rfl ?_
      refine WpL.nil ?_
      refine Wp.seq ?_
      refine Wp.region ?_
      refine s_as rfl rfl ?_
      refine WpL.nil ?_
      refine Wp.seq ?_
      refine Wp.seq ?_
      refine Wp.region ?_
      refine s_as rfl rfl ?_
      refine WpL.nil ?_
      refine Wp.block ?_
      refine Wp.loopD (σ := PaX) (fun x => x.at_ ≤ s.size ∧ x.i ≤ 3 ∧ (bitsK K → x.i ≤ 2 ∧ x.M = 1) ∧ parI (lim0 a) (lim1 b) (lim2 d) K (bsOf s) x.i x.at_ x.W x.H x.M) [5, 6, 10, 11, 12, 13, 14, 15, 71, 72, 73, 74, 75, 76, 77, 78, 79, 80, 81, 82, 83, 84, 85, 86, 87, 88, 89, 90, 91, 92, 93, 94, 95, 96, 97, 98, 99, 100, 101, 102, 103, 104, 105, 106, 107, 108, 109, 110, 111, 112, 113, 114, 115, 116, 117, 118, 119, 120, 121, 122, 123, 124, 125, 126, 127, 128, 129] (fun x => [(11, .int .i64 (x.i : Int)), (10, .int .i64 (x.at_ : Int))]) (fun x => [blk gH [.int .i64 K, .int .i64 x.W, .int .i64 x.H, .int .i64 x.M] 113, blk gl [.int .i64 (lim0 a), .int .i64 (lim1 b), .int .i64 (lim2 d)] 3, blk gO [.int .i64 0, .int .i64 0, .int .i64 0, .int .i64 0] 113]) (fun x => 3 - x.i) ⟨0, 2, 0, 0, (if bitsK K then 1 else 0)⟩ ?_ (by repeat (first | exact FrLe.nil | refine FrLe.cons rfl ?_)) ?_ ?_
      · exact ⟨by simp only; omega, by simp, fun hb => ⟨by simp, by simp only; rw [if_pos hb]⟩, hpar _⟩
      · first | (rw [show (if bitsK K then (1 : Int) else 0) = 1 from if_pos h4]; first | exact Ent.refl _ | exact Ent.nil _ | exact Take.ent' (by repeat' constructor) | (repeat (first | exact Ent.refl _ | refine Ent.drop ?_))) | (rw [show (if bitsK K then (1 : Int) else 0) = 0 from if_neg h4]; first | exact Ent.refl _ | exact Ent.nil _ | exact Take.ent' (by repeat' constructor) | (repeat (first | exact Ent.refl _ | refine Ent.drop ?_)))
      · rintro ⟨i, at_, W, H, M⟩ ⟨hat, hi3, hbk, hpi⟩
        dsimp only at hat hi3 hbk hpi ⊢
        refine Wp.seq ?_
        refine Wp.seq ?_
        refine Wp.region ?_
        refine s_mv rfl rfl ?_
        refine s_mv rfl rfl ?_
        refine s_lt rfl rfl rfl ?_
        refine WpL.nil ?_
        refine Wp.condD rfl (fun h6 => ?_) (fun h6 => ?_)
        · have hi : i < 3 := by omega
          refine Wp.skip ?_
          refine Wp.seq ?_
          refine Wp.block ?_
          refine Wp.seq ?_
          refine Wp.region ?_
          refine s_mv rfl rfl ?_
          refine s_mv rfl rfl ?_
          refine s_ixa i rfl rfl rfl (RdsL.blk (o := 0) (xs := [.int .i64 (lim0 a), .int .i64 (lim1 b), .int .i64 (lim2 d)]) rfl) (by first | exact Take.ent' (by repeat' constructor) | (repeat (first | exact Ent.refl _ | refine Ent.drop ?_))) rfl (by omega) (by simp only [List.length_cons, List.length_nil]; omega) ?_
          refine s_ldx rfl rfl (RdsL.blk (o := 0) (xs := [.int .i64 (lim0 a), .int .i64 (lim1 b), .int .i64 (lim2 d)]) rfl) (by first | exact Take.ent' (by repeat' constructor) | (repeat (first | exact Ent.refl _ | refine Ent.drop ?_))) (lsel_lim a b d i hi) ?_
          refine s_callf rfl rfl (by repeat' constructor) (rtkNew_spec _) ?_
          rintro _ _ ⟨rfl, rfl⟩
          simp only [napp]
          refine s_al rfl ?_
          intro gN
          refine s_sta rfl rfl rfl (by rfl) rfl ?_
          refine WpL.nil ?_
          refine Wp.seq ?_
          refine Wp.region ?_
          refine s_as rfl rfl ?_
          refine WpL.nil ?_
          refine Wp.seq ?_
          refine Wp.block ?_
          refine Wp.loopD (σ := PbX) (fun y => at_ ≤ y.at_ ∧ y.at_ ≤ s.size ∧ (y.k = 0 → tkOk (lsel (lim0 a) (lim1 b) (lim2 d) i) y.t) ∧ numRun (lsel (lim0 a) (lim1 b) (lim2 d) i) tk0 ((bsOf s).drop at_) at_ = (if y.k = 0 then numRun (lsel (lim0 a) (lim1 b) (lim2 d) i) y.t ((bsOf s).drop y.at_) y.at_ else (y.t, y.k, (y.at_ : Int)))) [10, 13, 14, 15, 81, 82, 83, 84, 85, 86, 87, 88, 89, 90, 91, 92, 93, 94, 95, 96, 97, 98, 99, 100] (fun y => [(13, .int .i64 y.k), (10, .int .i64 (y.at_ : Int))]) (fun y => [blk gN [.int .i64 y.t.ph, .int .i64 y.t.n, .int .i64 (lsel (lim0 a) (lim1 b) (lim2 d) i), .int .i64 y.t.e] 170, blk gH [.int .i64 K, .int .i64 W, .int .i64 H, .int .i64 M] 113, blk gl [.int .i64 (lim0 a), .int .i64 (lim1 b), .int .i64 (lim2 d)] 3, blk gO [.int .i64 0, .int .i64 0, .int .i64 0, .int .i64 0] 113]) (fun y => s.size - y.at_) ⟨0, at_, tk0⟩ ?_ (by repeat (first | exact FrLe.nil | refine FrLe.cons rfl ?_)) ?_ ?_
          · exact ⟨Nat.le_refl _, hat, fun _ => (show tkOk _ tk0 by unfold tkOk tk0; dsimp only; have := (lsel_bd a b d i).1; omega), (if_pos rfl).symm⟩
          · first | exact Ent.refl _ | exact Ent.nil _ | exact Take.ent' (by repeat' constructor) | (repeat (first | exact Ent.refl _ | refine Ent.drop ?_))
          · rintro ⟨k, at2, t⟩ ⟨ha2, hat2, htk, hnr⟩
            dsimp only at ha2 hat2 htk hnr ⊢
            refine Wp.seq ?_
            refine Wp.seq ?_
            refine Wp.region ?_
            refine s_mv rfl rfl ?_
            refine s_eq rfl rfl rfl ?_
            refine s_mv rfl rfl ?_
            refine WpL.grd rfl rfl rfl (fun hg9 => ?_) (fun hg9 => ?_)
            · have hg9 := of_decide_eq_true hg9
              refine s_mv rfl rfl ?_
              refine WpL.gon rfl rfl ?_
              refine s_mv rfl rfl ?_
              refine WpL.gon rfl rfl ?_
              refine s_lens rfl Tryz.underlying9 rfl ?_
              refine WpL.gon rfl rfl ?_
              refine s_lt rfl rfl rfl ?_
              refine s_pickT rfl rfl rfl ?_
              refine WpL.nil ?_
              refine Wp.condD rfl (fun h8 => ?_) (fun h8 => ?_)
              · have hlt : at2 < s.size := by omega
                obtain ⟨cc, hcc⟩ : ∃ cc : Int, cc = ((s[at2]'hlt).toNat : Int) := ⟨_, rfl⟩
                obtain rfl : k = 0 := by assumption
                have htk2 := htk rfl
                rw [if_pos rfl] at hnr
                have hdr := bsOf_drop hlt
                rw [← hcc] at hdr
                rw [hdr] at hnr
                have hst := numRun_step hnr
                refine Wp.skip ?_
                refine Wp.block ?_
                refine Wp.seq ?_
                apply Wp.drawGA (fB := []) mixed 8 [(8, true)] rfl rfl (by kernel_rfl)
                apply GoR.segT [⟨0, 90, _, [], false⟩, ⟨1, 91, _, [], false⟩, ⟨2, 92, _, [], false⟩, ⟨3, 93, _, [1, 2], false⟩, ⟨4, 94, _, [0, 3], false⟩, ⟨5, 89, _, [4], false⟩, ⟨6, 95, _, [5], false⟩, ⟨7, 96, _, [5], true⟩] [] [0, 1, 2, 3, 4, 5, 6] [15, 96] (.inl ⟨_, .nil⟩) rfl rfl rfl (by kernel_rfl) rfl rfl rfl rfl
                · refine AllF.cons rfl rfl rfl rfl ?_ ?_
                  · refine s_lda (vs := [_, _, _, _]) rfl rfl rfl (by rfl) ?_
                    exact obN rfl
                  refine AllF.cons rfl rfl rfl rfl ?_ ?_
                  · refine s_mv rfl rfl ?_
                    exact obN rfl
                  refine AllF.cons rfl rfl rfl rfl ?_ ?_
                  · refine s_mv rfl rfl ?_
                    exact obN rfl
                  refine AllF.cons rfl rfl rfl rfl ?_ ?_
                  · refine s_ixs rfl Tryz.underlying9 rfl rfl (by omega) (by omega) ?_
                    change WpL _ _ _ _ _ _ ((93, Value.int .u8 ((s[at2]'hlt).toNat : Int)) :: _) _
                    rw [← hcc]
                    exact obN rfl
                  refine AllF.cons rfl rfl rfl rfl ?_ ?_
                  · refine s_callf rfl rfl (by repeat' constructor) (rtkPut_spec t.ph t.n _ t.e cc (by rw [hcc]; omega) (by rw [hcc]; exact u8_lt _) htk2.2.2.1 (lsel_bd a b d i).1 (lsel_bd a b d i).2 ⟨htk2.1, by have := htk2.2.1; omega⟩) ?_
                    rintro _ _ ⟨rfl, rfl⟩
                    simp only [napp]
                    exact WpL.nil ⟨rfl, rfl, rfl, by first | exact Ent.refl _ | exact Ent.nil _ | exact Take.ent' (by repeat' constructor) | (repeat (first | exact Ent.refl _ | refine Ent.drop ?_))⟩
                  refine AllF.cons rfl rfl rfl rfl ?_ ?_
                  · refine s_mv rfl rfl ?_
                    exact obN rfl
                  refine AllF.cons rfl rfl rfl rfl ?_ ?_
                  · refine s_ext rfl rfl rfl ?_
                    exact obN rfl
                  refine AllF.consR rfl rfl rfl rfl ?_ ?_
                  · refine s_ext rfl rfl rfl ?_
                    exact obN rfl
                  exact AllF.nil
                · intro gS
                  refine s_sta rfl rfl rfl (by rfl) rfl ?_
                  refine WpL.nil ⟨rfl, rfl, ?_⟩
                  apply GoR.nil [⟨10, 15, _, [0, 1, 2, 3, 4, 5, 6, 7, 8, 9], false⟩] (.inl ⟨_, .nil⟩) rfl rfl
                  · refine AllF.cons rfl rfl rfl rfl ?_ ?_
                    · refine s_as rfl rfl ?_
                      exact obN rfl
                    exact AllF.nil
                  · refine Wp.seq ?_
                    refine Wp.region ?_
                    refine s_lda (vs := [_, _, _, _]) rfl rfl rfl (by rfl) ?_
                    refine s_sta rfl rfl rfl (by rfl) rfl ?_
                    refine WpL.nil ?_
                    refine Wp.seq ?_
                    refine Wp.region ?_
                    refine s_mv rfl rfl ?_
                    refine s_as rfl rfl ?_
                    refine WpL.nil ?_
                    refine Wp.region ?_
                    refine s_mv rfl rfl ?_
                    first | refine s_add rfl rfl rfl (w_i64 (by omega) (by omega)) ?_ | refine s_addw rfl rfl rfl ?_
                    refine s_as rfl rfl ?_
                    refine WpL.nil ?_
                    refine loopD.next (Q := fun _ _ _ _ => False) (⟨(tkPut (lsel (lim0 a) (lim1 b) (lim2 d) i) t cc).2, at2 + 1, (tkPut (lsel (lim0 a) (lim1 b) (lim2 d) i) t cc).1⟩ : PbX) ?_ ?_ (by first | ((repeat (first | exact Top.refl | refine Top.push rfl ?_ | refine Top.drop rfl ?_)); done) | exact Top.le (by repeat (first | exact FrLe.nil | refine FrLe.cons rfl ?_))) (by repeat (first | exact FrLe.nil | refine FrLe.cons rfl ?_)) ?_
                    · exact ⟨by simp only; omega, by simp only; omega, fun q => by rcases tkPut_cases (c := cc) htk2 with z | z | z; exact z.2; exact absurd q (by simp only; omega); exact absurd q (by simp only; omega), hst⟩
                    · simp only; omega
                    · first | exact Ent.refl _ | exact Ent.nil _ | exact Take.ent' (by repeat' constructor) | (repeat (first | exact Ent.refl _ | refine Ent.drop ?_))
              · refine Wp.exit ?_
                refine Wp.seq ?_
                refine Wp.seq ?_
                refine Wp.region ?_
                refine s_mv rfl rfl ?_
                refine s_eq rfl rfl rfl ?_
                refine WpL.nil ?_
                refine Wp.condD rfl (fun h9 => ?_) (fun h9 => ?_)
                · have hr : numRun (lsel (lim0 a) (lim1 b) (lim2 d) i) tk0 ((bsOf s).drop at_) at_ = (t, k, (at2 : Int)) := by
                    by_cases hk0 : k = 0
                    · rw [hnr, if_pos hk0, show (bsOf s).drop at2 = [] from List.drop_of_length_le (by rw [bsOf_len]; omega), hk0]; rfl
                    · rw [hnr, if_neg hk0]
                  have hps := parI_step hpi hi (fun hb => ⟨by first | omega | exact absurd hb h4, (hbk hb).2⟩) hr
                  refine Wp.seq ?_
                  refine Wp.region ?_
                  refine s_bd rfl rfl ?_
                  refine s_mv rfl rfl ?_
                  refine s_sta rfl rfl rfl (by rfl) rfl ?_
                  refine s_as rfl rfl ?_
                  refine s_as rfl rfl ?_
                  refine WpL.nil ?_
                  refine Wp.ret ?_
                  apply RetQ.mk
                  · exact (RetQ.cell3 rfl rfl (by rfl) rfl rfl)
                  · exact ⟨0, 0, 0, 0, _, 6, by rw [hps.1 h9, bsOf_len, show s.size = at2 by omega], rfl, rfl⟩
                  · first | exact Ent.refl _ | exact Ent.nil _ | exact Take.ent' (by repeat' constructor) | (repeat (first | exact Ent.refl _ | refine Ent.drop ?_))
                · have hr : numRun (lsel (lim0 a) (lim1 b) (lim2 d) i) tk0 ((bsOf s).drop at_) at_ = (t, k, (at2 : Int)) := by
                    by_cases hk0 : k = 0
                    · rw [hnr, if_pos hk0, show (bsOf s).drop at2 = [] from List.drop_of_length_le (by rw [bsOf_len]; omega), hk0]; rfl
                    · rw [hnr, if_neg hk0]
                  have hps := parI_step hpi hi (fun hb => ⟨by first | omega | exact absurd hb h4, (hbk hb).2⟩) hr
                  refine Wp.skip ?_
                  refine Wp.seq ?_
                  refine Wp.seq ?_
                  refine Wp.region ?_
                  refine s_mv rfl rfl ?_
                  refine s_eq rfl rfl rfl ?_
                  refine WpL.nil ?_
                  refine Wp.condD rfl (fun h10 => ?_) (fun h10 => ?_)
                  · refine Wp.seq ?_
                    apply Wp.drawGN (fB := [blk gN [.int .i64 t.ph, .int .i64 t.n, .int .i64 (lsel (lim0 a) (lim1 b) (lim2 d) i), .int .i64 t.e] 170]) mixed [(4, false)] (by kernel_rfl)
                    apply GoR.segF [⟨0, 107, _, [], false⟩, ⟨1, 108, _, [], true⟩, ⟨2, 109, _, [], true⟩, ⟨3, 110, _, [2], true⟩] [] [0] [5, 6, 108, 109, 110] (.inl ⟨_, by repeat' constructor⟩) rfl rfl rfl (by kernel_rfl) rfl rfl rfl
                    · refine AllF.cons rfl rfl rfl rfl ?_ ?_
                      · refine s_bd rfl rfl ?_
                        exact obN rfl
                      refine AllF.consR rfl rfl rfl rfl ?_ ?_
                      · refine s_mv rfl rfl ?_
                        exact obN rfl
                      refine AllF.consR rfl rfl rfl rfl ?_ ?_
                      · refine s_fa (o2 := 3) rfl rfl rfl ?_
                        exact obN rfl
                      refine AllF.consR rfl rfl rfl rfl ?_ ?_
                      · refine s_ld rfl rfl (by rfl) ?_
                        exact obN rfl
                      exact AllF.nil
                    · refine s_sta rfl rfl rfl (by rfl) rfl ?_
                      refine WpL.nil ⟨rfl, rfl, ?_⟩
                      apply GoR.nil [⟨5, 5, _, [0, 1, 4], false⟩, ⟨6, 6, _, [0, 1, 2, 3, 4, 5], false⟩] (.inl ⟨_, by repeat' constructor⟩) rfl rfl
                      · refine AllF.cons rfl rfl rfl rfl ?_ ?_
                        · refine s_as rfl rfl ?_
                          exact obN rfl
                        refine AllF.cons rfl rfl rfl rfl ?_ ?_
                        · refine s_as rfl rfl ?_
                          exact obN rfl
                        exact AllF.nil
                      · refine Wp.ret ?_
                        apply RetQ.mk
                        · exact (RetQ.cell3 rfl rfl (by rfl) rfl rfl)
                        · exact ⟨0, 0, 0, 0, _, _, by rw [hps.2.1 h10], rfl, rfl⟩
                        · first | exact Ent.refl _ | exact Ent.nil _ | exact Take.ent' (by repeat' constructor) | (repeat (first | exact Ent.refl _ | refine Ent.drop ?_))
                  · refine Wp.skip ?_
                    refine Wp.seq ?_
                    refine Wp.seq ?_
                    refine Wp.region ?_
                    refine s_fa (o2 := 1) rfl rfl rfl ?_
                    refine s_ld rfl rfl (by rfl) ?_
                    refine s_eq rfl rfl rfl ?_
                    refine WpL.nil ?_
                    refine Wp.condD rfl (fun h11 => ?_) (fun h11 => ?_)
                    · refine Wp.seq ?_
                      refine Wp.region ?_
                      refine s_bd rfl rfl ?_
                      refine s_mv rfl rfl ?_
                      refine s_sta rfl rfl rfl (by rfl) rfl ?_
                      refine s_as rfl rfl ?_
                      refine s_as rfl rfl ?_
                      refine WpL.nil ?_
                      refine Wp.ret ?_
                      apply RetQ.mk
                      · exact (RetQ.cell3 rfl rfl (by rfl) rfl rfl)
                      · exact ⟨0, 0, 0, 0, _, 4, by rw [hps.2.2.1 h9 h10 h11], rfl, rfl⟩
                      · first | exact Ent.refl _ | exact Ent.nil _ | exact Take.ent' (by repeat' constructor) | (repeat (first | exact Ent.refl _ | refine Ent.drop ?_))
                    · have hpn := hps.2.2.2 h9 h10 h11
                      rw [Int.toNat_natCast] at hpn
                      refine Wp.skip ?_
                      refine Wp.seq ?_
                      refine Wp.region ?_
                      refine s_mv rfl rfl ?_
                      refine WpL.nil ?_
                      refine Wp.block ?_
                      refine Wp.seq ?_
                      refine Wp.region ?_
                      refine s_eq rfl rfl rfl ?_
                      refine s_as rfl rfl ?_
                      refine WpL.nil ?_
                      refine Wp.condD rfl (fun h12 => ?_) (fun h12 => ?_)
                      · refine Wp.region ?_
                        refine s_fa (o2 := 1) rfl rfl rfl ?_
                        refine s_ld rfl rfl (by rfl) ?_
                        refine s_fa (o2 := 1) rfl rfl rfl ?_
                        refine s_st rfl rfl rfl ?_
                        refine WpL.nil ?_
                        refine Wp.region ?_
                        refine s_mv rfl rfl ?_
                        first | refine s_add rfl rfl rfl (w_i64 (by omega) (by omega)) ?_ | refine s_addw rfl rfl rfl ?_
                        refine s_as rfl rfl ?_
                        refine WpL.nil ?_
                        refine loopD.next (⟨i + 1, at2, t.n, H, M⟩ : PaX) ?_ ?_ (by first | ((repeat (first | exact Top.refl | refine Top.push rfl ?_ | refine Top.drop rfl ?_)); done) | exact Top.le (by repeat (first | exact FrLe.nil | refine FrLe.cons rfl ?_))) (by repeat (first | exact FrLe.nil | refine FrLe.cons rfl ?_)) ?_
                        · have e : i = 0 := by omega
                          subst e
                          exact ⟨hat2, by simp only; omega, fun hb => ⟨by simp only; first | omega | exact absurd hb h4, by first | exact (hbk hb).2 | exact absurd hb h4 | (exfalso; have := (hbk hb).1; omega)⟩, hpn⟩
                        · simp only; omega
                        · first | exact Ent.refl _ | exact Ent.nil _ | exact Take.ent' (by repeat' constructor) | (repeat (first | exact Ent.refl _ | refine Ent.drop ?_))
                      · refine Wp.seq ?_
                        refine Wp.region ?_
                        refine s_eq rfl rfl rfl ?_
                        refine s_as rfl rfl ?_
                        refine WpL.nil ?_
                        refine Wp.condD rfl (fun h13 => ?_) (fun h13 => ?_)
                        · refine Wp.region ?_
                          refine s_fa (o2 := 1) rfl rfl rfl ?_
                          refine s_ld rfl rfl (by rfl) ?_
                          refine s_fa (o2 := 2) rfl rfl rfl ?_
                          refine s_st rfl rfl rfl ?_
                          refine WpL.nil ?_
                          refine Wp.region ?_
                          refine s_mv rfl rfl ?_
                          first | refine s_add rfl rfl rfl (w_i64 (by omega) (by omega)) ?_ | refine s_addw rfl rfl rfl ?_
                          refine s_as rfl rfl ?_
                          refine WpL.nil ?_
                          refine loopD.next (⟨i + 1, at2, W, t.n, M⟩ : PaX) ?_ ?_ (by first | ((repeat (first | exact Top.refl | refine Top.push rfl ?_ | refine Top.drop rfl ?_)); done) | exact Top.le (by repeat (first | exact FrLe.nil | refine FrLe.cons rfl ?_))) (by repeat (first | exact FrLe.nil | refine FrLe.cons rfl ?_)) ?_
                          · have e : i = 1 := by omega
                            subst e
                            exact ⟨hat2, by simp only; omega, fun hb => ⟨by simp only; first | omega | exact absurd hb h4, by first | exact (hbk hb).2 | exact absurd hb h4 | (exfalso; have := (hbk hb).1; omega)⟩, hpn⟩
                          · simp only; omega
                          · first | exact Ent.refl _ | exact Ent.nil _ | exact Take.ent' (by repeat' constructor) | (repeat (first | exact Ent.refl _ | refine Ent.drop ?_))
                        · refine Wp.region ?_
                          refine s_fa (o2 := 1) rfl rfl rfl ?_
                          refine s_ld rfl rfl (by rfl) ?_
                          refine s_fa (o2 := 3) rfl rfl rfl ?_
                          refine s_st rfl rfl rfl ?_
                          refine WpL.nil ?_
                          refine Wp.region ?_
                          refine s_mv rfl rfl ?_
                          first | refine s_add rfl rfl rfl (w_i64 (by omega) (by omega)) ?_ | refine s_addw rfl rfl rfl ?_
                          refine s_as rfl rfl ?_
                          refine WpL.nil ?_
                          refine loopD.next (⟨i + 1, at2, W, H, t.n⟩ : PaX) ?_ ?_ (by first | ((repeat (first | exact Top.refl | refine Top.push rfl ?_ | refine Top.drop rfl ?_)); done) | exact Top.le (by repeat (first | exact FrLe.nil | refine FrLe.cons rfl ?_))) (by repeat (first | exact FrLe.nil | refine FrLe.cons rfl ?_)) ?_
                          · have e : i = 2 := by omega
                            subst e
                            exact ⟨hat2, by simp only; omega, fun hb => ⟨by simp only; first | omega | exact absurd hb h4, by first | exact (hbk hb).2 | exact absurd hb h4 | (exfalso; have := (hbk hb).1; omega)⟩, hpn⟩
                          · simp only; omega
                          · first | exact Ent.refl _ | exact Ent.nil _ | exact Take.ent' (by repeat' constructor) | (repeat (first | exact Ent.refl _ | refine Ent.drop ?_))
            · have hg9 := of_decide_eq_false hg9
              refine WpL.goff rfl rfl rfl (by decide) ?_
              refine WpL.goff rfl rfl rfl (by decide) ?_
              refine WpL.goff rfl rfl rfl (by decide) ?_
              refine s_pickF rfl rfl rfl ?_
              refine WpL.nil ?_
              refine Wp.condF rfl ?_
              refine Wp.exit ?_
              refine Wp.seq ?_
              refine Wp.seq ?_
              refine Wp.region ?_
              refine s_mv rfl rfl ?_
              refine s_eq rfl rfl rfl ?_
              refine WpL.nil ?_
              refine Wp.condD rfl (fun h9 => ?_) (fun h9 => ?_)
              · have hr : numRun (lsel (lim0 a) (lim1 b) (lim2 d) i) tk0 ((bsOf s).drop at_) at_ = (t, k, (at2 : Int)) := by
                  by_cases hk0 : k = 0
                  · rw [hnr, if_pos hk0, show (bsOf s).drop at2 = [] from List.drop_of_length_le (by rw [bsOf_len]; omega), hk0]; rfl
                  · rw [hnr, if_neg hk0]
                have hps := parI_step hpi hi (fun hb => ⟨by first | omega | exact absurd hb h4, (hbk hb).2⟩) hr
                refine Wp.seq ?_
                refine Wp.region ?_
                refine s_bd rfl rfl ?_
                refine s_mv rfl rfl ?_
                refine s_sta rfl rfl rfl (by rfl) rfl ?_
                refine s_as rfl rfl ?_
                refine s_as rfl rfl ?_
                refine WpL.nil ?_
                refine Wp.ret ?_
                apply RetQ.mk
                · exact (RetQ.cell3 rfl rfl (by rfl) rfl rfl)
                · exact ⟨0, 0, 0, 0, _, 6, by rw [hps.1 h9, bsOf_len, show s.size = at2 by omega], rfl, rfl⟩
                · first | exact Ent.refl _ | exact Ent.nil _ | exact Take.ent' (by repeat' constructor) | (repeat (first | exact Ent.refl _ | refine Ent.drop ?_))
              · have hr : numRun (lsel (lim0 a) (lim1 b) (lim2 d) i) tk0 ((bsOf s).drop at_) at_ = (t, k, (at2 : Int)) := by
                  by_cases hk0 : k = 0
                  · rw [hnr, if_pos hk0, show (bsOf s).drop at2 = [] from List.drop_of_length_le (by rw [bsOf_len]; omega), hk0]; rfl
                  · rw [hnr, if_neg hk0]
                have hps := parI_step hpi hi (fun hb => ⟨by first | omega | exact absurd hb h4, (hbk hb).2⟩) hr
                refine Wp.skip ?_
                refine Wp.seq ?_
                refine Wp.seq ?_
                refine Wp.region ?_
                refine s_mv rfl rfl ?_
                refine s_eq rfl rfl rfl ?_
                refine WpL.nil ?_
                refine Wp.condD rfl (fun h10 => ?_) (fun h10 => ?_)
                · refine Wp.seq ?_
                  apply Wp.drawGN (fB := [blk gN [.int .i64 t.ph, .int .i64 t.n, .int .i64 (lsel (lim0 a) (lim1 b) (lim2 d) i), .int .i64 t.e] 170]) mixed [(4, false)] (by kernel_rfl)
                  apply GoR.segF [⟨0, 107, _, [], false⟩, ⟨1, 108, _, [], true⟩, ⟨2, 109, _, [], true⟩, ⟨3, 110, _, [2], true⟩] [] [0] [5, 6, 108, 109, 110] (.inl ⟨_, by repeat' constructor⟩) rfl rfl rfl (by kernel_rfl) rfl rfl rfl
                  · refine AllF.cons rfl rfl rfl rfl ?_ ?_
                    · refine s_bd rfl rfl ?_
                      exact obN rfl
                    refine AllF.consR rfl rfl rfl rfl ?_ ?_
                    · refine s_mv rfl rfl ?_
                      exact obN rfl
                    refine AllF.consR rfl rfl rfl rfl ?_ ?_
                    · refine s_fa (o2 := 3) rfl rfl rfl ?_
                      exact obN rfl
                    refine AllF.consR rfl rfl rfl rfl ?_ ?_
                    · refine s_ld rfl rfl (by rfl) ?_
                      exact obN rfl
                    exact AllF.nil
                  · refine s_sta rfl rfl rfl (by rfl) rfl ?_
                    refine WpL.nil ⟨rfl, rfl, ?_⟩
                    apply GoR.nil [⟨5, 5, _, [0, 1, 4], false⟩, ⟨6, 6, _, [0, 1, 2, 3, 4, 5], false⟩] (.inl ⟨_, by repeat' constructor⟩) rfl rfl
                    · refine AllF.cons rfl rfl rfl rfl ?_ ?_
                      · refine s_as rfl rfl ?_
                        exact obN rfl
                      refine AllF.cons rfl rfl rfl rfl ?_ ?_
                      · refine s_as rfl rfl ?_
                        exact obN rfl
                      exact AllF.nil
                    · refine Wp.ret ?_
                      apply RetQ.mk
                      · exact (RetQ.cell3 rfl rfl (by rfl) rfl rfl)
                      · exact ⟨0, 0, 0, 0, _, _, by rw [hps.2.1 h10], rfl, rfl⟩
                      · first | exact Ent.refl _ | exact Ent.nil _ | exact Take.ent' (by repeat' constructor) | (repeat (first | exact Ent.refl _ | refine Ent.drop ?_))
                · refine Wp.skip ?_
                  refine Wp.seq ?_
                  refine Wp.seq ?_
                  refine Wp.region ?_
                  refine s_fa (o2 := 1) rfl rfl rfl ?_
                  refine s_ld rfl rfl (by rfl) ?_
                  refine s_eq rfl rfl rfl ?_
                  refine WpL.nil ?_
                  refine Wp.condD rfl (fun h11 => ?_) (fun h11 => ?_)
                  · refine Wp.seq ?_
                    refine Wp.region ?_
                    refine s_bd rfl rfl ?_
                    refine s_mv rfl rfl ?_
                    refine s_sta rfl rfl rfl (by rfl) rfl ?_
                    refine s_as rfl rfl ?_
                    refine s_as rfl rfl ?_
                    refine WpL.nil ?_
                    refine Wp.ret ?_
                    apply RetQ.mk
                    · exact (RetQ.cell3 rfl rfl (by rfl) rfl rfl)
                    · exact ⟨0, 0, 0, 0, _, 4, by rw [hps.2.2.1 h9 h10 h11], rfl, rfl⟩
                    · first | exact Ent.refl _ | exact Ent.nil _ | exact Take.ent' (by repeat' constructor) | (repeat (first | exact Ent.refl _ | refine Ent.drop ?_))
                  · have hpn := hps.2.2.2 h9 h10 h11
                    rw [Int.toNat_natCast] at hpn
                    refine Wp.skip ?_
                    refine Wp.seq ?_
                    refine Wp.region ?_
                    refine s_mv rfl rfl ?_
                    refine WpL.nil ?_
                    refine Wp.block ?_
                    refine Wp.seq ?_
                    refine Wp.region ?_
                    refine s_eq rfl rfl rfl ?_
                    refine s_as rfl rfl ?_
                    refine WpL.nil ?_
                    refine Wp.condD rfl (fun h12 => ?_) (fun h12 => ?_)
                    · refine Wp.region ?_
                      refine s_fa (o2 := 1) rfl rfl rfl ?_
                      refine s_ld rfl rfl (by rfl) ?_
                      refine s_fa (o2 := 1) rfl rfl rfl ?_
                      refine s_st rfl rfl rfl ?_
                      refine WpL.nil ?_
                      refine Wp.region ?_
                      refine s_mv rfl rfl ?_
                      first | refine s_add rfl rfl rfl (w_i64 (by omega) (by omega)) ?_ | refine s_addw rfl rfl rfl ?_
                      refine s_as rfl rfl ?_
                      refine WpL.nil ?_
                      refine loopD.next (⟨i + 1, at2, t.n, H, M⟩ : PaX) ?_ ?_ (by first | ((repeat (first | exact Top.refl | refine Top.push rfl ?_ | refine Top.drop rfl ?_)); done) | exact Top.le (by repeat (first | exact FrLe.nil | refine FrLe.cons rfl ?_))) (by repeat (first | exact FrLe.nil | refine FrLe.cons rfl ?_)) ?_
                      · have e : i = 0 := by omega
                        subst e
                        exact ⟨hat2, by simp only; omega, fun hb => ⟨by simp only; first | omega | exact absurd hb h4, by first | exact (hbk hb).2 | exact absurd hb h4 | (exfalso; have := (hbk hb).1; omega)⟩, hpn⟩
                      · simp only; omega
                      · first | exact Ent.refl _ | exact Ent.nil _ | exact Take.ent' (by repeat' constructor) | (repeat (first | exact Ent.refl _ | refine Ent.drop ?_))
                    · refine Wp.seq ?_
                      refine Wp.region ?_
                      refine s_eq rfl rfl rfl ?_
                      refine s_as rfl rfl ?_
                      refine WpL.nil ?_
                      refine Wp.condD rfl (fun h13 => ?_) (fun h13 => ?_)
                      · refine Wp.region ?_
                        refine s_fa (o2 := 1) rfl rfl rfl ?_
                        refine s_ld rfl rfl (by rfl) ?_
                        refine s_fa (o2 := 2) rfl rfl rfl ?_
                        refine s_st rfl rfl rfl ?_
                        refine WpL.nil ?_
                        refine Wp.region ?_
                        refine s_mv rfl rfl ?_
                        first | refine s_add rfl rfl rfl (w_i64 (by omega) (by omega)) ?_ | refine s_addw rfl rfl rfl ?_
                        refine s_as rfl rfl ?_
                        refine WpL.nil ?_
                        refine loopD.next (⟨i + 1, at2, W, t.n, M⟩ : PaX) ?_ ?_ (by first | ((repeat (first | exact Top.refl | refine Top.push rfl ?_ | refine Top.drop rfl ?_)); done) | exact Top.le (by repeat (first | exact FrLe.nil | refine FrLe.cons rfl ?_))) (by repeat (first | exact FrLe.nil | refine FrLe.cons rfl ?_)) ?_
                        · have e : i = 1 := by omega
                          subst e
                          exact ⟨hat2, by simp only; omega, fun hb => ⟨by simp only; first | omega | exact absurd hb h4, by first | exact (hbk hb).2 | exact absurd hb h4 | (exfalso; have := (hbk hb).1; omega)⟩, hpn⟩
                        · simp only; omega
                        · first | exact Ent.refl _ | exact Ent.nil _ | exact Take.ent' (by repeat' constructor) | (repeat (first | exact Ent.refl _ | refine Ent.drop ?_))
                      · refine Wp.region ?_
                        refine s_fa (o2 := 1) rfl rfl rfl ?_
                        refine s_ld rfl rfl (by rfl) ?_
                        refine s_fa (o2 := 3) rfl rfl rfl ?_
                        refine s_st rfl rfl rfl ?_
                        refine WpL.nil ?_
                        refine Wp.region ?_
                        refine s_mv rfl rfl ?_
                        first | refine s_add rfl rfl rfl (w_i64 (by omega) (by omega)) ?_ | refine s_addw rfl rfl rfl ?_
                        refine s_as rfl rfl ?_
                        refine WpL.nil ?_
                        refine loopD.next (⟨i + 1, at2, W, H, t.n⟩ : PaX) ?_ ?_ (by first | ((repeat (first | exact Top.refl | refine Top.push rfl ?_ | refine Top.drop rfl ?_)); done) | exact Top.le (by repeat (first | exact FrLe.nil | refine FrLe.cons rfl ?_))) (by repeat (first | exact FrLe.nil | refine FrLe.cons rfl ?_)) ?_
                        · have e : i = 2 := by omega
                          subst e
                          exact ⟨hat2, by simp only; omega, fun hb => ⟨by simp only; first | omega | exact absurd hb h4, by first | exact (hbk hb).2 | exact absurd hb h4 | (exfalso; have := (hbk hb).1; omega)⟩, hpn⟩
                        · simp only; omega
                        · first | exact Ent.refl _ | exact Ent.nil _ | exact Take.ent' (by repeat' constructor) | (repeat (first | exact Ent.refl _ | refine Ent.drop ?_))
        · refine Wp.exit ?_
          refine Wp.seq ?_
          refine Wp.region ?_
          refine s_lda (vs := [_, _, _, _]) rfl rfl rfl (by rfl) ?_
          refine s_mv rfl rfl ?_
          refine s_sta rfl rfl rfl (by rfl) rfl ?_
          refine s_as rfl rfl ?_
          refine s_as rfl rfl ?_
          refine WpL.nil ?_
          refine Wp.ret ?_
          apply RetQ.mk
          · exact (RetQ.cell3 rfl rfl (by rfl) rfl rfl)
          · exact ⟨K, W, H, M, _, 0, by unfold parI at hpi; rw [hpi, if_pos (by first | exact .inr ⟨by have := (hbk h4).1; omega, h4⟩ | exact .inl (by omega))], rfl, rfl⟩
          · first | exact Ent.refl _ | exact Ent.nil _ | exact Take.ent' (by repeat' constructor) | (repeat (first | exact Ent.refl _ | refine Ent.drop ?_))


theorem rParse_spec (a b d : Int) (s : ByteArray) (hsz : s.size ≤ 1000000000000) : Fn Tryz.prog 56 #[.string s, .agg #[.int .i64 a, .int .i64 b, .int .i64 d]] [] (fun v l => ∃ K W H M n e, ((K, W, H, M), n, e) = hdP (lim0 a) (lim1 b) (lim2 d) (bsOf s) ∧ v = .tuple #[.agg #[.int .i64 K, .int .i64 W, .int .i64 H, .int .i64 M], .int .i64 n, .int .i64 e] ∧ l = []) := by
  by_cases h0 : s.size = 0
  · exact rParse_A a b d s h0
  by_cases h80 : ((s[0]'(by omega)).toNat : Int) = 80
  rotate_left
  · exact rParse_B a b d s (by omega) h80
  by_cases h1 : s.size = 1
  · exact rParse_C a b d s h1 h80
  by_cases h1a : ((s[1]'(by omega)).toNat : Int) < 49
  · exact rParse_D a b d s (by omega) h80 (.inl h1a)
  by_cases h1b : ((s[1]'(by omega)).toNat : Int) > 54
  · exact rParse_D a b d s (by omega) h80 (.inr h1b)
  by_cases h2 : s.size = 2
  · exact rParse_E a b d s h2 h80 h1a h1b
  by_cases h35 : ((s[2]'(by omega)).toNat : Int) = 35
  · exact rParse_G a b d s (by omega) h80 h1a h1b (.inr h35) hsz
  cases hb : blankB ((s[2]'(by omega)).toNat : Int) with
  | true => exact rParse_G a b d s (by omega) h80 h1a h1b (.inl hb) hsz
  | false => exact rParse_F a b d s (by omega) h80 h1a h1b h35 hb

end Go.Proofs.YtggamdlpiejbiaaGreat
