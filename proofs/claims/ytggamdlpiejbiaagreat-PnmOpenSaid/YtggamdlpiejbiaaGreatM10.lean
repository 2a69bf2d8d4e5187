/- Walks and plain laws, a part of the proof of PnmOpen: every input that the law's guards let in, no condition beside. -/
import Derived.Test.YtggamdlpiejbiaaGreatM09
namespace Go.Proofs.YtggamdlpiejbiaaGreat
open Go.RowKit Go.Shelf

theorem hdWrong_spec (g : Nat) (K W H M l0 l1 l2 at_ i la e x : Int) (pt : Value) : Fn Tryz.prog 190 #[.pointer (some ⟨g, 0, none⟩), .int .i64 x] [blk g [.int .i64 K, .int .i64 W, .int .i64 H, .int .i64 M, .int .i64 l0, .int .i64 l1, .int .i64 l2, .int .i64 at_, .int .i64 i, pt, .int .i64 la, .int .i64 e] 234] (fun v l => v = .int .i64 2 ∧ l = [blk g [.int .i64 K, .int .i64 W, .int .i64 H, .int .i64 M, .int .i64 l0, .int .i64 l1, .int .i64 l2, .int .i64 at_, .int .i64 i, pt, .int .i64 la, .int .i64 x] 234]) := by
  refine Fn.intro (vs := [.pointer (some ⟨g, 0, none⟩), .int .i64 x]) Tryz.func190 rfl Tryz.ntmps190 rfl ?_
  refine Wp.seq ?_
  refine Wp.region ?_
  refine s_as rfl rfl ?_
  refine WpL.nil ?_
  refine Wp.seq ?_
  refine Wp.region ?_
  refine s_mv rfl rfl ?_
  refine s_mv rfl rfl ?_
  refine s_nc rfl rfl ?_
  refine s_fa (o2 := 11) rfl rfl rfl ?_
  refine s_st rfl rfl rfl ?_
  refine WpL.nil ?_
  refine Wp.seq ?_
  refine Wp.region ?_
  refine s_as rfl rfl ?_
  refine WpL.nil ?_
  refine Wp.ret ?_
  apply RetQ.mk
  · exact (Res.one rfl rfl)
  · exact ⟨rfl, rfl⟩
  · first | exact Ent.refl _ | exact Ent.nil _ | exact Take.ent' (by repeat' constructor) | (repeat (first | exact Ent.refl _ | refine Ent.drop ?_))

theorem hdMagic_0a (g : Nat) (K W H M l0 l1 l2 i la e : Int) (pt : Value) (c : Int) (hc : c ≠ 80) : Fn Tryz.prog 165 #[.pointer (some ⟨g, 0, none⟩), .int .u8 c] [blk g [.int .i64 K, .int .i64 W, .int .i64 H, .int .i64 M, .int .i64 l0, .int .i64 l1, .int .i64 l2, .int .i64 0, .int .i64 i, pt, .int .i64 la, .int .i64 e] 234] (fun v l => v = .int .i64 2 ∧ l = [blk g [.int .i64 K, .int .i64 W, .int .i64 H, .int .i64 M, .int .i64 l0, .int .i64 l1, .int .i64 l2, .int .i64 1, .int .i64 i, pt, .int .i64 la, .int .i64 2] 234]) := by
  refine Fn.intro (vs := [.pointer (some ⟨g, 0, none⟩), .int .u8 c]) Tryz.func165 rfl Tryz.ntmps165 rfl ?_
  refine Wp.seq ?_
  refine Wp.region ?_
  refine s_as rfl rfl ?_
  refine WpL.nil ?_
  refine Wp.seq ?_
  refine Wp.region ?_
  refine s_mv rfl rfl ?_
  refine s_nc rfl rfl ?_
  refine s_fa (o2 := 7) rfl rfl rfl ?_
  refine s_ld rfl rfl (by rfl) ?_
  refine s_add rfl rfl rfl (w_i64 (by omega) (by omega)) ?_
  rw [show (0 : Int) + 1 = 1 from rfl]
  refine s_nc rfl rfl ?_
  refine s_fa (o2 := 7) rfl rfl rfl ?_
  refine s_st rfl rfl rfl ?_
  refine WpL.nil ?_
  refine Wp.seq ?_
  refine Wp.block ?_
  refine Wp.seq ?_
  refine Wp.seq ?_
  refine Wp.region ?_
  refine s_mv rfl rfl ?_
  refine s_nc rfl rfl ?_
  refine s_fa (o2 := 7) rfl rfl rfl ?_
  refine s_ld rfl rfl (by rfl) ?_
  refine s_eq rfl rfl rfl ?_
  refine s_mv rfl rfl ?_
  refine WpL.knowT (dj := 18) rfl rfl ?_
  refine WpL.gon rfl rfl ?_
  refine s_mv rfl rfl ?_
  refine WpL.gon rfl rfl ?_
  refine s_ne rfl rfl rfl ?_
  refine s_pickT rfl rfl rfl ?_
  refine s_as rfl rfl ?_
  refine WpL.nil ?_
  refine Wp.condDT rfl hc ?_
  refine Wp.skip ?_
  refine Wp.condDT rfl hc ?_
  refine Wp.seq ?_
  refine Wp.region ?_
  refine s_mv rfl rfl ?_
  refine s_callf rfl rfl (by repeat' constructor) (hdWrong_spec _ _ _ _ _ _ _ _ _ _ _ _ _ _) ?_
  rintro _ _ ⟨rfl, rfl⟩
  simp only [napp]
  refine s_as rfl rfl ?_
  refine WpL.nil ?_
  refine Wp.ret ?_
  apply RetQ.mk
  · exact (Res.one rfl rfl)
  · exact ⟨rfl, rfl⟩
  · first | exact Ent.refl _ | exact Ent.nil _ | exact Take.ent' (by repeat' constructor) | (repeat (first | exact Ent.refl _ | refine Ent.drop ?_))

theorem hdMagic_0b (g : Nat) (K W H M l0 l1 l2 i la e : Int) (pt : Value) (c : Int) (hc : c = 80) : Fn Tryz.prog 165 #[.pointer (some ⟨g, 0, none⟩), .int .u8 c] [blk g [.int .i64 K, .int .i64 W, .int .i64 H, .int .i64 M, .int .i64 l0, .int .i64 l1, .int .i64 l2, .int .i64 0, .int .i64 i, pt, .int .i64 la, .int .i64 e] 234] (fun v l => v = .int .i64 0 ∧ l = [blk g [.int .i64 K, .int .i64 W, .int .i64 H, .int .i64 M, .int .i64 l0, .int .i64 l1, .int .i64 l2, .int .i64 1, .int .i64 i, pt, .int .i64 la, .int .i64 e] 234]) := by
  refine Fn.intro (vs := [.pointer (some ⟨g, 0, none⟩), .int .u8 c]) Tryz.func165 rfl Tryz.ntmps165 rfl ?_
  refine Wp.seq ?_
  refine Wp.region ?_
  refine s_as rfl rfl ?_
  refine WpL.nil ?_
  refine Wp.seq ?_
  refine Wp.region ?_
  refine s_mv rfl rfl ?_
  refine s_nc rfl rfl ?_
  refine s_fa (o2 := 7) rfl rfl rfl ?_
  refine s_ld rfl rfl (by rfl) ?_
  refine s_add rfl rfl rfl (w_i64 (by omega) (by omega)) ?_
  rw [show (0 : Int) + 1 = 1 from rfl]
  refine s_nc rfl rfl ?_
  refine s_fa (o2 := 7) rfl rfl rfl ?_
  refine s_st rfl rfl rfl ?_
  refine WpL.nil ?_
  refine Wp.seq ?_
  refine Wp.block ?_
  refine Wp.seq ?_
  refine Wp.seq ?_
  refine Wp.region ?_
  refine s_mv rfl rfl ?_
  refine s_nc rfl rfl ?_
  refine s_fa (o2 := 7) rfl rfl rfl ?_
  refine s_ld rfl rfl (by rfl) ?_
  refine s_eq rfl rfl rfl ?_
  refine s_mv rfl rfl ?_
  refine WpL.knowT (dj := 18) rfl rfl ?_
  refine WpL.gon rfl rfl ?_
  refine s_mv rfl rfl ?_
  refine WpL.gon rfl rfl ?_
  refine s_ne rfl rfl rfl ?_
  refine s_pickT rfl rfl rfl ?_
  refine s_as rfl rfl ?_
  refine WpL.nil ?_
  refine Wp.condDF rfl (fun h => h hc) ?_
  refine Wp.region ?_
  refine s_mv rfl rfl ?_
  refine s_nc rfl rfl ?_
  refine s_fa (o2 := 7) rfl rfl rfl ?_
  refine s_ld rfl rfl (by rfl) ?_
  refine s_eq rfl rfl rfl ?_
  refine s_mv rfl rfl ?_
  refine WpL.knowF (dj := 27) rfl (by decide) ?_
  refine WpL.goff rfl rfl rfl (by decide) ?_
  refine WpL.goff rfl rfl rfl (by decide) ?_
  refine WpL.goff rfl rfl rfl (by decide) ?_
  refine WpL.goffU rfl rfl rfl ?_
  refine WpL.goffU rfl rfl rfl ?_
  refine WpL.goff rfl rfl rfl (by decide) ?_
  refine s_pickF rfl rfl rfl ?_
  refine s_as rfl rfl ?_
  refine WpL.nil ?_
  refine Wp.condF rfl ?_
  refine Wp.seq ?_
  refine Wp.region ?_
  refine s_mv rfl rfl ?_
  refine s_nc rfl rfl ?_
  refine s_fa (o2 := 7) rfl rfl rfl ?_
  refine s_ld rfl rfl (by rfl) ?_
  refine s_eq rfl rfl rfl ?_
  refine s_as rfl rfl ?_
  refine WpL.nil ?_
  refine Wp.condDF rfl (by decide) ?_
  refine Wp.seq ?_
  refine Wp.region ?_
  refine s_mv rfl rfl ?_
  refine s_nc rfl rfl ?_
  refine s_fa (o2 := 7) rfl rfl rfl ?_
  refine s_ld rfl rfl (by rfl) ?_
  refine s_eq rfl rfl rfl ?_
  refine s_as rfl rfl ?_
  refine WpL.nil ?_
  refine Wp.condDF rfl (by decide) ?_
  refine Wp.skip ?_
  refine Wp.seq ?_
  refine Wp.region ?_
  refine s_as rfl rfl ?_
  refine WpL.nil ?_
  refine Wp.ret ?_
  apply RetQ.mk
  · exact (Res.one rfl rfl)
  · exact ⟨rfl, rfl⟩
  · first | exact Ent.refl _ | exact Ent.nil _ | exact Take.ent' (by repeat' constructor) | (repeat (first | exact Ent.refl _ | refine Ent.drop ?_))

theorem hdMagic_1a (g : Nat) (K W H M l0 l1 l2 i la e : Int) (pt : Value) (c : Int) (hc : c < 49) : Fn Tryz.prog 165 #[.pointer (some ⟨g, 0, none⟩), .int .u8 c] [blk g [.int .i64 K, .int .i64 W, .int .i64 H, .int .i64 M, .int .i64 l0, .int .i64 l1, .int .i64 l2, .int .i64 1, .int .i64 i, pt, .int .i64 la, .int .i64 e] 234] (fun v l => v = .int .i64 2 ∧ l = [blk g [.int .i64 K, .int .i64 W, .int .i64 H, .int .i64 M, .int .i64 l0, .int .i64 l1, .int .i64 l2, .int .i64 2, .int .i64 i, pt, .int .i64 la, .int .i64 2] 234]) := by
  refine Fn.intro (vs := [.pointer (some ⟨g, 0, none⟩), .int .u8 c]) Tryz.func165 rfl Tryz.ntmps165 rfl ?_
  refine Wp.seq ?_
  refine Wp.region ?_
  refine s_as rfl rfl ?_
  refine WpL.nil ?_
  refine Wp.seq ?_
  refine Wp.region ?_
  refine s_mv rfl rfl ?_
  refine s_nc rfl rfl ?_
  refine s_fa (o2 := 7) rfl rfl rfl ?_
  refine s_ld rfl rfl (by rfl) ?_
  refine s_add rfl rfl rfl (w_i64 (by omega) (by omega)) ?_
  rw [show (1 : Int) + 1 = 2 from rfl]
  refine s_nc rfl rfl ?_
  refine s_fa (o2 := 7) rfl rfl rfl ?_
  refine s_st rfl rfl rfl ?_
  refine WpL.nil ?_
  refine Wp.seq ?_
  refine Wp.block ?_
  refine Wp.seq ?_
  refine Wp.seq ?_
  refine Wp.region ?_
  refine s_mv rfl rfl ?_
  refine s_nc rfl rfl ?_
  refine s_fa (o2 := 7) rfl rfl rfl ?_
  refine s_ld rfl rfl (by rfl) ?_
  refine s_eq rfl rfl rfl ?_
  refine s_mv rfl rfl ?_
  refine WpL.knowF (dj := 18) rfl (by decide) ?_
  refine WpL.goff rfl rfl rfl (by decide) ?_
  refine WpL.goff rfl rfl rfl (by decide) ?_
  refine s_pickF rfl rfl rfl ?_
  refine s_as rfl rfl ?_
  refine WpL.nil ?_
  refine Wp.condF rfl ?_
  refine Wp.region ?_
  refine s_mv rfl rfl ?_
  refine s_nc rfl rfl ?_
  refine s_fa (o2 := 7) rfl rfl rfl ?_
  refine s_ld rfl rfl (by rfl) ?_
  refine s_eq rfl rfl rfl ?_
  refine s_mv rfl rfl ?_
  refine WpL.knowT (dj := 27) rfl rfl ?_
  refine WpL.gon rfl rfl ?_
  refine s_mv rfl rfl ?_
  refine WpL.gon rfl rfl ?_
  refine s_lt rfl rfl rfl ?_
  refine WpL.gon rfl rfl ?_
  refine s_mv rfl rfl ?_
  refine WpL.knowT (dj := 30) rfl (decide_eq_true hc) ?_
  refine WpL.goff rfl rfl rfl (by decide) ?_
  refine WpL.goff rfl rfl rfl (by decide) ?_
  refine WpL.gon rfl rfl ?_
  refine s_pickT rfl rfl rfl ?_
  refine s_pickT rfl rfl rfl ?_
  refine s_as rfl rfl ?_
  refine WpL.nil ?_
  refine Wp.condT rfl ?_
  refine Wp.seq ?_
  refine Wp.region ?_
  refine s_mv rfl rfl ?_
  refine s_callf rfl rfl (by repeat' constructor) (hdWrong_spec _ _ _ _ _ _ _ _ _ _ _ _ _ _) ?_
  rintro _ _ ⟨rfl, rfl⟩
  simp only [napp]
  refine s_as rfl rfl ?_
  refine WpL.nil ?_
  refine Wp.ret ?_
  apply RetQ.mk
  · exact (Res.one rfl rfl)
  · exact ⟨rfl, rfl⟩
  · first | exact Ent.refl _ | exact Ent.nil _ | exact Take.ent' (by repeat' constructor) | (repeat (first | exact Ent.refl _ | refine Ent.drop ?_))

theorem hdMagic_1b (g : Nat) (K W H M l0 l1 l2 i la e : Int) (pt : Value) (c : Int) (hc : 54 < c) : Fn Tryz.prog 165 #[.pointer (some ⟨g, 0, none⟩), .int .u8 c] [blk g [.int .i64 K, .int .i64 W, .int .i64 H, .int .i64 M, .int .i64 l0, .int .i64 l1, .int .i64 l2, .int .i64 1, .int .i64 i, pt, .int .i64 la, .int .i64 e] 234] (fun v l => v = .int .i64 2 ∧ l = [blk g [.int .i64 K, .int .i64 W, .int .i64 H, .int .i64 M, .int .i64 l0, .int .i64 l1, .int .i64 l2, .int .i64 2, .int .i64 i, pt, .int .i64 la, .int .i64 2] 234]) := by
  refine Fn.intro (vs := [.pointer (some ⟨g, 0, none⟩), .int .u8 c]) Tryz.func165 rfl Tryz.ntmps165 rfl ?_
  refine Wp.seq ?_
  refine Wp.region ?_
  refine s_as rfl rfl ?_
  refine WpL.nil ?_
  refine Wp.seq ?_
  refine Wp.region ?_
  refine s_mv rfl rfl ?_
  refine s_nc rfl rfl ?_
  refine s_fa (o2 := 7) rfl rfl rfl ?_
  refine s_ld rfl rfl (by rfl) ?_
  refine s_add rfl rfl rfl (w_i64 (by omega) (by omega)) ?_
  rw [show (1 : Int) + 1 = 2 from rfl]
  refine s_nc rfl rfl ?_
  refine s_fa (o2 := 7) rfl rfl rfl ?_
  refine s_st rfl rfl rfl ?_
  refine WpL.nil ?_
  refine Wp.seq ?_
  refine Wp.block ?_
  refine Wp.seq ?_
  refine Wp.seq ?_
  refine Wp.region ?_
  refine s_mv rfl rfl ?_
  refine s_nc rfl rfl ?_
  refine s_fa (o2 := 7) rfl rfl rfl ?_
  refine s_ld rfl rfl (by rfl) ?_
  refine s_eq rfl rfl rfl ?_
  refine s_mv rfl rfl ?_
  refine WpL.knowF (dj := 18) rfl (by decide) ?_
  refine WpL.goff rfl rfl rfl (by decide) ?_
  refine WpL.goff rfl rfl rfl (by decide) ?_
  refine s_pickF rfl rfl rfl ?_
  refine s_as rfl rfl ?_
  refine WpL.nil ?_
  refine Wp.condF rfl ?_
  refine Wp.region ?_
  refine s_mv rfl rfl ?_
  refine s_nc rfl rfl ?_
  refine s_fa (o2 := 7) rfl rfl rfl ?_
  refine s_ld rfl rfl (by rfl) ?_
  refine s_eq rfl rfl rfl ?_
  refine s_mv rfl rfl ?_
  refine WpL.knowT (dj := 27) rfl rfl ?_
  refine WpL.gon rfl rfl ?_
  refine s_mv rfl rfl ?_
  refine WpL.gon rfl rfl ?_
  refine s_lt rfl rfl rfl ?_
  refine WpL.gon rfl rfl ?_
  refine s_mv rfl rfl ?_
  refine WpL.knowF (dj := 30) rfl (decide_eq_false (by omega)) ?_
  refine WpL.gon rfl rfl ?_
  refine s_mv rfl rfl ?_
  refine WpL.gon rfl rfl ?_
  refine s_gt rfl rfl rfl ?_
  refine WpL.gon rfl rfl ?_
  refine s_pickF rfl rfl rfl ?_
  refine s_pickT rfl rfl rfl ?_
  refine s_as rfl rfl ?_
  refine WpL.nil ?_
  refine Wp.condDT rfl hc ?_
  refine Wp.seq ?_
  refine Wp.region ?_
  refine s_mv rfl rfl ?_
  refine s_callf rfl rfl (by repeat' constructor) (hdWrong_spec _ _ _ _ _ _ _ _ _ _ _ _ _ _) ?_
  rintro _ _ ⟨rfl, rfl⟩
  simp only [napp]
  refine s_as rfl rfl ?_
  refine WpL.nil ?_
  refine Wp.ret ?_
  apply RetQ.mk
  · exact (Res.one rfl rfl)
  · exact ⟨rfl, rfl⟩
  · first | exact Ent.refl _ | exact Ent.nil _ | exact Take.ent' (by repeat' constructor) | (repeat (first | exact Ent.refl _ | refine Ent.drop ?_))

theorem hdMagic_1c (g : Nat) (K W H M l0 l1 l2 i la e : Int) (pt : Value) (c : Int) (hc : 49 ≤ c ∧ c ≤ 54) : Fn Tryz.prog 165 #[.pointer (some ⟨g, 0, none⟩), .int .u8 c] [blk g [.int .i64 K, .int .i64 W, .int .i64 H, .int .i64 M, .int .i64 l0, .int .i64 l1, .int .i64 l2, .int .i64 1, .int .i64 i, pt, .int .i64 la, .int .i64 e] 234] (fun v l => v = .int .i64 0 ∧ l = [blk g [.int .i64 (c - 48), .int .i64 W, .int .i64 H, .int .i64 M, .int .i64 l0, .int .i64 l1, .int .i64 l2, .int .i64 2, .int .i64 i, pt, .int .i64 la, .int .i64 e] 234]) := by
  refine Fn.intro (vs := [.pointer (some ⟨g, 0, none⟩), .int .u8 c]) Tryz.func165 rfl Tryz.ntmps165 rfl ?_
  refine Wp.seq ?_
  refine Wp.region ?_
  refine s_as rfl rfl ?_
  refine WpL.nil ?_
  refine Wp.seq ?_
  refine Wp.region ?_
  refine s_mv rfl rfl ?_
  refine s_nc rfl rfl ?_
  refine s_fa (o2 := 7) rfl rfl rfl ?_
  refine s_ld rfl rfl (by rfl) ?_
  refine s_add rfl rfl rfl (w_i64 (by omega) (by omega)) ?_
  rw [show (1 : Int) + 1 = 2 from rfl]
  refine s_nc rfl rfl ?_
  refine s_fa (o2 := 7) rfl rfl rfl ?_
  refine s_st rfl rfl rfl ?_
  refine WpL.nil ?_
  refine Wp.seq ?_
  refine Wp.block ?_
  refine Wp.seq ?_
  refine Wp.seq ?_
  refine Wp.region ?_
  refine s_mv rfl rfl ?_
  refine s_nc rfl rfl ?_
  refine s_fa (o2 := 7) rfl rfl rfl ?_
  refine s_ld rfl rfl (by rfl) ?_
  refine s_eq rfl rfl rfl ?_
  refine s_mv rfl rfl ?_
  refine WpL.knowF (dj := 18) rfl (by decide) ?_
  refine WpL.goff rfl rfl rfl (by decide) ?_
  refine WpL.goff rfl rfl rfl (by decide) ?_
  refine s_pickF rfl rfl rfl ?_
  refine s_as rfl rfl ?_
  refine WpL.nil ?_
  refine Wp.condF rfl ?_
  refine Wp.region ?_
  refine s_mv rfl rfl ?_
  refine s_nc rfl rfl ?_
  refine s_fa (o2 := 7) rfl rfl rfl ?_
  refine s_ld rfl rfl (by rfl) ?_
  refine s_eq rfl rfl rfl ?_
  refine s_mv rfl rfl ?_
  refine WpL.knowT (dj := 27) rfl rfl ?_
  refine WpL.gon rfl rfl ?_
  refine s_mv rfl rfl ?_
  refine WpL.gon rfl rfl ?_
  refine s_lt rfl rfl rfl ?_
  refine WpL.gon rfl rfl ?_
  refine s_mv rfl rfl ?_
  refine WpL.knowF (dj := 30) rfl (decide_eq_false (by omega)) ?_
  refine WpL.gon rfl rfl ?_
  refine s_mv rfl rfl ?_
  refine WpL.gon rfl rfl ?_
  refine s_gt rfl rfl rfl ?_
  refine WpL.gon rfl rfl ?_
  refine s_pickF rfl rfl rfl ?_
  refine s_pickT rfl rfl rfl ?_
  refine s_as rfl rfl ?_
  refine WpL.nil ?_
  refine Wp.condDF rfl (by omega) ?_
  refine Wp.seq ?_
  refine Wp.region ?_
  refine s_mv rfl rfl ?_
  refine s_nc rfl rfl ?_
  refine s_fa (o2 := 7) rfl rfl rfl ?_
  refine s_ld rfl rfl (by rfl) ?_
  refine s_eq rfl rfl rfl ?_
  refine s_as rfl rfl ?_
  refine WpL.nil ?_
  refine Wp.condDT rfl rfl ?_
  refine Wp.region ?_
  refine s_mv rfl rfl ?_
  refine s_mv rfl rfl ?_
  first | refine s_sub rfl rfl rfl (w_u8 (by omega) (by omega)) ?_ | refine s_subw rfl rfl rfl ?_
  refine s_cvi rfl Tryz.underlying5 rfl (w_i64 (by omega) (by omega)) ?_
  refine s_nc rfl rfl ?_
  refine s_fa (o2 := 0) rfl rfl rfl ?_
  refine s_fa (o2 := 0) rfl rfl rfl ?_
  refine s_st rfl rfl rfl ?_
  refine WpL.nil ?_
  refine Wp.seq ?_
  refine Wp.region ?_
  refine s_as rfl rfl ?_
  refine WpL.nil ?_
  refine Wp.ret ?_
  apply RetQ.mk
  · exact (Res.one rfl rfl)
  · exact ⟨rfl, rfl⟩
  · first | exact Ent.refl _ | exact Ent.nil _ | exact Take.ent' (by repeat' constructor) | (repeat (first | exact Ent.refl _ | refine Ent.drop ?_))

theorem hdMagic_2a (g : Nat) (K W H M l0 l1 l2 i la e : Int) (pt : Value) (c : Int) (hc0 : 0 ≤ c) (hc1 : c ≤ 255) (hc : blankB c = false) (hc2 : c ≠ 35) : Fn Tryz.prog 165 #[.pointer (some ⟨g, 0, none⟩), .int .u8 c] [blk g [.int .i64 K, .int .i64 W, .int .i64 H, .int .i64 M, .int .i64 l0, .int .i64 l1, .int .i64 l2, .int .i64 2, .int .i64 i, pt, .int .i64 la, .int .i64 e] 234] (fun v l => v = .int .i64 2 ∧ l = [blk g [.int .i64 K, .int .i64 W, .int .i64 H, .int .i64 M, .int .i64 l0, .int .i64 l1, .int .i64 l2, .int .i64 3, .int .i64 i, pt, .int .i64 la, .int .i64 3] 234]) := by
  refine Fn.intro (vs := [.pointer (some ⟨g, 0, none⟩), .int .u8 c]) Tryz.func165 rfl Tryz.ntmps165 rfl ?_
  refine Wp.seq ?_
  refine Wp.region ?_
  refine s_as rfl rfl ?_
  refine WpL.nil ?_
  refine Wp.seq ?_
  refine Wp.region ?_
  refine s_mv rfl rfl ?_
  refine s_nc rfl rfl ?_
  refine s_fa (o2 := 7) rfl rfl rfl ?_
  refine s_ld rfl rfl (by rfl) ?_
  refine s_add rfl rfl rfl (w_i64 (by omega) (by omega)) ?_
  rw [show (2 : Int) + 1 = 3 from rfl]
  refine s_nc rfl rfl ?_
  refine s_fa (o2 := 7) rfl rfl rfl ?_
  refine s_st rfl rfl rfl ?_
  refine WpL.nil ?_
  refine Wp.seq ?_
  refine Wp.block ?_
  refine Wp.seq ?_
  refine Wp.seq ?_
  refine Wp.region ?_
  refine s_mv rfl rfl ?_
  refine s_nc rfl rfl ?_
  refine s_fa (o2 := 7) rfl rfl rfl ?_
  refine s_ld rfl rfl (by rfl) ?_
  refine s_eq rfl rfl rfl ?_
  refine s_mv rfl rfl ?_
  refine WpL.knowF (dj := 18) rfl (by decide) ?_
  refine WpL.goff rfl rfl rfl (by decide) ?_
  refine WpL.goff rfl rfl rfl (by decide) ?_
  refine s_pickF rfl rfl rfl ?_
  refine s_as rfl rfl ?_
  refine WpL.nil ?_
  refine Wp.condF rfl ?_
  refine Wp.region ?_
  refine s_mv rfl rfl ?_
  refine s_nc rfl rfl ?_
  refine s_fa (o2 := 7) rfl rfl rfl ?_
  refine s_ld rfl rfl (by rfl) ?_
  refine s_eq rfl rfl rfl ?_
  refine s_mv rfl rfl ?_
  refine WpL.knowF (dj := 27) rfl (by decide) ?_
  refine WpL.goff rfl rfl rfl (by decide) ?_
  refine WpL.goff rfl rfl rfl (by decide) ?_
  refine WpL.goff rfl rfl rfl (by decide) ?_
  refine WpL.goffU rfl rfl rfl ?_
  refine WpL.goffU rfl rfl rfl ?_
  refine WpL.goff rfl rfl rfl (by decide) ?_
  refine s_pickF rfl rfl rfl ?_
  refine s_as rfl rfl ?_
  refine WpL.nil ?_
  refine Wp.condF rfl ?_
  refine Wp.seq ?_
  refine Wp.region ?_
  refine s_mv rfl rfl ?_
  refine s_nc rfl rfl ?_
  refine s_fa (o2 := 7) rfl rfl rfl ?_
  refine s_ld rfl rfl (by rfl) ?_
  refine s_eq rfl rfl rfl ?_
  refine s_as rfl rfl ?_
  refine WpL.nil ?_
  refine Wp.condDF rfl (by decide) ?_
  refine Wp.seq ?_
  refine Wp.region ?_
  refine s_mv rfl rfl ?_
  refine s_nc rfl rfl ?_
  refine s_fa (o2 := 7) rfl rfl rfl ?_
  refine s_ld rfl rfl (by rfl) ?_
  refine s_eq rfl rfl rfl ?_
  refine s_as rfl rfl ?_
  refine WpL.nil ?_
  refine Wp.condDT rfl rfl ?_
  refine Wp.seq ?_
  refine Wp.seq ?_
  refine Wp.region ?_
  refine s_mv rfl rfl ?_
  refine s_callf rfl rfl (by repeat' constructor) (Blank_spec _ (by omega) (by omega)) ?_
  rintro _ _ ⟨rfl, rfl⟩
  simp only [napp]
  refine s_not rfl rfl ?_
  refine s_mv rfl rfl ?_
  refine WpL.knowT (dj := 59) rfl (by rw [hc]; rfl) ?_
  refine WpL.gon rfl rfl ?_
  refine s_mv rfl rfl ?_
  refine WpL.gon rfl rfl ?_
  refine s_ne rfl rfl rfl ?_
  refine s_pickT rfl rfl rfl ?_
  refine WpL.nil ?_
  refine Wp.condDT rfl hc2 ?_
  refine Wp.seq ?_
  refine Wp.region ?_
  refine s_mv rfl rfl ?_
  refine s_callf rfl rfl (by repeat' constructor) (hdWrong_spec _ _ _ _ _ _ _ _ _ _ _ _ _ _) ?_
  rintro _ _ ⟨rfl, rfl⟩
  simp only [napp]
  refine s_as rfl rfl ?_
  refine WpL.nil ?_
  refine Wp.ret ?_
  apply RetQ.mk
  · exact (Res.one rfl rfl)
  · exact ⟨rfl, rfl⟩
  · first | exact Ent.refl _ | exact Ent.nil _ | exact Take.ent' (by repeat' constructor) | (repeat (first | exact Ent.refl _ | refine Ent.drop ?_))

theorem hdMagic_2b (g : Nat) (K W H M l0 l1 l2 i la e : Int) (pt : Value) (c : Int) (hc0 : 0 ≤ c) (hc1 : c ≤ 255) (hl : (1 ≤ l0 ∧ l0 ≤ 4096) ∧ (1 ≤ l1 ∧ l1 ≤ 65536) ∧ (1 ≤ l2 ∧ l2 ≤ 65535)) (hc : blankB c = true) : Fn Tryz.prog 165 #[.pointer (some ⟨g, 0, none⟩), .int .u8 c] [blk g [.int .i64 K, .int .i64 W, .int .i64 H, .int .i64 M, .int .i64 l0, .int .i64 l1, .int .i64 l2, .int .i64 2, .int .i64 i, pt, .int .i64 la, .int .i64 e] 234] (fun v l => ∃ gt s' r bg' nx', ((s', r) : TS × Int) = tkPut l0 tk0 c ∧ v = .int .i64 0 ∧ (r = 0 → nx' = nxV gt s'.ph) ∧ l = [blk g [.int .i64 K, .int .i64 W, .int .i64 H, .int .i64 M, .int .i64 l0, .int .i64 l1, .int .i64 l2, .int .i64 3, .int .i64 i, .pointer (some ⟨gt, 0, none⟩), .int .i64 la, .int .i64 e] 234, blk gt [nx', .int .i64 l0, .int .i64 s'.n, .bool bg', .int .i64 r, .int .i64 s'.e] 265]) := by
  refine Fn.intro (vs := [.pointer (some ⟨g, 0, none⟩), .int .u8 c]) Tryz.func165 rfl Tryz.ntmps165 rfl ?_
  refine Wp.seq ?_
  refine Wp.region ?_
  refine s_as rfl rfl ?_
  refine WpL.nil ?_
  refine Wp.seq ?_
  refine Wp.region ?_
  refine s_mv rfl rfl ?_
  refine s_nc rfl rfl ?_
  refine s_fa (o2 := 7) rfl rfl rfl ?_
  refine s_ld rfl rfl (by rfl) ?_
  refine s_add rfl rfl rfl (w_i64 (by omega) (by omega)) ?_
  rw [show (2 : Int) + 1 = 3 from rfl]
  refine s_nc rfl rfl ?_
  refine s_fa (o2 := 7) rfl rfl rfl ?_
  refine s_st rfl rfl rfl ?_
  refine WpL.nil ?_
  refine Wp.seq ?_
  refine Wp.block ?_
  refine Wp.seq ?_
  refine Wp.seq ?_
  refine Wp.region ?_
  refine s_mv rfl rfl ?_
  refine s_nc rfl rfl ?_
  refine s_fa (o2 := 7) rfl rfl rfl ?_
  refine s_ld rfl rfl (by rfl) ?_
  refine s_eq rfl rfl rfl ?_
  refine s_mv rfl rfl ?_
  refine WpL.knowF (dj := 18) rfl (by decide) ?_
  refine WpL.goff rfl rfl rfl (by decide) ?_
  refine WpL.goff rfl rfl rfl (by decide) ?_
  refine s_pickF rfl rfl rfl ?_
  refine s_as rfl rfl ?_
  refine WpL.nil ?_
  refine Wp.condF rfl ?_
  refine Wp.region ?_
  refine s_mv rfl rfl ?_
  refine s_nc rfl rfl ?_
  refine s_fa (o2 := 7) rfl rfl rfl ?_
  refine s_ld rfl rfl (by rfl) ?_
  refine s_eq rfl rfl rfl ?_
  refine s_mv rfl rfl ?_
  refine WpL.knowF (dj := 27) rfl (by decide) ?_
  refine WpL.goff rfl rfl rfl (by decide) ?_
  refine WpL.goff rfl rfl rfl (by decide) ?_
  refine WpL.goff rfl rfl rfl (by decide) ?_
  refine WpL.goffU rfl rfl rfl ?_
  refine WpL.goffU rfl rfl rfl ?_
  refine WpL.goff rfl rfl rfl (by decide) ?_
  refine s_pickF rfl rfl rfl ?_
  refine s_as rfl rfl ?_
  refine WpL.nil ?_
  refine Wp.condF rfl ?_
  refine Wp.seq ?_
  refine Wp.region ?_
  refine s_mv rfl rfl ?_
  refine s_nc rfl rfl ?_
  refine s_fa (o2 := 7) rfl rfl rfl ?_
  refine s_ld rfl rfl (by rfl) ?_
  refine s_eq rfl rfl rfl ?_
  refine s_as rfl rfl ?_
  refine WpL.nil ?_
  refine Wp.condDF rfl (by decide) ?_
  refine Wp.seq ?_
  refine Wp.region ?_
  refine s_mv rfl rfl ?_
  refine s_nc rfl rfl ?_
  refine s_fa (o2 := 7) rfl rfl rfl ?_
  refine s_ld rfl rfl (by rfl) ?_
  refine s_eq rfl rfl rfl ?_
  refine s_as rfl rfl ?_
  refine WpL.nil ?_
  refine Wp.condDT rfl rfl ?_
  refine Wp.seq ?_
  refine Wp.seq ?_
  refine Wp.region ?_
  refine s_mv rfl rfl ?_
  refine s_callf rfl rfl (by repeat' constructor) (Blank_spec _ (by omega) (by omega)) ?_
  rintro _ _ ⟨rfl, rfl⟩
  simp only [napp]
  refine s_not rfl rfl ?_
  refine s_mv rfl rfl ?_
  refine WpL.knowF (dj := 59) rfl (by rw [hc]; rfl) ?_
  refine WpL.goff rfl rfl rfl (by decide) ?_
  refine WpL.goff rfl rfl rfl (by decide) ?_
  refine s_pickF rfl rfl rfl ?_
  refine WpL.nil ?_
  refine Wp.condF rfl ?_
  refine Wp.skip ?_
  refine Wp.seq ?_
  refine Wp.region ?_
  refine s_mv rfl rfl ?_
  refine s_mv rfl rfl ?_
  refine s_nc rfl rfl ?_
  refine s_fa (o2 := 4) rfl rfl rfl ?_
  refine s_ixar (i := 0) (o2 := 4) rfl rfl rfl rfl rfl ?_
  refine s_ld rfl rfl (by rfl) ?_
  refine s_callf rfl rfl (by repeat' constructor) (tkNew_spec l0) ?_
  rintro _ _ ⟨gt, rfl, rfl⟩
  simp only [napp]
  refine s_nc rfl rfl ?_
  refine s_fa (o2 := 9) rfl rfl rfl ?_
  refine s_st rfl rfl rfl ?_
  refine WpL.nil ?_
  refine Wp.region ?_
  refine s_mv rfl rfl ?_
  refine s_nc rfl rfl ?_
  refine s_fa (o2 := 9) rfl rfl rfl ?_
  refine s_ld rfl rfl (by rfl) ?_
  refine s_mv rfl rfl ?_
  refine s_callf rfl rfl (by repeat' constructor) (tkPut_spec gt l0 tk0 false (nxV gt 0) c (by unfold tkOk tk0; dsimp only; omega) rfl hc0 hc1 (by omega)) ?_
  rintro _ _ ⟨s', r, bg', nx', hs, rfl, hnx, rfl⟩
  simp only [napp]
  refine WpL.nil ?_
  refine Wp.seq ?_
  refine Wp.region ?_
  refine s_as rfl rfl ?_
  refine WpL.nil ?_
  refine Wp.ret ?_
  apply RetQ.mk
  · exact (Res.one rfl rfl)
  · exact ⟨gt, s', r, bg', nx', hs, rfl, hnx, rfl⟩
  · first | exact Ent.refl _ | exact Ent.nil _ | exact Take.ent' (by repeat' constructor) | (repeat (first | exact Ent.refl _ | refine Ent.drop ?_))

theorem hdMagic_2c (g : Nat) (K W H M l0 l1 l2 i la e : Int) (pt : Value) (c : Int) (hc0 : 0 ≤ c) (hc1 : c ≤ 255) (hl : (1 ≤ l0 ∧ l0 ≤ 4096) ∧ (1 ≤ l1 ∧ l1 ≤ 65536) ∧ (1 ≤ l2 ∧ l2 ≤ 65535)) (hc : blankB c = false) (hc2 : c = 35) : Fn Tryz.prog 165 #[.pointer (some ⟨g, 0, none⟩), .int .u8 c] [blk g [.int .i64 K, .int .i64 W, .int .i64 H, .int .i64 M, .int .i64 l0, .int .i64 l1, .int .i64 l2, .int .i64 2, .int .i64 i, pt, .int .i64 la, .int .i64 e] 234] (fun v l => ∃ gt s' r bg' nx', ((s', r) : TS × Int) = tkPut l0 tk0 c ∧ v = .int .i64 0 ∧ (r = 0 → nx' = nxV gt s'.ph) ∧ l = [blk g [.int .i64 K, .int .i64 W, .int .i64 H, .int .i64 M, .int .i64 l0, .int .i64 l1, .int .i64 l2, .int .i64 3, .int .i64 i, .pointer (some ⟨gt, 0, none⟩), .int .i64 la, .int .i64 e] 234, blk gt [nx', .int .i64 l0, .int .i64 s'.n, .bool bg', .int .i64 r, .int .i64 s'.e] 265]) := by
  refine Fn.intro (vs := [.pointer (some ⟨g, 0, none⟩), .int .u8 c]) Tryz.func165 rfl Tryz.ntmps165 rfl ?_
  refine Wp.seq ?_
  refine Wp.region ?_
  refine s_as rfl rfl ?_
  refine WpL.nil ?_
  refine Wp.seq ?_
  refine Wp.region ?_
  refine s_mv rfl rfl ?_
  refine s_nc rfl rfl ?_
  refine s_fa (o2 := 7) rfl rfl rfl ?_
  refine s_ld rfl rfl (by rfl) ?_
  refine s_add rfl rfl rfl (w_i64 (by omega) (by omega)) ?_
  rw [show (2 : Int) + 1 = 3 from rfl]
  refine s_nc rfl rfl ?_
  refine s_fa (o2 := 7) rfl rfl rfl ?_
  refine s_st rfl rfl rfl ?_
  refine WpL.nil ?_
  refine Wp.seq ?_
  refine Wp.block ?_
  refine Wp.seq ?_
  refine Wp.seq ?_
  refine Wp.region ?_
  refine s_mv rfl rfl ?_
  refine s_nc rfl rfl ?_
  refine s_fa (o2 := 7) rfl rfl rfl ?_
  refine s_ld rfl rfl (by rfl) ?_
  refine s_eq rfl rfl rfl ?_
  refine s_mv rfl rfl ?_
  refine WpL.knowF (dj := 18) rfl (by decide) ?_
  refine WpL.goff rfl rfl rfl (by decide) ?_
  refine WpL.goff rfl rfl rfl (by decide) ?_
  refine s_pickF rfl rfl rfl ?_
  refine s_as rfl rfl ?_
  refine WpL.nil ?_
  refine Wp.condF rfl ?_
  refine Wp.region ?_
  refine s_mv rfl rfl ?_
  refine s_nc rfl rfl ?_
  refine s_fa (o2 := 7) rfl rfl rfl ?_
  refine s_ld rfl rfl (by rfl) ?_
  refine s_eq rfl rfl rfl ?_
  refine s_mv rfl rfl ?_
  refine WpL.knowF (dj := 27) rfl (by decide) ?_
  refine WpL.goff rfl rfl rfl (by decide) ?_
  refine WpL.goff rfl rfl rfl (by decide) ?_
  refine WpL.goff rfl rfl rfl (by decide) ?_
  refine WpL.goffU rfl rfl rfl ?_
  refine WpL.goffU rfl rfl rfl ?_
  refine WpL.goff rfl rfl rfl (by decide) ?_
  refine s_pickF rfl rfl rfl ?_
  refine s_as rfl rfl ?_
  refine WpL.nil ?_
  refine Wp.condF rfl ?_
  refine Wp.seq ?_
  refine Wp.region ?_
  refine s_mv rfl rfl ?_
  refine s_nc rfl rfl ?_
  refine s_fa (o2 := 7) rfl rfl rfl ?_
  refine s_ld rfl rfl (by rfl) ?_
  refine s_eq rfl rfl rfl ?_
  refine s_as rfl rfl ?_
  refine WpL.nil ?_
  refine Wp.condDF rfl (by decide) ?_
  refine Wp.seq ?_
  refine Wp.region ?_
  refine s_mv rfl rfl ?_
  refine s_nc rfl rfl ?_
  refine s_fa (o2 := 7) rfl rfl rfl ?_
  refine s_ld rfl rfl (by rfl) ?_
  refine s_eq rfl rfl rfl ?_
  refine s_as rfl rfl ?_
  refine WpL.nil ?_
  refine Wp.condDT rfl rfl ?_
  refine Wp.seq ?_
  refine Wp.seq ?_
  refine Wp.region ?_
  refine s_mv rfl rfl ?_
  refine s_callf rfl rfl (by repeat' constructor) (Blank_spec _ (by omega) (by omega)) ?_
  rintro _ _ ⟨rfl, rfl⟩
  simp only [napp]
  refine s_not rfl rfl ?_
  refine s_mv rfl rfl ?_
  refine WpL.knowT (dj := 59) rfl (by rw [hc]; rfl) ?_
  refine WpL.gon rfl rfl ?_
  refine s_mv rfl rfl ?_
  refine WpL.gon rfl rfl ?_
  refine s_ne rfl rfl rfl ?_
  refine s_pickT rfl rfl rfl ?_
  refine WpL.nil ?_
  refine Wp.condDF rfl (fun h => h hc2) ?_
  refine Wp.skip ?_
  refine Wp.seq ?_
  refine Wp.region ?_
  refine s_mv rfl rfl ?_
  refine s_mv rfl rfl ?_
  refine s_nc rfl rfl ?_
  refine s_fa (o2 := 4) rfl rfl rfl ?_
  refine s_ixar (i := 0) (o2 := 4) rfl rfl rfl rfl rfl ?_
  refine s_ld rfl rfl (by rfl) ?_
  refine s_callf rfl rfl (by repeat' constructor) (tkNew_spec l0) ?_
  rintro _ _ ⟨gt, rfl, rfl⟩
  simp only [napp]
  refine s_nc rfl rfl ?_
  refine s_fa (o2 := 9) rfl rfl rfl ?_
  refine s_st rfl rfl rfl ?_
  refine WpL.nil ?_
  refine Wp.region ?_
  refine s_mv rfl rfl ?_
  refine s_nc rfl rfl ?_
  refine s_fa (o2 := 9) rfl rfl rfl ?_
  refine s_ld rfl rfl (by rfl) ?_
  refine s_mv rfl rfl ?_
  refine s_callf rfl rfl (by repeat' constructor) (tkPut_spec gt l0 tk0 false (nxV gt 0) c (by unfold tkOk tk0; dsimp only; omega) rfl hc0 hc1 (by omega)) ?_
  rintro _ _ ⟨s', r, bg', nx', hs, rfl, hnx, rfl⟩
  simp only [napp]
  refine WpL.nil ?_
  refine Wp.seq ?_
  refine Wp.region ?_
  refine s_as rfl rfl ?_
  refine WpL.nil ?_
  refine Wp.ret ?_
  apply RetQ.mk
  · exact (Res.one rfl rfl)
  · exact ⟨gt, s', r, bg', nx', hs, rfl, hnx, rfl⟩
  · first | exact Ent.refl _ | exact Ent.nil _ | exact Take.ent' (by repeat' constructor) | (repeat (first | exact Ent.refl _ | refine Ent.drop ?_))

end Go.Proofs.YtggamdlpiejbiaaGreat
