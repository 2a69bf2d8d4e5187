/- Walks. -/
import Derived.Test.YtpoahaadnbdgcaaDrawG
import Derived.Test.YtpoahaadnbdgcaaRange
import Derived.Test.YtpoahaadnbdgcaaFacts
import Derived.Test.YtpoahaadnbdgcaaShelf
namespace Go.Proofs.Ytpoahaadnbdgcaa
open Go.RowKit Go.Shelf


def blankB (c : Int) : Bool := decide (c = 9 ∨ c = 10 ∨ c = 11 ∨ c = 12 ∨ c = 13 ∨ c = 32)
theorem blank_ix (c : Int) (h0 : 0 ≤ c) (h1 : c ≤ 255) : decide ((0 : Int) ≤ Lib.indexByte [9, 10, 11, 12, 13, 32] c.toNat.toUInt8) = blankB c := by
  obtain ⟨k, rfl⟩ := Int.eq_ofNat_of_zero_le h0
  have hk : k < 256 := by omega
  clear h0 h1
  revert k
  decide +kernel

theorem Blank_spec (c : Int) (h0 : 0 ≤ c) (h1 : c ≤ 255) : Fn Try.prog 60 #[.int .u8 c] [] (fun v l => v = .bool (blankB c) ∧ l = []) := by
  refine Fn.intro (vs := [.int .u8 c]) Try.func60 rfl Try.ntmps60 rfl ?_
  refine Wp.seq ?_
  refine Wp.region ?_
  refine s_as rfl rfl ?_
  refine WpL.nil ?_
  refine Wp.seq ?_
  refine Wp.region ?_
  refine s_mv rfl rfl ?_
  refine s_callf rfl rfl (by repeat' constructor) (Fn.of_same (Try.strings_IndexByte _ _)) ?_
  rintro _ _ ⟨rfl, rfl⟩
  simp only [napp]
  refine s_ge rfl rfl rfl ?_
  refine s_as rfl rfl ?_
  refine WpL.nil ?_
  refine Wp.ret ?_
  apply RetQ.mk
  · exact (Res.one rfl rfl)
  · exact ⟨congrArg Value.bool (blank_ix c h0 h1), rfl⟩
  · first | exact Ent.refl _ | exact Ent.nil _ | exact Take.ent' (by repeat' constructor) | (repeat (first | exact Ent.refl _ | refine Ent.drop ?_))

theorem Raw_spec (K W H M : Int) : Fn Try.prog 42 #[.agg #[.int .i64 K, .int .i64 W, .int .i64 H, .int .i64 M]] [] (fun v l => v = .bool (decide (4 ≤ K ∧ K ≤ 6)) ∧ l = []) := by
  refine Fn.intro (vs := [.agg #[.int .i64 K, .int .i64 W, .int .i64 H, .int .i64 M]]) Try.func42 rfl Try.ntmps42 rfl ?_
  refine Wp.seq ?_
  refine Wp.region ?_
  refine s_box rfl rfl rfl ?_
  intro g1
  refine s_as rfl rfl ?_
  refine WpL.nil ?_
  refine Wp.seq ?_
  refine Wp.region ?_
  refine s_fa (o2 := 0) rfl rfl rfl ?_
  refine s_ld rfl rfl (by rfl) ?_
  refine s_ge rfl rfl rfl ?_
  refine s_mv rfl rfl ?_
  refine WpL.grd rfl rfl rfl (fun hg1 => ?_) (fun hg1 => ?_)
  · have hg1 := of_decide_eq_true hg1
    refine s_fa (o2 := 0) rfl rfl rfl ?_
    refine WpL.gon rfl rfl ?_
    refine s_ld rfl rfl (by rfl) ?_
    refine WpL.gon rfl rfl ?_
    refine s_le rfl rfl rfl ?_
    refine s_pickT rfl rfl rfl ?_
    refine s_as rfl rfl ?_
    refine WpL.nil ?_
    refine Wp.ret ?_
    apply RetQ.mk
    · exact (Res.one rfl rfl)
    · exact ⟨congrArg Value.bool (by first | exact dd (by first | rfl | omega) | exact dt (by omega) | exact df (by omega)), rfl⟩
    · first | exact Ent.refl _ | exact Ent.nil _ | exact Take.ent' (by repeat' constructor) | (repeat (first | exact Ent.refl _ | refine Ent.drop ?_))
  · have hg1 := of_decide_eq_false hg1
    refine WpL.goff rfl rfl rfl (by decide) ?_
    refine WpL.goff rfl rfl rfl (by decide) ?_
    refine s_pickF rfl rfl rfl ?_
    refine s_as rfl rfl ?_
    refine WpL.nil ?_
    refine Wp.ret ?_
    apply RetQ.mk
    · exact (Res.one rfl rfl)
    · exact ⟨congrArg Value.bool (by first | exact dd (by first | rfl | omega) | exact dt (by omega) | exact df (by omega)), rfl⟩
    · first | exact Ent.refl _ | exact Ent.nil _ | exact Take.ent' (by repeat' constructor) | (repeat (first | exact Ent.refl _ | refine Ent.drop ?_))

theorem bits_spec (K W H M : Int) : Fn Try.prog 59 #[.agg #[.int .i64 K, .int .i64 W, .int .i64 H, .int .i64 M]] [] (fun v l => v = .bool (decide (K = 1 ∨ K = 4)) ∧ l = []) := by
  refine Fn.intro (vs := [.agg #[.int .i64 K, .int .i64 W, .int .i64 H, .int .i64 M]]) Try.func59 rfl Try.ntmps59 rfl ?_
  refine Wp.seq ?_
  refine Wp.region ?_
  refine s_box rfl rfl rfl ?_
  intro g1
  refine s_as rfl rfl ?_
  refine WpL.nil ?_
  refine Wp.seq ?_
  refine Wp.region ?_
  refine s_fa (o2 := 0) rfl rfl rfl ?_
  refine s_ld rfl rfl (by rfl) ?_
  refine s_eq rfl rfl rfl ?_
  refine s_mv rfl rfl ?_
  refine WpL.grd rfl rfl rfl (fun hg1 => ?_) (fun hg1 => ?_)
  · have hg1 := of_decide_eq_false hg1
    refine s_fa (o2 := 0) rfl rfl rfl ?_
    refine WpL.gon rfl rfl ?_
    refine s_ld rfl rfl (by rfl) ?_
    refine WpL.gon rfl rfl ?_
    refine s_eq rfl rfl rfl ?_
    refine s_pickF rfl rfl rfl ?_
    refine s_as rfl rfl ?_
    refine WpL.nil ?_
    refine Wp.ret ?_
    apply RetQ.mk
    · exact (Res.one rfl rfl)
    · exact ⟨congrArg Value.bool (by first | exact dd (by first | rfl | omega) | exact dt (by omega) | exact df (by omega)), rfl⟩
    · first | exact Ent.refl _ | exact Ent.nil _ | exact Take.ent' (by repeat' constructor) | (repeat (first | exact Ent.refl _ | refine Ent.drop ?_))
  · have hg1 := of_decide_eq_true hg1
    refine WpL.goff rfl rfl rfl (by decide) ?_
    refine WpL.goff rfl rfl rfl (by decide) ?_
    refine s_pickT rfl rfl rfl ?_
    refine s_as rfl rfl ?_
    refine WpL.nil ?_
    refine Wp.ret ?_
    apply RetQ.mk
    · exact (Res.one rfl rfl)
    · exact ⟨congrArg Value.bool (by first | exact dd (by first | rfl | omega) | exact dt (by omega) | exact df (by omega)), rfl⟩
    · first | exact Ent.refl _ | exact Ent.nil _ | exact Take.ent' (by repeat' constructor) | (repeat (first | exact Ent.refl _ | refine Ent.drop ?_))

theorem in_spec (x y : Int) : Fn Try.prog 58 #[.int .i64 x, .int .i64 y] [] (fun v l => v = .bool (decide (1 ≤ x ∧ x ≤ y)) ∧ l = []) := by
  refine Fn.intro (vs := [.int .i64 x, .int .i64 y]) Try.func58 rfl Try.ntmps58 rfl ?_
  refine Wp.seq ?_
  refine Wp.region ?_
  refine s_as rfl rfl ?_
  refine WpL.nil ?_
  refine Wp.seq ?_
  refine Wp.region ?_
  refine s_mv rfl rfl ?_
  refine s_ge rfl rfl rfl ?_
  refine s_mv rfl rfl ?_
  refine WpL.grd rfl rfl rfl (fun hg1 => ?_) (fun hg1 => ?_)
  · have hg1 := of_decide_eq_true hg1
    refine s_mv rfl rfl ?_
    refine WpL.gon rfl rfl ?_
    refine s_mv rfl rfl ?_
    refine WpL.gon rfl rfl ?_
    refine s_le rfl rfl rfl ?_
    refine s_pickT rfl rfl rfl ?_
    refine s_as rfl rfl ?_
    refine WpL.nil ?_
    refine Wp.ret ?_
    apply RetQ.mk
    · exact (Res.one rfl rfl)
    · exact ⟨congrArg Value.bool (by first | exact dd (by first | rfl | omega) | exact dt (by omega) | exact df (by omega)), rfl⟩
    · first | exact Ent.refl _ | exact Ent.nil _ | exact Take.ent' (by repeat' constructor) | (repeat (first | exact Ent.refl _ | refine Ent.drop ?_))
  · have hg1 := of_decide_eq_false hg1
    refine WpL.goff rfl rfl rfl (by decide) ?_
    refine WpL.goff rfl rfl rfl (by decide) ?_
    refine s_pickF rfl rfl rfl ?_
    refine s_as rfl rfl ?_
    refine WpL.nil ?_
    refine Wp.ret ?_
    apply RetQ.mk
    · exact (Res.one rfl rfl)
    · exact ⟨congrArg Value.bool (by first | exact dd (by first | rfl | omega) | exact dt (by omega) | exact df (by omega)), rfl⟩
    · first | exact Ent.refl _ | exact Ent.nil _ | exact Take.ent' (by repeat' constructor) | (repeat (first | exact Ent.refl _ | refine Ent.drop ?_))

def MayH (K W H M : Int) : Prop := (1 ≤ K ∧ K ≤ 6) ∧ (1 ≤ W ∧ W ≤ 4096) ∧ (1 ≤ H ∧ H ≤ 65536) ∧ (1 ≤ M ∧ M ≤ 65535) ∧ ((K = 1 ∨ K = 4) → M = 1)
instance (K W H M : Int) : Decidable (MayH K W H M) := by unfold MayH; infer_instance

theorem May_spec (K W H M : Int) : Fn Try.prog 41 #[.agg #[.int .i64 K, .int .i64 W, .int .i64 H, .int .i64 M]] [] (fun v l => v = .bool (decide (MayH K W H M)) ∧ l = []) := by
  refine Fn.intro (vs := [.agg #[.int .i64 K, .int .i64 W, .int .i64 H, .int .i64 M]]) Try.func41 rfl Try.ntmps41 rfl ?_
  refine Wp.seq ?_
  refine Wp.region ?_
  refine s_box rfl rfl rfl ?_
  intro g1
  refine s_as rfl rfl ?_
  refine WpL.nil ?_
  refine Wp.seq ?_
  refine Wp.region ?_
  refine s_as rfl rfl ?_
  refine WpL.nil ?_
  refine Wp.seq ?_
  refine Wp.region ?_
  refine s_mv rfl rfl ?_
  refine s_fa (o2 := 0) rfl rfl rfl ?_
  refine s_ld rfl rfl (by rfl) ?_
  refine s_call (u := []) (c := []) rfl rfl rfl rfl (by repeat' constructor) (in_spec _ _) ?_
  rintro _ _ ⟨rfl, rfl⟩
  simp only [napp]
  refine s_mv rfl rfl ?_
  refine WpL.grd rfl rfl rfl (fun hg1 => ?_) (fun hg1 => ?_)
  · have hg1 := of_decide_eq_true hg1
    refine s_mv rfl rfl ?_
    refine WpL.gon rfl rfl ?_
    refine s_fa (o2 := 1) rfl rfl rfl ?_
    refine WpL.gon rfl rfl ?_
    refine s_ld rfl rfl (by rfl) ?_
    refine WpL.gon rfl rfl ?_
    refine s_call (u := []) (c := []) rfl rfl rfl rfl (by repeat' constructor) (in_spec _ _) ?_
    rintro _ _ ⟨rfl, rfl⟩
    simp only [napp]
    refine s_pickT rfl rfl rfl ?_
    refine s_mv rfl rfl ?_
    refine WpL.grd rfl rfl rfl (fun hg2 => ?_) (fun hg2 => ?_)
    · have hg2 := of_decide_eq_true hg2
      refine s_mv rfl rfl ?_
      refine WpL.gon rfl rfl ?_
      refine s_fa (o2 := 2) rfl rfl rfl ?_
      refine WpL.gon rfl rfl ?_
      refine s_ld rfl rfl (by rfl) ?_
      refine WpL.gon rfl rfl ?_
      refine s_call (u := []) (c := []) rfl rfl rfl rfl (by repeat' constructor) (in_spec _ _) ?_
      rintro _ _ ⟨rfl, rfl⟩
      simp only [napp]
      refine s_pickT rfl rfl rfl ?_
      refine s_mv rfl rfl ?_
      refine WpL.grd rfl rfl rfl (fun hg3 => ?_) (fun hg3 => ?_)
      · have hg3 := of_decide_eq_true hg3
        refine s_mv rfl rfl ?_
        refine WpL.gon rfl rfl ?_
        refine s_fa (o2 := 3) rfl rfl rfl ?_
        refine WpL.gon rfl rfl ?_
        refine s_ld rfl rfl (by rfl) ?_
        refine WpL.gon rfl rfl ?_
        refine s_call (u := []) (c := []) rfl rfl rfl rfl (by repeat' constructor) (in_spec _ _) ?_
        rintro _ _ ⟨rfl, rfl⟩
        simp only [napp]
        refine s_pickT rfl rfl rfl ?_
        refine s_mv rfl rfl ?_
        refine WpL.grd rfl rfl rfl (fun hg4 => ?_) (fun hg4 => ?_)
        · have hg4 := of_decide_eq_true hg4
          refine s_lda (vs := [_, _, _, _]) rfl rfl rfl (by rfl) ?_
          refine WpL.gon rfl rfl ?_
          refine s_callf rfl rfl (by repeat' constructor) (bits_spec _ _ _ _) ?_
          rintro _ _ ⟨rfl, rfl⟩
          simp only [napp]
          refine WpL.gon rfl rfl ?_
          refine s_notD rfl rfl ?_
          refine WpL.gon rfl rfl ?_
          refine s_mv rfl rfl ?_
          refine WpL.grd rfl rfl rfl (fun hg5 => ?_) (fun hg5 => ?_)
          · have hg5 := of_decide_eq_false hg5
            refine s_fa (o2 := 3) rfl rfl rfl ?_
            refine WpL.gon rfl rfl ?_
            refine s_ld rfl rfl (by rfl) ?_
            refine WpL.gon rfl rfl ?_
            refine s_eq rfl rfl rfl ?_
            refine WpL.gon rfl rfl ?_
            refine s_pickF rfl rfl rfl ?_
            refine s_pickT rfl rfl rfl ?_
            refine s_as rfl rfl ?_
            refine WpL.nil ?_
            refine Wp.ret ?_
            apply RetQ.mk
            · exact (Res.one rfl rfl)
            · exact ⟨congrArg Value.bool (by first | exact dd (by unfold MayH; first | rfl | omega) | exact dt (by unfold MayH; omega) | exact df (by unfold MayH; omega)), rfl⟩
            · first | exact Ent.refl _ | exact Ent.nil _ | exact Take.ent' (by repeat' constructor) | (repeat (first | exact Ent.refl _ | refine Ent.drop ?_))
          · have hg5 := of_decide_eq_true hg5
            refine WpL.goff rfl rfl rfl (by decide) ?_
            refine WpL.goff rfl rfl rfl (by decide) ?_
            refine WpL.gon rfl rfl ?_
            refine s_pickT rfl rfl rfl ?_
            refine s_pickT rfl rfl rfl ?_
            refine s_as rfl rfl ?_
            refine WpL.nil ?_
            refine Wp.ret ?_
            apply RetQ.mk
            · exact (Res.one rfl rfl)
            · exact ⟨congrArg Value.bool (by first | exact dd (by unfold MayH; first | rfl | omega) | exact dt (by unfold MayH; omega) | exact df (by unfold MayH; omega)), rfl⟩
            · first | exact Ent.refl _ | exact Ent.nil _ | exact Take.ent' (by repeat' constructor) | (repeat (first | exact Ent.refl _ | refine Ent.drop ?_))
        · have hg4 := of_decide_eq_false hg4
          refine WpL.goff rfl rfl rfl (by decide) ?_
          refine WpL.goff rfl rfl rfl (by decide) ?_
          refine WpL.goff rfl rfl rfl (by decide) ?_
          refine WpL.goffU rfl rfl rfl ?_
          refine WpL.goffU rfl rfl rfl ?_
          refine WpL.goffU rfl rfl rfl ?_
          refine WpL.goff rfl rfl rfl (by decide) ?_
          refine s_pickF rfl rfl rfl ?_
          refine s_as rfl rfl ?_
          refine WpL.nil ?_
          refine Wp.ret ?_
          apply RetQ.mk
          · exact (Res.one rfl rfl)
          · exact ⟨congrArg Value.bool (by first | exact dd (by unfold MayH; first | rfl | omega) | exact dt (by unfold MayH; omega) | exact df (by unfold MayH; omega)), rfl⟩
          · first | exact Ent.refl _ | exact Ent.nil _ | exact Take.ent' (by repeat' constructor) | (repeat (first | exact Ent.refl _ | refine Ent.drop ?_))
      · have hg3 := of_decide_eq_false hg3
        refine WpL.goff rfl rfl rfl (by decide) ?_
        refine WpL.goff rfl rfl rfl (by decide) ?_
        refine WpL.goff rfl rfl rfl (by decide) ?_
        refine s_pickF rfl rfl rfl ?_
        refine s_mv rfl rfl ?_
        refine WpL.goff rfl rfl rfl (by decide) ?_
        refine WpL.goff rfl rfl rfl (by decide) ?_
        refine WpL.goff rfl rfl rfl (by decide) ?_
        refine WpL.goff rfl rfl rfl (by decide) ?_
        refine WpL.goffU rfl rfl rfl ?_
        refine WpL.goffU rfl rfl rfl ?_
        refine WpL.goffU rfl rfl rfl ?_
        refine WpL.goff rfl rfl rfl (by decide) ?_
        refine s_pickF rfl rfl rfl ?_
        refine s_as rfl rfl ?_
        refine WpL.nil ?_
        refine Wp.ret ?_
        apply RetQ.mk
        · exact (Res.one rfl rfl)
        · exact ⟨congrArg Value.bool (by first | exact dd (by unfold MayH; first | rfl | omega) | exact dt (by unfold MayH; omega) | exact df (by unfold MayH; omega)), rfl⟩
        · first | exact Ent.refl _ | exact Ent.nil _ | exact Take.ent' (by repeat' constructor) | (repeat (first | exact Ent.refl _ | refine Ent.drop ?_))
    · have hg2 := of_decide_eq_false hg2
      refine WpL.goff rfl rfl rfl (by decide) ?_
      refine WpL.goff rfl rfl rfl (by decide) ?_
      refine WpL.goff rfl rfl rfl (by decide) ?_
      refine s_pickF rfl rfl rfl ?_
      refine s_mv rfl rfl ?_
      refine WpL.goff rfl rfl rfl (by decide) ?_
      refine WpL.goff rfl rfl rfl (by decide) ?_
      refine WpL.goff rfl rfl rfl (by decide) ?_
      refine WpL.goff rfl rfl rfl (by decide) ?_
      refine s_pickF rfl rfl rfl ?_
      refine s_mv rfl rfl ?_
      refine WpL.goff rfl rfl rfl (by decide) ?_
      refine WpL.goff rfl rfl rfl (by decide) ?_
      refine WpL.goff rfl rfl rfl (by decide) ?_
      refine WpL.goff rfl rfl rfl (by decide) ?_
      refine WpL.goffU rfl rfl rfl ?_
      refine WpL.goffU rfl rfl rfl ?_
      refine WpL.goffU rfl rfl rfl ?_
      refine WpL.goff rfl rfl rfl (by decide) ?_
      refine s_pickF rfl rfl rfl ?_
      refine s_as rfl rfl ?_
      refine WpL.nil ?_
      refine Wp.ret ?_
      apply RetQ.mk
      · exact (Res.one rfl rfl)
      · exact ⟨congrArg Value.bool (by first | exact dd (by unfold MayH; first | rfl | omega) | exact dt (by unfold MayH; omega) | exact df (by unfold MayH; omega)), rfl⟩
      · first | exact Ent.refl _ | exact Ent.nil _ | exact Take.ent' (by repeat' constructor) | (repeat (first | exact Ent.refl _ | refine Ent.drop ?_))
  · have hg1 := of_decide_eq_false hg1
    refine WpL.goff rfl rfl rfl (by decide) ?_
    refine WpL.goff rfl rfl rfl (by decide) ?_
    refine WpL.goff rfl rfl rfl (by decide) ?_
    refine s_pickF rfl rfl rfl ?_
    refine s_mv rfl rfl ?_
    refine WpL.goff rfl rfl rfl (by decide) ?_
    refine WpL.goff rfl rfl rfl (by decide) ?_
    refine WpL.goff rfl rfl rfl (by decide) ?_
    refine WpL.goff rfl rfl rfl (by decide) ?_
    refine s_pickF rfl rfl rfl ?_
    refine s_mv rfl rfl ?_
    refine WpL.goff rfl rfl rfl (by decide) ?_
    refine WpL.goff rfl rfl rfl (by decide) ?_
    refine WpL.goff rfl rfl rfl (by decide) ?_
    refine WpL.goff rfl rfl rfl (by decide) ?_
    refine s_pickF rfl rfl rfl ?_
    refine s_mv rfl rfl ?_
    refine WpL.goff rfl rfl rfl (by decide) ?_
    refine WpL.goff rfl rfl rfl (by decide) ?_
    refine WpL.goff rfl rfl rfl (by decide) ?_
    refine WpL.goff rfl rfl rfl (by decide) ?_
    refine WpL.goffU rfl rfl rfl ?_
    refine WpL.goffU rfl rfl rfl ?_
    refine WpL.goffU rfl rfl rfl ?_
    refine WpL.goff rfl rfl rfl (by decide) ?_
    refine s_pickF rfl rfl rfl ?_
    refine s_as rfl rfl ?_
    refine WpL.nil ?_
    refine Wp.ret ?_
    apply RetQ.mk
    · exact (Res.one rfl rfl)
    · exact ⟨congrArg Value.bool (by first | exact dd (by unfold MayH; first | rfl | omega) | exact dt (by unfold MayH; omega) | exact df (by unfold MayH; omega)), rfl⟩
    · first | exact Ent.refl _ | exact Ent.nil _ | exact Take.ent' (by repeat' constructor) | (repeat (first | exact Ent.refl _ | refine Ent.drop ?_))

theorem Format_spec (K W H M : Int) (hK : 0 ≤ K) : Fn Try.prog 15 #[.agg #[.int .i64 K, .int .i64 W, .int .i64 H, .int .i64 M]] [] (fun v l => v = .agg #[.int .i64 (if K % 3 = 0 then 3 else 1), .int .i64 M] ∧ l = []) := by
  refine Fn.intro (vs := [.agg #[.int .i64 K, .int .i64 W, .int .i64 H, .int .i64 M]]) Try.func15 rfl Try.ntmps15 rfl ?_
  refine Wp.seq ?_
  refine Wp.region ?_
  refine s_box rfl rfl rfl ?_
  intro g1
  refine s_al rfl ?_
  intro g2
  refine WpL.nil ?_
  refine Wp.seq ?_
  refine Wp.seq ?_
  refine Wp.region ?_
  refine s_fa (o2 := 0) rfl rfl rfl ?_
  refine s_ld rfl rfl (by rfl) ?_
  refine s_rem rfl rfl rfl (by omega) (by omega) ?_
  refine s_eq rfl rfl rfl ?_
  refine WpL.nil ?_
  refine Wp.condD rfl (fun h0 => ?_) (fun h0 => ?_)
  · refine Wp.seq ?_
    refine Wp.region ?_
    refine s_fa (o2 := 3) rfl rfl rfl ?_
    refine s_ld rfl rfl (by rfl) ?_
    refine s_bd rfl rfl ?_
    refine s_sta rfl rfl rfl (by rfl) rfl ?_
    refine WpL.nil ?_
    refine Wp.ret ?_
    apply RetQ.mk
    · exact (RetQ.cell rfl rfl (by rfl))
    · exact ⟨by first | rw [if_pos (by assumption)] | rw [if_neg (by assumption)], rfl⟩
    · first | exact Ent.refl _ | exact Ent.nil _ | exact Take.ent' (by repeat' constructor) | (repeat (first | exact Ent.refl _ | refine Ent.drop ?_))
  · refine Wp.skip ?_
    refine Wp.seq ?_
    refine Wp.region ?_
    refine s_fa (o2 := 3) rfl rfl rfl ?_
    refine s_ld rfl rfl (by rfl) ?_
    refine s_bd rfl rfl ?_
    refine s_sta rfl rfl rfl (by rfl) rfl ?_
    refine WpL.nil ?_
    refine Wp.ret ?_
    apply RetQ.mk
    · exact (RetQ.cell rfl rfl (by rfl))
    · exact ⟨by first | rw [if_pos (by assumption)] | rw [if_neg (by assumption)], rfl⟩
    · first | exact Ent.refl _ | exact Ent.nil _ | exact Take.ent' (by repeat' constructor) | (repeat (first | exact Ent.refl _ | refine Ent.drop ?_))

end Go.Proofs.Ytpoahaadnbdgcaa
