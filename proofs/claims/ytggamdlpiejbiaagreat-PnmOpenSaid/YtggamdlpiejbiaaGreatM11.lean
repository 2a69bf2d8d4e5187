/- Walks and plain laws, a part of the proof of PnmOpen: every input that the law's guards let in, no condition beside. -/
import Derived.Test.YtggamdlpiejbiaaGreatM10
namespace Go.Proofs.YtggamdlpiejbiaaGreat
open Go.RowKit Go.Shelf


theorem tkPut_alt (g : Nat) (most : Int) (s : TS) (bg : Bool) (nx : Value) (c : Int) (hok : tkOk most s) (hnx : nx = nxV g s.ph) (hc0 : 0 ≤ c) (hc1 : c ≤ 255) (hm1 : most ≤ 1000000) :
    Fn Tryz.prog 192 #[.pointer (some ⟨g, 0, none⟩), .int .u8 c] [blk g [nx, .int .i64 most, .int .i64 s.n, .bool bg, .int .i64 0, .int .i64 s.e] 265] (fun v l => (∃ s' bg', tkPut most s c = (s', 0) ∧ tkOk most s' ∧ v = .int .i64 0 ∧ l = [blk g [nxV g s'.ph, .int .i64 most, .int .i64 s'.n, .bool bg', .int .i64 0, .int .i64 s'.e] 265]) ∨
      (∃ n' bg' nx', tkPut most s c = (⟨4, n', 0⟩, 1) ∧ 0 ≤ n' ∧ n' ≤ most ∧ v = .int .i64 1 ∧ l = [blk g [nx', .int .i64 most, .int .i64 n', .bool bg', .int .i64 1, .int .i64 0] 265]) ∨ (∃ e' bg' nx', tkPut most s c = (⟨5, 0, e'⟩, 2) ∧ (e' = 3 ∨ e' = 4) ∧ v = .int .i64 2 ∧ l = [blk g [nx', .int .i64 most, .int .i64 0, .bool bg', .int .i64 2, .int .i64 e'] 265])) := by
  refine (tkPut_spec g most s bg nx c hok hnx hc0 hc1 hm1).mono fun v l h => ?_
  obtain ⟨s', r, bg', nx', hs, rfl, hn, rfl⟩ := h
  have hcs := tkPut_cases (c := c) hok
  rw [← hs] at hcs
  dsimp only at hcs
  rcases hcs with ⟨rfl, ho⟩ | ⟨rfl, h1, h2, h3, h4⟩ | ⟨rfl, h1, h2, h3⟩
  · obtain rfl := hn rfl
    exact ⟨_, .inl ⟨s', bg', hs.symm, ho, rfl, rfl⟩, Ent.refl _⟩
  · obtain ⟨ph, n, e⟩ := s'
    dsimp only at h1 h2 h3 h4
    subst h1; subst h2
    exact ⟨_, .inr (.inl ⟨n, bg', nx', hs.symm, h3, h4, rfl, rfl⟩), Ent.refl _⟩
  · obtain ⟨ph, n, e⟩ := s'
    dsimp only at h1 h2 h3
    subst h1; subst h2
    exact ⟨_, .inr (.inr ⟨e, bg', nx', hs.symm, h3, rfl, rfl⟩), Ent.refl _⟩

set_option maxHeartbeats 1000000 in
theorem hdNum_0 (g gt : Nat) (K W H M l0 l1 l2 at_ la e : Int) (s : TS) (bg : Bool) (nx : Value) (c : Int) (hc0 : 0 ≤ c) (hc1 : c ≤ 255) (hl : (1 ≤ l0 ∧ l0 ≤ 4096) ∧ (1 ≤ l1 ∧ l1 ≤ 65536) ∧ (1 ≤ l2 ∧ l2 ≤ 65535)) (hnx : nx = nxV gt s.ph) (hok : tkOk l0 s)  : Fn Tryz.prog 166 #[.pointer (some ⟨g, 0, none⟩), .int .u8 c] [blk g [.int .i64 K, .int .i64 W, .int .i64 H, .int .i64 M, .int .i64 l0, .int .i64 l1, .int .i64 l2, .int .i64 at_, .int .i64 0, .pointer (some ⟨gt, 0, none⟩), .int .i64 la, .int .i64 e] 234, blk gt [nx, .int .i64 l0, .int .i64 s.n, .bool bg, .int .i64 0, .int .i64 s.e] 265] (fun v l => (∃ s' bg', tkPut l0 s c = (s', 0) ∧ tkOk l0 s' ∧ v = .int .i64 0 ∧ l = [blk g [.int .i64 K, .int .i64 W, .int .i64 H, .int .i64 M, .int .i64 l0, .int .i64 l1, .int .i64 l2, .int .i64 at_, .int .i64 0, .pointer (some ⟨gt, 0, none⟩), .int .i64 la, .int .i64 e] 234, blk gt [nxV gt s'.ph, .int .i64 l0, .int .i64 s'.n, .bool bg', .int .i64 0, .int .i64 s'.e] 265]) ∨ (∃ e' bg' nx', tkPut l0 s c = (⟨5, 0, e'⟩, 2) ∧ v = .int .i64 2 ∧ l = [blk g [.int .i64 K, .int .i64 W, .int .i64 H, .int .i64 M, .int .i64 l0, .int .i64 l1, .int .i64 l2, .int .i64 at_, .int .i64 0, .pointer (some ⟨gt, 0, none⟩), .int .i64 la, .int .i64 e'] 234, blk gt [nx', .int .i64 l0, .int .i64 0, .bool bg', .int .i64 2, .int .i64 e'] 265]) ∨ (∃ bg' nx', tkPut l0 s c = (⟨4, 0, 0⟩, 1) ∧ v = .int .i64 2 ∧ l = [blk g [.int .i64 K, .int .i64 W, .int .i64 H, .int .i64 M, .int .i64 l0, .int .i64 l1, .int .i64 l2, .int .i64 at_, .int .i64 0, .pointer (some ⟨gt, 0, none⟩), .int .i64 la, .int .i64 4] 234, blk gt [nx', .int .i64 l0, .int .i64 0, .bool bg', .int .i64 1, .int .i64 0] 265]) ∨ (∃ n', tkPut l0 s c = (⟨4, n', 0⟩, 1) ∧ 0 < n' ∧ n' ≤ l0 ∧ v = .int .i64 0 ∧ ∃ gt2, l = [blk g [.int .i64 K, .int .i64 n', .int .i64 H, .int .i64 M, .int .i64 l0, .int .i64 l1, .int .i64 l2, .int .i64 at_, .int .i64 1, .pointer (some ⟨gt2, 0, none⟩), .int .i64 la, .int .i64 e] 234, blk gt2 [nxV gt2 0, .int .i64 l1, .int .i64 0, .bool false, .int .i64 0, .int .i64 9] 265])) := by
  refine Fn.intro (vs := [.pointer (some ⟨g, 0, none⟩), .int .u8 c]) Tryz.func166 rfl Tryz.ntmps166 rfl ?_
  refine Wp.seq ?_
  refine Wp.region ?_
  refine s_as rfl rfl ?_
  refine WpL.nil ?_
  refine Wp.seq ?_
  refine Wp.region ?_
  refine s_mv rfl rfl ?_
  refine s_nc rfl rfl ?_
  refine s_fa (o2 := 9) rfl rfl rfl ?_
  refine s_ld rfl rfl (by rfl) ?_
  refine s_mv rfl rfl ?_
  refine s_callf rfl rfl (by repeat' constructor) (tkPut_alt gt l0 s bg nx c hok hnx hc0 hc1 (by omega)) ?_
  intro v0 m0 hN0
  rcases hN0 with ⟨s', bg', hT, hok', rfl, rfl⟩ | ⟨n', bg', nx', hT, hn0, hn1, rfl, rfl⟩ | ⟨e', bg', nx', hT, he, rfl, rfl⟩
  · simp only [napp]
    refine s_as rfl rfl ?_
    refine WpL.nil ?_
    refine Wp.seq ?_
    refine Wp.seq ?_
    refine Wp.region ?_
    refine s_mv rfl rfl ?_
    refine s_eq rfl rfl rfl ?_
    refine WpL.nil ?_
    refine Wp.condDT rfl rfl ?_
    refine Wp.seq ?_
    refine Wp.region ?_
    refine s_mv rfl rfl ?_
    refine s_as rfl rfl ?_
    refine WpL.nil ?_
    refine Wp.ret ?_
    apply RetQ.mk
    · exact (Res.one rfl rfl)
    · exact .inl ⟨s', bg', hT, hok', rfl, rfl⟩
    · first | exact Ent.refl _ | exact Ent.nil _ | exact Take.ent' (by repeat' constructor) | (repeat (first | exact Ent.refl _ | refine Ent.drop ?_))
  · simp only [napp]
    refine s_as rfl rfl ?_
    refine WpL.nil ?_
    refine Wp.seq ?_
    refine Wp.seq ?_
    refine Wp.region ?_
    refine s_mv rfl rfl ?_
    refine s_eq rfl rfl rfl ?_
    refine WpL.nil ?_
    refine Wp.condDF rfl (by decide) ?_
    refine Wp.skip ?_
    refine Wp.seq ?_
    refine Wp.region ?_
    refine s_mv rfl rfl ?_
    refine s_nc rfl rfl ?_
    refine s_fa (o2 := 9) rfl rfl rfl ?_
    refine s_ld rfl rfl (by rfl) ?_
    refine s_callf rfl rfl (by repeat' constructor) (tkValue_spec gt _ _ _ _ _ _) ?_
    rintro _ _ ⟨rfl, rfl⟩
    simp only [napp]
    first | simp only [if_true] | simp only [if_false] | rw [if_pos rfl, if_pos rfl] | rw [if_neg (by decide), if_neg (by decide)]
    refine s_mv rfl rfl ?_
    refine s_ext rfl rfl rfl ?_
    refine s_ext rfl rfl rfl ?_
    refine s_as rfl rfl ?_
    refine s_as rfl rfl ?_
    refine WpL.nil ?_
    refine Wp.seq ?_
    refine Wp.block ?_
    refine Wp.seq ?_
    refine Wp.region ?_
    refine s_mv rfl rfl ?_
    refine s_ne rfl rfl rfl ?_
    refine s_as rfl rfl ?_
    refine WpL.nil ?_
    refine Wp.condDF rfl (by decide) ?_
    refine Wp.seq ?_
    refine Wp.region ?_
    refine s_mv rfl rfl ?_
    refine s_eq rfl rfl rfl ?_
    refine s_as rfl rfl ?_
    refine WpL.nil ?_
    refine Wp.condD rfl (fun hz => ?_) (fun hz => ?_)
    · subst hz
      refine Wp.seq ?_
      refine Wp.region ?_
      refine s_mv rfl rfl ?_
      refine s_callf rfl rfl (by repeat' constructor) (hdWrong_spec _ _ _ _ _ _ _ _ _ _ _ _ _ _) ?_
      rintro _ _ ⟨rfl, rfl⟩
      simp only [napp]
      refine s_as rfl rfl ?_
      refine WpL.nil ?_
      refine Wp.ret ?_
      apply RetQ.mk
      · exact (Res.one rfl rfl)
      · exact .inr (.inr (.inl ⟨bg', nx', hT, rfl, rfl⟩))
      · first | exact Ent.refl _ | exact Ent.nil _ | exact Take.ent' (by repeat' constructor) | (repeat (first | exact Ent.refl _ | refine Ent.drop ?_))
    · refine Wp.skip ?_
      refine Wp.seq ?_
      apply Wp.drawP (fB := [blk g [.int .i64 K, .int .i64 W, .int .i64 H, .int .i64 M, .int .i64 l0, .int .i64 l1, .int .i64 l2, .int .i64 at_, .int .i64 0, .pointer (some ⟨gt, 0, none⟩), .int .i64 la, .int .i64 e] 234]) [0, 1, 2, 3, 4, 5, 6, 7, 8, 9, 10, 11, 13, 14, 15, 16, 19, 12, 17, 18, 20, 21] [36, 37, 38, 39, 40, 41, 42, 43, 44, 45, 46, 47, 49, 50, 51, 52, 55, 48, 53, 54, 56] 22 mixed (by kernel_rfl) [(17, false), (3, false)] (by kernel_rfl) (by kernel_rfl) (by kernel_rfl)
      apply GoR.segFP [⟨0, 36, _, [], false⟩, ⟨1, 37, _, [0], false⟩, ⟨2, 38, _, [1], false⟩, ⟨3, 39, _, [2], false⟩, ⟨4, 40, _, [], false⟩, ⟨5, 41, _, [4], false⟩, ⟨6, 42, _, [5], false⟩, ⟨7, 43, _, [6], false⟩, ⟨8, 44, _, [], false⟩, ⟨9, 45, _, [8], false⟩, ⟨10, 46, _, [9], false⟩, ⟨11, 47, _, [10], false⟩, ⟨12, 49, _, [], true⟩, ⟨13, 50, _, [12], true⟩, ⟨14, 51, _, [13], true⟩, ⟨15, 52, _, [14], true⟩, ⟨16, 55, _, [], true⟩] [] [0, 1, 2, 3, 4, 5, 6, 7, 8, 9, 10, 11] [53, 54, 56] [53, 54, 56, 49, 50, 51, 52, 55] (.inl ⟨_, by repeat' constructor⟩) rfl rfl rfl (by kernel_rfl) rfl (by kernel_rfl) rfl rfl
      · refine AllF.consP 0 [] rfl rfl rfl rfl (by kernel_rfl) rfl ?_ ?_
        · refine s_mv rfl rfl ?_
          exact obN rfl
        refine AllF.consP 1 [0] rfl rfl rfl rfl (by kernel_rfl) rfl ?_ ?_
        · refine s_nc rfl rfl ?_
          exact obN rfl
        refine AllF.consP 2 [1] rfl rfl rfl rfl (by kernel_rfl) rfl ?_ ?_
        · refine s_fa (o2 := 0) rfl rfl rfl ?_
          exact obN rfl
        refine AllF.consP 3 [2] rfl rfl rfl rfl (by kernel_rfl) rfl ?_ ?_
        · refine s_fa (o2 := 1) rfl rfl rfl ?_
          exact obN rfl
        refine AllF.consP 4 [] rfl rfl rfl rfl (by kernel_rfl) rfl ?_ ?_
        · refine s_mv rfl rfl ?_
          exact obN rfl
        refine AllF.consP 5 [4] rfl rfl rfl rfl (by kernel_rfl) rfl ?_ ?_
        · refine s_nc rfl rfl ?_
          exact obN rfl
        refine AllF.consP 6 [5] rfl rfl rfl rfl (by kernel_rfl) rfl ?_ ?_
        · refine s_fa (o2 := 0) rfl rfl rfl ?_
          exact obN rfl
        refine AllF.consP 7 [6] rfl rfl rfl rfl (by kernel_rfl) rfl ?_ ?_
        · refine s_fa (o2 := 2) rfl rfl rfl ?_
          exact obN rfl
        refine AllF.consP 8 [] rfl rfl rfl rfl (by kernel_rfl) rfl ?_ ?_
        · refine s_mv rfl rfl ?_
          exact obN rfl
        refine AllF.consP 9 [8] rfl rfl rfl rfl (by kernel_rfl) rfl ?_ ?_
        · refine s_nc rfl rfl ?_
          exact obN rfl
        refine AllF.consP 10 [9] rfl rfl rfl rfl (by kernel_rfl) rfl ?_ ?_
        · refine s_fa (o2 := 0) rfl rfl rfl ?_
          exact obN rfl
        refine AllF.consP 11 [10] rfl rfl rfl rfl (by kernel_rfl) rfl ?_ ?_
        · refine s_fa (o2 := 3) rfl rfl rfl ?_
          exact obN rfl
        refine AllF.consPR 12 [] rfl rfl rfl rfl (by kernel_rfl) rfl ?_ ?_
        · refine s_mv rfl rfl ?_
          exact obN rfl
        refine AllF.consPR 13 [12] rfl rfl rfl rfl (by kernel_rfl) rfl ?_ ?_
        · refine s_nc rfl rfl ?_
          exact obN rfl
        refine AllF.consPR 14 [13] rfl rfl rfl rfl (by kernel_rfl) rfl ?_ ?_
        · refine s_fa (o2 := 8) rfl rfl rfl ?_
          exact obN rfl
        refine AllF.consPR 15 [14] rfl rfl rfl rfl (by kernel_rfl) rfl ?_ ?_
        · refine s_ld rfl rfl (by rfl) ?_
          exact obN rfl
        refine AllF.consPR 16 [] rfl rfl rfl rfl (by kernel_rfl) rfl ?_ ?_
        · refine s_mv rfl rfl ?_
          exact obN rfl
        exact AllF.nil
      · refine s_bs3 rfl rfl rfl rfl rfl rfl rfl rfl ?_
        intro g1
        refine WpL.nil ⟨rfl, rfl, ?_⟩
        apply GoR.segFP [⟨18, 53, _, [15, 17], false⟩, ⟨19, 54, _, [18], false⟩, ⟨20, 56, _, [0, 1, 2, 3, 4, 5, 6, 7, 8, 9, 10, 11, 12, 13, 14, 15, 16, 17, 18, 19], false⟩] [12, 13, 14, 15, 16] [12, 13, 14, 15, 16, 18, 19, 20] [] [] (.inl ⟨_, by repeat' constructor⟩) rfl rfl rfl (by kernel_rfl) rfl (by kernel_rfl) rfl rfl
        · refine AllF.consP 18 [15, 17] rfl rfl rfl rfl (by kernel_rfl) rfl ?_ ?_
          · refine s_ixa 0 rfl rfl rfl (RdsL.blk (cs := [.pointer (some ⟨g, 1, none⟩), .pointer (some ⟨g, 2, none⟩), .pointer (some ⟨g, 3, none⟩)]) (xs := [.pointer (some ⟨g, 1, none⟩), .pointer (some ⟨g, 2, none⟩), .pointer (some ⟨g, 3, none⟩)]) (by rfl)) (by first | exact Take.ent' (by repeat' constructor) | (repeat (first | exact Ent.refl _ | refine Ent.drop ?_))) rfl (by decide) (by exact (by decide : 0 < 3)) ?_
            exact obN rfl
          refine AllF.consP 19 [18] rfl rfl rfl rfl (by kernel_rfl) rfl ?_ ?_
          · refine s_ldx rfl rfl (RdsL.blk (cs := [.pointer (some ⟨g, 1, none⟩), .pointer (some ⟨g, 2, none⟩), .pointer (some ⟨g, 3, none⟩)]) (xs := [.pointer (some ⟨g, 1, none⟩), .pointer (some ⟨g, 2, none⟩), .pointer (some ⟨g, 3, none⟩)]) (by rfl)) (by first | exact Take.ent' (by repeat' constructor) | (repeat (first | exact Ent.refl _ | refine Ent.drop ?_))) (rfl) ?_
            exact obN rfl
          refine AllF.consP 20 [0, 1, 2, 3, 4, 5, 6, 7, 8, 9, 10, 11, 12, 13, 14, 15, 16, 17, 18, 19] rfl rfl rfl rfl (by kernel_rfl) rfl ?_ ?_
          · refine s_nc rfl rfl ?_
            exact obN rfl
          exact AllF.nil
        · refine s_st rfl rfl rfl ?_
          refine WpL.nil ⟨rfl, rfl, ?_⟩
          apply GoR.nilP [] 22 (by kernel_rfl) (.inr rfl) rfl rfl
          · exact AllF.nil
          · refine Wp.slots (gr := [(0, _)]) (FrLe.cons rfl FrLe.nil) ?_
            refine Wp.seq ?_
            refine Wp.region ?_
            refine s_mv rfl rfl ?_
            refine s_nc rfl rfl ?_
            refine s_fa (o2 := 8) rfl rfl rfl ?_
            refine s_ld rfl rfl (by rfl) ?_
            refine s_add rfl rfl rfl (w_i64 (by omega) (by omega)) ?_
            rw [show (0 : Int) + 1 = 1 from rfl]
            refine s_nc rfl rfl ?_
            refine s_fa (o2 := 8) rfl rfl rfl ?_
            refine s_st rfl rfl rfl ?_
            refine WpL.nil ?_
            refine Wp.seq ?_
            refine Wp.seq ?_
            refine Wp.region ?_
            refine s_mv rfl rfl ?_
            refine s_nc rfl rfl ?_
            refine s_fa (o2 := 8) rfl rfl rfl ?_
            refine s_ld rfl rfl (by rfl) ?_
            refine s_eq rfl rfl rfl ?_
            refine s_mv rfl rfl ?_
            refine WpL.knowF (dj := 69) rfl (by decide) ?_
            refine WpL.goff rfl rfl rfl (by decide) ?_
            refine WpL.goff rfl rfl rfl (by decide) ?_
            refine WpL.goff rfl rfl rfl (by decide) ?_
            refine WpL.goff rfl rfl rfl (by decide) ?_
            refine WpL.goff rfl rfl rfl (by decide) ?_
            refine s_pickF rfl rfl rfl ?_
            refine WpL.nil ?_
            refine Wp.condF rfl ?_
            refine Wp.skip ?_
            refine Wp.seq ?_
            refine Wp.seq ?_
            refine Wp.region ?_
            refine s_mv rfl rfl ?_
            refine s_nc rfl rfl ?_
            refine s_fa (o2 := 8) rfl rfl rfl ?_
            refine s_ld rfl rfl (by rfl) ?_
            refine s_lt rfl rfl rfl ?_
            refine WpL.nil ?_
            refine Wp.slots (gr := [(0, _), (91, _)]) (FrLe.cons rfl (FrLe.cons rfl FrLe.nil)) ?_
            refine Wp.condDT rfl (by decide) ?_
            refine Wp.seq ?_
            apply Wp.drawGN (fB := []) mixed [(10, false), (2, false)] (by kernel_rfl)
            apply GoR.segF [⟨0, 92, _, [], true⟩, ⟨1, 93, _, [], false⟩, ⟨2, 94, _, [], false⟩, ⟨3, 95, _, [2], false⟩, ⟨4, 96, _, [3], false⟩, ⟨5, 97, _, [4], false⟩, ⟨6, 98, _, [1], false⟩, ⟨7, 99, _, [6], false⟩, ⟨8, 100, _, [5, 7], false⟩, ⟨9, 101, _, [8], false⟩] [] [1, 2, 3, 4, 5, 6, 7, 8, 9] [103, 104, 92] (.inl ⟨_, .nil⟩) rfl rfl rfl (by kernel_rfl) rfl rfl rfl
            · refine AllF.consR rfl rfl rfl rfl ?_ ?_
              · refine s_mv rfl rfl ?_
                exact obN rfl
              refine AllF.cons rfl rfl rfl rfl ?_ ?_
              · refine s_mv rfl rfl ?_
                exact obN rfl
              refine AllF.cons rfl rfl rfl rfl ?_ ?_
              · refine s_mv rfl rfl ?_
                exact obN rfl
              refine AllF.cons rfl rfl rfl rfl ?_ ?_
              · refine s_nc rfl rfl ?_
                exact obN rfl
              refine AllF.cons rfl rfl rfl rfl ?_ ?_
              · refine s_fa (o2 := 8) rfl rfl rfl ?_
                exact obN rfl
              refine AllF.cons rfl rfl rfl rfl ?_ ?_
              · refine s_ld rfl rfl (by rfl) ?_
                exact obN rfl
              refine AllF.cons rfl rfl rfl rfl ?_ ?_
              · refine s_nc rfl rfl ?_
                exact obN rfl
              refine AllF.cons rfl rfl rfl rfl ?_ ?_
              · refine s_fa (o2 := 4) rfl rfl rfl ?_
                exact obN rfl
              refine AllF.cons rfl rfl rfl rfl ?_ ?_
              · refine s_ixarS (o2 := 5) 1 rfl rfl rfl rfl (by decide) rfl ?_
                exact obN rfl
              refine AllF.cons rfl rfl rfl rfl ?_ ?_
              · refine s_ld rfl rfl (by rfl) ?_
                exact obN rfl
              exact AllF.nil
            · refine s_callf rfl rfl (by repeat' constructor) (tkNew_spec _) ?_
              rintro _ _ ⟨gT, rfl, rfl⟩
              simp only [napp]
              refine WpL.nil ⟨rfl, rfl, ?_⟩
              apply GoR.segF [⟨11, 103, _, [0, 1, 2, 3, 4, 5, 6, 7, 8, 9, 10], false⟩, ⟨12, 104, _, [0, 1, 2, 3, 4, 5, 6, 7, 8, 9, 10, 11], false⟩] [0] [0, 11, 12] [] (.inl ⟨_, .nil⟩) rfl rfl rfl (by kernel_rfl) rfl rfl rfl
              · refine AllF.cons rfl rfl rfl rfl ?_ ?_
                · refine s_nc rfl rfl ?_
                  exact obN rfl
                refine AllF.cons rfl rfl rfl rfl ?_ ?_
                · refine s_fa (o2 := 9) rfl rfl rfl ?_
                  exact obN rfl
                exact AllF.nil
              · refine s_st rfl rfl rfl ?_
                refine WpL.nil ⟨rfl, rfl, ?_⟩
                apply GoR.nil [] (.inr rfl) rfl rfl
                · exact AllF.nil
                · refine Wp.seq ?_
                  refine Wp.region ?_
                  refine s_as rfl rfl ?_
                  refine WpL.nil ?_
                  refine Wp.ret ?_
                  apply RetQ.mk
                  · exact (Res.one rfl rfl)
                  · refine .inr (.inr (.inr ⟨n', hT, by omega, hn1, rfl, gT, rfl⟩))
                  · first | exact Ent.refl _ | exact Ent.nil _ | exact Take.ent' (by repeat' constructor) | (repeat (first | exact Ent.refl _ | refine Ent.drop ?_))
  · simp only [napp]
    refine s_as rfl rfl ?_
    refine WpL.nil ?_
    refine Wp.seq ?_
    refine Wp.seq ?_
    refine Wp.region ?_
    refine s_mv rfl rfl ?_
    refine s_eq rfl rfl rfl ?_
    refine WpL.nil ?_
    refine Wp.condDF rfl (by decide) ?_
    refine Wp.skip ?_
    refine Wp.seq ?_
    refine Wp.region ?_
    refine s_mv rfl rfl ?_
    refine s_nc rfl rfl ?_
    refine s_fa (o2 := 9) rfl rfl rfl ?_
    refine s_ld rfl rfl (by rfl) ?_
    refine s_callf rfl rfl (by repeat' constructor) (tkValue_spec gt _ _ _ _ _ _) ?_
    rintro _ _ ⟨rfl, rfl⟩
    simp only [napp]
    first | simp only [if_true] | simp only [if_false] | rw [if_pos rfl, if_pos rfl] | rw [if_neg (by decide), if_neg (by decide)]
    refine s_mv rfl rfl ?_
    refine s_ext rfl rfl rfl ?_
    refine s_ext rfl rfl rfl ?_
    refine s_as rfl rfl ?_
    refine s_as rfl rfl ?_
    refine WpL.nil ?_
    refine Wp.seq ?_
    refine Wp.block ?_
    refine Wp.seq ?_
    refine Wp.region ?_
    refine s_mv rfl rfl ?_
    refine s_ne rfl rfl rfl ?_
    refine s_as rfl rfl ?_
    refine WpL.nil ?_
    refine Wp.condDT rfl (by omega) ?_
    refine Wp.seq ?_
    refine Wp.region ?_
    refine s_mv rfl rfl ?_
    refine s_mv rfl rfl ?_
    refine s_callf rfl rfl (by repeat' constructor) (hdWrong_spec _ _ _ _ _ _ _ _ _ _ _ _ _ _) ?_
    rintro _ _ ⟨rfl, rfl⟩
    simp only [napp]
    refine s_as rfl rfl ?_
    refine WpL.nil ?_
    refine Wp.ret ?_
    apply RetQ.mk
    · exact (Res.one rfl rfl)
    · exact .inr (.inl ⟨e', bg', nx', hT, rfl, rfl⟩)
    · first | exact Ent.refl _ | exact Ent.nil _ | exact Take.ent' (by repeat' constructor) | (repeat (first | exact Ent.refl _ | refine Ent.drop ?_))

set_option maxHeartbeats 1000000 in
theorem hdNum_1b (g gt : Nat) (K W H M l0 l1 l2 at_ la e : Int) (s : TS) (bg : Bool) (nx : Value) (c : Int) (hc0 : 0 ≤ c) (hc1 : c ≤ 255) (hl : (1 ≤ l0 ∧ l0 ≤ 4096) ∧ (1 ≤ l1 ∧ l1 ≤ 65536) ∧ (1 ≤ l2 ∧ l2 ≤ 65535)) (hnx : nx = nxV gt s.ph) (hok : tkOk l1 s) (hbk : K = 1 ∨ K = 4) : Fn Tryz.prog 166 #[.pointer (some ⟨g, 0, none⟩), .int .u8 c] [blk g [.int .i64 K, .int .i64 W, .int .i64 H, .int .i64 M, .int .i64 l0, .int .i64 l1, .int .i64 l2, .int .i64 at_, .int .i64 1, .pointer (some ⟨gt, 0, none⟩), .int .i64 la, .int .i64 e] 234, blk gt [nx, .int .i64 l1, .int .i64 s.n, .bool bg, .int .i64 0, .int .i64 s.e] 265] (fun v l => (∃ s' bg', tkPut l1 s c = (s', 0) ∧ tkOk l1 s' ∧ v = .int .i64 0 ∧ l = [blk g [.int .i64 K, .int .i64 W, .int .i64 H, .int .i64 M, .int .i64 l0, .int .i64 l1, .int .i64 l2, .int .i64 at_, .int .i64 1, .pointer (some ⟨gt, 0, none⟩), .int .i64 la, .int .i64 e] 234, blk gt [nxV gt s'.ph, .int .i64 l1, .int .i64 s'.n, .bool bg', .int .i64 0, .int .i64 s'.e] 265]) ∨ (∃ e' bg' nx', tkPut l1 s c = (⟨5, 0, e'⟩, 2) ∧ v = .int .i64 2 ∧ l = [blk g [.int .i64 K, .int .i64 W, .int .i64 H, .int .i64 M, .int .i64 l0, .int .i64 l1, .int .i64 l2, .int .i64 at_, .int .i64 1, .pointer (some ⟨gt, 0, none⟩), .int .i64 la, .int .i64 e'] 234, blk gt [nx', .int .i64 l1, .int .i64 0, .bool bg', .int .i64 2, .int .i64 e'] 265]) ∨ (∃ bg' nx', tkPut l1 s c = (⟨4, 0, 0⟩, 1) ∧ v = .int .i64 2 ∧ l = [blk g [.int .i64 K, .int .i64 W, .int .i64 H, .int .i64 M, .int .i64 l0, .int .i64 l1, .int .i64 l2, .int .i64 at_, .int .i64 1, .pointer (some ⟨gt, 0, none⟩), .int .i64 la, .int .i64 4] 234, blk gt [nx', .int .i64 l1, .int .i64 0, .bool bg', .int .i64 1, .int .i64 0] 265]) ∨ (∃ n', tkPut l1 s c = (⟨4, n', 0⟩, 1) ∧ 0 < n' ∧ n' ≤ l1 ∧ v = .int .i64 1 ∧ ∃ bg' nx', l = [blk g [.int .i64 K, .int .i64 W, .int .i64 n', .int .i64 1, .int .i64 l0, .int .i64 l1, .int .i64 l2, .int .i64 at_, .int .i64 3, .pointer (some ⟨gt, 0, none⟩), .int .i64 la, .int .i64 0] 234, blk gt [nx', .int .i64 l1, .int .i64 n', .bool bg', .int .i64 1, .int .i64 0] 265])) := by
  refine Fn.intro (vs := [.pointer (some ⟨g, 0, none⟩), .int .u8 c]) Tryz.func166 rfl Tryz.ntmps166 rfl ?_
  refine Wp.seq ?_
  refine Wp.region ?_
  refine s_as rfl rfl ?_
  refine WpL.nil ?_
  refine Wp.seq ?_
  refine Wp.region ?_
  refine s_mv rfl rfl ?_
  refine s_nc rfl rfl ?_
  refine s_fa (o2 := 9) rfl rfl rfl ?_
  refine s_ld rfl rfl (by rfl) ?_
  refine s_mv rfl rfl ?_
  refine s_callf rfl rfl (by repeat' constructor) (tkPut_alt gt l1 s bg nx c hok hnx hc0 hc1 (by omega)) ?_
  intro v0 m0 hN0
  rcases hN0 with ⟨s', bg', hT, hok', rfl, rfl⟩ | ⟨n', bg', nx', hT, hn0, hn1, rfl, rfl⟩ | ⟨e', bg', nx', hT, he, rfl, rfl⟩
  · simp only [napp]
    refine s_as rfl rfl ?_
    refine WpL.nil ?_
    refine Wp.seq ?_
    refine Wp.seq ?_
    refine Wp.region ?_
    refine s_mv rfl rfl ?_
    refine s_eq rfl rfl rfl ?_
    refine WpL.nil ?_
    refine Wp.condDT rfl rfl ?_
    refine Wp.seq ?_
    refine Wp.region ?_
    refine s_mv rfl rfl ?_
    refine s_as rfl rfl ?_
    refine WpL.nil ?_
    refine Wp.ret ?_
    apply RetQ.mk
    · exact (Res.one rfl rfl)
    · exact .inl ⟨s', bg', hT, hok', rfl, rfl⟩
    · first | exact Ent.refl _ | exact Ent.nil _ | exact Take.ent' (by repeat' constructor) | (repeat (first | exact Ent.refl _ | refine Ent.drop ?_))
  · simp only [napp]
    refine s_as rfl rfl ?_
    refine WpL.nil ?_
    refine Wp.seq ?_
    refine Wp.seq ?_
    refine Wp.region ?_
    refine s_mv rfl rfl ?_
    refine s_eq rfl rfl rfl ?_
    refine WpL.nil ?_
    refine Wp.condDF rfl (by decide) ?_
    refine Wp.skip ?_
    refine Wp.seq ?_
    refine Wp.region ?_
    refine s_mv rfl rfl ?_
    refine s_nc rfl rfl ?_
    refine s_fa (o2 := 9) rfl rfl rfl ?_
    refine s_ld rfl rfl (by rfl) ?_
    refine s_callf rfl rfl (by repeat' constructor) (tkValue_spec gt _ _ _ _ _ _) ?_
    rintro _ _ ⟨rfl, rfl⟩
    simp only [napp]
    first | simp only [if_true] | simp only [if_false] | rw [if_pos rfl, if_pos rfl] | rw [if_neg (by decide), if_neg (by decide)]
    refine s_mv rfl rfl ?_
    refine s_ext rfl rfl rfl ?_
    refine s_ext rfl rfl rfl ?_
    refine s_as rfl rfl ?_
    refine s_as rfl rfl ?_
    refine WpL.nil ?_
    refine Wp.seq ?_
    refine Wp.block ?_
    refine Wp.seq ?_
    refine Wp.region ?_
    refine s_mv rfl rfl ?_
    refine s_ne rfl rfl rfl ?_
    refine s_as rfl rfl ?_
    refine WpL.nil ?_
    refine Wp.condDF rfl (by decide) ?_
    refine Wp.seq ?_
    refine Wp.region ?_
    refine s_mv rfl rfl ?_
    refine s_eq rfl rfl rfl ?_
    refine s_as rfl rfl ?_
    refine WpL.nil ?_
    refine Wp.condD rfl (fun hz => ?_) (fun hz => ?_)
    · subst hz
      refine Wp.seq ?_
      refine Wp.region ?_
      refine s_mv rfl rfl ?_
      refine s_callf rfl rfl (by repeat' constructor) (hdWrong_spec _ _ _ _ _ _ _ _ _ _ _ _ _ _) ?_
      rintro _ _ ⟨rfl, rfl⟩
      simp only [napp]
      refine s_as rfl rfl ?_
      refine WpL.nil ?_
      refine Wp.ret ?_
      apply RetQ.mk
      · exact (Res.one rfl rfl)
      · exact .inr (.inr (.inl ⟨bg', nx', hT, rfl, rfl⟩))
      · first | exact Ent.refl _ | exact Ent.nil _ | exact Take.ent' (by repeat' constructor) | (repeat (first | exact Ent.refl _ | refine Ent.drop ?_))
    · refine Wp.skip ?_
      refine Wp.seq ?_
      apply Wp.drawP (fB := [blk g [.int .i64 K, .int .i64 W, .int .i64 H, .int .i64 M, .int .i64 l0, .int .i64 l1, .int .i64 l2, .int .i64 at_, .int .i64 1, .pointer (some ⟨gt, 0, none⟩), .int .i64 la, .int .i64 e] 234]) [0, 1, 2, 3, 4, 5, 6, 7, 8, 9, 10, 11, 13, 14, 15, 16, 19, 12, 17, 18, 20, 21] [36, 37, 38, 39, 40, 41, 42, 43, 44, 45, 46, 47, 49, 50, 51, 52, 55, 48, 53, 54, 56] 22 mixed (by kernel_rfl) [(17, false), (3, false)] (by kernel_rfl) (by kernel_rfl) (by kernel_rfl)
      apply GoR.segFP [⟨0, 36, _, [], false⟩, ⟨1, 37, _, [0], false⟩, ⟨2, 38, _, [1], false⟩, ⟨3, 39, _, [2], false⟩, ⟨4, 40, _, [], false⟩, ⟨5, 41, _, [4], false⟩, ⟨6, 42, _, [5], false⟩, ⟨7, 43, _, [6], false⟩, ⟨8, 44, _, [], false⟩, ⟨9, 45, _, [8], false⟩, ⟨10, 46, _, [9], false⟩, ⟨11, 47, _, [10], false⟩, ⟨12, 49, _, [], true⟩, ⟨13, 50, _, [12], true⟩, ⟨14, 51, _, [13], true⟩, ⟨15, 52, _, [14], true⟩, ⟨16, 55, _, [], true⟩] [] [0, 1, 2, 3, 4, 5, 6, 7, 8, 9, 10, 11] [53, 54, 56] [53, 54, 56, 49, 50, 51, 52, 55] (.inl ⟨_, by repeat' constructor⟩) rfl rfl rfl (by kernel_rfl) rfl (by kernel_rfl) rfl rfl
      · refine AllF.consP 0 [] rfl rfl rfl rfl (by kernel_rfl) rfl ?_ ?_
        · refine s_mv rfl rfl ?_
          exact obN rfl
        refine AllF.consP 1 [0] rfl rfl rfl rfl (by kernel_rfl) rfl ?_ ?_
        · refine s_nc rfl rfl ?_
          exact obN rfl
        refine AllF.consP 2 [1] rfl rfl rfl rfl (by kernel_rfl) rfl ?_ ?_
        · refine s_fa (o2 := 0) rfl rfl rfl ?_
          exact obN rfl
        refine AllF.consP 3 [2] rfl rfl rfl rfl (by kernel_rfl) rfl ?_ ?_
        · refine s_fa (o2 := 1) rfl rfl rfl ?_
          exact obN rfl
        refine AllF.consP 4 [] rfl rfl rfl rfl (by kernel_rfl) rfl ?_ ?_
        · refine s_mv rfl rfl ?_
          exact obN rfl
        refine AllF.consP 5 [4] rfl rfl rfl rfl (by kernel_rfl) rfl ?_ ?_
        · refine s_nc rfl rfl ?_
          exact obN rfl
        refine AllF.consP 6 [5] rfl rfl rfl rfl (by kernel_rfl) rfl ?_ ?_
        · refine s_fa (o2 := 0) rfl rfl rfl ?_
          exact obN rfl
        refine AllF.consP 7 [6] rfl rfl rfl rfl (by kernel_rfl) rfl ?_ ?_
        · refine s_fa (o2 := 2) rfl rfl rfl ?_
          exact obN rfl
        refine AllF.consP 8 [] rfl rfl rfl rfl (by kernel_rfl) rfl ?_ ?_
        · refine s_mv rfl rfl ?_
          exact obN rfl
        refine AllF.consP 9 [8] rfl rfl rfl rfl (by kernel_rfl) rfl ?_ ?_
        · refine s_nc rfl rfl ?_
          exact obN rfl
        refine AllF.consP 10 [9] rfl rfl rfl rfl (by kernel_rfl) rfl ?_ ?_
        · refine s_fa (o2 := 0) rfl rfl rfl ?_
          exact obN rfl
        refine AllF.consP 11 [10] rfl rfl rfl rfl (by kernel_rfl) rfl ?_ ?_
        · refine s_fa (o2 := 3) rfl rfl rfl ?_
          exact obN rfl
        refine AllF.consPR 12 [] rfl rfl rfl rfl (by kernel_rfl) rfl ?_ ?_
        · refine s_mv rfl rfl ?_
          exact obN rfl
        refine AllF.consPR 13 [12] rfl rfl rfl rfl (by kernel_rfl) rfl ?_ ?_
        · refine s_nc rfl rfl ?_
          exact obN rfl
        refine AllF.consPR 14 [13] rfl rfl rfl rfl (by kernel_rfl) rfl ?_ ?_
        · refine s_fa (o2 := 8) rfl rfl rfl ?_
          exact obN rfl
        refine AllF.consPR 15 [14] rfl rfl rfl rfl (by kernel_rfl) rfl ?_ ?_
        · refine s_ld rfl rfl (by rfl) ?_
          exact obN rfl
        refine AllF.consPR 16 [] rfl rfl rfl rfl (by kernel_rfl) rfl ?_ ?_
        · refine s_mv rfl rfl ?_
          exact obN rfl
        exact AllF.nil
      · refine s_bs3 rfl rfl rfl rfl rfl rfl rfl rfl ?_
        intro g1
        refine WpL.nil ⟨rfl, rfl, ?_⟩
        apply GoR.segFP [⟨18, 53, _, [15, 17], false⟩, ⟨19, 54, _, [18], false⟩, ⟨20, 56, _, [0, 1, 2, 3, 4, 5, 6, 7, 8, 9, 10, 11, 12, 13, 14, 15, 16, 17, 18, 19], false⟩] [12, 13, 14, 15, 16] [12, 13, 14, 15, 16, 18, 19, 20] [] [] (.inl ⟨_, by repeat' constructor⟩) rfl rfl rfl (by kernel_rfl) rfl (by kernel_rfl) rfl rfl
        · refine AllF.consP 18 [15, 17] rfl rfl rfl rfl (by kernel_rfl) rfl ?_ ?_
          · refine s_ixa 1 rfl rfl rfl (RdsL.blk (cs := [.pointer (some ⟨g, 1, none⟩), .pointer (some ⟨g, 2, none⟩), .pointer (some ⟨g, 3, none⟩)]) (xs := [.pointer (some ⟨g, 1, none⟩), .pointer (some ⟨g, 2, none⟩), .pointer (some ⟨g, 3, none⟩)]) (by rfl)) (by first | exact Take.ent' (by repeat' constructor) | (repeat (first | exact Ent.refl _ | refine Ent.drop ?_))) rfl (by decide) (by exact (by decide : 1 < 3)) ?_
            exact obN rfl
          refine AllF.consP 19 [18] rfl rfl rfl rfl (by kernel_rfl) rfl ?_ ?_
          · refine s_ldx rfl rfl (RdsL.blk (cs := [.pointer (some ⟨g, 1, none⟩), .pointer (some ⟨g, 2, none⟩), .pointer (some ⟨g, 3, none⟩)]) (xs := [.pointer (some ⟨g, 1, none⟩), .pointer (some ⟨g, 2, none⟩), .pointer (some ⟨g, 3, none⟩)]) (by rfl)) (by first | exact Take.ent' (by repeat' constructor) | (repeat (first | exact Ent.refl _ | refine Ent.drop ?_))) (rfl) ?_
            exact obN rfl
          refine AllF.consP 20 [0, 1, 2, 3, 4, 5, 6, 7, 8, 9, 10, 11, 12, 13, 14, 15, 16, 17, 18, 19] rfl rfl rfl rfl (by kernel_rfl) rfl ?_ ?_
          · refine s_nc rfl rfl ?_
            exact obN rfl
          exact AllF.nil
        · refine s_st rfl rfl rfl ?_
          refine WpL.nil ⟨rfl, rfl, ?_⟩
          apply GoR.nilP [] 22 (by kernel_rfl) (.inr rfl) rfl rfl
          · exact AllF.nil
          · refine Wp.slots (gr := [(0, _)]) (FrLe.cons rfl FrLe.nil) ?_
            refine Wp.seq ?_
            refine Wp.region ?_
            refine s_mv rfl rfl ?_
            refine s_nc rfl rfl ?_
            refine s_fa (o2 := 8) rfl rfl rfl ?_
            refine s_ld rfl rfl (by rfl) ?_
            refine s_add rfl rfl rfl (w_i64 (by omega) (by omega)) ?_
            rw [show (1 : Int) + 1 = 2 from rfl]
            refine s_nc rfl rfl ?_
            refine s_fa (o2 := 8) rfl rfl rfl ?_
            refine s_st rfl rfl rfl ?_
            refine WpL.nil ?_
            refine Wp.seq ?_
            refine Wp.seq ?_
            refine Wp.region ?_
            refine s_mv rfl rfl ?_
            refine s_nc rfl rfl ?_
            refine s_fa (o2 := 8) rfl rfl rfl ?_
            refine s_ld rfl rfl (by rfl) ?_
            refine s_eq rfl rfl rfl ?_
            refine s_mv rfl rfl ?_
            refine WpL.knowT (dj := 69) rfl rfl ?_
            refine WpL.gon rfl rfl ?_
            refine s_mv rfl rfl ?_
            refine WpL.gon rfl rfl ?_
            refine s_nc rfl rfl ?_
            refine WpL.gon rfl rfl ?_
            refine s_fa (o2 := 0) rfl rfl rfl ?_
            refine WpL.gon rfl rfl ?_
            refine s_lda (vs := [_, _, _, _]) rfl rfl rfl (by rfl) ?_
            refine WpL.gon rfl rfl ?_
            refine s_callf rfl rfl (by repeat' constructor) (bits_spec _ _ _ _) ?_
            rintro _ _ ⟨rfl, rfl⟩
            simp only [napp]
            refine s_pickT rfl rfl rfl ?_
            refine WpL.nil ?_
            refine Wp.condDT rfl hbk ?_
            refine Wp.seq ?_
            refine Wp.region ?_
            refine s_mv rfl rfl ?_
            refine s_nc rfl rfl ?_
            refine s_fa (o2 := 0) rfl rfl rfl ?_
            refine s_fa (o2 := 3) rfl rfl rfl ?_
            refine s_st rfl rfl rfl ?_
            refine WpL.nil ?_
            refine Wp.region ?_
            refine s_mv rfl rfl ?_
            refine s_nc rfl rfl ?_
            refine s_fa (o2 := 8) rfl rfl rfl ?_
            refine s_ld rfl rfl (by rfl) ?_
            refine s_add rfl rfl rfl (w_i64 (by omega) (by omega)) ?_
            rw [show (2 : Int) + 1 = 3 from rfl]
            refine s_nc rfl rfl ?_
            refine s_fa (o2 := 8) rfl rfl rfl ?_
            refine s_st rfl rfl rfl ?_
            refine WpL.nil ?_
            refine Wp.seq ?_
            refine Wp.seq ?_
            refine Wp.region ?_
            refine s_mv rfl rfl ?_
            refine s_nc rfl rfl ?_
            refine s_fa (o2 := 8) rfl rfl rfl ?_
            refine s_ld rfl rfl (by rfl) ?_
            refine s_lt rfl rfl rfl ?_
            refine WpL.nil ?_
            refine Wp.slots (gr := [(0, _), (91, _)]) (FrLe.cons rfl (FrLe.cons rfl FrLe.nil)) ?_
            refine Wp.condDF rfl (by decide) ?_
            refine Wp.skip ?_
            refine Wp.seq ?_
            refine Wp.region ?_
            refine s_mv rfl rfl ?_
            refine s_nc rfl rfl ?_
            refine s_fa (o2 := 11) rfl rfl rfl ?_
            refine s_st rfl rfl rfl ?_
            refine WpL.nil ?_
            refine Wp.seq ?_
            refine Wp.region ?_
            refine s_as rfl rfl ?_
            refine WpL.nil ?_
            refine Wp.ret ?_
            apply RetQ.mk
            · exact (Res.one rfl rfl)
            · exact .inr (.inr (.inr ⟨n', hT, by omega, hn1, rfl, bg', nx', rfl⟩))
            · first | exact Ent.refl _ | exact Ent.nil _ | exact Take.ent' (by repeat' constructor) | (repeat (first | exact Ent.refl _ | refine Ent.drop ?_))
  · simp only [napp]
    refine s_as rfl rfl ?_
    refine WpL.nil ?_
    refine Wp.seq ?_
    refine Wp.seq ?_
    refine Wp.region ?_
    refine s_mv rfl rfl ?_
    refine s_eq rfl rfl rfl ?_
    refine WpL.nil ?_
    refine Wp.condDF rfl (by decide) ?_
    refine Wp.skip ?_
    refine Wp.seq ?_
    refine Wp.region ?_
    refine s_mv rfl rfl ?_
    refine s_nc rfl rfl ?_
    refine s_fa (o2 := 9) rfl rfl rfl ?_
    refine s_ld rfl rfl (by rfl) ?_
    refine s_callf rfl rfl (by repeat' constructor) (tkValue_spec gt _ _ _ _ _ _) ?_
    rintro _ _ ⟨rfl, rfl⟩
    simp only [napp]
    first | simp only [if_true] | simp only [if_false] | rw [if_pos rfl, if_pos rfl] | rw [if_neg (by decide), if_neg (by decide)]
    refine s_mv rfl rfl ?_
    refine s_ext rfl rfl rfl ?_
    refine s_ext rfl rfl rfl ?_
    refine s_as rfl rfl ?_
    refine s_as rfl rfl ?_
    refine WpL.nil ?_
    refine Wp.seq ?_
    refine Wp.block ?_
    refine Wp.seq ?_
    refine Wp.region ?_
    refine s_mv rfl rfl ?_
    refine s_ne rfl rfl rfl ?_
    refine s_as rfl rfl ?_
    refine WpL.nil ?_
    refine Wp.condDT rfl (by omega) ?_
    refine Wp.seq ?_
    refine Wp.region ?_
    refine s_mv rfl rfl ?_
    refine s_mv rfl rfl ?_
    refine s_callf rfl rfl (by repeat' constructor) (hdWrong_spec _ _ _ _ _ _ _ _ _ _ _ _ _ _) ?_
    rintro _ _ ⟨rfl, rfl⟩
    simp only [napp]
    refine s_as rfl rfl ?_
    refine WpL.nil ?_
    refine Wp.ret ?_
    apply RetQ.mk
    · exact (Res.one rfl rfl)
    · exact .inr (.inl ⟨e', bg', nx', hT, rfl, rfl⟩)
    · first | exact Ent.refl _ | exact Ent.nil _ | exact Take.ent' (by repeat' constructor) | (repeat (first | exact Ent.refl _ | refine Ent.drop ?_))

set_option maxHeartbeats 1000000 in
theorem hdNum_1n (g gt : Nat) (K W H M l0 l1 l2 at_ la e : Int) (s : TS) (bg : Bool) (nx : Value) (c : Int) (hc0 : 0 ≤ c) (hc1 : c ≤ 255) (hl : (1 ≤ l0 ∧ l0 ≤ 4096) ∧ (1 ≤ l1 ∧ l1 ≤ 65536) ∧ (1 ≤ l2 ∧ l2 ≤ 65535)) (hnx : nx = nxV gt s.ph) (hok : tkOk l1 s) (hbk : ¬ (K = 1 ∨ K = 4)) : Fn Tryz.prog 166 #[.pointer (some ⟨g, 0, none⟩), .int .u8 c] [blk g [.int .i64 K, .int .i64 W, .int .i64 H, .int .i64 M, .int .i64 l0, .int .i64 l1, .int .i64 l2, .int .i64 at_, .int .i64 1, .pointer (some ⟨gt, 0, none⟩), .int .i64 la, .int .i64 e] 234, blk gt [nx, .int .i64 l1, .int .i64 s.n, .bool bg, .int .i64 0, .int .i64 s.e] 265] (fun v l => (∃ s' bg', tkPut l1 s c = (s', 0) ∧ tkOk l1 s' ∧ v = .int .i64 0 ∧ l = [blk g [.int .i64 K, .int .i64 W, .int .i64 H, .int .i64 M, .int .i64 l0, .int .i64 l1, .int .i64 l2, .int .i64 at_, .int .i64 1, .pointer (some ⟨gt, 0, none⟩), .int .i64 la, .int .i64 e] 234, blk gt [nxV gt s'.ph, .int .i64 l1, .int .i64 s'.n, .bool bg', .int .i64 0, .int .i64 s'.e] 265]) ∨ (∃ e' bg' nx', tkPut l1 s c = (⟨5, 0, e'⟩, 2) ∧ v = .int .i64 2 ∧ l = [blk g [.int .i64 K, .int .i64 W, .int .i64 H, .int .i64 M, .int .i64 l0, .int .i64 l1, .int .i64 l2, .int .i64 at_, .int .i64 1, .pointer (some ⟨gt, 0, none⟩), .int .i64 la, .int .i64 e'] 234, blk gt [nx', .int .i64 l1, .int .i64 0, .bool bg', .int .i64 2, .int .i64 e'] 265]) ∨ (∃ bg' nx', tkPut l1 s c = (⟨4, 0, 0⟩, 1) ∧ v = .int .i64 2 ∧ l = [blk g [.int .i64 K, .int .i64 W, .int .i64 H, .int .i64 M, .int .i64 l0, .int .i64 l1, .int .i64 l2, .int .i64 at_, .int .i64 1, .pointer (some ⟨gt, 0, none⟩), .int .i64 la, .int .i64 4] 234, blk gt [nx', .int .i64 l1, .int .i64 0, .bool bg', .int .i64 1, .int .i64 0] 265]) ∨ (∃ n', tkPut l1 s c = (⟨4, n', 0⟩, 1) ∧ 0 < n' ∧ n' ≤ l1 ∧ v = .int .i64 0 ∧ ∃ gt2, l = [blk g [.int .i64 K, .int .i64 W, .int .i64 n', .int .i64 M, .int .i64 l0, .int .i64 l1, .int .i64 l2, .int .i64 at_, .int .i64 2, .pointer (some ⟨gt2, 0, none⟩), .int .i64 la, .int .i64 e] 234, blk gt2 [nxV gt2 0, .int .i64 l2, .int .i64 0, .bool false, .int .i64 0, .int .i64 9] 265])) := by
  refine Fn.intro (vs := [.pointer (some ⟨g, 0, none⟩), .int .u8 c]) Tryz.func166 rfl Tryz.ntmps166 rfl ?_
  refine Wp.seq ?_
  refine Wp.region ?_
  refine s_as rfl rfl ?_
  refine WpL.nil ?_
  refine Wp.seq ?_
  refine Wp.region ?_
  refine s_mv rfl rfl ?_
  refine s_nc rfl rfl ?_
  refine s_fa (o2 := 9) rfl rfl rfl ?_
  refine s_ld rfl rfl (by rfl) ?_
  refine s_mv rfl rfl ?_
  refine s_callf rfl rfl (by repeat' constructor) (tkPut_alt gt l1 s bg nx c hok hnx hc0 hc1 (by omega)) ?_
  intro v0 m0 hN0
  rcases hN0 with ⟨s', bg', hT, hok', rfl, rfl⟩ | ⟨n', bg', nx', hT, hn0, hn1, rfl, rfl⟩ | ⟨e', bg', nx', hT, he, rfl, rfl⟩
  · simp only [napp]
    refine s_as rfl rfl ?_
    refine WpL.nil ?_
    refine Wp.seq ?_
    refine Wp.seq ?_
    refine Wp.region ?_
    refine s_mv rfl rfl ?_
    refine s_eq rfl rfl rfl ?_
    refine WpL.nil ?_
    refine Wp.condDT rfl rfl ?_
    refine Wp.seq ?_
    refine Wp.region ?_
    refine s_mv rfl rfl ?_
    refine s_as rfl rfl ?_
    refine WpL.nil ?_
    refine Wp.ret ?_
    apply RetQ.mk
    · exact (Res.one rfl rfl)
    · exact .inl ⟨s', bg', hT, hok', rfl, rfl⟩
    · first | exact Ent.refl _ | exact Ent.nil _ | exact Take.ent' (by repeat' constructor) | (repeat (first | exact Ent.refl _ | refine Ent.drop ?_))
  · simp only [napp]
    refine s_as rfl rfl ?_
    refine WpL.nil ?_
    refine Wp.seq ?_
    refine Wp.seq ?_
    refine Wp.region ?_
    refine s_mv rfl rfl ?_
    refine s_eq rfl rfl rfl ?_
    refine WpL.nil ?_
    refine Wp.condDF rfl (by decide) ?_
    refine Wp.skip ?_
    refine Wp.seq ?_
    refine Wp.region ?_
    refine s_mv rfl rfl ?_
    refine s_nc rfl rfl ?_
    refine s_fa (o2 := 9) rfl rfl rfl ?_
    refine s_ld rfl rfl (by rfl) ?_
    refine s_callf rfl rfl (by repeat' constructor) (tkValue_spec gt _ _ _ _ _ _) ?_
    rintro _ _ ⟨rfl, rfl⟩
    simp only [napp]
    first | simp only [if_true] | simp only [if_false] | rw [if_pos rfl, if_pos rfl] | rw [if_neg (by decide), if_neg (by decide)]
    refine s_mv rfl rfl ?_
    refine s_ext rfl rfl rfl ?_
    refine s_ext rfl rfl rfl ?_
    refine s_as rfl rfl ?_
    refine s_as rfl rfl ?_
    refine WpL.nil ?_
    refine Wp.seq ?_
    refine Wp.block ?_
    refine Wp.seq ?_
    refine Wp.region ?_
    refine s_mv rfl rfl ?_
    refine s_ne rfl rfl rfl ?_
    refine s_as rfl rfl ?_
    refine WpL.nil ?_
    refine Wp.condDF rfl (by decide) ?_
    refine Wp.seq ?_
    refine Wp.region ?_
    refine s_mv rfl rfl ?_
    refine s_eq rfl rfl rfl ?_
    refine s_as rfl rfl ?_
    refine WpL.nil ?_
    refine Wp.condD rfl (fun hz => ?_) (fun hz => ?_)
    · subst hz
      refine Wp.seq ?_
      refine Wp.region ?_
      refine s_mv rfl rfl ?_
      refine s_callf rfl rfl (by repeat' constructor) (hdWrong_spec _ _ _ _ _ _ _ _ _ _ _ _ _ _) ?_
      rintro _ _ ⟨rfl, rfl⟩
      simp only [napp]
      refine s_as rfl rfl ?_
      refine WpL.nil ?_
      refine Wp.ret ?_
      apply RetQ.mk
      · exact (Res.one rfl rfl)
      · exact .inr (.inr (.inl ⟨bg', nx', hT, rfl, rfl⟩))
      · first | exact Ent.refl _ | exact Ent.nil _ | exact Take.ent' (by repeat' constructor) | (repeat (first | exact Ent.refl _ | refine Ent.drop ?_))
    · refine Wp.skip ?_
      refine Wp.seq ?_
      apply Wp.drawP (fB := [blk g [.int .i64 K, .int .i64 W, .int .i64 H, .int .i64 M, .int .i64 l0, .int .i64 l1, .int .i64 l2, .int .i64 at_, .int .i64 1, .pointer (some ⟨gt, 0, none⟩), .int .i64 la, .int .i64 e] 234]) [0, 1, 2, 3, 4, 5, 6, 7, 8, 9, 10, 11, 13, 14, 15, 16, 19, 12, 17, 18, 20, 21] [36, 37, 38, 39, 40, 41, 42, 43, 44, 45, 46, 47, 49, 50, 51, 52, 55, 48, 53, 54, 56] 22 mixed (by kernel_rfl) [(17, false), (3, false)] (by kernel_rfl) (by kernel_rfl) (by kernel_rfl)
      apply GoR.segFP [⟨0, 36, _, [], false⟩, ⟨1, 37, _, [0], false⟩, ⟨2, 38, _, [1], false⟩, ⟨3, 39, _, [2], false⟩, ⟨4, 40, _, [], false⟩, ⟨5, 41, _, [4], false⟩, ⟨6, 42, _, [5], false⟩, ⟨7, 43, _, [6], false⟩, ⟨8, 44, _, [], false⟩, ⟨9, 45, _, [8], false⟩, ⟨10, 46, _, [9], false⟩, ⟨11, 47, _, [10], false⟩, ⟨12, 49, _, [], true⟩, ⟨13, 50, _, [12], true⟩, ⟨14, 51, _, [13], true⟩, ⟨15, 52, _, [14], true⟩, ⟨16, 55, _, [], true⟩] [] [0, 1, 2, 3, 4, 5, 6, 7, 8, 9, 10, 11] [53, 54, 56] [53, 54, 56, 49, 50, 51, 52, 55] (.inl ⟨_, by repeat' constructor⟩) rfl rfl rfl (by kernel_rfl) rfl (by kernel_rfl) rfl rfl
      · refine AllF.consP 0 [] rfl rfl rfl rfl (by kernel_rfl) rfl ?_ ?_
        · refine s_mv rfl rfl ?_
          exact obN rfl
        refine AllF.consP 1 [0] rfl rfl rfl rfl (by kernel_rfl) rfl ?_ ?_
        · refine s_nc rfl rfl ?_
          exact obN rfl
        refine AllF.consP 2 [1] rfl rfl rfl rfl (by kernel_rfl) rfl ?_ ?_
        · refine s_fa (o2 := 0) rfl rfl rfl ?_
          exact obN rfl
        refine AllF.consP 3 [2] rfl rfl rfl rfl (by kernel_rfl) rfl ?_ ?_
        · refine s_fa (o2 := 1) rfl rfl rfl ?_
          exact obN rfl
        refine AllF.consP 4 [] rfl rfl rfl rfl (by kernel_rfl) rfl ?_ ?_
        · refine s_mv rfl rfl ?_
          exact obN rfl
        refine AllF.consP 5 [4] rfl rfl rfl rfl (by kernel_rfl) rfl ?_ ?_
        · refine s_nc rfl rfl ?_
          exact obN rfl
        refine AllF.consP 6 [5] rfl rfl rfl rfl (by kernel_rfl) rfl ?_ ?_
        · refine s_fa (o2 := 0) rfl rfl rfl ?_
          exact obN rfl
        refine AllF.consP 7 [6] rfl rfl rfl rfl (by kernel_rfl) rfl ?_ ?_
        · refine s_fa (o2 := 2) rfl rfl rfl ?_
          exact obN rfl
        refine AllF.consP 8 [] rfl rfl rfl rfl (by kernel_rfl) rfl ?_ ?_
        · refine s_mv rfl rfl ?_
          exact obN rfl
        refine AllF.consP 9 [8] rfl rfl rfl rfl (by kernel_rfl) rfl ?_ ?_
        · refine s_nc rfl rfl ?_
          exact obN rfl
        refine AllF.consP 10 [9] rfl rfl rfl rfl (by kernel_rfl) rfl ?_ ?_
        · refine s_fa (o2 := 0) rfl rfl rfl ?_
          exact obN rfl
        refine AllF.consP 11 [10] rfl rfl rfl rfl (by kernel_rfl) rfl ?_ ?_
        · refine s_fa (o2 := 3) rfl rfl rfl ?_
          exact obN rfl
        refine AllF.consPR 12 [] rfl rfl rfl rfl (by kernel_rfl) rfl ?_ ?_
        · refine s_mv rfl rfl ?_
          exact obN rfl
        refine AllF.consPR 13 [12] rfl rfl rfl rfl (by kernel_rfl) rfl ?_ ?_
        · refine s_nc rfl rfl ?_
          exact obN rfl
        refine AllF.consPR 14 [13] rfl rfl rfl rfl (by kernel_rfl) rfl ?_ ?_
        · refine s_fa (o2 := 8) rfl rfl rfl ?_
          exact obN rfl
        refine AllF.consPR 15 [14] rfl rfl rfl rfl (by kernel_rfl) rfl ?_ ?_
        · refine s_ld rfl rfl (by rfl) ?_
          exact obN rfl
        refine AllF.consPR 16 [] rfl rfl rfl rfl (by kernel_rfl) rfl ?_ ?_
        · refine s_mv rfl rfl ?_
          exact obN rfl
        exact AllF.nil
      · refine s_bs3 rfl rfl rfl rfl rfl rfl rfl rfl ?_
        intro g1
        refine WpL.nil ⟨rfl, rfl, ?_⟩
        apply GoR.segFP [⟨18, 53, _, [15, 17], false⟩, ⟨19, 54, _, [18], false⟩, ⟨20, 56, _, [0, 1, 2, 3, 4, 5, 6, 7, 8, 9, 10, 11, 12, 13, 14, 15, 16, 17, 18, 19], false⟩] [12, 13, 14, 15, 16] [12, 13, 14, 15, 16, 18, 19, 20] [] [] (.inl ⟨_, by repeat' constructor⟩) rfl rfl rfl (by kernel_rfl) rfl (by kernel_rfl) rfl rfl
        · refine AllF.consP 18 [15, 17] rfl rfl rfl rfl (by kernel_rfl) rfl ?_ ?_
          · refine s_ixa 1 rfl rfl rfl (RdsL.blk (cs := [.pointer (some ⟨g, 1, none⟩), .pointer (some ⟨g, 2, none⟩), .pointer (some ⟨g, 3, none⟩)]) (xs := [.pointer (some ⟨g, 1, none⟩), .pointer (some ⟨g, 2, none⟩), .pointer (some ⟨g, 3, none⟩)]) (by rfl)) (by first | exact Take.ent' (by repeat' constructor) | (repeat (first | exact Ent.refl _ | refine Ent.drop ?_))) rfl (by decide) (by exact (by decide : 1 < 3)) ?_
            exact obN rfl
          refine AllF.consP 19 [18] rfl rfl rfl rfl (by kernel_rfl) rfl ?_ ?_
          · refine s_ldx rfl rfl (RdsL.blk (cs := [.pointer (some ⟨g, 1, none⟩), .pointer (some ⟨g, 2, none⟩), .pointer (some ⟨g, 3, none⟩)]) (xs := [.pointer (some ⟨g, 1, none⟩), .pointer (some ⟨g, 2, none⟩), .pointer (some ⟨g, 3, none⟩)]) (by rfl)) (by first | exact Take.ent' (by repeat' constructor) | (repeat (first | exact Ent.refl _ | refine Ent.drop ?_))) (rfl) ?_
            exact obN rfl
          refine AllF.consP 20 [0, 1, 2, 3, 4, 5, 6, 7, 8, 9, 10, 11, 12, 13, 14, 15, 16, 17, 18, 19] rfl rfl rfl rfl (by kernel_rfl) rfl ?_ ?_
          · refine s_nc rfl rfl ?_
            exact obN rfl
          exact AllF.nil
        · refine s_st rfl rfl rfl ?_
          refine WpL.nil ⟨rfl, rfl, ?_⟩
          apply GoR.nilP [] 22 (by kernel_rfl) (.inr rfl) rfl rfl
          · exact AllF.nil
          · refine Wp.slots (gr := [(0, _)]) (FrLe.cons rfl FrLe.nil) ?_
            refine Wp.seq ?_
            refine Wp.region ?_
            refine s_mv rfl rfl ?_
            refine s_nc rfl rfl ?_
            refine s_fa (o2 := 8) rfl rfl rfl ?_
            refine s_ld rfl rfl (by rfl) ?_
            refine s_add rfl rfl rfl (w_i64 (by omega) (by omega)) ?_
            rw [show (1 : Int) + 1 = 2 from rfl]
            refine s_nc rfl rfl ?_
            refine s_fa (o2 := 8) rfl rfl rfl ?_
            refine s_st rfl rfl rfl ?_
            refine WpL.nil ?_
            refine Wp.seq ?_
            refine Wp.seq ?_
            refine Wp.region ?_
            refine s_mv rfl rfl ?_
            refine s_nc rfl rfl ?_
            refine s_fa (o2 := 8) rfl rfl rfl ?_
            refine s_ld rfl rfl (by rfl) ?_
            refine s_eq rfl rfl rfl ?_
            refine s_mv rfl rfl ?_
            refine WpL.knowT (dj := 69) rfl rfl ?_
            refine WpL.gon rfl rfl ?_
            refine s_mv rfl rfl ?_
            refine WpL.gon rfl rfl ?_
            refine s_nc rfl rfl ?_
            refine WpL.gon rfl rfl ?_
            refine s_fa (o2 := 0) rfl rfl rfl ?_
            refine WpL.gon rfl rfl ?_
            refine s_lda (vs := [_, _, _, _]) rfl rfl rfl (by rfl) ?_
            refine WpL.gon rfl rfl ?_
            refine s_callf rfl rfl (by repeat' constructor) (bits_spec _ _ _ _) ?_
            rintro _ _ ⟨rfl, rfl⟩
            simp only [napp]
            refine s_pickT rfl rfl rfl ?_
            refine WpL.nil ?_
            refine Wp.condDF rfl hbk ?_
            refine Wp.skip ?_
            refine Wp.seq ?_
            refine Wp.seq ?_
            refine Wp.region ?_
            refine s_mv rfl rfl ?_
            refine s_nc rfl rfl ?_
            refine s_fa (o2 := 8) rfl rfl rfl ?_
            refine s_ld rfl rfl (by rfl) ?_
            refine s_lt rfl rfl rfl ?_
            refine WpL.nil ?_
            refine Wp.slots (gr := [(0, _), (91, _)]) (FrLe.cons rfl (FrLe.cons rfl FrLe.nil)) ?_
            refine Wp.condDT rfl (by decide) ?_
            refine Wp.seq ?_
            apply Wp.drawGN (fB := []) mixed [(10, false), (2, false)] (by kernel_rfl)
            apply GoR.segF [⟨0, 92, _, [], true⟩, ⟨1, 93, _, [], false⟩, ⟨2, 94, _, [], false⟩, ⟨3, 95, _, [2], false⟩, ⟨4, 96, _, [3], false⟩, ⟨5, 97, _, [4], false⟩, ⟨6, 98, _, [1], false⟩, ⟨7, 99, _, [6], false⟩, ⟨8, 100, _, [5, 7], false⟩, ⟨9, 101, _, [8], false⟩] [] [1, 2, 3, 4, 5, 6, 7, 8, 9] [103, 104, 92] (.inl ⟨_, .nil⟩) rfl rfl rfl (by kernel_rfl) rfl rfl rfl
            · refine AllF.consR rfl rfl rfl rfl ?_ ?_
              · refine s_mv rfl rfl ?_
                exact obN rfl
              refine AllF.cons rfl rfl rfl rfl ?_ ?_
              · refine s_mv rfl rfl ?_
                exact obN rfl
              refine AllF.cons rfl rfl rfl rfl ?_ ?_
              · refine s_mv rfl rfl ?_
                exact obN rfl
              refine AllF.cons rfl rfl rfl rfl ?_ ?_
              · refine s_nc rfl rfl ?_
                exact obN rfl
              refine AllF.cons rfl rfl rfl rfl ?_ ?_
              · refine s_fa (o2 := 8) rfl rfl rfl ?_
                exact obN rfl
              refine AllF.cons rfl rfl rfl rfl ?_ ?_
              · refine s_ld rfl rfl (by rfl) ?_
                exact obN rfl
              refine AllF.cons rfl rfl rfl rfl ?_ ?_
              · refine s_nc rfl rfl ?_
                exact obN rfl
              refine AllF.cons rfl rfl rfl rfl ?_ ?_
              · refine s_fa (o2 := 4) rfl rfl rfl ?_
                exact obN rfl
              refine AllF.cons rfl rfl rfl rfl ?_ ?_
              · refine s_ixarS (o2 := 6) 2 rfl rfl rfl rfl (by decide) rfl ?_
                exact obN rfl
              refine AllF.cons rfl rfl rfl rfl ?_ ?_
              · refine s_ld rfl rfl (by rfl) ?_
                exact obN rfl
              exact AllF.nil
            · refine s_callf rfl rfl (by repeat' constructor) (tkNew_spec _) ?_
              rintro _ _ ⟨gT, rfl, rfl⟩
              simp only [napp]
              refine WpL.nil ⟨rfl, rfl, ?_⟩
              apply GoR.segF [⟨11, 103, _, [0, 1, 2, 3, 4, 5, 6, 7, 8, 9, 10], false⟩, ⟨12, 104, _, [0, 1, 2, 3, 4, 5, 6, 7, 8, 9, 10, 11], false⟩] [0] [0, 11, 12] [] (.inl ⟨_, .nil⟩) rfl rfl rfl (by kernel_rfl) rfl rfl rfl
              · refine AllF.cons rfl rfl rfl rfl ?_ ?_
                · refine s_nc rfl rfl ?_
                  exact obN rfl
                refine AllF.cons rfl rfl rfl rfl ?_ ?_
                · refine s_fa (o2 := 9) rfl rfl rfl ?_
                  exact obN rfl
                exact AllF.nil
              · refine s_st rfl rfl rfl ?_
                refine WpL.nil ⟨rfl, rfl, ?_⟩
                apply GoR.nil [] (.inr rfl) rfl rfl
                · exact AllF.nil
                · refine Wp.seq ?_
                  refine Wp.region ?_
                  refine s_as rfl rfl ?_
                  refine WpL.nil ?_
                  refine Wp.ret ?_
                  apply RetQ.mk
                  · exact (Res.one rfl rfl)
                  · refine .inr (.inr (.inr ⟨n', hT, by omega, hn1, rfl, gT, rfl⟩))
                  · first | exact Ent.refl _ | exact Ent.nil _ | exact Take.ent' (by repeat' constructor) | (repeat (first | exact Ent.refl _ | refine Ent.drop ?_))
  · simp only [napp]
    refine s_as rfl rfl ?_
    refine WpL.nil ?_
    refine Wp.seq ?_
    refine Wp.seq ?_
    refine Wp.region ?_
    refine s_mv rfl rfl ?_
    refine s_eq rfl rfl rfl ?_
    refine WpL.nil ?_
    refine Wp.condDF rfl (by decide) ?_
    refine Wp.skip ?_
    refine Wp.seq ?_
    refine Wp.region ?_
    refine s_mv rfl rfl ?_
    refine s_nc rfl rfl ?_
    refine s_fa (o2 := 9) rfl rfl rfl ?_
    refine s_ld rfl rfl (by rfl) ?_
    refine s_callf rfl rfl (by repeat' constructor) (tkValue_spec gt _ _ _ _ _ _) ?_
    rintro _ _ ⟨rfl, rfl⟩
    simp only [napp]
    first | simp only [if_true] | simp only [if_false] | rw [if_pos rfl, if_pos rfl] | rw [if_neg (by decide), if_neg (by decide)]
    refine s_mv rfl rfl ?_
    refine s_ext rfl rfl rfl ?_
    refine s_ext rfl rfl rfl ?_
    refine s_as rfl rfl ?_
    refine s_as rfl rfl ?_
    refine WpL.nil ?_
    refine Wp.seq ?_
    refine Wp.block ?_
    refine Wp.seq ?_
    refine Wp.region ?_
    refine s_mv rfl rfl ?_
    refine s_ne rfl rfl rfl ?_
    refine s_as rfl rfl ?_
    refine WpL.nil ?_
    refine Wp.condDT rfl (by omega) ?_
    refine Wp.seq ?_
    refine Wp.region ?_
    refine s_mv rfl rfl ?_
    refine s_mv rfl rfl ?_
    refine s_callf rfl rfl (by repeat' constructor) (hdWrong_spec _ _ _ _ _ _ _ _ _ _ _ _ _ _) ?_
    rintro _ _ ⟨rfl, rfl⟩
    simp only [napp]
    refine s_as rfl rfl ?_
    refine WpL.nil ?_
    refine Wp.ret ?_
    apply RetQ.mk
    · exact (Res.one rfl rfl)
    · exact .inr (.inl ⟨e', bg', nx', hT, rfl, rfl⟩)
    · first | exact Ent.refl _ | exact Ent.nil _ | exact Take.ent' (by repeat' constructor) | (repeat (first | exact Ent.refl _ | refine Ent.drop ?_))

set_option maxHeartbeats 1000000 in
theorem hdNum_2 (g gt : Nat) (K W H M l0 l1 l2 at_ la e : Int) (s : TS) (bg : Bool) (nx : Value) (c : Int) (hc0 : 0 ≤ c) (hc1 : c ≤ 255) (hl : (1 ≤ l0 ∧ l0 ≤ 4096) ∧ (1 ≤ l1 ∧ l1 ≤ 65536) ∧ (1 ≤ l2 ∧ l2 ≤ 65535)) (hnx : nx = nxV gt s.ph) (hok : tkOk l2 s)  : Fn Tryz.prog 166 #[.pointer (some ⟨g, 0, none⟩), .int .u8 c] [blk g [.int .i64 K, .int .i64 W, .int .i64 H, .int .i64 M, .int .i64 l0, .int .i64 l1, .int .i64 l2, .int .i64 at_, .int .i64 2, .pointer (some ⟨gt, 0, none⟩), .int .i64 la, .int .i64 e] 234, blk gt [nx, .int .i64 l2, .int .i64 s.n, .bool bg, .int .i64 0, .int .i64 s.e] 265] (fun v l => (∃ s' bg', tkPut l2 s c = (s', 0) ∧ tkOk l2 s' ∧ v = .int .i64 0 ∧ l = [blk g [.int .i64 K, .int .i64 W, .int .i64 H, .int .i64 M, .int .i64 l0, .int .i64 l1, .int .i64 l2, .int .i64 at_, .int .i64 2, .pointer (some ⟨gt, 0, none⟩), .int .i64 la, .int .i64 e] 234, blk gt [nxV gt s'.ph, .int .i64 l2, .int .i64 s'.n, .bool bg', .int .i64 0, .int .i64 s'.e] 265]) ∨ (∃ e' bg' nx', tkPut l2 s c = (⟨5, 0, e'⟩, 2) ∧ v = .int .i64 2 ∧ l = [blk g [.int .i64 K, .int .i64 W, .int .i64 H, .int .i64 M, .int .i64 l0, .int .i64 l1, .int .i64 l2, .int .i64 at_, .int .i64 2, .pointer (some ⟨gt, 0, none⟩), .int .i64 la, .int .i64 e'] 234, blk gt [nx', .int .i64 l2, .int .i64 0, .bool bg', .int .i64 2, .int .i64 e'] 265]) ∨ (∃ bg' nx', tkPut l2 s c = (⟨4, 0, 0⟩, 1) ∧ v = .int .i64 2 ∧ l = [blk g [.int .i64 K, .int .i64 W, .int .i64 H, .int .i64 M, .int .i64 l0, .int .i64 l1, .int .i64 l2, .int .i64 at_, .int .i64 2, .pointer (some ⟨gt, 0, none⟩), .int .i64 la, .int .i64 4] 234, blk gt [nx', .int .i64 l2, .int .i64 0, .bool bg', .int .i64 1, .int .i64 0] 265]) ∨ (∃ n', tkPut l2 s c = (⟨4, n', 0⟩, 1) ∧ 0 < n' ∧ n' ≤ l2 ∧ v = .int .i64 1 ∧ ∃ bg' nx', l = [blk g [.int .i64 K, .int .i64 W, .int .i64 H, .int .i64 n', .int .i64 l0, .int .i64 l1, .int .i64 l2, .int .i64 at_, .int .i64 3, .pointer (some ⟨gt, 0, none⟩), .int .i64 la, .int .i64 0] 234, blk gt [nx', .int .i64 l2, .int .i64 n', .bool bg', .int .i64 1, .int .i64 0] 265])) := by
  refine Fn.intro (vs := [.pointer (some ⟨g, 0, none⟩), .int .u8 c]) Tryz.func166 rfl Tryz.ntmps166 rfl ?_
  refine Wp.seq ?_
  refine Wp.region ?_
  refine s_as rfl rfl ?_
  refine WpL.nil ?_
  refine Wp.seq ?_
  refine Wp.region ?_
  refine s_mv rfl rfl ?_
  refine s_nc rfl rfl ?_
  refine s_fa (o2 := 9) rfl rfl rfl ?_
  refine s_ld rfl rfl (by rfl) ?_
  refine s_mv rfl rfl ?_
  refine s_callf rfl rfl (by repeat' constructor) (tkPut_alt gt l2 s bg nx c hok hnx hc0 hc1 (by omega)) ?_
  intro v0 m0 hN0
  rcases hN0 with ⟨s', bg', hT, hok', rfl, rfl⟩ | ⟨n', bg', nx', hT, hn0, hn1, rfl, rfl⟩ | ⟨e', bg', nx', hT, he, rfl, rfl⟩
  · simp only [napp]
    refine s_as rfl rfl ?_
    refine WpL.nil ?_
    refine Wp.seq ?_
    refine Wp.seq ?_
    refine Wp.region ?_
    refine s_mv rfl rfl ?_
    refine s_eq rfl rfl rfl ?_
    refine WpL.nil ?_
    refine Wp.condDT rfl rfl ?_
    refine Wp.seq ?_
    refine Wp.region ?_
    refine s_mv rfl rfl ?_
    refine s_as rfl rfl ?_
    refine WpL.nil ?_
    refine Wp.ret ?_
    apply RetQ.mk
    · exact (Res.one rfl rfl)
    · exact .inl ⟨s', bg', hT, hok', rfl, rfl⟩
    · first | exact Ent.refl _ | exact Ent.nil _ | exact Take.ent' (by repeat' constructor) | (repeat (first | exact Ent.refl _ | refine Ent.drop ?_))
  · simp only [napp]
    refine s_as rfl rfl ?_
    refine WpL.nil ?_
    refine Wp.seq ?_
    refine Wp.seq ?_
    refine Wp.region ?_
    refine s_mv rfl rfl ?_
    refine s_eq rfl rfl rfl ?_
    refine WpL.nil ?_
    refine Wp.condDF rfl (by decide) ?_
    refine Wp.skip ?_
    refine Wp.seq ?_
    refine Wp.region ?_
    refine s_mv rfl rfl ?_
    refine s_nc rfl rfl ?_
    refine s_fa (o2 := 9) rfl rfl rfl ?_
    refine s_ld rfl rfl (by rfl) ?_
    refine s_callf rfl rfl (by repeat' constructor) (tkValue_spec gt _ _ _ _ _ _) ?_
    rintro _ _ ⟨rfl, rfl⟩
    simp only [napp]
    first | simp only [if_true] | simp only [if_false] | rw [if_pos rfl, if_pos rfl] | rw [if_neg (by decide), if_neg (by decide)]
    refine s_mv rfl rfl ?_
    refine s_ext rfl rfl rfl ?_
    refine s_ext rfl rfl rfl ?_
    refine s_as rfl rfl ?_
    refine s_as rfl rfl ?_
    refine WpL.nil ?_
    refine Wp.seq ?_
    refine Wp.block ?_
    refine Wp.seq ?_
    refine Wp.region ?_
    refine s_mv rfl rfl ?_
    refine s_ne rfl rfl rfl ?_
    refine s_as rfl rfl ?_
    refine WpL.nil ?_
    refine Wp.condDF rfl (by decide) ?_
    refine Wp.seq ?_
    refine Wp.region ?_
    refine s_mv rfl rfl ?_
    refine s_eq rfl rfl rfl ?_
    refine s_as rfl rfl ?_
    refine WpL.nil ?_
    refine Wp.condD rfl (fun hz => ?_) (fun hz => ?_)
    · subst hz
      refine Wp.seq ?_
      refine Wp.region ?_
      refine s_mv rfl rfl ?_
      refine s_callf rfl rfl (by repeat' constructor) (hdWrong_spec _ _ _ _ _ _ _ _ _ _ _ _ _ _) ?_
      rintro _ _ ⟨rfl, rfl⟩
      simp only [napp]
      refine s_as rfl rfl ?_
      refine WpL.nil ?_
      refine Wp.ret ?_
      apply RetQ.mk
      · exact (Res.one rfl rfl)
      · exact .inr (.inr (.inl ⟨bg', nx', hT, rfl, rfl⟩))
      · first | exact Ent.refl _ | exact Ent.nil _ | exact Take.ent' (by repeat' constructor) | (repeat (first | exact Ent.refl _ | refine Ent.drop ?_))
    · refine Wp.skip ?_
      refine Wp.seq ?_
      apply Wp.drawP (fB := [blk g [.int .i64 K, .int .i64 W, .int .i64 H, .int .i64 M, .int .i64 l0, .int .i64 l1, .int .i64 l2, .int .i64 at_, .int .i64 2, .pointer (some ⟨gt, 0, none⟩), .int .i64 la, .int .i64 e] 234]) [0, 1, 2, 3, 4, 5, 6, 7, 8, 9, 10, 11, 13, 14, 15, 16, 19, 12, 17, 18, 20, 21] [36, 37, 38, 39, 40, 41, 42, 43, 44, 45, 46, 47, 49, 50, 51, 52, 55, 48, 53, 54, 56] 22 mixed (by kernel_rfl) [(17, false), (3, false)] (by kernel_rfl) (by kernel_rfl) (by kernel_rfl)
      apply GoR.segFP [⟨0, 36, _, [], false⟩, ⟨1, 37, _, [0], false⟩, ⟨2, 38, _, [1], false⟩, ⟨3, 39, _, [2], false⟩, ⟨4, 40, _, [], false⟩, ⟨5, 41, _, [4], false⟩, ⟨6, 42, _, [5], false⟩, ⟨7, 43, _, [6], false⟩, ⟨8, 44, _, [], false⟩, ⟨9, 45, _, [8], false⟩, ⟨10, 46, _, [9], false⟩, ⟨11, 47, _, [10], false⟩, ⟨12, 49, _, [], true⟩, ⟨13, 50, _, [12], true⟩, ⟨14, 51, _, [13], true⟩, ⟨15, 52, _, [14], true⟩, ⟨16, 55, _, [], true⟩] [] [0, 1, 2, 3, 4, 5, 6, 7, 8, 9, 10, 11] [53, 54, 56] [53, 54, 56, 49, 50, 51, 52, 55] (.inl ⟨_, by repeat' constructor⟩) rfl rfl rfl (by kernel_rfl) rfl (by kernel_rfl) rfl rfl
      · refine AllF.consP 0 [] rfl rfl rfl rfl (by kernel_rfl) rfl ?_ ?_
        · refine s_mv rfl rfl ?_
          exact obN rfl
        refine AllF.consP 1 [0] rfl rfl rfl rfl (by kernel_rfl) rfl ?_ ?_
        · refine s_nc rfl rfl ?_
          exact obN rfl
        refine AllF.consP 2 [1] rfl rfl rfl rfl (by kernel_rfl) rfl ?_ ?_
        · refine s_fa (o2 := 0) rfl rfl rfl ?_
          exact obN rfl
        refine AllF.consP 3 [2] rfl rfl rfl rfl (by kernel_rfl) rfl ?_ ?_
        · refine s_fa (o2 := 1) rfl rfl rfl ?_
          exact obN rfl
        refine AllF.consP 4 [] rfl rfl rfl rfl (by kernel_rfl) rfl ?_ ?_
        · refine s_mv rfl rfl ?_
          exact obN rfl
        refine AllF.consP 5 [4] rfl rfl rfl rfl (by kernel_rfl) rfl ?_ ?_
        · refine s_nc rfl rfl ?_
          exact obN rfl
        refine AllF.consP 6 [5] rfl rfl rfl rfl (by kernel_rfl) rfl ?_ ?_
        · refine s_fa (o2 := 0) rfl rfl rfl ?_
          exact obN rfl
        refine AllF.consP 7 [6] rfl rfl rfl rfl (by kernel_rfl) rfl ?_ ?_
        · refine s_fa (o2 := 2) rfl rfl rfl ?_
          exact obN rfl
        refine AllF.consP 8 [] rfl rfl rfl rfl (by kernel_rfl) rfl ?_ ?_
        · refine s_mv rfl rfl ?_
          exact obN rfl
        refine AllF.consP 9 [8] rfl rfl rfl rfl (by kernel_rfl) rfl ?_ ?_
        · refine s_nc rfl rfl ?_
          exact obN rfl
        refine AllF.consP 10 [9] rfl rfl rfl rfl (by kernel_rfl) rfl ?_ ?_
        · refine s_fa (o2 := 0) rfl rfl rfl ?_
          exact obN rfl
        refine AllF.consP 11 [10] rfl rfl rfl rfl (by kernel_rfl) rfl ?_ ?_
        · refine s_fa (o2 := 3) rfl rfl rfl ?_
          exact obN rfl
        refine AllF.consPR 12 [] rfl rfl rfl rfl (by kernel_rfl) rfl ?_ ?_
        · refine s_mv rfl rfl ?_
          exact obN rfl
        refine AllF.consPR 13 [12] rfl rfl rfl rfl (by kernel_rfl) rfl ?_ ?_
        · refine s_nc rfl rfl ?_
          exact obN rfl
        refine AllF.consPR 14 [13] rfl rfl rfl rfl (by kernel_rfl) rfl ?_ ?_
        · refine s_fa (o2 := 8) rfl rfl rfl ?_
          exact obN rfl
        refine AllF.consPR 15 [14] rfl rfl rfl rfl (by kernel_rfl) rfl ?_ ?_
        · refine s_ld rfl rfl (by rfl) ?_
          exact obN rfl
        refine AllF.consPR 16 [] rfl rfl rfl rfl (by kernel_rfl) rfl ?_ ?_
        · refine s_mv rfl rfl ?_
          exact obN rfl
        exact AllF.nil
      · refine s_bs3 rfl rfl rfl rfl rfl rfl rfl rfl ?_
        intro g1
        refine WpL.nil ⟨rfl, rfl, ?_⟩
        apply GoR.segFP [⟨18, 53, _, [15, 17], false⟩, ⟨19, 54, _, [18], false⟩, ⟨20, 56, _, [0, 1, 2, 3, 4, 5, 6, 7, 8, 9, 10, 11, 12, 13, 14, 15, 16, 17, 18, 19], false⟩] [12, 13, 14, 15, 16] [12, 13, 14, 15, 16, 18, 19, 20] [] [] (.inl ⟨_, by repeat' constructor⟩) rfl rfl rfl (by kernel_rfl) rfl (by kernel_rfl) rfl rfl
        · refine AllF.consP 18 [15, 17] rfl rfl rfl rfl (by kernel_rfl) rfl ?_ ?_
          · refine s_ixa 2 rfl rfl rfl (RdsL.blk (cs := [.pointer (some ⟨g, 1, none⟩), .pointer (some ⟨g, 2, none⟩), .pointer (some ⟨g, 3, none⟩)]) (xs := [.pointer (some ⟨g, 1, none⟩), .pointer (some ⟨g, 2, none⟩), .pointer (some ⟨g, 3, none⟩)]) (by rfl)) (by first | exact Take.ent' (by repeat' constructor) | (repeat (first | exact Ent.refl _ | refine Ent.drop ?_))) rfl (by decide) (by exact (by decide : 2 < 3)) ?_
            exact obN rfl
          refine AllF.consP 19 [18] rfl rfl rfl rfl (by kernel_rfl) rfl ?_ ?_
          · refine s_ldx rfl rfl (RdsL.blk (cs := [.pointer (some ⟨g, 1, none⟩), .pointer (some ⟨g, 2, none⟩), .pointer (some ⟨g, 3, none⟩)]) (xs := [.pointer (some ⟨g, 1, none⟩), .pointer (some ⟨g, 2, none⟩), .pointer (some ⟨g, 3, none⟩)]) (by rfl)) (by first | exact Take.ent' (by repeat' constructor) | (repeat (first | exact Ent.refl _ | refine Ent.drop ?_))) (rfl) ?_
            exact obN rfl
          refine AllF.consP 20 [0, 1, 2, 3, 4, 5, 6, 7, 8, 9, 10, 11, 12, 13, 14, 15, 16, 17, 18, 19] rfl rfl rfl rfl (by kernel_rfl) rfl ?_ ?_
          · refine s_nc rfl rfl ?_
            exact obN rfl
          exact AllF.nil
        · refine s_st rfl rfl rfl ?_
          refine WpL.nil ⟨rfl, rfl, ?_⟩
          apply GoR.nilP [] 22 (by kernel_rfl) (.inr rfl) rfl rfl
          · exact AllF.nil
          · refine Wp.slots (gr := [(0, _)]) (FrLe.cons rfl FrLe.nil) ?_
            refine Wp.seq ?_
            refine Wp.region ?_
            refine s_mv rfl rfl ?_
            refine s_nc rfl rfl ?_
            refine s_fa (o2 := 8) rfl rfl rfl ?_
            refine s_ld rfl rfl (by rfl) ?_
            refine s_add rfl rfl rfl (w_i64 (by omega) (by omega)) ?_
            rw [show (2 : Int) + 1 = 3 from rfl]
            refine s_nc rfl rfl ?_
            refine s_fa (o2 := 8) rfl rfl rfl ?_
            refine s_st rfl rfl rfl ?_
            refine WpL.nil ?_
            refine Wp.seq ?_
            refine Wp.seq ?_
            refine Wp.region ?_
            refine s_mv rfl rfl ?_
            refine s_nc rfl rfl ?_
            refine s_fa (o2 := 8) rfl rfl rfl ?_
            refine s_ld rfl rfl (by rfl) ?_
            refine s_eq rfl rfl rfl ?_
            refine s_mv rfl rfl ?_
            refine WpL.knowF (dj := 69) rfl (by decide) ?_
            refine WpL.goff rfl rfl rfl (by decide) ?_
            refine WpL.goff rfl rfl rfl (by decide) ?_
            refine WpL.goff rfl rfl rfl (by decide) ?_
            refine WpL.goff rfl rfl rfl (by decide) ?_
            refine WpL.goff rfl rfl rfl (by decide) ?_
            refine s_pickF rfl rfl rfl ?_
            refine WpL.nil ?_
            refine Wp.condF rfl ?_
            refine Wp.skip ?_
            refine Wp.seq ?_
            refine Wp.seq ?_
            refine Wp.region ?_
            refine s_mv rfl rfl ?_
            refine s_nc rfl rfl ?_
            refine s_fa (o2 := 8) rfl rfl rfl ?_
            refine s_ld rfl rfl (by rfl) ?_
            refine s_lt rfl rfl rfl ?_
            refine WpL.nil ?_
            refine Wp.slots (gr := [(0, _), (91, _)]) (FrLe.cons rfl (FrLe.cons rfl FrLe.nil)) ?_
            refine Wp.condDF rfl (by decide) ?_
            refine Wp.skip ?_
            refine Wp.seq ?_
            refine Wp.region ?_
            refine s_mv rfl rfl ?_
            refine s_nc rfl rfl ?_
            refine s_fa (o2 := 11) rfl rfl rfl ?_
            refine s_st rfl rfl rfl ?_
            refine WpL.nil ?_
            refine Wp.seq ?_
            refine Wp.region ?_
            refine s_as rfl rfl ?_
            refine WpL.nil ?_
            refine Wp.ret ?_
            apply RetQ.mk
            · exact (Res.one rfl rfl)
            · exact .inr (.inr (.inr ⟨n', hT, by omega, hn1, rfl, bg', nx', rfl⟩))
            · first | exact Ent.refl _ | exact Ent.nil _ | exact Take.ent' (by repeat' constructor) | (repeat (first | exact Ent.refl _ | refine Ent.drop ?_))
  · simp only [napp]
    refine s_as rfl rfl ?_
    refine WpL.nil ?_
    refine Wp.seq ?_
    refine Wp.seq ?_
    refine Wp.region ?_
    refine s_mv rfl rfl ?_
    refine s_eq rfl rfl rfl ?_
    refine WpL.nil ?_
    refine Wp.condDF rfl (by decide) ?_
    refine Wp.skip ?_
    refine Wp.seq ?_
    refine Wp.region ?_
    refine s_mv rfl rfl ?_
    refine s_nc rfl rfl ?_
    refine s_fa (o2 := 9) rfl rfl rfl ?_
    refine s_ld rfl rfl (by rfl) ?_
    refine s_callf rfl rfl (by repeat' constructor) (tkValue_spec gt _ _ _ _ _ _) ?_
    rintro _ _ ⟨rfl, rfl⟩
    simp only [napp]
    first | simp only [if_true] | simp only [if_false] | rw [if_pos rfl, if_pos rfl] | rw [if_neg (by decide), if_neg (by decide)]
    refine s_mv rfl rfl ?_
    refine s_ext rfl rfl rfl ?_
    refine s_ext rfl rfl rfl ?_
    refine s_as rfl rfl ?_
    refine s_as rfl rfl ?_
    refine WpL.nil ?_
    refine Wp.seq ?_
    refine Wp.block ?_
    refine Wp.seq ?_
    refine Wp.region ?_
    refine s_mv rfl rfl ?_
    refine s_ne rfl rfl rfl ?_
    refine s_as rfl rfl ?_
    refine WpL.nil ?_
    refine Wp.condDT rfl (by omega) ?_
    refine Wp.seq ?_
    refine Wp.region ?_
    refine s_mv rfl rfl ?_
    refine s_mv rfl rfl ?_
    refine s_callf rfl rfl (by repeat' constructor) (hdWrong_spec _ _ _ _ _ _ _ _ _ _ _ _ _ _) ?_
    rintro _ _ ⟨rfl, rfl⟩
    simp only [napp]
    refine s_as rfl rfl ?_
    refine WpL.nil ?_
    refine Wp.ret ?_
    apply RetQ.mk
    · exact (Res.one rfl rfl)
    · exact .inr (.inl ⟨e', bg', nx', hT, rfl, rfl⟩)
    · first | exact Ent.refl _ | exact Ent.nil _ | exact Take.ent' (by repeat' constructor) | (repeat (first | exact Ent.refl _ | refine Ent.drop ?_))

end Go.Proofs.YtggamdlpiejbiaaGreat
