/- Walks and plain laws, a part of the proof of PnmJoins: every input that the law's guards let in, no condition beside. -/
import Derived.Test.YtggamdlpiejbiaaGreatM10
namespace Go.Proofs.YtggamdlpiejbiaaGreat
open Go.RowKit Go.Shelf


theorem hdNum_spec (g : Nat) (l0 l1 l2 : Int) (s : HS) (pt : Value) (A : HP) (c : Int) (hc0 : 0 ≤ c) (hc1 : c ≤ 255) (hl : (1 ≤ l0 ∧ l0 ≤ 4096) ∧ (1 ≤ l1 ∧ l1 ≤ 65536) ∧ (1 ≤ l2 ∧ l2 ≤ 65535)) (hI : hdI s) (hat : s.at_ = 3) (hT0 : hdT l0 l1 l2 s pt A) :
    Fn Tryz.prog 166 #[.pointer (some ⟨g, 0, none⟩), .int .u8 c] [QA g [.int .i64 s.K, .int .i64 s.W, .int .i64 s.H, .int .i64 s.M, .int .i64 l0, .int .i64 l1, .int .i64 l2, .int .i64 s.at_, .int .i64 s.i, pt, .int .i64 0, .int .i64 s.e] 234, A] (fun v l => ∃ s' pt' A', s' = XF l0 l1 l2 s c ∧ v = .int .i64 s'.last ∧ (s'.last = 0 → hdI s' ∧ hdT l0 l1 l2 s' pt' A') ∧ l = [QA g [.int .i64 s'.K, .int .i64 s'.W, .int .i64 s'.H, .int .i64 s'.M, .int .i64 l0, .int .i64 l1, .int .i64 l2, .int .i64 s'.at_, .int .i64 s'.i, pt', .int .i64 0, .int .i64 s'.e] 234, A']) := by
  obtain ⟨K, W, H, M, at_, i, t, last, e⟩ := s
  obtain ⟨h1, h2, h3, h4, h5, h6⟩ := hI
  dsimp only at *
  subst hat
  subst h1
  rcases hT0 with ⟨q, _⟩ | ⟨_, hok, gt, bg, rfl, rfl⟩
  · exact absurd (show (3 : Int) < 3 from q) (by decide)
  dsimp only at hok
  obtain rfl | rfl | rfl : i = 0 ∨ i = 1 ∨ i = 2 := by omega
  · refine (hdNum_0 g gt K W H M l0 l1 l2 3 0 e t bg _ c hc0 hc1 hl rfl hok).mono fun v l h => ?_
    skip
    · rcases h with ⟨s', bg', hT, hok', rfl, rfl⟩ | ⟨e', bg', nx', hT, rfl, rfl⟩ | ⟨bg', nx', hT, rfl, rfl⟩ | h
      · have hm : XF l0 l1 l2 ⟨K, W, H, M, 3, 0, t, 0, e⟩ c = ⟨K, W, H, M, 3, 0, s', 0, e⟩ := by unfold XF; rw [show X4 l0 l1 l2 0 = l0 from rfl, hT]; dsimp only; rw [if_pos rfl]
        exact ⟨_, ⟨⟨K, W, H, M, 3, 0, s', 0, e⟩, _, _, hm.symm, rfl, (fun _ => ⟨by unfold hdI; dsimp only; omega, .inr ⟨rfl, hok', gt, bg', rfl, rfl⟩⟩), rfl⟩, Ent.refl _⟩
      · have hm : XF l0 l1 l2 ⟨K, W, H, M, 3, 0, t, 0, e⟩ c = ⟨K, W, H, M, 3, 0, ⟨5, 0, e'⟩, 2, e'⟩ := by unfold XF; rw [show X4 l0 l1 l2 0 = l0 from rfl, hT]; dsimp only; rw [if_neg (by decide), if_pos rfl]
        exact ⟨_, ⟨⟨K, W, H, M, 3, 0, ⟨5, 0, e'⟩, 2, e'⟩, _, _, hm.symm, rfl, (fun h => absurd (show (2 : Int) = 0 from h) (by decide)), rfl⟩, Ent.refl _⟩
      · have hm : XF l0 l1 l2 ⟨K, W, H, M, 3, 0, t, 0, e⟩ c = ⟨K, W, H, M, 3, 0, ⟨4, 0, 0⟩, 2, 4⟩ := by unfold XF; rw [show X4 l0 l1 l2 0 = l0 from rfl, hT]; dsimp only; rw [if_neg (by decide), if_neg (by decide), if_pos rfl]
        exact ⟨_, ⟨⟨K, W, H, M, 3, 0, ⟨4, 0, 0⟩, 2, 4⟩, _, _, hm.symm, rfl, (fun h => absurd (show (2 : Int) = 0 from h) (by decide)), rfl⟩, Ent.refl _⟩
      · obtain ⟨n', hT, hn0, hn1, rfl, gt2, rfl⟩ := h
        have hq1 : YB ⟨K, W, H, M, 3, 0, t, 0, e⟩ n' = ⟨K, n', H, M, 3, 0, t, 0, e⟩ := by unfold YB; dsimp only; rw [if_pos rfl]
        have hq2 : XX ⟨K, n', H, M, 3, 0, t, 0, e⟩ = ⟨K, n', H, M, 3, 1, t, 0, e⟩ := by unfold XX Zc; dsimp only; rw [if_neg (fun q => absurd q.1 (by decide))]; try rfl
        have hm : XF l0 l1 l2 ⟨K, W, H, M, 3, 0, t, 0, e⟩ c = ⟨K, n', H, M, 3, 1, tk0, 0, e⟩ := by unfold XF; rw [show X4 l0 l1 l2 0 = l0 from rfl, hT]; dsimp only; rw [if_neg (by decide), if_neg (by decide), if_neg (by omega), hq1, hq2]; dsimp only; rw [if_pos (by decide)]; try rfl
        exact ⟨_, ⟨⟨K, n', H, M, 3, 1, tk0, 0, e⟩, _, _, hm.symm, rfl, (fun _ => ⟨by unfold hdI; dsimp only; omega, .inr ⟨rfl, (by unfold Zx tk0 X4; dsimp only; rw [if_neg (by decide)]; rw [if_pos rfl]; omega), gt2, false, rfl, rfl⟩⟩), rfl⟩, Ent.refl _⟩
  · by_cases hbk : K = 1 ∨ K = 4
    · refine (hdNum_1b g gt K W H M l0 l1 l2 3 0 e t bg _ c hc0 hc1 hl rfl hok hbk).mono fun v l h => ?_
      skip
      · rcases h with ⟨s', bg', hT, hok', rfl, rfl⟩ | ⟨e', bg', nx', hT, rfl, rfl⟩ | ⟨bg', nx', hT, rfl, rfl⟩ | h
        · have hm : XF l0 l1 l2 ⟨K, W, H, M, 3, 1, t, 0, e⟩ c = ⟨K, W, H, M, 3, 1, s', 0, e⟩ := by unfold XF; rw [show X4 l0 l1 l2 1 = l1 from rfl, hT]; dsimp only; rw [if_pos rfl]
          exact ⟨_, ⟨⟨K, W, H, M, 3, 1, s', 0, e⟩, _, _, hm.symm, rfl, (fun _ => ⟨by unfold hdI; dsimp only; omega, .inr ⟨rfl, hok', gt, bg', rfl, rfl⟩⟩), rfl⟩, Ent.refl _⟩
        · have hm : XF l0 l1 l2 ⟨K, W, H, M, 3, 1, t, 0, e⟩ c = ⟨K, W, H, M, 3, 1, ⟨5, 0, e'⟩, 2, e'⟩ := by unfold XF; rw [show X4 l0 l1 l2 1 = l1 from rfl, hT]; dsimp only; rw [if_neg (by decide), if_pos rfl]
          exact ⟨_, ⟨⟨K, W, H, M, 3, 1, ⟨5, 0, e'⟩, 2, e'⟩, _, _, hm.symm, rfl, (fun h => absurd (show (2 : Int) = 0 from h) (by decide)), rfl⟩, Ent.refl _⟩
        · have hm : XF l0 l1 l2 ⟨K, W, H, M, 3, 1, t, 0, e⟩ c = ⟨K, W, H, M, 3, 1, ⟨4, 0, 0⟩, 2, 4⟩ := by unfold XF; rw [show X4 l0 l1 l2 1 = l1 from rfl, hT]; dsimp only; rw [if_neg (by decide), if_neg (by decide), if_pos rfl]
          exact ⟨_, ⟨⟨K, W, H, M, 3, 1, ⟨4, 0, 0⟩, 2, 4⟩, _, _, hm.symm, rfl, (fun h => absurd (show (2 : Int) = 0 from h) (by decide)), rfl⟩, Ent.refl _⟩
        · obtain ⟨n', hT, hn0, hn1, rfl, bg', nx', rfl⟩ := h
          have hq1 : YB ⟨K, W, H, M, 3, 1, t, 0, e⟩ n' = ⟨K, W, n', M, 3, 1, t, 0, e⟩ := by unfold YB; dsimp only; rw [if_neg (by decide), if_pos rfl]
          have hq2 : XX ⟨K, W, n', M, 3, 1, t, 0, e⟩ = ⟨K, W, n', 1, 3, 3, t, 0, e⟩ := by unfold XX Zc; dsimp only; rw [if_pos ⟨by decide, hbk⟩]; try rfl
          have hm : XF l0 l1 l2 ⟨K, W, H, M, 3, 1, t, 0, e⟩ c = ⟨K, W, n', 1, 3, 3, ⟨4, n', 0⟩, 1, 0⟩ := by unfold XF; rw [show X4 l0 l1 l2 1 = l1 from rfl, hT]; dsimp only; rw [if_neg (by decide), if_neg (by decide), if_neg (by omega), hq1, hq2]; dsimp only; rw [if_neg (by decide)]; try rfl
          exact ⟨_, ⟨⟨K, W, n', 1, 3, 3, ⟨4, n', 0⟩, 1, 0⟩, _, _, hm.symm, rfl, (fun h => absurd (show (1 : Int) = 0 from h) (by decide)), rfl⟩, Ent.refl _⟩
    · refine (hdNum_1n g gt K W H M l0 l1 l2 3 0 e t bg _ c hc0 hc1 hl rfl hok hbk).mono fun v l h => ?_
      skip
      · rcases h with ⟨s', bg', hT, hok', rfl, rfl⟩ | ⟨e', bg', nx', hT, rfl, rfl⟩ | ⟨bg', nx', hT, rfl, rfl⟩ | h
        · have hm : XF l0 l1 l2 ⟨K, W, H, M, 3, 1, t, 0, e⟩ c = ⟨K, W, H, M, 3, 1, s', 0, e⟩ := by unfold XF; rw [show X4 l0 l1 l2 1 = l1 from rfl, hT]; dsimp only; rw [if_pos rfl]
          exact ⟨_, ⟨⟨K, W, H, M, 3, 1, s', 0, e⟩, _, _, hm.symm, rfl, (fun _ => ⟨by unfold hdI; dsimp only; omega, .inr ⟨rfl, hok', gt, bg', rfl, rfl⟩⟩), rfl⟩, Ent.refl _⟩
        · have hm : XF l0 l1 l2 ⟨K, W, H, M, 3, 1, t, 0, e⟩ c = ⟨K, W, H, M, 3, 1, ⟨5, 0, e'⟩, 2, e'⟩ := by unfold XF; rw [show X4 l0 l1 l2 1 = l1 from rfl, hT]; dsimp only; rw [if_neg (by decide), if_pos rfl]
          exact ⟨_, ⟨⟨K, W, H, M, 3, 1, ⟨5, 0, e'⟩, 2, e'⟩, _, _, hm.symm, rfl, (fun h => absurd (show (2 : Int) = 0 from h) (by decide)), rfl⟩, Ent.refl _⟩
        · have hm : XF l0 l1 l2 ⟨K, W, H, M, 3, 1, t, 0, e⟩ c = ⟨K, W, H, M, 3, 1, ⟨4, 0, 0⟩, 2, 4⟩ := by unfold XF; rw [show X4 l0 l1 l2 1 = l1 from rfl, hT]; dsimp only; rw [if_neg (by decide), if_neg (by decide), if_pos rfl]
          exact ⟨_, ⟨⟨K, W, H, M, 3, 1, ⟨4, 0, 0⟩, 2, 4⟩, _, _, hm.symm, rfl, (fun h => absurd (show (2 : Int) = 0 from h) (by decide)), rfl⟩, Ent.refl _⟩
        · obtain ⟨n', hT, hn0, hn1, rfl, gt2, rfl⟩ := h
          have hq1 : YB ⟨K, W, H, M, 3, 1, t, 0, e⟩ n' = ⟨K, W, n', M, 3, 1, t, 0, e⟩ := by unfold YB; dsimp only; rw [if_neg (by decide), if_pos rfl]
          have hq2 : XX ⟨K, W, n', M, 3, 1, t, 0, e⟩ = ⟨K, W, n', M, 3, 2, t, 0, e⟩ := by unfold XX Zc; dsimp only; rw [if_neg (fun q => hbk q.2)]; try rfl
          have hm : XF l0 l1 l2 ⟨K, W, H, M, 3, 1, t, 0, e⟩ c = ⟨K, W, n', M, 3, 2, tk0, 0, e⟩ := by unfold XF; rw [show X4 l0 l1 l2 1 = l1 from rfl, hT]; dsimp only; rw [if_neg (by decide), if_neg (by decide), if_neg (by omega), hq1, hq2]; dsimp only; rw [if_pos (by decide)]; try rfl
          exact ⟨_, ⟨⟨K, W, n', M, 3, 2, tk0, 0, e⟩, _, _, hm.symm, rfl, (fun _ => ⟨by unfold hdI; dsimp only; omega, .inr ⟨rfl, (by unfold Zx tk0 X4; dsimp only; rw [if_neg (by decide)]; rw [if_neg (by decide)]; omega), gt2, false, rfl, rfl⟩⟩), rfl⟩, Ent.refl _⟩
  · refine (hdNum_2 g gt K W H M l0 l1 l2 3 0 e t bg _ c hc0 hc1 hl rfl hok).mono fun v l h => ?_
    skip
    · rcases h with ⟨s', bg', hT, hok', rfl, rfl⟩ | ⟨e', bg', nx', hT, rfl, rfl⟩ | ⟨bg', nx', hT, rfl, rfl⟩ | h
      · have hm : XF l0 l1 l2 ⟨K, W, H, M, 3, 2, t, 0, e⟩ c = ⟨K, W, H, M, 3, 2, s', 0, e⟩ := by unfold XF; rw [show X4 l0 l1 l2 2 = l2 from rfl, hT]; dsimp only; rw [if_pos rfl]
        exact ⟨_, ⟨⟨K, W, H, M, 3, 2, s', 0, e⟩, _, _, hm.symm, rfl, (fun _ => ⟨by unfold hdI; dsimp only; omega, .inr ⟨rfl, hok', gt, bg', rfl, rfl⟩⟩), rfl⟩, Ent.refl _⟩
      · have hm : XF l0 l1 l2 ⟨K, W, H, M, 3, 2, t, 0, e⟩ c = ⟨K, W, H, M, 3, 2, ⟨5, 0, e'⟩, 2, e'⟩ := by unfold XF; rw [show X4 l0 l1 l2 2 = l2 from rfl, hT]; dsimp only; rw [if_neg (by decide), if_pos rfl]
        exact ⟨_, ⟨⟨K, W, H, M, 3, 2, ⟨5, 0, e'⟩, 2, e'⟩, _, _, hm.symm, rfl, (fun h => absurd (show (2 : Int) = 0 from h) (by decide)), rfl⟩, Ent.refl _⟩
      · have hm : XF l0 l1 l2 ⟨K, W, H, M, 3, 2, t, 0, e⟩ c = ⟨K, W, H, M, 3, 2, ⟨4, 0, 0⟩, 2, 4⟩ := by unfold XF; rw [show X4 l0 l1 l2 2 = l2 from rfl, hT]; dsimp only; rw [if_neg (by decide), if_neg (by decide), if_pos rfl]
        exact ⟨_, ⟨⟨K, W, H, M, 3, 2, ⟨4, 0, 0⟩, 2, 4⟩, _, _, hm.symm, rfl, (fun h => absurd (show (2 : Int) = 0 from h) (by decide)), rfl⟩, Ent.refl _⟩
      · obtain ⟨n', hT, hn0, hn1, rfl, bg', nx', rfl⟩ := h
        have hq1 : YB ⟨K, W, H, M, 3, 2, t, 0, e⟩ n' = ⟨K, W, H, n', 3, 2, t, 0, e⟩ := by unfold YB; dsimp only; rw [if_neg (by decide), if_neg (by decide)]
        have hq2 : XX ⟨K, W, H, n', 3, 2, t, 0, e⟩ = ⟨K, W, H, n', 3, 3, t, 0, e⟩ := by unfold XX Zc; dsimp only; rw [if_neg (fun q => absurd q.1 (by decide))]; try rfl
        have hm : XF l0 l1 l2 ⟨K, W, H, M, 3, 2, t, 0, e⟩ c = ⟨K, W, H, n', 3, 3, ⟨4, n', 0⟩, 1, 0⟩ := by unfold XF; rw [show X4 l0 l1 l2 2 = l2 from rfl, hT]; dsimp only; rw [if_neg (by decide), if_neg (by decide), if_neg (by omega), hq1, hq2]; dsimp only; rw [if_neg (by decide)]; try rfl
        exact ⟨_, ⟨⟨K, W, H, n', 3, 3, ⟨4, n', 0⟩, 1, 0⟩, _, _, hm.symm, rfl, (fun h => absurd (show (1 : Int) = 0 from h) (by decide)), rfl⟩, Ent.refl _⟩


end Go.Proofs.YtggamdlpiejbiaaGreat
namespace Go.Proofs.YtggamdlpiejbiaaGreat
open Go.RowKit Go.Shelf

theorem hdPut_m (g : Nat) (l0 l1 l2 : Int) (s : HS) (pt : Value) (A : HP) (c : Int) (hc0 : 0 ≤ c) (hc1 : c ≤ 255) (hl : (1 ≤ l0 ∧ l0 ≤ 4096) ∧ (1 ≤ l1 ∧ l1 ≤ 65536) ∧ (1 ≤ l2 ∧ l2 ≤ 65535)) (hI : hdI s) (_hT0 : hdT l0 l1 l2 s pt A) (hat : s.at_ < 3) (hpt : pt = .pointer none) : Fn Tryz.prog 123 #[.pointer (some ⟨g, 0, none⟩), .int .u8 c] [QA g [.int .i64 s.K, .int .i64 s.W, .int .i64 s.H, .int .i64 s.M, .int .i64 l0, .int .i64 l1, .int .i64 l2, .int .i64 s.at_, .int .i64 s.i, pt, .int .i64 0, .int .i64 s.e] 234, A] (fun v l => ∃ s' pt' A', s' = Q1 l0 l1 l2 s c ∧ v = .int .i64 s'.last ∧ (s'.last = 0 → hdI s' ∧ hdT l0 l1 l2 s' pt' A') ∧ l = [QA g [.int .i64 s'.K, .int .i64 s'.W, .int .i64 s'.H, .int .i64 s'.M, .int .i64 l0, .int .i64 l1, .int .i64 l2, .int .i64 s'.at_, .int .i64 s'.i, pt', .int .i64 s'.last, .int .i64 s'.e] 234, A']) := by
 refine Qk (vs := [.pointer (some ⟨g, 0, none⟩), .int .u8 c]) Tryz.func123 rfl Tryz.ntmps123 rfl ?_
 refine Qb (Qa (Qe rfl rfl (WpL.nil (Qb (Wp.block ?_)))))
 refine Qb (Qa (Qc rfl rfl (Qq rfl rfl (Qj (o2 := 10) rfl rfl rfl (Qo rfl rfl (by rfl) ?_)))))
 refine Xn rfl rfl rfl (Qe rfl rfl (WpL.nil (Qz rfl (by decide) (Qb (Qa (Qc rfl rfl (Qq rfl rfl (Qj (o2 := 7) rfl rfl rfl (Qo rfl rfl (by rfl) ?_)))))))))
 refine Q7 rfl rfl rfl (Qe rfl rfl (WpL.nil (QU rfl hat (Qa (Qc rfl rfl (Qc rfl rfl (Qc rfl rfl (Qh rfl rfl (by repeat' constructor) (hdMagic_spec g l0 l1 l2 s pt c hc0 hc1 hl hI hat hpt) ?_))))))))
 rintro _ _ ⟨s', pt', A', hs, rfl, hok, rfl⟩
 simp only [Qr]
 refine Qq rfl rfl (Qj (o2 := 10) rfl rfl rfl (Q3 rfl rfl rfl (WpL.nil (Qb (Qa (Qc rfl rfl (Qq rfl rfl (Qj (o2 := 10) rfl rfl rfl (Qo rfl rfl (by rfl) ?_)))))))))
 refine Qe rfl rfl (WpL.nil (Qi ?_))
 apply RetQ.mk
 ·exact (Res.one rfl rfl)
 ·exact ⟨s', pt', A', by unfold Q1; rw [if_neg (fun h => h hI.1), if_pos hat]; exact hs, rfl, hok, rfl⟩
 ·exact Take.ent' (by repeat' constructor)

theorem hdPut_n (g : Nat) (l0 l1 l2 : Int) (s : HS) (pt : Value) (A : HP) (c : Int) (hc0 : 0 ≤ c) (hc1 : c ≤ 255) (hl : (1 ≤ l0 ∧ l0 ≤ 4096) ∧ (1 ≤ l1 ∧ l1 ≤ 65536) ∧ (1 ≤ l2 ∧ l2 ≤ 65535)) (hI : hdI s) (hT0 : hdT l0 l1 l2 s pt A) (hat : s.at_ = 3) : Fn Tryz.prog 123 #[.pointer (some ⟨g, 0, none⟩), .int .u8 c] [QA g [.int .i64 s.K, .int .i64 s.W, .int .i64 s.H, .int .i64 s.M, .int .i64 l0, .int .i64 l1, .int .i64 l2, .int .i64 s.at_, .int .i64 s.i, pt, .int .i64 0, .int .i64 s.e] 234, A] (fun v l => ∃ s' pt' A', s' = Q1 l0 l1 l2 s c ∧ v = .int .i64 s'.last ∧ (s'.last = 0 → hdI s' ∧ hdT l0 l1 l2 s' pt' A') ∧ l = [QA g [.int .i64 s'.K, .int .i64 s'.W, .int .i64 s'.H, .int .i64 s'.M, .int .i64 l0, .int .i64 l1, .int .i64 l2, .int .i64 s'.at_, .int .i64 s'.i, pt', .int .i64 s'.last, .int .i64 s'.e] 234, A']) := by
 refine Qk (vs := [.pointer (some ⟨g, 0, none⟩), .int .u8 c]) Tryz.func123 rfl Tryz.ntmps123 rfl ?_
 refine Qb (Qa (Qe rfl rfl (WpL.nil (Qb (Wp.block ?_)))))
 refine Qb (Qa (Qc rfl rfl (Qq rfl rfl (Qj (o2 := 10) rfl rfl rfl (Qo rfl rfl (by rfl) ?_)))))
 refine Xn rfl rfl rfl (Qe rfl rfl (WpL.nil (Qz rfl (by decide) (Qb (Qa (Qc rfl rfl (Qq rfl rfl (Qj (o2 := 7) rfl rfl rfl (Qo rfl rfl (by rfl) ?_)))))))))
 refine Q7 rfl rfl rfl (Qe rfl rfl (WpL.nil (Qz rfl (by omega) ?_)))
 refine Qa (Qc rfl rfl (Qc rfl rfl (Qc rfl rfl (Qh rfl rfl (by repeat' constructor) (hdNum_spec g l0 l1 l2 s pt A c hc0 hc1 hl hI hat hT0) ?_))))
 rintro _ _ ⟨s', pt', A', hs, rfl, hok, rfl⟩
 simp only [Qr]
 refine Qq rfl rfl (Qj (o2 := 10) rfl rfl rfl (Q3 rfl rfl rfl (WpL.nil (Qb (Qa (Qc rfl rfl (Qq rfl rfl (Qj (o2 := 10) rfl rfl rfl (Qo rfl rfl (by rfl) ?_)))))))))
 refine Qe rfl rfl (WpL.nil (Qi ?_))
 apply RetQ.mk
 ·exact (Res.one rfl rfl)
 ·exact ⟨s', pt', A', by unfold Q1; rw [if_neg (fun h => h hI.1), if_neg (by omega)]; exact hs, rfl, hok, rfl⟩
 ·exact Ent.refl _


theorem hdPut_spec (g : Nat) (l0 l1 l2 : Int) (s : HS) (pt : Value) (A : HP) (c : Int) (hc0 : 0 ≤ c) (hc1 : c ≤ 255) (hl : (1 ≤ l0 ∧ l0 ≤ 4096) ∧ (1 ≤ l1 ∧ l1 ≤ 65536) ∧ (1 ≤ l2 ∧ l2 ≤ 65535)) (hI : hdI s) (hT0 : hdT l0 l1 l2 s pt A) : Fn Tryz.prog 123 #[.pointer (some ⟨g, 0, none⟩), .int .u8 c] [QA g [.int .i64 s.K, .int .i64 s.W, .int .i64 s.H, .int .i64 s.M, .int .i64 l0, .int .i64 l1, .int .i64 l2, .int .i64 s.at_, .int .i64 s.i, pt, .int .i64 0, .int .i64 s.e] 234, A] (fun v l => ∃ s' pt' A', s' = Q1 l0 l1 l2 s c ∧ v = .int .i64 s'.last ∧ (s'.last = 0 → hdI s' ∧ hdT l0 l1 l2 s' pt' A') ∧ l = [QA g [.int .i64 s'.K, .int .i64 s'.W, .int .i64 s'.H, .int .i64 s'.M, .int .i64 l0, .int .i64 l1, .int .i64 l2, .int .i64 s'.at_, .int .i64 s'.i, pt', .int .i64 s'.last, .int .i64 s'.e] 234, A']) := by
  rcases hT0 with ⟨q1, q2, q3⟩ | ⟨q1, q2⟩
  · exact hdPut_m g l0 l1 l2 s pt A c hc0 hc1 hl hI (.inl ⟨q1, q2, q3⟩) q1 q3
  · exact hdPut_n g l0 l1 l2 s pt A c hc0 hc1 hl hI (.inr ⟨q1, q2⟩) q1

theorem lim_spec (x y : Int) : Fn Tryz.prog 162 #[.int .i64 x, .int .i64 y] [] (fun v l => v = .int .i64 (min (max x 1) y) ∧ l = []) := by
 refine Qk (vs := [.int .i64 x, .int .i64 y]) Tryz.func162 rfl Tryz.ntmps162 rfl (Qb (Qa (Qe rfl rfl (WpL.nil (Qb (Qa (Qc rfl rfl (s_max2 rfl rfl rfl (Qc rfl rfl (s_min2 rfl rfl rfl (Qe rfl rfl (WpL.nil ?_))))))))))))
 refine Qi ?_
 apply RetQ.mk
 ·exact (Res.one rfl rfl)
 ·exact ⟨rfl, rfl⟩
 ·exact Ent.refl _

theorem hdNew_spec (a b d : Int) : Fn Tryz.prog 112 #[.agg #[.int .i64 a, .int .i64 b, .int .i64 d]] [] (fun v l => ∃ g, v = .pointer (some ⟨g, 0, none⟩) ∧ l = [QA g [.int .i64 0, .int .i64 0, .int .i64 0, .int .i64 0, .int .i64 (min (max a 1) 4096), .int .i64 (min (max b 1) 65536), .int .i64 (min (max d 1) 65535), .int .i64 0, .int .i64 0, .pointer none, .int .i64 0, .int .i64 9] 234]) := by
 refine Qk (vs := [.agg #[.int .i64 a, .int .i64 b, .int .i64 d]]) Tryz.func112 rfl Tryz.ntmps112 rfl (Qb (Qa (Q9 rfl rfl rfl ?_)))
 intro g1
 refine Qe rfl rfl (WpL.nil (Qb (Qa (Qe rfl rfl (WpL.nil (Qb ?_))))))
 apply Xs (fB := []) mixed [(14, false)] (by kernel_rfl)
 apply Xk [⟨0, 4, _, [], false⟩, ⟨1, 5, _, [], false⟩, ⟨2, 6, _, [1], false⟩, ⟨3, 7, _, [0, 2], false⟩, ⟨4, 8, _, [], false⟩, ⟨5, 9, _, [], false⟩, ⟨6, 10, _, [5], false⟩, ⟨7, 11, _, [3, 4, 6], false⟩, ⟨8, 12, _, [], false⟩, ⟨9, 13, _, [], false⟩, ⟨10, 14, _, [9], false⟩, ⟨11, 15, _, [7, 8, 10], false⟩, ⟨12, 16, _, [3, 7, 11], false⟩, ⟨13, 17, _, [12], false⟩] [] [0, 1, 2, 3, 4, 5, 6, 7, 8, 9, 10, 11, 12, 13] [2] (.inr rfl) rfl rfl rfl (by kernel_rfl) rfl rfl rfl
 ·refine AllF.cons rfl rfl rfl rfl ?_ ?_
  ·exact Qc rfl rfl (Qm rfl)
  refine AllF.cons rfl rfl rfl rfl ?_ ?_
  ·exact Qj (o2 := 0) rfl rfl rfl (Qm rfl)
  refine AllF.cons rfl rfl rfl rfl ?_ ?_
  ·refine Qo rfl rfl (by rfl) ?_
   exact Qm rfl
  refine AllF.cons rfl rfl rfl rfl ?_ ?_
  ·refine X3 (u := []) (c := []) rfl rfl rfl rfl (by repeat' constructor) (lim_spec _ _) ?_
   rintro _ _ ⟨rfl, rfl⟩
   simp only [Qr]
   exact WpL.nil ⟨rfl, rfl, rfl, by exact Ent.refl _⟩
  refine AllF.cons rfl rfl rfl rfl ?_ ?_
  ·exact Qc rfl rfl (Qm rfl)
  refine AllF.cons rfl rfl rfl rfl ?_ ?_
  ·exact Qj (o2 := 1) rfl rfl rfl (Qm rfl)
  refine AllF.cons rfl rfl rfl rfl ?_ ?_
  ·refine Qo rfl rfl (by rfl) ?_
   exact Qm rfl
  refine AllF.cons rfl rfl rfl rfl ?_ ?_
  ·refine X3 (u := []) (c := []) rfl rfl rfl rfl (by repeat' constructor) (lim_spec _ _) ?_
   rintro _ _ ⟨rfl, rfl⟩
   simp only [Qr]
   exact WpL.nil ⟨rfl, rfl, rfl, by exact Ent.refl _⟩
  refine AllF.cons rfl rfl rfl rfl ?_ ?_
  ·exact Qc rfl rfl (Qm rfl)
  refine AllF.cons rfl rfl rfl rfl ?_ ?_
  ·exact Qj (o2 := 2) rfl rfl rfl (Qm rfl)
  refine AllF.cons rfl rfl rfl rfl ?_ ?_
  ·refine Qo rfl rfl (by rfl) ?_
   exact Qm rfl
  refine AllF.cons rfl rfl rfl rfl ?_ ?_
  ·refine X3 (u := []) (c := []) rfl rfl rfl rfl (by repeat' constructor) (lim_spec _ _) ?_
   rintro _ _ ⟨rfl, rfl⟩
   simp only [Qr]
   exact WpL.nil ⟨rfl, rfl, rfl, by exact Ent.refl _⟩
  refine AllF.cons rfl rfl rfl rfl ?_ ?_
  ·refine YI rfl rfl ?_
   exact Qm rfl
  refine AllF.cons rfl rfl rfl rfl ?_ ?_
  ·refine YI rfl rfl ?_
   exact Qm rfl
  exact AllF.nil
 ·refine Q9 rfl rfl rfl ?_
  intro g2
  refine WpL.nil ⟨rfl, rfl, ?_⟩
  apply GoR.nil [⟨15, 2, _, [0, 1, 2, 3, 4, 5, 6, 7, 8, 9, 10, 11, 12, 13, 14], false⟩] (.inr rfl) rfl rfl
  ·refine AllF.cons rfl rfl rfl rfl ?_ ?_
   ·exact Qe rfl rfl (Qm rfl)
   exact AllF.nil
  ·refine Qi ?_
   apply RetQ.mk
   ·exact (Res.one rfl rfl)
   ·exact ⟨_, rfl, rfl⟩
   ·exact Take.ent' (by repeat' constructor)

theorem hdHead_spec (g : Nat) (K W H M l0 l1 l2 at_ i la e : Int) (pt : Value) : Fn Tryz.prog 116 #[.pointer (some ⟨g, 0, none⟩)] [QA g [.int .i64 K, .int .i64 W, .int .i64 H, .int .i64 M, .int .i64 l0, .int .i64 l1, .int .i64 l2, .int .i64 at_, .int .i64 i, pt, .int .i64 la, .int .i64 e] 234] (fun v l => ((e ≠ 0 ∧ v = .tuple #[.agg #[.int .i64 0, .int .i64 0, .int .i64 0, .int .i64 0], .int .i64 e]) ∨ (e = 0 ∧ v = .tuple #[.agg #[.int .i64 K, .int .i64 W, .int .i64 H, .int .i64 M], .int .i64 0])) ∧ l = [QA g [.int .i64 K, .int .i64 W, .int .i64 H, .int .i64 M, .int .i64 l0, .int .i64 l1, .int .i64 l2, .int .i64 at_, .int .i64 i, pt, .int .i64 la, .int .i64 e] 234]) := by
 refine Qk (vs := [.pointer (some ⟨g, 0, none⟩)]) Tryz.func116 rfl Tryz.ntmps116 rfl ?_
 refine Qb (Qa (YE rfl ?_))
 intro g1
 refine Qe rfl rfl (WpL.nil (Qb (Qb (Qa (Qc rfl rfl (Qq rfl rfl (Qj (o2 := 11) rfl rfl rfl (Qo rfl rfl (by rfl) ?_))))))))
 refine Xn rfl rfl rfl (WpL.nil (Ql rfl (fun h0 => ?_) (fun h0 => ?_)))
 ·refine Qb ?_
  apply Xs (fB := [QA g [.int .i64 K, .int .i64 W, .int .i64 H, .int .i64 M, .int .i64 l0, .int .i64 l1, .int .i64 l2, .int .i64 at_, .int .i64 i, pt, .int .i64 la, .int .i64 e] 234]) mixed [(5, false)] (by kernel_rfl)
  apply Xk [⟨0, 9, _, [], false⟩, ⟨1, 10, _, [], true⟩, ⟨2, 11, _, [1], true⟩, ⟨3, 12, _, [2], true⟩, ⟨4, 13, _, [3], true⟩] [] [0] [3, 10, 11, 12, 13] (.inl ⟨_, by repeat' constructor⟩) rfl rfl rfl (by kernel_rfl) rfl rfl rfl
  ·refine AllF.cons rfl rfl rfl rfl ?_ ?_
   ·refine YI rfl rfl ?_
    exact Qm rfl
   refine XQ rfl rfl rfl rfl ?_ ?_
   ·exact Qc rfl rfl (Qm rfl)
   refine XQ rfl rfl rfl rfl ?_ ?_
   ·exact Qq rfl rfl (Qm rfl)
   refine XQ rfl rfl rfl rfl ?_ ?_
   ·exact Qj (o2 := 11) rfl rfl rfl (Qm rfl)
   refine XQ rfl rfl rfl rfl ?_ ?_
   ·refine Qo rfl rfl (by rfl) ?_
    exact Qm rfl
   exact AllF.nil
  ·refine XL rfl rfl rfl (by rfl) rfl ?_
   refine WpL.nil ⟨rfl, rfl, ?_⟩
   apply GoR.nil [⟨6, 3, _, [0, 1, 2, 3, 4, 5], false⟩] (.inl ⟨_, by repeat' constructor⟩) rfl rfl
   ·refine AllF.cons rfl rfl rfl rfl ?_ ?_
    ·exact Qe rfl rfl (Qm rfl)
    exact AllF.nil
   ·refine Qi ?_
    apply RetQ.mk
    ·exact (ZD rfl rfl (by rfl) rfl)
    ·exact ⟨.inl ⟨h0, rfl⟩, rfl⟩
    ·exact Take.ent' (by repeat' constructor)
 ·refine Wp.skip (Qb (Qa (Qc rfl rfl (Qq rfl rfl (Qj (o2 := 0) rfl rfl rfl ?_)))))
  refine QI (vs := [_, _, _, _]) rfl rfl rfl (by rfl) ?_
  refine XL rfl rfl rfl (by rfl) rfl ?_
  refine Qe rfl rfl (WpL.nil (Qi ?_))
  apply RetQ.mk
  ·exact (ZD rfl rfl (by rfl) rfl)
  ·exact ⟨.inr ⟨Classical.not_not.1 h0, rfl⟩, rfl⟩
  ·exact Take.ent' (by repeat' constructor)

end Go.Proofs.YtggamdlpiejbiaaGreat
namespace Go.Proofs.YtggamdlpiejbiaaGreat
open Go.RowKit Go.Shelf


def RInv (ch : Int) (k m : Nat) (s : RS) : Prop := (s.one.length : Int) < ch ∧ m + s.row.length ≤ k ∧ 0 ≤ s.rows ∧ s.rows ≤ k
theorem chK_pos (K : Int) : 1 ≤ QW K ∧ QW K ≤ 3 := by unfold QW; split <;> omega
theorem sampleS_inv {ch : Int} (h : 1 ≤ ch) (one row : List Int) (x : Int) (h1 : (one.length : Int) < ch) : ((XE ch one row x).1.length : Int) < ch ∧ (XE ch one row x).2.length ≤ row.length + 1 := by
  unfold XE
  split
  · simp; omega
  · rename_i h2; simp at h2 ⊢; omega
theorem endsR_inv {ch : Int} (h : 1 ≤ ch) {k m : Nat} {s : RS} (hs : RInv ch k m s) : RInv ch (k + 1) m (YA ch s) := by
  obtain ⟨h1, h2, h3, h4⟩ := hs
  unfold YA
  split
  · exact ⟨h1, by omega, h3, by omega⟩
  · have := sampleS_inv h s.one s.row s.n h1
    exact ⟨this.1, by simp only; omega, h3, by simp only; omega⟩
theorem RInv.up {ch : Int} {k m : Nat} {s : RS} (hs : RInv ch k m s) : RInv ch (k + 1) m s := ⟨hs.1, by have := hs.2.1; omega, hs.2.2.1, by have := hs.2.2.2; omega⟩
theorem stepR_inv {K M c : Int} {k m : Nat} {s : RS} (hs : RInv (QW K) k m s) : RInv (QW K) (k + 1) m (XW K M s c).1 := by
  have hch := chK_pos K
  unfold XW bitR Z2
  repeat' split
  all_goals first | exact hs.up | exact endsR_inv hch.1 hs | skip
  have := sampleS_inv hch.1 s.one s.row (c - 48) hs.1
  obtain ⟨h1, h2, h3, h4⟩ := hs
  exact ⟨this.1, by simp only [YL]; omega, h3, by simp only [YL]; omega⟩
theorem fullR_inv {ch W H : Int} {k m : Nat} {s : RS} (_hch : 1 ≤ ch) (hs : RInv ch (k + 1) m s) (hr : s.rows ≤ k) : RInv ch (k + 1) (m + (XB W H s).2.length) (XB W H s).1 := by
  obtain ⟨h1, h2, h3, h4⟩ := hs
  unfold XB
  split
  · exact ⟨h1, by simp; omega, h3, h4⟩
  · exact ⟨h1, by simp; omega, by simp only; omega, by simp only; omega⟩
theorem putR_inv {K W H M c : Int} {k m : Nat} {s : RS} (hs : RInv (QW K) k m s) : RInv (QW K) (k + 1) (m + (XH K W H M s c).2.length) (XH K W H M s c).1 := by
  have h := stepR_inv (M := M) (c := c) hs
  have hk := (Vj K M s c).1
  unfold XH
  split
  · exact hs.up
  · split
    · exact h
    · exact fullR_inv (chK_pos K).1 h (by rw [hk]; exact hs.2.2.2)
theorem putR_last {K W H M c : Int} {s : RS} (hs : s.last = 0) : (XH K W H M s c).1.last = 0 ∨ (XH K W H M s c).1.last = 1 ∨ (XH K W H M s c).1.last = 2 := by
  have h := (Vj K M s c).2.1
  unfold XH
  split
  · exact .inl hs
  · split
    · exact .inr (.inr rfl)
    · unfold XB
      split
      · exact .inl (h.trans hs)
      · simp only
        split
        · exact .inr (.inl rfl)
        · exact .inl (h.trans hs)
def s0R : RS := ⟨-1, [], [], 0, 0, 0⟩
end Go.Proofs.YtggamdlpiejbiaaGreat
namespace Go.Proofs.YtggamdlpiejbiaaGreat
open Go.RowKit Go.Shelf

section
variable {K W H M n rows last e x c : Int} {one row : List Int}
theorem fullR_no {s : RS} (hr : (s.row.length : Int) < W) : XB W H s = (s, []) := if_pos hr
theorem putQ_step {s s' : RS} (h : s.last = 0) (he : XW K M s c = (s', 0)) : XH K W H M s c = XB W H s' := by
  unfold XH; rw [if_neg (by omega), he, if_neg (by simp)]
end

def RGood (K W : Int) (s : RS) : Prop := -1 ≤ s.n ∧ (K = 1 → s.n = -1) ∧ (s.row.length : Int) < W
section
variable {K W H M n rows last e x c : Int} {one row : List Int}
theorem stp_bn (hl : last = 0) (hr : (row.length : Int) < W) (hn : n = -1) (hb : Q6 c = true) : XH K W H M ⟨n, one, row, rows, last, e⟩ c = (⟨n, one, row, rows, last, e⟩, []) := by
  have he : YA (QW K) ⟨n, one, row, rows, last, e⟩ = ⟨n, one, row, rows, last, e⟩ := if_pos hn
  rw [putQ_step (s' := ⟨n, one, row, rows, last, e⟩) hl (by unfold XW; split; exact if_pos hb; unfold Z2; rw [if_pos hb, he])]
  exact fullR_no hr
theorem stp_bs (hl : last = 0) (hn : n ≠ -1) (hK : K = 1 → n = -1) (hb : Q6 c = true) : XH K W H M ⟨n, one, row, rows, last, e⟩ c = XB W H (YL (QW K) ⟨-1, one, row, rows, last, e⟩ n) := by
  have he : YA (QW K) ⟨n, one, row, rows, last, e⟩ = YL (QW K) ⟨-1, one, row, rows, last, e⟩ n := if_neg hn
  rw [putQ_step hl (by unfold XW; rw [if_neg (fun h => hn (hK h))]; unfold Z2; rw [if_pos hb, he])]
theorem stp_b1 (hl : last = 0) (hK : K = 1) (hb : Q6 c = false) (h : c = 48 ∨ c = 49) : XH K W H M ⟨n, one, row, rows, last, e⟩ c = XB W H (YL (QW K) ⟨n, one, row, rows, last, e⟩ (c - 48)) := by
  rw [putQ_step hl (by unfold XW; rw [if_pos hK]; unfold bitR; rw [if_neg (by rw [hb]; decide), if_neg (by omega)])]
theorem stp_n0 (hl : last = 0) (hr : (row.length : Int) < W) (hK : K ≠ 1) (hb : Q6 c = false) (h : (Xo (max n 0) c M).2 ≠ 4) (h0 : (Xo (max n 0) c M).2 = 0) : XH K W H M ⟨n, one, row, rows, last, e⟩ c = (⟨(Xo (max n 0) c M).1, one, row, rows, last, e⟩, []) := by
  rw [putQ_step (s' := ⟨(Xo (max n 0) c M).1, one, row, rows, last, e⟩) hl (by unfold XW; rw [if_neg hK]; unfold Z2; rw [if_neg (by rw [hb]; decide), if_neg h, if_pos h0])]
  exact fullR_no hr
theorem stepN_nn (hn : 0 ≤ n) : 0 ≤ (Xo n c M).1 := by
  unfold Xo
  repeat' split
  all_goals simp only; omega
theorem fullR_good {s : RS} (hW : 1 ≤ W) (h1 : -1 ≤ s.n) (h2 : K = 1 → s.n = -1) : RGood K W (XB W H s).1 := by
  unfold XB
  split
  · exact ⟨h1, h2, by assumption⟩
  · exact ⟨h1, h2, by simp; omega⟩
theorem endsR_n {ch : Int} {s : RS} : (YA ch s).n = -1 := by unfold YA; split <;> simp_all
theorem stepR_n {s : RS} (h1 : -1 ≤ s.n) (h2 : K = 1 → s.n = -1) : -1 ≤ (XW K M s c).1.n ∧ (K = 1 → (XW K M s c).1.n = -1) := by
  unfold XW
  split
  · rename_i hK
    unfold bitR
    repeat' split
    all_goals exact ⟨h1, h2⟩
  · rename_i hK
    refine ⟨?_, fun h => absurd h hK⟩
    unfold Z2
    repeat' split
    · rw [endsR_n]; decide
    · exact h1
    · have := stepN_nn (n := max s.n 0) (c := c) (M := M) (by omega)
      simp only; omega
    · exact h1
theorem stepR_er {s : RS} (h : (XW K M s c).2 ≠ 0) : (XW K M s c).1 = s := by
  revert h
  unfold XW bitR Z2
  repeat' split
  all_goals simp_all
theorem putR_good {s : RS} (hW : 1 ≤ W) (h : RGood K W s) : RGood K W (XH K W H M s c).1 := by
  have h1 := stepR_n (M := M) (c := c) h.1 h.2.1
  unfold XH
  split
  · exact h
  · split
    · rename_i hr
      exact ⟨h1.1, h1.2, by simp only [wrongR]; rw [stepR_er hr]; exact h.2.2⟩
    · exact fullR_good hW h1.1 h1.2
end

theorem rbits_spec (K : Int) : Fn Tryz.prog 101 #[.int .i64 K] [] (fun v l => v = .bool (decide (K = 1 ∨ K = 4)) ∧ l = []) := by
 refine Qk (vs := [.int .i64 K]) Tryz.func101 rfl Tryz.ntmps101 rfl (Qb (Qa (Qe rfl rfl (WpL.nil (Qb (Qa (Qc rfl rfl (QN rfl rfl rfl (Qc rfl rfl (QK rfl rfl rfl (fun hg1 => ?_) (fun hg1 => ?_)))))))))))
 ·have hg1 := of_decide_eq_false hg1
  refine Qc rfl rfl (Qf rfl rfl (QN rfl rfl rfl (Qs rfl rfl rfl (Qe rfl rfl (WpL.nil (Qi ?_))))))
  apply RetQ.mk
  ·exact (Res.one rfl rfl)
  ·exact ⟨congrArg Value.bool (by exact dd (by omega)), rfl⟩
  ·exact Ent.refl _
 ·have hg1 := of_decide_eq_true hg1
  refine Qd rfl rfl rfl (by decide) (Qt rfl rfl rfl (Qe rfl rfl (WpL.nil (Qi ?_))))
  apply RetQ.mk
  ·exact (Res.one rfl rfl)
  ·exact ⟨congrArg Value.bool (by exact dt (by omega)), rfl⟩
  ·exact Ent.refl _

theorem rMay06_spec (K W H M : Int) : Fn Tryz.prog 117 #[.agg #[.int .i64 K, .int .i64 W, .int .i64 H, .int .i64 M]] [] (fun v l => v = .bool (decide (Xv K W H M)) ∧ l = []) := by
 refine Qk (vs := [.agg #[.int .i64 K, .int .i64 W, .int .i64 H, .int .i64 M]]) Tryz.func117 rfl Tryz.ntmps117 rfl (Qb (Qa (Q9 rfl rfl rfl ?_)))
 intro g1
 refine Qe rfl rfl (WpL.nil (Qb (Qb (Qa (Qj (o2 := 0) rfl rfl rfl (Qo rfl rfl (by rfl) ?_))))))
 refine Q7 rfl rfl rfl (Qc rfl rfl (QK rfl rfl rfl (fun hg1 => ?_) (fun hg1 => ?_)))
 ·have hg1 := of_decide_eq_false hg1
  refine Qj (o2 := 0) rfl rfl rfl (Qf rfl rfl (Qo rfl rfl (by rfl) ?_))
  refine Qf rfl rfl (Zm rfl rfl rfl (Qs rfl rfl rfl (Qc rfl rfl (QK rfl rfl rfl (fun hg2 => ?_) (fun hg2 => ?_)))))
  ·have hg2 := of_decide_eq_false hg2
   refine Qj (o2 := 1) rfl rfl rfl (Qf rfl rfl (Qo rfl rfl (by rfl) ?_))
   refine Qf rfl rfl (Q7 rfl rfl rfl (Qs rfl rfl rfl (Qc rfl rfl (QK rfl rfl rfl (fun hg3 => ?_) (fun hg3 => ?_)))))
   ·have hg3 := of_decide_eq_false hg3
    refine Qj (o2 := 1) rfl rfl rfl (Qf rfl rfl (Qo rfl rfl (by rfl) ?_))
    refine Qf rfl rfl (Zm rfl rfl rfl (Qs rfl rfl rfl (Qc rfl rfl (QK rfl rfl rfl (fun hg4 => ?_) (fun hg4 => ?_)))))
    ·have hg4 := of_decide_eq_false hg4
     refine Qj (o2 := 2) rfl rfl rfl (Qf rfl rfl (Qo rfl rfl (by rfl) ?_))
     refine Qf rfl rfl (Q7 rfl rfl rfl (Qs rfl rfl rfl (Qc rfl rfl (QK rfl rfl rfl (fun hg5 => ?_) (fun hg5 => ?_)))))
     ·have hg5 := of_decide_eq_false hg5
      refine Qj (o2 := 2) rfl rfl rfl (Qf rfl rfl (Qo rfl rfl (by rfl) ?_))
      refine Qf rfl rfl (Zm rfl rfl rfl (Qs rfl rfl rfl (Qc rfl rfl (QK rfl rfl rfl (fun hg6 => ?_) (fun hg6 => ?_)))))
      ·have hg6 := of_decide_eq_false hg6
       refine Qj (o2 := 3) rfl rfl rfl (Qf rfl rfl (Qo rfl rfl (by rfl) ?_))
       refine Qf rfl rfl (Q7 rfl rfl rfl (Qs rfl rfl rfl (Qc rfl rfl (QK rfl rfl rfl (fun hg7 => ?_) (fun hg7 => ?_)))))
       ·have hg7 := of_decide_eq_false hg7
        refine Qj (o2 := 3) rfl rfl rfl (Qf rfl rfl (Qo rfl rfl (by rfl) ?_))
        refine Qf rfl rfl (Zm rfl rfl rfl (Qs rfl rfl rfl (WpL.nil (Ql rfl (fun h0 => ?_) (fun h0 => ?_)))))
        ·refine Qb (Qa (Qe rfl rfl (WpL.nil (Qi ?_))))
         apply RetQ.mk
         ·exact (Res.one rfl rfl)
         ·exact ⟨congrArg Value.bool (by exact df (by unfold Xv; omega)), rfl⟩
         ·exact Ent.nil _
        ·refine Wp.skip (Qb (Qa (Qj (o2 := 3) rfl rfl rfl (Qo rfl rfl (by rfl) ?_))))
         refine QN rfl rfl rfl (Qc rfl rfl (QK rfl rfl rfl (fun hg8 => ?_) (fun hg8 => ?_)))
         ·have hg8 := of_decide_eq_false hg8
          refine Qj (o2 := 0) rfl rfl rfl (Qf rfl rfl (Qo rfl rfl (by rfl) ?_))
          refine Qf rfl rfl (Qh rfl rfl (by repeat' constructor) (rbits_spec _) ?_)
          rintro _ _ ⟨rfl, rfl⟩
          simp only [Qr]
          refine Qf rfl rfl (XN rfl rfl (Qs rfl rfl rfl (Qe rfl rfl (WpL.nil (Qi ?_)))))
          apply RetQ.mk
          ·exact (Res.one rfl rfl)
          ·exact ⟨congrArg Value.bool (by exact dd (by unfold Xv; omega)), rfl⟩
          ·exact Ent.nil _
         ·have hg8 := of_decide_eq_true hg8
          refine Qd rfl rfl rfl (by decide) (Qd rfl rfl rfl (by decide) (Qd rfl rfl rfl (by decide) (Qt rfl rfl rfl (Qe rfl rfl (WpL.nil (Qi ?_))))))
          apply RetQ.mk
          ·exact (Res.one rfl rfl)
          ·exact ⟨congrArg Value.bool (by exact dt (by unfold Xv; omega)), rfl⟩
          ·exact Ent.nil _
       ·have hg7 := of_decide_eq_true hg7
        refine Qd rfl rfl rfl (by decide) (Qd rfl rfl rfl (by decide) (Qt rfl rfl rfl (WpL.nil (Xc rfl (Qb (Qa (Qe rfl rfl (WpL.nil (Qi ?_)))))))))
        apply RetQ.mk
        ·exact (Res.one rfl rfl)
        ·exact ⟨congrArg Value.bool (by exact df (by unfold Xv; omega)), rfl⟩
        ·exact Ent.nil _
      ·have hg6 := of_decide_eq_true hg6
       refine Qd rfl rfl rfl (by decide) (Qd rfl rfl rfl (by decide) (Qt rfl rfl rfl (Qc rfl rfl (Qd rfl rfl rfl (by decide) (Qd rfl rfl rfl (by decide) (Qd rfl rfl rfl (by decide) (Qt rfl rfl rfl (WpL.nil (Xc rfl (Qb (Qa (Qe rfl rfl ?_))))))))))))
       refine WpL.nil (Qi ?_)
       apply RetQ.mk
       ·exact (Res.one rfl rfl)
       ·exact ⟨congrArg Value.bool (by exact df (by unfold Xv; omega)), rfl⟩
       ·exact Ent.nil _
     ·have hg5 := of_decide_eq_true hg5
      refine Qd rfl rfl rfl (by decide) (Qd rfl rfl rfl (by decide) (Qt rfl rfl rfl (Qc rfl rfl (Qd rfl rfl rfl (by decide) (Qd rfl rfl rfl (by decide) (Qd rfl rfl rfl (by decide) (Qt rfl rfl rfl (Qc rfl rfl (Qd rfl rfl rfl (by decide) (Qd rfl rfl rfl (by decide) (Qd rfl rfl rfl (by decide) (Qt rfl rfl rfl ?_))))))))))))
      refine WpL.nil (Xc rfl (Qb (Qa (Qe rfl rfl (WpL.nil (Qi ?_))))))
      apply RetQ.mk
      ·exact (Res.one rfl rfl)
      ·exact ⟨congrArg Value.bool (by exact df (by unfold Xv; omega)), rfl⟩
      ·exact Ent.nil _
    ·have hg4 := of_decide_eq_true hg4
     refine Qd rfl rfl rfl (by decide) (Qd rfl rfl rfl (by decide) (Qt rfl rfl rfl (Qc rfl rfl (Qd rfl rfl rfl (by decide) (Qd rfl rfl rfl (by decide) (Qd rfl rfl rfl (by decide) (Qt rfl rfl rfl (Qc rfl rfl (Qd rfl rfl rfl (by decide) (Qd rfl rfl rfl (by decide) (Qd rfl rfl rfl (by decide) (Qt rfl rfl rfl ?_))))))))))))
     refine Qc rfl rfl (Qd rfl rfl rfl (by decide) (Qd rfl rfl rfl (by decide) (Qd rfl rfl rfl (by decide) (Qt rfl rfl rfl (WpL.nil (Xc rfl (Qb (Qa (Qe rfl rfl (WpL.nil (Qi ?_)))))))))))
     apply RetQ.mk
     ·exact (Res.one rfl rfl)
     ·exact ⟨congrArg Value.bool (by exact df (by unfold Xv; omega)), rfl⟩
     ·exact Ent.nil _
   ·have hg3 := of_decide_eq_true hg3
    refine Qd rfl rfl rfl (by decide) (Qd rfl rfl rfl (by decide) (Qt rfl rfl rfl (Qc rfl rfl (Qd rfl rfl rfl (by decide) (Qd rfl rfl rfl (by decide) (Qd rfl rfl rfl (by decide) (Qt rfl rfl rfl (Qc rfl rfl (Qd rfl rfl rfl (by decide) (Qd rfl rfl rfl (by decide) (Qd rfl rfl rfl (by decide) (Qt rfl rfl rfl ?_))))))))))))
    refine Qc rfl rfl (Qd rfl rfl rfl (by decide) (Qd rfl rfl rfl (by decide) (Qd rfl rfl rfl (by decide) (Qt rfl rfl rfl (Qc rfl rfl (Qd rfl rfl rfl (by decide) (Qd rfl rfl rfl (by decide) (Qd rfl rfl rfl (by decide) (Qt rfl rfl rfl (WpL.nil (Xc rfl (Qb ?_))))))))))))
    refine Qa (Qe rfl rfl (WpL.nil (Qi ?_)))
    apply RetQ.mk
    ·exact (Res.one rfl rfl)
    ·exact ⟨congrArg Value.bool (by exact df (by unfold Xv; omega)), rfl⟩
    ·exact Ent.nil _
  ·have hg2 := of_decide_eq_true hg2
   refine Qd rfl rfl rfl (by decide) (Qd rfl rfl rfl (by decide) (Qt rfl rfl rfl (Qc rfl rfl (Qd rfl rfl rfl (by decide) (Qd rfl rfl rfl (by decide) (Qd rfl rfl rfl (by decide) (Qt rfl rfl rfl (Qc rfl rfl (Qd rfl rfl rfl (by decide) (Qd rfl rfl rfl (by decide) (Qd rfl rfl rfl (by decide) (Qt rfl rfl rfl ?_))))))))))))
   refine Qc rfl rfl (Qd rfl rfl rfl (by decide) (Qd rfl rfl rfl (by decide) (Qd rfl rfl rfl (by decide) (Qt rfl rfl rfl (Qc rfl rfl (Qd rfl rfl rfl (by decide) (Qd rfl rfl rfl (by decide) (Qd rfl rfl rfl (by decide) (Qt rfl rfl rfl (Qc rfl rfl (Qd rfl rfl rfl (by decide) (Qd rfl rfl rfl (by decide) ?_))))))))))))
   refine Qd rfl rfl rfl (by decide) (Qt rfl rfl rfl (WpL.nil (Xc rfl (Qb (Qa (Qe rfl rfl (WpL.nil (Qi ?_))))))))
   apply RetQ.mk
   ·exact (Res.one rfl rfl)
   ·exact ⟨congrArg Value.bool (by exact df (by unfold Xv; omega)), rfl⟩
   ·exact Ent.nil _
 ·have hg1 := of_decide_eq_true hg1
  refine Qd rfl rfl rfl (by decide) (Qd rfl rfl rfl (by decide) (Qt rfl rfl rfl (Qc rfl rfl (Qd rfl rfl rfl (by decide) (Qd rfl rfl rfl (by decide) (Qd rfl rfl rfl (by decide) (Qt rfl rfl rfl (Qc rfl rfl (Qd rfl rfl rfl (by decide) (Qd rfl rfl rfl (by decide) (Qd rfl rfl rfl (by decide) (Qt rfl rfl rfl ?_))))))))))))
  refine Qc rfl rfl (Qd rfl rfl rfl (by decide) (Qd rfl rfl rfl (by decide) (Qd rfl rfl rfl (by decide) (Qt rfl rfl rfl (Qc rfl rfl (Qd rfl rfl rfl (by decide) (Qd rfl rfl rfl (by decide) (Qd rfl rfl rfl (by decide) (Qt rfl rfl rfl (Qc rfl rfl (Qd rfl rfl rfl (by decide) (Qd rfl rfl rfl (by decide) ?_))))))))))))
  refine Qd rfl rfl rfl (by decide) (Qt rfl rfl rfl (Qc rfl rfl (Qd rfl rfl rfl (by decide) (Qd rfl rfl rfl (by decide) (Qd rfl rfl rfl (by decide) (Qt rfl rfl rfl (WpL.nil (Xc rfl (Qb (Qa (Qe rfl rfl (WpL.nil ?_))))))))))))
  refine Qi ?_
  apply RetQ.mk
  ·exact (Res.one rfl rfl)
  ·exact ⟨congrArg Value.bool (by exact df (by unfold Xv; omega)), rfl⟩
  ·exact Ent.nil _

theorem rMay_spec (K W H M : Int) : Fn Tryz.prog 119 #[.agg #[.int .i64 K, .int .i64 W, .int .i64 H, .int .i64 M]] [] (fun v l => v = .bool (decide (Zi K W H M)) ∧ l = []) := by
 refine Qk (vs := [.agg #[.int .i64 K, .int .i64 W, .int .i64 H, .int .i64 M]]) Tryz.func119 rfl Tryz.ntmps119 rfl (Qb (Qa (Q9 rfl rfl rfl ?_)))
 intro g1
 refine Qe rfl rfl (WpL.nil (Qb (Qa ?_)))
 refine QI (vs := [_, _, _, _]) rfl rfl rfl (by rfl) ?_
 refine Qh rfl rfl (by repeat' constructor) (rMay06_spec _ _ _ _) ?_
 rintro _ _ ⟨rfl, rfl⟩
 simp only [Qr]
 refine Qe rfl rfl (WpL.nil (Qb (Qa (Qc rfl rfl (Qc rfl rfl (QK rfl rfl rfl (fun hg1 => ?_) (fun hg1 => ?_)))))))
 ·have hg1 := of_decide_eq_true hg1
  refine Qj (o2 := 0) rfl rfl rfl (Qf rfl rfl (Qo rfl rfl (by rfl) ?_))
  refine Qf rfl rfl (Q7 rfl rfl rfl (Qt rfl rfl rfl (Qe rfl rfl (WpL.nil (Qi ?_)))))
  apply RetQ.mk
  ·exact (Res.one rfl rfl)
  ·exact ⟨congrArg Value.bool (by exact dd (by simp only [Zi, Xv] at *; omega)), rfl⟩
  ·exact Ent.nil _
 ·have hg1 := of_decide_eq_false hg1
  refine Qd rfl rfl rfl (by decide) (Qd rfl rfl rfl (by decide) (Qs rfl rfl rfl (Qe rfl rfl (WpL.nil (Qi ?_)))))
  apply RetQ.mk
  ·exact (Res.one rfl rfl)
  ·exact ⟨congrArg Value.bool (by exact df (by simp only [Zi, Xv] at *; omega)), rfl⟩
  ·exact Ent.nil _

end Go.Proofs.YtggamdlpiejbiaaGreat
namespace Go.Proofs.YtggamdlpiejbiaaGreat
open Go.RowKit Go.Shelf


def QX (x m : Int) : Int := (if x < 0 then -(x + 1) else x) % m
theorem YN {x m : Int} (h : 1 ≤ m) : 0 ≤ QX x m ∧ QX x m < m := ⟨Int.emod_nonneg _ (by omega), Int.emod_lt_of_pos _ (by omega)⟩
theorem Ys (x m : Int) (h0 : -9223372036854775808 ≤ x) (h1 : x < 9223372036854775808) (hm : 1 ≤ m) : Fn Tryz.prog 33 #[.int .i64 x, .int .i64 m] [] (fun v l => v = .int .i64 (QX x m) ∧ l = []) := by
 refine Qk (vs := [.int .i64 x, .int .i64 m]) Tryz.func33 rfl Tryz.ntmps33 rfl (Qb (Qa (Qe rfl rfl (WpL.nil (Qb (Qb (Qa (Qc rfl rfl (Q7 rfl rfl rfl (WpL.nil (Ql rfl (fun h0 => ?_) (fun h0 => ?_))))))))))))
 ·refine Qa (Qc rfl rfl (QD rfl rfl rfl (Qu (by omega) (by omega)) ?_))
  refine s_neg rfl rfl (Qu (by omega) (by omega)) ?_
  refine Qe rfl rfl (WpL.nil (Qb (Qa (Qc rfl rfl (Qc rfl rfl (YV rfl rfl rfl (by omega) (by omega) ?_))))))
  refine Qe rfl rfl (WpL.nil (Qi ?_))
  apply RetQ.mk
  ·exact (Res.one rfl rfl)
  ·exact ⟨by rw [QX, if_pos h0], rfl⟩
  ·exact Ent.refl _
 ·refine Wp.skip (Qb (Qa (Qc rfl rfl (Qc rfl rfl (YV rfl rfl rfl (by omega) (by omega) ?_)))))
  refine Qe rfl rfl (WpL.nil (Qi ?_))
  apply RetQ.mk
  ·exact (Res.one rfl rfl)
  ·exact ⟨by rw [QX, if_neg h0], rfl⟩
  ·exact Ent.refl _


end Go.Proofs.YtggamdlpiejbiaaGreat
namespace Go.Proofs.YtggamdlpiejbiaaGreat
open Go.RowKit Go.Shelf



theorem endR_last {K W H : Int} {s : RS} : (Yd K W H s).1.last ≠ 0 := by
  unfold Yd
  split
  · assumption
  · split
    · simp [wrongR]
    · assumption
theorem RInv.zero {ch : Int} {k m : Nat} {s : RS} (h : RInv ch k m s) : RInv ch k 0 s := ⟨h.1, by have := h.2.1; omega, h.2.2⟩
end Go.Proofs.YtggamdlpiejbiaaGreat
namespace Go.Proofs.YtggamdlpiejbiaaGreat
open Go.RowKit Go.Shelf


def XG (n : Nat) : List Int := if n < 10 then [48 + (n : Int)] else XG (n / 10) ++ [48 + ((n % 10 : Nat) : Int)]
termination_by n
decreasing_by omega
def Yr (K W H : Int) (s : RS) (x : Int) : RS × List Int := XB W H (YL (QW K) s x)
inductive Feed (K M : Int) : List Int → List Int → Prop
  | nil : Feed K M [] []
  | blank {c : Int} {bs ss : List Int} (h : Q6 c = true) (f : Feed K M bs ss) : Feed K M (c :: bs) ss
  | bit {x : Int} {bs ss : List Int} (hK : K = 1) (hx : x = 0 ∨ x = 1) (f : Feed K M bs ss) : Feed K M ((48 + x) :: bs) (x :: ss)
  | num {n : Nat} {c : Int} {bs ss : List Int} (hK : K ≠ 1) (h1 : (n : Int) ≤ M) (h : Q6 c = true) (f : Feed K M bs ss) : Feed K M (XG n ++ c :: bs) ((n : Int) :: ss)
inductive Go1 (K W H M : Int) : List Int → RS → RS → List Int → Prop
  | nil {s : RS} : Go1 K W H M [] s s []
  | cons {c : Int} {bs out : List Int} {s s' : RS} (h : (XH K W H M s c).1.last = 0) (g : Go1 K W H M bs (XH K W H M s c).1 s' out) : Go1 K W H M (c :: bs) s s' ((XH K W H M s c).2 ++ out)
section
variable {K W H M : Int}
theorem Go1.app {bs cs o1 o2 : List Int} {s s1 s2 : RS} (h : Go1 K W H M bs s s1 o1) (g : Go1 K W H M cs s1 s2 o2) : Go1 K W H M (bs ++ cs) s s2 (o1 ++ o2) := by
  induction h with
  | nil => exact g
  | cons h _ ih => rw [List.append_assoc]; exact .cons h (ih g)
theorem Go1.one {c : Int} {s s' : RS} {o : List Int} (h : XH K W H M s c = (s', o)) (hl : s'.last = 0) : Go1 K W H M [c] s s' o := by
  have := Go1.cons (K := K) (W := W) (H := H) (M := M) (c := c) (s := s) (by rw [h]; exact hl) (Go1.nil)
  rw [h] at this
  simpa using this
def Cl (W : Int) (s : RS) : Prop := s.n = -1 ∧ s.last = 0 ∧ (s.row.length : Int) < W
theorem dig_step {n rows e : Int} {one row : List Int} {d : Nat} (hK : K ≠ 1) (hd : d < 10) (hr : (row.length : Int) < W) (hm : 10 * max n 0 + d ≤ M) :
    XH K W H M ⟨n, one, row, rows, 0, e⟩ (48 + (d : Int)) = (⟨10 * max n 0 + d, one, row, rows, 0, e⟩, []) := by
  have hst : Xo (max n 0) (48 + (d : Int)) M = (10 * max n 0 + d, 0) := by
    unfold Xo
    rw [if_neg (by omega), if_neg (by omega)]
    exact Prod.ext (by simp only; omega) rfl
  have hb : Q6 (48 + (d : Int)) = false := decide_eq_false (by omega)
  rw [stp_n0 rfl hr hK hb (by rw [hst]; simp) (by rw [hst]), hst]
theorem dig_run (hK : K ≠ 1) : ∀ (n : Nat) (one row : List Int) (rows e : Int), (n : Int) ≤ M → (row.length : Int) < W → Go1 K W H M (XG n) ⟨-1, one, row, rows, 0, e⟩ ⟨n, one, row, rows, 0, e⟩ [] := by
  intro n
  induction n using Nat.strongRecOn with
  | _ n ih =>
    intro one row rows e hM hr
    rw [XG]
    by_cases h : n < 10
    · rw [if_pos h]
      have := dig_step (K := K) (W := W) (H := H) (M := M) (n := -1) (rows := rows) (e := e) (one := one) (row := row) (d := n) hK h hr (by omega)
      rw [show (10 * max (-1) 0 + (n : Int)) = n by omega] at this
      exact Go1.one this rfl
    · rw [if_neg h]
      have h1 := ih (n / 10) (by omega) one row rows e (by omega) hr
      have h2 := dig_step (K := K) (W := W) (H := H) (M := M) (n := ((n / 10 : Nat) : Int)) (rows := rows) (e := e) (one := one) (row := row) (d := n % 10) hK (by omega) hr (by omega)
      rw [show (10 * max ((n / 10 : Nat) : Int) 0 + ((n % 10 : Nat) : Int)) = n by omega] at h2
      exact h1.app (Go1.one h2 rfl)
def Zg (K W H : Int) : List Int → RS → Bool × RS × List Int
  | [], s => (false, s, [])
  | x :: xs, s => if (Yr K W H s x).1.last = 1 then (true, (Yr K W H s x).1, (Yr K W H s x).2) else ((Zg K W H xs (Yr K W H s x).1).1, (Zg K W H xs (Yr K W H s x).1).2.1, (Yr K W H s x).2 ++ (Zg K W H xs (Yr K W H s x).1).2.2)
theorem smpR_cl {s : RS} {x : Int} (hW : 1 ≤ W) (h : Cl W s) : (Yr K W H s x).1.last = 1 ∨ Cl W (Yr K W H s x).1 := by
  obtain ⟨h1, h2, h3⟩ := h
  unfold Yr XB YL
  split
  · rename_i hr; exact .inr ⟨h1, h2, hr⟩
  · simp only
    split
    · exact .inl rfl
    · exact .inr ⟨h1, h2, by simp; omega⟩
theorem put_bit {s : RS} {x : Int} (hK : K = 1) (hx : x = 0 ∨ x = 1) (hs : Cl W s) : XH K W H M s (48 + x) = Yr K W H s x := by
  obtain ⟨n, one, row, rows, last, e⟩ := s
  rw [stp_b1 hs.2.1 hK (decide_eq_false (by omega)) (by omega), show (48 + x - 48 : Int) = x by omega]
  rfl
theorem put_blank {s : RS} {c : Int} (h : Q6 c = true) (hs : Cl W s) : XH K W H M s c = (s, []) := by
  obtain ⟨n, one, row, rows, last, e⟩ := s
  exact stp_bn hs.2.1 hs.2.2 hs.1 h
theorem put_end {one row : List Int} {rows e c : Int} {n : Nat} (hK : K ≠ 1) (h : Q6 c = true) : XH K W H M ⟨n, one, row, rows, 0, e⟩ c = Yr K W H ⟨-1, one, row, rows, 0, e⟩ n :=
  stp_bs rfl (by omega) (fun x => absurd x hK) h
end


theorem pack_one {x : Int} (h : Z7 x) : Xx [x] = (281474976710656 + x, 0) := by
  unfold Z7 at h
  rw [packS_ok [x] (.inl rfl) (by intro n hn; simp at hn; subst hn; exact h)]
  exact Prod.ext (by simp [Ya]; omega) rfl
theorem pack_three {x y z : Int} (h : Z7 x) (h2 : Z7 y) (h3 : Z7 z) : Xx [x, y, z] = (((x * 65536 + y) * 65536 + z) + 3 * 281474976710656, 0) := by
  rw [packS_ok [x, y, z] (.inr rfl) (by intro n hn; simp at hn; rcases hn with rfl | rfl | rfl <;> assumption)]
  exact Prod.ext (by simp [Ya]) rfl
theorem unpack_pack {xs : List Int} (h : xs.length = 1 ∨ xs.length = 3) (hs : ∀ n ∈ xs, Z7 n) : Qn (Xx xs).1 = xs := by
  match xs, h with
  | [x], _ =>
    have hx := hs x (by simp)
    rw [pack_one hx]
    unfold Z7 at hx
    unfold Qn
    rw [if_neg (by simp only; omega), if_pos (by simp only; omega)]
    simp only
    congr 1
    omega
  | [x, y, z], _ =>
    have hx := hs x (by simp)
    have hy := hs y (by simp)
    have hz := hs z (by simp)
    rw [pack_three hx hy hz]
    unfold Z7 at hx hy hz
    unfold Qn
    rw [if_pos (by simp only; omega)]
    simp only [List.cons.injEq, and_true]
    refine ⟨by omega, by omega, by omega⟩
  | [_, _], h => simp at h
  | _ :: _ :: _ :: _ :: _, h => simp at h
/-- A pixel of a format. -/
def Can (ch M p : Int) : Prop := ((Qn p).length : Int) = ch ∧ (Xx (Qn p)).1 = p ∧ ∀ x ∈ Qn p, 0 ≤ x ∧ x ≤ M
section
variable {K W H M : Int}
theorem foldS_step {xs ss row : List Int} {rows : Int} (hl : (xs.length : Int) = QW K) (hr : (row.length : Int) < W) :
    Zg K W H (xs ++ ss) ⟨-1, [], row, rows, 0, 0⟩ = if (XB W H ⟨-1, [], row ++ [(Xx xs).1], rows, 0, 0⟩).1.last = 1 then (true, (XB W H ⟨-1, [], row ++ [(Xx xs).1], rows, 0, 0⟩).1, (XB W H ⟨-1, [], row ++ [(Xx xs).1], rows, 0, 0⟩).2)
      else ((Zg K W H ss (XB W H ⟨-1, [], row ++ [(Xx xs).1], rows, 0, 0⟩).1).1, (Zg K W H ss (XB W H ⟨-1, [], row ++ [(Xx xs).1], rows, 0, 0⟩).1).2.1, (XB W H ⟨-1, [], row ++ [(Xx xs).1], rows, 0, 0⟩).2 ++ (Zg K W H ss (XB W H ⟨-1, [], row ++ [(Xx xs).1], rows, 0, 0⟩).1).2.2) := by
  have hch : QW K = 1 ∨ QW K = 3 := by unfold QW; split <;> simp
  have last : ∀ (one : List Int) (x : Int), ((one ++ [x]).length : Int) = QW K → Yr K W H ⟨-1, one, row, rows, 0, 0⟩ x = XB W H ⟨-1, [], row ++ [(Xx (one ++ [x])).1], rows, 0, 0⟩ := by
    intro one x h
    have e1 : XE (QW K) one row x = ([], row ++ [(Xx (one ++ [x])).1]) := if_pos h
    simp only [Yr, YL, e1]
  have more : ∀ (one : List Int) (x : Int), ((one ++ [x]).length : Int) ≠ QW K → Yr K W H ⟨-1, one, row, rows, 0, 0⟩ x = (⟨-1, one ++ [x], row, rows, 0, 0⟩, []) := by
    intro one x h
    have e1 : XE (QW K) one row x = (one ++ [x], row) := if_neg h
    simp only [Yr, YL, e1]
    exact fullR_no hr
  match xs, hl with
  | [x], hl =>
    rw [List.cons_append, List.nil_append, Zg, last [] x hl, List.nil_append]
  | [x, y, z], hl =>
    simp only [List.length_cons, List.length_nil] at hl
    have m1 := more [] x (by simp; omega)
    have m2 := more [x] y (by simp; omega)
    have m3 := last [x, y] z (by simp; omega)
    simp only [Qr] at m1 m2 m3
    rw [List.cons_append, List.cons_append, List.cons_append, List.nil_append, Zg, m1, if_neg (by simp), Zg, m2, if_neg (by simp), Zg, m3]
    split <;> simp
  | [], hl => simp at hl; omega
  | [_, _], hl => simp at hl; omega
  | _ :: _ :: _ :: _ :: _, hl => simp at hl; omega
theorem rows_fold (hW : 1 ≤ W) : ∀ (l row : List Int) (rows : Int), (∀ p ∈ l, Can (QW K) M p) → (row.length : Int) < W → rows < H →
    (rows * W + row.length + l.length = H * W → ∃ s', Zg K W H (l.flatMap Qn) ⟨-1, [], row, rows, 0, 0⟩ = (true, s', row ++ l)) ∧
    (rows * W + row.length + l.length < H * W → ∃ row' rows' out, Zg K W H (l.flatMap Qn) ⟨-1, [], row, rows, 0, 0⟩ = (false, ⟨-1, [], row', rows', 0, 0⟩, out) ∧ (row'.length : Int) < W ∧ rows' * W + row'.length = rows * W + row.length + l.length ∧ rows' < H)
  | [], row, rows, hp, hr, hq => by
    have h1 : (rows + 1) * W ≤ H * W := Int.mul_le_mul_of_nonneg_right (by omega) (by omega)
    rw [Int.add_mul, Int.one_mul] at h1
    refine ⟨fun h => by simp at h; omega, fun _ => ⟨row, rows, [], rfl, hr, by simp, hq⟩⟩
  | p :: l, row, rows, hp, hr, hq => by
    obtain ⟨hc1, hc2, _⟩ := hp p (by simp)
    have hst := foldS_step (K := K) (W := W) (H := H) (xs := Qn p) (ss := l.flatMap Qn) (rows := rows) hc1 hr
    rw [hc2] at hst
    have hl : (((p :: l).length : Nat) : Int) = l.length + 1 := by simp
    by_cases hw : ((row ++ [p]).length : Int) < W
    · have hf : XB W H ⟨-1, [], row ++ [p], rows, 0, 0⟩ = (⟨-1, [], row ++ [p], rows, 0, 0⟩, []) := fullR_no hw
      rw [hf, if_neg (by simp)] at hst
      have ih := rows_fold hW l (row ++ [p]) rows (fun q hq => hp q (by simp [hq])) hw hq
      have hl2 : ((row ++ [p]).length : Int) = row.length + 1 := by simp
      rw [List.flatMap_cons, hst]
      refine ⟨fun h => ?_, fun h => ?_⟩
      · obtain ⟨s', hs⟩ := ih.1 (by omega)
        exact ⟨s', by rw [hs]; simp⟩
      · obtain ⟨row', rows', out, hs, h1, h2, h3⟩ := ih.2 (by omega)
        exact ⟨row', rows', out, by rw [hs]; simp, h1, by omega, h3⟩
    · have hl2 : ((row ++ [p]).length : Int) = row.length + 1 := by simp
      have hf : XB W H ⟨-1, [], row ++ [p], rows, 0, 0⟩ = (⟨-1, [], [], rows + 1, if rows + 1 = H then 1 else 0, 0⟩, row ++ [p]) := if_neg hw
      have hm : (rows + 1) * W = rows * W + W := by rw [Int.add_mul, Int.one_mul]
      rw [hf] at hst
      rw [List.flatMap_cons, hst]
      by_cases hH : rows + 1 = H
      · rw [if_pos hH, if_pos rfl]
        subst hH
        refine ⟨fun h => ?_, fun h => by omega⟩
        have : l = [] := List.eq_nil_of_length_eq_zero (by omega)
        subst this
        exact ⟨_, rfl⟩
      · rw [if_neg hH, if_neg (by simp)]
        have ih := rows_fold hW l [] (rows + 1) (fun q hq => hp q (by simp [hq])) (by simp; omega) (by omega)
        simp only [List.length_nil] at ih
        refine ⟨fun h => ?_, fun h => ?_⟩
        · obtain ⟨s', hs⟩ := ih.1 (by omega)
          exact ⟨s', by rw [hs]; simp⟩
        · obtain ⟨row', rows', out, hs, h1, h2, h3⟩ := ih.2 (by omega)
          exact ⟨row', rows', row ++ [p] ++ out, by rw [hs], h1, by omega, h3⟩
def X9 : List Int → List Int
  | [] => []
  | [x] => XG x.toNat
  | x :: y :: xs => XG x.toNat ++ 32 :: X9 (y :: xs)
def nlB (K W : Int) (i : Nat) : Bool := decide (K > 1 ∨ (i : Int) % W = W - 1 ∨ (i : Int) % W % 70 = 69)
def pxB (K W : Int) (i : Nat) (p : Int) : List Int := X9 (Qn p) ++ if nlB K W i = true then [10] else []
def wrL (K W : Int) : Nat → List Int → List Int
  | _, [] => []
  | i, p :: l => pxB K W i p ++ wrL K W (i + 1) l
theorem wrL_snoc (p : Int) : ∀ (l : List Int) (i : Nat), wrL K W i (l ++ [p]) = wrL K W i l ++ pxB K W (i + l.length) p
  | [], i => by simp [wrL]
  | q :: l, i => by simp only [List.cons_append, wrL, wrL_snoc p l (i + 1), List.length_cons, List.append_assoc]; congr 3; omega
theorem digs_one {x : Int} (h : 0 ≤ x) (h2 : x < 10) : XG x.toNat = [48 + x] := by
  rw [XG, if_pos (by omega)]
  congr 1
  omega
theorem feed_num {x c : Int} {bs ss : List Int} (hK : K ≠ 1) (h0 : 0 ≤ x) (h1 : x ≤ M) (h : Q6 c = true) (f : Feed K M bs ss) : Feed K M (XG x.toNat ++ c :: bs) (x :: ss) := by
  have := Feed.num (K := K) (M := M) (n := x.toNat) hK (by omega) h f
  rwa [show ((x.toNat : Nat) : Int) = x by omega] at this
theorem feed_px (h1 : 1 ≤ K) (h3 : K ≤ 3) (hM : K = 1 → M = 1) {p : Int} (hc : Can (QW K) M p) (i : Nat) {bs ss : List Int} (f : Feed K M bs ss) : Feed K M (pxB K W i p ++ bs) (Qn p ++ ss) := by
  obtain ⟨hl, _, hs⟩ := hc
  unfold pxB
  have hK : K = 1 ∨ K = 2 ∨ K = 3 := by omega
  rcases hK with rfl | hK
  · have e1 : QW 1 = 1 := rfl
    rw [e1] at hl
    match hu : Qn p, hl with
    | [x], _ =>
      have hx := hs x (by rw [hu]; simp)
      rw [hM rfl] at hx
      rw [X9, digs_one (by omega) (by omega)]
      have f2 : Feed 1 M ((if nlB 1 W i = true then [10] else []) ++ bs) ss := by
        split
        · exact .blank rfl f
        · exact f
      have := Feed.bit (K := 1) (M := M) (x := x) rfl (by omega) f2
      simpa using this
    | [], hl => simp at hl
    | _ :: _ :: _, hl => simp at hl; omega
  · have hn : nlB K W i = true := decide_eq_true (.inl (by omega))
    rw [hn, if_pos rfl]
    rcases hK with rfl | rfl
    · have e1 : QW 2 = 1 := rfl
      rw [e1] at hl
      match hu : Qn p, hl with
      | [x], _ =>
        have hx := hs x (by rw [hu]; simp)
        have := feed_num (K := 2) (M := M) (x := x) (c := 10) (by decide) hx.1 hx.2 rfl f
        simpa [X9] using this
      | [], hl => simp at hl
      | _ :: _ :: _, hl => simp at hl; omega
    · have e1 : QW 3 = 3 := rfl
      rw [e1] at hl
      match hu : Qn p, hl with
      | [x, y, z], _ =>
        have hx := hs x (by rw [hu]; simp)
        have hy := hs y (by rw [hu]; simp)
        have hz := hs z (by rw [hu]; simp)
        have f1 := feed_num (K := 3) (M := M) (x := z) (c := 10) (by decide) hz.1 hz.2 rfl f
        have f2 := feed_num (K := 3) (M := M) (x := y) (c := 32) (by decide) hy.1 hy.2 rfl f1
        have f3 := feed_num (K := 3) (M := M) (x := x) (c := 32) (by decide) hx.1 hx.2 rfl f2
        simpa [X9] using f3
      | [], hl => simp at hl
      | [_], hl => simp at hl
      | [_, _], hl => simp at hl
      | _ :: _ :: _ :: _ :: _, hl => simp at hl; omega
theorem feed_wr (h1 : 1 ≤ K) (h3 : K ≤ 3) (hM : K = 1 → M = 1) : ∀ (l : List Int) (i : Nat), (∀ p ∈ l, Can (QW K) M p) → Feed K M (wrL K W i l) (l.flatMap Qn)
  | [], _, _ => .nil
  | p :: l, i, h => by
    rw [wrL, List.flatMap_cons]
    exact feed_px h1 h3 hM (h p (by simp)) i (feed_wr h1 h3 hM l (i + 1) fun q hq => h q (by simp [hq]))
end

end Go.Proofs.YtggamdlpiejbiaaGreat
