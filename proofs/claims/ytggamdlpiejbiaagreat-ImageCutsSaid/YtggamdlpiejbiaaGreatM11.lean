/- Walks and plain laws, a part of the proof of ImageCuts: every input that the law's guards let in, no condition beside. -/
import Derived.Test.YtggamdlpiejbiaaGreatM10
namespace Go.Proofs.YtggamdlpiejbiaaGreat
open Go.RowKit Go.Shelf


theorem hdNum_spec (g : Nat) (l0 l1 l2 : Int) (s : HS) (pt : Value) (A : HP) (c : Int) (hc0 : 0 ≤ c) (hc1 : c ≤ 255) (hl : (1 ≤ l0 ∧ l0 ≤ 4096) ∧ (1 ≤ l1 ∧ l1 ≤ 65536) ∧ (1 ≤ l2 ∧ l2 ≤ 65535)) (hI : hdI s) (hat : s.at_ = 3) (hT0 : hdT l0 l1 l2 s pt A) :
    Fn Tryz.prog 166 #[.pointer (some ⟨g, 0, none⟩), .int .u8 c] [QK g [.int .i64 s.K, .int .i64 s.W, .int .i64 s.H, .int .i64 s.M, .int .i64 l0, .int .i64 l1, .int .i64 l2, .int .i64 s.at_, .int .i64 s.i, pt, .int .i64 0, .int .i64 s.e] 234, A] (fun v l => ∃ s' pt' A', s' = XI l0 l1 l2 s c ∧ v = .int .i64 s'.last ∧ (s'.last = 0 → hdI s' ∧ hdT l0 l1 l2 s' pt' A') ∧ l = [QK g [.int .i64 s'.K, .int .i64 s'.W, .int .i64 s'.H, .int .i64 s'.M, .int .i64 l0, .int .i64 l1, .int .i64 l2, .int .i64 s'.at_, .int .i64 s'.i, pt', .int .i64 0, .int .i64 s'.e] 234, A']) := by
  obtain ⟨K, W, H, M, at_, i, t, last, e⟩ := s
  obtain ⟨h1, h2, h3, h4, h5, h6⟩ := hI
  dsimp only at *
  subst hat
  subst h1
  rcases hT0 with ⟨q, _⟩ | ⟨_, hok, gt, bg, rfl, rfl⟩
  · exact absurd (show (3 : Int) < 3 from q) (by decide)
  dsimp only at hok
  obtain rfl | rfl | rfl : i = 0 ∨ i = 1 ∨ i = 2 := by omega
  · refine (hdNum_0 g gt K W H M l0 l1 l2 3 0 e t bg _ c hc0 hc1 hl rfl hok).mono fun v l h => ?_
    skip
    · rcases h with ⟨s', bg', hT, hok', rfl, rfl⟩ | ⟨e', bg', nx', hT, rfl, rfl⟩ | ⟨bg', nx', hT, rfl, rfl⟩ | h
      · have hm : XI l0 l1 l2 ⟨K, W, H, M, 3, 0, t, 0, e⟩ c = ⟨K, W, H, M, 3, 0, s', 0, e⟩ := by unfold XI; rw [show Q6 l0 l1 l2 0 = l0 from rfl, hT]; dsimp only; rw [if_pos rfl]
        exact ⟨_, ⟨⟨K, W, H, M, 3, 0, s', 0, e⟩, _, _, hm.symm, rfl, (fun _ => ⟨by unfold hdI; dsimp only; omega, .inr ⟨rfl, hok', gt, bg', rfl, rfl⟩⟩), rfl⟩, Ent.refl _⟩
      · have hm : XI l0 l1 l2 ⟨K, W, H, M, 3, 0, t, 0, e⟩ c = ⟨K, W, H, M, 3, 0, ⟨5, 0, e'⟩, 2, e'⟩ := by unfold XI; rw [show Q6 l0 l1 l2 0 = l0 from rfl, hT]; dsimp only; rw [if_neg (by decide), if_pos rfl]
        exact ⟨_, ⟨⟨K, W, H, M, 3, 0, ⟨5, 0, e'⟩, 2, e'⟩, _, _, hm.symm, rfl, (fun h => absurd (show (2 : Int) = 0 from h) (by decide)), rfl⟩, Ent.refl _⟩
      · have hm : XI l0 l1 l2 ⟨K, W, H, M, 3, 0, t, 0, e⟩ c = ⟨K, W, H, M, 3, 0, ⟨4, 0, 0⟩, 2, 4⟩ := by unfold XI; rw [show Q6 l0 l1 l2 0 = l0 from rfl, hT]; dsimp only; rw [if_neg (by decide), if_neg (by decide), if_pos rfl]
        exact ⟨_, ⟨⟨K, W, H, M, 3, 0, ⟨4, 0, 0⟩, 2, 4⟩, _, _, hm.symm, rfl, (fun h => absurd (show (2 : Int) = 0 from h) (by decide)), rfl⟩, Ent.refl _⟩
      · obtain ⟨n', hT, hn0, hn1, rfl, gt2, rfl⟩ := h
        have hq1 : X9 ⟨K, W, H, M, 3, 0, t, 0, e⟩ n' = ⟨K, n', H, M, 3, 0, t, 0, e⟩ := by unfold X9; dsimp only; rw [if_pos rfl]
        have hq2 : XM ⟨K, n', H, M, 3, 0, t, 0, e⟩ = ⟨K, n', H, M, 3, 1, t, 0, e⟩ := by unfold XM X3; dsimp only; rw [if_neg (fun q => absurd q.1 (by decide))]; try rfl
        have hm : XI l0 l1 l2 ⟨K, W, H, M, 3, 0, t, 0, e⟩ c = ⟨K, n', H, M, 3, 1, X5, 0, e⟩ := by unfold XI; rw [show Q6 l0 l1 l2 0 = l0 from rfl, hT]; dsimp only; rw [if_neg (by decide), if_neg (by decide), if_neg (by omega), hq1, hq2]; dsimp only; rw [if_pos (by decide)]; try rfl
        exact ⟨_, ⟨⟨K, n', H, M, 3, 1, X5, 0, e⟩, _, _, hm.symm, rfl, (fun _ => ⟨by unfold hdI; dsimp only; omega, .inr ⟨rfl, (by unfold YI X5 Q6; dsimp only; rw [if_neg (by decide)]; rw [if_pos rfl]; omega), gt2, false, rfl, rfl⟩⟩), rfl⟩, Ent.refl _⟩
  · by_cases hbk : K = 1 ∨ K = 4
    · refine (hdNum_1b g gt K W H M l0 l1 l2 3 0 e t bg _ c hc0 hc1 hl rfl hok hbk).mono fun v l h => ?_
      skip
      · rcases h with ⟨s', bg', hT, hok', rfl, rfl⟩ | ⟨e', bg', nx', hT, rfl, rfl⟩ | ⟨bg', nx', hT, rfl, rfl⟩ | h
        · have hm : XI l0 l1 l2 ⟨K, W, H, M, 3, 1, t, 0, e⟩ c = ⟨K, W, H, M, 3, 1, s', 0, e⟩ := by unfold XI; rw [show Q6 l0 l1 l2 1 = l1 from rfl, hT]; dsimp only; rw [if_pos rfl]
          exact ⟨_, ⟨⟨K, W, H, M, 3, 1, s', 0, e⟩, _, _, hm.symm, rfl, (fun _ => ⟨by unfold hdI; dsimp only; omega, .inr ⟨rfl, hok', gt, bg', rfl, rfl⟩⟩), rfl⟩, Ent.refl _⟩
        · have hm : XI l0 l1 l2 ⟨K, W, H, M, 3, 1, t, 0, e⟩ c = ⟨K, W, H, M, 3, 1, ⟨5, 0, e'⟩, 2, e'⟩ := by unfold XI; rw [show Q6 l0 l1 l2 1 = l1 from rfl, hT]; dsimp only; rw [if_neg (by decide), if_pos rfl]
          exact ⟨_, ⟨⟨K, W, H, M, 3, 1, ⟨5, 0, e'⟩, 2, e'⟩, _, _, hm.symm, rfl, (fun h => absurd (show (2 : Int) = 0 from h) (by decide)), rfl⟩, Ent.refl _⟩
        · have hm : XI l0 l1 l2 ⟨K, W, H, M, 3, 1, t, 0, e⟩ c = ⟨K, W, H, M, 3, 1, ⟨4, 0, 0⟩, 2, 4⟩ := by unfold XI; rw [show Q6 l0 l1 l2 1 = l1 from rfl, hT]; dsimp only; rw [if_neg (by decide), if_neg (by decide), if_pos rfl]
          exact ⟨_, ⟨⟨K, W, H, M, 3, 1, ⟨4, 0, 0⟩, 2, 4⟩, _, _, hm.symm, rfl, (fun h => absurd (show (2 : Int) = 0 from h) (by decide)), rfl⟩, Ent.refl _⟩
        · obtain ⟨n', hT, hn0, hn1, rfl, bg', nx', rfl⟩ := h
          have hq1 : X9 ⟨K, W, H, M, 3, 1, t, 0, e⟩ n' = ⟨K, W, n', M, 3, 1, t, 0, e⟩ := by unfold X9; dsimp only; rw [if_neg (by decide), if_pos rfl]
          have hq2 : XM ⟨K, W, n', M, 3, 1, t, 0, e⟩ = ⟨K, W, n', 1, 3, 3, t, 0, e⟩ := by unfold XM X3; dsimp only; rw [if_pos ⟨by decide, hbk⟩]; try rfl
          have hm : XI l0 l1 l2 ⟨K, W, H, M, 3, 1, t, 0, e⟩ c = ⟨K, W, n', 1, 3, 3, ⟨4, n', 0⟩, 1, 0⟩ := by unfold XI; rw [show Q6 l0 l1 l2 1 = l1 from rfl, hT]; dsimp only; rw [if_neg (by decide), if_neg (by decide), if_neg (by omega), hq1, hq2]; dsimp only; rw [if_neg (by decide)]; try rfl
          exact ⟨_, ⟨⟨K, W, n', 1, 3, 3, ⟨4, n', 0⟩, 1, 0⟩, _, _, hm.symm, rfl, (fun h => absurd (show (1 : Int) = 0 from h) (by decide)), rfl⟩, Ent.refl _⟩
    · refine (hdNum_1n g gt K W H M l0 l1 l2 3 0 e t bg _ c hc0 hc1 hl rfl hok hbk).mono fun v l h => ?_
      skip
      · rcases h with ⟨s', bg', hT, hok', rfl, rfl⟩ | ⟨e', bg', nx', hT, rfl, rfl⟩ | ⟨bg', nx', hT, rfl, rfl⟩ | h
        · have hm : XI l0 l1 l2 ⟨K, W, H, M, 3, 1, t, 0, e⟩ c = ⟨K, W, H, M, 3, 1, s', 0, e⟩ := by unfold XI; rw [show Q6 l0 l1 l2 1 = l1 from rfl, hT]; dsimp only; rw [if_pos rfl]
          exact ⟨_, ⟨⟨K, W, H, M, 3, 1, s', 0, e⟩, _, _, hm.symm, rfl, (fun _ => ⟨by unfold hdI; dsimp only; omega, .inr ⟨rfl, hok', gt, bg', rfl, rfl⟩⟩), rfl⟩, Ent.refl _⟩
        · have hm : XI l0 l1 l2 ⟨K, W, H, M, 3, 1, t, 0, e⟩ c = ⟨K, W, H, M, 3, 1, ⟨5, 0, e'⟩, 2, e'⟩ := by unfold XI; rw [show Q6 l0 l1 l2 1 = l1 from rfl, hT]; dsimp only; rw [if_neg (by decide), if_pos rfl]
          exact ⟨_, ⟨⟨K, W, H, M, 3, 1, ⟨5, 0, e'⟩, 2, e'⟩, _, _, hm.symm, rfl, (fun h => absurd (show (2 : Int) = 0 from h) (by decide)), rfl⟩, Ent.refl _⟩
        · have hm : XI l0 l1 l2 ⟨K, W, H, M, 3, 1, t, 0, e⟩ c = ⟨K, W, H, M, 3, 1, ⟨4, 0, 0⟩, 2, 4⟩ := by unfold XI; rw [show Q6 l0 l1 l2 1 = l1 from rfl, hT]; dsimp only; rw [if_neg (by decide), if_neg (by decide), if_pos rfl]
          exact ⟨_, ⟨⟨K, W, H, M, 3, 1, ⟨4, 0, 0⟩, 2, 4⟩, _, _, hm.symm, rfl, (fun h => absurd (show (2 : Int) = 0 from h) (by decide)), rfl⟩, Ent.refl _⟩
        · obtain ⟨n', hT, hn0, hn1, rfl, gt2, rfl⟩ := h
          have hq1 : X9 ⟨K, W, H, M, 3, 1, t, 0, e⟩ n' = ⟨K, W, n', M, 3, 1, t, 0, e⟩ := by unfold X9; dsimp only; rw [if_neg (by decide), if_pos rfl]
          have hq2 : XM ⟨K, W, n', M, 3, 1, t, 0, e⟩ = ⟨K, W, n', M, 3, 2, t, 0, e⟩ := by unfold XM X3; dsimp only; rw [if_neg (fun q => hbk q.2)]; try rfl
          have hm : XI l0 l1 l2 ⟨K, W, H, M, 3, 1, t, 0, e⟩ c = ⟨K, W, n', M, 3, 2, X5, 0, e⟩ := by unfold XI; rw [show Q6 l0 l1 l2 1 = l1 from rfl, hT]; dsimp only; rw [if_neg (by decide), if_neg (by decide), if_neg (by omega), hq1, hq2]; dsimp only; rw [if_pos (by decide)]; try rfl
          exact ⟨_, ⟨⟨K, W, n', M, 3, 2, X5, 0, e⟩, _, _, hm.symm, rfl, (fun _ => ⟨by unfold hdI; dsimp only; omega, .inr ⟨rfl, (by unfold YI X5 Q6; dsimp only; rw [if_neg (by decide)]; rw [if_neg (by decide)]; omega), gt2, false, rfl, rfl⟩⟩), rfl⟩, Ent.refl _⟩
  · refine (hdNum_2 g gt K W H M l0 l1 l2 3 0 e t bg _ c hc0 hc1 hl rfl hok).mono fun v l h => ?_
    skip
    · rcases h with ⟨s', bg', hT, hok', rfl, rfl⟩ | ⟨e', bg', nx', hT, rfl, rfl⟩ | ⟨bg', nx', hT, rfl, rfl⟩ | h
      · have hm : XI l0 l1 l2 ⟨K, W, H, M, 3, 2, t, 0, e⟩ c = ⟨K, W, H, M, 3, 2, s', 0, e⟩ := by unfold XI; rw [show Q6 l0 l1 l2 2 = l2 from rfl, hT]; dsimp only; rw [if_pos rfl]
        exact ⟨_, ⟨⟨K, W, H, M, 3, 2, s', 0, e⟩, _, _, hm.symm, rfl, (fun _ => ⟨by unfold hdI; dsimp only; omega, .inr ⟨rfl, hok', gt, bg', rfl, rfl⟩⟩), rfl⟩, Ent.refl _⟩
      · have hm : XI l0 l1 l2 ⟨K, W, H, M, 3, 2, t, 0, e⟩ c = ⟨K, W, H, M, 3, 2, ⟨5, 0, e'⟩, 2, e'⟩ := by unfold XI; rw [show Q6 l0 l1 l2 2 = l2 from rfl, hT]; dsimp only; rw [if_neg (by decide), if_pos rfl]
        exact ⟨_, ⟨⟨K, W, H, M, 3, 2, ⟨5, 0, e'⟩, 2, e'⟩, _, _, hm.symm, rfl, (fun h => absurd (show (2 : Int) = 0 from h) (by decide)), rfl⟩, Ent.refl _⟩
      · have hm : XI l0 l1 l2 ⟨K, W, H, M, 3, 2, t, 0, e⟩ c = ⟨K, W, H, M, 3, 2, ⟨4, 0, 0⟩, 2, 4⟩ := by unfold XI; rw [show Q6 l0 l1 l2 2 = l2 from rfl, hT]; dsimp only; rw [if_neg (by decide), if_neg (by decide), if_pos rfl]
        exact ⟨_, ⟨⟨K, W, H, M, 3, 2, ⟨4, 0, 0⟩, 2, 4⟩, _, _, hm.symm, rfl, (fun h => absurd (show (2 : Int) = 0 from h) (by decide)), rfl⟩, Ent.refl _⟩
      · obtain ⟨n', hT, hn0, hn1, rfl, bg', nx', rfl⟩ := h
        have hq1 : X9 ⟨K, W, H, M, 3, 2, t, 0, e⟩ n' = ⟨K, W, H, n', 3, 2, t, 0, e⟩ := by unfold X9; dsimp only; rw [if_neg (by decide), if_neg (by decide)]
        have hq2 : XM ⟨K, W, H, n', 3, 2, t, 0, e⟩ = ⟨K, W, H, n', 3, 3, t, 0, e⟩ := by unfold XM X3; dsimp only; rw [if_neg (fun q => absurd q.1 (by decide))]; try rfl
        have hm : XI l0 l1 l2 ⟨K, W, H, M, 3, 2, t, 0, e⟩ c = ⟨K, W, H, n', 3, 3, ⟨4, n', 0⟩, 1, 0⟩ := by unfold XI; rw [show Q6 l0 l1 l2 2 = l2 from rfl, hT]; dsimp only; rw [if_neg (by decide), if_neg (by decide), if_neg (by omega), hq1, hq2]; dsimp only; rw [if_neg (by decide)]; try rfl
        exact ⟨_, ⟨⟨K, W, H, n', 3, 3, ⟨4, n', 0⟩, 1, 0⟩, _, _, hm.symm, rfl, (fun h => absurd (show (1 : Int) = 0 from h) (by decide)), rfl⟩, Ent.refl _⟩


end Go.Proofs.YtggamdlpiejbiaaGreat
namespace Go.Proofs.YtggamdlpiejbiaaGreat
open Go.RowKit Go.Shelf

theorem hdPut_m (g : Nat) (l0 l1 l2 : Int) (s : HS) (pt : Value) (A : HP) (c : Int) (hc0 : 0 ≤ c) (hc1 : c ≤ 255) (hl : (1 ≤ l0 ∧ l0 ≤ 4096) ∧ (1 ≤ l1 ∧ l1 ≤ 65536) ∧ (1 ≤ l2 ∧ l2 ≤ 65535)) (hI : hdI s) (_hT0 : hdT l0 l1 l2 s pt A) (hat : s.at_ < 3) (hpt : pt = .pointer none) : Fn Tryz.prog 123 #[.pointer (some ⟨g, 0, none⟩), .int .u8 c] [QK g [.int .i64 s.K, .int .i64 s.W, .int .i64 s.H, .int .i64 s.M, .int .i64 l0, .int .i64 l1, .int .i64 l2, .int .i64 s.at_, .int .i64 s.i, pt, .int .i64 0, .int .i64 s.e] 234, A] (fun v l => ∃ s' pt' A', s' = Xa l0 l1 l2 s c ∧ v = .int .i64 s'.last ∧ (s'.last = 0 → hdI s' ∧ hdT l0 l1 l2 s' pt' A') ∧ l = [QK g [.int .i64 s'.K, .int .i64 s'.W, .int .i64 s'.H, .int .i64 s'.M, .int .i64 l0, .int .i64 l1, .int .i64 l2, .int .i64 s'.at_, .int .i64 s'.i, pt', .int .i64 s'.last, .int .i64 s'.e] 234, A']) := by
 refine Ql (vs := [.pointer (some ⟨g, 0, none⟩), .int .u8 c]) Tryz.func123 rfl Tryz.ntmps123 rfl ?_
 refine Qb (Qa (Qd rfl rfl (WpL.nil (Qb (Wp.block ?_)))))
 refine Qb (Qa (Qc rfl rfl (Qy rfl rfl (Qk (o2 := 10) rfl rfl rfl (Qn rfl rfl (by rfl) ?_)))))
 refine Xq rfl rfl rfl (Qd rfl rfl (WpL.nil (Qz rfl (by decide) (Qb (Qa (Qc rfl rfl (Qy rfl rfl (Qk (o2 := 7) rfl rfl rfl (Qn rfl rfl (by rfl) ?_)))))))))
 refine Q8 rfl rfl rfl (Qd rfl rfl (WpL.nil (QY rfl hat (Qa (Qc rfl rfl (Qc rfl rfl (Qc rfl rfl (Qi rfl rfl (by repeat' constructor) (hdMagic_spec g l0 l1 l2 s pt c hc0 hc1 hl hI hat hpt) ?_))))))))
 rintro _ _ ⟨s', pt', A', hs, rfl, hok, rfl⟩
 simp only [Qs]
 refine Qy rfl rfl (Qk (o2 := 10) rfl rfl rfl (QV rfl rfl rfl (WpL.nil (Qb (Qa (Qc rfl rfl (Qy rfl rfl (Qk (o2 := 10) rfl rfl rfl (Qn rfl rfl (by rfl) ?_)))))))))
 refine Qd rfl rfl (WpL.nil (Qh ?_))
 apply RetQ.mk
 ·exact (Res.one rfl rfl)
 ·exact ⟨s', pt', A', by unfold Xa; rw [if_neg (fun h => h hI.1), if_pos hat]; exact hs, rfl, hok, rfl⟩
 ·exact Take.ent' (by repeat' constructor)

theorem hdPut_n (g : Nat) (l0 l1 l2 : Int) (s : HS) (pt : Value) (A : HP) (c : Int) (hc0 : 0 ≤ c) (hc1 : c ≤ 255) (hl : (1 ≤ l0 ∧ l0 ≤ 4096) ∧ (1 ≤ l1 ∧ l1 ≤ 65536) ∧ (1 ≤ l2 ∧ l2 ≤ 65535)) (hI : hdI s) (hT0 : hdT l0 l1 l2 s pt A) (hat : s.at_ = 3) : Fn Tryz.prog 123 #[.pointer (some ⟨g, 0, none⟩), .int .u8 c] [QK g [.int .i64 s.K, .int .i64 s.W, .int .i64 s.H, .int .i64 s.M, .int .i64 l0, .int .i64 l1, .int .i64 l2, .int .i64 s.at_, .int .i64 s.i, pt, .int .i64 0, .int .i64 s.e] 234, A] (fun v l => ∃ s' pt' A', s' = Xa l0 l1 l2 s c ∧ v = .int .i64 s'.last ∧ (s'.last = 0 → hdI s' ∧ hdT l0 l1 l2 s' pt' A') ∧ l = [QK g [.int .i64 s'.K, .int .i64 s'.W, .int .i64 s'.H, .int .i64 s'.M, .int .i64 l0, .int .i64 l1, .int .i64 l2, .int .i64 s'.at_, .int .i64 s'.i, pt', .int .i64 s'.last, .int .i64 s'.e] 234, A']) := by
 refine Ql (vs := [.pointer (some ⟨g, 0, none⟩), .int .u8 c]) Tryz.func123 rfl Tryz.ntmps123 rfl ?_
 refine Qb (Qa (Qd rfl rfl (WpL.nil (Qb (Wp.block ?_)))))
 refine Qb (Qa (Qc rfl rfl (Qy rfl rfl (Qk (o2 := 10) rfl rfl rfl (Qn rfl rfl (by rfl) ?_)))))
 refine Xq rfl rfl rfl (Qd rfl rfl (WpL.nil (Qz rfl (by decide) (Qb (Qa (Qc rfl rfl (Qy rfl rfl (Qk (o2 := 7) rfl rfl rfl (Qn rfl rfl (by rfl) ?_)))))))))
 refine Q8 rfl rfl rfl (Qd rfl rfl (WpL.nil (Qz rfl (by omega) ?_)))
 refine Qa (Qc rfl rfl (Qc rfl rfl (Qc rfl rfl (Qi rfl rfl (by repeat' constructor) (hdNum_spec g l0 l1 l2 s pt A c hc0 hc1 hl hI hat hT0) ?_))))
 rintro _ _ ⟨s', pt', A', hs, rfl, hok, rfl⟩
 simp only [Qs]
 refine Qy rfl rfl (Qk (o2 := 10) rfl rfl rfl (QV rfl rfl rfl (WpL.nil (Qb (Qa (Qc rfl rfl (Qy rfl rfl (Qk (o2 := 10) rfl rfl rfl (Qn rfl rfl (by rfl) ?_)))))))))
 refine Qd rfl rfl (WpL.nil (Qh ?_))
 apply RetQ.mk
 ·exact (Res.one rfl rfl)
 ·exact ⟨s', pt', A', by unfold Xa; rw [if_neg (fun h => h hI.1), if_neg (by omega)]; exact hs, rfl, hok, rfl⟩
 ·exact Ent.refl _


theorem hdPut_spec (g : Nat) (l0 l1 l2 : Int) (s : HS) (pt : Value) (A : HP) (c : Int) (hc0 : 0 ≤ c) (hc1 : c ≤ 255) (hl : (1 ≤ l0 ∧ l0 ≤ 4096) ∧ (1 ≤ l1 ∧ l1 ≤ 65536) ∧ (1 ≤ l2 ∧ l2 ≤ 65535)) (hI : hdI s) (hT0 : hdT l0 l1 l2 s pt A) : Fn Tryz.prog 123 #[.pointer (some ⟨g, 0, none⟩), .int .u8 c] [QK g [.int .i64 s.K, .int .i64 s.W, .int .i64 s.H, .int .i64 s.M, .int .i64 l0, .int .i64 l1, .int .i64 l2, .int .i64 s.at_, .int .i64 s.i, pt, .int .i64 0, .int .i64 s.e] 234, A] (fun v l => ∃ s' pt' A', s' = Xa l0 l1 l2 s c ∧ v = .int .i64 s'.last ∧ (s'.last = 0 → hdI s' ∧ hdT l0 l1 l2 s' pt' A') ∧ l = [QK g [.int .i64 s'.K, .int .i64 s'.W, .int .i64 s'.H, .int .i64 s'.M, .int .i64 l0, .int .i64 l1, .int .i64 l2, .int .i64 s'.at_, .int .i64 s'.i, pt', .int .i64 s'.last, .int .i64 s'.e] 234, A']) := by
  rcases hT0 with ⟨q1, q2, q3⟩ | ⟨q1, q2⟩
  · exact hdPut_m g l0 l1 l2 s pt A c hc0 hc1 hl hI (.inl ⟨q1, q2, q3⟩) q1 q3
  · exact hdPut_n g l0 l1 l2 s pt A c hc0 hc1 hl hI (.inr ⟨q1, q2⟩) q1

theorem lim_spec (x y : Int) : Fn Tryz.prog 162 #[.int .i64 x, .int .i64 y] [] (fun v l => v = .int .i64 (min (max x 1) y) ∧ l = []) := by
 refine Ql (vs := [.int .i64 x, .int .i64 y]) Tryz.func162 rfl Tryz.ntmps162 rfl (Qb (Qa (Qd rfl rfl (WpL.nil (Qb (Qa (Qc rfl rfl (s_max2 rfl rfl rfl (Qc rfl rfl (s_min2 rfl rfl rfl (Qd rfl rfl (WpL.nil ?_))))))))))))
 refine Qh ?_
 apply RetQ.mk
 ·exact (Res.one rfl rfl)
 ·exact ⟨rfl, rfl⟩
 ·exact Ent.refl _

theorem hdNew_spec (a b d : Int) : Fn Tryz.prog 112 #[.agg #[.int .i64 a, .int .i64 b, .int .i64 d]] [] (fun v l => ∃ g, v = .pointer (some ⟨g, 0, none⟩) ∧ l = [QK g [.int .i64 0, .int .i64 0, .int .i64 0, .int .i64 0, .int .i64 (min (max a 1) 4096), .int .i64 (min (max b 1) 65536), .int .i64 (min (max d 1) 65535), .int .i64 0, .int .i64 0, .pointer none, .int .i64 0, .int .i64 9] 234]) := by
 refine Ql (vs := [.agg #[.int .i64 a, .int .i64 b, .int .i64 d]]) Tryz.func112 rfl Tryz.ntmps112 rfl (Qb (Qa (Q2 rfl rfl rfl ?_)))
 intro g1
 refine Qd rfl rfl (WpL.nil (Qb (Qa (Qd rfl rfl (WpL.nil (Qb ?_))))))
 apply Xe (fB := []) mixed [(14, false)] (by kernel_rfl)
 apply Q7 [⟨0, 4, _, [], false⟩, ⟨1, 5, _, [], false⟩, ⟨2, 6, _, [1], false⟩, ⟨3, 7, _, [0, 2], false⟩, ⟨4, 8, _, [], false⟩, ⟨5, 9, _, [], false⟩, ⟨6, 10, _, [5], false⟩, ⟨7, 11, _, [3, 4, 6], false⟩, ⟨8, 12, _, [], false⟩, ⟨9, 13, _, [], false⟩, ⟨10, 14, _, [9], false⟩, ⟨11, 15, _, [7, 8, 10], false⟩, ⟨12, 16, _, [3, 7, 11], false⟩, ⟨13, 17, _, [12], false⟩] [] [0, 1, 2, 3, 4, 5, 6, 7, 8, 9, 10, 11, 12, 13] [2] (.inr rfl) rfl rfl rfl (by kernel_rfl) rfl rfl rfl
 ·refine AllF.cons rfl rfl rfl rfl ?_ ?_
  ·exact Qc rfl rfl (Qm rfl)
  refine AllF.cons rfl rfl rfl rfl ?_ ?_
  ·exact Qk (o2 := 0) rfl rfl rfl (Qm rfl)
  refine AllF.cons rfl rfl rfl rfl ?_ ?_
  ·refine Qn rfl rfl (by rfl) ?_
   exact Qm rfl
  refine AllF.cons rfl rfl rfl rfl ?_ ?_
  ·refine Yv (u := []) (c := []) rfl rfl rfl rfl (by repeat' constructor) (lim_spec _ _) ?_
   rintro _ _ ⟨rfl, rfl⟩
   simp only [Qs]
   exact WpL.nil ⟨rfl, rfl, rfl, by exact Ent.refl _⟩
  refine AllF.cons rfl rfl rfl rfl ?_ ?_
  ·exact Qc rfl rfl (Qm rfl)
  refine AllF.cons rfl rfl rfl rfl ?_ ?_
  ·exact Qk (o2 := 1) rfl rfl rfl (Qm rfl)
  refine AllF.cons rfl rfl rfl rfl ?_ ?_
  ·refine Qn rfl rfl (by rfl) ?_
   exact Qm rfl
  refine AllF.cons rfl rfl rfl rfl ?_ ?_
  ·refine Yv (u := []) (c := []) rfl rfl rfl rfl (by repeat' constructor) (lim_spec _ _) ?_
   rintro _ _ ⟨rfl, rfl⟩
   simp only [Qs]
   exact WpL.nil ⟨rfl, rfl, rfl, by exact Ent.refl _⟩
  refine AllF.cons rfl rfl rfl rfl ?_ ?_
  ·exact Qc rfl rfl (Qm rfl)
  refine AllF.cons rfl rfl rfl rfl ?_ ?_
  ·exact Qk (o2 := 2) rfl rfl rfl (Qm rfl)
  refine AllF.cons rfl rfl rfl rfl ?_ ?_
  ·refine Qn rfl rfl (by rfl) ?_
   exact Qm rfl
  refine AllF.cons rfl rfl rfl rfl ?_ ?_
  ·refine Yv (u := []) (c := []) rfl rfl rfl rfl (by repeat' constructor) (lim_spec _ _) ?_
   rintro _ _ ⟨rfl, rfl⟩
   simp only [Qs]
   exact WpL.nil ⟨rfl, rfl, rfl, by exact Ent.refl _⟩
  refine AllF.cons rfl rfl rfl rfl ?_ ?_
  ·refine Xu rfl rfl ?_
   exact Qm rfl
  refine AllF.cons rfl rfl rfl rfl ?_ ?_
  ·refine Xu rfl rfl ?_
   exact Qm rfl
  exact AllF.nil
 ·refine Q2 rfl rfl rfl ?_
  intro g2
  refine WpL.nil ⟨rfl, rfl, ?_⟩
  apply GoR.nil [⟨15, 2, _, [0, 1, 2, 3, 4, 5, 6, 7, 8, 9, 10, 11, 12, 13, 14], false⟩] (.inr rfl) rfl rfl
  ·refine AllF.cons rfl rfl rfl rfl ?_ ?_
   ·exact Qd rfl rfl (Qm rfl)
   exact AllF.nil
  ·refine Qh ?_
   apply RetQ.mk
   ·exact (Res.one rfl rfl)
   ·exact ⟨_, rfl, rfl⟩
   ·exact Take.ent' (by repeat' constructor)

theorem hdHead_spec (g : Nat) (K W H M l0 l1 l2 at_ i la e : Int) (pt : Value) : Fn Tryz.prog 116 #[.pointer (some ⟨g, 0, none⟩)] [QK g [.int .i64 K, .int .i64 W, .int .i64 H, .int .i64 M, .int .i64 l0, .int .i64 l1, .int .i64 l2, .int .i64 at_, .int .i64 i, pt, .int .i64 la, .int .i64 e] 234] (fun v l => ((e ≠ 0 ∧ v = .tuple #[.agg #[.int .i64 0, .int .i64 0, .int .i64 0, .int .i64 0], .int .i64 e]) ∨ (e = 0 ∧ v = .tuple #[.agg #[.int .i64 K, .int .i64 W, .int .i64 H, .int .i64 M], .int .i64 0])) ∧ l = [QK g [.int .i64 K, .int .i64 W, .int .i64 H, .int .i64 M, .int .i64 l0, .int .i64 l1, .int .i64 l2, .int .i64 at_, .int .i64 i, pt, .int .i64 la, .int .i64 e] 234]) := by
 refine Ql (vs := [.pointer (some ⟨g, 0, none⟩)]) Tryz.func116 rfl Tryz.ntmps116 rfl ?_
 refine Qb (Qa (XH rfl ?_))
 intro g1
 refine Qd rfl rfl (WpL.nil (Qb (Qb (Qa (Qc rfl rfl (Qy rfl rfl (Qk (o2 := 11) rfl rfl rfl (Qn rfl rfl (by rfl) ?_))))))))
 refine Xq rfl rfl rfl (WpL.nil (Qj rfl (fun h0 => ?_) (fun h0 => ?_)))
 ·refine Qb ?_
  apply Xe (fB := [QK g [.int .i64 K, .int .i64 W, .int .i64 H, .int .i64 M, .int .i64 l0, .int .i64 l1, .int .i64 l2, .int .i64 at_, .int .i64 i, pt, .int .i64 la, .int .i64 e] 234]) mixed [(5, false)] (by kernel_rfl)
  apply Q7 [⟨0, 9, _, [], false⟩, ⟨1, 10, _, [], true⟩, ⟨2, 11, _, [1], true⟩, ⟨3, 12, _, [2], true⟩, ⟨4, 13, _, [3], true⟩] [] [0] [3, 10, 11, 12, 13] (.inl ⟨_, by repeat' constructor⟩) rfl rfl rfl (by kernel_rfl) rfl rfl rfl
  ·refine AllF.cons rfl rfl rfl rfl ?_ ?_
   ·refine Xu rfl rfl ?_
    exact Qm rfl
   refine QD rfl rfl rfl rfl ?_ ?_
   ·exact Qc rfl rfl (Qm rfl)
   refine QD rfl rfl rfl rfl ?_ ?_
   ·exact Qy rfl rfl (Qm rfl)
   refine QD rfl rfl rfl rfl ?_ ?_
   ·exact Qk (o2 := 11) rfl rfl rfl (Qm rfl)
   refine QD rfl rfl rfl rfl ?_ ?_
   ·refine Qn rfl rfl (by rfl) ?_
    exact Qm rfl
   exact AllF.nil
  ·refine QC rfl rfl rfl (by rfl) rfl ?_
   refine WpL.nil ⟨rfl, rfl, ?_⟩
   apply GoR.nil [⟨6, 3, _, [0, 1, 2, 3, 4, 5], false⟩] (.inl ⟨_, by repeat' constructor⟩) rfl rfl
   ·refine AllF.cons rfl rfl rfl rfl ?_ ?_
    ·exact Qd rfl rfl (Qm rfl)
    exact AllF.nil
   ·refine Qh ?_
    apply RetQ.mk
    ·exact (QI rfl rfl (by rfl) rfl)
    ·exact ⟨.inl ⟨h0, rfl⟩, rfl⟩
    ·exact Take.ent' (by repeat' constructor)
 ·refine Wp.skip (Qb (Qa (Qc rfl rfl (Qy rfl rfl (Qk (o2 := 0) rfl rfl rfl ?_)))))
  refine Qw (vs := [_, _, _, _]) rfl rfl rfl (by rfl) ?_
  refine QC rfl rfl rfl (by rfl) rfl ?_
  refine Qd rfl rfl (WpL.nil (Qh ?_))
  apply RetQ.mk
  ·exact (QI rfl rfl (by rfl) rfl)
  ·exact ⟨.inr ⟨Classical.not_not.1 h0, rfl⟩, rfl⟩
  ·exact Take.ent' (by repeat' constructor)

end Go.Proofs.YtggamdlpiejbiaaGreat
namespace Go.Proofs.YtggamdlpiejbiaaGreat
open Go.RowKit Go.Shelf


theorem u8_lt (b : UInt8) : (b.toNat : Int) ≤ 255 := by have := b.toNat_lt; omega
def RInv (ch : Int) (k m : Nat) (s : RS) : Prop := (s.one.length : Int) < ch ∧ m + s.row.length ≤ k ∧ 0 ≤ s.rows ∧ s.rows ≤ k
theorem YU (K : Int) : 1 ≤ QR K ∧ QR K ≤ 3 := by unfold QR; split <;> omega
theorem sampleS_inv {ch : Int} (h : 1 ≤ ch) (one row : List Int) (x : Int) (h1 : (one.length : Int) < ch) : ((XF ch one row x).1.length : Int) < ch ∧ (XF ch one row x).2.length ≤ row.length + 1 := by
  unfold XF
  split
  · simp; omega
  · rename_i h2; simp at h2 ⊢; omega
theorem endsR_inv {ch : Int} (h : 1 ≤ ch) {k m : Nat} {s : RS} (hs : RInv ch k m s) : RInv ch (k + 1) m (YG ch s) := by
  obtain ⟨h1, h2, h3, h4⟩ := hs
  unfold YG
  split
  · exact ⟨h1, by omega, h3, by omega⟩
  · have := sampleS_inv h s.one s.row s.n h1
    exact ⟨this.1, by simp only; omega, h3, by simp only; omega⟩
theorem RInv.up {ch : Int} {k m : Nat} {s : RS} (hs : RInv ch k m s) : RInv ch (k + 1) m s := ⟨hs.1, by have := hs.2.1; omega, hs.2.2.1, by have := hs.2.2.2; omega⟩
theorem stepR_inv {K M c : Int} {k m : Nat} {s : RS} (hs : RInv (QR K) k m s) : RInv (QR K) (k + 1) m (Xz K M s c).1 := by
  have hch := YU K
  unfold Xz Vj ZO
  repeat' split
  all_goals first | exact hs.up | exact endsR_inv hch.1 hs | skip
  have := sampleS_inv hch.1 s.one s.row (c - 48) hs.1
  obtain ⟨h1, h2, h3, h4⟩ := hs
  exact ⟨this.1, by simp only [X1]; omega, h3, by simp only [X1]; omega⟩
theorem fullR_inv {ch W H : Int} {k m : Nat} {s : RS} (_hch : 1 ≤ ch) (hs : RInv ch (k + 1) m s) (hr : s.rows ≤ k) : RInv ch (k + 1) (m + (Xw W H s).2.length) (Xw W H s).1 := by
  obtain ⟨h1, h2, h3, h4⟩ := hs
  unfold Xw
  split
  · exact ⟨h1, by simp; omega, h3, h4⟩
  · exact ⟨h1, by simp; omega, by simp only; omega, by simp only; omega⟩
theorem putR_inv {K W H M c : Int} {k m : Nat} {s : RS} (hs : RInv (QR K) k m s) : RInv (QR K) (k + 1) (m + (XP K W H M s c).2.length) (XP K W H M s c).1 := by
  have h := stepR_inv (M := M) (c := c) hs
  have hk := (VF K M s c).1
  unfold XP
  split
  · exact hs.up
  · split
    · exact h
    · exact fullR_inv (YU K).1 h (by rw [hk]; exact hs.2.2.2)
theorem putR_last {K W H M c : Int} {s : RS} (hs : s.last = 0) : (XP K W H M s c).1.last = 0 ∨ (XP K W H M s c).1.last = 1 ∨ (XP K W H M s c).1.last = 2 := by
  have h := (VF K M s c).2.1
  unfold XP
  split
  · exact .inl hs
  · split
    · exact .inr (.inr rfl)
    · unfold Xw
      split
      · exact .inl (h.trans hs)
      · simp only
        split
        · exact .inr (.inl rfl)
        · exact .inl (h.trans hs)
theorem endR_out {K W H : Int} {k m : Nat} {s : RS} (hs : RInv (QR K) k m s) : m + (Vv K W H s).2.length ≤ k + 1 := by
  have h := endsR_inv (YU K).1 hs
  have hk := (Vw (QR K) s).1
  have h2 := fullR_inv (W := W) (H := H) (YU K).1 h (by rw [hk]; exact hs.2.2.2)
  have h3 := h2.2.1
  have h4 := hs.2.1
  unfold Vv
  split
  · simp; omega
  · split
    · simp only; omega
    · omega
def Yr (K W H M : Int) : List Int → Int → RS → List Int → List Int × Int × Int
  | [], i, s, acc => if (Vv K W H s).1.last = 2 then ([], 0, (Vv K W H s).1.e) else (acc ++ (Vv K W H s).2, i, 0)
  | c :: bs, i, s, acc => if (XP K W H M s c).1.last = 1 then (acc ++ (XP K W H M s c).2, i + 1, 0) else if (XP K W H M s c).1.last = 2 then ([], 0, (XP K W H M s c).1.e) else Yr K W H M bs (i + 1) (XP K W H M s c).1 (acc ++ (XP K W H M s c).2)
def s0R : RS := ⟨-1, [], [], 0, 0, 0⟩
def Zz (K W H M : Int) (bs : List Int) : List Int × Int × Int := if Zq K W H M then Yr K W H M bs 0 s0R [] else ([], 0, 1)
structure RdX where
  (k : Nat) (n : Int) (one row : List Int) (rows last e : Int) (acc : List Int) (a1 : Option Addr) (c1 : Nat) (a2 : Option Addr) (c2 : Nat) (a3 : Option Addr) (c3 : Nat)

theorem Read_spec (s : ByteArray) (hs : s.size ≤ 900000000000) (K W H M : Int) : Fn Tryz.prog 78 #[.string s, .agg #[.int .i64 K, .int .i64 W, .int .i64 H, .int .i64 M]] [] (fun v l => ∃ out i x a c, (out, i, x) = Zz K W H M (QJ s) ∧ v = .tuple #[.slice a out.length c, .int .i64 i, .int .i64 x] ∧ l = [QX 92 1 a c (out).length (XQ out)]) := by
 refine Ql (vs := [.string s, .agg #[.int .i64 K, .int .i64 W, .int .i64 H, .int .i64 M]]) Tryz.func78 rfl Tryz.ntmps78 rfl (Qb (Qa (Q2 rfl rfl rfl ?_)))
 intro g1
 refine Qd rfl rfl (Qd rfl rfl (Qd rfl rfl (WpL.nil (Qb (Qa ?_)))))
 refine Qw (vs := [_, _, _, _]) rfl rfl rfl (by rfl) ?_
 refine Qi rfl rfl (by repeat' constructor) (New_spec _ _ _ _) ?_
 intro v0 m0 hN0
 rcases hN0 with ⟨hP, g, rfl, rfl⟩ | ⟨hP, rfl, rfl⟩
 ·simp only [Qs]
  refine Qc rfl rfl (QB rfl rfl rfl (QB rfl rfl rfl (Qd rfl rfl (Qd rfl rfl (WpL.nil (Qb (Qb (Qa (Qc rfl rfl (Xq rfl rfl rfl (WpL.nil (Qz rfl (by decide) ?_))))))))))))
  refine Wp.skip (Qb (Qa (Qd rfl rfl (WpL.nil (Qb (Qb (Qa (Qc rfl rfl (Xy rfl Tryz.underlying9 rfl (Qc rfl rfl (WpL.nil (Wp.block ?_))))))))))))
  refine Wp.loopD (σ := RdX) (fun x => x.k ≤ s.size ∧ RInv (QR K) x.k x.acc.length ⟨x.n, x.one, x.row, x.rows, x.last, x.e⟩ ∧ x.last = 0 ∧ Yr K W H M ((QJ s).drop x.k) (x.k : Int) ⟨x.n, x.one, x.row, x.rows, x.last, x.e⟩ x.acc = Zz K W H M (QJ s)) [4, 5, 6, 9, 10, 11, 12, 25, 26, 27, 28, 29, 30, 31, 32, 33, 34, 35, 36, 37, 38, 39, 40, 41, 42, 43, 44, 45, 46, 47, 48, 49] (fun x => [(25, .int .i64 (x.k : Int)), (9, .slice x.a3 x.acc.length x.c3)]) (fun x => [QK g [.int .i64 K, .int .i64 W, .int .i64 H, .int .i64 M, stpOf K, .int .i64 x.n, .slice x.a1 x.one.length x.c1, .slice x.a2 x.row.length x.c2, .int .i64 x.rows, .int .i64 x.last, .int .i64 x.e] 186, QX 3 1 x.a1 x.c1 x.one.length (Q5 x.one), QX 92 1 x.a2 x.c2 x.row.length (XQ x.row), QX 92 1 x.a3 x.c3 x.acc.length (XQ x.acc)]) (fun x => s.size - x.k) ⟨0, -1, [], [], 0, 0, 0, [], none, 0, none, 0, none, 0⟩ ?_ (by repeat (first | exact FrLe.nil | refine FrLe.cons rfl ?_)) ?_ ?_
  ·exact ⟨Nat.zero_le _, ⟨by simp; have := YU K; omega, by simp, by simp, by simp⟩, rfl, (if_pos hP).symm⟩
  ·exact (Ent.own_nil (T := 92) (s := 1) (Ent.refl _)).trans (Take.ent' (by repeat' constructor))
  ·rintro ⟨k, n, one, row, rows, last, e, acc, a1, c1, a2, c2, a3, c3⟩ ⟨hk, hinv, hl, hR⟩
   dsimp only at hk hinv hl hR ⊢
   have hch := YU K
   have hin := hinv
   obtain ⟨hi1, hi2, hi3, hi4⟩ := hin
   have hP3 := hP.1
   unfold XG at hP3
   dsimp only at hi1 hi2 hi3 hi4
   refine Qb (Qa (Q8 rfl rfl rfl (WpL.nil (Qb (Qj rfl (fun h2 => ?_) (fun h2 => ?_))))))
   ·have hlt : k < s.size := by omega
    refine Wp.skip (Qb (Wp.block ?_))
    refine Qb (Qa (Qc rfl rfl (Qd rfl rfl (WpL.nil (Qb (Qa (Qc rfl rfl (Qc rfl rfl (Qc rfl rfl (Yo rfl Tryz.underlying9 rfl rfl (by omega) (by simp; omega) ?_))))))))))
    refine Qi rfl rfl (by repeat' constructor) (Put_spec _ _ _ _ _ _ _ _ _ _ _ _ _ _ _ _ _ rfl (by omega) (by omega) (by omega) (by omega) (u8_lt _) (by omega) (by omega) (by omega) (by omega)) ?_
    rintro _ _ ⟨n2, one2, row2, rows2, last2, e2, out, a1, c1, a2, c2, a3, c3, hs2, rfl, rfl, hnl2⟩
    simp only [Qs]
    have hinv2 := putR_inv (M := M) (W := W) (H := H) (c := ((s[k]'hlt).toNat : Int)) hinv
    have hs3 : (({ n := n2, one := one2, row := row2, rows := rows2, last := last2, e := e2 } : RS), out) = XP K W H M ⟨n, one, row, rows, last, e⟩ ((s[k]'hlt).toNat : Int) := hs2
    rw [← hs3] at hinv2
    rw [XD hlt, Yr, ← hs3] at hR
    dsimp only at hR
    have hol := hinv2.2.1
    dsimp only at hol
    have hla := putR_last (K := K) (W := W) (H := H) (M := M) (c := ((s[k]'hlt).toNat : Int)) (s := ⟨n, one, row, rows, last, e⟩) hl
    rw [← hs3] at hla
    dsimp only at hla
    refine Qc rfl rfl (QB rfl rfl rfl (QB rfl rfl rfl (Qd rfl rfl (Qd rfl rfl (WpL.nil (Qb (Qa (Qc rfl rfl (Qc rfl rfl (ZR rfl rfl rfl (by repeat' constructor) (by rfl) (by rfl) (Z5 _) (by omega) (by omega) ?_))))))))))
    intro a38 c38
    rw [pxs_app, show acc.length + out.length = (acc ++ out).length from by simp]
    refine Qd rfl rfl (WpL.nil (Qb (Qa (Qc rfl rfl (WpL.nil (Wp.block ?_))))))
    refine Qb (Qa (QH rfl rfl rfl (Qd rfl rfl (WpL.nil (Qj rfl (fun h3 => ?_) (fun h3 => ?_))))))
    ·refine Qb (Qa (Qc rfl rfl (Qc rfl rfl (QA rfl rfl rfl (Qo (by omega) (by omega)) ?_))))
     refine Qd rfl rfl (Qd rfl rfl (Qd rfl rfl (WpL.nil (Qh ?_))))
     apply RetQ.mk
     ·exact (Res.three rfl rfl rfl rfl)
     ·exact ⟨_, _, _, a38, c38, (if_pos h3).symm.trans hR, rfl, rfl⟩
     ·exact Take.ent' (by repeat' constructor)
    ·refine Qb (Qa (QH rfl rfl rfl (Qd rfl rfl (WpL.nil (Qj rfl (fun h4 => ?_) (fun h4 => ?_))))))
     ·refine Qb (Qa (Qc rfl rfl (Qi rfl rfl (by repeat' constructor) (Error_spec _ _ _ _ _ _ _ _ _ _ _ _ _ _ _ _) ?_)))
      rintro _ _ ⟨rfl, rfl⟩
      simp only [Qs]
      refine Qd rfl rfl (Qd rfl rfl (Qd rfl rfl (WpL.nil (Qh ?_))))
      apply RetQ.mk
      ·exact (Res.three rfl rfl rfl rfl)
      ·exact ⟨[], _, _, none, 0, ((if_neg h3).trans (if_pos h4)).symm.trans hR, rfl, rfl⟩
      ·exact Ent.own_nil (Ent.nil _)
     ·refine Wp.skip (Qa (QA rfl rfl rfl (Qo (by omega) (by omega)) ?_))
      refine Qc rfl rfl (WpL.nil ?_)
      have hR2 := (((if_neg h3).trans (if_neg h4)).symm.trans hR)
      refine Qq (⟨k + 1, n2, one2, row2, rows2, last2, e2, acc ++ out, a1, c1, a2, c2, a38, c38⟩ : RdX) ?_ ?_ (by ((repeat (first | exact Top.refl | refine Top.push rfl ?_)); done)) (by repeat (first | exact FrLe.nil | refine FrLe.cons rfl ?_)) ?_
      ·exact ⟨by simp only; omega, by simp only [List.length_append]; exact hinv2, by simp only; omega, hR2⟩
      ·simp only; omega
      ·exact Take.ent' (by repeat' constructor)
   ·refine QP (Qb (Qa (Qc rfl rfl (Qi rfl rfl (by repeat' constructor) (End_spec _ _ _ _ _ _ _ _ _ _ _ _ _ _ _ _ (by omega) (by omega) (by omega) (by omega) (by omega)) ?_))))
    rintro _ _ ⟨n2, one2, row2, rows2, last2, e2, out, a1, c1, a2, c2, a3, c3, hs2, rfl, rfl, hnl2⟩
    simp only [Qs]
    have hol := endR_out (W := W) (H := H) hinv
    rw [← hs2] at hol
    dsimp only at hol
    rw [List.drop_eq_nil_of_le (by rw [QZ]; omega), Yr, ← hs2] at hR
    dsimp only at hR
    refine Qc rfl rfl (QB rfl rfl rfl (QB rfl rfl rfl (Qd rfl rfl (Qd rfl rfl (WpL.nil (Qb (Qb (Qa (Qc rfl rfl (QH rfl rfl rfl (WpL.nil (Qj rfl (fun h5 => ?_) (fun h5 => ?_)))))))))))))
    ·refine Qb (Qa (Qc rfl rfl (Qi rfl rfl (by repeat' constructor) (Error_spec _ _ _ _ _ _ _ _ _ _ _ _ _ _ _ _) ?_)))
     rintro _ _ ⟨rfl, rfl⟩
     simp only [Qs]
     refine Qd rfl rfl (Qd rfl rfl (Qd rfl rfl (WpL.nil (Qh ?_))))
     apply RetQ.mk
     ·exact (Res.three rfl rfl rfl rfl)
     ·exact ⟨[], _, _, none, 0, (if_pos h5).symm.trans hR, rfl, rfl⟩
     ·exact Ent.own_nil (Ent.nil _)
    ·refine Wp.skip (Qb (Qa (Qc rfl rfl (Qc rfl rfl (ZR rfl rfl rfl (by repeat' constructor) (by rfl) (by rfl) (Z5 _) (by omega) (by omega) ?_)))))
     intro a61 c61
     rw [pxs_app, show acc.length + out.length = (acc ++ out).length from by simp]
     refine Qc rfl rfl (Xy rfl Tryz.underlying9 rfl (Qd rfl rfl (Qd rfl rfl (Qd rfl rfl (WpL.nil (Qh ?_))))))
     apply RetQ.mk
     ·exact (Res.three rfl rfl rfl rfl)
     ·exact ⟨_, _, _, a61, c61, ((if_neg h5).symm.trans hR).trans rfl, by rw [show k = s.size by omega], rfl⟩
     ·exact Take.ent' (by repeat' constructor)
 ·simp only [Qs]
  refine Qc rfl rfl (QB rfl rfl rfl (QB rfl rfl rfl (Qd rfl rfl (Qd rfl rfl (WpL.nil (Qb (Qb (Qa (Qc rfl rfl (Xq rfl rfl rfl (WpL.nil (QY rfl (by decide) ?_))))))))))))
  refine Qb (Qa (Qc rfl rfl (Qd rfl rfl (Qd rfl rfl (Qd rfl rfl (WpL.nil (Qh ?_)))))))
  apply RetQ.mk
  ·exact (Res.three rfl rfl rfl rfl)
  ·exact ⟨[], _, _, none, 0, (if_neg hP).symm, rfl, rfl⟩
  ·exact Ent.own_nil (Ent.nil _)

end Go.Proofs.YtggamdlpiejbiaaGreat
