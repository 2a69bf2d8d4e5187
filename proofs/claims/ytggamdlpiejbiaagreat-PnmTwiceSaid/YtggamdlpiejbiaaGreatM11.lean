/- Walks and plain laws, a part of the proof of PnmTwice: every input that the law's guards let in, no condition beside. -/
import Derived.Test.YtggamdlpiejbiaaGreatM10
namespace Go.Proofs.YtggamdlpiejbiaaGreat
open Go.RowKit Go.Shelf


theorem hdNum_spec (g : Nat) (l0 l1 l2 : Int) (s : HS) (pt : Value) (A : HP) (c : Int) (hc0 : 0 ≤ c) (hc1 : c ≤ 255) (hl : (1 ≤ l0 ∧ l0 ≤ 4096) ∧ (1 ≤ l1 ∧ l1 ≤ 65536) ∧ (1 ≤ l2 ∧ l2 ≤ 65535)) (hI : hdI s) (hat : s.at_ = 3) (hT0 : hdT l0 l1 l2 s pt A) :
    Fn Tryz.prog 166 #[.pointer (some ⟨g, 0, none⟩), .int .u8 c] [QD g [.int .i64 s.K, .int .i64 s.W, .int .i64 s.H, .int .i64 s.M, .int .i64 l0, .int .i64 l1, .int .i64 l2, .int .i64 s.at_, .int .i64 s.i, pt, .int .i64 0, .int .i64 s.e] 234, A] (fun v l => ∃ s' pt' A', s' = XF l0 l1 l2 s c ∧ v = .int .i64 s'.last ∧ (s'.last = 0 → hdI s' ∧ hdT l0 l1 l2 s' pt' A') ∧ l = [QD g [.int .i64 s'.K, .int .i64 s'.W, .int .i64 s'.H, .int .i64 s'.M, .int .i64 l0, .int .i64 l1, .int .i64 l2, .int .i64 s'.at_, .int .i64 s'.i, pt', .int .i64 0, .int .i64 s'.e] 234, A']) := by
  obtain ⟨K, W, H, M, at_, i, t, last, e⟩ := s
  obtain ⟨h1, h2, h3, h4, h5, h6⟩ := hI
  dsimp only at *
  subst hat
  subst h1
  rcases hT0 with ⟨q, _⟩ | ⟨_, hok, gt, bg, rfl, rfl⟩
  · exact absurd (show (3 : Int) < 3 from q) (by decide)
  dsimp only at hok
  obtain rfl | rfl | rfl : i = 0 ∨ i = 1 ∨ i = 2 := by omega
  · refine (hdNum_0 g gt K W H M l0 l1 l2 3 0 e t bg _ c hc0 hc1 hl rfl hok).mono fun v l h => ?_
    skip
    · rcases h with ⟨s', bg', hT, hok', rfl, rfl⟩ | ⟨e', bg', nx', hT, rfl, rfl⟩ | ⟨bg', nx', hT, rfl, rfl⟩ | h
      · have hm : XF l0 l1 l2 ⟨K, W, H, M, 3, 0, t, 0, e⟩ c = ⟨K, W, H, M, 3, 0, s', 0, e⟩ := by unfold XF; rw [show Q0 l0 l1 l2 0 = l0 from rfl, hT]; dsimp only; rw [if_pos rfl]
        exact ⟨_, ⟨⟨K, W, H, M, 3, 0, s', 0, e⟩, _, _, hm.symm, rfl, (fun _ => ⟨by unfold hdI; dsimp only; omega, .inr ⟨rfl, hok', gt, bg', rfl, rfl⟩⟩), rfl⟩, Ent.refl _⟩
      · have hm : XF l0 l1 l2 ⟨K, W, H, M, 3, 0, t, 0, e⟩ c = ⟨K, W, H, M, 3, 0, ⟨5, 0, e'⟩, 2, e'⟩ := by unfold XF; rw [show Q0 l0 l1 l2 0 = l0 from rfl, hT]; dsimp only; rw [if_neg (by decide), if_pos rfl]
        exact ⟨_, ⟨⟨K, W, H, M, 3, 0, ⟨5, 0, e'⟩, 2, e'⟩, _, _, hm.symm, rfl, (fun h => absurd (show (2 : Int) = 0 from h) (by decide)), rfl⟩, Ent.refl _⟩
      · have hm : XF l0 l1 l2 ⟨K, W, H, M, 3, 0, t, 0, e⟩ c = ⟨K, W, H, M, 3, 0, ⟨4, 0, 0⟩, 2, 4⟩ := by unfold XF; rw [show Q0 l0 l1 l2 0 = l0 from rfl, hT]; dsimp only; rw [if_neg (by decide), if_neg (by decide), if_pos rfl]
        exact ⟨_, ⟨⟨K, W, H, M, 3, 0, ⟨4, 0, 0⟩, 2, 4⟩, _, _, hm.symm, rfl, (fun h => absurd (show (2 : Int) = 0 from h) (by decide)), rfl⟩, Ent.refl _⟩
      · obtain ⟨n', hT, hn0, hn1, rfl, gt2, rfl⟩ := h
        have hq1 : Ya ⟨K, W, H, M, 3, 0, t, 0, e⟩ n' = ⟨K, n', H, M, 3, 0, t, 0, e⟩ := by unfold Ya; dsimp only; rw [if_pos rfl]
        have hq2 : XI ⟨K, n', H, M, 3, 0, t, 0, e⟩ = ⟨K, n', H, M, 3, 1, t, 0, e⟩ := by unfold XI XZ; dsimp only; rw [if_neg (fun q => absurd q.1 (by decide))]; try rfl
        have hm : XF l0 l1 l2 ⟨K, W, H, M, 3, 0, t, 0, e⟩ c = ⟨K, n', H, M, 3, 1, X8, 0, e⟩ := by unfold XF; rw [show Q0 l0 l1 l2 0 = l0 from rfl, hT]; dsimp only; rw [if_neg (by decide), if_neg (by decide), if_neg (by omega), hq1, hq2]; dsimp only; rw [if_pos (by decide)]; try rfl
        exact ⟨_, ⟨⟨K, n', H, M, 3, 1, X8, 0, e⟩, _, _, hm.symm, rfl, (fun _ => ⟨by unfold hdI; dsimp only; omega, .inr ⟨rfl, (by unfold Yx X8 Q0; dsimp only; rw [if_neg (by decide)]; rw [if_pos rfl]; omega), gt2, false, rfl, rfl⟩⟩), rfl⟩, Ent.refl _⟩
  · by_cases hbk : K = 1 ∨ K = 4
    · refine (hdNum_1b g gt K W H M l0 l1 l2 3 0 e t bg _ c hc0 hc1 hl rfl hok hbk).mono fun v l h => ?_
      skip
      · rcases h with ⟨s', bg', hT, hok', rfl, rfl⟩ | ⟨e', bg', nx', hT, rfl, rfl⟩ | ⟨bg', nx', hT, rfl, rfl⟩ | h
        · have hm : XF l0 l1 l2 ⟨K, W, H, M, 3, 1, t, 0, e⟩ c = ⟨K, W, H, M, 3, 1, s', 0, e⟩ := by unfold XF; rw [show Q0 l0 l1 l2 1 = l1 from rfl, hT]; dsimp only; rw [if_pos rfl]
          exact ⟨_, ⟨⟨K, W, H, M, 3, 1, s', 0, e⟩, _, _, hm.symm, rfl, (fun _ => ⟨by unfold hdI; dsimp only; omega, .inr ⟨rfl, hok', gt, bg', rfl, rfl⟩⟩), rfl⟩, Ent.refl _⟩
        · have hm : XF l0 l1 l2 ⟨K, W, H, M, 3, 1, t, 0, e⟩ c = ⟨K, W, H, M, 3, 1, ⟨5, 0, e'⟩, 2, e'⟩ := by unfold XF; rw [show Q0 l0 l1 l2 1 = l1 from rfl, hT]; dsimp only; rw [if_neg (by decide), if_pos rfl]
          exact ⟨_, ⟨⟨K, W, H, M, 3, 1, ⟨5, 0, e'⟩, 2, e'⟩, _, _, hm.symm, rfl, (fun h => absurd (show (2 : Int) = 0 from h) (by decide)), rfl⟩, Ent.refl _⟩
        · have hm : XF l0 l1 l2 ⟨K, W, H, M, 3, 1, t, 0, e⟩ c = ⟨K, W, H, M, 3, 1, ⟨4, 0, 0⟩, 2, 4⟩ := by unfold XF; rw [show Q0 l0 l1 l2 1 = l1 from rfl, hT]; dsimp only; rw [if_neg (by decide), if_neg (by decide), if_pos rfl]
          exact ⟨_, ⟨⟨K, W, H, M, 3, 1, ⟨4, 0, 0⟩, 2, 4⟩, _, _, hm.symm, rfl, (fun h => absurd (show (2 : Int) = 0 from h) (by decide)), rfl⟩, Ent.refl _⟩
        · obtain ⟨n', hT, hn0, hn1, rfl, bg', nx', rfl⟩ := h
          have hq1 : Ya ⟨K, W, H, M, 3, 1, t, 0, e⟩ n' = ⟨K, W, n', M, 3, 1, t, 0, e⟩ := by unfold Ya; dsimp only; rw [if_neg (by decide), if_pos rfl]
          have hq2 : XI ⟨K, W, n', M, 3, 1, t, 0, e⟩ = ⟨K, W, n', 1, 3, 3, t, 0, e⟩ := by unfold XI XZ; dsimp only; rw [if_pos ⟨by decide, hbk⟩]; try rfl
          have hm : XF l0 l1 l2 ⟨K, W, H, M, 3, 1, t, 0, e⟩ c = ⟨K, W, n', 1, 3, 3, ⟨4, n', 0⟩, 1, 0⟩ := by unfold XF; rw [show Q0 l0 l1 l2 1 = l1 from rfl, hT]; dsimp only; rw [if_neg (by decide), if_neg (by decide), if_neg (by omega), hq1, hq2]; dsimp only; rw [if_neg (by decide)]; try rfl
          exact ⟨_, ⟨⟨K, W, n', 1, 3, 3, ⟨4, n', 0⟩, 1, 0⟩, _, _, hm.symm, rfl, (fun h => absurd (show (1 : Int) = 0 from h) (by decide)), rfl⟩, Ent.refl _⟩
    · refine (hdNum_1n g gt K W H M l0 l1 l2 3 0 e t bg _ c hc0 hc1 hl rfl hok hbk).mono fun v l h => ?_
      skip
      · rcases h with ⟨s', bg', hT, hok', rfl, rfl⟩ | ⟨e', bg', nx', hT, rfl, rfl⟩ | ⟨bg', nx', hT, rfl, rfl⟩ | h
        · have hm : XF l0 l1 l2 ⟨K, W, H, M, 3, 1, t, 0, e⟩ c = ⟨K, W, H, M, 3, 1, s', 0, e⟩ := by unfold XF; rw [show Q0 l0 l1 l2 1 = l1 from rfl, hT]; dsimp only; rw [if_pos rfl]
          exact ⟨_, ⟨⟨K, W, H, M, 3, 1, s', 0, e⟩, _, _, hm.symm, rfl, (fun _ => ⟨by unfold hdI; dsimp only; omega, .inr ⟨rfl, hok', gt, bg', rfl, rfl⟩⟩), rfl⟩, Ent.refl _⟩
        · have hm : XF l0 l1 l2 ⟨K, W, H, M, 3, 1, t, 0, e⟩ c = ⟨K, W, H, M, 3, 1, ⟨5, 0, e'⟩, 2, e'⟩ := by unfold XF; rw [show Q0 l0 l1 l2 1 = l1 from rfl, hT]; dsimp only; rw [if_neg (by decide), if_pos rfl]
          exact ⟨_, ⟨⟨K, W, H, M, 3, 1, ⟨5, 0, e'⟩, 2, e'⟩, _, _, hm.symm, rfl, (fun h => absurd (show (2 : Int) = 0 from h) (by decide)), rfl⟩, Ent.refl _⟩
        · have hm : XF l0 l1 l2 ⟨K, W, H, M, 3, 1, t, 0, e⟩ c = ⟨K, W, H, M, 3, 1, ⟨4, 0, 0⟩, 2, 4⟩ := by unfold XF; rw [show Q0 l0 l1 l2 1 = l1 from rfl, hT]; dsimp only; rw [if_neg (by decide), if_neg (by decide), if_pos rfl]
          exact ⟨_, ⟨⟨K, W, H, M, 3, 1, ⟨4, 0, 0⟩, 2, 4⟩, _, _, hm.symm, rfl, (fun h => absurd (show (2 : Int) = 0 from h) (by decide)), rfl⟩, Ent.refl _⟩
        · obtain ⟨n', hT, hn0, hn1, rfl, gt2, rfl⟩ := h
          have hq1 : Ya ⟨K, W, H, M, 3, 1, t, 0, e⟩ n' = ⟨K, W, n', M, 3, 1, t, 0, e⟩ := by unfold Ya; dsimp only; rw [if_neg (by decide), if_pos rfl]
          have hq2 : XI ⟨K, W, n', M, 3, 1, t, 0, e⟩ = ⟨K, W, n', M, 3, 2, t, 0, e⟩ := by unfold XI XZ; dsimp only; rw [if_neg (fun q => hbk q.2)]; try rfl
          have hm : XF l0 l1 l2 ⟨K, W, H, M, 3, 1, t, 0, e⟩ c = ⟨K, W, n', M, 3, 2, X8, 0, e⟩ := by unfold XF; rw [show Q0 l0 l1 l2 1 = l1 from rfl, hT]; dsimp only; rw [if_neg (by decide), if_neg (by decide), if_neg (by omega), hq1, hq2]; dsimp only; rw [if_pos (by decide)]; try rfl
          exact ⟨_, ⟨⟨K, W, n', M, 3, 2, X8, 0, e⟩, _, _, hm.symm, rfl, (fun _ => ⟨by unfold hdI; dsimp only; omega, .inr ⟨rfl, (by unfold Yx X8 Q0; dsimp only; rw [if_neg (by decide)]; rw [if_neg (by decide)]; omega), gt2, false, rfl, rfl⟩⟩), rfl⟩, Ent.refl _⟩
  · refine (hdNum_2 g gt K W H M l0 l1 l2 3 0 e t bg _ c hc0 hc1 hl rfl hok).mono fun v l h => ?_
    skip
    · rcases h with ⟨s', bg', hT, hok', rfl, rfl⟩ | ⟨e', bg', nx', hT, rfl, rfl⟩ | ⟨bg', nx', hT, rfl, rfl⟩ | h
      · have hm : XF l0 l1 l2 ⟨K, W, H, M, 3, 2, t, 0, e⟩ c = ⟨K, W, H, M, 3, 2, s', 0, e⟩ := by unfold XF; rw [show Q0 l0 l1 l2 2 = l2 from rfl, hT]; dsimp only; rw [if_pos rfl]
        exact ⟨_, ⟨⟨K, W, H, M, 3, 2, s', 0, e⟩, _, _, hm.symm, rfl, (fun _ => ⟨by unfold hdI; dsimp only; omega, .inr ⟨rfl, hok', gt, bg', rfl, rfl⟩⟩), rfl⟩, Ent.refl _⟩
      · have hm : XF l0 l1 l2 ⟨K, W, H, M, 3, 2, t, 0, e⟩ c = ⟨K, W, H, M, 3, 2, ⟨5, 0, e'⟩, 2, e'⟩ := by unfold XF; rw [show Q0 l0 l1 l2 2 = l2 from rfl, hT]; dsimp only; rw [if_neg (by decide), if_pos rfl]
        exact ⟨_, ⟨⟨K, W, H, M, 3, 2, ⟨5, 0, e'⟩, 2, e'⟩, _, _, hm.symm, rfl, (fun h => absurd (show (2 : Int) = 0 from h) (by decide)), rfl⟩, Ent.refl _⟩
      · have hm : XF l0 l1 l2 ⟨K, W, H, M, 3, 2, t, 0, e⟩ c = ⟨K, W, H, M, 3, 2, ⟨4, 0, 0⟩, 2, 4⟩ := by unfold XF; rw [show Q0 l0 l1 l2 2 = l2 from rfl, hT]; dsimp only; rw [if_neg (by decide), if_neg (by decide), if_pos rfl]
        exact ⟨_, ⟨⟨K, W, H, M, 3, 2, ⟨4, 0, 0⟩, 2, 4⟩, _, _, hm.symm, rfl, (fun h => absurd (show (2 : Int) = 0 from h) (by decide)), rfl⟩, Ent.refl _⟩
      · obtain ⟨n', hT, hn0, hn1, rfl, bg', nx', rfl⟩ := h
        have hq1 : Ya ⟨K, W, H, M, 3, 2, t, 0, e⟩ n' = ⟨K, W, H, n', 3, 2, t, 0, e⟩ := by unfold Ya; dsimp only; rw [if_neg (by decide), if_neg (by decide)]
        have hq2 : XI ⟨K, W, H, n', 3, 2, t, 0, e⟩ = ⟨K, W, H, n', 3, 3, t, 0, e⟩ := by unfold XI XZ; dsimp only; rw [if_neg (fun q => absurd q.1 (by decide))]; try rfl
        have hm : XF l0 l1 l2 ⟨K, W, H, M, 3, 2, t, 0, e⟩ c = ⟨K, W, H, n', 3, 3, ⟨4, n', 0⟩, 1, 0⟩ := by unfold XF; rw [show Q0 l0 l1 l2 2 = l2 from rfl, hT]; dsimp only; rw [if_neg (by decide), if_neg (by decide), if_neg (by omega), hq1, hq2]; dsimp only; rw [if_neg (by decide)]; try rfl
        exact ⟨_, ⟨⟨K, W, H, n', 3, 3, ⟨4, n', 0⟩, 1, 0⟩, _, _, hm.symm, rfl, (fun h => absurd (show (1 : Int) = 0 from h) (by decide)), rfl⟩, Ent.refl _⟩


end Go.Proofs.YtggamdlpiejbiaaGreat
namespace Go.Proofs.YtggamdlpiejbiaaGreat
open Go.RowKit Go.Shelf

theorem hdPut_m (g : Nat) (l0 l1 l2 : Int) (s : HS) (pt : Value) (A : HP) (c : Int) (hc0 : 0 ≤ c) (hc1 : c ≤ 255) (hl : (1 ≤ l0 ∧ l0 ≤ 4096) ∧ (1 ≤ l1 ∧ l1 ≤ 65536) ∧ (1 ≤ l2 ∧ l2 ≤ 65535)) (hI : hdI s) (_hT0 : hdT l0 l1 l2 s pt A) (hat : s.at_ < 3) (hpt : pt = .pointer none) : Fn Tryz.prog 123 #[.pointer (some ⟨g, 0, none⟩), .int .u8 c] [QD g [.int .i64 s.K, .int .i64 s.W, .int .i64 s.H, .int .i64 s.M, .int .i64 l0, .int .i64 l1, .int .i64 l2, .int .i64 s.at_, .int .i64 s.i, pt, .int .i64 0, .int .i64 s.e] 234, A] (fun v l => ∃ s' pt' A', s' = QU l0 l1 l2 s c ∧ v = .int .i64 s'.last ∧ (s'.last = 0 → hdI s' ∧ hdT l0 l1 l2 s' pt' A') ∧ l = [QD g [.int .i64 s'.K, .int .i64 s'.W, .int .i64 s'.H, .int .i64 s'.M, .int .i64 l0, .int .i64 l1, .int .i64 l2, .int .i64 s'.at_, .int .i64 s'.i, pt', .int .i64 s'.last, .int .i64 s'.e] 234, A']) := by
 refine Qo (vs := [.pointer (some ⟨g, 0, none⟩), .int .u8 c]) Tryz.func123 rfl Tryz.ntmps123 rfl ?_
 refine Qb (Qa (Qd rfl rfl (WpL.nil (Qb (Wp.block ?_)))))
 refine Qb (Qa (Qc rfl rfl (Qt rfl rfl (Qj (o2 := 10) rfl rfl rfl (Qm rfl rfl (by rfl) ?_)))))
 refine Xu rfl rfl rfl (Qd rfl rfl (WpL.nil (QA rfl (by decide) (Qb (Qa (Qc rfl rfl (Qt rfl rfl (Qj (o2 := 7) rfl rfl rfl (Qm rfl rfl (by rfl) ?_)))))))))
 refine Xc rfl rfl rfl (Qd rfl rfl (WpL.nil (Q1 rfl hat (Qa (Qc rfl rfl (Qc rfl rfl (Qc rfl rfl (Qk rfl rfl (by repeat' constructor) (hdMagic_spec g l0 l1 l2 s pt c hc0 hc1 hl hI hat hpt) ?_))))))))
 rintro _ _ ⟨s', pt', A', hs, rfl, hok, rfl⟩
 simp only [Qv]
 refine Qt rfl rfl (Qj (o2 := 10) rfl rfl rfl (QN rfl rfl rfl (WpL.nil (Qb (Qa (Qc rfl rfl (Qt rfl rfl (Qj (o2 := 10) rfl rfl rfl (Qm rfl rfl (by rfl) ?_)))))))))
 refine Qd rfl rfl (WpL.nil (Qg ?_))
 apply RetQ.mk
 ·exact (Res.one rfl rfl)
 ·exact ⟨s', pt', A', by unfold QU; rw [if_neg (fun h => h hI.1), if_pos hat]; exact hs, rfl, hok, rfl⟩
 ·exact Take.ent' (by repeat' constructor)

theorem hdPut_n (g : Nat) (l0 l1 l2 : Int) (s : HS) (pt : Value) (A : HP) (c : Int) (hc0 : 0 ≤ c) (hc1 : c ≤ 255) (hl : (1 ≤ l0 ∧ l0 ≤ 4096) ∧ (1 ≤ l1 ∧ l1 ≤ 65536) ∧ (1 ≤ l2 ∧ l2 ≤ 65535)) (hI : hdI s) (hT0 : hdT l0 l1 l2 s pt A) (hat : s.at_ = 3) : Fn Tryz.prog 123 #[.pointer (some ⟨g, 0, none⟩), .int .u8 c] [QD g [.int .i64 s.K, .int .i64 s.W, .int .i64 s.H, .int .i64 s.M, .int .i64 l0, .int .i64 l1, .int .i64 l2, .int .i64 s.at_, .int .i64 s.i, pt, .int .i64 0, .int .i64 s.e] 234, A] (fun v l => ∃ s' pt' A', s' = QU l0 l1 l2 s c ∧ v = .int .i64 s'.last ∧ (s'.last = 0 → hdI s' ∧ hdT l0 l1 l2 s' pt' A') ∧ l = [QD g [.int .i64 s'.K, .int .i64 s'.W, .int .i64 s'.H, .int .i64 s'.M, .int .i64 l0, .int .i64 l1, .int .i64 l2, .int .i64 s'.at_, .int .i64 s'.i, pt', .int .i64 s'.last, .int .i64 s'.e] 234, A']) := by
 refine Qo (vs := [.pointer (some ⟨g, 0, none⟩), .int .u8 c]) Tryz.func123 rfl Tryz.ntmps123 rfl ?_
 refine Qb (Qa (Qd rfl rfl (WpL.nil (Qb (Wp.block ?_)))))
 refine Qb (Qa (Qc rfl rfl (Qt rfl rfl (Qj (o2 := 10) rfl rfl rfl (Qm rfl rfl (by rfl) ?_)))))
 refine Xu rfl rfl rfl (Qd rfl rfl (WpL.nil (QA rfl (by decide) (Qb (Qa (Qc rfl rfl (Qt rfl rfl (Qj (o2 := 7) rfl rfl rfl (Qm rfl rfl (by rfl) ?_)))))))))
 refine Xc rfl rfl rfl (Qd rfl rfl (WpL.nil (QA rfl (by omega) ?_)))
 refine Qa (Qc rfl rfl (Qc rfl rfl (Qc rfl rfl (Qk rfl rfl (by repeat' constructor) (hdNum_spec g l0 l1 l2 s pt A c hc0 hc1 hl hI hat hT0) ?_))))
 rintro _ _ ⟨s', pt', A', hs, rfl, hok, rfl⟩
 simp only [Qv]
 refine Qt rfl rfl (Qj (o2 := 10) rfl rfl rfl (QN rfl rfl rfl (WpL.nil (Qb (Qa (Qc rfl rfl (Qt rfl rfl (Qj (o2 := 10) rfl rfl rfl (Qm rfl rfl (by rfl) ?_)))))))))
 refine Qd rfl rfl (WpL.nil (Qg ?_))
 apply RetQ.mk
 ·exact (Res.one rfl rfl)
 ·exact ⟨s', pt', A', by unfold QU; rw [if_neg (fun h => h hI.1), if_neg (by omega)]; exact hs, rfl, hok, rfl⟩
 ·exact Ent.refl _


theorem hdPut_spec (g : Nat) (l0 l1 l2 : Int) (s : HS) (pt : Value) (A : HP) (c : Int) (hc0 : 0 ≤ c) (hc1 : c ≤ 255) (hl : (1 ≤ l0 ∧ l0 ≤ 4096) ∧ (1 ≤ l1 ∧ l1 ≤ 65536) ∧ (1 ≤ l2 ∧ l2 ≤ 65535)) (hI : hdI s) (hT0 : hdT l0 l1 l2 s pt A) : Fn Tryz.prog 123 #[.pointer (some ⟨g, 0, none⟩), .int .u8 c] [QD g [.int .i64 s.K, .int .i64 s.W, .int .i64 s.H, .int .i64 s.M, .int .i64 l0, .int .i64 l1, .int .i64 l2, .int .i64 s.at_, .int .i64 s.i, pt, .int .i64 0, .int .i64 s.e] 234, A] (fun v l => ∃ s' pt' A', s' = QU l0 l1 l2 s c ∧ v = .int .i64 s'.last ∧ (s'.last = 0 → hdI s' ∧ hdT l0 l1 l2 s' pt' A') ∧ l = [QD g [.int .i64 s'.K, .int .i64 s'.W, .int .i64 s'.H, .int .i64 s'.M, .int .i64 l0, .int .i64 l1, .int .i64 l2, .int .i64 s'.at_, .int .i64 s'.i, pt', .int .i64 s'.last, .int .i64 s'.e] 234, A']) := by
  rcases hT0 with ⟨q1, q2, q3⟩ | ⟨q1, q2⟩
  · exact hdPut_m g l0 l1 l2 s pt A c hc0 hc1 hl hI (.inl ⟨q1, q2, q3⟩) q1 q3
  · exact hdPut_n g l0 l1 l2 s pt A c hc0 hc1 hl hI (.inr ⟨q1, q2⟩) q1

theorem lim_spec (x y : Int) : Fn Tryz.prog 162 #[.int .i64 x, .int .i64 y] [] (fun v l => v = .int .i64 (min (max x 1) y) ∧ l = []) := by
 refine Qo (vs := [.int .i64 x, .int .i64 y]) Tryz.func162 rfl Tryz.ntmps162 rfl (Qb (Qa (Qd rfl rfl (WpL.nil (Qb (Qa (Qc rfl rfl (s_max2 rfl rfl rfl (Qc rfl rfl (s_min2 rfl rfl rfl (Qd rfl rfl (WpL.nil ?_))))))))))))
 refine Qg ?_
 apply RetQ.mk
 ·exact (Res.one rfl rfl)
 ·exact ⟨rfl, rfl⟩
 ·exact Ent.refl _

theorem hdNew_spec (a b d : Int) : Fn Tryz.prog 112 #[.agg #[.int .i64 a, .int .i64 b, .int .i64 d]] [] (fun v l => ∃ g, v = .pointer (some ⟨g, 0, none⟩) ∧ l = [QD g [.int .i64 0, .int .i64 0, .int .i64 0, .int .i64 0, .int .i64 (min (max a 1) 4096), .int .i64 (min (max b 1) 65536), .int .i64 (min (max d 1) 65535), .int .i64 0, .int .i64 0, .pointer none, .int .i64 0, .int .i64 9] 234]) := by
 refine Qo (vs := [.agg #[.int .i64 a, .int .i64 b, .int .i64 d]]) Tryz.func112 rfl Tryz.ntmps112 rfl (Qb (Qa (Xf rfl rfl rfl ?_)))
 intro g1
 refine Qd rfl rfl (WpL.nil (Qb (Qa (Qd rfl rfl (WpL.nil (Qb ?_))))))
 apply Xk (fB := []) mixed [(14, false)] (by kernel_rfl)
 apply Xd [⟨0, 4, _, [], false⟩, ⟨1, 5, _, [], false⟩, ⟨2, 6, _, [1], false⟩, ⟨3, 7, _, [0, 2], false⟩, ⟨4, 8, _, [], false⟩, ⟨5, 9, _, [], false⟩, ⟨6, 10, _, [5], false⟩, ⟨7, 11, _, [3, 4, 6], false⟩, ⟨8, 12, _, [], false⟩, ⟨9, 13, _, [], false⟩, ⟨10, 14, _, [9], false⟩, ⟨11, 15, _, [7, 8, 10], false⟩, ⟨12, 16, _, [3, 7, 11], false⟩, ⟨13, 17, _, [12], false⟩] [] [0, 1, 2, 3, 4, 5, 6, 7, 8, 9, 10, 11, 12, 13] [2] (.inr rfl) rfl rfl rfl (by kernel_rfl) rfl rfl rfl
 ·refine AllF.cons rfl rfl rfl rfl ?_ ?_
  ·exact Qc rfl rfl (Qn rfl)
  refine AllF.cons rfl rfl rfl rfl ?_ ?_
  ·exact Qj (o2 := 0) rfl rfl rfl (Qn rfl)
  refine AllF.cons rfl rfl rfl rfl ?_ ?_
  ·refine Qm rfl rfl (by rfl) ?_
   exact Qn rfl
  refine AllF.cons rfl rfl rfl rfl ?_ ?_
  ·refine Zb (u := []) (c := []) rfl rfl rfl rfl (by repeat' constructor) (lim_spec _ _) ?_
   rintro _ _ ⟨rfl, rfl⟩
   simp only [Qv]
   exact WpL.nil ⟨rfl, rfl, rfl, by exact Ent.refl _⟩
  refine AllF.cons rfl rfl rfl rfl ?_ ?_
  ·exact Qc rfl rfl (Qn rfl)
  refine AllF.cons rfl rfl rfl rfl ?_ ?_
  ·exact Qj (o2 := 1) rfl rfl rfl (Qn rfl)
  refine AllF.cons rfl rfl rfl rfl ?_ ?_
  ·refine Qm rfl rfl (by rfl) ?_
   exact Qn rfl
  refine AllF.cons rfl rfl rfl rfl ?_ ?_
  ·refine Zb (u := []) (c := []) rfl rfl rfl rfl (by repeat' constructor) (lim_spec _ _) ?_
   rintro _ _ ⟨rfl, rfl⟩
   simp only [Qv]
   exact WpL.nil ⟨rfl, rfl, rfl, by exact Ent.refl _⟩
  refine AllF.cons rfl rfl rfl rfl ?_ ?_
  ·exact Qc rfl rfl (Qn rfl)
  refine AllF.cons rfl rfl rfl rfl ?_ ?_
  ·exact Qj (o2 := 2) rfl rfl rfl (Qn rfl)
  refine AllF.cons rfl rfl rfl rfl ?_ ?_
  ·refine Qm rfl rfl (by rfl) ?_
   exact Qn rfl
  refine AllF.cons rfl rfl rfl rfl ?_ ?_
  ·refine Zb (u := []) (c := []) rfl rfl rfl rfl (by repeat' constructor) (lim_spec _ _) ?_
   rintro _ _ ⟨rfl, rfl⟩
   simp only [Qv]
   exact WpL.nil ⟨rfl, rfl, rfl, by exact Ent.refl _⟩
  refine AllF.cons rfl rfl rfl rfl ?_ ?_
  ·refine Xl rfl rfl ?_
   exact Qn rfl
  refine AllF.cons rfl rfl rfl rfl ?_ ?_
  ·refine Xl rfl rfl ?_
   exact Qn rfl
  exact AllF.nil
 ·refine Xf rfl rfl rfl ?_
  intro g2
  refine WpL.nil ⟨rfl, rfl, ?_⟩
  apply GoR.nil [⟨15, 2, _, [0, 1, 2, 3, 4, 5, 6, 7, 8, 9, 10, 11, 12, 13, 14], false⟩] (.inr rfl) rfl rfl
  ·refine AllF.cons rfl rfl rfl rfl ?_ ?_
   ·exact Qd rfl rfl (Qn rfl)
   exact AllF.nil
  ·refine Qg ?_
   apply RetQ.mk
   ·exact (Res.one rfl rfl)
   ·exact ⟨_, rfl, rfl⟩
   ·exact Take.ent' (by repeat' constructor)

theorem hdHead_spec (g : Nat) (K W H M l0 l1 l2 at_ i la e : Int) (pt : Value) : Fn Tryz.prog 116 #[.pointer (some ⟨g, 0, none⟩)] [QD g [.int .i64 K, .int .i64 W, .int .i64 H, .int .i64 M, .int .i64 l0, .int .i64 l1, .int .i64 l2, .int .i64 at_, .int .i64 i, pt, .int .i64 la, .int .i64 e] 234] (fun v l => ((e ≠ 0 ∧ v = .tuple #[.agg #[.int .i64 0, .int .i64 0, .int .i64 0, .int .i64 0], .int .i64 e]) ∨ (e = 0 ∧ v = .tuple #[.agg #[.int .i64 K, .int .i64 W, .int .i64 H, .int .i64 M], .int .i64 0])) ∧ l = [QD g [.int .i64 K, .int .i64 W, .int .i64 H, .int .i64 M, .int .i64 l0, .int .i64 l1, .int .i64 l2, .int .i64 at_, .int .i64 i, pt, .int .i64 la, .int .i64 e] 234]) := by
 refine Qo (vs := [.pointer (some ⟨g, 0, none⟩)]) Tryz.func116 rfl Tryz.ntmps116 rfl ?_
 refine Qb (Qa (X6 rfl ?_))
 intro g1
 refine Qd rfl rfl (WpL.nil (Qb (Qb (Qa (Qc rfl rfl (Qt rfl rfl (Qj (o2 := 11) rfl rfl rfl (Qm rfl rfl (by rfl) ?_))))))))
 refine Xu rfl rfl rfl (WpL.nil (Qh rfl (fun h0 => ?_) (fun h0 => ?_)))
 ·refine Qb ?_
  apply Xk (fB := [QD g [.int .i64 K, .int .i64 W, .int .i64 H, .int .i64 M, .int .i64 l0, .int .i64 l1, .int .i64 l2, .int .i64 at_, .int .i64 i, pt, .int .i64 la, .int .i64 e] 234]) mixed [(5, false)] (by kernel_rfl)
  apply Xd [⟨0, 9, _, [], false⟩, ⟨1, 10, _, [], true⟩, ⟨2, 11, _, [1], true⟩, ⟨3, 12, _, [2], true⟩, ⟨4, 13, _, [3], true⟩] [] [0] [3, 10, 11, 12, 13] (.inl ⟨_, by repeat' constructor⟩) rfl rfl rfl (by kernel_rfl) rfl rfl rfl
  ·refine AllF.cons rfl rfl rfl rfl ?_ ?_
   ·refine Xl rfl rfl ?_
    exact Qn rfl
   refine QR rfl rfl rfl rfl ?_ ?_
   ·exact Qc rfl rfl (Qn rfl)
   refine QR rfl rfl rfl rfl ?_ ?_
   ·exact Qt rfl rfl (Qn rfl)
   refine QR rfl rfl rfl rfl ?_ ?_
   ·exact Qj (o2 := 11) rfl rfl rfl (Qn rfl)
   refine QR rfl rfl rfl rfl ?_ ?_
   ·refine Qm rfl rfl (by rfl) ?_
    exact Qn rfl
   exact AllF.nil
  ·refine QE rfl rfl rfl (by rfl) rfl ?_
   refine WpL.nil ⟨rfl, rfl, ?_⟩
   apply GoR.nil [⟨6, 3, _, [0, 1, 2, 3, 4, 5], false⟩] (.inl ⟨_, by repeat' constructor⟩) rfl rfl
   ·refine AllF.cons rfl rfl rfl rfl ?_ ?_
    ·exact Qd rfl rfl (Qn rfl)
    exact AllF.nil
   ·refine Qg ?_
    apply RetQ.mk
    ·exact (QK rfl rfl (by rfl) rfl)
    ·exact ⟨.inl ⟨h0, rfl⟩, rfl⟩
    ·exact Take.ent' (by repeat' constructor)
 ·refine Wp.skip (Qb (Qa (Qc rfl rfl (Qt rfl rfl (Qj (o2 := 0) rfl rfl rfl ?_)))))
  refine Qz (vs := [_, _, _, _]) rfl rfl rfl (by rfl) ?_
  refine QE rfl rfl rfl (by rfl) rfl ?_
  refine Qd rfl rfl (WpL.nil (Qg ?_))
  apply RetQ.mk
  ·exact (QK rfl rfl (by rfl) rfl)
  ·exact ⟨.inr ⟨Classical.not_not.1 h0, rfl⟩, rfl⟩
  ·exact Take.ent' (by repeat' constructor)

end Go.Proofs.YtggamdlpiejbiaaGreat
namespace Go.Proofs.YtggamdlpiejbiaaGreat
open Go.RowKit Go.Shelf


theorem u8_lt (b : UInt8) : (b.toNat : Int) ≤ 255 := by have := b.toNat_lt; omega
def RInv (ch : Int) (k m : Nat) (s : RS) : Prop := (s.one.length : Int) < ch ∧ m + s.row.length ≤ k ∧ 0 ≤ s.rows ∧ s.rows ≤ k
theorem Vd (K : Int) : 1 ≤ QT K ∧ QT K ≤ 3 := by unfold QT; split <;> omega
theorem sampleS_inv {ch : Int} (h : 1 ≤ ch) (one row : List Int) (x : Int) (h1 : (one.length : Int) < ch) : ((Xz ch one row x).1.length : Int) < ch ∧ (Xz ch one row x).2.length ≤ row.length + 1 := by
  unfold Xz
  split
  · simp; omega
  · rename_i h2; simp at h2 ⊢; omega
theorem endsR_inv {ch : Int} (h : 1 ≤ ch) {k m : Nat} {s : RS} (hs : RInv ch k m s) : RInv ch (k + 1) m (Yq ch s) := by
  obtain ⟨h1, h2, h3, h4⟩ := hs
  unfold Yq
  split
  · exact ⟨h1, by omega, h3, by omega⟩
  · have := sampleS_inv h s.one s.row s.n h1
    exact ⟨this.1, by simp only; omega, h3, by simp only; omega⟩
theorem RInv.up {ch : Int} {k m : Nat} {s : RS} (hs : RInv ch k m s) : RInv ch (k + 1) m s := ⟨hs.1, by have := hs.2.1; omega, hs.2.2.1, by have := hs.2.2.2; omega⟩
theorem stepR_inv {K M c : Int} {k m : Nat} {s : RS} (hs : RInv (QT K) k m s) : RInv (QT K) (k + 1) m (XV K M s c).1 := by
  have hch := Vd K
  unfold XV Z0 ZB
  repeat' split
  all_goals first | exact hs.up | exact endsR_inv hch.1 hs | skip
  have := sampleS_inv hch.1 s.one s.row (c - 48) hs.1
  obtain ⟨h1, h2, h3, h4⟩ := hs
  exact ⟨this.1, by simp only [XX]; omega, h3, by simp only [XX]; omega⟩
theorem fullR_inv {ch W H : Int} {k m : Nat} {s : RS} (_hch : 1 ≤ ch) (hs : RInv ch (k + 1) m s) (hr : s.rows ≤ k) : RInv ch (k + 1) (m + (Xt W H s).2.length) (Xt W H s).1 := by
  obtain ⟨h1, h2, h3, h4⟩ := hs
  unfold Xt
  split
  · exact ⟨h1, by simp; omega, h3, h4⟩
  · exact ⟨h1, by simp; omega, by simp only; omega, by simp only; omega⟩
theorem putR_inv {K W H M c : Int} {k m : Nat} {s : RS} (hs : RInv (QT K) k m s) : RInv (QT K) (k + 1) (m + (Xw K W H M s c).2.length) (Xw K W H M s c).1 := by
  have h := stepR_inv (M := M) (c := c) hs
  have hk := (ZE K M s c).1
  unfold Xw
  split
  · exact hs.up
  · split
    · exact h
    · exact fullR_inv (Vd K).1 h (by rw [hk]; exact hs.2.2.2)
theorem putR_last {K W H M c : Int} {s : RS} (hs : s.last = 0) : (Xw K W H M s c).1.last = 0 ∨ (Xw K W H M s c).1.last = 1 ∨ (Xw K W H M s c).1.last = 2 := by
  have h := (ZE K M s c).2.1
  unfold Xw
  split
  · exact .inl hs
  · split
    · exact .inr (.inr rfl)
    · unfold Xt
      split
      · exact .inl (h.trans hs)
      · simp only
        split
        · exact .inr (.inl rfl)
        · exact .inl (h.trans hs)
def s0R : RS := ⟨-1, [], [], 0, 0, 0⟩
end Go.Proofs.YtggamdlpiejbiaaGreat
