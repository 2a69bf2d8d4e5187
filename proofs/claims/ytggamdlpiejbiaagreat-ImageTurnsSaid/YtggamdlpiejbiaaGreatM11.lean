/- Walks and plain laws, a part of the proof of ImageTurns: every input that the law's guards let in, no condition beside. -/
import Derived.Test.YtggamdlpiejbiaaGreatM10
namespace Go.Proofs.YtggamdlpiejbiaaGreat
open Go.RowKit Go.Shelf


theorem hdNum_spec (g : Nat) (l0 l1 l2 : Int) (s : HS) (pt : Value) (A : HP) (c : Int) (hc0 : 0 ≤ c) (hc1 : c ≤ 255) (hl : (1 ≤ l0 ∧ l0 ≤ 4096) ∧ (1 ≤ l1 ∧ l1 ≤ 65536) ∧ (1 ≤ l2 ∧ l2 ≤ 65535)) (hI : hdI s) (hat : s.at_ = 3) (hT0 : hdT l0 l1 l2 s pt A) :
    Fn Tryz.prog 166 #[.pointer (some ⟨g, 0, none⟩), .int .u8 c] [QB g [.int .i64 s.K, .int .i64 s.W, .int .i64 s.H, .int .i64 s.M, .int .i64 l0, .int .i64 l1, .int .i64 l2, .int .i64 s.at_, .int .i64 s.i, pt, .int .i64 0, .int .i64 s.e] 234, A] (fun v l => ∃ s' pt' A', s' = Xq l0 l1 l2 s c ∧ v = .int .i64 s'.last ∧ (s'.last = 0 → hdI s' ∧ hdT l0 l1 l2 s' pt' A') ∧ l = [QB g [.int .i64 s'.K, .int .i64 s'.W, .int .i64 s'.H, .int .i64 s'.M, .int .i64 l0, .int .i64 l1, .int .i64 l2, .int .i64 s'.at_, .int .i64 s'.i, pt', .int .i64 0, .int .i64 s'.e] 234, A']) := by
  obtain ⟨K, W, H, M, at_, i, t, last, e⟩ := s
  obtain ⟨h1, h2, h3, h4, h5, h6⟩ := hI
  dsimp only at *
  subst hat
  subst h1
  rcases hT0 with ⟨q, _⟩ | ⟨_, hok, gt, bg, rfl, rfl⟩
  · exact absurd (show (3 : Int) < 3 from q) (by decide)
  dsimp only at hok
  obtain rfl | rfl | rfl : i = 0 ∨ i = 1 ∨ i = 2 := by omega
  · refine (hdNum_0 g gt K W H M l0 l1 l2 3 0 e t bg _ c hc0 hc1 hl rfl hok).mono fun v l h => ?_
    skip
    · rcases h with ⟨s', bg', hT, hok', rfl, rfl⟩ | ⟨e', bg', nx', hT, rfl, rfl⟩ | ⟨bg', nx', hT, rfl, rfl⟩ | h
      · have hm : Xq l0 l1 l2 ⟨K, W, H, M, 3, 0, t, 0, e⟩ c = ⟨K, W, H, M, 3, 0, s', 0, e⟩ := by unfold Xq; rw [show X0 l0 l1 l2 0 = l0 from rfl, hT]; dsimp only; rw [if_pos rfl]
        exact ⟨_, ⟨⟨K, W, H, M, 3, 0, s', 0, e⟩, _, _, hm.symm, rfl, (fun _ => ⟨by unfold hdI; dsimp only; omega, .inr ⟨rfl, hok', gt, bg', rfl, rfl⟩⟩), rfl⟩, Ent.refl _⟩
      · have hm : Xq l0 l1 l2 ⟨K, W, H, M, 3, 0, t, 0, e⟩ c = ⟨K, W, H, M, 3, 0, ⟨5, 0, e'⟩, 2, e'⟩ := by unfold Xq; rw [show X0 l0 l1 l2 0 = l0 from rfl, hT]; dsimp only; rw [if_neg (by decide), if_pos rfl]
        exact ⟨_, ⟨⟨K, W, H, M, 3, 0, ⟨5, 0, e'⟩, 2, e'⟩, _, _, hm.symm, rfl, (fun h => absurd (show (2 : Int) = 0 from h) (by decide)), rfl⟩, Ent.refl _⟩
      · have hm : Xq l0 l1 l2 ⟨K, W, H, M, 3, 0, t, 0, e⟩ c = ⟨K, W, H, M, 3, 0, ⟨4, 0, 0⟩, 2, 4⟩ := by unfold Xq; rw [show X0 l0 l1 l2 0 = l0 from rfl, hT]; dsimp only; rw [if_neg (by decide), if_neg (by decide), if_pos rfl]
        exact ⟨_, ⟨⟨K, W, H, M, 3, 0, ⟨4, 0, 0⟩, 2, 4⟩, _, _, hm.symm, rfl, (fun h => absurd (show (2 : Int) = 0 from h) (by decide)), rfl⟩, Ent.refl _⟩
      · obtain ⟨n', hT, hn0, hn1, rfl, gt2, rfl⟩ := h
        have hq1 : Y2 ⟨K, W, H, M, 3, 0, t, 0, e⟩ n' = ⟨K, n', H, M, 3, 0, t, 0, e⟩ := by unfold Y2; dsimp only; rw [if_pos rfl]
        have hq2 : Yf ⟨K, n', H, M, 3, 0, t, 0, e⟩ = ⟨K, n', H, M, 3, 1, t, 0, e⟩ := by unfold Yf Zc; dsimp only; rw [if_neg (fun q => absurd q.1 (by decide))]; try rfl
        have hm : Xq l0 l1 l2 ⟨K, W, H, M, 3, 0, t, 0, e⟩ c = ⟨K, n', H, M, 3, 1, tk0, 0, e⟩ := by unfold Xq; rw [show X0 l0 l1 l2 0 = l0 from rfl, hT]; dsimp only; rw [if_neg (by decide), if_neg (by decide), if_neg (by omega), hq1, hq2]; dsimp only; rw [if_pos (by decide)]; try rfl
        exact ⟨_, ⟨⟨K, n', H, M, 3, 1, tk0, 0, e⟩, _, _, hm.symm, rfl, (fun _ => ⟨by unfold hdI; dsimp only; omega, .inr ⟨rfl, (by unfold YW tk0 X0; dsimp only; rw [if_neg (by decide)]; rw [if_pos rfl]; omega), gt2, false, rfl, rfl⟩⟩), rfl⟩, Ent.refl _⟩
  · by_cases hbk : K = 1 ∨ K = 4
    · refine (hdNum_1b g gt K W H M l0 l1 l2 3 0 e t bg _ c hc0 hc1 hl rfl hok hbk).mono fun v l h => ?_
      skip
      · rcases h with ⟨s', bg', hT, hok', rfl, rfl⟩ | ⟨e', bg', nx', hT, rfl, rfl⟩ | ⟨bg', nx', hT, rfl, rfl⟩ | h
        · have hm : Xq l0 l1 l2 ⟨K, W, H, M, 3, 1, t, 0, e⟩ c = ⟨K, W, H, M, 3, 1, s', 0, e⟩ := by unfold Xq; rw [show X0 l0 l1 l2 1 = l1 from rfl, hT]; dsimp only; rw [if_pos rfl]
          exact ⟨_, ⟨⟨K, W, H, M, 3, 1, s', 0, e⟩, _, _, hm.symm, rfl, (fun _ => ⟨by unfold hdI; dsimp only; omega, .inr ⟨rfl, hok', gt, bg', rfl, rfl⟩⟩), rfl⟩, Ent.refl _⟩
        · have hm : Xq l0 l1 l2 ⟨K, W, H, M, 3, 1, t, 0, e⟩ c = ⟨K, W, H, M, 3, 1, ⟨5, 0, e'⟩, 2, e'⟩ := by unfold Xq; rw [show X0 l0 l1 l2 1 = l1 from rfl, hT]; dsimp only; rw [if_neg (by decide), if_pos rfl]
          exact ⟨_, ⟨⟨K, W, H, M, 3, 1, ⟨5, 0, e'⟩, 2, e'⟩, _, _, hm.symm, rfl, (fun h => absurd (show (2 : Int) = 0 from h) (by decide)), rfl⟩, Ent.refl _⟩
        · have hm : Xq l0 l1 l2 ⟨K, W, H, M, 3, 1, t, 0, e⟩ c = ⟨K, W, H, M, 3, 1, ⟨4, 0, 0⟩, 2, 4⟩ := by unfold Xq; rw [show X0 l0 l1 l2 1 = l1 from rfl, hT]; dsimp only; rw [if_neg (by decide), if_neg (by decide), if_pos rfl]
          exact ⟨_, ⟨⟨K, W, H, M, 3, 1, ⟨4, 0, 0⟩, 2, 4⟩, _, _, hm.symm, rfl, (fun h => absurd (show (2 : Int) = 0 from h) (by decide)), rfl⟩, Ent.refl _⟩
        · obtain ⟨n', hT, hn0, hn1, rfl, bg', nx', rfl⟩ := h
          have hq1 : Y2 ⟨K, W, H, M, 3, 1, t, 0, e⟩ n' = ⟨K, W, n', M, 3, 1, t, 0, e⟩ := by unfold Y2; dsimp only; rw [if_neg (by decide), if_pos rfl]
          have hq2 : Yf ⟨K, W, n', M, 3, 1, t, 0, e⟩ = ⟨K, W, n', 1, 3, 3, t, 0, e⟩ := by unfold Yf Zc; dsimp only; rw [if_pos ⟨by decide, hbk⟩]; try rfl
          have hm : Xq l0 l1 l2 ⟨K, W, H, M, 3, 1, t, 0, e⟩ c = ⟨K, W, n', 1, 3, 3, ⟨4, n', 0⟩, 1, 0⟩ := by unfold Xq; rw [show X0 l0 l1 l2 1 = l1 from rfl, hT]; dsimp only; rw [if_neg (by decide), if_neg (by decide), if_neg (by omega), hq1, hq2]; dsimp only; rw [if_neg (by decide)]; try rfl
          exact ⟨_, ⟨⟨K, W, n', 1, 3, 3, ⟨4, n', 0⟩, 1, 0⟩, _, _, hm.symm, rfl, (fun h => absurd (show (1 : Int) = 0 from h) (by decide)), rfl⟩, Ent.refl _⟩
    · refine (hdNum_1n g gt K W H M l0 l1 l2 3 0 e t bg _ c hc0 hc1 hl rfl hok hbk).mono fun v l h => ?_
      skip
      · rcases h with ⟨s', bg', hT, hok', rfl, rfl⟩ | ⟨e', bg', nx', hT, rfl, rfl⟩ | ⟨bg', nx', hT, rfl, rfl⟩ | h
        · have hm : Xq l0 l1 l2 ⟨K, W, H, M, 3, 1, t, 0, e⟩ c = ⟨K, W, H, M, 3, 1, s', 0, e⟩ := by unfold Xq; rw [show X0 l0 l1 l2 1 = l1 from rfl, hT]; dsimp only; rw [if_pos rfl]
          exact ⟨_, ⟨⟨K, W, H, M, 3, 1, s', 0, e⟩, _, _, hm.symm, rfl, (fun _ => ⟨by unfold hdI; dsimp only; omega, .inr ⟨rfl, hok', gt, bg', rfl, rfl⟩⟩), rfl⟩, Ent.refl _⟩
        · have hm : Xq l0 l1 l2 ⟨K, W, H, M, 3, 1, t, 0, e⟩ c = ⟨K, W, H, M, 3, 1, ⟨5, 0, e'⟩, 2, e'⟩ := by unfold Xq; rw [show X0 l0 l1 l2 1 = l1 from rfl, hT]; dsimp only; rw [if_neg (by decide), if_pos rfl]
          exact ⟨_, ⟨⟨K, W, H, M, 3, 1, ⟨5, 0, e'⟩, 2, e'⟩, _, _, hm.symm, rfl, (fun h => absurd (show (2 : Int) = 0 from h) (by decide)), rfl⟩, Ent.refl _⟩
        · have hm : Xq l0 l1 l2 ⟨K, W, H, M, 3, 1, t, 0, e⟩ c = ⟨K, W, H, M, 3, 1, ⟨4, 0, 0⟩, 2, 4⟩ := by unfold Xq; rw [show X0 l0 l1 l2 1 = l1 from rfl, hT]; dsimp only; rw [if_neg (by decide), if_neg (by decide), if_pos rfl]
          exact ⟨_, ⟨⟨K, W, H, M, 3, 1, ⟨4, 0, 0⟩, 2, 4⟩, _, _, hm.symm, rfl, (fun h => absurd (show (2 : Int) = 0 from h) (by decide)), rfl⟩, Ent.refl _⟩
        · obtain ⟨n', hT, hn0, hn1, rfl, gt2, rfl⟩ := h
          have hq1 : Y2 ⟨K, W, H, M, 3, 1, t, 0, e⟩ n' = ⟨K, W, n', M, 3, 1, t, 0, e⟩ := by unfold Y2; dsimp only; rw [if_neg (by decide), if_pos rfl]
          have hq2 : Yf ⟨K, W, n', M, 3, 1, t, 0, e⟩ = ⟨K, W, n', M, 3, 2, t, 0, e⟩ := by unfold Yf Zc; dsimp only; rw [if_neg (fun q => hbk q.2)]; try rfl
          have hm : Xq l0 l1 l2 ⟨K, W, H, M, 3, 1, t, 0, e⟩ c = ⟨K, W, n', M, 3, 2, tk0, 0, e⟩ := by unfold Xq; rw [show X0 l0 l1 l2 1 = l1 from rfl, hT]; dsimp only; rw [if_neg (by decide), if_neg (by decide), if_neg (by omega), hq1, hq2]; dsimp only; rw [if_pos (by decide)]; try rfl
          exact ⟨_, ⟨⟨K, W, n', M, 3, 2, tk0, 0, e⟩, _, _, hm.symm, rfl, (fun _ => ⟨by unfold hdI; dsimp only; omega, .inr ⟨rfl, (by unfold YW tk0 X0; dsimp only; rw [if_neg (by decide)]; rw [if_neg (by decide)]; omega), gt2, false, rfl, rfl⟩⟩), rfl⟩, Ent.refl _⟩
  · refine (hdNum_2 g gt K W H M l0 l1 l2 3 0 e t bg _ c hc0 hc1 hl rfl hok).mono fun v l h => ?_
    skip
    · rcases h with ⟨s', bg', hT, hok', rfl, rfl⟩ | ⟨e', bg', nx', hT, rfl, rfl⟩ | ⟨bg', nx', hT, rfl, rfl⟩ | h
      · have hm : Xq l0 l1 l2 ⟨K, W, H, M, 3, 2, t, 0, e⟩ c = ⟨K, W, H, M, 3, 2, s', 0, e⟩ := by unfold Xq; rw [show X0 l0 l1 l2 2 = l2 from rfl, hT]; dsimp only; rw [if_pos rfl]
        exact ⟨_, ⟨⟨K, W, H, M, 3, 2, s', 0, e⟩, _, _, hm.symm, rfl, (fun _ => ⟨by unfold hdI; dsimp only; omega, .inr ⟨rfl, hok', gt, bg', rfl, rfl⟩⟩), rfl⟩, Ent.refl _⟩
      · have hm : Xq l0 l1 l2 ⟨K, W, H, M, 3, 2, t, 0, e⟩ c = ⟨K, W, H, M, 3, 2, ⟨5, 0, e'⟩, 2, e'⟩ := by unfold Xq; rw [show X0 l0 l1 l2 2 = l2 from rfl, hT]; dsimp only; rw [if_neg (by decide), if_pos rfl]
        exact ⟨_, ⟨⟨K, W, H, M, 3, 2, ⟨5, 0, e'⟩, 2, e'⟩, _, _, hm.symm, rfl, (fun h => absurd (show (2 : Int) = 0 from h) (by decide)), rfl⟩, Ent.refl _⟩
      · have hm : Xq l0 l1 l2 ⟨K, W, H, M, 3, 2, t, 0, e⟩ c = ⟨K, W, H, M, 3, 2, ⟨4, 0, 0⟩, 2, 4⟩ := by unfold Xq; rw [show X0 l0 l1 l2 2 = l2 from rfl, hT]; dsimp only; rw [if_neg (by decide), if_neg (by decide), if_pos rfl]
        exact ⟨_, ⟨⟨K, W, H, M, 3, 2, ⟨4, 0, 0⟩, 2, 4⟩, _, _, hm.symm, rfl, (fun h => absurd (show (2 : Int) = 0 from h) (by decide)), rfl⟩, Ent.refl _⟩
      · obtain ⟨n', hT, hn0, hn1, rfl, bg', nx', rfl⟩ := h
        have hq1 : Y2 ⟨K, W, H, M, 3, 2, t, 0, e⟩ n' = ⟨K, W, H, n', 3, 2, t, 0, e⟩ := by unfold Y2; dsimp only; rw [if_neg (by decide), if_neg (by decide)]
        have hq2 : Yf ⟨K, W, H, n', 3, 2, t, 0, e⟩ = ⟨K, W, H, n', 3, 3, t, 0, e⟩ := by unfold Yf Zc; dsimp only; rw [if_neg (fun q => absurd q.1 (by decide))]; try rfl
        have hm : Xq l0 l1 l2 ⟨K, W, H, M, 3, 2, t, 0, e⟩ c = ⟨K, W, H, n', 3, 3, ⟨4, n', 0⟩, 1, 0⟩ := by unfold Xq; rw [show X0 l0 l1 l2 2 = l2 from rfl, hT]; dsimp only; rw [if_neg (by decide), if_neg (by decide), if_neg (by omega), hq1, hq2]; dsimp only; rw [if_neg (by decide)]; try rfl
        exact ⟨_, ⟨⟨K, W, H, n', 3, 3, ⟨4, n', 0⟩, 1, 0⟩, _, _, hm.symm, rfl, (fun h => absurd (show (1 : Int) = 0 from h) (by decide)), rfl⟩, Ent.refl _⟩


end Go.Proofs.YtggamdlpiejbiaaGreat
namespace Go.Proofs.YtggamdlpiejbiaaGreat
open Go.RowKit Go.Shelf

theorem hdPut_m (g : Nat) (l0 l1 l2 : Int) (s : HS) (pt : Value) (A : HP) (c : Int) (hc0 : 0 ≤ c) (hc1 : c ≤ 255) (hl : (1 ≤ l0 ∧ l0 ≤ 4096) ∧ (1 ≤ l1 ∧ l1 ≤ 65536) ∧ (1 ≤ l2 ∧ l2 ≤ 65535)) (hI : hdI s) (_hT0 : hdT l0 l1 l2 s pt A) (hat : s.at_ < 3) (hpt : pt = .pointer none) : Fn Tryz.prog 123 #[.pointer (some ⟨g, 0, none⟩), .int .u8 c] [QB g [.int .i64 s.K, .int .i64 s.W, .int .i64 s.H, .int .i64 s.M, .int .i64 l0, .int .i64 l1, .int .i64 l2, .int .i64 s.at_, .int .i64 s.i, pt, .int .i64 0, .int .i64 s.e] 234, A] (fun v l => ∃ s' pt' A', s' = XA l0 l1 l2 s c ∧ v = .int .i64 s'.last ∧ (s'.last = 0 → hdI s' ∧ hdT l0 l1 l2 s' pt' A') ∧ l = [QB g [.int .i64 s'.K, .int .i64 s'.W, .int .i64 s'.H, .int .i64 s'.M, .int .i64 l0, .int .i64 l1, .int .i64 l2, .int .i64 s'.at_, .int .i64 s'.i, pt', .int .i64 s'.last, .int .i64 s'.e] 234, A']) := by
 refine Qk (vs := [.pointer (some ⟨g, 0, none⟩), .int .u8 c]) Tryz.func123 rfl Tryz.ntmps123 rfl ?_
 refine Qb (Qa (Qe rfl rfl (WpL.nil (Qb (Wp.block ?_)))))
 refine Qb (Qa (Qd rfl rfl (Qs rfl rfl (Qj (o2 := 10) rfl rfl rfl (Qo rfl rfl (by rfl) ?_)))))
 refine Xj rfl rfl rfl (Qe rfl rfl (WpL.nil (QA rfl (by decide) (Qb (Qa (Qd rfl rfl (Qs rfl rfl (Qj (o2 := 7) rfl rfl rfl (Qo rfl rfl (by rfl) ?_)))))))))
 refine Q6 rfl rfl rfl (Qe rfl rfl (WpL.nil (QN rfl hat (Qa (Qd rfl rfl (Qd rfl rfl (Qd rfl rfl (Qg rfl rfl (by repeat' constructor) (hdMagic_spec g l0 l1 l2 s pt c hc0 hc1 hl hI hat hpt) ?_))))))))
 rintro _ _ ⟨s', pt', A', hs, rfl, hok, rfl⟩
 simp only [Qr]
 refine Qs rfl rfl (Qj (o2 := 10) rfl rfl rfl (Q0 rfl rfl rfl (WpL.nil (Qb (Qa (Qd rfl rfl (Qs rfl rfl (Qj (o2 := 10) rfl rfl rfl (Qo rfl rfl (by rfl) ?_)))))))))
 refine Qe rfl rfl (WpL.nil (Qh ?_))
 apply RetQ.mk
 ·exact (Res.one rfl rfl)
 ·exact ⟨s', pt', A', by unfold XA; rw [if_neg (fun h => h hI.1), if_pos hat]; exact hs, rfl, hok, rfl⟩
 ·exact Take.ent' (by repeat' constructor)

theorem hdPut_n (g : Nat) (l0 l1 l2 : Int) (s : HS) (pt : Value) (A : HP) (c : Int) (hc0 : 0 ≤ c) (hc1 : c ≤ 255) (hl : (1 ≤ l0 ∧ l0 ≤ 4096) ∧ (1 ≤ l1 ∧ l1 ≤ 65536) ∧ (1 ≤ l2 ∧ l2 ≤ 65535)) (hI : hdI s) (hT0 : hdT l0 l1 l2 s pt A) (hat : s.at_ = 3) : Fn Tryz.prog 123 #[.pointer (some ⟨g, 0, none⟩), .int .u8 c] [QB g [.int .i64 s.K, .int .i64 s.W, .int .i64 s.H, .int .i64 s.M, .int .i64 l0, .int .i64 l1, .int .i64 l2, .int .i64 s.at_, .int .i64 s.i, pt, .int .i64 0, .int .i64 s.e] 234, A] (fun v l => ∃ s' pt' A', s' = XA l0 l1 l2 s c ∧ v = .int .i64 s'.last ∧ (s'.last = 0 → hdI s' ∧ hdT l0 l1 l2 s' pt' A') ∧ l = [QB g [.int .i64 s'.K, .int .i64 s'.W, .int .i64 s'.H, .int .i64 s'.M, .int .i64 l0, .int .i64 l1, .int .i64 l2, .int .i64 s'.at_, .int .i64 s'.i, pt', .int .i64 s'.last, .int .i64 s'.e] 234, A']) := by
 refine Qk (vs := [.pointer (some ⟨g, 0, none⟩), .int .u8 c]) Tryz.func123 rfl Tryz.ntmps123 rfl ?_
 refine Qb (Qa (Qe rfl rfl (WpL.nil (Qb (Wp.block ?_)))))
 refine Qb (Qa (Qd rfl rfl (Qs rfl rfl (Qj (o2 := 10) rfl rfl rfl (Qo rfl rfl (by rfl) ?_)))))
 refine Xj rfl rfl rfl (Qe rfl rfl (WpL.nil (QA rfl (by decide) (Qb (Qa (Qd rfl rfl (Qs rfl rfl (Qj (o2 := 7) rfl rfl rfl (Qo rfl rfl (by rfl) ?_)))))))))
 refine Q6 rfl rfl rfl (Qe rfl rfl (WpL.nil (QA rfl (by omega) ?_)))
 refine Qa (Qd rfl rfl (Qd rfl rfl (Qd rfl rfl (Qg rfl rfl (by repeat' constructor) (hdNum_spec g l0 l1 l2 s pt A c hc0 hc1 hl hI hat hT0) ?_))))
 rintro _ _ ⟨s', pt', A', hs, rfl, hok, rfl⟩
 simp only [Qr]
 refine Qs rfl rfl (Qj (o2 := 10) rfl rfl rfl (Q0 rfl rfl rfl (WpL.nil (Qb (Qa (Qd rfl rfl (Qs rfl rfl (Qj (o2 := 10) rfl rfl rfl (Qo rfl rfl (by rfl) ?_)))))))))
 refine Qe rfl rfl (WpL.nil (Qh ?_))
 apply RetQ.mk
 ·exact (Res.one rfl rfl)
 ·exact ⟨s', pt', A', by unfold XA; rw [if_neg (fun h => h hI.1), if_neg (by omega)]; exact hs, rfl, hok, rfl⟩
 ·exact Ent.refl _


theorem hdPut_spec (g : Nat) (l0 l1 l2 : Int) (s : HS) (pt : Value) (A : HP) (c : Int) (hc0 : 0 ≤ c) (hc1 : c ≤ 255) (hl : (1 ≤ l0 ∧ l0 ≤ 4096) ∧ (1 ≤ l1 ∧ l1 ≤ 65536) ∧ (1 ≤ l2 ∧ l2 ≤ 65535)) (hI : hdI s) (hT0 : hdT l0 l1 l2 s pt A) : Fn Tryz.prog 123 #[.pointer (some ⟨g, 0, none⟩), .int .u8 c] [QB g [.int .i64 s.K, .int .i64 s.W, .int .i64 s.H, .int .i64 s.M, .int .i64 l0, .int .i64 l1, .int .i64 l2, .int .i64 s.at_, .int .i64 s.i, pt, .int .i64 0, .int .i64 s.e] 234, A] (fun v l => ∃ s' pt' A', s' = XA l0 l1 l2 s c ∧ v = .int .i64 s'.last ∧ (s'.last = 0 → hdI s' ∧ hdT l0 l1 l2 s' pt' A') ∧ l = [QB g [.int .i64 s'.K, .int .i64 s'.W, .int .i64 s'.H, .int .i64 s'.M, .int .i64 l0, .int .i64 l1, .int .i64 l2, .int .i64 s'.at_, .int .i64 s'.i, pt', .int .i64 s'.last, .int .i64 s'.e] 234, A']) := by
  rcases hT0 with ⟨q1, q2, q3⟩ | ⟨q1, q2⟩
  · exact hdPut_m g l0 l1 l2 s pt A c hc0 hc1 hl hI (.inl ⟨q1, q2, q3⟩) q1 q3
  · exact hdPut_n g l0 l1 l2 s pt A c hc0 hc1 hl hI (.inr ⟨q1, q2⟩) q1

theorem lim_spec (x y : Int) : Fn Tryz.prog 162 #[.int .i64 x, .int .i64 y] [] (fun v l => v = .int .i64 (min (max x 1) y) ∧ l = []) := by
 refine Qk (vs := [.int .i64 x, .int .i64 y]) Tryz.func162 rfl Tryz.ntmps162 rfl (Qb (Qa (Qe rfl rfl (WpL.nil (Qb (Qa (Qd rfl rfl (s_max2 rfl rfl rfl (Qd rfl rfl (s_min2 rfl rfl rfl (Qe rfl rfl (WpL.nil ?_))))))))))))
 refine Qh ?_
 apply RetQ.mk
 ·exact (Res.one rfl rfl)
 ·exact ⟨rfl, rfl⟩
 ·exact Ent.refl _

theorem hdNew_spec (a b d : Int) : Fn Tryz.prog 112 #[.agg #[.int .i64 a, .int .i64 b, .int .i64 d]] [] (fun v l => ∃ g, v = .pointer (some ⟨g, 0, none⟩) ∧ l = [QB g [.int .i64 0, .int .i64 0, .int .i64 0, .int .i64 0, .int .i64 (min (max a 1) 4096), .int .i64 (min (max b 1) 65536), .int .i64 (min (max d 1) 65535), .int .i64 0, .int .i64 0, .pointer none, .int .i64 0, .int .i64 9] 234]) := by
 refine Qk (vs := [.agg #[.int .i64 a, .int .i64 b, .int .i64 d]]) Tryz.func112 rfl Tryz.ntmps112 rfl (Qb (Qa (QP rfl rfl rfl ?_)))
 intro g1
 refine Qe rfl rfl (WpL.nil (Qb (Qa (Qe rfl rfl (WpL.nil (Qb ?_))))))
 apply Xe (fB := []) mixed [(14, false)] (by kernel_rfl)
 apply Q9 [⟨0, 4, _, [], false⟩, ⟨1, 5, _, [], false⟩, ⟨2, 6, _, [1], false⟩, ⟨3, 7, _, [0, 2], false⟩, ⟨4, 8, _, [], false⟩, ⟨5, 9, _, [], false⟩, ⟨6, 10, _, [5], false⟩, ⟨7, 11, _, [3, 4, 6], false⟩, ⟨8, 12, _, [], false⟩, ⟨9, 13, _, [], false⟩, ⟨10, 14, _, [9], false⟩, ⟨11, 15, _, [7, 8, 10], false⟩, ⟨12, 16, _, [3, 7, 11], false⟩, ⟨13, 17, _, [12], false⟩] [] [0, 1, 2, 3, 4, 5, 6, 7, 8, 9, 10, 11, 12, 13] [2] (.inr rfl) rfl rfl rfl (by kernel_rfl) rfl rfl rfl
 ·refine AllF.cons rfl rfl rfl rfl ?_ ?_
  ·exact Qd rfl rfl (Ql rfl)
  refine AllF.cons rfl rfl rfl rfl ?_ ?_
  ·exact Qj (o2 := 0) rfl rfl rfl (Ql rfl)
  refine AllF.cons rfl rfl rfl rfl ?_ ?_
  ·refine Qo rfl rfl (by rfl) ?_
   exact Ql rfl
  refine AllF.cons rfl rfl rfl rfl ?_ ?_
  ·refine XU (u := []) (c := []) rfl rfl rfl rfl (by repeat' constructor) (lim_spec _ _) ?_
   rintro _ _ ⟨rfl, rfl⟩
   simp only [Qr]
   exact WpL.nil ⟨rfl, rfl, rfl, by exact Ent.refl _⟩
  refine AllF.cons rfl rfl rfl rfl ?_ ?_
  ·exact Qd rfl rfl (Ql rfl)
  refine AllF.cons rfl rfl rfl rfl ?_ ?_
  ·exact Qj (o2 := 1) rfl rfl rfl (Ql rfl)
  refine AllF.cons rfl rfl rfl rfl ?_ ?_
  ·refine Qo rfl rfl (by rfl) ?_
   exact Ql rfl
  refine AllF.cons rfl rfl rfl rfl ?_ ?_
  ·refine XU (u := []) (c := []) rfl rfl rfl rfl (by repeat' constructor) (lim_spec _ _) ?_
   rintro _ _ ⟨rfl, rfl⟩
   simp only [Qr]
   exact WpL.nil ⟨rfl, rfl, rfl, by exact Ent.refl _⟩
  refine AllF.cons rfl rfl rfl rfl ?_ ?_
  ·exact Qd rfl rfl (Ql rfl)
  refine AllF.cons rfl rfl rfl rfl ?_ ?_
  ·exact Qj (o2 := 2) rfl rfl rfl (Ql rfl)
  refine AllF.cons rfl rfl rfl rfl ?_ ?_
  ·refine Qo rfl rfl (by rfl) ?_
   exact Ql rfl
  refine AllF.cons rfl rfl rfl rfl ?_ ?_
  ·refine XU (u := []) (c := []) rfl rfl rfl rfl (by repeat' constructor) (lim_spec _ _) ?_
   rintro _ _ ⟨rfl, rfl⟩
   simp only [Qr]
   exact WpL.nil ⟨rfl, rfl, rfl, by exact Ent.refl _⟩
  refine AllF.cons rfl rfl rfl rfl ?_ ?_
  ·refine XN rfl rfl ?_
   exact Ql rfl
  refine AllF.cons rfl rfl rfl rfl ?_ ?_
  ·refine XN rfl rfl ?_
   exact Ql rfl
  exact AllF.nil
 ·refine QP rfl rfl rfl ?_
  intro g2
  refine WpL.nil ⟨rfl, rfl, ?_⟩
  apply GoR.nil [⟨15, 2, _, [0, 1, 2, 3, 4, 5, 6, 7, 8, 9, 10, 11, 12, 13, 14], false⟩] (.inr rfl) rfl rfl
  ·refine AllF.cons rfl rfl rfl rfl ?_ ?_
   ·exact Qe rfl rfl (Ql rfl)
   exact AllF.nil
  ·refine Qh ?_
   apply RetQ.mk
   ·exact (Res.one rfl rfl)
   ·exact ⟨_, rfl, rfl⟩
   ·exact Take.ent' (by repeat' constructor)

theorem hdHead_spec (g : Nat) (K W H M l0 l1 l2 at_ i la e : Int) (pt : Value) : Fn Tryz.prog 116 #[.pointer (some ⟨g, 0, none⟩)] [QB g [.int .i64 K, .int .i64 W, .int .i64 H, .int .i64 M, .int .i64 l0, .int .i64 l1, .int .i64 l2, .int .i64 at_, .int .i64 i, pt, .int .i64 la, .int .i64 e] 234] (fun v l => ((e ≠ 0 ∧ v = .tuple #[.agg #[.int .i64 0, .int .i64 0, .int .i64 0, .int .i64 0], .int .i64 e]) ∨ (e = 0 ∧ v = .tuple #[.agg #[.int .i64 K, .int .i64 W, .int .i64 H, .int .i64 M], .int .i64 0])) ∧ l = [QB g [.int .i64 K, .int .i64 W, .int .i64 H, .int .i64 M, .int .i64 l0, .int .i64 l1, .int .i64 l2, .int .i64 at_, .int .i64 i, pt, .int .i64 la, .int .i64 e] 234]) := by
 refine Qk (vs := [.pointer (some ⟨g, 0, none⟩)]) Tryz.func116 rfl Tryz.ntmps116 rfl ?_
 refine Qb (Qa (XK rfl ?_))
 intro g1
 refine Qe rfl rfl (WpL.nil (Qb (Qb (Qa (Qd rfl rfl (Qs rfl rfl (Qj (o2 := 11) rfl rfl rfl (Qo rfl rfl (by rfl) ?_))))))))
 refine Xj rfl rfl rfl (WpL.nil (Qm rfl (fun h0 => ?_) (fun h0 => ?_)))
 ·refine Qb ?_
  apply Xe (fB := [QB g [.int .i64 K, .int .i64 W, .int .i64 H, .int .i64 M, .int .i64 l0, .int .i64 l1, .int .i64 l2, .int .i64 at_, .int .i64 i, pt, .int .i64 la, .int .i64 e] 234]) mixed [(5, false)] (by kernel_rfl)
  apply Q9 [⟨0, 9, _, [], false⟩, ⟨1, 10, _, [], true⟩, ⟨2, 11, _, [1], true⟩, ⟨3, 12, _, [2], true⟩, ⟨4, 13, _, [3], true⟩] [] [0] [3, 10, 11, 12, 13] (.inl ⟨_, by repeat' constructor⟩) rfl rfl rfl (by kernel_rfl) rfl rfl rfl
  ·refine AllF.cons rfl rfl rfl rfl ?_ ?_
   ·refine XN rfl rfl ?_
    exact Ql rfl
   refine Xc rfl rfl rfl rfl ?_ ?_
   ·exact Qd rfl rfl (Ql rfl)
   refine Xc rfl rfl rfl rfl ?_ ?_
   ·exact Qs rfl rfl (Ql rfl)
   refine Xc rfl rfl rfl rfl ?_ ?_
   ·exact Qj (o2 := 11) rfl rfl rfl (Ql rfl)
   refine Xc rfl rfl rfl rfl ?_ ?_
   ·refine Qo rfl rfl (by rfl) ?_
    exact Ql rfl
   exact AllF.nil
  ·refine QY rfl rfl rfl (by rfl) rfl ?_
   refine WpL.nil ⟨rfl, rfl, ?_⟩
   apply GoR.nil [⟨6, 3, _, [0, 1, 2, 3, 4, 5], false⟩] (.inl ⟨_, by repeat' constructor⟩) rfl rfl
   ·refine AllF.cons rfl rfl rfl rfl ?_ ?_
    ·exact Qe rfl rfl (Ql rfl)
    exact AllF.nil
   ·refine Qh ?_
    apply RetQ.mk
    ·exact (Xl rfl rfl (by rfl) rfl)
    ·exact ⟨.inl ⟨h0, rfl⟩, rfl⟩
    ·exact Take.ent' (by repeat' constructor)
 ·refine Wp.skip (Qb (Qa (Qd rfl rfl (Qs rfl rfl (Qj (o2 := 0) rfl rfl rfl ?_)))))
  refine Qz (vs := [_, _, _, _]) rfl rfl rfl (by rfl) ?_
  refine QY rfl rfl rfl (by rfl) rfl ?_
  refine Qe rfl rfl (WpL.nil (Qh ?_))
  apply RetQ.mk
  ·exact (Xl rfl rfl (by rfl) rfl)
  ·exact ⟨.inr ⟨Classical.not_not.1 h0, rfl⟩, rfl⟩
  ·exact Take.ent' (by repeat' constructor)

end Go.Proofs.YtggamdlpiejbiaaGreat
namespace Go.Proofs.YtggamdlpiejbiaaGreat
open Go.RowKit Go.Shelf


theorem u8_lt (b : UInt8) : (b.toNat : Int) ≤ 255 := by have := b.toNat_lt; omega
def RInv (ch : Int) (k m : Nat) (s : RS) : Prop := (s.one.length : Int) < ch ∧ m + s.row.length ≤ k ∧ 0 ≤ s.rows ∧ s.rows ≤ k
theorem chK_pos (K : Int) : 1 ≤ QZ K ∧ QZ K ≤ 3 := by unfold QZ; split <;> omega
theorem sampleS_inv {ch : Int} (h : 1 ≤ ch) (one row : List Int) (x : Int) (h1 : (one.length : Int) < ch) : ((XD ch one row x).1.length : Int) < ch ∧ (XD ch one row x).2.length ≤ row.length + 1 := by
  unfold XD
  split
  · simp; omega
  · rename_i h2; simp at h2 ⊢; omega
theorem endsR_inv {ch : Int} (h : 1 ≤ ch) {k m : Nat} {s : RS} (hs : RInv ch k m s) : RInv ch (k + 1) m (YR ch s) := by
  obtain ⟨h1, h2, h3, h4⟩ := hs
  unfold YR
  split
  · exact ⟨h1, by omega, h3, by omega⟩
  · have := sampleS_inv h s.one s.row s.n h1
    exact ⟨this.1, by simp only; omega, h3, by simp only; omega⟩
theorem RInv.up {ch : Int} {k m : Nat} {s : RS} (hs : RInv ch k m s) : RInv ch (k + 1) m s := ⟨hs.1, by have := hs.2.1; omega, hs.2.2.1, by have := hs.2.2.2; omega⟩
theorem stepR_inv {K M c : Int} {k m : Nat} {s : RS} (hs : RInv (QZ K) k m s) : RInv (QZ K) (k + 1) m (YN K M s c).1 := by
  have hch := chK_pos K
  unfold YN bitR numR
  repeat' split
  all_goals first | exact hs.up | exact endsR_inv hch.1 hs | skip
  have := sampleS_inv hch.1 s.one s.row (c - 48) hs.1
  obtain ⟨h1, h2, h3, h4⟩ := hs
  exact ⟨this.1, by simp only [sampleR]; omega, h3, by simp only [sampleR]; omega⟩
theorem fullR_inv {ch W H : Int} {k m : Nat} {s : RS} (_hch : 1 ≤ ch) (hs : RInv ch (k + 1) m s) (hr : s.rows ≤ k) : RInv ch (k + 1) (m + (YJ W H s).2.length) (YJ W H s).1 := by
  obtain ⟨h1, h2, h3, h4⟩ := hs
  unfold YJ
  split
  · exact ⟨h1, by simp; omega, h3, h4⟩
  · exact ⟨h1, by simp; omega, by simp only; omega, by simp only; omega⟩
theorem putR_inv {K W H M c : Int} {k m : Nat} {s : RS} (hs : RInv (QZ K) k m s) : RInv (QZ K) (k + 1) (m + (YO K W H M s c).2.length) (YO K W H M s c).1 := by
  have h := stepR_inv (M := M) (c := c) hs
  have hk := (stepR_keep K M s c).1
  unfold YO
  split
  · exact hs.up
  · split
    · exact h
    · exact fullR_inv (chK_pos K).1 h (by rw [hk]; exact hs.2.2.2)
theorem putR_last {K W H M c : Int} {s : RS} (hs : s.last = 0) : (YO K W H M s c).1.last = 0 ∨ (YO K W H M s c).1.last = 1 ∨ (YO K W H M s c).1.last = 2 := by
  have h := (stepR_keep K M s c).2.1
  unfold YO
  split
  · exact .inl hs
  · split
    · exact .inr (.inr rfl)
    · unfold YJ
      split
      · exact .inl (h.trans hs)
      · simp only
        split
        · exact .inr (.inl rfl)
        · exact .inl (h.trans hs)
theorem endR_out {K W H : Int} {k m : Nat} {s : RS} (hs : RInv (QZ K) k m s) : m + (endR K W H s).2.length ≤ k + 1 := by
  have h := endsR_inv (chK_pos K).1 hs
  have hk := (endsR_keep (QZ K) s).1
  have h2 := fullR_inv (W := W) (H := H) (chK_pos K).1 h (by rw [hk]; exact hs.2.2.2)
  have h3 := h2.2.1
  have h4 := hs.2.1
  unfold endR
  split
  · simp; omega
  · split
    · simp only; omega
    · omega
def readL (K W H M : Int) : List Int → Int → RS → List Int → List Int × Int × Int
  | [], i, s, acc => if (endR K W H s).1.last = 2 then ([], 0, (endR K W H s).1.e) else (acc ++ (endR K W H s).2, i, 0)
  | c :: bs, i, s, acc => if (YO K W H M s c).1.last = 1 then (acc ++ (YO K W H M s c).2, i + 1, 0) else if (YO K W H M s c).1.last = 2 then ([], 0, (YO K W H M s c).1.e) else readL K W H M bs (i + 1) (YO K W H M s c).1 (acc ++ (YO K W H M s c).2)
def s0R : RS := ⟨-1, [], [], 0, 0, 0⟩
def readS (K W H M : Int) (bs : List Int) : List Int × Int × Int := if PlainH K W H M then readL K W H M bs 0 s0R [] else ([], 0, 1)
structure RdX where
  (k : Nat) (n : Int) (one row : List Int) (rows last e : Int) (acc : List Int) (a1 : Option Addr) (c1 : Nat) (a2 : Option Addr) (c2 : Nat) (a3 : Option Addr) (c3 : Nat)

theorem Read_spec (s : ByteArray) (hs : s.size ≤ 900000000000) (K W H M : Int) : Fn Tryz.prog 78 #[.string s, .agg #[.int .i64 K, .int .i64 W, .int .i64 H, .int .i64 M]] [] (fun v l => ∃ out i x a c, (out, i, x) = readS K W H M (QW s) ∧ v = .tuple #[.slice a out.length c, .int .i64 i, .int .i64 x] ∧ l = [QG 92 1 a c (out).length (Q5 out)]) := by
 refine Qk (vs := [.string s, .agg #[.int .i64 K, .int .i64 W, .int .i64 H, .int .i64 M]]) Tryz.func78 rfl Tryz.ntmps78 rfl (Qb (Qa (QP rfl rfl rfl ?_)))
 intro g1
 refine Qe rfl rfl (Qe rfl rfl (Qe rfl rfl (WpL.nil (Qb (Qa ?_)))))
 refine Qz (vs := [_, _, _, _]) rfl rfl rfl (by rfl) ?_
 refine Qg rfl rfl (by repeat' constructor) (New_spec _ _ _ _) ?_
 intro v0 m0 hN0
 rcases hN0 with ⟨hP, g, rfl, rfl⟩ | ⟨hP, rfl, rfl⟩
 ·simp only [Qr]
  refine Qd rfl rfl (QC rfl rfl rfl (QC rfl rfl rfl (Qe rfl rfl (Qe rfl rfl (WpL.nil (Qb (Qb (Qa (Qd rfl rfl (Xj rfl rfl rfl (WpL.nil (QA rfl (by decide) ?_))))))))))))
  refine Wp.skip (Qb (Qa (Qe rfl rfl (WpL.nil (Qb (Qb (Qa (Qd rfl rfl (s_lens rfl Tryz.underlying9 rfl (Qd rfl rfl (WpL.nil (Wp.block ?_))))))))))))
  refine Wp.loopD (σ := RdX) (fun x => x.k ≤ s.size ∧ RInv (QZ K) x.k x.acc.length ⟨x.n, x.one, x.row, x.rows, x.last, x.e⟩ ∧ x.last = 0 ∧ readL K W H M ((QW s).drop x.k) (x.k : Int) ⟨x.n, x.one, x.row, x.rows, x.last, x.e⟩ x.acc = readS K W H M (QW s)) [4, 5, 6, 9, 10, 11, 12, 25, 26, 27, 28, 29, 30, 31, 32, 33, 34, 35, 36, 37, 38, 39, 40, 41, 42, 43, 44, 45, 46, 47, 48, 49] (fun x => [(25, .int .i64 (x.k : Int)), (9, .slice x.a3 x.acc.length x.c3)]) (fun x => [QB g [.int .i64 K, .int .i64 W, .int .i64 H, .int .i64 M, stpOf K, .int .i64 x.n, .slice x.a1 x.one.length x.c1, .slice x.a2 x.row.length x.c2, .int .i64 x.rows, .int .i64 x.last, .int .i64 x.e] 186, QG 3 1 x.a1 x.c1 x.one.length (QU x.one), QG 92 1 x.a2 x.c2 x.row.length (Q5 x.row), QG 92 1 x.a3 x.c3 x.acc.length (Q5 x.acc)]) (fun x => s.size - x.k) ⟨0, -1, [], [], 0, 0, 0, [], none, 0, none, 0, none, 0⟩ ?_ (by repeat (first | exact FrLe.nil | refine FrLe.cons rfl ?_)) ?_ ?_
  ·exact ⟨Nat.zero_le _, ⟨by simp; have := chK_pos K; omega, by simp, by simp, by simp⟩, rfl, (if_pos hP).symm⟩
  ·exact (Ent.own_nil (T := 92) (s := 1) (Ent.refl _)).trans (Take.ent' (by repeat' constructor))
  ·rintro ⟨k, n, one, row, rows, last, e, acc, a1, c1, a2, c2, a3, c3⟩ ⟨hk, hinv, hl, hR⟩
   dsimp only at hk hinv hl hR ⊢
   have hch := chK_pos K
   have hin := hinv
   obtain ⟨hi1, hi2, hi3, hi4⟩ := hin
   have hP3 := hP.1
   unfold X6 at hP3
   dsimp only at hi1 hi2 hi3 hi4
   refine Qb (Qa (Q6 rfl rfl rfl (WpL.nil (Qb (Qm rfl (fun h2 => ?_) (fun h2 => ?_))))))
   ·have hlt : k < s.size := by omega
    refine Wp.skip (Qb (Wp.block ?_))
    refine Qb (Qa (Qd rfl rfl (Qe rfl rfl (WpL.nil (Qb (Qa (Qd rfl rfl (Qd rfl rfl (Qd rfl rfl (s_ixs rfl Tryz.underlying9 rfl rfl (by omega) (by simp; omega) ?_))))))))))
    refine Qg rfl rfl (by repeat' constructor) (Put_spec _ _ _ _ _ _ _ _ _ _ _ _ _ _ _ _ _ rfl (by omega) (by omega) (by omega) (by omega) (u8_lt _) (by omega) (by omega) (by omega) (by omega)) ?_
    rintro _ _ ⟨n2, one2, row2, rows2, last2, e2, out, a1, c1, a2, c2, a3, c3, hs2, rfl, rfl, hnl2⟩
    simp only [Qr]
    have hinv2 := putR_inv (M := M) (W := W) (H := H) (c := ((s[k]'hlt).toNat : Int)) hinv
    have hs3 : (({ n := n2, one := one2, row := row2, rows := rows2, last := last2, e := e2 } : RS), out) = YO K W H M ⟨n, one, row, rows, last, e⟩ ((s[k]'hlt).toNat : Int) := hs2
    rw [← hs3] at hinv2
    rw [bsOf_drop hlt, readL, ← hs3] at hR
    dsimp only at hR
    have hol := hinv2.2.1
    dsimp only at hol
    have hla := putR_last (K := K) (W := W) (H := H) (M := M) (c := ((s[k]'hlt).toNat : Int)) (s := ⟨n, one, row, rows, last, e⟩) hl
    rw [← hs3] at hla
    dsimp only at hla
    refine Qd rfl rfl (QC rfl rfl rfl (QC rfl rfl rfl (Qe rfl rfl (Qe rfl rfl (WpL.nil (Qb (Qa (Qd rfl rfl (Qd rfl rfl (s_appo rfl rfl rfl (by repeat' constructor) (by rfl) (by rfl) (pxs_one _) (by omega) (by omega) ?_))))))))))
    intro a38 c38
    rw [pxs_app, show acc.length + out.length = (acc ++ out).length from by simp]
    refine Qe rfl rfl (WpL.nil (Qb (Qa (Qd rfl rfl (WpL.nil (Wp.block ?_))))))
    refine Qb (Qa (QO rfl rfl rfl (Qe rfl rfl (WpL.nil (Qm rfl (fun h3 => ?_) (fun h3 => ?_))))))
    ·refine Qb (Qa (Qd rfl rfl (Qd rfl rfl (QE rfl rfl rfl (Qt (by omega) (by omega)) ?_))))
     refine Qe rfl rfl (Qe rfl rfl (Qe rfl rfl (WpL.nil (Qh ?_))))
     apply RetQ.mk
     ·exact (Res.three rfl rfl rfl rfl)
     ·exact ⟨_, _, _, a38, c38, (if_pos h3).symm.trans hR, rfl, rfl⟩
     ·exact Take.ent' (by repeat' constructor)
    ·refine Qb (Qa (QO rfl rfl rfl (Qe rfl rfl (WpL.nil (Qm rfl (fun h4 => ?_) (fun h4 => ?_))))))
     ·refine Qb (Qa (Qd rfl rfl (Qg rfl rfl (by repeat' constructor) (Error_spec _ _ _ _ _ _ _ _ _ _ _ _ _ _ _ _) ?_)))
      rintro _ _ ⟨rfl, rfl⟩
      simp only [Qr]
      refine Qe rfl rfl (Qe rfl rfl (Qe rfl rfl (WpL.nil (Qh ?_))))
      apply RetQ.mk
      ·exact (Res.three rfl rfl rfl rfl)
      ·exact ⟨[], _, _, none, 0, ((if_neg h3).trans (if_pos h4)).symm.trans hR, rfl, rfl⟩
      ·exact Ent.own_nil (Ent.nil _)
     ·refine Wp.skip (Qa (QE rfl rfl rfl (Qt (by omega) (by omega)) ?_))
      refine Qd rfl rfl (WpL.nil ?_)
      have hR2 := (((if_neg h3).trans (if_neg h4)).symm.trans hR)
      refine Qy (⟨k + 1, n2, one2, row2, rows2, last2, e2, acc ++ out, a1, c1, a2, c2, a38, c38⟩ : RdX) ?_ ?_ (by ((repeat (first | exact Top.refl | refine Top.push rfl ?_)); done)) (by repeat (first | exact FrLe.nil | refine FrLe.cons rfl ?_)) ?_
      ·exact ⟨by simp only; omega, by simp only [List.length_append]; exact hinv2, by simp only; omega, hR2⟩
      ·simp only; omega
      ·exact Take.ent' (by repeat' constructor)
   ·refine QL (Qb (Qa (Qd rfl rfl (Qg rfl rfl (by repeat' constructor) (End_spec _ _ _ _ _ _ _ _ _ _ _ _ _ _ _ _ (by omega) (by omega) (by omega) (by omega) (by omega)) ?_))))
    rintro _ _ ⟨n2, one2, row2, rows2, last2, e2, out, a1, c1, a2, c2, a3, c3, hs2, rfl, rfl, hnl2⟩
    simp only [Qr]
    have hol := endR_out (W := W) (H := H) hinv
    rw [← hs2] at hol
    dsimp only at hol
    rw [List.drop_eq_nil_of_le (by rw [XB]; omega), readL, ← hs2] at hR
    dsimp only at hR
    refine Qd rfl rfl (QC rfl rfl rfl (QC rfl rfl rfl (Qe rfl rfl (Qe rfl rfl (WpL.nil (Qb (Qb (Qa (Qd rfl rfl (QO rfl rfl rfl (WpL.nil (Qm rfl (fun h5 => ?_) (fun h5 => ?_)))))))))))))
    ·refine Qb (Qa (Qd rfl rfl (Qg rfl rfl (by repeat' constructor) (Error_spec _ _ _ _ _ _ _ _ _ _ _ _ _ _ _ _) ?_)))
     rintro _ _ ⟨rfl, rfl⟩
     simp only [Qr]
     refine Qe rfl rfl (Qe rfl rfl (Qe rfl rfl (WpL.nil (Qh ?_))))
     apply RetQ.mk
     ·exact (Res.three rfl rfl rfl rfl)
     ·exact ⟨[], _, _, none, 0, (if_pos h5).symm.trans hR, rfl, rfl⟩
     ·exact Ent.own_nil (Ent.nil _)
    ·refine Wp.skip (Qb (Qa (Qd rfl rfl (Qd rfl rfl (s_appo rfl rfl rfl (by repeat' constructor) (by rfl) (by rfl) (pxs_one _) (by omega) (by omega) ?_)))))
     intro a61 c61
     rw [pxs_app, show acc.length + out.length = (acc ++ out).length from by simp]
     refine Qd rfl rfl (s_lens rfl Tryz.underlying9 rfl (Qe rfl rfl (Qe rfl rfl (Qe rfl rfl (WpL.nil (Qh ?_))))))
     apply RetQ.mk
     ·exact (Res.three rfl rfl rfl rfl)
     ·exact ⟨_, _, _, a61, c61, ((if_neg h5).symm.trans hR).trans rfl, by rw [show k = s.size by omega], rfl⟩
     ·exact Take.ent' (by repeat' constructor)
 ·simp only [Qr]
  refine Qd rfl rfl (QC rfl rfl rfl (QC rfl rfl rfl (Qe rfl rfl (Qe rfl rfl (WpL.nil (Qb (Qb (Qa (Qd rfl rfl (Xj rfl rfl rfl (WpL.nil (QN rfl (by decide) ?_))))))))))))
  refine Qb (Qa (Qd rfl rfl (Qe rfl rfl (Qe rfl rfl (Qe rfl rfl (WpL.nil (Qh ?_)))))))
  apply RetQ.mk
  ·exact (Res.three rfl rfl rfl rfl)
  ·exact ⟨[], _, _, none, 0, (if_neg hP).symm, rfl, rfl⟩
  ·exact Ent.own_nil (Ent.nil _)

end Go.Proofs.YtggamdlpiejbiaaGreat
namespace Go.Proofs.YtggamdlpiejbiaaGreat
open Go.RowKit Go.Shelf


def QM (x m : Int) : Int := (if x < 0 then -(x + 1) else x) % m
theorem YC {x m : Int} (h : 1 ≤ m) : 0 ≤ QM x m ∧ QM x m < m := ⟨Int.emod_nonneg _ (by omega), Int.emod_lt_of_pos _ (by omega)⟩
theorem Yh (x m : Int) (h0 : -9223372036854775808 ≤ x) (h1 : x < 9223372036854775808) (hm : 1 ≤ m) : Fn Tryz.prog 33 #[.int .i64 x, .int .i64 m] [] (fun v l => v = .int .i64 (QM x m) ∧ l = []) := by
 refine Qk (vs := [.int .i64 x, .int .i64 m]) Tryz.func33 rfl Tryz.ntmps33 rfl (Qb (Qa (Qe rfl rfl (WpL.nil (Qb (Qb (Qa (Qd rfl rfl (Q6 rfl rfl rfl (WpL.nil (Qm rfl (fun h0 => ?_) (fun h0 => ?_))))))))))))
 ·refine Qa (Qd rfl rfl (QE rfl rfl rfl (Qt (by omega) (by omega)) ?_))
  refine s_neg rfl rfl (Qt (by omega) (by omega)) ?_
  refine Qe rfl rfl (WpL.nil (Qb (Qa (Qd rfl rfl (Qd rfl rfl (Y6 rfl rfl rfl (by omega) (by omega) ?_))))))
  refine Qe rfl rfl (WpL.nil (Qh ?_))
  apply RetQ.mk
  ·exact (Res.one rfl rfl)
  ·exact ⟨by rw [QM, if_pos h0], rfl⟩
  ·exact Ent.refl _
 ·refine Wp.skip (Qb (Qa (Qd rfl rfl (Qd rfl rfl (Y6 rfl rfl rfl (by omega) (by omega) ?_)))))
  refine Qe rfl rfl (WpL.nil (Qh ?_))
  apply RetQ.mk
  ·exact (Res.one rfl rfl)
  ·exact ⟨by rw [QM, if_neg h0], rfl⟩
  ·exact Ent.refl _


end Go.Proofs.YtggamdlpiejbiaaGreat
namespace Go.Proofs.YtggamdlpiejbiaaGreat
open Go.RowKit Go.Shelf


def Ys (n : Nat) : List Int := if n < 10 then [48 + (n : Int)] else Ys (n / 10) ++ [48 + ((n % 10 : Nat) : Int)]
termination_by n
decreasing_by omega
section
variable {K W H M : Int}
end


theorem pack_one {x : Int} (h : smp x) : Xy [x] = (281474976710656 + x, 0) := by
  unfold smp at h
  rw [packS_ok [x] (.inl rfl) (by intro n hn; simp at hn; subst hn; exact h)]
  exact Prod.ext (by simp [XT]; omega) rfl
theorem pack_three {x y z : Int} (h : smp x) (h2 : smp y) (h3 : smp z) : Xy [x, y, z] = (((x * 65536 + y) * 65536 + z) + 3 * 281474976710656, 0) := by
  rw [packS_ok [x, y, z] (.inr rfl) (by intro n hn; simp at hn; rcases hn with rfl | rfl | rfl <;> assumption)]
  exact Prod.ext (by simp [XT]) rfl
theorem unpack_pack {xs : List Int} (h : xs.length = 1 ∨ xs.length = 3) (hs : ∀ n ∈ xs, smp n) : Qp (Xy xs).1 = xs := by
  match xs, h with
  | [x], _ =>
    have hx := hs x (by simp)
    rw [pack_one hx]
    unfold smp at hx
    unfold Qp
    rw [if_neg (by simp only; omega), if_pos (by simp only; omega)]
    simp only
    congr 1
    omega
  | [x, y, z], _ =>
    have hx := hs x (by simp)
    have hy := hs y (by simp)
    have hz := hs z (by simp)
    rw [pack_three hx hy hz]
    unfold smp at hx hy hz
    unfold Qp
    rw [if_pos (by simp only; omega)]
    simp only [List.cons.injEq, and_true]
    refine ⟨by omega, by omega, by omega⟩
  | [_, _], h => simp at h
  | _ :: _ :: _ :: _ :: _, h => simp at h
/-- A pixel of a format. -/
def Can (ch M p : Int) : Prop := ((Qp p).length : Int) = ch ∧ (Xy (Qp p)).1 = p ∧ ∀ x ∈ Qp p, 0 ≤ x ∧ x ≤ M
section
variable {K W H M : Int}
def Yu : List Int → List Int
  | [] => []
  | [x] => Ys x.toNat
  | x :: y :: xs => Ys x.toNat ++ 32 :: Yu (y :: xs)
def nlB (K W : Int) (i : Nat) : Bool := decide (K > 1 ∨ (i : Int) % W = W - 1 ∨ (i : Int) % W % 70 = 69)
def pxB (K W : Int) (i : Nat) (p : Int) : List Int := Yu (Qp p) ++ if nlB K W i = true then [10] else []
def wrL (K W : Int) : Nat → List Int → List Int
  | _, [] => []
  | i, p :: l => pxB K W i p ++ wrL K W (i + 1) l
theorem wrL_snoc (p : Int) : ∀ (l : List Int) (i : Nat), wrL K W i (l ++ [p]) = wrL K W i l ++ pxB K W (i + l.length) p
  | [], i => by simp [wrL]
  | q :: l, i => by simp only [List.cons_append, wrL, wrL_snoc p l (i + 1), List.length_cons, List.append_assoc]; congr 3; omega
end

end Go.Proofs.YtggamdlpiejbiaaGreat
namespace Go.Proofs.YtggamdlpiejbiaaGreat
open Go.RowKit Go.Shelf


theorem bsOf_app (a b : ByteArray) : QW (a ++ b) = QW a ++ QW b := by simp [QW, ByteArray.data_append]
theorem Zr {xs : List Int} (h : ∀ x ∈ xs, 0 ≤ x ∧ x ≤ 255) : QW (strOfNums xs) = xs := by
  unfold QW strOfNums
  simp only [List.map_map]
  conv => rhs; rw [← List.map_id xs]
  refine List.map_congr_left fun x hx => ?_
  have := h x hx
  simp only [Function.comp, UInt8.toNat_ofNat', id]
  omega
theorem YZ (xs : List Int) : (strOfNums xs).size = xs.length := by simp [strOfNums, ByteArray.size]
theorem digs_len (n : Nat) : (Ys n).length ≤ n + 1 := by
  induction n using Nat.strongRecOn with
  | _ n ih =>
    rw [Ys]
    split
    · simp
    · have := ih (n / 10) (by omega)
      simp only [List.length_append, List.length_cons, List.length_nil]
      omega
theorem pack_bd {xs : List Int} (h : xs.length = 1 ∨ xs.length = 3) (hs : ∀ n ∈ xs, smp n) : 0 ≤ (Xy xs).1 ∧ (Xy xs).1 < 18446744073709551616 := by
  have := packF_all (l := xs) (by omega) hs
  rw [packS_ok xs h hs]
  simp only
  omega
end Go.Proofs.YtggamdlpiejbiaaGreat
namespace Go.Proofs.YtggamdlpiejbiaaGreat
open Go.RowKit Go.Shelf


/-- A number's digits, the lowest first. -/
def YU (b n : Nat) : List Int := if _h : n < b ∨ b < 2 then [((n % b : Nat) : Int)] else ((n % b : Nat) : Int) :: YU b (n / b)
termination_by n
decreasing_by exact Nat.div_lt_self (by omega) (by omega)
theorem lowD_lt {b n : Nat} (h : n < b) : YU b n = [((n % b : Nat) : Int)] := by rw [YU, dif_pos (.inl h)]
theorem lowD_ge {b n : Nat} (h : b ≤ n) (hb : 2 ≤ b) : YU b n = ((n % b : Nat) : Int) :: YU b (n / b) := by rw [YU, dif_neg (by omega)]
theorem lowD_head (b n : Nat) : ∃ t, YU b n = ((n % b : Nat) : Int) :: t := by
  rw [YU]
  split
  · exact ⟨_, rfl⟩
  · exact ⟨_, rfl⟩
theorem lowD_bd {b : Nat} (hb : 0 < b) (n : Nat) : ∀ x ∈ YU b n, 0 ≤ x ∧ x < b := by
  induction n using Nat.strongRecOn with
  | _ n ih =>
    intro x hx
    have hm := Nat.mod_lt n hb
    rw [YU] at hx
    split at hx
    · simp only [List.mem_singleton] at hx; subst hx; omega
    · rcases List.mem_cons.1 hx with rfl | hx
      · omega
      · exact ih (n / b) (Nat.div_lt_self (by omega) (by omega)) x hx
theorem drop_at0 {xs : List Int} {k : Nat} {x : Int} {t : List Int} (h : xs.drop k = x :: t) : ∃ hk : k < xs.length, xs[k] = x ∧ xs.drop (k + 1) = t := by
  have hk : k < xs.length := by
    have := congrArg List.length h
    simp at this; omega
  rw [List.drop_eq_getElem_cons hk] at h
  injection h with h1 h2
  exact ⟨hk, h1, h2⟩
theorem lowD_digs (n : Nat) : Ys n = ((YU 10 n).map fun x => 48 + x).reverse := by
  induction n using Nat.strongRecOn with
  | _ n ih =>
    by_cases h : n < 10
    · rw [lowD_lt h, Ys, if_pos (by omega)]
      simp; omega
    · rw [lowD_ge (by omega) (by omega), Ys, if_neg (by omega), ih (n / 10) (by omega)]
      simp
theorem lowD_len20 {b n : Nat} (hb : 10 ≤ b) (k : Nat) (h : n < 10 ^ (k + 1)) : (YU b n).length ≤ k + 1 := by
  induction k generalizing n with
  | zero =>
    rw [lowD_lt (by omega)]; simp
  | succ k ih =>
    by_cases h2 : n < b
    · rw [lowD_lt h2]; simp
    · rw [lowD_ge (by omega) (by omega)]
      have : n / b < 10 ^ (k + 1) := by
        apply Nat.div_lt_of_lt_mul
        calc n < 10 ^ (k + 1 + 1) := h
          _ = 10 * 10 ^ (k + 1) := by rw [Nat.pow_succ]; omega
          _ ≤ b * 10 ^ (k + 1) := Nat.mul_le_mul_right _ hb
      have := ih this
      simp; omega
structure DgX where
  (k n : Nat) (m : List HP)

theorem digitsF_spec (b n : Nat) (hb : 2 ≤ b) (hb2 : b ≤ 256) (hn : n < 18446744073709551616) (g1 g2 y : Nat) (J Jx : Nat → List HP → Prop) (hY : ∀ k (h : k < (YU b n).length) m, J k m → Yld Tryz.prog y ([.int .u8 (YU b n)[k]] : List Value).toArray m (rdR J Jx k)) (m0 : List HP) (h0 : J 0 m0) : Fn Tryz.prog 197 #[.func (.yield y) #[] #[], .pointer (some ⟨g1, 0, none⟩), .pointer (some ⟨g2, 0, none⟩)] (QB g1 [.int .u64 (n : Int)] 91 :: QB g2 [.int .u64 (b : Int)] 91 :: m0) (fun _ l => ∃ m', (J (YU b n).length m' ∨ ∃ k, k < (YU b n).length ∧ Jx k m') ∧ l = m') := by
 refine Qk (vs := [.func (.yield y) #[] #[], .pointer (some ⟨g1, 0, none⟩), .pointer (some ⟨g2, 0, none⟩)]) Tryz.func197 rfl Tryz.ntmps197 rfl ?_
 refine Wp.block ?_
 refine Wp.loopD (σ := DgX) (fun x => J x.k x.m ∧ (YU b n).drop x.k = YU b x.n ∧ x.n < 18446744073709551616) [4, 5, 6, 7, 8, 9, 10, 11, 12, 13, 14, 15, 16, 17] (fun x => []) (fun x => (QB g1 [.int .u64 ((x.n : Nat) : Int)] 91 :: QB g2 [.int .u64 (b : Int)] 91 :: x.m)) (fun x => x.n) ⟨0, n, m0⟩ ?_ (by repeat (exact FrLe.nil)) ?_ ?_
 ·exact ⟨h0, rfl, hn⟩
 ·exact Ent.refl _
 ·rintro ⟨k, n1, m1⟩ ⟨hJ, hd, hn1⟩
  dsimp only at hJ hd hn1 ⊢
  obtain ⟨t1, ht1⟩ := lowD_head b n1
  obtain ⟨hk, hxk, hdk⟩ := drop_at0 (hd.trans ht1)
  have hbpos : (0 : Int) < (b : Int) := by omega
  have hmod := Nat.mod_lt n1 (show 0 < b by omega)
  have hY1 := hY k hk m1 hJ
  rw [hxk] at hY1
  refine Qb (Qb (Qa (Qd rfl rfl (Qo rfl rfl (by rfl) ?_))))
  refine Qo rfl rfl (by rfl) ?_
  refine Y6 rfl rfl rfl (by omega) (by omega) ?_
  rw [show ((n1 : Int) % (b : Int)) = ((n1 % b : Nat) : Int) from rfl]
  refine Ya rfl Tryz.underlying91 rfl (w_u8 (by omega) (by omega)) ?_
  refine s_yield rfl rfl rfl rfl (by repeat (first | exact Take.all | apply Take.skip)) (hY1) ?_
  rintro v m' (⟨rfl, hm'⟩ | ⟨rfl, hm'⟩)
  ·simp only [Qr]
   refine Qd rfl rfl (Qf rfl rfl (Qo rfl rfl (by rfl) ?_))
   refine Qf rfl rfl (Qo rfl rfl (by rfl) ?_)
   refine Qf rfl rfl (Zo rfl rfl rfl (Qx rfl rfl rfl (WpL.nil (Qm rfl (fun h1 => ?_) (fun h1 => ?_)))))
   ·refine Wp.skip (Wp.block ?_)
    refine Qa (Qo rfl rfl (by rfl) ?_)
    refine Qo rfl rfl (by rfl) ?_
    refine Y5 rfl rfl rfl (by omega) (by omega) (Zi (Int.ediv_nonneg (by omega) (by omega)) (by have := Nat.div_le_self n1 b; have e : ((n1 : Int) / (b : Int)) = ((n1 / b : Nat) : Int) := rfl; omega)) ?_
    refine Q0 rfl rfl rfl (WpL.nil (Qy (Q := fun _ _ _ _ => False) (⟨k + 1, n1 / b, m'⟩ : DgX) ?_ ?_ (by ((repeat (first | exact Top.refl | refine Top.push rfl ?_)); done)) (by repeat (exact FrLe.nil)) ?_))
    ·refine ⟨hm', ?_, Nat.lt_of_le_of_lt (Nat.div_le_self _ _) hn1⟩
     rw [hdk]
     rw [lowD_ge (by omega) hb] at ht1
     injection ht1 with _ ht1
     exact ht1.symm
    ·exact Nat.div_lt_self (by omega) (by omega)
    ·exact Ent.refl _
   ·refine QL ?_
    apply Yr
    ·exact (XQ rfl)
    ·exact ⟨m', .inl (by rw [show (YU b n).length = k + 1 from by have e1 := congrArg List.length hdk; rw [lowD_lt (by omega)] at ht1; injection ht1 with _ ht1; rw [← ht1] at e1; simp at e1; omega]; exact hm'), rfl⟩
    ·(repeat (first | exact Ent.refl _ | refine Ent.drop ?_))
  ·simp only [Qr]
   refine Qd rfl rfl (Qc rfl rfl rfl (by decide) (Qc rfl rfl rfl (by decide) (Qc rfl rfl rfl (by decide) (Qq rfl rfl rfl (WpL.nil (QV rfl (QL ?_)))))))
   apply Yr
   ·exact (XQ rfl)
   ·exact ⟨m', .inr ⟨k, hk, hm'⟩, rfl⟩
   ·(repeat (first | exact Ent.refl _ | refine Ent.drop ?_))


structure RvX where
  (k : Nat) (ys : List Int)
def revK (xs : List Int) (k : Nat) (ys : List Int) : Prop := ys.length = xs.length ∧ ∀ i, i < xs.length → ys[i]? = if i < k ∨ xs.length ≤ i + k then xs[xs.length - 1 - i]? else xs[i]?
theorem revK_zero (xs : List Int) : revK xs 0 xs := ⟨rfl, fun i hi => by rw [if_neg (by omega)]⟩
theorem revK_done {xs ys : List Int} {k : Nat} (h : revK xs k ys) (hk : xs.length ≤ 2 * k + 1) : ys = xs.reverse := by
  apply List.ext_getElem?
  intro i
  by_cases hi : i < xs.length
  · rw [h.2 i hi, List.getElem?_reverse hi]
    split
    · rfl
    · rename_i hc
      rw [show xs.length - 1 - i = i by omega]
  · rw [List.getElem?_eq_none (by rw [h.1]; omega), List.getElem?_eq_none (by simp; omega)]
theorem revK_step {xs ys : List Int} {k : Nat} (h : revK xs k ys) (hk : 2 * k + 1 < xs.length) (h1 : xs.length - 1 - k < ys.length) (h2 : k < ys.length) : revK xs (k + 1) ((ys.set k ys[xs.length - 1 - k]).set (xs.length - 1 - k) ys[k]) := by
  have e1 : ys[k] = xs[k]'(by omega) := by
    have := h.2 k (by omega)
    rw [if_neg (by omega), List.getElem?_eq_getElem h2, List.getElem?_eq_getElem (by omega)] at this
    exact Option.some.inj this
  have e2 : ys[xs.length - 1 - k] = xs[xs.length - 1 - k]'(by omega) := by
    have := h.2 (xs.length - 1 - k) (by omega)
    rw [if_neg (by omega), List.getElem?_eq_getElem h1, List.getElem?_eq_getElem (by omega)] at this
    exact Option.some.inj this
  refine ⟨by simp [h.1], fun i hi => ?_⟩
  rw [List.getElem?_set, List.getElem?_set]
  simp only [List.length_set]
  by_cases a : xs.length - 1 - k = i
  · subst a
    rw [if_pos rfl, if_pos h1, if_pos (by omega), e1, show xs.length - 1 - (xs.length - 1 - k) = k by omega, List.getElem?_eq_getElem (by omega)]
  · rw [if_neg a]
    by_cases b : k = i
    · subst b
      rw [if_pos rfl, if_pos h2, if_pos (by omega), e2, List.getElem?_eq_getElem (by omega)]
    · rw [if_neg b, h.2 i hi]
      by_cases c : i < k ∨ xs.length ≤ i + k
      · rw [if_pos c, if_pos (by omega)]
      · rw [if_neg c, if_neg (by omega)]
theorem set_map {α : Type} (f : Int → α) (xs : List Int) (k : Nat) (x : Int) : (xs.map f).set k (f x) = (xs.set k x).map f := (List.map_set ..).symm
theorem u8s_set (xs : List Int) (k : Nat) (x : Int) : (Xn xs).set k (.int .u8 x) = Xn (xs.set k x) := set_map _ xs k x
theorem ints_set (xs : List Int) (k : Nat) (x : Int) : (QU xs).set k (.int .i64 x) = QU (xs.set k x) := set_map _ xs k x
theorem pxs_set (xs : List Int) (k : Nat) (x : Int) : (Q5 xs).set k (.int .u64 x) = Q5 (xs.set k x) := set_map _ xs k x

theorem RevB_spec (a : Option Addr) (c : Nat) (xs : List Int) (hm : xs.length ≤ 140737488355328) : Fn Tryz.prog 178 #[.slice a xs.length c] [QG 5 1 a c xs.length (Xn xs)] (fun _ l => l = [QG 5 1 a c xs.length (Xn xs.reverse)]) := by
 refine Qk (vs := [.slice a xs.length c]) Tryz.func178 rfl Tryz.ntmps178 rfl (Qb (Qa (Qd rfl rfl (QK rfl rfl (Yz rfl rfl rfl (Qt (by omega) (by omega)) ?_)))))
 refine Qe rfl rfl (Qe rfl rfl (WpL.nil (Wp.block ?_)))
 refine Wp.loopD (σ := RvX) (fun x => 2 * x.k ≤ xs.length ∧ revK xs x.k x.ys) [2, 3, 7, 8, 9, 10, 11, 12, 13, 14, 15, 16, 17, 18, 19, 20, 21, 22, 23, 24, 25, 26, 27] (fun x => [(2, .int .i64 (x.k : Int)), (3, .int .i64 ((xs.length : Int) - 1 - x.k))]) (fun x => [QG 5 1 a c xs.length (Xn x.ys)]) (fun x => xs.length - x.k) ⟨0, xs⟩ ?_ (FrLe.cons rfl (FrLe.cons (by simp [lk]) FrLe.nil)) ?_ ?_
 ·exact ⟨by simp, revK_zero xs⟩
 ·exact Ent.refl _
 ·rintro ⟨k, ys⟩ ⟨hk, hr⟩
  dsimp only at hk hr ⊢
  have hyl := hr.1
  refine Qb (Qb (Qa (Qd rfl rfl (Qd rfl rfl (Q6 rfl rfl rfl (WpL.nil (Qm rfl (fun h1 => ?_) (fun h1 => ?_))))))))
  ·have h1 : xs.length - 1 - k < ys.length := by omega
   have h2 : k < ys.length := by omega
   refine Wp.skip (Qb (Wp.block ?_))
   apply Xe (fB := []) mixed [(13, false), (1, false)] (by kernel_rfl)
   apply Q9 [⟨0, 14, _, [], false⟩, ⟨1, 15, _, [], false⟩, ⟨2, 16, _, [], true⟩, ⟨3, 17, _, [], true⟩, ⟨4, 18, _, [], false⟩, ⟨5, 19, _, [], false⟩, ⟨6, 20, _, [4, 5], false⟩, ⟨7, 21, _, [6], false⟩, ⟨8, 22, _, [], false⟩, ⟨9, 23, _, [], false⟩, ⟨10, 24, _, [8, 9], false⟩, ⟨11, 25, _, [10], false⟩, ⟨12, 26, _, [0, 1, 4, 5, 6, 7, 11], false⟩] [] [0, 1, 4, 5, 6, 7, 8, 9, 10, 11, 12] [27, 16, 17] (.inl ⟨_, .nil⟩) rfl rfl rfl (by kernel_rfl) rfl rfl rfl
   ·refine AllF.cons rfl rfl rfl rfl ?_ ?_
    ·exact Qd rfl rfl (Ql rfl)
    refine AllF.cons rfl rfl rfl rfl ?_ ?_
    ·exact Qd rfl rfl (Ql rfl)
    refine Xc rfl rfl rfl rfl ?_ ?_
    ·exact Qd rfl rfl (Ql rfl)
    refine Xc rfl rfl rfl rfl ?_ ?_
    ·exact Qd rfl rfl (Ql rfl)
    refine AllF.cons rfl rfl rfl rfl ?_ ?_
    ·exact Qd rfl rfl (Ql rfl)
    refine AllF.cons rfl rfl rfl rfl ?_ ?_
    ·exact Qd rfl rfl (Ql rfl)
    refine AllF.cons rfl rfl rfl rfl ?_ ?_
    ·refine Q3 (xs.length - 1 - k) rfl rfl rfl QI (by exact Take.ent' (by repeat' constructor)) (by omega) (by omega) (by rw [Q1]; omega) ?_
     exact Ql rfl
    refine AllF.cons rfl rfl rfl rfl ?_ ?_
    ·refine Xb rfl rfl QI (by exact Take.ent' (by repeat' constructor)) (YQ ys h1) ?_
     exact Ql rfl
    refine AllF.cons rfl rfl rfl rfl ?_ ?_
    ·exact Qd rfl rfl (Ql rfl)
    refine AllF.cons rfl rfl rfl rfl ?_ ?_
    ·exact Qd rfl rfl (Ql rfl)
    refine AllF.cons rfl rfl rfl rfl ?_ ?_
    ·refine Q3 k rfl rfl rfl QI (by exact Take.ent' (by repeat' constructor)) rfl (by omega) (by rw [Q1]; omega) ?_
     exact Ql rfl
    refine AllF.cons rfl rfl rfl rfl ?_ ?_
    ·refine Xb rfl rfl QI (by exact Take.ent' (by repeat' constructor)) (YQ ys h2) ?_
     exact Ql rfl
    refine AllF.cons rfl rfl rfl rfl ?_ ?_
    ·refine Q3 k rfl rfl rfl QI (by exact Take.ent' (by repeat' constructor)) rfl (by omega) (by rw [Q1]; omega) ?_
     exact Ql rfl
    exact AllF.nil
   ·refine s_sto rfl rfl rfl (by repeat' constructor) (by rw [Q1]; omega) ?_
    refine WpL.nil ⟨rfl, rfl, ?_⟩
    apply Q9 [⟨14, 27, _, [0, 1, 2, 3, 4, 5, 6, 7, 8, 9, 10, 11, 12, 13], false⟩] [2, 3] [2, 3, 14] [] (.inl ⟨_, .nil⟩) rfl rfl rfl (by kernel_rfl) rfl rfl rfl
    ·refine AllF.cons rfl rfl rfl rfl ?_ ?_
     ·refine Q3 (xs.length - 1 - k) rfl rfl rfl QI (by exact Take.ent' (by repeat' constructor)) (by omega) (by omega) (by rw [List.length_set, Q1]; omega) ?_
      exact Ql rfl
     exact AllF.nil
    ·refine s_sto rfl rfl rfl (by repeat' constructor) (by rw [List.length_set, Q1]; omega) ?_
     refine WpL.nil ⟨rfl, rfl, ?_⟩
     apply GoR.nil [] (.inr rfl) rfl rfl
     ·exact AllF.nil
     ·refine Qa (Qd rfl rfl (QE rfl rfl rfl (Qt (by omega) (by omega)) ?_))
      refine Qd rfl rfl (Yz rfl rfl rfl (Qt (by omega) (by omega)) ?_)
      refine Qe rfl rfl (Qe rfl rfl (WpL.nil (Qy (⟨k + 1, (ys.set k (ys[xs.length - 1 - k]'h1)).set (xs.length - 1 - k) (ys[k]'h2)⟩ : RvX) ?_ ?_ (by ((repeat (first | exact Top.refl | refine Top.push rfl ?_)); done)) (FrLe.cons rfl (FrLe.cons (congrArg (fun x => some (Value.int .i64 x)) (show ((xs.length : Int) - 1 - (k : Int) - 1) = (xs.length : Int) - 1 - ((k + 1 : Nat) : Int) by omega)) FrLe.nil)) ?_)))
      ·exact ⟨by simp only; omega, revK_step hr (by omega) h1 h2⟩
      ·simp only; omega
      ·rw [u8s_set, u8s_set]; exact Ent.refl _
  ·refine QL ?_
   have he := revK_done hr (by omega)
   subst he
   apply Yr
   ·exact (XQ rfl)
   ·exact rfl
   ·exact Ent.refl _

theorem digitsM_spec (n b : Int) : Fn Tryz.prog 177 #[.int .u64 n, .int .u64 b] [] (fun v l => ∃ g1 g2, v = .func (.func 197) #[] #[.pointer (some ⟨g1, 0, none⟩), .pointer (some ⟨g2, 0, none⟩)] ∧ l = [QB g1 [.int .u64 n] 91, QB g2 [.int .u64 b] 91]) := by
 refine Qk (vs := [.int .u64 n, .int .u64 b]) Tryz.func177 rfl Tryz.ntmps177 rfl (Qb (Qa (QP rfl rfl rfl ?_)))
 intro g1
 refine QP rfl rfl rfl ?_
 intro g2
 refine Qe rfl rfl (WpL.nil (Qb (Qa (s_mkf rfl (fun a hh => XO hh _ _ rfl) ?_))))
 refine Qe rfl rfl (WpL.nil (Qh ?_))
 apply RetQ.mk
 ·exact (Res.one rfl rfl)
 ·exact ⟨_, _, rfl, rfl⟩
 ·exact Take.ent' (by repeat' constructor)


theorem map_take_snoc {f : Int → Int} (xs : List Int) {k : Nat} (h : k < xs.length) : (xs.take k).map f ++ [f xs[k]] = (xs.take (k + 1)).map f := by
  rw [Xd xs h, List.map_append]; rfl
theorem digs_bd (n : Nat) : ∀ x ∈ Ys n, 48 ≤ x ∧ x ≤ 57 := by
  intro x hx
  rw [lowD_digs, List.mem_reverse, List.mem_map] at hx
  obtain ⟨y, hy, rfl⟩ := hx
  have := lowD_bd (b := 10) (by omega) n y hy
  omega

theorem YX (n : Int) (h0 : 0 ≤ n) (h1 : n < 9223372036854775808) : Fn Tryz.prog 135 #[.int .i64 n] [] (fun v l => v = .string (strOfNums (Ys n.toNat)) ∧ l = []) := by
 have hlen := lowD_len20 (b := 10) (n := n.toNat) (by omega) 18 (by omega)
 refine Qk (vs := [.int .i64 n]) Tryz.func135 rfl Tryz.ntmps135 rfl (Qb (Qa (Qe rfl rfl (WpL.nil (Qb (Qa (Qd rfl rfl (Ya rfl Tryz.underlying3 rfl (Zi (by omega) (by omega)) ?_))))))))
 refine Qe rfl rfl (WpL.nil (Qb (Qa (XK rfl ?_))))
 intro g3
 refine WpL.nil (Qb (Qb (Qa (Qd rfl rfl (Q6 rfl rfl rfl (WpL.nil (QA rfl (by omega) ?_)))))))
 refine Wp.skip (Qb (Qb (Qa (Qd rfl rfl (Qg rfl rfl (by repeat' constructor) (digitsM_spec _ _) ?_)))))
 rintro _ _ ⟨g1, g2, rfl, rfl⟩
 simp only [Qr]
 refine WpL.nil (Wp.block ?_)
 refine Wp.rangeF (encs := fun (x : Int) => [Value.int .u8 x]) (xs := YU 10 n.toNat) (QG := [QB g1 [.int .u64 n] 91, QB g2 [.int .u64 10] 91]) (own' := []) (m0 := [QB g3 [.slice none 0 0] 22, QG 5 1 none 0 0 []]) rfl rfl (fun y J Jx hY m h0 => (show n = ((n.toNat : Nat) : Int) by omega) ▸ digitsF_spec 10 n.toNat (by omega) (by omega) (by omega) g1 g2 y J Jx hY m h0) (fun _ => rfl) rfl (fun k m => ∃ a c, m = [QB g3 [.slice a k c] 22, QG 5 1 a c k (Xn (((YU 10 n.toNat).take k).map fun x => 48 + x))]) (fun _ _ _ => False) ?_ ?_ ?_ ?_ ?_
 ·exact ⟨none, 0, rfl⟩
 ·exact (Ent.own_nil (T := 5) (s := 1) (Ent.refl _)).trans (Take.ent' (by repeat' constructor))
 ·intro y k hk m hm
  obtain ⟨a1, c1, rfl⟩ := hm
  refine Qa (Qe rfl rfl (WpL.nil (⟨rfl, rfl, ?_⟩)))
  have hx := lowD_bd (b := 10) (by omega) n.toNat (YU 10 n.toNat)[k] (List.getElem_mem hk)
  refine Wp.block ?_
  refine Qa (Qo rfl rfl (by rfl) ?_)
  refine Qd rfl rfl (QE rfl rfl rfl (w_u8 (by omega) (by omega)) ?_)
  refine Y4 rfl rfl rfl rfl ?_
  intro g2
  refine X9 rfl rfl rfl (by repeat' constructor) (by rfl) (by rfl) (by rfl) (by rfl) (by omega) (by omega) ?_
  intro a19 c19
  refine Q0 rfl rfl rfl (WpL.nil ?_)
  rw [u8s_snoc, map_take_snoc (f := fun x => 48 + x) _ hk]
  exact ⟨_, ⟨a19, c19, rfl⟩, by exact Take.ent' (by repeat' constructor)⟩
 ·intro q1 m hm
  obtain ⟨a1, c1, rfl⟩ := hm
  simp only [Qr]
  rw [List.take_length, show (YU 10 n.toNat).length = ((YU 10 n.toNat).map fun x => 48 + x).length from by simp]
  refine Qb (Qb (Qa (Qd rfl rfl (Q6 rfl rfl rfl (WpL.nil (QA rfl (by omega) ?_))))))
  refine Wp.skip (Qb (Qa (Qo rfl rfl (by rfl) ?_)))
  refine Qg rfl rfl (by repeat' constructor) (RevB_spec _ _ _ (by simp; omega)) ?_
  rintro _ _ rfl
  simp only [Qr]
  refine WpL.nil (Qb (Qa (Qo rfl rfl (by rfl) ?_)))
  rw [← lowD_digs]
  refine s_b2so rfl Tryz.underlying22 Tryz.underlying5 Tryz.underlying9 rfl (by repeat' constructor) ?_
  refine Qe rfl rfl (WpL.nil (Qh ?_))
  apply RetQ.mkR [q1] rfl (by repeat' constructor)
  ·exact (Res.one rfl rfl)
  ·exact ⟨rfl, rfl⟩
  ·exact Ent.nil _
 ·exact fun _ _ _ _ _ h => h.elim


end Go.Proofs.YtggamdlpiejbiaaGreat
