/- Walks and plain laws, a part of the proof of ImageWrites: every input that the law's guards let in, no condition beside. -/
import Derived.Test.YtggamdlpiejbiaaGreatM10
namespace Go.Proofs.YtggamdlpiejbiaaGreat
open Go.RowKit Go.Shelf


theorem hdNum_spec (g : Nat) (l0 l1 l2 : Int) (s : HS) (pt : Value) (A : HP) (c : Int) (hc0 : 0 ≤ c) (hc1 : c ≤ 255) (hl : (1 ≤ l0 ∧ l0 ≤ 4096) ∧ (1 ≤ l1 ∧ l1 ≤ 65536) ∧ (1 ≤ l2 ∧ l2 ≤ 65535)) (hI : hdI s) (hat : s.at_ = 3) (hT0 : hdT l0 l1 l2 s pt A) :
    Fn Tryz.prog 166 #[.pointer (some ⟨g, 0, none⟩), .int .u8 c] [QB g [.int .i64 s.K, .int .i64 s.W, .int .i64 s.H, .int .i64 s.M, .int .i64 l0, .int .i64 l1, .int .i64 l2, .int .i64 s.at_, .int .i64 s.i, pt, .int .i64 0, .int .i64 s.e] 234, A] (fun v l => ∃ s' pt' A', s' = Xs l0 l1 l2 s c ∧ v = .int .i64 s'.last ∧ (s'.last = 0 → hdI s' ∧ hdT l0 l1 l2 s' pt' A') ∧ l = [QB g [.int .i64 s'.K, .int .i64 s'.W, .int .i64 s'.H, .int .i64 s'.M, .int .i64 l0, .int .i64 l1, .int .i64 l2, .int .i64 s'.at_, .int .i64 s'.i, pt', .int .i64 0, .int .i64 s'.e] 234, A']) := by
  obtain ⟨K, W, H, M, at_, i, t, last, e⟩ := s
  obtain ⟨h1, h2, h3, h4, h5, h6⟩ := hI
  dsimp only at *
  subst hat
  subst h1
  rcases hT0 with ⟨q, _⟩ | ⟨_, hok, gt, bg, rfl, rfl⟩
  · exact absurd (show (3 : Int) < 3 from q) (by decide)
  dsimp only at hok
  obtain rfl | rfl | rfl : i = 0 ∨ i = 1 ∨ i = 2 := by omega
  · refine (hdNum_0 g gt K W H M l0 l1 l2 3 0 e t bg _ c hc0 hc1 hl rfl hok).mono fun v l h => ?_
    skip
    · rcases h with ⟨s', bg', hT, hok', rfl, rfl⟩ | ⟨e', bg', nx', hT, rfl, rfl⟩ | ⟨bg', nx', hT, rfl, rfl⟩ | h
      · have hm : Xs l0 l1 l2 ⟨K, W, H, M, 3, 0, t, 0, e⟩ c = ⟨K, W, H, M, 3, 0, s', 0, e⟩ := by unfold Xs; rw [show XU l0 l1 l2 0 = l0 from rfl, hT]; dsimp only; rw [if_pos rfl]
        exact ⟨_, ⟨⟨K, W, H, M, 3, 0, s', 0, e⟩, _, _, hm.symm, rfl, (fun _ => ⟨by unfold hdI; dsimp only; omega, .inr ⟨rfl, hok', gt, bg', rfl, rfl⟩⟩), rfl⟩, Ent.refl _⟩
      · have hm : Xs l0 l1 l2 ⟨K, W, H, M, 3, 0, t, 0, e⟩ c = ⟨K, W, H, M, 3, 0, ⟨5, 0, e'⟩, 2, e'⟩ := by unfold Xs; rw [show XU l0 l1 l2 0 = l0 from rfl, hT]; dsimp only; rw [if_neg (by decide), if_pos rfl]
        exact ⟨_, ⟨⟨K, W, H, M, 3, 0, ⟨5, 0, e'⟩, 2, e'⟩, _, _, hm.symm, rfl, (fun h => absurd (show (2 : Int) = 0 from h) (by decide)), rfl⟩, Ent.refl _⟩
      · have hm : Xs l0 l1 l2 ⟨K, W, H, M, 3, 0, t, 0, e⟩ c = ⟨K, W, H, M, 3, 0, ⟨4, 0, 0⟩, 2, 4⟩ := by unfold Xs; rw [show XU l0 l1 l2 0 = l0 from rfl, hT]; dsimp only; rw [if_neg (by decide), if_neg (by decide), if_pos rfl]
        exact ⟨_, ⟨⟨K, W, H, M, 3, 0, ⟨4, 0, 0⟩, 2, 4⟩, _, _, hm.symm, rfl, (fun h => absurd (show (2 : Int) = 0 from h) (by decide)), rfl⟩, Ent.refl _⟩
      · obtain ⟨n', hT, hn0, hn1, rfl, gt2, rfl⟩ := h
        have hq1 : Yn ⟨K, W, H, M, 3, 0, t, 0, e⟩ n' = ⟨K, n', H, M, 3, 0, t, 0, e⟩ := by unfold Yn; dsimp only; rw [if_pos rfl]
        have hq2 : XP ⟨K, n', H, M, 3, 0, t, 0, e⟩ = ⟨K, n', H, M, 3, 1, t, 0, e⟩ := by unfold XP YZ; dsimp only; rw [if_neg (fun q => absurd q.1 (by decide))]; try rfl
        have hm : Xs l0 l1 l2 ⟨K, W, H, M, 3, 0, t, 0, e⟩ c = ⟨K, n', H, M, 3, 1, ZU, 0, e⟩ := by unfold Xs; rw [show XU l0 l1 l2 0 = l0 from rfl, hT]; dsimp only; rw [if_neg (by decide), if_neg (by decide), if_neg (by omega), hq1, hq2]; dsimp only; rw [if_pos (by decide)]; try rfl
        exact ⟨_, ⟨⟨K, n', H, M, 3, 1, ZU, 0, e⟩, _, _, hm.symm, rfl, (fun _ => ⟨by unfold hdI; dsimp only; omega, .inr ⟨rfl, (by unfold Zg ZU XU; dsimp only; rw [if_neg (by decide)]; rw [if_pos rfl]; omega), gt2, false, rfl, rfl⟩⟩), rfl⟩, Ent.refl _⟩
  · by_cases hbk : K = 1 ∨ K = 4
    · refine (hdNum_1b g gt K W H M l0 l1 l2 3 0 e t bg _ c hc0 hc1 hl rfl hok hbk).mono fun v l h => ?_
      skip
      · rcases h with ⟨s', bg', hT, hok', rfl, rfl⟩ | ⟨e', bg', nx', hT, rfl, rfl⟩ | ⟨bg', nx', hT, rfl, rfl⟩ | h
        · have hm : Xs l0 l1 l2 ⟨K, W, H, M, 3, 1, t, 0, e⟩ c = ⟨K, W, H, M, 3, 1, s', 0, e⟩ := by unfold Xs; rw [show XU l0 l1 l2 1 = l1 from rfl, hT]; dsimp only; rw [if_pos rfl]
          exact ⟨_, ⟨⟨K, W, H, M, 3, 1, s', 0, e⟩, _, _, hm.symm, rfl, (fun _ => ⟨by unfold hdI; dsimp only; omega, .inr ⟨rfl, hok', gt, bg', rfl, rfl⟩⟩), rfl⟩, Ent.refl _⟩
        · have hm : Xs l0 l1 l2 ⟨K, W, H, M, 3, 1, t, 0, e⟩ c = ⟨K, W, H, M, 3, 1, ⟨5, 0, e'⟩, 2, e'⟩ := by unfold Xs; rw [show XU l0 l1 l2 1 = l1 from rfl, hT]; dsimp only; rw [if_neg (by decide), if_pos rfl]
          exact ⟨_, ⟨⟨K, W, H, M, 3, 1, ⟨5, 0, e'⟩, 2, e'⟩, _, _, hm.symm, rfl, (fun h => absurd (show (2 : Int) = 0 from h) (by decide)), rfl⟩, Ent.refl _⟩
        · have hm : Xs l0 l1 l2 ⟨K, W, H, M, 3, 1, t, 0, e⟩ c = ⟨K, W, H, M, 3, 1, ⟨4, 0, 0⟩, 2, 4⟩ := by unfold Xs; rw [show XU l0 l1 l2 1 = l1 from rfl, hT]; dsimp only; rw [if_neg (by decide), if_neg (by decide), if_pos rfl]
          exact ⟨_, ⟨⟨K, W, H, M, 3, 1, ⟨4, 0, 0⟩, 2, 4⟩, _, _, hm.symm, rfl, (fun h => absurd (show (2 : Int) = 0 from h) (by decide)), rfl⟩, Ent.refl _⟩
        · obtain ⟨n', hT, hn0, hn1, rfl, bg', nx', rfl⟩ := h
          have hq1 : Yn ⟨K, W, H, M, 3, 1, t, 0, e⟩ n' = ⟨K, W, n', M, 3, 1, t, 0, e⟩ := by unfold Yn; dsimp only; rw [if_neg (by decide), if_pos rfl]
          have hq2 : XP ⟨K, W, n', M, 3, 1, t, 0, e⟩ = ⟨K, W, n', 1, 3, 3, t, 0, e⟩ := by unfold XP YZ; dsimp only; rw [if_pos ⟨by decide, hbk⟩]; try rfl
          have hm : Xs l0 l1 l2 ⟨K, W, H, M, 3, 1, t, 0, e⟩ c = ⟨K, W, n', 1, 3, 3, ⟨4, n', 0⟩, 1, 0⟩ := by unfold Xs; rw [show XU l0 l1 l2 1 = l1 from rfl, hT]; dsimp only; rw [if_neg (by decide), if_neg (by decide), if_neg (by omega), hq1, hq2]; dsimp only; rw [if_neg (by decide)]; try rfl
          exact ⟨_, ⟨⟨K, W, n', 1, 3, 3, ⟨4, n', 0⟩, 1, 0⟩, _, _, hm.symm, rfl, (fun h => absurd (show (1 : Int) = 0 from h) (by decide)), rfl⟩, Ent.refl _⟩
    · refine (hdNum_1n g gt K W H M l0 l1 l2 3 0 e t bg _ c hc0 hc1 hl rfl hok hbk).mono fun v l h => ?_
      skip
      · rcases h with ⟨s', bg', hT, hok', rfl, rfl⟩ | ⟨e', bg', nx', hT, rfl, rfl⟩ | ⟨bg', nx', hT, rfl, rfl⟩ | h
        · have hm : Xs l0 l1 l2 ⟨K, W, H, M, 3, 1, t, 0, e⟩ c = ⟨K, W, H, M, 3, 1, s', 0, e⟩ := by unfold Xs; rw [show XU l0 l1 l2 1 = l1 from rfl, hT]; dsimp only; rw [if_pos rfl]
          exact ⟨_, ⟨⟨K, W, H, M, 3, 1, s', 0, e⟩, _, _, hm.symm, rfl, (fun _ => ⟨by unfold hdI; dsimp only; omega, .inr ⟨rfl, hok', gt, bg', rfl, rfl⟩⟩), rfl⟩, Ent.refl _⟩
        · have hm : Xs l0 l1 l2 ⟨K, W, H, M, 3, 1, t, 0, e⟩ c = ⟨K, W, H, M, 3, 1, ⟨5, 0, e'⟩, 2, e'⟩ := by unfold Xs; rw [show XU l0 l1 l2 1 = l1 from rfl, hT]; dsimp only; rw [if_neg (by decide), if_pos rfl]
          exact ⟨_, ⟨⟨K, W, H, M, 3, 1, ⟨5, 0, e'⟩, 2, e'⟩, _, _, hm.symm, rfl, (fun h => absurd (show (2 : Int) = 0 from h) (by decide)), rfl⟩, Ent.refl _⟩
        · have hm : Xs l0 l1 l2 ⟨K, W, H, M, 3, 1, t, 0, e⟩ c = ⟨K, W, H, M, 3, 1, ⟨4, 0, 0⟩, 2, 4⟩ := by unfold Xs; rw [show XU l0 l1 l2 1 = l1 from rfl, hT]; dsimp only; rw [if_neg (by decide), if_neg (by decide), if_pos rfl]
          exact ⟨_, ⟨⟨K, W, H, M, 3, 1, ⟨4, 0, 0⟩, 2, 4⟩, _, _, hm.symm, rfl, (fun h => absurd (show (2 : Int) = 0 from h) (by decide)), rfl⟩, Ent.refl _⟩
        · obtain ⟨n', hT, hn0, hn1, rfl, gt2, rfl⟩ := h
          have hq1 : Yn ⟨K, W, H, M, 3, 1, t, 0, e⟩ n' = ⟨K, W, n', M, 3, 1, t, 0, e⟩ := by unfold Yn; dsimp only; rw [if_neg (by decide), if_pos rfl]
          have hq2 : XP ⟨K, W, n', M, 3, 1, t, 0, e⟩ = ⟨K, W, n', M, 3, 2, t, 0, e⟩ := by unfold XP YZ; dsimp only; rw [if_neg (fun q => hbk q.2)]; try rfl
          have hm : Xs l0 l1 l2 ⟨K, W, H, M, 3, 1, t, 0, e⟩ c = ⟨K, W, n', M, 3, 2, ZU, 0, e⟩ := by unfold Xs; rw [show XU l0 l1 l2 1 = l1 from rfl, hT]; dsimp only; rw [if_neg (by decide), if_neg (by decide), if_neg (by omega), hq1, hq2]; dsimp only; rw [if_pos (by decide)]; try rfl
          exact ⟨_, ⟨⟨K, W, n', M, 3, 2, ZU, 0, e⟩, _, _, hm.symm, rfl, (fun _ => ⟨by unfold hdI; dsimp only; omega, .inr ⟨rfl, (by unfold Zg ZU XU; dsimp only; rw [if_neg (by decide)]; rw [if_neg (by decide)]; omega), gt2, false, rfl, rfl⟩⟩), rfl⟩, Ent.refl _⟩
  · refine (hdNum_2 g gt K W H M l0 l1 l2 3 0 e t bg _ c hc0 hc1 hl rfl hok).mono fun v l h => ?_
    skip
    · rcases h with ⟨s', bg', hT, hok', rfl, rfl⟩ | ⟨e', bg', nx', hT, rfl, rfl⟩ | ⟨bg', nx', hT, rfl, rfl⟩ | h
      · have hm : Xs l0 l1 l2 ⟨K, W, H, M, 3, 2, t, 0, e⟩ c = ⟨K, W, H, M, 3, 2, s', 0, e⟩ := by unfold Xs; rw [show XU l0 l1 l2 2 = l2 from rfl, hT]; dsimp only; rw [if_pos rfl]
        exact ⟨_, ⟨⟨K, W, H, M, 3, 2, s', 0, e⟩, _, _, hm.symm, rfl, (fun _ => ⟨by unfold hdI; dsimp only; omega, .inr ⟨rfl, hok', gt, bg', rfl, rfl⟩⟩), rfl⟩, Ent.refl _⟩
      · have hm : Xs l0 l1 l2 ⟨K, W, H, M, 3, 2, t, 0, e⟩ c = ⟨K, W, H, M, 3, 2, ⟨5, 0, e'⟩, 2, e'⟩ := by unfold Xs; rw [show XU l0 l1 l2 2 = l2 from rfl, hT]; dsimp only; rw [if_neg (by decide), if_pos rfl]
        exact ⟨_, ⟨⟨K, W, H, M, 3, 2, ⟨5, 0, e'⟩, 2, e'⟩, _, _, hm.symm, rfl, (fun h => absurd (show (2 : Int) = 0 from h) (by decide)), rfl⟩, Ent.refl _⟩
      · have hm : Xs l0 l1 l2 ⟨K, W, H, M, 3, 2, t, 0, e⟩ c = ⟨K, W, H, M, 3, 2, ⟨4, 0, 0⟩, 2, 4⟩ := by unfold Xs; rw [show XU l0 l1 l2 2 = l2 from rfl, hT]; dsimp only; rw [if_neg (by decide), if_neg (by decide), if_pos rfl]
        exact ⟨_, ⟨⟨K, W, H, M, 3, 2, ⟨4, 0, 0⟩, 2, 4⟩, _, _, hm.symm, rfl, (fun h => absurd (show (2 : Int) = 0 from h) (by decide)), rfl⟩, Ent.refl _⟩
      · obtain ⟨n', hT, hn0, hn1, rfl, bg', nx', rfl⟩ := h
        have hq1 : Yn ⟨K, W, H, M, 3, 2, t, 0, e⟩ n' = ⟨K, W, H, n', 3, 2, t, 0, e⟩ := by unfold Yn; dsimp only; rw [if_neg (by decide), if_neg (by decide)]
        have hq2 : XP ⟨K, W, H, n', 3, 2, t, 0, e⟩ = ⟨K, W, H, n', 3, 3, t, 0, e⟩ := by unfold XP YZ; dsimp only; rw [if_neg (fun q => absurd q.1 (by decide))]; try rfl
        have hm : Xs l0 l1 l2 ⟨K, W, H, M, 3, 2, t, 0, e⟩ c = ⟨K, W, H, n', 3, 3, ⟨4, n', 0⟩, 1, 0⟩ := by unfold Xs; rw [show XU l0 l1 l2 2 = l2 from rfl, hT]; dsimp only; rw [if_neg (by decide), if_neg (by decide), if_neg (by omega), hq1, hq2]; dsimp only; rw [if_neg (by decide)]; try rfl
        exact ⟨_, ⟨⟨K, W, H, n', 3, 3, ⟨4, n', 0⟩, 1, 0⟩, _, _, hm.symm, rfl, (fun h => absurd (show (1 : Int) = 0 from h) (by decide)), rfl⟩, Ent.refl _⟩


end Go.Proofs.YtggamdlpiejbiaaGreat
namespace Go.Proofs.YtggamdlpiejbiaaGreat
open Go.RowKit Go.Shelf

theorem hdPut_m (g : Nat) (l0 l1 l2 : Int) (s : HS) (pt : Value) (A : HP) (c : Int) (hc0 : 0 ≤ c) (hc1 : c ≤ 255) (hl : (1 ≤ l0 ∧ l0 ≤ 4096) ∧ (1 ≤ l1 ∧ l1 ≤ 65536) ∧ (1 ≤ l2 ∧ l2 ≤ 65535)) (hI : hdI s) (_hT0 : hdT l0 l1 l2 s pt A) (hat : s.at_ < 3) (hpt : pt = .pointer none) : Fn Tryz.prog 123 #[.pointer (some ⟨g, 0, none⟩), .int .u8 c] [QB g [.int .i64 s.K, .int .i64 s.W, .int .i64 s.H, .int .i64 s.M, .int .i64 l0, .int .i64 l1, .int .i64 l2, .int .i64 s.at_, .int .i64 s.i, pt, .int .i64 0, .int .i64 s.e] 234, A] (fun v l => ∃ s' pt' A', s' = Xd l0 l1 l2 s c ∧ v = .int .i64 s'.last ∧ (s'.last = 0 → hdI s' ∧ hdT l0 l1 l2 s' pt' A') ∧ l = [QB g [.int .i64 s'.K, .int .i64 s'.W, .int .i64 s'.H, .int .i64 s'.M, .int .i64 l0, .int .i64 l1, .int .i64 l2, .int .i64 s'.at_, .int .i64 s'.i, pt', .int .i64 s'.last, .int .i64 s'.e] 234, A']) := by
 refine Ql (vs := [.pointer (some ⟨g, 0, none⟩), .int .u8 c]) Tryz.func123 rfl Tryz.ntmps123 rfl ?_
 refine Qb (Qa (Qe rfl rfl (WpL.nil (Qb (Wp.block ?_)))))
 refine Qb (Qa (Qc rfl rfl (Qv rfl rfl (Qj (o2 := 10) rfl rfl rfl (Qo rfl rfl (by rfl) ?_)))))
 refine Xc rfl rfl rfl (Qe rfl rfl (WpL.nil (Qz rfl (by decide) (Qb (Qa (Qc rfl rfl (Qv rfl rfl (Qj (o2 := 7) rfl rfl rfl (Qo rfl rfl (by rfl) ?_)))))))))
 refine Q4 rfl rfl rfl (Qe rfl rfl (WpL.nil (QM rfl hat (Qa (Qc rfl rfl (Qc rfl rfl (Qc rfl rfl (Qh rfl rfl (by repeat' constructor) (hdMagic_spec g l0 l1 l2 s pt c hc0 hc1 hl hI hat hpt) ?_))))))))
 rintro _ _ ⟨s', pt', A', hs, rfl, hok, rfl⟩
 simp only [Qr]
 refine Qv rfl rfl (Qj (o2 := 10) rfl rfl rfl (Q6 rfl rfl rfl (WpL.nil (Qb (Qa (Qc rfl rfl (Qv rfl rfl (Qj (o2 := 10) rfl rfl rfl (Qo rfl rfl (by rfl) ?_)))))))))
 refine Qe rfl rfl (WpL.nil (Qi ?_))
 apply RetQ.mk
 ·exact (Res.one rfl rfl)
 ·exact ⟨s', pt', A', by unfold Xd; rw [if_neg (fun h => h hI.1), if_pos hat]; exact hs, rfl, hok, rfl⟩
 ·exact Take.ent' (by repeat' constructor)

theorem hdPut_n (g : Nat) (l0 l1 l2 : Int) (s : HS) (pt : Value) (A : HP) (c : Int) (hc0 : 0 ≤ c) (hc1 : c ≤ 255) (hl : (1 ≤ l0 ∧ l0 ≤ 4096) ∧ (1 ≤ l1 ∧ l1 ≤ 65536) ∧ (1 ≤ l2 ∧ l2 ≤ 65535)) (hI : hdI s) (hT0 : hdT l0 l1 l2 s pt A) (hat : s.at_ = 3) : Fn Tryz.prog 123 #[.pointer (some ⟨g, 0, none⟩), .int .u8 c] [QB g [.int .i64 s.K, .int .i64 s.W, .int .i64 s.H, .int .i64 s.M, .int .i64 l0, .int .i64 l1, .int .i64 l2, .int .i64 s.at_, .int .i64 s.i, pt, .int .i64 0, .int .i64 s.e] 234, A] (fun v l => ∃ s' pt' A', s' = Xd l0 l1 l2 s c ∧ v = .int .i64 s'.last ∧ (s'.last = 0 → hdI s' ∧ hdT l0 l1 l2 s' pt' A') ∧ l = [QB g [.int .i64 s'.K, .int .i64 s'.W, .int .i64 s'.H, .int .i64 s'.M, .int .i64 l0, .int .i64 l1, .int .i64 l2, .int .i64 s'.at_, .int .i64 s'.i, pt', .int .i64 s'.last, .int .i64 s'.e] 234, A']) := by
 refine Ql (vs := [.pointer (some ⟨g, 0, none⟩), .int .u8 c]) Tryz.func123 rfl Tryz.ntmps123 rfl ?_
 refine Qb (Qa (Qe rfl rfl (WpL.nil (Qb (Wp.block ?_)))))
 refine Qb (Qa (Qc rfl rfl (Qv rfl rfl (Qj (o2 := 10) rfl rfl rfl (Qo rfl rfl (by rfl) ?_)))))
 refine Xc rfl rfl rfl (Qe rfl rfl (WpL.nil (Qz rfl (by decide) (Qb (Qa (Qc rfl rfl (Qv rfl rfl (Qj (o2 := 7) rfl rfl rfl (Qo rfl rfl (by rfl) ?_)))))))))
 refine Q4 rfl rfl rfl (Qe rfl rfl (WpL.nil (Qz rfl (by omega) ?_)))
 refine Qa (Qc rfl rfl (Qc rfl rfl (Qc rfl rfl (Qh rfl rfl (by repeat' constructor) (hdNum_spec g l0 l1 l2 s pt A c hc0 hc1 hl hI hat hT0) ?_))))
 rintro _ _ ⟨s', pt', A', hs, rfl, hok, rfl⟩
 simp only [Qr]
 refine Qv rfl rfl (Qj (o2 := 10) rfl rfl rfl (Q6 rfl rfl rfl (WpL.nil (Qb (Qa (Qc rfl rfl (Qv rfl rfl (Qj (o2 := 10) rfl rfl rfl (Qo rfl rfl (by rfl) ?_)))))))))
 refine Qe rfl rfl (WpL.nil (Qi ?_))
 apply RetQ.mk
 ·exact (Res.one rfl rfl)
 ·exact ⟨s', pt', A', by unfold Xd; rw [if_neg (fun h => h hI.1), if_neg (by omega)]; exact hs, rfl, hok, rfl⟩
 ·exact Ent.refl _


theorem hdPut_spec (g : Nat) (l0 l1 l2 : Int) (s : HS) (pt : Value) (A : HP) (c : Int) (hc0 : 0 ≤ c) (hc1 : c ≤ 255) (hl : (1 ≤ l0 ∧ l0 ≤ 4096) ∧ (1 ≤ l1 ∧ l1 ≤ 65536) ∧ (1 ≤ l2 ∧ l2 ≤ 65535)) (hI : hdI s) (hT0 : hdT l0 l1 l2 s pt A) : Fn Tryz.prog 123 #[.pointer (some ⟨g, 0, none⟩), .int .u8 c] [QB g [.int .i64 s.K, .int .i64 s.W, .int .i64 s.H, .int .i64 s.M, .int .i64 l0, .int .i64 l1, .int .i64 l2, .int .i64 s.at_, .int .i64 s.i, pt, .int .i64 0, .int .i64 s.e] 234, A] (fun v l => ∃ s' pt' A', s' = Xd l0 l1 l2 s c ∧ v = .int .i64 s'.last ∧ (s'.last = 0 → hdI s' ∧ hdT l0 l1 l2 s' pt' A') ∧ l = [QB g [.int .i64 s'.K, .int .i64 s'.W, .int .i64 s'.H, .int .i64 s'.M, .int .i64 l0, .int .i64 l1, .int .i64 l2, .int .i64 s'.at_, .int .i64 s'.i, pt', .int .i64 s'.last, .int .i64 s'.e] 234, A']) := by
  rcases hT0 with ⟨q1, q2, q3⟩ | ⟨q1, q2⟩
  · exact hdPut_m g l0 l1 l2 s pt A c hc0 hc1 hl hI (.inl ⟨q1, q2, q3⟩) q1 q3
  · exact hdPut_n g l0 l1 l2 s pt A c hc0 hc1 hl hI (.inr ⟨q1, q2⟩) q1

theorem lim_spec (x y : Int) : Fn Tryz.prog 162 #[.int .i64 x, .int .i64 y] [] (fun v l => v = .int .i64 (min (max x 1) y) ∧ l = []) := by
 refine Ql (vs := [.int .i64 x, .int .i64 y]) Tryz.func162 rfl Tryz.ntmps162 rfl (Qb (Qa (Qe rfl rfl (WpL.nil (Qb (Qa (Qc rfl rfl (s_max2 rfl rfl rfl (Qc rfl rfl (s_min2 rfl rfl rfl (Qe rfl rfl (WpL.nil ?_))))))))))))
 refine Qi ?_
 apply RetQ.mk
 ·exact (Res.one rfl rfl)
 ·exact ⟨rfl, rfl⟩
 ·exact Ent.refl _

theorem hdNew_spec (a b d : Int) : Fn Tryz.prog 112 #[.agg #[.int .i64 a, .int .i64 b, .int .i64 d]] [] (fun v l => ∃ g, v = .pointer (some ⟨g, 0, none⟩) ∧ l = [QB g [.int .i64 0, .int .i64 0, .int .i64 0, .int .i64 0, .int .i64 (min (max a 1) 4096), .int .i64 (min (max b 1) 65536), .int .i64 (min (max d 1) 65535), .int .i64 0, .int .i64 0, .pointer none, .int .i64 0, .int .i64 9] 234]) := by
 refine Ql (vs := [.agg #[.int .i64 a, .int .i64 b, .int .i64 d]]) Tryz.func112 rfl Tryz.ntmps112 rfl (Qb (Qa (QV rfl rfl rfl ?_)))
 intro g1
 refine Qe rfl rfl (WpL.nil (Qb (Qa (Qe rfl rfl (WpL.nil (Qb ?_))))))
 apply Xi (fB := []) mixed [(14, false)] (by kernel_rfl)
 apply Xe [⟨0, 4, _, [], false⟩, ⟨1, 5, _, [], false⟩, ⟨2, 6, _, [1], false⟩, ⟨3, 7, _, [0, 2], false⟩, ⟨4, 8, _, [], false⟩, ⟨5, 9, _, [], false⟩, ⟨6, 10, _, [5], false⟩, ⟨7, 11, _, [3, 4, 6], false⟩, ⟨8, 12, _, [], false⟩, ⟨9, 13, _, [], false⟩, ⟨10, 14, _, [9], false⟩, ⟨11, 15, _, [7, 8, 10], false⟩, ⟨12, 16, _, [3, 7, 11], false⟩, ⟨13, 17, _, [12], false⟩] [] [0, 1, 2, 3, 4, 5, 6, 7, 8, 9, 10, 11, 12, 13] [2] (.inr rfl) rfl rfl rfl (by kernel_rfl) rfl rfl rfl
 ·refine AllF.cons rfl rfl rfl rfl ?_ ?_
  ·exact Qc rfl rfl (Qn rfl)
  refine AllF.cons rfl rfl rfl rfl ?_ ?_
  ·exact Qj (o2 := 0) rfl rfl rfl (Qn rfl)
  refine AllF.cons rfl rfl rfl rfl ?_ ?_
  ·refine Qo rfl rfl (by rfl) ?_
   exact Qn rfl
  refine AllF.cons rfl rfl rfl rfl ?_ ?_
  ·refine XT (u := []) (c := []) rfl rfl rfl rfl (by repeat' constructor) (lim_spec _ _) ?_
   rintro _ _ ⟨rfl, rfl⟩
   simp only [Qr]
   exact WpL.nil ⟨rfl, rfl, rfl, by exact Ent.refl _⟩
  refine AllF.cons rfl rfl rfl rfl ?_ ?_
  ·exact Qc rfl rfl (Qn rfl)
  refine AllF.cons rfl rfl rfl rfl ?_ ?_
  ·exact Qj (o2 := 1) rfl rfl rfl (Qn rfl)
  refine AllF.cons rfl rfl rfl rfl ?_ ?_
  ·refine Qo rfl rfl (by rfl) ?_
   exact Qn rfl
  refine AllF.cons rfl rfl rfl rfl ?_ ?_
  ·refine XT (u := []) (c := []) rfl rfl rfl rfl (by repeat' constructor) (lim_spec _ _) ?_
   rintro _ _ ⟨rfl, rfl⟩
   simp only [Qr]
   exact WpL.nil ⟨rfl, rfl, rfl, by exact Ent.refl _⟩
  refine AllF.cons rfl rfl rfl rfl ?_ ?_
  ·exact Qc rfl rfl (Qn rfl)
  refine AllF.cons rfl rfl rfl rfl ?_ ?_
  ·exact Qj (o2 := 2) rfl rfl rfl (Qn rfl)
  refine AllF.cons rfl rfl rfl rfl ?_ ?_
  ·refine Qo rfl rfl (by rfl) ?_
   exact Qn rfl
  refine AllF.cons rfl rfl rfl rfl ?_ ?_
  ·refine XT (u := []) (c := []) rfl rfl rfl rfl (by repeat' constructor) (lim_spec _ _) ?_
   rintro _ _ ⟨rfl, rfl⟩
   simp only [Qr]
   exact WpL.nil ⟨rfl, rfl, rfl, by exact Ent.refl _⟩
  refine AllF.cons rfl rfl rfl rfl ?_ ?_
  ·refine Ym rfl rfl ?_
   exact Qn rfl
  refine AllF.cons rfl rfl rfl rfl ?_ ?_
  ·refine Ym rfl rfl ?_
   exact Qn rfl
  exact AllF.nil
 ·refine QV rfl rfl rfl ?_
  intro g2
  refine WpL.nil ⟨rfl, rfl, ?_⟩
  apply GoR.nil [⟨15, 2, _, [0, 1, 2, 3, 4, 5, 6, 7, 8, 9, 10, 11, 12, 13, 14], false⟩] (.inr rfl) rfl rfl
  ·refine AllF.cons rfl rfl rfl rfl ?_ ?_
   ·exact Qe rfl rfl (Qn rfl)
   exact AllF.nil
  ·refine Qi ?_
   apply RetQ.mk
   ·exact (Res.one rfl rfl)
   ·exact ⟨_, rfl, rfl⟩
   ·exact Take.ent' (by repeat' constructor)

theorem hdHead_spec (g : Nat) (K W H M l0 l1 l2 at_ i la e : Int) (pt : Value) : Fn Tryz.prog 116 #[.pointer (some ⟨g, 0, none⟩)] [QB g [.int .i64 K, .int .i64 W, .int .i64 H, .int .i64 M, .int .i64 l0, .int .i64 l1, .int .i64 l2, .int .i64 at_, .int .i64 i, pt, .int .i64 la, .int .i64 e] 234] (fun v l => ((e ≠ 0 ∧ v = .tuple #[.agg #[.int .i64 0, .int .i64 0, .int .i64 0, .int .i64 0], .int .i64 e]) ∨ (e = 0 ∧ v = .tuple #[.agg #[.int .i64 K, .int .i64 W, .int .i64 H, .int .i64 M], .int .i64 0])) ∧ l = [QB g [.int .i64 K, .int .i64 W, .int .i64 H, .int .i64 M, .int .i64 l0, .int .i64 l1, .int .i64 l2, .int .i64 at_, .int .i64 i, pt, .int .i64 la, .int .i64 e] 234]) := by
 refine Ql (vs := [.pointer (some ⟨g, 0, none⟩)]) Tryz.func116 rfl Tryz.ntmps116 rfl ?_
 refine Qb (Qa (XY rfl ?_))
 intro g1
 refine Qe rfl rfl (WpL.nil (Qb (Qb (Qa (Qc rfl rfl (Qv rfl rfl (Qj (o2 := 11) rfl rfl rfl (Qo rfl rfl (by rfl) ?_))))))))
 refine Xc rfl rfl rfl (WpL.nil (Qk rfl (fun h0 => ?_) (fun h0 => ?_)))
 ·refine Qb ?_
  apply Xi (fB := [QB g [.int .i64 K, .int .i64 W, .int .i64 H, .int .i64 M, .int .i64 l0, .int .i64 l1, .int .i64 l2, .int .i64 at_, .int .i64 i, pt, .int .i64 la, .int .i64 e] 234]) mixed [(5, false)] (by kernel_rfl)
  apply Xe [⟨0, 9, _, [], false⟩, ⟨1, 10, _, [], true⟩, ⟨2, 11, _, [1], true⟩, ⟨3, 12, _, [2], true⟩, ⟨4, 13, _, [3], true⟩] [] [0] [3, 10, 11, 12, 13] (.inl ⟨_, by repeat' constructor⟩) rfl rfl rfl (by kernel_rfl) rfl rfl rfl
  ·refine AllF.cons rfl rfl rfl rfl ?_ ?_
   ·refine Ym rfl rfl ?_
    exact Qn rfl
   refine Xg rfl rfl rfl rfl ?_ ?_
   ·exact Qc rfl rfl (Qn rfl)
   refine Xg rfl rfl rfl rfl ?_ ?_
   ·exact Qv rfl rfl (Qn rfl)
   refine Xg rfl rfl rfl rfl ?_ ?_
   ·exact Qj (o2 := 11) rfl rfl rfl (Qn rfl)
   refine Xg rfl rfl rfl rfl ?_ ?_
   ·refine Qo rfl rfl (by rfl) ?_
    exact Qn rfl
   exact AllF.nil
  ·refine Xb rfl rfl rfl (by rfl) rfl ?_
   refine WpL.nil ⟨rfl, rfl, ?_⟩
   apply GoR.nil [⟨6, 3, _, [0, 1, 2, 3, 4, 5], false⟩] (.inl ⟨_, by repeat' constructor⟩) rfl rfl
   ·refine AllF.cons rfl rfl rfl rfl ?_ ?_
    ·exact Qe rfl rfl (Qn rfl)
    exact AllF.nil
   ·refine Qi ?_
    apply RetQ.mk
    ·exact (Zk rfl rfl (by rfl) rfl)
    ·exact ⟨.inl ⟨h0, rfl⟩, rfl⟩
    ·exact Take.ent' (by repeat' constructor)
 ·refine Wp.skip (Qb (Qa (Qc rfl rfl (Qv rfl rfl (Qj (o2 := 0) rfl rfl rfl ?_)))))
  refine QA (vs := [_, _, _, _]) rfl rfl rfl (by rfl) ?_
  refine Xb rfl rfl rfl (by rfl) rfl ?_
  refine Qe rfl rfl (WpL.nil (Qi ?_))
  apply RetQ.mk
  ·exact (Zk rfl rfl (by rfl) rfl)
  ·exact ⟨.inr ⟨Classical.not_not.1 h0, rfl⟩, rfl⟩
  ·exact Take.ent' (by repeat' constructor)

end Go.Proofs.YtggamdlpiejbiaaGreat
namespace Go.Proofs.YtggamdlpiejbiaaGreat
open Go.RowKit Go.Shelf


theorem u8_lt (b : UInt8) : (b.toNat : Int) ≤ 255 := by have := b.toNat_lt; omega
def RInv (ch : Int) (k m : Nat) (s : RS) : Prop := (s.one.length : Int) < ch ∧ m + s.row.length ≤ k ∧ 0 ≤ s.rows ∧ s.rows ≤ k
theorem YU (K : Int) : 1 ≤ QO K ∧ QO K ≤ 3 := by unfold QO; split <;> omega
theorem sampleS_inv {ch : Int} (h : 1 ≤ ch) (one row : List Int) (x : Int) (h1 : (one.length : Int) < ch) : ((XB ch one row x).1.length : Int) < ch ∧ (XB ch one row x).2.length ≤ row.length + 1 := by
  unfold XB
  split
  · simp; omega
  · rename_i h2; simp at h2 ⊢; omega
theorem endsR_inv {ch : Int} (h : 1 ≤ ch) {k m : Nat} {s : RS} (hs : RInv ch k m s) : RInv ch (k + 1) m (YI ch s) := by
  obtain ⟨h1, h2, h3, h4⟩ := hs
  unfold YI
  split
  · exact ⟨h1, by omega, h3, by omega⟩
  · have := sampleS_inv h s.one s.row s.n h1
    exact ⟨this.1, by simp only; omega, h3, by simp only; omega⟩
theorem RInv.up {ch : Int} {k m : Nat} {s : RS} (hs : RInv ch k m s) : RInv ch (k + 1) m s := ⟨hs.1, by have := hs.2.1; omega, hs.2.2.1, by have := hs.2.2.2; omega⟩
theorem stepR_inv {K M c : Int} {k m : Nat} {s : RS} (hs : RInv (QO K) k m s) : RInv (QO K) (k + 1) m (Xz K M s c).1 := by
  have hch := YU K
  unfold Xz bitR Z1
  repeat' split
  all_goals first | exact hs.up | exact endsR_inv hch.1 hs | skip
  have := sampleS_inv hch.1 s.one s.row (c - 48) hs.1
  obtain ⟨h1, h2, h3, h4⟩ := hs
  exact ⟨this.1, by simp only [Yr]; omega, h3, by simp only [Yr]; omega⟩
theorem fullR_inv {ch W H : Int} {k m : Nat} {s : RS} (_hch : 1 ≤ ch) (hs : RInv ch (k + 1) m s) (hr : s.rows ≤ k) : RInv ch (k + 1) (m + (Xv W H s).2.length) (Xv W H s).1 := by
  obtain ⟨h1, h2, h3, h4⟩ := hs
  unfold Xv
  split
  · exact ⟨h1, by simp; omega, h3, h4⟩
  · exact ⟨h1, by simp; omega, by simp only; omega, by simp only; omega⟩
theorem putR_inv {K W H M c : Int} {k m : Nat} {s : RS} (hs : RInv (QO K) k m s) : RInv (QO K) (k + 1) (m + (XL K W H M s c).2.length) (XL K W H M s c).1 := by
  have h := stepR_inv (M := M) (c := c) hs
  have hk := (Z7 K M s c).1
  unfold XL
  split
  · exact hs.up
  · split
    · exact h
    · exact fullR_inv (YU K).1 h (by rw [hk]; exact hs.2.2.2)
theorem putR_last {K W H M c : Int} {s : RS} (hs : s.last = 0) : (XL K W H M s c).1.last = 0 ∨ (XL K W H M s c).1.last = 1 ∨ (XL K W H M s c).1.last = 2 := by
  have h := (Z7 K M s c).2.1
  unfold XL
  split
  · exact .inl hs
  · split
    · exact .inr (.inr rfl)
    · unfold Xv
      split
      · exact .inl (h.trans hs)
      · simp only
        split
        · exact .inr (.inl rfl)
        · exact .inl (h.trans hs)
theorem endR_out {K W H : Int} {k m : Nat} {s : RS} (hs : RInv (QO K) k m s) : m + (endR K W H s).2.length ≤ k + 1 := by
  have h := endsR_inv (YU K).1 hs
  have hk := (Z0 (QO K) s).1
  have h2 := fullR_inv (W := W) (H := H) (YU K).1 h (by rw [hk]; exact hs.2.2.2)
  have h3 := h2.2.1
  have h4 := hs.2.1
  unfold endR
  split
  · simp; omega
  · split
    · simp only; omega
    · omega
def Yi (K W H M : Int) : List Int → Int → RS → List Int → List Int × Int × Int
  | [], i, s, acc => if (endR K W H s).1.last = 2 then ([], 0, (endR K W H s).1.e) else (acc ++ (endR K W H s).2, i, 0)
  | c :: bs, i, s, acc => if (XL K W H M s c).1.last = 1 then (acc ++ (XL K W H M s c).2, i + 1, 0) else if (XL K W H M s c).1.last = 2 then ([], 0, (XL K W H M s c).1.e) else Yi K W H M bs (i + 1) (XL K W H M s c).1 (acc ++ (XL K W H M s c).2)
def s0R : RS := ⟨-1, [], [], 0, 0, 0⟩
def Zo (K W H M : Int) (bs : List Int) : List Int × Int × Int := if Y4 K W H M then Yi K W H M bs 0 s0R [] else ([], 0, 1)
structure RdX where
  (k : Nat) (n : Int) (one row : List Int) (rows last e : Int) (acc : List Int) (a1 : Option Addr) (c1 : Nat) (a2 : Option Addr) (c2 : Nat) (a3 : Option Addr) (c3 : Nat)

theorem Read_spec (s : ByteArray) (hs : s.size ≤ 900000000000) (K W H M : Int) : Fn Tryz.prog 78 #[.string s, .agg #[.int .i64 K, .int .i64 W, .int .i64 H, .int .i64 M]] [] (fun v l => ∃ out i x a c, (out, i, x) = Zo K W H M (QW s) ∧ v = .tuple #[.slice a out.length c, .int .i64 i, .int .i64 x] ∧ l = [QL 92 1 a c (out).length (XA out)]) := by
 refine Ql (vs := [.string s, .agg #[.int .i64 K, .int .i64 W, .int .i64 H, .int .i64 M]]) Tryz.func78 rfl Tryz.ntmps78 rfl (Qb (Qa (QV rfl rfl rfl ?_)))
 intro g1
 refine Qe rfl rfl (Qe rfl rfl (Qe rfl rfl (WpL.nil (Qb (Qa ?_)))))
 refine QA (vs := [_, _, _, _]) rfl rfl rfl (by rfl) ?_
 refine Qh rfl rfl (by repeat' constructor) (New_spec _ _ _ _) ?_
 intro v0 m0 hN0
 rcases hN0 with ⟨hP, g, rfl, rfl⟩ | ⟨hP, rfl, rfl⟩
 ·simp only [Qr]
  refine Qc rfl rfl (QD rfl rfl rfl (QD rfl rfl rfl (Qe rfl rfl (Qe rfl rfl (WpL.nil (Qb (Qb (Qa (Qc rfl rfl (Xc rfl rfl rfl (WpL.nil (Qz rfl (by decide) ?_))))))))))))
  refine Wp.skip (Qb (Qa (Qe rfl rfl (WpL.nil (Qb (Qb (Qa (Qc rfl rfl (s_lens rfl Tryz.underlying9 rfl (Qc rfl rfl (WpL.nil (Wp.block ?_))))))))))))
  refine Wp.loopD (σ := RdX) (fun x => x.k ≤ s.size ∧ RInv (QO K) x.k x.acc.length ⟨x.n, x.one, x.row, x.rows, x.last, x.e⟩ ∧ x.last = 0 ∧ Yi K W H M ((QW s).drop x.k) (x.k : Int) ⟨x.n, x.one, x.row, x.rows, x.last, x.e⟩ x.acc = Zo K W H M (QW s)) [4, 5, 6, 9, 10, 11, 12, 25, 26, 27, 28, 29, 30, 31, 32, 33, 34, 35, 36, 37, 38, 39, 40, 41, 42, 43, 44, 45, 46, 47, 48, 49] (fun x => [(25, .int .i64 (x.k : Int)), (9, .slice x.a3 x.acc.length x.c3)]) (fun x => [QB g [.int .i64 K, .int .i64 W, .int .i64 H, .int .i64 M, stpOf K, .int .i64 x.n, .slice x.a1 x.one.length x.c1, .slice x.a2 x.row.length x.c2, .int .i64 x.rows, .int .i64 x.last, .int .i64 x.e] 186, QL 3 1 x.a1 x.c1 x.one.length (QZ x.one), QL 92 1 x.a2 x.c2 x.row.length (XA x.row), QL 92 1 x.a3 x.c3 x.acc.length (XA x.acc)]) (fun x => s.size - x.k) ⟨0, -1, [], [], 0, 0, 0, [], none, 0, none, 0, none, 0⟩ ?_ (by repeat (first | exact FrLe.nil | refine FrLe.cons rfl ?_)) ?_ ?_
  ·exact ⟨Nat.zero_le _, ⟨by simp; have := YU K; omega, by simp, by simp, by simp⟩, rfl, (if_pos hP).symm⟩
  ·exact (Ent.own_nil (T := 92) (s := 1) (Ent.refl _)).trans (Take.ent' (by repeat' constructor))
  ·rintro ⟨k, n, one, row, rows, last, e, acc, a1, c1, a2, c2, a3, c3⟩ ⟨hk, hinv, hl, hR⟩
   dsimp only at hk hinv hl hR ⊢
   have hch := YU K
   have hin := hinv
   obtain ⟨hi1, hi2, hi3, hi4⟩ := hin
   have hP3 := hP.1
   unfold Xt at hP3
   dsimp only at hi1 hi2 hi3 hi4
   refine Qb (Qa (Q4 rfl rfl rfl (WpL.nil (Qb (Qk rfl (fun h2 => ?_) (fun h2 => ?_))))))
   ·have hlt : k < s.size := by omega
    refine Wp.skip (Qb (Wp.block ?_))
    refine Qb (Qa (Qc rfl rfl (Qe rfl rfl (WpL.nil (Qb (Qa (Qc rfl rfl (Qc rfl rfl (Qc rfl rfl (s_ixs rfl Tryz.underlying9 rfl rfl (by omega) (by simp; omega) ?_))))))))))
    refine Qh rfl rfl (by repeat' constructor) (Put_spec _ _ _ _ _ _ _ _ _ _ _ _ _ _ _ _ _ rfl (by omega) (by omega) (by omega) (by omega) (u8_lt _) (by omega) (by omega) (by omega) (by omega)) ?_
    rintro _ _ ⟨n2, one2, row2, rows2, last2, e2, out, a1, c1, a2, c2, a3, c3, hs2, rfl, rfl, hnl2⟩
    simp only [Qr]
    have hinv2 := putR_inv (M := M) (W := W) (H := H) (c := ((s[k]'hlt).toNat : Int)) hinv
    have hs3 : (({ n := n2, one := one2, row := row2, rows := rows2, last := last2, e := e2 } : RS), out) = XL K W H M ⟨n, one, row, rows, last, e⟩ ((s[k]'hlt).toNat : Int) := hs2
    rw [← hs3] at hinv2
    rw [bsOf_drop hlt, Yi, ← hs3] at hR
    dsimp only at hR
    have hol := hinv2.2.1
    dsimp only at hol
    have hla := putR_last (K := K) (W := W) (H := H) (M := M) (c := ((s[k]'hlt).toNat : Int)) (s := ⟨n, one, row, rows, last, e⟩) hl
    rw [← hs3] at hla
    dsimp only at hla
    refine Qc rfl rfl (QD rfl rfl rfl (QD rfl rfl rfl (Qe rfl rfl (Qe rfl rfl (WpL.nil (Qb (Qa (Qc rfl rfl (Qc rfl rfl (s_appo rfl rfl rfl (by repeat' constructor) (by rfl) (by rfl) (pxs_one _) (by omega) (by omega) ?_))))))))))
    intro a38 c38
    rw [pxs_app, show acc.length + out.length = (acc ++ out).length from by simp]
    refine Qe rfl rfl (WpL.nil (Qb (Qa (Qc rfl rfl (WpL.nil (Wp.block ?_))))))
    refine Qb (Qa (QK rfl rfl rfl (Qe rfl rfl (WpL.nil (Qk rfl (fun h3 => ?_) (fun h3 => ?_))))))
    ·refine Qb (Qa (Qc rfl rfl (Qc rfl rfl (QE rfl rfl rfl (Qt (by omega) (by omega)) ?_))))
     refine Qe rfl rfl (Qe rfl rfl (Qe rfl rfl (WpL.nil (Qi ?_))))
     apply RetQ.mk
     ·exact (Res.three rfl rfl rfl rfl)
     ·exact ⟨_, _, _, a38, c38, (if_pos h3).symm.trans hR, rfl, rfl⟩
     ·exact Take.ent' (by repeat' constructor)
    ·refine Qb (Qa (QK rfl rfl rfl (Qe rfl rfl (WpL.nil (Qk rfl (fun h4 => ?_) (fun h4 => ?_))))))
     ·refine Qb (Qa (Qc rfl rfl (Qh rfl rfl (by repeat' constructor) (Error_spec _ _ _ _ _ _ _ _ _ _ _ _ _ _ _ _) ?_)))
      rintro _ _ ⟨rfl, rfl⟩
      simp only [Qr]
      refine Qe rfl rfl (Qe rfl rfl (Qe rfl rfl (WpL.nil (Qi ?_))))
      apply RetQ.mk
      ·exact (Res.three rfl rfl rfl rfl)
      ·exact ⟨[], _, _, none, 0, ((if_neg h3).trans (if_pos h4)).symm.trans hR, rfl, rfl⟩
      ·exact Ent.own_nil (Ent.nil _)
     ·refine Wp.skip (Qa (QE rfl rfl rfl (Qt (by omega) (by omega)) ?_))
      refine Qc rfl rfl (WpL.nil ?_)
      have hR2 := (((if_neg h3).trans (if_neg h4)).symm.trans hR)
      refine Qw (⟨k + 1, n2, one2, row2, rows2, last2, e2, acc ++ out, a1, c1, a2, c2, a38, c38⟩ : RdX) ?_ ?_ (by ((repeat (first | exact Top.refl | refine Top.push rfl ?_)); done)) (by repeat (first | exact FrLe.nil | refine FrLe.cons rfl ?_)) ?_
      ·exact ⟨by simp only; omega, by simp only [List.length_append]; exact hinv2, by simp only; omega, hR2⟩
      ·simp only; omega
      ·exact Take.ent' (by repeat' constructor)
   ·refine QJ (Qb (Qa (Qc rfl rfl (Qh rfl rfl (by repeat' constructor) (End_spec _ _ _ _ _ _ _ _ _ _ _ _ _ _ _ _ (by omega) (by omega) (by omega) (by omega) (by omega)) ?_))))
    rintro _ _ ⟨n2, one2, row2, rows2, last2, e2, out, a1, c1, a2, c2, a3, c3, hs2, rfl, rfl, hnl2⟩
    simp only [Qr]
    have hol := endR_out (W := W) (H := H) hinv
    rw [← hs2] at hol
    dsimp only at hol
    rw [List.drop_eq_nil_of_le (by rw [Xj]; omega), Yi, ← hs2] at hR
    dsimp only at hR
    refine Qc rfl rfl (QD rfl rfl rfl (QD rfl rfl rfl (Qe rfl rfl (Qe rfl rfl (WpL.nil (Qb (Qb (Qa (Qc rfl rfl (QK rfl rfl rfl (WpL.nil (Qk rfl (fun h5 => ?_) (fun h5 => ?_)))))))))))))
    ·refine Qb (Qa (Qc rfl rfl (Qh rfl rfl (by repeat' constructor) (Error_spec _ _ _ _ _ _ _ _ _ _ _ _ _ _ _ _) ?_)))
     rintro _ _ ⟨rfl, rfl⟩
     simp only [Qr]
     refine Qe rfl rfl (Qe rfl rfl (Qe rfl rfl (WpL.nil (Qi ?_))))
     apply RetQ.mk
     ·exact (Res.three rfl rfl rfl rfl)
     ·exact ⟨[], _, _, none, 0, (if_pos h5).symm.trans hR, rfl, rfl⟩
     ·exact Ent.own_nil (Ent.nil _)
    ·refine Wp.skip (Qb (Qa (Qc rfl rfl (Qc rfl rfl (s_appo rfl rfl rfl (by repeat' constructor) (by rfl) (by rfl) (pxs_one _) (by omega) (by omega) ?_)))))
     intro a61 c61
     rw [pxs_app, show acc.length + out.length = (acc ++ out).length from by simp]
     refine Qc rfl rfl (s_lens rfl Tryz.underlying9 rfl (Qe rfl rfl (Qe rfl rfl (Qe rfl rfl (WpL.nil (Qi ?_))))))
     apply RetQ.mk
     ·exact (Res.three rfl rfl rfl rfl)
     ·exact ⟨_, _, _, a61, c61, ((if_neg h5).symm.trans hR).trans rfl, by rw [show k = s.size by omega], rfl⟩
     ·exact Take.ent' (by repeat' constructor)
 ·simp only [Qr]
  refine Qc rfl rfl (QD rfl rfl rfl (QD rfl rfl rfl (Qe rfl rfl (Qe rfl rfl (WpL.nil (Qb (Qb (Qa (Qc rfl rfl (Xc rfl rfl rfl (WpL.nil (QM rfl (by decide) ?_))))))))))))
  refine Qb (Qa (Qc rfl rfl (Qe rfl rfl (Qe rfl rfl (Qe rfl rfl (WpL.nil (Qi ?_)))))))
  apply RetQ.mk
  ·exact (Res.three rfl rfl rfl rfl)
  ·exact ⟨[], _, _, none, 0, (if_neg hP).symm, rfl, rfl⟩
  ·exact Ent.own_nil (Ent.nil _)

end Go.Proofs.YtggamdlpiejbiaaGreat
namespace Go.Proofs.YtggamdlpiejbiaaGreat
open Go.RowKit Go.Shelf

section
variable {K W H M n rows last e x c : Int} {one row : List Int}
theorem fullR_no {s : RS} (hr : (s.row.length : Int) < W) : Xv W H s = (s, []) := if_pos hr
theorem putQ_step {s s' : RS} (h : s.last = 0) (he : Xz K M s c = (s', 0)) : XL K W H M s c = Xv W H s' := by
  unfold XL; rw [if_neg (by omega), he, if_neg (by simp)]
end

section
variable {K W H M n rows last e x c : Int} {one row : List Int}
theorem stp_bn (hl : last = 0) (hr : (row.length : Int) < W) (hn : n = -1) (hb : Q3 c = true) : XL K W H M ⟨n, one, row, rows, last, e⟩ c = (⟨n, one, row, rows, last, e⟩, []) := by
  have he : YI (QO K) ⟨n, one, row, rows, last, e⟩ = ⟨n, one, row, rows, last, e⟩ := if_pos hn
  rw [putQ_step (s' := ⟨n, one, row, rows, last, e⟩) hl (by unfold Xz; split; exact if_pos hb; unfold Z1; rw [if_pos hb, he])]
  exact fullR_no hr
theorem stp_bs (hl : last = 0) (hn : n ≠ -1) (hK : K = 1 → n = -1) (hb : Q3 c = true) : XL K W H M ⟨n, one, row, rows, last, e⟩ c = Xv W H (Yr (QO K) ⟨-1, one, row, rows, last, e⟩ n) := by
  have he : YI (QO K) ⟨n, one, row, rows, last, e⟩ = Yr (QO K) ⟨-1, one, row, rows, last, e⟩ n := if_neg hn
  rw [putQ_step hl (by unfold Xz; rw [if_neg (fun h => hn (hK h))]; unfold Z1; rw [if_pos hb, he])]
theorem stp_b1 (hl : last = 0) (hK : K = 1) (hb : Q3 c = false) (h : c = 48 ∨ c = 49) : XL K W H M ⟨n, one, row, rows, last, e⟩ c = Xv W H (Yr (QO K) ⟨n, one, row, rows, last, e⟩ (c - 48)) := by
  rw [putQ_step hl (by unfold Xz; rw [if_pos hK]; unfold bitR; rw [if_neg (by rw [hb]; decide), if_neg (by omega)])]
theorem stp_n0 (hl : last = 0) (hr : (row.length : Int) < W) (hK : K ≠ 1) (hb : Q3 c = false) (h : (Xf (max n 0) c M).2 ≠ 4) (h0 : (Xf (max n 0) c M).2 = 0) : XL K W H M ⟨n, one, row, rows, last, e⟩ c = (⟨(Xf (max n 0) c M).1, one, row, rows, last, e⟩, []) := by
  rw [putQ_step (s' := ⟨(Xf (max n 0) c M).1, one, row, rows, last, e⟩) hl (by unfold Xz; rw [if_neg hK]; unfold Z1; rw [if_neg (by rw [hb]; decide), if_neg h, if_pos h0])]
  exact fullR_no hr
end

theorem rbits_spec (K : Int) : Fn Tryz.prog 101 #[.int .i64 K] [] (fun v l => v = .bool (decide (K = 1 ∨ K = 4)) ∧ l = []) := by
 refine Ql (vs := [.int .i64 K]) Tryz.func101 rfl Tryz.ntmps101 rfl (Qb (Qa (Qe rfl rfl (WpL.nil (Qb (Qa (Qc rfl rfl (QK rfl rfl rfl (Qc rfl rfl (QG rfl rfl rfl (fun hg1 => ?_) (fun hg1 => ?_)))))))))))
 ·have hg1 := of_decide_eq_false hg1
  refine Qc rfl rfl (Qf rfl rfl (QK rfl rfl rfl (Qq rfl rfl rfl (Qe rfl rfl (WpL.nil (Qi ?_))))))
  apply RetQ.mk
  ·exact (Res.one rfl rfl)
  ·exact ⟨congrArg Value.bool (by exact dd (by omega)), rfl⟩
  ·exact Ent.refl _
 ·have hg1 := of_decide_eq_true hg1
  refine Qd rfl rfl rfl (by decide) (Qs rfl rfl rfl (Qe rfl rfl (WpL.nil (Qi ?_))))
  apply RetQ.mk
  ·exact (Res.one rfl rfl)
  ·exact ⟨congrArg Value.bool (by exact dt (by omega)), rfl⟩
  ·exact Ent.refl _

theorem rMay06_spec (K W H M : Int) : Fn Tryz.prog 117 #[.agg #[.int .i64 K, .int .i64 W, .int .i64 H, .int .i64 M]] [] (fun v l => v = .bool (decide (Xt K W H M)) ∧ l = []) := by
 refine Ql (vs := [.agg #[.int .i64 K, .int .i64 W, .int .i64 H, .int .i64 M]]) Tryz.func117 rfl Tryz.ntmps117 rfl (Qb (Qa (QV rfl rfl rfl ?_)))
 intro g1
 refine Qe rfl rfl (WpL.nil (Qb (Qb (Qa (Qj (o2 := 0) rfl rfl rfl (Qo rfl rfl (by rfl) ?_))))))
 refine Q4 rfl rfl rfl (Qc rfl rfl (QG rfl rfl rfl (fun hg1 => ?_) (fun hg1 => ?_)))
 ·have hg1 := of_decide_eq_false hg1
  refine Qj (o2 := 0) rfl rfl rfl (Qf rfl rfl (Qo rfl rfl (by rfl) ?_))
  refine Qf rfl rfl (Y5 rfl rfl rfl (Qq rfl rfl rfl (Qc rfl rfl (QG rfl rfl rfl (fun hg2 => ?_) (fun hg2 => ?_)))))
  ·have hg2 := of_decide_eq_false hg2
   refine Qj (o2 := 1) rfl rfl rfl (Qf rfl rfl (Qo rfl rfl (by rfl) ?_))
   refine Qf rfl rfl (Q4 rfl rfl rfl (Qq rfl rfl rfl (Qc rfl rfl (QG rfl rfl rfl (fun hg3 => ?_) (fun hg3 => ?_)))))
   ·have hg3 := of_decide_eq_false hg3
    refine Qj (o2 := 1) rfl rfl rfl (Qf rfl rfl (Qo rfl rfl (by rfl) ?_))
    refine Qf rfl rfl (Y5 rfl rfl rfl (Qq rfl rfl rfl (Qc rfl rfl (QG rfl rfl rfl (fun hg4 => ?_) (fun hg4 => ?_)))))
    ·have hg4 := of_decide_eq_false hg4
     refine Qj (o2 := 2) rfl rfl rfl (Qf rfl rfl (Qo rfl rfl (by rfl) ?_))
     refine Qf rfl rfl (Q4 rfl rfl rfl (Qq rfl rfl rfl (Qc rfl rfl (QG rfl rfl rfl (fun hg5 => ?_) (fun hg5 => ?_)))))
     ·have hg5 := of_decide_eq_false hg5
      refine Qj (o2 := 2) rfl rfl rfl (Qf rfl rfl (Qo rfl rfl (by rfl) ?_))
      refine Qf rfl rfl (Y5 rfl rfl rfl (Qq rfl rfl rfl (Qc rfl rfl (QG rfl rfl rfl (fun hg6 => ?_) (fun hg6 => ?_)))))
      ·have hg6 := of_decide_eq_false hg6
       refine Qj (o2 := 3) rfl rfl rfl (Qf rfl rfl (Qo rfl rfl (by rfl) ?_))
       refine Qf rfl rfl (Q4 rfl rfl rfl (Qq rfl rfl rfl (Qc rfl rfl (QG rfl rfl rfl (fun hg7 => ?_) (fun hg7 => ?_)))))
       ·have hg7 := of_decide_eq_false hg7
        refine Qj (o2 := 3) rfl rfl rfl (Qf rfl rfl (Qo rfl rfl (by rfl) ?_))
        refine Qf rfl rfl (Y5 rfl rfl rfl (Qq rfl rfl rfl (WpL.nil (Qk rfl (fun h0 => ?_) (fun h0 => ?_)))))
        ·refine Qb (Qa (Qe rfl rfl (WpL.nil (Qi ?_))))
         apply RetQ.mk
         ·exact (Res.one rfl rfl)
         ·exact ⟨congrArg Value.bool (by exact df (by unfold Xt; omega)), rfl⟩
         ·exact Ent.nil _
        ·refine Wp.skip (Qb (Qa (Qj (o2 := 3) rfl rfl rfl (Qo rfl rfl (by rfl) ?_))))
         refine QK rfl rfl rfl (Qc rfl rfl (QG rfl rfl rfl (fun hg8 => ?_) (fun hg8 => ?_)))
         ·have hg8 := of_decide_eq_false hg8
          refine Qj (o2 := 0) rfl rfl rfl (Qf rfl rfl (Qo rfl rfl (by rfl) ?_))
          refine Qf rfl rfl (Qh rfl rfl (by repeat' constructor) (rbits_spec _) ?_)
          rintro _ _ ⟨rfl, rfl⟩
          simp only [Qr]
          refine Qf rfl rfl (XH rfl rfl (Qq rfl rfl rfl (Qe rfl rfl (WpL.nil (Qi ?_)))))
          apply RetQ.mk
          ·exact (Res.one rfl rfl)
          ·exact ⟨congrArg Value.bool (by exact dd (by unfold Xt; omega)), rfl⟩
          ·exact Ent.nil _
         ·have hg8 := of_decide_eq_true hg8
          refine Qd rfl rfl rfl (by decide) (Qd rfl rfl rfl (by decide) (Qd rfl rfl rfl (by decide) (Qs rfl rfl rfl (Qe rfl rfl (WpL.nil (Qi ?_))))))
          apply RetQ.mk
          ·exact (Res.one rfl rfl)
          ·exact ⟨congrArg Value.bool (by exact dt (by unfold Xt; omega)), rfl⟩
          ·exact Ent.nil _
       ·have hg7 := of_decide_eq_true hg7
        refine Qd rfl rfl rfl (by decide) (Qd rfl rfl rfl (by decide) (Qs rfl rfl rfl (WpL.nil (Xa rfl (Qb (Qa (Qe rfl rfl (WpL.nil (Qi ?_)))))))))
        apply RetQ.mk
        ·exact (Res.one rfl rfl)
        ·exact ⟨congrArg Value.bool (by exact df (by unfold Xt; omega)), rfl⟩
        ·exact Ent.nil _
      ·have hg6 := of_decide_eq_true hg6
       refine Qd rfl rfl rfl (by decide) (Qd rfl rfl rfl (by decide) (Qs rfl rfl rfl (Qc rfl rfl (Qd rfl rfl rfl (by decide) (Qd rfl rfl rfl (by decide) (Qd rfl rfl rfl (by decide) (Qs rfl rfl rfl (WpL.nil (Xa rfl (Qb (Qa (Qe rfl rfl ?_))))))))))))
       refine WpL.nil (Qi ?_)
       apply RetQ.mk
       ·exact (Res.one rfl rfl)
       ·exact ⟨congrArg Value.bool (by exact df (by unfold Xt; omega)), rfl⟩
       ·exact Ent.nil _
     ·have hg5 := of_decide_eq_true hg5
      refine Qd rfl rfl rfl (by decide) (Qd rfl rfl rfl (by decide) (Qs rfl rfl rfl (Qc rfl rfl (Qd rfl rfl rfl (by decide) (Qd rfl rfl rfl (by decide) (Qd rfl rfl rfl (by decide) (Qs rfl rfl rfl (Qc rfl rfl (Qd rfl rfl rfl (by decide) (Qd rfl rfl rfl (by decide) (Qd rfl rfl rfl (by decide) (Qs rfl rfl rfl ?_))))))))))))
      refine WpL.nil (Xa rfl (Qb (Qa (Qe rfl rfl (WpL.nil (Qi ?_))))))
      apply RetQ.mk
      ·exact (Res.one rfl rfl)
      ·exact ⟨congrArg Value.bool (by exact df (by unfold Xt; omega)), rfl⟩
      ·exact Ent.nil _
    ·have hg4 := of_decide_eq_true hg4
     refine Qd rfl rfl rfl (by decide) (Qd rfl rfl rfl (by decide) (Qs rfl rfl rfl (Qc rfl rfl (Qd rfl rfl rfl (by decide) (Qd rfl rfl rfl (by decide) (Qd rfl rfl rfl (by decide) (Qs rfl rfl rfl (Qc rfl rfl (Qd rfl rfl rfl (by decide) (Qd rfl rfl rfl (by decide) (Qd rfl rfl rfl (by decide) (Qs rfl rfl rfl ?_))))))))))))
     refine Qc rfl rfl (Qd rfl rfl rfl (by decide) (Qd rfl rfl rfl (by decide) (Qd rfl rfl rfl (by decide) (Qs rfl rfl rfl (WpL.nil (Xa rfl (Qb (Qa (Qe rfl rfl (WpL.nil (Qi ?_)))))))))))
     apply RetQ.mk
     ·exact (Res.one rfl rfl)
     ·exact ⟨congrArg Value.bool (by exact df (by unfold Xt; omega)), rfl⟩
     ·exact Ent.nil _
   ·have hg3 := of_decide_eq_true hg3
    refine Qd rfl rfl rfl (by decide) (Qd rfl rfl rfl (by decide) (Qs rfl rfl rfl (Qc rfl rfl (Qd rfl rfl rfl (by decide) (Qd rfl rfl rfl (by decide) (Qd rfl rfl rfl (by decide) (Qs rfl rfl rfl (Qc rfl rfl (Qd rfl rfl rfl (by decide) (Qd rfl rfl rfl (by decide) (Qd rfl rfl rfl (by decide) (Qs rfl rfl rfl ?_))))))))))))
    refine Qc rfl rfl (Qd rfl rfl rfl (by decide) (Qd rfl rfl rfl (by decide) (Qd rfl rfl rfl (by decide) (Qs rfl rfl rfl (Qc rfl rfl (Qd rfl rfl rfl (by decide) (Qd rfl rfl rfl (by decide) (Qd rfl rfl rfl (by decide) (Qs rfl rfl rfl (WpL.nil (Xa rfl (Qb ?_))))))))))))
    refine Qa (Qe rfl rfl (WpL.nil (Qi ?_)))
    apply RetQ.mk
    ·exact (Res.one rfl rfl)
    ·exact ⟨congrArg Value.bool (by exact df (by unfold Xt; omega)), rfl⟩
    ·exact Ent.nil _
  ·have hg2 := of_decide_eq_true hg2
   refine Qd rfl rfl rfl (by decide) (Qd rfl rfl rfl (by decide) (Qs rfl rfl rfl (Qc rfl rfl (Qd rfl rfl rfl (by decide) (Qd rfl rfl rfl (by decide) (Qd rfl rfl rfl (by decide) (Qs rfl rfl rfl (Qc rfl rfl (Qd rfl rfl rfl (by decide) (Qd rfl rfl rfl (by decide) (Qd rfl rfl rfl (by decide) (Qs rfl rfl rfl ?_))))))))))))
   refine Qc rfl rfl (Qd rfl rfl rfl (by decide) (Qd rfl rfl rfl (by decide) (Qd rfl rfl rfl (by decide) (Qs rfl rfl rfl (Qc rfl rfl (Qd rfl rfl rfl (by decide) (Qd rfl rfl rfl (by decide) (Qd rfl rfl rfl (by decide) (Qs rfl rfl rfl (Qc rfl rfl (Qd rfl rfl rfl (by decide) (Qd rfl rfl rfl (by decide) ?_))))))))))))
   refine Qd rfl rfl rfl (by decide) (Qs rfl rfl rfl (WpL.nil (Xa rfl (Qb (Qa (Qe rfl rfl (WpL.nil (Qi ?_))))))))
   apply RetQ.mk
   ·exact (Res.one rfl rfl)
   ·exact ⟨congrArg Value.bool (by exact df (by unfold Xt; omega)), rfl⟩
   ·exact Ent.nil _
 ·have hg1 := of_decide_eq_true hg1
  refine Qd rfl rfl rfl (by decide) (Qd rfl rfl rfl (by decide) (Qs rfl rfl rfl (Qc rfl rfl (Qd rfl rfl rfl (by decide) (Qd rfl rfl rfl (by decide) (Qd rfl rfl rfl (by decide) (Qs rfl rfl rfl (Qc rfl rfl (Qd rfl rfl rfl (by decide) (Qd rfl rfl rfl (by decide) (Qd rfl rfl rfl (by decide) (Qs rfl rfl rfl ?_))))))))))))
  refine Qc rfl rfl (Qd rfl rfl rfl (by decide) (Qd rfl rfl rfl (by decide) (Qd rfl rfl rfl (by decide) (Qs rfl rfl rfl (Qc rfl rfl (Qd rfl rfl rfl (by decide) (Qd rfl rfl rfl (by decide) (Qd rfl rfl rfl (by decide) (Qs rfl rfl rfl (Qc rfl rfl (Qd rfl rfl rfl (by decide) (Qd rfl rfl rfl (by decide) ?_))))))))))))
  refine Qd rfl rfl rfl (by decide) (Qs rfl rfl rfl (Qc rfl rfl (Qd rfl rfl rfl (by decide) (Qd rfl rfl rfl (by decide) (Qd rfl rfl rfl (by decide) (Qs rfl rfl rfl (WpL.nil (Xa rfl (Qb (Qa (Qe rfl rfl (WpL.nil ?_))))))))))))
  refine Qi ?_
  apply RetQ.mk
  ·exact (Res.one rfl rfl)
  ·exact ⟨congrArg Value.bool (by exact df (by unfold Xt; omega)), rfl⟩
  ·exact Ent.nil _

theorem rMay_spec (K W H M : Int) : Fn Tryz.prog 119 #[.agg #[.int .i64 K, .int .i64 W, .int .i64 H, .int .i64 M]] [] (fun v l => v = .bool (decide (Y4 K W H M)) ∧ l = []) := by
 refine Ql (vs := [.agg #[.int .i64 K, .int .i64 W, .int .i64 H, .int .i64 M]]) Tryz.func119 rfl Tryz.ntmps119 rfl (Qb (Qa (QV rfl rfl rfl ?_)))
 intro g1
 refine Qe rfl rfl (WpL.nil (Qb (Qa ?_)))
 refine QA (vs := [_, _, _, _]) rfl rfl rfl (by rfl) ?_
 refine Qh rfl rfl (by repeat' constructor) (rMay06_spec _ _ _ _) ?_
 rintro _ _ ⟨rfl, rfl⟩
 simp only [Qr]
 refine Qe rfl rfl (WpL.nil (Qb (Qa (Qc rfl rfl (Qc rfl rfl (QG rfl rfl rfl (fun hg1 => ?_) (fun hg1 => ?_)))))))
 ·have hg1 := of_decide_eq_true hg1
  refine Qj (o2 := 0) rfl rfl rfl (Qf rfl rfl (Qo rfl rfl (by rfl) ?_))
  refine Qf rfl rfl (Q4 rfl rfl rfl (Qs rfl rfl rfl (Qe rfl rfl (WpL.nil (Qi ?_)))))
  apply RetQ.mk
  ·exact (Res.one rfl rfl)
  ·exact ⟨congrArg Value.bool (by exact dd (by simp only [Y4, Xt] at *; omega)), rfl⟩
  ·exact Ent.nil _
 ·have hg1 := of_decide_eq_false hg1
  refine Qd rfl rfl rfl (by decide) (Qd rfl rfl rfl (by decide) (Qq rfl rfl rfl (Qe rfl rfl (WpL.nil (Qi ?_)))))
  apply RetQ.mk
  ·exact (Res.one rfl rfl)
  ·exact ⟨congrArg Value.bool (by exact df (by simp only [Y4, Xt] at *; omega)), rfl⟩
  ·exact Ent.nil _

end Go.Proofs.YtggamdlpiejbiaaGreat
namespace Go.Proofs.YtggamdlpiejbiaaGreat
open Go.RowKit Go.Shelf


def QT (x m : Int) : Int := (if x < 0 then -(x + 1) else x) % m
theorem Yu {x m : Int} (h : 1 ≤ m) : 0 ≤ QT x m ∧ QT x m < m := ⟨Int.emod_nonneg _ (by omega), Int.emod_lt_of_pos _ (by omega)⟩
theorem Ye (x m : Int) (h0 : -9223372036854775808 ≤ x) (h1 : x < 9223372036854775808) (hm : 1 ≤ m) : Fn Tryz.prog 33 #[.int .i64 x, .int .i64 m] [] (fun v l => v = .int .i64 (QT x m) ∧ l = []) := by
 refine Ql (vs := [.int .i64 x, .int .i64 m]) Tryz.func33 rfl Tryz.ntmps33 rfl (Qb (Qa (Qe rfl rfl (WpL.nil (Qb (Qb (Qa (Qc rfl rfl (Q4 rfl rfl rfl (WpL.nil (Qk rfl (fun h0 => ?_) (fun h0 => ?_))))))))))))
 ·refine Qa (Qc rfl rfl (QE rfl rfl rfl (Qt (by omega) (by omega)) ?_))
  refine s_neg rfl rfl (Qt (by omega) (by omega)) ?_
  refine Qe rfl rfl (WpL.nil (Qb (Qa (Qc rfl rfl (Qc rfl rfl (YA rfl rfl rfl (by omega) (by omega) ?_))))))
  refine Qe rfl rfl (WpL.nil (Qi ?_))
  apply RetQ.mk
  ·exact (Res.one rfl rfl)
  ·exact ⟨by rw [QT, if_pos h0], rfl⟩
  ·exact Ent.refl _
 ·refine Wp.skip (Qb (Qa (Qc rfl rfl (Qc rfl rfl (YA rfl rfl rfl (by omega) (by omega) ?_)))))
  refine Qe rfl rfl (WpL.nil (Qi ?_))
  apply RetQ.mk
  ·exact (Res.one rfl rfl)
  ·exact ⟨by rw [QT, if_neg h0], rfl⟩
  ·exact Ent.refl _


end Go.Proofs.YtggamdlpiejbiaaGreat
