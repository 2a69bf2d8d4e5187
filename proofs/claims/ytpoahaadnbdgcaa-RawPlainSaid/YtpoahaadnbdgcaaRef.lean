/- Walks. -/
import Derived.Test.YtpoahaadnbdgcaaRdp
namespace Go.Proofs.Ytpoahaadnbdgcaa
open Go.RowKit Go.Shelf





section
variable {K W H M n rows last e x c : Int} {one row : List Int}
theorem refS1 {ch : Int} (h : (one.length : Int) + 1 ≠ ch) (hr : (row.length : Int) < W) : fullR W H (sampleR ch ⟨n, one, row, rows, last, e⟩ x) = (⟨n, one ++ [x], row, rows, last, e⟩, []) := by
  have e1 : sampleS ch one row x = (one ++ [x], row) := if_neg (by simp; omega)
  simp only [sampleR, e1, fullR]
  rw [if_pos hr]
theorem refS2 {ch : Int} (h : (one.length : Int) + 1 = ch) (hr : (row.length : Int) + 1 < W) : fullR W H (sampleR ch ⟨n, one, row, rows, last, e⟩ x) = (⟨n, [], row ++ [(packS (one ++ [x])).1], rows, last, e⟩, []) := by
  have e1 : sampleS ch one row x = ([], row ++ [(packS (one ++ [x])).1]) := if_pos (by simp; omega)
  simp only [sampleR, e1, fullR]
  rw [if_pos (by simp; omega)]
theorem refS3 {ch : Int} (h : (one.length : Int) + 1 = ch) (hr : ¬ (row.length : Int) + 1 < W) : fullR W H (sampleR ch ⟨n, one, row, rows, last, e⟩ x) = (⟨n, [], [], rows + 1, if rows + 1 = H then 1 else last, e⟩, row ++ [(packS (one ++ [x])).1]) := by
  have e1 : sampleS ch one row x = ([], row ++ [(packS (one ++ [x])).1]) := if_pos (by simp; omega)
  simp only [sampleR, e1, fullR]
  rw [if_neg (by simp; omega)]
theorem fullR_no {s : RS} (hr : (s.row.length : Int) < W) : fullR W H s = (s, []) := if_pos hr
theorem putQ0 (h : last ≠ 0) : putR K W H M ⟨n, one, row, rows, last, e⟩ c = (⟨n, one, row, rows, last, e⟩, []) := if_pos h
theorem putQ_step {s s' : RS} (h : s.last = 0) (he : stepR K M s c = (s', 0)) : putR K W H M s c = fullR W H s' := by
  unfold putR; rw [if_neg (by omega), he, if_neg (by simp)]
theorem putQ_bad {s s' : RS} {r : Int} (h : s.last = 0) (he : stepR K M s c = (s', r)) (hr : r ≠ 0) : putR K W H M s c = (wrongR s' r, []) := by
  unfold putR; rw [if_neg (by omega), he, if_pos hr]
end



def RGood (K W : Int) (s : RS) : Prop := -1 ≤ s.n ∧ (K = 1 → s.n = -1) ∧ (s.row.length : Int) < W
def endB (K W H : Int) (s : RS) : RS × List Int := if s.last ≠ 0 then (s, []) else fullR W H (endsR (chK K) s)
section
variable {K W H M n rows last e x c : Int} {one row : List Int}
theorem stp_bn (hl : last = 0) (hr : (row.length : Int) < W) (hn : n = -1) (hb : blankB c = true) : putR K W H M ⟨n, one, row, rows, last, e⟩ c = (⟨n, one, row, rows, last, e⟩, []) := by
  have he : endsR (chK K) ⟨n, one, row, rows, last, e⟩ = ⟨n, one, row, rows, last, e⟩ := if_pos hn
  rw [putQ_step (s' := ⟨n, one, row, rows, last, e⟩) hl (by unfold stepR; split; exact if_pos hb; unfold numR; rw [if_pos hb, he])]
  exact fullR_no hr
theorem stp_bs (hl : last = 0) (hn : n ≠ -1) (hK : K = 1 → n = -1) (hb : blankB c = true) : putR K W H M ⟨n, one, row, rows, last, e⟩ c = fullR W H (sampleR (chK K) ⟨-1, one, row, rows, last, e⟩ n) := by
  have he : endsR (chK K) ⟨n, one, row, rows, last, e⟩ = sampleR (chK K) ⟨-1, one, row, rows, last, e⟩ n := if_neg hn
  rw [putQ_step hl (by unfold stepR; rw [if_neg (fun h => hn (hK h))]; unfold numR; rw [if_pos hb, he])]
theorem stp_b3 (hl : last = 0) (hK : K = 1) (hb : blankB c = false) (h1 : c ≠ 48) (h2 : c ≠ 49) : putR K W H M ⟨n, one, row, rows, last, e⟩ c = (wrongR ⟨n, one, row, rows, last, e⟩ 3, []) := by
  rw [putQ_bad (s' := ⟨n, one, row, rows, last, e⟩) (r := 3) hl (by unfold stepR; rw [if_pos hK]; unfold bitR; rw [if_neg (by rw [hb]; decide), if_pos ⟨h1, h2⟩]) (by decide)]
theorem stp_b1 (hl : last = 0) (hK : K = 1) (hb : blankB c = false) (h : c = 48 ∨ c = 49) : putR K W H M ⟨n, one, row, rows, last, e⟩ c = fullR W H (sampleR (chK K) ⟨n, one, row, rows, last, e⟩ (c - 48)) := by
  rw [putQ_step hl (by unfold stepR; rw [if_pos hK]; unfold bitR; rw [if_neg (by rw [hb]; decide), if_neg (by omega)])]
theorem stp_n5 (hl : last = 0) (hK : K ≠ 1) (hb : blankB c = false) (h : (stepN (max n 0) c M).2 = 4) : putR K W H M ⟨n, one, row, rows, last, e⟩ c = (wrongR ⟨n, one, row, rows, last, e⟩ 5, []) := by
  rw [putQ_bad (s' := ⟨n, one, row, rows, last, e⟩) (r := 5) hl (by unfold stepR; rw [if_neg hK]; unfold numR; rw [if_neg (by rw [hb]; decide), if_pos h]) (by decide)]
theorem stp_ne (hl : last = 0) (hK : K ≠ 1) (hb : blankB c = false) (h : (stepN (max n 0) c M).2 ≠ 4) (h0 : (stepN (max n 0) c M).2 ≠ 0) : putR K W H M ⟨n, one, row, rows, last, e⟩ c = (wrongR ⟨n, one, row, rows, last, e⟩ (stepN (max n 0) c M).2, []) := by
  rw [putQ_bad (s' := ⟨n, one, row, rows, last, e⟩) (r := (stepN (max n 0) c M).2) hl (by unfold stepR; rw [if_neg hK]; unfold numR; rw [if_neg (by rw [hb]; decide), if_neg h, if_neg h0]) h0]
theorem stp_n0 (hl : last = 0) (hr : (row.length : Int) < W) (hK : K ≠ 1) (hb : blankB c = false) (h : (stepN (max n 0) c M).2 ≠ 4) (h0 : (stepN (max n 0) c M).2 = 0) : putR K W H M ⟨n, one, row, rows, last, e⟩ c = (⟨(stepN (max n 0) c M).1, one, row, rows, last, e⟩, []) := by
  rw [putQ_step (s' := ⟨(stepN (max n 0) c M).1, one, row, rows, last, e⟩) hl (by unfold stepR; rw [if_neg hK]; unfold numR; rw [if_neg (by rw [hb]; decide), if_neg h, if_pos h0])]
  exact fullR_no hr
theorem stepN_nn (hn : 0 ≤ n) : 0 ≤ (stepN n c M).1 := by
  unfold stepN
  repeat' split
  all_goals simp only; omega
theorem fullR_good {s : RS} (hW : 1 ≤ W) (h1 : -1 ≤ s.n) (h2 : K = 1 → s.n = -1) : RGood K W (fullR W H s).1 := by
  unfold fullR
  split
  · exact ⟨h1, h2, by assumption⟩
  · exact ⟨h1, h2, by simp; omega⟩
theorem endsR_n {ch : Int} {s : RS} : (endsR ch s).n = -1 := by unfold endsR; split <;> simp_all
theorem stepR_n {s : RS} (h1 : -1 ≤ s.n) (h2 : K = 1 → s.n = -1) : -1 ≤ (stepR K M s c).1.n ∧ (K = 1 → (stepR K M s c).1.n = -1) := by
  unfold stepR
  split
  · rename_i hK
    unfold bitR
    repeat' split
    all_goals exact ⟨h1, h2⟩
  · rename_i hK
    refine ⟨?_, fun h => absurd h hK⟩
    unfold numR
    repeat' split
    · rw [endsR_n]; decide
    · exact h1
    · have := stepN_nn (n := max s.n 0) (c := c) (M := M) (by omega)
      simp only; omega
    · exact h1
theorem stepR_er {s : RS} (h : (stepR K M s c).2 ≠ 0) : (stepR K M s c).1 = s := by
  revert h
  unfold stepR bitR numR
  repeat' split
  all_goals simp_all
theorem putR_good {s : RS} (hW : 1 ≤ W) (h : RGood K W s) : RGood K W (putR K W H M s c).1 := by
  have h1 := stepR_n (M := M) (c := c) h.1 h.2.1
  unfold putR
  split
  · exact h
  · split
    · rename_i hr
      exact ⟨h1.1, h1.2, by simp only [wrongR]; rw [stepR_er hr]; exact h.2.2⟩
    · exact fullR_good hW h1.1 h1.2
theorem endR_B {s : RS} : endR K W H s = if (endB K W H s).1.last = 0 then (wrongR (endB K W H s).1 6, (endB K W H s).2) else endB K W H s := by
  unfold endR endB
  split
  · rename_i h
    first | rfl | rw [if_neg (show ¬ s.last = 0 from h)]
  · rfl
theorem endB_m (hr : (row.length : Int) < W) (hn : n = -1) : endB K W H ⟨n, one, row, rows, last, e⟩ = (⟨n, one, row, rows, last, e⟩, []) := by
  unfold endB
  split
  · rfl
  · have he : endsR (chK K) ⟨n, one, row, rows, last, e⟩ = ⟨n, one, row, rows, last, e⟩ := if_pos hn
    rw [he]
    exact fullR_no hr
theorem endB_n (hl : last = 0) (hr : (row.length : Int) < W) (hn : n = -1) : endB K W H ⟨n, one, row, rows, last, e⟩ = (⟨n, one, row, rows, last, e⟩, []) := by
  unfold endB
  rw [if_neg (by simp only; omega)]
  have he : endsR (chK K) ⟨n, one, row, rows, last, e⟩ = ⟨n, one, row, rows, last, e⟩ := if_pos hn
  rw [he]
  exact fullR_no hr
theorem endB_p (hl : last = 0) (hn : n ≠ -1) (hK : K = 1 → n = -1) : endB K W H ⟨n, one, row, rows, last, e⟩ = putR K W H M ⟨n, one, row, rows, last, e⟩ 32 := by
  unfold endB
  rw [if_neg (by simp only; omega), stp_bs hl hn hK rfl]
  have he : endsR (chK K) ⟨n, one, row, rows, last, e⟩ = sampleR (chK K) ⟨-1, one, row, rows, last, e⟩ n := if_neg hn
  rw [he]
end




theorem rbits_spec (K : Int) : Fn Try.prog 37 #[.int .i64 K] [] (fun v l => v = .bool (decide (K = 1 ∨ K = 4)) ∧ l = []) := by
  refine Fn.intro (vs := [.int .i64 K]) Try.func37 rfl Try.ntmps37 rfl ?_
  refine Wp.seq ?_
  refine Wp.region ?_
  refine s_as rfl rfl ?_
  refine WpL.nil ?_
  refine Wp.seq ?_
  refine Wp.region ?_
  refine s_mv rfl rfl ?_
  refine s_eq rfl rfl rfl ?_
  refine s_mv rfl rfl ?_
  refine WpL.grd rfl rfl rfl (fun hg1 => ?_) (fun hg1 => ?_)
  · have hg1 := of_decide_eq_false hg1
    refine s_mv rfl rfl ?_
    refine WpL.gon rfl rfl ?_
    refine s_eq rfl rfl rfl ?_
    refine s_pickF rfl rfl rfl ?_
    refine s_as rfl rfl ?_
    refine WpL.nil ?_
    refine Wp.ret ?_
    apply RetQ.mk
    · exact (Res.one rfl rfl)
    · exact ⟨congrArg Value.bool (by first | exact dd (by first | rfl | omega) | exact dt (by omega) | exact df (by omega)), rfl⟩
    · first | exact Ent.refl _ | exact Ent.nil _ | exact Take.ent' (by repeat' constructor) | (repeat (first | exact Ent.refl _ | refine Ent.drop ?_))
  · have hg1 := of_decide_eq_true hg1
    refine WpL.goff rfl rfl rfl (by decide) ?_
    refine s_pickT rfl rfl rfl ?_
    refine s_as rfl rfl ?_
    refine WpL.nil ?_
    refine Wp.ret ?_
    apply RetQ.mk
    · exact (Res.one rfl rfl)
    · exact ⟨congrArg Value.bool (by first | exact dd (by first | rfl | omega) | exact dt (by omega) | exact df (by omega)), rfl⟩
    · first | exact Ent.refl _ | exact Ent.nil _ | exact Take.ent' (by repeat' constructor) | (repeat (first | exact Ent.refl _ | refine Ent.drop ?_))




end Go.Proofs.Ytpoahaadnbdgcaa
