/- Walks and plain laws, a part of the proof of PnmOpen: every input that the law's guards let in, no condition beside. -/
import Derived.Test.YtggamdlpiejbiaaGreatM07
namespace Go.Proofs.YtggamdlpiejbiaaGreat
open Go.RowKit Go.Shelf


theorem Ent.nil2 {T s : Nat} {l : List HP} {A B : HP} (h : Ent l [A, B]) : Ent l [A, own T s none 0 0 [], B] := (Ent.own_nil h).trans Ent.swap
/-- Samples that a pixel has. -/
def chK (K : Int) : Int := if K % 3 = 0 then 3 else 1

def sampleS (ch : Int) (one row : List Int) (x : Int) : List Int × List Int := if (((one ++ [x]).length : Nat) : Int) = ch then ([], row ++ [(packS (one ++ [x])).1]) else (one ++ [x], row)

theorem sample_spec (g : Nat) (K W H M n rows last e : Int) (stp : Value) [OneC stp] (a1 a2 : Option Addr) (c1 c2 : Nat) (one row : List Int) (x : Int) (hK : 0 ≤ K) (h1 : one.length ≤ 3) (h2 : row.length ≤ 1000000000000) : Fn Tryz.prog 164 #[.pointer (some ⟨g, 0, none⟩), .int .i64 x] [blk g [.int .i64 K, .int .i64 W, .int .i64 H, .int .i64 M, stp, .int .i64 n, .slice a1 one.length c1, .slice a2 row.length c2, .int .i64 rows, .int .i64 last, .int .i64 e] 186, own 3 1 a1 c1 (one).length (ints one), own 92 1 a2 c2 (row).length (pxs row)] (fun v l => v = .tuple #[] ∧ ∃ a1 c1 a2 c2, l = [blk g [.int .i64 K, .int .i64 W, .int .i64 H, .int .i64 M, stp, .int .i64 n, .slice a1 (sampleS (chK K) one row x).1.length c1, .slice a2 (sampleS (chK K) one row x).2.length c2, .int .i64 rows, .int .i64 last, .int .i64 e] 186, own 3 1 a1 c1 ((sampleS (chK K) one row x).1).length (ints (sampleS (chK K) one row x).1), own 92 1 a2 c2 ((sampleS (chK K) one row x).2).length (pxs (sampleS (chK K) one row x).2)]) := by
  refine Fn.intro (vs := [.pointer (some ⟨g, 0, none⟩), .int .i64 x]) Tryz.func164 rfl Tryz.ntmps164 rfl ?_
  refine Wp.seq ?_
  refine Wp.region ?_
  refine s_mv rfl rfl ?_
  refine s_mv rfl rfl ?_
  refine s_nc rfl rfl ?_
  refine s_fa (o2 := 6) rfl rfl rfl ?_
  refine s_ld rfl rfl (by rfl) ?_
  refine s_mv rfl rfl ?_
  refine s_bs1 rfl rfl rfl rfl ?_
  intro g1
  refine s_app1 rfl rfl rfl (by repeat' constructor) (by rfl) (by rfl) (by rfl) (by rfl) (by omega) (by omega) ?_
  intro a13 c13
  rw [ints_snoc, show one.length + 1 = (one ++ [x]).length from by simp]
  refine s_nc rfl rfl ?_
  refine s_fa (o2 := 6) rfl rfl rfl ?_
  refine s_st rfl rfl rfl ?_
  refine WpL.nil ?_
  refine Wp.seq ?_
  apply Wp.draw mixed [⟨16, _, []⟩, ⟨17, _, [0]⟩, ⟨18, _, [1]⟩, ⟨19, _, [2]⟩, ⟨20, _, [3]⟩, ⟨21, _, []⟩, ⟨22, _, [5]⟩, ⟨23, _, [6]⟩, ⟨24, _, [7]⟩, ⟨25, _, [8]⟩, ⟨26, _, [9]⟩, ⟨27, _, [4, 10]⟩] rfl
  · refine AllObs.mk ?_ ?_
    · refine s_mv rfl rfl ?_
      exact obN rfl
    refine AllObs.mk ?_ ?_
    · refine s_nc rfl rfl ?_
      exact obN rfl
    refine AllObs.mk ?_ ?_
    · refine s_fa (o2 := 6) rfl rfl rfl ?_
      exact obN rfl
    refine AllObs.mk ?_ ?_
    · refine s_ld rfl rfl (by rfl) ?_
      exact obN rfl
    refine AllObs.mk ?_ ?_
    · refine s_lenl rfl rfl ?_
      exact WpL.nil ⟨rfl, rfl, rfl, by first | exact Ent.refl _ | exact Ent.nil _ | exact Take.ent' (by repeat' constructor) | (repeat (first | exact Ent.refl _ | refine Ent.drop ?_))⟩
    refine AllObs.mk ?_ ?_
    · refine s_mv rfl rfl ?_
      exact obN rfl
    refine AllObs.mk ?_ ?_
    · refine s_nc rfl rfl ?_
      exact obN rfl
    refine AllObs.mk ?_ ?_
    · refine s_fa (o2 := 0) rfl rfl rfl ?_
      exact obN rfl
    refine AllObs.mk ?_ ?_
    · refine s_lda (vs := [_, _, _, _]) rfl rfl rfl (by rfl) ?_
      exact obN rfl
    refine AllObs.mk ?_ ?_
    · refine s_callf rfl rfl (by repeat' constructor) (Format_spec _ _ _ _ (by omega)) ?_
      rintro _ _ ⟨rfl, rfl⟩
      simp only [napp]
      exact WpL.nil ⟨rfl, rfl, rfl, by first | exact Ent.refl _ | exact Ent.nil _ | exact Take.ent' (by repeat' constructor) | (repeat (first | exact Ent.refl _ | refine Ent.drop ?_))⟩
    refine AllObs.mk ?_ ?_
    · refine s_fv rfl rfl rfl ?_
      exact obN rfl
    refine AllObs.mk ?_ ?_
    · refine s_eq rfl rfl rfl ?_
      exact obN rfl
    exact AllObs.nil
  · refine Wp.condD rfl (fun h0 => ?_) (fun h0 => ?_)
    · refine Wp.seq ?_
      refine Wp.region ?_
      refine s_mv rfl rfl ?_
      refine s_nc rfl rfl ?_
      refine s_fa (o2 := 6) rfl rfl rfl ?_
      refine s_ld rfl rfl (by rfl) ?_
      refine s_callf rfl rfl (by repeat' constructor) (Pack_spec [_] a13 c13 (one ++ [x]) RdsL.own (by simp; omega)) ?_
      rintro _ _ ⟨rfl, rfl⟩
      simp only [napp]
      refine s_mv rfl rfl ?_
      refine s_ext rfl rfl rfl ?_
      refine s_ext rfl rfl rfl ?_
      refine s_as rfl rfl ?_
      refine s_as rfl rfl ?_
      refine WpL.nil ?_
      refine Wp.region ?_
      refine s_mv rfl rfl ?_
      refine s_mv rfl rfl ?_
      refine s_mv rfl rfl ?_
      refine s_nc rfl rfl ?_
      refine s_fa (o2 := 7) rfl rfl rfl ?_
      refine s_ld rfl rfl (by rfl) ?_
      refine s_mv rfl rfl ?_
      refine s_bs1 rfl rfl rfl rfl ?_
      intro g2
      refine s_app1 rfl rfl rfl (by repeat' constructor) (by rfl) (by rfl) (by rfl) (by rfl) (by omega) (by omega) ?_
      intro a44 c44
      rw [pxs_snoc, show row.length + 1 = (row ++ [(packS (one ++ [x])).1]).length from by simp]
      refine s_nc rfl rfl ?_
      refine s_fa (o2 := 7) rfl rfl rfl ?_
      refine s_st rfl rfl rfl ?_
      refine s_nc rfl rfl ?_
      refine s_fa (o2 := 6) rfl rfl rfl ?_
      refine s_st rfl rfl rfl ?_
      refine WpL.nil ?_
      apply RetQ.nm
      · exact (Res.none rfl)
      · have hs : sampleS (chK K) one row x = ([], row ++ [(packS (one ++ [x])).1]) := if_pos h0
        exact ⟨rfl, none, 0, a44, c44, by rw [hs]⟩
      · exact Ent.nil2 (Take.ent' (by repeat' constructor))
    · refine Wp.skip ?_
      apply RetQ.nm
      · exact (Res.none rfl)
      · have hs : sampleS (chK K) one row x = (one ++ [x], row) := if_neg h0
        exact ⟨rfl, a13, c13, a2, c2, by rw [hs]⟩
      · first | exact Ent.refl _ | exact Ent.nil _ | exact Take.ent' (by repeat' constructor) | (repeat (first | exact Ent.refl _ | refine Ent.drop ?_))


structure RS where
  (n : Int) (one row : List Int) (rows last e : Int)
def sampleR (ch : Int) (s : RS) (x : Int) : RS := ⟨s.n, (sampleS ch s.one s.row x).1, (sampleS ch s.one s.row x).2, s.rows, s.last, s.e⟩
def endsR (ch : Int) (s : RS) : RS := if s.n = -1 then s else ⟨-1, (sampleS ch s.one s.row s.n).1, (sampleS ch s.one s.row s.n).2, s.rows, s.last, s.e⟩
def stepN (n c M : Int) : Int × Int := if c < 48 ∨ c > 57 then (0, 3) else if c - 48 > M ∨ n > (M - (c - 48)) / 10 then (0, 4) else (10 * n + (c - 48), 0)
def bitR (ch : Int) (s : RS) (c : Int) : RS × Int := if blankB c = true then (s, 0) else if c ≠ 48 ∧ c ≠ 49 then (s, 3) else (sampleR ch s (c - 48), 0)
def numR (ch M : Int) (s : RS) (c : Int) : RS × Int := if blankB c = true then (endsR ch s, 0) else if (stepN (max s.n 0) c M).2 = 4 then (s, 5) else if (stepN (max s.n 0) c M).2 = 0 then (⟨(stepN (max s.n 0) c M).1, s.one, s.row, s.rows, s.last, s.e⟩, 0) else (s, (stepN (max s.n 0) c M).2)
def fullR (W H : Int) (s : RS) : RS × List Int := if (s.row.length : Int) < W then (s, []) else (⟨s.n, s.one, [], s.rows + 1, if s.rows + 1 = H then 1 else s.last, s.e⟩, s.row)
def wrongR (s : RS) (e : Int) : RS := ⟨s.n, s.one, s.row, s.rows, 2, e⟩
def stepR (K M : Int) (s : RS) (c : Int) : RS × Int := if K = 1 then bitR (chK K) s c else numR (chK K) M s c
def putR (K W H M : Int) (s : RS) (c : Int) : RS × List Int := if s.last ≠ 0 then (s, []) else if (stepR K M s c).2 ≠ 0 then (wrongR (stepR K M s c).1 (stepR K M s c).2, []) else fullR W H (stepR K M s c).1
def endR (K W H : Int) (s : RS) : RS × List Int := if s.last ≠ 0 then (s, []) else if (fullR W H (endsR (chK K) s)).1.last = 0 then (wrongR (fullR W H (endsR (chK K) s)).1 6, (fullR W H (endsR (chK K) s)).2) else fullR W H (endsR (chK K) s)

theorem ends_spec (g : Nat) (K W H M n rows last e : Int) (stp : Value) [OneC stp] (a1 a2 : Option Addr) (c1 c2 : Nat) (one row : List Int) (hK : 0 ≤ K) (h1 : one.length ≤ 3) (h2 : row.length ≤ 1000000000000) : Fn Tryz.prog 114 #[.pointer (some ⟨g, 0, none⟩)] [blk g [.int .i64 K, .int .i64 W, .int .i64 H, .int .i64 M, stp, .int .i64 n, .slice a1 one.length c1, .slice a2 row.length c2, .int .i64 rows, .int .i64 last, .int .i64 e] 186, own 3 1 a1 c1 (one).length (ints one), own 92 1 a2 c2 (row).length (pxs row)] (fun v l => v = .tuple #[] ∧ ∃ n' one' row' rows' last' e' a1 c1 a2 c2, (⟨n', one', row', rows', last', e'⟩ : RS) = endsR (chK K) ⟨n, one, row, rows, last, e⟩ ∧ l = [blk g [.int .i64 K, .int .i64 W, .int .i64 H, .int .i64 M, stp, .int .i64 n', .slice a1 one'.length c1, .slice a2 row'.length c2, .int .i64 rows', .int .i64 last', .int .i64 e'] 186, own 3 1 a1 c1 (one').length (ints one'), own 92 1 a2 c2 (row').length (pxs row')]) := by
  refine Fn.intro (vs := [.pointer (some ⟨g, 0, none⟩)]) Tryz.func114 rfl Tryz.ntmps114 rfl ?_
  refine Wp.seq ?_
  refine Wp.region ?_
  refine s_mv rfl rfl ?_
  refine s_nc rfl rfl ?_
  refine s_fa (o2 := 5) rfl rfl rfl ?_
  refine s_ld rfl rfl (by rfl) ?_
  refine s_ne rfl rfl rfl ?_
  refine WpL.nil ?_
  refine Wp.condD rfl (fun h0 => ?_) (fun h0 => ?_)
  · refine Wp.seq ?_
    refine Wp.region ?_
    refine s_mv rfl rfl ?_
    refine s_mv rfl rfl ?_
    refine s_nc rfl rfl ?_
    refine s_fa (o2 := 5) rfl rfl rfl ?_
    refine s_ld rfl rfl (by rfl) ?_
    refine s_callf rfl rfl (by repeat' constructor) (sample_spec _ _ _ _ _ _ _ _ _ _ _ _ _ _ _ _ _ (by omega) (by omega) (by omega)) ?_
    rintro _ _ ⟨rfl, a1, c1, a2, c2, rfl⟩
    simp only [napp]
    refine WpL.nil ?_
    refine Wp.region ?_
    refine s_mv rfl rfl ?_
    refine s_nc rfl rfl ?_
    refine s_fa (o2 := 5) rfl rfl rfl ?_
    refine s_st rfl rfl rfl ?_
    refine WpL.nil ?_
    apply RetQ.nm
    · exact (Res.none rfl)
    · exact ⟨rfl, _, _, _, _, _, _, a1, c1, a2, c2, (if_neg h0).symm, rfl⟩
    · first | exact Ent.refl _ | exact Ent.nil _ | exact Take.ent' (by repeat' constructor) | (repeat (first | exact Ent.refl _ | refine Ent.drop ?_))
  · refine Wp.skip ?_
    apply RetQ.nm
    · exact (Res.none rfl)
    · exact ⟨rfl, _, _, _, _, _, _, a1, c1, a2, c2, (if_pos (by omega : n = -1)).symm, rfl⟩
    · first | exact Ent.refl _ | exact Ent.nil _ | exact Take.ent' (by repeat' constructor) | (repeat (first | exact Ent.refl _ | refine Ent.drop ?_))

theorem Step_spec (n c M : Int) (h0 : 0 ≤ c) (h1 : c ≤ 255) (hn : 0 ≤ n) (hM : 0 ≤ M) (hN : M ≤ 2 ^ 60) : Fn Tryz.prog 196 #[.int .i64 n, .int .u8 c, .int .i64 M] [] (fun v l => v = .tuple #[.int .i64 (stepN n c M).1, .int .i64 (stepN n c M).2] ∧ l = []) := by
  refine Fn.intro (vs := [.int .i64 n, .int .u8 c, .int .i64 M]) Tryz.func196 rfl Tryz.ntmps196 rfl ?_
  refine Wp.seq ?_
  refine Wp.region ?_
  refine s_as rfl rfl ?_
  refine s_as rfl rfl ?_
  refine WpL.nil ?_
  refine Wp.seq ?_
  refine Wp.region ?_
  refine s_mv rfl rfl ?_
  first | refine s_cvi rfl Tryz.underlying5 rfl (w_i64 (by omega) (by omega)) ?_ | refine s_cviw rfl Tryz.underlying5 rfl ?_
  first | refine s_sub rfl rfl rfl (w_i64 (by omega) (by omega)) ?_ | refine s_subw rfl rfl rfl ?_
  refine s_as rfl rfl ?_
  refine WpL.nil ?_
  refine Wp.seq ?_
  refine Wp.block ?_
  refine Wp.seq ?_
  refine Wp.region ?_
  refine s_mv rfl rfl ?_
  refine s_lt rfl rfl rfl ?_
  refine s_mv rfl rfl ?_
  refine WpL.grd rfl rfl rfl (fun hg1 => ?_) (fun hg1 => ?_)
  · have hg1 := of_decide_eq_false hg1
    refine s_mv rfl rfl ?_
    refine WpL.gon rfl rfl ?_
    refine s_gt rfl rfl rfl ?_
    refine s_pickF rfl rfl rfl ?_
    refine s_as rfl rfl ?_
    refine WpL.nil ?_
    refine Wp.condD rfl (fun h0 => ?_) (fun h0 => ?_)
    · refine Wp.seq ?_
      refine Wp.region ?_
      refine s_as rfl rfl ?_
      refine s_as rfl rfl ?_
      refine WpL.nil ?_
      refine Wp.ret ?_
      apply RetQ.mk
      · exact (Res.two rfl rfl rfl)
      · have e : stepN n c M = (0, 3) := by
          unfold stepN
          repeat' split
          all_goals first | rfl | (exfalso; omega)
        rw [e]
        exact ⟨rfl, rfl⟩
      · first | exact Ent.refl _ | exact Ent.nil _ | exact Take.ent' (by repeat' constructor) | (repeat (first | exact Ent.refl _ | refine Ent.drop ?_))
    · refine Wp.seq ?_
      refine Wp.region ?_
      refine s_mv rfl rfl ?_
      refine s_mv rfl rfl ?_
      refine s_gt rfl rfl rfl ?_
      refine s_mv rfl rfl ?_
      refine WpL.grd rfl rfl rfl (fun hg2 => ?_) (fun hg2 => ?_)
      · have hg2 := of_decide_eq_false hg2
        refine s_mv rfl rfl ?_
        refine WpL.gon rfl rfl ?_
        refine s_mv rfl rfl ?_
        refine WpL.gon rfl rfl ?_
        refine s_mv rfl rfl ?_
        refine WpL.gon rfl rfl ?_
        first | refine s_sub rfl rfl rfl (w_i64 (by omega) (by omega)) ?_ | refine s_subw rfl rfl rfl ?_
        refine WpL.gon rfl rfl ?_
        refine s_quo rfl rfl rfl (by omega) (by omega) (w_i64 (by omega) (by omega)) ?_
        refine WpL.gon rfl rfl ?_
        refine s_gt rfl rfl rfl ?_
        refine s_pickF rfl rfl rfl ?_
        refine s_as rfl rfl ?_
        refine WpL.nil ?_
        refine Wp.condD rfl (fun h1 => ?_) (fun h1 => ?_)
        · refine Wp.seq ?_
          refine Wp.region ?_
          refine s_as rfl rfl ?_
          refine s_as rfl rfl ?_
          refine WpL.nil ?_
          refine Wp.ret ?_
          apply RetQ.mk
          · exact (Res.two rfl rfl rfl)
          · have e : stepN n c M = (0, 4) := by
              unfold stepN
              repeat' split
              all_goals first | rfl | (exfalso; omega)
            rw [e]
            exact ⟨rfl, rfl⟩
          · first | exact Ent.refl _ | exact Ent.nil _ | exact Take.ent' (by repeat' constructor) | (repeat (first | exact Ent.refl _ | refine Ent.drop ?_))
        · refine Wp.skip ?_
          refine Wp.seq ?_
          refine Wp.region ?_
          refine s_mv rfl rfl ?_
          first | refine s_mul rfl rfl rfl (w_i64 (by omega) (by omega)) ?_ | refine s_mulw rfl rfl rfl ?_
          refine s_mv rfl rfl ?_
          first | refine s_add rfl rfl rfl (w_i64 (by omega) (by omega)) ?_ | refine s_addw rfl rfl rfl ?_
          refine s_as rfl rfl ?_
          refine s_as rfl rfl ?_
          refine WpL.nil ?_
          refine Wp.ret ?_
          apply RetQ.mk
          · exact (Res.two rfl rfl rfl)
          · have e : stepN n c M = (10 * n + (c - 48), 0) := by
              unfold stepN
              repeat' split
              all_goals first | rfl | (exfalso; omega)
            rw [e]
            exact ⟨rfl, rfl⟩
          · first | exact Ent.refl _ | exact Ent.nil _ | exact Take.ent' (by repeat' constructor) | (repeat (first | exact Ent.refl _ | refine Ent.drop ?_))
      · have hg2 := of_decide_eq_true hg2
        refine WpL.goff rfl rfl rfl (by decide) ?_
        refine WpL.goff rfl rfl rfl (by decide) ?_
        refine WpL.goff rfl rfl rfl (by decide) ?_
        refine WpL.goff rfl rfl rfl (by decide) ?_
        refine WpL.goff rfl rfl rfl (by decide) ?_
        refine s_pickT rfl rfl rfl ?_
        refine s_as rfl rfl ?_
        refine WpL.nil ?_
        refine Wp.condT rfl ?_
        refine Wp.seq ?_
        refine Wp.region ?_
        refine s_as rfl rfl ?_
        refine s_as rfl rfl ?_
        refine WpL.nil ?_
        refine Wp.ret ?_
        apply RetQ.mk
        · exact (Res.two rfl rfl rfl)
        · have e : stepN n c M = (0, 4) := by
            unfold stepN
            repeat' split
            all_goals first | rfl | (exfalso; omega)
          rw [e]
          exact ⟨rfl, rfl⟩
        · first | exact Ent.refl _ | exact Ent.nil _ | exact Take.ent' (by repeat' constructor) | (repeat (first | exact Ent.refl _ | refine Ent.drop ?_))
  · have hg1 := of_decide_eq_true hg1
    refine WpL.goff rfl rfl rfl (by decide) ?_
    refine s_pickT rfl rfl rfl ?_
    refine s_as rfl rfl ?_
    refine WpL.nil ?_
    refine Wp.condT rfl ?_
    refine Wp.seq ?_
    refine Wp.region ?_
    refine s_as rfl rfl ?_
    refine s_as rfl rfl ?_
    refine WpL.nil ?_
    refine Wp.ret ?_
    apply RetQ.mk
    · exact (Res.two rfl rfl rfl)
    · have e : stepN n c M = (0, 3) := by
        unfold stepN
        repeat' split
        all_goals first | rfl | (exfalso; omega)
      rw [e]
      exact ⟨rfl, rfl⟩
    · first | exact Ent.refl _ | exact Ent.nil _ | exact Take.ent' (by repeat' constructor) | (repeat (first | exact Ent.refl _ | refine Ent.drop ?_))

theorem bit_spec (g : Nat) (K W H M n rows last e : Int) (stp : Value) [OneC stp] (a1 a2 : Option Addr) (c1 c2 : Nat) (one row : List Int) (hK : 0 ≤ K) (h1 : one.length ≤ 3) (h2 : row.length ≤ 1000000000000) (c : Int) (hc : 0 ≤ c) (hc2 : c ≤ 255) : Fn Tryz.prog 170 #[.pointer (some ⟨g, 0, none⟩), .int .u8 c] [blk g [.int .i64 K, .int .i64 W, .int .i64 H, .int .i64 M, stp, .int .i64 n, .slice a1 one.length c1, .slice a2 row.length c2, .int .i64 rows, .int .i64 last, .int .i64 e] 186, own 3 1 a1 c1 (one).length (ints one), own 92 1 a2 c2 (row).length (pxs row)] (fun v l => v = .int .i64 (bitR (chK K) ⟨n, one, row, rows, last, e⟩ c).2 ∧ ∃ n' one' row' rows' last' e' a1 c1 a2 c2, (⟨n', one', row', rows', last', e'⟩ : RS) = (bitR (chK K) ⟨n, one, row, rows, last, e⟩ c).1 ∧ l = [blk g [.int .i64 K, .int .i64 W, .int .i64 H, .int .i64 M, stp, .int .i64 n', .slice a1 one'.length c1, .slice a2 row'.length c2, .int .i64 rows', .int .i64 last', .int .i64 e'] 186, own 3 1 a1 c1 (one').length (ints one'), own 92 1 a2 c2 (row').length (pxs row')]) := by
  refine Fn.intro (vs := [.pointer (some ⟨g, 0, none⟩), .int .u8 c]) Tryz.func170 rfl Tryz.ntmps170 rfl ?_
  refine Wp.seq ?_
  refine Wp.region ?_
  refine s_as rfl rfl ?_
  refine WpL.nil ?_
  refine Wp.seq ?_
  refine Wp.block ?_
  refine Wp.seq ?_
  refine Wp.region ?_
  refine s_mv rfl rfl ?_
  refine s_callf rfl rfl (by repeat' constructor) (Blank_spec _ (by omega) (by omega)) ?_
  rintro _ _ ⟨rfl, rfl⟩
  simp only [napp]
  refine s_as rfl rfl ?_
  refine WpL.nil ?_
  refine Wp.cond rfl (fun h0 => ?_) (fun h0 => ?_)
  · refine Wp.seq ?_
    refine Wp.region ?_
    refine s_as rfl rfl ?_
    refine WpL.nil ?_
    refine Wp.ret ?_
    apply RetQ.mk
    · exact (Res.one rfl rfl)
    · have e : bitR (chK K) ⟨n, one, row, rows, last, e⟩ c = (⟨n, one, row, rows, last, e⟩, 0) := by
        unfold bitR
        repeat' split
        all_goals first | rfl | (exfalso; omega) | (exfalso; simp_all; done) | (exfalso; simp_all; omega) | (simp_all; done)
      rw [e]
      exact ⟨rfl, _, _, _, _, _, _, a1, c1, a2, c2, rfl, rfl⟩
    · first | exact Ent.refl _ | exact Ent.nil _ | exact Take.ent' (by repeat' constructor) | (repeat (first | exact Ent.refl _ | refine Ent.drop ?_))
  · refine Wp.seq ?_
    refine Wp.region ?_
    refine s_mv rfl rfl ?_
    refine s_ne rfl rfl rfl ?_
    refine s_mv rfl rfl ?_
    refine WpL.grd rfl rfl rfl (fun hg1 => ?_) (fun hg1 => ?_)
    · have hg1 := of_decide_eq_true hg1
      refine s_mv rfl rfl ?_
      refine WpL.gon rfl rfl ?_
      refine s_ne rfl rfl rfl ?_
      refine s_pickT rfl rfl rfl ?_
      refine s_as rfl rfl ?_
      refine WpL.nil ?_
      refine Wp.condD rfl (fun h1 => ?_) (fun h1 => ?_)
      · refine Wp.seq ?_
        refine Wp.region ?_
        refine s_as rfl rfl ?_
        refine WpL.nil ?_
        refine Wp.ret ?_
        apply RetQ.mk
        · exact (Res.one rfl rfl)
        · have e : bitR (chK K) ⟨n, one, row, rows, last, e⟩ c = (⟨n, one, row, rows, last, e⟩, 3) := by
            unfold bitR
            repeat' split
            all_goals first | rfl | (exfalso; omega) | (exfalso; simp_all; done) | (exfalso; simp_all; omega) | (simp_all; done)
          rw [e]
          exact ⟨rfl, _, _, _, _, _, _, a1, c1, a2, c2, rfl, rfl⟩
        · first | exact Ent.refl _ | exact Ent.nil _ | exact Take.ent' (by repeat' constructor) | (repeat (first | exact Ent.refl _ | refine Ent.drop ?_))
      · refine Wp.skip ?_
        refine Wp.seq ?_
        refine Wp.region ?_
        refine s_mv rfl rfl ?_
        refine s_mv rfl rfl ?_
        first | refine s_sub rfl rfl rfl (w_u8 (by omega) (by omega)) ?_ | refine s_subw rfl rfl rfl ?_
        first | refine s_cvi rfl Tryz.underlying5 rfl (w_i64 (by omega) (by omega)) ?_ | refine s_cviw rfl Tryz.underlying5 rfl ?_
        refine s_callf rfl rfl (by repeat' constructor) (sample_spec _ _ _ _ _ _ _ _ _ _ _ _ _ _ _ _ _ (by omega) (by omega) (by omega)) ?_
        rintro _ _ ⟨rfl, a1, c1, a2, c2, rfl⟩
        simp only [napp]
        refine WpL.nil ?_
        refine Wp.seq ?_
        refine Wp.region ?_
        refine s_as rfl rfl ?_
        refine WpL.nil ?_
        refine Wp.ret ?_
        apply RetQ.mk
        · exact (Res.one rfl rfl)
        · have e : bitR (chK K) ⟨n, one, row, rows, last, e⟩ c = (⟨n, (sampleS (chK K) one row (c - 48)).1, (sampleS (chK K) one row (c - 48)).2, rows, last, e⟩, 0) := by
            unfold bitR
            repeat' split
            all_goals first | rfl | (exfalso; omega) | (exfalso; simp_all; done) | (exfalso; simp_all; omega) | (simp_all; done)
          rw [e]
          exact ⟨rfl, _, _, _, _, _, _, a1, c1, a2, c2, rfl, rfl⟩
        · first | exact Ent.refl _ | exact Ent.nil _ | exact Take.ent' (by repeat' constructor) | (repeat (first | exact Ent.refl _ | refine Ent.drop ?_))
    · have hg1 := of_decide_eq_false hg1
      refine WpL.goff rfl rfl rfl (by decide) ?_
      refine s_pickF rfl rfl rfl ?_
      refine s_as rfl rfl ?_
      refine WpL.nil ?_
      refine Wp.condF rfl ?_
      refine Wp.skip ?_
      refine Wp.seq ?_
      refine Wp.region ?_
      refine s_mv rfl rfl ?_
      refine s_mv rfl rfl ?_
      first | refine s_sub rfl rfl rfl (w_u8 (by omega) (by omega)) ?_ | refine s_subw rfl rfl rfl ?_
      first | refine s_cvi rfl Tryz.underlying5 rfl (w_i64 (by omega) (by omega)) ?_ | refine s_cviw rfl Tryz.underlying5 rfl ?_
      refine s_callf rfl rfl (by repeat' constructor) (sample_spec _ _ _ _ _ _ _ _ _ _ _ _ _ _ _ _ _ (by omega) (by omega) (by omega)) ?_
      rintro _ _ ⟨rfl, a1, c1, a2, c2, rfl⟩
      simp only [napp]
      refine WpL.nil ?_
      refine Wp.seq ?_
      refine Wp.region ?_
      refine s_as rfl rfl ?_
      refine WpL.nil ?_
      refine Wp.ret ?_
      apply RetQ.mk
      · exact (Res.one rfl rfl)
      · have e : bitR (chK K) ⟨n, one, row, rows, last, e⟩ c = (⟨n, (sampleS (chK K) one row (c - 48)).1, (sampleS (chK K) one row (c - 48)).2, rows, last, e⟩, 0) := by
          unfold bitR
          repeat' split
          all_goals first | rfl | (exfalso; omega) | (exfalso; simp_all; done) | (exfalso; simp_all; omega) | (simp_all; done)
        rw [e]
        exact ⟨rfl, _, _, _, _, _, _, a1, c1, a2, c2, rfl, rfl⟩
      · first | exact Ent.refl _ | exact Ent.nil _ | exact Take.ent' (by repeat' constructor) | (repeat (first | exact Ent.refl _ | refine Ent.drop ?_))

theorem number_spec (g : Nat) (K W H M n rows last e : Int) (stp : Value) [OneC stp] (a1 a2 : Option Addr) (c1 c2 : Nat) (one row : List Int) (hK : 0 ≤ K) (h1 : one.length ≤ 3) (h2 : row.length ≤ 1000000000000) (c : Int) (hc : 0 ≤ c) (hc2 : c ≤ 255) (hM : 0 ≤ M) (hN : M ≤ 2 ^ 60) : Fn Tryz.prog 169 #[.pointer (some ⟨g, 0, none⟩), .int .u8 c] [blk g [.int .i64 K, .int .i64 W, .int .i64 H, .int .i64 M, stp, .int .i64 n, .slice a1 one.length c1, .slice a2 row.length c2, .int .i64 rows, .int .i64 last, .int .i64 e] 186, own 3 1 a1 c1 (one).length (ints one), own 92 1 a2 c2 (row).length (pxs row)] (fun v l => v = .int .i64 (numR (chK K) M ⟨n, one, row, rows, last, e⟩ c).2 ∧ ∃ n' one' row' rows' last' e' a1 c1 a2 c2, (⟨n', one', row', rows', last', e'⟩ : RS) = (numR (chK K) M ⟨n, one, row, rows, last, e⟩ c).1 ∧ l = [blk g [.int .i64 K, .int .i64 W, .int .i64 H, .int .i64 M, stp, .int .i64 n', .slice a1 one'.length c1, .slice a2 row'.length c2, .int .i64 rows', .int .i64 last', .int .i64 e'] 186, own 3 1 a1 c1 (one').length (ints one'), own 92 1 a2 c2 (row').length (pxs row')]) := by
  refine Fn.intro (vs := [.pointer (some ⟨g, 0, none⟩), .int .u8 c]) Tryz.func169 rfl Tryz.ntmps169 rfl ?_
  refine Wp.seq ?_
  refine Wp.region ?_
  refine s_as rfl rfl ?_
  refine WpL.nil ?_
  refine Wp.seq ?_
  refine Wp.seq ?_
  refine Wp.region ?_
  refine s_mv rfl rfl ?_
  refine s_callf rfl rfl (by repeat' constructor) (Blank_spec _ (by omega) (by omega)) ?_
  rintro _ _ ⟨rfl, rfl⟩
  simp only [napp]
  refine WpL.nil ?_
  refine Wp.cond rfl (fun h0 => ?_) (fun h0 => ?_)
  · refine Wp.seq ?_
    refine Wp.region ?_
    refine s_mv rfl rfl ?_
    refine s_callf rfl rfl (by repeat' constructor) (ends_spec _ _ _ _ _ _ _ _ _ _ _ _ _ _ _ _ (by omega) (by omega) (by omega)) ?_
    rintro _ _ ⟨rfl, n', one', row', rows', last', e', a1, c1, a2, c2, hs, rfl⟩
    simp only [napp]
    refine WpL.nil ?_
    refine Wp.seq ?_
    refine Wp.region ?_
    refine s_as rfl rfl ?_
    refine WpL.nil ?_
    refine Wp.ret ?_
    apply RetQ.mk
    · exact (Res.one rfl rfl)
    · have e : numR (chK K) M ⟨n, one, row, rows, last, e⟩ c = (endsR (chK K) ⟨n, one, row, rows, last, e⟩, 0) := by
        unfold numR
        repeat' split
        all_goals first | rfl | (exfalso; omega) | (exfalso; simp_all; done) | (exfalso; simp_all; omega) | (simp_all; done)
      rw [e]
      exact ⟨rfl, _, _, _, _, _, _, a1, c1, a2, c2, hs, rfl⟩
    · first | exact Ent.refl _ | exact Ent.nil _ | exact Take.ent' (by repeat' constructor) | (repeat (first | exact Ent.refl _ | refine Ent.drop ?_))
  · refine Wp.skip ?_
    refine Wp.seq ?_
    apply Wp.draw mixed [⟨12, _, []⟩, ⟨13, _, [0]⟩, ⟨14, _, [1]⟩, ⟨15, _, [2]⟩, ⟨16, _, [3]⟩, ⟨17, _, []⟩, ⟨18, _, []⟩, ⟨19, _, [6]⟩, ⟨20, _, [7]⟩, ⟨21, _, [8]⟩, ⟨22, _, [9]⟩, ⟨23, _, [4, 5, 10]⟩, ⟨11, _, [11]⟩, ⟨24, _, [12]⟩, ⟨25, _, [12]⟩, ⟨5, _, [13, 11, 0, 1, 2, 3, 4, 5, 6, 7, 8, 9, 10, 12]⟩, ⟨6, _, [14, 15, 0, 1, 2, 3, 4, 5, 6, 7, 8, 9, 10, 11, 12, 13]⟩] rfl
    · refine AllObs.mk ?_ ?_
      · refine s_mv rfl rfl ?_
        exact obN rfl
      refine AllObs.mk ?_ ?_
      · refine s_nc rfl rfl ?_
        exact obN rfl
      refine AllObs.mk ?_ ?_
      · refine s_fa (o2 := 5) rfl rfl rfl ?_
        exact obN rfl
      refine AllObs.mk ?_ ?_
      · refine s_ld rfl rfl (by rfl) ?_
        exact obN rfl
      refine AllObs.mk ?_ ?_
      · refine s_max2 rfl rfl rfl ?_
        exact WpL.nil ⟨rfl, rfl, rfl, by first | exact Ent.refl _ | exact Ent.nil _ | exact Take.ent' (by repeat' constructor) | (repeat (first | exact Ent.refl _ | refine Ent.drop ?_))⟩
      refine AllObs.mk ?_ ?_
      · refine s_mv rfl rfl ?_
        exact obN rfl
      refine AllObs.mk ?_ ?_
      · refine s_mv rfl rfl ?_
        exact obN rfl
      refine AllObs.mk ?_ ?_
      · refine s_nc rfl rfl ?_
        exact obN rfl
      refine AllObs.mk ?_ ?_
      · refine s_fa (o2 := 0) rfl rfl rfl ?_
        exact obN rfl
      refine AllObs.mk ?_ ?_
      · refine s_fa (o2 := 3) rfl rfl rfl ?_
        exact obN rfl
      refine AllObs.mk ?_ ?_
      · refine s_ld rfl rfl (by rfl) ?_
        exact obN rfl
      refine AllObs.mk ?_ ?_
      · refine s_callf rfl rfl (by repeat' constructor) (Step_spec _ _ _ (by omega) (by omega) (by omega) (by omega) (by omega)) ?_
        rintro _ _ ⟨rfl, rfl⟩
        simp only [napp]
        exact WpL.nil ⟨rfl, rfl, rfl, by first | exact Ent.refl _ | exact Ent.nil _ | exact Take.ent' (by repeat' constructor) | (repeat (first | exact Ent.refl _ | refine Ent.drop ?_))⟩
      refine AllObs.mk ?_ ?_
      · refine s_mv rfl rfl ?_
        exact obN rfl
      refine AllObs.mk ?_ ?_
      · refine s_ext rfl rfl rfl ?_
        exact obN rfl
      refine AllObs.mk ?_ ?_
      · refine s_ext rfl rfl rfl ?_
        exact obN rfl
      refine AllObs.mk ?_ ?_
      · refine s_as rfl rfl ?_
        exact obN rfl
      refine AllObs.mk ?_ ?_
      · refine s_as rfl rfl ?_
        exact obN rfl
      exact AllObs.nil
    · refine Wp.seq ?_
      refine Wp.seq ?_
      refine Wp.region ?_
      refine s_mv rfl rfl ?_
      refine WpL.nil ?_
      refine Wp.block ?_
      refine Wp.seq ?_
      refine Wp.region ?_
      refine s_eq rfl rfl rfl ?_
      refine s_as rfl rfl ?_
      refine WpL.nil ?_
      refine Wp.condD rfl (fun h1 => ?_) (fun h1 => ?_)
      · refine Wp.seq ?_
        refine Wp.region ?_
        refine s_as rfl rfl ?_
        refine WpL.nil ?_
        refine Wp.ret ?_
        apply RetQ.mk
        · exact (Res.one rfl rfl)
        · have e : numR (chK K) M ⟨n, one, row, rows, last, e⟩ c = (⟨n, one, row, rows, last, e⟩, 5) := by
            unfold numR
            repeat' split
            all_goals first | rfl | (exfalso; omega) | (exfalso; simp_all; done) | (exfalso; simp_all; omega) | (simp_all; done)
          rw [e]
          exact ⟨rfl, _, _, _, _, _, _, a1, c1, a2, c2, rfl, rfl⟩
        · first | exact Ent.refl _ | exact Ent.nil _ | exact Take.ent' (by repeat' constructor) | (repeat (first | exact Ent.refl _ | refine Ent.drop ?_))
      · refine Wp.seq ?_
        refine Wp.region ?_
        refine s_eq rfl rfl rfl ?_
        refine s_as rfl rfl ?_
        refine WpL.nil ?_
        refine Wp.condD rfl (fun h2 => ?_) (fun h2 => ?_)
        · refine Wp.region ?_
          refine s_mv rfl rfl ?_
          refine s_mv rfl rfl ?_
          refine s_nc rfl rfl ?_
          refine s_fa (o2 := 5) rfl rfl rfl ?_
          refine s_st rfl rfl rfl ?_
          refine WpL.nil ?_
          refine Wp.seq ?_
          refine Wp.region ?_
          refine s_mv rfl rfl ?_
          refine s_as rfl rfl ?_
          refine WpL.nil ?_
          refine Wp.ret ?_
          apply RetQ.mk
          · exact (Res.one rfl rfl)
          · have e : numR (chK K) M ⟨n, one, row, rows, last, e⟩ c = (⟨(stepN (max n 0) c M).1, one, row, rows, last, e⟩, (stepN (max n 0) c M).2) := by
              unfold numR
              repeat' split
              all_goals first | rfl | (exfalso; omega) | (exfalso; simp_all; done) | (exfalso; simp_all; omega) | (simp_all; done)
            rw [e]
            exact ⟨rfl, _, _, _, _, _, _, a1, c1, a2, c2, rfl, rfl⟩
          · first | exact Ent.refl _ | exact Ent.nil _ | exact Take.ent' (by repeat' constructor) | (repeat (first | exact Ent.refl _ | refine Ent.drop ?_))
        · refine Wp.skip ?_
          refine Wp.seq ?_
          refine Wp.region ?_
          refine s_mv rfl rfl ?_
          refine s_as rfl rfl ?_
          refine WpL.nil ?_
          refine Wp.ret ?_
          apply RetQ.mk
          · exact (Res.one rfl rfl)
          · have e : numR (chK K) M ⟨n, one, row, rows, last, e⟩ c = (⟨n, one, row, rows, last, e⟩, (stepN (max n 0) c M).2) := by
              unfold numR
              repeat' split
              all_goals first | rfl | (exfalso; omega) | (exfalso; simp_all; done) | (exfalso; simp_all; omega) | (simp_all; done)
            rw [e]
            exact ⟨rfl, _, _, _, _, _, _, a1, c1, a2, c2, rfl, rfl⟩
          · first | exact Ent.refl _ | exact Ent.nil _ | exact Take.ent' (by repeat' constructor) | (repeat (first | exact Ent.refl _ | refine Ent.drop ?_))

theorem wrong_spec (g : Nat) (K W H M n rows last e : Int) (stp : Value) [OneC stp] (a1 a2 : Option Addr) (c1 c2 : Nat) (one row : List Int) (x : Int) : Fn Tryz.prog 171 #[.pointer (some ⟨g, 0, none⟩), .int .i64 x] [blk g [.int .i64 K, .int .i64 W, .int .i64 H, .int .i64 M, stp, .int .i64 n, .slice a1 one.length c1, .slice a2 row.length c2, .int .i64 rows, .int .i64 last, .int .i64 e] 186, own 3 1 a1 c1 (one).length (ints one), own 92 1 a2 c2 (row).length (pxs row)] (fun v l => v = .tuple #[.slice none 0 0, .int .i64 2] ∧ ∃ n' one' row' rows' last' e' a1 c1 a2 c2, (⟨n', one', row', rows', last', e'⟩ : RS) = wrongR ⟨n, one, row, rows, last, e⟩ x ∧ l = [blk g [.int .i64 K, .int .i64 W, .int .i64 H, .int .i64 M, stp, .int .i64 n', .slice a1 one'.length c1, .slice a2 row'.length c2, .int .i64 rows', .int .i64 last', .int .i64 e'] 186, own 3 1 a1 c1 (one').length (ints one'), own 92 1 a2 c2 (row').length (pxs row')]) := by
  refine Fn.intro (vs := [.pointer (some ⟨g, 0, none⟩), .int .i64 x]) Tryz.func171 rfl Tryz.ntmps171 rfl ?_
  refine Wp.seq ?_
  refine Wp.region ?_
  refine s_as rfl rfl ?_
  refine s_as rfl rfl ?_
  refine WpL.nil ?_
  refine Wp.seq ?_
  refine Wp.region ?_
  refine s_mv rfl rfl ?_
  refine s_mv rfl rfl ?_
  refine s_mv rfl rfl ?_
  refine s_nc rfl rfl ?_
  refine s_fa (o2 := 10) rfl rfl rfl ?_
  refine s_st rfl rfl rfl ?_
  refine s_nc rfl rfl ?_
  refine s_fa (o2 := 9) rfl rfl rfl ?_
  refine s_st rfl rfl rfl ?_
  refine WpL.nil ?_
  refine Wp.seq ?_
  apply Wp.draw mixed [⟨13, _, []⟩, ⟨14, _, [0]⟩, ⟨15, _, [1]⟩, ⟨16, _, [2]⟩, ⟨4, _, []⟩, ⟨5, _, [3, 4, 0, 1, 2]⟩] rfl
  · refine AllObs.mk ?_ ?_
    · refine s_mv rfl rfl ?_
      exact obN rfl
    refine AllObs.mk ?_ ?_
    · refine s_nc rfl rfl ?_
      exact obN rfl
    refine AllObs.mk ?_ ?_
    · refine s_fa (o2 := 9) rfl rfl rfl ?_
      exact obN rfl
    refine AllObs.mk ?_ ?_
    · refine s_ld rfl rfl (by rfl) ?_
      exact obN rfl
    refine AllObs.mk ?_ ?_
    · refine s_as rfl rfl ?_
      exact obN rfl
    refine AllObs.mk ?_ ?_
    · refine s_as rfl rfl ?_
      exact obN rfl
    exact AllObs.nil
  · refine Wp.ret ?_
    apply RetQ.mk
    · exact (Res.two rfl rfl rfl)
    · exact ⟨rfl, _, _, _, _, _, _, a1, c1, a2, c2, rfl, rfl⟩
    · first | exact Ent.refl _ | exact Ent.nil _ | exact Take.ent' (by repeat' constructor) | (repeat (first | exact Ent.refl _ | refine Ent.drop ?_))

theorem full_spec (g : Nat) (K W H M n rows last e : Int) (stp : Value) [OneC stp] (a1 a2 : Option Addr) (c1 c2 : Nat) (one row : List Int) (h3 : 0 ≤ rows) (h4 : rows ≤ 2 ^ 60) : Fn Tryz.prog 115 #[.pointer (some ⟨g, 0, none⟩)] [blk g [.int .i64 K, .int .i64 W, .int .i64 H, .int .i64 M, stp, .int .i64 n, .slice a1 one.length c1, .slice a2 row.length c2, .int .i64 rows, .int .i64 last, .int .i64 e] 186, own 3 1 a1 c1 (one).length (ints one), own 92 1 a2 c2 (row).length (pxs row)] (fun v l => ∃ n' one' row' rows' last' e' out a1 c1 a2 c2 a3 c3, ((⟨n', one', row', rows', last', e'⟩ : RS), out) = fullR W H ⟨n, one, row, rows, last, e⟩ ∧ v = .slice a3 out.length c3 ∧ l = [blk g [.int .i64 K, .int .i64 W, .int .i64 H, .int .i64 M, stp, .int .i64 n', .slice a1 one'.length c1, .slice a2 row'.length c2, .int .i64 rows', .int .i64 last', .int .i64 e'] 186, own 3 1 a1 c1 (one').length (ints one'), own 92 1 a2 c2 (row').length (pxs row'), own 92 1 a3 c3 (out).length (pxs out)] ∧ (1 ≤ W → out = [] → a3 = none)) := by
  refine Fn.intro (vs := [.pointer (some ⟨g, 0, none⟩)]) Tryz.func115 rfl Tryz.ntmps115 rfl ?_
  refine Wp.seq ?_
  refine Wp.region ?_
  refine s_as rfl rfl ?_
  refine WpL.nil ?_
  refine Wp.seq ?_
  refine Wp.seq ?_
  apply Wp.draw mixed [⟨4, _, []⟩, ⟨5, _, [0]⟩, ⟨6, _, [1]⟩, ⟨7, _, [2]⟩, ⟨8, _, [3]⟩, ⟨9, _, []⟩, ⟨10, _, [5]⟩, ⟨11, _, [6]⟩, ⟨12, _, [7]⟩, ⟨13, _, [8]⟩, ⟨14, _, [4, 9]⟩] rfl
  · refine AllObs.mk ?_ ?_
    · refine s_mv rfl rfl ?_
      exact obN rfl
    refine AllObs.mk ?_ ?_
    · refine s_nc rfl rfl ?_
      exact obN rfl
    refine AllObs.mk ?_ ?_
    · refine s_fa (o2 := 7) rfl rfl rfl ?_
      exact obN rfl
    refine AllObs.mk ?_ ?_
    · refine s_ld rfl rfl (by rfl) ?_
      exact obN rfl
    refine AllObs.mk ?_ ?_
    · refine s_lenl rfl rfl ?_
      exact WpL.nil ⟨rfl, rfl, rfl, by first | exact Ent.refl _ | exact Ent.nil _ | exact Take.ent' (by repeat' constructor) | (repeat (first | exact Ent.refl _ | refine Ent.drop ?_))⟩
    refine AllObs.mk ?_ ?_
    · refine s_mv rfl rfl ?_
      exact obN rfl
    refine AllObs.mk ?_ ?_
    · refine s_nc rfl rfl ?_
      exact obN rfl
    refine AllObs.mk ?_ ?_
    · refine s_fa (o2 := 0) rfl rfl rfl ?_
      exact obN rfl
    refine AllObs.mk ?_ ?_
    · refine s_fa (o2 := 1) rfl rfl rfl ?_
      exact obN rfl
    refine AllObs.mk ?_ ?_
    · refine s_ld rfl rfl (by rfl) ?_
      exact obN rfl
    refine AllObs.mk ?_ ?_
    · refine s_lt rfl rfl rfl ?_
      exact obN rfl
    exact AllObs.nil
  · refine Wp.condD rfl (fun h0 => ?_) (fun h0 => ?_)
    · refine Wp.seq ?_
      refine Wp.region ?_
      refine s_as rfl rfl ?_
      refine WpL.nil ?_
      refine Wp.ret ?_
      apply RetQ.mk
      · exact (Res.one rfl rfl)
      · have e : fullR W H ⟨n, one, row, rows, last, e⟩ = (⟨n, one, row, rows, last, e⟩, []) := if_pos h0
        rw [e]
        exact ⟨_, _, _, _, _, _, [], a1, c1, a2, c2, none, 0, rfl, rfl, rfl, fun _ _ => rfl⟩
      · exact (Ent.own_nil (Ent.refl _)).trans (Take.ent' (by repeat' constructor))
    · refine Wp.skip ?_
      refine Wp.seq ?_
      refine Wp.region ?_
      refine s_mv rfl rfl ?_
      refine s_nc rfl rfl ?_
      refine s_fa (o2 := 7) rfl rfl rfl ?_
      refine s_ld rfl rfl (by rfl) ?_
      refine s_as rfl rfl ?_
      refine WpL.nil ?_
      refine Wp.seq ?_
      refine Wp.region ?_
      refine s_mv rfl rfl ?_
      refine s_nc rfl rfl ?_
      refine s_fa (o2 := 7) rfl rfl rfl ?_
      refine s_st rfl rfl rfl ?_
      refine WpL.nil ?_
      refine Wp.seq ?_
      refine Wp.region ?_
      refine s_mv rfl rfl ?_
      refine s_nc rfl rfl ?_
      refine s_fa (o2 := 8) rfl rfl rfl ?_
      refine s_ld rfl rfl (by rfl) ?_
      first | refine s_add rfl rfl rfl (w_i64 (by omega) (by omega)) ?_ | refine s_addw rfl rfl rfl ?_
      refine s_nc rfl rfl ?_
      refine s_fa (o2 := 8) rfl rfl rfl ?_
      refine s_st rfl rfl rfl ?_
      refine WpL.nil ?_
      refine Wp.seq ?_
      refine Wp.seq ?_
      apply Wp.draw mixed [⟨29, _, []⟩, ⟨30, _, [0]⟩, ⟨31, _, [1]⟩, ⟨32, _, [2]⟩, ⟨33, _, []⟩, ⟨34, _, [4]⟩, ⟨35, _, [5]⟩, ⟨36, _, [6]⟩, ⟨37, _, [7]⟩, ⟨38, _, [3, 8]⟩] rfl
      · refine AllObs.mk ?_ ?_
        · refine s_mv rfl rfl ?_
          exact obN rfl
        refine AllObs.mk ?_ ?_
        · refine s_nc rfl rfl ?_
          exact obN rfl
        refine AllObs.mk ?_ ?_
        · refine s_fa (o2 := 8) rfl rfl rfl ?_
          exact obN rfl
        refine AllObs.mk ?_ ?_
        · refine s_ld rfl rfl (by rfl) ?_
          exact obN rfl
        refine AllObs.mk ?_ ?_
        · refine s_mv rfl rfl ?_
          exact obN rfl
        refine AllObs.mk ?_ ?_
        · refine s_nc rfl rfl ?_
          exact obN rfl
        refine AllObs.mk ?_ ?_
        · refine s_fa (o2 := 0) rfl rfl rfl ?_
          exact obN rfl
        refine AllObs.mk ?_ ?_
        · refine s_fa (o2 := 2) rfl rfl rfl ?_
          exact obN rfl
        refine AllObs.mk ?_ ?_
        · refine s_ld rfl rfl (by rfl) ?_
          exact obN rfl
        refine AllObs.mk ?_ ?_
        · refine s_eq rfl rfl rfl ?_
          exact obN rfl
        exact AllObs.nil
      · refine Wp.condD rfl (fun h1 => ?_) (fun h1 => ?_)
        · refine Wp.region ?_
          refine s_mv rfl rfl ?_
          refine s_nc rfl rfl ?_
          refine s_fa (o2 := 9) rfl rfl rfl ?_
          refine s_st rfl rfl rfl ?_
          refine WpL.nil ?_
          refine Wp.seq ?_
          refine Wp.region ?_
          refine s_mv rfl rfl ?_
          refine s_as rfl rfl ?_
          refine WpL.nil ?_
          refine Wp.ret ?_
          apply RetQ.mk
          · exact (Res.one rfl rfl)
          · have e : fullR W H ⟨n, one, row, rows, last, e⟩ = (⟨n, one, [], rows + 1, 1, e⟩, row) := (if_neg h0).trans (by rw [if_pos h1])
            rw [e]
            exact ⟨_, _, _, _, _, _, row, a1, c1, none, 0, a2, c2, rfl, rfl, rfl, fun hW hr => (by subst hr; simp at h0; omega)⟩
          · exact (Ent.own_nil (Ent.refl _)).trans (Take.ent' (by repeat' constructor))
        · refine Wp.skip ?_
          refine Wp.seq ?_
          refine Wp.region ?_
          refine s_mv rfl rfl ?_
          refine s_as rfl rfl ?_
          refine WpL.nil ?_
          refine Wp.ret ?_
          apply RetQ.mk
          · exact (Res.one rfl rfl)
          · have e : fullR W H ⟨n, one, row, rows, last, e⟩ = (⟨n, one, [], rows + 1, last, e⟩, row) := (if_neg h0).trans (by rw [if_neg h1])
            rw [e]
            exact ⟨_, _, _, _, _, _, row, a1, c1, none, 0, a2, c2, rfl, rfl, rfl, fun hW hr => (by subst hr; simp at h0; omega)⟩
          · exact (Ent.own_nil (Ent.refl _)).trans (Take.ent' (by repeat' constructor))


theorem endsR_keep (ch : Int) (s : RS) : (endsR ch s).rows = s.rows ∧ (endsR ch s).last = s.last ∧ (endsR ch s).e = s.e := by unfold endsR; split <;> exact ⟨rfl, rfl, rfl⟩
theorem stepR_keep (K M : Int) (s : RS) (c : Int) : (stepR K M s c).1.rows = s.rows ∧ (stepR K M s c).1.last = s.last ∧ (stepR K M s c).1.e = s.e := by
  unfold stepR bitR numR
  repeat' split
  all_goals first | exact ⟨rfl, rfl, rfl⟩ | exact endsR_keep _ _

theorem Put_gen (g : Nat) (K W H M n rows last e : Int) (stp : Value) [OneC stp] (a1 a2 : Option Addr) (c1 c2 : Nat) (one row : List Int) (c : Int) (f : Nat) [Ent1 Tryz.prog f] (hst : stp = .func (.func f) #[] #[]) (hf : Fn Tryz.prog f #[.pointer (some ⟨g, 0, none⟩), .int .u8 c] [blk g [.int .i64 K, .int .i64 W, .int .i64 H, .int .i64 M, stp, .int .i64 n, .slice a1 one.length c1, .slice a2 row.length c2, .int .i64 rows, .int .i64 last, .int .i64 e] 186, own 3 1 a1 c1 (one).length (ints one), own 92 1 a2 c2 (row).length (pxs row)] (fun v l => v = .int .i64 (stepR K M ⟨n, one, row, rows, last, e⟩ c).2 ∧ ∃ n' one' row' rows' last' e' a1 c1 a2 c2, (⟨n', one', row', rows', last', e'⟩ : RS) = (stepR K M ⟨n, one, row, rows, last, e⟩ c).1 ∧ l = [blk g [.int .i64 K, .int .i64 W, .int .i64 H, .int .i64 M, stp, .int .i64 n', .slice a1 one'.length c1, .slice a2 row'.length c2, .int .i64 rows', .int .i64 last', .int .i64 e'] 186, own 3 1 a1 c1 (one').length (ints one'), own 92 1 a2 c2 (row').length (pxs row')])) (h3 : 0 ≤ rows) (h4 : rows ≤ 2 ^ 60) : Fn Tryz.prog 127 #[.pointer (some ⟨g, 0, none⟩), .int .u8 c] [blk g [.int .i64 K, .int .i64 W, .int .i64 H, .int .i64 M, stp, .int .i64 n, .slice a1 one.length c1, .slice a2 row.length c2, .int .i64 rows, .int .i64 last, .int .i64 e] 186, own 3 1 a1 c1 (one).length (ints one), own 92 1 a2 c2 (row).length (pxs row)] (fun v l => ∃ n' one' row' rows' last' e' out a1 c1 a2 c2 a3 c3, ((⟨n', one', row', rows', last', e'⟩ : RS), out) = putR K W H M ⟨n, one, row, rows, last, e⟩ c ∧ v = .tuple #[.slice a3 out.length c3, .int .i64 last'] ∧ l = [blk g [.int .i64 K, .int .i64 W, .int .i64 H, .int .i64 M, stp, .int .i64 n', .slice a1 one'.length c1, .slice a2 row'.length c2, .int .i64 rows', .int .i64 last', .int .i64 e'] 186, own 3 1 a1 c1 (one').length (ints one'), own 92 1 a2 c2 (row').length (pxs row'), own 92 1 a3 c3 (out).length (pxs out)] ∧ (1 ≤ W → out = [] → a3 = none)) := by
  subst hst
  refine Fn.intro (vs := [.pointer (some ⟨g, 0, none⟩), .int .u8 c]) Tryz.func127 rfl Tryz.ntmps127 rfl ?_
  refine Wp.seq ?_
  refine Wp.region ?_
  refine s_as rfl rfl ?_
  refine s_as rfl rfl ?_
  refine WpL.nil ?_
  refine Wp.seq ?_
  refine Wp.seq ?_
  refine Wp.region ?_
  refine s_mv rfl rfl ?_
  refine s_nc rfl rfl ?_
  refine s_fa (o2 := 9) rfl rfl rfl ?_
  refine s_ld rfl rfl (by rfl) ?_
  refine s_ne rfl rfl rfl ?_
  refine WpL.nil ?_
  refine Wp.condD rfl (fun h0 => ?_) (fun h0 => ?_)
  · refine Wp.seq ?_
    apply Wp.draw mixed [⟨13, _, []⟩, ⟨14, _, [0]⟩, ⟨15, _, [1]⟩, ⟨16, _, [2]⟩, ⟨4, _, []⟩, ⟨5, _, [3, 4, 0, 1, 2]⟩] rfl
    · refine AllObs.mk ?_ ?_
      · refine s_mv rfl rfl ?_
        exact obN rfl
      refine AllObs.mk ?_ ?_
      · refine s_nc rfl rfl ?_
        exact obN rfl
      refine AllObs.mk ?_ ?_
      · refine s_fa (o2 := 9) rfl rfl rfl ?_
        exact obN rfl
      refine AllObs.mk ?_ ?_
      · refine s_ld rfl rfl (by rfl) ?_
        exact obN rfl
      refine AllObs.mk ?_ ?_
      · refine s_as rfl rfl ?_
        exact obN rfl
      refine AllObs.mk ?_ ?_
      · refine s_as rfl rfl ?_
        exact obN rfl
      exact AllObs.nil
    · refine Wp.ret ?_
      apply RetQ.mk
      · exact (Res.two rfl rfl rfl)
      · have e : putR K W H M ⟨n, one, row, rows, last, e⟩ c = (⟨n, one, row, rows, last, e⟩, []) := if_pos h0
        rw [e]
        exact ⟨_, _, _, _, _, _, [], a1, c1, a2, c2, none, 0, rfl, rfl, rfl, fun _ _ => rfl⟩
      · exact (Ent.own_nil (Ent.refl _)).trans (Take.ent' (by repeat' constructor))
  · refine Wp.skip ?_
    refine Wp.seq ?_
    refine Wp.seq ?_
    refine Wp.region ?_
    refine s_mv rfl rfl ?_
    refine s_nc rfl rfl ?_
    refine s_fa (o2 := 4) rfl rfl rfl ?_
    refine s_ld rfl rfl (by rfl) ?_
    refine s_mv rfl rfl ?_
    refine s_mv rfl rfl ?_
    refine s_call (u := []) (c := []) rfl rfl rfl rfl (by repeat' constructor) (hf) ?_
    rintro _ _ ⟨rfl, n', one', row', rows', last', e', a1, c1, a2, c2, hs, rfl⟩
    simp only [napp]
    have hk := stepR_keep K M ⟨n, one, row, rows, last, e⟩ c
    rw [← hs] at hk
    have hk1 : rows' = rows := hk.1
    have hk2 : last' = last := hk.2.1
    refine s_as rfl rfl ?_
    refine WpL.nil ?_
    refine Wp.seq ?_
    refine Wp.region ?_
    refine s_mv rfl rfl ?_
    refine s_ne rfl rfl rfl ?_
    refine WpL.nil ?_
    refine Wp.condD rfl (fun h1 => ?_) (fun h1 => ?_)
    · refine Wp.seq ?_
      refine Wp.region ?_
      refine s_mv rfl rfl ?_
      refine s_mv rfl rfl ?_
      refine s_callf rfl rfl (by repeat' constructor) (wrong_spec _ _ _ _ _ _ _ _ _ _ _ _ _ _ _ _ _) ?_
      rintro _ _ ⟨rfl, n2, one2, row2, rows2, last2, e2, a1, c1, a2, c2, hs2, rfl⟩
      simp only [napp]
      obtain rfl : last2 = 2 := congrArg RS.last hs2
      refine s_ext rfl rfl rfl ?_
      refine s_ext rfl rfl rfl ?_
      refine s_as rfl rfl ?_
      refine s_as rfl rfl ?_
      refine WpL.nil ?_
      refine Wp.ret ?_
      apply RetQ.mk
      · exact (Res.two rfl rfl rfl)
      · have e : putR K W H M ⟨n, one, row, rows, last, e⟩ c = (wrongR (stepR K M ⟨n, one, row, rows, last, e⟩ c).1 (stepR K M ⟨n, one, row, rows, last, e⟩ c).2, []) := (if_neg h0).trans (if_pos h1)
        rw [e, ← hs]
        exact ⟨_, _, _, _, _, _, [], a1, c1, a2, c2, none, 0, (congrArg (·, []) hs2), rfl, rfl, fun _ _ => rfl⟩
      · exact (Ent.own_nil (Ent.refl _)).trans (Take.ent' (by repeat' constructor))
    · refine Wp.skip ?_
      refine Wp.seq ?_
      refine Wp.region ?_
      refine s_mv rfl rfl ?_
      refine s_callf rfl rfl (by repeat' constructor) (full_spec _ _ _ _ _ _ _ _ _ _ _ _ _ _ _ _ (by omega) (by omega)) ?_
      rintro _ _ ⟨n2, one2, row2, rows2, last2, e2, out, a1, c1, a2, c2, a3, c3, hs2, rfl, rfl, hnl2⟩
      simp only [napp]
      refine s_as rfl rfl ?_
      refine WpL.nil ?_
      refine Wp.seq ?_
      apply Wp.draw mixed [⟨33, _, []⟩, ⟨34, _, []⟩, ⟨35, _, [1]⟩, ⟨36, _, [2]⟩, ⟨37, _, [3]⟩, ⟨4, _, [0]⟩, ⟨5, _, [4, 5, 0, 1, 2, 3]⟩] rfl
      · refine AllObs.mk ?_ ?_
        · refine s_mv rfl rfl ?_
          exact obN rfl
        refine AllObs.mk ?_ ?_
        · refine s_mv rfl rfl ?_
          exact obN rfl
        refine AllObs.mk ?_ ?_
        · refine s_nc rfl rfl ?_
          exact obN rfl
        refine AllObs.mk ?_ ?_
        · refine s_fa (o2 := 9) rfl rfl rfl ?_
          exact obN rfl
        refine AllObs.mk ?_ ?_
        · refine s_ld rfl rfl (by rfl) ?_
          exact obN rfl
        refine AllObs.mk ?_ ?_
        · refine s_as rfl rfl ?_
          exact obN rfl
        refine AllObs.mk ?_ ?_
        · refine s_as rfl rfl ?_
          exact obN rfl
        exact AllObs.nil
      · refine Wp.ret ?_
        apply RetQ.mk
        · exact (Res.two rfl rfl rfl)
        · have e : putR K W H M ⟨n, one, row, rows, last, e⟩ c = fullR W H (stepR K M ⟨n, one, row, rows, last, e⟩ c).1 := (if_neg h0).trans (if_neg h1)
          rw [e, ← hs]
          exact ⟨_, _, _, _, _, _, _, a1, c1, a2, c2, a3, c3, hs2, rfl, rfl, hnl2⟩
        · first | exact Ent.refl _ | exact Ent.nil _ | exact Take.ent' (by repeat' constructor) | (repeat (first | exact Ent.refl _ | refine Ent.drop ?_))

theorem Error_spec (g : Nat) (K W H M n rows last e : Int) (stp : Value) [OneC stp] (a1 a2 : Option Addr) (c1 c2 : Nat) (one row : List Int) : Fn Tryz.prog 128 #[.pointer (some ⟨g, 0, none⟩)] [blk g [.int .i64 K, .int .i64 W, .int .i64 H, .int .i64 M, stp, .int .i64 n, .slice a1 one.length c1, .slice a2 row.length c2, .int .i64 rows, .int .i64 last, .int .i64 e] 186, own 3 1 a1 c1 (one).length (ints one), own 92 1 a2 c2 (row).length (pxs row)] (fun v l => v = .int .i64 e ∧ l = [blk g [.int .i64 K, .int .i64 W, .int .i64 H, .int .i64 M, stp, .int .i64 n, .slice a1 one.length c1, .slice a2 row.length c2, .int .i64 rows, .int .i64 last, .int .i64 e] 186, own 3 1 a1 c1 (one).length (ints one), own 92 1 a2 c2 (row).length (pxs row)]) := by
  refine Fn.intro (vs := [.pointer (some ⟨g, 0, none⟩)]) Tryz.func128 rfl Tryz.ntmps128 rfl ?_
  refine Wp.seq ?_
  refine Wp.region ?_
  refine s_as rfl rfl ?_
  refine WpL.nil ?_
  refine Wp.seq ?_
  refine Wp.region ?_
  refine s_mv rfl rfl ?_
  refine s_nc rfl rfl ?_
  refine s_fa (o2 := 10) rfl rfl rfl ?_
  refine s_ld rfl rfl (by rfl) ?_
  refine s_as rfl rfl ?_
  refine WpL.nil ?_
  refine Wp.ret ?_
  apply RetQ.mk
  · exact (Res.one rfl rfl)
  · exact ⟨rfl, rfl⟩
  · first | exact Ent.refl _ | exact Ent.nil _ | exact Take.ent' (by repeat' constructor) | (repeat (first | exact Ent.refl _ | refine Ent.drop ?_))

def PlainH (K W H M : Int) : Prop := MayH K W H M ∧ ¬ (4 ≤ K ∧ K ≤ 6)
instance (K W H M : Int) : Decidable (PlainH K W H M) := by unfold PlainH; infer_instance
def stpOf (K : Int) : Value := if K = 1 then .func (.func 170) #[] #[] else .func (.func 169) #[] #[]
instance (K : Int) : OneC (stpOf K) := by unfold stpOf; split <;> infer_instance

theorem New_spec (K W H M : Int) : Fn Tryz.prog 126 #[.agg #[.int .i64 K, .int .i64 W, .int .i64 H, .int .i64 M]] [] (fun v l => (PlainH K W H M ∧ ∃ g, v = .tuple #[.pointer (some ⟨g, 0, none⟩), .int .i64 0] ∧ l = [blk g [.int .i64 K, .int .i64 W, .int .i64 H, .int .i64 M, stpOf K, .int .i64 (-1), .slice none 0 0, .slice none 0 0, .int .i64 0, .int .i64 0, .int .i64 0] 186, own 3 1 none 0 0 (ints []), own 92 1 none 0 0 (pxs [])]) ∨ (¬ PlainH K W H M ∧ v = .tuple #[.pointer none, .int .i64 1] ∧ l = [])) := by
  refine Fn.intro (vs := [.agg #[.int .i64 K, .int .i64 W, .int .i64 H, .int .i64 M]]) Tryz.func126 rfl Tryz.ntmps126 rfl ?_
  refine Wp.seq ?_
  refine Wp.region ?_
  refine s_box rfl rfl rfl ?_
  intro g1
  refine s_as rfl rfl ?_
  refine s_as rfl rfl ?_
  refine WpL.nil ?_
  refine Wp.seq ?_
  refine Wp.seq ?_
  refine Wp.region ?_
  refine s_lda (vs := [_, _, _, _]) rfl rfl rfl (by rfl) ?_
  refine s_callf rfl rfl (by repeat' constructor) (May_spec _ _ _ _) ?_
  rintro _ _ ⟨rfl, rfl⟩
  simp only [napp]
  refine s_notD rfl rfl ?_
  refine s_mv rfl rfl ?_
  refine WpL.grd rfl rfl rfl (fun hg1 => ?_) (fun hg1 => ?_)
  · have hg1 := of_decide_eq_false hg1
    refine s_lda (vs := [_, _, _, _]) rfl rfl rfl (by rfl) ?_
    refine WpL.gon rfl rfl ?_
    refine s_callf rfl rfl (by repeat' constructor) (Raw_spec _ _ _ _) ?_
    rintro _ _ ⟨rfl, rfl⟩
    simp only [napp]
    refine s_pickF rfl rfl rfl ?_
    refine WpL.nil ?_
    refine Wp.condD rfl (fun h0 => ?_) (fun h0 => ?_)
    · refine Wp.seq ?_
      refine Wp.region ?_
      refine s_as rfl rfl ?_
      refine s_as rfl rfl ?_
      refine WpL.nil ?_
      refine Wp.ret ?_
      apply RetQ.mk
      · exact (Res.two rfl rfl rfl)
      · exact Or.inr ⟨fun h => h.2 h0, rfl, rfl⟩
      · first | exact Ent.refl _ | exact Ent.nil _ | exact Take.ent' (by repeat' constructor) | (repeat (first | exact Ent.refl _ | refine Ent.drop ?_))
    · refine Wp.skip ?_
      refine Wp.seq ?_
      refine Wp.region ?_
      refine s_lda (vs := [_, _, _, _]) rfl rfl rfl (by rfl) ?_
      refine s_bd rfl rfl ?_
      refine s_box rfl rfl rfl ?_
      intro g2
      refine s_as rfl rfl ?_
      refine WpL.nil ?_
      refine Wp.seq ?_
      refine Wp.seq ?_
      refine Wp.region ?_
      refine s_fa (o2 := 0) rfl rfl rfl ?_
      refine s_ld rfl rfl (by rfl) ?_
      refine s_eq rfl rfl rfl ?_
      refine WpL.nil ?_
      refine Wp.condD rfl (fun h1 => ?_) (fun h1 => ?_)
      · refine Wp.region ?_
        refine s_mv rfl rfl ?_
        refine s_nc rfl rfl ?_
        refine s_fa (o2 := 4) rfl rfl rfl ?_
        refine s_st rfl rfl rfl ?_
        refine WpL.nil ?_
        refine Wp.seq ?_
        refine Wp.region ?_
        refine s_mv rfl rfl ?_
        refine s_as rfl rfl ?_
        refine s_as rfl rfl ?_
        refine WpL.nil ?_
        refine Wp.ret ?_
        apply RetQ.mk
        · exact (Res.two rfl rfl rfl)
        · exact Or.inl ⟨⟨Classical.not_not.1 hg1, h0⟩, g2, rfl, rfl⟩
        · rw [show stpOf K = _ from if_pos h1]
          exact ((Ent.own_nil (Ent.refl _)).trans ((Ent.own_nil (Ent.refl _)).trans (Take.ent' (by repeat' constructor))))
      · refine Wp.skip ?_
        refine Wp.seq ?_
        refine Wp.region ?_
        refine s_mv rfl rfl ?_
        refine s_as rfl rfl ?_
        refine s_as rfl rfl ?_
        refine WpL.nil ?_
        refine Wp.ret ?_
        apply RetQ.mk
        · exact (Res.two rfl rfl rfl)
        · exact Or.inl ⟨⟨Classical.not_not.1 hg1, h0⟩, g2, rfl, rfl⟩
        · rw [show stpOf K = _ from if_neg h1]
          exact ((Ent.own_nil (Ent.refl _)).trans ((Ent.own_nil (Ent.refl _)).trans (Take.ent' (by repeat' constructor))))
  · have hg1 := of_decide_eq_true hg1
    refine WpL.goff rfl rfl rfl (by decide) ?_
    refine s_pickT rfl rfl rfl ?_
    refine WpL.nil ?_
    refine Wp.condT rfl ?_
    refine Wp.seq ?_
    refine Wp.region ?_
    refine s_as rfl rfl ?_
    refine s_as rfl rfl ?_
    refine WpL.nil ?_
    refine Wp.ret ?_
    apply RetQ.mk
    · exact (Res.two rfl rfl rfl)
    · exact Or.inr ⟨fun h => hg1 h.1, rfl, rfl⟩
    · first | exact Ent.refl _ | exact Ent.nil _ | exact Take.ent' (by repeat' constructor) | (repeat (first | exact Ent.refl _ | refine Ent.drop ?_))

theorem Put_spec (g : Nat) (K W H M n rows last e : Int) (stp : Value) [OneC stp] (a1 a2 : Option Addr) (c1 c2 : Nat) (one row : List Int) (c : Int) (hst : stp = stpOf K) (hK : 0 ≤ K) (h1 : one.length ≤ 3) (h2 : row.length ≤ 1000000000000) (hc : 0 ≤ c) (hc2 : c ≤ 255) (hM : 0 ≤ M) (hN : M ≤ 2 ^ 60) (h3 : 0 ≤ rows) (h4 : rows ≤ 2 ^ 60) :
    Fn Tryz.prog 127 #[.pointer (some ⟨g, 0, none⟩), .int .u8 c] [blk g [.int .i64 K, .int .i64 W, .int .i64 H, .int .i64 M, stp, .int .i64 n, .slice a1 one.length c1, .slice a2 row.length c2, .int .i64 rows, .int .i64 last, .int .i64 e] 186, own 3 1 a1 c1 (one).length (ints one), own 92 1 a2 c2 (row).length (pxs row)] (fun v l => ∃ n' one' row' rows' last' e' out a1 c1 a2 c2 a3 c3, ((⟨n', one', row', rows', last', e'⟩ : RS), out) = putR K W H M ⟨n, one, row, rows, last, e⟩ c ∧ v = .tuple #[.slice a3 out.length c3, .int .i64 last'] ∧ l = [blk g [.int .i64 K, .int .i64 W, .int .i64 H, .int .i64 M, stp, .int .i64 n', .slice a1 one'.length c1, .slice a2 row'.length c2, .int .i64 rows', .int .i64 last', .int .i64 e'] 186, own 3 1 a1 c1 (one').length (ints one'), own 92 1 a2 c2 (row').length (pxs row'), own 92 1 a3 c3 (out).length (pxs out)] ∧ (1 ≤ W → out = [] → a3 = none)) := by
  by_cases h : K = 1
  · refine Put_gen g K W H M n rows last e stp a1 a2 c1 c2 one row c 170 (hst.trans (if_pos h)) ?_ h3 h4
    have := bit_spec g K W H M n rows last e stp a1 a2 c1 c2 one row hK h1 h2 c hc hc2
    rw [show stepR K M ⟨n, one, row, rows, last, e⟩ c = bitR (chK K) ⟨n, one, row, rows, last, e⟩ c from if_pos h]
    exact this
  · refine Put_gen g K W H M n rows last e stp a1 a2 c1 c2 one row c 169 (hst.trans (if_neg h)) ?_ h3 h4
    have := number_spec g K W H M n rows last e stp a1 a2 c1 c2 one row hK h1 h2 c hc hc2 hM hN
    rw [show stepR K M ⟨n, one, row, rows, last, e⟩ c = numR (chK K) M ⟨n, one, row, rows, last, e⟩ c from if_neg h]
    exact this

end Go.Proofs.YtggamdlpiejbiaaGreat
