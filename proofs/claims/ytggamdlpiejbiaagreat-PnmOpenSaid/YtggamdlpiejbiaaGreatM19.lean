/- Walks and plain laws, a part of the proof of PnmOpen: every input that the law's guards let in, no condition beside. -/
import Derived.Test.YtggamdlpiejbiaaGreatM18
namespace Go.Proofs.YtggamdlpiejbiaaGreat
open Go.RowKit Go.Shelf


theorem psR_cl {g : Nat} {a b d told imgs e : Int} {over : Bool} {hp bv : Value} {hd : Option HS} {ph : Int} {bd : Bd} {F : List HP} :
    Ent (blk g [.int .i64 a, .int .i64 b, .int .i64 d, (pnV g ph), hp, bv, .int .i64 told, .int .i64 imgs, .bool over, .int .i64 e] 123 :: hdO (lim0 a) (lim1 b) (lim2 d) hp hd :: bdR bv (hd.getD hd0) bd :: F) (psR g a b d ⟨hd, ph, bd, told, imgs, over, e⟩ :: F) := Ent.exs (hp, bv) (Ent.refl _)
theorem hdO_cl {l0 l1 l2 : Int} {gh : Nat} {h : HS} {F : List HP} : Ent (hdR gh l0 l1 l2 h :: F) (hdO l0 l1 l2 (.pointer (some ⟨gh, 0, none⟩)) (some h) :: F) := Ent.exs gh (Ent.pur rfl (Ent.refl _))
theorem bdR_no {h : HS} {F : List HP} : Ent F (bdR .nilIface h .no :: F) := Ent.pur rfl (Ent.refl _)
theorem evO_0 {F : List HP} : Ent F (evO (.slice none 0 0) [] :: F) := Ent.exs (none, 0, none, 0) (Ent.pur rfl (Ent.own_nil (Ent.own_nil (Ent.refl _))))
theorem evO_b {ge : Nat} {C M W H : Int} {F : List HP} : Ent (blk ge [.int .i64 1, .int .i64 C, .int .i64 M, .int .i64 W, .int .i64 H, .slice none 0 0] 51 :: F) (evO (.slice (some ⟨ge, 0, none⟩) 1 1) [⟨1, C, M, W, H, []⟩] :: F) :=
  (Ent.own_blkS (m := 1) (s := 6) rfl (by omega)).trans (Ent.exs (some ⟨ge, 0, none⟩, 1, none, 0) (Ent.pur rfl (((Ent.own_nil (T := 92) (s := 1) (Ent.refl _)).trans Ent.swap))))
theorem evO_r {a a3 : Option Addr} {c c3 : Nat} {row : List Int} {F : List HP} (h : row ≠ []) : Ent (own 51 6 a c 1 [.int .i64 2, .int .i64 0, .int .i64 0, .int .i64 0, .int .i64 0, .slice a3 row.length c3] :: own 92 1 a3 c3 row.length (pxs row) :: F) (evO (.slice a 1 c) (rowE row) :: F) := by
  have e1 : rowE row = [⟨2, 0, 0, 0, 0, row⟩] := if_neg h
  have e2 : evC a3 c3 ⟨2, 0, 0, 0, 0, row⟩ = [.int .i64 2, .int .i64 0, .int .i64 0, .int .i64 0, .int .i64 0, .slice a3 row.length c3] := by unfold evC; rw [if_neg h]
  rw [e1]
  refine Ent.exs (a, c, a3, c3) (Ent.pur rfl ?_)
  simp only [List.flatMap_cons, List.flatMap_nil, e2, List.append_nil, evRow]
  exact Ent.refl _
theorem evO_d {a : Option Addr} {c : Nat} {F : List HP} : Ent (own 51 6 a c 1 [.int .i64 3, .int .i64 0, .int .i64 0, .int .i64 0, .int .i64 0, .slice none 0 0] :: F) (evO (.slice a 1 c) (doneE 1) :: F) :=
  Ent.exs (a, c, none, 0) (Ent.pur rfl ((Ent.own_nil (T := 92) (s := 1) (Ent.refl _)).trans Ent.swap))
theorem evO_rd {a a3 : Option Addr} {c c3 : Nat} {row : List Int} {F : List HP} (h : row ≠ []) : Ent (own 51 6 a c 2 [.int .i64 2, .int .i64 0, .int .i64 0, .int .i64 0, .int .i64 0, .slice a3 row.length c3, .int .i64 3, .int .i64 0, .int .i64 0, .int .i64 0, .int .i64 0, .slice none 0 0] :: own 92 1 a3 c3 row.length (pxs row) :: F) (evO (.slice a 2 c) (rowE row ++ doneE 1) :: F) := by
  have e1 : rowE row ++ doneE 1 = [⟨2, 0, 0, 0, 0, row⟩, ⟨3, 0, 0, 0, 0, []⟩] := by rw [show rowE row = [⟨2, 0, 0, 0, 0, row⟩] from if_neg h]; rfl
  have e2 : evC a3 c3 ⟨2, 0, 0, 0, 0, row⟩ = [.int .i64 2, .int .i64 0, .int .i64 0, .int .i64 0, .int .i64 0, .slice a3 row.length c3] := by unfold evC; rw [if_neg h]
  have e3 : evC a3 c3 ⟨3, 0, 0, 0, 0, []⟩ = [.int .i64 3, .int .i64 0, .int .i64 0, .int .i64 0, .int .i64 0, .slice none 0 0] := by unfold evC; rw [if_pos rfl]
  rw [e1]
  refine Ent.exs (a, c, a3, c3) (Ent.pur rfl ?_)
  simp only [List.flatMap_cons, List.flatMap_nil, e2, e3, List.append_nil, evRow, List.cons_append, List.nil_append]
  exact Ent.refl _

theorem pnEvents_spec (g gb X f : Nat) (a b d told imgs e be : Int) (over : Bool) (stp hp : Value) (B : HP) [InvM0 Tryz.prog "Error" X f] (hErr : Fn Tryz.prog f #[.pointer (some ⟨gb, 0, none⟩)] [B] (fun v l => v = .int .i64 be ∧ l = [B])) (row : List Int) (a3 : Option Addr) (c3 : Nat) (hnl : row = [] → a3 = none) (st : Int) (hst : st = 0 ∨ st = 1 ∨ st = 2) (hi : 0 ≤ imgs ∧ imgs ≤ 2 ^ 60) : Fn Tryz.prog 61 #[.pointer (some ⟨g, 0, none⟩), .slice a3 row.length c3, .int .i64 st] [blk g [.int .i64 a, .int .i64 b, .int .i64 d, stp, hp, (.iface X (.pointer (some ⟨gb, 0, none⟩))), .int .i64 told, .int .i64 imgs, .bool over, .int .i64 e] 123, B, own 92 1 a3 c3 row.length (pxs row)] (fun v l => (st = 2 ∧ l = [blk g [.int .i64 a, .int .i64 b, .int .i64 d, stp, hp, (.iface X (.pointer (some ⟨gb, 0, none⟩))), .int .i64 told, .int .i64 imgs, .bool over, .int .i64 be] 123, B, evO v (rowE row ++ doneE st)]) ∨ (st = 1 ∧ l = [blk g [.int .i64 a, .int .i64 b, .int .i64 d, (pnV g 0), hp, .nilIface, .int .i64 told, .int .i64 (imgs + 1), .bool over, .int .i64 e] 123, B, evO v (rowE row ++ doneE st)]) ∨ (st = 0 ∧ l = [blk g [.int .i64 a, .int .i64 b, .int .i64 d, stp, hp, (.iface X (.pointer (some ⟨gb, 0, none⟩))), .int .i64 told, .int .i64 imgs, .bool over, .int .i64 e] 123, B, evO v (rowE row ++ doneE st)])) := by
  refine Fn.intro (vs := [.pointer (some ⟨g, 0, none⟩), .slice a3 row.length c3, .int .i64 st]) Tryz.func61 rfl Tryz.ntmps61 rfl ?_
  refine Wp.seq ?_
  refine Wp.region ?_
  refine s_as rfl rfl ?_
  refine WpL.nil ?_
  refine Wp.seq ?_
  refine Wp.region ?_
  refine s_as rfl rfl ?_
  refine WpL.nil ?_
  refine Wp.seq ?_
  refine Wp.seq ?_
  refine Wp.region ?_
  refine s_mv rfl rfl ?_
  refine WpL.rowNil (T := 92) (s := 1) (xs := pxs row) (c := c3) (m := row.length) (by repeat' constructor) (fun hnn => ?_)
  refine s_slne rfl Tryz.underlying49 rfl rfl ?_
  refine WpL.nil ?_
  refine Wp.cond rfl (fun h0 => ?_) (fun h0 => ?_)
  · have hne : row ≠ [] := fun h => by rw [hnl h] at h0; cases h0
    refine Wp.region ?_
    refine s_mv rfl rfl ?_
    refine s_mv rfl rfl ?_
    refine s_bd rfl rfl ?_
    refine s_bsA1 rfl rfl (by rfl) (by rfl) (by rfl) (by rfl) ?_
    intro g1
    first | (refine s_app1 rfl rfl rfl (by repeat' constructor) (by rfl) (by rfl) (by rfl) (by rfl) (by omega) (by omega) ?_) | (refine WpL.ent (Ent.own_nil (T := 51) (s := 6) (Ent.refl _)) ?_; refine s_app1 rfl rfl rfl (by repeat' constructor) (by rfl) (by rfl) (by rfl) (by rfl) (by omega) (by omega) ?_)
    intro a14 c14
    refine s_as rfl rfl ?_
    refine WpL.nil ?_
    refine Wp.seq ?_
    refine Wp.seq ?_
    refine Wp.region ?_
    refine s_mv rfl rfl ?_
    refine WpL.nil ?_
    refine Wp.block ?_
    refine Wp.seq ?_
    refine Wp.region ?_
    refine s_eq rfl rfl rfl ?_
    refine s_as rfl rfl ?_
    refine WpL.nil ?_
    refine Wp.condD rfl (fun h1 => ?_) (fun h1 => ?_)
    · refine Wp.region ?_
      refine s_mv rfl rfl ?_
      refine s_mv rfl rfl ?_
      refine s_nc rfl rfl ?_
      refine s_fa (o2 := 5) rfl rfl rfl ?_
      refine s_ld rfl rfl (by rfl) ?_
      refine s_inv0 rfl rfl (by repeat' constructor) (hErr) ?_
      rintro _ _ ⟨rfl, rfl⟩
      simp only [napp]
      refine s_callf rfl rfl (by repeat' constructor) (pnWrong_spec g a b d told imgs e over stp hp (.iface X (.pointer (some ⟨gb, 0, none⟩))) be) ?_
      rintro _ _ ⟨rfl, rfl⟩
      simp only [napp]
      refine WpL.nil ?_
      refine Wp.seq ?_
      refine Wp.region ?_
      refine s_mv rfl rfl ?_
      refine s_as rfl rfl ?_
      refine WpL.nil ?_
      refine Wp.ret ?_
      apply RetQ.mk
      · exact (Res.one rfl rfl)
      · have hev : rowE row ++ doneE st = rowE row := by rw [h1]; exact List.append_nil _
        rw [hev]
        exact .inl ⟨h1, rfl⟩
      · exact Ent.trans (Take.ent' (by repeat' constructor)) (Ent.cons (Ent.cons (evO_r hne)))
    · refine Wp.seq ?_
      refine Wp.region ?_
      refine s_eq rfl rfl rfl ?_
      refine s_as rfl rfl ?_
      refine WpL.nil ?_
      refine Wp.condD rfl (fun h2 => ?_) (fun h2 => ?_)
      · refine Wp.seq ?_
        refine Wp.region ?_
        refine s_mv rfl rfl ?_
        refine s_nc rfl rfl ?_
        refine s_fa (o2 := 7) rfl rfl rfl ?_
        refine s_ld rfl rfl (by rfl) ?_
        first | refine s_add rfl rfl rfl (w_i64 (by omega) (by omega)) ?_ | refine s_addw rfl rfl rfl ?_
        refine s_nc rfl rfl ?_
        refine s_fa (o2 := 7) rfl rfl rfl ?_
        refine s_st rfl rfl rfl ?_
        refine WpL.nil ?_
        refine Wp.seq ?_
        refine Wp.region ?_
        refine s_mv rfl rfl ?_
        refine s_mv rfl rfl ?_
        refine s_mv rfl rfl ?_
        refine s_mkfb rfl rfl rfl ?_
        refine s_nc rfl rfl ?_
        refine s_fa (o2 := 5) rfl rfl rfl ?_
        refine s_st rfl rfl rfl ?_
        refine s_nc rfl rfl ?_
        refine s_fa (o2 := 3) rfl rfl rfl ?_
        refine s_st rfl rfl rfl ?_
        refine WpL.nil ?_
        refine Wp.region ?_
        refine s_mv rfl rfl ?_
        refine s_bd rfl rfl ?_
        refine s_bsA1 rfl rfl (by rfl) (by rfl) (by rfl) (by rfl) ?_
        intro g2
        first | (refine s_app1 rfl rfl rfl (by repeat' constructor) (by rfl) (by rfl) (by rfl) (by rfl) (by omega) (by omega) ?_) | (refine WpL.ent (Ent.own_nil (T := 51) (s := 6) (Ent.refl _)) ?_; refine s_app1 rfl rfl rfl (by repeat' constructor) (by rfl) (by rfl) (by rfl) (by rfl) (by omega) (by omega) ?_)
        intro a45 c45
        refine s_as rfl rfl ?_
        refine WpL.nil ?_
        refine Wp.seq ?_
        refine Wp.region ?_
        refine s_mv rfl rfl ?_
        refine s_as rfl rfl ?_
        refine WpL.nil ?_
        refine Wp.ret ?_
        apply RetQ.mk
        · exact (Res.one rfl rfl)
        · have hev : rowE row ++ doneE st = rowE row ++ doneE 1 := by rw [h2]
          rw [hev]
          exact .inr (.inl ⟨h2, rfl⟩)
        · exact Ent.trans (Take.ent' (by repeat' constructor)) (Ent.cons (Ent.cons (evO_rd hne)))
      · refine Wp.skip ?_
        refine Wp.seq ?_
        refine Wp.region ?_
        refine s_mv rfl rfl ?_
        refine s_as rfl rfl ?_
        refine WpL.nil ?_
        refine Wp.ret ?_
        apply RetQ.mk
        · exact (Res.one rfl rfl)
        · have hev : rowE row ++ doneE st = rowE row := by rw [(show st = 0 by omega)]; exact List.append_nil _
          rw [hev]
          exact .inr (.inr ⟨by omega, rfl⟩)
        · exact Ent.trans (Take.ent' (by repeat' constructor)) (Ent.cons (Ent.cons (evO_r hne)))
  · have hem : row = [] := by
      have := hnn (by cases a3 <;> simp_all)
      simpa [pxs] using this
    have han := hnl hem
    refine Wp.skip ?_
    refine Wp.seq ?_
    refine Wp.seq ?_
    refine Wp.region ?_
    refine s_mv rfl rfl ?_
    refine WpL.nil ?_
    refine Wp.block ?_
    refine Wp.seq ?_
    refine Wp.region ?_
    refine s_eq rfl rfl rfl ?_
    refine s_as rfl rfl ?_
    refine WpL.nil ?_
    refine Wp.condD rfl (fun h1 => ?_) (fun h1 => ?_)
    · refine Wp.region ?_
      refine s_mv rfl rfl ?_
      refine s_mv rfl rfl ?_
      refine s_nc rfl rfl ?_
      refine s_fa (o2 := 5) rfl rfl rfl ?_
      refine s_ld rfl rfl (by rfl) ?_
      refine s_inv0 rfl rfl (by repeat' constructor) (hErr) ?_
      rintro _ _ ⟨rfl, rfl⟩
      simp only [napp]
      refine s_callf rfl rfl (by repeat' constructor) (pnWrong_spec g a b d told imgs e over stp hp (.iface X (.pointer (some ⟨gb, 0, none⟩))) be) ?_
      rintro _ _ ⟨rfl, rfl⟩
      simp only [napp]
      refine WpL.nil ?_
      refine Wp.seq ?_
      refine Wp.region ?_
      refine s_mv rfl rfl ?_
      refine s_as rfl rfl ?_
      refine WpL.nil ?_
      refine Wp.ret ?_
      apply RetQ.mk
      · exact (Res.one rfl rfl)
      · have hev : rowE row ++ doneE st = [] := by rw [h1, show rowE row = [] from if_pos hem]; rfl
        rw [hev]
        exact .inl ⟨h1, rfl⟩
      · exact Ent.trans (Take.ent' (by repeat' constructor)) (Ent.cons (Ent.cons evO_0))
    · refine Wp.seq ?_
      refine Wp.region ?_
      refine s_eq rfl rfl rfl ?_
      refine s_as rfl rfl ?_
      refine WpL.nil ?_
      refine Wp.condD rfl (fun h2 => ?_) (fun h2 => ?_)
      · refine Wp.seq ?_
        refine Wp.region ?_
        refine s_mv rfl rfl ?_
        refine s_nc rfl rfl ?_
        refine s_fa (o2 := 7) rfl rfl rfl ?_
        refine s_ld rfl rfl (by rfl) ?_
        first | refine s_add rfl rfl rfl (w_i64 (by omega) (by omega)) ?_ | refine s_addw rfl rfl rfl ?_
        refine s_nc rfl rfl ?_
        refine s_fa (o2 := 7) rfl rfl rfl ?_
        refine s_st rfl rfl rfl ?_
        refine WpL.nil ?_
        refine Wp.seq ?_
        refine Wp.region ?_
        refine s_mv rfl rfl ?_
        refine s_mv rfl rfl ?_
        refine s_mv rfl rfl ?_
        refine s_mkfb rfl rfl rfl ?_
        refine s_nc rfl rfl ?_
        refine s_fa (o2 := 5) rfl rfl rfl ?_
        refine s_st rfl rfl rfl ?_
        refine s_nc rfl rfl ?_
        refine s_fa (o2 := 3) rfl rfl rfl ?_
        refine s_st rfl rfl rfl ?_
        refine WpL.nil ?_
        refine Wp.region ?_
        refine s_mv rfl rfl ?_
        refine s_bd rfl rfl ?_
        refine s_bsA1 rfl rfl (by rfl) (by rfl) (by rfl) (by rfl) ?_
        intro g3
        first | (refine s_app1 rfl rfl rfl (by repeat' constructor) (by rfl) (by rfl) (by rfl) (by rfl) (by omega) (by omega) ?_) | (refine WpL.ent (Ent.own_nil (T := 51) (s := 6) (Ent.refl _)) ?_; refine s_app1 rfl rfl rfl (by repeat' constructor) (by rfl) (by rfl) (by rfl) (by rfl) (by omega) (by omega) ?_)
        intro a45 c45
        refine s_as rfl rfl ?_
        refine WpL.nil ?_
        refine Wp.seq ?_
        refine Wp.region ?_
        refine s_mv rfl rfl ?_
        refine s_as rfl rfl ?_
        refine WpL.nil ?_
        refine Wp.ret ?_
        apply RetQ.mk
        · exact (Res.one rfl rfl)
        · have hev : rowE row ++ doneE st = doneE 1 := by rw [h2, show rowE row = [] from if_pos hem]; rfl
          rw [hev]
          exact .inr (.inl ⟨h2, rfl⟩)
        · exact Ent.trans (Take.ent' (by repeat' constructor)) (Ent.cons (Ent.cons evO_d))
      · refine Wp.skip ?_
        refine Wp.seq ?_
        refine Wp.region ?_
        refine s_mv rfl rfl ?_
        refine s_as rfl rfl ?_
        refine WpL.nil ?_
        refine Wp.ret ?_
        apply RetQ.mk
        · exact (Res.one rfl rfl)
        · have hev : rowE row ++ doneE st = [] := by rw [(show st = 0 by omega), show rowE row = [] from if_pos hem]; rfl
          rw [hev]
          exact .inr (.inr ⟨by omega, rfl⟩)
        · exact Ent.trans (Take.ent' (by repeat' constructor)) (Ent.cons (Ent.cons evO_0))

end Go.Proofs.YtggamdlpiejbiaaGreat
namespace Go.Proofs.YtggamdlpiejbiaaGreat
open Go.RowKit Go.Shelf

theorem pnBodies_open (g gb X f fp : Nat) (a b d told imgs e be : Int) (over : Bool) (stp hp : Value) (B B' : HP) [InvM0 Tryz.prog "Error" X f] [InvM1 Tryz.prog "Put" X fp] (c : Int) (out : List Int) (st : Int) (hst : st = 0 ∨ st = 1 ∨ st = 2) (hi : 0 ≤ imgs ∧ imgs ≤ 2 ^ 60) (hErr : Fn Tryz.prog f #[.pointer (some ⟨gb, 0, none⟩)] [B'] (fun v l => v = .int .i64 be ∧ l = [B'])) (hPut : Fn Tryz.prog fp #[.pointer (some ⟨gb, 0, none⟩), .int .u8 c] [B] (fun v l => ∃ a3 c3, v = .tuple #[.slice a3 out.length c3, .int .i64 st] ∧ l = [B', own 92 1 a3 c3 out.length (pxs out)] ∧ (out = [] → a3 = none))) : Fn Tryz.prog 163 #[.pointer (some ⟨g, 0, none⟩), .int .u8 c] [blk g [.int .i64 a, .int .i64 b, .int .i64 d, stp, hp, (.iface X (.pointer (some ⟨gb, 0, none⟩))), .int .i64 told, .int .i64 imgs, .bool over, .int .i64 e] 123, B] (fun v l => (st = 2 ∧ l = [blk g [.int .i64 a, .int .i64 b, .int .i64 d, stp, hp, (.iface X (.pointer (some ⟨gb, 0, none⟩))), .int .i64 told, .int .i64 imgs, .bool over, .int .i64 be] 123, B', evO v (rowE out ++ doneE st)]) ∨ (st = 1 ∧ l = [blk g [.int .i64 a, .int .i64 b, .int .i64 d, (pnV g 0), hp, .nilIface, .int .i64 told, .int .i64 (imgs + 1), .bool over, .int .i64 e] 123, B', evO v (rowE out ++ doneE st)]) ∨ (st = 0 ∧ l = [blk g [.int .i64 a, .int .i64 b, .int .i64 d, stp, hp, (.iface X (.pointer (some ⟨gb, 0, none⟩))), .int .i64 told, .int .i64 imgs, .bool over, .int .i64 e] 123, B', evO v (rowE out ++ doneE st)])) := by
  refine Fn.intro (vs := [.pointer (some ⟨g, 0, none⟩), .int .u8 c]) Tryz.func163 rfl Tryz.ntmps163 rfl ?_
  refine Wp.seq ?_
  refine Wp.region ?_
  refine s_as rfl rfl ?_
  refine WpL.nil ?_
  refine Wp.seq ?_
  refine Wp.region ?_
  refine s_mv rfl rfl ?_
  refine s_mv rfl rfl ?_
  refine s_nc rfl rfl ?_
  refine s_fa (o2 := 5) rfl rfl rfl ?_
  refine s_ld rfl rfl (by rfl) ?_
  refine s_mv rfl rfl ?_
  refine s_inv1 rfl rfl rfl (by repeat' constructor) (hPut) ?_
  rintro _ _ ⟨a3, c3, rfl, rfl, hnl⟩
  simp only [napp]
  refine s_ext rfl rfl rfl ?_
  refine s_ext rfl rfl rfl ?_
  refine s_callf rfl rfl (by repeat' constructor) (pnEvents_spec g gb X f a b d told imgs e be over stp hp B' hErr out a3 c3 hnl st hst hi) ?_
  intro v0 m0 hN0
  rcases hN0 with ⟨hs, rfl⟩ | ⟨hs, rfl⟩ | ⟨hs, rfl⟩
  · simp only [napp]
    refine s_as rfl rfl ?_
    refine WpL.nil ?_
    refine Wp.ret ?_
    apply RetQ.mk
    · exact (Res.one rfl rfl)
    · exact .inl ⟨hs, rfl⟩
    · first | exact Ent.refl _ | exact Ent.nil _ | exact Take.ent' (by repeat' constructor) | (repeat (first | exact Ent.refl _ | refine Ent.drop ?_))
  · simp only [napp]
    refine s_as rfl rfl ?_
    refine WpL.nil ?_
    refine Wp.ret ?_
    apply RetQ.mk
    · exact (Res.one rfl rfl)
    · exact .inr (.inl ⟨hs, rfl⟩)
    · first | exact Ent.refl _ | exact Ent.nil _ | exact Take.ent' (by repeat' constructor) | (repeat (first | exact Ent.refl _ | refine Ent.drop ?_))
  · simp only [napp]
    refine s_as rfl rfl ?_
    refine WpL.nil ?_
    refine Wp.ret ?_
    apply RetQ.mk
    · exact (Res.one rfl rfl)
    · exact .inr (.inr ⟨hs, rfl⟩)
    · first | exact Ent.refl _ | exact Ent.nil _ | exact Take.ent' (by repeat' constructor) | (repeat (first | exact Ent.refl _ | refine Ent.drop ?_))


theorem pnHeads_cl (g gh : Nat) (a b d told imgs e : Int) (over : Bool) (h : HS) (hd' : Option HS) (c : Int) (hc0 : 0 ≤ c) (hc1 : c ≤ 255) (hj : hdJ (lim0 a) (lim1 b) (lim2 d) h) :
    Fn Tryz.prog 113 #[.pointer (some ⟨g, 0, none⟩), .int .u8 c] [blk g [.int .i64 a, .int .i64 b, .int .i64 d, (pnV g 1), (.pointer (some ⟨gh, 0, none⟩)), .nilIface, .int .i64 told, .int .i64 imgs, .bool over, .int .i64 e] 123, hdR gh (lim0 a) (lim1 b) (lim2 d) h] (fun v l => l = [psR g a b d (psHeads ⟨hd', 1, .no, told, imgs, over, e⟩ (hdPut (lim0 a) (lim1 b) (lim2 d) h c)).1, evO v (psHeads ⟨hd', 1, .no, told, imgs, over, e⟩ (hdPut (lim0 a) (lim1 b) (lim2 d) h c)).2]) := by
  refine (pnHeads_open g gh a b d told imgs e (lim0 a) (lim1 b) (lim2 d) over (pnV g 1) h c hc0 hc1 (lim_o a b d) hj).mono ?_
  generalize hdPut (lim0 a) (lim1 b) (lim2 d) h c = h'
  rintro v l (⟨h0, rfl, rfl⟩ | ⟨h0, hE, rfl, rfl⟩ | ⟨h0, hE, ge, bv', rfl, rfl⟩)
  · refine ⟨_, rfl, ?_⟩
    rw [show psHeads ⟨hd', 1, .no, told, imgs, over, e⟩ h' = _ from if_pos h0]
    exact (Ent.cons (hdO_cl.trans (Ent.cons (bdR_no.trans (Ent.cons evO_0))))).trans psR_cl
  · refine ⟨_, rfl, ?_⟩
    rw [show psHeads ⟨hd', 1, .no, told, imgs, over, e⟩ h' = _ from (if_neg h0).trans (if_pos hE)]
    exact (Ent.cons (hdO_cl.trans (Ent.cons (bdR_no.trans (Ent.cons evO_0))))).trans psR_cl
  · refine ⟨_, rfl, ?_⟩
    rw [show psHeads ⟨hd', 1, .no, told, imgs, over, e⟩ h' = _ from (if_neg h0).trans (if_neg (fun q => q hE))]
    exact (Ent.cons (hdO_cl.trans (Ent.cons (Ent.cons evO_b)))).trans psR_cl

theorem pnAhead_blank (g : Nat) (a b d told imgs e : Int) (over : Bool) (stp hp bv : Value) (F1 F2 : HP) (c : Int) (hc0 : 0 ≤ c) (hc1 : c ≤ 255) (hb : blankB c = true) : Fn Tryz.prog 60 #[.pointer (some ⟨g, 0, none⟩), .int .u8 c] [blk g [.int .i64 a, .int .i64 b, .int .i64 d, stp, hp, bv, .int .i64 told, .int .i64 imgs, .bool over, .int .i64 e] 123, F1, F2] (fun v l => v = .slice none 0 0 ∧ l = [blk g [.int .i64 a, .int .i64 b, .int .i64 d, stp, hp, bv, .int .i64 told, .int .i64 imgs, .bool over, .int .i64 e] 123, F1, F2]) := by
  refine Fn.intro (vs := [.pointer (some ⟨g, 0, none⟩), .int .u8 c]) Tryz.func60 rfl Tryz.ntmps60 rfl ?_
  refine Wp.seq ?_
  refine Wp.region ?_
  refine s_as rfl rfl ?_
  refine WpL.nil ?_
  refine Wp.seq ?_
  refine Wp.seq ?_
  refine Wp.region ?_
  refine s_mv rfl rfl ?_
  refine s_callf rfl rfl (by repeat' constructor) (Blank_spec _ hc0 hc1) ?_
  rintro _ _ ⟨rfl, rfl⟩
  simp only [napp]
  refine WpL.nil ?_
  refine Wp.condBT rfl hb ?_
  refine Wp.seq ?_
  refine Wp.region ?_
  refine s_as rfl rfl ?_
  refine WpL.nil ?_
  refine Wp.ret ?_
  apply RetQ.mk
  · exact (Res.one rfl rfl)
  · exact ⟨rfl, rfl⟩
  · first | exact Ent.refl _ | exact Ent.nil _ | exact Take.ent' (by repeat' constructor) | (repeat (first | exact Ent.refl _ | refine Ent.drop ?_))

theorem pnAhead_head (g : Nat) (a b d told imgs e : Int) (over : Bool) (stp hp : Value) (hd : Option HS) (F1 : HP) (c : Int) (hc0 : 0 ≤ c) (hc1 : c ≤ 255) (hb : blankB c = false) : Fn Tryz.prog 60 #[.pointer (some ⟨g, 0, none⟩), .int .u8 c] [blk g [.int .i64 a, .int .i64 b, .int .i64 d, stp, hp, .nilIface, .int .i64 told, .int .i64 imgs, .bool over, .int .i64 e] 123, F1] (fun v l => l = [psR g a b d (psHeads ⟨hd, 1, .no, told, imgs, over, e⟩ (hdPut (lim0 a) (lim1 b) (lim2 d) hd0 c)).1, evO v (psHeads ⟨hd, 1, .no, told, imgs, over, e⟩ (hdPut (lim0 a) (lim1 b) (lim2 d) hd0 c)).2]) := by
  refine Fn.intro (vs := [.pointer (some ⟨g, 0, none⟩), .int .u8 c]) Tryz.func60 rfl Tryz.ntmps60 rfl ?_
  refine Wp.seq ?_
  refine Wp.region ?_
  refine s_as rfl rfl ?_
  refine WpL.nil ?_
  refine Wp.seq ?_
  refine Wp.seq ?_
  refine Wp.region ?_
  refine s_mv rfl rfl ?_
  refine s_callf rfl rfl (by repeat' constructor) (Blank_spec _ hc0 hc1) ?_
  rintro _ _ ⟨rfl, rfl⟩
  simp only [napp]
  refine WpL.nil ?_
  refine Wp.condBF rfl hb ?_
  refine Wp.skip ?_
  refine Wp.seq ?_
  refine Wp.region ?_
  refine s_mv rfl rfl ?_
  refine s_mv rfl rfl ?_
  refine s_mv rfl rfl ?_
  refine s_nc rfl rfl ?_
  refine s_fa (o2 := 0) rfl rfl rfl ?_
  refine s_lda (vs := [_, _, _]) rfl rfl rfl (by rfl) ?_
  refine s_callf rfl rfl (by repeat' constructor) (hdNew_rep a b d) ?_
  rintro _ _ ⟨gh, rfl, rfl⟩
  simp only [napp]
  refine s_mv rfl rfl ?_
  refine s_mkfb rfl rfl rfl ?_
  refine s_nc rfl rfl ?_
  refine s_fa (o2 := 4) rfl rfl rfl ?_
  refine s_st rfl rfl rfl ?_
  refine s_nc rfl rfl ?_
  refine s_fa (o2 := 3) rfl rfl rfl ?_
  refine s_st rfl rfl rfl ?_
  refine WpL.nil ?_
  refine Wp.seq ?_
  refine Wp.region ?_
  refine s_mv rfl rfl ?_
  refine s_mv rfl rfl ?_
  refine s_callf rfl rfl (by repeat' constructor) (pnHeads_cl g gh a b d told imgs e over hd0 hd c hc0 hc1 (hdJ0 _ _ _)) ?_
  rintro v _ rfl
  simp only [napp]
  refine s_as rfl rfl ?_
  refine WpL.nil ?_
  refine Wp.ret ?_
  apply RetQ.mk
  · exact (Res.one rfl rfl)
  · exact rfl
  · first | exact Ent.refl _ | exact Ent.nil _ | exact Take.ent' (by repeat' constructor) | (repeat (first | exact Ent.refl _ | refine Ent.drop ?_))


/-- What the reader was told ahead of a head. -/
theorem pnAhead_cl (g : Nat) (a b d told imgs e : Int) (over : Bool) (hp bv : Value) (hd : Option HS) (c : Int) (hc0 : 0 ≤ c) (hc1 : c ≤ 255) :
    Fn Tryz.prog 60 #[.pointer (some ⟨g, 0, none⟩), .int .u8 c] [blk g [.int .i64 a, .int .i64 b, .int .i64 d, (pnV g 0), hp, bv, .int .i64 told, .int .i64 imgs, .bool over, .int .i64 e] 123, hdO (lim0 a) (lim1 b) (lim2 d) hp hd, bdR bv (hd.getD hd0) .no] (fun v l => l = [psR g a b d (psStep (lim0 a) (lim1 b) (lim2 d) ⟨hd, 0, .no, told, imgs, over, e⟩ c).1, evO v (psStep (lim0 a) (lim1 b) (lim2 d) ⟨hd, 0, .no, told, imgs, over, e⟩ c).2]) := by
  have e0 : psStep (lim0 a) (lim1 b) (lim2 d) ⟨hd, 0, .no, told, imgs, over, e⟩ c = if blankB c = true then (⟨hd, 0, .no, told, imgs, over, e⟩, []) else psHeads ⟨hd, 0, .no, told, imgs, over, e⟩ (hdPut (lim0 a) (lim1 b) (lim2 d) hd0 c) := if_pos rfl
  rw [e0]
  cases hb : blankB c with
  | true =>
    rw [if_pos rfl]
    refine (pnAhead_blank g a b d told imgs e over (pnV g 0) hp bv (hdO (lim0 a) (lim1 b) (lim2 d) hp hd) (bdR bv (hd.getD hd0) .no) c hc0 hc1 hb).mono ?_
    rintro v l ⟨rfl, rfl⟩
    exact ⟨_, rfl, (Ent.cons (Ent.cons (Ent.cons evO_0))).trans psR_cl⟩
  | false =>
    rw [if_neg (by decide)]
    refine (Fn.pur (p := bv = .nilIface) (F := [blk g [.int .i64 a, .int .i64 b, .int .i64 d, (pnV g 0), hp, bv, .int .i64 told, .int .i64 imgs, .bool over, .int .i64 e] 123, hdO (lim0 a) (lim1 b) (lim2 d) hp hd]) fun hbv => ?_).pre (Take.ent' (pre := [bdR bv (hd.getD hd0) .no, _, _]) (by repeat' constructor))
    subst hbv
    have e1 : psHeads ⟨hd, 0, .no, told, imgs, over, e⟩ (hdPut (lim0 a) (lim1 b) (lim2 d) hd0 c) = psHeads ⟨hd, 1, .no, told, imgs, over, e⟩ (hdPut (lim0 a) (lim1 b) (lim2 d) hd0 c) := by unfold psHeads; rfl
    rw [e1]
    exact pnAhead_head g a b d told imgs e over (pnV g 0) hp hd (hdO (lim0 a) (lim1 b) (lim2 d) hp hd) c hc0 hc1 hb

end Go.Proofs.YtggamdlpiejbiaaGreat
namespace Go.Proofs.YtggamdlpiejbiaaGreat
open Go.RowKit Go.Shelf


theorem bdR_pl {gb : Nat} {h : HS} {s : RS} {F : List HP} : Ent (plR gb h.K h.W h.H h.M s :: F) (bdR (.iface 124 (.pointer (some ⟨gb, 0, none⟩))) h (.pl s) :: F) := Ent.exs gb (Ent.pur rfl (Ent.refl _))
theorem bdR_rw {gb : Nat} {h : HS} {s : RW} {F : List HP} : Ent (rwR gb h.K h.W.toNat h.H h.M s :: F) (bdR (.iface 193 (.pointer (some ⟨gb, 0, none⟩))) h (.rw s) :: F) := Ent.exs gb (Ent.pur rfl (Ent.refl _))


theorem pnBody_pl (g : Nat) (a b d told imgs e : Int) (over : Bool) (hp bv : Value) (h : HS) (s : RS) (hi : 0 ≤ imgs ∧ imgs ≤ 2 ^ 60) (c : Int) (hc0 : 0 ≤ c) (hc1 : c ≤ 255) (hM : MayH h.K h.W h.H h.M) (hl0 : s.last = 0) (ho : s.one.length ≤ 3) (hr2 : s.row.length ≤ 1000000000000) (hrows : 0 ≤ s.rows ∧ s.rows ≤ 2 ^ 60) :
    Fn Tryz.prog 163 #[.pointer (some ⟨g, 0, none⟩), .int .u8 c] [blk g [.int .i64 a, .int .i64 b, .int .i64 d, (pnV g 2), hp, bv, .int .i64 told, .int .i64 imgs, .bool over, .int .i64 e] 123, hdO (lim0 a) (lim1 b) (lim2 d) hp (some h), bdR bv h (.pl s)] (fun v l => l = [psR g a b d (psStep (lim0 a) (lim1 b) (lim2 d) ⟨(some h), 2, (.pl s), told, imgs, over, e⟩ c).1, evO v (psStep (lim0 a) (lim1 b) (lim2 d) ⟨(some h), 2, (.pl s), told, imgs, over, e⟩ c).2]) := by
  have e0 : psStep (lim0 a) (lim1 b) (lim2 d) ⟨(some h), 2, (.pl s), told, imgs, over, e⟩ c = psEvts ⟨(some h), 2, (.pl s), told, imgs, over, e⟩ (.pl (putR h.K h.W h.H h.M s c).1) (putR h.K h.W h.H h.M s c).1.last (putR h.K h.W h.H h.M s c).1.e (putR h.K h.W h.H h.M s c).2 := (if_neg (show ¬ (2 : Int) = 0 by decide)).trans (if_neg (show ¬ (2 : Int) = 1 by decide))
  rw [e0]
  refine (Fn.exs (F := [blk g [.int .i64 a, .int .i64 b, .int .i64 d, (pnV g 2), hp, bv, .int .i64 told, .int .i64 imgs, .bool over, .int .i64 e] 123, hdO (lim0 a) (lim1 b) (lim2 d) hp (some h)]) fun gb => ?_).pre (Take.ent' (pre := [bdR bv h (.pl s), _, _]) (by repeat' constructor))
  refine Fn.pur (F := [plR gb h.K h.W h.H h.M s, _, _]) fun hbv => ?_
  subst hbv
  refine Fn.pre (pre := [blk g [.int .i64 a, .int .i64 b, .int .i64 d, (pnV g 2), hp, (.iface 124 (.pointer (some ⟨gb, 0, none⟩))), .int .i64 told, .int .i64 imgs, .bool over, .int .i64 e] 123, plR gb h.K h.W h.H h.M s] ++ [hdO (lim0 a) (lim1 b) (lim2 d) hp (some h)]) ?_ (Take.ent' (by repeat' constructor))
  have hst : (putR h.K h.W h.H h.M s c).1.last = 0 ∨ (putR h.K h.W h.H h.M s c).1.last = 1 ∨ (putR h.K h.W h.H h.M s c).1.last = 2 := putR_last hl0
  have hPut : Fn Tryz.prog 127 #[.pointer (some ⟨gb, 0, none⟩), .int .u8 c] [plR gb h.K h.W h.H h.M s] (fun v l => ∃ a3 c3, v = .tuple #[.slice a3 (putR h.K h.W h.H h.M s c).2.length c3, .int .i64 (putR h.K h.W h.H h.M s c).1.last] ∧ l = [plR gb h.K h.W h.H h.M (putR h.K h.W h.H h.M s c).1, own 92 1 a3 c3 (putR h.K h.W h.H h.M s c).2.length (pxs (putR h.K h.W h.H h.M s c).2)] ∧ ((putR h.K h.W h.H h.M s c).2 = [] → a3 = none)) := by
    refine (plPut_rep gb h.K h.W h.H h.M s c (by have := hM.1; omega) ho hr2 hc0 hc1 (by have := hM.2.2.2.1; omega) (by have := hM.2.2.2.1; omega) hrows.1 hrows.2).mono ?_
    rintro v l ⟨s', out, a3, c3, hs, rfl, rfl, hnl⟩
    rw [← hs]
    exact ⟨_, ⟨a3, c3, rfl, rfl, hnl (by have := hM.2.1; omega)⟩, Ent.refl _⟩
  generalize hq : (putR h.K h.W h.H h.M s c) = q at hst hPut ⊢
  obtain ⟨s', out⟩ := q
  dsimp only at hst hPut ⊢
  have hB := pnBodies_open g gb 124 128 127 a b d told imgs e s'.e over (pnV g 2) hp (plR gb h.K h.W h.H h.M s) (plR gb h.K h.W h.H h.M s') c out s'.last hst hi (plError_rep gb h.K h.W h.H h.M s') hPut
  refine (Fn.frame (F := [hdO (lim0 a) (lim1 b) (lim2 d) hp (some h)]) hB).mono ?_
  rintro v l ⟨l0, hl0, rfl⟩
  rcases hl0 with ⟨h0, rfl⟩ | ⟨h0, rfl⟩ | ⟨h0, rfl⟩
  · refine ⟨_, rfl, ?_⟩
    rw [show psEvts ⟨(some h), 2, (.pl s), told, imgs, over, e⟩ (.pl s') s'.last s'.e out = (_, rowE out ++ doneE s'.last) from congrArg (·, rowE out ++ doneE s'.last) (if_pos h0)]
    exact (Take.ent' (pre := [_, hdO (lim0 a) (lim1 b) (lim2 d) hp (some h), _, _]) (by repeat' constructor)).trans ((Ent.cons (Ent.cons (bdR_pl))).trans psR_cl)
  · refine ⟨_, rfl, ?_⟩
    rw [show psEvts ⟨(some h), 2, (.pl s), told, imgs, over, e⟩ (.pl s') s'.last s'.e out = (_, rowE out ++ doneE s'.last) from congrArg (·, rowE out ++ doneE s'.last) ((if_neg (by omega)).trans (if_pos h0))]
    exact (Take.ent' (pre := [_, hdO (lim0 a) (lim1 b) (lim2 d) hp (some h), _]) (by repeat' constructor)).trans ((Ent.cons (Ent.cons bdR_no)).trans psR_cl)
  · refine ⟨_, rfl, ?_⟩
    rw [show psEvts ⟨(some h), 2, (.pl s), told, imgs, over, e⟩ (.pl s') s'.last s'.e out = (_, rowE out ++ doneE s'.last) from congrArg (·, rowE out ++ doneE s'.last) ((if_neg (by omega)).trans (if_neg (by omega)))]
    exact (Take.ent' (pre := [_, hdO (lim0 a) (lim1 b) (lim2 d) hp (some h), _, _]) (by repeat' constructor)).trans ((Ent.cons (Ent.cons (bdR_pl))).trans psR_cl)


theorem pnBody_rw (g : Nat) (a b d told imgs e : Int) (over : Bool) (hp bv : Value) (h : HS) (s : RW) (hi : 0 ≤ imgs ∧ imgs ≤ 2 ^ 60) (c : Int) (hc0 : 0 ≤ c) (hc1 : c ≤ 255) (hM : MayH h.K h.W h.H h.M) (hK4 : 4 ≤ h.K) (hl0 : s.last = 0) (hbs : ∀ x ∈ s.b, 0 ≤ x ∧ x ≤ 255) (hst2 : s.b.length = strd h.K h.W.toNat (wideM h.M)) (hn : s.n < s.b.length) (hro : 0 ≤ s.rows ∧ s.rows < h.H) :
    Fn Tryz.prog 163 #[.pointer (some ⟨g, 0, none⟩), .int .u8 c] [blk g [.int .i64 a, .int .i64 b, .int .i64 d, (pnV g 2), hp, bv, .int .i64 told, .int .i64 imgs, .bool over, .int .i64 e] 123, hdO (lim0 a) (lim1 b) (lim2 d) hp (some h), bdR bv h (.rw s)] (fun v l => l = [psR g a b d (psStep (lim0 a) (lim1 b) (lim2 d) ⟨(some h), 2, (.rw s), told, imgs, over, e⟩ c).1, evO v (psStep (lim0 a) (lim1 b) (lim2 d) ⟨(some h), 2, (.rw s), told, imgs, over, e⟩ c).2]) := by
  have e0 : psStep (lim0 a) (lim1 b) (lim2 d) ⟨(some h), 2, (.rw s), told, imgs, over, e⟩ c = psEvts ⟨(some h), 2, (.rw s), told, imgs, over, e⟩ (.rw (putW h.K h.W.toNat h.H h.M s c).1) (putW h.K h.W.toNat h.H h.M s c).1.last (putW h.K h.W.toNat h.H h.M s c).1.e (putW h.K h.W.toNat h.H h.M s c).2 := (if_neg (show ¬ (2 : Int) = 0 by decide)).trans (if_neg (show ¬ (2 : Int) = 1 by decide))
  rw [e0]
  have hRn : RawH h.K ((h.W.toNat : Nat) : Int) h.H h.M := by
    have e : ((h.W.toNat : Nat) : Int) = h.W := by have := hM.2.1; omega
    rw [e]; exact ⟨hM, hK4⟩
  refine (Fn.exs (F := [blk g [.int .i64 a, .int .i64 b, .int .i64 d, (pnV g 2), hp, bv, .int .i64 told, .int .i64 imgs, .bool over, .int .i64 e] 123, hdO (lim0 a) (lim1 b) (lim2 d) hp (some h)]) fun gb => ?_).pre (Take.ent' (pre := [bdR bv h (.rw s), _, _]) (by repeat' constructor))
  refine Fn.pur (F := [rwR gb h.K h.W.toNat h.H h.M s, _, _]) fun hbv => ?_
  subst hbv
  refine Fn.pre (pre := [blk g [.int .i64 a, .int .i64 b, .int .i64 d, (pnV g 2), hp, (.iface 193 (.pointer (some ⟨gb, 0, none⟩))), .int .i64 told, .int .i64 imgs, .bool over, .int .i64 e] 123, rwR gb h.K h.W.toNat h.H h.M s] ++ [hdO (lim0 a) (lim1 b) (lim2 d) hp (some h)]) ?_ (Take.ent' (by repeat' constructor))
  have hst : (putW h.K h.W.toNat h.H h.M s c).1.last = 0 ∨ (putW h.K h.W.toNat h.H h.M s c).1.last = 1 ∨ (putW h.K h.W.toNat h.H h.M s c).1.last = 2 := (putW_ok hst2 hbs hc0 hc1 hn hl0 hro rfl).2.2.2.1
  have hPut : Fn Tryz.prog 125 #[.pointer (some ⟨gb, 0, none⟩), .int .u8 c] [rwR gb h.K h.W.toNat h.H h.M s] (fun v l => ∃ a3 c3, v = .tuple #[.slice a3 (putW h.K h.W.toNat h.H h.M s c).2.length c3, .int .i64 (putW h.K h.W.toNat h.H h.M s c).1.last] ∧ l = [rwR gb h.K h.W.toNat h.H h.M (putW h.K h.W.toNat h.H h.M s c).1, own 92 1 a3 c3 (putW h.K h.W.toNat h.H h.M s c).2.length (pxs (putW h.K h.W.toNat h.H h.M s c).2)] ∧ ((putW h.K h.W.toNat h.H h.M s c).2 = [] → a3 = none)) := by
    refine (rwPut_rep gb h.K h.W.toNat h.H h.M hRn s hbs hst2 hn ⟨hro.1, by have := hM.2.2.1; omega⟩ c hc0 hc1).mono ?_
    rintro v l ⟨s', out, a3, c3, hs, rfl, rfl, hnl⟩
    rw [← hs]
    exact ⟨_, ⟨a3, c3, rfl, rfl, hnl⟩, Ent.refl _⟩
  generalize hq : (putW h.K h.W.toNat h.H h.M s c) = q at hst hPut ⊢
  obtain ⟨s', out⟩ := q
  dsimp only at hst hPut ⊢
  have hB := pnBodies_open g gb 193 229 125 a b d told imgs e s'.e over (pnV g 2) hp (rwR gb h.K h.W.toNat h.H h.M s) (rwR gb h.K h.W.toNat h.H h.M s') c out s'.last hst hi (rwError_rep gb h.K h.W.toNat h.H h.M hRn s') hPut
  refine (Fn.frame (F := [hdO (lim0 a) (lim1 b) (lim2 d) hp (some h)]) hB).mono ?_
  rintro v l ⟨l0, hl0, rfl⟩
  rcases hl0 with ⟨h0, rfl⟩ | ⟨h0, rfl⟩ | ⟨h0, rfl⟩
  · refine ⟨_, rfl, ?_⟩
    rw [show psEvts ⟨(some h), 2, (.rw s), told, imgs, over, e⟩ (.rw s') s'.last s'.e out = (_, rowE out ++ doneE s'.last) from congrArg (·, rowE out ++ doneE s'.last) (if_pos h0)]
    exact (Take.ent' (pre := [_, hdO (lim0 a) (lim1 b) (lim2 d) hp (some h), _, _]) (by repeat' constructor)).trans ((Ent.cons (Ent.cons (bdR_rw))).trans psR_cl)
  · refine ⟨_, rfl, ?_⟩
    rw [show psEvts ⟨(some h), 2, (.rw s), told, imgs, over, e⟩ (.rw s') s'.last s'.e out = (_, rowE out ++ doneE s'.last) from congrArg (·, rowE out ++ doneE s'.last) ((if_neg (by omega)).trans (if_pos h0))]
    exact (Take.ent' (pre := [_, hdO (lim0 a) (lim1 b) (lim2 d) hp (some h), _]) (by repeat' constructor)).trans ((Ent.cons (Ent.cons bdR_no)).trans psR_cl)
  · refine ⟨_, rfl, ?_⟩
    rw [show psEvts ⟨(some h), 2, (.rw s), told, imgs, over, e⟩ (.rw s') s'.last s'.e out = (_, rowE out ++ doneE s'.last) from congrArg (·, rowE out ++ doneE s'.last) ((if_neg (by omega)).trans (if_neg (by omega)))]
    exact (Take.ent' (pre := [_, hdO (lim0 a) (lim1 b) (lim2 d) hp (some h), _, _]) (by repeat' constructor)).trans ((Ent.cons (Ent.cons (bdR_rw))).trans psR_cl)

end Go.Proofs.YtggamdlpiejbiaaGreat
namespace Go.Proofs.YtggamdlpiejbiaaGreat
open Go.RowKit Go.Shelf


def bdI (N : Nat) (h : HS) : Bd → Prop
  | .no => False
  | .pl s => ¬ (4 ≤ h.K ∧ h.K ≤ 6) ∧ s.last = 0 ∧ RInv (chK h.K) N 0 s ∧ RGood h.K h.W s
  | .rw s => 4 ≤ h.K ∧ s.last = 0 ∧ (∀ x ∈ s.b, 0 ≤ x ∧ x ≤ 255) ∧ s.b.length = strd h.K h.W.toNat (wideM h.M) ∧ s.n < s.b.length ∧ 0 ≤ s.rows ∧ s.rows < h.H
def psJ (l0 l1 l2 : Int) (N : Nat) (s : PS) : Prop := (s.ph = 0 ∧ s.bd = .no ∧ ∀ h, s.hd = some h → h.e = 0) ∨ (s.ph = 1 ∧ s.bd = .no ∧ ∃ h, s.hd = some h ∧ hdJ l0 l1 l2 h) ∨ (s.ph = 2 ∧ ∃ h, s.hd = some h ∧ HdFine h ∧ bdI N h s.bd)
/-- What a stream's reader may be. -/
def psI (l0 l1 l2 : Int) (N : Nat) (s : PS) : Prop := (0 ≤ s.told ∧ s.told ≤ N) ∧ (0 ≤ s.imgs ∧ s.imgs ≤ N) ∧ (s.over = false → s.e = 0 → psJ l0 l1 l2 N s)
theorem psI0 (l0 l1 l2 : Int) : psI l0 l1 l2 0 ps0 := ⟨by simp [ps0], by simp [ps0], fun _ _ => .inl ⟨rfl, rfl, fun h e => by cases e⟩⟩
theorem RInv.le {ch : Int} {k k' m : Nat} {s : RS} (h : RInv ch k m s) (hk : k ≤ k') : RInv ch k' m s := ⟨h.1, by have := h.2.1; omega, h.2.2.1, by have := h.2.2.2; omega⟩
theorem bdI.le {N N' : Nat} {h : HS} {b : Bd} (hb : bdI N h b) (hN : N ≤ N') : bdI N' h b := by
  cases b with
  | no => exact hb
  | pl s => exact ⟨hb.1, hb.2.1, hb.2.2.1.le hN, hb.2.2.2⟩
  | rw s => exact hb
theorem psJ.le {l0 l1 l2 : Int} {N N' : Nat} {s : PS} (h : psJ l0 l1 l2 N s) (hN : N ≤ N') : psJ l0 l1 l2 N' s := by
  rcases h with h | h | ⟨h, x, h1, h2, h3⟩
  · exact .inl h
  · exact .inr (.inl h)
  · exact .inr (.inr ⟨h, x, h1, h2, h3.le hN⟩)
theorem bd0_I {h : HS} {N : Nat} (hf : HdFine h) : bdI N h (bd0 h) := by
  have hM := hf.2.2
  unfold MayH at hM
  unfold bd0
  split
  · rename_i h4
    have hw := wideM_or h.M
    have hsb := strd_bd (K := h.K) (W := h.W.toNat) hw (by omega) (by omega)
    exact ⟨h4.1, rfl, fun x hx => by rw [List.eq_of_mem_replicate hx]; omega, by simp [rw0], by simp only [rw0, List.length_replicate]; omega, by simp [rw0], by simp only [rw0]; omega⟩
  · rename_i h4
    have hch := chK_pos h.K
    exact ⟨h4, rfl, ⟨by simp [s0R]; omega, by simp [s0R], by simp [s0R], by simp [s0R]⟩, by simp [s0R], fun _ => rfl, by simp [s0R]; omega⟩
theorem psHeads_J {l0 l1 l2 : Int} {N : Nat} {s : PS} {h : HS} (hI : psI l0 l1 l2 N s) (hb : s.bd = .no) (hok : hdJ l0 l1 l2 h ∨ HdBad h ∨ HdFine h) : psI l0 l1 l2 N (psHeads s h).1 := by
  obtain ⟨h1, h2, h3⟩ := hI
  unfold psHeads
  rcases hok with hok | hok | hok
  · rw [if_pos hok.1.1]
    exact ⟨h1, h2, fun _ _ => .inr (.inl ⟨rfl, hb, h, rfl, hok⟩)⟩
  · rw [if_neg (by rw [hok.1]; decide), if_pos (by have := hok.2.1; omega)]
    exact ⟨h1, h2, fun _ q => absurd (show h.e = 0 from q) (by have := hok.2.1; omega)⟩
  · rw [if_neg (by rw [hok.1]; decide), if_neg (fun q => q hok.2.1)]
    exact ⟨h1, h2, fun _ _ => .inr (.inr ⟨rfl, h, rfl, hok, bd0_I hok⟩)⟩
theorem psEvts_I {l0 l1 l2 : Int} {N' : Nat} {s : PS} {h : HS} {bd : Bd} {st e : Int} {row : List Int} (h1 : 0 ≤ s.told ∧ s.told ≤ N') (h2 : 0 ≤ s.imgs ∧ s.imgs + 1 ≤ N') (hph : s.ph = 2) (hhd : s.hd = some h) (hf : HdFine h) (hst : st = 0 ∨ st = 1 ∨ st = 2) (hb : st = 0 → bdI N' h bd) (he : st = 2 → e ≠ 0) : psI l0 l1 l2 N' (psEvts s bd st e row).1 := by
  unfold psEvts
  rcases hst with rfl | rfl | rfl
  · rw [if_neg (by decide), if_neg (by decide)]
    exact ⟨h1, ⟨h2.1, by simp only; omega⟩, fun _ _ => .inr (.inr ⟨hph, h, hhd, hf, hb rfl⟩)⟩
  · rw [if_neg (by decide), if_pos rfl]
    exact ⟨h1, ⟨by simp only; omega, by simp only; omega⟩, fun _ _ => .inl ⟨rfl, rfl, fun x hx => by have : s.hd = some x := hx; rw [hhd] at this; cases this; exact hf.2.1⟩⟩
  · rw [if_pos rfl]
    exact ⟨h1, ⟨h2.1, by simp only; omega⟩, fun _ q => absurd (show e = 0 from q) (he rfl)⟩
theorem putR_e {K W H M c : Int} {s : RS} (h : (putR K W H M s c).1.last = 2) (hl : s.last = 0) : (putR K W H M s c).1.e ≠ 0 := by
  have hk := (stepR_keep K M s c).2.1
  unfold putR at h ⊢
  rw [if_neg (by omega)] at h ⊢
  split at h
  · rename_i hr
    rw [if_pos hr]
    exact hr
  · rename_i hr
    exfalso
    unfold fullR at h
    split at h
    · rw [hk] at h; omega
    · simp only at h
      split at h
      · simp at h
      · rw [hk] at h; omega
theorem putW_e {K : Int} {W : Nat} {H M c : Int} {s : RW} (h : (putW K W H M s c).1.last = 2) (hl : s.last = 0) : (putW K W H M s c).1.e ≠ 0 := by
  unfold putW at h ⊢
  rw [if_neg (by omega)] at h ⊢
  split at h
  · rename_i h1; rw [if_pos h1]; simp
  · split at h
    · simp at h
    · simp only at h
      split at h <;> simp at h
theorem psPut_I {l0 l1 l2 : Int} (hL : LimO l0 l1 l2) {N : Nat} {s : PS} {c : Int} (hI : psI l0 l1 l2 N s) (hc0 : 0 ≤ c) (hc1 : c ≤ 255) : psI l0 l1 l2 (N + 1) (psPut l0 l1 l2 s c).1 := by
  have hI2 := hI
  obtain ⟨h1, h2, h3⟩ := hI2
  unfold psPut
  split
  · exact ⟨⟨h1.1, by simp only; omega⟩, ⟨h2.1, by simp only; omega⟩, fun ho he => (h3 ho he).le (by omega)⟩
  · rename_i hoe
    have ho : s.over = false := by cases h : s.over <;> simp_all
    have he : s.e = 0 := Classical.not_not.1 fun h => hoe (.inr h)
    have hJ := h3 ho he
    have hI' : psI l0 l1 l2 (N + 1) { s with told := s.told + 1 } := ⟨⟨by simp only; omega, by simp only; omega⟩, ⟨h2.1, by simp only; omega⟩, fun _ _ => hJ.le (by omega)⟩
    unfold psStep
    rcases hJ with ⟨hp, hb, hh⟩ | ⟨hp, hb, h, hh, hj⟩ | ⟨hp, h, hh, hf, hb⟩
    · rw [if_pos hp]
      split
      · exact hI'
      · exact psHeads_J hI' hb (hdPut_ok hL (hdJ0 l0 l1 l2))
    · rw [if_neg (by simp only; omega), if_pos hp]
      exact psHeads_J hI' hb (by simp only [hh, Option.getD_some]; exact hdPut_ok hL hj)
    · rw [if_neg (by simp only; omega), if_neg (by simp only; omega)]
      simp only [hh, Option.getD_some]
      unfold psBody
      have hM := hf.2.2
      unfold MayH at hM
      cases hbd : s.bd with
      | no => rw [hbd] at hb; exact hb.elim
      | pl r =>
        rw [hbd] at hb
        obtain ⟨hk, hl, hi, hg⟩ := hb
        refine psEvts_I ⟨by simp only; omega, by simp only; omega⟩ ⟨h2.1, by simp only; omega⟩ hp rfl hf (putR_last hl) (fun hx => ⟨hk, hx, (putR_inv (W := h.W) (H := h.H) (M := h.M) (c := c) hi).zero, putR_good (by omega) hg⟩) (fun hx => putR_e hx hl)
      | rw r =>
        rw [hbd] at hb
        obtain ⟨hk, hl, hbs, hst, hn, hro⟩ := hb
        have hok := putW_ok (K := h.K) (W := h.W.toNat) (H := h.H) (M := h.M) (c := c) hst hbs hc0 hc1 hn hl hro rfl
        obtain ⟨hk1, hk2, hk3, hlast, hk5⟩ := hok
        refine psEvts_I ⟨by simp only; omega, by simp only; omega⟩ ⟨h2.1, by simp only; omega⟩ hp rfl hf hlast (fun hx => ⟨hk, hx, hk2, hk1.trans hst, (hk5 hx).1, (hk5 hx).2⟩) (fun hx => putW_e hx hl)

end Go.Proofs.YtggamdlpiejbiaaGreat
namespace Go.Proofs.YtggamdlpiejbiaaGreat
open Go.RowKit Go.Shelf

theorem pnPut_over (g : Nat) (a b d told imgs e : Int) (stp hp bv : Value) (F1 F2 : HP) (c : Int) : Fn Tryz.prog 17 #[.pointer (some ⟨g, 0, none⟩), .int .u8 c] [blk g [.int .i64 a, .int .i64 b, .int .i64 d, stp, hp, bv, .int .i64 told, .int .i64 imgs, .bool true, .int .i64 e] 123, F1, F2] (fun v l => v = .slice none 0 0 ∧ l = [blk g [.int .i64 a, .int .i64 b, .int .i64 d, stp, hp, bv, .int .i64 told, .int .i64 imgs, .bool true, .int .i64 e] 123, F1, F2]) := by
  refine Fn.intro (vs := [.pointer (some ⟨g, 0, none⟩), .int .u8 c]) Tryz.func17 rfl Tryz.ntmps17 rfl ?_
  refine Wp.seq ?_
  refine Wp.region ?_
  refine s_as rfl rfl ?_
  refine WpL.nil ?_
  refine Wp.seq ?_
  refine Wp.seq ?_
  refine Wp.region ?_
  refine s_mv rfl rfl ?_
  refine s_nc rfl rfl ?_
  refine s_fa (o2 := 8) rfl rfl rfl ?_
  refine s_ld rfl rfl (by rfl) ?_
  refine s_mv rfl rfl ?_
  refine WpL.goff rfl rfl rfl (by decide) ?_
  refine WpL.goff rfl rfl rfl (by decide) ?_
  refine WpL.goff rfl rfl rfl (by decide) ?_
  refine WpL.goff rfl rfl rfl (by decide) ?_
  refine WpL.goff rfl rfl rfl (by decide) ?_
  refine s_pickT rfl rfl rfl ?_
  refine WpL.nil ?_
  refine Wp.condT rfl ?_
  refine Wp.seq ?_
  refine Wp.region ?_
  refine s_as rfl rfl ?_
  refine WpL.nil ?_
  refine Wp.ret ?_
  apply RetQ.mk
  · exact (Res.one rfl rfl)
  · exact ⟨rfl, rfl⟩
  · first | exact Ent.refl _ | exact Ent.nil _ | exact Take.ent' (by repeat' constructor) | (repeat (first | exact Ent.refl _ | refine Ent.drop ?_))

theorem pnPut_bad (g : Nat) (a b d told imgs e : Int) (stp hp bv : Value) (F1 F2 : HP) (c : Int) (he : e ≠ 0) : Fn Tryz.prog 17 #[.pointer (some ⟨g, 0, none⟩), .int .u8 c] [blk g [.int .i64 a, .int .i64 b, .int .i64 d, stp, hp, bv, .int .i64 told, .int .i64 imgs, .bool false, .int .i64 e] 123, F1, F2] (fun v l => v = .slice none 0 0 ∧ l = [blk g [.int .i64 a, .int .i64 b, .int .i64 d, stp, hp, bv, .int .i64 told, .int .i64 imgs, .bool false, .int .i64 e] 123, F1, F2]) := by
  refine Fn.intro (vs := [.pointer (some ⟨g, 0, none⟩), .int .u8 c]) Tryz.func17 rfl Tryz.ntmps17 rfl ?_
  refine Wp.seq ?_
  refine Wp.region ?_
  refine s_as rfl rfl ?_
  refine WpL.nil ?_
  refine Wp.seq ?_
  refine Wp.seq ?_
  refine Wp.region ?_
  refine s_mv rfl rfl ?_
  refine s_nc rfl rfl ?_
  refine s_fa (o2 := 8) rfl rfl rfl ?_
  refine s_ld rfl rfl (by rfl) ?_
  refine s_mv rfl rfl ?_
  refine WpL.gon rfl rfl ?_
  refine s_mv rfl rfl ?_
  refine WpL.gon rfl rfl ?_
  refine s_nc rfl rfl ?_
  refine WpL.gon rfl rfl ?_
  refine s_fa (o2 := 9) rfl rfl rfl ?_
  refine WpL.gon rfl rfl ?_
  refine s_ld rfl rfl (by rfl) ?_
  refine WpL.gon rfl rfl ?_
  refine s_ne rfl rfl rfl ?_
  refine s_pickF rfl rfl rfl ?_
  refine WpL.nil ?_
  refine Wp.condDT rfl he ?_
  refine Wp.seq ?_
  refine Wp.region ?_
  refine s_as rfl rfl ?_
  refine WpL.nil ?_
  refine Wp.ret ?_
  apply RetQ.mk
  · exact (Res.one rfl rfl)
  · exact ⟨rfl, rfl⟩
  · first | exact Ent.refl _ | exact Ent.nil _ | exact Take.ent' (by repeat' constructor) | (repeat (first | exact Ent.refl _ | refine Ent.drop ?_))

theorem pnPut_go (g k : Nat) (a b d told imgs : Int) (hp bv : Value) (F1 F2 : HP) (c : Int) (ht : 0 ≤ told ∧ told ≤ 2 ^ 60) [Ent1 Tryz.prog k] (R : Value → List HP → Prop) (hS : Fn Tryz.prog k #[.pointer (some ⟨g, 0, none⟩), .int .u8 c] [blk g [.int .i64 a, .int .i64 b, .int .i64 d, (.func (.func k) #[.pointer (some ⟨g, 0, none⟩)] #[]), hp, bv, .int .i64 (told + 1), .int .i64 imgs, .bool false, .int .i64 0] 123, F1, F2] R) : Fn Tryz.prog 17 #[.pointer (some ⟨g, 0, none⟩), .int .u8 c] [blk g [.int .i64 a, .int .i64 b, .int .i64 d, (.func (.func k) #[.pointer (some ⟨g, 0, none⟩)] #[]), hp, bv, .int .i64 told, .int .i64 imgs, .bool false, .int .i64 0] 123, F1, F2] (R) := by
  refine Fn.intro (vs := [.pointer (some ⟨g, 0, none⟩), .int .u8 c]) Tryz.func17 rfl Tryz.ntmps17 rfl ?_
  refine Wp.seq ?_
  refine Wp.region ?_
  refine s_as rfl rfl ?_
  refine WpL.nil ?_
  refine Wp.seq ?_
  refine Wp.seq ?_
  refine Wp.region ?_
  refine s_mv rfl rfl ?_
  refine s_nc rfl rfl ?_
  refine s_fa (o2 := 8) rfl rfl rfl ?_
  refine s_ld rfl rfl (by rfl) ?_
  refine s_mv rfl rfl ?_
  refine WpL.gon rfl rfl ?_
  refine s_mv rfl rfl ?_
  refine WpL.gon rfl rfl ?_
  refine s_nc rfl rfl ?_
  refine WpL.gon rfl rfl ?_
  refine s_fa (o2 := 9) rfl rfl rfl ?_
  refine WpL.gon rfl rfl ?_
  refine s_ld rfl rfl (by rfl) ?_
  refine WpL.gon rfl rfl ?_
  refine s_ne rfl rfl rfl ?_
  refine s_pickF rfl rfl rfl ?_
  refine WpL.nil ?_
  refine Wp.condDF rfl (by simp) ?_
  refine Wp.skip ?_
  refine Wp.seq ?_
  refine Wp.region ?_
  refine s_mv rfl rfl ?_
  refine s_nc rfl rfl ?_
  refine s_fa (o2 := 6) rfl rfl rfl ?_
  refine s_ld rfl rfl (by rfl) ?_
  first | refine s_add rfl rfl rfl (w_i64 (by omega) (by omega)) ?_ | refine s_addw rfl rfl rfl ?_
  refine s_nc rfl rfl ?_
  refine s_fa (o2 := 6) rfl rfl rfl ?_
  refine s_st rfl rfl rfl ?_
  refine WpL.nil ?_
  refine Wp.seq ?_
  refine Wp.region ?_
  refine s_mv rfl rfl ?_
  refine s_nc rfl rfl ?_
  refine s_fa (o2 := 3) rfl rfl rfl ?_
  refine s_ld rfl rfl (by rfl) ?_
  refine s_mv rfl rfl ?_
  refine s_call (u := [.pointer (some ⟨g, 0, none⟩)]) (c := []) rfl rfl rfl rfl (by repeat' constructor) (hS) ?_
  intro v m hR
  refine s_as rfl rfl ?_
  refine WpL.nil ?_
  refine Wp.ret ?_
  apply RetQ.mk
  · exact (Res.one rfl rfl)
  · exact hR
  · simp only [List.append_nil]; exact Ent.refl _

theorem pnTold_open (g : Nat) (a b d told imgs e : Int) (over : Bool) (stp hp bv : Value) (F1 F2 : HP) : Fn Tryz.prog 19 #[.pointer (some ⟨g, 0, none⟩)] [blk g [.int .i64 a, .int .i64 b, .int .i64 d, stp, hp, bv, .int .i64 told, .int .i64 imgs, .bool over, .int .i64 e] 123, F1, F2] (fun v l => v = .int .i64 told ∧ l = [blk g [.int .i64 a, .int .i64 b, .int .i64 d, stp, hp, bv, .int .i64 told, .int .i64 imgs, .bool over, .int .i64 e] 123, F1, F2]) := by
  refine Fn.intro (vs := [.pointer (some ⟨g, 0, none⟩)]) Tryz.func19 rfl Tryz.ntmps19 rfl ?_
  refine Wp.seq ?_
  refine Wp.region ?_
  refine s_as rfl rfl ?_
  refine WpL.nil ?_
  refine Wp.seq ?_
  refine Wp.region ?_
  refine s_mv rfl rfl ?_
  refine s_nc rfl rfl ?_
  refine s_fa (o2 := 6) rfl rfl rfl ?_
  refine s_ld rfl rfl (by rfl) ?_
  refine s_as rfl rfl ?_
  refine WpL.nil ?_
  refine Wp.ret ?_
  apply RetQ.mk
  · exact (Res.one rfl rfl)
  · exact ⟨rfl, rfl⟩
  · first | exact Ent.refl _ | exact Ent.nil _ | exact Take.ent' (by repeat' constructor) | (repeat (first | exact Ent.refl _ | refine Ent.drop ?_))

theorem pnImages_open (g : Nat) (a b d told imgs e : Int) (over : Bool) (stp hp bv : Value) (F1 F2 : HP) : Fn Tryz.prog 24 #[.pointer (some ⟨g, 0, none⟩)] [blk g [.int .i64 a, .int .i64 b, .int .i64 d, stp, hp, bv, .int .i64 told, .int .i64 imgs, .bool over, .int .i64 e] 123, F1, F2] (fun v l => v = .int .i64 imgs ∧ l = [blk g [.int .i64 a, .int .i64 b, .int .i64 d, stp, hp, bv, .int .i64 told, .int .i64 imgs, .bool over, .int .i64 e] 123, F1, F2]) := by
  refine Fn.intro (vs := [.pointer (some ⟨g, 0, none⟩)]) Tryz.func24 rfl Tryz.ntmps24 rfl ?_
  refine Wp.seq ?_
  refine Wp.region ?_
  refine s_as rfl rfl ?_
  refine WpL.nil ?_
  refine Wp.seq ?_
  refine Wp.region ?_
  refine s_mv rfl rfl ?_
  refine s_nc rfl rfl ?_
  refine s_fa (o2 := 7) rfl rfl rfl ?_
  refine s_ld rfl rfl (by rfl) ?_
  refine s_as rfl rfl ?_
  refine WpL.nil ?_
  refine Wp.ret ?_
  apply RetQ.mk
  · exact (Res.one rfl rfl)
  · exact ⟨rfl, rfl⟩
  · first | exact Ent.refl _ | exact Ent.nil _ | exact Take.ent' (by repeat' constructor) | (repeat (first | exact Ent.refl _ | refine Ent.drop ?_))

theorem pnError_open (g : Nat) (a b d told imgs e : Int) (over : Bool) (stp hp bv : Value) (F1 F2 : HP) : Fn Tryz.prog 18 #[.pointer (some ⟨g, 0, none⟩)] [blk g [.int .i64 a, .int .i64 b, .int .i64 d, stp, hp, bv, .int .i64 told, .int .i64 imgs, .bool over, .int .i64 e] 123, F1, F2] (fun v l => v = .tuple #[.int .i64 (if e = 0 then 0 else e), .int .i64 (if e = 0 then 0 else told)] ∧ l = [blk g [.int .i64 a, .int .i64 b, .int .i64 d, stp, hp, bv, .int .i64 told, .int .i64 imgs, .bool over, .int .i64 e] 123, F1, F2]) := by
  refine Fn.intro (vs := [.pointer (some ⟨g, 0, none⟩)]) Tryz.func18 rfl Tryz.ntmps18 rfl ?_
  refine Wp.seq ?_
  refine Wp.region ?_
  refine s_as rfl rfl ?_
  refine s_as rfl rfl ?_
  refine WpL.nil ?_
  refine Wp.seq ?_
  refine Wp.seq ?_
  refine Wp.region ?_
  refine s_mv rfl rfl ?_
  refine s_nc rfl rfl ?_
  refine s_fa (o2 := 9) rfl rfl rfl ?_
  refine s_ld rfl rfl (by rfl) ?_
  refine s_eq rfl rfl rfl ?_
  refine WpL.nil ?_
  refine Wp.condD rfl (fun h0 => ?_) (fun h0 => ?_)
  · refine Wp.seq ?_
    refine Wp.region ?_
    refine s_as rfl rfl ?_
    refine s_as rfl rfl ?_
    refine WpL.nil ?_
    refine Wp.ret ?_
    apply RetQ.mk
    · exact (Res.two rfl rfl rfl)
    · exact ⟨by rw [if_pos h0, if_pos h0], rfl⟩
    · first | exact Ent.refl _ | exact Ent.nil _ | exact Take.ent' (by repeat' constructor) | (repeat (first | exact Ent.refl _ | refine Ent.drop ?_))
  · refine Wp.skip ?_
    refine Wp.seq ?_
    apply Wp.draw mixed [⟨9, _, []⟩, ⟨10, _, [0]⟩, ⟨11, _, [1]⟩, ⟨12, _, [2]⟩, ⟨13, _, []⟩, ⟨14, _, [4]⟩, ⟨15, _, [5]⟩, ⟨16, _, [6]⟩, ⟨2, _, [3, 0, 1, 2]⟩, ⟨3, _, [7, 8, 0, 1, 2, 3, 4, 5, 6]⟩] rfl
    · refine AllObs.mk ?_ ?_
      · refine s_mv rfl rfl ?_
        exact obN rfl
      refine AllObs.mk ?_ ?_
      · refine s_nc rfl rfl ?_
        exact obN rfl
      refine AllObs.mk ?_ ?_
      · refine s_fa (o2 := 9) rfl rfl rfl ?_
        exact obN rfl
      refine AllObs.mk ?_ ?_
      · refine s_ld rfl rfl (by rfl) ?_
        exact obN rfl
      refine AllObs.mk ?_ ?_
      · refine s_mv rfl rfl ?_
        exact obN rfl
      refine AllObs.mk ?_ ?_
      · refine s_nc rfl rfl ?_
        exact obN rfl
      refine AllObs.mk ?_ ?_
      · refine s_fa (o2 := 6) rfl rfl rfl ?_
        exact obN rfl
      refine AllObs.mk ?_ ?_
      · refine s_ld rfl rfl (by rfl) ?_
        exact obN rfl
      refine AllObs.mk ?_ ?_
      · refine s_as rfl rfl ?_
        exact obN rfl
      refine AllObs.mk ?_ ?_
      · refine s_as rfl rfl ?_
        exact obN rfl
      exact AllObs.nil
    · refine Wp.ret ?_
      apply RetQ.mk
      · exact (Res.two rfl rfl rfl)
      · exact ⟨by rw [if_neg h0, if_neg h0], rfl⟩
      · first | exact Ent.refl _ | exact Ent.nil _ | exact Take.ent' (by repeat' constructor) | (repeat (first | exact Ent.refl _ | refine Ent.drop ?_))

theorem pnNew_spec (a b d : Int) : Fn Tryz.prog 16 #[.agg #[.int .i64 a, .int .i64 b, .int .i64 d]] [] (fun v l => ∃ g, v = .pointer (some ⟨g, 0, none⟩) ∧ l = [psR g a b d ps0]) := by
  refine Fn.intro (vs := [.agg #[.int .i64 a, .int .i64 b, .int .i64 d]]) Tryz.func16 rfl Tryz.ntmps16 rfl ?_
  refine Wp.seq ?_
  refine Wp.region ?_
  refine s_box rfl rfl rfl ?_
  intro g1
  refine s_as rfl rfl ?_
  refine WpL.nil ?_
  refine Wp.seq ?_
  refine Wp.region ?_
  refine s_lda (vs := [_, _, _]) rfl rfl rfl (by rfl) ?_
  refine s_bd rfl rfl ?_
  refine s_box rfl rfl rfl ?_
  intro g2
  refine s_as rfl rfl ?_
  refine WpL.nil ?_
  refine Wp.seq ?_
  refine Wp.region ?_
  refine s_mv rfl rfl ?_
  refine s_mv rfl rfl ?_
  refine s_mkfb rfl rfl rfl ?_
  refine s_nc rfl rfl ?_
  refine s_fa (o2 := 3) rfl rfl rfl ?_
  refine s_st rfl rfl rfl ?_
  refine WpL.nil ?_
  refine Wp.seq ?_
  refine Wp.region ?_
  refine s_mv rfl rfl ?_
  refine s_as rfl rfl ?_
  refine WpL.nil ?_
  refine Wp.ret ?_
  apply RetQ.mk
  · exact (Res.one rfl rfl)
  · exact ⟨g2, rfl, rfl⟩
  · refine Ent.trans (Take.ent' (pre := [blk g2 [.int .i64 a, .int .i64 b, .int .i64 d, (pnV g2 0), (.pointer none), .nilIface, .int .i64 0, .int .i64 0, .bool false, .int .i64 0] 123]) (by repeat' constructor)) (Ent.trans (Ent.cons (?_ : Ent [] [hdO (lim0 a) (lim1 b) (lim2 d) (.pointer none) none, bdR .nilIface hd0 .no])) (psR_cl (hd := none) (bd := .no)))
    exact Ent.pur rfl bdR_no

theorem hdAll_spec  : Fn Tryz.prog 21 #[] [] (fun v l => v = .agg #[.int .i64 4096, .int .i64 65536, .int .i64 65535] ∧ l = []) := by
  refine Fn.intro (vs := []) Tryz.func21 rfl Tryz.ntmps21 rfl ?_
  refine Wp.seq ?_
  refine Wp.region ?_
  refine s_al rfl ?_
  intro g1
  refine WpL.nil ?_
  refine Wp.seq ?_
  refine Wp.region ?_
  refine s_bd rfl rfl ?_
  refine s_sta rfl rfl rfl (by rfl) rfl ?_
  refine WpL.nil ?_
  refine Wp.ret ?_
  apply RetQ.mk
  · exact (RetQ.cell rfl rfl (by rfl))
  · exact ⟨rfl, rfl⟩
  · first | exact Ent.refl _ | exact Ent.nil _ | exact Take.ent' (by repeat' constructor) | (repeat (first | exact Ent.refl _ | refine Ent.drop ?_))

end Go.Proofs.YtggamdlpiejbiaaGreat
