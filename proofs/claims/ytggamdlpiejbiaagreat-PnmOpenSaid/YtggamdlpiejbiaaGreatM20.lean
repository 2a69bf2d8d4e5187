/- Walks and plain laws, a part of the proof of PnmOpen: every input that the law's guards let in, no condition beside. -/
import Derived.Test.YtggamdlpiejbiaaGreatM19
namespace Go.Proofs.YtggamdlpiejbiaaGreat
open Go.RowKit Go.Shelf


theorem pnHeads_1 (g : Nat) (a b d told imgs e : Int) (over : Bool) (hp bv : Value) (h : HS) (c : Int) (hc0 : 0 ≤ c) (hc1 : c ≤ 255) (hj : hdJ (lim0 a) (lim1 b) (lim2 d) h) :
    Fn Tryz.prog 113 #[.pointer (some ⟨g, 0, none⟩), .int .u8 c] [blk g [.int .i64 a, .int .i64 b, .int .i64 d, (pnV g 1), hp, bv, .int .i64 told, .int .i64 imgs, .bool over, .int .i64 e] 123, hdO (lim0 a) (lim1 b) (lim2 d) hp (some h), bdR bv h .no] (fun v l => l = [psR g a b d (psStep (lim0 a) (lim1 b) (lim2 d) ⟨(some h), 1, .no, told, imgs, over, e⟩ c).1, evO v (psStep (lim0 a) (lim1 b) (lim2 d) ⟨(some h), 1, .no, told, imgs, over, e⟩ c).2]) := by
  have e0 : psStep (lim0 a) (lim1 b) (lim2 d) ⟨(some h), 1, .no, told, imgs, over, e⟩ c = psHeads ⟨(some h), 1, .no, told, imgs, over, e⟩ (hdPut (lim0 a) (lim1 b) (lim2 d) h c) := (if_neg (show ¬ (1 : Int) = 0 by decide)).trans (if_pos rfl)
  rw [e0]
  refine (Fn.pur (p := bv = .nilIface) (F := [hdO (lim0 a) (lim1 b) (lim2 d) hp (some h), blk g [.int .i64 a, .int .i64 b, .int .i64 d, (pnV g 1), hp, bv, .int .i64 told, .int .i64 imgs, .bool over, .int .i64 e] 123]) fun hbv => ?_).pre (Take.ent' (pre := [bdR bv h .no, _, _]) (by repeat' constructor))
  subst hbv
  refine Fn.exs (F := [_]) fun gh => ?_
  refine Fn.pur (F := [hdR gh (lim0 a) (lim1 b) (lim2 d) h, _]) fun hhp => ?_
  subst hhp
  exact (pnHeads_cl g gh a b d told imgs e over h (some h) c hc0 hc1 hj).pre Ent.swap


theorem psPut_rep (g : Nat) (a b d : Int) (s : PS) (N : Nat) (hN : N ≤ 1000000000) (hI : psI (lim0 a) (lim1 b) (lim2 d) N s) (c : Int) (hc0 : 0 ≤ c) (hc1 : c ≤ 255) : Fn Tryz.prog 17 #[.pointer (some ⟨g, 0, none⟩), .int .u8 c] [psR g a b d s] (fun v l => l = [psR g a b d (psPut (lim0 a) (lim1 b) (lim2 d) s c).1, evO v (psPut (lim0 a) (lim1 b) (lim2 d) s c).2]) := by
  obtain ⟨hd, ph, bd, told, imgs, over, e⟩ := s
  refine Fn.exs fun ⟨hp, bv⟩ => ?_
  obtain ⟨⟨ht0, ht1⟩, ⟨hi0, hi1⟩, hJ⟩ := hI
  dsimp only at ht0 ht1 hi0 hi1 hJ
  by_cases ho : over = true
  · subst ho
    rw [show psPut (lim0 a) (lim1 b) (lim2 d) ⟨hd, ph, bd, told, imgs, true, e⟩ c = (⟨hd, ph, bd, told, imgs, true, e⟩, []) from if_pos (.inl rfl)]
    refine (pnPut_over g a b d told imgs e (pnV g ph) hp bv (hdO (lim0 a) (lim1 b) (lim2 d) hp hd) (bdR bv (hd.getD hd0) bd) c).mono ?_
    rintro v l ⟨rfl, rfl⟩
    exact ⟨_, rfl, (Ent.cons (Ent.cons (Ent.cons evO_0))).trans psR_cl⟩
  obtain rfl : over = false := by cases over <;> simp_all
  by_cases he : e = 0
  rotate_left
  · rw [show psPut (lim0 a) (lim1 b) (lim2 d) ⟨hd, ph, bd, told, imgs, false, e⟩ c = (⟨hd, ph, bd, told, imgs, false, e⟩, []) from if_pos (.inr he)]
    refine (pnPut_bad g a b d told imgs e (pnV g ph) hp bv (hdO (lim0 a) (lim1 b) (lim2 d) hp hd) (bdR bv (hd.getD hd0) bd) c he).mono ?_
    rintro v l ⟨rfl, rfl⟩
    exact ⟨_, rfl, (Ent.cons (Ent.cons (Ent.cons evO_0))).trans psR_cl⟩
  subst he
  rw [show psPut (lim0 a) (lim1 b) (lim2 d) ⟨hd, ph, bd, told, imgs, false, 0⟩ c = psStep (lim0 a) (lim1 b) (lim2 d) ⟨hd, ph, bd, told + 1, imgs, false, 0⟩ c from if_neg (by simp)]
  rcases hJ rfl rfl with ⟨hp0, hb, _⟩ | ⟨hp1, hb, h, hh, hj⟩ | ⟨hp2, h, hh, hf, hb⟩ <;> dsimp only at *
  · subst hp0 hb
    exact pnPut_go g 60 a b d told imgs hp bv _ _ c ⟨ht0, by omega⟩ _ (pnAhead_cl g a b d (told + 1) imgs 0 false hp bv hd c hc0 hc1)
  · subst hp1 hb hh
    exact pnPut_go g 113 a b d told imgs hp bv _ _ c ⟨ht0, by omega⟩ _ (pnHeads_1 g a b d (told + 1) imgs 0 false hp bv h c hc0 hc1 hj)
  · subst hp2 hh
    have hM := hf.2.2
    cases bd with
    | no => exact hb.elim
    | pl r =>
      obtain ⟨hk, hl, hi, hg⟩ := hb
      obtain ⟨i1, i2, i3, i4⟩ := hi
      have hch := chK_pos h.K
      exact pnPut_go g 163 a b d told imgs hp bv _ _ c ⟨ht0, by omega⟩ _ (pnBody_pl g a b d (told + 1) imgs 0 false hp bv h r ⟨hi0, by omega⟩ c hc0 hc1 hM hl (by omega) (by omega) ⟨i3, by omega⟩)
    | rw r =>
      obtain ⟨hk, hl, hbs, hst, hn, hro⟩ := hb
      exact pnPut_go g 163 a b d told imgs hp bv _ _ c ⟨ht0, by omega⟩ _ (pnBody_rw g a b d (told + 1) imgs 0 false hp bv h r ⟨hi0, by omega⟩ c hc0 hc1 hM hk hl hbs hst hn hro)


theorem endR_last3 {K W H : Int} {s : RS} (hl : s.last = 0) : (endR K W H s).1.last = 0 ∨ (endR K W H s).1.last = 1 ∨ (endR K W H s).1.last = 2 := by
  have hk := (endsR_keep (chK K) s).2.1
  unfold endR
  rw [if_neg (by omega)]
  split
  · exact .inr (.inr rfl)
  · rename_i h
    right; left
    revert h
    unfold fullR
    split
    · intro h; exact absurd (hk.trans hl) h
    · simp only
      split
      · intro _; rfl
      · intro h; exact absurd (hk.trans hl) h
theorem psTold_rep (g : Nat) (a b d : Int) (s : PS)  : Fn Tryz.prog 19 #[.pointer (some ⟨g, 0, none⟩)] [psR g a b d s] (fun v l => v = .int .i64 s.told ∧ l = [psR g a b d s]) := by
  obtain ⟨hd, ph, bd, told, imgs, over, e⟩ := s
  refine Fn.exs fun ⟨hp, bv⟩ => ?_
  refine (pnTold_open g a b d told imgs e over (pnV g ph) hp bv (hdO (lim0 a) (lim1 b) (lim2 d) hp hd) (bdR bv (hd.getD hd0) bd)).mono ?_
  rintro v l ⟨rfl, rfl⟩
  exact ⟨_, ⟨rfl, rfl⟩, psR_cl⟩


theorem psImages_rep (g : Nat) (a b d : Int) (s : PS)  : Fn Tryz.prog 24 #[.pointer (some ⟨g, 0, none⟩)] [psR g a b d s] (fun v l => v = .int .i64 s.imgs ∧ l = [psR g a b d s]) := by
  obtain ⟨hd, ph, bd, told, imgs, over, e⟩ := s
  refine Fn.exs fun ⟨hp, bv⟩ => ?_
  refine (pnImages_open g a b d told imgs e over (pnV g ph) hp bv (hdO (lim0 a) (lim1 b) (lim2 d) hp hd) (bdR bv (hd.getD hd0) bd)).mono ?_
  rintro v l ⟨rfl, rfl⟩
  exact ⟨_, ⟨rfl, rfl⟩, psR_cl⟩


theorem psError_rep (g : Nat) (a b d : Int) (s : PS)  : Fn Tryz.prog 18 #[.pointer (some ⟨g, 0, none⟩)] [psR g a b d s] (fun v l => v = .tuple #[.int .i64 (if s.e = 0 then 0 else s.e), .int .i64 (if s.e = 0 then 0 else s.told)] ∧ l = [psR g a b d s]) := by
  obtain ⟨hd, ph, bd, told, imgs, over, e⟩ := s
  refine Fn.exs fun ⟨hp, bv⟩ => ?_
  refine (pnError_open g a b d told imgs e over (pnV g ph) hp bv (hdO (lim0 a) (lim1 b) (lim2 d) hp hd) (bdR bv (hd.getD hd0) bd)).mono ?_
  rintro v l ⟨rfl, rfl⟩
  exact ⟨_, ⟨rfl, rfl⟩, psR_cl⟩

end Go.Proofs.YtggamdlpiejbiaaGreat
namespace Go.Proofs.YtggamdlpiejbiaaGreat
open Go.RowKit Go.Shelf

/-- A head that is parsed, number by number: how it stands at the number i. -/
def parI (l0 l1 l2 K : Int) (bs : List Int) (i at_ : Nat) (W H M : Int) : Prop :=
  hdP l0 l1 l2 bs = if i = 3 ∨ (i = 2 ∧ bitsK K) then ((K, W, H, M), (at_ : Int), 0) else hdFrom l0 l1 l2 K W H 0 i bs at_
theorem parI_step {l0 l1 l2 K W H M : Int} {bs : List Int} {i at_ : Nat} (h : parI l0 l1 l2 K bs i at_ W H M) (hi : i < 3) (hb : bitsK K → i < 2 ∧ M = 1) {t : TS} {k at' : Int} (hr : numRun (lsel l0 l1 l2 i) tk0 (bs.drop at_) at_ = (t, k, at')) :
    (k = 0 → hdP l0 l1 l2 bs = (((0, 0, 0, 0), ((bs.length : Nat) : Int), 6) : (Int × Int × Int × Int) × Int × Int)) ∧ (k = 2 → hdP l0 l1 l2 bs = ((0, 0, 0, 0), at', t.e)) ∧ (k ≠ 0 → k ≠ 2 → t.n = 0 → hdP l0 l1 l2 bs = ((0, 0, 0, 0), at', 4)) ∧
    (k ≠ 0 → k ≠ 2 → t.n ≠ 0 → parI l0 l1 l2 K bs (i + 1) at'.toNat (if i = 0 then t.n else W) (if i = 1 then t.n else H) (if i = 2 then t.n else M)) := by
  have hnd : ¬ (i = 3 ∨ (i = 2 ∧ bitsK K)) := fun q => by rcases q with q | ⟨q, q2⟩; omega; have := hb q2; omega
  unfold parI at h
  rw [if_neg hnd] at h
  unfold hdFrom at h
  rw [hdRun_num, hr] at h
  dsimp only at h
  have hlen := numRun_len (lsel l0 l1 l2 i) (bs.drop at_) tk0 at_
  rw [hr] at hlen
  dsimp only at hlen
  refine ⟨fun hk => ?_, fun hk => ?_, fun hk hk2 hn => ?_, fun hk hk2 hn => ?_⟩
  · subst hk
    rw [if_neg (fun q => q.2 rfl)] at h
    rw [h]; simp [hdDone, hdFin]
  · subst hk
    have hd : hdDone ⟨K, W, H, 0, 3, i, tk0, 0, 9⟩ t 2 = ⟨K, W, H, 0, 3, i, t, 2, t.e⟩ := by unfold hdDone; rw [if_neg (by decide), if_pos rfl]
    rw [hd, if_neg (by simp)] at h
    rw [h]; simp [hdFin]
  · have hd : hdDone ⟨K, W, H, 0, 3, i, tk0, 0, 9⟩ t k = ⟨K, W, H, 0, 3, i, t, 2, 4⟩ := by unfold hdDone; rw [if_neg hk, if_neg hk2, if_pos hn]
    rw [hd, if_neg (by simp)] at h
    rw [h]; simp [hdFin]
  · have hdr : (bs.drop at_).drop (at' - at_).toNat = bs.drop at'.toNat := by
      rw [List.drop_drop]; congr 1; omega
    unfold parI
    obtain rfl | rfl | rfl : i = 0 ∨ i = 1 ∨ i = 2 := by omega
    · have hd : hdDone ⟨K, W, H, 0, 3, ((0 : Nat) : Int), tk0, 0, 9⟩ t k = ⟨K, t.n, H, 0, 3, 1, tk0, 0, 9⟩ := by
        unfold hdDone; rw [if_neg hk, if_neg hk2, if_neg hn]; rfl
      rw [hd, if_pos ⟨rfl, hk⟩, hdr] at h
      rw [h, if_neg (by omega)]
      unfold hdFrom
      have e : ((at'.toNat : Nat) : Int) = at' := by omega
      rw [e]; rfl
    · by_cases hbk : bitsK K
      · have hd : hdDone ⟨K, W, H, 0, 3, ((1 : Nat) : Int), tk0, 0, 9⟩ t k = ⟨K, W, t.n, 1, 3, 3, t, 1, 0⟩ := by
          unfold hdDone; rw [if_neg hk, if_neg hk2, if_neg hn]
          have e2 : hdNext (hdSet ⟨K, W, H, 0, 3, ((1 : Nat) : Int), tk0, 0, 9⟩ t.n) = ⟨K, W, t.n, 1, 3, 3, tk0, 0, 9⟩ := by
            have e1 : hdSet ⟨K, W, H, 0, 3, ((1 : Nat) : Int), tk0, 0, 9⟩ t.n = ⟨K, W, t.n, 0, 3, 1, tk0, 0, 9⟩ := rfl
            rw [e1]; unfold hdNext; exact if_pos ⟨rfl, hbk⟩
          rw [e2]; rfl
        rw [hd, if_neg (by simp)] at h
        rw [h, if_pos (.inr ⟨rfl, hbk⟩)]
        have hM := (hb hbk).2
        subst hM
        have e : ((at'.toNat : Nat) : Int) = at' := by omega
        simp [hdFin, e]
      · have hd : hdDone ⟨K, W, H, 0, 3, ((1 : Nat) : Int), tk0, 0, 9⟩ t k = ⟨K, W, t.n, 0, 3, 2, tk0, 0, 9⟩ := by
          unfold hdDone; rw [if_neg hk, if_neg hk2, if_neg hn]
          have e2 : hdNext (hdSet ⟨K, W, H, 0, 3, ((1 : Nat) : Int), tk0, 0, 9⟩ t.n) = ⟨K, W, t.n, 0, 3, 2, tk0, 0, 9⟩ := by
            have e1 : hdSet ⟨K, W, H, 0, 3, ((1 : Nat) : Int), tk0, 0, 9⟩ t.n = ⟨K, W, t.n, 0, 3, 1, tk0, 0, 9⟩ := rfl
            rw [e1]; unfold hdNext; exact if_neg (fun q => hbk q.2)
          rw [e2]; rfl
        rw [hd, if_pos ⟨rfl, hk⟩, hdr] at h
        rw [h, if_neg (fun q => by rcases q with q | q; omega; exact hbk q.2)]
        unfold hdFrom
        have e : ((at'.toNat : Nat) : Int) = at' := by omega
        rw [e]; rfl
    · have hd : hdDone ⟨K, W, H, 0, 3, ((2 : Nat) : Int), tk0, 0, 9⟩ t k = ⟨K, W, H, t.n, 3, 3, t, 1, 0⟩ := by
        unfold hdDone; rw [if_neg hk, if_neg hk2, if_neg hn]; rfl
      rw [hd, if_neg (by simp)] at h
      rw [h, if_pos (.inl rfl)]
      have e : ((at'.toNat : Nat) : Int) = at' := by omega
      simp [hdFin, e]

theorem rtkNew_spec (most : Int) : Fn Tryz.prog 103 #[.int .i64 most] [] (fun v l => v = .agg #[.int .i64 0, .int .i64 0, .int .i64 most, .int .i64 9] ∧ l = []) := by
  refine Fn.intro (vs := [.int .i64 most]) Tryz.func103 rfl Tryz.ntmps103 rfl ?_
  refine Wp.seq ?_
  refine Wp.region ?_
  refine s_al rfl ?_
  intro g1
  refine WpL.nil ?_
  refine Wp.seq ?_
  refine Wp.region ?_
  refine s_mv rfl rfl ?_
  refine s_bd rfl rfl ?_
  refine s_sta rfl rfl rfl (by rfl) rfl ?_
  refine WpL.nil ?_
  refine Wp.ret ?_
  apply RetQ.mk
  · exact (RetQ.cell rfl rfl (by rfl))
  · exact ⟨rfl, rfl⟩
  · first | exact Ent.refl _ | exact Ent.nil _ | exact Take.ent' (by repeat' constructor) | (repeat (first | exact Ent.refl _ | refine Ent.drop ?_))

theorem rtkPut_spec (ph n most e c : Int) (hc0 : 0 ≤ c) (hc1 : c ≤ 255) (hn0 : 0 ≤ n) (hm0 : 0 ≤ most) (hm1 : most ≤ 1000000) (hph : 0 ≤ ph ∧ ph ≤ 5) : Fn Tryz.prog 104 #[.agg #[.int .i64 ph, .int .i64 n, .int .i64 most, .int .i64 e], .int .u8 c] [] (fun v l => v = .tuple #[.agg #[.int .i64 (tkPut most ⟨ph, n, e⟩ c).1.ph, .int .i64 (tkPut most ⟨ph, n, e⟩ c).1.n, .int .i64 most, .int .i64 (tkPut most ⟨ph, n, e⟩ c).1.e], .int .i64 (tkPut most ⟨ph, n, e⟩ c).2] ∧ l = []) := by
  refine Fn.intro (vs := [.agg #[.int .i64 ph, .int .i64 n, .int .i64 most, .int .i64 e], .int .u8 c]) Tryz.func104 rfl Tryz.ntmps104 rfl ?_
  refine Wp.seq ?_
  refine Wp.region ?_
  refine s_box rfl rfl rfl ?_
  intro g1
  refine s_al rfl ?_
  intro g2
  refine s_as rfl rfl ?_
  refine WpL.nil ?_
  refine Wp.seq ?_
  refine Wp.seq ?_
  refine Wp.region ?_
  refine s_fa (o2 := 0) rfl rfl rfl ?_
  refine s_ld rfl rfl (by rfl) ?_
  refine s_eq rfl rfl rfl ?_
  refine WpL.nil ?_
  refine Wp.condD rfl (fun h0 => ?_) (fun h0 => ?_)
  · refine Wp.seq ?_
    refine Wp.region ?_
    refine s_lda (vs := [_, _, _, _]) rfl rfl rfl (by rfl) ?_
    refine s_sta rfl rfl rfl (by rfl) rfl ?_
    refine s_as rfl rfl ?_
    refine WpL.nil ?_
    refine Wp.ret ?_
    apply RetQ.mk
    · exact (RetQ.cell2 rfl rfl (by rfl) rfl)
    · refine ⟨?_, rfl⟩
      unfold tkPut eol
      dsimp only
      repeat' split
      all_goals first | rfl | (exfalso; omega) | (exfalso; simp_all; done) | (exfalso; simp_all; omega) | (simp_all; done)
    · first | exact Ent.refl _ | exact Ent.nil _ | exact Take.ent' (by repeat' constructor) | (repeat (first | exact Ent.refl _ | refine Ent.drop ?_))
  · refine Wp.skip ?_
    refine Wp.seq ?_
    refine Wp.seq ?_
    refine Wp.region ?_
    refine s_fa (o2 := 0) rfl rfl rfl ?_
    refine s_ld rfl rfl (by rfl) ?_
    refine s_eq rfl rfl rfl ?_
    refine WpL.nil ?_
    refine Wp.condD rfl (fun h1 => ?_) (fun h1 => ?_)
    · refine Wp.seq ?_
      refine Wp.region ?_
      refine s_lda (vs := [_, _, _, _]) rfl rfl rfl (by rfl) ?_
      refine s_sta rfl rfl rfl (by rfl) rfl ?_
      refine s_as rfl rfl ?_
      refine WpL.nil ?_
      refine Wp.ret ?_
      apply RetQ.mk
      · exact (RetQ.cell2 rfl rfl (by rfl) rfl)
      · refine ⟨?_, rfl⟩
        unfold tkPut eol
        dsimp only
        repeat' split
        all_goals first | rfl | (exfalso; omega) | (exfalso; simp_all; done) | (exfalso; simp_all; omega) | (simp_all; done)
      · first | exact Ent.refl _ | exact Ent.nil _ | exact Take.ent' (by repeat' constructor) | (repeat (first | exact Ent.refl _ | refine Ent.drop ?_))
    · refine Wp.skip ?_
      refine Wp.seq ?_
      refine Wp.region ?_
      refine s_mv rfl rfl ?_
      refine s_eq rfl rfl rfl ?_
      refine s_mv rfl rfl ?_
      refine WpL.grd rfl rfl rfl (fun hg1 => ?_) (fun hg1 => ?_)
      · have hg1 := of_decide_eq_false hg1
        refine s_mv rfl rfl ?_
        refine WpL.gon rfl rfl ?_
        refine s_eq rfl rfl rfl ?_
        refine s_pickF rfl rfl rfl ?_
        refine s_as rfl rfl ?_
        refine WpL.nil ?_
        refine Wp.seq ?_
        refine Wp.seq ?_
        refine Wp.region ?_
        refine s_fa (o2 := 0) rfl rfl rfl ?_
        refine s_ld rfl rfl (by rfl) ?_
        refine s_eq rfl rfl rfl ?_
        refine WpL.nil ?_
        refine Wp.condD rfl (fun h2 => ?_) (fun h2 => ?_)
        · refine Wp.seq ?_
          refine Wp.seq ?_
          refine Wp.region ?_
          refine s_mv rfl rfl ?_
          refine WpL.nil ?_
          refine Wp.condD rfl (fun h3 => ?_) (fun h3 => ?_)
          · refine Wp.region ?_
            refine s_fa (o2 := 0) rfl rfl rfl ?_
            refine s_st rfl rfl rfl ?_
            refine WpL.nil ?_
            refine Wp.seq ?_
            refine Wp.region ?_
            refine s_lda (vs := [_, _, _, _]) rfl rfl rfl (by rfl) ?_
            refine s_sta rfl rfl rfl (by rfl) rfl ?_
            refine s_as rfl rfl ?_
            refine WpL.nil ?_
            refine Wp.ret ?_
            apply RetQ.mk
            · exact (RetQ.cell2 rfl rfl (by rfl) rfl)
            · refine ⟨?_, rfl⟩
              unfold tkPut eol
              dsimp only
              repeat' split
              all_goals first | rfl | (exfalso; omega) | (exfalso; simp_all; done) | (exfalso; simp_all; omega) | (simp_all; done)
            · first | exact Ent.refl _ | exact Ent.nil _ | exact Take.ent' (by repeat' constructor) | (repeat (first | exact Ent.refl _ | refine Ent.drop ?_))
          · refine Wp.skip ?_
            refine Wp.seq ?_
            refine Wp.region ?_
            refine s_lda (vs := [_, _, _, _]) rfl rfl rfl (by rfl) ?_
            refine s_sta rfl rfl rfl (by rfl) rfl ?_
            refine s_as rfl rfl ?_
            refine WpL.nil ?_
            refine Wp.ret ?_
            apply RetQ.mk
            · exact (RetQ.cell2 rfl rfl (by rfl) rfl)
            · refine ⟨?_, rfl⟩
              unfold tkPut eol
              dsimp only
              repeat' split
              all_goals first | rfl | (exfalso; omega) | (exfalso; simp_all; done) | (exfalso; simp_all; omega) | (simp_all; done)
            · first | exact Ent.refl _ | exact Ent.nil _ | exact Take.ent' (by repeat' constructor) | (repeat (first | exact Ent.refl _ | refine Ent.drop ?_))
        · refine Wp.skip ?_
          refine Wp.seq ?_
          refine Wp.seq ?_
          refine Wp.region ?_
          refine s_fa (o2 := 0) rfl rfl rfl ?_
          refine s_ld rfl rfl (by rfl) ?_
          refine s_eq rfl rfl rfl ?_
          refine WpL.nil ?_
          refine Wp.condD rfl (fun h4 => ?_) (fun h4 => ?_)
          · refine Wp.seq ?_
            refine Wp.seq ?_
            refine Wp.region ?_
            refine s_mv rfl rfl ?_
            refine WpL.nil ?_
            refine Wp.condD rfl (fun h5 => ?_) (fun h5 => ?_)
            · refine Wp.seq ?_
              refine Wp.region ?_
              refine s_fa (o2 := 0) rfl rfl rfl ?_
              refine s_st rfl rfl rfl ?_
              refine WpL.nil ?_
              refine Wp.seq ?_
              refine Wp.region ?_
              refine s_fa (o2 := 3) rfl rfl rfl ?_
              refine s_st rfl rfl rfl ?_
              refine WpL.nil ?_
              refine Wp.seq ?_
              refine Wp.region ?_
              refine s_lda (vs := [_, _, _, _]) rfl rfl rfl (by rfl) ?_
              refine s_sta rfl rfl rfl (by rfl) rfl ?_
              refine s_as rfl rfl ?_
              refine WpL.nil ?_
              refine Wp.ret ?_
              apply RetQ.mk
              · exact (RetQ.cell2 rfl rfl (by rfl) rfl)
              · refine ⟨?_, rfl⟩
                unfold tkPut eol
                dsimp only
                repeat' split
                all_goals first | rfl | (exfalso; omega) | (exfalso; simp_all; done) | (exfalso; simp_all; omega) | (simp_all; done)
              · first | exact Ent.refl _ | exact Ent.nil _ | exact Take.ent' (by repeat' constructor) | (repeat (first | exact Ent.refl _ | refine Ent.drop ?_))
            · refine Wp.skip ?_
              refine Wp.seq ?_
              refine Wp.region ?_
              refine s_lda (vs := [_, _, _, _]) rfl rfl rfl (by rfl) ?_
              refine s_sta rfl rfl rfl (by rfl) rfl ?_
              refine s_as rfl rfl ?_
              refine WpL.nil ?_
              refine Wp.ret ?_
              apply RetQ.mk
              · exact (RetQ.cell2 rfl rfl (by rfl) rfl)
              · refine ⟨?_, rfl⟩
                unfold tkPut eol
                dsimp only
                repeat' split
                all_goals first | rfl | (exfalso; omega) | (exfalso; simp_all; done) | (exfalso; simp_all; omega) | (simp_all; done)
              · first | exact Ent.refl _ | exact Ent.nil _ | exact Take.ent' (by repeat' constructor) | (repeat (first | exact Ent.refl _ | refine Ent.drop ?_))
          · refine Wp.skip ?_
            refine Wp.seq ?_
            refine Wp.seq ?_
            refine Wp.region ?_
            refine s_mv rfl rfl ?_
            refine s_eq rfl rfl rfl ?_
            refine WpL.nil ?_
            refine Wp.condD rfl (fun h6 => ?_) (fun h6 => ?_)
            · refine Wp.seq ?_
              refine Wp.region ?_
              refine s_fa (o2 := 0) rfl rfl rfl ?_
              refine s_ld rfl rfl (by rfl) ?_
              first | refine s_add rfl rfl rfl (w_i64 (by omega) (by omega)) ?_ | refine s_addw rfl rfl rfl ?_
              refine s_fa (o2 := 0) rfl rfl rfl ?_
              refine s_st rfl rfl rfl ?_
              refine WpL.nil ?_
              refine Wp.seq ?_
              refine Wp.region ?_
              refine s_lda (vs := [_, _, _, _]) rfl rfl rfl (by rfl) ?_
              refine s_sta rfl rfl rfl (by rfl) rfl ?_
              refine s_as rfl rfl ?_
              refine WpL.nil ?_
              refine Wp.ret ?_
              apply RetQ.mk
              · exact (RetQ.cell2 rfl rfl (by rfl) rfl)
              · refine ⟨?_, rfl⟩
                unfold tkPut eol
                dsimp only
                repeat' split
                all_goals first | rfl | (exfalso; omega) | (exfalso; simp_all; done) | (exfalso; simp_all; omega) | (simp_all; done)
              · first | exact Ent.refl _ | exact Ent.nil _ | exact Take.ent' (by repeat' constructor) | (repeat (first | exact Ent.refl _ | refine Ent.drop ?_))
            · refine Wp.skip ?_
              refine Wp.seq ?_
              refine Wp.seq ?_
              refine Wp.region ?_
              refine s_mv rfl rfl ?_
              refine s_callf rfl rfl (by repeat' constructor) (rBlank_spec _) ?_
              rintro _ _ ⟨rfl, rfl⟩
              simp only [napp]
              refine s_mv rfl rfl ?_
              refine WpL.grd rfl rfl rfl (fun hg2 => ?_) (fun hg2 => ?_)
              · refine s_fa (o2 := 0) rfl rfl rfl ?_
                refine WpL.gon rfl rfl ?_
                refine s_ld rfl rfl (by rfl) ?_
                refine WpL.gon rfl rfl ?_
                refine s_eq rfl rfl rfl ?_
                refine s_pickT rfl rfl rfl ?_
                refine WpL.nil ?_
                refine Wp.condD rfl (fun h7 => ?_) (fun h7 => ?_)
                · refine Wp.seq ?_
                  refine Wp.region ?_
                  refine s_lda (vs := [_, _, _, _]) rfl rfl rfl (by rfl) ?_
                  refine s_sta rfl rfl rfl (by rfl) rfl ?_
                  refine s_as rfl rfl ?_
                  refine WpL.nil ?_
                  refine Wp.ret ?_
                  apply RetQ.mk
                  · exact (RetQ.cell2 rfl rfl (by rfl) rfl)
                  · refine ⟨?_, rfl⟩
                    unfold tkPut eol
                    dsimp only
                    repeat' split
                    all_goals first | rfl | (exfalso; omega) | (exfalso; simp_all; done) | (exfalso; simp_all; omega) | (simp_all; done)
                  · first | exact Ent.refl _ | exact Ent.nil _ | exact Take.ent' (by repeat' constructor) | (repeat (first | exact Ent.refl _ | refine Ent.drop ?_))
                · refine Wp.skip ?_
                  refine Wp.seq ?_
                  refine Wp.seq ?_
                  refine Wp.region ?_
                  refine s_mv rfl rfl ?_
                  refine s_callf rfl rfl (by repeat' constructor) (rBlank_spec _) ?_
                  rintro _ _ ⟨rfl, rfl⟩
                  simp only [napp]
                  refine WpL.nil ?_
                  refine Wp.cond rfl (fun h8 => ?_) (fun h8 => ?_)
                  · refine Wp.seq ?_
                    refine Wp.region ?_
                    refine s_fa (o2 := 0) rfl rfl rfl ?_
                    refine s_st rfl rfl rfl ?_
                    refine WpL.nil ?_
                    refine Wp.seq ?_
                    refine Wp.region ?_
                    refine s_fa (o2 := 3) rfl rfl rfl ?_
                    refine s_st rfl rfl rfl ?_
                    refine WpL.nil ?_
                    refine Wp.seq ?_
                    refine Wp.region ?_
                    refine s_lda (vs := [_, _, _, _]) rfl rfl rfl (by rfl) ?_
                    refine s_sta rfl rfl rfl (by rfl) rfl ?_
                    refine s_as rfl rfl ?_
                    refine WpL.nil ?_
                    refine Wp.ret ?_
                    apply RetQ.mk
                    · exact (RetQ.cell2 rfl rfl (by rfl) rfl)
                    · refine ⟨?_, rfl⟩
                      unfold tkPut eol
                      dsimp only
                      repeat' split
                      all_goals first | rfl | (exfalso; omega) | (exfalso; simp_all; done) | (exfalso; simp_all; omega) | (simp_all; done)
                    · first | exact Ent.refl _ | exact Ent.nil _ | exact Take.ent' (by repeat' constructor) | (repeat (first | exact Ent.refl _ | refine Ent.drop ?_))
                  · refine Wp.skip ?_
                    refine Wp.seq ?_
                    refine Wp.region ?_
                    refine s_fa (o2 := 1) rfl rfl rfl ?_
                    refine s_ld rfl rfl (by rfl) ?_
                    refine s_mv rfl rfl ?_
                    refine s_fa (o2 := 2) rfl rfl rfl ?_
                    refine s_ld rfl rfl (by rfl) ?_
                    refine s_callf rfl rfl (by repeat' constructor) (rStep_spec _ _ _ hc0 hc1 hn0 hm0 (by omega)) ?_
                    rintro _ _ ⟨rfl, rfl⟩
                    simp only [napp]
                    refine s_mv rfl rfl ?_
                    refine s_ext rfl rfl rfl ?_
                    refine s_ext rfl rfl rfl ?_
                    refine s_as rfl rfl ?_
                    refine s_as rfl rfl ?_
                    refine WpL.nil ?_
                    refine Wp.seq ?_
                    refine Wp.seq ?_
                    refine Wp.region ?_
                    refine s_mv rfl rfl ?_
                    refine s_ne rfl rfl rfl ?_
                    refine WpL.nil ?_
                    refine Wp.condD rfl (fun h9 => ?_) (fun h9 => ?_)
                    · refine Wp.seq ?_
                      refine Wp.region ?_
                      refine s_fa (o2 := 2) rfl rfl rfl ?_
                      refine s_ld rfl rfl (by rfl) ?_
                      refine s_mv rfl rfl ?_
                      refine s_bd rfl rfl ?_
                      refine s_sta rfl rfl rfl (by rfl) rfl ?_
                      refine s_as rfl rfl ?_
                      refine WpL.nil ?_
                      refine Wp.ret ?_
                      apply RetQ.mk
                      · exact (RetQ.cell2 rfl rfl (by rfl) rfl)
                      · refine ⟨?_, rfl⟩
                        unfold tkPut eol
                        dsimp only
                        repeat' split
                        all_goals first | rfl | (exfalso; omega) | (exfalso; simp_all; done) | (exfalso; simp_all; omega) | (simp_all; done)
                      · first | exact Ent.refl _ | exact Ent.nil _ | exact Take.ent' (by repeat' constructor) | (repeat (first | exact Ent.refl _ | refine Ent.drop ?_))
                    · refine Wp.skip ?_
                      refine Wp.seq ?_
                      refine Wp.region ?_
                      refine s_mv rfl rfl ?_
                      refine s_fa (o2 := 1) rfl rfl rfl ?_
                      refine s_st rfl rfl rfl ?_
                      refine WpL.nil ?_
                      refine Wp.seq ?_
                      refine Wp.region ?_
                      refine s_fa (o2 := 0) rfl rfl rfl ?_
                      refine s_st rfl rfl rfl ?_
                      refine WpL.nil ?_
                      refine Wp.seq ?_
                      refine Wp.region ?_
                      refine s_lda (vs := [_, _, _, _]) rfl rfl rfl (by rfl) ?_
                      refine s_sta rfl rfl rfl (by rfl) rfl ?_
                      refine s_as rfl rfl ?_
                      refine WpL.nil ?_
                      refine Wp.ret ?_
                      apply RetQ.mk
                      · exact (RetQ.cell2 rfl rfl (by rfl) rfl)
                      · refine ⟨?_, rfl⟩
                        unfold tkPut eol
                        dsimp only
                        repeat' split
                        all_goals first | rfl | (exfalso; omega) | (exfalso; simp_all; done) | (exfalso; simp_all; omega) | (simp_all; done)
                      · first | exact Ent.refl _ | exact Ent.nil _ | exact Take.ent' (by repeat' constructor) | (repeat (first | exact Ent.refl _ | refine Ent.drop ?_))
              · refine WpL.goff rfl rfl rfl (by decide) ?_
                refine WpL.goff rfl rfl rfl (by decide) ?_
                refine s_pickF rfl rfl rfl ?_
                refine WpL.nil ?_
                refine Wp.condF rfl ?_
                refine Wp.skip ?_
                refine Wp.seq ?_
                refine Wp.seq ?_
                refine Wp.region ?_
                refine s_mv rfl rfl ?_
                refine s_callf rfl rfl (by repeat' constructor) (rBlank_spec _) ?_
                rintro _ _ ⟨rfl, rfl⟩
                simp only [napp]
                refine WpL.nil ?_
                refine Wp.cond rfl (fun h8 => ?_) (fun h8 => ?_)
                · refine Wp.seq ?_
                  refine Wp.region ?_
                  refine s_fa (o2 := 0) rfl rfl rfl ?_
                  refine s_st rfl rfl rfl ?_
                  refine WpL.nil ?_
                  refine Wp.seq ?_
                  refine Wp.region ?_
                  refine s_fa (o2 := 3) rfl rfl rfl ?_
                  refine s_st rfl rfl rfl ?_
                  refine WpL.nil ?_
                  refine Wp.seq ?_
                  refine Wp.region ?_
                  refine s_lda (vs := [_, _, _, _]) rfl rfl rfl (by rfl) ?_
                  refine s_sta rfl rfl rfl (by rfl) rfl ?_
                  refine s_as rfl rfl ?_
                  refine WpL.nil ?_
                  refine Wp.ret ?_
                  apply RetQ.mk
                  · exact (RetQ.cell2 rfl rfl (by rfl) rfl)
                  · refine ⟨?_, rfl⟩
                    unfold tkPut eol
                    dsimp only
                    repeat' split
                    all_goals first | rfl | (exfalso; omega) | (exfalso; simp_all; done) | (exfalso; simp_all; omega) | (simp_all; done)
                  · first | exact Ent.refl _ | exact Ent.nil _ | exact Take.ent' (by repeat' constructor) | (repeat (first | exact Ent.refl _ | refine Ent.drop ?_))
                · refine Wp.skip ?_
                  refine Wp.seq ?_
                  refine Wp.region ?_
                  refine s_fa (o2 := 1) rfl rfl rfl ?_
                  refine s_ld rfl rfl (by rfl) ?_
                  refine s_mv rfl rfl ?_
                  refine s_fa (o2 := 2) rfl rfl rfl ?_
                  refine s_ld rfl rfl (by rfl) ?_
                  refine s_callf rfl rfl (by repeat' constructor) (rStep_spec _ _ _ hc0 hc1 hn0 hm0 (by omega)) ?_
                  rintro _ _ ⟨rfl, rfl⟩
                  simp only [napp]
                  refine s_mv rfl rfl ?_
                  refine s_ext rfl rfl rfl ?_
                  refine s_ext rfl rfl rfl ?_
                  refine s_as rfl rfl ?_
                  refine s_as rfl rfl ?_
                  refine WpL.nil ?_
                  refine Wp.seq ?_
                  refine Wp.seq ?_
                  refine Wp.region ?_
                  refine s_mv rfl rfl ?_
                  refine s_ne rfl rfl rfl ?_
                  refine WpL.nil ?_
                  refine Wp.condD rfl (fun h9 => ?_) (fun h9 => ?_)
                  · refine Wp.seq ?_
                    refine Wp.region ?_
                    refine s_fa (o2 := 2) rfl rfl rfl ?_
                    refine s_ld rfl rfl (by rfl) ?_
                    refine s_mv rfl rfl ?_
                    refine s_bd rfl rfl ?_
                    refine s_sta rfl rfl rfl (by rfl) rfl ?_
                    refine s_as rfl rfl ?_
                    refine WpL.nil ?_
                    refine Wp.ret ?_
                    apply RetQ.mk
                    · exact (RetQ.cell2 rfl rfl (by rfl) rfl)
                    · refine ⟨?_, rfl⟩
                      unfold tkPut eol
                      dsimp only
                      repeat' split
                      all_goals first | rfl | (exfalso; omega) | (exfalso; simp_all; done) | (exfalso; simp_all; omega) | (simp_all; done)
                    · first | exact Ent.refl _ | exact Ent.nil _ | exact Take.ent' (by repeat' constructor) | (repeat (first | exact Ent.refl _ | refine Ent.drop ?_))
                  · refine Wp.skip ?_
                    refine Wp.seq ?_
                    refine Wp.region ?_
                    refine s_mv rfl rfl ?_
                    refine s_fa (o2 := 1) rfl rfl rfl ?_
                    refine s_st rfl rfl rfl ?_
                    refine WpL.nil ?_
                    refine Wp.seq ?_
                    refine Wp.region ?_
                    refine s_fa (o2 := 0) rfl rfl rfl ?_
                    refine s_st rfl rfl rfl ?_
                    refine WpL.nil ?_
                    refine Wp.seq ?_
                    refine Wp.region ?_
                    refine s_lda (vs := [_, _, _, _]) rfl rfl rfl (by rfl) ?_
                    refine s_sta rfl rfl rfl (by rfl) rfl ?_
                    refine s_as rfl rfl ?_
                    refine WpL.nil ?_
                    refine Wp.ret ?_
                    apply RetQ.mk
                    · exact (RetQ.cell2 rfl rfl (by rfl) rfl)
                    · refine ⟨?_, rfl⟩
                      unfold tkPut eol
                      dsimp only
                      repeat' split
                      all_goals first | rfl | (exfalso; omega) | (exfalso; simp_all; done) | (exfalso; simp_all; omega) | (simp_all; done)
                    · first | exact Ent.refl _ | exact Ent.nil _ | exact Take.ent' (by repeat' constructor) | (repeat (first | exact Ent.refl _ | refine Ent.drop ?_))
      · have hg1 := of_decide_eq_true hg1
        refine WpL.goff rfl rfl rfl (by decide) ?_
        refine s_pickT rfl rfl rfl ?_
        refine s_as rfl rfl ?_
        refine WpL.nil ?_
        refine Wp.seq ?_
        refine Wp.seq ?_
        refine Wp.region ?_
        refine s_fa (o2 := 0) rfl rfl rfl ?_
        refine s_ld rfl rfl (by rfl) ?_
        refine s_eq rfl rfl rfl ?_
        refine WpL.nil ?_
        refine Wp.condD rfl (fun h2 => ?_) (fun h2 => ?_)
        · refine Wp.seq ?_
          refine Wp.seq ?_
          refine Wp.region ?_
          refine s_mv rfl rfl ?_
          refine WpL.nil ?_
          refine Wp.condT rfl ?_
          refine Wp.region ?_
          refine s_fa (o2 := 0) rfl rfl rfl ?_
          refine s_st rfl rfl rfl ?_
          refine WpL.nil ?_
          refine Wp.seq ?_
          refine Wp.region ?_
          refine s_lda (vs := [_, _, _, _]) rfl rfl rfl (by rfl) ?_
          refine s_sta rfl rfl rfl (by rfl) rfl ?_
          refine s_as rfl rfl ?_
          refine WpL.nil ?_
          refine Wp.ret ?_
          apply RetQ.mk
          · exact (RetQ.cell2 rfl rfl (by rfl) rfl)
          · refine ⟨?_, rfl⟩
            unfold tkPut eol
            dsimp only
            repeat' split
            all_goals first | rfl | (exfalso; omega) | (exfalso; simp_all; done) | (exfalso; simp_all; omega) | (simp_all; done)
          · first | exact Ent.refl _ | exact Ent.nil _ | exact Take.ent' (by repeat' constructor) | (repeat (first | exact Ent.refl _ | refine Ent.drop ?_))
        · refine Wp.skip ?_
          refine Wp.seq ?_
          refine Wp.seq ?_
          refine Wp.region ?_
          refine s_fa (o2 := 0) rfl rfl rfl ?_
          refine s_ld rfl rfl (by rfl) ?_
          refine s_eq rfl rfl rfl ?_
          refine WpL.nil ?_
          refine Wp.condD rfl (fun h4 => ?_) (fun h4 => ?_)
          · refine Wp.seq ?_
            refine Wp.seq ?_
            refine Wp.region ?_
            refine s_mv rfl rfl ?_
            refine WpL.nil ?_
            refine Wp.condT rfl ?_
            refine Wp.seq ?_
            refine Wp.region ?_
            refine s_fa (o2 := 0) rfl rfl rfl ?_
            refine s_st rfl rfl rfl ?_
            refine WpL.nil ?_
            refine Wp.seq ?_
            refine Wp.region ?_
            refine s_fa (o2 := 3) rfl rfl rfl ?_
            refine s_st rfl rfl rfl ?_
            refine WpL.nil ?_
            refine Wp.seq ?_
            refine Wp.region ?_
            refine s_lda (vs := [_, _, _, _]) rfl rfl rfl (by rfl) ?_
            refine s_sta rfl rfl rfl (by rfl) rfl ?_
            refine s_as rfl rfl ?_
            refine WpL.nil ?_
            refine Wp.ret ?_
            apply RetQ.mk
            · exact (RetQ.cell2 rfl rfl (by rfl) rfl)
            · refine ⟨?_, rfl⟩
              unfold tkPut eol
              dsimp only
              repeat' split
              all_goals first | rfl | (exfalso; omega) | (exfalso; simp_all; done) | (exfalso; simp_all; omega) | (simp_all; done)
            · first | exact Ent.refl _ | exact Ent.nil _ | exact Take.ent' (by repeat' constructor) | (repeat (first | exact Ent.refl _ | refine Ent.drop ?_))
          · refine Wp.skip ?_
            refine Wp.seq ?_
            refine Wp.seq ?_
            refine Wp.region ?_
            refine s_mv rfl rfl ?_
            refine s_eq rfl rfl rfl ?_
            refine WpL.nil ?_
            refine Wp.condD rfl (fun h6 => ?_) (fun h6 => ?_)
            · refine Wp.seq ?_
              refine Wp.region ?_
              refine s_fa (o2 := 0) rfl rfl rfl ?_
              refine s_ld rfl rfl (by rfl) ?_
              first | refine s_add rfl rfl rfl (w_i64 (by omega) (by omega)) ?_ | refine s_addw rfl rfl rfl ?_
              refine s_fa (o2 := 0) rfl rfl rfl ?_
              refine s_st rfl rfl rfl ?_
              refine WpL.nil ?_
              refine Wp.seq ?_
              refine Wp.region ?_
              refine s_lda (vs := [_, _, _, _]) rfl rfl rfl (by rfl) ?_
              refine s_sta rfl rfl rfl (by rfl) rfl ?_
              refine s_as rfl rfl ?_
              refine WpL.nil ?_
              refine Wp.ret ?_
              apply RetQ.mk
              · exact (RetQ.cell2 rfl rfl (by rfl) rfl)
              · refine ⟨?_, rfl⟩
                unfold tkPut eol
                dsimp only
                repeat' split
                all_goals first | rfl | (exfalso; omega) | (exfalso; simp_all; done) | (exfalso; simp_all; omega) | (simp_all; done)
              · first | exact Ent.refl _ | exact Ent.nil _ | exact Take.ent' (by repeat' constructor) | (repeat (first | exact Ent.refl _ | refine Ent.drop ?_))
            · refine Wp.skip ?_
              refine Wp.seq ?_
              refine Wp.seq ?_
              refine Wp.region ?_
              refine s_mv rfl rfl ?_
              refine s_callf rfl rfl (by repeat' constructor) (rBlank_spec _) ?_
              rintro _ _ ⟨rfl, rfl⟩
              simp only [napp]
              refine s_mv rfl rfl ?_
              refine WpL.grd rfl rfl rfl (fun hg3 => ?_) (fun hg3 => ?_)
              · refine s_fa (o2 := 0) rfl rfl rfl ?_
                refine WpL.gon rfl rfl ?_
                refine s_ld rfl rfl (by rfl) ?_
                refine WpL.gon rfl rfl ?_
                refine s_eq rfl rfl rfl ?_
                refine s_pickT rfl rfl rfl ?_
                refine WpL.nil ?_
                refine Wp.condD rfl (fun h7 => ?_) (fun h7 => ?_)
                · refine Wp.seq ?_
                  refine Wp.region ?_
                  refine s_lda (vs := [_, _, _, _]) rfl rfl rfl (by rfl) ?_
                  refine s_sta rfl rfl rfl (by rfl) rfl ?_
                  refine s_as rfl rfl ?_
                  refine WpL.nil ?_
                  refine Wp.ret ?_
                  apply RetQ.mk
                  · exact (RetQ.cell2 rfl rfl (by rfl) rfl)
                  · refine ⟨?_, rfl⟩
                    unfold tkPut eol
                    dsimp only
                    repeat' split
                    all_goals first | rfl | (exfalso; omega) | (exfalso; simp_all; done) | (exfalso; simp_all; omega) | (simp_all; done)
                  · first | exact Ent.refl _ | exact Ent.nil _ | exact Take.ent' (by repeat' constructor) | (repeat (first | exact Ent.refl _ | refine Ent.drop ?_))
                · refine Wp.skip ?_
                  refine Wp.seq ?_
                  refine Wp.seq ?_
                  refine Wp.region ?_
                  refine s_mv rfl rfl ?_
                  refine s_callf rfl rfl (by repeat' constructor) (rBlank_spec _) ?_
                  rintro _ _ ⟨rfl, rfl⟩
                  simp only [napp]
                  refine WpL.nil ?_
                  refine Wp.cond rfl (fun h8 => ?_) (fun h8 => ?_)
                  · refine Wp.seq ?_
                    refine Wp.region ?_
                    refine s_fa (o2 := 0) rfl rfl rfl ?_
                    refine s_st rfl rfl rfl ?_
                    refine WpL.nil ?_
                    refine Wp.seq ?_
                    refine Wp.region ?_
                    refine s_fa (o2 := 3) rfl rfl rfl ?_
                    refine s_st rfl rfl rfl ?_
                    refine WpL.nil ?_
                    refine Wp.seq ?_
                    refine Wp.region ?_
                    refine s_lda (vs := [_, _, _, _]) rfl rfl rfl (by rfl) ?_
                    refine s_sta rfl rfl rfl (by rfl) rfl ?_
                    refine s_as rfl rfl ?_
                    refine WpL.nil ?_
                    refine Wp.ret ?_
                    apply RetQ.mk
                    · exact (RetQ.cell2 rfl rfl (by rfl) rfl)
                    · refine ⟨?_, rfl⟩
                      unfold tkPut eol
                      dsimp only
                      repeat' split
                      all_goals first | rfl | (exfalso; omega) | (exfalso; simp_all; done) | (exfalso; simp_all; omega) | (simp_all; done)
                    · first | exact Ent.refl _ | exact Ent.nil _ | exact Take.ent' (by repeat' constructor) | (repeat (first | exact Ent.refl _ | refine Ent.drop ?_))
                  · refine Wp.skip ?_
                    refine Wp.seq ?_
                    refine Wp.region ?_
                    refine s_fa (o2 := 1) rfl rfl rfl ?_
                    refine s_ld rfl rfl (by rfl) ?_
                    refine s_mv rfl rfl ?_
                    refine s_fa (o2 := 2) rfl rfl rfl ?_
                    refine s_ld rfl rfl (by rfl) ?_
                    refine s_callf rfl rfl (by repeat' constructor) (rStep_spec _ _ _ hc0 hc1 hn0 hm0 (by omega)) ?_
                    rintro _ _ ⟨rfl, rfl⟩
                    simp only [napp]
                    refine s_mv rfl rfl ?_
                    refine s_ext rfl rfl rfl ?_
                    refine s_ext rfl rfl rfl ?_
                    refine s_as rfl rfl ?_
                    refine s_as rfl rfl ?_
                    refine WpL.nil ?_
                    refine Wp.seq ?_
                    refine Wp.seq ?_
                    refine Wp.region ?_
                    refine s_mv rfl rfl ?_
                    refine s_ne rfl rfl rfl ?_
                    refine WpL.nil ?_
                    refine Wp.condD rfl (fun h9 => ?_) (fun h9 => ?_)
                    · refine Wp.seq ?_
                      refine Wp.region ?_
                      refine s_fa (o2 := 2) rfl rfl rfl ?_
                      refine s_ld rfl rfl (by rfl) ?_
                      refine s_mv rfl rfl ?_
                      refine s_bd rfl rfl ?_
                      refine s_sta rfl rfl rfl (by rfl) rfl ?_
                      refine s_as rfl rfl ?_
                      refine WpL.nil ?_
                      refine Wp.ret ?_
                      apply RetQ.mk
                      · exact (RetQ.cell2 rfl rfl (by rfl) rfl)
                      · refine ⟨?_, rfl⟩
                        unfold tkPut eol
                        dsimp only
                        repeat' split
                        all_goals first | rfl | (exfalso; omega) | (exfalso; simp_all; done) | (exfalso; simp_all; omega) | (simp_all; done)
                      · first | exact Ent.refl _ | exact Ent.nil _ | exact Take.ent' (by repeat' constructor) | (repeat (first | exact Ent.refl _ | refine Ent.drop ?_))
                    · refine Wp.skip ?_
                      refine Wp.seq ?_
                      refine Wp.region ?_
                      refine s_mv rfl rfl ?_
                      refine s_fa (o2 := 1) rfl rfl rfl ?_
                      refine s_st rfl rfl rfl ?_
                      refine WpL.nil ?_
                      refine Wp.seq ?_
                      refine Wp.region ?_
                      refine s_fa (o2 := 0) rfl rfl rfl ?_
                      refine s_st rfl rfl rfl ?_
                      refine WpL.nil ?_
                      refine Wp.seq ?_
                      refine Wp.region ?_
                      refine s_lda (vs := [_, _, _, _]) rfl rfl rfl (by rfl) ?_
                      refine s_sta rfl rfl rfl (by rfl) rfl ?_
                      refine s_as rfl rfl ?_
                      refine WpL.nil ?_
                      refine Wp.ret ?_
                      apply RetQ.mk
                      · exact (RetQ.cell2 rfl rfl (by rfl) rfl)
                      · refine ⟨?_, rfl⟩
                        unfold tkPut eol
                        dsimp only
                        repeat' split
                        all_goals first | rfl | (exfalso; omega) | (exfalso; simp_all; done) | (exfalso; simp_all; omega) | (simp_all; done)
                      · first | exact Ent.refl _ | exact Ent.nil _ | exact Take.ent' (by repeat' constructor) | (repeat (first | exact Ent.refl _ | refine Ent.drop ?_))
              · refine WpL.goff rfl rfl rfl (by decide) ?_
                refine WpL.goff rfl rfl rfl (by decide) ?_
                refine s_pickF rfl rfl rfl ?_
                refine WpL.nil ?_
                refine Wp.condF rfl ?_
                refine Wp.skip ?_
                refine Wp.seq ?_
                refine Wp.seq ?_
                refine Wp.region ?_
                refine s_mv rfl rfl ?_
                refine s_callf rfl rfl (by repeat' constructor) (rBlank_spec _) ?_
                rintro _ _ ⟨rfl, rfl⟩
                simp only [napp]
                refine WpL.nil ?_
                refine Wp.cond rfl (fun h8 => ?_) (fun h8 => ?_)
                · refine Wp.seq ?_
                  refine Wp.region ?_
                  refine s_fa (o2 := 0) rfl rfl rfl ?_
                  refine s_st rfl rfl rfl ?_
                  refine WpL.nil ?_
                  refine Wp.seq ?_
                  refine Wp.region ?_
                  refine s_fa (o2 := 3) rfl rfl rfl ?_
                  refine s_st rfl rfl rfl ?_
                  refine WpL.nil ?_
                  refine Wp.seq ?_
                  refine Wp.region ?_
                  refine s_lda (vs := [_, _, _, _]) rfl rfl rfl (by rfl) ?_
                  refine s_sta rfl rfl rfl (by rfl) rfl ?_
                  refine s_as rfl rfl ?_
                  refine WpL.nil ?_
                  refine Wp.ret ?_
                  apply RetQ.mk
                  · exact (RetQ.cell2 rfl rfl (by rfl) rfl)
                  · refine ⟨?_, rfl⟩
                    unfold tkPut eol
                    dsimp only
                    repeat' split
                    all_goals first | rfl | (exfalso; omega) | (exfalso; simp_all; done) | (exfalso; simp_all; omega) | (simp_all; done)
                  · first | exact Ent.refl _ | exact Ent.nil _ | exact Take.ent' (by repeat' constructor) | (repeat (first | exact Ent.refl _ | refine Ent.drop ?_))
                · refine Wp.skip ?_
                  refine Wp.seq ?_
                  refine Wp.region ?_
                  refine s_fa (o2 := 1) rfl rfl rfl ?_
                  refine s_ld rfl rfl (by rfl) ?_
                  refine s_mv rfl rfl ?_
                  refine s_fa (o2 := 2) rfl rfl rfl ?_
                  refine s_ld rfl rfl (by rfl) ?_
                  refine s_callf rfl rfl (by repeat' constructor) (rStep_spec _ _ _ hc0 hc1 hn0 hm0 (by omega)) ?_
                  rintro _ _ ⟨rfl, rfl⟩
                  simp only [napp]
                  refine s_mv rfl rfl ?_
                  refine s_ext rfl rfl rfl ?_
                  refine s_ext rfl rfl rfl ?_
                  refine s_as rfl rfl ?_
                  refine s_as rfl rfl ?_
                  refine WpL.nil ?_
                  refine Wp.seq ?_
                  refine Wp.seq ?_
                  refine Wp.region ?_
                  refine s_mv rfl rfl ?_
                  refine s_ne rfl rfl rfl ?_
                  refine WpL.nil ?_
                  refine Wp.condD rfl (fun h9 => ?_) (fun h9 => ?_)
                  · refine Wp.seq ?_
                    refine Wp.region ?_
                    refine s_fa (o2 := 2) rfl rfl rfl ?_
                    refine s_ld rfl rfl (by rfl) ?_
                    refine s_mv rfl rfl ?_
                    refine s_bd rfl rfl ?_
                    refine s_sta rfl rfl rfl (by rfl) rfl ?_
                    refine s_as rfl rfl ?_
                    refine WpL.nil ?_
                    refine Wp.ret ?_
                    apply RetQ.mk
                    · exact (RetQ.cell2 rfl rfl (by rfl) rfl)
                    · refine ⟨?_, rfl⟩
                      unfold tkPut eol
                      dsimp only
                      repeat' split
                      all_goals first | rfl | (exfalso; omega) | (exfalso; simp_all; done) | (exfalso; simp_all; omega) | (simp_all; done)
                    · first | exact Ent.refl _ | exact Ent.nil _ | exact Take.ent' (by repeat' constructor) | (repeat (first | exact Ent.refl _ | refine Ent.drop ?_))
                  · refine Wp.skip ?_
                    refine Wp.seq ?_
                    refine Wp.region ?_
                    refine s_mv rfl rfl ?_
                    refine s_fa (o2 := 1) rfl rfl rfl ?_
                    refine s_st rfl rfl rfl ?_
                    refine WpL.nil ?_
                    refine Wp.seq ?_
                    refine Wp.region ?_
                    refine s_fa (o2 := 0) rfl rfl rfl ?_
                    refine s_st rfl rfl rfl ?_
                    refine WpL.nil ?_
                    refine Wp.seq ?_
                    refine Wp.region ?_
                    refine s_lda (vs := [_, _, _, _]) rfl rfl rfl (by rfl) ?_
                    refine s_sta rfl rfl rfl (by rfl) rfl ?_
                    refine s_as rfl rfl ?_
                    refine WpL.nil ?_
                    refine Wp.ret ?_
                    apply RetQ.mk
                    · exact (RetQ.cell2 rfl rfl (by rfl) rfl)
                    · refine ⟨?_, rfl⟩
                      unfold tkPut eol
                      dsimp only
                      repeat' split
                      all_goals first | rfl | (exfalso; omega) | (exfalso; simp_all; done) | (exfalso; simp_all; omega) | (simp_all; done)
                    · first | exact Ent.refl _ | exact Ent.nil _ | exact Take.ent' (by repeat' constructor) | (repeat (first | exact Ent.refl _ | refine Ent.drop ?_))

end Go.Proofs.YtggamdlpiejbiaaGreat
