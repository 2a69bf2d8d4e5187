/- Walks and plain laws, a part of the proof of PnmTwice: every input that the law's guards let in, no condition beside. -/
import Derived.Test.YtggamdlpiejbiaaGreatM18
namespace Go.Proofs.YtggamdlpiejbiaaGreat
open Go.RowKit Go.Shelf

/-- A head that is parsed, number by number: how it stands at the number i. -/
def parI (l0 l1 l2 K : Int) (bs : List Int) (i at_ : Nat) (W H M : Int) : Prop :=
  hdP l0 l1 l2 bs = if i = 3 ∨ (i = 2 ∧ XZ K) then ((K, W, H, M), (at_ : Int), 0) else hdFrom l0 l1 l2 K W H 0 i bs at_
theorem XM {l0 l1 l2 K W H M : Int} {bs : List Int} {i at_ : Nat} (h : parI l0 l1 l2 K bs i at_ W H M) (hi : i < 3) (hb : XZ K → i < 2 ∧ M = 1) {t : TS} {k at' : Int} (hr : Xe (Q0 l0 l1 l2 i) X8 (bs.drop at_) at_ = (t, k, at')) :
    (k = 0 → hdP l0 l1 l2 bs = (((0, 0, 0, 0), ((bs.length : Nat) : Int), 6) : (Int × Int × Int × Int) × Int × Int)) ∧ (k = 2 → hdP l0 l1 l2 bs = ((0, 0, 0, 0), at', t.e)) ∧ (k ≠ 0 → k ≠ 2 → t.n = 0 → hdP l0 l1 l2 bs = ((0, 0, 0, 0), at', 4)) ∧
    (k ≠ 0 → k ≠ 2 → t.n ≠ 0 → parI l0 l1 l2 K bs (i + 1) at'.toNat (if i = 0 then t.n else W) (if i = 1 then t.n else H) (if i = 2 then t.n else M)) := by
  have hnd : ¬ (i = 3 ∨ (i = 2 ∧ XZ K)) := fun q => by rcases q with q | ⟨q, q2⟩; omega; have := hb q2; omega
  unfold parI at h
  rw [if_neg hnd] at h
  unfold hdFrom at h
  rw [hdRun_num, hr] at h
  dsimp only at h
  have hlen := numRun_len (Q0 l0 l1 l2 i) (bs.drop at_) X8 at_
  rw [hr] at hlen
  dsimp only at hlen
  refine ⟨fun hk => ?_, fun hk => ?_, fun hk hk2 hn => ?_, fun hk hk2 hn => ?_⟩
  · subst hk
    rw [if_neg (fun q => q.2 rfl)] at h
    rw [h]; simp [XW, ZL]
  · subst hk
    have hd : XW ⟨K, W, H, 0, 3, i, X8, 0, 9⟩ t 2 = ⟨K, W, H, 0, 3, i, t, 2, t.e⟩ := by unfold XW; rw [if_neg (by decide), if_pos rfl]
    rw [hd, if_neg (by simp)] at h
    rw [h]; simp [ZL]
  · have hd : XW ⟨K, W, H, 0, 3, i, X8, 0, 9⟩ t k = ⟨K, W, H, 0, 3, i, t, 2, 4⟩ := by unfold XW; rw [if_neg hk, if_neg hk2, if_pos hn]
    rw [hd, if_neg (by simp)] at h
    rw [h]; simp [ZL]
  · have hdr : (bs.drop at_).drop (at' - at_).toNat = bs.drop at'.toNat := by
      rw [List.drop_drop]; congr 1; omega
    unfold parI
    obtain rfl | rfl | rfl : i = 0 ∨ i = 1 ∨ i = 2 := by omega
    · have hd : XW ⟨K, W, H, 0, 3, ((0 : Nat) : Int), X8, 0, 9⟩ t k = ⟨K, t.n, H, 0, 3, 1, X8, 0, 9⟩ := by
        unfold XW; rw [if_neg hk, if_neg hk2, if_neg hn]; rfl
      rw [hd, if_pos ⟨rfl, hk⟩, hdr] at h
      rw [h, if_neg (by omega)]
      unfold hdFrom
      have e : ((at'.toNat : Nat) : Int) = at' := by omega
      rw [e]; rfl
    · by_cases hbk : XZ K
      · have hd : XW ⟨K, W, H, 0, 3, ((1 : Nat) : Int), X8, 0, 9⟩ t k = ⟨K, W, t.n, 1, 3, 3, t, 1, 0⟩ := by
          unfold XW; rw [if_neg hk, if_neg hk2, if_neg hn]
          have e2 : XI (Ya ⟨K, W, H, 0, 3, ((1 : Nat) : Int), X8, 0, 9⟩ t.n) = ⟨K, W, t.n, 1, 3, 3, X8, 0, 9⟩ := by
            have e1 : Ya ⟨K, W, H, 0, 3, ((1 : Nat) : Int), X8, 0, 9⟩ t.n = ⟨K, W, t.n, 0, 3, 1, X8, 0, 9⟩ := rfl
            rw [e1]; unfold XI; exact if_pos ⟨rfl, hbk⟩
          rw [e2]; rfl
        rw [hd, if_neg (by simp)] at h
        rw [h, if_pos (.inr ⟨rfl, hbk⟩)]
        have hM := (hb hbk).2
        subst hM
        have e : ((at'.toNat : Nat) : Int) = at' := by omega
        simp [ZL, e]
      · have hd : XW ⟨K, W, H, 0, 3, ((1 : Nat) : Int), X8, 0, 9⟩ t k = ⟨K, W, t.n, 0, 3, 2, X8, 0, 9⟩ := by
          unfold XW; rw [if_neg hk, if_neg hk2, if_neg hn]
          have e2 : XI (Ya ⟨K, W, H, 0, 3, ((1 : Nat) : Int), X8, 0, 9⟩ t.n) = ⟨K, W, t.n, 0, 3, 2, X8, 0, 9⟩ := by
            have e1 : Ya ⟨K, W, H, 0, 3, ((1 : Nat) : Int), X8, 0, 9⟩ t.n = ⟨K, W, t.n, 0, 3, 1, X8, 0, 9⟩ := rfl
            rw [e1]; unfold XI; exact if_neg (fun q => hbk q.2)
          rw [e2]; rfl
        rw [hd, if_pos ⟨rfl, hk⟩, hdr] at h
        rw [h, if_neg (fun q => by rcases q with q | q; omega; exact hbk q.2)]
        unfold hdFrom
        have e : ((at'.toNat : Nat) : Int) = at' := by omega
        rw [e]; rfl
    · have hd : XW ⟨K, W, H, 0, 3, ((2 : Nat) : Int), X8, 0, 9⟩ t k = ⟨K, W, H, t.n, 3, 3, t, 1, 0⟩ := by
        unfold XW; rw [if_neg hk, if_neg hk2, if_neg hn]; rfl
      rw [hd, if_neg (by simp)] at h
      rw [h, if_pos (.inl rfl)]
      have e : ((at'.toNat : Nat) : Int) = at' := by omega
      simp [ZL, e]

theorem ZO (most : Int) : Fn Tryz.prog 103 #[.int .i64 most] [] (fun v l => v = .agg #[.int .i64 0, .int .i64 0, .int .i64 most, .int .i64 9] ∧ l = []) := by
 refine Qo (vs := [.int .i64 most]) Tryz.func103 rfl Tryz.ntmps103 rfl (Qb (Qa (X6 rfl ?_)))
 intro g1
 refine WpL.nil (Qb (Qa (Qc rfl rfl ?_)))
 refine Xl rfl rfl ?_
 refine QE rfl rfl rfl (by rfl) rfl ?_
 refine WpL.nil (Qg ?_)
 apply RetQ.mk
 ·exact (Xj rfl rfl (by rfl))
 ·exact ⟨rfl, rfl⟩
 ·exact Ent.nil _

theorem ZP (ph n most e c : Int) (hc0 : 0 ≤ c) (hc1 : c ≤ 255) (hn0 : 0 ≤ n) (hm0 : 0 ≤ most) (hm1 : most ≤ 1000000) (hph : 0 ≤ ph ∧ ph ≤ 5) : Fn Tryz.prog 104 #[.agg #[.int .i64 ph, .int .i64 n, .int .i64 most, .int .i64 e], .int .u8 c] [] (fun v l => v = .tuple #[.agg #[.int .i64 (QC most ⟨ph, n, e⟩ c).1.ph, .int .i64 (QC most ⟨ph, n, e⟩ c).1.n, .int .i64 most, .int .i64 (QC most ⟨ph, n, e⟩ c).1.e], .int .i64 (QC most ⟨ph, n, e⟩ c).2] ∧ l = []) := by
 refine Qo (vs := [.agg #[.int .i64 ph, .int .i64 n, .int .i64 most, .int .i64 e], .int .u8 c]) Tryz.func104 rfl Tryz.ntmps104 rfl (Qb (Qa (Xf rfl rfl rfl ?_)))
 intro g1
 refine X6 rfl ?_
 intro g2
 refine Qd rfl rfl (WpL.nil (Qb (Qb (Qa (Qj (o2 := 0) rfl rfl rfl (Qm rfl rfl (by rfl) ?_))))))
 refine QJ rfl rfl rfl (WpL.nil (Qh rfl (fun h0 => ?_) (fun h0 => ?_)))
 ·refine Qb (Qa ?_)
  refine Qz (vs := [_, _, _, _]) rfl rfl rfl (by rfl) ?_
  refine QE rfl rfl rfl (by rfl) rfl ?_
  refine Qd rfl rfl (WpL.nil (Qg ?_))
  apply RetQ.mk
  ·exact (QK rfl rfl (by rfl) rfl)
  ·refine ⟨?_, rfl⟩
   unfold QC eol
   dsimp only
   repeat' split
   all_goals rfl
  ·exact Ent.nil _
 ·refine Wp.skip (Qb (Qb (Qa (Qj (o2 := 0) rfl rfl rfl (Qm rfl rfl (by rfl) ?_)))))
  refine QJ rfl rfl rfl (WpL.nil (Qh rfl (fun h1 => ?_) (fun h1 => ?_)))
  ·refine Qb (Qa ?_)
   refine Qz (vs := [_, _, _, _]) rfl rfl rfl (by rfl) ?_
   refine QE rfl rfl rfl (by rfl) rfl ?_
   refine Qd rfl rfl (WpL.nil (Qg ?_))
   apply RetQ.mk
   ·exact (QK rfl rfl (by rfl) rfl)
   ·refine ⟨?_, rfl⟩
    unfold QC eol
    dsimp only
    repeat' split
    all_goals first | rfl | (exfalso; omega)
   ·exact Ent.nil _
  ·refine Wp.skip (Qb (Qa (Qc rfl rfl (QJ rfl rfl rfl (Qc rfl rfl (QP rfl rfl rfl (fun hg1 => ?_) (fun hg1 => ?_)))))))
   ·have hg1 := of_decide_eq_false hg1
    refine Qc rfl rfl (Qf rfl rfl (QJ rfl rfl rfl (Qu rfl rfl rfl (Qd rfl rfl (WpL.nil (Qb (Qb (Qa (Qj (o2 := 0) rfl rfl rfl (Qm rfl rfl (by rfl) ?_))))))))))
    refine QJ rfl rfl rfl (WpL.nil (Qh rfl (fun h2 => ?_) (fun h2 => ?_)))
    ·refine Qb (Qb (Qa (Qc rfl rfl (WpL.nil (Qh rfl (fun h3 => ?_) (fun h3 => ?_))))))
     ·refine Qa (Qj (o2 := 0) rfl rfl rfl (QN rfl rfl rfl (WpL.nil (Qb (Qa ?_)))))
      refine Qz (vs := [_, _, _, _]) rfl rfl rfl (by rfl) ?_
      refine QE rfl rfl rfl (by rfl) rfl ?_
      refine Qd rfl rfl (WpL.nil (Qg ?_))
      apply RetQ.mk
      ·exact (QK rfl rfl (by rfl) rfl)
      ·refine ⟨?_, rfl⟩
       unfold QC eol
       dsimp only
       repeat' split
       all_goals first | (exfalso; omega) | (simp_all; done)
      ·exact Ent.nil _
     ·refine Wp.skip (Qb (Qa ?_))
      refine Qz (vs := [_, _, _, _]) rfl rfl rfl (by rfl) ?_
      refine QE rfl rfl rfl (by rfl) rfl ?_
      refine Qd rfl rfl (WpL.nil (Qg ?_))
      apply RetQ.mk
      ·exact (QK rfl rfl (by rfl) rfl)
      ·refine ⟨?_, rfl⟩
       unfold QC eol
       dsimp only
       repeat' split
       all_goals first | (exfalso; omega) | (simp_all; done)
      ·exact Ent.nil _
    ·refine Wp.skip (Qb (Qb (Qa (Qj (o2 := 0) rfl rfl rfl (Qm rfl rfl (by rfl) ?_)))))
     refine QJ rfl rfl rfl (WpL.nil (Qh rfl (fun h4 => ?_) (fun h4 => ?_)))
     ·refine Qb (Qb (Qa (Qc rfl rfl (WpL.nil (Qh rfl (fun h5 => ?_) (fun h5 => ?_))))))
      ·refine Qb (Qa (Qj (o2 := 0) rfl rfl rfl (QN rfl rfl rfl (WpL.nil (Qb (Qa (Qj (o2 := 3) rfl rfl rfl (QN rfl rfl rfl (WpL.nil (Qb (Qa ?_)))))))))))
       refine Qz (vs := [_, _, _, _]) rfl rfl rfl (by rfl) ?_
       refine QE rfl rfl rfl (by rfl) rfl ?_
       refine Qd rfl rfl (WpL.nil (Qg ?_))
       apply RetQ.mk
       ·exact (QK rfl rfl (by rfl) rfl)
       ·refine ⟨?_, rfl⟩
        unfold QC eol
        dsimp only
        repeat' split
        all_goals first | (exfalso; omega) | (simp_all; done)
       ·exact Ent.nil _
      ·refine Wp.skip (Qb (Qa ?_))
       refine Qz (vs := [_, _, _, _]) rfl rfl rfl (by rfl) ?_
       refine QE rfl rfl rfl (by rfl) rfl ?_
       refine Qd rfl rfl (WpL.nil (Qg ?_))
       apply RetQ.mk
       ·exact (QK rfl rfl (by rfl) rfl)
       ·refine ⟨?_, rfl⟩
        unfold QC eol
        dsimp only
        repeat' split
        all_goals first | (exfalso; omega) | (simp_all; done)
       ·exact Ent.nil _
     ·refine Wp.skip (Qb (Qb (Qa (Qc rfl rfl (QJ rfl rfl rfl (WpL.nil (Qh rfl (fun h6 => ?_) (fun h6 => ?_))))))))
      ·refine Qb (Qa (Qj (o2 := 0) rfl rfl rfl (Qm rfl rfl (by rfl) ?_)))
       refine Qx rfl rfl rfl (Qp (by omega) (by omega)) ?_
       refine Qj (o2 := 0) rfl rfl rfl (QN rfl rfl rfl (WpL.nil (Qb (Qa ?_))))
       refine Qz (vs := [_, _, _, _]) rfl rfl rfl (by rfl) ?_
       refine QE rfl rfl rfl (by rfl) rfl ?_
       refine Qd rfl rfl (WpL.nil (Qg ?_))
       apply RetQ.mk
       ·exact (QK rfl rfl (by rfl) rfl)
       ·refine ⟨?_, rfl⟩
        unfold QC eol
        dsimp only
        repeat' split
        all_goals first | rfl | (exfalso; omega)
       ·exact Ent.nil _
      ·refine Wp.skip (Qb (Qb (Qa (Qc rfl rfl (Qk rfl rfl (by repeat' constructor) (X2 _) ?_)))))
       rintro _ _ ⟨rfl, rfl⟩
       simp only [Qv]
       refine Qc rfl rfl (QP rfl rfl rfl (fun hg2 => ?_) (fun hg2 => ?_))
       ·refine Qj (o2 := 0) rfl rfl rfl (Qf rfl rfl (Qm rfl rfl (by rfl) ?_))
        refine Qf rfl rfl (QJ rfl rfl rfl (Qr rfl rfl rfl (WpL.nil (Qh rfl (fun h7 => ?_) (fun h7 => ?_)))))
        ·refine Qb (Qa ?_)
         refine Qz (vs := [_, _, _, _]) rfl rfl rfl (by rfl) ?_
         refine QE rfl rfl rfl (by rfl) rfl ?_
         refine Qd rfl rfl (WpL.nil (Qg ?_))
         apply RetQ.mk
         ·exact (QK rfl rfl (by rfl) rfl)
         ·refine ⟨?_, rfl⟩
          unfold QC eol
          dsimp only
          repeat' split
          all_goals first | rfl | (exfalso; omega)
         ·exact Ent.nil _
        ·refine Wp.skip (Qb (Qb (Qa (Qc rfl rfl (Qk rfl rfl (by repeat' constructor) (X2 _) ?_)))))
         rintro _ _ ⟨rfl, rfl⟩
         simp only [Qv]
         refine WpL.nil (XH rfl (fun h8 => ?_) (fun h8 => ?_))
         ·refine Qb (Qa (Qj (o2 := 0) rfl rfl rfl (QN rfl rfl rfl (WpL.nil (Qb (Qa (Qj (o2 := 3) rfl rfl rfl (QN rfl rfl rfl (WpL.nil (Qb (Qa ?_)))))))))))
          refine Qz (vs := [_, _, _, _]) rfl rfl rfl (by rfl) ?_
          refine QE rfl rfl rfl (by rfl) rfl ?_
          refine Qd rfl rfl (WpL.nil (Qg ?_))
          apply RetQ.mk
          ·exact (QK rfl rfl (by rfl) rfl)
          ·refine ⟨?_, rfl⟩
           unfold QC eol
           dsimp only
           repeat' split
           all_goals first | rfl | (exfalso; omega)
          ·exact Ent.nil _
         ·refine Wp.skip (Qb (Qa (Qj (o2 := 1) rfl rfl rfl (Qm rfl rfl (by rfl) ?_))))
          refine Qc rfl rfl (Qj (o2 := 2) rfl rfl rfl (Qm rfl rfl (by rfl) ?_))
          refine Qk rfl rfl (by repeat' constructor) (ZD _ _ _ hc0 hc1 hn0 hm0 (by omega)) ?_
          rintro _ _ ⟨rfl, rfl⟩
          simp only [Qv]
          refine Qc rfl rfl (QL rfl rfl rfl (QL rfl rfl rfl (Qd rfl rfl (Qd rfl rfl (WpL.nil (Qb (Qb (Qa (Qc rfl rfl (Xu rfl rfl rfl (WpL.nil (Qh rfl (fun h9 => ?_) (fun h9 => ?_)))))))))))))
          ·refine Qb (Qa (Qj (o2 := 2) rfl rfl rfl (Qm rfl rfl (by rfl) ?_)))
           refine Qc rfl rfl ?_
           refine Xl rfl rfl ?_
           refine QE rfl rfl rfl (by rfl) rfl ?_
           refine Qd rfl rfl (WpL.nil (Qg ?_))
           apply RetQ.mk
           ·exact (QK rfl rfl (by rfl) rfl)
           ·refine ⟨?_, rfl⟩
            unfold QC eol
            dsimp only
            repeat' split
            all_goals first | (exfalso; omega) | (exfalso; simp_all; done)
           ·exact Ent.nil _
          ·refine Wp.skip (Qb (Qa (Qc rfl rfl (Qj (o2 := 1) rfl rfl rfl (QN rfl rfl rfl (WpL.nil (Qb (Qa (Qj (o2 := 0) rfl rfl rfl (QN rfl rfl rfl (WpL.nil (Qb ?_))))))))))))
           refine Qa ?_
           refine Qz (vs := [_, _, _, _]) rfl rfl rfl (by rfl) ?_
           refine QE rfl rfl rfl (by rfl) rfl ?_
           refine Qd rfl rfl (WpL.nil (Qg ?_))
           apply RetQ.mk
           ·exact (QK rfl rfl (by rfl) rfl)
           ·refine ⟨?_, rfl⟩
            unfold QC eol
            dsimp only
            repeat' split
            all_goals first | (exfalso; omega) | (exfalso; simp_all; done)
           ·exact Ent.nil _
       ·refine Qe rfl rfl rfl (by decide) (Qe rfl rfl rfl (by decide) (Qu rfl rfl rfl (WpL.nil (QS rfl (Wp.skip (Qb (Qb (Qa (Qc rfl rfl (Qk rfl rfl (by repeat' constructor) (X2 _) ?_))))))))))
        rintro _ _ ⟨rfl, rfl⟩
        simp only [Qv]
        refine WpL.nil (XH rfl (fun h8 => ?_) (fun h8 => ?_))
        ·refine Qb (Qa (Qj (o2 := 0) rfl rfl rfl (QN rfl rfl rfl (WpL.nil (Qb (Qa (Qj (o2 := 3) rfl rfl rfl (QN rfl rfl rfl (WpL.nil (Qb (Qa ?_)))))))))))
         refine Qz (vs := [_, _, _, _]) rfl rfl rfl (by rfl) ?_
         refine QE rfl rfl rfl (by rfl) rfl ?_
         refine Qd rfl rfl (WpL.nil (Qg ?_))
         apply RetQ.mk
         ·exact (QK rfl rfl (by rfl) rfl)
         ·refine ⟨?_, rfl⟩
          unfold QC eol
          dsimp only
          repeat' split
          all_goals first | rfl | (exfalso; omega) | (exfalso; simp_all; done)
         ·exact Ent.nil _
        ·refine Wp.skip (Qb (Qa (Qj (o2 := 1) rfl rfl rfl (Qm rfl rfl (by rfl) ?_))))
         refine Qc rfl rfl (Qj (o2 := 2) rfl rfl rfl (Qm rfl rfl (by rfl) ?_))
         refine Qk rfl rfl (by repeat' constructor) (ZD _ _ _ hc0 hc1 hn0 hm0 (by omega)) ?_
         rintro _ _ ⟨rfl, rfl⟩
         simp only [Qv]
         refine Qc rfl rfl (QL rfl rfl rfl (QL rfl rfl rfl (Qd rfl rfl (Qd rfl rfl (WpL.nil (Qb (Qb (Qa (Qc rfl rfl (Xu rfl rfl rfl (WpL.nil (Qh rfl (fun h9 => ?_) (fun h9 => ?_)))))))))))))
         ·refine Qb (Qa (Qj (o2 := 2) rfl rfl rfl (Qm rfl rfl (by rfl) ?_)))
          refine Qc rfl rfl ?_
          refine Xl rfl rfl ?_
          refine QE rfl rfl rfl (by rfl) rfl ?_
          refine Qd rfl rfl (WpL.nil (Qg ?_))
          apply RetQ.mk
          ·exact (QK rfl rfl (by rfl) rfl)
          ·refine ⟨?_, rfl⟩
           unfold QC eol
           dsimp only
           repeat' split
           all_goals first | rfl | (exfalso; omega) | (exfalso; simp_all; done)
          ·exact Ent.nil _
         ·refine Wp.skip (Qb (Qa (Qc rfl rfl (Qj (o2 := 1) rfl rfl rfl (QN rfl rfl rfl (WpL.nil (Qb (Qa (Qj (o2 := 0) rfl rfl rfl (QN rfl rfl rfl (WpL.nil (Qb ?_))))))))))))
          refine Qa ?_
          refine Qz (vs := [_, _, _, _]) rfl rfl rfl (by rfl) ?_
          refine QE rfl rfl rfl (by rfl) rfl ?_
          refine Qd rfl rfl (WpL.nil (Qg ?_))
          apply RetQ.mk
          ·exact (QK rfl rfl (by rfl) rfl)
          ·refine ⟨?_, rfl⟩
           unfold QC eol
           dsimp only
           repeat' split
           all_goals first | rfl | (exfalso; omega) | (exfalso; simp_all; done)
          ·exact Ent.nil _
   ·have hg1 := of_decide_eq_true hg1
    refine Qe rfl rfl rfl (by decide) (Qr rfl rfl rfl (Qd rfl rfl (WpL.nil (Qb (Qb (Qa (Qj (o2 := 0) rfl rfl rfl (Qm rfl rfl (by rfl) ?_))))))))
    refine QJ rfl rfl rfl (WpL.nil (Qh rfl (fun h2 => ?_) (fun h2 => ?_)))
    ·refine Qb (Qb (Qa (Qc rfl rfl (WpL.nil (Xg rfl (Qa (Qj (o2 := 0) rfl rfl rfl (QN rfl rfl rfl (WpL.nil (Qb (Qa ?_)))))))))))
     refine Qz (vs := [_, _, _, _]) rfl rfl rfl (by rfl) ?_
     refine QE rfl rfl rfl (by rfl) rfl ?_
     refine Qd rfl rfl (WpL.nil (Qg ?_))
     apply RetQ.mk
     ·exact (QK rfl rfl (by rfl) rfl)
     ·refine ⟨?_, rfl⟩
      unfold QC eol
      dsimp only
      repeat' split
      all_goals first | (exfalso; omega) | (simp_all; done)
     ·exact Ent.nil _
    ·refine Wp.skip (Qb (Qb (Qa (Qj (o2 := 0) rfl rfl rfl (Qm rfl rfl (by rfl) ?_)))))
     refine QJ rfl rfl rfl (WpL.nil (Qh rfl (fun h4 => ?_) (fun h4 => ?_)))
     ·refine Qb (Qb (Qa (Qc rfl rfl (WpL.nil (Xg rfl (Qb (Qa (Qj (o2 := 0) rfl rfl rfl (QN rfl rfl rfl (WpL.nil (Qb (Qa ?_))))))))))))
      refine Qj (o2 := 3) rfl rfl rfl (QN rfl rfl rfl (WpL.nil (Qb (Qa ?_))))
      refine Qz (vs := [_, _, _, _]) rfl rfl rfl (by rfl) ?_
      refine QE rfl rfl rfl (by rfl) rfl ?_
      refine Qd rfl rfl (WpL.nil (Qg ?_))
      apply RetQ.mk
      ·exact (QK rfl rfl (by rfl) rfl)
      ·refine ⟨?_, rfl⟩
       unfold QC eol
       dsimp only
       repeat' split
       all_goals first | (exfalso; omega) | (simp_all; done)
      ·exact Ent.nil _
     ·refine Wp.skip (Qb (Qb (Qa (Qc rfl rfl (QJ rfl rfl rfl (WpL.nil (Qh rfl (fun h6 => ?_) (fun h6 => ?_))))))))
      ·refine Qb (Qa (Qj (o2 := 0) rfl rfl rfl (Qm rfl rfl (by rfl) ?_)))
       refine Qx rfl rfl rfl (Qp (by omega) (by omega)) ?_
       refine Qj (o2 := 0) rfl rfl rfl (QN rfl rfl rfl (WpL.nil (Qb (Qa ?_))))
       refine Qz (vs := [_, _, _, _]) rfl rfl rfl (by rfl) ?_
       refine QE rfl rfl rfl (by rfl) rfl ?_
       refine Qd rfl rfl (WpL.nil (Qg ?_))
       apply RetQ.mk
       ·exact (QK rfl rfl (by rfl) rfl)
       ·refine ⟨?_, rfl⟩
        unfold QC eol
        dsimp only
        repeat' split
        all_goals first | rfl | (exfalso; omega)
       ·exact Ent.nil _
      ·refine Wp.skip (Qb (Qb (Qa (Qc rfl rfl (Qk rfl rfl (by repeat' constructor) (X2 _) ?_)))))
       rintro _ _ ⟨rfl, rfl⟩
       simp only [Qv]
       refine Qc rfl rfl (QP rfl rfl rfl (fun hg3 => ?_) (fun hg3 => ?_))
       ·refine Qj (o2 := 0) rfl rfl rfl (Qf rfl rfl (Qm rfl rfl (by rfl) ?_))
        refine Qf rfl rfl (QJ rfl rfl rfl (Qr rfl rfl rfl (WpL.nil (Qh rfl (fun h7 => ?_) (fun h7 => ?_)))))
        ·refine Qb (Qa ?_)
         refine Qz (vs := [_, _, _, _]) rfl rfl rfl (by rfl) ?_
         refine QE rfl rfl rfl (by rfl) rfl ?_
         refine Qd rfl rfl (WpL.nil (Qg ?_))
         apply RetQ.mk
         ·exact (QK rfl rfl (by rfl) rfl)
         ·refine ⟨?_, rfl⟩
          unfold QC eol
          dsimp only
          repeat' split
          all_goals first | rfl | (exfalso; omega)
         ·exact Ent.nil _
        ·refine Wp.skip (Qb (Qb (Qa (Qc rfl rfl (Qk rfl rfl (by repeat' constructor) (X2 _) ?_)))))
         rintro _ _ ⟨rfl, rfl⟩
         simp only [Qv]
         refine WpL.nil (XH rfl (fun h8 => ?_) (fun h8 => ?_))
         ·refine Qb (Qa (Qj (o2 := 0) rfl rfl rfl (QN rfl rfl rfl (WpL.nil (Qb (Qa (Qj (o2 := 3) rfl rfl rfl (QN rfl rfl rfl (WpL.nil (Qb (Qa ?_)))))))))))
          refine Qz (vs := [_, _, _, _]) rfl rfl rfl (by rfl) ?_
          refine QE rfl rfl rfl (by rfl) rfl ?_
          refine Qd rfl rfl (WpL.nil (Qg ?_))
          apply RetQ.mk
          ·exact (QK rfl rfl (by rfl) rfl)
          ·refine ⟨?_, rfl⟩
           unfold QC eol
           dsimp only
           repeat' split
           all_goals first | rfl | (exfalso; omega)
          ·exact Ent.nil _
         ·refine Wp.skip (Qb (Qa (Qj (o2 := 1) rfl rfl rfl (Qm rfl rfl (by rfl) ?_))))
          refine Qc rfl rfl (Qj (o2 := 2) rfl rfl rfl (Qm rfl rfl (by rfl) ?_))
          refine Qk rfl rfl (by repeat' constructor) (ZD _ _ _ hc0 hc1 hn0 hm0 (by omega)) ?_
          rintro _ _ ⟨rfl, rfl⟩
          simp only [Qv]
          refine Qc rfl rfl (QL rfl rfl rfl (QL rfl rfl rfl (Qd rfl rfl (Qd rfl rfl (WpL.nil (Qb (Qb (Qa (Qc rfl rfl (Xu rfl rfl rfl (WpL.nil (Qh rfl (fun h9 => ?_) (fun h9 => ?_)))))))))))))
          ·refine Qb (Qa (Qj (o2 := 2) rfl rfl rfl (Qm rfl rfl (by rfl) ?_)))
           refine Qc rfl rfl ?_
           refine Xl rfl rfl ?_
           refine QE rfl rfl rfl (by rfl) rfl ?_
           refine Qd rfl rfl (WpL.nil (Qg ?_))
           apply RetQ.mk
           ·exact (QK rfl rfl (by rfl) rfl)
           ·refine ⟨?_, rfl⟩
            unfold QC eol
            dsimp only
            repeat' split
            all_goals first | (exfalso; omega) | (exfalso; simp_all; done)
           ·exact Ent.nil _
          ·refine Wp.skip (Qb (Qa (Qc rfl rfl (Qj (o2 := 1) rfl rfl rfl (QN rfl rfl rfl (WpL.nil (Qb (Qa (Qj (o2 := 0) rfl rfl rfl (QN rfl rfl rfl (WpL.nil (Qb ?_))))))))))))
           refine Qa ?_
           refine Qz (vs := [_, _, _, _]) rfl rfl rfl (by rfl) ?_
           refine QE rfl rfl rfl (by rfl) rfl ?_
           refine Qd rfl rfl (WpL.nil (Qg ?_))
           apply RetQ.mk
           ·exact (QK rfl rfl (by rfl) rfl)
           ·refine ⟨?_, rfl⟩
            unfold QC eol
            dsimp only
            repeat' split
            all_goals first | (exfalso; omega) | (exfalso; simp_all; done)
           ·exact Ent.nil _
       ·refine Qe rfl rfl rfl (by decide) (Qe rfl rfl rfl (by decide) (Qu rfl rfl rfl (WpL.nil (QS rfl (Wp.skip (Qb (Qb (Qa (Qc rfl rfl (Qk rfl rfl (by repeat' constructor) (X2 _) ?_))))))))))
        rintro _ _ ⟨rfl, rfl⟩
        simp only [Qv]
        refine WpL.nil (XH rfl (fun h8 => ?_) (fun h8 => ?_))
        ·refine Qb (Qa (Qj (o2 := 0) rfl rfl rfl (QN rfl rfl rfl (WpL.nil (Qb (Qa (Qj (o2 := 3) rfl rfl rfl (QN rfl rfl rfl (WpL.nil (Qb (Qa ?_)))))))))))
         refine Qz (vs := [_, _, _, _]) rfl rfl rfl (by rfl) ?_
         refine QE rfl rfl rfl (by rfl) rfl ?_
         refine Qd rfl rfl (WpL.nil (Qg ?_))
         apply RetQ.mk
         ·exact (QK rfl rfl (by rfl) rfl)
         ·refine ⟨?_, rfl⟩
          unfold QC eol
          dsimp only
          repeat' split
          all_goals first | rfl | (exfalso; omega) | (exfalso; simp_all; done)
         ·exact Ent.nil _
        ·refine Wp.skip (Qb (Qa (Qj (o2 := 1) rfl rfl rfl (Qm rfl rfl (by rfl) ?_))))
         refine Qc rfl rfl (Qj (o2 := 2) rfl rfl rfl (Qm rfl rfl (by rfl) ?_))
         refine Qk rfl rfl (by repeat' constructor) (ZD _ _ _ hc0 hc1 hn0 hm0 (by omega)) ?_
         rintro _ _ ⟨rfl, rfl⟩
         simp only [Qv]
         refine Qc rfl rfl (QL rfl rfl rfl (QL rfl rfl rfl (Qd rfl rfl (Qd rfl rfl (WpL.nil (Qb (Qb (Qa (Qc rfl rfl (Xu rfl rfl rfl (WpL.nil (Qh rfl (fun h9 => ?_) (fun h9 => ?_)))))))))))))
         ·refine Qb (Qa (Qj (o2 := 2) rfl rfl rfl (Qm rfl rfl (by rfl) ?_)))
          refine Qc rfl rfl ?_
          refine Xl rfl rfl ?_
          refine QE rfl rfl rfl (by rfl) rfl ?_
          refine Qd rfl rfl (WpL.nil (Qg ?_))
          apply RetQ.mk
          ·exact (QK rfl rfl (by rfl) rfl)
          ·refine ⟨?_, rfl⟩
           unfold QC eol
           dsimp only
           repeat' split
           all_goals first | rfl | (exfalso; omega) | (exfalso; simp_all; done)
          ·exact Ent.nil _
         ·refine Wp.skip (Qb (Qa (Qc rfl rfl (Qj (o2 := 1) rfl rfl rfl (QN rfl rfl rfl (WpL.nil (Qb (Qa (Qj (o2 := 0) rfl rfl rfl (QN rfl rfl rfl (WpL.nil (Qb ?_))))))))))))
          refine Qa ?_
          refine Qz (vs := [_, _, _, _]) rfl rfl rfl (by rfl) ?_
          refine QE rfl rfl rfl (by rfl) rfl ?_
          refine Qd rfl rfl (WpL.nil (Qg ?_))
          apply RetQ.mk
          ·exact (QK rfl rfl (by rfl) rfl)
          ·refine ⟨?_, rfl⟩
           unfold QC eol
           dsimp only
           repeat' split
           all_goals first | rfl | (exfalso; omega) | (exfalso; simp_all; done)
          ·exact Ent.nil _

end Go.Proofs.YtggamdlpiejbiaaGreat
