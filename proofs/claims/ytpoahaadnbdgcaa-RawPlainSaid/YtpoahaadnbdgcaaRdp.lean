/- Walks. -/
import Derived.Test.YtpoahaadnbdgcaaRdr
namespace Go.Proofs.Ytpoahaadnbdgcaa
open Go.RowKit Go.Shelf


theorem u8_lt (b : UInt8) : (b.toNat : Int) ≤ 255 := by have := b.toNat_lt; omega
def RInv (ch : Int) (k m : Nat) (s : RS) : Prop := (s.one.length : Int) < ch ∧ m + s.row.length ≤ k ∧ 0 ≤ s.rows ∧ s.rows ≤ k
theorem chK_pos (K : Int) : 1 ≤ chK K ∧ chK K ≤ 3 := by unfold chK; split <;> omega
theorem sampleS_inv {ch : Int} (h : 1 ≤ ch) (one row : List Int) (x : Int) (h1 : (one.length : Int) < ch) : ((sampleS ch one row x).1.length : Int) < ch ∧ (sampleS ch one row x).2.length ≤ row.length + 1 := by
  unfold sampleS
  split
  · simp; omega
  · rename_i h2; simp at h2 ⊢; omega
theorem endsR_inv {ch : Int} (h : 1 ≤ ch) {k m : Nat} {s : RS} (hs : RInv ch k m s) : RInv ch (k + 1) m (endsR ch s) := by
  obtain ⟨h1, h2, h3, h4⟩ := hs
  unfold endsR
  split
  · exact ⟨h1, by omega, h3, by omega⟩
  · have := sampleS_inv h s.one s.row s.n h1
    exact ⟨this.1, by simp only; omega, h3, by simp only; omega⟩
theorem RInv.up {ch : Int} {k m : Nat} {s : RS} (hs : RInv ch k m s) : RInv ch (k + 1) m s := ⟨hs.1, by have := hs.2.1; omega, hs.2.2.1, by have := hs.2.2.2; omega⟩
theorem stepR_inv {K M c : Int} {k m : Nat} {s : RS} (hs : RInv (chK K) k m s) : RInv (chK K) (k + 1) m (stepR K M s c).1 := by
  have hch := chK_pos K
  unfold stepR bitR numR
  repeat' split
  all_goals first | exact hs.up | exact endsR_inv hch.1 hs | skip
  have := sampleS_inv hch.1 s.one s.row (c - 48) hs.1
  obtain ⟨h1, h2, h3, h4⟩ := hs
  exact ⟨this.1, by simp only [sampleR]; omega, h3, by simp only [sampleR]; omega⟩
theorem fullR_inv {ch W H : Int} {k m : Nat} {s : RS} (_hch : 1 ≤ ch) (hs : RInv ch (k + 1) m s) (hr : s.rows ≤ k) : RInv ch (k + 1) (m + (fullR W H s).2.length) (fullR W H s).1 := by
  obtain ⟨h1, h2, h3, h4⟩ := hs
  unfold fullR
  split
  · exact ⟨h1, by simp; omega, h3, h4⟩
  · exact ⟨h1, by simp; omega, by simp only; omega, by simp only; omega⟩
theorem putR_inv {K W H M c : Int} {k m : Nat} {s : RS} (hs : RInv (chK K) k m s) : RInv (chK K) (k + 1) (m + (putR K W H M s c).2.length) (putR K W H M s c).1 := by
  have h := stepR_inv (M := M) (c := c) hs
  have hk := (stepR_keep K M s c).1
  unfold putR
  split
  · exact hs.up
  · split
    · exact h
    · exact fullR_inv (chK_pos K).1 h (by rw [hk]; exact hs.2.2.2)
theorem putR_last {K W H M c : Int} {s : RS} (hs : s.last = 0) : (putR K W H M s c).1.last = 0 ∨ (putR K W H M s c).1.last = 1 ∨ (putR K W H M s c).1.last = 2 := by
  have h := (stepR_keep K M s c).2.1
  unfold putR
  split
  · exact .inl hs
  · split
    · exact .inr (.inr rfl)
    · unfold fullR
      split
      · exact .inl (h.trans hs)
      · simp only
        split
        · exact .inr (.inl rfl)
        · exact .inl (h.trans hs)
theorem endR_out {K W H : Int} {k m : Nat} {s : RS} (hs : RInv (chK K) k m s) : m + (endR K W H s).2.length ≤ k + 1 := by
  have h := endsR_inv (chK_pos K).1 hs
  have hk := (endsR_keep (chK K) s).1
  have h2 := fullR_inv (W := W) (H := H) (chK_pos K).1 h (by rw [hk]; exact hs.2.2.2)
  have h3 := h2.2.1
  have h4 := hs.2.1
  unfold endR
  split
  · simp; omega
  · split
    · simp only; omega
    · omega
def readL (K W H M : Int) : List Int → Int → RS → List Int → List Int × Int × Int
  | [], i, s, acc => if (endR K W H s).1.last = 2 then ([], 0, (endR K W H s).1.e) else (acc ++ (endR K W H s).2, i, 0)
  | c :: bs, i, s, acc => if (putR K W H M s c).1.last = 1 then (acc ++ (putR K W H M s c).2, i + 1, 0) else if (putR K W H M s c).1.last = 2 then ([], 0, (putR K W H M s c).1.e) else readL K W H M bs (i + 1) (putR K W H M s c).1 (acc ++ (putR K W H M s c).2)
def s0R : RS := ⟨-1, [], [], 0, 0, 0⟩
def readS (K W H M : Int) (bs : List Int) : List Int × Int × Int := if PlainH K W H M then readL K W H M bs 0 s0R [] else ([], 0, 1)
structure RdX where
  (k : Nat) (n : Int) (one row : List Int) (rows last e : Int) (acc : List Int) (a1 : Option Addr) (c1 : Nat) (a2 : Option Addr) (c2 : Nat) (a3 : Option Addr) (c3 : Nat)

theorem Read_spec (s : ByteArray) (hs : s.size ≤ 900000000000) (K W H M : Int) : Fn Try.prog 9 #[.string s, .agg #[.int .i64 K, .int .i64 W, .int .i64 H, .int .i64 M]] [] (fun v l => ∃ out i x a c, (out, i, x) = readS K W H M (bsOf s) ∧ v = .tuple #[.slice a out.length c, .int .i64 i, .int .i64 x] ∧ l = [own 46 1 a c (out).length (pxs out)]) := by
  refine Fn.intro (vs := [.string s, .agg #[.int .i64 K, .int .i64 W, .int .i64 H, .int .i64 M]]) Try.func9 rfl Try.ntmps9 rfl ?_
  refine Wp.seq ?_
  refine Wp.region ?_
  refine s_box rfl rfl rfl ?_
  intro g1
  refine s_as rfl rfl ?_
  refine s_as rfl rfl ?_
  refine s_as rfl rfl ?_
  refine WpL.nil ?_
  refine Wp.seq ?_
  refine Wp.region ?_
  refine s_lda (vs := [_, _, _, _]) rfl rfl rfl (by rfl) ?_
  refine s_callf rfl rfl (by repeat' constructor) (New_spec _ _ _ _) ?_
  intro v0 m0 hN0
  rcases hN0 with ⟨hP, g, rfl, rfl⟩ | ⟨hP, rfl, rfl⟩
  · simp only [napp]
    refine s_mv rfl rfl ?_
    refine s_ext rfl rfl rfl ?_
    refine s_ext rfl rfl rfl ?_
    refine s_as rfl rfl ?_
    refine s_as rfl rfl ?_
    refine WpL.nil ?_
    refine Wp.seq ?_
    refine Wp.seq ?_
    refine Wp.region ?_
    refine s_mv rfl rfl ?_
    refine s_ne rfl rfl rfl ?_
    refine WpL.nil ?_
    refine Wp.condDF rfl (by decide) ?_
    refine Wp.skip ?_
    refine Wp.seq ?_
    refine Wp.region ?_
    refine s_as rfl rfl ?_
    refine WpL.nil ?_
    refine Wp.seq ?_
    refine Wp.seq ?_
    refine Wp.region ?_
    refine s_mv rfl rfl ?_
    refine s_lens rfl Try.underlying9 rfl ?_
    refine s_mv rfl rfl ?_
    refine WpL.nil ?_
    refine Wp.block ?_
    refine Wp.loopD (σ := RdX) (fun x => x.k ≤ s.size ∧ RInv (chK K) x.k x.acc.length ⟨x.n, x.one, x.row, x.rows, x.last, x.e⟩ ∧ x.last = 0 ∧ readL K W H M ((bsOf s).drop x.k) (x.k : Int) ⟨x.n, x.one, x.row, x.rows, x.last, x.e⟩ x.acc = readS K W H M (bsOf s)) [4, 5, 6, 9, 10, 11, 12, 25, 26, 27, 28, 29, 30, 31, 32, 33, 34, 35, 36, 37, 38, 39, 40, 41, 42, 43, 44, 45, 46, 47, 48, 49] (fun x => [(25, .int .i64 (x.k : Int)), (9, .slice x.a3 x.acc.length x.c3)]) (fun x => [blk g [.int .i64 K, .int .i64 W, .int .i64 H, .int .i64 M, stpOf K, .int .i64 x.n, .slice x.a1 x.one.length x.c1, .slice x.a2 x.row.length x.c2, .int .i64 x.rows, .int .i64 x.last, .int .i64 x.e] 94, own 3 1 x.a1 x.c1 x.one.length (ints x.one), own 46 1 x.a2 x.c2 x.row.length (pxs x.row), own 46 1 x.a3 x.c3 x.acc.length (pxs x.acc)]) (fun x => s.size - x.k) ⟨0, -1, [], [], 0, 0, 0, [], none, 0, none, 0, none, 0⟩ ?_ (by repeat (first | exact FrLe.nil | refine FrLe.cons rfl ?_)) ?_ ?_
    · exact ⟨Nat.zero_le _, ⟨by simp; have := chK_pos K; omega, by simp, by simp, by simp⟩, rfl, (if_pos hP).symm⟩
    · exact (Ent.own_nil (T := 46) (s := 1) (Ent.refl _)).trans (Take.ent' (by repeat' constructor))
    · rintro ⟨k, n, one, row, rows, last, e, acc, a1, c1, a2, c2, a3, c3⟩ ⟨hk, hinv, hl, hR⟩
      dsimp only at hk hinv hl hR ⊢
      have hch := chK_pos K
      have hin := hinv
      obtain ⟨hi1, hi2, hi3, hi4⟩ := hin
      have hP3 := hP.1
      unfold MayH at hP3
      dsimp only at hi1 hi2 hi3 hi4
      refine Wp.seq ?_
      refine Wp.region ?_
      refine s_lt rfl rfl rfl ?_
      refine WpL.nil ?_
      refine Wp.seq ?_
      refine Wp.condD rfl (fun h2 => ?_) (fun h2 => ?_)
      · have hlt : k < s.size := by omega
        refine Wp.skip ?_
        refine Wp.seq ?_
        refine Wp.block ?_
        refine Wp.seq ?_
        refine Wp.region ?_
        refine s_mv rfl rfl ?_
        refine s_as rfl rfl ?_
        refine WpL.nil ?_
        refine Wp.seq ?_
        refine Wp.region ?_
        refine s_mv rfl rfl ?_
        refine s_mv rfl rfl ?_
        refine s_mv rfl rfl ?_
        refine s_ixs rfl Try.underlying9 rfl rfl (by omega) (by simp; omega) ?_
        refine s_callf rfl rfl (by repeat' constructor) (Put_spec _ _ _ _ _ _ _ _ _ _ _ _ _ _ _ _ _ rfl (by omega) (by omega) (by omega) (by omega) (u8_lt _) (by omega) (by omega) (by omega) (by omega)) ?_
        rintro _ _ ⟨n2, one2, row2, rows2, last2, e2, out, a1, c1, a2, c2, a3, c3, hs2, rfl, rfl⟩
        simp only [napp]
        have hinv2 := putR_inv (M := M) (W := W) (H := H) (c := ((s[k]'hlt).toNat : Int)) hinv
        have hs3 : (({ n := n2, one := one2, row := row2, rows := rows2, last := last2, e := e2 } : RS), out) = putR K W H M ⟨n, one, row, rows, last, e⟩ ((s[k]'hlt).toNat : Int) := hs2
        rw [← hs3] at hinv2
        rw [bsOf_drop hlt, readL, ← hs3] at hR
        dsimp only at hR
        have hol := hinv2.2.1
        dsimp only at hol
        have hla := putR_last (K := K) (W := W) (H := H) (M := M) (c := ((s[k]'hlt).toNat : Int)) (s := ⟨n, one, row, rows, last, e⟩) hl
        rw [← hs3] at hla
        dsimp only at hla
        refine s_mv rfl rfl ?_
        refine s_ext rfl rfl rfl ?_
        refine s_ext rfl rfl rfl ?_
        refine s_as rfl rfl ?_
        refine s_as rfl rfl ?_
        refine WpL.nil ?_
        refine Wp.seq ?_
        refine Wp.region ?_
        refine s_mv rfl rfl ?_
        refine s_mv rfl rfl ?_
        refine s_appo rfl rfl rfl (by repeat' constructor) (by rfl) (by rfl) (pxs_one _) (by omega) (by omega) ?_
        intro a38 c38
        rw [pxs_app, show acc.length + out.length = (acc ++ out).length from by simp]
        refine s_as rfl rfl ?_
        refine WpL.nil ?_
        refine Wp.seq ?_
        refine Wp.region ?_
        refine s_mv rfl rfl ?_
        refine WpL.nil ?_
        refine Wp.block ?_
        refine Wp.seq ?_
        refine Wp.region ?_
        refine s_eq rfl rfl rfl ?_
        refine s_as rfl rfl ?_
        refine WpL.nil ?_
        refine Wp.condD rfl (fun h3 => ?_) (fun h3 => ?_)
        · refine Wp.seq ?_
          refine Wp.region ?_
          refine s_mv rfl rfl ?_
          refine s_mv rfl rfl ?_
          first | refine s_add rfl rfl rfl (w_i64 (by omega) (by omega)) ?_ | refine s_addw rfl rfl rfl ?_
          refine s_as rfl rfl ?_
          refine s_as rfl rfl ?_
          refine s_as rfl rfl ?_
          refine WpL.nil ?_
          refine Wp.ret ?_
          apply RetQ.mk
          · exact (Res.three rfl rfl rfl rfl)
          · exact ⟨_, _, _, a38, c38, (if_pos h3).symm.trans hR, rfl, rfl⟩
          · first | exact Ent.refl _ | exact Ent.nil _ | exact Take.ent' (by repeat' constructor) | (repeat (first | exact Ent.refl _ | refine Ent.drop ?_))
        · refine Wp.seq ?_
          refine Wp.region ?_
          refine s_eq rfl rfl rfl ?_
          refine s_as rfl rfl ?_
          refine WpL.nil ?_
          refine Wp.condD rfl (fun h4 => ?_) (fun h4 => ?_)
          · refine Wp.seq ?_
            refine Wp.region ?_
            refine s_mv rfl rfl ?_
            refine s_callf rfl rfl (by repeat' constructor) (Error_spec _ _ _ _ _ _ _ _ _ _ _ _ _ _ _ _) ?_
            rintro _ _ ⟨rfl, rfl⟩
            simp only [napp]
            refine s_as rfl rfl ?_
            refine s_as rfl rfl ?_
            refine s_as rfl rfl ?_
            refine WpL.nil ?_
            refine Wp.ret ?_
            apply RetQ.mk
            · exact (Res.three rfl rfl rfl rfl)
            · exact ⟨[], _, _, none, 0, ((if_neg h3).trans (if_pos h4)).symm.trans hR, rfl, rfl⟩
            · exact Ent.own_nil (Ent.nil _)
          · refine Wp.skip ?_
            refine Wp.region ?_
            first | refine s_add rfl rfl rfl (w_i64 (by omega) (by omega)) ?_ | refine s_addw rfl rfl rfl ?_
            refine s_mv rfl rfl ?_
            refine WpL.nil ?_
            have hR2 := (((if_neg h3).trans (if_neg h4)).symm.trans hR)
            refine loopD.next (⟨k + 1, n2, one2, row2, rows2, last2, e2, acc ++ out, a1, c1, a2, c2, a38, c38⟩ : RdX) ?_ ?_ (by repeat (first | exact Top.refl | refine Top.push rfl ?_ | refine Top.drop rfl ?_)) (by repeat (first | exact FrLe.nil | refine FrLe.cons rfl ?_)) ?_
            · exact ⟨by simp only; omega, by simp only [List.length_append]; exact hinv2, by simp only; omega, hR2⟩
            · simp only; omega
            · first | exact Ent.refl _ | exact Ent.nil _ | exact Take.ent' (by repeat' constructor) | (repeat (first | exact Ent.refl _ | refine Ent.drop ?_))
      · refine Wp.exit ?_
        refine Wp.seq ?_
        refine Wp.region ?_
        refine s_mv rfl rfl ?_
        refine s_callf rfl rfl (by repeat' constructor) (End_spec _ _ _ _ _ _ _ _ _ _ _ _ _ _ _ _ (by omega) (by omega) (by omega) (by omega) (by omega)) ?_
        rintro _ _ ⟨n2, one2, row2, rows2, last2, e2, out, a1, c1, a2, c2, a3, c3, hs2, rfl, rfl⟩
        simp only [napp]
        have hol := endR_out (W := W) (H := H) hinv
        rw [← hs2] at hol
        dsimp only at hol
        rw [List.drop_eq_nil_of_le (by rw [bsOf_len]; omega), readL, ← hs2] at hR
        dsimp only at hR
        refine s_mv rfl rfl ?_
        refine s_ext rfl rfl rfl ?_
        refine s_ext rfl rfl rfl ?_
        refine s_as rfl rfl ?_
        refine s_as rfl rfl ?_
        refine WpL.nil ?_
        refine Wp.seq ?_
        refine Wp.seq ?_
        refine Wp.region ?_
        refine s_mv rfl rfl ?_
        refine s_eq rfl rfl rfl ?_
        refine WpL.nil ?_
        refine Wp.condD rfl (fun h5 => ?_) (fun h5 => ?_)
        · refine Wp.seq ?_
          refine Wp.region ?_
          refine s_mv rfl rfl ?_
          refine s_callf rfl rfl (by repeat' constructor) (Error_spec _ _ _ _ _ _ _ _ _ _ _ _ _ _ _ _) ?_
          rintro _ _ ⟨rfl, rfl⟩
          simp only [napp]
          refine s_as rfl rfl ?_
          refine s_as rfl rfl ?_
          refine s_as rfl rfl ?_
          refine WpL.nil ?_
          refine Wp.ret ?_
          apply RetQ.mk
          · exact (Res.three rfl rfl rfl rfl)
          · exact ⟨[], _, _, none, 0, (if_pos h5).symm.trans hR, rfl, rfl⟩
          · exact Ent.own_nil (Ent.nil _)
        · refine Wp.skip ?_
          refine Wp.seq ?_
          refine Wp.region ?_
          refine s_mv rfl rfl ?_
          refine s_mv rfl rfl ?_
          refine s_appo rfl rfl rfl (by repeat' constructor) (by rfl) (by rfl) (pxs_one _) (by omega) (by omega) ?_
          intro a61 c61
          rw [pxs_app, show acc.length + out.length = (acc ++ out).length from by simp]
          refine s_mv rfl rfl ?_
          refine s_lens rfl Try.underlying9 rfl ?_
          refine s_as rfl rfl ?_
          refine s_as rfl rfl ?_
          refine s_as rfl rfl ?_
          refine WpL.nil ?_
          refine Wp.ret ?_
          apply RetQ.mk
          · exact (Res.three rfl rfl rfl rfl)
          · exact ⟨_, _, _, a61, c61, ((if_neg h5).symm.trans hR).trans rfl, by rw [show k = s.size by omega], rfl⟩
          · first | exact Ent.refl _ | exact Ent.nil _ | exact Take.ent' (by repeat' constructor) | (repeat (first | exact Ent.refl _ | refine Ent.drop ?_))
  · simp only [napp]
    refine s_mv rfl rfl ?_
    refine s_ext rfl rfl rfl ?_
    refine s_ext rfl rfl rfl ?_
    refine s_as rfl rfl ?_
    refine s_as rfl rfl ?_
    refine WpL.nil ?_
    refine Wp.seq ?_
    refine Wp.seq ?_
    refine Wp.region ?_
    refine s_mv rfl rfl ?_
    refine s_ne rfl rfl rfl ?_
    refine WpL.nil ?_
    refine Wp.condDT rfl (by decide) ?_
    refine Wp.seq ?_
    refine Wp.region ?_
    refine s_mv rfl rfl ?_
    refine s_as rfl rfl ?_
    refine s_as rfl rfl ?_
    refine s_as rfl rfl ?_
    refine WpL.nil ?_
    refine Wp.ret ?_
    apply RetQ.mk
    · exact (Res.three rfl rfl rfl rfl)
    · exact ⟨[], _, _, none, 0, (if_neg hP).symm, rfl, rfl⟩
    · exact Ent.own_nil (Ent.nil _)

end Go.Proofs.Ytpoahaadnbdgcaa
