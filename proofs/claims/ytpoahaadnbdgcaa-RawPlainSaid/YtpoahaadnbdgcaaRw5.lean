/- Walks. -/
import Derived.Test.YtpoahaadnbdgcaaRw4
namespace Go.Proofs.Ytpoahaadnbdgcaa
open Go.RowKit Go.Shelf


theorem RawPut_spec (K : Int) (W : Nat) (H M : Int) (hR : RawH K (W : Int) H M) (g : Nat) (a1 : Option Addr) (c1 : Nat) (bs : List Int) (hbs : ∀ x ∈ bs, 0 ≤ x ∧ x ≤ 255) (hbl : bs.length ≤ 100000) (n : Nat) (rows last e : Int) (hst : bs.length = strd K W (wideM M)) (hbc : bs.length ≤ c1) (hn : n < bs.length) (hro : 0 ≤ rows ∧ rows ≤ 100000) (c : Int) (hc0 : 0 ≤ c) (hc1 : c ≤ 255) : Fn Try.prog 32 #[.pointer (some ⟨g, 0, none⟩), .int .u8 c] [blk g [.int .i64 K, .int .i64 (W : Int), .int .i64 H, .int .i64 M, .slice a1 bs.length c1, .int .i64 (n : Int), .int .i64 rows, .int .i64 last, .int .i64 e] 78, own 5 1 a1 c1 bs.length (u8s bs)] (fun v l => ∃ b' n' rows' last' e' out a3 c3, ((⟨b', n', rows', last', e'⟩ : RW), out) = putW K W H M ⟨bs, n, rows, last, e⟩ c ∧ v = .tuple #[.slice a3 out.length c3, .int .i64 last'] ∧ l = [blk g [.int .i64 K, .int .i64 (W : Int), .int .i64 H, .int .i64 M, .slice a1 b'.length c1, .int .i64 (n' : Int), .int .i64 rows', .int .i64 last', .int .i64 e'] 78, own 5 1 a1 c1 b'.length (u8s b'), own 46 1 a3 c3 out.length (pxs out)]) := by
  by_cases h4 : K = 4
  · exact RawPut_a K W H M hR g a1 c1 bs hbs hbl n rows last e hst hbc hn hro c hc0 hc1 h4
  · by_cases hm : ((n : Int) + 1) % ((wideM M : Nat) : Int) = 0
    · exact RawPut_c K W H M hR g a1 c1 bs hbs hbl n rows last e hst hbc hn hro c hc0 hc1 h4 hm
    · exact RawPut_b K W H M hR g a1 c1 bs hbs hbl n rows last e hst hbc hn hro c hc0 hc1 h4 hm
theorem putW_ok {K : Int} {W : Nat} {H M c : Int} {s s' : RW} {out : List Int} (hs : s.b.length = strd K W (wideM M)) (hb : ∀ x ∈ s.b, 0 ≤ x ∧ x ≤ 255) (hc0 : 0 ≤ c) (hc1 : c ≤ 255) (hn : s.n < s.b.length) (hl : s.last = 0) (hr : 0 ≤ s.rows ∧ s.rows < H) (h : (s', out) = putW K W H M s c) :
    s'.b.length = s.b.length ∧ (∀ x ∈ s'.b, 0 ≤ x ∧ x ≤ 255) ∧ out.length ≤ W ∧ (s'.last = 0 ∨ s'.last = 1 ∨ s'.last = 2) ∧ (s'.last = 0 → s'.n < s'.b.length ∧ 0 ≤ s'.rows ∧ s'.rows < H) := by
  have hw := wideM_or M
  have hl2 : (s.b.set s.n c).length = s.b.length := List.length_set
  have hb2 := set_bd (n := s.n) hb hc0 hc1
  unfold putW at h
  rw [if_neg (by omega)] at h
  split at h
  · injection h with h1 h2
    subst h1; subst h2
    exact ⟨hl2, hb2, by simp, .inr (.inr rfl), fun e => by cases e⟩
  · split at h
    · rename_i hlt
      injection h with h1 h2
      subst h1; subst h2
      exact ⟨hl2, hb2, by simp, .inl rfl, fun _ => ⟨by simp only [hl2]; exact hlt, hr.1, hr.2⟩⟩
    · injection h with h1 h2
      subst h1; subst h2
      refine ⟨hl2, hb2, by rw [rowD_len hw (hl2.trans hs)]; exact Nat.le_refl _, ?_, ?_⟩
      · dsimp only; split
        · exact .inr (.inl rfl)
        · exact .inl rfl
      · dsimp only; split
        · intro e; cases e
        · intro _; exact ⟨by rw [hl2]; omega, by omega, by omega⟩
structure RdWX where
  (k : Nat) (b : List Int) (n : Nat) (rows e : Int) (acc : List Int) (aA : Option Addr) (cA : Nat)

set_option maxHeartbeats 2000000 in
theorem RawRead_spec (A0 : HP) (a0 : Option Addr) (c0 : Nat) (bs : List Int) (hA : RdsL [A0] a0 (u8s bs)) (hbs : ∀ x ∈ bs, 0 ≤ x ∧ x ≤ 255) (hbl : bs.length ≤ 2000000000) (K : Int) (W : Nat) (H M : Int) (hR : RawH K (W : Int) H M) : Fn Try.prog 8 #[.slice a0 bs.length c0, .agg #[.int .i64 K, .int .i64 (W : Int), .int .i64 H, .int .i64 M]] [A0] (fun v l => ∃ b0 out er a c, b0.length = strd K W (wideM M) ∧ (out, er) = readW K W H M bs ⟨b0, 0, 0, 0, 0⟩ [] ∧ v = .tuple #[.slice a out.length c, .int .i64 er] ∧ l = [own 46 1 a c out.length (pxs out), A0]) := by
  have hb := hR.bd
  have hch := chK_13 K
  have hw := wideM_or M
  have hsb := strd_bd (K := K) (W := W) hw (by omega) (by omega)
  refine Fn.intro (vs := [.slice a0 bs.length c0, .agg #[.int .i64 K, .int .i64 (W : Int), .int .i64 H, .int .i64 M]]) Try.func8 rfl Try.ntmps8 rfl ?_
  refine Wp.seq ?_
  refine Wp.region ?_
  refine s_box rfl rfl rfl ?_
  intro g1
  refine s_as rfl rfl ?_
  refine s_as rfl rfl ?_
  refine WpL.nil ?_
  refine Wp.seq ?_
  refine Wp.region ?_
  refine s_lda (vs := [_, _, _, _]) rfl rfl rfl (by rfl) ?_
  refine s_callf rfl rfl (by repeat' constructor) (RawNew_spec _ _ _ _ hR) ?_
  rintro _ _ ⟨gR, gB, b0, hb0, hb0z, rfl, rfl⟩
  simp only [napp]
  refine s_mv rfl rfl ?_
  refine s_ext rfl rfl rfl ?_
  refine s_ext rfl rfl rfl ?_
  refine s_as rfl rfl ?_
  refine s_as rfl rfl ?_
  refine WpL.nil ?_
  refine Wp.seq ?_
  refine Wp.seq ?_
  refine Wp.region ?_
  refine s_mv rfl rfl ?_
  refine s_ne rfl rfl rfl ?_
  refine WpL.nil ?_
  refine Wp.condDF rfl (by simp) ?_
  refine Wp.skip ?_
  refine Wp.seq ?_
  refine Wp.region ?_
  refine s_mv rfl rfl ?_
  refine s_mkfb rfl rfl rfl ?_
  refine s_as rfl rfl ?_
  refine WpL.nil ?_
  refine Wp.seq ?_
  refine Wp.region ?_
  refine s_as rfl rfl ?_
  refine WpL.nil ?_
  refine Wp.seq ?_
  refine Wp.seq ?_
  refine Wp.region ?_
  refine s_mv rfl rfl ?_
  refine s_lenl rfl rfl ?_
  refine s_mv rfl rfl ?_
  refine WpL.nil ?_
  refine Wp.block ?_
  refine Wp.loopD (σ := RdWX) (fun x => x.k ≤ bs.length ∧ x.b.length = b0.length ∧ (∀ y ∈ x.b, 0 ≤ y ∧ y ≤ 255) ∧ x.n < x.b.length ∧ (0 ≤ x.rows ∧ x.rows < H) ∧ x.acc.length ≤ 4096 * x.k ∧ readW K W H M bs ⟨b0, 0, 0, 0, 0⟩ [] = readW K W H M (bs.drop x.k) ⟨x.b, x.n, x.rows, 0, x.e⟩ x.acc) [4, 5, 9, 11, 12, 13, 26, 27, 28, 29, 30, 31, 32, 33, 34, 35, 36, 37, 38, 39, 40, 41, 42, 43, 44, 45, 46, 47, 48, 49] (fun x => [(26, .int .i64 (x.k : Int)), (9, .slice x.aA x.acc.length x.cA)]) (fun x => [blk gR [.int .i64 K, .int .i64 (W : Int), .int .i64 H, .int .i64 M, .slice (some ⟨gB, 0, none⟩) x.b.length b0.length, .int .i64 (x.n : Int), .int .i64 x.rows, .int .i64 0, .int .i64 x.e] 78, own 5 1 (some ⟨gB, 0, none⟩) b0.length x.b.length (u8s x.b), own 46 1 x.aA x.cA x.acc.length (pxs x.acc), A0]) (fun x => bs.length - x.k) ⟨0, b0, 0, 0, 0, [], none, 0⟩ ?_ (by repeat (first | exact FrLe.nil | refine FrLe.cons rfl ?_)) ?_ ?_
  · exact ⟨Nat.zero_le _, rfl, fun y hy => by rw [hb0z y hy]; omega, by simp only; omega, by simp only; omega, by simp, rfl⟩
  · exact (Ent.own_nil (T := 46) (s := 1) (Ent.refl _)).trans (Take.ent' (by repeat' constructor))
  · rintro ⟨k, b, n, rows, e, acc, aA, cA⟩ ⟨hk, hbl2, hbb, hn, hro, hac, hrd⟩
    dsimp only at hk hbl2 hbb hn hro hac hrd ⊢
    refine Wp.seq ?_
    refine Wp.region ?_
    refine s_lt rfl rfl rfl ?_
    refine WpL.nil ?_
    refine Wp.seq ?_
    refine Wp.condD rfl (fun h2 => ?_) (fun h2 => ?_)
    · have hlt : k < bs.length := by omega
      have hcb := hbs _ (List.getElem_mem hlt)
      refine Wp.skip ?_
      refine Wp.seq ?_
      refine Wp.block ?_
      refine Wp.seq ?_
      refine Wp.region ?_
      refine s_ixa k rfl rfl rfl hA (by first | exact Take.ent' (by repeat' constructor) | (repeat (first | exact Ent.refl _ | refine Ent.drop ?_))) rfl (by omega) (by rw [u8s_len]; omega) ?_
      refine s_ldx rfl rfl hA (by first | exact Take.ent' (by repeat' constructor) | (repeat (first | exact Ent.refl _ | refine Ent.drop ?_))) (u8s_at bs hlt) ?_
      refine s_as rfl rfl ?_
      refine WpL.nil ?_
      refine Wp.seq ?_
      refine Wp.region ?_
      refine s_mv rfl rfl ?_
      refine s_mv rfl rfl ?_
      refine s_call (u := [.pointer (some ⟨gR, 0, none⟩)]) (c := []) rfl rfl rfl rfl (by repeat' constructor) (RawPut_spec K W H M hR gR _ _ b hbb (by omega) n rows 0 e (by omega) (by omega) hn (by omega) _ hcb.1 hcb.2) ?_
      rintro _ _ ⟨b', n', rows', last', e', out, a3, c3, hs, rfl, rfl⟩
      simp only [napp]
      have ho := putW_ok (s := ⟨b, n, rows, 0, e⟩) (hbl2.trans hb0) hbb hcb.1 hcb.2 hn rfl hro hs
      obtain ⟨hb'l, hb'b, hol, hlc, _⟩ := id ho
      dsimp only at hb'l hb'b hlc
      have hstep : readW K W H M (bs.drop k) ⟨b, n, rows, 0, e⟩ acc = if last' = 1 then (acc ++ out, 0) else if last' = 2 then ([], e') else readW K W H M (bs.drop (k + 1)) ⟨b', n', rows', last', e'⟩ (acc ++ out) := by rw [List.drop_eq_getElem_cons hlt, readW, ← hs]
      refine s_mv rfl rfl ?_
      refine s_ext rfl rfl rfl ?_
      refine s_ext rfl rfl rfl ?_
      refine s_as rfl rfl ?_
      refine s_as rfl rfl ?_
      refine WpL.nil ?_
      refine Wp.seq ?_
      refine Wp.region ?_
      refine s_mv rfl rfl ?_
      refine s_mv rfl rfl ?_
      refine s_appo rfl rfl rfl (by repeat' constructor) (by rfl) (by rfl) (pxs_one _) (by omega) (by omega) ?_
      intro a38 c38
      rw [pxs_app, ← List.length_append]
      refine s_as rfl rfl ?_
      refine WpL.nil ?_
      refine Wp.seq ?_
      refine Wp.region ?_
      refine s_mv rfl rfl ?_
      refine WpL.nil ?_
      refine Wp.block ?_
      refine Wp.seq ?_
      refine Wp.region ?_
      refine s_eq rfl rfl rfl ?_
      refine s_as rfl rfl ?_
      refine WpL.nil ?_
      refine Wp.condD rfl (fun hl1 => ?_) (fun hl1 => ?_)
      · refine Wp.seq ?_
        refine Wp.region ?_
        refine s_mv rfl rfl ?_
        refine s_as rfl rfl ?_
        refine s_as rfl rfl ?_
        refine WpL.nil ?_
        refine Wp.ret ?_
        apply RetQ.mk
        · exact (Res.two rfl rfl rfl)
        · exact ⟨b0, acc ++ out, 0, a38, c38, hb0, by rw [hrd, hstep, if_pos hl1], rfl, rfl⟩
        · first | exact Ent.refl _ | exact Ent.nil _ | exact Take.ent' (by repeat' constructor) | (repeat (first | exact Ent.refl _ | refine Ent.drop ?_))
      · refine Wp.seq ?_
        refine Wp.region ?_
        refine s_eq rfl rfl rfl ?_
        refine s_as rfl rfl ?_
        refine WpL.nil ?_
        refine Wp.condD rfl (fun hl2 => ?_) (fun hl2 => ?_)
        · refine Wp.seq ?_
          apply Wp.draw mixed [⟨45, _, []⟩, ⟨46, _, [0]⟩, ⟨47, _, [1]⟩, ⟨48, _, [2]⟩, ⟨4, _, []⟩, ⟨5, _, [3, 4, 0, 1, 2]⟩] rfl
          · refine AllObs.mk ?_ ?_
            · refine s_mv rfl rfl ?_
              exact obN rfl
            refine AllObs.mk ?_ ?_
            · refine s_nc rfl rfl ?_
              exact obN rfl
            refine AllObs.mk ?_ ?_
            · refine s_fa (o2 := 8) rfl rfl rfl ?_
              exact obN rfl
            refine AllObs.mk ?_ ?_
            · refine s_ld rfl rfl (by rfl) ?_
              exact obN rfl
            refine AllObs.mk ?_ ?_
            · refine s_as rfl rfl ?_
              exact obN rfl
            refine AllObs.mk ?_ ?_
            · refine s_as rfl rfl ?_
              exact obN rfl
            exact AllObs.nil
          · refine Wp.ret ?_
            apply RetQ.mk
            · exact (Res.two rfl rfl rfl)
            · exact ⟨b0, [], e', none, 0, hb0, by rw [hrd, hstep, if_neg hl1, if_pos hl2], rfl, rfl⟩
            · exact (Ent.own_nil (T := 46) (s := 1) (Ent.refl _)).trans (Take.ent' (by repeat' constructor))
        · have hl0 : last' = 0 := by omega
          subst hl0
          refine Wp.skip ?_
          refine Wp.region ?_
          first | refine s_add rfl rfl rfl (w_i64 (by omega) (by omega)) ?_ | refine s_addw rfl rfl rfl ?_
          refine s_mv rfl rfl ?_
          refine WpL.nil ?_
          refine loopD.next (⟨k + 1, b', n', rows', e', acc ++ out, a38, c38⟩ : RdWX) ?_ ?_ (by repeat (first | exact Top.refl | refine Top.push rfl ?_ | refine Top.drop rfl ?_)) (by repeat (first | exact FrLe.nil | refine FrLe.cons rfl ?_)) ?_
          · exact ⟨by simp only; omega, by simp only; omega, hb'b, (ho.2.2.2.2 rfl).1, (ho.2.2.2.2 rfl).2, by simp only [List.length_append]; omega, by simp only; rw [hrd, hstep, if_neg (by simp), if_neg (by simp)]⟩
          · simp only; omega
          · first | exact Ent.refl _ | exact Ent.nil _ | exact Take.ent' (by repeat' constructor) | (repeat (first | exact Ent.refl _ | refine Ent.drop ?_))
    · have hke : k = bs.length := by omega
      refine Wp.exit ?_
      refine Wp.seq ?_
      refine Wp.region ?_
      refine s_as rfl rfl ?_
      refine s_as rfl rfl ?_
      refine WpL.nil ?_
      refine Wp.ret ?_
      apply RetQ.mk
      · exact (Res.two rfl rfl rfl)
      · exact ⟨b0, [], 6, none, 0, hb0, by rw [hrd, hke, List.drop_length]; rfl, rfl, rfl⟩
      · exact (Ent.own_nil (T := 46) (s := 1) (Ent.refl _)).trans (Take.ent' (by repeat' constructor))

end Go.Proofs.Ytpoahaadnbdgcaa
