/- Walks and plain laws, a part of the proof of PnmOpen: every input that the law's guards let in, no condition beside. -/
import Derived.Test.YtggamdlpiejbiaaGreatM16
namespace Go.Proofs.YtggamdlpiejbiaaGreat
open Go.RowKit Go.Shelf


theorem RawRow_spec (K : Int) (W : Nat) (H M : Int) (hR : RawH K (W : Int) H M) (g : Nat) (a1 : Option Addr) (c1 : Nat) (bs : List Int) (hbs : ∀ x ∈ bs, 0 ≤ x ∧ x ≤ 255) (hbl : bs.length ≤ 100000) (n rows last e : Int) (hst : bs.length = strd K W (wideM M)) (hbc : bs.length ≤ c1) : Fn Tryz.prog 168 #[.pointer (some ⟨g, 0, none⟩)] [blk g [.int .i64 K, .int .i64 (W : Int), .int .i64 H, .int .i64 M, .slice a1 bs.length c1, .int .i64 n, .int .i64 rows, .int .i64 last, .int .i64 e] 198, own 5 1 a1 c1 bs.length (u8s bs)] (fun v l => ∃ a3 c3, v = .slice a3 W c3 ∧ l = [blk g [.int .i64 K, .int .i64 (W : Int), .int .i64 H, .int .i64 M, .slice a1 bs.length c1, .int .i64 n, .int .i64 rows, .int .i64 last, .int .i64 e] 198, own 5 1 a1 c1 bs.length (u8s bs), own 92 1 a3 c3 W (pxs (rowD K W (wideM M) bs))]) := by
  by_cases h4 : K = 4
  · exact RawRow_a K W H M hR g a1 c1 bs hbs hbl n rows last e hst hbc h4
  · exact RawRow_b K W H M hR g a1 c1 bs hbs hbl n rows last e hst hbc h4
theorem set_bd {bs : List Int} {n : Nat} {c : Int} (h : ∀ x ∈ bs, 0 ≤ x ∧ x ≤ 255) (h0 : 0 ≤ c) (h1 : c ≤ 255) : ∀ x ∈ bs.set n c, 0 ≤ x ∧ x ≤ 255 := fun x hx => by
  rcases List.mem_or_eq_of_mem_set hx with hx | rfl
  · exact h x hx
  · exact ⟨h0, h1⟩

set_option maxHeartbeats 1000000 in
theorem RawPut_a (K : Int) (W : Nat) (H M : Int) (hR : RawH K (W : Int) H M) (g : Nat) (a1 : Option Addr) (c1 : Nat) (bs : List Int) (hbs : ∀ x ∈ bs, 0 ≤ x ∧ x ≤ 255) (hbl : bs.length ≤ 100000) (n : Nat) (rows last e : Int) (hst : bs.length = strd K W (wideM M)) (hbc : bs.length ≤ c1) (hn : n < bs.length) (hro : 0 ≤ rows ∧ rows ≤ 100000) (c : Int) (hc0 : 0 ≤ c) (hc1 : c ≤ 255) (h4 : K = 4) : Fn Tryz.prog 125 #[.pointer (some ⟨g, 0, none⟩), .int .u8 c] [blk g [.int .i64 K, .int .i64 (W : Int), .int .i64 H, .int .i64 M, .slice a1 bs.length c1, .int .i64 (n : Int), .int .i64 rows, .int .i64 last, .int .i64 e] 198, own 5 1 a1 c1 bs.length (u8s bs)] (fun v l => ∃ b' n' rows' last' e' out a3 c3, ((⟨b', n', rows', last', e'⟩ : RW), out) = putW K W H M ⟨bs, n, rows, last, e⟩ c ∧ v = .tuple #[.slice a3 out.length c3, .int .i64 last'] ∧ l = [blk g [.int .i64 K, .int .i64 (W : Int), .int .i64 H, .int .i64 M, .slice a1 b'.length c1, .int .i64 (n' : Int), .int .i64 rows', .int .i64 last', .int .i64 e'] 198, own 5 1 a1 c1 b'.length (u8s b'), own 92 1 a3 c3 out.length (pxs out)] ∧ (out = [] → a3 = none)) := by
  have hb := hR.bd
  have hch := chK_13 K
  have hw := wideM_or M
  have hsb := strd_bd (K := K) (W := W) hw (by omega) (by omega)
  have hqd : 0 ≤ ((n : Int) + 1) / ((wideM M : Nat) : Int) ∧ ((n : Int) + 1) / ((wideM M : Nat) : Int) ≤ (n : Int) + 1 := by rcases hw with e | e <;> rw [e] <;> omega
  refine Fn.intro (vs := [.pointer (some ⟨g, 0, none⟩), .int .u8 c]) Tryz.func125 rfl Tryz.ntmps125 rfl ?_
  refine Wp.seq ?_
  refine Wp.region ?_
  refine s_as rfl rfl ?_
  refine s_as rfl rfl ?_
  refine WpL.nil ?_
  refine Wp.seq ?_
  refine Wp.seq ?_
  refine Wp.region ?_
  refine s_mv rfl rfl ?_
  refine s_nc rfl rfl ?_
  refine s_fa (o2 := 7) rfl rfl rfl ?_
  refine s_ld rfl rfl (by rfl) ?_
  refine s_ne rfl rfl rfl ?_
  refine WpL.nil ?_
  refine Wp.condD rfl (fun h0 => ?_) (fun h0 => ?_)
  · refine Wp.seq ?_
    apply Wp.draw mixed [⟨12, _, []⟩, ⟨13, _, [0]⟩, ⟨14, _, [1]⟩, ⟨15, _, [2]⟩, ⟨4, _, []⟩, ⟨5, _, [3, 4, 0, 1, 2]⟩] rfl
    · refine AllObs.mk ?_ ?_
      · refine s_mv rfl rfl ?_
        exact obN rfl
      refine AllObs.mk ?_ ?_
      · refine s_nc rfl rfl ?_
        exact obN rfl
      refine AllObs.mk ?_ ?_
      · refine s_fa (o2 := 7) rfl rfl rfl ?_
        exact obN rfl
      refine AllObs.mk ?_ ?_
      · refine s_ld rfl rfl (by rfl) ?_
        exact obN rfl
      refine AllObs.mk ?_ ?_
      · refine s_as rfl rfl ?_
        exact obN rfl
      refine AllObs.mk ?_ ?_
      · refine s_as rfl rfl ?_
        exact obN rfl
      exact AllObs.nil
    · refine Wp.ret ?_
      apply RetQ.mk
      · exact (Res.two rfl rfl rfl)
      · exact ⟨bs, n, rows, last, e, [], none, 0, by unfold putW; dsimp only; rw [if_pos h0], rfl, rfl, fun _ => rfl⟩
      · exact (Ent.own_nil (T := 92) (s := 1) (Ent.refl _)).trans (Take.ent' (by repeat' constructor))
  · have hl0 : last = 0 := Classical.not_not.1 h0
    subst hl0
    refine Wp.skip ?_
    refine Wp.seq ?_
    apply Wp.drawGN (fB := []) mixed [(10, false)] (by kernel_rfl)
    apply GoR.segF [⟨0, 16, _, [], false⟩, ⟨1, 17, _, [0], false⟩, ⟨2, 18, _, [1], false⟩, ⟨3, 19, _, [2], false⟩, ⟨4, 20, _, [], false⟩, ⟨5, 21, _, [4], false⟩, ⟨6, 22, _, [5], false⟩, ⟨7, 23, _, [6], false⟩, ⟨8, 24, _, [], false⟩, ⟨9, 25, _, [0, 1, 2, 3, 4, 5, 6, 7, 8], false⟩] [] [0, 1, 2, 3, 4, 5, 6, 7, 8, 9] [] (.inr rfl) rfl rfl rfl (by kernel_rfl) rfl rfl rfl
    · refine AllF.cons rfl rfl rfl rfl ?_ ?_
      · refine s_mv rfl rfl ?_
        exact obN rfl
      refine AllF.cons rfl rfl rfl rfl ?_ ?_
      · refine s_nc rfl rfl ?_
        exact obN rfl
      refine AllF.cons rfl rfl rfl rfl ?_ ?_
      · refine s_fa (o2 := 4) rfl rfl rfl ?_
        exact obN rfl
      refine AllF.cons rfl rfl rfl rfl ?_ ?_
      · refine s_ld rfl rfl (by rfl) ?_
        exact obN rfl
      refine AllF.cons rfl rfl rfl rfl ?_ ?_
      · refine s_mv rfl rfl ?_
        exact obN rfl
      refine AllF.cons rfl rfl rfl rfl ?_ ?_
      · refine s_nc rfl rfl ?_
        exact obN rfl
      refine AllF.cons rfl rfl rfl rfl ?_ ?_
      · refine s_fa (o2 := 5) rfl rfl rfl ?_
        exact obN rfl
      refine AllF.cons rfl rfl rfl rfl ?_ ?_
      · refine s_ld rfl rfl (by rfl) ?_
        exact obN rfl
      refine AllF.cons rfl rfl rfl rfl ?_ ?_
      · refine s_mv rfl rfl ?_
        exact obN rfl
      refine AllF.cons rfl rfl rfl rfl ?_ ?_
      · refine s_ixa n rfl rfl rfl RdsL.own (by first | exact Take.ent' (by repeat' constructor) | (repeat (first | exact Ent.refl _ | refine Ent.drop ?_))) rfl (by omega) (by rw [u8s_len]; omega) ?_
        exact obN rfl
      exact AllF.nil
    · refine s_sto rfl rfl rfl (by repeat' constructor) (by rw [u8s_len]; omega) ?_
      refine WpL.nil ⟨rfl, rfl, ?_⟩
      apply GoR.nil [] (.inr rfl) rfl rfl
      · exact AllF.nil
      · refine Wp.slots (gr := [(0, _)]) (FrLe.cons rfl FrLe.nil) ?_
        refine Wp.seq ?_
        refine Wp.region ?_
        rw [u8s_set]
        obtain ⟨b2, hb2⟩ : ∃ b2, b2 = bs.set n c := ⟨_, rfl⟩
        have hb2l : b2.length = bs.length := by rw [hb2, List.length_set]
        have hb2s : ∀ x ∈ b2, 0 ≤ x ∧ x ≤ 255 := by rw [hb2]; exact set_bd hbs hc0 hc1
        rw [← hb2, ← hb2l]
        refine s_mv rfl rfl ?_
        refine s_nc rfl rfl ?_
        refine s_fa (o2 := 5) rfl rfl rfl ?_
        refine s_ld rfl rfl (by rfl) ?_
        first | refine s_add rfl rfl rfl (w_i64 (by omega) (by omega)) ?_ | refine s_addw rfl rfl rfl ?_
        refine s_nc rfl rfl ?_
        refine s_fa (o2 := 5) rfl rfl rfl ?_
        refine s_st rfl rfl rfl ?_
        refine WpL.nil ?_
        refine Wp.seq ?_
        refine Wp.seq ?_
        refine Wp.region ?_
        refine s_mv rfl rfl ?_
        refine s_nc rfl rfl ?_
        refine s_fa (o2 := 0) rfl rfl rfl ?_
        refine s_lda (vs := [_, _, _, _]) rfl rfl rfl (by rfl) ?_
        refine s_callf rfl rfl (by repeat' constructor) (wide_spec _ _ _ _) ?_
        rintro _ _ ⟨rfl, rfl⟩
        simp only [napp]
        refine s_as rfl rfl ?_
        refine WpL.nil ?_
        refine Wp.slots (gr := [(0, _), (6, _)]) (FrLe.cons rfl (FrLe.cons rfl FrLe.nil)) ?_
        refine Wp.seq ?_
        apply Wp.draw mixed [⟨38, _, []⟩, ⟨39, _, [0]⟩, ⟨40, _, [1]⟩, ⟨41, _, [2]⟩, ⟨42, _, [3]⟩, ⟨43, _, [4]⟩, ⟨44, _, [5]⟩, ⟨45, _, [6]⟩, ⟨46, _, [7, 6]⟩, ⟨47, _, [8, 6]⟩, ⟨48, _, [9, 6]⟩, ⟨49, _, [6]⟩, ⟨50, _, [10, 11, 6]⟩, ⟨51, _, [12, 6]⟩, ⟨52, _, [6, 13]⟩, ⟨53, _, [14, 6]⟩, ⟨54, _, [15]⟩, ⟨55, _, [15]⟩, ⟨56, _, [17, 15]⟩, ⟨57, _, [18, 15]⟩, ⟨58, _, [19, 15]⟩, ⟨59, _, [15]⟩, ⟨60, _, [20, 21, 15]⟩, ⟨61, _, [22, 15]⟩, ⟨62, _, [16, 23, 15]⟩, ⟨63, _, [15]⟩, ⟨64, _, [25, 15]⟩, ⟨65, _, [26, 15]⟩, ⟨66, _, [27, 15]⟩, ⟨67, _, [28, 15]⟩, ⟨68, _, [24, 29, 15]⟩, ⟨69, _, [15, 30]⟩] rfl
        · refine AllObs.mk ?_ ?_
          · refine s_mv rfl rfl ?_
            exact obN rfl
          refine AllObs.mk ?_ ?_
          · refine s_nc rfl rfl ?_
            exact obN rfl
          refine AllObs.mk ?_ ?_
          · refine s_fa (o2 := 0) rfl rfl rfl ?_
            exact obN rfl
          refine AllObs.mk ?_ ?_
          · refine s_fa (o2 := 0) rfl rfl rfl ?_
            exact obN rfl
          refine AllObs.mk ?_ ?_
          · refine s_ld rfl rfl (by rfl) ?_
            exact obN rfl
          refine AllObs.mk ?_ ?_
          · refine s_ne rfl rfl rfl ?_
            exact obN rfl
          refine AllObs.mk ?_ ?_
          · refine s_mv rfl rfl ?_
            exact obN rfl
          refine AllObs.mk ?_ ?_
          · refine WpL.knowF (dj := 44) rfl (decide_eq_false (fun h => h h4)) ?_
            refine WpL.goff rfl rfl rfl (by decide) ?_
            exact obN rfl
          refine AllObs.mk ?_ ?_
          · refine WpL.knowF (dj := 44) rfl (decide_eq_false (fun h => h h4)) ?_
            refine WpL.goff rfl rfl rfl (by decide) ?_
            exact obN rfl
          refine AllObs.mk ?_ ?_
          · refine WpL.knowF (dj := 44) rfl (decide_eq_false (fun h => h h4)) ?_
            refine WpL.goff rfl rfl rfl (by decide) ?_
            exact obN rfl
          refine AllObs.mk ?_ ?_
          · refine WpL.knowF (dj := 44) rfl (decide_eq_false (fun h => h h4)) ?_
            refine WpL.goff rfl rfl rfl (by decide) ?_
            exact obN rfl
          refine AllObs.mk ?_ ?_
          · refine WpL.knowF (dj := 44) rfl (decide_eq_false (fun h => h h4)) ?_
            refine WpL.goff rfl rfl rfl (by decide) ?_
            exact obN rfl
          refine AllObs.mk ?_ ?_
          · refine WpL.knowF (dj := 44) rfl (decide_eq_false (fun h => h h4)) ?_
            refine WpL.goff rfl rfl rfl (by decide) ?_
            exact obN rfl
          refine AllObs.mk ?_ ?_
          · refine WpL.knowF (dj := 44) rfl (decide_eq_false (fun h => h h4)) ?_
            refine WpL.goff rfl rfl rfl (by decide) ?_
            exact obN rfl
          refine AllObs.mk ?_ ?_
          · refine WpL.knowF (dj := 44) rfl (decide_eq_false (fun h => h h4)) ?_
            refine s_pickF rfl rfl rfl ?_
            exact obN rfl
          refine AllObs.mk ?_ ?_
          · refine s_mv rfl rfl ?_
            exact obN rfl
          refine AllObs.mk ?_ ?_
          · refine WpL.goff rfl rfl rfl (by decide) ?_
            exact obN rfl
          refine AllObs.mk ?_ ?_
          · refine WpL.goff rfl rfl rfl (by decide) ?_
            exact obN rfl
          refine AllObs.mk ?_ ?_
          · refine WpL.goff rfl rfl rfl (by decide) ?_
            exact obN rfl
          refine AllObs.mk ?_ ?_
          · refine WpL.goff rfl rfl rfl (by decide) ?_
            exact obN rfl
          refine AllObs.mk ?_ ?_
          · refine WpL.goff rfl rfl rfl (by decide) ?_
            exact obN rfl
          refine AllObs.mk ?_ ?_
          · refine WpL.goff rfl rfl rfl (by decide) ?_
            exact obN rfl
          refine AllObs.mk ?_ ?_
          · refine WpL.goff rfl rfl rfl (by decide) ?_
            exact obN rfl
          refine AllObs.mk ?_ ?_
          · refine WpL.goff rfl rfl rfl (by decide) ?_
            exact obN rfl
          refine AllObs.mk ?_ ?_
          · refine WpL.goff rfl rfl rfl (by decide) ?_
            exact WpL.nil ⟨rfl, rfl, rfl, by first | exact Ent.refl _ | exact Ent.nil _ | exact Take.ent' (by repeat' constructor) | (repeat (first | exact Ent.refl _ | refine Ent.drop ?_))⟩
          refine AllObs.mk ?_ ?_
          · refine WpL.goff rfl rfl rfl (by decide) ?_
            exact obN rfl
          refine AllObs.mk ?_ ?_
          · refine WpL.goff rfl rfl rfl (by decide) ?_
            exact obN rfl
          refine AllObs.mk ?_ ?_
          · refine WpL.goff rfl rfl rfl (by decide) ?_
            exact obN rfl
          refine AllObs.mk ?_ ?_
          · refine WpL.goff rfl rfl rfl (by decide) ?_
            exact obN rfl
          refine AllObs.mk ?_ ?_
          · refine WpL.goff rfl rfl rfl (by decide) ?_
            exact obN rfl
          refine AllObs.mk ?_ ?_
          · refine WpL.goff rfl rfl rfl (by decide) ?_
            exact obN rfl
          refine AllObs.mk ?_ ?_
          · refine s_pickF rfl rfl rfl ?_
            exact obN rfl
          exact AllObs.nil
        · refine Wp.slots (gr := [(0, _), (69, _)]) (FrLe.cons rfl (FrLe.cons rfl FrLe.nil)) ?_
          refine Wp.condF rfl ?_
          refine Wp.skip ?_
          refine Wp.seq ?_
          refine Wp.seq ?_
          apply Wp.draw mixed [⟨80, _, []⟩, ⟨81, _, [0]⟩, ⟨82, _, [1]⟩, ⟨83, _, [2]⟩, ⟨84, _, []⟩, ⟨85, _, [4]⟩, ⟨86, _, [5]⟩, ⟨87, _, [6]⟩, ⟨88, _, [7]⟩, ⟨89, _, [3, 8]⟩] rfl
          · refine AllObs.mk ?_ ?_
            · refine s_mv rfl rfl ?_
              exact obN rfl
            refine AllObs.mk ?_ ?_
            · refine s_nc rfl rfl ?_
              exact obN rfl
            refine AllObs.mk ?_ ?_
            · refine s_fa (o2 := 5) rfl rfl rfl ?_
              exact obN rfl
            refine AllObs.mk ?_ ?_
            · refine s_ld rfl rfl (by rfl) ?_
              exact obN rfl
            refine AllObs.mk ?_ ?_
            · refine s_mv rfl rfl ?_
              exact obN rfl
            refine AllObs.mk ?_ ?_
            · refine s_nc rfl rfl ?_
              exact obN rfl
            refine AllObs.mk ?_ ?_
            · refine s_fa (o2 := 4) rfl rfl rfl ?_
              exact obN rfl
            refine AllObs.mk ?_ ?_
            · refine s_ld rfl rfl (by rfl) ?_
              exact obN rfl
            refine AllObs.mk ?_ ?_
            · refine s_lenl rfl rfl ?_
              exact WpL.nil ⟨rfl, rfl, rfl, by first | exact Ent.refl _ | exact Ent.nil _ | exact Take.ent' (by repeat' constructor) | (repeat (first | exact Ent.refl _ | refine Ent.drop ?_))⟩
            refine AllObs.mk ?_ ?_
            · refine s_lt rfl rfl rfl ?_
              exact obN rfl
            exact AllObs.nil
          · refine Wp.slots (gr := [(0, _), (89, _)]) (FrLe.cons rfl (FrLe.cons rfl FrLe.nil)) ?_
            refine Wp.condD rfl (fun h2 => ?_) (fun h2 => ?_)
            · refine Wp.seq ?_
              refine Wp.region ?_
              refine s_as rfl rfl ?_
              refine s_as rfl rfl ?_
              refine WpL.nil ?_
              refine Wp.ret ?_
              rw [show (n : Int) + 1 = ((n + 1 : Nat) : Int) from rfl]
              apply RetQ.mk
              · exact (Res.two rfl rfl rfl)
              · exact ⟨b2, n + 1, rows, 0, e, [], none, 0, by subst hb2; unfold putW; dsimp only; rw [if_neg (show ¬ (0 : Int) ≠ 0 by omega), if_neg (fun h => h.1 h4), if_pos (by have := hb2l; omega)], rfl, rfl, fun _ => rfl⟩
              · exact (Ent.own_nil (T := 92) (s := 1) (Ent.refl _)).trans (Take.ent' (by repeat' constructor))
            · have hlen : ¬ n + 1 < bs.length := by omega
              refine Wp.skip ?_
              refine Wp.seq ?_
              refine Wp.region ?_
              refine s_mv rfl rfl ?_
              refine s_nc rfl rfl ?_
              refine s_fa (o2 := 5) rfl rfl rfl ?_
              refine s_st rfl rfl rfl ?_
              refine WpL.nil ?_
              refine Wp.seq ?_
              refine Wp.region ?_
              refine s_mv rfl rfl ?_
              refine s_nc rfl rfl ?_
              refine s_fa (o2 := 6) rfl rfl rfl ?_
              refine s_ld rfl rfl (by rfl) ?_
              first | refine s_add rfl rfl rfl (w_i64 (by omega) (by omega)) ?_ | refine s_addw rfl rfl rfl ?_
              refine s_nc rfl rfl ?_
              refine s_fa (o2 := 6) rfl rfl rfl ?_
              refine s_st rfl rfl rfl ?_
              refine WpL.nil ?_
              refine Wp.slots (gr := [(0, _)]) (FrLe.cons rfl FrLe.nil) ?_
              refine Wp.seq ?_
              refine Wp.seq ?_
              apply Wp.draw mixed [⟨100, _, []⟩, ⟨101, _, [0]⟩, ⟨102, _, [1]⟩, ⟨103, _, [2]⟩, ⟨104, _, []⟩, ⟨105, _, [4]⟩, ⟨106, _, [5]⟩, ⟨107, _, [6]⟩, ⟨108, _, [7]⟩, ⟨109, _, [3, 8]⟩] rfl
              · refine AllObs.mk ?_ ?_
                · refine s_mv rfl rfl ?_
                  exact obN rfl
                refine AllObs.mk ?_ ?_
                · refine s_nc rfl rfl ?_
                  exact obN rfl
                refine AllObs.mk ?_ ?_
                · refine s_fa (o2 := 6) rfl rfl rfl ?_
                  exact obN rfl
                refine AllObs.mk ?_ ?_
                · refine s_ld rfl rfl (by rfl) ?_
                  exact obN rfl
                refine AllObs.mk ?_ ?_
                · refine s_mv rfl rfl ?_
                  exact obN rfl
                refine AllObs.mk ?_ ?_
                · refine s_nc rfl rfl ?_
                  exact obN rfl
                refine AllObs.mk ?_ ?_
                · refine s_fa (o2 := 0) rfl rfl rfl ?_
                  exact obN rfl
                refine AllObs.mk ?_ ?_
                · refine s_fa (o2 := 2) rfl rfl rfl ?_
                  exact obN rfl
                refine AllObs.mk ?_ ?_
                · refine s_ld rfl rfl (by rfl) ?_
                  exact obN rfl
                refine AllObs.mk ?_ ?_
                · refine s_eq rfl rfl rfl ?_
                  exact obN rfl
                exact AllObs.nil
              · refine Wp.slots (gr := [(0, _), (109, _)]) (FrLe.cons rfl (FrLe.cons rfl FrLe.nil)) ?_
                refine Wp.condD rfl (fun h3 => ?_) (fun h3 => ?_)
                · refine Wp.region ?_
                  refine s_mv rfl rfl ?_
                  refine s_nc rfl rfl ?_
                  refine s_fa (o2 := 7) rfl rfl rfl ?_
                  refine s_st rfl rfl rfl ?_
                  refine WpL.nil ?_
                  refine Wp.seq ?_
                  apply Wp.drawP (fB := [blk g [.int .i64 K, .int .i64 (W : Int), .int .i64 H, .int .i64 M, .slice a1 b2.length c1, .int .i64 0, .int .i64 (rows + 1), .int .i64 1, .int .i64 e] 198]) [0, 2, 3, 4, 5, 1, 6, 7] [113, 115, 116, 117, 118, 114, 4, 5] 8 mixed (by kernel_rfl) [(5, false)] (by kernel_rfl) (by kernel_rfl) (by kernel_rfl)
                  apply GoR.segFP [⟨0, 113, _, [], false⟩, ⟨1, 115, _, [], true⟩, ⟨2, 116, _, [1], true⟩, ⟨3, 117, _, [2], true⟩, ⟨4, 118, _, [3], true⟩] [] [0] [4, 5] [4, 5, 115, 116, 117, 118] (.inl ⟨_, by repeat' constructor⟩) rfl rfl rfl (by kernel_rfl) rfl (by kernel_rfl) rfl rfl
                  · refine AllF.consP 0 [] rfl rfl rfl rfl (by kernel_rfl) rfl ?_ ?_
                    · refine s_mv rfl rfl ?_
                      exact obN rfl
                    refine AllF.consPR 1 [] rfl rfl rfl rfl (by kernel_rfl) rfl ?_ ?_
                    · refine s_mv rfl rfl ?_
                      exact obN rfl
                    refine AllF.consPR 2 [1] rfl rfl rfl rfl (by kernel_rfl) rfl ?_ ?_
                    · refine s_nc rfl rfl ?_
                      exact obN rfl
                    refine AllF.consPR 3 [2] rfl rfl rfl rfl (by kernel_rfl) rfl ?_ ?_
                    · refine s_fa (o2 := 7) rfl rfl rfl ?_
                      exact obN rfl
                    refine AllF.consPR 4 [3] rfl rfl rfl rfl (by kernel_rfl) rfl ?_ ?_
                    · refine s_ld rfl rfl (by rfl) ?_
                      exact obN rfl
                    exact AllF.nil
                  · refine s_callf rfl rfl (by repeat' constructor) (RawRow_spec _ _ _ _ hR _ _ _ _ hb2s (by omega) _ _ _ _ (by rw [hb2l]; exact hst) (by rw [hb2l]; exact hbc)) ?_
                    rintro _ _ ⟨a3, c3, rfl, rfl⟩
                    simp only [napp]
                    refine WpL.nil ⟨rfl, rfl, ?_⟩
                    apply GoR.nilP [⟨6, 4, _, [0, 5], false⟩, ⟨7, 5, _, [0, 1, 2, 3, 4, 5, 6], false⟩] 8 (by kernel_rfl) (.inl ⟨_, by repeat' constructor⟩) rfl rfl
                    · refine AllF.consP 6 [0, 5] rfl rfl rfl rfl (by kernel_rfl) rfl ?_ ?_
                      · refine s_as rfl rfl ?_
                        exact obN rfl
                      refine AllF.consP 7 [0, 1, 2, 3, 4, 5, 6] rfl rfl rfl rfl (by kernel_rfl) rfl ?_ ?_
                      · refine s_as rfl rfl ?_
                        exact obN rfl
                      exact AllF.nil
                    · refine Wp.ret ?_
                      apply RetQ.mk
                      · exact (Res.two rfl rfl rfl)
                      · have hrl := rowD_len (K := K) (W := W) hw (hb2l.trans hst)
                        exact ⟨b2, 0, (rows + 1), 1, e, (rowD K W (wideM M) b2), a3, c3, by subst hb2; unfold putW; dsimp only; rw [if_neg (show ¬ (0 : Int) ≠ 0 by omega), if_neg (fun h => h.1 h4), if_neg (by omega), if_pos (by omega)], by rw [hrl], by rw [hrl], fun hr => (by rw [hr] at hrl; simp at hrl; omega)⟩
                      · first | exact Ent.refl _ | exact Ent.nil _ | exact Take.ent' (by repeat' constructor) | (repeat (first | exact Ent.refl _ | refine Ent.drop ?_))
                · refine Wp.skip ?_
                  refine Wp.seq ?_
                  apply Wp.drawP (fB := [blk g [.int .i64 K, .int .i64 (W : Int), .int .i64 H, .int .i64 M, .slice a1 b2.length c1, .int .i64 0, .int .i64 (rows + 1), .int .i64 0, .int .i64 e] 198]) [0, 2, 3, 4, 5, 1, 6, 7] [113, 115, 116, 117, 118, 114, 4, 5] 8 mixed (by kernel_rfl) [(5, false)] (by kernel_rfl) (by kernel_rfl) (by kernel_rfl)
                  apply GoR.segFP [⟨0, 113, _, [], false⟩, ⟨1, 115, _, [], true⟩, ⟨2, 116, _, [1], true⟩, ⟨3, 117, _, [2], true⟩, ⟨4, 118, _, [3], true⟩] [] [0] [4, 5] [4, 5, 115, 116, 117, 118] (.inl ⟨_, by repeat' constructor⟩) rfl rfl rfl (by kernel_rfl) rfl (by kernel_rfl) rfl rfl
                  · refine AllF.consP 0 [] rfl rfl rfl rfl (by kernel_rfl) rfl ?_ ?_
                    · refine s_mv rfl rfl ?_
                      exact obN rfl
                    refine AllF.consPR 1 [] rfl rfl rfl rfl (by kernel_rfl) rfl ?_ ?_
                    · refine s_mv rfl rfl ?_
                      exact obN rfl
                    refine AllF.consPR 2 [1] rfl rfl rfl rfl (by kernel_rfl) rfl ?_ ?_
                    · refine s_nc rfl rfl ?_
                      exact obN rfl
                    refine AllF.consPR 3 [2] rfl rfl rfl rfl (by kernel_rfl) rfl ?_ ?_
                    · refine s_fa (o2 := 7) rfl rfl rfl ?_
                      exact obN rfl
                    refine AllF.consPR 4 [3] rfl rfl rfl rfl (by kernel_rfl) rfl ?_ ?_
                    · refine s_ld rfl rfl (by rfl) ?_
                      exact obN rfl
                    exact AllF.nil
                  · refine s_callf rfl rfl (by repeat' constructor) (RawRow_spec _ _ _ _ hR _ _ _ _ hb2s (by omega) _ _ _ _ (by rw [hb2l]; exact hst) (by rw [hb2l]; exact hbc)) ?_
                    rintro _ _ ⟨a3, c3, rfl, rfl⟩
                    simp only [napp]
                    refine WpL.nil ⟨rfl, rfl, ?_⟩
                    apply GoR.nilP [⟨6, 4, _, [0, 5], false⟩, ⟨7, 5, _, [0, 1, 2, 3, 4, 5, 6], false⟩] 8 (by kernel_rfl) (.inl ⟨_, by repeat' constructor⟩) rfl rfl
                    · refine AllF.consP 6 [0, 5] rfl rfl rfl rfl (by kernel_rfl) rfl ?_ ?_
                      · refine s_as rfl rfl ?_
                        exact obN rfl
                      refine AllF.consP 7 [0, 1, 2, 3, 4, 5, 6] rfl rfl rfl rfl (by kernel_rfl) rfl ?_ ?_
                      · refine s_as rfl rfl ?_
                        exact obN rfl
                      exact AllF.nil
                    · refine Wp.ret ?_
                      apply RetQ.mk
                      · exact (Res.two rfl rfl rfl)
                      · have hrl := rowD_len (K := K) (W := W) hw (hb2l.trans hst)
                        exact ⟨b2, 0, (rows + 1), 0, e, (rowD K W (wideM M) b2), a3, c3, by subst hb2; unfold putW; dsimp only; rw [if_neg (show ¬ (0 : Int) ≠ 0 by omega), if_neg (fun h => h.1 h4), if_neg (by omega), if_neg (by omega)], by rw [hrl], by rw [hrl], fun hr => (by rw [hr] at hrl; simp at hrl; omega)⟩
                      · first | exact Ent.refl _ | exact Ent.nil _ | exact Take.ent' (by repeat' constructor) | (repeat (first | exact Ent.refl _ | refine Ent.drop ?_))

set_option maxHeartbeats 1000000 in
theorem RawPut_b (K : Int) (W : Nat) (H M : Int) (hR : RawH K (W : Int) H M) (g : Nat) (a1 : Option Addr) (c1 : Nat) (bs : List Int) (hbs : ∀ x ∈ bs, 0 ≤ x ∧ x ≤ 255) (hbl : bs.length ≤ 100000) (n : Nat) (rows last e : Int) (hst : bs.length = strd K W (wideM M)) (hbc : bs.length ≤ c1) (hn : n < bs.length) (hro : 0 ≤ rows ∧ rows ≤ 100000) (c : Int) (hc0 : 0 ≤ c) (hc1 : c ≤ 255) (h4 : K ≠ 4) (hm : ¬ ((n : Int) + 1) % ((wideM M : Nat) : Int) = 0) : Fn Tryz.prog 125 #[.pointer (some ⟨g, 0, none⟩), .int .u8 c] [blk g [.int .i64 K, .int .i64 (W : Int), .int .i64 H, .int .i64 M, .slice a1 bs.length c1, .int .i64 (n : Int), .int .i64 rows, .int .i64 last, .int .i64 e] 198, own 5 1 a1 c1 bs.length (u8s bs)] (fun v l => ∃ b' n' rows' last' e' out a3 c3, ((⟨b', n', rows', last', e'⟩ : RW), out) = putW K W H M ⟨bs, n, rows, last, e⟩ c ∧ v = .tuple #[.slice a3 out.length c3, .int .i64 last'] ∧ l = [blk g [.int .i64 K, .int .i64 (W : Int), .int .i64 H, .int .i64 M, .slice a1 b'.length c1, .int .i64 (n' : Int), .int .i64 rows', .int .i64 last', .int .i64 e'] 198, own 5 1 a1 c1 b'.length (u8s b'), own 92 1 a3 c3 out.length (pxs out)] ∧ (out = [] → a3 = none)) := by
  have hb := hR.bd
  have hch := chK_13 K
  have hw := wideM_or M
  have hsb := strd_bd (K := K) (W := W) hw (by omega) (by omega)
  have hqd : 0 ≤ ((n : Int) + 1) / ((wideM M : Nat) : Int) ∧ ((n : Int) + 1) / ((wideM M : Nat) : Int) ≤ (n : Int) + 1 := by rcases hw with e | e <;> rw [e] <;> omega
  refine Fn.intro (vs := [.pointer (some ⟨g, 0, none⟩), .int .u8 c]) Tryz.func125 rfl Tryz.ntmps125 rfl ?_
  refine Wp.seq ?_
  refine Wp.region ?_
  refine s_as rfl rfl ?_
  refine s_as rfl rfl ?_
  refine WpL.nil ?_
  refine Wp.seq ?_
  refine Wp.seq ?_
  refine Wp.region ?_
  refine s_mv rfl rfl ?_
  refine s_nc rfl rfl ?_
  refine s_fa (o2 := 7) rfl rfl rfl ?_
  refine s_ld rfl rfl (by rfl) ?_
  refine s_ne rfl rfl rfl ?_
  refine WpL.nil ?_
  refine Wp.condD rfl (fun h0 => ?_) (fun h0 => ?_)
  · refine Wp.seq ?_
    apply Wp.draw mixed [⟨12, _, []⟩, ⟨13, _, [0]⟩, ⟨14, _, [1]⟩, ⟨15, _, [2]⟩, ⟨4, _, []⟩, ⟨5, _, [3, 4, 0, 1, 2]⟩] rfl
    · refine AllObs.mk ?_ ?_
      · refine s_mv rfl rfl ?_
        exact obN rfl
      refine AllObs.mk ?_ ?_
      · refine s_nc rfl rfl ?_
        exact obN rfl
      refine AllObs.mk ?_ ?_
      · refine s_fa (o2 := 7) rfl rfl rfl ?_
        exact obN rfl
      refine AllObs.mk ?_ ?_
      · refine s_ld rfl rfl (by rfl) ?_
        exact obN rfl
      refine AllObs.mk ?_ ?_
      · refine s_as rfl rfl ?_
        exact obN rfl
      refine AllObs.mk ?_ ?_
      · refine s_as rfl rfl ?_
        exact obN rfl
      exact AllObs.nil
    · refine Wp.ret ?_
      apply RetQ.mk
      · exact (Res.two rfl rfl rfl)
      · exact ⟨bs, n, rows, last, e, [], none, 0, by unfold putW; dsimp only; rw [if_pos h0], rfl, rfl, fun _ => rfl⟩
      · exact (Ent.own_nil (T := 92) (s := 1) (Ent.refl _)).trans (Take.ent' (by repeat' constructor))
  · have hl0 : last = 0 := Classical.not_not.1 h0
    subst hl0
    refine Wp.skip ?_
    refine Wp.seq ?_
    apply Wp.drawGN (fB := []) mixed [(10, false)] (by kernel_rfl)
    apply GoR.segF [⟨0, 16, _, [], false⟩, ⟨1, 17, _, [0], false⟩, ⟨2, 18, _, [1], false⟩, ⟨3, 19, _, [2], false⟩, ⟨4, 20, _, [], false⟩, ⟨5, 21, _, [4], false⟩, ⟨6, 22, _, [5], false⟩, ⟨7, 23, _, [6], false⟩, ⟨8, 24, _, [], false⟩, ⟨9, 25, _, [0, 1, 2, 3, 4, 5, 6, 7, 8], false⟩] [] [0, 1, 2, 3, 4, 5, 6, 7, 8, 9] [] (.inr rfl) rfl rfl rfl (by kernel_rfl) rfl rfl rfl
    · refine AllF.cons rfl rfl rfl rfl ?_ ?_
      · refine s_mv rfl rfl ?_
        exact obN rfl
      refine AllF.cons rfl rfl rfl rfl ?_ ?_
      · refine s_nc rfl rfl ?_
        exact obN rfl
      refine AllF.cons rfl rfl rfl rfl ?_ ?_
      · refine s_fa (o2 := 4) rfl rfl rfl ?_
        exact obN rfl
      refine AllF.cons rfl rfl rfl rfl ?_ ?_
      · refine s_ld rfl rfl (by rfl) ?_
        exact obN rfl
      refine AllF.cons rfl rfl rfl rfl ?_ ?_
      · refine s_mv rfl rfl ?_
        exact obN rfl
      refine AllF.cons rfl rfl rfl rfl ?_ ?_
      · refine s_nc rfl rfl ?_
        exact obN rfl
      refine AllF.cons rfl rfl rfl rfl ?_ ?_
      · refine s_fa (o2 := 5) rfl rfl rfl ?_
        exact obN rfl
      refine AllF.cons rfl rfl rfl rfl ?_ ?_
      · refine s_ld rfl rfl (by rfl) ?_
        exact obN rfl
      refine AllF.cons rfl rfl rfl rfl ?_ ?_
      · refine s_mv rfl rfl ?_
        exact obN rfl
      refine AllF.cons rfl rfl rfl rfl ?_ ?_
      · refine s_ixa n rfl rfl rfl RdsL.own (by first | exact Take.ent' (by repeat' constructor) | (repeat (first | exact Ent.refl _ | refine Ent.drop ?_))) rfl (by omega) (by rw [u8s_len]; omega) ?_
        exact obN rfl
      exact AllF.nil
    · refine s_sto rfl rfl rfl (by repeat' constructor) (by rw [u8s_len]; omega) ?_
      refine WpL.nil ⟨rfl, rfl, ?_⟩
      apply GoR.nil [] (.inr rfl) rfl rfl
      · exact AllF.nil
      · refine Wp.slots (gr := [(0, _)]) (FrLe.cons rfl FrLe.nil) ?_
        refine Wp.seq ?_
        refine Wp.region ?_
        rw [u8s_set]
        obtain ⟨b2, hb2⟩ : ∃ b2, b2 = bs.set n c := ⟨_, rfl⟩
        have hb2l : b2.length = bs.length := by rw [hb2, List.length_set]
        have hb2s : ∀ x ∈ b2, 0 ≤ x ∧ x ≤ 255 := by rw [hb2]; exact set_bd hbs hc0 hc1
        rw [← hb2, ← hb2l]
        refine s_mv rfl rfl ?_
        refine s_nc rfl rfl ?_
        refine s_fa (o2 := 5) rfl rfl rfl ?_
        refine s_ld rfl rfl (by rfl) ?_
        first | refine s_add rfl rfl rfl (w_i64 (by omega) (by omega)) ?_ | refine s_addw rfl rfl rfl ?_
        refine s_nc rfl rfl ?_
        refine s_fa (o2 := 5) rfl rfl rfl ?_
        refine s_st rfl rfl rfl ?_
        refine WpL.nil ?_
        refine Wp.seq ?_
        refine Wp.seq ?_
        refine Wp.region ?_
        refine s_mv rfl rfl ?_
        refine s_nc rfl rfl ?_
        refine s_fa (o2 := 0) rfl rfl rfl ?_
        refine s_lda (vs := [_, _, _, _]) rfl rfl rfl (by rfl) ?_
        refine s_callf rfl rfl (by repeat' constructor) (wide_spec _ _ _ _) ?_
        rintro _ _ ⟨rfl, rfl⟩
        simp only [napp]
        refine s_as rfl rfl ?_
        refine WpL.nil ?_
        refine Wp.slots (gr := [(0, _), (6, _)]) (FrLe.cons rfl (FrLe.cons rfl FrLe.nil)) ?_
        refine Wp.seq ?_
        apply Wp.draw mixed [⟨38, _, []⟩, ⟨39, _, [0]⟩, ⟨40, _, [1]⟩, ⟨41, _, [2]⟩, ⟨42, _, [3]⟩, ⟨43, _, [4]⟩, ⟨44, _, [5]⟩, ⟨45, _, [6]⟩, ⟨46, _, [7, 6]⟩, ⟨47, _, [8, 6]⟩, ⟨48, _, [9, 6]⟩, ⟨49, _, [6]⟩, ⟨50, _, [10, 11, 6]⟩, ⟨51, _, [12, 6]⟩, ⟨52, _, [6, 13]⟩, ⟨53, _, [14, 6]⟩, ⟨54, _, [15]⟩, ⟨55, _, [15]⟩, ⟨56, _, [17, 15]⟩, ⟨57, _, [18, 15]⟩, ⟨58, _, [19, 15]⟩, ⟨59, _, [15]⟩, ⟨60, _, [20, 21, 15]⟩, ⟨61, _, [22, 15]⟩, ⟨62, _, [16, 23, 15]⟩, ⟨63, _, [15]⟩, ⟨64, _, [25, 15]⟩, ⟨65, _, [26, 15]⟩, ⟨66, _, [27, 15]⟩, ⟨67, _, [28, 15]⟩, ⟨68, _, [24, 29, 15]⟩, ⟨69, _, [15, 30]⟩] rfl
        · refine AllObs.mk ?_ ?_
          · refine s_mv rfl rfl ?_
            exact obN rfl
          refine AllObs.mk ?_ ?_
          · refine s_nc rfl rfl ?_
            exact obN rfl
          refine AllObs.mk ?_ ?_
          · refine s_fa (o2 := 0) rfl rfl rfl ?_
            exact obN rfl
          refine AllObs.mk ?_ ?_
          · refine s_fa (o2 := 0) rfl rfl rfl ?_
            exact obN rfl
          refine AllObs.mk ?_ ?_
          · refine s_ld rfl rfl (by rfl) ?_
            exact obN rfl
          refine AllObs.mk ?_ ?_
          · refine s_ne rfl rfl rfl ?_
            exact obN rfl
          refine AllObs.mk ?_ ?_
          · refine s_mv rfl rfl ?_
            exact obN rfl
          refine AllObs.mk ?_ ?_
          · refine WpL.knowT (dj := 44) rfl (decide_eq_true h4) ?_
            refine WpL.gon rfl rfl ?_
            refine s_mv rfl rfl ?_
            exact obN rfl
          refine AllObs.mk ?_ ?_
          · refine WpL.knowT (dj := 44) rfl (decide_eq_true h4) ?_
            refine WpL.gon rfl rfl ?_
            refine s_nc rfl rfl ?_
            exact obN rfl
          refine AllObs.mk ?_ ?_
          · refine WpL.knowT (dj := 44) rfl (decide_eq_true h4) ?_
            refine WpL.gon rfl rfl ?_
            refine s_fa (o2 := 5) rfl rfl rfl ?_
            exact obN rfl
          refine AllObs.mk ?_ ?_
          · refine WpL.knowT (dj := 44) rfl (decide_eq_true h4) ?_
            refine WpL.gon rfl rfl ?_
            refine s_ld rfl rfl (by rfl) ?_
            exact obN rfl
          refine AllObs.mk ?_ ?_
          · refine WpL.knowT (dj := 44) rfl (decide_eq_true h4) ?_
            refine WpL.gon rfl rfl ?_
            refine s_mv rfl rfl ?_
            exact obN rfl
          refine AllObs.mk ?_ ?_
          · refine WpL.knowT (dj := 44) rfl (decide_eq_true h4) ?_
            refine WpL.gon rfl rfl ?_
            refine s_rem rfl rfl rfl (by omega) (by omega) ?_
            exact obN rfl
          refine AllObs.mk ?_ ?_
          · refine WpL.knowT (dj := 44) rfl (decide_eq_true h4) ?_
            refine WpL.gon rfl rfl ?_
            refine s_eq rfl rfl rfl ?_
            exact obN rfl
          refine AllObs.mk ?_ ?_
          · refine WpL.knowT (dj := 44) rfl (decide_eq_true h4) ?_
            refine s_pickT rfl rfl rfl ?_
            exact obN rfl
          refine AllObs.mk ?_ ?_
          · refine s_mv rfl rfl ?_
            exact obN rfl
          refine AllObs.mk ?_ ?_
          · refine WpL.knowF (dj := 53) rfl (decide_eq_false hm) ?_
            refine WpL.goff rfl rfl rfl (by decide) ?_
            exact obN rfl
          refine AllObs.mk ?_ ?_
          · refine WpL.knowF (dj := 53) rfl (decide_eq_false hm) ?_
            refine WpL.goff rfl rfl rfl (by decide) ?_
            exact obN rfl
          refine AllObs.mk ?_ ?_
          · refine WpL.knowF (dj := 53) rfl (decide_eq_false hm) ?_
            refine WpL.goff rfl rfl rfl (by decide) ?_
            exact obN rfl
          refine AllObs.mk ?_ ?_
          · refine WpL.knowF (dj := 53) rfl (decide_eq_false hm) ?_
            refine WpL.goff rfl rfl rfl (by decide) ?_
            exact obN rfl
          refine AllObs.mk ?_ ?_
          · refine WpL.knowF (dj := 53) rfl (decide_eq_false hm) ?_
            refine WpL.goff rfl rfl rfl (by decide) ?_
            exact obN rfl
          refine AllObs.mk ?_ ?_
          · refine WpL.knowF (dj := 53) rfl (decide_eq_false hm) ?_
            refine WpL.goff rfl rfl rfl (by decide) ?_
            exact obN rfl
          refine AllObs.mk ?_ ?_
          · refine WpL.knowF (dj := 53) rfl (decide_eq_false hm) ?_
            refine WpL.goff rfl rfl rfl (by decide) ?_
            exact obN rfl
          refine AllObs.mk ?_ ?_
          · refine WpL.knowF (dj := 53) rfl (decide_eq_false hm) ?_
            refine WpL.goff rfl rfl rfl (by decide) ?_
            exact obN rfl
          refine AllObs.mk ?_ ?_
          · refine WpL.knowF (dj := 53) rfl (decide_eq_false hm) ?_
            refine WpL.goff rfl rfl rfl (by decide) ?_
            exact WpL.nil ⟨rfl, rfl, rfl, by first | exact Ent.refl _ | exact Ent.nil _ | exact Take.ent' (by repeat' constructor) | (repeat (first | exact Ent.refl _ | refine Ent.drop ?_))⟩
          refine AllObs.mk ?_ ?_
          · refine WpL.knowF (dj := 53) rfl (decide_eq_false hm) ?_
            refine WpL.goff rfl rfl rfl (by decide) ?_
            exact obN rfl
          refine AllObs.mk ?_ ?_
          · refine WpL.knowF (dj := 53) rfl (decide_eq_false hm) ?_
            refine WpL.goff rfl rfl rfl (by decide) ?_
            exact obN rfl
          refine AllObs.mk ?_ ?_
          · refine WpL.knowF (dj := 53) rfl (decide_eq_false hm) ?_
            refine WpL.goff rfl rfl rfl (by decide) ?_
            exact obN rfl
          refine AllObs.mk ?_ ?_
          · refine WpL.knowF (dj := 53) rfl (decide_eq_false hm) ?_
            refine WpL.goff rfl rfl rfl (by decide) ?_
            exact obN rfl
          refine AllObs.mk ?_ ?_
          · refine WpL.knowF (dj := 53) rfl (decide_eq_false hm) ?_
            refine WpL.goff rfl rfl rfl (by decide) ?_
            exact obN rfl
          refine AllObs.mk ?_ ?_
          · refine WpL.knowF (dj := 53) rfl (decide_eq_false hm) ?_
            refine WpL.goff rfl rfl rfl (by decide) ?_
            exact obN rfl
          refine AllObs.mk ?_ ?_
          · refine WpL.knowF (dj := 53) rfl (decide_eq_false hm) ?_
            refine s_pickF rfl rfl rfl ?_
            exact obN rfl
          exact AllObs.nil
        · refine Wp.slots (gr := [(0, _), (69, _)]) (FrLe.cons rfl (FrLe.cons rfl FrLe.nil)) ?_
          refine Wp.condF rfl ?_
          refine Wp.skip ?_
          refine Wp.seq ?_
          refine Wp.seq ?_
          apply Wp.draw mixed [⟨80, _, []⟩, ⟨81, _, [0]⟩, ⟨82, _, [1]⟩, ⟨83, _, [2]⟩, ⟨84, _, []⟩, ⟨85, _, [4]⟩, ⟨86, _, [5]⟩, ⟨87, _, [6]⟩, ⟨88, _, [7]⟩, ⟨89, _, [3, 8]⟩] rfl
          · refine AllObs.mk ?_ ?_
            · refine s_mv rfl rfl ?_
              exact obN rfl
            refine AllObs.mk ?_ ?_
            · refine s_nc rfl rfl ?_
              exact obN rfl
            refine AllObs.mk ?_ ?_
            · refine s_fa (o2 := 5) rfl rfl rfl ?_
              exact obN rfl
            refine AllObs.mk ?_ ?_
            · refine s_ld rfl rfl (by rfl) ?_
              exact obN rfl
            refine AllObs.mk ?_ ?_
            · refine s_mv rfl rfl ?_
              exact obN rfl
            refine AllObs.mk ?_ ?_
            · refine s_nc rfl rfl ?_
              exact obN rfl
            refine AllObs.mk ?_ ?_
            · refine s_fa (o2 := 4) rfl rfl rfl ?_
              exact obN rfl
            refine AllObs.mk ?_ ?_
            · refine s_ld rfl rfl (by rfl) ?_
              exact obN rfl
            refine AllObs.mk ?_ ?_
            · refine s_lenl rfl rfl ?_
              exact WpL.nil ⟨rfl, rfl, rfl, by first | exact Ent.refl _ | exact Ent.nil _ | exact Take.ent' (by repeat' constructor) | (repeat (first | exact Ent.refl _ | refine Ent.drop ?_))⟩
            refine AllObs.mk ?_ ?_
            · refine s_lt rfl rfl rfl ?_
              exact obN rfl
            exact AllObs.nil
          · refine Wp.slots (gr := [(0, _), (89, _)]) (FrLe.cons rfl (FrLe.cons rfl FrLe.nil)) ?_
            refine Wp.condD rfl (fun h2 => ?_) (fun h2 => ?_)
            · refine Wp.seq ?_
              refine Wp.region ?_
              refine s_as rfl rfl ?_
              refine s_as rfl rfl ?_
              refine WpL.nil ?_
              refine Wp.ret ?_
              rw [show (n : Int) + 1 = ((n + 1 : Nat) : Int) from rfl]
              apply RetQ.mk
              · exact (Res.two rfl rfl rfl)
              · exact ⟨b2, n + 1, rows, 0, e, [], none, 0, by subst hb2; unfold putW; dsimp only; rw [if_neg (show ¬ (0 : Int) ≠ 0 by omega), if_neg (fun h => hm (by have := h.2.1; rcases hw with e | e <;> rw [e] at this ⊢ <;> omega)), if_pos (by have := hb2l; omega)], rfl, rfl, fun _ => rfl⟩
              · exact (Ent.own_nil (T := 92) (s := 1) (Ent.refl _)).trans (Take.ent' (by repeat' constructor))
            · have hlen : ¬ n + 1 < bs.length := by omega
              refine Wp.skip ?_
              refine Wp.seq ?_
              refine Wp.region ?_
              refine s_mv rfl rfl ?_
              refine s_nc rfl rfl ?_
              refine s_fa (o2 := 5) rfl rfl rfl ?_
              refine s_st rfl rfl rfl ?_
              refine WpL.nil ?_
              refine Wp.seq ?_
              refine Wp.region ?_
              refine s_mv rfl rfl ?_
              refine s_nc rfl rfl ?_
              refine s_fa (o2 := 6) rfl rfl rfl ?_
              refine s_ld rfl rfl (by rfl) ?_
              first | refine s_add rfl rfl rfl (w_i64 (by omega) (by omega)) ?_ | refine s_addw rfl rfl rfl ?_
              refine s_nc rfl rfl ?_
              refine s_fa (o2 := 6) rfl rfl rfl ?_
              refine s_st rfl rfl rfl ?_
              refine WpL.nil ?_
              refine Wp.slots (gr := [(0, _)]) (FrLe.cons rfl FrLe.nil) ?_
              refine Wp.seq ?_
              refine Wp.seq ?_
              apply Wp.draw mixed [⟨100, _, []⟩, ⟨101, _, [0]⟩, ⟨102, _, [1]⟩, ⟨103, _, [2]⟩, ⟨104, _, []⟩, ⟨105, _, [4]⟩, ⟨106, _, [5]⟩, ⟨107, _, [6]⟩, ⟨108, _, [7]⟩, ⟨109, _, [3, 8]⟩] rfl
              · refine AllObs.mk ?_ ?_
                · refine s_mv rfl rfl ?_
                  exact obN rfl
                refine AllObs.mk ?_ ?_
                · refine s_nc rfl rfl ?_
                  exact obN rfl
                refine AllObs.mk ?_ ?_
                · refine s_fa (o2 := 6) rfl rfl rfl ?_
                  exact obN rfl
                refine AllObs.mk ?_ ?_
                · refine s_ld rfl rfl (by rfl) ?_
                  exact obN rfl
                refine AllObs.mk ?_ ?_
                · refine s_mv rfl rfl ?_
                  exact obN rfl
                refine AllObs.mk ?_ ?_
                · refine s_nc rfl rfl ?_
                  exact obN rfl
                refine AllObs.mk ?_ ?_
                · refine s_fa (o2 := 0) rfl rfl rfl ?_
                  exact obN rfl
                refine AllObs.mk ?_ ?_
                · refine s_fa (o2 := 2) rfl rfl rfl ?_
                  exact obN rfl
                refine AllObs.mk ?_ ?_
                · refine s_ld rfl rfl (by rfl) ?_
                  exact obN rfl
                refine AllObs.mk ?_ ?_
                · refine s_eq rfl rfl rfl ?_
                  exact obN rfl
                exact AllObs.nil
              · refine Wp.slots (gr := [(0, _), (109, _)]) (FrLe.cons rfl (FrLe.cons rfl FrLe.nil)) ?_
                refine Wp.condD rfl (fun h3 => ?_) (fun h3 => ?_)
                · refine Wp.region ?_
                  refine s_mv rfl rfl ?_
                  refine s_nc rfl rfl ?_
                  refine s_fa (o2 := 7) rfl rfl rfl ?_
                  refine s_st rfl rfl rfl ?_
                  refine WpL.nil ?_
                  refine Wp.seq ?_
                  apply Wp.drawP (fB := [blk g [.int .i64 K, .int .i64 (W : Int), .int .i64 H, .int .i64 M, .slice a1 b2.length c1, .int .i64 0, .int .i64 (rows + 1), .int .i64 1, .int .i64 e] 198]) [0, 2, 3, 4, 5, 1, 6, 7] [113, 115, 116, 117, 118, 114, 4, 5] 8 mixed (by kernel_rfl) [(5, false)] (by kernel_rfl) (by kernel_rfl) (by kernel_rfl)
                  apply GoR.segFP [⟨0, 113, _, [], false⟩, ⟨1, 115, _, [], true⟩, ⟨2, 116, _, [1], true⟩, ⟨3, 117, _, [2], true⟩, ⟨4, 118, _, [3], true⟩] [] [0] [4, 5] [4, 5, 115, 116, 117, 118] (.inl ⟨_, by repeat' constructor⟩) rfl rfl rfl (by kernel_rfl) rfl (by kernel_rfl) rfl rfl
                  · refine AllF.consP 0 [] rfl rfl rfl rfl (by kernel_rfl) rfl ?_ ?_
                    · refine s_mv rfl rfl ?_
                      exact obN rfl
                    refine AllF.consPR 1 [] rfl rfl rfl rfl (by kernel_rfl) rfl ?_ ?_
                    · refine s_mv rfl rfl ?_
                      exact obN rfl
                    refine AllF.consPR 2 [1] rfl rfl rfl rfl (by kernel_rfl) rfl ?_ ?_
                    · refine s_nc rfl rfl ?_
                      exact obN rfl
                    refine AllF.consPR 3 [2] rfl rfl rfl rfl (by kernel_rfl) rfl ?_ ?_
                    · refine s_fa (o2 := 7) rfl rfl rfl ?_
                      exact obN rfl
                    refine AllF.consPR 4 [3] rfl rfl rfl rfl (by kernel_rfl) rfl ?_ ?_
                    · refine s_ld rfl rfl (by rfl) ?_
                      exact obN rfl
                    exact AllF.nil
                  · refine s_callf rfl rfl (by repeat' constructor) (RawRow_spec _ _ _ _ hR _ _ _ _ hb2s (by omega) _ _ _ _ (by rw [hb2l]; exact hst) (by rw [hb2l]; exact hbc)) ?_
                    rintro _ _ ⟨a3, c3, rfl, rfl⟩
                    simp only [napp]
                    refine WpL.nil ⟨rfl, rfl, ?_⟩
                    apply GoR.nilP [⟨6, 4, _, [0, 5], false⟩, ⟨7, 5, _, [0, 1, 2, 3, 4, 5, 6], false⟩] 8 (by kernel_rfl) (.inl ⟨_, by repeat' constructor⟩) rfl rfl
                    · refine AllF.consP 6 [0, 5] rfl rfl rfl rfl (by kernel_rfl) rfl ?_ ?_
                      · refine s_as rfl rfl ?_
                        exact obN rfl
                      refine AllF.consP 7 [0, 1, 2, 3, 4, 5, 6] rfl rfl rfl rfl (by kernel_rfl) rfl ?_ ?_
                      · refine s_as rfl rfl ?_
                        exact obN rfl
                      exact AllF.nil
                    · refine Wp.ret ?_
                      apply RetQ.mk
                      · exact (Res.two rfl rfl rfl)
                      · have hrl := rowD_len (K := K) (W := W) hw (hb2l.trans hst)
                        exact ⟨b2, 0, (rows + 1), 1, e, (rowD K W (wideM M) b2), a3, c3, by subst hb2; unfold putW; dsimp only; rw [if_neg (show ¬ (0 : Int) ≠ 0 by omega), if_neg (fun h => hm (by have := h.2.1; rcases hw with e | e <;> rw [e] at this ⊢ <;> omega)), if_neg (by omega), if_pos (by omega)], by rw [hrl], by rw [hrl], fun hr => (by rw [hr] at hrl; simp at hrl; omega)⟩
                      · first | exact Ent.refl _ | exact Ent.nil _ | exact Take.ent' (by repeat' constructor) | (repeat (first | exact Ent.refl _ | refine Ent.drop ?_))
                · refine Wp.skip ?_
                  refine Wp.seq ?_
                  apply Wp.drawP (fB := [blk g [.int .i64 K, .int .i64 (W : Int), .int .i64 H, .int .i64 M, .slice a1 b2.length c1, .int .i64 0, .int .i64 (rows + 1), .int .i64 0, .int .i64 e] 198]) [0, 2, 3, 4, 5, 1, 6, 7] [113, 115, 116, 117, 118, 114, 4, 5] 8 mixed (by kernel_rfl) [(5, false)] (by kernel_rfl) (by kernel_rfl) (by kernel_rfl)
                  apply GoR.segFP [⟨0, 113, _, [], false⟩, ⟨1, 115, _, [], true⟩, ⟨2, 116, _, [1], true⟩, ⟨3, 117, _, [2], true⟩, ⟨4, 118, _, [3], true⟩] [] [0] [4, 5] [4, 5, 115, 116, 117, 118] (.inl ⟨_, by repeat' constructor⟩) rfl rfl rfl (by kernel_rfl) rfl (by kernel_rfl) rfl rfl
                  · refine AllF.consP 0 [] rfl rfl rfl rfl (by kernel_rfl) rfl ?_ ?_
                    · refine s_mv rfl rfl ?_
                      exact obN rfl
                    refine AllF.consPR 1 [] rfl rfl rfl rfl (by kernel_rfl) rfl ?_ ?_
                    · refine s_mv rfl rfl ?_
                      exact obN rfl
                    refine AllF.consPR 2 [1] rfl rfl rfl rfl (by kernel_rfl) rfl ?_ ?_
                    · refine s_nc rfl rfl ?_
                      exact obN rfl
                    refine AllF.consPR 3 [2] rfl rfl rfl rfl (by kernel_rfl) rfl ?_ ?_
                    · refine s_fa (o2 := 7) rfl rfl rfl ?_
                      exact obN rfl
                    refine AllF.consPR 4 [3] rfl rfl rfl rfl (by kernel_rfl) rfl ?_ ?_
                    · refine s_ld rfl rfl (by rfl) ?_
                      exact obN rfl
                    exact AllF.nil
                  · refine s_callf rfl rfl (by repeat' constructor) (RawRow_spec _ _ _ _ hR _ _ _ _ hb2s (by omega) _ _ _ _ (by rw [hb2l]; exact hst) (by rw [hb2l]; exact hbc)) ?_
                    rintro _ _ ⟨a3, c3, rfl, rfl⟩
                    simp only [napp]
                    refine WpL.nil ⟨rfl, rfl, ?_⟩
                    apply GoR.nilP [⟨6, 4, _, [0, 5], false⟩, ⟨7, 5, _, [0, 1, 2, 3, 4, 5, 6], false⟩] 8 (by kernel_rfl) (.inl ⟨_, by repeat' constructor⟩) rfl rfl
                    · refine AllF.consP 6 [0, 5] rfl rfl rfl rfl (by kernel_rfl) rfl ?_ ?_
                      · refine s_as rfl rfl ?_
                        exact obN rfl
                      refine AllF.consP 7 [0, 1, 2, 3, 4, 5, 6] rfl rfl rfl rfl (by kernel_rfl) rfl ?_ ?_
                      · refine s_as rfl rfl ?_
                        exact obN rfl
                      exact AllF.nil
                    · refine Wp.ret ?_
                      apply RetQ.mk
                      · exact (Res.two rfl rfl rfl)
                      · have hrl := rowD_len (K := K) (W := W) hw (hb2l.trans hst)
                        exact ⟨b2, 0, (rows + 1), 0, e, (rowD K W (wideM M) b2), a3, c3, by subst hb2; unfold putW; dsimp only; rw [if_neg (show ¬ (0 : Int) ≠ 0 by omega), if_neg (fun h => hm (by have := h.2.1; rcases hw with e | e <;> rw [e] at this ⊢ <;> omega)), if_neg (by omega), if_neg (by omega)], by rw [hrl], by rw [hrl], fun hr => (by rw [hr] at hrl; simp at hrl; omega)⟩
                      · first | exact Ent.refl _ | exact Ent.nil _ | exact Take.ent' (by repeat' constructor) | (repeat (first | exact Ent.refl _ | refine Ent.drop ?_))

set_option maxHeartbeats 1000000 in
theorem RawPut_c (K : Int) (W : Nat) (H M : Int) (hR : RawH K (W : Int) H M) (g : Nat) (a1 : Option Addr) (c1 : Nat) (bs : List Int) (hbs : ∀ x ∈ bs, 0 ≤ x ∧ x ≤ 255) (hbl : bs.length ≤ 100000) (n : Nat) (rows last e : Int) (hst : bs.length = strd K W (wideM M)) (hbc : bs.length ≤ c1) (hn : n < bs.length) (hro : 0 ≤ rows ∧ rows ≤ 100000) (c : Int) (hc0 : 0 ≤ c) (hc1 : c ≤ 255) (h4 : K ≠ 4) (hm : ((n : Int) + 1) % ((wideM M : Nat) : Int) = 0) : Fn Tryz.prog 125 #[.pointer (some ⟨g, 0, none⟩), .int .u8 c] [blk g [.int .i64 K, .int .i64 (W : Int), .int .i64 H, .int .i64 M, .slice a1 bs.length c1, .int .i64 (n : Int), .int .i64 rows, .int .i64 last, .int .i64 e] 198, own 5 1 a1 c1 bs.length (u8s bs)] (fun v l => ∃ b' n' rows' last' e' out a3 c3, ((⟨b', n', rows', last', e'⟩ : RW), out) = putW K W H M ⟨bs, n, rows, last, e⟩ c ∧ v = .tuple #[.slice a3 out.length c3, .int .i64 last'] ∧ l = [blk g [.int .i64 K, .int .i64 (W : Int), .int .i64 H, .int .i64 M, .slice a1 b'.length c1, .int .i64 (n' : Int), .int .i64 rows', .int .i64 last', .int .i64 e'] 198, own 5 1 a1 c1 b'.length (u8s b'), own 92 1 a3 c3 out.length (pxs out)] ∧ (out = [] → a3 = none)) := by
  have hb := hR.bd
  have hch := chK_13 K
  have hw := wideM_or M
  have hsb := strd_bd (K := K) (W := W) hw (by omega) (by omega)
  have hqd : 0 ≤ ((n : Int) + 1) / ((wideM M : Nat) : Int) ∧ ((n : Int) + 1) / ((wideM M : Nat) : Int) ≤ (n : Int) + 1 := by rcases hw with e | e <;> rw [e] <;> omega
  have hI : ((n : Int) + 1) / ((wideM M : Nat) : Int) - 1 = (((n + 1) / wideM M - 1 : Nat) : Int) := by rcases hw with e | e <;> rw [e] at hm ⊢ <;> omega
  have hIw : ((n + 1) / wideM M - 1 + 1) * wideM M ≤ bs.length := by rcases hw with e | e <;> rw [e] at hm ⊢ <;> omega
  have hmN : (n + 1) % wideM M = 0 := by rcases hw with e | e <;> rw [e] at hm ⊢ <;> omega
  refine Fn.intro (vs := [.pointer (some ⟨g, 0, none⟩), .int .u8 c]) Tryz.func125 rfl Tryz.ntmps125 rfl ?_
  refine Wp.seq ?_
  refine Wp.region ?_
  refine s_as rfl rfl ?_
  refine s_as rfl rfl ?_
  refine WpL.nil ?_
  refine Wp.seq ?_
  refine Wp.seq ?_
  refine Wp.region ?_
  refine s_mv rfl rfl ?_
  refine s_nc rfl rfl ?_
  refine s_fa (o2 := 7) rfl rfl rfl ?_
  refine s_ld rfl rfl (by rfl) ?_
  refine s_ne rfl rfl rfl ?_
  refine WpL.nil ?_
  refine Wp.condD rfl (fun h0 => ?_) (fun h0 => ?_)
  · refine Wp.seq ?_
    apply Wp.draw mixed [⟨12, _, []⟩, ⟨13, _, [0]⟩, ⟨14, _, [1]⟩, ⟨15, _, [2]⟩, ⟨4, _, []⟩, ⟨5, _, [3, 4, 0, 1, 2]⟩] rfl
    · refine AllObs.mk ?_ ?_
      · refine s_mv rfl rfl ?_
        exact obN rfl
      refine AllObs.mk ?_ ?_
      · refine s_nc rfl rfl ?_
        exact obN rfl
      refine AllObs.mk ?_ ?_
      · refine s_fa (o2 := 7) rfl rfl rfl ?_
        exact obN rfl
      refine AllObs.mk ?_ ?_
      · refine s_ld rfl rfl (by rfl) ?_
        exact obN rfl
      refine AllObs.mk ?_ ?_
      · refine s_as rfl rfl ?_
        exact obN rfl
      refine AllObs.mk ?_ ?_
      · refine s_as rfl rfl ?_
        exact obN rfl
      exact AllObs.nil
    · refine Wp.ret ?_
      apply RetQ.mk
      · exact (Res.two rfl rfl rfl)
      · exact ⟨bs, n, rows, last, e, [], none, 0, by unfold putW; dsimp only; rw [if_pos h0], rfl, rfl, fun _ => rfl⟩
      · exact (Ent.own_nil (T := 92) (s := 1) (Ent.refl _)).trans (Take.ent' (by repeat' constructor))
  · have hl0 : last = 0 := Classical.not_not.1 h0
    subst hl0
    refine Wp.skip ?_
    refine Wp.seq ?_
    apply Wp.drawGN (fB := []) mixed [(10, false)] (by kernel_rfl)
    apply GoR.segF [⟨0, 16, _, [], false⟩, ⟨1, 17, _, [0], false⟩, ⟨2, 18, _, [1], false⟩, ⟨3, 19, _, [2], false⟩, ⟨4, 20, _, [], false⟩, ⟨5, 21, _, [4], false⟩, ⟨6, 22, _, [5], false⟩, ⟨7, 23, _, [6], false⟩, ⟨8, 24, _, [], false⟩, ⟨9, 25, _, [0, 1, 2, 3, 4, 5, 6, 7, 8], false⟩] [] [0, 1, 2, 3, 4, 5, 6, 7, 8, 9] [] (.inr rfl) rfl rfl rfl (by kernel_rfl) rfl rfl rfl
    · refine AllF.cons rfl rfl rfl rfl ?_ ?_
      · refine s_mv rfl rfl ?_
        exact obN rfl
      refine AllF.cons rfl rfl rfl rfl ?_ ?_
      · refine s_nc rfl rfl ?_
        exact obN rfl
      refine AllF.cons rfl rfl rfl rfl ?_ ?_
      · refine s_fa (o2 := 4) rfl rfl rfl ?_
        exact obN rfl
      refine AllF.cons rfl rfl rfl rfl ?_ ?_
      · refine s_ld rfl rfl (by rfl) ?_
        exact obN rfl
      refine AllF.cons rfl rfl rfl rfl ?_ ?_
      · refine s_mv rfl rfl ?_
        exact obN rfl
      refine AllF.cons rfl rfl rfl rfl ?_ ?_
      · refine s_nc rfl rfl ?_
        exact obN rfl
      refine AllF.cons rfl rfl rfl rfl ?_ ?_
      · refine s_fa (o2 := 5) rfl rfl rfl ?_
        exact obN rfl
      refine AllF.cons rfl rfl rfl rfl ?_ ?_
      · refine s_ld rfl rfl (by rfl) ?_
        exact obN rfl
      refine AllF.cons rfl rfl rfl rfl ?_ ?_
      · refine s_mv rfl rfl ?_
        exact obN rfl
      refine AllF.cons rfl rfl rfl rfl ?_ ?_
      · refine s_ixa n rfl rfl rfl RdsL.own (by first | exact Take.ent' (by repeat' constructor) | (repeat (first | exact Ent.refl _ | refine Ent.drop ?_))) rfl (by omega) (by rw [u8s_len]; omega) ?_
        exact obN rfl
      exact AllF.nil
    · refine s_sto rfl rfl rfl (by repeat' constructor) (by rw [u8s_len]; omega) ?_
      refine WpL.nil ⟨rfl, rfl, ?_⟩
      apply GoR.nil [] (.inr rfl) rfl rfl
      · exact AllF.nil
      · refine Wp.slots (gr := [(0, _)]) (FrLe.cons rfl FrLe.nil) ?_
        refine Wp.seq ?_
        refine Wp.region ?_
        rw [u8s_set]
        obtain ⟨b2, hb2⟩ : ∃ b2, b2 = bs.set n c := ⟨_, rfl⟩
        have hb2l : b2.length = bs.length := by rw [hb2, List.length_set]
        have hb2s : ∀ x ∈ b2, 0 ≤ x ∧ x ≤ 255 := by rw [hb2]; exact set_bd hbs hc0 hc1
        rw [← hb2, ← hb2l]
        refine s_mv rfl rfl ?_
        refine s_nc rfl rfl ?_
        refine s_fa (o2 := 5) rfl rfl rfl ?_
        refine s_ld rfl rfl (by rfl) ?_
        first | refine s_add rfl rfl rfl (w_i64 (by omega) (by omega)) ?_ | refine s_addw rfl rfl rfl ?_
        refine s_nc rfl rfl ?_
        refine s_fa (o2 := 5) rfl rfl rfl ?_
        refine s_st rfl rfl rfl ?_
        refine WpL.nil ?_
        refine Wp.seq ?_
        refine Wp.seq ?_
        refine Wp.region ?_
        refine s_mv rfl rfl ?_
        refine s_nc rfl rfl ?_
        refine s_fa (o2 := 0) rfl rfl rfl ?_
        refine s_lda (vs := [_, _, _, _]) rfl rfl rfl (by rfl) ?_
        refine s_callf rfl rfl (by repeat' constructor) (wide_spec _ _ _ _) ?_
        rintro _ _ ⟨rfl, rfl⟩
        simp only [napp]
        refine s_as rfl rfl ?_
        refine WpL.nil ?_
        refine Wp.slots (gr := [(0, _), (6, _)]) (FrLe.cons rfl (FrLe.cons rfl FrLe.nil)) ?_
        refine Wp.seq ?_
        apply Wp.draw mixed [⟨38, _, []⟩, ⟨39, _, [0]⟩, ⟨40, _, [1]⟩, ⟨41, _, [2]⟩, ⟨42, _, [3]⟩, ⟨43, _, [4]⟩, ⟨44, _, [5]⟩, ⟨45, _, [6]⟩, ⟨46, _, [7, 6]⟩, ⟨47, _, [8, 6]⟩, ⟨48, _, [9, 6]⟩, ⟨49, _, [6]⟩, ⟨50, _, [10, 11, 6]⟩, ⟨51, _, [12, 6]⟩, ⟨52, _, [6, 13]⟩, ⟨53, _, [14, 6]⟩, ⟨54, _, [15]⟩, ⟨55, _, [15]⟩, ⟨56, _, [17, 15]⟩, ⟨57, _, [18, 15]⟩, ⟨58, _, [19, 15]⟩, ⟨59, _, [15]⟩, ⟨60, _, [20, 21, 15]⟩, ⟨61, _, [22, 15]⟩, ⟨62, _, [16, 23, 15]⟩, ⟨63, _, [15]⟩, ⟨64, _, [25, 15]⟩, ⟨65, _, [26, 15]⟩, ⟨66, _, [27, 15]⟩, ⟨67, _, [28, 15]⟩, ⟨68, _, [24, 29, 15]⟩, ⟨69, _, [15, 30]⟩] rfl
        · refine AllObs.mk ?_ ?_
          · refine s_mv rfl rfl ?_
            exact obN rfl
          refine AllObs.mk ?_ ?_
          · refine s_nc rfl rfl ?_
            exact obN rfl
          refine AllObs.mk ?_ ?_
          · refine s_fa (o2 := 0) rfl rfl rfl ?_
            exact obN rfl
          refine AllObs.mk ?_ ?_
          · refine s_fa (o2 := 0) rfl rfl rfl ?_
            exact obN rfl
          refine AllObs.mk ?_ ?_
          · refine s_ld rfl rfl (by rfl) ?_
            exact obN rfl
          refine AllObs.mk ?_ ?_
          · refine s_ne rfl rfl rfl ?_
            exact obN rfl
          refine AllObs.mk ?_ ?_
          · refine s_mv rfl rfl ?_
            exact obN rfl
          refine AllObs.mk ?_ ?_
          · refine WpL.knowT (dj := 44) rfl (decide_eq_true h4) ?_
            refine WpL.gon rfl rfl ?_
            refine s_mv rfl rfl ?_
            exact obN rfl
          refine AllObs.mk ?_ ?_
          · refine WpL.knowT (dj := 44) rfl (decide_eq_true h4) ?_
            refine WpL.gon rfl rfl ?_
            refine s_nc rfl rfl ?_
            exact obN rfl
          refine AllObs.mk ?_ ?_
          · refine WpL.knowT (dj := 44) rfl (decide_eq_true h4) ?_
            refine WpL.gon rfl rfl ?_
            refine s_fa (o2 := 5) rfl rfl rfl ?_
            exact obN rfl
          refine AllObs.mk ?_ ?_
          · refine WpL.knowT (dj := 44) rfl (decide_eq_true h4) ?_
            refine WpL.gon rfl rfl ?_
            refine s_ld rfl rfl (by rfl) ?_
            exact obN rfl
          refine AllObs.mk ?_ ?_
          · refine WpL.knowT (dj := 44) rfl (decide_eq_true h4) ?_
            refine WpL.gon rfl rfl ?_
            refine s_mv rfl rfl ?_
            exact obN rfl
          refine AllObs.mk ?_ ?_
          · refine WpL.knowT (dj := 44) rfl (decide_eq_true h4) ?_
            refine WpL.gon rfl rfl ?_
            refine s_rem rfl rfl rfl (by omega) (by omega) ?_
            exact obN rfl
          refine AllObs.mk ?_ ?_
          · refine WpL.knowT (dj := 44) rfl (decide_eq_true h4) ?_
            refine WpL.gon rfl rfl ?_
            refine s_eq rfl rfl rfl ?_
            exact obN rfl
          refine AllObs.mk ?_ ?_
          · refine WpL.knowT (dj := 44) rfl (decide_eq_true h4) ?_
            refine s_pickT rfl rfl rfl ?_
            exact obN rfl
          refine AllObs.mk ?_ ?_
          · refine s_mv rfl rfl ?_
            exact obN rfl
          refine AllObs.mk ?_ ?_
          · refine WpL.knowT (dj := 53) rfl (decide_eq_true hm) ?_
            refine WpL.gon rfl rfl ?_
            refine s_mv rfl rfl ?_
            exact obN rfl
          refine AllObs.mk ?_ ?_
          · refine WpL.knowT (dj := 53) rfl (decide_eq_true hm) ?_
            refine WpL.gon rfl rfl ?_
            refine s_mv rfl rfl ?_
            exact obN rfl
          refine AllObs.mk ?_ ?_
          · refine WpL.knowT (dj := 53) rfl (decide_eq_true hm) ?_
            refine WpL.gon rfl rfl ?_
            refine s_nc rfl rfl ?_
            exact obN rfl
          refine AllObs.mk ?_ ?_
          · refine WpL.knowT (dj := 53) rfl (decide_eq_true hm) ?_
            refine WpL.gon rfl rfl ?_
            refine s_fa (o2 := 5) rfl rfl rfl ?_
            exact obN rfl
          refine AllObs.mk ?_ ?_
          · refine WpL.knowT (dj := 53) rfl (decide_eq_true hm) ?_
            refine WpL.gon rfl rfl ?_
            refine s_ld rfl rfl (by rfl) ?_
            exact obN rfl
          refine AllObs.mk ?_ ?_
          · refine WpL.knowT (dj := 53) rfl (decide_eq_true hm) ?_
            refine WpL.gon rfl rfl ?_
            refine s_mv rfl rfl ?_
            exact obN rfl
          refine AllObs.mk ?_ ?_
          · refine WpL.knowT (dj := 53) rfl (decide_eq_true hm) ?_
            refine WpL.gon rfl rfl ?_
            refine s_quo rfl rfl rfl (by omega) (by omega) (w_i64 (by omega) (by omega)) ?_
            exact obN rfl
          refine AllObs.mk ?_ ?_
          · refine WpL.knowT (dj := 53) rfl (decide_eq_true hm) ?_
            refine WpL.gon rfl rfl ?_
            refine s_sub rfl rfl rfl (w_i64 (by omega) (by omega)) ?_
            rw [hI]
            exact obN rfl
          refine AllObs.mk ?_ ?_
          · refine WpL.knowT (dj := 53) rfl (decide_eq_true hm) ?_
            refine WpL.gon rfl rfl ?_
            refine s_callf rfl rfl (by repeat' constructor) (RawSample_spec _ _ _ _ hR _ _ _ _ hb2s (by omega) _ _ _ _ _ (by rw [hb2l]; exact hIw)) ?_
            rintro _ _ ⟨rfl, rfl⟩
            simp only [napp]
            exact WpL.nil ⟨rfl, rfl, rfl, by first | exact Ent.refl _ | exact Ent.nil _ | exact Take.ent' (by repeat' constructor) | (repeat (first | exact Ent.refl _ | refine Ent.drop ?_))⟩
          refine AllObs.mk ?_ ?_
          · refine WpL.knowT (dj := 53) rfl (decide_eq_true hm) ?_
            refine WpL.gon rfl rfl ?_
            refine s_mv rfl rfl ?_
            exact obN rfl
          refine AllObs.mk ?_ ?_
          · refine WpL.knowT (dj := 53) rfl (decide_eq_true hm) ?_
            refine WpL.gon rfl rfl ?_
            refine s_nc rfl rfl ?_
            exact obN rfl
          refine AllObs.mk ?_ ?_
          · refine WpL.knowT (dj := 53) rfl (decide_eq_true hm) ?_
            refine WpL.gon rfl rfl ?_
            refine s_fa (o2 := 0) rfl rfl rfl ?_
            exact obN rfl
          refine AllObs.mk ?_ ?_
          · refine WpL.knowT (dj := 53) rfl (decide_eq_true hm) ?_
            refine WpL.gon rfl rfl ?_
            refine s_fa (o2 := 3) rfl rfl rfl ?_
            exact obN rfl
          refine AllObs.mk ?_ ?_
          · refine WpL.knowT (dj := 53) rfl (decide_eq_true hm) ?_
            refine WpL.gon rfl rfl ?_
            refine s_ld rfl rfl (by rfl) ?_
            exact obN rfl
          refine AllObs.mk ?_ ?_
          · refine WpL.knowT (dj := 53) rfl (decide_eq_true hm) ?_
            refine WpL.gon rfl rfl ?_
            refine s_gt rfl rfl rfl ?_
            exact obN rfl
          refine AllObs.mk ?_ ?_
          · refine WpL.knowT (dj := 53) rfl (decide_eq_true hm) ?_
            refine s_pickT rfl rfl rfl ?_
            exact obN rfl
          exact AllObs.nil
        · refine Wp.slots (gr := [(0, _), (69, _)]) (FrLe.cons rfl (FrLe.cons rfl FrLe.nil)) ?_
          refine Wp.condD rfl (fun hbig => ?_) (fun hbig => ?_)
          · refine Wp.seq ?_
            refine Wp.region ?_
            refine s_mv rfl rfl ?_
            refine s_mv rfl rfl ?_
            refine s_nc rfl rfl ?_
            refine s_fa (o2 := 8) rfl rfl rfl ?_
            refine s_st rfl rfl rfl ?_
            refine s_nc rfl rfl ?_
            refine s_fa (o2 := 7) rfl rfl rfl ?_
            refine s_st rfl rfl rfl ?_
            refine WpL.nil ?_
            refine Wp.seq ?_
            apply Wp.draw mixed [⟨76, _, []⟩, ⟨77, _, [0]⟩, ⟨78, _, [1]⟩, ⟨79, _, [2]⟩, ⟨4, _, []⟩, ⟨5, _, [3, 4, 0, 1, 2]⟩] rfl
            · refine AllObs.mk ?_ ?_
              · refine s_mv rfl rfl ?_
                exact obN rfl
              refine AllObs.mk ?_ ?_
              · refine s_nc rfl rfl ?_
                exact obN rfl
              refine AllObs.mk ?_ ?_
              · refine s_fa (o2 := 7) rfl rfl rfl ?_
                exact obN rfl
              refine AllObs.mk ?_ ?_
              · refine s_ld rfl rfl (by rfl) ?_
                exact obN rfl
              refine AllObs.mk ?_ ?_
              · refine s_as rfl rfl ?_
                exact obN rfl
              refine AllObs.mk ?_ ?_
              · refine s_as rfl rfl ?_
                exact obN rfl
              exact AllObs.nil
            · refine Wp.ret ?_
              rw [show (n : Int) + 1 = ((n + 1 : Nat) : Int) from rfl]
              apply RetQ.mk
              · exact (Res.two rfl rfl rfl)
              · exact ⟨b2, n + 1, rows, 2, 5, [], none, 0, by subst hb2; unfold putW; dsimp only; rw [if_neg (show ¬ (0 : Int) ≠ 0 by omega), if_pos ⟨h4, hmN, hbig⟩], rfl, rfl, fun _ => rfl⟩
              · exact (Ent.own_nil (T := 92) (s := 1) (Ent.refl _)).trans (Take.ent' (by repeat' constructor))
          · refine Wp.skip ?_
            refine Wp.seq ?_
            refine Wp.seq ?_
            apply Wp.draw mixed [⟨80, _, []⟩, ⟨81, _, [0]⟩, ⟨82, _, [1]⟩, ⟨83, _, [2]⟩, ⟨84, _, []⟩, ⟨85, _, [4]⟩, ⟨86, _, [5]⟩, ⟨87, _, [6]⟩, ⟨88, _, [7]⟩, ⟨89, _, [3, 8]⟩] rfl
            · refine AllObs.mk ?_ ?_
              · refine s_mv rfl rfl ?_
                exact obN rfl
              refine AllObs.mk ?_ ?_
              · refine s_nc rfl rfl ?_
                exact obN rfl
              refine AllObs.mk ?_ ?_
              · refine s_fa (o2 := 5) rfl rfl rfl ?_
                exact obN rfl
              refine AllObs.mk ?_ ?_
              · refine s_ld rfl rfl (by rfl) ?_
                exact obN rfl
              refine AllObs.mk ?_ ?_
              · refine s_mv rfl rfl ?_
                exact obN rfl
              refine AllObs.mk ?_ ?_
              · refine s_nc rfl rfl ?_
                exact obN rfl
              refine AllObs.mk ?_ ?_
              · refine s_fa (o2 := 4) rfl rfl rfl ?_
                exact obN rfl
              refine AllObs.mk ?_ ?_
              · refine s_ld rfl rfl (by rfl) ?_
                exact obN rfl
              refine AllObs.mk ?_ ?_
              · refine s_lenl rfl rfl ?_
                exact WpL.nil ⟨rfl, rfl, rfl, by first | exact Ent.refl _ | exact Ent.nil _ | exact Take.ent' (by repeat' constructor) | (repeat (first | exact Ent.refl _ | refine Ent.drop ?_))⟩
              refine AllObs.mk ?_ ?_
              · refine s_lt rfl rfl rfl ?_
                exact obN rfl
              exact AllObs.nil
            · refine Wp.slots (gr := [(0, _), (89, _)]) (FrLe.cons rfl (FrLe.cons rfl FrLe.nil)) ?_
              refine Wp.condD rfl (fun h2 => ?_) (fun h2 => ?_)
              · refine Wp.seq ?_
                refine Wp.region ?_
                refine s_as rfl rfl ?_
                refine s_as rfl rfl ?_
                refine WpL.nil ?_
                refine Wp.ret ?_
                rw [show (n : Int) + 1 = ((n + 1 : Nat) : Int) from rfl]
                apply RetQ.mk
                · exact (Res.two rfl rfl rfl)
                · exact ⟨b2, n + 1, rows, 0, e, [], none, 0, by subst hb2; unfold putW; dsimp only; rw [if_neg (show ¬ (0 : Int) ≠ 0 by omega), if_neg (fun h => hbig h.2.2), if_pos (by have := hb2l; omega)], rfl, rfl, fun _ => rfl⟩
                · exact (Ent.own_nil (T := 92) (s := 1) (Ent.refl _)).trans (Take.ent' (by repeat' constructor))
              · have hlen : ¬ n + 1 < bs.length := by omega
                refine Wp.skip ?_
                refine Wp.seq ?_
                refine Wp.region ?_
                refine s_mv rfl rfl ?_
                refine s_nc rfl rfl ?_
                refine s_fa (o2 := 5) rfl rfl rfl ?_
                refine s_st rfl rfl rfl ?_
                refine WpL.nil ?_
                refine Wp.seq ?_
                refine Wp.region ?_
                refine s_mv rfl rfl ?_
                refine s_nc rfl rfl ?_
                refine s_fa (o2 := 6) rfl rfl rfl ?_
                refine s_ld rfl rfl (by rfl) ?_
                first | refine s_add rfl rfl rfl (w_i64 (by omega) (by omega)) ?_ | refine s_addw rfl rfl rfl ?_
                refine s_nc rfl rfl ?_
                refine s_fa (o2 := 6) rfl rfl rfl ?_
                refine s_st rfl rfl rfl ?_
                refine WpL.nil ?_
                refine Wp.slots (gr := [(0, _)]) (FrLe.cons rfl FrLe.nil) ?_
                refine Wp.seq ?_
                refine Wp.seq ?_
                apply Wp.draw mixed [⟨100, _, []⟩, ⟨101, _, [0]⟩, ⟨102, _, [1]⟩, ⟨103, _, [2]⟩, ⟨104, _, []⟩, ⟨105, _, [4]⟩, ⟨106, _, [5]⟩, ⟨107, _, [6]⟩, ⟨108, _, [7]⟩, ⟨109, _, [3, 8]⟩] rfl
                · refine AllObs.mk ?_ ?_
                  · refine s_mv rfl rfl ?_
                    exact obN rfl
                  refine AllObs.mk ?_ ?_
                  · refine s_nc rfl rfl ?_
                    exact obN rfl
                  refine AllObs.mk ?_ ?_
                  · refine s_fa (o2 := 6) rfl rfl rfl ?_
                    exact obN rfl
                  refine AllObs.mk ?_ ?_
                  · refine s_ld rfl rfl (by rfl) ?_
                    exact obN rfl
                  refine AllObs.mk ?_ ?_
                  · refine s_mv rfl rfl ?_
                    exact obN rfl
                  refine AllObs.mk ?_ ?_
                  · refine s_nc rfl rfl ?_
                    exact obN rfl
                  refine AllObs.mk ?_ ?_
                  · refine s_fa (o2 := 0) rfl rfl rfl ?_
                    exact obN rfl
                  refine AllObs.mk ?_ ?_
                  · refine s_fa (o2 := 2) rfl rfl rfl ?_
                    exact obN rfl
                  refine AllObs.mk ?_ ?_
                  · refine s_ld rfl rfl (by rfl) ?_
                    exact obN rfl
                  refine AllObs.mk ?_ ?_
                  · refine s_eq rfl rfl rfl ?_
                    exact obN rfl
                  exact AllObs.nil
                · refine Wp.slots (gr := [(0, _), (109, _)]) (FrLe.cons rfl (FrLe.cons rfl FrLe.nil)) ?_
                  refine Wp.condD rfl (fun h3 => ?_) (fun h3 => ?_)
                  · refine Wp.region ?_
                    refine s_mv rfl rfl ?_
                    refine s_nc rfl rfl ?_
                    refine s_fa (o2 := 7) rfl rfl rfl ?_
                    refine s_st rfl rfl rfl ?_
                    refine WpL.nil ?_
                    refine Wp.seq ?_
                    apply Wp.drawP (fB := [blk g [.int .i64 K, .int .i64 (W : Int), .int .i64 H, .int .i64 M, .slice a1 b2.length c1, .int .i64 0, .int .i64 (rows + 1), .int .i64 1, .int .i64 e] 198]) [0, 2, 3, 4, 5, 1, 6, 7] [113, 115, 116, 117, 118, 114, 4, 5] 8 mixed (by kernel_rfl) [(5, false)] (by kernel_rfl) (by kernel_rfl) (by kernel_rfl)
                    apply GoR.segFP [⟨0, 113, _, [], false⟩, ⟨1, 115, _, [], true⟩, ⟨2, 116, _, [1], true⟩, ⟨3, 117, _, [2], true⟩, ⟨4, 118, _, [3], true⟩] [] [0] [4, 5] [4, 5, 115, 116, 117, 118] (.inl ⟨_, by repeat' constructor⟩) rfl rfl rfl (by kernel_rfl) rfl (by kernel_rfl) rfl rfl
                    · refine AllF.consP 0 [] rfl rfl rfl rfl (by kernel_rfl) rfl ?_ ?_
                      · refine s_mv rfl rfl ?_
                        exact obN rfl
                      refine AllF.consPR 1 [] rfl rfl rfl rfl (by kernel_rfl) rfl ?_ ?_
                      · refine s_mv rfl rfl ?_
                        exact obN rfl
                      refine AllF.consPR 2 [1] rfl rfl rfl rfl (by kernel_rfl) rfl ?_ ?_
                      · refine s_nc rfl rfl ?_
                        exact obN rfl
                      refine AllF.consPR 3 [2] rfl rfl rfl rfl (by kernel_rfl) rfl ?_ ?_
                      · refine s_fa (o2 := 7) rfl rfl rfl ?_
                        exact obN rfl
                      refine AllF.consPR 4 [3] rfl rfl rfl rfl (by kernel_rfl) rfl ?_ ?_
                      · refine s_ld rfl rfl (by rfl) ?_
                        exact obN rfl
                      exact AllF.nil
                    · refine s_callf rfl rfl (by repeat' constructor) (RawRow_spec _ _ _ _ hR _ _ _ _ hb2s (by omega) _ _ _ _ (by rw [hb2l]; exact hst) (by rw [hb2l]; exact hbc)) ?_
                      rintro _ _ ⟨a3, c3, rfl, rfl⟩
                      simp only [napp]
                      refine WpL.nil ⟨rfl, rfl, ?_⟩
                      apply GoR.nilP [⟨6, 4, _, [0, 5], false⟩, ⟨7, 5, _, [0, 1, 2, 3, 4, 5, 6], false⟩] 8 (by kernel_rfl) (.inl ⟨_, by repeat' constructor⟩) rfl rfl
                      · refine AllF.consP 6 [0, 5] rfl rfl rfl rfl (by kernel_rfl) rfl ?_ ?_
                        · refine s_as rfl rfl ?_
                          exact obN rfl
                        refine AllF.consP 7 [0, 1, 2, 3, 4, 5, 6] rfl rfl rfl rfl (by kernel_rfl) rfl ?_ ?_
                        · refine s_as rfl rfl ?_
                          exact obN rfl
                        exact AllF.nil
                      · refine Wp.ret ?_
                        apply RetQ.mk
                        · exact (Res.two rfl rfl rfl)
                        · have hrl := rowD_len (K := K) (W := W) hw (hb2l.trans hst)
                          exact ⟨b2, 0, (rows + 1), 1, e, (rowD K W (wideM M) b2), a3, c3, by subst hb2; unfold putW; dsimp only; rw [if_neg (show ¬ (0 : Int) ≠ 0 by omega), if_neg (fun h => hbig h.2.2), if_neg (by omega), if_pos (by omega)], by rw [hrl], by rw [hrl], fun hr => (by rw [hr] at hrl; simp at hrl; omega)⟩
                        · first | exact Ent.refl _ | exact Ent.nil _ | exact Take.ent' (by repeat' constructor) | (repeat (first | exact Ent.refl _ | refine Ent.drop ?_))
                  · refine Wp.skip ?_
                    refine Wp.seq ?_
                    apply Wp.drawP (fB := [blk g [.int .i64 K, .int .i64 (W : Int), .int .i64 H, .int .i64 M, .slice a1 b2.length c1, .int .i64 0, .int .i64 (rows + 1), .int .i64 0, .int .i64 e] 198]) [0, 2, 3, 4, 5, 1, 6, 7] [113, 115, 116, 117, 118, 114, 4, 5] 8 mixed (by kernel_rfl) [(5, false)] (by kernel_rfl) (by kernel_rfl) (by kernel_rfl)
                    apply GoR.segFP [⟨0, 113, _, [], false⟩, ⟨1, 115, _, [], true⟩, ⟨2, 116, _, [1], true⟩, ⟨3, 117, _, [2], true⟩, ⟨4, 118, _, [3], true⟩] [] [0] [4, 5] [4, 5, 115, 116, 117, 118] (.inl ⟨_, by repeat' constructor⟩) rfl rfl rfl (by kernel_rfl) rfl (by kernel_rfl) rfl rfl
                    · refine AllF.consP 0 [] rfl rfl rfl rfl (by kernel_rfl) rfl ?_ ?_
                      · refine s_mv rfl rfl ?_
                        exact obN rfl
                      refine AllF.consPR 1 [] rfl rfl rfl rfl (by kernel_rfl) rfl ?_ ?_
                      · refine s_mv rfl rfl ?_
                        exact obN rfl
                      refine AllF.consPR 2 [1] rfl rfl rfl rfl (by kernel_rfl) rfl ?_ ?_
                      · refine s_nc rfl rfl ?_
                        exact obN rfl
                      refine AllF.consPR 3 [2] rfl rfl rfl rfl (by kernel_rfl) rfl ?_ ?_
                      · refine s_fa (o2 := 7) rfl rfl rfl ?_
                        exact obN rfl
                      refine AllF.consPR 4 [3] rfl rfl rfl rfl (by kernel_rfl) rfl ?_ ?_
                      · refine s_ld rfl rfl (by rfl) ?_
                        exact obN rfl
                      exact AllF.nil
                    · refine s_callf rfl rfl (by repeat' constructor) (RawRow_spec _ _ _ _ hR _ _ _ _ hb2s (by omega) _ _ _ _ (by rw [hb2l]; exact hst) (by rw [hb2l]; exact hbc)) ?_
                      rintro _ _ ⟨a3, c3, rfl, rfl⟩
                      simp only [napp]
                      refine WpL.nil ⟨rfl, rfl, ?_⟩
                      apply GoR.nilP [⟨6, 4, _, [0, 5], false⟩, ⟨7, 5, _, [0, 1, 2, 3, 4, 5, 6], false⟩] 8 (by kernel_rfl) (.inl ⟨_, by repeat' constructor⟩) rfl rfl
                      · refine AllF.consP 6 [0, 5] rfl rfl rfl rfl (by kernel_rfl) rfl ?_ ?_
                        · refine s_as rfl rfl ?_
                          exact obN rfl
                        refine AllF.consP 7 [0, 1, 2, 3, 4, 5, 6] rfl rfl rfl rfl (by kernel_rfl) rfl ?_ ?_
                        · refine s_as rfl rfl ?_
                          exact obN rfl
                        exact AllF.nil
                      · refine Wp.ret ?_
                        apply RetQ.mk
                        · exact (Res.two rfl rfl rfl)
                        · have hrl := rowD_len (K := K) (W := W) hw (hb2l.trans hst)
                          exact ⟨b2, 0, (rows + 1), 0, e, (rowD K W (wideM M) b2), a3, c3, by subst hb2; unfold putW; dsimp only; rw [if_neg (show ¬ (0 : Int) ≠ 0 by omega), if_neg (fun h => hbig h.2.2), if_neg (by omega), if_neg (by omega)], by rw [hrl], by rw [hrl], fun hr => (by rw [hr] at hrl; simp at hrl; omega)⟩
                        · first | exact Ent.refl _ | exact Ent.nil _ | exact Take.ent' (by repeat' constructor) | (repeat (first | exact Ent.refl _ | refine Ent.drop ?_))

end Go.Proofs.YtggamdlpiejbiaaGreat
