/- Walks and plain laws, a part of the proof of PnmOpen: every input that the law's guards let in, no condition beside. -/
import Derived.Test.YtggamdlpiejbiaaGreatM24
namespace Go.Proofs.YtggamdlpiejbiaaGreat
open Go.RowKit Go.Shelf

set_option maxHeartbeats 2000000 in
theorem rplain_spec (A0 : HP) (a0 : Option Addr) (c0 : Nat) (bs : List Int) (hA : RdsL [A0] a0 (u8s bs)) (hbs : ∀ x ∈ bs, 0 ≤ x ∧ x ≤ 255) (hc0 : bs.length ≤ c0) (hbl : bs.length ≤ 100000000000) (at0 : Nat) (hat : at0 ≤ bs.length) (h : HS) (hf : HdFine h) (hK : ¬ (4 ≤ h.K ∧ h.K ≤ 6)) (fin : Bool) : Fn Tryz.prog 58 #[.slice a0 bs.length c0, .int .i64 (at0 : Int), .agg #[.int .i64 h.K, .int .i64 h.W, .int .i64 h.H, .int .i64 h.M], .bool fin] [A0] (fun v l => ∃ a c out to f, (∀ l0 l1 l2 imgs, BodyOut l0 l1 l2 fin h (.pl s0R) bs at0 imgs out to f) ∧ ((at0 : Int) ≤ to ∧ to ≤ bs.length) ∧ (out.length : Int) ≤ to - at0 + 2 ∧ ((f = 0 → ∃ t rows, out = rows ++ [dnE t] ∧ ∀ x ∈ rows, evRw x) ∧ (f ≠ 0 → ∀ x ∈ out, evRw x)) ∧ v = .tuple #[.slice a out.length c, .int .i64 to, .int .i64 f] ∧ l = [esR a c out, A0]) := by
  have hM := hf.2.2
  have hch := chK_pos h.K
  refine Fn.intro (vs := [.slice a0 bs.length c0, .int .i64 (at0 : Int), .agg #[.int .i64 h.K, .int .i64 h.W, .int .i64 h.H, .int .i64 h.M], .bool fin]) Tryz.func58 rfl Tryz.ntmps58 rfl ?_
  refine Wp.seq ?_
  refine Wp.region ?_
  refine s_box rfl rfl rfl ?_
  intro g1
  refine s_as rfl rfl ?_
  refine s_as rfl rfl ?_
  refine s_as rfl rfl ?_
  refine WpL.nil ?_
  refine Wp.seq ?_
  refine Wp.region ?_
  refine s_as rfl rfl ?_
  refine WpL.nil ?_
  refine Wp.seq ?_
  refine Wp.region ?_
  refine s_lda (vs := [_, _, _, _]) rfl rfl rfl (by rfl) ?_
  refine s_callf rfl rfl (by repeat' constructor) (rNew_spec _ _ _ _) ?_
  rintro _ _ ⟨rfl, rfl⟩
  simp only [napp]
  refine s_al rfl ?_
  intro gR
  refine s_sta rfl rfl rfl (by rfl) rfl ?_
  refine WpL.nil ?_
  refine Wp.seq ?_
  refine Wp.block ?_
  refine Wp.loopD (σ := RpX) (fun x => at0 ≤ x.at_ ∧ x.at_ ≤ bs.length ∧ rsO h (x.at_ - at0) ⟨x.n, x.one, x.row, x.rows, x.last, x.e⟩ ∧ x.out.length ≤ x.at_ - at0 ∧ (∀ z ∈ x.out, evRw z) ∧ (∀ l0 l1 l2 imgs, plI l0 l1 l2 h bs at0 imgs ⟨x.n, x.one, x.row, x.rows, x.last, x.e⟩ x.at_ x.out)) [1, 11, 13, 14, 19, 20, 21, 22, 23, 24, 25, 26, 27, 28, 29, 30, 31, 32, 33, 34, 35, 36, 37, 38, 39, 40, 41, 42, 43, 44, 45, 46, 47, 48] (fun x => [(1, .int .i64 (x.at_ : Int)), (11, .slice x.aO x.out.length x.cO)]) (fun x => [blk gR [.int .i64 h.K, .int .i64 h.W, .int .i64 h.H, .int .i64 h.M, .int .i64 x.n, .slice x.a1 x.one.length x.c1, .slice x.a2 x.row.length x.c2, .int .i64 x.rows, .int .i64 x.last, .int .i64 x.e] 175, own 3 1 x.a1 x.c1 x.one.length (ints x.one), own 92 1 x.a2 x.c2 x.row.length (pxs x.row), esR x.aO x.cO x.out, A0]) (fun x => bs.length - x.at_) ⟨at0, -1, [], [], 0, 0, 0, none, 0, none, 0, [], none, 0⟩ ?_ (by repeat (first | exact FrLe.nil | refine FrLe.cons rfl ?_)) ?_ ?_
  · refine ⟨Nat.le_refl _, hat, ⟨⟨by simp; omega, by simp, by simp, by simp⟩, ⟨by simp, fun _ => rfl, by simp; have := hM.2.1; omega⟩, .inl rfl⟩, by simp, fun z hz => by simp at hz, fun l0 l1 l2 imgs => plI0 l0 l1 l2 h bs at0 imgs⟩
  · refine Ent.trans (m := [blk gR _ _, A0]) (Take.ent' (by repeat' constructor)) (Ent.cons (Ent.own_nil (Ent.own_nil (Ent.rcNil (Ent.refl _)))))
  · rintro ⟨at_, n, one, row, rows, last, e, a1, c1, a2, c2, out, aO, cO⟩ ⟨ha0, ha1, hro, hol, hkk, hpl⟩
    dsimp only at ha0 ha1 hro hol hkk hpl ⊢
    obtain ⟨hi, hg, hla⟩ := id hro
    obtain ⟨hq1, hq1b, hq3, hq4b⟩ := id hi
    obtain ⟨hqn, hqk, hq2⟩ := id hg
    dsimp only at hq1 hq1b hq3 hq4b hqn hqk hq2 hla
    have hq4 : rows ≤ 2 ^ 60 := (by omega)
    refine Wp.seq ?_
    refine Wp.seq ?_
    refine Wp.region ?_
    refine s_mv rfl rfl ?_
    refine s_mv rfl rfl ?_
    refine s_lenl rfl rfl ?_
    refine s_lt rfl rfl rfl ?_
    refine s_mv rfl rfl ?_
    refine WpL.grd rfl rfl rfl (fun hg1 => ?_) (fun hg1 => ?_)
    · have hg1 := of_decide_eq_true hg1
      refine s_fa (o2 := 8) rfl rfl rfl ?_
      refine WpL.gon rfl rfl ?_
      refine s_ld rfl rfl (by rfl) ?_
      refine WpL.gon rfl rfl ?_
      refine s_eq rfl rfl rfl ?_
      refine s_pickT rfl rfl rfl ?_
      refine WpL.nil ?_
      refine Wp.condD rfl (fun h1 => ?_) (fun h1 => ?_)
      · have hl0 : last = 0 := by omega
        have hlt : at_ < bs.length := by omega
        have hcb := hbs _ (List.getElem_mem hlt)
        have hdc : bs.drop at_ = bs[at_] :: bs.drop (at_ + 1) := List.drop_eq_getElem_cons hlt
        refine Wp.skip ?_
        refine Wp.block ?_
        refine Wp.seq ?_
        apply Wp.drawGA (fB := []) mixed 9 [(5, false), (3, true)] rfl rfl (by kernel_rfl)
        apply GoR.segF [⟨0, 29, _, [], false⟩, ⟨1, 30, _, [], false⟩, ⟨2, 31, _, [], false⟩, ⟨3, 32, _, [1, 2], false⟩, ⟨4, 33, _, [3], false⟩] [] [0, 1, 2, 3, 4] [28, 35, 36, 13, 14] (.inr rfl) rfl rfl rfl (by kernel_rfl) rfl rfl rfl
        · refine AllF.cons rfl rfl rfl rfl ?_ ?_
          · refine s_lda (vs := [_, _, _, _, _, _, _, _, _, _]) rfl rfl rfl (by rfl) ?_
            exact obN rfl
          refine AllF.cons rfl rfl rfl rfl ?_ ?_
          · refine s_mv rfl rfl ?_
            exact obN rfl
          refine AllF.cons rfl rfl rfl rfl ?_ ?_
          · refine s_mv rfl rfl ?_
            exact obN rfl
          refine AllF.cons rfl rfl rfl rfl ?_ ?_
          · refine s_ixa at_ rfl rfl rfl hA (by first | exact Take.ent' (by repeat' constructor) | (repeat (first | exact Ent.refl _ | refine Ent.drop ?_))) rfl (by omega) (by rw [u8s_len]; exact hlt) ?_
            exact obN rfl
          refine AllF.cons rfl rfl rfl rfl ?_ ?_
          · refine s_ldx rfl rfl hA (by first | exact Take.ent' (by repeat' constructor) | (repeat (first | exact Ent.refl _ | refine Ent.drop ?_))) (u8s_at bs hlt) ?_
            exact obN rfl
          exact AllF.nil
        · refine s_callf rfl rfl (by repeat' constructor) (rPut_spec _ _ _ _ _ _ _ _ _ _ _ _ _ _ _ hcb.1 hcb.2 (by have := hM.1; omega) (by have := hM.1; omega) hq1 hq2 (by have := hM.2.1; omega) hq3 hq4 hqn hqk (by have := hM.2.2.2.1; omega) (by have := hM.2.2.2.1; omega)) ?_
          rintro _ _ ⟨n2, one2, row2, rows2, last2, e2, out2, a1, c1, a2, c2, a3, c3, hs2, rfl, rfl⟩
          simp only [napp]
          have hw2 : out2.length ≤ 4096 := by have q := putR_w (K := h.K) (H := h.H) (M := h.M) (c := bs[at_]) (s := ⟨n, one, row, rows, last, e⟩) hq2 (by have := hM.2.1; omega); rw [← hs2] at q; exact q
          have hro2 := rsO_put hM hro hl0 hs2
          rw [show at_ - at0 + 1 = at_ + 1 - at0 by omega] at hro2
          refine WpL.nil ⟨rfl, rfl, ?_⟩
          apply GoR.segT [⟨6, 28, _, [5], false⟩, ⟨7, 35, _, [6], false⟩, ⟨8, 36, _, [6], true⟩] [] [6, 7] [14, 36] (.inl ⟨_, .nil⟩) rfl rfl rfl (by kernel_rfl) rfl rfl rfl rfl
          · refine AllF.cons rfl rfl rfl rfl ?_ ?_
            · refine s_mv rfl rfl ?_
              exact obN rfl
            refine AllF.cons rfl rfl rfl rfl ?_ ?_
            · refine s_ext rfl rfl rfl ?_
              exact obN rfl
            refine AllF.consR rfl rfl rfl rfl ?_ ?_
            · refine s_ext rfl rfl rfl ?_
              exact obN rfl
            exact AllF.nil
          · intro gS
            refine s_sta rfl rfl rfl (by rfl) rfl ?_
            refine WpL.nil ⟨rfl, rfl, ?_⟩
            apply GoR.nil [⟨11, 14, _, [0, 1, 2, 3, 4, 5, 6, 7, 8, 9, 10], false⟩] (.inl ⟨_, .nil⟩) rfl rfl
            · refine AllF.cons rfl rfl rfl rfl ?_ ?_
              · refine s_as rfl rfl ?_
                exact obN rfl
              exact AllF.nil
            · refine Wp.seq ?_
              refine Wp.region ?_
              refine s_lda (vs := [_, _, _, _, _, _, _, _, _, _]) rfl rfl rfl (by rfl) ?_
              refine s_sta rfl rfl rfl (by rfl) rfl ?_
              refine WpL.nil ?_
              refine Wp.seq ?_
              refine Wp.region ?_
              refine s_mv rfl rfl ?_
              first | refine s_add rfl rfl rfl (w_i64 (by omega) (by omega)) ?_ | refine s_addw rfl rfl rfl ?_
              refine s_as rfl rfl ?_
              refine WpL.nil ?_
              refine Wp.seq ?_
              refine Wp.region ?_
              refine s_mv rfl rfl ?_
              refine s_lenl rfl rfl ?_
              refine s_gt rfl rfl rfl ?_
              refine WpL.nil ?_
              refine Wp.condD rfl (fun h2 => ?_) (fun h2 => ?_)
              · have hne : out2 ≠ [] := fun q => by rw [q] at h2; simp at h2
                refine Wp.region ?_
                refine s_mv rfl rfl ?_
                refine s_mv rfl rfl ?_
                refine s_mv rfl rfl ?_
                refine s_bd rfl rfl ?_
                refine s_bsA1 rfl rfl (by rfl) (by rfl) (by rfl) (by rfl) ?_
                intro g4
                refine s_apR1 ((⟨2, 0, 0, 0, 0, out2⟩, ((at_ + 1 : Nat) : Int))) rfl rfl rfl (by repeat' constructor) rfl (by rfl) (by rfl) (by rfl) (by rfl) (by first | omega | (simp only [List.length_append, List.length_cons, List.length_nil]; omega)) (by first | omega | (simp only [List.length_append, List.length_cons, List.length_nil]; omega)) ?_
                intro a48 c48
                refine s_as rfl rfl ?_
                refine WpL.nil ?_
                refine loopD.next (Q := fun _ _ _ _ => False) (⟨at_ + 1, n2, one2, row2, rows2, last2, e2, a1, c1, a2, c2, out ++ [(⟨2, 0, 0, 0, 0, out2⟩, ((at_ + 1 : Nat) : Int))], a48, c48⟩ : RpX) ?_ ?_ (by first | ((repeat (first | exact Top.refl | refine Top.push rfl ?_ | refine Top.drop rfl ?_)); done) | exact Top.le (by repeat (first | exact FrLe.nil | refine FrLe.cons rfl ?_))) (by repeat (first | exact FrLe.nil | refine FrLe.cons rfl ?_)) ?_
                · exact ⟨by simp only; omega, by simp only; omega, hro2, by simp only [List.length_append, List.length_cons, List.length_nil]; omega, fun x hx => by rcases List.mem_append.1 hx with hx | hx; exact hkk x hx; rw [List.mem_singleton.1 hx]; exact ⟨rfl, hw2⟩, fun l0 l1 l2 imgs => by have q := plI_step (hpl l0 l1 l2 imgs) hl0 hdc hs2; rw [atE_some hne] at q; exact q⟩
                · simp only; omega
                · first | exact Ent.refl _ | exact Ent.nil _ | exact Take.ent' (by repeat' constructor) | (repeat (first | exact Ent.refl _ | refine Ent.drop ?_))
              · have he2 : out2 = [] := List.eq_nil_of_length_eq_zero (by omega)
                refine Wp.skip ?_
                refine loopD.next (Q := fun _ _ _ _ => False) (⟨at_ + 1, n2, one2, row2, rows2, last2, e2, a1, c1, a2, c2, out, aO, cO⟩ : RpX) ?_ ?_ (by first | ((repeat (first | exact Top.refl | refine Top.push rfl ?_ | refine Top.drop rfl ?_)); done) | exact Top.le (by repeat (first | exact FrLe.nil | refine FrLe.cons rfl ?_))) (by repeat (first | exact FrLe.nil | refine FrLe.cons rfl ?_)) ?_
                · exact ⟨by simp only; omega, by simp only; omega, hro2, by simp only; omega, hkk, fun l0 l1 l2 imgs => by have q := plI_step (hpl l0 l1 l2 imgs) hl0 hdc hs2; rw [atE_none he2, List.append_nil] at q; exact q⟩
                · simp only; omega
                · first | exact Ent.refl _ | exact Ent.nil _ | exact Take.ent' (by repeat' constructor) | (repeat (first | exact Ent.refl _ | refine Ent.drop ?_))
      · refine Wp.exit ?_
        refine Wp.seq ?_
        refine Wp.seq ?_
        refine Wp.region ?_
        refine s_fa (o2 := 8) rfl rfl rfl ?_
        refine s_ld rfl rfl (by rfl) ?_
        refine s_eq rfl rfl rfl ?_
        refine s_mv rfl rfl ?_
        refine WpL.grd rfl rfl rfl (fun hg2 => ?_) (fun hg2 => ?_)
        · have hg2 := of_decide_eq_true hg2
          refine s_mv rfl rfl ?_
          refine s_pickT rfl rfl rfl ?_
          refine WpL.nil ?_
          refine Wp.cond rfl (fun h3 => ?_) (fun h3 => ?_)
          · have hl0 : last = 0 := by omega
            have hat2 : bs.length ≤ at_ := by omega
            subst h3
            refine Wp.seq ?_
            refine Wp.region ?_
            refine s_lda (vs := [_, _, _, _, _, _, _, _, _, _]) rfl rfl rfl (by rfl) ?_
            refine s_callf rfl rfl (by repeat' constructor) (rEnd_spec _ _ _ _ _ _ _ _ _ _ _ _ _ _ (by have := hM.1; omega) (by have := hM.1; omega) hq1 hq2 (by have := hM.2.1; omega) hq3 hq4 hqn hqk (by have := hM.2.2.2.1; omega) (by have := hM.2.2.2.1; omega)) ?_
            rintro _ _ ⟨n5, one5, row5, rows5, last5, e5, out5, a1, c1, a2, c2, a3, c3, hs5, rfl, rfl⟩
            simp only [napp]
            have hw5 : out5.length ≤ 4096 := by have q := endR_w (K := h.K) (H := h.H) (s := ⟨n, one, row, rows, last, e⟩) hq2 (by have := hM.2.1; omega); rw [← hs5] at q; exact q
            have hl5 := endR_last3 (K := h.K) (W := h.W) (H := h.H) (s := (⟨n, one, row, rows, last, e⟩ : RS)) hl0
            have hl5n := endR_last (K := h.K) (W := h.W) (H := h.H) (s := (⟨n, one, row, rows, last, e⟩ : RS))
            have he6 : last5 = 2 → e5 = 6 := fun q => by have := endR_e (K := h.K) (W := h.W) (H := h.H) (s := (⟨n, one, row, rows, last, e⟩ : RS)) hl0; rw [← hs5] at this; exact this q
            rw [← hs5] at hl5 hl5n
            dsimp only at hl5 hl5n
            refine s_mv rfl rfl ?_
            refine s_ext rfl rfl rfl ?_
            refine s_ext rfl rfl rfl ?_
            refine s_al rfl ?_
            intro gT
            refine s_sta rfl rfl rfl (by rfl) rfl ?_
            refine s_as rfl rfl ?_
            refine WpL.nil ?_
            refine Wp.seq ?_
            refine Wp.region ?_
            refine s_lda (vs := [_, _, _, _, _, _, _, _, _, _]) rfl rfl rfl (by rfl) ?_
            refine s_sta rfl rfl rfl (by rfl) rfl ?_
            refine WpL.nil ?_
            refine Wp.seq ?_
            refine Wp.seq ?_
            refine Wp.region ?_
            refine s_mv rfl rfl ?_
            refine s_lenl rfl rfl ?_
            refine s_gt rfl rfl rfl ?_
            refine WpL.nil ?_
            refine Wp.condD rfl (fun h4 => ?_) (fun h4 => ?_)
            · have hne : out5 ≠ [] := fun q => by rw [q] at h4; simp at h4
              refine Wp.region ?_
              refine s_mv rfl rfl ?_
              refine s_mv rfl rfl ?_
              refine s_mv rfl rfl ?_
              first | refine s_add rfl rfl rfl (w_i64 (by omega) (by omega)) ?_ | refine s_addw rfl rfl rfl ?_
              refine s_bd rfl rfl ?_
              refine s_bsA1 rfl rfl (by rfl) (by rfl) (by rfl) (by rfl) ?_
              intro g6
              refine s_apR1 ((⟨2, 0, 0, 0, 0, out5⟩, (at_ : Int) + 1)) rfl rfl rfl (by repeat' constructor) rfl (by rfl) (by rfl) (by rfl) (by rfl) (by first | omega | (simp only [List.length_append, List.length_cons, List.length_nil]; omega)) (by first | omega | (simp only [List.length_append, List.length_cons, List.length_nil]; omega)) ?_
              intro a70 c70
              refine s_as rfl rfl ?_
              refine WpL.nil ?_
              refine Wp.seq ?_
              refine Wp.region ?_
              refine s_fa (o2 := 8) rfl rfl rfl ?_
              refine s_ld rfl rfl (by rfl) ?_
              refine s_eq rfl rfl rfl ?_
              refine WpL.nil ?_
              refine Wp.condD rfl (fun h5 => ?_) (fun h5 => ?_)
              · refine Wp.seq ?_
                refine Wp.region ?_
                refine s_mv rfl rfl ?_
                refine s_mv rfl rfl ?_
                first | refine s_add rfl rfl rfl (w_i64 (by omega) (by omega)) ?_ | refine s_addw rfl rfl rfl ?_
                refine s_bd rfl rfl ?_
                refine s_bsA1 rfl rfl (by rfl) (by rfl) (by rfl) (by rfl) ?_
                intro g7
                refine WpL.ent (Ent.own_nil (T := 92) (s := 1) (Ent.refl _)) ?_
                refine s_apR1 (dnE ((at_ : Int) + 1)) rfl rfl rfl (by repeat' constructor) rfl (by rfl) (by rfl) (by rfl) (by rfl) (by first | omega | (simp only [List.length_append, List.length_cons, List.length_nil]; omega)) (by first | omega | (simp only [List.length_append, List.length_cons, List.length_nil]; omega)) ?_
                intro a79 c79
                refine s_mv rfl rfl ?_
                refine s_as rfl rfl ?_
                refine s_as rfl rfl ?_
                refine s_as rfl rfl ?_
                refine WpL.nil ?_
                refine Wp.ret ?_
                apply RetQ.mk
                · exact (Res.three rfl rfl rfl rfl)
                · first | (exfalso; omega) | (exact ⟨_, _, out ++ [(⟨2, 0, 0, 0, 0, out5⟩, (at_ : Int) + 1)] ++ [dnE ((at_ : Int) + 1)], at_, 0, fun l0 l1 l2 imgs => (by have q := pl_end1 (hpl l0 l1 l2 imgs) hl0 hat2 hf.2.1 hs5 h5; rw [atE_some hne] at q; exact q), ⟨by omega, by omega⟩, (by first | omega | (simp only [List.length_append, List.length_cons, List.length_nil]; omega)), ⟨fun _ => ⟨_, _, rfl, fun x hx => by rcases List.mem_append.1 hx with hx | hx; exact hkk x hx; rw [List.mem_singleton.1 hx]; exact ⟨rfl, hw5⟩⟩, fun q => absurd rfl q⟩, rfl, rfl⟩) | (exact ⟨_, _, out ++ [dnE ((at_ : Int) + 1)], at_, 0, fun l0 l1 l2 imgs => (by have q := pl_end1 (hpl l0 l1 l2 imgs) hl0 hat2 hf.2.1 hs5 h5; rw [atE_none he5, List.append_nil] at q; exact q), ⟨by omega, by omega⟩, (by first | omega | (simp only [List.length_append, List.length_cons, List.length_nil]; omega)), ⟨fun _ => ⟨_, out, rfl, hkk⟩, fun q => absurd rfl q⟩, rfl, rfl⟩) | (exact ⟨_, _, out ++ [(⟨2, 0, 0, 0, 0, out5⟩, (at_ : Int) + 1)], at_, e5, fun l0 l1 l2 imgs => (by have q := pl_end2 (hpl l0 l1 l2 imgs) hl0 hat2 hs5 h7 (show e5 ≠ 0 by rw [he6 h7]; decide) (show e5 ≠ 9 by rw [he6 h7]; decide); rw [atE_some hne] at q; exact q), ⟨by omega, by omega⟩, (by first | omega | (simp only [List.length_append, List.length_cons, List.length_nil]; omega)), ⟨fun q => absurd q (by first | decide | (rw [he6 h7]; decide) | (rcases hla with z | z | z <;> first | exact z.2.1 | (exfalso; omega))), fun _ => fun x hx => by rcases List.mem_append.1 hx with hx | hx; exact hkk x hx; rw [List.mem_singleton.1 hx]; exact ⟨rfl, hw5⟩⟩, rfl, rfl⟩) | (exact ⟨_, _, out, at_, e5, fun l0 l1 l2 imgs => (by have q := pl_end2 (hpl l0 l1 l2 imgs) hl0 hat2 hs5 h7 (show e5 ≠ 0 by rw [he6 h7]; decide) (show e5 ≠ 9 by rw [he6 h7]; decide); rw [atE_none he5, List.append_nil] at q; exact q), ⟨by omega, by omega⟩, (by first | omega | (simp only [List.length_append, List.length_cons, List.length_nil]; omega)), ⟨fun q => absurd q (by first | decide | (rw [he6 h7]; decide) | (rcases hla with z | z | z <;> first | exact z.2.1 | (exfalso; omega))), fun _ => hkk⟩, rfl, rfl⟩) | (exact ⟨_, _, out ++ [dnE at_], at_, 0, fun l0 l1 l2 imgs => pl_done (hpl l0 l1 l2 imgs) h6, ⟨by omega, by omega⟩, (by first | omega | (simp only [List.length_append, List.length_cons, List.length_nil]; omega)), ⟨fun _ => ⟨_, out, rfl, hkk⟩, fun q => absurd rfl q⟩, rfl, rfl⟩) | (exact ⟨_, _, out, at_, e, fun l0 l1 l2 imgs => pl_wrong (hpl l0 l1 l2 imgs) h7 (by rcases hla with q | q | q <;> first | exact q.2.1 | (exfalso; omega)) (by rcases hla with q | q | q <;> first | exact q.2.2 | (exfalso; omega)), ⟨by omega, by omega⟩, (by first | omega | (simp only [List.length_append, List.length_cons, List.length_nil]; omega)), ⟨fun q => absurd q (by first | decide | (rw [he6 h7]; decide) | (rcases hla with z | z | z <;> first | exact z.2.1 | (exfalso; omega))), fun _ => hkk⟩, rfl, rfl⟩) | (subst h3; exact ⟨_, _, out, at_, 9, fun l0 l1 l2 imgs => pl_open (hpl l0 l1 l2 imgs) (show last = 0 by omega) (by omega), ⟨by omega, by omega⟩, (by first | omega | (simp only [List.length_append, List.length_cons, List.length_nil]; omega)), ⟨fun q => absurd q (by first | decide | (rw [he6 h7]; decide) | (rcases hla with z | z | z <;> first | exact z.2.1 | (exfalso; omega))), fun _ => hkk⟩, rfl, rfl⟩)
                · first | exact Ent.refl _ | exact Ent.nil _ | exact Take.ent' (by repeat' constructor) | (repeat (first | exact Ent.refl _ | refine Ent.drop ?_))
              · refine Wp.skip ?_
                refine Wp.seq ?_
                refine Wp.seq ?_
                refine Wp.region ?_
                refine s_fa (o2 := 8) rfl rfl rfl ?_
                refine s_ld rfl rfl (by rfl) ?_
                refine s_eq rfl rfl rfl ?_
                refine WpL.nil ?_
                refine Wp.condD rfl (fun h6 => ?_) (fun h6 => ?_)
                · refine Wp.seq ?_
                  refine Wp.region ?_
                  refine s_mv rfl rfl ?_
                  refine s_mv rfl rfl ?_
                  refine s_bd rfl rfl ?_
                  refine s_bsA1 rfl rfl (by rfl) (by rfl) (by rfl) (by rfl) ?_
                  intro g8
                  refine WpL.ent (Ent.own_nil (T := 92) (s := 1) (Ent.refl _)) ?_
                  first | (refine s_apR1 (dnE at_) rfl rfl rfl (by repeat' constructor) rfl (by rfl) (by rfl) (by rfl) (by rfl) (by first | omega | (simp only [List.length_append, List.length_cons, List.length_nil]; omega)) (by first | omega | (simp only [List.length_append, List.length_cons, List.length_nil]; omega)) ?_) | (refine s_apR1 (dnE ((at_ : Int))) rfl rfl rfl (by repeat' constructor) rfl (by rfl) (by rfl) (by rfl) (by rfl) (by first | omega | (simp only [List.length_append, List.length_cons, List.length_nil]; omega)) (by first | omega | (simp only [List.length_append, List.length_cons, List.length_nil]; omega)) ?_)
                  intro a88 c88
                  refine s_mv rfl rfl ?_
                  refine s_as rfl rfl ?_
                  refine s_as rfl rfl ?_
                  refine s_as rfl rfl ?_
                  refine WpL.nil ?_
                  refine Wp.ret ?_
                  apply RetQ.mk
                  · exact (Res.three rfl rfl rfl rfl)
                  · first | (exfalso; omega) | (exact ⟨_, _, out ++ [(⟨2, 0, 0, 0, 0, out5⟩, (at_ : Int) + 1)] ++ [dnE ((at_ : Int) + 1)], at_, 0, fun l0 l1 l2 imgs => (by have q := pl_end1 (hpl l0 l1 l2 imgs) hl0 hat2 hf.2.1 hs5 h5; rw [atE_some hne] at q; exact q), ⟨by omega, by omega⟩, (by first | omega | (simp only [List.length_append, List.length_cons, List.length_nil]; omega)), ⟨fun _ => ⟨_, _, rfl, fun x hx => by rcases List.mem_append.1 hx with hx | hx; exact hkk x hx; rw [List.mem_singleton.1 hx]; exact ⟨rfl, hw5⟩⟩, fun q => absurd rfl q⟩, rfl, rfl⟩) | (exact ⟨_, _, out ++ [dnE ((at_ : Int) + 1)], at_, 0, fun l0 l1 l2 imgs => (by have q := pl_end1 (hpl l0 l1 l2 imgs) hl0 hat2 hf.2.1 hs5 h5; rw [atE_none he5, List.append_nil] at q; exact q), ⟨by omega, by omega⟩, (by first | omega | (simp only [List.length_append, List.length_cons, List.length_nil]; omega)), ⟨fun _ => ⟨_, out, rfl, hkk⟩, fun q => absurd rfl q⟩, rfl, rfl⟩) | (exact ⟨_, _, out ++ [(⟨2, 0, 0, 0, 0, out5⟩, (at_ : Int) + 1)], at_, e5, fun l0 l1 l2 imgs => (by have q := pl_end2 (hpl l0 l1 l2 imgs) hl0 hat2 hs5 h7 (show e5 ≠ 0 by rw [he6 h7]; decide) (show e5 ≠ 9 by rw [he6 h7]; decide); rw [atE_some hne] at q; exact q), ⟨by omega, by omega⟩, (by first | omega | (simp only [List.length_append, List.length_cons, List.length_nil]; omega)), ⟨fun q => absurd q (by first | decide | (rw [he6 h7]; decide) | (rcases hla with z | z | z <;> first | exact z.2.1 | (exfalso; omega))), fun _ => fun x hx => by rcases List.mem_append.1 hx with hx | hx; exact hkk x hx; rw [List.mem_singleton.1 hx]; exact ⟨rfl, hw5⟩⟩, rfl, rfl⟩) | (exact ⟨_, _, out, at_, e5, fun l0 l1 l2 imgs => (by have q := pl_end2 (hpl l0 l1 l2 imgs) hl0 hat2 hs5 h7 (show e5 ≠ 0 by rw [he6 h7]; decide) (show e5 ≠ 9 by rw [he6 h7]; decide); rw [atE_none he5, List.append_nil] at q; exact q), ⟨by omega, by omega⟩, (by first | omega | (simp only [List.length_append, List.length_cons, List.length_nil]; omega)), ⟨fun q => absurd q (by first | decide | (rw [he6 h7]; decide) | (rcases hla with z | z | z <;> first | exact z.2.1 | (exfalso; omega))), fun _ => hkk⟩, rfl, rfl⟩) | (exact ⟨_, _, out ++ [dnE at_], at_, 0, fun l0 l1 l2 imgs => pl_done (hpl l0 l1 l2 imgs) h6, ⟨by omega, by omega⟩, (by first | omega | (simp only [List.length_append, List.length_cons, List.length_nil]; omega)), ⟨fun _ => ⟨_, out, rfl, hkk⟩, fun q => absurd rfl q⟩, rfl, rfl⟩) | (exact ⟨_, _, out, at_, e, fun l0 l1 l2 imgs => pl_wrong (hpl l0 l1 l2 imgs) h7 (by rcases hla with q | q | q <;> first | exact q.2.1 | (exfalso; omega)) (by rcases hla with q | q | q <;> first | exact q.2.2 | (exfalso; omega)), ⟨by omega, by omega⟩, (by first | omega | (simp only [List.length_append, List.length_cons, List.length_nil]; omega)), ⟨fun q => absurd q (by first | decide | (rw [he6 h7]; decide) | (rcases hla with z | z | z <;> first | exact z.2.1 | (exfalso; omega))), fun _ => hkk⟩, rfl, rfl⟩) | (subst h3; exact ⟨_, _, out, at_, 9, fun l0 l1 l2 imgs => pl_open (hpl l0 l1 l2 imgs) (show last = 0 by omega) (by omega), ⟨by omega, by omega⟩, (by first | omega | (simp only [List.length_append, List.length_cons, List.length_nil]; omega)), ⟨fun q => absurd q (by first | decide | (rw [he6 h7]; decide) | (rcases hla with z | z | z <;> first | exact z.2.1 | (exfalso; omega))), fun _ => hkk⟩, rfl, rfl⟩)
                  · first | exact Ent.refl _ | exact Ent.nil _ | exact Take.ent' (by repeat' constructor) | (repeat (first | exact Ent.refl _ | refine Ent.drop ?_))
                · refine Wp.skip ?_
                  refine Wp.seq ?_
                  refine Wp.seq ?_
                  refine Wp.region ?_
                  refine s_fa (o2 := 8) rfl rfl rfl ?_
                  refine s_ld rfl rfl (by rfl) ?_
                  refine s_eq rfl rfl rfl ?_
                  refine WpL.nil ?_
                  refine Wp.condD rfl (fun h7 => ?_) (fun h7 => ?_)
                  · refine Wp.seq ?_
                    apply Wp.draw mixed [⟨93, _, []⟩, ⟨94, _, []⟩, ⟨95, _, []⟩, ⟨96, _, [2]⟩, ⟨8, _, [0]⟩, ⟨9, _, [1, 4, 0]⟩, ⟨10, _, [3, 5, 0, 1, 2, 4]⟩] rfl
                    · refine AllObs.mk ?_ ?_
                      · refine s_mv rfl rfl ?_
                        exact obN rfl
                      refine AllObs.mk ?_ ?_
                      · refine s_mv rfl rfl ?_
                        exact obN rfl
                      refine AllObs.mk ?_ ?_
                      · refine s_fa (o2 := 9) rfl rfl rfl ?_
                        exact obN rfl
                      refine AllObs.mk ?_ ?_
                      · refine s_ld rfl rfl (by rfl) ?_
                        exact obN rfl
                      refine AllObs.mk ?_ ?_
                      · refine s_as rfl rfl ?_
                        exact obN rfl
                      refine AllObs.mk ?_ ?_
                      · refine s_as rfl rfl ?_
                        exact obN rfl
                      refine AllObs.mk ?_ ?_
                      · refine s_as rfl rfl ?_
                        exact obN rfl
                      exact AllObs.nil
                    · refine Wp.ret ?_
                      apply RetQ.mk
                      · exact (Res.three rfl rfl rfl rfl)
                      · first | (exfalso; omega) | (exact ⟨_, _, out ++ [(⟨2, 0, 0, 0, 0, out5⟩, (at_ : Int) + 1)] ++ [dnE ((at_ : Int) + 1)], at_, 0, fun l0 l1 l2 imgs => (by have q := pl_end1 (hpl l0 l1 l2 imgs) hl0 hat2 hf.2.1 hs5 h5; rw [atE_some hne] at q; exact q), ⟨by omega, by omega⟩, (by first | omega | (simp only [List.length_append, List.length_cons, List.length_nil]; omega)), ⟨fun _ => ⟨_, _, rfl, fun x hx => by rcases List.mem_append.1 hx with hx | hx; exact hkk x hx; rw [List.mem_singleton.1 hx]; exact ⟨rfl, hw5⟩⟩, fun q => absurd rfl q⟩, rfl, rfl⟩) | (exact ⟨_, _, out ++ [dnE ((at_ : Int) + 1)], at_, 0, fun l0 l1 l2 imgs => (by have q := pl_end1 (hpl l0 l1 l2 imgs) hl0 hat2 hf.2.1 hs5 h5; rw [atE_none he5, List.append_nil] at q; exact q), ⟨by omega, by omega⟩, (by first | omega | (simp only [List.length_append, List.length_cons, List.length_nil]; omega)), ⟨fun _ => ⟨_, out, rfl, hkk⟩, fun q => absurd rfl q⟩, rfl, rfl⟩) | (exact ⟨_, _, out ++ [(⟨2, 0, 0, 0, 0, out5⟩, (at_ : Int) + 1)], at_, e5, fun l0 l1 l2 imgs => (by have q := pl_end2 (hpl l0 l1 l2 imgs) hl0 hat2 hs5 h7 (show e5 ≠ 0 by rw [he6 h7]; decide) (show e5 ≠ 9 by rw [he6 h7]; decide); rw [atE_some hne] at q; exact q), ⟨by omega, by omega⟩, (by first | omega | (simp only [List.length_append, List.length_cons, List.length_nil]; omega)), ⟨fun q => absurd q (by first | decide | (rw [he6 h7]; decide) | (rcases hla with z | z | z <;> first | exact z.2.1 | (exfalso; omega))), fun _ => fun x hx => by rcases List.mem_append.1 hx with hx | hx; exact hkk x hx; rw [List.mem_singleton.1 hx]; exact ⟨rfl, hw5⟩⟩, rfl, rfl⟩) | (exact ⟨_, _, out, at_, e5, fun l0 l1 l2 imgs => (by have q := pl_end2 (hpl l0 l1 l2 imgs) hl0 hat2 hs5 h7 (show e5 ≠ 0 by rw [he6 h7]; decide) (show e5 ≠ 9 by rw [he6 h7]; decide); rw [atE_none he5, List.append_nil] at q; exact q), ⟨by omega, by omega⟩, (by first | omega | (simp only [List.length_append, List.length_cons, List.length_nil]; omega)), ⟨fun q => absurd q (by first | decide | (rw [he6 h7]; decide) | (rcases hla with z | z | z <;> first | exact z.2.1 | (exfalso; omega))), fun _ => hkk⟩, rfl, rfl⟩) | (exact ⟨_, _, out ++ [dnE at_], at_, 0, fun l0 l1 l2 imgs => pl_done (hpl l0 l1 l2 imgs) h6, ⟨by omega, by omega⟩, (by first | omega | (simp only [List.length_append, List.length_cons, List.length_nil]; omega)), ⟨fun _ => ⟨_, out, rfl, hkk⟩, fun q => absurd rfl q⟩, rfl, rfl⟩) | (exact ⟨_, _, out, at_, e, fun l0 l1 l2 imgs => pl_wrong (hpl l0 l1 l2 imgs) h7 (by rcases hla with q | q | q <;> first | exact q.2.1 | (exfalso; omega)) (by rcases hla with q | q | q <;> first | exact q.2.2 | (exfalso; omega)), ⟨by omega, by omega⟩, (by first | omega | (simp only [List.length_append, List.length_cons, List.length_nil]; omega)), ⟨fun q => absurd q (by first | decide | (rw [he6 h7]; decide) | (rcases hla with z | z | z <;> first | exact z.2.1 | (exfalso; omega))), fun _ => hkk⟩, rfl, rfl⟩) | (subst h3; exact ⟨_, _, out, at_, 9, fun l0 l1 l2 imgs => pl_open (hpl l0 l1 l2 imgs) (show last = 0 by omega) (by omega), ⟨by omega, by omega⟩, (by first | omega | (simp only [List.length_append, List.length_cons, List.length_nil]; omega)), ⟨fun q => absurd q (by first | decide | (rw [he6 h7]; decide) | (rcases hla with z | z | z <;> first | exact z.2.1 | (exfalso; omega))), fun _ => hkk⟩, rfl, rfl⟩)
                      · first | exact Ent.refl _ | exact Ent.nil _ | exact Take.ent' (by repeat' constructor) | (repeat (first | exact Ent.refl _ | refine Ent.drop ?_))
                  · refine Wp.skip ?_
                    refine Wp.seq ?_
                    refine Wp.region ?_
                    refine s_mv rfl rfl ?_
                    refine s_mv rfl rfl ?_
                    refine s_as rfl rfl ?_
                    refine s_as rfl rfl ?_
                    refine s_as rfl rfl ?_
                    refine WpL.nil ?_
                    refine Wp.ret ?_
                    apply RetQ.mk
                    · exact (Res.three rfl rfl rfl rfl)
                    · first | (exfalso; omega) | (exact ⟨_, _, out ++ [(⟨2, 0, 0, 0, 0, out5⟩, (at_ : Int) + 1)] ++ [dnE ((at_ : Int) + 1)], at_, 0, fun l0 l1 l2 imgs => (by have q := pl_end1 (hpl l0 l1 l2 imgs) hl0 hat2 hf.2.1 hs5 h5; rw [atE_some hne] at q; exact q), ⟨by omega, by omega⟩, (by first | omega | (simp only [List.length_append, List.length_cons, List.length_nil]; omega)), ⟨fun _ => ⟨_, _, rfl, fun x hx => by rcases List.mem_append.1 hx with hx | hx; exact hkk x hx; rw [List.mem_singleton.1 hx]; exact ⟨rfl, hw5⟩⟩, fun q => absurd rfl q⟩, rfl, rfl⟩) | (exact ⟨_, _, out ++ [dnE ((at_ : Int) + 1)], at_, 0, fun l0 l1 l2 imgs => (by have q := pl_end1 (hpl l0 l1 l2 imgs) hl0 hat2 hf.2.1 hs5 h5; rw [atE_none he5, List.append_nil] at q; exact q), ⟨by omega, by omega⟩, (by first | omega | (simp only [List.length_append, List.length_cons, List.length_nil]; omega)), ⟨fun _ => ⟨_, out, rfl, hkk⟩, fun q => absurd rfl q⟩, rfl, rfl⟩) | (exact ⟨_, _, out ++ [(⟨2, 0, 0, 0, 0, out5⟩, (at_ : Int) + 1)], at_, e5, fun l0 l1 l2 imgs => (by have q := pl_end2 (hpl l0 l1 l2 imgs) hl0 hat2 hs5 h7 (show e5 ≠ 0 by rw [he6 h7]; decide) (show e5 ≠ 9 by rw [he6 h7]; decide); rw [atE_some hne] at q; exact q), ⟨by omega, by omega⟩, (by first | omega | (simp only [List.length_append, List.length_cons, List.length_nil]; omega)), ⟨fun q => absurd q (by first | decide | (rw [he6 h7]; decide) | (rcases hla with z | z | z <;> first | exact z.2.1 | (exfalso; omega))), fun _ => fun x hx => by rcases List.mem_append.1 hx with hx | hx; exact hkk x hx; rw [List.mem_singleton.1 hx]; exact ⟨rfl, hw5⟩⟩, rfl, rfl⟩) | (exact ⟨_, _, out, at_, e5, fun l0 l1 l2 imgs => (by have q := pl_end2 (hpl l0 l1 l2 imgs) hl0 hat2 hs5 h7 (show e5 ≠ 0 by rw [he6 h7]; decide) (show e5 ≠ 9 by rw [he6 h7]; decide); rw [atE_none he5, List.append_nil] at q; exact q), ⟨by omega, by omega⟩, (by first | omega | (simp only [List.length_append, List.length_cons, List.length_nil]; omega)), ⟨fun q => absurd q (by first | decide | (rw [he6 h7]; decide) | (rcases hla with z | z | z <;> first | exact z.2.1 | (exfalso; omega))), fun _ => hkk⟩, rfl, rfl⟩) | (exact ⟨_, _, out ++ [dnE at_], at_, 0, fun l0 l1 l2 imgs => pl_done (hpl l0 l1 l2 imgs) h6, ⟨by omega, by omega⟩, (by first | omega | (simp only [List.length_append, List.length_cons, List.length_nil]; omega)), ⟨fun _ => ⟨_, out, rfl, hkk⟩, fun q => absurd rfl q⟩, rfl, rfl⟩) | (exact ⟨_, _, out, at_, e, fun l0 l1 l2 imgs => pl_wrong (hpl l0 l1 l2 imgs) h7 (by rcases hla with q | q | q <;> first | exact q.2.1 | (exfalso; omega)) (by rcases hla with q | q | q <;> first | exact q.2.2 | (exfalso; omega)), ⟨by omega, by omega⟩, (by first | omega | (simp only [List.length_append, List.length_cons, List.length_nil]; omega)), ⟨fun q => absurd q (by first | decide | (rw [he6 h7]; decide) | (rcases hla with z | z | z <;> first | exact z.2.1 | (exfalso; omega))), fun _ => hkk⟩, rfl, rfl⟩) | (subst h3; exact ⟨_, _, out, at_, 9, fun l0 l1 l2 imgs => pl_open (hpl l0 l1 l2 imgs) (show last = 0 by omega) (by omega), ⟨by omega, by omega⟩, (by first | omega | (simp only [List.length_append, List.length_cons, List.length_nil]; omega)), ⟨fun q => absurd q (by first | decide | (rw [he6 h7]; decide) | (rcases hla with z | z | z <;> first | exact z.2.1 | (exfalso; omega))), fun _ => hkk⟩, rfl, rfl⟩)
                    · first | exact Ent.refl _ | exact Ent.nil _ | exact Take.ent' (by repeat' constructor) | (repeat (first | exact Ent.refl _ | refine Ent.drop ?_))
            · have he5 : out5 = [] := List.eq_nil_of_length_eq_zero (by omega)
              refine Wp.skip ?_
              refine Wp.seq ?_
              refine Wp.region ?_
              refine s_fa (o2 := 8) rfl rfl rfl ?_
              refine s_ld rfl rfl (by rfl) ?_
              refine s_eq rfl rfl rfl ?_
              refine WpL.nil ?_
              refine Wp.condD rfl (fun h5 => ?_) (fun h5 => ?_)
              · refine Wp.seq ?_
                refine Wp.region ?_
                refine s_mv rfl rfl ?_
                refine s_mv rfl rfl ?_
                first | refine s_add rfl rfl rfl (w_i64 (by omega) (by omega)) ?_ | refine s_addw rfl rfl rfl ?_
                refine s_bd rfl rfl ?_
                refine s_bsA1 rfl rfl (by rfl) (by rfl) (by rfl) (by rfl) ?_
                intro g9
                refine WpL.ent (Ent.own_nil (T := 92) (s := 1) (Ent.refl _)) ?_
                refine s_apR1 (dnE ((at_ : Int) + 1)) rfl rfl rfl (by repeat' constructor) rfl (by rfl) (by rfl) (by rfl) (by rfl) (by first | omega | (simp only [List.length_append, List.length_cons, List.length_nil]; omega)) (by first | omega | (simp only [List.length_append, List.length_cons, List.length_nil]; omega)) ?_
                intro a79 c79
                refine s_mv rfl rfl ?_
                refine s_as rfl rfl ?_
                refine s_as rfl rfl ?_
                refine s_as rfl rfl ?_
                refine WpL.nil ?_
                refine Wp.ret ?_
                apply RetQ.mk
                · exact (Res.three rfl rfl rfl rfl)
                · first | (exfalso; omega) | (exact ⟨_, _, out ++ [(⟨2, 0, 0, 0, 0, out5⟩, (at_ : Int) + 1)] ++ [dnE ((at_ : Int) + 1)], at_, 0, fun l0 l1 l2 imgs => (by have q := pl_end1 (hpl l0 l1 l2 imgs) hl0 hat2 hf.2.1 hs5 h5; rw [atE_some hne] at q; exact q), ⟨by omega, by omega⟩, (by first | omega | (simp only [List.length_append, List.length_cons, List.length_nil]; omega)), ⟨fun _ => ⟨_, _, rfl, fun x hx => by rcases List.mem_append.1 hx with hx | hx; exact hkk x hx; rw [List.mem_singleton.1 hx]; exact ⟨rfl, hw5⟩⟩, fun q => absurd rfl q⟩, rfl, rfl⟩) | (exact ⟨_, _, out ++ [dnE ((at_ : Int) + 1)], at_, 0, fun l0 l1 l2 imgs => (by have q := pl_end1 (hpl l0 l1 l2 imgs) hl0 hat2 hf.2.1 hs5 h5; rw [atE_none he5, List.append_nil] at q; exact q), ⟨by omega, by omega⟩, (by first | omega | (simp only [List.length_append, List.length_cons, List.length_nil]; omega)), ⟨fun _ => ⟨_, out, rfl, hkk⟩, fun q => absurd rfl q⟩, rfl, rfl⟩) | (exact ⟨_, _, out ++ [(⟨2, 0, 0, 0, 0, out5⟩, (at_ : Int) + 1)], at_, e5, fun l0 l1 l2 imgs => (by have q := pl_end2 (hpl l0 l1 l2 imgs) hl0 hat2 hs5 h7 (show e5 ≠ 0 by rw [he6 h7]; decide) (show e5 ≠ 9 by rw [he6 h7]; decide); rw [atE_some hne] at q; exact q), ⟨by omega, by omega⟩, (by first | omega | (simp only [List.length_append, List.length_cons, List.length_nil]; omega)), ⟨fun q => absurd q (by first | decide | (rw [he6 h7]; decide) | (rcases hla with z | z | z <;> first | exact z.2.1 | (exfalso; omega))), fun _ => fun x hx => by rcases List.mem_append.1 hx with hx | hx; exact hkk x hx; rw [List.mem_singleton.1 hx]; exact ⟨rfl, hw5⟩⟩, rfl, rfl⟩) | (exact ⟨_, _, out, at_, e5, fun l0 l1 l2 imgs => (by have q := pl_end2 (hpl l0 l1 l2 imgs) hl0 hat2 hs5 h7 (show e5 ≠ 0 by rw [he6 h7]; decide) (show e5 ≠ 9 by rw [he6 h7]; decide); rw [atE_none he5, List.append_nil] at q; exact q), ⟨by omega, by omega⟩, (by first | omega | (simp only [List.length_append, List.length_cons, List.length_nil]; omega)), ⟨fun q => absurd q (by first | decide | (rw [he6 h7]; decide) | (rcases hla with z | z | z <;> first | exact z.2.1 | (exfalso; omega))), fun _ => hkk⟩, rfl, rfl⟩) | (exact ⟨_, _, out ++ [dnE at_], at_, 0, fun l0 l1 l2 imgs => pl_done (hpl l0 l1 l2 imgs) h6, ⟨by omega, by omega⟩, (by first | omega | (simp only [List.length_append, List.length_cons, List.length_nil]; omega)), ⟨fun _ => ⟨_, out, rfl, hkk⟩, fun q => absurd rfl q⟩, rfl, rfl⟩) | (exact ⟨_, _, out, at_, e, fun l0 l1 l2 imgs => pl_wrong (hpl l0 l1 l2 imgs) h7 (by rcases hla with q | q | q <;> first | exact q.2.1 | (exfalso; omega)) (by rcases hla with q | q | q <;> first | exact q.2.2 | (exfalso; omega)), ⟨by omega, by omega⟩, (by first | omega | (simp only [List.length_append, List.length_cons, List.length_nil]; omega)), ⟨fun q => absurd q (by first | decide | (rw [he6 h7]; decide) | (rcases hla with z | z | z <;> first | exact z.2.1 | (exfalso; omega))), fun _ => hkk⟩, rfl, rfl⟩) | (subst h3; exact ⟨_, _, out, at_, 9, fun l0 l1 l2 imgs => pl_open (hpl l0 l1 l2 imgs) (show last = 0 by omega) (by omega), ⟨by omega, by omega⟩, (by first | omega | (simp only [List.length_append, List.length_cons, List.length_nil]; omega)), ⟨fun q => absurd q (by first | decide | (rw [he6 h7]; decide) | (rcases hla with z | z | z <;> first | exact z.2.1 | (exfalso; omega))), fun _ => hkk⟩, rfl, rfl⟩)
                · first | exact Ent.refl _ | exact Ent.nil _ | exact Take.ent' (by repeat' constructor) | (repeat (first | exact Ent.refl _ | refine Ent.drop ?_))
              · refine Wp.skip ?_
                refine Wp.seq ?_
                refine Wp.seq ?_
                refine Wp.region ?_
                refine s_fa (o2 := 8) rfl rfl rfl ?_
                refine s_ld rfl rfl (by rfl) ?_
                refine s_eq rfl rfl rfl ?_
                refine WpL.nil ?_
                refine Wp.condD rfl (fun h6 => ?_) (fun h6 => ?_)
                · refine Wp.seq ?_
                  refine Wp.region ?_
                  refine s_mv rfl rfl ?_
                  refine s_mv rfl rfl ?_
                  refine s_bd rfl rfl ?_
                  refine s_bsA1 rfl rfl (by rfl) (by rfl) (by rfl) (by rfl) ?_
                  intro g10
                  refine WpL.ent (Ent.own_nil (T := 92) (s := 1) (Ent.refl _)) ?_
                  first | (refine s_apR1 (dnE at_) rfl rfl rfl (by repeat' constructor) rfl (by rfl) (by rfl) (by rfl) (by rfl) (by first | omega | (simp only [List.length_append, List.length_cons, List.length_nil]; omega)) (by first | omega | (simp only [List.length_append, List.length_cons, List.length_nil]; omega)) ?_) | (refine s_apR1 (dnE ((at_ : Int))) rfl rfl rfl (by repeat' constructor) rfl (by rfl) (by rfl) (by rfl) (by rfl) (by first | omega | (simp only [List.length_append, List.length_cons, List.length_nil]; omega)) (by first | omega | (simp only [List.length_append, List.length_cons, List.length_nil]; omega)) ?_)
                  intro a88 c88
                  refine s_mv rfl rfl ?_
                  refine s_as rfl rfl ?_
                  refine s_as rfl rfl ?_
                  refine s_as rfl rfl ?_
                  refine WpL.nil ?_
                  refine Wp.ret ?_
                  apply RetQ.mk
                  · exact (Res.three rfl rfl rfl rfl)
                  · first | (exfalso; omega) | (exact ⟨_, _, out ++ [(⟨2, 0, 0, 0, 0, out5⟩, (at_ : Int) + 1)] ++ [dnE ((at_ : Int) + 1)], at_, 0, fun l0 l1 l2 imgs => (by have q := pl_end1 (hpl l0 l1 l2 imgs) hl0 hat2 hf.2.1 hs5 h5; rw [atE_some hne] at q; exact q), ⟨by omega, by omega⟩, (by first | omega | (simp only [List.length_append, List.length_cons, List.length_nil]; omega)), ⟨fun _ => ⟨_, _, rfl, fun x hx => by rcases List.mem_append.1 hx with hx | hx; exact hkk x hx; rw [List.mem_singleton.1 hx]; exact ⟨rfl, hw5⟩⟩, fun q => absurd rfl q⟩, rfl, rfl⟩) | (exact ⟨_, _, out ++ [dnE ((at_ : Int) + 1)], at_, 0, fun l0 l1 l2 imgs => (by have q := pl_end1 (hpl l0 l1 l2 imgs) hl0 hat2 hf.2.1 hs5 h5; rw [atE_none he5, List.append_nil] at q; exact q), ⟨by omega, by omega⟩, (by first | omega | (simp only [List.length_append, List.length_cons, List.length_nil]; omega)), ⟨fun _ => ⟨_, out, rfl, hkk⟩, fun q => absurd rfl q⟩, rfl, rfl⟩) | (exact ⟨_, _, out ++ [(⟨2, 0, 0, 0, 0, out5⟩, (at_ : Int) + 1)], at_, e5, fun l0 l1 l2 imgs => (by have q := pl_end2 (hpl l0 l1 l2 imgs) hl0 hat2 hs5 h7 (show e5 ≠ 0 by rw [he6 h7]; decide) (show e5 ≠ 9 by rw [he6 h7]; decide); rw [atE_some hne] at q; exact q), ⟨by omega, by omega⟩, (by first | omega | (simp only [List.length_append, List.length_cons, List.length_nil]; omega)), ⟨fun q => absurd q (by first | decide | (rw [he6 h7]; decide) | (rcases hla with z | z | z <;> first | exact z.2.1 | (exfalso; omega))), fun _ => fun x hx => by rcases List.mem_append.1 hx with hx | hx; exact hkk x hx; rw [List.mem_singleton.1 hx]; exact ⟨rfl, hw5⟩⟩, rfl, rfl⟩) | (exact ⟨_, _, out, at_, e5, fun l0 l1 l2 imgs => (by have q := pl_end2 (hpl l0 l1 l2 imgs) hl0 hat2 hs5 h7 (show e5 ≠ 0 by rw [he6 h7]; decide) (show e5 ≠ 9 by rw [he6 h7]; decide); rw [atE_none he5, List.append_nil] at q; exact q), ⟨by omega, by omega⟩, (by first | omega | (simp only [List.length_append, List.length_cons, List.length_nil]; omega)), ⟨fun q => absurd q (by first | decide | (rw [he6 h7]; decide) | (rcases hla with z | z | z <;> first | exact z.2.1 | (exfalso; omega))), fun _ => hkk⟩, rfl, rfl⟩) | (exact ⟨_, _, out ++ [dnE at_], at_, 0, fun l0 l1 l2 imgs => pl_done (hpl l0 l1 l2 imgs) h6, ⟨by omega, by omega⟩, (by first | omega | (simp only [List.length_append, List.length_cons, List.length_nil]; omega)), ⟨fun _ => ⟨_, out, rfl, hkk⟩, fun q => absurd rfl q⟩, rfl, rfl⟩) | (exact ⟨_, _, out, at_, e, fun l0 l1 l2 imgs => pl_wrong (hpl l0 l1 l2 imgs) h7 (by rcases hla with q | q | q <;> first | exact q.2.1 | (exfalso; omega)) (by rcases hla with q | q | q <;> first | exact q.2.2 | (exfalso; omega)), ⟨by omega, by omega⟩, (by first | omega | (simp only [List.length_append, List.length_cons, List.length_nil]; omega)), ⟨fun q => absurd q (by first | decide | (rw [he6 h7]; decide) | (rcases hla with z | z | z <;> first | exact z.2.1 | (exfalso; omega))), fun _ => hkk⟩, rfl, rfl⟩) | (subst h3; exact ⟨_, _, out, at_, 9, fun l0 l1 l2 imgs => pl_open (hpl l0 l1 l2 imgs) (show last = 0 by omega) (by omega), ⟨by omega, by omega⟩, (by first | omega | (simp only [List.length_append, List.length_cons, List.length_nil]; omega)), ⟨fun q => absurd q (by first | decide | (rw [he6 h7]; decide) | (rcases hla with z | z | z <;> first | exact z.2.1 | (exfalso; omega))), fun _ => hkk⟩, rfl, rfl⟩)
                  · first | exact Ent.refl _ | exact Ent.nil _ | exact Take.ent' (by repeat' constructor) | (repeat (first | exact Ent.refl _ | refine Ent.drop ?_))
                · refine Wp.skip ?_
                  refine Wp.seq ?_
                  refine Wp.seq ?_
                  refine Wp.region ?_
                  refine s_fa (o2 := 8) rfl rfl rfl ?_
                  refine s_ld rfl rfl (by rfl) ?_
                  refine s_eq rfl rfl rfl ?_
                  refine WpL.nil ?_
                  refine Wp.condD rfl (fun h7 => ?_) (fun h7 => ?_)
                  · refine Wp.seq ?_
                    apply Wp.draw mixed [⟨93, _, []⟩, ⟨94, _, []⟩, ⟨95, _, []⟩, ⟨96, _, [2]⟩, ⟨8, _, [0]⟩, ⟨9, _, [1, 4, 0]⟩, ⟨10, _, [3, 5, 0, 1, 2, 4]⟩] rfl
                    · refine AllObs.mk ?_ ?_
                      · refine s_mv rfl rfl ?_
                        exact obN rfl
                      refine AllObs.mk ?_ ?_
                      · refine s_mv rfl rfl ?_
                        exact obN rfl
                      refine AllObs.mk ?_ ?_
                      · refine s_fa (o2 := 9) rfl rfl rfl ?_
                        exact obN rfl
                      refine AllObs.mk ?_ ?_
                      · refine s_ld rfl rfl (by rfl) ?_
                        exact obN rfl
                      refine AllObs.mk ?_ ?_
                      · refine s_as rfl rfl ?_
                        exact obN rfl
                      refine AllObs.mk ?_ ?_
                      · refine s_as rfl rfl ?_
                        exact obN rfl
                      refine AllObs.mk ?_ ?_
                      · refine s_as rfl rfl ?_
                        exact obN rfl
                      exact AllObs.nil
                    · refine Wp.ret ?_
                      apply RetQ.mk
                      · exact (Res.three rfl rfl rfl rfl)
                      · first | (exfalso; omega) | (exact ⟨_, _, out ++ [(⟨2, 0, 0, 0, 0, out5⟩, (at_ : Int) + 1)] ++ [dnE ((at_ : Int) + 1)], at_, 0, fun l0 l1 l2 imgs => (by have q := pl_end1 (hpl l0 l1 l2 imgs) hl0 hat2 hf.2.1 hs5 h5; rw [atE_some hne] at q; exact q), ⟨by omega, by omega⟩, (by first | omega | (simp only [List.length_append, List.length_cons, List.length_nil]; omega)), ⟨fun _ => ⟨_, _, rfl, fun x hx => by rcases List.mem_append.1 hx with hx | hx; exact hkk x hx; rw [List.mem_singleton.1 hx]; exact ⟨rfl, hw5⟩⟩, fun q => absurd rfl q⟩, rfl, rfl⟩) | (exact ⟨_, _, out ++ [dnE ((at_ : Int) + 1)], at_, 0, fun l0 l1 l2 imgs => (by have q := pl_end1 (hpl l0 l1 l2 imgs) hl0 hat2 hf.2.1 hs5 h5; rw [atE_none he5, List.append_nil] at q; exact q), ⟨by omega, by omega⟩, (by first | omega | (simp only [List.length_append, List.length_cons, List.length_nil]; omega)), ⟨fun _ => ⟨_, out, rfl, hkk⟩, fun q => absurd rfl q⟩, rfl, rfl⟩) | (exact ⟨_, _, out ++ [(⟨2, 0, 0, 0, 0, out5⟩, (at_ : Int) + 1)], at_, e5, fun l0 l1 l2 imgs => (by have q := pl_end2 (hpl l0 l1 l2 imgs) hl0 hat2 hs5 h7 (show e5 ≠ 0 by rw [he6 h7]; decide) (show e5 ≠ 9 by rw [he6 h7]; decide); rw [atE_some hne] at q; exact q), ⟨by omega, by omega⟩, (by first | omega | (simp only [List.length_append, List.length_cons, List.length_nil]; omega)), ⟨fun q => absurd q (by first | decide | (rw [he6 h7]; decide) | (rcases hla with z | z | z <;> first | exact z.2.1 | (exfalso; omega))), fun _ => fun x hx => by rcases List.mem_append.1 hx with hx | hx; exact hkk x hx; rw [List.mem_singleton.1 hx]; exact ⟨rfl, hw5⟩⟩, rfl, rfl⟩) | (exact ⟨_, _, out, at_, e5, fun l0 l1 l2 imgs => (by have q := pl_end2 (hpl l0 l1 l2 imgs) hl0 hat2 hs5 h7 (show e5 ≠ 0 by rw [he6 h7]; decide) (show e5 ≠ 9 by rw [he6 h7]; decide); rw [atE_none he5, List.append_nil] at q; exact q), ⟨by omega, by omega⟩, (by first | omega | (simp only [List.length_append, List.length_cons, List.length_nil]; omega)), ⟨fun q => absurd q (by first | decide | (rw [he6 h7]; decide) | (rcases hla with z | z | z <;> first | exact z.2.1 | (exfalso; omega))), fun _ => hkk⟩, rfl, rfl⟩) | (exact ⟨_, _, out ++ [dnE at_], at_, 0, fun l0 l1 l2 imgs => pl_done (hpl l0 l1 l2 imgs) h6, ⟨by omega, by omega⟩, (by first | omega | (simp only [List.length_append, List.length_cons, List.length_nil]; omega)), ⟨fun _ => ⟨_, out, rfl, hkk⟩, fun q => absurd rfl q⟩, rfl, rfl⟩) | (exact ⟨_, _, out, at_, e, fun l0 l1 l2 imgs => pl_wrong (hpl l0 l1 l2 imgs) h7 (by rcases hla with q | q | q <;> first | exact q.2.1 | (exfalso; omega)) (by rcases hla with q | q | q <;> first | exact q.2.2 | (exfalso; omega)), ⟨by omega, by omega⟩, (by first | omega | (simp only [List.length_append, List.length_cons, List.length_nil]; omega)), ⟨fun q => absurd q (by first | decide | (rw [he6 h7]; decide) | (rcases hla with z | z | z <;> first | exact z.2.1 | (exfalso; omega))), fun _ => hkk⟩, rfl, rfl⟩) | (subst h3; exact ⟨_, _, out, at_, 9, fun l0 l1 l2 imgs => pl_open (hpl l0 l1 l2 imgs) (show last = 0 by omega) (by omega), ⟨by omega, by omega⟩, (by first | omega | (simp only [List.length_append, List.length_cons, List.length_nil]; omega)), ⟨fun q => absurd q (by first | decide | (rw [he6 h7]; decide) | (rcases hla with z | z | z <;> first | exact z.2.1 | (exfalso; omega))), fun _ => hkk⟩, rfl, rfl⟩)
                      · first | exact Ent.refl _ | exact Ent.nil _ | exact Take.ent' (by repeat' constructor) | (repeat (first | exact Ent.refl _ | refine Ent.drop ?_))
                  · refine Wp.skip ?_
                    refine Wp.seq ?_
                    refine Wp.region ?_
                    refine s_mv rfl rfl ?_
                    refine s_mv rfl rfl ?_
                    refine s_as rfl rfl ?_
                    refine s_as rfl rfl ?_
                    refine s_as rfl rfl ?_
                    refine WpL.nil ?_
                    refine Wp.ret ?_
                    apply RetQ.mk
                    · exact (Res.three rfl rfl rfl rfl)
                    · first | (exfalso; omega) | (exact ⟨_, _, out ++ [(⟨2, 0, 0, 0, 0, out5⟩, (at_ : Int) + 1)] ++ [dnE ((at_ : Int) + 1)], at_, 0, fun l0 l1 l2 imgs => (by have q := pl_end1 (hpl l0 l1 l2 imgs) hl0 hat2 hf.2.1 hs5 h5; rw [atE_some hne] at q; exact q), ⟨by omega, by omega⟩, (by first | omega | (simp only [List.length_append, List.length_cons, List.length_nil]; omega)), ⟨fun _ => ⟨_, _, rfl, fun x hx => by rcases List.mem_append.1 hx with hx | hx; exact hkk x hx; rw [List.mem_singleton.1 hx]; exact ⟨rfl, hw5⟩⟩, fun q => absurd rfl q⟩, rfl, rfl⟩) | (exact ⟨_, _, out ++ [dnE ((at_ : Int) + 1)], at_, 0, fun l0 l1 l2 imgs => (by have q := pl_end1 (hpl l0 l1 l2 imgs) hl0 hat2 hf.2.1 hs5 h5; rw [atE_none he5, List.append_nil] at q; exact q), ⟨by omega, by omega⟩, (by first | omega | (simp only [List.length_append, List.length_cons, List.length_nil]; omega)), ⟨fun _ => ⟨_, out, rfl, hkk⟩, fun q => absurd rfl q⟩, rfl, rfl⟩) | (exact ⟨_, _, out ++ [(⟨2, 0, 0, 0, 0, out5⟩, (at_ : Int) + 1)], at_, e5, fun l0 l1 l2 imgs => (by have q := pl_end2 (hpl l0 l1 l2 imgs) hl0 hat2 hs5 h7 (show e5 ≠ 0 by rw [he6 h7]; decide) (show e5 ≠ 9 by rw [he6 h7]; decide); rw [atE_some hne] at q; exact q), ⟨by omega, by omega⟩, (by first | omega | (simp only [List.length_append, List.length_cons, List.length_nil]; omega)), ⟨fun q => absurd q (by first | decide | (rw [he6 h7]; decide) | (rcases hla with z | z | z <;> first | exact z.2.1 | (exfalso; omega))), fun _ => fun x hx => by rcases List.mem_append.1 hx with hx | hx; exact hkk x hx; rw [List.mem_singleton.1 hx]; exact ⟨rfl, hw5⟩⟩, rfl, rfl⟩) | (exact ⟨_, _, out, at_, e5, fun l0 l1 l2 imgs => (by have q := pl_end2 (hpl l0 l1 l2 imgs) hl0 hat2 hs5 h7 (show e5 ≠ 0 by rw [he6 h7]; decide) (show e5 ≠ 9 by rw [he6 h7]; decide); rw [atE_none he5, List.append_nil] at q; exact q), ⟨by omega, by omega⟩, (by first | omega | (simp only [List.length_append, List.length_cons, List.length_nil]; omega)), ⟨fun q => absurd q (by first | decide | (rw [he6 h7]; decide) | (rcases hla with z | z | z <;> first | exact z.2.1 | (exfalso; omega))), fun _ => hkk⟩, rfl, rfl⟩) | (exact ⟨_, _, out ++ [dnE at_], at_, 0, fun l0 l1 l2 imgs => pl_done (hpl l0 l1 l2 imgs) h6, ⟨by omega, by omega⟩, (by first | omega | (simp only [List.length_append, List.length_cons, List.length_nil]; omega)), ⟨fun _ => ⟨_, out, rfl, hkk⟩, fun q => absurd rfl q⟩, rfl, rfl⟩) | (exact ⟨_, _, out, at_, e, fun l0 l1 l2 imgs => pl_wrong (hpl l0 l1 l2 imgs) h7 (by rcases hla with q | q | q <;> first | exact q.2.1 | (exfalso; omega)) (by rcases hla with q | q | q <;> first | exact q.2.2 | (exfalso; omega)), ⟨by omega, by omega⟩, (by first | omega | (simp only [List.length_append, List.length_cons, List.length_nil]; omega)), ⟨fun q => absurd q (by first | decide | (rw [he6 h7]; decide) | (rcases hla with z | z | z <;> first | exact z.2.1 | (exfalso; omega))), fun _ => hkk⟩, rfl, rfl⟩) | (subst h3; exact ⟨_, _, out, at_, 9, fun l0 l1 l2 imgs => pl_open (hpl l0 l1 l2 imgs) (show last = 0 by omega) (by omega), ⟨by omega, by omega⟩, (by first | omega | (simp only [List.length_append, List.length_cons, List.length_nil]; omega)), ⟨fun q => absurd q (by first | decide | (rw [he6 h7]; decide) | (rcases hla with z | z | z <;> first | exact z.2.1 | (exfalso; omega))), fun _ => hkk⟩, rfl, rfl⟩)
                    · first | exact Ent.refl _ | exact Ent.nil _ | exact Take.ent' (by repeat' constructor) | (repeat (first | exact Ent.refl _ | refine Ent.drop ?_))
          · refine Wp.skip ?_
            refine Wp.seq ?_
            refine Wp.seq ?_
            refine Wp.region ?_
            refine s_fa (o2 := 8) rfl rfl rfl ?_
            refine s_ld rfl rfl (by rfl) ?_
            refine s_eq rfl rfl rfl ?_
            refine WpL.nil ?_
            refine Wp.condD rfl (fun h6 => ?_) (fun h6 => ?_)
            · refine Wp.seq ?_
              refine Wp.region ?_
              refine s_mv rfl rfl ?_
              refine s_mv rfl rfl ?_
              refine s_bd rfl rfl ?_
              refine s_bsA1 rfl rfl (by rfl) (by rfl) (by rfl) (by rfl) ?_
              intro g11
              refine WpL.ent (Ent.own_nil (T := 92) (s := 1) (Ent.refl _)) ?_
              first | (refine s_apR1 (dnE at_) rfl rfl rfl (by repeat' constructor) rfl (by rfl) (by rfl) (by rfl) (by rfl) (by first | omega | (simp only [List.length_append, List.length_cons, List.length_nil]; omega)) (by first | omega | (simp only [List.length_append, List.length_cons, List.length_nil]; omega)) ?_) | (refine s_apR1 (dnE ((at_ : Int))) rfl rfl rfl (by repeat' constructor) rfl (by rfl) (by rfl) (by rfl) (by rfl) (by first | omega | (simp only [List.length_append, List.length_cons, List.length_nil]; omega)) (by first | omega | (simp only [List.length_append, List.length_cons, List.length_nil]; omega)) ?_)
              intro a88 c88
              refine s_mv rfl rfl ?_
              refine s_as rfl rfl ?_
              refine s_as rfl rfl ?_
              refine s_as rfl rfl ?_
              refine WpL.nil ?_
              refine Wp.ret ?_
              apply RetQ.mk
              · exact (Res.three rfl rfl rfl rfl)
              · first | (exfalso; omega) | (exact ⟨_, _, out ++ [(⟨2, 0, 0, 0, 0, out5⟩, (at_ : Int) + 1)] ++ [dnE ((at_ : Int) + 1)], at_, 0, fun l0 l1 l2 imgs => (by have q := pl_end1 (hpl l0 l1 l2 imgs) hl0 hat2 hf.2.1 hs5 h5; rw [atE_some hne] at q; exact q), ⟨by omega, by omega⟩, (by first | omega | (simp only [List.length_append, List.length_cons, List.length_nil]; omega)), ⟨fun _ => ⟨_, _, rfl, fun x hx => by rcases List.mem_append.1 hx with hx | hx; exact hkk x hx; rw [List.mem_singleton.1 hx]; exact ⟨rfl, hw5⟩⟩, fun q => absurd rfl q⟩, rfl, rfl⟩) | (exact ⟨_, _, out ++ [dnE ((at_ : Int) + 1)], at_, 0, fun l0 l1 l2 imgs => (by have q := pl_end1 (hpl l0 l1 l2 imgs) hl0 hat2 hf.2.1 hs5 h5; rw [atE_none he5, List.append_nil] at q; exact q), ⟨by omega, by omega⟩, (by first | omega | (simp only [List.length_append, List.length_cons, List.length_nil]; omega)), ⟨fun _ => ⟨_, out, rfl, hkk⟩, fun q => absurd rfl q⟩, rfl, rfl⟩) | (exact ⟨_, _, out ++ [(⟨2, 0, 0, 0, 0, out5⟩, (at_ : Int) + 1)], at_, e5, fun l0 l1 l2 imgs => (by have q := pl_end2 (hpl l0 l1 l2 imgs) hl0 hat2 hs5 h7 (show e5 ≠ 0 by rw [he6 h7]; decide) (show e5 ≠ 9 by rw [he6 h7]; decide); rw [atE_some hne] at q; exact q), ⟨by omega, by omega⟩, (by first | omega | (simp only [List.length_append, List.length_cons, List.length_nil]; omega)), ⟨fun q => absurd q (by first | decide | (rw [he6 h7]; decide) | (rcases hla with z | z | z <;> first | exact z.2.1 | (exfalso; omega))), fun _ => fun x hx => by rcases List.mem_append.1 hx with hx | hx; exact hkk x hx; rw [List.mem_singleton.1 hx]; exact ⟨rfl, hw5⟩⟩, rfl, rfl⟩) | (exact ⟨_, _, out, at_, e5, fun l0 l1 l2 imgs => (by have q := pl_end2 (hpl l0 l1 l2 imgs) hl0 hat2 hs5 h7 (show e5 ≠ 0 by rw [he6 h7]; decide) (show e5 ≠ 9 by rw [he6 h7]; decide); rw [atE_none he5, List.append_nil] at q; exact q), ⟨by omega, by omega⟩, (by first | omega | (simp only [List.length_append, List.length_cons, List.length_nil]; omega)), ⟨fun q => absurd q (by first | decide | (rw [he6 h7]; decide) | (rcases hla with z | z | z <;> first | exact z.2.1 | (exfalso; omega))), fun _ => hkk⟩, rfl, rfl⟩) | (exact ⟨_, _, out ++ [dnE at_], at_, 0, fun l0 l1 l2 imgs => pl_done (hpl l0 l1 l2 imgs) h6, ⟨by omega, by omega⟩, (by first | omega | (simp only [List.length_append, List.length_cons, List.length_nil]; omega)), ⟨fun _ => ⟨_, out, rfl, hkk⟩, fun q => absurd rfl q⟩, rfl, rfl⟩) | (exact ⟨_, _, out, at_, e, fun l0 l1 l2 imgs => pl_wrong (hpl l0 l1 l2 imgs) h7 (by rcases hla with q | q | q <;> first | exact q.2.1 | (exfalso; omega)) (by rcases hla with q | q | q <;> first | exact q.2.2 | (exfalso; omega)), ⟨by omega, by omega⟩, (by first | omega | (simp only [List.length_append, List.length_cons, List.length_nil]; omega)), ⟨fun q => absurd q (by first | decide | (rw [he6 h7]; decide) | (rcases hla with z | z | z <;> first | exact z.2.1 | (exfalso; omega))), fun _ => hkk⟩, rfl, rfl⟩) | (subst h3; exact ⟨_, _, out, at_, 9, fun l0 l1 l2 imgs => pl_open (hpl l0 l1 l2 imgs) (show last = 0 by omega) (by omega), ⟨by omega, by omega⟩, (by first | omega | (simp only [List.length_append, List.length_cons, List.length_nil]; omega)), ⟨fun q => absurd q (by first | decide | (rw [he6 h7]; decide) | (rcases hla with z | z | z <;> first | exact z.2.1 | (exfalso; omega))), fun _ => hkk⟩, rfl, rfl⟩)
              · first | exact Ent.refl _ | exact Ent.nil _ | exact Take.ent' (by repeat' constructor) | (repeat (first | exact Ent.refl _ | refine Ent.drop ?_))
            · refine Wp.skip ?_
              refine Wp.seq ?_
              refine Wp.seq ?_
              refine Wp.region ?_
              refine s_fa (o2 := 8) rfl rfl rfl ?_
              refine s_ld rfl rfl (by rfl) ?_
              refine s_eq rfl rfl rfl ?_
              refine WpL.nil ?_
              refine Wp.condD rfl (fun h7 => ?_) (fun h7 => ?_)
              · refine Wp.seq ?_
                apply Wp.draw mixed [⟨93, _, []⟩, ⟨94, _, []⟩, ⟨95, _, []⟩, ⟨96, _, [2]⟩, ⟨8, _, [0]⟩, ⟨9, _, [1, 4, 0]⟩, ⟨10, _, [3, 5, 0, 1, 2, 4]⟩] rfl
                · refine AllObs.mk ?_ ?_
                  · refine s_mv rfl rfl ?_
                    exact obN rfl
                  refine AllObs.mk ?_ ?_
                  · refine s_mv rfl rfl ?_
                    exact obN rfl
                  refine AllObs.mk ?_ ?_
                  · refine s_fa (o2 := 9) rfl rfl rfl ?_
                    exact obN rfl
                  refine AllObs.mk ?_ ?_
                  · refine s_ld rfl rfl (by rfl) ?_
                    exact obN rfl
                  refine AllObs.mk ?_ ?_
                  · refine s_as rfl rfl ?_
                    exact obN rfl
                  refine AllObs.mk ?_ ?_
                  · refine s_as rfl rfl ?_
                    exact obN rfl
                  refine AllObs.mk ?_ ?_
                  · refine s_as rfl rfl ?_
                    exact obN rfl
                  exact AllObs.nil
                · refine Wp.ret ?_
                  apply RetQ.mk
                  · exact (Res.three rfl rfl rfl rfl)
                  · first | (exfalso; omega) | (exact ⟨_, _, out ++ [(⟨2, 0, 0, 0, 0, out5⟩, (at_ : Int) + 1)] ++ [dnE ((at_ : Int) + 1)], at_, 0, fun l0 l1 l2 imgs => (by have q := pl_end1 (hpl l0 l1 l2 imgs) hl0 hat2 hf.2.1 hs5 h5; rw [atE_some hne] at q; exact q), ⟨by omega, by omega⟩, (by first | omega | (simp only [List.length_append, List.length_cons, List.length_nil]; omega)), ⟨fun _ => ⟨_, _, rfl, fun x hx => by rcases List.mem_append.1 hx with hx | hx; exact hkk x hx; rw [List.mem_singleton.1 hx]; exact ⟨rfl, hw5⟩⟩, fun q => absurd rfl q⟩, rfl, rfl⟩) | (exact ⟨_, _, out ++ [dnE ((at_ : Int) + 1)], at_, 0, fun l0 l1 l2 imgs => (by have q := pl_end1 (hpl l0 l1 l2 imgs) hl0 hat2 hf.2.1 hs5 h5; rw [atE_none he5, List.append_nil] at q; exact q), ⟨by omega, by omega⟩, (by first | omega | (simp only [List.length_append, List.length_cons, List.length_nil]; omega)), ⟨fun _ => ⟨_, out, rfl, hkk⟩, fun q => absurd rfl q⟩, rfl, rfl⟩) | (exact ⟨_, _, out ++ [(⟨2, 0, 0, 0, 0, out5⟩, (at_ : Int) + 1)], at_, e5, fun l0 l1 l2 imgs => (by have q := pl_end2 (hpl l0 l1 l2 imgs) hl0 hat2 hs5 h7 (show e5 ≠ 0 by rw [he6 h7]; decide) (show e5 ≠ 9 by rw [he6 h7]; decide); rw [atE_some hne] at q; exact q), ⟨by omega, by omega⟩, (by first | omega | (simp only [List.length_append, List.length_cons, List.length_nil]; omega)), ⟨fun q => absurd q (by first | decide | (rw [he6 h7]; decide) | (rcases hla with z | z | z <;> first | exact z.2.1 | (exfalso; omega))), fun _ => fun x hx => by rcases List.mem_append.1 hx with hx | hx; exact hkk x hx; rw [List.mem_singleton.1 hx]; exact ⟨rfl, hw5⟩⟩, rfl, rfl⟩) | (exact ⟨_, _, out, at_, e5, fun l0 l1 l2 imgs => (by have q := pl_end2 (hpl l0 l1 l2 imgs) hl0 hat2 hs5 h7 (show e5 ≠ 0 by rw [he6 h7]; decide) (show e5 ≠ 9 by rw [he6 h7]; decide); rw [atE_none he5, List.append_nil] at q; exact q), ⟨by omega, by omega⟩, (by first | omega | (simp only [List.length_append, List.length_cons, List.length_nil]; omega)), ⟨fun q => absurd q (by first | decide | (rw [he6 h7]; decide) | (rcases hla with z | z | z <;> first | exact z.2.1 | (exfalso; omega))), fun _ => hkk⟩, rfl, rfl⟩) | (exact ⟨_, _, out ++ [dnE at_], at_, 0, fun l0 l1 l2 imgs => pl_done (hpl l0 l1 l2 imgs) h6, ⟨by omega, by omega⟩, (by first | omega | (simp only [List.length_append, List.length_cons, List.length_nil]; omega)), ⟨fun _ => ⟨_, out, rfl, hkk⟩, fun q => absurd rfl q⟩, rfl, rfl⟩) | (exact ⟨_, _, out, at_, e, fun l0 l1 l2 imgs => pl_wrong (hpl l0 l1 l2 imgs) h7 (by rcases hla with q | q | q <;> first | exact q.2.1 | (exfalso; omega)) (by rcases hla with q | q | q <;> first | exact q.2.2 | (exfalso; omega)), ⟨by omega, by omega⟩, (by first | omega | (simp only [List.length_append, List.length_cons, List.length_nil]; omega)), ⟨fun q => absurd q (by first | decide | (rw [he6 h7]; decide) | (rcases hla with z | z | z <;> first | exact z.2.1 | (exfalso; omega))), fun _ => hkk⟩, rfl, rfl⟩) | (subst h3; exact ⟨_, _, out, at_, 9, fun l0 l1 l2 imgs => pl_open (hpl l0 l1 l2 imgs) (show last = 0 by omega) (by omega), ⟨by omega, by omega⟩, (by first | omega | (simp only [List.length_append, List.length_cons, List.length_nil]; omega)), ⟨fun q => absurd q (by first | decide | (rw [he6 h7]; decide) | (rcases hla with z | z | z <;> first | exact z.2.1 | (exfalso; omega))), fun _ => hkk⟩, rfl, rfl⟩)
                  · first | exact Ent.refl _ | exact Ent.nil _ | exact Take.ent' (by repeat' constructor) | (repeat (first | exact Ent.refl _ | refine Ent.drop ?_))
              · refine Wp.skip ?_
                refine Wp.seq ?_
                refine Wp.region ?_
                refine s_mv rfl rfl ?_
                refine s_mv rfl rfl ?_
                refine s_as rfl rfl ?_
                refine s_as rfl rfl ?_
                refine s_as rfl rfl ?_
                refine WpL.nil ?_
                refine Wp.ret ?_
                apply RetQ.mk
                · exact (Res.three rfl rfl rfl rfl)
                · first | (exfalso; omega) | (exact ⟨_, _, out ++ [(⟨2, 0, 0, 0, 0, out5⟩, (at_ : Int) + 1)] ++ [dnE ((at_ : Int) + 1)], at_, 0, fun l0 l1 l2 imgs => (by have q := pl_end1 (hpl l0 l1 l2 imgs) hl0 hat2 hf.2.1 hs5 h5; rw [atE_some hne] at q; exact q), ⟨by omega, by omega⟩, (by first | omega | (simp only [List.length_append, List.length_cons, List.length_nil]; omega)), ⟨fun _ => ⟨_, _, rfl, fun x hx => by rcases List.mem_append.1 hx with hx | hx; exact hkk x hx; rw [List.mem_singleton.1 hx]; exact ⟨rfl, hw5⟩⟩, fun q => absurd rfl q⟩, rfl, rfl⟩) | (exact ⟨_, _, out ++ [dnE ((at_ : Int) + 1)], at_, 0, fun l0 l1 l2 imgs => (by have q := pl_end1 (hpl l0 l1 l2 imgs) hl0 hat2 hf.2.1 hs5 h5; rw [atE_none he5, List.append_nil] at q; exact q), ⟨by omega, by omega⟩, (by first | omega | (simp only [List.length_append, List.length_cons, List.length_nil]; omega)), ⟨fun _ => ⟨_, out, rfl, hkk⟩, fun q => absurd rfl q⟩, rfl, rfl⟩) | (exact ⟨_, _, out ++ [(⟨2, 0, 0, 0, 0, out5⟩, (at_ : Int) + 1)], at_, e5, fun l0 l1 l2 imgs => (by have q := pl_end2 (hpl l0 l1 l2 imgs) hl0 hat2 hs5 h7 (show e5 ≠ 0 by rw [he6 h7]; decide) (show e5 ≠ 9 by rw [he6 h7]; decide); rw [atE_some hne] at q; exact q), ⟨by omega, by omega⟩, (by first | omega | (simp only [List.length_append, List.length_cons, List.length_nil]; omega)), ⟨fun q => absurd q (by first | decide | (rw [he6 h7]; decide) | (rcases hla with z | z | z <;> first | exact z.2.1 | (exfalso; omega))), fun _ => fun x hx => by rcases List.mem_append.1 hx with hx | hx; exact hkk x hx; rw [List.mem_singleton.1 hx]; exact ⟨rfl, hw5⟩⟩, rfl, rfl⟩) | (exact ⟨_, _, out, at_, e5, fun l0 l1 l2 imgs => (by have q := pl_end2 (hpl l0 l1 l2 imgs) hl0 hat2 hs5 h7 (show e5 ≠ 0 by rw [he6 h7]; decide) (show e5 ≠ 9 by rw [he6 h7]; decide); rw [atE_none he5, List.append_nil] at q; exact q), ⟨by omega, by omega⟩, (by first | omega | (simp only [List.length_append, List.length_cons, List.length_nil]; omega)), ⟨fun q => absurd q (by first | decide | (rw [he6 h7]; decide) | (rcases hla with z | z | z <;> first | exact z.2.1 | (exfalso; omega))), fun _ => hkk⟩, rfl, rfl⟩) | (exact ⟨_, _, out ++ [dnE at_], at_, 0, fun l0 l1 l2 imgs => pl_done (hpl l0 l1 l2 imgs) h6, ⟨by omega, by omega⟩, (by first | omega | (simp only [List.length_append, List.length_cons, List.length_nil]; omega)), ⟨fun _ => ⟨_, out, rfl, hkk⟩, fun q => absurd rfl q⟩, rfl, rfl⟩) | (exact ⟨_, _, out, at_, e, fun l0 l1 l2 imgs => pl_wrong (hpl l0 l1 l2 imgs) h7 (by rcases hla with q | q | q <;> first | exact q.2.1 | (exfalso; omega)) (by rcases hla with q | q | q <;> first | exact q.2.2 | (exfalso; omega)), ⟨by omega, by omega⟩, (by first | omega | (simp only [List.length_append, List.length_cons, List.length_nil]; omega)), ⟨fun q => absurd q (by first | decide | (rw [he6 h7]; decide) | (rcases hla with z | z | z <;> first | exact z.2.1 | (exfalso; omega))), fun _ => hkk⟩, rfl, rfl⟩) | (subst h3; exact ⟨_, _, out, at_, 9, fun l0 l1 l2 imgs => pl_open (hpl l0 l1 l2 imgs) (show last = 0 by omega) (by omega), ⟨by omega, by omega⟩, (by first | omega | (simp only [List.length_append, List.length_cons, List.length_nil]; omega)), ⟨fun q => absurd q (by first | decide | (rw [he6 h7]; decide) | (rcases hla with z | z | z <;> first | exact z.2.1 | (exfalso; omega))), fun _ => hkk⟩, rfl, rfl⟩)
                · first | exact Ent.refl _ | exact Ent.nil _ | exact Take.ent' (by repeat' constructor) | (repeat (first | exact Ent.refl _ | refine Ent.drop ?_))
        · have hg2 := of_decide_eq_false hg2
          refine s_pickF rfl rfl rfl ?_
          refine WpL.nil ?_
          refine Wp.condF rfl ?_
          refine Wp.skip ?_
          refine Wp.seq ?_
          refine Wp.seq ?_
          refine Wp.region ?_
          refine s_fa (o2 := 8) rfl rfl rfl ?_
          refine s_ld rfl rfl (by rfl) ?_
          refine s_eq rfl rfl rfl ?_
          refine WpL.nil ?_
          refine Wp.condD rfl (fun h6 => ?_) (fun h6 => ?_)
          · refine Wp.seq ?_
            refine Wp.region ?_
            refine s_mv rfl rfl ?_
            refine s_mv rfl rfl ?_
            refine s_bd rfl rfl ?_
            refine s_bsA1 rfl rfl (by rfl) (by rfl) (by rfl) (by rfl) ?_
            intro g12
            refine WpL.ent (Ent.own_nil (T := 92) (s := 1) (Ent.refl _)) ?_
            first | (refine s_apR1 (dnE at_) rfl rfl rfl (by repeat' constructor) rfl (by rfl) (by rfl) (by rfl) (by rfl) (by first | omega | (simp only [List.length_append, List.length_cons, List.length_nil]; omega)) (by first | omega | (simp only [List.length_append, List.length_cons, List.length_nil]; omega)) ?_) | (refine s_apR1 (dnE ((at_ : Int))) rfl rfl rfl (by repeat' constructor) rfl (by rfl) (by rfl) (by rfl) (by rfl) (by first | omega | (simp only [List.length_append, List.length_cons, List.length_nil]; omega)) (by first | omega | (simp only [List.length_append, List.length_cons, List.length_nil]; omega)) ?_)
            intro a88 c88
            refine s_mv rfl rfl ?_
            refine s_as rfl rfl ?_
            refine s_as rfl rfl ?_
            refine s_as rfl rfl ?_
            refine WpL.nil ?_
            refine Wp.ret ?_
            apply RetQ.mk
            · exact (Res.three rfl rfl rfl rfl)
            · first | (exfalso; omega) | (exact ⟨_, _, out ++ [(⟨2, 0, 0, 0, 0, out5⟩, (at_ : Int) + 1)] ++ [dnE ((at_ : Int) + 1)], at_, 0, fun l0 l1 l2 imgs => (by have q := pl_end1 (hpl l0 l1 l2 imgs) hl0 hat2 hf.2.1 hs5 h5; rw [atE_some hne] at q; exact q), ⟨by omega, by omega⟩, (by first | omega | (simp only [List.length_append, List.length_cons, List.length_nil]; omega)), ⟨fun _ => ⟨_, _, rfl, fun x hx => by rcases List.mem_append.1 hx with hx | hx; exact hkk x hx; rw [List.mem_singleton.1 hx]; exact ⟨rfl, hw5⟩⟩, fun q => absurd rfl q⟩, rfl, rfl⟩) | (exact ⟨_, _, out ++ [dnE ((at_ : Int) + 1)], at_, 0, fun l0 l1 l2 imgs => (by have q := pl_end1 (hpl l0 l1 l2 imgs) hl0 hat2 hf.2.1 hs5 h5; rw [atE_none he5, List.append_nil] at q; exact q), ⟨by omega, by omega⟩, (by first | omega | (simp only [List.length_append, List.length_cons, List.length_nil]; omega)), ⟨fun _ => ⟨_, out, rfl, hkk⟩, fun q => absurd rfl q⟩, rfl, rfl⟩) | (exact ⟨_, _, out ++ [(⟨2, 0, 0, 0, 0, out5⟩, (at_ : Int) + 1)], at_, e5, fun l0 l1 l2 imgs => (by have q := pl_end2 (hpl l0 l1 l2 imgs) hl0 hat2 hs5 h7 (show e5 ≠ 0 by rw [he6 h7]; decide) (show e5 ≠ 9 by rw [he6 h7]; decide); rw [atE_some hne] at q; exact q), ⟨by omega, by omega⟩, (by first | omega | (simp only [List.length_append, List.length_cons, List.length_nil]; omega)), ⟨fun q => absurd q (by first | decide | (rw [he6 h7]; decide) | (rcases hla with z | z | z <;> first | exact z.2.1 | (exfalso; omega))), fun _ => fun x hx => by rcases List.mem_append.1 hx with hx | hx; exact hkk x hx; rw [List.mem_singleton.1 hx]; exact ⟨rfl, hw5⟩⟩, rfl, rfl⟩) | (exact ⟨_, _, out, at_, e5, fun l0 l1 l2 imgs => (by have q := pl_end2 (hpl l0 l1 l2 imgs) hl0 hat2 hs5 h7 (show e5 ≠ 0 by rw [he6 h7]; decide) (show e5 ≠ 9 by rw [he6 h7]; decide); rw [atE_none he5, List.append_nil] at q; exact q), ⟨by omega, by omega⟩, (by first | omega | (simp only [List.length_append, List.length_cons, List.length_nil]; omega)), ⟨fun q => absurd q (by first | decide | (rw [he6 h7]; decide) | (rcases hla with z | z | z <;> first | exact z.2.1 | (exfalso; omega))), fun _ => hkk⟩, rfl, rfl⟩) | (exact ⟨_, _, out ++ [dnE at_], at_, 0, fun l0 l1 l2 imgs => pl_done (hpl l0 l1 l2 imgs) h6, ⟨by omega, by omega⟩, (by first | omega | (simp only [List.length_append, List.length_cons, List.length_nil]; omega)), ⟨fun _ => ⟨_, out, rfl, hkk⟩, fun q => absurd rfl q⟩, rfl, rfl⟩) | (exact ⟨_, _, out, at_, e, fun l0 l1 l2 imgs => pl_wrong (hpl l0 l1 l2 imgs) h7 (by rcases hla with q | q | q <;> first | exact q.2.1 | (exfalso; omega)) (by rcases hla with q | q | q <;> first | exact q.2.2 | (exfalso; omega)), ⟨by omega, by omega⟩, (by first | omega | (simp only [List.length_append, List.length_cons, List.length_nil]; omega)), ⟨fun q => absurd q (by first | decide | (rw [he6 h7]; decide) | (rcases hla with z | z | z <;> first | exact z.2.1 | (exfalso; omega))), fun _ => hkk⟩, rfl, rfl⟩) | (subst h3; exact ⟨_, _, out, at_, 9, fun l0 l1 l2 imgs => pl_open (hpl l0 l1 l2 imgs) (show last = 0 by omega) (by omega), ⟨by omega, by omega⟩, (by first | omega | (simp only [List.length_append, List.length_cons, List.length_nil]; omega)), ⟨fun q => absurd q (by first | decide | (rw [he6 h7]; decide) | (rcases hla with z | z | z <;> first | exact z.2.1 | (exfalso; omega))), fun _ => hkk⟩, rfl, rfl⟩)
            · first | exact Ent.refl _ | exact Ent.nil _ | exact Take.ent' (by repeat' constructor) | (repeat (first | exact Ent.refl _ | refine Ent.drop ?_))
          · refine Wp.skip ?_
            refine Wp.seq ?_
            refine Wp.seq ?_
            refine Wp.region ?_
            refine s_fa (o2 := 8) rfl rfl rfl ?_
            refine s_ld rfl rfl (by rfl) ?_
            refine s_eq rfl rfl rfl ?_
            refine WpL.nil ?_
            refine Wp.condD rfl (fun h7 => ?_) (fun h7 => ?_)
            · refine Wp.seq ?_
              apply Wp.draw mixed [⟨93, _, []⟩, ⟨94, _, []⟩, ⟨95, _, []⟩, ⟨96, _, [2]⟩, ⟨8, _, [0]⟩, ⟨9, _, [1, 4, 0]⟩, ⟨10, _, [3, 5, 0, 1, 2, 4]⟩] rfl
              · refine AllObs.mk ?_ ?_
                · refine s_mv rfl rfl ?_
                  exact obN rfl
                refine AllObs.mk ?_ ?_
                · refine s_mv rfl rfl ?_
                  exact obN rfl
                refine AllObs.mk ?_ ?_
                · refine s_fa (o2 := 9) rfl rfl rfl ?_
                  exact obN rfl
                refine AllObs.mk ?_ ?_
                · refine s_ld rfl rfl (by rfl) ?_
                  exact obN rfl
                refine AllObs.mk ?_ ?_
                · refine s_as rfl rfl ?_
                  exact obN rfl
                refine AllObs.mk ?_ ?_
                · refine s_as rfl rfl ?_
                  exact obN rfl
                refine AllObs.mk ?_ ?_
                · refine s_as rfl rfl ?_
                  exact obN rfl
                exact AllObs.nil
              · refine Wp.ret ?_
                apply RetQ.mk
                · exact (Res.three rfl rfl rfl rfl)
                · first | (exfalso; omega) | (exact ⟨_, _, out ++ [(⟨2, 0, 0, 0, 0, out5⟩, (at_ : Int) + 1)] ++ [dnE ((at_ : Int) + 1)], at_, 0, fun l0 l1 l2 imgs => (by have q := pl_end1 (hpl l0 l1 l2 imgs) hl0 hat2 hf.2.1 hs5 h5; rw [atE_some hne] at q; exact q), ⟨by omega, by omega⟩, (by first | omega | (simp only [List.length_append, List.length_cons, List.length_nil]; omega)), ⟨fun _ => ⟨_, _, rfl, fun x hx => by rcases List.mem_append.1 hx with hx | hx; exact hkk x hx; rw [List.mem_singleton.1 hx]; exact ⟨rfl, hw5⟩⟩, fun q => absurd rfl q⟩, rfl, rfl⟩) | (exact ⟨_, _, out ++ [dnE ((at_ : Int) + 1)], at_, 0, fun l0 l1 l2 imgs => (by have q := pl_end1 (hpl l0 l1 l2 imgs) hl0 hat2 hf.2.1 hs5 h5; rw [atE_none he5, List.append_nil] at q; exact q), ⟨by omega, by omega⟩, (by first | omega | (simp only [List.length_append, List.length_cons, List.length_nil]; omega)), ⟨fun _ => ⟨_, out, rfl, hkk⟩, fun q => absurd rfl q⟩, rfl, rfl⟩) | (exact ⟨_, _, out ++ [(⟨2, 0, 0, 0, 0, out5⟩, (at_ : Int) + 1)], at_, e5, fun l0 l1 l2 imgs => (by have q := pl_end2 (hpl l0 l1 l2 imgs) hl0 hat2 hs5 h7 (show e5 ≠ 0 by rw [he6 h7]; decide) (show e5 ≠ 9 by rw [he6 h7]; decide); rw [atE_some hne] at q; exact q), ⟨by omega, by omega⟩, (by first | omega | (simp only [List.length_append, List.length_cons, List.length_nil]; omega)), ⟨fun q => absurd q (by first | decide | (rw [he6 h7]; decide) | (rcases hla with z | z | z <;> first | exact z.2.1 | (exfalso; omega))), fun _ => fun x hx => by rcases List.mem_append.1 hx with hx | hx; exact hkk x hx; rw [List.mem_singleton.1 hx]; exact ⟨rfl, hw5⟩⟩, rfl, rfl⟩) | (exact ⟨_, _, out, at_, e5, fun l0 l1 l2 imgs => (by have q := pl_end2 (hpl l0 l1 l2 imgs) hl0 hat2 hs5 h7 (show e5 ≠ 0 by rw [he6 h7]; decide) (show e5 ≠ 9 by rw [he6 h7]; decide); rw [atE_none he5, List.append_nil] at q; exact q), ⟨by omega, by omega⟩, (by first | omega | (simp only [List.length_append, List.length_cons, List.length_nil]; omega)), ⟨fun q => absurd q (by first | decide | (rw [he6 h7]; decide) | (rcases hla with z | z | z <;> first | exact z.2.1 | (exfalso; omega))), fun _ => hkk⟩, rfl, rfl⟩) | (exact ⟨_, _, out ++ [dnE at_], at_, 0, fun l0 l1 l2 imgs => pl_done (hpl l0 l1 l2 imgs) h6, ⟨by omega, by omega⟩, (by first | omega | (simp only [List.length_append, List.length_cons, List.length_nil]; omega)), ⟨fun _ => ⟨_, out, rfl, hkk⟩, fun q => absurd rfl q⟩, rfl, rfl⟩) | (exact ⟨_, _, out, at_, e, fun l0 l1 l2 imgs => pl_wrong (hpl l0 l1 l2 imgs) h7 (by rcases hla with q | q | q <;> first | exact q.2.1 | (exfalso; omega)) (by rcases hla with q | q | q <;> first | exact q.2.2 | (exfalso; omega)), ⟨by omega, by omega⟩, (by first | omega | (simp only [List.length_append, List.length_cons, List.length_nil]; omega)), ⟨fun q => absurd q (by first | decide | (rw [he6 h7]; decide) | (rcases hla with z | z | z <;> first | exact z.2.1 | (exfalso; omega))), fun _ => hkk⟩, rfl, rfl⟩) | (subst h3; exact ⟨_, _, out, at_, 9, fun l0 l1 l2 imgs => pl_open (hpl l0 l1 l2 imgs) (show last = 0 by omega) (by omega), ⟨by omega, by omega⟩, (by first | omega | (simp only [List.length_append, List.length_cons, List.length_nil]; omega)), ⟨fun q => absurd q (by first | decide | (rw [he6 h7]; decide) | (rcases hla with z | z | z <;> first | exact z.2.1 | (exfalso; omega))), fun _ => hkk⟩, rfl, rfl⟩)
                · first | exact Ent.refl _ | exact Ent.nil _ | exact Take.ent' (by repeat' constructor) | (repeat (first | exact Ent.refl _ | refine Ent.drop ?_))
            · refine Wp.skip ?_
              refine Wp.seq ?_
              refine Wp.region ?_
              refine s_mv rfl rfl ?_
              refine s_mv rfl rfl ?_
              refine s_as rfl rfl ?_
              refine s_as rfl rfl ?_
              refine s_as rfl rfl ?_
              refine WpL.nil ?_
              refine Wp.ret ?_
              apply RetQ.mk
              · exact (Res.three rfl rfl rfl rfl)
              · first | (exfalso; omega) | (exact ⟨_, _, out ++ [(⟨2, 0, 0, 0, 0, out5⟩, (at_ : Int) + 1)] ++ [dnE ((at_ : Int) + 1)], at_, 0, fun l0 l1 l2 imgs => (by have q := pl_end1 (hpl l0 l1 l2 imgs) hl0 hat2 hf.2.1 hs5 h5; rw [atE_some hne] at q; exact q), ⟨by omega, by omega⟩, (by first | omega | (simp only [List.length_append, List.length_cons, List.length_nil]; omega)), ⟨fun _ => ⟨_, _, rfl, fun x hx => by rcases List.mem_append.1 hx with hx | hx; exact hkk x hx; rw [List.mem_singleton.1 hx]; exact ⟨rfl, hw5⟩⟩, fun q => absurd rfl q⟩, rfl, rfl⟩) | (exact ⟨_, _, out ++ [dnE ((at_ : Int) + 1)], at_, 0, fun l0 l1 l2 imgs => (by have q := pl_end1 (hpl l0 l1 l2 imgs) hl0 hat2 hf.2.1 hs5 h5; rw [atE_none he5, List.append_nil] at q; exact q), ⟨by omega, by omega⟩, (by first | omega | (simp only [List.length_append, List.length_cons, List.length_nil]; omega)), ⟨fun _ => ⟨_, out, rfl, hkk⟩, fun q => absurd rfl q⟩, rfl, rfl⟩) | (exact ⟨_, _, out ++ [(⟨2, 0, 0, 0, 0, out5⟩, (at_ : Int) + 1)], at_, e5, fun l0 l1 l2 imgs => (by have q := pl_end2 (hpl l0 l1 l2 imgs) hl0 hat2 hs5 h7 (show e5 ≠ 0 by rw [he6 h7]; decide) (show e5 ≠ 9 by rw [he6 h7]; decide); rw [atE_some hne] at q; exact q), ⟨by omega, by omega⟩, (by first | omega | (simp only [List.length_append, List.length_cons, List.length_nil]; omega)), ⟨fun q => absurd q (by first | decide | (rw [he6 h7]; decide) | (rcases hla with z | z | z <;> first | exact z.2.1 | (exfalso; omega))), fun _ => fun x hx => by rcases List.mem_append.1 hx with hx | hx; exact hkk x hx; rw [List.mem_singleton.1 hx]; exact ⟨rfl, hw5⟩⟩, rfl, rfl⟩) | (exact ⟨_, _, out, at_, e5, fun l0 l1 l2 imgs => (by have q := pl_end2 (hpl l0 l1 l2 imgs) hl0 hat2 hs5 h7 (show e5 ≠ 0 by rw [he6 h7]; decide) (show e5 ≠ 9 by rw [he6 h7]; decide); rw [atE_none he5, List.append_nil] at q; exact q), ⟨by omega, by omega⟩, (by first | omega | (simp only [List.length_append, List.length_cons, List.length_nil]; omega)), ⟨fun q => absurd q (by first | decide | (rw [he6 h7]; decide) | (rcases hla with z | z | z <;> first | exact z.2.1 | (exfalso; omega))), fun _ => hkk⟩, rfl, rfl⟩) | (exact ⟨_, _, out ++ [dnE at_], at_, 0, fun l0 l1 l2 imgs => pl_done (hpl l0 l1 l2 imgs) h6, ⟨by omega, by omega⟩, (by first | omega | (simp only [List.length_append, List.length_cons, List.length_nil]; omega)), ⟨fun _ => ⟨_, out, rfl, hkk⟩, fun q => absurd rfl q⟩, rfl, rfl⟩) | (exact ⟨_, _, out, at_, e, fun l0 l1 l2 imgs => pl_wrong (hpl l0 l1 l2 imgs) h7 (by rcases hla with q | q | q <;> first | exact q.2.1 | (exfalso; omega)) (by rcases hla with q | q | q <;> first | exact q.2.2 | (exfalso; omega)), ⟨by omega, by omega⟩, (by first | omega | (simp only [List.length_append, List.length_cons, List.length_nil]; omega)), ⟨fun q => absurd q (by first | decide | (rw [he6 h7]; decide) | (rcases hla with z | z | z <;> first | exact z.2.1 | (exfalso; omega))), fun _ => hkk⟩, rfl, rfl⟩) | (subst h3; exact ⟨_, _, out, at_, 9, fun l0 l1 l2 imgs => pl_open (hpl l0 l1 l2 imgs) (show last = 0 by omega) (by omega), ⟨by omega, by omega⟩, (by first | omega | (simp only [List.length_append, List.length_cons, List.length_nil]; omega)), ⟨fun q => absurd q (by first | decide | (rw [he6 h7]; decide) | (rcases hla with z | z | z <;> first | exact z.2.1 | (exfalso; omega))), fun _ => hkk⟩, rfl, rfl⟩)
              · first | exact Ent.refl _ | exact Ent.nil _ | exact Take.ent' (by repeat' constructor) | (repeat (first | exact Ent.refl _ | refine Ent.drop ?_))
    · have hg1 := of_decide_eq_false hg1
      refine WpL.goff rfl rfl rfl (by decide) ?_
      refine WpL.goff rfl rfl rfl (by decide) ?_
      refine s_pickF rfl rfl rfl ?_
      refine WpL.nil ?_
      refine Wp.condF rfl ?_
      refine Wp.exit ?_
      refine Wp.seq ?_
      refine Wp.seq ?_
      refine Wp.region ?_
      refine s_fa (o2 := 8) rfl rfl rfl ?_
      refine s_ld rfl rfl (by rfl) ?_
      refine s_eq rfl rfl rfl ?_
      refine s_mv rfl rfl ?_
      refine WpL.grd rfl rfl rfl (fun hg3 => ?_) (fun hg3 => ?_)
      · have hg3 := of_decide_eq_true hg3
        refine s_mv rfl rfl ?_
        refine s_pickT rfl rfl rfl ?_
        refine WpL.nil ?_
        refine Wp.cond rfl (fun h3 => ?_) (fun h3 => ?_)
        · have hl0 : last = 0 := by omega
          have hat2 : bs.length ≤ at_ := by omega
          subst h3
          refine Wp.seq ?_
          refine Wp.region ?_
          refine s_lda (vs := [_, _, _, _, _, _, _, _, _, _]) rfl rfl rfl (by rfl) ?_
          refine s_callf rfl rfl (by repeat' constructor) (rEnd_spec _ _ _ _ _ _ _ _ _ _ _ _ _ _ (by have := hM.1; omega) (by have := hM.1; omega) hq1 hq2 (by have := hM.2.1; omega) hq3 hq4 hqn hqk (by have := hM.2.2.2.1; omega) (by have := hM.2.2.2.1; omega)) ?_
          rintro _ _ ⟨n5, one5, row5, rows5, last5, e5, out5, a1, c1, a2, c2, a3, c3, hs5, rfl, rfl⟩
          simp only [napp]
          have hw5 : out5.length ≤ 4096 := by have q := endR_w (K := h.K) (H := h.H) (s := ⟨n, one, row, rows, last, e⟩) hq2 (by have := hM.2.1; omega); rw [← hs5] at q; exact q
          have hl5 := endR_last3 (K := h.K) (W := h.W) (H := h.H) (s := (⟨n, one, row, rows, last, e⟩ : RS)) hl0
          have hl5n := endR_last (K := h.K) (W := h.W) (H := h.H) (s := (⟨n, one, row, rows, last, e⟩ : RS))
          have he6 : last5 = 2 → e5 = 6 := fun q => by have := endR_e (K := h.K) (W := h.W) (H := h.H) (s := (⟨n, one, row, rows, last, e⟩ : RS)) hl0; rw [← hs5] at this; exact this q
          rw [← hs5] at hl5 hl5n
          dsimp only at hl5 hl5n
          refine s_mv rfl rfl ?_
          refine s_ext rfl rfl rfl ?_
          refine s_ext rfl rfl rfl ?_
          refine s_al rfl ?_
          intro gT
          refine s_sta rfl rfl rfl (by rfl) rfl ?_
          refine s_as rfl rfl ?_
          refine WpL.nil ?_
          refine Wp.seq ?_
          refine Wp.region ?_
          refine s_lda (vs := [_, _, _, _, _, _, _, _, _, _]) rfl rfl rfl (by rfl) ?_
          refine s_sta rfl rfl rfl (by rfl) rfl ?_
          refine WpL.nil ?_
          refine Wp.seq ?_
          refine Wp.seq ?_
          refine Wp.region ?_
          refine s_mv rfl rfl ?_
          refine s_lenl rfl rfl ?_
          refine s_gt rfl rfl rfl ?_
          refine WpL.nil ?_
          refine Wp.condD rfl (fun h4 => ?_) (fun h4 => ?_)
          · have hne : out5 ≠ [] := fun q => by rw [q] at h4; simp at h4
            refine Wp.region ?_
            refine s_mv rfl rfl ?_
            refine s_mv rfl rfl ?_
            refine s_mv rfl rfl ?_
            first | refine s_add rfl rfl rfl (w_i64 (by omega) (by omega)) ?_ | refine s_addw rfl rfl rfl ?_
            refine s_bd rfl rfl ?_
            refine s_bsA1 rfl rfl (by rfl) (by rfl) (by rfl) (by rfl) ?_
            intro g14
            refine s_apR1 ((⟨2, 0, 0, 0, 0, out5⟩, (at_ : Int) + 1)) rfl rfl rfl (by repeat' constructor) rfl (by rfl) (by rfl) (by rfl) (by rfl) (by first | omega | (simp only [List.length_append, List.length_cons, List.length_nil]; omega)) (by first | omega | (simp only [List.length_append, List.length_cons, List.length_nil]; omega)) ?_
            intro a70 c70
            refine s_as rfl rfl ?_
            refine WpL.nil ?_
            refine Wp.seq ?_
            refine Wp.region ?_
            refine s_fa (o2 := 8) rfl rfl rfl ?_
            refine s_ld rfl rfl (by rfl) ?_
            refine s_eq rfl rfl rfl ?_
            refine WpL.nil ?_
            refine Wp.condD rfl (fun h5 => ?_) (fun h5 => ?_)
            · refine Wp.seq ?_
              refine Wp.region ?_
              refine s_mv rfl rfl ?_
              refine s_mv rfl rfl ?_
              first | refine s_add rfl rfl rfl (w_i64 (by omega) (by omega)) ?_ | refine s_addw rfl rfl rfl ?_
              refine s_bd rfl rfl ?_
              refine s_bsA1 rfl rfl (by rfl) (by rfl) (by rfl) (by rfl) ?_
              intro g15
              refine WpL.ent (Ent.own_nil (T := 92) (s := 1) (Ent.refl _)) ?_
              refine s_apR1 (dnE ((at_ : Int) + 1)) rfl rfl rfl (by repeat' constructor) rfl (by rfl) (by rfl) (by rfl) (by rfl) (by first | omega | (simp only [List.length_append, List.length_cons, List.length_nil]; omega)) (by first | omega | (simp only [List.length_append, List.length_cons, List.length_nil]; omega)) ?_
              intro a79 c79
              refine s_mv rfl rfl ?_
              refine s_as rfl rfl ?_
              refine s_as rfl rfl ?_
              refine s_as rfl rfl ?_
              refine WpL.nil ?_
              refine Wp.ret ?_
              apply RetQ.mk
              · exact (Res.three rfl rfl rfl rfl)
              · first | (exfalso; omega) | (exact ⟨_, _, out ++ [(⟨2, 0, 0, 0, 0, out5⟩, (at_ : Int) + 1)] ++ [dnE ((at_ : Int) + 1)], at_, 0, fun l0 l1 l2 imgs => (by have q := pl_end1 (hpl l0 l1 l2 imgs) hl0 hat2 hf.2.1 hs5 h5; rw [atE_some hne] at q; exact q), ⟨by omega, by omega⟩, (by first | omega | (simp only [List.length_append, List.length_cons, List.length_nil]; omega)), ⟨fun _ => ⟨_, _, rfl, fun x hx => by rcases List.mem_append.1 hx with hx | hx; exact hkk x hx; rw [List.mem_singleton.1 hx]; exact ⟨rfl, hw5⟩⟩, fun q => absurd rfl q⟩, rfl, rfl⟩) | (exact ⟨_, _, out ++ [dnE ((at_ : Int) + 1)], at_, 0, fun l0 l1 l2 imgs => (by have q := pl_end1 (hpl l0 l1 l2 imgs) hl0 hat2 hf.2.1 hs5 h5; rw [atE_none he5, List.append_nil] at q; exact q), ⟨by omega, by omega⟩, (by first | omega | (simp only [List.length_append, List.length_cons, List.length_nil]; omega)), ⟨fun _ => ⟨_, out, rfl, hkk⟩, fun q => absurd rfl q⟩, rfl, rfl⟩) | (exact ⟨_, _, out ++ [(⟨2, 0, 0, 0, 0, out5⟩, (at_ : Int) + 1)], at_, e5, fun l0 l1 l2 imgs => (by have q := pl_end2 (hpl l0 l1 l2 imgs) hl0 hat2 hs5 h7 (show e5 ≠ 0 by rw [he6 h7]; decide) (show e5 ≠ 9 by rw [he6 h7]; decide); rw [atE_some hne] at q; exact q), ⟨by omega, by omega⟩, (by first | omega | (simp only [List.length_append, List.length_cons, List.length_nil]; omega)), ⟨fun q => absurd q (by first | decide | (rw [he6 h7]; decide) | (rcases hla with z | z | z <;> first | exact z.2.1 | (exfalso; omega))), fun _ => fun x hx => by rcases List.mem_append.1 hx with hx | hx; exact hkk x hx; rw [List.mem_singleton.1 hx]; exact ⟨rfl, hw5⟩⟩, rfl, rfl⟩) | (exact ⟨_, _, out, at_, e5, fun l0 l1 l2 imgs => (by have q := pl_end2 (hpl l0 l1 l2 imgs) hl0 hat2 hs5 h7 (show e5 ≠ 0 by rw [he6 h7]; decide) (show e5 ≠ 9 by rw [he6 h7]; decide); rw [atE_none he5, List.append_nil] at q; exact q), ⟨by omega, by omega⟩, (by first | omega | (simp only [List.length_append, List.length_cons, List.length_nil]; omega)), ⟨fun q => absurd q (by first | decide | (rw [he6 h7]; decide) | (rcases hla with z | z | z <;> first | exact z.2.1 | (exfalso; omega))), fun _ => hkk⟩, rfl, rfl⟩) | (exact ⟨_, _, out ++ [dnE at_], at_, 0, fun l0 l1 l2 imgs => pl_done (hpl l0 l1 l2 imgs) h6, ⟨by omega, by omega⟩, (by first | omega | (simp only [List.length_append, List.length_cons, List.length_nil]; omega)), ⟨fun _ => ⟨_, out, rfl, hkk⟩, fun q => absurd rfl q⟩, rfl, rfl⟩) | (exact ⟨_, _, out, at_, e, fun l0 l1 l2 imgs => pl_wrong (hpl l0 l1 l2 imgs) h7 (by rcases hla with q | q | q <;> first | exact q.2.1 | (exfalso; omega)) (by rcases hla with q | q | q <;> first | exact q.2.2 | (exfalso; omega)), ⟨by omega, by omega⟩, (by first | omega | (simp only [List.length_append, List.length_cons, List.length_nil]; omega)), ⟨fun q => absurd q (by first | decide | (rw [he6 h7]; decide) | (rcases hla with z | z | z <;> first | exact z.2.1 | (exfalso; omega))), fun _ => hkk⟩, rfl, rfl⟩) | (subst h3; exact ⟨_, _, out, at_, 9, fun l0 l1 l2 imgs => pl_open (hpl l0 l1 l2 imgs) (show last = 0 by omega) (by omega), ⟨by omega, by omega⟩, (by first | omega | (simp only [List.length_append, List.length_cons, List.length_nil]; omega)), ⟨fun q => absurd q (by first | decide | (rw [he6 h7]; decide) | (rcases hla with z | z | z <;> first | exact z.2.1 | (exfalso; omega))), fun _ => hkk⟩, rfl, rfl⟩)
              · first | exact Ent.refl _ | exact Ent.nil _ | exact Take.ent' (by repeat' constructor) | (repeat (first | exact Ent.refl _ | refine Ent.drop ?_))
            · refine Wp.skip ?_
              refine Wp.seq ?_
              refine Wp.seq ?_
              refine Wp.region ?_
              refine s_fa (o2 := 8) rfl rfl rfl ?_
              refine s_ld rfl rfl (by rfl) ?_
              refine s_eq rfl rfl rfl ?_
              refine WpL.nil ?_
              refine Wp.condD rfl (fun h6 => ?_) (fun h6 => ?_)
              · refine Wp.seq ?_
                refine Wp.region ?_
                refine s_mv rfl rfl ?_
                refine s_mv rfl rfl ?_
                refine s_bd rfl rfl ?_
                refine s_bsA1 rfl rfl (by rfl) (by rfl) (by rfl) (by rfl) ?_
                intro g16
                refine WpL.ent (Ent.own_nil (T := 92) (s := 1) (Ent.refl _)) ?_
                first | (refine s_apR1 (dnE at_) rfl rfl rfl (by repeat' constructor) rfl (by rfl) (by rfl) (by rfl) (by rfl) (by first | omega | (simp only [List.length_append, List.length_cons, List.length_nil]; omega)) (by first | omega | (simp only [List.length_append, List.length_cons, List.length_nil]; omega)) ?_) | (refine s_apR1 (dnE ((at_ : Int))) rfl rfl rfl (by repeat' constructor) rfl (by rfl) (by rfl) (by rfl) (by rfl) (by first | omega | (simp only [List.length_append, List.length_cons, List.length_nil]; omega)) (by first | omega | (simp only [List.length_append, List.length_cons, List.length_nil]; omega)) ?_)
                intro a88 c88
                refine s_mv rfl rfl ?_
                refine s_as rfl rfl ?_
                refine s_as rfl rfl ?_
                refine s_as rfl rfl ?_
                refine WpL.nil ?_
                refine Wp.ret ?_
                apply RetQ.mk
                · exact (Res.three rfl rfl rfl rfl)
                · first | (exfalso; omega) | (exact ⟨_, _, out ++ [(⟨2, 0, 0, 0, 0, out5⟩, (at_ : Int) + 1)] ++ [dnE ((at_ : Int) + 1)], at_, 0, fun l0 l1 l2 imgs => (by have q := pl_end1 (hpl l0 l1 l2 imgs) hl0 hat2 hf.2.1 hs5 h5; rw [atE_some hne] at q; exact q), ⟨by omega, by omega⟩, (by first | omega | (simp only [List.length_append, List.length_cons, List.length_nil]; omega)), ⟨fun _ => ⟨_, _, rfl, fun x hx => by rcases List.mem_append.1 hx with hx | hx; exact hkk x hx; rw [List.mem_singleton.1 hx]; exact ⟨rfl, hw5⟩⟩, fun q => absurd rfl q⟩, rfl, rfl⟩) | (exact ⟨_, _, out ++ [dnE ((at_ : Int) + 1)], at_, 0, fun l0 l1 l2 imgs => (by have q := pl_end1 (hpl l0 l1 l2 imgs) hl0 hat2 hf.2.1 hs5 h5; rw [atE_none he5, List.append_nil] at q; exact q), ⟨by omega, by omega⟩, (by first | omega | (simp only [List.length_append, List.length_cons, List.length_nil]; omega)), ⟨fun _ => ⟨_, out, rfl, hkk⟩, fun q => absurd rfl q⟩, rfl, rfl⟩) | (exact ⟨_, _, out ++ [(⟨2, 0, 0, 0, 0, out5⟩, (at_ : Int) + 1)], at_, e5, fun l0 l1 l2 imgs => (by have q := pl_end2 (hpl l0 l1 l2 imgs) hl0 hat2 hs5 h7 (show e5 ≠ 0 by rw [he6 h7]; decide) (show e5 ≠ 9 by rw [he6 h7]; decide); rw [atE_some hne] at q; exact q), ⟨by omega, by omega⟩, (by first | omega | (simp only [List.length_append, List.length_cons, List.length_nil]; omega)), ⟨fun q => absurd q (by first | decide | (rw [he6 h7]; decide) | (rcases hla with z | z | z <;> first | exact z.2.1 | (exfalso; omega))), fun _ => fun x hx => by rcases List.mem_append.1 hx with hx | hx; exact hkk x hx; rw [List.mem_singleton.1 hx]; exact ⟨rfl, hw5⟩⟩, rfl, rfl⟩) | (exact ⟨_, _, out, at_, e5, fun l0 l1 l2 imgs => (by have q := pl_end2 (hpl l0 l1 l2 imgs) hl0 hat2 hs5 h7 (show e5 ≠ 0 by rw [he6 h7]; decide) (show e5 ≠ 9 by rw [he6 h7]; decide); rw [atE_none he5, List.append_nil] at q; exact q), ⟨by omega, by omega⟩, (by first | omega | (simp only [List.length_append, List.length_cons, List.length_nil]; omega)), ⟨fun q => absurd q (by first | decide | (rw [he6 h7]; decide) | (rcases hla with z | z | z <;> first | exact z.2.1 | (exfalso; omega))), fun _ => hkk⟩, rfl, rfl⟩) | (exact ⟨_, _, out ++ [dnE at_], at_, 0, fun l0 l1 l2 imgs => pl_done (hpl l0 l1 l2 imgs) h6, ⟨by omega, by omega⟩, (by first | omega | (simp only [List.length_append, List.length_cons, List.length_nil]; omega)), ⟨fun _ => ⟨_, out, rfl, hkk⟩, fun q => absurd rfl q⟩, rfl, rfl⟩) | (exact ⟨_, _, out, at_, e, fun l0 l1 l2 imgs => pl_wrong (hpl l0 l1 l2 imgs) h7 (by rcases hla with q | q | q <;> first | exact q.2.1 | (exfalso; omega)) (by rcases hla with q | q | q <;> first | exact q.2.2 | (exfalso; omega)), ⟨by omega, by omega⟩, (by first | omega | (simp only [List.length_append, List.length_cons, List.length_nil]; omega)), ⟨fun q => absurd q (by first | decide | (rw [he6 h7]; decide) | (rcases hla with z | z | z <;> first | exact z.2.1 | (exfalso; omega))), fun _ => hkk⟩, rfl, rfl⟩) | (subst h3; exact ⟨_, _, out, at_, 9, fun l0 l1 l2 imgs => pl_open (hpl l0 l1 l2 imgs) (show last = 0 by omega) (by omega), ⟨by omega, by omega⟩, (by first | omega | (simp only [List.length_append, List.length_cons, List.length_nil]; omega)), ⟨fun q => absurd q (by first | decide | (rw [he6 h7]; decide) | (rcases hla with z | z | z <;> first | exact z.2.1 | (exfalso; omega))), fun _ => hkk⟩, rfl, rfl⟩)
                · first | exact Ent.refl _ | exact Ent.nil _ | exact Take.ent' (by repeat' constructor) | (repeat (first | exact Ent.refl _ | refine Ent.drop ?_))
              · refine Wp.skip ?_
                refine Wp.seq ?_
                refine Wp.seq ?_
                refine Wp.region ?_
                refine s_fa (o2 := 8) rfl rfl rfl ?_
                refine s_ld rfl rfl (by rfl) ?_
                refine s_eq rfl rfl rfl ?_
                refine WpL.nil ?_
                refine Wp.condD rfl (fun h7 => ?_) (fun h7 => ?_)
                · refine Wp.seq ?_
                  apply Wp.draw mixed [⟨93, _, []⟩, ⟨94, _, []⟩, ⟨95, _, []⟩, ⟨96, _, [2]⟩, ⟨8, _, [0]⟩, ⟨9, _, [1, 4, 0]⟩, ⟨10, _, [3, 5, 0, 1, 2, 4]⟩] rfl
                  · refine AllObs.mk ?_ ?_
                    · refine s_mv rfl rfl ?_
                      exact obN rfl
                    refine AllObs.mk ?_ ?_
                    · refine s_mv rfl rfl ?_
                      exact obN rfl
                    refine AllObs.mk ?_ ?_
                    · refine s_fa (o2 := 9) rfl rfl rfl ?_
                      exact obN rfl
                    refine AllObs.mk ?_ ?_
                    · refine s_ld rfl rfl (by rfl) ?_
                      exact obN rfl
                    refine AllObs.mk ?_ ?_
                    · refine s_as rfl rfl ?_
                      exact obN rfl
                    refine AllObs.mk ?_ ?_
                    · refine s_as rfl rfl ?_
                      exact obN rfl
                    refine AllObs.mk ?_ ?_
                    · refine s_as rfl rfl ?_
                      exact obN rfl
                    exact AllObs.nil
                  · refine Wp.ret ?_
                    apply RetQ.mk
                    · exact (Res.three rfl rfl rfl rfl)
                    · first | (exfalso; omega) | (exact ⟨_, _, out ++ [(⟨2, 0, 0, 0, 0, out5⟩, (at_ : Int) + 1)] ++ [dnE ((at_ : Int) + 1)], at_, 0, fun l0 l1 l2 imgs => (by have q := pl_end1 (hpl l0 l1 l2 imgs) hl0 hat2 hf.2.1 hs5 h5; rw [atE_some hne] at q; exact q), ⟨by omega, by omega⟩, (by first | omega | (simp only [List.length_append, List.length_cons, List.length_nil]; omega)), ⟨fun _ => ⟨_, _, rfl, fun x hx => by rcases List.mem_append.1 hx with hx | hx; exact hkk x hx; rw [List.mem_singleton.1 hx]; exact ⟨rfl, hw5⟩⟩, fun q => absurd rfl q⟩, rfl, rfl⟩) | (exact ⟨_, _, out ++ [dnE ((at_ : Int) + 1)], at_, 0, fun l0 l1 l2 imgs => (by have q := pl_end1 (hpl l0 l1 l2 imgs) hl0 hat2 hf.2.1 hs5 h5; rw [atE_none he5, List.append_nil] at q; exact q), ⟨by omega, by omega⟩, (by first | omega | (simp only [List.length_append, List.length_cons, List.length_nil]; omega)), ⟨fun _ => ⟨_, out, rfl, hkk⟩, fun q => absurd rfl q⟩, rfl, rfl⟩) | (exact ⟨_, _, out ++ [(⟨2, 0, 0, 0, 0, out5⟩, (at_ : Int) + 1)], at_, e5, fun l0 l1 l2 imgs => (by have q := pl_end2 (hpl l0 l1 l2 imgs) hl0 hat2 hs5 h7 (show e5 ≠ 0 by rw [he6 h7]; decide) (show e5 ≠ 9 by rw [he6 h7]; decide); rw [atE_some hne] at q; exact q), ⟨by omega, by omega⟩, (by first | omega | (simp only [List.length_append, List.length_cons, List.length_nil]; omega)), ⟨fun q => absurd q (by first | decide | (rw [he6 h7]; decide) | (rcases hla with z | z | z <;> first | exact z.2.1 | (exfalso; omega))), fun _ => fun x hx => by rcases List.mem_append.1 hx with hx | hx; exact hkk x hx; rw [List.mem_singleton.1 hx]; exact ⟨rfl, hw5⟩⟩, rfl, rfl⟩) | (exact ⟨_, _, out, at_, e5, fun l0 l1 l2 imgs => (by have q := pl_end2 (hpl l0 l1 l2 imgs) hl0 hat2 hs5 h7 (show e5 ≠ 0 by rw [he6 h7]; decide) (show e5 ≠ 9 by rw [he6 h7]; decide); rw [atE_none he5, List.append_nil] at q; exact q), ⟨by omega, by omega⟩, (by first | omega | (simp only [List.length_append, List.length_cons, List.length_nil]; omega)), ⟨fun q => absurd q (by first | decide | (rw [he6 h7]; decide) | (rcases hla with z | z | z <;> first | exact z.2.1 | (exfalso; omega))), fun _ => hkk⟩, rfl, rfl⟩) | (exact ⟨_, _, out ++ [dnE at_], at_, 0, fun l0 l1 l2 imgs => pl_done (hpl l0 l1 l2 imgs) h6, ⟨by omega, by omega⟩, (by first | omega | (simp only [List.length_append, List.length_cons, List.length_nil]; omega)), ⟨fun _ => ⟨_, out, rfl, hkk⟩, fun q => absurd rfl q⟩, rfl, rfl⟩) | (exact ⟨_, _, out, at_, e, fun l0 l1 l2 imgs => pl_wrong (hpl l0 l1 l2 imgs) h7 (by rcases hla with q | q | q <;> first | exact q.2.1 | (exfalso; omega)) (by rcases hla with q | q | q <;> first | exact q.2.2 | (exfalso; omega)), ⟨by omega, by omega⟩, (by first | omega | (simp only [List.length_append, List.length_cons, List.length_nil]; omega)), ⟨fun q => absurd q (by first | decide | (rw [he6 h7]; decide) | (rcases hla with z | z | z <;> first | exact z.2.1 | (exfalso; omega))), fun _ => hkk⟩, rfl, rfl⟩) | (subst h3; exact ⟨_, _, out, at_, 9, fun l0 l1 l2 imgs => pl_open (hpl l0 l1 l2 imgs) (show last = 0 by omega) (by omega), ⟨by omega, by omega⟩, (by first | omega | (simp only [List.length_append, List.length_cons, List.length_nil]; omega)), ⟨fun q => absurd q (by first | decide | (rw [he6 h7]; decide) | (rcases hla with z | z | z <;> first | exact z.2.1 | (exfalso; omega))), fun _ => hkk⟩, rfl, rfl⟩)
                    · first | exact Ent.refl _ | exact Ent.nil _ | exact Take.ent' (by repeat' constructor) | (repeat (first | exact Ent.refl _ | refine Ent.drop ?_))
                · refine Wp.skip ?_
                  refine Wp.seq ?_
                  refine Wp.region ?_
                  refine s_mv rfl rfl ?_
                  refine s_mv rfl rfl ?_
                  refine s_as rfl rfl ?_
                  refine s_as rfl rfl ?_
                  refine s_as rfl rfl ?_
                  refine WpL.nil ?_
                  refine Wp.ret ?_
                  apply RetQ.mk
                  · exact (Res.three rfl rfl rfl rfl)
                  · first | (exfalso; omega) | (exact ⟨_, _, out ++ [(⟨2, 0, 0, 0, 0, out5⟩, (at_ : Int) + 1)] ++ [dnE ((at_ : Int) + 1)], at_, 0, fun l0 l1 l2 imgs => (by have q := pl_end1 (hpl l0 l1 l2 imgs) hl0 hat2 hf.2.1 hs5 h5; rw [atE_some hne] at q; exact q), ⟨by omega, by omega⟩, (by first | omega | (simp only [List.length_append, List.length_cons, List.length_nil]; omega)), ⟨fun _ => ⟨_, _, rfl, fun x hx => by rcases List.mem_append.1 hx with hx | hx; exact hkk x hx; rw [List.mem_singleton.1 hx]; exact ⟨rfl, hw5⟩⟩, fun q => absurd rfl q⟩, rfl, rfl⟩) | (exact ⟨_, _, out ++ [dnE ((at_ : Int) + 1)], at_, 0, fun l0 l1 l2 imgs => (by have q := pl_end1 (hpl l0 l1 l2 imgs) hl0 hat2 hf.2.1 hs5 h5; rw [atE_none he5, List.append_nil] at q; exact q), ⟨by omega, by omega⟩, (by first | omega | (simp only [List.length_append, List.length_cons, List.length_nil]; omega)), ⟨fun _ => ⟨_, out, rfl, hkk⟩, fun q => absurd rfl q⟩, rfl, rfl⟩) | (exact ⟨_, _, out ++ [(⟨2, 0, 0, 0, 0, out5⟩, (at_ : Int) + 1)], at_, e5, fun l0 l1 l2 imgs => (by have q := pl_end2 (hpl l0 l1 l2 imgs) hl0 hat2 hs5 h7 (show e5 ≠ 0 by rw [he6 h7]; decide) (show e5 ≠ 9 by rw [he6 h7]; decide); rw [atE_some hne] at q; exact q), ⟨by omega, by omega⟩, (by first | omega | (simp only [List.length_append, List.length_cons, List.length_nil]; omega)), ⟨fun q => absurd q (by first | decide | (rw [he6 h7]; decide) | (rcases hla with z | z | z <;> first | exact z.2.1 | (exfalso; omega))), fun _ => fun x hx => by rcases List.mem_append.1 hx with hx | hx; exact hkk x hx; rw [List.mem_singleton.1 hx]; exact ⟨rfl, hw5⟩⟩, rfl, rfl⟩) | (exact ⟨_, _, out, at_, e5, fun l0 l1 l2 imgs => (by have q := pl_end2 (hpl l0 l1 l2 imgs) hl0 hat2 hs5 h7 (show e5 ≠ 0 by rw [he6 h7]; decide) (show e5 ≠ 9 by rw [he6 h7]; decide); rw [atE_none he5, List.append_nil] at q; exact q), ⟨by omega, by omega⟩, (by first | omega | (simp only [List.length_append, List.length_cons, List.length_nil]; omega)), ⟨fun q => absurd q (by first | decide | (rw [he6 h7]; decide) | (rcases hla with z | z | z <;> first | exact z.2.1 | (exfalso; omega))), fun _ => hkk⟩, rfl, rfl⟩) | (exact ⟨_, _, out ++ [dnE at_], at_, 0, fun l0 l1 l2 imgs => pl_done (hpl l0 l1 l2 imgs) h6, ⟨by omega, by omega⟩, (by first | omega | (simp only [List.length_append, List.length_cons, List.length_nil]; omega)), ⟨fun _ => ⟨_, out, rfl, hkk⟩, fun q => absurd rfl q⟩, rfl, rfl⟩) | (exact ⟨_, _, out, at_, e, fun l0 l1 l2 imgs => pl_wrong (hpl l0 l1 l2 imgs) h7 (by rcases hla with q | q | q <;> first | exact q.2.1 | (exfalso; omega)) (by rcases hla with q | q | q <;> first | exact q.2.2 | (exfalso; omega)), ⟨by omega, by omega⟩, (by first | omega | (simp only [List.length_append, List.length_cons, List.length_nil]; omega)), ⟨fun q => absurd q (by first | decide | (rw [he6 h7]; decide) | (rcases hla with z | z | z <;> first | exact z.2.1 | (exfalso; omega))), fun _ => hkk⟩, rfl, rfl⟩) | (subst h3; exact ⟨_, _, out, at_, 9, fun l0 l1 l2 imgs => pl_open (hpl l0 l1 l2 imgs) (show last = 0 by omega) (by omega), ⟨by omega, by omega⟩, (by first | omega | (simp only [List.length_append, List.length_cons, List.length_nil]; omega)), ⟨fun q => absurd q (by first | decide | (rw [he6 h7]; decide) | (rcases hla with z | z | z <;> first | exact z.2.1 | (exfalso; omega))), fun _ => hkk⟩, rfl, rfl⟩)
                  · first | exact Ent.refl _ | exact Ent.nil _ | exact Take.ent' (by repeat' constructor) | (repeat (first | exact Ent.refl _ | refine Ent.drop ?_))
          · have he5 : out5 = [] := List.eq_nil_of_length_eq_zero (by omega)
            refine Wp.skip ?_
            refine Wp.seq ?_
            refine Wp.region ?_
            refine s_fa (o2 := 8) rfl rfl rfl ?_
            refine s_ld rfl rfl (by rfl) ?_
            refine s_eq rfl rfl rfl ?_
            refine WpL.nil ?_
            refine Wp.condD rfl (fun h5 => ?_) (fun h5 => ?_)
            · refine Wp.seq ?_
              refine Wp.region ?_
              refine s_mv rfl rfl ?_
              refine s_mv rfl rfl ?_
              first | refine s_add rfl rfl rfl (w_i64 (by omega) (by omega)) ?_ | refine s_addw rfl rfl rfl ?_
              refine s_bd rfl rfl ?_
              refine s_bsA1 rfl rfl (by rfl) (by rfl) (by rfl) (by rfl) ?_
              intro g17
              refine WpL.ent (Ent.own_nil (T := 92) (s := 1) (Ent.refl _)) ?_
              refine s_apR1 (dnE ((at_ : Int) + 1)) rfl rfl rfl (by repeat' constructor) rfl (by rfl) (by rfl) (by rfl) (by rfl) (by first | omega | (simp only [List.length_append, List.length_cons, List.length_nil]; omega)) (by first | omega | (simp only [List.length_append, List.length_cons, List.length_nil]; omega)) ?_
              intro a79 c79
              refine s_mv rfl rfl ?_
              refine s_as rfl rfl ?_
              refine s_as rfl rfl ?_
              refine s_as rfl rfl ?_
              refine WpL.nil ?_
              refine Wp.ret ?_
              apply RetQ.mk
              · exact (Res.three rfl rfl rfl rfl)
              · first | (exfalso; omega) | (exact ⟨_, _, out ++ [(⟨2, 0, 0, 0, 0, out5⟩, (at_ : Int) + 1)] ++ [dnE ((at_ : Int) + 1)], at_, 0, fun l0 l1 l2 imgs => (by have q := pl_end1 (hpl l0 l1 l2 imgs) hl0 hat2 hf.2.1 hs5 h5; rw [atE_some hne] at q; exact q), ⟨by omega, by omega⟩, (by first | omega | (simp only [List.length_append, List.length_cons, List.length_nil]; omega)), ⟨fun _ => ⟨_, _, rfl, fun x hx => by rcases List.mem_append.1 hx with hx | hx; exact hkk x hx; rw [List.mem_singleton.1 hx]; exact ⟨rfl, hw5⟩⟩, fun q => absurd rfl q⟩, rfl, rfl⟩) | (exact ⟨_, _, out ++ [dnE ((at_ : Int) + 1)], at_, 0, fun l0 l1 l2 imgs => (by have q := pl_end1 (hpl l0 l1 l2 imgs) hl0 hat2 hf.2.1 hs5 h5; rw [atE_none he5, List.append_nil] at q; exact q), ⟨by omega, by omega⟩, (by first | omega | (simp only [List.length_append, List.length_cons, List.length_nil]; omega)), ⟨fun _ => ⟨_, out, rfl, hkk⟩, fun q => absurd rfl q⟩, rfl, rfl⟩) | (exact ⟨_, _, out ++ [(⟨2, 0, 0, 0, 0, out5⟩, (at_ : Int) + 1)], at_, e5, fun l0 l1 l2 imgs => (by have q := pl_end2 (hpl l0 l1 l2 imgs) hl0 hat2 hs5 h7 (show e5 ≠ 0 by rw [he6 h7]; decide) (show e5 ≠ 9 by rw [he6 h7]; decide); rw [atE_some hne] at q; exact q), ⟨by omega, by omega⟩, (by first | omega | (simp only [List.length_append, List.length_cons, List.length_nil]; omega)), ⟨fun q => absurd q (by first | decide | (rw [he6 h7]; decide) | (rcases hla with z | z | z <;> first | exact z.2.1 | (exfalso; omega))), fun _ => fun x hx => by rcases List.mem_append.1 hx with hx | hx; exact hkk x hx; rw [List.mem_singleton.1 hx]; exact ⟨rfl, hw5⟩⟩, rfl, rfl⟩) | (exact ⟨_, _, out, at_, e5, fun l0 l1 l2 imgs => (by have q := pl_end2 (hpl l0 l1 l2 imgs) hl0 hat2 hs5 h7 (show e5 ≠ 0 by rw [he6 h7]; decide) (show e5 ≠ 9 by rw [he6 h7]; decide); rw [atE_none he5, List.append_nil] at q; exact q), ⟨by omega, by omega⟩, (by first | omega | (simp only [List.length_append, List.length_cons, List.length_nil]; omega)), ⟨fun q => absurd q (by first | decide | (rw [he6 h7]; decide) | (rcases hla with z | z | z <;> first | exact z.2.1 | (exfalso; omega))), fun _ => hkk⟩, rfl, rfl⟩) | (exact ⟨_, _, out ++ [dnE at_], at_, 0, fun l0 l1 l2 imgs => pl_done (hpl l0 l1 l2 imgs) h6, ⟨by omega, by omega⟩, (by first | omega | (simp only [List.length_append, List.length_cons, List.length_nil]; omega)), ⟨fun _ => ⟨_, out, rfl, hkk⟩, fun q => absurd rfl q⟩, rfl, rfl⟩) | (exact ⟨_, _, out, at_, e, fun l0 l1 l2 imgs => pl_wrong (hpl l0 l1 l2 imgs) h7 (by rcases hla with q | q | q <;> first | exact q.2.1 | (exfalso; omega)) (by rcases hla with q | q | q <;> first | exact q.2.2 | (exfalso; omega)), ⟨by omega, by omega⟩, (by first | omega | (simp only [List.length_append, List.length_cons, List.length_nil]; omega)), ⟨fun q => absurd q (by first | decide | (rw [he6 h7]; decide) | (rcases hla with z | z | z <;> first | exact z.2.1 | (exfalso; omega))), fun _ => hkk⟩, rfl, rfl⟩) | (subst h3; exact ⟨_, _, out, at_, 9, fun l0 l1 l2 imgs => pl_open (hpl l0 l1 l2 imgs) (show last = 0 by omega) (by omega), ⟨by omega, by omega⟩, (by first | omega | (simp only [List.length_append, List.length_cons, List.length_nil]; omega)), ⟨fun q => absurd q (by first | decide | (rw [he6 h7]; decide) | (rcases hla with z | z | z <;> first | exact z.2.1 | (exfalso; omega))), fun _ => hkk⟩, rfl, rfl⟩)
              · first | exact Ent.refl _ | exact Ent.nil _ | exact Take.ent' (by repeat' constructor) | (repeat (first | exact Ent.refl _ | refine Ent.drop ?_))
            · refine Wp.skip ?_
              refine Wp.seq ?_
              refine Wp.seq ?_
              refine Wp.region ?_
              refine s_fa (o2 := 8) rfl rfl rfl ?_
              refine s_ld rfl rfl (by rfl) ?_
              refine s_eq rfl rfl rfl ?_
              refine WpL.nil ?_
              refine Wp.condD rfl (fun h6 => ?_) (fun h6 => ?_)
              · refine Wp.seq ?_
                refine Wp.region ?_
                refine s_mv rfl rfl ?_
                refine s_mv rfl rfl ?_
                refine s_bd rfl rfl ?_
                refine s_bsA1 rfl rfl (by rfl) (by rfl) (by rfl) (by rfl) ?_
                intro g18
                refine WpL.ent (Ent.own_nil (T := 92) (s := 1) (Ent.refl _)) ?_
                first | (refine s_apR1 (dnE at_) rfl rfl rfl (by repeat' constructor) rfl (by rfl) (by rfl) (by rfl) (by rfl) (by first | omega | (simp only [List.length_append, List.length_cons, List.length_nil]; omega)) (by first | omega | (simp only [List.length_append, List.length_cons, List.length_nil]; omega)) ?_) | (refine s_apR1 (dnE ((at_ : Int))) rfl rfl rfl (by repeat' constructor) rfl (by rfl) (by rfl) (by rfl) (by rfl) (by first | omega | (simp only [List.length_append, List.length_cons, List.length_nil]; omega)) (by first | omega | (simp only [List.length_append, List.length_cons, List.length_nil]; omega)) ?_)
                intro a88 c88
                refine s_mv rfl rfl ?_
                refine s_as rfl rfl ?_
                refine s_as rfl rfl ?_
                refine s_as rfl rfl ?_
                refine WpL.nil ?_
                refine Wp.ret ?_
                apply RetQ.mk
                · exact (Res.three rfl rfl rfl rfl)
                · first | (exfalso; omega) | (exact ⟨_, _, out ++ [(⟨2, 0, 0, 0, 0, out5⟩, (at_ : Int) + 1)] ++ [dnE ((at_ : Int) + 1)], at_, 0, fun l0 l1 l2 imgs => (by have q := pl_end1 (hpl l0 l1 l2 imgs) hl0 hat2 hf.2.1 hs5 h5; rw [atE_some hne] at q; exact q), ⟨by omega, by omega⟩, (by first | omega | (simp only [List.length_append, List.length_cons, List.length_nil]; omega)), ⟨fun _ => ⟨_, _, rfl, fun x hx => by rcases List.mem_append.1 hx with hx | hx; exact hkk x hx; rw [List.mem_singleton.1 hx]; exact ⟨rfl, hw5⟩⟩, fun q => absurd rfl q⟩, rfl, rfl⟩) | (exact ⟨_, _, out ++ [dnE ((at_ : Int) + 1)], at_, 0, fun l0 l1 l2 imgs => (by have q := pl_end1 (hpl l0 l1 l2 imgs) hl0 hat2 hf.2.1 hs5 h5; rw [atE_none he5, List.append_nil] at q; exact q), ⟨by omega, by omega⟩, (by first | omega | (simp only [List.length_append, List.length_cons, List.length_nil]; omega)), ⟨fun _ => ⟨_, out, rfl, hkk⟩, fun q => absurd rfl q⟩, rfl, rfl⟩) | (exact ⟨_, _, out ++ [(⟨2, 0, 0, 0, 0, out5⟩, (at_ : Int) + 1)], at_, e5, fun l0 l1 l2 imgs => (by have q := pl_end2 (hpl l0 l1 l2 imgs) hl0 hat2 hs5 h7 (show e5 ≠ 0 by rw [he6 h7]; decide) (show e5 ≠ 9 by rw [he6 h7]; decide); rw [atE_some hne] at q; exact q), ⟨by omega, by omega⟩, (by first | omega | (simp only [List.length_append, List.length_cons, List.length_nil]; omega)), ⟨fun q => absurd q (by first | decide | (rw [he6 h7]; decide) | (rcases hla with z | z | z <;> first | exact z.2.1 | (exfalso; omega))), fun _ => fun x hx => by rcases List.mem_append.1 hx with hx | hx; exact hkk x hx; rw [List.mem_singleton.1 hx]; exact ⟨rfl, hw5⟩⟩, rfl, rfl⟩) | (exact ⟨_, _, out, at_, e5, fun l0 l1 l2 imgs => (by have q := pl_end2 (hpl l0 l1 l2 imgs) hl0 hat2 hs5 h7 (show e5 ≠ 0 by rw [he6 h7]; decide) (show e5 ≠ 9 by rw [he6 h7]; decide); rw [atE_none he5, List.append_nil] at q; exact q), ⟨by omega, by omega⟩, (by first | omega | (simp only [List.length_append, List.length_cons, List.length_nil]; omega)), ⟨fun q => absurd q (by first | decide | (rw [he6 h7]; decide) | (rcases hla with z | z | z <;> first | exact z.2.1 | (exfalso; omega))), fun _ => hkk⟩, rfl, rfl⟩) | (exact ⟨_, _, out ++ [dnE at_], at_, 0, fun l0 l1 l2 imgs => pl_done (hpl l0 l1 l2 imgs) h6, ⟨by omega, by omega⟩, (by first | omega | (simp only [List.length_append, List.length_cons, List.length_nil]; omega)), ⟨fun _ => ⟨_, out, rfl, hkk⟩, fun q => absurd rfl q⟩, rfl, rfl⟩) | (exact ⟨_, _, out, at_, e, fun l0 l1 l2 imgs => pl_wrong (hpl l0 l1 l2 imgs) h7 (by rcases hla with q | q | q <;> first | exact q.2.1 | (exfalso; omega)) (by rcases hla with q | q | q <;> first | exact q.2.2 | (exfalso; omega)), ⟨by omega, by omega⟩, (by first | omega | (simp only [List.length_append, List.length_cons, List.length_nil]; omega)), ⟨fun q => absurd q (by first | decide | (rw [he6 h7]; decide) | (rcases hla with z | z | z <;> first | exact z.2.1 | (exfalso; omega))), fun _ => hkk⟩, rfl, rfl⟩) | (subst h3; exact ⟨_, _, out, at_, 9, fun l0 l1 l2 imgs => pl_open (hpl l0 l1 l2 imgs) (show last = 0 by omega) (by omega), ⟨by omega, by omega⟩, (by first | omega | (simp only [List.length_append, List.length_cons, List.length_nil]; omega)), ⟨fun q => absurd q (by first | decide | (rw [he6 h7]; decide) | (rcases hla with z | z | z <;> first | exact z.2.1 | (exfalso; omega))), fun _ => hkk⟩, rfl, rfl⟩)
                · first | exact Ent.refl _ | exact Ent.nil _ | exact Take.ent' (by repeat' constructor) | (repeat (first | exact Ent.refl _ | refine Ent.drop ?_))
              · refine Wp.skip ?_
                refine Wp.seq ?_
                refine Wp.seq ?_
                refine Wp.region ?_
                refine s_fa (o2 := 8) rfl rfl rfl ?_
                refine s_ld rfl rfl (by rfl) ?_
                refine s_eq rfl rfl rfl ?_
                refine WpL.nil ?_
                refine Wp.condD rfl (fun h7 => ?_) (fun h7 => ?_)
                · refine Wp.seq ?_
                  apply Wp.draw mixed [⟨93, _, []⟩, ⟨94, _, []⟩, ⟨95, _, []⟩, ⟨96, _, [2]⟩, ⟨8, _, [0]⟩, ⟨9, _, [1, 4, 0]⟩, ⟨10, _, [3, 5, 0, 1, 2, 4]⟩] rfl
                  · refine AllObs.mk ?_ ?_
                    · refine s_mv rfl rfl ?_
                      exact obN rfl
                    refine AllObs.mk ?_ ?_
                    · refine s_mv rfl rfl ?_
                      exact obN rfl
                    refine AllObs.mk ?_ ?_
                    · refine s_fa (o2 := 9) rfl rfl rfl ?_
                      exact obN rfl
                    refine AllObs.mk ?_ ?_
                    · refine s_ld rfl rfl (by rfl) ?_
                      exact obN rfl
                    refine AllObs.mk ?_ ?_
                    · refine s_as rfl rfl ?_
                      exact obN rfl
                    refine AllObs.mk ?_ ?_
                    · refine s_as rfl rfl ?_
                      exact obN rfl
                    refine AllObs.mk ?_ ?_
                    · refine s_as rfl rfl ?_
                      exact obN rfl
                    exact AllObs.nil
                  · refine Wp.ret ?_
                    apply RetQ.mk
                    · exact (Res.three rfl rfl rfl rfl)
                    · first | (exfalso; omega) | (exact ⟨_, _, out ++ [(⟨2, 0, 0, 0, 0, out5⟩, (at_ : Int) + 1)] ++ [dnE ((at_ : Int) + 1)], at_, 0, fun l0 l1 l2 imgs => (by have q := pl_end1 (hpl l0 l1 l2 imgs) hl0 hat2 hf.2.1 hs5 h5; rw [atE_some hne] at q; exact q), ⟨by omega, by omega⟩, (by first | omega | (simp only [List.length_append, List.length_cons, List.length_nil]; omega)), ⟨fun _ => ⟨_, _, rfl, fun x hx => by rcases List.mem_append.1 hx with hx | hx; exact hkk x hx; rw [List.mem_singleton.1 hx]; exact ⟨rfl, hw5⟩⟩, fun q => absurd rfl q⟩, rfl, rfl⟩) | (exact ⟨_, _, out ++ [dnE ((at_ : Int) + 1)], at_, 0, fun l0 l1 l2 imgs => (by have q := pl_end1 (hpl l0 l1 l2 imgs) hl0 hat2 hf.2.1 hs5 h5; rw [atE_none he5, List.append_nil] at q; exact q), ⟨by omega, by omega⟩, (by first | omega | (simp only [List.length_append, List.length_cons, List.length_nil]; omega)), ⟨fun _ => ⟨_, out, rfl, hkk⟩, fun q => absurd rfl q⟩, rfl, rfl⟩) | (exact ⟨_, _, out ++ [(⟨2, 0, 0, 0, 0, out5⟩, (at_ : Int) + 1)], at_, e5, fun l0 l1 l2 imgs => (by have q := pl_end2 (hpl l0 l1 l2 imgs) hl0 hat2 hs5 h7 (show e5 ≠ 0 by rw [he6 h7]; decide) (show e5 ≠ 9 by rw [he6 h7]; decide); rw [atE_some hne] at q; exact q), ⟨by omega, by omega⟩, (by first | omega | (simp only [List.length_append, List.length_cons, List.length_nil]; omega)), ⟨fun q => absurd q (by first | decide | (rw [he6 h7]; decide) | (rcases hla with z | z | z <;> first | exact z.2.1 | (exfalso; omega))), fun _ => fun x hx => by rcases List.mem_append.1 hx with hx | hx; exact hkk x hx; rw [List.mem_singleton.1 hx]; exact ⟨rfl, hw5⟩⟩, rfl, rfl⟩) | (exact ⟨_, _, out, at_, e5, fun l0 l1 l2 imgs => (by have q := pl_end2 (hpl l0 l1 l2 imgs) hl0 hat2 hs5 h7 (show e5 ≠ 0 by rw [he6 h7]; decide) (show e5 ≠ 9 by rw [he6 h7]; decide); rw [atE_none he5, List.append_nil] at q; exact q), ⟨by omega, by omega⟩, (by first | omega | (simp only [List.length_append, List.length_cons, List.length_nil]; omega)), ⟨fun q => absurd q (by first | decide | (rw [he6 h7]; decide) | (rcases hla with z | z | z <;> first | exact z.2.1 | (exfalso; omega))), fun _ => hkk⟩, rfl, rfl⟩) | (exact ⟨_, _, out ++ [dnE at_], at_, 0, fun l0 l1 l2 imgs => pl_done (hpl l0 l1 l2 imgs) h6, ⟨by omega, by omega⟩, (by first | omega | (simp only [List.length_append, List.length_cons, List.length_nil]; omega)), ⟨fun _ => ⟨_, out, rfl, hkk⟩, fun q => absurd rfl q⟩, rfl, rfl⟩) | (exact ⟨_, _, out, at_, e, fun l0 l1 l2 imgs => pl_wrong (hpl l0 l1 l2 imgs) h7 (by rcases hla with q | q | q <;> first | exact q.2.1 | (exfalso; omega)) (by rcases hla with q | q | q <;> first | exact q.2.2 | (exfalso; omega)), ⟨by omega, by omega⟩, (by first | omega | (simp only [List.length_append, List.length_cons, List.length_nil]; omega)), ⟨fun q => absurd q (by first | decide | (rw [he6 h7]; decide) | (rcases hla with z | z | z <;> first | exact z.2.1 | (exfalso; omega))), fun _ => hkk⟩, rfl, rfl⟩) | (subst h3; exact ⟨_, _, out, at_, 9, fun l0 l1 l2 imgs => pl_open (hpl l0 l1 l2 imgs) (show last = 0 by omega) (by omega), ⟨by omega, by omega⟩, (by first | omega | (simp only [List.length_append, List.length_cons, List.length_nil]; omega)), ⟨fun q => absurd q (by first | decide | (rw [he6 h7]; decide) | (rcases hla with z | z | z <;> first | exact z.2.1 | (exfalso; omega))), fun _ => hkk⟩, rfl, rfl⟩)
                    · first | exact Ent.refl _ | exact Ent.nil _ | exact Take.ent' (by repeat' constructor) | (repeat (first | exact Ent.refl _ | refine Ent.drop ?_))
                · refine Wp.skip ?_
                  refine Wp.seq ?_
                  refine Wp.region ?_
                  refine s_mv rfl rfl ?_
                  refine s_mv rfl rfl ?_
                  refine s_as rfl rfl ?_
                  refine s_as rfl rfl ?_
                  refine s_as rfl rfl ?_
                  refine WpL.nil ?_
                  refine Wp.ret ?_
                  apply RetQ.mk
                  · exact (Res.three rfl rfl rfl rfl)
                  · first | (exfalso; omega) | (exact ⟨_, _, out ++ [(⟨2, 0, 0, 0, 0, out5⟩, (at_ : Int) + 1)] ++ [dnE ((at_ : Int) + 1)], at_, 0, fun l0 l1 l2 imgs => (by have q := pl_end1 (hpl l0 l1 l2 imgs) hl0 hat2 hf.2.1 hs5 h5; rw [atE_some hne] at q; exact q), ⟨by omega, by omega⟩, (by first | omega | (simp only [List.length_append, List.length_cons, List.length_nil]; omega)), ⟨fun _ => ⟨_, _, rfl, fun x hx => by rcases List.mem_append.1 hx with hx | hx; exact hkk x hx; rw [List.mem_singleton.1 hx]; exact ⟨rfl, hw5⟩⟩, fun q => absurd rfl q⟩, rfl, rfl⟩) | (exact ⟨_, _, out ++ [dnE ((at_ : Int) + 1)], at_, 0, fun l0 l1 l2 imgs => (by have q := pl_end1 (hpl l0 l1 l2 imgs) hl0 hat2 hf.2.1 hs5 h5; rw [atE_none he5, List.append_nil] at q; exact q), ⟨by omega, by omega⟩, (by first | omega | (simp only [List.length_append, List.length_cons, List.length_nil]; omega)), ⟨fun _ => ⟨_, out, rfl, hkk⟩, fun q => absurd rfl q⟩, rfl, rfl⟩) | (exact ⟨_, _, out ++ [(⟨2, 0, 0, 0, 0, out5⟩, (at_ : Int) + 1)], at_, e5, fun l0 l1 l2 imgs => (by have q := pl_end2 (hpl l0 l1 l2 imgs) hl0 hat2 hs5 h7 (show e5 ≠ 0 by rw [he6 h7]; decide) (show e5 ≠ 9 by rw [he6 h7]; decide); rw [atE_some hne] at q; exact q), ⟨by omega, by omega⟩, (by first | omega | (simp only [List.length_append, List.length_cons, List.length_nil]; omega)), ⟨fun q => absurd q (by first | decide | (rw [he6 h7]; decide) | (rcases hla with z | z | z <;> first | exact z.2.1 | (exfalso; omega))), fun _ => fun x hx => by rcases List.mem_append.1 hx with hx | hx; exact hkk x hx; rw [List.mem_singleton.1 hx]; exact ⟨rfl, hw5⟩⟩, rfl, rfl⟩) | (exact ⟨_, _, out, at_, e5, fun l0 l1 l2 imgs => (by have q := pl_end2 (hpl l0 l1 l2 imgs) hl0 hat2 hs5 h7 (show e5 ≠ 0 by rw [he6 h7]; decide) (show e5 ≠ 9 by rw [he6 h7]; decide); rw [atE_none he5, List.append_nil] at q; exact q), ⟨by omega, by omega⟩, (by first | omega | (simp only [List.length_append, List.length_cons, List.length_nil]; omega)), ⟨fun q => absurd q (by first | decide | (rw [he6 h7]; decide) | (rcases hla with z | z | z <;> first | exact z.2.1 | (exfalso; omega))), fun _ => hkk⟩, rfl, rfl⟩) | (exact ⟨_, _, out ++ [dnE at_], at_, 0, fun l0 l1 l2 imgs => pl_done (hpl l0 l1 l2 imgs) h6, ⟨by omega, by omega⟩, (by first | omega | (simp only [List.length_append, List.length_cons, List.length_nil]; omega)), ⟨fun _ => ⟨_, out, rfl, hkk⟩, fun q => absurd rfl q⟩, rfl, rfl⟩) | (exact ⟨_, _, out, at_, e, fun l0 l1 l2 imgs => pl_wrong (hpl l0 l1 l2 imgs) h7 (by rcases hla with q | q | q <;> first | exact q.2.1 | (exfalso; omega)) (by rcases hla with q | q | q <;> first | exact q.2.2 | (exfalso; omega)), ⟨by omega, by omega⟩, (by first | omega | (simp only [List.length_append, List.length_cons, List.length_nil]; omega)), ⟨fun q => absurd q (by first | decide | (rw [he6 h7]; decide) | (rcases hla with z | z | z <;> first | exact z.2.1 | (exfalso; omega))), fun _ => hkk⟩, rfl, rfl⟩) | (subst h3; exact ⟨_, _, out, at_, 9, fun l0 l1 l2 imgs => pl_open (hpl l0 l1 l2 imgs) (show last = 0 by omega) (by omega), ⟨by omega, by omega⟩, (by first | omega | (simp only [List.length_append, List.length_cons, List.length_nil]; omega)), ⟨fun q => absurd q (by first | decide | (rw [he6 h7]; decide) | (rcases hla with z | z | z <;> first | exact z.2.1 | (exfalso; omega))), fun _ => hkk⟩, rfl, rfl⟩)
                  · first | exact Ent.refl _ | exact Ent.nil _ | exact Take.ent' (by repeat' constructor) | (repeat (first | exact Ent.refl _ | refine Ent.drop ?_))
        · refine Wp.skip ?_
          refine Wp.seq ?_
          refine Wp.seq ?_
          refine Wp.region ?_
          refine s_fa (o2 := 8) rfl rfl rfl ?_
          refine s_ld rfl rfl (by rfl) ?_
          refine s_eq rfl rfl rfl ?_
          refine WpL.nil ?_
          refine Wp.condD rfl (fun h6 => ?_) (fun h6 => ?_)
          · refine Wp.seq ?_
            refine Wp.region ?_
            refine s_mv rfl rfl ?_
            refine s_mv rfl rfl ?_
            refine s_bd rfl rfl ?_
            refine s_bsA1 rfl rfl (by rfl) (by rfl) (by rfl) (by rfl) ?_
            intro g19
            refine WpL.ent (Ent.own_nil (T := 92) (s := 1) (Ent.refl _)) ?_
            first | (refine s_apR1 (dnE at_) rfl rfl rfl (by repeat' constructor) rfl (by rfl) (by rfl) (by rfl) (by rfl) (by first | omega | (simp only [List.length_append, List.length_cons, List.length_nil]; omega)) (by first | omega | (simp only [List.length_append, List.length_cons, List.length_nil]; omega)) ?_) | (refine s_apR1 (dnE ((at_ : Int))) rfl rfl rfl (by repeat' constructor) rfl (by rfl) (by rfl) (by rfl) (by rfl) (by first | omega | (simp only [List.length_append, List.length_cons, List.length_nil]; omega)) (by first | omega | (simp only [List.length_append, List.length_cons, List.length_nil]; omega)) ?_)
            intro a88 c88
            refine s_mv rfl rfl ?_
            refine s_as rfl rfl ?_
            refine s_as rfl rfl ?_
            refine s_as rfl rfl ?_
            refine WpL.nil ?_
            refine Wp.ret ?_
            apply RetQ.mk
            · exact (Res.three rfl rfl rfl rfl)
            · first | (exfalso; omega) | (exact ⟨_, _, out ++ [(⟨2, 0, 0, 0, 0, out5⟩, (at_ : Int) + 1)] ++ [dnE ((at_ : Int) + 1)], at_, 0, fun l0 l1 l2 imgs => (by have q := pl_end1 (hpl l0 l1 l2 imgs) hl0 hat2 hf.2.1 hs5 h5; rw [atE_some hne] at q; exact q), ⟨by omega, by omega⟩, (by first | omega | (simp only [List.length_append, List.length_cons, List.length_nil]; omega)), ⟨fun _ => ⟨_, _, rfl, fun x hx => by rcases List.mem_append.1 hx with hx | hx; exact hkk x hx; rw [List.mem_singleton.1 hx]; exact ⟨rfl, hw5⟩⟩, fun q => absurd rfl q⟩, rfl, rfl⟩) | (exact ⟨_, _, out ++ [dnE ((at_ : Int) + 1)], at_, 0, fun l0 l1 l2 imgs => (by have q := pl_end1 (hpl l0 l1 l2 imgs) hl0 hat2 hf.2.1 hs5 h5; rw [atE_none he5, List.append_nil] at q; exact q), ⟨by omega, by omega⟩, (by first | omega | (simp only [List.length_append, List.length_cons, List.length_nil]; omega)), ⟨fun _ => ⟨_, out, rfl, hkk⟩, fun q => absurd rfl q⟩, rfl, rfl⟩) | (exact ⟨_, _, out ++ [(⟨2, 0, 0, 0, 0, out5⟩, (at_ : Int) + 1)], at_, e5, fun l0 l1 l2 imgs => (by have q := pl_end2 (hpl l0 l1 l2 imgs) hl0 hat2 hs5 h7 (show e5 ≠ 0 by rw [he6 h7]; decide) (show e5 ≠ 9 by rw [he6 h7]; decide); rw [atE_some hne] at q; exact q), ⟨by omega, by omega⟩, (by first | omega | (simp only [List.length_append, List.length_cons, List.length_nil]; omega)), ⟨fun q => absurd q (by first | decide | (rw [he6 h7]; decide) | (rcases hla with z | z | z <;> first | exact z.2.1 | (exfalso; omega))), fun _ => fun x hx => by rcases List.mem_append.1 hx with hx | hx; exact hkk x hx; rw [List.mem_singleton.1 hx]; exact ⟨rfl, hw5⟩⟩, rfl, rfl⟩) | (exact ⟨_, _, out, at_, e5, fun l0 l1 l2 imgs => (by have q := pl_end2 (hpl l0 l1 l2 imgs) hl0 hat2 hs5 h7 (show e5 ≠ 0 by rw [he6 h7]; decide) (show e5 ≠ 9 by rw [he6 h7]; decide); rw [atE_none he5, List.append_nil] at q; exact q), ⟨by omega, by omega⟩, (by first | omega | (simp only [List.length_append, List.length_cons, List.length_nil]; omega)), ⟨fun q => absurd q (by first | decide | (rw [he6 h7]; decide) | (rcases hla with z | z | z <;> first | exact z.2.1 | (exfalso; omega))), fun _ => hkk⟩, rfl, rfl⟩) | (exact ⟨_, _, out ++ [dnE at_], at_, 0, fun l0 l1 l2 imgs => pl_done (hpl l0 l1 l2 imgs) h6, ⟨by omega, by omega⟩, (by first | omega | (simp only [List.length_append, List.length_cons, List.length_nil]; omega)), ⟨fun _ => ⟨_, out, rfl, hkk⟩, fun q => absurd rfl q⟩, rfl, rfl⟩) | (exact ⟨_, _, out, at_, e, fun l0 l1 l2 imgs => pl_wrong (hpl l0 l1 l2 imgs) h7 (by rcases hla with q | q | q <;> first | exact q.2.1 | (exfalso; omega)) (by rcases hla with q | q | q <;> first | exact q.2.2 | (exfalso; omega)), ⟨by omega, by omega⟩, (by first | omega | (simp only [List.length_append, List.length_cons, List.length_nil]; omega)), ⟨fun q => absurd q (by first | decide | (rw [he6 h7]; decide) | (rcases hla with z | z | z <;> first | exact z.2.1 | (exfalso; omega))), fun _ => hkk⟩, rfl, rfl⟩) | (subst h3; exact ⟨_, _, out, at_, 9, fun l0 l1 l2 imgs => pl_open (hpl l0 l1 l2 imgs) (show last = 0 by omega) (by omega), ⟨by omega, by omega⟩, (by first | omega | (simp only [List.length_append, List.length_cons, List.length_nil]; omega)), ⟨fun q => absurd q (by first | decide | (rw [he6 h7]; decide) | (rcases hla with z | z | z <;> first | exact z.2.1 | (exfalso; omega))), fun _ => hkk⟩, rfl, rfl⟩)
            · first | exact Ent.refl _ | exact Ent.nil _ | exact Take.ent' (by repeat' constructor) | (repeat (first | exact Ent.refl _ | refine Ent.drop ?_))
          · refine Wp.skip ?_
            refine Wp.seq ?_
            refine Wp.seq ?_
            refine Wp.region ?_
            refine s_fa (o2 := 8) rfl rfl rfl ?_
            refine s_ld rfl rfl (by rfl) ?_
            refine s_eq rfl rfl rfl ?_
            refine WpL.nil ?_
            refine Wp.condD rfl (fun h7 => ?_) (fun h7 => ?_)
            · refine Wp.seq ?_
              apply Wp.draw mixed [⟨93, _, []⟩, ⟨94, _, []⟩, ⟨95, _, []⟩, ⟨96, _, [2]⟩, ⟨8, _, [0]⟩, ⟨9, _, [1, 4, 0]⟩, ⟨10, _, [3, 5, 0, 1, 2, 4]⟩] rfl
              · refine AllObs.mk ?_ ?_
                · refine s_mv rfl rfl ?_
                  exact obN rfl
                refine AllObs.mk ?_ ?_
                · refine s_mv rfl rfl ?_
                  exact obN rfl
                refine AllObs.mk ?_ ?_
                · refine s_fa (o2 := 9) rfl rfl rfl ?_
                  exact obN rfl
                refine AllObs.mk ?_ ?_
                · refine s_ld rfl rfl (by rfl) ?_
                  exact obN rfl
                refine AllObs.mk ?_ ?_
                · refine s_as rfl rfl ?_
                  exact obN rfl
                refine AllObs.mk ?_ ?_
                · refine s_as rfl rfl ?_
                  exact obN rfl
                refine AllObs.mk ?_ ?_
                · refine s_as rfl rfl ?_
                  exact obN rfl
                exact AllObs.nil
              · refine Wp.ret ?_
                apply RetQ.mk
                · exact (Res.three rfl rfl rfl rfl)
                · first | (exfalso; omega) | (exact ⟨_, _, out ++ [(⟨2, 0, 0, 0, 0, out5⟩, (at_ : Int) + 1)] ++ [dnE ((at_ : Int) + 1)], at_, 0, fun l0 l1 l2 imgs => (by have q := pl_end1 (hpl l0 l1 l2 imgs) hl0 hat2 hf.2.1 hs5 h5; rw [atE_some hne] at q; exact q), ⟨by omega, by omega⟩, (by first | omega | (simp only [List.length_append, List.length_cons, List.length_nil]; omega)), ⟨fun _ => ⟨_, _, rfl, fun x hx => by rcases List.mem_append.1 hx with hx | hx; exact hkk x hx; rw [List.mem_singleton.1 hx]; exact ⟨rfl, hw5⟩⟩, fun q => absurd rfl q⟩, rfl, rfl⟩) | (exact ⟨_, _, out ++ [dnE ((at_ : Int) + 1)], at_, 0, fun l0 l1 l2 imgs => (by have q := pl_end1 (hpl l0 l1 l2 imgs) hl0 hat2 hf.2.1 hs5 h5; rw [atE_none he5, List.append_nil] at q; exact q), ⟨by omega, by omega⟩, (by first | omega | (simp only [List.length_append, List.length_cons, List.length_nil]; omega)), ⟨fun _ => ⟨_, out, rfl, hkk⟩, fun q => absurd rfl q⟩, rfl, rfl⟩) | (exact ⟨_, _, out ++ [(⟨2, 0, 0, 0, 0, out5⟩, (at_ : Int) + 1)], at_, e5, fun l0 l1 l2 imgs => (by have q := pl_end2 (hpl l0 l1 l2 imgs) hl0 hat2 hs5 h7 (show e5 ≠ 0 by rw [he6 h7]; decide) (show e5 ≠ 9 by rw [he6 h7]; decide); rw [atE_some hne] at q; exact q), ⟨by omega, by omega⟩, (by first | omega | (simp only [List.length_append, List.length_cons, List.length_nil]; omega)), ⟨fun q => absurd q (by first | decide | (rw [he6 h7]; decide) | (rcases hla with z | z | z <;> first | exact z.2.1 | (exfalso; omega))), fun _ => fun x hx => by rcases List.mem_append.1 hx with hx | hx; exact hkk x hx; rw [List.mem_singleton.1 hx]; exact ⟨rfl, hw5⟩⟩, rfl, rfl⟩) | (exact ⟨_, _, out, at_, e5, fun l0 l1 l2 imgs => (by have q := pl_end2 (hpl l0 l1 l2 imgs) hl0 hat2 hs5 h7 (show e5 ≠ 0 by rw [he6 h7]; decide) (show e5 ≠ 9 by rw [he6 h7]; decide); rw [atE_none he5, List.append_nil] at q; exact q), ⟨by omega, by omega⟩, (by first | omega | (simp only [List.length_append, List.length_cons, List.length_nil]; omega)), ⟨fun q => absurd q (by first | decide | (rw [he6 h7]; decide) | (rcases hla with z | z | z <;> first | exact z.2.1 | (exfalso; omega))), fun _ => hkk⟩, rfl, rfl⟩) | (exact ⟨_, _, out ++ [dnE at_], at_, 0, fun l0 l1 l2 imgs => pl_done (hpl l0 l1 l2 imgs) h6, ⟨by omega, by omega⟩, (by first | omega | (simp only [List.length_append, List.length_cons, List.length_nil]; omega)), ⟨fun _ => ⟨_, out, rfl, hkk⟩, fun q => absurd rfl q⟩, rfl, rfl⟩) | (exact ⟨_, _, out, at_, e, fun l0 l1 l2 imgs => pl_wrong (hpl l0 l1 l2 imgs) h7 (by rcases hla with q | q | q <;> first | exact q.2.1 | (exfalso; omega)) (by rcases hla with q | q | q <;> first | exact q.2.2 | (exfalso; omega)), ⟨by omega, by omega⟩, (by first | omega | (simp only [List.length_append, List.length_cons, List.length_nil]; omega)), ⟨fun q => absurd q (by first | decide | (rw [he6 h7]; decide) | (rcases hla with z | z | z <;> first | exact z.2.1 | (exfalso; omega))), fun _ => hkk⟩, rfl, rfl⟩) | (subst h3; exact ⟨_, _, out, at_, 9, fun l0 l1 l2 imgs => pl_open (hpl l0 l1 l2 imgs) (show last = 0 by omega) (by omega), ⟨by omega, by omega⟩, (by first | omega | (simp only [List.length_append, List.length_cons, List.length_nil]; omega)), ⟨fun q => absurd q (by first | decide | (rw [he6 h7]; decide) | (rcases hla with z | z | z <;> first | exact z.2.1 | (exfalso; omega))), fun _ => hkk⟩, rfl, rfl⟩)
                · first | exact Ent.refl _ | exact Ent.nil _ | exact Take.ent' (by repeat' constructor) | (repeat (first | exact Ent.refl _ | refine Ent.drop ?_))
            · refine Wp.skip ?_
              refine Wp.seq ?_
              refine Wp.region ?_
              refine s_mv rfl rfl ?_
              refine s_mv rfl rfl ?_
              refine s_as rfl rfl ?_
              refine s_as rfl rfl ?_
              refine s_as rfl rfl ?_
              refine WpL.nil ?_
              refine Wp.ret ?_
              apply RetQ.mk
              · exact (Res.three rfl rfl rfl rfl)
              · first | (exfalso; omega) | (exact ⟨_, _, out ++ [(⟨2, 0, 0, 0, 0, out5⟩, (at_ : Int) + 1)] ++ [dnE ((at_ : Int) + 1)], at_, 0, fun l0 l1 l2 imgs => (by have q := pl_end1 (hpl l0 l1 l2 imgs) hl0 hat2 hf.2.1 hs5 h5; rw [atE_some hne] at q; exact q), ⟨by omega, by omega⟩, (by first | omega | (simp only [List.length_append, List.length_cons, List.length_nil]; omega)), ⟨fun _ => ⟨_, _, rfl, fun x hx => by rcases List.mem_append.1 hx with hx | hx; exact hkk x hx; rw [List.mem_singleton.1 hx]; exact ⟨rfl, hw5⟩⟩, fun q => absurd rfl q⟩, rfl, rfl⟩) | (exact ⟨_, _, out ++ [dnE ((at_ : Int) + 1)], at_, 0, fun l0 l1 l2 imgs => (by have q := pl_end1 (hpl l0 l1 l2 imgs) hl0 hat2 hf.2.1 hs5 h5; rw [atE_none he5, List.append_nil] at q; exact q), ⟨by omega, by omega⟩, (by first | omega | (simp only [List.length_append, List.length_cons, List.length_nil]; omega)), ⟨fun _ => ⟨_, out, rfl, hkk⟩, fun q => absurd rfl q⟩, rfl, rfl⟩) | (exact ⟨_, _, out ++ [(⟨2, 0, 0, 0, 0, out5⟩, (at_ : Int) + 1)], at_, e5, fun l0 l1 l2 imgs => (by have q := pl_end2 (hpl l0 l1 l2 imgs) hl0 hat2 hs5 h7 (show e5 ≠ 0 by rw [he6 h7]; decide) (show e5 ≠ 9 by rw [he6 h7]; decide); rw [atE_some hne] at q; exact q), ⟨by omega, by omega⟩, (by first | omega | (simp only [List.length_append, List.length_cons, List.length_nil]; omega)), ⟨fun q => absurd q (by first | decide | (rw [he6 h7]; decide) | (rcases hla with z | z | z <;> first | exact z.2.1 | (exfalso; omega))), fun _ => fun x hx => by rcases List.mem_append.1 hx with hx | hx; exact hkk x hx; rw [List.mem_singleton.1 hx]; exact ⟨rfl, hw5⟩⟩, rfl, rfl⟩) | (exact ⟨_, _, out, at_, e5, fun l0 l1 l2 imgs => (by have q := pl_end2 (hpl l0 l1 l2 imgs) hl0 hat2 hs5 h7 (show e5 ≠ 0 by rw [he6 h7]; decide) (show e5 ≠ 9 by rw [he6 h7]; decide); rw [atE_none he5, List.append_nil] at q; exact q), ⟨by omega, by omega⟩, (by first | omega | (simp only [List.length_append, List.length_cons, List.length_nil]; omega)), ⟨fun q => absurd q (by first | decide | (rw [he6 h7]; decide) | (rcases hla with z | z | z <;> first | exact z.2.1 | (exfalso; omega))), fun _ => hkk⟩, rfl, rfl⟩) | (exact ⟨_, _, out ++ [dnE at_], at_, 0, fun l0 l1 l2 imgs => pl_done (hpl l0 l1 l2 imgs) h6, ⟨by omega, by omega⟩, (by first | omega | (simp only [List.length_append, List.length_cons, List.length_nil]; omega)), ⟨fun _ => ⟨_, out, rfl, hkk⟩, fun q => absurd rfl q⟩, rfl, rfl⟩) | (exact ⟨_, _, out, at_, e, fun l0 l1 l2 imgs => pl_wrong (hpl l0 l1 l2 imgs) h7 (by rcases hla with q | q | q <;> first | exact q.2.1 | (exfalso; omega)) (by rcases hla with q | q | q <;> first | exact q.2.2 | (exfalso; omega)), ⟨by omega, by omega⟩, (by first | omega | (simp only [List.length_append, List.length_cons, List.length_nil]; omega)), ⟨fun q => absurd q (by first | decide | (rw [he6 h7]; decide) | (rcases hla with z | z | z <;> first | exact z.2.1 | (exfalso; omega))), fun _ => hkk⟩, rfl, rfl⟩) | (subst h3; exact ⟨_, _, out, at_, 9, fun l0 l1 l2 imgs => pl_open (hpl l0 l1 l2 imgs) (show last = 0 by omega) (by omega), ⟨by omega, by omega⟩, (by first | omega | (simp only [List.length_append, List.length_cons, List.length_nil]; omega)), ⟨fun q => absurd q (by first | decide | (rw [he6 h7]; decide) | (rcases hla with z | z | z <;> first | exact z.2.1 | (exfalso; omega))), fun _ => hkk⟩, rfl, rfl⟩)
              · first | exact Ent.refl _ | exact Ent.nil _ | exact Take.ent' (by repeat' constructor) | (repeat (first | exact Ent.refl _ | refine Ent.drop ?_))
      · have hg3 := of_decide_eq_false hg3
        refine s_pickF rfl rfl rfl ?_
        refine WpL.nil ?_
        refine Wp.condF rfl ?_
        refine Wp.skip ?_
        refine Wp.seq ?_
        refine Wp.seq ?_
        refine Wp.region ?_
        refine s_fa (o2 := 8) rfl rfl rfl ?_
        refine s_ld rfl rfl (by rfl) ?_
        refine s_eq rfl rfl rfl ?_
        refine WpL.nil ?_
        refine Wp.condD rfl (fun h6 => ?_) (fun h6 => ?_)
        · refine Wp.seq ?_
          refine Wp.region ?_
          refine s_mv rfl rfl ?_
          refine s_mv rfl rfl ?_
          refine s_bd rfl rfl ?_
          refine s_bsA1 rfl rfl (by rfl) (by rfl) (by rfl) (by rfl) ?_
          intro g20
          refine WpL.ent (Ent.own_nil (T := 92) (s := 1) (Ent.refl _)) ?_
          first | (refine s_apR1 (dnE at_) rfl rfl rfl (by repeat' constructor) rfl (by rfl) (by rfl) (by rfl) (by rfl) (by first | omega | (simp only [List.length_append, List.length_cons, List.length_nil]; omega)) (by first | omega | (simp only [List.length_append, List.length_cons, List.length_nil]; omega)) ?_) | (refine s_apR1 (dnE ((at_ : Int))) rfl rfl rfl (by repeat' constructor) rfl (by rfl) (by rfl) (by rfl) (by rfl) (by first | omega | (simp only [List.length_append, List.length_cons, List.length_nil]; omega)) (by first | omega | (simp only [List.length_append, List.length_cons, List.length_nil]; omega)) ?_)
          intro a88 c88
          refine s_mv rfl rfl ?_
          refine s_as rfl rfl ?_
          refine s_as rfl rfl ?_
          refine s_as rfl rfl ?_
          refine WpL.nil ?_
          refine Wp.ret ?_
          apply RetQ.mk
          · exact (Res.three rfl rfl rfl rfl)
          · first | (exfalso; omega) | (exact ⟨_, _, out ++ [(⟨2, 0, 0, 0, 0, out5⟩, (at_ : Int) + 1)] ++ [dnE ((at_ : Int) + 1)], at_, 0, fun l0 l1 l2 imgs => (by have q := pl_end1 (hpl l0 l1 l2 imgs) hl0 hat2 hf.2.1 hs5 h5; rw [atE_some hne] at q; exact q), ⟨by omega, by omega⟩, (by first | omega | (simp only [List.length_append, List.length_cons, List.length_nil]; omega)), ⟨fun _ => ⟨_, _, rfl, fun x hx => by rcases List.mem_append.1 hx with hx | hx; exact hkk x hx; rw [List.mem_singleton.1 hx]; exact ⟨rfl, hw5⟩⟩, fun q => absurd rfl q⟩, rfl, rfl⟩) | (exact ⟨_, _, out ++ [dnE ((at_ : Int) + 1)], at_, 0, fun l0 l1 l2 imgs => (by have q := pl_end1 (hpl l0 l1 l2 imgs) hl0 hat2 hf.2.1 hs5 h5; rw [atE_none he5, List.append_nil] at q; exact q), ⟨by omega, by omega⟩, (by first | omega | (simp only [List.length_append, List.length_cons, List.length_nil]; omega)), ⟨fun _ => ⟨_, out, rfl, hkk⟩, fun q => absurd rfl q⟩, rfl, rfl⟩) | (exact ⟨_, _, out ++ [(⟨2, 0, 0, 0, 0, out5⟩, (at_ : Int) + 1)], at_, e5, fun l0 l1 l2 imgs => (by have q := pl_end2 (hpl l0 l1 l2 imgs) hl0 hat2 hs5 h7 (show e5 ≠ 0 by rw [he6 h7]; decide) (show e5 ≠ 9 by rw [he6 h7]; decide); rw [atE_some hne] at q; exact q), ⟨by omega, by omega⟩, (by first | omega | (simp only [List.length_append, List.length_cons, List.length_nil]; omega)), ⟨fun q => absurd q (by first | decide | (rw [he6 h7]; decide) | (rcases hla with z | z | z <;> first | exact z.2.1 | (exfalso; omega))), fun _ => fun x hx => by rcases List.mem_append.1 hx with hx | hx; exact hkk x hx; rw [List.mem_singleton.1 hx]; exact ⟨rfl, hw5⟩⟩, rfl, rfl⟩) | (exact ⟨_, _, out, at_, e5, fun l0 l1 l2 imgs => (by have q := pl_end2 (hpl l0 l1 l2 imgs) hl0 hat2 hs5 h7 (show e5 ≠ 0 by rw [he6 h7]; decide) (show e5 ≠ 9 by rw [he6 h7]; decide); rw [atE_none he5, List.append_nil] at q; exact q), ⟨by omega, by omega⟩, (by first | omega | (simp only [List.length_append, List.length_cons, List.length_nil]; omega)), ⟨fun q => absurd q (by first | decide | (rw [he6 h7]; decide) | (rcases hla with z | z | z <;> first | exact z.2.1 | (exfalso; omega))), fun _ => hkk⟩, rfl, rfl⟩) | (exact ⟨_, _, out ++ [dnE at_], at_, 0, fun l0 l1 l2 imgs => pl_done (hpl l0 l1 l2 imgs) h6, ⟨by omega, by omega⟩, (by first | omega | (simp only [List.length_append, List.length_cons, List.length_nil]; omega)), ⟨fun _ => ⟨_, out, rfl, hkk⟩, fun q => absurd rfl q⟩, rfl, rfl⟩) | (exact ⟨_, _, out, at_, e, fun l0 l1 l2 imgs => pl_wrong (hpl l0 l1 l2 imgs) h7 (by rcases hla with q | q | q <;> first | exact q.2.1 | (exfalso; omega)) (by rcases hla with q | q | q <;> first | exact q.2.2 | (exfalso; omega)), ⟨by omega, by omega⟩, (by first | omega | (simp only [List.length_append, List.length_cons, List.length_nil]; omega)), ⟨fun q => absurd q (by first | decide | (rw [he6 h7]; decide) | (rcases hla with z | z | z <;> first | exact z.2.1 | (exfalso; omega))), fun _ => hkk⟩, rfl, rfl⟩) | (subst h3; exact ⟨_, _, out, at_, 9, fun l0 l1 l2 imgs => pl_open (hpl l0 l1 l2 imgs) (show last = 0 by omega) (by omega), ⟨by omega, by omega⟩, (by first | omega | (simp only [List.length_append, List.length_cons, List.length_nil]; omega)), ⟨fun q => absurd q (by first | decide | (rw [he6 h7]; decide) | (rcases hla with z | z | z <;> first | exact z.2.1 | (exfalso; omega))), fun _ => hkk⟩, rfl, rfl⟩)
          · first | exact Ent.refl _ | exact Ent.nil _ | exact Take.ent' (by repeat' constructor) | (repeat (first | exact Ent.refl _ | refine Ent.drop ?_))
        · refine Wp.skip ?_
          refine Wp.seq ?_
          refine Wp.seq ?_
          refine Wp.region ?_
          refine s_fa (o2 := 8) rfl rfl rfl ?_
          refine s_ld rfl rfl (by rfl) ?_
          refine s_eq rfl rfl rfl ?_
          refine WpL.nil ?_
          refine Wp.condD rfl (fun h7 => ?_) (fun h7 => ?_)
          · refine Wp.seq ?_
            apply Wp.draw mixed [⟨93, _, []⟩, ⟨94, _, []⟩, ⟨95, _, []⟩, ⟨96, _, [2]⟩, ⟨8, _, [0]⟩, ⟨9, _, [1, 4, 0]⟩, ⟨10, _, [3, 5, 0, 1, 2, 4]⟩] rfl
            · refine AllObs.mk ?_ ?_
              · refine s_mv rfl rfl ?_
                exact obN rfl
              refine AllObs.mk ?_ ?_
              · refine s_mv rfl rfl ?_
                exact obN rfl
              refine AllObs.mk ?_ ?_
              · refine s_fa (o2 := 9) rfl rfl rfl ?_
                exact obN rfl
              refine AllObs.mk ?_ ?_
              · refine s_ld rfl rfl (by rfl) ?_
                exact obN rfl
              refine AllObs.mk ?_ ?_
              · refine s_as rfl rfl ?_
                exact obN rfl
              refine AllObs.mk ?_ ?_
              · refine s_as rfl rfl ?_
                exact obN rfl
              refine AllObs.mk ?_ ?_
              · refine s_as rfl rfl ?_
                exact obN rfl
              exact AllObs.nil
            · refine Wp.ret ?_
              apply RetQ.mk
              · exact (Res.three rfl rfl rfl rfl)
              · first | (exfalso; omega) | (exact ⟨_, _, out ++ [(⟨2, 0, 0, 0, 0, out5⟩, (at_ : Int) + 1)] ++ [dnE ((at_ : Int) + 1)], at_, 0, fun l0 l1 l2 imgs => (by have q := pl_end1 (hpl l0 l1 l2 imgs) hl0 hat2 hf.2.1 hs5 h5; rw [atE_some hne] at q; exact q), ⟨by omega, by omega⟩, (by first | omega | (simp only [List.length_append, List.length_cons, List.length_nil]; omega)), ⟨fun _ => ⟨_, _, rfl, fun x hx => by rcases List.mem_append.1 hx with hx | hx; exact hkk x hx; rw [List.mem_singleton.1 hx]; exact ⟨rfl, hw5⟩⟩, fun q => absurd rfl q⟩, rfl, rfl⟩) | (exact ⟨_, _, out ++ [dnE ((at_ : Int) + 1)], at_, 0, fun l0 l1 l2 imgs => (by have q := pl_end1 (hpl l0 l1 l2 imgs) hl0 hat2 hf.2.1 hs5 h5; rw [atE_none he5, List.append_nil] at q; exact q), ⟨by omega, by omega⟩, (by first | omega | (simp only [List.length_append, List.length_cons, List.length_nil]; omega)), ⟨fun _ => ⟨_, out, rfl, hkk⟩, fun q => absurd rfl q⟩, rfl, rfl⟩) | (exact ⟨_, _, out ++ [(⟨2, 0, 0, 0, 0, out5⟩, (at_ : Int) + 1)], at_, e5, fun l0 l1 l2 imgs => (by have q := pl_end2 (hpl l0 l1 l2 imgs) hl0 hat2 hs5 h7 (show e5 ≠ 0 by rw [he6 h7]; decide) (show e5 ≠ 9 by rw [he6 h7]; decide); rw [atE_some hne] at q; exact q), ⟨by omega, by omega⟩, (by first | omega | (simp only [List.length_append, List.length_cons, List.length_nil]; omega)), ⟨fun q => absurd q (by first | decide | (rw [he6 h7]; decide) | (rcases hla with z | z | z <;> first | exact z.2.1 | (exfalso; omega))), fun _ => fun x hx => by rcases List.mem_append.1 hx with hx | hx; exact hkk x hx; rw [List.mem_singleton.1 hx]; exact ⟨rfl, hw5⟩⟩, rfl, rfl⟩) | (exact ⟨_, _, out, at_, e5, fun l0 l1 l2 imgs => (by have q := pl_end2 (hpl l0 l1 l2 imgs) hl0 hat2 hs5 h7 (show e5 ≠ 0 by rw [he6 h7]; decide) (show e5 ≠ 9 by rw [he6 h7]; decide); rw [atE_none he5, List.append_nil] at q; exact q), ⟨by omega, by omega⟩, (by first | omega | (simp only [List.length_append, List.length_cons, List.length_nil]; omega)), ⟨fun q => absurd q (by first | decide | (rw [he6 h7]; decide) | (rcases hla with z | z | z <;> first | exact z.2.1 | (exfalso; omega))), fun _ => hkk⟩, rfl, rfl⟩) | (exact ⟨_, _, out ++ [dnE at_], at_, 0, fun l0 l1 l2 imgs => pl_done (hpl l0 l1 l2 imgs) h6, ⟨by omega, by omega⟩, (by first | omega | (simp only [List.length_append, List.length_cons, List.length_nil]; omega)), ⟨fun _ => ⟨_, out, rfl, hkk⟩, fun q => absurd rfl q⟩, rfl, rfl⟩) | (exact ⟨_, _, out, at_, e, fun l0 l1 l2 imgs => pl_wrong (hpl l0 l1 l2 imgs) h7 (by rcases hla with q | q | q <;> first | exact q.2.1 | (exfalso; omega)) (by rcases hla with q | q | q <;> first | exact q.2.2 | (exfalso; omega)), ⟨by omega, by omega⟩, (by first | omega | (simp only [List.length_append, List.length_cons, List.length_nil]; omega)), ⟨fun q => absurd q (by first | decide | (rw [he6 h7]; decide) | (rcases hla with z | z | z <;> first | exact z.2.1 | (exfalso; omega))), fun _ => hkk⟩, rfl, rfl⟩) | (subst h3; exact ⟨_, _, out, at_, 9, fun l0 l1 l2 imgs => pl_open (hpl l0 l1 l2 imgs) (show last = 0 by omega) (by omega), ⟨by omega, by omega⟩, (by first | omega | (simp only [List.length_append, List.length_cons, List.length_nil]; omega)), ⟨fun q => absurd q (by first | decide | (rw [he6 h7]; decide) | (rcases hla with z | z | z <;> first | exact z.2.1 | (exfalso; omega))), fun _ => hkk⟩, rfl, rfl⟩)
              · first | exact Ent.refl _ | exact Ent.nil _ | exact Take.ent' (by repeat' constructor) | (repeat (first | exact Ent.refl _ | refine Ent.drop ?_))
          · refine Wp.skip ?_
            refine Wp.seq ?_
            refine Wp.region ?_
            refine s_mv rfl rfl ?_
            refine s_mv rfl rfl ?_
            refine s_as rfl rfl ?_
            refine s_as rfl rfl ?_
            refine s_as rfl rfl ?_
            refine WpL.nil ?_
            refine Wp.ret ?_
            apply RetQ.mk
            · exact (Res.three rfl rfl rfl rfl)
            · first | (exfalso; omega) | (exact ⟨_, _, out ++ [(⟨2, 0, 0, 0, 0, out5⟩, (at_ : Int) + 1)] ++ [dnE ((at_ : Int) + 1)], at_, 0, fun l0 l1 l2 imgs => (by have q := pl_end1 (hpl l0 l1 l2 imgs) hl0 hat2 hf.2.1 hs5 h5; rw [atE_some hne] at q; exact q), ⟨by omega, by omega⟩, (by first | omega | (simp only [List.length_append, List.length_cons, List.length_nil]; omega)), ⟨fun _ => ⟨_, _, rfl, fun x hx => by rcases List.mem_append.1 hx with hx | hx; exact hkk x hx; rw [List.mem_singleton.1 hx]; exact ⟨rfl, hw5⟩⟩, fun q => absurd rfl q⟩, rfl, rfl⟩) | (exact ⟨_, _, out ++ [dnE ((at_ : Int) + 1)], at_, 0, fun l0 l1 l2 imgs => (by have q := pl_end1 (hpl l0 l1 l2 imgs) hl0 hat2 hf.2.1 hs5 h5; rw [atE_none he5, List.append_nil] at q; exact q), ⟨by omega, by omega⟩, (by first | omega | (simp only [List.length_append, List.length_cons, List.length_nil]; omega)), ⟨fun _ => ⟨_, out, rfl, hkk⟩, fun q => absurd rfl q⟩, rfl, rfl⟩) | (exact ⟨_, _, out ++ [(⟨2, 0, 0, 0, 0, out5⟩, (at_ : Int) + 1)], at_, e5, fun l0 l1 l2 imgs => (by have q := pl_end2 (hpl l0 l1 l2 imgs) hl0 hat2 hs5 h7 (show e5 ≠ 0 by rw [he6 h7]; decide) (show e5 ≠ 9 by rw [he6 h7]; decide); rw [atE_some hne] at q; exact q), ⟨by omega, by omega⟩, (by first | omega | (simp only [List.length_append, List.length_cons, List.length_nil]; omega)), ⟨fun q => absurd q (by first | decide | (rw [he6 h7]; decide) | (rcases hla with z | z | z <;> first | exact z.2.1 | (exfalso; omega))), fun _ => fun x hx => by rcases List.mem_append.1 hx with hx | hx; exact hkk x hx; rw [List.mem_singleton.1 hx]; exact ⟨rfl, hw5⟩⟩, rfl, rfl⟩) | (exact ⟨_, _, out, at_, e5, fun l0 l1 l2 imgs => (by have q := pl_end2 (hpl l0 l1 l2 imgs) hl0 hat2 hs5 h7 (show e5 ≠ 0 by rw [he6 h7]; decide) (show e5 ≠ 9 by rw [he6 h7]; decide); rw [atE_none he5, List.append_nil] at q; exact q), ⟨by omega, by omega⟩, (by first | omega | (simp only [List.length_append, List.length_cons, List.length_nil]; omega)), ⟨fun q => absurd q (by first | decide | (rw [he6 h7]; decide) | (rcases hla with z | z | z <;> first | exact z.2.1 | (exfalso; omega))), fun _ => hkk⟩, rfl, rfl⟩) | (exact ⟨_, _, out ++ [dnE at_], at_, 0, fun l0 l1 l2 imgs => pl_done (hpl l0 l1 l2 imgs) h6, ⟨by omega, by omega⟩, (by first | omega | (simp only [List.length_append, List.length_cons, List.length_nil]; omega)), ⟨fun _ => ⟨_, out, rfl, hkk⟩, fun q => absurd rfl q⟩, rfl, rfl⟩) | (exact ⟨_, _, out, at_, e, fun l0 l1 l2 imgs => pl_wrong (hpl l0 l1 l2 imgs) h7 (by rcases hla with q | q | q <;> first | exact q.2.1 | (exfalso; omega)) (by rcases hla with q | q | q <;> first | exact q.2.2 | (exfalso; omega)), ⟨by omega, by omega⟩, (by first | omega | (simp only [List.length_append, List.length_cons, List.length_nil]; omega)), ⟨fun q => absurd q (by first | decide | (rw [he6 h7]; decide) | (rcases hla with z | z | z <;> first | exact z.2.1 | (exfalso; omega))), fun _ => hkk⟩, rfl, rfl⟩) | (subst h3; exact ⟨_, _, out, at_, 9, fun l0 l1 l2 imgs => pl_open (hpl l0 l1 l2 imgs) (show last = 0 by omega) (by omega), ⟨by omega, by omega⟩, (by first | omega | (simp only [List.length_append, List.length_cons, List.length_nil]; omega)), ⟨fun q => absurd q (by first | decide | (rw [he6 h7]; decide) | (rcases hla with z | z | z <;> first | exact z.2.1 | (exfalso; omega))), fun _ => hkk⟩, rfl, rfl⟩)
            · first | exact Ent.refl _ | exact Ent.nil _ | exact Take.ent' (by repeat' constructor) | (repeat (first | exact Ent.refl _ | refine Ent.drop ?_))

end Go.Proofs.YtggamdlpiejbiaaGreat
