/- Walks. -/
import Derived.Test.YtoiecgmnnjipfaaNum
import Derived.Test.YtoiecgmnnjipfaaLw6
namespace Go.Proofs.Ytoiecgmnnjipfaa
open Go.RowKit Go.Shelf


theorem unpackS_bd (p : Int) : ∀ x ∈ unpackS p, 0 ≤ x ∧ x ≤ 65535 := by
  intro x hx
  unfold unpackS at hx
  split at hx
  · simp at hx; omega
  · split at hx
    · simp at hx; omega
    · simp at hx
def dgl (x : Int) : Int := ((digs x.toNat).length : Int)
theorem dgl_bd {x : Int} (h : x ≤ 65535) : 0 ≤ dgl x ∧ dgl x ≤ 5 := by
  unfold dgl
  rw [lowD_digs, List.length_reverse, List.length_map]
  have := lowD_len20 (b := 10) (n := x.toNat) (by omega) 4 (by omega)
  omega
def dsum (xs : List Int) : Int := (xs.map dgl).sum
theorem dsum_snoc (xs : List Int) {k : Nat} (h : k < xs.length) : dsum (xs.take k) + dgl xs[k] = dsum (xs.take (k + 1)) := by
  unfold dsum
  rw [take_snoc' xs h, List.map_append, List.sum_append]; simp
theorem dsum_bd (xs : List Int) (h : ∀ x ∈ xs, x ≤ 65535) : 0 ≤ dsum xs ∧ dsum xs ≤ 5 * (xs.length : Int) := by
  induction xs with
  | nil => simp [dsum]
  | cons x xs ih =>
    have h1 := dgl_bd (h x (by simp))
    have h2 := ih fun y hy => h y (by simp [hy])
    unfold dsum at *
    simp only [List.map_cons, List.sum_cons, List.length_cons]
    omega
def psum (px : List Int) : Int := (px.map fun p => dsum (unpackS p)).sum
theorem psum_snoc (px : List Int) {k : Nat} (h : k < px.length) : psum (px.take k) + dsum (unpackS px[k]) = psum (px.take (k + 1)) := by
  unfold psum
  rw [take_snoc' px h, List.map_append, List.sum_append]; simp
theorem psum_bd (px : List Int) : 0 ≤ psum px ∧ psum px ≤ 15 * (px.length : Int) := by
  induction px with
  | nil => simp [psum]
  | cons p px ih =>
    have h1 := dsum_bd (unpackS p) fun x hx => (unpackS_bd p x hx).2
    have h2 := unpackS_len p
    unfold psum at *
    simp only [List.map_cons, List.sum_cons, List.length_cons]
    omega

theorem Digits_spec (A0 : HP) (a0 : Option Addr) (c0 : Nat) (px : List Int) (hA : RdsL [A0] a0 (pxs px)) (hr : ∀ p ∈ px, 0 ≤ p ∧ p < 18446744073709551616) (hl : px.length ≤ 140737488355328) : Fn Try.prog 32 #[.slice a0 px.length c0] [A0] (fun v l => v = .int .i64 (psum px) ∧ l = [A0]) := by
  refine Fn.intro (vs := [.slice a0 px.length c0]) Try.func32 rfl Try.ntmps32 rfl ?_
  refine Wp.seq ?_
  refine Wp.region ?_
  refine s_as rfl rfl ?_
  refine WpL.nil ?_
  refine Wp.seq ?_
  refine Wp.region ?_
  refine s_as rfl rfl ?_
  refine WpL.nil ?_
  refine Wp.seq ?_
  refine Wp.seq ?_
  refine Wp.region ?_
  refine s_mv rfl rfl ?_
  refine s_lenl rfl rfl ?_
  refine s_mv rfl rfl ?_
  refine WpL.nil ?_
  refine Wp.block ?_
  refine Wp.loopD (σ := Nat) (fun k => k ≤ px.length) [3, 5, 7, 10, 11, 12, 13, 14, 15, 16, 17, 18, 19, 20, 21, 22, 23, 24, 25, 26] (fun k => [(10, .int .i64 (k : Int)), (3, .int .i64 (psum (px.take k)))]) (fun k => [A0]) (fun k => px.length - k) 0 ?_ (by repeat (first | exact FrLe.nil | refine FrLe.cons rfl ?_)) ?_ ?_
  · exact Nat.zero_le _
  · first | exact Ent.refl _ | exact Ent.nil _ | exact Take.ent' (by repeat' constructor) | (repeat (first | exact Ent.refl _ | refine Ent.drop ?_))
  · rintro k hk
    refine Wp.seq ?_
    refine Wp.region ?_
    refine s_lt rfl rfl rfl ?_
    refine WpL.nil ?_
    refine Wp.seq ?_
    refine Wp.condD rfl (fun h1 => ?_) (fun h1 => ?_)
    · have hlt : k < px.length := by omega
      have hpb := hr _ (List.getElem_mem hlt)
      have hps := psum_bd (px.take k)
      have htl : (px.take k).length = k := by rw [List.length_take]; omega
      have hul := unpackS_len px[k]
      refine Wp.skip ?_
      refine Wp.seq ?_
      refine Wp.block ?_
      refine Wp.seq ?_
      refine Wp.region ?_
      refine s_ixa k rfl rfl rfl hA (by first | exact Take.ent' (by repeat' constructor) | (repeat (first | exact Ent.refl _ | refine Ent.drop ?_))) rfl (by omega) (by rw [pxs_len]; omega) ?_
      refine s_ldx rfl rfl hA (by first | exact Take.ent' (by repeat' constructor) | (repeat (first | exact Ent.refl _ | refine Ent.drop ?_))) (pxs_at px hlt) ?_
      refine s_as rfl rfl ?_
      refine WpL.nil ?_
      refine Wp.seq ?_
      refine Wp.region ?_
      refine s_mv rfl rfl ?_
      refine s_callf rfl rfl (by repeat' constructor) (Unpack_spec _ hpb.1 hpb.2) ?_
      rintro _ _ ⟨A1, a1, c1, rfl, rfl, hA1, hn1⟩
      simp only [napp]
      refine s_lenl rfl rfl ?_
      refine s_mv rfl rfl ?_
      refine WpL.nil ?_
      refine Wp.block ?_
      refine Wp.loopD (σ := Nat) (fun j => j ≤ (unpackS px[k]).length) [3, 7, 17, 18, 19, 20, 21, 22, 23, 24, 25] (fun j => [(17, .int .i64 (j : Int)), (3, .int .i64 (psum (px.take k) + dsum ((unpackS px[k]).take j)))]) (fun j => [A1, A0]) (fun j => (unpackS px[k]).length - j) 0 ?_ (FrLe.cons rfl (FrLe.cons (by rw [List.take_zero]; exact congrArg (fun x => some (Value.int .i64 x)) (show psum (px.take k) = psum (px.take k) + dsum [] by simp [dsum])) FrLe.nil)) ?_ ?_
      · exact Nat.zero_le _
      · first | exact Ent.refl _ | exact Ent.nil _ | exact Take.ent' (by repeat' constructor) | (repeat (first | exact Ent.refl _ | refine Ent.drop ?_))
      · rintro j hj
        refine Wp.seq ?_
        refine Wp.region ?_
        refine s_lt rfl rfl rfl ?_
        refine WpL.nil ?_
        refine Wp.seq ?_
        refine Wp.condD rfl (fun h3 => ?_) (fun h3 => ?_)
        · have hlj : j < (unpackS px[k]).length := by omega
          have hub := unpackS_bd px[k] _ (List.getElem_mem hlj)
          have hdl := dgl_bd hub.2
          have hds := dsum_bd ((unpackS px[k]).take j) fun x hx => (unpackS_bd px[k] x (List.mem_of_mem_take hx)).2
          have htj : ((unpackS px[k]).take j).length = j := by rw [List.length_take]; omega
          refine Wp.skip ?_
          refine Wp.seq ?_
          refine Wp.block ?_
          refine Wp.seq ?_
          refine Wp.region ?_
          refine s_ixa j rfl rfl rfl hA1 (by first | exact Take.ent' (by repeat' constructor) | (repeat (first | exact Ent.refl _ | refine Ent.drop ?_))) rfl (by omega) (by rw [ints_len]; omega) ?_
          refine s_ldx rfl rfl hA1 (by first | exact Take.ent' (by repeat' constructor) | (repeat (first | exact Ent.refl _ | refine Ent.drop ?_))) (ints_at _ hlj) ?_
          refine s_as rfl rfl ?_
          refine WpL.nil ?_
          refine Wp.region ?_
          refine s_mv rfl rfl ?_
          refine s_mv rfl rfl ?_
          refine s_callf rfl rfl (by repeat' constructor) (Places_spec _ hub.1 (by omega)) ?_
          rintro _ _ ⟨rfl, rfl⟩
          simp only [napp]
          rw [show ((digs ((unpackS px[k])[j]).toNat).length : Int) = dgl (unpackS px[k])[j] from rfl]
          first | refine s_add rfl rfl rfl (w_i64 (by omega) (by omega)) ?_ | refine s_addw rfl rfl rfl ?_
          refine s_as rfl rfl ?_
          refine WpL.nil ?_
          refine Wp.region ?_
          first | refine s_add rfl rfl rfl (w_i64 (by omega) (by omega)) ?_ | refine s_addw rfl rfl rfl ?_
          refine s_mv rfl rfl ?_
          refine WpL.nil ?_
          refine loopD.next (j + 1) ?_ ?_ (by repeat (first | exact Top.refl | refine Top.push rfl ?_ | refine Top.drop rfl ?_)) (FrLe.cons rfl (FrLe.cons (congrArg (fun x => some (Value.int .i64 x)) ((Int.add_assoc ..).trans (congrArg (psum (px.take k) + ·) (dsum_snoc _ hlj)))) FrLe.nil)) ?_
          · omega
          · omega
          · first | exact Ent.refl _ | exact Ent.nil _ | exact Take.ent' (by repeat' constructor) | (repeat (first | exact Ent.refl _ | refine Ent.drop ?_))
        · have hje : j = (unpackS px[k]).length := by omega
          rw [hje, List.take_length]
          refine Wp.exit ?_
          refine Wp.region ?_
          first | refine s_add rfl rfl rfl (w_i64 (by omega) (by omega)) ?_ | refine s_addw rfl rfl rfl ?_
          refine s_mv rfl rfl ?_
          refine WpL.nil ?_
          refine loopD.next (k + 1) ?_ ?_ (by repeat (first | exact Top.refl | refine Top.push rfl ?_ | refine Top.drop rfl ?_)) (FrLe.cons rfl (FrLe.cons (congrArg (fun x => some (Value.int .i64 x)) (psum_snoc px hlt)) FrLe.nil)) ?_
          · omega
          · omega
          · first | exact Ent.refl _ | exact Ent.nil _ | exact Take.ent' (by repeat' constructor) | (repeat (first | exact Ent.refl _ | refine Ent.drop ?_))
    · refine Wp.exit ?_
      refine Wp.seq ?_
      refine Wp.region ?_
      refine s_mv rfl rfl ?_
      refine s_as rfl rfl ?_
      refine WpL.nil ?_
      refine Wp.ret ?_
      have hke : k = px.length := by omega
      rw [hke, List.take_length]
      apply RetQ.mk
      · exact (Res.one rfl rfl)
      · exact ⟨rfl, rfl⟩
      · first | exact Ent.refl _ | exact Ent.nil _ | exact Take.ent' (by repeat' constructor) | (repeat (first | exact Ent.refl _ | refine Ent.drop ?_))

theorem PlainDigits_spec (A0 : HP) (a0 : Option Addr) (c0 : Nat) (zs : List Int) (hr0 : ∀ p ∈ zs, 0 ≤ p ∧ p < 18446744073709551616) (hzm : zs.length ≤ 9223372036854775807) (hc : zs.length ≤ c0) (hA0 : RdsL [A0] a0 (pxs zs)) : Fn Try.prog 8 #[.slice a0 zs.length c0] [A0] (fun v l => v = .bool true ∧ l = [A0]) := by
  obtain ⟨N, hN⟩ : ∃ N, N = min zs.length 12 := ⟨_, rfl⟩
  have hN12 : N ≤ 12 ∧ N ≤ zs.length := by omega
  obtain ⟨px, hpx⟩ : ∃ px, px = zs.take N := ⟨_, rfl⟩
  have hpl : px.length = N := by rw [hpx, List.length_take]; omega
  have hA : RdsL [A0] a0 (pxs px) := by have := hA0.take N; rw [hpx]; simpa [pxs] using this
  have hr : ∀ p ∈ px, 0 ≤ p ∧ p < 18446744073709551616 := fun p hp => hr0 p (List.mem_of_mem_take (hpx ▸ hp))
  subst hpl
  refine Fn.intro (vs := [.slice a0 zs.length c0]) Try.func8 rfl Try.ntmps8 rfl ?_
  refine Wp.seq ?_
  refine Wp.region ?_
  refine s_as rfl rfl ?_
  refine WpL.nil ?_
  refine Wp.seq ?_
  refine Wp.region ?_
  refine s_mv rfl rfl ?_
  refine s_mv rfl rfl ?_
  refine s_lenl rfl rfl ?_
  refine s_min2 rfl rfl rfl ?_
  refine s_sll_h (H := px.length) rfl rfl rfl (by omega) (by omega) ?_
  refine s_as rfl rfl ?_
  refine WpL.nil ?_
  refine Wp.seq ?_
  refine Wp.region ?_
  refine s_as rfl rfl ?_
  refine WpL.nil ?_
  refine Wp.seq ?_
  refine Wp.seq ?_
  refine Wp.region ?_
  refine s_as rfl rfl ?_
  refine WpL.nil ?_
  refine Wp.block ?_
  refine Wp.loopD (σ := Nat) (fun k => k ≤ px.length) [3, 4, 5, 6, 12, 13, 14, 15, 16, 17, 18, 19, 20, 21, 22, 23, 24, 25, 26, 27, 28, 29, 30, 31, 32, 33, 34, 35, 36] (fun k => [(4, .int .i64 (k : Int)), (3, .int .i64 (psum (px.take k)))]) (fun k => [A0]) (fun k => px.length - k) 0 ?_ (by repeat (first | exact FrLe.nil | refine FrLe.cons rfl ?_)) ?_ ?_
  · exact Nat.zero_le _
  · first | exact Ent.refl _ | exact Ent.nil _ | exact Take.ent' (by repeat' constructor) | (repeat (first | exact Ent.refl _ | refine Ent.drop ?_))
  · rintro k hk
    refine Wp.seq ?_
    refine Wp.seq ?_
    refine Wp.region ?_
    refine s_mv rfl rfl ?_
    refine s_mv rfl rfl ?_
    refine s_lenl rfl rfl ?_
    refine s_lt rfl rfl rfl ?_
    refine WpL.nil ?_
    refine Wp.condD rfl (fun h1 => ?_) (fun h1 => ?_)
    · have hlt : k < px.length := by omega
      have hpb := hr _ (List.getElem_mem hlt)
      have hps := psum_bd (px.take k)
      have htl : (px.take k).length = k := by rw [List.length_take]; omega
      have hul := unpackS_len px[k]
      refine Wp.skip ?_
      refine Wp.seq ?_
      refine Wp.block ?_
      refine Wp.seq ?_
      refine Wp.region ?_
      refine s_mv rfl rfl ?_
      refine s_mv rfl rfl ?_
      refine s_ixa k rfl rfl rfl hA (by first | exact Take.ent' (by repeat' constructor) | (repeat (first | exact Ent.refl _ | refine Ent.drop ?_))) rfl (by omega) (by rw [pxs_len]; omega) ?_
      refine s_ldx rfl rfl hA (by first | exact Take.ent' (by repeat' constructor) | (repeat (first | exact Ent.refl _ | refine Ent.drop ?_))) (pxs_at px hlt) ?_
      refine s_callf rfl rfl (by repeat' constructor) (rUnpack_spec _ hpb.1 hpb.2) ?_
      rintro _ _ ⟨A1, a1, c1, rfl, rfl, hA1, hn1⟩
      simp only [napp]
      refine s_as rfl rfl ?_
      refine WpL.nil ?_
      refine Wp.seq ?_
      refine Wp.region ?_
      refine s_as rfl rfl ?_
      refine WpL.nil ?_
      refine Wp.block ?_
      refine Wp.loopD (σ := Nat) (fun j => j ≤ (unpackS px[k]).length) [3, 6, 23, 24, 25, 26, 27, 28, 29, 30, 31, 32, 33, 34, 35, 36] (fun j => [(6, .int .i64 (j : Int)), (3, .int .i64 (psum (px.take k) + dsum ((unpackS px[k]).take j)))]) (fun j => [A1, A0]) (fun j => (unpackS px[k]).length - j) 0 ?_ (FrLe.cons rfl (FrLe.cons (by rw [List.take_zero]; exact congrArg (fun x => some (Value.int .i64 x)) (show psum (px.take k) = psum (px.take k) + dsum [] by simp [dsum])) FrLe.nil)) ?_ ?_
      · exact Nat.zero_le _
      · first | exact Ent.refl _ | exact Ent.nil _ | exact Take.ent' (by repeat' constructor) | (repeat (first | exact Ent.refl _ | refine Ent.drop ?_))
      · rintro j hj
        refine Wp.seq ?_
        refine Wp.seq ?_
        refine Wp.region ?_
        refine s_mv rfl rfl ?_
        refine s_mv rfl rfl ?_
        refine s_lenl rfl rfl ?_
        refine s_lt rfl rfl rfl ?_
        refine WpL.nil ?_
        refine Wp.condD rfl (fun h3 => ?_) (fun h3 => ?_)
        · have hlj : j < (unpackS px[k]).length := by omega
          have hub := unpackS_bd px[k] _ (List.getElem_mem hlj)
          have hdl := dgl_bd hub.2
          have hds := dsum_bd ((unpackS px[k]).take j) fun x hx => (unpackS_bd px[k] x (List.mem_of_mem_take hx)).2
          have htj : ((unpackS px[k]).take j).length = j := by rw [List.length_take]; omega
          refine Wp.skip ?_
          refine Wp.seq ?_
          refine Wp.block ?_
          refine Wp.region ?_
          refine s_mv rfl rfl ?_
          refine s_mv rfl rfl ?_
          refine s_mv rfl rfl ?_
          refine s_ixa j rfl rfl rfl hA1 (by first | exact Take.ent' (by repeat' constructor) | (repeat (first | exact Ent.refl _ | refine Ent.drop ?_))) rfl (by omega) (by rw [ints_len]; omega) ?_
          refine s_ldx rfl rfl hA1 (by first | exact Take.ent' (by repeat' constructor) | (repeat (first | exact Ent.refl _ | refine Ent.drop ?_))) (ints_at _ hlj) ?_
          refine s_callf rfl rfl (by repeat' constructor) (Decimal_spec _ hub.1 (by omega)) ?_
          rintro _ _ ⟨s1, rfl, hs1, rfl⟩
          simp only [napp]
          have hz1 : (s1.size : Int) = dgl (unpackS px[k])[j] := by rw [← bsOf_len, hs1]; rfl
          refine s_lens rfl Try.underlying9 rfl ?_
          rw [hz1]
          refine s_add rfl rfl rfl (w_i64 (by omega) (by omega)) ?_
          refine s_as rfl rfl ?_
          refine WpL.nil ?_
          refine Wp.region ?_
          refine s_mv rfl rfl ?_
          first | refine s_add rfl rfl rfl (w_i64 (by omega) (by omega)) ?_ | refine s_addw rfl rfl rfl ?_
          refine s_as rfl rfl ?_
          refine WpL.nil ?_
          refine loopD.next (j + 1) ?_ ?_ (by repeat (first | exact Top.refl | refine Top.push rfl ?_ | refine Top.drop rfl ?_)) (FrLe.cons rfl (FrLe.cons (congrArg (fun x => some (Value.int .i64 x)) ((Int.add_assoc ..).trans (congrArg (psum (px.take k) + ·) (dsum_snoc _ hlj)))) FrLe.nil)) ?_
          · omega
          · omega
          · first | exact Ent.refl _ | exact Ent.nil _ | exact Take.ent' (by repeat' constructor) | (repeat (first | exact Ent.refl _ | refine Ent.drop ?_))
        · have hje : j = (unpackS px[k]).length := by omega
          rw [hje, List.take_length]
          refine Wp.exit ?_
          refine Wp.region ?_
          refine s_mv rfl rfl ?_
          first | refine s_add rfl rfl rfl (w_i64 (by omega) (by omega)) ?_ | refine s_addw rfl rfl rfl ?_
          refine s_as rfl rfl ?_
          refine WpL.nil ?_
          refine loopD.next (k + 1) ?_ ?_ (by repeat (first | exact Top.refl | refine Top.push rfl ?_ | refine Top.drop rfl ?_)) (FrLe.cons rfl (FrLe.cons (congrArg (fun x => some (Value.int .i64 x)) (psum_snoc px hlt)) FrLe.nil)) ?_
          · omega
          · omega
          · first | exact Ent.refl _ | exact Ent.nil _ | exact Take.ent' (by repeat' constructor) | (repeat (first | exact Ent.refl _ | refine Ent.drop ?_))
    · refine Wp.exit ?_
      refine Wp.seq ?_
      refine Wp.region ?_
      refine s_mv rfl rfl ?_
      have hke : k = px.length := by omega
      rw [hke, List.take_length]
      refine s_callf rfl rfl (by repeat' constructor) (Digits_spec A0 a0 c0 px hA hr (by omega)) ?_
      rintro _ _ ⟨rfl, rfl⟩
      simp only [napp]
      refine s_mv rfl rfl ?_
      refine s_eq rfl rfl rfl ?_
      refine s_mv rfl rfl ?_
      refine WpL.knowT (dj := 41) rfl (by simp) ?_
      refine WpL.gon rfl rfl ?_
      refine s_callf rfl rfl (by repeat' constructor) (lives_spec) ?_
      rintro _ _ ⟨rfl, rfl⟩
      simp only [napp]
      refine s_pickT rfl rfl rfl ?_
      refine s_as rfl rfl ?_
      refine WpL.nil ?_
      refine Wp.ret ?_
      apply RetQ.mk
      · exact (Res.one rfl rfl)
      · exact ⟨rfl, rfl⟩
      · first | exact Ent.refl _ | exact Ent.nil _ | exact Take.ent' (by repeat' constructor) | (repeat (first | exact Ent.refl _ | refine Ent.drop ?_))

end Go.Proofs.Ytoiecgmnnjipfaa
