/- Walks and plain laws, a part of the proof of PnmOpen: every input that the law's guards let in, no condition beside. -/
import Derived.Test.YtggamdlpiejbiaaGreatM31
namespace Go.Proofs.YtggamdlpiejbiaaGreat
open Go.RowKit Go.Shelf


/-- Images' bytes, joined. -/
def joinI : List Img → List Int → List Int
  | m :: ms, k :: ks => wrI m k ++ (if k < 4 then [10] else []) ++ joinI ms ks
  | _, _ => []
theorem joinI_snoc {m : Img} {k : Int} : ∀ {ms : List Img} {ks : List Int}, ms.length = ks.length → joinI (ms ++ [m]) (ks ++ [k]) = joinI ms ks ++ wrI m k ++ (if k < 4 then [10] else [])
  | [], [], _ => by simp [joinI]
  | a :: ms, b :: ks, h => by
    simp only [List.cons_append, joinI]
    rw [joinI_snoc (by simpa using h)]
    simp only [List.append_assoc]
  | [], _ :: _, h => by simp at h
  | _ :: _, [], h => by simp at h
theorem wrI_len {most : Int} {m : Img} {k : Int} (hmo : most ≤ 100) (hg : GoodI most m) (hk : k ∈ kindsF m.c m.m) : (wrI m k).length ≤ 3000000 := by
  obtain ⟨hMay, hfit, hfm⟩ := good_fits hmo hg hk
  obtain ⟨hz1, hz2⟩ := good_sz hmo hg
  have hM2 := hMay
  unfold MayH at hM2
  obtain ⟨_, hg2, hgw, hgh, hgl, _⟩ := id hg
  have hz6 := hdW_len (K := k) (W := m.w) (H := m.h) (M := m.m) (by omega) (by omega) (by omega) (by omega)
  have hWn : ((m.w.toNat : Nat) : Int) = m.w := by omega
  have hHn : ((m.h.toNat : Nat) : Int) = m.h := by omega
  have hpl : m.px.length = m.w.toNat * m.h.toNat := by
    have q : ((m.w.toNat * m.h.toNat : Nat) : Int) = m.w * m.h := by rw [Int.natCast_mul, hWn, hHn]
    omega
  have hwl := wrRaw_len (K := k) (w := wideM m.m) (wideM_or m.m) hpl (fun p hp => by have := can_fit (hfit p hp); omega) m.h.toNat (Nat.le_refl _)
  have hsb := strd_bd (K := k) (W := m.w.toNat) (wideM_or m.m) (by omega) (by omega)
  have hwl2 : (wrRaw k m.w.toNat (wideM m.m) m.px m.h.toNat).length ≤ 24576 * 100 := by rw [hwl]; exact Nat.mul_le_mul hsb.2 (by omega)
  have h8 := wrL_len (K := k) (W := m.w) m.px 0
  unfold wrI
  rw [List.length_append]
  split <;> omega

theorem rJoin_spec (A1 A0 A2 : HP) (la : Option Addr) (lc : Nat) (L : List (Img × Option Addr × Nat)) (hL : RdsL [A1] la (L.flatMap iC)) (hpx : ∀ r ∈ L, RdsL [A0] r.2.1 (pxs r.1.px)) (most : Int) (hmo : most ≤ 100) (hgd : ∀ r ∈ L, GoodI most r.1) (hl : L.length ≤ 1000) (ka : Option Addr) (kc : Nat) (ks : List Int) (hk : RdsL [A2] ka (ints ks)) (hko : KindsOk (L.map (·.1)) ks) : Fn Tryz.prog 26 #[.slice la L.length lc, .slice ka ks.length kc] [A1, A0, A2] (fun v l => ∃ a c, v = .tuple #[.slice a (joinI (L.map (·.1)) ks).length c, .int .i64 0] ∧ l = [own 5 1 a c (joinI (L.map (·.1)) ks).length (u8s (joinI (L.map (·.1)) ks)), A1, A0, A2]) := by
  have hll : L.length = ks.length := by rw [← hko.len, List.length_map]
  refine Fn.intro (vs := [.slice la L.length lc, .slice ka ks.length kc]) Tryz.func26 rfl Tryz.ntmps26 rfl ?_
  refine Wp.seq ?_
  refine Wp.region ?_
  refine s_as rfl rfl ?_
  refine s_as rfl rfl ?_
  refine WpL.nil ?_
  refine Wp.seq ?_
  refine Wp.region ?_
  refine s_as rfl rfl ?_
  refine WpL.nil ?_
  refine Wp.seq ?_
  refine Wp.seq ?_
  refine Wp.region ?_
  refine s_mv rfl rfl ?_
  refine s_lenl rfl rfl ?_
  refine s_mv rfl rfl ?_
  refine s_lenl rfl rfl ?_
  refine s_ne rfl rfl rfl ?_
  refine WpL.nil ?_
  refine Wp.condDF rfl (fun hn => hn (by omega)) ?_
  refine Wp.skip ?_
  refine Wp.seq ?_
  refine Wp.seq ?_
  refine Wp.region ?_
  refine s_as rfl rfl ?_
  refine WpL.nil ?_
  refine Wp.block ?_
  refine Wp.loopD (σ := KdX) (fun x => x.k ≤ L.length ∧ x.out = joinI ((L.take x.k).map (·.1)) (ks.take x.k) ∧ x.out.length ≤ x.k * 3000001) [4, 5, 6, 7, 8, 9, 15, 16, 17, 18, 19, 20, 21, 22, 23, 24, 25, 26, 27, 28, 29, 30, 31, 32, 33, 34, 35, 36, 37, 38, 39, 40, 41, 42, 43, 44, 45, 46] (fun x => [(7, .int .i64 (x.k : Int)), (6, .slice x.a x.out.length x.c)]) (fun x => [own 5 1 x.a x.c x.out.length (u8s x.out), A1, A0, A2]) (fun x => L.length - x.k) ⟨0, [], none, 0⟩ ?_ (by repeat (first | exact FrLe.nil | refine FrLe.cons rfl ?_)) ?_ ?_
  · exact ⟨Nat.zero_le _, rfl, Nat.zero_le _⟩
  · exact Ent.own_nil (Ent.refl _)
  · rintro ⟨k, out, a, c⟩ ⟨hk1, ho, hol⟩
    dsimp only at hk1 ho hol ⊢
    refine Wp.seq ?_
    refine Wp.seq ?_
    refine Wp.region ?_
    refine s_mv rfl rfl ?_
    refine s_mv rfl rfl ?_
    refine s_lenl rfl rfl ?_
    refine s_lt rfl rfl rfl ?_
    refine WpL.nil ?_
    refine Wp.condD rfl (fun h2 => ?_) (fun h2 => ?_)
    · have hlt : k < L.length := by omega
      have hlk : k < ks.length := by omega
      have hkm := hko.get k (by rw [List.length_map]; exact hlt) hlk
      rw [List.getElem_map] at hkm
      have hgk := hgd _ (List.getElem_mem hlt)
      have hwl := wrI_len hmo hgk hkm
      have hsn : joinI ((L.take (k + 1)).map (·.1)) (ks.take (k + 1)) = joinI ((L.take k).map (·.1)) (ks.take k) ++ (wrI L[k].1 ks[k]) ++ (if ks[k] < 4 then [10] else []) := by
        rw [take_snocG L hlt, take_snocG ks hlk, List.map_append]
        exact joinI_snoc (by rw [List.length_map, List.length_take, List.length_take]; omega)
      refine Wp.skip ?_
      refine Wp.seq ?_
      refine Wp.block ?_
      refine Wp.seq ?_
      apply Wp.drawGN (fB := []) mixed [(8, false)] (by kernel_rfl)
      apply GoR.segF [⟨0, 22, _, [], false⟩, ⟨1, 23, _, [], false⟩, ⟨2, 24, _, [0, 1], false⟩, ⟨3, 25, _, [2], false⟩, ⟨4, 26, _, [], false⟩, ⟨5, 27, _, [], false⟩, ⟨6, 28, _, [4, 5], false⟩, ⟨7, 29, _, [6], false⟩] [] [0, 1, 2, 3, 4, 5, 6, 7] [21, 31, 32, 8, 9] (.inr rfl) rfl rfl rfl (by kernel_rfl) rfl rfl rfl
      · refine AllF.cons rfl rfl rfl rfl ?_ ?_
        · refine s_mv rfl rfl ?_
          exact obN rfl
        refine AllF.cons rfl rfl rfl rfl ?_ ?_
        · refine s_mv rfl rfl ?_
          exact obN rfl
        refine AllF.cons rfl rfl rfl rfl ?_ ?_
        · refine s_ixR (s := 5) k rfl rfl rfl hL (by first | exact Take.ent' (by repeat' constructor) | (repeat (first | exact Ent.refl _ | refine Ent.drop ?_))) rfl (by omega) (iC_ne (by omega)) ?_
          exact obN rfl
        refine AllF.cons rfl rfl rfl rfl ?_ ?_
        · refine s_ldaX (vs := iC L[k]) rfl rfl hL (by first | exact Take.ent' (by repeat' constructor) | (repeat (first | exact Ent.refl _ | refine Ent.drop ?_))) (iC_ne (by omega)) rfl (flat_seg (s := 5) (f := iC) (fun _ => rfl) L k hlt) ?_
          exact obN rfl
        refine AllF.cons rfl rfl rfl rfl ?_ ?_
        · refine s_mv rfl rfl ?_
          exact obN rfl
        refine AllF.cons rfl rfl rfl rfl ?_ ?_
        · refine s_mv rfl rfl ?_
          exact obN rfl
        refine AllF.cons rfl rfl rfl rfl ?_ ?_
        · refine s_ixa k rfl rfl rfl hk (by first | exact Take.ent' (by repeat' constructor) | (repeat (first | exact Ent.refl _ | refine Ent.drop ?_))) rfl (by omega) (by rw [ints_len]; omega) ?_
          exact obN rfl
        refine AllF.cons rfl rfl rfl rfl ?_ ?_
        · refine s_ldx rfl rfl hk (by first | exact Take.ent' (by repeat' constructor) | (repeat (first | exact Ent.refl _ | refine Ent.drop ?_))) (ints_at ks hlk) ?_
          exact obN rfl
        exact AllF.nil
      · refine s_callf rfl rfl (by repeat' constructor) (rWrite10_spec A0 L[k].1 L[k].2.1 L[k].2.2 (hpx _ (List.getElem_mem hlt)) most hmo hgk ks[k] hkm) ?_
        rintro _ _ ⟨B, b8, e8, hB, rfl, rfl⟩
        simp only [napp]
        refine WpL.nil ⟨rfl, rfl, ?_⟩
        apply GoR.nil [⟨9, 21, _, [8], false⟩, ⟨10, 31, _, [9], false⟩, ⟨11, 32, _, [9], false⟩, ⟨12, 8, _, [0, 1, 2, 3, 4, 5, 6, 7, 8, 9, 10], false⟩, ⟨13, 9, _, [0, 1, 2, 3, 4, 5, 6, 7, 8, 9, 10, 11, 12], false⟩] (.inr rfl) rfl rfl
        · refine AllF.cons rfl rfl rfl rfl ?_ ?_
          · refine s_mv rfl rfl ?_
            exact obN rfl
          refine AllF.cons rfl rfl rfl rfl ?_ ?_
          · refine s_ext rfl rfl rfl ?_
            exact obN rfl
          refine AllF.cons rfl rfl rfl rfl ?_ ?_
          · refine s_ext rfl rfl rfl ?_
            exact obN rfl
          refine AllF.cons rfl rfl rfl rfl ?_ ?_
          · refine s_as rfl rfl ?_
            exact obN rfl
          refine AllF.cons rfl rfl rfl rfl ?_ ?_
          · refine s_as rfl rfl ?_
            exact obN rfl
          exact AllF.nil
        · refine Wp.seq ?_
          refine Wp.seq ?_
          refine Wp.region ?_
          refine s_mv rfl rfl ?_
          refine s_ne rfl rfl rfl ?_
          refine WpL.nil ?_
          refine Wp.condDF rfl (by decide) ?_
          refine Wp.skip ?_
          refine Wp.seq ?_
          refine Wp.region ?_
          refine s_mv rfl rfl ?_
          refine s_mv rfl rfl ?_
          refine s_appR (m2 := (wrI L[k].1 ks[k]).length) rfl rfl rfl (by repeat' constructor) hB (by first | exact Take.ent' (by repeat' constructor) | (repeat (first | exact Ent.refl _ | refine Ent.drop ?_))) (by rw [u8s_len, Nat.mul_one]) (by rfl) (by rfl) (u8s_one _) (by omega) (by omega) ?_
          intro a38 c38
          rw [u8s_app, ← List.length_append]
          have hl38 : (out ++ (wrI L[k].1 ks[k])).length = out.length + (wrI L[k].1 ks[k]).length := List.length_append
          refine s_as rfl rfl ?_
          refine WpL.nil ?_
          refine Wp.seq ?_
          refine Wp.region ?_
          refine s_mv rfl rfl ?_
          refine s_mv rfl rfl ?_
          refine s_ixa k rfl rfl rfl hk (by first | exact Take.ent' (by repeat' constructor) | (repeat (first | exact Ent.refl _ | refine Ent.drop ?_))) rfl (by omega) (by rw [ints_len]; omega) ?_
          refine s_ldx rfl rfl hk (by first | exact Take.ent' (by repeat' constructor) | (repeat (first | exact Ent.refl _ | refine Ent.drop ?_))) (ints_at ks hlk) ?_
          refine s_lt rfl rfl rfl ?_
          refine WpL.nil ?_
          refine Wp.condD rfl (fun h4 => ?_) (fun h4 => ?_)
          · refine Wp.region ?_
            refine s_mv rfl rfl ?_
            refine s_bs1 rfl rfl rfl rfl ?_
            intro g1
            refine s_app1 rfl rfl rfl (by repeat' constructor) (by rfl) (by rfl) (by rfl) (by rfl) (by omega) (by omega) ?_
            intro a46 c46
            rw [u8s_snoc, show (out ++ (wrI L[k].1 ks[k])).length + 1 = ((out ++ (wrI L[k].1 ks[k])) ++ [10]).length from by simp only [List.length_append, List.length_cons, List.length_nil, Nat.zero_add]]
            refine s_as rfl rfl ?_
            refine WpL.nil ?_
            refine Wp.region ?_
            refine s_mv rfl rfl ?_
            first | refine s_add rfl rfl rfl (w_i64 (by omega) (by omega)) ?_ | refine s_addw rfl rfl rfl ?_
            refine s_as rfl rfl ?_
            refine WpL.nil ?_
            refine loopD.next (⟨k + 1, out ++ (wrI L[k].1 ks[k]) ++ [10], a46, c46⟩ : KdX) ?_ ?_ (by first | ((repeat (first | exact Top.refl | refine Top.push rfl ?_ | refine Top.drop rfl ?_)); done) | exact Top.le (by repeat (first | exact FrLe.nil | refine FrLe.cons rfl ?_))) (by repeat (first | exact FrLe.nil | refine FrLe.cons rfl ?_)) ?_
            · exact ⟨by simp only; omega, by simp only; rw [hsn, if_pos (by omega), ho], by simp only [List.length_append, List.length_cons, List.length_nil]; omega⟩
            · simp only; omega
            · first | exact Ent.refl _ | exact Ent.nil _ | exact Take.ent' (by repeat' constructor) | (repeat (first | exact Ent.refl _ | refine Ent.drop ?_))
          · refine Wp.skip ?_
            refine Wp.region ?_
            refine s_mv rfl rfl ?_
            first | refine s_add rfl rfl rfl (w_i64 (by omega) (by omega)) ?_ | refine s_addw rfl rfl rfl ?_
            refine s_as rfl rfl ?_
            refine WpL.nil ?_
            refine loopD.next (⟨k + 1, out ++ (wrI L[k].1 ks[k]), a38, c38⟩ : KdX) ?_ ?_ (by first | ((repeat (first | exact Top.refl | refine Top.push rfl ?_ | refine Top.drop rfl ?_)); done) | exact Top.le (by repeat (first | exact FrLe.nil | refine FrLe.cons rfl ?_))) (by repeat (first | exact FrLe.nil | refine FrLe.cons rfl ?_)) ?_
            · exact ⟨by simp only; omega, by simp only; rw [hsn, if_neg (by omega), List.append_nil, ho], by simp only [List.length_append]; omega⟩
            · simp only; omega
            · first | exact Ent.refl _ | exact Ent.nil _ | exact Take.ent' (by repeat' constructor) | (repeat (first | exact Ent.refl _ | refine Ent.drop ?_))
    · have hkE : k = L.length := by omega
      rw [hkE, List.take_length, hll, List.take_length] at ho
      subst ho
      refine Wp.exit ?_
      refine Wp.seq ?_
      refine Wp.region ?_
      refine s_mv rfl rfl ?_
      refine s_as rfl rfl ?_
      refine s_as rfl rfl ?_
      refine WpL.nil ?_
      refine Wp.ret ?_
      apply RetQ.mk
      · exact (Res.two rfl rfl rfl)
      · exact ⟨a, c, rfl, rfl⟩
      · first | exact Ent.refl _ | exact Ent.nil _ | exact Take.ent' (by repeat' constructor) | (repeat (first | exact Ent.refl _ | refine Ent.drop ?_))

end Go.Proofs.YtggamdlpiejbiaaGreat
namespace Go.Proofs.YtggamdlpiejbiaaGreat
open Go.RowKit Go.Shelf


theorem joinI_bd {most : Int} (hmo : most ≤ 100) : ∀ {ms : List Img} {ks : List Int}, KindsOk ms ks → (∀ m ∈ ms, GoodI most m) → (joinI ms ks).length ≤ ms.length * 3000001
  | [], [], _, _ => by simp [joinI]
  | m :: ms, k :: ks, ⟨h1, h2⟩, hg => by
    have ih := joinI_bd hmo h2 fun x hx => hg x (List.mem_cons_of_mem _ hx)
    have hw := wrI_len hmo (hg m (List.mem_cons_self ..)) h1
    simp only [joinI, List.length_append, List.length_cons]
    split <;> simp only [List.length_cons, List.length_nil] <;> omega
theorem hdW_bd {K W H M : Int} : ∀ b ∈ hdW K W H M, 0 ≤ b ∧ b ≤ 255 := by
  intro b hb
  unfold hdW at hb
  have hd : ∀ n, b ∈ digs n → 0 ≤ b ∧ b ≤ 255 := fun n h => by have := digs_bd n b h; omega
  simp only [List.mem_append, List.mem_singleton] at hb
  rcases hb with ((((((h | h) | h) | h) | h) | h) | h) | h
  · omega
  · exact hd _ h
  · omega
  · exact hd _ h
  · omega
  · exact hd _ h
  · omega
  · split at h
    · simp at h
    · rcases List.mem_append.1 h with h | h
      · exact hd _ h
      · have := List.mem_singleton.1 h; omega

end Go.Proofs.YtggamdlpiejbiaaGreat
namespace Go.Proofs.YtggamdlpiejbiaaGreat
open Go.RowKit Go.Shelf


theorem wrI_byte {most : Int} {m : Img} {k : Int} (hmo : most ≤ 100) (hg : GoodI most m) (hk : k ∈ kindsF m.c m.m) : ∀ b ∈ wrI m k, 0 ≤ b ∧ b ≤ 255 := by
  intro b hb
  obtain ⟨_, _, hc, h4⟩ := kinds_mem hk
  unfold wrI at hb
  rcases List.mem_append.1 hb with h | h
  · exact hdW_bd b h
  · split at h
    · exact wrL_byte _ _ b h
    · exact wrRaw_bd hg.2.1 (fun q => h4 (.inr q)) (fun p hp => by rw [hc]; exact (hg.2.2.2.2.2 p hp).1) b h
theorem joinI_byte {most : Int} (hmo : most ≤ 100) : ∀ {ms : List Img} {ks : List Int}, KindsOk ms ks → (∀ m ∈ ms, GoodI most m) → ∀ b ∈ joinI ms ks, 0 ≤ b ∧ b ≤ 255
  | [], [], _, _ => by simp [joinI]
  | m :: ms, k :: ks, ⟨h1, h2⟩, hg => by
    intro b hb
    simp only [joinI] at hb
    rcases List.mem_append.1 hb with hb | hb
    · rcases List.mem_append.1 hb with hb | hb
      · exact wrI_byte hmo (hg m (List.mem_cons_self ..)) h1 b hb
      · split at hb
        · have := List.mem_singleton.1 hb; omega
        · simp at hb
    · exact joinI_byte hmo h2 (fun x hx => hg x (List.mem_cons_of_mem _ hx)) b hb
/-- A stream's four texts. -/
def strT (own tn : List Int) : Prop := own.length ≤ 10000000 ∧ (∀ b ∈ own, 0 ≤ b ∧ b ≤ 255) ∧ tn.length = own.length ∧ ∀ b ∈ tn, 0 ≤ b ∧ b ≤ 255
theorem byte_set {xs : List Int} {k : Nat} {c : Int} (h : ∀ b ∈ xs, 0 ≤ b ∧ b ≤ 255) (hc : 0 ≤ c ∧ c ≤ 255) : ∀ b ∈ xs.set k c, 0 ≤ b ∧ b ≤ 255 := by
  intro b hb
  rcases List.mem_or_eq_of_mem_set hb with h1 | h1
  · exact h b h1
  · rw [h1]; exact hc
theorem s_bs4 {P : Program} {n : Cx} {D : List Deferred} {ops : Array Oper} {rest : List Oper} {Q : Post} {fr : Fr} {l : List HP} {ty : Nat} {pos : String} {aft : Array Edge} {d t e by_ : Nat} {z v v2 v3 v4 : Value} {x x2 x3 x4 : Operand} (hd : Nat.blt d n = true) [ht : SlT P t e 1 by_ z] (hx : ev fr x = some v) (hx2 : ev fr x2 = some v2) (hx3 : ev fr x3 = some v3) (hx4 : ev fr x4 = some v4) (hz : z.cells.size = 1)
    (hv : v.cells = #[v]) (hv2 : v2.cells = #[v2]) (hv3 : v3.cells = #[v3]) (hv4 : v4.cells = #[v4])
    (k : ∀ g, WpL P n D ops rest Q ((d, .slice (some ⟨g, 0, none⟩) 4 4) :: fr) (blk g [v, v2, v3, v4] e :: l)) : WpL P n D ops (⟨some d, .buildSlice t 4 #[(0, x), (1, x2), (2, x3), (3, x4)], ty, pos, aft, none⟩ :: rest) Q fr l :=
  s_bs (os := [(0, x), (1, x2), (2, x3), (3, x4)]) [v, v2, v3, v4] hd hz rfl (by simp [hv, hv2, hv3, hv4]) (by simp) (fun a hh => by simp [hh.ev hx, hh.ev hx2, hh.ev hx3, hh.ev hx4]) k

theorem lstream_spec (A0 : HP) (a0 : Option Addr) (c0 : Nat) (bs : List Int) (hc0 : bs.length ≤ c0) (hbl : bs.length ≤ 9223372036854775807) (ga : Option Addr) (gc : Nat) (gs : List GS) (hgl : gs.length ≤ 9223372036854775807) (hG : RdsL [A0] ga (gs.flatMap gC)) (hgs : GsOk A0 gs) (ya : Option Addr) (yc : Nat) (ys : List Int) (hy : RdsL [A0] ya (ints ys)) (hyl : ys.length ≤ 9223372036854775807) (p cc q : Int) (hp : -9223372036854775808 ≤ p ∧ p < 9223372036854775808) (hcc : 0 ≤ cc ∧ cc ≤ 255) (hq : -9223372036854775808 ≤ q ∧ q < 9223372036854775808) : Fn Tryz.prog 14 #[.slice a0 bs.length c0, .slice ga gs.length gc, .slice ya ys.length yc, .int .i64 p, .int .u8 cc, .int .i64 q] [A0] (fun v l => ∃ own1 tn gT ao co at1 ct N, strT own1 tn ∧ N ≤ own1.length ∧ own1.length ≤ co ∧ own1.length ≤ ct ∧ v = .slice (some ⟨gT, 0, none⟩) 4 4 ∧ l = [blk gT [.slice a0 (min bs.length 120) c0, .slice ao own1.length co, .slice at1 own1.length ct, .slice ao N co] 22, own 5 1 ao co own1.length (u8s own1), own 5 1 at1 ct own1.length (u8s tn), A0]) := by
  refine Fn.intro (vs := [.slice a0 bs.length c0, .slice ga gs.length gc, .slice ya ys.length yc, .int .i64 p, .int .u8 cc, .int .i64 q]) Tryz.func14 rfl Tryz.ntmps14 rfl ?_
  refine Wp.seq ?_
  refine Wp.region ?_
  refine s_as rfl rfl ?_
  refine WpL.nil ?_
  refine Wp.seq ?_
  refine Wp.region ?_
  refine s_mv rfl rfl ?_
  refine s_callf rfl rfl (by repeat' constructor) (rGood11_spec A0 ga gc gs hgl hG hgs 5 (by omega)) ?_
  rintro _ _ ⟨ims, ag, cg, hgd, hl3, rfl, rfl⟩
  simp only [napp]
  refine WpL.exs Take1.here fun L => ?_
  refine WpL.pur Take1.here fun hL => ?_
  subst hL
  rw [List.length_map] at *
  have hfm : ∀ r ∈ L, FmtP r.1.c r.1.m := fun r hr => by have q := hgd r.1 (List.mem_map_of_mem hr); exact ⟨q.1, q.2.1⟩
  refine s_as rfl rfl ?_
  refine WpL.nil ?_
  refine Wp.seq ?_
  refine Wp.region ?_
  refine s_mv rfl rfl ?_
  refine s_mv rfl rfl ?_
  refine s_mv rfl rfl ?_
  refine s_callf rfl rfl (by repeat' constructor) (rKinds11_spec [own 71 5 ag cg L.length (L.flatMap iC), A0] ag cg L RdsL.own.head hfm (by omega) ya yc ys hy.tail hyl) ?_
  rintro _ _ ⟨ks, ak, ck, hko, rfl, rfl⟩
  simp only [napp]
  refine s_callf rfl rfl (by repeat' constructor) (rJoin_spec (own 71 5 ag cg L.length (L.flatMap iC)) (many (L.map fun r => own 92 1 r.2.1 r.2.2 r.1.px.length (pxs r.1.px))) (own 3 1 ak ck ks.length (ints ks)) ag cg L RdsL.own (fun r hr => rc_row (row := Img.px) hr) 5 (by omega) (fun r hr => hgd r.1 (List.mem_map_of_mem hr)) (by omega) ak ck ks RdsL.own hko) ?_
  rintro _ _ ⟨ao, co, rfl, rfl⟩
  simp only [napp]
  have hjl := joinI_bd (by omega) hko hgd
  have hjb := joinI_byte (by omega) hko hgd
  generalize (joinI (L.map (·.1)) ks) = own1 at *
  rw [List.length_map] at hjl
  have haq := aroundI_bd (x := q) (m := own1.length + 1) (by omega)
  refine WpL.ownLe (by repeat' constructor) (fun hco => ?_)
  refine s_mv rfl rfl ?_
  refine s_ext rfl rfl rfl ?_
  refine s_ext rfl rfl rfl ?_
  refine s_as rfl rfl ?_
  refine s_as rfl rfl ?_
  refine WpL.nil ?_
  refine Wp.seq ?_
  refine Wp.region ?_
  refine s_as rfl rfl ?_
  refine WpL.nil ?_
  refine Wp.seq ?_
  refine Wp.region ?_
  refine s_mv rfl rfl ?_
  refine s_mv rfl rfl ?_
  refine WpL.ent (Ent.own_nil (T := 5) (s := 1) (Ent.refl _)) ?_
  refine s_appR (xs := []) (m2 := own1.length) rfl rfl rfl (by repeat' constructor) (RdsL.own (T := 5) (s := 1) (a := ao) (c := co) (m := own1.length)) (by first | exact Take.ent' (by repeat' constructor) | (repeat (first | exact Ent.refl _ | refine Ent.drop ?_))) (by rw [u8s_len, Nat.mul_one]) (by rfl) (by rfl) (u8s_one _) (by omega) (by omega) ?_
  intro a29 c29
  rw [List.nil_append, Nat.zero_add]
  refine WpL.ownLe (by repeat' constructor) (fun hct => ?_)
  refine s_as rfl rfl ?_
  refine WpL.nil ?_
  refine Wp.seq ?_
  refine Wp.seq ?_
  refine Wp.region ?_
  refine s_mv rfl rfl ?_
  refine s_lenl rfl rfl ?_
  refine s_gt rfl rfl rfl ?_
  refine WpL.nil ?_
  refine Wp.condD rfl (fun h0 => ?_) (fun h0 => ?_)
  · have hap := aroundI_bd (x := p) (m := own1.length) (by omega)
    have hpl : (aroundI p own1.length).toNat < own1.length := by omega
    refine Wp.region ?_
    refine s_mv rfl rfl ?_
    refine s_mv rfl rfl ?_
    refine s_mv rfl rfl ?_
    refine s_lenl rfl rfl ?_
    refine s_callf rfl rfl (by repeat' constructor) (Around_spec _ _ (by omega) (by omega) (by omega)) ?_
    rintro _ _ ⟨rfl, rfl⟩
    simp only [napp]
    refine s_mv rfl rfl ?_
    refine s_ixa (aroundI p own1.length).toNat rfl rfl rfl (RdsL.own (T := 5) (s := 1) (a := a29) (c := c29) (m := own1.length)) (by first | exact Take.ent' (by repeat' constructor) | (repeat (first | exact Ent.refl _ | refine Ent.drop ?_))) (by omega) hpl (by rw [u8s_len]; exact hpl) ?_
    refine s_sto (a := a29) rfl rfl rfl (by repeat' constructor) (by rw [u8s_len]; exact hpl) ?_
    rw [u8s_set]
    refine WpL.nil ?_
    refine Wp.seq ?_
    apply Wp.drawGN (fB := []) mixed [(14, false)] (by kernel_rfl)
    apply GoR.segF [⟨0, 40, _, [], false⟩, ⟨1, 41, _, [], false⟩, ⟨2, 42, _, [1], false⟩, ⟨3, 43, _, [2], false⟩, ⟨4, 44, _, [0, 3], false⟩, ⟨5, 45, _, [], false⟩, ⟨6, 46, _, [], false⟩, ⟨7, 47, _, [], false⟩, ⟨8, 48, _, [], false⟩, ⟨9, 49, _, [], false⟩, ⟨10, 50, _, [9], false⟩, ⟨11, 51, _, [10], false⟩, ⟨12, 52, _, [8, 11], false⟩, ⟨13, 53, _, [7, 12], false⟩] [] [0, 1, 2, 3, 4, 5, 6, 7, 8, 9, 10, 11, 12, 13] [12] (.inr rfl) rfl rfl rfl (by kernel_rfl) rfl rfl rfl
    · refine AllF.cons rfl rfl rfl rfl ?_ ?_
      · refine s_mv rfl rfl ?_
        exact obN rfl
      refine AllF.cons rfl rfl rfl rfl ?_ ?_
      · refine s_mv rfl rfl ?_
        exact obN rfl
      refine AllF.cons rfl rfl rfl rfl ?_ ?_
      · refine s_lenl rfl rfl ?_
        exact WpL.nil ⟨rfl, rfl, rfl, by first | exact Ent.refl _ | exact Ent.nil _ | exact Take.ent' (by repeat' constructor) | (repeat (first | exact Ent.refl _ | refine Ent.drop ?_))⟩
      refine AllF.cons rfl rfl rfl rfl ?_ ?_
      · refine s_min2 rfl rfl rfl ?_
        exact WpL.nil ⟨rfl, rfl, rfl, by first | exact Ent.refl _ | exact Ent.nil _ | exact Take.ent' (by repeat' constructor) | (repeat (first | exact Ent.refl _ | refine Ent.drop ?_))⟩
      refine AllF.cons rfl rfl rfl rfl ?_ ?_
      · refine s_sll_h (H := min bs.length 120) rfl rfl rfl (by omega) (by omega) ?_
        exact obN rfl
      refine AllF.cons rfl rfl rfl rfl ?_ ?_
      · refine s_mv rfl rfl ?_
        exact obN rfl
      refine AllF.cons rfl rfl rfl rfl ?_ ?_
      · refine s_mv rfl rfl ?_
        exact obN rfl
      refine AllF.cons rfl rfl rfl rfl ?_ ?_
      · refine s_mv rfl rfl ?_
        exact obN rfl
      refine AllF.cons rfl rfl rfl rfl ?_ ?_
      · refine s_mv rfl rfl ?_
        exact obN rfl
      refine AllF.cons rfl rfl rfl rfl ?_ ?_
      · refine s_mv rfl rfl ?_
        exact obN rfl
      refine AllF.cons rfl rfl rfl rfl ?_ ?_
      · refine s_lenl rfl rfl ?_
        exact WpL.nil ⟨rfl, rfl, rfl, by first | exact Ent.refl _ | exact Ent.nil _ | exact Take.ent' (by repeat' constructor) | (repeat (first | exact Ent.refl _ | refine Ent.drop ?_))⟩
      refine AllF.cons rfl rfl rfl rfl ?_ ?_
      · first | refine s_add rfl rfl rfl (w_i64 (by omega) (by omega)) ?_ | refine s_addw rfl rfl rfl ?_
        exact obN rfl
      refine AllF.cons rfl rfl rfl rfl ?_ ?_
      · refine s_callf rfl rfl (by repeat' constructor) (Around_spec _ _ (by omega) (by omega) (by omega)) ?_
        rintro _ _ ⟨rfl, rfl⟩
        simp only [napp]
        exact WpL.nil ⟨rfl, rfl, rfl, by first | exact Ent.refl _ | exact Ent.nil _ | exact Take.ent' (by repeat' constructor) | (repeat (first | exact Ent.refl _ | refine Ent.drop ?_))⟩
      refine AllF.cons rfl rfl rfl rfl ?_ ?_
      · refine s_sll_h (H := (aroundI q (own1.length + 1)).toNat) rfl rfl rfl (by omega) (by omega) ?_
        exact obN rfl
      exact AllF.nil
    · refine s_bs4 rfl rfl rfl rfl rfl rfl rfl rfl rfl rfl ?_
      intro gT
      refine WpL.nil ⟨rfl, rfl, ?_⟩
      apply GoR.nil [⟨15, 12, _, [0, 1, 2, 3, 4, 5, 6, 7, 8, 9, 10, 11, 12, 13, 14], false⟩] (.inr rfl) rfl rfl
      · refine AllF.cons rfl rfl rfl rfl ?_ ?_
        · refine s_as rfl rfl ?_
          exact obN rfl
        exact AllF.nil
      · refine Wp.ret ?_
        apply RetQ.mk
        · exact (Res.one rfl rfl)
        · exact ⟨own1, own1.set (aroundI p own1.length).toNat cc, gT, ao, co, a29, c29, (aroundI q (own1.length + 1)).toNat, ⟨by omega, hjb, List.length_set, byte_set hjb hcc⟩, by omega, hco, hct, rfl, rfl⟩
        · first | exact Ent.refl _ | exact Ent.nil _ | exact Take.ent' (by repeat' constructor) | (repeat (first | exact Ent.refl _ | refine Ent.drop ?_))
  · refine Wp.skip ?_
    refine Wp.seq ?_
    apply Wp.drawGN (fB := []) mixed [(14, false)] (by kernel_rfl)
    apply GoR.segF [⟨0, 40, _, [], false⟩, ⟨1, 41, _, [], false⟩, ⟨2, 42, _, [1], false⟩, ⟨3, 43, _, [2], false⟩, ⟨4, 44, _, [0, 3], false⟩, ⟨5, 45, _, [], false⟩, ⟨6, 46, _, [], false⟩, ⟨7, 47, _, [], false⟩, ⟨8, 48, _, [], false⟩, ⟨9, 49, _, [], false⟩, ⟨10, 50, _, [9], false⟩, ⟨11, 51, _, [10], false⟩, ⟨12, 52, _, [8, 11], false⟩, ⟨13, 53, _, [7, 12], false⟩] [] [0, 1, 2, 3, 4, 5, 6, 7, 8, 9, 10, 11, 12, 13] [12] (.inr rfl) rfl rfl rfl (by kernel_rfl) rfl rfl rfl
    · refine AllF.cons rfl rfl rfl rfl ?_ ?_
      · refine s_mv rfl rfl ?_
        exact obN rfl
      refine AllF.cons rfl rfl rfl rfl ?_ ?_
      · refine s_mv rfl rfl ?_
        exact obN rfl
      refine AllF.cons rfl rfl rfl rfl ?_ ?_
      · refine s_lenl rfl rfl ?_
        exact WpL.nil ⟨rfl, rfl, rfl, by first | exact Ent.refl _ | exact Ent.nil _ | exact Take.ent' (by repeat' constructor) | (repeat (first | exact Ent.refl _ | refine Ent.drop ?_))⟩
      refine AllF.cons rfl rfl rfl rfl ?_ ?_
      · refine s_min2 rfl rfl rfl ?_
        exact WpL.nil ⟨rfl, rfl, rfl, by first | exact Ent.refl _ | exact Ent.nil _ | exact Take.ent' (by repeat' constructor) | (repeat (first | exact Ent.refl _ | refine Ent.drop ?_))⟩
      refine AllF.cons rfl rfl rfl rfl ?_ ?_
      · refine s_sll_h (H := min bs.length 120) rfl rfl rfl (by omega) (by omega) ?_
        exact obN rfl
      refine AllF.cons rfl rfl rfl rfl ?_ ?_
      · refine s_mv rfl rfl ?_
        exact obN rfl
      refine AllF.cons rfl rfl rfl rfl ?_ ?_
      · refine s_mv rfl rfl ?_
        exact obN rfl
      refine AllF.cons rfl rfl rfl rfl ?_ ?_
      · refine s_mv rfl rfl ?_
        exact obN rfl
      refine AllF.cons rfl rfl rfl rfl ?_ ?_
      · refine s_mv rfl rfl ?_
        exact obN rfl
      refine AllF.cons rfl rfl rfl rfl ?_ ?_
      · refine s_mv rfl rfl ?_
        exact obN rfl
      refine AllF.cons rfl rfl rfl rfl ?_ ?_
      · refine s_lenl rfl rfl ?_
        exact WpL.nil ⟨rfl, rfl, rfl, by first | exact Ent.refl _ | exact Ent.nil _ | exact Take.ent' (by repeat' constructor) | (repeat (first | exact Ent.refl _ | refine Ent.drop ?_))⟩
      refine AllF.cons rfl rfl rfl rfl ?_ ?_
      · first | refine s_add rfl rfl rfl (w_i64 (by omega) (by omega)) ?_ | refine s_addw rfl rfl rfl ?_
        exact obN rfl
      refine AllF.cons rfl rfl rfl rfl ?_ ?_
      · refine s_callf rfl rfl (by repeat' constructor) (Around_spec _ _ (by omega) (by omega) (by omega)) ?_
        rintro _ _ ⟨rfl, rfl⟩
        simp only [napp]
        exact WpL.nil ⟨rfl, rfl, rfl, by first | exact Ent.refl _ | exact Ent.nil _ | exact Take.ent' (by repeat' constructor) | (repeat (first | exact Ent.refl _ | refine Ent.drop ?_))⟩
      refine AllF.cons rfl rfl rfl rfl ?_ ?_
      · refine s_sll_h (H := (aroundI q (own1.length + 1)).toNat) rfl rfl rfl (by omega) (by omega) ?_
        exact obN rfl
      exact AllF.nil
    · refine s_bs4 rfl rfl rfl rfl rfl rfl rfl rfl rfl rfl ?_
      intro gT
      refine WpL.nil ⟨rfl, rfl, ?_⟩
      apply GoR.nil [⟨15, 12, _, [0, 1, 2, 3, 4, 5, 6, 7, 8, 9, 10, 11, 12, 13, 14], false⟩] (.inr rfl) rfl rfl
      · refine AllF.cons rfl rfl rfl rfl ?_ ?_
        · refine s_as rfl rfl ?_
          exact obN rfl
        exact AllF.nil
      · refine Wp.ret ?_
        apply RetQ.mk
        · exact (Res.one rfl rfl)
        · exact ⟨own1, own1, gT, ao, co, a29, c29, (aroundI q (own1.length + 1)).toNat, ⟨by omega, hjb, rfl, hjb⟩, by omega, hco, hct, rfl, rfl⟩
        · first | exact Ent.refl _ | exact Ent.nil _ | exact Take.ent' (by repeat' constructor) | (repeat (first | exact Ent.refl _ | refine Ent.drop ?_))

end Go.Proofs.YtggamdlpiejbiaaGreat
namespace Go.Proofs.YtggamdlpiejbiaaGreat
open Go.RowKit Go.Shelf


/-- The document's example. -/
def livS (bs : List Int) : PS × Int := bs.foldl (fun q c => ((psPut (lim0 4096) (lim1 65536) (lim2 65535) q.1 c).1, q.2 + ((psPut (lim0 4096) (lim1 65536) (lim2 65535) q.1 c).2.length : Int))) (ps0, 0)
theorem livS_snoc (bs : List Int) (c : Int) : livS (bs ++ [c]) = ((psPut (lim0 4096) (lim1 65536) (lim2 65535) (livS bs).1 c).1, (livS bs).2 + ((psPut (lim0 4096) (lim1 65536) (lim2 65535) (livS bs).1 c).2.length : Int)) := by unfold livS; rw [List.foldl_append]; rfl
theorem livS_I : ∀ (bs : List Int) (_ : ∀ b ∈ bs, 0 ≤ b ∧ b ≤ 255) (n : Nat), n ≤ bs.length → psI (lim0 4096) (lim1 65536) (lim2 65535) n (livS (bs.take n)).1
  | bs, _, 0, _ => psI0 _ _ _
  | bs, hb, n + 1, hn => by
    have ih := livS_I bs hb n (by omega)
    have hc := hb _ (List.getElem_mem (show n < bs.length by omega))
    rw [take_snocG bs (by omega), livS_snoc]
    exact psPut_I (lim_o 4096 65536 65535) ih hc.1 hc.2
theorem liv_end : (livS (bsOf (⟨#[80, 52, 32, 49, 32, 49, 32]⟩ : ByteArray))).2 = 1 ∧ (psPut (lim0 4096) (lim1 65536) (lim2 65535) (livS (bsOf (⟨#[80, 52, 32, 49, 32, 49, 32]⟩ : ByteArray))).1 128).2.length = 2 ∧ (psPut (lim0 4096) (lim1 65536) (lim2 65535) (livS (bsOf (⟨#[80, 52, 32, 49, 32, 49, 32]⟩ : ByteArray))).1 128).1.imgs = 1 := by decide +kernel

end Go.Proofs.YtggamdlpiejbiaaGreat
namespace Go.Proofs.YtggamdlpiejbiaaGreat
open Go.RowKit Go.Shelf


theorem bsOf_bd (s : ByteArray) : ∀ b ∈ bsOf s, 0 ≤ b ∧ b ≤ 255 := by
  intro b hb
  unfold bsOf at hb
  obtain ⟨x, _, rfl⟩ := List.mem_map.1 hb
  have := UInt8.toNat_lt x
  omega
theorem liv_n : ∀ k : Fin 8, 0 ≤ (livS ((bsOf (⟨#[80, 52, 32, 49, 32, 49, 32]⟩ : ByteArray)).take k.val)).2 ∧ (livS ((bsOf (⟨#[80, 52, 32, 49, 32, 49, 32]⟩ : ByteArray)).take k.val)).2 ≤ 100 := by decide +kernel

theorem llives_spec  : Fn Tryz.prog 20 #[] [] (fun v l => v = .bool true ∧ l = []) := by
  have hsz : ((⟨#[80, 52, 32, 49, 32, 49, 32]⟩ : ByteArray)).size = 7 := rfl
  refine Fn.intro (vs := []) Tryz.func20 rfl Tryz.ntmps20 rfl ?_
  refine Wp.seq ?_
  refine Wp.region ?_
  refine s_as rfl rfl ?_
  refine WpL.nil ?_
  refine Wp.seq ?_
  refine Wp.region ?_
  refine s_callf rfl rfl (by repeat' constructor) (hdAll_spec) ?_
  rintro _ _ ⟨rfl, rfl⟩
  simp only [napp]
  refine s_callf rfl rfl (by repeat' constructor) (pnNew_spec 4096 65536 65535) ?_
  rintro _ _ ⟨gP, rfl, rfl⟩
  simp only [napp]
  refine s_as rfl rfl ?_
  refine WpL.nil ?_
  refine Wp.seq ?_
  refine Wp.seq ?_
  refine Wp.region ?_
  refine s_mv rfl rfl ?_
  refine s_peq rfl Tryz.underlying35 rfl rfl ?_
  refine WpL.nil ?_
  refine Wp.condBF rfl rfl ?_
  refine Wp.skip ?_
  refine Wp.seq ?_
  refine Wp.region ?_
  refine s_as rfl rfl ?_
  refine WpL.nil ?_
  refine Wp.seq ?_
  refine Wp.region ?_
  refine s_as rfl rfl ?_
  refine WpL.nil ?_
  refine Wp.seq ?_
  refine Wp.seq ?_
  refine Wp.region ?_
  refine s_as rfl rfl ?_
  refine WpL.nil ?_
  refine Wp.block ?_
  refine Wp.loopD (σ := Nat) (fun k => k ≤ 7) [3, 4, 10, 11, 12, 13, 14, 15, 16, 17, 18, 19, 20, 21, 22, 23] (fun k => [(4, .int .i64 (k : Int)), (3, .int .i64 (livS ((bsOf (⟨#[80, 52, 32, 49, 32, 49, 32]⟩ : ByteArray)).take k)).2)]) (fun k => [psR gP 4096 65536 65535 (livS ((bsOf (⟨#[80, 52, 32, 49, 32, 49, 32]⟩ : ByteArray)).take k)).1]) (fun k => 7 - k) 0 ?_ (by repeat (first | exact FrLe.nil | refine FrLe.cons rfl ?_)) ?_ ?_
  · exact Nat.zero_le _
  · exact Ent.refl _
  · rintro k hk
    have hI := livS_I (bsOf (⟨#[80, 52, 32, 49, 32, 49, 32]⟩ : ByteArray)) (bsOf_bd _) k (by rw [bsOf_len]; exact hk)
    have hn := liv_n ⟨k, by omega⟩
    dsimp only at hn
    refine Wp.seq ?_
    refine Wp.seq ?_
    refine Wp.region ?_
    refine s_mv rfl rfl ?_
    refine s_mv rfl rfl ?_
    refine s_lens rfl Tryz.underlying9 rfl ?_
    refine s_lt rfl rfl rfl ?_
    refine WpL.nil ?_
    refine Wp.condD rfl (fun h2 => ?_) (fun h2 => ?_)
    · have hlt : k < 7 := by omega
      have hkb : k < (bsOf (⟨#[80, 52, 32, 49, 32, 49, 32]⟩ : ByteArray)).length := hlt
      have hcb := bsOf_bd _ _ (List.getElem_mem hkb)
      have hsn := livS_snoc ((bsOf (⟨#[80, 52, 32, 49, 32, 49, 32]⟩ : ByteArray)).take k) (bsOf (⟨#[80, 52, 32, 49, 32, 49, 32]⟩ : ByteArray))[k]
      rw [← take_snocG _ hkb] at hsn
      have hs1 := congrArg (·.1) hsn
      have hs2 := congrArg (·.2) hsn
      dsimp only at hs1 hs2
      have hn2 := liv_n ⟨k + 1, by omega⟩
      dsimp only at hn2
      refine Wp.skip ?_
      refine Wp.seq ?_
      refine Wp.block ?_
      refine Wp.region ?_
      refine s_mv rfl rfl ?_
      refine s_mv rfl rfl ?_
      refine s_mv rfl rfl ?_
      refine s_mv rfl rfl ?_
      refine s_ixs rfl Tryz.underlying9 rfl rfl (by omega) hlt ?_
      have e20 : ((((⟨#[80, 52, 32, 49, 32, 49, 32]⟩ : ByteArray))[((k : Int)).toNat]'hlt).toNat : Int) = (bsOf (⟨#[80, 52, 32, 49, 32, 49, 32]⟩ : ByteArray))[k] := (bsOf_at hlt).symm
      rw [e20]
      refine s_callf rfl rfl (by repeat' constructor) (psPut_rep gP 4096 65536 65535 _ _ (by omega) hI _ (by omega) (by omega)) ?_
      rintro _ _ rfl
      simp only [napp]
      refine WpL.exs (Take1.there Take1.here) fun pv => ?_
      refine WpL.pur Take1.here fun hv => ?_
      obtain ⟨aE, cE, aR, cR⟩ := pv
      dsimp only at hv
      subst hv
      refine s_lenl rfl rfl ?_
      first | refine s_add rfl rfl rfl (w_i64 (by omega) (by omega)) ?_ | refine s_addw rfl rfl rfl ?_
      refine s_as rfl rfl ?_
      refine WpL.nil ?_
      refine Wp.region ?_
      refine s_mv rfl rfl ?_
      first | refine s_add rfl rfl rfl (w_i64 (by omega) (by omega)) ?_ | refine s_addw rfl rfl rfl ?_
      refine s_as rfl rfl ?_
      refine WpL.nil ?_
      refine loopD.next (k + 1) ?_ ?_ (by first | ((repeat (first | exact Top.refl | refine Top.push rfl ?_ | refine Top.drop rfl ?_)); done) | exact Top.le (by repeat (first | exact FrLe.nil | refine FrLe.cons rfl ?_))) (FrLe.cons rfl (FrLe.cons (by exact congrArg (fun z => some (Value.int .i64 z)) hs2.symm) FrLe.nil)) ?_
      · omega
      · omega
      · rw [hs1]
        first | exact Ent.refl _ | exact Take.ent' (by repeat' constructor)
    · obtain rfl : k = 7 := by omega
      rw [show (bsOf (⟨#[80, 52, 32, 49, 32, 49, 32]⟩ : ByteArray)).take 7 = bsOf (⟨#[80, 52, 32, 49, 32, 49, 32]⟩ : ByteArray) from rfl] at *
      refine Wp.exit ?_
      refine Wp.seq ?_
      refine Wp.region ?_
      refine s_mv rfl rfl ?_
      refine s_callf rfl rfl (by repeat' constructor) (psPut_rep gP 4096 65536 65535 _ _ (by omega) hI _ (by omega) (by omega)) ?_
      rintro _ _ rfl
      simp only [napp]
      refine WpL.exs (Take1.there Take1.here) fun pv => ?_
      refine WpL.pur Take1.here fun hv => ?_
      obtain ⟨aE, cE, aR, cR⟩ := pv
      dsimp only at hv
      subst hv
      refine s_as rfl rfl ?_
      refine WpL.nil ?_
      refine Wp.seq ?_
      refine Wp.region ?_
      refine s_mv rfl rfl ?_
      refine s_eq rfl rfl rfl ?_
      refine s_mv rfl rfl ?_
      refine WpL.knowT (dj := 28) rfl (decide_eq_true liv_end.1) ?_
      refine WpL.gon rfl rfl ?_
      refine s_mv rfl rfl ?_
      refine WpL.gon rfl rfl ?_
      refine s_lenl rfl rfl ?_
      refine WpL.gon rfl rfl ?_
      refine s_eq rfl rfl rfl ?_
      refine s_pickT rfl rfl rfl ?_
      refine s_mv rfl rfl ?_
      refine WpL.knowT (dj := 33) rfl (decide_eq_true (by have := liv_end.2.1; omega)) ?_
      refine WpL.gon rfl rfl ?_
      refine s_mv rfl rfl ?_
      refine WpL.gon rfl rfl ?_
      refine s_callf rfl rfl (by repeat' constructor) (psImages_rep gP 4096 65536 65535 _) ?_
      rintro _ _ ⟨rfl, rfl⟩
      simp only [napp]
      refine WpL.gon rfl rfl ?_
      refine s_eq rfl rfl rfl ?_
      refine s_pickT rfl rfl rfl ?_
      refine s_as rfl rfl ?_
      refine WpL.nil ?_
      refine Wp.ret ?_
      apply RetQ.mk
      · exact (Res.one rfl rfl)
      · exact ⟨congrArg Value.bool (decide_eq_true liv_end.2.2), rfl⟩
      · first | exact Ent.refl _ | exact Ent.nil _ | exact Take.ent' (by repeat' constructor) | (repeat (first | exact Ent.refl _ | refine Ent.drop ?_))

end Go.Proofs.YtggamdlpiejbiaaGreat
namespace Go.Proofs.YtggamdlpiejbiaaGreat
open Go.RowKit Go.Shelf


/-- A reader that is told bytes: how it stands, and how many events it told. -/
def runF (l0 l1 l2 : Int) (bs : List Int) : PS × Int := bs.foldl (fun q c => ((psPut l0 l1 l2 q.1 c).1, q.2 + ((psPut l0 l1 l2 q.1 c).2.length : Int))) (ps0, 0)
theorem runF_snoc (l0 l1 l2 : Int) (bs : List Int) (c : Int) : runF l0 l1 l2 (bs ++ [c]) = ((psPut l0 l1 l2 (runF l0 l1 l2 bs).1 c).1, (runF l0 l1 l2 bs).2 + ((psPut l0 l1 l2 (runF l0 l1 l2 bs).1 c).2.length : Int)) := by unfold runF; rw [List.foldl_append]; rfl
theorem runF_go (l0 l1 l2 : Int) : ∀ (bs : List Int) (s : PS) (n : Int), bs.foldl (fun q c => ((psPut l0 l1 l2 q.1 c).1, q.2 + ((psPut l0 l1 l2 q.1 c).2.length : Int))) (s, n) = ((psRun l0 l1 l2 s bs).1, n + ((psRun l0 l1 l2 s bs).2.length : Int))
  | [], s, n => by simp [psRun]
  | c :: bs, s, n => by
    rw [List.foldl_cons, runF_go l0 l1 l2 bs, psRun_cons]
    simp only [papp, List.length_append, List.length_map]
    congr 1
    omega
theorem runF_run (l0 l1 l2 : Int) (bs : List Int) : runF l0 l1 l2 bs = ((psRun l0 l1 l2 ps0 bs).1, ((psRun l0 l1 l2 ps0 bs).2.length : Int)) := by unfold runF; rw [runF_go]; simp
theorem runF_app (l0 l1 l2 : Int) (bs : List Int) : ∀ cs : List Int, (runF l0 l1 l2 bs).2 ≤ (runF l0 l1 l2 (bs ++ cs)).2
  | [] => by rw [List.append_nil]; omega
  | c :: cs => by
    have h1 := runF_app l0 l1 l2 (bs ++ [c]) cs
    rw [List.append_assoc, List.singleton_append] at h1
    have h2 := runF_snoc l0 l1 l2 bs c
    have h3 := congrArg (·.2) h2
    dsimp only at h3
    omega
theorem runF_take (l0 l1 l2 : Int) (bs : List Int) (k : Nat) : (runF l0 l1 l2 (bs.take k)).2 ≤ (runF l0 l1 l2 bs).2 := by
  have h := runF_app l0 l1 l2 (bs.take k) (bs.drop k)
  rwa [List.take_append_drop] at h
theorem runF_pos (l0 l1 l2 : Int) (bs : List Int) : 0 ≤ (runF l0 l1 l2 bs).2 := by rw [runF_run]; simp only; omega
theorem runF_I (a b d : Int) : ∀ (bs : List Int) (_ : ∀ x ∈ bs, 0 ≤ x ∧ x ≤ 255) (n : Nat), n ≤ bs.length → psI (lim0 a) (lim1 b) (lim2 d) n (runF (lim0 a) (lim1 b) (lim2 d) (bs.take n)).1
  | bs, _, 0, _ => psI0 _ _ _
  | bs, hb, n + 1, hn => by
    have ih := runF_I a b d bs hb n (by omega)
    have hc := hb _ (List.getElem_mem (show n < bs.length by omega))
    rw [take_snocG bs (by omega), runF_snoc]
    exact psPut_I (lim_o a b d) ih hc.1 hc.2
/-- One of a stream's four texts, as it lies in a part. -/
structure TxL where
  (a : Option Addr) (c : Nat) (bs : List Int)
def TxOk (B : HP) (t : TxL) : Prop := RdsL [B] t.a (u8s t.bs) ∧ (∀ x ∈ t.bs, 0 ≤ x ∧ x ≤ 255) ∧ t.bs.length ≤ t.c ∧ t.bs.length ≤ 100000000
def txV (t : TxL) : Value := .slice t.a t.bs.length t.c

end Go.Proofs.YtggamdlpiejbiaaGreat
namespace Go.Proofs.YtggamdlpiejbiaaGreat
open Go.RowKit Go.Shelf


theorem txs_take {B : HP} {a : Option Addr} {c : Nat} {bs : List Int} (h : RdsL [B] a (u8s bs)) (hb : ∀ x ∈ bs, 0 ≤ x ∧ x ≤ 255) (hc : bs.length ≤ c) (n : Nat) (hn : n ≤ 10000000) : TxOk B ⟨a, c, bs.take n⟩ := by
  refine ⟨?_, fun x hx => hb x (List.mem_of_mem_take hx), ?_, ?_⟩
  · have q := h.take n
    rwa [show (u8s bs).take n = u8s (bs.take n) by simp [u8s, List.map_take]] at q
  · simp only [List.length_take]; omega
  · simp only [List.length_take]; omega
theorem lstream2_spec (A0 : HP) (a0 : Option Addr) (c0 : Nat) (bs : List Int) (hA0 : RdsL [A0] a0 (u8s bs)) (hb0 : ∀ x ∈ bs, 0 ≤ x ∧ x ≤ 255) (hc0 : bs.length ≤ c0) (hbl : bs.length ≤ 9223372036854775807) (ga : Option Addr) (gc : Nat) (gs : List GS) (hgl : gs.length ≤ 9223372036854775807) (hG : RdsL [A0] ga (gs.flatMap gC)) (hgs : GsOk A0 gs) (ya : Option Addr) (yc : Nat) (ys : List Int) (hy : RdsL [A0] ya (ints ys)) (hyl : ys.length ≤ 9223372036854775807) (p cc q : Int) (hp : -9223372036854775808 ≤ p ∧ p < 9223372036854775808) (hcc : 0 ≤ cc ∧ cc ≤ 255) (hq : -9223372036854775808 ≤ q ∧ q < 9223372036854775808) :
    Fn Tryz.prog 14 #[.slice a0 bs.length c0, .slice ga gs.length gc, .slice ya ys.length yc, .int .i64 p, .int .u8 cc, .int .i64 q] [A0] (fun v l => ∃ (ts : List TxL) (gT : Nat) (B : HP), ts.length = 4 ∧ (∀ t ∈ ts, TxOk B t) ∧ Ent [B] [A0] ∧ v = .slice (some ⟨gT, 0, none⟩) 4 4 ∧ l = [blk gT (ts.map txV) 22, B]) := by
  refine Fn.mono (lstream_spec A0 a0 c0 bs hc0 hbl ga gc gs hgl hG hgs ya yc ys hy hyl p cc q hp hcc hq) ?_
  rintro v l ⟨own1, tn, gT, ao, co, at1, ct, N, ⟨h1, h2, h3, h4⟩, hN, hco, hct, rfl, rfl⟩
  have hm0 : Ent [many [own 5 1 ao co own1.length (u8s own1), own 5 1 at1 ct own1.length (u8s tn), A0]] [A0] := many_mem (by simp)
  have hm1 : RdsL [many [own 5 1 ao co own1.length (u8s own1), own 5 1 at1 ct own1.length (u8s tn), A0]] ao (u8s own1) := RdsL.own.ent (many_mem (A := own 5 1 ao co own1.length (u8s own1)) (by simp))
  have hm2 : RdsL [many [own 5 1 ao co own1.length (u8s own1), own 5 1 at1 ct own1.length (u8s tn), A0]] at1 (u8s tn) := RdsL.own.ent (many_mem (A := own 5 1 at1 ct own1.length (u8s tn)) (by simp))
  refine ⟨_, ⟨[⟨a0, c0, bs.take 120⟩, ⟨ao, co, own1⟩, ⟨at1, ct, tn⟩, ⟨ao, co, own1.take N⟩], gT, many [own 5 1 ao co own1.length (u8s own1), own 5 1 at1 ct own1.length (u8s tn), A0], rfl, ?_, hm0, rfl, rfl⟩, ?_⟩
  · intro t ht
    simp only [List.mem_cons, List.not_mem_nil, or_false] at ht
    rcases ht with rfl | rfl | rfl | rfl
    · exact txs_take (hA0.ent hm0) hb0 hc0 120 (by omega)
    · exact ⟨hm1, h2, hco, by simp only; omega⟩
    · exact ⟨hm2, h4, by simp only; omega, by simp only; omega⟩
    · exact txs_take hm1 h2 hco N (by omega)
  · simp only [List.map_cons, List.map_nil, txV]
    rw [show (bs.take 120).length = min bs.length 120 by rw [List.length_take, Nat.min_comm], h3, show (own1.take N).length = N by rw [List.length_take]; omega]
    exact Ent.cons (Ent.many (by rw [List.append_nil]; exact Ent.refl _))

end Go.Proofs.YtggamdlpiejbiaaGreat
