/- Walks and plain laws, a part of the proof of PnmJoins: every input that the law's guards let in, no condition beside. -/
import Derived.Test.YtggamdlpiejbiaaGreatM26
namespace Go.Proofs.YtggamdlpiejbiaaGreat
open Go.RowKit Go.Shelf


theorem SameAll_true2 (As : List HP) (La Lb : ImL) (a b : Option Addr) (c c2 : Nat) (hab : La.map (·.1) = Lb.map (·.1)) (hA : RdsL As a (mCs La)) (hB : RdsL As b (mCs Lb)) (hra : ∀ r ∈ La, RdsL As r.2.1 (Xp r.1.px)) (hrb : ∀ r ∈ Lb, RdsL As r.2.1 (Xp r.1.px)) (hl : ∀ r ∈ La, r.1.px.length ≤ 9223372036854775807) (hn : La.length ≤ 1000000000) : Fn Tryz.prog 29 #[.slice a La.length c, .slice b Lb.length c2] As (fun v l => v = .bool true ∧ l = As) := by
  have hlen : La.length = Lb.length := by simpa using congrArg List.length hab
  rw [← hlen]
  exact SameAll_true As La Lb a b c c2 hab hA hB hra hrb hl hn

set_option maxRecDepth 4000 in
set_option maxHeartbeats 4000000 in
theorem lJoins_spec (A0 : HP) (ga : Option Addr) (gc : Nat) (gs : List GS) (hgl : gs.length ≤ 9223372036854775807) (hG : RdsL [A0] ga (gs.flatMap gC)) (hgs : GsOk A0 gs) (ya : Option Addr) (yc : Nat) (ys : List Int) (hy : RdsL [A0] ya (QY ys)) (hyl : ys.length ≤ 9223372036854775807) (hyc : ys.length ≤ yc) (bl : Int) (hbl : -9223372036854775808 ≤ bl ∧ bl < 9223372036854775808) : Fn Tryz.prog 7 #[.slice ga gs.length gc, .slice ya ys.length yc, .int .i64 bl] [A0] (fun v l => v = .bool true ∧ l = [A0]) := by
 obtain ⟨k4, hy4, hk4l⟩ : ∃ z : List Int, RdsL [A0] ya (QY z) ∧ z.length = min ys.length 4 := ⟨ys.take (min ys.length 4), by have q := hy.take (min ys.length 4); rwa [show (QY ys).take (min ys.length 4) = QY (ys.take (min ys.length 4)) from List.map_take.symm] at q, by rw [List.length_take]; omega⟩
 refine Qk (vs := [.slice ga gs.length gc, .slice ya ys.length yc, .int .i64 bl]) Tryz.func7 rfl Tryz.ntmps7 rfl (Qb (Qa (Qe rfl rfl (WpL.nil (Qb (Qa (Qc rfl rfl (Qh rfl rfl (by repeat' constructor) (rGood11_spec A0 ga gc gs hgl hG hgs 6 (by omega)) ?_))))))))
 rintro _ _ ⟨ims, ag, cg, hgd, hl3, rfl, rfl⟩
 simp only [Qr]
 refine WpL.exs Take1.here fun L => ?_
 refine WpL.pur Take1.here fun hL => ?_
 subst hL
 rw [List.length_map] at *
 have hfm : ∀ r ∈ L, YF r.1.c r.1.m := fun r hr => by have q := hgd r.1 (List.mem_map_of_mem hr); exact ⟨q.1, q.2.1⟩
 refine WpL.manyLe (row := Img.px) (L := L) (Take.ent' (by repeat' constructor)) (fun hcp => ?_)
 refine Qe rfl rfl (WpL.nil (Qb (Qa (Qc rfl rfl (Qc rfl rfl (Qh rfl rfl (by repeat' constructor) (rKinds11_spec [QG 71 5 ag cg L.length (L.flatMap iC), A0] ag cg L QE.head hfm (by omega) ya yc ys hy.tail hyl) ?_))))))
 rintro _ _ ⟨ks, ak, ck, hko, rfl, rfl⟩
 simp only [Qr]
 have hksl := hko.len
 rw [List.length_map] at hksl
 have hjl := joinI_bd (by omega) hko hgd
 have hjb := joinI_byte (by omega) hko hgd
 have hjx := jnX_good hko
 have hja := join_all (by omega) hko hgd
 rw [List.length_map] at hjl
 generalize (YR (L.map (·.1)) ks) = own1 at *
 refine Qe rfl rfl (WpL.nil (Qb (Qa (Qc rfl rfl (Qh rfl rfl (by repeat' constructor) (lof_spec [QG 71 5 ag cg L.length (L.flatMap iC)] L ag cg (show RdsL [QG 71 5 ag cg L.length (L.flatMap iC)] ag (mCs L) from QE) (by omega)) ?_)))))
 rintro _ _ ⟨a1, c1, rfl, rfl⟩
 simp only [Qr]
 refine Qc rfl rfl (Qh rfl rfl (by repeat' constructor) (pJoin_spec (QG 79 5 a1 c1 L.length (mCs L)) (YO (L.map fun r => QG 92 1 r.2.1 r.2.2 r.1.px.length (Xp r.1.px))) (QG 3 1 ak ck ks.length (QY ks)) a1 c1 L QE (fun r hr => ZS (row := Img.px) hr) hcp 6 (by omega) (fun r hr => hgd r.1 (List.mem_map_of_mem hr)) (by omega) ak ck ks QE) ?_)
 rintro _ _ ⟨aA, cA, rfl, rfl⟩
 simp only [Qr]
 rw [hjx]
 dsimp only
 refine ZX (T := 5) (s := 1) (a := aA) (c := cA) (m := own1.length) (by repeat' constructor) (fun hcA => ?_)
 refine Qc rfl rfl (QH rfl rfl rfl (QH rfl rfl rfl (Qe rfl rfl (Qe rfl rfl (WpL.nil (QO (gr := [(0, _), (1, _), (2, _), (7, _), (8, _), (9, _), (10, _)]) (FrLe.cons rfl (FrLe.cons rfl (FrLe.cons rfl (FrLe.cons rfl (FrLe.cons rfl (FrLe.cons rfl (FrLe.cons rfl FrLe.nil))))))) ?_))))))
 refine Qb (Qa (Qc rfl rfl (Qc rfl rfl (Qh rfl rfl (by repeat' constructor) (rJoinX_spec (QG 71 5 ag cg L.length (L.flatMap iC)) (YO (L.map fun r => QG 92 1 r.2.1 r.2.2 r.1.px.length (Xp r.1.px))) (QG 3 1 ak ck ks.length (QY ks)) ag cg L QE (fun r hr => ZS (row := Img.px) hr) 6 (by omega) (fun r hr => hgd r.1 (List.mem_map_of_mem hr)) (by omega) ak ck ks QE) ?_))))
 rintro _ _ ⟨aB, cB, rfl, rfl⟩
 simp only [Qr]
 rw [hjx]
 dsimp only
 refine Qc rfl rfl (QH rfl rfl rfl (QH rfl rfl rfl (Qe rfl rfl (Qe rfl rfl (WpL.nil (QO (gr := [(1, _), (2, _), (7, _), (8, _), (9, _), (10, _), (11, _), (12, _)]) (FrLe.cons rfl (FrLe.cons rfl (FrLe.cons rfl (FrLe.cons rfl (FrLe.cons rfl (FrLe.cons rfl (FrLe.cons rfl (FrLe.cons rfl FrLe.nil)))))))) ?_))))))
 refine Qb ?_
 apply X8 (fB := []) [0, 2, 3, 4, 5, 6, 1, 7, 8, 9, 10, 11, 12] [47, 49, 50, 51, 52, 53, 48, 54, 46, 55, 56, 13, 14] 13 mixed (by kernel_rfl) [(6, false), (0, false)] (by kernel_rfl) (by kernel_rfl) (by kernel_rfl)
 apply Xe [⟨0, 47, _, [], false⟩, ⟨1, 49, _, [], true⟩, ⟨2, 50, _, [], true⟩, ⟨3, 51, _, [2], true⟩, ⟨4, 52, _, [3], true⟩, ⟨5, 53, _, [1, 4], true⟩] [] [0] [54, 46, 55, 56, 13, 14] [54, 46, 55, 56, 13, 14, 49, 50, 51, 52, 53] (.inl ⟨_, .nil⟩) rfl rfl rfl (by kernel_rfl) rfl (by kernel_rfl) rfl rfl
 ·refine Qp 0 [] rfl rfl rfl rfl (by kernel_rfl) rfl ?_ ?_
  ·exact Qc rfl rfl (Qm rfl)
  refine Qw 1 [] rfl rfl rfl rfl (by kernel_rfl) rfl ?_ ?_
  ·exact Qc rfl rfl (Qm rfl)
  refine Qw 2 [] rfl rfl rfl rfl (by kernel_rfl) rfl ?_ ?_
  ·exact Qc rfl rfl (Qm rfl)
  refine Qw 3 [2] rfl rfl rfl rfl (by kernel_rfl) rfl ?_ ?_
  ·exact QC rfl rfl (WpL.nil ⟨rfl, rfl, rfl, by exact Ent.refl _⟩)
  refine Qw 4 [3] rfl rfl rfl rfl (by kernel_rfl) rfl ?_ ?_
  ·exact s_min2 rfl rfl rfl (WpL.nil ⟨rfl, rfl, rfl, by exact Ent.refl _⟩)
  refine Qw 5 [1, 4] rfl rfl rfl rfl (by kernel_rfl) rfl ?_ ?_
  ·refine s_sll_h (H := k4.length) rfl rfl rfl (by omega) (by omega) ?_
   exact Qm rfl
  exact AllF.nil
 ·refine Qh rfl rfl (by repeat' constructor) (lof_spec [QG 71 5 ag cg L.length (L.flatMap iC)] L ag cg (show RdsL [QG 71 5 ag cg L.length (L.flatMap iC)] ag (mCs L) from QE) (by omega)) ?_
  rintro _ _ ⟨a2, c2, rfl, rfl⟩
  simp only [Qr]
  refine WpL.nil ⟨rfl, rfl, ?_⟩
  apply Xe [] [1, 2, 3, 4, 5] [1, 2, 3, 4, 5] [46, 55, 56, 13, 14] [46, 55, 56, 13, 14] (.inl ⟨_, .nil⟩) rfl rfl rfl (by kernel_rfl) rfl (by kernel_rfl) rfl rfl
  ·exact AllF.nil
  ·refine Qh rfl rfl (by repeat' constructor) (pJoin_spec (QG 79 5 a2 c2 L.length (mCs L)) (YO (L.map fun r => QG 92 1 r.2.1 r.2.2 r.1.px.length (Xp r.1.px))) (A0) a2 c2 L QE (fun r hr => ZS (row := Img.px) hr) hcp 6 (by omega) (fun r hr => hgd r.1 (List.mem_map_of_mem hr)) (by omega) ya yc k4 hy4) ?_
   rintro _ _ ⟨aC, cC, rfl, rfl⟩
   simp only [Qr]
   
   refine WpL.nil ⟨rfl, rfl, ?_⟩
   apply X7 [⟨8, 46, _, [7], false⟩, ⟨9, 55, _, [8], false⟩, ⟨10, 56, _, [8], false⟩, ⟨11, 13, _, [0, 1, 2, 3, 4, 5, 6, 7, 8, 9], false⟩, ⟨12, 14, _, [0, 1, 2, 3, 4, 5, 6, 7, 8, 9, 10, 11], false⟩] 13 (by kernel_rfl) (.inr rfl) rfl rfl
   ·refine Qp 8 [7] rfl rfl rfl rfl (by kernel_rfl) rfl ?_ ?_
    ·exact Qc rfl rfl (Qm rfl)
    refine Qp 9 [8] rfl rfl rfl rfl (by kernel_rfl) rfl ?_ ?_
    ·exact QH rfl rfl rfl (Qm rfl)
    refine Qp 10 [8] rfl rfl rfl rfl (by kernel_rfl) rfl ?_ ?_
    ·exact QH rfl rfl rfl (Qm rfl)
    refine Qp 11 [0, 1, 2, 3, 4, 5, 6, 7, 8, 9] rfl rfl rfl rfl (by kernel_rfl) rfl ?_ ?_
    ·exact Qe rfl rfl (Qm rfl)
    refine Qp 12 [0, 1, 2, 3, 4, 5, 6, 7, 8, 9, 10, 11] rfl rfl rfl rfl (by kernel_rfl) rfl ?_ ?_
    ·exact Qe rfl rfl (Qm rfl)
    exact AllF.nil
   ·refine QO (gr := [(1, _), (2, _), (7, _), (8, _), (9, _), (10, _), (11, _), (12, _), (13, _), (14, _)]) (FrLe.cons rfl (FrLe.cons rfl (FrLe.cons rfl (FrLe.cons rfl (FrLe.cons rfl (FrLe.cons rfl (FrLe.cons rfl (FrLe.cons rfl (FrLe.cons rfl (FrLe.cons rfl FrLe.nil)))))))))) ?_
    refine Qb (Qa (Qc rfl rfl (Qc rfl rfl (Qc rfl rfl (QC rfl rfl (s_min2 rfl rfl rfl (s_sll_h (H := k4.length) rfl rfl rfl (by omega) (by omega) ?_)))))))
    refine Qh rfl rfl (by repeat' constructor) (rJoinX_spec (QG 71 5 ag cg L.length (L.flatMap iC)) (YO (L.map fun r => QG 92 1 r.2.1 r.2.2 r.1.px.length (Xp r.1.px))) (A0) ag cg L QE (fun r hr => ZS (row := Img.px) hr) 6 (by omega) (fun r hr => hgd r.1 (List.mem_map_of_mem hr)) (by omega) ya yc k4 hy4) ?_
    rintro _ _ ⟨aD, cD, rfl, rfl⟩
    simp only [Qr]
    generalize (jnX (L.map (·.1)) k4) = q4 at *
    refine Qc rfl rfl (QH rfl rfl rfl (QH rfl rfl rfl (Qe rfl rfl (Qe rfl rfl (WpL.nil (QO (gr := [(2, _), (7, _), (8, _), (9, _), (10, _), (11, _), (12, _), (13, _), (14, _), (15, _), (16, _)]) (FrLe.cons rfl (FrLe.cons rfl (FrLe.cons rfl (FrLe.cons rfl (FrLe.cons rfl (FrLe.cons rfl (FrLe.cons rfl (FrLe.cons rfl (FrLe.cons rfl (FrLe.cons rfl (FrLe.cons rfl FrLe.nil))))))))))) ?_))))))
    refine Qb (Qb (Qa (Qc rfl rfl (Qc rfl rfl (Xn rfl rfl rfl (Qc rfl rfl (Qy (dj := 70) rfl (decide_eq_false (fun h => h rfl)) ?_)))))))
    refine Qf rfl rfl (Qc rfl rfl (Qf rfl rfl (Xn rfl rfl rfl (Qs rfl rfl rfl (Qc rfl rfl (Qy (dj := 74) rfl (decide_eq_false (fun h => h rfl)) ?_))))))
    refine Qf rfl rfl (Qc rfl rfl (Qf rfl rfl (s_b2so rfl Tryz.underlying22 Tryz.underlying5 Tryz.underlying9 rfl (by repeat' constructor) ?_)))
    refine Qf rfl rfl (Qc rfl rfl (Qf rfl rfl (s_b2so rfl Tryz.underlying22 Tryz.underlying5 Tryz.underlying9 rfl (by repeat' constructor) ?_)))
    refine Qf rfl rfl (s_sne rfl rfl rfl (Qs rfl rfl rfl (Qc rfl rfl (Qy (dj := 81) rfl (decide_eq_false (fun h => h rfl)) ?_))))
    refine Qf rfl rfl (Qc rfl rfl (Qf rfl rfl (Qc rfl rfl (Qf rfl rfl (Xn rfl rfl rfl (Qs rfl rfl rfl (Qc rfl rfl (Qy (dj := 86) rfl (decide_eq_false (fun h => h rfl)) ?_))))))))
    refine Qf rfl rfl (Qc rfl rfl (Qf rfl rfl (s_b2so rfl Tryz.underlying22 Tryz.underlying5 Tryz.underlying9 rfl (by repeat' constructor) ?_)))
    refine Qf rfl rfl (Qc rfl rfl (Qf rfl rfl (s_b2so rfl Tryz.underlying22 Tryz.underlying5 Tryz.underlying9 rfl (by repeat' constructor) ?_)))
    refine Qf rfl rfl (s_sne rfl rfl rfl (Qs rfl rfl rfl (WpL.nil (QO (gr := [(2, _), (7, _), (8, _), (9, _), (92, _)]) (FrLe.cons rfl (FrLe.cons rfl (FrLe.cons rfl (FrLe.cons rfl (FrLe.cons rfl FrLe.nil))))) ?_))))
    refine Qz rfl (fun h => h rfl) ?_
    refine Wp.skip (Qb (Qa (Qc rfl rfl (Qh rfl rfl (by repeat' constructor) (hdAll_spec) ?_))))
    rintro _ _ ⟨rfl, rfl⟩
    simp only [Qr]
    refine Qh rfl rfl (by repeat' constructor) (pnAll_spec (QG 5 1 aA cA own1.length (Xr own1)) aA cA own1 QE hjb hcA (by omega) 4096 65536 65535) ?_
    rintro _ _ ⟨aO, cO, rfl, rfl⟩
    simp only [Qr]
    rw [hja.1, hja.2]
    simp only [↓reduceIte]
    refine WpL.ent (Take.ent' (pre := [imR2 aO cO (L.map (·.1)), QG 71 5 ag cg L.length (L.flatMap iC), YO (L.map fun r => QG 92 1 r.2.1 r.2.2 r.1.px.length (Xp r.1.px)), QG 3 1 ak ck ks.length (QY ks), A0]) (by repeat' constructor)) ?_
    refine WpL.exs Take1.here fun lI => ?_
    refine WpL.pur Take1.here fun hlI => ?_
    have hli : lI.length = L.length := by have q := congrArg List.length hlI; rwa [List.length_map, List.length_map] at q
    refine WpL.ent (Take.ent' (pre := [QG 79 5 aO cO (L.map (·.1)).length (mCs lI), YO (lI.map fun r => QG 92 1 r.2.1 r.2.2 r.1.px.length (Xp r.1.px)), QG 71 5 ag cg L.length (L.flatMap iC), YO (L.map fun r => QG 92 1 r.2.1 r.2.2 r.1.px.length (Xp r.1.px)), QG 3 1 ak ck ks.length (QY ks), A0]) (by repeat' constructor)) ?_
    refine WpL.manyMax (row := Img.px) (L := lI) (Take.ent' (by repeat' constructor)) (fun hmx => ?_)
    rw [show (L.map (·.1)).length = lI.length by rw [List.length_map, hli]]
    refine Qc rfl rfl (QH rfl rfl rfl (QH rfl rfl rfl (QH rfl rfl rfl (Qe rfl rfl (Qe rfl rfl (Qe rfl rfl (WpL.nil (QO (gr := [(2, _), (7, _), (8, _), (17, _), (18, _), (19, _)]) (FrLe.cons rfl (FrLe.cons rfl (FrLe.cons rfl (FrLe.cons rfl (FrLe.cons rfl (FrLe.cons rfl FrLe.nil)))))) ?_))))))))
    refine Qb (Qb (Qa (Qc rfl rfl (Xn rfl rfl rfl (Qc rfl rfl (Qy (dj := 102) rfl (decide_eq_false (fun h => h rfl)) ?_))))))
    refine Qf rfl rfl (Qc rfl rfl (Qf rfl rfl (Xn rfl rfl rfl (Qs rfl rfl rfl (Qc rfl rfl (Qy (dj := 106) rfl (decide_eq_false (fun h => h rfl)) ?_))))))
    refine Qf rfl rfl (Qc rfl rfl (Qf rfl rfl (Qh rfl rfl (by repeat' constructor) (las_spec [QG 79 5 aO cO lI.length (mCs lI)] lI aO cO QE (by omega)) ?_)))
    rintro _ _ ⟨a9, c9, rfl, rfl⟩
    simp only [Qr]
    refine Qf rfl rfl (Qc rfl rfl (Qf rfl rfl (Qh rfl rfl (by repeat' constructor) (SameAll_true2 [QG 71 5 a9 c9 lI.length (mCs lI), YO (lI.map fun r => QG 92 1 r.2.1 r.2.2 r.1.px.length (Xp r.1.px)), QG 71 5 ag cg L.length (L.flatMap iC), YO (L.map fun r => QG 92 1 r.2.1 r.2.2 r.1.px.length (Xp r.1.px))] lI L a9 ag c9 cg hlI QE.head (RdsL.ent (As := [QG 71 5 ag cg L.length (L.flatMap iC)]) (show RdsL [QG 71 5 ag cg L.length (L.flatMap iC)] ag (mCs L) from QE) (Take.ent' (by repeat' constructor))) (fun r hr => (ZS (row := Img.px) hr).ent (Take.ent' (by repeat' constructor))) (fun r hr => (ZS (row := Img.px) hr).ent (Take.ent' (by repeat' constructor))) hmx (by omega)) ?_)))
    rintro _ _ ⟨rfl, rfl⟩
    simp only [Qr]
    refine Qf rfl rfl (Zq rfl rfl (Qs rfl rfl rfl (WpL.nil (QO (gr := [(2, _), (7, _), (8, _), (112, _)]) (FrLe.cons rfl (FrLe.cons rfl (FrLe.cons rfl (FrLe.cons rfl FrLe.nil)))) ?_))))
    refine QZ rfl (Wp.skip (Qb (Qa (Qe rfl rfl (WpL.nil (Qb (Qa ?_)))))))
    refine s_bs6 rfl rfl rfl rfl rfl rfl rfl rfl rfl rfl rfl rfl rfl rfl ?_
    intro gS
    refine Qc rfl rfl (Qh rfl rfl (by repeat' constructor) (Ys _ _ (by omega) (by omega) (by omega)) ?_)
    rintro _ _ ⟨rfl, rfl⟩
    simp only [Qr]
    have hab := YN (x := bl) (m := 6) (by omega)
    obtain ⟨ka, hka⟩ := Int.eq_ofNat_of_zero_le hab.1
    rw [hka]
    obtain ⟨sep, hsp, hsb, hs0⟩ : ∃ sep : Int, ([.int .u8 9, .int .u8 10, .int .u8 11, .int .u8 12, .int .u8 13, .int .u8 32] : List Value)[ka]? = some (.int .u8 sep) ∧ Q6 sep = true ∧ 0 ≤ sep ∧ sep ≤ 255 := by
     obtain rfl | rfl | rfl | rfl | rfl | rfl : ka = 0 ∨ ka = 1 ∨ ka = 2 ∨ ka = 3 ∨ ka = 4 ∨ ka = 5 := by omega
     ·exact ⟨9, rfl, rfl, by decide⟩
     ·exact ⟨10, rfl, rfl, by decide⟩
     ·exact ⟨11, rfl, rfl, by decide⟩
     ·exact ⟨12, rfl, rfl, by decide⟩
     ·exact ⟨13, rfl, rfl, by decide⟩
     ·exact ⟨32, rfl, rfl, by decide⟩
    refine Q4 ka rfl rfl rfl (RdsL.blk (o := 0) (cs := [.int .u8 9, .int .u8 10, .int .u8 11, .int .u8 12, .int .u8 13, .int .u8 32]) (xs := [.int .u8 9, .int .u8 10, .int .u8 11, .int .u8 12, .int .u8 13, .int .u8 32]) rfl) (by exact Take.ent' (by repeat' constructor)) rfl (by omega) (by simp only [List.length_cons, List.length_nil]; omega) ?_
    refine Q5 rfl rfl (RdsL.blk (o := 0) (cs := [.int .u8 9, .int .u8 10, .int .u8 11, .int .u8 12, .int .u8 13, .int .u8 32]) (xs := [.int .u8 9, .int .u8 10, .int .u8 11, .int .u8 12, .int .u8 13, .int .u8 32]) rfl) (by exact Take.ent' (by repeat' constructor)) (hsp) ?_
    refine Qe rfl rfl (WpL.nil (QO (gr := [(7, _), (8, _), (20, _), (21, _)]) (FrLe.cons rfl (FrLe.cons rfl (FrLe.cons rfl (FrLe.cons rfl FrLe.nil)))) ?_))
    refine Qb (Qb (Qa (Qe rfl rfl (WpL.nil (QO (gr := [(7, _), (8, _), (20, _), (21, _), (22, _)]) (FrLe.cons rfl (FrLe.cons rfl (FrLe.cons rfl (FrLe.cons rfl (FrLe.cons rfl FrLe.nil))))) ?_)))))
    refine Wp.block ?_
    have hwr := wide_all (by omega) hsb hko hgd
    have hwd := wdF_bd (by omega) hs0 [] hko hgd (fun b hb => by cases hb)
    rw [List.length_map] at hwd
    refine Wp.loopD (σ := KdX) (fun x => x.k ≤ L.length ∧ wdF sep (L.map (·.1)) ks [] = wdF sep ((L.map (·.1)).drop x.k) (ks.drop x.k) x.out ∧ x.out.length ≤ x.k * 3000002) [20, 22, 23, 24, 118, 119, 120, 121, 122, 123, 124, 125, 126, 127, 128, 129, 130, 131, 132, 133, 134, 135, 136, 137, 138, 139, 140, 141, 142] (fun x => [(22, .int .i64 (x.k : Int)), (20, .slice x.a x.out.length x.c)]) (fun x => [QG 5 1 x.a x.c x.out.length (Xr x.out), QG 71 5 ag cg L.length (L.flatMap iC), YO (L.map fun r => QG 92 1 r.2.1 r.2.2 r.1.px.length (Xp r.1.px)), QG 3 1 ak ck ks.length (QY ks), A0]) (fun x => L.length - x.k) ⟨0, [], none, 0⟩ ?_ (by repeat (first | exact FrLe.nil | refine FrLe.cons rfl ?_)) ?_ ?_
    ·exact ⟨Nat.zero_le _, rfl, Nat.zero_le _⟩
    ·exact Ent.own_nil (Take.ent' (by repeat' constructor))
    ·rintro ⟨k, out, a, c⟩ ⟨hk1, ho, hol⟩
     dsimp only at hk1 ho hol ⊢
     refine Qb (Qb (Qa (Qc rfl rfl (Qc rfl rfl (QC rfl rfl (Q7 rfl rfl rfl (WpL.nil (QO (gr := [(7, _), (8, _), (20, _), (21, _), (22, _), (121, _)]) (FrLe.cons rfl (FrLe.cons rfl (FrLe.cons rfl (FrLe.cons rfl (FrLe.cons rfl (FrLe.cons rfl FrLe.nil)))))) ?_))))))))
     refine Ql rfl (fun h3 => ?_) (fun h3 => ?_)
     ·have hlt : k < L.length := by omega
      have hlk : k < ks.length := by omega
      have hgk := hgd L[k].1 (List.mem_map_of_mem (List.getElem_mem hlt))
      have hkm := hko.get k (by rw [List.length_map]; exact hlt) hlk
      have hwl := wrI_len (by omega) hgk (by rw [List.getElem_map] at hkm; exact hkm)
      rw [List.getElem_map] at hkm
      have hjs := wdF_at sep (ms := L.map (·.1)) (ks := ks) (k := k) (by rw [List.length_map]; exact hlt) hlk out
      rw [List.getElem_map, ← ho] at hjs
      refine Wp.skip (Qb (Wp.block ?_))
      refine Qb ?_
      apply Xs (fB := []) mixed [(8, false)] (by kernel_rfl)
      apply Xk [⟨0, 125, _, [], false⟩, ⟨1, 126, _, [], false⟩, ⟨2, 127, _, [0, 1], false⟩, ⟨3, 128, _, [2], false⟩, ⟨4, 129, _, [], false⟩, ⟨5, 130, _, [], false⟩, ⟨6, 131, _, [4, 5], false⟩, ⟨7, 132, _, [6], false⟩] [] [0, 1, 2, 3, 4, 5, 6, 7] [124, 134, 135, 23, 24] (.inr rfl) rfl rfl rfl (by kernel_rfl) rfl rfl rfl
      ·refine AllF.cons rfl rfl rfl rfl ?_ ?_
       ·exact Qc rfl rfl (Qm rfl)
       refine AllF.cons rfl rfl rfl rfl ?_ ?_
       ·exact Qc rfl rfl (Qm rfl)
       refine AllF.cons rfl rfl rfl rfl ?_ ?_
       ·refine Zp (s := 5) k rfl rfl rfl (QE (T := 71) (s := 5) (a := ag) (c := cg) (m := L.length)) (by exact Take.ent' (by repeat' constructor)) rfl (by omega) (iC_ne (by omega)) ?_
        exact Qm rfl
       refine AllF.cons rfl rfl rfl rfl ?_ ?_
       ·refine ZU (vs := iC L[k]) rfl rfl (QE (T := 71) (s := 5) (a := ag) (c := cg) (m := L.length)) (by exact Take.ent' (by repeat' constructor)) (iC_ne (by omega)) rfl (Zf (s := 5) (f := iC) (fun _ => rfl) L k hlt) ?_
        exact Qm rfl
       refine AllF.cons rfl rfl rfl rfl ?_ ?_
       ·exact Qc rfl rfl (Qm rfl)
       refine AllF.cons rfl rfl rfl rfl ?_ ?_
       ·exact Qc rfl rfl (Qm rfl)
       refine AllF.cons rfl rfl rfl rfl ?_ ?_
       ·refine Q4 k rfl rfl rfl (QE (T := 3) (s := 1) (a := ak) (c := ck) (m := ks.length)) (by exact Take.ent' (by repeat' constructor)) rfl (by omega) (by rw [QT]; omega) ?_
        exact Qm rfl
       refine AllF.cons rfl rfl rfl rfl ?_ ?_
       ·refine Q5 rfl rfl (QE (T := 3) (s := 1) (a := ak) (c := ck) (m := ks.length)) (by exact Take.ent' (by repeat' constructor)) (Xi ks hlk) ?_
        exact Qm rfl
       exact AllF.nil
      ·refine Qh rfl rfl (by repeat' constructor) (rWrite10c_spec (YO (L.map fun r => QG 92 1 r.2.1 r.2.2 r.1.px.length (Xp r.1.px))) L[k].1 L[k].2.1 L[k].2.2 (ZS (row := Img.px) (List.getElem_mem hlt)) 6 (by omega) hgk ks[k] hkm) ?_
       rintro _ _ ⟨B, b8, e8, hB, -, rfl, rfl⟩
       simp only [Qr]
       refine WpL.nil ⟨rfl, rfl, ?_⟩
       apply GoR.nil [⟨9, 124, _, [8], false⟩, ⟨10, 134, _, [9], false⟩, ⟨11, 135, _, [9], false⟩, ⟨12, 23, _, [0, 1, 2, 3, 4, 5, 6, 7, 8, 9, 10], false⟩, ⟨13, 24, _, [0, 1, 2, 3, 4, 5, 6, 7, 8, 9, 10, 11, 12], false⟩] (.inr rfl) rfl rfl
       ·refine AllF.cons rfl rfl rfl rfl ?_ ?_
        ·exact Qc rfl rfl (Qm rfl)
        refine AllF.cons rfl rfl rfl rfl ?_ ?_
        ·exact QH rfl rfl rfl (Qm rfl)
        refine AllF.cons rfl rfl rfl rfl ?_ ?_
        ·exact QH rfl rfl rfl (Qm rfl)
        refine AllF.cons rfl rfl rfl rfl ?_ ?_
        ·exact Qe rfl rfl (Qm rfl)
        refine AllF.cons rfl rfl rfl rfl ?_ ?_
        ·exact Qe rfl rfl (Qm rfl)
        exact AllF.nil
       ·refine QO (gr := [(7, _), (8, _), (20, _), (21, _), (22, _), (23, _)]) (FrLe.cons rfl (FrLe.cons rfl (FrLe.cons rfl (FrLe.cons rfl (FrLe.cons rfl (FrLe.cons rfl FrLe.nil)))))) ?_
        refine Qb (Qa (Qc rfl rfl (Qc rfl rfl ?_)))
        refine s_bs2 rfl rfl rfl rfl rfl rfl ?_
        intro g2
        refine s_appR (m2 := 2) rfl rfl rfl (by repeat' constructor) (RdsL.blk (o := 0) (xs := Xr [sep, 32]) rfl) (by exact Take.ent' (by repeat' constructor)) rfl (by rfl) (by rfl) (YM _) (by omega) (by omega) ?_
        intro a139 c139
        rw [Zy]
        have hl139 : (out ++ [sep, 32]).length = out.length + 2 := by rw [List.length_append]; rfl
        rw [← hl139]
        refine Qe rfl rfl (WpL.nil (QO (gr := [(7, _), (8, _), (20, _), (21, _), (22, _), (23, _)]) (FrLe.cons rfl (FrLe.cons rfl (FrLe.cons rfl (FrLe.cons rfl (FrLe.cons rfl (FrLe.cons rfl FrLe.nil)))))) ?_))
        refine Qa (Qc rfl rfl (Qc rfl rfl (s_appR (m2 := (YY L[k].1 ks[k]).length) rfl rfl rfl (by repeat' constructor) hB (by exact Take.ent' (by repeat' constructor)) (by rw [Xa, Nat.mul_one]) (by rfl) (by rfl) (YM _) (by omega) (by omega) ?_)))
        intro a142 c142
        rw [Zy, ← List.length_append]
        have hl142 : (out ++ [sep, 32] ++ (YY L[k].1 ks[k])).length = (out ++ [sep, 32]).length + (YY L[k].1 ks[k]).length := List.length_append
        refine Qe rfl rfl (WpL.nil (Qa (Qc rfl rfl (QD rfl rfl rfl (Qu (by omega) (by omega)) ?_))))
        refine Qe rfl rfl (WpL.nil (Qv (⟨k + 1, out ++ [sep, 32] ++ (YY L[k].1 ks[k]), a142, c142⟩ : KdX) ?_ ?_ (by exact Top.le (by repeat (first | exact FrLe.nil | refine FrLe.cons rfl ?_))) (by repeat (first | exact FrLe.nil | refine FrLe.cons rfl ?_)) ?_))
        ·exact ⟨by simp only; omega, by simp only; rw [hjs], by simp only [List.length_append, List.length_cons, List.length_nil]; omega⟩
        ·simp only; omega
        ·exact Take.ent' (by repeat' constructor)
     ·have hkE : k = L.length := by omega
      rw [wdF_dr sep (by rw [List.length_map]; exact hkE.symm)] at ho
      rw [ho] at hwr hwd
      simp only [List.length_nil, Nat.zero_add] at hwd
      refine QM (Qb (Qa (Qc rfl rfl (Qc rfl rfl ?_))))
      refine Yb rfl rfl rfl rfl ?_
      intro g3
      refine XA rfl rfl rfl (by repeat' constructor) (by rfl) (by rfl) (by rfl) (by rfl) (by omega) (by omega) ?_
      intro a146 c146
      rw [YJ, show out.length + 1 = (out ++ [sep]).length from by simp]
      refine ZX (T := 5) (s := 1) (a := a146) (c := c146) (m := (out ++ [sep]).length) (by repeat' constructor) (fun hcW => ?_)
      have hl146 : (out ++ [sep]).length = out.length + 1 := by rw [List.length_append]; rfl
      have hwb2 : ∀ b ∈ out ++ [sep], 0 ≤ b ∧ b ≤ 255 := fun b hb => (List.mem_append.1 hb).elim (hwd.1 b) fun q => by rw [List.mem_singleton.1 q]; exact hs0
      refine Qe rfl rfl (WpL.nil (QO (gr := [(7, _), (20, _)]) (FrLe.cons rfl (FrLe.cons rfl FrLe.nil)) ?_))
      refine Qb (Qa (Qc rfl rfl (Qh rfl rfl (by repeat' constructor) (hdAll_spec) ?_)))
      rintro _ _ ⟨rfl, rfl⟩
      simp only [Qr]
      refine Qh rfl rfl (by repeat' constructor) (pnAll_spec (QG 5 1 a146 c146 (out ++ [sep]).length (Xr (out ++ [sep]))) a146 c146 (out ++ [sep]) QE hwb2 hcW (by omega) 4096 65536 65535) ?_
      rintro _ _ ⟨aO, cO, rfl, rfl⟩
      simp only [Qr]
      rw [hwr.1, hwr.2]
      simp only [↓reduceIte]
      refine WpL.ent (Take.ent' (pre := [imR2 aO cO (L.map (·.1)), QG 71 5 ag cg L.length (L.flatMap iC), YO (L.map fun r => QG 92 1 r.2.1 r.2.2 r.1.px.length (Xp r.1.px)), QG 3 1 ak ck ks.length (QY ks), A0]) (by repeat' constructor)) ?_
      refine WpL.exs Take1.here fun lI => ?_
      refine WpL.pur Take1.here fun hlI => ?_
      have hli : lI.length = L.length := by have q := congrArg List.length hlI; rwa [List.length_map, List.length_map] at q
      refine WpL.ent (Take.ent' (pre := [QG 79 5 aO cO (L.map (·.1)).length (mCs lI), YO (lI.map fun r => QG 92 1 r.2.1 r.2.2 r.1.px.length (Xp r.1.px)), QG 71 5 ag cg L.length (L.flatMap iC), YO (L.map fun r => QG 92 1 r.2.1 r.2.2 r.1.px.length (Xp r.1.px)), QG 3 1 ak ck ks.length (QY ks), A0]) (by repeat' constructor)) ?_
      refine WpL.manyMax (row := Img.px) (L := lI) (Take.ent' (by repeat' constructor)) (fun hmx => ?_)
      rw [show (L.map (·.1)).length = lI.length by rw [List.length_map, hli]]
      refine Qc rfl rfl (QH rfl rfl rfl (QH rfl rfl rfl (QH rfl rfl rfl (Qe rfl rfl (Qe rfl rfl (Qe rfl rfl (WpL.nil (QO (gr := [(7, _), (25, _), (26, _), (27, _)]) (FrLe.cons rfl (FrLe.cons rfl (FrLe.cons rfl (FrLe.cons rfl FrLe.nil)))) ?_))))))))
      refine Qb (Qa (Qc rfl rfl (QN rfl rfl rfl (Qc rfl rfl (Qx (dj := 156) rfl (decide_eq_true rfl) ?_)))))
      refine Qf rfl rfl (Qc rfl rfl (Qf rfl rfl (QN rfl rfl rfl (Qt rfl rfl rfl (Qc rfl rfl (Qx (dj := 160) rfl (decide_eq_true rfl) ?_))))))
      refine Qf rfl rfl (Qc rfl rfl (Qf rfl rfl (Qh rfl rfl (by repeat' constructor) (las_spec [QG 79 5 aO cO lI.length (mCs lI)] lI aO cO QE (by omega)) ?_)))
      rintro _ _ ⟨a9, c9, rfl, rfl⟩
      simp only [Qr]
      refine Qf rfl rfl (Qc rfl rfl (Qf rfl rfl (Qh rfl rfl (by repeat' constructor) (SameAll_true2 [QG 71 5 a9 c9 lI.length (mCs lI), YO (lI.map fun r => QG 92 1 r.2.1 r.2.2 r.1.px.length (Xp r.1.px)), QG 71 5 ag cg L.length (L.flatMap iC), YO (L.map fun r => QG 92 1 r.2.1 r.2.2 r.1.px.length (Xp r.1.px))] lI L a9 ag c9 cg hlI QE.head (RdsL.ent (As := [QG 71 5 ag cg L.length (L.flatMap iC)]) (show RdsL [QG 71 5 ag cg L.length (L.flatMap iC)] ag (mCs L) from QE) (Take.ent' (by repeat' constructor))) (fun r hr => (ZS (row := Img.px) hr).ent (Take.ent' (by repeat' constructor))) (fun r hr => (ZS (row := Img.px) hr).ent (Take.ent' (by repeat' constructor))) hmx (by omega)) ?_)))
      rintro _ _ ⟨rfl, rfl⟩
      simp only [Qr]
      refine Qt rfl rfl rfl (Qc rfl rfl (Qf rfl rfl (Qh rfl rfl (by repeat' constructor) (llives_spec) ?_)))
      rintro _ _ ⟨rfl, rfl⟩
      simp only [Qr]
      refine Qt rfl rfl rfl (Qe rfl rfl (WpL.nil (Qi ?_)))
      apply RetQ.mk
      ·exact (Res.one rfl rfl)
      ·exact ⟨rfl, rfl⟩
      ·exact Take.ent' (by repeat' constructor)

end Go.Proofs.YtggamdlpiejbiaaGreat
