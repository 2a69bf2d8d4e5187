/- Walks and plain laws, a part of the proof of PnmAll: every input that the law's guards let in, no condition beside. -/
import Derived.Test.YtggamdlpiejbiaaGreatM27
namespace Go.Proofs.YtggamdlpiejbiaaGreat
open Go.RowKit Go.Shelf


theorem txs_take {B : HP} {a : Option Addr} {c : Nat} {bs : List Int} (h : RdsL [B] a (XM bs)) (hb : ∀ x ∈ bs, 0 ≤ x ∧ x ≤ 255) (hc : bs.length ≤ c) (n : Nat) (hn : n ≤ 10000000) : TxOk B ⟨a, c, bs.take n⟩ := by
  refine ⟨?_, fun x hx => hb x (List.mem_of_mem_take hx), ?_, ?_⟩
  · have q := h.take n
    rwa [show (XM bs).take n = XM (bs.take n) by simp [XM, List.map_take]] at q
  · simp only [List.length_take]; omega
  · simp only [List.length_take]; omega
theorem lstream2_spec (A0 : HP) (a0 : Option Addr) (c0 : Nat) (bs : List Int) (hA0 : RdsL [A0] a0 (XM bs)) (hb0 : ∀ x ∈ bs, 0 ≤ x ∧ x ≤ 255) (hc0 : bs.length ≤ c0) (hbl : bs.length ≤ 9223372036854775807) (ga : Option Addr) (gc : Nat) (gs : List GS) (hgl : gs.length ≤ 9223372036854775807) (hG : RdsL [A0] ga (gs.flatMap gC)) (hgs : GsOk A0 gs) (ya : Option Addr) (yc : Nat) (ys : List Int) (hy : RdsL [A0] ya (Q3 ys)) (hyl : ys.length ≤ 9223372036854775807) (p cc q : Int) (hp : -9223372036854775808 ≤ p ∧ p < 9223372036854775808) (hcc : 0 ≤ cc ∧ cc ≤ 255) (hq : -9223372036854775808 ≤ q ∧ q < 9223372036854775808) :
    Fn Tryz.prog 14 #[.slice a0 bs.length c0, .slice ga gs.length gc, .slice ya ys.length yc, .int .i64 p, .int .u8 cc, .int .i64 q] [A0] (fun v l => ∃ (ts : List TxL) (gT : Nat) (B : HP), ts.length = 4 ∧ (∀ t ∈ ts, TxOk B t) ∧ Ent [B] [A0] ∧ v = .slice (some ⟨gT, 0, none⟩) 4 4 ∧ l = [Qz gT (ts.map txV) 22, B]) := by
  refine Fn.mono (lstream_spec A0 a0 c0 bs hc0 hbl ga gc gs hgl hG hgs ya yc ys hy hyl p cc q hp hcc hq) ?_
  rintro v l ⟨own1, tn, gT, ao, co, at1, ct, N, ⟨h1, h2, h3, h4⟩, hN, hco, hct, rfl, rfl⟩
  have hm0 : Ent [YN [own 5 1 ao co own1.length (XM own1), own 5 1 at1 ct own1.length (XM tn), A0]] [A0] := many_mem (by simp)
  have hm1 : RdsL [YN [own 5 1 ao co own1.length (XM own1), own 5 1 at1 ct own1.length (XM tn), A0]] ao (XM own1) := Q6.ent (many_mem (A := own 5 1 ao co own1.length (XM own1)) (by simp))
  have hm2 : RdsL [YN [own 5 1 ao co own1.length (XM own1), own 5 1 at1 ct own1.length (XM tn), A0]] at1 (XM tn) := Q6.ent (many_mem (A := own 5 1 at1 ct own1.length (XM tn)) (by simp))
  refine ⟨_, ⟨[⟨a0, c0, bs.take 120⟩, ⟨ao, co, own1⟩, ⟨at1, ct, tn⟩, ⟨ao, co, own1.take N⟩], gT, YN [own 5 1 ao co own1.length (XM own1), own 5 1 at1 ct own1.length (XM tn), A0], rfl, ?_, hm0, rfl, rfl⟩, ?_⟩
  · intro t ht
    simp only [List.mem_cons, List.not_mem_nil, or_false] at ht
    rcases ht with rfl | rfl | rfl | rfl
    · exact txs_take (hA0.ent hm0) hb0 hc0 120 (by omega)
    · exact ⟨hm1, h2, hco, by simp only; omega⟩
    · exact ⟨hm2, h4, by simp only; omega, by simp only; omega⟩
    · exact txs_take hm1 h2 hco N (by omega)
  · simp only [List.map_cons, List.map_nil, txV]
    rw [show (bs.take 120).length = min bs.length 120 by rw [List.length_take, Nat.min_comm], h3, show (own1.take N).length = N by rw [List.length_take]; omega]
    exact Ent.cons (Ent.many (by rw [List.append_nil]; exact Ent.refl _))

end Go.Proofs.YtggamdlpiejbiaaGreat
namespace Go.Proofs.YtggamdlpiejbiaaGreat
open Go.RowKit Go.Shelf

theorem rds_txs {g T : Nat} {ts : List TxL} : RdsL [Qz g (ts.map txV) T] (some ⟨g, 0, none⟩) (ts.map txV) := RdsL.blk (by rw [List.drop_zero, List.take_length])
theorem txv_at (ts : List TxL) {i : Nat} (h : i < ts.length) : (ts.map txV)[i]? = some (.slice ts[i].a ts[i].bs.length ts[i].c) := by rw [List.getElem?_map, List.getElem?_eq_getElem h]; rfl

end Go.Proofs.YtggamdlpiejbiaaGreat
namespace Go.Proofs.YtggamdlpiejbiaaGreat
open Go.RowKit Go.Shelf

theorem img_cnt (es : List (Evt × Int)) : Zq (es.map (·.1)) = ((XW es).length : Int) := (imgsOf_len _).symm

end Go.Proofs.YtggamdlpiejbiaaGreat
namespace Go.Proofs.YtggamdlpiejbiaaGreat
open Go.RowKit Go.Shelf

def phF : Bool → List Evt → Option Bool
  | b, [] => some b
  | b, x :: t => if x.k = 1 then phF true t else if x.k = 2 then (if b = true then phF true t else none) else if x.k = 3 then (if b = true then phF false t else none) else none
theorem phF_cons (b : Bool) (x : Evt) (t : List Evt) : phF b (x :: t) = if x.k = 1 then phF true t else if x.k = 2 then (if b = true then phF true t else none) else if x.k = 3 then (if b = true then phF false t else none) else none := rfl
def Zp (s : PS) : Bool := match s.bd with | .no => false | _ => true
theorem psEvts_ph (s : PS) (bd : Bd) (st e : Int) (row : List Int) (h : bd ≠ .no) (h2 : st = 2 → True) : phF true (Xq s bd st e row).2 = some (Zp (Xq s bd st e row).1) := by
  have hb : ∀ s : PS, s.bd = bd → Zp s = true := fun s e => by
    unfold Zp
    rw [e]
    cases bd with
    | no => exact absurd rfl h
    | pl _ => rfl
    | rw _ => rfl
  unfold Xq XG Xu
  by_cases h1 : st = 1
  · subst h1
    by_cases h3 : row = [] <;> simp [h3, phF, Zp]
  · by_cases h2 : st = 2
    · subst h2
      by_cases h3 : row = [] <;> simp [h3, phF, hb]
    · by_cases h3 : row = [] <;> simp [h1, h2, h3, phF, hb]
theorem psHeads_ph (s : PS) (h : HS) : phF (Zp s) (Xk s h).2 = some (Zp (Xk s h).1) := by
  unfold Xk
  repeat' split
  · rfl
  · rfl
  · simp only [phF, if_true]
    unfold Zp bd0
    split <;> simp_all <;> (split at * <;> simp_all)
theorem psStep_ph (l0 l1 l2 : Int) (s : PS) (c : Int) : phF (Zp s) (XP l0 l1 l2 s c).2 = some (Zp (XP l0 l1 l2 s c).1) := by
  unfold XP
  split
  · split
    · rfl
    · exact psHeads_ph _ _
  · split
    · exact psHeads_ph _ _
    · unfold psBody
      split
      · rfl
      · rename_i r hr
        rw [show Zp s = true by unfold Zp; rw [hr]]
        exact psEvts_ph _ _ _ _ _ (by simp) (fun _ => trivial)
      · rename_i r hr
        rw [show Zp s = true by unfold Zp; rw [hr]]
        exact psEvts_ph _ _ _ _ _ (by simp) (fun _ => trivial)
theorem psPut_ph (l0 l1 l2 : Int) (s : PS) (c : Int) : phF (Zp s) (Xr l0 l1 l2 s c).2 = some (Zp (Xr l0 l1 l2 s c).1) := by
  unfold Xr
  split
  · rfl
  · exact psStep_ph l0 l1 l2 { s with told := s.told + 1 } c
theorem psEnd_ph (s : PS) : phF (Zp s) (X0 s).2 = some (Zp (X0 s).1) := by
  unfold X0
  split
  · rfl
  · split
    · rename_i r hr
      rw [show Zp s = true by unfold Zp; rw [hr]]
      exact psEvts_ph _ _ _ _ _ (by simp) (fun _ => trivial)
    · rfl
    · split <;> rfl
theorem stF_ph (l0 l1 l2 : Int) (bs : List Int) (k : Nat) : phF (Zp (rdF l0 l1 l2 bs k).1) (stF l0 l1 l2 bs k).2 = some (Zp (stF l0 l1 l2 bs k).1) := by
  unfold stF
  split
  · exact psPut_ph _ _ _ _ _
  · exact psEnd_ph _
theorem rowE_w {row : List Int} {st : Int} (h : row.length ≤ 4096) : ∀ x ∈ XG row ++ Xu st, x.row.length ≤ 4096 := by
  intro x hx
  unfold XG Xu at hx
  rcases List.mem_append.1 hx with hx | hx
  · split at hx
    · simp at hx
    · rw [List.mem_singleton.1 hx]; exact h
  · split at hx
    · rw [List.mem_singleton.1 hx]; simp
    · simp at hx
theorem psHeads_w (s : PS) (h : HS) : ∀ x ∈ (Xk s h).2, x.row.length ≤ 4096 := by
  unfold Xk
  repeat' split
  all_goals simp
theorem putW_w {K H M c : Int} {W : Nat} {s : RW} (hW : W ≤ 4096) (hs : s.b.length = QJ K W (Qk M)) : (XQ K W H M s c).2.length ≤ 4096 := by
  have hr : (YS K W (Qk M) (s.b.set s.n c)).length ≤ 4096 := by rw [Yn (Xd M) (by rw [List.length_set]; exact hs)]; exact hW
  unfold XQ
  repeat' split
  all_goals first | exact hr | simp
theorem psPut_w {l0 l1 l2 : Int} {N : Nat} {s : PS} {c : Int} (hI : psI l0 l1 l2 N s) : ∀ x ∈ (Xr l0 l1 l2 s c).2, x.row.length ≤ 4096 := by
  by_cases ha : YL s
  · rw [Zj _ _ _ ha.1 ha.2]
    have hJ := hI.2.2 ha.1 ha.2
    unfold XP
    split
    · split
      · simp
      · exact psHeads_w _ _
    · rename_i h0
      split
      · exact psHeads_w _ _
      · rename_i h1
        rcases hJ with ⟨q, _⟩ | ⟨q, _⟩ | ⟨_, h, hh, hf, hb⟩
        · exact absurd q h0
        · exact absurd q h1
        · have hM := hf.2.2
          unfold XZ at hM
          obtain ⟨hd, ph, bd, told, imgs, over, e⟩ := s
          dsimp only at hh hb
          subst hh
          unfold psBody Xq
          cases bd with
          | no => simp
          | pl r =>
            refine rowE_w ?_
            have q := hb.2.2.2.2.2
            exact putR_w q (by simp only [Option.getD_some]; omega)
          | rw r =>
            refine rowE_w ?_
            exact putW_w (by simp only [Option.getD_some]; omega) hb.2.2.2.1
  · rw [psPut_dead _ _ _ (dead_of ha)]; simp
theorem psEnd_w {l0 l1 l2 : Int} {N : Nat} {s : PS} (hI : psI l0 l1 l2 N s) : ∀ x ∈ (X0 s).2, x.row.length ≤ 4096 := by
  by_cases ha : YL s
  · have hJ := hI.2.2 ha.1 ha.2
    obtain ⟨hd, ph, bd, told, imgs, over, e⟩ := s
    obtain ⟨h1, h2⟩ := ha
    dsimp only at h1 h2
    subst h1 h2
    unfold X0
    rw [if_neg (by simp)]
    dsimp only at hJ ⊢
    cases bd with
    | no => dsimp only; split <;> simp
    | rw r => simp
    | pl r =>
      rcases hJ with ⟨_, q, _⟩ | ⟨_, q, _⟩ | ⟨_, h, hh, hf, hb⟩
      · cases q
      · cases q
      · have hM := hf.2.2
        unfold XZ at hM
        subst hh
        unfold Xq
        exact rowE_w (endR_w hb.2.2.2.2.2 (by simp only [Option.getD_some]; omega))
  · rw [show X0 s = (s, []) from if_pos (dead_of ha)]; simp
theorem stF_w (a b d : Int) {bs : List Int} (hb : ∀ x ∈ bs, 0 ≤ x ∧ x ≤ 255) {k : Nat} (h : k ≤ bs.length) : ∀ x ∈ (stF (QD a) (QE b) (QF d) bs k).2, x.row.length ≤ 4096 := by
  have hI := rdF_I a b d bs hb h
  unfold stF
  split
  · exact psPut_w hI
  · exact psEnd_w hI
theorem imStep_px (st : Img × List Img) (x : Evt) : (Xv st x).1.px.length ≤ st.1.px.length + x.row.length ∧ (Xv st x).2.length ≤ st.2.length + 1 := by
  unfold Xv
  repeat' split
  all_goals simp
theorem imFold_px : ∀ (es : List Evt) (st : Img × List Img), (∀ x ∈ es, x.row.length ≤ 4096) → (es.foldl Xv st).1.px.length ≤ st.1.px.length + 4096 * es.length ∧ (es.foldl Xv st).2.length ≤ st.2.length + es.length
  | [], st, _ => by simp
  | x :: es, st, h => by
    have ih := imFold_px es (Xv st x) fun y hy => h y (List.mem_cons_of_mem _ hy)
    have q := imStep_px st x
    have hx := h x (List.mem_cons_self ..)
    rw [List.foldl_cons, List.length_cons]
    omega
def imF (l0 l1 l2 : Int) (bs : List Int) (k : Nat) : Img × List Img := ((rdF l0 l1 l2 bs k).2.map (·.1)).foldl Xv (im0, [])
theorem imF_step (l0 l1 l2 : Int) {bs : List Int} {k : Nat} (h : k ≤ bs.length) : imF l0 l1 l2 bs (k + 1) = (stF l0 l1 l2 bs k).2.foldl Xv (imF l0 l1 l2 bs k) := by
  unfold imF
  rw [rdF_step _ _ _ h]
  simp only
  rw [List.map_append, List.foldl_append, List.map_map, show ((fun x : Evt × Int => x.1) ∘ fun x => (x, (k : Int) + 1)) = id from rfl, List.map_id]
theorem imF_end (l0 l1 l2 : Int) (bs : List Int) : (imF l0 l1 l2 bs (bs.length + 1)).2 = XW (Z0 l0 l1 l2 true bs).2 := by
  unfold imF
  rw [rdF_end]
  rfl
theorem rdF_zero (l0 l1 l2 : Int) (bs : List Int) : rdF l0 l1 l2 bs 0 = (ps0, []) := by rw [rdF_le _ _ _ (Nat.zero_le _)]; rfl
theorem imF_zero (l0 l1 l2 : Int) (bs : List Int) : imF l0 l1 l2 bs 0 = (im0, []) := by unfold imF; rw [rdF_zero]; rfl
theorem stF_len (l0 l1 l2 : Int) (bs : List Int) (k : Nat) : (stF l0 l1 l2 bs k).2.length ≤ 2 := by
  have hE : ∀ (s : PS) (bd : Bd) (st e : Int) (row : List Int), (Xq s bd st e row).2.length ≤ 2 := fun s bd st e row => by
    unfold Xq XG Xu
    by_cases h1 : row = [] <;> by_cases h2 : st = 1 <;> simp [h1, h2]
  have hH : ∀ (s : PS) (h : HS), (Xk s h).2.length ≤ 2 := fun s h => by
    unfold Xk
    repeat' split
    all_goals simp
  unfold stF
  split
  · unfold Xr
    split
    · simp
    · unfold XP
      split
      · split
        · simp
        · exact hH _ _
      · split
        · exact hH _ _
        · unfold psBody
          split
          · simp
          · exact hE _ _ _ _ _
          · exact hE _ _ _ _ _
  · unfold X0
    split
    · simp
    · split
      · exact hE _ _ _ _ _
      · simp
      · split <;> simp
theorem imF_px (a b d : Int) {bs : List Int} (hb : ∀ x ∈ bs, 0 ≤ x ∧ x ≤ 255) : ∀ k, k ≤ bs.length + 1 → (imF (QD a) (QE b) (QF d) bs k).1.px.length ≤ 8192 * k ∧ (imF (QD a) (QE b) (QF d) bs k).2.length ≤ 2 * k
  | 0, _ => by rw [imF_zero]; simp [im0]
  | k + 1, h => by
    have ih := imF_px a b d hb k (by omega)
    have q := imFold_px (stF (QD a) (QE b) (QF d) bs k).2 (imF (QD a) (QE b) (QF d) bs k) (stF_w a b d hb (by omega))
    have q2 := stF_len (QD a) (QE b) (QF d) bs k
    rw [imF_step _ _ _ (by omega)]
    omega

end Go.Proofs.YtggamdlpiejbiaaGreat
namespace Go.Proofs.YtggamdlpiejbiaaGreat
open Go.RowKit Go.Shelf


theorem imStep_1 {st : Img × List Img} {x : Evt} (h : x.k = 1) : Xv st x = (⟨x.c, x.m, x.w, x.h, []⟩, st.2) := if_pos h
theorem imStep_2 {st : Img × List Img} {x : Evt} (h1 : ¬ x.k = 1) (h : x.k = 2) : Xv st x = (⟨st.1.c, st.1.m, st.1.w, st.1.h, st.1.px ++ x.row⟩, st.2) := (if_neg h1).trans (if_pos h)
theorem imStep_3 {st : Img × List Img} {x : Evt} (h1 : ¬ x.k = 1) (h2 : ¬ x.k = 2) (h : x.k = 3) : Xv st x = (st.1, st.2 ++ [st.1]) := (if_neg h1).trans ((if_neg h2).trans (if_pos h))
def pmR (b : Bool) (a : Option Addr) (c : Nat) (px : List Int) : HP := if b = true then own 92 1 a c px.length (Xy px) else emp
theorem pmR_true {a : Option Addr} {c : Nat} {px : List Int} : pmR true a c px = own 92 1 a c px.length (Xy px) := rfl
theorem pmR_nil {l F : List HP} (h : Ent l F) : Ent l (pmR true none 0 [] :: F) := Ent.own_nil h
def imR2 (a : Option Addr) (c : Nat) (es : List Img) : HP := rcR 79 5 92 imC Img.px a c es
def mC (x : Img) (a : Option Addr) (c : Nat) : List Value := [.int .i64 x.c, .int .i64 x.m, .int .i64 x.w, .int .i64 x.h, .slice a x.px.length c]
/-- Images that are being told. -/
def tlR (gm go : Nat) (st : Img × List Img) (b : Bool) : HP := exs fun p : (Option Addr × Nat) × (Option Addr × Nat) => [Qz gm [.int .i64 st.1.c, .int .i64 st.1.m, .int .i64 st.1.w, .int .i64 st.1.h, .slice p.1.1 st.1.px.length p.1.2] 79, pmR b p.1.1 p.1.2 st.1.px, Qz go [.slice p.2.1 st.2.length p.2.2] 59, imR2 p.2.1 p.2.2 st.2]
theorem tlR_cl {gm go : Nat} {st : Img × List Img} {b : Bool} {aM aO : Option Addr} {cM cO : Nat} {F : List HP} : Ent (Qz gm [.int .i64 st.1.c, .int .i64 st.1.m, .int .i64 st.1.w, .int .i64 st.1.h, .slice aM st.1.px.length cM] 79 :: pmR b aM cM st.1.px :: Qz go [.slice aO st.2.length cO] 59 :: imR2 aO cO st.2 :: F) (tlR gm go st b :: F) := Ent.exs ((aM, cM), (aO, cO)) (Ent.refl _)
theorem tlR_0 {gm go : Nat} {F : List HP} : Ent (Qz gm [.int .i64 0, .int .i64 0, .int .i64 0, .int .i64 0, .slice none 0 0] 79 :: Qz go [.slice none 0 0] 59 :: F) (tlR gm go (im0, []) false :: F) :=
  Ent.exs ((none, 0), (none, 0)) (Ent.cons (Zg (Ent.cons (Zt (Ent.refl _)))))
structure TlX where
  (i : Nat) (aM : Option Addr) (cM : Nat) (aO : Option Addr) (cO : Nat) (b : Bool)

set_option maxHeartbeats 1000000 in
theorem pnTell_spec (gm go : Nat) (aE : Option Addr) (cE : Nat) (evs : List Evt) (st : Img × List Img) (b b' : Bool) (hph0 : phF b evs = some b') (hrow : ∀ x ∈ evs, x.row.length ≤ 4096) (hbd : st.1.px.length + 4096 * evs.length ≤ 10000000000000 ∧ st.2.length + evs.length ≤ 1000000000000) : Fn Tryz.prog 66 #[.slice aE evs.length cE, .pointer (some ⟨gm, 0, none⟩), .pointer (some ⟨go, 0, none⟩)] [evR aE cE evs, tlR gm go st b] (fun v l => v = .tuple #[] ∧ l = [tlR gm go (evs.foldl Xv st) b']) := by
 refine Qo (vs := [.slice aE evs.length cE, .pointer (some ⟨gm, 0, none⟩), .pointer (some ⟨go, 0, none⟩)]) Tryz.func66 rfl Tryz.ntmps66 rfl ?_
 refine Qb (Qa (Qc rfl rfl (QM rfl rfl (Qc rfl rfl (WpL.nil (Wp.block ?_))))))
 refine Wp.exs Take1.here fun lV => ?_
 refine Wp.pur Take1.here fun hlVe => ?_
 refine Wp.exs (Take1.there (Take1.there Take1.here)) fun pq => ?_
 obtain ⟨⟨aM, cM⟩, ⟨aO, cO⟩⟩ := pq
 refine Wp.loopD (σ := TlX) (fun x => x.i ≤ evs.length ∧ phF x.b (evs.drop x.i) = some b') [5, 8, 9, 10, 11, 12, 13, 14, 15, 16, 17, 18, 19, 20, 21, 22, 23, 24, 25, 26, 27, 28, 29, 30, 31, 32, 33, 34, 35, 36, 37, 38, 39, 40] (fun x => [(8, .int .i64 (x.i : Int))]) (fun x => [pmR x.b x.aM x.cM ((evs.take x.i).foldl Xv st).1.px, own 51 6 aE cE evs.length (lV.flatMap (fun r : Evt × Option Addr × Nat => evC2 r.1 r.2.1 r.2.2)), YN (lV.map fun r => own 92 1 r.2.1 r.2.2 r.1.row.length (Xy r.1.row)), Qz gm [.int .i64 ((evs.take x.i).foldl Xv st).1.c, .int .i64 ((evs.take x.i).foldl Xv st).1.m, .int .i64 ((evs.take x.i).foldl Xv st).1.w, .int .i64 ((evs.take x.i).foldl Xv st).1.h, .slice x.aM ((evs.take x.i).foldl Xv st).1.px.length x.cM] 79, Qz go [.slice x.aO ((evs.take x.i).foldl Xv st).2.length x.cO] 59, imR2 x.aO x.cO ((evs.take x.i).foldl Xv st).2]) (fun x => evs.length - x.i) ⟨0, aM, cM, aO, cO, b⟩ ?_ (by repeat (first | exact FrLe.nil | refine FrLe.cons rfl ?_)) ?_ ?_
 ·exact ⟨Nat.zero_le _, hph0⟩
 ·simp only [Qv, List.take_zero, List.foldl_nil]
  exact Take.ent' (by repeat' constructor)
 ·rintro ⟨i, aM, cM, aO, cO, b⟩ ⟨hi, hph⟩
  dsimp only at hi hph ⊢
  refine Qb (Qa (Q9 rfl rfl rfl (WpL.nil (Qb (Qh rfl (fun h1 => ?_) (fun h1 => ?_))))))
  ·have hiE : i < evs.length := by omega
   have hiV : i < lV.length := by rw [← hlVe, List.length_map] at hiE; exact hiE
   have e1 := map_fst hlVe hiV hiE
   have hAV : RdsL [own 51 6 aE cE evs.length (lV.flatMap (fun r : Evt × Option Addr × Nat => evC2 r.1 r.2.1 r.2.2))] aE (lV.flatMap (fun r : Evt × Option Addr × Nat => evC2 r.1 r.2.1 r.2.2)) := Q6
   have hnV : lV.flatMap (fun r : Evt × Option Addr × Nat => evC2 r.1 r.2.1 r.2.2) ≠ [] := fun q => by have := Zi (s := 6) (f := fun r : Evt × Option Addr × Nat => evC2 r.1 r.2.1 r.2.2) (fun _ => rfl) lV i hiV; rw [q] at this; simp [evC2] at this
   have hrc : RdsL [YN (lV.map fun r => own 92 1 r.2.1 r.2.2 r.1.row.length (Xy r.1.row))] lV[i].2.1 (Xy lV[i].1.row) := rc_row (row := Evt.row) (List.getElem_mem hiV)
   rw [e1] at hrc
   have hseg : ((lV.flatMap (fun r : Evt × Option Addr × Nat => evC2 r.1 r.2.1 r.2.2)).drop (i * 6)).take 6 = [.int .i64 evs[i].k, .int .i64 evs[i].c, .int .i64 evs[i].m, .int .i64 evs[i].w, .int .i64 evs[i].h, .slice lV[i].2.1 evs[i].row.length lV[i].2.2] := by rw [Zi (s := 6) (f := fun r : Evt × Option Addr × Nat => evC2 r.1 r.2.1 r.2.2) (fun _ => rfl) lV i hiV]; simp only [evC2, e1]
   have hst : (evs.take (i + 1)).foldl Xv st = Xv ((evs.take i).foldl Xv st) evs[i] := by rw [List.take_succ_eq_append_getElem hiE, List.foldl_append]; rfl
   have hdc : evs.drop i = evs[i] :: evs.drop (i + 1) := List.drop_eq_getElem_cons hiE
   have hri := hrow _ (List.getElem_mem hiE)
   have hpx := imFold_px (evs.take i) st fun x hx => hrow x (List.mem_of_mem_take hx)
   rw [List.length_take] at hpx
   rw [hdc, phF_cons] at hph
   refine Wp.skip (Qb (Wp.block ?_))
   refine Qb (Qa (s_ixR (s := 6) i rfl rfl rfl hAV (by exact Take.ent' (by repeat' constructor)) rfl (by omega) hnV ?_))
   refine s_ldaX (vs := [.int .i64 evs[i].k, .int .i64 evs[i].c, .int .i64 evs[i].m, .int .i64 evs[i].w, .int .i64 evs[i].h, .slice lV[i].2.1 evs[i].row.length lV[i].2.2]) rfl rfl hAV (by exact Take.ent' (by repeat' constructor)) hnV rfl hseg ?_
   refine X1 rfl ?_
   intro g1
   refine QG rfl rfl rfl (by rfl) rfl ?_
   refine WpL.nil (Qb (Qa (Qi (o2 := 0) rfl rfl rfl (Qn rfl rfl (by rfl) ?_))))
   refine WpL.nil (Wp.block ?_)
   refine Qb (Qa (QI rfl rfl rfl (Qd rfl rfl (WpL.nil (Qh rfl (fun h2 => ?_) (fun h2 => ?_))))))
   ·rw [if_pos h2] at hph
    refine Qa (Qi (o2 := 1) rfl rfl rfl ?_)
    refine Qx (vs := [_, _]) rfl rfl rfl (by rfl) ?_
    refine Qi (o2 := 3) rfl rfl rfl (Qn rfl rfl (by rfl) ?_)
    refine Qi (o2 := 4) rfl rfl rfl (Qn rfl rfl (by rfl) ?_)
    refine Xj rfl rfl ?_
    refine Xj rfl rfl ?_
    refine QG rfl rfl rfl (by rfl) rfl ?_
    refine WpL.nil (Qa (Qw rfl rfl rfl (Qp (by omega) (by omega)) ?_))
    refine Qc rfl rfl (WpL.nil (Qq ⟨i + 1, none, 0, aO, cO, true⟩ ?_ ?_ (by ((repeat (first | exact Top.refl | refine Top.push rfl ?_)); done)) (by repeat (first | exact FrLe.nil | refine FrLe.cons rfl ?_)) ?_))
    ·exact ⟨by simp only; omega, hph⟩
    ·simp only; omega
    ·dsimp only
     rw [hst, imStep_1 h2]
     exact pmR_nil (Take.ent' (by repeat' constructor))
   ·rw [if_neg h2] at hph
    refine Qb (Qa (QI rfl rfl rfl (Qd rfl rfl (WpL.nil (Qh rfl (fun h3 => ?_) (fun h3 => ?_))))))
    ·rw [if_pos h3] at hph
     obtain rfl : b = true := by cases b <;> simp_all
     rw [if_pos rfl] at hph
     rw [pmR_true]
     refine Qa (Qi (o2 := 2) rfl rfl rfl (Qi (o2 := 4) rfl rfl rfl (Qn rfl rfl (by rfl) ?_)))
     refine Qi (o2 := 5) rfl rfl rfl (Qn rfl rfl (by rfl) ?_)
     refine s_appR (m2 := evs[i].row.length) rfl rfl rfl (by repeat' constructor) hrc (by exact Take.ent' (by repeat' constructor)) (by rw [Zb, Nat.mul_one]) (by rfl) (by rfl) (pxs_one _) (by omega) (by omega) ?_
     intro a31 c31
     rw [pxs_app, ← List.length_append]
     refine Qi (o2 := 2) rfl rfl rfl (Qi (o2 := 4) rfl rfl rfl (QN rfl rfl rfl (WpL.nil (Qa (Qw rfl rfl rfl (Qp (by omega) (by omega)) ?_)))))
     refine Qc rfl rfl (WpL.nil (Qq ⟨i + 1, a31, c31, aO, cO, true⟩ ?_ ?_ (by ((repeat (first | exact Top.refl | refine Top.push rfl ?_)); done)) (by repeat (first | exact FrLe.nil | refine FrLe.cons rfl ?_)) ?_))
     ·exact ⟨by simp only; omega, hph⟩
     ·simp only; omega
     ·dsimp only
      rw [hst, imStep_2 h2 h3]
      exact Take.ent' (by repeat' constructor)
    ·rw [if_neg h3] at hph
     refine Qb (Qa (QI rfl rfl rfl (Qd rfl rfl (WpL.nil (Qh rfl (fun h4 => ?_) (fun h4 => ?_))))))
     ·rw [if_pos h4] at hph
      obtain rfl : b = true := by cases b <;> simp_all
      rw [if_pos rfl] at hph
      rw [pmR_true]
      refine Qa (Qn rfl rfl (by rfl) ?_)
      refine Qx (vs := [_, _, _, _, _]) rfl rfl rfl (by rfl) ?_
      refine XJ rfl rfl (by rfl) (by rfl) (by rfl) (by rfl) ?_
      intro g2
      refine X5 (((evs.take i).foldl Xv st).1) rfl rfl rfl (by repeat' constructor) rfl (by rfl) (by rfl) (by rfl) (by rfl) (by omega) (by omega) ?_
      intro a39 c39
      refine QN rfl rfl rfl (WpL.nil (Qa (Qw rfl rfl rfl (Qp (by omega) (by omega)) ?_)))
      refine Qc rfl rfl (WpL.nil (Qq ⟨i + 1, aM, cM, a39, c39, false⟩ ?_ ?_ (by ((repeat (first | exact Top.refl | refine Top.push rfl ?_)); done)) (by repeat (first | exact FrLe.nil | refine FrLe.cons rfl ?_)) ?_))
      ·exact ⟨by simp only; omega, hph⟩
      ·simp only; omega
      ·dsimp only
       rw [hst, imStep_3 h2 h3 h4]
       exact Zg (Take.ent' (by repeat' constructor))
     ·exfalso
      rw [if_neg h4] at hph
      cases hph
  ·obtain rfl : i = evs.length := by omega
   rw [List.drop_of_length_le (Nat.le_refl _)] at hph
   obtain rfl : b = b' := Option.some.inj hph
   rw [List.take_length]
   refine QS ?_
   apply Z5
   ·exact (Y9 rfl)
   ·exact ⟨rfl, rfl⟩
   ·exact (Take.ent' (pre := [Qz gm _ 79, pmR b aM cM _, Qz go _ 59, imR2 aO cO _]) (by repeat' constructor)).trans tlR_cl

end Go.Proofs.YtggamdlpiejbiaaGreat
namespace Go.Proofs.YtggamdlpiejbiaaGreat
open Go.RowKit Go.Shelf

set_option maxHeartbeats 1000000 in
theorem pnAll_spec (A0 : HP) (a0 : Option Addr) (c0 : Nat) (bs : List Int) (hA : RdsL [A0] a0 (XM bs)) (hbs : ∀ x ∈ bs, 0 ≤ x ∧ x ≤ 255) (_hc0 : bs.length ≤ c0) (hbl : bs.length ≤ 100000000) (a b d : Int) : Fn Tryz.prog 28 #[.slice a0 bs.length c0, .agg #[.int .i64 a, .int .i64 b, .int .i64 d]] [A0] (fun v l => ∃ aO cO, v = .tuple #[.slice aO (XW (Z0 (QD a) (QE b) (QF d) true bs).2).length cO, .int .i64 (if (Z0 (QD a) (QE b) (QF d) true bs).1.e = 0 then 0 else (Z0 (QD a) (QE b) (QF d) true bs).1.e), .int .i64 (if (Z0 (QD a) (QE b) (QF d) true bs).1.e = 0 then 0 else (Z0 (QD a) (QE b) (QF d) true bs).1.told)] ∧ l = [imR2 aO cO (XW (Z0 (QD a) (QE b) (QF d) true bs).2), A0]) := by
 refine Qo (vs := [.slice a0 bs.length c0, .agg #[.int .i64 a, .int .i64 b, .int .i64 d]]) Tryz.func28 rfl Tryz.ntmps28 rfl (Qb (Qa (Xb rfl rfl rfl ?_)))
 intro gB
 refine Qd rfl rfl (Qd rfl rfl (Qd rfl rfl (WpL.nil (Qb (Qa ?_)))))
 refine Qx (vs := [_, _, _]) rfl rfl rfl (by rfl) ?_
 refine Qj rfl rfl (by repeat' constructor) (pnNew_spec a b d) ?_
 rintro _ _ ⟨g, rfl, rfl⟩
 simp only [Qv]
 refine Qd rfl rfl (WpL.nil (Qb (Qa (X1 rfl ?_))))
 intro go
 refine WpL.nil (Qb (Qa (X1 rfl ?_)))
 intro gm
 refine WpL.nil (Qb (Qa (s_mkf rfl (fun a hh => ZE hh _ _ rfl) ?_)))
 refine Qd rfl rfl (WpL.nil (Qb (Qb (Qa (Qc rfl rfl (QM rfl rfl (Qc rfl rfl (WpL.nil (Wp.block ?_)))))))))
 refine Wp.loopD (σ := Nat) (fun k => k ≤ bs.length) [12, 20, 21, 22, 23, 24, 25, 26, 27, 28, 29] (fun k => [(20, .int .i64 (k : Int))]) (fun k => [psR g a b d (rdF (QD a) (QE b) (QF d) bs k).1, tlR gm go (imF (QD a) (QE b) (QF d) bs k) (Zp (rdF (QD a) (QE b) (QF d) bs k).1), A0, Qz gB [.int .i64 a, .int .i64 b, .int .i64 d] 24]) (fun k => bs.length - k) 0 ?_ (by repeat (first | exact FrLe.nil | refine FrLe.cons rfl ?_)) ?_ ?_
 ·exact Nat.zero_le _
 ·rw [rdF_zero, imF_zero]
  exact Ent.trans (m := [_, _, psR g a b d ps0, A0, Qz gB [.int .i64 a, .int .i64 b, .int .i64 d] 24]) (Take.ent' (by repeat' constructor)) (tlR_0.trans (Take.ent' (by repeat' constructor)))
 ·intro k hk
  refine Qb (Qa (Q9 rfl rfl rfl (WpL.nil (Qb (Qh rfl (fun h1 => ?_) (fun h1 => ?_))))))
  ·have hlt : k < bs.length := by omega
   have hcb := hbs _ (List.getElem_mem hlt)
   have hI := rdF_I a b d bs hbs hk
   refine Wp.skip (Qb (Wp.block ?_))
   refine Qb (Qa (Xo k rfl rfl rfl hA (by exact Take.ent' (by repeat' constructor)) rfl (by omega) (by rw [XA]; exact hlt) ?_))
   refine Xp rfl rfl hA (by exact Take.ent' (by repeat' constructor)) (Zk bs hlt) ?_
   refine Qd rfl rfl (WpL.nil (Qa (Qc rfl rfl (Qc rfl rfl (Qc rfl rfl (Qj rfl rfl (by repeat' constructor) (psPut_rep g a b d _ _ (by omega) hI _ (by omega) (by omega)) ?_))))))
   rintro _ _ rfl
   simp only [Qv]
   rw [← stF_lt (QD a) (QE b) (QF d) hlt]
   refine WpL.ent (Take.ent' (pre := [evO _ (stF (QD a) (QE b) (QF d) bs k).2, psR g a b d (stF (QD a) (QE b) (QF d) bs k).1, tlR gm go (imF (QD a) (QE b) (QF d) bs k) (Zp (rdF (QD a) (QE b) (QF d) bs k).1), A0, Qz gB [.int .i64 a, .int .i64 b, .int .i64 d] 24]) (by repeat' constructor)) ?_
   refine WpL.ent (evO_rc (stF_ok _ _ _ _ _)) (WpL.exs Take1.here fun pv => ?_)
   refine WpL.pur Take1.here fun hv => ?_
   obtain ⟨aE, cE⟩ := pv
   dsimp only at hv
   subst hv
   have hpx := imF_px a b d hbs k (by omega)
   have hl2 := stF_len (QD a) (QE b) (QF d) bs k
   refine YO (u := []) (c := [.pointer (some ⟨gm, 0, none⟩), .pointer (some ⟨go, 0, none⟩)]) rfl rfl rfl rfl (by repeat' constructor) (pnTell_spec gm go aE cE (stF (QD a) (QE b) (QF d) bs k).2 (imF (QD a) (QE b) (QF d) bs k) _ _ (stF_ph _ _ _ _ _) (stF_w a b d hbs (by omega)) ⟨by omega, by omega⟩) ?_
   rintro _ _ ⟨rfl, rfl⟩
   simp only [Qv]
   refine WpL.nil (Qa (Qw rfl rfl rfl (Qp (by omega) (by omega)) ?_))
   refine Qc rfl rfl (WpL.nil (Qq (k + 1) ?_ ?_ (by ((repeat (first | exact Top.refl | refine Top.push rfl ?_)); done)) (by repeat (first | exact FrLe.nil | refine FrLe.cons rfl ?_)) ?_))
   ·omega
   ·omega
   ·rw [rdF_step _ _ _ hk, imF_step _ _ _ hk]
    exact Take.ent' (by repeat' constructor)
  ·obtain rfl : k = bs.length := by omega
   have hI := rdF_I a b d bs hbs hk
   refine QS (Qb (Qa (Qc rfl rfl (Qc rfl rfl (Qj rfl rfl (by repeat' constructor) (psEnd_rep g a b d _ _ (by omega) hI) ?_)))))
   rintro _ _ rfl
   simp only [Qv]
   rw [← stF_ge (QD a) (QE b) (QF d) (Nat.lt_irrefl _)]
   refine WpL.ent (Take.ent' (pre := [evO _ (stF (QD a) (QE b) (QF d) bs bs.length).2, psR g a b d (stF (QD a) (QE b) (QF d) bs bs.length).1, tlR gm go (imF (QD a) (QE b) (QF d) bs bs.length) (Zp (rdF (QD a) (QE b) (QF d) bs bs.length).1), A0, Qz gB [.int .i64 a, .int .i64 b, .int .i64 d] 24]) (by repeat' constructor)) ?_
   refine WpL.ent (evO_rc (stF_ok _ _ _ _ _)) (WpL.exs Take1.here fun pv => ?_)
   refine WpL.pur Take1.here fun hv => ?_
   obtain ⟨aE, cE⟩ := pv
   dsimp only at hv
   subst hv
   have hpx := imF_px a b d hbs bs.length (by omega)
   have hl2 := stF_len (QD a) (QE b) (QF d) bs bs.length
   refine YO (u := []) (c := [.pointer (some ⟨gm, 0, none⟩), .pointer (some ⟨go, 0, none⟩)]) rfl rfl rfl rfl (by repeat' constructor) (pnTell_spec gm go aE cE (stF (QD a) (QE b) (QF d) bs bs.length).2 (imF (QD a) (QE b) (QF d) bs bs.length) _ _ (stF_ph _ _ _ _ _) (stF_w a b d hbs (by omega)) ⟨by omega, by omega⟩) ?_
   rintro _ _ ⟨rfl, rfl⟩
   simp only [Qv]
   refine WpL.nil (Qb (Qa (Qc rfl rfl (Qj rfl rfl (by repeat' constructor) (psError_rep g a b d _) ?_))))
   rintro _ _ ⟨rfl, rfl⟩
   simp only [Qv]
   refine Qc rfl rfl (QK rfl rfl rfl (QK rfl rfl rfl (Qd rfl rfl (Qd rfl rfl (WpL.nil (Qb (Qa ?_)))))))
   rw [← imF_step _ _ _ (Nat.le_refl _)]
   refine WpL.exs (Take1.there Take1.here) fun pq => ?_
   obtain ⟨⟨aM, cM⟩, ⟨aO, cO⟩⟩ := pq
   simp only [Qv]
   rw [imF_end]
   have hst : (stF (QD a) (QE b) (QF d) bs bs.length).1 = (Z0 (QD a) (QE b) (QF d) true bs).1 := congrArg (·.1) ((rdF_step (QD a) (QE b) (QF d) (Nat.le_refl bs.length)).symm.trans (rdF_end (QD a) (QE b) (QF d) bs))
   rw [hst]
   refine Qn rfl rfl (by rfl) ?_
   refine Qc rfl rfl (Qc rfl rfl (Qd rfl rfl (Qd rfl rfl (Qd rfl rfl (WpL.nil (Qg ?_))))))
   apply RetQ.mk
   ·exact (Res.three rfl rfl rfl rfl)
   ·exact ⟨aO, cO, rfl, rfl⟩
   ·exact Take.ent' (by repeat' constructor)

end Go.Proofs.YtggamdlpiejbiaaGreat
namespace Go.Proofs.YtggamdlpiejbiaaGreat
open Go.RowKit Go.Shelf

instance : FOffA Tryz.prog 79 0 0 := ⟨fun _ _ => by kernel_rfl⟩
instance : FOffA Tryz.prog 79 1 2 := ⟨fun _ _ => by kernel_rfl⟩
instance : FOffA Tryz.prog 77 0 0 := ⟨fun _ _ => by kernel_rfl⟩
instance : FOffA Tryz.prog 77 1 1 := ⟨fun _ _ => by kernel_rfl⟩
instance : FOffA Tryz.prog 77 2 2 := ⟨fun _ _ => by kernel_rfl⟩

abbrev ImL := List (Img × Option Addr × Nat)
def mCs (La : ImL) : List Value := La.flatMap fun r => mC r.1 r.2.1 r.2.2
theorem mCs_seg (La : ImL) {k : Nat} (h : k < La.length) : ((mCs La).drop (k * 5)).take 5 = [.int .i64 La[k].1.c, .int .i64 La[k].1.m, .int .i64 La[k].1.w, .int .i64 La[k].1.h, .slice La[k].2.1 La[k].1.px.length La[k].2.2] := Zi (s := 5) (f := fun r : Img × Option Addr × Nat => mC r.1 r.2.1 r.2.2) (fun _ => rfl) La k h
theorem mCs_ne (La : ImL) {k : Nat} (h : k < La.length) : mCs La ≠ [] := fun q => by have := mCs_seg La h; rw [q] at this; simp at this
theorem mCs_at (La : ImL) {k j : Nat} (h : k < La.length) (hj : j < 5) : (mCs La)[k * 5 + j]? = [Value.int .i64 La[k].1.c, .int .i64 La[k].1.m, .int .i64 La[k].1.w, .int .i64 La[k].1.h, .slice La[k].2.1 La[k].1.px.length La[k].2.2][j]? := by
  rw [← mCs_seg La h, List.getElem?_take, if_pos hj, List.getElem?_drop]
theorem mCs_two (La : ImL) {k : Nat} (h : k < La.length) : ((mCs La).drop (k * 5 + 0)).take 2 = [.int .i64 La[k].1.c, .int .i64 La[k].1.m] := by
  have q := congrArg (List.take 2) (mCs_seg La h)
  rw [List.take_take] at q
  exact q
theorem mCs_snoc (La : ImL) {k : Nat} (h : k < La.length) : mCs (La.take (k + 1)) = mCs (La.take k) ++ [.int .i64 La[k].1.c, .int .i64 La[k].1.m, .int .i64 La[k].1.w, .int .i64 La[k].1.h, .slice La[k].2.1 La[k].1.px.length La[k].2.2] := by
  unfold mCs; rw [List.take_succ_eq_append_getElem h, List.flatMap_append]; simp [mC]
structure AsX where
  (k : Nat) (a : Option Addr) (c : Nat)

theorem las_spec (As : List HP) (La : ImL) (aO : Option Addr) (cO : Nat) (hA : RdsL As aO (mCs La)) (hl : La.length ≤ 1000000000) : Fn Tryz.prog 30 #[.slice aO La.length cO] As (fun v l => ∃ a' c', v = .slice a' La.length c' ∧ l = own 71 5 a' c' La.length (mCs La) :: As) := by
 refine Qo (vs := [.slice aO La.length cO]) Tryz.func30 rfl Tryz.ntmps30 rfl (Qb (Qa (Qd rfl rfl (WpL.nil (Qb (Qa (Qd rfl rfl (WpL.nil (Qb (Qb (Qa (Qd rfl rfl ?_))))))))))))
 refine WpL.nil (Wp.block ?_)
 refine Wp.loopD (σ := AsX) (fun x => x.k ≤ La.length) [3, 4, 5, 6, 7, 8, 9, 10, 11, 12, 13, 14, 15, 16, 17, 18, 19, 20, 21, 22, 23, 24, 25, 26, 27, 28, 29, 30, 31, 32, 33, 34, 35, 36, 37, 38] (fun x => [(4, .int .i64 (x.k : Int)), (3, .slice x.a x.k x.c)]) (fun x => own 71 5 x.a x.c x.k (mCs (La.take x.k)) :: As) (fun x => La.length - x.k) ⟨0, none, 0⟩ ?_ (by repeat (first | exact FrLe.nil | refine FrLe.cons rfl ?_)) ?_ ?_
 ·exact Nat.zero_le _
 ·exact Ent.own_nil (Ent.refl _)
 ·rintro ⟨k, a1, c1⟩ hk
  dsimp only at hk ⊢
  refine Qb (Qb (Qa (Qc rfl rfl (Qc rfl rfl (QM rfl rfl (Q9 rfl rfl rfl (WpL.nil (Qh rfl (fun h1 => ?_) (fun h1 => ?_)))))))))
  ·have hk1 : k < La.length := by omega
   have hne := mCs_ne La hk1
   refine Wp.skip (Qb (Wp.block ?_))
   apply Wp.drawEN (fB := []) mixed 28 [11, 12, 13, 14, 15, 16, 17, 18, 19, 20, 21, 22, 23, 24, 25, 26, 27, 28, 29, 30, 31, 32, 33, 34, 35, 36, 37, 38] [(26, false), (0, false)] (by kernel_rfl) (by kernel_rfl) (by kernel_rfl) (by kernel_rfl)
   apply Q4 [⟨0, 11, _, [], true⟩, ⟨1, 12, _, [], false⟩, ⟨2, 13, _, [], false⟩, ⟨3, 14, _, [1, 2], false⟩, ⟨4, 15, _, [3], false⟩, ⟨5, 16, _, [4], false⟩, ⟨6, 17, _, [], false⟩, ⟨7, 18, _, [], false⟩, ⟨8, 19, _, [6, 7], false⟩, ⟨9, 20, _, [8], false⟩, ⟨10, 21, _, [9], false⟩, ⟨11, 22, _, [10], false⟩, ⟨12, 23, _, [], false⟩, ⟨13, 24, _, [], false⟩, ⟨14, 25, _, [12, 13], false⟩, ⟨15, 26, _, [14], false⟩, ⟨16, 27, _, [15], false⟩, ⟨17, 28, _, [16], false⟩, ⟨18, 29, _, [], false⟩, ⟨19, 30, _, [], false⟩, ⟨20, 31, _, [18, 19], false⟩, ⟨21, 32, _, [20], false⟩, ⟨22, 33, _, [21], false⟩, ⟨23, 34, _, [22], false⟩, ⟨24, 35, _, [11, 17, 23], false⟩, ⟨25, 36, _, [5, 24], false⟩] [] [1, 2, 3, 4, 5, 6, 7, 8, 9, 10, 11, 12, 13, 14, 15, 16, 17, 18, 19, 20, 21, 22, 23, 24, 25] [38, 11] (.inl ⟨_, .nil⟩) rfl rfl rfl (by kernel_rfl) rfl rfl rfl
   ·refine QP rfl rfl rfl rfl ?_ ?_
    ·exact Qc rfl rfl (Qm rfl)
    refine AllF.cons rfl rfl rfl rfl ?_ ?_
    ·exact Qc rfl rfl (Qm rfl)
    refine AllF.cons rfl rfl rfl rfl ?_ ?_
    ·exact Qc rfl rfl (Qm rfl)
    refine AllF.cons rfl rfl rfl rfl ?_ ?_
    ·refine s_ixR (s := 5) k rfl rfl rfl hA (by (repeat (first | exact Ent.refl _ | refine Ent.drop ?_))) rfl (by omega) hne ?_
     exact Qm rfl
    refine AllF.cons rfl rfl rfl rfl ?_ ?_
    ·refine s_faR (k * 5 + 0) rfl rfl hA (by (repeat (first | exact Ent.refl _ | refine Ent.drop ?_))) hne rfl ?_
     exact Qm rfl
    refine AllF.cons rfl rfl rfl rfl ?_ ?_
    ·refine s_ldaX (vs := [.int .i64 La[k].1.c, .int .i64 La[k].1.m]) rfl rfl hA (by (repeat (first | exact Ent.refl _ | refine Ent.drop ?_))) hne rfl (mCs_two La hk1) ?_
     exact Qm rfl
    refine AllF.cons rfl rfl rfl rfl ?_ ?_
    ·exact Qc rfl rfl (Qm rfl)
    refine AllF.cons rfl rfl rfl rfl ?_ ?_
    ·exact Qc rfl rfl (Qm rfl)
    refine AllF.cons rfl rfl rfl rfl ?_ ?_
    ·refine s_ixR (s := 5) k rfl rfl rfl hA (by (repeat (first | exact Ent.refl _ | refine Ent.drop ?_))) rfl (by omega) hne ?_
     exact Qm rfl
    refine AllF.cons rfl rfl rfl rfl ?_ ?_
    ·refine s_faR (k * 5 + 2) rfl rfl hA (by (repeat (first | exact Ent.refl _ | refine Ent.drop ?_))) hne rfl ?_
     exact Qm rfl
    refine AllF.cons rfl rfl rfl rfl ?_ ?_
    ·refine s_faR (k * 5 + 2) rfl rfl hA (by (repeat (first | exact Ent.refl _ | refine Ent.drop ?_))) hne rfl ?_
     exact Qm rfl
    refine AllF.cons rfl rfl rfl rfl ?_ ?_
    ·refine Xp rfl rfl hA (by (repeat (first | exact Ent.refl _ | refine Ent.drop ?_))) (mCs_at La hk1 (j := 2) (by decide)) ?_
     exact Qm rfl
    refine AllF.cons rfl rfl rfl rfl ?_ ?_
    ·exact Qc rfl rfl (Qm rfl)
    refine AllF.cons rfl rfl rfl rfl ?_ ?_
    ·exact Qc rfl rfl (Qm rfl)
    refine AllF.cons rfl rfl rfl rfl ?_ ?_
    ·refine s_ixR (s := 5) k rfl rfl rfl hA (by (repeat (first | exact Ent.refl _ | refine Ent.drop ?_))) rfl (by omega) hne ?_
     exact Qm rfl
    refine AllF.cons rfl rfl rfl rfl ?_ ?_
    ·refine s_faR (k * 5 + 2) rfl rfl hA (by (repeat (first | exact Ent.refl _ | refine Ent.drop ?_))) hne rfl ?_
     exact Qm rfl
    refine AllF.cons rfl rfl rfl rfl ?_ ?_
    ·refine s_faR (k * 5 + 3) rfl rfl hA (by (repeat (first | exact Ent.refl _ | refine Ent.drop ?_))) hne rfl ?_
     exact Qm rfl
    refine AllF.cons rfl rfl rfl rfl ?_ ?_
    ·refine Xp rfl rfl hA (by (repeat (first | exact Ent.refl _ | refine Ent.drop ?_))) (mCs_at La hk1 (j := 3) (by decide)) ?_
     exact Qm rfl
    refine AllF.cons rfl rfl rfl rfl ?_ ?_
    ·exact Qc rfl rfl (Qm rfl)
    refine AllF.cons rfl rfl rfl rfl ?_ ?_
    ·exact Qc rfl rfl (Qm rfl)
    refine AllF.cons rfl rfl rfl rfl ?_ ?_
    ·refine s_ixR (s := 5) k rfl rfl rfl hA (by (repeat (first | exact Ent.refl _ | refine Ent.drop ?_))) rfl (by omega) hne ?_
     exact Qm rfl
    refine AllF.cons rfl rfl rfl rfl ?_ ?_
    ·refine s_faR (k * 5 + 2) rfl rfl hA (by (repeat (first | exact Ent.refl _ | refine Ent.drop ?_))) hne rfl ?_
     exact Qm rfl
    refine AllF.cons rfl rfl rfl rfl ?_ ?_
    ·refine s_faR (k * 5 + 4) rfl rfl hA (by (repeat (first | exact Ent.refl _ | refine Ent.drop ?_))) hne rfl ?_
     exact Qm rfl
    refine AllF.cons rfl rfl rfl rfl ?_ ?_
    ·refine Xp rfl rfl hA (by (repeat (first | exact Ent.refl _ | refine Ent.drop ?_))) (mCs_at La hk1 (j := 4) (by decide)) ?_
     exact Qm rfl
    refine AllF.cons rfl rfl rfl rfl ?_ ?_
    ·refine Xj rfl rfl ?_
     exact Qm rfl
    refine AllF.cons rfl rfl rfl rfl ?_ ?_
    ·refine Xj rfl rfl ?_
     exact Qm rfl
    exact AllF.nil
   ·refine XJ rfl rfl (by rfl) (by rfl) (by rfl) (by rfl) ?_
    intro g1
    refine WpL.nil ⟨rfl, rfl, ?_⟩
    apply Q4 [] [0] [0] [] (.inl ⟨_, .nil⟩) rfl rfl rfl (by kernel_rfl) rfl rfl rfl
    ·exact AllF.nil
    ·refine Xx rfl rfl rfl (by repeat' constructor) (by rfl) (by rfl) (by rfl) (by rfl) (by omega) (by omega) ?_
     intro a38 c38
     refine WpL.nil ⟨rfl, rfl, ?_⟩
     apply GoR.nil [] (.inr rfl) rfl rfl
     ·exact AllF.nil
     ·show WpL _ _ _ _ _ _ _ _
      refine Qd rfl rfl (WpL.nil (Qa (Qc rfl rfl (Qw rfl rfl rfl (Qp (by omega) (by omega)) ?_))))
      refine Qd rfl rfl (WpL.nil (Qq ⟨k + 1, a38, c38⟩ ?_ ?_ (by ((repeat (first | exact Top.refl | refine Top.push rfl ?_)); done)) (by repeat (first | exact FrLe.nil | refine FrLe.cons rfl ?_)) ?_))
      ·simp only; omega
      ·simp only; omega
      ·dsimp only
       rw [mCs_snoc La hk1]
       exact Ent.refl _
  ·obtain rfl : k = La.length := by omega
   rw [List.take_length]
   refine QS (Qb (Qa (Qc rfl rfl (Qd rfl rfl (WpL.nil (Qg ?_))))))
   apply RetQ.mk
   ·exact (Res.one rfl rfl)
   ·exact ⟨a1, c1, rfl, rfl⟩
   ·exact Ent.refl _

end Go.Proofs.YtggamdlpiejbiaaGreat
namespace Go.Proofs.YtggamdlpiejbiaaGreat
open Go.RowKit Go.Shelf

theorem Same03_true (As : List HP) (x : Img) (a b : Option Addr) (c c2 : Nat) (hx : RdsL As a (Xy x.px)) (hy : RdsL As b (Xy x.px)) (hl : x.px.length ≤ 9223372036854775807) : Fn Tryz.prog 83 #[.agg #[.int .i64 x.w, .int .i64 x.h, .slice a x.px.length c], .agg #[.int .i64 x.w, .int .i64 x.h, .slice b x.px.length c2]] As (fun v l => v = .bool true ∧ l = As) := by
 refine Qo (vs := [.agg #[.int .i64 x.w, .int .i64 x.h, .slice a x.px.length c], .agg #[.int .i64 x.w, .int .i64 x.h, .slice b x.px.length c2]]) Tryz.func83 rfl Tryz.ntmps83 rfl (Qb (Qa (Xb rfl rfl rfl ?_)))
 intro g1
 refine Xb rfl rfl rfl ?_
 intro g2
 refine Qd rfl rfl (WpL.nil (Qb (Qa (Qi (o2 := 0) rfl rfl rfl (Qn rfl rfl (by rfl) ?_)))))
 refine Qi (o2 := 0) rfl rfl rfl (Qn rfl rfl (by rfl) ?_)
 refine QI rfl rfl rfl (Qc rfl rfl (QB (dj := 10) rfl (decide_eq_true rfl) ?_))
 refine Qf rfl rfl (Qi (o2 := 1) rfl rfl rfl (Qf rfl rfl (Qn rfl rfl (by rfl) ?_)))
 refine Qf rfl rfl (Qi (o2 := 1) rfl rfl rfl (Qf rfl rfl (Qn rfl rfl (by rfl) ?_)))
 refine Qf rfl rfl (QI rfl rfl rfl (Qr rfl rfl rfl (Qc rfl rfl (QB (dj := 17) rfl (decide_eq_true rfl) ?_))))
 refine Qf rfl rfl (Qi (o2 := 2) rfl rfl rfl (Qf rfl rfl (Qn rfl rfl (by rfl) ?_)))
 refine Qf rfl rfl (Qi (o2 := 2) rfl rfl rfl (Qf rfl rfl (Qn rfl rfl (by rfl) ?_)))
 refine Qf rfl rfl (Qj rfl rfl (Take.skip (Take.skip Take.all)) (SameRowW_spec As a b c c2 x.px x.px hx hy hl) ?_)
 rintro _ _ ⟨rfl, rfl⟩
 refine Qr rfl rfl rfl (Qd rfl rfl (WpL.nil (Qg ?_)))
 apply RetQ.mk
 ·exact (Res.one rfl rfl)
 ·exact ⟨congrArg Value.bool (decide_eq_true rfl), rfl⟩
 ·exact (Take.app rfl).ent'

theorem Same10_true (As : List HP) (x : Img) (a b : Option Addr) (c c2 : Nat) (hx : RdsL As a (Xy x.px)) (hy : RdsL As b (Xy x.px)) (hl : x.px.length ≤ 9223372036854775807) : Fn Tryz.prog 40 #[.agg (mC x a c).toArray, .agg (mC x b c2).toArray] As (fun v l => v = .bool true ∧ l = As) := by
 refine Qo (vs := [.agg (mC x a c).toArray, .agg (mC x b c2).toArray]) Tryz.func40 rfl Tryz.ntmps40 rfl (Qb (Qa (Xb rfl rfl rfl ?_)))
 intro g1
 refine Xb rfl rfl rfl ?_
 intro g2
 refine Qd rfl rfl (WpL.nil (Qb (Qa (Qi (o2 := 2) rfl rfl rfl ?_))))
 refine Qx (vs := [_, _, _]) rfl rfl rfl (by rfl) ?_
 refine Qi (o2 := 2) rfl rfl rfl ?_
 refine Qx (vs := [_, _, _]) rfl rfl rfl (by rfl) ?_
 refine Qj rfl rfl (Take.skip (Take.skip Take.all)) (Same03_true As x a b c c2 hx hy hl) ?_
 rintro _ _ ⟨rfl, rfl⟩
 refine WpL.ent Ent.comm ?_
 simp only [Qv]
 refine Qd rfl rfl (WpL.nil (Qb (Qa (Qc rfl rfl (Qc rfl rfl (Qf rfl rfl (Qi (o2 := 0) rfl rfl rfl (Qf rfl rfl ?_))))))))
 refine Qx (vs := [_, _]) rfl rfl rfl (by rfl) ?_
 refine Qf rfl rfl (Qi (o2 := 0) rfl rfl rfl (Qf rfl rfl ?_))
 refine Qx (vs := [_, _]) rfl rfl rfl (by rfl) ?_
 refine Qf rfl rfl (s_aeq [x.c, x.m] [x.c, x.m] rfl rfl rfl rfl rfl (Qr rfl rfl rfl (Qd rfl rfl (WpL.nil (Qg ?_)))))
 apply RetQ.mk
 ·exact (Res.one rfl rfl)
 ·exact ⟨congrArg Value.bool (decide_eq_true rfl), rfl⟩
 ·exact Ent.drop (Ent.drop (Ent.refl _))

theorem SameAll_true (As : List HP) (La Lb : ImL) (a b : Option Addr) (c c2 : Nat) (hab : La.map (·.1) = Lb.map (·.1)) (hA : RdsL As a (mCs La)) (hB : RdsL As b (mCs Lb)) (hra : ∀ r ∈ La, RdsL As r.2.1 (Xy r.1.px)) (hrb : ∀ r ∈ Lb, RdsL As r.2.1 (Xy r.1.px)) (hl : ∀ r ∈ La, r.1.px.length ≤ 9223372036854775807) (hn : La.length ≤ 1000000000) : Fn Tryz.prog 29 #[.slice a La.length c, .slice b La.length c2] As (fun v l => v = .bool true ∧ l = As) := by
 have hlen : La.length = Lb.length := by simpa using congrArg List.length hab
 refine Qo (vs := [.slice a La.length c, .slice b La.length c2]) Tryz.func29 rfl Tryz.ntmps29 rfl (Qb (Qa (Qd rfl rfl (WpL.nil (Qb (Qb (Qa (Qc rfl rfl (QM rfl rfl (Qc rfl rfl (QM rfl rfl (Xs rfl rfl rfl ?_))))))))))))
 refine WpL.nil (Qy rfl (by omega) ?_)
 refine Wp.skip (Qb (Qb (Qa (Qd rfl rfl (WpL.nil (Wp.block ?_))))))
 refine Wp.loopD (σ := Nat) (fun i => i ≤ La.length) [4, 5, 6, 12, 13, 14, 15, 16, 17, 18, 19, 20, 21, 22, 23, 24, 25, 26, 27, 28] (fun i => [(5, .int .i64 (i : Int))]) (fun _ => _) (fun i => La.length - i) 0 ?_ (by repeat (first | exact FrLe.nil | refine FrLe.cons rfl ?_)) (Ent.refl _) ?_
 ·exact Nat.zero_le _
 ·intro i hi
  refine Qb (Qb (Qa (Qc rfl rfl (Qc rfl rfl (QM rfl rfl (Q9 rfl rfl rfl (WpL.nil (Qh rfl (fun h2 => ?_) (fun h2 => ?_)))))))))
  ·have hia : i < La.length := by omega
   have hib : i < Lb.length := by omega
   have hna := mCs_ne La hia
   have hnb := mCs_ne Lb hib
   have e1 : Lb[i].1 = La[i].1 := by have q := congrArg (fun l => l[i]?) hab; simp only [List.getElem?_map, List.getElem?_eq_getElem hia, List.getElem?_eq_getElem hib, Option.map_some, Option.some.injEq] at q; exact q.symm
   have hxa := hra _ (List.getElem_mem hia)
   have hxb := hrb _ (List.getElem_mem hib)
   rw [e1] at hxb
   have hsb := mCs_seg Lb hib
   rw [e1] at hsb
   have hli := hl _ (List.getElem_mem hia)
   refine Wp.skip (Qb (Wp.block ?_))
   refine Qb ?_
   apply Q2 mixed [⟨18, _, []⟩, ⟨19, _, []⟩, ⟨20, _, [0, 1]⟩, ⟨21, _, [2]⟩, ⟨22, _, []⟩, ⟨23, _, []⟩, ⟨24, _, [4, 5]⟩, ⟨25, _, [6]⟩, ⟨26, _, [3, 7]⟩, ⟨6, _, [8, 0, 1, 2, 3, 4, 5, 6, 7]⟩] rfl
   ·refine AllObs.mk ?_ ?_
    ·exact Qc rfl rfl (Qm rfl)
    refine AllObs.mk ?_ ?_
    ·exact Qc rfl rfl (Qm rfl)
    refine AllObs.mk ?_ ?_
    ·refine s_ixR (s := 5) i rfl rfl rfl hA (by (repeat (exact Ent.refl _))) rfl (by omega) hna ?_
     exact Qm rfl
    refine AllObs.mk ?_ ?_
    ·refine s_ldaX (vs := mC La[i].1 La[i].2.1 La[i].2.2) rfl rfl hA (by (repeat (exact Ent.refl _))) hna rfl (mCs_seg La hia) ?_
     exact Qm rfl
    refine AllObs.mk ?_ ?_
    ·exact Qc rfl rfl (Qm rfl)
    refine AllObs.mk ?_ ?_
    ·exact Qc rfl rfl (Qm rfl)
    refine AllObs.mk ?_ ?_
    ·refine s_ixR (s := 5) i rfl rfl rfl hB (by (repeat (exact Ent.refl _))) rfl (by omega) hnb ?_
     exact Qm rfl
    refine AllObs.mk ?_ ?_
    ·refine s_ldaX (vs := mC La[i].1 Lb[i].2.1 Lb[i].2.2) rfl rfl hB (by (repeat (exact Ent.refl _))) hnb rfl hsb ?_
     exact Qm rfl
    refine AllObs.mk ?_ ?_
    ·refine Qj rfl rfl Take.all (Same10_true As La[i].1 La[i].2.1 Lb[i].2.1 La[i].2.2 Lb[i].2.2 hxa hxb hli) ?_
     rintro _ _ ⟨rfl, rfl⟩
     rw [List.append_nil]
     exact WpL.nil ⟨rfl, rfl, rfl, by exact Ent.refl _⟩
    refine AllObs.mk ?_ ?_
    ·exact Qd rfl rfl (Qm rfl)
    exact AllObs.nil
   ·refine Qb (Qa (Qc rfl rfl (Zz rfl rfl (WpL.nil (QR rfl (Wp.skip (Qa (Qc rfl rfl (Qw rfl rfl rfl (Qp (by omega) (by omega)) ?_)))))))))
    refine Qd rfl rfl (WpL.nil (Qq (i + 1) ?_ ?_ (by ((repeat (first | exact Top.refl | refine Top.push rfl ?_)); done)) (by repeat (first | exact FrLe.nil | refine FrLe.cons rfl ?_)) ?_))
    ·omega
    ·omega
    ·exact Ent.refl _
  ·refine QS (Qb (Qa (Qd rfl rfl (WpL.nil (Qg ?_)))))
   apply RetQ.mk
   ·exact (Res.one rfl rfl)
   ·exact ⟨rfl, rfl⟩
   ·exact Ent.refl _

end Go.Proofs.YtggamdlpiejbiaaGreat
