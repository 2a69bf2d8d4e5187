/- Walks and plain laws, a part of the proof of PnmOpen: every input that the law's guards let in, no condition beside. -/
import Derived.Test.YtggamdlpiejbiaaGreatM26
namespace Go.Proofs.YtggamdlpiejbiaaGreat
open Go.RowKit Go.Shelf

structure Img where
  (c m w h : Int) (px : List Int)
def im0 : Img := ⟨0, 0, 0, 0, []⟩
def imStep (st : Img × List Img) (x : Evt) : Img × List Img :=
  if x.k = 1 then (⟨x.c, x.m, x.w, x.h, []⟩, st.2) else if x.k = 2 then (⟨st.1.c, st.1.m, st.1.w, st.1.h, st.1.px ++ x.row⟩, st.2) else if x.k = 3 then (st.1, st.2 ++ [st.1]) else st
def imgsOf (es : List Evt) : List Img := (es.foldl imStep (im0, [])).2
theorem im_rows : ∀ (rows : List (Evt × Int)) (m : Img) (L : List Img), (∀ x ∈ rows, x.1.k = 2) → (rows.map (·.1)).foldl imStep (m, L) = (⟨m.c, m.m, m.w, m.h, m.px ++ rows.flatMap fun x => x.1.row⟩, L)
  | [], m, L, _ => by simp
  | x :: rows, m, L, h => by
    have hx := h x (by simp)
    have e : imStep (m, L) x.1 = (⟨m.c, m.m, m.w, m.h, m.px ++ x.1.row⟩, L) := by unfold imStep; rw [if_neg (by omega), if_pos hx]
    rw [List.map_cons, List.foldl_cons, e, im_rows rows _ L fun y hy => h y (by simp [hy])]
    simp
def imOf (h : HS) (out : List (Evt × Int)) : Img := ⟨chK h.K, h.M, h.W, h.H, out.flatMap fun x => x.1.row⟩
/-- An image that is done. -/
theorem im_body {h : HS} {es out rows : List (Evt × Int)} {t n : Int} (ho : out = rows ++ [dnE t]) (hr : ∀ x ∈ rows, x.1.k = 2) : imgsOf ((es ++ (begE h, n) :: out).map (·.1)) = imgsOf (es.map (·.1)) ++ [imOf h out] := by
  subst ho
  unfold imgsOf imOf
  rw [List.map_append, List.foldl_append, List.map_cons, List.foldl_cons]
  generalize (es.map (·.1)).foldl imStep (im0, []) = st
  obtain ⟨m, L⟩ := st
  have e : imStep (m, L) (begE h, n).1 = (⟨chK h.K, h.M, h.W, h.H, []⟩, L) := rfl
  rw [e, List.map_append, List.foldl_append, im_rows rows _ L hr]
  simp [imStep, dnE]
theorem hdRun_pos (l0 l1 l2 : Int) (h : HS) (c : Int) (bs : List Int) (told : Int) : told + 1 ≤ (hdRun l0 l1 l2 h (c :: bs) told).2 := by
  rw [hdRun]
  split
  · exact Int.le_refl _
  · have : ∀ (bs : List Int) (h : HS) (n : Int), n ≤ (hdRun l0 l1 l2 h bs n).2 := by
      intro bs
      induction bs with
      | nil => intro h n; exact Int.le_refl _
      | cons c bs ih =>
        intro h n
        rw [hdRun]
        split
        · simp only; omega
        · have := ih (hdPut l0 l1 l2 h c) (n + 1)
          omega
    exact this _ _ _
theorem hdRun_shift (l0 l1 l2 : Int) : ∀ (bs : List Int) (h : HS) (n t : Int), hdRun l0 l1 l2 h bs (n + t) = ((hdRun l0 l1 l2 h bs n).1, (hdRun l0 l1 l2 h bs n).2 + t)
  | [], h, n, t => rfl
  | c :: bs, h, n, t => by
    rw [hdRun, hdRun]
    split
    · simp only; congr 1; omega
    · have := hdRun_shift l0 l1 l2 bs (hdPut l0 l1 l2 h c) (n + 1) t
      rw [show n + 1 + t = n + t + 1 by omega] at this
      exact this
/-- What a head's parse says of the reader. -/
theorem run_parse {l0 l1 l2 : Int} (hL : LimO l0 l1 l2) {bs : List Int} {at_ : Nat} {imgs : Int} {hd : Option HS} {c : Int} {r : List Int} (hr : bs.drop at_ = c :: r) (hb : blankB c = false) {K W H M n e : Int} (hP : ((K, W, H, M), n, e) = hdP l0 l1 l2 (bs.drop at_)) :
    (1 ≤ n ∧ at_ + n ≤ bs.length ∧ (e = 0 ∨ e = 6 ∨ (2 ≤ e ∧ e ≤ 4))) ∧
    (e = 6 → at_ + n = bs.length ∧ ∃ h', h'.e = 9 ∧ psRun l0 l1 l2 ⟨hd, 0, .no, at_, imgs, false, 0⟩ (bs.drop at_) = (⟨some h', 1, .no, bs.length, imgs, false, 0⟩, [])) ∧
    (e ≠ 0 → e ≠ 6 → ∃ h', psRun l0 l1 l2 ⟨hd, 0, .no, at_, imgs, false, 0⟩ (bs.drop at_) = (⟨some h', 1, .no, at_ + n, imgs, false, e⟩, [])) ∧
    (e = 0 → ∃ h', HdFine h' ∧ h'.K = K ∧ h'.W = W ∧ h'.H = H ∧ h'.M = M ∧ psRun l0 l1 l2 ⟨hd, 0, .no, at_, imgs, false, 0⟩ (bs.drop at_) = papp [(begE h', at_ + n)] (psRun l0 l1 l2 ⟨some h', 2, bd0 h', at_ + n, imgs, false, 0⟩ (bs.drop (at_ + n).toNat))) := by
  have hlen : (bs.drop at_).length = bs.length - at_ := List.length_drop
  have hl2 : 1 ≤ (bs.drop at_).length := by rw [hr]; simp
  have hrun := run_head l0 l1 l2 hL imgs (bs.drop at_) hd0 at_ (hdJ0 l0 l1 l2)
  have hfirst := run_first l0 l1 l2 (hd := hd) (told := at_) (imgs := imgs) (bs := r) hb
  rw [← hr] at hfirst
  have hsh := hdRun_shift l0 l1 l2 (bs.drop at_) hd0 0 at_
  rw [Int.zero_add] at hsh
  have hpos := hdRun_pos l0 l1 l2 hd0 c r 0
  rw [← hr] at hpos
  rw [hdP_fin] at hP
  rw [hsh] at hrun
  generalize hdRun l0 l1 l2 hd0 (bs.drop at_) 0 = q at hP hrun hpos
  obtain ⟨h', m⟩ := q
  dsimp only at hP hrun hpos
  rw [hfirst]
  obtain ⟨hrun, hr1, hr2⟩ := hrun
  unfold hdFin at hP
  dsimp only at hP
  rcases hrun with ⟨g1, g2, g3⟩ | ⟨g1, g2, g3, g4⟩ | ⟨g1, g2⟩
  · rw [if_neg (by omega), if_neg (by omega)] at hP
    cases hP
    refine ⟨⟨by omega, by omega, .inr (.inl rfl)⟩, fun _ => ⟨by omega, h', g2, ?_⟩, fun _ q => absurd rfl q, fun q => absurd q (by decide)⟩
    rw [g3, show (at_ : Int) + (((bs.drop at_).length : Nat) : Int) = bs.length by omega]
  · rw [if_neg (by omega), if_pos g1] at hP
    cases hP
    refine ⟨⟨by omega, by omega, .inr (.inr ⟨g2, g3⟩)⟩, fun q => by omega, fun _ _ => ⟨h', ?_⟩, fun q => by omega⟩
    rw [g4, Int.add_comm]
  · rw [if_pos g1.1] at hP
    cases hP
    refine ⟨⟨by omega, by omega, .inl rfl⟩, fun q => absurd q (by decide), fun q => absurd rfl q, fun _ => ⟨h', g1, rfl, rfl, rfl, rfl, ?_⟩⟩
    rw [g2, List.drop_drop, show (n + (at_ : Int) : Int) = at_ + n by omega, show at_ + ((at_ : Int) + n - at_).toNat = ((at_ : Int) + n).toNat by omega]
theorem psEnd_ah {hd : Option HS} {told imgs : Int} (h : ∀ x, hd = some x → x.e = 0) : psEnd ⟨hd, 0, .no, told, imgs, false, 0⟩ = (⟨hd, 0, .no, told, imgs, true, 0⟩, []) := by
  refine (if_neg (by simp)).trans (if_neg (fun q => ?_))
  obtain ⟨q1, q2⟩ := q
  cases hd with
  | none => cases q1
  | some x => have := h x rfl; simp [this] at q2
theorem psEnd_hd {h : HS} {told imgs : Int} (h9 : h.e = 9) : psEnd ⟨some h, 1, .no, told, imgs, false, 0⟩ = (⟨some h, 1, .no, told, imgs, true, 6⟩, []) := (if_neg (by simp)).trans (if_pos ⟨rfl, h9⟩)

def imsO (es : List (Evt × Int)) : List Img := imgsOf (es.map (·.1))
theorem imsO_body {h : HS} {es out rows : List (Evt × Int)} {t n : Int} (ho : out = rows ++ [dnE t]) (hr : ∀ x ∈ rows, x.1.k = 2) : imsO (es ++ [(begE h, n)] ++ out) = imsO es ++ [imOf h out] := by
  unfold imsO
  rw [show es ++ [(begE h, n)] ++ out = es ++ (begE h, n) :: out by simp]
  exact im_body ho hr
theorem fin_ah {fin : Bool} {hd : Option HS} {told imgs : Int} (h : ∀ x, hd = some x → x.e = 0) : psFin fin ((⟨hd, 0, .no, told, imgs, false, 0⟩ : PS), []) = ((⟨hd, 0, .no, told, imgs, fin, 0⟩ : PS), []) := by
  cases fin with
  | false => rfl
  | true => simp [psFin, psEnd_ah h]
theorem imsO_open {h : HS} {es out : List (Evt × Int)} {n : Int} (hr : ∀ x ∈ out, x.1.k = 2) : imsO (es ++ [(begE h, n)] ++ out) = imsO es := by
  unfold imsO imgsOf
  rw [List.map_append, List.map_append, List.foldl_append, List.foldl_append]
  generalize (es.map (·.1)).foldl imStep (im0, []) = st
  obtain ⟨m, L⟩ := st
  have e : imStep (m, L) (begE h, n).1 = (⟨chK h.K, h.M, h.W, h.H, []⟩, L) := rfl
  rw [List.map_cons, List.foldl_cons, e, List.map_nil, List.foldl_nil, im_rows out _ L hr]

end Go.Proofs.YtggamdlpiejbiaaGreat
namespace Go.Proofs.YtggamdlpiejbiaaGreat
open Go.RowKit Go.Shelf


def imC (x : Img) (a : Option Addr) (c : Nat) : List Value := [.int .i64 x.c, .int .i64 x.m, .int .i64 x.w, .int .i64 x.h, .slice a x.px.length c]
def imR (a : Option Addr) (c : Nat) (es : List Img) : HP := rcR 71 5 92 imC Img.px a c es
theorem rParse_det (a b d : Int) (s : ByteArray) (hsz : s.size ≤ 1000000000000) : Fn Tryz.prog 56 #[.string s, .agg #[.int .i64 a, .int .i64 b, .int .i64 d]] [] (fun v l => v = .tuple #[.agg #[.int .i64 (hdP (lim0 a) (lim1 b) (lim2 d) (bsOf s)).1.1, .int .i64 (hdP (lim0 a) (lim1 b) (lim2 d) (bsOf s)).1.2.1, .int .i64 (hdP (lim0 a) (lim1 b) (lim2 d) (bsOf s)).1.2.2.1, .int .i64 (hdP (lim0 a) (lim1 b) (lim2 d) (bsOf s)).1.2.2.2], .int .i64 (hdP (lim0 a) (lim1 b) (lim2 d) (bsOf s)).2.1, .int .i64 (hdP (lim0 a) (lim1 b) (lim2 d) (bsOf s)).2.2] ∧ l = []) := by
  refine (rParse_spec a b d s hsz).mono ?_
  rintro v l ⟨K, W, H, M, n, e, hP, rfl, rfl⟩
  rw [← hP]
  exact ⟨_, ⟨rfl, rfl⟩, Ent.refl _⟩
theorem eaC_one (l : List ((Evt × Int) × Option Addr × Nat)) : ∀ u ∈ l.flatMap (fun r => eaC r.1 r.2.1 r.2.2), u.oneCell' = true := by
  intro u hu
  obtain ⟨x, _, hx⟩ := List.mem_flatMap.1 hu
  simp only [eaC, List.mem_cons, List.not_mem_nil, or_false] at hx
  rcases hx with rfl | rfl | rfl | rfl | rfl | rfl | rfl <;> rfl
theorem eaC_len (l : List ((Evt × Int) × Option Addr × Nat)) : (l.flatMap (fun r => eaC r.1 r.2.1 r.2.2)).length = l.length * 7 := by
  induction l with
  | nil => rfl
  | cons x l ih => rw [List.flatMap_cons, List.length_append, ih, List.length_cons, Nat.add_mul]; simp [eaC]; omega
theorem es_close {a : Option Addr} {c m : Nat} {esA out : List (Evt × Int)} {lE lO : List ((Evt × Int) × Option Addr × Nat)} {F : List HP} (hE : lE.map (·.1) = esA) (hO : lO.map (·.1) = out) (hm : m = (esA ++ out).length) :
    Ent (own 53 7 a c m (lE.flatMap (fun r => eaC r.1 r.2.1 r.2.2) ++ lO.flatMap (fun r => eaC r.1 r.2.1 r.2.2)) :: many (lE.map (fun r => own 92 1 r.2.1 r.2.2 (eaR r.1).length (pxs (eaR r.1)))) :: many (lO.map (fun r => own 92 1 r.2.1 r.2.2 (eaR r.1).length (pxs (eaR r.1)))) :: F) (esR a c (esA ++ out) :: F) := by
  subst hm
  refine Ent.trans (Ent.cons Ent.many_app) ?_
  refine Ent.exs (lE ++ lO) (Ent.pur (by rw [List.map_append, hE, hO]) ?_)
  rw [List.flatMap_append, List.map_append]
  exact Ent.refl _
structure RdZ where
  (i : Nat) (px : List Int) (aM : Option Addr) (cM : Nat)
theorem flat_take {out : List (Evt × Int)} {i : Nat} (h : i < out.length) : ((out.take i).flatMap fun x => x.1.row) ++ out[i].1.row = (out.take (i + 1)).flatMap fun x => x.1.row := by
  rw [List.take_succ_eq_append_getElem h, List.flatMap_append]; simp
structure RdY where
  (at_ : Nat) (hd : Option HS) (es : List (Evt × Int)) (aL : Option Addr) (cL : Nat) (aI : Option Addr) (cI : Nat)

end Go.Proofs.YtggamdlpiejbiaaGreat
