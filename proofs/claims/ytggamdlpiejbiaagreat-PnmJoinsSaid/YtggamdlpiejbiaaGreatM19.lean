/- Walks and plain laws, a part of the proof of PnmJoins: every input that the law's guards let in, no condition beside. -/
import Derived.Test.YtggamdlpiejbiaaGreatM18
namespace Go.Proofs.YtggamdlpiejbiaaGreat
open Go.RowKit Go.Shelf


theorem bdR_pl {gb : Nat} {h : HS} {s : RS} {F : List HP} : Ent (plR gb h.K h.W h.H h.M s :: F) (bdR (.iface 124 (.pointer (some ⟨gb, 0, none⟩))) h (.pl s) :: F) := Ent.exs gb (Ent.pur rfl (Ent.refl _))
theorem bdR_rw {gb : Nat} {h : HS} {s : RW} {F : List HP} : Ent (rwR gb h.K h.W.toNat h.H h.M s :: F) (bdR (.iface 193 (.pointer (some ⟨gb, 0, none⟩))) h (.rw s) :: F) := Ent.exs gb (Ent.pur rfl (Ent.refl _))


theorem pnBody_pl (g : Nat) (a b d told imgs e : Int) (over : Bool) (hp bv : Value) (h : HS) (s : RS) (hi : 0 ≤ imgs ∧ imgs ≤ 2 ^ 60) (c : Int) (hc0 : 0 ≤ c) (hc1 : c ≤ 255) (hM : Xv h.K h.W h.H h.M) (hl0 : s.last = 0) (ho : s.one.length ≤ 3) (hr2 : s.row.length ≤ 1000000000000) (hrows : 0 ≤ s.rows ∧ s.rows ≤ 2 ^ 60) :
    Fn Tryz.prog 163 #[.pointer (some ⟨g, 0, none⟩), .int .u8 c] [QA g [.int .i64 a, .int .i64 b, .int .i64 d, (pnV g 2), hp, bv, .int .i64 told, .int .i64 imgs, .bool over, .int .i64 e] 123, hdO (QP a) (QR b) (QS d) hp (some h), bdR bv h (.pl s)] (fun v l => l = [psR g a b d (Xt (QP a) (QR b) (QS d) ⟨(some h), 2, (.pl s), told, imgs, over, e⟩ c).1, evO v (Xt (QP a) (QR b) (QS d) ⟨(some h), 2, (.pl s), told, imgs, over, e⟩ c).2]) := by
  have e0 : Xt (QP a) (QR b) (QS d) ⟨(some h), 2, (.pl s), told, imgs, over, e⟩ c = Xm ⟨(some h), 2, (.pl s), told, imgs, over, e⟩ (.pl (XH h.K h.W h.H h.M s c).1) (XH h.K h.W h.H h.M s c).1.last (XH h.K h.W h.H h.M s c).1.e (XH h.K h.W h.H h.M s c).2 := (if_neg (show ¬ (2 : Int) = 0 by decide)).trans (if_neg (show ¬ (2 : Int) = 1 by decide))
  rw [e0]
  refine (Fn.exs (F := [QA g [.int .i64 a, .int .i64 b, .int .i64 d, (pnV g 2), hp, bv, .int .i64 told, .int .i64 imgs, .bool over, .int .i64 e] 123, hdO (QP a) (QR b) (QS d) hp (some h)]) fun gb => ?_).pre (Take.ent' (pre := [bdR bv h (.pl s), _, _]) (by repeat' constructor))
  refine Fn.pur (F := [plR gb h.K h.W h.H h.M s, _, _]) fun hbv => ?_
  subst hbv
  refine Fn.pre (pre := [QA g [.int .i64 a, .int .i64 b, .int .i64 d, (pnV g 2), hp, (.iface 124 (.pointer (some ⟨gb, 0, none⟩))), .int .i64 told, .int .i64 imgs, .bool over, .int .i64 e] 123, plR gb h.K h.W h.H h.M s] ++ [hdO (QP a) (QR b) (QS d) hp (some h)]) ?_ (Take.ent' (by repeat' constructor))
  have hst : (XH h.K h.W h.H h.M s c).1.last = 0 ∨ (XH h.K h.W h.H h.M s c).1.last = 1 ∨ (XH h.K h.W h.H h.M s c).1.last = 2 := putR_last hl0
  have hPut : Fn Tryz.prog 127 #[.pointer (some ⟨gb, 0, none⟩), .int .u8 c] [plR gb h.K h.W h.H h.M s] (fun v l => ∃ a3 c3, v = .tuple #[.slice a3 (XH h.K h.W h.H h.M s c).2.length c3, .int .i64 (XH h.K h.W h.H h.M s c).1.last] ∧ l = [plR gb h.K h.W h.H h.M (XH h.K h.W h.H h.M s c).1, QG 92 1 a3 c3 (XH h.K h.W h.H h.M s c).2.length (Xp (XH h.K h.W h.H h.M s c).2)] ∧ ((XH h.K h.W h.H h.M s c).2 = [] → a3 = none)) := by
    refine (plPut_rep gb h.K h.W h.H h.M s c (by have := hM.1; omega) ho hr2 hc0 hc1 (by have := hM.2.2.2.1; omega) (by have := hM.2.2.2.1; omega) hrows.1 hrows.2).mono ?_
    rintro v l ⟨s', out, a3, c3, hs, rfl, rfl, hnl⟩
    rw [← hs]
    exact ⟨_, ⟨a3, c3, rfl, rfl, hnl (by have := hM.2.1; omega)⟩, Ent.refl _⟩
  generalize hq : (XH h.K h.W h.H h.M s c) = q at hst hPut ⊢
  obtain ⟨s', out⟩ := q
  dsimp only at hst hPut ⊢
  have hB := pnBodies_open g gb 124 128 127 a b d told imgs e s'.e over (pnV g 2) hp (plR gb h.K h.W h.H h.M s) (plR gb h.K h.W h.H h.M s') c out s'.last hst hi (plError_rep gb h.K h.W h.H h.M s') hPut
  refine (Fn.frame (F := [hdO (QP a) (QR b) (QS d) hp (some h)]) hB).mono ?_
  rintro v l ⟨l0, hl0, rfl⟩
  rcases hl0 with ⟨h0, rfl⟩ | ⟨h0, rfl⟩ | ⟨h0, rfl⟩
  · refine ⟨_, rfl, ?_⟩
    rw [show Xm ⟨(some h), 2, (.pl s), told, imgs, over, e⟩ (.pl s') s'.last s'.e out = (_, XC out ++ Xq s'.last) from congrArg (·, XC out ++ Xq s'.last) (if_pos h0)]
    exact (Take.ent' (pre := [_, hdO (QP a) (QR b) (QS d) hp (some h), _, _]) (by repeat' constructor)).trans ((Ent.cons (Ent.cons (bdR_pl))).trans XY)
  · refine ⟨_, rfl, ?_⟩
    rw [show Xm ⟨(some h), 2, (.pl s), told, imgs, over, e⟩ (.pl s') s'.last s'.e out = (_, XC out ++ Xq s'.last) from congrArg (·, XC out ++ Xq s'.last) ((if_neg (by omega)).trans (if_pos h0))]
    exact (Take.ent' (pre := [_, hdO (QP a) (QR b) (QS d) hp (some h), _]) (by repeat' constructor)).trans ((Ent.cons (Ent.cons bdR_no)).trans XY)
  · refine ⟨_, rfl, ?_⟩
    rw [show Xm ⟨(some h), 2, (.pl s), told, imgs, over, e⟩ (.pl s') s'.last s'.e out = (_, XC out ++ Xq s'.last) from congrArg (·, XC out ++ Xq s'.last) ((if_neg (by omega)).trans (if_neg (by omega)))]
    exact (Take.ent' (pre := [_, hdO (QP a) (QR b) (QS d) hp (some h), _, _]) (by repeat' constructor)).trans ((Ent.cons (Ent.cons (bdR_pl))).trans XY)


theorem pnBody_rw (g : Nat) (a b d told imgs e : Int) (over : Bool) (hp bv : Value) (h : HS) (s : RW) (hi : 0 ≤ imgs ∧ imgs ≤ 2 ^ 60) (c : Int) (hc0 : 0 ≤ c) (hc1 : c ≤ 255) (hM : Xv h.K h.W h.H h.M) (hK4 : 4 ≤ h.K) (hl0 : s.last = 0) (hbs : ∀ x ∈ s.b, 0 ≤ x ∧ x ≤ 255) (hst2 : s.b.length = QF h.K h.W.toNat (Qg h.M)) (hn : s.n < s.b.length) (hro : 0 ≤ s.rows ∧ s.rows < h.H) :
    Fn Tryz.prog 163 #[.pointer (some ⟨g, 0, none⟩), .int .u8 c] [QA g [.int .i64 a, .int .i64 b, .int .i64 d, (pnV g 2), hp, bv, .int .i64 told, .int .i64 imgs, .bool over, .int .i64 e] 123, hdO (QP a) (QR b) (QS d) hp (some h), bdR bv h (.rw s)] (fun v l => l = [psR g a b d (Xt (QP a) (QR b) (QS d) ⟨(some h), 2, (.rw s), told, imgs, over, e⟩ c).1, evO v (Xt (QP a) (QR b) (QS d) ⟨(some h), 2, (.rw s), told, imgs, over, e⟩ c).2]) := by
  have e0 : Xt (QP a) (QR b) (QS d) ⟨(some h), 2, (.rw s), told, imgs, over, e⟩ c = Xm ⟨(some h), 2, (.rw s), told, imgs, over, e⟩ (.rw (Xj h.K h.W.toNat h.H h.M s c).1) (Xj h.K h.W.toNat h.H h.M s c).1.last (Xj h.K h.W.toNat h.H h.M s c).1.e (Xj h.K h.W.toNat h.H h.M s c).2 := (if_neg (show ¬ (2 : Int) = 0 by decide)).trans (if_neg (show ¬ (2 : Int) = 1 by decide))
  rw [e0]
  have hRn : RawH h.K ((h.W.toNat : Nat) : Int) h.H h.M := by
    have e : ((h.W.toNat : Nat) : Int) = h.W := by have := hM.2.1; omega
    rw [e]; exact ⟨hM, hK4⟩
  refine (Fn.exs (F := [QA g [.int .i64 a, .int .i64 b, .int .i64 d, (pnV g 2), hp, bv, .int .i64 told, .int .i64 imgs, .bool over, .int .i64 e] 123, hdO (QP a) (QR b) (QS d) hp (some h)]) fun gb => ?_).pre (Take.ent' (pre := [bdR bv h (.rw s), _, _]) (by repeat' constructor))
  refine Fn.pur (F := [rwR gb h.K h.W.toNat h.H h.M s, _, _]) fun hbv => ?_
  subst hbv
  refine Fn.pre (pre := [QA g [.int .i64 a, .int .i64 b, .int .i64 d, (pnV g 2), hp, (.iface 193 (.pointer (some ⟨gb, 0, none⟩))), .int .i64 told, .int .i64 imgs, .bool over, .int .i64 e] 123, rwR gb h.K h.W.toNat h.H h.M s] ++ [hdO (QP a) (QR b) (QS d) hp (some h)]) ?_ (Take.ent' (by repeat' constructor))
  have hst : (Xj h.K h.W.toNat h.H h.M s c).1.last = 0 ∨ (Xj h.K h.W.toNat h.H h.M s c).1.last = 1 ∨ (Xj h.K h.W.toNat h.H h.M s c).1.last = 2 := (putW_ok hst2 hbs hc0 hc1 hn hl0 hro rfl).2.2.2.1
  have hPut : Fn Tryz.prog 125 #[.pointer (some ⟨gb, 0, none⟩), .int .u8 c] [rwR gb h.K h.W.toNat h.H h.M s] (fun v l => ∃ a3 c3, v = .tuple #[.slice a3 (Xj h.K h.W.toNat h.H h.M s c).2.length c3, .int .i64 (Xj h.K h.W.toNat h.H h.M s c).1.last] ∧ l = [rwR gb h.K h.W.toNat h.H h.M (Xj h.K h.W.toNat h.H h.M s c).1, QG 92 1 a3 c3 (Xj h.K h.W.toNat h.H h.M s c).2.length (Xp (Xj h.K h.W.toNat h.H h.M s c).2)] ∧ ((Xj h.K h.W.toNat h.H h.M s c).2 = [] → a3 = none)) := by
    refine (rwPut_rep gb h.K h.W.toNat h.H h.M hRn s hbs hst2 hn ⟨hro.1, by have := hM.2.2.1; omega⟩ c hc0 hc1).mono ?_
    rintro v l ⟨s', out, a3, c3, hs, rfl, rfl, hnl⟩
    rw [← hs]
    exact ⟨_, ⟨a3, c3, rfl, rfl, hnl⟩, Ent.refl _⟩
  generalize hq : (Xj h.K h.W.toNat h.H h.M s c) = q at hst hPut ⊢
  obtain ⟨s', out⟩ := q
  dsimp only at hst hPut ⊢
  have hB := pnBodies_open g gb 193 229 125 a b d told imgs e s'.e over (pnV g 2) hp (rwR gb h.K h.W.toNat h.H h.M s) (rwR gb h.K h.W.toNat h.H h.M s') c out s'.last hst hi (rwError_rep gb h.K h.W.toNat h.H h.M hRn s') hPut
  refine (Fn.frame (F := [hdO (QP a) (QR b) (QS d) hp (some h)]) hB).mono ?_
  rintro v l ⟨l0, hl0, rfl⟩
  rcases hl0 with ⟨h0, rfl⟩ | ⟨h0, rfl⟩ | ⟨h0, rfl⟩
  · refine ⟨_, rfl, ?_⟩
    rw [show Xm ⟨(some h), 2, (.rw s), told, imgs, over, e⟩ (.rw s') s'.last s'.e out = (_, XC out ++ Xq s'.last) from congrArg (·, XC out ++ Xq s'.last) (if_pos h0)]
    exact (Take.ent' (pre := [_, hdO (QP a) (QR b) (QS d) hp (some h), _, _]) (by repeat' constructor)).trans ((Ent.cons (Ent.cons (bdR_rw))).trans XY)
  · refine ⟨_, rfl, ?_⟩
    rw [show Xm ⟨(some h), 2, (.rw s), told, imgs, over, e⟩ (.rw s') s'.last s'.e out = (_, XC out ++ Xq s'.last) from congrArg (·, XC out ++ Xq s'.last) ((if_neg (by omega)).trans (if_pos h0))]
    exact (Take.ent' (pre := [_, hdO (QP a) (QR b) (QS d) hp (some h), _]) (by repeat' constructor)).trans ((Ent.cons (Ent.cons bdR_no)).trans XY)
  · refine ⟨_, rfl, ?_⟩
    rw [show Xm ⟨(some h), 2, (.rw s), told, imgs, over, e⟩ (.rw s') s'.last s'.e out = (_, XC out ++ Xq s'.last) from congrArg (·, XC out ++ Xq s'.last) ((if_neg (by omega)).trans (if_neg (by omega)))]
    exact (Take.ent' (pre := [_, hdO (QP a) (QR b) (QS d) hp (some h), _, _]) (by repeat' constructor)).trans ((Ent.cons (Ent.cons (bdR_rw))).trans XY)

end Go.Proofs.YtggamdlpiejbiaaGreat
namespace Go.Proofs.YtggamdlpiejbiaaGreat
open Go.RowKit Go.Shelf


def bdI (N : Nat) (h : HS) : Bd → Prop
  | .no => False
  | .pl s => ¬ (4 ≤ h.K ∧ h.K ≤ 6) ∧ s.last = 0 ∧ RInv (QW h.K) N 0 s ∧ RGood h.K h.W s
  | .rw s => 4 ≤ h.K ∧ s.last = 0 ∧ (∀ x ∈ s.b, 0 ≤ x ∧ x ≤ 255) ∧ s.b.length = QF h.K h.W.toNat (Qg h.M) ∧ s.n < s.b.length ∧ 0 ≤ s.rows ∧ s.rows < h.H
def psJ (l0 l1 l2 : Int) (N : Nat) (s : PS) : Prop := (s.ph = 0 ∧ s.bd = .no ∧ ∀ h, s.hd = some h → h.e = 0) ∨ (s.ph = 1 ∧ s.bd = .no ∧ ∃ h, s.hd = some h ∧ hdJ l0 l1 l2 h) ∨ (s.ph = 2 ∧ ∃ h, s.hd = some h ∧ YC h ∧ bdI N h s.bd)
/-- What a stream's reader may be. -/
def psI (l0 l1 l2 : Int) (N : Nat) (s : PS) : Prop := (0 ≤ s.told ∧ s.told ≤ N) ∧ (0 ≤ s.imgs ∧ s.imgs ≤ N) ∧ (s.over = false → s.e = 0 → psJ l0 l1 l2 N s)
theorem psI0 (l0 l1 l2 : Int) : psI l0 l1 l2 0 ps0 := ⟨by simp [ps0], by simp [ps0], fun _ _ => .inl ⟨rfl, rfl, fun h e => by cases e⟩⟩
theorem RInv.le {ch : Int} {k k' m : Nat} {s : RS} (h : RInv ch k m s) (hk : k ≤ k') : RInv ch k' m s := ⟨h.1, by have := h.2.1; omega, h.2.2.1, by have := h.2.2.2; omega⟩
theorem bdI.le {N N' : Nat} {h : HS} {b : Bd} (hb : bdI N h b) (hN : N ≤ N') : bdI N' h b := by
  cases b with
  | no => exact hb
  | pl s => exact ⟨hb.1, hb.2.1, hb.2.2.1.le hN, hb.2.2.2⟩
  | rw s => exact hb
theorem psJ.le {l0 l1 l2 : Int} {N N' : Nat} {s : PS} (h : psJ l0 l1 l2 N s) (hN : N ≤ N') : psJ l0 l1 l2 N' s := by
  rcases h with h | h | ⟨h, x, h1, h2, h3⟩
  · exact .inl h
  · exact .inr (.inl h)
  · exact .inr (.inr ⟨h, x, h1, h2, h3.le hN⟩)
theorem bd0_I {h : HS} {N : Nat} (hf : YC h) : bdI N h (bd0 h) := by
  have hM := hf.2.2
  unfold Xv at hM
  unfold bd0
  split
  · rename_i h4
    have hw := Q2 h.M
    have hsb := XU (K := h.K) (W := h.W.toNat) hw (by omega) (by omega)
    exact ⟨h4.1, rfl, fun x hx => by rw [List.eq_of_mem_replicate hx]; omega, by simp [rw0], by simp only [rw0, List.length_replicate]; omega, by simp [rw0], by simp only [rw0]; omega⟩
  · rename_i h4
    have hch := chK_pos h.K
    exact ⟨h4, rfl, ⟨by simp [s0R]; omega, by simp [s0R], by simp [s0R], by simp [s0R]⟩, by simp [s0R], fun _ => rfl, by simp [s0R]; omega⟩
theorem psHeads_J {l0 l1 l2 : Int} {N : Nat} {s : PS} {h : HS} (hI : psI l0 l1 l2 N s) (hb : s.bd = .no) (hok : hdJ l0 l1 l2 h ∨ HdBad h ∨ YC h) : psI l0 l1 l2 N (Q8 s h).1 := by
  obtain ⟨h1, h2, h3⟩ := hI
  unfold Q8
  rcases hok with hok | hok | hok
  · rw [if_pos hok.1.1]
    exact ⟨h1, h2, fun _ _ => .inr (.inl ⟨rfl, hb, h, rfl, hok⟩)⟩
  · rw [if_neg (by rw [hok.1]; decide), if_pos (by have := hok.2.1; omega)]
    exact ⟨h1, h2, fun _ q => absurd (show h.e = 0 from q) (by have := hok.2.1; omega)⟩
  · rw [if_neg (by rw [hok.1]; decide), if_neg (fun q => q hok.2.1)]
    exact ⟨h1, h2, fun _ _ => .inr (.inr ⟨rfl, h, rfl, hok, bd0_I hok⟩)⟩
theorem psEvts_I {l0 l1 l2 : Int} {N' : Nat} {s : PS} {h : HS} {bd : Bd} {st e : Int} {row : List Int} (h1 : 0 ≤ s.told ∧ s.told ≤ N') (h2 : 0 ≤ s.imgs ∧ s.imgs + 1 ≤ N') (hph : s.ph = 2) (hhd : s.hd = some h) (hf : YC h) (hst : st = 0 ∨ st = 1 ∨ st = 2) (hb : st = 0 → bdI N' h bd) (he : st = 2 → e ≠ 0) : psI l0 l1 l2 N' (Xm s bd st e row).1 := by
  unfold Xm
  rcases hst with rfl | rfl | rfl
  · rw [if_neg (by decide), if_neg (by decide)]
    exact ⟨h1, ⟨h2.1, by simp only; omega⟩, fun _ _ => .inr (.inr ⟨hph, h, hhd, hf, hb rfl⟩)⟩
  · rw [if_neg (by decide), if_pos rfl]
    exact ⟨h1, ⟨by simp only; omega, by simp only; omega⟩, fun _ _ => .inl ⟨rfl, rfl, fun x hx => by have : s.hd = some x := hx; rw [hhd] at this; cases this; exact hf.2.1⟩⟩
  · rw [if_pos rfl]
    exact ⟨h1, ⟨h2.1, by simp only; omega⟩, fun _ q => absurd (show e = 0 from q) (he rfl)⟩
theorem putR_e {K W H M c : Int} {s : RS} (h : (XH K W H M s c).1.last = 2) (hl : s.last = 0) : (XH K W H M s c).1.e ≠ 0 := by
  have hk := (Vj K M s c).2.1
  unfold XH at h ⊢
  rw [if_neg (by omega)] at h ⊢
  split at h
  · rename_i hr
    rw [if_pos hr]
    exact hr
  · rename_i hr
    exfalso
    unfold XB at h
    split at h
    · rw [hk] at h; omega
    · simp only at h
      split at h
      · simp at h
      · rw [hk] at h; omega
theorem putW_e {K : Int} {W : Nat} {H M c : Int} {s : RW} (h : (Xj K W H M s c).1.last = 2) (hl : s.last = 0) : (Xj K W H M s c).1.e ≠ 0 := by
  unfold Xj at h ⊢
  rw [if_neg (by omega)] at h ⊢
  split at h
  · rename_i h1; rw [if_pos h1]; simp
  · split at h
    · simp at h
    · simp only at h
      split at h <;> simp at h
theorem psPut_I {l0 l1 l2 : Int} (hL : LimO l0 l1 l2) {N : Nat} {s : PS} {c : Int} (hI : psI l0 l1 l2 N s) (hc0 : 0 ≤ c) (hc1 : c ≤ 255) : psI l0 l1 l2 (N + 1) (Xf l0 l1 l2 s c).1 := by
  have hI2 := hI
  obtain ⟨h1, h2, h3⟩ := hI2
  unfold Xf
  split
  · exact ⟨⟨h1.1, by simp only; omega⟩, ⟨h2.1, by simp only; omega⟩, fun ho he => (h3 ho he).le (by omega)⟩
  · rename_i hoe
    have ho : s.over = false := by cases h : s.over <;> simp_all
    have he : s.e = 0 := Classical.not_not.1 fun h => hoe (.inr h)
    have hJ := h3 ho he
    have hI' : psI l0 l1 l2 (N + 1) { s with told := s.told + 1 } := ⟨⟨by simp only; omega, by simp only; omega⟩, ⟨h2.1, by simp only; omega⟩, fun _ _ => hJ.le (by omega)⟩
    unfold Xt
    rcases hJ with ⟨hp, hb, hh⟩ | ⟨hp, hb, h, hh, hj⟩ | ⟨hp, h, hh, hf, hb⟩
    · rw [if_pos hp]
      split
      · exact hI'
      · exact psHeads_J hI' hb (hdPut_ok hL (hdJ0 l0 l1 l2))
    · rw [if_neg (by simp only; omega), if_pos hp]
      exact psHeads_J hI' hb (by simp only [hh, Option.getD_some]; exact hdPut_ok hL hj)
    · rw [if_neg (by simp only; omega), if_neg (by simp only; omega)]
      simp only [hh, Option.getD_some]
      unfold psBody
      have hM := hf.2.2
      unfold Xv at hM
      cases hbd : s.bd with
      | no => rw [hbd] at hb; exact hb.elim
      | pl r =>
        rw [hbd] at hb
        obtain ⟨hk, hl, hi, hg⟩ := hb
        refine psEvts_I ⟨by simp only; omega, by simp only; omega⟩ ⟨h2.1, by simp only; omega⟩ hp rfl hf (putR_last hl) (fun hx => ⟨hk, hx, (putR_inv (W := h.W) (H := h.H) (M := h.M) (c := c) hi).zero, putR_good (by omega) hg⟩) (fun hx => putR_e hx hl)
      | rw r =>
        rw [hbd] at hb
        obtain ⟨hk, hl, hbs, hst, hn, hro⟩ := hb
        have hok := putW_ok (K := h.K) (W := h.W.toNat) (H := h.H) (M := h.M) (c := c) hst hbs hc0 hc1 hn hl hro rfl
        obtain ⟨hk1, hk2, hk3, hlast, hk5⟩ := hok
        refine psEvts_I ⟨by simp only; omega, by simp only; omega⟩ ⟨h2.1, by simp only; omega⟩ hp rfl hf hlast (fun hx => ⟨hk, hx, hk2, hk1.trans hst, (hk5 hx).1, (hk5 hx).2⟩) (fun hx => putW_e hx hl)

end Go.Proofs.YtggamdlpiejbiaaGreat
namespace Go.Proofs.YtggamdlpiejbiaaGreat
open Go.RowKit Go.Shelf

theorem pnPut_over (g : Nat) (a b d told imgs e : Int) (stp hp bv : Value) (F1 F2 : HP) (c : Int) : Fn Tryz.prog 17 #[.pointer (some ⟨g, 0, none⟩), .int .u8 c] [QA g [.int .i64 a, .int .i64 b, .int .i64 d, stp, hp, bv, .int .i64 told, .int .i64 imgs, .bool true, .int .i64 e] 123, F1, F2] (fun v l => v = .slice none 0 0 ∧ l = [QA g [.int .i64 a, .int .i64 b, .int .i64 d, stp, hp, bv, .int .i64 told, .int .i64 imgs, .bool true, .int .i64 e] 123, F1, F2]) := by
 refine Qk (vs := [.pointer (some ⟨g, 0, none⟩), .int .u8 c]) Tryz.func17 rfl Tryz.ntmps17 rfl ?_
 refine Qb (Qa (Qe rfl rfl (WpL.nil (Qb (Qb (Qa (Qc rfl rfl (Qq rfl rfl (Qj (o2 := 8) rfl rfl rfl (Qo rfl rfl (by rfl) ?_))))))))))
 refine Qc rfl rfl (Qd rfl rfl rfl (by decide) (Qd rfl rfl rfl (by decide) (Qd rfl rfl rfl (by decide) (Qd rfl rfl rfl (by decide) (Qd rfl rfl rfl (by decide) (Qt rfl rfl rfl (WpL.nil (Xc rfl (Qb (Qa (Qe rfl rfl (WpL.nil ?_))))))))))))
 refine Qi ?_
 apply RetQ.mk
 ·exact (Res.one rfl rfl)
 ·exact ⟨rfl, rfl⟩
 ·exact Ent.refl _

theorem pnEnd_over (g : Nat) (a b d told imgs e : Int) (stp hp bv : Value) (F1 F2 : HP) : Fn Tryz.prog 22 #[.pointer (some ⟨g, 0, none⟩)] [QA g [.int .i64 a, .int .i64 b, .int .i64 d, stp, hp, bv, .int .i64 told, .int .i64 imgs, .bool true, .int .i64 e] 123, F1, F2] (fun v l => v = .slice none 0 0 ∧ l = [QA g [.int .i64 a, .int .i64 b, .int .i64 d, stp, hp, bv, .int .i64 told, .int .i64 imgs, .bool true, .int .i64 e] 123, F1, F2]) := by
 refine Qk (vs := [.pointer (some ⟨g, 0, none⟩)]) Tryz.func22 rfl Tryz.ntmps22 rfl ?_
 refine Qb (Qa (Qe rfl rfl (WpL.nil (Qb (Qb (Qa (Qc rfl rfl (Qq rfl rfl (Qj (o2 := 8) rfl rfl rfl (Qo rfl rfl (by rfl) ?_))))))))))
 refine Qc rfl rfl (Qd rfl rfl rfl (by decide) (Qd rfl rfl rfl (by decide) (Qd rfl rfl rfl (by decide) (Qd rfl rfl rfl (by decide) (Qd rfl rfl rfl (by decide) (Qt rfl rfl rfl (WpL.nil (Xc rfl (Qb (Qa (Qe rfl rfl (WpL.nil ?_))))))))))))
 refine Qi ?_
 apply RetQ.mk
 ·exact (Res.one rfl rfl)
 ·exact ⟨rfl, rfl⟩
 ·exact Ent.refl _

theorem pnPut_bad (g : Nat) (a b d told imgs e : Int) (stp hp bv : Value) (F1 F2 : HP) (c : Int) (he : e ≠ 0) : Fn Tryz.prog 17 #[.pointer (some ⟨g, 0, none⟩), .int .u8 c] [QA g [.int .i64 a, .int .i64 b, .int .i64 d, stp, hp, bv, .int .i64 told, .int .i64 imgs, .bool false, .int .i64 e] 123, F1, F2] (fun v l => v = .slice none 0 0 ∧ l = [QA g [.int .i64 a, .int .i64 b, .int .i64 d, stp, hp, bv, .int .i64 told, .int .i64 imgs, .bool false, .int .i64 e] 123, F1, F2]) := by
 refine Qk (vs := [.pointer (some ⟨g, 0, none⟩), .int .u8 c]) Tryz.func17 rfl Tryz.ntmps17 rfl ?_
 refine Qb (Qa (Qe rfl rfl (WpL.nil (Qb (Qb (Qa (Qc rfl rfl (Qq rfl rfl (Qj (o2 := 8) rfl rfl rfl (Qo rfl rfl (by rfl) ?_))))))))))
 refine Qc rfl rfl (Qf rfl rfl (Qc rfl rfl (Qf rfl rfl (Qq rfl rfl (Qf rfl rfl (Qj (o2 := 9) rfl rfl rfl (Qf rfl rfl (Qo rfl rfl (by rfl) ?_))))))))
 refine Qf rfl rfl (Xn rfl rfl rfl (Qs rfl rfl rfl (WpL.nil (QU rfl he (Qb (Qa (Qe rfl rfl (WpL.nil (Qi ?_)))))))))
 apply RetQ.mk
 ·exact (Res.one rfl rfl)
 ·exact ⟨rfl, rfl⟩
 ·exact Ent.refl _

theorem pnEnd_bad (g : Nat) (a b d told imgs e : Int) (stp hp bv : Value) (F1 F2 : HP) (he : e ≠ 0) : Fn Tryz.prog 22 #[.pointer (some ⟨g, 0, none⟩)] [QA g [.int .i64 a, .int .i64 b, .int .i64 d, stp, hp, bv, .int .i64 told, .int .i64 imgs, .bool false, .int .i64 e] 123, F1, F2] (fun v l => v = .slice none 0 0 ∧ l = [QA g [.int .i64 a, .int .i64 b, .int .i64 d, stp, hp, bv, .int .i64 told, .int .i64 imgs, .bool false, .int .i64 e] 123, F1, F2]) := by
 refine Qk (vs := [.pointer (some ⟨g, 0, none⟩)]) Tryz.func22 rfl Tryz.ntmps22 rfl ?_
 refine Qb (Qa (Qe rfl rfl (WpL.nil (Qb (Qb (Qa (Qc rfl rfl (Qq rfl rfl (Qj (o2 := 8) rfl rfl rfl (Qo rfl rfl (by rfl) ?_))))))))))
 refine Qc rfl rfl (Qf rfl rfl (Qc rfl rfl (Qf rfl rfl (Qq rfl rfl (Qf rfl rfl (Qj (o2 := 9) rfl rfl rfl (Qf rfl rfl (Qo rfl rfl (by rfl) ?_))))))))
 refine Qf rfl rfl (Xn rfl rfl rfl (Qs rfl rfl rfl (WpL.nil (QU rfl he (Qb (Qa (Qe rfl rfl (WpL.nil (Qi ?_)))))))))
 apply RetQ.mk
 ·exact (Res.one rfl rfl)
 ·exact ⟨rfl, rfl⟩
 ·exact Ent.refl _

theorem pnPut_go (g k : Nat) (a b d told imgs : Int) (hp bv : Value) (F1 F2 : HP) (c : Int) (ht : 0 ≤ told ∧ told ≤ 2 ^ 60) [Ent1 Tryz.prog k] (R : Value → List HP → Prop) (hS : Fn Tryz.prog k #[.pointer (some ⟨g, 0, none⟩), .int .u8 c] [QA g [.int .i64 a, .int .i64 b, .int .i64 d, (.func (.func k) #[.pointer (some ⟨g, 0, none⟩)] #[]), hp, bv, .int .i64 (told + 1), .int .i64 imgs, .bool false, .int .i64 0] 123, F1, F2] R) : Fn Tryz.prog 17 #[.pointer (some ⟨g, 0, none⟩), .int .u8 c] [QA g [.int .i64 a, .int .i64 b, .int .i64 d, (.func (.func k) #[.pointer (some ⟨g, 0, none⟩)] #[]), hp, bv, .int .i64 told, .int .i64 imgs, .bool false, .int .i64 0] 123, F1, F2] (R) := by
 refine Qk (vs := [.pointer (some ⟨g, 0, none⟩), .int .u8 c]) Tryz.func17 rfl Tryz.ntmps17 rfl ?_
 refine Qb (Qa (Qe rfl rfl (WpL.nil (Qb (Qb (Qa (Qc rfl rfl (Qq rfl rfl (Qj (o2 := 8) rfl rfl rfl (Qo rfl rfl (by rfl) ?_))))))))))
 refine Qc rfl rfl (Qf rfl rfl (Qc rfl rfl (Qf rfl rfl (Qq rfl rfl (Qf rfl rfl (Qj (o2 := 9) rfl rfl rfl (Qf rfl rfl (Qo rfl rfl (by rfl) ?_))))))))
 refine Qf rfl rfl (Xn rfl rfl rfl (Qs rfl rfl rfl (WpL.nil (Qz rfl (by simp) ?_))))
 refine Wp.skip (Qb (Qa (Qc rfl rfl (Qq rfl rfl (Qj (o2 := 6) rfl rfl rfl (Qo rfl rfl (by rfl) ?_))))))
 refine QD rfl rfl rfl (Qu (by omega) (by omega)) ?_
 refine Qq rfl rfl (Qj (o2 := 6) rfl rfl rfl (Q3 rfl rfl rfl (WpL.nil (Qb (Qa (Qc rfl rfl (Qq rfl rfl (Qj (o2 := 3) rfl rfl rfl (Qo rfl rfl (by rfl) ?_)))))))))
 refine Qc rfl rfl (X3 (u := [.pointer (some ⟨g, 0, none⟩)]) (c := []) rfl rfl rfl rfl (by repeat' constructor) (hS) ?_)
 intro v m hR
 refine Qe rfl rfl (WpL.nil (Qi ?_))
 apply RetQ.mk
 ·exact (Res.one rfl rfl)
 ·exact hR
 ·simp only [List.append_nil]; exact Ent.refl _

theorem pnEnd_pl (g gb : Nat) (a b d told imgs be : Int) (stp hp : Value) (B B' : HP) (out : List Int) (st : Int) (hst : st = 0 ∨ st = 1 ∨ st = 2) (hi : 0 ≤ imgs ∧ imgs ≤ 2 ^ 60) (hErr : Fn Tryz.prog 128 #[.pointer (some ⟨gb, 0, none⟩)] [B'] (fun v l => v = .int .i64 be ∧ l = [B'])) (hEnd : Fn Tryz.prog 62 #[.pointer (some ⟨gb, 0, none⟩)] [B] (fun v l => ∃ a3 c3, v = .tuple #[.slice a3 out.length c3, .int .i64 st] ∧ l = [B', QG 92 1 a3 c3 out.length (Xp out)] ∧ (out = [] → a3 = none))) : Fn Tryz.prog 22 #[.pointer (some ⟨g, 0, none⟩)] [QA g [.int .i64 a, .int .i64 b, .int .i64 d, stp, hp, (.iface 124 (.pointer (some ⟨gb, 0, none⟩))), .int .i64 told, .int .i64 imgs, .bool false, .int .i64 0] 123, B] (fun v l => (st = 2 ∧ l = [QA g [.int .i64 a, .int .i64 b, .int .i64 d, stp, hp, (.iface 124 (.pointer (some ⟨gb, 0, none⟩))), .int .i64 told, .int .i64 imgs, .bool true, .int .i64 be] 123, B', evO v (XC out ++ Xq st)]) ∨ (st = 1 ∧ l = [QA g [.int .i64 a, .int .i64 b, .int .i64 d, (pnV g 0), hp, .nilIface, .int .i64 told, .int .i64 (imgs + 1), .bool true, .int .i64 0] 123, B', evO v (XC out ++ Xq st)]) ∨ (st = 0 ∧ l = [QA g [.int .i64 a, .int .i64 b, .int .i64 d, stp, hp, (.iface 124 (.pointer (some ⟨gb, 0, none⟩))), .int .i64 told, .int .i64 imgs, .bool true, .int .i64 0] 123, B', evO v (XC out ++ Xq st)])) := by
 refine Qk (vs := [.pointer (some ⟨g, 0, none⟩)]) Tryz.func22 rfl Tryz.ntmps22 rfl ?_
 refine Qb (Qa (Qe rfl rfl (WpL.nil (Qb (Qb (Qa (Qc rfl rfl (Qq rfl rfl (Qj (o2 := 8) rfl rfl rfl (Qo rfl rfl (by rfl) ?_))))))))))
 refine Qc rfl rfl (Qf rfl rfl (Qc rfl rfl (Qf rfl rfl (Qq rfl rfl (Qf rfl rfl (Qj (o2 := 9) rfl rfl rfl (Qf rfl rfl (Qo rfl rfl (by rfl) ?_))))))))
 refine Qf rfl rfl (Xn rfl rfl rfl (Qs rfl rfl rfl (WpL.nil (Qz rfl (by simp) ?_))))
 refine Wp.skip (Qb (Qa (Qc rfl rfl (Qq rfl rfl (Qj (o2 := 8) rfl rfl rfl (Q3 rfl rfl rfl (WpL.nil (Qb (Qb (Qa (Qc rfl rfl (Qq rfl rfl ?_))))))))))))
 refine Qj (o2 := 5) rfl rfl rfl (Qo rfl rfl (by rfl) ?_)
 refine s_taT rfl Tryz.underlying124 rfl (Qc rfl rfl (QH rfl rfl rfl (QH rfl rfl rfl (Qe rfl rfl (Qe rfl rfl (WpL.nil (Qb (Qa (Qc rfl rfl (WpL.nil (Xc rfl (Qb ?_))))))))))))
 refine Qa (Qc rfl rfl (Qc rfl rfl (Qh rfl rfl (by repeat' constructor) (hEnd) ?_)))
 rintro _ _ ⟨a3, c3, rfl, rfl, hnl⟩
 simp only [Qr]
 refine QH rfl rfl rfl (QH rfl rfl rfl (Qh rfl rfl (by repeat' constructor) (pnEvents_spec g gb 124 128 a b d told imgs 0 be true stp hp B' hErr out a3 c3 hnl st hst hi) ?_))
 intro v0 m0 hN0
 rcases hN0 with ⟨hs, rfl⟩ | ⟨hs, rfl⟩ | ⟨hs, rfl⟩
 ·simp only [Qr]
  refine Qe rfl rfl (WpL.nil (Qi ?_))
  apply RetQ.mk
  ·exact (Res.one rfl rfl)
  ·exact .inl ⟨hs, rfl⟩
  ·exact Ent.refl _
 ·simp only [Qr]
  refine Qe rfl rfl (WpL.nil (Qi ?_))
  apply RetQ.mk
  ·exact (Res.one rfl rfl)
  ·exact .inr (.inl ⟨hs, rfl⟩)
  ·exact Ent.refl _
 ·simp only [Qr]
  refine Qe rfl rfl (WpL.nil (Qi ?_))
  apply RetQ.mk
  ·exact (Res.one rfl rfl)
  ·exact .inr (.inr ⟨hs, rfl⟩)
  ·exact Ent.refl _

theorem pnEnd_rw (g gb : Nat) (a b d told imgs : Int) (stp hp : Value) (F1 F2 : HP) : Fn Tryz.prog 22 #[.pointer (some ⟨g, 0, none⟩)] [QA g [.int .i64 a, .int .i64 b, .int .i64 d, stp, hp, (.iface 193 (.pointer (some ⟨gb, 0, none⟩))), .int .i64 told, .int .i64 imgs, .bool false, .int .i64 0] 123, F1, F2] (fun v l => v = .slice none 0 0 ∧ l = [QA g [.int .i64 a, .int .i64 b, .int .i64 d, stp, hp, (.iface 193 (.pointer (some ⟨gb, 0, none⟩))), .int .i64 told, .int .i64 imgs, .bool true, .int .i64 6] 123, F1, F2]) := by
 refine Qk (vs := [.pointer (some ⟨g, 0, none⟩)]) Tryz.func22 rfl Tryz.ntmps22 rfl ?_
 refine Qb (Qa (Qe rfl rfl (WpL.nil (Qb (Qb (Qa (Qc rfl rfl (Qq rfl rfl (Qj (o2 := 8) rfl rfl rfl (Qo rfl rfl (by rfl) ?_))))))))))
 refine Qc rfl rfl (Qf rfl rfl (Qc rfl rfl (Qf rfl rfl (Qq rfl rfl (Qf rfl rfl (Qj (o2 := 9) rfl rfl rfl (Qf rfl rfl (Qo rfl rfl (by rfl) ?_))))))))
 refine Qf rfl rfl (Xn rfl rfl rfl (Qs rfl rfl rfl (WpL.nil (Qz rfl (by simp) ?_))))
 refine Wp.skip (Qb (Qa (Qc rfl rfl (Qq rfl rfl (Qj (o2 := 8) rfl rfl rfl (Q3 rfl rfl rfl (WpL.nil (Qb (Qb (Qa (Qc rfl rfl (Qq rfl rfl ?_))))))))))))
 refine Qj (o2 := 5) rfl rfl rfl (Qo rfl rfl (by rfl) ?_)
 refine s_taF rfl Tryz.underlying124 (fun _ => by kernel_rfl) rfl (by decide) ?_
 refine Qc rfl rfl (QH rfl rfl rfl (QH rfl rfl rfl (Qe rfl rfl (Qe rfl rfl (WpL.nil (Qb (Qa (Qc rfl rfl (WpL.nil (QZ rfl (Wp.skip (Qb ?_))))))))))))
 refine Qb (Qa (Qc rfl rfl (Qq rfl rfl (Qj (o2 := 5) rfl rfl rfl (Qo rfl rfl (by rfl) ?_)))))
 refine s_ifneV rfl Tryz.underlying121 rfl (Qc rfl rfl (Qd rfl rfl rfl (by decide) (Qd rfl rfl rfl (by decide) (Qd rfl rfl rfl (by decide) (Qd rfl rfl rfl (by decide) (Qd rfl rfl rfl (by decide) (Qd rfl rfl rfl (by decide) (Xb rfl rfl rfl (Xb rfl rfl rfl (Qd rfl rfl rfl (by decide) (Qt rfl rfl rfl (WpL.nil ?_))))))))))))
 refine Xc rfl (Qa (Qc rfl rfl (Qh rfl rfl (by repeat' constructor) (Y4 g a b d told imgs 0 true stp hp (.iface 193 (.pointer (some ⟨gb, 0, none⟩))) 6) ?_)))
 rintro _ _ ⟨rfl, rfl⟩
 simp only [Qr]
 refine WpL.nil (Qb (Qa (Qe rfl rfl (WpL.nil (Qi ?_)))))
 apply RetQ.mk
 ·exact (Res.one rfl rfl)
 ·exact ⟨rfl, rfl⟩
 ·exact Ent.refl _

theorem pnEnd_no (g : Nat) (a b d told imgs : Int) (stp : Value) : Fn Tryz.prog 22 #[.pointer (some ⟨g, 0, none⟩)] [QA g [.int .i64 a, .int .i64 b, .int .i64 d, stp, (.pointer none), .nilIface, .int .i64 told, .int .i64 imgs, .bool false, .int .i64 0] 123] (fun v l => v = .slice none 0 0 ∧ l = [QA g [.int .i64 a, .int .i64 b, .int .i64 d, stp, (.pointer none), .nilIface, .int .i64 told, .int .i64 imgs, .bool true, .int .i64 0] 123]) := by
 refine Qk (vs := [.pointer (some ⟨g, 0, none⟩)]) Tryz.func22 rfl Tryz.ntmps22 rfl ?_
 refine Qb (Qa (Qe rfl rfl (WpL.nil (Qb (Qb (Qa (Qc rfl rfl (Qq rfl rfl (Qj (o2 := 8) rfl rfl rfl (Qo rfl rfl (by rfl) ?_))))))))))
 refine Qc rfl rfl (Qf rfl rfl (Qc rfl rfl (Qf rfl rfl (Qq rfl rfl (Qf rfl rfl (Qj (o2 := 9) rfl rfl rfl (Qf rfl rfl (Qo rfl rfl (by rfl) ?_))))))))
 refine Qf rfl rfl (Xn rfl rfl rfl (Qs rfl rfl rfl (WpL.nil (Qz rfl (by simp) ?_))))
 refine Wp.skip (Qb (Qa (Qc rfl rfl (Qq rfl rfl (Qj (o2 := 8) rfl rfl rfl (Q3 rfl rfl rfl (WpL.nil (Qb (Qb (Qa (Qc rfl rfl (Qq rfl rfl ?_))))))))))))
 refine Qj (o2 := 5) rfl rfl rfl (Qo rfl rfl (by rfl) ?_)
 refine s_taN rfl Tryz.underlying124 (fun _ => by kernel_rfl) rfl ?_
 refine Qc rfl rfl (QH rfl rfl rfl (QH rfl rfl rfl (Qe rfl rfl (Qe rfl rfl (WpL.nil (Qb (Qa (Qc rfl rfl (WpL.nil (QZ rfl (Wp.skip (Qb ?_))))))))))))
 refine Qb (Qa (Qc rfl rfl (Qq rfl rfl (Qj (o2 := 5) rfl rfl rfl (Qo rfl rfl (by rfl) ?_)))))
 refine s_ifneN rfl Tryz.underlying121 rfl (Qc rfl rfl (Qf rfl rfl (Qc rfl rfl (Qf rfl rfl (Qq rfl rfl (Qf rfl rfl (Qj (o2 := 4) rfl rfl rfl (Qf rfl rfl (Qo rfl rfl (by rfl) ?_)))))))))
 refine Qf rfl rfl (s_pne rfl Tryz.underlying119 rfl rfl (Qf rfl rfl (Qc rfl rfl (Qy (dj := 45) rfl rfl ?_))))
 refine Qd rfl rfl rfl (by decide) (Qd rfl rfl rfl (by decide) (Qf rfl rfl (Qs rfl rfl rfl (Qs rfl rfl rfl (WpL.nil (QZ rfl (Wp.skip (Qb (Qa (Qe rfl rfl (WpL.nil (Qi ?_))))))))))))
 apply RetQ.mk
 ·exact (Res.one rfl rfl)
 ·exact ⟨rfl, rfl⟩
 ·exact Ent.refl _

theorem pnEnd_hd (g gh : Nat) (a b d told imgs l0 l1 l2 : Int) (stp : Value) (h : HS) : Fn Tryz.prog 22 #[.pointer (some ⟨g, 0, none⟩)] [QA g [.int .i64 a, .int .i64 b, .int .i64 d, stp, (.pointer (some ⟨gh, 0, none⟩)), .nilIface, .int .i64 told, .int .i64 imgs, .bool false, .int .i64 0] 123, hdR gh l0 l1 l2 h] (fun v l => v = .slice none 0 0 ∧ l = [QA g [.int .i64 a, .int .i64 b, .int .i64 d, stp, (.pointer (some ⟨gh, 0, none⟩)), .nilIface, .int .i64 told, .int .i64 imgs, .bool true, .int .i64 (if h.e = 9 then 6 else 0)] 123, hdR gh l0 l1 l2 h]) := by
 refine Qk (vs := [.pointer (some ⟨g, 0, none⟩)]) Tryz.func22 rfl Tryz.ntmps22 rfl ?_
 refine Qb (Qa (Qe rfl rfl (WpL.nil (Qb (Qb (Qa (Qc rfl rfl (Qq rfl rfl (Qj (o2 := 8) rfl rfl rfl (Qo rfl rfl (by rfl) ?_))))))))))
 refine Qc rfl rfl (Qf rfl rfl (Qc rfl rfl (Qf rfl rfl (Qq rfl rfl (Qf rfl rfl (Qj (o2 := 9) rfl rfl rfl (Qf rfl rfl (Qo rfl rfl (by rfl) ?_))))))))
 refine Qf rfl rfl (Xn rfl rfl rfl (Qs rfl rfl rfl (WpL.nil (Qz rfl (by simp) ?_))))
 refine Wp.skip (Qb (Qa (Qc rfl rfl (Qq rfl rfl (Qj (o2 := 8) rfl rfl rfl (Q3 rfl rfl rfl (WpL.nil (Qb (Qb (Qa (Qc rfl rfl (Qq rfl rfl ?_))))))))))))
 refine Qj (o2 := 5) rfl rfl rfl (Qo rfl rfl (by rfl) ?_)
 refine s_taN rfl Tryz.underlying124 (fun _ => by kernel_rfl) rfl ?_
 refine Qc rfl rfl (QH rfl rfl rfl (QH rfl rfl rfl (Qe rfl rfl (Qe rfl rfl (WpL.nil (Qb (Qa (Qc rfl rfl (WpL.nil (QZ rfl (Wp.skip (Qb ?_))))))))))))
 refine Qb (Qa (Qc rfl rfl (Qq rfl rfl (Qj (o2 := 5) rfl rfl rfl (Qo rfl rfl (by rfl) ?_)))))
 refine s_ifneN rfl Tryz.underlying121 rfl (Qc rfl rfl (Qf rfl rfl (Qc rfl rfl (Qf rfl rfl (Qq rfl rfl (Qf rfl rfl (Qj (o2 := 4) rfl rfl rfl (Qf rfl rfl (Qo rfl rfl (by rfl) ?_)))))))))
 refine Qf rfl rfl (s_pne rfl Tryz.underlying119 rfl rfl (Qf rfl rfl (Qc rfl rfl (Qx (dj := 45) rfl rfl ?_))))
 refine Qf rfl rfl (Qc rfl rfl (Qf rfl rfl (Qh rfl rfl (by repeat' constructor) (pnInside_spec g gh a b d told imgs 0 l0 l1 l2 true stp .nilIface h) ?_)))
 rintro _ _ ⟨rfl, rfl⟩
 simp only [Qr]
 refine Qf rfl rfl (Qt rfl rfl rfl (Qs rfl rfl rfl (WpL.nil (Ql rfl (fun h2 => ?_) (fun h2 => ?_)))))
 ·refine Qa (Qc rfl rfl (Qh rfl rfl (by repeat' constructor) (Y4 g a b d told imgs 0 true stp (.pointer (some ⟨gh, 0, none⟩)) .nilIface 6) ?_))
  rintro _ _ ⟨rfl, rfl⟩
  simp only [Qr]
  refine WpL.nil (Qb (Qa (Qe rfl rfl (WpL.nil (Qi ?_)))))
  apply RetQ.mk
  ·exact (Res.one rfl rfl)
  ·exact ⟨rfl, by rw [if_pos h2]⟩
  ·exact Ent.refl _
 ·refine Wp.skip (Qb (Qa (Qe rfl rfl (WpL.nil (Qi ?_)))))
  apply RetQ.mk
  ·exact (Res.one rfl rfl)
  ·exact ⟨rfl, by rw [if_neg h2]⟩
  ·exact Ent.refl _

theorem pnImages_open (g : Nat) (a b d told imgs e : Int) (over : Bool) (stp hp bv : Value) (F1 F2 : HP) : Fn Tryz.prog 24 #[.pointer (some ⟨g, 0, none⟩)] [QA g [.int .i64 a, .int .i64 b, .int .i64 d, stp, hp, bv, .int .i64 told, .int .i64 imgs, .bool over, .int .i64 e] 123, F1, F2] (fun v l => v = .int .i64 imgs ∧ l = [QA g [.int .i64 a, .int .i64 b, .int .i64 d, stp, hp, bv, .int .i64 told, .int .i64 imgs, .bool over, .int .i64 e] 123, F1, F2]) := by
 refine Qk (vs := [.pointer (some ⟨g, 0, none⟩)]) Tryz.func24 rfl Tryz.ntmps24 rfl ?_
 refine Qb (Qa (Qe rfl rfl (WpL.nil (Qb (Qa (Qc rfl rfl (Qq rfl rfl (Qj (o2 := 7) rfl rfl rfl (Qo rfl rfl (by rfl) ?_)))))))))
 refine Qe rfl rfl (WpL.nil (Qi ?_))
 apply RetQ.mk
 ·exact (Res.one rfl rfl)
 ·exact ⟨rfl, rfl⟩
 ·exact Ent.refl _

theorem pnError_open (g : Nat) (a b d told imgs e : Int) (over : Bool) (stp hp bv : Value) (F1 F2 : HP) : Fn Tryz.prog 18 #[.pointer (some ⟨g, 0, none⟩)] [QA g [.int .i64 a, .int .i64 b, .int .i64 d, stp, hp, bv, .int .i64 told, .int .i64 imgs, .bool over, .int .i64 e] 123, F1, F2] (fun v l => v = .tuple #[.int .i64 (if e = 0 then 0 else e), .int .i64 (if e = 0 then 0 else told)] ∧ l = [QA g [.int .i64 a, .int .i64 b, .int .i64 d, stp, hp, bv, .int .i64 told, .int .i64 imgs, .bool over, .int .i64 e] 123, F1, F2]) := by
 refine Qk (vs := [.pointer (some ⟨g, 0, none⟩)]) Tryz.func18 rfl Tryz.ntmps18 rfl ?_
 refine Qb (Qa (Qe rfl rfl (Qe rfl rfl (WpL.nil (Qb (Qb (Qa (Qc rfl rfl (Qq rfl rfl (Qj (o2 := 9) rfl rfl rfl (Qo rfl rfl (by rfl) ?_)))))))))))
 refine QN rfl rfl rfl (WpL.nil (Ql rfl (fun h0 => ?_) (fun h0 => ?_)))
 ·refine Qb (Qa (Qe rfl rfl (Qe rfl rfl (WpL.nil (Qi ?_)))))
  apply RetQ.mk
  ·exact (QB rfl rfl rfl)
  ·exact ⟨by rw [if_pos h0, if_pos h0], rfl⟩
  ·exact Ent.refl _
 ·refine Wp.skip (Qb ?_)
  apply Q0 mixed [⟨9, _, []⟩, ⟨10, _, [0]⟩, ⟨11, _, [1]⟩, ⟨12, _, [2]⟩, ⟨13, _, []⟩, ⟨14, _, [4]⟩, ⟨15, _, [5]⟩, ⟨16, _, [6]⟩, ⟨2, _, [3, 0, 1, 2]⟩, ⟨3, _, [7, 8, 0, 1, 2, 3, 4, 5, 6]⟩] rfl
  ·refine AllObs.mk ?_ ?_
   ·exact Qc rfl rfl (Qm rfl)
   refine AllObs.mk ?_ ?_
   ·exact Qq rfl rfl (Qm rfl)
   refine AllObs.mk ?_ ?_
   ·exact Qj (o2 := 9) rfl rfl rfl (Qm rfl)
   refine AllObs.mk ?_ ?_
   ·refine Qo rfl rfl (by rfl) ?_
    exact Qm rfl
   refine AllObs.mk ?_ ?_
   ·exact Qc rfl rfl (Qm rfl)
   refine AllObs.mk ?_ ?_
   ·exact Qq rfl rfl (Qm rfl)
   refine AllObs.mk ?_ ?_
   ·exact Qj (o2 := 6) rfl rfl rfl (Qm rfl)
   refine AllObs.mk ?_ ?_
   ·refine Qo rfl rfl (by rfl) ?_
    exact Qm rfl
   refine AllObs.mk ?_ ?_
   ·exact Qe rfl rfl (Qm rfl)
   refine AllObs.mk ?_ ?_
   ·exact Qe rfl rfl (Qm rfl)
   exact AllObs.nil
  ·refine Qi ?_
   apply RetQ.mk
   ·exact (QB rfl rfl rfl)
   ·exact ⟨by rw [if_neg h0, if_neg h0], rfl⟩
   ·exact Ent.refl _

theorem pnNew_spec (a b d : Int) : Fn Tryz.prog 16 #[.agg #[.int .i64 a, .int .i64 b, .int .i64 d]] [] (fun v l => ∃ g, v = .pointer (some ⟨g, 0, none⟩) ∧ l = [psR g a b d ps0]) := by
 refine Qk (vs := [.agg #[.int .i64 a, .int .i64 b, .int .i64 d]]) Tryz.func16 rfl Tryz.ntmps16 rfl (Qb (Qa (Q9 rfl rfl rfl ?_)))
 intro g1
 refine Qe rfl rfl (WpL.nil (Qb (Qa ?_)))
 refine QI (vs := [_, _, _]) rfl rfl rfl (by rfl) ?_
 refine YI rfl rfl ?_
 refine Q9 rfl rfl rfl ?_
 intro g2
 refine Qe rfl rfl (WpL.nil (Qb (Qa (Qc rfl rfl (Qc rfl rfl (ZV rfl rfl rfl (Qq rfl rfl (Qj (o2 := 3) rfl rfl rfl (Q3 rfl rfl rfl (WpL.nil (Qb (Qa ?_))))))))))))
 refine Qc rfl rfl (Qe rfl rfl (WpL.nil (Qi ?_)))
 apply RetQ.mk
 ·exact (Res.one rfl rfl)
 ·exact ⟨g2, rfl, rfl⟩
 ·refine Ent.trans (Take.ent' (pre := [QA g2 [.int .i64 a, .int .i64 b, .int .i64 d, (pnV g2 0), (.pointer none), .nilIface, .int .i64 0, .int .i64 0, .bool false, .int .i64 0] 123]) (by repeat' constructor)) (Ent.trans (Ent.cons (?_ : Ent [] [hdO (QP a) (QR b) (QS d) (.pointer none) none, bdR .nilIface hd0 .no])) (XY (hd := none) (bd := .no)))
  exact Ent.pur rfl bdR_no

theorem hdAll_spec  : Fn Tryz.prog 21 #[] [] (fun v l => v = .agg #[.int .i64 4096, .int .i64 65536, .int .i64 65535] ∧ l = []) := by
 refine Qk (vs := []) Tryz.func21 rfl Tryz.ntmps21 rfl (Qb (Qa (YE rfl ?_)))
 intro g1
 refine WpL.nil (Qb (Qa ?_))
 refine YI rfl rfl ?_
 refine XL rfl rfl rfl (by rfl) rfl ?_
 refine WpL.nil (Qi ?_)
 apply RetQ.mk
 ·exact (XO rfl rfl (by rfl))
 ·exact ⟨rfl, rfl⟩
 ·exact Ent.nil _

end Go.Proofs.YtggamdlpiejbiaaGreat
namespace Go.Proofs.YtggamdlpiejbiaaGreat
open Go.RowKit Go.Shelf


theorem pnHeads_1 (g : Nat) (a b d told imgs e : Int) (over : Bool) (hp bv : Value) (h : HS) (c : Int) (hc0 : 0 ≤ c) (hc1 : c ≤ 255) (hj : hdJ (QP a) (QR b) (QS d) h) :
    Fn Tryz.prog 113 #[.pointer (some ⟨g, 0, none⟩), .int .u8 c] [QA g [.int .i64 a, .int .i64 b, .int .i64 d, (pnV g 1), hp, bv, .int .i64 told, .int .i64 imgs, .bool over, .int .i64 e] 123, hdO (QP a) (QR b) (QS d) hp (some h), bdR bv h .no] (fun v l => l = [psR g a b d (Xt (QP a) (QR b) (QS d) ⟨(some h), 1, .no, told, imgs, over, e⟩ c).1, evO v (Xt (QP a) (QR b) (QS d) ⟨(some h), 1, .no, told, imgs, over, e⟩ c).2]) := by
  have e0 : Xt (QP a) (QR b) (QS d) ⟨(some h), 1, .no, told, imgs, over, e⟩ c = Q8 ⟨(some h), 1, .no, told, imgs, over, e⟩ (Q1 (QP a) (QR b) (QS d) h c) := (if_neg (show ¬ (1 : Int) = 0 by decide)).trans (if_pos rfl)
  rw [e0]
  refine (Fn.pur (p := bv = .nilIface) (F := [hdO (QP a) (QR b) (QS d) hp (some h), QA g [.int .i64 a, .int .i64 b, .int .i64 d, (pnV g 1), hp, bv, .int .i64 told, .int .i64 imgs, .bool over, .int .i64 e] 123]) fun hbv => ?_).pre (Take.ent' (pre := [bdR bv h .no, _, _]) (by repeat' constructor))
  subst hbv
  refine Fn.exs (F := [_]) fun gh => ?_
  refine Fn.pur (F := [hdR gh (QP a) (QR b) (QS d) h, _]) fun hhp => ?_
  subst hhp
  exact (pnHeads_cl g gh a b d told imgs e over h (some h) c hc0 hc1 hj).pre Ent.swap


theorem psPut_rep (g : Nat) (a b d : Int) (s : PS) (N : Nat) (hN : N ≤ 1000000000) (hI : psI (QP a) (QR b) (QS d) N s) (c : Int) (hc0 : 0 ≤ c) (hc1 : c ≤ 255) : Fn Tryz.prog 17 #[.pointer (some ⟨g, 0, none⟩), .int .u8 c] [psR g a b d s] (fun v l => l = [psR g a b d (Xf (QP a) (QR b) (QS d) s c).1, evO v (Xf (QP a) (QR b) (QS d) s c).2]) := by
  obtain ⟨hd, ph, bd, told, imgs, over, e⟩ := s
  refine Fn.exs fun ⟨hp, bv⟩ => ?_
  obtain ⟨⟨ht0, ht1⟩, ⟨hi0, hi1⟩, hJ⟩ := hI
  dsimp only at ht0 ht1 hi0 hi1 hJ
  by_cases ho : over = true
  · subst ho
    rw [show Xf (QP a) (QR b) (QS d) ⟨hd, ph, bd, told, imgs, true, e⟩ c = (⟨hd, ph, bd, told, imgs, true, e⟩, []) from if_pos (.inl rfl)]
    refine (pnPut_over g a b d told imgs e (pnV g ph) hp bv (hdO (QP a) (QR b) (QS d) hp hd) (bdR bv (hd.getD hd0) bd) c).mono ?_
    rintro v l ⟨rfl, rfl⟩
    exact ⟨_, rfl, (Ent.cons (Ent.cons (Ent.cons evO_0))).trans XY⟩
  obtain rfl : over = false := by cases over <;> simp_all
  by_cases he : e = 0
  rotate_left
  · rw [show Xf (QP a) (QR b) (QS d) ⟨hd, ph, bd, told, imgs, false, e⟩ c = (⟨hd, ph, bd, told, imgs, false, e⟩, []) from if_pos (.inr he)]
    refine (pnPut_bad g a b d told imgs e (pnV g ph) hp bv (hdO (QP a) (QR b) (QS d) hp hd) (bdR bv (hd.getD hd0) bd) c he).mono ?_
    rintro v l ⟨rfl, rfl⟩
    exact ⟨_, rfl, (Ent.cons (Ent.cons (Ent.cons evO_0))).trans XY⟩
  subst he
  rw [show Xf (QP a) (QR b) (QS d) ⟨hd, ph, bd, told, imgs, false, 0⟩ c = Xt (QP a) (QR b) (QS d) ⟨hd, ph, bd, told + 1, imgs, false, 0⟩ c from if_neg (by simp)]
  rcases hJ rfl rfl with ⟨hp0, hb, _⟩ | ⟨hp1, hb, h, hh, hj⟩ | ⟨hp2, h, hh, hf, hb⟩ <;> dsimp only at *
  · subst hp0 hb
    exact pnPut_go g 60 a b d told imgs hp bv _ _ c ⟨ht0, by omega⟩ _ (pnAhead_cl g a b d (told + 1) imgs 0 false hp bv hd c hc0 hc1)
  · subst hp1 hb hh
    exact pnPut_go g 113 a b d told imgs hp bv _ _ c ⟨ht0, by omega⟩ _ (pnHeads_1 g a b d (told + 1) imgs 0 false hp bv h c hc0 hc1 hj)
  · subst hp2 hh
    have hM := hf.2.2
    cases bd with
    | no => exact hb.elim
    | pl r =>
      obtain ⟨hk, hl, hi, hg⟩ := hb
      obtain ⟨i1, i2, i3, i4⟩ := hi
      have hch := chK_pos h.K
      exact pnPut_go g 163 a b d told imgs hp bv _ _ c ⟨ht0, by omega⟩ _ (pnBody_pl g a b d (told + 1) imgs 0 false hp bv h r ⟨hi0, by omega⟩ c hc0 hc1 hM hl (by omega) (by omega) ⟨i3, by omega⟩)
    | rw r =>
      obtain ⟨hk, hl, hbs, hst, hn, hro⟩ := hb
      exact pnPut_go g 163 a b d told imgs hp bv _ _ c ⟨ht0, by omega⟩ _ (pnBody_rw g a b d (told + 1) imgs 0 false hp bv h r ⟨hi0, by omega⟩ c hc0 hc1 hM hk hl hbs hst hn hro)


theorem endR_last3 {K W H : Int} {s : RS} (hl : s.last = 0) : (Yd K W H s).1.last = 0 ∨ (Yd K W H s).1.last = 1 ∨ (Yd K W H s).1.last = 2 := by
  have hk := (endsR_keep (QW K) s).2.1
  unfold Yd
  rw [if_neg (by omega)]
  split
  · exact .inr (.inr rfl)
  · rename_i h
    right; left
    revert h
    unfold XB
    split
    · intro h; exact absurd (hk.trans hl) h
    · simp only
      split
      · intro _; rfl
      · intro h; exact absurd (hk.trans hl) h
theorem psEnd_rep (g : Nat) (a b d : Int) (s : PS) (N : Nat) (hN : N ≤ 1000000000) (hI : psI (QP a) (QR b) (QS d) N s) : Fn Tryz.prog 22 #[.pointer (some ⟨g, 0, none⟩)] [psR g a b d s] (fun v l => l = [psR g a b d (XV s).1, evO v (XV s).2]) := by
  obtain ⟨hd, ph, bd, told, imgs, over, e⟩ := s
  refine Fn.exs fun ⟨hp, bv⟩ => ?_
  obtain ⟨⟨ht0, ht1⟩, ⟨hi0, hi1⟩, hJ⟩ := hI
  dsimp only at ht0 ht1 hi0 hi1 hJ
  by_cases ho : over = true
  · subst ho
    rw [show XV ⟨hd, ph, bd, told, imgs, true, e⟩ = (⟨hd, ph, bd, told, imgs, true, e⟩, []) from if_pos (.inl rfl)]
    refine (pnEnd_over g a b d told imgs e (pnV g ph) hp bv (hdO (QP a) (QR b) (QS d) hp hd) (bdR bv (hd.getD hd0) bd)).mono ?_
    rintro v l ⟨rfl, rfl⟩
    exact ⟨_, rfl, (Ent.cons (Ent.cons (Ent.cons evO_0))).trans XY⟩
  obtain rfl : over = false := by cases over <;> simp_all
  by_cases he : e = 0
  rotate_left
  · rw [show XV ⟨hd, ph, bd, told, imgs, false, e⟩ = (⟨hd, ph, bd, told, imgs, false, e⟩, []) from if_pos (.inr he)]
    refine (pnEnd_bad g a b d told imgs e (pnV g ph) hp bv (hdO (QP a) (QR b) (QS d) hp hd) (bdR bv (hd.getD hd0) bd) he).mono ?_
    rintro v l ⟨rfl, rfl⟩
    exact ⟨_, rfl, (Ent.cons (Ent.cons (Ent.cons evO_0))).trans XY⟩
  subst he
  have hbd : (bd = .no) ∨ (∃ h, hd = some h ∧ YC h ∧ bdI N h bd) := by
    rcases hJ rfl rfl with ⟨_, hb, _⟩ | ⟨_, hb, _⟩ | ⟨_, h, hh, hf, hb⟩
    · exact .inl hb
    · exact .inl hb
    · exact .inr ⟨h, hh, hf, hb⟩
  rcases hbd with rfl | ⟨h, rfl, hf, hb⟩
  · refine (Fn.pur (p := bv = .nilIface) (F := [hdO (QP a) (QR b) (QS d) hp hd, QA g [.int .i64 a, .int .i64 b, .int .i64 d, (pnV g ph), hp, bv, .int .i64 told, .int .i64 imgs, .bool false, .int .i64 0] 123]) fun hbv => ?_).pre (Take.ent' (pre := [bdR bv (hd.getD hd0) .no, _, _]) (by repeat' constructor))
    subst hbv
    cases hd with
    | none =>
      refine Fn.pur (F := [_]) fun hhp => ?_
      subst hhp
      have e0 : XV ⟨none, ph, .no, told, imgs, false, 0⟩ = (⟨none, ph, .no, told, imgs, true, 0⟩, []) := (if_neg (by simp)).trans (if_neg (by simp))
      rw [e0]
      refine (pnEnd_no g a b d told imgs (pnV g ph)).mono ?_
      rintro v l ⟨rfl, rfl⟩
      exact ⟨_, rfl, (Ent.cons (Ent.pur rfl (bdR_no.trans (Ent.cons evO_0)))).trans (XY (hd := none) (bd := .no))⟩
    | some h =>
      refine Fn.exs (F := [_]) fun gh => ?_
      refine Fn.pur (F := [hdR gh (QP a) (QR b) (QS d) h, _]) fun hhp => ?_
      subst hhp
      have e0 : XV ⟨some h, ph, .no, told, imgs, false, 0⟩ = (⟨some h, ph, .no, told, imgs, true, if h.e = 9 then 6 else 0⟩, []) := by
        refine (if_neg (by simp)).trans ?_
        by_cases h9 : h.e = 9
        · exact (if_pos ⟨rfl, h9⟩).trans (by rw [if_pos h9])
        · exact (if_neg (fun q => h9 q.2)).trans (by rw [if_neg h9])
      rw [e0]
      refine ((pnEnd_hd g gh a b d told imgs _ _ _ (pnV g ph) h).mono ?_).pre Ent.swap
      rintro v l ⟨rfl, rfl⟩
      exact ⟨_, rfl, (Ent.cons (hdO_cl.trans (Ent.cons (bdR_no.trans (Ent.cons evO_0))))).trans XY⟩
  · have hM := hf.2.2
    have hM2 := hM
    unfold Xv at hM2
    cases bd with
    | no => exact hb.elim
    | pl r =>
      obtain ⟨hk, hl, hi, hg⟩ := hb
      obtain ⟨i1, i2, i3, i4⟩ := hi
      have hch := chK_pos h.K
      have e0 : XV ⟨some h, ph, .pl r, told, imgs, false, 0⟩ = Xm ⟨some h, ph, .pl r, told, imgs, true, 0⟩ (.pl (Yd h.K h.W h.H r).1) (Yd h.K h.W h.H r).1.last (Yd h.K h.W h.H r).1.e (Yd h.K h.W h.H r).2 := if_neg (by simp)
      rw [e0]
      refine (Fn.exs (F := [QA g [.int .i64 a, .int .i64 b, .int .i64 d, (pnV g ph), hp, bv, .int .i64 told, .int .i64 imgs, .bool false, .int .i64 0] 123, hdO (QP a) (QR b) (QS d) hp (some h)]) fun gb => ?_).pre (Take.ent' (pre := [bdR bv h (.pl r), _, _]) (by repeat' constructor))
      refine Fn.pur (F := [plR gb h.K h.W h.H h.M r, _, _]) fun hbv => ?_
      subst hbv
      refine Fn.pre (pre := [QA g [.int .i64 a, .int .i64 b, .int .i64 d, (pnV g ph), hp, (.iface 124 (.pointer (some ⟨gb, 0, none⟩))), .int .i64 told, .int .i64 imgs, .bool false, .int .i64 0] 123, plR gb h.K h.W h.H h.M r] ++ [hdO (QP a) (QR b) (QS d) hp (some h)]) ?_ (Take.ent' (by repeat' constructor))
      have hst : (Yd h.K h.W h.H r).1.last = 0 ∨ (Yd h.K h.W h.H r).1.last = 1 ∨ (Yd h.K h.W h.H r).1.last = 2 := endR_last3 hl
      have hEnd : Fn Tryz.prog 62 #[.pointer (some ⟨gb, 0, none⟩)] [plR gb h.K h.W h.H h.M r] (fun v l => ∃ a3 c3, v = .tuple #[.slice a3 (Yd h.K h.W h.H r).2.length c3, .int .i64 (Yd h.K h.W h.H r).1.last] ∧ l = [plR gb h.K h.W h.H h.M (Yd h.K h.W h.H r).1, QG 92 1 a3 c3 (Yd h.K h.W h.H r).2.length (Xp (Yd h.K h.W h.H r).2)] ∧ ((Yd h.K h.W h.H r).2 = [] → a3 = none)) := by
        refine (plEnd_rep gb h.K h.W h.H h.M r (by omega) (by omega) (by omega) i3 (by omega)).mono ?_
        rintro v l ⟨s', out, a3, c3, hs, rfl, rfl, hnl⟩
        rw [← hs]
        exact ⟨_, ⟨a3, c3, rfl, rfl, hnl (by omega)⟩, Ent.refl _⟩
      generalize hq : (Yd h.K h.W h.H r) = q at hst hEnd ⊢
      obtain ⟨s', out⟩ := q
      dsimp only at hst hEnd ⊢
      have hB := pnEnd_pl g gb a b d told imgs s'.e (pnV g ph) hp (plR gb h.K h.W h.H h.M r) (plR gb h.K h.W h.H h.M s') out s'.last hst ⟨hi0, by omega⟩ (plError_rep gb h.K h.W h.H h.M s') hEnd
      refine (Fn.frame (F := [hdO (QP a) (QR b) (QS d) hp (some h)]) hB).mono ?_
      rintro v l ⟨l0, hl0, rfl⟩
      rcases hl0 with ⟨h0, rfl⟩ | ⟨h0, rfl⟩ | ⟨h0, rfl⟩
      · refine ⟨_, rfl, ?_⟩
        rw [show Xm ⟨some h, ph, .pl r, told, imgs, true, 0⟩ (.pl s') s'.last s'.e out = (_, XC out ++ Xq s'.last) from congrArg (·, XC out ++ Xq s'.last) (if_pos h0)]
        exact (Take.ent' (pre := [_, hdO (QP a) (QR b) (QS d) hp (some h), _, _]) (by repeat' constructor)).trans ((Ent.cons (Ent.cons (bdR_pl))).trans XY)
      · refine ⟨_, rfl, ?_⟩
        rw [show Xm ⟨some h, ph, .pl r, told, imgs, true, 0⟩ (.pl s') s'.last s'.e out = (_, XC out ++ Xq s'.last) from congrArg (·, XC out ++ Xq s'.last) ((if_neg (by omega)).trans (if_pos h0))]
        exact (Take.ent' (pre := [_, hdO (QP a) (QR b) (QS d) hp (some h), _]) (by repeat' constructor)).trans ((Ent.cons (Ent.cons bdR_no)).trans XY)
      · exact absurd (show (Yd h.K h.W h.H r).1.last = 0 by rw [hq]; exact h0) endR_last
    | rw r =>
      refine (Fn.exs (F := [QA g [.int .i64 a, .int .i64 b, .int .i64 d, (pnV g ph), hp, bv, .int .i64 told, .int .i64 imgs, .bool false, .int .i64 0] 123, hdO (QP a) (QR b) (QS d) hp (some h)]) fun gb => ?_).pre (Take.ent' (pre := [bdR bv h (.rw r), _, _]) (by repeat' constructor))
      refine Fn.pur (F := [rwR gb h.K h.W.toNat h.H h.M r, _, _]) fun hbv => ?_
      subst hbv
      have e0 : XV ⟨some h, ph, .rw r, told, imgs, false, 0⟩ = (⟨some h, ph, .rw r, told, imgs, true, 6⟩, []) := if_neg (by simp)
      rw [e0]
      refine ((pnEnd_rw g gb a b d told imgs (pnV g ph) hp (hdO (QP a) (QR b) (QS d) hp (some h)) (rwR gb h.K h.W.toNat h.H h.M r)).mono ?_).pre (Take.ent' (by repeat' constructor))
      rintro v l ⟨rfl, rfl⟩
      exact ⟨_, rfl, (Ent.cons (Ent.cons (bdR_rw.trans (Ent.cons evO_0)))).trans XY⟩


theorem psImages_rep (g : Nat) (a b d : Int) (s : PS)  : Fn Tryz.prog 24 #[.pointer (some ⟨g, 0, none⟩)] [psR g a b d s] (fun v l => v = .int .i64 s.imgs ∧ l = [psR g a b d s]) := by
  obtain ⟨hd, ph, bd, told, imgs, over, e⟩ := s
  refine Fn.exs fun ⟨hp, bv⟩ => ?_
  refine (pnImages_open g a b d told imgs e over (pnV g ph) hp bv (hdO (QP a) (QR b) (QS d) hp hd) (bdR bv (hd.getD hd0) bd)).mono ?_
  rintro v l ⟨rfl, rfl⟩
  exact ⟨_, ⟨rfl, rfl⟩, XY⟩


theorem psError_rep (g : Nat) (a b d : Int) (s : PS)  : Fn Tryz.prog 18 #[.pointer (some ⟨g, 0, none⟩)] [psR g a b d s] (fun v l => v = .tuple #[.int .i64 (if s.e = 0 then 0 else s.e), .int .i64 (if s.e = 0 then 0 else s.told)] ∧ l = [psR g a b d s]) := by
  obtain ⟨hd, ph, bd, told, imgs, over, e⟩ := s
  refine Fn.exs fun ⟨hp, bv⟩ => ?_
  refine (pnError_open g a b d told imgs e over (pnV g ph) hp bv (hdO (QP a) (QR b) (QS d) hp hd) (bdR bv (hd.getD hd0) bd)).mono ?_
  rintro v l ⟨rfl, rfl⟩
  exact ⟨_, ⟨rfl, rfl⟩, XY⟩

end Go.Proofs.YtggamdlpiejbiaaGreat
namespace Go.Proofs.YtggamdlpiejbiaaGreat
open Go.RowKit Go.Shelf


theorem rwide_spec (K W H M : Int) : Fn Tryz.prog 122 #[.agg #[.int .i64 K, .int .i64 W, .int .i64 H, .int .i64 M]] [] (fun v l => v = .int .i64 ((Qg M : Nat) : Int) ∧ l = []) := by
 refine Qk (vs := [.agg #[.int .i64 K, .int .i64 W, .int .i64 H, .int .i64 M]]) Tryz.func122 rfl Tryz.ntmps122 rfl (Qb (Qa (Q9 rfl rfl rfl ?_)))
 intro g1
 refine Qe rfl rfl (WpL.nil (Qb (Qb (Qa (Qj (o2 := 3) rfl rfl rfl (Qo rfl rfl (by rfl) ?_))))))
 refine Zm rfl rfl rfl (WpL.nil (Ql rfl (fun h0 => ?_) (fun h0 => ?_)))
 ·refine Qb (Qa (Qe rfl rfl (WpL.nil (Qi ?_))))
  apply RetQ.mk
  ·exact (Res.one rfl rfl)
  ·exact ⟨by rw [show Qg M = 2 from if_pos h0]; rfl, rfl⟩
  ·exact Ent.nil _
 ·refine Wp.skip (Qb (Qa (Qe rfl rfl (WpL.nil (Qi ?_)))))
  apply RetQ.mk
  ·exact (Res.one rfl rfl)
  ·exact ⟨by rw [show Qg M = 1 from if_neg h0]; rfl, rfl⟩
  ·exact Ent.nil _

end Go.Proofs.YtggamdlpiejbiaaGreat
namespace Go.Proofs.YtggamdlpiejbiaaGreat
open Go.RowKit Go.Shelf


def badI (w M : Int) : List Int → Int → Int
  | [], _ => 0
  | x :: xs, i => if x > M then w * (i + 1) else badI w M xs (i + 1)
/-- The number of the byte with which a raw raster is wrong. -/
def Zj (K : Int) (W H : Nat) (M : Int) (bs : List Int) : Int := if K = 4 then 0 else badI ((Qg M : Nat) : Int) M (Zw (Qg M) (bs.take (QF K W (Qg M) * H))) 0

end Go.Proofs.YtggamdlpiejbiaaGreat
namespace Go.Proofs.YtggamdlpiejbiaaGreat
open Go.RowKit Go.Shelf

def QL (l0 l1 l2 : Int) : PS → List Int → PS × List (Evt × Int)
  | s, [] => (s, [])
  | s, c :: bs => ((QL l0 l1 l2 (Xf l0 l1 l2 s c).1 bs).1, ((Xf l0 l1 l2 s c).2.map fun x => (x, (Xf l0 l1 l2 s c).1.told)) ++ (QL l0 l1 l2 (Xf l0 l1 l2 s c).1 bs).2)
def psFin (fin : Bool) (q : PS × List (Evt × Int)) : PS × List (Evt × Int) := if fin = true then ((XV q.1).1, q.2 ++ (XV q.1).2.map fun x => (x, q.1.told + 1)) else q
def Ye (a : List (Evt × Int)) (q : PS × List (Evt × Int)) : PS × List (Evt × Int) := (q.1, a ++ q.2)
theorem papp_papp (a b : List (Evt × Int)) (q : PS × List (Evt × Int)) : Ye a (Ye b q) = Ye (a ++ b) q := by simp [Ye]
theorem papp_nil (q : PS × List (Evt × Int)) : Ye [] q = q := rfl
theorem Xz (l0 l1 l2 : Int) (s : PS) (c : Int) (bs : List Int) : QL l0 l1 l2 s (c :: bs) = Ye ((Xf l0 l1 l2 s c).2.map fun x => (x, (Xf l0 l1 l2 s c).1.told)) (QL l0 l1 l2 (Xf l0 l1 l2 s c).1 bs) := rfl
/-- All that a stream tells. -/
def Y7 (l0 l1 l2 : Int) (fin : Bool) (bs : List Int) : PS × List (Evt × Int) := psFin fin (QL l0 l1 l2 ps0 bs)
theorem Zh (l0 l1 l2 : Int) {s : PS} {c : Int} (h : s.over = false) (he : s.e = 0) : Xf l0 l1 l2 s c = Xt l0 l1 l2 { s with told := s.told + 1 } c := if_neg (by rw [h, he]; simp)
theorem psPut_dead (l0 l1 l2 : Int) {s : PS} {c : Int} (h : s.over = true ∨ s.e ≠ 0) : Xf l0 l1 l2 s c = (s, []) := if_pos h
theorem psRun_dead (l0 l1 l2 : Int) : ∀ (bs : List Int) {s : PS}, (s.over = true ∨ s.e ≠ 0) → QL l0 l1 l2 s bs = (s, [])
  | [], _, _ => rfl
  | c :: bs, s, h => by rw [Xz, psPut_dead _ _ _ h, psRun_dead l0 l1 l2 bs h]; rfl
theorem psFin_dead {fin : Bool} {s : PS} {a : List (Evt × Int)} (h : s.over = true ∨ s.e ≠ 0) : psFin fin (s, a) = (s, a) := by
  unfold psFin
  split
  · have : XV s = (s, []) := if_pos h
    simp [this]
  · rfl
theorem run_blank (l0 l1 l2 : Int) {hd : Option HS} {told imgs c : Int} {bs : List Int} (hb : Q6 c = true) : QL l0 l1 l2 ⟨hd, 0, .no, told, imgs, false, 0⟩ (c :: bs) = QL l0 l1 l2 ⟨hd, 0, .no, told + 1, imgs, false, 0⟩ bs := by
  have e : Xf l0 l1 l2 ⟨hd, 0, .no, told, imgs, false, 0⟩ c = (⟨hd, 0, .no, told + 1, imgs, false, 0⟩, []) := by
    rw [Zh _ _ _ rfl rfl]
    exact (if_pos rfl).trans (if_pos hb)
  rw [Xz, e]; rfl
theorem run_first (l0 l1 l2 : Int) {hd : Option HS} {told imgs c : Int} {bs : List Int} (hb : Q6 c = false) : QL l0 l1 l2 ⟨hd, 0, .no, told, imgs, false, 0⟩ (c :: bs) = QL l0 l1 l2 ⟨some hd0, 1, .no, told, imgs, false, 0⟩ (c :: bs) := by
  have e : Xf l0 l1 l2 ⟨hd, 0, .no, told, imgs, false, 0⟩ c = Xf l0 l1 l2 ⟨some hd0, 1, .no, told, imgs, false, 0⟩ c := by
    rw [Zh _ _ _ rfl rfl, Zh _ _ _ rfl rfl]
    refine ((if_pos rfl).trans (if_neg (by rw [hb]; decide))).trans ?_
    refine Eq.trans ?_ ((if_neg (show ¬ (1 : Int) = 0 by decide)).trans (if_pos rfl)).symm
    unfold Q8
    rfl
  rw [Xz, Xz, e]
def begE (h : HS) : Evt := ⟨1, QW h.K, h.M, h.W, h.H, []⟩
/-- A head, told byte by byte. -/
theorem run_head (l0 l1 l2 : Int) (hL : LimO l0 l1 l2) (imgs : Int) : ∀ (bs : List Int) (h : HS) (told : Int), hdJ l0 l1 l2 h →
    (((Xl l0 l1 l2 h bs told).1.last = 0 ∧ (Xl l0 l1 l2 h bs told).1.e = 9 ∧ QL l0 l1 l2 ⟨some h, 1, .no, told, imgs, false, 0⟩ bs = (⟨some (Xl l0 l1 l2 h bs told).1, 1, .no, told + bs.length, imgs, false, 0⟩, [])) ∨
    ((Xl l0 l1 l2 h bs told).1.last = 2 ∧ 2 ≤ (Xl l0 l1 l2 h bs told).1.e ∧ (Xl l0 l1 l2 h bs told).1.e ≤ 4 ∧ QL l0 l1 l2 ⟨some h, 1, .no, told, imgs, false, 0⟩ bs = (⟨some (Xl l0 l1 l2 h bs told).1, 1, .no, (Xl l0 l1 l2 h bs told).2, imgs, false, (Xl l0 l1 l2 h bs told).1.e⟩, [])) ∨
    (YC (Xl l0 l1 l2 h bs told).1 ∧ QL l0 l1 l2 ⟨some h, 1, .no, told, imgs, false, 0⟩ bs = Ye [(begE (Xl l0 l1 l2 h bs told).1, (Xl l0 l1 l2 h bs told).2)] (QL l0 l1 l2 ⟨some (Xl l0 l1 l2 h bs told).1, 2, bd0 (Xl l0 l1 l2 h bs told).1, (Xl l0 l1 l2 h bs told).2, imgs, false, 0⟩ (bs.drop ((Xl l0 l1 l2 h bs told).2 - told).toNat)))) ∧
    told ≤ (Xl l0 l1 l2 h bs told).2 ∧ (Xl l0 l1 l2 h bs told).2 ≤ told + bs.length
  | [], h, told, hj => by
    refine ⟨.inl ⟨hj.1.1, hj.2.1, ?_⟩, by simp [Xl], by simp [Xl]⟩
    simp [Xl, QL]
  | c :: bs, h, told, hj => by
    have hst : Xf l0 l1 l2 ⟨some h, 1, .no, told, imgs, false, 0⟩ c = Q8 ⟨some h, 1, .no, told + 1, imgs, false, 0⟩ (Q1 l0 l1 l2 h c) := by
      rw [Zh _ _ _ rfl rfl]
      exact (if_neg (show ¬ (1 : Int) = 0 by decide)).trans (if_pos rfl)
    rw [Xz, hst, Xl]
    rcases hdPut_ok (c := c) hL hj with hk | hk | hk
    · have h0 := hk.1.1
      have e : Q8 ⟨some h, 1, .no, told + 1, imgs, false, 0⟩ (Q1 l0 l1 l2 h c) = (⟨some (Q1 l0 l1 l2 h c), 1, .no, told + 1, imgs, false, 0⟩, []) := if_pos h0
      rw [e, if_neg (by rw [h0]; decide)]
      have ih := run_head l0 l1 l2 hL imgs bs (Q1 l0 l1 l2 h c) (told + 1) hk
      simp only [List.map_nil, papp_nil, List.length_cons]
      obtain ⟨ih, ih1, ih2⟩ := ih
      refine ⟨?_, by omega, by push_cast; omega⟩
      rcases ih with ⟨i1, i2, i3⟩ | ⟨i1, i2, i3, i4⟩ | ⟨i1, i2⟩
      · exact .inl ⟨i1, i2, by rw [i3]; congr 2; push_cast; omega⟩
      · exact .inr (.inl ⟨i1, i2, i3, i4⟩)
      · refine .inr (.inr ⟨i1, ?_⟩)
        rw [i2, show ((Xl l0 l1 l2 (Q1 l0 l1 l2 h c) bs (told + 1)).2 - told).toNat = ((Xl l0 l1 l2 (Q1 l0 l1 l2 h c) bs (told + 1)).2 - (told + 1)).toNat + 1 by omega]
        rfl
    · have h0 := hk.1
      have e : Q8 ⟨some h, 1, .no, told + 1, imgs, false, 0⟩ (Q1 l0 l1 l2 h c) = (⟨some (Q1 l0 l1 l2 h c), 1, .no, told + 1, imgs, false, (Q1 l0 l1 l2 h c).e⟩, []) := (if_neg (by rw [h0]; decide)).trans (if_pos (by have := hk.2.1; omega))
      rw [e, if_pos (by rw [h0]; decide)]
      simp only [List.map_nil, papp_nil, List.length_cons]
      refine ⟨.inr (.inl ⟨h0, hk.2.1, hk.2.2, psRun_dead _ _ _ _ (.inr (by have := hk.2.1; simp only; omega))⟩), by omega, by push_cast; omega⟩
    · have h0 := hk.1
      have e : Q8 ⟨some h, 1, .no, told + 1, imgs, false, 0⟩ (Q1 l0 l1 l2 h c) = (⟨some (Q1 l0 l1 l2 h c), 2, bd0 (Q1 l0 l1 l2 h c), told + 1, imgs, false, 0⟩, [begE (Q1 l0 l1 l2 h c)]) := (if_neg (by rw [h0]; decide)).trans (if_neg (fun q => q hk.2.1))
      rw [e, if_pos (by rw [h0]; decide)]
      simp only [List.map_cons, List.map_nil, List.length_cons]
      refine ⟨.inr (.inr ⟨hk, ?_⟩), by omega, by push_cast; omega⟩
      rw [show (told + 1 - told).toNat = 1 by omega]
      rfl
/-- What a raster's reading tells: its events, how YO bytes of all were told behind it, the error (9: it goes on). -/
def BodyOut (l0 l1 l2 : Int) (fin : Bool) (h : HS) (bd : Bd) (bs : List Int) (at0 imgs : Int) (out : List (Evt × Int)) (to f : Int) : Prop :=
  (f = 0 → psFin fin (QL l0 l1 l2 ⟨some h, 2, bd, at0, imgs, false, 0⟩ (bs.drop at0.toNat)) = Ye out (psFin fin (QL l0 l1 l2 ⟨some h, 0, .no, to, imgs + 1, false, 0⟩ (bs.drop to.toNat)))) ∧
  (f ≠ 0 → ∃ s', psFin fin (QL l0 l1 l2 ⟨some h, 2, bd, at0, imgs, false, 0⟩ (bs.drop at0.toNat)) = (s', out) ∧ s'.e = (if f = 9 then 0 else f) ∧ s'.told = to ∧ s'.imgs = imgs)

end Go.Proofs.YtggamdlpiejbiaaGreat
