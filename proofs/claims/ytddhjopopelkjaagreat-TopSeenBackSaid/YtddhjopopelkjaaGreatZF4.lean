/- A part of the proof: lemmas. -/
import Derived.Test.YtddhjopopelkjaaGreatZF3
import Derived.Test.YtddhjopopelkjaaGreatZw11
set_option linter.unusedVariables false
set_option linter.unusedSimpArgs false
namespace Go.Proofs.YtddhjopopelkjaaGreat
open Go Go.Sx

/-! ### Plain law: a way and a canopy -/
structure PtH (p : Pt) : Prop where
  r : PtR p
  z : -(5000 * p.d) ≤ p.z ∧ p.z ≤ 5000 * p.d
theorem ptH_of {p : Pt} (h : ptErr p = 0) : PtH p := by
  obtain ⟨h1, h2, _, h4⟩ := ptErr_zero h
  unfold ptIn at h4
  simp only [Bool.and_eq_true, within_iff] at h4
  exact ⟨⟨h1, h2, h4.1.1, h4.1.2⟩, h4.2⟩
def zOff (ht : Int) (p : Pt) : Int := IntKind.i64.wrap (p.z - IntKind.i64.wrap (ht * p.d))
theorem zOff_eq {ht : Int} (hh : 0 ≤ ht ∧ ht ≤ 5000) {p : Pt} (hp : PtH p) : zOff ht p = p.z - ht * p.d ∧ IntKind.i64.wrap (ht * p.d) = ht * p.d ∧ (-1000000000 ≤ p.z - ht * p.d ∧ p.z - ht * p.d ≤ 1000000000) := by
  obtain ⟨⟨a1, a2, _, _⟩, a5⟩ := hp
  have c1 := coord_bd (f := ht) (d := p.d) (by omega) a1
  unfold zOff
  rw [W_eq (n := ht * p.d) (by omega) (by omega)]
  exact ⟨W_eq (by omega) (by omega), rfl, by omega⟩
/-- A point strictly between the ends lies on the canopy. -/
def blkS (r : Rc) (ht : Int) (p q : Pt) : Prop := ∃ l m : Int, 0 < l ∧ 0 < m ∧ l * (p.z - ht * p.d) + m * (q.z - ht * q.d) = 0 ∧ ∀ c ∈ rcN r p.pl q.pl, 0 ≤ atW c l m
theorem blkS_flat {r : Rc} {ht : Int} {p q : Pt} (h1 : p.z - ht * p.d = 0) (h2 : q.z - ht * q.d = 0) : blkS r ht p q ↔ inSpan (rcN r p.pl q.pl) := by
  unfold blkS inSpan
  rw [h1, h2]
  exact ⟨fun ⟨l, m, a, b, _, c⟩ => ⟨l, m, a, b, c⟩, fun ⟨l, m, a, b, c⟩ => ⟨l, m, a, b, by omega, c⟩⟩
theorem blkS_side {r : Rc} {ht : Int} {p q : Pt} (h0 : ¬(p.z - ht * p.d = 0 ∧ q.z - ht * q.d = 0)) (h1 : 0 ≤ sgn (p.z - ht * p.d) * sgn (q.z - ht * q.d)) : ¬ blkS r ht p q := by
  rintro ⟨l, m, hl, hm, e, _⟩
  have hs : ¬ (sgn (p.z - ht * p.d) * sgn (q.z - ht * q.d) < 0) := by omega
  rw [sgn_mul_neg] at hs
  generalize p.z - ht * p.d = a at *
  generalize q.z - ht * q.d = b at *
  by_cases ha : 0 < a
  · have := (pos_l hl).2 ha
    have := (nn_l hm).2 (show 0 ≤ b by omega)
    omega
  by_cases hb : a < 0
  · have := (neg_l hl).2 hb
    have := (np_l hm).2 (show b ≤ 0 by omega)
    omega
  have : a = 0 := by omega
  subst this
  have : m * b ≠ 0 := Int.mul_ne_zero (by omega) (by omega)
  omega
theorem blkS_swap {r : Rc} {ht : Int} {p q : Pt} : blkS r ht p q ↔ blkS r ht q p := by
  have key : ∀ p q, blkS r ht p q → blkS r ht q p := by
    rintro p q ⟨l, m, h1, h2, h3, h4⟩
    refine ⟨m, l, h2, h1, by omega, ?_⟩
    rw [rcN_mem] at h4 ⊢
    omega
  exact ⟨key _ _, key _ _⟩
theorem blkS_cross {r : Rc} {ht : Int} {p q : Pt} {f g : Int} (hf : p.z - ht * p.d = f) (hg : q.z - ht * q.d = g) (h1 : f < 0 ∧ 0 < g) : blkS r ht p q ↔ ∀ c ∈ rcN r p.pl q.pl, 0 ≤ atW c g (-f) := by
  unfold blkS
  rw [hf, hg]
  constructor
  · rintro ⟨l, m, hl, hm, e, h⟩ c hc
    have k1 : g * atW c l m = l * atW c g (-f) := by unfold atW; grind
    have q1 := (nn_l h1.2).2 (h c hc)
    rw [k1, nn_l hl] at q1
    exact q1
  · intro h
    exact ⟨g, -f, h1.2, by omega, by grind, h⟩
theorem cross_has {r : Rc} (hr : RcOk r) {p q : Pt} (hp : PtR p) (hq : PtR q) {f g : Int} (h1 : f < 0 ∧ 0 < g) (h2 : -1000000000 ≤ f ∧ g ≤ 1000000000) : r.has (p.x * g - q.x * f) (p.y * g - q.y * f) (p.d * g - q.d * f) = true ↔ ∀ c ∈ rcN r p.pl q.pl, 0 ≤ atW c g (-f) := by
  obtain ⟨a1, a2, a3, a4⟩ := hp
  obtain ⟨b1, b2, b3, b4⟩ := hq
  have k1 := Int.mul_pos a1 h1.2
  have k2 := Int.mul_pos b1 (show 0 < -f by omega)
  rw [Int.mul_neg] at k2
  have m1 := mul_bd (a := p.d) (b := g) (A := 100000) (B := 1000000000) (by omega) (by omega)
  have m2 := mul_bd (a := q.d) (b := f) (A := 100000) (B := 1000000000) (by omega) (by omega)
  rw [rhas_iff hr ⟨by omega, by omega⟩, rcN_mem]
  unfold Pt.pl
  dsimp only
  have e1 : g * (p.x - r.xl * p.d) + -f * (q.x - r.xl * q.d) = p.x * g - q.x * f - r.xl * (p.d * g - q.d * f) := by grind
  have e2 : g * (r.xh * p.d - p.x) + -f * (r.xh * q.d - q.x) = r.xh * (p.d * g - q.d * f) - (p.x * g - q.x * f) := by grind
  have e3 : g * (p.y - r.yl * p.d) + -f * (q.y - r.yl * q.d) = p.y * g - q.y * f - r.yl * (p.d * g - q.d * f) := by grind
  have e4 : g * (r.yh * p.d - p.y) + -f * (r.yh * q.d - q.y) = r.yh * (p.d * g - q.d * f) - (p.y * g - q.y * f) := by grind
  rw [e1, e2, e3, e4]
/-- In the program: the point of a way at a height. -/
def atX (a b : Int) (u v : Int) : Int := IntKind.i64.wrap (IntKind.i64.wrap (a * u) + IntKind.i64.wrap (b * v))
def blkP (r : Rc) (ht : Int) (p q : Pt) : Bool :=
  if p.z = IntKind.i64.wrap (ht * p.d) ∧ q.z = IntKind.i64.wrap (ht * q.d) then crosP r p q
  else if 0 ≤ IntKind.i64.wrap (sgn (zOff ht p) * sgn (zOff ht q)) then false
  else r.has (atX p.x q.x (size (zOff ht q)) (size (zOff ht p))) (atX p.y q.y (size (zOff ht q)) (size (zOff ht p))) (atX p.d q.d (size (zOff ht q)) (size (zOff ht p)))
/-- In the reference. -/
def onX (a b : Int) (g f : Int) : Int := IntKind.i64.wrap (IntKind.i64.wrap (a * g) - IntKind.i64.wrap (b * f))
def blkR (r : Rc) (ht : Int) (p q : Pt) : Bool :=
  if zOff ht p = 0 ∧ zOff ht q = 0 then flatR r p.pl q.pl
  else if 0 ≤ IntKind.i64.wrap (sgn (zOff ht p) * sgn (zOff ht q)) then false
  else if onX p.d q.d (zOff ht q) (zOff ht p) < 0 then r.has (IntKind.i64.wrap (0 - onX p.x q.x (zOff ht q) (zOff ht p))) (IntKind.i64.wrap (0 - onX p.y q.y (zOff ht q) (zOff ht p))) (IntKind.i64.wrap (0 - onX p.d q.d (zOff ht q) (zOff ht p)))
  else r.has (onX p.x q.x (zOff ht q) (zOff ht p)) (onX p.y q.y (zOff ht q) (zOff ht p)) (onX p.d q.d (zOff ht q) (zOff ht p))
theorem x_bd {a d f : Int} (hd : 0 < d ∧ d ≤ 100000) (ha : -(5000 * d) ≤ a ∧ a ≤ 5000 * d) (hf : -1000000000 ≤ f ∧ f ≤ 1000000000) : -500000000000000000 ≤ a * f ∧ a * f ≤ 500000000000000000 := by
  have := mul_bd (a := a) (b := f) (A := 500000000) (B := 1000000000) (by omega) (by omega)
  omega
theorem d_bd {d f : Int} (hd : 0 < d ∧ d ≤ 100000) (hf : -1000000000 ≤ f ∧ f ≤ 1000000000) : -100000000000000 ≤ d * f ∧ d * f ≤ 100000000000000 := by
  have := mul_bd (a := d) (b := f) (A := 100000) (B := 1000000000) (by omega) (by omega)
  omega
theorem cond_eq {ht : Int} (hh : 0 ≤ ht ∧ ht ≤ 5000) {p q : Pt} (hp : PtH p) (hq : PtH q) : (p.z = IntKind.i64.wrap (ht * p.d) ∧ q.z = IntKind.i64.wrap (ht * q.d)) ↔ (p.z - ht * p.d = 0 ∧ q.z - ht * q.d = 0) := by
  rw [(zOff_eq hh hp).2.1, (zOff_eq hh hq).2.1]; omega
theorem blkP_iff {r : Rc} (hr : RcOk r) {ht : Int} (hh : 0 ≤ ht ∧ ht ≤ 5000) {p q : Pt} (hp : PtH p) (hq : PtH q) : blkP r ht p q = true ↔ blkS r ht p q := by
  obtain ⟨e1, _, b1⟩ := zOff_eq hh hp
  obtain ⟨e2, _, b2⟩ := zOff_eq hh hq
  unfold blkP
  simp only [cond_eq hh hp hq]
  rw [e1, e2]
  by_cases h0 : p.z - ht * p.d = 0 ∧ q.z - ht * q.d = 0
  · rw [if_pos h0, blkS_flat h0.1 h0.2, crosP_iff hr hp.r hq.r]
  rw [if_neg h0, W_sgn]
  by_cases h1 : 0 ≤ sgn (p.z - ht * p.d) * sgn (q.z - ht * q.d)
  · rw [if_pos h1]
    exact ⟨fun h => by simp at h, fun h => absurd h (blkS_side h0 h1)⟩
  rw [if_neg h1]
  have h2 := sgn_mul_neg.1 (show sgn (p.z - ht * p.d) * sgn (q.z - ht * q.d) < 0 by omega)
  generalize hf : p.z - ht * p.d = f at *
  generalize hg : q.z - ht * q.d = g at *
  have hp1 := hp.r
  have hq1 := hq.r
  have x1 := x_bd (f := g) ⟨hp1.d0, hp1.d1⟩ hp1.x (by omega)
  have x2 := x_bd (f := f) ⟨hq1.d0, hq1.d1⟩ hq1.x (by omega)
  have y1 := x_bd (f := g) ⟨hp1.d0, hp1.d1⟩ hp1.y (by omega)
  have y2 := x_bd (f := f) ⟨hq1.d0, hq1.d1⟩ hq1.y (by omega)
  have d1 := d_bd (f := g) ⟨hp1.d0, hp1.d1⟩ (by omega)
  have d2 := d_bd (f := f) ⟨hq1.d0, hq1.d1⟩ (by omega)
  rcases h2 with h2 | h2
  · have s1 : size g = g := by rw [size_eq (by omega), if_neg (by omega)]
    have s2 : size f = -f := by rw [size_eq (by omega), if_pos (by omega)]
    have ax : ∀ a b : Int, (-500000000000000000 ≤ a * g ∧ a * g ≤ 500000000000000000) → (-500000000000000000 ≤ b * f ∧ b * f ≤ 500000000000000000) → atX a b (size g) (size f) = a * g - b * f := by
      intro a b k1 k2
      unfold atX
      rw [s1, s2, Int.mul_neg, W_eq (n := a * g) (by omega) (by omega), W_eq (n := -(b * f)) (by omega) (by omega), W_eq (by omega) (by omega)]
      omega
    rw [ax _ _ x1 x2, ax _ _ y1 y2, ax _ _ (by omega) (by omega), cross_has hr hp1 hq1 h2 (by omega), blkS_cross hf hg h2]
  · have s1 : size g = -g := by rw [size_eq (by omega), if_pos (by omega)]
    have s2 : size f = f := by rw [size_eq (by omega), if_neg (by omega)]
    have ax : ∀ a b : Int, (-500000000000000000 ≤ a * g ∧ a * g ≤ 500000000000000000) → (-500000000000000000 ≤ b * f ∧ b * f ≤ 500000000000000000) → atX a b (size g) (size f) = b * f - a * g := by
      intro a b k1 k2
      unfold atX
      rw [s1, s2, Int.mul_neg, W_eq (n := b * f) (by omega) (by omega), W_eq (n := -(a * g)) (by omega) (by omega), W_eq (by omega) (by omega)]
      omega
    rw [ax _ _ x1 x2, ax _ _ y1 y2, ax _ _ (by omega) (by omega), cross_has hr hq1 hp1 (by omega) (by omega), blkS_swap, blkS_cross hg hf (by omega)]
theorem blkR_iff {r : Rc} (hr : RcOk r) {ht : Int} (hh : 0 ≤ ht ∧ ht ≤ 5000) {p q : Pt} (hp : PtH p) (hq : PtH q) : blkR r ht p q = true ↔ blkS r ht p q := by
  obtain ⟨e1, _, b1⟩ := zOff_eq hh hp
  obtain ⟨e2, _, b2⟩ := zOff_eq hh hq
  unfold blkR
  rw [e1, e2]
  by_cases h0 : p.z - ht * p.d = 0 ∧ q.z - ht * q.d = 0
  · rw [if_pos h0, blkS_flat h0.1 h0.2]
    exact flatR_iff (p := p.pl) (q := q.pl) hp.r.d0 hq.r.d0
  rw [if_neg h0, W_sgn]
  by_cases h1 : 0 ≤ sgn (p.z - ht * p.d) * sgn (q.z - ht * q.d)
  · rw [if_pos h1]
    exact ⟨fun h => by simp at h, fun h => absurd h (blkS_side h0 h1)⟩
  rw [if_neg h1]
  have h2 := sgn_mul_neg.1 (show sgn (p.z - ht * p.d) * sgn (q.z - ht * q.d) < 0 by omega)
  generalize hf : p.z - ht * p.d = f at *
  generalize hg : q.z - ht * q.d = g at *
  have hp1 := hp.r
  have hq1 := hq.r
  have x1 := x_bd (f := g) ⟨hp1.d0, hp1.d1⟩ hp1.x (by omega)
  have x2 := x_bd (f := f) ⟨hq1.d0, hq1.d1⟩ hq1.x (by omega)
  have y1 := x_bd (f := g) ⟨hp1.d0, hp1.d1⟩ hp1.y (by omega)
  have y2 := x_bd (f := f) ⟨hq1.d0, hq1.d1⟩ hq1.y (by omega)
  have d1 := d_bd (f := g) ⟨hp1.d0, hp1.d1⟩ (by omega)
  have d2 := d_bd (f := f) ⟨hq1.d0, hq1.d1⟩ (by omega)
  have ax : ∀ a b : Int, (-500000000000000000 ≤ a * g ∧ a * g ≤ 500000000000000000) → (-500000000000000000 ≤ b * f ∧ b * f ≤ 500000000000000000) → onX a b g f = a * g - b * f ∧ IntKind.i64.wrap (0 - (a * g - b * f)) = b * f - a * g := by
    intro a b k1 k2
    unfold onX
    rw [W_eq (n := a * g) (by omega) (by omega), W_eq (n := b * f) (by omega) (by omega), W_eq (n := a * g - b * f) (by omega) (by omega), W_eq (by omega) (by omega)]
    omega
  rw [(ax _ _ x1 x2).1, (ax _ _ y1 y2).1, (ax p.d q.d (by omega) (by omega)).1, (ax _ _ x1 x2).2, (ax _ _ y1 y2).2, (ax p.d q.d (by omega) (by omega)).2]
  rcases h2 with h2 | h2
  · have k1 := Int.mul_pos hp1.d0 h2.2
    have k2 := Int.mul_neg_of_pos_of_neg hq1.d0 h2.1
    rw [if_neg (by omega), cross_has hr hp1 hq1 h2 (by omega), blkS_cross hf hg h2]
  · have k1 := Int.mul_neg_of_pos_of_neg hp1.d0 h2.2
    have k2 := Int.mul_pos hq1.d0 h2.1
    rw [if_pos (by omega), cross_has hr hq1 hp1 (by omega) (by omega), blkS_swap, blkS_cross hg hf (by omega)]
theorem blk_eq {r : Rc} (hr : RcOk r) {ht : Int} (hh : 0 ≤ ht ∧ ht ≤ 5000) {p q : Pt} (hp : PtH p) (hq : PtH q) : blkP r ht p q = blkR r ht p q := by
  rw [Bool.eq_iff_iff, blkP_iff hr hh hp hq, blkR_iff hr hh hp hq]
end Go.Proofs.YtddhjopopelkjaaGreat
