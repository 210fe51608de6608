/- A part of the proof: lemmas. -/
import Derived.Test.YtdaliaafmcjikaaGreatZw9
set_option linter.unusedVariables false
set_option linter.unusedSimpArgs false
namespace Go.Proofs.YtdaliaafmcjikaaGreat
open Go Go.Sx

/-! ### Plain law: weights of both ends of a way -/
theorem lt_pos {a b c : Int} (hc : 0 < c) : a * c < b * c ↔ a < b := ⟨fun h => Int.lt_of_mul_lt_mul_right h (by omega), fun h => Int.mul_lt_mul_of_pos_right h hc⟩
theorem le_pos {a b c : Int} (hc : 0 < c) : a * c ≤ b * c ↔ a ≤ b := ⟨fun h => Int.le_of_mul_le_mul_right h hc, fun h => Int.mul_le_mul_of_nonneg_right h (by omega)⟩
theorem pos_l {a c : Int} (hc : 0 < c) : 0 < c * a ↔ 0 < a := by rw [Int.mul_comm]; have := lt_pos (a := 0) (b := a) hc; rwa [Int.zero_mul] at this
theorem neg_l {a c : Int} (hc : 0 < c) : c * a < 0 ↔ a < 0 := by rw [Int.mul_comm]; have := lt_pos (a := a) (b := 0) hc; rwa [Int.zero_mul] at this
theorem nn_l {a c : Int} (hc : 0 < c) : 0 ≤ c * a ↔ 0 ≤ a := by rw [Int.mul_comm]; have := le_pos (a := 0) (b := a) hc; rwa [Int.zero_mul] at this
theorem np_l {a c : Int} (hc : 0 < c) : c * a ≤ 0 ↔ a ≤ 0 := by rw [Int.mul_comm]; have := le_pos (a := a) (b := 0) hc; rwa [Int.zero_mul] at this
theorem imin_eq (a b : Int) : imin a b = min a b := by
  unfold imin; by_cases h : b < a <;> simp [h] <;> omega
theorem imax_eq (a b : Int) : imax a b = max a b := by
  unfold imax; by_cases h : a < b <;> simp [h] <;> omega
theorem min_mul {a b d : Int} (hd : 0 < d) : min a b * d = min (a * d) (b * d) := by
  rcases Int.le_total a b with h | h
  · rw [Int.min_eq_left h, Int.min_eq_left (Int.mul_le_mul_of_nonneg_right h (by omega))]
  · rw [Int.min_eq_right h, Int.min_eq_right (Int.mul_le_mul_of_nonneg_right h (by omega))]
theorem max_mul {a b d : Int} (hd : 0 < d) : max a b * d = max (a * d) (b * d) := by
  rcases Int.le_total a b with h | h
  · rw [Int.max_eq_right h, Int.max_eq_right (Int.mul_le_mul_of_nonneg_right h (by omega))]
  · rw [Int.max_eq_left h, Int.max_eq_left (Int.mul_le_mul_of_nonneg_right h (by omega))]
/-- Some positive weights of both ends keep two numbers from being negative. -/
def spans (a b c d : Int) : Prop := ∃ l m : Int, 0 < l ∧ 0 < m ∧ 0 ≤ l * a + m * b ∧ 0 ≤ l * c + m * d
theorem spans_swap {a b c d : Int} : spans a b c d ↔ spans b a d c :=
  ⟨fun ⟨l, m, h1, h2, h3, h4⟩ => ⟨m, l, h2, h1, by rw [Int.add_comm]; exact h3, by rw [Int.add_comm]; exact h4⟩, fun ⟨l, m, h1, h2, h3, h4⟩ => ⟨m, l, h2, h1, by rw [Int.add_comm]; exact h3, by rw [Int.add_comm]; exact h4⟩⟩
theorem spans_eq {a b c d : Int} (h1 : 0 < a + c) (h2 : 0 < b + d) (he : a * d = b * c) : spans a b c d ↔ 0 ≤ a ∧ 0 ≤ c := by
  constructor
  · rintro ⟨l, m, hl, hm, e1, e2⟩
    have hp : 0 < l * (a + c) + m * (b + d) := by have := Int.mul_pos hl h1; have := Int.mul_pos hm h2; omega
    have k1 : (l * a + m * b) * (a + c) = (l * (a + c) + m * (b + d)) * a := by grind
    have k2 : (l * c + m * d) * (a + c) = (l * (a + c) + m * (b + d)) * c := by grind
    have q1 := Int.mul_nonneg e1 (Int.le_of_lt h1)
    have q2 := Int.mul_nonneg e2 (Int.le_of_lt h1)
    rw [k1, nn_l hp] at q1
    rw [k2, nn_l hp] at q2
    exact ⟨q1, q2⟩
  · rintro ⟨ha, hc⟩
    refine ⟨1, 1, by omega, by omega, ?_, ?_⟩
    · have k : (a + c) * b = a * (b + d) := by grind
      have q := Int.mul_nonneg ha (Int.le_of_lt h2)
      rw [← k, nn_l h1] at q
      omega
    · have k : (a + c) * d = c * (b + d) := by grind
      have q := Int.mul_nonneg hc (Int.le_of_lt h2)
      rw [← k, nn_l h1] at q
      omega
theorem spans_gt {a b c d : Int} (h1 : 0 < a + c) (h2 : 0 < b + d) (he : b * c < a * d) : spans a b c d ↔ 0 < a ∧ 0 < d := by
  constructor
  · rintro ⟨l, m, hl, hm, e1, e2⟩
    constructor
    · by_cases ha : 0 < a
      · exact ha
      exfalso
      have q : (b + d) * a ≤ 0 := (np_l h2).2 (by omega)
      have q2 : (a + c) * b < 0 := by
        have : (a + c) * b = (b + d) * a + (b * c - a * d) := by grind
        omega
      have hb := (neg_l h1).1 q2
      have := (neg_l hm).2 hb
      have := (np_l hl).2 (show a ≤ 0 by omega)
      omega
    · by_cases hd : 0 < d
      · exact hd
      exfalso
      have q : (a + c) * d ≤ 0 := (np_l h1).2 (by omega)
      have q2 : (b + d) * c < 0 := by
        have : (b + d) * c = (a + c) * d + (b * c - a * d) := by grind
        omega
      have hb := (neg_l h2).1 q2
      have := (neg_l hl).2 hb
      have := (np_l hm).2 (show d ≤ 0 by omega)
      omega
  · rintro ⟨ha, hd⟩
    by_cases hb : 0 ≤ b
    · refine ⟨1, c.natAbs + 1, by omega, by omega, ?_, ?_⟩
      · have := Int.mul_nonneg (show (0 : Int) ≤ (c.natAbs : Int) + 1 by omega) hb
        omega
      · have := Int.mul_le_mul_of_nonneg_left (show 1 ≤ d by omega) (show (0 : Int) ≤ (c.natAbs : Int) + 1 by omega)
        omega
    by_cases hc : 0 ≤ c
    · refine ⟨-b, 1, by omega, by omega, ?_, ?_⟩
      · have := Int.mul_le_mul_of_nonneg_left (show 1 ≤ a by omega) (show (0 : Int) ≤ -b by omega)
        omega
      · have := Int.mul_nonneg (show 0 ≤ -b by omega) hc
        omega
    · refine ⟨-b, a, by omega, ha, ?_, ?_⟩
      · have : -b * a + a * b = 0 := by grind
        omega
      · have : -b * c + a * d = a * d - b * c := by grind
        omega
theorem spans_lt {a b c d : Int} (h1 : 0 < a + c) (h2 : 0 < b + d) (he : a * d < b * c) : spans a b c d ↔ 0 < b ∧ 0 < c := by
  rw [spans_swap]; exact spans_gt h2 h1 he

/-! ### A way in the plan meets a wall, strictly between its ends -/
/-- A point over a denominator. -/
structure P2d where
  x : Int
  y : Int
  d : Int
def bsP (w : Wl) (sx sy : Int) (p : P2d) : Int := bes w sx sy p.x p.y p.d
def alP (w : Wl) (sx sy : Int) (p : P2d) : Int := alo w sx sy p.x p.y p.d
def ful (n sx sy : Int) : Int := n * (sx * sx + sy * sy)
def meetW (w : Wl) (n sx sy : Int) (p q : P2d) : Prop := ∃ l m : Int, 0 < l ∧ 0 < m ∧ l * bsP w sx sy p + m * bsP w sx sy q = 0 ∧ 0 ≤ l * alP w sx sy p + m * alP w sx sy q ∧ l * alP w sx sy p + m * alP w sx sy q ≤ ful n sx sy * (l * p.d + m * q.d)
theorem ful_pos {w : Wl} {n sx sy : Int} (h : Str w n sx sy) : 0 < ful n sx sy := by
  have hn := h.hn
  have hxy := h.hxy
  unfold ful
  rcases h.hx with rfl | rfl | rfl <;> rcases h.hy with rfl | rfl | rfl <;> (try (exact absurd ⟨rfl, rfl⟩ hxy)) <;> simp <;> omega
theorem meetW_swap {w : Wl} {n sx sy : Int} {p q : P2d} : meetW w n sx sy p q ↔ meetW w n sx sy q p := by
  have key : ∀ p q, meetW w n sx sy p q → meetW w n sx sy q p := by
    rintro p q ⟨l, m, h1, h2, h3, h4, h5⟩
    refine ⟨m, l, h2, h1, by omega, by omega, ?_⟩
    rw [Int.add_comm (m * q.d)]; omega
  exact ⟨key _ _, key _ _⟩
/-- Along the line of a wall. -/
theorem meetW_flat {w : Wl} {n sx sy : Int} (h : Str w n sx sy) {p q : P2d} (h1 : bsP w sx sy p = 0) (h2 : bsP w sx sy q = 0) : meetW w n sx sy p q ↔ spans (alP w sx sy p) (alP w sx sy q) (ful n sx sy * p.d - alP w sx sy p) (ful n sx sy * q.d - alP w sx sy q) := by
  unfold meetW spans
  rw [h1, h2]
  constructor
  · rintro ⟨l, m, hl, hm, _, e1, e2⟩
    exact ⟨l, m, hl, hm, e1, by grind⟩
  · rintro ⟨l, m, hl, hm, e1, e2⟩
    exact ⟨l, m, hl, hm, by omega, e1, by grind⟩
/-- Beside the line, on one side. -/
theorem meetW_side {w : Wl} {n sx sy : Int} {p q : P2d} (h0 : ¬(bsP w sx sy p = 0 ∧ bsP w sx sy q = 0)) (h1 : 0 ≤ sgn (bsP w sx sy p) * sgn (bsP w sx sy q)) : ¬ meetW w n sx sy p q := by
  rintro ⟨l, m, hl, hm, e, _⟩
  have hs : ¬ (sgn (bsP w sx sy p) * sgn (bsP w sx sy q) < 0) := by omega
  rw [sgn_mul_neg] at hs
  generalize bsP w sx sy p = a at *
  generalize bsP w sx sy q = b at *
  by_cases ha : 0 < a
  · have := (pos_l hl).2 ha
    have := (nn_l hm).2 (show 0 ≤ b by omega)
    omega
  by_cases hb : a < 0
  · have := (neg_l hl).2 hb
    have := (np_l hm).2 (show b ≤ 0 by omega)
    omega
  have : a = 0 := by omega
  subst this
  have : m * b ≠ 0 := Int.mul_ne_zero (by omega) (by omega)
  omega
/-- The line is crossed. -/
theorem meetW_cross {w : Wl} {n sx sy : Int} {p q : P2d} {f g : Int} (hf : bsP w sx sy p = f) (hg : bsP w sx sy q = g) (h1 : f < 0 ∧ 0 < g) : meetW w n sx sy p q ↔ 0 ≤ g * alP w sx sy p - f * alP w sx sy q ∧ g * alP w sx sy p - f * alP w sx sy q ≤ ful n sx sy * (g * p.d - f * q.d) := by
  unfold meetW
  rw [hf, hg]
  generalize alP w sx sy p = a
  generalize alP w sx sy q = b
  generalize ful n sx sy = F
  constructor
  · rintro ⟨l, m, hl, hm, e, e1, e2⟩
    have k1 : g * (l * a + m * b) = l * (g * a - f * b) := by grind
    have k2 : g * (F * (l * p.d + m * q.d) - (l * a + m * b)) = l * (F * (g * p.d - f * q.d) - (g * a - f * b)) := by grind
    have q1 := (nn_l h1.2).2 e1
    have q2 := (nn_l h1.2).2 (show 0 ≤ F * (l * p.d + m * q.d) - (l * a + m * b) by omega)
    rw [k1, nn_l hl] at q1
    rw [k2, nn_l hl] at q2
    exact ⟨q1, by omega⟩
  · rintro ⟨e1, e2⟩
    refine ⟨g, -f, h1.2, by omega, by grind, ?_, ?_⟩
    · have : g * a + -f * b = g * a - f * b := by grind
      omega
    · have : g * a + -f * b = g * a - f * b := by grind
      have : g * p.d + -f * q.d = g * p.d - f * q.d := by grind
      rw [this]; omega

theorem sgn_mul_le {a b : Int} : sgn a * sgn b ≤ 0 ↔ ¬((0 < a ∧ 0 < b) ∨ (a < 0 ∧ b < 0)) := by
  unfold sgn
  split <;> split <;> (try split) <;> (try split) <;> simp <;> omega

/-! ### Rectangles -/
theorem rhas_iff {r : Rc} (hr : RcOk r) {x y d : Int} (hd : 0 < d ∧ d ≤ 1000000000000000) : r.has x y d = true ↔ 0 ≤ x - r.xl * d ∧ 0 ≤ r.xh * d - x ∧ 0 ≤ y - r.yl * d ∧ 0 ≤ r.yh * d - y := by
  obtain ⟨h1, h2, h3, h4, h5, h6⟩ := hr
  have c1 := coord_bd (f := r.xl) (d := d) (by omega) hd.1
  have c2 := coord_bd (f := r.xh) (d := d) (by omega) hd.1
  have c3 := coord_bd (f := r.yl) (d := d) (by omega) hd.1
  have c4 := coord_bd (f := r.yh) (d := d) (by omega) hd.1
  unfold Rc.has
  rw [W_eq (n := r.xl * d) (by omega) (by omega), W_eq (n := r.xh * d) (by omega) (by omega), W_eq (n := r.yl * d) (by omega) (by omega), W_eq (n := r.yh * d) (by omega) (by omega), Bool.and_eq_true, within_iff, within_iff]
  omega
theorem rholds_iff {r : Rc} (hr : RcOk r) {x y d : Int} (hd : 0 < d ∧ d ≤ 1000000000000000) : r.holds x y d = true ↔ 0 < x - r.xl * d ∧ 0 < r.xh * d - x ∧ 0 < y - r.yl * d ∧ 0 < r.yh * d - y := by
  obtain ⟨h1, h2, h3, h4, h5, h6⟩ := hr
  have c1 := coord_bd (f := r.xl) (d := d) (by omega) hd.1
  have c2 := coord_bd (f := r.xh) (d := d) (by omega) hd.1
  have c3 := coord_bd (f := r.yl) (d := d) (by omega) hd.1
  have c4 := coord_bd (f := r.yh) (d := d) (by omega) hd.1
  unfold Rc.holds
  rw [W_eq (n := r.xl * d) (by omega) (by omega), W_eq (n := r.xh * d) (by omega) (by omega), W_eq (n := r.yl * d) (by omega) (by omega), W_eq (n := r.yh * d) (by omega) (by omega)]
  simp only [Bool.and_eq_true, decide_eq_true_eq]
  omega
end Go.Proofs.YtdaliaafmcjikaaGreat
