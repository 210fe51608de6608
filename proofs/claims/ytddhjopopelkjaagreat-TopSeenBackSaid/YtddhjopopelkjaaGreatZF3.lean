/- A part of the proof: lemmas. -/
import Derived.Test.YtddhjopopelkjaaGreatZF2
import Derived.Test.YtddhjopopelkjaaGreatZw9
set_option linter.unusedVariables false
set_option linter.unusedSimpArgs false
namespace Go.Proofs.YtddhjopopelkjaaGreat
open Go Go.Sx

/-! ### Plain law: a way and a rectangle in its plane -/
/-- A number along a way, at both ends; at some weights. -/
def atW (c : Int × Int) (l m : Int) : Int := l * c.1 + m * c.2
def inSpan (cs : List (Int × Int)) : Prop := ∃ l m : Int, 0 < l ∧ 0 < m ∧ ∀ c ∈ cs, 0 ≤ atW c l m
/-- From weights that keep all numbers from being negative, towards other ones: there, or one number is nought. -/
theorem clipN {l0 m0 : Int} (h1 : 0 < l0) (h2 : 0 < m0) {l m : Int} (hl : 0 < l) (hm : 0 < m) : ∀ cs : List (Int × Int), (∀ c ∈ cs, 0 ≤ atW c l m) → ∃ a b : Int, 0 < a ∧ 0 < b ∧ (∀ c ∈ cs, 0 ≤ atW c a b) ∧ ((a = l0 ∧ b = m0) ∨ ∃ c ∈ cs, atW c a b = 0)
  | [], _ => ⟨l0, m0, h1, h2, by simp, .inl ⟨rfl, rfl⟩⟩
  | c :: cs, h => by
    obtain ⟨a, b, ha, hb, k1, k2⟩ := clipN h1 h2 hl hm cs fun c' hc => h c' (by simp [hc])
    have hT := h c (by simp)
    by_cases hc : 0 ≤ atW c a b
    · refine ⟨a, b, ha, hb, fun c' hc' => ?_, ?_⟩
      · rcases List.mem_cons.1 hc' with rfl | hc'
        · exact hc
        · exact k1 c' hc'
      · rcases k2 with k2 | ⟨c', g1, g2⟩
        · exact .inl k2
        · exact .inr ⟨c', by simp [g1], g2⟩
    · have hN : 0 < -atW c a b := by omega
      have comb : ∀ c' : Int × Int, atW c' (-atW c a b * l + atW c l m * a) (-atW c a b * m + atW c l m * b) = -atW c a b * atW c' l m + atW c l m * atW c' a b := by
        intro c'
        generalize atW c a b = N
        generalize atW c l m = T
        unfold atW; grind
      refine ⟨-atW c a b * l + atW c l m * a, -atW c a b * m + atW c l m * b, ?_, ?_, fun c' hc' => ?_, .inr ⟨c, by simp, ?_⟩⟩
      · have := Int.mul_pos hN hl
        have := Int.mul_nonneg hT (Int.le_of_lt ha)
        omega
      · have := Int.mul_pos hN hm
        have := Int.mul_nonneg hT (Int.le_of_lt hb)
        omega
      · rw [comb]
        rcases List.mem_cons.1 hc' with rfl | hc'
        · have : -atW c' a b * atW c' l m + atW c' l m * atW c' a b = 0 := by grind
          omega
        · have := Int.mul_nonneg (Int.le_of_lt hN) (h c' (by simp [hc']))
          have := Int.mul_nonneg hT (k1 c' hc')
          omega
      · rw [comb]; grind

/-! The reference cuts a way by shares. -/
/-- A number along the way: at its beginning, and by how much it changes. -/
def clipR : List (Int × Int) → Int → Int → Int → Int → Bool
  | [], n, d, m, k => decide (cmpQ n d m k ≤ 0) && decide (cmpQ n d 1 1 < 0) && decide (0 < cmpQ m k 0 1)
  | (a, v) :: l, n, d, m, k =>
    if v = 0 ∧ a < 0 then false
    else if 0 < v ∧ 0 < cmpQ (-a) v n d then clipR l (-a) v m k
    else if v < 0 ∧ cmpQ a (-v) m k < 0 then clipR l n d a (-v)
    else clipR l n d m k
theorem clipR_iff : ∀ (cs : List (Int × Int)) (n d m k : Int), 0 < d → 0 < k → 0 ≤ n → m ≤ k → (clipR cs n d m k = true ↔ ∃ T D : Int, 0 < T ∧ T < D ∧ n * D ≤ T * d ∧ T * k ≤ m * D ∧ ∀ c ∈ cs, 0 ≤ c.1 * D + T * c.2)
  | [], n, d, m, k, hd, hk, hn, hm => by
    unfold clipR cmpQ
    rw [Bool.and_eq_true, Bool.and_eq_true, decide_eq_true_eq, decide_eq_true_eq, decide_eq_true_eq, sgn_le, sgn_neg_iff, sgn_pos_iff]
    constructor
    · rintro ⟨⟨h1, h2⟩, h3⟩
      have hm0 : 0 < m := by omega
      have p1 := Int.mul_pos hm0 hd
      have p2 := Int.mul_nonneg hn (Int.le_of_lt hk)
      have p3 := Int.mul_lt_mul_of_pos_right (show n < d by omega) hk
      have p4 := Int.mul_le_mul_of_nonneg_right hm (Int.le_of_lt hd)
      have e1 : k * d = d * k := Int.mul_comm _ _
      refine ⟨n * k + m * d, 2 * (d * k), by omega, by omega, ?_, ?_, by simp⟩
      · have : (n * k + m * d) * d - n * (2 * (d * k)) = d * (m * d - n * k) := by grind
        have := Int.mul_nonneg (Int.le_of_lt hd) (show 0 ≤ m * d - n * k by omega)
        omega
      · have : m * (2 * (d * k)) - (n * k + m * d) * k = k * (m * d - n * k) := by grind
        have := Int.mul_nonneg (Int.le_of_lt hk) (show 0 ≤ m * d - n * k by omega)
        omega
    · rintro ⟨T, D, h1, h2, h3, h4, _⟩
      have hD : 0 < D := by omega
      refine ⟨⟨?_, ?_⟩, ?_⟩
      · have q1 := Int.mul_le_mul_of_nonneg_right h3 (Int.le_of_lt hk)
        have q2 := Int.mul_le_mul_of_nonneg_right h4 (Int.le_of_lt hd)
        have e : D * (n * k - m * d) = n * D * k - m * D * d := by grind
        have e2 : T * d * k = T * k * d := by grind
        have := (np_l hD).1 (show D * (n * k - m * d) ≤ 0 by omega)
        omega
      · have q := Int.mul_lt_mul_of_pos_right h2 hd
        have e : D * (n - d) = n * D - D * d := by grind
        have := (neg_l hD).1 (show D * (n - d) < 0 by omega)
        omega
      · have q := Int.mul_pos h1 hk
        have e : D * m = m * D := Int.mul_comm _ _
        have := (pos_l hD).1 (show 0 < D * m by omega)
        omega
  | (a, v) :: l, n, d, m, k, hd, hk, hn, hm => by
    rw [clipR]
    by_cases c1 : v = 0 ∧ a < 0
    · rw [if_pos c1]
      constructor
      · intro h; simp at h
      · rintro ⟨T, D, h1, h2, _, _, h5⟩
        have := h5 (a, v) (by simp)
        dsimp only at this
        rw [c1.1, Int.mul_zero] at this
        have := Int.mul_neg_of_neg_of_pos c1.2 (show 0 < D by omega)
        omega
    rw [if_neg c1]
    unfold cmpQ
    simp only [sgn_pos_iff, sgn_neg_iff]
    by_cases c2 : 0 < v ∧ 0 < -a * d - n * v
    · rw [if_pos c2]
      have q1 := Int.mul_nonneg hn (Int.le_of_lt c2.1)
      have hna : 0 < -a := by
        have : 0 < d * -a := by rw [Int.mul_comm]; omega
        exact (pos_l hd).1 this
      rw [clipR_iff l (-a) v m k c2.1 hk (by omega) hm]
      constructor
      · rintro ⟨T, D, h1, h2, h3, h4, h5⟩
        refine ⟨T, D, h1, h2, ?_, h4, fun c hc => ?_⟩
        · have r1 := Int.mul_le_mul_of_nonneg_right h3 (Int.le_of_lt hd)
          have r2 := Int.mul_le_mul_of_nonneg_right (show n * v ≤ -a * d by omega) (show 0 ≤ D by omega)
          have e1 : -a * d * D = -a * D * d := by grind
          have e2 : v * (n * D - T * d) = n * v * D - T * v * d := by grind
          have := (np_l c2.1).1 (show v * (n * D - T * d) ≤ 0 by omega)
          omega
        · rcases List.mem_cons.1 hc with rfl | hc
          · dsimp only
            have : -a * D = -(a * D) := Int.neg_mul _ _
            omega
          · exact h5 c hc
      · rintro ⟨T, D, h1, h2, h3, h4, h5⟩
        refine ⟨T, D, h1, h2, ?_, h4, fun c hc => h5 c (by simp [hc])⟩
        have := h5 (a, v) (by simp)
        dsimp only at this
        have : -a * D = -(a * D) := Int.neg_mul _ _
        omega
    rw [if_neg c2]
    by_cases c3 : v < 0 ∧ a * k - m * -v < 0
    · rw [if_pos c3]
      have hv : 0 < -v := by omega
      have q1 := Int.mul_le_mul_of_nonneg_right hm (Int.le_of_lt hv)
      have hav : a ≤ -v := by
        have : k * (a - -v) < 0 := by
          have e : k * (a - -v) = a * k - k * -v := by grind
          omega
        have := (neg_l hk).1 this
        omega
      rw [clipR_iff l n d a (-v) hd hv hn hav]
      constructor
      · rintro ⟨T, D, h1, h2, h3, h4, h5⟩
        refine ⟨T, D, h1, h2, h3, ?_, fun c hc => ?_⟩
        · have r1 := Int.mul_le_mul_of_nonneg_right h4 (Int.le_of_lt hk)
          have r2 := Int.mul_le_mul_of_nonneg_right (show a * k ≤ m * -v by omega) (show 0 ≤ D by omega)
          have e1 : a * D * k = a * k * D := by grind
          have e2 : -v * (T * k - m * D) = T * -v * k - m * -v * D := by grind
          have := (np_l hv).1 (show -v * (T * k - m * D) ≤ 0 by omega)
          omega
        · rcases List.mem_cons.1 hc with rfl | hc
          · dsimp only
            have : T * -v = -(T * v) := Int.mul_neg _ _
            omega
          · exact h5 c hc
      · rintro ⟨T, D, h1, h2, h3, h4, h5⟩
        refine ⟨T, D, h1, h2, h3, ?_, fun c hc => h5 c (by simp [hc])⟩
        have := h5 (a, v) (by simp)
        dsimp only at this
        have : T * -v = -(T * v) := Int.mul_neg _ _
        omega
    rw [if_neg c3, clipR_iff l n d m k hd hk hn hm]
    constructor
    · rintro ⟨T, D, h1, h2, h3, h4, h5⟩
      refine ⟨T, D, h1, h2, h3, h4, fun c hc => ?_⟩
      rcases List.mem_cons.1 hc with rfl | hc
      · dsimp only
        have hD : 0 < D := by omega
        rcases Int.lt_trichotomy v 0 with hv | hv | hv
        · have hx : m * -v ≤ a * k := by omega
          have r1 := Int.mul_le_mul_of_nonneg_right h4 (show 0 ≤ -v by omega)
          have r2 := Int.mul_le_mul_of_nonneg_right hx (Int.le_of_lt hD)
          have e1 : m * D * -v = m * -v * D := by grind
          have e2 : k * (a * D + T * v) = a * k * D - T * k * -v := by grind
          exact (nn_l hk).1 (show 0 ≤ k * (a * D + T * v) by omega)
        · subst hv
          rw [Int.mul_zero, Int.add_zero]
          exact Int.mul_nonneg (by omega) (Int.le_of_lt hD)
        · have hx : -a * d ≤ n * v := by omega
          have r1 := Int.mul_le_mul_of_nonneg_right h3 (show 0 ≤ v by omega)
          have r2 := Int.mul_le_mul_of_nonneg_right hx (Int.le_of_lt hD)
          have e1 : n * D * v = n * v * D := by grind
          have e2 : d * (a * D + T * v) = T * d * v - -a * d * D := by grind
          exact (nn_l hd).1 (show 0 ≤ d * (a * D + T * v) by omega)
      · exact h5 c hc
    · rintro ⟨T, D, h1, h2, h3, h4, h5⟩
      exact ⟨T, D, h1, h2, h3, h4, fun c hc => h5 c (by simp [hc])⟩
/-- By shares, or by weights. -/
theorem shares_iff {pd qd : Int} (h1 : 0 < pd) (h2 : 0 < qd) (cs : List (Int × Int)) : (∃ T D : Int, 0 < T ∧ T < D ∧ ∀ c ∈ cs, 0 ≤ c.1 * qd * D + T * (c.2 * pd - c.1 * qd)) ↔ inSpan cs := by
  constructor
  · rintro ⟨T, D, a, b, h⟩
    refine ⟨qd * (D - T), pd * T, Int.mul_pos h2 (by omega), Int.mul_pos h1 a, fun c hc => ?_⟩
    have := h c hc
    have e : atW c (qd * (D - T)) (pd * T) = c.1 * qd * D + T * (c.2 * pd - c.1 * qd) := by unfold atW; grind
    omega
  · rintro ⟨l, m, a, b, h⟩
    have k1 := Int.mul_pos a h1
    have k2 := Int.mul_pos b h2
    refine ⟨m * qd, l * pd + m * qd, k2, by omega, fun c hc => ?_⟩
    have := Int.mul_nonneg (Int.le_of_lt (Int.mul_pos h1 h2)) (h c hc)
    have e : c.1 * qd * (l * pd + m * qd) + m * qd * (c.2 * pd - c.1 * qd) = pd * qd * atW c l m := by unfold atW; grind
    omega
/-- How far a way is inside of the four sides of a rectangle, at both ends. -/
def rcN (r : Rc) (p q : P2d) : List (Int × Int) := [(p.x - r.xl * p.d, q.x - r.xl * q.d), (r.xh * p.d - p.x, r.xh * q.d - q.x), (p.y - r.yl * p.d, q.y - r.yl * q.d), (r.yh * p.d - p.y, r.yh * q.d - q.y)]
def flatR (r : Rc) (p q : P2d) : Bool := clipR ((rcN r p q).map fun c => (c.1 * q.d, c.2 * p.d - c.1 * q.d)) 0 1 1 1
theorem flatR_iff {r : Rc} {p q : P2d} (h1 : 0 < p.d) (h2 : 0 < q.d) : flatR r p q = true ↔ inSpan (rcN r p q) := by
  unfold flatR
  rw [clipR_iff _ 0 1 1 1 (by decide) (by decide) (by decide) (by decide), ← shares_iff h1 h2]
  constructor
  · rintro ⟨T, D, a, b, _, _, h⟩
    exact ⟨T, D, a, b, fun c hc => h _ (List.mem_map.2 ⟨c, hc, rfl⟩)⟩
  · rintro ⟨T, D, a, b, h⟩
    refine ⟨T, D, a, b, by omega, by omega, fun c hc => ?_⟩
    obtain ⟨c', hc', rfl⟩ := List.mem_map.1 hc
    exact h c' hc'

/-! The program: the middle, the edges, the ends. -/
def edgP (r : Rc) : List Wl := [⟨0, r.xl, r.yl, r.xh, r.yl⟩, ⟨0, r.xh, r.yl, r.xh, r.yh⟩, ⟨0, r.xh, r.yh, r.xl, r.yh⟩, ⟨0, r.xl, r.yh, r.xl, r.yl⟩]
def midX (p q : Pt) : Int := IntKind.i64.wrap (IntKind.i64.wrap (p.x * q.d) + IntKind.i64.wrap (q.x * p.d))
def midY (p q : Pt) : Int := IntKind.i64.wrap (IntKind.i64.wrap (p.y * q.d) + IntKind.i64.wrap (q.y * p.d))
def midD (p q : Pt) : Int := IntKind.i64.wrap (IntKind.i64.wrap (2 * p.d) * q.d)
def crosP (r : Rc) (p q : Pt) : Bool := r.has (midX p q) (midY p q) (midD p q) || (edgP r).any (touP p q) || (r.holds p.x p.y p.d || r.holds q.x q.y q.d)
theorem mid_eq {p q : Pt} (hp : PtR p) (hq : PtR q) : midX p q = p.x * q.d + q.x * p.d ∧ midY p q = p.y * q.d + q.y * p.d ∧ midD p q = 2 * p.d * q.d := by
  obtain ⟨a1, a2, a3, a4⟩ := hp
  obtain ⟨b1, b2, b3, b4⟩ := hq
  have m1 := mul_bd (a := q.x) (b := p.d) (A := 500000000) (B := 100000) (by omega) (by omega)
  have m2 := mul_bd (a := p.x) (b := q.d) (A := 500000000) (B := 100000) (by omega) (by omega)
  have m3 := mul_bd (a := q.y) (b := p.d) (A := 500000000) (B := 100000) (by omega) (by omega)
  have m4 := mul_bd (a := p.y) (b := q.d) (A := 500000000) (B := 100000) (by omega) (by omega)
  have m5 := mul_bd (a := 2 * p.d) (b := q.d) (A := 200000) (B := 100000) (by omega) (by omega)
  unfold midX midY midD
  rw [W_eq (n := q.x * p.d) (by omega) (by omega), W_eq (n := p.x * q.d) (by omega) (by omega), W_eq (n := q.y * p.d) (by omega) (by omega), W_eq (n := p.y * q.d) (by omega) (by omega), W_eq (n := 2 * p.d) (by omega) (by omega)]
  exact ⟨W_eq (by omega) (by omega), W_eq (by omega) (by omega), W_eq (by omega) (by omega)⟩
theorem edg_str {r : Rc} (hr : RcOk r) : Str ⟨0, r.xl, r.yl, r.xh, r.yl⟩ (r.xh - r.xl) 1 0 ∧ Str ⟨0, r.xh, r.yl, r.xh, r.yh⟩ (r.yh - r.yl) 0 1 ∧ Str ⟨0, r.xh, r.yh, r.xl, r.yh⟩ (r.xh - r.xl) (-1) 0 ∧ Str ⟨0, r.xl, r.yh, r.xl, r.yl⟩ (r.yh - r.yl) 0 (-1) := by
  obtain ⟨h1, h2, h3, h4, h5, h6⟩ := hr
  refine ⟨⟨?_, ?_, ?_, ?_, ?_, ?_, ?_, ?_, ?_, ?_⟩, ⟨?_, ?_, ?_, ?_, ?_, ?_, ?_, ?_, ?_, ?_⟩, ⟨?_, ?_, ?_, ?_, ?_, ?_, ?_, ?_, ?_, ?_⟩, ⟨?_, ?_, ?_, ?_, ?_, ?_, ?_, ?_, ?_, ?_⟩⟩ <;> (try dsimp only) <;> omega
theorem rcN_mem {r : Rc} {p q : P2d} {l m : Int} : (∀ c ∈ rcN r p q, 0 ≤ atW c l m) ↔ 0 ≤ l * (p.x - r.xl * p.d) + m * (q.x - r.xl * q.d) ∧ 0 ≤ l * (r.xh * p.d - p.x) + m * (r.xh * q.d - q.x) ∧ 0 ≤ l * (p.y - r.yl * p.d) + m * (q.y - r.yl * q.d) ∧ 0 ≤ l * (r.yh * p.d - p.y) + m * (r.yh * q.d - q.y) := by
  simp [rcN, atW]
theorem edge_meet {r : Rc} (hr : RcOk r) {p q : P2d} (h1 : 0 < p.d) (h2 : 0 < q.d) (l m : Int) (hl : 0 < l) (hm : 0 < m) :
    ((∀ c ∈ rcN r p q, 0 ≤ atW c l m) ∧ ∃ c ∈ rcN r p q, atW c l m = 0) → (meetW ⟨0, r.xl, r.yl, r.xh, r.yl⟩ (r.xh - r.xl) 1 0 p q ∨ meetW ⟨0, r.xh, r.yl, r.xh, r.yh⟩ (r.yh - r.yl) 0 1 p q ∨ meetW ⟨0, r.xh, r.yh, r.xl, r.yh⟩ (r.xh - r.xl) (-1) 0 p q ∨ meetW ⟨0, r.xl, r.yh, r.xl, r.yl⟩ (r.yh - r.yl) 0 (-1) p q) := by
  rintro ⟨h, c, hc, h0⟩
  rw [rcN_mem] at h
  obtain ⟨k1, k2, k3, k4⟩ := h
  have e1 : l * (r.xh * p.d - p.x) + m * (r.xh * q.d - q.x) = (r.xh - r.xl) * (l * p.d + m * q.d) - (l * (p.x - r.xl * p.d) + m * (q.x - r.xl * q.d)) := by grind
  have e2 : l * (r.yh * p.d - p.y) + m * (r.yh * q.d - q.y) = (r.yh - r.yl) * (l * p.d + m * q.d) - (l * (p.y - r.yl * p.d) + m * (q.y - r.yl * q.d)) := by grind
  unfold meetW bsP alP ful bes alo
  dsimp only
  simp only [rcN, List.mem_cons, List.not_mem_nil, or_false] at hc
  rcases hc with rfl | rfl | rfl | rfl <;> unfold atW at h0 <;> dsimp only at h0
  · refine .inr (.inr (.inr ⟨l, m, hl, hm, ?_, ?_, ?_⟩))
    · grind
    · grind
    · grind
  · refine .inr (.inl ⟨l, m, hl, hm, ?_, ?_, ?_⟩)
    · grind
    · grind
    · grind
  · refine .inl ⟨l, m, hl, hm, ?_, ?_, ?_⟩
    · grind
    · grind
    · grind
  · refine .inr (.inr (.inl ⟨l, m, hl, hm, ?_, ?_, ?_⟩))
    · grind
    · grind
    · grind
theorem meet_edge {r : Rc} (hr : RcOk r) {p q : P2d} (h1 : 0 < p.d) (h2 : 0 < q.d) (h : meetW ⟨0, r.xl, r.yl, r.xh, r.yl⟩ (r.xh - r.xl) 1 0 p q ∨ meetW ⟨0, r.xh, r.yl, r.xh, r.yh⟩ (r.yh - r.yl) 0 1 p q ∨ meetW ⟨0, r.xh, r.yh, r.xl, r.yh⟩ (r.xh - r.xl) (-1) 0 p q ∨ meetW ⟨0, r.xl, r.yh, r.xl, r.yl⟩ (r.yh - r.yl) 0 (-1) p q) : inSpan (rcN r p q) := by
  have key : ∀ l m : Int, 0 < l → 0 < m → 0 ≤ (r.xh - r.xl) * (l * p.d + m * q.d) ∧ 0 ≤ (r.yh - r.yl) * (l * p.d + m * q.d) := by
    intro l m hl hm
    have k1 := Int.mul_pos hl h1
    have k2 := Int.mul_pos hm h2
    have := hr.x
    have := hr.y
    exact ⟨Int.mul_nonneg (by omega) (by omega), Int.mul_nonneg (by omega) (by omega)⟩
  unfold meetW bsP alP ful bes alo at h
  dsimp only at h
  unfold inSpan
  rcases h with ⟨l, m, hl, hm, k1, k2, k3⟩ | ⟨l, m, hl, hm, k1, k2, k3⟩ | ⟨l, m, hl, hm, k1, k2, k3⟩ | ⟨l, m, hl, hm, k1, k2, k3⟩ <;> refine ⟨l, m, hl, hm, rcN_mem.2 ?_⟩ <;> obtain ⟨g1, g2⟩ := key l m hl hm <;> refine ⟨?_, ?_, ?_, ?_⟩ <;> grind
theorem crosP_iff {r : Rc} (hr : RcOk r) {p q : Pt} (hp : PtR p) (hq : PtR q) : crosP r p q = true ↔ inSpan (rcN r p.pl q.pl) := by
  obtain ⟨e1, e2, e3⟩ := mid_eq hp hq
  obtain ⟨s1, s2, s3, s4⟩ := edg_str hr
  have dp := hp.d0
  have dq := hq.d0
  have dp1 := hp.d1
  have dq1 := hq.d1
  have hD := Int.mul_pos (show 0 < 2 * p.d by omega) dq
  have hD2 := (mul_bd (a := 2 * p.d) (b := q.d) (A := 200000) (B := 100000) (by omega) (by omega)).2
  unfold crosP
  rw [e1, e2, e3, Bool.or_eq_true, Bool.or_eq_true, Bool.or_eq_true, rhas_iff hr ⟨hD, by omega⟩, rholds_iff hr ⟨dp, by omega⟩, rholds_iff hr ⟨dq, by omega⟩]
  have ea : (edgP r).any (touP p q) = true ↔ (meetW ⟨0, r.xl, r.yl, r.xh, r.yl⟩ (r.xh - r.xl) 1 0 p.pl q.pl ∨ meetW ⟨0, r.xh, r.yl, r.xh, r.yh⟩ (r.yh - r.yl) 0 1 p.pl q.pl ∨ meetW ⟨0, r.xh, r.yh, r.xl, r.yh⟩ (r.xh - r.xl) (-1) 0 p.pl q.pl ∨ meetW ⟨0, r.xl, r.yh, r.xl, r.yl⟩ (r.yh - r.yl) 0 (-1) p.pl q.pl) := by
    simp only [edgP, List.any_cons, List.any_nil, Bool.or_false, Bool.or_eq_true]
    rw [touP_iff s1 hp hq, touP_iff s2 hp hq, touP_iff s3 hp hq, touP_iff s4 hp hq]
  rw [ea]
  have mm : (0 ≤ p.x * q.d + q.x * p.d - r.xl * (2 * p.d * q.d) ∧ 0 ≤ r.xh * (2 * p.d * q.d) - (p.x * q.d + q.x * p.d) ∧ 0 ≤ p.y * q.d + q.y * p.d - r.yl * (2 * p.d * q.d) ∧ 0 ≤ r.yh * (2 * p.d * q.d) - (p.y * q.d + q.y * p.d)) ↔ ∀ c ∈ rcN r p.pl q.pl, 0 ≤ atW c q.d p.d := by
    rw [rcN_mem]
    unfold Pt.pl
    dsimp only
    have k1 : q.d * (p.x - r.xl * p.d) + p.d * (q.x - r.xl * q.d) = p.x * q.d + q.x * p.d - r.xl * (2 * p.d * q.d) := by grind
    have k2 : q.d * (r.xh * p.d - p.x) + p.d * (r.xh * q.d - q.x) = r.xh * (2 * p.d * q.d) - (p.x * q.d + q.x * p.d) := by grind
    have k3 : q.d * (p.y - r.yl * p.d) + p.d * (q.y - r.yl * q.d) = p.y * q.d + q.y * p.d - r.yl * (2 * p.d * q.d) := by grind
    have k4 : q.d * (r.yh * p.d - p.y) + p.d * (r.yh * q.d - q.y) = r.yh * (2 * p.d * q.d) - (p.y * q.d + q.y * p.d) := by grind
    rw [k1, k2, k3, k4]
  rw [mm]
  have big : ∀ a b : Int, 0 < a → 0 ≤ (b.natAbs + 1 : Int) * a + b := fun a b ha => by
    have := Int.mul_le_mul_of_nonneg_left (show 1 ≤ a by omega) (show (0 : Int) ≤ (b.natAbs : Int) + 1 by omega)
    omega
  have holdsIn : ∀ p q : P2d, (0 < p.x - r.xl * p.d ∧ 0 < r.xh * p.d - p.x ∧ 0 < p.y - r.yl * p.d ∧ 0 < r.yh * p.d - p.y) → ∃ N : Int, 0 < N ∧ 0 ≤ N * (p.x - r.xl * p.d) + 1 * (q.x - r.xl * q.d) ∧ 0 ≤ N * (r.xh * p.d - p.x) + 1 * (r.xh * q.d - q.x) ∧ 0 ≤ N * (p.y - r.yl * p.d) + 1 * (q.y - r.yl * q.d) ∧ 0 ≤ N * (r.yh * p.d - p.y) + 1 * (r.yh * q.d - q.y) := by
    rintro p q ⟨h1, h2, h3, h4⟩
    have mono : ∀ a b N : Int, 0 < a → (b.natAbs : Int) ≤ N → 0 ≤ N * a + 1 * b := fun a b N ha hN => by
      have := Int.mul_le_mul_of_nonneg_left (show 1 ≤ a by omega) (show 0 ≤ N by omega)
      omega
    refine ⟨((q.x - r.xl * q.d).natAbs : Int) + (r.xh * q.d - q.x).natAbs + (q.y - r.yl * q.d).natAbs + (r.yh * q.d - q.y).natAbs + 1, by omega, mono _ _ _ h1 (by omega), mono _ _ _ h2 (by omega), mono _ _ _ h3 (by omega), mono _ _ _ h4 (by omega)⟩
  constructor
  · rintro ((h | h) | h | h)
    · exact ⟨q.d, p.d, dq, dp, h⟩
    · exact meet_edge hr dp dq h
    · obtain ⟨N, h0, h1, h2, h3, h4⟩ := holdsIn p.pl q.pl h
      exact ⟨N, 1, h0, by omega, rcN_mem.2 ⟨h1, h2, h3, h4⟩⟩
    · obtain ⟨N, h0, h1, h2, h3, h4⟩ := holdsIn q.pl p.pl h
      exact ⟨1, N, by omega, h0, rcN_mem.2 ⟨by omega, by omega, by omega, by omega⟩⟩
  · rintro ⟨l, m, hl, hm, h⟩
    obtain ⟨a, b, ha, hb, k1, k2⟩ := clipN (l0 := q.d) (m0 := p.d) dq dp hl hm _ h
    rcases k2 with ⟨rfl, rfl⟩ | k2
    · exact .inl (.inl k1)
    · exact .inl (.inr (edge_meet hr dp dq a b ha hb ⟨k1, k2⟩))
end Go.Proofs.YtddhjopopelkjaaGreat
