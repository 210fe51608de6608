/- A part of the proof: lemmas. -/
import Derived.Test.YtddhjopopelkjaaGreatZF2
import Derived.Test.YtddhjopopelkjaaGreatZw9
set_option linter.unusedVariables false
set_option linter.unusedSimpArgs false
namespace Go.Proofs.YtddhjopopelkjaaGreat
open Go Go.Sx

/-! ### Plain law: where no wall is met, all is inside or all is outside -/
def crV (N M : P2d) (D x y : Int) : Int := (M.x - N.x) * (y * D - N.y) - (M.y - N.y) * (x * D - N.x)
/-- An edge meets the way between two points over one denominator. -/
def tch (N M : P2d) (D ax ay bx by' : Int) : Prop := ∃ s t l m : Int, 0 ≤ s ∧ 0 ≤ t ∧ 0 < s + t ∧ 0 ≤ l ∧ 0 ≤ m ∧ 0 < l + m ∧ (l * N.x + m * M.x) * (s + t) = (l + m) * (D * (s * ax + t * bx)) ∧ (l * N.y + m * M.y) * (s + t) = (l + m) * (D * (s * ay + t * by'))
theorem tch_swap {N M : P2d} {D ax ay bx by' : Int} (h : tch N M D ax ay bx by') : tch N M D bx by' ax ay := by
  obtain ⟨s, t, l, m, h1, h2, h3, h4, h5, h6, h7, h8⟩ := h
  exact ⟨t, s, l, m, h2, h1, by omega, h4, h5, h6, by rw [Int.add_comm t s, Int.add_comm (t * bx)]; exact h7, by rw [Int.add_comm t s, Int.add_comm (t * by')]; exact h8⟩
theorem tch_turn {N M : P2d} {D ax ay bx by' : Int} (h : tch N M D ax ay bx by') : tch M N D ax ay bx by' := by
  obtain ⟨s, t, l, m, h1, h2, h3, h4, h5, h6, h7, h8⟩ := h
  exact ⟨s, t, m, l, h1, h2, h3, h5, h4, by omega, by rw [Int.add_comm m l, Int.add_comm (m * M.x)]; exact h7, by rw [Int.add_comm m l, Int.add_comm (m * M.y)]; exact h8⟩
theorem tch_of {N M : P2d} {D ax ay bx by' : Int} (hy : N.y < M.y) {s t : Int} (hs : 0 ≤ s) (ht : 0 ≤ t) (hw : 0 < s + t) (h1 : N.y * (s + t) ≤ D * (s * ay + t * by')) (h2 : D * (s * ay + t * by') ≤ M.y * (s + t)) (h0 : s * crV N M D ax ay + t * crV N M D bx by' = 0) : tch N M D ax ay bx by' := by
  refine ⟨s, t, M.y * (s + t) - D * (s * ay + t * by'), D * (s * ay + t * by') - N.y * (s + t), hs, ht, hw, by omega, by omega, ?_, ?_, ?_⟩
  · have : (M.y - N.y) * (s + t) = M.y * (s + t) - N.y * (s + t) := Int.sub_mul _ _ _
    have := Int.mul_pos (show 0 < M.y - N.y by omega) hw
    omega
  · unfold crV at h0
    grind
  · grind
theorem tch_two {N M : P2d} {D ax ay bx by' : Int} (hy : N.y < M.y) {s t s' t' : Int} (hs : 0 ≤ s) (ht : 0 ≤ t) (hw : 0 < s + t) (hs' : 0 ≤ s') (ht' : 0 ≤ t') (hw' : 0 < s' + t') (h1 : N.y * (s + t) ≤ D * (s * ay + t * by')) (h2 : D * (s * ay + t * by') ≤ M.y * (s + t))
    (h1' : N.y * (s' + t') ≤ D * (s' * ay + t' * by')) (h2' : D * (s' * ay + t' * by') ≤ M.y * (s' + t')) (c1 : s * crV N M D ax ay + t * crV N M D bx by' < 0) (c2 : 0 ≤ s' * crV N M D ax ay + t' * crV N M D bx by') : tch N M D ax ay bx by' := by
  generalize hA : crV N M D ax ay = A at *
  generalize hB : crV N M D bx by' = B at *
  generalize hp : s * A + t * B = p at *
  generalize hq : s' * A + t' * B = q at *
  have k1 := Int.mul_nonneg c2 hs
  have k2 := Int.mul_nonneg c2 ht
  have k3 := Int.mul_nonneg (show 0 ≤ -p by omega) hs'
  have k4 := Int.mul_nonneg (show 0 ≤ -p by omega) ht'
  have k5 := Int.mul_pos (show 0 < -p by omega) hw'
  have k6 := Int.mul_nonneg c2 (Int.le_of_lt hw)
  have e0 : q * s + -p * s' + (q * t + -p * t') = q * (s + t) + -p * (s' + t') := by grind
  have eY : D * ((q * s + -p * s') * ay + (q * t + -p * t') * by') = q * (D * (s * ay + t * by')) + -p * (D * (s' * ay + t' * by')) := by grind
  have i1 := Int.mul_le_mul_of_nonneg_left h1 c2
  have i2 := Int.mul_le_mul_of_nonneg_left h2 c2
  have i3 := Int.mul_le_mul_of_nonneg_left h1' (show 0 ≤ -p by omega)
  have i4 := Int.mul_le_mul_of_nonneg_left h2' (show 0 ≤ -p by omega)
  refine tch_of hy (s := q * s + -p * s') (t := q * t + -p * t') (by omega) (by omega) (by omega) ?_ ?_ ?_
  · rw [e0, eY]
    have : N.y * (q * (s + t) + -p * (s' + t')) = q * (N.y * (s + t)) + -p * (N.y * (s' + t')) := by grind
    omega
  · rw [e0, eY]
    have : M.y * (q * (s + t) + -p * (s' + t')) = q * (M.y * (s + t)) + -p * (M.y * (s' + t')) := by grind
    omega
  · rw [hA, hB]
    have : (q * s + -p * s') * A + (q * t + -p * t') * B = q * (s * A + t * B) + -p * (s' * A + t' * B) := by grind
    rw [this, hp, hq]; grind
/-- On which side of an edge a point lies. -/
def detE (p : P2d) (D ax ay bx by' : Int) : Int := (bx - ax) * (p.y - ay * D) - (by' - ay) * (p.x - ax * D)
def upE (p : P2d) (D ax ay bx by' : Int) : Prop := ay * D ≤ p.y ∧ p.y < by' * D ∧ 0 < detE p D ax ay bx by'
def rgE (N M : P2d) (D x y : Int) : Prop := N.y < y * D ∧ y * D ≤ M.y ∧ crV N M D x y < 0
theorem edge_up {N M : P2d} {D ax ay bx by' : Int} (hD : 0 < D) (hy : N.y ≤ M.y) (hab : ay ≤ by') (nt : ¬ tch N M D ax ay bx by') :
    (upE N D ax ay bx by' ↔ upE M D ax ay bx by') ↔ (rgE N M D ax ay ↔ rgE N M D bx by') := by
  have hm : ay * D ≤ by' * D := Int.mul_le_mul_of_nonneg_right hab (Int.le_of_lt hD)
  by_cases hyy : N.y = M.y
  · -- a way along X
    have r1 : ∀ x y, ¬ rgE N M D x y := by rintro x y ⟨a, b, _⟩; omega
    have key : upE N D ax ay bx by' ↔ upE M D ax ay bx by' := by
      by_cases hl : ay * D ≤ N.y ∧ N.y < by' * D
      · have dd : detE N D ax ay bx by' - detE M D ax ay bx by' = (by' - ay) * (M.x - N.x) := by unfold detE; rw [hyy]; grind
        have hw : by' * D - ay * D = (by' - ay) * D := by rw [Int.sub_mul]
        have t1 : ∀ s, s = by' * D - N.y → ∀ t, t = N.y - ay * D → D * (s * ax + t * bx) = N.x * ((by' - ay) * D) + D * detE N D ax ay bx by' := by
          rintro s rfl t rfl; unfold detE; grind
        have t2 : ∀ s, s = by' * D - N.y → ∀ t, t = N.y - ay * D → D * (s * ay + t * by') = N.y * ((by' - ay) * D) := by
          rintro s rfl t rfl; grind
        unfold upE
        rw [← hyy]
        constructor
        · rintro ⟨h1, h2, h3⟩
          refine ⟨h1, h2, ?_⟩
          by_cases h4 : 0 < detE M D ax ay bx by'
          · exact h4
          exfalso
          refine nt ⟨by' * D - N.y, N.y - ay * D, -detE M D ax ay bx by', detE N D ax ay bx by', by omega, by omega, by omega, by omega, by omega, by omega, ?_, ?_⟩
          · rw [t1 _ rfl _ rfl, show by' * D - N.y + (N.y - ay * D) = (by' - ay) * D by omega]
            generalize detE N D ax ay bx by' = u at *
            generalize detE M D ax ay bx by' = v at *
            grind
          · rw [t2 _ rfl _ rfl, show by' * D - N.y + (N.y - ay * D) = (by' - ay) * D by omega, ← hyy]
            generalize detE N D ax ay bx by' = u at *
            generalize detE M D ax ay bx by' = v at *
            grind
        · rintro ⟨h1, h2, h3⟩
          refine ⟨h1, h2, ?_⟩
          by_cases h4 : 0 < detE N D ax ay bx by'
          · exact h4
          exfalso
          refine nt ⟨by' * D - N.y, N.y - ay * D, detE M D ax ay bx by', -detE N D ax ay bx by', by omega, by omega, by omega, by omega, by omega, by omega, ?_, ?_⟩
          · rw [t1 _ rfl _ rfl, show by' * D - N.y + (N.y - ay * D) = (by' - ay) * D by omega]
            generalize detE N D ax ay bx by' = u at *
            generalize detE M D ax ay bx by' = v at *
            grind
          · rw [t2 _ rfl _ rfl, show by' * D - N.y + (N.y - ay * D) = (by' - ay) * D by omega, ← hyy]
            generalize detE N D ax ay bx by' = u at *
            generalize detE M D ax ay bx by' = v at *
            grind
      · unfold upE
        rw [← hyy]
        constructor <;> (rintro ⟨h1, h2, h3⟩; exact absurd ⟨h1, h2⟩ hl)
    exact ⟨fun _ => ⟨fun h => absurd h (r1 _ _), fun h => absurd h (r1 _ _)⟩, fun _ => key⟩
  have hy : N.y < M.y := by omega
  -- the point of the edge at the level of one of both points
  have lvl : ∀ p : P2d, ay * D ≤ p.y → p.y < by' * D → 0 ≤ by' * D - p.y ∧ 0 ≤ p.y - ay * D ∧ 0 < (by' * D - p.y) + (p.y - ay * D) ∧ D * ((by' * D - p.y) * ay + (p.y - ay * D) * by') = p.y * ((by' * D - p.y) + (p.y - ay * D)) := by
    intro p h1 h2
    refine ⟨by omega, by omega, by omega, by grind⟩
  have crN : (by' * D - N.y) * crV N M D ax ay + (N.y - ay * D) * crV N M D bx by' = -((M.y - N.y) * D * detE N D ax ay bx by') := by unfold crV detE; grind
  have crM : (by' * D - M.y) * crV N M D ax ay + (M.y - ay * D) * crV N M D bx by' = -((M.y - N.y) * D * detE M D ax ay bx by') := by unfold crV detE; grind
  have hp : 0 < (M.y - N.y) * D := Int.mul_pos (by omega) hD
  have sN : ∀ v, -((M.y - N.y) * D * v) < 0 ↔ 0 < v := fun v => by have := pos_l (a := v) hp; omega
  have sN2 : ∀ v, 0 ≤ -((M.y - N.y) * D * v) ↔ v ≤ 0 := fun v => by have := np_l (a := v) hp; omega
  have one : D * (1 * ay + 0 * by') = ay * D ∧ D * (0 * ay + 1 * by') = by' * D := by constructor <;> grind
  have cA : 1 * crV N M D ax ay + 0 * crV N M D bx by' = crV N M D ax ay := by omega
  have cB : 0 * crV N M D ax ay + 1 * crV N M D bx by' = crV N M D bx by' := by omega
  -- two points of the edge at levels between those of both points lie on one side
  have two := fun {s t s' t' : Int} => @tch_two N M D ax ay bx by' hy s t s' t'
  by_cases a0 : ay * D ≤ N.y
  · by_cases b0 : by' * D ≤ N.y
    · unfold upE rgE; constructor <;> intro _ <;> constructor <;> (rintro ⟨h1, h2, h3⟩; omega)
    obtain ⟨l1, l2, l3, l4⟩ := lvl N a0 (by omega)
    by_cases b1 : by' * D ≤ M.y
    · -- up into the zone
      have key : 0 < detE N D ax ay bx by' ↔ crV N M D bx by' < 0 := by
        constructor
        · intro h
          by_cases hc : crV N M D bx by' < 0
          · exact hc
          exact absurd (two (s' := 0) (t' := 1) l1 l2 l3 (by omega) (by omega) (by omega) (by rw [l4]; omega) (by rw [l4]; exact Int.mul_le_mul_of_nonneg_right (Int.le_of_lt hy) (Int.le_of_lt l3)) (by rw [one.2]; omega) (by rw [one.2]; omega) (by rw [crN]; exact (sN _).2 h) (by rw [cB]; omega)) nt
        · intro h
          by_cases hc : 0 < detE N D ax ay bx by'
          · exact hc
          exact absurd (two (s := 0) (t := 1) (by omega) (by omega) (by omega) l1 l2 l3 (by rw [one.2]; omega) (by rw [one.2]; omega) (by rw [l4]; omega) (by rw [l4]; exact Int.mul_le_mul_of_nonneg_right (Int.le_of_lt hy) (Int.le_of_lt l3)) (by rw [cB]; exact h) (by rw [crN]; exact (sN2 _).2 (by omega))) nt
      unfold upE rgE
      rw [← key]
      generalize detE N D ax ay bx by' = u at *
      constructor
      · intro h
        constructor
        · rintro ⟨h1, _, _⟩; omega
        · rintro ⟨_, _, h3⟩
          have := h.1 ⟨a0, by omega, h3⟩
          omega
      · intro h
        constructor
        · rintro ⟨_, _, h3⟩
          have := h.2 ⟨by omega, b1, h3⟩
          omega
        · rintro ⟨_, h2, _⟩; omega
    · -- past both
      obtain ⟨m1, m2, m3, m4⟩ := lvl M (by omega) (by omega)
      have key : 0 < detE N D ax ay bx by' ↔ 0 < detE M D ax ay bx by' := by
        constructor
        · intro h
          by_cases hc : 0 < detE M D ax ay bx by'
          · exact hc
          exact absurd (two l1 l2 l3 m1 m2 m3 (by rw [l4]; omega) (by rw [l4]; exact Int.mul_le_mul_of_nonneg_right (Int.le_of_lt hy) (Int.le_of_lt l3)) (by rw [m4]; exact Int.mul_le_mul_of_nonneg_right (Int.le_of_lt hy) (Int.le_of_lt m3)) (by rw [m4]; omega) (by rw [crN]; exact (sN _).2 h) (by rw [crM]; exact (sN2 _).2 (by omega))) nt
        · intro h
          by_cases hc : 0 < detE N D ax ay bx by'
          · exact hc
          exact absurd (two m1 m2 m3 l1 l2 l3 (by rw [m4]; exact Int.mul_le_mul_of_nonneg_right (Int.le_of_lt hy) (Int.le_of_lt m3)) (by rw [m4]; omega) (by rw [l4]; omega) (by rw [l4]; exact Int.mul_le_mul_of_nonneg_right (Int.le_of_lt hy) (Int.le_of_lt l3)) (by rw [crM]; exact (sN _).2 h) (by rw [crN]; exact (sN2 _).2 (by omega))) nt
      unfold upE rgE
      rw [key]
      constructor
      · intro _; constructor <;> (rintro ⟨h1, h2, h3⟩; omega)
      · intro _
        constructor
        · rintro ⟨_, _, h3⟩; exact ⟨by omega, by omega, h3⟩
        · rintro ⟨_, _, h3⟩; exact ⟨by omega, by omega, h3⟩
  by_cases a1 : ay * D ≤ M.y
  · by_cases b1 : by' * D ≤ M.y
    · -- in the zone
      have key : crV N M D ax ay < 0 ↔ crV N M D bx by' < 0 := by
        constructor
        · intro h
          by_cases hc : crV N M D bx by' < 0
          · exact hc
          exact absurd (two (s := 1) (t := 0) (s' := 0) (t' := 1) (by omega) (by omega) (by omega) (by omega) (by omega) (by omega) (by rw [one.1]; omega) (by rw [one.1]; omega) (by rw [one.2]; omega) (by rw [one.2]; omega) (by rw [cA]; exact h) (by rw [cB]; omega)) nt
        · intro h
          by_cases hc : crV N M D ax ay < 0
          · exact hc
          exact absurd (two (s := 0) (t := 1) (s' := 1) (t' := 0) (by omega) (by omega) (by omega) (by omega) (by omega) (by omega) (by rw [one.2]; omega) (by rw [one.2]; omega) (by rw [one.1]; omega) (by rw [one.1]; omega) (by rw [cB]; exact h) (by rw [cA]; omega)) nt
      unfold upE rgE
      rw [key]
      constructor
      · intro _
        constructor
        · rintro ⟨_, _, h3⟩; exact ⟨by omega, by omega, h3⟩
        · rintro ⟨_, _, h3⟩; exact ⟨by omega, by omega, h3⟩
      · intro _; constructor <;> (rintro ⟨h1, h2, h3⟩; omega)
    · -- up out of the zone
      obtain ⟨m1, m2, m3, m4⟩ := lvl M a1 (by omega)
      have key : 0 < detE M D ax ay bx by' ↔ crV N M D ax ay < 0 := by
        constructor
        · intro h
          by_cases hc : crV N M D ax ay < 0
          · exact hc
          exact absurd (two (s' := 1) (t' := 0) m1 m2 m3 (by omega) (by omega) (by omega) (by rw [m4]; exact Int.mul_le_mul_of_nonneg_right (Int.le_of_lt hy) (Int.le_of_lt m3)) (by rw [m4]; omega) (by rw [one.1]; omega) (by rw [one.1]; omega) (by rw [crM]; exact (sN _).2 h) (by rw [cA]; omega)) nt
        · intro h
          by_cases hc : 0 < detE M D ax ay bx by'
          · exact hc
          exact absurd (two (s := 1) (t := 0) (by omega) (by omega) (by omega) m1 m2 m3 (by rw [one.1]; omega) (by rw [one.1]; omega) (by rw [m4]; exact Int.mul_le_mul_of_nonneg_right (Int.le_of_lt hy) (Int.le_of_lt m3)) (by rw [m4]; omega) (by rw [cA]; exact h) (by rw [crM]; exact (sN2 _).2 (by omega))) nt
      unfold upE rgE
      rw [← key]
      generalize detE M D ax ay bx by' = u at *
      constructor
      · intro h
        constructor
        · rintro ⟨_, _, h3⟩
          have := h.2 ⟨a1, by omega, h3⟩
          omega
        · rintro ⟨_, h2, _⟩; omega
      · intro h
        constructor
        · rintro ⟨h1, _, _⟩; omega
        · rintro ⟨_, _, h3⟩
          have := h.1 ⟨by omega, a1, h3⟩
          omega
  · unfold upE rgE; constructor <;> intro _ <;> constructor <;> (rintro ⟨h1, h2, h3⟩; omega)
end Go.Proofs.YtddhjopopelkjaaGreat
