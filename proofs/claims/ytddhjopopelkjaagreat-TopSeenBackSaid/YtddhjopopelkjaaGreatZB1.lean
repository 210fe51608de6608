/- A part of the proof: lemmas. -/
import Derived.Test.YtddhjopopelkjaaGreatZF15
import Derived.Test.YtddhjopopelkjaaGreatZF6
set_option linter.unusedVariables false
set_option linter.unusedSimpArgs false
namespace Go.Proofs.YtddhjopopelkjaaGreat
open Go Go.Sx

/-! ### HallBothWays: what the program says of a way -/
theorem any_iff {h : Hal} (g : h.fine) {p q : Pt} (hp : PtR p) (hq : PtR q) : (wls h.cs).any (touP p q) = true ↔ ∃ w ∈ wls h.cs, ∃ n sx sy, Str w n sx sy ∧ meetW w n sx sy p.pl q.pl := by
  rw [List.any_eq_true]
  constructor
  · rintro ⟨w, hw, ht⟩
    obtain ⟨n, sx, sy, hs⟩ := wls_str g.st w hw
    exact ⟨w, hw, n, sx, sy, hs, (touP_iff hs hp hq).1 ht⟩
  · rintro ⟨w, hw, n, sx, sy, hs, hm⟩
    exact ⟨w, hw, (touP_iff hs hp hq).2 hm⟩
theorem blkA_iff {h : Hal} {s : Stg} (g : Sit h s) {p q : Pt} (hp : PtH p) (hq : PtH q) : ∀ (l : List Can) (j : Nat), h.ks.drop j = l → (blkA h s p q j l = true ↔ ∃ i, ∃ hi : i < h.ks.length, j ≤ i ∧ blkS h.ks[i].rc (hgtAt h s i) p q)
  | [], j, hl => by
    have hj : h.ks.length ≤ j := by
      rcases Nat.lt_or_ge j h.ks.length with hj | hj
      · rw [List.drop_eq_getElem_cons hj] at hl; cases hl
      · exact hj
    rw [blkA]
    constructor
    · intro h; cases h
    · rintro ⟨i, hi, h1, _⟩; omega
  | c :: l, j, hl => by
    have hj : j < h.ks.length := by
      rcases Nat.lt_or_ge j h.ks.length with hj | hj
      · exact hj
      · rw [List.drop_of_length_le hj] at hl; cases hl
    rw [List.drop_eq_getElem_cons hj] at hl
    simp only [List.cons.injEq] at hl
    obtain ⟨rfl, hl⟩ := hl
    have hb := hgt_bd g hj
    have ht := g.fine.ht
    rw [blkA, Bool.or_eq_true, blkA_iff g hp hq l (j + 1) hl, blkP_iff (rcOk_of (can_all g.fine hj).1) ⟨by omega, by omega⟩ hp hq]
    constructor
    · rintro (h1 | ⟨i, hi, h1, h2⟩)
      · exact ⟨j, hj, Nat.le_refl _, h1⟩
      · exact ⟨i, hi, by omega, h2⟩
    · rintro ⟨i, hi, h1, h2⟩
      by_cases e : i = j
      · subst e; exact .inl h2
      · exact .inr ⟨i, hi, by omega, h2⟩
/-- A way is free. -/
structure Free (h : Hal) (s : Stg) (p q : Pt) : Prop where
  z : zBad h p q = false
  w : ∀ w ∈ wls h.cs, ∀ n sx sy, Str w n sx sy → ¬ meetW w n sx sy p.pl q.pl
  m : inPlan h (midX p q) (midY p q) (midD p q) = true
  k : ∀ i (hi : i < h.ks.length), ¬ blkS h.ks[i].rc (hgtAt h s i) p q
theorem str_uniq {w : Wl} {n sx sy m tx ty : Int} (h : Str w n sx sy) (g : Str w m tx ty) : n = m ∧ sx = tx ∧ sy = ty := by
  have h1 := h.ln
  have h2 := g.ln
  exact ⟨h1.2.2.1.symm.trans h2.2.2.1, h1.2.2.2.1.symm.trans h2.2.2.2.1, h1.2.2.2.2.symm.trans h2.2.2.2.2⟩
theorem free_iff {h : Hal} {s : Stg} (g : Sit h s) {p q : Pt} (hp : PtH p) (hq : PtH q) : freeP h s p q = true ↔ Free h s p q := by
  unfold freeP
  rw [Bool.and_eq_true, Bool.and_eq_true, Bool.and_eq_true, Bool.not_eq_true', Bool.not_eq_true', Bool.not_eq_true']
  constructor
  · rintro ⟨h1, h2, h3, h4⟩
    refine ⟨h1, fun w hw n sx sy hs hm => ?_, h3, fun i hi hb => ?_⟩
    · have := (any_iff g.fine hp.r hq.r).2 ⟨w, hw, n, sx, sy, hs, hm⟩
      rw [h2] at this; cases this
    · have := (blkA_iff g hp hq h.ks 0 rfl).2 ⟨i, hi, Nat.zero_le _, hb⟩
      rw [h4] at this; cases this
  · rintro ⟨h1, h2, h3, h4⟩
    refine ⟨h1, ?_, h3, ?_⟩
    · rw [Bool.eq_false_iff]
      intro hh
      obtain ⟨w, hw, n, sx, sy, hs, hm⟩ := (any_iff g.fine hp.r hq.r).1 hh
      exact h2 w hw n sx sy hs hm
    · rw [Bool.eq_false_iff]
      intro hh
      obtain ⟨i, hi, _, hb⟩ := (blkA_iff g hp hq h.ks 0 rfl).1 hh
      exact h4 i hi hb
theorem zBad_swap (h : Hal) (p q : Pt) : zBad h p q = zBad h q p := by
  unfold zBad
  generalize decide (p.z = 0) = a
  generalize decide (q.z = 0) = b
  generalize decide (p.z = IntKind.i64.wrap (h.ht * p.d)) = c
  generalize decide (q.z = IntKind.i64.wrap (h.ht * q.d)) = d
  generalize decide (p.z < 0) = e
  generalize decide (q.z < 0) = f
  generalize decide (IntKind.i64.wrap (h.ht * p.d) < p.z) = x
  generalize decide (IntKind.i64.wrap (h.ht * q.d) < q.z) = y
  revert a b c d e f x y
  decide
theorem mid_swap {p q : Pt} (hp : PtR p) (hq : PtR q) : midX p q = midX q p ∧ midY p q = midY q p ∧ midD p q = midD q p := by
  obtain ⟨e1, e2, e3⟩ := mid_eq hp hq
  obtain ⟨g1, g2, g3⟩ := mid_eq hq hp
  rw [e1, e2, e3, g1, g2, g3]
  refine ⟨Int.add_comm _ _, Int.add_comm _ _, by grind⟩
/-- A way back. -/
theorem Free.back {h : Hal} {s : Stg} {p q : Pt} (hp : PtR p) (hq : PtR q) (f : Free h s p q) : Free h s q p := by
  obtain ⟨h1, h2, h3, h4⟩ := f
  obtain ⟨e1, e2, e3⟩ := mid_swap hp hq
  refine ⟨by rw [← zBad_swap]; exact h1, fun w hw n sx sy hs hm => h2 w hw n sx sy hs (meetW_swap.1 hm), by rw [← e1, ← e2, ← e3]; exact h3, fun i hi hb => h4 i hi (blkS_swap.1 hb)⟩
end Go.Proofs.YtddhjopopelkjaaGreat
