/- A part of the proof: lemmas. -/
import Derived.Test.YtjpmeaagnhojgaaGreatB1
set_option linter.unusedVariables false
set_option linter.unusedSimpArgs false
namespace Go.Proofs.YtjpmeaagnhojgaaGreat
open Go Go.Sx

/-! ### A part of a free way is free -/
/-- A point between both ends. -/
structure Btw (p q m : Pt) (k a b : Int) : Prop where
  k0 : 0 < k
  a0 : 0 < a
  b0 : 0 < b
  x : k * m.x = a * p.x + b * q.x
  y : k * m.y = a * p.y + b * q.y
  z : k * m.z = a * p.z + b * q.z
  d : k * m.d = a * p.d + b * q.d
theorem Btw.flip {p q m : Pt} {k a b : Int} (h : Btw p q m k a b) : Btw q p m k b a := by
  obtain ⟨h1, h2, h3, h4, h5, h6, h7⟩ := h
  exact ⟨h1, h3, h2, by omega, by omega, by omega, by omega⟩
theorem zB_iff {h : Hal} (hh : 0 ≤ h.ht ∧ h.ht ≤ 5000) {p q : Pt} (hp : PtH p) (hq : PtH q) : zBad h p q = false ↔ (0 ≤ p.z ∧ 0 ≤ q.z) ∧ (p.z ≤ h.ht * p.d ∧ q.z ≤ h.ht * q.d) ∧ ¬(p.z = 0 ∧ q.z = 0) ∧ ¬(p.z = h.ht * p.d ∧ q.z = h.ht * q.d) := by
  unfold zBad
  rw [(zOff_eq hh hp).2.1, (zOff_eq hh hq).2.1]
  simp only [Bool.or_eq_false_iff, Bool.and_eq_false_iff, decide_eq_false_iff_not]
  omega
theorem btw_z {h : Hal} {p q m : Pt} {k a b : Int} (hb : Btw p q m k a b) (hz : (0 ≤ p.z ∧ 0 ≤ q.z) ∧ (p.z ≤ h.ht * p.d ∧ q.z ≤ h.ht * q.d) ∧ ¬(p.z = 0 ∧ q.z = 0) ∧ ¬(p.z = h.ht * p.d ∧ q.z = h.ht * q.d)) : 0 < m.z ∧ m.z < h.ht * m.d := by
  obtain ⟨⟨z1, z2⟩, ⟨z3, z4⟩, z5, z6⟩ := hz
  have a1 := Int.mul_nonneg (Int.le_of_lt hb.a0) z1
  have a2 := Int.mul_nonneg (Int.le_of_lt hb.b0) z2
  have a3 := Int.mul_nonneg (Int.le_of_lt hb.a0) (show 0 ≤ h.ht * p.d - p.z by omega)
  have a4 := Int.mul_nonneg (Int.le_of_lt hb.b0) (show 0 ≤ h.ht * q.d - q.z by omega)
  constructor
  · refine (pos_l hb.k0).1 ?_
    rw [hb.z]
    by_cases c : p.z = 0
    · have := Int.mul_pos hb.b0 (show 0 < q.z by omega)
      omega
    · have := Int.mul_pos hb.a0 (show 0 < p.z by omega)
      omega
  · have e : k * (h.ht * m.d - m.z) = a * (h.ht * p.d - p.z) + b * (h.ht * q.d - q.z) := by
      have : k * (h.ht * m.d - m.z) = h.ht * (k * m.d) - k * m.z := by grind
      rw [this, hb.d, hb.z]; grind
    have : 0 < k * (h.ht * m.d - m.z) := by
      rw [e]
      by_cases c : p.z = h.ht * p.d
      · have := Int.mul_pos hb.b0 (show 0 < h.ht * q.d - q.z by omega)
        omega
      · have := Int.mul_pos hb.a0 (show 0 < h.ht * p.d - p.z by omega)
        omega
    have := (pos_l hb.k0).1 this
    omega
theorem lin3 {k a b l m u v w : Int} (h : k * w = a * u + b * v) : (l * k + m * a) * u + m * b * v = k * (l * u + m * w) := by
  have : k * (l * u + m * w) = l * k * u + m * (k * w) := by grind
  rw [this, h]; grind
theorem meet_part {w : Wl} {n sx sy : Int} {p q m : Pt} {k a b : Int} (hb : Btw p q m k a b) (hm : meetW w n sx sy p.pl m.pl) : meetW w n sx sy p.pl q.pl := by
  obtain ⟨l, r, hl, hr, e1, e2, e3⟩ := hm
  have k0 := hb.k0
  have a0 := hb.a0
  have b0 := hb.b0
  have eb : k * bsP w sx sy m.pl = a * bsP w sx sy p.pl + b * bsP w sx sy q.pl := by
    have hx := hb.x
    have hy := hb.y
    have hd := hb.d
    unfold bsP bes Pt.pl
    dsimp only
    have : k * (sx * (m.y - w.fy * m.d) - sy * (m.x - w.fx * m.d)) = sx * (k * m.y - w.fy * (k * m.d)) - sy * (k * m.x - w.fx * (k * m.d)) := by grind
    rw [this, hx, hy, hd]; grind
  have ea : k * alP w sx sy m.pl = a * alP w sx sy p.pl + b * alP w sx sy q.pl := by
    have hx := hb.x
    have hy := hb.y
    have hd := hb.d
    unfold alP alo Pt.pl
    dsimp only
    have : k * (sx * (m.x - w.fx * m.d) + sy * (m.y - w.fy * m.d)) = sx * (k * m.x - w.fx * (k * m.d)) + sy * (k * m.y - w.fy * (k * m.d)) := by grind
    rw [this, hx, hy, hd]; grind
  have ed : k * m.pl.d = a * p.pl.d + b * q.pl.d := hb.d
  refine ⟨l * k + r * a, r * b, by have := Int.mul_pos hl k0; have := Int.mul_pos hr a0; omega, Int.mul_pos hr b0, ?_, ?_, ?_⟩
  · rw [lin3 eb, e1, Int.mul_zero]
  · rw [lin3 ea]; exact Int.mul_nonneg (Int.le_of_lt k0) e2
  · rw [lin3 ea, lin3 ed]
    have := Int.mul_le_mul_of_nonneg_left e3 (Int.le_of_lt k0)
    have e : ful n sx sy * (k * (l * p.pl.d + r * m.pl.d)) = k * (ful n sx sy * (l * p.pl.d + r * m.pl.d)) := by grind
    rw [e]; exact this
theorem blk_part {r : Rc} {ht : Int} {p q m : Pt} {k a b : Int} (hb : Btw p q m k a b) (hm : blkS r ht p m) : blkS r ht p q := by
  obtain ⟨l, t, hl, ht', e1, e2⟩ := hm
  have k0 := hb.k0
  have a0 := hb.a0
  have b0 := hb.b0
  rw [rcN_mem] at e2
  obtain ⟨g1, g2, g3, g4⟩ := e2
  have lz : k * (m.z - ht * m.d) = a * (p.z - ht * p.d) + b * (q.z - ht * q.d) := by
    have : k * (m.z - ht * m.d) = k * m.z - ht * (k * m.d) := by grind
    rw [this, hb.z, hb.d]; grind
  have lx : ∀ c : Int, k * (m.x - c * m.d) = a * (p.x - c * p.d) + b * (q.x - c * q.d) := by
    intro c
    have : k * (m.x - c * m.d) = k * m.x - c * (k * m.d) := by grind
    rw [this, hb.x, hb.d]; grind
  have ly : ∀ c : Int, k * (m.y - c * m.d) = a * (p.y - c * p.d) + b * (q.y - c * q.d) := by
    intro c
    have : k * (m.y - c * m.d) = k * m.y - c * (k * m.d) := by grind
    rw [this, hb.y, hb.d]; grind
  have lx' : ∀ c : Int, k * (c * m.d - m.x) = a * (c * p.d - p.x) + b * (c * q.d - q.x) := by
    intro c
    have := lx c
    have : k * (c * m.d - m.x) = -(k * (m.x - c * m.d)) := by grind
    rw [this, lx c]; grind
  have ly' : ∀ c : Int, k * (c * m.d - m.y) = a * (c * p.d - p.y) + b * (c * q.d - q.y) := by
    intro c
    have : k * (c * m.d - m.y) = -(k * (m.y - c * m.d)) := by grind
    rw [this, ly c]; grind
  refine ⟨l * k + t * a, t * b, by have := Int.mul_pos hl k0; have := Int.mul_pos ht' a0; omega, Int.mul_pos ht' b0, ?_, ?_⟩
  · rw [lin3 lz, e1, Int.mul_zero]
  · rw [rcN_mem]
    have nn := fun v (hv : 0 ≤ v) => Int.mul_nonneg (Int.le_of_lt k0) hv
    refine ⟨?_, ?_, ?_, ?_⟩
    · show 0 ≤ _ * (p.x - r.xl * p.d) + _ * (q.x - r.xl * q.d)
      rw [lin3 (lx r.xl)]; exact nn _ g1
    · show 0 ≤ _ * (r.xh * p.d - p.x) + _ * (r.xh * q.d - q.x)
      rw [lin3 (lx' r.xh)]; exact nn _ g2
    · show 0 ≤ _ * (p.y - r.yl * p.d) + _ * (q.y - r.yl * q.d)
      rw [lin3 (ly r.yl)]; exact nn _ g3
    · show 0 ≤ _ * (r.yh * p.d - p.y) + _ * (r.yh * q.d - q.y)
      rw [lin3 (ly' r.yh)]; exact nn _ g4
theorem free_part {h : Hal} {s : Stg} (g : Sit h s) {p q m : Pt} (hp : PtH p) (hq : PtH q) (hm : PtH m) {k a b : Int} (hb : Btw p q m k a b) (f : Free h s p q) : Free h s p m := by
  have hh : 0 ≤ h.ht ∧ h.ht ≤ 5000 := by have := g.fine.ht; omega
  have hz := (zB_iff hh hp hq).1 f.z
  obtain ⟨m1, m2⟩ := btw_z hb hz
  refine ⟨(zB_iff hh hp hm).2 ⟨⟨hz.1.1, by omega⟩, ⟨hz.2.1.1, by omega⟩, by omega, by omega⟩, fun w hw n sx sy hs hme => f.w w hw n sx sy hs (meet_part hb hme), ?_, fun i hi hbl => f.k i hi (blk_part hb hbl)⟩
  have e : inPlan h (midX p m) (midY p m) (midD p m) = inPlan h (midX p q) (midY p q) (midD p q) := by
    obtain ⟨e1, e2, e3⟩ := mid_eq hp.r hm.r
    obtain ⟨e4, e5, e6⟩ := mid_eq hp.r hq.r
    have pd := hp.r.d0
    have qd := hq.r.d0
    have md := hm.r.d0
    refine inPlan_move g.fine.st (p := p.pl) (q := q.pl) (fun w hw n sx sy hs => f.w w hw n sx sy hs) (a := m.d * k + p.d * a) (b := p.d * b) (c := q.d) (e := p.d) (k := k) (k' := 1) (by have := Int.mul_pos md hb.k0; have := Int.mul_pos pd hb.a0; omega) (Int.mul_pos pd hb.b0) qd pd hb.k0 (by omega) (mid_ok hp.r hm.r) (mid_ok hp.r hq.r) ?_ ?_
    · rw [e1, e2, e3]
      unfold mulP addP Pt.pl
      simp only [P2d.mk.injEq]
      refine ⟨?_, ?_, ?_⟩
      · rw [lin3 hb.x]; congr 1; grind
      · rw [lin3 hb.y]; congr 1; grind
      · rw [lin3 hb.d]; congr 1; grind
    · rw [e4, e5, e6]
      unfold mulP addP Pt.pl
      simp only [P2d.mk.injEq]
      refine ⟨by grind, by grind, by grind⟩
  rw [e]; exact f.m
end Go.Proofs.YtjpmeaagnhojgaaGreat
