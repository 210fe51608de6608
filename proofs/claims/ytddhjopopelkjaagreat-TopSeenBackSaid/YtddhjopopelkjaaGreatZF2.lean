/- A part of the proof: lemmas. -/
import Derived.Test.YtddhjopopelkjaaGreatZw11
set_option linter.unusedVariables false
set_option linter.unusedSimpArgs false
namespace Go.Proofs.YtddhjopopelkjaaGreat
open Go Go.Sx

/-! ### A way and a wall, in the reference -/
structure PtR (p : Pt) : Prop where
  d0 : 0 < p.d
  d1 : p.d ≤ 100000
  x : -(5000 * p.d) ≤ p.x ∧ p.x ≤ 5000 * p.d
  y : -(5000 * p.d) ≤ p.y ∧ p.y ≤ 5000 * p.d
theorem PtR.ok {p : Pt} (h : PtR p) : PtOk p.x p.y p.d := by
  obtain ⟨h1, h2, h3, h4⟩ := h
  exact ⟨h1, by omega, by omega, by omega⟩
def Pt.pl (p : Pt) : P2d := ⟨p.x, p.y, p.d⟩
def cmpQ (n d m k : Int) : Int := sgn (n * k - m * d)
def onWallR (l : Ln) (a b : Pt) : Bool :=
  if l.beside a = 0 ∧ l.beside b = 0 then
    (if cmpQ (l.along a) a.d (l.along b) b.d = 0 then within (l.along a) 0 (IntKind.i64.wrap (l.full * a.d))
     else if cmpQ (l.along a) a.d (l.along b) b.d < 0 then decide (0 < l.along b) && decide (l.along a < IntKind.i64.wrap (l.full * a.d))
     else decide (0 < l.along a) && decide (l.along b < IntKind.i64.wrap (l.full * b.d)))
  else if 0 ≤ IntKind.i64.wrap (sgn (l.beside a) * sgn (l.beside b)) then false
  else if IntKind.i64.wrap (IntKind.i64.wrap (l.beside b * a.d) - IntKind.i64.wrap (l.beside a * b.d)) < 0 then
    decide (0 ≤ IntKind.i64.wrap (0 - IntKind.i64.wrap (IntKind.i64.wrap (l.along a * l.beside b) - IntKind.i64.wrap (l.along b * l.beside a)))) && decide (cmpQ (IntKind.i64.wrap (0 - IntKind.i64.wrap (IntKind.i64.wrap (l.along a * l.beside b) - IntKind.i64.wrap (l.along b * l.beside a)))) (IntKind.i64.wrap (0 - IntKind.i64.wrap (IntKind.i64.wrap (l.beside b * a.d) - IntKind.i64.wrap (l.beside a * b.d)))) l.full 1 ≤ 0)
  else decide (0 ≤ IntKind.i64.wrap (IntKind.i64.wrap (l.along a * l.beside b) - IntKind.i64.wrap (l.along b * l.beside a))) && decide (cmpQ (IntKind.i64.wrap (IntKind.i64.wrap (l.along a * l.beside b) - IntKind.i64.wrap (l.along b * l.beside a))) (IntKind.i64.wrap (IntKind.i64.wrap (l.beside b * a.d) - IntKind.i64.wrap (l.beside a * b.d))) l.full 1 ≤ 0)
theorem bes_bd {w : Wl} {n sx sy : Int} (h : Str w n sx sy) {p : Pt} (hp : PtR p) : (-2000000000 ≤ bsP w sx sy p.pl ∧ bsP w sx sy p.pl ≤ 2000000000) ∧ (-2000000000 ≤ alP w sx sy p.pl ∧ alP w sx sy p.pl ≤ 2000000000) := by
  have a1 := coord_bd h.b1 hp.d0
  have a2 := coord_bd h.b2 hp.d0
  have a3 := hp.d1
  have a4 := hp.x
  have a5 := hp.y
  unfold bsP alP bes alo Pt.pl
  dsimp only
  generalize w.fx * p.d = A at *
  generalize w.fy * p.d = C at *
  rcases h.hx with rfl | rfl | rfl <;> rcases h.hy with rfl | rfl | rfl <;> omega
theorem ful_bd {w : Wl} {n sx sy : Int} (h : Str w n sx sy) : 0 < ful n sx sy ∧ ful n sx sy ≤ 20000 := by
  refine ⟨ful_pos h, ?_⟩
  have := h.nle
  have := h.hn
  unfold ful
  rcases h.hx with rfl | rfl | rfl <;> rcases h.hy with rfl | rfl | rfl <;> omega
theorem onWallR_iff {w : Wl} {n sx sy : Int} (h : Str w n sx sy) {p q : Pt} (hp : PtR p) (hq : PtR q) : onWallR w.ln p q = true ↔ meetW w n sx sy p.pl q.pl := by
  have ep : w.ln.beside p = bsP w sx sy p.pl := beside_eq (z := p.z) h hp.ok
  have eq : w.ln.beside q = bsP w sx sy q.pl := beside_eq (z := q.z) h hq.ok
  have ap : w.ln.along p = alP w sx sy p.pl := along_eq (z := p.z) h hp.ok
  have aq : w.ln.along q = alP w sx sy q.pl := along_eq (z := q.z) h hq.ok
  have ef : w.ln.full = ful n sx sy := full_eq h
  obtain ⟨b1, b2⟩ := bes_bd h hp
  obtain ⟨b3, b4⟩ := bes_bd h hq
  obtain ⟨f1, f2⟩ := ful_bd h
  have dp := hp.d0
  have dp1 := hp.d1
  have dq := hq.d0
  have dq1 := hq.d1
  have F1 := mul_bd (a := ful n sx sy) (b := p.d) (A := 20000) (B := 100000) (by omega) (by omega)
  have F2 := mul_bd (a := ful n sx sy) (b := q.d) (A := 20000) (B := 100000) (by omega) (by omega)
  have P1 := Int.mul_pos f1 dp
  have P2 := Int.mul_pos f1 dq
  unfold onWallR
  rw [ep, eq, ap, aq, ef]
  by_cases h0 : bsP w sx sy p.pl = 0 ∧ bsP w sx sy q.pl = 0
  · rw [if_pos h0, meetW_flat h h0.1 h0.2]
    rw [W_eq (n := ful n sx sy * p.d) (by omega) (by omega), W_eq (n := ful n sx sy * q.d) (by omega) (by omega)]
    unfold cmpQ
    show _ ↔ spans _ _ (ful n sx sy * p.d - _) (ful n sx sy * q.d - _)
    have key : alP w sx sy p.pl * (ful n sx sy * q.d - alP w sx sy q.pl) - alP w sx sy q.pl * (ful n sx sy * p.d - alP w sx sy p.pl) = ful n sx sy * (alP w sx sy p.pl * q.d - alP w sx sy q.pl * p.d) := by grind
    generalize alP w sx sy p.pl = a at *
    generalize alP w sx sy q.pl = b at *
    by_cases c1 : sgn (a * q.d - b * p.d) = 0
    · rw [if_pos c1, within_iff]
      rw [sgn_zero_iff] at c1
      rw [c1] at key
      rw [spans_eq (by omega) (by omega) (by omega)]
      omega
    · rw [if_neg c1]
      by_cases c2 : sgn (a * q.d - b * p.d) < 0
      · rw [if_pos c2, Bool.and_eq_true, decide_eq_true_eq, decide_eq_true_eq]
        rw [sgn_neg_iff, ← neg_l f1] at c2
        rw [spans_lt (by omega) (by omega) (by omega)]
        omega
      · rw [if_neg c2, Bool.and_eq_true, decide_eq_true_eq, decide_eq_true_eq]
        have c3 : 0 < a * q.d - b * p.d := by
          rw [← sgn_pos_iff]; omega
        rw [← pos_l f1] at c3
        rw [spans_gt (by omega) (by omega) (by omega)]
        omega
  · rw [if_neg h0, W_sgn]
    by_cases h1 : 0 ≤ sgn (bsP w sx sy p.pl) * sgn (bsP w sx sy q.pl)
    · rw [if_pos h1]
      exact ⟨fun h => by simp at h, fun h => absurd h (meetW_side h0 h1)⟩
    · rw [if_neg h1]
      have h2 := sgn_mul_neg.1 (show sgn (bsP w sx sy p.pl) * sgn (bsP w sx sy q.pl) < 0 by omega)
      generalize hf : bsP w sx sy p.pl = f at *
      generalize hg : bsP w sx sy q.pl = g at *
      have m1 := mul_bd (a := alP w sx sy p.pl) (b := g) (A := 2000000000) (B := 2000000000) (by omega) (by omega)
      have m2 := mul_bd (a := alP w sx sy q.pl) (b := f) (A := 2000000000) (B := 2000000000) (by omega) (by omega)
      have m3 := mul_bd (a := g) (b := p.d) (A := 2000000000) (B := 100000) (by omega) (by omega)
      have m4 := mul_bd (a := f) (b := q.d) (A := 2000000000) (B := 100000) (by omega) (by omega)
      rw [W_eq (n := alP w sx sy p.pl * g) (by omega) (by omega), W_eq (n := alP w sx sy q.pl * f) (by omega) (by omega), W_eq (n := g * p.d) (by omega) (by omega), W_eq (n := f * q.d) (by omega) (by omega)]
      rw [W_eq (n := alP w sx sy p.pl * g - alP w sx sy q.pl * f) (by omega) (by omega), W_eq (n := g * p.d - f * q.d) (by omega) (by omega)]
      rcases h2 with h2 | h2
      · have k1 := (pos_l dp).2 h2.2
        have k2 := (neg_l dq).2 h2.1
        rw [if_neg (by rw [Int.mul_comm g, Int.mul_comm f]; omega), meetW_cross hf hg h2, Bool.and_eq_true, decide_eq_true_eq, decide_eq_true_eq]
        unfold cmpQ
        rw [sgn_le, Int.mul_one, Int.mul_comm (alP w sx sy p.pl), Int.mul_comm (alP w sx sy q.pl)]
        show _ ↔ _ ∧ _ ≤ ful n sx sy * (g * p.d - f * q.d)
        omega
      · have k1 := (neg_l dp).2 h2.2
        have k2 := (pos_l dq).2 h2.1
        rw [if_pos (by rw [Int.mul_comm g, Int.mul_comm f]; omega), meetW_swap, meetW_cross hg hf (by omega), Bool.and_eq_true, decide_eq_true_eq, decide_eq_true_eq]
        rw [W_eq (n := 0 - (alP w sx sy p.pl * g - alP w sx sy q.pl * f)) (by omega) (by omega), W_eq (n := 0 - (g * p.d - f * q.d)) (by omega) (by omega)]
        unfold cmpQ
        rw [sgn_le, Int.mul_one, Int.mul_comm (alP w sx sy p.pl), Int.mul_comm (alP w sx sy q.pl), Int.zero_sub (g * p.d - f * q.d), Int.neg_sub]
        show _ ↔ _ ∧ _ ≤ ful n sx sy * (f * q.d - g * p.d)
        omega

/-! ### A way and a wall, in the program -/
def wayDx (p q : Pt) : Int := IntKind.i64.wrap (IntKind.i64.wrap (q.x * p.d) - IntKind.i64.wrap (p.x * q.d))
def wayDy (p q : Pt) : Int := IntKind.i64.wrap (IntKind.i64.wrap (q.y * p.d) - IntKind.i64.wrap (p.y * q.d))
def cmpP (a b c d : Int) : Int := sgn (a * b - c * d)
def waySide (p q : Pt) (x y : Int) : Int := cmpP (wayDx p q) (IntKind.i64.wrap (IntKind.i64.wrap (y * p.d) - p.y)) (wayDy p q) (IntKind.i64.wrap (IntKind.i64.wrap (x * p.d) - p.x))
def ovl (fr den to oth a b : Int) : Bool := decide (imin (IntKind.i64.wrap (fr * oth)) (IntKind.i64.wrap (to * den)) < IntKind.i64.wrap (IntKind.i64.wrap (imax a b * den) * oth)) && decide (IntKind.i64.wrap (IntKind.i64.wrap (imin a b * den) * oth) < imax (IntKind.i64.wrap (fr * oth)) (IntKind.i64.wrap (to * den)))
def touP (p q : Pt) (w : Wl) : Bool :=
  if wayDx p q = 0 ∧ wayDy p q = 0 then w.has p.x p.y p.d
  else if w.side p.x p.y p.d = 0 ∧ w.side q.x q.y q.d = 0 then (if w.fx = w.tx then ovl p.y p.d q.y q.d w.fy w.ty else ovl p.x p.d q.x q.d w.fx w.tx)
  else if 0 ≤ IntKind.i64.wrap (w.side p.x p.y p.d * w.side q.x q.y q.d) then false
  else decide (IntKind.i64.wrap (waySide p q w.fx w.fy * waySide p q w.tx w.ty) ≤ 0)
theorem way_eq {p q : Pt} (hp : PtR p) (hq : PtR q) : wayDx p q = q.x * p.d - p.x * q.d ∧ wayDy p q = q.y * p.d - p.y * q.d := by
  obtain ⟨a1, a2, a3, a4⟩ := hp
  obtain ⟨b1, b2, b3, b4⟩ := hq
  have m1 := mul_bd (a := q.x) (b := p.d) (A := 500000000) (B := 100000) (by omega) (by omega)
  have m2 := mul_bd (a := p.x) (b := q.d) (A := 500000000) (B := 100000) (by omega) (by omega)
  have m3 := mul_bd (a := q.y) (b := p.d) (A := 500000000) (B := 100000) (by omega) (by omega)
  have m4 := mul_bd (a := p.y) (b := q.d) (A := 500000000) (B := 100000) (by omega) (by omega)
  unfold wayDx wayDy
  rw [W_eq (n := q.x * p.d) (by omega) (by omega), W_eq (n := p.x * q.d) (by omega) (by omega), W_eq (n := q.y * p.d) (by omega) (by omega), W_eq (n := p.y * q.d) (by omega) (by omega)]
  exact ⟨W_eq (by omega) (by omega), W_eq (by omega) (by omega)⟩
theorem waySide_eq {p q : Pt} (hp : PtR p) (hq : PtR q) {x y : Int} (hx : -5000 ≤ x ∧ x ≤ 5000) (hy : -5000 ≤ y ∧ y ≤ 5000) : waySide p q x y = sgn ((q.x * p.d - p.x * q.d) * (y * p.d - p.y) - (q.y * p.d - p.y * q.d) * (x * p.d - p.x)) := by
  obtain ⟨e1, e2⟩ := way_eq hp hq
  obtain ⟨a1, a2, a3, a4⟩ := hp
  have c1 := coord_bd hx a1
  have c2 := coord_bd hy a1
  unfold waySide cmpP
  rw [e1, e2, W_eq (n := y * p.d) (by omega) (by omega), W_eq (n := x * p.d) (by omega) (by omega), W_eq (n := y * p.d - p.y) (by omega) (by omega), W_eq (n := x * p.d - p.x) (by omega) (by omega)]
theorem ovl_iff {x d x' d' fx n e s : Int} (he : e = 1 ∨ e = -1) (hn : 0 < n ∧ n ≤ 10000) (hs : 0 < s) (hd : 0 < d ∧ d ≤ 100000) (hd' : 0 < d' ∧ d' ≤ 100000) (hx : -(5000 * d) ≤ x ∧ x ≤ 5000 * d) (hx' : -(5000 * d') ≤ x' ∧ x' ≤ 5000 * d') (hf : -5000 ≤ fx ∧ fx ≤ 5000) (ht : -5000 ≤ fx + n * e ∧ fx + n * e ≤ 5000) (hne : x' * d - x * d' ≠ 0) :
    ovl x d x' d' fx (fx + n * e) = true ↔ spans (s * (e * (x - fx * d))) (s * (e * (x' - fx * d'))) (n * s * d - s * (e * (x - fx * d))) (n * s * d' - s * (e * (x' - fx * d'))) := by
  have m1 := mul_bd (a := x) (b := d') (A := 500000000) (B := 100000) (by omega) (by omega)
  have m2 := mul_bd (a := x') (b := d) (A := 500000000) (B := 100000) (by omega) (by omega)
  have c1 := coord_bd hf hd.1
  have c2 := coord_bd ht hd.1
  have m3 := mul_bd (a := fx * d) (b := d') (A := 500000000) (B := 100000) (by omega) (by omega)
  have m4 := mul_bd (a := (fx + n * e) * d) (b := d') (A := 500000000) (B := 100000) (by omega) (by omega)
  unfold ovl
  rw [imin_eq, imin_eq, imax_eq, imax_eq, min_mul hd.1, max_mul hd.1]
  rw [W_eq (n := x * d') (by omega) (by omega), W_eq (n := x' * d) (by omega) (by omega), W_eq (n := min (fx * d) ((fx + n * e) * d)) (by omega) (by omega), W_eq (n := max (fx * d) ((fx + n * e) * d)) (by omega) (by omega)]
  rw [min_mul hd'.1, max_mul hd'.1, W_eq (n := min (fx * d * d') ((fx + n * e) * d * d')) (by omega) (by omega), W_eq (n := max (fx * d * d') ((fx + n * e) * d * d')) (by omega) (by omega)]
  rw [Bool.and_eq_true, decide_eq_true_eq, decide_eq_true_eq]
  have eT : (fx + n * e) * d * d' = fx * d * d' + e * (n * d * d') := by grind
  rw [eT]
  have hT : 0 < n * d * d' := Int.mul_pos (Int.mul_pos hn.1 hd.1) hd'.1
  have hsn : 0 < s * n := Int.mul_pos hs hn.1
  have g1 : 0 < s * (e * (x - fx * d)) + (n * s * d - s * (e * (x - fx * d))) := by
    have : s * (e * (x - fx * d)) + (n * s * d - s * (e * (x - fx * d))) = s * n * d := by grind
    rw [this]; exact Int.mul_pos hsn hd.1
  have g2 : 0 < s * (e * (x' - fx * d')) + (n * s * d' - s * (e * (x' - fx * d'))) := by
    have : s * (e * (x' - fx * d')) + (n * s * d' - s * (e * (x' - fx * d'))) = s * n * d' := by grind
    rw [this]; exact Int.mul_pos hsn hd'.1
  have key : s * (e * (x - fx * d)) * (n * s * d' - s * (e * (x' - fx * d'))) - s * (e * (x' - fx * d')) * (n * s * d - s * (e * (x - fx * d))) = s * (s * n) * (e * (x * d' - x' * d)) := by grind
  have hss : 0 < s * (s * n) := Int.mul_pos hs hsn
  have p1 : ∀ v : Int, 0 < v ↔ 0 < v * d' := fun v => by rw [Int.mul_comm]; exact (pos_l hd'.1).symm
  have p2 : ∀ v : Int, 0 < v ↔ 0 < v * d := fun v => by rw [Int.mul_comm]; exact (pos_l hd.1).symm
  have q1 : n * s * d - s * (e * (x - fx * d)) = s * (n * d - e * (x - fx * d)) := by grind
  have q2 : n * s * d' - s * (e * (x' - fx * d')) = s * (n * d' - e * (x' - fx * d')) := by grind
  have r1 : (e * (x - fx * d)) * d' = e * (x * d' - fx * d * d') := by grind
  have r2 : (e * (x' - fx * d')) * d = e * (x' * d - fx * d * d') := by grind
  have r3 : (n * d - e * (x - fx * d)) * d' = n * d * d' - e * (x * d' - fx * d * d') := by grind
  have r4 : (n * d' - e * (x' - fx * d')) * d = n * d * d' - e * (x' * d - fx * d * d') := by grind
  by_cases hc : 0 < e * (x * d' - x' * d)
  · have := (pos_l hss).2 hc
    rw [spans_gt g1 g2 (by omega), pos_l hs, q2, pos_l hs, p1, p2 (n * d' - _), r1, r4]
    clear key g1 g2 q1 q2 r1 r2 r3 r4 eT
    generalize x * d' = U at *
    generalize x' * d = V at *
    generalize fx * d * d' = B at *
    generalize n * d * d' = T at *
    rcases he with rfl | rfl <;> omega
  · have hc2 : e * (x * d' - x' * d) < 0 := by rcases he with rfl | rfl <;> omega
    have := (neg_l hss).2 hc2
    rw [spans_lt g1 g2 (by omega), pos_l hs, q1, pos_l hs, p2, p1 (n * d - _), r2, r3]
    clear key g1 g2 q1 q2 r1 r2 r3 r4 eT
    generalize x * d' = U at *
    generalize x' * d = V at *
    generalize fx * d * d' = B at *
    generalize n * d * d' = T at *
    rcases he with rfl | rfl <;> omega
theorem touP_iff {w : Wl} {n sx sy : Int} (h : Str w n sx sy) {p q : Pt} (hp : PtR p) (hq : PtR q) : touP p q w = true ↔ meetW w n sx sy p.pl q.pl := by
  obtain ⟨e1, e2⟩ := way_eq hp hq
  have s1 : w.side p.x p.y p.d = sgn (bsP w sx sy p.pl) := side_eq h hp.ok
  have s2 : w.side q.x q.y q.d = sgn (bsP w sx sy q.pl) := side_eq h hq.ok
  have t1 := waySide_eq hp hq h.b1 h.b2
  have t2 := waySide_eq hp hq h.b3 h.b4
  have dp := hp.d0
  have dq := hq.d0
  have hn := h.hn
  have hxy := h.hxy
  obtain ⟨f1, f2⟩ := ful_bd h
  have D1 : bsP w sx sy q.pl * p.d - bsP w sx sy p.pl * q.d = sx * (q.y * p.d - p.y * q.d) - sy * (q.x * p.d - p.x * q.d) := by unfold bsP bes Pt.pl; dsimp only; grind
  have D2 : alP w sx sy q.pl * p.d - alP w sx sy p.pl * q.d = sx * (q.x * p.d - p.x * q.d) + sy * (q.y * p.d - p.y * q.d) := by unfold alP alo Pt.pl; dsimp only; grind
  unfold touP
  rw [e1, e2]
  by_cases h0 : q.x * p.d - p.x * q.d = 0 ∧ q.y * p.d - p.y * q.d = 0
  · rw [if_pos h0, whas_iff h hp.ok]
    rw [h0.1, h0.2] at D1 D2
    unfold onW meetW
    show bsP w sx sy p.pl = 0 ∧ 0 ≤ alP w sx sy p.pl ∧ alP w sx sy p.pl ≤ ful n sx sy * p.d ↔ _
    show _ ↔ ∃ l m : Int, 0 < l ∧ 0 < m ∧ _ ∧ _ ∧ _ ≤ ful n sx sy * (l * p.d + m * q.d)
    generalize bsP w sx sy p.pl = f at *
    generalize bsP w sx sy q.pl = g at *
    generalize alP w sx sy p.pl = a at *
    generalize alP w sx sy q.pl = b at *
    generalize ful n sx sy = F at *
    have D1 : g * p.d = f * q.d := by omega
    have D2 : b * p.d = a * q.d := by omega
    constructor
    · rintro ⟨h1, h2, h3⟩
      refine ⟨1, 1, by omega, by omega, ?_, ?_, ?_⟩
      · rw [h1] at D1
        have : g * p.d = 0 := by omega
        rcases Int.mul_eq_zero.1 this with k | k <;> omega
      · have : 0 ≤ p.d * b := by rw [Int.mul_comm, D2]; exact Int.mul_nonneg h2 (by omega)
        have := (nn_l dp).1 this
        omega
      · have : p.d * (F * q.d - b) = q.d * (F * p.d - a) := by grind
        have k := Int.mul_nonneg (show 0 ≤ q.d by omega) (show 0 ≤ F * p.d - a by omega)
        rw [← this] at k
        have k := (nn_l dp).1 k
        have : F * (1 * p.d + 1 * q.d) = F * p.d + F * q.d := by grind
        omega
    · rintro ⟨l, m, hl, hm, k1, k2, k3⟩
      have hz : 0 < l * p.d + m * q.d := by have := Int.mul_pos hl dp; have := Int.mul_pos hm dq; omega
      refine ⟨?_, ?_, ?_⟩
      · have : (l * p.d + m * q.d) * f = p.d * (l * f + m * g) := by grind
        rw [k1, Int.mul_zero] at this
        rcases Int.mul_eq_zero.1 this with k | k <;> omega
      · have : (l * p.d + m * q.d) * a = p.d * (l * a + m * b) := by grind
        have k := Int.mul_nonneg (show 0 ≤ p.d by omega) k2
        rw [← this] at k
        exact (nn_l hz).1 k
      · have : (l * p.d + m * q.d) * (F * p.d - a) = p.d * (F * (l * p.d + m * q.d) - (l * a + m * b)) := by grind
        have k := Int.mul_nonneg (show 0 ≤ p.d by omega) (show 0 ≤ F * (l * p.d + m * q.d) - (l * a + m * b) by omega)
        rw [← this] at k
        have := (nn_l hz).1 k
        omega
  · rw [if_neg h0, s1, s2]
    by_cases h1 : bsP w sx sy p.pl = 0 ∧ bsP w sx sy q.pl = 0
    · rw [if_pos (by rw [sgn_zero_iff, sgn_zero_iff]; exact h1), meetW_flat h h1.1 h1.2]
      rw [h1.1, h1.2] at D1
      have hnn := h.nle
      show _ ↔ spans _ _ (ful n sx sy * p.d - _) (ful n sx sy * q.d - _)
      obtain ⟨z1, z2⟩ := h1
      have b1 := h.b1
      have b2 := h.b2
      have b3 := h.b3
      have b4 := h.b4
      have etx := h.tx
      have ety := h.ty
      rw [etx] at b3
      rw [ety] at b4
      by_cases hs : sx = 0
      · subst hs
        rw [if_pos (by rw [etx]; omega)]
        have hy : sy = 1 ∨ sy = -1 := by have := h.hy; omega
        have k := ovl_iff (s := 1) (e := sy) (x := p.y) (d := p.d) (x' := q.y) (d' := q.d) hy ⟨hn, hnn⟩ (by omega) ⟨dp, hp.d1⟩ ⟨dq, hq.d1⟩ hp.y hq.y b2 b4 (by
          rcases hy with rfl | rfl <;> omega)
        rw [← ety] at k
        rw [k]
        have v1 : alP w 0 sy p.pl = 1 * (sy * (p.y - w.fy * p.d)) := by unfold alP alo Pt.pl; dsimp only; grind
        have v2 : alP w 0 sy q.pl = 1 * (sy * (q.y - w.fy * q.d)) := by unfold alP alo Pt.pl; dsimp only; grind
        have v3 : ful n 0 sy = n * 1 := by unfold ful; rcases hy with rfl | rfl <;> rfl
        rw [v1, v2, v3]
      · have hx : sx = 1 ∨ sx = -1 := by have := h.hx; omega
        rw [if_neg (by rw [etx]; rcases hx with rfl | rfl <;> omega)]
        have hsx : sx * sx = 1 := by rcases hx with rfl | rfl <;> rfl
        have hS : 0 < 1 + sy * sy := by rcases h.hy with rfl | rfl | rfl <;> decide
        have k := ovl_iff (s := 1 + sy * sy) (e := sx) (x := p.x) (d := p.d) (x' := q.x) (d' := q.d) hx ⟨hn, hnn⟩ hS ⟨dp, hp.d1⟩ ⟨dq, hq.d1⟩ hp.x hq.x b1 b3 (by
          intro hz
          refine h0 ⟨hz, ?_⟩
          rw [hz] at D1
          rcases hx with rfl | rfl <;> omega)
        rw [← etx] at k
        rw [k]
        have w1 : sx * (p.y - w.fy * p.d) = sy * (p.x - w.fx * p.d) := by unfold bsP bes Pt.pl at z1; dsimp only at z1; omega
        have w2 : sx * (q.y - w.fy * q.d) = sy * (q.x - w.fx * q.d) := by unfold bsP bes Pt.pl at z2; dsimp only at z2; omega
        have v1 : alP w sx sy p.pl = (1 + sy * sy) * (sx * (p.x - w.fx * p.d)) := by
          unfold alP alo Pt.pl; dsimp only
          generalize p.x - w.fx * p.d = u at *
          generalize p.y - w.fy * p.d = v at *
          have : v = sx * (sy * u) := by rw [← w1, ← Int.mul_assoc, hsx, Int.one_mul]
          rw [this]; grind
        have v2 : alP w sx sy q.pl = (1 + sy * sy) * (sx * (q.x - w.fx * q.d)) := by
          unfold alP alo Pt.pl; dsimp only
          generalize q.x - w.fx * q.d = u at *
          generalize q.y - w.fy * q.d = v at *
          have : v = sx * (sy * u) := by rw [← w2, ← Int.mul_assoc, hsx, Int.one_mul]
          rw [this]; grind
        have v3 : ful n sx sy = n * (1 + sy * sy) := by unfold ful; rw [hsx]
        rw [v1, v2, v3]
    · rw [if_neg (by rw [sgn_zero_iff, sgn_zero_iff]; exact h1), W_sgn]
      by_cases h2 : 0 ≤ sgn (bsP w sx sy p.pl) * sgn (bsP w sx sy q.pl)
      · rw [if_pos h2]
        exact ⟨fun h => by simp at h, fun h => absurd h (meetW_side h1 h2)⟩
      · rw [if_neg h2, t1, t2, W_sgn, decide_eq_true_eq]
        have h3 := sgn_mul_neg.1 (show sgn (bsP w sx sy p.pl) * sgn (bsP w sx sy q.pl) < 0 by omega)
        have K1 : (q.x * p.d - p.x * q.d) * (w.fy * p.d - p.y) - (q.y * p.d - p.y * q.d) * (w.fx * p.d - p.x) = p.d * ((p.x - w.fx * p.d) * (q.y - w.fy * q.d) - (q.x - w.fx * q.d) * (p.y - w.fy * p.d)) := by grind
        have K2 : (q.x * p.d - p.x * q.d) * (w.ty * p.d - p.y) - (q.y * p.d - p.y * q.d) * (w.tx * p.d - p.x) = p.d * ((p.x - w.fx * p.d) * (q.y - w.fy * q.d) - (q.x - w.fx * q.d) * (p.y - w.fy * p.d) - n * (bsP w sx sy q.pl * p.d - bsP w sx sy p.pl * q.d)) := by
          rw [h.tx, h.ty]; unfold bsP bes Pt.pl; dsimp only; grind
        rw [K1, K2, sgn_pos dp, sgn_pos dp, sgn_mul_le]
        have K3 : bsP w sx sy q.pl * alP w sx sy p.pl - bsP w sx sy p.pl * alP w sx sy q.pl = (sx * sx + sy * sy) * ((p.x - w.fx * p.d) * (q.y - w.fy * q.d) - (q.x - w.fx * q.d) * (p.y - w.fy * p.d)) := by
          unfold bsP bes alP alo Pt.pl; dsimp only; grind
        have hS : 0 < sx * sx + sy * sy := by rcases h.hx with rfl | rfl | rfl <;> rcases h.hy with rfl | rfl | rfl <;> (try (exact absurd ⟨rfl, rfl⟩ hxy)) <;> decide
        generalize (p.x - w.fx * p.d) * (q.y - w.fy * q.d) - (q.x - w.fx * q.d) * (p.y - w.fy * p.d) = K at *
        have e3 : ful n sx sy = (sx * sx + sy * sy) * n := by unfold ful; rw [Int.mul_comm]
        generalize sx * sx + sy * sy = S at *
        generalize hf : bsP w sx sy p.pl = f at *
        generalize hg : bsP w sx sy q.pl = g at *
        rcases h3 with h3 | h3
        · have k1 := (pos_l dp).2 h3.2
          have k2 := (neg_l dq).2 h3.1
          have hD : 0 < n * (g * p.d - f * q.d) := (pos_l hn).2 (by rw [Int.mul_comm g, Int.mul_comm f]; omega)
          rw [meetW_cross hf hg h3, K3, e3]
          show _ ↔ _ ∧ _ ≤ S * n * (g * p.d - f * q.d)
          rw [nn_l hS, Int.mul_assoc S n]
          have : S * K ≤ S * (n * (g * p.d - f * q.d)) ↔ K ≤ n * (g * p.d - f * q.d) := by rw [Int.mul_comm S, Int.mul_comm S]; exact le_pos hS
          rw [this]
          omega
        · have k1 := (neg_l dp).2 h3.2
          have k2 := (pos_l dq).2 h3.1
          have hD : n * (g * p.d - f * q.d) < 0 := (neg_l hn).2 (by rw [Int.mul_comm g, Int.mul_comm f]; omega)
          have K4 : f * alP w sx sy q.pl - g * alP w sx sy p.pl = S * -K := by rw [Int.mul_neg, ← K3]; omega
          rw [meetW_swap, meetW_cross hg hf (by omega), K4, e3]
          show _ ↔ _ ∧ _ ≤ S * n * (f * q.d - g * p.d)
          have e4 : n * (f * q.d - g * p.d) = -(n * (g * p.d - f * q.d)) := by rw [← Int.mul_neg, Int.neg_sub]
          rw [nn_l hS, Int.mul_assoc S n, e4]
          have : S * -K ≤ S * -(n * (g * p.d - f * q.d)) ↔ -K ≤ -(n * (g * p.d - f * q.d)) := by rw [Int.mul_comm S, Int.mul_comm S]; exact le_pos hS
          rw [this]
          omega
end Go.Proofs.YtddhjopopelkjaaGreat
