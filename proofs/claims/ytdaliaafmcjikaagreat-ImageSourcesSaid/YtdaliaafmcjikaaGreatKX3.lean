/- A part of the proof: lemmas. -/
import Derived.Test.YtdaliaafmcjikaaGreatKX2
set_option linter.unusedVariables false
set_option linter.unusedSimpArgs false
namespace Go.Proofs.YtdaliaafmcjikaaGreat
open Go Go.Sx

/-! ### Where a way crosses a surface: what both compute -/
structure Crs where
  su : Int
  fx : Int
  fy : Int
  fz : Int
  to : Pt
abbrev Crs.av (c : Crs) : AV := .agg [I c.su, I c.fx, I c.fy, I c.fz, I c.to.x, I c.to.y, I c.to.z, I c.to.d]
/-- Both ends less the plane. -/
def crF (pl : Int × Int) (c : Crs) : Int := valN pl.1 c.fx c.fy c.fz - pl.2
def crG (pl : Int × Int) (c : Crs) : Int := valN pl.1 c.to.x c.to.y c.to.z - pl.2 * c.to.d
/-- The point of the plane, for weights of both ends. -/
def crPt (c : Crs) (u v : Int) : Pt := ⟨c.fx * u + c.to.x * v, c.fy * u + c.to.y * v, c.fz * u + c.to.z * v, u + c.to.d * v⟩
def redP (p : Pt) : Pt := ⟨p.x / (g4 p : Int), p.y / (g4 p : Int), p.z / (g4 p : Int), p.d / (g4 p : Int)⟩
def iabs (n : Int) : Int := if n < 0 then -n else n
def crossP (pl : Int × Int) (c : Crs) : Pt := redP (crPt c (iabs (crG pl c)) (iabs (crF pl c)))
def ptZ : Pt := ⟨0, 0, 0, 0⟩
/-- The answer, with what 'well' means. -/
def crAns (well : Pt → Bool) (pl : Int × Int) (c : Crs) : Pt × Int :=
  if 0 ≤ sgn (crF pl c) * sgn (crG pl c) then (ptZ, 12)
  else if well (crossP pl c) then (if 100000 < (crossP pl c).d then (ptZ, 8) else (crossP pl c, 0))
  else (ptZ, 12)
structure CrOk (pl : Int × Int) (c : Crs) : Prop where
  k0 : 0 ≤ pl.1
  k4 : pl.1 ≤ 4
  at' : -10000 ≤ pl.2 ∧ pl.2 ≤ 10000
  fx : -45000 ≤ c.fx ∧ c.fx ≤ 45000
  fy : -45000 ≤ c.fy ∧ c.fy ≤ 45000
  fz : -45000 ≤ c.fz ∧ c.fz ≤ 45000
  d0 : 0 < c.to.d
  d1 : c.to.d ≤ 100000
  x : -(5000 * c.to.d) ≤ c.to.x ∧ c.to.x ≤ 5000 * c.to.d
  y : -(5000 * c.to.d) ≤ c.to.y ∧ c.to.y ≤ 5000 * c.to.d
  z : -(5000 * c.to.d) ≤ c.to.z ∧ c.to.z ≤ 5000 * c.to.d
theorem crF_bd {pl : Int × Int} {c : Crs} (h : CrOk pl c) : IntKind.i64.wrap (offN pl.1 c.fx c.fy c.fz - pl.2) = crF pl c ∧ IntKind.i64.wrap (offN pl.1 c.fx c.fy c.fz - IntKind.i64.wrap (pl.2 * 1)) = crF pl c ∧ -100000 ≤ crF pl c ∧ crF pl c ≤ 100000 := by
  obtain ⟨h1, h2, h3, h4, h5, h6, _⟩ := h
  unfold crF valN offN
  rw [Int.mul_one, W_eq (n := pl.2) (by omega) (by omega)]
  repeat' split
  all_goals (try rw [W_eq (n := c.fx + c.fy) (by omega) (by omega)])
  all_goals (try rw [W_eq (n := c.fx - c.fy) (by omega) (by omega)])
  all_goals (refine ⟨W_eq (by omega) (by omega), W_eq (by omega) (by omega), by omega, by omega⟩)
theorem crG_bd {pl : Int × Int} {c : Crs} (h : CrOk pl c) : IntKind.i64.wrap (offN pl.1 c.to.x c.to.y c.to.z - IntKind.i64.wrap (pl.2 * c.to.d)) = crG pl c ∧ -2000000000 ≤ crG pl c ∧ crG pl c ≤ 2000000000 := by
  obtain ⟨h1, h2, h3, h4, h5, h6, h7, h8, h9, h10, h11⟩ := h
  have m := mul_bd (a := pl.2) (b := c.to.d) (A := 10000) (B := 100000) (by omega) (by omega)
  unfold crG valN offN
  rw [W_eq (n := pl.2 * c.to.d) (by omega) (by omega)]
  generalize pl.2 * c.to.d = m at *
  repeat' split
  all_goals (try rw [W_eq (n := c.to.x + c.to.y) (by omega) (by omega)])
  all_goals (try rw [W_eq (n := c.to.x - c.to.y) (by omega) (by omega)])
  all_goals (refine ⟨W_eq (by omega) (by omega), by omega, by omega⟩)
theorem iabs_nn (n : Int) : 0 ≤ iabs n := by unfold iabs; split <;> omega
theorem crPt_bd {pl : Int × Int} {c : Crs} (h : CrOk pl c) {u v : Int} (hu : 0 ≤ u ∧ u ≤ 2000000000) (hv : 0 ≤ v ∧ v ≤ 100000) :
    (-90000000000000 ≤ c.fx * u ∧ c.fx * u ≤ 90000000000000) ∧ (-90000000000000 ≤ c.fy * u ∧ c.fy * u ≤ 90000000000000) ∧ (-90000000000000 ≤ c.fz * u ∧ c.fz * u ≤ 90000000000000) ∧
    (-50000000000000 ≤ c.to.x * v ∧ c.to.x * v ≤ 50000000000000) ∧ (-50000000000000 ≤ c.to.y * v ∧ c.to.y * v ≤ 50000000000000) ∧ (-50000000000000 ≤ c.to.z * v ∧ c.to.z * v ≤ 50000000000000) ∧ (0 ≤ c.to.d * v ∧ c.to.d * v ≤ 10000000000) := by
  obtain ⟨h1, h2, h3, h4, h5, h6, h7, h8, h9, h10, h11⟩ := h
  have m1 := mul_bd (a := c.fx) (b := u) (A := 45000) (B := 2000000000) (by omega) (by omega)
  have m2 := mul_bd (a := c.fy) (b := u) (A := 45000) (B := 2000000000) (by omega) (by omega)
  have m3 := mul_bd (a := c.fz) (b := u) (A := 45000) (B := 2000000000) (by omega) (by omega)
  have m4 := mul_bd (a := c.to.x) (b := v) (A := 500000000) (B := 100000) (by omega) (by omega)
  have m5 := mul_bd (a := c.to.y) (b := v) (A := 500000000) (B := 100000) (by omega) (by omega)
  have m6 := mul_bd (a := c.to.z) (b := v) (A := 500000000) (B := 100000) (by omega) (by omega)
  have m7 := mul_bd (a := c.to.d) (b := v) (A := 100000) (B := 100000) (by omega) (by omega)
  have m8 := Int.mul_nonneg (Int.le_of_lt h7) hv.1
  refine ⟨by omega, by omega, by omega, by omega, by omega, by omega, by omega, by omega⟩
/-- The point ahead of its lowest terms is within bounds. -/
structure Big (p : Pt) : Prop where
  x : -140000000000000 ≤ p.x ∧ p.x ≤ 140000000000000
  y : -140000000000000 ≤ p.y ∧ p.y ≤ 140000000000000
  z : -140000000000000 ≤ p.z ∧ p.z ≤ 140000000000000
  d : 0 < p.d ∧ p.d ≤ 12000000000
theorem Big.wf {p : Pt} (h : Big p) : p.wf := by
  obtain ⟨h1, h2, h3, h4⟩ := h
  exact ⟨⟨by omega, by omega⟩, ⟨by omega, by omega⟩, ⟨by omega, by omega⟩, ⟨by omega, by omega⟩⟩
theorem crPt_big {pl : Int × Int} {c : Crs} (h : CrOk pl c) {u v : Int} (hu : 0 < u ∧ u ≤ 2000000000) (hv : 0 < v ∧ v ≤ 100000) : Big (crPt c u v) := by
  have hb := crPt_bd h (u := u) (v := v) (by omega) (by omega)
  unfold crPt
  refine ⟨?_, ?_, ?_, ?_⟩ <;> dsimp only <;> omega
theorem g4_dvd (p : Pt) : ((g4 p : Int) ∣ p.x ∧ (g4 p : Int) ∣ p.y) ∧ ((g4 p : Int) ∣ p.z ∧ (g4 p : Int) ∣ p.d) := by
  unfold g4
  have a := Nat.gcd_dvd_left (Nat.gcd p.x.natAbs p.y.natAbs) (Nat.gcd p.z.natAbs p.d.natAbs)
  have b := Nat.gcd_dvd_right (Nat.gcd p.x.natAbs p.y.natAbs) (Nat.gcd p.z.natAbs p.d.natAbs)
  exact ⟨⟨Int.ofNat_dvd_left.2 (Nat.dvd_trans a (Nat.gcd_dvd_left _ _)), Int.ofNat_dvd_left.2 (Nat.dvd_trans a (Nat.gcd_dvd_right _ _))⟩, ⟨Int.ofNat_dvd_left.2 (Nat.dvd_trans b (Nat.gcd_dvd_left _ _)), Int.ofNat_dvd_left.2 (Nat.dvd_trans b (Nat.gcd_dvd_right _ _))⟩⟩
theorem tdiv_of_dvd {a g : Int} (hg : 0 < g) (h : g ∣ a) : a.tdiv g = a / g ∧ a / g * g = a ∧ (∀ B, -B ≤ a ∧ a ≤ B → -B ≤ a / g ∧ a / g ≤ B) := by
  obtain ⟨k, rfl⟩ := h
  rw [Int.mul_tdiv_cancel_left _ (by omega), Int.mul_ediv_cancel_left _ (by omega)]
  refine ⟨rfl, Int.mul_comm _ _, fun B hB => ?_⟩
  rcases Int.lt_or_le k 0 with hk | hk
  · have := Int.mul_le_mul_of_nonneg_right (show 1 ≤ g by omega) (show 0 ≤ -k by omega)
    have e : g * -k = -(g * k) := Int.mul_neg _ _
    omega
  · have := Int.mul_le_mul_of_nonneg_right (show 1 ≤ g by omega) hk
    omega
/-- A point in lowest terms. -/
theorem red_spec {p : Pt} (h : Big p) : (0 < (g4 p : Int) ∧ (g4 p : Int) ≤ 12000000000) ∧ (IntKind.i64.wrap (p.x.tdiv (g4 p)) = (redP p).x ∧ IntKind.i64.wrap (p.y.tdiv (g4 p)) = (redP p).y ∧ IntKind.i64.wrap (p.z.tdiv (g4 p)) = (redP p).z ∧ IntKind.i64.wrap (p.d.tdiv (g4 p)) = (redP p).d) ∧ Big (redP p) ∧ ((redP p).x * g4 p = p.x ∧ (redP p).y * g4 p = p.y ∧ (redP p).z * g4 p = p.z ∧ (redP p).d * g4 p = p.d) := by
  obtain ⟨g1, g2⟩ := g4_le h.wf h.d.1
  obtain ⟨⟨d1, d2⟩, d3, d4⟩ := g4_dvd p
  have hg : (0 : Int) < g4 p := by omega
  obtain ⟨x1, x2, x3⟩ := tdiv_of_dvd hg d1
  obtain ⟨y1, y2, y3⟩ := tdiv_of_dvd hg d2
  obtain ⟨z1, z2, z3⟩ := tdiv_of_dvd hg d3
  obtain ⟨e1, e2, e3⟩ := tdiv_of_dvd hg d4
  obtain ⟨h1, h2, h3, h4⟩ := h
  have x3 := x3 140000000000000 h1
  have y3 := y3 140000000000000 h2
  have z3 := z3 140000000000000 h3
  have e3 := e3 12000000000 (by omega)
  have hd : 0 < p.d / (g4 p : Int) := by
    rcases Int.lt_or_le 0 (p.d / (g4 p : Int)) with k | k
    · exact k
    · have := Int.mul_nonneg (show 0 ≤ -(p.d / (g4 p : Int)) by omega) (Int.le_of_lt hg)
      rw [Int.neg_mul] at this
      omega
  refine ⟨by omega, ⟨?_, ?_, ?_, ?_⟩, ⟨x3, y3, z3, hd, e3.2⟩, x2, y2, z2, e2⟩
  · rw [x1]; exact W_eq (by omega) (by omega)
  · rw [y1]; exact W_eq (by omega) (by omega)
  · rw [z1]; exact W_eq (by omega) (by omega)
  · rw [e1]; exact W_eq (by omega) (by omega)
theorem Big.ok {p : Pt} (h : Big p) : PtOk p.x p.y p.d := by
  obtain ⟨h1, h2, h3, h4⟩ := h
  exact ⟨h4.1, by omega, by omega, by omega⟩
/-- The weights. -/
theorem wts_of {pl : Int × Int} {c : Crs} (h : CrOk pl c) (hs : ¬ 0 ≤ sgn (crF pl c) * sgn (crG pl c)) : (0 < iabs (crG pl c) ∧ iabs (crG pl c) ≤ 2000000000) ∧ (0 < iabs (crF pl c) ∧ iabs (crF pl c) ≤ 100000) := by
  have h1 := (crF_bd h).2.2
  have h2 := (crG_bd h).2
  have h3 := sgn_mul_neg.1 (show sgn (crF pl c) * sgn (crG pl c) < 0 by omega)
  unfold iabs
  refine ⟨?_, ?_⟩ <;> split <;> omega
theorem cross_big {pl : Int × Int} {c : Crs} (h : CrOk pl c) (hs : ¬ 0 ≤ sgn (crF pl c) * sgn (crG pl c)) : Big (crPt c (iabs (crG pl c)) (iabs (crF pl c))) := by
  obtain ⟨a, b⟩ := wts_of h hs
  exact crPt_big h a b
theorem valN_lin (k a b c a' b' c' u v : Int) : valN k (a * u + a' * v) (b * u + b' * v) (c * u + c' * v) = valN k a b c * u + valN k a' b' c' * v := by
  unfold valN
  repeat' split
  all_goals grind
theorem valN_mul (k a b c g : Int) : valN k (a * g) (b * g) (c * g) = valN k a b c * g := by
  unfold valN
  repeat' split
  all_goals grind
/-- The point lies in the plane. -/
theorem cross_plane {pl : Int × Int} {c : Crs} (h : CrOk pl c) (hs : ¬ 0 ≤ sgn (crF pl c) * sgn (crG pl c)) : valN pl.1 (crossP pl c).x (crossP pl c).y (crossP pl c).z = pl.2 * (crossP pl c).d := by
  obtain ⟨⟨g1, _⟩, _, _, e1, e2, e3, e4⟩ := red_spec (cross_big h hs)
  have h3 := sgn_mul_neg.1 (show sgn (crF pl c) * sgn (crG pl c) < 0 by omega)
  have k : valN pl.1 (crPt c (iabs (crG pl c)) (iabs (crF pl c))).x (crPt c (iabs (crG pl c)) (iabs (crF pl c))).y (crPt c (iabs (crG pl c)) (iabs (crF pl c))).z = pl.2 * (crPt c (iabs (crG pl c)) (iabs (crF pl c))).d := by
    unfold crPt
    dsimp only
    rw [valN_lin]
    have hF : valN pl.1 c.fx c.fy c.fz = crF pl c + pl.2 := by unfold crF; omega
    have hG : valN pl.1 c.to.x c.to.y c.to.z = crG pl c + pl.2 * c.to.d := by unfold crG; omega
    rw [hF, hG]
    have : crF pl c * iabs (crG pl c) + crG pl c * iabs (crF pl c) = 0 := by
      unfold iabs
      rcases h3 with ⟨p1, p2⟩ | ⟨p1, p2⟩
      · rw [if_neg (by omega), if_pos p1]; grind
      · rw [if_pos p2, if_neg (by omega)]; grind
    grind
  unfold crossP
  rw [← e1, ← e2, ← e3, ← e4, valN_mul] at k
  generalize redP (crPt c (iabs (crG pl c)) (iabs (crF pl c))) = q at *
  have k2 : (valN pl.1 q.x q.y q.z - pl.2 * q.d) * (g4 (crPt c (iabs (crG pl c)) (iabs (crF pl c))) : Int) = 0 := by
    rw [Int.sub_mul, k]; grind
  rcases Int.mul_eq_zero.1 k2 with k3 | k3 <;> omega
end Go.Proofs.YtdaliaafmcjikaaGreat
