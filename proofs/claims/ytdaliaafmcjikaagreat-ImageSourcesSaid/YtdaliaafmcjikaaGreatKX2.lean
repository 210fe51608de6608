/- A part of the proof: lemmas. -/
import Derived.Test.YtdaliaafmcjikaaGreatKX1
import Derived.Test.YtdaliaafmcjikaaGreatKF1
set_option linter.unusedVariables false
set_option linter.unusedSimpArgs false
namespace Go.Proofs.YtdaliaafmcjikaaGreat
open Go Go.Sx

/-! ### Plain law: well met -/
/-- The number of a point in planes of a kind, without roundings. -/
def valN (k x y z : Int) : Int := if k = 0 then x else if k = 1 then y else if k = 2 then z else if k = 3 then x + y else x - y
theorem plW_str {w : Wl} {n sx sy : Int} (h : Str w n sx sy) : plW w = if sx = 0 then (0, w.fx) else if sy = 0 then (1, w.fy) else if sx = sy then (4, w.fx - w.fy) else (3, w.fx + w.fy) := by
  have hn := h.hn
  have b1 := h.b1
  have b2 := h.b2
  have hxy := h.hxy
  have w4 : IntKind.i64.wrap (w.fx - w.fy) = w.fx - w.fy := W_eq (by omega) (by omega)
  have w3 : IntKind.i64.wrap (w.fx + w.fy) = w.fx + w.fy := W_eq (by omega) (by omega)
  unfold plW
  rw [h.dx, h.dy, w3, w4]
  rcases h.hx with rfl | rfl | rfl <;> rcases h.hy with rfl | rfl | rfl <;> (try (exact absurd ⟨rfl, rfl⟩ hxy)) <;> simp only [Int.mul_zero, Int.mul_one, Int.mul_neg] <;> (repeat' split) <;> first | rfl | (exfalso; omega)
set_option maxHeartbeats 8000000 in
theorem wall_well {h : Hal} {w : Wl} {n sx sy : Int} (hs : Str w n sx sy) {p : Pt} (hp : PtOk p.x p.y p.d) (ht : 2 ≤ h.ht ∧ h.ht ≤ 5000) (hpl : valN (plW w).1 p.x p.y p.z = (plW w).2 * p.d) : wellW h w p = wellL h w.ln p := by
  obtain ⟨x, y, z, d⟩ := p
  dsimp only at hp hpl
  have hd := hp.hd
  have hD := hp.hD
  have nd := nd_bd hs.hn hs.nle hd
  have a1 := coord_bd hs.b1 hd
  have a2 := coord_bd hs.b2 hd
  have a3 := coord_bd hs.b3 hd
  have a4 := coord_bd hs.b4 hd
  have hz : IntKind.i64.wrap (h.ht * d) = h.ht * d ∧ IntKind.i64.wrap (h.ht * d - 1) = h.ht * d - 1 ∧ 0 < h.ht * d := by
    have := coord_bd (f := h.ht) (d := d) (by omega) hd
    have := Int.mul_pos (a := h.ht) (b := d) (by omega) hd
    exact ⟨W_eq (by omega) (by omega), W_eq (by omega) (by omega), this⟩
  unfold wellW wellL
  rw [along_eq hs hp, full_eq hs]
  rw [plW_str hs] at hpl
  unfold valN at hpl
  rw [imin_eq, imin_eq, imax_eq, imax_eq]
  dsimp only
  rw [hz.1, hz.2.1]
  rw [min_mul hd, min_mul hd, max_mul hd, max_mul hd]
  rw [W_eq (n := min (w.fx * d) (w.tx * d)) (by omega) (by omega), W_eq (n := max (w.fx * d) (w.tx * d)) (by omega) (by omega), W_eq (n := min (w.fy * d) (w.ty * d)) (by omega) (by omega), W_eq (n := max (w.fy * d) (w.ty * d)) (by omega) (by omega)]
  have etx := hs.tx
  have ety := hs.ty
  have b1 := hs.b1
  have b2 := hs.b2
  have hn := hs.hn
  have cnd : (w.fx = w.tx) ↔ sx = 0 := by
    rw [etx]
    constructor
    · intro e
      have : n * sx = 0 := by omega
      rcases Int.mul_eq_zero.1 this with h | h
      · omega
      · exact h
    · intro e; rw [e]; omega
  have ex : w.tx * d = w.fx * d + sx * (n * d) := by rw [etx]; grind
  have ey : w.ty * d = w.fy * d + sy * (n * d) := by rw [ety]; grind
  have full : n * (sx * sx + sy * sy) * d = (sx * sx + sy * sy) * (n * d) := by grind
  have d3 : (w.fx + w.fy) * d = w.fx * d + w.fy * d := by grind
  have d4 : (w.fx - w.fy) * d = w.fx * d - w.fy * d := by grind
  rw [full, ex, ey]
  unfold alo
  simp only [cnd]
  have hx := hs.hx
  have hy := hs.hy
  have hxy := hs.hxy
  clear full etx ety cnd hs hp hz
  generalize w.fx * d = A at *
  generalize w.fy * d = C at *
  generalize n * d = N at *
  generalize h.ht * d = H at *
  rcases hx with rfl | rfl | rfl <;> rcases hy with rfl | rfl | rfl <;> (try (exact absurd ⟨rfl, rfl⟩ hxy)) <;> simp [IntKind.wrap_i64] at hpl ⊢ <;> rw [Bool.eq_iff_iff] <;> simp [within_iff]
  all_goals omega
end Go.Proofs.YtdaliaafmcjikaaGreat
