/- A part of the proof: lemmas. -/
import Derived.Test.YtddhjopopelkjaaGreatZF9
set_option linter.unusedVariables false
set_option linter.unusedSimpArgs false
namespace Go.Proofs.YtddhjopopelkjaaGreat
open Go Go.Sx

/-! ### The reference: a way in the plane of a canopy -/
def okQ (n d m k : Int) : Prop := (0 < d ∧ d ≤ 9223372036854775807) ∧ (0 < k ∧ k ≤ 9223372036854775807) ∧ (-9223372036854775807 ≤ n ∧ n ≤ 9223372036854775807) ∧ (-9223372036854775807 ≤ m ∧ m ≤ 9223372036854775807)
noncomputable abbrev cmps : List AV → Option PRes := famA (fun p : Int × Int × Int × Int => okQ p.1 p.2.1 p.2.2.1 p.2.2.2) (fun p => [I p.1, I p.2.1, I p.2.2.1, I p.2.2.2]) (fun p => ⟨I (cmpQ p.1 p.2.1 p.2.2.1 p.2.2.2), []⟩)
theorem cmps_hit {n d m k : Int} (h : okQ n d m k) : cmps [I n, I d, I m, I k] = some ⟨I (cmpQ n d m k), []⟩ :=
  famA_hit (p := fun p : Int × Int × Int × Int => okQ p.1 p.2.1 p.2.2.1 p.2.2.2) (g := fun p => [I p.1, I p.2.1, I p.2.2.1, I p.2.2.2]) (r := fun p => ⟨I (cmpQ p.1 p.2.1 p.2.2.1 p.2.2.2), []⟩) (k := (n, d, m, k)) (fun j hj => by
    simp only [List.cons.injEq, AV.int.injEq, true_and, and_true] at hj
    obtain ⟨h1, h2, h3, h4⟩ := hj
    dsimp only
    rw [h1, h2, h3, h4]) h
/-- Bounds of the shares. -/
def bdQ (n d m k : Int) : Prop := (0 < d ∧ d ≤ 200000000000000) ∧ (0 < k ∧ k ≤ 200000000000000) ∧ (-200000000000000 ≤ n ∧ n ≤ 200000000000000) ∧ (-200000000000000 ≤ m ∧ m ≤ 200000000000000)
theorem bdQ.ok {n d m k : Int} (h : bdQ n d m k) : okQ n d m k := by obtain ⟨h1, h2, h3, h4⟩ := h; exact ⟨by omega, by omega, by omega, by omega⟩
theorem clip_zero {a n d m k : Int} {l : List (Int × Int)} (h : a < 0) : clipR ((a, 0) :: l) n d m k = false := by rw [clipR, if_pos ⟨rfl, h⟩]
theorem clip_free {a n d m k : Int} {l : List (Int × Int)} (h : ¬ a < 0) : clipR ((a, 0) :: l) n d m k = clipR l n d m k := by rw [clipR, if_neg (by omega), if_neg (by omega), if_neg (by omega)]
theorem clip_lo {a v n d m k : Int} {l : List (Int × Int)} (h : 0 < v) (hc : 0 < cmpQ (-a) v n d) : clipR ((a, v) :: l) n d m k = clipR l (-a) v m k := by rw [clipR, if_neg (by omega), if_pos ⟨h, hc⟩]
theorem clip_lo' {a v n d m k : Int} {l : List (Int × Int)} (h : 0 < v) (hc : ¬ 0 < cmpQ (-a) v n d) : clipR ((a, v) :: l) n d m k = clipR l n d m k := by rw [clipR, if_neg (by omega), if_neg (fun h => hc h.2), if_neg (by omega)]
theorem clip_hi {a v n d m k : Int} {l : List (Int × Int)} (h : v < 0) (hc : cmpQ a (-v) m k < 0) : clipR ((a, v) :: l) n d m k = clipR l n d a (-v) := by rw [clipR, if_neg (by omega), if_neg (by omega), if_pos ⟨h, hc⟩]
theorem clip_hi' {a v n d m k : Int} {l : List (Int × Int)} (h : v < 0) (hc : ¬ cmpQ a (-v) m k < 0) : clipR ((a, v) :: l) n d m k = clipR l n d m k := by rw [clipR, if_neg (by omega), if_neg (by omega), if_neg (fun h => hc h.2)]
theorem cmp_le {a v m k : Int} (hc : cmpQ a v m k < 0) (hk : 0 < k) (hm : m ≤ k) (hv : 0 < v) : a ≤ v := by
  unfold cmpQ at hc
  rw [sgn_neg_iff] at hc
  have q := Int.mul_le_mul_of_nonneg_right hm (Int.le_of_lt hv)
  have e : k * (a - v) = a * k - k * v := by grind
  have := (neg_l hk).1 (show k * (a - v) < 0 by omega)
  omega
theorem cmp_ge {a v n d : Int} (hc : 0 < cmpQ a v n d) (hd : 0 < d) (hn : 0 ≤ n) (hv : 0 < v) : 0 ≤ a := by
  unfold cmpQ at hc
  rw [sgn_pos_iff] at hc
  have q := Int.mul_nonneg hn (Int.le_of_lt hv)
  have e : d * a = a * d := Int.mul_comm _ _
  have := (pos_l hd).1 (show 0 < d * a by omega)
  omega
/-- One axis: both sides. -/
structure AxOk (x y lo hi aD bD : Int) : Prop where
  a0 : 0 < aD ∧ aD ≤ 100000
  b0 : 0 < bD ∧ bD ≤ 100000
  x : -(5000 * aD) ≤ x ∧ x ≤ 5000 * aD
  y : -(5000 * bD) ≤ y ∧ y ≤ 5000 * bD
  lo : -5000 ≤ lo ∧ lo ≤ 5000
  hi : -5000 ≤ hi ∧ hi ≤ 5000
theorem ax_eq {x y lo hi aD bD : Int} (h : AxOk x y lo hi aD bD) : (IntKind.i64.wrap (IntKind.i64.wrap (y * aD) - IntKind.i64.wrap (x * bD)) = y * aD - x * bD ∧ IntKind.i64.wrap (0 - IntKind.i64.wrap (IntKind.i64.wrap (y * aD) - IntKind.i64.wrap (x * bD))) = -(y * aD - x * bD) ∧ -100000000000000 ≤ y * aD - x * bD ∧ y * aD - x * bD ≤ 100000000000000) ∧
    (IntKind.i64.wrap (IntKind.i64.wrap (x - IntKind.i64.wrap (lo * aD)) * bD) = (x - lo * aD) * bD ∧ IntKind.i64.wrap (0 - IntKind.i64.wrap (IntKind.i64.wrap (x - IntKind.i64.wrap (lo * aD)) * bD)) = -((x - lo * aD) * bD) ∧ -100000000000000 ≤ (x - lo * aD) * bD ∧ (x - lo * aD) * bD ≤ 100000000000000) ∧
    (IntKind.i64.wrap (IntKind.i64.wrap (IntKind.i64.wrap (hi * aD) - x) * bD) = (hi * aD - x) * bD ∧ IntKind.i64.wrap (0 - IntKind.i64.wrap (IntKind.i64.wrap (IntKind.i64.wrap (hi * aD) - x) * bD)) = -((hi * aD - x) * bD) ∧ -100000000000000 ≤ (hi * aD - x) * bD ∧ (hi * aD - x) * bD ≤ 100000000000000) := by
  obtain ⟨h1, h2, h3, h4, h5, h6⟩ := h
  have m1 := mul_bd (a := y) (b := aD) (A := 500000000) (B := 100000) (by omega) (by omega)
  have m2 := mul_bd (a := x) (b := bD) (A := 500000000) (B := 100000) (by omega) (by omega)
  have m3 := coord_bd h5 h1.1
  have m4 := coord_bd h6 h1.1
  have m5 := mul_bd (a := x - lo * aD) (b := bD) (A := 1000000000) (B := 100000) (by omega) (by omega)
  have m6 := mul_bd (a := hi * aD - x) (b := bD) (A := 1000000000) (B := 100000) (by omega) (by omega)
  rw [W_eq (n := y * aD) (by omega) (by omega), W_eq (n := x * bD) (by omega) (by omega), W_eq (n := lo * aD) (by omega) (by omega), W_eq (n := hi * aD) (by omega) (by omega)]
  rw [W_eq (n := x - lo * aD) (by omega) (by omega), W_eq (n := hi * aD - x) (by omega) (by omega), W_eq (n := (x - lo * aD) * bD) (by omega) (by omega), W_eq (n := (hi * aD - x) * bD) (by omega) (by omega), W_eq (n := y * aD - x * bD) (by omega) (by omega)]
  rw [W_eq (n := 0 - (y * aD - x * bD)) (by omega) (by omega), W_eq (n := 0 - (x - lo * aD) * bD) (by omega) (by omega), W_eq (n := 0 - (hi * aD - x) * bD) (by omega) (by omega)]
  refine ⟨⟨rfl, by omega, by omega, by omega⟩, ⟨rfl, by omega, by omega, by omega⟩, rfl, by omega, by omega, by omega⟩
end Go.Proofs.YtddhjopopelkjaaGreat
