/- A part of the proof: lemmas. -/
import Derived.Test.YtdaliaafmcjikaaGreatZx7
set_option linter.unusedVariables false
set_option linter.unusedSimpArgs false
set_option maxRecDepth 20000
namespace Go.Sx
open Go Ieee

/-! ### The root of a greater whole number, in floats: how great it may be -/
theorem cut_zero_le {m : Nat} {i : Int} (hi : i ≤ 0) : Toward.cut .zero false (m <<< i.toNat) (-i).toNat ≤ m / 2 ^ (-i).toNat := by
  have e0 : i.toNat = 0 := by omega
  rw [e0, Nat.shiftLeft_zero]
  unfold Toward.cut
  dsimp only
  rw [Bool.toNat_false, Nat.add_zero, Nat.one_shiftLeft]
  by_cases h : (-i).toNat ≤ m.log2 + 2
  · rw [Nat.min_eq_left h]; exact Nat.le_refl _
  · rw [Nat.min_eq_right (by omega)]
    have : m < 2 ^ (m.log2 + 2) := Nat.lt_of_lt_of_le (lt_log2 m) (Nat.pow_le_pow_right (by decide) (by omega))
    rw [Nat.div_eq_of_lt this]
    exact Nat.zero_le _
theorem toInt_le {m : Nat} {i : Int} {B : Nat} (hi : i ≤ 0) (hB : m / 2 ^ (-i).toNat ≤ B) : ∃ r : Nat, (Datum.number false m i).toInt .zero = some (r : Int) ∧ r ≤ B := by
  refine ⟨Toward.cut .zero false (m <<< i.toNat) (-i).toNat, ?_, Nat.le_trans (cut_zero_le hi) hB⟩
  simp only [Datum.toInt, Datum.integral, signed, Bool.false_eq_true, if_false, Nat.shiftLeft_zero]
/-- What stands in a word: its number exactly. -/
theorem read_full {R : Nat} (h0 : 2 ^ 52 ≤ R) (h : R < 2047 * 2 ^ 52) : double.read R = .number false (2 ^ 52 + R % 2 ^ 52) ((R / 2 ^ 52 : Nat) - 1075) := by
  unfold Format.read
  have e1 : (R / double.signWeight % 2 == 1) = false := by rw [dbl_sw, Nat.div_eq_of_lt (by omega)]; rfl
  have e2 : R % double.signWeight = R := by rw [dbl_sw]; exact Nat.mod_eq_of_lt (by omega)
  rw [e1, e2, dbl_bin, dbl_inf, dbl_lp]
  dsimp only
  rw [if_neg (by omega), if_pos h]
  have : 1 ≤ R / 2 ^ 52 := (Nat.le_div_iff_mul_le (by decide)).2 (by omega)
  congr 1
  omega
/-- A number that is less than 2^31, written and read and cut. -/
theorem write_int31 {mag : Nat} {place : Int} (h1 : place + mag.log2 ≤ 30) : ∃ r : Nat, (double.read (double.nearest false mag place)).toInt .zero = some (r : Int) ∧ r ≤ 2 ^ 31 := by
  by_cases h0 : mag = 0
  · subst h0
    have e0 : double.nearest false 0 place = 0 := by unfold Format.nearest; rw [if_pos rfl]; rfl
    rw [e0]
    exact ⟨0, rfl, by decide⟩
  · unfold Format.nearest
    rw [if_neg h0]
    have e : max (place + mag.log2 - double.fractionBits) double.leastPlace = max (place + mag.log2 - 52) (-1074) := rfl
    dsimp only
    rw [e, dbl_lp, dbl_bin, dbl_inf]
    have hk := cut_even_bd (mag := mag) (place := place) (last := max (place + mag.log2 - 52) (-1074)) (.inr (by omega))
    generalize hK : Toward.cut .even false (mag <<< (place - max (place + ↑mag.log2 - 52) (-1074)).toNat) (max (place + ↑mag.log2 - 52) (-1074) - place).toNat = K at *
    have hlast : max (place + (mag.log2 : Int) - 52) (-1074) ≤ -22 := by omega
    have hlast3 : -1074 ≤ max (place + (mag.log2 : Int) - 52) (-1074) := by omega
    generalize max (place + (mag.log2 : Int) - 52) (-1074) = last at *
    have hlast2 : (last - -1074).toNat ≤ 1052 := by omega
    have hR : (last - -1074).toNat * 2 ^ 52 + K < 2047 * 2 ^ 52 := by omega
    rw [Nat.min_eq_left (by omega)]
    show ∃ r : Nat, (double.read ((last - -1074).toNat * 2 ^ 52 + K)).toInt .zero = some (r : Int) ∧ r ≤ 2 ^ 31
    by_cases hs : (last - -1074).toNat * 2 ^ 52 + K < 2 ^ 52
    · obtain ⟨m, i, hr, hm, hi⟩ := read_small hR
      rw [hr]
      have hi2 : i ≤ -1074 := by
        rcases hi with rfl | hi
        · omega
        · rw [Nat.div_eq_of_lt hs] at hi; omega
      refine toInt_le (by omega) ?_
      have h25 : 2 ^ 53 ≤ 2 ^ (-i).toNat := Nat.pow_le_pow_right (by decide) (by omega)
      have : m / 2 ^ (-i).toNat ≤ m / 2 ^ 53 := Nat.div_le_div_left h25 (by decide)
      have : m / 2 ^ 53 = 0 := Nat.div_eq_of_lt hm
      omega
    rw [read_full (by omega) hR]
    generalize hL : (last - -1074).toNat = L at *
    by_cases hK3 : K = 2 ^ 53
    · subst hK3
      have e1 : (L * 2 ^ 52 + 2 ^ 53) / 2 ^ 52 = L + 2 := by omega
      have e2 : (L * 2 ^ 52 + 2 ^ 53) % 2 ^ 52 = 0 := by omega
      rw [e1, e2]
      refine toInt_le (by omega) ?_
      have h25 : 2 ^ 21 ≤ 2 ^ (-(((L + 2 : Nat) : Int) - 1075)).toNat := Nat.pow_le_pow_right (by decide) (by omega)
      have : (2 ^ 52 + 0) / 2 ^ (-(((L + 2 : Nat) : Int) - 1075)).toNat ≤ (2 ^ 52 + 0) / 2 ^ 21 := Nat.div_le_div_left h25 (by decide)
      have : (2 ^ 52 + 0) / 2 ^ 21 = 2 ^ 31 := by decide
      omega
    · have hq : (L * 2 ^ 52 + K) / 2 ^ 52 ≤ L + 1 := by
        rw [Nat.mul_comm, Nat.mul_add_div (by decide)]
        have : K / 2 ^ 52 < 2 := Nat.div_lt_of_lt_mul (by omega)
        omega
      generalize (L * 2 ^ 52 + K) / 2 ^ 52 = q at *
      have hmod := Nat.mod_lt (L * 2 ^ 52 + K) (show 0 < 2 ^ 52 by decide)
      generalize (L * 2 ^ 52 + K) % 2 ^ 52 = f at *
      refine toInt_le (by omega) ?_
      have h25 : 2 ^ 22 ≤ 2 ^ (-((q : Int) - 1075)).toNat := Nat.pow_le_pow_right (by decide) (by omega)
      have : (2 ^ 52 + f) / 2 ^ (-((q : Int) - 1075)).toNat ≤ (2 ^ 52 + f) / 2 ^ 22 := Nat.div_le_div_left h25 (by decide)
      have : (2 ^ 52 + f) / 2 ^ 22 < 2 ^ 31 := Nat.div_lt_of_lt_mul (by omega)
      omega
/-- A number below 2^62, as a float. -/
theorem read_big {n : Nat} (h0 : 2 ^ 53 ≤ n) (h1 : n < 4611686018427387000) : ∃ m i, double.read (double.nearest false n 0) = .number false m i ∧ 2 ^ 52 ≤ m ∧ m < 2 ^ 53 ∧ i ≤ 9 ∧ 0 ≤ i := by
  have hL := log2_lt (m := n) (k := 62) (by omega) (by omega)
  have hL0 : 53 ≤ n.log2 := (Nat.le_log2 (by omega)).2 h0
  have hlo : 2 ^ n.log2 ≤ n := Nat.log2_self_le (by omega)
  have hhi := lt_log2 n
  unfold Format.nearest
  rw [if_neg (by omega)]
  have e : max ((0 : Int) + n.log2 - double.fractionBits) double.leastPlace = (n.log2 : Int) - 52 := by
    show max ((0 : Int) + n.log2 - 52) (-1074) = _
    omega
  dsimp only
  rw [e, dbl_lp, dbl_bin, dbl_inf]
  have hk := cut_even_bd (mag := n) (place := 0) (last := (n.log2 : Int) - 52) (.inr (by omega))
  have hk2 : Toward.cut .even false (n <<< ((0 : Int) - ((n.log2 : Int) - 52)).toNat) (((n.log2 : Int) - 52) - 0).toNat ≤ n / 2 ^ (n.log2 - 52) + 1 ∧ n / 2 ^ (n.log2 - 52) ≤ Toward.cut .even false (n <<< ((0 : Int) - ((n.log2 : Int) - 52)).toNat) (((n.log2 : Int) - 52) - 0).toNat := by
    rw [show ((0 : Int) - ((n.log2 : Int) - 52)).toNat = 0 by omega, show (((n.log2 : Int) - 52) - 0).toNat = n.log2 - 52 by omega, Nat.shiftLeft_zero]
    unfold Toward.cut
    dsimp only
    rw [Nat.min_eq_left (by omega), Nat.one_shiftLeft]
    have : ∀ b : Bool, b.toNat ≤ 1 := fun b => by cases b <;> decide
    have := this (decide (2 ^ (n.log2 - 52) < 2 * (n % 2 ^ (n.log2 - 52))) || 2 ^ (n.log2 - 52) == 2 * (n % 2 ^ (n.log2 - 52)) && n / 2 ^ (n.log2 - 52) % 2 == 1)
    omega
  have hq1 : 2 ^ 52 ≤ n / 2 ^ (n.log2 - 52) := by
    refine (Nat.le_div_iff_mul_le (Nat.pow_pos (by decide))).2 ?_
    rw [← Nat.pow_add, show 52 + (n.log2 - 52) = n.log2 by omega]
    exact hlo
  have hq2 : n / 2 ^ (n.log2 - 52) < 2 ^ 53 := by
    refine Nat.div_lt_of_lt_mul (Nat.lt_of_lt_of_le hhi ?_)
    rw [← Nat.pow_add]
    exact Nat.pow_le_pow_right (by decide) (by omega)
  have hq3 : n.log2 = 61 → n / 2 ^ (n.log2 - 52) ≤ 9007199254740990 := by
    intro h; rw [h]
    have : n / 2 ^ (61 - 52) < 9007199254740991 := Nat.div_lt_of_lt_mul (by simp; omega)
    omega
  generalize n / 2 ^ (n.log2 - 52) = q at *
  generalize Toward.cut .even false (n <<< ((0 : Int) - ((n.log2 : Int) - 52)).toNat) (((n.log2 : Int) - 52) - 0).toNat = K at *
  generalize n.log2 = L at *
  rw [show (((L : Int) - 52) - -1074).toNat = L + 1022 by omega, Nat.min_eq_left (by omega)]
  show ∃ m i, double.read ((L + 1022) * 2 ^ 52 + K) = .number false m i ∧ 2 ^ 52 ≤ m ∧ m < 2 ^ 53 ∧ i ≤ 9 ∧ 0 ≤ i
  rw [read_full (by omega) (by omega)]
  refine ⟨_, _, rfl, by omega, by omega, ?_, ?_⟩
  · have : ((L + 1022) * 2 ^ 52 + K) / 2 ^ 52 ≤ 1084 := by omega
    omega
  · have : 1075 ≤ ((L + 1022) * 2 ^ 52 + K) / 2 ^ 52 := by omega
    omega
theorem root_bd {m : Nat} {i : Int} (hm1 : 2 ^ 52 ≤ m) (hm2 : m < 2 ^ 53) (hi : i ≤ 9) : ∃ d, (Datum.number false m i).root 54 = some d ∧ ∃ r : Nat, (double.read (double.write d)).toInt .zero = some (r : Int) ∧ r ≤ 2 ^ 31 := by
  have hlog : m.log2 = 52 := by
    have a1 := log2_lt hm2 (by omega)
    have a2 : 52 ≤ m.log2 := (Nat.le_log2 (by omega)).2 hm1
    omega
  unfold Datum.root
  dsimp only
  rw [if_neg (by omega), if_neg (by decide), hlog]
  refine ⟨_, rfl, ?_⟩
  unfold Format.write
  dsimp only
  generalize hmore : 2 * 54 - 52 + ((i - ((2 * 54 - 52 : Nat) : Int)) % 2).toNat = more
  have hmore2 : 56 ≤ more ∧ more ≤ 57 := by omega
  generalize hw : Datum.rootFrom (m <<< more) ((m <<< more).log2 / 2 + 1) 0 = whole
  have hwle : whole * whole ≤ m <<< more := by rw [← hw]; exact rootFrom_le _ _ (by simp)
  have hsm : m <<< more < 2 ^ 110 := by
    rw [Nat.shiftLeft_eq]
    calc m * 2 ^ more < 2 ^ 53 * 2 ^ more := Nat.mul_lt_mul_of_pos_right hm2 (Nat.pow_pos (by decide))
      _ ≤ 2 ^ 53 * 2 ^ 57 := Nat.mul_le_mul_left _ (Nat.pow_le_pow_right (by decide) hmore2.2)
      _ = 2 ^ 110 := by decide
  have hwl : whole < 2 ^ 55 := by
    rcases Nat.lt_or_ge whole (2 ^ 55) with h | h
    · exact h
    · have := Nat.mul_le_mul h h
      omega
  refine write_int31 ?_
  have hb : ∀ b : Bool, b.toNat ≤ 1 := fun b => by cases b <;> decide
  have hb := hb (whole * whole != m <<< more)
  generalize (whole * whole != m <<< more).toNat = c at *
  by_cases hz : 2 * whole + c = 0
  · rw [hz]; have : Nat.log2 0 = 0 := by decide
    rw [this]; omega
  · have := log2_lt (m := 2 * whole + c) (k := 56) (by omega) (by omega)
    omega
/-- The root of a whole number below 2^62, as the program takes it: it is there, and small. -/
theorem sqrt_big {n : Int} (h0 : 0 ≤ n) (h1 : n < 4611686018427387000) : ∃ (y : Nat) (r : Int), FloatKind.f64.format.sqrt (floatOfInt .f64 n) = some y ∧ floatToIntVal .f64 y .i64 = some r ∧ 0 ≤ r ∧ r ≤ 2147483648 := by
  by_cases hsm : n < 9007199254740992
  · obtain ⟨y, r, a, b, c, d⟩ := sqrt_int h0 hsm
    exact ⟨y, r, a, b, c, by omega⟩
  have key : ∃ (d : Datum), (double.read (double.nearest false n.natAbs 0)).root 54 = some d ∧ ∃ r : Nat, (double.read (double.write d)).toInt .zero = some (r : Int) ∧ r ≤ 2 ^ 31 := by
    obtain ⟨m, i, hr, hm1, hm2, hi, _⟩ := read_big (n := n.natAbs) (by omega) (by omega)
    rw [hr]
    exact root_bd hm1 hm2 hi
  obtain ⟨d, hd, r, hr, hrb⟩ := key
  refine ⟨double.write d, (r : Int), ?_, ?_, by omega, by omega⟩
  · show ((double.read (double.write (.number (decide (n < 0)) n.natAbs 0))).root 54).map double.write = _
    rw [decide_eq_false (by omega)]
    show ((double.read (double.nearest false n.natAbs 0)).root 54).map double.write = _
    rw [hd]; rfl
  · unfold floatToIntVal
    show (match (double.read (double.write d)).toInt .zero with
      | some n => if IntKind.i64.min ≤ n ∧ n ≤ IntKind.i64.max then some n else none
      | none => none) = _
    rw [hr]
    dsimp only
    rw [if_pos (by
      have e1 : IntKind.i64.min = -9223372036854775808 := by decide
      have e2 : IntKind.i64.max = 9223372036854775807 := by decide
      rw [e1, e2]; omega)]
end Go.Sx
