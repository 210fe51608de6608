/- A part of the proof: lemmas. -/
import Derived.Test.YtddhjopopelkjaaGreatZx6
import Derived.Laws.FloatArith
set_option linter.unusedVariables false
set_option linter.unusedSimpArgs false
set_option maxRecDepth 20000
namespace Go.Sx
open Go Ieee

/-! ### The root of a whole number, in floats: how great it may be -/
theorem rootFrom_le {n : Nat} : ∀ (todo root : Nat), root * root ≤ n → Datum.rootFrom n todo root * Datum.rootFrom n todo root ≤ n
  | 0, root, h => h
  | todo + 1, root, h => by
    unfold Datum.rootFrom
    dsimp only
    split
    · rename_i h2; exact rootFrom_le todo _ h2
    · exact rootFrom_le todo _ h
theorem dbl_sw : double.signWeight = 2 ^ 63 := rfl
theorem dbl_bin : double.binade = 2 ^ 52 := rfl
theorem dbl_lp : double.leastPlace = -1074 := rfl
theorem dbl_inf : double.infRung = 2047 * 2 ^ 52 := rfl
theorem log2_lt {m k : Nat} (h : m < 2 ^ k) (h0 : 0 < m) : m.log2 < k := (Nat.log2_lt (by omega)).2 h
theorem lt_log2 (m : Nat) : m < 2 ^ (m.log2 + 1) := by
  by_cases h : m = 0
  · subst h; decide
  · exact (Nat.log2_lt h).1 (by omega)
/-- What a word below infinity stands for. -/
theorem read_small {R : Nat} (h : R < 2047 * 2 ^ 52) : ∃ m i, double.read R = .number false m i ∧ m < 2 ^ 53 ∧ (i = -1074 ∨ (i : Int) = (R / 2 ^ 52 : Nat) - 1075) := by
  unfold Format.read
  have e1 : (R / double.signWeight % 2 == 1) = false := by rw [dbl_sw, Nat.div_eq_of_lt (by omega)]; rfl
  have e2 : R % double.signWeight = R := by rw [dbl_sw]; exact Nat.mod_eq_of_lt (by omega)
  rw [e1, e2, dbl_bin, dbl_inf, dbl_lp]
  dsimp only
  by_cases h1 : R < 2 ^ 52
  · rw [if_pos h1]; exact ⟨R, -1074, rfl, by omega, .inl rfl⟩
  · rw [if_neg h1, if_pos h]
    refine ⟨_, _, rfl, ?_, .inr ?_⟩
    · have := Nat.mod_lt R (show 0 < 2 ^ 52 by decide); omega
    · have : 1 ≤ R / 2 ^ 52 := (Nat.le_div_iff_mul_le (by decide)).2 (by omega)
      omega
theorem cut_zero_bd {m : Nat} {i : Int} (hm : m < 2 ^ 53) (hi : i ≤ -25) : Toward.cut .zero false (m <<< i.toNat) (-i).toNat ≤ 2 ^ 28 := by
  have e0 : i.toNat = 0 := by omega
  rw [e0, Nat.shiftLeft_zero]
  unfold Toward.cut
  dsimp only
  rw [Bool.toNat_false, Nat.add_zero, Nat.one_shiftLeft]
  have hl := lt_log2 m
  by_cases h : (-i).toNat ≤ m.log2 + 2
  · rw [Nat.min_eq_left h]
    have h25 : 2 ^ 25 ≤ 2 ^ (-i).toNat := Nat.pow_le_pow_right (by decide) (by omega)
    have : m / 2 ^ (-i).toNat ≤ m / 2 ^ 25 := Nat.div_le_div_left h25 (by decide)
    have : m / 2 ^ 25 < 2 ^ 28 := Nat.div_lt_of_lt_mul (by omega)
    omega
  · rw [Nat.min_eq_right (by omega)]
    have : m < 2 ^ (m.log2 + 2) := Nat.lt_of_lt_of_le hl (Nat.pow_le_pow_right (by decide) (by omega))
    rw [Nat.div_eq_of_lt this]
    omega
theorem toInt_bd {m : Nat} {i : Int} (hm : m < 2 ^ 53) (hi : i ≤ -25) : ∃ r : Nat, (Datum.number false m i).toInt .zero = some (r : Int) ∧ r ≤ 2 ^ 28 := by
  refine ⟨Toward.cut .zero false (m <<< i.toNat) (-i).toNat, ?_, cut_zero_bd hm hi⟩
  simp only [Datum.toInt, Datum.integral, signed, Bool.false_eq_true, if_false, Nat.shiftLeft_zero]
theorem cut_even_bd {mag : Nat} {place last : Int} (hlast : last = place + mag.log2 - 52 ∨ (place + mag.log2 - 52 ≤ last)) : Toward.cut .even false (mag <<< (place - last).toNat) (last - place).toNat ≤ 2 ^ 53 := by
  have hle : place + mag.log2 - 52 ≤ last := by omega
  have hl := lt_log2 mag
  unfold Toward.cut
  dsimp only
  by_cases h : place ≤ last
  · have e0 : (place - last).toNat = 0 := by omega
    rw [e0, Nat.shiftLeft_zero, Nat.one_shiftLeft]
    have hlow : mag / 2 ^ min (last - place).toNat (mag.log2 + 2) < 2 ^ 53 := by
      by_cases h2 : (last - place).toNat ≤ mag.log2 + 2
      · rw [Nat.min_eq_left h2]
        refine Nat.div_lt_of_lt_mul (Nat.lt_of_lt_of_le hl ?_)
        rw [← Nat.pow_add]
        exact Nat.pow_le_pow_right (by decide) (by omega)
      · rw [Nat.min_eq_right (by omega), Nat.div_eq_of_lt (Nat.lt_of_lt_of_le hl (Nat.pow_le_pow_right (by decide) (by omega)))]
        decide
    have : ∀ b : Bool, b.toNat ≤ 1 := fun b => by cases b <;> decide
    have := this (decide (2 ^ min (last - place).toNat (mag.log2 + 2) < 2 * (mag % 2 ^ min (last - place).toNat (mag.log2 + 2))) || 2 ^ min (last - place).toNat (mag.log2 + 2) == 2 * (mag % 2 ^ min (last - place).toNat (mag.log2 + 2)) && mag / 2 ^ min (last - place).toNat (mag.log2 + 2) % 2 == 1)
    omega
  · have e0 : (last - place).toNat = 0 := by omega
    rw [e0, Nat.zero_min, Nat.shiftLeft_zero, Nat.div_one, Nat.mod_one, Nat.shiftLeft_eq]
    have : mag * 2 ^ (place - last).toNat < 2 ^ 53 := by
      refine Nat.lt_of_lt_of_le (Nat.mul_lt_mul_of_pos_right hl (Nat.pow_pos (by decide))) ?_
      rw [← Nat.pow_add]
      exact Nat.pow_le_pow_right (by decide) (by omega)
    simp
    omega
/-- A number that is small in size, written and read and cut. -/
theorem write_int {mag : Nat} {place : Int} (h1 : place + mag.log2 ≤ 26) : ∃ r : Nat, (double.read (double.nearest false mag place)).toInt .zero = some (r : Int) ∧ r ≤ 2 ^ 28 := by
  by_cases h0 : mag = 0
  · subst h0
    have e0 : double.nearest false 0 place = 0 := by unfold Format.nearest; rw [if_pos rfl]; rfl
    rw [e0]
    exact ⟨0, rfl, by decide⟩
  · unfold Format.nearest
    rw [if_neg h0]
    have e : max (place + mag.log2 - double.fractionBits) double.leastPlace = max (place + mag.log2 - 52) (-1074) := rfl
    dsimp only
    rw [e, dbl_lp, dbl_bin, dbl_inf]
    have hk := cut_even_bd (mag := mag) (place := place) (last := max (place + mag.log2 - 52) (-1074)) (.inr (by omega))
    generalize hK : Toward.cut .even false (mag <<< (place - max (place + ↑mag.log2 - 52) (-1074)).toNat) (max (place + ↑mag.log2 - 52) (-1074) - place).toNat = K at *
    have hlast : max (place + (mag.log2 : Int) - 52) (-1074) ≤ -26 := by omega
    generalize max (place + (mag.log2 : Int) - 52) (-1074) = last at *
    have hlast2 : (last - -1074).toNat ≤ 1048 := by omega
    have hR : (last - -1074).toNat * 2 ^ 52 + K < 2047 * 2 ^ 52 := by omega
    rw [Nat.min_eq_left (by omega)]
    show ∃ r : Nat, (double.read ((last - -1074).toNat * 2 ^ 52 + K)).toInt .zero = some (r : Int) ∧ r ≤ 2 ^ 28
    obtain ⟨m, i, hr, hm, hi⟩ := read_small hR
    rw [hr]
    refine toInt_bd hm ?_
    have : ((last - -1074).toNat * 2 ^ 52 + K) / 2 ^ 52 ≤ (last - -1074).toNat + 2 := by
      rw [Nat.mul_comm, Nat.mul_add_div (by decide)]
      have : K / 2 ^ 52 ≤ 2 := by
        have : K / 2 ^ 52 ≤ 2 ^ 53 / 2 ^ 52 := Nat.div_le_div_right hk
        simpa using this
      omega
    omega
theorem read_exact {n : Nat} (h0 : 0 < n) (h1 : n < 2 ^ 53) : double.read (double.nearest false n 0) = .number false (n <<< (52 - n.log2)) ((n.log2 : Int) - 52) := by
  have hL := log2_lt h1 h0
  have hlo : 2 ^ n.log2 ≤ n := Nat.log2_self_le (by omega)
  have hhi := lt_log2 n
  unfold Format.nearest
  rw [if_neg (by omega)]
  have e : max ((0 : Int) + n.log2 - double.fractionBits) double.leastPlace = (n.log2 : Int) - 52 := by
    show max ((0 : Int) + n.log2 - 52) (-1074) = _
    omega
  dsimp only
  rw [e, dbl_lp, dbl_bin, dbl_inf]
  have hc : Toward.cut .even false (n <<< ((0 : Int) - ((n.log2 : Int) - 52)).toNat) (((n.log2 : Int) - 52) - 0).toNat = n <<< (52 - n.log2) := by
    rw [show ((0 : Int) - ((n.log2 : Int) - 52)).toNat = 52 - n.log2 by omega, show (((n.log2 : Int) - 52) - 0).toNat = 0 by omega]
    unfold Toward.cut
    dsimp only
    rw [Nat.zero_min, Nat.shiftLeft_zero, Nat.div_one, Nat.mod_one]
    simp
  rw [hc]
  have hm1 : 2 ^ 52 ≤ n <<< (52 - n.log2) := by
    rw [Nat.shiftLeft_eq]
    calc 2 ^ 52 = 2 ^ n.log2 * 2 ^ (52 - n.log2) := by rw [← Nat.pow_add]; congr 1; omega
      _ ≤ n * 2 ^ (52 - n.log2) := Nat.mul_le_mul_right _ hlo
  have hm2 : n <<< (52 - n.log2) < 2 ^ 53 := by
    rw [Nat.shiftLeft_eq]
    calc n * 2 ^ (52 - n.log2) < 2 ^ (n.log2 + 1) * 2 ^ (52 - n.log2) := Nat.mul_lt_mul_of_pos_right hhi (Nat.pow_pos (by decide))
      _ = 2 ^ 53 := by rw [← Nat.pow_add]; congr 1; omega
  generalize n <<< (52 - n.log2) = m at *
  rw [Nat.min_eq_left (by omega)]
  have eT : (((n.log2 : Int) - 52) - -1074).toNat = n.log2 + 1022 := by omega
  rw [eT]
  show double.read ((n.log2 + 1022) * 2 ^ 52 + m) = _
  unfold Format.read
  have hA : ¬ (n.log2 + 1022) * 2 ^ 52 + m < 2 ^ 52 := by omega
  have hB : (n.log2 + 1022) * 2 ^ 52 + m < 2047 * 2 ^ 52 := by omega
  have e3 : ((n.log2 + 1022) * 2 ^ 52 + m) % 2 ^ 52 = m - 2 ^ 52 := by omega
  have e4 : ((n.log2 + 1022) * 2 ^ 52 + m) / 2 ^ 52 = n.log2 + 1023 := by omega
  have e5 : (n.log2 + 1022) * 2 ^ 52 + m < 2 ^ 63 := by omega
  generalize (n.log2 + 1022) * 2 ^ 52 + m = R at *
  have e1 : (R / double.signWeight % 2 == 1) = false := by rw [dbl_sw, Nat.div_eq_of_lt e5]; rfl
  have e2 : R % double.signWeight = R := by rw [dbl_sw]; exact Nat.mod_eq_of_lt e5
  rw [e1, e2, dbl_bin, dbl_inf, dbl_lp]
  dsimp only
  rw [if_neg hA, if_pos hB, e3, e4]
  have f1 : 2 ^ 52 + (m - 2 ^ 52) = m := by omega
  have f2 : (-1074 : Int) + ((n.log2 + 1023 - 1 : Nat) : Int) = (n.log2 : Int) - 52 := by omega
  rw [f1, f2]
/-- The root of a whole number, as the program takes it: it is there, and small. -/
theorem sqrt_int {n : Int} (h0 : 0 ≤ n) (h1 : n < 9007199254740992) : ∃ (y : Nat) (r : Int), FloatKind.f64.format.sqrt (floatOfInt .f64 n) = some y ∧ floatToIntVal .f64 y .i64 = some r ∧ 0 ≤ r ∧ r ≤ 268435456 := by
  have key : ∃ (d : Datum), (double.read (double.nearest false n.natAbs 0)).root 54 = some d ∧ ∃ r : Nat, (double.read (double.write d)).toInt .zero = some (r : Int) ∧ r ≤ 2 ^ 28 := by
    by_cases hz : n = 0
    · subst hz
      exact ⟨.number false 0 (-1074), rfl, 0, rfl, by decide⟩
    · have hn0 : 0 < n.natAbs := by omega
      have hn1 : n.natAbs < 2 ^ 53 := by omega
      rw [read_exact hn0 hn1]
      have hL := log2_lt hn1 hn0
      generalize hm : n.natAbs <<< (52 - n.natAbs.log2) = m
      have hm2 : m < 2 ^ 53 := by
        have hhi := lt_log2 n.natAbs
        rw [← hm, Nat.shiftLeft_eq]
        calc n.natAbs * 2 ^ (52 - n.natAbs.log2) < 2 ^ (n.natAbs.log2 + 1) * 2 ^ (52 - n.natAbs.log2) := Nat.mul_lt_mul_of_pos_right hhi (Nat.pow_pos (by decide))
          _ = 2 ^ 53 := by rw [← Nat.pow_add]; congr 1; omega
      have hm1 : 2 ^ 52 ≤ m := by
        have hlo : 2 ^ n.natAbs.log2 ≤ n.natAbs := Nat.log2_self_le (by omega)
        rw [← hm, Nat.shiftLeft_eq]
        calc 2 ^ 52 = 2 ^ n.natAbs.log2 * 2 ^ (52 - n.natAbs.log2) := by rw [← Nat.pow_add]; congr 1; omega
          _ ≤ n.natAbs * 2 ^ (52 - n.natAbs.log2) := Nat.mul_le_mul_right _ hlo
      have hlog : m.log2 = 52 := by
        have a1 := log2_lt hm2 (by omega)
        have a2 : 52 ≤ m.log2 := (Nat.le_log2 (by omega)).2 hm1
        omega
      unfold Datum.root
      dsimp only
      rw [if_neg (by omega), if_neg (by decide), hlog]
      refine ⟨_, rfl, ?_⟩
      unfold Format.write
      dsimp only
      generalize hmore : 2 * 54 - 52 + (((n.natAbs.log2 : Int) - 52 - ((2 * 54 - 52 : Nat) : Int)) % 2).toNat = more
      have hmore2 : 56 ≤ more ∧ more ≤ 57 := by omega
      generalize hw : Datum.rootFrom (m <<< more) ((m <<< more).log2 / 2 + 1) 0 = whole
      have hwle : whole * whole ≤ m <<< more := by rw [← hw]; exact rootFrom_le _ _ (by simp)
      have hsm : m <<< more < 2 ^ 110 := by
        rw [Nat.shiftLeft_eq]
        calc m * 2 ^ more < 2 ^ 53 * 2 ^ more := Nat.mul_lt_mul_of_pos_right hm2 (Nat.pow_pos (by decide))
          _ ≤ 2 ^ 53 * 2 ^ 57 := Nat.mul_le_mul_left _ (Nat.pow_le_pow_right (by decide) hmore2.2)
          _ = 2 ^ 110 := by decide
      have hwl : whole < 2 ^ 55 := by
        rcases Nat.lt_or_ge whole (2 ^ 55) with h | h
        · exact h
        · have := Nat.mul_le_mul h h
          omega
      refine write_int ?_
      have hb : ∀ b : Bool, b.toNat ≤ 1 := fun b => by cases b <;> decide
      have hb := hb (whole * whole != m <<< more)
      generalize (whole * whole != m <<< more).toNat = c at *
      by_cases hz : 2 * whole + c = 0
      · rw [hz]; have : Nat.log2 0 = 0 := by decide
        rw [this]; omega
      · have := log2_lt (m := 2 * whole + c) (k := 56) (by omega) (by omega)
        omega
  obtain ⟨d, hd, r, hr, hrb⟩ := key
  refine ⟨double.write d, (r : Int), ?_, ?_, by omega, by omega⟩
  · show ((double.read (double.write (.number (decide (n < 0)) n.natAbs 0))).root 54).map double.write = _
    rw [decide_eq_false (by omega)]
    show ((double.read (double.nearest false n.natAbs 0)).root 54).map double.write = _
    rw [hd]; rfl
  · unfold floatToIntVal
    show (match (double.read (double.write d)).toInt .zero with
      | some n => if IntKind.i64.min ≤ n ∧ n ≤ IntKind.i64.max then some n else none
      | none => none) = _
    rw [hr]
    dsimp only
    rw [if_pos (by
      have e1 : IntKind.i64.min = -9223372036854775808 := by decide
      have e2 : IntKind.i64.max = 9223372036854775807 := by decide
      rw [e1, e2]; omega)]
end Go.Sx
