/- A part of the proof: lemmas. -/
import Derived.Test.YtmbgehpcjihfpaaAL13
set_option linter.unusedVariables false
set_option linter.unusedSimpArgs false
namespace Go.Proofs.Ytmbgehpcjihfpaa
open Go Go.Sx
/-! ### Copies, remainders, whole floats -/
theorem e6 {r v : Int} {ls : List Sp} (hl : ls.length < 100000) : PCall Try.prog 6 [arr r v ls] ⟨.agg [I r, I v, .asl 0 0 (ls.map sv).length], [(5, ls.map sv)]⟩ := by
  have h1 := oneEls_sv ls
  have h2 := sv_length ls
  refine bs.pv (sx := nos) pt0_ok Try.func6 (by kernel_rfl) (by kernel_rfl) rfl ?_
  repeat' (first | refine wk3 ?_ | (refine wk2 ?_ ?_ <;> intro _) | refine wk4 ?_ | fail); all_goals (conv => whnf)
  refine ret_rows [3] rfl ?_ rfl
  show AV.agg [I r, I v, AV.asl 3 0 (0 + (ls.map sv).length)] = AV.agg [I r, I v, AV.asl 3 0 (ls.map sv).length]
  rw [Nat.zero_add]
theorem e6f {r v : Int} {ls : List Sp} (hl : ls.length < 100000) : PCall Try.prog 6 [arr r v ls] ⟨arr r v ls, []⟩ := (e6 hl).freeze ⟨⟨rfl, rfl⟩, ⟨rfl, rfl⟩, ⟨rfl, rfl, rfl⟩, trivial⟩
def md (n : Int) : Int := if n.tmod 20 < 0 then n.tmod 20 + 20 else n.tmod 20
theorem md_bd (n : Int) : 0 ≤ md n ∧ md n ≤ 19 := by
  unfold md
  have := Int.tmod_lt_of_pos n (show (0 : Int) < 20 by decide)
  have h2 := Int.lt_tmod_of_pos n (show (0 : Int) < 20 by decide)
  split <;> omega
theorem e7 (n : Int) : PCall Try.prog 7 [I n, I 20] ⟨I (md n), []⟩ := by
  have h1 := Int.tmod_lt_of_pos n (show (0 : Int) < 20 by decide)
  have h2 := Int.lt_tmod_of_pos n (show (0 : Int) < 20 by decide)
  have w : IntKind.i64.wrap (n.tmod 20 + 20) = n.tmod 20 + 20 := W_eq (by omega) (by omega)
  unfold md
  by_cases h : n.tmod 20 < 0
  · rw [if_pos h]
    refine bs.pv (sx := nos) pt0_ok Try.func7 (by kernel_rfl) (by kernel_rfl) rfl ?_
    repeat' (first | refine wk3 ?_ | (refine wk2 ?_ ?_ <;> intro _) | refine wk4 ?_ | fail); all_goals (conv => whnf)
    exact ret_int w
  · rw [if_neg h]
    refine bs.pv (sx := nos) pt0_ok Try.func7 (by kernel_rfl) (by kernel_rfl) rfl ?_
    repeat' (first | refine wk3 ?_ | (refine wk2 ?_ ?_ <;> intro _) | refine wk4 ?_ | fail); all_goals (conv => whnf)
    exact ret_int rfl
abbrev Fl (n : Int) : AV := .flt .f64 (FloatKind.f64.nearest n)
theorem e13 (a b : Int) : PCall Try.prog 13 [I a, I b] ⟨.cpx .f64 (FloatKind.f64.nearest a) (FloatKind.f64.nearest b), []⟩ := by
  refine bs.pv (sx := nos) pt0_ok Try.func13 (by kernel_rfl) (by kernel_rfl) rfl ?_
  repeat' (first | refine wk3 ?_ | (refine wk2 ?_ ?_ <;> intro _) | refine wk4 ?_ | fail); all_goals (conv => whnf)
  exact ret_of rfl rfl
set_option exponentiation.threshold 2000 in
theorem n0_bits : FloatKind.f64.nearest 0 = 0 := by decide +kernel
theorem n9_bits : FloatKind.f64.nearest 1000000000 = 4741671816366391296 := by decide +kernel
theorem m9_bits : FloatKind.f64.nearest (-1000000000) = 13965043853221167104 := by decide +kernel
theorem e16_read : Ieee.double.read 4846369599423283200 = .number false 5000000000000000 1 := by decide +kernel
theorem m16_read : Ieee.double.read 14069741636278059008 = .number true 5000000000000000 1 := by decide +kernel
theorem ord_big {a : Int} (ha : a.natAbs < 2 ^ 53) {s : Bool} {c : Nat} (hc : Ieee.double.read c = .number s 5000000000000000 1) : FloatKind.f64.format.order (FloatKind.f64.nearest a) c = some (if s then .gt else .lt) := by
  obtain ⟨p, hp⟩ := read_int ha
  show (Ieee.double.read (FloatKind.f64.nearest a)).order (Ieee.double.read c) = _
  rw [hp, hc]
  unfold Ieee.Datum.order
  dsimp only
  rw [signed_pow]
  have e1 : p + (-(p : Int) - min (-(p : Int)) 1).toNat = p := by omega
  have e2 : (1 - min (-(p : Int)) 1).toNat = p + 1 := by omega
  rw [e1, e2]
  have e3 : Ieee.signed s 5000000000000000 (p + 1) = (if s then -10000000000000000 else 10000000000000000) * (2 : Int) ^ p := by
    unfold Ieee.signed
    rw [Nat.shiftLeft_eq, Nat.pow_succ]
    have hq : ((5000000000000000 * (2 ^ p * 2) : Nat) : Int) = 10000000000000000 * (2 : Int) ^ p := by
      rw [Int.natCast_mul, Int.natCast_mul, Int.natCast_pow]
      show (5000000000000000 : Int) * ((2 : Int) ^ p * 2) = _
      generalize (2 : Int) ^ p = q
      omega
    rw [hq]
    cases s
    · rfl
    · show -(10000000000000000 * (2 : Int) ^ p) = -10000000000000000 * (2 : Int) ^ p
      rw [Int.neg_mul]
  rw [e3, compare_mul (Int.pow_pos (by decide))]
  congr 1
  cases s
  · simp only [Bool.false_eq_true, if_false, compare, compareOfLessAndEq]
    rw [if_pos (by omega)]
  · simp only [if_true, compare, compareOfLessAndEq]
    rw [if_neg (by omega), if_neg (by omega)]
theorem ord_self {a : Int} (ha : a.natAbs < 2 ^ 53) : FloatKind.f64.format.order (FloatKind.f64.nearest a) (FloatKind.f64.nearest a) = some .eq := by
  rw [order_int ha ha]
  congr 1
  simp [compare, compareOfLessAndEq]
theorem conv_whole {a : Int} (ha : a.natAbs < 2 ^ 53) : convFAV (tget tbl) 43 3 (.flt .f64 (FloatKind.f64.nearest a)) = some (I a) := by
  refine conv_int ?_
  unfold floatToIntVal
  rw [toInt_int ha]
  dsimp only
  rw [if_pos (by
    have e1 : IntKind.i64.min = -9223372036854775808 := by decide
    have e2 : IntKind.i64.max = 9223372036854775807 := by decide
    rw [e1, e2]; omega)]
end Go.Proofs.Ytmbgehpcjihfpaa
