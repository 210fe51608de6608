/- A part of the proof: lemmas. -/
import Derived.Test.YtmbgehpcjihfpaaAL14
set_option linter.unusedVariables false
set_option linter.unusedSimpArgs false
namespace Go.Proofs.Ytmbgehpcjihfpaa
open Go Go.Sx
theorem e10x {x : Nat} {a : Int} (h1 : FloatKind.f64.format.order x x = some .eq) (h2 : floatBits .sub .f64 x x = some 0) (h4 : FloatKind.f64.format.order x 14069741636278059008 = some .gt)
    (h5 : FloatKind.f64.format.order x 4846369599423283200 = some .lt) (h6 : convFAV (tget tbl) 43 3 (.flt .f64 x) = some (I a)) (h7 : FloatKind.f64.nearest a = x) : PCall Try.prog 10 [.flt .f64 x] ⟨Bo true, []⟩ := by
  have h3 : FloatKind.f64.format.order 0 0 = some .eq := by decide +kernel
  have k1 : (FloatKind.f64.format.order x x != some .eq) = false := by rw [h1]; rfl
  have k3 : (FloatKind.f64.format.order 0 0 != some .eq) = false := by rw [h3]; rfl
  have k4 : (FloatKind.f64.format.order x 14069741636278059008 == some .gt || FloatKind.f64.format.order x 14069741636278059008 == some .eq) = true := by rw [h4]; rfl
  have k5 : (FloatKind.f64.format.order x 4846369599423283200 == some .lt || FloatKind.f64.format.order x 4846369599423283200 == some .eq) = true := by rw [h5]; rfl
  have k6 : (FloatKind.f64.format.order (FloatKind.f64.nearest a) x == some .eq) = true := by rw [h7, h1]; rfl
  have hs : fltAV .sub .f64 x .f64 x = some (.flt .f64 0) := by
    show cond (decide (FloatKind.f64 = FloatKind.f64)) (match floatBits .sub .f64 x x with | some r => some (AV.flt .f64 r) | none => none) none = _
    rw [h2]; rfl
  clear h1 h2 h3 h4 h5 h7
  refine bs.pv (sx := nos) pt0_ok Try.func10 (by kernel_rfl) (by kernel_rfl) rfl ?_
  repeat' (first | refine wk3 ?_ | (refine wk2 ?_ ?_ <;> intro _) | refine wk4 ?_ | fail); all_goals (conv => whnf)
  · rename_i hh
    exact absurd hh (by rw [k1]; decide)
  split
  rotate_left
  · rename_i hx
    exfalso
    change ret (fltAV .sub .f64 x .f64 x) = none at hx
    rw [hs] at hx
    cases hx
  rename_i y hy
  change ret (fltAV .sub .f64 x .f64 x) = some y at hy
  rw [hs] at hy
  cases hy
  repeat' (first | refine wk3 ?_ | (refine wk2 ?_ ?_ <;> intro _) | refine wk4 ?_ | fail); all_goals (conv => whnf)
  · exact ret_bool rfl
  · split
    rotate_left
    · rename_i hx
      exfalso
      change ret (convFAV (tget tbl) 43 3 (.flt .f64 x)) = none at hx
      rw [h6] at hx
      cases hx
    rename_i y hy
    change ret (convFAV (tget tbl) 43 3 (.flt .f64 x)) = some y at hy
    rw [h6] at hy
    cases hy
    repeat' (first | refine wk3 ?_ | (refine wk2 ?_ ?_ <;> intro _) | refine wk4 ?_ | fail); all_goals (conv => whnf)
    exact ret_bool k6
  · exact ret_bool rfl
theorem e10 {a : Int} (ha : a.natAbs ≤ 1000000000) : PCall Try.prog 10 [Fl a] ⟨Bo true, []⟩ := by
  have hb : a.natAbs < 2 ^ 53 := by omega
  have h2 := sub_self_int hb
  rw [n0_bits] at h2
  exact e10x (ord_self hb) h2 (ord_big hb m16_read) (ord_big hb e16_read) (conv_whole hb) rfl
end Go.Proofs.Ytmbgehpcjihfpaa
