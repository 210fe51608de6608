/- A part of the proof: lemmas. -/
import Derived.Test.YtmbgehpcjihfpaaZw8
set_option linter.unusedVariables false
set_option linter.unusedSimpArgs false
namespace Go.Proofs.Ytmbgehpcjihfpaa
open Go Go.Sx

/-! ### Whole roots -/
theorem sq_ex (n : Nat) : ∃ r, r * r ≤ n ∧ n < (r + 1) * (r + 1) := by
  induction n with
  | zero => exact ⟨0, by decide, by decide⟩
  | succ n ih =>
    obtain ⟨r, h1, h2⟩ := ih
    by_cases h : (r + 1) * (r + 1) ≤ n + 1
    · refine ⟨r + 1, h, ?_⟩
      have : (r + 1 + 1) * (r + 1 + 1) = (r + 1) * (r + 1) + 2 * (r + 1) + 1 := by grind
      omega
    · exact ⟨r, by omega, by omega⟩
noncomputable def isq (n : Int) : Int := (Classical.choose (sq_ex n.toNat) : Nat)
theorem isq_spec {n : Int} (h : 0 ≤ n) : 0 ≤ isq n ∧ isq n * isq n ≤ n ∧ n < (isq n + 1) * (isq n + 1) := by
  obtain ⟨h1, h2⟩ := Classical.choose_spec (sq_ex n.toNat)
  unfold isq
  generalize Classical.choose (sq_ex n.toNat) = r at *
  refine ⟨by omega, ?_, ?_⟩
  · have : ((r * r : Nat) : Int) ≤ (n.toNat : Int) := by exact_mod_cast h1
    rw [Int.natCast_mul] at this; omega
  · have : ((n.toNat : Nat) : Int) < (((r + 1) * (r + 1) : Nat) : Int) := by exact_mod_cast h2
    rw [Int.natCast_mul] at this
    have e : ((r + 1 : Nat) : Int) = (r : Int) + 1 := by omega
    rw [e] at this; omega
theorem sq_mono {a b : Int} (ha : 0 ≤ a) (h : a ≤ b) : a * a ≤ b * b := Int.mul_le_mul h h ha (by omega)
theorem sq_lt {a b : Int} (hb : 0 ≤ b) (h : a * a < b * b) (ha : 0 ≤ a) : a < b := by
  rcases Int.lt_or_le a b with h1 | h1
  · exact h1
  · have := sq_mono hb h1; omega
theorem isq_unique {n r : Int} (h0 : 0 ≤ n) (hr : 0 ≤ r) (h1 : r * r ≤ n) (h2 : n < (r + 1) * (r + 1)) : r = isq n := by
  obtain ⟨g0, g1, g2⟩ := isq_spec h0
  have a1 := sq_lt (a := r) (b := isq n + 1) (by omega) (by omega) hr
  have a2 := sq_lt (a := isq n) (b := r + 1) (by omega) (by omega) g0
  omega
theorem sq_bd {r B : Int} (h0 : 0 ≤ r) (h1 : r ≤ B) : 0 ≤ r * r ∧ r * r ≤ B * B := ⟨Int.mul_nonneg h0 h0, sq_mono h0 h1⟩
theorem conv_int {y : Nat} {r : Int} (h : floatToIntVal .f64 y .i64 = some r) : convFAV (tget tbl) 43 3 (.flt .f64 y) = some (I r) := by
  unfold floatToIntVal at h
  show (match (FloatKind.f64.decode y).toInt .zero with
    | some n => cond (decide (IntKind.i64.min ≤ n ∧ n ≤ IntKind.i64.max)) (some (AV.int .i64 n)) none
    | none => none) = _
  split at h
  · rename_i n hn
    rw [hn]
    dsimp only
    split at h
    · rename_i hr
      cases h
      rw [decide_eq_true hr]; rfl
    · cases h
  · cases h
set_option maxRecDepth 100000 in
set_option maxHeartbeats 8000000 in
theorem e41 {n : Int} (h0 : 0 ≤ n) (h1 : n < 9007199254740992) : PCall Try.prog 41 [I n] ⟨I (isq n), []⟩ := by
  obtain ⟨y, r0, e1, e2, e3, e4⟩ := sqrt_int h0 h1
  refine bs.pv (sx := nos) (one_ok (c202 e1) pt0_ok) Try.func41 (by kernel_rfl) (by kernel_rfl) rfl ?_
  have hc := conv_int e2
  repeat' (first | refine wk1 ?_ | (refine wk2 ?_ ?_ <;> intro _) | refine wk4 ?_ | fail); all_goals (conv => whnf)
  split
  rotate_left
  · rename_i hx
    exfalso
    change ret (convFAV (tget tbl) 43 3 (.flt .f64 y)) = none at hx
    rw [hc] at hx
    cases hx
  rename_i x hx
  change ret (convFAV (tget tbl) 43 3 (.flt .f64 y)) = some x at hx
  rw [hc] at hx
  cases hx
  repeat' (first | refine wk1 ?_ | (refine wk2 ?_ ?_ <;> intro _) | refine wk4 ?_ | fail); all_goals (conv => whnf)
  refine loopV (S := Int) (fun t => t.toNat) (fun t => [(0, I n), (3, I t)]) (fun _ => []) 0 0 (fun t => 0 ≤ t ∧ t ≤ 268435456) r0 ⟨e3, e4⟩ (Nat.le_refl _) [] rfl (kps) (kps) ?_
  clear e1 e2 e3 e4
  rintro r ⟨g1, g2⟩
  try dsimp only at g1 g2 ⊢
  have hb := sq_bd g1 g2
  have hw : IntKind.i64.wrap (r * r) = r * r := W_eq (by omega) (by omega)
  refine bs.av (sx := nos) pt0_ok ?_
  by_cases hc : n < r * r
  · have hp : 0 < r := by
      rcases Int.lt_or_le 0 r with h | h
      · exact h
      · have : r = 0 := by omega
        subst this; omega
    repeat' (first | refine wk1 ?_ | (refine wk2 ?_ ?_ <;> intro _) | refine wk4 ?_ | fail); all_goals (conv => whnf)
    have hv : IntKind.i64.wrap (r - 1) = r - 1 := W_eq (by omega) (by omega)
    exact Done.mk ⟨_, [], rfl, kps, kps, ⟨by omega, by omega⟩, by omega⟩
  · repeat' (first | refine wk1 ?_ | (refine wk2 ?_ ?_ <;> intro _) | refine wk4 ?_ | fail); all_goals (conv => whnf)
    refine loopV (S := Int) (fun t => (n - t).toNat) (fun t => [(0, I n), (3, I t)]) (fun _ => []) 0 0 (fun t => 0 ≤ t ∧ t * t ≤ n) r ⟨g1, by omega⟩ (Nat.le_refl _) [] rfl (kps) (kps) ?_
    clear hc hw hb g1 g2
    rintro r ⟨g1, g2⟩
    try dsimp only at g1 g2 ⊢
    have g3 : r < 94906267 := sq_lt (by omega) (by omega) g1
    have hw1 : IntKind.i64.wrap (r + 1) = r + 1 := W_eq (by omega) (by omega)
    have hb := sq_bd (r := r + 1) (B := 94906267) (by omega) (by omega)
    have hw2 : IntKind.i64.wrap (IntKind.i64.wrap (r + 1) * IntKind.i64.wrap (r + 1)) = (r + 1) * (r + 1) := by rw [hw1]; exact W_eq (by omega) (by omega)
    refine bs.av (sx := nos) pt0_ok ?_
    by_cases hc : (r + 1) * (r + 1) ≤ n
    · repeat' (first | refine wk1 ?_ | (refine wk2 ?_ ?_ <;> intro _) | refine wk4 ?_ | fail); all_goals (conv => whnf)
      have hrn : r < n := by
        have : (r + 1) * (r + 1) = r * r + 2 * r + 1 := by grind
        have hz := Int.mul_nonneg g1 g1
        omega
      exact Done.mk ⟨_, [], rfl, kps, kps, ⟨by omega, by rw [hw1]; exact hc⟩, by rw [hw1]; omega⟩
    · repeat' (first | refine wk1 ?_ | (refine wk2 ?_ ?_ <;> intro _) | refine wk4 ?_ | fail); all_goals (conv => whnf)
      exact ret_int (isq_unique h0 g1 g2 (by omega))
def bk : Nat → Int
  | 0 => 0
  | k + 1 => ((2 ^ k : Nat) : Int)
theorem bk_half (k : Nat) : IntKind.i64.wrap ((bk (k + 1)).tdiv 2) = bk k ∨ 62 ≤ k := by
  by_cases hk : 62 ≤ k
  · exact .inr hk
  refine .inl ?_
  have hb : 2 ^ k ≤ 2 ^ 62 := Nat.pow_le_pow_right (by decide) (by omega)
  unfold bk
  cases k with
  | zero => decide
  | succ k =>
    dsimp only
    have e : ((2 ^ (k + 1) : Nat) : Int).tdiv 2 = ((2 ^ k : Nat) : Int) := by
      rw [Int.tdiv_eq_ediv_of_nonneg (Int.natCast_nonneg _)]
      rw [Nat.pow_succ]; omega
    rw [e]
    rw [Nat.pow_succ] at hb
    have h1 : (0 : Int) ≤ ((2 ^ k : Nat) : Int) := Int.natCast_nonneg _
    exact W_eq (by omega) (by omega)
set_option maxRecDepth 100000 in
set_option maxHeartbeats 4000000 in
theorem e42 {n : Int} (h0 : 0 ≤ n) (h1 : n < 9007199254740992) : PCall Try.prog 42 [I n] ⟨I (if isq n * isq n < n then isq n + 1 else isq n), []⟩ := by
  obtain ⟨g1, g2, g3⟩ := isq_spec h0
  have g4 : isq n < 94906267 := sq_lt (by omega) (by omega) g1
  have hb := sq_bd g1 (show isq n ≤ 94906267 by omega)
  have hw : IntKind.i64.wrap (isq n * isq n) = isq n * isq n := W_eq (by omega) (by omega)
  have hw2 : IntKind.i64.wrap (isq n + 1) = isq n + 1 := W_eq (by omega) (by omega)
  refine bs.pv (sx := nos) (one_ok (e41 h0 h1) pt0_ok) Try.func42 (by kernel_rfl) (by kernel_rfl) rfl ?_
  by_cases hc : isq n * isq n < n
  · rw [if_pos hc]
    repeat' (first | refine wk1 ?_ | (refine wk2 ?_ ?_ <;> intro _) | refine wk4 ?_ | fail); all_goals (conv => whnf)
    exact ret_int hw2
  · rw [if_neg hc]
    repeat' (first | refine wk1 ?_ | (refine wk2 ?_ ?_ <;> intro _) | refine wk4 ?_ | fail); all_goals (conv => whnf)
    exact ret_int rfl
end Go.Proofs.Ytmbgehpcjihfpaa
