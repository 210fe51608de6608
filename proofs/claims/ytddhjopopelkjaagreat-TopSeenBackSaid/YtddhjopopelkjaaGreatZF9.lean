/- A part of the proof: lemmas. -/
import Derived.Test.YtddhjopopelkjaaGreatZF4
import Derived.Test.YtddhjopopelkjaaGreatZw11
set_option linter.unusedVariables false
set_option linter.unusedSimpArgs false
namespace Go.Proofs.YtddhjopopelkjaaGreat
open Go Go.Sx

/-! ### The reference: fractions -/
theorem cmpQ_lt {n d m k : Int} (hd : 0 < d) (hk : 0 < k) (h : n / d < m / k) : cmpQ n d m k = -1 := by
  have h1 := Int.lt_ediv_add_one_mul_self n hd
  have h2 := Int.ediv_mul_le m (show k ≠ 0 by omega)
  have h3 := Int.mul_le_mul_of_nonneg_right (show n / d + 1 ≤ m / k by omega) (Int.le_of_lt hd)
  have h4 := Int.mul_lt_mul_of_pos_right (show n < m / k * d by omega) hk
  have h5 := Int.mul_le_mul_of_nonneg_right h2 (Int.le_of_lt hd)
  have e : m / k * d * k = m / k * k * d := by grind
  unfold cmpQ sgn
  rw [if_neg (by omega), if_pos (by omega)]
theorem cmpQ_swap {n d m k : Int} : cmpQ n d m k = -cmpQ m k n d := by
  unfold cmpQ
  have e : n * k - m * d = -(m * d - n * k) := by omega
  rw [e]
  generalize m * d - n * k = v
  unfold sgn
  split <;> split <;> (try split) <;> (try split) <;> omega
theorem cmpQ_eq {n d m k : Int} (h : n / d = m / k) : cmpQ n d m k = cmpQ (n % d) d (m % k) k := by
  unfold cmpQ
  have h1 := Int.mul_ediv_add_emod n d
  have h2 := Int.mul_ediv_add_emod m k
  congr 1
  rw [h] at h1
  generalize m / k = q at *
  generalize n % d = r at *
  generalize m % k = t at *
  subst h1 h2
  grind
theorem cmpQ_flip {n d m k : Int} : cmpQ n d m k = cmpQ k m d n := by unfold cmpQ; congr 1; grind
noncomputable abbrev flr : List AV → Option PRes := famA (fun p : Int × Int => 0 < p.2 ∧ -9223372036854775807 ≤ p.1 ∧ p.1 ≤ 9223372036854775807) (fun p => [I p.1, I p.2]) (fun p => ⟨I (p.1 / p.2), []⟩)
theorem flr_hit {n b : Int} (hb : 0 < b) (h0 : -9223372036854775807 ≤ n) (h1 : n ≤ 9223372036854775807) : flr [I n, I b] = some ⟨I (n / b), []⟩ :=
  famA_hit (p := fun p : Int × Int => 0 < p.2 ∧ -9223372036854775807 ≤ p.1 ∧ p.1 ≤ 9223372036854775807) (g := fun p => [I p.1, I p.2]) (r := fun p => ⟨I (p.1 / p.2), []⟩) (k := (n, b)) (fun j hj => by
    simp only [List.cons.injEq, AV.int.injEq, true_and, and_true] at hj
    obtain ⟨h1, h2⟩ := hj
    dsimp only
    rw [h1, h2]) ⟨hb, h0, h1⟩
noncomputable def kC1 : PC := ins 95 flr pt0
theorem kC1_ok : PCOK Tryz.prog kC1 := famA_ok (fun p hp => c90 hp.1 hp.2.1 hp.2.2) pt0_ok
theorem W_sub_mul {n d : Int} (hd : 0 < d) (hd2 : d ≤ 9223372036854775807) : IntKind.i64.wrap (n - IntKind.i64.wrap (n / d * d)) = n % d := by
  have h1 := Int.emod_nonneg n (show d ≠ 0 by omega)
  have h2 := Int.emod_lt_of_pos n hd
  have h3 := Int.mul_ediv_add_emod n d
  rw [Int.mul_comm] at h3
  simp only [IntKind.wrap_i64]
  omega
end Go.Proofs.YtddhjopopelkjaaGreat
