/- A part of the proof: lemmas. -/
import Derived.Test.YtddhjopopelkjaaGreatN6
set_option linter.unusedVariables false
set_option linter.unusedSimpArgs false
namespace Go.En
/-! ### Plain law: more absorption, less reverberation -/
theorem div_anti {n a b : Int} (h0 : 0 ≤ n) (ha : 0 < a) (hab : a ≤ b) : n / b ≤ n / a := by
  refine le_div ha ?_
  have h1 := div_mul (n := n) (b := b) (by omega)
  have h2 : n / b * a ≤ n / b * b := Int.mul_le_mul_of_nonneg_left hab (Int.ediv_nonneg h0 (by omega))
  omega
theorem up_anti {n a b : Int} (h0 : 0 ≤ n) (ha : 0 < a) (hab : a ≤ b) : (n + b - 1) / b ≤ (n + a - 1) / a := by
  refine up_le (by omega) ?_
  have h1 := up_mul (n := n) (b := a) ha
  have h2 : (n + a - 1) / a * a ≤ (n + a - 1) / a * b := Int.mul_le_mul_of_nonneg_left hab (Int.ediv_nonneg (by omega) (by omega))
  omega
theorem up_mono {m n a : Int} (ha : 0 < a) (h : m ≤ n) : (m + a - 1) / a ≤ (n + a - 1) / a := Int.ediv_le_ediv ha (by omega)
theorem loSh_anti {S A B : Int × Int} (s : 1 ≤ S.1) (h : A.2 ≤ B.2) : loSh S B ≤ loSh S A := by
  unfold loSh
  exact Int.ediv_le_ediv (by omega) (by omega)
theorem hiSh_anti {S A B : Int × Int} (s : 1 ≤ S.2) (h : A.1 ≤ B.1) : hiSh S B ≤ hiSh S A := by
  unfold hiSh
  exact Int.ediv_le_ediv (by omega) (by omega)
theorem mul3 {v A : Int} (v0 : 1 ≤ v) (a0 : 1 ≤ A) : 1 ≤ 2 * v * A := by
  have : 1 * 1 ≤ 2 * v * A := Int.mul_le_mul (by omega) a0 (by omega) (by omega)
  omega
theorem sab_more {V v : Int} {A B : Int × Int} (v0 : 1 ≤ v) (V0 : 0 ≤ V) (a1 : 1 ≤ A.1) (a2 : A.1 ≤ A.2) (b2 : B.1 ≤ B.2) (h1 : A.1 ≤ B.1) (h2 : A.2 ≤ B.2) :
    (sabV V v B).1 ≤ (sabV V v A).1 ∧ (sabV V v B).2 ≤ (sabV V v A).2 ∧ (sabV V v A).1 ≤ (sabV V v A).2 := by
  have e1 := mul3 v0 a1
  have e2 := mul3 v0 (show 1 ≤ A.2 by omega)
  have m1 : 2 * v * A.1 ≤ 2 * v * B.1 := Int.mul_le_mul_of_nonneg_left h1 (by omega)
  have m2 : 2 * v * A.2 ≤ 2 * v * B.2 := Int.mul_le_mul_of_nonneg_left h2 (by omega)
  have m3 : 2 * v * A.1 ≤ 2 * v * A.2 := Int.mul_le_mul_of_nonneg_left a2 (by omega)
  unfold sabV
  dsimp only
  refine ⟨div_anti (by omega) (by omega) m2, up_anti (by omega) (by omega) m1, ?_⟩
  refine Int.le_trans (div_anti (by omega) (by omega) m3) ?_
  exact Int.ediv_le_ediv (by omega) (by omega)
theorem hits_more {S A B : Int × Int} (g : Rv S A) (k : Rv S B) (h1 : A.1 ≤ B.1) (h2 : A.2 ≤ B.2) (h : (hitsV S A).2 = 0) :
    (hitsV S B).2 = 0 ∧ (1 ≤ (hitsV S B).1.1 ∧ (hitsV S B).1.1 ≤ (hitsV S A).1.1) ∧ (hitsV S B).1.2 ≤ (hitsV S A).1.2 ∧ (hitsV S A).1.1 ≤ (hitsV S A).1.2 := by
  unfold hitsV at h
  split at h
  · cases h
  rename_i n hn
  split at h
  · cases h
  rename_i j hj
  obtain ⟨j', hj', hjn⟩ := hits_lo g hn
  rw [hj] at hj'
  cases hj'
  have lb := loSh_bd k
  have la := loSh_bd g
  have hb := hiSh_bd k
  obtain ⟨m, hm, hmn⟩ := hitG_mono (fun x y x0 xy => dCC hb.1 (hiSh_anti (by have := g.s1; have := g.s2; omega) h1) x0 xy) (by omega) (Int.le_refl _) hn
  obtain ⟨i, hi, hij⟩ := hitG_mono (fun x y x0 xy => dFF lb.1 (loSh_anti g.s1 h2) x0 xy) (by omega) (Int.le_refl _) hj
  have p := hits_pos hi
  have eA : hitsV S A = (((j : Int), (n : Int)), 0) := by unfold hitsV; rw [hn]; dsimp only; rw [hj]
  have eB : hitsV S B = (((i : Int), (m : Int)), 0) := by
    unfold hitsV
    rw [show hitsC (hiSh S B) = some m from hm]
    dsimp only
    rw [show hitsF (loSh S B) = some i from hi]
  rw [eA, eB]
  dsimp only
  omega
theorem eyr_more {V v : Int} {S n m : Int × Int} (V0 : 0 ≤ V) (v0 : 1 ≤ v) (s1 : 1 ≤ S.1) (s2 : S.1 ≤ S.2) (n1 : 1 ≤ n.1) (n2 : n.1 ≤ n.2) (h1 : m.1 ≤ n.1) (h2 : m.2 ≤ n.2) :
    (eyrV V v S m).1 ≤ (eyrV V v S n).1 ∧ (eyrV V v S m).2 ≤ (eyrV V v S n).2 ∧ (eyrV V v S n).1 ≤ (eyrV V v S n).2 := by
  have e1 : 1 ≤ S.1 * v := by have : 1 * 1 ≤ S.1 * v := Int.mul_le_mul s1 v0 (by omega) (by omega); omega
  have e2 : S.1 * v ≤ S.2 * v := Int.mul_le_mul_of_nonneg_right s2 (by omega)
  have a1 : 2000 * V * (m.1 - 1) ≤ 2000 * V * (n.1 - 1) := Int.mul_le_mul_of_nonneg_left (by omega) (by omega)
  have a2 : 2000 * V * m.2 ≤ 2000 * V * n.2 := Int.mul_le_mul_of_nonneg_left h2 (by omega)
  have a3 : 2000 * V * (n.1 - 1) ≤ 2000 * V * n.2 := Int.mul_le_mul_of_nonneg_left (by omega) (by omega)
  have a4 : 0 ≤ 2000 * V * (n.1 - 1) := Int.mul_nonneg (by omega) (by omega)
  unfold eyrV
  dsimp only
  refine ⟨Int.ediv_le_ediv (by omega) a1, up_mono (by omega) a2, ?_⟩
  refine Int.le_trans (div_anti a4 e1 e2) ?_
  exact Int.ediv_le_ediv (by omega) (by omega)
end Go.En
