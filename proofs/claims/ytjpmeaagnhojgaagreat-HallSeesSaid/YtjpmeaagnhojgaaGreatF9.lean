/- A part of the proof: lemmas. -/
import Derived.Test.YtjpmeaagnhojgaaGreatF4
import Derived.Test.YtjpmeaagnhojgaaGreatA2
set_option linter.unusedVariables false
set_option linter.unusedSimpArgs false
namespace Go.Proofs.YtjpmeaagnhojgaaGreat
open Go Go.Sx

/-! ### The reference: fractions -/
theorem cmpQ_lt {n d m k : Int} (hd : 0 < d) (hk : 0 < k) (h : n / d < m / k) : cmpQ n d m k = -1 := by
  have h1 := Int.lt_ediv_add_one_mul_self n hd
  have h2 := Int.ediv_mul_le m (show k ≠ 0 by omega)
  have h3 := Int.mul_le_mul_of_nonneg_right (show n / d + 1 ≤ m / k by omega) (Int.le_of_lt hd)
  have h4 := Int.mul_lt_mul_of_pos_right (show n < m / k * d by omega) hk
  have h5 := Int.mul_le_mul_of_nonneg_right h2 (Int.le_of_lt hd)
  have e : m / k * d * k = m / k * k * d := by grind
  unfold cmpQ sgn
  rw [if_neg (by omega), if_pos (by omega)]
theorem cmpQ_swap {n d m k : Int} : cmpQ n d m k = -cmpQ m k n d := by
  unfold cmpQ
  have e : n * k - m * d = -(m * d - n * k) := by omega
  rw [e]
  generalize m * d - n * k = v
  unfold sgn
  split <;> split <;> (try split) <;> (try split) <;> omega
theorem cmpQ_eq {n d m k : Int} (h : n / d = m / k) : cmpQ n d m k = cmpQ (n % d) d (m % k) k := by
  unfold cmpQ
  have h1 := Int.mul_ediv_add_emod n d
  have h2 := Int.mul_ediv_add_emod m k
  congr 1
  rw [h] at h1
  generalize m / k = q at *
  generalize n % d = r at *
  generalize m % k = t at *
  subst h1 h2
  grind
theorem cmpQ_flip {n d m k : Int} : cmpQ n d m k = cmpQ k m d n := by unfold cmpQ; congr 1; grind
noncomputable abbrev flr : List AV → Option PRes := famA (fun p : Int × Int => 0 < p.2 ∧ -9223372036854775807 ≤ p.1 ∧ p.1 ≤ 9223372036854775807) (fun p => [I p.1, I p.2]) (fun p => ⟨I (p.1 / p.2), []⟩)
theorem flr_hit {n b : Int} (hb : 0 < b) (h0 : -9223372036854775807 ≤ n) (h1 : n ≤ 9223372036854775807) : flr [I n, I b] = some ⟨I (n / b), []⟩ :=
  famA_hit (p := fun p : Int × Int => 0 < p.2 ∧ -9223372036854775807 ≤ p.1 ∧ p.1 ≤ 9223372036854775807) (g := fun p => [I p.1, I p.2]) (r := fun p => ⟨I (p.1 / p.2), []⟩) (k := (n, b)) (fun j hj => by
    simp only [List.cons.injEq, AV.int.injEq, true_and, and_true] at hj
    obtain ⟨h1, h2⟩ := hj
    dsimp only
    rw [h1, h2]) ⟨hb, h0, h1⟩
noncomputable def kC1 : PC := ins 90 flr pt0
theorem kC1_ok : PCOK Tryz.prog kC1 := famA_ok (fun p hp => c90 hp.1 hp.2.1 hp.2.2) pt0_ok
theorem W_sub_mul {n d : Int} (hd : 0 < d) (hd2 : d ≤ 9223372036854775807) : IntKind.i64.wrap (n - IntKind.i64.wrap (n / d * d)) = n % d := by
  have h1 := Int.emod_nonneg n (show d ≠ 0 by omega)
  have h2 := Int.emod_lt_of_pos n hd
  have h3 := Int.mul_ediv_add_emod n d
  rw [Int.mul_comm] at h3
  simp only [IntKind.wrap_i64]
  omega
set_option maxRecDepth 100000 in
set_option maxHeartbeats 8000000 in
theorem c187 {n d m k : Int} (hd : 0 < d) (hk : 0 < k) (hd2 : d ≤ 9223372036854775807) (hk2 : k ≤ 9223372036854775807) (hn : -9223372036854775807 ≤ n ∧ n ≤ 9223372036854775807) (hm : -9223372036854775807 ≤ m ∧ m ≤ 9223372036854775807) : PCall Tryz.prog 187 [I n, I d, I m, I k] ⟨I (cmpQ n d m k), []⟩ := by
  refine bs.pv (sx := nos) kC1_ok Tryz.func187 (by kernel_rfl) (by kernel_rfl) rfl ?_
  generalize hR : cmpQ n d m k = R
  refine loopV (S := Int × Int × Int × Int) (fun t => (t.2.1 + t.2.2.2).toNat) (fun t => [(0, I t.1), (1, I t.2.1), (2, I t.2.2.1), (3, I t.2.2.2)]) (fun _ => []) 0 0 (fun t => ((0 < t.2.1 ∧ t.2.1 ≤ 9223372036854775807) ∧ (0 < t.2.2.2 ∧ t.2.2.2 ≤ 9223372036854775807)) ∧ ((-9223372036854775807 ≤ t.1 ∧ t.1 ≤ 9223372036854775807) ∧ (-9223372036854775807 ≤ t.2.2.1 ∧ t.2.2.1 ≤ 9223372036854775807)) ∧ cmpQ t.1 t.2.1 t.2.2.1 t.2.2.2 = R) (n, d, m, k) ⟨⟨⟨hd, hd2⟩, hk, hk2⟩, ⟨hn, hm⟩, hR⟩ (Nat.le_refl _) [] rfl (kps) (kps) ?_
  clear hR hd hk hd2 hk2 hn hm
  rintro ⟨n, d, m, k⟩ ⟨⟨⟨hd, hd2⟩, hk, hk2⟩, ⟨hn, hm⟩, hR⟩
  dsimp only at hd hd2 hk hk2 hn hm hR ⊢
  have t1 := flr_hit hd hn.1 hn.2
  have t2 := flr_hit hk hm.1 hm.2
  have w1 := W_sub_mul (n := n) hd hd2
  have w2 := W_sub_mul (n := m) hk hk2
  have n1 := Int.emod_nonneg n (show d ≠ 0 by omega)
  have n2 := Int.emod_lt_of_pos n hd
  have m1 := Int.emod_nonneg m (show k ≠ 0 by omega)
  have m2 := Int.emod_lt_of_pos m hk
  refine bs.av (sx := nos) kC1_ok ?_
  rcases Int.lt_trichotomy (n / d) (m / k) with hc | hc | hc
  · have e := cmpQ_lt hd hk hc
    rw [hR] at e
    rw [e]
    generalize n / d = P at *
    generalize m / k = Q at *
    repeat' (first | refine wk1 ?_ | (refine wk2 ?_ ?_ <;> intro _) | refine wk4 ?_ | fail); all_goals (conv => whnf)
    exact ret_int rfl
  · have e := cmpQ_eq hc
    rw [hR] at e
    rw [hc] at t1 w1
    generalize m / k = Q at *
    generalize n % d = r at *
    generalize m % k = t at *
    by_cases r0 : r = 0
    · by_cases t0 : t = 0
      · have : R = 0 := by rw [e, r0, t0]; unfold cmpQ; simp [sgn]
        subst r0 t0
        rw [this]
        clear e hR this
        repeat' (first | refine wk1 ?_ | (refine wk2 ?_ ?_ <;> intro _) | refine wk4 ?_ | fail); all_goals (conv => whnf)
        all_goals first
          | exact ret_int rfl
          | (exfalso; rename_i hx; simp [w1, w2] at hx; done)
          | (exfalso; rename_i hx; simp [w1, w2] at hx; omega)
      · have : R = -1 := by
          rw [e, r0]; unfold cmpQ sgn
          have := Int.mul_pos (show 0 < t by omega) hd
          rw [if_neg (by omega), if_pos (by omega)]
        rw [this]
        repeat' (first | refine wk1 ?_ | (refine wk2 ?_ ?_ <;> intro _) | refine wk4 ?_ | fail); all_goals (conv => whnf)
        all_goals first
          | exact ret_int rfl
          | (exfalso; rename_i hx; simp [w1, w2] at hx; done)
          | (exfalso; rename_i hx; simp [w1, w2] at hx; omega)
    · by_cases t0 : t = 0
      · have : R = 1 := by
          rw [e, t0]; unfold cmpQ sgn
          have := Int.mul_pos (show 0 < r by omega) hk
          rw [if_pos (by omega)]
        rw [this]
        repeat' (first | refine wk1 ?_ | (refine wk2 ?_ ?_ <;> intro _) | refine wk4 ?_ | fail); all_goals (conv => whnf)
        all_goals first
          | exact ret_int rfl
          | (exfalso; rename_i hx; simp [w1, w2] at hx; done)
          | (exfalso; rename_i hx; simp [w1, w2] at hx; omega)
      · repeat' (first | refine wk1 ?_ | (refine wk2 ?_ ?_ <;> intro _) | refine wk4 ?_ | fail); all_goals (conv => whnf)
        exact Done.mk ⟨(k, t, d, r), [], rfl, by rw [w1, w2]; exact kps, kps, ⟨⟨⟨by dsimp only; omega, by dsimp only; omega⟩, by dsimp only; omega, by dsimp only; omega⟩, ⟨⟨by dsimp only; omega, by dsimp only; omega⟩, by dsimp only; omega, by dsimp only; omega⟩, by rw [e]; exact cmpQ_flip.symm⟩, by dsimp only; omega⟩
  · have e := cmpQ_lt hk hd hc
    have e2 : R = 1 := by rw [← hR, cmpQ_swap, e]; rfl
    rw [e2]
    generalize n / d = P at *
    generalize m / k = Q at *
    repeat' (first | refine wk1 ?_ | (refine wk2 ?_ ?_ <;> intro _) | refine wk4 ?_ | fail); all_goals (conv => whnf)
    exact ret_int rfl
end Go.Proofs.YtjpmeaagnhojgaaGreat
