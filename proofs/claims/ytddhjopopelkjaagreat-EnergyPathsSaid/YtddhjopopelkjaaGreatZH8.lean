/- A part of the proof: lemmas. -/
import Derived.Test.YtddhjopopelkjaaGreatZH7
set_option linter.unusedVariables false
set_option linter.unusedSimpArgs false
namespace Go.Proofs.YtddhjopopelkjaaGreat
open Go Go.Sx
/-! ### Reverberation by hits -/
noncomputable def eyrY (h : Hal) (s : Stg) (b v : Int) : Int × Int := if (hitX h s b).2 = 0 then eyrX h s b v else (0, 0)
theorem hitsV_bd {S A : Int × Int} (h : (En.hitsV S A).2 = 0) : (1 ≤ (En.hitsV S A).1.1 ∧ (En.hitsV S A).1.1 ≤ 1000) ∧ 1 ≤ (En.hitsV S A).1.2 ∧ (En.hitsV S A).1.2 ≤ 1000 := by
  unfold En.hitsV at h ⊢
  split at h
  · cases h
  · rename_i k hk
    split at h
    · cases h
    · rename_i j hj
      have a := En.hits_pos hk
      have b := En.hits_pos hj
      dsimp only
      omega
theorem d69e {h : Hal} (hk : h.ok) {s : Stg} (hs : s.few) {b a v : Int} (e : abE h s b a v ≠ 0) : PCall Tryz.prog 69 [h.av, s.av, P3 b a v] ⟨.tup [P2 0 0, I (abE h s b a v)], []⟩ := by
  have h0 := one_ok (d68e hk hs e) pt0_ok
  generalize abE h s b a v = E at *
  refine bs.pv (sx := nos) h0 Tryz.func69 (by kernel_rfl) (by kernel_rfl) rfl ?_
  repeat' (first | refine wk3 ?_ | (refine wk2 ?_ ?_ <;> intro _) | refine wk4 ?_ | fail); all_goals (conv => whnf)
  exact ret_of rfl rfl
theorem mulv_bd {v A : Int} (v1 : v ≤ 40000) (a1 : 1 ≤ A) (a2 : A ≤ 7000000000000) (v2 : 1 ≤ v) : IntKind.i64.wrap (A * v) = A * v ∧ 1 ≤ A * v ∧ A * v ≤ 280000000000000000 := by
  have p : 1 * 1 ≤ A * v := Int.mul_le_mul a1 v2 (by omega) (by omega)
  have q : A * v ≤ 7000000000000 * 40000 := Int.mul_le_mul a2 v1 (by omega) (by omega)
  exact ⟨W_eq (by omega) (by omega), by omega, by omega⟩
theorem mulh_bd {V n : Int} (v0 : 0 ≤ V) (v1 : V ≤ 3000000000000) (n0 : 0 ≤ n) (n1 : n ≤ 1000) : IntKind.i64.wrap (IntKind.i64.wrap (2000 * V) * n) = 2000 * V * n ∧ 0 ≤ 2000 * V * n ∧ 2000 * V * n ≤ 6000000000000000000 := by
  have p : 0 ≤ 2000 * V * n := Int.mul_nonneg (by omega) n0
  have q : 2000 * V * n ≤ 6000000000000000 * 1000 := Int.mul_le_mul (by omega) n1 (by omega) (by omega)
  exact ⟨by rw [W_eq (n := 2000 * V) (by omega) (by omega), W_eq (by omega) (by omega)], by omega, by omega⟩
set_option maxHeartbeats 4000000 in
theorem d69 {h : Hal} {s : Stg} {b a v : Int} (r : Rg h s b a v) : PCall Tryz.prog 69 [h.av, s.av, P3 b a v] ⟨.tup [P2 (eyrY h s b v).1 (eyrY h s b v).2, I (hitX h s b).2], []⟩ := by
  have g := r.g
  have h68 := d68 r
  unfold eyrY
  by_cases c : (hitX h s b).2 = 0
  rotate_left
  · rw [if_neg c]
    have h0 := one_ok h68 pt0_ok
    generalize hitX h s b = H at *
    obtain ⟨⟨n1, n2⟩, E⟩ := H
    dsimp only at c h0 h68 ⊢
    refine bs.pv (sx := nos) h0 Tryz.func69 (by kernel_rfl) (by kernel_rfl) rfl ?_
    repeat' (first | refine wk3 ?_ | (refine wk2 ?_ ?_ <;> intro _) | refine wk4 ?_ | fail); all_goals (conv => whnf)
    exact ret_of rfl rfl
  rw [if_pos c]
  have h138 := vol_c g r.z
  have h137 := d137 g r.z
  obtain ⟨_, v1, v2⟩ := vol_bd g.fine
  have rv := rv_of g b
  obtain ⟨s1, s2, s3, a1, a2, a3, a4⟩ := rv
  obtain ⟨_, _, w1, w2⟩ := air_iff r.air
  have nb := hitsV_bd c
  unfold eyrX
  rw [c] at h68 ⊢
  have hk0 := one_ok h68 (one_ok h138 (one_ok h137 rAb_ok))
  unfold hitX at *
  generalize En.hitsV (srV h) (absV h s b) = H at *
  obtain ⟨⟨n1, n2⟩, E⟩ := H
  generalize vol2 h = V at *
  generalize srV h = S at *
  generalize absV h s b = A at *
  dsimp only at c nb hk0 h68 ⊢
  obtain ⟨m1, m2, m3⟩ := mulv_bd (v := v) (A := S.1) w2 (by omega) (by omega) (by omega)
  obtain ⟨m4, m5, m6⟩ := mulv_bd (v := v) (A := S.2) w2 (by omega) (by omega) (by omega)
  have k0 : IntKind.i64.wrap (n1 - 1) = n1 - 1 := W_eq (by omega) (by omega)
  obtain ⟨k1, k2, k3⟩ := mulh_bd (V := V) (n := n1 - 1) (by omega) (by omega) (by omega) (by omega)
  obtain ⟨k4, k5, k6⟩ := mulh_bd (V := V) (n := n2) (by omega) (by omega) (by omega) (by omega)
  have hn : En.eyrV V v S (n1, n2) = (IntKind.i64.wrap ((IntKind.i64.wrap (IntKind.i64.wrap (2000 * V) * IntKind.i64.wrap (n1 - 1))).tdiv (IntKind.i64.wrap (S.2 * v))), abvU (IntKind.i64.wrap (IntKind.i64.wrap (2000 * V) * n2)) (IntKind.i64.wrap (S.1 * v))) := by
    unfold En.eyrV
    dsimp only
    rw [k0, k1, k4, m1, m4, dv_eq (by omega) (by omega) (by omega), abvU_eq (by omega) (by omega) (by omega) (by omega)]
  rw [hn]
  have ha : rAbU [I (IntKind.i64.wrap (IntKind.i64.wrap (2000 * V) * n2)), I (IntKind.i64.wrap (S.1 * v))] = some ⟨I (abvU (IntKind.i64.wrap (IntKind.i64.wrap (2000 * V) * n2)) (IntKind.i64.wrap (S.1 * v))), []⟩ := asr_of (by rw [m1]; omega)
  have hd : ¬ IntKind.i64.wrap (S.2 * v) = 0 := by rw [m4]; omega
  refine bs.pv (sx := nos) hk0 Tryz.func69 (by kernel_rfl) (by kernel_rfl) rfl ?_
  repeat' (first | refine wk3 ?_ | (refine wk2 ?_ ?_ <;> intro _) | refine wk4 ?_ | fail); all_goals (conv => whnf)
  all_goals exact ret_of rfl rfl
theorem d72e {h : Hal} {s : Stg} {b : Int} (g : Sit h s) (hb : within b 0 3 = true) (a v : Int) (e : ¬ 1 ≤ (absV h s b).1) : PCall Tryz.prog 72 [h.av, s.av, P3 b a v] ⟨.tup [P2 0 0, I 11], []⟩ := by
  have h0 := one_ok (d71e g hb a v e) pt0_ok
  refine bs.pv (sx := nos) h0 Tryz.func72 (by kernel_rfl) (by kernel_rfl) rfl ?_
  repeat' (first | refine wk3 ?_ | (refine wk2 ?_ ?_ <;> intro _) | refine wk4 ?_ | fail); all_goals (conv => whnf)
  exact ret_of rfl rfl
set_option maxHeartbeats 4000000 in
theorem d72 {h : Hal} {s : Stg} {b a v : Int} (r : Rg h s b a v) : PCall Tryz.prog 72 [h.av, s.av, P3 b a v] ⟨.tup [P2 (eyrY h s b v).1 (eyrY h s b v).2, I (hitX h s b).2], []⟩ := by
  have g := r.g
  have h71 := d71 r
  unfold eyrY
  by_cases c : (hitX h s b).2 = 0
  rotate_left
  · rw [if_neg c]
    have h0 := one_ok h71 pt0_ok
    generalize hitX h s b = H at *
    obtain ⟨⟨n1, n2⟩, E⟩ := H
    dsimp only at c h0 h71 ⊢
    refine bs.pv (sx := nos) h0 Tryz.func72 (by kernel_rfl) (by kernel_rfl) rfl ?_
    repeat' (first | refine wk3 ?_ | (refine wk2 ?_ ?_ <;> intro _) | refine wk4 ?_ | fail); all_goals (conv => whnf)
    exact ret_of rfl rfl
  rw [if_pos c]
  have h142 := vol_r g
  have h65 := d65 g
  obtain ⟨_, v1, v2⟩ := vol_bd g.fine
  have rv := rv_of g b
  obtain ⟨s1, s2, s3, a1, a2, a3, a4⟩ := rv
  obtain ⟨_, _, w1, w2⟩ := air_iff r.air
  have nb := hitsV_bd c
  unfold eyrX
  rw [c] at h71 ⊢
  have hk0 := one_ok h71 (one_ok h142 (one_ok h65 (fc_ok pt0_ok)))
  unfold hitX at *
  generalize En.hitsV (srV h) (absV h s b) = H at *
  obtain ⟨⟨n1, n2⟩, E⟩ := H
  generalize vol2 h = V at *
  generalize srV h = S at *
  generalize absV h s b = A at *
  dsimp only at c nb hk0 h71 ⊢
  obtain ⟨m1, m2, m3⟩ := mulv_bd (v := v) (A := S.1) w2 (by omega) (by omega) (by omega)
  obtain ⟨m4, m5, m6⟩ := mulv_bd (v := v) (A := S.2) w2 (by omega) (by omega) (by omega)
  have k0 : IntKind.i64.wrap (n1 - 1) = n1 - 1 := W_eq (by omega) (by omega)
  obtain ⟨k1, k2, k3⟩ := mulh_bd (V := V) (n := n1 - 1) (by omega) (by omega) (by omega) (by omega)
  obtain ⟨k4, k5, k6⟩ := mulh_bd (V := V) (n := n2) (by omega) (by omega) (by omega) (by omega)
  rw [← k0] at k1
  have hn : En.eyrV V v S (n1, n2) = (IntKind.i64.wrap (IntKind.i64.wrap (2000 * V) * IntKind.i64.wrap (n1 - 1)) / IntKind.i64.wrap (S.2 * v), -((-(IntKind.i64.wrap (IntKind.i64.wrap (2000 * V) * n2))) / IntKind.i64.wrap (S.1 * v))) := by
    unfold En.eyrV
    dsimp only
    rw [k1, k0, k4, m1, m4, ceil_up (by omega) (by omega)]
  rw [hn]
  have t1 := fq_hit (n := IntKind.i64.wrap (IntKind.i64.wrap (2000 * V) * IntKind.i64.wrap (n1 - 1))) (b := IntKind.i64.wrap (S.2 * v)) ⟨by omega, by rw [k1, k0]; omega, by rw [k1, k0]; omega⟩
  have t2 := cq_hit (n := IntKind.i64.wrap (IntKind.i64.wrap (2000 * V) * n2)) (b := IntKind.i64.wrap (S.1 * v)) ⟨by omega, by omega, by omega⟩
  refine bs.pv (sx := nos) hk0 Tryz.func72 (by kernel_rfl) (by kernel_rfl) rfl ?_
  repeat' (first | refine wk3 ?_ | (refine wk2 ?_ ?_ <;> intro _) | refine wk4 ?_ | fail); all_goals (conv => whnf)
  all_goals exact ret_of rfl rfl
end Go.Proofs.YtddhjopopelkjaaGreat
