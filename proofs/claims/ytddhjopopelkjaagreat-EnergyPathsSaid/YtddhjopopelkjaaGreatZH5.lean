/- A part of the proof: lemmas. -/
import Derived.Test.YtddhjopopelkjaaGreatZH4
set_option linter.unusedVariables false
set_option linter.unusedSimpArgs false
namespace Go.Proofs.YtddhjopopelkjaaGreat
open Go Go.Sx
/-! ### Sabine -/
theorem rAb_ok : PCOK Tryz.prog (ins 135 rAbU pt0) := by
  refine ins_ok (fun a res h => ?_) pt0_ok
  unfold rAbU at h; split at h
  · obtain ⟨h1, h2⟩ := asr_some h; subst h2; exact d135 (of_decide_eq_true h1)
  · cases h
theorem abV_err {h : Hal} {s : Stg} {b a v : Int} (e : abE h s b a v ≠ 0) : abE h s b a v ≠ 0 := e
/-- A right scene with right air: the absorption area, and whether there is one. -/
theorem ab_of {h : Hal} {s : Stg} {b a v : Int} (r : Rg h s b a v) : abV h s b a v = absV h s b ∧ abE h s b a v = 0 := by
  have e := absA_eq (h := h) (s := s) r.z r.air
  have p := r.pos
  unfold abV abE
  rw [if_neg (fun c => c r.z), if_neg (fun c => c r.air), if_neg (fun c => c r.z), if_neg (fun c => c r.air), e]
  exact ⟨rfl, by unfold unl; rw [decide_eq_true (by omega)]; rfl⟩
theorem rg_of {h : Hal} (hk : h.ok) {s : Stg} (hs : s.few) {b a v : Int} (e : abE h s b a v = 0) : Rg h s b a v := by
  unfold abE at e
  by_cases z : serr h s = 0
  rotate_left
  · rw [if_pos z] at e; exact absurd e z
  rw [if_neg (fun c => c z)] at e
  by_cases y : airE b a v = 0
  rotate_left
  · rw [if_pos y] at e; exact absurd e y
  rw [if_neg (fun c => c y), absA_eq z y] at e
  refine ⟨sit_of hk hs z, z, y, ?_⟩
  by_cases c : 0 < (absV h s b).1
  · omega
  · unfold unl at e; rw [decide_eq_false c] at e; cases e
theorem vol_c {h : Hal} {s : Stg} (g : Sit h s) (z : serr h s = 0) : PCall Tryz.prog 138 [h.av] ⟨.tup [I (vol2 h), I 0], []⟩ := by
  have h44 := c44 g.ok
  have ea : areaP h = twArea h := by unfold areaP; rw [if_pos (err_of z)]
  rw [ea, (vol_bd g.fine).1, err_of z] at h44
  exact h44
theorem vol_r {h : Hal} {s : Stg} (g : Sit h s) : PCall Tryz.prog 142 [h.av] ⟨I (vol2 h), []⟩ := by
  have h142 := d142 g.ok
  rw [← twArea_eq, (vol_bd g.fine).1] at h142
  exact h142
theorem d67e {h : Hal} (hk : h.ok) {s : Stg} (hs : s.few) {b a v : Int} (e : abE h s b a v ≠ 0) : PCall Tryz.prog 67 [h.av, s.av, P3 b a v] ⟨.tup [P2 0 0, I (abE h s b a v)], []⟩ := by
  have h0 := one_ok (d143 hk hs b a v) pt0_ok
  generalize abE h s b a v = E at *
  generalize abV h s b a v = A at *
  refine bs.pv (sx := nos) h0 Tryz.func67 (by kernel_rfl) (by kernel_rfl) rfl ?_
  repeat' (first | refine wk3 ?_ | (refine wk2 ?_ ?_ <;> intro _) | refine wk4 ?_ | fail); all_goals (conv => whnf)
  exact ret_of rfl rfl
theorem mul2_bd {v A : Int} (v0 : 0 ≤ v) (v1 : v ≤ 40000) (a1 : 1 ≤ A) (a2 : A ≤ 7000000000000) (v2 : 1 ≤ v) : IntKind.i64.wrap (IntKind.i64.wrap (2 * v) * A) = 2 * v * A ∧ 1 ≤ 2 * v * A ∧ 2 * v * A ≤ 560000000000000000 := by
  have p : 1 * 1 ≤ 2 * v * A := Int.mul_le_mul (by omega) a1 (by omega) (by omega)
  have q : 2 * v * A ≤ 80000 * 7000000000000 := Int.mul_le_mul (by omega) a2 (by omega) (by omega)
  exact ⟨by rw [W_eq (n := 2 * v) (by omega) (by omega), W_eq (by omega) (by omega)], by omega, by omega⟩
theorem dv_eq {n b : Int} (h0 : 0 ≤ n) (h1 : n ≤ 9000000000000000000) (hb : 1 ≤ b) : IntKind.i64.wrap (n.tdiv b) = n / b := by
  have d1 := Int.ediv_nonneg h0 (show 0 ≤ b by omega)
  have d2 := Int.ediv_le_self b h0
  rw [Int.tdiv_eq_ediv_of_nonneg h0, W_eq (by omega) (by omega)]
theorem abvU_eq {n b : Int} (h0 : 0 ≤ n) (h1 : n ≤ 8000000000000000000) (hb : 1 ≤ b) (hb2 : b ≤ 1000000000000000000) : abvU n b = (n + b - 1) / b := by
  unfold abvU
  rw [W_eq (n := n + b) (by omega) (by omega), W_eq (n := n + b - 1) (by omega) (by omega), dv_eq (by omega) (by omega) hb]
set_option maxHeartbeats 4000000 in
theorem d67 {h : Hal} {s : Stg} {b a v : Int} (r : Rg h s b a v) : PCall Tryz.prog 67 [h.av, s.av, P3 b a v] ⟨.tup [P2 (sabX h s b v).1 (sabX h s b v).2, I 0], []⟩ := by
  have g := r.g
  have h143 := d143 g.ok g.sf b a v
  obtain ⟨e1, e2⟩ := ab_of r
  rw [e1, e2] at h143
  have h138 := vol_c g r.z
  obtain ⟨_, v1, v2⟩ := vol_bd g.fine
  obtain ⟨s1, s2, s3, a1, a2, a3, a4⟩ := rv_of g b
  have pos := r.pos
  obtain ⟨_, _, w1, w2⟩ := air_iff r.air
  have hk0 := one_ok h143 (one_ok h138 rAb_ok)
  unfold sabX
  generalize vol2 h = V at *
  generalize srV h = S at *
  generalize absV h s b = A at *
  obtain ⟨m2, m3, m4⟩ := mul2_bd (v := v) (A := A.1) (by omega) w2 (by omega) (by omega) (by omega)
  obtain ⟨n2, n3, n4⟩ := mul2_bd (v := v) (A := A.2) (by omega) w2 (by omega) (by omega) (by omega)
  have hn : En.sabV V v A = (IntKind.i64.wrap ((IntKind.i64.wrap (55262 * V)).tdiv (IntKind.i64.wrap (IntKind.i64.wrap (2 * v) * A.2))), abvU (IntKind.i64.wrap (55263 * V)) (IntKind.i64.wrap (IntKind.i64.wrap (2 * v) * A.1))) := by
    unfold En.sabV
    rw [n2, m2, W_eq (n := 55262 * V) (by omega) (by omega), W_eq (n := 55263 * V) (by omega) (by omega), dv_eq (by omega) (by omega) (by omega), abvU_eq (by omega) (by omega) (by omega) (by omega)]
  rw [hn]
  have ha : rAbU [I (IntKind.i64.wrap (55263 * V)), I (IntKind.i64.wrap (IntKind.i64.wrap (2 * v) * A.1))] = some ⟨I (abvU (IntKind.i64.wrap (55263 * V)) (IntKind.i64.wrap (IntKind.i64.wrap (2 * v) * A.1))), []⟩ := asr_of (by rw [m2]; omega)
  have hd : ¬ IntKind.i64.wrap (IntKind.i64.wrap (2 * v) * A.2) = 0 := by rw [n2]; omega
  refine bs.pv (sx := nos) hk0 Tryz.func67 (by kernel_rfl) (by kernel_rfl) rfl ?_
  repeat' (first | refine wk3 ?_ | (refine wk2 ?_ ?_ <;> intro _) | refine wk4 ?_ | fail); all_goals (conv => whnf)
  all_goals exact ret_of rfl rfl
set_option maxHeartbeats 4000000 in
theorem d70 {h : Hal} {s : Stg} {b a v : Int} (r : Rg h s b a v) : PCall Tryz.prog 70 [h.av, s.av, P3 b a v] ⟨.tup [P2 (sabX h s b v).1 (sabX h s b v).2, I 0], []⟩ := by
  have g := r.g
  have h142 := vol_r g
  obtain ⟨_, v1, v2⟩ := vol_bd g.fine
  obtain ⟨s1, s2, s3, a1, a2, a3, a4⟩ := rv_of g b
  have pos := r.pos
  obtain ⟨hb, _, w1, w2⟩ := air_iff r.air
  have h146 := c31 g hb
  unfold sabX
  generalize vol2 h = V at *
  generalize srV h = S at *
  generalize absV h s b = A at *
  obtain ⟨m2, m3, m4⟩ := mul2_bd (v := v) (A := A.1) (by omega) w2 (by omega) (by omega) (by omega)
  obtain ⟨n2, n3, n4⟩ := mul2_bd (v := v) (A := A.2) (by omega) w2 (by omega) (by omega) (by omega)
  have x1 : IntKind.i64.wrap (55262 * V) = 55262 * V := W_eq (by omega) (by omega)
  have x2 : IntKind.i64.wrap (55263 * V) = 55263 * V := W_eq (by omega) (by omega)
  have h95 := c90 (n := IntKind.i64.wrap (55262 * V)) (b := IntKind.i64.wrap (IntKind.i64.wrap (2 * v) * A.2)) (by omega) (by omega) (by omega)
  have h96 := c91 (n := IntKind.i64.wrap (55263 * V)) (b := IntKind.i64.wrap (IntKind.i64.wrap (2 * v) * A.1)) (by omega) (by omega) (by omega)
  have hn : En.sabV V v A = (IntKind.i64.wrap (55262 * V) / IntKind.i64.wrap (IntKind.i64.wrap (2 * v) * A.2), -((-(IntKind.i64.wrap (55263 * V))) / IntKind.i64.wrap (IntKind.i64.wrap (2 * v) * A.1))) := by
    unfold En.sabV
    rw [n2, m2, x1, x2, ceil_up (by omega) (by omega)]
  rw [hn]
  have hk0 := one_ok h146 (one_ok h142 (one_ok h95 (one_ok h96 pt0_ok)))
  refine bs.pv (sx := nos) hk0 Tryz.func70 (by kernel_rfl) (by kernel_rfl) rfl ?_
  repeat' (first | refine wk3 ?_ | (refine wk2 ?_ ?_ <;> intro _) | refine wk4 ?_ | fail); all_goals (conv => whnf)
  all_goals exact ret_of rfl rfl
theorem d70e {h : Hal} {s : Stg} {b : Int} (g : Sit h s) (hb : within b 0 3 = true) (a v : Int) (e : ¬ 1 ≤ (absV h s b).1) : PCall Tryz.prog 70 [h.av, s.av, P3 b a v] ⟨.tup [P2 0 0, I 11], []⟩ := by
  have h146 := c31 g hb
  obtain ⟨s1, s2, s3, a1, a2, a3, a4⟩ := rv_of g b
  have e0 : (absV h s b).1 = 0 := by omega
  have hk0 := one_ok h146 pt0_ok
  generalize absV h s b = A at *
  refine bs.pv (sx := nos) hk0 Tryz.func70 (by kernel_rfl) (by kernel_rfl) rfl ?_
  repeat' (first | refine wk3 ?_ | (refine wk2 ?_ ?_ <;> intro _) | refine wk4 ?_ | fail); all_goals (conv => whnf)
  all_goals exact ret_of rfl rfl
end Go.Proofs.YtddhjopopelkjaaGreat
