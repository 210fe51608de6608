/- A part of the proof: lemmas. -/
import Derived.Test.YtdaliaafmcjikaaGreatJP2
set_option linter.unusedVariables false
set_option linter.unusedSimpArgs false
namespace Go.Proofs.YtdaliaafmcjikaaGreat
open Go Go.Sx
/-! ### Delays -/
theorem nd_of {p : Prop} [Decidable p] (h : (!decide p) = false) : p := by simpa using h
def cdv (n b : Int) : Int := -((-n) / b)
theorem cdv_eq {n b : Int} (hb : 0 < b) : cdv n b = (n + b - 1) / b := by
  unfold cdv
  have h1 := Int.emod_add_mul_ediv (-n) b
  have h2 := Int.emod_nonneg (-n) (b := b) (by omega)
  have h3 := Int.emod_lt_of_pos (-n) hb
  refine (((Int.ediv_emod_unique hb (r := b - 1 - (-n) % b)).2 ⟨?_, by omega, by omega⟩).1).symm
  rw [Int.mul_neg]
  omega
def scV (lo hi n b : Int) : Int × Int := (lo * n / b, cdv (hi * n) b)
structure ScOk (lo hi n b : Int) : Prop where
  b : 0 < b ∧ b ≤ 1000000
  l : 0 ≤ lo * n ∧ lo * n ≤ 4000000000000000000
  h : 0 ≤ hi * n ∧ hi * n ≤ 4000000000000000000
set_option maxHeartbeats 4000000 in
theorem d102 {lo hi n b : Int} (k : ScOk lo hi n b) : PCall Tryz.prog 102 [P2 lo hi, I n, I b] ⟨P2 (scV lo hi n b).1 (scV lo hi n b).2, []⟩ := by
  obtain ⟨⟨b0, b1⟩, ⟨l0, l1⟩, ⟨h0, h1⟩⟩ := k
  have hz : ¬ b = 0 := by omega
  have w1 : IntKind.i64.wrap (lo * n) = lo * n := W_eq (by omega) (by omega)
  have w2 : IntKind.i64.wrap (hi * n) = hi * n := W_eq (by omega) (by omega)
  have q1 := Int.ediv_le_self b l0
  have q2 := Int.ediv_nonneg l0 (show 0 ≤ b by omega)
  have q3 := Int.ediv_le_self b (show 0 ≤ hi * n + b - 1 by omega)
  have q4 := Int.ediv_nonneg (show 0 ≤ hi * n + b - 1 by omega) (show 0 ≤ b by omega)
  refine bs.pv (sx := nos) pt0_ok Tryz.func102 (by kernel_rfl) (by kernel_rfl) rfl ?_
  repeat' (first | refine wk3 ?_ | (refine wk2 ?_ ?_ <;> intro _) | refine wk4 ?_ | fail); all_goals (conv => whnf)
  refine ret_of ?_ rfl
  unfold scV
  rw [cdv_eq b0, w1, w2, W_eq (n := hi * n + b) (by omega) (by omega), W_eq (n := hi * n + b - 1) (by omega) (by omega), Int.tdiv_eq_ediv_of_nonneg l0, Int.tdiv_eq_ediv_of_nonneg (show 0 ≤ hi * n + b - 1 by omega), W_eq (n := lo * n / b) (by omega) (by omega), W_eq (n := (hi * n + b - 1) / b) (by omega) (by omega)]
noncomputable def delV (sq v : Int) : Int × Int := scV (lenV sq).1 (lenV sq).2 100 v
theorem spE_iff {n : Int} : spE n = 0 ↔ 30000 ≤ n ∧ n ≤ 40000 := by
  rw [← within_iff]
  unfold spE
  cases within n 30000 40000 <;> simp [unl]
theorem len_ok {sq v : Int} (h0 : 1 ≤ sq) (h1 : sq ≤ 24300000000) (hv : spE v = 0) : ScOk (lenV sq).1 (lenV sq).2 100 v := by
  obtain ⟨⟨g1, g2⟩, g3, g4⟩ := lenV_bd h0 h1
  have := spE_iff.1 hv
  exact ⟨by omega, by omega, by omega⟩
theorem delV_bd {sq v : Int} (h0 : 1 ≤ sq) (h1 : sq ≤ 24300000000) (hv : spE v = 0) : 0 ≤ (delV sq v).1 ∧ (delV sq v).1 ≤ (delV sq v).2 ∧ (delV sq v).2 ≤ 7200000 := by
  obtain ⟨⟨g1, g2⟩, g3, g4⟩ := lenV_bd h0 h1
  have hv := spE_iff.1 hv
  unfold delV scV
  dsimp only
  generalize (lenV sq).1 = lo at *
  generalize (lenV sq).2 = hi at *
  rw [cdv_eq (by omega)]
  refine ⟨Int.ediv_nonneg (by omega) (by omega), Int.ediv_le_ediv (by omega) (by omega), ?_⟩
  have : hi * 100 + v - 1 ≤ 7200000 * v := by omega
  have := Int.ediv_le_ediv (show 0 < v by omega) this
  rw [Int.mul_ediv_cancel _ (by omega)] at this
  exact this
theorem d100 {p : Pth} {v : Int} (h : pthE p = 0) (hv : spE v = 0) : PCall Tryz.prog 100 [p.av, I v] ⟨P2 (delV p.sq v).1 (delV p.sq v).2, []⟩ := by
  obtain ⟨_, s1, s2⟩ := pthE_zero h
  have h1 := one_ok (d163 h) (one_ok (d102 (len_ok s1 s2 hv)) pt0_ok)
  unfold delV
  generalize scV (lenV p.sq).1 (lenV p.sq).2 100 v = D at *
  generalize lenV p.sq = L at *
  refine bs.pv (sx := nos) h1 Tryz.func100 (by kernel_rfl) (by kernel_rfl) rfl ?_
  repeat' (first | refine wk3 ?_ | (refine wk2 ?_ ?_ <;> intro _) | refine wk4 ?_ | fail); all_goals (conv => whnf)
  exact ret_of rfl rfl
/-- An error, and an answer that is nothing where there is one. -/
def okP (e : Int) (v : Int × Int) : Int × Int := if e = 0 then v else (0, 0)
noncomputable def deE (p : Pth) (v : Int) : Int := fstL [pthE p, spE v]
theorem fst_two {a b : Int} : fstL [a, b] = 0 ↔ a = 0 ∧ b = 0 := by
  simp only [fstL]
  by_cases ha : a = 0 <;> by_cases hb : b = 0 <;> simp [ha, hb]
theorem fst_three {a b c : Int} : fstL [a, b, c] = 0 ↔ a = 0 ∧ b = 0 ∧ c = 0 := by
  simp only [fstL]
  by_cases ha : a = 0 <;> by_cases hb : b = 0 <;> by_cases hc : c = 0 <;> simp [ha, hb, hc]
set_option maxHeartbeats 4000000 in
theorem d38 (p : Pth) (v : Int) : PCall Tryz.prog 38 [p.av, I v] ⟨.tup [P2 (okP (deE p v) (delV p.sq v)).1 (okP (deE p v) (delV p.sq v)).2, I (deE p v)], []⟩ := by
  have h1 := d162 p
  have h2 := d99s v
  by_cases c : deE p v = 0
  · obtain ⟨c1, c2⟩ := fst_two.1 c
    have h3 := one_ok (d100 c1 c2) (one_ok h1 (one_ok h2 kI0_ok))
    rw [show okP (deE p v) (delV p.sq v) = delV p.sq v from if_pos c]
    unfold deE at c ⊢
    generalize delV p.sq v = D at *
    generalize pthE p = E at *
    generalize spE v = F at *
    rw [c]
    subst c1 c2
    refine bs.pv (sx := nos) h3 Tryz.func38 (by kernel_rfl) (by kernel_rfl) rfl ?_
    repeat' (first | refine wk3 ?_ | (refine wk2 ?_ ?_ <;> intro _) | refine wk4 ?_ | fail); all_goals (conv => whnf)
    all_goals first | exact ret_of rfl rfl | (exfalso; simp_all [fstL, unl]; done)
  · have h3 := one_ok h1 (one_ok h2 kI0_ok)
    rw [show okP (deE p v) (delV p.sq v) = (0, 0) from if_neg c]
    unfold deE at c ⊢
    generalize pthE p = E at *
    generalize spE v = F at *
    refine bs.pv (sx := nos) h3 Tryz.func38 (by kernel_rfl) (by kernel_rfl) rfl ?_
    repeat' (first | refine wk3 ?_ | (refine wk2 ?_ ?_ <;> intro _) | refine wk4 ?_ | fail); all_goals (conv => whnf)
    all_goals first | exact ret_of rfl rfl | (exfalso; simp_all [fstL, unl]; done)
def raE (n : Int) : Int := unl (within n 8000 192000) 2
noncomputable def saE (p : Pth) (v r : Int) : Int := fstL [pthE p, spE v, raE r]
noncomputable def samV (sq v r : Int) : Int × Int := scV (delV sq v).1 (delV sq v).2 r 1000000
theorem raE_iff {n : Int} : raE n = 0 ↔ 8000 ≤ n ∧ n ≤ 192000 := by
  rw [← within_iff]
  unfold raE
  cases within n 8000 192000 <;> simp [unl]
theorem sam_ok {sq v r : Int} (h0 : 1 ≤ sq) (h1 : sq ≤ 24300000000) (hv : spE v = 0) (hr : raE r = 0) : ScOk (delV sq v).1 (delV sq v).2 r 1000000 := by
  obtain ⟨g1, g2, g3⟩ := delV_bd h0 h1 hv
  have hr := raE_iff.1 hr
  generalize (delV sq v).1 = lo at *
  generalize (delV sq v).2 = hi at *
  have a1 := Int.mul_nonneg g1 (show 0 ≤ r by omega)
  have a2 := Int.mul_nonneg (show 0 ≤ hi by omega) (show 0 ≤ r by omega)
  have a3 : lo * r ≤ 7200000 * 192000 := Int.mul_le_mul (by omega) (by omega) (by omega) (by omega)
  have a4 : hi * r ≤ 7200000 * 192000 := Int.mul_le_mul (by omega) (by omega) (by omega) (by omega)
  exact ⟨by omega, by omega, by omega⟩
set_option maxHeartbeats 4000000 in
theorem d39 (p : Pth) (v r : Int) : PCall Tryz.prog 39 [p.av, I v, I r] ⟨.tup [P2 (okP (saE p v r) (samV p.sq v r)).1 (okP (saE p v r) (samV p.sq v r)).2, I (saE p v r)], []⟩ := by
  have h1 := d162 p
  have h2 := d99s v
  by_cases c : saE p v r = 0
  · obtain ⟨c1, c2, c3⟩ := fst_three.1 c
    obtain ⟨_, s1, s2⟩ := pthE_zero c1
    have h3 := one_ok (d102 (sam_ok s1 s2 c2 c3)) (one_ok (d100 c1 c2) (one_ok h1 (one_ok h2 kI0_ok)))
    rw [show okP (saE p v r) (samV p.sq v r) = samV p.sq v r from if_pos c]
    unfold saE at c ⊢
    unfold samV
    generalize scV (delV p.sq v).1 (delV p.sq v).2 r 1000000 = S at *
    generalize delV p.sq v = D at *
    generalize pthE p = E at *
    generalize spE v = F at *
    rw [c]
    subst c1 c2
    cases hw : within r 8000 192000
    · rw [show raE r = 2 by unfold raE; rw [hw]; rfl] at c3; cases c3
    refine bs.pv (sx := nos) h3 Tryz.func39 (by kernel_rfl) (by kernel_rfl) rfl ?_
    repeat' (first | refine wk3 ?_ | (refine wk2 ?_ ?_ <;> intro _) | refine wk4 ?_ | fail); all_goals (conv => whnf)
    all_goals first | exact ret_of rfl rfl | (exfalso; simp_all [fstL, unl]; done)
  · have h3 := one_ok h1 (one_ok h2 kI0_ok)
    rw [show okP (saE p v r) (samV p.sq v r) = (0, 0) from if_neg c]
    unfold saE at c ⊢
    generalize pthE p = E at *
    generalize spE v = F at *
    refine bs.pv (sx := nos) h3 Tryz.func39 (by kernel_rfl) (by kernel_rfl) rfl ?_
    repeat' (first | refine wk3 ?_ | (refine wk2 ?_ ?_ <;> intro _) | refine wk4 ?_ | fail); all_goals (conv => whnf)
    all_goals first | exact ret_of rfl rfl | (exfalso; rename_i q; exact c (nd_of q))
/-! ### The reference's delays -/
def kI1 : PC := ins 109 rFl (ins 110 rCl k78)
theorem kI1_ok : PCOK Tryz.prog kI1 := by
  refine ins_ok (fun a res h => ?_) (ins_ok (fun a res h => ?_) k78_ok)
  · unfold rFl at h
    split at h
    · obtain ⟨h1, rfl⟩ := asr_some h; exact d95 (of_decide_eq_true h1)
    · cases h
  · unfold rCl at h
    split at h
    · obtain ⟨h1, rfl⟩ := asr_some h; exact d96 (of_decide_eq_true h1)
    · cases h
set_option maxHeartbeats 4000000 in
theorem d45 {sq v : Int} (h0 : 1 ≤ sq) (h1 : sq ≤ 24300000000) (hv : spE v = 0) : PCall Tryz.prog 45 [I sq, I v] ⟨P2 (delV sq v).1 (delV sq v).2, []⟩ := by
  have h99 := d99 h0 h1
  obtain ⟨⟨g1, g2⟩, g3, g4⟩ := lenV_bd h0 h1
  have hv := spE_iff.1 hv
  have hk := one_ok h99 kI1_ok
  unfold delV scV cdv
  dsimp only
  generalize lenV sq = L at *
  obtain ⟨lo, hi⟩ := L
  dsimp only at *
  rw [Int.mul_comm lo, Int.mul_comm hi]
  have w1 : IntKind.i64.wrap (100 * lo) = 100 * lo := W_eq (by omega) (by omega)
  have w2 : IntKind.i64.wrap (100 * hi) = 100 * hi := W_eq (by omega) (by omega)
  have q1 := fl_hit (n := IntKind.i64.wrap (100 * lo)) (b := v) ⟨by omega, by omega, by omega⟩
  have q2 := cl_hit (n := IntKind.i64.wrap (100 * hi)) (b := v) ⟨by omega, by omega, by omega⟩
  rw [← w1, ← w2]
  refine bs.pv (sx := nos) hk Tryz.func45 (by kernel_rfl) (by kernel_rfl) rfl ?_
  repeat' (first | refine wk3 ?_ | (refine wk2 ?_ ?_ <;> intro _) | refine wk4 ?_ | fail); all_goals (conv => whnf)
  exact ret_of rfl rfl
set_option maxHeartbeats 4000000 in
theorem d47 {sq v r : Int} (h0 : 1 ≤ sq) (h1 : sq ≤ 24300000000) (hv : spE v = 0) (hr : raE r = 0) : PCall Tryz.prog 47 [I sq, I v, I r] ⟨P2 (samV sq v r).1 (samV sq v r).2, []⟩ := by
  have h45 := d45 h0 h1 hv
  obtain ⟨_, ⟨a1, a2⟩, ⟨a3, a4⟩⟩ := sam_ok h0 h1 hv hr
  have hk := one_ok h45 kI1_ok
  unfold samV scV cdv
  dsimp only
  generalize delV sq v = L at *
  obtain ⟨lo, hi⟩ := L
  dsimp only at *
  have w1 : IntKind.i64.wrap (lo * r) = lo * r := W_eq (by omega) (by omega)
  have w2 : IntKind.i64.wrap (hi * r) = hi * r := W_eq (by omega) (by omega)
  have q1 := fl_hit (n := IntKind.i64.wrap (lo * r)) (b := 1000000) ⟨by omega, by omega, by omega⟩
  have q2 := cl_hit (n := IntKind.i64.wrap (hi * r)) (b := 1000000) ⟨by omega, by omega, by omega⟩
  rw [← w1, ← w2]
  refine bs.pv (sx := nos) hk Tryz.func47 (by kernel_rfl) (by kernel_rfl) rfl ?_
  repeat' (first | refine wk3 ?_ | (refine wk2 ?_ ?_ <;> intro _) | refine wk4 ?_ | fail); all_goals (conv => whnf)
  exact ret_of rfl rfl
end Go.Proofs.YtdaliaafmcjikaaGreat
