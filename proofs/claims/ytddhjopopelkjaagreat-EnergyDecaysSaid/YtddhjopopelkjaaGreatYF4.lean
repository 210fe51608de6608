/- A part of the proof: lemmas. -/
import Derived.Test.YtddhjopopelkjaaGreatYX7
set_option linter.unusedVariables false
set_option linter.unusedSimpArgs false
namespace Go.Proofs.YtddhjopopelkjaaGreat
open Go Go.Sx Go.En
theorem cPat_hit (rows : List (List Int)) (ls e : List Int) : cPat [exA rows ls, .isl 1 (nl e)] = some ⟨Bo (patB rows ls e), []⟩ := famXE_hit (p := fun _ _ _ => True) (fun rows ls e => ⟨Bo (patB rows ls e), []⟩) trivial
theorem runE_bad {rows : List (List Int)} {ls e : List Int} (z : ¬ owE rows ls e = 0) (t : Int) : runE rows ls e t = owE rows ls e := by unfold runE; rw [if_pos z]
theorem runV_bad {rows : List (List Int)} {ls e : List Int} (z : ¬ owE rows ls e = 0) (t : Int) : runV rows ls e t = ([], 0) := by unfold runV; rw [runE_bad z, if_pos z]
theorem runE_ok {rows : List (List Int)} {ls e : List Int} (z : owE rows ls e = 0) (t : Int) : runE rows ls e t = unl (within t 0 1000) 2 := by unfold runE; rw [if_neg (fun c => c z)]
theorem runV_ok {rows : List (List Int)} {ls e : List Int} (z : owE rows ls e = 0) {t : Int} (h : 0 ≤ t ∧ t ≤ 1000) : runV rows ls e t = En.run rows ls t.toNat e ∧ runE rows ls e t = 0 := by
  have e0 : runE rows ls e t = 0 := by rw [runE_ok z, within_iff.2 h]; rfl
  refine ⟨?_, e0⟩
  unfold runV; rw [e0, if_neg (fun c => c rfl)]
theorem runV_far {rows : List (List Int)} {ls e : List Int} (z : owE rows ls e = 0) {t : Int} (h : within t 0 1000 = false) : runV rows ls e t = ([], 0) ∧ runE rows ls e t = 2 := by
  have e0 : runE rows ls e t = 2 := by rw [runE_ok z, h]; rfl
  refine ⟨?_, e0⟩
  unfold runV; rw [e0, if_pos (by omega)]
set_option maxRecDepth 100000 in
set_option maxHeartbeats 8000000 in
theorem d4 (rows : List (List Int)) (ls e : List Int) (s : Int) : PCall Tryz.prog 4 [exA rows ls, .isl 1 (nl e), I s] ⟨Bo true, []⟩ := by
  have g1 := cPat_hit rows ls e
  by_cases hP : patB rows ls e = true
  rotate_left
  · have hP : patB rows ls e = false := by simpa using hP
    rw [hP] at g1
    refine bs.pv (sx := nos) kX6_ok Tryz.func4 (by kernel_rfl) (by kernel_rfl) rfl ?_
    repeat' (first | refine wk3 ?_ | (refine wk2 ?_ ?_ <;> intro _) | refine wk4 ?_ | fail); all_goals (conv => whnf)
    all_goals exact ret_bool rfl
  have hs := pat_s hP
  rw [hP] at g1
  by_cases hs20 : 20 < s ∧ s ≤ 1000
  · refine bs.pv (sx := nos) kX6_ok Tryz.func4 (by kernel_rfl) (by kernel_rfl) rfl ?_
    repeat' (first | refine wk3 ?_ | (refine wk2 ?_ ?_ <;> intro _) | refine wk4 ?_ | fail); all_goals (conv => whnf)
    all_goals exact ret_bool rfl
  have c1 := famX_hit (p := ExS) rExV hs.1
  have c2 := famX_hit (p := ExS) (fun rows ls => ⟨exA rows ls, []⟩) hs.1
  have c3 := cints_hit (ns := e) hs.2
  have c4 := famXE_hit (p := ExL) rSt1 hs
  have c5 := famXEI_hit (p := fun rows ls e _ => ExL rows ls e) rRun (n := s) hs
  have c6 := famXE_hit (p := ExL) (fun rows ls e => ⟨I (owE rows ls e), []⟩) hs
  have w0 : IntKind.i64.wrap (((nl []).length : Int) + ((nl []).length : Int)) = 0 := rfl
  unfold rExV at c1; unfold rSt1 at c4; unfold rRun at c5
  by_cases z : owE rows ls e = 0
  rotate_left
  · rw [runE_bad z, runV_bad z] at c4 c5
    generalize owE rows ls e = E at *
    generalize exV rows ls = X at *
    refine bs.pv (sx := nos) kX6_ok Tryz.func4 (by kernel_rfl) (by kernel_rfl) rfl ?_
    repeat' (first | refine wk3 ?_ | (refine wk2 ?_ ?_ <;> intro _) | refine wk4 ?_ | fail); all_goals (conv => whnf)
    all_goals first
      | exact ret_bool rfl
      | (refine ret_bool ?_; simp_all; done)
      | (exfalso; simp_all; done)
  have hst := owE_of z
  have z1 := runV_ok z (t := 1) ⟨by omega, by omega⟩
  have h1 : (En.step rows ls e).1.length < 1000000 := by have := hst.step.l; have := hst.n; omega
  have i1 := ints_hit h1 h1
  rw [eqN_self] at i1
  have c8 := famXE_hit (p := StH) rStep hst
  unfold rStep at c8
  rw [z1.1, z1.2, show (1 : Int).toNat = 1 from rfl, run_one] at c4
  rw [z] at c6
  by_cases y : within s 0 1000 = true
  rotate_left
  · have y : within s 0 1000 = false := by simpa using y
    have y2 : unl (within s 0 1000) 2 = 2 := by rw [y]; rfl
    obtain ⟨y3, y4⟩ := runV_far z y
    rw [y3, y4] at c5
    generalize exV rows ls = X at *
    generalize En.step rows ls e = Y at *
    clear z1 hst z hs hP
    refine bs.pv (sx := nos) kX6_ok Tryz.func4 (by kernel_rfl) (by kernel_rfl) rfl ?_
    repeat' (first | refine wk3 ?_ | (refine wk2 ?_ ?_ <;> intro _) | refine wk4 ?_ | fail); all_goals (conv => whnf)
    all_goals first
      | exact ret_bool rfl
      | (refine ret_bool ?_; simp_all; done)
      | (exfalso; simp_all; done)
  · have y2 : unl (within s 0 1000) 2 = 0 := by rw [y]; rfl
    have y0 := within_iff.1 y
    obtain ⟨y3, y4⟩ := runV_ok z y0
    rw [y3, y4] at c5
    have c9 := famXEI_hit (p := RunOk) rRunR ⟨hst, y0⟩
    have h2 : (En.run rows ls s.toNat e).1.length < 1000000 := by have := (hst.run s.toNat).l; have := hst.n; omega
    have i2 := ints_hit h2 h2
    rw [eqN_self] at i2
    unfold rRunR at c9
    generalize exV rows ls = X at *
    generalize En.step rows ls e = Y at *
    generalize En.run rows ls s.toNat e = Z at *
    clear z1 z hs hP hst
    refine bs.pv (sx := nos) kX6_ok Tryz.func4 (by kernel_rfl) (by kernel_rfl) rfl ?_
    repeat' (first | refine wk3 ?_ | (refine wk2 ?_ ?_ <;> intro _) | refine wk4 ?_ | fail); all_goals (conv => whnf)
    all_goals first
      | exact ret_bool rfl
      | (refine ret_bool ?_; simp_all; done)
      | (exfalso; simp_all; done)
end Go.Proofs.YtddhjopopelkjaaGreat
