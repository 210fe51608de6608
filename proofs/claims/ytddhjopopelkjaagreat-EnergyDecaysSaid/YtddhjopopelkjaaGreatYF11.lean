/- A part of the proof: lemmas. -/
import Derived.Test.YtddhjopopelkjaaGreatYX10
set_option linter.unusedVariables false
set_option linter.unusedSimpArgs false
namespace Go.Proofs.YtddhjopopelkjaaGreat
open Go Go.Sx Go.En
abbrev r61 (rows : List (List Int)) (ls e : List Int) (m : Int) : PRes := ⟨.tup [I (stR rows ls e m).1, I (stR rows ls e m).2], []⟩
abbrev r62 (rows : List (List Int)) (ls e : List Int) (m : Int) : PRes := ⟨I (stN rows ls e m), []⟩
noncomputable def kXd : PC := ins 28 (famX ExS fun rows ls => ⟨exA rows ls, []⟩) (ins 61 (famXEI (fun rows ls e _ => ExL rows ls e) r61) (ins 62 (famXEI StOk r62) kX5))
theorem kXd_ok : PCOK Tryz.prog kXd := famA_ok (fun q h => d28f h) (famA_ok (fun q h => d61 h) (famA_ok (fun q h => d62 h) kX5_ok))
set_option maxRecDepth 100000 in
set_option maxHeartbeats 8000000 in
theorem d11 (rows : List (List Int)) (ls e : List Int) (m : Int) : PCall Tryz.prog 11 [exA rows ls, .isl 1 (nl e), I m] ⟨Bo true, []⟩ := by
  have g1 := cPat_hit rows ls e
  by_cases hP : patB rows ls e = true
  rotate_left
  · have hP : patB rows ls e = false := by simpa using hP
    rw [hP] at g1
    refine bs.pv (sx := nos) kXd_ok Tryz.func11 (by kernel_rfl) (by kernel_rfl) rfl ?_
    repeat' (first | refine wk3 ?_ | (refine wk2 ?_ ?_ <;> intro _) | refine wk4 ?_ | fail); all_goals (conv => whnf)
    all_goals exact ret_bool rfl
  have hs := pat_s hP
  rw [hP] at g1
  have c2 := famX_hit (p := ExS) (fun rows ls => ⟨exA rows ls, []⟩) hs.1
  have c3 := cints_hit (ns := e) hs.2
  have c4 := famXEI_hit (p := fun rows ls e _ => ExL rows ls e) r61 (n := m) hs
  have c6 := famXE_hit (p := ExL) (fun rows ls e => ⟨I (owE rows ls e), []⟩) hs
  unfold r61 at c4
  by_cases z : owE rows ls e = 0
  rotate_left
  · have e0 : stE rows ls e m = owE rows ls e := by unfold stE; rw [if_pos z]
    have e1 : stR rows ls e m = (0, owE rows ls e) := by unfold stR; rw [e0, if_pos z]
    rw [e1] at c4
    generalize owE rows ls e = E at *
    refine bs.pv (sx := nos) kXd_ok Tryz.func11 (by kernel_rfl) (by kernel_rfl) rfl ?_
    repeat' (first | refine wk3 ?_ | (refine wk2 ?_ ?_ <;> intro _) | refine wk4 ?_ | fail); all_goals (conv => whnf)
    all_goals first
      | exact ret_bool rfl
      | (refine ret_bool ?_; simp_all; done)
      | (exfalso; simp_all; done)
  have e0 : stE rows ls e m = unl (within m 0 1000000) 2 := by unfold stE; rw [if_neg (fun c => c z)]
  have hst := owE_of z
  rw [z] at c6
  by_cases y : within m 0 1000000 = true
  rotate_left
  · have y : within m 0 1000000 = false := by simpa using y
    have y2 : unl (within m 0 1000000) 2 = 2 := by rw [y]; rfl
    have e1 : stR rows ls e m = (0, 2) := by unfold stR; rw [e0, y2, if_pos (by omega)]
    rw [e1] at c4
    clear e0 z hst
    refine bs.pv (sx := nos) kXd_ok Tryz.func11 (by kernel_rfl) (by kernel_rfl) rfl ?_
    repeat' (first | refine wk3 ?_ | (refine wk2 ?_ ?_ <;> intro _) | refine wk4 ?_ | fail); all_goals (conv => whnf)
    all_goals first
      | exact ret_bool rfl
      | (refine ret_bool ?_; simp_all; done)
      | (exfalso; simp_all; done)
  have y2 : unl (within m 0 1000000) 2 = 0 := by rw [y]; rfl
  have e1 : stR rows ls e m = if stN rows ls e m < 0 then (0, 12) else (stN rows ls e m, 0) := by unfold stR; rw [e0, y2, if_neg (fun c => c rfl)]
  have c5 := famXEI_hit (p := StOk) r62 (n := m) ⟨hst, within_iff.1 y⟩
  unfold r62 at c5
  rw [e1] at c4
  clear e0 e1 hst z
  generalize stN rows ls e m = N at *
  by_cases w : N < 0
  · rw [if_pos w] at c4
    refine bs.pv (sx := nos) kXd_ok Tryz.func11 (by kernel_rfl) (by kernel_rfl) rfl ?_
    repeat' (first | refine wk3 ?_ | (refine wk2 ?_ ?_ <;> intro _) | refine wk4 ?_ | fail); all_goals (conv => whnf)
    all_goals first
      | exact ret_bool rfl
      | (refine ret_bool ?_; simp_all; done)
      | (exfalso; simp_all; done)
  · rw [if_neg w] at c4
    refine bs.pv (sx := nos) kXd_ok Tryz.func11 (by kernel_rfl) (by kernel_rfl) rfl ?_
    repeat' (first | refine wk3 ?_ | (refine wk2 ?_ ?_ <;> intro _) | refine wk4 ?_ | fail); all_goals (conv => whnf)
    all_goals first
      | exact ret_bool rfl
      | (refine ret_bool ?_; simp_all; done)
      | (exfalso; simp_all; done)
end Go.Proofs.YtddhjopopelkjaaGreat
