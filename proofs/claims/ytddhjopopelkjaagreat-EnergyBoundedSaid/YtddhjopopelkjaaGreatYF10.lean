/- A part of the proof: lemmas. -/
import Derived.Test.YtddhjopopelkjaaGreatYX9
set_option linter.unusedVariables false
set_option linter.unusedSimpArgs false
namespace Go.Proofs.YtddhjopopelkjaaGreat
open Go Go.Sx Go.En
abbrev r59 (rows : List (List Int)) (ls : List Int) (t s : Int) : PRes := ⟨.tup [P2 (bdV rows ls t s).1 (bdV rows ls t s).2, I (bdE rows ls t s)], []⟩
abbrev r60 (_rows : List (List Int)) (ls : List Int) (t s : Int) : PRes := ⟨P2 (bnd (mnl ls) (mxl ls) ls.length s.toNat (t, t)).1 (bnd (mnl ls) (mxl ls) ls.length s.toNat (t, t)).2, []⟩
noncomputable def kXb : PC := ins 28 (famX ExS fun rows ls => ⟨exA rows ls, []⟩) (ins 59 (famXII (fun rows ls _ _ => ExS rows ls) r59) (ins 60 (famXII BdOk r60) kX5))
theorem kXb_ok : PCOK Tryz.prog kXb := famA_ok (fun q h => d28f h) (famA_ok (fun q h => d59 h) (famA_ok (fun q h => d60 h) kX5_ok))
set_option maxRecDepth 100000 in
set_option maxHeartbeats 8000000 in
theorem d10 (rows : List (List Int)) (ls e : List Int) (t s : Int) : PCall Tryz.prog 10 [exA rows ls, .isl 1 (nl e), P2 t s] ⟨Bo true, []⟩ := by
  have g1 := cPat_hit rows ls e
  by_cases hP : patB rows ls e = true
  rotate_left
  · have hP : patB rows ls e = false := by simpa using hP
    rw [hP] at g1
    refine bs.pv (sx := nos) kXb_ok Tryz.func10 (by kernel_rfl) (by kernel_rfl) rfl ?_
    repeat' (first | refine wk3 ?_ | (refine wk2 ?_ ?_ <;> intro _) | refine wk4 ?_ | fail); all_goals (conv => whnf)
    all_goals exact ret_bool rfl
  have hs := pat_s hP
  rw [hP] at g1
  by_cases hs20 : 20 < s ∧ s ≤ 1000
  · refine bs.pv (sx := nos) kXb_ok Tryz.func10 (by kernel_rfl) (by kernel_rfl) rfl ?_
    repeat' (first | refine wk3 ?_ | (refine wk2 ?_ ?_ <;> intro _) | refine wk4 ?_ | fail); all_goals (conv => whnf)
    all_goals exact ret_bool rfl
  have c1 := famX_hit (p := ExS) rExV hs.1
  have c2 := famX_hit (p := ExS) (fun rows ls => ⟨exA rows ls, []⟩) hs.1
  have c3 := cints_hit (ns := e) hs.2
  have c4 := famXII_hit (p := fun rows ls _ _ => ExS rows ls) r59 (m := t) (n := s) hs.1
  unfold rExV at c1; unfold r59 at c4
  by_cases z : (exV rows ls).2 = 0
  rotate_left
  · have e1 : bdE rows ls t s = (exV rows ls).2 := by unfold bdE; rw [if_pos z]
    have e2 : bdV rows ls t s = (0, 0) := by unfold bdV; rw [e1, if_pos z]
    rw [e1, e2] at c4
    generalize exV rows ls = X at *
    refine bs.pv (sx := nos) kXb_ok Tryz.func10 (by kernel_rfl) (by kernel_rfl) rfl ?_
    repeat' (first | refine wk3 ?_ | (refine wk2 ?_ ?_ <;> intro _) | refine wk4 ?_ | fail); all_goals (conv => whnf)
    all_goals first
      | exact ret_bool rfl
      | (refine ret_bool ?_; simp_all; done)
      | (exfalso; simp_all; done)
      | (exfalso; simp_all; omega)
  have e0 : bdE rows ls t s = if within t 0 12000000000000 then unl (within s 0 1000) 2 else 2 := by unfold bdE; rw [if_neg (fun c => c z)]
  rw [z] at c1
  by_cases y : within t 0 12000000000000 = true
  rotate_left
  · have y : within t 0 12000000000000 = false := by simpa using y
    have e1 : bdE rows ls t s = 2 := by rw [e0, y]; rfl
    have e2 : bdV rows ls t s = (0, 0) := by unfold bdV; rw [e1, if_pos (by omega)]
    rw [e1, e2] at c4
    clear e0 z
    refine bs.pv (sx := nos) kXb_ok Tryz.func10 (by kernel_rfl) (by kernel_rfl) rfl ?_
    repeat' (first | refine wk3 ?_ | (refine wk2 ?_ ?_ <;> intro _) | refine wk4 ?_ | fail); all_goals (conv => whnf)
    all_goals first
      | exact ret_bool rfl
      | (refine ret_bool ?_; simp_all; done)
      | (exfalso; simp_all; done)
      | (exfalso; simp_all; omega)
  have e0 : bdE rows ls t s = unl (within s 0 1000) 2 := by rw [e0, y]; rfl
  by_cases x : within s 0 1000 = true
  rotate_left
  · have x : within s 0 1000 = false := by simpa using x
    have u2 : unl (within s 0 1000) 2 = 2 := by rw [x]; rfl
    have e1 : bdE rows ls t s = 2 := by rw [e0, u2]
    have e2 : bdV rows ls t s = (0, 0) := by unfold bdV; rw [e1, if_pos (by omega)]
    rw [e1, e2] at c4
    clear e0 z
    refine bs.pv (sx := nos) kXb_ok Tryz.func10 (by kernel_rfl) (by kernel_rfl) rfl ?_
    repeat' (first | refine wk3 ?_ | (refine wk2 ?_ ?_ <;> intro _) | refine wk4 ?_ | fail); all_goals (conv => whnf)
    all_goals first
      | exact ret_bool rfl
      | (refine ret_bool ?_; simp_all; done)
      | (exfalso; simp_all; done)
      | (exfalso; simp_all; omega)
  have u2 : unl (within s 0 1000) 2 = 0 := by rw [x]; rfl
  have e1 : bdE rows ls t s = 0 := by rw [e0, u2]
  have e2 : bdV rows ls t s = bnd (mnl ls) (mxl ls) ls.length s.toNat (t, t) := by unfold bdV; rw [e1, if_neg (fun c => c rfl)]
  have ht := within_iff.1 y
  have hs2 := within_iff.1 x
  obtain ⟨hx, hn⟩ := exV_zero z
  have c5 := famXII_hit (p := BdOk) r60 (rows := rows) (ls := ls) (m := t) (n := s) ⟨hx, hn, ht, hs2⟩
  have c6 := famXE_hit (p := EnL) (fun rows _ e => ⟨I (enE rows.length e), []⟩) (rows := rows) (ls := ls) (e := e) ⟨hs.1.r, by have := hs.2; omega⟩
  unfold r60 at c5
  rw [e1, e2] at c4
  by_cases w : enE rows.length e = 0
  rotate_left
  · generalize bnd (mnl ls) (mxl ls) ls.length s.toNat (t, t) = B at *
    clear e0 e2
    refine bs.pv (sx := nos) kXb_ok Tryz.func10 (by kernel_rfl) (by kernel_rfl) rfl ?_
    repeat' (first | refine wk3 ?_ | (refine wk2 ?_ ?_ <;> intro _) | refine wk4 ?_ | fail); all_goals (conv => whnf)
    all_goals first
      | exact ret_bool rfl
      | (refine ret_bool ?_; simp_all; done)
      | (exfalso; simp_all; done)
      | (exfalso; simp_all; omega)
  rw [w] at c6
  have how : owE rows ls e = 0 := by unfold owE; rw [if_neg (fun c => c z)]; exact w
  have hst := owE_of how
  obtain ⟨el, eb⟩ := enE_zero w
  have tb := tot_bd eb
  have tt : 0 ≤ tot e ∧ tot e ≤ 12000000000000 := ⟨tb.1, by omega⟩
  have y' := within_iff.2 tt
  have e0' : bdE rows ls (tot e) s = 0 := by unfold bdE; rw [if_neg (fun c => c z), y', if_pos rfl, u2]
  have e2' : bdV rows ls (tot e) s = bnd (mnl ls) (mxl ls) ls.length s.toNat (tot e, tot e) := by unfold bdV; rw [e0', if_neg (fun c => c rfl)]
  have c7 := famXII_hit (p := fun rows ls _ _ => ExS rows ls) r59 (m := tot e) (n := s) hs.1
  have c8 := famXEI_hit (p := fun rows ls e _ => ExL rows ls e) rRun (n := s) hs
  unfold r59 at c7; unfold rRun at c8
  rw [e0', e2'] at c7
  obtain ⟨y1, y2⟩ := runV_ok how hs2
  rw [y1, y2] at c8
  have hE := ends_ok (ls := ls) (by rw [hx.ll]; exact hx.pos) hx.lost
  have hb := bnd_ok hx hE.lo hE.le hE.hi hE.all s.toNat (e := e) (r := (tot e, tot e)) hst.l hst.nn (Int.le_refl _) (Int.le_refl _) tt.1
  rw [← hx.ll] at hb
  have hr := hst.run s.toNat
  have k1 := cSum_hit (ns := e) (by have := hst.len; omega)
  rw [hst.sum] at k1
  have k2 := cSum_hit (by have := hr.len; omega : (En.run rows ls s.toNat e).1.length < 1000000)
  rw [hr.sum] at k2
  have hw : within (tot (En.run rows ls s.toNat e).1) (bnd (mnl ls) (mxl ls) ls.length s.toNat (tot e, tot e)).1 (bnd (mnl ls) (mxl ls) ls.length s.toNat (tot e, tot e)).2 = true := within_iff.2 hb
  clear hb hr hE y1 y2 e0' e2' e0 e2 tb tt y'
  generalize bnd (mnl ls) (mxl ls) ls.length s.toNat (t, t) = B at *
  generalize bnd (mnl ls) (mxl ls) ls.length s.toNat (tot e, tot e) = C at *
  generalize En.run rows ls s.toNat e = Z at *
  refine bs.pv (sx := nos) kXb_ok Tryz.func10 (by kernel_rfl) (by kernel_rfl) rfl ?_
  repeat' (first | refine wk3 ?_ | (refine wk2 ?_ ?_ <;> intro _) | refine wk4 ?_ | fail); all_goals (conv => whnf)
  all_goals first
    | exact ret_bool rfl
    | (refine ret_bool hw.symm)
    | (refine ret_bool ?_; simp_all; done)
    | (exfalso; simp_all; done)
    | (exfalso; simp_all; omega)
end Go.Proofs.YtddhjopopelkjaaGreat
