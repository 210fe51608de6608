/- A part of the proof: lemmas. -/
import Derived.Test.YtddhjopopelkjaaGreatYF4
set_option linter.unusedVariables false
set_option linter.unusedSimpArgs false
namespace Go.Proofs.YtddhjopopelkjaaGreat
open Go Go.Sx Go.En
theorem nn_bd {e : List Int} (hn : Nn e) (ht : tot e ≤ 13000000000000) : ∀ x ∈ e, 0 ≤ x ∧ x ≤ 13000000000000 := fun x hx => ⟨hn x hx, by have := le_tot hn x hx; omega⟩
theorem StH.sum {rows : List (List Int)} {ls e : List Int} (h : StH rows ls e) : sumW 0 e = tot e := by
  have := h.l
  have := h.n
  rw [sumW_eq (M := 13000000000000) (nn_bd h.nn h.t) (by omega) (by omega), Int.zero_add]
theorem StH.len {rows : List (List Int)} {ls e : List Int} (h : StH rows ls e) : e.length < 100000 := by
  have := h.l
  have := h.n
  omega
theorem enE_lim {n : Nat} {e : List Int} (hl : e.length = n) (hz : ¬ enE n e = 0) : enE n e = 2 := by
  unfold enE at *
  rw [if_pos hl] at *
  split at hz
  · exact absurd rfl hz
  · rename_i h; rw [if_neg h]
theorem cSum_hit {ns : List Int} (h : ns.length < 1000000) : cSum [.isl 1 (nl ns)] = some ⟨I (sumW 0 ns), []⟩ := famN_hit (p := Len6) (fun ns => ⟨I (sumW 0 ns), []⟩) h
set_option maxRecDepth 100000 in
set_option maxHeartbeats 8000000 in
theorem d5 (rows : List (List Int)) (ls e : List Int) (a b : Int) : PCall Tryz.prog 5 [exA rows ls, .isl 1 (nl e), P2 a b] ⟨Bo true, []⟩ := by
  have g1 := cPat_hit rows ls e
  by_cases hP : patB rows ls e = true
  rotate_left
  · have hP : patB rows ls e = false := by simpa using hP
    rw [hP] at g1
    refine bs.pv (sx := nos) kX6_ok Tryz.func5 (by kernel_rfl) (by kernel_rfl) rfl ?_
    repeat' (first | refine wk3 ?_ | (refine wk2 ?_ ?_ <;> intro _) | refine wk4 ?_ | fail); all_goals (conv => whnf)
    all_goals exact ret_bool rfl
  have hs := pat_s hP
  rw [hP] at g1
  clear hP
  have c6 := famXE_hit (p := ExL) (fun rows ls e => ⟨I (owE rows ls e), []⟩) hs
  by_cases hab : (within a 0 20 && within b 0 20) = true
  rotate_left
  · have hab : ¬ (within a 0 20 = true ∧ within b 0 20 = true) := by rwa [Bool.and_eq_true] at hab
    refine bs.pv (sx := nos) kX6_ok Tryz.func5 (by kernel_rfl) (by kernel_rfl) rfl ?_
    repeat' (first | refine wk3 ?_ | (refine wk2 ?_ ?_ <;> intro _) | refine wk4 ?_ | fail); all_goals (conv => whnf)
    all_goals first
      | exact ret_bool rfl
      | (exfalso; simp_all; done)
  rw [Bool.and_eq_true] at hab
  obtain ⟨ha, hb⟩ := hab
  have ha0 := within_iff.1 ha
  have hb0 := within_iff.1 hb
  by_cases z : owE rows ls e = 0
  rotate_left
  · refine bs.pv (sx := nos) kX6_ok Tryz.func5 (by kernel_rfl) (by kernel_rfl) rfl ?_
    repeat' (first | refine wk3 ?_ | (refine wk2 ?_ ?_ <;> intro _) | refine wk4 ?_ | fail); all_goals (conv => whnf)
    all_goals first
      | exact ret_bool rfl
      | (exfalso; simp_all; done)
  have hst := owE_of z
  have wab : IntKind.i64.wrap (a + b) = a + b := W_eq (by omega) (by omega)
  have c2 := famX_hit (p := ExS) (fun rows ls => ⟨exA rows ls, []⟩) hs.1
  have c3 := cints_hit (ns := e) hs.2
  have c4 := famXEI_hit (p := fun rows ls e _ => ExL rows ls e) rRun (n := a) hs
  have c5 := famXEI_hit (p := fun rows ls e _ => ExL rows ls e) rRun (n := IntKind.i64.wrap (a + b)) hs
  unfold rRun at c4 c5
  obtain ⟨y1, y2⟩ := runV_ok z (t := a) ⟨by omega, by omega⟩
  obtain ⟨y3, y4⟩ := runV_ok z (t := IntKind.i64.wrap (a + b)) ⟨by omega, by omega⟩
  rw [y1, y2] at c4
  have y3 : runV rows ls e (IntKind.i64.wrap (a + b)) = En.run rows ls (a.toNat + b.toNat) e := by rw [y3, wab, show (a + b).toNat = a.toNat + b.toNat by omega]
  rw [y3, y4] at c5
  have hA := hst.run a.toNat
  have hC := hst.run (a.toNat + b.toNat)
  have hB := hA.run b.toNat
  have tA := run_ok hst.x a.toNat hst.l hst.nn
  have tC := run_ok hst.x (a.toNat + b.toNat) hst.l hst.nn
  have hadd := run_add (rows := rows) (ls := ls) a.toNat b.toNat e
  have sA := hA.sum
  have sC := hC.sum
  have sE := hst.sum
  have bA := hst.all a.toNat
  have bC := hst.all (a.toNat + b.toNat)
  have k1 := cSum_hit (ns := e) (by have := hst.len; omega)
  have k2 := cSum_hit (by have := hA.len; omega : (En.run rows ls a.toNat e).1.length < 1000000)
  have k3 := cSum_hit (by have := hC.len; omega : (En.run rows ls (a.toNat + b.toNat) e).1.length < 1000000)
  rw [sE] at k1
  rw [sA] at k2
  rw [sC] at k3
  have lE := hst.l
  have lA := hA.l
  have lC := hC.l
  have c7 := cints_hit hA.len
  have hsA : ExL rows ls (En.run rows ls a.toNat e).1 := ⟨hs.1, hA.len⟩
  have c8 := famXEI_hit (p := fun rows ls e _ => ExL rows ls e) rRun (n := b) hsA
  have c9 := famXE_hit (p := EnL) (fun rows _ e => ⟨I (enE rows.length e), []⟩) (rows := rows) (ls := ls) (e := (En.run rows ls a.toNat e).1) ⟨by have := hs.1.r; omega, by have := hA.len; omega⟩
  have i2 := ints_hit (by have := hC.len; omega : (En.run rows ls (a.toNat + b.toNat) e).1.length < 1000000) (by have := hC.len; omega : (En.run rows ls (a.toNat + b.toNat) e).1.length < 1000000)
  rw [eqN_self] at i2
  unfold rRun at c8
  have l1 := nl_length e
  have l2 := nl_length (En.run rows ls a.toNat e).1
  have l3 := nl_length (En.run rows ls (a.toNat + b.toNat) e).1
  have tE := hst.t
  have w1 : IntKind.i64.wrap (tot (En.run rows ls a.toNat e).1 + (En.run rows ls a.toNat e).2) = tot e := by rw [tA.2.2.2]; exact W_eq (by have := tot_nn hst.nn; omega) (by omega)
  have w2 : IntKind.i64.wrap (tot (En.run rows ls (a.toNat + b.toNat) e).1 + (En.run rows ls (a.toNat + b.toNat) e).2) = tot e := by rw [tC.2.2.2]; exact W_eq (by have := tot_nn hst.nn; omega) (by omega)
  by_cases q : enE rows.length (En.run rows ls a.toNat e).1 = 0
  rotate_left
  · have q2 := enE_lim lA q
    have oA : owE rows ls (En.run rows ls a.toNat e).1 = 2 := by
      unfold owE at z ⊢
      by_cases zz : (exV rows ls).2 = 0
      · rw [if_neg (fun c => c zz)]; exact q2
      · rw [if_pos zz] at z; exact absurd z zz
    rw [runE_bad (by omega), oA, runV_bad (by omega)] at c8
    rw [q2] at c9
    generalize En.run rows ls a.toNat e = A at *
    generalize En.run rows ls (a.toNat + b.toNat) e = C at *
    clear hst hA hC hB tA tC hadd y1 y2 y3 y4 hsA q q2 oA z
    refine bs.pv (sx := nos) kX6_ok Tryz.func5 (by kernel_rfl) (by kernel_rfl) rfl ?_
    repeat' (first | refine wk3 ?_ | (refine wk2 ?_ ?_ <;> intro _) | refine wk4 ?_ | fail); all_goals (conv => whnf)
    all_goals first
      | exact ret_bool rfl
      | (refine ret_bool ?_; simp_all; done)
      | (exfalso; simp_all; done)
      | (exfalso; simp_all; omega)
  · have oA : owE rows ls (En.run rows ls a.toNat e).1 = 0 := by
      unfold owE at z ⊢
      by_cases zz : (exV rows ls).2 = 0
      · rw [if_neg (fun c => c zz)]; exact q
      · rw [if_pos zz] at z; exact absurd z zz
    obtain ⟨y5, y6⟩ := runV_ok oA (t := b) ⟨by omega, by omega⟩
    rw [y5, y6] at c8
    rw [q] at c9
    have bB := hA.all b.toNat
    have e1 : (En.run rows ls b.toNat (En.run rows ls a.toNat e).1).1 = (En.run rows ls (a.toNat + b.toNat) e).1 := by rw [hadd]
    have e2 : (En.run rows ls a.toNat e).2 + (En.run rows ls b.toNat (En.run rows ls a.toNat e).1).2 = (En.run rows ls (a.toNat + b.toNat) e).2 := by rw [hadd]
    rw [e1] at c8
    generalize En.run rows ls b.toNat (En.run rows ls a.toNat e).1 = B at *
    generalize En.run rows ls a.toNat e = A at *
    generalize En.run rows ls (a.toNat + b.toNat) e = C at *
    have w3 : IntKind.i64.wrap (A.2 + B.2) = C.2 := by rw [e2]; exact W_eq (by omega) (by omega)
    clear hst hA hC hB tA tC hadd y1 y2 y3 y4 hsA q oA z y5 y6 e1 e2
    refine bs.pv (sx := nos) kX6_ok Tryz.func5 (by kernel_rfl) (by kernel_rfl) rfl ?_
    repeat' (first | refine wk3 ?_ | (refine wk2 ?_ ?_ <;> intro _) | refine wk4 ?_ | fail); all_goals (conv => whnf)
    all_goals first
      | exact ret_bool rfl
      | (refine ret_bool ?_; simp_all; done)
      | (exfalso; simp_all; done)
      | (exfalso; simp_all; omega)
end Go.Proofs.YtddhjopopelkjaaGreat
