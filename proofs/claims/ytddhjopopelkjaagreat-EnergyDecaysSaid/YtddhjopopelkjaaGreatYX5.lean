/- A part of the proof: lemmas. -/
import Derived.Test.YtddhjopopelkjaaGreatYX4
set_option linter.unusedVariables false
set_option linter.unusedSimpArgs false
namespace Go.Proofs.YtddhjopopelkjaaGreat
open Go Go.Sx Go.En
/-! ### Tables over exchanges -/
noncomputable abbrev famX (p : List (List Int) → List Int → Prop) (r : List (List Int) → List Int → PRes) : List AV → Option PRes := famA (fun q : List (List Int) × List Int => p q.1 q.2) (fun q => [exA q.1 q.2]) (fun q => r q.1 q.2)
theorem exA_inj {a c : List (List Int)} {b d : List Int} (h : exA a b = exA c d) : a = c ∧ b = d := by
  simp only [exA, AV.agg.injEq, List.cons.injEq, AV.isl.injEq, true_and, and_true] at h
  exact ⟨rv_inj h.1, nl_inj h.2⟩
theorem famX_hit {p : List (List Int) → List Int → Prop} (r : List (List Int) → List Int → PRes) {rows : List (List Int)} {ls : List Int} (h : p rows ls) : famX p r [exA rows ls] = some (r rows ls) :=
  famA_hit (p := fun q : List (List Int) × List Int => p q.1 q.2) (g := fun q => [exA q.1 q.2]) (r := fun q => r q.1 q.2) (k := (rows, ls)) (fun j hj => by
    obtain ⟨h1, h2⟩ := exA_inj (List.cons.inj hj).1
    rw [h1, h2]) h
noncomputable abbrev famXE (p : List (List Int) → List Int → List Int → Prop) (r : List (List Int) → List Int → List Int → PRes) : List AV → Option PRes := famA (fun q : List (List Int) × List Int × List Int => p q.1 q.2.1 q.2.2) (fun q => [exA q.1 q.2.1, .isl 1 (nl q.2.2)]) (fun q => r q.1 q.2.1 q.2.2)
theorem famXE_hit {p : List (List Int) → List Int → List Int → Prop} (r : List (List Int) → List Int → List Int → PRes) {rows : List (List Int)} {ls e : List Int} (h : p rows ls e) : famXE p r [exA rows ls, .isl 1 (nl e)] = some (r rows ls e) :=
  famA_hit (p := fun q : List (List Int) × List Int × List Int => p q.1 q.2.1 q.2.2) (g := fun q => [exA q.1 q.2.1, .isl 1 (nl q.2.2)]) (r := fun q => r q.1 q.2.1 q.2.2) (k := (rows, ls, e)) (fun j hj => by
    obtain ⟨h1, h2⟩ := exA_inj (List.cons.inj hj).1
    have h3 := (List.cons.inj hj).2
    simp only [List.cons.injEq, AV.isl.injEq, true_and, and_true] at h3
    rw [h1, h2, nl_inj h3]) h
noncomputable abbrev famXEI (p : List (List Int) → List Int → List Int → Int → Prop) (r : List (List Int) → List Int → List Int → Int → PRes) : List AV → Option PRes := famA (fun q : List (List Int) × List Int × List Int × Int => p q.1 q.2.1 q.2.2.1 q.2.2.2) (fun q => [exA q.1 q.2.1, .isl 1 (nl q.2.2.1), I q.2.2.2]) (fun q => r q.1 q.2.1 q.2.2.1 q.2.2.2)
theorem famXEI_hit {p : List (List Int) → List Int → List Int → Int → Prop} (r : List (List Int) → List Int → List Int → Int → PRes) {rows : List (List Int)} {ls e : List Int} {n : Int} (h : p rows ls e n) : famXEI p r [exA rows ls, .isl 1 (nl e), I n] = some (r rows ls e n) :=
  famA_hit (p := fun q : List (List Int) × List Int × List Int × Int => p q.1 q.2.1 q.2.2.1 q.2.2.2) (g := fun q => [exA q.1 q.2.1, .isl 1 (nl q.2.2.1), I q.2.2.2]) (r := fun q => r q.1 q.2.1 q.2.2.1 q.2.2.2) (k := (rows, ls, e, n)) (fun j hj => by
    obtain ⟨h1, h2⟩ := exA_inj (List.cons.inj hj).1
    have h3 := (List.cons.inj hj).2
    simp only [List.cons.injEq, AV.isl.injEq, AV.int.injEq, true_and, and_true] at h3
    rw [h1, h2, nl_inj h3.1, h3.2]) h
noncomputable abbrev famXII (p : List (List Int) → List Int → Int → Int → Prop) (r : List (List Int) → List Int → Int → Int → PRes) : List AV → Option PRes := famA (fun q : List (List Int) × List Int × Int × Int => p q.1 q.2.1 q.2.2.1 q.2.2.2) (fun q => [exA q.1 q.2.1, I q.2.2.1, I q.2.2.2]) (fun q => r q.1 q.2.1 q.2.2.1 q.2.2.2)
theorem famXII_hit {p : List (List Int) → List Int → Int → Int → Prop} (r : List (List Int) → List Int → Int → Int → PRes) {rows : List (List Int)} {ls : List Int} {m n : Int} (h : p rows ls m n) : famXII p r [exA rows ls, I m, I n] = some (r rows ls m n) :=
  famA_hit (p := fun q : List (List Int) × List Int × Int × Int => p q.1 q.2.1 q.2.2.1 q.2.2.2) (g := fun q => [exA q.1 q.2.1, I q.2.2.1, I q.2.2.2]) (r := fun q => r q.1 q.2.1 q.2.2.1 q.2.2.2) (k := (rows, ls, m, n)) (fun j hj => by
    obtain ⟨h1, h2⟩ := exA_inj (List.cons.inj hj).1
    have h3 := (List.cons.inj hj).2
    simp only [List.cons.injEq, AV.int.injEq, true_and, and_true] at h3
    rw [h1, h2, h3.1, h3.2]) h
/-! ### Copies -/
theorem oneEls_rv (rows : List (List Int)) : oneEls (rows.map rv) = true := by simp [oneEls, AV.one]
abbrev rExV (rows : List (List Int)) (ls : List Int) : PRes := ⟨.tup [I (exV rows ls).1, I (exV rows ls).2], []⟩
/-- The error of an exchange with energies. -/
def owE (rows : List (List Int)) (ls e : List Int) : Int := if (exV rows ls).2 ≠ 0 then (exV rows ls).2 else enE rows.length e
noncomputable def kX3 : PC := ins 27 (famX ExS rExV) (ins 32 (famX ExS rExV) (ins 105 (cBad 175 [] 0 1000000000000) (ins 30 cints kX1)))
theorem kX3_ok : PCOK Tryz.prog kX3 := famA_ok (fun q h => d27 h) (famA_ok (fun q h => d32 h) (famA_ok (fun l h => d105_175 h) (famA_ok (fun ns h => c25f ns h) kX1_ok)))
theorem d115 {rows : List (List Int)} {ls : List Int} (h : ExS rows ls) : PCall Tryz.prog 115 [exA rows ls] ⟨.tup [exA rows ls, I (exV rows ls).2], []⟩ := by
  have g1 := famX_hit (p := ExS) rExV h
  unfold rExV at g1
  refine bs.pv (sx := nos) kX3_ok Tryz.func115 (by kernel_rfl) (by kernel_rfl) rfl ?_
  repeat' (first | refine wk3 ?_ | (refine wk2 ?_ ?_ <;> intro _) | refine wk4 ?_ | fail); all_goals (conv => whnf)
  exact ret_of rfl rfl
abbrev ExL (rows : List (List Int)) (ls e : List Int) : Prop := ExS rows ls ∧ e.length < 100000
set_option maxHeartbeats 4000000 in
theorem d111 {rows : List (List Int)} {ls e : List Int} (h : ExL rows ls e) : PCall Tryz.prog 111 [exA rows ls, .isl 1 (nl e)] ⟨.tup [exA rows ls, I (owE rows ls e)], []⟩ := by
  obtain ⟨h, hl⟩ := h
  have hk := one_ok (d115 h) kX3_ok
  have l1 := rv_length rows
  have l2 := nl_length e
  have g1 := cBad_hit (f := 175) (φ := []) (lo := 0) (hi := 1000000000000) (ns := e) (by omega)
  have hw : (e.all fun x => decide (0 ≤ x) && decide (x ≤ 1000000000000)) = e.all fun n => within n 0 1000000000000 := rfl
  unfold owE enE
  rw [hw]
  by_cases z : (exV rows ls).2 = 0
  · rw [if_neg (fun c => c z)]
    rw [z] at hk
    by_cases z2 : e.length = rows.length
    · rw [if_pos z2]
      generalize (e.all fun n => within n 0 1000000000000) = b at *
      cases b
      all_goals
        refine bs.pv (sx := nos) hk Tryz.func111 (by kernel_rfl) (by kernel_rfl) rfl ?_
        repeat' (first | refine wk3 ?_ | (refine wk2 ?_ ?_ <;> intro _) | refine wk4 ?_ | fail); all_goals (conv => whnf)
        exact ret_of rfl rfl
    · rw [if_neg z2]
      refine bs.pv (sx := nos) hk Tryz.func111 (by kernel_rfl) (by kernel_rfl) rfl ?_
      repeat' (first | refine wk3 ?_ | (refine wk2 ?_ ?_ <;> intro _) | refine wk4 ?_ | fail); all_goals (conv => whnf)
      exact ret_of rfl rfl
  · rw [if_pos z]
    refine bs.pv (sx := nos) hk Tryz.func111 (by kernel_rfl) (by kernel_rfl) rfl ?_
    repeat' (first | refine wk3 ?_ | (refine wk2 ?_ ?_ <;> intro _) | refine wk4 ?_ | fail); all_goals (conv => whnf)
    exact ret_of rfl rfl
end Go.Proofs.YtddhjopopelkjaaGreat
