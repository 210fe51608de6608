/- A part of the proof: lemmas. -/
import Derived.Test.YtdaliaafmcjikaaGreatZw10
set_option linter.unusedVariables false
set_option linter.unusedSimpArgs false
namespace Go.Proofs.YtdaliaafmcjikaaGreat
open Go Go.Sx

/-! ### Lists of numbers -/
def eqN : List Int → List Int → Bool
  | [], [] => true
  | x :: a, y :: b => decide (x = y) && eqN a b
  | _, _ => false
theorem eqN_iff : ∀ {a b : List Int}, eqN a b = true ↔ a = b
  | [], [] => by simp [eqN]
  | x :: a, y :: b => by rw [eqN, Bool.and_eq_true, decide_eq_true_eq, eqN_iff]; simp
  | [], y :: b => by simp [eqN]
  | x :: a, [] => by simp [eqN]
theorem eqN_len {a b : List Int} (h : a.length ≠ b.length) : eqN a b = false := by
  rw [Bool.eq_false_iff, ne_eq, eqN_iff]
  intro e; exact h (by rw [e])
set_option maxRecDepth 100000 in
set_option maxHeartbeats 4000000 in
theorem c69 {a b : List Int} (hl : a.length < 1000000) (hb : b.length < 1000000) : PCall Tryz.prog 58 [.isl 1 (nl a), .isl 1 (nl b)] ⟨Bo (eqN a b), []⟩ := by
  have l1 := nl_length a
  have l2 := nl_length b
  refine bs.pv (sx := nos) pt0_ok Tryz.func58 (by kernel_rfl) (by kernel_rfl) rfl ?_
  by_cases hlen : a.length = b.length
  · repeat' (first | refine wk1 ?_ | (refine wk2 ?_ ?_ <;> intro _) | refine wk4 ?_ | fail); all_goals (conv => whnf)
    refine loopV (S := Nat × Int) (fun t => a.length - t.1) (fun t => [(0, .isl 1 (nl a)), (1, .isl 1 (nl b)), (5, I t.2)]) (fun _ => []) 0 0 (fun t => t.2 = t.1 ∧ t.1 ≤ a.length ∧ eqN (a.drop t.1) (b.drop t.1) = eqN a b) (0, 0) ⟨rfl, Nat.zero_le _, rfl⟩ (Nat.le_refl _) [] rfl (kps) (kps) ?_
    rintro ⟨k, i⟩ ⟨hi, hk, hh⟩
    dsimp only at hi hk hh ⊢
    subst hi
    refine bs.av (sx := nos) pt0_ok ?_
    by_cases hlt : k < a.length
    · have e1 := nl_get hlt
      have e2 := nl_get (ns := b) (k := k) (by omega)
      rw [List.drop_eq_getElem_cons hlt, List.drop_eq_getElem_cons (show k < b.length by omega), eqN] at hh
      by_cases he : a[k] = b[k]'(by omega)
      · rw [decide_eq_true he, Bool.true_and] at hh
        repeat' (first | refine wk1 ?_ | (refine wk2 ?_ ?_ <;> intro _) | refine wk4 ?_ | fail); all_goals (conv => whnf)
        exact Done.mk ⟨(k + 1, _), [], rfl, kps, kps, ⟨W_succ (by omega), hlt, hh⟩, by dsimp only; omega⟩
      · rw [decide_eq_false he, Bool.false_and] at hh
        rw [← hh]
        repeat' (first | refine wk1 ?_ | (refine wk2 ?_ ?_ <;> intro _) | refine wk4 ?_ | fail); all_goals (conv => whnf)
        exact ret_bool rfl
    · rw [List.drop_of_length_le (by omega), List.drop_of_length_le (by omega)] at hh
      rw [← hh]
      repeat' (first | refine wk1 ?_ | (refine wk2 ?_ ?_ <;> intro _) | refine wk4 ?_ | fail); all_goals (conv => whnf)
      exact ret_bool rfl
  · rw [eqN_len hlen]
    repeat' (first | refine wk1 ?_ | (refine wk2 ?_ ?_ <;> intro _) | refine wk4 ?_ | fail); all_goals (conv => whnf)
    exact ret_bool rfl
/-! ### Lists that grow now and then -/
theorem nl_append (a b : List Int) : nl (a ++ b) = nl a ++ nl b := by simp [nl]
/-- How a list that has grown is handed back. -/
def lstR (L : List Int) (f : AV → AV) : PRes := match L with
  | [] => ⟨f .nils, []⟩
  | _ => ⟨f (.asl 0 0 (nl L).length), [(1, nl L)]⟩

noncomputable abbrev intsT : List AV → Option PRes := famA (fun p : List Int × List Int => p.1.length < 1000000 ∧ p.2.length < 1000000) (fun p => [.isl 1 (nl p.1), .isl 1 (nl p.2)]) (fun p => ⟨Bo (eqN p.1 p.2), []⟩)
theorem ints_hit {a b : List Int} (ha : a.length < 1000000) (hb : b.length < 1000000) : intsT [.isl 1 (nl a), .isl 1 (nl b)] = some ⟨Bo (eqN a b), []⟩ :=
  famA_hit (p := fun p : List Int × List Int => p.1.length < 1000000 ∧ p.2.length < 1000000) (g := fun p => [.isl 1 (nl p.1), .isl 1 (nl p.2)]) (r := fun p => ⟨Bo (eqN p.1 p.2), []⟩) (k := (a, b)) (fun j hj => by
    simp only [List.cons.injEq, AV.isl.injEq, true_and, and_true] at hj
    rw [nl_inj hj.1, nl_inj hj.2]) ⟨ha, hb⟩
theorem intsT_ok {pt : PC} (h : PCOK Tryz.prog pt) : PCOK Tryz.prog (ins 58 intsT pt) := famA_ok (fun p hp => c69 hp.1 hp.2) h
end Go.Proofs.YtdaliaafmcjikaaGreat
