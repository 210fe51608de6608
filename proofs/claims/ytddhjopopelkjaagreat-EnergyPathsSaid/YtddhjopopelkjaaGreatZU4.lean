/- A part of the proof: lemmas. -/
import Derived.Test.YtddhjopopelkjaaGreatZU3
set_option linter.unusedVariables false
set_option linter.unusedSimpArgs false
namespace Go.Proofs.YtddhjopopelkjaaGreat
open Go Go.Sx
noncomputable abbrev cHas (h : Hal) : List AV → Option PRes := famA (fun _ : Int => True) (fun i => [h.av, I i]) (fun i => ⟨Bo (within i 0 (nsur h - 1)), []⟩)
noncomputable abbrev cArR (h : Hal) : List AV → Option PRes := famA (fun i : Nat => i < nsN h) (fun i => [h.av, I (i : Int)]) (fun i => ⟨.agg [I (areaV h i).1, I (areaV h i).2], []⟩)
noncomputable abbrev cKd (h : Hal) : List AV → Option PRes := famA (fun i : Nat => i < nsN h) (fun i => [h.av, I (i : Int)]) (fun i => ⟨.tup [I (kindV h i).1, I (kindV h i).2], []⟩)
theorem has_hit (h : Hal) (i : Int) : cHas h [h.av, I i] = some ⟨Bo (within i 0 (nsur h - 1)), []⟩ :=
  famA_hit (p := fun _ : Int => True) (g := fun i => [h.av, I i]) (r := fun i => ⟨Bo (within i 0 (nsur h - 1)), []⟩) (fun j hj => by
    simp only [List.cons.injEq, AV.int.injEq, true_and, and_true] at hj
    rw [hj]) trivial
theorem nat_hit {h : Hal} (r : Nat → PRes) {i : Nat} (hi : i < nsN h) : famA (fun i : Nat => i < nsN h) (fun i => [h.av, I (i : Int)]) r [h.av, I (i : Int)] = some (r i) :=
  famA_hit (p := fun i : Nat => i < nsN h) (g := fun i => [h.av, I (i : Int)]) (r := r) (k := i) (fun j hj => by
    simp only [List.cons.injEq, AV.int.injEq, true_and, and_true] at hj
    have : j = i := by omega
    rw [this]) hi
noncomputable def kU4 (h : Hal) : PC := ins 139 (cHas h) (ins 140 (cArR h) (ins 141 (cKd h) pt0))
theorem sk_n {h : Hal} {i : Nat} (hi : i < nsN h) : SK h (i : Int) := sk_of (by omega) (by have := nsN_eq h; omega)
theorem kU4_ok {h : Hal} {s : Stg} (g : Sit h s) : PCOK Tryz.prog (kU4 h) :=
  famA_ok (fun i _ => c88 g.ok.f i) (famA_ok (fun i hi => c58 g (sk_n hi)) (famA_ok (fun i hi => c89 g.ok.f (sk_n hi)) pt0_ok))
set_option maxRecDepth 100000 in
set_option maxHeartbeats 8000000 in
theorem d65 {h : Hal} {s : Stg} (g : Sit h s) : PCall Tryz.prog 65 [h.av] ⟨P2 (srV h).1 (srV h).2, []⟩ := by
  have hk := kU4_ok g
  have hn := nsN_eq h
  obtain ⟨f1, f2, f3, f4, f5, f6⟩ := g.ok.f
  have hnn : nsN h < 10000 := by unfold nsN; omega
  refine bs.pv (sx := nos) hk Tryz.func65 (by kernel_rfl) (by kernel_rfl) rfl ?_
  repeat' (first | refine wk3 ?_ | (refine wk2 ?_ ?_ <;> intro _) | refine wk4 ?_ | fail); all_goals (conv => whnf)
  refine loopV (S := Nat × Int × Int × Int) (fun t => nsN h - t.1) (fun t => [(1, .ptr 0 0 0), (2, .ptr 1 0 0), (3, .ptr 2 0 0), (4, I t.2.1)]) (fun t => [(2, .row 2 [[I t.2.2.1, I t.2.2.2]] true false), (1, .row 2 [[I 0, I 0]] true false), (0, .row 9 [h.cells] true false)]) 3 3 (fun t => t.2.1 = t.1 ∧ t.1 ≤ nsN h ∧ srG h (fun i => areaV h i) t.1 (nsN h - t.1) t.2.2 = srV h) (0, 0, 0, 0) ⟨rfl, Nat.zero_le _, rfl⟩ (Nat.le_refl _) [] rfl (kps) (kps) ?_
  rintro ⟨k, i, lo, hi'⟩ ⟨hi, hk2, hh⟩
  dsimp only at hi hk2 hh ⊢
  subst hi
  generalize srV h = R at *
  refine bs.av (sx := nos) hk ?_
  have g1 := has_hit h k
  by_cases hlt : k < nsN h
  · rw [show within (k : Int) 0 (nsur h - 1) = true from within_iff.2 ⟨by omega, by omega⟩] at g1
    have g2 := nat_hit (fun i => ⟨.agg [I (areaV h i).1, I (areaV h i).2], []⟩) hlt
    have g3 := nat_hit (fun i => ⟨.tup [I (kindV h i).1, I (kindV h i).2], []⟩) hlt
    have hs : sd h k = if (kindV h k).1 = 3 then 2 else 1 := by
      unfold nsN at hlt
      have hq : (kindV h k).1 = if k < h.ws.length then 0 else if k = h.ws.length then 1 else if k = h.ws.length + 1 then 2 else 3 := by
        unfold kindV
        by_cases c1 : k < h.ws.length
        · rw [if_pos c1, if_pos (show (k : Int) < h.ws.length by omega)]
        · rw [if_neg c1, if_neg (show ¬ (k : Int) < h.ws.length by omega)]
          by_cases c2 : k = h.ws.length
          · rw [if_pos c2, if_pos (show (k : Int) = h.ws.length by omega)]
          · rw [if_neg c2, if_neg (show ¬ (k : Int) = h.ws.length by omega)]
            by_cases c3 : k = h.ws.length + 1
            · rw [if_pos c3, if_pos (show (k : Int) = (h.ws.length : Int) + 1 by omega)]
            · rw [if_neg c3, if_neg (show ¬ (k : Int) = (h.ws.length : Int) + 1 by omega)]
      generalize (kindV h k).1 = q at *
      unfold sd
      repeat' split at hq
      all_goals
        subst hq
        split <;> first | rfl | (exfalso; omega)
    rw [show nsN h - k = (nsN h - (k + 1)) + 1 by omega, srG, hs] at hh
    generalize areaV h k = a at *
    generalize kindV h k = q at *
    by_cases c : q.1 = 3
    · rw [if_pos c, Int.mul_comm a.1, Int.mul_comm a.2] at hh
      repeat' (first | refine wk3 ?_ | (refine wk2 ?_ ?_ <;> intro _) | refine wk4 ?_ | fail); all_goals (conv => whnf)
      exact Done.mk ⟨(k + 1, _, _, _), [], rfl, kps, kps, ⟨W_succ (by omega), hlt, hh⟩, by dsimp only; omega⟩
    · rw [if_neg c, Int.mul_comm a.1, Int.mul_comm a.2] at hh
      repeat' (first | refine wk3 ?_ | (refine wk2 ?_ ?_ <;> intro _) | refine wk4 ?_ | fail); all_goals (conv => whnf)
      exact Done.mk ⟨(k + 1, _, _, _), [], rfl, kps, kps, ⟨W_succ (by omega), hlt, hh⟩, by dsimp only; omega⟩
  · rw [show within (k : Int) 0 (nsur h - 1) = false from within_not.2 (.inr (by omega))] at g1
    rw [show nsN h - k = 0 by omega, srG] at hh
    subst hh
    repeat' (first | refine wk3 ?_ | (refine wk2 ?_ ?_ <;> intro _) | refine wk4 ?_ | fail); all_goals (conv => whnf)
    exact ret_of rfl rfl
end Go.Proofs.YtddhjopopelkjaaGreat
