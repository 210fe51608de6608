/- A part of the proof: lemmas. -/
import Derived.Test.YtddhjopopelkjaaGreatLw8
set_option linter.unusedVariables false
set_option linter.unusedSimpArgs false
namespace Go.Proofs.YtddhjopopelkjaaGreat
open Go Go.Sx Go.En
abbrev sh (l : List Ech) : Prop := l.length < 100000 ∧ ∀ x ∈ l, x.su.length < 100000
noncomputable abbrev cE50 : List AV → Option PRes := famA (fun _ : List Ech => True) (fun l => [.isl 5 (l.map ev)]) (fun l => ⟨Bo (fewE l), []⟩)
theorem cE50_hit (l : List Ech) : cE50 [.isl 5 (l.map ev)] = some ⟨Bo (fewE l), []⟩ :=
  famA_hit (p := fun _ : List Ech => True) (g := fun l => [.isl 5 (l.map ev)]) (r := fun l => ⟨Bo (fewE l), []⟩) (fun j hj => by
    simp only [List.cons.injEq, AV.isl.injEq, true_and, and_true] at hj
    rw [ev_inj hj]) trivial
noncomputable abbrev cE52 : List AV → Option PRes := famA sh (fun l => [.isl 5 (l.map ev)]) (fun l => ⟨.isl 5 (l.map ev), []⟩)
theorem cE52_hit {l : List Ech} (h : sh l) : cE52 [.isl 5 (l.map ev)] = some ⟨.isl 5 (l.map ev), []⟩ :=
  famA_hit (p := sh) (g := fun l => [.isl 5 (l.map ev)]) (r := fun l => ⟨.isl 5 (l.map ev), []⟩) (fun j hj => by
    simp only [List.cons.injEq, AV.isl.injEq, true_and, and_true] at hj
    rw [ev_inj hj]) h
noncomputable abbrev famEI (r : List Ech → Int → PRes) : List AV → Option PRes := famA (fun p : List Ech × Int => p.1.length < 100000) (fun p => [.isl 5 (p.1.map ev), I p.2]) (fun p => r p.1 p.2)
theorem famEI_hit (r : List Ech → Int → PRes) {l : List Ech} (h : l.length < 100000) (t : Int) : famEI r [.isl 5 (l.map ev), I t] = some (r l t) :=
  famA_hit (p := fun p : List Ech × Int => p.1.length < 100000) (g := fun p => [.isl 5 (p.1.map ev), I p.2]) (r := fun p => r p.1 p.2) (k := (l, t)) (fun j hj => by
    simp only [List.cons.injEq, AV.isl.injEq, AV.int.injEq, true_and, and_true] at hj
    rw [ev_inj hj.1, hj.2]) h
noncomputable abbrev r53 (l : List Ech) (t : Int) : PRes := ⟨.tup [P2 (utV l t).1 (utV l t).2, I (eeV l t)], []⟩
noncomputable abbrev r54 (l : List Ech) (w : Int) : PRes := ⟨.tup [T3 (boV l w), I (boE l w)], []⟩
noncomputable abbrev r57 (l : List Ech) (t : Int) : PRes := ⟨P2 (upF t 0 0 l).1 (upF t 0 0 l).2, []⟩
noncomputable abbrev r58 (l : List Ech) (w : Int) : PRes := ⟨T3 (bstF w 0 (0, 0, -1) l), []⟩
def rM : List AV → Option PRes
  | [.int .i64 n] => some ⟨I (unl (within n 0 10000000) 2), []⟩
  | _ => none
def rAw : List AV → Option PRes
  | [] => some ⟨Bo true, []⟩
  | _ => none
noncomputable def kY6 : PC := ins 16 rAw (ins 50 cE50 (ins 52 cE52 (ins 53 (famEI r53) (ins 54 (famEI r54) (ins 56 rM (ins 57 (famEI r57) (ins 58 (famEI r58) kY3)))))))
theorem kY6_ok : PCOK Tryz.prog kY6 := by
  refine ins_ok (fun a res h => ?_) (famA_ok (fun l _ => d50 l) (famA_ok (fun l h => d52 h.1 h.2) (famA_ok (fun p h => d53 h) (famA_ok (fun p h => d54 h) (ins_ok (fun a res h => ?_) (famA_ok (fun p h => d57 h) (famA_ok (fun p h => d58 h) kY3_ok)))))))
  · unfold rAw at h; split at h <;> cases h; exact awake_ok
  · unfold rM at h; split at h <;> cases h; exact d56 _
set_option maxHeartbeats 8000000 in
theorem few_sh {l : List Ech} (h : fewE l = true) : sh l := by
  unfold fewE shortE at h
  simp only [Bool.and_eq_true, Bool.not_eq_true', Bool.or_eq_false_iff, decide_eq_false_iff_not, List.all_eq_true, decide_eq_true_eq] at h
  exact ⟨by omega, fun x hx => by have := h.2 x hx; omega⟩
set_option maxHeartbeats 8000000 in
theorem d8 (l : List Ech) (t w : Int) : PCall Tryz.prog 8 [.isl 5 (l.map ev), I t, I w] ⟨Bo true, []⟩ := by
  have l1 := ev_length l
  have g1 := cE50_hit l
  by_cases hF : fewE l = true
  rotate_left
  · have hf : fewE l = false := by simpa using hF
    rw [hf] at g1
    refine bs.pv (sx := nos) kY6_ok Tryz.func8 (by kernel_rfl) (by kernel_rfl) rfl ?_
    repeat' (first | refine wk3 ?_ | (refine wk2 ?_ ?_ <;> intro _) | refine wk4 ?_ | fail); all_goals (conv => whnf)
    all_goals exact ret_bool rfl
  · have hs := few_sh hF
    rw [hF] at g1
    have hl := hs.1
    have g2 := cE52_hit hs
    have g3 := cecV_hit hl
    have g4 := famEI_hit r53 hl t
    have g5 := famEI_hit r54 hl w
    have g6 := famEI_hit r57 hl t
    have g7 := famEI_hit r58 hl w
    unfold r53 at g4; unfold r54 at g5
    clear hs hF
    by_cases hz : (ecV l).2 = 0
    · have q1 : eeV l t = unl (within t 0 10000000) 2 := by unfold eeV; rw [if_neg (fun h => h hz)]
      have q2 : eeV l w = unl (within w 0 10000000) 2 := by unfold eeV; rw [if_neg (fun h => h hz)]
      have z0 : (l.length = 0) ↔ ((l.map ev).length : Int) = 0 := by rw [l1]; omega
      generalize hu : within t 0 10000000 = bu at *
      generalize hw : within w 0 10000000 = bw at *
      have q3 : boE l w = if bw then (if l.length = 0 then 12 else 0) else 2 := by unfold boE; rw [q2]; cases bw <;> rfl
      have q4 : utV l t = if bu then upF t 0 0 l else (0, 0) := by unfold utV; rw [q1]; cases bu <;> rfl
      have q5 : boV l w = if bw then (if l.length = 0 then (0, 0, 0) else bstF w 0 (0, 0, -1) l) else (0, 0, 0) := by
        unfold boV; rw [q3]
        cases bw
        · rfl
        · by_cases z : l.length = 0
          · simp only [z]; rfl
          · simp only [if_neg z]; rfl
      rw [q1, q4] at g4
      rw [q3, q5] at g5
      by_cases z : l.length = 0 <;> cases bu <;> cases bw
      all_goals
        simp only [z, if_true, if_false, unl, Bool.false_eq_true, if_neg, if_pos, cond_true, cond_false] at g4 g5
        refine bs.pv (sx := nos) kY6_ok Tryz.func8 (by kernel_rfl) (by kernel_rfl) rfl ?_
        repeat' (first | refine wk3 ?_ | (refine wk2 ?_ ?_ <;> intro _) | refine wk4 ?_ | fail); all_goals (conv => whnf)
      all_goals first
        | exact ret_bool rfl
        | (refine ret_bool ?_; simp_all [unl]; done)
        | (exfalso; simp_all [unl]; done)
    · have q1 : eeV l t = (ecV l).2 := by unfold eeV; rw [if_pos hz]
      have q2 : eeV l w = (ecV l).2 := by unfold eeV; rw [if_pos hz]
      have q3 : boE l w = (ecV l).2 := by unfold boE; rw [q2, if_pos hz]
      have q4 : utV l t = (0, 0) := by unfold utV; rw [q1, if_pos hz]
      have q5 : boV l w = (0, 0, 0) := by unfold boV; rw [q3, if_pos hz]
      rw [q1, q4] at g4
      rw [q3, q5] at g5
      refine bs.pv (sx := nos) kY6_ok Tryz.func8 (by kernel_rfl) (by kernel_rfl) rfl ?_
      repeat' (first | refine wk3 ?_ | (refine wk2 ?_ ?_ <;> intro _) | refine wk4 ?_ | fail); all_goals (conv => whnf)
      all_goals first
        | exact ret_bool rfl
        | (refine ret_bool ?_; simp_all; done)
        | (exfalso; simp_all; done)
end Go.Proofs.YtddhjopopelkjaaGreat
