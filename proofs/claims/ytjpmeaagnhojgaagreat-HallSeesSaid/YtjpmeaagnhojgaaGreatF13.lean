/- A part of the proof: lemmas. -/
import Derived.Test.YtjpmeaagnhojgaaGreatF12
set_option linter.unusedVariables false
set_option linter.unusedSimpArgs false
namespace Go.Proofs.YtjpmeaagnhojgaaGreat
open Go Go.Sx

def ptEq (p q : Pt) : Bool := decide (p.x = q.x) && decide (p.y = q.y) && decide (p.z = q.z) && decide (p.d = q.d)
def wayE (h : Hal) (s : Stg) (p q : Pt) : Int := if serr h s = 0 then (if ptErr p = 0 then (if ptErr q = 0 then (if ptEq p q then 11 else 0) else ptErr q) else ptErr p) else serr h s
abbrev sxF : FuncId → Bool := fun f => Nat.beq f 97 || Nat.beq f 98 || Nat.beq f 100 || Nat.beq f 101
noncomputable abbrev ptEs : List AV → Option PRes := famA (fun p : Pt => p.wf) (fun p => [p.av]) (fun p => ⟨I (ptErr p), []⟩)
theorem ptEs_hit {p : Pt} (h : p.wf) : ptEs [p.av] = some ⟨I (ptErr p), []⟩ :=
  famA_hit (p := fun p : Pt => p.wf) (g := fun p => [p.av]) (r := fun p => ⟨I (ptErr p), []⟩) (fun j hj => by
    obtain ⟨a, b, c, d⟩ := j
    obtain ⟨a', b', c', d'⟩ := p
    simp only [List.cons.injEq, AV.agg.injEq, AV.int.injEq, true_and, and_true] at hj
    obtain ⟨rfl, rfl, rfl, rfl⟩ := hj
    rfl) h
set_option maxRecDepth 100000 in
set_option maxHeartbeats 16000000 in
theorem c37 {h : Hal} (hk : h.ok) {s : Stg} (hs : s.few) {p q : Pt} (hp : p.wf) (hq : q.wf) : PCall Tryz.prog 37 [h.av, s.av, wayA p q] ⟨.tup [Bo (decide (wayE h s p q = 0) && freeP h s p q), I (wayE h s p q)], []⟩ := by
  have hk0 : PCOK Tryz.prog (ins 99 ptEs (ins 83 (one [h.av, s.av] ⟨.tup [.agg (stgL h s), I (serr h s)], []⟩) kG4)) := famA_ok (fun p hp => c99 hp) (one_ok (c83 hk hs) kG4_ok)
  have t1 := ptEs_hit hp
  have t2 := ptEs_hit hq
  unfold wayE
  by_cases h0 : serr h s = 0
  · have g := sit_of hk hs h0
    rw [h0] at hk0
    rw [if_pos h0]
    have hk1 := one_ok (c103 g p q) hk0
    clear hk0 h0
    generalize freeP h s p q = fr at *
    generalize ptErr p = e1 at *
    generalize ptErr q = e2 at *
    by_cases h1 : e1 = 0
    · rw [if_pos h1]
      subst h1
      by_cases h2 : e2 = 0
      · rw [if_pos h2]
        subst h2
        have hx : (true ^^ (decide (p.x = q.x) && (decide (p.y = q.y) && (decide (p.z = q.z) && (decide (p.d = q.d) && true))))) = !ptEq p q := by
          unfold ptEq
          cases decide (p.x = q.x) <;> cases decide (p.y = q.y) <;> cases decide (p.z = q.z) <;> cases decide (p.d = q.d) <;> rfl
        cases hq : ptEq p q with
        | true =>
          rw [hq] at hx
          have hu : unl (true ^^ (decide (p.x = q.x) && (decide (p.y = q.y) && (decide (p.z = q.z) && (decide (p.d = q.d) && true))))) 11 = 11 := by rw [hx]; rfl
          clear hx hq
          refine bs.pv (sx := sxF) hk1 Tryz.func37 (by kernel_rfl) (by kernel_rfl) rfl ?_
          repeat' (first | refine wk3 ?_ | (refine wk2 ?_ ?_ <;> intro _) | refine wk4 ?_ | fail); all_goals (conv => whnf)
          refine bs.sv (sx := sxF) hk1 Tryz.func97 (by kernel_rfl) (by kernel_rfl) ?_
          refine LpM.start 4 ?_
          refine LpM.succ (bs.av (sx := sxF) hk1 ?_)
          repeat' (first | refine wk3 ?_ | (refine wk2 ?_ ?_ <;> intro _) | refine wk4 ?_ | fail); all_goals (conv => whnf)
          refine bs.sv (sx := sxF) hk1 Tryz.func98 (by kernel_rfl) (by kernel_rfl) ?_
          repeat' (first | refine wk3 ?_ | (refine wk2 ?_ ?_ <;> intro _) | refine wk4 ?_ | fail); all_goals (conv => whnf)
          refine LpM.succ (bs.av (sx := sxF) hk1 ?_)
          repeat' (first | refine wk3 ?_ | (refine wk2 ?_ ?_ <;> intro _) | refine wk4 ?_ | fail); all_goals (conv => whnf)
          refine bs.sv (sx := sxF) hk1 Tryz.func100 (by kernel_rfl) (by kernel_rfl) ?_
          repeat' (first | refine wk3 ?_ | (refine wk2 ?_ ?_ <;> intro _) | refine wk4 ?_ | fail); all_goals (conv => whnf)
          refine LpM.succ (bs.av (sx := sxF) hk1 ?_)
          repeat' (first | refine wk3 ?_ | (refine wk2 ?_ ?_ <;> intro _) | refine wk4 ?_ | fail); all_goals (conv => whnf)
          refine bs.sv (sx := sxF) hk1 Tryz.func101 (by kernel_rfl) (by kernel_rfl) ?_
          repeat' (first | refine wk3 ?_ | (refine wk2 ?_ ?_ <;> intro _) | refine wk4 ?_ | fail); all_goals (conv => whnf)
          exact ret_of (by rw [hu]; rfl) rfl
        | false =>
          rw [hq] at hx
          have hu : unl (true ^^ (decide (p.x = q.x) && (decide (p.y = q.y) && (decide (p.z = q.z) && (decide (p.d = q.d) && true))))) 11 = 0 := by rw [hx]; rfl
          clear hx hq
          refine bs.pv (sx := sxF) hk1 Tryz.func37 (by kernel_rfl) (by kernel_rfl) rfl ?_
          repeat' (first | refine wk3 ?_ | (refine wk2 ?_ ?_ <;> intro _) | refine wk4 ?_ | fail); all_goals (conv => whnf)
          refine bs.sv (sx := sxF) hk1 Tryz.func97 (by kernel_rfl) (by kernel_rfl) ?_
          refine LpM.start 4 ?_
          refine LpM.succ (bs.av (sx := sxF) hk1 ?_)
          repeat' (first | refine wk3 ?_ | (refine wk2 ?_ ?_ <;> intro _) | refine wk4 ?_ | fail); all_goals (conv => whnf)
          refine bs.sv (sx := sxF) hk1 Tryz.func98 (by kernel_rfl) (by kernel_rfl) ?_
          repeat' (first | refine wk3 ?_ | (refine wk2 ?_ ?_ <;> intro _) | refine wk4 ?_ | fail); all_goals (conv => whnf)
          refine LpM.succ (bs.av (sx := sxF) hk1 ?_)
          repeat' (first | refine wk3 ?_ | (refine wk2 ?_ ?_ <;> intro _) | refine wk4 ?_ | fail); all_goals (conv => whnf)
          refine bs.sv (sx := sxF) hk1 Tryz.func100 (by kernel_rfl) (by kernel_rfl) ?_
          repeat' (first | refine wk3 ?_ | (refine wk2 ?_ ?_ <;> intro _) | refine wk4 ?_ | fail); all_goals (conv => whnf)
          refine LpM.succ (bs.av (sx := sxF) hk1 ?_)
          repeat' (first | refine wk3 ?_ | (refine wk2 ?_ ?_ <;> intro _) | refine wk4 ?_ | fail); all_goals (conv => whnf)
          refine bs.sv (sx := sxF) hk1 Tryz.func101 (by kernel_rfl) (by kernel_rfl) ?_
          repeat' (first | refine wk3 ?_ | (refine wk2 ?_ ?_ <;> intro _) | refine wk4 ?_ | fail); all_goals (conv => whnf)
          refine LpM.succ (bs.av (sx := sxF) hk1 ?_)
          repeat' (first | refine wk3 ?_ | (refine wk2 ?_ ?_ <;> intro _) | refine wk4 ?_ | fail); all_goals (conv => whnf)
          exact ret_of (by cases fr <;> rfl) rfl
      · rw [if_neg h2]
        refine bs.pv (sx := sxF) hk1 Tryz.func37 (by kernel_rfl) (by kernel_rfl) rfl ?_
        repeat' (first | refine wk3 ?_ | (refine wk2 ?_ ?_ <;> intro _) | refine wk4 ?_ | fail); all_goals (conv => whnf)
        refine bs.sv (sx := sxF) hk1 Tryz.func97 (by kernel_rfl) (by kernel_rfl) ?_
        refine LpM.start 4 ?_
        refine LpM.succ (bs.av (sx := sxF) hk1 ?_)
        repeat' (first | refine wk3 ?_ | (refine wk2 ?_ ?_ <;> intro _) | refine wk4 ?_ | fail); all_goals (conv => whnf)
        refine bs.sv (sx := sxF) hk1 Tryz.func98 (by kernel_rfl) (by kernel_rfl) ?_
        repeat' (first | refine wk3 ?_ | (refine wk2 ?_ ?_ <;> intro _) | refine wk4 ?_ | fail); all_goals (conv => whnf)
        refine LpM.succ (bs.av (sx := sxF) hk1 ?_)
        repeat' (first | refine wk3 ?_ | (refine wk2 ?_ ?_ <;> intro _) | refine wk4 ?_ | fail); all_goals (conv => whnf)
        refine bs.sv (sx := sxF) hk1 Tryz.func100 (by kernel_rfl) (by kernel_rfl) ?_
        repeat' (first | refine wk3 ?_ | (refine wk2 ?_ ?_ <;> intro _) | refine wk4 ?_ | fail); all_goals (conv => whnf)
        exact ret_of (by rw [decide_eq_false h2]; rfl) rfl
    · rw [if_neg h1]
      refine bs.pv (sx := sxF) hk1 Tryz.func37 (by kernel_rfl) (by kernel_rfl) rfl ?_
      repeat' (first | refine wk3 ?_ | (refine wk2 ?_ ?_ <;> intro _) | refine wk4 ?_ | fail); all_goals (conv => whnf)
      refine bs.sv (sx := sxF) hk1 Tryz.func97 (by kernel_rfl) (by kernel_rfl) ?_
      refine LpM.start 4 ?_
      refine LpM.succ (bs.av (sx := sxF) hk1 ?_)
      repeat' (first | refine wk3 ?_ | (refine wk2 ?_ ?_ <;> intro _) | refine wk4 ?_ | fail); all_goals (conv => whnf)
      refine bs.sv (sx := sxF) hk1 Tryz.func98 (by kernel_rfl) (by kernel_rfl) ?_
      repeat' (first | refine wk3 ?_ | (refine wk2 ?_ ?_ <;> intro _) | refine wk4 ?_ | fail); all_goals (conv => whnf)
      exact ret_of (by rw [decide_eq_false h1]; rfl) rfl
  · rw [if_neg h0]
    generalize freeP h s p q = fr at *
    refine bs.pv (sx := sxF) hk0 Tryz.func37 (by kernel_rfl) (by kernel_rfl) rfl ?_
    repeat' (first | refine wk3 ?_ | (refine wk2 ?_ ?_ <;> intro _) | refine wk4 ?_ | fail); all_goals (conv => whnf)
    exact ret_of (by rw [decide_eq_false h0]; rfl) rfl
end Go.Proofs.YtjpmeaagnhojgaaGreat
