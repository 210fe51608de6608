/- A part of the proof: lemmas. -/
import Derived.Test.YtdaliaafmcjikaaGreatJP1
set_option linter.unusedVariables false
set_option linter.unusedSimpArgs false
namespace Go.Proofs.YtdaliaafmcjikaaGreat
open Go Go.Sx
/-! ### The first error -/
def fstL : List Int → Int
  | [] => 0
  | x :: l => if x ≠ 0 then x else fstL l
theorem fstL_cons (x : Int) (l : List Int) : fstL (x :: l) = if x ≠ 0 then x else fstL l := rfl
set_option maxRecDepth 100000 in
set_option maxHeartbeats 4000000 in
theorem d78 {l : List Int} (hl : l.length < 1000) : PCall Tryz.prog 78 [.isl 1 (nl l)] ⟨I (fstL l), []⟩ := by
  have l2 := nl_length l
  refine bs.pv (sx := nos) pt0_ok Tryz.func78 (by kernel_rfl) (by kernel_rfl) rfl ?_
  repeat' (first | refine wk3 ?_ | (refine wk2 ?_ ?_ <;> intro _) | refine wk4 ?_ | fail); all_goals (conv => whnf)
  refine loopV (S := Nat × Int) (fun t => l.length - t.1) (fun t => [(5, .isl 1 (nl l)), (6, I (nl l).length), (7, I t.2)]) (fun _ => []) 0 0 (fun t => t.2 = t.1 ∧ t.1 ≤ l.length ∧ fstL (l.drop t.1) = fstL l) (0, 0) ⟨rfl, Nat.zero_le _, rfl⟩ (Nat.le_refl _) [] rfl (kps) (kps) ?_
  rintro ⟨k, i⟩ ⟨hi, hk, hh⟩
  dsimp only at hi hk hh ⊢
  subst hi
  generalize fstL l = R at *
  refine bs.av (sx := nos) pt0_ok ?_
  by_cases hlt : k < l.length
  · have e1 := nl_get hlt
    rw [List.drop_eq_getElem_cons hlt, fstL_cons] at hh
    generalize l[k] = x at *
    by_cases hx : x = 0
    · rw [if_neg (fun c => c hx)] at hh
      repeat' (first | refine wk3 ?_ | (refine wk2 ?_ ?_ <;> intro _) | refine wk4 ?_ | fail); all_goals (conv => whnf)
      exact Done.mk ⟨(k + 1, _), [], rfl, kps, kps, ⟨W_succ (by omega), hlt, hh⟩, by dsimp only; omega⟩
    · rw [if_pos hx] at hh
      subst hh
      repeat' (first | refine wk3 ?_ | (refine wk2 ?_ ?_ <;> intro _) | refine wk4 ?_ | fail); all_goals (conv => whnf)
      exact ret_int rfl
  · rw [List.drop_of_length_le (by omega)] at hh
    repeat' (first | refine wk3 ?_ | (refine wk2 ?_ ?_ <;> intro _) | refine wk4 ?_ | fail); all_goals (conv => whnf)
    exact ret_int hh
def r78f : List AV → Option PRes
  | [.isl 1 l] => match numsOf l with
    | some ns => asr (Nat.blt ns.length 1000) ⟨I (fstL ns), []⟩
    | none => none
  | _ => none
where
  numsOf : List (List AV) → Option (List Int)
    | [] => some []
    | [.int .i64 n] :: l => match numsOf l with
      | some ns => some (n :: ns)
      | none => none
    | _ => none
theorem numsOf_eq : ∀ {l : List (List AV)} {ns : List Int}, r78f.numsOf l = some ns → l = nl ns
  | [], ns, h => by cases h; rfl
  | e :: l, ns, h => by
    unfold r78f.numsOf at h
    split at h
    · rename_i h0; cases h0
    · rename_i n l' h0
      cases h0
      split at h
      · rename_i ms hm
        cases h
        rw [numsOf_eq hm]; rfl
      · cases h
    · cases h
theorem d86 (n m : Int) : PCall Tryz.prog 86 [I n, I m] ⟨Bo (small n m), []⟩ := by
  have hk : PCOK Tryz.prog (ins 101 (fun a => match a with
    | [.int .i64 n, .int .i64 lo, .int .i64 hi] => some ⟨Bo (within n lo hi), []⟩
    | _ => none) pt0) := ins_ok (fun a res h => by split at h <;> cases h; exact d210 _ _ _) pt0_ok
  refine bs.pv (sx := nos) hk Tryz.func86 (by kernel_rfl) (by kernel_rfl) rfl ?_
  repeat' (first | refine wk3 ?_ | (refine wk2 ?_ ?_ <;> intro _) | refine wk4 ?_ | fail); all_goals (conv => whnf)
  exact ret_bool rfl
def rWu : List AV → Option PRes
  | [.int .i64 n, .int .i64 lo, .int .i64 hi] => some ⟨Bo (within n lo hi), []⟩
  | _ => none
def rUn : List AV → Option PRes
  | [.bool b, .int .i64 e] => some ⟨I (unl b e), []⟩
  | _ => none
/-- The small things of package image. -/
def kI0 : PC := ins 78 r78f (ins 80 rUn (ins 101 rWu (ins 86 r92 k78)))
theorem kI0_ok : PCOK Tryz.prog kI0 := by
  refine ins_ok (fun a res h => ?_) (ins_ok (fun a res h => ?_) (ins_ok (fun a res h => ?_) (ins_ok (fun a res h => ?_) k78_ok)))
  · unfold r78f at h
    split at h
    · split at h
      · rename_i ns hn
        obtain ⟨h1, rfl⟩ := asr_some h
        rw [numsOf_eq hn]
        exact d78 (by simpa [Nat.blt_eq] using h1)
      · cases h
    · cases h
  · unfold rUn at h; split at h <;> cases h; exact d209 _ _
  · unfold rWu at h; split at h <;> cases h; exact d210 _ _ _
  · unfold r92 at h; split at h <;> cases h; exact d86 _ _
theorem pthE_fst (p : Pth) : pthE p = fstL [unl (decide (((p.ps.map hp4).length : Int) = ((nl p.ss).length : Int))) 10, unl (decide (((nl p.ss).length : Int) ≤ 4)) 8, unl (within p.sq 1 24300000000) 2] := by
  have l1 : (p.ps.map hp4).length = p.ps.length := by simp
  rw [l1, nl_length]
  unfold pthE fstL fstL fstL fstL unl
  by_cases c1 : (p.ps.length : Int) = p.ss.length
  · by_cases c2 : 4 < (p.ss.length : Int)
    · rw [if_pos c1, if_pos c2, decide_eq_true c1, decide_eq_false (by omega)]; rfl
    · rw [if_pos c1, if_neg c2, decide_eq_true c1, decide_eq_true (by omega)]; cases within p.sq 1 24300000000 <;> rfl
  · rw [if_neg c1, decide_eq_false c1]; rfl
set_option maxHeartbeats 4000000 in
theorem d162 (p : Pth) : PCall Tryz.prog 96 [p.av] ⟨I (pthE p), []⟩ := by
  rw [pthE_fst]
  refine bs.pv (sx := nos) kI0_ok Tryz.func96 (by kernel_rfl) (by kernel_rfl) rfl ?_
  repeat' (first | refine wk3 ?_ | (refine wk2 ?_ ?_ <;> intro _) | refine wk4 ?_ | fail); all_goals (conv => whnf)
  exact ret_int rfl
/-! ### Speeds and rates -/
def spE (n : Int) : Int := unl (within n 30000 40000) 2
theorem d99s (n : Int) : PCall Tryz.prog 99 [I n] ⟨I (spE n), []⟩ := by
  refine bs.pv (sx := nos) kI0_ok Tryz.func99 (by kernel_rfl) (by kernel_rfl) rfl ?_
  repeat' (first | refine wk3 ?_ | (refine wk2 ?_ ?_ <;> intro _) | refine wk4 ?_ | fail); all_goals (conv => whnf)
  exact ret_int rfl
theorem d44 (n : Int) : PCall Tryz.prog 44 [I n] ⟨I (spE n), []⟩ := by
  cases h : within n 30000 40000
  all_goals
    refine bs.pv (sx := nos) k78_ok Tryz.func44 (by kernel_rfl) (by kernel_rfl) rfl ?_
    repeat' (first | refine wk3 ?_ | (refine wk2 ?_ ?_ <;> intro _) | refine wk4 ?_ | fail); all_goals (conv => whnf)
    all_goals first | exact ret_int (by unfold spE; rw [h]; rfl) | (exfalso; simp_all; done)
end Go.Proofs.YtdaliaafmcjikaaGreat
