/- A part of the proof: lemmas. -/
import Derived.Test.YtddhjopopelkjaaGreatZH1
import Derived.Test.YtddhjopopelkjaaGreatN5
set_option linter.unusedVariables false
set_option linter.unusedSimpArgs false
namespace Go.Proofs.YtddhjopopelkjaaGreat
open Go Go.Sx
/-! ### Hits -/
def dvF (sh left : Int) : Int := IntKind.i64.wrap ((IntKind.i64.wrap (left * sh)).tdiv 1000000)
def dvC (sh left : Int) : Int := abvU (IntKind.i64.wrap (left * sh)) 1000000
theorem d145 {n b : Int} (hb : 0 < b) : PCall Tryz.prog 145 [I n, I b] ⟨I (IntKind.i64.wrap (n.tdiv b)), []⟩ := by
  have hz : ¬ b = 0 := by omega
  refine bs.pv (sx := nos) pt0_ok Tryz.func145 (by kernel_rfl) (by kernel_rfl) rfl ?_
  repeat' (first | refine wk3 ?_ | (refine wk2 ?_ ?_ <;> intro _) | refine wk4 ?_ | fail); all_goals (conv => whnf)
  all_goals exact ret_int rfl
def r145f : List AV → Option PRes
  | [.int .i64 n, .int .i64 b] => asr (decide (0 < b)) ⟨I (IntKind.i64.wrap (n.tdiv b)), []⟩
  | _ => none
def kH : PC := ins 145 r145f (ins 135 rAbU pt0)
theorem kH_ok : PCOK Tryz.prog kH := by
  refine ins_ok (fun a res h => ?_) (ins_ok (fun a res h => ?_) pt0_ok)
  · unfold r145f at h; split at h
    · obtain ⟨h1, h2⟩ := asr_some h; subst h2; exact d145 (of_decide_eq_true h1)
    · cases h
  · unfold rAbU at h; split at h
    · obtain ⟨h1, h2⟩ := asr_some h; subst h2; exact d135 (of_decide_eq_true h1)
    · cases h
def htV (r : Option Nat) : Int × Int := match r with
  | some n => ((n : Int), 0)
  | none => (0, 8)
set_option maxRecDepth 100000 in
set_option maxHeartbeats 8000000 in
theorem d144F (sh : Int) : PCall Tryz.prog 144 [I sh, .func 145 [] []] ⟨.tup [I (htV (En.hitG (dvF sh) 0 1001 1000000000000)).1, I (htV (En.hitG (dvF sh) 0 1001 1000000000000)).2], []⟩ := by
  refine bs.pv (sx := nos) kH_ok Tryz.func144 (by kernel_rfl) (by kernel_rfl) rfl ?_
  repeat' (first | refine wk3 ?_ | (refine wk2 ?_ ?_ <;> intro _) | refine wk4 ?_ | fail); all_goals (conv => whnf)
  refine loopV (S := Nat × Int × Int) (fun t => 1001 - t.1) (fun t => [(0, I sh), (1, .func 145 [] []), (6, I t.2.2), (8, I t.2.1)]) (fun _ => []) 0 0 (fun t => t.2.1 = t.1 ∧ t.1 ≤ 1001 ∧ En.hitG (dvF sh) t.1 (1001 - t.1) t.2.2 = En.hitG (dvF sh) 0 1001 1000000000000) (0, 0, 1000000000000) ⟨rfl, Nat.zero_le _, rfl⟩ (Nat.le_refl _) [] rfl (kps) (kps) ?_
  rintro ⟨k, i, left⟩ ⟨hi, hk, hh⟩
  dsimp only at hi hk hh ⊢
  subst hi
  generalize En.hitG (dvF sh) 0 1001 1000000000000 = R at *
  refine bs.av (sx := nos) kH_ok ?_
  by_cases hlt : k < 1001
  · rw [En.hitG_step hlt] at hh
    by_cases c : left ≤ 1000000
    · rw [if_pos c] at hh
      repeat' (first | refine wk3 ?_ | (refine wk2 ?_ ?_ <;> intro _) | refine wk4 ?_ | fail); all_goals (conv => whnf)
      exact ret_of (by rw [← hh]; rfl) rfl
    · rw [if_neg c] at hh
      repeat' (first | refine wk3 ?_ | (refine wk2 ?_ ?_ <;> intro _) | refine wk4 ?_ | fail); all_goals (conv => whnf)
      exact Done.mk ⟨(k + 1, _, _), [], rfl, kps, kps, ⟨W_succ (by omega), hlt, hh⟩, by dsimp only; omega⟩
  · rw [show 1001 - k = 0 by omega, En.hitG] at hh
    repeat' (first | refine wk3 ?_ | (refine wk2 ?_ ?_ <;> intro _) | refine wk4 ?_ | fail); all_goals (conv => whnf)
    exact ret_of (by rw [← hh]; rfl) rfl
set_option maxRecDepth 100000 in
set_option maxHeartbeats 8000000 in
theorem d144C (sh : Int) : PCall Tryz.prog 144 [I sh, .func 135 [] []] ⟨.tup [I (htV (En.hitG (dvC sh) 0 1001 1000000000000)).1, I (htV (En.hitG (dvC sh) 0 1001 1000000000000)).2], []⟩ := by
  refine bs.pv (sx := nos) kH_ok Tryz.func144 (by kernel_rfl) (by kernel_rfl) rfl ?_
  repeat' (first | refine wk3 ?_ | (refine wk2 ?_ ?_ <;> intro _) | refine wk4 ?_ | fail); all_goals (conv => whnf)
  refine loopV (S := Nat × Int × Int) (fun t => 1001 - t.1) (fun t => [(0, I sh), (1, .func 135 [] []), (6, I t.2.2), (8, I t.2.1)]) (fun _ => []) 0 0 (fun t => t.2.1 = t.1 ∧ t.1 ≤ 1001 ∧ En.hitG (dvC sh) t.1 (1001 - t.1) t.2.2 = En.hitG (dvC sh) 0 1001 1000000000000) (0, 0, 1000000000000) ⟨rfl, Nat.zero_le _, rfl⟩ (Nat.le_refl _) [] rfl (kps) (kps) ?_
  rintro ⟨k, i, left⟩ ⟨hi, hk, hh⟩
  dsimp only at hi hk hh ⊢
  subst hi
  generalize En.hitG (dvC sh) 0 1001 1000000000000 = R at *
  refine bs.av (sx := nos) kH_ok ?_
  by_cases hlt : k < 1001
  · rw [En.hitG_step hlt] at hh
    by_cases c : left ≤ 1000000
    · rw [if_pos c] at hh
      repeat' (first | refine wk3 ?_ | (refine wk2 ?_ ?_ <;> intro _) | refine wk4 ?_ | fail); all_goals (conv => whnf)
      exact ret_of (by rw [← hh]; rfl) rfl
    · rw [if_neg c] at hh
      repeat' (first | refine wk3 ?_ | (refine wk2 ?_ ?_ <;> intro _) | refine wk4 ?_ | fail); all_goals (conv => whnf)
      exact Done.mk ⟨(k + 1, _, _), [], rfl, kps, kps, ⟨W_succ (by omega), hlt, hh⟩, by dsimp only; omega⟩
  · rw [show 1001 - k = 0 by omega, En.hitG] at hh
    repeat' (first | refine wk3 ?_ | (refine wk2 ?_ ?_ <;> intro _) | refine wk4 ?_ | fail); all_goals (conv => whnf)
    exact ret_of (by rw [← hh]; rfl) rfl
end Go.Proofs.YtddhjopopelkjaaGreat
