/- A part of the proof: lemmas. -/
import Derived.KernelRfl
set_option linter.unusedVariables false
set_option linter.unusedSimpArgs false
namespace Go.En
/-! ### Plain law: hits -/
/-- The number of rounds until so little is left, if there are so many at most. -/
def hitG (dv : Int → Int) : Nat → Nat → Int → Option Nat
  | _, 0, _ => none
  | n, c + 1, left => if left ≤ 1000000 then some n else hitG dv (n + 1) c (dv left)
theorem hitG_step {dv : Int → Int} {n m : Nat} (h : n < m) (left : Int) : hitG dv n (m - n) left = if left ≤ 1000000 then some n else hitG dv (n + 1) (m - (n + 1)) (dv left) := by
  rw [show m - n = (m - (n + 1)) + 1 by omega, hitG]
theorem hitG_ge {dv : Int → Int} : ∀ {c n : Nat} {left : Int} {k : Nat}, hitG dv n c left = some k → n ≤ k ∧ k < n + c
  | 0, _, _, _, h => by simp [hitG] at h
  | c + 1, n, left, k, h => by
    rw [hitG] at h
    split at h
    · cases h; omega
    · have := hitG_ge h; omega
theorem hitG_mono {dv dw : Int → Int} (hd : ∀ x y, 0 ≤ x → x ≤ y → 0 ≤ dv x ∧ dv x ≤ dw y) : ∀ {c n : Nat} {l1 l2 : Int} {k : Nat}, 0 ≤ l1 → l1 ≤ l2 → hitG dw n c l2 = some k → ∃ j, hitG dv n c l1 = some j ∧ j ≤ k
  | 0, _, _, _, _, _, _, h => by simp [hitG] at h
  | c + 1, n, l1, l2, k, h0, h1, h => by
    rw [hitG] at h
    rw [hitG]
    by_cases a : l1 ≤ 1000000
    · rw [if_pos a]
      refine ⟨n, rfl, ?_⟩
      split at h
      · cases h; exact Nat.le_refl _
      · have := (hitG_ge h).1; omega
    · rw [if_neg a]
      rw [if_neg (by omega)] at h
      obtain ⟨q1, q2⟩ := hd l1 l2 h0 h1
      exact hitG_mono hd q1 q2 h
end Go.En
