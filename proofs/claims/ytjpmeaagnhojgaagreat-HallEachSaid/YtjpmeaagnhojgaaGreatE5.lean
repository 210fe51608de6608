/- A part of the proof: lemmas. -/
import Derived.Test.YtjpmeaagnhojgaaGreatE4
set_option linter.unusedVariables false
set_option linter.unusedSimpArgs false
namespace Go.Proofs.YtjpmeaagnhojgaaGreat
open Go Go.Sx

/-! ### A list that is turned round in place -/
def swp (l : List Int) (i j : Nat) : List Int := (l.set i (l.getD j 0)).set j (l.getD i 0)
theorem swp_length (l : List Int) (i j : Nat) : (swp l i j).length = l.length := by simp [swp]
theorem getD_set {l : List Int} {i j : Nat} {x : Int} (hi : i < l.length) : (l.set i x).getD j 0 = if i = j then x else l.getD j 0 := by
  rw [List.getD_eq_getElem?_getD, List.getD_eq_getElem?_getD, List.getElem?_set]
  by_cases e : i = j
  · subst e; simp [hi]
  · simp [e]
structure RevInv (o l : List Int) (k : Nat) : Prop where
  len : l.length = o.length
  vl : ∀ j, j < o.length → l.getD j 0 = if j < k ∨ o.length ≤ j + k then o.getD (o.length - 1 - j) 0 else o.getD j 0
theorem RevInv.zero (o : List Int) : RevInv o o 0 := ⟨rfl, fun j hj => by rw [if_neg (by omega)]⟩
theorem RevInv.succ {o l : List Int} {k : Nat} (h : RevInv o l k) (hk : k + k + 1 < o.length) : RevInv o (swp l k (o.length - 1 - k)) (k + 1) := by
  refine ⟨by rw [swp_length, h.len], fun j hj => ?_⟩
  have h1 := h.vl k (by omega)
  have h2 := h.vl (o.length - 1 - k) (by omega)
  have h3 := h.vl j hj
  rw [if_neg (by omega)] at h1 h2
  unfold swp
  rw [getD_set (by rw [List.length_set, h.len]; omega), getD_set (by rw [h.len]; omega), h1, h2, h3]
  by_cases e1 : o.length - 1 - k = j
  · subst e1
    rw [if_pos rfl, if_pos (by omega)]
    congr 1; omega
  · rw [if_neg e1]
    by_cases e2 : k = j
    · subst e2
      rw [if_pos rfl, if_pos (by omega)]
    · rw [if_neg e2]
      by_cases e3 : j < k ∨ o.length ≤ j + k
      · rw [if_pos e3, if_pos (by omega)]
      · rw [if_neg e3, if_neg (by omega)]
theorem RevInv.fin {o l : List Int} {k : Nat} (h : RevInv o l k) (hk : o.length ≤ k + k + 1) : l = o.reverse := by
  refine List.ext_getElem (by rw [List.length_reverse, h.len]) fun j h1 h2 => ?_
  have h3 := h.vl j (by rw [← h.len]; exact h1)
  have hj : j < o.length := by rw [← h.len]; exact h1
  rw [List.getD_eq_getElem?_getD, List.getElem?_eq_getElem h1] at h3
  rw [List.getElem_reverse]
  have h4 : l[j] = if j < k ∨ o.length ≤ j + k then o.getD (o.length - 1 - j) 0 else o.getD j 0 := h3
  rw [h4]
  by_cases e : j < k ∨ o.length ≤ j + k
  · rw [if_pos e, List.getD_eq_getElem?_getD, List.getElem?_eq_getElem (by omega)]; rfl
  · rw [if_neg e, List.getD_eq_getElem?_getD, List.getElem?_eq_getElem hj]
    have : o.length - 1 - j = j := by omega
    simp only [this]; rfl
theorem nl_getD {l : List Int} {j : Nat} (h : j < l.length) : (nl l)[j]? = some [I (l.getD j 0)] := by
  rw [List.getD_eq_getElem?_getD, List.getElem?_eq_getElem h]
  have := nl_get h
  simpa using this
theorem nl_set (l : List Int) (j : Nat) (x : Int) : (nl l).set j [I x] = nl (l.set j x) := by simp [nl, List.map_set]
end Go.Proofs.YtjpmeaagnhojgaaGreat
