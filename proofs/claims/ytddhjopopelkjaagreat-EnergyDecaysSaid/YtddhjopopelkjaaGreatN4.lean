/- A part of the proof: lemmas. -/
import Derived.Test.YtddhjopopelkjaaGreatLw8
set_option linter.unusedVariables false
set_option linter.unusedSimpArgs false
namespace Go.En
/-! ### Lists that are changed in place -/
theorem addAt_set {x : Int} : ∀ {l : List Int} {i : Nat} (h : i < l.length), addAt l i x = l.set i (l[i] + x)
  | [], _, h => by simp at h
  | o :: l, 0, _ => rfl
  | o :: l, i + 1, h => by
    simp only [addAt, List.set_cons_succ, List.getElem_cons_succ]
    rw [addAt_set (by simpa using h)]
/-- Parts are added, by a way to take a part. -/
def addQ (w : Int → Int) (p : Int → Int) : List Int → List Int → List Int
  | s :: row, o :: out => w (o + p s) :: addQ w p row out
  | _, out => out
theorem addQ_len (w p : Int → Int) : ∀ (row out : List Int), (addQ w p row out).length = out.length
  | s :: row, o :: out => by simp [addQ, addQ_len w p row out]
  | [], _ => by simp [addQ]
  | _ :: _, [] => by simp [addQ]
theorem addQ_step (w p : Int → Int) {row out : List Int} {k : Nat} (h1 : k < row.length) (h2 : k < out.length) :
    out.take k ++ addQ w p (row.drop k) (out.drop k) = (out.set k (w (out[k] + p row[k]))).take (k + 1) ++ addQ w p (row.drop (k + 1)) ((out.set k (w (out[k] + p row[k]))).drop (k + 1)) := by
  rw [List.drop_eq_getElem_cons h1, List.drop_eq_getElem_cons h2, addQ, List.drop_set_of_lt (by omega), List.take_add_one, List.take_set_of_le (Nat.le_refl _)]
  simp [h2]
def sumQ (w p : Int → Int) : Int → List Int → Int
  | n, [] => n
  | n, s :: row => sumQ w p (w (n - p s)) row
/-- The first place of a number. -/
def fidx (v : Int) : List Int → Nat
  | [] => 0
  | x :: l => if x = v then 0 else fidx v l + 1
theorem lmax_ge : ∀ (l : List Int) (m : Int), m ≤ lmax m l
  | [], _ => Int.le_refl _
  | x :: l, m => by
    rw [lmax]
    have := lmax_ge l (max m x)
    omega
theorem imaxG_fidx : ∀ (l : List Int) (b : Nat) (m : Int) (i : Nat), imaxG b m i l = if lmax m l = m then b else i + fidx (lmax m l) l
  | [], b, m, i => by simp [imaxG, lmax]
  | x :: l, b, m, i => by
    rw [imaxG, lmax, fidx]
    split
    · rename_i h
      have hm : max m x = x := by omega
      have hg := lmax_ge l x
      rw [hm, if_neg (by omega), imaxG_fidx l i x (i + 1)]
      by_cases e : lmax x l = x
      · rw [if_pos e, if_pos (by omega)]; rfl
      · rw [if_neg e, if_neg (by omega)]; omega
    · rename_i h
      have hm : max m x = m := by omega
      have hg := lmax_ge l m
      rw [hm, imaxG_fidx l b m (i + 1)]
      by_cases e : lmax m l = m
      · rw [if_pos e, if_pos e]
      · rw [if_neg e, if_neg e, if_neg (by omega)]; omega
theorem imax_fidx (x : Int) (l : List Int) : imax (x :: l) = fidx (lmax x l) (x :: l) := by
  rw [imax, imaxG_fidx, fidx]
  by_cases e : lmax x l = x
  · rw [if_pos e, if_pos e.symm]
  · rw [if_neg e, if_neg (fun h => e h.symm)]; omega
theorem imaxG_get : ∀ (l : List Int) (b : Nat) (m : Int) (i : Nat), b < i → (imaxG b m i l = b ∨ i ≤ imaxG b m i l)
  | [], b, m, i, _ => Or.inl rfl
  | x :: l, b, m, i, h => by
    rw [imaxG]
    split
    · rcases imaxG_get l i x (i + 1) (by omega) with e | e <;> omega
    · rcases imaxG_get l b m (i + 1) (by omega) with e | e <;> omega

/-! ### The machine's step is the step -/
theorem addQ_eq {w p : Int → Int} {kept M : Int} : ∀ {row out : List Int}, (∀ s ∈ row, p s = kept * s / 1000 ∧ 0 ≤ p s ∧ p s ≤ M) → (∀ o ∈ out, 0 ≤ o ∧ o ≤ 4000000000000000000 - M) → (∀ n, 0 ≤ n → n ≤ 4000000000000000000 → w n = n) → addQ w p row out = addP kept row out
  | s :: row, o :: out, h, ho, hw => by
    have h0 := h s (by simp)
    have o0 := ho o (by simp)
    rw [addQ, addP, hw _ (by omega) (by omega), h0.1, addQ_eq (fun s hs => h s (by simp [hs])) (fun o h => ho o (by simp [h])) hw]
  | [], _, _, _, _ => by simp [addQ, addP]
  | _ :: _, [], _, _, _ => by simp [addQ, addP]
theorem addP_bd {kept M : Int} : ∀ {row out : List Int}, (∀ s ∈ row, 0 ≤ kept * s / 1000 ∧ kept * s / 1000 ≤ M) → 0 ≤ M → ∀ B, (∀ o ∈ out, 0 ≤ o ∧ o ≤ B) → ∀ o ∈ addP kept row out, 0 ≤ o ∧ o ≤ B + M
  | s :: row, o :: out, h, hM, B, ho => by
    intro y hy
    simp only [addP] at hy
    have h0 := h s (by simp)
    have o0 := ho o (by simp)
    rcases List.mem_cons.1 hy with rfl | hy
    · omega
    · exact addP_bd (fun s hs => h s (by simp [hs])) hM B (fun o h => ho o (by simp [h])) y hy
  | [], out, _, hM, B, ho => by
    intro y hy
    simp only [addP] at hy
    have := ho y hy; omega
  | _ :: _, [], _, hM, B, ho => by
    intro y hy
    simp [addP] at hy
theorem addAt_bd {x M : Int} (h : 0 ≤ x ∧ x ≤ M) {B : Int} : ∀ {l : List Int} {i : Nat}, (∀ o ∈ l, 0 ≤ o ∧ o ≤ B) → ∀ o ∈ addAt l i x, 0 ≤ o ∧ o ≤ B + M
  | [], _, _ => by intro y hy; simp [addAt] at hy
  | o :: l, 0, ho => by
    intro y hy
    simp only [addAt] at hy
    rcases List.mem_cons.1 hy with rfl | hy
    · have := ho o (by simp); omega
    · have := ho y (by simp [hy]); omega
  | o :: l, i + 1, ho => by
    intro y hy
    simp only [addAt] at hy
    rcases List.mem_cons.1 hy with rfl | hy
    · have := ho y (by simp); omega
    · exact addAt_bd h (fun o h => ho o (by simp [h])) y hy
theorem sumQ_eq {w p : Int → Int} {kept M : Int} : ∀ {row : List Int} {n : Int}, (∀ s ∈ row, p s = kept * s / 1000 ∧ 0 ≤ p s ∧ p s ≤ M) → -1000000000000000000 + M * row.length ≤ n → n ≤ 4000000000000000000 → (∀ n, -1000000000000000000 ≤ n → n ≤ 4000000000000000000 → w n = n) → sumQ w p n row = n - gsum kept row
  | [], n, _, _, _, _ => by simp [sumQ, gsum]
  | s :: row, n, h, h1, h2, hw => by
    have h0 := h s (by simp)
    rw [List.length_cons, show M * ((row.length + 1 : Nat) : Int) = M * row.length + M by rw [Int.natCast_add, Int.mul_add]; simp] at h1
    have hM : 0 ≤ M * row.length := Int.mul_nonneg (by omega) (by omega)
    rw [sumQ, hw _ (by omega) (by omega), sumQ_eq (fun s hs => h s (by simp [hs])) (by omega) (by omega) hw, gsum, h0.1]
    omega
end Go.En
