/- A part of the proof: lemmas. -/
import Derived.Test.YtdaliaafmcjikaaGreatJA4
set_option linter.unusedVariables false
set_option linter.unusedSimpArgs false
namespace Go.Proofs.YtdaliaafmcjikaaGreat
open Go Go.Sx
/-! ### Two paths alike -/
abbrev Pt4 := Int × Int × Int × Int
def eqP4 (a b : Pt4) : Bool := decide (a.1 = b.1) && (decide (a.2.1 = b.2.1) && (decide (a.2.2.1 = b.2.2.1) && decide (a.2.2.2 = b.2.2.2)))
def eqP : List Pt4 → List Pt4 → Bool
  | [], [] => true
  | x :: a, y :: b => eqP4 x y && eqP a b
  | _, _ => false
theorem eqP4_iff {a b : Pt4} : eqP4 a b = true ↔ a = b := by
  obtain ⟨a1, a2, a3, a4⟩ := a
  obtain ⟨b1, b2, b3, b4⟩ := b
  simp [eqP4]
theorem eqP_iff : ∀ {a b : List Pt4}, eqP a b = true ↔ a = b
  | [], [] => by simp [eqP]
  | x :: a, y :: b => by rw [eqP, Bool.and_eq_true, eqP4_iff, eqP_iff]; simp
  | [], y :: b => by simp [eqP]
  | x :: a, [] => by simp [eqP]
theorem eqP_len {a b : List Pt4} (h : a.length ≠ b.length) : eqP a b = false := by
  rw [Bool.eq_false_iff, ne_eq, eqP_iff]
  intro e; exact h (by rw [e])
def same (a b : Pth) : Bool := eqN a.ss b.ss && (decide (a.sq = b.sq) && eqP a.ps b.ps)
theorem same_iff {a b : Pth} : same a b = true ↔ a = b := by
  obtain ⟨a1, a2, a3⟩ := a
  obtain ⟨b1, b2, b3⟩ := b
  unfold same
  rw [Bool.and_eq_true, Bool.and_eq_true, eqN_iff, eqP_iff, decide_eq_true_eq]
  simp only [Pth.mk.injEq]
  exact ⟨fun ⟨h1, h2, h3⟩ => ⟨h1, h3, h2⟩, fun ⟨h1, h2, h3⟩ => ⟨h1, h3, h2⟩⟩
theorem hp_len (l : List Pt4) : (l.map hp4).length = l.length := by simp
theorem hp_get {l : List Pt4} {k : Nat} (h : k < l.length) : (l.map hp4)[((k : Nat) : Int).toNat]? = some (hp4 l[k]) := by simp [h]
set_option maxRecDepth 100000 in
set_option maxHeartbeats 8000000 in
theorem d20 {a b : Pth} (ha : a.ss.length < 1000000) (hb : b.ss.length < 1000000) (ka : a.ps.length < 1000000) (kb : b.ps.length < 1000000) : PCall Tryz.prog 20 [a.av, b.av] ⟨Bo (same a b), []⟩ := by
  obtain ⟨a1, a2, a3⟩ := a
  obtain ⟨b1, b2, b3⟩ := b
  dsimp only at ha hb ka kb
  have l1 := hp_len a2
  have l2 := hp_len b2
  have q1 := ints_hit ha hb
  have hk : PCOK Tryz.prog (ins 58 intsT pt0) := intsT_ok pt0_ok
  unfold same
  dsimp only
  cases h1 : eqN a1 b1
  · rw [h1] at q1
    refine bs.pv (sx := nos) hk Tryz.func20 (by kernel_rfl) (by kernel_rfl) rfl ?_
    repeat' (first | refine wk3 ?_ | (refine wk2 ?_ ?_ <;> intro _) | refine wk4 ?_ | fail); all_goals (conv => whnf)
    exact ret_bool rfl
  rw [h1] at q1
  by_cases h2 : a3 = b3
  rotate_left
  · rw [decide_eq_false h2]
    refine bs.pv (sx := nos) hk Tryz.func20 (by kernel_rfl) (by kernel_rfl) rfl ?_
    repeat' (first | refine wk3 ?_ | (refine wk2 ?_ ?_ <;> intro _) | refine wk4 ?_ | fail); all_goals (conv => whnf)
    exact ret_bool rfl
  rw [decide_eq_true h2]
  by_cases h3 : a2.length = b2.length
  rotate_left
  · rw [eqP_len h3]
    refine bs.pv (sx := nos) hk Tryz.func20 (by kernel_rfl) (by kernel_rfl) rfl ?_
    repeat' (first | refine wk3 ?_ | (refine wk2 ?_ ?_ <;> intro _) | refine wk4 ?_ | fail); all_goals (conv => whnf)
    all_goals first | exact ret_bool rfl | (exfalso; simp_all <;> omega)
  refine bs.pv (sx := nos) hk Tryz.func20 (by kernel_rfl) (by kernel_rfl) rfl ?_
  repeat' (first | refine wk3 ?_ | (refine wk2 ?_ ?_ <;> intro _) | refine wk4 ?_ | fail); all_goals (conv => whnf)
  · exfalso; simp_all
  refine loopV (S := Nat × Int) (fun t => a2.length - t.1) (fun t => [(2, .ptr 0 0 0), (3, .ptr 1 0 0), (5, I t.2)]) (fun _ => [(1, .row 3 [[.isl 1 (nl b1), .isl 4 (b2.map hp4), I b3]] true false), (0, .row 3 [[.isl 1 (nl a1), .isl 4 (a2.map hp4), I a3]] true false)]) 2 2 (fun t => t.2 = t.1 ∧ t.1 ≤ a2.length ∧ eqP (a2.drop t.1) (b2.drop t.1) = eqP a2 b2) (0, 0) ⟨rfl, Nat.zero_le _, rfl⟩ (Nat.le_refl _) [] rfl (kps) (kps) ?_
  rintro ⟨k, i⟩ ⟨hi, hkk, hh⟩
  dsimp only at hi hkk hh ⊢
  subst hi
  generalize eqP a2 b2 = R at *
  refine bs.av (sx := nos) hk ?_
  by_cases hlt : k < a2.length
  · have e1 := hp_get hlt
    have e2 := hp_get (l := b2) (k := k) (by omega)
    rw [List.drop_eq_getElem_cons hlt, List.drop_eq_getElem_cons (show k < b2.length by omega), eqP] at hh
    generalize a2[k] = x at *
    generalize b2[k]'(by omega) = y at *
    cases h4 : eqP4 x y
    · have h5 : ¬ x = y := fun e => by rw [eqP4_iff.2 e] at h4; cases h4
      rw [h4] at hh
      have hh : false = R := hh
      subst hh
      obtain ⟨x1, x2, x3, x4⟩ := x
      obtain ⟨y1, y2, y3, y4⟩ := y
      repeat' (first | refine wk3 ?_ | (refine wk2 ?_ ?_ <;> intro _) | refine wk4 ?_ | fail); all_goals (conv => whnf)
      all_goals first | exact ret_bool rfl | (exfalso; rename_i q; simp [eqP4] at h4 q; omega)
    · have h5 := eqP4_iff.1 h4
      subst h5
      rw [h4, Bool.true_and] at hh
      obtain ⟨x1, x2, x3, x4⟩ := x
      repeat' (first | refine wk3 ?_ | (refine wk2 ?_ ?_ <;> intro _) | refine wk4 ?_ | fail); all_goals (conv => whnf)
      all_goals first | exact Done.mk ⟨(k + 1, _), [], rfl, kps, kps, ⟨W_succ (by omega), hlt, hh⟩, by dsimp only; omega⟩ | (exfalso; rename_i q; simp at q; done)
  · rw [List.drop_of_length_le (by omega), List.drop_of_length_le (by omega)] at hh
    repeat' (first | refine wk3 ?_ | (refine wk2 ?_ ?_ <;> intro _) | refine wk4 ?_ | fail); all_goals (conv => whnf)
    exact ret_bool hh
end Go.Proofs.YtdaliaafmcjikaaGreat
