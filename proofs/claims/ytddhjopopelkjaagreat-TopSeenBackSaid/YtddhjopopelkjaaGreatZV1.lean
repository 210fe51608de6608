/- A part of the proof: lemmas. -/
import Derived.Test.YtddhjopopelkjaaGreatZF15
import Derived.Test.YtddhjopopelkjaaGreatZV0
set_option linter.unusedVariables false
set_option linter.unusedSimpArgs false
namespace Go.Proofs.YtddhjopopelkjaaGreat
open Go Go.Sx

/-! ### HallSees -/
def plcEq (c : Sea) (x y z : Int) : Bool := decide (c.x = x) && (decide (c.y = y) && (decide (c.z = z) && true))
def seeL (f : Pt → Pt → Bool) (x y z : Int) : Nat → List Sea → List Int
  | _, [] => []
  | i, c :: l => if plcEq c x y z || f ⟨x, y, z, 1⟩ ⟨c.x, c.y, c.z, 1⟩ then (i : Int) :: seeL f x y z (i + 1) l else seeL f x y z (i + 1) l
theorem seeL_len (f : Pt → Pt → Bool) (x y z : Int) : ∀ (l : List Sea) (i : Nat), (seeL f x y z i l).length ≤ l.length
  | [], _ => by simp [seeL]
  | c :: l, i => by
    rw [seeL]
    have := seeL_len f x y z l (i + 1)
    split <;> simp <;> omega
noncomputable abbrev frT (h : Hal) (s : Stg) : List AV → Option PRes := famA (fun _ : Pt × Pt => True) (fun w => [.agg (stgL h s), wayA w.1 w.2]) (fun w => ⟨Bo (freeP h s w.1 w.2), []⟩)
theorem frT_hit {h : Hal} {s : Stg} {p q : Pt} : frT h s [.agg (stgL h s), wayA p q] = some ⟨Bo (freeP h s p q), []⟩ :=
  famA_hit (p := fun _ : Pt × Pt => True) (g := fun w => [.agg (stgL h s), wayA w.1 w.2]) (r := fun w => ⟨Bo (freeP h s w.1 w.2), []⟩) (k := (p, q)) (fun j hj => by
    obtain ⟨⟨a, b, c, d⟩, ⟨x, y, z, w⟩⟩ := j
    obtain ⟨a', b', c', d'⟩ := p
    obtain ⟨x', y', z', w'⟩ := q
    simp only [List.cons.injEq, AV.agg.injEq, AV.int.injEq, true_and, and_true] at hj
    obtain ⟨rfl, rfl, rfl, rfl, rfl, rfl, rfl, rfl⟩ := hj
    rfl) trivial
def seeE (h : Hal) (s : Stg) (x y z : Int) : Int := if serr h s = 0 then plErr h x y z else serr h s
theorem seeE_zero {h : Hal} {s : Stg} {x y z : Int} (h0 : seeE h s x y z = 0) : serr h s = 0 ∧ plErr h x y z = 0 := by
  unfold seeE at h0
  split at h0
  · rename_i h1; exact ⟨h1, h0⟩
  · rename_i h1; exact absurd h0 h1
set_option maxRecDepth 100000 in
set_option maxHeartbeats 16000000 in
theorem c68o {h : Hal} (hk : h.ok) {s : Stg} (hs : s.few) {x y z : Int} (h0 : seeE h s x y z = 0) : PCall Tryz.prog 73 [h.av, s.av, P3 x y z] ⟨.tup [.isl 1 (nl (seeL (freeP h s) x y z 0 h.ss)), I 0], []⟩ := by
  obtain ⟨z1, z2⟩ := seeE_zero h0
  have g := sit_of hk hs z1
  have a83 := c83 hk hs
  have a160 := c160 hk.f x y z
  rw [z1] at a83
  rw [z2] at a160
  have hk0 : PCOK Tryz.prog (ins 149 (frT h s) (ins 147 (one [h.av, s.av] ⟨.tup [.agg (stgL h s), I 0], []⟩) (ins 148 (one [h.av, P3 x y z] ⟨I 0, []⟩) kG4))) := famA_ok (fun w _ => c103 g w.1 w.2) (one_ok a83 (one_ok a160 kG4_ok))
  have hlen := seeL_len (freeP h s) x y z h.ss 0
  have f5 := hk.f.2.2.2.2.1
  have l5 := se_length h.ss
  generalize hL : seeL (freeP h s) x y z 0 h.ss = L at *
  refine PCall.freeze (res := lstR L fun v => .tup [v, I 0]) ?_ (by
    cases L with
    | nil => exact ⟨rfl, ⟨rfl, rfl⟩, trivial⟩
    | cons a l => exact ⟨⟨rfl, rfl, rfl⟩, ⟨rfl, rfl⟩, trivial⟩)
  refine bs.pv (sx := nos) hk0 Tryz.func73 (by kernel_rfl) (by kernel_rfl) (by cases L <;> rfl) ?_
  repeat' (first | refine wk3 ?_ | (refine wk2 ?_ ?_ <;> intro _) | refine wk4 ?_ | fail); all_goals (conv => whnf)
  refine loopV (S := Nat × Int × Nat × Nat × List (List AV) × List Int) (fun t => h.ss.length - t.1) (fun t => [(5, .ptr 2 0 0), (8, .ptr 3 0 0), (10, gv 4 t.2.2.1 t.2.2.2.1), (31, .isl 4 (h.ss.map Sea.av)), (32, I (h.ss.map Sea.av).length), (33, I t.2.1)]) (fun t => gz 4 1 t.2.2.1 t.2.2.2.2.1 [(3, .row 11 [stgL h s] true false), (2, .row 3 [[I x, I y, I z]] true false)]) 4 5
    (fun t => t.2.1 = t.1 ∧ t.1 ≤ h.ss.length ∧ t.2.2.2.1 = t.2.2.2.2.1.length ∧ t.2.2.2.2.1 = nl t.2.2.2.2.2 ∧ (t.2.2.1 = 0 ↔ t.2.2.2.2.2 = []) ∧ t.2.2.2.2.2.length ≤ t.1 ∧ t.2.2.2.2.2 ++ seeL (freeP h s) x y z t.1 (h.ss.drop t.1) = L) (0, 0, 0, 0, [], []) ⟨rfl, Nat.zero_le _, rfl, rfl, by simp, Nat.zero_le _, hL⟩ (Nat.le_refl _) [] rfl (kps) (kps) ?_
  clear hL
  rintro ⟨k, i, m, len, els, acc⟩ ⟨hi, hkk, hlen2, hels, hm, hacc, hh⟩
  dsimp only at hi hkk hlen2 hels hm hacc hh ⊢
  subst hi
  refine bs.av (sx := nos) hk0 ?_
  have e4 : els.length < 2000 := by rw [hels, nl_length]; omega
  by_cases hlt : k < h.ss.length
  · have e1 := se_get hlt
    rw [List.drop_eq_getElem_cons hlt, seeL] at hh
    generalize h.ss[k] = c at *
    have hf := frT_hit (h := h) (s := s) (p := ⟨x, y, z, 1⟩) (q := ⟨c.x, c.y, c.z, 1⟩)
    have hpe : plcEq c x y z = (decide (c.x = x) && (decide (c.y = y) && (decide (c.z = z) && true))) := rfl
    generalize freeP h s ⟨x, y, z, 1⟩ ⟨c.x, c.y, c.z, 1⟩ = fr at *
    rw [hpe] at hh
    clear hpe a83 a160 g
    generalize hb : (decide (c.x = x) && (decide (c.y = y) && (decide (c.z = z) && true)) || fr) = b at hh
    cases b with
    | true =>
      rw [if_pos rfl] at hh
      cases m with
      | zero =>
        have h0 : acc = [] := hm.1 rfl
        subst h0
        repeat' (first | refine wk3 ?_ | (refine wk2 ?_ ?_ <;> intro _) | refine wk4 ?_ | fail); all_goals (conv => whnf)
        clear hf e1 hk0
        all_goals first
          | (exfalso; clear hh; simp_all; done)
          | exact Done.mk ⟨(k + 1, _, 1, _, _, [(k : Int)]), [(4, 21)], rfl, kps, kps, ⟨W_succ (by omega), hlt, rfl, rfl, by simp, by dsimp only [List.length_cons, List.length_nil]; omega, hh⟩, by dsimp only; omega⟩
      | succ m =>
        repeat' (first | refine wk3 ?_ | (refine wk2 ?_ ?_ <;> intro _) | refine wk4 ?_ | fail); all_goals (conv => whnf)
        clear hf e1 hk0
        all_goals first
          | (exfalso; clear hh; simp_all; done)
          | exact Done.mk ⟨(k + 1, _, m + 2, _, _, acc ++ [(k : Int)]), [(4, 21)], rfl, kps, kps, ⟨W_succ (by omega), hlt, by exact List.length_append.symm, by show _ = nl _; rw [nl_append, ← hels]; rfl, by simp, by simp; omega, by rw [List.append_assoc]; exact hh⟩, by dsimp only; omega⟩
    | false =>
      simp only [Bool.false_eq_true, if_false] at hh
      cases m with
      | zero =>
        have h0 : acc = [] := hm.1 rfl
        subst h0
        repeat' (first | refine wk3 ?_ | (refine wk2 ?_ ?_ <;> intro _) | refine wk4 ?_ | fail); all_goals (conv => whnf)
        clear hf e1 hk0
        all_goals first
          | (exfalso; clear hh; simp_all; done)
          | exact Done.mk ⟨(k + 1, _, 0, len, els, []), [], rfl, kps, kps, ⟨W_succ (by omega), hlt, hlen2, hels, hm, by simp, hh⟩, by dsimp only; omega⟩
      | succ m =>
        repeat' (first | refine wk3 ?_ | (refine wk2 ?_ ?_ <;> intro _) | refine wk4 ?_ | fail); all_goals (conv => whnf)
        clear hf e1 hk0
        all_goals first
          | (exfalso; clear hh; simp_all; done)
          | exact Done.mk ⟨(k + 1, _, m + 1, len, els, acc), [(4, 4)], rfl, kps, kps, ⟨W_succ (by omega), hlt, hlen2, hels, hm, by dsimp only; omega, hh⟩, by dsimp only; omega⟩
  · rw [List.drop_of_length_le (by omega), seeL, List.append_nil] at hh
    subst hh
    cases m with
    | zero =>
      have h0 : acc = [] := hm.1 rfl
      subst h0
      repeat' (first | refine wk3 ?_ | (refine wk2 ?_ ?_ <;> intro _) | refine wk4 ?_ | fail); all_goals (conv => whnf)
      exact ret_of rfl rfl
    | succ m =>
      subst hels
      subst hlen2
      cases acc with
      | nil => have := hm.2 rfl; omega
      | cons a l =>
        repeat' (first | refine wk3 ?_ | (refine wk2 ?_ ?_ <;> intro _) | refine wk4 ?_ | fail); all_goals (conv => whnf)
        exact ret_rows [4] rfl rfl rfl
end Go.Proofs.YtddhjopopelkjaaGreat
