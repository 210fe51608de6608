/- A part of the proof: lemmas. -/
import Derived.Test.YtjpmeaagnhojgaaGreatE2
import Derived.Test.YtjpmeaagnhojgaaGreatV0
set_option linter.unusedVariables false
set_option linter.unusedSimpArgs false
namespace Go.Proofs.YtjpmeaagnhojgaaGreat
open Go Go.Sx

/-! ### How many settings: the program -/
set_option maxRecDepth 100000 in
set_option maxHeartbeats 4000000 in
theorem c80 {h : Hal} (hf : h.few) : PCall Tryz.prog 80 [h.av] ⟨.isl 1 (nl (curG 0 h.ws)), []⟩ := by
  have l4 := wa_length h.ws
  obtain ⟨f1, f2, f3, f4, f5, f6⟩ := hf
  have hlen := curG_len h.ws 0
  generalize hL : curG 0 h.ws = L at *
  refine PCall.freeze (res := lstR L fun v => v) ?_ (by
    cases L with
    | nil => exact rfl
    | cons a l => exact ⟨rfl, rfl, rfl⟩)
  refine bs.pv (sx := nos) pt0_ok Tryz.func80 (by kernel_rfl) (by kernel_rfl) (by cases L <;> rfl) ?_
  repeat' (first | refine wk3 ?_ | (refine wk2 ?_ ?_ <;> intro _) | refine wk4 ?_ | fail); all_goals (conv => whnf)
  refine loopV (S := Nat × Int × Nat × Nat × List (List AV) × List Int) (fun t => h.ws.length - t.1) (fun t => [(3, gv 1 t.2.2.1 t.2.2.2.1), (8, .isl 3 (h.ws.map Wal.av)), (9, I (h.ws.map Wal.av).length), (10, I t.2.1)]) (fun t => gz 1 1 t.2.2.1 t.2.2.2.2.1 []) 1 2
    (fun t => t.2.1 = t.1 ∧ t.1 ≤ h.ws.length ∧ t.2.2.2.1 = t.2.2.2.2.1.length ∧ t.2.2.2.2.1 = nl t.2.2.2.2.2 ∧ (t.2.2.1 = 0 ↔ t.2.2.2.2.2 = []) ∧ t.2.2.2.2.2.length ≤ t.1 ∧ t.2.2.2.2.2 ++ curG t.1 (h.ws.drop t.1) = L) (0, 0, 0, 0, [], []) ⟨rfl, Nat.zero_le _, rfl, rfl, by simp, Nat.zero_le _, hL⟩ (Nat.le_refl _) [] rfl (kps) (kps) ?_
  clear hL
  rintro ⟨k, i, m, len, els, acc⟩ ⟨hi, hkk, hlen2, hels, hm, hacc, hh⟩
  dsimp only at hi hkk hlen2 hels hm hacc hh ⊢
  subst hi
  refine bs.av (sx := nos) pt0_ok ?_
  have e4 : els.length < 2000 := by rw [hels, nl_length]; omega
  by_cases hlt : k < h.ws.length
  · have e1 := wa_get hlt
    rw [List.drop_eq_getElem_cons hlt, curG] at hh
    generalize h.ws[k] = c at *
    have e2 : (c.cu == ⟨#[]⟩) = noCu c := rfl
    cases hb : noCu c with
    | true =>
      rw [hb, if_pos rfl] at hh
      rw [hb] at e2
      cases m with
      | zero =>
        repeat' (first | refine wk3 ?_ | (refine wk2 ?_ ?_ <;> intro _) | refine wk4 ?_ | fail); all_goals (conv => whnf)
        · exfalso; rename_i hx; rw [e2] at hx; cases hx
        · exact Done.mk ⟨(k + 1, _, 0, len, els, acc), [], rfl, kps, kps, ⟨W_succ (by omega), hlt, hlen2, hels, hm, by dsimp only; omega, hh⟩, by dsimp only; omega⟩
      | succ m =>
        repeat' (first | refine wk3 ?_ | (refine wk2 ?_ ?_ <;> intro _) | refine wk4 ?_ | fail); all_goals (conv => whnf)
        · exfalso; rename_i hx; rw [e2] at hx; cases hx
        · exact Done.mk ⟨(k + 1, _, m + 1, len, els, acc), [(1, 1)], rfl, kps, kps, ⟨W_succ (by omega), hlt, hlen2, hels, hm, by dsimp only; omega, hh⟩, by dsimp only; omega⟩
    | false =>
      rw [hb] at hh e2
      simp only [Bool.false_eq_true, if_false] at hh
      cases m with
      | zero =>
        have h0 : acc = [] := hm.1 rfl
        subst h0
        repeat' (first | refine wk3 ?_ | (refine wk2 ?_ ?_ <;> intro _) | refine wk4 ?_ | fail); all_goals (conv => whnf)
        · exact Done.mk ⟨(k + 1, _, 1, _, _, [(k : Int)]), [(1, 4)], rfl, kps, kps, ⟨W_succ (by omega), hlt, rfl, rfl, by simp, by dsimp only [List.length_cons, List.length_nil]; omega, hh⟩, by dsimp only; omega⟩
        · exfalso; rename_i hx; rw [e2] at hx; cases hx
      | succ m =>
        repeat' (first | refine wk3 ?_ | (refine wk2 ?_ ?_ <;> intro _) | refine wk4 ?_ | fail); all_goals (conv => whnf)
        · exact Done.mk ⟨(k + 1, _, m + 2, _, _, acc ++ [(k : Int)]), [(1, 4)], rfl, kps, kps, ⟨W_succ (by omega), hlt, by exact List.length_append.symm, by show _ = nl _; rw [nl_append, ← hels]; rfl, by simp, by simp; omega, by rw [List.append_assoc]; exact hh⟩, by dsimp only; omega⟩
        · exfalso; rename_i hx; rw [e2] at hx; cases hx
  · rw [List.drop_of_length_le (by omega), curG, List.append_nil] at hh
    subst hh
    cases m with
    | zero =>
      have h0 : acc = [] := hm.1 rfl
      subst h0
      repeat' (first | refine wk3 ?_ | (refine wk2 ?_ ?_ <;> intro _) | refine wk4 ?_ | fail); all_goals (conv => whnf)
      exact ret_of rfl rfl
    | succ m =>
      subst hels
      subst hlen2
      cases acc with
      | nil => have := hm.2 rfl; omega
      | cons a l =>
        repeat' (first | refine wk3 ?_ | (refine wk2 ?_ ?_ <;> intro _) | refine wk4 ?_ | fail); all_goals (conv => whnf)
        exact ret_rows [1] rfl rfl rfl
end Go.Proofs.YtjpmeaagnhojgaaGreat
