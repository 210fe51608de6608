/- A part of the proof: lemmas. -/
import Derived.Test.YtddhjopopelkjaaGreatZJ2
import Derived.Test.YtddhjopopelkjaaGreatZU5
set_option linter.unusedVariables false
set_option linter.unusedSimpArgs false
namespace Go.Proofs.YtddhjopopelkjaaGreat
open Go Go.Sx
/-! ### Errors of walks -/
def prvL (l : List Int) : Nat → Option Int
  | 0 => none
  | k + 1 => l[k]?
def wkG (n : Int) : Option Int → List Int → Int
  | _, [] => 0
  | q, x :: l => if within x 0 n then (if q = some x then 26 else wkG n (some x) l) else 6
theorem wkG_step {n : Int} {l : List Int} {k : Nat} (hk : k < l.length) : wkG n (prvL l k) (l.drop k) = if within l[k] 0 n then (if prvL l k = some l[k] then 26 else wkG n (prvL l (k + 1)) (l.drop (k + 1))) else 6 := by
  rw [List.drop_eq_getElem_cons hk, wkG, show prvL l (k + 1) = some l[k] by rw [prvL, List.getElem?_eq_getElem hk]]
def suE (h : Hal) (l : List Int) : Int := if 4 < (l.length : Int) then 8 else wkG (nsur h - 1) none l
theorem wkG_in {n : Int} : ∀ {l : List Int} {q : Option Int}, wkG n q l = 0 → ∀ x ∈ l, 0 ≤ x ∧ x ≤ n
  | [], _, _, x, hx => by simp at hx
  | y :: l, q, h, x, hx => by
    rw [wkG] at h
    split at h
    · rename_i c
      split at h
      · cases h
      · rw [List.mem_cons] at hx
        rcases hx with rfl | hx
        · exact within_iff.1 c
        · exact wkG_in h x hx
    · cases h
set_option maxRecDepth 100000 in
set_option maxHeartbeats 8000000 in
theorem d93 {h : Hal} (hf : h.few) (l : List Int) (hl : l.length < 1000) : PCall Tryz.prog 93 [h.av, .isl 1 (nl l)] ⟨I (suE h l), []⟩ := by
  have l2 := nl_length l
  have hk : PCOK Tryz.prog (ins 139 (cHas h) pt0) := famA_ok (fun i _ => c88 hf i) pt0_ok
  unfold suE
  by_cases c : 4 < (l.length : Int)
  · rw [if_pos c]
    refine bs.pv (sx := nos) pt0_ok Tryz.func93 (by kernel_rfl) (by kernel_rfl) rfl ?_
    repeat' (first | refine wk3 ?_ | (refine wk2 ?_ ?_ <;> intro _) | refine wk4 ?_ | fail); all_goals (conv => whnf)
    exact ret_int rfl
  rw [if_neg c]
  refine bs.pv (sx := nos) hk Tryz.func93 (by kernel_rfl) (by kernel_rfl) rfl ?_
  repeat' (first | refine wk3 ?_ | (refine wk2 ?_ ?_ <;> intro _) | refine wk4 ?_ | fail); all_goals (conv => whnf)
  refine loopV (S := Nat × Int) (fun t => l.length - t.1) (fun t => [(1, .isl 1 (nl l)), (2, .ptr 0 0 0), (5, I t.2)]) (fun _ => [(0, .row 9 [h.cells] true false)]) 1 1 (fun t => t.2 = t.1 ∧ t.1 ≤ l.length ∧ wkG (nsur h - 1) (prvL l t.1) (l.drop t.1) = wkG (nsur h - 1) none l) (0, 0) ⟨rfl, Nat.zero_le _, rfl⟩ (Nat.le_refl _) [] rfl (kps) (kps) ?_
  rintro ⟨k, i⟩ ⟨hi, hk1, hh⟩
  dsimp only at hi hk1 hh ⊢
  subst hi
  generalize wkG (nsur h - 1) none l = R at *
  refine bs.av (sx := nos) hk ?_
  by_cases hlt : k < l.length
  · have e1 := nl_get hlt
    have g1 := has_hit h l[k]
    rw [wkG_step hlt] at hh
    cases k with
    | zero =>
      rw [show prvL l 0 = none from rfl] at hh
      rw [if_neg (c := none = some l[0]) (by simp)] at hh
      generalize l[0] = x at *
      cases hw : within x 0 (nsur h - 1)
      · rw [hw] at hh g1
        have hh : (6 : Int) = R := hh
        subst hh
        repeat' (first | refine wk3 ?_ | (refine wk2 ?_ ?_ <;> intro _) | refine wk4 ?_ | fail); all_goals (conv => whnf)
        exact ret_int rfl
      · rw [hw, if_pos rfl] at hh
        rw [hw] at g1
        repeat' (first | refine wk3 ?_ | (refine wk2 ?_ ?_ <;> intro _) | refine wk4 ?_ | fail); all_goals (conv => whnf)
        exact Done.mk ⟨(1, _), [], rfl, kps, kps, ⟨W_succ (k := 0) (by omega), hlt, hh⟩, by dsimp only; omega⟩
    | succ k =>
      have w : IntKind.i64.wrap (((k + 1 : Nat) : Int) - 1) = (k : Int) := by rw [W_eq (by omega) (by omega)]; omega
      have hlt' : k < l.length := by omega
      have e2 : (nl l)[(IntKind.i64.wrap (((k + 1 : Nat) : Int) - 1)).toNat]? = some [I l[k]] := by rw [w]; exact nl_get hlt'
      rw [show prvL l (k + 1) = some l[k] by rw [prvL, List.getElem?_eq_getElem hlt']] at hh
      generalize l[k + 1] = x at *
      generalize l[k] = y at *
      cases hw : within x 0 (nsur h - 1)
      · rw [hw] at hh g1
        have hh : (6 : Int) = R := hh
        subst hh
        repeat' (first | refine wk3 ?_ | (refine wk2 ?_ ?_ <;> intro _) | refine wk4 ?_ | fail); all_goals (conv => whnf)
        exact ret_int rfl
      · rw [hw, if_pos rfl] at hh
        rw [hw] at g1
        by_cases hxy : x = y
        · rw [if_pos (by rw [hxy])] at hh
          subst hh
          repeat' (first | refine wk3 ?_ | (refine wk2 ?_ ?_ <;> intro _) | refine wk4 ?_ | fail); all_goals (conv => whnf)
          exact ret_int rfl
        · rw [if_neg (fun c => hxy (by simpa using c.symm))] at hh
          repeat' (first | refine wk3 ?_ | (refine wk2 ?_ ?_ <;> intro _) | refine wk4 ?_ | fail); all_goals (conv => whnf)
          exact Done.mk ⟨(k + 1 + 1, _), [], rfl, kps, kps, ⟨W_succ (k := k + 1) (by omega), hlt, hh⟩, by dsimp only; omega⟩
  · rw [List.drop_of_length_le (by omega), wkG] at hh
    repeat' (first | refine wk3 ?_ | (refine wk2 ?_ ?_ <;> intro _) | refine wk4 ?_ | fail); all_goals (conv => whnf)
    exact ret_int hh
set_option maxRecDepth 100000 in
set_option maxHeartbeats 8000000 in
theorem d165 {h : Hal} (hk : h.ok) (he : h.err = 0) (l : List Int) (hl : l.length < 1000) : PCall Tryz.prog 165 [h.av, .isl 1 (nl l)] ⟨I (suE h l), []⟩ := by
  have l2 := nl_length l
  have h64 := c64 hk
  rw [he, if_pos rfl] at h64
  have l3 := surf_len h
  have hn := nsN_eq h
  have hf := hk.f
  have hnb : nsN h < 10000 := by obtain ⟨f1, f2, f3, f4, f5, f6⟩ := hf; unfold nsN; omega
  have hk := one_ok h64 (ins_ok (f0 := 210) (r := rWu) (fun a res h => by unfold rWu at h; split at h <;> cases h; exact d210 _ _ _) pt0_ok)
  unfold suE
  by_cases c : 4 < (l.length : Int)
  · rw [if_pos c]
    refine bs.pv (sx := nos) pt0_ok Tryz.func165 (by kernel_rfl) (by kernel_rfl) rfl ?_
    repeat' (first | refine wk3 ?_ | (refine wk2 ?_ ?_ <;> intro _) | refine wk4 ?_ | fail); all_goals (conv => whnf)
    exact ret_int rfl
  rw [if_neg c]
  have w0 : IntKind.i64.wrap (((sl (surf h)).length : Int) - 1) = nsur h - 1 := by rw [l3, W_eq (by omega) (by omega)]; omega
  rw [← w0]
  refine bs.pv (sx := nos) hk Tryz.func165 (by kernel_rfl) (by kernel_rfl) rfl ?_
  repeat' (first | refine wk3 ?_ | (refine wk2 ?_ ?_ <;> intro _) | refine wk4 ?_ | fail); all_goals (conv => whnf)
  refine loopV (S := Nat × Int) (fun t => l.length - t.1) (fun t => [(1, .isl 1 (nl l)), (5, .isl 1 (sl (surf h))), (17, .isl 1 (nl l)), (18, I (nl l).length), (19, I t.2)]) (fun _ => []) 1 1 (fun t => t.2 = t.1 ∧ t.1 ≤ l.length ∧ wkG (IntKind.i64.wrap (((sl (surf h)).length : Int) - 1)) (prvL l t.1) (l.drop t.1) = wkG (IntKind.i64.wrap (((sl (surf h)).length : Int) - 1)) none l) (0, 0) ⟨rfl, Nat.zero_le _, rfl⟩ (Nat.le_refl _) [] rfl (kps) (kps) ?_
  rintro ⟨k, i⟩ ⟨hi, hk1, hh⟩
  dsimp only at hi hk1 hh ⊢
  subst hi
  generalize wkG (IntKind.i64.wrap (((sl (surf h)).length : Int) - 1)) none l = R at *
  refine bs.av (sx := nos) hk ?_
  by_cases hlt : k < l.length
  · have e1 := nl_get hlt
    rw [wkG_step hlt] at hh
    cases k with
    | zero =>
      rw [show prvL l 0 = none from rfl] at hh
      rw [if_neg (c := none = some l[0]) (by simp)] at hh
      generalize l[0] = x at *
      cases hw : within x 0 (IntKind.i64.wrap (((sl (surf h)).length : Int) - 1))
      · rw [hw] at hh
        have hh : (6 : Int) = R := hh
        subst hh
        repeat' (first | refine wk3 ?_ | (refine wk2 ?_ ?_ <;> intro _) | refine wk4 ?_ | fail); all_goals (conv => whnf)
        all_goals first
          | exact ret_int rfl
          | (exfalso; simp_all; done)
      · rw [hw, if_pos rfl] at hh
        repeat' (first | refine wk3 ?_ | (refine wk2 ?_ ?_ <;> intro _) | refine wk4 ?_ | fail); all_goals (conv => whnf)
        all_goals first
          | exact Done.mk ⟨(1, _), [], rfl, kps, kps, ⟨W_succ (k := 0) (by omega), hlt, hh⟩, by dsimp only; omega⟩
          | (exfalso; simp_all; done)
    | succ k =>
      have w : IntKind.i64.wrap (((k + 1 : Nat) : Int) - 1) = (k : Int) := by rw [W_eq (by omega) (by omega)]; omega
      have hlt' : k < l.length := by omega
      have e2 : (nl l)[(IntKind.i64.wrap (((k + 1 : Nat) : Int) - 1)).toNat]? = some [I l[k]] := by rw [w]; exact nl_get hlt'
      rw [show prvL l (k + 1) = some l[k] by rw [prvL, List.getElem?_eq_getElem hlt']] at hh
      generalize l[k + 1] = x at *
      generalize l[k] = y at *
      cases hw : within x 0 (IntKind.i64.wrap (((sl (surf h)).length : Int) - 1))
      · rw [hw] at hh
        have hh : (6 : Int) = R := hh
        subst hh
        repeat' (first | refine wk3 ?_ | (refine wk2 ?_ ?_ <;> intro _) | refine wk4 ?_ | fail); all_goals (conv => whnf)
        all_goals first
          | exact ret_int rfl
          | (exfalso; simp_all; done)
      · rw [hw, if_pos rfl] at hh
        by_cases hxy : x = y
        · rw [if_pos (by rw [hxy])] at hh
          subst hh
          repeat' (first | refine wk3 ?_ | (refine wk2 ?_ ?_ <;> intro _) | refine wk4 ?_ | fail); all_goals (conv => whnf)
          all_goals first
            | exact ret_int rfl
            | (exfalso; simp_all; done)
        · rw [if_neg (fun c => hxy (by simpa using c.symm))] at hh
          repeat' (first | refine wk3 ?_ | (refine wk2 ?_ ?_ <;> intro _) | refine wk4 ?_ | fail); all_goals (conv => whnf)
          all_goals first
            | exact Done.mk ⟨(k + 1 + 1, _), [], rfl, kps, kps, ⟨W_succ (k := k + 1) (by omega), hlt, hh⟩, by dsimp only; omega⟩
            | (exfalso; simp_all; done)
  · rw [List.drop_of_length_le (by omega), wkG] at hh
    repeat' (first | refine wk3 ?_ | (refine wk2 ?_ ?_ <;> intro _) | refine wk4 ?_ | fail); all_goals (conv => whnf)
    exact ret_int hh
theorem d164 {h : Hal} (hk : h.ok) : PCall Tryz.prog 164 [h.av] ⟨I h.err, []⟩ := by
  refine bs.pv (sx := nos) (one_ok (c63k hk) pt0_ok) Tryz.func164 (by kernel_rfl) (by kernel_rfl) rfl ?_
  repeat' (first | refine wk3 ?_ | (refine wk2 ?_ ?_ <;> intro _) | refine wk4 ?_ | fail); all_goals (conv => whnf)
  exact ret_int rfl
def pthEh (h : Hal) (p : Pth) : Int := if pthE p = 0 then suE h p.ss else pthE p
theorem d23 {h : Hal} (hf : h.few) (p : Pth) (hl : p.ss.length < 1000) : PCall Tryz.prog 23 [h.av, p.av] ⟨I (pthEh h p), []⟩ := by
  have h1 := one_ok (d92 p) (one_ok (d93 hf p.ss hl) pt0_ok)
  unfold pthEh
  by_cases c : pthE p = 0
  · rw [if_pos c]
    rw [c] at h1
    refine bs.pv (sx := nos) h1 Tryz.func23 (by kernel_rfl) (by kernel_rfl) rfl ?_
    repeat' (first | refine wk3 ?_ | (refine wk2 ?_ ?_ <;> intro _) | refine wk4 ?_ | fail); all_goals (conv => whnf)
    exact ret_int rfl
  · rw [if_neg c]
    generalize pthE p = E at *
    refine bs.pv (sx := nos) h1 Tryz.func23 (by kernel_rfl) (by kernel_rfl) rfl ?_
    repeat' (first | refine wk3 ?_ | (refine wk2 ?_ ?_ <;> intro _) | refine wk4 ?_ | fail); all_goals (conv => whnf)
    exact ret_int rfl
end Go.Proofs.YtddhjopopelkjaaGreat
