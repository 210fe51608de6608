/- A part of the proof: lemmas. -/
import Derived.Test.YtdaliaafmcjikaaGreatJA8
import Derived.Test.YtdaliaafmcjikaaGreatSxFn2
set_option linter.unusedVariables false
set_option linter.unusedSimpArgs false
namespace Go.Proofs.YtdaliaafmcjikaaGreat
open Go Go.Sx
/-! ### Lists of paths -/
abbrev pv (p : Pth) : List AV := [.isl 1 (nl p.ss), .isl 4 (p.ps.map hp4), I p.sq]
theorem pv_len (l : List Pth) : (l.map pv).length = l.length := by simp
theorem pv_get {l : List Pth} {k : Nat} (h : k < l.length) : (l.map pv)[((k : Nat) : Int).toNat]? = some (pv l[k]) := by simp [h]
def lsGo : Option Int → List Pth → Int
  | _, [] => 0
  | q, p :: l => if pthE p ≠ 0 then pthE p else if q.any (fun s => decide (p.sq < s)) = true then 9 else lsGo (some p.sq) l
def prvS (l : List Pth) : Nat → Option Int
  | 0 => none
  | k + 1 => (l[k]?).map (·.sq)
theorem lsGo_step {l : List Pth} {k : Nat} (hk : k < l.length) : lsGo (prvS l k) (l.drop k) = if pthE l[k] ≠ 0 then pthE l[k] else if (prvS l k).any (fun s => decide (l[k].sq < s)) = true then 9 else lsGo (prvS l (k + 1)) (l.drop (k + 1)) := by
  rw [List.drop_eq_getElem_cons hk, lsGo, show prvS l (k + 1) = some l[k].sq by rw [prvS, List.getElem?_eq_getElem hk]; rfl]
def lsE (l : List Pth) : Int := if 200 < (l.length : Int) then 8 else lsGo none l
noncomputable def kE96 : PC := ins 96 (famP fun p => ⟨I (pthE p), []⟩) (ins 41 (famP fun p => ⟨I (pthE p), []⟩) pt0)
theorem kE96_ok : PCOK Tryz.prog kE96 := famA_ok (fun p _ => d162 p) (famA_ok (fun p _ => d92 p) pt0_ok)
set_option maxRecDepth 100000 in
set_option maxHeartbeats 8000000 in
theorem d51 {l : List Pth} (hl : l.length < 100000) : PCall Tryz.prog 51 [.isl 3 (l.map pv)] ⟨I (lsE l), []⟩ := by
  have l1 := pv_len l
  unfold lsE
  by_cases hbig : 200 < (l.length : Int)
  · rw [if_pos hbig]
    refine bs.pv (sx := nos) kE96_ok Tryz.func51 (by kernel_rfl) (by kernel_rfl) rfl ?_
    repeat' (first | refine wk3 ?_ | (refine wk2 ?_ ?_ <;> intro _) | refine wk4 ?_ | fail); all_goals (conv => whnf)
    exact ret_int rfl
  rw [if_neg hbig]
  refine bs.pv (sx := nos) kE96_ok Tryz.func51 (by kernel_rfl) (by kernel_rfl) rfl ?_
  repeat' (first | refine wk3 ?_ | (refine wk2 ?_ ?_ <;> intro _) | refine wk4 ?_ | fail); all_goals (conv => whnf)
  refine loopV (S := Nat × Int) (fun t => l.length - t.1) (fun t => [(0, .isl 3 (l.map pv)), (3, I t.2)]) (fun _ => []) 0 0 (fun t => t.2 = t.1 ∧ t.1 ≤ l.length ∧ lsGo (prvS l t.1) (l.drop t.1) = lsGo none l) (0, 0) ⟨rfl, Nat.zero_le _, rfl⟩ (Nat.le_refl _) [] rfl (kps) (kps) ?_
  rintro ⟨k, i⟩ ⟨hi, hk, hh⟩
  dsimp only at hi hk hh ⊢
  subst hi
  generalize lsGo none l = R at *
  refine bs.av (sx := nos) kE96_ok ?_
  by_cases hlt : k < l.length
  · have e1 := pv_get hlt
    rw [lsGo_step hlt] at hh
    have f1 := famP_hit (fun p => ⟨I (pthE p), []⟩) l[k]
    cases k with
    | zero =>
      rw [show prvS l 0 = none from rfl] at hh
      generalize l[0] = x at *
      by_cases z : pthE x = 0
      · rw [if_neg (fun c => c z), if_neg (by simp)] at hh
        rw [z] at f1
        repeat' (first | refine wk3 ?_ | (refine wk2 ?_ ?_ <;> intro _) | refine wk4 ?_ | fail); all_goals (conv => whnf)
        all_goals first
          | exact Done.mk ⟨(0 + 1, _), [], rfl, kps, kps, ⟨W_succ (k := 0) (by omega), hlt, hh⟩, by dsimp only; omega⟩
          | (exfalso; simp_all; done)
      · rw [if_pos z] at hh
        generalize pthE x = E at *
        subst hh
        repeat' (first | refine wk3 ?_ | (refine wk2 ?_ ?_ <;> intro _) | refine wk4 ?_ | fail); all_goals (conv => whnf)
        all_goals first | exact ret_int rfl | (exfalso; simp_all; done)
    | succ k =>
      have w : IntKind.i64.wrap (((k + 1 : Nat) : Int) - 1) = (k : Int) := by rw [W_eq (by omega) (by omega)]; omega
      have hlt' : k < l.length := by omega
      have e2 : (l.map pv)[(IntKind.i64.wrap (((k + 1 : Nat) : Int) - 1)).toNat]? = some (pv l[k]) := by rw [w]; exact pv_get hlt'
      rw [show prvS l (k + 1) = some l[k].sq by rw [prvS, List.getElem?_eq_getElem hlt']; rfl] at hh
      generalize l[k + 1] = x at *
      generalize l[k] = y at *
      by_cases z : pthE x = 0
      · rw [if_neg (fun c => c z)] at hh
        rw [z] at f1
        by_cases z2 : x.sq < y.sq
        · rw [if_pos (by simpa using z2)] at hh
          subst hh
          repeat' (first | refine wk3 ?_ | (refine wk2 ?_ ?_ <;> intro _) | refine wk4 ?_ | fail); all_goals (conv => whnf)
          all_goals first | exact ret_int rfl | (exfalso; simp_all; done) | (exfalso; simp_all; omega)
        · rw [if_neg (by simpa using z2)] at hh
          repeat' (first | refine wk3 ?_ | (refine wk2 ?_ ?_ <;> intro _) | refine wk4 ?_ | fail); all_goals (conv => whnf)
          all_goals first
            | exact Done.mk ⟨(k + 1 + 1, _), [], rfl, kps, kps, ⟨W_succ (k := k + 1) (by omega), hlt, hh⟩, by dsimp only; omega⟩
            | (exfalso; simp_all; done)
            | (exfalso; simp_all; omega)
      · rw [if_pos z] at hh
        generalize pthE x = E at *
        subst hh
        repeat' (first | refine wk3 ?_ | (refine wk2 ?_ ?_ <;> intro _) | refine wk4 ?_ | fail); all_goals (conv => whnf)
        all_goals first | exact ret_int rfl | (exfalso; simp_all; done)
  · rw [List.drop_of_length_le (by omega), lsGo] at hh
    repeat' (first | refine wk3 ?_ | (refine wk2 ?_ ?_ <;> intro _) | refine wk4 ?_ | fail); all_goals (conv => whnf)
    exact ret_int hh
set_option maxRecDepth 100000 in
set_option maxHeartbeats 8000000 in
theorem d111 {l : List Pth} (hl : l.length < 100000) : PCall Tryz.prog 111 [.isl 3 (l.map pv)] ⟨I (lsE l), []⟩ := by
  have l1 := pv_len l
  unfold lsE
  by_cases hbig : 200 < (l.length : Int)
  · rw [if_pos hbig]
    refine bs.pv (sx := nos) kE96_ok Tryz.func111 (by kernel_rfl) (by kernel_rfl) rfl ?_
    repeat' (first | refine wk3 ?_ | (refine wk2 ?_ ?_ <;> intro _) | refine wk4 ?_ | fail); all_goals (conv => whnf)
    exact ret_int rfl
  rw [if_neg hbig]
  refine bs.pv (sx := nos) kE96_ok Tryz.func111 (by kernel_rfl) (by kernel_rfl) rfl ?_
  repeat' (first | refine wk3 ?_ | (refine wk2 ?_ ?_ <;> intro _) | refine wk4 ?_ | fail); all_goals (conv => whnf)
  refine loopV (S := Nat × Int) (fun t => l.length - t.1) (fun t => [(0, .isl 3 (l.map pv)), (9, .isl 3 (l.map pv)), (10, I (l.map pv).length), (11, I t.2)]) (fun _ => []) 0 0 (fun t => t.2 = t.1 ∧ t.1 ≤ l.length ∧ lsGo (prvS l t.1) (l.drop t.1) = lsGo none l) (0, 0) ⟨rfl, Nat.zero_le _, rfl⟩ (Nat.le_refl _) [] rfl (kps) (kps) ?_
  rintro ⟨k, i⟩ ⟨hi, hk, hh⟩
  dsimp only at hi hk hh ⊢
  subst hi
  generalize lsGo none l = R at *
  refine bs.av (sx := nos) kE96_ok ?_
  by_cases hlt : k < l.length
  · have e1 := pv_get hlt
    rw [lsGo_step hlt] at hh
    have f1 := famP_hit (fun p => ⟨I (pthE p), []⟩) l[k]
    cases k with
    | zero =>
      rw [show prvS l 0 = none from rfl] at hh
      generalize l[0] = x at *
      by_cases z : pthE x = 0
      · rw [if_neg (fun c => c z), if_neg (by simp)] at hh
        rw [z] at f1
        repeat' (first | refine wk3 ?_ | (refine wk2 ?_ ?_ <;> intro _) | refine wk4 ?_ | fail); all_goals (conv => whnf)
        all_goals first
          | exact Done.mk ⟨(0 + 1, _), [], rfl, kps, kps, ⟨W_succ (k := 0) (by omega), hlt, hh⟩, by dsimp only; omega⟩
          | (exfalso; simp_all; done)
      · rw [if_pos z] at hh
        generalize pthE x = E at *
        subst hh
        repeat' (first | refine wk3 ?_ | (refine wk2 ?_ ?_ <;> intro _) | refine wk4 ?_ | fail); all_goals (conv => whnf)
        all_goals first | exact ret_int rfl | (exfalso; simp_all; done)
    | succ k =>
      have w : IntKind.i64.wrap (((k + 1 : Nat) : Int) - 1) = (k : Int) := by rw [W_eq (by omega) (by omega)]; omega
      have hlt' : k < l.length := by omega
      have e2 : (l.map pv)[(IntKind.i64.wrap (((k + 1 : Nat) : Int) - 1)).toNat]? = some (pv l[k]) := by rw [w]; exact pv_get hlt'
      rw [show prvS l (k + 1) = some l[k].sq by rw [prvS, List.getElem?_eq_getElem hlt']; rfl] at hh
      generalize l[k + 1] = x at *
      generalize l[k] = y at *
      by_cases z : pthE x = 0
      · rw [if_neg (fun c => c z)] at hh
        rw [z] at f1
        by_cases z2 : x.sq < y.sq
        · rw [if_pos (by simpa using z2)] at hh
          subst hh
          repeat' (first | refine wk3 ?_ | (refine wk2 ?_ ?_ <;> intro _) | refine wk4 ?_ | fail); all_goals (conv => whnf)
          all_goals first | exact ret_int rfl | (exfalso; simp_all; done) | (exfalso; simp_all; omega)
        · rw [if_neg (by simpa using z2)] at hh
          repeat' (first | refine wk3 ?_ | (refine wk2 ?_ ?_ <;> intro _) | refine wk4 ?_ | fail); all_goals (conv => whnf)
          all_goals first
            | exact Done.mk ⟨(k + 1 + 1, _), [], rfl, kps, kps, ⟨W_succ (k := k + 1) (by omega), hlt, hh⟩, by dsimp only; omega⟩
            | (exfalso; simp_all; done)
            | (exfalso; simp_all; omega)
      · rw [if_pos z] at hh
        generalize pthE x = E at *
        subst hh
        repeat' (first | refine wk3 ?_ | (refine wk2 ?_ ?_ <;> intro _) | refine wk4 ?_ | fail); all_goals (conv => whnf)
        all_goals first | exact ret_int rfl | (exfalso; simp_all; done)
  · rw [List.drop_of_length_le (by omega), lsGo] at hh
    repeat' (first | refine wk3 ?_ | (refine wk2 ?_ ?_ <;> intro _) | refine wk4 ?_ | fail); all_goals (conv => whnf)
    exact ret_int hh
end Go.Proofs.YtdaliaafmcjikaaGreat
