/- A part of the proof: lemmas. -/
import Derived.Test.YtddhjopopelkjaaGreatYX2
set_option linter.unusedVariables false
set_option linter.unusedSimpArgs false
namespace Go.Proofs.YtddhjopopelkjaaGreat
open Go Go.Sx Go.En
/-! ### Exchanges, as data -/
abbrev rv (r : List Int) : List AV := [.isl 1 (nl r)]
abbrev exA (rows : List (List Int)) (ls : List Int) : AV := .agg [.isl 1 (rows.map rv), .isl 1 (nl ls)]
theorem rv_length (rows : List (List Int)) : (rows.map rv).length = rows.length := by simp
theorem rv_get {rows : List (List Int)} {k : Nat} (h : k < rows.length) : (rows.map rv)[((k : Nat) : Int).toNat]? = some [.isl 1 (nl rows[k])] := by simp [h]
theorem rv_inj {a b : List (List Int)} (h : a.map rv = b.map rv) : a = b := by
  refine List.map_inj_right (fun x y hxy => ?_) |>.1 h
  simp only [rv, List.cons.injEq, AV.isl.injEq, true_and, and_true] at hxy
  exact nl_inj hxy
structure ExS (rows : List (List Int)) (ls : List Int) : Prop where
  r : rows.length < 100000
  e : ∀ r ∈ rows, r.length < 100000
  l : ls.length < 100000
noncomputable def kX2 : PC := ins 105 (cBad 106 [.ipt [.func 100 [] []]] 0 1000) kX1
theorem kX2_ok : PCOK Tryz.prog kX2 := famA_ok (fun l h => d105_106 h) kX1_ok
theorem shr_within (n : Int) : shr n = within n 0 1000 := rfl
theorem all_within {r : List Int} : (r.all fun n => within n 0 1000) = r.all shr := rfl
theorem tot_of {r : List Int} (h : r.all shr = true) (hl : r.length < 100000) : sumW 0 r = tot r := by
  rw [List.all_eq_true] at h
  rw [sumW_eq (M := 1000) (fun x hx => shr_iff.1 (h x hx)) (by omega) (by omega), Int.zero_add]
abbrev sxX : FuncId → Bool := fun f => Nat.beq f 81 || (Nat.beq f 102 || (Nat.beq f 104 || (Nat.beq f 107 || Nat.beq f 109)))
set_option maxRecDepth 100000 in
set_option maxHeartbeats 8000000 in
theorem d27 {rows : List (List Int)} {ls : List Int} (hs : ExS rows ls) : PCall Tryz.prog 27 [exA rows ls] ⟨.tup [I (exV rows ls).1, I (exV rows ls).2], []⟩ := by
  have l1 := rv_length rows
  have l2 := nl_length ls
  obtain ⟨s1, s2, s3⟩ := hs
  unfold exV
  by_cases h0 : rows.length = 0
  · rw [if_pos h0]
    refine bs.pv (sx := nos) kX2_ok Tryz.func27 (by kernel_rfl) (by kernel_rfl) rfl ?_
    repeat' (first | refine wk3 ?_ | (refine wk2 ?_ ?_ <;> intro _) | refine wk4 ?_ | fail); all_goals (conv => whnf)
    exact ret_of rfl rfl
  rw [if_neg h0]
  by_cases h1 : 12 < rows.length
  · rw [if_pos h1]
    refine bs.pv (sx := nos) kX2_ok Tryz.func27 (by kernel_rfl) (by kernel_rfl) rfl ?_
    repeat' (first | refine wk3 ?_ | (refine wk2 ?_ ?_ <;> intro _) | refine wk4 ?_ | fail); all_goals (conv => whnf)
    exact ret_of rfl rfl
  rw [if_neg h1]
  by_cases h2 : ls.length = rows.length
  rotate_left
  · rw [if_neg h2]
    refine bs.pv (sx := nos) kX2_ok Tryz.func27 (by kernel_rfl) (by kernel_rfl) rfl ?_
    repeat' (first | refine wk3 ?_ | (refine wk2 ?_ ?_ <;> intro _) | refine wk4 ?_ | fail); all_goals (conv => whnf)
    exact ret_of rfl rfl
  rw [if_pos h2]
  refine bs.pv (sx := sxX) kX2_ok Tryz.func27 (by kernel_rfl) (by kernel_rfl) rfl ?_
  repeat' (first | refine wk3 ?_ | (refine wk2 ?_ ?_ <;> intro _) | refine wk4 ?_ | fail); all_goals (conv => whnf)
  refine loopV (S := Nat × Int) (fun t => rows.length - t.1) (fun t => [(1, .ptr 0 0 0), (4, .ptr 1 0 0), (5, .ptr 2 0 0), (25, .isl 1 (rows.map rv)), (26, I (rows.map rv).length), (27, I t.2)]) (fun _ => [(2, .row 1 [[.func 100 [] []]] true false), (1, .row 1 [[I (rows.map rv).length]] true false), (0, .row 2 [[.isl 1 (rows.map rv), .isl 1 (nl ls)]] true false)]) 3 3 (fun t => t.2 = t.1 ∧ t.1 ≤ rows.length ∧ exGo rows.length t.1 (rows.drop t.1) (ls.drop t.1) = exGo rows.length 0 rows ls) (0, 0) ⟨rfl, Nat.zero_le _, rfl⟩ (Nat.le_refl _) [] rfl (kps) (kps) ?_
  rintro ⟨k, i⟩ ⟨hi, hk, hh⟩
  dsimp only at hi hk hh ⊢
  subst hi
  generalize exGo rows.length 0 rows ls = R at *
  refine bs.av (sx := sxX) kX2_ok ?_
  by_cases hlt : k < rows.length
  · have e1 := rv_get hlt
    have e2 := nl_get (ns := ls) (k := k) (by omega)
    have hr := s2 _ (List.getElem_mem hlt)
    rw [List.drop_eq_getElem_cons hlt, List.drop_eq_getElem_cons (show k < ls.length by omega), exGo] at hh
    generalize rows[k] = r at *
    generalize ls[k]'(by omega) = L at *
    have g1 := cBad_hit (f := 106) (φ := [.ipt [.func 100 [] []]]) (lo := 0) (hi := 1000) (ns := r) (by omega)
    have g2 := famN_hit (p := Len6) (fun ns => ⟨I (sumW 0 ns), []⟩) (ns := r) (by show r.length < 1000000; omega)
    rw [all_within] at g1
    have l3 := nl_length r
    unfold rowE at hh
    rw [shr_within] at hh
    have v1 : unl (!!true) 2 = 0 := rfl
    have v2 : unl (!!false) 2 = 2 := rfl
    by_cases z1 : r.length = rows.length
    rotate_left
    · have u1 : unl (decide (((nl r).length : Int) = ((rows.map rv).length : Int))) 10 = 10 := by rw [decide_eq_false (by omega)]; rfl
      rw [if_neg z1, if_neg (by omega)] at hh
      subst hh
      repeat' (first | refine wk3 ?_ | (refine wk2 ?_ ?_ <;> intro _) | refine wk4 ?_ | fail); all_goals (conv => whnf)
      refine bs.sv (sx := sxX) kX2_ok Tryz.func81 (by kernel_rfl) (by kernel_rfl) ?_
      repeat' (first | refine wk3 ?_ | (refine wk2 ?_ ?_ <;> intro _) | refine wk4 ?_ | fail); all_goals (conv => whnf)
      refine LpM.start 5 ?_
      refine LpM.succ (bs.av (sx := sxX) kX2_ok ?_)
      repeat' (first | refine wk3 ?_ | (refine wk2 ?_ ?_ <;> intro _) | refine wk4 ?_ | fail); all_goals (conv => whnf)
      refine bs.sv (sx := sxX) kX2_ok Tryz.func102 (by kernel_rfl) (by kernel_rfl) ?_
      repeat' (first | refine wk3 ?_ | (refine wk2 ?_ ?_ <;> intro _) | refine wk4 ?_ | fail); all_goals (conv => whnf)
      exact ret_of (by rw [u1]) rfl
    have u1 : unl (decide (((nl r).length : Int) = ((rows.map rv).length : Int))) 10 = 0 := by rw [decide_eq_true (by omega)]; rfl
    rw [if_pos z1] at hh
    by_cases z2 : r.all shr = true
    rotate_left
    · rw [if_neg z2, if_neg (by omega)] at hh
      have z2 : r.all shr = false := by simpa using z2
      rw [z2] at g1
      subst hh
      repeat' (first | refine wk3 ?_ | (refine wk2 ?_ ?_ <;> intro _) | refine wk4 ?_ | fail); all_goals (conv => whnf)
      refine bs.sv (sx := sxX) kX2_ok Tryz.func81 (by kernel_rfl) (by kernel_rfl) ?_
      repeat' (first | refine wk3 ?_ | (refine wk2 ?_ ?_ <;> intro _) | refine wk4 ?_ | fail); all_goals (conv => whnf)
      refine LpM.start 5 ?_
      refine LpM.succ (bs.av (sx := sxX) kX2_ok ?_)
      repeat' (first | refine wk3 ?_ | (refine wk2 ?_ ?_ <;> intro _) | refine wk4 ?_ | fail); all_goals (conv => whnf)
      refine bs.sv (sx := sxX) kX2_ok Tryz.func102 (by kernel_rfl) (by kernel_rfl) ?_
      repeat' (first | refine wk3 ?_ | (refine wk2 ?_ ?_ <;> intro _) | refine wk4 ?_ | fail); all_goals (conv => whnf)
      refine LpM.succ (bs.av (sx := sxX) kX2_ok ?_)
      repeat' (first | refine wk3 ?_ | (refine wk2 ?_ ?_ <;> intro _) | refine wk4 ?_ | fail); all_goals (conv => whnf)
      refine bs.sv (sx := sxX) kX2_ok Tryz.func104 (by kernel_rfl) (by kernel_rfl) ?_
      repeat' (first | refine wk3 ?_ | (refine wk2 ?_ ?_ <;> intro _) | refine wk4 ?_ | fail); all_goals (conv => whnf)
      exact ret_of rfl rfl
    rw [if_pos z2] at hh
    rw [z2] at g1
    rw [tot_of z2 hr] at g2
    by_cases z3 : tot r = 1000
    rotate_left
    · rw [if_neg z3, if_neg (by omega)] at hh
      have u3 : unl (decide (tot r = 1000)) 21 = 21 := by rw [decide_eq_false z3]; rfl
      subst hh
      repeat' (first | refine wk3 ?_ | (refine wk2 ?_ ?_ <;> intro _) | refine wk4 ?_ | fail); all_goals (conv => whnf)
      refine bs.sv (sx := sxX) kX2_ok Tryz.func81 (by kernel_rfl) (by kernel_rfl) ?_
      repeat' (first | refine wk3 ?_ | (refine wk2 ?_ ?_ <;> intro _) | refine wk4 ?_ | fail); all_goals (conv => whnf)
      refine LpM.start 5 ?_
      refine LpM.succ (bs.av (sx := sxX) kX2_ok ?_)
      repeat' (first | refine wk3 ?_ | (refine wk2 ?_ ?_ <;> intro _) | refine wk4 ?_ | fail); all_goals (conv => whnf)
      refine bs.sv (sx := sxX) kX2_ok Tryz.func102 (by kernel_rfl) (by kernel_rfl) ?_
      repeat' (first | refine wk3 ?_ | (refine wk2 ?_ ?_ <;> intro _) | refine wk4 ?_ | fail); all_goals (conv => whnf)
      refine LpM.succ (bs.av (sx := sxX) kX2_ok ?_)
      repeat' (first | refine wk3 ?_ | (refine wk2 ?_ ?_ <;> intro _) | refine wk4 ?_ | fail); all_goals (conv => whnf)
      refine bs.sv (sx := sxX) kX2_ok Tryz.func104 (by kernel_rfl) (by kernel_rfl) ?_
      repeat' (first | refine wk3 ?_ | (refine wk2 ?_ ?_ <;> intro _) | refine wk4 ?_ | fail); all_goals (conv => whnf)
      refine LpM.succ (bs.av (sx := sxX) kX2_ok ?_)
      repeat' (first | refine wk3 ?_ | (refine wk2 ?_ ?_ <;> intro _) | refine wk4 ?_ | fail); all_goals (conv => whnf)
      refine bs.sv (sx := sxX) kX2_ok Tryz.func107 (by kernel_rfl) (by kernel_rfl) ?_
      repeat' (first | refine wk3 ?_ | (refine wk2 ?_ ?_ <;> intro _) | refine wk4 ?_ | fail); all_goals (conv => whnf)
      exact ret_of (by rw [u3]) rfl
    rw [if_pos z3] at hh
    have u3 : unl (decide (tot r = 1000)) 21 = 0 := by rw [decide_eq_true z3]; rfl
    by_cases z4 : within L 0 1000 = true
    rotate_left
    · rw [if_neg z4, if_neg (by omega)] at hh
      have z4 : within L 0 1000 = false := by simpa using z4
      have u4 : unl (within L 0 1000) 2 = 2 := by rw [z4]; rfl
      subst hh
      repeat' (first | refine wk3 ?_ | (refine wk2 ?_ ?_ <;> intro _) | refine wk4 ?_ | fail); all_goals (conv => whnf)
      refine bs.sv (sx := sxX) kX2_ok Tryz.func81 (by kernel_rfl) (by kernel_rfl) ?_
      repeat' (first | refine wk3 ?_ | (refine wk2 ?_ ?_ <;> intro _) | refine wk4 ?_ | fail); all_goals (conv => whnf)
      refine LpM.start 5 ?_
      refine LpM.succ (bs.av (sx := sxX) kX2_ok ?_)
      repeat' (first | refine wk3 ?_ | (refine wk2 ?_ ?_ <;> intro _) | refine wk4 ?_ | fail); all_goals (conv => whnf)
      refine bs.sv (sx := sxX) kX2_ok Tryz.func102 (by kernel_rfl) (by kernel_rfl) ?_
      repeat' (first | refine wk3 ?_ | (refine wk2 ?_ ?_ <;> intro _) | refine wk4 ?_ | fail); all_goals (conv => whnf)
      refine LpM.succ (bs.av (sx := sxX) kX2_ok ?_)
      repeat' (first | refine wk3 ?_ | (refine wk2 ?_ ?_ <;> intro _) | refine wk4 ?_ | fail); all_goals (conv => whnf)
      refine bs.sv (sx := sxX) kX2_ok Tryz.func104 (by kernel_rfl) (by kernel_rfl) ?_
      repeat' (first | refine wk3 ?_ | (refine wk2 ?_ ?_ <;> intro _) | refine wk4 ?_ | fail); all_goals (conv => whnf)
      refine LpM.succ (bs.av (sx := sxX) kX2_ok ?_)
      repeat' (first | refine wk3 ?_ | (refine wk2 ?_ ?_ <;> intro _) | refine wk4 ?_ | fail); all_goals (conv => whnf)
      refine bs.sv (sx := sxX) kX2_ok Tryz.func107 (by kernel_rfl) (by kernel_rfl) ?_
      repeat' (first | refine wk3 ?_ | (refine wk2 ?_ ?_ <;> intro _) | refine wk4 ?_ | fail); all_goals (conv => whnf)
      refine LpM.succ (bs.av (sx := sxX) kX2_ok ?_)
      repeat' (first | refine wk3 ?_ | (refine wk2 ?_ ?_ <;> intro _) | refine wk4 ?_ | fail); all_goals (conv => whnf)
      refine bs.sv (sx := sxX) kX2_ok Tryz.func109 (by kernel_rfl) (by kernel_rfl) ?_
      repeat' (first | refine wk3 ?_ | (refine wk2 ?_ ?_ <;> intro _) | refine wk4 ?_ | fail); all_goals (conv => whnf)
      exact ret_of (by rw [u4]) rfl
    have u4 : unl (within L 0 1000) 2 = 0 := by rw [z4]; rfl
    rw [if_pos z4, if_pos rfl] at hh
    repeat' (first | refine wk3 ?_ | (refine wk2 ?_ ?_ <;> intro _) | refine wk4 ?_ | fail); all_goals (conv => whnf)
    refine bs.sv (sx := sxX) kX2_ok Tryz.func81 (by kernel_rfl) (by kernel_rfl) ?_
    repeat' (first | refine wk3 ?_ | (refine wk2 ?_ ?_ <;> intro _) | refine wk4 ?_ | fail); all_goals (conv => whnf)
    refine LpM.start 5 ?_
    refine LpM.succ (bs.av (sx := sxX) kX2_ok ?_)
    repeat' (first | refine wk3 ?_ | (refine wk2 ?_ ?_ <;> intro _) | refine wk4 ?_ | fail); all_goals (conv => whnf)
    refine bs.sv (sx := sxX) kX2_ok Tryz.func102 (by kernel_rfl) (by kernel_rfl) ?_
    repeat' (first | refine wk3 ?_ | (refine wk2 ?_ ?_ <;> intro _) | refine wk4 ?_ | fail); all_goals (conv => whnf)
    refine LpM.succ (bs.av (sx := sxX) kX2_ok ?_)
    repeat' (first | refine wk3 ?_ | (refine wk2 ?_ ?_ <;> intro _) | refine wk4 ?_ | fail); all_goals (conv => whnf)
    refine bs.sv (sx := sxX) kX2_ok Tryz.func104 (by kernel_rfl) (by kernel_rfl) ?_
    repeat' (first | refine wk3 ?_ | (refine wk2 ?_ ?_ <;> intro _) | refine wk4 ?_ | fail); all_goals (conv => whnf)
    refine LpM.succ (bs.av (sx := sxX) kX2_ok ?_)
    repeat' (first | refine wk3 ?_ | (refine wk2 ?_ ?_ <;> intro _) | refine wk4 ?_ | fail); all_goals (conv => whnf)
    refine bs.sv (sx := sxX) kX2_ok Tryz.func107 (by kernel_rfl) (by kernel_rfl) ?_
    repeat' (first | refine wk3 ?_ | (refine wk2 ?_ ?_ <;> intro _) | refine wk4 ?_ | fail); all_goals (conv => whnf)
    refine LpM.succ (bs.av (sx := sxX) kX2_ok ?_)
    repeat' (first | refine wk3 ?_ | (refine wk2 ?_ ?_ <;> intro _) | refine wk4 ?_ | fail); all_goals (conv => whnf)
    refine bs.sv (sx := sxX) kX2_ok Tryz.func109 (by kernel_rfl) (by kernel_rfl) ?_
    repeat' (first | refine wk3 ?_ | (refine wk2 ?_ ?_ <;> intro _) | refine wk4 ?_ | fail); all_goals (conv => whnf)
    refine LpM.succ (bs.av (sx := sxX) kX2_ok ?_)
    repeat' (first | refine wk3 ?_ | (refine wk2 ?_ ?_ <;> intro _) | refine wk4 ?_ | fail); all_goals (conv => whnf)
    exact Done.mk ⟨(k + 1, _), [], rfl, kps, kps, ⟨W_succ (by omega), hlt, hh⟩, by dsimp only; omega⟩
  · rw [List.drop_of_length_le (by omega), exGo] at hh
    · subst hh
      repeat' (first | refine wk3 ?_ | (refine wk2 ?_ ?_ <;> intro _) | refine wk4 ?_ | fail); all_goals (conv => whnf)
      exact ret_of rfl rfl
    · intro a b c d e; cases e
def rowGo : Int → List Int → Option Int
  | s, [] => some s
  | s, x :: l => if shr x then rowGo (IntKind.i64.wrap (s + x)) l else none
theorem rowGo_eq : ∀ (l : List Int) (s : Int), rowGo s l = if l.all shr then some (sumW s l) else none
  | [], s => rfl
  | x :: l, s => by
    rw [rowGo, List.all_cons, sumW]
    cases h : shr x with
    | true => rw [if_pos rfl, Bool.true_and]; exact rowGo_eq l _
    | false => rfl
set_option maxRecDepth 100000 in
set_option maxHeartbeats 8000000 in
theorem d32 {rows : List (List Int)} {ls : List Int} (hs : ExS rows ls) : PCall Tryz.prog 32 [exA rows ls] ⟨.tup [I (exV rows ls).1, I (exV rows ls).2], []⟩ := by
  have l1 := rv_length rows
  have l2 := nl_length ls
  obtain ⟨s1, s2, s3⟩ := hs
  unfold exV
  by_cases h0 : rows.length = 0
  · rw [if_pos h0]
    refine bs.pv (sx := nos) kX2_ok Tryz.func32 (by kernel_rfl) (by kernel_rfl) rfl ?_
    repeat' (first | refine wk3 ?_ | (refine wk2 ?_ ?_ <;> intro _) | refine wk4 ?_ | fail); all_goals (conv => whnf)
    exact ret_of rfl rfl
  rw [if_neg h0]
  by_cases h1 : 12 < rows.length
  · rw [if_pos h1]
    refine bs.pv (sx := nos) kX2_ok Tryz.func32 (by kernel_rfl) (by kernel_rfl) rfl ?_
    repeat' (first | refine wk3 ?_ | (refine wk2 ?_ ?_ <;> intro _) | refine wk4 ?_ | fail); all_goals (conv => whnf)
    exact ret_of rfl rfl
  rw [if_neg h1]
  by_cases h2 : ls.length = rows.length
  rotate_left
  · rw [if_neg h2]
    refine bs.pv (sx := nos) kX2_ok Tryz.func32 (by kernel_rfl) (by kernel_rfl) rfl ?_
    repeat' (first | refine wk3 ?_ | (refine wk2 ?_ ?_ <;> intro _) | refine wk4 ?_ | fail); all_goals (conv => whnf)
    exact ret_of rfl rfl
  rw [if_pos h2]
  refine bs.pv (sx := nos) kX2_ok Tryz.func32 (by kernel_rfl) (by kernel_rfl) rfl ?_
  repeat' (first | refine wk3 ?_ | (refine wk2 ?_ ?_ <;> intro _) | refine wk4 ?_ | fail); all_goals (conv => whnf)
  refine loopV (S := Nat × Int) (fun t => rows.length - t.1) (fun t => [(1, .ptr 0 0 0), (4, I (rows.map rv).length), (5, I t.2)]) (fun _ => [(0, .row 2 [[.isl 1 (rows.map rv), .isl 1 (nl ls)]] true false)]) 1 1 (fun t => t.2 = t.1 ∧ t.1 ≤ rows.length ∧ exGo rows.length t.1 (rows.drop t.1) (ls.drop t.1) = exGo rows.length 0 rows ls) (0, 0) ⟨rfl, Nat.zero_le _, rfl⟩ (Nat.le_refl _) [] rfl (kps) (kps) ?_
  rintro ⟨k, i⟩ ⟨hi, hk, hh⟩
  dsimp only at hi hk hh ⊢
  subst hi
  generalize exGo rows.length 0 rows ls = R at *
  refine bs.av (sx := nos) kX2_ok ?_
  by_cases hlt : k < rows.length
  · have e1 := rv_get hlt
    have e2 := nl_get (ns := ls) (k := k) (by omega)
    have hr := s2 _ (List.getElem_mem hlt)
    rw [List.drop_eq_getElem_cons hlt, List.drop_eq_getElem_cons (show k < ls.length by omega), exGo] at hh
    generalize rows[k] = r at *
    generalize ls[k]'(by omega) = L at *
    have l3 := nl_length r
    unfold rowE at hh
    by_cases z1 : r.length = rows.length
    rotate_left
    · rw [if_neg z1, if_neg (by omega)] at hh
      subst hh
      repeat' (first | refine wk3 ?_ | (refine wk2 ?_ ?_ <;> intro _) | refine wk4 ?_ | fail); all_goals (conv => whnf)
      exact ret_of rfl rfl
    rw [if_pos z1] at hh
    repeat' (first | refine wk3 ?_ | (refine wk2 ?_ ?_ <;> intro _) | refine wk4 ?_ | fail); all_goals (conv => whnf)
    refine loopV (S := Nat × Int × Int) (fun t => r.length - t.1) (fun t => [(1, .ptr 0 0 0), (4, I (rows.map rv).length), (5, I (k : Int)), (6, I t.2.2), (7, I t.2.1)]) (fun _ => [(0, .row 2 [[.isl 1 (rows.map rv), .isl 1 (nl ls)]] true false)]) 1 1 (fun t => t.2.1 = t.1 ∧ t.1 ≤ r.length ∧ rowGo t.2.2 (r.drop t.1) = rowGo 0 r) (0, 0, 0) ⟨rfl, Nat.zero_le _, rfl⟩ (Nat.le_refl _) [] rfl (kps) (kps) ?_
    rintro ⟨j, ij, s⟩ ⟨hij, hj, hq⟩
    dsimp only at hij hj hq ⊢
    subst hij
    rw [rowGo_eq r 0] at hq
    refine bs.av (sx := nos) kX2_ok ?_
    by_cases hlj : j < r.length
    · have e4 := nl_get hlj
      rw [List.drop_eq_getElem_cons hlj, rowGo, shr_within] at hq
      generalize r[j] = x at *
      generalize hb : within x 0 1000 = b at *
      cases b
      · rw [if_neg (by simp)] at hq
        have hz : ¬ (r.all shr) = true := fun c => by rw [if_pos c] at hq; cases hq
        rw [if_neg hz, if_neg (by omega)] at hh
        subst hh
        repeat' (first | refine wk3 ?_ | (refine wk2 ?_ ?_ <;> intro _) | refine wk4 ?_ | fail); all_goals (conv => whnf)
        all_goals first
          | exact ret_of rfl rfl
          | (exfalso; simp_all; done)
      · rw [if_pos rfl, ← rowGo_eq r 0] at hq
        repeat' (first | refine wk3 ?_ | (refine wk2 ?_ ?_ <;> intro _) | refine wk4 ?_ | fail); all_goals (conv => whnf)
        all_goals first
          | exact Done.mk ⟨(j + 1, _, _), [], rfl, kps, kps, ⟨W_succ (by omega), hlj, hq⟩, by dsimp only; omega⟩
          | (exfalso; simp_all; done)
    · rw [List.drop_of_length_le (by omega), rowGo] at hq
      have hz : (r.all shr) = true := by
        by_cases c : (r.all shr) = true
        · exact c
        · rw [if_neg c] at hq; cases hq
      rw [if_pos hz] at hq
      rw [if_pos hz] at hh
      have hq := Option.some.inj hq
      rw [tot_of hz hr] at hq
      subst hq
      by_cases z3 : tot r = 1000
      rotate_left
      · rw [if_neg z3, if_neg (by omega)] at hh
        subst hh
        repeat' (first | refine wk3 ?_ | (refine wk2 ?_ ?_ <;> intro _) | refine wk4 ?_ | fail); all_goals (conv => whnf)
        exact ret_of rfl rfl
      rw [if_pos z3] at hh
      rw [shr_within] at hh
      generalize hb : within L 0 1000 = b at *
      cases b
      · rw [if_neg (show ¬ (false = true) by simp), if_neg (show ¬ ((2 : Int) = 0) by omega)] at hh
        subst hh
        repeat' (first | refine wk3 ?_ | (refine wk2 ?_ ?_ <;> intro _) | refine wk4 ?_ | fail); all_goals (conv => whnf)
        all_goals first
          | exact ret_of rfl rfl
          | (exfalso; simp_all; done)
      · rw [if_pos rfl, if_pos rfl] at hh
        repeat' (first | refine wk3 ?_ | (refine wk2 ?_ ?_ <;> intro _) | refine wk4 ?_ | fail); all_goals (conv => whnf)
        all_goals first
          | exact Done.mk ⟨(k + 1, _), [], rfl, kps, kps, ⟨W_succ (by omega), hlt, hh⟩, by dsimp only; omega⟩
          | (exfalso; simp_all; done)
  · rw [List.drop_of_length_le (by omega), exGo] at hh
    · subst hh
      repeat' (first | refine wk3 ?_ | (refine wk2 ?_ ?_ <;> intro _) | refine wk4 ?_ | fail); all_goals (conv => whnf)
      exact ret_of rfl rfl
    · intro a b c d e; cases e
end Go.Proofs.YtddhjopopelkjaaGreat
