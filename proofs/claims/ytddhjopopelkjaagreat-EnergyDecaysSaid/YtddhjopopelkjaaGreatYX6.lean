/- A part of the proof: lemmas. -/
import Derived.Test.YtddhjopopelkjaaGreatYX5
set_option linter.unusedVariables false
set_option linter.unusedSimpArgs false
namespace Go.Proofs.YtddhjopopelkjaaGreat
open Go Go.Sx Go.En
/-! ### Checks of the reference and of the law -/
def arE (n : Nat) (e : List Int) : Int := if e.length = n then (if e.all fun x => decide (1 ≤ x) && decide (x ≤ 1000000000) then 0 else 2) else 10

set_option maxHeartbeats 4000000 in
theorem d40 {rows : List (List Int)} {ls e : List Int} (hr : rows.length < 100000) (hl : e.length < 1000000) : PCall Tryz.prog 40 [exA rows ls, .isl 1 (nl e)] ⟨I (enE rows.length e), []⟩ := by
  have l1 := rv_length rows
  have l2 := nl_length e
  unfold enE
  by_cases z : e.length = rows.length
  rotate_left
  · rw [if_neg z]
    refine bs.pv (sx := nos) kX1_ok Tryz.func40 (by kernel_rfl) (by kernel_rfl) rfl ?_
    repeat' (first | refine wk3 ?_ | (refine wk2 ?_ ?_ <;> intro _) | refine wk4 ?_ | fail); all_goals (conv => whnf)
    exact ret_int rfl
  rw [if_pos z]
  have hw : (e.all fun x => decide (0 ≤ x) && decide (x ≤ 1000000000000)) = e.all fun n => within n 0 1000000000000 := rfl
  rw [hw]
  refine bs.pv (sx := nos) kX1_ok Tryz.func40 (by kernel_rfl) (by kernel_rfl) rfl ?_
  repeat' (first | refine wk3 ?_ | (refine wk2 ?_ ?_ <;> intro _) | refine wk4 ?_ | fail); all_goals (conv => whnf)
  refine loopV (S := Nat × Int) (fun t => e.length - t.1) (fun t => [(1, .isl 1 (nl e)), (5, I t.2)]) (fun _ => []) 1 1 (fun t => t.2 = t.1 ∧ t.1 ≤ e.length ∧ ((e.drop t.1).all fun n => within n 0 1000000000000) = e.all fun n => within n 0 1000000000000) (0, 0) ⟨rfl, Nat.zero_le _, rfl⟩ (Nat.le_refl _) [] rfl (kps) (kps) ?_
  rintro ⟨k, i⟩ ⟨hi, hk, hh⟩
  dsimp only at hi hk hh ⊢
  subst hi
  generalize (e.all fun n => within n 0 1000000000000) = R at *
  refine bs.av (sx := nos) kX1_ok ?_
  by_cases hlt : k < e.length
  · have e1 := nl_get hlt
    rw [List.drop_eq_getElem_cons hlt, List.all_cons] at hh
    generalize e[k] = x at *
    generalize hb : within x 0 1000000000000 = b at *
    cases b
    · rw [Bool.false_and] at hh
      subst hh
      repeat' (first | refine wk3 ?_ | (refine wk2 ?_ ?_ <;> intro _) | refine wk4 ?_ | fail); all_goals (conv => whnf)
      all_goals first
        | exact ret_int rfl
        | (exfalso; simp_all; done)
    · rw [Bool.true_and] at hh
      repeat' (first | refine wk3 ?_ | (refine wk2 ?_ ?_ <;> intro _) | refine wk4 ?_ | fail); all_goals (conv => whnf)
      all_goals first
        | exact Done.mk ⟨(k + 1, _), [], rfl, kps, kps, ⟨W_succ (by omega), hlt, hh⟩, by dsimp only; omega⟩
        | (exfalso; simp_all; done)
  · rw [List.drop_of_length_le (by omega)] at hh
    subst hh
    repeat' (first | refine wk3 ?_ | (refine wk2 ?_ ?_ <;> intro _) | refine wk4 ?_ | fail); all_goals (conv => whnf)
    exact ret_int rfl

set_option maxHeartbeats 4000000 in
theorem d42 {rows : List (List Int)} {ls e : List Int} (hr : rows.length < 100000) (hl : e.length < 1000000) : PCall Tryz.prog 42 [exA rows ls, .isl 1 (nl e)] ⟨I (arE rows.length e), []⟩ := by
  have l1 := rv_length rows
  have l2 := nl_length e
  unfold arE
  by_cases z : e.length = rows.length
  rotate_left
  · rw [if_neg z]
    refine bs.pv (sx := nos) kX1_ok Tryz.func42 (by kernel_rfl) (by kernel_rfl) rfl ?_
    repeat' (first | refine wk3 ?_ | (refine wk2 ?_ ?_ <;> intro _) | refine wk4 ?_ | fail); all_goals (conv => whnf)
    exact ret_int rfl
  rw [if_pos z]
  have hw : (e.all fun x => decide (1 ≤ x) && decide (x ≤ 1000000000)) = e.all fun n => within n 1 1000000000 := rfl
  rw [hw]
  refine bs.pv (sx := nos) kX1_ok Tryz.func42 (by kernel_rfl) (by kernel_rfl) rfl ?_
  repeat' (first | refine wk3 ?_ | (refine wk2 ?_ ?_ <;> intro _) | refine wk4 ?_ | fail); all_goals (conv => whnf)
  refine loopV (S := Nat × Int) (fun t => e.length - t.1) (fun t => [(1, .isl 1 (nl e)), (5, I t.2)]) (fun _ => []) 1 1 (fun t => t.2 = t.1 ∧ t.1 ≤ e.length ∧ ((e.drop t.1).all fun n => within n 1 1000000000) = e.all fun n => within n 1 1000000000) (0, 0) ⟨rfl, Nat.zero_le _, rfl⟩ (Nat.le_refl _) [] rfl (kps) (kps) ?_
  rintro ⟨k, i⟩ ⟨hi, hk, hh⟩
  dsimp only at hi hk hh ⊢
  subst hi
  generalize (e.all fun n => within n 1 1000000000) = R at *
  refine bs.av (sx := nos) kX1_ok ?_
  by_cases hlt : k < e.length
  · have e1 := nl_get hlt
    rw [List.drop_eq_getElem_cons hlt, List.all_cons] at hh
    generalize e[k] = x at *
    generalize hb : within x 1 1000000000 = b at *
    cases b
    · rw [Bool.false_and] at hh
      subst hh
      repeat' (first | refine wk3 ?_ | (refine wk2 ?_ ?_ <;> intro _) | refine wk4 ?_ | fail); all_goals (conv => whnf)
      all_goals first
        | exact ret_int rfl
        | (exfalso; simp_all; done)
    · rw [Bool.true_and] at hh
      repeat' (first | refine wk3 ?_ | (refine wk2 ?_ ?_ <;> intro _) | refine wk4 ?_ | fail); all_goals (conv => whnf)
      all_goals first
        | exact Done.mk ⟨(k + 1, _), [], rfl, kps, kps, ⟨W_succ (by omega), hlt, hh⟩, by dsimp only; omega⟩
        | (exfalso; simp_all; done)
  · rw [List.drop_of_length_le (by omega)] at hh
    subst hh
    repeat' (first | refine wk3 ?_ | (refine wk2 ?_ ?_ <;> intro _) | refine wk4 ?_ | fail); all_goals (conv => whnf)
    exact ret_int rfl

/-- Few patches. -/
abbrev patP (rows : List (List Int)) (ls e : List Int) : Prop := (5 < rows.length ∧ rows.length ≤ 12) ∨ 14 < rows.length ∨ 16 < ls.length ∨ 16 < e.length
def patB (rows : List (List Int)) (ls e : List Int) : Bool := !decide (patP rows ls e) && rows.all fun r => decide (r.length ≤ 16)
set_option maxHeartbeats 8000000 in
theorem d26 (rows : List (List Int)) (ls e : List Int) : PCall Tryz.prog 26 [exA rows ls, .isl 1 (nl e)] ⟨Bo (patB rows ls e), []⟩ := by
  have l1 := rv_length rows
  have l2 := nl_length e
  have l3 := nl_length ls
  unfold patB
  by_cases z : patP rows ls e
  · rw [decide_eq_true z, Bool.not_true, Bool.false_and]
    refine bs.pv (sx := nos) kX1_ok Tryz.func26 (by kernel_rfl) (by kernel_rfl) rfl ?_
    repeat' (first | refine wk3 ?_ | (refine wk2 ?_ ?_ <;> intro _) | refine wk4 ?_ | fail); all_goals (conv => whnf)
    all_goals first
      | exact ret_bool rfl
      | (exfalso; simp_all; omega)
  · rw [decide_eq_false z, Bool.not_false, Bool.true_and]
    have z : ¬ ((5 < rows.length ∧ rows.length ≤ 12) ∨ 14 < rows.length ∨ 16 < ls.length ∨ 16 < e.length) := z
    rcases (show rows.length ≤ 5 ∨ 12 < rows.length by omega) with c0 | c0
    all_goals
      refine bs.pv (sx := nos) kX1_ok Tryz.func26 (by kernel_rfl) (by kernel_rfl) rfl ?_
      repeat' (first | refine wk3 ?_ | (refine wk2 ?_ ?_ <;> intro _) | refine wk4 ?_ | fail); all_goals (conv => whnf)
      refine loopV (S := Nat × Int) (fun t => rows.length - t.1) (fun t => [(2, .ptr 0 0 0), (5, I t.2)]) (fun _ => [(0, .row 2 [[.isl 1 (rows.map rv), .isl 1 (nl ls)]] true false)]) 1 1 (fun t => t.2 = t.1 ∧ t.1 ≤ rows.length ∧ ((rows.drop t.1).all fun r => decide (r.length ≤ 16)) = rows.all fun r => decide (r.length ≤ 16)) (0, 0) ⟨rfl, Nat.zero_le _, rfl⟩ (Nat.le_refl _) [] rfl (kps) (kps) ?_
      rintro ⟨k, i⟩ ⟨hi, hk, hh⟩
      dsimp only at hi hk hh ⊢
      subst hi
      generalize (rows.all fun r => decide (r.length ≤ 16)) = R at *
      refine bs.av (sx := nos) kX1_ok ?_
      by_cases hlt : k < rows.length
      · have e1 := rv_get hlt
        rw [List.drop_eq_getElem_cons hlt, List.all_cons] at hh
        generalize rows[k] = r at *
        have l4 := nl_length r
        by_cases c : r.length ≤ 16
        · rw [decide_eq_true c, Bool.true_and] at hh
          repeat' (first | refine wk3 ?_ | (refine wk2 ?_ ?_ <;> intro _) | refine wk4 ?_ | fail); all_goals (conv => whnf)
          exact Done.mk ⟨(k + 1, _), [], rfl, kps, kps, ⟨W_succ (by omega), hlt, hh⟩, by dsimp only; omega⟩
        · rw [decide_eq_false c, Bool.false_and] at hh
          subst hh
          repeat' (first | refine wk3 ?_ | (refine wk2 ?_ ?_ <;> intro _) | refine wk4 ?_ | fail); all_goals (conv => whnf)
          exact ret_bool rfl
      · rw [List.drop_of_length_le (by omega)] at hh
        subst hh
        repeat' (first | refine wk3 ?_ | (refine wk2 ?_ ?_ <;> intro _) | refine wk4 ?_ | fail); all_goals (conv => whnf)
        exact ret_bool rfl
theorem pat_s {rows : List (List Int)} {ls e : List Int} (h : patB rows ls e = true) : ExL rows ls e := by
  unfold patB at h
  simp only [Bool.and_eq_true, Bool.not_eq_true', decide_eq_false_iff_not, List.all_eq_true, decide_eq_true_eq] at h
  obtain ⟨h1, h2⟩ := h
  exact ⟨⟨by omega, fun r hr => by have := h2 r hr; omega, by omega⟩, by omega⟩
theorem d33 {rows : List (List Int)} {ls e : List Int} (h : ExL rows ls e) : PCall Tryz.prog 33 [exA rows ls, .isl 1 (nl e)] ⟨I (owE rows ls e), []⟩ := by
  have hk := one_ok (d40 (ls := ls) h.1.r (e := e) (by have := h.2; omega)) kX3_ok
  have g1 := famX_hit (p := ExS) rExV h.1
  unfold rExV at g1
  unfold owE
  by_cases z : (exV rows ls).2 = 0
  · rw [if_neg (fun c => c z)]
    refine bs.pv (sx := nos) hk Tryz.func33 (by kernel_rfl) (by kernel_rfl) rfl ?_
    repeat' (first | refine wk3 ?_ | (refine wk2 ?_ ?_ <;> intro _) | refine wk4 ?_ | fail); all_goals (conv => whnf)
    exact ret_int rfl
  · rw [if_pos z]
    refine bs.pv (sx := nos) hk Tryz.func33 (by kernel_rfl) (by kernel_rfl) rfl ?_
    repeat' (first | refine wk3 ?_ | (refine wk2 ?_ ?_ <;> intro _) | refine wk4 ?_ | fail); all_goals (conv => whnf)
    exact ret_int rfl
set_option maxRecDepth 100000 in
set_option maxHeartbeats 8000000 in
theorem d110 {rows : List (List Int)} (hl : rows.length < 100000) (he : ∀ r ∈ rows, r.length < 100000) : PCall Tryz.prog 110 [.isl 1 (rows.map rv)] ⟨.isl 1 (rows.map rv), []⟩ := by
  have l1 := rv_length rows
  by_cases h0 : rows.length = 0
  · obtain rfl := List.eq_nil_of_length_eq_zero h0
    refine PCall.freeze (res := ⟨.nils, []⟩) ?_ rfl
    refine bs.pv (sx := nos) kX3_ok Tryz.func110 (by kernel_rfl) (by kernel_rfl) rfl ?_
    conv => whnf
    refine LpM.start 1 ?_
    refine LpM.succ (bs.av (sx := nos) kX3_ok ?_)
    repeat' (first | refine wk3 ?_ | (refine wk2 ?_ ?_ <;> intro _) | refine wk4 ?_ | fail); all_goals (conv => whnf)
    exact ret_of rfl rfl
  refine PCall.freeze (res := ⟨.asl 0 0 (rows.map rv).length, [(1, rows.map rv)]⟩) ?_ ⟨rfl, rfl, rfl⟩
  refine bs.pv (sx := nos) kX3_ok Tryz.func110 (by kernel_rfl) (by kernel_rfl) rfl ?_
  conv => whnf
  refine loopV (S := Nat × Int × Nat × List (List AV)) (fun t => rows.length - t.1) (fun t => [(0, .isl 1 (rows.map rv)), (3, gv 0 t.1 t.2.2.1), (4, I t.2.1)]) (fun t => gz 0 1 t.1 t.2.2.2 []) 0 1
    (fun t => t.2.1 = t.1 ∧ t.1 ≤ rows.length ∧ t.2.2.1 = t.2.2.2.length ∧ t.2.2.2 = (rows.take t.1).map rv) (0, 0, 0, []) ⟨rfl, Nat.zero_le _, rfl, rfl⟩ (Nat.le_refl _) [] rfl (kps) (kps) ?_
  rintro ⟨k, i, len, els⟩ ⟨hi, hk, hlen, hels⟩
  dsimp only at hi hk hlen hels ⊢
  subst hi
  refine bs.av (sx := nos) kX3_ok ?_
  have e4 : els.length < 100000 := by rw [hels, List.length_map, List.length_take]; omega
  by_cases hlt : k < rows.length
  · have e1 := rv_get hlt
    have e3 : (rows.take (k + 1)).map rv = (rows.take k).map rv ++ [[.isl 1 (nl rows[k])]] := by rw [List.take_succ_eq_append_getElem hlt, List.map_append]; rfl
    have e2 := cints_hit (he _ (List.getElem_mem hlt))
    generalize rows[k] = r at *
    cases k with
    | zero =>
      repeat' (first | refine wk3 ?_ | (refine wk2 ?_ ?_ <;> intro _) | refine wk4 ?_ | fail); all_goals (conv => whnf)
      exact Done.mk ⟨(1, _, _, _), [(0, 2)], rfl, kps, kps, ⟨W_succ (k := 0) (by omega), hlt, rfl, e3.symm⟩, by dsimp only; omega⟩
    | succ k =>
      repeat' (first | refine wk3 ?_ | (refine wk2 ?_ ?_ <;> intro _) | refine wk4 ?_ | fail); all_goals (conv => whnf)
      exact Done.mk ⟨(k + 1 + 1, _, _, _), [(0, 2)], rfl, kps, kps, ⟨W_succ (k := k + 1) (by omega), hlt, by exact List.length_append.symm, by show _ = _; rw [e3, ← hels]; rfl⟩, by dsimp only; omega⟩
  · rw [List.take_of_length_le (by omega)] at hels
    subst hels hlen
    cases k with
    | zero => omega
    | succ k =>
      repeat' (first | refine wk3 ?_ | (refine wk2 ?_ ?_ <;> intro _) | refine wk4 ?_ | fail); all_goals (conv => whnf)
      exact ret_rows [0] rfl rfl rfl
noncomputable abbrev cRows : List AV → Option PRes := famA (fun rows : List (List Int) => rows.length < 100000 ∧ ∀ r ∈ rows, r.length < 100000) (fun rows => [.isl 1 (rows.map rv)]) (fun rows => ⟨.isl 1 (rows.map rv), []⟩)
theorem cRows_hit {rows : List (List Int)} (h : rows.length < 100000 ∧ ∀ r ∈ rows, r.length < 100000) : cRows [.isl 1 (rows.map rv)] = some ⟨.isl 1 (rows.map rv), []⟩ :=
  famA_hit (p := fun rows : List (List Int) => rows.length < 100000 ∧ ∀ r ∈ rows, r.length < 100000) (g := fun rows => [.isl 1 (rows.map rv)]) (r := fun rows => ⟨.isl 1 (rows.map rv), []⟩) (fun j hj => by
    simp only [List.cons.injEq, AV.isl.injEq, true_and, and_true] at hj
    rw [rv_inj hj]) h
/-- Copies of lists of numbers, of their own. -/
noncomputable abbrev cintsN : List AV → Option PRes := famA (fun ns : List Int => ns.length < 100000) (fun ns => [.isl 1 (nl ns)]) (fun ns => ⟨.asl 0 0 (nl ns).length, [(1, nl ns)]⟩)
theorem cintsN_hit {ns : List Int} (h : ns.length < 100000) : cintsN [.isl 1 (nl ns)] = some ⟨.asl 0 0 (nl ns).length, [(1, nl ns)]⟩ :=
  famA_hit (p := fun ns : List Int => ns.length < 100000) (g := fun ns => [.isl 1 (nl ns)]) (r := fun ns => ⟨.asl 0 0 (nl ns).length, [(1, nl ns)]⟩) (fun j hj => by
    simp only [List.cons.injEq, AV.isl.injEq, true_and, and_true] at hj
    rw [nl_inj hj]) h
noncomputable def kXc : PC := ins 110 cRows (ins 30 cintsN pt0)
theorem kXc_ok : PCOK Tryz.prog kXc := famA_ok (fun q h => d110 h.1 h.2) (famA_ok (fun ns h => c25 ns h) pt0_ok)
/-- The copy of an exchange: what it loses lies in a list of its own. -/
theorem d28 {rows : List (List Int)} {ls : List Int} (h : ExS rows ls) : PCall Tryz.prog 28 [exA rows ls] ⟨.agg [.isl 1 (rows.map rv), .asl 0 0 (nl ls).length], [(1, nl ls)]⟩ := by
  have g1 := cRows_hit (rows := rows) ⟨h.r, h.e⟩
  have g2 := cintsN_hit h.l
  refine bs.pv (sx := nos) kXc_ok Tryz.func28 (by kernel_rfl) (by kernel_rfl) rfl ?_
  repeat' (first | refine wk3 ?_ | (refine wk2 ?_ ?_ <;> intro _) | refine wk4 ?_ | fail); all_goals (conv => whnf)
  exact ret_rows [7] rfl rfl rfl
theorem d28f {rows : List (List Int)} {ls : List Int} (h : ExS rows ls) : PCall Tryz.prog 28 [exA rows ls] ⟨exA rows ls, []⟩ := (d28 h).freeze ⟨⟨rfl, rfl⟩, ⟨rfl, rfl, rfl⟩, trivial⟩
end Go.Proofs.YtddhjopopelkjaaGreat
