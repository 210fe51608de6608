/- A part of the proof: lemmas. -/
import Derived.Test.YtddhjopopelkjaaGreatYX8
import Derived.Test.YtddhjopopelkjaaGreatYF4
import Derived.Test.YtddhjopopelkjaaGreatSxFroz
set_option linter.unusedVariables false
set_option linter.unusedSimpArgs false
namespace Go.Proofs.YtddhjopopelkjaaGreat
open Go Go.Sx Go.En
abbrev rCopyN (rows : List (List Int)) (ls : List Int) : PRes := ⟨.agg [.isl 1 (rows.map rv), .asl 0 0 (nl ls).length], [(1, nl ls)]⟩
abbrev r41 (rows : List (List Int)) (ls a : List Int) : PRes := ⟨.tup [Bo (rcB rows ls a), I (rcE rows ls a)], []⟩
noncomputable def kX9 : PC := ins 28 (famX ExS rCopyN) (ins 41 (famXE ExL r41) (ins 43 (famXE (fun rows _ a => Sq rows a) fun rows _ a => ⟨Bo (recW rows a), []⟩) kX5))
theorem kX9_ok : PCOK Tryz.prog kX9 := famA_ok (fun q h => d28 h) (famA_ok (fun q h => d41 h) (famA_ok (fun q h => d43 h) kX5_ok))
theorem zer_succ (k : Nat) : zer (k + 1) = zer k ++ [0] := by unfold zer; rw [List.replicate_succ']
theorem zer_0 {n : Nat} : ∀ x ∈ zer n, x = 0 := fun x hx => by have := zer_bd (n := n) (B := 0) (by omega) x hx; omega
theorem zk_step {ls : List Int} {k : Nat} (h : k < ls.length) : (zer k ++ ls.drop k).set k 0 = zer (k + 1) ++ ls.drop (k + 1) := by
  rw [List.set_append_right k 0 (by rw [zer_len]; omega), zer_len, Nat.sub_self, List.drop_eq_getElem_cons h, List.set_cons_zero, zer_succ, List.append_assoc]; rfl
set_option maxRecDepth 100000 in
set_option maxHeartbeats 16000000 in
theorem d6 (rows : List (List Int)) (ls a : List Int) : PCall Tryz.prog 6 [exA rows ls, .isl 1 (nl a)] ⟨Bo true, []⟩ := by
  have g1 := cPat_hit rows ls a
  by_cases hP : patB rows ls a = true
  rotate_left
  · have hP : patB rows ls a = false := by simpa using hP
    rw [hP] at g1
    refine bs.pv (sx := nos) kX9_ok Tryz.func6 (by kernel_rfl) (by kernel_rfl) rfl ?_
    repeat' (first | refine wk3 ?_ | (refine wk2 ?_ ?_ <;> intro _) | refine wk4 ?_ | fail); all_goals (conv => whnf)
    all_goals exact ret_bool rfl
  have hs := pat_s hP
  rw [hP] at g1
  clear hP
  have l1 := rv_length rows
  have l2 := nl_length ls
  have l3 := nl_length a
  have c1 := famX_hit (p := ExS) rExV hs.1
  have c2 := famX_hit (p := ExS) rCopyN hs.1
  have c3 := cints_hit (ns := a) hs.2
  have c4 := famXE_hit (p := ExL) r41 hs
  have c5 := famXE_hit (p := EnL) (fun rows _ e => ⟨I (arE rows.length e), []⟩) (rows := rows) (ls := ls) (e := a) ⟨hs.1.r, by have := hs.2; omega⟩
  unfold rExV at c1; unfold rCopyN at c2; unfold r41 at c4
  have tk : exA rows ls = .agg [.isl 1 (rows.map rv), .isl 1 (((nl ls).drop 0).take (nl ls).length)] := by rw [take_self rfl]
  have c4 : famXE ExL r41 [.agg [.isl 1 (rows.map rv), .isl 1 (((nl ls).drop 0).take (nl ls).length)], .isl 1 (nl a)] = some ⟨.tup [Bo (rcB rows ls a), I (rcE rows ls a)], []⟩ := by rw [← tk]; exact c4
  unfold r41 at c4
  by_cases z : (exV rows ls).2 = 0
  rotate_left
  · have e1 : rcE rows ls a = (exV rows ls).2 := by unfold rcE; rw [if_pos z]
    have e2 : rcB rows ls a = false := by unfold rcB; rw [e1, if_pos z]
    rw [e1, e2] at c4
    generalize exV rows ls = X at *
    refine bs.pv (sx := nos) kX9_ok Tryz.func6 (by kernel_rfl) (by kernel_rfl) rfl ?_
    repeat' (first | refine wk3 ?_ | (refine wk2 ?_ ?_ <;> intro _) | refine wk4 ?_ | fail); all_goals (conv => whnf)
    all_goals first
      | exact ret_bool rfl
      | (refine ret_bool ?_; simp_all; done)
      | (exfalso; simp_all; done)
  have e1 : rcE rows ls a = arE rows.length a := by unfold rcE; rw [if_neg (fun c => c z)]
  obtain ⟨hx, hn⟩ := exV_zero z
  by_cases y : arE rows.length a = 0
  rotate_left
  · have e2 : rcB rows ls a = false := by unfold rcB; rw [e1, if_pos y]
    rw [e1, e2] at c4
    rw [z] at c1
    generalize arE rows.length a = X at *
    refine bs.pv (sx := nos) kX9_ok Tryz.func6 (by kernel_rfl) (by kernel_rfl) rfl ?_
    repeat' (first | refine wk3 ?_ | (refine wk2 ?_ ?_ <;> intro _) | refine wk4 ?_ | fail); all_goals (conv => whnf)
    all_goals first
      | exact ret_bool rfl
      | (refine ret_bool ?_; simp_all; done)
      | (exfalso; simp_all; done)
  obtain ⟨hl, hab⟩ := arE_zero y
  have e2 : rcB rows ls a = recW rows a := by unfold rcB; rw [e1, if_neg (fun c => c y)]
  have c6 := famXE_hit (p := fun rows _ a => Sq rows a) (fun rows _ a => ⟨Bo (recW rows a), []⟩) (rows := rows) (ls := ls) (e := a) (Sq.of z hl)
  rw [e1, e2, y] at c4
  rw [z] at c1
  rw [y] at c5
  by_cases w : recW rows a = true
  rotate_left
  · have w : recW rows a = false := by simpa using w
    rw [w] at c4 c6
    refine bs.pv (sx := nos) kX9_ok Tryz.func6 (by kernel_rfl) (by kernel_rfl) rfl ?_
    repeat' (first | refine wk3 ?_ | (refine wk2 ?_ ?_ <;> intro _) | refine wk4 ?_ | fail); all_goals (conv => whnf)
    all_goals first
      | exact ret_bool rfl
      | (exfalso; simp_all; done)
  have hrec := rec_of hx hl hab w
  rw [w] at c4 c6
  -- the step without losses
  have hz := ex_zer hx
  have hz0 := exV_ok hz hn
  have hnn : Nn a := fun x hx => by have := hab x hx; omega
  have hen : enE rows.length a = 0 := by
    unfold enE
    rw [if_pos hl, if_pos (List.all_eq_true.2 fun x hx => by have := hab x hx; simp only [Bool.and_eq_true, decide_eq_true_eq]; omega)]
  have how : owE rows (zer rows.length) a = 0 := by unfold owE; rw [if_neg (fun c => c hz0)]; exact hen
  have hsz : ExL rows (zer rows.length) a := ⟨⟨hs.1.r, hs.1.e, by rw [zer_len]; exact hs.1.r⟩, hs.2⟩
  have c7 := famXE_hit (p := ExL) rSt1 hsz
  unfold rSt1 at c7
  have z1 := runV_ok how (t := 1) ⟨by omega, by omega⟩
  have hl0 := step_lost0 hz zer_0 hl
  rw [z1.1, z1.2, show (1 : Int).toNat = 1 from rfl, run_one, hl0] at c7
  have hlen := (step_ok hz hl hnn).len
  have hlb := hs.1.l
  have hst : ∀ i, i < rows.length → nth a i - rows.length * rows.length ≤ nth (En.step rows (zer rows.length) a).1 i ∧ nth (En.step rows (zer rows.length) a).1 i ≤ nth a i + rows.length * rows.length := fun i hi => rec_step hz zer_0 hl hnn hrec hi
  generalize (En.step rows (zer rows.length) a).1 = L at *
  have hnn2 : (rows.length : Int) * rows.length ≤ 12 * 12 := Int.mul_le_mul (by omega) (by omega) (by omega) (by omega)
  have hnn3 : 0 ≤ (rows.length : Int) * rows.length := Int.mul_nonneg (by omega) (by omega)
  have hw : ∀ i, i < rows.length → within (nth L i) (IntKind.i64.wrap (nth a i - IntKind.i64.wrap (((nl a).length : Int) * ((nl a).length : Int)))) (IntKind.i64.wrap (nth a i + IntKind.i64.wrap (((nl a).length : Int) * ((nl a).length : Int)))) = true := fun i hi => by
    have h1 := hst i hi
    have h2 : nth a i ∈ a := by rw [nth_get (by omega)]; exact List.getElem_mem _
    have h3 := hab _ h2
    rw [l3, hl]
    generalize (rows.length : Int) * rows.length = q at *
    rw [W_eq (n := q) (by omega) (by omega), W_eq (n := nth a i - q) (by omega) (by omega), W_eq (n := nth a i + q) (by omega) (by omega)]
    exact within_iff.2 h1
  have l4 := nl_length L
  refine bs.pv (sx := nos) kX9_ok Tryz.func6 (by kernel_rfl) (by kernel_rfl) rfl ?_
  repeat' (first | refine wk3 ?_ | (refine wk2 ?_ ?_ <;> intro _) | refine wk4 ?_ | fail); all_goals (conv => whnf)
  refine loopV (S := Nat × Int × List (List AV)) (fun t => ls.length - t.1) (fun t => [(1, .isl 1 (nl a)), (9, .ptr 3 0 0), (10, I t.2.1)]) (fun t => [(3, .row 2 [[.isl 1 (rows.map rv), .asl 2 0 (nl ls).length]] true false), (2, .row 1 t.2.2 true true)]) 4 4 (fun t => t.2.1 = t.1 ∧ t.1 ≤ ls.length ∧ t.2.2 = nl (zer t.1 ++ ls.drop t.1)) (0, 0, nl ls) ⟨rfl, Nat.zero_le _, rfl⟩ (Nat.le_refl _) [] rfl (kps) (kps) ?_
  rintro ⟨k, i, els⟩ ⟨hi, hk, hels⟩
  dsimp only at hi hk hels ⊢
  subst hi hels
  by_cases hlt : k < ls.length
  · refine bs.av (sx := nos) kX9_ok ?_
    have e5 := nl_get0 (l := zer k ++ ls.drop k) (j := k) (by rw [List.length_append, zer_len, List.length_drop]; omega)
    have e6 := setEl_nl0 (zer k ++ ls.drop k) k 0
    rw [zk_step hlt] at e6
    repeat' (first | refine wk3 ?_ | (refine wk2 ?_ ?_ <;> intro _) | refine wk4 ?_ | fail); all_goals (conv => whnf)
    exact Done.mk ⟨(k + 1, _, _), [], rfl, kps, kps, ⟨W_succ (by omega), hlt, e6⟩, by dsimp only; omega⟩
  have hkl : k = rows.length := by have := hx.ll; omega
  rw [List.drop_of_length_le (by omega), List.append_nil, hkl]
  have c7 : famXE ExL (fun rows ls e => ⟨.tup [.isl 1 (nl (runV rows ls e 1).1), I (runV rows ls e 1).2, I (runE rows ls e 1)], []⟩) [.agg [.isl 1 (rows.map rv), .isl 1 (((nl (zer rows.length)).drop 0).take (nl ls).length)], .isl 1 (nl a)] = some ⟨.tup [.isl 1 (nl L), I 0, I 0], []⟩ := by
    rw [take_self (by rw [l2, nl_length, zer_len, hx.ll])]; exact c7
  subst hkl
  refine Awp.froz [2] rfl (bs.av (sx := nos) kX9_ok ?_)
  repeat' (first | refine wk3 ?_ | (refine wk2 ?_ ?_ <;> intro _) | refine wk4 ?_ | fail); all_goals (conv => whnf)
  refine loopV (S := Nat × Int) (fun t => L.length - t.1) (fun t => [(1, .isl 1 (nl a)), (11, .isl 1 (nl L)), (14, I (IntKind.i64.wrap (((nl a).length : Int) * ((nl a).length : Int)))), (15, I t.2)]) (fun _ => []) 15 15 (fun t => t.2 = t.1 ∧ t.1 ≤ L.length) (0, 0) ⟨rfl, Nat.zero_le _⟩ (Nat.le_refl _) [] rfl (kps) (kps) ?_
  rintro ⟨k, i⟩ ⟨hi, hk⟩
  dsimp only at hi hk ⊢
  subst hi
  refine bs.av (sx := nos) kX9_ok ?_
  by_cases hlt : k < L.length
  · have e5 := nl_getn hlt
    have e6 := nl_getn (ns := a) (k := k) (by omega)
    have hwk := hw k (by omega)
    repeat' (first | refine wk3 ?_ | (refine wk2 ?_ ?_ <;> intro _) | refine wk4 ?_ | fail); all_goals (conv => whnf)
    all_goals first
      | exact Done.mk ⟨(k + 1, _), [], rfl, kps, kps, ⟨W_succ (by omega), hlt⟩, by dsimp only; omega⟩
      | (exfalso; rename_i hb; rw [hwk] at hb; cases hb)
  · repeat' (first | refine wk3 ?_ | (refine wk2 ?_ ?_ <;> intro _) | refine wk4 ?_ | fail); all_goals (conv => whnf)
    exact ret_bool rfl
end Go.Proofs.YtddhjopopelkjaaGreat
