/- A part of the proof: lemmas. -/
import Derived.Test.YtddhjopopelkjaaGreatZT7a
set_option linter.unusedVariables false
set_option linter.unusedSimpArgs false
namespace Go.Proofs.YtddhjopopelkjaaGreat
open Go Go.Sx
abbrev plq (q : Int × Int) : List AV := [I q.1, I q.2]
def pls (h : Hal) (s : Stg) (sf : List Int) : List (Int × Int) := sf.map fun n => planeV h s (n % nsur h)
theorem pls_len (h : Hal) (s : Stg) (sf : List Int) : (pls h s sf).length = sf.length := by unfold pls; rw [List.length_map]
theorem pls_get {h : Hal} {s : Stg} {sf : List Int} {k : Nat} (hk : k < sf.length) : (pls h s sf)[k]'(by rw [pls_len]; exact hk) = planeV h s (sf[k] % nsur h) := by unfold pls; rw [List.getElem_map]
theorem plq_len (qs : List (Int × Int)) : (qs.map plq).length = qs.length := by rw [List.length_map]
theorem plq_take {qs : List (Int × Int)} {k : Nat} (hk : k < qs.length) : (qs.take (k + 1)).map plq = (qs.take k).map plq ++ [plq qs[k]] := by
  rw [List.take_succ_eq_append_getElem hk, List.map_append]; rfl
theorem els_rev {qs : List (Int × Int)} {j : Nat} (hj : j < qs.length) {i : Int} (hi : i = (qs.length : Int) - 1 - j) {l r : List (List AV)} (h : l = qs.map plq ++ r) : l[0 + i.toNat]? = some (plq (qs.reverse[j]'(by rw [List.length_reverse]; exact hj))) := by
  subst h
  have e : i.toNat = qs.length - 1 - j := by omega
  rw [Nat.zero_add, e, List.getElem?_append_left (by rw [plq_len]; omega), List.getElem?_map, List.getElem?_eq_getElem (show qs.length - 1 - j < qs.length by omega), List.getElem_reverse]
  rfl
theorem els_at {qs : List (Int × Int)} {k : Nat} (hk : k < qs.length) : (qs.map plq)[0 + ((k : Nat) : Int).toNat]? = some (plq qs[k]) := by
  rw [Nat.zero_add, Int.toNat_natCast, List.getElem?_map, List.getElem?_eq_getElem hk]; rfl
set_option maxRecDepth 100000 in
set_option maxHeartbeats 32000000 in
theorem d7_main {h : Hal} {s : Stg} (r : rightB h s = true) {sf : List Int} (h0 : 0 < sf.length) (hl : sf.length ≤ 4) {p u : Int × Int × Int} (he : endsB p u = true) : PCall Tryz.prog 7 [.agg (stgL h s), .isl 1 (nl sf), E6 p u] ⟨Bo true, []⟩ := by
  have g := right_sit r
  have hk := kT7_ok r g.ok g.sf
  obtain ⟨hp, hu⟩ := ends_sup he
  have w1 : within p.1 (-5000) 5000 = true := within_iff.2 hp.x
  have w2 : within p.2.1 (-5000) 5000 = true := within_iff.2 hp.y
  have w3 : within p.2.2 (-5000) 5000 = true := within_iff.2 hp.z
  have w4 : within u.1 (-5000) 5000 = true := within_iff.2 hu.x
  have w5 : within u.2.1 (-5000) 5000 = true := within_iff.2 hu.y
  have w6 : within u.2.2 (-5000) 5000 = true := within_iff.2 hu.z
  have l1 := nl_length sf
  have l2 := pls_len h s sf
  have hB : ∀ q ∈ pls h s sf, PlB q := by
    intro q hq
    unfold pls at hq
    obtain ⟨n, _, rfl⟩ := List.mem_map.1 hq
    exact plane_bd2 g (sk_mod n)
  refine bs.pv (sx := nos) hk Tryz.func7 (by kernel_rfl) (by kernel_rfl) rfl ?_
  repeat' (first | refine wk3 ?_ | (refine wk2 ?_ ?_ <;> intro _) | refine wk4 ?_ | fail); all_goals (conv => whnf)
  refine LpM.start 3 ?_
  refine LpM.succ (bs.av (sx := nos) hk ?_)
  repeat' (first | refine wk3 ?_ | (refine wk2 ?_ ?_ <;> intro _) | refine wk4 ?_ | fail); all_goals (conv => whnf)
  all_goals try (exfalso; simp_all; done)
  refine LpM.succ (bs.av (sx := nos) hk ?_)
  repeat' (first | refine wk3 ?_ | (refine wk2 ?_ ?_ <;> intro _) | refine wk4 ?_ | fail); all_goals (conv => whnf)
  all_goals try (exfalso; simp_all; done)
  refine LpM.succ (bs.av (sx := nos) hk ?_)
  repeat' (first | refine wk3 ?_ | (refine wk2 ?_ ?_ <;> intro _) | refine wk4 ?_ | fail); all_goals (conv => whnf)
  refine loopV (S := Nat × Int × Nat × List (List AV)) (fun t => sf.length - t.1) (fun t => [(1, .isl 1 (nl sf)), (3, .ptr 0 0 0), (5, .ptr 1 0 0), (9, gv 4 t.1 t.2.2.1), (10, I t.2.1)]) (fun t => gz 4 2 t.1 t.2.2.2 [(1, .row 6 [[I p.1, I p.2.1, I p.2.2, I u.1, I u.2.1, I u.2.2]] true false), (0, .row 11 [stgL h s] true false)]) 4 5
    (fun t => t.2.1 = t.1 ∧ t.1 ≤ sf.length ∧ t.2.2.1 = t.2.2.2.length ∧ t.2.2.2 = ((pls h s sf).take t.1).map plq) (0, 0, 0, []) ⟨rfl, Nat.zero_le _, rfl, rfl⟩ (Nat.le_refl _) [] rfl (kps) (kps) ?_
  rintro ⟨k, i, len, els⟩ ⟨hi, hk2, hlen, hels⟩
  dsimp only at hi hk2 hlen hels ⊢
  subst hi
  refine bs.av (sx := nos) hk ?_
  have e4 : els.length < 2000 := by rw [hels, plq_len, List.length_take]; omega
  by_cases hlt : k < sf.length
  · have e1 := nl_get hlt
    have e3 := plq_take (qs := pls h s sf) (k := k) (by omega)
    rw [pls_get hlt] at e3
    have m := md_hit g sf[k]
    have n := pl_hit r sf[k]
    generalize sf[k] = a at *
    generalize planeV h s (a % nsur h) = q at *
    clear w1 w2 w3 w4 w5 w6 hp hu he hB
    cases k with
    | zero =>
      repeat' (first | refine wk3 ?_ | (refine wk2 ?_ ?_ <;> intro _) | refine wk4 ?_ | fail); all_goals (conv => whnf)
      exact Done.mk ⟨(1, _, _, _), [(4, 36)], rfl, kps, kps, ⟨W_succ (k := 0) (by omega), hlt, rfl, e3.symm⟩, by dsimp only; omega⟩
    | succ k =>
      repeat' (first | refine wk3 ?_ | (refine wk2 ?_ ?_ <;> intro _) | refine wk4 ?_ | fail); all_goals (conv => whnf)
      exact Done.mk ⟨(k + 1 + 1, _, _, _), [(4, 36)], rfl, kps, kps, ⟨W_succ (k := k + 1) (by omega), hlt, by exact List.length_append.symm, by show _ = _; rw [e3, ← hels]; rfl⟩, by dsimp only; omega⟩
  rw [List.take_of_length_le (by omega)] at hels
  cases k with
  | zero => omega
  | succ k =>
  have hnl : els.length = sf.length := by rw [hels, plq_len, l2]
  have M := fun i hi => mir_all hB (by omega) hp hu (i := i) hi
  have z0 := posn_zero (pls h s sf) p
  have z1 := posn_zero (pls h s sf) u
  have z2 := posn_last (pls h s sf) p
  have z3 := posn_last (pls h s sf) u
  have hqn : (pls h s sf).length ≤ 4 := by omega
  generalize pls h s sf = qs at *
  clear w1 w2 w3 w4 w5 w6 hp hu he hB
  repeat' (first | refine wk3 ?_ | (refine wk2 ?_ ?_ <;> intro _) | refine wk4 ?_ | fail); all_goals (conv => whnf)
  refine loopV (S := Nat × Int × Nat × List (List AV)) (fun t => qs.length - t.1) (fun t => [(5, .ptr 1 0 0), (9, .asl (nm2 4 5 t.1) 0 t.2.2.1), (14, I t.2.1)]) (fun t => [(nm2 4 5 t.1, .row 2 t.2.2.2 true true), (1, .row 6 [[I p.1, I p.2.1, I p.2.2, I u.1, I u.2.1, I u.2.2]] true false)]) 5 6
    (fun t => t.2.1 = (qs.length : Int) - 1 - t.1 ∧ t.1 ≤ qs.length ∧ t.2.2.1 = t.2.2.2.length ∧ t.2.2.2 = qs.map plq ++ (qs.reverse.take t.1).map plq) (0, IntKind.i64.wrap ((len : Int) - 1), len, els) ⟨by show IntKind.i64.wrap ((len : Int) - 1) = _; rw [W_eq (by omega) (by omega)]; omega, Nat.zero_le _, hlen, by simp [hels]⟩ (Nat.le_refl _) [] rfl (kps) (kps) ?_
  rintro ⟨j, i, len2, els2⟩ ⟨hi, hj, hlen2, hels2⟩
  dsimp only at hi hj hlen2 hels2 ⊢
  refine bs.av (sx := nos) hk ?_
  have hrl : qs.reverse.length = qs.length := List.length_reverse
  have e5 : els2.length < 2000 := by rw [hels2, List.length_append, plq_len, plq_len, List.length_take]; omega
  have e6 : els2.length = qs.length + j := by rw [hels2, List.length_append, plq_len, plq_len, List.length_take]; omega
  by_cases hlj : j < qs.length
  · have e7 := plq_take (qs := qs.reverse) (k := j) (by omega)
    have e8 := els_rev hlj hi hels2
    generalize qs.reverse[j]'(by omega) = q at *
    have wi : IntKind.i64.wrap (i - 1) = i - 1 := W_eq (by omega) (by omega)
    cases j with
    | zero =>
      repeat' (first | refine wk3 ?_ | (refine wk2 ?_ ?_ <;> intro _) | refine wk4 ?_ | fail); all_goals (conv => whnf)
      exact Done.mk ⟨(1, _, _, _), [(5, 7)], rfl, kps, kps, ⟨by show IntKind.i64.wrap (i - 1) = _; rw [wi]; omega, hlj, by exact List.length_append.symm, by show _ = _; rw [e7, ← List.append_assoc, ← hels2]; rfl⟩, by dsimp only; omega⟩
    | succ j =>
      repeat' (first | refine wk3 ?_ | (refine wk2 ?_ ?_ <;> intro _) | refine wk4 ?_ | fail); all_goals (conv => whnf)
      exact Done.mk ⟨(j + 1 + 1, _, _, _), [(5, 7)], rfl, kps, kps, ⟨by show IntKind.i64.wrap (i - 1) = _; rw [wi]; omega, hlj, by exact List.length_append.symm, by show _ = _; rw [e7, ← List.append_assoc, ← hels2]; rfl⟩, by dsimp only; omega⟩
  rw [List.take_of_length_le (by omega), ← List.map_append] at hels2
  have hm : nm2 4 5 j = 5 := by cases j with
    | zero => omega
    | succ j => rfl
  rw [hm]
  have e9 : (qs ++ qs.reverse).length = els2.length := by rw [hels2, plq_len]
  generalize qs ++ qs.reverse = rs at *
  clear e6 hrl
  repeat' (first | refine wk3 ?_ | (refine wk2 ?_ ?_ <;> intro _) | refine wk4 ?_ | fail); all_goals (conv => whnf)
  refine loopV (S := Nat × Int × (Int × Int × Int) × (Int × Int × Int)) (fun t => rs.length - t.1) (fun t => [(5, .ptr 1 0 0), (9, .asl 5 0 len2), (15, .ptr 10 0 0), (16, .ptr 11 0 0), (17, I t.2.1)]) (fun t => [(11, .row 3 [[I t.2.2.2.1, I t.2.2.2.2.1, I t.2.2.2.2.2]] true false), (10, .row 3 [[I t.2.2.1.1, I t.2.2.1.2.1, I t.2.2.1.2.2]] true false), (5, .row 2 els2 true true), (1, .row 6 [[I p.1, I p.2.1, I p.2.2, I u.1, I u.2.1, I u.2.2]] true false)]) 14 14
    (fun t => t.2.1 = t.1 ∧ t.1 ≤ rs.length ∧ t.2.2.1 = posn qs p t.1 ∧ t.2.2.2 = posn qs u t.1) (0, 0, p, u) ⟨rfl, Nat.zero_le _, z0.symm, z1.symm⟩ (Nat.le_refl _) [] rfl (kps) (kps) ?_
  rintro ⟨k4, i4, a, b⟩ ⟨hi4, hk4, ha, hb⟩
  dsimp only at hi4 hk4 ha hb ⊢
  subst hi4
  refine bs.av (sx := nos) hk ?_
  by_cases hl4 : k4 < rs.length
  · obtain ⟨D, x1, x2, x3, x4⟩ := M k4 hl4
    have e10 := els_at hl4
    rw [← hels2] at e10
    rw [← ha] at x1 x3
    rw [← hb] at x2 x3
    generalize hP : posn qs p (k4 + 1) = P at *
    generalize hU : posn qs u (k4 + 1) = U at *
    generalize rs[k4] = q at *
    repeat' (first | refine wk3 ?_ | (refine wk2 ?_ ?_ <;> intro _) | refine wk4 ?_ | fail); all_goals (conv => whnf)
    exact Done.mk ⟨(k4 + 1, _, P, U), [], rfl, kps, kps, ⟨W_succ (by omega), hl4, hP.symm, hU.symm⟩, by dsimp only; omega⟩
  · have e11 : k4 = rs.length := by omega
    rw [e11, z2] at ha
    rw [e11, z3] at hb
    subst ha hb
    repeat' (first | refine wk3 ?_ | (refine wk2 ?_ ?_ <;> intro _) | refine wk4 ?_ | fail); all_goals (conv => whnf)
    all_goals first
      | exact ret_bool rfl
      | (refine ret_bool ?_; simp; done)
      | (exfalso; rename_i hb; simp at hb; done)
end Go.Proofs.YtddhjopopelkjaaGreat
