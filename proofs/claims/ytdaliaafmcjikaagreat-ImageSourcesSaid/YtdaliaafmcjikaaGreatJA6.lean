/- A part of the proof: lemmas. -/
import Derived.Test.YtdaliaafmcjikaaGreatJA5
import Derived.Test.YtdaliaafmcjikaaGreatSxNil
set_option linter.unusedVariables false
set_option linter.unusedSimpArgs false
namespace Go.Proofs.YtdaliaafmcjikaaGreat
open Go Go.Sx
/-! ### The reference's path turned -/
def trR (ss : List Int) (ps : List Pt4) (sq : Int) : PRes := match ss with
  | [] => ⟨.agg [.nils, .nils, I sq], []⟩
  | s :: ss => ⟨.agg [.asl 0 0 (nl (s :: ss)).length, .asl 1 0 (ps.map hp4).length, I sq], [(1, nl (s :: ss).reverse), (4, ps.reverse.map hp4)]⟩
theorem trR_ids (ss : List Int) (ps : List Pt4) (sq : Int) : idsLt (trR ss ps sq).blks.length (trR ss ps sq).v = true := by cases ss <;> rfl
theorem trR_frz {ss : List Int} {ps : List Pt4} {sq : Int} (k2 : ps.length = ss.length) : Frz (trR ss ps sq).blks (trR ss ps sq).v (Pth.av ⟨ss.reverse, ps.reverse, sq⟩) := by
  cases ss with
  | nil =>
    have : ps = [] := List.eq_nil_of_length_eq_zero (by simpa using k2)
    subst this
    exact ⟨rfl, rfl, ⟨rfl, rfl⟩, trivial⟩
  | cons s ss =>
    have g1 : (nl (s :: ss)).length = (nl (s :: ss).reverse).length := by rw [nl_length, nl_length, List.length_reverse]
    have g2 : (ps.map hp4).length = (ps.reverse.map hp4).length := by simp
    exact ⟨⟨rfl, rfl, g1⟩, ⟨rfl, rfl, g2⟩, ⟨rfl, rfl⟩, trivial⟩
def trZ (ss : List Int) (ps : List Pt4) (sq : Int) : Nat → Nat → Nat → List (List AV) → List (List AV) → List (Nat × ABlk)
  | 0, _, _, _, _ => [(2, .row 3 [[.nils, .nils, I sq]] true false), (1, .row 3 [[.nils, .nils, I 0]] true false), (0, .row 3 [[.isl 1 (nl ss), .isl 4 (ps.map hp4), I sq]] true false)]
  | _ + 1, a, b, A, B => [(3, .row 1 A true true), (4, .row 4 B true true), (2, .row 3 [[.asl 3 0 a, .asl 4 0 b, I sq]] true false), (1, .row 3 [[.nils, .nils, I 0]] true false), (0, .row 3 [[.isl 1 (nl ss), .isl 4 (ps.map hp4), I sq]] true false)]
set_option maxRecDepth 100000 in
set_option maxHeartbeats 8000000 in
theorem d43 {p : Pth} (c : pthE p = 0) : PCall Tryz.prog 43 [p.av] ⟨(trV p).av, []⟩ := by
  obtain ⟨⟨k1, k2⟩, k3⟩ := pthE_zero c
  obtain ⟨ss, ps, sq⟩ := p
  dsimp only at k1 k2 k3
  have m1 := nl_length ss
  have m2 := hp_len ps
  clear c
  refine PCall.freeze (res := trR ss ps sq) ?_ (trR_frz k2)
  refine bs.pv (sx := nos) pt0_ok Tryz.func43 (by kernel_rfl) (by kernel_rfl) (trR_ids ss ps sq) ?_
  have j0 : IntKind.i64.wrap (((nl ss).length : Int) - 1) = (ss.length : Int) - 1 := by rw [m1]; exact W_eq (by omega) (by omega)
  conv => whnf
  refine loopV (S := Nat × Int × Nat × Nat × List (List AV) × List (List AV)) (fun t => ss.length - t.1) (fun t => [(1, .ptr 0 0 0), (2, .ptr 1 0 0), (3, .ptr 2 0 0), (4, I t.2.1)]) (fun t => trZ ss ps sq t.1 t.2.2.1 t.2.2.2.1 t.2.2.2.2.1 t.2.2.2.2.2) 3 5
    (fun t => t.2.1 = (ss.length : Int) - 1 - t.1 ∧ t.1 ≤ ss.length ∧ (t.2.2.1 = t.2.2.2.2.1.length ∧ t.2.2.2.1 = t.2.2.2.2.2.length) ∧ t.2.2.2.2.1 = nl (ss.reverse.take t.1) ∧ t.2.2.2.2.2 = (ps.reverse.take t.1).map hp4) (0, IntKind.i64.wrap (((nl ss).length : Int) - 1), 0, 0, [], []) ⟨by dsimp only; rw [j0]; omega, Nat.zero_le _, ⟨rfl, rfl⟩, rfl, rfl⟩ (Nat.le_refl _) [] rfl (kps) (kps) ?_
  rintro ⟨m, i, a, b, A, B⟩ ⟨hi, hm, ⟨ha, hb⟩, hA, hB⟩
  dsimp only at hi hm ha hb hA hB ⊢
  refine bs.av (sx := nos) pt0_ok ?_
  have lA : A.length = m := by rw [hA, nl_length, List.length_take, List.length_reverse]; omega
  have lB : B.length = m := by rw [hB, hp_len, List.length_take, List.length_reverse]; omega
  by_cases hlt : m < ss.length
  · have q1 : ss.length - 1 - m < ss.length := by omega
    have q3 : ss.length - 1 - m < ps.length := by omega
    have q2 : i.toNat = ss.length - 1 - m := by omega
    have e1 : (nl ss)[i.toNat]? = some [I ss[ss.length - 1 - m]] := by rw [q2]; exact nl_get q1
    have e2 : (ps.map hp4)[i.toNat]? = some (hp4 (ps[ss.length - 1 - m])) := by rw [q2]; exact hp_get (by omega)
    have a1 : nl (ss.reverse.take (m + 1)) = A ++ [[I ss[ss.length - 1 - m]]] := by
      rw [hA, List.take_add_one, List.getElem?_eq_getElem (by simpa using hlt), List.getElem_reverse, nl_append]; rfl
    have a2 : (ps.reverse.take (m + 1)).map hp4 = B ++ [hp4 (ps[ss.length - 1 - m])] := by
      rw [hB, List.take_add_one, List.getElem?_eq_getElem (by simp; omega), List.getElem_reverse]
      simp [k2]
    generalize ss[ss.length - 1 - m] = x at *
    generalize ps[ss.length - 1 - m] = y at *
    have e5 : IntKind.i64.wrap (i - 1) = i - 1 := W_eq (by omega) (by omega)
    cases m with
    | zero =>
      have nA : A = [] := List.eq_nil_of_length_eq_zero lA
      have nB : B = [] := List.eq_nil_of_length_eq_zero lB
      subst nA nB
      repeat' (first | refine wk3 ?_ | (refine wk2 ?_ ?_ <;> intro _) | refine wk4 ?_ | fail); all_goals (conv => whnf)
      exact Done.mk ⟨(1, _, _, _, [[I x]], [hp4 y]), [(3, 13), (4, 22)], rfl, kps, kps, ⟨e5.trans (by omega), hlt, ⟨rfl, rfl⟩, a1.symm, a2.symm⟩, by dsimp only; omega⟩
    | succ m =>
      repeat' (first | refine wk3 ?_ | (refine wk2 ?_ ?_ <;> intro _) | refine wk4 ?_ | fail); all_goals (conv => whnf)
      refine aop_app (ys := [[I x]]) rfl rfl rfl rfl rfl rfl rfl rfl rfl rfl (by simp) ha (by simp only [List.length_cons, List.length_nil]; omega) ?_
      repeat' (first | refine wk3 ?_ | (refine wk2 ?_ ?_ <;> intro _) | refine wk4 ?_ | fail); all_goals (conv => whnf)
      refine aop_app (ys := [hp4 y]) rfl rfl rfl rfl rfl rfl rfl rfl rfl rfl (by simp) hb (by simp only [List.length_cons, List.length_nil]; omega) ?_
      repeat' (first | refine wk3 ?_ | (refine wk2 ?_ ?_ <;> intro _) | refine wk4 ?_ | fail); all_goals (conv => whnf)
      exact Done.mk ⟨(m + 2, _, _, _, A ++ [[I x]], B ++ [hp4 y]), [(3, 13), (4, 22)], rfl, kps, kps, ⟨e5.trans (by omega), hlt, ⟨List.length_append.symm, List.length_append.symm⟩, a1.symm, a2.symm⟩, by dsimp only; omega⟩
  · have hm2 : m = ss.length := by omega
    subst hm2
    rw [List.take_of_length_le (by simp)] at hA
    rw [List.take_of_length_le (by simp; omega)] at hB
    cases ss with
    | nil =>
      repeat' (first | refine wk3 ?_ | (refine wk2 ?_ ?_ <;> intro _) | refine wk4 ?_ | fail); all_goals (conv => whnf)
      exact ret_of rfl rfl
    | cons s ss =>
      have ha2 : a = (nl (s :: ss)).length := by rw [ha, lA, nl_length]
      have hb2 : b = (ps.map hp4).length := by rw [hb, lB, hp_len, k2]
      subst hA hB ha2 hb2
      repeat' (first | refine wk3 ?_ | (refine wk2 ?_ ?_ <;> intro _) | refine wk4 ?_ | fail); all_goals (conv => whnf)
      exact ret_rows [3, 4] rfl rfl rfl
end Go.Proofs.YtdaliaafmcjikaaGreat
