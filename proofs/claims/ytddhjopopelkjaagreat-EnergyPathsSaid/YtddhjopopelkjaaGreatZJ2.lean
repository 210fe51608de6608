/- A part of the proof: lemmas. -/
import Derived.Test.YtddhjopopelkjaaGreatZJ1
import Derived.Test.YtddhjopopelkjaaGreatZH4
set_option linter.unusedVariables false
set_option linter.unusedSimpArgs false
namespace Go.Proofs.YtddhjopopelkjaaGreat
open Go Go.Sx
/-! ### Paths -/
structure Pth where
  ss : List Int
  ps : List (Int × Int × Int × Int)
  sq : Int
abbrev hp4 (p : Int × Int × Int × Int) : List AV := [I p.1, I p.2.1, I p.2.2.1, I p.2.2.2]
abbrev Pth.av (p : Pth) : AV := .agg [.isl 1 (nl p.ss), .isl 4 (p.ps.map hp4), I p.sq]
def pthE (p : Pth) : Int := if (p.ps.length : Int) = p.ss.length then (if 4 < (p.ss.length : Int) then 8 else (if within p.sq 1 24300000000 then 0 else 2)) else 10
theorem pthE_zero {p : Pth} (h : pthE p = 0) : (p.ss.length ≤ 4 ∧ p.ps.length = p.ss.length) ∧ 1 ≤ p.sq ∧ p.sq ≤ 24300000000 := by
  unfold pthE at h
  split at h
  · split at h
    · cases h
    · split at h
      · rename_i a b c
        have := within_iff.1 c
        omega
      · cases h
  · cases h
set_option maxHeartbeats 4000000 in
theorem d92 (p : Pth) : PCall Tryz.prog 92 [p.av] ⟨I (pthE p), []⟩ := by
  have l1 : (p.ps.map hp4).length = p.ps.length := by simp
  have l2 := nl_length p.ss
  unfold pthE
  by_cases c1 : (p.ps.length : Int) = p.ss.length
  · rw [if_pos c1]
    by_cases c2 : 4 < (p.ss.length : Int)
    · rw [if_pos c2]
      refine bs.pv (sx := nos) kV0_ok Tryz.func92 (by kernel_rfl) (by kernel_rfl) rfl ?_
      repeat' (first | refine wk3 ?_ | (refine wk2 ?_ ?_ <;> intro _) | refine wk4 ?_ | fail); all_goals (conv => whnf)
      all_goals exact ret_int rfl
    · rw [if_neg c2]
      cases hw : within p.sq 1 24300000000
      all_goals
        refine bs.pv (sx := nos) kV0_ok Tryz.func92 (by kernel_rfl) (by kernel_rfl) rfl ?_
        repeat' (first | refine wk3 ?_ | (refine wk2 ?_ ?_ <;> intro _) | refine wk4 ?_ | fail); all_goals (conv => whnf)
      all_goals first
        | exact ret_int rfl
        | (exfalso; simp_all; done)
  · rw [if_neg c1]
    refine bs.pv (sx := nos) kV0_ok Tryz.func92 (by kernel_rfl) (by kernel_rfl) rfl ?_
    repeat' (first | refine wk3 ?_ | (refine wk2 ?_ ?_ <;> intro _) | refine wk4 ?_ | fail); all_goals (conv => whnf)
    all_goals exact ret_int rfl
theorem d210 (n lo hi : Int) : PCall Tryz.prog 210 [I n, I lo, I hi] ⟨Bo (within n lo hi), []⟩ := by
  refine bs.pv (sx := nos) pt0_ok Tryz.func210 (by kernel_rfl) (by kernel_rfl) rfl ?_
  repeat' (first | refine wk3 ?_ | (refine wk2 ?_ ?_ <;> intro _) | refine wk4 ?_ | fail); all_goals (conv => whnf)
  all_goals exact ret_bool (by simp_all [within] <;> omega)
theorem d209 (b : Bool) (e : Int) : PCall Tryz.prog 209 [Bo b, I e] ⟨I (unl b e), []⟩ := by
  refine bs.pv (sx := nos) pt0_ok Tryz.func209 (by kernel_rfl) (by kernel_rfl) rfl ?_
  repeat' (first | refine wk3 ?_ | (refine wk2 ?_ ?_ <;> intro _) | refine wk4 ?_ | fail); all_goals (conv => whnf)
  all_goals exact ret_int (by simp_all [unl])
def fst3 (a b c : Int) : Int := if a ≠ 0 then a else if b ≠ 0 then b else c
set_option maxRecDepth 100000 in
theorem d208 (a b c : Int) : PCall Tryz.prog 208 [.isl 1 [[I a], [I b], [I c]]] ⟨I (fst3 a b c), []⟩ := by
  unfold fst3
  by_cases ha : a = 0
  · rw [if_neg (fun k => k ha)]
    by_cases hb : b = 0
    · rw [if_neg (fun k => k hb)]
      by_cases hc : c = 0
      all_goals
        refine bs.pv (sx := nos) pt0_ok Tryz.func208 (by kernel_rfl) (by kernel_rfl) rfl ?_
        repeat' (first | refine wk3 ?_ | (refine wk2 ?_ ?_ <;> intro _) | refine wk4 ?_ | fail); all_goals (conv => whnf)
        refine LpM.start 5 ?_
        refine LpM.succ (bs.av (sx := nos) pt0_ok ?_)
        repeat' (first | refine wk3 ?_ | (refine wk2 ?_ ?_ <;> intro _) | refine wk4 ?_ | fail); all_goals (conv => whnf)
        refine LpM.succ (bs.av (sx := nos) pt0_ok ?_)
        repeat' (first | refine wk3 ?_ | (refine wk2 ?_ ?_ <;> intro _) | refine wk4 ?_ | fail); all_goals (conv => whnf)
        refine LpM.succ (bs.av (sx := nos) pt0_ok ?_)
        repeat' (first | refine wk3 ?_ | (refine wk2 ?_ ?_ <;> intro _) | refine wk4 ?_ | fail); all_goals (conv => whnf)
      · refine LpM.succ (bs.av (sx := nos) pt0_ok ?_)
        repeat' (first | refine wk3 ?_ | (refine wk2 ?_ ?_ <;> intro _) | refine wk4 ?_ | fail); all_goals (conv => whnf)
        exact ret_int hc.symm
      · exact ret_int rfl
    · rw [if_pos hb]
      refine bs.pv (sx := nos) pt0_ok Tryz.func208 (by kernel_rfl) (by kernel_rfl) rfl ?_
      repeat' (first | refine wk3 ?_ | (refine wk2 ?_ ?_ <;> intro _) | refine wk4 ?_ | fail); all_goals (conv => whnf)
      refine LpM.start 5 ?_
      refine LpM.succ (bs.av (sx := nos) pt0_ok ?_)
      repeat' (first | refine wk3 ?_ | (refine wk2 ?_ ?_ <;> intro _) | refine wk4 ?_ | fail); all_goals (conv => whnf)
      refine LpM.succ (bs.av (sx := nos) pt0_ok ?_)
      repeat' (first | refine wk3 ?_ | (refine wk2 ?_ ?_ <;> intro _) | refine wk4 ?_ | fail); all_goals (conv => whnf)
      exact ret_int rfl
  · rw [if_pos ha]
    refine bs.pv (sx := nos) pt0_ok Tryz.func208 (by kernel_rfl) (by kernel_rfl) rfl ?_
    repeat' (first | refine wk3 ?_ | (refine wk2 ?_ ?_ <;> intro _) | refine wk4 ?_ | fail); all_goals (conv => whnf)
    refine LpM.start 5 ?_
    refine LpM.succ (bs.av (sx := nos) pt0_ok ?_)
    repeat' (first | refine wk3 ?_ | (refine wk2 ?_ ?_ <;> intro _) | refine wk4 ?_ | fail); all_goals (conv => whnf)
    exact ret_int rfl
def r208 : List AV → Option PRes
  | [.isl 1 [[.int .i64 a], [.int .i64 b], [.int .i64 c]]] => some ⟨I (fst3 a b c), []⟩
  | _ => none
def kL1 : PC := ins 208 r208 (ins 209 r103u (ins 210 rWu pt0))
theorem kL1_ok : PCOK Tryz.prog kL1 := by
  refine ins_ok (fun a res h => ?_) (ins_ok (fun a res h => ?_) (ins_ok (fun a res h => ?_) pt0_ok))
  · unfold r208 at h; split at h <;> cases h; exact d208 _ _ _
  · unfold r103u at h; split at h <;> cases h; exact d209 _ _
  · unfold rWu at h; split at h <;> cases h; exact d210 _ _ _
set_option maxHeartbeats 4000000 in
theorem d162 (p : Pth) : PCall Tryz.prog 162 [p.av] ⟨I (pthE p), []⟩ := by
  have l1 : (p.ps.map hp4).length = p.ps.length := by simp
  have l2 := nl_length p.ss
  have e : pthE p = fst3 (unl (decide (((p.ps.map hp4).length : Int) = ((nl p.ss).length : Int))) 10) (unl (decide (((nl p.ss).length : Int) ≤ 4)) 8) (unl (within p.sq 1 24300000000) 2) := by
    rw [l1, l2]
    unfold pthE fst3 unl
    by_cases c1 : (p.ps.length : Int) = p.ss.length
    · by_cases c2 : 4 < (p.ss.length : Int)
      · rw [if_pos c1, if_pos c2, decide_eq_true c1, decide_eq_false (by omega)]; rfl
      · rw [if_pos c1, if_neg c2, decide_eq_true c1, decide_eq_true (by omega)]; cases within p.sq 1 24300000000 <;> rfl
    · rw [if_neg c1, decide_eq_false c1]; rfl
  rw [e]
  refine bs.pv (sx := nos) kL1_ok Tryz.func162 (by kernel_rfl) (by kernel_rfl) rfl ?_
  repeat' (first | refine wk3 ?_ | (refine wk2 ?_ ?_ <;> intro _) | refine wk4 ?_ | fail); all_goals (conv => whnf)
  exact ret_int rfl
/-! ### Lengths -/
noncomputable def lenV (sq : Int) : Int × Int := (isq (sq * 100000000), cr (sq * 100000000))
theorem lenV_bd {sq : Int} (h0 : 1 ≤ sq) (h1 : sq ≤ 24300000000) : (0 ≤ (lenV sq).1 ∧ (lenV sq).1 < 2147483648) ∧ (lenV sq).1 ≤ (lenV sq).2 ∧ (lenV sq).2 ≤ (lenV sq).1 + 1 := by
  obtain ⟨g1, g2, g3⟩ := isq_spec (n := sq * 100000000) (by omega)
  have g4 : isq (sq * 100000000) < 2147483648 := sq_lt (by omega) (by omega) g1
  unfold lenV cr
  dsimp only
  split <;> omega
set_option maxHeartbeats 4000000 in
theorem d163 {p : Pth} (h : pthE p = 0) : PCall Tryz.prog 163 [p.av] ⟨P2 (lenV p.sq).1 (lenV p.sq).2, []⟩ := by
  obtain ⟨_, s1, s2⟩ := pthE_zero h
  have w1 : IntKind.i64.wrap (p.sq * 100000000) = p.sq * 100000000 := W_eq (by omega) (by omega)
  obtain ⟨g1, g2, g3⟩ := isq_spec (n := p.sq * 100000000) (by omega)
  have g4 : isq (p.sq * 100000000) < 2147483648 := sq_lt (by omega) (by omega) g1
  have hb := sq_bd g1 (show isq (p.sq * 100000000) ≤ 2147483648 by omega)
  have h0 := one_ok (d211 (n := p.sq * 100000000) (by omega) (by omega)) pt0_ok
  unfold lenV cr
  rw [← w1] at g1 g2 g3 g4 hb h0 ⊢
  have w2 : IntKind.i64.wrap (isq (IntKind.i64.wrap (p.sq * 100000000)) * isq (IntKind.i64.wrap (p.sq * 100000000))) = isq (IntKind.i64.wrap (p.sq * 100000000)) * isq (IntKind.i64.wrap (p.sq * 100000000)) := W_eq (by omega) (by omega)
  have w3 : IntKind.i64.wrap (isq (IntKind.i64.wrap (p.sq * 100000000)) + 1) = isq (IntKind.i64.wrap (p.sq * 100000000)) + 1 := W_eq (by omega) (by omega)
  generalize isq (IntKind.i64.wrap (p.sq * 100000000)) = r at *
  dsimp only
  by_cases c : r * r < IntKind.i64.wrap (p.sq * 100000000)
  · rw [if_pos c, ← w3]
    rw [← w2] at c
    refine bs.pv (sx := nos) h0 Tryz.func163 (by kernel_rfl) (by kernel_rfl) rfl ?_
    repeat' (first | refine wk3 ?_ | (refine wk2 ?_ ?_ <;> intro _) | refine wk4 ?_ | fail); all_goals (conv => whnf)
    all_goals exact ret_of rfl rfl
  · rw [if_neg c]
    rw [← w2] at c
    refine bs.pv (sx := nos) h0 Tryz.func163 (by kernel_rfl) (by kernel_rfl) rfl ?_
    repeat' (first | refine wk3 ?_ | (refine wk2 ?_ ?_ <;> intro _) | refine wk4 ?_ | fail); all_goals (conv => whnf)
    all_goals exact ret_of rfl rfl
noncomputable def lenP (p : Pth) : Int × Int := if pthE p = 0 then lenV p.sq else (0, 0)
theorem d85 (p : Pth) : PCall Tryz.prog 85 [p.av] ⟨.tup [P2 (lenP p).1 (lenP p).2, I (pthE p)], []⟩ := by
  unfold lenP
  have h1 := d162 p
  by_cases c : pthE p = 0
  · have h2 := one_ok (d163 c) (one_ok h1 pt0_ok)
    rw [if_pos c]
    rw [c] at h2 ⊢
    generalize lenV p.sq = L at *
    refine bs.pv (sx := nos) h2 Tryz.func85 (by kernel_rfl) (by kernel_rfl) rfl ?_
    repeat' (first | refine wk3 ?_ | (refine wk2 ?_ ?_ <;> intro _) | refine wk4 ?_ | fail); all_goals (conv => whnf)
    exact ret_of rfl rfl
  · have h2 := one_ok h1 pt0_ok
    rw [if_neg c]
    generalize pthE p = E at *
    refine bs.pv (sx := nos) h2 Tryz.func85 (by kernel_rfl) (by kernel_rfl) rfl ?_
    repeat' (first | refine wk3 ?_ | (refine wk2 ?_ ?_ <;> intro _) | refine wk4 ?_ | fail); all_goals (conv => whnf)
    exact ret_of rfl rfl
theorem d99 {sq : Int} (s1 : 1 ≤ sq) (s2 : sq ≤ 24300000000) : PCall Tryz.prog 99 [I sq] ⟨P2 (lenV sq).1 (lenV sq).2, []⟩ := by
  have w1 : IntKind.i64.wrap (sq * 100000000) = sq * 100000000 := W_eq (by omega) (by omega)
  have h0 := one_ok (d172 (n := sq * 100000000) (by omega) (by omega)) (one_ok (d173 (n := sq * 100000000) (by omega) (by omega)) pt0_ok)
  unfold lenV cr
  rw [← w1] at h0 ⊢
  dsimp only
  refine bs.pv (sx := nos) h0 Tryz.func99 (by kernel_rfl) (by kernel_rfl) rfl ?_
  repeat' (first | refine wk3 ?_ | (refine wk2 ?_ ?_ <;> intro _) | refine wk4 ?_ | fail); all_goals (conv => whnf)
  exact ret_of rfl rfl
end Go.Proofs.YtddhjopopelkjaaGreat
