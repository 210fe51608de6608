/- A part of the proof: lemmas. -/
import Derived.Test.YtdaliaafmcjikaaGreatJA1
import Derived.Test.YtdaliaafmcjikaaGreatZw10
set_option linter.unusedVariables false
set_option linter.unusedSimpArgs false
namespace Go.Proofs.YtdaliaafmcjikaaGreat
open Go Go.Sx
theorem d85 (p : Pth) : PCall Tryz.prog 37 [p.av] ⟨.tup [P2 (lenP p).1 (lenP p).2, I (pthE p)], []⟩ := by
  unfold lenP
  have h1 := d162 p
  by_cases c : pthE p = 0
  · have h2 := one_ok (d163 c) (one_ok h1 pt0_ok)
    rw [if_pos c]
    rw [c] at h2 ⊢
    generalize lenV p.sq = L at *
    refine bs.pv (sx := nos) h2 Tryz.func37 (by kernel_rfl) (by kernel_rfl) rfl ?_
    repeat' (first | refine wk3 ?_ | (refine wk2 ?_ ?_ <;> intro _) | refine wk4 ?_ | fail); all_goals (conv => whnf)
    exact ret_of rfl rfl
  · have h2 := one_ok h1 pt0_ok
    rw [if_neg c]
    generalize pthE p = E at *
    refine bs.pv (sx := nos) h2 Tryz.func37 (by kernel_rfl) (by kernel_rfl) rfl ?_
    repeat' (first | refine wk3 ?_ | (refine wk2 ?_ ?_ <;> intro _) | refine wk4 ?_ | fail); all_goals (conv => whnf)
    exact ret_of rfl rfl
set_option maxRecDepth 100000 in
set_option maxHeartbeats 4000000 in
theorem d21 {p : Pth} (h1 : p.ss.length < 100000) (h2 : p.ps.length < 100000) : PCall Tryz.prog 35 [p.av] ⟨p.av, []⟩ := by
  have o1 : oneEls (p.ps.map hp4) = true := by simp [oneEls, AV.one]
  have l2 : (p.ps.map hp4).length = p.ps.length := by simp
  have hk := one_ok (c25f p.ss h1) pt0_ok
  have key : PCall Tryz.prog 35 [p.av] ⟨.agg [.isl 1 (nl p.ss), .asl 0 0 (p.ps.map hp4).length, I p.sq], [(4, p.ps.map hp4)]⟩ := by
    obtain ⟨ss, ps, sq⟩ := p
    dsimp only at *
    cases ps with
    | nil =>
      refine bs.pv (sx := nos) hk Tryz.func35 (by kernel_rfl) (by kernel_rfl) rfl ?_
      repeat' (first | refine wk3 ?_ | (refine wk2 ?_ ?_ <;> intro _) | refine wk4 ?_ | fail); all_goals (conv => whnf)
      exact ret_rows [5] rfl rfl rfl
    | cons q ps =>
      refine bs.pv (sx := nos) hk Tryz.func35 (by kernel_rfl) (by kernel_rfl) rfl ?_
      repeat' (first | refine wk3 ?_ | (refine wk2 ?_ ?_ <;> intro _) | refine wk4 ?_ | fail); all_goals (conv => whnf)
      refine aop_app (ys := (q :: ps).map hp4) rfl rfl rfl rfl rfl rfl rfl rfl rfl o1 (by simp) rfl (by show 0 + _ ≤ _; rw [l2]; omega) ?_
      repeat' (first | refine wk3 ?_ | (refine wk2 ?_ ?_ <;> intro _) | refine wk4 ?_ | fail); all_goals (conv => whnf)
      refine ret_rows [8] rfl ?_ rfl
      show AV.agg [.isl 1 (nl ss), .asl 8 0 (0 + ((q :: ps).map hp4).length), I sq] = AV.agg [.isl 1 (nl ss), .asl 8 0 ((q :: ps).map hp4).length, I sq]
      rw [Nat.zero_add]
  exact key.freeze ⟨⟨rfl, rfl⟩, ⟨rfl, rfl, rfl⟩, ⟨rfl, rfl⟩, trivial⟩
end Go.Proofs.YtdaliaafmcjikaaGreat
