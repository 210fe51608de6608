/- A part of the proof: lemmas. -/
import Derived.Test.YtddhjopopelkjaaGreatZT7b
set_option linter.unusedVariables false
set_option linter.unusedSimpArgs false
namespace Go.Proofs.YtddhjopopelkjaaGreat
open Go Go.Sx
set_option maxRecDepth 100000 in
set_option maxHeartbeats 32000000 in
theorem d7_0 {h : Hal} {s : Stg} (r : rightB h s = true) {p u : Int × Int × Int} (he : endsB p u = true) : PCall Tryz.prog 7 [.agg (stgL h s), .isl 1 (nl []), E6 p u] ⟨Bo true, []⟩ := by
  have g := right_sit r
  have hk := kT7_ok r g.ok g.sf
  obtain ⟨hp, hu⟩ := ends_sup he
  have w1 : within p.1 (-5000) 5000 = true := within_iff.2 hp.x
  have w2 : within p.2.1 (-5000) 5000 = true := within_iff.2 hp.y
  have w3 : within p.2.2 (-5000) 5000 = true := within_iff.2 hp.z
  have w4 : within u.1 (-5000) 5000 = true := within_iff.2 hu.x
  have w5 : within u.2.1 (-5000) 5000 = true := within_iff.2 hu.y
  have w6 : within u.2.2 (-5000) 5000 = true := within_iff.2 hu.z
  clear g hp hu he
  refine bs.pv (sx := nos) hk Tryz.func7 (by kernel_rfl) (by kernel_rfl) rfl ?_
  repeat' (first | refine wk3 ?_ | (refine wk2 ?_ ?_ <;> intro _) | refine wk4 ?_ | fail); all_goals (conv => whnf)
  refine LpM.start 3 ?_
  refine LpM.succ (bs.av (sx := nos) hk ?_)
  repeat' (first | refine wk3 ?_ | (refine wk2 ?_ ?_ <;> intro _) | refine wk4 ?_ | fail); all_goals (conv => whnf)
  all_goals try (exfalso; simp_all; done)
  refine LpM.succ (bs.av (sx := nos) hk ?_)
  repeat' (first | refine wk3 ?_ | (refine wk2 ?_ ?_ <;> intro _) | refine wk4 ?_ | fail); all_goals (conv => whnf)
  all_goals try (exfalso; simp_all; done)
  refine LpM.succ (bs.av (sx := nos) hk ?_)
  repeat' (first | refine wk3 ?_ | (refine wk2 ?_ ?_ <;> intro _) | refine wk4 ?_ | fail); all_goals (conv => whnf)
  refine LpM.start 1 ?_
  refine LpM.succ (bs.av (sx := nos) hk ?_)
  repeat' (first | refine wk3 ?_ | (refine wk2 ?_ ?_ <;> intro _) | refine wk4 ?_ | fail); all_goals (conv => whnf)
  refine LpM.start 1 ?_
  refine LpM.succ (bs.av (sx := nos) hk ?_)
  repeat' (first | refine wk3 ?_ | (refine wk2 ?_ ?_ <;> intro _) | refine wk4 ?_ | fail); all_goals (conv => whnf)
  refine LpM.start 1 ?_
  refine LpM.succ (bs.av (sx := nos) hk ?_)
  repeat' (first | refine wk3 ?_ | (refine wk2 ?_ ?_ <;> intro _) | refine wk4 ?_ | fail); all_goals (conv => whnf)
  all_goals first
    | exact ret_bool rfl
    | (refine ret_bool ?_; simp; done)
    | (exfalso; rename_i hb; simp at hb; done)
theorem d7_out {h : Hal} {s : Stg} (r : rightB h s = true) {sf : List Int} (hl : sf.length ≤ 4) {p u : Int × Int × Int} (he : endsB p u = false) : PCall Tryz.prog 7 [.agg (stgL h s), .isl 1 (nl sf), E6 p u] ⟨Bo true, []⟩ := by
  have g := right_sit r
  have hk := kT7_ok r g.ok g.sf
  have l1 := nl_length sf
  clear g
  unfold endsB at he
  refine bs.pv (sx := nos) hk Tryz.func7 (by kernel_rfl) (by kernel_rfl) rfl ?_
  repeat' (first | refine wk3 ?_ | (refine wk2 ?_ ?_ <;> intro _) | refine wk4 ?_ | fail); all_goals (conv => whnf)
  refine LpM.start 3 ?_
  refine LpM.succ (bs.av (sx := nos) hk ?_)
  repeat' (first | refine wk3 ?_ | (refine wk2 ?_ ?_ <;> intro _) | refine wk4 ?_ | fail); all_goals (conv => whnf)
  all_goals try (exact ret_bool rfl)
  refine LpM.succ (bs.av (sx := nos) hk ?_)
  repeat' (first | refine wk3 ?_ | (refine wk2 ?_ ?_ <;> intro _) | refine wk4 ?_ | fail); all_goals (conv => whnf)
  all_goals try (exact ret_bool rfl)
  exfalso
  simp_all
theorem d7 (h : Hal) (s : Stg) (sf : List Int) (p u : Int × Int × Int) : PCall Tryz.prog 7 [.agg (stgL h s), .isl 1 (nl sf), E6 p u] ⟨Bo true, []⟩ := by
  by_cases n : rightB h s = true ∧ sf.length ≤ 4
  · obtain ⟨r, hl⟩ := n
    cases he : endsB p u with
    | false => exact d7_out r hl he
    | true =>
      by_cases h0 : 0 < sf.length
      · exact d7_main r h0 hl he
      · have h0 : sf.length = 0 := by omega
        obtain rfl := List.eq_nil_of_length_eq_zero h0
        exact d7_0 r he
  · exact d7_no n
end Go.Proofs.YtddhjopopelkjaaGreat
