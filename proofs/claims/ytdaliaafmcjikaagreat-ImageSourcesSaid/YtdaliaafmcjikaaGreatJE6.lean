/- A part of the proof: lemmas. -/
import Derived.Test.YtdaliaafmcjikaaGreatJE5
import Derived.Test.YtdaliaafmcjikaaGreatZw11
set_option linter.unusedVariables false
set_option linter.unusedSimpArgs false
namespace Go.Proofs.YtdaliaafmcjikaaGreat
open Go Go.Sx
/-! ### ImageSources -/
set_option maxRecDepth 100000 in
set_option maxHeartbeats 8000000 in
theorem d18 {h : Hal} (hk : h.ok) {s : Stg} (hs : s.few) (a : Ask) : PCall Tryz.prog 18 [h.av, s.av, a.av] ⟨I (askE h s a), []⟩ := by
  have hk0 := one_ok (d90 hk) (one_ok (c75 hk.f hs) pt0_ok)
  by_cases e : serr h s = 0
  · have he := serr_herr e
    have e2 : setE h s = 0 := by unfold serr at e; rw [if_pos he] at e; exact e
    obtain ⟨fx, fy, fz, tx, ty, tz, n⟩ := a
    unfold askE
    rw [if_pos e]
    rw [he, e2] at hk0
    dsimp only
    have hk1 := r27_ok hk he (one_ok (d68 n) hk0)
    have q1 := r79_hit h fx fy fz
    have q2 := r79_hit h tx ty tz
    simp only [fstL]
    refine bs.pv (sx := nos) hk1 Tryz.func18 (by kernel_rfl) (by kernel_rfl) rfl ?_
    clear hk1 hk0
    repeat' (first | refine wk3 ?_ | (refine wk2 ?_ ?_ <;> intro _) | refine wk4 ?_ | fail); all_goals (conv => whnf)
    all_goals first
      | (refine ret_int ?_; simp_all [Ask.same, unl]; done)
      | (refine ret_int ?_; clear q1 q2; cases hw : within n 0 4 <;> by_cases c1 : fx = tx <;> by_cases c2 : fy = ty <;> by_cases c3 : fz = tz <;> simp_all [Ask.same, unl] <;> done)
      | (exfalso; simp_all; done)
  · rw [show askE h s a = serr h s by unfold askE; rw [if_neg e]]
    unfold serr at e ⊢
    refine bs.pv (sx := nos) hk0 Tryz.func18 (by kernel_rfl) (by kernel_rfl) rfl ?_
    clear hk0
    repeat' (first | refine wk3 ?_ | (refine wk2 ?_ ?_ <;> intro _) | refine wk4 ?_ | fail); all_goals (conv => whnf)
    all_goals first
      | (refine ret_int ?_; simp_all; done)
      | (exfalso; simp_all; done)
theorem d26 {h : Hal} (hk : h.ok) {s : Stg} (hs : s.few) : PCall Tryz.prog 26 [.agg (stgL h s)] ⟨I (serr h s), []⟩ := by
  refine bs.pv (sx := nos) (one_ok (d90 hk) (one_ok (c75 hk.f hs) pt0_ok)) Tryz.func26 (by kernel_rfl) (by kernel_rfl) rfl ?_
  repeat' (first | refine wk3 ?_ | (refine wk2 ?_ ?_ <;> intro _) | refine wk4 ?_ | fail); all_goals (conv => whnf)
  all_goals exact ret_int (by simp_all [serr])
end Go.Proofs.YtdaliaafmcjikaaGreat
