/- A part of the proof: lemmas. -/
import Derived.Test.YtjpmeaagnhojgaaGreatX6
set_option linter.unusedVariables false
set_option linter.unusedSimpArgs false
namespace Go.Proofs.YtjpmeaagnhojgaaGreat
open Go Go.Sx

theorem c40 {h : Hal} (hk : h.ok) {s : Stg} (hs : s.few) {c : Crs} (hw : c.to.wf) : PCall Tryz.prog 40 [h.av, s.av, c.av] ⟨crAV (crsA h s c), []⟩ := by
  unfold crsA
  by_cases he : crsE h s c = 0
  · rw [if_pos he]; exact c40o hk hs hw he
  · rw [if_neg he]; exact c40e hk hs hw he
theorem crAns_eq {h : Hal} {s : Stg} {c : Crs} (g : Sit h s) (hi : SK h c.su) (ho : CrOk (planeV h s c.su) c) : crAns (wellP h c.su) (planeV h s c.su) c = crAns (wellR h c.su) (planeV h s c.su) c := by
  by_cases hs : 0 ≤ sgn (crF (planeV h s c.su) c) * sgn (crG (planeV h s c.su) c)
  · rw [crAns_side hs, crAns_side hs]
  · have hb := (red_spec (cross_big ho hs)).2.2.1
    have e := well_eq g hi (p := crossP (planeV h s c.su) c) hb.ok (cross_plane ho hs)
    unfold crAns
    rw [e]
/-! ### HallCrosses -/
set_option maxRecDepth 100000 in
set_option maxHeartbeats 16000000 in
theorem c7 (h : Hal) (s : Stg) {c : Crs} (hw : c.to.wf) : PCall Tryz.prog 7 [h.av, s.av, c.av] ⟨Bo true, []⟩ := by
  by_cases hb : (fewB h && shortB s) = true
  · rw [Bool.and_eq_true] at hb
    have hk := few_ok hb.1
    have hs := short_few hb.2
    obtain ⟨hb1, hb2⟩ := hb
    have hk1 := one_ok (c40 hk hs hw) (one_ok (c41 hk hs hw) (kLs_ok hk hs))
    by_cases he : crsE h s c = 0
    · obtain ⟨g, hi, ho, _, _, _⟩ := crOk_of hk hs he
      have hk2 := one_ok (c42 g hi ho) hk1
      have e2 : crsA h s c = crAns (wellR h c.su) (planeV h s c.su) c := by unfold crsA; rw [if_pos he, crAns_eq g hi ho]
      rw [e2, he] at hk2
      generalize crAns (wellR h c.su) (planeV h s c.su) c = R at *
      obtain ⟨⟨x, y, z, d⟩, e⟩ := R
      clear hk1
      refine bs.pv (sx := nos) hk2 Tryz.func7 (by kernel_rfl) (by kernel_rfl) rfl ?_
      repeat' (first | refine wk1 ?_ | (refine wk2 ?_ ?_ <;> intro _) | refine wk4 ?_ | fail); all_goals (conv => whnf)
      clear hk2
      all_goals first
        | exact ret_bool rfl
        | (exfalso; simp_all; done)
        | exact ret_bool (by simp_all; done)
    · have e2 : crsA h s c = (ptZ, crsE h s c) := by unfold crsA; rw [if_neg he]
      rw [e2] at hk1
      generalize crsE h s c = E at *
      refine bs.pv (sx := nos) hk1 Tryz.func7 (by kernel_rfl) (by kernel_rfl) rfl ?_
      repeat' (first | refine wk1 ?_ | (refine wk2 ?_ ?_ <;> intro _) | refine wk4 ?_ | fail); all_goals (conv => whnf)
      clear hk1
      all_goals first
        | exact ret_bool rfl
        | (exfalso; simp_all; done)
        | exact ret_bool (by simp_all; done)
  · refine bs.pv (sx := nos) (kNs_ok h s) Tryz.func7 (by kernel_rfl) (by kernel_rfl) rfl ?_
    repeat' (first | refine wk1 ?_ | (refine wk2 ?_ ?_ <;> intro _) | refine wk4 ?_ | fail); all_goals (conv => whnf)
    all_goals first
      | exact ret_bool rfl
      | (exfalso; simp_all; done)
end Go.Proofs.YtjpmeaagnhojgaaGreat
