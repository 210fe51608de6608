/- A part of the proof: lemmas. -/
import Derived.Test.YtjpmeaagnhojgaaGreatE8
set_option linter.unusedVariables false
set_option linter.unusedSimpArgs false
namespace Go.Proofs.YtjpmeaagnhojgaaGreat
open Go Go.Sx

/-! ### HallSettings -/
theorem stg_inj {s t : Stg} (h : s.av = t.av) : s = t := by
  simp only [AV.agg.injEq, List.cons.injEq, AV.isl.injEq, true_and, and_true] at h
  have e1 := nl_inj h.1
  have e2 := nl_inj h.2
  cases s; cases t
  simp only at e1 e2
  rw [e1, e2]
noncomputable abbrev cpsT : List AV → Option PRes := famA (fun s : Stg => s.few) (fun s => [s.av]) (fun s => ⟨s.av, []⟩)
theorem cps_hit {s : Stg} (hs : s.few) : cpsT [s.av] = some ⟨s.av, []⟩ :=
  famA_hit (p := fun s : Stg => s.few) (g := fun s => [s.av]) (r := fun s => ⟨s.av, []⟩) (k := s) (fun j hj => by rw [stg_inj (List.cons.inj hj).1]) hs
noncomputable abbrev csT (h : Hal) : List AV → Option PRes := famA (fun s : Stg => s.few) (fun s => [h.av, s.av]) (fun s => ⟨I (serr h s), []⟩)
theorem cs_hit {h : Hal} {s : Stg} (hs : s.few) : csT h [h.av, s.av] = some ⟨I (serr h s), []⟩ :=
  famA_hit (p := fun s : Stg => s.few) (g := fun s => [h.av, s.av]) (r := fun s => ⟨I (serr h s), []⟩) (k := s) (fun j hj => by rw [stg_inj (List.cons.inj (List.cons.inj hj).2).1]) hs
theorem nil_same : PCall Tryz.prog 24 [(⟨[], []⟩ : Stg).av, .agg [.nils, .nils]] ⟨Bo true, []⟩ :=
  PCall.nilArgs (c24 few_nil few_nil) ⟨NA.rfl, .inr ⟨_, _, rfl, rfl, .inr ⟨rfl, 1, rfl⟩, .inr ⟨rfl, 1, rfl⟩, trivial⟩, trivial⟩
set_option maxRecDepth 100000 in
set_option maxHeartbeats 16000000 in
theorem c9 (h : Hal) (s : Stg) (n : Int) : PCall Tryz.prog 9 [h.av, s.av, I n] ⟨Bo true, []⟩ := by
  by_cases hb : (fewB h && shortB s) = true
  · rw [Bool.and_eq_true] at hb
    have hk := few_ok hb.1
    have hs := short_few hb.2
    obtain ⟨hb1, hb2⟩ := hb
    have a1 := c21 hk
    have a2 := c23f hk n
    have hL := kLs_ok hk hs
    by_cases he : h.err = 0
    · have g := fine_of hk he
      have a3 := c48 hk g
      have a4 := c49f hk n g he
      have e1 : (if 1000 < nset h then 0 else nset h) = cntV h := by unfold cntV; rw [if_pos he]
      have e2 : (if 1000 < nset h then 8 else (0 : Int)) = cntE h := by unfold cntE; rw [if_pos he]
      rw [e1, e2] at a3
      have hx := setAV_few hk n
      have a5 := c24 hx hx
      rw [sameS_iff.2 rfl] at a5
      have a6 : setAE h n = 0 → serr h (setAV h n) = 0 := by
        intro h0
        unfold setAV
        rw [if_pos h0]
        unfold serr
        rw [if_pos he]
        exact setE_of hk.f (setD_ok (pos_hgs g) n)
      have p1 := cps_hit hs
      have p2 := cps_hit hx
      have q1 := cs_hit (h := h) hs
      have q2 := cs_hit (h := h) hx
      have a7 := c45 hk
      rw [he] at a7
      have h0 := famA_ok (f0 := 47) (p := fun s : Stg => s.few) (g := fun s => [h.av, s.av]) (r := fun s => ⟨I (serr h s), []⟩) (fun s hs => c47 hk hs) (famA_ok (f0 := 29) (p := fun s : Stg => s.few) (g := fun s => [s.av]) (r := fun s => ⟨s.av, []⟩) (fun s hs => c29 hs) (one_ok (c20 hk hs) (one_ok a1 (one_ok a2 (one_ok a3 (one_ok a4 (one_ok a5 (one_ok a7 hL))))))))
      generalize setAV h n = x at *
      generalize serr h x = ex at *
      generalize cntV h = v1 at *
      generalize cntE h = v2 at *
      generalize setAE h n = v3 at *
      generalize serr h s = v4 at *
      refine bs.pv (sx := nos) h0 Tryz.func9 (by kernel_rfl) (by kernel_rfl) rfl ?_
      repeat' (first | refine wk3 ?_ | (refine wk2 ?_ ?_ <;> intro _) | refine wk4 ?_ | fail); all_goals (conv => whnf)
      clear h0 hL a1 a2 a3 a4 a5 a7 p1 p2 q1 q2
      all_goals first
        | exact ret_bool rfl
        | (exfalso; simp_all; done)
        | exact ret_bool (by simp_all; done)
    · have e1 : cntV h = 0 := by unfold cntV; rw [if_neg he]
      have e2 : cntE h = h.err := by unfold cntE; rw [if_neg he]
      have e3 : setAE h n = h.err := by unfold setAE; rw [e2, if_neg he]
      have e4 : setAV h n = ⟨[], []⟩ := by unfold setAV; rw [e3, if_neg he]
      rw [e1, e2] at a1
      rw [e3, e4] at a2
      have h0 := one_ok (c47 hk hs) (one_ok (c20 hk hs) (one_ok a1 (one_ok a2 (one_ok nil_same (one_ok (c45 hk) hL)))))
      generalize serr h s = v4 at *
      refine bs.pv (sx := nos) h0 Tryz.func9 (by kernel_rfl) (by kernel_rfl) rfl ?_
      repeat' (first | refine wk3 ?_ | (refine wk2 ?_ ?_ <;> intro _) | refine wk4 ?_ | fail); all_goals (conv => whnf)
      clear h0 hL a1 a2
      all_goals first
        | exact ret_bool rfl
        | (exfalso; simp_all; done)
        | exact ret_bool (by simp_all; done)
  · refine bs.pv (sx := nos) (kNs_ok h s) Tryz.func9 (by kernel_rfl) (by kernel_rfl) rfl ?_
    repeat' (first | refine wk1 ?_ | (refine wk2 ?_ ?_ <;> intro _) | refine wk4 ?_ | fail); all_goals (conv => whnf)
    all_goals first
      | exact ret_bool rfl
      | (exfalso; simp_all; done)
end Go.Proofs.YtjpmeaagnhojgaaGreat
