/- A part of the proof: lemmas. -/
import Derived.Test.YtjpmeaagnhojgaaGreatB3
set_option linter.unusedVariables false
set_option linter.unusedSimpArgs false
namespace Go.Proofs.YtjpmeaagnhojgaaGreat
open Go Go.Sx

/-! ### HallBothWays -/
noncomputable abbrev frees (h : Hal) (s : Stg) : List AV → Option PRes := famA (fun w : Pt × Pt => w.1.wf ∧ w.2.wf) (fun w => [h.av, s.av, wayA w.1 w.2]) (fun w => ⟨.tup [Bo (decide (wayE h s w.1 w.2 = 0) && freeP h s w.1 w.2), I (wayE h s w.1 w.2)], []⟩)
theorem frees_hit {h : Hal} {s : Stg} {p q : Pt} (hp : p.wf) (hq : q.wf) : frees h s [h.av, s.av, wayA p q] = some ⟨.tup [Bo (decide (wayE h s p q = 0) && freeP h s p q), I (wayE h s p q)], []⟩ :=
  famA_hit (p := fun w : Pt × Pt => w.1.wf ∧ w.2.wf) (g := fun w => [h.av, s.av, wayA w.1 w.2]) (r := fun w => ⟨.tup [Bo (decide (wayE h s w.1 w.2 = 0) && freeP h s w.1 w.2), I (wayE h s w.1 w.2)], []⟩) (k := (p, q)) (fun j hj => by
    obtain ⟨⟨a, b, c, d⟩, ⟨x, y, z, w⟩⟩ := j
    obtain ⟨a', b', c', d'⟩ := p
    obtain ⟨x', y', z', w'⟩ := q
    simp only [List.cons.injEq, AV.agg.injEq, AV.int.injEq, true_and, and_true] at hj
    obtain ⟨rfl, rfl, rfl, rfl, rfl, rfl, rfl, rfl⟩ := hj
    rfl) ⟨hp, hq⟩
theorem ptEq_comm (p q : Pt) : ptEq p q = ptEq q p := by
  rw [Bool.eq_iff_iff, ptEq_iff, ptEq_iff]
  exact ⟨Eq.symm, Eq.symm⟩
theorem wayE_zero {h : Hal} {s : Stg} {p q : Pt} (he : wayE h s p q = 0) : serr h s = 0 ∧ ptErr p = 0 ∧ ptErr q = 0 ∧ ptEq p q = false := by
  unfold wayE at he
  split at he
  · rename_i h1
    split at he
    · rename_i h2
      split at he
      · rename_i h3
        split at he
        · cases he
        · rename_i h4
          exact ⟨h1, h2, h3, by simpa using h4⟩
      · rename_i h3; exact absurd he h3
    · rename_i h2; exact absurd he h2
  · rename_i h1; exact absurd he h1
theorem wayE_ok {h : Hal} {s : Stg} {p q : Pt} (h1 : serr h s = 0) (h2 : ptErr p = 0) (h3 : ptErr q = 0) (h4 : ptEq p q = false) : wayE h s p q = 0 := by
  unfold wayE
  rw [if_pos h1, if_pos h2, if_pos h3, h4]; rfl
set_option maxRecDepth 100000 in
set_option maxHeartbeats 16000000 in
theorem c11 (h : Hal) (s : Stg) {p q : Pt} (hp : p.wf) (hq : q.wf) : PCall Tryz.prog 11 [h.av, s.av, wayA p q] ⟨Bo true, []⟩ := by
  by_cases hb : (fewB h && shortB s) = true
  · rw [Bool.and_eq_true] at hb
    have hk := few_ok hb.1
    have hs := short_few hb.2
    obtain ⟨hb1, hb2⟩ := hb
    have hk0 : PCOK Tryz.prog (ins 37 (frees h s) (ins 38 (one [h.av, s.av, wayA p q] ⟨I (wayE h s p q), []⟩) (kLs h s))) := famA_ok (fun w hw => c37 hk hs hw.1 hw.2) (one_ok (c38 hk hs hp hq) (kLs_ok hk hs))
    by_cases he : wayE h s p q = 0 ∧ p.d ≤ 200 ∧ q.d ≤ 200
    · obtain ⟨he, dp, dq⟩ := he
      obtain ⟨z1, z2, z3, z4⟩ := wayE_zero he
      have g := sit_of hk hs z1
      have p1 := ptH_of z2
      have p2 := ptH_of z3
      have hback : wayE h s q p = 0 := wayE_ok z1 z3 z2 (by rw [ptEq_comm]; exact z4)
      have t1 := frees_hit (h := h) (s := s) hp hq
      have t2 := frees_hit (h := h) (s := s) hq hp
      rw [he, decide_eq_true rfl, Bool.true_and] at t1
      rw [hback, decide_eq_true rfl, Bool.true_and] at t2
      have hfb : freeP h s q p = freeP h s p q := by
        rw [Bool.eq_iff_iff, free_iff g p2 p1, free_iff g p1 p2]
        exact ⟨fun f => f.back p2.r p1.r, fun f => f.back p1.r p2.r⟩
      rw [hfb] at t2
      rw [he] at hk0
      cases hf : freeP h s p q with
      | false =>
        rw [hf] at t1 t2
        refine bs.pv (sx := nos) hk0 Tryz.func11 (by kernel_rfl) (by kernel_rfl) rfl ?_
        repeat' (first | refine wk3 ?_ | (refine wk2 ?_ ?_ <;> intro _) | refine wk4 ?_ | fail); all_goals (conv => whnf)
        clear hk0 t1 t2
        all_goals first
          | exact ret_bool rfl
          | (exfalso; simp_all; done)
      | true =>
        rw [hf] at t1 t2
        have f := (free_iff g p1 p2).1 hf
        obtain ⟨m1, m2, m3⟩ := midP_ok p1 p2 dp dq
        have pm := ptH_of m1
        have ne1 := mid_ne z2 z3 m3 z4
        have ne2 : ptEq (midP p q) q = false := by
          rw [ptEq_comm]
          exact mid_ne z3 z2 m3.flip (by rw [ptEq_comm]; exact z4)
        have f1 := free_part g p1 p2 pm m3 f
        have f2 := (free_part g p2 p1 pm m3.flip (f.back p1.r p2.r)).back p2.r pm.r
        have t3 := frees_hit (h := h) (s := s) hp m2
        have t4 := frees_hit (h := h) (s := s) m2 hq
        rw [wayE_ok z1 z2 m1 ne1, decide_eq_true rfl, Bool.true_and, (free_iff g p1 pm).2 f1] at t3
        rw [wayE_ok z1 m1 z3 ne2, decide_eq_true rfl, Bool.true_and, (free_iff g pm p2).2 f2] at t4
        have hins : insE h (midP p q) = 0 := by
          unfold insE
          have : h.err = 0 := by
            unfold serr at z1
            split at z1
            · assumption
            · rename_i hx; exact absurd z1 hx
          rw [if_pos this]; exact m1
        have hin : isInsR h (midP p q) = true := by
          have hh : 0 ≤ h.ht ∧ h.ht ≤ 5000 := by have := g.fine.ht; omega
          obtain ⟨b1, b2⟩ := btw_z (h := h) m3 ((zB_iff hh p1 p2).1 f.z)
          have e : inPlanR h (midP p q) = inPlan h (midX p q) (midY p q) (midD p q) := by
            have e0 := inPlan_eq g.fine.st (midP p q).z pm.r.ok
            refine e0.symm.trans ?_
            obtain ⟨e4, e5, e6⟩ := mid_eq p1.r p2.r
            refine inPlan_move g.fine.st (p := p.pl) (q := q.pl) (fun w hw n sx sy hs => f.w w hw n sx sy hs) (a := q.d) (b := p.d) (c := q.d) (e := p.d) (k := g4 (rawM p q)) (k' := 1) p2.r.d0 p1.r.d0 p2.r.d0 p1.r.d0 m3.k0 (by omega) pm.r.ok (mid_ok p1.r p2.r) ?_ ?_
            · unfold mulP addP Pt.pl
              simp only [P2d.mk.injEq]
              exact ⟨m3.x, m3.y, m3.d⟩
            · rw [e4, e5, e6]
              unfold mulP addP Pt.pl
              simp only [P2d.mk.injEq]
              refine ⟨by grind, by grind, by grind⟩
          unfold isInsR
          rw [(zOff_eq hh pm).2.1, decide_eq_true b1, decide_eq_true b2, e, f.m]; rfl
        have a50 := c50 hk m2
        rw [hins, hin] at a50
        have hk1 := one_ok a50 (one_ok (c53 p1 p2 dp dq) hk0)
        generalize midP p q = M at *
        clear hk0 a50 f f1 f2 m3
        refine bs.pv (sx := nos) hk1 Tryz.func11 (by kernel_rfl) (by kernel_rfl) rfl ?_
        repeat' (first | refine wk3 ?_ | (refine wk2 ?_ ?_ <;> intro _) | refine wk4 ?_ | fail); all_goals (conv => whnf)
        clear hk1 t1 t2 t3 t4
        all_goals first
          | exact ret_bool rfl
          | (exfalso; simp_all; done)
    · generalize wayE h s p q = E at *
      refine bs.pv (sx := nos) hk0 Tryz.func11 (by kernel_rfl) (by kernel_rfl) rfl ?_
      by_cases hE : E = 0
      · by_cases d1 : p.d ≤ 200
        · repeat' (first | refine wk3 ?_ | (refine wk2 ?_ ?_ <;> intro _) | refine wk4 ?_ | fail); all_goals (conv => whnf)
          clear hk0
          all_goals first
            | exact ret_bool rfl
            | (exfalso; simp_all; done)
            | (exfalso; omega)
        · repeat' (first | refine wk3 ?_ | (refine wk2 ?_ ?_ <;> intro _) | refine wk4 ?_ | fail); all_goals (conv => whnf)
          clear hk0
          all_goals first
            | exact ret_bool rfl
            | (exfalso; simp_all; done)
            | (exfalso; omega)
      · repeat' (first | refine wk3 ?_ | (refine wk2 ?_ ?_ <;> intro _) | refine wk4 ?_ | fail); all_goals (conv => whnf)
        clear hk0
        all_goals first
          | exact ret_bool rfl
          | (exfalso; simp_all; done)
  · refine bs.pv (sx := nos) (kNs_ok h s) Tryz.func11 (by kernel_rfl) (by kernel_rfl) rfl ?_
    repeat' (first | refine wk3 ?_ | (refine wk2 ?_ ?_ <;> intro _) | refine wk4 ?_ | fail); all_goals (conv => whnf)
    all_goals first
      | exact ret_bool rfl
      | (exfalso; simp_all; done)
end Go.Proofs.YtjpmeaagnhojgaaGreat
