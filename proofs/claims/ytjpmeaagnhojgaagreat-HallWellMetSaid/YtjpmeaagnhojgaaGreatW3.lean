/- A part of the proof: lemmas. -/
import Derived.Test.YtjpmeaagnhojgaaGreatW2
set_option linter.unusedVariables false
set_option linter.unusedSimpArgs false
namespace Go.Proofs.YtjpmeaagnhojgaaGreat
open Go Go.Sx

/-! ### HallWellMet -/
theorem crAns_zero {well : Pt → Bool} {pl : Int × Int} {c : Crs} (h : (crAns well pl c).2 = 0) : ¬ 0 ≤ sgn (crF pl c) * sgn (crG pl c) ∧ well (crossP pl c) = true ∧ (crAns well pl c).1 = crossP pl c := by
  unfold crAns at h ⊢
  split at h
  · cases h
  · rename_i h1
    split at h
    · rename_i h2
      split at h
      · cases h
      · rename_i h3
        refine ⟨h1, h2, ?_⟩
        rw [if_neg h1, if_pos h2, if_neg h3]
    · cases h
noncomputable abbrev crsT (h : Hal) (s : Stg) : List AV → Option PRes := famA (fun c : Crs => c.to.wf) (fun c => [h.av, s.av, c.av]) (fun c => ⟨crAV (crsA h s c), []⟩)
theorem crsT_hit {h : Hal} {s : Stg} {c : Crs} (hw : c.to.wf) : crsT h s [h.av, s.av, c.av] = some ⟨crAV (crsA h s c), []⟩ :=
  famA_hit (p := fun c : Crs => c.to.wf) (g := fun c => [h.av, s.av, c.av]) (r := fun c => ⟨crAV (crsA h s c), []⟩) (fun j hj => by
    obtain ⟨a, b, d, e, x, y, z, w⟩ := j
    obtain ⟨a', b', d', e', x', y', z', w'⟩ := c
    simp only [List.cons.injEq, AV.agg.injEq, AV.int.injEq, true_and, and_true] at hj
    obtain ⟨rfl, rfl, rfl, rfl, rfl, rfl, rfl, rfl⟩ := hj
    rfl) hw
def r55 : List AV → Option PRes
  | [.agg [.int .i64 a, .int .i64 b, .int .i64 c, .int .i64 d], .agg [.int .i64 x, .int .i64 y, .int .i64 z]] => some ⟨I (awayV ⟨a, b, c, d⟩ x y z), []⟩
  | _ => none
theorem one_wf {x y z : Int} (h : Plc x y z) : (Pt.mk x y z 1).wf := by
  obtain ⟨h1, h2, h3⟩ := h
  exact ⟨(⟨by omega, by omega⟩ : i64 x), (⟨by omega, by omega⟩ : i64 y), (⟨by omega, by omega⟩ : i64 z), (⟨by omega, by omega⟩ : i64 1)⟩
theorem one_ptErr {x y z : Int} (h : Plc x y z) : ptErr ⟨x, y, z, 1⟩ = 0 := by
  obtain ⟨h1, h2, h3⟩ := h
  have g : g4 ⟨x, y, z, 1⟩ = 1 := by
    unfold g4
    show Nat.gcd _ (Nat.gcd _ 1) = 1
    rw [Nat.gcd_one_right, Nat.gcd_one_right]
  have hin : ptIn ⟨x, y, z, 1⟩ = true := by unfold ptIn; simp only [Bool.and_eq_true, within_iff]; omega
  unfold ptErr
  rw [if_neg (by rw [g]; show ¬((1 : Int) ≤ 0 ∨ 1 ≠ 1); omega), if_neg (by show ¬ (100000 : Int) < 1; decide), if_pos hin]
theorem mir_crsE {h : Hal} {s : Stg} {su : Int} (hs : surE h s su = 0) {k a : Int} (hk : 0 ≤ k ∧ k ≤ 4) (ha : -10000 ≤ a ∧ a ≤ 10000) {x y z u v w : Int} (hp : Plc x y z) (hq : Plc u v w) : crsE h s (mirC su (k, a) x y z u v w) = 0 := by
  have hb := mirU_bd hk ha hp
  have e : placeErr (mirC su (k, a) x y z u v w).fx (mirC su (k, a) x y z u v w).fy (mirC su (k, a) x y z u v w).fz = 0 := by
    unfold placeErr img
    rw [if_pos]
    simp only [Bool.and_eq_true, within_iff]
    show ((_ ≤ (mirU k a x y z).1 ∧ (mirU k a x y z).1 ≤ _) ∧ _ ≤ (mirU k a x y z).2.1 ∧ (mirU k a x y z).2.1 ≤ _) ∧ _ ≤ (mirU k a x y z).2.2 ∧ (mirU k a x y z).2.2 ≤ _
    omega
  unfold crsE
  rw [show surE h s (mirC su (k, a) x y z u v w).su = 0 from hs, if_pos rfl, if_pos e]
  exact one_ptErr hq
noncomputable def kW (h : Hal) (s : Stg) (pt : PC) : PC := ins 40 (crsT h s) (ins 36 r36 (ins 35 r35 (ins 55 r55 (ins 32 r32 (ins 30 r30 pt)))))
theorem kW_ok {h : Hal} (hk : h.ok) {s : Stg} (hs : s.few) {pt : PC} (hpt : PCOK Tryz.prog pt) : PCOK Tryz.prog (kW h s pt) := by
  refine famA_ok (fun c hc => c40 hk hs hc) (ins_ok (fun a res h => ?_) (ins_ok (fun a res h => ?_) (ins_ok (fun a res h => ?_) (ins_ok (fun a res h => ?_) (ins_ok (fun a res h => ?_) hpt)))))
  · unfold r36 at h; split at h <;> cases h; exact c36 _ _ _
  · unfold r35 at h; split at h
    · obtain ⟨h1, rfl⟩ := asr_some h
      have := of_decide_eq_true h1
      exact c35 _ _ _ _ _ this.1 this.2
    · cases h
  · unfold r55 at h; split at h <;> cases h; exact c55 ⟨_, _, _, _⟩ _ _ _
  · unfold r32 at h; split at h <;> cases h; exact c32 _ _ _ _ _
  · unfold r30 at h; split at h <;> cases h; exact c30 _ _ _
set_option maxRecDepth 100000 in
set_option maxHeartbeats 16000000 in
theorem c12 (h : Hal) (s : Stg) {c : Crs} (hw : c.to.wf) : PCall Tryz.prog 12 [h.av, s.av, c.av] ⟨Bo true, []⟩ := by
  by_cases hb : (fewB h && shortB s) = true
  · rw [Bool.and_eq_true] at hb
    have hk := few_ok hb.1
    have hs := short_few hb.2
    obtain ⟨hb1, hb2⟩ := hb
    have hk1 := one_ok (c41 hk hs hw) (kW_ok hk hs (kLs_ok hk hs))
    by_cases hbig : crsE h s c = 0 ∧ c.to.d = 1 ∧ (within c.fx (-5000) 5000 && within c.fy (-5000) 5000 && within c.fz (-5000) 5000) = true
    · obtain ⟨he, hd, hin⟩ := hbig
      rw [he] at hk1
      obtain ⟨g, hi, ho, hsu, hpe, hte⟩ := crOk_of hk hs he
      simp only [Bool.and_eq_true] at hin
      obtain ⟨⟨i1, i2⟩, i3⟩ := hin
      have hp : Plc c.fx c.fy c.fz := ⟨within_iff.1 i1, within_iff.1 i2, within_iff.1 i3⟩
      obtain ⟨su, fx, fy, fz, ⟨tx, ty, tz, td⟩⟩ := c
      dsimp only at *
      subst hd
      have hq : Plc tx ty tz := by
        have := (ptErr_zero hte).2.2.2
        unfold ptIn at this
        simp only [Bool.and_eq_true, within_iff] at this
        exact ⟨by omega, by omega, by omega⟩
      obtain ⟨bk, ba⟩ := plane_bd g hi
      have hpa : planeA h s su = planeV h s su := by unfold planeA; rw [if_pos hsu]
      have a54 := c54 hk hs su
      rw [hpa, hsu] at a54
      have hin := mir_in g hi hp hq
      generalize hpl : planeV h s su = pl at *
      obtain ⟨k, a⟩ := pl
      dsimp only at bk ba
      obtain ⟨m1, m2⟩ := mirV_ok bk ba hp
      obtain ⟨m3, m4⟩ := mirV_ok bk ba hq
      have x1 : crsA h s (mirC su (k, a) fx fy fz tx ty tz) = crAns (wellP h su) (k, a) (mirC su (k, a) fx fy fz tx ty tz) := by
        unfold crsA; rw [if_pos (mir_crsE hsu bk ba hp hq)]
        show crAns (wellP h su) (planeV h s su) _ = _
        rw [hpl]
      have x2 : crsA h s (mirC su (k, a) tx ty tz fx fy fz) = crAns (wellP h su) (k, a) (mirC su (k, a) fx fy fz tx ty tz) := by
        unfold crsA; rw [if_pos (mir_crsE hsu bk ba hq hp)]
        show crAns (wellP h su) (planeV h s su) _ = _
        rw [hpl]
        exact crAns_mir bk _ _ _ _ _ _
      have t1 : crsT h s [h.av, s.av, .agg [I su, I (mirP k a fx fy fz).1, I (mirP k a fx fy fz).2.1, I (mirP k a fx fy fz).2.2, I tx, I ty, I tz, I 1]] = some ⟨crAV (crAns (wellP h su) (k, a) (mirC su (k, a) fx fy fz tx ty tz)), []⟩ := by
        rw [← x1, m2]; exact crsT_hit (c := mirC su (k, a) fx fy fz tx ty tz) (one_wf hq)
      have t2 : crsT h s [h.av, s.av, .agg [I su, I (mirP k a tx ty tz).1, I (mirP k a tx ty tz).2.1, I (mirP k a tx ty tz).2.2, I fx, I fy, I fz, I 1]] = some ⟨crAV (crAns (wellP h su) (k, a) (mirC su (k, a) fx fy fz tx ty tz)), []⟩ := by
        rw [← x2, m4]; exact crsT_hit (c := mirC su (k, a) tx ty tz fx fy fz) (one_wf hp)
      have hres : (crAns (wellP h su) (k, a) (mirC su (k, a) fx fy fz tx ty tz)).2 = 12 ∨ ((crAns (wellP h su) (k, a) (mirC su (k, a) fx fy fz tx ty tz)).2 = 0 ∧ ptErr (crAns (wellP h su) (k, a) (mirC su (k, a) fx fy fz tx ty tz)).1 = 0 ∧ (crAns (wellP h su) (k, a) (mirC su (k, a) fx fy fz tx ty tz)).1.wf ∧
          off k a (crAns (wellP h su) (k, a) (mirC su (k, a) fx fy fz tx ty tz)).1.x (crAns (wellP h su) (k, a) (mirC su (k, a) fx fy fz tx ty tz)).1.y (crAns (wellP h su) (k, a) (mirC su (k, a) fx fy fz tx ty tz)).1.z (crAns (wellP h su) (k, a) (mirC su (k, a) fx fy fz tx ty tz)).1.d = 0 ∧
          awayV (crAns (wellP h su) (k, a) (mirC su (k, a) fx fy fz tx ty tz)).1 fx fy fz = awayV (crAns (wellP h su) (k, a) (mirC su (k, a) fx fy fz tx ty tz)).1 (mirP k a fx fy fz).1 (mirP k a fx fy fz).2.1 (mirP k a fx fy fz).2.2) := by
        by_cases hz : (crAns (wellP h su) (k, a) (mirC su (k, a) fx fy fz tx ty tz)).2 = 0
        · right
          obtain ⟨z1, z2, z3⟩ := crAns_zero hz
          refine ⟨hz, ?_⟩
          rw [z3, m2]
          have hok := mirC_ok (su := su) (pl := (k, a)) bk ba hp hq
          have hbg := (red_spec (cross_big hok z1)).2.2.1
          have hden := mir_den (su := su) (pl := (k, a)) bk ba hp hq z1
          have hpe := hin z1 z2
          have hpin := (ptErr_zero hpe).2.2.2
          have hpl2 := cross_plane hok z1
          change Big (crossP (k, a) (mirC su (k, a) fx fy fz tx ty tz)) at hbg
          generalize crossP (k, a) (mirC su (k, a) fx fy fz tx ty tz) = P at *
          unfold ptIn at hpin
          simp only [Bool.and_eq_true, within_iff] at hpin
          have hwf := hbg.wf
          refine ⟨hpe, hwf, ?_, away_mir bk ba ⟨hden.1, hden.2.1⟩ hpin.1.1 hpin.1.2 hpin.2 hp hpl2⟩
          have hc : CrOk (k, a) ⟨su, 0, 0, 0, P⟩ := ⟨bk.1, bk.2, ba, ⟨by show (-45000 : Int) ≤ 0; decide, by show (0 : Int) ≤ 45000; decide⟩, ⟨by show (-45000 : Int) ≤ 0; decide, by show (0 : Int) ≤ 45000; decide⟩, ⟨by show (-45000 : Int) ≤ 0; decide, by show (0 : Int) ≤ 45000; decide⟩, hden.1, by have := hden.2.1; show P.d ≤ _; omega, hpin.1.1, hpin.1.2, hpin.2⟩
          have hG := (crG_bd hc).1
          show off k a P.x P.y P.z P.d = 0
          unfold off
          refine hG.trans ?_
          unfold crG
          show valN k P.x P.y P.z - a * P.d = 0
          have : valN k P.x P.y P.z = a * P.d := hpl2
          omega
        · left
          have := mir_den (su := su) (pl := (k, a)) bk ba hp hq
          unfold crAns at hz ⊢
          split
          · rfl
          · rename_i q1
            have := this q1
            rw [if_neg q1] at hz
            split
            · rename_i q2
              rw [if_pos q2, if_neg (by omega)] at hz
              exact absurd rfl hz
            · rfl
      generalize crAns (wellP h su) (k, a) (mirC su (k, a) fx fy fz tx ty tz) = R at *
      obtain ⟨⟨px, py, pz, pd⟩, e⟩ := R
      dsimp only at hres
      have hk2 := one_ok a54 hk1
      clear a54 x1 x2 hin m2 m4 hk1 ho
      rcases hres with rfl | ⟨rfl, r1, r2, r3, r4⟩
      · refine bs.pv (sx := nos) hk2 Tryz.func12 (by kernel_rfl) (by kernel_rfl) rfl ?_
        repeat' (first | refine wk3 ?_ | (refine wk2 ?_ ?_ <;> intro _) | refine wk4 ?_ | fail); all_goals (conv => whnf)
        clear hk2
        all_goals first
          | exact ret_bool rfl
          | (exfalso; simp_all; done)
          | exact ret_bool (by simp_all; done)
      · have a51 := c51 r2
        rw [r1] at a51
        have hk3 := one_ok a51 hk2
        have ha35 : asr (decide (0 ≤ k ∧ k < 5)) ⟨I (off k a px py pz pd), []⟩ = some ⟨I 0, []⟩ := by rw [asr_of (by omega), r3]
        refine bs.pv (sx := nos) hk3 Tryz.func12 (by kernel_rfl) (by kernel_rfl) rfl ?_
        repeat' (first | refine wk3 ?_ | (refine wk2 ?_ ?_ <;> intro _) | refine wk4 ?_ | fail); all_goals (conv => whnf)
        clear hk2 hk3
        all_goals first
          | exact ret_bool rfl
          | (exfalso; simp_all; done)
          | exact ret_bool (by simp_all; done)
    · by_cases he : crsE h s c = 0
      · by_cases hd : c.to.d = 1
        · have hin : ¬ (within c.fx (-5000) 5000 && within c.fy (-5000) 5000 && within c.fz (-5000) 5000) = true := fun h => hbig ⟨he, hd, h⟩
          rw [he] at hk1
          clear hbig he
          refine bs.pv (sx := nos) hk1 Tryz.func12 (by kernel_rfl) (by kernel_rfl) rfl ?_
          cases h1 : within c.fx (-5000) 5000 with
          | false =>
            repeat' (first | refine wk3 ?_ | (refine wk2 ?_ ?_ <;> intro _) | refine wk4 ?_ | fail); all_goals (conv => whnf)
            clear hk1
            all_goals first
              | exact ret_bool rfl
              | (exfalso; simp_all; done)
          | true =>
            cases h2 : within c.fy (-5000) 5000 with
            | false =>
              repeat' (first | refine wk3 ?_ | (refine wk2 ?_ ?_ <;> intro _) | refine wk4 ?_ | fail); all_goals (conv => whnf)
              clear hk1
              all_goals first
                | exact ret_bool rfl
                | (exfalso; simp_all; done)
            | true =>
              have h3 : within c.fz (-5000) 5000 = false := by
                rw [h1, h2] at hin
                simpa using hin
              repeat' (first | refine wk3 ?_ | (refine wk2 ?_ ?_ <;> intro _) | refine wk4 ?_ | fail); all_goals (conv => whnf)
              clear hk1
              all_goals first
                | exact ret_bool rfl
                | (exfalso; simp_all; done)
        · rw [he] at hk1
          clear hbig he
          refine bs.pv (sx := nos) hk1 Tryz.func12 (by kernel_rfl) (by kernel_rfl) rfl ?_
          repeat' (first | refine wk3 ?_ | (refine wk2 ?_ ?_ <;> intro _) | refine wk4 ?_ | fail); all_goals (conv => whnf)
          clear hk1
          all_goals first
            | exact ret_bool rfl
            | (exfalso; simp_all; done)
      · generalize crsE h s c = E at *
        clear hbig
        refine bs.pv (sx := nos) hk1 Tryz.func12 (by kernel_rfl) (by kernel_rfl) rfl ?_
        repeat' (first | refine wk3 ?_ | (refine wk2 ?_ ?_ <;> intro _) | refine wk4 ?_ | fail); all_goals (conv => whnf)
        clear hk1
        all_goals first
          | exact ret_bool rfl
          | (exfalso; simp_all; done)
  · refine bs.pv (sx := nos) (kNs_ok h s) Tryz.func12 (by kernel_rfl) (by kernel_rfl) rfl ?_
    repeat' (first | refine wk3 ?_ | (refine wk2 ?_ ?_ <;> intro _) | refine wk4 ?_ | fail); all_goals (conv => whnf)
    all_goals first
      | exact ret_bool rfl
      | (exfalso; simp_all; done)
end Go.Proofs.YtjpmeaagnhojgaaGreat
