/- A part of the proof: lemmas. -/
import Derived.Test.YtjpmeaagnhojgaaGreatF13
import Derived.Test.YtjpmeaagnhojgaaGreatF14
set_option linter.unusedVariables false
set_option linter.unusedSimpArgs false
namespace Go.Proofs.YtjpmeaagnhojgaaGreat
open Go Go.Sx

/-! ### Both say the same -/
theorem wl_str {h : Hal} (g : h.fine) {k : Nat} (hk : k < h.cs.length) : ∃ n sx sy, Str (wlOf h.cs k) n sx sy := g.st k hk
theorem wlA_eq {h : Hal} (g : h.fine) {p q : Pt} (hp : PtR p) (hq : PtR q) : ∀ (n k : Nat), k + n ≤ h.cs.length → wlA h.cs p q k n = ((List.range' k n).map (wlOf h.cs)).any (touP p q)
  | 0, _, _ => by simp [wlA]
  | n + 1, k, hk => by
    rw [wlA, List.range'_succ, List.map_cons, List.any_cons, wlA_eq g hp hq n (k + 1) (by omega)]
    congr 1
    obtain ⟨m, sx, sy, hs⟩ := g.st k (by omega)
    rw [Bool.eq_iff_iff, touP_iff hs hp hq, lnOf_eq, onWallR_iff hs hp hq]
theorem blkB_eq {h : Hal} {s : Stg} (g : Sit h s) {p q : Pt} (hp : PtH p) (hq : PtH q) : ∀ (l : List Can) (j : Nat), h.ks.drop j = l → blkB h s p q j l = blkA h s p q j l
  | [], _, _ => by simp [blkA, blkB]
  | c :: l, j, hl => by
    have hj : j < h.ks.length := by
      rcases Nat.lt_or_ge j h.ks.length with hj | hj
      · exact hj
      · rw [List.drop_of_length_le hj] at hl; cases hl
    rw [List.drop_eq_getElem_cons hj] at hl
    simp only [List.cons.injEq] at hl
    obtain ⟨rfl, hl⟩ := hl
    have hb := hgt_bd g hj
    have ht := g.fine.ht
    rw [blkA, blkB, blkB_eq g hp hq l (j + 1) hl, blk_eq (rcOk_of (can_all g.fine hj).1) ⟨by omega, by omega⟩ hp hq]
theorem mid_ok {p q : Pt} (hp : PtR p) (hq : PtR q) : PtOk (midX p q) (midY p q) (midD p q) := by
  obtain ⟨e1, e2, e3⟩ := mid_eq hp hq
  rw [e1, e2, e3]
  obtain ⟨a1, a2, a3, a4⟩ := hp
  obtain ⟨b1, b2, b3, b4⟩ := hq
  have m1 := mul_bd (a := q.x) (b := p.d) (A := 500000000) (B := 100000) (by omega) (by omega)
  have m2 := mul_bd (a := p.x) (b := q.d) (A := 500000000) (B := 100000) (by omega) (by omega)
  have m3 := mul_bd (a := q.y) (b := p.d) (A := 500000000) (B := 100000) (by omega) (by omega)
  have m4 := mul_bd (a := p.y) (b := q.d) (A := 500000000) (B := 100000) (by omega) (by omega)
  have m5 := mul_bd (a := 2 * p.d) (b := q.d) (A := 200000) (B := 100000) (by omega) (by omega)
  have m6 := Int.mul_pos (show 0 < 2 * p.d by omega) b1
  exact ⟨m6, by omega, by omega, by omega⟩
theorem free_eq {h : Hal} {s : Stg} (g : Sit h s) {p q : Pt} (hp : PtH p) (hq : PtH q) : freeP h s p q = freeR h s p q := by
  unfold freeP freeR
  have hwc := g.fine.le.2.2.1
  rw [wlA_eq g.fine hp.r hq.r _ 0 (by omega), hwc, blkB_eq g hp hq h.ks 0 rfl, inPlan_eq g.fine.st 0 (mid_ok hp.r hq.r)]
  have : (List.range' 0 h.cs.length).map (wlOf h.cs) = wls h.cs := by unfold wls; rw [List.range_eq_range']
  rw [this]
  rfl

/-! ### HallFree -/
noncomputable abbrev ptRs : List AV → Option PRes := ptEs
set_option maxRecDepth 100000 in
set_option maxHeartbeats 16000000 in
theorem c38 {h : Hal} (hk : h.ok) {s : Stg} (hs : s.few) {p q : Pt} (hp : p.wf) (hq : q.wf) : PCall Tryz.prog 38 [h.av, s.av, wayA p q] ⟨I (wayE h s p q), []⟩ := by
  have hk0 : PCOK Tryz.prog (ins 51 ptEs (ins 20 (one [h.av, s.av] ⟨I (serr h s), []⟩) pt0)) := famA_ok (fun p hp => c51 hp) (one_ok (c20 hk hs) pt0_ok)
  have t1 := ptEs_hit hp
  have t2 := ptEs_hit hq
  have hx : (decide (p.x = q.x) && (decide (p.y = q.y) && (decide (p.z = q.z) && (decide (p.d = q.d) && true)))) = ptEq p q := by
    unfold ptEq
    cases decide (p.x = q.x) <;> cases decide (p.y = q.y) <;> cases decide (p.z = q.z) <;> cases decide (p.d = q.d) <;> rfl
  unfold wayE
  generalize serr h s = e0 at *
  generalize ptErr p = e1 at *
  generalize ptErr q = e2 at *
  rw [← hx]
  refine bs.pv (sx := nos) hk0 Tryz.func38 (by kernel_rfl) (by kernel_rfl) rfl ?_
  repeat' (first | refine wk3 ?_ | (refine wk2 ?_ ?_ <;> intro _) | refine wk4 ?_ | fail); all_goals (conv => whnf)
  all_goals clear hk0 t1 t2 hx
  all_goals first
    | exact ret_int (by simp_all; done)
    | (exfalso; simp_all; done)
set_option maxRecDepth 100000 in
set_option maxHeartbeats 16000000 in
theorem c6 (h : Hal) (s : Stg) {p q : Pt} (hp : p.wf) (hq : q.wf) : PCall Tryz.prog 6 [h.av, s.av, wayA p q] ⟨Bo true, []⟩ := by
  by_cases hb : (fewB h && shortB s) = true
  · rw [Bool.and_eq_true] at hb
    have hk := few_ok hb.1
    have hs := short_few hb.2
    obtain ⟨hb1, hb2⟩ := hb
    have hk1 := one_ok (c37 hk hs hp hq) (one_ok (c38 hk hs hp hq) (kLs_ok hk hs))
    by_cases he : wayE h s p q = 0
    · have hz : serr h s = 0 ∧ ptErr p = 0 ∧ ptErr q = 0 := by
        unfold wayE at he
        split at he
        · rename_i h1
          split at he
          · rename_i h2
            split at he
            · rename_i h3; exact ⟨h1, h2, h3⟩
            · rename_i h3; exact absurd he h3
          · rename_i h2; exact absurd he h2
        · rename_i h1; exact absurd he h1
      have g := sit_of hk hs hz.1
      have p1 := ptH_of hz.2.1
      have p2 := ptH_of hz.2.2
      rw [he, decide_eq_true rfl, Bool.true_and, free_eq g p1 p2] at hk1
      have hk2 := one_ok (c39 g p1.r p2.r) hk1
      generalize freeR h s p q = b at *
      clear hk1
      refine bs.pv (sx := nos) hk2 Tryz.func6 (by kernel_rfl) (by kernel_rfl) rfl ?_
      repeat' (first | refine wk3 ?_ | (refine wk2 ?_ ?_ <;> intro _) | refine wk4 ?_ | fail); all_goals (conv => whnf)
      clear hk2
      all_goals first
        | exact ret_bool rfl
        | (exfalso; simp_all; done)
        | exact ret_bool (by simp_all; done)
    · rw [decide_eq_false he, Bool.false_and] at hk1
      generalize wayE h s p q = E at *
      refine bs.pv (sx := nos) hk1 Tryz.func6 (by kernel_rfl) (by kernel_rfl) rfl ?_
      repeat' (first | refine wk3 ?_ | (refine wk2 ?_ ?_ <;> intro _) | refine wk4 ?_ | fail); all_goals (conv => whnf)
      clear hk1
      all_goals first
        | exact ret_bool rfl
        | (exfalso; simp_all; done)
        | exact ret_bool (by simp_all; done)
  · refine bs.pv (sx := nos) (kNs_ok h s) Tryz.func6 (by kernel_rfl) (by kernel_rfl) rfl ?_
    repeat' (first | refine wk3 ?_ | (refine wk2 ?_ ?_ <;> intro _) | refine wk4 ?_ | fail); all_goals (conv => whnf)
    all_goals first
      | exact ret_bool rfl
      | (exfalso; simp_all; done)
end Go.Proofs.YtjpmeaagnhojgaaGreat
