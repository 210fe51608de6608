/- A part of the proof: lemmas. -/
import Derived.Test.YtjpmeaagnhojgaaGreatF10
set_option linter.unusedVariables false
set_option linter.unusedSimpArgs false
namespace Go.Proofs.YtjpmeaagnhojgaaGreat
open Go Go.Sx

theorem sg_bd (a b : Int) : -1 ≤ sgn a * sgn b ∧ sgn a * sgn b ≤ 1 := by
  have := mul_bd (A := 1) (B := 1) (sgn_bd a) (sgn_bd b); omega
set_option maxRecDepth 100000 in
set_option maxHeartbeats 32000000 in
theorem c104 {w : Wl} {n sx sy : Int} (h : Str w n sx sy) {p q : Pt} (hp : PtR p) (hq : PtR q) : PCall Tryz.prog 104 [w.ln.av, p.av, q.av] ⟨Bo (onWallR w.ln p q), []⟩ := by
  have ep : w.ln.beside p = bsP w sx sy p.pl := beside_eq (z := p.z) h hp.ok
  have eq : w.ln.beside q = bsP w sx sy q.pl := beside_eq (z := q.z) h hq.ok
  have ap : w.ln.along p = alP w sx sy p.pl := along_eq (z := p.z) h hp.ok
  have aq : w.ln.along q = alP w sx sy q.pl := along_eq (z := q.z) h hq.ok
  have ef : w.ln.full = ful n sx sy := full_eq h
  obtain ⟨b1, b2⟩ := bes_bd h hp
  obtain ⟨b3, b4⟩ := bes_bd h hq
  obtain ⟨f1, f2⟩ := ful_bd h
  rw [← ep, ← ap] at *
  rw [← eq, ← aq] at *
  rw [← ef] at *
  have hn : w.ln.n ≠ 0 := by rw [h.ln.2.2.1]; have := h.hn; omega
  clear ep eq ap aq ef h
  generalize w.ln = l at *
  have dp := hp.d0
  have dp1 := hp.d1
  have dq := hq.d0
  have dq1 := hq.d1
  clear hp hq
  obtain ⟨lx, ly, ldx, ldy⟩ := l
  obtain ⟨px, py, pz, pd⟩ := p
  obtain ⟨qx, qy, qz, qd⟩ := q
  dsimp only at *
  obtain ⟨f, hf⟩ : ∃ f, (Ln.mk lx ly ldx ldy).beside ⟨px, py, pz, pd⟩ = f := ⟨_, rfl⟩
  obtain ⟨g, hg⟩ : ∃ f, (Ln.mk lx ly ldx ldy).beside ⟨qx, qy, qz, qd⟩ = f := ⟨_, rfl⟩
  obtain ⟨lo, hlo⟩ : ∃ f, (Ln.mk lx ly ldx ldy).along ⟨px, py, pz, pd⟩ = f := ⟨_, rfl⟩
  obtain ⟨hi, hhi⟩ : ∃ f, (Ln.mk lx ly ldx ldy).along ⟨qx, qy, qz, qd⟩ = f := ⟨_, rfl⟩
  obtain ⟨F, hF⟩ : ∃ f, (Ln.mk lx ly ldx ldy).full = f := ⟨_, rfl⟩
  have ha1 : asr (decide ((Ln.mk lx ly ldx ldy).n ≠ 0)) ⟨I ((Ln.mk lx ly ldx ldy).beside ⟨px, py, pz, pd⟩), []⟩ = some ⟨I f, []⟩ := by rw [asr_of hn, hf]
  have ha2 : asr (decide ((Ln.mk lx ly ldx ldy).n ≠ 0)) ⟨I ((Ln.mk lx ly ldx ldy).beside ⟨qx, qy, qz, qd⟩), []⟩ = some ⟨I g, []⟩ := by rw [asr_of hn, hg]
  have ha3 : asr (decide ((Ln.mk lx ly ldx ldy).n ≠ 0)) ⟨I ((Ln.mk lx ly ldx ldy).along ⟨px, py, pz, pd⟩), []⟩ = some ⟨I lo, []⟩ := by rw [asr_of hn, hlo]
  have ha4 : asr (decide ((Ln.mk lx ly ldx ldy).n ≠ 0)) ⟨I ((Ln.mk lx ly ldx ldy).along ⟨qx, qy, qz, qd⟩), []⟩ = some ⟨I hi, []⟩ := by rw [asr_of hn, hhi]
  have ha5 : asr (decide ((Ln.mk lx ly ldx ldy).n ≠ 0)) ⟨I (Ln.mk lx ly ldx ldy).full, []⟩ = some ⟨I F, []⟩ := by rw [asr_of hn, hF]
  unfold onWallR
  dsimp only
  rw [hf, hg, hlo, hhi, hF]
  rw [hf] at b1
  rw [hg] at b3
  rw [hlo] at b2
  rw [hhi] at b4
  rw [hF] at f1 f2
  have hk0 : PCOK Tryz.prog (ins 30 r30 kC2) := ins_ok (f0 := 30) (r := r30) (fun a res h => by unfold r30 at h; split at h <;> cases h; exact c30 _ _ _) kC2_ok
  clear hn hf hg hlo hhi hF
  refine bs.pv (sx := nos) hk0 Tryz.func104 (by kernel_rfl) (by kernel_rfl) rfl ?_
  by_cases h0 : f = 0 ∧ g = 0
  · rw [if_pos h0]
    obtain ⟨rfl, rfl⟩ := h0
    have t := cmps_hit (n := lo) (d := pd) (m := hi) (k := qd) ⟨by omega, by omega, by omega, by omega⟩
    generalize cmpQ lo pd hi qd = c at *
    rcases Int.lt_trichotomy c 0 with hc | hc | hc
    · rw [if_neg (by omega), if_pos hc]
      repeat' (first | refine wk3 ?_ | (refine wk2 ?_ ?_ <;> intro _) | refine wk4 ?_ | fail); all_goals (conv => whnf)
      all_goals clear ha1 ha2 ha3 ha4 ha5 hk0
      all_goals first | exact ret_bool rfl | (refine ret_bool ?_; simp_all; done) | (refine ret_bool ?_; simp_all; intros; omega) | (exfalso; simp_all; done) | (exfalso; simp_all; omega)
    · rw [if_pos hc]
      repeat' (first | refine wk3 ?_ | (refine wk2 ?_ ?_ <;> intro _) | refine wk4 ?_ | fail); all_goals (conv => whnf)
      all_goals clear ha1 ha2 ha3 ha4 ha5 hk0
      all_goals first | exact ret_bool rfl | (refine ret_bool ?_; simp_all; done) | (refine ret_bool ?_; simp_all; intros; omega) | (exfalso; simp_all; done) | (exfalso; simp_all; omega)
    · rw [if_neg (by omega), if_neg (by omega)]
      repeat' (first | refine wk3 ?_ | (refine wk2 ?_ ?_ <;> intro _) | refine wk4 ?_ | fail); all_goals (conv => whnf)
      all_goals clear ha1 ha2 ha3 ha4 ha5 hk0
      all_goals first | exact ret_bool rfl | (refine ret_bool ?_; simp_all; done) | (refine ret_bool ?_; simp_all; intros; omega) | (exfalso; simp_all; done) | (exfalso; simp_all; omega)
  · rw [if_neg h0]
    have hw := W_sgn f g
    by_cases h1 : 0 ≤ IntKind.i64.wrap (sgn f * sgn g)
    · rw [if_pos h1]
      repeat' (first | refine wk3 ?_ | (refine wk2 ?_ ?_ <;> intro _) | refine wk4 ?_ | fail); all_goals (conv => whnf)
      all_goals clear ha1 ha2 ha3 ha4 ha5 hk0
      all_goals first | exact ret_bool rfl | (refine ret_bool ?_; simp_all; done) | (refine ret_bool ?_; simp_all; intros; omega) | (exfalso; simp_all; done) | (exfalso; simp_all; omega)
    · rw [if_neg h1]
      have h2 := sgn_mul_neg.1 (show sgn f * sgn g < 0 by omega)
      have m1 := mul_bd (a := lo) (b := g) (A := 2000000000) (B := 2000000000) (by omega) (by omega)
      have m2 := mul_bd (a := hi) (b := f) (A := 2000000000) (B := 2000000000) (by omega) (by omega)
      have m3 := mul_bd (a := g) (b := pd) (A := 2000000000) (B := 100000) (by omega) (by omega)
      have m4 := mul_bd (a := f) (b := qd) (A := 2000000000) (B := 100000) (by omega) (by omega)
      have eN : IntKind.i64.wrap (IntKind.i64.wrap (lo * g) - IntKind.i64.wrap (hi * f)) = lo * g - hi * f := by rw [W_eq (n := lo * g) (by omega) (by omega), W_eq (n := hi * f) (by omega) (by omega), W_eq (by omega) (by omega)]
      have eD : IntKind.i64.wrap (IntKind.i64.wrap (g * pd) - IntKind.i64.wrap (f * qd)) = g * pd - f * qd := by rw [W_eq (n := g * pd) (by omega) (by omega), W_eq (n := f * qd) (by omega) (by omega), W_eq (by omega) (by omega)]
      have eN2 : IntKind.i64.wrap (0 - IntKind.i64.wrap (IntKind.i64.wrap (lo * g) - IntKind.i64.wrap (hi * f))) = -(lo * g - hi * f) := by rw [eN, W_eq (by omega) (by omega)]; omega
      have eD2 : IntKind.i64.wrap (0 - IntKind.i64.wrap (IntKind.i64.wrap (g * pd) - IntKind.i64.wrap (f * qd))) = -(g * pd - f * qd) := by rw [eD, W_eq (by omega) (by omega)]; omega
      rcases h2 with h2 | h2
      · have k1 := (pos_l dp).2 h2.2
        have k2 := (neg_l dq).2 h2.1
        rw [Int.mul_comm] at k1 k2
        have t := cmps_hit (n := IntKind.i64.wrap (IntKind.i64.wrap (lo * g) - IntKind.i64.wrap (hi * f))) (d := IntKind.i64.wrap (IntKind.i64.wrap (g * pd) - IntKind.i64.wrap (f * qd))) (m := F) (k := 1) ⟨by omega, by omega, by omega, by omega⟩
        rw [if_neg (by omega)]
        generalize cmpQ (IntKind.i64.wrap (IntKind.i64.wrap (lo * g) - IntKind.i64.wrap (hi * f))) (IntKind.i64.wrap (IntKind.i64.wrap (g * pd) - IntKind.i64.wrap (f * qd))) F 1 = c at *
        repeat' (first | refine wk3 ?_ | (refine wk2 ?_ ?_ <;> intro _) | refine wk4 ?_ | fail); all_goals (conv => whnf)
        all_goals clear ha1 ha2 ha3 ha4 ha5 hk0
        all_goals first | exact ret_bool rfl | (refine ret_bool ?_; simp_all; done) | (refine ret_bool ?_; simp_all; intros; omega) | (exfalso; simp_all; done) | (exfalso; simp_all; omega)
      · have k1 := (neg_l dp).2 h2.2
        have k2 := (pos_l dq).2 h2.1
        rw [Int.mul_comm] at k1 k2
        have t := cmps_hit (n := IntKind.i64.wrap (0 - IntKind.i64.wrap (IntKind.i64.wrap (lo * g) - IntKind.i64.wrap (hi * f)))) (d := IntKind.i64.wrap (0 - IntKind.i64.wrap (IntKind.i64.wrap (g * pd) - IntKind.i64.wrap (f * qd)))) (m := F) (k := 1) ⟨by omega, by omega, by omega, by omega⟩
        rw [if_pos (by omega)]
        generalize cmpQ (IntKind.i64.wrap (0 - IntKind.i64.wrap (IntKind.i64.wrap (lo * g) - IntKind.i64.wrap (hi * f)))) (IntKind.i64.wrap (0 - IntKind.i64.wrap (IntKind.i64.wrap (g * pd) - IntKind.i64.wrap (f * qd)))) F 1 = c at *
        repeat' (first | refine wk3 ?_ | (refine wk2 ?_ ?_ <;> intro _) | refine wk4 ?_ | fail); all_goals (conv => whnf)
        all_goals clear ha1 ha2 ha3 ha4 ha5 hk0
        all_goals first | exact ret_bool rfl | (refine ret_bool ?_; simp_all; done) | (refine ret_bool ?_; simp_all; intros; omega) | (exfalso; simp_all; done) | (exfalso; simp_all; omega)
set_option maxRecDepth 100000 in
set_option maxHeartbeats 32000000 in
theorem c107 {c : Can} (hr : CanOk c) (ht : Int) {p q : Pt} (hp : PtR p) (hq : PtR q) : PCall Tryz.prog 107 [.agg c.av, I ht, p.av, q.av] ⟨Bo (blkR c.rc ht p q), []⟩ := by
  have hk0 := one_ok (c190 hr hp hq) kR4_ok
  obtain ⟨px, py, pz, pd⟩ := p
  obtain ⟨qx, qy, qz, qd⟩ := q
  clear hp hq hr
  unfold blkR
  dsimp only
  have z1 : zOff ht ⟨px, py, pz, pd⟩ = IntKind.i64.wrap (pz - IntKind.i64.wrap (ht * pd)) := rfl
  have z2 : zOff ht ⟨qx, qy, qz, qd⟩ = IntKind.i64.wrap (qz - IntKind.i64.wrap (ht * qd)) := rfl
  rw [z1, z2]
  clear z1 z2
  have eD : onX pd qd (IntKind.i64.wrap (qz - IntKind.i64.wrap (ht * qd))) (IntKind.i64.wrap (pz - IntKind.i64.wrap (ht * pd))) = (IntKind.i64.wrap (IntKind.i64.wrap ((IntKind.i64.wrap (qz - IntKind.i64.wrap (ht * qd))) * pd) - IntKind.i64.wrap ((IntKind.i64.wrap (pz - IntKind.i64.wrap (ht * pd))) * qd))) := by unfold onX; rw [Int.mul_comm pd, Int.mul_comm qd]
  have hx1 : PCall Tryz.prog 191 [.agg c.av, P4 (IntKind.i64.wrap (IntKind.i64.wrap (px * (IntKind.i64.wrap (qz - IntKind.i64.wrap (ht * qd)))) - IntKind.i64.wrap (qx * (IntKind.i64.wrap (pz - IntKind.i64.wrap (ht * pd)))))) (IntKind.i64.wrap (IntKind.i64.wrap (py * (IntKind.i64.wrap (qz - IntKind.i64.wrap (ht * qd)))) - IntKind.i64.wrap (qy * (IntKind.i64.wrap (pz - IntKind.i64.wrap (ht * pd)))))) 0 (IntKind.i64.wrap (IntKind.i64.wrap ((IntKind.i64.wrap (qz - IntKind.i64.wrap (ht * qd))) * pd) - IntKind.i64.wrap ((IntKind.i64.wrap (pz - IntKind.i64.wrap (ht * pd))) * qd)))] ⟨Bo (c.rc.has (onX px qx (IntKind.i64.wrap (qz - IntKind.i64.wrap (ht * qd))) (IntKind.i64.wrap (pz - IntKind.i64.wrap (ht * pd)))) (onX py qy (IntKind.i64.wrap (qz - IntKind.i64.wrap (ht * qd))) (IntKind.i64.wrap (pz - IntKind.i64.wrap (ht * pd)))) (onX pd qd (IntKind.i64.wrap (qz - IntKind.i64.wrap (ht * qd))) (IntKind.i64.wrap (pz - IntKind.i64.wrap (ht * pd))))), []⟩ := by rw [eD]; exact c191 c ⟨(IntKind.i64.wrap (IntKind.i64.wrap (px * (IntKind.i64.wrap (qz - IntKind.i64.wrap (ht * qd)))) - IntKind.i64.wrap (qx * (IntKind.i64.wrap (pz - IntKind.i64.wrap (ht * pd)))))), (IntKind.i64.wrap (IntKind.i64.wrap (py * (IntKind.i64.wrap (qz - IntKind.i64.wrap (ht * qd)))) - IntKind.i64.wrap (qy * (IntKind.i64.wrap (pz - IntKind.i64.wrap (ht * pd)))))), 0, (IntKind.i64.wrap (IntKind.i64.wrap ((IntKind.i64.wrap (qz - IntKind.i64.wrap (ht * qd))) * pd) - IntKind.i64.wrap ((IntKind.i64.wrap (pz - IntKind.i64.wrap (ht * pd))) * qd)))⟩
  have hx2 : PCall Tryz.prog 191 [.agg c.av, P4 (IntKind.i64.wrap (0 - (IntKind.i64.wrap (IntKind.i64.wrap (px * (IntKind.i64.wrap (qz - IntKind.i64.wrap (ht * qd)))) - IntKind.i64.wrap (qx * (IntKind.i64.wrap (pz - IntKind.i64.wrap (ht * pd)))))))) (IntKind.i64.wrap (0 - (IntKind.i64.wrap (IntKind.i64.wrap (py * (IntKind.i64.wrap (qz - IntKind.i64.wrap (ht * qd)))) - IntKind.i64.wrap (qy * (IntKind.i64.wrap (pz - IntKind.i64.wrap (ht * pd)))))))) 0 (IntKind.i64.wrap (0 - (IntKind.i64.wrap (IntKind.i64.wrap ((IntKind.i64.wrap (qz - IntKind.i64.wrap (ht * qd))) * pd) - IntKind.i64.wrap ((IntKind.i64.wrap (pz - IntKind.i64.wrap (ht * pd))) * qd)))))] ⟨Bo (c.rc.has (IntKind.i64.wrap (0 - onX px qx (IntKind.i64.wrap (qz - IntKind.i64.wrap (ht * qd))) (IntKind.i64.wrap (pz - IntKind.i64.wrap (ht * pd))))) (IntKind.i64.wrap (0 - onX py qy (IntKind.i64.wrap (qz - IntKind.i64.wrap (ht * qd))) (IntKind.i64.wrap (pz - IntKind.i64.wrap (ht * pd))))) (IntKind.i64.wrap (0 - onX pd qd (IntKind.i64.wrap (qz - IntKind.i64.wrap (ht * qd))) (IntKind.i64.wrap (pz - IntKind.i64.wrap (ht * pd)))))), []⟩ := by rw [eD]; exact c191 c ⟨(IntKind.i64.wrap (0 - (IntKind.i64.wrap (IntKind.i64.wrap (px * (IntKind.i64.wrap (qz - IntKind.i64.wrap (ht * qd)))) - IntKind.i64.wrap (qx * (IntKind.i64.wrap (pz - IntKind.i64.wrap (ht * pd)))))))), (IntKind.i64.wrap (0 - (IntKind.i64.wrap (IntKind.i64.wrap (py * (IntKind.i64.wrap (qz - IntKind.i64.wrap (ht * qd)))) - IntKind.i64.wrap (qy * (IntKind.i64.wrap (pz - IntKind.i64.wrap (ht * pd)))))))), 0, (IntKind.i64.wrap (0 - (IntKind.i64.wrap (IntKind.i64.wrap ((IntKind.i64.wrap (qz - IntKind.i64.wrap (ht * qd))) * pd) - IntKind.i64.wrap ((IntKind.i64.wrap (pz - IntKind.i64.wrap (ht * pd))) * qd)))))⟩
  have e0 : IntKind.i64.wrap (0 - 0) = 0 := rfl
  by_cases h0 : (IntKind.i64.wrap (pz - IntKind.i64.wrap (ht * pd))) = 0 ∧ (IntKind.i64.wrap (qz - IntKind.i64.wrap (ht * qd))) = 0
  · rw [if_pos h0]
    obtain ⟨h1, h2⟩ := h0
    refine bs.pv (sx := nos) hk0 Tryz.func107 (by kernel_rfl) (by kernel_rfl) rfl ?_
    repeat' (first | refine wk3 ?_ | (refine wk2 ?_ ?_ <;> intro _) | refine wk4 ?_ | fail); all_goals (conv => whnf)
    exact ret_bool rfl
  · rw [if_neg h0]
    by_cases h1 : 0 ≤ IntKind.i64.wrap (sgn (IntKind.i64.wrap (pz - IntKind.i64.wrap (ht * pd))) * sgn (IntKind.i64.wrap (qz - IntKind.i64.wrap (ht * qd))))
    · rw [if_pos h1]
      refine bs.pv (sx := nos) hk0 Tryz.func107 (by kernel_rfl) (by kernel_rfl) rfl ?_
      repeat' (first | refine wk3 ?_ | (refine wk2 ?_ ?_ <;> intro _) | refine wk4 ?_ | fail); all_goals (conv => whnf)
      all_goals first | exact ret_bool rfl | (refine ret_bool ?_; simp_all; done) | (refine ret_bool ?_; simp_all; intros; omega) | (exfalso; simp_all; done) | (exfalso; simp_all; omega)
    · rw [if_neg h1]
      by_cases h2 : onX pd qd (IntKind.i64.wrap (qz - IntKind.i64.wrap (ht * qd))) (IntKind.i64.wrap (pz - IntKind.i64.wrap (ht * pd))) < 0
      · rw [if_pos h2]
        have hk1 := one_ok hx2 hk0
        generalize c.rc.has (IntKind.i64.wrap (0 - onX px qx (IntKind.i64.wrap (qz - IntKind.i64.wrap (ht * qd))) (IntKind.i64.wrap (pz - IntKind.i64.wrap (ht * pd))))) (IntKind.i64.wrap (0 - onX py qy (IntKind.i64.wrap (qz - IntKind.i64.wrap (ht * qd))) (IntKind.i64.wrap (pz - IntKind.i64.wrap (ht * pd))))) (IntKind.i64.wrap (0 - onX pd qd (IntKind.i64.wrap (qz - IntKind.i64.wrap (ht * qd))) (IntKind.i64.wrap (pz - IntKind.i64.wrap (ht * pd))))) = b at *
        rw [eD] at h2
        refine bs.pv (sx := nos) hk1 Tryz.func107 (by kernel_rfl) (by kernel_rfl) rfl ?_
        repeat' (first | refine wk3 ?_ | (refine wk2 ?_ ?_ <;> intro _) | refine wk4 ?_ | fail); all_goals (conv => whnf)
        all_goals first | exact ret_bool rfl | (refine ret_bool ?_; simp_all; done) | (refine ret_bool ?_; simp_all; intros; omega) | (exfalso; simp_all; done) | (exfalso; simp_all; omega)
      · rw [if_neg h2]
        have hk1 := one_ok hx1 hk0
        generalize c.rc.has (onX px qx (IntKind.i64.wrap (qz - IntKind.i64.wrap (ht * qd))) (IntKind.i64.wrap (pz - IntKind.i64.wrap (ht * pd)))) (onX py qy (IntKind.i64.wrap (qz - IntKind.i64.wrap (ht * qd))) (IntKind.i64.wrap (pz - IntKind.i64.wrap (ht * pd)))) (onX pd qd (IntKind.i64.wrap (qz - IntKind.i64.wrap (ht * qd))) (IntKind.i64.wrap (pz - IntKind.i64.wrap (ht * pd)))) = b at *
        rw [eD] at h2
        refine bs.pv (sx := nos) hk1 Tryz.func107 (by kernel_rfl) (by kernel_rfl) rfl ?_
        repeat' (first | refine wk3 ?_ | (refine wk2 ?_ ?_ <;> intro _) | refine wk4 ?_ | fail); all_goals (conv => whnf)
        all_goals first | exact ret_bool rfl | (refine ret_bool ?_; simp_all; done) | (refine ret_bool ?_; simp_all; intros; omega) | (exfalso; simp_all; done) | (exfalso; simp_all; omega)
end Go.Proofs.YtjpmeaagnhojgaaGreat
