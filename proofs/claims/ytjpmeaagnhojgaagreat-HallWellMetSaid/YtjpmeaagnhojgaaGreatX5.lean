/- A part of the proof: lemmas. -/
import Derived.Test.YtjpmeaagnhojgaaGreatX4
set_option linter.unusedVariables false
set_option linter.unusedSimpArgs false
namespace Go.Proofs.YtjpmeaagnhojgaaGreat
open Go Go.Sx

/-! ### CrossAt -/
def crsE (h : Hal) (s : Stg) (c : Crs) : Int := if surE h s c.su = 0 then (if placeErr c.fx c.fy c.fz = 0 then ptErr c.to else placeErr c.fx c.fy c.fz) else surE h s c.su
set_option maxRecDepth 100000 in
set_option maxHeartbeats 4000000 in
theorem c41 {h : Hal} (hk : h.ok) {s : Stg} (hs : s.few) {c : Crs} (hw : c.to.wf) : PCall Tryz.prog 41 [h.av, s.av, c.av] ⟨I (crsE h s c), []⟩ := by
  have hk0 := one_ok (c57 hk hs c.su) (one_ok (c51 hw) k96_ok)
  refine bs.pv (sx := nos) hk0 Tryz.func41 (by kernel_rfl) (by kernel_rfl) rfl ?_
  repeat' (first | refine wk0 ?_ | (refine wk2 ?_ ?_ <;> intro _) | refine wk4 ?_ | fail); all_goals (conv => whnf)
  all_goals clear hk0
  all_goals exact ret_int (by simp_all [crsE])
theorem crOk_of {h : Hal} {s : Stg} {c : Crs} (hk : h.ok) (hs : s.few) (h0 : crsE h s c = 0) : Sit h s ∧ SK h c.su ∧ CrOk (planeV h s c.su) c ∧ surE h s c.su = 0 ∧ placeErr c.fx c.fy c.fz = 0 ∧ ptErr c.to = 0 := by
  unfold crsE at h0
  split at h0
  · rename_i h1
    split at h0
    · rename_i h2
      have e := surE_zero h1
      have g := sit_of hk hs e.1
      have hi := sk_of e.2.1 e.2.2
      obtain ⟨⟨b1, b2⟩, b3⟩ := plane_bd g hi
      obtain ⟨p1, p2, _, p4⟩ := ptErr_zero h0
      unfold ptIn at p4
      simp only [Bool.and_eq_true, within_iff] at p4
      have h3 := h2
      unfold placeErr img at h3
      split at h3
      · rename_i h4
        simp only [Bool.and_eq_true, within_iff] at h4
        exact ⟨g, hi, ⟨b1, b2, b3, by omega, by omega, by omega, p1, p2, p4.1.1, p4.1.2, p4.2⟩, h1, h2, h0⟩
      · cases h3
    · rename_i h2; exact absurd h0 h2
  · rename_i h1; exact absurd h0 h1
abbrev crAV (r : Pt × Int) : AV := .tup [r.1.av, I r.2]
theorem crAns_side {well : Pt → Bool} {pl : Int × Int} {c : Crs} (hs : 0 ≤ sgn (crF pl c) * sgn (crG pl c)) : crAns well pl c = (ptZ, 12) := by unfold crAns; rw [if_pos hs]
theorem crAns_no {well : Pt → Bool} {pl : Int × Int} {c : Crs} (hw : well (crossP pl c) = false) : crAns well pl c = (ptZ, 12) := by unfold crAns; rw [hw]; split <;> rfl
theorem crAns_big {well : Pt → Bool} {pl : Int × Int} {c : Crs} (hs : ¬ 0 ≤ sgn (crF pl c) * sgn (crG pl c)) (hw : well (crossP pl c) = true) (hd : 100000 < (crossP pl c).d) : crAns well pl c = (ptZ, 8) := by unfold crAns; rw [if_neg hs, hw, if_pos rfl, if_pos hd]
theorem crAns_ok {well : Pt → Bool} {pl : Int × Int} {c : Crs} (hs : ¬ 0 ≤ sgn (crF pl c) * sgn (crG pl c)) (hw : well (crossP pl c) = true) (hd : ¬ 100000 < (crossP pl c).d) : crAns well pl c = (crossP pl c, 0) := by unfold crAns; rw [if_neg hs, hw, if_pos rfl, if_neg hd]
set_option maxRecDepth 100000 in
set_option maxHeartbeats 16000000 in
theorem c42 {h : Hal} {s : Stg} {c : Crs} (g : Sit h s) (hi : SK h c.su) (ho : CrOk (planeV h s c.su) c) : PCall Tryz.prog 42 [h.av, s.av, c.av] ⟨crAV (crAns (wellR h c.su) (planeV h s c.su) c), []⟩ := by
  obtain ⟨f1, f2, f3⟩ := crF_bd ho
  obtain ⟨g1, g2⟩ := crG_bd ho
  have hk0 := one_ok (c59 g hi) kGc_ok
  generalize hpl : planeV h s c.su = pl at *
  have hkk : 0 ≤ pl.1 ∧ pl.1 < 5 := ⟨ho.k0, by have := ho.k4; omega⟩
  have hk1 : PCOK Tryz.prog (ins 35 r35 (ins 59 (one [h.av, s.av, I c.su] ⟨P2 pl.1 pl.2, []⟩) kGc)) := ins_ok (fun a res h => by
    unfold r35 at h; split at h
    · obtain ⟨h1, rfl⟩ := asr_some h
      have := of_decide_eq_true h1
      exact c35 _ _ _ _ _ this.1 this.2
    · cases h) hk0
  have a1 : asr (decide (0 ≤ pl.1 ∧ pl.1 < 5)) ⟨I (off pl.1 pl.2 c.fx c.fy c.fz 1), []⟩ = some ⟨I (crF pl c), []⟩ := by rw [asr_of hkk]; exact congrArg some (congrArg (PRes.mk · []) (congrArg I f2))
  have a2 : asr (decide (0 ≤ pl.1 ∧ pl.1 < 5)) ⟨I (off pl.1 pl.2 c.to.x c.to.y c.to.z c.to.d), []⟩ = some ⟨I (crG pl c), []⟩ := by rw [asr_of hkk]; exact congrArg some (congrArg (PRes.mk · []) (congrArg I g1))
  by_cases hs : 0 ≤ sgn (crF pl c) * sgn (crG pl c)
  · rw [crAns_side hs]
    have hs2 : 0 ≤ IntKind.i64.wrap (sgn (crF pl c) * sgn (crG pl c)) := by rw [W_sgn]; exact hs
    refine bs.pv (sx := nos) hk1 Tryz.func42 (by kernel_rfl) (by kernel_rfl) rfl ?_
    generalize crF pl c = F at *
    generalize crG pl c = G at *
    repeat' (first | refine wk1 ?_ | (refine wk2 ?_ ?_ <;> intro _) | refine wk4 ?_ | fail); all_goals (conv => whnf)
    exact ret_of rfl rfl
  · have hs2 : ¬ 0 ≤ IntKind.i64.wrap (sgn (crF pl c) * sgn (crG pl c)) := by rw [W_sgn]; exact hs
    have hB := cross_big ho hs
    have hx := crPt_bd ho (u := iabs (crG pl c)) (v := iabs (crF pl c)) (by have := wts_of ho hs; omega) (by have := wts_of ho hs; omega)
    have h3 := sgn_mul_neg.1 (show sgn (crF pl c) * sgn (crG pl c) < 0 by omega)
    have hcr : crossP pl c = redP (crPt c (iabs (crG pl c)) (iabs (crF pl c))) := rfl
    have hwl := c121 g hi (crossP pl c)
    have A1 := crAns_no (well := wellR h c.su) (pl := pl) (c := c)
    have A2 := crAns_big (well := wellR h c.su) hs
    have A3 := crAns_ok (well := wellR h c.su) hs
    generalize crAns (wellR h c.su) pl c = ans at *
    have iF : iabs (crF pl c) = if crF pl c < 0 then -crF pl c else crF pl c := rfl
    have iG : iabs (crG pl c) = if crG pl c < 0 then -crG pl c else crG pl c := rfl
    generalize wellR h c.su (crossP pl c) = wl at *
    generalize crossP pl c = Q at *
    generalize crF pl c = F at *
    generalize crG pl c = G at *
    generalize iabs F = v at *
    generalize iabs G = u at *
    generalize hp : crPt c u v = p at *
    have px : c.fx * u + c.to.x * v = p.x := by rw [← hp]; rfl
    have py : c.fy * u + c.to.y * v = p.y := by rw [← hp]; rfl
    have pz : c.fz * u + c.to.z * v = p.z := by rw [← hp]; rfl
    have pd : u + c.to.d * v = p.d := by rw [← hp]; rfl
    obtain ⟨x1, x2, x3, x4, x5, x6, x7⟩ := hx
    have hDd := hB.d
    rcases h3 with ⟨n1, n2⟩ | ⟨n1, n2⟩
    · rw [if_pos n1] at iF
      rw [if_neg (by omega)] at iG
      subst iF iG
      have q : ∀ a b : Int, (-90000000000000 ≤ a * u ∧ a * u ≤ 90000000000000) → (-50000000000000 ≤ b * -F ∧ b * -F ≤ 50000000000000) → IntKind.i64.wrap (IntKind.i64.wrap (a * u) - IntKind.i64.wrap (b * F)) = a * u + b * -F := by
        intro a b k1 k2
        rw [Int.mul_neg] at k2 ⊢
        rw [W_eq (n := a * u) (by omega) (by omega), W_eq (n := b * F) (by omega) (by omega), W_eq (by omega) (by omega)]
        omega
      have qd : IntKind.i64.wrap (u - IntKind.i64.wrap (F * c.to.d)) = p.d := by
        rw [Int.mul_comm F]
        rw [Int.mul_neg] at x7 pd
        rw [W_eq (n := c.to.d * F) (by omega) (by omega), W_eq (by omega) (by omega)]; omega
      obtain ⟨k1, k2, k3, k4, k5, k6, k7, k8⟩ := cr_raw hB (X := IntKind.i64.wrap (IntKind.i64.wrap (c.fx * u) - IntKind.i64.wrap (c.to.x * F))) (Y := IntKind.i64.wrap (IntKind.i64.wrap (c.fy * u) - IntKind.i64.wrap (c.to.y * F))) (Z := IntKind.i64.wrap (IntKind.i64.wrap (c.fz * u) - IntKind.i64.wrap (c.to.z * F))) (D := IntKind.i64.wrap (u - IntKind.i64.wrap (F * c.to.d))) (by rw [q _ _ x1 x4, px]) (by rw [q _ _ x2 x5, py]) (by rw [q _ _ x3 x6, pz]) qd
      rw [← hcr] at k4 k5 k6 k7
      have hw2 : PCall Tryz.prog 121 [h.av, I c.su, P4 (IntKind.i64.wrap ((IntKind.i64.wrap (IntKind.i64.wrap (c.fx * u) - IntKind.i64.wrap (c.to.x * F))).tdiv (g4 p))) (IntKind.i64.wrap ((IntKind.i64.wrap (IntKind.i64.wrap (c.fy * u) - IntKind.i64.wrap (c.to.y * F))).tdiv (g4 p))) (IntKind.i64.wrap ((IntKind.i64.wrap (IntKind.i64.wrap (c.fz * u) - IntKind.i64.wrap (c.to.z * F))).tdiv (g4 p))) (IntKind.i64.wrap ((IntKind.i64.wrap (u - IntKind.i64.wrap (F * c.to.d))).tdiv (g4 p)))] ⟨Bo wl, []⟩ := by
        rw [k4, k5, k6, k7]; exact hwl
      have hk2 := one_ok hw2 hk1
      clear hw2 hwl hk0 hk1
      refine bs.pv (sx := nos) hk2 Tryz.func42 (by kernel_rfl) (by kernel_rfl) rfl ?_
      cases wl with
      | false =>
        rw [A1 rfl]
        repeat' (first | refine wk1 ?_ | (refine wk2 ?_ ?_ <;> intro _) | refine wk4 ?_ | fail); all_goals (conv => whnf)
        exact ret_of rfl rfl
      | true =>
        by_cases hd : 100000 < Q.d
        · rw [A2 rfl hd]
          repeat' (first | refine wk1 ?_ | (refine wk2 ?_ ?_ <;> intro _) | refine wk4 ?_ | fail); all_goals (conv => whnf)
          exact ret_of rfl rfl
        · rw [A3 rfl hd]
          repeat' (first | refine wk1 ?_ | (refine wk2 ?_ ?_ <;> intro _) | refine wk4 ?_ | fail); all_goals (conv => whnf)
          exact ret_of (by rw [k4, k5, k6, k7]) rfl
    · rw [if_neg (by omega)] at iF
      rw [if_pos n2] at iG
      subst iF iG
      have q : ∀ a b : Int, (-90000000000000 ≤ a * -G ∧ a * -G ≤ 90000000000000) → (-50000000000000 ≤ b * v ∧ b * v ≤ 50000000000000) → IntKind.i64.wrap (0 - IntKind.i64.wrap (IntKind.i64.wrap (a * G) - IntKind.i64.wrap (b * v))) = a * -G + b * v := by
        intro a b k1 k2
        rw [Int.mul_neg] at k1 ⊢
        rw [W_eq (n := a * G) (by omega) (by omega), W_eq (n := b * v) (by omega) (by omega), W_eq (n := a * G - b * v) (by omega) (by omega), W_eq (by omega) (by omega)]
        omega
      have qn : IntKind.i64.wrap (G - IntKind.i64.wrap (v * c.to.d)) = -p.d := by
        rw [Int.mul_comm v]
        rw [W_eq (n := c.to.d * v) (by omega) (by omega), W_eq (by omega) (by omega)]; omega
      have qd : IntKind.i64.wrap (0 - IntKind.i64.wrap (G - IntKind.i64.wrap (v * c.to.d))) = p.d := by
        rw [qn, W_eq (by omega) (by omega)]; omega
      obtain ⟨k1, k2, k3, k4, k5, k6, k7, k8⟩ := cr_raw hB (X := IntKind.i64.wrap (0 - IntKind.i64.wrap (IntKind.i64.wrap (c.fx * G) - IntKind.i64.wrap (c.to.x * v)))) (Y := IntKind.i64.wrap (0 - IntKind.i64.wrap (IntKind.i64.wrap (c.fy * G) - IntKind.i64.wrap (c.to.y * v)))) (Z := IntKind.i64.wrap (0 - IntKind.i64.wrap (IntKind.i64.wrap (c.fz * G) - IntKind.i64.wrap (c.to.z * v)))) (D := IntKind.i64.wrap (0 - IntKind.i64.wrap (G - IntKind.i64.wrap (v * c.to.d)))) (by rw [q _ _ x1 x4, px]) (by rw [q _ _ x2 x5, py]) (by rw [q _ _ x3 x6, pz]) qd
      rw [← hcr] at k4 k5 k6 k7
      have hw2 : PCall Tryz.prog 121 [h.av, I c.su, P4 (IntKind.i64.wrap ((IntKind.i64.wrap (0 - IntKind.i64.wrap (IntKind.i64.wrap (c.fx * G) - IntKind.i64.wrap (c.to.x * v)))).tdiv (g4 p))) (IntKind.i64.wrap ((IntKind.i64.wrap (0 - IntKind.i64.wrap (IntKind.i64.wrap (c.fy * G) - IntKind.i64.wrap (c.to.y * v)))).tdiv (g4 p))) (IntKind.i64.wrap ((IntKind.i64.wrap (0 - IntKind.i64.wrap (IntKind.i64.wrap (c.fz * G) - IntKind.i64.wrap (c.to.z * v)))).tdiv (g4 p))) (IntKind.i64.wrap ((IntKind.i64.wrap (0 - IntKind.i64.wrap (G - IntKind.i64.wrap (v * c.to.d)))).tdiv (g4 p)))] ⟨Bo wl, []⟩ := by
        rw [k4, k5, k6, k7]; exact hwl
      have hk2 := one_ok hw2 hk1
      clear hw2 hwl hk0 hk1
      refine bs.pv (sx := nos) hk2 Tryz.func42 (by kernel_rfl) (by kernel_rfl) rfl ?_
      cases wl with
      | false =>
        rw [A1 rfl]
        repeat' (first | refine wk1 ?_ | (refine wk2 ?_ ?_ <;> intro _) | refine wk4 ?_ | fail); all_goals (conv => whnf)
        exact ret_of rfl rfl
      | true =>
        by_cases hd : 100000 < Q.d
        · rw [A2 rfl hd]
          repeat' (first | refine wk1 ?_ | (refine wk2 ?_ ?_ <;> intro _) | refine wk4 ?_ | fail); all_goals (conv => whnf)
          exact ret_of rfl rfl
        · rw [A3 rfl hd]
          repeat' (first | refine wk1 ?_ | (refine wk2 ?_ ?_ <;> intro _) | refine wk4 ?_ | fail); all_goals (conv => whnf)
          exact ret_of (by rw [k4, k5, k6, k7]) rfl
end Go.Proofs.YtjpmeaagnhojgaaGreat
