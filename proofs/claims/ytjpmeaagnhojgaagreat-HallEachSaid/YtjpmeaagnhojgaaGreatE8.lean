/- A part of the proof: lemmas. -/
import Derived.Test.YtjpmeaagnhojgaaGreatE7
import Derived.Test.YtjpmeaagnhojgaaGreatLw10
import Derived.Test.YtjpmeaagnhojgaaGreatSxNil
set_option linter.unusedVariables false
set_option linter.unusedSimpArgs false
namespace Go.Proofs.YtjpmeaagnhojgaaGreat
open Go Go.Sx

/-! ### Settings that are the same -/
def sameS (s t : Stg) : Bool := eqN s.hs t.hs && eqN s.dr t.dr
theorem sameS_iff {s t : Stg} : sameS s t = true ↔ s = t := by
  unfold sameS
  rw [Bool.and_eq_true, eqN_iff, eqN_iff]
  cases s; cases t
  simp
theorem c24 {s t : Stg} (hs : s.few) (ht : t.few) : PCall Tryz.prog 24 [s.av, t.av] ⟨Bo (sameS s t), []⟩ := by
  have a1 := ints_hit (a := s.hs) (b := t.hs) (by have := hs.1; omega) (by have := ht.1; omega)
  have a2 := ints_hit (a := s.dr) (b := t.dr) (by have := hs.2; omega) (by have := ht.2; omega)
  refine bs.pv (sx := nos) (intsT_ok pt0_ok) Tryz.func24 (by kernel_rfl) (by kernel_rfl) rfl ?_
  repeat' (first | refine wk3 ?_ | (refine wk2 ?_ ?_ <;> intro _) | refine wk4 ?_ | fail); all_goals (conv => whnf)
  all_goals exact ret_bool (by unfold sameS; clear a1 a2; simp_all)
noncomputable abbrev sameT : List AV → Option PRes := famA (fun p : Stg × Stg => p.1.few ∧ p.2.few) (fun p => [p.1.av, p.2.av]) (fun p => ⟨Bo (sameS p.1 p.2), []⟩)
theorem same_hit {s t : Stg} (hs : s.few) (ht : t.few) : sameT [s.av, t.av] = some ⟨Bo (sameS s t), []⟩ :=
  famA_hit (p := fun p : Stg × Stg => p.1.few ∧ p.2.few) (g := fun p => [p.1.av, p.2.av]) (r := fun p => ⟨Bo (sameS p.1 p.2), []⟩) (k := (s, t)) (fun j hj => by
    simp only [List.cons.injEq, AV.agg.injEq, AV.isl.injEq, true_and, and_true] at hj
    obtain ⟨⟨a1, a2⟩, a3, a4⟩ := hj
    have e1 := nl_inj a1; have e2 := nl_inj a2; have e3 := nl_inj a3; have e4 := nl_inj a4
    show (⟨Bo (sameS j.1 j.2), []⟩ : PRes) = _
    unfold sameS
    rw [e1, e2, e3, e4]) ⟨hs, ht⟩
theorem sameT_ok {pt : PC} (h : PCOK Tryz.prog pt) : PCOK Tryz.prog (ins 24 sameT pt) := famA_ok (fun p hp => c24 hp.1 hp.2) h

/-! ### The setting of a number, or the error -/
theorem few_nil : (⟨[], []⟩ : Stg).few := ⟨by decide, by decide⟩
theorem setD_few {h : Hal} (hk : h.ok) (n : Int) : (setD h n).few := by
  constructor
  · unfold setD hrad
    rw [dgs_len, List.length_map]
    exact hk.f.2.2.2.1
  · have h1 := drW_up (n := n) h.ws 0
    have h2 := drW_mem (n := n) h.ws 0
    have key : ∀ (l : List Int) (a : Int), l.Pairwise (· < ·) → (∀ x ∈ l, a ≤ x ∧ x < h.ws.length) → (l.length : Int) ≤ (h.ws.length : Int) - a ∨ l = [] := by
      intro l
      induction l with
      | nil => intro a _ _; exact .inr rfl
      | cons x l ih =>
        intro a hp hx
        obtain ⟨p1, p2⟩ := List.pairwise_cons.1 hp
        have hxx := hx x (by simp)
        left
        rcases ih (x + 1) p2 (fun y hy => ⟨by have := p1 y hy; omega, (hx y (by simp [hy])).2⟩) with g | rfl
        · simp only [List.length_cons]; omega
        · simp only [List.length_cons, List.length_nil]; omega
    have := hk.f.2.2.1
    show (drW 0 h.ws n).1.length < 1000
    rcases key _ 0 h1 (fun x hx => by have := h2 x hx; omega) with g | g
    · omega
    · rw [g]; decide
theorem setAV_few {h : Hal} (hk : h.ok) (n : Int) : (setAV h n).few := by
  unfold setAV
  split
  · exact setD_few hk n
  · exact few_nil
theorem nset_pos {h : Hal} (g : h.fine) : 0 < nset h := Int.mul_pos (prd_pos (hrad_pos (pos_hgs g))) (prd_pos wrad_pos)
set_option maxRecDepth 100000 in
set_option maxHeartbeats 4000000 in
theorem c23f {h : Hal} (hk : h.ok) (n : Int) : PCall Tryz.prog 23 [h.av, I n] ⟨.tup [(setAV h n).av, I (setAE h n)], []⟩ := by
  by_cases he : h.err = 0
  · have g := fine_of hk he
    have hp := nset_pos g
    by_cases hc : cntE h = 0
    · obtain ⟨b1, b2, b3⟩ := cntV_bd hc
      by_cases hw : within n 0 (cntV h - 1) = true
      · have e : setAE h n = 0 := by unfold setAE; rw [if_pos hc, if_pos hw]
        unfold setAV
        rw [e, if_pos rfl]
        exact c23 hk n g hc hw
      · have e : setAE h n = 6 := by unfold setAE; rw [if_pos hc, if_neg hw]
        unfold setAV
        rw [e, if_neg (by decide)]
        have a21 := c21 hk
        rw [hc] at a21
        have hw2 : within n 0 (IntKind.i64.wrap (cntV h - 1)) = false := by rw [W_eq (by omega) (by omega)]; simpa using hw
        have h0 : PCOK Tryz.prog (ins 21 (one [h.av] ⟨.tup [I (cntV h), I 0], []⟩) k93) := one_ok a21 k93_ok
        refine PCall.freeze (res := ⟨.tup [.agg [.nils, .nils], I 6], []⟩) ?_ ⟨⟨rfl, rfl, trivial⟩, ⟨rfl, rfl⟩, trivial⟩
        refine bs.pv (sx := fun f => Nat.beq f 80) h0 Tryz.func23 (by kernel_rfl) (by kernel_rfl) rfl ?_
        repeat' (first | refine wk3 ?_ | (refine wk2 ?_ ?_ <;> intro _) | refine wk4 ?_ | fail); all_goals (conv => whnf)
        · exact ret_of rfl rfl
        · exfalso; simp_all
    · have e : setAE h n = 8 := by
        unfold setAE
        rw [if_neg hc]
        unfold cntE at hc ⊢
        rw [if_pos he] at hc ⊢
        split at hc
        · rename_i h1; rw [if_pos h1]
        · exact absurd rfl hc
      have e2 : cntE h = 8 := by unfold setAE at e; rw [if_neg hc] at e; exact e
      unfold setAV
      rw [e, if_neg (by decide)]
      have a21 := c21 hk
      rw [e2] at a21
      have h0 : PCOK Tryz.prog (ins 21 (one [h.av] ⟨.tup [I (cntV h), I 8], []⟩) k93) := one_ok a21 k93_ok
      refine PCall.freeze (res := ⟨.tup [.agg [.nils, .nils], I 8], []⟩) ?_ ⟨⟨rfl, rfl, trivial⟩, ⟨rfl, rfl⟩, trivial⟩
      refine bs.pv (sx := nos) h0 Tryz.func23 (by kernel_rfl) (by kernel_rfl) rfl ?_
      repeat' (first | refine wk3 ?_ | (refine wk2 ?_ ?_ <;> intro _) | refine wk4 ?_ | fail); all_goals (conv => whnf)
      exact ret_of rfl rfl
  · have e2 : cntE h = h.err := by unfold cntE; rw [if_neg he]
    have e : setAE h n = h.err := by unfold setAE; rw [e2, if_neg he]
    unfold setAV
    rw [e, if_neg he]
    have a21 := c21 hk
    rw [e2] at a21
    have h0 : PCOK Tryz.prog (ins 21 (one [h.av] ⟨.tup [I (cntV h), I h.err], []⟩) k93) := one_ok a21 k93_ok
    refine PCall.freeze (res := ⟨.tup [.agg [.nils, .nils], I h.err], []⟩) ?_ ⟨⟨rfl, rfl, trivial⟩, ⟨rfl, rfl⟩, trivial⟩
    refine bs.pv (sx := nos) h0 Tryz.func23 (by kernel_rfl) (by kernel_rfl) rfl ?_
    repeat' (first | refine wk3 ?_ | (refine wk2 ?_ ?_ <;> intro _) | refine wk4 ?_ | fail); all_goals (conv => whnf)
    exact ret_of rfl rfl
set_option maxRecDepth 100000 in
set_option maxHeartbeats 4000000 in
theorem c49f {h : Hal} (hk : h.ok) (n : Int) (g : h.fine) (he : h.err = 0) : PCall Tryz.prog 49 [h.av, I n] ⟨.tup [(setAV h n).av, I (setAE h n)], []⟩ := by
  have hp := nset_pos g
  have a48 := c48 hk g
  by_cases hc : cntE h = 0
  · obtain ⟨b1, b2, b3⟩ := cntV_bd hc
    by_cases hw : within n 0 (cntV h - 1) = true
    · have e : setAE h n = 0 := by unfold setAE; rw [if_pos hc, if_pos hw]
      unfold setAV
      rw [e, if_pos rfl]
      exact c49 hk n g hc hw
    · have e : setAE h n = 6 := by unfold setAE; rw [if_pos hc, if_neg hw]
      unfold setAV
      rw [e, if_neg (by decide)]
      rw [if_neg (by omega), if_neg (by omega)] at a48
      have hw2 : within n 0 (IntKind.i64.wrap (nset h - 1)) = false := by rw [W_eq (by omega) (by omega), ← b1]; simpa using hw
      have h0 : PCOK Tryz.prog (ins 48 (one [h.av] ⟨.tup [I (nset h), I 0], []⟩) k93) := one_ok a48 k93_ok
      refine PCall.freeze (res := ⟨.tup [.agg [.nils, .nils], I 6], []⟩) ?_ ⟨⟨rfl, rfl, trivial⟩, ⟨rfl, rfl⟩, trivial⟩
      refine bs.pv (sx := nos) h0 Tryz.func49 (by kernel_rfl) (by kernel_rfl) rfl ?_
      repeat' (first | refine wk3 ?_ | (refine wk2 ?_ ?_ <;> intro _) | refine wk4 ?_ | fail); all_goals (conv => whnf)
      · exact ret_of rfl rfl
      · exfalso; simp_all
  · have hn : 1000 < nset h := by
      unfold cntE at hc
      rw [if_pos he] at hc
      split at hc
      · assumption
      · exact absurd rfl hc
    have e2 : cntE h = 8 := by unfold cntE; rw [if_pos he, if_pos hn]
    have e : setAE h n = 8 := by unfold setAE; rw [e2, if_neg (by decide)]
    unfold setAV
    rw [e, if_neg (by decide)]
    rw [if_pos hn, if_pos hn] at a48
    have h0 : PCOK Tryz.prog (ins 48 (one [h.av] ⟨.tup [I 0, I 8], []⟩) k93) := one_ok a48 k93_ok
    refine PCall.freeze (res := ⟨.tup [.agg [.nils, .nils], I 8], []⟩) ?_ ⟨⟨rfl, rfl, trivial⟩, ⟨rfl, rfl⟩, trivial⟩
    refine bs.pv (sx := nos) h0 Tryz.func49 (by kernel_rfl) (by kernel_rfl) rfl ?_
    repeat' (first | refine wk3 ?_ | (refine wk2 ?_ ?_ <;> intro _) | refine wk4 ?_ | fail); all_goals (conv => whnf)
    exact ret_of rfl rfl
end Go.Proofs.YtjpmeaagnhojgaaGreat
