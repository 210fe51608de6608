/- A part of the proof: lemmas. -/
import Derived.Test.YtmbgehpcjihfpaaAL20
set_option linter.unusedVariables false
set_option linter.unusedSimpArgs false
namespace Go.Proofs.Ytmbgehpcjihfpaa
open Go Go.Sx
structure Loud (r v : Int) (p : Pl) (A C : List Sp) (k0 k1 k2 k3 e0 e1 : Int) : Prop where
  b0 : k0.natAbs ≤ 1000000000
  b1 : k1.natAbs ≤ 1000000000
  b2 : k2.natAbs ≤ 1000000000
  b3 : k3.natAbs ≤ 1000000000
  pA : prV r v p A = .cpx .f64 (FloatKind.f64.nearest k0) (FloatKind.f64.nearest k1)
  pC : prV r v p C = .cpx .f64 (FloatKind.f64.nearest k2) (FloatKind.f64.nearest k3)
  eA : enV r v p A = P2 e0 e1
  oA : opE r v p A = 0
  oC : opE r v p C = 0
  fin : IntKind.i64.wrap (IntKind.i64.wrap (k2 * k2) + IntKind.i64.wrap (k3 * k3)) ≤ IntKind.i64.wrap (IntKind.i64.wrap (k0 * k0) + IntKind.i64.wrap (k1 * k1)) ∧ e0 ≤ IntKind.i64.wrap (IntKind.i64.wrap (k0 * k0) + IntKind.i64.wrap (k1 * k1))
theorem alE_zero {r v : Int} {p : Pl} {ls : List Sp} (hz : alE r v p ls = 0) : opE r v p ls = 0 ∧ tooL (alL r v p ls) = false := by
  unfold alE at hz
  by_cases h : opE r v p ls = 0
  · rw [if_neg (fun c => c h)] at hz
    refine ⟨h, ?_⟩
    cases ht : tooL (alL r v p ls) with
    | false => rfl
    | true => rw [ht, if_pos rfl] at hz; cases hz
  · rw [if_pos h] at hz; exact absurd hz h
theorem loud {r v : Int} {p : Pl} {ls C : List Sp} (hz : alE r v p ls = 0) (hC : Alike C ls) : ∃ k0 k1 k2 k3 e0 e1, Loud r v p (alL r v p ls) C k0 k1 k2 k3 e0 e1 := by
  obtain ⟨ho, ht⟩ := alE_zero hz
  obtain ⟨ha, hs⟩ := opE_zero.1 ho
  have hw : ∀ s ∈ ls, Wf (s.p, p) := fun s h => hs.far ha h
  obtain ⟨l1, l2, l3⟩ := lastG_bd (r := r) (v := v) (p := p) ha.so (l := ls) (m := 0) (fun s h => (hw s h).w) (by decide) (by decide)
  have hA : Alike (alL r v p ls) ls := by
    unfold alL at ht ⊢
    exact al_alike (fun s h => ⟨(nLo_bd ha.so (hw s h).w).1, l3 s h⟩) l2 ht
  have oA := opE_zero.2 ⟨hA.okA ha, hA.okS hs⟩
  have oC := opE_zero.2 ⟨hC.okA ha, hC.okS hs⟩
  have rt : ∀ {c : List Sp}, Alike c ls → ∀ s ∈ c, Rt p s := fun hc s h => ⟨(hc.okS hs).far (hc.okA ha) h, ((hc.okA ha).sp s h).2.1⟩
  have sA := hA.szs (p := p)
  have sC := hC.szs (p := p)
  have hS := szs_bd (rt (Alike.refl ls))
  have hn8 := ha.n8
  have hm : ∀ s ∈ alL r v p ls, (IntKind.i64.wrap (nLo r v s.p p + s.d)).tmod 4 = (lastG r v p 0 ls).tmod 4 := by
    intro s h
    unfold alL at h
    obtain ⟨t, h1, rfl⟩ := List.mem_map.1 h
    have h2 := l3 t h1
    have h3 := (nLo_bd ha.so (hw t h1).w).1
    have w : IntKind.i64.wrap (lastG r v p 0 ls - nLo r v t.p p) = lastG r v p 0 ls - nLo r v t.p p := W_eq (by omega) (by omega)
    show (IntKind.i64.wrap (nLo r v t.p p + IntKind.i64.wrap (lastG r v p 0 ls - nLo r v t.p p))).tmod 4 = _
    rw [w]
    have e : nLo r v t.p p + (lastG r v p 0 ls - nLo r v t.p p) = lastG r v p 0 ls := by omega
    rw [e, W_eq (by omega) (by omega)]
  have q1 := pr_al (r := r) (v := v) (m := (lastG r v p 0 ls).tmod 4) (p := p) (l := alL r v p ls) (q := (0, 0)) (rt hA) hm (by rw [sA]; show ab 0 + _ ≤ _; unfold ab; omega) (by rw [sA]; show ab 0 + _ ≤ _; unfold ab; omega)
  have q2 := pr_bd (r := r) (v := v) (p := p) (l := C) (q := (0, 0)) (rt hC) (by rw [sC]; show ab 0 + ab 0 + _ ≤ _; unfold ab; omega)
  have q3 := en_bd (r := r) (v := v) (p := p) (l := alL r v p ls) (q := (0, 0)) (B := 0) (rt hA) (by decide) (by rw [sA]; omega) (by decide) (by decide)
  obtain ⟨d1, d2, d3⟩ := dir_ab ((lastG r v p 0 ls).tmod 4)
  rw [sA] at q1 q3
  rw [sC] at q2
  generalize hSz : szs p ls = S at *
  generalize dir ((lastG r v p 0 ls).tmod 4) = dd at *
  obtain ⟨a, b⟩ := dd
  dsimp only at q1 q2 q3 d1 d2 d3
  rw [Int.zero_add, Int.zero_add] at q1
  rw [Int.zero_add] at q3
  have q2 : ab (prG r v p (0, 0) C).1 + ab (prG r v p (0, 0) C).2 ≤ S := by
    have e : ab 0 = 0 := rfl
    rw [e] at q2; omega
  have m1 := mul3 (z := S) d1
  have m2 := mul3 (z := S) d2
  have hsq := sq_sum q2
  have hS2 := mul_bd (x := S) (r := S) (X := 1000000000) (R := 1000000000) hS.1 (by omega) hS.1 (by omega)
  have e5 : a * S * (a * S) + b * S * (b * S) = S * S := by
    have : a * S * (a * S) + b * S * (b * S) = (a * a + b * b) * (S * S) := by grind
    rw [this, d3, Int.one_mul]
  have hsq1 : ∀ x : Int, 0 ≤ x * x := fun x => by
    rcases Int.le_total 0 x with h | h
    · exact Int.mul_nonneg h h
    · exact Int.mul_nonneg_of_nonpos_of_nonpos h h
  have p1 := hsq1 (a * S)
  have p2 := hsq1 (b * S)
  have p3 := hsq1 (prG r v p (0, 0) C).1
  have p4 := hsq1 (prG r v p (0, 0) C).2
  refine ⟨a * S, b * S, (prG r v p (0, 0) C).1, (prG r v p (0, 0) C).2, (enG r v p (0, 0) (alL r v p ls)).1, (enG r v p (0, 0) (alL r v p ls)).2, by omega, by omega, by unfold ab at q2; omega, by unfold ab at q2; omega, ?_, ?_, ?_, oA, oC, ?_⟩
  · unfold prV; rw [if_pos oA, q1]
  · unfold prV; rw [if_pos oC]
  · unfold enV; rw [if_pos oA]
  · generalize (prG r v p (0, 0) C).1 * (prG r v p (0, 0) C).1 = u1 at *
    generalize (prG r v p (0, 0) C).2 * (prG r v p (0, 0) C).2 = u2 at *
    generalize a * S * (a * S) = u3 at *
    generalize b * S * (b * S) = u4 at *
    generalize S * S = u5 at *
    rw [W_eq (n := u1) (by omega) (by omega), W_eq (n := u2) (by omega) (by omega), W_eq (n := u3) (by omega) (by omega), W_eq (n := u4) (by omega) (by omega), W_eq (n := u1 + u2) (by omega) (by omega), W_eq (n := u3 + u4) (by omega) (by omega)]
    omega
end Go.Proofs.Ytmbgehpcjihfpaa
