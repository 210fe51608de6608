/- A part of the proof: lemmas. -/
import Derived.Test.YtmbgehpcjihfpaaAL16
set_option linter.unusedVariables false
set_option linter.unusedSimpArgs false
namespace Go.Proofs.Ytmbgehpcjihfpaa
open Go Go.Sx
/-! ### The example -/
def pair : List Sp := [⟨⟨0, 0, 0⟩, 1000, 0⟩, ⟨⟨0, 0, 100⟩, 500, 400⟩]
theorem e11 : PCall Try.prog 11 [] ⟨arr 34000 34000 pair, []⟩ := by
  refine PCall.freeze (res := ⟨.agg [I 34000, I 34000, .asl 0 0 2], [(5, pair.map sv)]⟩) ?_ ⟨⟨rfl, rfl⟩, ⟨rfl, rfl⟩, ⟨rfl, rfl, rfl⟩, trivial⟩
  refine bs.pv (sx := nos) pt0_ok Try.func11 (by kernel_rfl) (by kernel_rfl) rfl ?_
  repeat' (first | refine wk3 ?_ | (refine wk2 ?_ ?_ <;> intro _) | refine wk4 ?_ | fail); all_goals (conv => whnf)
  exact ret_rows [1] rfl rfl rfl
abbrev seat0 : Pl := ⟨0, 0, 500⟩
theorem pair_op : opE 34000 34000 seat0 pair = 0 := by
  refine opE_zero.2 ⟨⟨⟨by decide, by decide⟩, by decide, by decide, ?_⟩, ?_, ?_⟩
  · intro s hs
    simp only [pair, List.mem_cons, List.not_mem_nil, or_false] at hs
    rcases hs with rfl | rfl
    · unfold Sp.ok Pl.ok; decide
    · unfold Sp.ok Pl.ok; decide
  · unfold Pl.ok; decide
  · intro s hs
    simp only [pair, List.mem_cons, List.not_mem_nil, or_false] at hs
    rcases hs with rfl | rfl <;> decide +kernel
theorem lo1 : lo ⟨0, 0, 0⟩ seat0 = 500000 := (isq_unique (by decide) (by decide) (by decide) (by decide)).symm
theorem lo2 : lo ⟨0, 0, 100⟩ seat0 = 400000 := (isq_unique (by decide) (by decide) (by decide) (by decide)).symm
theorem hi1 : hi ⟨0, 0, 0⟩ seat0 = 500000 := by unfold hi; rw [lo1]; decide
theorem hi2 : hi ⟨0, 0, 100⟩ seat0 = 400000 := by unfold hi; rw [lo2]; decide
theorem pair_pr : prG 34000 34000 seat0 (0, 0) pair = (3250000, 0) := by
  unfold pair
  rw [prG, prG, prG]
  unfold shr
  dsimp only
  unfold nLo sLo
  rw [lo1, lo2, hi1, hi2]
  decide +kernel
noncomputable def kE1 : PC := ins 8 (famRP FewS fun q => ⟨.tup [prV q.1.1 q.1.2.1 q.2 q.1.2.2, I (opE q.1.1 q.1.2.1 q.2 q.1.2.2)], []⟩) pt0
theorem kE1_ok : PCOK Try.prog kE1 := famA_ok (fun q h => e8 h) pt0_ok
theorem e4 : PCall Try.prog 4 [] ⟨Bo true, []⟩ := by
  have g := famRP_hit (pp := FewS) (fun q => ⟨.tup [prV q.1.1 q.1.2.1 q.2 q.1.2.2, I (opE q.1.1 q.1.2.1 q.2 q.1.2.2)], []⟩) (a := 34000) (b := 34000) (ls := pair) (p := seat0) (by decide)
  dsimp only at g
  have e1 : prV 34000 34000 seat0 pair = .cpx .f64 (FloatKind.f64.nearest 3250000) (FloatKind.f64.nearest 0) := by unfold prV; rw [if_pos pair_op, pair_pr]
  rw [e1, pair_op] at g
  have h1 := one_ok e11 (one_ok (e13 3250000 0) (one_ok (e12 (FloatKind.f64.nearest 3250000) (FloatKind.f64.nearest 0)) kE1_ok))
  have g1 := one_hit [] ⟨arr 34000 34000 pair, []⟩
  have g2 := one_hit [I 3250000, I 0] ⟨.cpx .f64 (FloatKind.f64.nearest 3250000) (FloatKind.f64.nearest 0), []⟩
  have g3 := one_hit [.cpx .f64 (FloatKind.f64.nearest 3250000) (FloatKind.f64.nearest 0), .cpx .f64 (FloatKind.f64.nearest 3250000) (FloatKind.f64.nearest 0)] ⟨Bo true, []⟩
  generalize FloatKind.f64.nearest 3250000 = x at *
  generalize FloatKind.f64.nearest 0 = y at *
  clear e1
  refine bs.pv (sx := nos) h1 Try.func4 (by kernel_rfl) (by kernel_rfl) rfl ?_
  repeat' (first | refine wk3 ?_ | (refine wk2 ?_ ?_ <;> intro _) | refine wk4 ?_ | fail); all_goals (conv => whnf)
  exact ret_bool rfl
end Go.Proofs.Ytmbgehpcjihfpaa
