/- The law EnergySteps returns true at every input: no conditions. -/
import Derived.Test.YtddhjopopelkjaaGreatLw8
import Derived.Test.YtddhjopopelkjaaGreatYF4
import Derived.Test.YtddhjopopelkjaaGreatYWx
set_option linter.unusedVariables false
set_option linter.unusedSimpArgs false
namespace Go.Proofs.YtddhjopopelkjaaGreat
open Go Go.Sx

theorem law4 : ∀ cs, WTs (tget tbl) Tryz.f4.params.toList cs → PCall Tryz.prog 4 cs ⟨.bool true, []⟩ := by
  intro cs h
  have h : WTs (tget tbl) [56, 29, 3] cs := h
  match cs, h with
  | [a0, a1, a2], ⟨h0, h1, h2, _⟩ =>
    obtain ⟨rows, ls, rfl⟩ := ex_of h0
    obtain ⟨e, rfl⟩ := ints_of h1
    obtain ⟨s, rfl⟩ := int_of h2
    exact d4 rows ls e s
set_option maxRecDepth 100000 in
theorem energySteps_lifted (os : Os) (started : os.Started) (H : Type) (enc : TypeId × Value → H) :
    ReturnsInHanded {} Tryz.checked os 4 .any (Rows.energyStepsSpec.pre6 enc Tryz.prog Tryz.f4 Rows.energyStepsRow.domain false) (Rows.energyStepsSpec.post enc Tryz.prog Tryz.f4 false true false false) :=
  law_lifted (C := Tryz.checked) started own laidOut (by kernel_rfl) Tryz.func4 tabOK tysXOK (by kernel_rfl) (by kernel_rfl) rfl (bt := 4) (by kernel_rfl) (by kernel_rfl)
    (fun ds h => by
      have h : ds.length = 3 := h
      match ds, h with
      | [d0, d1, d2], _ => rfl) law4
    (ChangeSpec.witness6 (enc := enc) (C := Tryz.checked) false ⟨#[], #[.agg #[.slice none 0 0, .slice none 0 0], .slice none 0 0, .int .i64 0], []⟩ 4 (by kernel_rfl) (by kernel_rfl) (by kernel_rfl) (by kernel_rfl))

theorem fIn : Tryz.checked.prog.inPlace 4 = Rows.energyStepsRow.inPlace := by kernel_rfl
theorem fUn : Tryz.checked.prog.unfollowed 4 = Rows.energyStepsRow.unfollowed := by kernel_rfl
theorem fRe : Tryz.checked.prog.recurses 4 = Rows.energyStepsRow.recurses := by kernel_rfl
theorem fNa : Tryz.checked.prog.varsNamed 4 = Rows.energyStepsRow.named := by kernel_rfl
theorem fAll : joinedFacts Tryz.checked.prog 4 Tryz.f4 Rows.energyStepsSpec Rows.energyStepsRow = true := by
  unfold joinedFacts
  rw [fLaid, fMaps, fPlain, fHeard, fMay, fLifts, fMake, fIn, fUn, fRe, fNa]
  kernel_rfl

theorem energySteps_holds : Rows.EnergyStepsSaid :=
  OpenClaim.holds_of_wide 4 Tryz.f4 rfl rfl rfl rfl rfl rfl rfl ⟨rfl, rfl, rfl, rfl, rfl⟩ rfl rfl rfl rfl rfl (by kernel_rfl) Tryz.func4 fAll
    (of_decide_eq_true (by kernel_rfl)) (by unfold Func.isWrapper; first | (rw [if_pos (by decide +kernel)]; kernel_rfl) | (rw [if_neg (by decide +kernel)]; exact ⟨rfl, rfl⟩))
    (fun os started H enc _ => energySteps_lifted os started H enc)
#print axioms energySteps_holds
end Go.Proofs.YtddhjopopelkjaaGreat
