/- The law EnergyReciprocals returns true at every input: no conditions. -/
import Derived.Test.YtddhjopopelkjaaGreatLw8
import Derived.Test.YtddhjopopelkjaaGreatYF6
import Derived.Test.YtddhjopopelkjaaGreatYWx
set_option linter.unusedVariables false
set_option linter.unusedSimpArgs false
namespace Go.Proofs.YtddhjopopelkjaaGreat
open Go Go.Sx

theorem law6 : ∀ cs, WTs (tget tbl) Tryz.f6.params.toList cs → PCall Tryz.prog 6 cs ⟨.bool true, []⟩ := by
  intro cs h
  have h : WTs (tget tbl) [56, 29] cs := h
  match cs, h with
  | [a0, a1], ⟨h0, h1, _⟩ =>
    obtain ⟨rows, ls, rfl⟩ := ex_of h0
    obtain ⟨e, rfl⟩ := ints_of h1
    exact d6 rows ls e
set_option maxRecDepth 100000 in
theorem energyReciprocals_lifted (os : Os) (started : os.Started) (H : Type) (enc : TypeId × Value → H) :
    ReturnsInHanded {} Tryz.checked os 6 .any (Rows.energyReciprocalsSpec.pre6 enc Tryz.prog Tryz.f6 Rows.energyReciprocalsRow.domain false) (Rows.energyReciprocalsSpec.post enc Tryz.prog Tryz.f6 false true false false) :=
  law_lifted (C := Tryz.checked) started own laidOut (by kernel_rfl) Tryz.func6 tabOK tysXOK (by kernel_rfl) (by kernel_rfl) rfl (bt := 4) (by kernel_rfl) (by kernel_rfl)
    (fun ds h => by
      have h : ds.length = 2 := h
      match ds, h with
      | [d0, d1], _ => rfl) law6
    (ChangeSpec.witness6 (enc := enc) (C := Tryz.checked) false ⟨#[], #[.agg #[.slice none 0 0, .slice none 0 0], .slice none 0 0], []⟩ 6 (by kernel_rfl) (by kernel_rfl) (by kernel_rfl) (by kernel_rfl))

theorem fIn : Tryz.checked.prog.inPlace 6 = Rows.energyReciprocalsRow.inPlace := by kernel_rfl
theorem fUn : Tryz.checked.prog.unfollowed 6 = Rows.energyReciprocalsRow.unfollowed := by kernel_rfl
theorem fRe : Tryz.checked.prog.recurses 6 = Rows.energyReciprocalsRow.recurses := by kernel_rfl
theorem fNa : Tryz.checked.prog.varsNamed 6 = Rows.energyReciprocalsRow.named := by kernel_rfl
theorem fAll : joinedFacts Tryz.checked.prog 6 Tryz.f6 Rows.energyReciprocalsSpec Rows.energyReciprocalsRow = true := by
  unfold joinedFacts
  rw [fLaid, fMaps, fPlain, fHeard, fMay, fLifts, fMake, fIn, fUn, fRe, fNa]
  kernel_rfl

theorem energyReciprocals_holds : Rows.EnergyReciprocalsSaid :=
  OpenClaim.holds_of_wide 6 Tryz.f6 rfl rfl rfl rfl rfl rfl rfl ⟨rfl, rfl, rfl, rfl, rfl⟩ rfl rfl rfl rfl rfl (by kernel_rfl) Tryz.func6 fAll
    (of_decide_eq_true (by kernel_rfl)) (by unfold Func.isWrapper; first | (rw [if_pos (by decide +kernel)]; kernel_rfl) | (rw [if_neg (by decide +kernel)]; exact ⟨rfl, rfl⟩))
    (fun os started H enc _ => energyReciprocals_lifted os started H enc)
#print axioms energyReciprocals_holds
end Go.Proofs.YtddhjopopelkjaaGreat
