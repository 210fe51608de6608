/- The law EnergyDecays returns true at every input: no conditions. -/
import Derived.Test.YtddhjopopelkjaaGreatLw8
import Derived.Test.YtddhjopopelkjaaGreatYF11
import Derived.Test.YtddhjopopelkjaaGreatYWx
set_option linter.unusedVariables false
set_option linter.unusedSimpArgs false
namespace Go.Proofs.YtddhjopopelkjaaGreat
open Go Go.Sx

theorem law11 : ∀ cs, WTs (tget tbl) Tryz.f11.params.toList cs → PCall Tryz.prog 11 cs ⟨.bool true, []⟩ := by
  intro cs h
  have h : WTs (tget tbl) [56, 29, 3] cs := h
  match cs, h with
  | [a0, a1, a2], ⟨h0, h1, h2, _⟩ =>
    obtain ⟨rows, ls, rfl⟩ := ex_of h0
    obtain ⟨e, rfl⟩ := ints_of h1
    obtain ⟨s, rfl⟩ := int_of h2
    exact d11 rows ls e s
set_option maxRecDepth 100000 in
theorem energyDecays_lifted (os : Os) (started : os.Started) (H : Type) (enc : TypeId × Value → H) :
    ReturnsInHanded {} Tryz.checked os 11 .any (Rows.energyDecaysSpec.pre6 enc Tryz.prog Tryz.f11 Rows.energyDecaysRow.domain false) (Rows.energyDecaysSpec.post enc Tryz.prog Tryz.f11 false true false false) :=
  law_lifted (C := Tryz.checked) started own laidOut (by kernel_rfl) Tryz.func11 tabOK tysXOK (by kernel_rfl) (by kernel_rfl) rfl (bt := 4) (by kernel_rfl) (by kernel_rfl)
    (fun ds h => by
      have h : ds.length = 3 := h
      match ds, h with
      | [d0, d1, d2], _ => rfl) law11
    (ChangeSpec.witness6 (enc := enc) (C := Tryz.checked) false ⟨#[], #[.agg #[.slice none 0 0, .slice none 0 0], .slice none 0 0, .int .i64 0], []⟩ 11 (by kernel_rfl) (by kernel_rfl) (by kernel_rfl) (by kernel_rfl))

theorem fIn : Tryz.checked.prog.inPlace 11 = Rows.energyDecaysRow.inPlace := by kernel_rfl
theorem fUn : Tryz.checked.prog.unfollowed 11 = Rows.energyDecaysRow.unfollowed := by kernel_rfl
theorem fRe : Tryz.checked.prog.recurses 11 = Rows.energyDecaysRow.recurses := by kernel_rfl
theorem fNa : Tryz.checked.prog.varsNamed 11 = Rows.energyDecaysRow.named := by kernel_rfl
theorem fAll : joinedFacts Tryz.checked.prog 11 Tryz.f11 Rows.energyDecaysSpec Rows.energyDecaysRow = true := by
  unfold joinedFacts
  rw [fLaid, fMaps, fPlain, fHeard, fMay, fLifts, fMake, fIn, fUn, fRe, fNa]
  kernel_rfl

theorem energyDecays_holds : Rows.EnergyDecaysSaid :=
  OpenClaim.holds_of_wide 11 Tryz.f11 rfl rfl rfl rfl rfl rfl rfl ⟨rfl, rfl, rfl, rfl, rfl⟩ rfl rfl rfl rfl rfl (by kernel_rfl) Tryz.func11 fAll
    (of_decide_eq_true (by kernel_rfl)) (by unfold Func.isWrapper; first | (rw [if_pos (by decide +kernel)]; kernel_rfl) | (rw [if_neg (by decide +kernel)]; exact ⟨rfl, rfl⟩))
    (fun os started H enc _ => energyDecays_lifted os started H enc)
#print axioms energyDecays_holds
end Go.Proofs.YtddhjopopelkjaaGreat
