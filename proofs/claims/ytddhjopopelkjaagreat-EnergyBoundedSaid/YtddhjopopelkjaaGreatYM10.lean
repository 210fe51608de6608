/- The law EnergyBounded returns true at every input: no conditions. -/
import Derived.Test.YtddhjopopelkjaaGreatLw8
import Derived.Test.YtddhjopopelkjaaGreatYF10
import Derived.Test.YtddhjopopelkjaaGreatYWx
set_option linter.unusedVariables false
set_option linter.unusedSimpArgs false
namespace Go.Proofs.YtddhjopopelkjaaGreat
open Go Go.Sx

theorem law10 : ∀ cs, WTs (tget tbl) Tryz.f10.params.toList cs → PCall Tryz.prog 10 cs ⟨.bool true, []⟩ := by
  intro cs h
  have h : WTs (tget tbl) [56, 29, 74] cs := h
  match cs, h with
  | [a0, a1, a2], ⟨h0, h1, h2, _⟩ =>
    obtain ⟨rows, ls, rfl⟩ := ex_of h0
    obtain ⟨e, rfl⟩ := ints_of h1
    obtain ⟨a, b, rfl⟩ := two_of h2
    exact d10 rows ls e a b
set_option maxRecDepth 100000 in
theorem energyBounded_lifted (os : Os) (started : os.Started) (H : Type) (enc : TypeId × Value → H) :
    ReturnsInHanded {} Tryz.checked os 10 .any (Rows.energyBoundedSpec.pre6 enc Tryz.prog Tryz.f10 Rows.energyBoundedRow.domain false) (Rows.energyBoundedSpec.post enc Tryz.prog Tryz.f10 false true false false) :=
  law_lifted (C := Tryz.checked) started own laidOut (by kernel_rfl) Tryz.func10 tabOK tysXOK (by kernel_rfl) (by kernel_rfl) rfl (bt := 4) (by kernel_rfl) (by kernel_rfl)
    (fun ds h => by
      have h : ds.length = 3 := h
      match ds, h with
      | [d0, d1, d2], _ => rfl) law10
    (ChangeSpec.witness6 (enc := enc) (C := Tryz.checked) false ⟨#[], #[.agg #[.slice none 0 0, .slice none 0 0], .slice none 0 0, .agg #[.int .i64 0, .int .i64 0]], []⟩ 10 (by kernel_rfl) (by kernel_rfl) (by kernel_rfl) (by kernel_rfl))

theorem fIn : Tryz.checked.prog.inPlace 10 = Rows.energyBoundedRow.inPlace := by kernel_rfl
theorem fUn : Tryz.checked.prog.unfollowed 10 = Rows.energyBoundedRow.unfollowed := by kernel_rfl
theorem fRe : Tryz.checked.prog.recurses 10 = Rows.energyBoundedRow.recurses := by kernel_rfl
theorem fNa : Tryz.checked.prog.varsNamed 10 = Rows.energyBoundedRow.named := by kernel_rfl
theorem fAll : joinedFacts Tryz.checked.prog 10 Tryz.f10 Rows.energyBoundedSpec Rows.energyBoundedRow = true := by
  unfold joinedFacts
  rw [fLaid, fMaps, fPlain, fHeard, fMay, fLifts, fMake, fIn, fUn, fRe, fNa]
  kernel_rfl

theorem energyBounded_holds : Rows.EnergyBoundedSaid :=
  OpenClaim.holds_of_wide 10 Tryz.f10 rfl rfl rfl rfl rfl rfl rfl ⟨rfl, rfl, rfl, rfl, rfl⟩ rfl rfl rfl rfl rfl (by kernel_rfl) Tryz.func10 fAll
    (of_decide_eq_true (by kernel_rfl)) (by unfold Func.isWrapper; first | (rw [if_pos (by decide +kernel)]; kernel_rfl) | (rw [if_neg (by decide +kernel)]; exact ⟨rfl, rfl⟩))
    (fun os started H enc _ => energyBounded_lifted os started H enc)
#print axioms energyBounded_holds
end Go.Proofs.YtddhjopopelkjaaGreat
