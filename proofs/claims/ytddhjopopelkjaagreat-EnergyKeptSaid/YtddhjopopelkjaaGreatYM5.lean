/- The law EnergyKept returns true at every input: no conditions. -/
import Derived.Test.YtddhjopopelkjaaGreatLw8
import Derived.Test.YtddhjopopelkjaaGreatYF5
import Derived.Test.YtddhjopopelkjaaGreatYWx
set_option linter.unusedVariables false
set_option linter.unusedSimpArgs false
namespace Go.Proofs.YtddhjopopelkjaaGreat
open Go Go.Sx

theorem law5 : ∀ cs, WTs (tget tbl) Tryz.f5.params.toList cs → PCall Tryz.prog 5 cs ⟨.bool true, []⟩ := by
  intro cs h
  have h : WTs (tget tbl) [56, 29, 74] cs := h
  match cs, h with
  | [a0, a1, a2], ⟨h0, h1, h2, _⟩ =>
    obtain ⟨rows, ls, rfl⟩ := ex_of h0
    obtain ⟨e, rfl⟩ := ints_of h1
    obtain ⟨a, b, rfl⟩ := two_of h2
    exact d5 rows ls e a b
set_option maxRecDepth 100000 in
theorem energyKept_lifted (os : Os) (started : os.Started) (H : Type) (enc : TypeId × Value → H) :
    ReturnsInHanded {} Tryz.checked os 5 .any (Rows.energyKeptSpec.pre6 enc Tryz.prog Tryz.f5 Rows.energyKeptRow.domain false) (Rows.energyKeptSpec.post enc Tryz.prog Tryz.f5 false true false false) :=
  law_lifted (C := Tryz.checked) started own laidOut (by kernel_rfl) Tryz.func5 tabOK tysXOK (by kernel_rfl) (by kernel_rfl) rfl (bt := 4) (by kernel_rfl) (by kernel_rfl)
    (fun ds h => by
      have h : ds.length = 3 := h
      match ds, h with
      | [d0, d1, d2], _ => rfl) law5
    (ChangeSpec.witness6 (enc := enc) (C := Tryz.checked) false ⟨#[], #[.agg #[.slice none 0 0, .slice none 0 0], .slice none 0 0, .agg #[.int .i64 0, .int .i64 0]], []⟩ 5 (by kernel_rfl) (by kernel_rfl) (by kernel_rfl) (by kernel_rfl))

theorem fIn : Tryz.checked.prog.inPlace 5 = Rows.energyKeptRow.inPlace := by kernel_rfl
theorem fUn : Tryz.checked.prog.unfollowed 5 = Rows.energyKeptRow.unfollowed := by kernel_rfl
theorem fRe : Tryz.checked.prog.recurses 5 = Rows.energyKeptRow.recurses := by kernel_rfl
theorem fNa : Tryz.checked.prog.varsNamed 5 = Rows.energyKeptRow.named := by kernel_rfl
theorem fAll : joinedFacts Tryz.checked.prog 5 Tryz.f5 Rows.energyKeptSpec Rows.energyKeptRow = true := by
  unfold joinedFacts
  rw [fLaid, fMaps, fPlain, fHeard, fMay, fLifts, fMake, fIn, fUn, fRe, fNa]
  kernel_rfl

theorem energyKept_holds : Rows.EnergyKeptSaid :=
  OpenClaim.holds_of_wide 5 Tryz.f5 rfl rfl rfl rfl rfl rfl rfl ⟨rfl, rfl, rfl, rfl, rfl⟩ rfl rfl rfl rfl rfl (by kernel_rfl) Tryz.func5 fAll
    (of_decide_eq_true (by kernel_rfl)) (by unfold Func.isWrapper; first | (rw [if_pos (by decide +kernel)]; kernel_rfl) | (rw [if_neg (by decide +kernel)]; exact ⟨rfl, rfl⟩))
    (fun os started H enc _ => energyKept_lifted os started H enc)
#print axioms energyKept_holds
end Go.Proofs.YtddhjopopelkjaaGreat
