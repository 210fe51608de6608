/- The law EnergyPaths returns true at every input: no conditions. -/
import Derived.Test.YtddhjopopelkjaaGreatZw8
import Derived.Test.YtddhjopopelkjaaGreatZW13
import Derived.Test.YtddhjopopelkjaaGreatZJ8
set_option linter.unusedVariables false
set_option linter.unusedSimpArgs false
namespace Go.Proofs.YtddhjopopelkjaaGreat
open Go Go.Sx

theorem law3 : ∀ cs, WTs (tget tbl) Tryz.f3.params.toList cs → PCall Tryz.prog 3 cs ⟨.bool true, []⟩ := by
  intro cs h
  have h : WTs (tget tbl) [33, 36, 38] cs := h
  match cs, h with
  | [a0, a1, a2], ⟨h0, h1, h2, _⟩ =>
    obtain ⟨hh, s, rfl⟩ := scene_of h0
    obtain ⟨p, rfl⟩ := path_of h1
    obtain ⟨b, c, v, rfl⟩ := air_of h2
    exact d3 hh s p b c v
set_option maxRecDepth 100000 in
theorem energyPaths_lifted (os : Os) (started : os.Started) (H : Type) (enc : TypeId × Value → H) :
    ReturnsInHanded {} Tryz.checked os 3 .any (Rows.energyPathsSpec.pre6 enc Tryz.prog Tryz.f3 Rows.energyPathsRow.domain false) (Rows.energyPathsSpec.post enc Tryz.prog Tryz.f3 false true false false) :=
  law_lifted (C := Tryz.checked) started own laidOut (by kernel_rfl) Tryz.func3 tabOK tysPOK (by kernel_rfl) (by kernel_rfl) rfl (bt := 4) (by kernel_rfl) (by kernel_rfl)
    (fun ds h => by
      have h : ds.length = 3 := h
      match ds, h with
      | [d0, d1, d2], _ => rfl) law3
    (ChangeSpec.witness6 (enc := enc) (C := Tryz.checked) false ⟨#[], #[.agg #[.string ⟨#[]⟩, .int .i64 0, .string ⟨#[]⟩, .string ⟨#[]⟩, .slice none 0 0, .slice none 0 0, .slice none 0 0, .slice none 0 0, .slice none 0 0, .slice none 0 0, .slice none 0 0], .agg #[.slice none 0 0, .slice none 0 0, .int .i64 0], .agg #[.int .i64 0, .int .i64 0, .int .i64 0]], []⟩ 3 (by kernel_rfl) (by kernel_rfl) (by kernel_rfl) (by kernel_rfl))

theorem fIn : Tryz.checked.prog.inPlace 3 = Rows.energyPathsRow.inPlace := by kernel_rfl
theorem fUn : Tryz.checked.prog.unfollowed 3 = Rows.energyPathsRow.unfollowed := by kernel_rfl
theorem fRe : Tryz.checked.prog.recurses 3 = Rows.energyPathsRow.recurses := by kernel_rfl
theorem fNa : Tryz.checked.prog.varsNamed 3 = Rows.energyPathsRow.named := by kernel_rfl
theorem fAll : joinedFacts Tryz.checked.prog 3 Tryz.f3 Rows.energyPathsSpec Rows.energyPathsRow = true := by
  unfold joinedFacts
  rw [fLaid, fMaps, fPlain, fHeard, fMay, fLifts, fMake, fIn, fUn, fRe, fNa]
  kernel_rfl

theorem energyPaths_holds : Rows.EnergyPathsSaid :=
  OpenClaim.holds_of_wide 3 Tryz.f3 rfl rfl rfl rfl rfl rfl rfl ⟨rfl, rfl, rfl, rfl, rfl⟩ rfl rfl rfl rfl rfl (by kernel_rfl) Tryz.func3 fAll
    (of_decide_eq_true (by kernel_rfl)) (by unfold Func.isWrapper; first | (rw [if_pos (by decide +kernel)]; kernel_rfl) | (rw [if_neg (by decide +kernel)]; exact ⟨rfl, rfl⟩))
    (fun os started H enc _ => energyPaths_lifted os started H enc)
#print axioms energyPaths_holds
end Go.Proofs.YtddhjopopelkjaaGreat
