/- The law EnergySurfaces returns true at every input: no conditions. -/
import Derived.Test.YtddhjopopelkjaaGreatZw8
import Derived.Test.YtddhjopopelkjaaGreatZW12
set_option linter.unusedVariables false
set_option linter.unusedSimpArgs false
namespace Go.Proofs.YtddhjopopelkjaaGreat
open Go Go.Sx

theorem law12 : ∀ cs, WTs (tget tbl) Tryz.f12.params.toList cs → PCall Tryz.prog 12 cs ⟨.bool true, []⟩ := by
  intro cs h
  have h : WTs (tget tbl) [33] cs := h
  match cs, h with
  | [a0], ⟨h0, _⟩ =>
    obtain ⟨hh, s, rfl⟩ := scene_of h0
    exact d12 hh s
set_option maxRecDepth 100000 in
theorem energySurfaces_lifted (os : Os) (started : os.Started) (H : Type) (enc : TypeId × Value → H) :
    ReturnsInHanded {} Tryz.checked os 12 .any (Rows.energySurfacesSpec.pre6 enc Tryz.prog Tryz.f12 Rows.energySurfacesRow.domain false) (Rows.energySurfacesSpec.post enc Tryz.prog Tryz.f12 false true false false) :=
  law_lifted (C := Tryz.checked) started own laidOut (by kernel_rfl) Tryz.func12 tabOK tysUOK (by kernel_rfl) (by kernel_rfl) rfl (bt := 4) (by kernel_rfl) (by kernel_rfl)
    (fun ds h => by
      have h : ds.length = 1 := h
      match ds, h with
      | [d0], _ => rfl) law12
    (ChangeSpec.witness6 (enc := enc) (C := Tryz.checked) false ⟨#[], #[.agg #[.string ⟨#[]⟩, .int .i64 0, .string ⟨#[]⟩, .string ⟨#[]⟩, .slice none 0 0, .slice none 0 0, .slice none 0 0, .slice none 0 0, .slice none 0 0, .slice none 0 0, .slice none 0 0]], []⟩ 12 (by kernel_rfl) (by kernel_rfl) (by kernel_rfl) (by kernel_rfl))

theorem fIn : Tryz.checked.prog.inPlace 12 = Rows.energySurfacesRow.inPlace := by kernel_rfl
theorem fUn : Tryz.checked.prog.unfollowed 12 = Rows.energySurfacesRow.unfollowed := by kernel_rfl
theorem fRe : Tryz.checked.prog.recurses 12 = Rows.energySurfacesRow.recurses := by kernel_rfl
theorem fNa : Tryz.checked.prog.varsNamed 12 = Rows.energySurfacesRow.named := by kernel_rfl
theorem fAll : joinedFacts Tryz.checked.prog 12 Tryz.f12 Rows.energySurfacesSpec Rows.energySurfacesRow = true := by
  unfold joinedFacts
  rw [fLaid, fMaps, fPlain, fHeard, fMay, fLifts, fMake, fIn, fUn, fRe, fNa]
  kernel_rfl

theorem energySurfaces_holds : Rows.EnergySurfacesSaid :=
  OpenClaim.holds_of_wide 12 Tryz.f12 rfl rfl rfl rfl rfl rfl rfl ⟨rfl, rfl, rfl, rfl, rfl⟩ rfl rfl rfl rfl rfl (by kernel_rfl) Tryz.func12 fAll
    (of_decide_eq_true (by kernel_rfl)) (by unfold Func.isWrapper; first | (rw [if_pos (by decide +kernel)]; kernel_rfl) | (rw [if_neg (by decide +kernel)]; exact ⟨rfl, rfl⟩))
    (fun os started H enc _ => energySurfaces_lifted os started H enc)
#print axioms energySurfaces_holds
end Go.Proofs.YtddhjopopelkjaaGreat
