/- The law EnergyRings returns true at every input: no conditions. -/
import Derived.Test.YtddhjopopelkjaaGreatZw8
import Derived.Test.YtddhjopopelkjaaGreatZW13
import Derived.Test.YtddhjopopelkjaaGreatZH9
set_option linter.unusedVariables false
set_option linter.unusedSimpArgs false
namespace Go.Proofs.YtddhjopopelkjaaGreat
open Go Go.Sx

theorem law13 : ∀ cs, WTs (tget tbl) Tryz.f13.params.toList cs → PCall Tryz.prog 13 cs ⟨.bool true, []⟩ := by
  intro cs h
  have h : WTs (tget tbl) [33, 38] cs := h
  match cs, h with
  | [a0, a1], ⟨h0, h1, _⟩ =>
    obtain ⟨hh, s, rfl⟩ := scene_of h0
    obtain ⟨b, c, v, rfl⟩ := air_of h1
    exact d13 hh s b c v
set_option maxRecDepth 100000 in
theorem energyRings_lifted (os : Os) (started : os.Started) (H : Type) (enc : TypeId × Value → H) :
    ReturnsInHanded {} Tryz.checked os 13 .any (Rows.energyRingsSpec.pre6 enc Tryz.prog Tryz.f13 Rows.energyRingsRow.domain false) (Rows.energyRingsSpec.post enc Tryz.prog Tryz.f13 false true false false) :=
  law_lifted (C := Tryz.checked) started own laidOut (by kernel_rfl) Tryz.func13 tabOK tysROK (by kernel_rfl) (by kernel_rfl) rfl (bt := 4) (by kernel_rfl) (by kernel_rfl)
    (fun ds h => by
      have h : ds.length = 2 := h
      match ds, h with
      | [d0, d1], _ => rfl) law13
    (ChangeSpec.witness6 (enc := enc) (C := Tryz.checked) false ⟨#[], #[.agg #[.string ⟨#[]⟩, .int .i64 0, .string ⟨#[]⟩, .string ⟨#[]⟩, .slice none 0 0, .slice none 0 0, .slice none 0 0, .slice none 0 0, .slice none 0 0, .slice none 0 0, .slice none 0 0], .agg #[.int .i64 0, .int .i64 0, .int .i64 0]], []⟩ 13 (by kernel_rfl) (by kernel_rfl) (by kernel_rfl) (by kernel_rfl))

theorem fIn : Tryz.checked.prog.inPlace 13 = Rows.energyRingsRow.inPlace := by kernel_rfl
theorem fUn : Tryz.checked.prog.unfollowed 13 = Rows.energyRingsRow.unfollowed := by kernel_rfl
theorem fRe : Tryz.checked.prog.recurses 13 = Rows.energyRingsRow.recurses := by kernel_rfl
theorem fNa : Tryz.checked.prog.varsNamed 13 = Rows.energyRingsRow.named := by kernel_rfl
theorem fAll : joinedFacts Tryz.checked.prog 13 Tryz.f13 Rows.energyRingsSpec Rows.energyRingsRow = true := by
  unfold joinedFacts
  rw [fLaid, fMaps, fPlain, fHeard, fMay, fLifts, fMake, fIn, fUn, fRe, fNa]
  kernel_rfl

theorem energyRings_holds : Rows.EnergyRingsSaid :=
  OpenClaim.holds_of_wide 13 Tryz.f13 rfl rfl rfl rfl rfl rfl rfl ⟨rfl, rfl, rfl, rfl, rfl⟩ rfl rfl rfl rfl rfl (by kernel_rfl) Tryz.func13 fAll
    (of_decide_eq_true (by kernel_rfl)) (by unfold Func.isWrapper; first | (rw [if_pos (by decide +kernel)]; kernel_rfl) | (rw [if_neg (by decide +kernel)]; exact ⟨rfl, rfl⟩))
    (fun os started H enc _ => energyRings_lifted os started H enc)
#print axioms energyRings_holds
end Go.Proofs.YtddhjopopelkjaaGreat
