/- The law EnergyGrows of chapter 3 returns true at every input: no conditions. -/
import Derived.Test.YtddhjopopelkjaaGreatLw8
import Derived.Test.YtddhjopopelkjaaGreatYF9
set_option linter.unusedVariables false
set_option linter.unusedSimpArgs false
namespace Go.Proofs.YtddhjopopelkjaaGreat
open Go Go.Sx

theorem law9 : ∀ cs, WTs (tget tbl) Tryz.f9.params.toList cs → PCall Tryz.prog 9 cs ⟨.bool true, []⟩ := by
  intro cs h
  have h : WTs (tget tbl) [94, 3, 3] cs := h
  match cs, h with
  | [a0, a1, a2], ⟨h0, h1, h2, _⟩ =>
    obtain ⟨l, rfl⟩ := ech_of h0
    obtain ⟨t, rfl, _⟩ := wta_int (T := TT) (t := 3) h1 rfl rfl
    obtain ⟨w, rfl, _⟩ := wta_int (T := TT) (t := 3) h2 rfl rfl
    exact d9 l t w
set_option maxRecDepth 100000 in
theorem energyGrows_lifted (os : Os) (started : os.Started) (H : Type) (enc : TypeId × Value → H) :
    ReturnsInHanded {} Tryz.checked os 9 .any (Rows.energyGrowsSpec.pre6 enc Tryz.prog Tryz.f9 Rows.energyGrowsRow.domain false) (Rows.energyGrowsSpec.post enc Tryz.prog Tryz.f9 false true false false) :=
  law_lifted (C := Tryz.checked) started own laidOut (by kernel_rfl) Tryz.func9 tabOK tysOK (by kernel_rfl) (by kernel_rfl) rfl (bt := 4) (by kernel_rfl) (by kernel_rfl)
    (fun ds h => by
      have h : ds.length = 3 := h
      match ds, h with
      | [d0, d1, d2], _ => rfl) law9
    (ChangeSpec.witness6 (enc := enc) (C := Tryz.checked) false ⟨#[], #[.slice none 0 0, .int .i64 0, .int .i64 0], []⟩ 9 (by kernel_rfl) (by kernel_rfl) (by kernel_rfl) (by kernel_rfl))

theorem fIn : Tryz.checked.prog.inPlace 9 = Rows.energyGrowsRow.inPlace := by kernel_rfl
theorem fUn : Tryz.checked.prog.unfollowed 9 = Rows.energyGrowsRow.unfollowed := by kernel_rfl
theorem fRe : Tryz.checked.prog.recurses 9 = Rows.energyGrowsRow.recurses := by kernel_rfl
theorem fNa : Tryz.checked.prog.varsNamed 9 = Rows.energyGrowsRow.named := by kernel_rfl
theorem fAll : joinedFacts Tryz.checked.prog 9 Tryz.f9 Rows.energyGrowsSpec Rows.energyGrowsRow = true := by
  unfold joinedFacts
  rw [fLaid, fMaps, fPlain, fHeard, fMay, fLifts, fMake, fIn, fUn, fRe, fNa]
  kernel_rfl

theorem energyGrows_holds : Rows.EnergyGrowsSaid :=
  OpenClaim.holds_of_wide 9 Tryz.f9 rfl rfl rfl rfl rfl rfl rfl ⟨rfl, rfl, rfl, rfl, rfl⟩ rfl rfl rfl rfl rfl (by kernel_rfl) Tryz.func9 fAll
    (of_decide_eq_true (by kernel_rfl)) (by unfold Func.isWrapper; first | (rw [if_pos (by decide +kernel)]; kernel_rfl) | (rw [if_neg (by decide +kernel)]; exact ⟨rfl, rfl⟩))
    (fun os started H enc _ => energyGrows_lifted os started H enc)
#print axioms energyGrows_holds
end Go.Proofs.YtddhjopopelkjaaGreat
