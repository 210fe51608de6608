/- The law HallSettings of chapter 1 returns true at every input: no conditions. -/
import Derived.Test.YtjpmeaagnhojgaaGreatLw7
import Derived.Test.YtjpmeaagnhojgaaGreatE9
set_option linter.unusedVariables false
set_option linter.unusedSimpArgs false
namespace Go.Proofs.YtjpmeaagnhojgaaGreat
open Go Go.Sx

theorem law9 : ∀ cs, WTs (tget tbl) Tryz.f9.params.toList cs → PCall Tryz.prog 9 cs ⟨.bool true, []⟩ := by
  intro cs h
  have h : WTs (tget tbl) [28, 31, 3] cs := h
  match cs, h with
  | [a0, a1, a2], ⟨h0, h1, h2, _⟩ =>
    obtain ⟨x, rfl⟩ := hall_of h0
    obtain ⟨y, rfl⟩ := stg_of h1
    obtain ⟨i, rfl, _⟩ := wta_int (T := TT) (t := 3) h2 rfl rfl
    exact c9 x y i
set_option maxRecDepth 100000 in
theorem hallSettings_lifted (os : Os) (started : os.Started) (H : Type) (enc : TypeId × Value → H) :
    ReturnsInHanded {} Tryz.checked os 9 .any (Rows.hallSettingsSpec.pre6 enc Tryz.prog Tryz.f9 Rows.hallSettingsRow.domain false) (Rows.hallSettingsSpec.post enc Tryz.prog Tryz.f9 false true false false) :=
  law_lifted (C := Tryz.checked) started own laidOut (by kernel_rfl) Tryz.func9 tabOK tysOK (by kernel_rfl) (by kernel_rfl) rfl (bt := 4) (by kernel_rfl) (by kernel_rfl)
    (fun ds h => by
      have h : ds.length = 3 := h
      match ds, h with
      | [d0, d1, d2], _ => rfl) law9
    (ChangeSpec.witness6 (enc := enc) (C := Tryz.checked) false ⟨#[], #[.agg #[.string ⟨#[]⟩, .int .i64 0, .string ⟨#[]⟩, .string ⟨#[]⟩, .slice none 0 0, .slice none 0 0, .slice none 0 0, .slice none 0 0, .slice none 0 0], .agg #[.slice none 0 0, .slice none 0 0], .int .i64 0], []⟩ 8 (by kernel_rfl) (by kernel_rfl) (by kernel_rfl) (by kernel_rfl))

theorem fIn : Tryz.checked.prog.inPlace 9 = Rows.hallSettingsRow.inPlace := by kernel_rfl
theorem fUn : Tryz.checked.prog.unfollowed 9 = Rows.hallSettingsRow.unfollowed := by kernel_rfl
theorem fRe : Tryz.checked.prog.recurses 9 = Rows.hallSettingsRow.recurses := by kernel_rfl
theorem fNa : Tryz.checked.prog.varsNamed 9 = Rows.hallSettingsRow.named := by kernel_rfl
theorem fAll : joinedFacts Tryz.checked.prog 9 Tryz.f9 Rows.hallSettingsSpec Rows.hallSettingsRow = true := by
  unfold joinedFacts
  rw [fLaid, fMaps, fPlain, fHeard, fMay, fLifts, fMake, fIn, fUn, fRe, fNa]
  kernel_rfl

theorem hallSettings_holds : Rows.HallSettingsSaid :=
  OpenClaim.holds_of_wide 9 Tryz.f9 rfl rfl rfl rfl rfl rfl rfl ⟨rfl, rfl, rfl, rfl, rfl⟩ rfl rfl rfl rfl rfl (by kernel_rfl) Tryz.func9 fAll
    (of_decide_eq_true (by kernel_rfl)) (by unfold Func.isWrapper; first | (rw [if_pos (by decide +kernel)]; kernel_rfl) | (rw [if_neg (by decide +kernel)]; exact ⟨rfl, rfl⟩))
    (fun os started H enc _ => hallSettings_lifted os started H enc)
#print axioms hallSettings_holds
end Go.Proofs.YtjpmeaagnhojgaaGreat
