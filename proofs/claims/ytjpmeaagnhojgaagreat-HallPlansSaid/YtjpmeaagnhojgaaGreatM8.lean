/- The law HallPlans of chapter 1 returns true at every input: no conditions. -/
import Derived.Test.YtjpmeaagnhojgaaGreatLw7
import Derived.Test.YtjpmeaagnhojgaaGreatP9
set_option linter.unusedVariables false
set_option linter.unusedSimpArgs false
namespace Go.Proofs.YtjpmeaagnhojgaaGreat
open Go Go.Sx

theorem law8 : ∀ cs, WTs (tget tbl) Tryz.f8.params.toList cs → PCall Tryz.prog 8 cs ⟨.bool true, []⟩ := by
  intro cs h
  have h : WTs (tget tbl) [28] cs := h
  match cs, h with
  | [a0], ⟨h0, _⟩ =>
    obtain ⟨x, rfl⟩ := hall_of h0
    exact c8 x
set_option maxRecDepth 100000 in
theorem hallPlans_lifted (os : Os) (started : os.Started) (H : Type) (enc : TypeId × Value → H) :
    ReturnsInHanded {} Tryz.checked os 8 .any (Rows.hallPlansSpec.pre6 enc Tryz.prog Tryz.f8 Rows.hallPlansRow.domain false) (Rows.hallPlansSpec.post enc Tryz.prog Tryz.f8 false true false false) :=
  law_lifted (C := Tryz.checked) started own laidOut (by kernel_rfl) Tryz.func8 tabOK tysOK (by kernel_rfl) (by kernel_rfl) rfl (bt := 4) (by kernel_rfl) (by kernel_rfl)
    (fun ds h => by
      have h : ds.length = 1 := h
      match ds, h with
      | [d0], _ => rfl) law8
    (ChangeSpec.witness6 (enc := enc) (C := Tryz.checked) false ⟨#[], #[.agg #[.string ⟨#[]⟩, .int .i64 0, .string ⟨#[]⟩, .string ⟨#[]⟩, .slice none 0 0, .slice none 0 0, .slice none 0 0, .slice none 0 0, .slice none 0 0]], []⟩ 8 (by kernel_rfl) (by kernel_rfl) (by kernel_rfl) (by kernel_rfl))

theorem fIn : Tryz.checked.prog.inPlace 8 = Rows.hallPlansRow.inPlace := by kernel_rfl
theorem fUn : Tryz.checked.prog.unfollowed 8 = Rows.hallPlansRow.unfollowed := by kernel_rfl
theorem fRe : Tryz.checked.prog.recurses 8 = Rows.hallPlansRow.recurses := by kernel_rfl
theorem fNa : Tryz.checked.prog.varsNamed 8 = Rows.hallPlansRow.named := by kernel_rfl
theorem fAll : joinedFacts Tryz.checked.prog 8 Tryz.f8 Rows.hallPlansSpec Rows.hallPlansRow = true := by
  unfold joinedFacts
  rw [fLaid, fMaps, fPlain, fHeard, fMay, fLifts, fMake, fIn, fUn, fRe, fNa]
  kernel_rfl

theorem hallPlans_holds : Rows.HallPlansSaid :=
  OpenClaim.holds_of_wide 8 Tryz.f8 rfl rfl rfl rfl rfl rfl rfl ⟨rfl, rfl, rfl, rfl, rfl⟩ rfl rfl rfl rfl rfl (by kernel_rfl) Tryz.func8 fAll
    (of_decide_eq_true (by kernel_rfl)) (by unfold Func.isWrapper; first | (rw [if_pos (by decide +kernel)]; kernel_rfl) | (rw [if_neg (by decide +kernel)]; exact ⟨rfl, rfl⟩))
    (fun os started H enc _ => hallPlans_lifted os started H enc)
#print axioms hallPlans_holds
end Go.Proofs.YtjpmeaagnhojgaaGreat
