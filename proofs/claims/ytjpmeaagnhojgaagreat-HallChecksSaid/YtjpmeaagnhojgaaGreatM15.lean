/- The law HallChecks of chapter 1 returns true at every input: no conditions. -/
import Derived.Test.YtjpmeaagnhojgaaGreatLw10
set_option linter.unusedVariables false
set_option linter.unusedSimpArgs false
namespace Go.Proofs.YtjpmeaagnhojgaaGreat
open Go Go.Sx

theorem law15 : ∀ cs, WTs (tget tbl) Tryz.f15.params.toList cs → PCall Tryz.prog 15 cs ⟨.bool true, []⟩ := by
  intro cs h
  have h : WTs (tget tbl) [28] cs := h
  match cs, h with
  | [a], ⟨h1, _⟩ =>
    obtain ⟨x, rfl⟩ := hall_of h1
    exact c15 x

set_option maxRecDepth 100000 in
theorem hallChecks_lifted (os : Os) (started : os.Started) (H : Type) (enc : TypeId × Value → H) :
    ReturnsInHanded {} Tryz.checked os 15 .any (Rows.hallChecksSpec.pre6 enc Tryz.prog Tryz.f15 Rows.hallChecksRow.domain false) (Rows.hallChecksSpec.post enc Tryz.prog Tryz.f15 false true false false) :=
  law_lifted (C := Tryz.checked) started own laidOut (by kernel_rfl) Tryz.func15 tabOK tysOK (by kernel_rfl) (by kernel_rfl) rfl (bt := 4) (by kernel_rfl) (by kernel_rfl)
    (fun ds h => by
      have h : ds.length = 1 := h
      match ds, h with
      | [d1], _ => rfl) law15
    (ChangeSpec.witness6 (enc := enc) (C := Tryz.checked) false ⟨#[], #[.agg #[.string ⟨#[]⟩, .int .i64 0, .string ⟨#[]⟩, .string ⟨#[]⟩, .slice none 0 0, .slice none 0 0, .slice none 0 0, .slice none 0 0, .slice none 0 0]], []⟩ 8 (by kernel_rfl) (by kernel_rfl) (by kernel_rfl) (by kernel_rfl))

theorem fIn : Tryz.checked.prog.inPlace 15 = Rows.hallChecksRow.inPlace := by kernel_rfl
theorem fUn : Tryz.checked.prog.unfollowed 15 = Rows.hallChecksRow.unfollowed := by kernel_rfl
theorem fRe : Tryz.checked.prog.recurses 15 = Rows.hallChecksRow.recurses := by kernel_rfl
theorem fNa : Tryz.checked.prog.varsNamed 15 = Rows.hallChecksRow.named := by kernel_rfl
theorem fAll : joinedFacts Tryz.checked.prog 15 Tryz.f15 Rows.hallChecksSpec Rows.hallChecksRow = true := by
  unfold joinedFacts
  rw [fLaid, fMaps, fPlain, fHeard, fMay, fLifts, fMake, fIn, fUn, fRe, fNa]
  kernel_rfl

theorem hallChecks_holds : Rows.HallChecksSaid :=
  OpenClaim.holds_of_wide 15 Tryz.f15 rfl rfl rfl rfl rfl rfl rfl ⟨rfl, rfl, rfl, rfl, rfl⟩ rfl rfl rfl rfl rfl (by kernel_rfl) Tryz.func15 fAll
    (of_decide_eq_true (by kernel_rfl)) (by unfold Func.isWrapper; first | (rw [if_pos (by decide +kernel)]; kernel_rfl) | (rw [if_neg (by decide +kernel)]; exact ⟨rfl, rfl⟩))
    (fun os started H enc _ => hallChecks_lifted os started H enc)
#print axioms hallChecks_holds
end Go.Proofs.YtjpmeaagnhojgaaGreat
