/- The law TopAlignedLouder returns true at every input: no conditions. -/
import Derived.Test.YtmbgehpcjihfpaaAL22
import Derived.Test.YtmbgehpcjihfpaaRows
set_option linter.unusedVariables false
set_option linter.unusedSimpArgs false
namespace Go.Proofs.Ytmbgehpcjihfpaa
open Go Go.Sx
theorem own : ownKnob Try.prog.godebug = none := by kernel_rfl
theorem laidOut : laidOutB Try.prog = true := by kernel_rfl
def tys : List TypeId := [24, 26, 27, 22, 35, 3]
theorem tysOK : tys.all (suppT (tget tbl) tys) = true := by kernel_rfl
theorem fLaid : laidOutB Try.checked.prog = true := by kernel_rfl
theorem fMaps : mapsRowed Try.checked.prog = true := by kernel_rfl
theorem fPlain : Try.checked.prog.plainKeys = Rows.topAlignedLouderRow.plainKeys := by kernel_rfl
theorem fHeard : Try.checked.prog.stopsHeard = true := by kernel_rfl
theorem fMay : Try.checked.prog.mayEnter = true := by kernel_rfl
theorem fLifts : Try.checked.prog.liftsFinal = Rows.topAlignedLouderRow.lifted := by kernel_rfl
theorem fMake : Try.checked.prog.make = some Rows.topAlignedLouderRow.make := by kernel_rfl
set_option maxRecDepth 100000 in
theorem topAlignedLouder_lifted (os : Os) (started : os.Started) (H : Type) (enc : TypeId × Value → H) :
    ReturnsInHanded {} Try.checked os 3 .any (Rows.topAlignedLouderSpec.pre6 enc Try.prog Try.f3 Rows.topAlignedLouderRow.domain false) (Rows.topAlignedLouderSpec.post enc Try.prog Try.f3 false true false false) :=
  law_lifted (C := Try.checked) started own laidOut (by kernel_rfl) Try.func3 tabOK tysOK (by kernel_rfl) (by kernel_rfl) rfl (bt := 4) (by kernel_rfl) (by kernel_rfl)
    (fun ds h => by
      have h : ds.length = 3 := h
      match ds, h with
      | [d0, d1, d2], _ => rfl) law3
    (ChangeSpec.witness6 (enc := enc) (C := Try.checked) false ⟨#[], #[.agg #[.int .i64 0, .int .i64 0, .slice none 0 0], .agg #[.int .i64 0, .int .i64 0, .int .i64 0], .slice none 0 0], []⟩ 3 (by kernel_rfl) (by kernel_rfl) (by kernel_rfl) (by kernel_rfl))

theorem fIn : Try.checked.prog.inPlace 3 = Rows.topAlignedLouderRow.inPlace := by kernel_rfl
theorem fUn : Try.checked.prog.unfollowed 3 = Rows.topAlignedLouderRow.unfollowed := by kernel_rfl
theorem fRe : Try.checked.prog.recurses 3 = Rows.topAlignedLouderRow.recurses := by kernel_rfl
theorem fNa : Try.checked.prog.varsNamed 3 = Rows.topAlignedLouderRow.named := by kernel_rfl
theorem fAll : joinedFacts Try.checked.prog 3 Try.f3 Rows.topAlignedLouderSpec Rows.topAlignedLouderRow = true := by
  unfold joinedFacts
  rw [fLaid, fMaps, fPlain, fHeard, fMay, fLifts, fMake, fIn, fUn, fRe, fNa]
  kernel_rfl

theorem topAlignedLouder_holds : Rows.TopAlignedLouderSaid :=
  OpenClaim.holds_of_wide 3 Try.f3 rfl rfl rfl rfl rfl rfl rfl ⟨rfl, rfl, rfl, rfl, rfl⟩ rfl rfl rfl rfl rfl (by kernel_rfl) Try.func3 fAll
    (of_decide_eq_true (by kernel_rfl)) (by unfold Func.isWrapper; first | (rw [if_pos (by decide +kernel)]; kernel_rfl) | (rw [if_neg (by decide +kernel)]; exact ⟨rfl, rfl⟩))
    (fun os started H enc _ => topAlignedLouder_lifted os started H enc)
#print axioms topAlignedLouder_holds
end Go.Proofs.Ytmbgehpcjihfpaa
