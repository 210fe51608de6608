/- The law HallEach of chapter 1 returns true at every input: no conditions. -/
import Derived.Test.YtjpmeaagnhojgaaGreatLw7
import Derived.Test.YtjpmeaagnhojgaaGreatE10
set_option linter.unusedVariables false
set_option linter.unusedSimpArgs false
namespace Go.Proofs.YtjpmeaagnhojgaaGreat
open Go Go.Sx

theorem law3 : ∀ cs, WTs (tget tbl) Tryz.f3.params.toList cs → PCall Tryz.prog 3 cs ⟨.bool true, []⟩ := by
  intro cs h
  have h : WTs (tget tbl) [28, 31] cs := h
  match cs, h with
  | [a0, a1], ⟨h0, h1, _⟩ =>
    obtain ⟨x, rfl⟩ := hall_of h0
    obtain ⟨y, rfl⟩ := stg_of h1
    exact c3 x y
set_option maxRecDepth 100000 in
theorem hallEach_lifted (os : Os) (started : os.Started) (H : Type) (enc : TypeId × Value → H) :
    ReturnsInHanded {} Tryz.checked os 3 .any (Rows.hallEachSpec.pre6 enc Tryz.prog Tryz.f3 Rows.hallEachRow.domain false) (Rows.hallEachSpec.post enc Tryz.prog Tryz.f3 false true false false) :=
  law_lifted (C := Tryz.checked) started own laidOut (by kernel_rfl) Tryz.func3 tabOK tysOK (by kernel_rfl) (by kernel_rfl) rfl (bt := 4) (by kernel_rfl) (by kernel_rfl)
    (fun ds h => by
      have h : ds.length = 2 := h
      match ds, h with
      | [d0, d1], _ => rfl) law3
    (ChangeSpec.witness6 (enc := enc) (C := Tryz.checked) false ⟨#[], #[.agg #[.string ⟨#[]⟩, .int .i64 0, .string ⟨#[]⟩, .string ⟨#[]⟩, .slice none 0 0, .slice none 0 0, .slice none 0 0, .slice none 0 0, .slice none 0 0], .agg #[.slice none 0 0, .slice none 0 0]], []⟩ 8 (by kernel_rfl) (by kernel_rfl) (by kernel_rfl) (by kernel_rfl))

theorem fIn : Tryz.checked.prog.inPlace 3 = Rows.hallEachRow.inPlace := by kernel_rfl
theorem fUn : Tryz.checked.prog.unfollowed 3 = Rows.hallEachRow.unfollowed := by kernel_rfl
theorem fRe : Tryz.checked.prog.recurses 3 = Rows.hallEachRow.recurses := by kernel_rfl
theorem fNa : Tryz.checked.prog.varsNamed 3 = Rows.hallEachRow.named := by kernel_rfl
theorem fAll : joinedFacts Tryz.checked.prog 3 Tryz.f3 Rows.hallEachSpec Rows.hallEachRow = true := by
  unfold joinedFacts
  rw [fLaid, fMaps, fPlain, fHeard, fMay, fLifts, fMake, fIn, fUn, fRe, fNa]
  kernel_rfl

theorem hallEach_holds : Rows.HallEachSaid :=
  OpenClaim.holds_of_wide 3 Tryz.f3 rfl rfl rfl rfl rfl rfl rfl ⟨rfl, rfl, rfl, rfl, rfl⟩ rfl rfl rfl rfl rfl (by kernel_rfl) Tryz.func3 fAll
    (of_decide_eq_true (by kernel_rfl)) (by unfold Func.isWrapper; first | (rw [if_pos (by decide +kernel)]; kernel_rfl) | (rw [if_neg (by decide +kernel)]; exact ⟨rfl, rfl⟩))
    (fun os started H enc _ => hallEach_lifted os started H enc)
#print axioms hallEach_holds
end Go.Proofs.YtjpmeaagnhojgaaGreat
