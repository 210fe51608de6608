/- The law ImageSources returns true at every input: no conditions. -/
import Derived.Test.YtdaliaafmcjikaaGreatZw11
import Derived.Test.YtdaliaafmcjikaaGreatJS4
import Derived.Test.YtdaliaafmcjikaaGreatJW4
set_option linter.unusedVariables false
set_option linter.unusedSimpArgs false
namespace Go.Proofs.YtdaliaafmcjikaaGreat
open Go Go.Sx

theorem law4 : ∀ cs, WTs (tget tbl) Tryz.f4.params.toList cs → PCall Tryz.prog 4 cs ⟨.bool true, []⟩ := by
  intro cs h
  have h : WTs (tget tbl) [33, 37, 29] cs := h
  match cs, h with
  | [a0, a1, a2], ⟨h0, h1, h2, _⟩ =>
    obtain ⟨hh, s, rfl⟩ := scene_of h0
    obtain ⟨a, rfl⟩ := ask_of h1
    obtain ⟨l, rfl⟩ := ints_of h2
    exact d4 awake_ok hh s a l
set_option maxRecDepth 100000 in
theorem imageSources_lifted (os : Os) (started : os.Started) (H : Type) (enc : TypeId × Value → H) :
    ReturnsInHanded {} Tryz.checked os 4 .any (Rows.imageSourcesSpec.pre6 enc Tryz.prog Tryz.f4 Rows.imageSourcesRow.domain false) (Rows.imageSourcesSpec.post enc Tryz.prog Tryz.f4 false true false false) :=
  law_lifted (C := Tryz.checked) started own laidOut (by kernel_rfl) Tryz.func4 tabOK tysAOK (by kernel_rfl) (by kernel_rfl) rfl (bt := 4) (by kernel_rfl) (by kernel_rfl)
    (fun ds h => by
      have h : ds.length = 3 := h
      match ds, h with
      | [d0, d1, d2], _ => rfl) law4
    (ChangeSpec.witness6 (enc := enc) (C := Tryz.checked) false ⟨#[], #[.agg #[.string ⟨#[]⟩, .int .i64 0, .string ⟨#[]⟩, .string ⟨#[]⟩, .slice none 0 0, .slice none 0 0, .slice none 0 0, .slice none 0 0, .slice none 0 0, .slice none 0 0, .slice none 0 0], .agg #[.int .i64 0, .int .i64 0, .int .i64 0, .int .i64 0, .int .i64 0, .int .i64 0, .int .i64 0], .slice none 0 0], []⟩ 4 (by kernel_rfl) (by kernel_rfl) (by kernel_rfl) (by kernel_rfl))

theorem fIn : Tryz.checked.prog.inPlace 4 = Rows.imageSourcesRow.inPlace := by kernel_rfl
theorem fUn : Tryz.checked.prog.unfollowed 4 = Rows.imageSourcesRow.unfollowed := by kernel_rfl
theorem fRe : Tryz.checked.prog.recurses 4 = Rows.imageSourcesRow.recurses := by kernel_rfl
theorem fNa : Tryz.checked.prog.varsNamed 4 = Rows.imageSourcesRow.named := by kernel_rfl
theorem fAll : joinedFacts Tryz.checked.prog 4 Tryz.f4 Rows.imageSourcesSpec Rows.imageSourcesRow = true := by
  unfold joinedFacts
  rw [fLaid, fMaps, fPlain, fHeard, fMay, fLifts, fMake, fIn, fUn, fRe, fNa]
  kernel_rfl

theorem imageSources_holds : Rows.ImageSourcesSaid :=
  OpenClaim.holds_of_wide 4 Tryz.f4 rfl rfl rfl rfl rfl rfl rfl ⟨rfl, rfl, rfl, rfl, rfl⟩ rfl rfl rfl rfl rfl (by kernel_rfl) Tryz.func4 fAll
    (of_decide_eq_true (by kernel_rfl)) (by unfold Func.isWrapper; first | (rw [if_pos (by decide +kernel)]; kernel_rfl) | (rw [if_neg (by decide +kernel)]; exact ⟨rfl, rfl⟩))
    (fun os started H enc _ => imageSources_lifted os started H enc)
#print axioms imageSources_holds
end Go.Proofs.YtdaliaafmcjikaaGreat
