/- The law EnergyCurtains returns true at every input: no conditions. -/
import Derived.Test.YtddhjopopelkjaaGreatZw8
import Derived.Test.YtddhjopopelkjaaGreatZW13
import Derived.Test.YtddhjopopelkjaaGreatZK3
set_option linter.unusedVariables false
set_option linter.unusedSimpArgs false
namespace Go.Proofs.YtddhjopopelkjaaGreat
open Go Go.Sx

theorem law15 : ∀ cs, WTs (tget tbl) Tryz.f15.params.toList cs → PCall Tryz.prog 15 cs ⟨.bool true, []⟩ := by
  intro cs h
  have h : WTs (tget tbl) [33, 38, 74] cs := h
  match cs, h with
  | [a0, a1, a2], ⟨h0, h1, h2, _⟩ =>
    obtain ⟨hh, s, rfl⟩ := scene_of h0
    obtain ⟨b, c, v, rfl⟩ := air_of h1
    obtain ⟨y0, y1, rfl⟩ := two_of h2
    exact d15 hh s b c v y0 y1
set_option maxRecDepth 100000 in
theorem energyCurtains_lifted (os : Os) (started : os.Started) (H : Type) (enc : TypeId × Value → H) :
    ReturnsInHanded {} Tryz.checked os 15 .any (Rows.energyCurtainsSpec.pre6 enc Tryz.prog Tryz.f15 Rows.energyCurtainsRow.domain false) (Rows.energyCurtainsSpec.post enc Tryz.prog Tryz.f15 false true false false) :=
  law_lifted (C := Tryz.checked) started own laidOut (by kernel_rfl) Tryz.func15 tabOK tysROK (by kernel_rfl) (by kernel_rfl) rfl (bt := 4) (by kernel_rfl) (by kernel_rfl)
    (fun ds h => by
      have h : ds.length = 3 := h
      match ds, h with
      | [d0, d1, d2], _ => rfl) law15
    (ChangeSpec.witness6 (enc := enc) (C := Tryz.checked) false ⟨#[], #[.agg #[.string ⟨#[]⟩, .int .i64 0, .string ⟨#[]⟩, .string ⟨#[]⟩, .slice none 0 0, .slice none 0 0, .slice none 0 0, .slice none 0 0, .slice none 0 0, .slice none 0 0, .slice none 0 0], .agg #[.int .i64 0, .int .i64 0, .int .i64 0], .agg #[.int .i64 0, .int .i64 0]], []⟩ 15 (by kernel_rfl) (by kernel_rfl) (by kernel_rfl) (by kernel_rfl))

theorem fIn : Tryz.checked.prog.inPlace 15 = Rows.energyCurtainsRow.inPlace := by kernel_rfl
theorem fUn : Tryz.checked.prog.unfollowed 15 = Rows.energyCurtainsRow.unfollowed := by kernel_rfl
theorem fRe : Tryz.checked.prog.recurses 15 = Rows.energyCurtainsRow.recurses := by kernel_rfl
theorem fNa : Tryz.checked.prog.varsNamed 15 = Rows.energyCurtainsRow.named := by kernel_rfl
theorem fAll : joinedFacts Tryz.checked.prog 15 Tryz.f15 Rows.energyCurtainsSpec Rows.energyCurtainsRow = true := by
  unfold joinedFacts
  rw [fLaid, fMaps, fPlain, fHeard, fMay, fLifts, fMake, fIn, fUn, fRe, fNa]
  kernel_rfl

theorem energyCurtains_holds : Rows.EnergyCurtainsSaid :=
  OpenClaim.holds_of_wide 15 Tryz.f15 rfl rfl rfl rfl rfl rfl rfl ⟨rfl, rfl, rfl, rfl, rfl⟩ rfl rfl rfl rfl rfl (by kernel_rfl) Tryz.func15 fAll
    (of_decide_eq_true (by kernel_rfl)) (by unfold Func.isWrapper; first | (rw [if_pos (by decide +kernel)]; kernel_rfl) | (rw [if_neg (by decide +kernel)]; exact ⟨rfl, rfl⟩))
    (fun os started H enc _ => energyCurtains_lifted os started H enc)
#print axioms energyCurtains_holds
end Go.Proofs.YtddhjopopelkjaaGreat
