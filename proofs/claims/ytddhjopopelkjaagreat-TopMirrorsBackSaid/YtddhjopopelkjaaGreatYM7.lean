/- The law TopMirrorsBack returns true at every input: no conditions. -/
import Derived.Test.YtddhjopopelkjaaGreatZw8
import Derived.Test.YtddhjopopelkjaaGreatZW7
set_option linter.unusedVariables false
set_option linter.unusedSimpArgs false
namespace Go.Proofs.YtddhjopopelkjaaGreat
open Go Go.Sx

theorem law7 : ∀ cs, WTs (tget tbl) Tryz.f7.params.toList cs → PCall Tryz.prog 7 cs ⟨.bool true, []⟩ := by
  intro cs h
  have h : WTs (tget tbl) [80, 29, 83] cs := h
  match cs, h with
  | [a0, a1, a2], ⟨h0, h1, h2, _⟩ =>
    obtain ⟨hh, s, rfl⟩ := hset_of h0
    obtain ⟨sf, rfl⟩ := ints_of h1
    obtain ⟨p, u, rfl⟩ := ends_of h2
    exact d7 hh s sf p u
set_option maxRecDepth 100000 in
theorem topMirrorsBack_lifted (os : Os) (started : os.Started) (H : Type) (enc : TypeId × Value → H) :
    ReturnsInHanded {} Tryz.checked os 7 .any (Rows.topMirrorsBackSpec.pre6 enc Tryz.prog Tryz.f7 Rows.topMirrorsBackRow.domain false) (Rows.topMirrorsBackSpec.post enc Tryz.prog Tryz.f7 false true false false) :=
  law_lifted (C := Tryz.checked) started own laidOut (by kernel_rfl) Tryz.func7 tabOK tysZOK (by kernel_rfl) (by kernel_rfl) rfl (bt := 4) (by kernel_rfl) (by kernel_rfl)
    (fun ds h => by
      have h : ds.length = 3 := h
      match ds, h with
      | [d0, d1, d2], _ => rfl) law7
    (ChangeSpec.witness6 (enc := enc) (C := Tryz.checked) false ⟨#[], #[.agg #[.string ⟨#[]⟩, .int .i64 0, .string ⟨#[]⟩, .string ⟨#[]⟩, .slice none 0 0, .slice none 0 0, .slice none 0 0, .slice none 0 0, .slice none 0 0, .slice none 0 0, .slice none 0 0], .slice none 0 0, .agg #[.int .i64 0, .int .i64 0, .int .i64 0, .int .i64 0, .int .i64 0, .int .i64 0]], []⟩ 7 (by kernel_rfl) (by kernel_rfl) (by kernel_rfl) (by kernel_rfl))

theorem fIn : Tryz.checked.prog.inPlace 7 = Rows.topMirrorsBackRow.inPlace := by kernel_rfl
theorem fUn : Tryz.checked.prog.unfollowed 7 = Rows.topMirrorsBackRow.unfollowed := by kernel_rfl
theorem fRe : Tryz.checked.prog.recurses 7 = Rows.topMirrorsBackRow.recurses := by kernel_rfl
theorem fNa : Tryz.checked.prog.varsNamed 7 = Rows.topMirrorsBackRow.named := by kernel_rfl
theorem fAll : joinedFacts Tryz.checked.prog 7 Tryz.f7 Rows.topMirrorsBackSpec Rows.topMirrorsBackRow = true := by
  unfold joinedFacts
  rw [fLaid, fMaps, fPlain, fHeard, fMay, fLifts, fMake, fIn, fUn, fRe, fNa]
  kernel_rfl

theorem topMirrorsBack_holds : Rows.TopMirrorsBackSaid :=
  OpenClaim.holds_of_wide 7 Tryz.f7 rfl rfl rfl rfl rfl rfl rfl ⟨rfl, rfl, rfl, rfl, rfl⟩ rfl rfl rfl rfl rfl (by kernel_rfl) Tryz.func7 fAll
    (of_decide_eq_true (by kernel_rfl)) (by unfold Func.isWrapper; first | (rw [if_pos (by decide +kernel)]; kernel_rfl) | (rw [if_neg (by decide +kernel)]; exact ⟨rfl, rfl⟩))
    (fun os started H enc _ => topMirrorsBack_lifted os started H enc)
#print axioms topMirrorsBack_holds
end Go.Proofs.YtddhjopopelkjaaGreat
