/- The law ImageDelays returns true at every input: no conditions. -/
import Derived.Test.YtdaliaafmcjikaaGreatZw11
import Derived.Test.YtdaliaafmcjikaaGreatJW7
set_option linter.unusedVariables false
set_option linter.unusedSimpArgs false
namespace Go.Proofs.YtdaliaafmcjikaaGreat
open Go Go.Sx

theorem law7 : ∀ cs, WTs (tget tbl) Tryz.f7.params.toList cs → PCall Tryz.prog 7 cs ⟨.bool true, []⟩ := by
  intro cs h
  have h : WTs (tget tbl) [42, 87] cs := h
  match cs, h with
  | [a0, a1], ⟨h0, h1, _⟩ =>
    obtain ⟨p, rfl⟩ := path_of h0
    obtain ⟨v, r, m, rfl⟩ := air_of h1
    exact d7 awake_ok p v r m
set_option maxRecDepth 100000 in
theorem imageDelays_lifted (os : Os) (started : os.Started) (H : Type) (enc : TypeId × Value → H) :
    ReturnsInHanded {} Tryz.checked os 7 .any (Rows.imageDelaysSpec.pre6 enc Tryz.prog Tryz.f7 Rows.imageDelaysRow.domain false) (Rows.imageDelaysSpec.post enc Tryz.prog Tryz.f7 false true false false) :=
  law_lifted (C := Tryz.checked) started own laidOut (by kernel_rfl) Tryz.func7 tabOK tysDOK (by kernel_rfl) (by kernel_rfl) rfl (bt := 4) (by kernel_rfl) (by kernel_rfl)
    (fun ds h => by
      have h : ds.length = 2 := h
      match ds, h with
      | [d0, d1], _ => rfl) law7
    (ChangeSpec.witness6 (enc := enc) (C := Tryz.checked) false ⟨#[], #[.agg #[.slice none 0 0, .slice none 0 0, .int .i64 0], .agg #[.int .i64 0, .int .i64 0, .int .i64 0]], []⟩ 7 (by kernel_rfl) (by kernel_rfl) (by kernel_rfl) (by kernel_rfl))

theorem fIn : Tryz.checked.prog.inPlace 7 = Rows.imageDelaysRow.inPlace := by kernel_rfl
theorem fUn : Tryz.checked.prog.unfollowed 7 = Rows.imageDelaysRow.unfollowed := by kernel_rfl
theorem fRe : Tryz.checked.prog.recurses 7 = Rows.imageDelaysRow.recurses := by kernel_rfl
theorem fNa : Tryz.checked.prog.varsNamed 7 = Rows.imageDelaysRow.named := by kernel_rfl
theorem fAll : joinedFacts Tryz.checked.prog 7 Tryz.f7 Rows.imageDelaysSpec Rows.imageDelaysRow = true := by
  unfold joinedFacts
  rw [fLaid, fMaps, fPlain, fHeard, fMay, fLifts, fMake, fIn, fUn, fRe, fNa]
  kernel_rfl

theorem imageDelays_holds : Rows.ImageDelaysSaid :=
  OpenClaim.holds_of_wide 7 Tryz.f7 rfl rfl rfl rfl rfl rfl rfl ⟨rfl, rfl, rfl, rfl, rfl⟩ rfl rfl rfl rfl rfl (by kernel_rfl) Tryz.func7 fAll
    (of_decide_eq_true (by kernel_rfl)) (by unfold Func.isWrapper; first | (rw [if_pos (by decide +kernel)]; kernel_rfl) | (rw [if_neg (by decide +kernel)]; exact ⟨rfl, rfl⟩))
    (fun os started H enc _ => imageDelays_lifted os started H enc)
#print axioms imageDelays_holds
end Go.Proofs.YtdaliaafmcjikaaGreat
