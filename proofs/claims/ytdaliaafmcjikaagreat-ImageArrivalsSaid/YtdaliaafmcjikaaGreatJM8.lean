/- The law ImageArrivals returns true at every input: no conditions. -/
import Derived.Test.YtdaliaafmcjikaaGreatZw11
import Derived.Test.YtdaliaafmcjikaaGreatJW8
set_option linter.unusedVariables false
set_option linter.unusedSimpArgs false
namespace Go.Proofs.YtdaliaafmcjikaaGreat
open Go Go.Sx

theorem law8 : ∀ cs, WTs (tget tbl) Tryz.f8.params.toList cs → PCall Tryz.prog 8 cs ⟨.bool true, []⟩ := by
  intro cs h
  have h : WTs (tget tbl) [102, 87] cs := h
  match cs, h with
  | [a0, a1], ⟨h0, h1, _⟩ =>
    obtain ⟨l, rfl⟩ := paths_of h0
    obtain ⟨v, r, m, rfl⟩ := air_of h1
    exact d8 awake_ok v r m
set_option maxRecDepth 100000 in
theorem imageArrivals_lifted (os : Os) (started : os.Started) (H : Type) (enc : TypeId × Value → H) :
    ReturnsInHanded {} Tryz.checked os 8 .any (Rows.imageArrivalsSpec.pre6 enc Tryz.prog Tryz.f8 Rows.imageArrivalsRow.domain false) (Rows.imageArrivalsSpec.post enc Tryz.prog Tryz.f8 false true false false) :=
  law_lifted (C := Tryz.checked) started own laidOut (by kernel_rfl) Tryz.func8 tabOK tysLOK (by kernel_rfl) (by kernel_rfl) rfl (bt := 4) (by kernel_rfl) (by kernel_rfl)
    (fun ds h => by
      have h : ds.length = 2 := h
      match ds, h with
      | [d0, d1], _ => rfl) law8
    (ChangeSpec.witness6 (enc := enc) (C := Tryz.checked) false ⟨#[], #[.slice none 0 0, .agg #[.int .i64 0, .int .i64 0, .int .i64 0]], []⟩ 8 (by kernel_rfl) (by kernel_rfl) (by kernel_rfl) (by kernel_rfl))

theorem fIn : Tryz.checked.prog.inPlace 8 = Rows.imageArrivalsRow.inPlace := by kernel_rfl
theorem fUn : Tryz.checked.prog.unfollowed 8 = Rows.imageArrivalsRow.unfollowed := by kernel_rfl
theorem fRe : Tryz.checked.prog.recurses 8 = Rows.imageArrivalsRow.recurses := by kernel_rfl
theorem fNa : Tryz.checked.prog.varsNamed 8 = Rows.imageArrivalsRow.named := by kernel_rfl
theorem fAll : joinedFacts Tryz.checked.prog 8 Tryz.f8 Rows.imageArrivalsSpec Rows.imageArrivalsRow = true := by
  unfold joinedFacts
  rw [fLaid, fMaps, fPlain, fHeard, fMay, fLifts, fMake, fIn, fUn, fRe, fNa]
  kernel_rfl

theorem imageArrivals_holds : Rows.ImageArrivalsSaid :=
  OpenClaim.holds_of_wide 8 Tryz.f8 rfl rfl rfl rfl rfl rfl rfl ⟨rfl, rfl, rfl, rfl, rfl⟩ rfl rfl rfl rfl rfl (by kernel_rfl) Tryz.func8 fAll
    (of_decide_eq_true (by kernel_rfl)) (by unfold Func.isWrapper; first | (rw [if_pos (by decide +kernel)]; kernel_rfl) | (rw [if_neg (by decide +kernel)]; exact ⟨rfl, rfl⟩))
    (fun os started H enc _ => imageArrivals_lifted os started H enc)
#print axioms imageArrivals_holds
end Go.Proofs.YtdaliaafmcjikaaGreat
