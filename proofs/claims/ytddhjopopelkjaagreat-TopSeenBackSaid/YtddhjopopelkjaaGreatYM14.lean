/- The law TopSeenBack returns true at every input: no conditions. -/
import Derived.Test.YtddhjopopelkjaaGreatZw8
import Derived.Test.YtddhjopopelkjaaGreatZW14
set_option linter.unusedVariables false
set_option linter.unusedSimpArgs false
namespace Go.Proofs.YtddhjopopelkjaaGreat
open Go Go.Sx

theorem law14 : ∀ cs, WTs (tget tbl) Tryz.f14.params.toList cs → PCall Tryz.prog 14 cs ⟨.bool true, []⟩ := by
  intro cs h
  have h : WTs (tget tbl) [80, 74] cs := h
  match cs, h with
  | [a0, a1], ⟨h0, h1, _⟩ =>
    obtain ⟨hh, s, rfl⟩ := hset_of h0
    obtain ⟨a, b, rfl⟩ := two_of h1
    exact d14 hh s a b
set_option maxRecDepth 100000 in
theorem topSeenBack_lifted (os : Os) (started : os.Started) (H : Type) (enc : TypeId × Value → H) :
    ReturnsInHanded {} Tryz.checked os 14 .any (Rows.topSeenBackSpec.pre6 enc Tryz.prog Tryz.f14 Rows.topSeenBackRow.domain false) (Rows.topSeenBackSpec.post enc Tryz.prog Tryz.f14 false true false false) :=
  law_lifted (C := Tryz.checked) started own laidOut (by kernel_rfl) Tryz.func14 tabOK tysSOK (by kernel_rfl) (by kernel_rfl) rfl (bt := 4) (by kernel_rfl) (by kernel_rfl)
    (fun ds h => by
      have h : ds.length = 2 := h
      match ds, h with
      | [d0, d1], _ => rfl) law14
    (ChangeSpec.witness6 (enc := enc) (C := Tryz.checked) false ⟨#[], #[.agg #[.string ⟨#[]⟩, .int .i64 0, .string ⟨#[]⟩, .string ⟨#[]⟩, .slice none 0 0, .slice none 0 0, .slice none 0 0, .slice none 0 0, .slice none 0 0, .slice none 0 0, .slice none 0 0], .agg #[.int .i64 0, .int .i64 0]], []⟩ 14 (by kernel_rfl) (by kernel_rfl) (by kernel_rfl) (by kernel_rfl))

theorem fIn : Tryz.checked.prog.inPlace 14 = Rows.topSeenBackRow.inPlace := by kernel_rfl
theorem fUn : Tryz.checked.prog.unfollowed 14 = Rows.topSeenBackRow.unfollowed := by kernel_rfl
theorem fRe : Tryz.checked.prog.recurses 14 = Rows.topSeenBackRow.recurses := by kernel_rfl
theorem fNa : Tryz.checked.prog.varsNamed 14 = Rows.topSeenBackRow.named := by kernel_rfl
theorem fAll : joinedFacts Tryz.checked.prog 14 Tryz.f14 Rows.topSeenBackSpec Rows.topSeenBackRow = true := by
  unfold joinedFacts
  rw [fLaid, fMaps, fPlain, fHeard, fMay, fLifts, fMake, fIn, fUn, fRe, fNa]
  kernel_rfl

theorem topSeenBack_holds : Rows.TopSeenBackSaid :=
  OpenClaim.holds_of_wide 14 Tryz.f14 rfl rfl rfl rfl rfl rfl rfl ⟨rfl, rfl, rfl, rfl, rfl⟩ rfl rfl rfl rfl rfl (by kernel_rfl) Tryz.func14 fAll
    (of_decide_eq_true (by kernel_rfl)) (by unfold Func.isWrapper; first | (rw [if_pos (by decide +kernel)]; kernel_rfl) | (rw [if_neg (by decide +kernel)]; exact ⟨rfl, rfl⟩))
    (fun os started H enc _ => topSeenBack_lifted os started H enc)
#print axioms topSeenBack_holds
end Go.Proofs.YtddhjopopelkjaaGreat
