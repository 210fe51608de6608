/- The law ImageTurns returns true at every input: no conditions. -/
import Derived.Test.YtdaliaafmcjikaaGreatZw11
import Derived.Test.YtdaliaafmcjikaaGreatJW5
set_option linter.unusedVariables false
set_option linter.unusedSimpArgs false
namespace Go.Proofs.YtdaliaafmcjikaaGreat
open Go Go.Sx

theorem law5 : ∀ cs, WTs (tget tbl) Tryz.f5.params.toList cs → PCall Tryz.prog 5 cs ⟨.bool true, []⟩ := by
  intro cs h
  have h : WTs (tget tbl) [72] cs := h
  match cs, h with
  | [a0], ⟨h0, _⟩ =>
    obtain ⟨p, q, r, f, t, rfl, g1, g2, g3⟩ := three_of h0
    exact d5 awake_ok g1 g2 g3 f t
set_option maxRecDepth 100000 in
theorem imageTurns_lifted (os : Os) (started : os.Started) (H : Type) (enc : TypeId × Value → H) :
    ReturnsInHanded {} Tryz.checked os 5 .any (Rows.imageTurnsSpec.pre6 enc Tryz.prog Tryz.f5 Rows.imageTurnsRow.domain false) (Rows.imageTurnsSpec.post enc Tryz.prog Tryz.f5 false true false false) :=
  law_lifted (C := Tryz.checked) started own laidOut (by kernel_rfl) Tryz.func5 tabOK tysTOK (by kernel_rfl) (by kernel_rfl) rfl (bt := 4) (by kernel_rfl) (by kernel_rfl)
    (fun ds h => by
      have h : ds.length = 1 := h
      match ds, h with
      | [d0], _ => rfl) law5
    (ChangeSpec.witness6 (enc := enc) (C := Tryz.checked) false ⟨#[], #[.agg #[.int .i64 0, .int .i64 0, .int .i64 0, .int .i64 0, .int .i64 0, .int .i64 0, .int .i64 0, .int .i64 0, .int .i64 0, .int .i64 0]], []⟩ 5 (by kernel_rfl) (by kernel_rfl) (by kernel_rfl) (by kernel_rfl))

theorem fIn : Tryz.checked.prog.inPlace 5 = Rows.imageTurnsRow.inPlace := by kernel_rfl
theorem fUn : Tryz.checked.prog.unfollowed 5 = Rows.imageTurnsRow.unfollowed := by kernel_rfl
theorem fRe : Tryz.checked.prog.recurses 5 = Rows.imageTurnsRow.recurses := by kernel_rfl
theorem fNa : Tryz.checked.prog.varsNamed 5 = Rows.imageTurnsRow.named := by kernel_rfl
theorem fAll : joinedFacts Tryz.checked.prog 5 Tryz.f5 Rows.imageTurnsSpec Rows.imageTurnsRow = true := by
  unfold joinedFacts
  rw [fLaid, fMaps, fPlain, fHeard, fMay, fLifts, fMake, fIn, fUn, fRe, fNa]
  kernel_rfl

theorem imageTurns_holds : Rows.ImageTurnsSaid :=
  OpenClaim.holds_of_wide 5 Tryz.f5 rfl rfl rfl rfl rfl rfl rfl ⟨rfl, rfl, rfl, rfl, rfl⟩ rfl rfl rfl rfl rfl (by kernel_rfl) Tryz.func5 fAll
    (of_decide_eq_true (by kernel_rfl)) (by unfold Func.isWrapper; first | (rw [if_pos (by decide +kernel)]; kernel_rfl) | (rw [if_neg (by decide +kernel)]; exact ⟨rfl, rfl⟩))
    (fun os started H enc _ => imageTurns_lifted os started H enc)
#print axioms imageTurns_holds
end Go.Proofs.YtdaliaafmcjikaaGreat
