/- The law HallInside of chapter 1 returns true at every input: no conditions. -/
import Derived.Test.YtjpmeaagnhojgaaGreatLw7
import Derived.Test.YtjpmeaagnhojgaaGreatLw10
set_option linter.unusedVariables false
set_option linter.unusedSimpArgs false
namespace Go.Proofs.YtjpmeaagnhojgaaGreat
open Go Go.Sx

theorem p4_of {a : AV} (h : WTA TT 66 a) : ∃ p : Pt, a = p.av ∧ p.wf := by
  obtain ⟨cs, m, rfl, hw⟩ := wta_agg (T := TT) (t := 66) h rfl rfl 2
  obtain ⟨ns, h1, h2, h3⟩ := wt_ints (T := TT) (t := 66) rfl rfl rfl hw
  have h2 : ns.length = 4 := h2
  match ns, h2 with
  | [x, y, z, d], _ => exact ⟨⟨x, y, z, d⟩, by rw [h1]; rfl, wf_i64 (h3 x (by simp)), wf_i64 (h3 y (by simp)), wf_i64 (h3 z (by simp)), wf_i64 (h3 d (by simp))⟩
theorem law10 : ∀ cs, WTs (tget tbl) Tryz.f10.params.toList cs → PCall Tryz.prog 10 cs ⟨.bool true, []⟩ := by
  intro cs h
  have h : WTs (tget tbl) [28, 66] cs := h
  match cs, h with
  | [a0, a1], ⟨h0, h1, _⟩ =>
    obtain ⟨x, rfl⟩ := hall_of h0
    obtain ⟨p, rfl, hp⟩ := p4_of h1
    exact c10 x hp

set_option maxRecDepth 100000 in
theorem hallInside_lifted (os : Os) (started : os.Started) (H : Type) (enc : TypeId × Value → H) :
    ReturnsInHanded {} Tryz.checked os 10 .any (Rows.hallInsideSpec.pre6 enc Tryz.prog Tryz.f10 Rows.hallInsideRow.domain false) (Rows.hallInsideSpec.post enc Tryz.prog Tryz.f10 false true false false) :=
  law_lifted (C := Tryz.checked) started own laidOut (by kernel_rfl) Tryz.func10 tabOK tysOK (by kernel_rfl) (by kernel_rfl) rfl (bt := 4) (by kernel_rfl) (by kernel_rfl)
    (fun ds h => by
      have h : ds.length = 2 := h
      match ds, h with
      | [d0, d1], _ => rfl) law10
    (ChangeSpec.witness6 (enc := enc) (C := Tryz.checked) false ⟨#[], #[.agg #[.string ⟨#[]⟩, .int .i64 0, .string ⟨#[]⟩, .string ⟨#[]⟩, .slice none 0 0, .slice none 0 0, .slice none 0 0, .slice none 0 0, .slice none 0 0], .agg #[.int .i64 0, .int .i64 0, .int .i64 0, .int .i64 0]], []⟩ 8 (by kernel_rfl) (by kernel_rfl) (by kernel_rfl) (by kernel_rfl))

theorem fIn : Tryz.checked.prog.inPlace 10 = Rows.hallInsideRow.inPlace := by kernel_rfl
theorem fUn : Tryz.checked.prog.unfollowed 10 = Rows.hallInsideRow.unfollowed := by kernel_rfl
theorem fRe : Tryz.checked.prog.recurses 10 = Rows.hallInsideRow.recurses := by kernel_rfl
theorem fNa : Tryz.checked.prog.varsNamed 10 = Rows.hallInsideRow.named := by kernel_rfl
theorem fAll : joinedFacts Tryz.checked.prog 10 Tryz.f10 Rows.hallInsideSpec Rows.hallInsideRow = true := by
  unfold joinedFacts
  rw [fLaid, fMaps, fPlain, fHeard, fMay, fLifts, fMake, fIn, fUn, fRe, fNa]
  kernel_rfl

theorem hallInside_holds : Rows.HallInsideSaid :=
  OpenClaim.holds_of_wide 10 Tryz.f10 rfl rfl rfl rfl rfl rfl rfl ⟨rfl, rfl, rfl, rfl, rfl⟩ rfl rfl rfl rfl rfl (by kernel_rfl) Tryz.func10 fAll
    (of_decide_eq_true (by kernel_rfl)) (by unfold Func.isWrapper; first | (rw [if_pos (by decide +kernel)]; kernel_rfl) | (rw [if_neg (by decide +kernel)]; exact ⟨rfl, rfl⟩))
    (fun os started H enc _ => hallInside_lifted os started H enc)
#print axioms hallInside_holds
end Go.Proofs.YtjpmeaagnhojgaaGreat
