/- The law HallSees of chapter 1 returns true at every input: no conditions. -/
import Derived.Test.YtjpmeaagnhojgaaGreatLw7
import Derived.Test.YtjpmeaagnhojgaaGreatV2
set_option linter.unusedVariables false
set_option linter.unusedSimpArgs false
namespace Go.Proofs.YtjpmeaagnhojgaaGreat
open Go Go.Sx

theorem p3_of {a : AV} (h : WTA TT 58 a) : ∃ x y z : Int, a = P3 x y z := by
  obtain ⟨cs, m, rfl, hw⟩ := wta_agg (T := TT) (t := 58) h rfl rfl 2
  obtain ⟨ns, h1, h2, h3⟩ := wt_ints (T := TT) (t := 58) rfl rfl rfl hw
  have h2 : ns.length = 3 := h2
  match ns, h2 with
  | [x, y, z], _ => exact ⟨x, y, z, by rw [h1]; rfl⟩
theorem law16 : ∀ cs, WTs (tget tbl) Tryz.f16.params.toList cs → PCall Tryz.prog 16 cs ⟨.bool true, []⟩ := by
  intro cs h
  have h : WTs (tget tbl) [28, 31, 58] cs := h
  match cs, h with
  | [a0, a1, a2], ⟨h0, h1, h2, _⟩ =>
    obtain ⟨x, rfl⟩ := hall_of h0
    obtain ⟨y, rfl⟩ := stg_of h1
    obtain ⟨u, v, w, rfl⟩ := p3_of h2
    exact c16 x y u v w
set_option maxRecDepth 100000 in
theorem hallSees_lifted (os : Os) (started : os.Started) (H : Type) (enc : TypeId × Value → H) :
    ReturnsInHanded {} Tryz.checked os 16 .any (Rows.hallSeesSpec.pre6 enc Tryz.prog Tryz.f16 Rows.hallSeesRow.domain false) (Rows.hallSeesSpec.post enc Tryz.prog Tryz.f16 false true false false) :=
  law_lifted (C := Tryz.checked) started own laidOut (by kernel_rfl) Tryz.func16 tabOK tysOK (by kernel_rfl) (by kernel_rfl) rfl (bt := 4) (by kernel_rfl) (by kernel_rfl)
    (fun ds h => by
      have h : ds.length = 3 := h
      match ds, h with
      | [d0, d1, d2], _ => rfl) law16
    (ChangeSpec.witness6 (enc := enc) (C := Tryz.checked) false ⟨#[], #[.agg #[.string ⟨#[]⟩, .int .i64 0, .string ⟨#[]⟩, .string ⟨#[]⟩, .slice none 0 0, .slice none 0 0, .slice none 0 0, .slice none 0 0, .slice none 0 0], .agg #[.slice none 0 0, .slice none 0 0], .agg #[.int .i64 0, .int .i64 0, .int .i64 0]], []⟩ 8 (by kernel_rfl) (by kernel_rfl) (by kernel_rfl) (by kernel_rfl))

theorem fIn : Tryz.checked.prog.inPlace 16 = Rows.hallSeesRow.inPlace := by kernel_rfl
theorem fUn : Tryz.checked.prog.unfollowed 16 = Rows.hallSeesRow.unfollowed := by kernel_rfl
theorem fRe : Tryz.checked.prog.recurses 16 = Rows.hallSeesRow.recurses := by kernel_rfl
theorem fNa : Tryz.checked.prog.varsNamed 16 = Rows.hallSeesRow.named := by kernel_rfl
theorem fAll : joinedFacts Tryz.checked.prog 16 Tryz.f16 Rows.hallSeesSpec Rows.hallSeesRow = true := by
  unfold joinedFacts
  rw [fLaid, fMaps, fPlain, fHeard, fMay, fLifts, fMake, fIn, fUn, fRe, fNa]
  kernel_rfl

theorem hallSees_holds : Rows.HallSeesSaid :=
  OpenClaim.holds_of_wide 16 Tryz.f16 rfl rfl rfl rfl rfl rfl rfl ⟨rfl, rfl, rfl, rfl, rfl⟩ rfl rfl rfl rfl rfl (by kernel_rfl) Tryz.func16 fAll
    (of_decide_eq_true (by kernel_rfl)) (by unfold Func.isWrapper; first | (rw [if_pos (by decide +kernel)]; kernel_rfl) | (rw [if_neg (by decide +kernel)]; exact ⟨rfl, rfl⟩))
    (fun os started H enc _ => hallSees_lifted os started H enc)
#print axioms hallSees_holds
end Go.Proofs.YtjpmeaagnhojgaaGreat
