/- The law HallBothWays of chapter 1 returns true at every input: no conditions. -/
import Derived.Test.YtjpmeaagnhojgaaGreatLw7
import Derived.Test.YtjpmeaagnhojgaaGreatB4
set_option linter.unusedVariables false
set_option linter.unusedSimpArgs false
namespace Go.Proofs.YtjpmeaagnhojgaaGreat
open Go Go.Sx

theorem way_of {a : AV} (h : WTA TT 70 a) : ∃ p q : Pt, a = wayA p q ∧ p.wf ∧ q.wf := by
  obtain ⟨x, m, rfl, hw⟩ := wta_agg (T := TT) (t := 70) h rfl rfl 6
  have h0 := (wt_struct (T := TT) (t := 70) rfl rfl hw).1
  have h0 : x.length = 8 := h0
  match x, h0 with
  | [x0, x1, x2, x3, x4, x5, x6, x7], _ =>
    obtain ⟨ns, g1, g2, g3⟩ := wt_ints (T := TT) (t := 66) rfl rfl rfl (wt_field (T := TT) (t := 70) rfl rfl hw 0 rfl rfl)
    obtain ⟨ms, k1, k2, k3⟩ := wt_ints (T := TT) (t := 66) rfl rfl rfl (wt_field (T := TT) (t := 70) rfl rfl hw 1 rfl rfl)
    have g2 : ns.length = 4 := g2
    have k2 : ms.length = 4 := k2
    match ns, g2, ms, k2 with
    | [a, b, c, d], _, [x, y, z, w], _ =>
      have g4 : [x0, x1, x2, x3] = [AV.int .i64 a, AV.int .i64 b, AV.int .i64 c, AV.int .i64 d] := g1
      have k4 : [x4, x5, x6, x7] = [AV.int .i64 x, AV.int .i64 y, AV.int .i64 z, AV.int .i64 w] := k1
      cases g4
      cases k4
      exact ⟨⟨a, b, c, d⟩, ⟨x, y, z, w⟩, rfl, ⟨wf_i64 (g3 a (by simp)), wf_i64 (g3 b (by simp)), wf_i64 (g3 c (by simp)), wf_i64 (g3 d (by simp))⟩, wf_i64 (k3 x (by simp)), wf_i64 (k3 y (by simp)), wf_i64 (k3 z (by simp)), wf_i64 (k3 w (by simp))⟩
theorem law11 : ∀ cs, WTs (tget tbl) Tryz.f11.params.toList cs → PCall Tryz.prog 11 cs ⟨.bool true, []⟩ := by
  intro cs h
  have h : WTs (tget tbl) [28, 31, 70] cs := h
  match cs, h with
  | [a0, a1, a2], ⟨h0, h1, h2, _⟩ =>
    obtain ⟨x, rfl⟩ := hall_of h0
    obtain ⟨y, rfl⟩ := stg_of h1
    obtain ⟨p, q, rfl, hp, hq⟩ := way_of h2
    exact c11 x y hp hq

set_option maxRecDepth 100000 in
theorem hallBothWays_lifted (os : Os) (started : os.Started) (H : Type) (enc : TypeId × Value → H) :
    ReturnsInHanded {} Tryz.checked os 11 .any (Rows.hallBothWaysSpec.pre6 enc Tryz.prog Tryz.f11 Rows.hallBothWaysRow.domain false) (Rows.hallBothWaysSpec.post enc Tryz.prog Tryz.f11 false true false false) :=
  law_lifted (C := Tryz.checked) started own laidOut (by kernel_rfl) Tryz.func11 tabOK tysOK (by kernel_rfl) (by kernel_rfl) rfl (bt := 4) (by kernel_rfl) (by kernel_rfl)
    (fun ds h => by
      have h : ds.length = 3 := h
      match ds, h with
      | [d0, d1, d2], _ => rfl) law11
    (ChangeSpec.witness6 (enc := enc) (C := Tryz.checked) false ⟨#[], #[.agg #[.string ⟨#[]⟩, .int .i64 0, .string ⟨#[]⟩, .string ⟨#[]⟩, .slice none 0 0, .slice none 0 0, .slice none 0 0, .slice none 0 0, .slice none 0 0], .agg #[.slice none 0 0, .slice none 0 0], .agg #[.int .i64 0, .int .i64 0, .int .i64 0, .int .i64 0, .int .i64 0, .int .i64 0, .int .i64 0, .int .i64 0]], []⟩ 8 (by kernel_rfl) (by kernel_rfl) (by kernel_rfl) (by kernel_rfl))

theorem fIn : Tryz.checked.prog.inPlace 11 = Rows.hallBothWaysRow.inPlace := by kernel_rfl
theorem fUn : Tryz.checked.prog.unfollowed 11 = Rows.hallBothWaysRow.unfollowed := by kernel_rfl
theorem fRe : Tryz.checked.prog.recurses 11 = Rows.hallBothWaysRow.recurses := by kernel_rfl
theorem fNa : Tryz.checked.prog.varsNamed 11 = Rows.hallBothWaysRow.named := by kernel_rfl
theorem fAll : joinedFacts Tryz.checked.prog 11 Tryz.f11 Rows.hallBothWaysSpec Rows.hallBothWaysRow = true := by
  unfold joinedFacts
  rw [fLaid, fMaps, fPlain, fHeard, fMay, fLifts, fMake, fIn, fUn, fRe, fNa]
  kernel_rfl

theorem hallBothWays_holds : Rows.HallBothWaysSaid :=
  OpenClaim.holds_of_wide 11 Tryz.f11 rfl rfl rfl rfl rfl rfl rfl ⟨rfl, rfl, rfl, rfl, rfl⟩ rfl rfl rfl rfl rfl (by kernel_rfl) Tryz.func11 fAll
    (of_decide_eq_true (by kernel_rfl)) (by unfold Func.isWrapper; first | (rw [if_pos (by decide +kernel)]; kernel_rfl) | (rw [if_neg (by decide +kernel)]; exact ⟨rfl, rfl⟩))
    (fun os started H enc _ => hallBothWays_lifted os started H enc)
#print axioms hallBothWays_holds
end Go.Proofs.YtjpmeaagnhojgaaGreat
