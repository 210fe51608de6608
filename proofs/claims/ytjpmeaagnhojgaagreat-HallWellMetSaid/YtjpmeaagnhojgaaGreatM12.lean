/- The law HallWellMet of chapter 1 returns true at every input: no conditions. -/
import Derived.Test.YtjpmeaagnhojgaaGreatLw7
import Derived.Test.YtjpmeaagnhojgaaGreatW3
set_option linter.unusedVariables false
set_option linter.unusedSimpArgs false
namespace Go.Proofs.YtjpmeaagnhojgaaGreat
open Go Go.Sx

theorem crs_of {a : AV} (h : WTA TT 76 a) : ∃ c : Crs, a = c.av ∧ c.to.wf := by
  obtain ⟨x, m, rfl, hw⟩ := wta_agg (T := TT) (t := 76) h rfl rfl 6
  have h0 := (wt_struct (T := TT) (t := 76) rfl rfl hw).1
  have h0 : x.length = 8 := h0
  match x, h0 with
  | [x0, x1, x2, x3, x4, x5, x6, x7], _ =>
    obtain ⟨n, hn⟩ := wInt (wt_field (T := TT) (t := 76) rfl rfl hw 0 rfl rfl)
    obtain ⟨ns, g1, g2, g3⟩ := wt_ints (T := TT) (t := 58) rfl rfl rfl (wt_field (T := TT) (t := 76) rfl rfl hw 1 rfl rfl)
    obtain ⟨ms, k1, k2, k3⟩ := wt_ints (T := TT) (t := 66) rfl rfl rfl (wt_field (T := TT) (t := 76) rfl rfl hw 2 rfl rfl)
    have g2 : ns.length = 3 := g2
    have k2 : ms.length = 4 := k2
    match ns, g2, ms, k2 with
    | [u, v, w], _, [x, y, z, d], _ =>
      have hn2 : [x0] = [AV.int .i64 n] := hn
      have g4 : [x1, x2, x3] = [AV.int .i64 u, AV.int .i64 v, AV.int .i64 w] := g1
      have k4 : [x4, x5, x6, x7] = [AV.int .i64 x, AV.int .i64 y, AV.int .i64 z, AV.int .i64 d] := k1
      cases hn2
      cases g4
      cases k4
      exact ⟨⟨n, u, v, w, ⟨x, y, z, d⟩⟩, rfl, wf_i64 (k3 x (by simp)), wf_i64 (k3 y (by simp)), wf_i64 (k3 z (by simp)), wf_i64 (k3 d (by simp))⟩
theorem law12 : ∀ cs, WTs (tget tbl) Tryz.f12.params.toList cs → PCall Tryz.prog 12 cs ⟨.bool true, []⟩ := by
  intro cs h
  have h : WTs (tget tbl) [28, 31, 76] cs := h
  match cs, h with
  | [a0, a1, a2], ⟨h0, h1, h2, _⟩ =>
    obtain ⟨x, rfl⟩ := hall_of h0
    obtain ⟨y, rfl⟩ := stg_of h1
    obtain ⟨c, rfl, hc⟩ := crs_of h2
    exact c12 x y hc

set_option maxRecDepth 100000 in
theorem hallWellMet_lifted (os : Os) (started : os.Started) (H : Type) (enc : TypeId × Value → H) :
    ReturnsInHanded {} Tryz.checked os 12 .any (Rows.hallWellMetSpec.pre6 enc Tryz.prog Tryz.f12 Rows.hallWellMetRow.domain false) (Rows.hallWellMetSpec.post enc Tryz.prog Tryz.f12 false true false false) :=
  law_lifted (C := Tryz.checked) started own laidOut (by kernel_rfl) Tryz.func12 tabOK tysOK (by kernel_rfl) (by kernel_rfl) rfl (bt := 4) (by kernel_rfl) (by kernel_rfl)
    (fun ds h => by
      have h : ds.length = 3 := h
      match ds, h with
      | [d0, d1, d2], _ => rfl) law12
    (ChangeSpec.witness6 (enc := enc) (C := Tryz.checked) false ⟨#[], #[.agg #[.string ⟨#[]⟩, .int .i64 0, .string ⟨#[]⟩, .string ⟨#[]⟩, .slice none 0 0, .slice none 0 0, .slice none 0 0, .slice none 0 0, .slice none 0 0], .agg #[.slice none 0 0, .slice none 0 0], .agg #[.int .i64 0, .int .i64 0, .int .i64 0, .int .i64 0, .int .i64 0, .int .i64 0, .int .i64 0, .int .i64 0]], []⟩ 8 (by kernel_rfl) (by kernel_rfl) (by kernel_rfl) (by kernel_rfl))

theorem fIn : Tryz.checked.prog.inPlace 12 = Rows.hallWellMetRow.inPlace := by kernel_rfl
theorem fUn : Tryz.checked.prog.unfollowed 12 = Rows.hallWellMetRow.unfollowed := by kernel_rfl
theorem fRe : Tryz.checked.prog.recurses 12 = Rows.hallWellMetRow.recurses := by kernel_rfl
theorem fNa : Tryz.checked.prog.varsNamed 12 = Rows.hallWellMetRow.named := by kernel_rfl
theorem fAll : joinedFacts Tryz.checked.prog 12 Tryz.f12 Rows.hallWellMetSpec Rows.hallWellMetRow = true := by
  unfold joinedFacts
  rw [fLaid, fMaps, fPlain, fHeard, fMay, fLifts, fMake, fIn, fUn, fRe, fNa]
  kernel_rfl

theorem hallWellMet_holds : Rows.HallWellMetSaid :=
  OpenClaim.holds_of_wide 12 Tryz.f12 rfl rfl rfl rfl rfl rfl rfl ⟨rfl, rfl, rfl, rfl, rfl⟩ rfl rfl rfl rfl rfl (by kernel_rfl) Tryz.func12 fAll
    (of_decide_eq_true (by kernel_rfl)) (by unfold Func.isWrapper; first | (rw [if_pos (by decide +kernel)]; kernel_rfl) | (rw [if_neg (by decide +kernel)]; exact ⟨rfl, rfl⟩))
    (fun os started H enc _ => hallWellMet_lifted os started H enc)
#print axioms hallWellMet_holds
end Go.Proofs.YtjpmeaagnhojgaaGreat
