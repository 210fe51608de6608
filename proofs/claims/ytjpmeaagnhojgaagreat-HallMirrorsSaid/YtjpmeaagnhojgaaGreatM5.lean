/- The law HallMirrors of chapter 1 returns true at every input: no conditions. -/
import Derived.Test.YtjpmeaagnhojgaaGreatLw7
set_option linter.unusedVariables false
set_option linter.unusedSimpArgs false
namespace Go.Proofs.YtjpmeaagnhojgaaGreat
open Go Go.Sx

theorem p2_of {a : AV} {t : TypeId} {ti : TI} {fs : Array Field} (h : WTA (tget tbl) t a) (ht : tget tbl t = some ti) (hd : ti.desc = .struct fs) (hi : intFs (tget tbl) ti.size 0 fs.toList = true) (hs : ti.size = 2) : ∃ k b, a = P2 k b := by
  obtain ⟨cs, m, rfl, hw⟩ := wta_agg h ht hd 1
  obtain ⟨ns, h1, h2, h3⟩ := wt_ints ht hd hi hw
  rw [hs] at h2
  match ns, h2 with
  | [k, b], _ => exact ⟨k, b, by rw [h1]; rfl⟩
theorem p3_of {a : AV} {t : TypeId} {ti : TI} {fs : Array Field} (h : WTA (tget tbl) t a) (ht : tget tbl t = some ti) (hd : ti.desc = .struct fs) (hi : intFs (tget tbl) ti.size 0 fs.toList = true) (hs : ti.size = 3) : ∃ x y z, a = P3 x y z := by
  obtain ⟨cs, m, rfl, hw⟩ := wta_agg h ht hd 1
  obtain ⟨ns, h1, h2, h3⟩ := wt_ints ht hd hi hw
  rw [hs] at h2
  match ns, h2 with
  | [x, y, z], _ => exact ⟨x, y, z, by rw [h1]; rfl⟩

theorem law5 : ∀ cs, WTs (tget tbl) Tryz.f5.params.toList cs → PCall Tryz.prog 5 cs ⟨.bool true, []⟩ := by
  intro cs h
  have h : WTs (tget tbl) [56, 58, 58] cs := h
  match cs, h with
  | [p, a, b], ⟨h1, h2, h3, _⟩ =>
    obtain ⟨k, q, rfl⟩ := p2_of h1 rfl rfl rfl rfl
    obtain ⟨x, y, z, rfl⟩ := p3_of h2 rfl rfl rfl rfl
    obtain ⟨u, v, w, rfl⟩ := p3_of h3 rfl rfl rfl rfl
    exact c5 k q x y z u v w

set_option maxRecDepth 100000 in
theorem hallMirrors_lifted (os : Os) (started : os.Started) (H : Type) (enc : TypeId × Value → H) :
    ReturnsInHanded {} Tryz.checked os 5 .any (Rows.hallMirrorsSpec.pre6 enc Tryz.prog Tryz.f5 Rows.hallMirrorsRow.domain false) (Rows.hallMirrorsSpec.post enc Tryz.prog Tryz.f5 false true false false) :=
  law_lifted (C := Tryz.checked) started own laidOut (by kernel_rfl) Tryz.func5 tabOK tysOK (by kernel_rfl) (by kernel_rfl) rfl (bt := 4) (by kernel_rfl) (by kernel_rfl)
    (fun ds h => by
      have h : ds.length = 3 := h
      match ds, h with
      | [d1, d2, d3], _ => rfl) law5
    (ChangeSpec.witness6 (enc := enc) (C := Tryz.checked) false ⟨#[], #[.agg #[.int .i64 0, .int .i64 0], .agg #[.int .i64 0, .int .i64 0, .int .i64 0], .agg #[.int .i64 0, .int .i64 0, .int .i64 0]], []⟩ 8 (by kernel_rfl) (by kernel_rfl) (by kernel_rfl) (by kernel_rfl))

theorem fIn : Tryz.checked.prog.inPlace 5 = Rows.hallMirrorsRow.inPlace := by kernel_rfl
theorem fUn : Tryz.checked.prog.unfollowed 5 = Rows.hallMirrorsRow.unfollowed := by kernel_rfl
theorem fRe : Tryz.checked.prog.recurses 5 = Rows.hallMirrorsRow.recurses := by kernel_rfl
theorem fNa : Tryz.checked.prog.varsNamed 5 = Rows.hallMirrorsRow.named := by kernel_rfl
theorem fAll : joinedFacts Tryz.checked.prog 5 Tryz.f5 Rows.hallMirrorsSpec Rows.hallMirrorsRow = true := by
  unfold joinedFacts
  rw [fLaid, fMaps, fPlain, fHeard, fMay, fLifts, fMake, fIn, fUn, fRe, fNa]
  kernel_rfl

theorem hallMirrors_holds : Rows.HallMirrorsSaid :=
  OpenClaim.holds_of_wide 5 Tryz.f5 rfl rfl rfl rfl rfl rfl rfl ⟨rfl, rfl, rfl, rfl, rfl⟩ rfl rfl rfl rfl rfl (by kernel_rfl) Tryz.func5 fAll
    (of_decide_eq_true (by kernel_rfl)) (by unfold Func.isWrapper; first | (rw [if_pos (by decide +kernel)]; kernel_rfl) | (rw [if_neg (by decide +kernel)]; exact ⟨rfl, rfl⟩))
    (fun os started H enc _ => hallMirrors_lifted os started H enc)
#print axioms hallMirrors_holds
end Go.Proofs.YtjpmeaagnhojgaaGreat
