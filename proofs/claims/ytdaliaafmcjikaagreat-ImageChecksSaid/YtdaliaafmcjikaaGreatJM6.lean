/- The law ImageChecks returns true at every input: no conditions. -/
import Derived.Test.YtdaliaafmcjikaaGreatY11
import Derived.Test.YtdaliaafmcjikaaGreatY15
set_option linter.unusedVariables false
set_option linter.unusedSimpArgs false

namespace Go.Proofs.YtdaliaafmcjikaaGreat
open Go Go.Sx
theorem law6 : ∀ cs, WTs (tget tbl) Tryz.f6.params.toList cs -> PCall Tryz.prog 6 cs ⟨.bool true, []⟩ := by
 intro cs h
 have h : WTs (tget tbl) [33, 37, 42] cs := h
 match cs, h with
 | [a0, a1, a2], ⟨h0, h1, h2, _⟩ =>
  obtain ⟨hh, s, rfl⟩ := Zp5 h0
  obtain ⟨a, rfl⟩ := Zz7 h1
  obtain ⟨p, rfl⟩ := Yav h2
  exact d6 Zrk hh s a p
set_option maxRecDepth 100000 in
theorem Zfo (os : Os) (started : os.Started) (H : Type) (enc : TypeId × Value -> H) :
  ReturnsInHanded {} Tryz.checked os 6 .any (Rows.imageChecksSpec.pre6 enc Tryz.prog Tryz.f6 Rows.imageChecksRow.domain false) (Rows.imageChecksSpec.post enc Tryz.prog Tryz.f6 false true false false) :=
 Zkd (C := Tryz.checked) started own Zua (by kernel_rfl) Tryz.func6 Zte Ycc (by kernel_rfl) (by kernel_rfl) rfl (bt := 4) (by kernel_rfl) (by kernel_rfl)
  (fun ds h => by
   have h : ds.length = 3 := h
   match ds, h with
   | [d0, d1, d2], _ => rfl) law6
  (ChangeSpec.witness6 (enc := enc) (C := Tryz.checked) false ⟨#[], #[.agg #[.string ⟨#[]⟩, .int .i64 0, .string ⟨#[]⟩, .string ⟨#[]⟩, .slice none 0 0, .slice none 0 0, .slice none 0 0, .slice none 0 0, .slice none 0 0, .slice none 0 0, .slice none 0 0], .agg #[.int .i64 0, .int .i64 0, .int .i64 0, .int .i64 0, .int .i64 0, .int .i64 0, .int .i64 0], .agg #[.slice none 0 0, .slice none 0 0, .int .i64 0]], []⟩ 6 (by kernel_rfl) (by kernel_rfl) (by kernel_rfl) (by kernel_rfl))
theorem fIn : Tryz.checked.prog.inPlace 6 = Rows.imageChecksRow.inPlace := by kernel_rfl
theorem fUn : Tryz.checked.prog.unfollowed 6 = Rows.imageChecksRow.unfollowed := by kernel_rfl
theorem fRe : Tryz.checked.prog.recurses 6 = Rows.imageChecksRow.recurses := by kernel_rfl
theorem fNa : Tryz.checked.prog.varsNamed 6 = Rows.imageChecksRow.named := by kernel_rfl
theorem fAll : joinedFacts Tryz.checked.prog 6 Tryz.f6 Rows.imageChecksSpec Rows.imageChecksRow = true := by
 unfold joinedFacts
 rw [Ydq, Ydo, Zzw, Zzz, fMay, Zzy, Ydp, fIn, fUn, fRe, fNa]
 kernel_rfl
theorem imageChecks_holds : Rows.ImageChecksSaid :=
 OpenClaim.holds_of_wide 6 Tryz.f6 rfl rfl rfl rfl rfl rfl rfl ⟨rfl, rfl, rfl, rfl, rfl⟩ rfl rfl rfl rfl rfl (by kernel_rfl) Tryz.func6 fAll
  (of_decide_eq_true (by kernel_rfl)) (by unfold Func.isWrapper; first | (rw [if_pos (by decide +kernel)]; kernel_rfl) | (rw [if_neg (by decide +kernel)]; exact ⟨rfl, rfl⟩))
  (fun os started H enc _ => Zfo os started H enc)
#print axioms imageChecks_holds
end Go.Proofs.YtdaliaafmcjikaaGreat
