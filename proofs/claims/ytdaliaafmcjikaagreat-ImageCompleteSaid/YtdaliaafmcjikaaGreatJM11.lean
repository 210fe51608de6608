/- The law ImageComplete returns true at every input: no conditions. -/
import Derived.Test.YtdaliaafmcjikaaGreatX12
import Derived.Test.YtdaliaafmcjikaaGreatX15
set_option linter.unusedVariables false
set_option linter.unusedSimpArgs false

namespace Go.Proofs.YtdaliaafmcjikaaGreat
open Go Go.Sx
theorem Yft : ∀ cs, WTs (tget tbl) Tryz.f11.params.toList cs -> PCall Tryz.prog 11 cs ⟨.bool true, []⟩ := by
 intro cs h
 have h : WTs (tget tbl) [33, 37, 29] cs := h
 match cs, h with
 | [a0, a1, a2], ⟨h0, h1, h2, _⟩ =>
  obtain ⟨hh, s, rfl⟩ := Zx2 h0
  obtain ⟨a, rfl⟩ := Yfg h1
  obtain ⟨l, rfl⟩ := Ycn h2
  exact d11 Zzr hh s a l
set_option maxRecDepth 100000 in
theorem Zd9 (os : Os) (started : os.Started) (H : Type) (enc : TypeId × Value -> H) :
  ReturnsInHanded {} Tryz.checked os 11 .any (Rows.imageCompleteSpec.pre6 enc Tryz.prog Tryz.f11 Rows.imageCompleteRow.domain false) (Rows.imageCompleteSpec.post enc Tryz.prog Tryz.f11 false true false false) :=
 Zss (C := Tryz.checked) started own Yce (by kernel_rfl) Tryz.func11 Zxy Ydh (by kernel_rfl) (by kernel_rfl) rfl (bt := 4) (by kernel_rfl) (by kernel_rfl)
  (fun ds h => by
   have h : ds.length = 3 := h
   match ds, h with
   | [d0, d1, d2], _ => rfl) Yft
  (ChangeSpec.witness6 (enc := enc) (C := Tryz.checked) false ⟨#[], #[.agg #[.string ⟨#[]⟩, .int .i64 0, .string ⟨#[]⟩, .string ⟨#[]⟩, .slice none 0 0, .slice none 0 0, .slice none 0 0, .slice none 0 0, .slice none 0 0, .slice none 0 0, .slice none 0 0], .agg #[.int .i64 0, .int .i64 0, .int .i64 0, .int .i64 0, .int .i64 0, .int .i64 0, .int .i64 0], .slice none 0 0], []⟩ 11 (by kernel_rfl) (by kernel_rfl) (by kernel_rfl) (by kernel_rfl))
theorem fIn : Tryz.checked.prog.inPlace 11 = Rows.imageCompleteRow.inPlace := by kernel_rfl
theorem fUn : Tryz.checked.prog.unfollowed 11 = Rows.imageCompleteRow.unfollowed := by kernel_rfl
theorem fRe : Tryz.checked.prog.recurses 11 = Rows.imageCompleteRow.recurses := by kernel_rfl
theorem fNa : Tryz.checked.prog.varsNamed 11 = Rows.imageCompleteRow.named := by kernel_rfl
theorem fAll : joinedFacts Tryz.checked.prog 11 Tryz.f11 Rows.imageCompleteSpec Rows.imageCompleteRow = true := by
 unfold joinedFacts
 rw [Yfy, Yfw, Yez, Ye2, fMay, Ye0, Yfx, fIn, fUn, fRe, fNa]
 kernel_rfl
theorem imageComplete_holds : Rows.ImageCompleteSaid :=
 OpenClaim.holds_of_wide 11 Tryz.f11 rfl rfl rfl rfl rfl rfl rfl ⟨rfl, rfl, rfl, rfl, rfl⟩ rfl rfl rfl rfl rfl (by kernel_rfl) Tryz.func11 fAll
  (of_decide_eq_true (by kernel_rfl)) (by unfold Func.isWrapper; first | (rw [if_pos (by decide +kernel)]; kernel_rfl) | (rw [if_neg (by decide +kernel)]; exact ⟨rfl, rfl⟩))
  (fun os started H enc _ => Zd9 os started H enc)
#print axioms imageComplete_holds
end Go.Proofs.YtdaliaafmcjikaaGreat
