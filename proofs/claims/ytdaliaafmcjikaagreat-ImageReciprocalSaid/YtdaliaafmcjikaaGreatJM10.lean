/- The law ImageReciprocal returns true at every input: no conditions. -/
import Derived.Test.YtdaliaafmcjikaaGreatV11
import Derived.Test.YtdaliaafmcjikaaGreatV14
set_option linter.unusedVariables false
set_option linter.unusedSimpArgs false

namespace Go.Proofs.YtdaliaafmcjikaaGreat
open Go Go.Sx
theorem Yht : ∀ cs,WTs (tget tbl) Tryz.f10.params.toList cs -> PCall Tryz.prog 10 cs ⟨.bool true,[]⟩ := by
 intro cs h
 have h : WTs (tget tbl) [33,37] cs := h
 match cs,h with
 | [a0,a1],⟨h0,h1,_⟩ =>
  obtain ⟨hh,s,rfl⟩ := Zzl h0
  obtain ⟨a,rfl⟩ := Yhi h1
  exact d10 Ybd hh s a
set_option maxRecDepth 100000 in
theorem Zda (os : Os) (started : os.Started) (H : Type) (enc : TypeId × Value -> H) :
  ReturnsInHanded {} Tryz.checked os 10 .any (Rows.imageReciprocalSpec.pre6 enc Tryz.prog Tryz.f10 Rows.imageReciprocalRow.domain false) (Rows.imageReciprocalSpec.post enc Tryz.prog Tryz.f10 false true false false) :=
 Zt5 (C := Tryz.checked) started own Yeb (by kernel_rfl) Tryz.func10 Zzf Yff (by kernel_rfl) (by kernel_rfl) rfl (bt := 4) (by kernel_rfl) (by kernel_rfl)
  (fun ds h => by
   have h : ds.length = 2 := h
   match ds,h with
   | [d0,d1],_ => rfl) Yht
  (ChangeSpec.witness6 (enc := enc) (C := Tryz.checked) false ⟨#[],#[.agg #[.string ⟨#[]⟩,.int .i64 0,.string ⟨#[]⟩,.string ⟨#[]⟩,.slice none 0 0,.slice none 0 0,.slice none 0 0,.slice none 0 0,.slice none 0 0,.slice none 0 0,.slice none 0 0],.agg #[.int .i64 0,.int .i64 0,.int .i64 0,.int .i64 0,.int .i64 0,.int .i64 0,.int .i64 0]],[]⟩ 10 (by kernel_rfl) (by kernel_rfl) (by kernel_rfl) (by kernel_rfl))
theorem fIn : Tryz.checked.prog.inPlace 10 = Rows.imageReciprocalRow.inPlace := by kernel_rfl
theorem fUn : Tryz.checked.prog.unfollowed 10 = Rows.imageReciprocalRow.unfollowed := by kernel_rfl
theorem fRe : Tryz.checked.prog.recurses 10 = Rows.imageReciprocalRow.recurses := by kernel_rfl
theorem fNa : Tryz.checked.prog.varsNamed 10 = Rows.imageReciprocalRow.named := by kernel_rfl
theorem fAll : joinedFacts Tryz.checked.prog 10 Tryz.f10 Rows.imageReciprocalSpec Rows.imageReciprocalRow = true := by
 unfold joinedFacts
 rw [Yhy,Yhw,Ygy,Yg1,fMay,Ygz,Yhx,fIn,fUn,fRe,fNa]
 kernel_rfl
theorem imageReciprocal_holds : Rows.ImageReciprocalSaid :=
 OpenClaim.holds_of_wide 10 Tryz.f10 rfl rfl rfl rfl rfl rfl rfl ⟨rfl,rfl,rfl,rfl,rfl⟩ rfl rfl rfl rfl rfl (by kernel_rfl) Tryz.func10 fAll
  (of_decide_eq_true (by kernel_rfl)) (by unfold Func.isWrapper; first | (rw [if_pos (by decide +kernel)]; kernel_rfl) | (rw [if_neg (by decide +kernel)]; exact ⟨rfl,rfl⟩))
  (fun os started H enc _ => Zda os started H enc)
#print axioms imageReciprocal_holds
end Go.Proofs.YtdaliaafmcjikaaGreat
