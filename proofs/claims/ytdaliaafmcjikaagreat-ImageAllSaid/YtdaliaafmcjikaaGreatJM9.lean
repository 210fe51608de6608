/- The law ImageAll returns true at every input: no conditions. -/
import Derived.Test.YtdaliaafmcjikaaGreatV12
import Derived.Test.YtdaliaafmcjikaaGreatV17
set_option linter.unusedVariables false
set_option linter.unusedSimpArgs false
set_option maxRecDepth 100000
set_option maxHeartbeats 16000000

namespace Go.Proofs.YtdaliaafmcjikaaGreat
open Go Go.Sx
theorem law9:∀ cs,WTs (tget tbl) Tryz.f9.params.toList cs->PCall Tryz.prog 9 cs ⟨.bool true,[]⟩:=by
 intro cs h
 have h:WTs (tget tbl) [33,37] cs:=h
 match cs,h with
 | [a0,a1],⟨h0,h1,_⟩ =>
  obtain ⟨hh,s,rfl⟩:=Zz4 h0
  obtain ⟨a,rfl⟩:=Yhz h1
  exact d9 Ybx hh s a
theorem Zkf (os:Os) (started:os.Started) (H:Type) (enc:TypeId × Value->H) :
  ReturnsInHanded {} Tryz.checked os 9 .any (Rows.imageAllSpec.pre6 enc Tryz.prog Tryz.f9 Rows.imageAllRow.domain false) (Rows.imageAllSpec.post enc Tryz.prog Tryz.f9 false true false false) :=
 Zut (C:=Tryz.checked) started own Yep (by kernel_rfl) Tryz.func9 Zzy Yfx (by kernel_rfl) (by kernel_rfl) rfl (bt:=4) (by kernel_rfl) (by kernel_rfl)
  (fun ds h=>by
   have h:ds.length=2:=h
   match ds,h with
   | [d0,d1],_=>rfl) law9
  (ChangeSpec.witness6 (enc:=enc) (C:=Tryz.checked) false ⟨#[],#[.agg #[.string ⟨#[]⟩,.int .i64 0,.string ⟨#[]⟩,.string ⟨#[]⟩,.slice none 0 0,.slice none 0 0,.slice none 0 0,.slice none 0 0,.slice none 0 0,.slice none 0 0,.slice none 0 0],.agg #[.int .i64 0,.int .i64 0,.int .i64 0,.int .i64 0,.int .i64 0,.int .i64 0,.int .i64 0]],[]⟩ 9 (by kernel_rfl) (by kernel_rfl) (by kernel_rfl) (by kernel_rfl))
theorem fIn:Tryz.checked.prog.inPlace 9=Rows.imageAllRow.inPlace:=by kernel_rfl
theorem fUn:Tryz.checked.prog.unfollowed 9=Rows.imageAllRow.unfollowed:=by kernel_rfl
theorem fRe:Tryz.checked.prog.recurses 9=Rows.imageAllRow.recurses:=by kernel_rfl
theorem fNa:Tryz.checked.prog.varsNamed 9=Rows.imageAllRow.named:=by kernel_rfl
theorem fAll:joinedFacts Tryz.checked.prog 9 Tryz.f9 Rows.imageAllSpec Rows.imageAllRow=true:=by
 unfold joinedFacts
 rw [Yif,Yid,Yhe,Yhh,fMay,Yhf,Yie,fIn,fUn,fRe,fNa]
 kernel_rfl
theorem imageAll_holds:Rows.ImageAllSaid :=
 OpenClaim.holds_of_wide 9 Tryz.f9 rfl rfl rfl rfl rfl rfl rfl ⟨rfl,rfl,rfl,rfl,rfl⟩ rfl rfl rfl rfl rfl (by kernel_rfl) Tryz.func9 fAll
  (of_decide_eq_true (by kernel_rfl)) (by unfold Func.isWrapper; first|(rw [if_pos (by decide +kernel)]; kernel_rfl)|(rw [if_neg (by decide +kernel)]; exact ⟨rfl,rfl⟩))
  (fun os started H enc _=>Zkf os started H enc)
#print axioms imageAll_holds
end Go.Proofs.YtdaliaafmcjikaaGreat
