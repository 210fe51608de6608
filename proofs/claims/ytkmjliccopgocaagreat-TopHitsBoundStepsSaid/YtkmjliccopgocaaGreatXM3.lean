/- The law TopHitsBoundSteps returns true at every input: no conditions. -/
import Derived.Test.YtkmjliccopgocaaGreatZ8
import Derived.Test.YtkmjliccopgocaaGreatZ13
set_option linter.unusedVariables false
set_option linter.unusedSimpArgs false
set_option maxRecDepth 100000
set_option maxHeartbeats 16000000

namespace Go.Proofs.YtkmjliccopgocaaGreat
open Go Go.Sx
theorem law3:∀ cs,WTsB (tget tbl) Tryz.f3.params.toList cs->PCall Tryz.prog 3 cs ⟨.bool true,[]⟩:=by
 intro cs h
 have h:WTsB (tget tbl) [28,32,30] cs:=h
 match cs,h with
 | [a0,a1,a2],⟨h0,h1,h2,_⟩ =>
  obtain ⟨hh,rfl⟩:=Zys (Zuh h0)
  obtain ⟨rows,ls,rfl,b1,b2⟩:=Ya5 h1
  obtain ⟨e,rfl,b3⟩:=Zvf h2
  exact d3 hh b1 b2 b3
theorem Zao (os:Os) (started:os.Started) (H:Type) (enc:TypeId × Value->H) :
  ReturnsInHanded {} Tryz.checked os 3 .any (Rows.topHitsBoundStepsSpec.pre6 enc Tryz.prog Tryz.f3 Rows.topHitsBoundStepsRow.domain false) (Rows.topHitsBoundStepsSpec.post enc Tryz.prog Tryz.f3 false true false false) :=
 Zmx (C:=Tryz.checked) started own Zyk (by kernel_rfl) Tryz.func3 Zxt Zzo (by kernel_rfl) (by kernel_rfl) rfl (bt:=4) (by kernel_rfl) (by kernel_rfl)
  (fun ds h=>by
   have h:ds.length=3:=h
   match ds,h with
   | [d0,d1,d2],_=>rfl) law3
  (ChangeSpec.witness6 (enc:=enc) (C:=Tryz.checked) false ⟨#[],#[.agg #[.string ⟨#[]⟩,.int .i64 0,.string ⟨#[]⟩,.string ⟨#[]⟩,.slice none 0 0,.slice none 0 0,.slice none 0 0,.slice none 0 0,.slice none 0 0],.agg #[.slice none 0 0,.slice none 0 0],.slice none 0 0],[]⟩ 3 (by kernel_rfl) (by kernel_rfl) (by kernel_rfl) (by kernel_rfl))
theorem gIn:Tryz.checked.prog.inPlace 3=Rows.topHitsBoundStepsRow.inPlace:=by kernel_rfl
theorem gUn:Tryz.checked.prog.unfollowed 3=Rows.topHitsBoundStepsRow.unfollowed:=by kernel_rfl
theorem gRe:Tryz.checked.prog.recurses 3=Rows.topHitsBoundStepsRow.recurses:=by kernel_rfl
theorem gNa:Tryz.checked.prog.varsNamed 3=Rows.topHitsBoundStepsRow.named:=by kernel_rfl
theorem gAll:joinedFacts Tryz.checked.prog 3 Tryz.f3 Rows.topHitsBoundStepsSpec Rows.topHitsBoundStepsRow=true:=by
 unfold joinedFacts
 rw [Ycf,Ycd,Ya1,Ya4,fMay,Ya2,Yce,gIn,gUn,gRe,gNa]
 kernel_rfl
theorem topHitsBoundSteps_holds:Rows.TopHitsBoundStepsSaid :=
 OpenClaim.holds_of_wide 3 Tryz.f3 rfl rfl rfl rfl rfl rfl rfl ⟨rfl,rfl,rfl,rfl,rfl⟩ rfl rfl rfl rfl rfl (by kernel_rfl) Tryz.func3 gAll
  (of_decide_eq_true (by kernel_rfl)) (by unfold Func.isWrapper; first|(rw [if_pos (by decide +kernel)]; kernel_rfl)|(rw [if_neg (by decide +kernel)]; exact ⟨rfl,rfl⟩))
  (fun os started H enc _=>Zao os started H enc)
#print axioms topHitsBoundSteps_holds
end Go.Proofs.YtkmjliccopgocaaGreat
