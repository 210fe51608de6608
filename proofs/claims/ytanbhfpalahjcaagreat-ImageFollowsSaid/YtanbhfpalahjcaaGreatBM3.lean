/- The law ImageFollows returns true at every input: no conditions. -/
import Derived.Test.YtanbhfpalahjcaaGreatA10
import Derived.Test.YtanbhfpalahjcaaGreatA12
set_option linter.unusedVariables false
set_option linter.unusedSimpArgs false
set_option maxRecDepth 100000
set_option maxHeartbeats 16000000

namespace Go.Proofs.YtanbhfpalahjcaaGreat
open Go Go.Sx
theorem law3:∀ cs,WTs (tget tbl) Tryz.f3.params.toList cs->PCall Tryz.prog 3 cs ⟨.bool true,[]⟩:=by
 intro cs h
 have h:WTs (tget tbl) [28,30,31] cs:=h
 match cs,h with
 | [a0,a1,a2],⟨h0,h1,h2,_⟩ =>
  obtain ⟨hh,rfl⟩:=Zw6 h0
  obtain ⟨x,y,rfl⟩:=Zxi h1
  obtain ⟨a,b,n,rfl,ha,hb,_⟩:=Zrv h2
  exact d3 hh x y a b n ha hb
theorem Zdp (os:Os) (started:os.Started) (H:Type) (enc:TypeId × Value->H) :
  ReturnsInHanded {} Tryz.checked os 3 .any (Rows.imageFollowsSpec.pre6 enc Tryz.prog Tryz.f3 Rows.imageFollowsRow.domain false) (Rows.imageFollowsSpec.post enc Tryz.prog Tryz.f3 false true false false) :=
 Znz (C:=Tryz.checked) started own Zvm (by kernel_rfl) Tryz.func3 Zry Zv5 (by kernel_rfl) (by kernel_rfl) rfl (bt:=4) (by kernel_rfl) (by kernel_rfl)
  (fun ds h=>by
   have h:ds.length=3:=h
   match ds,h with
   | [d0,d1,d2],_=>rfl) law3
  (ChangeSpec.witness6 (enc:=enc) (C:=Tryz.checked) false ⟨#[],#[.agg #[.string ⟨#[]⟩,.int .i64 0,.string ⟨#[]⟩,.string ⟨#[]⟩,.slice none 0 0,.slice none 0 0,.slice none 0 0,.slice none 0 0,.slice none 0 0],.agg #[.int .i64 0,.int .i64 0],.agg #[.int .i64 0,.int .i64 0,.int .i64 0]],[]⟩ 3 (by kernel_rfl) (by kernel_rfl) (by kernel_rfl) (by kernel_rfl))
theorem fIn:Tryz.checked.prog.inPlace 3=Rows.imageFollowsRow.inPlace:=by kernel_rfl
theorem fUn:Tryz.checked.prog.unfollowed 3=Rows.imageFollowsRow.unfollowed:=by kernel_rfl
theorem fRe:Tryz.checked.prog.recurses 3=Rows.imageFollowsRow.recurses:=by kernel_rfl
theorem fNa:Tryz.checked.prog.varsNamed 3=Rows.imageFollowsRow.named:=by kernel_rfl
theorem fAll:joinedFacts Tryz.checked.prog 3 Tryz.f3 Rows.imageFollowsSpec Rows.imageFollowsRow=true:=by
 unfold joinedFacts
 rw [Zx8,Zx6,Zxa,Zxd,fMay,Zxb,Zx7,fIn,fUn,fRe,fNa]
 kernel_rfl
theorem imageFollows_holds:Rows.ImageFollowsSaid :=
 OpenClaim.holds_of_wide 3 Tryz.f3 rfl rfl rfl rfl rfl rfl rfl ⟨rfl,rfl,rfl,rfl,rfl⟩ rfl rfl rfl rfl rfl (by kernel_rfl) Tryz.func3 fAll
  (of_decide_eq_true (by kernel_rfl)) (by unfold Func.isWrapper; first|(rw [if_pos (by decide +kernel)]; kernel_rfl)|(rw [if_neg (by decide +kernel)]; exact ⟨rfl,rfl⟩))
  (fun os started H enc _=>Zdp os started H enc)
#print axioms imageFollows_holds
end Go.Proofs.YtanbhfpalahjcaaGreat
