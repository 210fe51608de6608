/- The law TopSeatsSeen returns true at every input: no conditions. -/
import Derived.Test.YtdmidbkelinnjaaGreatA12
import Derived.Test.YtdmidbkelinnjaaGreatA15
set_option linter.unusedVariables false
set_option linter.unusedSimpArgs false
set_option maxRecDepth 100000
set_option maxHeartbeats 16000000

namespace Go.Proofs.YtdmidbkelinnjaaGreat
open Go Go.Sx
theorem law3:∀ cs,WTs (tget tbl) Tryz.f3.params.toList cs->PCall Tryz.prog 3 cs ⟨.bool true,[]⟩:=by
 intro cs h
 have h:WTs (tget tbl) [33,35] cs:=h
 match cs,h with
 | [a0,a1],⟨h0,h1,_⟩ =>
  obtain ⟨hh,s,rfl⟩:=Zxk h0
  obtain ⟨x,y,z,rfl⟩:=Ydq h1
  exact d3 hh s x y z
theorem Zev (os:Os) (started:os.Started) (H:Type) (enc:TypeId × Value->H) :
  ReturnsInHanded {} Tryz.checked os 3 .any (Rows.topSeatsSeenSpec.pre6 enc Tryz.prog Tryz.f3 Rows.topSeatsSeenRow.domain false) (Rows.topSeatsSeenSpec.post enc Tryz.prog Tryz.f3 false true false false) :=
 Zsb (C:=Tryz.checked) started own Yby (by kernel_rfl) Tryz.func3 Zxf Yc3 (by kernel_rfl) (by kernel_rfl) rfl (bt:=4) (by kernel_rfl) (by kernel_rfl)
  (fun ds h=>by
   have h:ds.length=2:=h
   match ds,h with
   | [d0,d1],_=>rfl) law3
  (ChangeSpec.witness6 (enc:=enc) (C:=Tryz.checked) false ⟨#[],#[.agg #[.string ⟨#[]⟩,.int .i64 0,.string ⟨#[]⟩,.string ⟨#[]⟩,.slice none 0 0,.slice none 0 0,.slice none 0 0,.slice none 0 0,.slice none 0 0,.slice none 0 0,.slice none 0 0],.agg #[.int .i64 0,.int .i64 0,.int .i64 0]],[]⟩ 3 (by kernel_rfl) (by kernel_rfl) (by kernel_rfl) (by kernel_rfl))
theorem fIn:Tryz.checked.prog.inPlace 3=Rows.topSeatsSeenRow.inPlace:=by kernel_rfl
theorem fUn:Tryz.checked.prog.unfollowed 3=Rows.topSeatsSeenRow.unfollowed:=by kernel_rfl
theorem fRe:Tryz.checked.prog.recurses 3=Rows.topSeatsSeenRow.recurses:=by kernel_rfl
theorem fNa:Tryz.checked.prog.varsNamed 3=Rows.topSeatsSeenRow.named:=by kernel_rfl
theorem fAll:joinedFacts Tryz.checked.prog 3 Tryz.f3 Rows.topSeatsSeenSpec Rows.topSeatsSeenRow=true:=by
 unfold joinedFacts
 rw [Yfd,Yfb,Yej,Yem,fMay,Yek,Yfc,fIn,fUn,fRe,fNa]
 kernel_rfl
theorem topSeatsSeen_holds:Rows.TopSeatsSeenSaid :=
 OpenClaim.holds_of_wide 3 Tryz.f3 rfl rfl rfl rfl rfl rfl rfl ⟨rfl,rfl,rfl,rfl,rfl⟩ rfl rfl rfl rfl rfl (by kernel_rfl) Tryz.func3 fAll
  (of_decide_eq_true (by kernel_rfl)) (by unfold Func.isWrapper; first|(rw [if_pos (by decide +kernel)]; kernel_rfl)|(rw [if_neg (by decide +kernel)]; exact ⟨rfl,rfl⟩))
  (fun os started H enc _=>Zev os started H enc)
#print axioms topSeatsSeen_holds
end Go.Proofs.YtdmidbkelinnjaaGreat
