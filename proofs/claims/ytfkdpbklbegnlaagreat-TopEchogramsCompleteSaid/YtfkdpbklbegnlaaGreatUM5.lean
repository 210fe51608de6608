/- The law TopEchogramsComplete returns true at every input: no conditions. -/
import Derived.Test.YtfkdpbklbegnlaaGreatT9
import Derived.Test.YtfkdpbklbegnlaaGreatT16
set_option linter.unusedVariables false
set_option linter.unusedSimpArgs false
set_option maxRecDepth 100000
set_option maxHeartbeats 16000000

namespace Go.Proofs.YtfkdpbklbegnlaaGreat
open Go Go.Sx
theorem law5:∀ cs,WTs (tget tbl) Tryz.f5.params.toList cs->PCall Tryz.prog 5 cs ⟨.bool true,[]⟩:=by
 intro cs h
 have h:WTs (tget tbl) [33,37,62] cs:=h
 match cs,h with
 | [a0,a1,a2],⟨h0,h1,h2,_⟩ =>
  obtain ⟨hh,s,rfl⟩:=Zz8 h0
  obtain ⟨a,rfl⟩:=Yiv h1
  obtain ⟨y0,y1,rfl⟩:=Ygg h2
  exact e5 hh s a y0 y1
theorem Zap (os:Os) (started:os.Started) (H:Type) (enc:TypeId × Value->H) :
  ReturnsInHanded {} Tryz.checked os 5 .any (Rows.topEchogramsCompleteSpec.pre6 enc Tryz.prog Tryz.f5 Rows.topEchogramsCompleteRow.domain false) (Rows.topEchogramsCompleteSpec.post enc Tryz.prog Tryz.f5 false true false false) :=
 Zt6 (C:=Tryz.checked) started own Ye4 (by kernel_rfl) Tryz.func5 Yd2 Ygf (by kernel_rfl) (by kernel_rfl) rfl (bt:=4) (by kernel_rfl) (by kernel_rfl)
  (fun ds h=>by
   have h:ds.length=3:=h
   match ds,h with
   | [d0,d1,d2],_=>rfl) law5
  (ChangeSpec.witness6 (enc:=enc) (C:=Tryz.checked) false ⟨#[],#[.agg #[.string ⟨#[]⟩,.int .i64 0,.string ⟨#[]⟩,.string ⟨#[]⟩,.slice none 0 0,.slice none 0 0,.slice none 0 0,.slice none 0 0,.slice none 0 0,.slice none 0 0,.slice none 0 0],.agg #[.int .i64 0,.int .i64 0,.int .i64 0,.int .i64 0,.int .i64 0,.int .i64 0,.int .i64 0],.agg #[.int .i64 0,.int .i64 0]],[]⟩ 5 (by kernel_rfl) (by kernel_rfl) (by kernel_rfl) (by kernel_rfl))
theorem fIn:Tryz.checked.prog.inPlace 5=Rows.topEchogramsCompleteRow.inPlace:=by kernel_rfl
theorem fUn:Tryz.checked.prog.unfollowed 5=Rows.topEchogramsCompleteRow.unfollowed:=by kernel_rfl
theorem fRe:Tryz.checked.prog.recurses 5=Rows.topEchogramsCompleteRow.recurses:=by kernel_rfl
theorem fNa:Tryz.checked.prog.varsNamed 5=Rows.topEchogramsCompleteRow.named:=by kernel_rfl
theorem fAll:joinedFacts Tryz.checked.prog 5 Tryz.f5 Rows.topEchogramsCompleteSpec Rows.topEchogramsCompleteRow=true:=by
 unfold joinedFacts
 rw [Yjd,Yjb,Yic,Yif,fMay,Yid,Yjc,fIn,fUn,fRe,fNa]
 kernel_rfl
theorem topEchogramsComplete_holds:Rows.TopEchogramsCompleteSaid :=
 OpenClaim.holds_of_wide 5 Tryz.f5 rfl rfl rfl rfl rfl rfl rfl ⟨rfl,rfl,rfl,rfl,rfl⟩ rfl rfl rfl rfl rfl (by kernel_rfl) Tryz.func5 fAll
  (of_decide_eq_true (by kernel_rfl)) (by unfold Func.isWrapper; first|(rw [if_pos (by decide +kernel)]; kernel_rfl)|(rw [if_neg (by decide +kernel)]; exact ⟨rfl,rfl⟩))
  (fun os started H enc _=>Zap os started H enc)
#print axioms topEchogramsComplete_holds
end Go.Proofs.YtfkdpbklbegnlaaGreat
