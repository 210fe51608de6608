/- The law EnergyEchograms returns true at every input: no conditions. -/
import Derived.Test.YtfkdpbklbegnlaaGreatZ9
import Derived.Test.YtfkdpbklbegnlaaGreatZ17
import Derived.Test.YtfkdpbklbegnlaaGreatZ18
set_option linter.unusedVariables false
set_option linter.unusedSimpArgs false
set_option maxRecDepth 100000
set_option maxHeartbeats 16000000

namespace Go.Proofs.YtfkdpbklbegnlaaGreat
open Go Go.Sx
theorem law3:∀ cs,WTs (tget tbl) Tryz.f3.params.toList cs->PCall Tryz.prog 3 cs ⟨.bool true,[]⟩:=by
 intro cs h
 have h:WTs (tget tbl) [33,37,39] cs:=h
 match cs,h with
 | [a0,a1,a2],⟨h0,h1,h2,_⟩ =>
  obtain ⟨hh,s,rfl⟩:=Ybo h0
  obtain ⟨a,rfl⟩:=Yj9 h1
  obtain ⟨x,y,z,rfl⟩:=Yjh h2
  exact e3 hh s a x y z
theorem Zd5 (os:Os) (started:os.Started) (H:Type) (enc:TypeId × Value->H) :
  ReturnsInHanded {} Tryz.checked os 3 .any (Rows.energyEchogramsSpec.pre6 enc Tryz.prog Tryz.f3 Rows.energyEchogramsRow.domain false) (Rows.energyEchogramsSpec.post enc Tryz.prog Tryz.f3 false true false false) :=
 Zv3 (C:=Tryz.checked) started own Yge (by kernel_rfl) Tryz.func3 Yfa Yhp (by kernel_rfl) (by kernel_rfl) rfl (bt:=4) (by kernel_rfl) (by kernel_rfl)
  (fun ds h=>by
   have h:ds.length=3:=h
   match ds,h with
   | [d0,d1,d2],_=>rfl) law3
  (ChangeSpec.witness6 (enc:=enc) (C:=Tryz.checked) false ⟨#[],#[.agg #[.string ⟨#[]⟩,.int .i64 0,.string ⟨#[]⟩,.string ⟨#[]⟩,.slice none 0 0,.slice none 0 0,.slice none 0 0,.slice none 0 0,.slice none 0 0,.slice none 0 0,.slice none 0 0],.agg #[.int .i64 0,.int .i64 0,.int .i64 0,.int .i64 0,.int .i64 0,.int .i64 0,.int .i64 0],.agg #[.int .i64 0,.int .i64 0,.int .i64 0]],[]⟩ 3 (by kernel_rfl) (by kernel_rfl) (by kernel_rfl) (by kernel_rfl))
theorem gIn:Tryz.checked.prog.inPlace 3=Rows.energyEchogramsRow.inPlace:=by kernel_rfl
theorem gUn:Tryz.checked.prog.unfollowed 3=Rows.energyEchogramsRow.unfollowed:=by kernel_rfl
theorem gRe:Tryz.checked.prog.recurses 3=Rows.energyEchogramsRow.recurses:=by kernel_rfl
theorem gNa:Tryz.checked.prog.varsNamed 3=Rows.energyEchogramsRow.named:=by kernel_rfl
theorem gAll:joinedFacts Tryz.checked.prog 3 Tryz.f3 Rows.energyEchogramsSpec Rows.energyEchogramsRow=true:=by
 unfold joinedFacts
 rw [Ykn,Ykl,Yjl,Yjo,fMay,Yjm,Ykm,gIn,gUn,gRe,gNa]
 kernel_rfl
theorem energyEchograms_holds:Rows.EnergyEchogramsSaid :=
 OpenClaim.holds_of_wide 3 Tryz.f3 rfl rfl rfl rfl rfl rfl rfl ⟨rfl,rfl,rfl,rfl,rfl⟩ rfl rfl rfl rfl rfl (by kernel_rfl) Tryz.func3 gAll
  (of_decide_eq_true (by kernel_rfl)) (by unfold Func.isWrapper; first|(rw [if_pos (by decide +kernel)]; kernel_rfl)|(rw [if_neg (by decide +kernel)]; exact ⟨rfl,rfl⟩))
  (fun os started H enc _=>Zd5 os started H enc)
#print axioms energyEchograms_holds
end Go.Proofs.YtfkdpbklbegnlaaGreat
