/- The law EnergyFlutters returns true at every input: no conditions. -/
import Derived.Test.YtipbliclbihaeaaGreatA8
import Derived.Test.YtipbliclbihaeaaGreatA15
set_option linter.unusedVariables false
set_option linter.unusedSimpArgs false
set_option maxRecDepth 100000
set_option maxHeartbeats 16000000

namespace Go.Proofs.YtipbliclbihaeaaGreat
open Go Go.Sx
theorem law3:∀ cs,WTs (tget tbl) Tryz.f3.params.toList cs->PCall Tryz.prog 3 cs ⟨.bool true,[]⟩:=by
 intro cs h
 have h:WTs (tget tbl) [33,37,39] cs:=h
 match cs,h with
 | [a0,a1,a2],⟨h0,h1,h2,_⟩ =>
  obtain ⟨hh,s,rfl⟩:=Zwy h0
  obtain ⟨a,rfl⟩:=Ydv h1
  obtain ⟨x,y,z,rfl⟩:=Yc7 h2
  exact d3 hh s a x y z
theorem Zdj (os:Os) (started:os.Started) (H:Type) (enc:TypeId × Value->H) :
  ReturnsInHanded {} Tryz.checked os 3 .any (Rows.energyFluttersSpec.pre6 enc Tryz.prog Tryz.f3 Rows.energyFluttersRow.domain false) (Rows.energyFluttersSpec.post enc Tryz.prog Tryz.f3 false true false false) :=
 Zr4 (C:=Tryz.checked) started own Yao (by kernel_rfl) Tryz.func3 Zzy Ybw (by kernel_rfl) (by kernel_rfl) rfl (bt:=4) (by kernel_rfl) (by kernel_rfl)
  (fun ds h=>by
   have h:ds.length=3:=h
   match ds,h with
   | [d0,d1,d2],_=>rfl) law3
  (ChangeSpec.witness6 (enc:=enc) (C:=Tryz.checked) false ⟨#[],#[.agg #[.string ⟨#[]⟩,.int .i64 0,.string ⟨#[]⟩,.string ⟨#[]⟩,.slice none 0 0,.slice none 0 0,.slice none 0 0,.slice none 0 0,.slice none 0 0,.slice none 0 0,.slice none 0 0],.agg #[.int .i64 0,.int .i64 0,.int .i64 0,.int .i64 0,.int .i64 0,.int .i64 0,.int .i64 0],.agg #[.int .i64 0,.int .i64 0,.int .i64 0]],[]⟩ 3 (by kernel_rfl) (by kernel_rfl) (by kernel_rfl) (by kernel_rfl))
theorem fIn:Tryz.checked.prog.inPlace 3=Rows.energyFluttersRow.inPlace:=by kernel_rfl
theorem fUn:Tryz.checked.prog.unfollowed 3=Rows.energyFluttersRow.unfollowed:=by kernel_rfl
theorem fRe:Tryz.checked.prog.recurses 3=Rows.energyFluttersRow.recurses:=by kernel_rfl
theorem fNa:Tryz.checked.prog.varsNamed 3=Rows.energyFluttersRow.named:=by kernel_rfl
theorem fAll:joinedFacts Tryz.checked.prog 3 Tryz.f3 Rows.energyFluttersSpec Rows.energyFluttersRow=true:=by
 unfold joinedFacts
 rw [Yd5,Yd3,Ydb,Yde,fMay,Ydc,Yd4,fIn,fUn,fRe,fNa]
 kernel_rfl
theorem energyFlutters_holds:Rows.EnergyFluttersSaid :=
 OpenClaim.holds_of_wide 3 Tryz.f3 rfl rfl rfl rfl rfl rfl rfl ⟨rfl,rfl,rfl,rfl,rfl⟩ rfl rfl rfl rfl rfl (by kernel_rfl) Tryz.func3 fAll
  (of_decide_eq_true (by kernel_rfl)) (by unfold Func.isWrapper; first|(rw [if_pos (by decide +kernel)]; kernel_rfl)|(rw [if_neg (by decide +kernel)]; exact ⟨rfl,rfl⟩))
  (fun os started H enc _=>Zdj os started H enc)
#print axioms energyFlutters_holds
end Go.Proofs.YtipbliclbihaeaaGreat
