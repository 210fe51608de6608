/- The law EnergyBothWays returns true at every input: no conditions. -/
import Derived.Test.YtfkdpbklbegnlaaGreatV9
import Derived.Test.YtfkdpbklbegnlaaGreatV16
set_option linter.unusedVariables false
set_option linter.unusedSimpArgs false
set_option maxRecDepth 100000
set_option maxHeartbeats 16000000

namespace Go.Proofs.YtfkdpbklbegnlaaGreat
open Go Go.Sx
theorem law4:∀ cs,WTs (tget tbl) Tryz.f4.params.toList cs->PCall Tryz.prog 4 cs ⟨.bool true,[]⟩:=by
 intro cs h
 have h:WTs (tget tbl) [33,37,39] cs:=h
 match cs,h with
 | [a0,a1,a2],⟨h0,h1,h2,_⟩ =>
  obtain ⟨hh,s,rfl⟩:=Yaq h0
  obtain ⟨a,rfl⟩:=Yim h1
  obtain ⟨x,y,z,rfl⟩:=Yh2 h2
  exact e4 hh s a x y z
theorem Zed (os:Os) (started:os.Started) (H:Type) (enc:TypeId × Value->H) :
  ReturnsInHanded {} Tryz.checked os 4 .any (Rows.energyBothWaysSpec.pre6 enc Tryz.prog Tryz.f4 Rows.energyBothWaysRow.domain false) (Rows.energyBothWaysSpec.post enc Tryz.prog Tryz.f4 false true false false) :=
 Zuw (C:=Tryz.checked) started own Yfd (by kernel_rfl) Tryz.func4 Yef Ygg (by kernel_rfl) (by kernel_rfl) rfl (bt:=4) (by kernel_rfl) (by kernel_rfl)
  (fun ds h=>by
   have h:ds.length=3:=h
   match ds,h with
   | [d0,d1,d2],_=>rfl) law4
  (ChangeSpec.witness6 (enc:=enc) (C:=Tryz.checked) false ⟨#[],#[.agg #[.string ⟨#[]⟩,.int .i64 0,.string ⟨#[]⟩,.string ⟨#[]⟩,.slice none 0 0,.slice none 0 0,.slice none 0 0,.slice none 0 0,.slice none 0 0,.slice none 0 0,.slice none 0 0],.agg #[.int .i64 0,.int .i64 0,.int .i64 0,.int .i64 0,.int .i64 0,.int .i64 0,.int .i64 0],.agg #[.int .i64 0,.int .i64 0,.int .i64 0]],[]⟩ 3 (by kernel_rfl) (by kernel_rfl) (by kernel_rfl) (by kernel_rfl))
theorem fIn:Tryz.checked.prog.inPlace 4=Rows.energyBothWaysRow.inPlace:=by kernel_rfl
theorem fUn:Tryz.checked.prog.unfollowed 4=Rows.energyBothWaysRow.unfollowed:=by kernel_rfl
theorem fRe:Tryz.checked.prog.recurses 4=Rows.energyBothWaysRow.recurses:=by kernel_rfl
theorem fNa:Tryz.checked.prog.varsNamed 4=Rows.energyBothWaysRow.named:=by kernel_rfl
theorem fAll:joinedFacts Tryz.checked.prog 4 Tryz.f4 Rows.energyBothWaysSpec Rows.energyBothWaysRow=true:=by
 unfold joinedFacts
 rw [Yiz,Yix,Yh4,Yh7,fMay,Yh5,Yiy,fIn,fUn,fRe,fNa]
 kernel_rfl
theorem energyBothWays_holds:Rows.EnergyBothWaysSaid :=
 OpenClaim.holds_of_wide 4 Tryz.f4 rfl rfl rfl rfl rfl rfl rfl ⟨rfl,rfl,rfl,rfl,rfl⟩ rfl rfl rfl rfl rfl (by kernel_rfl) Tryz.func4 fAll
  (of_decide_eq_true (by kernel_rfl)) (by unfold Func.isWrapper; first|(rw [if_pos (by decide +kernel)]; kernel_rfl)|(rw [if_neg (by decide +kernel)]; exact ⟨rfl,rfl⟩))
  (fun os started H enc _=>Zed os started H enc)
#print axioms energyBothWays_holds
end Go.Proofs.YtfkdpbklbegnlaaGreat
