/- The law TopBoxLattice returns true at every input: no conditions. -/
import Derived.Test.YtohjcchcladneaaGreatQ10
import Derived.Test.YtohjcchcladneaaGreatQ13
set_option linter.unusedVariables false
set_option linter.unusedSimpArgs false
set_option maxRecDepth 100000
set_option maxHeartbeats 16000000

namespace Go.Proofs.YtohjcchcladneaaGreat
open Go Go.Sx
theorem law3:∀ cs,WTs (tget tbl) Tryz.f3.params.toList cs->PCall Tryz.prog 3 cs ⟨.bool true,[]⟩:=by
 intro cs h
 have h:WTs (tget tbl) [24,3,3] cs:=h
 match cs,h with
 | [a0,a1,a2],⟨h0,h1,h2,_⟩ =>
  obtain ⟨s0,s1,s2,f0,f1,f2,t0,t1,t2,rfl⟩:=Ydy h0
  obtain ⟨u,rfl⟩:=Zyi h1
  obtain ⟨v,rfl⟩:=Zyi h2
  exact e3 s0 s1 s2 f0 f1 f2 t0 t1 t2 u v
theorem Zc3 (os:Os) (started:os.Started) (H:Type) (enc:TypeId × Value->H) :
  ReturnsInHanded {} Tryz.checked os 3 .any (Rows.topBoxLatticeSpec.pre6 enc Tryz.prog Tryz.f3 Rows.topBoxLatticeRow.domain false) (Rows.topBoxLatticeSpec.post enc Tryz.prog Tryz.f3 false true false false) :=
 Zqc (C:=Tryz.checked) started own Yaa (by kernel_rfl) Tryz.func3 Zvi Ybt (by kernel_rfl) (by kernel_rfl) rfl (bt:=4) (by kernel_rfl) (by kernel_rfl)
  (fun ds h=>by
   have h:ds.length=3:=h
   match ds,h with
   | [d0,d1,d2],_=>rfl) law3
  (ChangeSpec.witness6 (enc:=enc) (C:=Tryz.checked) false ⟨#[],#[.agg #[.int .i64 0,.int .i64 0,.int .i64 0,.int .i64 0,.int .i64 0,.int .i64 0,.int .i64 0,.int .i64 0,.int .i64 0],.int .i64 0,.int .i64 0],[]⟩ 3 (by kernel_rfl) (by kernel_rfl) (by kernel_rfl) (by kernel_rfl))
theorem fIn:Tryz.checked.prog.inPlace 3=Rows.topBoxLatticeRow.inPlace:=by kernel_rfl
theorem fUn:Tryz.checked.prog.unfollowed 3=Rows.topBoxLatticeRow.unfollowed:=by kernel_rfl
theorem fRe:Tryz.checked.prog.recurses 3=Rows.topBoxLatticeRow.recurses:=by kernel_rfl
theorem fNa:Tryz.checked.prog.varsNamed 3=Rows.topBoxLatticeRow.named:=by kernel_rfl
theorem fAll:joinedFacts Tryz.checked.prog 3 Tryz.f3 Rows.topBoxLatticeSpec Rows.topBoxLatticeRow=true:=by
 unfold joinedFacts
 rw [Yd2,Yd0,Yc2,Yc5,fMay,Yc3,Yd1,fIn,fUn,fRe,fNa]
 kernel_rfl
theorem topBoxLattice_holds:Rows.TopBoxLatticeSaid :=
 OpenClaim.holds_of_wide 3 Tryz.f3 rfl rfl rfl rfl rfl rfl rfl ⟨rfl,rfl,rfl,rfl,rfl⟩ rfl rfl rfl rfl rfl (by kernel_rfl) Tryz.func3 fAll
  (of_decide_eq_true (by kernel_rfl)) (by unfold Func.isWrapper; first|(rw [if_pos (by decide +kernel)]; kernel_rfl)|(rw [if_neg (by decide +kernel)]; exact ⟨rfl,rfl⟩))
  (fun os started H enc _=>Zc3 os started H enc)
#print axioms topBoxLattice_holds
end Go.Proofs.YtohjcchcladneaaGreat
