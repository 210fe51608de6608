/- The law ImageBeams returns true at every input: no conditions. -/
import Derived.Test.YtanbhfpalahjcaaGreatP11
import Derived.Test.YtanbhfpalahjcaaGreatP18
set_option linter.unusedVariables false
set_option linter.unusedSimpArgs false
set_option maxRecDepth 100000
set_option maxHeartbeats 16000000

namespace Go.Proofs.YtanbhfpalahjcaaGreat
open Go Go.Sx
def tysG:List TypeId:=[28,30,61,22,23,24,25,26,35,47,99,97,101,103,69,9,3]
theorem Yez:tysG.all (Zis (tget tbl) tysG)=true:=by kernel_rfl
theorem Ye0 {a:AV} (h:WTA TT 61 a):∃ x y,a=P2 x y/\(i64 x/\i64 y):=by
 obtain ⟨m,zs,hm,ha⟩:=h 4
 have ha:a = .agg zs:=ha
 obtain ⟨h1,h2⟩:=Zq5 (T:=TT) (t:=61) (d:=m+3) rfl rfl rfl hm
 have h1:zs.length=2:=h1
 match zs,h1 with
 | [x,y],_ =>
  obtain ⟨p,hp,p2⟩:=Yew (h2 0 (by omega))
  obtain ⟨q,hq,q2⟩:=Yew (h2 1 (by omega))
  have hp:[x]=[I p]:=hp
  have hq:[y]=[I q]:=hq
  cases hp; cases hq
  exact ⟨p,q,ha,p2,q2⟩
theorem law5:∀ cs,WTs (tget tbl) Tryz.f5.params.toList cs->PCall Tryz.prog 5 cs ⟨.bool true,[]⟩:=by
 intro cs h
 have h:WTs (tget tbl) [28,30,61] cs:=h
 match cs,h with
 | [a0,a1,a2],⟨h0,h1,h2,_⟩ =>
  obtain ⟨hh,rfl⟩:=Ygp h0
  obtain ⟨x,y,rfl⟩:=Yg3 h1
  obtain ⟨a,b,rfl,_,hb⟩:=Ye0 h2
  exact f5 hh x y a b hb
theorem Zg7 (os:Os) (started:os.Started) (H:Type) (enc:TypeId × Value->H) :
  ReturnsInHanded {} Tryz.checked os 5 .any (Rows.imageBeamsSpec.pre6 enc Tryz.prog Tryz.f5 Rows.imageBeamsRow.domain false) (Rows.imageBeamsSpec.post enc Tryz.prog Tryz.f5 false true false false) :=
 Zty (C:=Tryz.checked) started own Ydy (by kernel_rfl) Tryz.func5 Zzf Yez (by kernel_rfl) (by kernel_rfl) rfl (bt:=4) (by kernel_rfl) (by kernel_rfl)
  (fun ds h=>by
   have h:ds.length=3:=h
   match ds,h with
   | [d0,d1,d2],_=>rfl) law5
  (ChangeSpec.witness6 (enc:=enc) (C:=Tryz.checked) false ⟨#[],#[.agg #[.string ⟨#[]⟩,.int .i64 0,.string ⟨#[]⟩,.string ⟨#[]⟩,.slice none 0 0,.slice none 0 0,.slice none 0 0,.slice none 0 0,.slice none 0 0],.agg #[.int .i64 0,.int .i64 0],.agg #[.int .i64 0,.int .i64 0]],[]⟩ 3 (by kernel_rfl) (by kernel_rfl) (by kernel_rfl) (by kernel_rfl))
theorem sIn:Tryz.checked.prog.inPlace 5=Rows.imageBeamsRow.inPlace:=by kernel_rfl
theorem sUn:Tryz.checked.prog.unfollowed 5=Rows.imageBeamsRow.unfollowed:=by kernel_rfl
theorem sRe:Tryz.checked.prog.recurses 5=Rows.imageBeamsRow.recurses:=by kernel_rfl
theorem sNa:Tryz.checked.prog.varsNamed 5=Rows.imageBeamsRow.named:=by kernel_rfl
theorem sAll:joinedFacts Tryz.checked.prog 5 Tryz.f5 Rows.imageBeamsSpec Rows.imageBeamsRow=true:=by
 unfold joinedFacts
 rw [Yh2,Yh0,Ygu,Ygx,fMay,Ygv,Yh1,sIn,sUn,sRe,sNa]
 kernel_rfl
theorem imageBeams_holds:Rows.ImageBeamsSaid :=
 OpenClaim.holds_of_wide 5 Tryz.f5 rfl rfl rfl rfl rfl rfl rfl ⟨rfl,rfl,rfl,rfl,rfl⟩ rfl rfl rfl rfl rfl (by kernel_rfl) Tryz.func5 sAll
  (of_decide_eq_true (by kernel_rfl)) (by unfold Func.isWrapper; first|(rw [if_pos (by decide +kernel)]; kernel_rfl)|(rw [if_neg (by decide +kernel)]; exact ⟨rfl,rfl⟩))
  (fun os started H enc _=>Zg7 os started H enc)
#print axioms imageBeams_holds
end Go.Proofs.YtanbhfpalahjcaaGreat
