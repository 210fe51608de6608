/- The law ImageSectors returns true at every input: no conditions. -/
import Derived.Test.YtanbhfpalahjcaaGreatB11
import Derived.Test.YtanbhfpalahjcaaGreatB17
set_option linter.unusedVariables false
set_option linter.unusedSimpArgs false
set_option maxRecDepth 100000
set_option maxHeartbeats 16000000

namespace Go.Proofs.YtanbhfpalahjcaaGreat
open Go Go.Sx
theorem Yc2 {a:AV} (h:WTA TT 47 a):∃ x y z t,a=A4 x y z t/\(i64 x/\i64 y/\i64 z/\i64 t):=by
 obtain ⟨m,zs,hm,ha⟩:=h 4
 have ha:a = .agg zs:=ha
 obtain ⟨h1,h2⟩:=Zqj (T:=TT) (t:=47) (d:=m+3) rfl rfl rfl hm
 have h1:zs.length=4:=h1
 match zs,h1 with
 | [x,y,z,t],_ =>
  obtain ⟨p,hp,p2⟩:=Zx9 (h2 0 (by omega))
  obtain ⟨q,hq,q2⟩:=Zx9 (h2 1 (by omega))
  obtain ⟨r,hr,r2⟩:=Zx9 (h2 2 (by omega))
  obtain ⟨s,hs,s2⟩:=Zx9 (h2 3 (by omega))
  have hp:[x]=[I p]:=hp
  have hq:[y]=[I q]:=hq
  have hr:[z]=[I r]:=hr
  have hs:[t]=[I s]:=hs
  cases hp; cases hq; cases hr; cases hs
  exact ⟨p,q,r,s,ha,p2,q2,r2,s2⟩
theorem law4:∀ cs,WTs (tget tbl) Tryz.f4.params.toList cs->PCall Tryz.prog 4 cs ⟨.bool true,[]⟩:=by
 intro cs h
 have h:WTs (tget tbl) [28,30,47] cs:=h
 match cs,h with
 | [a0,a1,a2],⟨h0,h1,h2,_⟩ =>
  obtain ⟨hh,rfl⟩:=Yfd h0
  obtain ⟨x,y,rfl⟩:=Yfr h1
  obtain ⟨a,b,c,d,rfl,_,hb,_⟩:=Yc2 h2
  exact f4 hh x y a b c d hb
theorem Ze3 (os:Os) (started:os.Started) (H:Type) (enc:TypeId × Value->H) :
  ReturnsInHanded {} Tryz.checked os 4 .any (Rows.imageSectorsSpec.pre6 enc Tryz.prog Tryz.f4 Rows.imageSectorsRow.domain false) (Rows.imageSectorsSpec.post enc Tryz.prog Tryz.f4 false true false false) :=
 Zs6 (C:=Tryz.checked) started own Ycr (by kernel_rfl) Tryz.func4 Zyf Ydt (by kernel_rfl) (by kernel_rfl) rfl (bt:=4) (by kernel_rfl) (by kernel_rfl)
  (fun ds h=>by
   have h:ds.length=3:=h
   match ds,h with
   | [d0,d1,d2],_=>rfl) law4
  (ChangeSpec.witness6 (enc:=enc) (C:=Tryz.checked) false ⟨#[],#[.agg #[.string ⟨#[]⟩,.int .i64 0,.string ⟨#[]⟩,.string ⟨#[]⟩,.slice none 0 0,.slice none 0 0,.slice none 0 0,.slice none 0 0,.slice none 0 0],.agg #[.int .i64 0,.int .i64 0],.agg #[.int .i64 0,.int .i64 0,.int .i64 0,.int .i64 0]],[]⟩ 3 (by kernel_rfl) (by kernel_rfl) (by kernel_rfl) (by kernel_rfl))
theorem sIn:Tryz.checked.prog.inPlace 4=Rows.imageSectorsRow.inPlace:=by kernel_rfl
theorem sUn:Tryz.checked.prog.unfollowed 4=Rows.imageSectorsRow.unfollowed:=by kernel_rfl
theorem sRe:Tryz.checked.prog.recurses 4=Rows.imageSectorsRow.recurses:=by kernel_rfl
theorem sNa:Tryz.checked.prog.varsNamed 4=Rows.imageSectorsRow.named:=by kernel_rfl
theorem sAll:joinedFacts Tryz.checked.prog 4 Tryz.f4 Rows.imageSectorsSpec Rows.imageSectorsRow=true:=by
 unfold joinedFacts
 rw [Ygr,Ygp,Yfi,Yfl,fMay,Yfj,Ygq,sIn,sUn,sRe,sNa]
 kernel_rfl
theorem imageSectors_holds:Rows.ImageSectorsSaid :=
 OpenClaim.holds_of_wide 4 Tryz.f4 rfl rfl rfl rfl rfl rfl rfl ⟨rfl,rfl,rfl,rfl,rfl⟩ rfl rfl rfl rfl rfl (by kernel_rfl) Tryz.func4 sAll
  (of_decide_eq_true (by kernel_rfl)) (by unfold Func.isWrapper; first|(rw [if_pos (by decide +kernel)]; kernel_rfl)|(rw [if_neg (by decide +kernel)]; exact ⟨rfl,rfl⟩))
  (fun os started H enc _=>Ze3 os started H enc)
#print axioms imageSectors_holds
end Go.Proofs.YtanbhfpalahjcaaGreat
