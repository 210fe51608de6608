/- The law ImageReached returns true at every input: no conditions. -/
import Derived.Test.YtanbhfpalahjcaaGreatG12
import Derived.Test.YtanbhfpalahjcaaGreatG18
set_option linter.unusedVariables false
set_option linter.unusedSimpArgs false
set_option maxRecDepth 100000
set_option maxHeartbeats 16000000

namespace Go.Proofs.YtanbhfpalahjcaaGreat
open Go Go.Sx
def tysG:List TypeId:=[28,71,30,22,23,24,25,26,35,47,99,97,101,103,69,9,3]
theorem Yff:tysG.all (Zi0 (tget tbl) tysG)=true:=by kernel_rfl
theorem Yhy {a:AV} (h:WTA TT 71 a):∃ b:Ask,a=b.av:=by
 obtain ⟨x,m,rfl,hw⟩:=Zu1 (T:=TT) (t:=71) h rfl rfl 11
 have h0:=(Uz (T:=TT) (t:=71) rfl rfl hw).1
 have h0:x.length=7:=h0
 match x,h0 with
 | [x0,x1,x2,x3,x4,x5,x6],_ =>
  obtain ⟨a,b,c,e1⟩:=wP3 (Zv (T:=TT) (t:=71) rfl rfl hw 0 rfl rfl)
  obtain ⟨d,e,f,e2⟩:=wP3 (Zv (T:=TT) (t:=71) rfl rfl hw 1 rfl rfl)
  obtain ⟨n,hn⟩:=wInt (Zv (T:=TT) (t:=71) rfl rfl hw 2 rfl rfl)
  have e1:[x0,x1,x2]=[I a,I b,I c]:=e1
  have e2:[x3,x4,x5]=[I d,I e,I f]:=e2
  have hn:[x6]=[I n]:=hn
  cases e1; cases e2; cases hn
  exact ⟨⟨a,b,c,d,e,f,n⟩,rfl⟩
theorem law6:∀ cs,WTs (tget tbl) Tryz.f6.params.toList cs->PCall Tryz.prog 6 cs ⟨.bool true,[]⟩:=by
 intro cs h
 have h:WTs (tget tbl) [28,71] cs:=h
 match cs,h with
 | [a0,a1],⟨h0,h1,_⟩ =>
  obtain ⟨hh,rfl⟩:=Yg6 h0
  obtain ⟨a,rfl⟩:=Yhy h1
  exact f6 hh a
theorem Zfj (os:Os) (started:os.Started) (H:Type) (enc:TypeId × Value->H) :
  ReturnsInHanded {} Tryz.checked os 6 .any (Rows.imageReachedSpec.pre6 enc Tryz.prog Tryz.f6 Rows.imageReachedRow.domain false) (Rows.imageReachedSpec.post enc Tryz.prog Tryz.f6 false true false false) :=
 Zt8 (C:=Tryz.checked) started own Yef (by kernel_rfl) Tryz.func6 Zzq Yff (by kernel_rfl) (by kernel_rfl) rfl (bt:=4) (by kernel_rfl) (by kernel_rfl)
  (fun ds h=>by
   have h:ds.length=2:=h
   match ds,h with
   | [d0,d1],_=>rfl) law6
  (ChangeSpec.witness6 (enc:=enc) (C:=Tryz.checked) false ⟨#[],#[.agg #[.string ⟨#[]⟩,.int .i64 0,.string ⟨#[]⟩,.string ⟨#[]⟩,.slice none 0 0,.slice none 0 0,.slice none 0 0,.slice none 0 0,.slice none 0 0],.agg #[.int .i64 0,.int .i64 0,.int .i64 0,.int .i64 0,.int .i64 0,.int .i64 0,.int .i64 0]],[]⟩ 6 (by kernel_rfl) (by kernel_rfl) (by kernel_rfl) (by kernel_rfl))
theorem sIn:Tryz.checked.prog.inPlace 6=Rows.imageReachedRow.inPlace:=by kernel_rfl
theorem sUn:Tryz.checked.prog.unfollowed 6=Rows.imageReachedRow.unfollowed:=by kernel_rfl
theorem sRe:Tryz.checked.prog.recurses 6=Rows.imageReachedRow.recurses:=by kernel_rfl
theorem sNa:Tryz.checked.prog.varsNamed 6=Rows.imageReachedRow.named:=by kernel_rfl
theorem sAll:joinedFacts Tryz.checked.prog 6 Tryz.f6 Rows.imageReachedSpec Rows.imageReachedRow=true:=by
 unfold joinedFacts
 rw [Yik,Yii,Yhb,Yhe,fMay,Yhc,Yij,sIn,sUn,sRe,sNa]
 kernel_rfl
theorem imageReached_holds:Rows.ImageReachedSaid :=
 OpenClaim.holds_of_wide 6 Tryz.f6 rfl rfl rfl rfl rfl rfl rfl ⟨rfl,rfl,rfl,rfl,rfl⟩ rfl rfl rfl rfl rfl (by kernel_rfl) Tryz.func6 sAll
  (of_decide_eq_true (by kernel_rfl)) (by unfold Func.isWrapper; first|(rw [if_pos (by decide +kernel)]; kernel_rfl)|(rw [if_neg (by decide +kernel)]; exact ⟨rfl,rfl⟩))
  (fun os started H enc _=>Zfj os started H enc)
#print axioms imageReached_holds
end Go.Proofs.YtanbhfpalahjcaaGreat
