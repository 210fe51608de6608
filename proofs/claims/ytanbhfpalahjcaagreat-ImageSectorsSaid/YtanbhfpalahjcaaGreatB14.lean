/- A part of the proof: lemmas. -/
import Derived.Test.YtanbhfpalahjcaaGreatB11
import Derived.Test.YtanbhfpalahjcaaGreatB13
import Derived.Test.YtanbhfpalahjcaaGreatB7
import Derived.Test.YtanbhfpalahjcaaGreatB12
import Derived.Test.YtanbhfpalahjcaaGreatB10
set_option linter.unusedVariables false
set_option linter.unusedSimpArgs false
set_option maxRecDepth 100000
set_option maxHeartbeats 16000000
open Bool renaming and_assoc->Ok,and_eq_true->Qc,eq_iff_iff->Sq,false_and->Kc,not_eq_true'->Te,true_and->Wt
open Go.IntKind renaming i64->Qb,wrap->Qa
open Go.Sx.AV.agg renaming injEq->Pr
open Go.Sx.AV.int renaming inj->Dd,injEq->Wa
open Go.Sx.Done renaming mk->Qu
open Go.Sx.PCall renaming freeze->Nw
open Int renaming emod_lt_of_pos->Ny,emod_nonneg->Lg,gcd->Oj,gcd_comm->Dq,le_of_lt->Qf,lt_or_eq_of_le->Ws,lt_trichotomy->Tu,mul_comm->Rh,mul_ediv_add_emod->Kg,mul_eq_zero->Wj,mul_le_mul_of_nonneg_left->Qv,mul_le_mul_of_nonneg_right->Qj,mul_neg->Re,mul_one->Rs,mul_pos->Qt,mul_tdiv_cancel'->Fi,mul_tdiv_cancel_left->Nn,mul_zero->Rw,natAbs_eq_natAbs_iff->Hf,natAbs_mul->Jn,neg_mul->Th,one_mul->Sk,toNat_natCast->Rz
open Int.ofNat renaming inj->Mf
open List renaming all_cons->Mz,append_nil->Pw,drop_eq_getElem_cons->Ql,drop_of_length_le->Qp,length_append->Ro,length_eq_zero_iff->Po
open List.cons renaming inj->Rv,injEq->Rp
open Nat renaming dvd_antisymm->Dz,eq_zero_or_pos->Ob,le_of_ble_eq_true->Qk,le_refl->Qd,lt_or_ge->Wn,sub_self->Ly,zero_le->Qq
open Option renaming map_map->Qbc
open Prod renaming ext->Wh
namespace Go.Proofs.YtanbhfpalahjcaaGreat
open Go Go.Sx
abbrev Yfh (h:Hal):Prop:=(9<h.ws.length/\h.ws.length<=12)\/14<h.ws.length\/14<h.cs.length\/4<h.ms.length\/2<h.ks.length\/3<h.ss.length
def Zkh (h:Hal):Bool:=Yl h.nm&&Yl h.fl&&Yl h.ce
def few2 (h:Hal):Bool:=(!decide (Yfh h)&&Zkh h)&&(h.ws.all fewW&&(h.ms.all fewM&&(h.ks.all fewC&&h.ss.all fewS)))
theorem Zwl {h:Hal} (hb:few2 h=true):h.ok:=by
 unfold few2 Zkh at hb
 simp only [Qc,Te,decide_eq_false_iff_not] at hb
 obtain ⟨⟨hL,⟨n1,n2⟩,n3⟩,m2,m1,m3,m4⟩:=hb
 have hL:¬ ((9<h.ws.length/\h.ws.length<=12)\/14<h.ws.length\/14<h.cs.length\/4<h.ms.length\/2<h.ks.length\/3<h.ss.length):=hL
 rw [List.all_eq_true] at m1 m2 m3 m4
 refine ⟨⟨by omega,by omega,by omega,by omega,by omega,fun c hc=>?_⟩,⟨Zbt n1,fun m hm=>Zbt (m1 m hm),fun m hm=>?_,fun m hm=>?_,fun m hm=>Zbt (m4 m hm)⟩⟩
 ·have:=m3 c hc
  unfold fewC at this
  simp only [Qc,Te,decide_eq_false_iff_not] at this
  omega
 ·have:=m2 m hm
  unfold fewW at this
  simp only [Qc] at this
  exact Zbt this.1.1
 ·have:=m3 m hm
  unfold fewC at this
  simp only [Qc] at this
  exact Zbt this.1.1
theorem sh_n {s:ByteArray} (h:Yl s=true):¬ (20:Int)<(s.size:Int):=by
 unfold Yl at h
 simpa using h
theorem p80 (h:Hal):PCall Tryz.prog 8 [h.av] ⟨Bo (few2 h),[]⟩:=by
 have l1:=Zdf h.ms
 have l2:(h.cs.map pt).length=h.cs.length:=by simp
 have l3:=Uu h.ws
 have l4:=Zdr h.ks
 have l5:=Zc3 h.ss
 by_cases hP:Yfh h
 ·have e0:few2 h=false:=by unfold few2; rw [decide_eq_true hP]; rfl
  rw [e0]
  clear e0
  have hP:(9<h.ws.length/\h.ws.length<=12)\/14<h.ws.length\/14<h.cs.length\/4<h.ms.length\/2<h.ks.length\/3<h.ss.length:=hP
  refine pn Zd Tryz.func8 ?_
  repeat'(first|refine wk3 ?_|(refine wk2 ?_ ?_<;>intro _)|fail)
  all_goals first
   | exact Zf rfl
   | (exfalso; simp_all; omega)
 have hP' : ¬ ((9<h.ws.length/\h.ws.length<=12)\/14<h.ws.length\/14<h.cs.length\/4<h.ms.length\/2<h.ks.length\/3<h.ss.length):=hP
 have hw:h.ws.length<=9\/12<h.ws.length:=by omega
 unfold few2
 rw [decide_eq_false hP,Bool.not_false,Wt]
 clear hP
 by_cases hN:Zkh h=true
 rotate_left
 ·have hN:Zkh h=false:=by simpa using hN
  rw [hN,Kc]
  unfold Zkh at hN
  rcases hw with hw|hw
  all_goals
   refine pn Zd Tryz.func8 ?_
   repeat'(first|refine wk3 ?_|(refine wk2 ?_ ?_<;>intro _)|fail)
  all_goals first
   | exact Zf rfl
   | (exfalso; simp_all [Yl]; done)
   | (exfalso; simp_all [Yl]; omega)
 rw [hN,Wt]
 unfold Zkh at hN
 simp only [Qc] at hN
 obtain ⟨⟨n1,n2⟩,n3⟩:=hN
 have n1:=sh_n n1
 have n2:=sh_n n2
 have n3:=sh_n n3
 generalize hE:(h.ws.all fewW&&(h.ms.all fewM&&(h.ks.all fewC&&h.ss.all fewS)))=R
 rcases hw with hw|hw
 all_goals
  refine pn Zd Tryz.func8 ?_
  repeat'(first|refine wk3 ?_|(refine wk2 ?_ ?_<;>intro _)|fail)
  clear n1 n2 n3
  subst hE
  generalize hV:(h.ms.all fewM&&(h.ks.all fewC&&h.ss.all fewS))=V
  refine Zq (S:=Nat × Int) (fun t=>h.ws.length-t.1) (fun t=>[(1,.ptr 0 0 0),(2,Bo false),(3,I t.2)]) (fun _=>[(0,.row 9 [h.cells] true false)]) 1 1 (fun t=>t.2=t.1/\t.1<=h.ws.length/\((h.ws.drop t.1).all fewW&&V)=(h.ws.all fewW&&V)) (0,0) ⟨rfl,Qq _,rfl⟩ (Qd _) [] rfl (kps) (kps) ?_
  rintro ⟨k,i⟩ ⟨hi,hk,hh⟩
  dsimp only at hi hk hh ⊢
  subst hi
  generalize hB:(h.ws.all fewW&&V)=B at *
  clear hB
  refine bs.av (sx:=nos) Zd ?_
  by_cases hlt:k<h.ws.length
  ·clear hV
   have e1:=Zmd hlt
   rw [Ql hlt,Mz] at hh
   generalize h.ws[k]=m at *
   have hm:∀ b,fewW m=b->(b&&(h.ws.drop (k+1)).all fewW&&V)=B:=fun b e=>by rw [<-e,Ok]; rw [Ok] at hh; exact hh
   clear hh
   repeat'(first|refine wk3 ?_|(refine wk2 ?_ ?_<;>intro _)|fail)
   all_goals clear e1
   all_goals first
    | exact Zf (hm false (by clear hm; simp_all [fewW,Yl]; done))
    | exact Qu ⟨(k+1,_),[],rfl,kps,kps,⟨Ze (by omega),hlt,hm true (by clear hm; simp_all [fewW,Yl]; done)⟩,by dsimp only; omega⟩
  rw [Qp (by omega)] at hh
  have hh:V=B:=hh
  subst hh
  subst hV
  repeat'(first|refine wk3 ?_|(refine wk2 ?_ ?_<;>intro _)|fail)
  clear hlt hk
  generalize hV:(h.ks.all fewC&&h.ss.all fewS)=V
  refine Zq (S:=Nat × Int) (fun t=>h.ms.length-t.1) (fun t=>[(1,.ptr 0 0 0),(2,Bo false),(4,I t.2)]) (fun _=>[(0,.row 9 [h.cells] true false)]) 1 1 (fun t=>t.2=t.1/\t.1<=h.ms.length/\((h.ms.drop t.1).all fewM&&V)=(h.ms.all fewM&&V)) (0,0) ⟨rfl,Qq _,rfl⟩ (Qd _) [] rfl (kps) (kps) ?_
  rintro ⟨k,i⟩ ⟨hi,hk,hh⟩
  dsimp only at hi hk hh ⊢
  subst hi
  generalize hB:(h.ms.all fewM&&V)=B at *
  clear hB
  refine bs.av (sx:=nos) Zd ?_
  by_cases hlt:k<h.ms.length
  ·clear hV
   have e1:=Zq6 hlt
   rw [Ql hlt,Mz] at hh
   generalize h.ms[k]=m at *
   have hm:∀ b,fewM m=b->(b&&(h.ms.drop (k+1)).all fewM&&V)=B:=fun b e=>by rw [<-e,Ok]; rw [Ok] at hh; exact hh
   clear hh
   repeat'(first|refine wk3 ?_|(refine wk2 ?_ ?_<;>intro _)|fail)
   all_goals clear e1
   all_goals first
    | exact Zf (hm false (by clear hm; simp_all [fewM,Yl]; done))
    | exact Qu ⟨(k+1,_),[],rfl,kps,kps,⟨Ze (by omega),hlt,hm true (by clear hm; simp_all [fewM,Yl]; done)⟩,by dsimp only; omega⟩
  rw [Qp (by omega)] at hh
  have hh:V=B:=hh
  subst hh
  subst hV
  repeat'(first|refine wk3 ?_|(refine wk2 ?_ ?_<;>intro _)|fail)
  clear hlt hk
  generalize hV:h.ss.all fewS=V
  refine Zq (S:=Nat × Int) (fun t=>h.ks.length-t.1) (fun t=>[(1,.ptr 0 0 0),(2,Bo false),(5,I t.2)]) (fun _=>[(0,.row 9 [h.cells] true false)]) 1 1 (fun t=>t.2=t.1/\t.1<=h.ks.length/\((h.ks.drop t.1).all fewC&&V)=(h.ks.all fewC&&V)) (0,0) ⟨rfl,Qq _,rfl⟩ (Qd _) [] rfl (kps) (kps) ?_
  rintro ⟨k,i⟩ ⟨hi,hk,hh⟩
  dsimp only at hi hk hh ⊢
  subst hi
  generalize hB:(h.ks.all fewC&&V)=B at *
  clear hB
  refine bs.av (sx:=nos) Zd ?_
  by_cases hlt:k<h.ks.length
  ·clear hV
   have e1:=Zoh hlt
   rw [Ql hlt,Mz] at hh
   generalize h.ks[k]=m at *
   have e9:=Yh m.hs
   have hm:∀ b,fewC m=b->(b&&(h.ks.drop (k+1)).all fewC&&V)=B:=fun b e=>by rw [<-e,Ok]; rw [Ok] at hh; exact hh
   clear hh
   repeat'(first|refine wk3 ?_|(refine wk2 ?_ ?_<;>intro _)|fail)
   all_goals clear e1
   all_goals first
    | exact Zf (hm false (by clear hm; simp_all [fewC,Yl]; done))
    | exact Qu ⟨(k+1,_),[],rfl,kps,kps,⟨Ze (by omega),hlt,hm true (by clear hm; simp_all [fewC,Yl]; done)⟩,by dsimp only; omega⟩
  rw [Qp (by omega)] at hh
  have hh:V=B:=hh
  subst hh
  subst hV
  repeat'(first|refine wk3 ?_|(refine wk2 ?_ ?_<;>intro _)|fail)
  clear hlt hk
  refine Zq (S:=Nat × Int) (fun t=>h.ss.length-t.1) (fun t=>[(1,.ptr 0 0 0),(2,Bo false),(6,I t.2)]) (fun _=>[(0,.row 9 [h.cells] true false)]) 1 1 (fun t=>t.2=t.1/\t.1<=h.ss.length/\((h.ss.drop t.1).all fewS)=(h.ss.all fewS)) (0,0) ⟨rfl,Qq _,rfl⟩ (Qd _) [] rfl (kps) (kps) ?_
  rintro ⟨k,i⟩ ⟨hi,hk,hh⟩
  dsimp only at hi hk hh ⊢
  subst hi
  generalize hB:(h.ss.all fewS)=B at *
  clear hB
  refine bs.av (sx:=nos) Zd ?_
  by_cases hlt:k<h.ss.length
  ·have e1:=Zqw hlt
   rw [Ql hlt,Mz] at hh
   generalize h.ss[k]=m at *
   have hm:∀ b,fewS m=b->(b&&(h.ss.drop (k+1)).all fewS)=B:=fun b e=>by rw [<-e]; exact hh
   clear hh
   repeat'(first|refine wk3 ?_|(refine wk2 ?_ ?_<;>intro _)|fail)
   all_goals clear e1
   all_goals first
    | exact Zf (hm false (by clear hm; simp_all [fewS,Yl]; done))
    | exact Qu ⟨(k+1,_),[],rfl,kps,kps,⟨Ze (by omega),hlt,hm true (by clear hm; simp_all [fewS,Yl]; done)⟩,by dsimp only; omega⟩
  rw [Qp (by omega)] at hh
  repeat'(first|refine wk3 ?_|(refine wk2 ?_ ?_<;>intro _)|fail)
  exact Zf hh
theorem p90 {h:Hal} (hk:h.ok):PCall Tryz.prog 30 [h.av] ⟨I h.err,[]⟩:=by
 refine pn (Za (c65k hk) Zd) Tryz.func30 ?_
 repeat'(first|refine wk3 ?_|(refine wk2 ?_ ?_<;>intro _)|fail)
 exact Zc rfl
theorem p164 {h:Hal} (hk:h.ok):PCall Tryz.prog 38 [h.av] ⟨I h.err,[]⟩:=by
 refine pn (Za (c63k hk) Zd) Tryz.func38 ?_
 repeat'(first|refine wk3 ?_|(refine wk2 ?_ ?_<;>intro _)|fail)
 exact Zc rfl
def plcB (x y z:Int):Bool:=within x (-5000) 5000&&within y (-5000) 5000&&within z (-5000) 5000
def plaE (h:Hal) (x y z:Int):Int:=if plcB x y z=true then unl (Zbi h ⟨x,y,z,1⟩) 24 else 2
theorem d123 (x y z:Int):PCall Tryz.prog 117 [P3 x y z] ⟨P4 x y z 1,[]⟩:=by
 refine pn Zd Tryz.func117 ?_
 repeat'(first|refine wk3 ?_|(refine wk2 ?_ ?_<;>intro _)|fail)
 all_goals exact Zg rfl rfl
theorem d83 (n:Int):PCall Tryz.prog 83 [I n] ⟨Bo (within n (-5000) 5000),[]⟩:=by
 refine pn (Za (c30 n (-5000) 5000) Zd) Tryz.func83 ?_
 repeat'(first|refine wk3 ?_|(refine wk2 ?_ ?_<;>intro _)|fail)
 exact Zf rfl
theorem d81 (n:Int):PCall Tryz.prog 42 [I n] ⟨I (unl (within n 0 4) 2),[]⟩:=by
 refine bs.pv (sx:=nos) (Za (d210 n 0 4) (Za (d209 (within n 0 4) 2) Zd)) Tryz.func42 (by kernel_rfl) (by kernel_rfl) rfl ?_
 repeat'(first|refine wk3 ?_|(refine wk2 ?_ ?_<;>intro _)|fail)
 exact Zc rfl
theorem d68 (n:Int):PCall Tryz.prog 13 [I n] ⟨I (unl (within n 0 4) 2),[]⟩:=by
 refine pn (Za (c30 n 0 4) Zd) Tryz.func13 ?_
 repeat'(first|refine wk3 ?_|(refine wk2 ?_ ?_<;>intro _)|fail)
 all_goals exact Zc (by simp_all [unl])
theorem Zqq (n:Int):small n 5000=within n (-5000) 5000:=rfl
theorem Yem {x y z:Int} (c:plcB x y z=true):Zda ⟨x,y,z,1⟩=0:=by
 simp only [plcB,Qc,within_iff] at c
 have hg:g4 ⟨x,y,z,1⟩=1:=by
  simp [g4]
 unfold Zda
 rw [if_neg (by simp [hg]),if_neg (by simp),if_pos]
 unfold ptIn
 simp only [Qc,within_iff]
 simp
 omega
def r86:List AV->Option PRes
 | [.int .i64 n,.int .i64 m]=>some ⟨Bo (small n m),[]⟩
 | _=>none
theorem Yeh {pt:PC} (h:PCOK Tryz.prog pt):PCOK Tryz.prog (ins 77 r86 pt):=Zk (fun a res h=>by unfold r86 at h; split at h<;>cases h; exact d86 _ _) h
def r83:List AV->Option PRes
 | [.int .i64 n]=>some ⟨Bo (within n (-5000) 5000),[]⟩
 | _=>none
theorem Yei {pt:PC} (h:PCOK Tryz.prog pt):PCOK Tryz.prog (ins 83 r83 pt):=Zk (fun a res h=>by unfold r83 at h; split at h<;>cases h; exact d83 _) h
theorem d79 {h:Hal} (hk:h.ok) (he:h.err=0) (x y z:Int):PCall Tryz.prog 74 [h.av,P3 x y z] ⟨I (plaE h x y z),[]⟩:=by
 have hk0:=Yeh (Za (d123 x y z) Zd)
 by_cases c:plcB x y z=true
 ·have hp:=Yem c
  have hi:insE h ⟨x,y,z,1⟩=0:=by unfold insE; rw [if_pos he,hp]
  have hw:Pt.wf ⟨x,y,z,1⟩:=by
   simp only [plcB,Qc,within_iff] at c
   refine ⟨⟨?_,?_⟩,⟨?_,?_⟩,⟨?_,?_⟩,⟨?_,?_⟩⟩<;>dsimp only<;>omega
  have h50:=c50 hk hw
  rw [hi] at h50
  unfold plaE
  rw [if_pos c]
  generalize Zbi h ⟨x,y,z,1⟩=b at *
  have hk1:=Za h50 (Za (d209 b 24) hk0)
  simp only [plcB,Qc,<-Zqq] at c
  refine pn hk1 Tryz.func74 ?_
  repeat'(first|refine wk3 ?_|(refine wk2 ?_ ?_<;>intro _)|fail)
  all_goals first
   | exact Zc rfl
   | (exfalso; clear hk1 h50 hk0 hp hi; simp_all; done)
 ·unfold plaE
  rw [if_neg c]
  simp only [plcB,<-Zqq] at c
  refine pn hk0 Tryz.func74 ?_
  repeat'(first|refine wk3 ?_|(refine wk2 ?_ ?_<;>intro _)|fail)
  all_goals first
   | exact Zc rfl
   | (exfalso; clear hk0; simp_all; done)
theorem e40 {h:Hal} (hk:h.ok) (he:h.err=0) (x y:Int):PCall Tryz.prog 40 [h.av,P2 x y] ⟨I (plaE h x y 1),[]⟩:=by
 have hk0:=Za (d79 hk he x y 1) Zd
 refine pn hk0 Tryz.func40 ?_
 repeat'(first|refine wk3 ?_|(refine wk2 ?_ ?_<;>intro _)|fail)
 exact Zc rfl
def Zpq (h:Hal) (x y:Int) (t:Tn) (n:Int):Int:=if h.err=0 then fstL [plaE h x y 1,tnE t,unl (within n 0 4) 2] else h.err
def folR (h:Hal) (x y:Int) (t:Tn) (n:Int):Int × List Int:=if Zpq h x y t n=0 then (match folL h.cs n.toNat ⟨x,y,t.1,t.2⟩ (0,1) (-1) with
 | none=>(24,[])
 | some l=>(0,l)) else (Zpq h x y t n,[])
def frL (cs:List (Int × Int)) (r:Ry) (last:Int):Int × Int:=if last<0 then (0,1) else match htW (wlOf cs last.toNat) r with
 | none=>(0,0)
 | some x=>(x.nu,x.de)
theorem Bh.fr {cs:List (Int × Int)} {r:Ry} {f:Int × Int} {last:Int} (a:Bh cs r f last):frL cs r last=f:=by
 unfold frL
 rcases a.last with ⟨h1,h2⟩|⟨i,hi,h1,h2,x,hx,h3,h4⟩
 ·rw [if_pos (by omega),h2]
 ·rw [if_neg (by omega),h1,Rz,hx]
  exact Wh h3 h4
theorem Zz5 {r q:Ry} {l m:Int} (h:r.av l=q.av m):r=q/\l=m:=by
 obtain ⟨a,b,c,d⟩:=r
 obtain ⟨a',b',c',d'⟩:=q
 simp only [Rp,Wa,Pr,true_and,and_true] at h
 obtain ⟨rfl,rfl,rfl,rfl,rfl⟩:=h
 exact ⟨rfl,rfl⟩
noncomputable abbrev rNx (h:Hal):List AV->Option PRes:=famA (fun q:Ry × Int=>RyB q.1/\Bh h.cs q.1 (frL h.cs q.1 q.2) q.2) (fun q=>[h.av,q.1.av q.2]) (fun q=>mtV h.cs (bstP (Zv h.cs q.1 (frL h.cs q.1 q.2) q.2) h.cs.length))
theorem Yby {h:Hal} {r:Ry} (b:RyB r) {fr:Int × Int} {last:Int} (B:Bh h.cs r fr last):rNx h [h.av,r.av last]=some (mtV h.cs (bstP (Zv h.cs r fr last) h.cs.length)):=by
 have e:=B.fr
 subst e
 exact Ye (p:=fun q:Ry × Int=>RyB q.1/\Bh h.cs q.1 (frL h.cs q.1 q.2) q.2) (g:=fun q=>[h.av,q.1.av q.2]) (r:=fun q=>mtV h.cs (bstP (Zv h.cs q.1 (frL h.cs q.1 q.2) q.2) h.cs.length)) (k:=(r,last)) (fun j hj=>by
  obtain ⟨e1,e2⟩:=Zz5 (Rv (Rv hj).2).1
  rw [e1,e2]) ⟨b,B⟩
noncomputable abbrev rRf (h:Hal):List AV->Option PRes:=famA (fun q:Ry × Int × Nat=>RyB q.1/\q.2.2<h.cs.length) (fun q=>[h.av,q.1.av q.2.1,I q.2.2]) (fun q=>⟨(rfW (wlOf h.cs q.2.2) q.1).av q.2.2,[]⟩)
theorem Ybx {h:Hal} {r:Ry} (b:RyB r) {k:Nat} (hk:k<h.cs.length) (last:Int):rRf h [h.av,r.av last,I k]=some ⟨(rfW (wlOf h.cs k) r).av k,[]⟩ :=
 Ye (p:=fun q:Ry × Int × Nat=>RyB q.1/\q.2.2<h.cs.length) (g:=fun q=>[h.av,q.1.av q.2.1,I q.2.2]) (r:=fun q=>⟨(rfW (wlOf h.cs q.2.2) q.1).av q.2.2,[]⟩) (k:=(r,last,k)) (fun j hj=>by
  obtain ⟨e1,e2⟩:=Zz5 (Rv (Rv hj).2).1
  have e3:=(Dd (Rv (Rv (Rv hj).2).2).1).2
  rw [e1,Mf e3]) ⟨b,hk⟩
theorem Yd6 {h:Hal} (hf:h.few) (g:h.fine) {pt:PC} (hp:PCOK Tryz.prog pt):PCOK Tryz.prog (ins 45 (rRf h) pt):=Yo (fun q hq=>by
 obtain ⟨n,sx,sy,hs⟩:=g.st q.2.2 hq.2
 rw [Zka hs]
 exact e45 hf hq.2 hs hq.1 q.2.1) hp
theorem Yd7 {h:Hal} (hf:h.few) (g:h.fine) {pt:PC} (hp:PCOK Tryz.prog pt):PCOK Tryz.prog (ins 44 (rNx h) pt):=Yo (fun q hq=>e44 hf g hq.1 hq.2) hp
theorem Zt8 {t:Tn} (h:tnE t=0):(-100000<=t.1/\t.1<=100000)/\(-100000<=t.2/\t.2<=100000):=by
 unfold tnE at h
 rw [Zgl,Zgl] at h
 cases h1:within t.1 (-100000) 100000<;>cases h2:within t.2 (-100000) 100000<;>rw [h1,h2] at h
 ·exfalso; revert h; cases decide (gcW t.1 t.2=1)<;>decide
 ·exfalso; revert h; cases decide (gcW t.1 t.2=1)<;>decide
 ·exfalso; revert h; cases decide (gcW t.1 t.2=1)<;>decide
 ·exact ⟨within_iff.1 h1,within_iff.1 h2⟩
theorem Zip {h:Hal} {x y z:Int} (e:plaE h x y z=0):((-5000<=x/\x<=5000)/\(-5000<=y/\y<=5000)/\(-5000<=z/\z<=5000))/\Zbi h ⟨x,y,z,1⟩=true:=by
 unfold plaE at e
 split at e
 ·rename_i c
  simp only [plcB,Qc,within_iff] at c
  refine ⟨⟨c.1.1,c.1.2,c.2⟩,Vp e (by decide)⟩
 ·omega
theorem fst3 {a b c:Int} (h:fstL [a,b,c]=0):a=0/\b=0/\c=0:=by
 simp only [fstL] at h
 by_cases ha:a=0
 ·by_cases hb:b=0
  ·by_cases hc:c=0
   ·exact ⟨ha,hb,hc⟩
   ·rw [if_neg (by omega),if_neg (by omega),if_pos hc] at h; omega
  ·rw [if_neg (by omega),if_pos hb] at h; omega
 ·rw [if_pos ha] at h; omega
theorem frT {bl:List (Nat × List (List AV))} {e:Int}:Frz bl (.tup [.nils,I e]) (.tup [.isl 1 (nl []),I e]):=⟨rfl,⟨rfl,rfl⟩,trivial⟩
theorem e9 {h:Hal} (hk:h.ok) (x y:Int) {t:Tn} (h1:i64 t.1) (h2:i64 t.2) (n:Int):PCall Tryz.prog 9 [h.av,P2 x y,P2 t.1 t.2,I n] ⟨.tup [.isl 1 (nl (folR h x y t n).2),I (folR h x y t n).1],[]⟩:=by
 have c1:=p164 hk
 by_cases he:h.err=0
 rotate_left
 ·have e:folR h x y t n=(h.err,[]):=by unfold folR Zpq; rw [if_neg he,if_neg he]
  rw [e]
  have hk0:=Za c1 Zd
  generalize h.err=E at *
  refine Nw (res:=⟨.tup [.nils,I E],[]⟩) ?_ frT
  refine pn hk0 Tryz.func9 ?_
  repeat'(first|refine wk3 ?_|(refine wk2 ?_ ?_<;>intro _)|fail)
  exact Zg rfl rfl
 ·have fin:=Zi8 hk he
  have g40:=e40 hk he x y
  have g41:=d91 h1 h2
  have g42:=d81 n
  have g39:PCall Tryz.prog 39 [.isl 1 [[I (plaE h x y 1)],[I (tnE t)],[I (unl (within n 0 4) 2)]]] ⟨I (fstL [plaE h x y 1,tnE t,unl (within n 0 4) 2]),[]⟩:=d78 (l:=[plaE h x y 1,tnE t,unl (within n 0 4) 2]) (by simp)
  unfold folR
  have hE:Zpq h x y t n=fstL [plaE h x y 1,tnE t,unl (within n 0 4) 2]:=if_pos he
  rw [he] at c1
  rw [hE]
  have hkA:=Za c1 (Za g40 (Za g41 (Za g42 (Za g39 (Yd7 hk.f fin (Yd6 hk.f fin Zm9))))))
  generalize hF:fstL [plaE h x y 1,tnE t,unl (within n 0 4) 2]=E at *
  by_cases hE0:E=0
  rotate_left
  ·rw [if_neg hE0]
   refine Nw (res:=⟨.tup [.nils,I E],[]⟩) ?_ frT
   refine pn hkA Tryz.func9 ?_
   repeat'(first|refine wk3 ?_|(refine wk2 ?_ ?_<;>intro _)|fail)
   exact Zg rfl rfl
  ·subst hE0
   rw [if_pos rfl]
   obtain ⟨q1,q2,q3⟩:plaE h x y 1=0/\tnE t=0/\unl (within n 0 4) 2=0:=by
    exact fst3 hF
   clear hF hE
   have hn:(0<=n/\n<=4):=by
    cases hw:within n 0 4
    ·rw [hw] at q3; cases q3
    ·exact within_iff.1 hw
   obtain ⟨m,rfl⟩:∃ m:Nat,n=m:=⟨n.toNat,by omega⟩
   rw [Rz]
   have hs0:RyS 0 ⟨x,y,t.1,t.2⟩:=by
    have hp:=(Zip q1).1
    obtain ⟨p1,p2,p3⟩:=hp
    have ht:=Zt8 q2
    exact ⟨by dsimp only; omega,by dsimp only; omega,ht.1,ht.2⟩
   have hB0:=Bh.start h.cs ⟨x,y,t.1,t.2⟩
   have hAll:=fin.st
   have hf:=hk.f
   generalize hR:folL h.cs m ⟨x,y,t.1,t.2⟩ (0,1) (-1)=R
   refine Nw (res:=match R with
    | none=>⟨.tup [.nils,I 24],[]⟩
    | some []=>⟨.tup [.nils,I 0],[]⟩
    | some (u::l)=>⟨.tup [.asl 0 0 (nl (u::l)).length,I 0],[(1,nl (u::l))]⟩) ?_ ?_
   rotate_left
   ·cases R with
    | none=>exact frT
    | some l=>cases l with
     | nil=>exact frT
     | cons u l=>exact ⟨⟨rfl,rfl,rfl⟩,⟨rfl,rfl⟩,trivial⟩
   refine bs.pv (sx:=nos) hkA Tryz.func9 (by kernel_rfl) (by kernel_rfl) (by split<;>rfl) ?_
   repeat'(first|refine wk3 ?_|(refine wk2 ?_ ?_<;>intro _)|fail)
   refine Zve (S:=Nat × Int × Ry × (Int × Int) × Int × Nat × List (List AV)) (fun s=>m-s.1)
    (fun s=>[(8,.nils),(9,I 0),(12,.ptr 13 0 0),(13,.ptr 18 0 0),(14,gv 20 s.1 s.2.2.2.2.2.1),(40,I (m:Int)),(41,I s.2.1)])
    (fun s=>(18,.row 5 [[I s.2.2.1.x,I s.2.2.1.y,I s.2.2.1.dx,I s.2.2.1.dy,I s.2.2.2.2.1]] true false)::(13,.row 9 [h.cells] true false)::gz 20 1 s.1 s.2.2.2.2.2.2 []) 20 21
    (fun s=>s.2.1=s.1/\s.1<=m/\RyS s.1 s.2.2.1/\Bh h.cs s.2.2.1 s.2.2.2.1 s.2.2.2.2.1/\∃ out:List Int,out.length=s.1/\s.2.2.2.2.2.1=s.2.2.2.2.2.2.length/\s.2.2.2.2.2.2=nl out/\R=(folL h.cs (m-s.1) s.2.2.1 s.2.2.2.1 s.2.2.2.2.1).map (fun l=>out++l))
    (0,0,⟨x,y,t.1,t.2⟩,(0,1),-1,0,[]) ⟨rfl,Qq _,hs0,hB0,[],rfl,rfl,rfl,by rw [<-hR]; simp⟩ (Qk rfl) [] rfl (kps) (kps) ?_
   rintro ⟨k,i,r,fr,last,len,els⟩ ⟨hi,hkm,hs,hB,out,ho,hlen,hels,hrec⟩
   dsimp only at hi hkm hs hB ho hlen hels hrec ⊢
   subst hi
   have hb:=hs.b (by omega)
   have cN:=Yby hb hB
   have hl4:els.length<100000:=by rw [hels,Yh]; omega
   by_cases hlt:k<m
   ·obtain ⟨q,hq⟩:∃ q,m-k=q+1:=⟨m-k-1,by omega⟩
    rw [hq,folL] at hrec
    have hmem:=fun c hc=>hB.next hAll (c:=c) hc
    generalize bstP (Zv h.cs r fr last) h.cs.length=o at *
    cases o with
    | none =>
     change _=some (⟨.tup [hit0,Bo false],[]⟩:PRes) at cN
     have hrec:R=none:=hrec
     subst hrec
     clear hmem
     obtain ⟨rx,ry,rdx,rdy⟩:=r
     cases k<;>refine bs.av (sx:=nos) hkA ?_<;>repeat'(first|refine wk3 ?_|(refine wk2 ?_ ?_<;>intro _)|fail)
     all_goals exact Zg rfl rfl
    | some c =>
     change _=some (⟨.tup [hitA h.cs c,Bo true],[]⟩:PRes) at cN
     obtain ⟨hci,hBn⟩:=hmem c rfl
     have cR:=Ybx hb hci last
     have hsn:RyS (k+1) (rfW (wlOf h.cs c.i) r):=by
      obtain ⟨n,sx,sy,hst⟩:=hAll c.i hci
      rw [Zka hst]; exact hs.next hst
     clear hmem
     obtain ⟨ci,cnu,cde,cw⟩:=c
     dsimp only at hci hBn cR hsn hrec
     cases cw with
     | false =>
      rw [if_neg (by decide)] at hrec
      have hrec:R=none:=hrec
      subst hrec
      obtain ⟨rx,ry,rdx,rdy⟩:=r
      cases k<;>refine bs.av (sx:=nos) hkA ?_<;>repeat'(first|refine wk3 ?_|(refine wk2 ?_ ?_<;>intro _)|fail)
      all_goals exact Zg rfl rfl
     | true =>
      rw [if_pos rfl] at hrec
      have hrec2:R=(folL h.cs (m-(k+1)) (rfW (wlOf h.cs ci) r) (cnu,cde) ci).map (fun l=>(out++[(ci:Int)])++l):=by
       rw [hrec,show m-(k+1)=q by omega,Qbc]
       congr 1
       funext l
       simp
      clear hrec hs0 hB0 hB hs
      generalize rfW (wlOf h.cs ci) r=r2 at *
      obtain ⟨rx,ry,rdx,rdy⟩:=r
      obtain ⟨sx,sy,sdx,sdy⟩:=r2
      have hnl:nl (out++[(ci:Int)])=nl out++[[I (ci:Int)]]:=by simp [nl]
      cases k with
      | zero =>
       have hout:out=[]:=Po.1 ho
       refine bs.av (sx:=nos) hkA ?_
       repeat'(first|refine wk3 ?_|(refine wk2 ?_ ?_<;>intro _)|fail)
       exact Qu ⟨(1,_,⟨sx,sy,sdx,sdy⟩,(cnu,cde),ci,1,[[I (ci:Int)]]),[(20,23)],rfl,kps,kps,⟨Ze (by omega),hlt,hsn,hBn,out++[(ci:Int)],by rw [hout]; rfl,rfl,by rw [hout]; rfl,hrec2⟩,by dsimp only; omega⟩
      | succ k0 =>
       refine bs.av (sx:=nos) hkA ?_
       repeat'(first|refine wk3 ?_|(refine wk2 ?_ ?_<;>intro _)|fail)
       exact Qu ⟨(k0+1+1,_,⟨sx,sy,sdx,sdy⟩,(cnu,cde),ci,els.length+1,els++[[I (ci:Int)]]),[(20,23)],rfl,kps,kps,⟨Ze (by omega),hlt,hsn,hBn,out++[(ci:Int)],by rw [Ro,ho]; rfl,by simp,by rw [hnl,hels],hrec2⟩,by dsimp only; omega⟩
   ·obtain rfl:k=m:=by omega
    rw [Ly,folL] at hrec
    have hrec:R=some (out++[]):=hrec
    rw [Pw] at hrec
    subst hrec
    cases k with
    | zero =>
     obtain rfl:out=[]:=Po.1 ho
     refine bs.av (sx:=nos) hkA ?_
     repeat'(first|refine wk3 ?_|(refine wk2 ?_ ?_<;>intro _)|fail)
     exact Zg rfl rfl
    | succ k0 =>
     cases out with
     | nil=>cases ho
     | cons u l =>
      subst hels
      subst hlen
      refine bs.av (sx:=nos) hkA ?_
      repeat'(first|refine wk3 ?_|(refine wk2 ?_ ?_<;>intro _)|fail)
      exact Ym [20] rfl rfl rfl
theorem Zxc {n d m k:Int} (hd:0<d) (hk:0<k) (h:n / d<m / k):cmpQ n d m k = -1:=by
 have h1:=Int.lt_ediv_add_one_mul_self n hd
 have h2:=Int.ediv_mul_le m (show k≠0 by omega)
 have h3:=Qj (show n / d+1<=m / k by omega) (Qf hd)
 have h4:=Int.mul_lt_mul_of_pos_right (show n<m / k*d by omega) hk
 have h5:=Qj h2 (Qf hd)
 have e:m / k*d*k=m / k*k*d:=by grind
 unfold cmpQ sgn
 rw [if_neg (by omega),if_pos (by omega)]
theorem Zxb {n d m k:Int}:cmpQ n d m k = -cmpQ m k n d:=by
 unfold cmpQ
 have e:n*k-m*d = -(m*d-n*k):=by omega
 rw [e]
 generalize m*d-n*k=v
 unfold sgn
 split<;>split<;>(try split)<;>(try split)<;>omega
theorem Ydh {n d m k:Int} (h:n / d=m / k):cmpQ n d m k=cmpQ (n%d) d (m%k) k:=by
 unfold cmpQ
 have h1:=Kg n d
 have h2:=Kg m k
 congr 1
 rw [h] at h1
 generalize m / k=q at *
 generalize n%d=r at *
 generalize m%k=t at *
 subst h1 h2
 grind
theorem cmpQ_flip {n d m k:Int}:cmpQ n d m k=cmpQ k m d n:=by unfold cmpQ; congr 1; grind
noncomputable abbrev flr:List AV->Option PRes:=famA (fun p:Int × Int=>0<p.2 /\ -9223372036854775807<=p.1/\p.1<=9223372036854775807) (fun p=>[I p.1,I p.2]) (fun p=>⟨I (p.1 / p.2),[]⟩)
theorem Zwk {n b:Int} (hb:0<b) (h0 : -9223372036854775807<=n) (h1:n<=9223372036854775807):flr [I n,I b]=some ⟨I (n / b),[]⟩ :=
 Ye (p:=fun p:Int × Int=>0<p.2 /\ -9223372036854775807<=p.1/\p.1<=9223372036854775807) (g:=fun p=>[I p.1,I p.2]) (r:=fun p=>⟨I (p.1 / p.2),[]⟩) (k:=(n,b)) (fun j hj=>by
  simp only [Rp,Wa,true_and,and_true] at hj
  obtain ⟨h1,h2⟩:=hj
  dsimp only
  rw [h1,h2]) ⟨hb,h0,h1⟩
noncomputable def kC1:PC:=ins 185 flr pt0
theorem Yaq:PCOK Tryz.prog kC1:=Yo (fun p hp=>c90 hp.1 hp.2.1 hp.2.2) Zd
theorem Zos {n d:Int} (hd:0<d) (hd2:d<=9223372036854775807):Qa Qb (n-Qa Qb (n / d*d))=n%d:=by
 have h1:=Lg n (show d≠0 by omega)
 have h2:=Ny n hd
 have h3:=Kg n d
 rw [Rh] at h3
 simp only [IntKind.wrap_i64]
 omega
theorem c187 {n d m k:Int} (hd:0<d) (hk:0<k) (hd2:d<=9223372036854775807) (hk2:k<=9223372036854775807) (hn : -9223372036854775807<=n/\n<=9223372036854775807) (hm : -9223372036854775807<=m/\m<=9223372036854775807):PCall Tryz.prog 114 [I n,I d,I m,I k] ⟨I (cmpQ n d m k),[]⟩:=by
 refine pn Yaq Tryz.func114 ?_
 generalize hR:cmpQ n d m k=R
 refine Zq (S:=Int × Int × Int × Int) (fun t=>(t.2.1+t.2.2.2).toNat) (fun t=>[(0,I t.1),(1,I t.2.1),(2,I t.2.2.1),(3,I t.2.2.2)]) (fun _=>[]) 0 0 (fun t=>((0<t.2.1/\t.2.1<=9223372036854775807)/\(0<t.2.2.2/\t.2.2.2<=9223372036854775807))/\((-9223372036854775807<=t.1/\t.1<=9223372036854775807)/\(-9223372036854775807<=t.2.2.1/\t.2.2.1<=9223372036854775807))/\cmpQ t.1 t.2.1 t.2.2.1 t.2.2.2=R) (n,d,m,k) ⟨⟨⟨hd,hd2⟩,hk,hk2⟩,⟨hn,hm⟩,hR⟩ (Qd _) [] rfl (kps) (kps) ?_
 clear hR hd hk hd2 hk2 hn hm
 rintro ⟨n,d,m,k⟩ ⟨⟨⟨hd,hd2⟩,hk,hk2⟩,⟨hn,hm⟩,hR⟩
 dsimp only at hd hd2 hk hk2 hn hm hR ⊢
 have t1:=Zwk hd hn.1 hn.2
 have t2:=Zwk hk hm.1 hm.2
 have w1:=Zos (n:=n) hd hd2
 have w2:=Zos (n:=m) hk hk2
 have n1:=Lg n (show d≠0 by omega)
 have n2:=Ny n hd
 have m1:=Lg m (show k≠0 by omega)
 have m2:=Ny m hk
 refine bs.av (sx:=nos) Yaq ?_
 rcases Tu (n / d) (m / k) with hc|hc|hc
 ·have e:=Zxc hd hk hc
  rw [hR] at e
  rw [e]
  generalize n / d=P at *
  generalize m / k=Q at *
  repeat'(first|refine wk1 ?_|(refine wk2 ?_ ?_<;>intro _)|fail)
  exact Zc rfl
 ·have e:=Ydh hc
  rw [hR] at e
  rw [hc] at t1 w1
  generalize m / k=Q at *
  generalize n%d=r at *
  generalize m%k=t at *
  by_cases r0:r=0
  ·by_cases t0:t=0
   ·have:R=0:=by rw [e,r0,t0]; unfold cmpQ; simp [sgn]
    subst r0 t0
    rw [this]
    clear e hR this
    repeat'(first|refine wk1 ?_|(refine wk2 ?_ ?_<;>intro _)|fail)
    all_goals first
     | exact Zc rfl
     | (exfalso; rename_i hx; simp [w1,w2] at hx; done)
     | (exfalso; rename_i hx; simp [w1,w2] at hx; omega)
   ·have:R = -1:=by
     rw [e,r0]; unfold cmpQ sgn
     have:=Qt (show 0<t by omega) hd
     rw [if_neg (by omega),if_pos (by omega)]
    rw [this]
    repeat'(first|refine wk1 ?_|(refine wk2 ?_ ?_<;>intro _)|fail)
    all_goals first
     | exact Zc rfl
     | (exfalso; rename_i hx; simp [w1,w2] at hx; done)
     | (exfalso; rename_i hx; simp [w1,w2] at hx; omega)
  ·by_cases t0:t=0
   ·have:R=1:=by
     rw [e,t0]; unfold cmpQ sgn
     have:=Qt (show 0<r by omega) hk
     rw [if_pos (by omega)]
    rw [this]
    repeat'(first|refine wk1 ?_|(refine wk2 ?_ ?_<;>intro _)|fail)
    all_goals first
     | exact Zc rfl
     | (exfalso; rename_i hx; simp [w1,w2] at hx; done)
     | (exfalso; rename_i hx; simp [w1,w2] at hx; omega)
   ·repeat'(first|refine wk1 ?_|(refine wk2 ?_ ?_<;>intro _)|fail)
    exact Qu ⟨(k,t,d,r),[],rfl,by rw [w1,w2]; exact kps,kps,⟨⟨⟨by dsimp only; omega,by dsimp only; omega⟩,by dsimp only; omega,by dsimp only; omega⟩,⟨⟨by dsimp only; omega,by dsimp only; omega⟩,by dsimp only; omega,by dsimp only; omega⟩,by rw [e]; exact cmpQ_flip.symm⟩,by dsimp only; omega⟩
 ·have e:=Zxc hk hd hc
  have e2:R=1:=by rw [<-hR,Zxb,e]; rfl
  rw [e2]
  generalize n / d=P at *
  generalize m / k=Q at *
  repeat'(first|refine wk1 ?_|(refine wk2 ?_ ?_<;>intro _)|fail)
  exact Zc rfl
abbrev Ry.ra (r:Ry):AV:=.agg [I r.x,I r.y,I r.dx,I r.dy]
abbrev Ht.av (x:Ht):AV:=.agg [I x.nu,I x.de,Bo x.on,Bo x.well]
abbrev rh0:AV:=.agg [I 0,I 0,Bo false,Bo false]
def mrV:Option Ht->PRes
 | none=>⟨.tup [rh0,Bo false],[]⟩
 | some x=>⟨.tup [x.av,Bo true],[]⟩
theorem qin {q X M:Int} (h:0<q):within (q*X) 0 (q*M)=(decide (0<=X)&&decide (X<=M))/\within (q*X) 1 (q*M-1)=(decide (0<X)&&decide (X<M)):=by
 have e1:0<=q*X↔0<=X:=nn_l h
 have e2:0<q*X↔0<X:=Zmx h
 have e3:q*X<=q*M↔X<=M:=⟨fun k=>Int.le_of_mul_le_mul_left k h,fun k=>Qv k (by omega)⟩
 have e4:q*X<q*M↔X<M:=⟨fun k=>Int.lt_of_mul_lt_mul_left k (by omega),fun k=>Int.mul_lt_mul_of_pos_left k h⟩
 refine ⟨?_,?_⟩
 ·rw [Sq,within_iff,Qc,decide_eq_true_eq,decide_eq_true_eq,e1,e3]
 ·rw [Sq,within_iff,Qc,decide_eq_true_eq,decide_eq_true_eq,<-e2,<-e4]
  omega
theorem e85 {w:Wl} {n sx sy:Int} (h:Str w n sx sy) {r:Ry} (b:RyB r):PCall Tryz.prog 85 [w.ln.av,r.ra] (mrV (htN w n sx sy r)):=by
 obtain ⟨_,_,l1,l2,l3⟩:=h.ln
 have hn0:w.ln.n≠0:=by rw [l1]; have:=h.hn; omega
 have hq:=qpos h
 have hq2:sx*sx+sy*sy<=2:=by
  rcases h.hx with rfl|rfl|rfl<;>rcases h.hy with rfl|rfl|rfl<;>decide
 have hn:=h.hn
 have hnl:=h.nle
 have b1:=h.b1
 have b2:=h.b2
 have hp:PtOk r.x r.y 1:=by
  have:=b.x
  have:=b.y
  exact ⟨by omega,by omega,by omega,by omega⟩
 have c1:=c212 w.ln hn0
 have c2:=c185 w.ln ⟨r.x,r.y,0,1⟩ hn0
 have c3:=c186 w.ln ⟨r.x,r.y,0,1⟩ hn0
 have c4:=c188 w.ln hn0
 rw [l1,l2,l3] at c1
 rw [Za9 h hp,show bes w sx sy r.x r.y 1=fW w sx sy r by unfold bes fW; rw [Rs,Rs]] at c2
 rw [Zse h hp,show alo w sx sy r.x r.y 1=aW w sx sy r by unfold alo aW; rw [Rs,Rs]] at c3
 rw [Zwb h] at c4
 have bx:=b.dx
 have by':=b.dy
 have bd:(-100000<=fW w sx sy r/\fW w sx sy r<=100000)/\(-100000<=aW w sx sy r/\aW w sx sy r<=100000)/\(-200000<=gW sx sy r/\gW sx sy r<=200000)/\(-200000<=sx*r.dx+sy*r.dy/\sx*r.dx+sy*r.dy<=200000):=by
  have:=b.x
  have:=b.y
  unfold fW aW gW
  rcases h.hx with rfl|rfl|rfl<;>rcases h.hy with rfl|rfl|rfl<;>simp only [Int.zero_mul,Sk,Th]<;>omega
 have m1:=Yw (a:=sx) (b:=r.dx) (A:=1) (B:=100000) (by rcases h.hx with e|e|e<;>omega) bx
 have m2:=Yw (a:=sy) (b:=r.dy) (A:=1) (B:=100000) (by rcases h.hy with e|e|e<;>omega) by'
 have m3:=Yw (a:=sx) (b:=r.dy) (A:=1) (B:=100000) (by rcases h.hx with e|e|e<;>omega) by'
 have m4:=Yw (a:=sy) (b:=r.dx) (A:=1) (B:=100000) (by rcases h.hy with e|e|e<;>omega) bx
 have eG:Qa Qb (Qa Qb (sx*r.dy)-Qa Qb (sy*r.dx))=gW sx sy r:=by
  rw [W_eq (n:=sx*r.dy) (by omega) (by omega),W_eq (n:=sy*r.dx) (by omega) (by omega),W_eq (by omega) (by omega)]; rfl
 have eS:Qa Qb (Qa Qb (sx*r.dx)+Qa Qb (sy*r.dy))=sx*r.dx+sy*r.dy:=by
  rw [W_eq (n:=sx*r.dx) (by omega) (by omega),W_eq (n:=sy*r.dy) (by omega) (by omega),W_eq (by omega) (by omega)]
 have hal:=Zxz w sx sy r
 have hyw:=Zou h r
 generalize hgg:gW sx sy r=g at *
 generalize hff:fW w sx sy r=f at *
 generalize haa:aW w sx sy r=a at *
 have mq:=Yw (a:=n) (b:=sx*sx+sy*sy) (A:=10000) (B:=2) (by omega) (by omega)
 have key:∀ D F:Int,(-200000<=D/\D<=200000)->(-100000<=F/\F<=100000)->Qa Qb (Qa Qb (a*D)-Qa Qb (F*Qa Qb (Qa Qb (sx*r.dx)+Qa Qb (sy*r.dy))))=a*D-F*(sx*r.dx+sy*r.dy)/\Qa Qb (n*(sx*sx+sy*sy)*D)=(sx*sx+sy*sy)*(n*D)/\Qa Qb (Qa Qb (n*(sx*sx+sy*sy)*D)-1)=(sx*sx+sy*sy)*(n*D)-1:=fun D F hD hF=>by
  have k1:=Yw (a:=a) (b:=D) (A:=100000) (B:=200000) bd.2.1 hD
  have k2:=Yw (a:=F) (b:=sx*r.dx+sy*r.dy) (A:=100000) (B:=200000) hF bd.2.2.2
  have k3:=Yw (a:=n*(sx*sx+sy*sy)) (b:=D) (A:=20000) (B:=200000) (by omega) hD
  rw [eS,W_eq (n:=a*D) (by omega) (by omega),W_eq (n:=F*_) (by omega) (by omega),W_eq (n:=n*(sx*sx+sy*sy)*D) (by omega) (by omega)]
  refine ⟨W_eq (by omega) (by omega),by clear k1 k2 k3 hal hyw; grind,?_⟩
  rw [W_eq (by omega) (by omega)]
  clear k1 k2 k3 hal hyw; grind
 by_cases g0:g=0
 ·have e:htN w n sx sy r=none:=by unfold htN; rw [hgg,if_pos g0]
  rw [e]
  have hk0:=Za c1 (Za c2 Zd)
  rw [g0] at eG
  clear key hal hyw c1 c2 c3 c4 hgg hff haa bd mq m1 m2 m3 m4 eS e b
  generalize w.ln=l at *
  obtain ⟨rx,ry,rdx,rdy⟩:=r
  refine pn hk0 Tryz.func85 ?_
  repeat'(first|refine wk3 ?_|(refine wk2 ?_ ?_<;>intro _)|fail)
  all_goals first|exact Zg rfl rfl|(exfalso; simp_all; done)
 by_cases gl:g<0
 ·have e:htN w n sx sy r=some ⟨f,-g,decide (xW w r<=0)&&decide (0<=yW w r),decide (xW w r<0)&&decide (0<yW w r)⟩:=by unfold htN; rw [hgg,hff,if_neg g0,if_pos gl]
  rw [e]
  obtain ⟨k1,k2,k3⟩:=key (-g) (-f) (by omega) (by omega)
  have hX:a * -g - -f*(sx*r.dx+sy*r.dy)=(sx*sx+sy*sy) * -xW w r:=by
   rw [show a * -g - -f*(sx*r.dx+sy*r.dy) = -(a*g-f*(sx*r.dx+sy*r.dy)) by grind,hal]; grind
  obtain ⟨q1,q2⟩:=qin (q:=sx*sx+sy*sy) (X:=-xW w r) (M:=n * -g) hq
  rw [hX] at k1
  rw [<-k1] at q1 q2
  rw [<-k2] at q1
  rw [<-k3] at q2
  have w0:Qa Qb (0-g) = -g:=by rw [W_eq (by omega) (by omega)]; omega
  have w1:Qa Qb (0-f) = -f:=by rw [W_eq (by omega) (by omega)]; omega
  have w2:Qa Qb (0-Qa Qb (0-f))=f:=by rw [w1,W_eq (by omega) (by omega)]; omega
  rw [show (decide (0 <= -xW w r)&&decide (-xW w r<=n * -g))=(decide (xW w r<=0)&&decide (0<=yW w r)) by rw [hyw,show n * -g = -(n*g) by grind,Sq,Qc,Qc]; simp only [decide_eq_true_eq]; omega,<-w0,<-w1,<-eG] at q1
  rw [show (decide (0 < -xW w r)&&decide (-xW w r<n * -g))=(decide (xW w r<0)&&decide (0<yW w r)) by rw [hyw,show n * -g = -(n*g) by grind,Sq,Qc,Qc]; simp only [decide_eq_true_eq]; omega,<-w0,<-w1,<-eG] at q2
  have hres:mrV (some ⟨f,-g,decide (xW w r<=0)&&decide (0<=yW w r),decide (xW w r<0)&&decide (0<yW w r)⟩)=⟨.tup [.agg [I (Qa Qb (0-Qa Qb (0-f))),I (Qa Qb (0-Qa Qb (Qa Qb (sx*r.dy)-Qa Qb (sy*r.dx)))),Bo (decide (xW w r<=0)&&decide (0<=yW w r)),Bo (decide (xW w r<0)&&decide (0<yW w r))],Bo true],[]⟩:=by rw [w2,eG,w0]; rfl
  rw [hres,<-q1,<-q2]
  have hk0:=Za c1 (Za c2 (Za c3 (Za c4 Zkl)))
  have t1:¬ Qa Qb (Qa Qb (sx*r.dy)-Qa Qb (sy*r.dx))=0:=by omega
  have t2:Qa Qb (Qa Qb (sx*r.dy)-Qa Qb (sy*r.dx))<0:=by omega
  clear key hal hyw c1 c2 c3 c4 hgg hff haa bd mq m1 m2 m3 m4 eS e b q1 q2 k1 k2 k3 w0 w1 w2 hres hX eG
  generalize w.ln=l at *
  obtain ⟨rx,ry,rdx,rdy⟩:=r
  refine pn hk0 Tryz.func85 ?_
  repeat'(first|refine wk3 ?_|(refine wk2 ?_ ?_<;>intro _)|fail)
  all_goals first|exact Zg rfl rfl|(exfalso; simp_all; done)
 ·have e:htN w n sx sy r=some ⟨-f,g,decide (0<=xW w r)&&decide (yW w r<=0),decide (0<xW w r)&&decide (yW w r<0)⟩:=by unfold htN; rw [hgg,hff,if_neg g0,if_neg gl]
  rw [e]
  obtain ⟨k1,k2,k3⟩:=key g f (by omega) (by omega)
  rw [hal] at k1
  obtain ⟨q1,q2⟩:=qin (q:=sx*sx+sy*sy) (X:=xW w r) (M:=n*g) hq
  rw [<-k1] at q1 q2
  rw [<-k2] at q1
  rw [<-k3] at q2
  have w1:Qa Qb (0-f) = -f:=by rw [W_eq (by omega) (by omega)]; omega
  rw [show (decide (0<=xW w r)&&decide (xW w r<=n*g))=(decide (0<=xW w r)&&decide (yW w r<=0)) by rw [hyw,Sq,Qc,Qc]; simp only [decide_eq_true_eq]; omega,<-eG] at q1
  rw [show (decide (0<xW w r)&&decide (xW w r<n*g))=(decide (0<xW w r)&&decide (yW w r<0)) by rw [hyw,Sq,Qc,Qc]; simp only [decide_eq_true_eq]; omega,<-eG] at q2
  have hres:mrV (some ⟨-f,g,decide (0<=xW w r)&&decide (yW w r<=0),decide (0<xW w r)&&decide (yW w r<0)⟩)=⟨.tup [.agg [I (Qa Qb (0-f)),I (Qa Qb (Qa Qb (sx*r.dy)-Qa Qb (sy*r.dx))),Bo (decide (0<=xW w r)&&decide (yW w r<=0)),Bo (decide (0<xW w r)&&decide (yW w r<0))],Bo true],[]⟩:=by rw [w1,eG]; rfl
  rw [hres,<-q1,<-q2]
  have hk0:=Za c1 (Za c2 (Za c3 (Za c4 Zkl)))
  have t1:¬ Qa Qb (Qa Qb (sx*r.dy)-Qa Qb (sy*r.dx))=0:=by omega
  have t2:¬ Qa Qb (Qa Qb (sx*r.dy)-Qa Qb (sy*r.dx))<0:=by omega
  clear key hal hyw c1 c2 c3 c4 hgg hff haa bd mq m1 m2 m3 m4 eS e b q1 q2 k1 k2 k3 w1 hres eG
  generalize w.ln=l at *
  obtain ⟨rx,ry,rdx,rdy⟩:=r
  refine pn hk0 Tryz.func85 ?_
  repeat'(first|refine wk3 ?_|(refine wk2 ?_ ?_<;>intro _)|fail)
  all_goals first|exact Zg rfl rfl|(exfalso; simp_all; done)
def laV (a b:Ht):Int:=cmpQ a.nu a.de b.nu b.de
structure HtC (x:Ht):Prop where
 de:0<x.de/\x.de<=200000
 nu : -100000<=x.nu/\x.nu<=100000
theorem e87 {a b:Ht} (ha:HtC a) (hb:HtC b):PCall Tryz.prog 87 [a.av,b.av] ⟨I (laV a b),[]⟩:=by
 have c1:=c187 ha.de.1 hb.de.1 (by have:=ha.de; omega) (by have:=hb.de; omega) (n:=a.nu) (m:=b.nu) (by have:=ha.nu; omega) (by have:=hb.nu; omega)
 have hk0:=Za c1 Zd
 unfold laV
 clear c1 ha hb
 obtain ⟨a1,a2,a3,a4⟩:=a
 obtain ⟨b1,b2,b3,b4⟩:=b
 refine pn hk0 Tryz.func87 ?_
 repeat'(first|refine wk3 ?_|(refine wk2 ?_ ?_<;>intro _)|fail)
 exact Zc rfl
theorem Yam {a b:Ht}:laV a b<0↔a.nu*b.de<b.nu*a.de:=by unfold laV cmpQ; rw [Uj]; omega
theorem Yal {a b:Ht}:0<laV a b↔b.nu*a.de<a.nu*b.de:=by unfold laV cmpQ; rw [Ui]; omega
theorem Zvi {a b:Ht}:laV a b=0↔a.nu*b.de=b.nu*a.de:=by unfold laV cmpQ; rw [Zg8]; omega
theorem e86 {h:Hal} (hf:h.few) {k:Nat} (hk:k<h.cs.length):PCall Tryz.prog 86 [h.av,I k] ⟨(wlOf h.cs k).ln.av,[]⟩:=c105 hf hk
noncomputable abbrev rLi (h:Hal):List AV->Option PRes:=famA (fun k:Nat=>k<h.cs.length) (fun k=>[h.av,I k]) (fun k=>⟨(wlOf h.cs k).ln.av,[]⟩)
theorem Zo9 {h:Hal} {k:Nat} (hk:k<h.cs.length):rLi h [h.av,I k]=some ⟨(wlOf h.cs k).ln.av,[]⟩ :=
 Ye (p:=fun k:Nat=>k<h.cs.length) (g:=fun k=>[h.av,I k]) (r:=fun k=>⟨(wlOf h.cs k).ln.av,[]⟩) (k:=k) (fun j hj=>by
  simp only [Rp,Wa,true_and,and_true] at hj
  rw [Mf hj]) hk
theorem Ye1 {a b:Ln} (h:a.av=b.av):a=b:=by
 obtain ⟨a1,a2,a3,a4⟩:=a
 obtain ⟨b1,b2,b3,b4⟩:=b
 simp only [Rp,Wa,Pr,true_and,and_true] at h
 obtain ⟨rfl,rfl,rfl,rfl⟩:=h
 rfl
def htL (l:Ln) (r:Ry):Option Ht:=htN ⟨0,l.x,l.y,Qa Qb (l.x+l.dx),Qa Qb (l.y+l.dy)⟩ l.n l.sx l.sy r
theorem Yaw {w:Wl} {n sx sy:Int} (h:Str w n sx sy) (r:Ry):htL w.ln r=htN w n sx sy r:=by
 obtain ⟨a1,a2,a3,a4,a5⟩:=h.ln
 have e:=ln_b h
 have e1:Qa Qb (w.ln.x+w.ln.dx)=w.tx:=congrArg Pt.x e
 have e2:Qa Qb (w.ln.y+w.ln.dy)=w.ty:=congrArg Pt.y e
 unfold htL
 rw [a3,a4,a5,e1,e2]
 rfl
noncomputable abbrev rMr:List AV->Option PRes:=famA (fun q:Ln × Ry=>RyB q.2/\∃ w n sx sy,Str w n sx sy/\q.1=w.ln) (fun q=>[q.1.av,q.2.ra]) (fun q=>mrV (htL q.1 q.2))
theorem Yd9 {pt:PC} (hp:PCOK Tryz.prog pt):PCOK Tryz.prog (ins 85 rMr pt):=Yo (fun q hq=>by
 obtain ⟨b,w,n,sx,sy,h,e⟩:=hq
 rw [e,Yaw h]
 exact e85 h b) hp
theorem Zz8 {r q:Ry} (h:r.ra=q.ra):r=q:=by
 obtain ⟨a,b,c,d⟩:=r
 obtain ⟨a',b',c',d'⟩:=q
 simp only [Rp,Wa,Pr,true_and,and_true] at h
 obtain ⟨rfl,rfl,rfl,rfl⟩:=h
 rfl
theorem Yb0 {w:Wl} {n sx sy:Int} (h:Str w n sx sy) {r:Ry} (b:RyB r):rMr [w.ln.av,r.ra]=some (mrV (htW w r)):=by
 rw [Ua h,<-Yaw h]
 exact Ye (p:=fun q:Ln × Ry=>RyB q.2/\∃ w n sx sy,Str w n sx sy/\q.1=w.ln) (g:=fun q=>[q.1.av,q.2.ra]) (r:=fun q=>mrV (htL q.1 q.2)) (k:=(w.ln,r)) (fun j hj=>by
  rw [Ye1 (Rv hj).1,Zz8 (Rv (Rv hj).2).1]) ⟨b,w,n,sx,sy,h,rfl⟩
noncomputable abbrev rLa:List AV->Option PRes:=famA (fun q:Ht × Ht=>HtC q.1/\HtC q.2) (fun q=>[q.1.av,q.2.av]) (fun q=>⟨I (laV q.1 q.2),[]⟩)
theorem Yav {x y:Ht} (h:x.av=y.av):x=y:=by
 obtain ⟨a,b,c,d⟩:=x
 obtain ⟨a',b',c',d'⟩:=y
 simp only [Rp,Wa,AV.bool.injEq,Pr,true_and,and_true] at h
 obtain ⟨rfl,rfl,rfl,rfl⟩:=h
 rfl
theorem Zlg {a b:Ht} (ha:HtC a) (hb:HtC b):rLa [a.av,b.av]=some ⟨I (laV a b),[]⟩ :=
 Ye (p:=fun q:Ht × Ht=>HtC q.1/\HtC q.2) (g:=fun q=>[q.1.av,q.2.av]) (r:=fun q=>⟨I (laV q.1 q.2),[]⟩) (k:=(a,b)) (fun j hj=>by
  rw [Yav (Rv hj).1,Yav (Rv (Rv hj).2).1]) ⟨ha,hb⟩
theorem Yed {pt:PC} (hp:PCOK Tryz.prog pt):PCOK Tryz.prog (ins 87 rLa pt):=Yo (fun q hq=>e87 hq.1 hq.2) hp
def bcl:Option Cd->List AV
 | none=>[I 0,I 0,Bo false,Bo false]
 | some c=>[I c.nu,I c.de,Bo true,Bo c.well]
def bwl:Option Cd->Int
 | none=>-1
 | some c=>c.i
def fsV (o:Option Cd):PRes:=⟨.tup [I (bwl o),.agg (bcl o)],[]⟩
theorem e47 {h:Hal} (hf:h.few) (g:h.fine) {r:Ry} (b:RyB r) {fr:Int × Int} {last:Int} (B:Bh h.cs r fr last):PCall Tryz.prog 47 [h.av,r.ra,I last] (fsV (bstR (Zv h.cs r fr last) h.cs.length)):=by
 have hk0:PCOK Tryz.prog (ins 86 (rLi h) (ins 85 rMr (ins 87 rLa pt0))):=Yo (fun k hk=>e86 hf hk) (Yd9 (Yed Zd))
 have hwc:h.ws.length=h.cs.length:=g.le.2.2.1
 have hl3:h.cs.length<1000:=hf.2.1
 have len:(h.ws.map Wal.av).length=h.cs.length:=by simp [hwc]
 obtain ⟨y,hy1,hy2,hyc,hyl⟩:∃ y:Ht,y.nu=fr.1/\y.de=fr.2/\HtC y/\((last = -1/\y=⟨0,1,false,false⟩)\/∃ i:Nat,i<h.cs.length/\last=(i:Int)/\htW (wlOf h.cs i) r=some y):=by
  rcases B.last with ⟨h1,h2⟩|⟨i,hi,h1,h2,y,hy,h3,h4⟩
  ·exact ⟨⟨0,1,false,false⟩,by rw [h2],by rw [h2],⟨by decide,by decide⟩,.inl ⟨h1,rfl⟩⟩
  ·obtain ⟨n,sx,sy,hs⟩:=g.st i hi
   have hb:=Zni hs b (by rw [<-Ua hs]; exact hy)
   exact ⟨y,h3,h4,⟨hb.de,hb.nu⟩,.inr ⟨i,hi,h1,hy⟩⟩
 have hMr:=fun k (hk:k<h.cs.length)=>Yb0 (g.st k hk).choose_spec.choose_spec.choose_spec b
 have hbm:∀ k,k<=h.cs.length->∀ c,bstR (Zv h.cs r fr last) k=some c->HtC ⟨c.nu,c.de,true,c.well⟩:=fun k hk c e=>by
  rw [Zxl (m:=h.cs.length) (fun i j b c hij hj h1 h2 h3=>Zr4 g i j b c hij hj h1 h2 h3) k hk] at e
  obtain ⟨i,hi,e2⟩:=Ue e
  have hb:=Ydj g b (by omega) e2
  exact ⟨hb.de,hb.nu⟩
 rcases hyl with ⟨rfl,rfl⟩|⟨i,hi,rfl,hy⟩
 ·refine bs.pv (sx:=nos) hk0 Tryz.func47 (by kernel_rfl) (by kernel_rfl) (by cases bstR (Zv h.cs r fr _) h.cs.length<;>rfl) ?_
  unfold Zeb
  conv=>whnf
  repeat'(first|refine wk3 ?_|(refine wk2 ?_ ?_<;>intro _)|fail)
  refine Zq (S:=Nat × Int × Option Cd) (fun t=>h.cs.length-t.1)
   (fun t=>[(2,I (-1)),(3,.ptr 0 0 0),(4,.ptr 1 0 0),(6,I 0),(7,.ptr 2 0 0),(8,.ptr 3 0 0),(9,I (bwl t.2.2)),(10,.ptr 4 0 0),(11,I t.2.1)])
   (fun t=>[(4,.row 4 [bcl t.2.2] true false),(3,.row 4 [[I (⟨0,1,false,false⟩:Ht).nu,I (⟨0,1,false,false⟩:Ht).de,Bo (⟨0,1,false,false⟩:Ht).on,Bo (⟨0,1,false,false⟩:Ht).well]] true false),(2,.row 4 [[I 0,I 0,Bo false,Bo false]] true false),(1,.row 4 [[I r.x,I r.y,I r.dx,I r.dy]] true false),(0,.row 9 [h.cells] true false)]) 5 5
   (fun t=>t.2.1=t.1/\t.1<=h.cs.length/\t.2.2=bstR (Zv h.cs r fr (-1)) t.1) (0,0,none) ⟨rfl,Qq _,rfl⟩ (Qd _) [] rfl (kps) (kps) ?_
  rintro ⟨k,ik,acc⟩ ⟨hik,hk,ha⟩
  dsimp only at hik hk ha ⊢
  subst hik
  by_cases hlt:k<h.cs.length
  ·have c3:=hMr k hlt
   have c4:=Zo9 hlt
   have hst:bstR (Zv h.cs r fr (-1)) (k+1)=stR acc (Zv h.cs r fr (-1) k):=by rw [bstR,<-ha]
   have hA:∀ b,acc=some b->HtC ⟨b.nu,b.de,true,b.well⟩:=fun c e=>hbm k hk c (by rw [<-ha]; exact e)
   by_cases hkl:(k:Int)=(-1)
   ·exact absurd hkl (by omega)
   ·cases hx:htW (wlOf h.cs k) r with
    | none =>
     have hc:Zv h.cs r fr (-1) k=none:=Zjj hx
     have hst:bstR (Zv h.cs r fr (-1)) (k+1)=acc:=by rw [hst,hc]; cases acc<;>rfl
     rw [hx] at c3
     change _=some (⟨.tup [rh0,Bo false],[]⟩:PRes) at c3
     cases acc<;>refine bs.av (sx:=nos) hk0 ?_<;>repeat'(first|refine wk3 ?_|(refine wk2 ?_ ?_<;>intro _)|fail)
     all_goals first|exact Qu ⟨(k+1,_,_),[],rfl,kps,kps,⟨Ze (by omega),hlt,hst.symm⟩,by dsimp only; omega⟩|(exfalso; simp_all; done)
    | some x =>
     have hc:=Zp8 B hx
     have hxC:HtC x:=by
      obtain ⟨n,sx,sy,hs⟩:=g.st k hlt
      have hb:=Zni hs b (by rw [<-Ua hs]; exact hx)
      exact ⟨hb.de,hb.nu⟩
     rw [hx] at c3
     change _=some (⟨.tup [x.av,Bo true],[]⟩:PRes) at c3
     have c5:=Zlg hxC hyc
     have hpos:0<laV x (⟨0,1,false,false⟩:Ht)↔fr.1*x.de<x.nu*fr.2:=by rw [Yal,hy1,hy2]
     cases ho:x.on with
     | false =>
      rw [ho] at hc
      rw [if_neg (by simp)] at hc
      have hst:bstR (Zv h.cs r fr (-1)) (k+1)=acc:=by rw [hst,hc]; cases acc<;>rfl
      clear hc hpos c5 hxC hx
      obtain ⟨x1,x2,x3,x4⟩:=x
      subst ho
      cases acc<;>refine bs.av (sx:=nos) hk0 ?_<;>repeat'(first|refine wk3 ?_|(refine wk2 ?_ ?_<;>intro _)|fail)
      all_goals first|exact Qu ⟨(k+1,_,_),[],rfl,kps,kps,⟨Ze (by omega),hlt,hst.symm⟩,by dsimp only; omega⟩|(exfalso; simp_all; done)
     | true =>
      by_cases hp:0<laV x (⟨0,1,false,false⟩:Ht)
      ·rw [if_pos ⟨ho,hpos.1 hp⟩] at hc
       rw [hc] at hst
       clear hc hpos hx
       obtain ⟨x1,x2,x3,x4⟩:=x
       subst ho
       dsimp only at hst
       cases acc with
       | none =>
        have hst:bstR (Zv h.cs r fr (-1)) (k+1)=some ⟨k,x1,x2,x4⟩:=hst
        refine bs.av (sx:=nos) hk0 ?_
        repeat'(first|refine wk3 ?_|(refine wk2 ?_ ?_<;>intro _)|fail)
        all_goals first|exact Qu ⟨(k+1,_,some ⟨k,x1,x2,x4⟩),[],rfl,kps,kps,⟨Ze (by omega),hlt,hst.symm⟩,by dsimp only; omega⟩|(exfalso; simp_all; done)
       | some c =>
        have c6:=Zlg hxC (hA c rfl)
        have hng:laV ⟨x1,x2,true,x4⟩ ⟨c.nu,c.de,true,c.well⟩<0↔Za1 ⟨k,x1,x2,x4⟩ c:=Yam
        have hzr:laV ⟨x1,x2,true,x4⟩ ⟨c.nu,c.de,true,c.well⟩=0↔x1*c.de=c.nu*x2:=Zvi
        have hst:bstR (Zv h.cs r fr (-1)) (k+1)=if Za1 ⟨k,x1,x2,x4⟩ c\/(x1*c.de=c.nu*x2/\c.well=true) then some ⟨k,x1,x2,x4⟩ else some c:=hst
        have hst:=hst.trans (ite_congr (propext (or_congr hng.symm (and_congr hzr.symm Iff.rfl))) (fun _=>rfl) (fun _=>rfl))
        clear hng hzr hxC hA ha
        generalize laV ⟨x1,x2,true,x4⟩ ⟨c.nu,c.de,true,c.well⟩=L2 at *
        generalize laV ⟨x1,x2,true,x4⟩ (⟨0,1,false,false⟩:Ht)=L1 at *
        obtain ⟨ci,cn,cd,cw⟩:=c
        dsimp only at hst
        by_cases hneg:L2<0
        ·rw [if_pos (.inl hneg)] at hst
         refine bs.av (sx:=nos) hk0 ?_
         repeat'(first|refine wk3 ?_|(refine wk2 ?_ ?_<;>intro _)|fail)
         all_goals first|exact Qu ⟨(k+1,_,some ⟨k,x1,x2,x4⟩),[],rfl,kps,kps,⟨Ze (by omega),hlt,hst.symm⟩,by dsimp only; omega⟩|(exfalso; simp_all; done)
        ·by_cases hz:L2=0
         ·cases cw with
          | true =>
           rw [if_pos (.inr ⟨hz,rfl⟩)] at hst
           refine bs.av (sx:=nos) hk0 ?_
           repeat'(first|refine wk3 ?_|(refine wk2 ?_ ?_<;>intro _)|fail)
           all_goals first|exact Qu ⟨(k+1,_,some ⟨k,x1,x2,x4⟩),[],rfl,kps,kps,⟨Ze (by omega),hlt,hst.symm⟩,by dsimp only; omega⟩|(exfalso; simp_all; done)
          | false =>
           rw [if_neg (by rintro (q|⟨_,q⟩); exact hneg q; cases q)] at hst
           refine bs.av (sx:=nos) hk0 ?_
           repeat'(first|refine wk3 ?_|(refine wk2 ?_ ?_<;>intro _)|fail)
           all_goals first|exact Qu ⟨(k+1,_,some ⟨ci,cn,cd,false⟩),[],rfl,kps,kps,⟨Ze (by omega),hlt,hst.symm⟩,by dsimp only; omega⟩|(exfalso; simp_all; done)
         ·rw [if_neg (by rintro (q|⟨q,_⟩); exact hneg q; exact hz q)] at hst
          refine bs.av (sx:=nos) hk0 ?_
          repeat'(first|refine wk3 ?_|(refine wk2 ?_ ?_<;>intro _)|fail)
          all_goals first|exact Qu ⟨(k+1,_,some ⟨ci,cn,cd,cw⟩),[],rfl,kps,kps,⟨Ze (by omega),hlt,hst.symm⟩,by dsimp only; omega⟩|(exfalso; simp_all; done)
      ·rw [if_neg (fun q=>hp (hpos.2 q.2))] at hc
       have hst:bstR (Zv h.cs r fr (-1)) (k+1)=acc:=by rw [hst,hc]; cases acc<;>rfl
       clear hc hpos hx hxC
       obtain ⟨x1,x2,x3,x4⟩:=x
       subst ho
       generalize laV ⟨x1,x2,true,x4⟩ (⟨0,1,false,false⟩:Ht)=L1 at *
       cases acc<;>refine bs.av (sx:=nos) hk0 ?_<;>repeat'(first|refine wk3 ?_|(refine wk2 ?_ ?_<;>intro _)|fail)
       all_goals first|exact Qu ⟨(k+1,_,_),[],rfl,kps,kps,⟨Ze (by omega),hlt,hst.symm⟩,by dsimp only; omega⟩|(exfalso; simp_all; done)
  ·obtain rfl:k=h.cs.length:=by omega
   rw [<-ha]
   cases acc
   all_goals
    refine bs.av (sx:=nos) hk0 ?_
    repeat'(first|refine wk3 ?_|(refine wk2 ?_ ?_<;>intro _)|fail)
    exact Zg rfl rfl
 ·have c1:=hMr i hi
  rw [hy] at c1
  change _=some (⟨.tup [y.av,Bo true],[]⟩:PRes) at c1
  have c2:=Zo9 hi
  refine bs.pv (sx:=nos) hk0 Tryz.func47 (by kernel_rfl) (by kernel_rfl) (by cases bstR (Zv h.cs r fr _) h.cs.length<;>rfl) ?_
  repeat'(first|refine wk3 ?_|(refine wk2 ?_ ?_<;>intro _)|fail)
  refine Zq (S:=Nat × Int × Option Cd) (fun t=>h.cs.length-t.1)
   (fun t=>[(2,I (i:Int)),(3,.ptr 0 0 0),(4,.ptr 1 0 0),(6,I 0),(7,.ptr 2 0 0),(8,.ptr 3 0 0),(9,I (bwl t.2.2)),(10,.ptr 13 0 0),(11,I t.2.1)])
   (fun t=>[(13,.row 4 [bcl t.2.2] true false),(3,.row 4 [[I y.nu,I y.de,Bo y.on,Bo y.well]] true false),(2,.row 4 [[I 0,I 0,Bo false,Bo false]] true false),(1,.row 4 [[I r.x,I r.y,I r.dx,I r.dy]] true false),(0,.row 9 [h.cells] true false)]) 14 14
   (fun t=>t.2.1=t.1/\t.1<=h.cs.length/\t.2.2=bstR (Zv h.cs r fr (i:Int)) t.1) (0,0,none) ⟨rfl,Qq _,rfl⟩ (Qd _) [] rfl (kps) (kps) ?_
  rintro ⟨k,ik,acc⟩ ⟨hik,hk,ha⟩
  dsimp only at hik hk ha ⊢
  subst hik
  by_cases hlt:k<h.cs.length
  ·have c3:=hMr k hlt
   have c4:=Zo9 hlt
   have hst:bstR (Zv h.cs r fr (i:Int)) (k+1)=stR acc (Zv h.cs r fr (i:Int) k):=by rw [bstR,<-ha]
   have hA:∀ b,acc=some b->HtC ⟨b.nu,b.de,true,b.well⟩:=fun c e=>hbm k hk c (by rw [<-ha]; exact e)
   by_cases hkl:(k:Int)=(i:Int)
   ·have hc:Zv h.cs r fr (i:Int) k=none:=if_pos hkl
    have hst:bstR (Zv h.cs r fr (i:Int)) (k+1)=acc:=by rw [hst,hc]; cases acc<;>rfl
    cases hx:htW (wlOf h.cs k) r<;>rw [hx] at c3
    ·change _=some (⟨.tup [rh0,Bo false],[]⟩:PRes) at c3
     cases acc<;>refine bs.av (sx:=nos) hk0 ?_<;>repeat'(first|refine wk3 ?_|(refine wk2 ?_ ?_<;>intro _)|fail)
     all_goals first|exact Qu ⟨(k+1,_,_),[],rfl,kps,kps,⟨Ze (by omega),hlt,hst.symm⟩,by dsimp only; omega⟩|(exfalso; simp_all; done)
    ·rename_i x
     change _=some (⟨.tup [x.av,Bo true],[]⟩:PRes) at c3
     cases acc<;>refine bs.av (sx:=nos) hk0 ?_<;>repeat'(first|refine wk3 ?_|(refine wk2 ?_ ?_<;>intro _)|fail)
     all_goals first|exact Qu ⟨(k+1,_,_),[],rfl,kps,kps,⟨Ze (by omega),hlt,hst.symm⟩,by dsimp only; omega⟩|(exfalso; simp_all; done)
   ·cases hx:htW (wlOf h.cs k) r with
    | none =>
     have hc:Zv h.cs r fr (i:Int) k=none:=Zjj hx
     have hst:bstR (Zv h.cs r fr (i:Int)) (k+1)=acc:=by rw [hst,hc]; cases acc<;>rfl
     rw [hx] at c3
     change _=some (⟨.tup [rh0,Bo false],[]⟩:PRes) at c3
     cases acc<;>refine bs.av (sx:=nos) hk0 ?_<;>repeat'(first|refine wk3 ?_|(refine wk2 ?_ ?_<;>intro _)|fail)
     all_goals first|exact Qu ⟨(k+1,_,_),[],rfl,kps,kps,⟨Ze (by omega),hlt,hst.symm⟩,by dsimp only; omega⟩|(exfalso; simp_all; done)
    | some x =>
     have hc:=Zp8 B hx
     have hxC:HtC x:=by
      obtain ⟨n,sx,sy,hs⟩:=g.st k hlt
      have hb:=Zni hs b (by rw [<-Ua hs]; exact hx)
      exact ⟨hb.de,hb.nu⟩
     rw [hx] at c3
     change _=some (⟨.tup [x.av,Bo true],[]⟩:PRes) at c3
     have c5:=Zlg hxC hyc
     have hpos:0<laV x y↔fr.1*x.de<x.nu*fr.2:=by rw [Yal,hy1,hy2]
     cases ho:x.on with
     | false =>
      rw [ho] at hc
      rw [if_neg (by simp)] at hc
      have hst:bstR (Zv h.cs r fr (i:Int)) (k+1)=acc:=by rw [hst,hc]; cases acc<;>rfl
      clear hc hpos c5 hxC hx
      obtain ⟨x1,x2,x3,x4⟩:=x
      subst ho
      cases acc<;>refine bs.av (sx:=nos) hk0 ?_<;>repeat'(first|refine wk3 ?_|(refine wk2 ?_ ?_<;>intro _)|fail)
      all_goals first|exact Qu ⟨(k+1,_,_),[],rfl,kps,kps,⟨Ze (by omega),hlt,hst.symm⟩,by dsimp only; omega⟩|(exfalso; simp_all; done)
     | true =>
      by_cases hp:0<laV x y
      ·rw [if_pos ⟨ho,hpos.1 hp⟩] at hc
       rw [hc] at hst
       clear hc hpos hx
       obtain ⟨x1,x2,x3,x4⟩:=x
       subst ho
       dsimp only at hst
       cases acc with
       | none =>
        have hst:bstR (Zv h.cs r fr (i:Int)) (k+1)=some ⟨k,x1,x2,x4⟩:=hst
        refine bs.av (sx:=nos) hk0 ?_
        repeat'(first|refine wk3 ?_|(refine wk2 ?_ ?_<;>intro _)|fail)
        all_goals first|exact Qu ⟨(k+1,_,some ⟨k,x1,x2,x4⟩),[],rfl,kps,kps,⟨Ze (by omega),hlt,hst.symm⟩,by dsimp only; omega⟩|(exfalso; simp_all; done)
       | some c =>
        have c6:=Zlg hxC (hA c rfl)
        have hng:laV ⟨x1,x2,true,x4⟩ ⟨c.nu,c.de,true,c.well⟩<0↔Za1 ⟨k,x1,x2,x4⟩ c:=Yam
        have hzr:laV ⟨x1,x2,true,x4⟩ ⟨c.nu,c.de,true,c.well⟩=0↔x1*c.de=c.nu*x2:=Zvi
        have hst:bstR (Zv h.cs r fr (i:Int)) (k+1)=if Za1 ⟨k,x1,x2,x4⟩ c\/(x1*c.de=c.nu*x2/\c.well=true) then some ⟨k,x1,x2,x4⟩ else some c:=hst
        have hst:=hst.trans (ite_congr (propext (or_congr hng.symm (and_congr hzr.symm Iff.rfl))) (fun _=>rfl) (fun _=>rfl))
        clear hng hzr hxC hA ha
        generalize laV ⟨x1,x2,true,x4⟩ ⟨c.nu,c.de,true,c.well⟩=L2 at *
        generalize laV ⟨x1,x2,true,x4⟩ y=L1 at *
        obtain ⟨ci,cn,cd,cw⟩:=c
        dsimp only at hst
        by_cases hneg:L2<0
        ·rw [if_pos (.inl hneg)] at hst
         refine bs.av (sx:=nos) hk0 ?_
         repeat'(first|refine wk3 ?_|(refine wk2 ?_ ?_<;>intro _)|fail)
         all_goals first|exact Qu ⟨(k+1,_,some ⟨k,x1,x2,x4⟩),[],rfl,kps,kps,⟨Ze (by omega),hlt,hst.symm⟩,by dsimp only; omega⟩|(exfalso; simp_all; done)
        ·by_cases hz:L2=0
         ·cases cw with
          | true =>
           rw [if_pos (.inr ⟨hz,rfl⟩)] at hst
           refine bs.av (sx:=nos) hk0 ?_
           repeat'(first|refine wk3 ?_|(refine wk2 ?_ ?_<;>intro _)|fail)
           all_goals first|exact Qu ⟨(k+1,_,some ⟨k,x1,x2,x4⟩),[],rfl,kps,kps,⟨Ze (by omega),hlt,hst.symm⟩,by dsimp only; omega⟩|(exfalso; simp_all; done)
          | false =>
           rw [if_neg (by rintro (q|⟨_,q⟩); exact hneg q; cases q)] at hst
           refine bs.av (sx:=nos) hk0 ?_
           repeat'(first|refine wk3 ?_|(refine wk2 ?_ ?_<;>intro _)|fail)
           all_goals first|exact Qu ⟨(k+1,_,some ⟨ci,cn,cd,false⟩),[],rfl,kps,kps,⟨Ze (by omega),hlt,hst.symm⟩,by dsimp only; omega⟩|(exfalso; simp_all; done)
         ·rw [if_neg (by rintro (q|⟨q,_⟩); exact hneg q; exact hz q)] at hst
          refine bs.av (sx:=nos) hk0 ?_
          repeat'(first|refine wk3 ?_|(refine wk2 ?_ ?_<;>intro _)|fail)
          all_goals first|exact Qu ⟨(k+1,_,some ⟨ci,cn,cd,cw⟩),[],rfl,kps,kps,⟨Ze (by omega),hlt,hst.symm⟩,by dsimp only; omega⟩|(exfalso; simp_all; done)
      ·rw [if_neg (fun q=>hp (hpos.2 q.2))] at hc
       have hst:bstR (Zv h.cs r fr (i:Int)) (k+1)=acc:=by rw [hst,hc]; cases acc<;>rfl
       clear hc hpos hx hxC
       obtain ⟨x1,x2,x3,x4⟩:=x
       subst ho
       generalize laV ⟨x1,x2,true,x4⟩ y=L1 at *
       cases acc<;>refine bs.av (sx:=nos) hk0 ?_<;>repeat'(first|refine wk3 ?_|(refine wk2 ?_ ?_<;>intro _)|fail)
       all_goals first|exact Qu ⟨(k+1,_,_),[],rfl,kps,kps,⟨Ze (by omega),hlt,hst.symm⟩,by dsimp only; omega⟩|(exfalso; simp_all; done)
  ·obtain rfl:k=h.cs.length:=by omega
   rw [<-ha]
   cases acc
   all_goals
    refine bs.av (sx:=nos) hk0 ?_
    repeat'(first|refine wk3 ?_|(refine wk2 ?_ ?_<;>intro _)|fail)
    exact Zg rfl rfl
abbrev st0:AV:=.agg [.nils,.nils]
theorem e91 {h:Hal} (hf:h.few) (g:h.fine) {k:Nat} (hk2:k<h.cs.length):PCall Tryz.prog 91 [h.av,st0,I k] ⟨P2 (plW (wlOf h.cs k)).1 (plW (wlOf h.cs k)).2,[]⟩:=by
 have hk:k<h.ws.length:=by have:=g.le; omega
 have hk0:=Za (c89 hf (SK.wall k hk)) (Zrd hf)
 have f3:=hf.2.2.1
 have f4:=hf.2.2.2.1
 have e1:=Vt hk2
 rw [show Zvj h k=(0,(k:Int)) by unfold Zvj; rw [if_pos (by omega)]] at hk0
 rw [Ze0] at e1
 refine pn hk0 Tryz.func91 ?_
 generalize wlOf h.cs k=w at *
 have hp:plW w=if w.ln.dx=0 then (0,w.ln.x) else if w.ln.dy=0 then (1,w.ln.y) else if w.ln.dx=w.ln.dy then (4,Qa Qb (w.ln.x-w.ln.y)) else (3,Qa Qb (w.ln.x+w.ln.y)):=rfl
 rw [hp]
 repeat'(first|refine wk1 ?_|(refine wk2 ?_ ?_<;>intro _)|fail)
 ·rename_i h1; rw [if_pos (of_decide_eq_true h1)]; exact Zg rfl rfl
 ·rename_i h1 h2; rw [if_neg (of_decide_eq_false h1),if_pos (of_decide_eq_true h2)]; exact Zg rfl rfl
 ·rename_i h1 h2 h3; rw [if_neg (of_decide_eq_false h1),if_neg (of_decide_eq_false h2),if_pos (of_decide_eq_true h3)]; exact Zg rfl rfl
 ·rename_i h1 h2 h3; rw [if_neg (of_decide_eq_false h1),if_neg (of_decide_eq_false h2),if_neg (of_decide_eq_false h3)]; exact Zg rfl rfl
theorem e52 {h:Hal} (hf:h.few) (g:h.fine) {k:Nat} (hk:k<h.cs.length):PCall Tryz.prog 52 [h.av,I k] ⟨P2 (plW (wlOf h.cs k)).1 (plW (wlOf h.cs k)).2,[]⟩:=by
 have hk0:=Za (e91 hf g hk) Zd
 generalize plW (wlOf h.cs k)=p at *
 refine pn hk0 Tryz.func52 ?_
 repeat'(first|refine wk3 ?_|(refine wk2 ?_ ?_<;>intro _)|fail)
 exact Zg rfl rfl
theorem Ygi {w:Wl} {n sx sy:Int} (h:Str w n sx sy) {x y:Int} (hx : -45000<=x/\x<=45000) (hy : -45000<=y/\y<=45000) :
  (rmir (plW w).1 (plW w).2 x y 0).1=w.fx+(mvD sx sy (x-w.fx) (y-w.fy)).1/\(rmir (plW w).1 (plW w).2 x y 0).2.1=w.fy+(mvD sx sy (x-w.fx) (y-w.fy)).2:=by
 obtain ⟨d1,d2,d3⟩:=Ybr h
 have b1:=h.b1
 have b2:=h.b2
 unfold plW mvD
 by_cases c2:sx=0
 ·have t2:w.dx=0:=d2.2 c2
  have c1:¬ sy=0:=fun q=>h.hxy ⟨c2,q⟩
  rw [if_pos t2,if_neg c1,if_pos c2,Zdy (by omega) (by omega) hx hy (by omega)]
  dsimp only
  rw [if_pos rfl]
  dsimp only; omega
 ·have t2:¬ w.dx=0:=fun q=>c2 (d2.1 q)
  rw [if_neg t2]
  by_cases c1:sy=0
  ·have t1:w.dy=0:=d1.2 c1
   rw [if_pos t1,if_pos c1,Zdy (by omega) (by omega) hx hy (by omega)]
   dsimp only
   rw [if_neg (by omega),if_pos rfl]
   dsimp only; omega
  ·have t1:¬ w.dy=0:=fun q=>c1 (d1.1 q)
   rw [if_neg t1,if_neg c1,if_neg c2]
   by_cases c3:sx=sy
   ·have t3:w.dx=w.dy:=d3.2 c3
    rw [if_pos t3,if_pos c3,W_eq (by omega) (by omega),Zdy (by omega) (by omega) hx hy (by omega)]
    dsimp only
    rw [if_neg (by omega),if_neg (by omega),if_neg (by omega),if_neg (by omega)]
    dsimp only; omega
   ·have t3:¬ w.dx=w.dy:=fun q=>c3 (d3.1 q)
    rw [if_neg t3,if_neg c3,W_eq (by omega) (by omega),Zdy (by omega) (by omega) hx hy (by omega)]
    dsimp only
    rw [if_neg (by omega),if_neg (by omega),if_neg (by omega),if_pos rfl]
    dsimp only; omega
theorem Zyl {k x y:Int} (hk:0<=k/\k<=4) (h2:k≠2) (hx:sm6 x) (hy:sm6 y):(rmir k 0 x y 0).1=(if k=0 then -x else if k=1 then x else if k=3 then -y else y)/\(rmir k 0 x y 0).2.1=(if k=0 then y else if k=1 then -y else if k=3 then -x else x):=by
 obtain ⟨x1,x2⟩:=hx
 obtain ⟨y1,y2⟩:=hy
 have e1:Qa Qb (2*0)=0:=rfl
 have e2:Qa Qb (0-x) = -x:=by rw [W_eq (by omega) (by omega)]; omega
 have e3:Qa Qb (0-y) = -y:=by rw [W_eq (by omega) (by omega)]; omega
 have e4:Qa Qb (y+0)=y:=by rw [W_eq (by omega) (by omega)]; omega
 have e5:Qa Qb (x-0)=x:=by rw [W_eq (by omega) (by omega)]; omega
 unfold rmir
 rw [e1,e2,e3,e4,e5]
 obtain rfl|rfl|rfl|rfl:k=0\/k=1\/k=3\/k=4:=by omega
 all_goals simp
theorem Ygj {w:Wl} {n sx sy:Int} (h:Str w n sx sy) {x y:Int} (hx:sm6 x) (hy:sm6 y) :
  (rmir (plW w).1 0 x y 0).1=(mvD sx sy x y).1/\(rmir (plW w).1 0 x y 0).2.1=(mvD sx sy x y).2:=by
 obtain ⟨d1,d2,d3⟩:=Ybr h
 unfold plW mvD
 by_cases c2:sx=0
 ·have t2:w.dx=0:=d2.2 c2
  have c1:¬ sy=0:=fun q=>h.hxy ⟨c2,q⟩
  rw [if_pos t2,if_neg c1,if_pos c2]
  have:=Zyl (k:=0) (by omega) (by omega) hx hy
  exact this
 ·have t2:¬ w.dx=0:=fun q=>c2 (d2.1 q)
  rw [if_neg t2]
  by_cases c1:sy=0
  ·have t1:w.dy=0:=d1.2 c1
   rw [if_pos t1,if_pos c1]
   have:=Zyl (k:=1) (by omega) (by omega) hx hy
   exact this
  ·have t1:¬ w.dy=0:=fun q=>c1 (d1.1 q)
   rw [if_neg t1,if_neg c1,if_neg c2]
   by_cases c3:sx=sy
   ·have t3:w.dx=w.dy:=d3.2 c3
    rw [if_pos t3,if_pos c3]
    have:=Zyl (k:=4) (by omega) (by omega) hx hy
    exact this
   ·have t3:¬ w.dx=w.dy:=fun q=>c3 (d3.1 q)
    rw [if_neg t3,if_neg c3]
    have:=Zyl (k:=3) (by omega) (by omega) hx hy
    exact this
theorem e48 {h:Hal} (hf:h.few) (g:h.fine) {k:Nat} (hk:k<h.cs.length) {n sx sy:Int} (hs:Str (wlOf h.cs k) n sx sy) {x y:Int} (hx : -45000<=x/\x<=45000) (hy : -45000<=y/\y<=45000) :
  PCall Tryz.prog 48 [h.av,I k,P2 x y] ⟨P2 ((wlOf h.cs k).fx+(mvD sx sy (x-(wlOf h.cs k).fx) (y-(wlOf h.cs k).fy)).1) ((wlOf h.cs k).fy+(mvD sx sy (x-(wlOf h.cs k).fx) (y-(wlOf h.cs k).fy)).2),[]⟩:=by
 obtain ⟨e1,e2⟩:=Ygi hs hx hy
 rw [<-e1,<-e2]
 have hk0:=Za (e52 hf g hk) (Za (c96 (plW (wlOf h.cs k)).1 (plW (wlOf h.cs k)).2 x y 0) Zd)
 generalize plW (wlOf h.cs k)=p at *
 obtain ⟨p1,p2⟩:=p
 dsimp only at *
 generalize rmir p1 p2 x y 0=q at *
 obtain ⟨q1,q2,q3⟩:=q
 clear e1 e2
 refine pn hk0 Tryz.func48 ?_
 repeat'(first|refine wk3 ?_|(refine wk2 ?_ ?_<;>intro _)|fail)
 exact Zg rfl rfl
theorem e19 {h:Hal} (hf:h.few) (g:h.fine) {k:Nat} (hk:k<h.cs.length) {n sx sy:Int} (hs:Str (wlOf h.cs k) n sx sy) {x y:Int} (hx:sm6 x) (hy:sm6 y) :
  PCall Tryz.prog 19 [h.av,I k,P2 x y] ⟨P2 (mvD sx sy x y).1 (mvD sx sy x y).2,[]⟩:=by
 obtain ⟨e1,e2⟩:=Ygj hs hx hy
 rw [<-e1,<-e2]
 have hk0:=Za (e52 hf g hk) (Za (c96 (plW (wlOf h.cs k)).1 0 x y 0) Zd)
 generalize plW (wlOf h.cs k)=p at *
 obtain ⟨p1,p2⟩:=p
 dsimp only at *
 generalize rmir p1 0 x y 0=q at *
 obtain ⟨q1,q2,q3⟩:=q
 clear e1 e2
 refine pn hk0 Tryz.func19 ?_
 repeat'(first|refine wk3 ?_|(refine wk2 ?_ ?_<;>intro _)|fail)
 exact Zg rfl rfl
noncomputable abbrev rFs (h:Hal):List AV->Option PRes:=famA (fun q:Ry × Int=>RyB q.1/\Bh h.cs q.1 (frL h.cs q.1 q.2) q.2) (fun q=>[h.av,q.1.ra,I q.2]) (fun q=>fsV (bstP (Zv h.cs q.1 (frL h.cs q.1 q.2) q.2) h.cs.length))
theorem Yb4 {h:Hal} {r:Ry} (b:RyB r) {fr:Int × Int} {last:Int} (B:Bh h.cs r fr last):rFs h [h.av,r.ra,I last]=some (fsV (bstP (Zv h.cs r fr last) h.cs.length)):=by
 have e:=B.fr
 subst e
 exact Ye (p:=fun q:Ry × Int=>RyB q.1/\Bh h.cs q.1 (frL h.cs q.1 q.2) q.2) (g:=fun q=>[h.av,q.1.ra,I q.2]) (r:=fun q=>fsV (bstP (Zv h.cs q.1 (frL h.cs q.1 q.2) q.2) h.cs.length)) (k:=(r,last)) (fun j hj=>by
  have e1:=Zz8 (Rv (Rv hj).2).1
  have e2:=(Dd (Rv (Rv (Rv hj).2).2).1).2
  rw [e1,e2]) ⟨b,B⟩
theorem Yef {h:Hal} (hf:h.few) (g:h.fine) {pt:PC} (hp:PCOK Tryz.prog pt):PCOK Tryz.prog (ins 47 (rFs h) pt):=Yo (fun q hq=>by
 rw [<-Yff g]
 exact e47 hf g hq.1 hq.2) hp
noncomputable abbrev rMi (h:Hal):List AV->Option PRes:=famA (fun q:Ry × Nat=>RyB q.1/\q.2<h.cs.length) (fun q=>[h.av,I q.2,P2 q.1.x q.1.y]) (fun q=>⟨P2 (rfW (wlOf h.cs q.2) q.1).x (rfW (wlOf h.cs q.2) q.1).y,[]⟩)
theorem Yae {a b c d:Int} (h:P2 a b=P2 c d):a=c/\b=d:=by
 simp only [Rp,Wa,Pr,true_and,and_true] at h
 exact h
theorem Yb1 {h:Hal} {r:Ry} (b:RyB r) {k:Nat} (hk:k<h.cs.length):rMi h [h.av,I k,P2 r.x r.y]=some ⟨P2 (rfW (wlOf h.cs k) r).x (rfW (wlOf h.cs k) r).y,[]⟩ :=
 Ye (p:=fun q:Ry × Nat=>RyB q.1/\q.2<h.cs.length) (g:=fun q=>[h.av,I q.2,P2 q.1.x q.1.y]) (r:=fun q=>⟨P2 (rfW (wlOf h.cs q.2) q.1).x (rfW (wlOf h.cs q.2) q.1).y,[]⟩) (k:=(r,k)) (fun j hj=>by
  have e3:=Mf (Dd (Rv (Rv hj).2).1).2
  obtain ⟨e1,e2⟩:=Yae (Rv (Rv (Rv hj).2).2).1
  unfold rfW rfN
  dsimp only
  rw [e1,e2,e3]) ⟨b,hk⟩
theorem Yea {h:Hal} (hf:h.few) (g:h.fine) {pt:PC} (hp:PCOK Tryz.prog pt):PCOK Tryz.prog (ins 48 (rMi h) pt):=Yo (fun q hq=>by
 obtain ⟨n,sx,sy,hs⟩:=g.st q.2 hq.2
 rw [Zka hs]
 exact e48 hf g hq.2 hs hq.1.x hq.1.y) hp
noncomputable abbrev rMd (h:Hal):List AV->Option PRes:=famA (fun q:Ry × Nat=>RyB q.1/\q.2<h.cs.length) (fun q=>[h.av,I q.2,P2 q.1.dx q.1.dy]) (fun q=>⟨P2 (rfW (wlOf h.cs q.2) q.1).dx (rfW (wlOf h.cs q.2) q.1).dy,[]⟩)
theorem Yb2 {h:Hal} {r:Ry} (b:RyB r) {k:Nat} (hk:k<h.cs.length):rMd h [h.av,I k,P2 r.dx r.dy]=some ⟨P2 (rfW (wlOf h.cs k) r).dx (rfW (wlOf h.cs k) r).dy,[]⟩ :=
 Ye (p:=fun q:Ry × Nat=>RyB q.1/\q.2<h.cs.length) (g:=fun q=>[h.av,I q.2,P2 q.1.dx q.1.dy]) (r:=fun q=>⟨P2 (rfW (wlOf h.cs q.2) q.1).dx (rfW (wlOf h.cs q.2) q.1).dy,[]⟩) (k:=(r,k)) (fun j hj=>by
  have e3:=Mf (Dd (Rv (Rv hj).2).1).2
  obtain ⟨e1,e2⟩:=Yae (Rv (Rv (Rv hj).2).2).1
  unfold rfW rfN
  dsimp only
  rw [e1,e2,e3]) ⟨b,hk⟩
theorem Yeb {h:Hal} (hf:h.few) (g:h.fine) {pt:PC} (hp:PCOK Tryz.prog pt):PCOK Tryz.prog (ins 19 (rMd h) pt):=Yo (fun q hq=>by
 obtain ⟨n,sx,sy,hs⟩:=g.st q.2 hq.2
 rw [Zka hs]
 have b1:=hq.1.dx
 have b2:=hq.1.dy
 exact e19 hf g hq.2 hs (x:=q.1.dx) (y:=q.1.dy) ⟨by omega,by omega⟩ ⟨by omega,by omega⟩) hp
def fllV (o:Option (List Int)):PRes:=⟨.tup [.isl 1 (nl (o.getD [])),Bo o.isSome],[]⟩
theorem frB {bl:List (Nat × List (List AV))} {b:Bool}:Frz bl (.tup [.nils,Bo b]) (.tup [.isl 1 (nl []),Bo b]):=⟨rfl,⟨rfl,rfl⟩,trivial⟩
theorem e14 {h:Hal} (hk:h.ok) (he:h.err=0) {r0:Ry} (hs0:RyS 0 r0) {m:Nat} (hm:m<=4):PCall Tryz.prog 14 [h.av,P2 r0.x r0.y,P2 r0.dx r0.dy,I m] (fllV (folL h.cs m r0 (0,1) (-1))):=by
 have fin:=Zi8 hk he
 have hkA:=Yef hk.f fin (Yea hk.f fin (Yeb hk.f fin Zd))
 have hB0:=Bh.start h.cs r0
 have hAll:=fin.st
 have hf:=hk.f
 generalize hR:folL h.cs m r0 (0,1) (-1)=R
 refine Nw (res:=match R with
  | none=>⟨.tup [.nils,Bo false],[]⟩
  | some []=>⟨.tup [.nils,Bo true],[]⟩
  | some (u::l)=>⟨.tup [.asl 0 0 (nl (u::l)).length,Bo true],[(1,nl (u::l))]⟩) ?_ ?_
 rotate_left
 ·cases R with
  | none=>exact frB
  | some l=>cases l with
   | nil=>exact frB
   | cons u l=>exact ⟨⟨rfl,rfl,rfl⟩,⟨rfl,rfl⟩,trivial⟩
 refine bs.pv (sx:=nos) hkA Tryz.func14 (by kernel_rfl) (by kernel_rfl) (by split<;>rfl) ?_
 unfold Zeb
 conv=>whnf
 repeat'(first|refine wk3 ?_|(refine wk2 ?_ ?_<;>intro _)|fail)
 refine Zve (S:=Nat × Ry × (Int × Int) × Int × Nat × List (List AV)) (fun s=>m-s.1)
  (fun s=>[(3,I (m:Int)),(4,.ptr 0 0 0),(5,.ptr 1 0 0),(6,.ptr 2 0 0),(8,.nils),(9,Bo false),(10,gv 3 s.1 s.2.2.2.2.1),(11,I s.2.2.2.1)])
  (fun s=>(2,.row 2 [[I s.2.1.dx,I s.2.1.dy]] true false)::(1,.row 2 [[I s.2.1.x,I s.2.1.y]] true false)::(0,.row 9 [h.cells] true false)::gz 3 1 s.1 s.2.2.2.2.2 []) 3 4
  (fun s=>s.1<=m/\RyS s.1 s.2.1/\Bh h.cs s.2.1 s.2.2.1 s.2.2.2.1/\∃ out:List Int,out.length=s.1/\s.2.2.2.2.1=s.2.2.2.2.2.length/\s.2.2.2.2.2=nl out/\R=(folL h.cs (m-s.1) s.2.1 s.2.2.1 s.2.2.2.1).map (fun l=>out++l))
  (0,r0,(0,1),-1,0,[]) ⟨Qq _,hs0,hB0,[],rfl,rfl,rfl,by rw [<-hR]; simp⟩ (Qk rfl) [] rfl (kps) (kps) ?_
 rintro ⟨k,r,fr,last,len,els⟩ ⟨hkm,hs,hB,out,ho,hlen,hels,hrec⟩
 dsimp only at hkm hs hB ho hlen hels hrec ⊢
 have hb:=hs.b (by omega)
 have cN:=Yb4 hb hB
 have hl4:els.length<100000:=by rw [hels,Yh]; omega
 have hlk:len=k:=by rw [hlen,hels,Yh]; exact ho
 by_cases hlt:k<m
 ·obtain ⟨q,hq⟩:∃ q,m-k=q+1:=⟨m-k-1,by omega⟩
  rw [hq,folL] at hrec
  have hmem:=fun c hc=>hB.next hAll (c:=c) hc
  generalize bstP (Zv h.cs r fr last) h.cs.length=o at *
  cases o with
  | none =>
   change _=some (⟨.tup [I (-1),rh0],[]⟩:PRes) at cN
   have hrec:R=none:=hrec
   subst hrec
   clear hmem
   obtain ⟨rx,ry,rdx,rdy⟩:=r
   cases k<;>refine bs.av (sx:=nos) hkA ?_<;>repeat'(first|refine wk3 ?_|(refine wk2 ?_ ?_<;>intro _)|fail)
   all_goals exact Zg rfl rfl
  | some c =>
   change _=some (⟨.tup [I (c.i:Int),.agg [I c.nu,I c.de,Bo true,Bo c.well]],[]⟩:PRes) at cN
   obtain ⟨hci,hBn⟩:=hmem c rfl
   have cM:=Yb1 hb hci
   have cD:=Yb2 hb hci
   have hsn:RyS (k+1) (rfW (wlOf h.cs c.i) r):=by
    obtain ⟨n,sx,sy,hst⟩:=hAll c.i hci
    rw [Zka hst]; exact hs.next hst
   clear hmem
   obtain ⟨ci,cnu,cde,cw⟩:=c
   dsimp only at hci hBn cM cD hsn hrec cN
   cases cw with
   | false =>
    rw [if_neg (by decide)] at hrec
    have hrec:R=none:=hrec
    subst hrec
    obtain ⟨rx,ry,rdx,rdy⟩:=r
    cases k<;>refine bs.av (sx:=nos) hkA ?_<;>repeat'(first|refine wk3 ?_|(refine wk2 ?_ ?_<;>intro _)|fail)
    all_goals exact Zg rfl rfl
   | true =>
    rw [if_pos rfl] at hrec
    have hrec2:R=(folL h.cs (m-(k+1)) (rfW (wlOf h.cs ci) r) (cnu,cde) ci).map (fun l=>(out++[(ci:Int)])++l):=by
     rw [hrec,show m-(k+1)=q by omega,Qbc]
     congr 1
     funext l
     simp
    clear hrec hs0 hB0 hB hs
    generalize rfW (wlOf h.cs ci) r=r2 at *
    obtain ⟨rx,ry,rdx,rdy⟩:=r
    obtain ⟨sx,sy,sdx,sdy⟩:=r2
    have hnl:nl (out++[(ci:Int)])=nl out++[[I (ci:Int)]]:=by simp [nl]
    cases k with
    | zero =>
     have hout:out=[]:=Po.1 ho
     refine bs.av (sx:=nos) hkA ?_
     repeat'(first|refine wk3 ?_|(refine wk2 ?_ ?_<;>intro _)|fail)
     exact Qu ⟨(1,⟨sx,sy,sdx,sdy⟩,(cnu,cde),ci,1,[[I (ci:Int)]]),[(3,6)],rfl,kps,kps,⟨hlt,hsn,hBn,out++[(ci:Int)],by rw [hout]; rfl,rfl,by rw [hout]; rfl,hrec2⟩,by dsimp only; omega⟩
    | succ k0 =>
     refine bs.av (sx:=nos) hkA ?_
     repeat'(first|refine wk3 ?_|(refine wk2 ?_ ?_<;>intro _)|fail)
     exact Qu ⟨(k0+1+1,⟨sx,sy,sdx,sdy⟩,(cnu,cde),ci,els.length+1,els++[[I (ci:Int)]]),[(3,6)],rfl,kps,kps,⟨hlt,hsn,hBn,out++[(ci:Int)],by rw [Ro,ho]; rfl,by simp,by rw [hnl,hels],hrec2⟩,by dsimp only; omega⟩
 ·obtain rfl:k=m:=by omega
  rw [Ly,folL] at hrec
  have hrec:R=some (out++[]):=hrec
  rw [Pw] at hrec
  subst hrec
  cases k with
  | zero =>
   obtain rfl:out=[]:=Po.1 ho
   refine bs.av (sx:=nos) hkA ?_
   repeat'(first|refine wk3 ?_|(refine wk2 ?_ ?_<;>intro _)|fail)
   exact Zg rfl rfl
  | succ k0 =>
   cases out with
   | nil=>cases ho
   | cons u l =>
    subst hels
    subst hlen
    refine bs.av (sx:=nos) hkA ?_
    repeat'(first|refine wk3 ?_|(refine wk2 ?_ ?_<;>intro _)|fail)
    exact Ym [3] rfl rfl rfl
def eqN:List Int->List Int->Bool
 | [],[]=>true
 | x::a,y::b=>decide (x=y)&&eqN a b
 | _,_=>false
theorem eqN_iff:∀ {a b:List Int},eqN a b=true↔a=b
 | [],[]=>by simp [eqN]
 | x::a,y::b=>by rw [eqN,Qc,decide_eq_true_eq,eqN_iff]; simp
 | [],y::b=>by simp [eqN]
 | x::a,[]=>by simp [eqN]
theorem Ydc {a b:List Int} (h:a.length≠b.length):eqN a b=false:=by
 rw [Bool.eq_false_iff,ne_eq,eqN_iff]
 intro e; exact h (by rw [e])
theorem c69 {a b:List Int} (hl:a.length<1000000) (hb:b.length<1000000):PCall Tryz.prog 15 [.isl 1 (nl a),.isl 1 (nl b)] ⟨Bo (eqN a b),[]⟩:=by
 have l1:=Yh a
 have l2:=Yh b
 refine pn Zd Tryz.func15 ?_
 by_cases hlen:a.length=b.length
 ·repeat'(first|refine wk1 ?_|(refine wk2 ?_ ?_<;>intro _)|fail)
  refine Zq (S:=Nat × Int) (fun t=>a.length-t.1) (fun t=>[(0,.isl 1 (nl a)),(1,.isl 1 (nl b)),(5,I t.2)]) (fun _=>[]) 0 0 (fun t=>t.2=t.1/\t.1<=a.length/\eqN (a.drop t.1) (b.drop t.1)=eqN a b) (0,0) ⟨rfl,Qq _,rfl⟩ (Qd _) [] rfl (kps) (kps) ?_
  rintro ⟨k,i⟩ ⟨hi,hk,hh⟩
  dsimp only at hi hk hh ⊢
  subst hi
  refine bs.av (sx:=nos) Zd ?_
  by_cases hlt:k<a.length
  ·have e1:=Zeh hlt
   have e2:=Zeh (ns:=b) (k:=k) (by omega)
   rw [Ql hlt,Ql (show k<b.length by omega),eqN] at hh
   by_cases he:a[k]=b[k]'(by omega)
   ·rw [decide_eq_true he,Wt] at hh
    repeat'(first|refine wk1 ?_|(refine wk2 ?_ ?_<;>intro _)|fail)
    exact Qu ⟨(k+1,_),[],rfl,kps,kps,⟨Ze (by omega),hlt,hh⟩,by dsimp only; omega⟩
   ·rw [decide_eq_false he,Kc] at hh
    rw [<-hh]
    repeat'(first|refine wk1 ?_|(refine wk2 ?_ ?_<;>intro _)|fail)
    exact Zf rfl
  ·rw [Qp (by omega),Qp (by omega)] at hh
   rw [<-hh]
   repeat'(first|refine wk1 ?_|(refine wk2 ?_ ?_<;>intro _)|fail)
   exact Zf rfl
 ·rw [Ydc hlen]
  repeat'(first|refine wk1 ?_|(refine wk2 ?_ ?_<;>intro _)|fail)
  exact Zf rfl
theorem Zuz {h:Hal} (g:h.fine) (x y:Int):plaE h x y 1=if (within x (-5000) 5000&&within y (-5000) 5000)=true then unl (Zz h ⟨x,y,0,1⟩) 24 else 2:=by
 unfold plaE plcB
 rw [show within 1 (-5000) 5000=true from rfl,Bool.and_true]
 by_cases c:(within x (-5000) 5000&&within y (-5000) 5000)=true
 ·rw [if_pos c,if_pos c]
  congr 1
  simp only [Qc,within_iff] at c
  have hp:PtOk x y 1:=⟨by omega,by omega,by omega,by omega⟩
  have ht:=g.ht
  unfold Zbi
  dsimp only
  rw [<-Vx g.st 1 hp,<-Vx g.st 0 hp,W_eq (by omega) (by omega),decide_eq_true (by omega:(0:Int)<1),decide_eq_true (by omega:(1:Int)<h.ht*1)]
  rfl
 ·rw [if_neg c,if_neg c]
theorem e46 {h:Hal} (hk:h.ok) (g:h.fine) (x y:Int):PCall Tryz.prog 46 [h.av,P2 x y] ⟨I (plaE h x y 1),[]⟩:=by
 have c1:=c106 hk.f g.le.2.2.1 (Yen g.st) ⟨x,y,0,1⟩
 rw [Zuz g]
 generalize Zz h ⟨x,y,0,1⟩=b at *
 have hk0:=Yei (Za c1 Zd)
 cases q1:within x (-5000) 5000<;>cases q2:within y (-5000) 5000<;>cases b
 all_goals
  refine pn hk0 Tryz.func46 ?_
  repeat'(first|refine wk3 ?_|(refine wk2 ?_ ?_<;>intro _)|fail)
  all_goals first|exact Zc rfl|(exfalso; simp_all; done)
def plnE (h:Hal) (x y:Int):Int:=if h.err=0 then plaE h x y 1 else h.err
theorem e11 {h:Hal} (hk:h.ok) (x y:Int):PCall Tryz.prog 11 [h.av,P2 x y] ⟨I (plnE h x y),[]⟩:=by
 have c1:=p90 hk
 unfold plnE
 by_cases he:h.err=0
 ·rw [if_pos he]
  have c2:=e46 hk (Zi8 hk he) x y
  rw [he] at c1
  have hk0:=Za c1 (Za c2 Zd)
  refine pn hk0 Tryz.func11 ?_
  repeat'(first|refine wk3 ?_|(refine wk2 ?_ ?_<;>intro _)|fail)
  exact Zc rfl
 ·rw [if_neg he]
  have hk0:=Za c1 Zd
  generalize h.err=E at *
  refine pn hk0 Tryz.func11 ?_
  repeat'(first|refine wk3 ?_|(refine wk2 ?_ ?_<;>intro _)|fail)
  all_goals first|exact Zc rfl|(exfalso; simp_all; done)
theorem Zro (h:Hal) (x y:Int) (t:Tn) (n:Int):Zpq h x y t n=if plnE h x y≠0 then plnE h x y else if tnE t≠0 then tnE t else unl (within n 0 4) 2:=by
 unfold Zpq plnE
 by_cases he:h.err=0
 ·rw [if_pos he,if_pos he]
  simp only [fstL]
  generalize plaE h x y 1=A
  generalize tnE t=B
  generalize unl (within n 0 4) 2=C
  by_cases a:A=0<;>by_cases b:B=0<;>by_cases c:C=0<;>simp [a,b,c]
 ·rw [if_neg he,if_neg he,if_pos he]
theorem Zrr {cs:List (Int × Int)}:∀ {k:Nat} {r:Ry} {fr:Int × Int} {last:Int} {l:List Int},folL cs k r fr last=some l->l.length=k
 | 0,_,_,_,_,h=>by cases h; rfl
 | k+1,r,fr,last,l,h=>by
  rw [folL] at h
  split at h
  ·cases h
  ·split at h
   ·cases hf:folL cs k _ _ _ with
    | none=>rw [hf] at h; cases h
    | some l' =>
     rw [hf] at h
     cases h
     rw [List.length_cons,Zrr hf]
   ·cases h
theorem Zrw (l:List Int):eqN l l=true:=eqN_iff.2 rfl
theorem d3 (h:Hal) (x y a b n:Int) (ha:i64 a) (hb:i64 b):PCall Tryz.prog 3 [h.av,P2 x y,P3 a b n] ⟨Bo true,[]⟩:=by
 have c8:=p80 h
 have c7:=Zl9
 cases hfw:few2 h with
 | false =>
  rw [hfw] at c8
  have hk0:=Za c7 (Za c8 Zd)
  refine pn hk0 Tryz.func3 ?_
  repeat'(first|refine wk3 ?_|(refine wk2 ?_ ?_<;>intro _)|fail)
  exact Zf rfl
 | true =>
  rw [hfw] at c8
  have hk:=Zwl hfw
  have c10:=c22f hk.f
  have c9:=e9 hk x y (t:=(a,b)) ha hb n
  have c11:=e11 hk x y
  have c12:=d32 (t:=(a,b)) ha hb
  have c13:=d68 n
  have hE:=Zro h x y (a,b) n
  dsimp only at c9 c12
  by_cases q1:plnE h x y=0
  rotate_left
  ·rw [if_pos q1] at hE
   have e:folR h x y (a,b) n=(plnE h x y,[]):=by unfold folR; rw [hE,if_neg q1]
   rw [e] at c9
   have hk0:=Za c7 (Za c8 (Za c10 (Za c9 (Za c11 Zd))))
   clear hE e c8 c9 c10 c11 c12 c13
   generalize plnE h x y=E at *
   refine pn hk0 Tryz.func3 ?_
   repeat'(first|refine wk3 ?_|(refine wk2 ?_ ?_<;>intro _)|fail)
   all_goals first|exact Zf rfl|(exfalso; simp_all; done)
  rw [if_neg (by omega)] at hE
  rw [q1] at c11
  by_cases q2:tnE (a,b)=0
  rotate_left
  ·rw [if_pos q2] at hE
   have e:folR h x y (a,b) n=(tnE (a,b),[]):=by unfold folR; rw [hE,if_neg q2]
   rw [e] at c9
   have hk0:=Za c7 (Za c8 (Za c10 (Za c9 (Za c11 (Za c12 Zd)))))
   clear hE e c8 c9 c10 c11 c12 c13
   generalize tnE (a,b)=E at *
   refine pn hk0 Tryz.func3 ?_
   repeat'(first|refine wk3 ?_|(refine wk2 ?_ ?_<;>intro _)|fail)
   all_goals first|exact Zf rfl|(exfalso; simp_all; done)
  rw [if_neg (by omega)] at hE
  rw [q2] at c12
  by_cases q3:unl (within n 0 4) 2=0
  rotate_left
  ·have e:folR h x y (a,b) n=(unl (within n 0 4) 2,[]):=by unfold folR; rw [hE,if_neg q3]
   rw [e] at c9
   have hk0:=Za c7 (Za c8 (Za c10 (Za c9 (Za c11 (Za c12 (Za c13 Zd))))))
   clear hE e c8 c9 c10 c11 c12 c13
   generalize unl (within n 0 4) 2=E at *
   refine pn hk0 Tryz.func3 ?_
   repeat'(first|refine wk3 ?_|(refine wk2 ?_ ?_<;>intro _)|fail)
   all_goals first|exact Zf rfl|(exfalso; simp_all; done)
  rw [q3] at c13 hE
  have he:h.err=0:=by
   unfold plnE at q1
   split at q1
   ·assumption
   ·omega
  have hp:plaE h x y 1=0:=by unfold plnE at q1; rw [if_pos he] at q1; exact q1
  have hn:0<=n/\n<=4:=by
   cases hw:within n 0 4
   ·rw [hw] at q3; cases q3
   ·exact within_iff.1 hw
  obtain ⟨m,rfl⟩:∃ m:Nat,n=m:=⟨n.toNat,by omega⟩
  have hs0:RyS 0 ⟨x,y,a,b⟩:=by
   obtain ⟨⟨p1,p2,p3⟩,_⟩:=Zip hp
   have ht:=Zt8 q2
   exact ⟨by dsimp only; omega,by dsimp only; omega,ht.1,ht.2⟩
  have c14:=e14 hk he hs0 (m:=m) (by omega)
  unfold folR at c9
  rw [hE,if_pos rfl,Rz] at c9
  have hlen:∀ l,folL h.cs m ⟨x,y,a,b⟩ (0,1) (-1)=some l->l.length=m:=fun l hl=>Zrr hl
  dsimp only at c9 c14
  generalize folL h.cs m ⟨x,y,a,b⟩ (0,1) (-1)=R at *
  cases R with
  | none =>
   change PCall Tryz.prog 9 _ ⟨.tup [.isl 1 (nl []),I 24],[]⟩ at c9
   change PCall Tryz.prog 14 _ ⟨.tup [.isl 1 (nl []),Bo false],[]⟩ at c14
   have hk0:=Za c7 (Za c8 (Za c10 (Za c9 (Za c11 (Za c12 (Za c13 (Za c14 Zd)))))))
   clear hE c8 c9 c10 c11 c12 c13 c14
   refine pn hk0 Tryz.func3 ?_
   repeat'(first|refine wk3 ?_|(refine wk2 ?_ ?_<;>intro _)|fail)
   all_goals first|exact Zf rfl|(exfalso; simp_all; done)
  | some l =>
   have hl:=hlen l rfl
   change PCall Tryz.prog 9 _ ⟨.tup [.isl 1 (nl l),I 0],[]⟩ at c9
   change PCall Tryz.prog 14 _ ⟨.tup [.isl 1 (nl l),Bo true],[]⟩ at c14
   have c15:=c69 (a:=l) (b:=l) (by omega) (by omega)
   rw [Zrw] at c15
   have hk0:=Za c7 (Za c8 (Za c10 (Za c9 (Za c11 (Za c12 (Za c13 (Za c14 (Za c15 Zd))))))))
   clear hE c8 c9 c10 c11 c12 c13 c14 c15
   refine pn hk0 Tryz.func3 ?_
   repeat'(first|refine wk3 ?_|(refine wk2 ?_ ?_<;>intro _)|fail)
   all_goals first|exact Zf rfl|(exfalso; simp_all; done)
open Go Go.Sx Go.Ge
theorem Ydo {h:Hal} (g:h.fine) {o d:V} (b:RyB (ryV o d)) {L:Option Nat} {c:Cd} (e:bstV h.cs o d L=some c):lsW ((wlOf h.cs c.i).ln.n*c.nu,(wlOf h.cs c.i).ln.n*c.de) (1,1)=decide (c.nu<c.de):=by
 obtain ⟨i,hi,ei⟩:=Ue e
 have B:=Ydj g b hi ei
 have:=Zq9 (a:=c.nu) (b:=c.de) (c:=1) (d:=1) (m:=1) B.n (by omega) B.nu B.de (by omega) (by omega)
 rw [Rs,Rs,Sk] at this
 exact this
theorem e219 {h:Hal} (hf:h.few) (g:h.fine) {o d:V} (b:RyB (ryV o d)) {L:Option Nat} (hl:LP h.cs o L d):PCall Tryz.prog 219 [h.av,(ryV o d).av (laI L),P2 1 1] ⟨Bo (Zoq h.cs o d L),[]⟩:=by
 have c44:=e44 hf g b (Zzk g hl)
 have hk:PCOK Tryz.prog (ins 44 (one [h.av,(ryV o d).av (laI L)] (mtV h.cs (bstV h.cs o d L))) (ins 80 rLs pt0)):=Za c44 (Zuy Zd)
 have c1:=Zdc [h.av,(ryV o d).av (laI L)] (mtV h.cs (bstV h.cs o d L))
 have hlt:=fun c e=>Ydo g b (L:=L) (c:=c) e
 unfold Zoq
 generalize one [h.av,(ryV o d).av (laI L)] (mtV h.cs (bstV h.cs o d L))=T at *
 clear c44 b hl
 obtain ⟨ox,oy⟩:=o
 obtain ⟨dx,dy⟩:=d
 cases hb:bstV h.cs (ox,oy) (dx,dy) L with
 | none =>
  rw [hb] at c1
  unfold mtV at c1
  refine pn hk Tryz.func219 ?_
  repeat'(first|refine wk3 ?_|(refine wk2 ?_ ?_<;>intro _)|fail)
  all_goals first|exact Zf rfl|(exfalso; simp_all; done)
 | some c =>
  rw [hb] at c1
  have:=hlt c hb
  unfold mtV at c1
  dsimp only at c1 ⊢
  rw [<-this]
  refine pn hk Tryz.func219 ?_
  repeat'(first|refine wk3 ?_|(refine wk2 ?_ ?_<;>intro _)|fail)
  all_goals first|exact Zf rfl|(exfalso; simp_all; done)
theorem Ygn {q:Pl} (h1:LN 7 q.ca) (h2:LN 4 q.se) (hn:q.ps.length<1000) (ax ay last:Int) (bB bA:Int × Int->Bool)
  (hB:∀ p∈q.ps,PCall Tryz.prog 102 [.agg q.c,rayA ax ay (Qa Qb (p.1-ax)) (Qa Qb (p.2-ay)) last,P2 1 1] ⟨Bo (bB p),[]⟩)
  (hA:∀ p∈q.ps,¬(p.1=ax/\p.2=ay)->bB p=true->PCall Tryz.prog 219 [.agg q.c,rayA ax ay (Qa Qb (p.1-ax)) (Qa Qb (p.2-ay)) last,P2 1 1] ⟨Bo (bA p),[]⟩) :
  ItOK Tryz.prog 218 [] [.ipt q.c,.ipt [I ax,I ay],.ipt [I last]] (Zfc ax ay (fun p=>bB p && !bA p) q.ps):=by
 obtain ⟨nm,ht,fl,ce,ms,ps,wa,ca,se⟩:=q
 dsimp only at h1 h2 hn hB hA ⊢
 have l1:(ps.map pt).length=ps.length:=by simp
 refine bs.yiter (sx:=nos) Zd Tryz.func218 (by kernel_rfl) rfl (by kernel_rfl) fun B Ig l JX hI=>?_
 rcases h1 with rfl|⟨L1,rfl⟩<;>rcases h2 with rfl|⟨L2,rfl⟩
 all_goals
  conv=>whnf
  refine Ye0 (S:=Nat × Int) (fun t=>ps.length-t.1) (fun t=>[(0,.yld l),(1,.ipt [.str nm,I ht,.str fl,.str ce,.isl 6 ms,.isl 2 (ps.map pt),.isl 3 wa,_,_]),(2,.ipt [I ax,I ay]),(3,.ipt [I last]),(11,.isl 2 (ps.map pt)),(12,I (ps.map pt).length),(13,I t.2)]) (fun _=>[]) (fun t=>some (Zfc ax ay (fun p=>bB p && !bA p) (ps.drop t.1))) 0 (fun _=>0) (fun t=>t.2=t.1/\t.1<=ps.length) (0,0) ⟨rfl,Qq _⟩ (Qd _) rfl [] rfl (kps) (kps) ?_
  rintro ⟨k,i⟩ ⟨hi,hk⟩
  dsimp only at hi hk
  subst hi
  by_cases hlt:k<ps.length
  ·have e1:(ps.map pt)[((k:Nat):Int).toNat]?=some (pt ps[k]):=by simp [hlt]
   have hm:=List.getElem_mem hlt
   have hFr:PCOK Tryz.prog (ins 100 rFr pt0):=Zk (fun a res h=>by unfold rFr at h; split at h<;>cases h; exact d87 _ _ _ _) Zd
   have hT1:=Za (hB _ hm) hFr
   have hT2:=fun e e2=>Za (hB _ hm) (Za (hA _ hm e e2) hFr)
   have hG:(Qa Qb ((k:Int)+1)=((k+1:Nat):Int)/\k+1<=ps.length)/\ps.length-(k+1)<ps.length-k:=⟨⟨Ze (by omega),hlt⟩,by omega⟩
   dsimp only
   rw [Ql hlt]
   rw [Zgn]
   generalize ps[k]=p at *
   clear hB hA hm hFr
   obtain ⟨px,py⟩:=p
   dsimp only at e1 hT1 hT2 ⊢
   generalize bB (px,py)=b1 at *
   generalize bA (px,py)=b2 at *
   by_cases c:px=ax/\py=ay
   ·rw [if_pos c]
    clear hT2
    refine bs.yv hT1 hI (sx:=nos) ?_
    repeat'(first|refine wk3 ?_|(refine wk2 ?_ ?_<;>intro _)|fail)
    all_goals first
     | (refine Qu ?_; exact ⟨(k+1,_),[],rfl,kps,kps,rfl,hG.1,hG.2⟩)
     | (exfalso; clear hT1 e1; simp_all; done)
   ·rw [if_neg c]
    cases b1
    ·clear hT2
     refine bs.yv hT1 hI (sx:=nos) ?_
     repeat'(first|refine wk3 ?_|(refine wk2 ?_ ?_<;>intro _)|fail)
     all_goals first
      | (refine Qu ?_; exact ⟨(k+1,_),[],rfl,kps,kps,rfl,hG.1,hG.2⟩)
      | (exfalso; rename_i q; simp at q; exact c q)
    ·have hT:=hT2 c rfl
     clear hT2 hT1
     cases b2
     all_goals
      refine bs.yv hT hI (sx:=nos) ?_
      repeat'(first|refine wk3 ?_|(refine wk2 ?_ ?_<;>intro _)|fail)
     all_goals first
      | (refine Qu ?_; exact ⟨(k+1,_),[],rfl,kps,kps,rfl,hG.1,hG.2⟩)
      | (exfalso; rename_i q; simp at q; exact c q)
      | skip
     all_goals
      refine Yd.mk ⟨rfl,rfl,.same rfl,fun _=>rfl,?_,?_⟩
      all_goals repeat'(first|refine wk3 ?_|(refine wk2 ?_ ?_<;>intro _)|fail)
     all_goals first
      | (refine Qu ?_; exact ⟨(k+1,_),[],rfl,kps,kps,rfl,hG.1,hG.2⟩)
      | exact Qu (.inr rfl)
  ·dsimp only
   rw [Qp (by omega)]
   unfold Zfc
   refine bs.yv Zd hI (sx:=nos) ?_
   repeat'(first|refine wk3 ?_|(refine wk2 ?_ ?_<;>intro _)|fail)
   exact Qu (.inl rfl)
theorem e170 (h:Hal) (ox oy last:Int):PCall Tryz.prog 170 [h.av,P2 ox oy,I last] ⟨.func 218 [] [.ipt h.cells,.ipt [I ox,I oy],.ipt [I last]],[]⟩:=by
 refine PCall.frzFns (rows:=[(9,h.cells),(2,[I ox,I oy]),(1,[I last])]) (ks:=[(0,h.cells),(1,[I ox,I oy]),(2,[I last])]) (by
  intro q hq
  simp only [List.mem_cons,List.not_mem_nil,or_false] at hq
  rcases hq with rfl|rfl|rfl<;>exact ⟨_,rfl⟩) ?_
 refine pn Zd Tryz.func170 ?_
 repeat'(first|refine wk3 ?_|(refine wk2 ?_ ?_<;>intro _)|fail)
 exact Ym [0,1,2] rfl rfl rfl
abbrev wv (v:V):List AV:=[I v.1,I v.2]
abbrev wy (v:V):List AV:=[P2 v.1 v.2]
def wsR (vs:List V):PRes:=if vs=[] then ⟨.nils,[]⟩ else ⟨.asl 0 0 (vs.map wv).length,[(2,vs.map wv)]⟩
theorem Ybf (vs:List V):Ve (wsR vs).blks.length (wsR vs).v=true:=by unfold wsR; split<;>rfl
abbrev capS (h:Hal) (ox oy last:Int):List AV:=[.ipt h.cells,.ipt [I ox,I oy],.ipt [I last]]
theorem e217 (h:Hal) (ox oy last:Int) {vs:List V} (hit:ItOK Tryz.prog 218 [] (capS h ox oy last) (vs.map wy)) (hl:vs.length<1000):PCall Tryz.prog 217 [.nils,.func 218 [] (capS h ox oy last)] (wsR vs):=by
 refine bs.pv (sx:=nos) Zd Tryz.func217 (by kernel_rfl) (by kernel_rfl) (Ybf vs) ?_
 repeat'(first|refine wk3 ?_|(refine wk2 ?_ ?_<;>intro _)|fail)
 refine Rg.ren (env2:=[(2,.ptr 0 0 0),(6,.func 218 [] (capS h ox oy last))]) (σ2:=⟨[(0,.row 1 [[.nils]] true false)],1⟩) (Ren.of [] rfl (kps) (kps)) ?_
 refine rngV hit rfl rfl rfl rfl (Zlf (S:=Nat × Nat × List (List AV)) (fun s=>gz 1 2 s.1 s.2.2 [(0,.row 1 [[gv 1 s.1 s.2.1]] true false)]) 1 (fun s=>nm2 1 2 s.1)
  (fun xs s=>s.1<=vs.length/\xs=(vs.drop s.1).map wy/\s.2.1=s.2.2.length/\s.2.2=(vs.take s.1).map wv) ?_ ?_ _ (0,0,[]) ⟨Qq _,rfl,rfl,rfl⟩)
 ·rintro x xs ⟨j,len,els⟩ ⟨hj,hx,hlen,he⟩
  dsimp only at hj hx hlen he ⊢
  have hlt:j<vs.length:=by
   rcases Wn j vs.length with c|c
   ·exact c
   ·rw [Qp c] at hx; cases hx
  rw [Ql hlt,List.map_cons] at hx
  obtain ⟨rfl,rfl⟩:=Rv hx
  have e4:els.length<2000:=by rw [he,List.length_map,List.length_take]; omega
  have e5:(vs.take (j+1)).map wv=els++[wv vs[j]]:=by rw [List.take_succ_eq_append_getElem hlt,List.map_append,<-he]; rfl
  generalize vs[j]=v at *
  obtain ⟨vx,vy⟩:=v
  refine ⟨rfl,?_⟩
  cases j with
  | zero =>
   have hz:els=[]:=he
   subst hz
   refine bs.av (sx:=nos) Zd ?_
   repeat'(first|refine wk3 ?_|(refine wk2 ?_ ?_<;>intro _)|fail)
   refine Bd.mk (bs.av (sx:=nos) Zd ?_)
   repeat'(first|refine wk3 ?_|(refine wk2 ?_ ?_<;>intro _)|fail)
   exact Qu ⟨(1,_,[wv (vx,vy)]),[(1,3)],rfl,kps,by omega,rfl,rfl,e5.symm⟩
  | succ j =>
   refine bs.av (sx:=nos) Zd ?_
   repeat'(first|refine wk3 ?_|(refine wk2 ?_ ?_<;>intro _)|fail)
   refine Bd.mk (bs.av (sx:=nos) Zd ?_)
   repeat'(first|refine wk3 ?_|(refine wk2 ?_ ?_<;>intro _)|fail)
   exact Qu ⟨(j+2,_,els++[wv (vx,vy)]),[(1,4)],rfl,kps,by omega,rfl,by exact List.length_append.symm,e5.symm⟩
 ·rintro ⟨j,len,els⟩ ⟨hj,hx,hlen,he⟩
  dsimp only at hj hx hlen he ⊢
  have hlt:vs.length<=j:=by
   rcases Wn j vs.length with c|c
   ·rw [Ql c] at hx; cases hx
   ·exact c
  rw [List.take_of_length_le hlt] at he
  subst he
  have hjl:j=vs.length:=by omega
  unfold wsR
  cases j with
  | zero =>
   have hz:vs=[]:=Po.1 hjl.symm
   rw [if_pos hz]
   repeat'(first|refine wk3 ?_|(refine wk2 ?_ ?_<;>intro _)|fail)
   exact Zg rfl rfl
  | succ j =>
   have hz:vs≠[]:=fun q=>by rw [q] at hjl; cases hjl
   rw [if_neg hz]
   repeat'(first|refine wk3 ?_|(refine wk2 ?_ ?_<;>intro _)|fail)
   exact Ym [1] rfl (by rw [hlen]; rfl) rfl
theorem e169 (h:Hal) (ox oy last:Int) {vs:List V} (hit:ItOK Tryz.prog 218 [] (capS h ox oy last) (vs.map wy)) (hl:vs.length<1000):PCall Tryz.prog 169 [.func 218 [] (capS h ox oy last)] (wsR vs):=by
 have c1:=e217 h ox oy last hit hl
 unfold wsR at c1 ⊢
 split
 ·rename_i hz
  rw [if_pos hz] at c1
  refine pn (Za c1 Zd) Tryz.func169 ?_
  repeat'(first|refine wk3 ?_|(refine wk2 ?_ ?_<;>intro _)|fail)
  exact Zg rfl rfl
 ·rename_i hz
  rw [if_neg hz] at c1
  refine pn (Za c1 Zd) Tryz.func169 ?_
  repeat'(first|refine wk3 ?_|(refine wk2 ?_ ?_<;>intro _)|fail)
  exact Ym [0] rfl rfl rfl
end Go.Proofs.YtanbhfpalahjcaaGreat
namespace Go.Ge
def g1 (u:V):Prop:=Oj u.1 u.2=1
def red (w:V):V:=(w.1.tdiv (Oj w.1 w.2:Nat),w.2.tdiv (Oj w.1 w.2:Nat))
theorem Zdm {u:V} (h:g1 u):u≠(0,0):=fun q=>by
 rw [q] at h
 unfold g1 at h
 simp at h
theorem Xx {w:V} (h:w≠(0,0)):∃ g:Int,0<g/\w.1=g*(red w).1/\w.2=g*(red w).2/\g1 (red w)/\g=(Oj w.1 w.2:Nat):=by
 have hp:0<Oj w.1 w.2:=by
  rcases Ob (Oj w.1 w.2) with z|z
  ·exfalso
   rw [Int.gcd_eq_zero_iff] at z
   exact h (Wh z.1 z.2)
  ·exact z
 have d1:((Oj w.1 w.2:Nat):Int) ∣ w.1:=Int.gcd_dvd_left ..
 have d2:((Oj w.1 w.2:Nat):Int) ∣ w.2:=Int.gcd_dvd_right ..
 refine ⟨(Oj w.1 w.2:Nat),by omega,?_,?_,?_,rfl⟩
 ·exact (Fi d1).symm
 ·exact (Fi d2).symm
 ·unfold g1 red
  dsimp only
  obtain ⟨a,ha⟩:=d1
  obtain ⟨b,hb⟩:=d2
  have hg:((Oj w.1 w.2:Nat):Int)≠0:=by omega
  generalize hG:Oj w.1 w.2=G at *
  rw [ha,hb,Nn _ hg,Nn _ hg]
  have e:Oj (G*a) (G*b)=G*Oj a b:=by rw [Int.gcd_mul_left]; simp
  rw [<-ha,<-hb,hG] at e
  rcases Ob (Oj a b) with z|z
  ·rw [z] at e; omega
  ·have:G*Oj a b=G*1:=by omega
   exact Nat.eq_of_mul_eq_mul_left hp this
theorem Zym {w:V} (h:w≠(0,0)) (x:V):∃ g:Int,0<g/\cr w x=g*cr (red w) x/\cr x w=g*cr x (red w):=by
 obtain ⟨g,g0,e1,e2,_,_⟩:=Xx h
 refine ⟨g,g0,?_,?_⟩<;>(unfold cr; rw [e1,e2]; grind)
theorem Uk {w x:V} (h:w≠(0,0)):(0<cr (red w) x↔0<cr w x)/\(0<cr x (red w)↔0<cr x w):=by
 obtain ⟨g,g0,e1,e2⟩:=Zym h x
 rw [e1,e2]
 exact ⟨⟨fun q=>Qt g0 q,fun q=>Zl q g0⟩,⟨fun q=>Qt g0 q,fun q=>Zl q g0⟩⟩
theorem Zkc {w:V} (h:w≠(0,0)) {B:Int} (h1 : -B<=w.1/\w.1<=B) (h2 : -B<=w.2/\w.2<=B):(-B<=(red w).1/\(red w).1<=B)/\(-B<=(red w).2/\(red w).2<=B):=by
 obtain ⟨g,g0,e1,e2,_,_⟩:=Xx h
 have k:∀ x y:Int,x=g*y -> -B<=x/\x<=B -> -B<=y/\y<=B:=fun x y e hb=>by
  rcases Int.le_total 0 y with c|c
  ·have:=Qj (by omega:(1:Int)<=g) c
   omega
  ·have:=Qj (by omega:(1:Int)<=g) (by omega:0 <= -y)
   simp only [Re,Sk] at this
   omega
 exact ⟨k _ _ e1 h1,k _ _ e2 h2⟩
theorem Yfe {u v d:V} (hu:g1 u) (hv:g1 v) (h:cr u v=0) (h1:0<cr d u) (h2:0<cr d v):u=v:=by
 have dv:∀ {a b c e:Int},Oj a b=1->a*e=b*c->a.natAbs ∣ c.natAbs:=fun {a b c e} hg he=>by
  have h1:a.natAbs*e.natAbs=b.natAbs*c.natAbs:=by rw [<-Jn,<-Jn,he]
  exact Nat.Coprime.dvd_of_dvd_mul_left (k:=a.natAbs) (n:=c.natAbs) (m:=b.natAbs) hg ⟨e.natAbs,h1.symm⟩
 unfold g1 at hu hv
 have hc:=h
 unfold cr at h
 have hu' : Oj u.2 u.1=1:=by rw [Dq]; exact hu
 have hv' : Oj v.2 v.1=1:=by rw [Dq]; exact hv
 have a1:u.1.natAbs=v.1.natAbs:=Dz (dv hu (show u.1*v.2=u.2*v.1 by omega)) (dv hv (show v.1*u.2=v.2*u.1 by rw [Rh v.1,Rh v.2]; omega))
 have a2:u.2.natAbs=v.2.natAbs:=Dz (dv hu' (show u.2*v.1=u.1*v.2 by omega)) (dv hv' (show v.2*u.1=v.1*u.2 by rw [Rh v.1,Rh v.2]; omega))
 have b1:=Hf.1 a1
 have b2:=Hf.1 a2
 rcases b1 with b1|b1<;>rcases b2 with b2|b2
 ·exact Wh b1 b2
 ·rw [b1,b2] at h
  have:v.1*v.2=0:=by
   have : -v.2*v.1 = -(v.1*v.2):=by grind
   omega
  rcases Wj.1 this with z|z
  ·exfalso
   unfold cr at h1 h2
   rw [b1,b2,z] at h1
   rw [z] at h2
   simp at h1 h2
   have q1:d.1 * -v.2 = -(d.1*v.2):=Re _ _
   have q2:d.2 * -v.1 = -(d.2*v.1):=Re _ _
   omega
  ·exact Wh b1 (by omega)
 ·rw [b1,b2] at h
  have:v.1*v.2=0:=by
   have : -v.1*v.2 = -(v.1*v.2):=by grind
   have:v.2*v.1=v.1*v.2:=Rh _ _
   omega
  rcases Wj.1 this with z|z
  ·exact Wh (by omega) b2
  ·exfalso
   unfold cr at h1 h2
   rw [b1,b2,z] at h1
   rw [z] at h2
   simp at h1 h2
   have q1:d.1 * -v.2 = -(d.1*v.2):=Re _ _
   have q2:d.2 * -v.1 = -(d.2*v.1):=Re _ _
   omega
 ·exfalso
  unfold cr at h1 h2
  rw [b1,b2] at h1
  simp only [Re] at h1
  omega
theorem Yfc {u v:V} (hu:u≠(0,0)) (hv:v≠(0,0)) (h:hf u=hf v):∃ d,0<cr d u/\0<cr d v:=by
 rcases Zbc u with z|z
 ·have a:=hf_0 z
  have b:=hf_0 (h ▸ z)
  refine ⟨((u.1.natAbs:Int)+v.1.natAbs+1,-1),?_,?_⟩
  ·unfold cr; dsimp only
   rcases Ws a.1 with q|q
   ·have:=Qv (by omega:1<=u.2) (by omega:0<=(u.1.natAbs:Int)+v.1.natAbs+1)
    omega
   ·have:=a.2 q.symm
    rw [<-q,Rw]; omega
  ·unfold cr; dsimp only
   rcases Ws b.1 with q|q
   ·have:=Qv (by omega:1<=v.2) (by omega:0<=(u.1.natAbs:Int)+v.1.natAbs+1)
    omega
   ·have:=b.2 q.symm
    rw [<-q,Rw]; omega
 ·have a:=hf_1 z
  have b:=hf_1 (h ▸ z)
  have nz:∀ {x:V},x≠(0,0)->x.2=0->x.1<=0->x.1<0:=fun {x} hx h2 h1=>by
   rcases Ws h1 with q|q
   ·exact q
   ·exact absurd (Wh q h2) hx
  refine ⟨(-((u.1.natAbs:Int)+v.1.natAbs+1),1),?_,?_⟩
  ·unfold cr; dsimp only
   rw [Th]
   rcases Ws a.1 with q|q
   ·have:=Qv (by omega:1 <= -u.2) (by omega:0<=(u.1.natAbs:Int)+v.1.natAbs+1)
    rw [Re] at this
    omega
   ·have:=nz hu q (a.2 q)
    rw [q,Rw]; omega
  ·unfold cr; dsimp only
   rw [Th]
   rcases Ws b.1 with q|q
   ·have:=Qv (by omega:1 <= -v.2) (by omega:0<=(u.1.natAbs:Int)+v.1.natAbs+1)
    rw [Re] at this
    omega
   ·have:=nz hv q (b.2 q)
    rw [q,Rw]; omega
theorem Zqp {u v:V} (hu:g1 u) (hv:g1 v):sn u v\/u=v\/sn v u:=by
 by_cases c:hf u=hf v
 ·rcases Tu 0 (cr u v) with q|q|q
  ·exact .inl (.inr ⟨c,q⟩)
  ·obtain ⟨d,d1,d2⟩:=Yfc (Zdm hu) (Zdm hv) c
   exact .inr (.inl (Yfe hu hv q.symm d1 d2))
  ·exact .inr (.inr (.inr ⟨c.symm,by rw [Zh]; omega⟩))
 ·rcases Ygd (u:=u) (v:=v) (.inl c) with q|q
  ·exact .inl q
  ·exact .inr (.inr q)
def inS (lo hi v:V):Prop:=0<=cr lo v/\0<=cr v hi
theorem Zvu {lo hi v:V} (h:0<cr lo hi) (hv:inS lo hi v) (hn:v≠(0,0)):0<cr (mix 1 (-1) lo hi) v:=by
 rw [Yp,Sk,Th,Sk]
 have:=Zh hi v
 have h1:=hv.1
 have h2:=hv.2
 rcases Int.lt_or_le 0 (cr lo v+cr v hi) with q|q
 ·omega
 ·exfalso
  exact hn (Zoi (P:=lo) (Q:=hi) (by omega) (by omega) (by omega))
theorem Zlt {lo hi u v:V} (h:0<cr lo hi) (hu:inS lo hi u) (hv:inS lo hi v) (gu:g1 u) (gv:g1 v):0<cr u v\/u=v\/0<cr v u:=by
 rcases Tu 0 (cr u v) with q|q|q
 ·exact .inl q
 ·exact .inr (.inl (Yfe gu gv q.symm (Zvu h hu (Zdm gu)) (Zvu h hv (Zdm gv))))
 ·exact .inr (.inr (by rw [Zh]; omega))
theorem Zvt {lo hi u v w:V} (h:0<cr lo hi) (hu:inS lo hi u) (hv:inS lo hi v) (hw:inS lo hi w) (gu:g1 u) (gv:g1 v) (gw:g1 w) (h1:0<cr u v) (h2:0<cr v w):0<cr u w :=
 Zr0 (Zvu h hu (Zdm gu)) (Zvu h hv (Zdm gv)) (Zvu h hw (Zdm gw)) h1 h2
end Go.Ge
