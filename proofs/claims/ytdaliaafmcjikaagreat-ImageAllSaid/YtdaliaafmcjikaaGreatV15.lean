/- A part of the proof: lemmas. -/
import Derived.Test.YtdaliaafmcjikaaGreatV14
import Derived.Test.YtdaliaafmcjikaaGreatV13
import Derived.Test.YtdaliaafmcjikaaGreatV7
import Derived.Test.YtdaliaafmcjikaaGreatV8
import Derived.Test.YtdaliaafmcjikaaGreatV12
set_option linter.unusedVariables false
set_option linter.unusedSimpArgs false
set_option maxRecDepth 100000
set_option maxHeartbeats 16000000
open Bool renaming and_eq_true->Qc,false_and->Oi,false_or->Ph,true_and->Tx
open Go.IntKind renaming i64->Qb,wrap->Qa
open Go.Proofs.YtdaliaafmcjikaaGreat.Can renaming av->Pw
open Go.Proofs.YtdaliaafmcjikaaGreat.Ln renaming mk->Rw
open Go.Sx.AV.agg renaming injEq->Oe
open Go.Sx.AV.int renaming injEq->Tl
open Go.Sx.AV.isl renaming injEq->Od
open Go.Sx.Awp renaming froz->Fx
open Go.Sx.Done renaming mk->Ql
open Int renaming mul_comm->Rr,toNat->Sr,toNat_natCast->Ra
open List renaming cons_append->Sv,drop->Lb,drop_eq_getElem_cons->Qi,drop_of_length_le->Qj,drop_succ_cons->Kn,drop_zero->Th,eq_of_mem_replicate->Jv,getElem?_eq_getElem->Qe,getElem?_map->Qy,getElem?_range->Tv,getElem?_replicate->Mz,getElem?_set->Pu,getElem_mem->Qt,head?_drop->Hz,length->Ke,length_cons->Sb,length_eq_zero_iff->Qv,length_map->Re,length_set->Ki,map_append->Po,map_cons->Te,map_map->Hs,map_replicate->Jc,map_set->Ov,mem_cons->Rf,mem_of_getElem?->Pf,mem_or_eq_of_mem_set->Wt,range'->Ot,replicate->Rv,reverse_nil->Nz,take->La,take_left->Gs,take_length->Wj,take_zero->Ll
open List.cons renaming injEq->Qx
open Nat renaming gcd->Tt,gcd_one_right->De,le_of_ble_eq_true->Qo,le_refl->Qd,zero_add->Ru,zero_le->Qn
open Option.some renaming injEq->Qf
namespace Go.Proofs.YtdaliaafmcjikaaGreat
open Go Go.Sx
theorem c104 {w:Wl} {n sx sy:Int} (h:Str w n sx sy) {p q:Pt} (hp:PtR p) (hq:PtR q):PCall Tryz.prog 130 [w.ln.av,p.av,q.av] ⟨Bo (Zdb w.ln p q),[]⟩:=by
 have ep:w.ln.beside p=bsP w sx sy p.pl:=Vz (z:=p.z) h hp.ok
 have eq:w.ln.beside q=bsP w sx sy q.pl:=Vz (z:=q.z) h hq.ok
 have ap:w.ln.along p=alP w sx sy p.pl:=Zfe (z:=p.z) h hp.ok
 have aq:w.ln.along q=alP w sx sy q.pl:=Zfe (z:=q.z) h hq.ok
 have ef:w.ln.full=ful n sx sy:=Znm h
 obtain ⟨b1,b2⟩:=Ztv h hp
 obtain ⟨b3,b4⟩:=Ztv h hq
 obtain ⟨f1,f2⟩:=Zxq h
 rw [<-ep,<-ap] at *
 rw [<-eq,<-aq] at *
 rw [<-ef] at *
 have hn:w.ln.n≠0:=by rw [h.ln.2.2.1]; have:=h.hn; omega
 clear ep eq ap aq ef h
 generalize w.ln=l at *
 have dp:=hp.d0
 have dp1:=hp.d1
 have dq:=hq.d0
 have dq1:=hq.d1
 clear hp hq
 obtain ⟨lx,ly,ldx,ldy⟩:=l
 obtain ⟨px,py,pz,pd⟩:=p
 obtain ⟨qx,qy,qz,qd⟩:=q
 dsimp only at *
 obtain ⟨f,hf⟩:∃ f,(Rw lx ly ldx ldy).beside ⟨px,py,pz,pd⟩=f:=⟨_,rfl⟩
 obtain ⟨g,hg⟩:∃ f,(Rw lx ly ldx ldy).beside ⟨qx,qy,qz,qd⟩=f:=⟨_,rfl⟩
 obtain ⟨lo,hlo⟩:∃ f,(Rw lx ly ldx ldy).along ⟨px,py,pz,pd⟩=f:=⟨_,rfl⟩
 obtain ⟨hi,hhi⟩:∃ f,(Rw lx ly ldx ldy).along ⟨qx,qy,qz,qd⟩=f:=⟨_,rfl⟩
 obtain ⟨F,hF⟩:∃ f,(Rw lx ly ldx ldy).full=f:=⟨_,rfl⟩
 have ha1:asr (decide ((Rw lx ly ldx ldy).n≠0)) ⟨I ((Rw lx ly ldx ldy).beside ⟨px,py,pz,pd⟩),[]⟩=some ⟨I f,[]⟩:=by rw [Vq hn,hf]
 have ha2:asr (decide ((Rw lx ly ldx ldy).n≠0)) ⟨I ((Rw lx ly ldx ldy).beside ⟨qx,qy,qz,qd⟩),[]⟩=some ⟨I g,[]⟩:=by rw [Vq hn,hg]
 have ha3:asr (decide ((Rw lx ly ldx ldy).n≠0)) ⟨I ((Rw lx ly ldx ldy).along ⟨px,py,pz,pd⟩),[]⟩=some ⟨I lo,[]⟩:=by rw [Vq hn,hlo]
 have ha4:asr (decide ((Rw lx ly ldx ldy).n≠0)) ⟨I ((Rw lx ly ldx ldy).along ⟨qx,qy,qz,qd⟩),[]⟩=some ⟨I hi,[]⟩:=by rw [Vq hn,hhi]
 have ha5:asr (decide ((Rw lx ly ldx ldy).n≠0)) ⟨I (Rw lx ly ldx ldy).full,[]⟩=some ⟨I F,[]⟩:=by rw [Vq hn,hF]
 unfold Zdb
 dsimp only
 rw [hf,hg,hlo,hhi,hF]
 rw [hf] at b1
 rw [hg] at b3
 rw [hlo] at b2
 rw [hhi] at b4
 rw [hF] at f1 f2
 have hk0:PCOK Tryz.prog (ins 46 r30 kC2):=Zl (f0:=46) (r:=r30) (fun a res h=>by unfold r30 at h; split at h<;>cases h; exact c30 _ _ _) Yy
 clear hn hf hg hlo hhi hF
 refine bs.pv (sx:=nos) hk0 Tryz.func130 (by kernel_rfl) (by kernel_rfl) rfl ?_
 by_cases h0:f=0/\g=0
 ·rw [if_pos h0]
  obtain ⟨rfl,rfl⟩:=h0
  have t:=Vf (n:=lo) (d:=pd) (m:=hi) (k:=qd) ⟨by omega,by omega,by omega,by omega⟩
  generalize cmpQ lo pd hi qd=c at *
  rcases Int.lt_trichotomy c 0 with hc|hc|hc
  ·rw [if_neg (by omega),if_pos hc]
   repeat'(first|refine wk3 ?_|(refine wk2 ?_ ?_<;>intro _)|refine wk4 ?_|fail);all_goals(conv=>whnf)
   all_goals clear ha1 ha2 ha3 ha4 ha5 hk0
   all_goals first|exact Za rfl|(refine Za ?_; simp_all; done)|(refine Za ?_; simp_all; intros; omega)|(exfalso; simp_all; done)|(exfalso; simp_all; omega)
  ·rw [if_pos hc]
   repeat'(first|refine wk3 ?_|(refine wk2 ?_ ?_<;>intro _)|refine wk4 ?_|fail);all_goals(conv=>whnf)
   all_goals clear ha1 ha2 ha3 ha4 ha5 hk0
   all_goals first|exact Za rfl|(refine Za ?_; simp_all; done)|(refine Za ?_; simp_all; intros; omega)|(exfalso; simp_all; done)|(exfalso; simp_all; omega)
  ·rw [if_neg (by omega),if_neg (by omega)]
   repeat'(first|refine wk3 ?_|(refine wk2 ?_ ?_<;>intro _)|refine wk4 ?_|fail);all_goals(conv=>whnf)
   all_goals clear ha1 ha2 ha3 ha4 ha5 hk0
   all_goals first|exact Za rfl|(refine Za ?_; simp_all; done)|(refine Za ?_; simp_all; intros; omega)|(exfalso; simp_all; done)|(exfalso; simp_all; omega)
 ·rw [if_neg h0]
  have hw:=Zew f g
  by_cases h1:0<=Qa Qb (sgn f*sgn g)
  ·rw [if_pos h1]
   repeat'(first|refine wk3 ?_|(refine wk2 ?_ ?_<;>intro _)|refine wk4 ?_|fail);all_goals(conv=>whnf)
   all_goals clear ha1 ha2 ha3 ha4 ha5 hk0
   all_goals first|exact Za rfl|(refine Za ?_; simp_all; done)|(refine Za ?_; simp_all; intros; omega)|(exfalso; simp_all; done)|(exfalso; simp_all; omega)
  ·rw [if_neg h1]
   have h2:=sgn_mul_neg.1 (show sgn f*sgn g<0 by omega)
   have m1:=Zn (a:=lo) (b:=g) (A:=2000000000) (B:=2000000000) (by omega) (by omega)
   have m2:=Zn (a:=hi) (b:=f) (A:=2000000000) (B:=2000000000) (by omega) (by omega)
   have m3:=Zn (a:=g) (b:=pd) (A:=2000000000) (B:=100000) (by omega) (by omega)
   have m4:=Zn (a:=f) (b:=qd) (A:=2000000000) (B:=100000) (by omega) (by omega)
   have eN:Qa Qb (Qa Qb (lo*g)-Qa Qb (hi*f))=lo*g-hi*f:=by rw [W_eq (n:=lo*g) (by omega) (by omega),W_eq (n:=hi*f) (by omega) (by omega),W_eq (by omega) (by omega)]
   have eD:Qa Qb (Qa Qb (g*pd)-Qa Qb (f*qd))=g*pd-f*qd:=by rw [W_eq (n:=g*pd) (by omega) (by omega),W_eq (n:=f*qd) (by omega) (by omega),W_eq (by omega) (by omega)]
   have eN2:Qa Qb (0-Qa Qb (Qa Qb (lo*g)-Qa Qb (hi*f))) = -(lo*g-hi*f):=by rw [eN,W_eq (by omega) (by omega)]; omega
   have eD2:Qa Qb (0-Qa Qb (Qa Qb (g*pd)-Qa Qb (f*qd))) = -(g*pd-f*qd):=by rw [eD,W_eq (by omega) (by omega)]; omega
   rcases h2 with h2|h2
   ·have k1:=(Zbx dp).2 h2.2
    have k2:=(Zdc dq).2 h2.1
    rw [Rr] at k1 k2
    have t:=Vf (n:=Qa Qb (Qa Qb (lo*g)-Qa Qb (hi*f))) (d:=Qa Qb (Qa Qb (g*pd)-Qa Qb (f*qd))) (m:=F) (k:=1) ⟨by omega,by omega,by omega,by omega⟩
    rw [if_neg (by omega)]
    generalize cmpQ (Qa Qb (Qa Qb (lo*g)-Qa Qb (hi*f))) (Qa Qb (Qa Qb (g*pd)-Qa Qb (f*qd))) F 1=c at *
    repeat'(first|refine wk3 ?_|(refine wk2 ?_ ?_<;>intro _)|refine wk4 ?_|fail);all_goals(conv=>whnf)
    all_goals clear ha1 ha2 ha3 ha4 ha5 hk0
    all_goals first|exact Za rfl|(refine Za ?_; simp_all; done)|(refine Za ?_; simp_all; intros; omega)|(exfalso; simp_all; done)|(exfalso; simp_all; omega)
   ·have k1:=(Zdc dp).2 h2.2
    have k2:=(Zbx dq).2 h2.1
    rw [Rr] at k1 k2
    have t:=Vf (n:=Qa Qb (0-Qa Qb (Qa Qb (lo*g)-Qa Qb (hi*f)))) (d:=Qa Qb (0-Qa Qb (Qa Qb (g*pd)-Qa Qb (f*qd)))) (m:=F) (k:=1) ⟨by omega,by omega,by omega,by omega⟩
    rw [if_pos (by omega)]
    generalize cmpQ (Qa Qb (0-Qa Qb (Qa Qb (lo*g)-Qa Qb (hi*f)))) (Qa Qb (0-Qa Qb (Qa Qb (g*pd)-Qa Qb (f*qd)))) F 1=c at *
    repeat'(first|refine wk3 ?_|(refine wk2 ?_ ?_<;>intro _)|refine wk4 ?_|fail);all_goals(conv=>whnf)
    all_goals clear ha1 ha2 ha3 ha4 ha5 hk0
    all_goals first|exact Za rfl|(refine Za ?_; simp_all; done)|(refine Za ?_; simp_all; intros; omega)|(exfalso; simp_all; done)|(exfalso; simp_all; omega)
theorem c107 {c:Can} (hr:CanOk c) (ht:Int) {p q:Pt} (hp:PtR p) (hq:PtR q):PCall Tryz.prog 132 [.agg c.av,I ht,p.av,q.av] ⟨Bo (blkR c.rc ht p q),[]⟩:=by
 have hk0:=Zf (c190 hr hp hq) Zdv
 obtain ⟨px,py,pz,pd⟩:=p
 obtain ⟨qx,qy,qz,qd⟩:=q
 clear hp hq hr
 unfold blkR
 dsimp only
 have z1:zOff ht ⟨px,py,pz,pd⟩=Qa Qb (pz-Qa Qb (ht*pd)):=rfl
 have z2:zOff ht ⟨qx,qy,qz,qd⟩=Qa Qb (qz-Qa Qb (ht*qd)):=rfl
 rw [z1,z2]
 clear z1 z2
 have eD:onX pd qd (Qa Qb (qz-Qa Qb (ht*qd))) (Qa Qb (pz-Qa Qb (ht*pd)))=(Qa Qb (Qa Qb ((Qa Qb (qz-Qa Qb (ht*qd)))*pd)-Qa Qb ((Qa Qb (pz-Qa Qb (ht*pd)))*qd))):=by unfold onX; rw [Rr pd,Rr qd]
 have hx1:PCall Tryz.prog 193 [.agg c.av,P4 (Qa Qb (Qa Qb (px*(Qa Qb (qz-Qa Qb (ht*qd))))-Qa Qb (qx*(Qa Qb (pz-Qa Qb (ht*pd)))))) (Qa Qb (Qa Qb (py*(Qa Qb (qz-Qa Qb (ht*qd))))-Qa Qb (qy*(Qa Qb (pz-Qa Qb (ht*pd)))))) 0 (Qa Qb (Qa Qb ((Qa Qb (qz-Qa Qb (ht*qd)))*pd)-Qa Qb ((Qa Qb (pz-Qa Qb (ht*pd)))*qd)))] ⟨Bo (c.rc.has (onX px qx (Qa Qb (qz-Qa Qb (ht*qd))) (Qa Qb (pz-Qa Qb (ht*pd)))) (onX py qy (Qa Qb (qz-Qa Qb (ht*qd))) (Qa Qb (pz-Qa Qb (ht*pd)))) (onX pd qd (Qa Qb (qz-Qa Qb (ht*qd))) (Qa Qb (pz-Qa Qb (ht*pd))))),[]⟩:=by rw [eD]; exact c191 c ⟨(Qa Qb (Qa Qb (px*(Qa Qb (qz-Qa Qb (ht*qd))))-Qa Qb (qx*(Qa Qb (pz-Qa Qb (ht*pd)))))),(Qa Qb (Qa Qb (py*(Qa Qb (qz-Qa Qb (ht*qd))))-Qa Qb (qy*(Qa Qb (pz-Qa Qb (ht*pd)))))),0,(Qa Qb (Qa Qb ((Qa Qb (qz-Qa Qb (ht*qd)))*pd)-Qa Qb ((Qa Qb (pz-Qa Qb (ht*pd)))*qd)))⟩
 have hx2:PCall Tryz.prog 193 [.agg c.av,P4 (Qa Qb (0-(Qa Qb (Qa Qb (px*(Qa Qb (qz-Qa Qb (ht*qd))))-Qa Qb (qx*(Qa Qb (pz-Qa Qb (ht*pd)))))))) (Qa Qb (0-(Qa Qb (Qa Qb (py*(Qa Qb (qz-Qa Qb (ht*qd))))-Qa Qb (qy*(Qa Qb (pz-Qa Qb (ht*pd)))))))) 0 (Qa Qb (0-(Qa Qb (Qa Qb ((Qa Qb (qz-Qa Qb (ht*qd)))*pd)-Qa Qb ((Qa Qb (pz-Qa Qb (ht*pd)))*qd)))))] ⟨Bo (c.rc.has (Qa Qb (0-onX px qx (Qa Qb (qz-Qa Qb (ht*qd))) (Qa Qb (pz-Qa Qb (ht*pd))))) (Qa Qb (0-onX py qy (Qa Qb (qz-Qa Qb (ht*qd))) (Qa Qb (pz-Qa Qb (ht*pd))))) (Qa Qb (0-onX pd qd (Qa Qb (qz-Qa Qb (ht*qd))) (Qa Qb (pz-Qa Qb (ht*pd)))))),[]⟩:=by rw [eD]; exact c191 c ⟨(Qa Qb (0-(Qa Qb (Qa Qb (px*(Qa Qb (qz-Qa Qb (ht*qd))))-Qa Qb (qx*(Qa Qb (pz-Qa Qb (ht*pd)))))))),(Qa Qb (0-(Qa Qb (Qa Qb (py*(Qa Qb (qz-Qa Qb (ht*qd))))-Qa Qb (qy*(Qa Qb (pz-Qa Qb (ht*pd)))))))),0,(Qa Qb (0-(Qa Qb (Qa Qb ((Qa Qb (qz-Qa Qb (ht*qd)))*pd)-Qa Qb ((Qa Qb (pz-Qa Qb (ht*pd)))*qd)))))⟩
 have e0:Qa Qb (0-0)=0:=rfl
 by_cases h0:(Qa Qb (pz-Qa Qb (ht*pd)))=0/\(Qa Qb (qz-Qa Qb (ht*qd)))=0
 ·rw [if_pos h0]
  obtain ⟨h1,h2⟩:=h0
  refine bs.pv (sx:=nos) hk0 Tryz.func132 (by kernel_rfl) (by kernel_rfl) rfl ?_
  repeat'(first|refine wk3 ?_|(refine wk2 ?_ ?_<;>intro _)|refine wk4 ?_|fail);all_goals(conv=>whnf)
  exact Za rfl
 ·rw [if_neg h0]
  by_cases h1:0<=Qa Qb (sgn (Qa Qb (pz-Qa Qb (ht*pd)))*sgn (Qa Qb (qz-Qa Qb (ht*qd))))
  ·rw [if_pos h1]
   refine bs.pv (sx:=nos) hk0 Tryz.func132 (by kernel_rfl) (by kernel_rfl) rfl ?_
   repeat'(first|refine wk3 ?_|(refine wk2 ?_ ?_<;>intro _)|refine wk4 ?_|fail);all_goals(conv=>whnf)
   all_goals first|exact Za rfl|(refine Za ?_; simp_all; done)|(refine Za ?_; simp_all; intros; omega)|(exfalso; simp_all; done)|(exfalso; simp_all; omega)
  ·rw [if_neg h1]
   by_cases h2:onX pd qd (Qa Qb (qz-Qa Qb (ht*qd))) (Qa Qb (pz-Qa Qb (ht*pd)))<0
   ·rw [if_pos h2]
    have hk1:=Zf hx2 hk0
    generalize c.rc.has (Qa Qb (0-onX px qx (Qa Qb (qz-Qa Qb (ht*qd))) (Qa Qb (pz-Qa Qb (ht*pd))))) (Qa Qb (0-onX py qy (Qa Qb (qz-Qa Qb (ht*qd))) (Qa Qb (pz-Qa Qb (ht*pd))))) (Qa Qb (0-onX pd qd (Qa Qb (qz-Qa Qb (ht*qd))) (Qa Qb (pz-Qa Qb (ht*pd)))))=b at *
    rw [eD] at h2
    refine bs.pv (sx:=nos) hk1 Tryz.func132 (by kernel_rfl) (by kernel_rfl) rfl ?_
    repeat'(first|refine wk3 ?_|(refine wk2 ?_ ?_<;>intro _)|refine wk4 ?_|fail);all_goals(conv=>whnf)
    all_goals first|exact Za rfl|(refine Za ?_; simp_all; done)|(refine Za ?_; simp_all; intros; omega)|(exfalso; simp_all; done)|(exfalso; simp_all; omega)
   ·rw [if_neg h2]
    have hk1:=Zf hx1 hk0
    generalize c.rc.has (onX px qx (Qa Qb (qz-Qa Qb (ht*qd))) (Qa Qb (pz-Qa Qb (ht*pd)))) (onX py qy (Qa Qb (qz-Qa Qb (ht*qd))) (Qa Qb (pz-Qa Qb (ht*pd)))) (onX pd qd (Qa Qb (qz-Qa Qb (ht*qd))) (Qa Qb (pz-Qa Qb (ht*pd))))=b at *
    rw [eD] at h2
    refine bs.pv (sx:=nos) hk1 Tryz.func132 (by kernel_rfl) (by kernel_rfl) rfl ?_
    repeat'(first|refine wk3 ?_|(refine wk2 ?_ ?_<;>intro _)|refine wk4 ?_|fail);all_goals(conv=>whnf)
    all_goals first|exact Za rfl|(refine Za ?_; simp_all; done)|(refine Za ?_; simp_all; intros; omega)|(exfalso; simp_all; done)|(exfalso; simp_all; omega)
def wlA (cs:List (Int × Int)) (p q:Pt):Nat->Nat->Bool
 | _,0=>false
 | k,n+1=>Zdb (lnOf cs k) p q||wlA cs p q (k+1) n
def blkB (h:Hal) (s:Stg) (p q:Pt):Nat->List Can->Bool
 | _,[]=>false
 | j,c::l=>blkR c.rc (Us h s j) p q||blkB h s p q (j+1) l
def midR (p q:Pt):Pt:=⟨midX p q,midY p q,0,midD p q⟩
def Zki (h:Hal) (s:Stg) (p q:Pt):Bool:=!zBad h p q&&(!wlA h.cs p q 0 h.ws.length&&(Zw h (midR p q) && !blkB h s p q 0 h.ks))
noncomputable abbrev onWs (h:Hal) (p q:Pt):List AV->Option PRes:=famA (fun k:Nat=>k<h.cs.length) (fun k=>[(lnOf h.cs k).av,p.av,q.av]) (fun k=>⟨Bo (Zdb (lnOf h.cs k) p q),[]⟩)
theorem Yal {h:Hal} {p q:Pt} {k:Nat} (hk:k<h.cs.length):onWs h p q [(lnOf h.cs k).av,p.av,q.av]=some ⟨Bo (Zdb (lnOf h.cs k) p q),[]⟩ :=
 Zo (p:=fun k:Nat=>k<h.cs.length) (g:=fun k=>[(lnOf h.cs k).av,p.av,q.av]) (r:=fun k=>⟨Bo (Zdb (lnOf h.cs k) p q),[]⟩) (k:=k) (fun j hj=>by
  have e:lnOf h.cs j=lnOf h.cs k:=by
   simp only [Qx,Oe,Tl,true_and,and_true] at hj
   generalize lnOf h.cs j=a at *
   generalize lnOf h.cs k=b at *
   obtain ⟨a1,a2,a3,a4⟩:=a
   obtain ⟨b1,b2,b3,b4⟩:=b
   simp_all
  rw [e]) hk
noncomputable abbrev onCs (h:Hal) (s:Stg) (p q:Pt):List AV->Option PRes:=famA (fun j:Nat=>j<h.ks.length) (fun j=>[.agg (Pw ((h.ks[j]?).getD ⟨⟨#[]⟩,⟨#[]⟩,0,0,0,0,[]⟩)),I (Us h s j),p.av,q.av]) (fun j=>⟨Bo (blkR ((h.ks[j]?).getD ⟨⟨#[]⟩,⟨#[]⟩,0,0,0,0,[]⟩).rc (Us h s j) p q),[]⟩)
theorem Yam {h:Hal} {s:Stg} {p q:Pt} {j:Nat} (hj:j<h.ks.length):onCs h s p q [.agg (Pw h.ks[j]),I (Us h s j),p.av,q.av]=some ⟨Bo (blkR h.ks[j].rc (Us h s j) p q),[]⟩:=by
 have:=Zo (p:=fun j:Nat=>j<h.ks.length) (g:=fun j=>[.agg (Pw ((h.ks[j]?).getD ⟨⟨#[]⟩,⟨#[]⟩,0,0,0,0,[]⟩)),I (Us h s j),p.av,q.av]) (r:=fun j=>⟨Bo (blkR ((h.ks[j]?).getD ⟨⟨#[]⟩,⟨#[]⟩,0,0,0,0,[]⟩).rc (Us h s j) p q),[]⟩) (k:=j) (fun i hi=>by
  simp only [Qx,Oe,Tl,true_and,and_true] at hi
  generalize ((h.ks[i]?).getD ⟨⟨#[]⟩,⟨#[]⟩,0,0,0,0,[]⟩:Can)=a at *
  generalize ((h.ks[j]?).getD ⟨⟨#[]⟩,⟨#[]⟩,0,0,0,0,[]⟩:Can)=b at *
  obtain ⟨a1,a2,a3,a4,a5,a6,a7⟩:=a
  obtain ⟨b1,b2,b3,b4,b5,b6,b7⟩:=b
  obtain ⟨⟨_,_,h3,h4,h5,h6,_⟩,h7⟩:=hi
  simp only at h3 h4 h5 h6
  subst h3 h4 h5 h6
  rw [h7]) hj
 rw [Qe hj] at this
 exact this
noncomputable abbrev hgts (h:Hal) (s:Stg):List AV->Option PRes:=famA (fun j:Nat=>j<h.ks.length) (fun j=>[h.av,s.av,I j]) (fun j=>⟨I (Us h s j),[]⟩)
theorem Ya3 {h:Hal} {s:Stg} {j:Nat} (hj:j<h.ks.length):hgts h s [h.av,s.av,I j]=some ⟨I (Us h s j),[]⟩ :=
 Zo (p:=fun j:Nat=>j<h.ks.length) (g:=fun j:Nat=>[h.av,s.av,I j]) (r:=fun j=>⟨I (Us h s j),[]⟩) (k:=j) (fun i hi=>by
  simp only [Qx,Tl,true_and,and_true] at hi
  have:i=j:=by omega
  subst this; rfl) hj
noncomputable def kF7 (h:Hal) (s:Stg) (p q:Pt):PC:=ins 130 (onWs h p q) (ins 132 (onCs h s p q) (ins 75 (hgts h s) (ins 131 (one [h.av,(midR p q).av] ⟨Bo (Zw h (midR p q)),[]⟩) (kR5 h))))
theorem Yg1 {h:Hal} {s:Stg} (g:Sit h s) {p q:Pt} (hp:PtR p) (hq:PtR q):PCOK Tryz.prog (kF7 h s p q):=by
 refine Ya (fun k hk=>?_) (Ya (fun j hj=>?_) (Ya (fun j hj=>c108 g hj) (Zf (c106 g.ok.f g.fine.le.2.2.1 (Zwy g.fine.st) (midR p q)) (Zmc g.ok.f))))
 ·obtain ⟨n,sx,sy,hs⟩:=g.fine.st k hk
  rw [Zcb]
  exact c104 hs hp hq
 ·rw [Qe hj]
  exact c107 (Zgf g.fine hj).1 _ hp hq
theorem c39 {h:Hal} {s:Stg} (g:Sit h s) {p q:Pt} (hp:PtR p) (hq:PtR q):PCall Tryz.prog 72 [h.av,s.av,wayA p q] ⟨Bo (Zki h s p q),[]⟩:=by
 have hk:=Yg1 g hp hq
 refine bs.pv (sx:=nos) hk Tryz.func72 (by kernel_rfl) (by kernel_rfl) rfl ?_
 cases hz:zBad h p q with
 | true =>
  unfold Zki
  rw [hz]
  repeat'(first|refine wk3 ?_|(refine wk2 ?_ ?_<;>intro _)|refine wk4 ?_|fail);all_goals(conv=>whnf)
  all_goals first
   | exact Za rfl
   | (exfalso; clear hk; simp_all [zBad]; done)
   | (exfalso; clear hk; simp_all [zBad]; omega)
 | false =>
  have e:Zki h s p q=(!wlA h.cs p q 0 h.ws.length&&(Zw h (midR p q) && !blkB h s p q 0 h.ks)):=by unfold Zki; rw [hz]; rfl
  rw [e]
  clear e
  unfold zBad at hz
  simp only [Bool.or_eq_false_iff,Bool.and_eq_false_iff,decide_eq_false_iff_not] at hz
  obtain ⟨⟨⟨⟨⟨z1,z2⟩,z3⟩,z4⟩,z5⟩,z6⟩:=hz
  repeat'(first|refine wk3 ?_|(refine wk2 ?_ ?_<;>intro _)|refine wk4 ?_|fail);all_goals(conv=>whnf)
  all_goals try (exfalso; clear hk; simp_all; done)
  all_goals
   clear z1 z2 z3 z4 z5 z6
   have l3:=Yj h.ws
   have l4:=Xi h.ks
   have f3:=g.ok.f.2.2.1
   have f4:=g.ok.f.2.2.2.1
   have hwc:=g.fine.le.2.2.1
   refine Yb (S:=Nat × Int) (fun t=>h.ws.length-t.1) (fun t=>[(3,.ptr 0 0 0),(4,.ptr 1 0 0),(6,Bo false),(7,.ptr 7 0 0),(8,.ptr 8 0 0),(9,I t.2)]) (fun _=>[(8,.row 4 [[I q.x,I q.y,I q.z,I q.d]] true false),(7,.row 4 [[I p.x,I p.y,I p.z,I p.d]] true false),(1,.row 2 [s.cells] true false),(0,.row 9 [h.cells] true false)]) 20 20 (fun t=>t.2=t.1/\t.1<=h.ws.length/\wlA h.cs p q t.1 (h.ws.length-t.1)=wlA h.cs p q 0 h.ws.length) (0,0) ⟨rfl,Qn _,rfl⟩ (Qo rfl) [] rfl (kps) (kps) ?_
   rintro ⟨k,i⟩ ⟨hi,hkk,hh⟩
   dsimp only at hi hkk hh ⊢
   subst hi
   refine bs.av (sx:=nos) hk ?_
   by_cases hlt:k<h.ws.length
   ·have e:h.ws.length-k=(h.ws.length-(k+1))+1:=by omega
    rw [e,wlA] at hh
    have hl:=Vk (h:=h) (k:=k) (by omega)
    have hb:=Yal (h:=h) (p:=p) (q:=q) (k:=k) (by omega)
    generalize Zdb (lnOf h.cs k) p q=b at *
    cases b with
    | true =>
     rw [<-hh]
     repeat'(first|refine wk3 ?_|(refine wk2 ?_ ?_<;>intro _)|refine wk4 ?_|fail);all_goals(conv=>whnf)
     exact Za rfl
    | false =>
     rw [Ph] at hh
     repeat'(first|refine wk3 ?_|(refine wk2 ?_ ?_<;>intro _)|refine wk4 ?_|fail);all_goals(conv=>whnf)
     exact Ql ⟨(k+1,_),[],rfl,kps,kps,⟨Ze (by omega),hlt,hh⟩,by dsimp only; omega⟩
   ·rw [show h.ws.length-k=0 by omega,wlA] at hh
    rw [<-hh]
    have hm:midR p q=⟨midX p q,midY p q,0,midD p q⟩:=rfl
    cases hin:Zw h (midR p q) with
    | false =>
     unfold kF7
     rw [hin]
     repeat'(first|refine wk3 ?_|(refine wk2 ?_ ?_<;>intro _)|refine wk4 ?_|fail);all_goals(conv=>whnf)
     all_goals first
      | exact Za rfl
      | (exfalso; simp_all; done)
    | true =>
     unfold kF7
     rw [hin]
     repeat'(first|refine wk3 ?_|(refine wk2 ?_ ?_<;>intro _)|refine wk4 ?_|fail);all_goals(conv=>whnf)
     refine Yb (S:=Nat × Int) (fun t=>h.ks.length-t.1) (fun t=>[(3,.ptr 0 0 0),(4,.ptr 1 0 0),(6,Bo false),(7,.ptr 7 0 0),(8,.ptr 8 0 0),(10,I t.2)]) (fun _=>[(8,.row 4 [[I q.x,I q.y,I q.z,I q.d]] true false),(7,.row 4 [[I p.x,I p.y,I p.z,I p.d]] true false),(1,.row 2 [s.cells] true false),(0,.row 9 [h.cells] true false)]) 40 40 (fun t=>t.2=t.1/\t.1<=h.ks.length/\blkB h s p q t.1 (h.ks.drop t.1)=blkB h s p q 0 h.ks) (0,0) ⟨rfl,Qn _,rfl⟩ (Qo rfl) [] rfl (kps) (kps) ?_
     clear hh hlt hkk
     rintro ⟨k,i⟩ ⟨hi,hkk,hh⟩
     dsimp only at hi hkk hh ⊢
     subst hi
     refine bs.av (sx:=nos) hk ?_
     by_cases hlt:k<h.ks.length
     ·rw [Qi hlt,blkB] at hh
      have e1:=Zb6 hlt
      have hl:=Ya3 (s:=s) hlt
      have hb:=Yam (p:=p) (q:=q) (s:=s) hlt
      generalize blkR h.ks[k].rc (Us h s k) p q=b at *
      cases b with
      | true =>
       rw [<-hh]
       repeat'(first|refine wk3 ?_|(refine wk2 ?_ ?_<;>intro _)|refine wk4 ?_|fail);all_goals(conv=>whnf)
       exact Za rfl
      | false =>
       rw [Ph] at hh
       repeat'(first|refine wk3 ?_|(refine wk2 ?_ ?_<;>intro _)|refine wk4 ?_|fail);all_goals(conv=>whnf)
       exact Ql ⟨(k+1,_),[],rfl,kps,kps,⟨Ze (by omega),hlt,hh⟩,by dsimp only; omega⟩
     ·rw [Qj (by omega),blkB] at hh
      rw [<-hh]
      repeat'(first|refine wk3 ?_|(refine wk2 ?_ ?_<;>intro _)|refine wk4 ?_|fail);all_goals(conv=>whnf)
      exact Za rfl
theorem Yb1 {h:Hal} (g:h.fine) {p q:Pt} (hp:PtR p) (hq:PtR q):∀ (n k:Nat),k+n<=h.cs.length->wlA h.cs p q k n=((Ot k n).map (wlOf h.cs)).any (touP p q)
 | 0,_,_=>by simp [wlA]
 | n+1,k,hk=>by
  rw [wlA,List.range'_succ,Te,List.any_cons,Yb1 g hp hq n (k+1) (by omega)]
  congr 1
  obtain ⟨m,sx,sy,hs⟩:=g.st k (by omega)
  rw [Bool.eq_iff_iff,Zgk hs hp hq,Zcb,Zq4 hs hp hq]
theorem Zy1 {h:Hal} {s:Stg} (g:Sit h s) {p q:Pt} (hp:PtH p) (hq:PtH q):∀ (l:List Can) (j:Nat),h.ks.drop j=l->blkB h s p q j l=blkA h s p q j l
 | [],_,_=>by simp [blkA,blkB]
 | c::l,j,hl=>by
  have hj:j<h.ks.length:=by
   rcases Nat.lt_or_ge j h.ks.length with hj|hj
   ·exact hj
   ·rw [Qj hj] at hl; cases hl
  rw [Qi hj] at hl
  simp only [Qx] at hl
  obtain ⟨rfl,hl⟩:=hl
  have hb:=Ztb g hj
  have ht:=g.fine.ht
  rw [blkA,blkB,Zy1 g hp hq l (j+1) hl,Yhu (Zq0 (Zgf g.fine hj).1) ⟨by omega,by omega⟩ hp hq]
theorem Ygq {p q:Pt} (hp:PtR p) (hq:PtR q):PtOk (midX p q) (midY p q) (midD p q):=by
 obtain ⟨e1,e2,e3⟩:=Ycp hp hq
 rw [e1,e2,e3]
 obtain ⟨a1,a2,a3,a4⟩:=hp
 obtain ⟨b1,b2,b3,b4⟩:=hq
 have m1:=Zn (a:=q.x) (b:=p.d) (A:=500000000) (B:=100000) (by omega) (by omega)
 have m2:=Zn (a:=p.x) (b:=q.d) (A:=500000000) (B:=100000) (by omega) (by omega)
 have m3:=Zn (a:=q.y) (b:=p.d) (A:=500000000) (B:=100000) (by omega) (by omega)
 have m4:=Zn (a:=p.y) (b:=q.d) (A:=500000000) (B:=100000) (by omega) (by omega)
 have m5:=Zn (a:=2*p.d) (b:=q.d) (A:=200000) (B:=100000) (by omega) (by omega)
 have m6:=Int.mul_pos (show 0<2*p.d by omega) b1
 exact ⟨m6,by omega,by omega,by omega⟩
theorem Ye4 {h:Hal} {s:Stg} (g:Sit h s) {p q:Pt} (hp:PtH p) (hq:PtH q):Zeo h s p q=Zki h s p q:=by
 unfold Zeo Zki
 have hwc:=g.fine.le.2.2.1
 rw [Yb1 g.fine hp.r hq.r _ 0 (by omega),hwc,Zy1 g hp hq h.ks 0 rfl,Uq g.fine.st 0 (Ygq hp.r hq.r)]
 have:(Ot 0 h.cs.length).map (wlOf h.cs)=wls h.cs:=by unfold wls; rw [List.range_eq_range']
 rw [this]
 rfl
noncomputable abbrev crsT (h:Hal) (s:Stg):List AV->Option PRes:=famA (fun c:Crs=>c.to.wf) (fun c=>[h.av,s.av,c.av]) (fun c=>⟨crAV (crsA h s c),[]⟩)
theorem Ztn {h:Hal} {s:Stg} {c:Crs} (hw:c.to.wf):crsT h s [h.av,s.av,c.av]=some ⟨crAV (crsA h s c),[]⟩ :=
 Zo (p:=fun c:Crs=>c.to.wf) (g:=fun c=>[h.av,s.av,c.av]) (r:=fun c=>⟨crAV (crsA h s c),[]⟩) (fun j hj=>by
  obtain ⟨a,b,d,e,x,y,z,w⟩:=j
  obtain ⟨a',b',d',e',x',y',z',w'⟩:=c
  simp only [Qx,Oe,Tl,true_and,and_true] at hj
  obtain ⟨rfl,rfl,rfl,rfl,rfl,rfl,rfl,rfl⟩:=hj
  rfl) hw
theorem Zyj {h:Hal} (hk:h.ok) {s:Stg} (hs:s.few) {pt:PC} (hp:PCOK Tryz.prog pt):PCOK Tryz.prog (ins 124 (crsT h s) pt):=Ya (fun c hc=>c40 hk hs hc) hp
noncomputable abbrev wayT (h:Hal) (s:Stg):List AV->Option PRes:=famA (fun p:Pt × Pt=>p.1.wf/\p.2.wf) (fun p=>[h.av,s.av,wayA p.1 p.2]) (fun p=>⟨.tup [Bo (decide (wayE h s p.1 p.2=0)&&Zeo h s p.1 p.2),I (wayE h s p.1 p.2)],[]⟩)
theorem Zr9 {h:Hal} {s:Stg} {p q:Pt} (hp:p.wf) (hq:q.wf):wayT h s [h.av,s.av,wayA p q]=some ⟨.tup [Bo (decide (wayE h s p q=0)&&Zeo h s p q),I (wayE h s p q)],[]⟩ :=
 Zo (p:=fun p:Pt × Pt=>p.1.wf/\p.2.wf) (g:=fun p=>[h.av,s.av,wayA p.1 p.2]) (r:=fun p=>⟨.tup [Bo (decide (wayE h s p.1 p.2=0)&&Zeo h s p.1 p.2),I (wayE h s p.1 p.2)],[]⟩) (k:=(p,q)) (fun j hj=>by
  obtain ⟨⟨a,b,c,d⟩,⟨a2,b2,c2,d2⟩⟩:=j
  obtain ⟨x,y,z,w⟩:=p
  obtain ⟨x2,y2,z2,w2⟩:=q
  simp only [Qx,Oe,Tl,true_and,and_true] at hj
  obtain ⟨rfl,rfl,rfl,rfl,rfl,rfl,rfl,rfl⟩:=hj
  rfl) ⟨hp,hq⟩
theorem Zvq {h:Hal} (hk:h.ok) {s:Stg} (hs:s.few) {pt:PC} (hp:PCOK Tryz.prog pt):PCOK Tryz.prog (ins 125 (wayT h s) pt):=Ya (fun p hw=>c37 hk hs hw.1 hw.2) hp
def r123:List AV->Option PRes
 | [.agg [.int .i64 x,.int .i64 y,.int .i64 z]]=>some ⟨P4 x y z 1,[]⟩
 | _=>none
theorem Zwm {pt:PC} (h:PCOK Tryz.prog pt):PCOK Tryz.prog (ins 123 r123 pt):=Zl (fun a res h=>by unfold r123 at h; split at h<;>cases h; exact d123 _ _ _) h
def sqV (a b c x y z:Int):Int:=Qa Qb (Qa Qb (Qa Qb (Qa Qb (a-x)*Qa Qb (a-x))+Qa Qb (Qa Qb (b-y)*Qa Qb (b-y)))+Qa Qb (Qa Qb (c-z)*Qa Qb (c-z)))
theorem d126 (a b c x y z:Int):PCall Tryz.prog 126 [P3 a b c,P3 x y z] ⟨I (sqV a b c x y z),[]⟩:=by
 refine bs.pv (sx:=nos) Zc Tryz.func126 (by kernel_rfl) (by kernel_rfl) rfl ?_
 repeat'(first|refine wk3 ?_|(refine wk2 ?_ ?_<;>intro _)|refine wk4 ?_|fail);all_goals(conv=>whnf)
 exact Zb rfl
def r126:List AV->Option PRes
 | [.agg [.int .i64 a,.int .i64 b,.int .i64 c],.agg [.int .i64 x,.int .i64 y,.int .i64 z]]=>some ⟨I (sqV a b c x y z),[]⟩
 | _=>none
theorem Zwl {pt:PC} (h:PCOK Tryz.prog pt):PCOK Tryz.prog (ins 126 r126 pt):=Zl (fun a res h=>by unfold r126 at h; split at h<;>cases h; exact d126 _ _ _ _ _ _) h
theorem Yin {ns:List Int} (hl:ns.length<100000):PCall Tryz.prog 103 [.isl 1 (nl ns)] ⟨.isl 1 (nl ns),[]⟩:=by
 cases ns with
 | nil=>exact Yio
 | cons n ns=>exact (d103 (by simp) hl).freeze ⟨rfl,rfl,rfl⟩
theorem Yil {ps:List (Int × Int × Int × Int)} (hl:ps.length<100000):PCall Tryz.prog 104 [.isl 4 (ps.map hp4)] ⟨.isl 4 (ps.map hp4),[]⟩:=by
 cases ps with
 | nil=>exact Yim
 | cons n ns=>exact (d104 (by simp) hl).freeze ⟨rfl,rfl,rfl⟩
noncomputable abbrev clT:List AV->Option PRes:=famA (fun ps:List (Int × Int × Int × Int)=>ps.length<100000) (fun ps=>[.isl 4 (ps.map hp4)]) (fun ps=>⟨.isl 4 (ps.map hp4),[]⟩)
theorem Yhp {pt:PC} (hp:PCOK Tryz.prog pt):PCOK Tryz.prog (ins 104 clT pt):=Ya (fun ps hl=>Yil hl) hp
theorem Yfo {ps:List (Int × Int × Int × Int)} (h:ps.length<100000):clT [.isl 4 (ps.map hp4)]=some ⟨.isl 4 (ps.map hp4),[]⟩ :=
 Zo (p:=fun ps:List (Int × Int × Int × Int)=>ps.length<100000) (g:=fun ps=>[.isl 4 (ps.map hp4)]) (r:=fun ps=>⟨.isl 4 (ps.map hp4),[]⟩) (fun j hj=>by
  simp only [Qx,Od,true_and,and_true] at hj
  rw [hj]) h
def goP (f:Int->Pl3->Pt->Pt × Int):List (Int × Pl3)->Pt->List Pt->Option (List Pt)
 | [],_,P=>some P
 | (a,q)::r,to,P=>if (f a q to).2=0 then goP f r (f a q to).1 ((f a q to).1::P) else none
def chkW (w:Pt->Pt->Bool):List Pt->Bool
 | p::q::r=>w p q&&chkW w (q::r)
 | _=>true
def pnt (q:Pl3):Pt:=⟨q.1,q.2.1,q.2.2,1⟩
def tup4 (p:Pt):Int × Int × Int × Int:=(p.x,p.y,p.z,p.d)
def fP (h:Hal) (s:Stg) (a:Int) (q:Pl3) (to:Pt):Pt × Int:=crsA h s ⟨a,q.1,q.2.1,q.2.2,to⟩
def wP (h:Hal) (s:Stg) (p q:Pt):Bool:=decide (wayE h s p q=0)&&Zeo h s p q
def pthQ (h:Hal) (s:Stg) (q0 q1:Pl3) (l:List (Int × Pl3)):Option Pth :=
 match goP (fP h s) l.reverse (pnt q1) [] with
 | none=>none
 | some P=>if chkW (wP h s) (pnt q0::P++[pnt q1]) then some ⟨l.map (·.1),P.map tup4,sqV (l.getLastD (0,q0)).2.1 (l.getLastD (0,q0)).2.2.1 (l.getLastD (0,q0)).2.2.2 q1.1 q1.2.1 q1.2.2⟩ else none
def ansP:Option Pth->AV
 | none=>.tup [.agg [.isl 1 [],.isl 4 [],I 0],Bo false]
 | some p=>.tup [p.av,Bo true]
theorem Zl3:Pt.wf ptZ:=⟨⟨by decide,by decide⟩,⟨by decide,by decide⟩,⟨by decide,by decide⟩,⟨by decide,by decide⟩⟩
theorem Zyk {h:Hal} {s:Stg} (c:Crs) (hk:h.ok) (hs:s.few):(crsA h s c).1.wf:=by
 unfold crsA
 split
 ·rename_i e
  obtain ⟨g,hi,ho,_⟩:=Zyn hk hs e
  unfold Zag
  split
  ·exact Zl3
  ·rename_i hsn
   split
   ·split
    ·exact Zl3
    ·exact (Ze0 (Zcu ho hsn)).2.2.1.wf
   ·exact Zl3
 ·exact Zl3
theorem Zsu {q:Pl3} (h:Near 5000 q):(pnt q).wf:=by
 obtain ⟨h1,h2,h3⟩:=h
 unfold pnt
 exact ⟨⟨by dsimp only; omega,by dsimp only; omega⟩,⟨by dsimp only; omega,by dsimp only; omega⟩,⟨by dsimp only; omega,by dsimp only; omega⟩,⟨by dsimp only; omega,by dsimp only; omega⟩⟩
def rawP:Option Pth->AV
 | none=>.tup [.agg [.nils,.nils,I 0],Bo false]
 | some p=>.tup [p.av,Bo true]
theorem Yab (o:Option Pth):Frz [] (rawP o) (ansP o):=by
 cases o with
 | none=>exact ⟨⟨rfl,rfl,⟨rfl,rfl⟩,trivial⟩,⟨rfl,rfl⟩,trivial⟩
 | some p=>exact ⟨⟨⟨rfl,rfl⟩,⟨rfl,rfl⟩,⟨rfl,rfl⟩,trivial⟩,⟨rfl,rfl⟩,trivial⟩
theorem Yaa (o:Option Pth):Vs 0 (rawP o)=true:=by cases o<;>rfl
noncomputable abbrev oneA (a:List AV) (r:PRes):List AV->Option PRes:=famA (fun _:Unit=>True) (fun _=>a) (fun _=>r)
theorem Zb8 {f:FuncId} {a:List AV} {r:PRes} (h:PCall Tryz.prog f a r) {pt:PC} (hp:PCOK Tryz.prog pt):PCOK Tryz.prog (ins f (oneA a r) pt):=Ya (fun _ _=>h) hp
theorem Zak (a:List AV) (r:PRes):oneA a r a=some r:=Zo (p:=fun _:Unit=>True) (g:=fun _=>a) (r:=fun _=>r) (k:=()) (fun _ _=>rfl) trivial
def lkG (f:Int->Pl3->Pl3):Pl3->List Int->List (Int × Pl3)
 | _,[]=>[]
 | q,n::r=>(n,f n q)::lkG f (f n q) r
theorem Ya2 (f:Int->Pl3->Pl3) (q:Pl3) (n:Int) (r:List Int) (k:Nat):imA f q (n::r) (k+1)=imA f (f n q) r k:=rfl
theorem Zad (f:Int->Pl3->Pl3):∀ (q:Pl3) (ns:List Int),(lkG f q ns).length=ns.length
 | _,[]=>rfl
 | q,n::r=>by rw [lkG,Sb,Zad f _ r,Sb]
theorem Zw3 (f:Int->Pl3->Pl3):∀ (q:Pl3) (ns:List Int) (k:Nat) (hk:k<ns.length),(lkG f q ns)[k]?=some (ns[k],imA f q ns (k+1))
 | q,n::r,0,hk=>rfl
 | q,n::r,k+1,hk=>by
  rw [lkG,List.getElem?_cons_succ,Zw3 f _ r k (by simpa using hk),Ya2]
  rfl
theorem Zw2 (f:Int->Pl3->Pl3):∀ (q:Pl3) (ns:List Int),(lkG f q ns).map (·.1)=ns
 | _,[]=>rfl
 | q,n::r=>by rw [lkG,Te,Zw2 f _ r]
theorem Zs0 (f:Int->Pl3->Pl3):∀ (q:Pl3) (ns:List Int) (x:Int),((lkG f q ns).getLastD (x,q)).2=imA f q ns ns.length
 | _,[],_=>rfl
 | q,n::r,x=>by
  rw [lkG,List.getLastD_cons,Zs0 f _ r n]
  rfl
theorem Zi0 {f:Int->Pl3->Pl3} {q:Pl3} {ns:List Int} {k:Nat} (hk:k<ns.length):((lkG f q ns).take (k+1)).reverse=(ns[k],imA f q ns (k+1))::((lkG f q ns).take k).reverse:=by
 have hk2:k<(lkG f q ns).length:=by rw [Zad]; exact hk
 have e:=Zw3 f q ns k hk
 rw [Qe hk2,Qf] at e
 rw [List.take_succ_eq_append_getElem hk2,List.reverse_append,e]
 rfl
def Xz (h:Hal) (s:Stg) (q0 q1:Pl3) (ns:List Int):Option Pth:=pthQ h s q0 q1 (lkG (im1 h s) q0 ns)
theorem Zda (h:Hal) (s:Stg) (q0 q1:Pl3) (ns:List Int):Xz h s q0 q1 ns=match goP (fP h s) (lkG (im1 h s) q0 ns).reverse (pnt q1) [] with
  | none=>none
  | some P=>if chkW (wP h s) (pnt q0::P++[pnt q1]) then some ⟨ns,P.map tup4,sqV (imA (im1 h s) q0 ns ns.length).1 (imA (im1 h s) q0 ns ns.length).2.1 (imA (im1 h s) q0 ns ns.length).2.2 q1.1 q1.2.1 q1.2.2⟩ else none:=by
 unfold Xz pthQ
 rw [Zw2,Zs0]
 all_goals (cases goP (fP h s) (lkG (im1 h s) q0 ns).reverse (pnt q1) []<;>rfl)
abbrev ptc (p:Pt):List AV:=[I p.x,I p.y,I p.z,I p.d]
theorem Zc9 {l:List Pt} {k:Nat} (hk:k<l.length):(l.map ptc)[k]?=some (ptc l[k]):=by simp [hk]
theorem Zjo (l:List Pt) (i:Nat) (p:Pt):Zc3 (l.map ptc) i (ptc p)=(l.set i p).map ptc:=by rw [Vd,Ov]
theorem Zaf {l:List Pt} {k:Nat} (hk:k<l.length) (p:Pt):(l.set k p).drop k=p::l.drop (k+1):=by
 rw [Qi (by rw [Ki]; exact hk),List.getElem_set_self,List.drop_set,if_pos (by omega)]
theorem Zk0 {w:Pt->Pt->Bool} {l:List Pt} {k:Nat} (hk:k+1<l.length):chkW w (l.drop k)=(w l[k] l[k+1]&&chkW w (l.drop (k+1))):=by
 rw [Qi (show k<l.length by omega),Qi hk,chkW]
theorem Zk1 {w:Pt->Pt->Bool} {l:List Pt} {k:Nat} (hk:k+1=l.length):chkW w (l.drop k)=true:=by
 rw [Qi (show k<l.length by omega),Qj (by omega)]; rfl
noncomputable def kPth (h:Hal) (s:Stg) (q0:Pl3) (ns:List Int):PC:=ins 82 (oneA [.agg (stgL h s),P3 q0.1 q0.2.1 q0.2.2,.isl 1 (nl ns)] ⟨.isl 3 (imC (im1 h s) q0 ns ns.length),[]⟩) (ins 123 r123 (ins 124 (crsT h s) (ins 125 (wayT h s) (ins 126 r126 (ins 104 clT (ins 103 (oneA [.isl 1 (nl ns)] ⟨.isl 1 (nl ns),[]⟩) pt0))))))
theorem Yer {h:Hal} (hk:h.ok) {s:Stg} (hs:s.few) (e0:serr h s=0) {q0:Pl3} (hf:Near 5000 q0) {ns:List Int} (hl:ns.length<=4) (hi:∀ n∈ns,0<=n/\n<nsur h):PCOK Tryz.prog (kPth h s q0 ns) :=
 Zb8 (d82f hk hs e0 hf hl hi) (Zwm (Zyj hk hs (Zvq hk hs (Zwl (Yhp (Zb8 (Yin (ns:=ns) (by omega)) Zc))))))
theorem d65 {h:Hal} (hk:h.ok) {s:Stg} (hs:s.few) (e0:serr h s=0) (a:Ask) (hf:Near 5000 (a.fx,a.fy,a.fz)) (ht:Near 5000 (a.tx,a.ty,a.tz)) {ns:List Int} (hl:ns.length<=4) (hi:∀ n∈ns,0<=n/\n<nsur h) :
  PCall Tryz.prog 65 [.agg (stgL h s),a.av,.isl 1 (nl ns)] ⟨rawP (Xz h s (a.fx,a.fy,a.fz) (a.tx,a.ty,a.tz) ns),[]⟩:=by
 obtain ⟨fx,fy,fz,tx,ty,tz,n⟩:=a
 dsimp only at hf ht ⊢
 have hk0:=Yer hk hs e0 hf hl hi
 unfold kPth at hk0
 have w0:=Zsu hf
 have wT:=Zsu ht
 have ll:=Zi ns
 have o1:=Zak [.agg (stgL h s),P3 fx fy fz,.isl 1 (nl ns)] ⟨.isl 3 (imC (im1 h s) (fx,fy,fz) ns ns.length),[]⟩
 have o2:=Zak [.isl 1 (nl ns)] ⟨.isl 1 (nl ns),[]⟩
 have hR:=Zda h s (fx,fy,fz) (tx,ty,tz) ns
 generalize Xz h s (fx,fy,fz) (tx,ty,tz) ns=R at *
 have il:=Zdg (im1 h s) (fx,fy,fz) ns ns.length
 have x2:Qa Qb (((nl ns).length:Int)+2)=((ns.length+2:Nat):Int):=by rw [ll,W_eq (by omega) (by omega)]; omega
 have x1:Qa Qb (((nl ns).length:Int)+1)=((ns.length+1:Nat):Int):=by rw [ll,W_eq (by omega) (by omega)]; omega
 have a1:decide (0<=Qa Qb (((nl ns).length:Int)+2)/\(Qa Qb (((nl ns).length:Int)+2)).toNat<=1000000)=true:=by rw [x2]; exact decide_eq_true ⟨by omega,by omega⟩
 have g0:(Rv (Qa Qb (((nl ns).length:Int)+2)).toNat (ptc ptZ))[0+Sr 0]?=some (ptc ptZ):=by
  rw [x2,Ra,Mz,if_pos (by omega)]
 have g1:(Zc3 (Rv (Qa Qb (((nl ns).length:Int)+2)).toNat (ptc ptZ)) (0+Sr 0) (ptc (pnt (fx,fy,fz))))[0+(Qa Qb (((nl ns).length:Int)+1)).toNat]?=some (ptc ptZ):=by
  rw [Vd,x2,x1,Pu,if_neg (by omega)]; simp
 have hE0:Zc3 (Zc3 (Rv (Qa Qb (((nl ns).length:Int)+2)).toNat (ptc ptZ)) (0+Sr 0) (ptc (pnt (fx,fy,fz)))) (0+(Qa Qb (((nl ns).length:Int)+1)).toNat) (ptc (pnt (tx,ty,tz)))=(((Rv (ns.length+2) ptZ).set 0 (pnt (fx,fy,fz))).set (ns.length+1) (pnt (tx,ty,tz))).map ptc:=by
  rw [Vd,Vd,x2,x1,Ov,Ov,Jc]
  congr 1
  omega
 refine bs.pv (sx:=nos) hk0 Tryz.func65 (by kernel_rfl) (by kernel_rfl) (Yaa _) ?_
 unfold Zdq
 conv=>whnf
 repeat'(first|refine wk3 ?_|(refine wk2 ?_ ?_<;>intro _)|refine wk4 ?_|fail);all_goals(conv=>whnf)
 obtain ⟨l,hlk⟩:∃ l,l=lkG (im1 h s) (fx,fy,fz) ns:=⟨_,rfl⟩
 have hll:l.length=ns.length:=by rw [hlk,Zad]
 have hlt' : ∀ {k:Nat} (hk:k<ns.length),(l.take (k+1)).reverse=(ns[k],imA (im1 h s) (fx,fy,fz) ns (k+1))::(l.take k).reverse:=fun hk=>by rw [hlk]; exact Zi0 hk
 rw [<-hlk] at hR
 clear hlk
 refine Yb (S:=Nat × Int × List (List AV) × List Pt) (fun t=>t.1) (fun t=>[(2,.isl 1 (nl ns)),(3,.ptr 0 0 0),(4,.ptr 1 0 0),(6,.ptr 2 0 0),(8,.isl 3 (imC (im1 h s) (fx,fy,fz) ns ns.length)),(9,I (nl ns).length),(10,.asl 3 0 (Qa Qb (((nl ns).length:Int)+2)).toNat),(11,I t.2.1)])
  (fun t=>[(3,.row 4 t.2.2.1 true true),(2,.row 3 [[.nils,.nils,I 0]] true false),(1,.row 7 [[I fx,I fy,I fz,I tx,I ty,I tz,I n]] true false),(0,.row 11 [stgL h s] true false)]) 18 18
  (fun t=>t.2.1=t.1/\t.1<=ns.length/\t.2.2.1=t.2.2.2.map ptc/\t.2.2.2.length=ns.length+2/\t.2.2.2[0]?=some (pnt (fx,fy,fz))/\(∀ p∈t.2.2.2,p.wf)/\∃ to P Q,t.2.2.2.drop (t.1+1)=to::Q/\P++[pnt (tx,ty,tz)]=to::Q/\goP (fP h s) (l.take t.1).reverse to P=goP (fP h s) l.reverse (pnt (tx,ty,tz)) [])
  (ns.length,(nl ns).length,_,(((Rv (ns.length+2) ptZ).set 0 (pnt (fx,fy,fz))).set (ns.length+1) (pnt (tx,ty,tz)))) ⟨by dsimp only; rw [ll],Qd _,hE0,by simp,by simp,?_,pnt (tx,ty,tz),[],[],by rw [Zaf (by simp)]; simp,rfl,by rw [<-hll,Wj]⟩ (Qd _) [] rfl (kps) (kps) ?_
 ·intro p hp
  rcases Wt hp with hp|rfl
  ·rcases Wt hp with hp|rfl
   ·rw [Jv hp]; exact Zl3
   ·exact w0
  ·exact wT
 clear g0 g1 hE0 a1
 rintro ⟨k,i,els,pts⟩ ⟨hi1,hk1,hels,hpl,hp0,hwf,to,P,Q,hd,hPQ,hgo⟩
 dsimp only at hi1 hk1 hels hpl hp0 hwf hd hPQ hgo ⊢
 subst hi1 hels
 have lp:(pts.map ptc).length=ns.length+2:=by rw [Re,hpl]
 refine bs.av (sx:=nos) hk0 ?_
 cases k with
 | succ j =>
  have b0:((j+1:Nat):Int)>=1:=by omega
  have b1:Qa Qb (((j+1:Nat):Int)-1)=j:=by rw [W_eq (by omega) (by omega)]; omega
  have b2:Qa Qb (((j+1:Nat):Int)+1)=((j+2:Nat):Int):=by rw [W_eq (by omega) (by omega)]; omega
  have e1:(nl ns)[(Qa Qb (((j+1:Nat):Int)-1)).toNat]?=some [I ns[j]]:=by rw [b1]; simp [nl]
  have e2:(imC (im1 h s) (fx,fy,fz) ns ns.length)[((j+1:Nat):Int).toNat]?=some (pl3 (imA (im1 h s) (fx,fy,fz) ns (j+1))):=by
   rw [Ra]; unfold imC; rw [Qy,Tv (by omega)]; rfl
  have hto:pts[j+2]?=some to:=by rw [<-Hz,hd]; rfl
  have e3:(pts.map ptc)[0+(Qa Qb (((j+1:Nat):Int)+1)).toNat]?=some (ptc to):=by rw [b2,Ra,Ru,Qy,hto]; rfl
  have e4:(pts.map ptc)[0+((j+1:Nat):Int).toNat]?=some (ptc (pts[j+1]'(by omega))):=by rw [Ra,Ru]; exact Zc9 (by omega)
  have wto:to.wf:=hwf _ (Pf hto)
  rw [hlt' (by omega),goP] at hgo
  have c1:=Ztn (h:=h) (s:=s) (c:=⟨ns[j],(imA (im1 h s) (fx,fy,fz) ns (j+1)).1,(imA (im1 h s) (fx,fy,fz) ns (j+1)).2.1,(imA (im1 h s) (fx,fy,fz) ns (j+1)).2.2,to⟩) wto
  have w1:=Zyk (h:=h) (s:=s) ⟨ns[j],(imA (im1 h s) (fx,fy,fz) ns (j+1)).1,(imA (im1 h s) (fx,fy,fz) ns (j+1)).2.1,(imA (im1 h s) (fx,fy,fz) ns (j+1)).2.2,to⟩ hk hs
  have hfp:fP h s ns[j] (imA (im1 h s) (fx,fy,fz) ns (j+1)) to=crsA h s ⟨ns[j],(imA (im1 h s) (fx,fy,fz) ns (j+1)).1,(imA (im1 h s) (fx,fy,fz) ns (j+1)).2.1,(imA (im1 h s) (fx,fy,fz) ns (j+1)).2.2,to⟩:=rfl
  rw [hfp] at hgo
  clear hfp
  generalize crsA h s ⟨ns[j],(imA (im1 h s) (fx,fy,fz) ns (j+1)).1,(imA (im1 h s) (fx,fy,fz) ns (j+1)).2.1,(imA (im1 h s) (fx,fy,fz) ns (j+1)).2.2,to⟩=r at *
  obtain ⟨⟨x,y,z,d⟩,E⟩:=r
  generalize imA (im1 h s) (fx,fy,fz) ns (j+1)=q at *
  obtain ⟨qx,qy,qz⟩:=q
  obtain ⟨X,Y,Z,V⟩:=to
  dsimp only at hgo w1 c1
  by_cases hE:E=0
  ·subst hE
   rw [if_pos rfl] at hgo
   have hs1:Zc3 (pts.map ptc) (0+((j+1:Nat):Int).toNat) (ptc ⟨x,y,z,d⟩)=(pts.set (j+1) ⟨x,y,z,d⟩).map ptc:=by
    rw [Ra,Ru]; exact Zjo _ _ _
   repeat'(first|refine wk3 ?_|(refine wk2 ?_ ?_<;>intro _)|refine wk4 ?_|fail);all_goals(conv=>whnf)
   exact Ql ⟨(j,_,_,pts.set (j+1) ⟨x,y,z,d⟩),[],rfl,kps,kps,⟨b1,by dsimp only; omega,hs1,by dsimp only; rw [Ki,hpl],by dsimp only; rw [Pu,if_neg (by omega)]; exact hp0,(fun p hp=>by
    rcases Wt hp with hp|rfl
    ·exact hwf p hp
    ·exact w1),⟨x,y,z,d⟩,⟨x,y,z,d⟩::P,⟨X,Y,Z,V⟩::Q,by dsimp only; rw [Zaf (by omega),hd],by rw [Sv,hPQ],hgo⟩,by dsimp only; omega⟩
  ·rw [if_neg hE] at hgo
   rw [<-hgo] at hR
   dsimp only at hR
   subst hR
   repeat'(first|refine wk3 ?_|(refine wk2 ?_ ?_<;>intro _)|refine wk4 ?_|fail);all_goals(conv=>whnf)
   all_goals exact Zg rfl rfl
 | zero =>
  have hpe:pts=pnt (fx,fy,fz)::P++[pnt (tx,ty,tz)]:=by
   rw [Sv,hPQ,<-hd]
   clear hk0 hwf lp hpl
   cases pts with
   | nil=>cases hp0
   | cons p r=>cases hp0; rfl
  rw [Ll,Nz,goP] at hgo
  rw [<-hgo] at hR
  dsimp only at hR
  rw [<-hpe] at hR
  have hPl:P.length=ns.length:=by
   have:=congrArg Ke hpe
   simp at this; omega
  clear hgo hlt' hd hPQ Q to
  repeat'(first|refine wk3 ?_|(refine wk2 ?_ ?_<;>intro _)|refine wk4 ?_|fail);all_goals(conv=>whnf)
  refine Yb (S:=Nat × Int) (fun t=>ns.length+1-t.1) (fun t=>[(2,.isl 1 (nl ns)),(3,.ptr 0 0 0),(4,.ptr 1 0 0),(6,.ptr 2 0 0),(8,.isl 3 (imC (im1 h s) (fx,fy,fz) ns ns.length)),(9,I (nl ns).length),(10,.asl 3 0 (Qa Qb (((nl ns).length:Int)+2)).toNat),(75,I (Qa Qb (((nl ns).length:Int)+1))),(76,I t.2)])
   (fun t=>[(3,.row 4 (pts.map ptc) true true),(2,.row 3 [[.nils,.nils,I 0]] true false),(1,.row 7 [[I fx,I fy,I fz,I tx,I ty,I tz,I n]] true false),(0,.row 11 [stgL h s] true false)]) 18 18
   (fun t=>t.2=t.1/\t.1<=ns.length+1/\chkW (wP h s) (pts.drop t.1)=chkW (wP h s) pts) (0,0) ⟨rfl,Qn _,rfl⟩ (Qd _) [] rfl (kps) (kps) ?_
  rintro ⟨k,i⟩ ⟨hi1,hk1,hck⟩
  dsimp only at hi1 hk1 hck ⊢
  subst hi1
  by_cases hlt:k<ns.length+1
  ·have b0:((k:Nat):Int)<Qa Qb (((nl ns).length:Int)+1):=by rw [x1]; omega
   have b2:Qa Qb (((k:Nat):Int)+1)=((k+1:Nat):Int):=by rw [W_eq (by omega) (by omega)]; omega
   have e3:(pts.map ptc)[0+((k:Nat):Int).toNat]?=some (ptc (pts[k]'(by omega))):=by rw [Ra,Ru]; exact Zc9 (by omega)
   have e4:(pts.map ptc)[0+(Qa Qb (((k:Nat):Int)+1)).toNat]?=some (ptc (pts[k+1]'(by omega))):=by rw [b2,Ra,Ru]; exact Zc9 (by omega)
   rw [Zk0 (by omega)] at hck
   have v1:=Zr9 (h:=h) (s:=s) (hwf (pts[k]'(by omega)) (Qt _)) (hwf (pts[k+1]'(by omega)) (Qt _))
   have hw:wP h s (pts[k]'(by omega)) (pts[k+1]'(by omega))=(decide (wayE h s (pts[k]'(by omega)) (pts[k+1]'(by omega))=0)&&Zeo h s (pts[k]'(by omega)) (pts[k+1]'(by omega))):=rfl
   rw [hw] at hck
   clear hw
   generalize (pts[k]'(by omega))=p1 at *
   generalize (pts[k+1]'(by omega))=p2 at *
   generalize wayE h s p1 p2=u at *
   generalize Zeo h s p1 p2=f at *
   obtain ⟨x1,y1,z1,d1⟩:=p1
   obtain ⟨x2,y2,z2,d2⟩:=p2
   refine bs.av (sx:=nos) hk0 ?_
   cases hb:(decide (u=0)&&f) with
   | true =>
    rw [hb,Tx] at hck
    repeat'(first|refine wk3 ?_|(refine wk2 ?_ ?_<;>intro _)|refine wk4 ?_|fail);all_goals(conv=>whnf)
    all_goals first
     | (exfalso; clear hk0; simp_all; done)
     | exact Ql ⟨(k+1,_),[],rfl,kps,kps,⟨b2,hlt,hck⟩,by dsimp only; omega⟩
   | false =>
    rw [hb,Oi] at hck
    rw [<-hck,if_neg (by simp)] at hR
    subst hR
    repeat'(first|refine wk3 ?_|(refine wk2 ?_ ?_<;>intro _)|refine wk4 ?_|fail);all_goals(conv=>whnf)
    all_goals first
     | exact Zg rfl rfl
     | (exfalso; clear hk0; simp_all; done)
  ·have hke:k=ns.length+1:=by omega
   subst hke
   rw [Zk1 (by omega)] at hck
   rw [<-hck,if_pos rfl] at hR
   subst hR
   refine Fx [3] rfl (bs.av (sx:=nos) hk0 ?_)
   conv=>whnf
   repeat'(first|refine wk3 ?_|(refine wk2 ?_ ?_<;>intro _)|refine wk4 ?_|fail);all_goals(conv=>whnf)
   have y1:Zes (some (I (Qa Qb (((nl ns).length:Int)+1)))) (Qa Qb (((nl ns).length:Int)+2)).toNat=some (ns.length+1):=by
    show cond (decide (0<=Qa Qb (((nl ns).length:Int)+1))) (some (Qa Qb (((nl ns).length:Int)+1)).toNat) none=_
    rw [x1,decide_eq_true (by omega)]
    simp only [cond_true,Qf]; omega
   have cl:clT [.isl 4 (La (ns.length+1-Sr 1) (Lb (0+Sr 1) (pts.map ptc)))]=some ⟨.isl 4 ((P.map tup4).map hp4),[]⟩:=by
    have e:La (ns.length+1-Sr 1) (Lb (0+Sr 1) (pts.map ptc))=(P.map tup4).map hp4:=by
     rw [hpe,Sv,Te,show (0+Sr 1)=1 from rfl,Kn,Th,Po,show ns.length+1-Sr 1=(P.map ptc).length by rw [Re,hPl]; omega,Gs,Hs]
     rfl
    rw [e]
    exact Yfo (by rw [Re]; omega)
   have e5:(imC (im1 h s) (fx,fy,fz) ns ns.length)[((nl ns).length:Int).toNat]?=some (pl3 (imA (im1 h s) (fx,fy,fz) ns ns.length)):=by
    rw [Ra,ll]; exact Zg0 _ _ _ _
   refine Zic rfl rfl rfl rfl rfl rfl y1 (by omega) (by rw [x2]; omega) (by rw [x2]; omega) ?_
   conv=>whnf
   generalize imA (im1 h s) (fx,fy,fz) ns ns.length=q at *
   obtain ⟨qx,qy,qz⟩:=q
   repeat'(first|refine wk3 ?_|(refine wk2 ?_ ?_<;>intro _)|refine wk4 ?_|fail);all_goals(conv=>whnf)
   exact Zg rfl rfl
theorem Zpx {h:Hal} {s:Stg} (g:Sit h s) (e0:serr h s=0) {n:Int} (hn:0<=n/\n<nsur h) {q:Pl3} (hq:Near 45000 q) {to:Pt} (hto:Xm to=0) :
  CrOk (Zh h s n) ⟨n,q.1,q.2.1,q.2.2,to⟩/\SK h n/\crsA h s ⟨n,q.1,q.2.1,q.2.2,to⟩=Zag (Zb7 h n) (Zh h s n) ⟨n,q.1,q.2.1,q.2.2,to⟩ /\
  ((crsA h s ⟨n,q.1,q.2.1,q.2.2,to⟩).2=0->Xm (crsA h s ⟨n,q.1,q.2.1,q.2.2,to⟩).1=0/\valN (Zh h s n).1 (crsA h s ⟨n,q.1,q.2.1,q.2.2,to⟩).1.x (crsA h s ⟨n,q.1,q.2.1,q.2.2,to⟩).1.y (crsA h s ⟨n,q.1,q.2.1,q.2.2,to⟩).1.z=(Zh h s n).2*(crsA h s ⟨n,q.1,q.2.1,q.2.2,to⟩).1.d):=by
 have hi:=Zue hn.1 hn.2
 obtain ⟨⟨b1,b2⟩,b3⟩:=Zm8 g hi
 obtain ⟨h1,h2,h3⟩:=hq
 obtain ⟨p1,p2,_,p4⟩:=Ze1 hto
 unfold ptIn at p4
 simp only [Qc,within_iff] at p4
 have ho:CrOk (Zh h s n) ⟨n,q.1,q.2.1,q.2.2,to⟩:=⟨b1,b2,b3,h1,h2,h3,p1,p2,p4.1.1,p4.1.2,p4.2⟩
 have he:crsE h s ⟨n,q.1,q.2.1,q.2.2,to⟩=0:=by
  unfold crsE surE Un img
  rw [if_pos e0,if_pos (within_iff.2 (by dsimp only; omega)),if_pos rfl,if_pos (by simp only [Qc,within_iff]; omega)]
  exact hto
 have hA:crsA h s ⟨n,q.1,q.2.1,q.2.2,to⟩=Zag (Zbv h n) (Zh h s n) ⟨n,q.1,q.2.1,q.2.2,to⟩:=by unfold crsA; rw [if_pos he]
 refine ⟨ho,hi,by rw [hA]; exact Ybj (c:=⟨n,q.1,q.2.1,q.2.2,to⟩) g hi ho,fun hz=>?_⟩
 rw [hA] at hz ⊢
 refine ⟨Zrx (c:=⟨n,q.1,q.2.1,q.2.2,to⟩) g hi ho hz,?_⟩
 unfold Zag at hz ⊢
 split at hz
 ·cases hz
 ·rename_i hs
  split at hz
  ·rename_i hw
   split at hz
   ·cases hz
   ·rename_i hd
    rw [if_neg hs,if_pos hw,if_neg hd]
    exact Zge ho hs
  ·cases hz
noncomputable abbrev crsR (h:Hal) (s:Stg):List AV->Option PRes:=famA (fun c:Crs=>SK h c.su/\CrOk (Zh h s c.su) c) (fun c=>[h.av,s.av,c.av]) (fun c=>⟨crAV (Zag (Zb7 h c.su) (Zh h s c.su) c),[]⟩)
theorem Ybh {h:Hal} {s:Stg} {c:Crs} (hi:SK h c.su) (ho:CrOk (Zh h s c.su) c):crsR h s [h.av,s.av,c.av]=some ⟨crAV (Zag (Zb7 h c.su) (Zh h s c.su) c),[]⟩ :=
 Zo (p:=fun c:Crs=>SK h c.su/\CrOk (Zh h s c.su) c) (g:=fun c=>[h.av,s.av,c.av]) (r:=fun c=>⟨crAV (Zag (Zb7 h c.su) (Zh h s c.su) c),[]⟩) (fun j hj=>by
  obtain ⟨a,b,d,e,x,y,z,w⟩:=j
  obtain ⟨a',b',d',e',x',y',z',w'⟩:=c
  simp only [Qx,Oe,Tl,true_and,and_true] at hj
  obtain ⟨rfl,rfl,rfl,rfl,rfl,rfl,rfl,rfl⟩:=hj
  rfl) ⟨hi,ho⟩
theorem Yfk {h:Hal} {s:Stg} (g:Sit h s) {pt:PC} (hp:PCOK Tryz.prog pt):PCOK Tryz.prog (ins 71 (crsR h s) pt):=Ya (fun c hc=>c42 g hc.1 hc.2) hp
noncomputable abbrev wayR (h:Hal) (s:Stg):List AV->Option PRes:=famA (fun p:Pt × Pt=>PtR p.1/\PtR p.2) (fun p=>[h.av,s.av,wayA p.1 p.2]) (fun p=>⟨Bo (Zki h s p.1 p.2),[]⟩)
theorem Zzo {h:Hal} {s:Stg} {p q:Pt} (hp:PtR p) (hq:PtR q):wayR h s [h.av,s.av,wayA p q]=some ⟨Bo (Zki h s p q),[]⟩ :=
 Zo (p:=fun p:Pt × Pt=>PtR p.1/\PtR p.2) (g:=fun p=>[h.av,s.av,wayA p.1 p.2]) (r:=fun p=>⟨Bo (Zki h s p.1 p.2),[]⟩) (k:=(p,q)) (fun j hj=>by
  obtain ⟨⟨a,b,c,d⟩,⟨a2,b2,c2,d2⟩⟩:=j
  obtain ⟨x,y,z,w⟩:=p
  obtain ⟨x2,y2,z2,w2⟩:=q
  simp only [Qx,Oe,Tl,true_and,and_true] at hj
  obtain ⟨rfl,rfl,rfl,rfl,rfl,rfl,rfl,rfl⟩:=hj
  rfl) ⟨hp,hq⟩
theorem Ydq {h:Hal} {s:Stg} (g:Sit h s) {pt:PC} (hp:PCOK Tryz.prog pt):PCOK Tryz.prog (ins 72 (wayR h s) pt):=Ya (fun p hw=>c39 g hw.1 hw.2) hp
theorem Yh4 {h:Hal} {s:Stg} (g:Sit h s) (e0:serr h s=0) {p q:Pt} (hp:Xm p=0) (hq:Xm q=0):wP h s p q=(!ptEq p q&&Zki h s p q):=by
 unfold wP wayE
 rw [if_pos e0,if_pos hp,if_pos hq,Ye4 g (Zss hp) (Zss hq)]
 cases ptEq p q<;>rfl
def r70:List AV->Option PRes
 | [.agg [.int .i64 x,.int .i64 y,.int .i64 z]]=>some ⟨P4 x y z 1,[]⟩
 | _=>none
theorem Ygg {pt:PC} (h:PCOK Tryz.prog pt):PCOK Tryz.prog (ins 70 r70 pt):=Zl (fun a res h=>by unfold r70 at h; split at h<;>cases h; exact c36 _ _ _) h
theorem d73 (a b c x y z:Int):PCall Tryz.prog 73 [P3 a b c,P3 x y z] ⟨I (sqV a b c x y z),[]⟩:=by
 refine bs.pv (sx:=nos) Zc Tryz.func73 (by kernel_rfl) (by kernel_rfl) rfl ?_
 repeat'(first|refine wk3 ?_|(refine wk2 ?_ ?_<;>intro _)|refine wk4 ?_|fail);all_goals(conv=>whnf)
 exact Zb rfl
theorem Ygf {pt:PC} (h:PCOK Tryz.prog pt):PCOK Tryz.prog (ins 73 r126 pt):=Zl (fun a res h=>by unfold r126 at h; split at h<;>cases h; exact d73 _ _ _ _ _ _) h
theorem Ye2 (a b c:Int):Tt (Tt a.natAbs b.natAbs) (Tt c.natAbs (1:Int).natAbs)=1:=by
 rw [show (1:Int).natAbs=1 from rfl,De,De]
theorem Zjy {q:Pl3} (h:Near 5000 q):Xm (pnt q)=0:=by
 obtain ⟨h1,h2,h3⟩:=h
 unfold Xm pnt g4 ptIn
 dsimp only
 rw [Ye2,if_neg (by simp),if_neg (by omega),if_pos (by simp only [Qc,within_iff]; omega)]
theorem Zv6 {h:Hal} {ns:List Int} (hi:∀ n∈ns,0<=n/\n<nsur h):∀ n∈ns,SK h n:=fun n hn=>Zue (hi n hn).1 (hi n hn).2
noncomputable def kPtr (h:Hal) (s:Stg) (q0:Pl3) (ns:List Int):PC:=ins 28 (oneA [h.av,s.av,P3 q0.1 q0.2.1 q0.2.2,.isl 1 (nl ns)] ⟨.isl 3 (imC (im1 h s) q0 ns ns.length),[]⟩) (ins 70 r70 (ins 71 (crsR h s) (ins 72 (wayR h s) (ins 73 r126 (ins 17 (oneA [.isl 1 (nl ns)] ⟨.isl 1 (nl ns),[]⟩) pt0)))))
theorem Yeq {h:Hal} {s:Stg} (g:Sit h s) {q0:Pl3} {ns:List Int} (hl:ns.length<=4) (hi:∀ n∈ns,0<=n/\n<nsur h):PCOK Tryz.prog (kPtr h s q0 ns) :=
 Zb8 (d28f g hl (Zv6 hi)) (Ygg (Yfk g (Ydq g (Ygf (Zb8 (c25f ns (by omega)) Zc)))))
theorem Zj2 {m k:Int} (h:k<=m) {p:Pl3} (hp:Near k p):Near m p:=by
 obtain ⟨h1,h2,h3⟩:=hp
 exact ⟨by omega,by omega,by omega⟩
def refP:Option Pth->PRes
 | none=>⟨.tup [.agg [.nils,.nils,I 0],Bo false],[]⟩
 | some p=>⟨.tup [.agg [.isl 1 (nl p.ss),.asl 0 0 (p.ps.map hp4).length,I p.sq],Bo true],[(4,p.ps.map hp4)]⟩
theorem Zz7 (o:Option Pth):Vs (refP o).blks.length (refP o).v=true:=by cases o<;>rfl
theorem Zz8 (o:Option Pth):Frz (refP o).blks (refP o).v (ansP o):=by
 match o with
 | none=>exact ⟨⟨rfl,rfl,⟨rfl,rfl⟩,trivial⟩,⟨rfl,rfl⟩,trivial⟩
 | some p=>exact ⟨⟨⟨rfl,rfl⟩,⟨rfl,rfl,rfl⟩,⟨rfl,rfl⟩,trivial⟩,⟨rfl,rfl⟩,trivial⟩
theorem d21r {h:Hal} {s:Stg} (g:Sit h s) (e0:serr h s=0) (a:Ask) (hf:Near 5000 (a.fx,a.fy,a.fz)) (ht:Near 5000 (a.tx,a.ty,a.tz)) {ns:List Int} (hl:ns.length<=4) (hi:∀ n∈ns,0<=n/\n<nsur h) :
  PCall Tryz.prog 21 [h.av,s.av,a.av,.isl 1 (nl ns)] (refP (Xz h s (a.fx,a.fy,a.fz) (a.tx,a.ty,a.tz) ns)):=by
 obtain ⟨fx,fy,fz,tx,ty,tz,n⟩:=a
 dsimp only at hf ht ⊢
 have hk0:=Yeq (q0:=(fx,fy,fz)) g hl hi
 unfold kPtr at hk0
 have w0:=Zjy hf
 have wT:=Zjy ht
 have ll:=Zi ns
 have o1:=Zak [h.av,s.av,P3 fx fy fz,.isl 1 (nl ns)] ⟨.isl 3 (imC (im1 h s) (fx,fy,fz) ns ns.length),[]⟩
 have o2:=Zak [.isl 1 (nl ns)] ⟨.isl 1 (nl ns),[]⟩
 have hR:=Zda h s (fx,fy,fz) (tx,ty,tz) ns
 generalize Xz h s (fx,fy,fz) (tx,ty,tz) ns=R at *
 have il:=Zdg (im1 h s) (fx,fy,fz) ns ns.length
 have x2:Qa Qb (((nl ns).length:Int)+2)=((ns.length+2:Nat):Int):=by rw [ll,W_eq (by omega) (by omega)]; omega
 have x1:Qa Qb (((nl ns).length:Int)+1)=((ns.length+1:Nat):Int):=by rw [ll,W_eq (by omega) (by omega)]; omega
 have a1:decide (0<=Qa Qb (((nl ns).length:Int)+2)/\(Qa Qb (((nl ns).length:Int)+2)).toNat<=1000000)=true:=by rw [x2]; exact decide_eq_true ⟨by omega,by omega⟩
 have g0:(Rv (Qa Qb (((nl ns).length:Int)+2)).toNat (ptc ptZ))[0+Sr 0]?=some (ptc ptZ):=by
  rw [x2,Ra,Mz,if_pos (by omega)]
 have g1:(Zc3 (Rv (Qa Qb (((nl ns).length:Int)+2)).toNat (ptc ptZ)) (0+Sr 0) (ptc (pnt (fx,fy,fz))))[0+(Qa Qb (((nl ns).length:Int)+1)).toNat]?=some (ptc ptZ):=by
  rw [Vd,x2,x1,Pu,if_neg (by omega)]; simp
 have hE0:Zc3 (Zc3 (Rv (Qa Qb (((nl ns).length:Int)+2)).toNat (ptc ptZ)) (0+Sr 0) (ptc (pnt (fx,fy,fz)))) (0+(Qa Qb (((nl ns).length:Int)+1)).toNat) (ptc (pnt (tx,ty,tz)))=(((Rv (ns.length+2) ptZ).set 0 (pnt (fx,fy,fz))).set (ns.length+1) (pnt (tx,ty,tz))).map ptc:=by
  rw [Vd,Vd,x2,x1,Ov,Ov,Jc]
  congr 1
  omega
 refine bs.pv (sx:=nos) hk0 Tryz.func21 (by kernel_rfl) (by kernel_rfl) (Zz7 _) ?_
 unfold Zdq
 conv=>whnf
 repeat'(first|refine wk3 ?_|(refine wk2 ?_ ?_<;>intro _)|refine wk4 ?_|fail);all_goals(conv=>whnf)
 obtain ⟨l,hlk⟩:∃ l,l=lkG (im1 h s) (fx,fy,fz) ns:=⟨_,rfl⟩
 have hll:l.length=ns.length:=by rw [hlk,Zad]
 have hlt' : ∀ {k:Nat} (hk:k<ns.length),(l.take (k+1)).reverse=(ns[k],imA (im1 h s) (fx,fy,fz) ns (k+1))::(l.take k).reverse:=fun hk=>by rw [hlk]; exact Zi0 hk
 rw [<-hlk] at hR
 clear hlk
 refine Yb (S:=Nat × Int × List (List AV) × List Pt) (fun t=>t.1) (fun t=>[(3,.isl 1 (nl ns)),(4,.ptr 0 0 0),(5,.ptr 1 0 0),(6,.ptr 2 0 0),(8,.ptr 3 0 0),(10,.isl 3 (imC (im1 h s) (fx,fy,fz) ns ns.length)),(11,I (nl ns).length),(12,.asl 4 0 (Qa Qb (((nl ns).length:Int)+2)).toNat),(13,I t.2.1)])
  (fun t=>[(4,.row 4 t.2.2.1 true true),(3,.row 3 [[.nils,.nils,I 0]] true false),(2,.row 7 [[I fx,I fy,I fz,I tx,I ty,I tz,I n]] true false),(1,.row 2 [[.isl 1 (nl s.hs),.isl 1 (nl s.dr)]] true false),(0,.row 9 [h.cells] true false)]) 19 19
  (fun t=>t.2.1=t.1/\t.1<=ns.length/\t.2.2.1=t.2.2.2.map ptc/\t.2.2.2.length=ns.length+2/\t.2.2.2[0]?=some (pnt (fx,fy,fz))/\∃ to P Q,t.2.2.2.drop (t.1+1)=to::Q/\(∀ p∈to::Q,Xm p=0)/\P++[pnt (tx,ty,tz)]=to::Q/\goP (fP h s) (l.take t.1).reverse to P=goP (fP h s) l.reverse (pnt (tx,ty,tz)) [])
  (ns.length,(nl ns).length,_,(((Rv (ns.length+2) ptZ).set 0 (pnt (fx,fy,fz))).set (ns.length+1) (pnt (tx,ty,tz)))) ⟨by dsimp only; rw [ll],Qd _,hE0,by simp,by simp,pnt (tx,ty,tz),[],[],by rw [Zaf (by simp)]; simp,by simpa using wT,rfl,by rw [<-hll,Wj]⟩ (Qd _) [] rfl (kps) (kps) ?_
 clear g0 g1 hE0 a1
 rintro ⟨k,i,els,pts⟩ ⟨hi1,hk1,hels,hpl,hp0,to,P,Q,hd,hpr,hPQ,hgo⟩
 dsimp only at hi1 hk1 hels hpl hp0 hd hpr hPQ hgo ⊢
 subst hi1 hels
 have lp:(pts.map ptc).length=ns.length+2:=by rw [Re,hpl]
 refine bs.av (sx:=nos) hk0 ?_
 cases k with
 | succ j =>
  have b0:((j+1:Nat):Int)>0:=by omega
  have b1:Qa Qb (((j+1:Nat):Int)-1)=j:=by rw [W_eq (by omega) (by omega)]; omega
  have b2:Qa Qb (((j+1:Nat):Int)+1)=((j+2:Nat):Int):=by rw [W_eq (by omega) (by omega)]; omega
  have e1:(nl ns)[(Qa Qb (((j+1:Nat):Int)-1)).toNat]?=some [I ns[j]]:=by rw [b1]; simp [nl]
  have e2:(imC (im1 h s) (fx,fy,fz) ns ns.length)[((j+1:Nat):Int).toNat]?=some (pl3 (imA (im1 h s) (fx,fy,fz) ns (j+1))):=by
   rw [Ra]; unfold imC; rw [Qy,Tv (by omega)]; rfl
  have hto:pts[j+2]?=some to:=by rw [<-Hz,hd]; rfl
  have e3:(pts.map ptc)[0+(Qa Qb (((j+1:Nat):Int)+1)).toNat]?=some (ptc to):=by rw [b2,Ra,Ru,Qy,hto]; rfl
  have e4:(pts.map ptc)[0+((j+1:Nat):Int).toNat]?=some (ptc (pts[j+1]'(by omega))):=by rw [Ra,Ru]; exact Zc9 (by omega)
  have fc:=Zpx g e0 (hi ns[j] (Qt _)) (Zj2 (m:=45000) (by omega) (Zi1 g hf hl (Zv6 hi) (j+1) (by omega))) (hpr to (by simp))
  rw [hlt' (by omega),goP] at hgo
  have c1:crsR h s [h.av,s.av,Crs.av ⟨ns[j],(imA (im1 h s) (fx,fy,fz) ns (j+1)).1,(imA (im1 h s) (fx,fy,fz) ns (j+1)).2.1,(imA (im1 h s) (fx,fy,fz) ns (j+1)).2.2,to⟩]=some ⟨crAV (crsA h s ⟨ns[j],(imA (im1 h s) (fx,fy,fz) ns (j+1)).1,(imA (im1 h s) (fx,fy,fz) ns (j+1)).2.1,(imA (im1 h s) (fx,fy,fz) ns (j+1)).2.2,to⟩),[]⟩:=by
   rw [fc.2.2.1]
   exact Ybh (c:=⟨ns[j],(imA (im1 h s) (fx,fy,fz) ns (j+1)).1,(imA (im1 h s) (fx,fy,fz) ns (j+1)).2.1,(imA (im1 h s) (fx,fy,fz) ns (j+1)).2.2,to⟩) fc.2.1 fc.1
  have w1:=fun q=>(fc.2.2.2 q).1
  clear fc
  have hfp:fP h s ns[j] (imA (im1 h s) (fx,fy,fz) ns (j+1)) to=crsA h s ⟨ns[j],(imA (im1 h s) (fx,fy,fz) ns (j+1)).1,(imA (im1 h s) (fx,fy,fz) ns (j+1)).2.1,(imA (im1 h s) (fx,fy,fz) ns (j+1)).2.2,to⟩:=rfl
  rw [hfp] at hgo
  clear hfp
  generalize crsA h s ⟨ns[j],(imA (im1 h s) (fx,fy,fz) ns (j+1)).1,(imA (im1 h s) (fx,fy,fz) ns (j+1)).2.1,(imA (im1 h s) (fx,fy,fz) ns (j+1)).2.2,to⟩=r at *
  obtain ⟨⟨x,y,z,d⟩,E⟩:=r
  generalize imA (im1 h s) (fx,fy,fz) ns (j+1)=q at *
  obtain ⟨qx,qy,qz⟩:=q
  obtain ⟨X,Y,Z,V⟩:=to
  dsimp only at hgo w1 c1
  by_cases hE:E=0
  ·subst hE
   rw [if_pos rfl] at hgo
   have hs1:Zc3 (pts.map ptc) (0+((j+1:Nat):Int).toNat) (ptc ⟨x,y,z,d⟩)=(pts.set (j+1) ⟨x,y,z,d⟩).map ptc:=by
    rw [Ra,Ru]; exact Zjo _ _ _
   repeat'(first|refine wk3 ?_|(refine wk2 ?_ ?_<;>intro _)|refine wk4 ?_|fail);all_goals(conv=>whnf)
   exact Ql ⟨(j,_,_,pts.set (j+1) ⟨x,y,z,d⟩),[],rfl,kps,kps,⟨b1,by dsimp only; omega,hs1,by dsimp only; rw [Ki,hpl],by dsimp only; rw [Pu,if_neg (by omega)]; exact hp0,⟨x,y,z,d⟩,⟨x,y,z,d⟩::P,⟨X,Y,Z,V⟩::Q,by dsimp only; rw [Zaf (by omega),hd],(fun p hp=>by
    rcases Rf.1 hp with rfl|hp
    ·exact w1 rfl
    ·exact hpr p hp),by rw [Sv,hPQ],hgo⟩,by dsimp only; omega⟩
  ·rw [if_neg hE] at hgo
   rw [<-hgo] at hR
   dsimp only at hR
   subst hR
   repeat'(first|refine wk3 ?_|(refine wk2 ?_ ?_<;>intro _)|refine wk4 ?_|fail);all_goals(conv=>whnf)
   all_goals exact Zg rfl rfl
 | zero =>
  have hpe:pts=pnt (fx,fy,fz)::P++[pnt (tx,ty,tz)]:=by
   rw [Sv,hPQ,<-hd]
   clear hk0 lp hpl
   cases pts with
   | nil=>cases hp0
   | cons p r=>cases hp0; rfl
  have hpa:∀ p∈pts,Xm p=0:=fun p hp=>by
   rw [hpe,Sv,hPQ] at hp
   rcases Rf.1 hp with rfl|hp
   ·exact w0
   ·exact hpr p hp
  rw [Ll,Nz,goP] at hgo
  rw [<-hgo] at hR
  dsimp only at hR
  rw [<-hpe] at hR
  have hPl:P.length=ns.length:=by
   have:=congrArg Ke hpe
   simp at this; omega
  clear hgo hlt' hd hPQ hpr Q to
  repeat'(first|refine wk3 ?_|(refine wk2 ?_ ?_<;>intro _)|refine wk4 ?_|fail);all_goals(conv=>whnf)
  refine Yb (S:=Nat × Int) (fun t=>ns.length+1-t.1) (fun t=>[(3,.isl 1 (nl ns)),(4,.ptr 0 0 0),(5,.ptr 1 0 0),(6,.ptr 2 0 0),(8,.ptr 3 0 0),(10,.isl 3 (imC (im1 h s) (fx,fy,fz) ns ns.length)),(11,I (nl ns).length),(12,.asl 4 0 (Qa Qb (((nl ns).length:Int)+2)).toNat),(16,I t.2)])
   (fun t=>[(4,.row 4 (pts.map ptc) true true),(3,.row 3 [[.nils,.nils,I 0]] true false),(2,.row 7 [[I fx,I fy,I fz,I tx,I ty,I tz,I n]] true false),(1,.row 2 [[.isl 1 (nl s.hs),.isl 1 (nl s.dr)]] true false),(0,.row 9 [h.cells] true false)]) 19 19
   (fun t=>t.2=t.1/\t.1<=ns.length+1/\chkW (wP h s) (pts.drop t.1)=chkW (wP h s) pts) (0,0) ⟨rfl,Qn _,rfl⟩ (Qd _) [] rfl (kps) (kps) ?_
  rintro ⟨k,i⟩ ⟨hi1,hk1,hck⟩
  dsimp only at hi1 hk1 hck ⊢
  subst hi1
  by_cases hlt:k<ns.length+1
  ·have b0:((k:Nat):Int)<=((nl ns).length:Int):=by rw [ll]; omega
   have b2:Qa Qb (((k:Nat):Int)+1)=((k+1:Nat):Int):=by rw [W_eq (by omega) (by omega)]; omega
   have e3:(pts.map ptc)[0+((k:Nat):Int).toNat]?=some (ptc (pts[k]'(by omega))):=by rw [Ra,Ru]; exact Zc9 (by omega)
   have e4:(pts.map ptc)[0+(Qa Qb (((k:Nat):Int)+1)).toNat]?=some (ptc (pts[k+1]'(by omega))):=by rw [b2,Ra,Ru]; exact Zc9 (by omega)
   rw [Zk0 (by omega)] at hck
   have q1:=hpa (pts[k]'(by omega)) (Qt _)
   have q2:=hpa (pts[k+1]'(by omega)) (Qt _)
   have v1:=Zzo (h:=h) (s:=s) (Zss q1).r (Zss q2).r
   rw [Yh4 g e0 q1 q2] at hck
   clear q1 q2
   have hpq:ptEq (pts[k]'(by omega)) (pts[k+1]'(by omega))=(decide ((pts[k]'(by omega)).x=(pts[k+1]'(by omega)).x)&&decide ((pts[k]'(by omega)).y=(pts[k+1]'(by omega)).y)&&decide ((pts[k]'(by omega)).z=(pts[k+1]'(by omega)).z)&&decide ((pts[k]'(by omega)).d=(pts[k+1]'(by omega)).d)):=rfl
   rw [hpq] at hck
   clear hpq
   generalize (pts[k]'(by omega))=p1 at *
   generalize (pts[k+1]'(by omega))=p2 at *
   generalize Zki h s p1 p2=f at *
   obtain ⟨x1,y1,z1,d1⟩:=p1
   obtain ⟨x2,y2,z2,d2⟩:=p2
   dsimp only at hck
   refine bs.av (sx:=nos) hk0 ?_
   cases hb:(!(decide (x1=x2)&&decide (y1=y2)&&decide (z1=z2)&&decide (d1=d2))&&f) with
   | true =>
    rw [hb,Tx] at hck
    repeat'(first|refine wk3 ?_|(refine wk2 ?_ ?_<;>intro _)|refine wk4 ?_|fail);all_goals(conv=>whnf)
    all_goals first
     | (exfalso; clear hk0; simp_all; done)
     | exact Ql ⟨(k+1,_),[],rfl,kps,kps,⟨b2,hlt,hck⟩,by dsimp only; omega⟩
   | false =>
    rw [hb,Oi] at hck
    rw [<-hck,if_neg (by simp)] at hR
    subst hR
    repeat'(first|refine wk3 ?_|(refine wk2 ?_ ?_<;>intro _)|refine wk4 ?_|fail);all_goals(conv=>whnf)
    all_goals first
     | exact Zg rfl rfl
     | (exfalso; clear hk0; simp_all; done)
  ·have hke:k=ns.length+1:=by omega
   subst hke
   rw [Zk1 (by omega)] at hck
   rw [<-hck,if_pos rfl] at hR
   subst hR
   refine Fx [4] rfl (bs.av (sx:=nos) hk0 ?_)
   have y1:Zes (some (I (Qa Qb (((nl ns).length:Int)+1)))) (Qa Qb (((nl ns).length:Int)+2)).toNat=some (ns.length+1):=by
    show cond (decide (0<=Qa Qb (((nl ns).length:Int)+1))) (some (Qa Qb (((nl ns).length:Int)+1)).toNat) none=_
    rw [x1,decide_eq_true (by omega)]
    simp only [cond_true,Qf]; omega
   have e5:(imC (im1 h s) (fx,fy,fz) ns ns.length)[((nl ns).length:Int).toNat]?=some (pl3 (imA (im1 h s) (fx,fy,fz) ns ns.length)):=by
    rw [Ra,ll]; exact Zg0 _ _ _ _
   cases P with
   | nil =>
    have hns:ns=[]:=List.eq_nil_of_length_eq_zero (by rw [<-hPl]; rfl)
    subst hns
    subst hpe
    clear hk1 hll hlt hpl lp hp0
    conv=>whnf
    repeat'(first|refine wk3 ?_|(refine wk2 ?_ ?_<;>intro _)|refine wk4 ?_|fail);all_goals(conv=>whnf)
    exact Yr [21] rfl rfl rfl
   | cons p P =>
   have e7:La (ns.length+1-Sr 1) (Lb (0+Sr 1) (pts.map ptc))=((p::P).map tup4).map hp4:=by
    rw [hpe,Sv,Te,show (0+Sr 1)=1 from rfl,Kn,Th,Po,show ns.length+1-Sr 1=((p::P).map ptc).length by rw [Re,hPl]; omega,Gs,Hs]
    rfl
   conv=>whnf
   repeat'(first|refine wk3 ?_|(refine wk2 ?_ ?_<;>intro _)|refine wk4 ?_|fail);all_goals(conv=>whnf)
   refine Zic rfl rfl rfl rfl rfl rfl y1 (by omega) (by rw [x2]; omega) (by rw [x2]; omega) ?_
   conv=>whnf
   generalize imA (im1 h s) (fx,fy,fz) ns ns.length=q at *
   obtain ⟨qx,qy,qz⟩:=q
   repeat'(first|refine wk3 ?_|(refine wk2 ?_ ?_<;>intro _)|refine wk4 ?_|fail);all_goals(conv=>whnf)
   refine Zr5 (ys:=((p::P).map tup4).map hp4) rfl rfl rfl rfl rfl rfl rfl (by rw [<-e7]; rfl) rfl ?_ (by simp) rfl (by rw [Re,Re,hPl]; show 0+_<=_; omega) ?_
   ·exact Zos _
   conv=>whnf
   repeat'(first|refine wk3 ?_|(refine wk2 ?_ ?_<;>intro _)|refine wk4 ?_|fail);all_goals(conv=>whnf)
   refine Yr [26] rfl ?_ rfl
   exact congrArg (fun m=>AV.tup [.agg [.isl 1 (nl ns),.asl 26 0 m,I (sqV qx qy qz tx ty tz)],Bo true]) (Ru (((p::P).map tup4).map hp4).length)
theorem d21p {h:Hal} {s:Stg} (g:Sit h s) (e0:serr h s=0) (a:Ask) (hf:Near 5000 (a.fx,a.fy,a.fz)) (ht:Near 5000 (a.tx,a.ty,a.tz)) {ns:List Int} (hl:ns.length<=4) (hi:∀ n∈ns,0<=n/\n<nsur h) :
  PCall Tryz.prog 21 [h.av,s.av,a.av,.isl 1 (nl ns)] ⟨ansP (Xz h s (a.fx,a.fy,a.fz) (a.tx,a.ty,a.tz) ns),[]⟩:=(d21r g e0 a hf ht hl hi).freeze (Zz8 _)
abbrev Pt4:=Int × Int × Int × Int
def eqP4 (a b:Pt4):Bool:=decide (a.1=b.1)&&(decide (a.2.1=b.2.1)&&(decide (a.2.2.1=b.2.2.1)&&decide (a.2.2.2=b.2.2.2)))
def eqP:List Pt4->List Pt4->Bool
 | [],[]=>true
 | x::a,y::b=>eqP4 x y&&eqP a b
 | _,_=>false
theorem eqP4_iff {a b:Pt4}:eqP4 a b=true↔a=b:=by
 obtain ⟨a1,a2,a3,a4⟩:=a
 obtain ⟨b1,b2,b3,b4⟩:=b
 simp [eqP4]
theorem Zrp:∀ {a b:List Pt4},eqP a b=true↔a=b
 | [],[]=>by simp [eqP]
 | x::a,y::b=>by rw [eqP,Qc,eqP4_iff,Zrp]; simp
 | [],y::b=>by simp [eqP]
 | x::a,[]=>by simp [eqP]
theorem Yfe {a b:List Pt4} (h:a.length≠b.length):eqP a b=false:=by
 rw [Bool.eq_false_iff,ne_eq,Zrp]
 intro e; exact h (by rw [e])
def same (a b:Pth):Bool:=eqN a.ss b.ss&&(decide (a.sq=b.sq)&&eqP a.ps b.ps)
theorem same_iff {a b:Pth}:same a b=true↔a=b:=by
 obtain ⟨a1,a2,a3⟩:=a
 obtain ⟨b1,b2,b3⟩:=b
 unfold same
 rw [Qc,Qc,Zrq,Zrp,decide_eq_true_eq]
 simp only [Pth.mk.injEq]
 exact ⟨fun ⟨h1,h2,h3⟩=>⟨h1,h3,h2⟩,fun ⟨h1,h2,h3⟩=>⟨h1,h3,h2⟩⟩
theorem Yc5 (l:List Pt4):(l.map hp4).length=l.length:=by simp
theorem Yc6 {l:List Pt4} {k:Nat} (h:k<l.length):(l.map hp4)[((k:Nat):Int).toNat]?=some (hp4 l[k]):=by simp [h]
theorem d20 {a b:Pth} (ha:a.ss.length<1000000) (hb:b.ss.length<1000000) (ka:a.ps.length<1000000) (kb:b.ps.length<1000000):PCall Tryz.prog 20 [a.av,b.av] ⟨Bo (same a b),[]⟩:=by
 obtain ⟨a1,a2,a3⟩:=a
 obtain ⟨b1,b2,b3⟩:=b
 dsimp only at ha hb ka kb
 have l1:=Yc5 a2
 have l2:=Yc5 b2
 have q1:=Yay ha hb
 have hk:PCOK Tryz.prog (ins 58 Yez pt0):=Yaz Zc
 unfold same
 dsimp only
 cases h1:eqN a1 b1
 ·rw [h1] at q1
  refine bs.pv (sx:=nos) hk Tryz.func20 (by kernel_rfl) (by kernel_rfl) rfl ?_
  repeat'(first|refine wk3 ?_|(refine wk2 ?_ ?_<;>intro _)|refine wk4 ?_|fail);all_goals(conv=>whnf)
  exact Za rfl
 rw [h1] at q1
 by_cases h2:a3=b3
 rotate_left
 ·rw [decide_eq_false h2]
  refine bs.pv (sx:=nos) hk Tryz.func20 (by kernel_rfl) (by kernel_rfl) rfl ?_
  repeat'(first|refine wk3 ?_|(refine wk2 ?_ ?_<;>intro _)|refine wk4 ?_|fail);all_goals(conv=>whnf)
  exact Za rfl
 rw [decide_eq_true h2]
 by_cases h3:a2.length=b2.length
 rotate_left
 ·rw [Yfe h3]
  refine bs.pv (sx:=nos) hk Tryz.func20 (by kernel_rfl) (by kernel_rfl) rfl ?_
  repeat'(first|refine wk3 ?_|(refine wk2 ?_ ?_<;>intro _)|refine wk4 ?_|fail);all_goals(conv=>whnf)
  all_goals first|exact Za rfl|(exfalso; simp_all<;>omega)
 refine bs.pv (sx:=nos) hk Tryz.func20 (by kernel_rfl) (by kernel_rfl) rfl ?_
 repeat'(first|refine wk3 ?_|(refine wk2 ?_ ?_<;>intro _)|refine wk4 ?_|fail);all_goals(conv=>whnf)
 ·exfalso; simp_all
 refine Yb (S:=Nat × Int) (fun t=>a2.length-t.1) (fun t=>[(2,.ptr 0 0 0),(3,.ptr 1 0 0),(5,I t.2)]) (fun _=>[(1,.row 3 [[.isl 1 (nl b1),.isl 4 (b2.map hp4),I b3]] true false),(0,.row 3 [[.isl 1 (nl a1),.isl 4 (a2.map hp4),I a3]] true false)]) 2 2 (fun t=>t.2=t.1/\t.1<=a2.length/\eqP (a2.drop t.1) (b2.drop t.1)=eqP a2 b2) (0,0) ⟨rfl,Qn _,rfl⟩ (Qd _) [] rfl (kps) (kps) ?_
 rintro ⟨k,i⟩ ⟨hi,hkk,hh⟩
 dsimp only at hi hkk hh ⊢
 subst hi
 generalize eqP a2 b2=R at *
 refine bs.av (sx:=nos) hk ?_
 by_cases hlt:k<a2.length
 ·have e1:=Yc6 hlt
  have e2:=Yc6 (l:=b2) (k:=k) (by omega)
  rw [Qi hlt,Qi (show k<b2.length by omega),eqP] at hh
  generalize a2[k]=x at *
  generalize b2[k]'(by omega)=y at *
  cases h4:eqP4 x y
  ·have h5:¬ x=y:=fun e=>by rw [eqP4_iff.2 e] at h4; cases h4
   rw [h4] at hh
   have hh:false=R:=hh
   subst hh
   obtain ⟨x1,x2,x3,x4⟩:=x
   obtain ⟨y1,y2,y3,y4⟩:=y
   repeat'(first|refine wk3 ?_|(refine wk2 ?_ ?_<;>intro _)|refine wk4 ?_|fail);all_goals(conv=>whnf)
   all_goals first|exact Za rfl|(exfalso; rename_i q; simp [eqP4] at h4 q; omega)
  ·have h5:=eqP4_iff.1 h4
   subst h5
   rw [h4,Tx] at hh
   obtain ⟨x1,x2,x3,x4⟩:=x
   repeat'(first|refine wk3 ?_|(refine wk2 ?_ ?_<;>intro _)|refine wk4 ?_|fail);all_goals(conv=>whnf)
   all_goals first|exact Ql ⟨(k+1,_),[],rfl,kps,kps,⟨Ze (by omega),hlt,hh⟩,by dsimp only; omega⟩|(exfalso; rename_i q; simp at q; done)
 ·rw [Qj (by omega),Qj (by omega)] at hh
  repeat'(first|refine wk3 ?_|(refine wk2 ?_ ?_<;>intro _)|refine wk4 ?_|fail);all_goals(conv=>whnf)
  exact Za hh
theorem Yg8 {a b:List Pt4} (h:a.map hp4=b.map hp4):a=b:=by
 refine (List.map_inj_right (fun x y hxy=>?_)).1 h
 obtain ⟨x1,x2,x3,x4⟩:=x
 obtain ⟨y1,y2,y3,y4⟩:=y
 simpa using hxy
theorem Znd {a b:Pth} (h:a.av=b.av):a=b:=by
 obtain ⟨a1,a2,a3⟩:=a
 obtain ⟨b1,b2,b3⟩:=b
 simp only [Oe,Qx,Od,Tl,true_and,and_true] at h
 rw [Zgv h.1,Yg8 h.2.1,h.2.2]
abbrev zPth:Pth:=⟨[],[],0⟩
abbrev zAV:AV:=.agg [.nils,.nils,I 0]
noncomputable def r20:List AV->Option PRes:=famA (fun q:Pth × Option Pth=>q.1.ss.length<1000000/\q.1.ps.length<1000000/\match q.2 with
 | some b=>b.ss.length<1000000/\b.ps.length<1000000
 | none=>True) (fun q=>match q.2 with
 | some b=>[q.1.av,b.av]
 | none=>[q.1.av,zAV]) (fun q=>match q.2 with
 | some b=>⟨Bo (same q.1 b),[]⟩
 | none=>⟨Bo (same q.1 zPth),[]⟩)
theorem Ygj {pt:PC} (h:PCOK Tryz.prog pt):PCOK Tryz.prog (ins 20 r20 pt):=by
 refine Ya (fun q hq=>?_) h
 obtain ⟨a,b⟩:=q
 cases b with
 | some b=>exact d20 hq.1 hq.2.2.1 hq.2.1 hq.2.2.2
 | none =>
  refine (d20 (a:=a) (b:=zPth) hq.1 (by simp) hq.2.1 (by simp)).nilArgs ?_
  exact ⟨NA.rfl,.inr ⟨_,_,rfl,rfl,.inr ⟨rfl,_,rfl⟩,.inr ⟨rfl,_,rfl⟩,.inl rfl,trivial⟩,trivial⟩
theorem Yit {b:Pth} (h:b.av=zAV):False:=by
 simp only [Oe,Qx] at h
 cases h.1
theorem Zz5 {a b:Pth} (h1:a.ss.length<1000000) (h2:a.ps.length<1000000) (h3:b.ss.length<1000000) (h4:b.ps.length<1000000):r20 [a.av,b.av]=some ⟨Bo (same a b),[]⟩ :=
 Zo (k:=(a,some b)) (g:=fun q:Pth × Option Pth=>match q.2 with
 | some b=>[q.1.av,b.av]
 | none=>[q.1.av,zAV]) (fun j hj=>by
  obtain ⟨x,y⟩:=j
  cases y with
  | some y =>
   simp only [Qx,and_true] at hj
   dsimp only
   rw [Znd hj.1,Znd hj.2]
  | none =>
   simp only [Qx,and_true] at hj
   exact (Yit hj.2.symm).elim) ⟨h1,h2,h3,h4⟩
structure AskOk (h:Hal) (s:Stg) (a:Ask):Prop where
 e0:serr h s=0
 f:Near 5000 (a.fx,a.fy,a.fz)
 t:Near 5000 (a.tx,a.ty,a.tz)
 fi:Za3 h ⟨a.fx,a.fy,a.fz,1⟩=true
 ti:Za3 h ⟨a.tx,a.ty,a.tz,1⟩=true
 ne:a.same=false
 n:0<=a.n/\a.n<=4
theorem Xj {h:Hal} {s:Stg} {a:Ask} (e:askE h s a=0):AskOk h s a:=by
 unfold askE at e
 split at e
 ·rename_i e0
  simp only [fstL] at e
  by_cases c1:plaE h a.fx a.fy a.fz=0
  rotate_left
  ·rw [if_pos (fun k=>c1 k)] at e; exact absurd e c1
  by_cases c2:plaE h a.tx a.ty a.tz=0
  rotate_left
  ·rw [if_neg (fun k=>k c1),if_pos (fun k=>c2 k)] at e; exact absurd e c2
  by_cases c3:unl (!a.same) 11=0
  rotate_left
  ·rw [if_neg (fun k=>k c1),if_neg (fun k=>k c2),if_pos (fun k=>c3 k)] at e; exact absurd e c3
  by_cases c4:unl (within a.n 0 4) 2=0
  rotate_left
  ·rw [if_neg (fun k=>k c1),if_neg (fun k=>k c2),if_neg (fun k=>k c3),if_pos (fun k=>c4 k)] at e; exact absurd e c4
  refine ⟨e0,(Zgt c1).1,(Zgt c2).1,(Zgt c1).2,(Zgt c2).2,?_,?_⟩
  ·cases hs:a.same with
   | false=>rfl
   | true=>rw [hs] at c3; cases c3
  ·cases hw:within a.n 0 4 with
   | true=>exact within_iff.1 hw
   | false=>rw [hw] at c4; cases c4
 ·rename_i e0; exact absurd e e0
theorem Ziz {h:Hal} {s:Stg} {q0 q1:Pl3} {ns:List Int} {p:Pth} (e:Xz h s q0 q1 ns=some p):p.ss=ns:=by
 rw [Zda] at e
 split at e
 ·cases e
 ·split at e
  ·cases e; rfl
  ·cases e
theorem Zxo {f:Int->Pl3->Pt->Pt × Int}:∀ {l:List (Int × Pl3)} {to:Pt} {P R:List Pt},goP f l to P=some R->R.length=l.length+P.length
 | [],_,_,_,h=>by rw [goP,Qf] at h; subst h; simp
 | (a,q)::r,to,P,R,h=>by
  rw [goP] at h
  split at h
  ·have:=Zxo h
   rw [this,Sb,Sb]; omega
  ·cases h
theorem Zsv {h:Hal} {s:Stg} {q0 q1:Pl3} {ns:List Int} {p:Pth} (e:Xz h s q0 q1 ns=some p):p.ps.length=ns.length:=by
 rw [Zda] at e
 split at e
 ·cases e
 ·rename_i P hP
  have:=Zxo hP
  rw [List.length_reverse,Zad,List.length_nil] at this
  split at e
  ·cases e; rw [Re]; exact this
  ·cases e
abbrev qF (a:Ask):Pl3:=(a.fx,a.fy,a.fz)
abbrev qT (a:Ask):Pl3:=(a.tx,a.ty,a.tz)
theorem d21a {h:Hal} (hk:h.ok) {s:Stg} (hs:s.few) {a:Ask} (e:askE h s a=0) {ns:List Int} (e2:suE h ns=0):PCall Tryz.prog 21 [h.av,s.av,a.av,.isl 1 (nl ns)] ⟨ansP (Xz h s (qF a) (qT a) ns),[]⟩ :=
 d21p (Zlz hk hs (Xj e).e0) (Xj e).e0 a (Xj e).f (Xj e).t (Zmz e2).1 (Zmz e2).2
def rowP (o:Option Pth):PRes:=match o with
 | none=>⟨.tup [.agg [.nils,.nils,I 0],Bo false],[]⟩
 | some p=>⟨.tup [.agg [.asl 0 0 (nl p.ss).length,.asl 1 0 (p.ps.map hp4).length,I p.sq],Bo true],[(1,nl p.ss),(4,p.ps.map hp4)]⟩
theorem Zz6 (o:Option Pth):Vs (rowP o).blks.length (rowP o).v=true:=by cases o<;>rfl
noncomputable abbrev clR:List AV->Option PRes:=famA (fun ps:List (Int × Int × Int × Int)=>0<ps.length/\ps.length<100000) (fun ps=>[.isl 4 (ps.map hp4)]) (fun ps=>⟨.asl 0 0 (ps.map hp4).length,[(4,ps.map hp4)]⟩)
theorem Yhq {pt:PC} (hp:PCOK Tryz.prog pt):PCOK Tryz.prog (ins 104 clR pt):=Ya (fun ps hl=>d104 hl.1 hl.2) hp
theorem Yfp {ps:List (Int × Int × Int × Int)} (h0:0<ps.length) (h:ps.length<100000):clR [.isl 4 (ps.map hp4)]=some ⟨.asl 0 0 (ps.map hp4).length,[(4,ps.map hp4)]⟩ :=
 Zo (p:=fun ps:List (Int × Int × Int × Int)=>0<ps.length/\ps.length<100000) (g:=fun ps=>[.isl 4 (ps.map hp4)]) (r:=fun ps=>⟨.asl 0 0 (ps.map hp4).length,[(4,ps.map hp4)]⟩) (fun j hj=>by
  simp only [Qx,Od,true_and,and_true] at hj
  rw [hj]) ⟨h0,h⟩
noncomputable def Ygw (h:Hal) (s:Stg) (q0:Pl3) (ns:List Int):PC:=ins 82 (oneA [.agg (stgL h s),P3 q0.1 q0.2.1 q0.2.2,.isl 1 (nl ns)] ⟨.isl 3 (imC (im1 h s) q0 ns ns.length),[]⟩) (ins 123 r123 (ins 124 (crsT h s) (ins 125 (wayT h s) (ins 126 r126 (ins 104 clR (ins 103 (oneA [.isl 1 (nl ns)] ⟨.asl 0 0 (nl ns).length,[(1,nl ns)]⟩) pt0))))))
theorem Yav {h:Hal} (hk:h.ok) {s:Stg} (hs:s.few) (e0:serr h s=0) {q0:Pl3} (hf:Near 5000 q0) {ns:List Int} (h0:0<ns.length) (hl:ns.length<=4) (hi:∀ n∈ns,0<=n/\n<nsur h):PCOK Tryz.prog (Ygw h s q0 ns) :=
 Zb8 (d82f hk hs e0 hf hl hi) (Zwm (Zyj hk hs (Zvq hk hs (Zwl (Yhq (Zb8 (d103 (ns:=ns) h0 (by omega)) Zc))))))
theorem d65r {h:Hal} (hk:h.ok) {s:Stg} (hs:s.few) (e0:serr h s=0) (a:Ask) (hf:Near 5000 (a.fx,a.fy,a.fz)) (ht:Near 5000 (a.tx,a.ty,a.tz)) {ns:List Int} (h0:0<ns.length) (hl:ns.length<=4) (hi:∀ n∈ns,0<=n/\n<nsur h) :
  PCall Tryz.prog 65 [.agg (stgL h s),a.av,.isl 1 (nl ns)] (rowP (Xz h s (a.fx,a.fy,a.fz) (a.tx,a.ty,a.tz) ns)):=by
 obtain ⟨fx,fy,fz,tx,ty,tz,n⟩:=a
 dsimp only at hf ht ⊢
 have hk0:=Yav hk hs e0 hf h0 hl hi
 unfold Ygw at hk0
 have w0:=Zsu hf
 have wT:=Zsu ht
 have ll:=Zi ns
 have o1:=Zak [.agg (stgL h s),P3 fx fy fz,.isl 1 (nl ns)] ⟨.isl 3 (imC (im1 h s) (fx,fy,fz) ns ns.length),[]⟩
 have o2:=Zak [.isl 1 (nl ns)] ⟨.asl 0 0 (nl ns).length,[(1,nl ns)]⟩
 have hR:=Zda h s (fx,fy,fz) (tx,ty,tz) ns
 generalize Xz h s (fx,fy,fz) (tx,ty,tz) ns=R at *
 have il:=Zdg (im1 h s) (fx,fy,fz) ns ns.length
 have x2:Qa Qb (((nl ns).length:Int)+2)=((ns.length+2:Nat):Int):=by rw [ll,W_eq (by omega) (by omega)]; omega
 have x1:Qa Qb (((nl ns).length:Int)+1)=((ns.length+1:Nat):Int):=by rw [ll,W_eq (by omega) (by omega)]; omega
 have a1:decide (0<=Qa Qb (((nl ns).length:Int)+2)/\(Qa Qb (((nl ns).length:Int)+2)).toNat<=1000000)=true:=by rw [x2]; exact decide_eq_true ⟨by omega,by omega⟩
 have g0:(Rv (Qa Qb (((nl ns).length:Int)+2)).toNat (ptc ptZ))[0+Sr 0]?=some (ptc ptZ):=by
  rw [x2,Ra,Mz,if_pos (by omega)]
 have g1:(Zc3 (Rv (Qa Qb (((nl ns).length:Int)+2)).toNat (ptc ptZ)) (0+Sr 0) (ptc (pnt (fx,fy,fz))))[0+(Qa Qb (((nl ns).length:Int)+1)).toNat]?=some (ptc ptZ):=by
  rw [Vd,x2,x1,Pu,if_neg (by omega)]; simp
 have hE0:Zc3 (Zc3 (Rv (Qa Qb (((nl ns).length:Int)+2)).toNat (ptc ptZ)) (0+Sr 0) (ptc (pnt (fx,fy,fz)))) (0+(Qa Qb (((nl ns).length:Int)+1)).toNat) (ptc (pnt (tx,ty,tz)))=(((Rv (ns.length+2) ptZ).set 0 (pnt (fx,fy,fz))).set (ns.length+1) (pnt (tx,ty,tz))).map ptc:=by
  rw [Vd,Vd,x2,x1,Ov,Ov,Jc]
  congr 1
  omega
 refine bs.pv (sx:=nos) hk0 Tryz.func65 (by kernel_rfl) (by kernel_rfl) (Zz6 _) ?_
 unfold Zdq
 conv=>whnf
 repeat'(first|refine wk3 ?_|(refine wk2 ?_ ?_<;>intro _)|refine wk4 ?_|fail);all_goals(conv=>whnf)
 obtain ⟨l,hlk⟩:∃ l,l=lkG (im1 h s) (fx,fy,fz) ns:=⟨_,rfl⟩
 have hll:l.length=ns.length:=by rw [hlk,Zad]
 have hlt' : ∀ {k:Nat} (hk:k<ns.length),(l.take (k+1)).reverse=(ns[k],imA (im1 h s) (fx,fy,fz) ns (k+1))::(l.take k).reverse:=fun hk=>by rw [hlk]; exact Zi0 hk
 rw [<-hlk] at hR
 clear hlk
 refine Yb (S:=Nat × Int × List (List AV) × List Pt) (fun t=>t.1) (fun t=>[(2,.isl 1 (nl ns)),(3,.ptr 0 0 0),(4,.ptr 1 0 0),(6,.ptr 2 0 0),(8,.isl 3 (imC (im1 h s) (fx,fy,fz) ns ns.length)),(9,I (nl ns).length),(10,.asl 3 0 (Qa Qb (((nl ns).length:Int)+2)).toNat),(11,I t.2.1)])
  (fun t=>[(3,.row 4 t.2.2.1 true true),(2,.row 3 [[.nils,.nils,I 0]] true false),(1,.row 7 [[I fx,I fy,I fz,I tx,I ty,I tz,I n]] true false),(0,.row 11 [stgL h s] true false)]) 18 18
  (fun t=>t.2.1=t.1/\t.1<=ns.length/\t.2.2.1=t.2.2.2.map ptc/\t.2.2.2.length=ns.length+2/\t.2.2.2[0]?=some (pnt (fx,fy,fz))/\(∀ p∈t.2.2.2,p.wf)/\∃ to P Q,t.2.2.2.drop (t.1+1)=to::Q/\P++[pnt (tx,ty,tz)]=to::Q/\goP (fP h s) (l.take t.1).reverse to P=goP (fP h s) l.reverse (pnt (tx,ty,tz)) [])
  (ns.length,(nl ns).length,_,(((Rv (ns.length+2) ptZ).set 0 (pnt (fx,fy,fz))).set (ns.length+1) (pnt (tx,ty,tz)))) ⟨by dsimp only; rw [ll],Qd _,hE0,by simp,by simp,?_,pnt (tx,ty,tz),[],[],by rw [Zaf (by simp)]; simp,rfl,by rw [<-hll,Wj]⟩ (Qd _) [] rfl (kps) (kps) ?_
 ·intro p hp
  rcases Wt hp with hp|rfl
  ·rcases Wt hp with hp|rfl
   ·rw [Jv hp]; exact Zl3
   ·exact w0
  ·exact wT
 clear g0 g1 hE0 a1
 rintro ⟨k,i,els,pts⟩ ⟨hi1,hk1,hels,hpl,hp0,hwf,to,P,Q,hd,hPQ,hgo⟩
 dsimp only at hi1 hk1 hels hpl hp0 hwf hd hPQ hgo ⊢
 subst hi1 hels
 have lp:(pts.map ptc).length=ns.length+2:=by rw [Re,hpl]
 refine bs.av (sx:=nos) hk0 ?_
 cases k with
 | succ j =>
  have b0:((j+1:Nat):Int)>=1:=by omega
  have b1:Qa Qb (((j+1:Nat):Int)-1)=j:=by rw [W_eq (by omega) (by omega)]; omega
  have b2:Qa Qb (((j+1:Nat):Int)+1)=((j+2:Nat):Int):=by rw [W_eq (by omega) (by omega)]; omega
  have e1:(nl ns)[(Qa Qb (((j+1:Nat):Int)-1)).toNat]?=some [I ns[j]]:=by rw [b1]; simp [nl]
  have e2:(imC (im1 h s) (fx,fy,fz) ns ns.length)[((j+1:Nat):Int).toNat]?=some (pl3 (imA (im1 h s) (fx,fy,fz) ns (j+1))):=by
   rw [Ra]; unfold imC; rw [Qy,Tv (by omega)]; rfl
  have hto:pts[j+2]?=some to:=by rw [<-Hz,hd]; rfl
  have e3:(pts.map ptc)[0+(Qa Qb (((j+1:Nat):Int)+1)).toNat]?=some (ptc to):=by rw [b2,Ra,Ru,Qy,hto]; rfl
  have e4:(pts.map ptc)[0+((j+1:Nat):Int).toNat]?=some (ptc (pts[j+1]'(by omega))):=by rw [Ra,Ru]; exact Zc9 (by omega)
  have wto:to.wf:=hwf _ (Pf hto)
  rw [hlt' (by omega),goP] at hgo
  have c1:=Ztn (h:=h) (s:=s) (c:=⟨ns[j],(imA (im1 h s) (fx,fy,fz) ns (j+1)).1,(imA (im1 h s) (fx,fy,fz) ns (j+1)).2.1,(imA (im1 h s) (fx,fy,fz) ns (j+1)).2.2,to⟩) wto
  have w1:=Zyk (h:=h) (s:=s) ⟨ns[j],(imA (im1 h s) (fx,fy,fz) ns (j+1)).1,(imA (im1 h s) (fx,fy,fz) ns (j+1)).2.1,(imA (im1 h s) (fx,fy,fz) ns (j+1)).2.2,to⟩ hk hs
  have hfp:fP h s ns[j] (imA (im1 h s) (fx,fy,fz) ns (j+1)) to=crsA h s ⟨ns[j],(imA (im1 h s) (fx,fy,fz) ns (j+1)).1,(imA (im1 h s) (fx,fy,fz) ns (j+1)).2.1,(imA (im1 h s) (fx,fy,fz) ns (j+1)).2.2,to⟩:=rfl
  rw [hfp] at hgo
  clear hfp
  generalize crsA h s ⟨ns[j],(imA (im1 h s) (fx,fy,fz) ns (j+1)).1,(imA (im1 h s) (fx,fy,fz) ns (j+1)).2.1,(imA (im1 h s) (fx,fy,fz) ns (j+1)).2.2,to⟩=r at *
  obtain ⟨⟨x,y,z,d⟩,E⟩:=r
  generalize imA (im1 h s) (fx,fy,fz) ns (j+1)=q at *
  obtain ⟨qx,qy,qz⟩:=q
  obtain ⟨X,Y,Z,V⟩:=to
  dsimp only at hgo w1 c1
  by_cases hE:E=0
  ·subst hE
   rw [if_pos rfl] at hgo
   have hs1:Zc3 (pts.map ptc) (0+((j+1:Nat):Int).toNat) (ptc ⟨x,y,z,d⟩)=(pts.set (j+1) ⟨x,y,z,d⟩).map ptc:=by
    rw [Ra,Ru]; exact Zjo _ _ _
   repeat'(first|refine wk3 ?_|(refine wk2 ?_ ?_<;>intro _)|refine wk4 ?_|fail);all_goals(conv=>whnf)
   exact Ql ⟨(j,_,_,pts.set (j+1) ⟨x,y,z,d⟩),[],rfl,kps,kps,⟨b1,by dsimp only; omega,hs1,by dsimp only; rw [Ki,hpl],by dsimp only; rw [Pu,if_neg (by omega)]; exact hp0,(fun p hp=>by
    rcases Wt hp with hp|rfl
    ·exact hwf p hp
    ·exact w1),⟨x,y,z,d⟩,⟨x,y,z,d⟩::P,⟨X,Y,Z,V⟩::Q,by dsimp only; rw [Zaf (by omega),hd],by rw [Sv,hPQ],hgo⟩,by dsimp only; omega⟩
  ·rw [if_neg hE] at hgo
   rw [<-hgo] at hR
   dsimp only at hR
   subst hR
   repeat'(first|refine wk3 ?_|(refine wk2 ?_ ?_<;>intro _)|refine wk4 ?_|fail);all_goals(conv=>whnf)
   all_goals exact Zg rfl rfl
 | zero =>
  have hpe:pts=pnt (fx,fy,fz)::P++[pnt (tx,ty,tz)]:=by
   rw [Sv,hPQ,<-hd]
   clear hk0 hwf lp hpl
   cases pts with
   | nil=>cases hp0
   | cons p r=>cases hp0; rfl
  rw [Ll,Nz,goP] at hgo
  rw [<-hgo] at hR
  dsimp only at hR
  rw [<-hpe] at hR
  have hPl:P.length=ns.length:=by
   have:=congrArg Ke hpe
   simp at this; omega
  clear hgo hlt' hd hPQ Q to
  repeat'(first|refine wk3 ?_|(refine wk2 ?_ ?_<;>intro _)|refine wk4 ?_|fail);all_goals(conv=>whnf)
  refine Yb (S:=Nat × Int) (fun t=>ns.length+1-t.1) (fun t=>[(2,.isl 1 (nl ns)),(3,.ptr 0 0 0),(4,.ptr 1 0 0),(6,.ptr 2 0 0),(8,.isl 3 (imC (im1 h s) (fx,fy,fz) ns ns.length)),(9,I (nl ns).length),(10,.asl 3 0 (Qa Qb (((nl ns).length:Int)+2)).toNat),(75,I (Qa Qb (((nl ns).length:Int)+1))),(76,I t.2)])
   (fun t=>[(3,.row 4 (pts.map ptc) true true),(2,.row 3 [[.nils,.nils,I 0]] true false),(1,.row 7 [[I fx,I fy,I fz,I tx,I ty,I tz,I n]] true false),(0,.row 11 [stgL h s] true false)]) 18 18
   (fun t=>t.2=t.1/\t.1<=ns.length+1/\chkW (wP h s) (pts.drop t.1)=chkW (wP h s) pts) (0,0) ⟨rfl,Qn _,rfl⟩ (Qd _) [] rfl (kps) (kps) ?_
  rintro ⟨k,i⟩ ⟨hi1,hk1,hck⟩
  dsimp only at hi1 hk1 hck ⊢
  subst hi1
  by_cases hlt:k<ns.length+1
  ·have b0:((k:Nat):Int)<Qa Qb (((nl ns).length:Int)+1):=by rw [x1]; omega
   have b2:Qa Qb (((k:Nat):Int)+1)=((k+1:Nat):Int):=by rw [W_eq (by omega) (by omega)]; omega
   have e3:(pts.map ptc)[0+((k:Nat):Int).toNat]?=some (ptc (pts[k]'(by omega))):=by rw [Ra,Ru]; exact Zc9 (by omega)
   have e4:(pts.map ptc)[0+(Qa Qb (((k:Nat):Int)+1)).toNat]?=some (ptc (pts[k+1]'(by omega))):=by rw [b2,Ra,Ru]; exact Zc9 (by omega)
   rw [Zk0 (by omega)] at hck
   have v1:=Zr9 (h:=h) (s:=s) (hwf (pts[k]'(by omega)) (Qt _)) (hwf (pts[k+1]'(by omega)) (Qt _))
   have hw:wP h s (pts[k]'(by omega)) (pts[k+1]'(by omega))=(decide (wayE h s (pts[k]'(by omega)) (pts[k+1]'(by omega))=0)&&Zeo h s (pts[k]'(by omega)) (pts[k+1]'(by omega))):=rfl
   rw [hw] at hck
   clear hw
   generalize (pts[k]'(by omega))=p1 at *
   generalize (pts[k+1]'(by omega))=p2 at *
   generalize wayE h s p1 p2=u at *
   generalize Zeo h s p1 p2=f at *
   obtain ⟨x1,y1,z1,d1⟩:=p1
   obtain ⟨x2,y2,z2,d2⟩:=p2
   refine bs.av (sx:=nos) hk0 ?_
   cases hb:(decide (u=0)&&f) with
   | true =>
    rw [hb,Tx] at hck
    repeat'(first|refine wk3 ?_|(refine wk2 ?_ ?_<;>intro _)|refine wk4 ?_|fail);all_goals(conv=>whnf)
    all_goals first
     | (exfalso; clear hk0; simp_all; done)
     | exact Ql ⟨(k+1,_),[],rfl,kps,kps,⟨b2,hlt,hck⟩,by dsimp only; omega⟩
   | false =>
    rw [hb,Oi] at hck
    rw [<-hck,if_neg (by simp)] at hR
    subst hR
    repeat'(first|refine wk3 ?_|(refine wk2 ?_ ?_<;>intro _)|refine wk4 ?_|fail);all_goals(conv=>whnf)
    all_goals first
     | exact Zg rfl rfl
     | (exfalso; clear hk0; simp_all; done)
  ·have hke:k=ns.length+1:=by omega
   subst hke
   rw [Zk1 (by omega)] at hck
   rw [<-hck,if_pos rfl] at hR
   subst hR
   refine Fx [3] rfl (bs.av (sx:=nos) hk0 ?_)
   conv=>whnf
   repeat'(first|refine wk3 ?_|(refine wk2 ?_ ?_<;>intro _)|refine wk4 ?_|fail);all_goals(conv=>whnf)
   have y1:Zes (some (I (Qa Qb (((nl ns).length:Int)+1)))) (Qa Qb (((nl ns).length:Int)+2)).toNat=some (ns.length+1):=by
    show cond (decide (0<=Qa Qb (((nl ns).length:Int)+1))) (some (Qa Qb (((nl ns).length:Int)+1)).toNat) none=_
    rw [x1,decide_eq_true (by omega)]
    simp only [cond_true,Qf]; omega
   have cl:clR [.isl 4 (La (ns.length+1-Sr 1) (Lb (0+Sr 1) (pts.map ptc)))]=some ⟨.asl 0 0 ((P.map tup4).map hp4).length,[(4,(P.map tup4).map hp4)]⟩:=by
    have e:La (ns.length+1-Sr 1) (Lb (0+Sr 1) (pts.map ptc))=(P.map tup4).map hp4:=by
     rw [hpe,Sv,Te,show (0+Sr 1)=1 from rfl,Kn,Th,Po,show ns.length+1-Sr 1=(P.map ptc).length by rw [Re,hPl]; omega,Gs,Hs]
     rfl
    rw [e]
    exact Yfp (by rw [Re]; omega) (by rw [Re]; omega)
   have e5:(imC (im1 h s) (fx,fy,fz) ns ns.length)[((nl ns).length:Int).toNat]?=some (pl3 (imA (im1 h s) (fx,fy,fz) ns ns.length)):=by
    rw [Ra,ll]; exact Zg0 _ _ _ _
   refine Zic rfl rfl rfl rfl rfl rfl y1 (by omega) (by rw [x2]; omega) (by rw [x2]; omega) ?_
   conv=>whnf
   generalize imA (im1 h s) (fx,fy,fz) ns ns.length=q at *
   obtain ⟨qx,qy,qz⟩:=q
   repeat'(first|refine wk3 ?_|(refine wk2 ?_ ?_<;>intro _)|refine wk4 ?_|fail);all_goals(conv=>whnf)
   exact Yr [19,25] rfl rfl rfl
theorem Zw7 {r:Locs} {I:Imm} {w:World} {D:Nat->Prop} {es:Nat} {x:Value} (h:VR r I w D (.isl es []) x) (r' : Locs) (I' : Imm) (w' : World) (D' : Nat->Prop):VR r' I' w' D' (.isl es []) x:=by
 cases h with
 | isl0=>exact .isl0 _ _ _ _
 | isl _ _ _ _ _ _ h1=>exact .isl0 _ _ _ _
theorem d65f {h:Hal} (hk:h.ok) {s:Stg} (hs:s.few) {a:Ask} (e:askE h s a=0) {ns:List Int} (hl:ns.length<=4) (hi:∀ n∈ns,0<=n/\n<nsur h) :
  Zqg Tryz.prog 65 [.agg (stgL h s),a.av,.isl 1 (nl ns)] (ansP (Xz h s (qF a) (qT a) ns)):=by
 by_cases h0:0<ns.length
 ·refine Zwp (d65r hk hs (Xj e).e0 a (Xj e).f (Xj e).t h0 hl hi) ?_ ?_ ?_
  ·cases Xz h s (qF a) (qT a) ns<;>rfl
  ·show Za6 (rowP (Xz h s (qF a) (qT a) ns)).blks=true
   cases Xz h s (qF a) (qT a) ns with
   | none=>rfl
   | some p=>(simp [rowP,Za6,Zqu,Zfj,nl]; exact ⟨fun _ _=>rfl,fun _ _ _ _ _=>rfl⟩)
  ·show Frz (rowP (Xz h s (qF a) (qT a) ns)).blks (rowP (Xz h s (qF a) (qT a) ns)).v _
   cases Xz h s (qF a) (qT a) ns with
   | none=>exact ⟨⟨rfl,rfl,⟨rfl,rfl⟩,trivial⟩,⟨rfl,rfl⟩,trivial⟩
   | some p=>exact ⟨⟨⟨rfl,rfl,rfl⟩,⟨rfl,rfl,rfl⟩,⟨rfl,rfl⟩,trivial⟩,⟨rfl,rfl⟩,trivial⟩
 ·obtain rfl:ns=[]:=Qv.1 (by omega)
  have hd:=(d65 hk hs (Xj e).e0 a (Xj e).f (Xj e).t hl hi).freeze (Yab _)
  obtain ⟨n,b,hv⟩:∃ n b,ansP (Xz h s (a.fx,a.fy,a.fz) (a.tx,a.ty,a.tz) []) = .tup [.agg [.isl 1 [],.isl 4 [],I n],Bo b]:=by
   cases hp:Xz h s (a.fx,a.fy,a.fz) (a.tx,a.ty,a.tz) [] with
   | none=>exact ⟨0,false,rfl⟩
   | some p =>
    have h1:=Ziz hp
    have h2:=Zsv hp
    obtain ⟨ss,ps,sq⟩:=p
    dsimp only at h1 h2
    subst h1
    obtain rfl:ps=[]:=Qv.1 (by simpa using h2)
    exact ⟨sq,true,rfl⟩
  show Zqg Tryz.prog 65 _ (ansP (Xz h s (a.fx,a.fy,a.fz) (a.tx,a.ty,a.tz) []))
  rw [hv] at hd ⊢
  refine ⟨hd.1,fun I w vs hI hv=>(hd.2 I w vs hI hv).mono fun e w' hh=>?_⟩
  obtain ⟨x,r',I',rfl,hp⟩:=hh
  refine ⟨x,fun _ _=>False,rfl,hp.below,fun b o h=>h.elim,?_⟩
  have hval:=hp.val
  cases hval with
  | tup _ _ vs h1 h2 =>
   refine .tup _ _ _ h1 fun i c v hc hx=>?_
   have:=h2 i c v hc hx
   match i with
   | 0 =>
    cases hc
    cases this with
    | agg _ _ vs h3 h4 =>
     refine .agg _ _ _ h3 fun i c v hc hx=>?_
     have:=h4 i c v hc hx
     match i with
     | 0=>cases hc; exact Zw7 this _ _ _ _
     | 1=>cases hc; exact Zw7 this _ _ _ _
     | 2=>cases hc; cases this; exact .int _ _ _
     | i+3=>simp at hc
   | 1=>cases hc; cases this; exact .bool _ _
   | i+2=>simp at hc
theorem d18 {h:Hal} (hk:h.ok) {s:Stg} (hs:s.few) (a:Ask):PCall Tryz.prog 18 [h.av,s.av,a.av] ⟨I (askE h s a),[]⟩:=by
 have hk0:=Zf (d90 hk) (Zf (c75 hk.f hs) Zc)
 by_cases e:serr h s=0
 ·have he:=Zgm e
  have e2:setE h s=0:=by unfold serr at e; rw [if_pos he] at e; exact e
  obtain ⟨fx,fy,fz,tx,ty,tz,n⟩:=a
  unfold askE
  rw [if_pos e]
  rw [he,e2] at hk0
  dsimp only
  have hk1:=Ygi hk he (Zf (d68 n) hk0)
  have q1:=Zm6 h fx fy fz
  have q2:=Zm6 h tx ty tz
  simp only [fstL]
  refine bs.pv (sx:=nos) hk1 Tryz.func18 (by kernel_rfl) (by kernel_rfl) rfl ?_
  clear hk1 hk0
  repeat'(first|refine wk3 ?_|(refine wk2 ?_ ?_<;>intro _)|refine wk4 ?_|fail);all_goals(conv=>whnf)
  all_goals first
   | (refine Zb ?_; simp_all [Ask.same,unl]; done)
   | (refine Zb ?_; clear q1 q2; cases hw:within n 0 4<;>by_cases c1:fx=tx<;>by_cases c2:fy=ty<;>by_cases c3:fz=tz<;>simp_all [Ask.same,unl]<;>done)
   | (exfalso; simp_all; done)
 ·rw [show askE h s a=serr h s by unfold askE; rw [if_neg e]]
  unfold serr at e ⊢
  refine bs.pv (sx:=nos) hk0 Tryz.func18 (by kernel_rfl) (by kernel_rfl) rfl ?_
  clear hk0
  repeat'(first|refine wk3 ?_|(refine wk2 ?_ ?_<;>intro _)|refine wk4 ?_|fail);all_goals(conv=>whnf)
  all_goals first
   | (refine Zb ?_; simp_all; done)
   | (exfalso; simp_all; done)
theorem Zv9 (p:Pth):same p p=true:=same_iff.2 rfl
def chkP (h:Hal) (s:Stg) (a:Ask) (p:Pth):Int:=match Xz h s (qF a) (qT a) p.ss with
 | none=>20
 | some q=>if q.sq=p.sq/\eqP q.ps p.ps=true then 0 else 20
def cpE (h:Hal) (s:Stg) (a:Ask) (p:Pth):Int:=if pthE p=0 then (if suE h p.ss=0 then (if (p.ss.length:Int)<=a.n then chkP h s a p else 2) else suE h p.ss) else pthE p
end Go.Proofs.YtdaliaafmcjikaaGreat
