/- A part of the proof: lemmas. -/
import Derived.Test.YtfkdpbklbegnlaaGreatV15
import Derived.Test.YtfkdpbklbegnlaaGreatV12
import Derived.Test.YtfkdpbklbegnlaaGreatV9
import Derived.Test.YtfkdpbklbegnlaaGreatV8
import Derived.Test.YtfkdpbklbegnlaaGreatV11
import Derived.Test.YtfkdpbklbegnlaaGreatV14
import Derived.Shelf.SlSortCmp.NoneTotal
set_option linter.unusedVariables false
set_option linter.unusedSimpArgs false
set_option maxRecDepth 100000
set_option maxHeartbeats 16000000
open Bool renaming and_eq_true->Qc,and_true->Mn
open Go.IntKind renaming i64->Qb,wrap->Qa
open Go.Sx.Done renaming mk->Qq
open Go.Sx.LpM renaming succ->Rq
open Int renaming add_zero->Tl,ediv_mul_le->Kl,ediv_nonneg->Tm,le_refl->Gu,le_trans->Nj,lt_or_le->Oc,mul_assoc->Sl,mul_comm->Rp,mul_eq_zero->Ot,mul_le_mul_of_nonneg_right->Qj,mul_lt_mul_of_pos_right->Pd,mul_nonneg->Qo,mul_pos->Rk,neg_mul->Td,pow_nonneg->Mb,pow_pos->Qaa,pow_succ->Ni,zero_mul->Sr
open List renaming Nodup->Fr,getElem_mem->Qr,length_eq_zero_iff->Tq,length_map->Rw,length_reverse->Px,mem_cons->Ra,mem_filterMap->Nh,mem_map->Ph,mem_reverse->Du,pairwise_cons->Tv,pairwise_map->Lm,reverse_reverse->Gv,take_length->Of,take_succ_eq_append_getElem->Qu
open List.cons renaming injEq->Qx
open Nat renaming le_of_ble_eq_true->Qp,zero_le->Qn
namespace Go.Proofs.YtfkdpbklbegnlaaGreat
open Go Go.Sx
theorem Zhi {h:Hal} {s:Stg} (g:Sit h s) {p q:Pt} (hw:wP h s p q=true):wP h s q p=true:=by
 unfold wP at hw ⊢
 rw [Qc,decide_eq_true_eq] at hw ⊢
 obtain ⟨h1,h2,h3,h4⟩:=Zvv hw.1
 have hp:=Ycu h2
 have hq:=Ycu h3
 exact ⟨Yd8 h1 h3 h2 (by rw [Zwt]; exact h4),(Ztg g hq hp).2 (((Ztg g hp hq).1 hw.2).back hp.r hq.r)⟩
theorem Xing.back {h:Hal} {n:Int} {pl:Int × Int} (hk:0<=pl.1/\pl.1<=4) {f to P:Pt} (X:Xing h n pl f to P):Xing h n pl (mU pl to) (mU pl f) P:=by
 obtain ⟨he,hon,hw,⟨k1,k2⟩,u,v,w,u0,v0,w0,hb⟩:=X
 refine ⟨he,hon,hw,⟨by rw [Yeb hk]; omega,by rw [Yeb hk]; omega⟩,v,u,w,v0,u0,w0,?_⟩
 have:=congrArg (mU pl) hb
 rw [Yc0,Ycy,Ycz hk hon] at this
 rw [<-this]
 unfold cmb
 refine Zbk ?_ ?_ ?_ ?_<;>dsimp only<;>grind
theorem Ybe {b E Q P u v w u' v' w' : Int} (h1:b*u+E*v=Q*w) (h2:b*u'+Q*v'=P*w'):E*(v*u')+P*(u*w')=Q*(w*u'+u*v'):=by
 have a:E*v=Q*w-b*u:=by omega
 have e1:E*(v*u')=(E*v)*u':=by rw [Sl]
 have e2:P*(u*w')=(P*w')*u:=by rw [Sl,Rp u]
 rw [e1,e2,<-h2,a]
 clear h1 h2 a e1 e2
 grind
theorem Xing.far {h:Hal} {n m:Int} {pl pm:Int × Int} (hk:0<=pl.1/\pl.1<=4) (hm:0<=pm.1/\pm.1<=4) {b d P Q:Pt} (XQ:Xing h m pm (mU pm b) d Q) (XP:Xing h n pl b Q P) :
  Xing h n pl (mU pl (mU pm d)) (mU pl b) P/\Xing h m pm (mU pm d) P Q:=by
 obtain ⟨he,hon,hw,⟨k1,k2⟩,u,v,w,u0,v0,w0,hb⟩:=XQ
 obtain ⟨he',hon',hw',⟨l1,l2⟩,u',v',w',u0',v0',w0',hb'⟩:=XP
 have hb2:=congrArg (mU pm) hb
 rw [Yc0,Ycy,Ycz hm hon,Zus] at hb2
 have hbx:b.x*u+(mU pm d).x*v=Q.x*w:=congrArg Pt.x hb2
 have hby:b.y*u+(mU pm d).y*v=Q.y*w:=congrArg Pt.y hb2
 have hbz:b.z*u+(mU pm d).z*v=Q.z*w:=congrArg Pt.z hb2
 have hbd:b.d*u+(mU pm d).d*v=Q.d*w:=congrArg Pt.d hb2
 have hcx:b.x*u'+Q.x*v'=P.x*w':=congrArg Pt.x hb'
 have hcy:b.y*u'+Q.y*v'=P.y*w':=congrArg Pt.y hb'
 have hcz:b.z*u'+Q.z*v'=P.z*w':=congrArg Pt.z hb'
 have hcd:b.d*u'+Q.d*v'=P.d*w':=congrArg Pt.d hb'
 have hve:vl pm (mU pm d)≠0:=by rw [Yeb hm]; omega
 have hwh:cmb b (mU pm d) (u'*w+u*v') (v*v')=scl P (w*w'):=by
  unfold cmb scl
  refine Zbk ?_ ?_ ?_ ?_<;>dsimp only<;>grind
 have p1:=Rk u0' w0
 have p2:=Rk u0 v0'
 have p3:=Rk v0 v0'
 have p4:=Rk w0 w0'
 have hsum:vl pl b*(u'*w+u*v')+vl pl (mU pm d)*(v*v')=0:=by
  rw [<-Zv1,hwh,Zv0,hon',Sr]
 have hne:vl pl (mU pm d)≠0:=by
  intro z
  rw [z,Sr,Tl] at hsum
  rcases Ot.1 hsum with z|z
  ·exact l1 z
  ·omega
 have X1:Xing h n pl b (mU pm d) P:=⟨he',hon',hw',⟨l1,hne⟩,_,_,_,by omega,p3,p4,hwh⟩
 refine ⟨X1.back hk,?_⟩
 have hsc:cmb (mU pm d) P (v*u') (u*w')=scl Q (w*u'+u*v'):=Zbk (Ybe hbx hcx) (Ybe hby hcy) (Ybe hbz hcz) (Ybe hbd hcd)
 have p5:=Rk v0 u0'
 have p6:=Rk u0 w0'
 have p7:=Rk w0 u0'
 have hsum2:vl pm (mU pm d)*(v*u')+vl pm P*(u*w')=0:=by
  rw [<-Zv1,hsc,Zv0,hon,Sr]
 refine ⟨he,hon,hw,⟨hve,?_⟩,_,_,_,p5,p6,by omega,hsc⟩
 intro z
 rw [z,Sr,Tl] at hsum2
 rcases Ot.1 hsum2 with z|z
 ·exact hve z
 ·omega
theorem Zhm {q r:Pl3} (h1:Near 45000 q) (h2:Near 5000 r):sqV q.1 q.2.1 q.2.2 r.1 r.2.1 r.2.2=dst2 (pnt q) (pnt r):=(Zv8 (a:=q.1) (b:=q.2.1) (c:=q.2.2) (x:=r.1) (y:=r.2.1) (z:=r.2.2) h1 h2).1
theorem Zhs {h:Hal} {s:Stg} {q0 q1:Pl3} {ns:List Int} {P:List Pt} (hg:goP (fP h s) (lkG (im1 h s) q0 ns).reverse (pnt q1) []=some P) (hc:chkW (wP h s) (pnt q0::P++[pnt q1])=true) :
  Yo h s q0 q1 ns=some ⟨ns,P.map tup4,sqV (imA (im1 h s) q0 ns ns.length).1 (imA (im1 h s) q0 ns ns.length).2.1 (imA (im1 h s) q0 ns ns.length).2.2 q1.1 q1.2.1 q1.2.2⟩:=by
 rw [Zbm,hg]
 dsimp only
 rw [if_pos hc]
theorem Zwx {h:Hal} {s:Stg} {q0 q1:Pl3} {ns:List Int} {p:Pth} (e:Yo h s q0 q1 ns=some p):∃ P,goP (fP h s) (lkG (im1 h s) q0 ns).reverse (pnt q1) []=some P/\chkW (wP h s) (pnt q0::P++[pnt q1])=true/\p=⟨ns,P.map tup4,sqV (imA (im1 h s) q0 ns ns.length).1 (imA (im1 h s) q0 ns ns.length).2.1 (imA (im1 h s) q0 ns ns.length).2.2 q1.1 q1.2.1 q1.2.2⟩:=by
 rw [Zbm] at e
 split at e
 ·cases e
 ·rename_i P hP
  split at e
  ·rename_i hc
   cases e
   exact ⟨P,hP,hc,rfl⟩
  ·cases e
theorem Zum {h:Hal} {s:Stg} (g:Sit h s) (e0:serr h s=0) {q0 q1:Pl3} (hf:Near 5000 q0) (ht:Near 5000 q1) {ns:List Int} (hl:ns.length<=2) (hi:∀ n∈ns,0<=n/\n<nsur h) {p:Pth} (e:Yo h s q0 q1 ns=some p) :
  Yo h s q1 q0 ns.reverse=some ⟨p.ss.reverse,p.ps.reverse,p.sq⟩:=by
 obtain ⟨P,hP,hc,rfl⟩:=Zwx e
 match ns,hl with
 | [],_ =>
  have hP:some []=some P:=hP
  cases hP
  have hc:(wP h s (pnt q0) (pnt q1)&&true)=true:=hc
  rw [Mn] at hc
  have hb:=Zhs (h:=h) (s:=s) (q0:=q1) (q1:=q0) (ns:=[]) (P:=[]) rfl (by
   show (wP h s (pnt q1) (pnt q0)&&true)=true
   rw [Zhi g hc]; rfl)
  rw [List.reverse_nil,hb]
  show some (Pth.mk [] [] (sqV q1.1 q1.2.1 q1.2.2 q0.1 q0.2.1 q0.2.2))=some (Pth.mk [] [] (sqV q0.1 q0.2.1 q0.2.2 q1.1 q1.2.1 q1.2.2))
  rw [Zhm (Zo (by omega) ht) hf,Zhm (Zo (by omega) hf) ht,Zkm]
 | [n],_ =>
  have hn:=hi n (by simp)
  have hsk:=Zhn hn.1 hn.2
  have hk:=(Zcs g hsk).1
  have hA:=Zo (m:=45000) (by omega) (Zbp g hsk (by omega) hf).1
  have hE:=Zo (m:=45000) (by omega) (Zbp g hsk (by omega) ht).1
  have hP:goP (fP h s) [(n,im1 h s n q0)] (pnt q1) []=some P:=hP
  rw [goP] at hP
  split at hP
  ·rename_i hz
   have hz:(crsA h s ⟨n,(im1 h s n q0).1,(im1 h s n q0).2.1,(im1 h s n q0).2.2,pnt q1⟩).2=0:=hz
   have X:=Zrt g e0 hn hA (Zd0 ht) hz
   have hP:some [(crsA h s ⟨n,(im1 h s n q0).1,(im1 h s n q0).2.1,(im1 h s n q0).2.2,pnt q1⟩).1]=some P:=hP
   generalize (crsA h s ⟨n,(im1 h s n q0).1,(im1 h s n q0).2.1,(im1 h s n q0).2.2,pnt q1⟩).1=A at *
   cases hP
   have X':=X.back hk
   rw [Zae g hsk (Zo (by omega) hf),Zus,<-Zae g hsk (Zo (by omega) ht)] at X'
   have hr:=Zy4 g e0 hn hE (Zd0 hf) X'
   have hc:(wP h s (pnt q0) A&&(wP h s A (pnt q1)&&true))=true:=hc
   rw [Mn,Qc] at hc
   have hb:=Zhs (h:=h) (s:=s) (q0:=q1) (q1:=q0) (ns:=[n]) (P:=[A]) (by
    show goP (fP h s) [(n,im1 h s n q1)] (pnt q0) []=some [A]
    rw [goP]
    have:fP h s n (im1 h s n q1) (pnt q0)=(A,0):=hr
    rw [this,if_pos rfl]; rfl) (by
    show (wP h s (pnt q1) A&&(wP h s A (pnt q0)&&true))=true
    rw [Zhi g hc.2,Zhi g hc.1]; rfl)
   show Yo h s q1 q0 [n]=_
   rw [hb]
   show some (Pth.mk [n] [tup4 A] (sqV (im1 h s n q1).1 (im1 h s n q1).2.1 (im1 h s n q1).2.2 q0.1 q0.2.1 q0.2.2))=some (Pth.mk [n] [tup4 A] (sqV (im1 h s n q0).1 (im1 h s n q0).2.1 (im1 h s n q0).2.2 q1.1 q1.2.1 q1.2.2))
   rw [Zhm hE hf,Zhm hA ht,Zae g hsk (Zo (by omega) hf),Zae g hsk (Zo (by omega) ht)]
   have:dst2 (mU (Zf h s n) (pnt q1)) (pnt q0)=dst2 (mU (Zf h s n) (pnt q0)) (pnt q1):=by
    rw [<-Zrn (Zf h s n) (p:=mU (Zf h s n) (pnt q1)) (q:=pnt q0) (by rw [mU_d]; rfl),Zus,Zkm]
   rw [this]
  ·cases hP
 | [n,m],_ =>
  have hn:=hi n (by simp)
  have hm:=hi m (by simp)
  have hsn:=Zhn hn.1 hn.2
  have hsm:=Zhn hm.1 hm.2
  have hkn:=(Zcs g hsn).1
  have hkm:=(Zcs g hsm).1
  have hA1:=(Zbp g hsn (by omega) hf).1
  have hA2:=(Zbp g hsm (by omega) hA1).1
  have hE1:=(Zbp g hsm (by omega) ht).1
  have hE2:=(Zbp g hsn (by omega) hE1).1
  have hP:goP (fP h s) [(m,im1 h s m (im1 h s n q0)),(n,im1 h s n q0)] (pnt q1) []=some P:=hP
  rw [goP] at hP
  split at hP
  ·rename_i hz
   have hz:(crsA h s ⟨m,(im1 h s m (im1 h s n q0)).1,(im1 h s m (im1 h s n q0)).2.1,(im1 h s m (im1 h s n q0)).2.2,pnt q1⟩).2=0:=hz
   have XQ:=Zrt g e0 hm (Zo (by omega) hA2) (Zd0 ht) hz
   have eQ:(fP h s m (im1 h s m (im1 h s n q0)) (pnt q1)).1=(crsA h s ⟨m,(im1 h s m (im1 h s n q0)).1,(im1 h s m (im1 h s n q0)).2.1,(im1 h s m (im1 h s n q0)).2.2,pnt q1⟩).1:=rfl
   rw [eQ] at hP
   generalize (crsA h s ⟨m,(im1 h s m (im1 h s n q0)).1,(im1 h s m (im1 h s n q0)).2.1,(im1 h s m (im1 h s n q0)).2.2,pnt q1⟩).1=Q at *
   rw [goP] at hP
   split at hP
   ·rename_i hz2
    have hz2:(crsA h s ⟨n,(im1 h s n q0).1,(im1 h s n q0).2.1,(im1 h s n q0).2.2,Q⟩).2=0:=hz2
    have XP:=Zrt g e0 hn (Zo (by omega) hA1) XQ.err hz2
    have hP:some [(crsA h s ⟨n,(im1 h s n q0).1,(im1 h s n q0).2.1,(im1 h s n q0).2.2,Q⟩).1,Q]=some P:=hP
    generalize (crsA h s ⟨n,(im1 h s n q0).1,(im1 h s n q0).2.1,(im1 h s n q0).2.2,Q⟩).1=A at *
    cases hP
    rw [Zae g hsm (Zo (by omega) hA1)] at XQ
    obtain ⟨Y1,Y2⟩:=XQ.far hkn hkm XP
    rw [<-Zae g hsm (Zo (by omega) ht)] at Y1 Y2
    rw [<-Zae g hsn (Zo (by omega) hE1),Zae g hsn (Zo (by omega) hf),Zus] at Y1
    have r1:=Zy4 g e0 hn (Zo (by omega) hE2) (Zd0 hf) Y1
    have r2:=Zy4 g e0 hm (Zo (by omega) hE1) XP.err Y2
    have hc:(wP h s (pnt q0) A&&(wP h s A Q&&(wP h s Q (pnt q1)&&true)))=true:=hc
    rw [Mn,Qc,Qc] at hc
    have hb:=Zhs (h:=h) (s:=s) (q0:=q1) (q1:=q0) (ns:=[m,n]) (P:=[Q,A]) (by
     show goP (fP h s) [(n,im1 h s n (im1 h s m q1)),(m,im1 h s m q1)] (pnt q0) []=some [Q,A]
     have t1:fP h s n (im1 h s n (im1 h s m q1)) (pnt q0)=(A,0):=r1
     have t2:fP h s m (im1 h s m q1) A=(Q,0):=r2
     rw [goP,t1,if_pos rfl]
     dsimp only
     rw [goP,t2,if_pos rfl]; rfl) (by
     show (wP h s (pnt q1) Q&&(wP h s Q A&&(wP h s A (pnt q0)&&true)))=true
     rw [Zhi g hc.2.2,Zhi g hc.2.1,Zhi g hc.1]; rfl)
    show Yo h s q1 q0 [m,n]=_
    rw [hb]
    show some (Pth.mk [m,n] [tup4 Q,tup4 A] (sqV (im1 h s n (im1 h s m q1)).1 (im1 h s n (im1 h s m q1)).2.1 (im1 h s n (im1 h s m q1)).2.2 q0.1 q0.2.1 q0.2.2))=some (Pth.mk [m,n] [tup4 Q,tup4 A] (sqV (im1 h s m (im1 h s n q0)).1 (im1 h s m (im1 h s n q0)).2.1 (im1 h s m (im1 h s n q0)).2.2 q1.1 q1.2.1 q1.2.2))
    rw [Zhm (Zo (by omega) hE2) hf,Zhm (Zo (by omega) hA2) ht,Zae g hsn (Zo (by omega) hE1),Zae g hsm (Zo (by omega) ht),Zae g hsm (Zo (by omega) hA1),Zae g hsn (Zo (by omega) hf)]
    have:dst2 (mU (Zf h s n) (mU (Zf h s m) (pnt q1))) (pnt q0)=dst2 (mU (Zf h s m) (mU (Zf h s n) (pnt q0))) (pnt q1):=by
     rw [<-Zrn (Zf h s n) (p:=mU (Zf h s n) (mU (Zf h s m) (pnt q1))) (q:=pnt q0) (by rw [mU_d,mU_d]; rfl),Zus,
      <-Zrn (Zf h s m) (p:=mU (Zf h s m) (pnt q1)) (by rw [mU_d,mU_d]; rfl),Zus,Zkm]
    rw [this]
   ·cases hP
  ·cases hP
def Ask.back (a:Ask):Ask:=⟨a.tx,a.ty,a.tz,a.fx,a.fy,a.fz,a.n⟩
theorem Ztx {h:Hal} {s:Stg} {a:Ask} (e:askE h s a=0):askE h s a.back=0:=by
 have A:=Xl e
 have hs:a.back.same=false:=by
  have:=A.ne
  unfold Ask.same at this ⊢
  rw [Bool.eq_false_iff] at this ⊢
  intro k
  apply this
  unfold Ask.back at k
  simp only [Qc,decide_eq_true_eq] at k ⊢
  exact ⟨k.1.symm,k.2.1.symm,k.2.2.symm⟩
 have hn:within a.n 0 4=true:=within_iff.2 A.n
 have h1:plaE h a.fx a.fy a.fz=0:=by
  unfold askE at e
  rw [if_pos A.e0] at e
  simp only [fstL] at e
  by_cases c1:plaE h a.fx a.fy a.fz=0
  ·exact c1
  ·rw [if_pos (fun k=>c1 k)] at e; exact e
 have h2:plaE h a.tx a.ty a.tz=0:=by
  unfold askE at e
  rw [if_pos A.e0] at e
  simp only [fstL] at e
  by_cases c2:plaE h a.tx a.ty a.tz=0
  ·exact c2
  ·rw [if_neg (fun k=>k h1),if_pos (fun k=>c2 k)] at e; exact e
 unfold askE
 rw [if_pos A.e0]
 show fstL [plaE h a.tx a.ty a.tz,plaE h a.fx a.fy a.fz,unl (!a.back.same) 11,unl (within a.n 0 4) 2]=0
 rw [h1,h2,hs,hn]
 rfl
theorem Zql (p:Pth):trV (trV p)=p:=by
 unfold trV
 simp
theorem Yd4 {n:Int}:∀ {l:List Int},l.length<=2->wkG n none l=0->wkG n none l.reverse=0
 | [],_,_=>rfl
 | [a],_,h=>h
 | [a,b],_,h=>by
  show wkG n none [b,a]=0
  rw [wkG] at h
  split at h
  ·rename_i h1
   split at h
   ·cases h
   ·rw [wkG] at h
    split at h
    ·rename_i h2
     split at h
     ·cases h
     ·rename_i h3
      rw [wkG,if_pos h2,if_neg (by simp),wkG,if_pos h1,if_neg (fun k=>h3 k.symm)]
      rfl
    ·cases h
  ·cases h
theorem Zl1 {f:List Int->Option Pth} (hf:∀ L p,f L=some p->p.ss=L) (m o:Nat):(fndP f m o).Nodup:=by
 unfold fndP
 rw [Fr,List.pairwise_filterMap]
 refine (Znn m o []).imp fun {a b} hab p hp q hq e=>hab ?_
 rw [<-hf a p hp,<-hf b q hq,e]
theorem Zgr:∀ {l m:List Int},l.Perm m->l.Pairwise (fun a b=>a<=b)->m.Pairwise (fun a b=>a<=b)->l=m
 | [],m,h,_,_=>by
  have:=h.length_eq
  exact (Tq.1 (by simpa using this.symm)).symm
 | a::l,[],h,_,_=>by have:=h.length_eq; simp at this
 | a::l,b::m,h,h1,h2=>by
  have h1':=Tv.1 h1
  have h2':=Tv.1 h2
  have e:a=b:=by
   have ha:a∈b::m:=h.subset (by simp)
   have hb:b∈a::l:=h.symm.subset (by simp)
   rcases Ra.1 ha with ha|ha
   ·exact ha
   ·rcases Ra.1 hb with hb|hb
    ·exact hb.symm
    ·have:=h1'.1 b hb
     have:=h2'.1 a ha
     omega
  subst e
  rw [Zgr h.cons_inv h1'.2 h2'.2]
section
variable {h:Hal} {s:Stg} {a:Ask}
theorem Yem {f:List Int->Option Pth} {m o:Nat} {l:List Int} {p:Pth} (hp:f l=some p) (hw:wkG ((m:Int)-1) none l=0) (ho:l.length<=o):p∈refL f m o:=by
 refine (Zay f m o).symm.subset (Nh.2 ⟨l,?_,hp⟩)
 have:=Zvq m l o [] hw ho
 rwa [List.nil_append] at this
theorem Zmv (hk:h.ok) (hs:s.few) (e:askE h s a=0) (hn:a.n<3) {p:Pth} (hp:p∈refL (Yo h s (qF a) (qT a)) (nsN h) a.n.toNat):trV p∈refL (Yo h s (qT a) (qF a)) (nsN h) a.n.toNat:=by
 have A:=Xl e
 have hn0:=A.n
 obtain ⟨f1,f2,f3,f4,_⟩:=Zgf hk hs e hn hp
 have f5:p.ss.length<=a.n.toNat:=by
  obtain ⟨L,hL,hf⟩:=Nh.1 ((Zay _ _ _).subset hp)
  obtain rfl:=Zen hf
  have:=(Zr7 (nsN h) a.n.toNat [] 0 ⟨Nat.le_refl _,by simp⟩ _ hL).len
  omega
 have hw:wkG ((nsN h:Int)-1) none p.ss=0:=by
  unfold suE at f2
  rw [if_neg (by omega),<-Zw9] at f2
  exact f2
 have hb:=Zum (Ze4 hk hs A.e0) A.e0 A.f A.t f3 (Zsg f2).2 f1
 exact Yem hb (Yd4 f3 hw) (by rw [Px]; exact f5)
theorem Zmu (hk:h.ok) (hs:s.few) (e:askE h s a=0) (hn:a.n<3):((refL (Yo h s (qF a) (qT a)) (nsN h) a.n.toNat).map trV).Perm (refL (Yo h s (qT a) (qF a)) (nsN h) a.n.toNat):=by
 have inj:∀ x y:Pth,trV x=trV y->x=y:=fun x y k=>by rw [<-Zql x,k,Zql]
 refine (List.perm_ext_iff_of_nodup ?_ ?_).2 fun p=>⟨fun hp=>?_,fun hp=>?_⟩
 ·rw [Fr,Lm]
  exact ((Zay _ _ _).nodup_iff.2 (Zl1 (fun L p hp=>Zen hp) _ _)).imp fun {x y} hxy k=>hxy (inj x y k)
 ·exact (Zay _ _ _).nodup_iff.2 (Zl1 (fun L p hp=>Zen hp) _ _)
 ·obtain ⟨q,hq,rfl⟩:=Ph.1 hp
  exact Zmv hk hs e hn hq
 ·have:=Zmv (a:=a.back) hk hs (Ztx e) hn (p:=p) hp
  exact Ph.2 ⟨trV p,this,Zql p⟩
theorem Yas (hk:h.ok) (hs:s.few) (e:askE h s a=0) (hn:a.n<3):(refL (Yo h s (qF a) (qT a)) (nsN h) a.n.toNat).map (·.sq)=(refL (Yo h s (qT a) (qF a)) (nsN h) a.n.toNat).map (·.sq):=by
 refine Zgr ?_ ?_ ?_
 ·have:=(Zmu hk hs e hn).map (·.sq)
  rw [List.map_map] at this
  exact this
 ·rw [Lm]
  exact (Zfp _ _ _).imp fun {x y} h=>Zw0 h
 ·rw [Lm]
  exact (Zfp _ _ _).imp fun {x y} h=>Zw0 h
end
end Go.Proofs.YtfkdpbklbegnlaaGreat
namespace Go.En
def dnL:List (Int × Int)->Int->Int
 | [],x=>x
 | c::l,x=>dnL l (x*c.1 / 1000*c.2 / 1000)
def upL:List (Int × Int)->Int->Int
 | [],x=>x
 | c::l,x=>upL l (((x*c.1+1000-1) / 1000*c.2+1000-1) / 1000)
def pw:List (Int × Int)->Int
 | []=>1
 | c::l=>c.1*c.2*pw l
theorem Yct:∀ (l:List (Int × Int)) (c:Int × Int),pw (l++[c])=pw l*(c.1*c.2)
 | [],c=>by simp [pw]
 | a::l,c=>by
  simp only [List.cons_append,pw,Yct l c]
  ac_rfl
theorem pw_rev:∀ l:List (Int × Int),pw l.reverse=pw l
 | []=>rfl
 | a::l=>by rw [List.reverse_cons,Yct,pw_rev l,pw,Rp]
theorem Zgg:∀ {l:List (Int × Int)},(∀ c∈l,0<=c.1/\0<=c.2)->0<=pw l
 | [],_=>by simp [pw]
 | a::l,h=>Qo (Qo (h a (by simp)).1 (h a (by simp)).2) (Zgg fun c hc=>h c (by simp [hc]))
theorem up_mulx (x:Int) {p:Int} (hp:0<p):x<=(x+p-1) / p*p:=by
 have h1:=Int.emod_add_mul_ediv (x+p-1) p
 have h2:=Int.emod_lt_of_pos (x+p-1) hp
 rw [Rp p] at h1
 omega
theorem dnL_le:∀ {l:List (Int × Int)} {x:Int},(∀ c∈l,0<=c.1/\0<=c.2)->0<=x->dnL l x*1000000 ^ l.length<=x*pw l/\0<=dnL l x
 | [],x,_,hx=>by simp [dnL,pw,hx]
 | c::l,x,h,hx=>by
  obtain ⟨c1,c2⟩:=h c (by simp)
  have y1:0<=x*c.1 / 1000:=Tm (Qo hx c1) (by omega)
  have y2:0<=x*c.1 / 1000*c.2 / 1000:=Tm (Qo y1 c2) (by omega)
  have hp:=Zgg (l:=l) fun c hc=>h c (by simp [hc])
  obtain ⟨i1,i2⟩:=dnL_le (l:=l) (fun c hc=>h c (by simp [hc])) y2
  refine ⟨?_,i2⟩
  have d1:x*c.1 / 1000*1000<=x*c.1:=Kl _ (by omega)
  have d2:x*c.1 / 1000*c.2 / 1000*1000<=x*c.1 / 1000*c.2:=Kl _ (by omega)
  have d3:x*c.1 / 1000*1000*c.2<=x*c.1*c.2:=Qj d1 c2
  have d4:x*c.1 / 1000*c.2 / 1000*1000000<=x*c.1*c.2:=by
   have:x*c.1 / 1000*1000*c.2=x*c.1 / 1000*c.2*1000:=by rw [Sl,Rp 1000,<-Sl]
   omega
  have d5:=Qj d4 hp
  have d6:=Qj i1 (show (0:Int)<=1000000 by omega)
  show dnL l (x*c.1 / 1000*c.2 / 1000)*1000000 ^ (l.length+1)<=x*(c.1*c.2*pw l)
  rw [Ni,<-Sl]
  refine Nj d6 ?_
  rw [show ∀ A:Int,A*pw l*1000000=A*1000000*pw l from fun A=>by ac_rfl]
  refine Nj d5 ?_
  rw [Sl x c.1,Sl x]
  exact Gu _
theorem upL_ge:∀ {l:List (Int × Int)} {x:Int},(∀ c∈l,0<=c.1/\0<=c.2)->0<=x->x*pw l<=upL l x*1000000 ^ l.length/\0<=upL l x
 | [],x,_,hx=>by simp [upL,pw,hx]
 | c::l,x,h,hx=>by
  obtain ⟨c1,c2⟩:=h c (by simp)
  have m1:=Qo hx c1
  have y1:0<=(x*c.1+1000-1) / 1000:=Tm (by omega) (by omega)
  have m2:=Qo y1 c2
  have y2:0<=((x*c.1+1000-1) / 1000*c.2+1000-1) / 1000:=Tm (by omega) (by omega)
  have hp:=Zgg (l:=l) fun c hc=>h c (by simp [hc])
  obtain ⟨i1,i2⟩:=upL_ge (l:=l) (fun c hc=>h c (by simp [hc])) y2
  refine ⟨?_,i2⟩
  have d1:=up_mulx (x*c.1) (show (0:Int)<1000 by omega)
  have d2:=up_mulx ((x*c.1+1000-1) / 1000*c.2) (show (0:Int)<1000 by omega)
  have d3:=Qj d1 c2
  have d4:x*c.1*c.2<=((x*c.1+1000-1) / 1000*c.2+1000-1) / 1000*1000000:=by
   have:(x*c.1+1000-1) / 1000*1000*c.2=(x*c.1+1000-1) / 1000*c.2*1000:=by rw [Sl,Rp 1000,<-Sl]
   omega
  have d5:=Qj d4 hp
  have d6:=Qj i1 (show (0:Int)<=1000000 by omega)
  show x*(c.1*c.2*pw l)<=upL l (((x*c.1+1000-1) / 1000*c.2+1000-1) / 1000)*1000000 ^ (l.length+1)
  rw [Ni,<-Sl (upL _ _)]
  refine Nj ?_ d6
  rw [show ∀ A:Int,A*pw l*1000000=A*1000000*pw l from fun A=>by ac_rfl]
  refine Nj ?_ d5
  rw [Sl x c.1,Sl x]
  exact Gu _
theorem it_dn {q:Int} (hq:0<=q) (f:Nat->Int->Int) (h0:∀ x,f 0 x=x) (hs:∀ n x,f (n+1) x=f n (x*q / 1000000)):∀ (n:Nat) {x:Int},0<=x->f n x*1000000 ^ n<=x*q ^ n/\0<=f n x
 | 0,x,hx=>by simp [h0,hx]
 | n+1,x,hx=>by
  have y:0<=x*q / 1000000:=Tm (Qo hx hq) (by omega)
  obtain ⟨i1,i2⟩:=it_dn hq f h0 hs n y
  rw [hs]
  refine ⟨?_,i2⟩
  have d1:x*q / 1000000*1000000<=x*q:=Kl _ (by omega)
  have d5:=Qj d1 (show 0<=q ^ n from Mb hq)
  have d6:=Qj i1 (show (0:Int)<=1000000 by omega)
  rw [Ni,<-Sl]
  refine Nj d6 ?_
  rw [show ∀ A:Int,A*q ^ n*1000000=A*1000000*q ^ n from fun A=>by ac_rfl]
  refine Nj d5 ?_
  rw [Ni,Rp (q ^ n),Sl]
  exact Gu _
theorem it_up {q:Int} (hq:0<=q) (f:Nat->Int->Int) (h0:∀ x,f 0 x=x) (hs:∀ n x,f (n+1) x=f n ((x*q+1000000-1) / 1000000)):∀ (n:Nat) {x:Int},0<=x->x*q ^ n<=f n x*1000000 ^ n/\0<=f n x
 | 0,x,hx=>by simp [h0,hx]
 | n+1,x,hx=>by
  have m:=Qo hx hq
  have y:0<=(x*q+1000000-1) / 1000000:=Tm (by omega) (by omega)
  obtain ⟨i1,i2⟩:=it_up hq f h0 hs n y
  rw [hs]
  refine ⟨?_,i2⟩
  have d1:=up_mulx (x*q) (show (0:Int)<1000000 by omega)
  have d5:=Qj d1 (show 0<=q ^ n from Mb hq)
  have d6:=Qj i1 (show (0:Int)<=1000000 by omega)
  rw [Ni 1000000,<-Sl]
  refine Nj ?_ d6
  rw [show ∀ A:Int,A*q ^ n*1000000=A*1000000*q ^ n from fun A=>by ac_rfl]
  refine Nj ?_ d5
  rw [Ni,Rp (q ^ n),Sl]
  exact Gu _
theorem meet {l r:List (Int × Int)} (hl:∀ c∈l,0<=c.1/\0<=c.2) (hr:∀ c∈r,0<=c.1/\0<=c.2) (hpw:pw r=pw l) (hlen:r.length=l.length) {sq q lo hi:Int} {a:Int × Int} {n m:Nat} (hq:0<=q) (hq1:q<=1000000) (hs:0<sq) (h0:0<=a.1/\a.1*sq<=1000000000000) (h1:1000000000000<=a.2*sq)
  (hnm:m<=n) (h2:lo*1000000 ^ n<=dnL l a.1*q ^ n) (h3:upL r a.2*q ^ m<=hi*1000000 ^ m):lo<=hi:=by
 have ha2:0<=a.2:=by
  rcases Oc a.2 0 with h|h
  ·have:=Qo (show 0 <= -a.2 by omega) (show 0<=sq by omega)
   rw [Td] at this
   omega
  ·exact h
 have hp:=Zgg hl
 obtain ⟨i1,_⟩:=dnL_le hl h0.1
 obtain ⟨j1,_⟩:=upL_ge hr ha2
 rw [hpw,hlen] at j1
 generalize pw l=P at *
 generalize dnL l a.1=x at *
 generalize upL r a.2=y at *
 have hM:(0:Int)<=1000000 ^ l.length:=Mb (by omega)
 have hM0:(0:Int)<1000000 ^ l.length:=Qaa (by omega)
 generalize (1000000:Int) ^ l.length=M at *
 obtain ⟨k,rfl⟩:∃ k,n=m+k:=⟨n-m,by omega⟩
 have hqn:0<=q ^ m:=Mb hq
 have hqk:0<=q ^ k:=Mb hq
 have hT0:(0:Int)<1000000 ^ m:=Qaa (by omega)
 have hK0:(0:Int)<1000000 ^ k:=Qaa (by omega)
 have hqK:q ^ k<=1000000 ^ k:=by
  clear h2 hqk hK0
  induction k with
  | zero=>simp
  | succ k ih =>
   rw [Ni,Ni]
   exact Int.mul_le_mul (ih (by omega)) hq1 hq (Mb (by omega))
 rw [Int.pow_add,Int.pow_add] at h2
 generalize q ^ m=Q at *
 generalize q ^ k=R at *
 generalize (1000000:Int) ^ m=T at *
 generalize (1000000:Int) ^ k=K at *
 have c1:lo*(T*K)*(M*sq)<=x*(Q*R)*(M*sq):=Qj h2 (Qo hM (by omega))
 have c2:x*M*(Q*R*sq)<=a.1*P*(Q*R*sq):=Qj i1 (Qo (Qo hqn hqk) (by omega))
 have c3:a.1*sq*(P*(Q*R))<=1000000000000*(P*(Q*R)):=Qj h0.2 (Qo hp (Qo hqn hqk))
 have c4:1000000000000*(P*(Q*R))<=a.2*sq*(P*(Q*R)):=Qj h1 (Qo hp (Qo hqn hqk))
 have c5:a.2*P*(sq*(Q*R))<=y*M*(sq*(Q*R)):=Qj j1 (Qo (by omega) (Qo hqn hqk))
 have c6:y*Q*(M*sq*R)<=hi*T*(M*sq*R):=Qj h3 (Qo (Qo hM (by omega)) hqk)
 have e1:x*(Q*R)*(M*sq)=x*M*(Q*R*sq):=by ac_rfl
 have e2:a.1*P*(Q*R*sq)=a.1*sq*(P*(Q*R)):=by ac_rfl
 have e3:a.2*sq*(P*(Q*R))=a.2*P*(sq*(Q*R)):=by ac_rfl
 have e4:y*M*(sq*(Q*R))=y*Q*(M*sq*R):=by ac_rfl
 rcases Oc hi lo with hlt|hge
 ·exfalso
  have e5:hi*T*(M*sq*R)=hi*(T*M*sq)*R:=by ac_rfl
  have e6:lo*(T*K)*(M*sq)=lo*(T*M*sq)*K:=by ac_rfl
  have hU:0<T*M*sq:=Rk (Rk hT0 hM0) hs
  have hy0:0<=hi:=by
   rcases Oc hi 0 with hn|hn
   ·have z1:0<=y*Q:=by
     refine Qo ?_ hqn
     rcases Oc y 0 with hy|hy
     ·have:=Rk (show 0 < -y by omega) hM0
      rw [Td] at this
      have:=Qo ha2 hp
      omega
     ·exact hy
    have z2:=Rk (show 0 < -hi by omega) hT0
    rw [Td] at z2
    omega
   ·exact hn
  have k1:hi*(T*M*sq)*R<=hi*(T*M*sq)*K:=Int.mul_le_mul_of_nonneg_left hqK (Qo hy0 (by omega))
  have k2:hi*(T*M*sq)<lo*(T*M*sq):=Pd hlt hU
  have k3:hi*(T*M*sq)*K<lo*(T*M*sq)*K:=Pd k2 hK0
  omega
 ·exact hge
end Go.En
namespace Go.Proofs.YtfkdpbklbegnlaaGreat
open Go Go.Sx
def fct (h:Hal) (s:Stg) (b:Int) (n:Int):Int × Int:=(1000-absB (matS h s n) b,1000-(matS h s n).sc)
theorem Zyw (h:Hal) (s:Stg) (b:Int):∀ (l:List Int) (e:Int × Int),(enL h s b l e).1=En.dnL (l.map (fct h s b)) e.1/\(enL h s b l e).2=En.upL (l.map (fct h s b)) e.2
 | [],e=>⟨rfl,rfl⟩
 | n::l,e=>Zyw h s b l (lft (matS h s n) b e)
theorem Ydi {h:Hal} {s:Stg} (g:Sit h s) {b:Int} {l:List Int} (hin:∀ n∈l,SK h n):∀ c∈l.map (fct h s b),0<=c.1/\0<=c.2:=by
 intro c hc
 obtain ⟨n,hn,rfl⟩:=Ph.1 hc
 have h1:=(Zr3 g (b:=b) (hin n hn)).1
 have h2:=Zxe g.fine (Zi1 g (hin n hn))
 unfold fct
 dsimp only
 omega
theorem Zne {h:Hal} {s:Stg} (g:Sit h s) {sq a b:Int} {l r:List Int} (h0:1<=sq) (h1:sq<=24300000000) (hl:∀ n∈l,SK h n) (hr:r=l\/r=l.reverse) (ha:0<=a/\a<=100000) :
  (enZ sq a (enL h s b l (enA sq))).1<=(enZ sq a (enL h s b r (enA sq))).2:=by
 have hr0:∀ n∈r,SK h n:=fun n hn=>by
  rcases hr with rfl|rfl
  ·exact hl n hn
  ·exact hl n (Du.1 hn)
 have k1:=Ydi g (b:=b) hl
 have k2:=Ydi g (b:=b) hr0
 have e1:En.pw (r.map (fct h s b))=En.pw (l.map (fct h s b)):=by
  rcases hr with rfl|rfl
  ·rfl
  ·rw [List.map_reverse,En.pw_rev]
 have e2:(r.map (fct h s b)).length=(l.map (fct h s b)).length:=by
  rcases hr with rfl|rfl<;>simp
 have A:=Ydq h0 h1
 have hA1:(enA sq).1*sq<=1000000000000:=Kl _ (by omega)
 have hA2:1000000000000<=(enA sq).2*sq:=En.up_mulx _ (by omega)
 have hnm:=(Ydj h0 h1).2.2.1
 obtain ⟨d1,_⟩:=Zyw h s b l (enA sq)
 obtain ⟨_,d2⟩:=Zyw h s b r (enA sq)
 have p1:=(En.dnL_le k1 A.a.1).2
 have p2:=(En.upL_ge k2 A.b.1).2
 refine En.meet k1 k2 e1 e2 (a:=enA sq) (q:=1000000-a) (by omega) (by omega) (by omega) ⟨A.a.1,hA1⟩ hA2 hnm ?_ ?_
 ·unfold enZ
  dsimp only
  rw [d1]
  exact (En.it_dn (q:=1000000-a) (by omega) (fun n x=>itN (fun x=>x*(1000000-a) / 1000000) n x) (fun _=>rfl) (fun _ _=>rfl) _ p1).1
 ·unfold enZ
  dsimp only
  rw [d2]
  exact (En.it_up (q:=1000000-a) (by omega) (fun n x=>itN (fun x=>(x*(1000000-a)+1000000-1) / 1000000) n x) (fun _=>rfl) (fun _ _=>rfl) _ p2).1
theorem Yby {h:Hal} {s:Stg} (g:Sit h s) {p:Pth} {a b:Int} (hp:pthE p=0) (hl:∀ n∈p.ss,SK h n) (ha:0<=a/\a<=100000) :
  ((enV h s p b a).1<=(enV h s p b a).2/\(enV h s p b a).1<=(enV h s (trV p) b a).2)/\(enV h s (trV p) b a).1<=(enV h s p b a).2/\(enV h s (trV p) b a).1<=(enV h s (trV p) b a).2:=by
 obtain ⟨_,h0,h1⟩:=Zgi hp
 have hl' : ∀ n∈p.ss.reverse,SK h n:=fun n hn=>hl n (Du.1 hn)
 unfold enV trV
 dsimp only
 exact ⟨⟨Zne g h0 h1 hl (.inl rfl) ha,Zne g h0 h1 hl (.inr rfl) ha⟩,Zne g h0 h1 hl' (.inr (Gv _).symm) ha,Zne g h0 h1 hl' (.inl rfl) ha⟩
theorem Yi8 (n lo hi:Int):PCall Tryz.prog 68 [I n,I lo,I hi] ⟨Bo (within n lo hi),[]⟩:=by
 refine bs.pv (sx:=nos) Zb Tryz.func68 (by kernel_rfl) (by kernel_rfl) rfl ?_
 repeat'(first|refine wk3 ?_|(refine wk2 ?_ ?_<;>intro _)|refine wk4 ?_|fail);all_goals(conv=>whnf)
 all_goals exact Zd (by simp_all [within]<;>omega)
theorem d38u (n lo hi:Int):PCall Tryz.prog 16 [I n,I lo,I hi] ⟨Bo (within n lo hi),[]⟩:=c30 n lo hi
def rWe:List AV->Option PRes
 | [.int .i64 n,.int .i64 lo,.int .i64 hi]=>some ⟨Bo (within n lo hi),[]⟩
 | _=>none
def kVe:PC:=ins 16 rWe (ins 68 rWe pt0)
theorem Zxm:PCOK Tryz.prog kVe:=by
 refine Zh (fun a res h=>?_) (Zh (fun a res h=>?_) Zb)
 ·unfold rWe at h; split at h<;>cases h; exact d38u _ _ _
 ·unfold rWe at h; split at h<;>cases h; exact Yi8 _ _ _
theorem d94 (n:Int):PCall Tryz.prog 44 [I n] ⟨I (unl (within n 30000 40000) 2),[]⟩:=by
 refine bs.pv (sx:=nos) Zxm Tryz.func44 (by kernel_rfl) (by kernel_rfl) rfl ?_
 repeat'(first|refine wk3 ?_|(refine wk2 ?_ ?_<;>intro _)|refine wk4 ?_|fail);all_goals(conv=>whnf)
 all_goals exact Za (by simp_all [unl])
def rSpE:List AV->Option PRes
 | [.int .i64 n]=>some ⟨I (unl (within n 30000 40000) 2),[]⟩
 | _=>none
def kV1:PC:=ins 44 rSpE kVe
theorem Yhg:PCOK Tryz.prog kV1:=by
 refine Zh (fun a res h=>?_) Zxm
 unfold rSpE at h; split at h<;>cases h; exact d94 _
theorem Yi2 (b a v:Int):PCall Tryz.prog 12 [P3 b a v] ⟨I (airE b a v),[]⟩:=by
 unfold airE
 cases h1:within b 0 3<;>cases h2:within a 0 100000<;>cases h3:within v 30000 40000
 all_goals
  refine bs.pv (sx:=nos) Yhg Tryz.func12 (by kernel_rfl) (by kernel_rfl) rfl ?_
  repeat'(first|refine wk3 ?_|(refine wk2 ?_ ?_<;>intro _)|refine wk4 ?_|fail);all_goals(conv=>whnf)
 all_goals first
  | exact Za rfl
  | (refine Za ?_; simp_all [unl]; done)
  | (exfalso; simp_all [unl]; done)
theorem d88 (b a v:Int):PCall Tryz.prog 34 [P3 b a v] ⟨I (airE b a v),[]⟩:=by
 unfold airE
 cases h1:within b 0 3<;>cases h2:within a 0 100000<;>cases h3:within v 30000 40000
 all_goals
  refine bs.pv (sx:=nos) Zxm Tryz.func34 (by kernel_rfl) (by kernel_rfl) rfl ?_
  repeat'(first|refine wk3 ?_|(refine wk2 ?_ ?_<;>intro _)|refine wk4 ?_|fail);all_goals(conv=>whnf)
 all_goals first
  | exact Za rfl
  | (refine Za ?_; simp_all; done)
  | (exfalso; simp_all; done)
end Go.Proofs.YtfkdpbklbegnlaaGreat
namespace Go.Proofs
open Go.Shelf
def Tryz.laysS114_ren:Go.Shelf.Ren:=⟨fun|6=>72|15=>117|14=>116|28=>187|29=>188|20=>179|21=>180|22=>181|23=>182|24=>183|25=>184|26=>185|27=>186|46=>263|47=>264|48=>265|49=>266|50=>267|57=>295|n=>n,fun|22=>90|24=>75|25=>139|3=>3|39=>195|0=>0|53=>257|55=>259|4=>4|46=>250|45=>249|50=>254|5=>5|9=>9|66=>311|70=>315|76=>330|77=>212|n=>n,fun|n=>n⟩
theorem Tryz.laysS114:Go.Proofs.SlLaysF0.n6 Tryz.prog Tryz.laysS114_ren:={
 mixed:=by kernel_rfl
 f6:=⟨Tryz.f72.name,by decide,Tryz.func72.trans (congrArg some (by kernel_rfl))⟩
 f14:=⟨Tryz.f116.name,by decide,Tryz.func116.trans (congrArg some (by kernel_rfl))⟩
 f15:=Tryz.func117.trans (congrArg some (by kernel_rfl))
 f20:=⟨Tryz.f179.name,by decide,Tryz.func179.trans (congrArg some (by kernel_rfl))⟩
 f21:=⟨Tryz.f180.name,by decide,Tryz.func180.trans (congrArg some (by kernel_rfl))⟩
 f22:=⟨Tryz.f181.name,by decide,Tryz.func181.trans (congrArg some (by kernel_rfl))⟩
 f23:=⟨Tryz.f182.name,by decide,Tryz.func182.trans (congrArg some (by kernel_rfl))⟩
 f24:=⟨Tryz.f183.name,by decide,Tryz.func183.trans (congrArg some (by kernel_rfl))⟩
 f25:=⟨Tryz.f184.name,by decide,Tryz.func184.trans (congrArg some (by kernel_rfl))⟩
 f26:=⟨Tryz.f185.name,by decide,Tryz.func185.trans (congrArg some (by kernel_rfl))⟩
 f27:=⟨Tryz.f186.name,by decide,Tryz.func186.trans (congrArg some (by kernel_rfl))⟩
 f28:=Tryz.func187.trans (congrArg some (by kernel_rfl))
 f29:=Tryz.func188.trans (congrArg some (by kernel_rfl))
 f46:=⟨Tryz.f263.name,by decide,Tryz.func263.trans (congrArg some (by kernel_rfl))⟩
 f47:=Tryz.func264.trans (congrArg some (by kernel_rfl))
 f48:=Tryz.func265.trans (congrArg some (by kernel_rfl))
 f49:=⟨Tryz.f266.name,by decide,Tryz.func266.trans (congrArg some (by kernel_rfl))⟩
 f50:=⟨Tryz.f267.name,by decide,Tryz.func267.trans (congrArg some (by kernel_rfl))⟩
 f57:=⟨Tryz.f295.name,by decide,Tryz.func295.trans (congrArg some (by kernel_rfl))⟩
 t0:=Tryz.underlying0
 a0:=Tryz.isAgg0
 z0:=Tryz.sizeOf0
 v0:=Tryz.zeroValue0
 t3:=Tryz.underlying3
 a3:=Tryz.isAgg3
 z3:=Tryz.sizeOf3
 v3:=Tryz.zeroValue3
 t4:=Tryz.underlying4
 a4:=Tryz.isAgg4
 z4:=Tryz.sizeOf4
 v4:=Tryz.zeroValue4
 t5:=Tryz.underlying5
 a5:=Tryz.isAgg5
 z5:=Tryz.sizeOf5
 v5:=Tryz.zeroValue5
 t9:=Tryz.underlying9
 a9:=Tryz.isAgg9
 z9:=Tryz.sizeOf9
 v9:=Tryz.zeroValue9
 t22:=Tryz.underlying90
 a22:=Tryz.isAgg90
 z22:=Tryz.sizeOf90
 v22:=Tryz.zeroValue90
 t25:=Tryz.underlying139
 a25:=Tryz.isAgg139
 z25:=Tryz.sizeOf139
 v25:=Tryz.zeroValue139
 t39:=Tryz.underlying195
 a39:=Tryz.isAgg195
 z39:=Tryz.sizeOf195
 v39:=Tryz.zeroValue195
 t45:=Tryz.underlying249
 a45:=Tryz.isAgg249
 z45:=Tryz.sizeOf249
 v45:=Tryz.zeroValue249
 t46:=Tryz.underlying250
 a46:=Tryz.isAgg250
 z46:=Tryz.sizeOf250
 v46:=Tryz.zeroValue250
 t50:=Tryz.underlying254
 a50:=Tryz.isAgg254
 z50:=Tryz.sizeOf254
 v50:=Tryz.zeroValue254
 t53:=Tryz.underlying257
 a53:=Tryz.isAgg257
 z53:=Tryz.sizeOf257
 v53:=Tryz.zeroValue257
 t55:=Tryz.underlying259
 a55:=Tryz.isAgg259
 z55:=Tryz.sizeOf259
 v55:=Tryz.zeroValue259
 t66:=Tryz.underlying311
 a66:=Tryz.isAgg311
 z66:=Tryz.sizeOf311
 v66:=Tryz.zeroValue311
 t70:=Tryz.underlying315
 a70:=Tryz.isAgg315
 z70:=Tryz.sizeOf315
 v70:=Tryz.zeroValue315
 t76:=Tryz.underlying330
 a76:=Tryz.isAgg330
 z76:=Tryz.sizeOf330
 v76:=Tryz.zeroValue330
 t77:=Tryz.underlying212
 a77:=Tryz.isAgg212
 z77:=Tryz.sizeOf212
 v77:=Tryz.zeroValue212 }
theorem Tryz.sorts114:Go.Sx.SortsK Tryz.prog 72 3:={
 some:=fun m _ enc hk h1 cf hO g blk off cap d w eg hcmp hH hblk hsz=>AnyQ.slices_SortFunc Tryz.laysS114 3 Tryz.isAgg75 Tryz.sizeOf75 enc hk h1 cf hO g #[] blk off cap d w eg hcmp hH hblk hsz
 none:=fun p cap fv w=>AnyF.slices_SortFunc_none Tryz.laysS114 p cap fv w }
end Go.Proofs
namespace Go.Proofs.YtfkdpbklbegnlaaGreat
open Go Go.Sx
noncomputable abbrev ecC (h:Hal) (s:Stg) (b r v:Int) (p:Pth):List AV:=[.isl 1 (nl p.ss),I (delV p.sq v).1,I (delV p.sq v).2,I (enV h s p b r).1,I (enV h s p b r).2]
structure OutE (h:Hal) (s:Stg) (b r v:Int) (acc:List Pth) (m len:Nat) (els:List (List AV)):Prop where
 m:m=acc.length
 len:len=els.length
 els:els=acc.map (ecC h s b r v)
noncomputable abbrev rDe (v:Int):List AV->Option PRes:=famA (fun p:Pth=>pthE p=0) (fun p=>[p.av,I v]) (fun p=>⟨.tup [P2 (delV p.sq v).1 (delV p.sq v).2,I 0],[]⟩)
theorem Ygv {v:Int} (hv:spE v=0) {pt:PC} (hp:PCOK Tryz.prog pt):PCOK Tryz.prog (ins 36 (rDe v) pt):=Yl (fun p hq=>by
 have:=d38 p v
 have e:deE p v=0:=by unfold deE; rw [hq,hv]; rfl
 rw [e] at this
 exact this) hp
theorem Yes {p:Pth} {v:Int} (h:pthE p=0):rDe v [p.av,I v]=some ⟨.tup [P2 (delV p.sq v).1 (delV p.sq v).2,I 0],[]⟩ :=
 Zx (p:=fun p:Pth=>pthE p=0) (g:=fun p=>[p.av,I v]) (r:=fun p=>⟨.tup [P2 (delV p.sq v).1 (delV p.sq v).2,I 0],[]⟩) (k:=p) (fun j hj=>by
  simp only [Qx,and_true] at hj
  rw [Zww hj]) h
noncomputable abbrev rCk:List AV->Option PRes:=famA (fun ns:List Int=>ns.length<100000) (fun ns=>[.isl 1 (nl ns)]) (fun ns=>⟨.isl 1 (nl ns),[]⟩)
theorem Ygw {pt:PC} (hp:PCOK Tryz.prog pt):PCOK Tryz.prog (ins 37 rCk pt):=Yl (fun ns hl=>by
 by_cases h0:0<ns.length
 ·exact (d103 h0 hl).freeze ⟨rfl,rfl,rfl⟩
 ·rw [Tq.1 (show ns.length=0 by omega)]; exact Yic) hp
theorem Yet {ns:List Int} (h:ns.length<100000):rCk [.isl 1 (nl ns)]=some ⟨.isl 1 (nl ns),[]⟩ :=
 Zx (p:=fun ns:List Int=>ns.length<100000) (g:=fun ns=>[.isl 1 (nl ns)]) (r:=fun ns=>⟨.isl 1 (nl ns),[]⟩) (k:=ns) (fun j hj=>by
  rw [Zij (AV.isl.inj (List.cons.inj hj).1).2]) h
noncomputable abbrev rEn (h:Hal) (s:Stg) (b r v:Int):List AV->Option PRes:=famA (fun p:Pth=>pthE p=0/\suE h p.ss=0) (fun p=>[.agg (stgL h s),p.av,P3 b r v]) (fun p=>⟨P2 (enV h s p b r).1 (enV h s p b r).2,[]⟩)
theorem Ygu {h:Hal} {s:Stg} {b r v:Int} (g:Sit h s) (z:serr h s=0) (hair:airE b r v=0) {pt:PC} (hp:PCOK Tryz.prog pt):PCOK Tryz.prog (ins 38 (rEn h s b r v) pt):=Yl (fun p hq=>d89 g z hq.1 hq.2 hair) hp
theorem Yer {h:Hal} {s:Stg} {b r v:Int} {p:Pth} (h1:pthE p=0) (h2:suE h p.ss=0):rEn h s b r v [.agg (stgL h s),p.av,P3 b r v]=some ⟨P2 (enV h s p b r).1 (enV h s p b r).2,[]⟩ :=
 Zx (p:=fun p:Pth=>pthE p=0/\suE h p.ss=0) (g:=fun p=>[.agg (stgL h s),p.av,P3 b r v]) (r:=fun p=>⟨P2 (enV h s p b r).1 (enV h s p b r).2,[]⟩) (k:=p) (fun j hj=>by
  simp only [Qx,and_true,true_and] at hj
  rw [Zww hj]) ⟨h1,h2⟩
theorem Yhz {L:List Pth} {k:Nat} (hk:k<L.length):(L.map gcP)[((k:Nat):Int).toNat]?=some (gcP L[k]):=by simp [hk]
theorem Zrk {h:Hal} {s:Stg} {b r v:Int} {L:List Pth} {k:Nat} (hk:k<L.length):(L.map (ecC h s b r v))[((k:Nat):Int).toNat]?=some (ecC h s b r v L[k]):=by simp [hk]
theorem frE5 {bl:List (Nat × List (List AV))} {e:Int}:Frz bl (.tup [.nils,I e]) (.tup [.isl 5 [],I e]):=⟨rfl,⟨rfl,rfl⟩,trivial⟩
abbrev sxK:FuncId->Bool:=fun f=>Nat.beq f 31||Nat.beq f 32
theorem e8 {h:Hal} (hk:h.ok) {s:Stg} (hs:s.few) (a:Ask) (he:askE h s a=0) (hn:a.n<3) {b r v:Int} (hair:airE b r v=0) :
  PCall Tryz.prog 8 [h.av,s.av,a.av,P3 b r v] ⟨.tup [.isl 5 ((refL (Yo h s (qF a) (qT a)) (nsN h) a.n.toNat).map (ecC h s b r v)),I 0],[]⟩:=by
 have A:=Xl he
 have e0:=A.e0
 have g:=Ze4 hk hs e0
 have hN:=Ycx hk e0
 have c33:=d24 hk hs a
 rw [he] at c33
 have c34:=d88 b r v
 rw [hair] at c34
 have c35:=d55 hk hs Tryz.sorts114 a he hn (by omega)
 have hfa:=fun p hp=>Zgf hk hs he hn (p:=p) hp
 have hrl:=Zwn (Yo h s (qF a) (qT a)) hN (show a.n.toNat<=2 by omega)
 have hv:spE v=0:=by
  have:=(Zr1 hair).2.2
  unfold spE unl
  rw [within_iff.2 this]; rfl
 have hkA:=Ze c33 (Ze c34 (Ze c35 (Ygv hv (Ygw (Ygu g e0 hair Zb)))))
 generalize refL (Yo h s (qF a) (qT a)) (nsN h) a.n.toNat=L at *
 have hfa2:∀ p∈L,p.ss.length<=2/\pthE p=0/\suE h p.ss=0:=fun p hp=>by
  obtain ⟨f1,f2,f3,f4,f5⟩:=hfa p hp
  refine ⟨f3,?_,f2⟩
  unfold cpE at f5
  split at f5
  ·assumption
  ·exact f5
 clear hfa c33 c34 c35 A
 obtain ⟨fx,fy,fz,tx,ty,tz,n⟩:=a
 refine PCall.freeze (res:=if L=[] then ⟨.tup [.nils,I 0],[]⟩ else ⟨.tup [.asl 0 0 L.length,I 0],[(5,L.map (ecC h s b r v))]⟩) ?_ ?_
 rotate_left
 ·split<;>rename_i hre
  ·rw [hre]; exact frE5
  ·exact ⟨⟨rfl,rfl,by simp⟩,⟨rfl,rfl⟩,trivial⟩
 refine bs.pv (sx:=sxK) hkA Tryz.func8 (by kernel_rfl) (by kernel_rfl) (by split<;>rfl) ?_
 repeat'(first|refine wk3 ?_|(refine wk2 ?_ ?_<;>intro _)|refine wk4 ?_|fail);all_goals(conv=>whnf)
 refine bs.sv (sx:=sxK) hkA Tryz.func31 (by kernel_rfl) (by kernel_rfl) ?_
 repeat'(first|refine wk3 ?_|(refine wk2 ?_ ?_<;>intro _)|refine wk4 ?_|fail);all_goals(conv=>whnf)
 refine LpM.start 3 ?_
 refine Rq (bs.av (sx:=sxK) hkA ?_)
 repeat'(first|refine wk3 ?_|(refine wk2 ?_ ?_<;>intro _)|refine wk4 ?_|fail);all_goals(conv=>whnf)
 refine bs.sv (sx:=sxK) hkA Tryz.func32 (by kernel_rfl) (by kernel_rfl) ?_
 repeat'(first|refine wk3 ?_|(refine wk2 ?_ ?_<;>intro _)|refine wk4 ?_|fail);all_goals(conv=>whnf)
 refine Rq (bs.av (sx:=sxK) hkA ?_)
 repeat'(first|refine wk3 ?_|(refine wk2 ?_ ?_<;>intro _)|refine wk4 ?_|fail);all_goals(conv=>whnf)
 refine Rq (bs.av (sx:=sxK) hkA ?_)
 repeat'(first|refine wk3 ?_|(refine wk2 ?_ ?_<;>intro _)|refine wk4 ?_|fail);all_goals(conv=>whnf)
 ·exfalso
  rename_i q
  have:=of_decide_eq_true q
  rw [Rw] at this
  omega
 have hlm:(L.map gcP).length=L.length:=Rw _
 refine Yhd (S:=Nat × Int × Nat × Nat × List (List AV)) (fun t=>L.length-t.1)
  (fun t=>[(4,.ptr 0 0 0),(5,.ptr 1 0 0),(6,.ptr 2 0 0),(7,.ptr 3 0 0),(8,.nils),(9,I 0),(13,gv 20 t.2.2.1 t.2.2.2.1),(42,.isl 3 (L.map gcP)),(43,I (L.map gcP).length),(44,I t.2.1)])
  (fun t=>(3,.row 3 [[I b,I r,I v]] true false)::(2,.row 7 [[I fx,I fy,I fz,I tx,I ty,I tz,I n]] true false)::(1,.row 2 [s.cells] true false)::(0,.row 9 [h.cells] true false)::gz 20 5 t.2.2.1 t.2.2.2.2 []) 20 21
  (fun t=>t.2.1=t.1/\t.1<=L.length/\OutE h s b r v (L.take t.1) t.2.2.1 t.2.2.2.1 t.2.2.2.2)
  (0,0,0,0,[]) ⟨rfl,Qn _,⟨rfl,rfl,rfl⟩⟩ (Qp rfl) [] rfl (kps) (kps) ?_
 rintro ⟨i,ii,m,len,els⟩ ⟨hii,hin,hO⟩
 dsimp only at hii hin hO ⊢
 subst hii
 have hmb:els.length<=400:=by
  rw [hO.els,Rw,List.length_take]
  omega
 have hlen:=hO.len
 by_cases hlt:i<L.length
 rotate_left
 ·obtain rfl:i=L.length:=by omega
  rw [Of] at hO
  obtain ⟨o1,o2,o3⟩:=hO
  cases m with
  | zero =>
   have hz:L=[]:=Tq.1 o1.symm
   rw [if_pos hz]
   refine bs.av (sx:=nos) hkA ?_
   repeat'(first|refine wk3 ?_|(refine wk2 ?_ ?_<;>intro _)|refine wk4 ?_|fail);all_goals(conv=>whnf)
   exact Zg rfl rfl
  | succ m0 =>
   rw [if_neg (by intro hz; rw [hz] at o1; cases o1)]
   rw [o3,Rw] at o2
   subst o2 o3
   refine bs.av (sx:=nos) hkA ?_
   repeat'(first|refine wk3 ?_|(refine wk2 ?_ ?_<;>intro _)|refine wk4 ?_|fail);all_goals(conv=>whnf)
   exact Xn [20] rfl rfl rfl
 have hmem:=Qr hlt
 have e1:=Yhz hlt
 obtain ⟨u0,u1,u2⟩:=hfa2 _ hmem
 have hst:L.take (i+1)=L.take i++[L[i]]:=Qu hlt
 have c1:=Yes (v:=v) u1
 have c2:=Yet (ns:=L[i].ss) (by omega)
 have c3:=Yer (s:=s) (b:=b) (r:=r) (v:=v) u1 u2
 have hO2:OutE h s b r v (L.take (i+1)) (m+1) (els.length+1) (els++[ecC h s b r v L[i]]):=by
  rw [hst]
  exact ⟨by rw [List.length_append,<-hO.m]; rfl,by simp,by rw [List.map_append,<-hO.els]; rfl⟩
 have hz0:m=0->els=[]:=fun hz=>by
  have:=hO.els
  rw [Tq.1 (hO.m.symm.trans hz)] at this
  exact this
 clear hO hst hfa2 hmem
 unfold ecC at hO2
 try dsimp only at hO2
 generalize enV h s L[i] b r=EN at *
 generalize delV L[i].sq v=DL at *
 generalize L[i]=p at *
 obtain ⟨ps,pp,pq⟩:=p
 obtain ⟨en1,en2⟩:=EN
 obtain ⟨dl1,dl2⟩:=DL
 dsimp only at *
 cases m with
 | zero =>
  obtain rfl:=hz0 rfl
  refine bs.av (sx:=nos) hkA ?_
  repeat'(first|refine wk3 ?_|(refine wk2 ?_ ?_<;>intro _)|refine wk4 ?_|fail);all_goals(conv=>whnf)
  exact Qq ⟨(i+1,_,1,1,_),[(20,38)],rfl,kps,kps,⟨Zk (by omega),hlt,hO2⟩,by dsimp only; omega⟩
 | succ m0 =>
  refine bs.av (sx:=nos) hkA ?_
  repeat'(first|refine wk3 ?_|(refine wk2 ?_ ?_<;>intro _)|refine wk4 ?_|fail);all_goals(conv=>whnf)
  refine Ygb (ys:=[[.isl 1 (nl ps),I dl1,I dl2,I en1,I en2]]) rfl rfl rfl rfl rfl rfl rfl rfl rfl rfl (by simp) hlen (by simp only [List.length_cons,List.length_nil]; omega) ?_
  repeat'(first|refine wk3 ?_|(refine wk2 ?_ ?_<;>intro _)|refine wk4 ?_|fail);all_goals(conv=>whnf)
  exact Qq ⟨(i+1,_,m0+1+1,els.length+1,_),[(20,38)],rfl,kps,kps,⟨Zk (by omega),hlt,hO2⟩,by dsimp only; omega⟩
theorem e17 {a b:List Int} (ha:a.length<100000) (hb:b.length<100000):PCall Tryz.prog 17 [.isl 1 (nl a),.isl 1 (nl b)] ⟨Bo (decide (a=b.reverse)),[]⟩:=by
 have l1:=Zl a
 have l2:=Zl b
 by_cases hl:a.length=b.length
 rotate_left
 ·rw [decide_eq_false (fun e=>hl (by rw [e,Px]))]
  refine bs.pv (sx:=nos) Zb Tryz.func17 (by kernel_rfl) (by kernel_rfl) rfl ?_
  repeat'(first|refine wk3 ?_|(refine wk2 ?_ ?_<;>intro _)|refine wk4 ?_|fail);all_goals(conv=>whnf)
  all_goals first
   | exact Zd rfl
   | (exfalso; simp_all; done)
   | (exfalso; simp_all; omega)
 refine bs.pv (sx:=nos) Zb Tryz.func17 (by kernel_rfl) (by kernel_rfl) rfl ?_
 repeat'(first|refine wk3 ?_|(refine wk2 ?_ ?_<;>intro _)|refine wk4 ?_|fail);all_goals(conv=>whnf)
 all_goals try (exfalso; simp_all; done)
 refine Zy (S:=Nat × Int) (fun t=>a.length-t.1) (fun t=>[(0,.isl 1 (nl a)),(1,.isl 1 (nl b)),(5,I t.2)]) (fun _=>[]) 100 100
  (fun t=>t.2=t.1/\t.1<=a.length/\a.take t.1=b.reverse.take t.1) (0,0) ⟨rfl,Qn _,rfl⟩ (Qp rfl) [] rfl (kps) (kps) ?_
 rintro ⟨k,i⟩ ⟨hi,hk1,hE⟩
 dsimp only at hi hk1 hE ⊢
 subst hi
 refine bs.av (sx:=nos) Zb ?_
 by_cases hlt:k<a.length
 ·have e1:=Vo hlt
  have hj:b.length-1-k<b.length:=by omega
  have e2:=Vo hj
  have hx:Qa Qb (Qa Qb ((b.length:Int)-1)-(k:Int))=((b.length-1-k:Nat):Int):=by
   rw [W_eq (n:=(b.length:Int)-1) (by omega) (by omega),W_eq (by omega) (by omega)]
   omega
  have hr:b.reverse[k]'(by rw [Px]; omega)=b[b.length-1-k]:=List.getElem_reverse _
  have hs1:a.take (k+1)=a.take k++[a[k]]:=Qu hlt
  have hs2:b.reverse.take (k+1)=b.reverse.take k++[b[b.length-1-k]]:=by
   rw [Qu (by rw [Px]; omega),hr]
  have hne:a[k]≠b[b.length-1-k]->a≠b.reverse:=fun q e=>q (by rw [<-hr]; simp only [<-e])
  generalize a[k]=x at *
  generalize b[b.length-1-k]=y at *
  generalize (b.length-1-k:Nat)=J at *
  clear hr
  have e2r:(nl b)[(Qa Qb (Qa Qb (((nl b).length:Int)-1)-(k:Int))).toNat]?=some [I y]:=by rw [l2,hx]; exact e2
  by_cases hxy:x=y
  ·subst hxy
   have hE2:a.take (k+1)=b.reverse.take (k+1):=by rw [hs1,hs2,hE]
   repeat'(first|refine wk3 ?_|(refine wk2 ?_ ?_<;>intro _)|refine wk4 ?_|fail);all_goals(conv=>whnf)
   all_goals first
    | exact Qq ⟨(k+1,_),[],rfl,kps,kps,⟨Zk (by omega),hlt,hE2⟩,by dsimp only; omega⟩
    | (exfalso; simp_all; done)
  ·rw [decide_eq_false (hne hxy)]
   repeat'(first|refine wk3 ?_|(refine wk2 ?_ ?_<;>intro _)|refine wk4 ?_|fail);all_goals(conv=>whnf)
   all_goals first
    | exact Zd rfl
    | (exfalso; simp_all; done)
 ·obtain rfl:k=a.length:=by omega
  have hab:a=b.reverse:=by
   rw [Of] at hE
   rw [hE,List.take_of_length_le (by rw [Px]; omega)]
  rw [decide_eq_true hab]
  clear hab hE
  repeat'(first|refine wk3 ?_|(refine wk2 ?_ ?_<;>intro _)|refine wk4 ?_|fail);all_goals(conv=>whnf)
  all_goals first
   | exact Zd rfl
   | (exfalso; simp_all; done)
noncomputable abbrev rTu:List AV->Option PRes:=famA (fun q:List Int × List Int=>q.1.length<100000/\q.2.length<100000) (fun q=>[.isl 1 (nl q.1),.isl 1 (nl q.2)]) (fun q=>⟨Bo (decide (q.1=q.2.reverse)),[]⟩)
theorem Ygs {pt:PC} (hp:PCOK Tryz.prog pt):PCOK Tryz.prog (ins 17 rTu pt):=Yl (fun q hl=>e17 hl.1 hl.2) hp
theorem Yeo {a b:List Int} (ha:a.length<100000) (hb:b.length<100000):rTu [.isl 1 (nl a),.isl 1 (nl b)]=some ⟨Bo (decide (a=b.reverse)),[]⟩ :=
 Zx (p:=fun q:List Int × List Int=>q.1.length<100000/\q.2.length<100000) (g:=fun q=>[.isl 1 (nl q.1),.isl 1 (nl q.2)]) (r:=fun q=>⟨Bo (decide (q.1=q.2.reverse)),[]⟩) (k:=(a,b)) (fun j hj=>by
  obtain ⟨c,d⟩:=j
  simp only [Qx,AV.isl.injEq,true_and,and_true] at hj
  rw [Zij hj.1,Zij hj.2]) ⟨ha,hb⟩
theorem d17 (h:Hal) (s:Stg):PCall Tryz.prog 7 [.agg (stgL h s)] ⟨Bo (few3 h s),[]⟩:=by
 have l1:=Zl s.hs
 have l2:=Zl s.dr
 have hk:=Ze (d80 h) Zb
 unfold few3
 generalize few2 h=b at *
 by_cases c1:s.hs.length<=4<;>by_cases c2:s.dr.length<=10<;>cases b
 all_goals
  refine bs.pv (sx:=nos) hk Tryz.func7 (by kernel_rfl) (by kernel_rfl) rfl ?_
  repeat'(first|refine wk3 ?_|(refine wk2 ?_ ?_<;>intro _)|refine wk4 ?_|fail);all_goals(conv=>whnf)
 all_goals first
  | exact Zd rfl
  | (refine Zd ?_; simp_all; done)
  | (refine Zd ?_; simp_all; omega)
  | (exfalso; simp_all; omega)
noncomputable abbrev r8 (h:Hal) (s:Stg) (a:Ask) (b r v:Int) (L M:List Pth):List AV->Option PRes:=famA (fun _:Bool=>True) (fun q=>[h.av,s.av,if q then a.av else a.back.av,P3 b r v]) (fun q=>⟨.tup [.isl 5 ((if q then L else M).map (ecC h s b r v)),I 0],[]⟩)
def mtE (h:Hal) (s:Stg) (b r:Int) (p q:Pth):Prop:=p.ss=q.ss.reverse/\imax (enV h s p b r).1 (enV h s q b r).1<=imin (enV h s p b r).2 (enV h s q b r).2
theorem Ybm {x y z:Int} (h1:x<=z) (h2:y<=z):imax x y<=z:=by unfold imax; cases decide (x<y)<;>assumption
theorem Zs4 {x y z:Int} (h1:z<=x) (h2:z<=y):z<=imin x y:=by unfold imin; cases decide (y<x)<;>assumption
theorem e4 (h:Hal) (s:Stg) (a:Ask) (b r v:Int):PCall Tryz.prog 4 [.agg (stgL h s),a.av,P3 b r v] ⟨Bo true,[]⟩:=by
 have aw:=Yck
 by_cases hb:few3 h s=true
 rotate_left
 ·have hb:few3 h s=false:=by simpa using hb
  have hk0:=Ze (d17 h s) (Ze aw Zb)
  rw [hb] at hk0
  obtain ⟨fx,fy,fz,tx,ty,tz,n⟩:=a
  refine bs.pv (sx:=nos) hk0 Tryz.func4 (by kernel_rfl) (by kernel_rfl) rfl ?_
  repeat'(first|refine wk3 ?_|(refine wk2 ?_ ?_<;>intro _)|refine wk4 ?_|fail);all_goals(conv=>whnf)
  all_goals exact Zd rfl
 obtain ⟨hk,hs⟩:=Yfw hb
 by_cases hn:within a.n 0 2=true
 rotate_left
 ·have hn:within a.n 0 2=false:=by simpa using hn
  obtain ⟨fx,fy,fz,tx,ty,tz,n⟩:=a
  have h46:=c30 n 0 2
  dsimp only at hn
  rw [hn] at h46
  have hk0:=Ze (d17 h s) (Ze aw (Ze h46 Zb))
  rw [hb] at hk0
  refine bs.pv (sx:=nos) hk0 Tryz.func4 (by kernel_rfl) (by kernel_rfl) rfl ?_
  repeat'(first|refine wk3 ?_|(refine wk2 ?_ ?_<;>intro _)|refine wk4 ?_|fail);all_goals(conv=>whnf)
  all_goals exact Zd rfl
 have h46:=c30 a.n 0 2
 rw [hn] at h46
 have hn2:=within_iff.1 hn
 have h18:=d18 hk hs a
 by_cases e:askE h s a=0
 rotate_left
 ·obtain ⟨fx,fy,fz,tx,ty,tz,n⟩:=a
  generalize askE h s ⟨fx,fy,fz,tx,ty,tz,n⟩=E at *
  dsimp only at h46 hn2
  have hk0:=Ze (d17 h s) (Ze aw (Ze h46 (Ze h18 Zb)))
  rw [hb] at hk0
  refine bs.pv (sx:=nos) hk0 Tryz.func4 (by kernel_rfl) (by kernel_rfl) rfl ?_
  clear hk0 h18 h46 aw
  repeat'(first|refine wk3 ?_|(refine wk2 ?_ ?_<;>intro _)|refine wk4 ?_|fail);all_goals(conv=>whnf)
  all_goals first
   | exact Zd rfl
   | (exfalso; simp_all; done)
   | (exfalso; simp_all; omega)
 rw [e] at h18
 have h12:=Yi2 b r v
 by_cases hair:airE b r v=0
 rotate_left
 ·obtain ⟨fx,fy,fz,tx,ty,tz,n⟩:=a
  generalize airE b r v=E at *
  dsimp only at h46 hn2
  have hk0:=Ze (d17 h s) (Ze aw (Ze h46 (Ze h18 (Ze h12 Zb))))
  rw [hb] at hk0
  refine bs.pv (sx:=nos) hk0 Tryz.func4 (by kernel_rfl) (by kernel_rfl) rfl ?_
  clear hk0 h18 h46 aw h12 e
  repeat'(first|refine wk3 ?_|(refine wk2 ?_ ?_<;>intro _)|refine wk4 ?_|fail);all_goals(conv=>whnf)
  all_goals first
   | exact Zd rfl
   | (exfalso; simp_all; done)
   | (exfalso; simp_all; omega)
 rw [hair] at h12
 have A:=Xl e
 have g:=Ze4 hk hs A.e0
 have hN:=Ycx hk A.e0
 have e':=Ztx e
 have h8:=e8 hk hs a e (by omega) hair
 have h8b:=e8 hk hs a.back e' (by show a.n<3; omega) hair
 have hfa:=fun p hp=>Zgf hk hs e (show a.n<3 by omega) (p:=p) hp
 have hfb:=fun p hp=>Zgf hk hs e' (show a.n<3 by omega) (p:=p) hp
 have hbk:=fun p hp=>Zmv hk hs e (show a.n<3 by omega) (p:=p) hp
 have hbo:=Yas hk hs e (show a.n<3 by omega)
 have hrl:=Zwn (Yo h s (qF a) (qT a)) hN (show a.n.toNat<=2 by omega)
 change PCall Tryz.prog 8 [h.av,s.av,a.back.av,P3 b r v] ⟨.tup [.isl 5 ((refL (Yo h s (qT a) (qF a)) (nsN h) a.n.toNat).map (ecC h s b r v)),I 0],[]⟩ at h8b
 have hfb2:∀ p∈refL (Yo h s (qT a) (qF a)) (nsN h) a.n.toNat,p.ss.length<=2:=fun p hp=>(hfb p hp).2.2.1
 have hair2:=(Zr1 hair).2.1
 have hfa2:∀ p∈refL (Yo h s (qF a) (qT a)) (nsN h) a.n.toNat,p.ss.length<=2/\mtE h s b r p (trV p):=fun p hp=>by
  obtain ⟨f1,f2,f3,f4,f5⟩:=hfa p hp
  have f6:pthE p=0:=by
   unfold cpE at f5
   split at f5
   ·assumption
   ·exact f5
  have hin:∀ n∈p.ss,SK h n:=fun n hn=>by
   have f7:=f2
   unfold suE at f7
   rw [if_neg (by omega)] at f7
   have:=Zr9 f7 n hn
   exact Zhn this.1 (by omega)
  obtain ⟨⟨m1,m2⟩,m3,m4⟩:=Yby g (b:=b) f6 hin hair2
  refine ⟨f3,?_,Ybm (Zs4 m1 m2) (Zs4 m3 m4)⟩
  unfold trV
  exact (Gv _).symm
 clear hfa hfb
 generalize refL (Yo h s (qF a) (qT a)) (nsN h) a.n.toNat=L at *
 generalize refL (Yo h s (qT a) (qF a)) (nsN h) a.n.toNat=M at *
 have hll:L.length=M.length:=by have:=congrArg List.length hbo; simpa using this
 have hlm:(L.map (ecC h s b r v)).length=L.length:=Rw _
 have hmm:(M.map (ecC h s b r v)).length=M.length:=Rw _
 have hsq:∀ (k:Nat) (h1:k<L.length) (h2:k<M.length),L[k].sq=M[k].sq:=fun k h1 h2=>by
  have:=congrArg (fun l=>l[k]?) hbo
  simpa [h1,h2] using this
 clear hbo
 have hnb:¬ a.av=a.back.av:=by
  intro k
  have:=A.ne
  unfold Ask.back at k
  simp only [AV.agg.injEq,Qx,AV.int.injEq,true_and,and_true] at k
  unfold Ask.same at this
  simp [k.1,k.2.1,k.2.2.1] at this
 have o1:r8 h s a b r v L M [h.av,s.av,a.av,P3 b r v]=some ⟨.tup [.isl 5 (L.map (ecC h s b r v)),I 0],[]⟩ :=
  Zx (p:=fun _:Bool=>True) (g:=fun q=>[h.av,s.av,if q then a.av else a.back.av,P3 b r v]) (r:=fun q=>⟨.tup [.isl 5 ((if q then L else M).map (ecC h s b r v)),I 0],[]⟩) (k:=true) (fun j hj=>by
   cases j with
   | true=>rfl
   | false=>simp only [Qx,and_true,true_and] at hj; exact absurd hj.symm hnb) trivial
 have o2:r8 h s a b r v L M [h.av,s.av,a.back.av,P3 b r v]=some ⟨.tup [.isl 5 (M.map (ecC h s b r v)),I 0],[]⟩ :=
  Zx (p:=fun _:Bool=>True) (g:=fun q=>[h.av,s.av,if q then a.av else a.back.av,P3 b r v]) (r:=fun q=>⟨.tup [.isl 5 ((if q then L else M).map (ecC h s b r v)),I 0],[]⟩) (k:=false) (fun j hj=>by
   cases j with
   | false=>rfl
   | true=>simp only [Qx,and_true,true_and] at hj; exact absurd hj hnb) trivial
 have h5:∀ {pt:PC},PCOK Tryz.prog pt->PCOK Tryz.prog (ins 8 (r8 h s a b r v L M) pt):=fun hp=>Yl (fun q _=>by
  cases q with
  | true=>exact h8
  | false=>exact h8b) hp
 have hk0:=Ze (d17 h s) (Ze aw (Ze h46 (Ze h18 (Ze h12 (h5 (Ze (c22f hk.f) (Ze (c29 hs) (Ygs Zb))))))))
 clear h5
 rw [hb] at hk0
 obtain ⟨fx,fy,fz,tx,ty,tz,n⟩:=a
 dsimp only at hn2
 clear h18 h46 aw h12 h8 h8b e e' A hn hb hN hnb
 refine bs.pv (sx:=nos) hk0 Tryz.func4 (by kernel_rfl) (by kernel_rfl) rfl ?_
 repeat'(first|refine wk3 ?_|(refine wk2 ?_ ?_<;>intro _)|refine wk4 ?_|fail);all_goals(conv=>whnf)
 all_goals try (exfalso; clear hk0; simp_all; done)
 all_goals try (exfalso; clear hk0; simp_all; omega)
 refine Zy (S:=Nat × Int) (fun t=>L.length-t.1) (fun t=>[(7,.isl 5 (L.map (ecC h s b r v))),(9,.isl 5 (M.map (ecC h s b r v))),(11,I t.2)]) (fun _=>[]) 100 100
  (fun t=>t.2=t.1/\t.1<=L.length) (0,0) ⟨rfl,Qn _⟩ (Qp rfl) [] rfl (kps) (kps) ?_
 rintro ⟨k,i⟩ ⟨hi,hk1⟩
 dsimp only at hi hk1 ⊢
 subst hi
 refine bs.av (sx:=nos) hk0 ?_
 by_cases hlt:k<L.length
 ·have hmem:=Qr hlt
  have e1:=Zrk (h:=h) (s:=s) (b:=b) (r:=r) (v:=v) hlt
  have e2:=Zrk (h:=h) (s:=s) (b:=b) (r:=r) (v:=v) (L:=M) (k:=k) (by omega)
  have hs1:=hsq k hlt (by omega)
  obtain ⟨u1,u2⟩:=hfa2 _ hmem
  have hr:=hbk _ hmem
  unfold ecC at e1 e2
  rw [<-hs1] at e2
  generalize delV L[k].sq v=DL at *
  obtain ⟨dl1,dl2⟩:=DL
  generalize L[k]=p at *
  clear hs1
  repeat'(first|refine wk3 ?_|(refine wk2 ?_ ?_<;>intro _)|refine wk4 ?_|fail);all_goals(conv=>whnf)
  all_goals try (exfalso; clear hk0; simp_all; done)
  refine Zy (S:=Nat × Int × Bool) (fun t=>M.length-t.1) (fun t=>[(7,.isl 5 (L.map (ecC h s b r v))),(9,.isl 5 (M.map (ecC h s b r v))),(11,I (k:Int)),(12,Bo t.2.2),(13,I t.2.1)]) (fun _=>[]) 200 200
   (fun t=>t.2.1=t.1/\t.1<=M.length/\(t.2.2=true↔∃ q∈M.take t.1,mtE h s b r p q)) (0,0,false) ⟨rfl,Qn _,by simp⟩ (Qp rfl) [] rfl (kps) (kps) ?_
  rintro ⟨j,i,f⟩ ⟨hi,hj1,hf⟩
  dsimp only at hi hj1 hf ⊢
  subst hi
  refine bs.av (sx:=nos) hk0 ?_
  by_cases hjl:j<M.length
  ·have e3:=Zrk (h:=h) (s:=s) (b:=b) (r:=r) (v:=v) hjl
   have hm2:=hfb2 _ (Qr hjl)
   have c3:=Yeo (a:=p.ss) (b:=M[j].ss) (by omega) (by omega)
   have ht:(∃ q∈M.take (j+1),mtE h s b r p q)↔(f=true\/mtE h s b r p M[j]):=by
    rw [hf,Qu hjl]
    simp only [List.mem_append,List.mem_singleton]
    constructor
    ·rintro ⟨q,hq|rfl,hm⟩
     ·exact .inl ⟨q,hq,hm⟩
     ·exact .inr hm
    ·rintro (⟨q,hq,hm⟩|hm)
     ·exact ⟨q,.inl hq,hm⟩
     ·exact ⟨_,.inr rfl,hm⟩
   have hM:mtE h s b r p M[j]↔(p.ss=M[j].ss.reverse/\imax (enV h s p b r).1 (enV h s M[j] b r).1<=imin (enV h s p b r).2 (enV h s M[j] b r).2):=Iff.rfl
   unfold ecC at e3
   generalize M[j]=q at *
   generalize hX:enV h s p b r=X at *
   generalize enV h s q b r=Y at *
   generalize p.ss=ps at *
   generalize q.ss=qs at *
   clear hf
   cases f with
   | true =>
    repeat'(first|refine wk3 ?_|(refine wk2 ?_ ?_<;>intro _)|refine wk4 ?_|fail);all_goals(conv=>whnf)
    all_goals first
     | exact Qq ⟨(j+1,_,true),[],rfl,kps,kps,⟨Zk (by omega),hjl,by rw [ht]; simp⟩,by dsimp only; omega⟩
     | (exfalso; clear hk0; simp_all; done)
   | false =>
    by_cases hps:ps=qs.reverse
    ·rw [decide_eq_true hps] at c3
     repeat'(first|refine wk3 ?_|(refine wk2 ?_ ?_<;>intro _)|refine wk4 ?_|fail);all_goals(conv=>whnf)
     all_goals first
      | exact Qq ⟨(j+1,_,decide (imax X.1 Y.1<=imin X.2 Y.2)),[],rfl,kps,kps,⟨Zk (by omega),hjl,by rw [ht,hM]; simp [hps]⟩,by dsimp only; omega⟩
      | (exfalso; clear hk0; simp_all; done)
    ·rw [decide_eq_false hps] at c3
     repeat'(first|refine wk3 ?_|(refine wk2 ?_ ?_<;>intro _)|refine wk4 ?_|fail);all_goals(conv=>whnf)
     all_goals first
      | exact Qq ⟨(j+1,_,false),[],rfl,kps,kps,⟨Zk (by omega),hjl,by rw [ht,hM]; simp [hps]⟩,by dsimp only; omega⟩
      | (exfalso; clear hk0; simp_all; done)
  ·obtain rfl:j=M.length:=by omega
   rw [Of] at hf
   have hft:f=true:=hf.2 ⟨_,hr,u2⟩
   subst hft
   clear hf
   repeat'(first|refine wk3 ?_|(refine wk2 ?_ ?_<;>intro _)|refine wk4 ?_|fail);all_goals(conv=>whnf)
   all_goals first
    | exact Qq ⟨(k+1,_),[],rfl,kps,kps,⟨Zk (by omega),hlt⟩,by dsimp only; omega⟩
    | (exfalso; clear hk0; simp_all; done)
 ·obtain rfl:k=L.length:=by omega
  repeat'(first|refine wk3 ?_|(refine wk2 ?_ ?_<;>intro _)|refine wk4 ?_|fail);all_goals(conv=>whnf)
  all_goals first
   | exact Zd rfl
   | (exfalso; clear hk0; simp_all; done)
theorem Yir {m:Nat} {x:List AV} (hw:WT TT (m+10+1) 28 x):∃ h:Hal,x=h.cells:=by
 have h0:=(Xy (T:=TT) (t:=28) rfl rfl hw).1
 have h0:x.length=9:=h0
 match x,h0 with
 | [x0,x1,x2,x3,x4,x5,x6,x7,x8],_ =>
  obtain ⟨s,hs,hs2⟩:=wStr (Zm (T:=TT) (t:=28) rfl rfl hw 0 rfl rfl)
  obtain ⟨n,hn⟩:=wInt (Zm (T:=TT) (t:=28) rfl rfl hw 1 rfl rfl)
  obtain ⟨t,ht,ht2⟩:=wStr (Zm (T:=TT) (t:=28) rfl rfl hw 2 rfl rfl)
  obtain ⟨u,hu,hu2⟩:=wStr (Zm (T:=TT) (t:=28) rfl rfl hw 3 rfl rfl)
  obtain ⟨e4,h4,_,g4⟩:=Zeh (T:=TT) (t:=22) rfl rfl rfl (Zm (T:=TT) (t:=28) rfl rfl hw 4 rfl rfl)
  obtain ⟨e5,h5,_,g5⟩:=Zeh (T:=TT) (t:=23) rfl rfl rfl (Zm (T:=TT) (t:=28) rfl rfl hw 5 rfl rfl)
  obtain ⟨e6,h6,_,g6⟩:=Zeh (T:=TT) (t:=24) rfl rfl rfl (Zm (T:=TT) (t:=28) rfl rfl hw 6 rfl rfl)
  obtain ⟨e7,h7,_,g7⟩:=Zeh (T:=TT) (t:=25) rfl rfl rfl (Zm (T:=TT) (t:=28) rfl rfl hw 7 rfl rfl)
  obtain ⟨e8,h8,_,g8⟩:=Zeh (T:=TT) (t:=26) rfl rfl rfl (Zm (T:=TT) (t:=28) rfl rfl hw 8 rfl rfl)
  obtain ⟨l4,k4,_⟩:=Zt6 (f:=Mat.av) (fun x hx=>wMat hx) e4 g4
  obtain ⟨l5,k5,_⟩:=Zt6 (f:=pt) (P:=fun _=>True) (fun x hx=>(wP2 hx).imp fun p hp=>⟨hp,trivial⟩) e5 g5
  obtain ⟨l6,k6,_⟩:=Zt6 (f:=Wal.av) (fun x hx=>wWal hx) e6 g6
  obtain ⟨l7,k7,_⟩:=Zt6 (f:=Can.av) (fun x hx=>wCan hx) e7 g7
  obtain ⟨l8,k8,_⟩:=Zt6 (f:=Sea.av) (fun x hx=>wSea hx) e8 g8
  have hs:[x0]=[.str s]:=hs
  have hn:[x1]=[I n]:=hn
  have ht:[x2]=[.str t]:=ht
  have hu:[x3]=[.str u]:=hu
  have h4:[x4]=[.isl 6 e4]:=h4
  have h5:[x5]=[.isl 2 e5]:=h5
  have h6:[x6]=[.isl 3 e6]:=h6
  have h7:[x7]=[.isl 7 e7]:=h7
  have h8:[x8]=[.isl 4 e8]:=h8
  cases hs; cases hn; cases ht; cases hu; cases h4; cases h5; cases h6; cases h7; cases h8
  exact ⟨⟨s,n,t,u,l4,l5,l6,l7,l8⟩,by rw [k4,k5,k6,k7,k8]⟩
theorem wStg {m:Nat} {x:List AV} (hw:WT TT (m+10+1) 31 x):∃ s:Stg,x=s.cells:=by
 have h0:=(Xy (T:=TT) (t:=31) rfl rfl hw).1
 have h0:x.length=2:=h0
 match x,h0 with
 | [x0,x1],_ =>
  obtain ⟨a,ha⟩:=Yea (Zm (T:=TT) (t:=31) rfl rfl hw 0 rfl rfl)
  obtain ⟨b,hb⟩:=Yea (Zm (T:=TT) (t:=31) rfl rfl hw 1 rfl rfl)
  have ha:[x0]=[.isl 1 (nl a)]:=ha
  have hb:[x1]=[.isl 1 (nl b)]:=hb
  cases ha; cases hb
  exact ⟨⟨a,b⟩,rfl⟩
theorem Yaq {a:AV} (h:WTA TT 33 a):∃ (h:Hal) (s:Stg),a = .agg (stgL h s):=by
 obtain ⟨x,m,rfl,hw⟩:=Zqc (T:=TT) (t:=33) h rfl rfl 11
 have h0:=(Xy (T:=TT) (t:=33) rfl rfl hw).1
 have h0:x.length=11:=h0
 match x,h0 with
 | [x0,x1,x2,x3,x4,x5,x6,x7,x8,x9,x10],_ =>
  obtain ⟨hl,hh⟩:=Yir (Zm (T:=TT) (t:=33) rfl rfl hw 0 rfl rfl)
  obtain ⟨st,hs⟩:=wStg (Zm (T:=TT) (t:=33) rfl rfl hw 1 rfl rfl)
  have hh:[x0,x1,x2,x3,x4,x5,x6,x7,x8]=hl.cells:=hh
  have hs:[x9,x10]=st.cells:=hs
  cases hh; cases hs
  exact ⟨hl,st,rfl⟩
theorem Yim {a:AV} (h:WTA TT 37 a):∃ b:Ask,a=b.av:=by
 obtain ⟨x,m,rfl,hw⟩:=Zqc (T:=TT) (t:=37) h rfl rfl 11
 have h0:=(Xy (T:=TT) (t:=37) rfl rfl hw).1
 have h0:x.length=7:=h0
 match x,h0 with
 | [x0,x1,x2,x3,x4,x5,x6],_ =>
  obtain ⟨n1,e1,l1,_⟩:=Zjc (T:=TT) (t:=35) rfl rfl rfl (Zm (T:=TT) (t:=37) rfl rfl hw 0 rfl rfl)
  obtain ⟨n2,e2,l2,_⟩:=Zjc (T:=TT) (t:=35) rfl rfl rfl (Zm (T:=TT) (t:=37) rfl rfl hw 1 rfl rfl)
  obtain ⟨n,hn⟩:=wInt (Zm (T:=TT) (t:=37) rfl rfl hw 2 rfl rfl)
  have l1:n1.length=3:=l1
  have l2:n2.length=3:=l2
  have hn:[x6]=[I n]:=hn
  match n1,l1,n2,l2 with
  | [a,b,c],_,[d,e,f],_ =>
   have e1:[x0,x1,x2]=[I a,I b,I c]:=e1
   have e2:[x3,x4,x5]=[I d,I e,I f]:=e2
   cases e1; cases e2; cases hn
   exact ⟨⟨a,b,c,d,e,f,n⟩,rfl⟩
theorem Yh2 {a:AV} (h:WTA TT 39 a):∃ x y z:Int,a=P3 x y z:=by
 obtain ⟨x,m,rfl,hw⟩:=Zqc (T:=TT) (t:=39) h rfl rfl 4
 obtain ⟨ns,h1,h2,_⟩:=Zjc (T:=TT) (t:=39) rfl rfl rfl hw
 have h2:ns.length=3:=h2
 match ns,h2 with
 | [p,q,r],_=>exact ⟨p,q,r,by rw [h1]; rfl⟩
def tysU:List TypeId:=[33,37,39,35,28,31,22,23,24,25,26,29,67,69,119,103,124,101,9,3]
theorem Ygg:tysU.all (Zjm (tget tbl) tysU)=true:=by kernel_rfl
end Go.Proofs.YtfkdpbklbegnlaaGreat
