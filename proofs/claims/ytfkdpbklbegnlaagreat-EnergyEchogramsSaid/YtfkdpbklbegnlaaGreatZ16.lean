/- A part of the proof: lemmas. -/
import Derived.Test.YtfkdpbklbegnlaaGreatZ15
import Derived.Test.YtfkdpbklbegnlaaGreatZ8
import Derived.Test.YtfkdpbklbegnlaaGreatZ12
import Derived.Test.YtfkdpbklbegnlaaGreatZ7
import Derived.Test.YtfkdpbklbegnlaaGreatZ14
import Derived.Test.YtfkdpbklbegnlaaGreatZ9
import Derived.Test.YtfkdpbklbegnlaaGreatZ13
import Derived.Shelf.SlSortCmp.Insertion
import Derived.Shelf.SlSortCmp.NoneTotal
import Derived.Sort.Statements
set_option linter.unusedVariables false
set_option linter.unusedSimpArgs false
set_option maxRecDepth 100000
set_option maxHeartbeats 16000000
open Bool renaming eq_iff_iff->Rz
open Go.IntKind renaming i64->Qb,wrap->Qa
open Go.Sx.AV.isl renaming injEq->Na
open Go.Sx.CtT renaming mk->Qdi
open Go.Sx.Done renaming mk->Ql
open Go.Sx.Fits renaming here->Hw
open Go.Sx.Yd renaming mk->Gu
open Int renaming ediv_mul_le->Ll,ediv_nonneg->Ts,le_of_lt->Qu,le_refl->Fr,le_trans->Nt,lt_or_le->Nb,mul_assoc->Tc,mul_comm->Re,mul_le_mul->Ol,mul_le_mul_of_nonneg_right->Qg,mul_lt_mul_of_pos_right->Tg,mul_nonneg->Qq,mul_pos->Rm,neg_mul->Tt,neg_mul_neg->Qbj,pow_nonneg->Mo,pow_pos->Qay,pow_succ->Ns,sub_mul->Lw,toNat->Tp,toNat_natCast->Rf
open List renaming append_assoc->Rs,append_nil->Tx,cons_append->Ss,drop_eq_getElem_cons->Qi,drop_of_length_le->Qk,flatMap_assoc->Dq,flatMap_cons->Ta,flatMap_nil->Gg,getElem?_map->Rq,getElem?_set->Md,getElem_mem->Qr,length_append->Rr,length_cons->Ru,length_eq_zero_iff->Rt,length_filterMap_le->Nh,length_map->Ra,map_append->Wz,map_set->Mu,mem_cons->Rb,mem_filterMap->Nr,mem_flatMap->Np,mem_iff_getElem->Oz,mem_map->Wd,mem_or_eq_of_mem_set->Mw,mem_reverse->Qas,mem_singleton->We,nil_append->Wy,pairwise_cons->Wk,range->Si,replicate->Sd
open List.Perm renaming refl->Mn
open List.cons renaming injEq->Qs
open Nat renaming le_refl->Qd,le_trans->Qt,mul_le_mul->Kh,zero_add->Ry,zero_le->Qn
open Option.some renaming injEq->Qf
namespace Go.Proofs.YtfkdpbklbegnlaaGreat
open Go Go.Sx
def rowP (o:Option Pth):PRes:=match o with
 | none=>⟨.tup [.agg [.nils,.nils,I 0],Bo false],[]⟩
 | some p=>⟨.tup [.agg [.asl 0 0 (nl p.ss).length,.asl 1 0 (p.ps.map hp4).length,I p.sq],Bo true],[(1,nl p.ss),(4,p.ps.map hp4)]⟩
theorem Ybp (o:Option Pth):Vj (rowP o).blks.length (rowP o).v=true:=by cases o<;>rfl
noncomputable abbrev clR:List AV->Option PRes:=famA (fun ps:List (Int × Int × Int × Int)=>0<ps.length/\ps.length<100000) (fun ps=>[.isl 4 (ps.map hp4)]) (fun ps=>⟨.asl 0 0 (ps.map hp4).length,[(4,ps.map hp4)]⟩)
theorem Yj2 {pt:PC} (hp:PCOK Tryz.prog pt):PCOK Tryz.prog (ins 114 clR pt):=Zo (fun ps hl=>d104 hl.1 hl.2) hp
theorem Yhf {ps:List (Int × Int × Int × Int)} (h0:0<ps.length) (h:ps.length<100000):clR [.isl 4 (ps.map hp4)]=some ⟨.asl 0 0 (ps.map hp4).length,[(4,ps.map hp4)]⟩ :=
 Zm (p:=fun ps:List (Int × Int × Int × Int)=>0<ps.length/\ps.length<100000) (g:=fun ps=>[.isl 4 (ps.map hp4)]) (r:=fun ps=>⟨.asl 0 0 (ps.map hp4).length,[(4,ps.map hp4)]⟩) (fun j hj=>by
  simp only [Qs,Na,true_and,and_true] at hj
  rw [hj]) ⟨h0,h⟩
noncomputable def Yiu (h:Hal) (s:Stg) (q0:Pl3) (ns:List Int):PC:=ins 111 (oneA [.agg (stgL h s),P3 q0.1 q0.2.1 q0.2.2,.isl 1 (nl ns)] ⟨.isl 3 (imC (im1 h s) q0 ns ns.length),[]⟩) (ins 107 r123 (ins 112 (crsT h s) (ins 113 (wayT h s) (ins 115 r126 (ins 114 clR (ins 37 (oneA [.isl 1 (nl ns)] ⟨.asl 0 0 (nl ns).length,[(1,nl ns)]⟩) pt0))))))
theorem Ycj {h:Hal} (hk:h.ok) {s:Stg} (hs:s.few) (e0:serr h s=0) {q0:Pl3} (hf:Near 5000 q0) {ns:List Int} (h0:0<ns.length) (hl:ns.length<=4) (hi:∀ n∈ns,0<=n/\n<nsur h):PCOK Tryz.prog (Yiu h s q0 ns) :=
 Zb9 (d82f hk hs e0 hf hl hi) (Zxu (Zz1 hk hs (Zw2 hk hs (Zxt (Yj2 (Zb9 (d103 (ns:=ns) h0 (by omega)) Zc))))))
theorem d65r {h:Hal} (hk:h.ok) {s:Stg} (hs:s.few) (e0:serr h s=0) (a:Ask) (hf:Near 5000 (a.fx,a.fy,a.fz)) (ht:Near 5000 (a.tx,a.ty,a.tz)) {ns:List Int} (h0:0<ns.length) (hl:ns.length<=4) (hi:∀ n∈ns,0<=n/\n<nsur h) :
  PCall Tryz.prog 71 [.agg (stgL h s),a.av,.isl 1 (nl ns)] (rowP (Yt h s (a.fx,a.fy,a.fz) (a.tx,a.ty,a.tz) ns)):=by
 obtain ⟨fx,fy,fz,tx,ty,tz,n⟩:=a
 dsimp only at hf ht ⊢
 have hk0:=Ycj hk hs e0 hf h0 hl hi
 unfold Yiu at hk0
 have w0:=Zt1 hf
 have wT:=Zt1 ht
 have ll:=Zk ns
 have o1:=Zai [.agg (stgL h s),P3 fx fy fz,.isl 1 (nl ns)] ⟨.isl 3 (imC (im1 h s) (fx,fy,fz) ns ns.length),[]⟩
 have o2:=Zai [.isl 1 (nl ns)] ⟨.asl 0 0 (nl ns).length,[(1,nl ns)]⟩
 have hR:=Zdf h s (fx,fy,fz) (tx,ty,tz) ns
 generalize Yt h s (fx,fy,fz) (tx,ty,tz) ns=R at *
 have il:=Zes (im1 h s) (fx,fy,fz) ns ns.length
 have x2:Qa Qb (((nl ns).length:Int)+2)=((ns.length+2:Nat):Int):=by rw [ll,W_eq (by omega) (by omega)]; omega
 have x1:Qa Qb (((nl ns).length:Int)+1)=((ns.length+1:Nat):Int):=by rw [ll,W_eq (by omega) (by omega)]; omega
 have a1:decide (0<=Qa Qb (((nl ns).length:Int)+2)/\(Qa Qb (((nl ns).length:Int)+2)).toNat<=1000000)=true:=by rw [x2]; exact decide_eq_true ⟨by omega,by omega⟩
 have g0:(Sd (Qa Qb (((nl ns).length:Int)+2)).toNat (ptc ptZ))[0+Tp 0]?=some (ptc ptZ):=by
  rw [x2,Rf,List.getElem?_replicate,if_pos (by omega)]
 have g1:(Zf1 (Sd (Qa Qb (((nl ns).length:Int)+2)).toNat (ptc ptZ)) (0+Tp 0) (ptc (pnt (fx,fy,fz))))[0+(Qa Qb (((nl ns).length:Int)+1)).toNat]?=some (ptc ptZ):=by
  rw [Uj,x2,x1,Md,if_neg (by omega)]; simp
 have hE0:Zf1 (Zf1 (Sd (Qa Qb (((nl ns).length:Int)+2)).toNat (ptc ptZ)) (0+Tp 0) (ptc (pnt (fx,fy,fz)))) (0+(Qa Qb (((nl ns).length:Int)+1)).toNat) (ptc (pnt (tx,ty,tz)))=(((Sd (ns.length+2) ptZ).set 0 (pnt (fx,fy,fz))).set (ns.length+1) (pnt (tx,ty,tz))).map ptc:=by
  rw [Uj,Uj,x2,x1,Mu,Mu,List.map_replicate]
  congr 1
  omega
 refine bs.pv (sx:=nos) hk0 Tryz.func71 (by kernel_rfl) (by kernel_rfl) (Ybp _) ?_
 unfold Zci
 conv=>whnf
 repeat'(first|refine wk3 ?_|(refine wk2 ?_ ?_<;>intro _)|fail)
 obtain ⟨l,hlk⟩:∃ l,l=lkG (im1 h s) (fx,fy,fz) ns:=⟨_,rfl⟩
 have hll:l.length=ns.length:=by rw [hlk,Za9]
 have hlt' : ∀ {k:Nat} (hk:k<ns.length),(l.take (k+1)).reverse=(ns[k],imA (im1 h s) (fx,fy,fz) ns (k+1))::(l.take k).reverse:=fun hk=>by rw [hlk]; exact Zn3 hk
 rw [<-hlk] at hR
 clear hlk
 refine Zr (S:=Nat × Int × List (List AV) × List Pt) (fun t=>t.1) (fun t=>[(2,.isl 1 (nl ns)),(3,.ptr 0 0 0),(4,.ptr 1 0 0),(6,.ptr 2 0 0),(8,.isl 3 (imC (im1 h s) (fx,fy,fz) ns ns.length)),(9,I (nl ns).length),(10,.asl 3 0 (Qa Qb (((nl ns).length:Int)+2)).toNat),(11,I t.2.1)])
  (fun t=>[(3,.row 4 t.2.2.1 true true),(2,.row 3 [[.nils,.nils,I 0]] true false),(1,.row 7 [[I fx,I fy,I fz,I tx,I ty,I tz,I n]] true false),(0,.row 11 [stgL h s] true false)]) 18 18
  (fun t=>t.2.1=t.1/\t.1<=ns.length/\t.2.2.1=t.2.2.2.map ptc/\t.2.2.2.length=ns.length+2/\t.2.2.2[0]?=some (pnt (fx,fy,fz))/\(∀ p∈t.2.2.2,p.wf)/\∃ to P Q,t.2.2.2.drop (t.1+1)=to::Q/\P++[pnt (tx,ty,tz)]=to::Q/\goP (fP h s) (l.take t.1).reverse to P=goP (fP h s) l.reverse (pnt (tx,ty,tz)) [])
  (ns.length,(nl ns).length,_,(((Sd (ns.length+2) ptZ).set 0 (pnt (fx,fy,fz))).set (ns.length+1) (pnt (tx,ty,tz)))) ⟨by dsimp only; rw [ll],Qd _,hE0,by simp,by simp,?_,pnt (tx,ty,tz),[],[],by rw [Zdr (by simp)]; simp,rfl,by rw [<-hll,List.take_length]⟩ (Qd _) [] rfl (kps) (kps) ?_
 ·intro p hp
  rcases Mw hp with hp|rfl
  ·rcases Mw hp with hp|rfl
   ·rw [List.eq_of_mem_replicate hp]; exact Zpe
   ·exact w0
  ·exact wT
 clear g0 g1 hE0 a1
 rintro ⟨k,i,els,pts⟩ ⟨hi1,hk1,hels,hpl,hp0,hwf,to,P,Q,hd,hPQ,hgo⟩
 dsimp only at hi1 hk1 hels hpl hp0 hwf hd hPQ hgo ⊢
 subst hi1 hels
 have lp:(pts.map ptc).length=ns.length+2:=by rw [Ra,hpl]
 refine bs.av (sx:=nos) hk0 ?_
 cases k with
 | succ j =>
  have b0:((j+1:Nat):Int)>=1:=by omega
  have b1:Qa Qb (((j+1:Nat):Int)-1)=j:=by rw [W_eq (by omega) (by omega)]; omega
  have b2:Qa Qb (((j+1:Nat):Int)+1)=((j+2:Nat):Int):=by rw [W_eq (by omega) (by omega)]; omega
  have e1:(nl ns)[(Qa Qb (((j+1:Nat):Int)-1)).toNat]?=some [I ns[j]]:=by rw [b1]; simp [nl]
  have e2:(imC (im1 h s) (fx,fy,fz) ns ns.length)[((j+1:Nat):Int).toNat]?=some (pl3 (imA (im1 h s) (fx,fy,fz) ns (j+1))):=by
   rw [Rf]; unfold imC; rw [Rq,List.getElem?_range (by omega)]; rfl
  have hto:pts[j+2]?=some to:=by rw [<-List.head?_drop,hd]; rfl
  have e3:(pts.map ptc)[0+(Qa Qb (((j+1:Nat):Int)+1)).toNat]?=some (ptc to):=by rw [b2,Rf,Ry,Rq,hto]; rfl
  have e4:(pts.map ptc)[0+((j+1:Nat):Int).toNat]?=some (ptc (pts[j+1]'(by omega))):=by rw [Rf,Ry]; exact Zib (by omega)
  have wto:to.wf:=hwf _ (List.mem_of_getElem? hto)
  rw [hlt' (by omega),goP] at hgo
  have c1:=Yc6 (h:=h) (s:=s) (c:=⟨ns[j],(imA (im1 h s) (fx,fy,fz) ns (j+1)).1,(imA (im1 h s) (fx,fy,fz) ns (j+1)).2.1,(imA (im1 h s) (fx,fy,fz) ns (j+1)).2.2,to⟩) wto
  have w1:=Yha (h:=h) (s:=s) ⟨ns[j],(imA (im1 h s) (fx,fy,fz) ns (j+1)).1,(imA (im1 h s) (fx,fy,fz) ns (j+1)).2.1,(imA (im1 h s) (fx,fy,fz) ns (j+1)).2.2,to⟩ hk hs
  have hfp:fP h s ns[j] (imA (im1 h s) (fx,fy,fz) ns (j+1)) to=crsA h s ⟨ns[j],(imA (im1 h s) (fx,fy,fz) ns (j+1)).1,(imA (im1 h s) (fx,fy,fz) ns (j+1)).2.1,(imA (im1 h s) (fx,fy,fz) ns (j+1)).2.2,to⟩:=rfl
  rw [hfp] at hgo
  clear hfp
  generalize crsA h s ⟨ns[j],(imA (im1 h s) (fx,fy,fz) ns (j+1)).1,(imA (im1 h s) (fx,fy,fz) ns (j+1)).2.1,(imA (im1 h s) (fx,fy,fz) ns (j+1)).2.2,to⟩=r at *
  obtain ⟨⟨x,y,z,d⟩,E⟩:=r
  generalize imA (im1 h s) (fx,fy,fz) ns (j+1)=q at *
  obtain ⟨qx,qy,qz⟩:=q
  obtain ⟨X,Y,Z,V⟩:=to
  dsimp only at hgo w1 c1
  by_cases hE:E=0
  ·subst hE
   rw [if_pos rfl] at hgo
   have hs1:Zf1 (pts.map ptc) (0+((j+1:Nat):Int).toNat) (ptc ⟨x,y,z,d⟩)=(pts.set (j+1) ⟨x,y,z,d⟩).map ptc:=by
    rw [Rf,Ry]; exact Zo1 _ _ _
   repeat'(first|refine wk3 ?_|(refine wk2 ?_ ?_<;>intro _)|fail)
   exact Ql ⟨(j,_,_,pts.set (j+1) ⟨x,y,z,d⟩),[],rfl,kps,kps,⟨b1,by dsimp only; omega,hs1,by dsimp only; rw [List.length_set,hpl],by dsimp only; rw [Md,if_neg (by omega)]; exact hp0,(fun p hp=>by
    rcases Mw hp with hp|rfl
    ·exact hwf p hp
    ·exact w1),⟨x,y,z,d⟩,⟨x,y,z,d⟩::P,⟨X,Y,Z,V⟩::Q,by dsimp only; rw [Zdr (by omega),hd],by rw [Ss,hPQ],hgo⟩,by dsimp only; omega⟩
  ·rw [if_neg hE] at hgo
   rw [<-hgo] at hR;dsimp only at hR;subst hR
   repeat'(first|refine wk3 ?_|(refine wk2 ?_ ?_<;>intro _)|fail)
   all_goals exact Ze rfl rfl
 | zero =>
  have hpe:pts=pnt (fx,fy,fz)::P++[pnt (tx,ty,tz)]:=by
   rw [Ss,hPQ,<-hd];clear hk0 hwf lp hpl
   cases pts with
   | nil=>cases hp0
   | cons p r=>cases hp0; rfl
  rw [List.take_zero,List.reverse_nil,goP] at hgo
  rw [<-hgo] at hR
  dsimp only at hR
  rw [<-hpe] at hR
  have hPl:P.length=ns.length:=by
   have:=congrArg List.length hpe;simp at this; omega
  clear hgo hlt' hd hPQ Q to
  repeat'(first|refine wk3 ?_|(refine wk2 ?_ ?_<;>intro _)|fail)
  refine Zr (S:=Nat × Int) (fun t=>ns.length+1-t.1) (fun t=>[(2,.isl 1 (nl ns)),(3,.ptr 0 0 0),(4,.ptr 1 0 0),(6,.ptr 2 0 0),(8,.isl 3 (imC (im1 h s) (fx,fy,fz) ns ns.length)),(9,I (nl ns).length),(10,.asl 3 0 (Qa Qb (((nl ns).length:Int)+2)).toNat),(75,I (Qa Qb (((nl ns).length:Int)+1))),(76,I t.2)])
   (fun t=>[(3,.row 4 (pts.map ptc) true true),(2,.row 3 [[.nils,.nils,I 0]] true false),(1,.row 7 [[I fx,I fy,I fz,I tx,I ty,I tz,I n]] true false),(0,.row 11 [stgL h s] true false)]) 18 18
   (fun t=>t.2=t.1/\t.1<=ns.length+1/\chkW (wP h s) (pts.drop t.1)=chkW (wP h s) pts) (0,0) ⟨rfl,Qn _,rfl⟩ (Qd _) [] rfl (kps) (kps) ?_
  rintro ⟨k,i⟩ ⟨hi1,hk1,hck⟩
  dsimp only at hi1 hk1 hck ⊢
  subst hi1
  by_cases hlt:k<ns.length+1
  ·have b0:((k:Nat):Int)<Qa Qb (((nl ns).length:Int)+1):=by rw [x1]; omega
   have b2:Qa Qb (((k:Nat):Int)+1)=((k+1:Nat):Int):=by rw [W_eq (by omega) (by omega)]; omega
   have e3:(pts.map ptc)[0+((k:Nat):Int).toNat]?=some (ptc (pts[k]'(by omega))):=by rw [Rf,Ry]; exact Zib (by omega)
   have e4:(pts.map ptc)[0+(Qa Qb (((k:Nat):Int)+1)).toNat]?=some (ptc (pts[k+1]'(by omega))):=by rw [b2,Rf,Ry]; exact Zib (by omega)
   rw [Zq6 (by omega)] at hck;have v1:=Ztg (h:=h) (s:=s) (hwf (pts[k]'(by omega)) (Qr _)) (hwf (pts[k+1]'(by omega)) (Qr _));have hw:wP h s (pts[k]'(by omega)) (pts[k+1]'(by omega))=(decide (wayE h s (pts[k]'(by omega)) (pts[k+1]'(by omega))=0)&&Zet h s (pts[k]'(by omega)) (pts[k+1]'(by omega))):=rfl;rw [hw] at hck;clear hw;generalize (pts[k]'(by omega))=p1 at *;generalize (pts[k+1]'(by omega))=p2 at *;generalize wayE h s p1 p2=u at *;generalize Zet h s p1 p2=f at *;obtain ⟨x1,y1,z1,d1⟩:=p1;obtain ⟨x2,y2,z2,d2⟩:=p2;refine bs.av (sx:=nos) hk0 ?_
   cases hb:(decide (u=0)&&f) with
   | true =>
    rw [hb,Bool.true_and] at hck
    repeat'(first|refine wk3 ?_|(refine wk2 ?_ ?_<;>intro _)|fail)
    all_goals first
     | (exfalso; clear hk0; simp_all; done)
     | exact Ql ⟨(k+1,_),[],rfl,kps,kps,⟨b2,hlt,hck⟩,by dsimp only; omega⟩
   | false =>
    rw [hb,Bool.false_and] at hck;rw [<-hck,if_neg (by simp)] at hR;subst hR
    repeat'(first|refine wk3 ?_|(refine wk2 ?_ ?_<;>intro _)|fail)
    all_goals first
     | exact Ze rfl rfl
     | (exfalso; clear hk0; simp_all; done)
  ·have hke:k=ns.length+1:=by omega
   subst hke;rw [Zq7 (by omega)] at hck;rw [<-hck,if_pos rfl] at hR;subst hR;refine Awp.froz [3] rfl (bs.av (sx:=nos) hk0 ?_);conv=>whnf
   repeat'(first|refine wk3 ?_|(refine wk2 ?_ ?_<;>intro _)|fail)
   have y1:Zfj (some (I (Qa Qb (((nl ns).length:Int)+1)))) (Qa Qb (((nl ns).length:Int)+2)).toNat=some (ns.length+1):=by
    show cond (decide (0<=Qa Qb (((nl ns).length:Int)+1))) (some (Qa Qb (((nl ns).length:Int)+1)).toNat) none=_
    rw [x1,decide_eq_true (by omega)];simp only [cond_true,Qf]; omega
   have cl:clR [.isl 4 (List.take (ns.length+1-Tp 1) (List.drop (0+Tp 1) (pts.map ptc)))]=some ⟨.asl 0 0 ((P.map tup4).map hp4).length,[(4,(P.map tup4).map hp4)]⟩:=by
    have e:List.take (ns.length+1-Tp 1) (List.drop (0+Tp 1) (pts.map ptc))=(P.map tup4).map hp4:=by
     rw [hpe,Ss,List.map_cons,show (0+Tp 1)=1 from rfl,List.drop_succ_cons,List.drop_zero,Wz,show ns.length+1-Tp 1=(P.map ptc).length by rw [Ra,hPl]; omega,List.take_left,List.map_map];rfl
    rw [e];exact Yhf (by rw [Ra]; omega) (by rw [Ra]; omega)
   have e5:(imC (im1 h s) (fx,fy,fz) ns ns.length)[((nl ns).length:Int).toNat]?=some (pl3 (imA (im1 h s) (fx,fy,fz) ns ns.length)):=by
    rw [Rf,ll]; exact Zjm _ _ _ _
   refine Znc rfl rfl rfl rfl rfl rfl y1 (by omega) (by rw [x2]; omega) (by rw [x2]; omega) ?_;conv=>whnf
   generalize imA (im1 h s) (fx,fy,fz) ns ns.length=q at *;obtain ⟨qx,qy,qz⟩:=q
   repeat'(first|refine wk3 ?_|(refine wk2 ?_ ?_<;>intro _)|fail)
   exact Yg [19,25] rfl rfl rfl
theorem Zyi {r:Locs} {I:Imm} {w:World} {D:Nat->Prop} {es:Nat} {x:Value} (h:VR r I w D (.isl es []) x) (r' : Locs) (I' : Imm) (w' : World) (D' : Nat->Prop):VR r' I' w' D' (.isl es []) x:=by
 cases h with
 | isl0=>exact .isl0 _ _ _ _
 | isl _ _ _ _ _ _ h1=>exact .isl0 _ _ _ _
theorem d65f {h:Hal} (hk:h.ok) {s:Stg} (hs:s.few) {a:Ask} (e:askE h s a=0) {ns:List Int} (hl:ns.length<=4) (hi:∀ n∈ns,0<=n/\n<nsur h) :
  Zrk Tryz.prog 71 [.agg (stgL h s),a.av,.isl 1 (nl ns)] (ansP (Yt h s (qF a) (qT a) ns)):=by
 by_cases h0:0<ns.length
 ·refine Zxx (d65r hk hs (Yj e).e0 a (Yj e).f (Yj e).t h0 hl hi) ?_ ?_ ?_
  ·cases Yt h s (qF a) (qT a) ns<;>rfl
  ·show Za5 (rowP (Yt h s (qF a) (qT a) ns)).blks=true
   cases Yt h s (qF a) (qT a) ns with
   | none=>rfl
   | some p=>(simp [rowP,Za5,Zr0,Zfm,nl]; exact ⟨fun _ _=>rfl,fun _ _ _ _ _=>rfl⟩)
  ·show Frz (rowP (Yt h s (qF a) (qT a) ns)).blks (rowP (Yt h s (qF a) (qT a) ns)).v _
   cases Yt h s (qF a) (qT a) ns with
   | none=>exact ⟨⟨rfl,rfl,⟨rfl,rfl⟩,trivial⟩,⟨rfl,rfl⟩,trivial⟩
   | some p=>exact ⟨⟨⟨rfl,rfl,rfl⟩,⟨rfl,rfl,rfl⟩,⟨rfl,rfl⟩,trivial⟩,⟨rfl,rfl⟩,trivial⟩
 ·obtain rfl:ns=[]:=Rt.1 (by omega)
  have hd:=(d65n hk hs (Yj e).e0 a (Yj e).f (Yj e).t).freeze (Ybv _)
  obtain ⟨n,b,hv⟩:∃ n b,ansP (Yt h s (a.fx,a.fy,a.fz) (a.tx,a.ty,a.tz) []) = .tup [.agg [.isl 1 [],.isl 4 [],I n],Bo b]:=by
   cases hp:Yt h s (a.fx,a.fy,a.fz) (a.tx,a.ty,a.tz) [] with
   | none=>exact ⟨0,false,rfl⟩
   | some p =>
    have h1:=Zjl hp;have h2:=Zt2 hp;obtain ⟨ss,ps,sq⟩:=p;dsimp only at h1 h2;subst h1;obtain rfl:ps=[]:=Rt.1 (by simpa using h2);exact ⟨sq,true,rfl⟩
  show Zrk Tryz.prog 71 _ (ansP (Yt h s (a.fx,a.fy,a.fz) (a.tx,a.ty,a.tz) []))
  rw [hv] at hd ⊢
  refine ⟨hd.1,fun I w vs hI hv=>(hd.2 I w vs hI hv).mono fun e w' hh=>?_⟩
  obtain ⟨x,r',I',rfl,hp⟩:=hh
  refine ⟨x,fun _ _=>False,rfl,hp.below,fun b o h=>h.elim,?_⟩
  have hval:=hp.val
  cases hval with
  | tup _ _ vs h1 h2 =>
   refine .tup _ _ _ h1 fun i c v hc hx=>?_
   have:=h2 i c v hc hx
   match i with
   | 0 =>
    cases hc
    cases this with
    | agg _ _ vs h3 h4 =>
     refine .agg _ _ _ h3 fun i c v hc hx=>?_
     have:=h4 i c v hc hx
     match i with
     | 0=>cases hc; exact Zyi this _ _ _ _
     | 1=>cases hc; exact Zyi this _ _ _ _
     | 2=>cases hc; cases this; exact .int _ _ _
     | i+3=>simp at hc
   | 1=>cases hc; cases this; exact .bool _ _
   | i+2=>simp at hc
end Go.Proofs.YtfkdpbklbegnlaaGreat

namespace Go.Proofs.YtfkdpbklbegnlaaGreat
open Go Go.Sx
theorem d18 {h:Hal} (hk:h.ok) {s:Stg} (hs:s.few) (a:Ask):PCall Tryz.prog 11 [h.av,s.av,a.av] ⟨I (askE h s a),[]⟩:=by
 have hk0:=Zd (d90 hk) (Zd (c75 hk.f hs) Zc)
 by_cases e:serr h s=0
 ·have he:=Zgu e
  have e2:setE h s=0:=by unfold serr at e; rw [if_pos he] at e; exact e
  obtain ⟨fx,fy,fz,tx,ty,tz,n⟩:=a
  unfold askE
  rw [if_pos e]
  rw [he,e2] at hk0
  dsimp only
  have hk1:=Yif hk he (Zd (d68 n) hk0)
  have q1:=Zns h fx fy fz
  have q2:=Zns h tx ty tz
  simp only [fstL]
  refine pn hk1 Tryz.func11 ?_
  clear hk1 hk0
  repeat'(first|refine wk3 ?_|(refine wk2 ?_ ?_<;>intro _)|fail)
  all_goals first
   | (refine Za ?_; simp_all [Ask.same,unl]; done)
   | (refine Za ?_; clear q1 q2; cases hw:within n 0 4<;>by_cases c1:fx=tx<;>by_cases c2:fy=ty<;>by_cases c3:fz=tz<;>simp_all [Ask.same,unl]<;>done)
   | (exfalso; simp_all; done)
 ·rw [show askE h s a=serr h s by unfold askE; rw [if_neg e]]
  unfold serr at e ⊢
  refine pn hk0 Tryz.func11 ?_
  clear hk0
  repeat'(first|refine wk3 ?_|(refine wk2 ?_ ?_<;>intro _)|fail)
  all_goals first
   | (refine Za ?_; simp_all; done)
   | (exfalso; simp_all; done)
theorem Zxi (p:Pth):same p p=true:=same_iff.2 rfl
def chkP (h:Hal) (s:Stg) (a:Ask) (p:Pth):Int:=match Yt h s (qF a) (qT a) p.ss with
 | none=>20
 | some q=>if q.sq=p.sq/\eqP q.ps p.ps=true then 0 else 20
def cpE (h:Hal) (s:Stg) (a:Ask) (p:Pth):Int:=if pthE p=0 then (if suE h p.ss=0 then (if (p.ss.length:Int)<=a.n then chkP h s a p else 2) else suE h p.ss) else pthE p
def cmpI (a b:Int):Int:=if a<b then -1 else if b<a then 1 else 0
def cmpL:List Int->List Int->Int
 | [],[]=>0
 | [],_::_=>-1
 | _::_,[]=>1
 | x::a,y::b=>if cmpI x y=0 then cmpL a b else cmpI x y
def ordP (a b:Pth):Int:=fstL [cmpI a.sq b.sq,cmpI a.ss.length b.ss.length,cmpL a.ss b.ss]
theorem Yks (n:Int):PCall Tryz.prog 189 [I n] ⟨Bo false,[]⟩:=by
 refine pn Zc Tryz.func189 ?_
 repeat'(first|refine wk3 ?_|(refine wk2 ?_ ?_<;>intro _)|fail)
 all_goals exact Zb (by simp)
def Yig:List AV->Option PRes
 | [.int .i64 _]=>some ⟨Bo false,[]⟩
 | _=>none
theorem Yby {pt:PC} (h:PCOK Tryz.prog pt):PCOK Tryz.prog (ins 189 Yig pt):=Zh (fun a res h=>by unfold Yig at h; split at h<;>cases h; exact Yks _) h
theorem d147 (a b:Int):PCall Tryz.prog 119 [I a,I b] ⟨I (cmpI a b),[]⟩:=by
 have key:cmpI a b=cond (decide (a<b)) (-1) (cond (decide (b<a)) 1 0):=by
  unfold cmpI
  by_cases c1:a<b
  ·simp [c1]
  ·by_cases c2:b<a<;>simp [c1,c2]
 rw [key]
 refine pn (Yby Zc) Tryz.func119 ?_
 repeat'(first|refine wk3 ?_|(refine wk2 ?_ ?_<;>intro _)|fail)
 all_goals (refine Za ?_; clear key; generalize decide (a<b)=p at *; generalize decide (b<a)=q at *; simp_all)
def r147:List AV->Option PRes
 | [.int .i64 a,.int .i64 b]=>some ⟨I (cmpI a b),[]⟩
 | _=>none
theorem Zxs {pt:PC} (h:PCOK Tryz.prog pt):PCOK Tryz.prog (ins 119 r147 pt):=Zh (fun a res h=>by unfold r147 at h; split at h<;>cases h; exact d147 _ _) h
theorem d148 {a b:List Int} (ha:a.length<1000000) (hb:b.length<1000000):PCall Tryz.prog 120 [.isl 1 (nl a),.isl 1 (nl b)] ⟨I (cmpL a b),[]⟩:=by
 have la:=Zk a
 have lb:=Zk b
 have hk:=Zxs Zc
 refine pn hk Tryz.func120 ?_
 repeat'(first|refine wk3 ?_|(refine wk2 ?_ ?_<;>intro _)|fail)
 refine Zr (S:=Nat × Int) (fun t=>a.length-t.1) (fun t=>[(0,.isl 1 (nl a)),(1,.isl 1 (nl b)),(9,.isl 1 (nl a)),(10,I (nl a).length),(11,I t.2)]) (fun _=>[]) 0 0
  (fun t=>t.2=t.1/\t.1<=a.length/\t.1<=b.length/\cmpL (a.drop t.1) (b.drop t.1)=cmpL a b) (0,0) ⟨rfl,Qn _,Qn _,rfl⟩ (Qd _) [] rfl (kps) (kps) ?_
 rintro ⟨k,i⟩ ⟨hi,h1,h2,hh⟩
 dsimp only at hi h1 h2 hh ⊢
 subst hi
 generalize cmpL a b=R at *
 refine bs.av (sx:=nos) hk ?_
 by_cases c1:k<a.length
 ·have e1:=Xx c1
  by_cases c2:k<b.length
  ·have e2:=Xx c2
   rw [Qi c1,Qi c2,cmpL] at hh;generalize a[k]=x at *;generalize b[k]=y at *;generalize hz:cmpI x y=z at *;have hz2:r147 [I x,I y]=some ⟨I z,[]⟩:=by rw [<-hz]; rfl
   by_cases c3:z=0
   ·rw [if_pos c3] at hh
    repeat'(first|refine wk3 ?_|(refine wk2 ?_ ?_<;>intro _)|fail)
    all_goals first
     | (exfalso; clear hk; simp_all; done)
     | exact Ql ⟨(k+1,_),[],rfl,kps,kps,⟨Zg (by omega),c1,c2,hh⟩,by dsimp only; omega⟩
   ·rw [if_neg c3] at hh
    subst hh
    repeat'(first|refine wk3 ?_|(refine wk2 ?_ ?_<;>intro _)|fail)
    all_goals first
     | exact Za (by assumption)
     | exact Za rfl
     | (exfalso; clear hk; simp_all; done)
  ·rw [Qi c1,show b.drop k=[] from Qk (by omega),cmpL] at hh
   subst hh
   repeat'(first|refine wk3 ?_|(refine wk2 ?_ ?_<;>intro _)|fail)
   exact Za rfl
 ·rw [show a.drop k=[] from Qk (by omega)] at hh
  by_cases c2:k<b.length
  ·rw [Qi c2,cmpL] at hh
   subst hh
   repeat'(first|refine wk3 ?_|(refine wk2 ?_ ?_<;>intro _)|fail)
   exact Za rfl
  ·rw [Qk (by omega),cmpL] at hh
   subst hh
   repeat'(first|refine wk3 ?_|(refine wk2 ?_ ?_<;>intro _)|fail)
   exact Za rfl
noncomputable abbrev r148:List AV->Option PRes:=famA (fun q:List Int × List Int=>q.1.length<1000000/\q.2.length<1000000) (fun q=>[.isl 1 (nl q.1),.isl 1 (nl q.2)]) (fun q=>⟨I (cmpL q.1 q.2),[]⟩)
theorem Yfs {pt:PC} (hp:PCOK Tryz.prog pt):PCOK Tryz.prog (ins 120 r148 pt):=Zo (fun q hq=>d148 hq.1 hq.2) hp
theorem Yb0 {a b:List Int} (h1:a.length<1000000) (h2:b.length<1000000):r148 [.isl 1 (nl a),.isl 1 (nl b)]=some ⟨I (cmpL a b),[]⟩ :=
 Zm (p:=fun q:List Int × List Int=>q.1.length<1000000/\q.2.length<1000000) (g:=fun q=>[.isl 1 (nl q.1),.isl 1 (nl q.2)]) (r:=fun q=>⟨I (cmpL q.1 q.2),[]⟩) (k:=(a,b)) (fun j hj=>by
  simp only [Qs,Na,true_and,and_true] at hj
  rw [Zi3 hj.1,Zi3 hj.2]) ⟨h1,h2⟩
theorem d146 {l:List Int} (hl:l.length<1000):PCall Tryz.prog 118 [.isl 1 (nl l)] ⟨I (fstL l),[]⟩:=by
 have ll:=Zk l
 refine pn Zc Tryz.func118 ?_
 repeat'(first|refine wk3 ?_|(refine wk2 ?_ ?_<;>intro _)|fail)
 refine Zr (S:=Nat × Int) (fun t=>l.length-t.1) (fun t=>[(3,I 0),(6,.isl 1 (nl l)),(7,I (nl l).length),(8,I t.2)]) (fun _=>[]) 0 0
  (fun t=>t.2=t.1/\t.1<=l.length/\fstL (l.drop t.1)=fstL l) (0,0) ⟨rfl,Qn _,rfl⟩ (Qd _) [] rfl (kps) (kps) ?_
 rintro ⟨k,i⟩ ⟨hi,hk,hh⟩
 dsimp only at hi hk hh ⊢
 subst hi
 generalize fstL l=R at *
 refine bs.av (sx:=nos) Zc ?_
 by_cases hlt:k<l.length
 ·have e1:=Xx hlt
  rw [Qi hlt,fstL] at hh
  generalize l[k]=x at *
  by_cases c:x=0
  ·rw [if_neg (fun q=>q c)] at hh
   repeat'(first|refine wk3 ?_|(refine wk2 ?_ ?_<;>intro _)|fail)
   all_goals first
    | (exfalso; simp_all; done)
    | exact Ql ⟨(k+1,_),[],rfl,kps,kps,⟨Zg (by omega),hlt,hh⟩,by dsimp only; omega⟩
  ·rw [if_pos c] at hh
   subst hh
   repeat'(first|refine wk3 ?_|(refine wk2 ?_ ?_<;>intro _)|fail)
   all_goals first
    | exact Za rfl
    | (exfalso; simp_all; done)
 ·rw [Qk (by omega),fstL] at hh
  subst hh
  repeat'(first|refine wk3 ?_|(refine wk2 ?_ ?_<;>intro _)|fail)
  exact Za rfl
noncomputable abbrev rOr:List AV->Option PRes:=famA (fun l:List Int=>l.length<1000) (fun l=>[.isl 1 (nl l)]) (fun l=>⟨I (fstL l),[]⟩)
theorem Yh0 {pt:PC} (hp:PCOK Tryz.prog pt):PCOK Tryz.prog (ins 118 rOr pt):=Zo (fun l hl=>d146 hl) hp
theorem Yfj {l:List Int} (h:l.length<1000):rOr [.isl 1 (nl l)]=some ⟨I (fstL l),[]⟩ :=
 Zm (p:=fun l:List Int=>l.length<1000) (g:=fun l=>[.isl 1 (nl l)]) (r:=fun l=>⟨I (fstL l),[]⟩) (fun j hj=>by
  simp only [Qs,Na,true_and,and_true] at hj
  rw [Zi3 hj]) h
theorem d115 {a b:Pth} (ha:a.ss.length<1000000) (hb:b.ss.length<1000000):PCall Tryz.prog 73 [a.av,b.av] ⟨I (ordP a b),[]⟩:=by
 obtain ⟨s1,p1,q1⟩:=a
 obtain ⟨s2,p2,q2⟩:=b
 dsimp only at ha hb
 have l1:=Zk s1
 have l2:=Zk s2
 have e1:=Yb0 ha hb
 have e2:=Yfj (l:=[cmpI q1 q2,cmpI ((nl s1).length:Int) ((nl s2).length:Int),cmpL s1 s2]) (by simp)
 unfold ordP
 dsimp only
 rw [<-l1,<-l2]
 refine pn (Zxs (Yfs (Yh0 Zc))) Tryz.func73 ?_
 repeat'(first|refine wk3 ?_|(refine wk2 ?_ ?_<;>intro _)|fail)
 exact Za rfl
theorem Xm (a b:Int):(a<b/\cmpI a b = -1)\/(a=b/\cmpI a b=0)\/(b<a/\cmpI a b=1):=by
 unfold cmpI
 split
 ·exact .inl ⟨‹_›,rfl⟩
 ·split
  ·exact .inr (.inr ⟨‹_›,rfl⟩)
  ·exact .inr (.inl ⟨by omega,rfl⟩)
theorem Zq4:∀ a:List Int,cmpL a a=0
 | []=>rfl
 | x::a=>by
  have:cmpI x x=0:=by rcases Xm x x with h|h|h<;>omega
  rw [cmpL,if_pos this,Zq4 a]
theorem Zq5:∀ a b:List Int,cmpL b a = -cmpL a b
 | [],[]=>rfl
 | [],_::_=>rfl
 | _::_,[]=>rfl
 | x::a,y::b=>by
  rw [cmpL,cmpL,Zq5 a b]
  rcases Xm x y with h|h|h<;>rcases Xm y x with k|k|k<;>rw [h.2,k.2]<;>first|rfl|omega
theorem Zq3:∀ {a b:List Int},cmpL a b=0->a=b
 | [],[],_=>rfl
 | [],_::_,h=>by cases h
 | _::_,[],h=>by cases h
 | x::a,y::b,h=>by
  rw [cmpL] at h
  rcases Xm x y with k|k|k
  ·rw [k.2] at h; simp at h
  ·rw [k.2] at h; rw [k.1,Zq3 (a:=a) (b:=b) (by simpa using h)]
  ·rw [k.2] at h; simp at h
theorem Zm9:∀ {a b c:List Int},cmpL a b<=0->cmpL b c<=0->cmpL a c<=0
 | [],_,[],_,_=>by simp [cmpL]
 | [],_,_::_,_,_=>by simp [cmpL]
 | x::a,[],c,h,_=>by simp [cmpL] at h
 | x::a,y::b,[],_,h=>by simp [cmpL] at h
 | x::a,y::b,z::c,h1,h2=>by
  rw [cmpL] at h1 h2 ⊢
  rcases Xm x y with k|k|k<;>rcases Xm y z with m|m|m<;>rcases Xm x z with n|n|n<;>rw [k.2] at h1<;>rw [m.2] at h2<;>rw [n.2]
  all_goals simp at h1 h2 ⊢
  all_goals first
   | omega
   | exact Zm9 h1 h2
abbrev ordK (p:Pth):List Int:=p.sq::(p.ss.length:Int)::p.ss
theorem Zdg (a b:Pth):ordP a b=cmpL (ordK a) (ordK b):=by
 unfold ordP ordK
 simp only [fstL,cmpL]
 by_cases c1:cmpI a.sq b.sq=0<;>by_cases c2:cmpI a.ss.length b.ss.length=0<;>by_cases c3:cmpL a.ss b.ss=0<;>simp [c1,c2,c3]
theorem Zx0 (a:Pth):ordP a a=0:=by rw [Zdg,Zq4]
theorem Zbk (a b:Pth):ordP b a = -ordP a b:=by rw [Zdg,Zdg,Zq5]
theorem Ze6 {a b c:Pth} (h1:ordP a b<=0) (h2:ordP b c<=0):ordP a c<=0:=by rw [Zdg] at *; exact Zm9 h1 h2
theorem Zph {a b:Pth} (h:ordP a b=0):a.sq=b.sq/\a.ss=b.ss:=by
 rw [Zdg] at h
 have:=Zq3 h
 simp only [ordK,Qs] at this
 exact ⟨this.1,this.2.2⟩
theorem Yb8:Go.Sort.SWO (Go.Proofs.ltOf ordP):=by
 refine ⟨fun x=>?_,fun x y z h1 h2=>?_,fun x y z h1 h2=>?_⟩
 ·simp [ltOf,Zx0]
 ·simp only [ltOf,decide_eq_true_eq] at *
  have h:=Ze6 (Qu h1) (Qu h2)
  rcases Int.lt_or_eq_of_le h with h|h
  ·exact h
  ·obtain ⟨e1,e2⟩:=Zph h
   have:ordP x y=ordP z y:=by rw [Zdg,Zdg]; unfold ordK; rw [e1,e2]
   have:=Zbk y z;omega
 ·simp only [ltOf,decide_eq_false_iff_not,Int.not_lt] at *
  have a1:=Zbk x y
  have a2:=Zbk y z
  have a3:=Zbk x z
  have:=Ze6 (a:=z) (b:=y) (c:=x) (by omega) (by omega)
  omega
theorem Zox {G:Pth->Prop} (hG:∀ a b,G a->G b->a.ss=b.ss->a=b):∀ {l m:List Pth},l.Perm m->(∀ a∈l,G a)->l.Pairwise (fun a b=>ordP a b<=0)->m.Pairwise (fun a b=>ordP a b<=0)->l=m
 | [],m,hp,_,_,_=>by rw [List.nil_perm.1 hp]
 | a::l,[],hp,_,_,_=>by have:=hp.length_eq; simp at this
 | a::l,b::m,hp,hg,h1,h2=>by
  have hab:a=b:=by
   by_cases c:a=b
   ·exact c
   ·have hb:b∈a::l:=hp.symm.subset (by simp)
    have ha:a∈b::m:=hp.subset (by simp);rw [Rb] at ha hb;have q1:=(Wk.1 h1).1 b (by rcases hb with h|h; exact absurd h.symm c; exact h);have q2:=(Wk.1 h2).1 a (by rcases ha with h|h; exact absurd h c; exact h);have q3:=Zbk a b;have q4:=Zph (a:=a) (b:=b) (by omega);exact hG a b (hg a (by simp)) (hg b (hp.symm.subset (by simp))) q4.2
  subst hab
  rw [Zox hG (List.perm_cons a |>.1 hp) (fun x hx=>hg x (by simp [hx])) (Wk.1 h1).2 (Wk.1 h2).2]
def putM (p:Pth) (l:List Pth):Nat->Nat
 | 0=>0
 | m+1=>match l[m]? with
  | some x=>if ordP p x<0 then putM p l m else m+1
  | none=>m+1
def putL (l:List Pth) (p:Pth):List Pth:=l.take (putM p l l.length)++p::l.drop (putM p l l.length)
theorem Zxv (p:Pth) (l:List Pth):∀ m,putM p l m<=m
 | 0=>Qd _
 | m+1=>by
  rw [putM]
  split
  ·split
   ·exact Qt (Zxv p l m) (Nat.le_succ _)
   ·exact Qd _
  ·exact Qd _
theorem Zcl (l:List Pth) (p:Pth):(putL l p).Perm (p::l):=by
 unfold putL
 refine List.perm_middle.trans ?_
 rw [List.take_append_drop]
theorem Zpd (p:Pth) (l:List Pth):∀ m,m<=l.length->(∀ j (h:j<l.length),putM p l m<=j->j<m->ordP p l[j]<0)/\(∀ j (h:j<l.length),j+1=putM p l m -> ¬ ordP p l[j]<0)
 | 0,_=>⟨fun j h h1 h2=>by omega,fun j h h1=>by simp [putM] at h1⟩
 | m+1,hm=>by
  have hml:m<l.length:=by omega
  rw [putM,List.getElem?_eq_getElem hml]
  dsimp only
  by_cases c:ordP p l[m]<0
  ·rw [if_pos c]
   obtain ⟨q1,q2⟩:=Zpd p l m (by omega);refine ⟨fun j h h1 h2=>?_,q2⟩
   by_cases e:j=m
   ·subst e; exact c
   ·exact q1 j h h1 (by omega)
  ·rw [if_neg c]
   refine ⟨fun j h h1 h2=>by omega,fun j h h1=>?_⟩;have:j=m:=by omega
   subst this; exact c
theorem Zr6 {l:List Pth} {p:Pth} (hs:l.Pairwise (fun a b=>ordP a b<=0)):(putL l p).Pairwise (fun a b=>ordP a b<=0):=by
 have hle:=Zxv p l l.length
 obtain ⟨q1,q2⟩:=Zpd p l l.length (Qd _)
 unfold putL
 generalize putM p l l.length=m at *
 rw [List.pairwise_append]
 have hgt:∀ x∈l.drop m,ordP p x<=0:=fun x hx=>by
  obtain ⟨i,hi,rfl⟩:=Oz.1 hx
  rw [List.length_drop] at hi
  rw [List.getElem_drop]
  exact Qu (q1 (m+i) (by omega) (by omega) (by omega))
 have hlt:∀ x∈l.take m,ordP x p<=0:=fun x hx=>by
  obtain ⟨i,hi,rfl⟩:=Oz.1 hx
  rw [List.length_take] at hi
  rw [List.getElem_take]
  have h1:=q2 (m-1) (by omega) (by omega)
  have h2:=Zbk (l[m-1]'(by omega)) p
  have h3:ordP (l[m-1]'(by omega)) p<=0:=by omega
  by_cases e:i=m-1
  ·subst e; exact h3
  ·exact Ze6 (List.pairwise_iff_getElem.1 hs i (m-1) (by omega) (by omega) (by omega)) h3
 refine ⟨hs.sublist (List.take_sublist _ _),?_,fun a ha b hb=>?_⟩
 ·rw [Wk]
  exact ⟨hgt,hs.sublist (List.drop_sublist _ _)⟩
 ·rcases Rb.1 hb with rfl|hb
  ·exact hlt a ha
  ·exact Ze6 (hlt a ha) (hgt b hb)
theorem Ykr {a b:List Int} (ha:a.length<1000000) (hb:b.length<1000000):PCall Tryz.prog 213 [.isl 1 (nl a),.isl 1 (nl b)] ⟨Bo (decide (cmpL a b<0)),[]⟩:=by
 have la:=Zk a
 have lb:=Zk b
 refine pn Zc Tryz.func213 ?_
 repeat'(first|refine wk3 ?_|(refine wk2 ?_ ?_<;>intro _)|fail)
 refine Zr (S:=Nat × Int) (fun t=>a.length-t.1) (fun t=>[(0,.isl 1 (nl a)),(1,.isl 1 (nl b)),(5,I t.2)]) (fun _=>[]) 0 0
  (fun t=>t.2=t.1/\t.1<=a.length/\t.1<=b.length/\cmpL (a.drop t.1) (b.drop t.1)=cmpL a b) (0,0) ⟨rfl,Qn _,Qn _,rfl⟩ (Qd _) [] rfl (kps) (kps) ?_
 rintro ⟨k,i⟩ ⟨hi,h1,h2,hh⟩
 dsimp only at hi h1 h2 hh ⊢
 subst hi
 generalize cmpL a b=R at *
 refine bs.av (sx:=nos) Zc ?_
 by_cases c1:k<a.length
 ·have e1:=Xx c1
  by_cases c2:k<b.length
  ·have e2:=Xx c2
   rw [Qi c1,Qi c2,cmpL] at hh;generalize a[k]=x at *;generalize b[k]=y at *
   rcases Xm x y with ⟨h,e⟩|⟨h,e⟩|⟨h,e⟩
   ·rw [e,if_neg (by simp)] at hh
    subst hh
    repeat'(first|refine wk3 ?_|(refine wk2 ?_ ?_<;>intro _)|fail)
    all_goals first
     | exact Zb (by rw [decide_eq_true h]; rfl)
     | (exfalso; simp_all; done)
   ·rw [e,if_pos rfl] at hh
    subst h
    repeat'(first|refine wk3 ?_|(refine wk2 ?_ ?_<;>intro _)|fail)
    all_goals first
     | (exfalso; simp_all; done)
     | exact Ql ⟨(k+1,_),[],rfl,kps,kps,⟨Zg (by omega),c1,c2,hh⟩,by dsimp only; omega⟩
   ·rw [e,if_neg (by simp)] at hh
    subst hh
    repeat'(first|refine wk3 ?_|(refine wk2 ?_ ?_<;>intro _)|fail)
    all_goals first
     | exact Zb (by rw [decide_eq_false (by omega)]; rfl)
     | (exfalso; simp_all; done)
  ·rw [Qi c1,show b.drop k=[] from Qk (by omega),cmpL] at hh
   subst hh
   repeat'(first|refine wk3 ?_|(refine wk2 ?_ ?_<;>intro _)|fail)
   all_goals first
    | exact Zb (by rw [decide_eq_false (by omega)]; rfl)
    | (exfalso; simp_all; done)
 ·rw [show a.drop k=[] from Qk (by omega)] at hh
  by_cases c2:k<b.length
  ·rw [Qi c2,cmpL] at hh
   subst hh
   repeat'(first|refine wk3 ?_|(refine wk2 ?_ ?_<;>intro _)|fail)
   all_goals first
    | exact Zb (by rw [decide_eq_true (by omega)]; rfl)
    | (exfalso; simp_all; done)
  ·rw [show b.drop k=[] from Qk (by omega),cmpL] at hh
   subst hh
   repeat'(first|refine wk3 ?_|(refine wk2 ?_ ?_<;>intro _)|fail)
   all_goals first
    | exact Zb (by rw [decide_eq_false (by omega)]; rfl)
    | (exfalso; simp_all; done)
theorem d149 {a b:Pth} (ha:a.ss.length<1000000) (hb:b.ss.length<1000000):PCall Tryz.prog 138 [a.av,b.av] ⟨Bo (decide (ordP a b<0)),[]⟩:=by
 have h1:=Ykr ha hb
 rw [Zdg]
 obtain ⟨s1,p1,q1⟩:=a
 obtain ⟨s2,p2,q2⟩:=b
 dsimp only at ha hb h1
 unfold ordK
 dsimp only
 rw [cmpL,cmpL]
 have l1:=Zk s1
 have l2:=Zk s2
 have hk:=Zb9 h1 Zc
 have o1:=Zai [.isl 1 (nl s1),.isl 1 (nl s2)] ⟨Bo (decide (cmpL s1 s2<0)),[]⟩
 generalize cmpL s1 s2=c at *
 rcases Xm q1 q2 with ⟨h,e⟩|⟨h,e⟩|⟨h,e⟩
 ·rw [e,if_neg (by simp)]
  refine pn hk Tryz.func138 ?_
  repeat'(first|refine wk3 ?_|(refine wk2 ?_ ?_<;>intro _)|fail)
  all_goals first
   | (refine Zb ?_; rw [Rz]; simp only [decide_eq_true_eq]; omega)
   | (exfalso; clear hk o1; simp_all; done)
   | (exfalso; clear hk o1; simp_all; omega)
 ·subst h
  rw [e,if_pos rfl]
  rcases Xm (s1.length:Int) (s2.length:Int) with ⟨h,e⟩|⟨h,e⟩|⟨h,e⟩
  ·rw [e,if_neg (by simp)]
   refine pn hk Tryz.func138 ?_
   repeat'(first|refine wk3 ?_|(refine wk2 ?_ ?_<;>intro _)|fail)
   all_goals first
    | (refine Zb ?_; rw [Rz]; simp only [decide_eq_true_eq]; omega)
    | (exfalso; clear hk o1; simp_all; done)
    | (exfalso; clear hk o1; simp_all; omega)
  ·rw [e,if_pos rfl]
   refine pn hk Tryz.func138 ?_
   repeat'(first|refine wk3 ?_|(refine wk2 ?_ ?_<;>intro _)|fail)
   all_goals first
    | exact Zb rfl
    | (exfalso; clear hk o1; simp_all; done)
    | (exfalso; clear hk o1; simp_all; omega)
  ·rw [e,if_neg (by simp)]
   refine pn hk Tryz.func138 ?_
   repeat'(first|refine wk3 ?_|(refine wk2 ?_ ?_<;>intro _)|fail)
   all_goals first
    | (refine Zb ?_; rw [Rz]; simp only [decide_eq_true_eq]; omega)
    | (exfalso; clear hk o1; simp_all; done)
    | (exfalso; clear hk o1; simp_all; omega)
 ·rw [e,if_neg (by simp)]
  refine pn hk Tryz.func138 ?_
  repeat'(first|refine wk3 ?_|(refine wk2 ?_ ?_<;>intro _)|fail)
  all_goals first
   | (refine Zb ?_; rw [Rz]; simp only [decide_eq_true_eq]; omega)
   | (exfalso; clear hk o1; simp_all; done)
   | (exfalso; clear hk o1; simp_all; omega)
noncomputable abbrev r149:List AV->Option PRes:=famA (fun q:Pth × Pth=>q.1.ss.length<1000000/\q.2.ss.length<1000000) (fun q=>[q.1.av,q.2.av]) (fun q=>⟨Bo (decide (ordP q.1 q.2<0)),[]⟩)
theorem Zia {pt:PC} (hp:PCOK Tryz.prog pt):PCOK Tryz.prog (ins 138 r149 pt):=Zo (fun q hq=>d149 hq.1 hq.2) hp
theorem Ybz {a b:Pth} (h1:a.ss.length<1000000) (h2:b.ss.length<1000000):r149 [a.av,b.av]=some ⟨Bo (decide (ordP a b<0)),[]⟩ :=
 Zm (p:=fun q:Pth × Pth=>q.1.ss.length<1000000/\q.2.ss.length<1000000) (g:=fun q=>[q.1.av,q.2.av]) (r:=fun q=>⟨Bo (decide (ordP q.1 q.2<0)),[]⟩) (k:=(a,b)) (fun j hj=>by
  simp only [Qs,and_true] at hj
  rw [Zkl hj.1,Zkl hj.2]) ⟨h1,h2⟩
def rngI (k n:Nat):List Int:=(List.range' k (n-k)).map fun (i:Nat)=>(i:Int)
theorem Zeh {k n:Nat} (h:k<n):rngI k n=(k:Int)::rngI (k+1) n:=by
 unfold rngI
 rw [show n-k=(n-(k+1))+1 by omega,List.range'_succ]
 rfl
theorem Zgx {k n:Nat} (h:n<=k):rngI k n=[]:=by
 unfold rngI
 rw [show n-k=0 by omega]
 rfl
def wlk (n:Nat):Nat->List Int->List (List Int)
 | 0,L=>[L]
 | o+1,L=>L::(rngI 0 n).flatMap fun i=>if L.getLast?=some i then [] else wlk n o (L++[i])
def nl1 (ns:List Int):List (List AV):=ns.map fun n=>[I n]
abbrev lsX (l:List (List Int)):List (List AV):=l.map fun L=>[.isl 1 (nl1 L)]
def Xr:FuncId->Bool:=fun f=>Nat.beq f 110
theorem Ygl (n:Nat) (hn:n<1000):Zrl Tryz.prog 109 [] [.ipt [I 0],.ipt [I (n:Int)]] (lsX (wlk n 0 [])):=by
 refine bs.titer (sx:=Xr) Zc Tryz.func109 (by kernel_rfl) rfl (by kernel_rfl) fun B Ig l JX hI=>?_
 conv=>whnf
 refine bs.ysv (sx:=Xr) Zc hI Tryz.func110 (by kernel_rfl) rfl (by kernel_rfl) ?_
 conv=>whnf
 refine Gu ⟨rfl,rfl,⟨_,_,rfl,.inr ⟨rfl,_,rfl⟩,trivial⟩,(fun h=>by cases h),?_,?_⟩
 ·repeat'(first|refine wk3 ?_|(refine wk2 ?_ ?_<;>intro _)|fail)
  exact Ql (.inl rfl)
 ·repeat'(first|refine wk3 ?_|(refine wk2 ?_ ?_<;>intro _)|fail)
  exact Ql (.inr rfl)
def w1Z (l:Nat) (f:AV):Nat->List (List AV)->List (Nat × ABlk)
 | 0,_=>[(2,.row 1 [[f]] true false),(1,.row 1 [[.nils]] true false),(0,.row 1 [[.yld l]] true false)]
 | _+1,A=>[(3,.row 1 A true true),(2,.row 1 [[f]] true false),(1,.row 1 [[.asl 3 0 0]] true false),(0,.row 1 [[.yld l]] true false)]
theorem Ygk (n:Nat) (hn:n<1000):Zrl Tryz.prog 109 [] [.ipt [I 1],.ipt [I (n:Int)]] (lsX (wlk n 1 [])):=by
 refine bs.titer (sx:=Xr) Zc Tryz.func109 (by kernel_rfl) rfl (by kernel_rfl) fun B Ig l JX hI=>?_
 conv=>whnf
 refine bs.ysv (sx:=Xr) Zc hI Tryz.func110 (by kernel_rfl) rfl (by kernel_rfl) ?_
 conv=>whnf
 refine Gu ⟨rfl,rfl,⟨_,_,rfl,.inr ⟨rfl,_,rfl⟩,trivial⟩,(fun h=>by cases h),?_,?_⟩
 ·conv=>whnf
  refine Zx9 (S:=Nat × Int × Nat × List (List AV)) (fun t=>n-t.1) (fun t=>[(0,.ptr 0 0 0),(1,.ptr 1 0 0),(2,.ipt [I 1]),(3,.ipt [I (n:Int)]),(4,.ptr 2 0 0),(15,I (n:Int)),(16,I t.2.1)]) (fun t=>w1Z l (.func 110 [] [.ptr 0 0 0,.ptr 1 0 0,.ipt [I 1],.ipt [I (n:Int)],.ptr 2 0 0]) t.2.2.1 t.2.2.2)
   (fun t=>some (lsX ((rngI t.1 n).flatMap fun i=>wlk n 0 [i]))) 3 (fun t=>match t.2.2.1 with
   | 0=>3
   | _=>4) (fun t=>t.2.1=t.1/\t.1<=n/\(t.2.2.1≠0->∃ c,t.2.2.2=[[c]])) (0,0,0,[]) ⟨rfl,Qn _,fun h=>absurd rfl h⟩ (Qd _) rfl [] rfl (kps) (kps) ?_
  rintro ⟨k,i,m,A⟩ ⟨hi,hk,hA⟩
  dsimp only at hi hk hA
  subst hi
  by_cases hlt:k<n
  ·have hw:Qa Qb ((k:Int)+1)=((k+1:Nat):Int):=W_eq (by omega) (by omega)
   dsimp only;rw [Zeh hlt]
   cases m with
   | zero =>
    refine bs.yv Zc hI (sx:=Xr) ?_
    repeat'(first|refine wk3 ?_|(refine wk2 ?_ ?_<;>intro _)|fail)
    refine bs.ysv (sx:=Xr) Zc hI Tryz.func110 (by kernel_rfl) rfl (by kernel_rfl) ?_;conv=>whnf
    refine Gu ⟨rfl,rfl,.same rfl,(fun h=>by cases h),?_,?_⟩
    ·conv=>whnf
     repeat'(first|refine wk3 ?_|(refine wk2 ?_ ?_<;>intro _)|fail)
     exact Ql ⟨(k+1,Qa Qb ((k:Int)+1),1,[[I k]]),[(3,4)],rfl,kps,kps,rfl,⟨hw,by omega,fun _=>⟨_,rfl⟩⟩,by dsimp only; omega⟩
    ·repeat'(first|refine wk3 ?_|(refine wk2 ?_ ?_<;>intro _)|fail)
     exact Ql (.inr rfl)
   | succ m =>
    obtain ⟨c,rfl⟩:=hA (by simp);have hfit:=Hw;refine bs.yv Zc hI (sx:=Xr) ?_
    repeat'(first|refine wk3 ?_|(refine wk2 ?_ ?_<;>intro _)|fail)
    refine bs.ysv (sx:=Xr) Zc hI Tryz.func110 (by kernel_rfl) rfl (by kernel_rfl) ?_;conv=>whnf
    refine Gu ⟨rfl,rfl,.same rfl,(fun h=>by cases h),?_,?_⟩
    ·conv=>whnf
     repeat'(first|refine wk3 ?_|(refine wk2 ?_ ?_<;>intro _)|fail)
     exact Ql ⟨(k+1,Qa Qb ((k:Int)+1),m+1,[[I k]]),[(3,3)],rfl,kps,kps,rfl,⟨hw,by omega,fun _=>⟨_,rfl⟩⟩,by dsimp only; omega⟩
    ·repeat'(first|refine wk3 ?_|(refine wk2 ?_ ?_<;>intro _)|fail)
     exact Ql (.inr rfl)
  ·dsimp only
   rw [Zgx (by omega)]
   cases m with
   | zero =>
    refine bs.yv Zc hI (sx:=Xr) ?_
    repeat'(first|refine wk3 ?_|(refine wk2 ?_ ?_<;>intro _)|fail)
    exact Ql (.inl rfl)
   | succ m =>
    refine bs.yv Zc hI (sx:=Xr) ?_
    repeat'(first|refine wk3 ?_|(refine wk2 ?_ ?_<;>intro _)|fail)
    exact Ql (.inl rfl)
 ·repeat'(first|refine wk3 ?_|(refine wk2 ?_ ?_<;>intro _)|fail)
  exact Ql (.inr rfl)
def w2Z (l:Nat) (f:AV) (a b:AV):Nat->List (Nat × ABlk)
 | 0=>[(2,.row 1 [[f]] true false),(1,.row 1 [[.nils]] true false),(0,.row 1 [[.yld l]] true false)]
 | 1=>[(3,.row 1 [[a]] true true),(2,.row 1 [[f]] true false),(1,.row 1 [[.asl 3 0 0]] true false),(0,.row 1 [[.yld l]] true false)]
 | _+2=>[(3,.row 1 [[a],[b]] true true),(2,.row 1 [[f]] true false),(1,.row 1 [[.asl 3 0 0]] true false),(0,.row 1 [[.yld l]] true false)]
abbrev fn2 (n:Nat):AV:=.func 110 [] [.ptr 0 0 0,.ptr 1 0 0,.ipt [I 2],.ipt [I (n:Int)],.ptr 2 0 0]
def w3Z (l:Nat) (f:AV) (a b:AV) (rI:Nat):Nat->List (Nat × ABlk)
 | 0=>[(rI,.row 1 [[a]] true true),(2,.row 1 [[f]] true false),(1,.row 1 [[.asl rI 0 1]] true false),(0,.row 1 [[.yld l]] true false)]
 | _+1=>[(5,.row 1 [[a],[b]] true true),(2,.row 1 [[f]] true false),(1,.row 1 [[.asl 5 0 1]] true false),(0,.row 1 [[.yld l]] true false)]
def w4Z (l:Nat) (f:AV) (a b:AV):List (Nat × ABlk):=[(3,.row 1 [[a],[b]] true true),(2,.row 1 [[f]] true false),(1,.row 1 [[.asl 3 0 1]] true false),(0,.row 1 [[.yld l]] true false)]
theorem wl2 (n k:Nat):wlk n 1 [(k:Int)]=[(k:Int)]::(rngI 0 n).flatMap fun j=>if (k:Int)=j then [] else [[(k:Int),j]]:=by
 simp [wlk]
theorem Ygj (n:Nat) (hn:n<1000):Zrl Tryz.prog 109 [] [.ipt [I 2],.ipt [I (n:Int)]] (lsX (wlk n 2 [])):=by
 refine bs.titer (sx:=Xr) Zc Tryz.func109 (by kernel_rfl) rfl (by kernel_rfl) fun B Ig l JX hI=>?_
 conv=>whnf
 refine bs.ysv (sx:=Xr) Zc hI Tryz.func110 (by kernel_rfl) rfl (by kernel_rfl) ?_
 conv=>whnf
 refine Gu ⟨rfl,rfl,⟨_,_,rfl,.inr ⟨rfl,_,rfl⟩,trivial⟩,(fun h=>by cases h),?_,?_⟩
 ·conv=>whnf
  refine Zx9 (S:=Nat × Int × Nat × AV × AV) (fun t=>n-t.1) (fun t=>[(0,.ptr 0 0 0),(1,.ptr 1 0 0),(2,.ipt [I 2]),(3,.ipt [I (n:Int)]),(4,.ptr 2 0 0),(15,I (n:Int)),(16,I t.2.1)]) (fun t=>w2Z l (fn2 n) t.2.2.2.1 t.2.2.2.2 t.2.2.1)
   (fun t=>some (lsX ((rngI t.1 n).flatMap fun i=>wlk n 1 [i]))) 3 (fun t=>match t.2.2.1 with
   | 0=>3
   | _=>4) (fun t=>t.2.1=t.1/\t.1<=n) (0,0,0,I 0,I 0) ⟨rfl,Qn _⟩ (Qd _) rfl [] rfl (kps) (kps) ?_
  rintro ⟨k,i,m,a,b⟩ ⟨hi,hk⟩
  dsimp only at hi hk
  subst hi
  by_cases hlt:k<n
  ·have hw:Qa Qb ((k:Int)+1)=((k+1:Nat):Int):=W_eq (by omega) (by omega)
   dsimp only;rw [Zeh hlt,Ta,wl2]
   rcases m with _|_|m
   ·refine bs.yv Zc hI (sx:=Xr) ?_
    repeat'(first|refine wk3 ?_|(refine wk2 ?_ ?_<;>intro _)|fail)
    refine bs.ysv (sx:=Xr) Zc hI Tryz.func110 (by kernel_rfl) rfl (by kernel_rfl) ?_;conv=>whnf
    refine Gu ⟨rfl,rfl,.same rfl,(fun h=>by cases h),?_,?_⟩
    ·conv=>whnf
     repeat'(first|refine wk3 ?_|(refine wk2 ?_ ?_<;>intro _)|fail)
     refine Zx9 (S:=Nat × Int × Nat × AV) (fun t=>n-t.1) (fun t=>[(0,.ptr 0 0 0),(1,.ptr 1 0 0),(2,.ipt [I 2]),(3,.ipt [I (n:Int)]),(4,.ptr 2 0 0),(15,I (n:Int)),(16,I t.2.1)]) (fun t=>w3Z l (fn2 n) (I k) t.2.2.2 4 t.2.2.1)
      (fun t=>some (lsX (((rngI t.1 n).flatMap fun j=>if (k:Int)=j then [] else [[(k:Int),j]])++(rngI (k+1) n).flatMap fun i=>wlk n 1 [i]))) 5 (fun t=>match t.2.2.1 with
       | 0=>5
       | _=>6) (fun t=>t.2.1=t.1/\t.1<=n) (0,0,0,I 0) ⟨rfl,Qn _⟩ (Qd _) rfl [] rfl (kps) (kps) ?_
     rintro ⟨j,i,q,b'⟩ ⟨hi,hj⟩;dsimp only at hi hj;subst hi
     by_cases hl2:j<n
     ·have hw2:Qa Qb ((j:Int)+1)=((j+1:Nat):Int):=W_eq (by omega) (by omega)
      dsimp only;rw [Zeh hl2,Ta]
      by_cases hkj:(k:Int)=(j:Int)
      ·rw [if_pos hkj,Wy]
       rcases q with _|q
       ·refine bs.yv Zc hI (sx:=Xr) ?_
        repeat'(first|refine wk3 ?_|(refine wk2 ?_ ?_<;>intro _)|fail)
        exact Ql ⟨(j+1,Qa Qb ((j:Int)+1),0,b'),[],rfl,kps,kps,rfl,⟨hw2,by omega⟩,by dsimp only; omega⟩
       ·refine bs.yv Zc hI (sx:=Xr) ?_
        repeat'(first|refine wk3 ?_|(refine wk2 ?_ ?_<;>intro _)|fail)
        exact Ql ⟨(j+1,Qa Qb ((j:Int)+1),q+1,b'),[(5,5)],rfl,kps,kps,rfl,⟨hw2,by omega⟩,by dsimp only; omega⟩
      ·rw [if_neg hkj]
       rcases q with _|q
       ·refine bs.yv Zc hI (sx:=Xr) ?_
        repeat'(first|refine wk3 ?_|(refine wk2 ?_ ?_<;>intro _)|fail)
        refine bs.ysv (sx:=Xr) Zc hI Tryz.func110 (by kernel_rfl) rfl (by kernel_rfl) ?_;conv=>whnf
        refine Gu ⟨rfl,rfl,.same rfl,(fun h=>by cases h),?_,?_⟩
        ·conv=>whnf
         repeat'(first|refine wk3 ?_|(refine wk2 ?_ ?_<;>intro _)|fail)
         exact Ql ⟨(j+1,Qa Qb ((j:Int)+1),1,I j),[(5,6)],rfl,kps,kps,rfl,⟨hw2,by omega⟩,by dsimp only; omega⟩
        ·repeat'(first|refine wk3 ?_|(refine wk2 ?_ ?_<;>intro _)|fail)
         exact Ql (.inr rfl)
       ·have hfit:=Hw
        refine bs.yv Zc hI (sx:=Xr) ?_
        repeat'(first|refine wk3 ?_|(refine wk2 ?_ ?_<;>intro _)|fail)
        refine bs.ysv (sx:=Xr) Zc hI Tryz.func110 (by kernel_rfl) rfl (by kernel_rfl) ?_;conv=>whnf
        refine Gu ⟨rfl,rfl,.same rfl,(fun h=>by cases h),?_,?_⟩
        ·conv=>whnf
         repeat'(first|refine wk3 ?_|(refine wk2 ?_ ?_<;>intro _)|fail)
         exact Ql ⟨(j+1,Qa Qb ((j:Int)+1),q+1,I j),[(5,5)],rfl,kps,kps,rfl,⟨hw2,by omega⟩,by dsimp only; omega⟩
        ·repeat'(first|refine wk3 ?_|(refine wk2 ?_ ?_<;>intro _)|fail)
         exact Ql (.inr rfl)
     ·dsimp only
      rw [Zgx (k:=j) (by omega),Gg,Wy]
      rcases q with _|q
      ·refine bs.yv Zc hI (sx:=Xr) ?_
       repeat'(first|refine wk3 ?_|(refine wk2 ?_ ?_<;>intro _)|fail)
       exact Ql ⟨(k+1,Qa Qb ((k:Int)+1),1,I k,b),[(3,4)],rfl,kps,kps,rfl,⟨hw,by omega⟩,by dsimp only; omega⟩
      ·refine bs.yv Zc hI (sx:=Xr) ?_
       repeat'(first|refine wk3 ?_|(refine wk2 ?_ ?_<;>intro _)|fail)
       exact Ql ⟨(k+1,Qa Qb ((k:Int)+1),2,I k,b'),[(3,5)],rfl,kps,kps,rfl,⟨hw,by omega⟩,by dsimp only; omega⟩
    ·repeat'(first|refine wk3 ?_|(refine wk2 ?_ ?_<;>intro _)|fail)
     exact Ql (.inr rfl)
   ·have hfit:=Hw
    refine bs.yv Zc hI (sx:=Xr) ?_
    repeat'(first|refine wk3 ?_|(refine wk2 ?_ ?_<;>intro _)|fail)
    clear hfit;refine bs.ysv (sx:=Xr) Zc hI Tryz.func110 (by kernel_rfl) rfl (by kernel_rfl) ?_;conv=>whnf
    refine Gu ⟨rfl,rfl,.same rfl,(fun h=>by cases h),?_,?_⟩
    ·conv=>whnf
     repeat'(first|refine wk3 ?_|(refine wk2 ?_ ?_<;>intro _)|fail)
     refine Zx9 (S:=Nat × Int × Nat × AV) (fun t=>n-t.1) (fun t=>[(0,.ptr 0 0 0),(1,.ptr 1 0 0),(2,.ipt [I 2]),(3,.ipt [I (n:Int)]),(4,.ptr 2 0 0),(15,I (n:Int)),(16,I t.2.1)]) (fun t=>w3Z l (fn2 n) (I k) t.2.2.2 3 t.2.2.1)
      (fun t=>some (lsX (((rngI t.1 n).flatMap fun j=>if (k:Int)=j then [] else [[(k:Int),j]])++(rngI (k+1) n).flatMap fun i=>wlk n 1 [i]))) 5 (fun t=>match t.2.2.1 with
       | 0=>5
       | _=>6) (fun t=>t.2.1=t.1/\t.1<=n) (0,0,0,I 0) ⟨rfl,Qn _⟩ (Qd _) rfl [] rfl (kps) (kps) ?_
     rintro ⟨j,i,q,b'⟩ ⟨hi,hj⟩;dsimp only at hi hj;subst hi
     by_cases hl2:j<n
     ·have hw2:Qa Qb ((j:Int)+1)=((j+1:Nat):Int):=W_eq (by omega) (by omega)
      dsimp only;rw [Zeh hl2,Ta]
      by_cases hkj:(k:Int)=(j:Int)
      ·rw [if_pos hkj,Wy]
       rcases q with _|q
       ·refine bs.yv Zc hI (sx:=Xr) ?_
        repeat'(first|refine wk3 ?_|(refine wk2 ?_ ?_<;>intro _)|fail)
        exact Ql ⟨(j+1,Qa Qb ((j:Int)+1),0,b'),[],rfl,kps,kps,rfl,⟨hw2,by omega⟩,by dsimp only; omega⟩
       ·refine bs.yv Zc hI (sx:=Xr) ?_
        repeat'(first|refine wk3 ?_|(refine wk2 ?_ ?_<;>intro _)|fail)
        exact Ql ⟨(j+1,Qa Qb ((j:Int)+1),q+1,b'),[(5,5)],rfl,kps,kps,rfl,⟨hw2,by omega⟩,by dsimp only; omega⟩
      ·rw [if_neg hkj]
       rcases q with _|q
       ·refine bs.yv Zc hI (sx:=Xr) ?_
        repeat'(first|refine wk3 ?_|(refine wk2 ?_ ?_<;>intro _)|fail)
        refine bs.ysv (sx:=Xr) Zc hI Tryz.func110 (by kernel_rfl) rfl (by kernel_rfl) ?_;conv=>whnf
        refine Gu ⟨rfl,rfl,.same rfl,(fun h=>by cases h),?_,?_⟩
        ·conv=>whnf
         repeat'(first|refine wk3 ?_|(refine wk2 ?_ ?_<;>intro _)|fail)
         exact Ql ⟨(j+1,Qa Qb ((j:Int)+1),1,I j),[(5,6)],rfl,kps,kps,rfl,⟨hw2,by omega⟩,by dsimp only; omega⟩
        ·repeat'(first|refine wk3 ?_|(refine wk2 ?_ ?_<;>intro _)|fail)
         exact Ql (.inr rfl)
       ·have hfit:=Hw
        refine bs.yv Zc hI (sx:=Xr) ?_
        repeat'(first|refine wk3 ?_|(refine wk2 ?_ ?_<;>intro _)|fail)
        refine bs.ysv (sx:=Xr) Zc hI Tryz.func110 (by kernel_rfl) rfl (by kernel_rfl) ?_;conv=>whnf
        refine Gu ⟨rfl,rfl,.same rfl,(fun h=>by cases h),?_,?_⟩
        ·conv=>whnf
         repeat'(first|refine wk3 ?_|(refine wk2 ?_ ?_<;>intro _)|fail)
         exact Ql ⟨(j+1,Qa Qb ((j:Int)+1),q+1,I j),[(5,5)],rfl,kps,kps,rfl,⟨hw2,by omega⟩,by dsimp only; omega⟩
        ·repeat'(first|refine wk3 ?_|(refine wk2 ?_ ?_<;>intro _)|fail)
         exact Ql (.inr rfl)
     ·dsimp only
      rw [Zgx (k:=j) (by omega),Gg,Wy]
      rcases q with _|q
      ·refine bs.yv Zc hI (sx:=Xr) ?_
       repeat'(first|refine wk3 ?_|(refine wk2 ?_ ?_<;>intro _)|fail)
       exact Ql ⟨(k+1,Qa Qb ((k:Int)+1),1,I k,b),[(3,3)],rfl,kps,kps,rfl,⟨hw,by omega⟩,by dsimp only; omega⟩
      ·refine bs.yv Zc hI (sx:=Xr) ?_
       repeat'(first|refine wk3 ?_|(refine wk2 ?_ ?_<;>intro _)|fail)
       exact Ql ⟨(k+1,Qa Qb ((k:Int)+1),2,I k,b'),[(3,5)],rfl,kps,kps,rfl,⟨hw,by omega⟩,by dsimp only; omega⟩
    ·repeat'(first|refine wk3 ?_|(refine wk2 ?_ ?_<;>intro _)|fail)
     exact Ql (.inr rfl)
   ·have hfit:=Hw
    refine bs.yv Zc hI (sx:=Xr) ?_
    repeat'(first|refine wk3 ?_|(refine wk2 ?_ ?_<;>intro _)|fail)
    refine bs.ysv (sx:=Xr) Zc hI Tryz.func110 (by kernel_rfl) rfl (by kernel_rfl) ?_;conv=>whnf
    refine Gu ⟨rfl,rfl,.same rfl,(fun h=>by cases h),?_,?_⟩
    ·conv=>whnf
     repeat'(first|refine wk3 ?_|(refine wk2 ?_ ?_<;>intro _)|fail)
     refine Zx9 (S:=Nat × Int × AV) (fun t=>n-t.1) (fun t=>[(0,.ptr 0 0 0),(1,.ptr 1 0 0),(2,.ipt [I 2]),(3,.ipt [I (n:Int)]),(4,.ptr 2 0 0),(15,I (n:Int)),(16,I t.2.1)]) (fun t=>w4Z l (fn2 n) (I k) t.2.2)
      (fun t=>some (lsX (((rngI t.1 n).flatMap fun j=>if (k:Int)=j then [] else [[(k:Int),j]])++(rngI (k+1) n).flatMap fun i=>wlk n 1 [i]))) 5 (fun _=>5) (fun t=>t.2.1=t.1/\t.1<=n) (0,0,b) ⟨rfl,Qn _⟩ (Qd _) rfl [] rfl (kps) (kps) ?_
     rintro ⟨j,i,b'⟩ ⟨hi,hj⟩;dsimp only at hi hj;subst hi
     by_cases hl2:j<n
     ·have hw2:Qa Qb ((j:Int)+1)=((j+1:Nat):Int):=W_eq (by omega) (by omega)
      dsimp only;rw [Zeh hl2,Ta]
      by_cases hkj:(k:Int)=(j:Int)
      ·rw [if_pos hkj,Wy]
       refine bs.yv Zc hI (sx:=Xr) ?_
       repeat'(first|refine wk3 ?_|(refine wk2 ?_ ?_<;>intro _)|fail)
       exact Ql ⟨(j+1,Qa Qb ((j:Int)+1),b'),[],rfl,kps,kps,rfl,⟨hw2,by omega⟩,by dsimp only; omega⟩
      ·rw [if_neg hkj]
       refine bs.yv Zc hI (sx:=Xr) ?_
       repeat'(first|refine wk3 ?_|(refine wk2 ?_ ?_<;>intro _)|fail)
       refine bs.ysv (sx:=Xr) Zc hI Tryz.func110 (by kernel_rfl) rfl (by kernel_rfl) ?_;conv=>whnf
       refine Gu ⟨rfl,rfl,.same rfl,(fun h=>by cases h),?_,?_⟩
       ·conv=>whnf
        repeat'(first|refine wk3 ?_|(refine wk2 ?_ ?_<;>intro _)|fail)
        exact Ql ⟨(j+1,Qa Qb ((j:Int)+1),I j),[],rfl,kps,kps,rfl,⟨hw2,by omega⟩,by dsimp only; omega⟩
       ·repeat'(first|refine wk3 ?_|(refine wk2 ?_ ?_<;>intro _)|fail)
        exact Ql (.inr rfl)
     ·dsimp only
      rw [Zgx (k:=j) (by omega),Gg,Wy];refine bs.yv Zc hI (sx:=Xr) ?_
      repeat'(first|refine wk3 ?_|(refine wk2 ?_ ?_<;>intro _)|fail)
      exact Ql ⟨(k+1,Qa Qb ((k:Int)+1),m+2,I k,b'),[(3,3)],rfl,kps,kps,rfl,⟨hw,by omega⟩,by dsimp only; omega⟩
    ·repeat'(first|refine wk3 ?_|(refine wk2 ?_ ?_<;>intro _)|fail)
     exact Ql (.inr rfl)
  ·dsimp only
   rw [Zgx (by omega)]
   rcases m with _|_|m
   all_goals
    refine bs.yv Zc hI (sx:=Xr) ?_
    repeat'(first|refine wk3 ?_|(refine wk2 ?_ ?_<;>intro _)|fail)
    exact Ql (.inl rfl)
 ·repeat'(first|refine wk3 ?_|(refine wk2 ?_ ?_<;>intro _)|fail)
  exact Ql (.inr rfl)
def extL (m:Nat) (L:List Int):List (List Int):=(rngI 0 m).flatMap fun i=>if L.getLast?=some i then [] else [L++[i]]
def bfsL (m:Nat):Nat->List (List Int)
 | 0=>[[]]
 | n+1=>(bfsL m n).flatMap (extL m)
def lev (m:Nat):Nat->List Int->List (List Int)
 | 0,L=>[L]
 | n+1,L=>(extL m L).flatMap (lev m n)
theorem Zt9 (m:Nat):∀ (n:Nat) (L:List Int),lev m (n+1) L=(lev m n L).flatMap (extL m)
 | 0,L=>by simp [lev]
 | n+1,L=>by
  rw [lev,lev,Dq]
  congr 1
  funext L'
  exact Zt9 m n L'
theorem Yam (m:Nat):∀ n,bfsL m n=lev m n []
 | 0=>rfl
 | n+1=>by rw [Zt9,bfsL,Yam m n]
theorem Zlc {α β:Type} (f g:α->List β):∀ l:List α,(l.flatMap fun x=>f x++g x).Perm (l.flatMap f++l.flatMap g)
 | []=>.nil
 | a::l=>by
  simp only [Ta]
  refine ((Mn _).append (Zlc f g l)).trans ?_
  rw [Rs,Rs]
  refine (Mn _).append ?_
  rw [<-Rs,<-Rs]
  exact List.perm_append_comm.append (Mn _)
theorem flatMap_nil {α β:Type}:∀ l:List α,(l.flatMap fun _=>([]:List β))=[]
 | []=>rfl
 | a::l=>by rw [Ta,flatMap_nil l]; rfl
theorem Zi6 {α β γ:Type} (f:α->β->List γ) (b:List β):∀ a:List α,(a.flatMap fun x=>b.flatMap fun y=>f x y).Perm (b.flatMap fun y=>a.flatMap fun x=>f x y)
 | []=>by simp [flatMap_nil]
 | x::a=>by
  simp only [Ta]
  exact ((Mn _).append (Zi6 f b a)).trans (Zlc _ _ b).symm
theorem Zi7 {α β:Type} {f g:α->List β}:∀ {l:List α},(∀ x∈l,(f x).Perm (g x))->(l.flatMap f).Perm (l.flatMap g)
 | [],_=>.nil
 | a::l,h=>by
  simp only [Ta]
  exact (h a (by simp)).append (Zi7 fun x hx=>h x (by simp [hx]))
theorem Ye1 (m o:Nat) (L:List Int):wlk m (o+1) L=L::(extL m L).flatMap (wlk m o):=by
 rw [wlk,extL,Dq]
 congr 2
 funext i
 split<;>simp
theorem Zwx (m:Nat):∀ (o:Nat) (L:List Int),(wlk m o L).Perm ((Si (o+1)).flatMap fun k=>lev m k L)
 | 0,L=>by simp [wlk,lev]
 | o+1,L=>by
  rw [Ye1,List.range_succ_eq_map,Ta]
  show (L::_).Perm ([L]++_)
  refine List.Perm.cons L ?_
  refine (Zi7 fun L' _=>Zwx m o L').trans ?_
  refine (Zi6 _ _ _).trans ?_
  rw [List.flatMap_map]
  exact .refl _
theorem Zwy (m o:Nat):(wlk m o []).Perm ((Si (o+1)).flatMap (bfsL m)):=by
 have:bfsL m=fun k=>lev m k []:=funext fun k=>Yam m k
 rw [this]
 exact Zwx m o []
theorem Ztu {m:Nat} {i:Int} (h:i∈rngI 0 m):0<=i/\i<m:=by
 unfold rngI at h
 obtain ⟨k,hk,rfl⟩:=Wd.1 h
 have:=List.mem_range'_1.1 hk
 omega
structure Wok (m:Nat) (L:List Int) (n:Nat):Prop where
 len:L.length<=n
 mem:∀ i∈L,0<=i/\i<m
theorem Zww (m:Nat):∀ (o:Nat) (L:List Int) (n:Nat),Wok m L n->∀ x∈wlk m o L,Wok m x (n+o)
 | 0,L,n,h,x,hx=>by
  rw [wlk] at hx
  rw [We.1 hx]; exact h
 | o+1,L,n,h,x,hx=>by
  rw [wlk] at hx
  rcases Rb.1 hx with rfl|hx
  ·exact ⟨Qt h.len (Nat.le_add_right _ _),h.mem⟩
  ·obtain ⟨i,hi,hx⟩:=Np.1 hx
   split at hx
   ·simp at hx
   ·have:=Zww m o (L++[i]) (n+1) ⟨by have:=h.len; simp; omega,fun j hj=>by
     rcases List.mem_append.1 hj with hj|hj
     ·exact h.mem j hj
     ·rw [We.1 hj]; exact Ztu hi⟩ x hx
    rw [show n+(o+1)=n+1+o by omega];exact this
def fndP (f:List Int->Option Pth) (m o:Nat):List Pth:=(wlk m o []).filterMap f
def refL (f:List Int->Option Pth) (m o:Nat):List Pth:=(((Si (o+1)).flatMap (bfsL m)).filterMap f).foldl putL []
theorem Zk9:∀ (l a:List Pth),a.Pairwise (fun a b=>ordP a b<=0)->(l.foldl putL a).Pairwise (fun a b=>ordP a b<=0)/\(l.foldl putL a).Perm (l++a)
 | [],a,h=>⟨h,.refl _⟩
 | p::l,a,h=>by
  obtain ⟨q1,q2⟩:=Zk9 l (putL a p) (Zr6 h)
  refine ⟨q1,q2.trans ?_⟩
  refine ((Mn l).append (Zcl a p)).trans ?_
  exact List.perm_middle
theorem Zki (f:List Int->Option Pth) (m o:Nat):(refL f m o).Perm (fndP f m o):=by
 have:=(Zk9 (((Si (o+1)).flatMap (bfsL m)).filterMap f) [] .nil).2
 rw [Tx] at this
 exact this.trans ((Zwy m o).symm.filterMap f)
theorem Zkh (f:List Int->Option Pth) (m o:Nat):(refL f m o).Pairwise (fun a b=>ordP a b<=0):=(Zk9 _ [] .nil).1
theorem Zmg {f:List Int->Option Pth} (hf:∀ L p,f L=some p->p.ss=L) {m o:Nat} {ys:List Pth} (h1:ys.Perm (fndP f m o)) (h2:ys.Pairwise (fun a b=>¬ ordP b a<0)):ys=refL f m o:=by
 refine Zox (G:=fun p=>f p.ss=some p) (fun a b ha hb e=>?_) (h1.trans (Zki f m o).symm) (fun a ha=>?_) (h2.imp fun {a b} h=>?_) (Zkh f m o)
 ·rw [e,hb] at ha; cases ha; rfl
 ·have:=h1.subset ha
  obtain ⟨L,hL,e⟩:=Nr.1 this
  rw [hf L a e]; exact e
 ·have:=Zbk a b; omega
theorem Yku (n o:Int):PCall Tryz.prog 70 [I n,I o] ⟨.func 109 [] [.ipt [I o],.ipt [I n]],[]⟩:=by
 refine PCall.frzFns (rows:=[(1,[I n]),(1,[I o])]) (ks:=[(1,[I o]),(0,[I n])]) (by
  intro q hq
  simp only [Rb,List.not_mem_nil,or_false] at hq
  rcases hq with rfl|rfl<;>exact ⟨_,rfl⟩) ?_
 refine pn Zc Tryz.func70 ?_
 repeat'(first|refine wk3 ?_|(refine wk2 ?_ ?_<;>intro _)|fail)
 exact Yg [0,1] rfl rfl rfl
def wlkB (m:Nat):Nat->Nat
 | 0=>1
 | o+1=>1+m*wlkB m o
theorem Zac {α β:Type} {f:α->List β} {B:Nat}:∀ l:List α,(∀ x∈l,(f x).length<=B)->(l.flatMap f).length<=l.length*B
 | [],_=>by simp
 | a::l,h=>by
  have h1:=h a (by simp)
  have h2:=Zac l fun x hx=>h x (by simp [hx])
  rw [Ta,Rr,Ru,Nat.add_mul,Nat.one_mul]
  omega
theorem Zrr (m:Nat):∀ (o:Nat) (L:List Int),(wlk m o L).length<=wlkB m o
 | 0,L=>by simp [wlk,wlkB]
 | o+1,L=>by
  have:=Zac (f:=fun i=>if L.getLast?=some i then [] else wlk m o (L++[i])) (B:=wlkB m o) (rngI 0 m) fun i _=>by
   split
   ·simp
   ·exact Zrr m o _
  rw [wlk,Ru,wlkB]
  have hl:(rngI 0 m).length=m:=by simp [rngI]
  rw [hl] at this
  omega
theorem Ycs (f:List Int->Option Pth) {m o:Nat} (hm:m<900) (ho:o<=2):(fndP f m o).length<900000:=by
 have h1:(fndP f m o).length<=(wlk m o []).length:=Nh _ _
 have h2:=Zrr m o []
 have h3:wlkB m o<=1+m+m*m:=by
  obtain rfl|rfl|rfl:o=0\/o=1\/o=2:=by omega
  ·simp [wlkB]; omega
  ·simp [wlkB]
  ·simp [wlkB,Nat.mul_add]; omega
 have h4:m*m<=899*899:=Kh (by omega) (by omega)
 omega
theorem Ycy {P:Program} {f:FuncId} {fn:Func} (hf:P.funcs[f]?=some fn) (h1:(fn.name == "runtime.NumGoroutine")=false) (h2:fn.body.isNone=false) (args:Array Value) (w:World):(callFunc f args).run P w = .ok (.enter f args) w:=by
 have q2' : ¬ fn.name = "runtime.NumGoroutine" := by simpa using h1
 have q3' : ¬ fn.body=none:=by intro h; rw [h] at h2; simp at h2
 simp [callFunc,hf,q2',q3']
theorem Yil:FnOK Tryz.prog 72:=FnOK.of Tryz.func72 (by kernel_rfl) (by kernel_rfl)
abbrev gcP (p:Pth):List AV:=[.isl 1 (nl p.ss),.isl 4 (p.ps.map hp4),I p.sq]
def Yki:FuncId->Bool:=fun f=>Nat.beq f 72
noncomputable def kAll (h:Hal) (s:Stg) (fx fy fz tx ty tz n:Int):PC:=ins 33 (oneA [h.av,s.av,.agg [I fx,I fy,I fz,I tx,I ty,I tz,I n]] ⟨I 0,[]⟩) (ins 69 (oneA [h.av] ⟨.tup [.isl 1 (sl (surf h)),I 0],[]⟩) (ins 70 (oneA [I (sl (surf h)).length,I n] ⟨.func 109 [] [.ipt [I n],.ipt [I (nsN h:Nat)]],[]⟩) pt0))
theorem d55 {h:Hal} (hk:h.ok) {s:Stg} (hs:s.few) (hS:SortsK Tryz.prog 72 3) (a:Ask) (e:askE h s a=0) (hn:a.n<3) (hN:nsN h<900) :
  PCall Tryz.prog 35 [h.av,s.av,a.av] ⟨.tup [.isl 3 ((refL (Yt h s (qF a) (qT a)) (nsN h) a.n.toNat).map gcP),I 0],[]⟩:=by
 have A:=Yj e
 have he:=Zgu A.e0
 have h24:=d24 hk hs a
 rw [e] at h24
 have h112:=c64 hk
 rw [if_pos he,he] at h112
 obtain ⟨fx,fy,fz,tx,ty,tz,n⟩:=a
 dsimp only at hn
 have hkA:PCOK Tryz.prog (kAll h s fx fy fz tx ty tz n):=Zb9 h24 (Zb9 h112 (Zb9 (by rw [<-Ybg]; exact Yku _ n) Zc))
 unfold kAll at hkA
 have o1:=Zai [h.av,s.av,.agg [I fx,I fy,I fz,I tx,I ty,I tz,I n]] ⟨I 0,[]⟩
 have o2:=Zai [h.av] ⟨.tup [.isl 1 (sl (surf h)),I 0],[]⟩
 have o3:=Zai [I (sl (surf h)).length,I n] ⟨.func 109 [] [.ipt [I n],.ipt [I (nsN h:Nat)]],[]⟩
 refine PCall.freeze (res:=if (refL (Yt h s (fx,fy,fz) (tx,ty,tz)) (nsN h) n.toNat)=[] then ⟨.tup [.nils,I 0],[]⟩ else ⟨.tup [.asl 0 0 (refL (Yt h s (fx,fy,fz) (tx,ty,tz)) (nsN h) n.toNat).length,I 0],[(3,(refL (Yt h s (fx,fy,fz) (tx,ty,tz)) (nsN h) n.toNat).map gcP)]⟩) ?_ ?_
 rotate_left
 ·split<;>rename_i hre
  ·rw [hre]; exact ⟨rfl,⟨rfl,rfl⟩,trivial⟩
  ·refine ⟨⟨rfl,rfl,?_⟩,⟨rfl,rfl⟩,trivial⟩
   exact (Ra _).symm
 refine bs.pv (sx:=Yki) hkA Tryz.func35 (by kernel_rfl) (by kernel_rfl) (by split<;>rfl) ?_
 repeat'(first|refine wk3 ?_|(refine wk2 ?_ ?_<;>intro _)|fail)
 obtain ⟨f,hf⟩:∃ f,f=Yt h s (fx,fy,fz) (tx,ty,tz):=⟨_,rfl⟩
 have hfs:∀ L p,f L=some p->p.ss=L:=fun L p hp=>by rw [hf] at hp; exact Zjl hp
 have hfr:∀ L:List Int,Wok (nsN h) L 2->Zrk Tryz.prog 71 [.agg (stgL h s),.agg [I fx,I fy,I fz,I tx,I ty,I tz,I n],.isl 1 (nl1 L)] (ansP (f L)):=fun L hL=>by
  rw [hf]
  exact d65f hk hs e (by have:=hL.len; omega) (fun i hi=>by have:=hL.mem i hi; rw [Zi2] at this; exact this)
 rw [<-hf]
 have hn2:n.toNat<=2:=by omega
 have hwok:∀ L∈wlk (nsN h) n.toNat [],Wok (nsN h) L 2:=fun L hL=>by
  have:=Zww (nsN h) n.toNat [] 0 ⟨Qd _,by simp⟩ L hL
  exact ⟨by have:=this.len; omega,this.mem⟩
 have hcnt:=Ycs f (m:=nsN h) (o:=n.toNat) hN hn2
 have hit:Zrl Tryz.prog 109 [] [.ipt [I n],.ipt [I (nsN h:Nat)]] (lsX (wlk (nsN h) n.toNat [])):=by
  have hN:nsN h<1000:=by omega
  have hn0:=A.n.1
  dsimp only at hn0
  obtain rfl|rfl|rfl:n=0\/n=1\/n=2:=by omega
  ·exact Ygl _ hN
  ·exact Ygk _ hN
  ·exact Ygj _ hN
 refine Rg.ren (env2:=[(5,.ptr 2 0 0),(11,.ptr 3 0 0),(12,.ptr 4 0 0),(35,.func 109 [] [.ipt [I n],.ipt [I (nsN h:Nat)]])]) (σ2:=⟨[(4,.row 11 [stgL h s] true false),(3,.row 1 [[.nils]] true false),(2,.row 7 [[I fx,I fy,I fz,I tx,I ty,I tz,I n]] true false)],5⟩) (Ren.of [] rfl (kps) (kps)) ?_
 refine rngT hit rfl rfl rfl rfl (Zxn (S:=Nat × Nat × List (List AV)) (fun t=>gz 5 3 t.1 t.2.2 [(4,.row 11 [stgL h s] true false),(3,.row 1 [[gv 5 t.1 t.2.1]] true false),(2,.row 7 [[I fx,I fy,I fz,I tx,I ty,I tz,I n]] true false)]) 5 (fun t=>nm2 5 6 t.1)
  (fun xs t=>∃ (Ls:List (List Int)) (ds:List Pth),xs=lsX Ls/\(∀ L∈Ls,Wok (nsN h) L 2)/\t.1=ds.length/\t.2.1=t.2.2.length/\t.2.2=ds.map gcP/\ds++Ls.filterMap f=fndP f (nsN h) n.toNat) ?_ ?_ _ (0,0,[]) ⟨wlk (nsN h) n.toNat [],[],rfl,?_,rfl,rfl,rfl,rfl⟩)
 ·rintro x xs ⟨k,len,els⟩ ⟨Ls,ds,hxs,hok,hkd,hlen,hels,hfd⟩
  dsimp only at hkd hlen hels ⊢
  cases Ls with
  | nil=>cases hxs
  | cons L Ls =>
   cases hxs;refine ⟨⟨rfl,rfl⟩,fun ys hys hsl=>?_⟩
   obtain ⟨y,rfl⟩:∃ y,ys = #[y]:=by
    obtain ⟨l⟩:=ys
    match l,hys with
    | [y],_=>exact ⟨y,rfl⟩
   obtain ⟨sa,sn,sc,rfl⟩:=hsl 0 _ rfl;have hr:=hfr L (hok L (by simp));rw [List.filterMap_cons] at hfd
   have e4:els.length<900000:=by
    rw [<-hfd,Rr] at hcnt;rw [hels,Ra]; omega
   cases hp:f L with
   | none =>
    rw [hp] at hfd hr
    cases k with
    | zero =>
     refine bs.av (sx:=nos) hkA ?_;conv=>whnf
     repeat'(first|refine wk3 ?_|(refine wk2 ?_ ?_<;>intro _)|fail)
     refine Zff (Zjt (Zdt (Zhk (sx:=nos) bs.hT bs.hok hkA) rfl ?_));conv=>whnf
     repeat'(first|refine wk3 ?_|(refine wk2 ?_ ?_<;>intro _)|fail)
     refine Qdi ⟨[.agg (stgL h s),.agg [I fx,I fy,I fz,I tx,I ty,I tz,I n],.isl 1 (nl1 L)],_,⟨.inl rfl,.inl rfl,.inr ⟨⟨sa,sn,sc,rfl,rfl⟩,rfl⟩,trivial⟩,rfl,hr,?_⟩;conv=>whnf
     repeat'(first|refine wk3 ?_|(refine wk2 ?_ ?_<;>intro _)|fail)
     refine bs.av (sx:=nos) hkA ?_;conv=>whnf
     repeat'(first|refine wk3 ?_|(refine wk2 ?_ ?_<;>intro _)|fail)
     exact Ql ⟨(0,len,els),[],rfl,kps,Ls,ds,rfl,fun L hL=>hok L (by simp [hL]),hkd,hlen,hels,hfd⟩
    | succ k =>
     refine bs.av (sx:=nos) hkA ?_;conv=>whnf
     repeat'(first|refine wk3 ?_|(refine wk2 ?_ ?_<;>intro _)|fail)
     refine Zff (Zjt (Zdt (Zhk (sx:=nos) bs.hT bs.hok hkA) rfl ?_));conv=>whnf
     repeat'(first|refine wk3 ?_|(refine wk2 ?_ ?_<;>intro _)|fail)
     refine Qdi ⟨[.agg (stgL h s),.agg [I fx,I fy,I fz,I tx,I ty,I tz,I n],.isl 1 (nl1 L)],_,⟨.inl rfl,.inl rfl,.inr ⟨⟨sa,sn,sc,rfl,rfl⟩,rfl⟩,trivial⟩,rfl,hr,?_⟩;conv=>whnf
     repeat'(first|refine wk3 ?_|(refine wk2 ?_ ?_<;>intro _)|fail)
     refine bs.av (sx:=nos) hkA ?_;conv=>whnf
     repeat'(first|refine wk3 ?_|(refine wk2 ?_ ?_<;>intro _)|fail)
     exact Ql ⟨(k+1,len,els),[(5,5)],rfl,kps,Ls,ds,rfl,fun L hL=>hok L (by simp [hL]),hkd,hlen,hels,hfd⟩
   | some p =>
    rw [hp] at hfd hr
    cases k with
    | zero =>
     refine bs.av (sx:=nos) hkA ?_;conv=>whnf
     repeat'(first|refine wk3 ?_|(refine wk2 ?_ ?_<;>intro _)|fail)
     refine Zff (Zjt (Zdt (Zhk (sx:=nos) bs.hT bs.hok hkA) rfl ?_));conv=>whnf
     repeat'(first|refine wk3 ?_|(refine wk2 ?_ ?_<;>intro _)|fail)
     refine Qdi ⟨[.agg (stgL h s),.agg [I fx,I fy,I fz,I tx,I ty,I tz,I n],.isl 1 (nl1 L)],_,⟨.inl rfl,.inl rfl,.inr ⟨⟨sa,sn,sc,rfl,rfl⟩,rfl⟩,trivial⟩,rfl,hr,?_⟩;conv=>whnf
     repeat'(first|refine wk3 ?_|(refine wk2 ?_ ?_<;>intro _)|fail)
     refine bs.av (sx:=nos) hkA ?_;conv=>whnf
     repeat'(first|refine wk3 ?_|(refine wk2 ?_ ?_<;>intro _)|fail)
     exact Ql ⟨(1,_,_),[(5,7)],rfl,kps,Ls,ds++[p],rfl,fun L hL=>hok L (by simp [hL]),by rw [Rr,<-hkd]; rfl,rfl,by rw [Rt.1 hkd.symm]; rfl,by rw [Rs]; exact hfd⟩
    | succ k =>
     refine bs.av (sx:=nos) hkA ?_;conv=>whnf
     repeat'(first|refine wk3 ?_|(refine wk2 ?_ ?_<;>intro _)|fail)
     refine Zff (Zjt (Zdt (Zhk (sx:=nos) bs.hT bs.hok hkA) rfl ?_));conv=>whnf
     repeat'(first|refine wk3 ?_|(refine wk2 ?_ ?_<;>intro _)|fail)
     refine Qdi ⟨[.agg (stgL h s),.agg [I fx,I fy,I fz,I tx,I ty,I tz,I n],.isl 1 (nl1 L)],_,⟨.inl rfl,.inl rfl,.inr ⟨⟨sa,sn,sc,rfl,rfl⟩,rfl⟩,trivial⟩,rfl,hr,?_⟩;conv=>whnf
     repeat'(first|refine wk3 ?_|(refine wk2 ?_ ?_<;>intro _)|fail)
     refine bs.av (sx:=nos) hkA ?_;conv=>whnf
     repeat'(first|refine wk3 ?_|(refine wk2 ?_ ?_<;>intro _)|fail)
     exact Ql ⟨(k+1+1,_,_),[(5,8)],rfl,kps,Ls,ds++[p],rfl,fun L hL=>hok L (by simp [hL]),by rw [Rr,<-hkd]; rfl,by exact List.length_append.symm,by rw [Wz,<-hels]; rfl,by rw [Rs]; exact hfd⟩
 ·rintro ⟨k,len,els⟩ ⟨Ls,ds,hxs,hok,hkd,hlen,hels,hfd⟩
  dsimp only at hkd hlen hels ⊢
  cases Ls with
  | cons=>cases hxs
  | nil =>
   rw [List.filterMap_nil,Tx] at hfd
   have hds:∀ d∈ds,d.ss.length<1000000:=fun d hd=>by
    rw [hfd] at hd;obtain ⟨L,hL,hp⟩:=Nr.1 hd;rw [hfs L d hp];have:=(hwok L hL).len; omega
   rw [<-hfd] at hcnt
   cases k with
   | zero =>
    obtain rfl:ds=[]:=Rt.1 hkd.symm;have hre:refL f (nsN h) n.toNat=[]:=(Zmg hfs (ys:=[]) (by rw [<-hfd]) .nil).symm;rw [hre,if_pos rfl];conv=>whnf
    repeat'(first|refine wk3 ?_|(refine wk2 ?_ ?_<;>intro _)|fail)
    refine Ybm Yil hS ?_;conv=>whnf
    repeat'(first|refine wk3 ?_|(refine wk2 ?_ ?_<;>intro _)|fail)
    exact Ze rfl rfl
   | succ k =>
    rw [hels,Ra] at hlen;subst hels hlen;conv=>whnf
    repeat'(first|refine wk3 ?_|(refine wk2 ?_ ?_<;>intro _)|fail)
    refine Ybl Yil hS (by decide) (Ycy Tryz.func73 (by kernel_rfl) (by kernel_rfl)) gcP (fun _=>rfl) (fun _=>rfl) (fun _=>rfl) ordP (fun a ha b hb=>Yb1 (d115 (hds a ha) (hds b hb))) Yb8 (by omega) rfl fun ys hp hs=>?_
    obtain rfl:=Zmg hfs (by rw [<-hfd]; exact hp) hs;have hyl:=hp.length_eq;generalize refL f (nsN h) n.toNat=ys at *;rw [if_neg (by intro h0; rw [h0,<-hkd] at hyl; cases hyl)];conv=>whnf
    repeat'(first|refine wk3 ?_|(refine wk2 ?_ ?_<;>intro _)|fail)
    exact Yg [5] rfl (by rw [hyl]; rfl) rfl
 ·exact hwok
theorem Zte {n i:Int} (hi:within i 0 n=true):∀ (l:List Int) (q:Option Int),wkG n q l=0->(l.getLast?.or q)≠some i->wkG n q (l++[i])=0
 | [],q,_,hq=>by
  have hq:q≠some i:=hq
  show wkG n q [i]=0
  rw [wkG,if_pos hi,if_neg hq]; rfl
 | x::l,q,h,hq=>by
  rw [wkG] at h
  rw [Ss,wkG]
  split at h
  ·rename_i h1
   rw [if_pos h1];split at h
   ·cases h
   ·rename_i h2
    rw [if_neg h2];refine Zte hi l (some x) h ?_
    cases l with
    | nil=>exact hq
    | cons y l =>
     rw [List.getLast?_cons_cons] at hq
     cases hl:(y::l).getLast? with
     | none=>simp at hl
     | some z=>rw [hl] at hq; exact hq
  ·cases h
theorem Zrq (m:Nat):∀ (o:Nat) (L:List Int),wkG ((m:Int)-1) none L=0->∀ x∈wlk m o L,wkG ((m:Int)-1) none x=0
 | 0,L,h,x,hx=>by
  rw [wlk] at hx
  rw [We.1 hx]; exact h
 | o+1,L,h,x,hx=>by
  rw [wlk] at hx
  rcases Rb.1 hx with rfl|hx
  ·exact h
  ·obtain ⟨i,hi,hx⟩:=Np.1 hx
   split at hx
   ·simp at hx
   ·rename_i hl
    have hr:=Ztu hi;refine Zrq m o (L++[i]) (Zte (within_iff.2 (by omega)) L none h ?_) x hx;rw [Option.or_none]; exact hl
theorem Yfc {a b c x y z:Int} (h1:Near 45000 (a,b,c)) (h2:Near 5000 (x,y,z)):sqV a b c x y z=(a-x)*(a-x)+(b-y)*(b-y)+(c-z)*(c-z)/\sqV a b c x y z<=24300000000:=by
 obtain ⟨p1,p2,p3⟩:=h1
 obtain ⟨r1,r2,r3⟩:=h2
 dsimp only at p1 p2 p3 r1 r2 r3
 have k:∀ u v:Int,(-45000<=u/\u<=45000)->(-5000<=v/\v<=5000)->Qa Qb (u-v)=u-v/\(0<=(u-v)*(u-v)/\(u-v)*(u-v)<=2500000000)/\Qa Qb (Qa Qb (u-v)*Qa Qb (u-v))=(u-v)*(u-v):=fun u v hu hv=>by
  have e1:Qa Qb (u-v)=u-v:=W_eq (by omega) (by omega)
  have e2:0<=(u-v)*(u-v)/\(u-v)*(u-v)<=2500000000:=by
   generalize hd:u-v=d;have hd1 : -50000<=d:=by omega
   have hd2:d<=50000:=by omega
   constructor
   ·rcases Int.le_total 0 d with h|h
    ·exact Qq h h
    ·have:=Qq (show 0 <= -d by omega) (show 0 <= -d by omega)
     rwa [Qbj] at this
   ·have:=Qq (show 0<=50000-d by omega) (show 0<=50000+d by omega)
    have e:(50000-d)*(50000+d)=2500000000-d*d:=by rw [Int.mul_add,Lw,Lw]; omega
    omega
  exact ⟨e1,e2,by rw [e1]; exact W_eq (by omega) (by omega)⟩
 obtain ⟨_,a1,a2⟩:=k a x p1 r1
 obtain ⟨_,b1,b2⟩:=k b y p2 r2
 obtain ⟨_,c1,c2⟩:=k c z p3 r3
 unfold sqV
 rw [a2,b2,c2]
 rw [W_eq (n:=(a-x)*(a-x)+(b-y)*(b-y)) (by omega) (by omega),W_eq (by omega) (by omega)]
 exact ⟨rfl,by omega⟩
theorem Zb3 {d:Int} (h:d≠0):1<=d*d:=by
 rcases Int.lt_trichotomy d 0 with h1|h1|h1
 ·have:=Ol (show (1:Int) <= -d by omega) (show (1:Int) <= -d by omega) (by omega) (by omega)
  rw [Qbj] at this; omega
 ·exact absurd h1 h
 ·have:=Ol (show (1:Int)<=d by omega) (show (1:Int)<=d by omega) (by omega) (by omega)
  omega
theorem Znl (d:Int):0<=d*d:=by
 by_cases h:d=0
 ·subst h; omega
 ·have:=Zb3 h; omega
theorem Ykh {a b c x y z:Int} (h:¬ (a=x/\b=y/\c=z)):1<=(a-x)*(a-x)+(b-y)*(b-y)+(c-z)*(c-z):=by
 have h1:=Znl (a-x)
 have h2:=Znl (b-y)
 have h3:=Znl (c-z)
 by_cases e1:a=x
 ·by_cases e2:b=y
  ·have:=Zb3 (d:=c-z) (by intro k; exact h ⟨e1,e2,by omega⟩); omega
  ·have:=Zb3 (d:=b-y) (by omega); omega
 ·have:=Zb3 (d:=a-x) (by omega); omega
theorem Yht (x:Int):0<=sgn x*sgn x:=Znl _
theorem Yb7 {h:Hal} {s:Stg} (g:Sit h s) (e0:serr h s=0) {q0 q1:Pl3} (hf:Near 5000 q0) (ht:Near 5000 q1) (hne:q0≠q1) {ns:List Int} (hl:ns.length<=4) (hi:∀ n∈ns,0<=n/\n<nsur h) {p:Pth} (e:Yt h s q0 q1 ns=some p):1<=p.sq/\p.sq<=24300000000:=by
 have hn:=Zjn g hf hl (Zxf hi) ns.length (Qd _)
 have hn:Near 45000 (imA (im1 h s) q0 ns ns.length):=Zkp (by omega) hn
 have hs:imA (im1 h s) q0 ns ns.length≠q1:=by
  intro hq
  rw [Zdf] at e
  by_cases h0:ns=[]
  ·subst h0
   exact hne hq
  ·have hp:0<ns.length:=List.length_pos_iff.2 h0
   have ht2:=Zn3 (f:=im1 h s) (q:=q0) (ns:=ns) (k:=ns.length-1) (by omega);rw [show ns.length-1+1=ns.length by omega,List.take_of_length_le (by rw [Za9]; exact Qd _)] at ht2;rw [ht2,goP,hq] at e;have hc:=Zqy g e0 (hi _ (Qr (show ns.length-1<ns.length by omega))) (q:=q1) (Zkp (by omega) ht) (to:=pnt q1) (Zkk ht)
   have hz:(fP h s (ns[ns.length-1]'(by omega)) q1 (pnt q1)).2≠0:=by
    show (crsA h s ⟨_,q1.1,q1.2.1,q1.2.2,pnt q1⟩).2≠0
    rw [hc.2.2.1];unfold Zaf
    have:crF (Zi h s (ns[ns.length-1]'(by omega))) ⟨ns[ns.length-1]'(by omega),q1.1,q1.2.1,q1.2.2,pnt q1⟩=crG (Zi h s (ns[ns.length-1]'(by omega))) ⟨ns[ns.length-1]'(by omega),q1.1,q1.2.1,q1.2.2,pnt q1⟩:=by
     unfold crF crG pnt;dsimp only;rw [Int.mul_one]
    rw [this,if_pos (Yht _)]
    show (12:Int)≠0
    decide
   rw [if_neg hz] at e;cases e
 rw [Zdf] at e
 split at e
 ·cases e
 ·split at e
  ·cases e
   obtain ⟨r1,r2⟩:=Yfc (a:=(imA (im1 h s) q0 ns ns.length).1) (b:=(imA (im1 h s) q0 ns ns.length).2.1) (c:=(imA (im1 h s) q0 ns ns.length).2.2) (x:=q1.1) (y:=q1.2.1) (z:=q1.2.2) hn ht;dsimp only;refine ⟨?_,r2⟩;rw [r1];refine Ykh ?_;rintro ⟨k1,k2,k3⟩;exact hs (Prod.ext k1 (Prod.ext k2 k3))
  ·cases e
theorem Ycv (l:List Pt4):eqP l l=true:=by
 have:=Zxi ⟨[],l,0⟩
 unfold same at this
 simp only [Bool.and_eq_true] at this
 exact this.2.2
theorem Yfx {a b:Pth} (h:ordP a b<=0):a.sq<=b.sq:=by
 rw [Zdg] at h
 unfold ordK at h
 rw [cmpL] at h
 rcases Xm a.sq b.sq with ⟨h1,e⟩|⟨h1,e⟩|⟨h1,e⟩
 ·omega
 ·omega
 ·rw [e,if_neg (by decide)] at h; omega
theorem Yka {a:Ask} (h:a.same=false):qF a≠qT a:=by
 intro e
 have e1:a.fx=a.tx:=congrArg (·.1) e
 have e2:a.fy=a.ty:=congrArg (·.2.1) e
 have e3:a.fz=a.tz:=congrArg (·.2.2) e
 unfold Ask.same at h
 simp [e1,e2,e3] at h
theorem Ydt {h:Hal} {l:List Int} (hl:l.length<=4) (hw:wkG ((nsN h:Int)-1) none l=0):suE h l=0:=by
 unfold suE
 rw [if_neg (by omega),<-Zi2]
 exact hw
theorem Zgy {h:Hal} (hk:h.ok) {s:Stg} (hs:s.few) {a:Ask} (e:askE h s a=0) (hn:a.n<3) {p:Pth} (hp:p∈refL (Yt h s (qF a) (qT a)) (nsN h) a.n.toNat) :
  Yt h s (qF a) (qT a) p.ss=some p/\suE h p.ss=0/\p.ss.length<=2/\p.ps.length<=2/\cpE h s a p=0:=by
 have A:=Yj e
 have hn0:=A.n
 have h1:=(Zki _ _ _).subset hp
 obtain ⟨L,hL,hf⟩:=Nr.1 h1
 obtain rfl:=Zjl hf
 have hw:=Zww (nsN h) a.n.toNat [] 0 ⟨Qd _,by simp⟩ _ hL
 have hg:=Zrq (nsN h) a.n.toNat [] rfl _ hL
 have hl:p.ss.length<=a.n.toNat:=by have:=hw.len; omega
 have hsu:=Ydt (by omega) hg
 have hps:=Zt2 hf
 have hi:=(Zjk hsu).2
 have hsq:=Yb7 (Zed hk hs A.e0) A.e0 A.f A.t (Yka A.ne) (by omega) hi hf
 refine ⟨hf,hsu,by omega,by omega,?_⟩
 unfold cpE pthE
 rw [if_pos (show (if (p.ps.length:Int)=p.ss.length then (if 4<(p.ss.length:Int) then 8 else (if within p.sq 1 24300000000 then 0 else 2)) else 10)=(0:Int) by
  rw [if_pos (by omega),if_neg (by omega),if_pos (within_iff.2 hsq)]),if_pos hsu,if_pos (by omega)]
 unfold chkP
 rw [hf]
 dsimp only
 rw [if_pos ⟨rfl,Ycv _⟩]
theorem Zpl {h:Hal} (hk:h.ok) {s:Stg} (e:serr h s=0):nsN h<=18:=by
 have:=(Zld hk (Zgu e)).le
 unfold nsN; omega
theorem Znr (f:List Int->Option Pth) {m o:Nat} (hm:m<=18) (ho:o<=2):(refL f m o).length<=343:=by
 rw [(Zki f m o).length_eq]
 have h1:(fndP f m o).length<=(wlk m o []).length:=Nh _ _
 have h2:=Zrr m o []
 have h3:wlkB m o<=1+m+m*m:=by
  obtain rfl|rfl|rfl:o=0\/o=1\/o=2:=by omega
  ·simp [wlkB]; omega
  ·simp [wlkB]
  ·simp [wlkB,Nat.mul_add]; omega
 have h4:m*m<=18*18:=Kh hm hm
 omega
section
variable {h:Hal} {s:Stg} {a:Ask}
end
end Go.Proofs.YtfkdpbklbegnlaaGreat
namespace Go.En
def dnL:List (Int × Int)->Int->Int
 | [],x=>x
 | c::l,x=>dnL l (x*c.1 / 1000*c.2 / 1000)
def upL:List (Int × Int)->Int->Int
 | [],x=>x
 | c::l,x=>upL l (((x*c.1+1000-1) / 1000*c.2+1000-1) / 1000)
def pw:List (Int × Int)->Int
 | []=>1
 | c::l=>c.1*c.2*pw l
theorem Ydx:∀ (l:List (Int × Int)) (c:Int × Int),pw (l++[c])=pw l*(c.1*c.2)
 | [],c=>by simp [pw]
 | a::l,c=>by
  simp only [Ss,pw,Ydx l c]
  ac_rfl
theorem pw_rev:∀ l:List (Int × Int),pw l.reverse=pw l
 | []=>rfl
 | a::l=>by rw [List.reverse_cons,Ydx,pw_rev l,pw,Re]
theorem Zgz:∀ {l:List (Int × Int)},(∀ c∈l,0<=c.1/\0<=c.2)->0<=pw l
 | [],_=>by simp [pw]
 | a::l,h=>Qq (Qq (h a (by simp)).1 (h a (by simp)).2) (Zgz fun c hc=>h c (by simp [hc]))
theorem up_mulx (x:Int) {p:Int} (hp:0<p):x<=(x+p-1) / p*p:=by
 have h1:=Int.emod_add_mul_ediv (x+p-1) p
 have h2:=Int.emod_lt_of_pos (x+p-1) hp
 rw [Re p] at h1
 omega
theorem dnL_le:∀ {l:List (Int × Int)} {x:Int},(∀ c∈l,0<=c.1/\0<=c.2)->0<=x->dnL l x*1000000 ^ l.length<=x*pw l/\0<=dnL l x
 | [],x,_,hx=>by simp [dnL,pw,hx]
 | c::l,x,h,hx=>by
  obtain ⟨c1,c2⟩:=h c (by simp)
  have y1:0<=x*c.1 / 1000:=Ts (Qq hx c1) (by omega)
  have y2:0<=x*c.1 / 1000*c.2 / 1000:=Ts (Qq y1 c2) (by omega)
  have hp:=Zgz (l:=l) fun c hc=>h c (by simp [hc])
  obtain ⟨i1,i2⟩:=dnL_le (l:=l) (fun c hc=>h c (by simp [hc])) y2
  refine ⟨?_,i2⟩
  have d1:x*c.1 / 1000*1000<=x*c.1:=Ll _ (by omega)
  have d2:x*c.1 / 1000*c.2 / 1000*1000<=x*c.1 / 1000*c.2:=Ll _ (by omega)
  have d3:x*c.1 / 1000*1000*c.2<=x*c.1*c.2:=Qg d1 c2
  have d4:x*c.1 / 1000*c.2 / 1000*1000000<=x*c.1*c.2:=by
   have:x*c.1 / 1000*1000*c.2=x*c.1 / 1000*c.2*1000:=by rw [Tc,Re 1000,<-Tc]
   omega
  have d5:=Qg d4 hp
  have d6:=Qg i1 (show (0:Int)<=1000000 by omega)
  show dnL l (x*c.1 / 1000*c.2 / 1000)*1000000 ^ (l.length+1)<=x*(c.1*c.2*pw l)
  rw [Ns,<-Tc]
  refine Nt d6 ?_
  rw [show ∀ A:Int,A*pw l*1000000=A*1000000*pw l from fun A=>by ac_rfl]
  refine Nt d5 ?_
  rw [Tc x c.1,Tc x]
  exact Fr _
theorem upL_ge:∀ {l:List (Int × Int)} {x:Int},(∀ c∈l,0<=c.1/\0<=c.2)->0<=x->x*pw l<=upL l x*1000000 ^ l.length/\0<=upL l x
 | [],x,_,hx=>by simp [upL,pw,hx]
 | c::l,x,h,hx=>by
  obtain ⟨c1,c2⟩:=h c (by simp)
  have m1:=Qq hx c1
  have y1:0<=(x*c.1+1000-1) / 1000:=Ts (by omega) (by omega)
  have m2:=Qq y1 c2
  have y2:0<=((x*c.1+1000-1) / 1000*c.2+1000-1) / 1000:=Ts (by omega) (by omega)
  have hp:=Zgz (l:=l) fun c hc=>h c (by simp [hc])
  obtain ⟨i1,i2⟩:=upL_ge (l:=l) (fun c hc=>h c (by simp [hc])) y2
  refine ⟨?_,i2⟩
  have d1:=up_mulx (x*c.1) (show (0:Int)<1000 by omega)
  have d2:=up_mulx ((x*c.1+1000-1) / 1000*c.2) (show (0:Int)<1000 by omega)
  have d3:=Qg d1 c2
  have d4:x*c.1*c.2<=((x*c.1+1000-1) / 1000*c.2+1000-1) / 1000*1000000:=by
   have:(x*c.1+1000-1) / 1000*1000*c.2=(x*c.1+1000-1) / 1000*c.2*1000:=by rw [Tc,Re 1000,<-Tc]
   omega
  have d5:=Qg d4 hp
  have d6:=Qg i1 (show (0:Int)<=1000000 by omega)
  show x*(c.1*c.2*pw l)<=upL l (((x*c.1+1000-1) / 1000*c.2+1000-1) / 1000)*1000000 ^ (l.length+1)
  rw [Ns,<-Tc (upL _ _)]
  refine Nt ?_ d6
  rw [show ∀ A:Int,A*pw l*1000000=A*1000000*pw l from fun A=>by ac_rfl]
  refine Nt ?_ d5
  rw [Tc x c.1,Tc x]
  exact Fr _
theorem it_dn {q:Int} (hq:0<=q) (f:Nat->Int->Int) (h0:∀ x,f 0 x=x) (hs:∀ n x,f (n+1) x=f n (x*q / 1000000)):∀ (n:Nat) {x:Int},0<=x->f n x*1000000 ^ n<=x*q ^ n/\0<=f n x
 | 0,x,hx=>by simp [h0,hx]
 | n+1,x,hx=>by
  have y:0<=x*q / 1000000:=Ts (Qq hx hq) (by omega)
  obtain ⟨i1,i2⟩:=it_dn hq f h0 hs n y
  rw [hs]
  refine ⟨?_,i2⟩
  have d1:x*q / 1000000*1000000<=x*q:=Ll _ (by omega)
  have d5:=Qg d1 (show 0<=q ^ n from Mo hq)
  have d6:=Qg i1 (show (0:Int)<=1000000 by omega)
  rw [Ns,<-Tc]
  refine Nt d6 ?_
  rw [show ∀ A:Int,A*q ^ n*1000000=A*1000000*q ^ n from fun A=>by ac_rfl]
  refine Nt d5 ?_
  rw [Ns,Re (q ^ n),Tc]
  exact Fr _
theorem it_up {q:Int} (hq:0<=q) (f:Nat->Int->Int) (h0:∀ x,f 0 x=x) (hs:∀ n x,f (n+1) x=f n ((x*q+1000000-1) / 1000000)):∀ (n:Nat) {x:Int},0<=x->x*q ^ n<=f n x*1000000 ^ n/\0<=f n x
 | 0,x,hx=>by simp [h0,hx]
 | n+1,x,hx=>by
  have m:=Qq hx hq
  have y:0<=(x*q+1000000-1) / 1000000:=Ts (by omega) (by omega)
  obtain ⟨i1,i2⟩:=it_up hq f h0 hs n y
  rw [hs]
  refine ⟨?_,i2⟩
  have d1:=up_mulx (x*q) (show (0:Int)<1000000 by omega)
  have d5:=Qg d1 (show 0<=q ^ n from Mo hq)
  have d6:=Qg i1 (show (0:Int)<=1000000 by omega)
  rw [Ns 1000000,<-Tc]
  refine Nt ?_ d6
  rw [show ∀ A:Int,A*q ^ n*1000000=A*1000000*q ^ n from fun A=>by ac_rfl]
  refine Nt ?_ d5
  rw [Ns,Re (q ^ n),Tc]
  exact Fr _
theorem meet {l r:List (Int × Int)} (hl:∀ c∈l,0<=c.1/\0<=c.2) (hr:∀ c∈r,0<=c.1/\0<=c.2) (hpw:pw r=pw l) (hlen:r.length=l.length) {sq q lo hi:Int} {a:Int × Int} {n m:Nat} (hq:0<=q) (hq1:q<=1000000) (hs:0<sq) (h0:0<=a.1/\a.1*sq<=1000000000000) (h1:1000000000000<=a.2*sq)
  (hnm:m<=n) (h2:lo*1000000 ^ n<=dnL l a.1*q ^ n) (h3:upL r a.2*q ^ m<=hi*1000000 ^ m):lo<=hi:=by
 have ha2:0<=a.2:=by
  rcases Nb a.2 0 with h|h
  ·have:=Qq (show 0 <= -a.2 by omega) (show 0<=sq by omega)
   rw [Tt] at this;omega
  ·exact h
 have hp:=Zgz hl
 obtain ⟨i1,_⟩:=dnL_le hl h0.1
 obtain ⟨j1,_⟩:=upL_ge hr ha2
 rw [hpw,hlen] at j1
 generalize pw l=P at *
 generalize dnL l a.1=x at *
 generalize upL r a.2=y at *
 have hM:(0:Int)<=1000000 ^ l.length:=Mo (by omega)
 have hM0:(0:Int)<1000000 ^ l.length:=Qay (by omega)
 generalize (1000000:Int) ^ l.length=M at *
 obtain ⟨k,rfl⟩:∃ k,n=m+k:=⟨n-m,by omega⟩
 have hqn:0<=q ^ m:=Mo hq
 have hqk:0<=q ^ k:=Mo hq
 have hT0:(0:Int)<1000000 ^ m:=Qay (by omega)
 have hK0:(0:Int)<1000000 ^ k:=Qay (by omega)
 have hqK:q ^ k<=1000000 ^ k:=by
  clear h2 hqk hK0
  induction k with
  | zero=>simp
  | succ k ih =>
   rw [Ns,Ns];exact Ol (ih (by omega)) hq1 hq (Mo (by omega))
 rw [Int.pow_add,Int.pow_add] at h2
 generalize q ^ m=Q at *
 generalize q ^ k=R at *
 generalize (1000000:Int) ^ m=T at *
 generalize (1000000:Int) ^ k=K at *
 have c1:lo*(T*K)*(M*sq)<=x*(Q*R)*(M*sq):=Qg h2 (Qq hM (by omega))
 have c2:x*M*(Q*R*sq)<=a.1*P*(Q*R*sq):=Qg i1 (Qq (Qq hqn hqk) (by omega))
 have c3:a.1*sq*(P*(Q*R))<=1000000000000*(P*(Q*R)):=Qg h0.2 (Qq hp (Qq hqn hqk))
 have c4:1000000000000*(P*(Q*R))<=a.2*sq*(P*(Q*R)):=Qg h1 (Qq hp (Qq hqn hqk))
 have c5:a.2*P*(sq*(Q*R))<=y*M*(sq*(Q*R)):=Qg j1 (Qq (by omega) (Qq hqn hqk))
 have c6:y*Q*(M*sq*R)<=hi*T*(M*sq*R):=Qg h3 (Qq (Qq hM (by omega)) hqk)
 have e1:x*(Q*R)*(M*sq)=x*M*(Q*R*sq):=by ac_rfl
 have e2:a.1*P*(Q*R*sq)=a.1*sq*(P*(Q*R)):=by ac_rfl
 have e3:a.2*sq*(P*(Q*R))=a.2*P*(sq*(Q*R)):=by ac_rfl
 have e4:y*M*(sq*(Q*R))=y*Q*(M*sq*R):=by ac_rfl
 rcases Nb hi lo with hlt|hge
 ·exfalso
  have e5:hi*T*(M*sq*R)=hi*(T*M*sq)*R:=by ac_rfl
  have e6:lo*(T*K)*(M*sq)=lo*(T*M*sq)*K:=by ac_rfl
  have hU:0<T*M*sq:=Rm (Rm hT0 hM0) hs
  have hy0:0<=hi:=by
   rcases Nb hi 0 with hn|hn
   ·have z1:0<=y*Q:=by
     refine Qq ?_ hqn
     rcases Nb y 0 with hy|hy
     ·have:=Rm (show 0 < -y by omega) hM0
      rw [Tt] at this;have:=Qq ha2 hp;omega
     ·exact hy
    have z2:=Rm (show 0 < -hi by omega) hT0;rw [Tt] at z2;omega
   ·exact hn
  have k1:hi*(T*M*sq)*R<=hi*(T*M*sq)*K:=Int.mul_le_mul_of_nonneg_left hqK (Qq hy0 (by omega))
  have k2:hi*(T*M*sq)<lo*(T*M*sq):=Tg hlt hU
  have k3:hi*(T*M*sq)*K<lo*(T*M*sq)*K:=Tg k2 hK0
  omega
 ·exact hge
end Go.En
namespace Go.Proofs.YtfkdpbklbegnlaaGreat
open Go Go.Sx
def fct (h:Hal) (s:Stg) (b:Int) (n:Int):Int × Int:=(1000-absB (matS h s n) b,1000-(matS h s n).sc)
theorem Zzr (h:Hal) (s:Stg) (b:Int):∀ (l:List Int) (e:Int × Int),(enL h s b l e).1=En.dnL (l.map (fct h s b)) e.1/\(enL h s b l e).2=En.upL (l.map (fct h s b)) e.2
 | [],e=>⟨rfl,rfl⟩
 | n::l,e=>Zzr h s b l (lft (matS h s n) b e)
theorem Yej {h:Hal} {s:Stg} (g:Sit h s) {b:Int} {l:List Int} (hin:∀ n∈l,SK h n):∀ c∈l.map (fct h s b),0<=c.1/\0<=c.2:=by
 intro c hc
 obtain ⟨n,hn,rfl⟩:=Wd.1 hc
 have h1:=(Zok g (b:=b) (hin n hn)).1
 have h2:=Zt4 g.fine (Zg4 g (hin n hn))
 unfold fct
 dsimp only
 omega
theorem Zod {h:Hal} {s:Stg} (g:Sit h s) {sq a b:Int} {l r:List Int} (h0:1<=sq) (h1:sq<=24300000000) (hl:∀ n∈l,SK h n) (hr:r=l\/r=l.reverse) (ha:0<=a/\a<=100000) :
  (enZ sq a (enL h s b l (enA sq))).1<=(enZ sq a (enL h s b r (enA sq))).2:=by
 have hr0:∀ n∈r,SK h n:=fun n hn=>by
  rcases hr with rfl|rfl
  ·exact hl n hn
  ·exact hl n (Qas.1 hn)
 have k1:=Yej g (b:=b) hl
 have k2:=Yej g (b:=b) hr0
 have e1:En.pw (r.map (fct h s b))=En.pw (l.map (fct h s b)):=by
  rcases hr with rfl|rfl
  ·rfl
  ·rw [List.map_reverse,En.pw_rev]
 have e2:(r.map (fct h s b)).length=(l.map (fct h s b)).length:=by
  rcases hr with rfl|rfl<;>simp
 have A:=Zuw h0 h1
 have hA1:(enA sq).1*sq<=1000000000000:=Ll _ (by omega)
 have hA2:1000000000000<=(enA sq).2*sq:=En.up_mulx _ (by omega)
 have hnm:=(Zzd h0 h1).2.2.1
 obtain ⟨d1,_⟩:=Zzr h s b l (enA sq)
 obtain ⟨_,d2⟩:=Zzr h s b r (enA sq)
 have p1:=(En.dnL_le k1 A.a.1).2
 have p2:=(En.upL_ge k2 A.b.1).2
 refine En.meet k1 k2 e1 e2 (a:=enA sq) (q:=1000000-a) (by omega) (by omega) (by omega) ⟨A.a.1,hA1⟩ hA2 hnm ?_ ?_
 ·unfold enZ
  dsimp only
  rw [d1]
  exact (En.it_dn (q:=1000000-a) (by omega) (fun n x=>itN (fun x=>x*(1000000-a) / 1000000) n x) (fun _=>rfl) (fun _ _=>rfl) _ p1).1
 ·unfold enZ
  dsimp only
  rw [d2]
  exact (En.it_up (q:=1000000-a) (by omega) (fun n x=>itN (fun x=>(x*(1000000-a)+1000000-1) / 1000000) n x) (fun _=>rfl) (fun _ _=>rfl) _ p2).1
theorem Ycz {h:Hal} {s:Stg} (g:Sit h s) {p:Pth} {a b:Int} (hp:pthE p=0) (hl:∀ n∈p.ss,SK h n) (ha:0<=a/\a<=100000) :
  ((enV h s p b a).1<=(enV h s p b a).2/\(enV h s p b a).1<=(enV h s (trV p) b a).2)/\(enV h s (trV p) b a).1<=(enV h s p b a).2/\(enV h s (trV p) b a).1<=(enV h s (trV p) b a).2:=by
 obtain ⟨_,h0,h1⟩:=Ul hp
 have hl' : ∀ n∈p.ss.reverse,SK h n:=fun n hn=>hl n (Qas.1 hn)
 unfold enV trV
 dsimp only
 exact ⟨⟨Zod g h0 h1 hl (.inl rfl) ha,Zod g h0 h1 hl (.inr rfl) ha⟩,Zod g h0 h1 hl' (.inr (List.reverse_reverse _).symm) ha,Zod g h0 h1 hl' (.inl rfl) ha⟩
theorem Ykz (n lo hi:Int):PCall Tryz.prog 68 [I n,I lo,I hi] ⟨Bo (within n lo hi),[]⟩:=by
 refine pn Zc Tryz.func68 ?_
 repeat'(first|refine wk3 ?_|(refine wk2 ?_ ?_<;>intro _)|fail)
 all_goals exact Zb (by simp_all [within]<;>omega)
theorem d38u (n lo hi:Int):PCall Tryz.prog 16 [I n,I lo,I hi] ⟨Bo (within n lo hi),[]⟩:=c30 n lo hi
def rWe:List AV->Option PRes
 | [.int .i64 n,.int .i64 lo,.int .i64 hi]=>some ⟨Bo (within n lo hi),[]⟩
 | _=>none
def kVe:PC:=ins 16 rWe (ins 68 rWe pt0)
theorem Zyf:PCOK Tryz.prog kVe:=by
 refine Zh (fun a res h=>?_) (Zh (fun a res h=>?_) Zc)
 ·unfold rWe at h; split at h<;>cases h; exact d38u _ _ _
 ·unfold rWe at h; split at h<;>cases h; exact Ykz _ _ _
theorem d94 (n:Int):PCall Tryz.prog 44 [I n] ⟨I (unl (within n 30000 40000) 2),[]⟩:=by
 refine pn Zyf Tryz.func44 ?_
 repeat'(first|refine wk3 ?_|(refine wk2 ?_ ?_<;>intro _)|fail)
 all_goals exact Za (by simp_all [unl])
def rSpE:List AV->Option PRes
 | [.int .i64 n]=>some ⟨I (unl (within n 30000 40000) 2),[]⟩
 | _=>none
def kV1:PC:=ins 44 rSpE kVe
theorem Yiq:PCOK Tryz.prog kV1:=by
 refine Zh (fun a res h=>?_) Zyf
 unfold rSpE at h; split at h<;>cases h; exact d94 _
theorem Ykq (b a v:Int):PCall Tryz.prog 12 [P3 b a v] ⟨I (airE b a v),[]⟩:=by
 unfold airE
 cases h1:within b 0 3<;>cases h2:within a 0 100000<;>cases h3:within v 30000 40000
 all_goals
  refine pn Yiq Tryz.func12 ?_
  repeat'(first|refine wk3 ?_|(refine wk2 ?_ ?_<;>intro _)|fail)
 all_goals first
  | exact Za rfl
  | (refine Za ?_; simp_all [unl]; done)
  | (exfalso; simp_all [unl]; done)
theorem d88 (b a v:Int):PCall Tryz.prog 34 [P3 b a v] ⟨I (airE b a v),[]⟩:=by
 unfold airE
 cases h1:within b 0 3<;>cases h2:within a 0 100000<;>cases h3:within v 30000 40000
 all_goals
  refine pn Zyf Tryz.func34 ?_
  repeat'(first|refine wk3 ?_|(refine wk2 ?_ ?_<;>intro _)|fail)
 all_goals first
  | exact Za rfl
  | (refine Za ?_; simp_all; done)
  | (exfalso; simp_all; done)
end Go.Proofs.YtfkdpbklbegnlaaGreat
namespace Go.Proofs
open Go.Shelf
def Tryz.laysS114_ren:Go.Shelf.Ren:=⟨fun|6=>72|15=>117|14=>116|28=>187|29=>188|20=>179|21=>180|22=>181|23=>182|24=>183|25=>184|26=>185|27=>186|46=>263|47=>264|48=>265|49=>266|50=>267|57=>295|n=>n,fun|22=>90|24=>75|25=>139|3=>3|39=>195|0=>0|53=>257|55=>259|4=>4|46=>250|45=>249|50=>254|5=>5|9=>9|66=>311|70=>315|76=>330|77=>212|n=>n,fun|n=>n⟩
theorem Tryz.laysS114:Go.Proofs.SlLaysF0.n6 Tryz.prog Tryz.laysS114_ren:={
 mixed:=by kernel_rfl
 f6:=⟨Tryz.f72.name,by decide,Tryz.func72.trans (congrArg some (by kernel_rfl))⟩
 f14:=⟨Tryz.f116.name,by decide,Tryz.func116.trans (congrArg some (by kernel_rfl))⟩
 f15:=Tryz.func117.trans (congrArg some (by kernel_rfl))
 f20:=⟨Tryz.f179.name,by decide,Tryz.func179.trans (congrArg some (by kernel_rfl))⟩
 f21:=⟨Tryz.f180.name,by decide,Tryz.func180.trans (congrArg some (by kernel_rfl))⟩
 f22:=⟨Tryz.f181.name,by decide,Tryz.func181.trans (congrArg some (by kernel_rfl))⟩
 f23:=⟨Tryz.f182.name,by decide,Tryz.func182.trans (congrArg some (by kernel_rfl))⟩
 f24:=⟨Tryz.f183.name,by decide,Tryz.func183.trans (congrArg some (by kernel_rfl))⟩
 f25:=⟨Tryz.f184.name,by decide,Tryz.func184.trans (congrArg some (by kernel_rfl))⟩
 f26:=⟨Tryz.f185.name,by decide,Tryz.func185.trans (congrArg some (by kernel_rfl))⟩
 f27:=⟨Tryz.f186.name,by decide,Tryz.func186.trans (congrArg some (by kernel_rfl))⟩
 f28:=Tryz.func187.trans (congrArg some (by kernel_rfl))
 f29:=Tryz.func188.trans (congrArg some (by kernel_rfl))
 f46:=⟨Tryz.f263.name,by decide,Tryz.func263.trans (congrArg some (by kernel_rfl))⟩
 f47:=Tryz.func264.trans (congrArg some (by kernel_rfl))
 f48:=Tryz.func265.trans (congrArg some (by kernel_rfl))
 f49:=⟨Tryz.f266.name,by decide,Tryz.func266.trans (congrArg some (by kernel_rfl))⟩
 f50:=⟨Tryz.f267.name,by decide,Tryz.func267.trans (congrArg some (by kernel_rfl))⟩
 f57:=⟨Tryz.f295.name,by decide,Tryz.func295.trans (congrArg some (by kernel_rfl))⟩
 t0:=Tryz.underlying0
 a0:=Tryz.isAgg0
 z0:=Tryz.sizeOf0
 v0:=Tryz.zeroValue0
 t3:=Tryz.underlying3
 a3:=Tryz.isAgg3
 z3:=Tryz.sizeOf3
 v3:=Tryz.zeroValue3
 t4:=Tryz.underlying4
 a4:=Tryz.isAgg4
 z4:=Tryz.sizeOf4
 v4:=Tryz.zeroValue4
 t5:=Tryz.underlying5
 a5:=Tryz.isAgg5
 z5:=Tryz.sizeOf5
 v5:=Tryz.zeroValue5
 t9:=Tryz.underlying9
 a9:=Tryz.isAgg9
 z9:=Tryz.sizeOf9
 v9:=Tryz.zeroValue9
 t22:=Tryz.underlying90
 a22:=Tryz.isAgg90
 z22:=Tryz.sizeOf90
 v22:=Tryz.zeroValue90
 t25:=Tryz.underlying139
 a25:=Tryz.isAgg139
 z25:=Tryz.sizeOf139
 v25:=Tryz.zeroValue139
 t39:=Tryz.underlying195
 a39:=Tryz.isAgg195
 z39:=Tryz.sizeOf195
 v39:=Tryz.zeroValue195
 t45:=Tryz.underlying249
 a45:=Tryz.isAgg249
 z45:=Tryz.sizeOf249
 v45:=Tryz.zeroValue249
 t46:=Tryz.underlying250
 a46:=Tryz.isAgg250
 z46:=Tryz.sizeOf250
 v46:=Tryz.zeroValue250
 t50:=Tryz.underlying254
 a50:=Tryz.isAgg254
 z50:=Tryz.sizeOf254
 v50:=Tryz.zeroValue254
 t53:=Tryz.underlying257
 a53:=Tryz.isAgg257
 z53:=Tryz.sizeOf257
 v53:=Tryz.zeroValue257
 t55:=Tryz.underlying259
 a55:=Tryz.isAgg259
 z55:=Tryz.sizeOf259
 v55:=Tryz.zeroValue259
 t66:=Tryz.underlying311
 a66:=Tryz.isAgg311
 z66:=Tryz.sizeOf311
 v66:=Tryz.zeroValue311
 t70:=Tryz.underlying315
 a70:=Tryz.isAgg315
 z70:=Tryz.sizeOf315
 v70:=Tryz.zeroValue315
 t76:=Tryz.underlying330
 a76:=Tryz.isAgg330
 z76:=Tryz.sizeOf330
 v76:=Tryz.zeroValue330
 t77:=Tryz.underlying212
 a77:=Tryz.isAgg212
 z77:=Tryz.sizeOf212
 v77:=Tryz.zeroValue212 }
theorem Tryz.sorts114:Go.Sx.SortsK Tryz.prog 72 3:={
 some:=fun m _ enc hk h1 cf hO g blk off cap d w eg hcmp hH hblk hsz=>AnyQ.slices_SortFunc Tryz.laysS114 3 Tryz.isAgg75 Tryz.sizeOf75 enc hk h1 cf hO g #[] blk off cap d w eg hcmp hH hblk hsz
 none:=fun p cap fv w=>AnyF.slices_SortFunc_none Tryz.laysS114 p cap fv w }
end Go.Proofs
