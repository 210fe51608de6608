/- A part of the proof: lemmas. -/
import Derived.Test.YtfkdpbklbegnlaaGreatV14
import Derived.Test.YtfkdpbklbegnlaaGreatV8
import Derived.Test.YtfkdpbklbegnlaaGreatV12
import Derived.Test.YtfkdpbklbegnlaaGreatV7
import Derived.Test.YtfkdpbklbegnlaaGreatV9
import Derived.Test.YtfkdpbklbegnlaaGreatV13
import Derived.Shelf.SlSortCmp.Insertion
import Derived.Sort.Statements
set_option linter.unusedVariables false
set_option linter.unusedSimpArgs false
set_option maxRecDepth 100000
set_option maxHeartbeats 16000000
open Bool renaming and_eq_true->Qc,eq_false_iff->Qt,not_eq_true'->Sb
open Go.IntKind renaming i64->Qb,wrap->Qa
open Go.Sx.AV.isl renaming injEq->Ng
open Go.Sx.CtT renaming mk->Qcn
open Go.Sx.Done renaming mk->Qq
open Go.Sx.Fits renaming here->Jy
open Go.Sx.Yd renaming mk->Ga
open Int renaming add_comm->Wb,eq_of_mul_eq_mul_right->Jh,le_of_lt->Rf,lt_or_le->Oc,lt_trichotomy->Pi,mul_le_mul->Nz,mul_nonneg->Qo,mul_one->Sc,mul_pos->Rk,natAbs_mul->Tx,neg_mul->Td,neg_mul_neg->Qao,sub_mul->My,toNat->Sy,toNat_natCast->Rl
open List renaming Nodup->Fr,append_assoc->Rx,append_nil->Pk,cons_append->Tn,drop->Ds,drop_eq_getElem_cons->Qi,drop_of_length_le->Qk,flatMap_assoc->Fq,flatMap_cons->Tb,flatMap_nil->Hm,getElem?_map->Rt,getElem?_set->Ll,getElem_mem->Qr,length->Kg,length_append->Tj,length_cons->Sn,length_eq_zero_iff->Tq,length_filterMap_le->Jv,length_map->Rw,map_append->Oq,map_set->Kv,mem_cons->Ra,mem_filterMap->Nh,mem_flatMap->Mf,mem_iff_getElem->Ow,mem_map->Ph,mem_or_eq_of_mem_set->Wi,mem_range'_1->De,mem_singleton->Tw,nil_append->Wg,pairwise_cons->Tv,range->Tu,replicate->Rs,take->Dq
open List.Perm renaming refl->Ma
open List.cons renaming injEq->Qx
open Nat renaming dvd_gcd->Dz,dvd_mul_left->Hn,gcd_mul_right->Oy,le_refl->Qd,le_trans->Qs,lt_or_ge->Py,mul_le_mul->Li,one_mul->Gs,zero_add->Sf,zero_le->Qn
open Option.some renaming injEq->Qe
namespace Go.Proofs.YtfkdpbklbegnlaaGreat
open Go Go.Sx
def rowP (o:Option Pth):PRes:=match o with
 | none=>⟨.tup [.agg [.nils,.nils,I 0],Bo false],[]⟩
 | some p=>⟨.tup [.agg [.asl 0 0 (nl p.ss).length,.asl 1 0 (p.ps.map hp4).length,I p.sq],Bo true],[(1,nl p.ss),(4,p.ps.map hp4)]⟩
theorem Yar (o:Option Pth):Vc (rowP o).blks.length (rowP o).v=true:=by cases o<;>rfl
noncomputable abbrev clR:List AV->Option PRes:=famA (fun ps:List (Int × Int × Int × Int)=>0<ps.length/\ps.length<100000) (fun ps=>[.isl 4 (ps.map hp4)]) (fun ps=>⟨.asl 0 0 (ps.map hp4).length,[(4,ps.map hp4)]⟩)
theorem Yih {pt:PC} (hp:PCOK Tryz.prog pt):PCOK Tryz.prog (ins 114 clR pt):=Yl (fun ps hl=>d104 hl.1 hl.2) hp
theorem Yf5 {ps:List (Int × Int × Int × Int)} (h0:0<ps.length) (h:ps.length<100000):clR [.isl 4 (ps.map hp4)]=some ⟨.asl 0 0 (ps.map hp4).length,[(4,ps.map hp4)]⟩ :=
 Zx (p:=fun ps:List (Int × Int × Int × Int)=>0<ps.length/\ps.length<100000) (g:=fun ps=>[.isl 4 (ps.map hp4)]) (r:=fun ps=>⟨.asl 0 0 (ps.map hp4).length,[(4,ps.map hp4)]⟩) (fun j hj=>by
  simp only [Qx,Ng,true_and,and_true] at hj
  rw [hj]) ⟨h0,h⟩
noncomputable def Yhk (h:Hal) (s:Stg) (q0:Pl3) (ns:List Int):PC:=ins 111 (oneA [.agg (stgL h s),P3 q0.1 q0.2.1 q0.2.2,.isl 1 (nl ns)] ⟨.isl 3 (imC (im1 h s) q0 ns ns.length),[]⟩) (ins 107 r123 (ins 112 (crsT h s) (ins 113 (wayT h s) (ins 115 r126 (ins 114 clR (ins 37 (oneA [.isl 1 (nl ns)] ⟨.asl 0 0 (nl ns).length,[(1,nl ns)]⟩) pt0))))))
theorem Ybi {h:Hal} (hk:h.ok) {s:Stg} (hs:s.few) (e0:serr h s=0) {q0:Pl3} (hf:Near 5000 q0) {ns:List Int} (h0:0<ns.length) (hl:ns.length<=4) (hi:∀ n∈ns,0<=n/\n<nsur h):PCOK Tryz.prog (Yhk h s q0 ns) :=
 Zfr (d82f hk hs e0 hf hl hi) (Zwq (Zy5 hk hs (Zvu hk hs (Zwp (Yih (Zfr (d103 (ns:=ns) h0 (by omega)) Zb))))))
theorem d65r {h:Hal} (hk:h.ok) {s:Stg} (hs:s.few) (e0:serr h s=0) (a:Ask) (hf:Near 5000 (a.fx,a.fy,a.fz)) (ht:Near 5000 (a.tx,a.ty,a.tz)) {ns:List Int} (h0:0<ns.length) (hl:ns.length<=4) (hi:∀ n∈ns,0<=n/\n<nsur h) :
  PCall Tryz.prog 71 [.agg (stgL h s),a.av,.isl 1 (nl ns)] (rowP (Yo h s (a.fx,a.fy,a.fz) (a.tx,a.ty,a.tz) ns)):=by
 obtain ⟨fx,fy,fz,tx,ty,tz,n⟩:=a
 dsimp only at hf ht ⊢
 have hk0:=Ybi hk hs e0 hf h0 hl hi
 unfold Yhk at hk0
 have w0:=Zsv hf
 have wT:=Zsv ht
 have ll:=Zl ns
 have o1:=Zcu [.agg (stgL h s),P3 fx fy fz,.isl 1 (nl ns)] ⟨.isl 3 (imC (im1 h s) (fx,fy,fz) ns ns.length),[]⟩
 have o2:=Zcu [.isl 1 (nl ns)] ⟨.asl 0 0 (nl ns).length,[(1,nl ns)]⟩
 have hR:=Zbm h s (fx,fy,fz) (tx,ty,tz) ns
 generalize Yo h s (fx,fy,fz) (tx,ty,tz) ns=R at *
 have il:=Zka (im1 h s) (fx,fy,fz) ns ns.length
 have x2:Qa Qb (((nl ns).length:Int)+2)=((ns.length+2:Nat):Int):=by rw [ll,W_eq (by omega) (by omega)]; omega
 have x1:Qa Qb (((nl ns).length:Int)+1)=((ns.length+1:Nat):Int):=by rw [ll,W_eq (by omega) (by omega)]; omega
 have a1:decide (0<=Qa Qb (((nl ns).length:Int)+2)/\(Qa Qb (((nl ns).length:Int)+2)).toNat<=1000000)=true:=by rw [x2]; exact decide_eq_true ⟨by omega,by omega⟩
 have g0:(Rs (Qa Qb (((nl ns).length:Int)+2)).toNat (ptc ptZ))[0+Sy 0]?=some (ptc ptZ):=by
  rw [x2,Rl,List.getElem?_replicate,if_pos (by omega)]
 have g1:(Ziv (Rs (Qa Qb (((nl ns).length:Int)+2)).toNat (ptc ptZ)) (0+Sy 0) (ptc (pnt (fx,fy,fz))))[0+(Qa Qb (((nl ns).length:Int)+1)).toNat]?=some (ptc ptZ):=by
  rw [Zbh,x2,x1,Ll,if_neg (by omega)]; simp
 have hE0:Ziv (Ziv (Rs (Qa Qb (((nl ns).length:Int)+2)).toNat (ptc ptZ)) (0+Sy 0) (ptc (pnt (fx,fy,fz)))) (0+(Qa Qb (((nl ns).length:Int)+1)).toNat) (ptc (pnt (tx,ty,tz)))=(((Rs (ns.length+2) ptZ).set 0 (pnt (fx,fy,fz))).set (ns.length+1) (pnt (tx,ty,tz))).map ptc:=by
  rw [Zbh,Zbh,x2,x1,Kv,Kv,List.map_replicate]
  congr 1
  omega
 refine bs.pv (sx:=nos) hk0 Tryz.func71 (by kernel_rfl) (by kernel_rfl) (Yar _) ?_
 unfold Zic
 conv=>whnf
 repeat'(first|refine wk3 ?_|(refine wk2 ?_ ?_<;>intro _)|refine wk4 ?_|fail);all_goals(conv=>whnf)
 obtain ⟨l,hlk⟩:∃ l,l=lkG (im1 h s) (fx,fy,fz) ns:=⟨_,rfl⟩
 have hll:l.length=ns.length:=by rw [hlk,Zar]
 have hlt' : ∀ {k:Nat} (hk:k<ns.length),(l.take (k+1)).reverse=(ns[k],imA (im1 h s) (fx,fy,fz) ns (k+1))::(l.take k).reverse:=fun hk=>by rw [hlk]; exact Zm4 hk
 rw [<-hlk] at hR
 clear hlk
 refine Zy (S:=Nat × Int × List (List AV) × List Pt) (fun t=>t.1) (fun t=>[(2,.isl 1 (nl ns)),(3,.ptr 0 0 0),(4,.ptr 1 0 0),(6,.ptr 2 0 0),(8,.isl 3 (imC (im1 h s) (fx,fy,fz) ns ns.length)),(9,I (nl ns).length),(10,.asl 3 0 (Qa Qb (((nl ns).length:Int)+2)).toNat),(11,I t.2.1)])
  (fun t=>[(3,.row 4 t.2.2.1 true true),(2,.row 3 [[.nils,.nils,I 0]] true false),(1,.row 7 [[I fx,I fy,I fz,I tx,I ty,I tz,I n]] true false),(0,.row 11 [stgL h s] true false)]) 18 18
  (fun t=>t.2.1=t.1/\t.1<=ns.length/\t.2.2.1=t.2.2.2.map ptc/\t.2.2.2.length=ns.length+2/\t.2.2.2[0]?=some (pnt (fx,fy,fz))/\(∀ p∈t.2.2.2,p.wf)/\∃ to P Q,t.2.2.2.drop (t.1+1)=to::Q/\P++[pnt (tx,ty,tz)]=to::Q/\goP (fP h s) (l.take t.1).reverse to P=goP (fP h s) l.reverse (pnt (tx,ty,tz)) [])
  (ns.length,(nl ns).length,_,(((Rs (ns.length+2) ptZ).set 0 (pnt (fx,fy,fz))).set (ns.length+1) (pnt (tx,ty,tz)))) ⟨by dsimp only; rw [ll],Qd _,hE0,by simp,by simp,?_,pnt (tx,ty,tz),[],[],by rw [Zc5 (by simp)]; simp,rfl,by rw [<-hll,List.take_length]⟩ (Qd _) [] rfl (kps) (kps) ?_
 ·intro p hp
  rcases Wi hp with hp|rfl
  ·rcases Wi hp with hp|rfl
   ·rw [List.eq_of_mem_replicate hp]; exact Zll
   ·exact w0
  ·exact wT
 clear g0 g1 hE0 a1
 rintro ⟨k,i,els,pts⟩ ⟨hi1,hk1,hels,hpl,hp0,hwf,to,P,Q,hd,hPQ,hgo⟩
 dsimp only at hi1 hk1 hels hpl hp0 hwf hd hPQ hgo ⊢
 subst hi1 hels
 have lp:(pts.map ptc).length=ns.length+2:=by rw [Rw,hpl]
 refine bs.av (sx:=nos) hk0 ?_
 cases k with
 | succ j =>
  have b0:((j+1:Nat):Int)>=1:=by omega
  have b1:Qa Qb (((j+1:Nat):Int)-1)=j:=by rw [W_eq (by omega) (by omega)]; omega
  have b2:Qa Qb (((j+1:Nat):Int)+1)=((j+2:Nat):Int):=by rw [W_eq (by omega) (by omega)]; omega
  have e1:(nl ns)[(Qa Qb (((j+1:Nat):Int)-1)).toNat]?=some [I ns[j]]:=by rw [b1]; simp [nl]
  have e2:(imC (im1 h s) (fx,fy,fz) ns ns.length)[((j+1:Nat):Int).toNat]?=some (pl3 (imA (im1 h s) (fx,fy,fz) ns (j+1))):=by
   rw [Rl]; unfold imC; rw [Rt,List.getElem?_range (by omega)]; rfl
  have hto:pts[j+2]?=some to:=by rw [<-List.head?_drop,hd]; rfl
  have e3:(pts.map ptc)[0+(Qa Qb (((j+1:Nat):Int)+1)).toNat]?=some (ptc to):=by rw [b2,Rl,Sf,Rt,hto]; rfl
  have e4:(pts.map ptc)[0+((j+1:Nat):Int).toNat]?=some (ptc (pts[j+1]'(by omega))):=by rw [Rl,Sf]; exact Zhq (by omega)
  have wto:to.wf:=hwf _ (List.mem_of_getElem? hto)
  rw [hlt' (by omega),goP] at hgo
  have c1:=Ztp (h:=h) (s:=s) (c:=⟨ns[j],(imA (im1 h s) (fx,fy,fz) ns (j+1)).1,(imA (im1 h s) (fx,fy,fz) ns (j+1)).2.1,(imA (im1 h s) (fx,fy,fz) ns (j+1)).2.2,to⟩) wto
  have w1:=Zy6 (h:=h) (s:=s) ⟨ns[j],(imA (im1 h s) (fx,fy,fz) ns (j+1)).1,(imA (im1 h s) (fx,fy,fz) ns (j+1)).2.1,(imA (im1 h s) (fx,fy,fz) ns (j+1)).2.2,to⟩ hk hs
  have hfp:fP h s ns[j] (imA (im1 h s) (fx,fy,fz) ns (j+1)) to=crsA h s ⟨ns[j],(imA (im1 h s) (fx,fy,fz) ns (j+1)).1,(imA (im1 h s) (fx,fy,fz) ns (j+1)).2.1,(imA (im1 h s) (fx,fy,fz) ns (j+1)).2.2,to⟩:=rfl
  rw [hfp] at hgo
  clear hfp
  generalize crsA h s ⟨ns[j],(imA (im1 h s) (fx,fy,fz) ns (j+1)).1,(imA (im1 h s) (fx,fy,fz) ns (j+1)).2.1,(imA (im1 h s) (fx,fy,fz) ns (j+1)).2.2,to⟩=r at *
  obtain ⟨⟨x,y,z,d⟩,E⟩:=r
  generalize imA (im1 h s) (fx,fy,fz) ns (j+1)=q at *
  obtain ⟨qx,qy,qz⟩:=q
  obtain ⟨X,Y,Z,V⟩:=to
  dsimp only at hgo w1 c1
  by_cases hE:E=0
  ·subst hE
   rw [if_pos rfl] at hgo
   have hs1:Ziv (pts.map ptc) (0+((j+1:Nat):Int).toNat) (ptc ⟨x,y,z,d⟩)=(pts.set (j+1) ⟨x,y,z,d⟩).map ptc:=by
    rw [Rl,Sf]; exact Zn0 _ _ _
   repeat'(first|refine wk3 ?_|(refine wk2 ?_ ?_<;>intro _)|refine wk4 ?_|fail);all_goals(conv=>whnf)
   exact Qq ⟨(j,_,_,pts.set (j+1) ⟨x,y,z,d⟩),[],rfl,kps,kps,⟨b1,by dsimp only; omega,hs1,by dsimp only; rw [List.length_set,hpl],by dsimp only; rw [Ll,if_neg (by omega)]; exact hp0,(fun p hp=>by
    rcases Wi hp with hp|rfl
    ·exact hwf p hp
    ·exact w1),⟨x,y,z,d⟩,⟨x,y,z,d⟩::P,⟨X,Y,Z,V⟩::Q,by dsimp only; rw [Zc5 (by omega),hd],by rw [Tn,hPQ],hgo⟩,by dsimp only; omega⟩
  ·rw [if_neg hE] at hgo
   rw [<-hgo] at hR
   dsimp only at hR
   subst hR
   repeat'(first|refine wk3 ?_|(refine wk2 ?_ ?_<;>intro _)|refine wk4 ?_|fail);all_goals(conv=>whnf)
   all_goals exact Zg rfl rfl
 | zero =>
  have hpe:pts=pnt (fx,fy,fz)::P++[pnt (tx,ty,tz)]:=by
   rw [Tn,hPQ,<-hd]
   clear hk0 hwf lp hpl
   cases pts with
   | nil=>cases hp0
   | cons p r=>cases hp0; rfl
  rw [List.take_zero,List.reverse_nil,goP] at hgo
  rw [<-hgo] at hR
  dsimp only at hR
  rw [<-hpe] at hR
  have hPl:P.length=ns.length:=by
   have:=congrArg Kg hpe
   simp at this; omega
  clear hgo hlt' hd hPQ Q to
  repeat'(first|refine wk3 ?_|(refine wk2 ?_ ?_<;>intro _)|refine wk4 ?_|fail);all_goals(conv=>whnf)
  refine Zy (S:=Nat × Int) (fun t=>ns.length+1-t.1) (fun t=>[(2,.isl 1 (nl ns)),(3,.ptr 0 0 0),(4,.ptr 1 0 0),(6,.ptr 2 0 0),(8,.isl 3 (imC (im1 h s) (fx,fy,fz) ns ns.length)),(9,I (nl ns).length),(10,.asl 3 0 (Qa Qb (((nl ns).length:Int)+2)).toNat),(75,I (Qa Qb (((nl ns).length:Int)+1))),(76,I t.2)])
   (fun t=>[(3,.row 4 (pts.map ptc) true true),(2,.row 3 [[.nils,.nils,I 0]] true false),(1,.row 7 [[I fx,I fy,I fz,I tx,I ty,I tz,I n]] true false),(0,.row 11 [stgL h s] true false)]) 18 18
   (fun t=>t.2=t.1/\t.1<=ns.length+1/\chkW (wP h s) (pts.drop t.1)=chkW (wP h s) pts) (0,0) ⟨rfl,Qn _,rfl⟩ (Qd _) [] rfl (kps) (kps) ?_
  rintro ⟨k,i⟩ ⟨hi1,hk1,hck⟩
  dsimp only at hi1 hk1 hck ⊢
  subst hi1
  by_cases hlt:k<ns.length+1
  ·have b0:((k:Nat):Int)<Qa Qb (((nl ns).length:Int)+1):=by rw [x1]; omega
   have b2:Qa Qb (((k:Nat):Int)+1)=((k+1:Nat):Int):=by rw [W_eq (by omega) (by omega)]; omega
   have e3:(pts.map ptc)[0+((k:Nat):Int).toNat]?=some (ptc (pts[k]'(by omega))):=by rw [Rl,Sf]; exact Zhq (by omega)
   have e4:(pts.map ptc)[0+(Qa Qb (((k:Nat):Int)+1)).toNat]?=some (ptc (pts[k+1]'(by omega))):=by rw [b2,Rl,Sf]; exact Zhq (by omega)
   rw [Zpy (by omega)] at hck
   have v1:=Zsa (h:=h) (s:=s) (hwf (pts[k]'(by omega)) (Qr _)) (hwf (pts[k+1]'(by omega)) (Qr _))
   have hw:wP h s (pts[k]'(by omega)) (pts[k+1]'(by omega))=(decide (wayE h s (pts[k]'(by omega)) (pts[k+1]'(by omega))=0)&&Zea h s (pts[k]'(by omega)) (pts[k+1]'(by omega))):=rfl
   rw [hw] at hck
   clear hw
   generalize (pts[k]'(by omega))=p1 at *
   generalize (pts[k+1]'(by omega))=p2 at *
   generalize wayE h s p1 p2=u at *
   generalize Zea h s p1 p2=f at *
   obtain ⟨x1,y1,z1,d1⟩:=p1
   obtain ⟨x2,y2,z2,d2⟩:=p2
   refine bs.av (sx:=nos) hk0 ?_
   cases hb:(decide (u=0)&&f) with
   | true =>
    rw [hb,Bool.true_and] at hck
    repeat'(first|refine wk3 ?_|(refine wk2 ?_ ?_<;>intro _)|refine wk4 ?_|fail);all_goals(conv=>whnf)
    all_goals first
     | (exfalso; clear hk0; simp_all; done)
     | exact Qq ⟨(k+1,_),[],rfl,kps,kps,⟨b2,hlt,hck⟩,by dsimp only; omega⟩
   | false =>
    rw [hb,Bool.false_and] at hck
    rw [<-hck,if_neg (by simp)] at hR
    subst hR
    repeat'(first|refine wk3 ?_|(refine wk2 ?_ ?_<;>intro _)|refine wk4 ?_|fail);all_goals(conv=>whnf)
    all_goals first
     | exact Zg rfl rfl
     | (exfalso; clear hk0; simp_all; done)
  ·have hke:k=ns.length+1:=by omega
   subst hke
   rw [Zpz (by omega)] at hck
   rw [<-hck,if_pos rfl] at hR
   subst hR
   refine Awp.froz [3] rfl (bs.av (sx:=nos) hk0 ?_)
   conv=>whnf
   repeat'(first|refine wk3 ?_|(refine wk2 ?_ ?_<;>intro _)|refine wk4 ?_|fail);all_goals(conv=>whnf)
   have y1:Ze0 (some (I (Qa Qb (((nl ns).length:Int)+1)))) (Qa Qb (((nl ns).length:Int)+2)).toNat=some (ns.length+1):=by
    show cond (decide (0<=Qa Qb (((nl ns).length:Int)+1))) (some (Qa Qb (((nl ns).length:Int)+1)).toNat) none=_
    rw [x1,decide_eq_true (by omega)]
    simp only [cond_true,Qe]; omega
   have cl:clR [.isl 4 (Dq (ns.length+1-Sy 1) (Ds (0+Sy 1) (pts.map ptc)))]=some ⟨.asl 0 0 ((P.map tup4).map hp4).length,[(4,(P.map tup4).map hp4)]⟩:=by
    have e:Dq (ns.length+1-Sy 1) (Ds (0+Sy 1) (pts.map ptc))=(P.map tup4).map hp4:=by
     rw [hpe,Tn,List.map_cons,show (0+Sy 1)=1 from rfl,List.drop_succ_cons,List.drop_zero,Oq,show ns.length+1-Sy 1=(P.map ptc).length by rw [Rw,hPl]; omega,List.take_left,List.map_map]
     rfl
    rw [e]
    exact Yf5 (by rw [Rw]; omega) (by rw [Rw]; omega)
   have e5:(imC (im1 h s) (fx,fy,fz) ns ns.length)[((nl ns).length:Int).toNat]?=some (pl3 (imA (im1 h s) (fx,fy,fz) ns ns.length)):=by
    rw [Rl,ll]; exact Zm5 _ _ _ _
   refine Zmc rfl rfl rfl rfl rfl rfl y1 (by omega) (by rw [x2]; omega) (by rw [x2]; omega) ?_
   conv=>whnf
   generalize imA (im1 h s) (fx,fy,fz) ns ns.length=q at *
   obtain ⟨qx,qy,qz⟩:=q
   repeat'(first|refine wk3 ?_|(refine wk2 ?_ ?_<;>intro _)|refine wk4 ?_|fail);all_goals(conv=>whnf)
   exact Xn [19,25] rfl rfl rfl
theorem Zxr {r:Locs} {I:Imm} {w:World} {D:Nat->Prop} {es:Nat} {x:Value} (h:VR r I w D (.isl es []) x) (r' : Locs) (I' : Imm) (w' : World) (D' : Nat->Prop):VR r' I' w' D' (.isl es []) x:=by
 cases h with
 | isl0=>exact .isl0 _ _ _ _
 | isl _ _ _ _ _ _ h1=>exact .isl0 _ _ _ _
theorem d65f {h:Hal} (hk:h.ok) {s:Stg} (hs:s.few) {a:Ask} (e:askE h s a=0) {ns:List Int} (hl:ns.length<=4) (hi:∀ n∈ns,0<=n/\n<nsur h) :
  Zp8 Tryz.prog 71 [.agg (stgL h s),a.av,.isl 1 (nl ns)] (ansP (Yo h s (qF a) (qT a) ns)):=by
 by_cases h0:0<ns.length
 ·refine Zwv (d65r hk hs (Xl e).e0 a (Xl e).f (Xl e).t h0 hl hi) ?_ ?_ ?_
  ·cases Yo h s (qF a) (qT a) ns<;>rfl
  ·show Zam (rowP (Yo h s (qF a) (qT a) ns)).blks=true
   cases Yo h s (qF a) (qT a) ns with
   | none=>rfl
   | some p=>(simp [rowP,Zam,Zqp,Ze3,nl]; exact ⟨fun _ _=>rfl,fun _ _ _ _ _=>rfl⟩)
  ·show Frz (rowP (Yo h s (qF a) (qT a) ns)).blks (rowP (Yo h s (qF a) (qT a) ns)).v _
   cases Yo h s (qF a) (qT a) ns with
   | none=>exact ⟨⟨rfl,rfl,⟨rfl,rfl⟩,trivial⟩,⟨rfl,rfl⟩,trivial⟩
   | some p=>exact ⟨⟨⟨rfl,rfl,rfl⟩,⟨rfl,rfl,rfl⟩,⟨rfl,rfl⟩,trivial⟩,⟨rfl,rfl⟩,trivial⟩
 ·obtain rfl:ns=[]:=Tq.1 (by omega)
  have hd:=(d65 hk hs (Xl e).e0 a (Xl e).f (Xl e).t hl hi).freeze (Yaw _)
  obtain ⟨n,b,hv⟩:∃ n b,ansP (Yo h s (a.fx,a.fy,a.fz) (a.tx,a.ty,a.tz) []) = .tup [.agg [.isl 1 [],.isl 4 [],I n],Bo b]:=by
   cases hp:Yo h s (a.fx,a.fy,a.fz) (a.tx,a.ty,a.tz) [] with
   | none=>exact ⟨0,false,rfl⟩
   | some p =>
    have h1:=Zen hp
    have h2:=Zsw hp
    obtain ⟨ss,ps,sq⟩:=p
    dsimp only at h1 h2
    subst h1
    obtain rfl:ps=[]:=Tq.1 (by simpa using h2)
    exact ⟨sq,true,rfl⟩
  show Zp8 Tryz.prog 71 _ (ansP (Yo h s (a.fx,a.fy,a.fz) (a.tx,a.ty,a.tz) []))
  rw [hv] at hd ⊢
  refine ⟨hd.1,fun I w vs hI hv=>(hd.2 I w vs hI hv).mono fun e w' hh=>?_⟩
  obtain ⟨x,r',I',rfl,hp⟩:=hh
  refine ⟨x,fun _ _=>False,rfl,hp.below,fun b o h=>h.elim,?_⟩
  have hval:=hp.val
  cases hval with
  | tup _ _ vs h1 h2 =>
   refine .tup _ _ _ h1 fun i c v hc hx=>?_
   have:=h2 i c v hc hx
   match i with
   | 0 =>
    cases hc
    cases this with
    | agg _ _ vs h3 h4 =>
     refine .agg _ _ _ h3 fun i c v hc hx=>?_
     have:=h4 i c v hc hx
     match i with
     | 0=>cases hc; exact Zxr this _ _ _ _
     | 1=>cases hc; exact Zxr this _ _ _ _
     | 2=>cases hc; cases this; exact .int _ _ _
     | i+3=>simp at hc
   | 1=>cases hc; cases this; exact .bool _ _
   | i+2=>simp at hc
end Go.Proofs.YtfkdpbklbegnlaaGreat

namespace Go.Proofs.YtfkdpbklbegnlaaGreat
open Go Go.Sx
theorem d18 {h:Hal} (hk:h.ok) {s:Stg} (hs:s.few) (a:Ask):PCall Tryz.prog 11 [h.av,s.av,a.av] ⟨I (askE h s a),[]⟩:=by
 have hk0:=Ze (d90 hk) (Ze (c75 hk.f hs) Zb)
 by_cases e:serr h s=0
 ·have he:=Zgb e
  have e2:setE h s=0:=by unfold serr at e; rw [if_pos he] at e; exact e
  obtain ⟨fx,fy,fz,tx,ty,tz,n⟩:=a
  unfold askE
  rw [if_pos e]
  rw [he,e2] at hk0
  dsimp only
  have hk1:=Yg2 hk he (Ze (d68 n) hk0)
  have q1:=Zmw h fx fy fz
  have q2:=Zmw h tx ty tz
  simp only [fstL]
  refine bs.pv (sx:=nos) hk1 Tryz.func11 (by kernel_rfl) (by kernel_rfl) rfl ?_
  clear hk1 hk0
  repeat'(first|refine wk3 ?_|(refine wk2 ?_ ?_<;>intro _)|refine wk4 ?_|fail);all_goals(conv=>whnf)
  all_goals first
   | (refine Za ?_; simp_all [Ask.same,unl]; done)
   | (refine Za ?_; clear q1 q2; cases hw:within n 0 4<;>by_cases c1:fx=tx<;>by_cases c2:fy=ty<;>by_cases c3:fz=tz<;>simp_all [Ask.same,unl]<;>done)
   | (exfalso; simp_all; done)
 ·rw [show askE h s a=serr h s by unfold askE; rw [if_neg e]]
  unfold serr at e ⊢
  refine bs.pv (sx:=nos) hk0 Tryz.func11 (by kernel_rfl) (by kernel_rfl) rfl ?_
  clear hk0
  repeat'(first|refine wk3 ?_|(refine wk2 ?_ ?_<;>intro _)|refine wk4 ?_|fail);all_goals(conv=>whnf)
  all_goals first
   | (refine Za ?_; simp_all; done)
   | (exfalso; simp_all; done)
theorem Zwe (p:Pth):same p p=true:=same_iff.2 rfl
def chkP (h:Hal) (s:Stg) (a:Ask) (p:Pth):Int:=match Yo h s (qF a) (qT a) p.ss with
 | none=>20
 | some q=>if q.sq=p.sq/\eqP q.ps p.ps=true then 0 else 20
def cpE (h:Hal) (s:Stg) (a:Ask) (p:Pth):Int:=if pthE p=0 then (if suE h p.ss=0 then (if (p.ss.length:Int)<=a.n then chkP h s a p else 2) else suE h p.ss) else pthE p
def cmpI (a b:Int):Int:=if a<b then -1 else if b<a then 1 else 0
def cmpL:List Int->List Int->Int
 | [],[]=>0
 | [],_::_=>-1
 | _::_,[]=>1
 | x::a,y::b=>if cmpI x y=0 then cmpL a b else cmpI x y
def ordP (a b:Pth):Int:=fstL [cmpI a.sq b.sq,cmpI a.ss.length b.ss.length,cmpL a.ss b.ss]
theorem Yi3 (n:Int):PCall Tryz.prog 189 [I n] ⟨Bo false,[]⟩:=by
 refine bs.pv (sx:=nos) Zb Tryz.func189 (by kernel_rfl) (by kernel_rfl) rfl ?_
 repeat'(first|refine wk3 ?_|(refine wk2 ?_ ?_<;>intro _)|refine wk4 ?_|fail);all_goals(conv=>whnf)
 all_goals exact Zd (by simp)
def Yg3:List AV->Option PRes
 | [.int .i64 _]=>some ⟨Bo false,[]⟩
 | _=>none
theorem Yay {pt:PC} (h:PCOK Tryz.prog pt):PCOK Tryz.prog (ins 189 Yg3 pt):=Zh (fun a res h=>by unfold Yg3 at h; split at h<;>cases h; exact Yi3 _) h
theorem d147 (a b:Int):PCall Tryz.prog 119 [I a,I b] ⟨I (cmpI a b),[]⟩:=by
 have key:cmpI a b=cond (decide (a<b)) (-1) (cond (decide (b<a)) 1 0):=by
  unfold cmpI
  by_cases c1:a<b
  ·simp [c1]
  ·by_cases c2:b<a<;>simp [c1,c2]
 rw [key]
 refine bs.pv (sx:=nos) (Yay Zb) Tryz.func119 (by kernel_rfl) (by kernel_rfl) rfl ?_
 repeat'(first|refine wk3 ?_|(refine wk2 ?_ ?_<;>intro _)|refine wk4 ?_|fail);all_goals(conv=>whnf)
 all_goals (refine Za ?_; clear key; generalize decide (a<b)=p at *; generalize decide (b<a)=q at *; simp_all)
def r147:List AV->Option PRes
 | [.int .i64 a,.int .i64 b]=>some ⟨I (cmpI a b),[]⟩
 | _=>none
theorem Zwo {pt:PC} (h:PCOK Tryz.prog pt):PCOK Tryz.prog (ins 119 r147 pt):=Zh (fun a res h=>by unfold r147 at h; split at h<;>cases h; exact d147 _ _) h
theorem d148 {a b:List Int} (ha:a.length<1000000) (hb:b.length<1000000):PCall Tryz.prog 120 [.isl 1 (nl a),.isl 1 (nl b)] ⟨I (cmpL a b),[]⟩:=by
 have la:=Zl a
 have lb:=Zl b
 have hk:=Zwo Zb
 refine bs.pv (sx:=nos) hk Tryz.func120 (by kernel_rfl) (by kernel_rfl) rfl ?_
 repeat'(first|refine wk3 ?_|(refine wk2 ?_ ?_<;>intro _)|refine wk4 ?_|fail);all_goals(conv=>whnf)
 refine Zy (S:=Nat × Int) (fun t=>a.length-t.1) (fun t=>[(0,.isl 1 (nl a)),(1,.isl 1 (nl b)),(9,.isl 1 (nl a)),(10,I (nl a).length),(11,I t.2)]) (fun _=>[]) 0 0
  (fun t=>t.2=t.1/\t.1<=a.length/\t.1<=b.length/\cmpL (a.drop t.1) (b.drop t.1)=cmpL a b) (0,0) ⟨rfl,Qn _,Qn _,rfl⟩ (Qd _) [] rfl (kps) (kps) ?_
 rintro ⟨k,i⟩ ⟨hi,h1,h2,hh⟩
 dsimp only at hi h1 h2 hh ⊢
 subst hi
 generalize cmpL a b=R at *
 refine bs.av (sx:=nos) hk ?_
 by_cases c1:k<a.length
 ·have e1:=Vo c1
  by_cases c2:k<b.length
  ·have e2:=Vo c2
   rw [Qi c1,Qi c2,cmpL] at hh
   generalize a[k]=x at *
   generalize b[k]=y at *
   generalize hz:cmpI x y=z at *
   have hz2:r147 [I x,I y]=some ⟨I z,[]⟩:=by rw [<-hz]; rfl
   by_cases c3:z=0
   ·rw [if_pos c3] at hh
    repeat'(first|refine wk3 ?_|(refine wk2 ?_ ?_<;>intro _)|refine wk4 ?_|fail);all_goals(conv=>whnf)
    all_goals first
     | (exfalso; clear hk; simp_all; done)
     | exact Qq ⟨(k+1,_),[],rfl,kps,kps,⟨Zk (by omega),c1,c2,hh⟩,by dsimp only; omega⟩
   ·rw [if_neg c3] at hh
    subst hh
    repeat'(first|refine wk3 ?_|(refine wk2 ?_ ?_<;>intro _)|refine wk4 ?_|fail);all_goals(conv=>whnf)
    all_goals first
     | exact Za (by assumption)
     | exact Za rfl
     | (exfalso; clear hk; simp_all; done)
  ·rw [Qi c1,show b.drop k=[] from Qk (by omega),cmpL] at hh
   subst hh
   repeat'(first|refine wk3 ?_|(refine wk2 ?_ ?_<;>intro _)|refine wk4 ?_|fail);all_goals(conv=>whnf)
   exact Za rfl
 ·rw [show a.drop k=[] from Qk (by omega)] at hh
  by_cases c2:k<b.length
  ·rw [Qi c2,cmpL] at hh
   subst hh
   repeat'(first|refine wk3 ?_|(refine wk2 ?_ ?_<;>intro _)|refine wk4 ?_|fail);all_goals(conv=>whnf)
   exact Za rfl
  ·rw [Qk (by omega),cmpL] at hh
   subst hh
   repeat'(first|refine wk3 ?_|(refine wk2 ?_ ?_<;>intro _)|refine wk4 ?_|fail);all_goals(conv=>whnf)
   exact Za rfl
noncomputable abbrev r148:List AV->Option PRes:=famA (fun q:List Int × List Int=>q.1.length<1000000/\q.2.length<1000000) (fun q=>[.isl 1 (nl q.1),.isl 1 (nl q.2)]) (fun q=>⟨I (cmpL q.1 q.2),[]⟩)
theorem Yeu {pt:PC} (hp:PCOK Tryz.prog pt):PCOK Tryz.prog (ins 120 r148 pt):=Yl (fun q hq=>d148 hq.1 hq.2) hp
theorem Yaz {a b:List Int} (h1:a.length<1000000) (h2:b.length<1000000):r148 [.isl 1 (nl a),.isl 1 (nl b)]=some ⟨I (cmpL a b),[]⟩ :=
 Zx (p:=fun q:List Int × List Int=>q.1.length<1000000/\q.2.length<1000000) (g:=fun q=>[.isl 1 (nl q.1),.isl 1 (nl q.2)]) (r:=fun q=>⟨I (cmpL q.1 q.2),[]⟩) (k:=(a,b)) (fun j hj=>by
  simp only [Qx,Ng,true_and,and_true] at hj
  rw [Zij hj.1,Zij hj.2]) ⟨h1,h2⟩
theorem d146 {l:List Int} (hl:l.length<1000):PCall Tryz.prog 118 [.isl 1 (nl l)] ⟨I (fstL l),[]⟩:=by
 have ll:=Zl l
 refine bs.pv (sx:=nos) Zb Tryz.func118 (by kernel_rfl) (by kernel_rfl) rfl ?_
 repeat'(first|refine wk3 ?_|(refine wk2 ?_ ?_<;>intro _)|refine wk4 ?_|fail);all_goals(conv=>whnf)
 refine Zy (S:=Nat × Int) (fun t=>l.length-t.1) (fun t=>[(3,I 0),(6,.isl 1 (nl l)),(7,I (nl l).length),(8,I t.2)]) (fun _=>[]) 0 0
  (fun t=>t.2=t.1/\t.1<=l.length/\fstL (l.drop t.1)=fstL l) (0,0) ⟨rfl,Qn _,rfl⟩ (Qd _) [] rfl (kps) (kps) ?_
 rintro ⟨k,i⟩ ⟨hi,hk,hh⟩
 dsimp only at hi hk hh ⊢
 subst hi
 generalize fstL l=R at *
 refine bs.av (sx:=nos) Zb ?_
 by_cases hlt:k<l.length
 ·have e1:=Vo hlt
  rw [Qi hlt,fstL] at hh
  generalize l[k]=x at *
  by_cases c:x=0
  ·rw [if_neg (fun q=>q c)] at hh
   repeat'(first|refine wk3 ?_|(refine wk2 ?_ ?_<;>intro _)|refine wk4 ?_|fail);all_goals(conv=>whnf)
   all_goals first
    | (exfalso; simp_all; done)
    | exact Qq ⟨(k+1,_),[],rfl,kps,kps,⟨Zk (by omega),hlt,hh⟩,by dsimp only; omega⟩
  ·rw [if_pos c] at hh
   subst hh
   repeat'(first|refine wk3 ?_|(refine wk2 ?_ ?_<;>intro _)|refine wk4 ?_|fail);all_goals(conv=>whnf)
   all_goals first
    | exact Za rfl
    | (exfalso; simp_all; done)
 ·rw [Qk (by omega),fstL] at hh
  subst hh
  repeat'(first|refine wk3 ?_|(refine wk2 ?_ ?_<;>intro _)|refine wk4 ?_|fail);all_goals(conv=>whnf)
  exact Za rfl
noncomputable abbrev rOr:List AV->Option PRes:=famA (fun l:List Int=>l.length<1000) (fun l=>[.isl 1 (nl l)]) (fun l=>⟨I (fstL l),[]⟩)
theorem Ygt {pt:PC} (hp:PCOK Tryz.prog pt):PCOK Tryz.prog (ins 118 rOr pt):=Yl (fun l hl=>d146 hl) hp
theorem Yep {l:List Int} (h:l.length<1000):rOr [.isl 1 (nl l)]=some ⟨I (fstL l),[]⟩ :=
 Zx (p:=fun l:List Int=>l.length<1000) (g:=fun l=>[.isl 1 (nl l)]) (r:=fun l=>⟨I (fstL l),[]⟩) (fun j hj=>by
  simp only [Qx,Ng,true_and,and_true] at hj
  rw [Zij hj]) h
theorem d115 {a b:Pth} (ha:a.ss.length<1000000) (hb:b.ss.length<1000000):PCall Tryz.prog 73 [a.av,b.av] ⟨I (ordP a b),[]⟩:=by
 obtain ⟨s1,p1,q1⟩:=a
 obtain ⟨s2,p2,q2⟩:=b
 dsimp only at ha hb
 have l1:=Zl s1
 have l2:=Zl s2
 have e1:=Yaz ha hb
 have e2:=Yep (l:=[cmpI q1 q2,cmpI ((nl s1).length:Int) ((nl s2).length:Int),cmpL s1 s2]) (by simp)
 unfold ordP
 dsimp only
 rw [<-l1,<-l2]
 refine bs.pv (sx:=nos) (Zwo (Yeu (Ygt Zb))) Tryz.func73 (by kernel_rfl) (by kernel_rfl) rfl ?_
 repeat'(first|refine wk3 ?_|(refine wk2 ?_ ?_<;>intro _)|refine wk4 ?_|fail);all_goals(conv=>whnf)
 exact Za rfl
theorem Vs (a b:Int):(a<b/\cmpI a b = -1)\/(a=b/\cmpI a b=0)\/(b<a/\cmpI a b=1):=by
 unfold cmpI
 split
 ·exact .inl ⟨‹_›,rfl⟩
 ·split
  ·exact .inr (.inr ⟨‹_›,rfl⟩)
  ·exact .inr (.inl ⟨by omega,rfl⟩)
theorem Zpw:∀ a:List Int,cmpL a a=0
 | []=>rfl
 | x::a=>by
  have:cmpI x x=0:=by rcases Vs x x with h|h|h<;>omega
  rw [cmpL,if_pos this,Zpw a]
theorem Zpx:∀ a b:List Int,cmpL b a = -cmpL a b
 | [],[]=>rfl
 | [],_::_=>rfl
 | _::_,[]=>rfl
 | x::a,y::b=>by
  rw [cmpL,cmpL,Zpx a b]
  rcases Vs x y with h|h|h<;>rcases Vs y x with k|k|k<;>rw [h.2,k.2]<;>first|rfl|omega
theorem Zpv:∀ {a b:List Int},cmpL a b=0->a=b
 | [],[],_=>rfl
 | [],_::_,h=>by cases h
 | _::_,[],h=>by cases h
 | x::a,y::b,h=>by
  rw [cmpL] at h
  rcases Vs x y with k|k|k
  ·rw [k.2] at h; simp at h
  ·rw [k.2] at h; rw [k.1,Zpv (a:=a) (b:=b) (by simpa using h)]
  ·rw [k.2] at h; simp at h
theorem Zl8:∀ {a b c:List Int},cmpL a b<=0->cmpL b c<=0->cmpL a c<=0
 | [],_,[],_,_=>by simp [cmpL]
 | [],_,_::_,_,_=>by simp [cmpL]
 | x::a,[],c,h,_=>by simp [cmpL] at h
 | x::a,y::b,[],_,h=>by simp [cmpL] at h
 | x::a,y::b,z::c,h1,h2=>by
  rw [cmpL] at h1 h2 ⊢
  rcases Vs x y with k|k|k<;>rcases Vs y z with m|m|m<;>rcases Vs x z with n|n|n<;>rw [k.2] at h1<;>rw [m.2] at h2<;>rw [n.2]
  all_goals simp at h1 h2 ⊢
  all_goals first
   | omega
   | exact Zl8 h1 h2
abbrev ordK (p:Pth):List Int:=p.sq::(p.ss.length:Int)::p.ss
theorem Zd2 (a b:Pth):ordP a b=cmpL (ordK a) (ordK b):=by
 unfold ordP ordK
 simp only [fstL,cmpL]
 by_cases c1:cmpI a.sq b.sq=0<;>by_cases c2:cmpI a.ss.length b.ss.length=0<;>by_cases c3:cmpL a.ss b.ss=0<;>simp [c1,c2,c3]
theorem Zw1 (a:Pth):ordP a a=0:=by rw [Zd2,Zpw]
theorem Za1 (a b:Pth):ordP b a = -ordP a b:=by rw [Zd2,Zd2,Zpx]
theorem Zep {a b c:Pth} (h1:ordP a b<=0) (h2:ordP b c<=0):ordP a c<=0:=by rw [Zd2] at *; exact Zl8 h1 h2
theorem Zoe {a b:Pth} (h:ordP a b=0):a.sq=b.sq/\a.ss=b.ss:=by
 rw [Zd2] at h
 have:=Zpv h
 simp only [ordK,Qx] at this
 exact ⟨this.1,this.2.2⟩
theorem Ya6:Go.Sort.SWO (Go.Proofs.ltOf ordP):=by
 refine ⟨fun x=>?_,fun x y z h1 h2=>?_,fun x y z h1 h2=>?_⟩
 ·simp [ltOf,Zw1]
 ·simp only [ltOf,decide_eq_true_eq] at *
  have h:=Zep (Rf h1) (Rf h2)
  rcases Int.lt_or_eq_of_le h with h|h
  ·exact h
  ·obtain ⟨e1,e2⟩:=Zoe h
   have:ordP x y=ordP z y:=by rw [Zd2,Zd2]; unfold ordK; rw [e1,e2]
   have:=Za1 y z
   omega
 ·simp only [ltOf,decide_eq_false_iff_not,Int.not_lt] at *
  have a1:=Za1 x y
  have a2:=Za1 y z
  have a3:=Za1 x z
  have:=Zep (a:=z) (b:=y) (c:=x) (by omega) (by omega)
  omega
theorem Znv {G:Pth->Prop} (hG:∀ a b,G a->G b->a.ss=b.ss->a=b):∀ {l m:List Pth},l.Perm m->(∀ a∈l,G a)->l.Pairwise (fun a b=>ordP a b<=0)->m.Pairwise (fun a b=>ordP a b<=0)->l=m
 | [],m,hp,_,_,_=>by rw [List.nil_perm.1 hp]
 | a::l,[],hp,_,_,_=>by have:=hp.length_eq; simp at this
 | a::l,b::m,hp,hg,h1,h2=>by
  have hab:a=b:=by
   by_cases c:a=b
   ·exact c
   ·have hb:b∈a::l:=hp.symm.subset (by simp)
    have ha:a∈b::m:=hp.subset (by simp)
    rw [Ra] at ha hb
    have q1:=(Tv.1 h1).1 b (by rcases hb with h|h; exact absurd h.symm c; exact h)
    have q2:=(Tv.1 h2).1 a (by rcases ha with h|h; exact absurd h c; exact h)
    have q3:=Za1 a b
    have q4:=Zoe (a:=a) (b:=b) (by omega)
    exact hG a b (hg a (by simp)) (hg b (hp.symm.subset (by simp))) q4.2
  subst hab
  rw [Znv hG (List.perm_cons a |>.1 hp) (fun x hx=>hg x (by simp [hx])) (Tv.1 h1).2 (Tv.1 h2).2]
def putM (p:Pth) (l:List Pth):Nat->Nat
 | 0=>0
 | m+1=>match l[m]? with
  | some x=>if ordP p x<0 then putM p l m else m+1
  | none=>m+1
def putL (l:List Pth) (p:Pth):List Pth:=l.take (putM p l l.length)++p::l.drop (putM p l l.length)
theorem Zwr (p:Pth) (l:List Pth):∀ m,putM p l m<=m
 | 0=>Qd _
 | m+1=>by
  rw [putM]
  split
  ·split
   ·exact Qs (Zwr p l m) (Nat.le_succ _)
   ·exact Qd _
  ·exact Qd _
theorem Zws (l:List Pth) (p:Pth):(putL l p).Perm (p::l):=by
 unfold putL
 refine List.perm_middle.trans ?_
 rw [List.take_append_drop]
theorem Zob (p:Pth) (l:List Pth):∀ m,m<=l.length->(∀ j (h:j<l.length),putM p l m<=j->j<m->ordP p l[j]<0)/\(∀ j (h:j<l.length),j+1=putM p l m -> ¬ ordP p l[j]<0)
 | 0,_=>⟨fun j h h1 h2=>by omega,fun j h h1=>by simp [putM] at h1⟩
 | m+1,hm=>by
  have hml:m<l.length:=by omega
  rw [putM,List.getElem?_eq_getElem hml]
  dsimp only
  by_cases c:ordP p l[m]<0
  ·rw [if_pos c]
   obtain ⟨q1,q2⟩:=Zob p l m (by omega)
   refine ⟨fun j h h1 h2=>?_,q2⟩
   by_cases e:j=m
   ·subst e; exact c
   ·exact q1 j h h1 (by omega)
  ·rw [if_neg c]
   refine ⟨fun j h h1 h2=>by omega,fun j h h1=>?_⟩
   have:j=m:=by omega
   subst this; exact c
theorem Zqv {l:List Pth} {p:Pth} (hs:l.Pairwise (fun a b=>ordP a b<=0)):(putL l p).Pairwise (fun a b=>ordP a b<=0):=by
 have hle:=Zwr p l l.length
 obtain ⟨q1,q2⟩:=Zob p l l.length (Qd _)
 unfold putL
 generalize putM p l l.length=m at *
 rw [List.pairwise_append]
 have hgt:∀ x∈l.drop m,ordP p x<=0:=fun x hx=>by
  obtain ⟨i,hi,rfl⟩:=Ow.1 hx
  rw [List.length_drop] at hi
  rw [List.getElem_drop]
  exact Rf (q1 (m+i) (by omega) (by omega) (by omega))
 have hlt:∀ x∈l.take m,ordP x p<=0:=fun x hx=>by
  obtain ⟨i,hi,rfl⟩:=Ow.1 hx
  rw [List.length_take] at hi
  rw [List.getElem_take]
  have h1:=q2 (m-1) (by omega) (by omega)
  have h2:=Za1 (l[m-1]'(by omega)) p
  have h3:ordP (l[m-1]'(by omega)) p<=0:=by omega
  by_cases e:i=m-1
  ·subst e; exact h3
  ·exact Zep (List.pairwise_iff_getElem.1 hs i (m-1) (by omega) (by omega) (by omega)) h3
 refine ⟨hs.sublist (List.take_sublist _ _),?_,fun a ha b hb=>?_⟩
 ·rw [Tv]
  exact ⟨hgt,hs.sublist (List.drop_sublist _ _)⟩
 ·rcases Ra.1 hb with rfl|hb
  ·exact hlt a ha
  ·exact Zep (hlt a ha) (hgt b hb)
def rngI (k n:Nat):List Int:=(List.range' k (n-k)).map fun (i:Nat)=>(i:Int)
theorem Zds {k n:Nat} (h:k<n):rngI k n=(k:Int)::rngI (k+1) n:=by
 unfold rngI
 rw [show n-k=(n-(k+1))+1 by omega,List.range'_succ]
 rfl
theorem Zge {k n:Nat} (h:n<=k):rngI k n=[]:=by
 unfold rngI
 rw [show n-k=0 by omega]
 rfl
def wlk (n:Nat):Nat->List Int->List (List Int)
 | 0,L=>[L]
 | o+1,L=>L::(rngI 0 n).flatMap fun i=>if L.getLast?=some i then [] else wlk n o (L++[i])
def nl1 (ns:List Int):List (List AV):=ns.map fun n=>[I n]
abbrev lsX (l:List (List Int)):List (List AV):=l.map fun L=>[.isl 1 (nl1 L)]
def Xg:FuncId->Bool:=fun f=>Nat.beq f 110
theorem Yfj (n:Nat) (hn:n<1000):Zp9 Tryz.prog 109 [] [.ipt [I 0],.ipt [I (n:Int)]] (lsX (wlk n 0 [])):=by
 refine bs.titer (sx:=Xg) Zb Tryz.func109 (by kernel_rfl) rfl (by kernel_rfl) fun B Ig l JX hI=>?_
 conv=>whnf
 refine bs.ysv (sx:=Xg) Zb hI Tryz.func110 (by kernel_rfl) rfl (by kernel_rfl) ?_
 conv=>whnf
 refine Ga ⟨rfl,rfl,⟨_,_,rfl,.inr ⟨rfl,_,rfl⟩,trivial⟩,(fun h=>by cases h),?_,?_⟩
 ·repeat'(first|refine wk3 ?_|(refine wk2 ?_ ?_<;>intro _)|refine wk4 ?_|fail);all_goals(conv=>whnf)
  exact Qq (.inl rfl)
 ·repeat'(first|refine wk3 ?_|(refine wk2 ?_ ?_<;>intro _)|refine wk4 ?_|fail);all_goals(conv=>whnf)
  exact Qq (.inr rfl)
def w1Z (l:Nat) (f:AV):Nat->List (List AV)->List (Nat × ABlk)
 | 0,_=>[(2,.row 1 [[f]] true false),(1,.row 1 [[.nils]] true false),(0,.row 1 [[.yld l]] true false)]
 | _+1,A=>[(3,.row 1 A true true),(2,.row 1 [[f]] true false),(1,.row 1 [[.asl 3 0 0]] true false),(0,.row 1 [[.yld l]] true false)]
theorem Yfi (n:Nat) (hn:n<1000):Zp9 Tryz.prog 109 [] [.ipt [I 1],.ipt [I (n:Int)]] (lsX (wlk n 1 [])):=by
 refine bs.titer (sx:=Xg) Zb Tryz.func109 (by kernel_rfl) rfl (by kernel_rfl) fun B Ig l JX hI=>?_
 conv=>whnf
 refine bs.ysv (sx:=Xg) Zb hI Tryz.func110 (by kernel_rfl) rfl (by kernel_rfl) ?_
 conv=>whnf
 refine Ga ⟨rfl,rfl,⟨_,_,rfl,.inr ⟨rfl,_,rfl⟩,trivial⟩,(fun h=>by cases h),?_,?_⟩
 ·conv=>whnf
  refine Zxg (S:=Nat × Int × Nat × List (List AV)) (fun t=>n-t.1) (fun t=>[(0,.ptr 0 0 0),(1,.ptr 1 0 0),(2,.ipt [I 1]),(3,.ipt [I (n:Int)]),(4,.ptr 2 0 0),(15,I (n:Int)),(16,I t.2.1)]) (fun t=>w1Z l (.func 110 [] [.ptr 0 0 0,.ptr 1 0 0,.ipt [I 1],.ipt [I (n:Int)],.ptr 2 0 0]) t.2.2.1 t.2.2.2)
   (fun t=>some (lsX ((rngI t.1 n).flatMap fun i=>wlk n 0 [i]))) 3 (fun t=>match t.2.2.1 with
   | 0=>3
   | _=>4) (fun t=>t.2.1=t.1/\t.1<=n/\(t.2.2.1≠0->∃ c,t.2.2.2=[[c]])) (0,0,0,[]) ⟨rfl,Qn _,fun h=>absurd rfl h⟩ (Qd _) rfl [] rfl (kps) (kps) ?_
  rintro ⟨k,i,m,A⟩ ⟨hi,hk,hA⟩
  dsimp only at hi hk hA
  subst hi
  by_cases hlt:k<n
  ·have hw:Qa Qb ((k:Int)+1)=((k+1:Nat):Int):=W_eq (by omega) (by omega)
   dsimp only
   rw [Zds hlt]
   cases m with
   | zero =>
    refine bs.yv Zb hI (sx:=Xg) ?_
    repeat'(first|refine wk3 ?_|(refine wk2 ?_ ?_<;>intro _)|refine wk4 ?_|fail);all_goals(conv=>whnf)
    refine bs.ysv (sx:=Xg) Zb hI Tryz.func110 (by kernel_rfl) rfl (by kernel_rfl) ?_
    conv=>whnf
    refine Ga ⟨rfl,rfl,.same rfl,(fun h=>by cases h),?_,?_⟩
    ·conv=>whnf
     repeat'(first|refine wk3 ?_|(refine wk2 ?_ ?_<;>intro _)|refine wk4 ?_|fail);all_goals(conv=>whnf)
     exact Qq ⟨(k+1,Qa Qb ((k:Int)+1),1,[[I k]]),[(3,4)],rfl,kps,kps,rfl,⟨hw,by omega,fun _=>⟨_,rfl⟩⟩,by dsimp only; omega⟩
    ·repeat'(first|refine wk3 ?_|(refine wk2 ?_ ?_<;>intro _)|refine wk4 ?_|fail);all_goals(conv=>whnf)
     exact Qq (.inr rfl)
   | succ m =>
    obtain ⟨c,rfl⟩:=hA (by simp)
    have hfit:=Jy
    refine bs.yv Zb hI (sx:=Xg) ?_
    repeat'(first|refine wk3 ?_|(refine wk2 ?_ ?_<;>intro _)|refine wk4 ?_|fail);all_goals(conv=>whnf)
    refine bs.ysv (sx:=Xg) Zb hI Tryz.func110 (by kernel_rfl) rfl (by kernel_rfl) ?_
    conv=>whnf
    refine Ga ⟨rfl,rfl,.same rfl,(fun h=>by cases h),?_,?_⟩
    ·conv=>whnf
     repeat'(first|refine wk3 ?_|(refine wk2 ?_ ?_<;>intro _)|refine wk4 ?_|fail);all_goals(conv=>whnf)
     exact Qq ⟨(k+1,Qa Qb ((k:Int)+1),m+1,[[I k]]),[(3,3)],rfl,kps,kps,rfl,⟨hw,by omega,fun _=>⟨_,rfl⟩⟩,by dsimp only; omega⟩
    ·repeat'(first|refine wk3 ?_|(refine wk2 ?_ ?_<;>intro _)|refine wk4 ?_|fail);all_goals(conv=>whnf)
     exact Qq (.inr rfl)
  ·dsimp only
   rw [Zge (by omega)]
   cases m with
   | zero =>
    refine bs.yv Zb hI (sx:=Xg) ?_
    repeat'(first|refine wk3 ?_|(refine wk2 ?_ ?_<;>intro _)|refine wk4 ?_|fail);all_goals(conv=>whnf)
    exact Qq (.inl rfl)
   | succ m =>
    refine bs.yv Zb hI (sx:=Xg) ?_
    repeat'(first|refine wk3 ?_|(refine wk2 ?_ ?_<;>intro _)|refine wk4 ?_|fail);all_goals(conv=>whnf)
    exact Qq (.inl rfl)
 ·repeat'(first|refine wk3 ?_|(refine wk2 ?_ ?_<;>intro _)|refine wk4 ?_|fail);all_goals(conv=>whnf)
  exact Qq (.inr rfl)
def w2Z (l:Nat) (f:AV) (a b:AV):Nat->List (Nat × ABlk)
 | 0=>[(2,.row 1 [[f]] true false),(1,.row 1 [[.nils]] true false),(0,.row 1 [[.yld l]] true false)]
 | 1=>[(3,.row 1 [[a]] true true),(2,.row 1 [[f]] true false),(1,.row 1 [[.asl 3 0 0]] true false),(0,.row 1 [[.yld l]] true false)]
 | _+2=>[(3,.row 1 [[a],[b]] true true),(2,.row 1 [[f]] true false),(1,.row 1 [[.asl 3 0 0]] true false),(0,.row 1 [[.yld l]] true false)]
abbrev fn2 (n:Nat):AV:=.func 110 [] [.ptr 0 0 0,.ptr 1 0 0,.ipt [I 2],.ipt [I (n:Int)],.ptr 2 0 0]
def w3Z (l:Nat) (f:AV) (a b:AV) (rI:Nat):Nat->List (Nat × ABlk)
 | 0=>[(rI,.row 1 [[a]] true true),(2,.row 1 [[f]] true false),(1,.row 1 [[.asl rI 0 1]] true false),(0,.row 1 [[.yld l]] true false)]
 | _+1=>[(5,.row 1 [[a],[b]] true true),(2,.row 1 [[f]] true false),(1,.row 1 [[.asl 5 0 1]] true false),(0,.row 1 [[.yld l]] true false)]
def w4Z (l:Nat) (f:AV) (a b:AV):List (Nat × ABlk):=[(3,.row 1 [[a],[b]] true true),(2,.row 1 [[f]] true false),(1,.row 1 [[.asl 3 0 1]] true false),(0,.row 1 [[.yld l]] true false)]
theorem wl2 (n k:Nat):wlk n 1 [(k:Int)]=[(k:Int)]::(rngI 0 n).flatMap fun j=>if (k:Int)=j then [] else [[(k:Int),j]]:=by
 simp [wlk]
theorem Yfh (n:Nat) (hn:n<1000):Zp9 Tryz.prog 109 [] [.ipt [I 2],.ipt [I (n:Int)]] (lsX (wlk n 2 [])):=by
 refine bs.titer (sx:=Xg) Zb Tryz.func109 (by kernel_rfl) rfl (by kernel_rfl) fun B Ig l JX hI=>?_
 conv=>whnf
 refine bs.ysv (sx:=Xg) Zb hI Tryz.func110 (by kernel_rfl) rfl (by kernel_rfl) ?_
 conv=>whnf
 refine Ga ⟨rfl,rfl,⟨_,_,rfl,.inr ⟨rfl,_,rfl⟩,trivial⟩,(fun h=>by cases h),?_,?_⟩
 ·conv=>whnf
  refine Zxg (S:=Nat × Int × Nat × AV × AV) (fun t=>n-t.1) (fun t=>[(0,.ptr 0 0 0),(1,.ptr 1 0 0),(2,.ipt [I 2]),(3,.ipt [I (n:Int)]),(4,.ptr 2 0 0),(15,I (n:Int)),(16,I t.2.1)]) (fun t=>w2Z l (fn2 n) t.2.2.2.1 t.2.2.2.2 t.2.2.1)
   (fun t=>some (lsX ((rngI t.1 n).flatMap fun i=>wlk n 1 [i]))) 3 (fun t=>match t.2.2.1 with
   | 0=>3
   | _=>4) (fun t=>t.2.1=t.1/\t.1<=n) (0,0,0,I 0,I 0) ⟨rfl,Qn _⟩ (Qd _) rfl [] rfl (kps) (kps) ?_
  rintro ⟨k,i,m,a,b⟩ ⟨hi,hk⟩
  dsimp only at hi hk
  subst hi
  by_cases hlt:k<n
  ·have hw:Qa Qb ((k:Int)+1)=((k+1:Nat):Int):=W_eq (by omega) (by omega)
   dsimp only
   rw [Zds hlt,Tb,wl2]
   rcases m with _|_|m
   ·refine bs.yv Zb hI (sx:=Xg) ?_
    repeat'(first|refine wk3 ?_|(refine wk2 ?_ ?_<;>intro _)|refine wk4 ?_|fail);all_goals(conv=>whnf)
    refine bs.ysv (sx:=Xg) Zb hI Tryz.func110 (by kernel_rfl) rfl (by kernel_rfl) ?_
    conv=>whnf
    refine Ga ⟨rfl,rfl,.same rfl,(fun h=>by cases h),?_,?_⟩
    ·conv=>whnf
     repeat'(first|refine wk3 ?_|(refine wk2 ?_ ?_<;>intro _)|refine wk4 ?_|fail);all_goals(conv=>whnf)
     refine Zxg (S:=Nat × Int × Nat × AV) (fun t=>n-t.1) (fun t=>[(0,.ptr 0 0 0),(1,.ptr 1 0 0),(2,.ipt [I 2]),(3,.ipt [I (n:Int)]),(4,.ptr 2 0 0),(15,I (n:Int)),(16,I t.2.1)]) (fun t=>w3Z l (fn2 n) (I k) t.2.2.2 4 t.2.2.1)
      (fun t=>some (lsX (((rngI t.1 n).flatMap fun j=>if (k:Int)=j then [] else [[(k:Int),j]])++(rngI (k+1) n).flatMap fun i=>wlk n 1 [i]))) 5 (fun t=>match t.2.2.1 with
       | 0=>5
       | _=>6) (fun t=>t.2.1=t.1/\t.1<=n) (0,0,0,I 0) ⟨rfl,Qn _⟩ (Qd _) rfl [] rfl (kps) (kps) ?_
     rintro ⟨j,i,q,b'⟩ ⟨hi,hj⟩
     dsimp only at hi hj
     subst hi
     by_cases hl2:j<n
     ·have hw2:Qa Qb ((j:Int)+1)=((j+1:Nat):Int):=W_eq (by omega) (by omega)
      dsimp only
      rw [Zds hl2,Tb]
      by_cases hkj:(k:Int)=(j:Int)
      ·rw [if_pos hkj,Wg]
       rcases q with _|q
       ·refine bs.yv Zb hI (sx:=Xg) ?_
        repeat'(first|refine wk3 ?_|(refine wk2 ?_ ?_<;>intro _)|refine wk4 ?_|fail);all_goals(conv=>whnf)
        exact Qq ⟨(j+1,Qa Qb ((j:Int)+1),0,b'),[],rfl,kps,kps,rfl,⟨hw2,by omega⟩,by dsimp only; omega⟩
       ·refine bs.yv Zb hI (sx:=Xg) ?_
        repeat'(first|refine wk3 ?_|(refine wk2 ?_ ?_<;>intro _)|refine wk4 ?_|fail);all_goals(conv=>whnf)
        exact Qq ⟨(j+1,Qa Qb ((j:Int)+1),q+1,b'),[(5,5)],rfl,kps,kps,rfl,⟨hw2,by omega⟩,by dsimp only; omega⟩
      ·rw [if_neg hkj]
       rcases q with _|q
       ·refine bs.yv Zb hI (sx:=Xg) ?_
        repeat'(first|refine wk3 ?_|(refine wk2 ?_ ?_<;>intro _)|refine wk4 ?_|fail);all_goals(conv=>whnf)
        refine bs.ysv (sx:=Xg) Zb hI Tryz.func110 (by kernel_rfl) rfl (by kernel_rfl) ?_
        conv=>whnf
        refine Ga ⟨rfl,rfl,.same rfl,(fun h=>by cases h),?_,?_⟩
        ·conv=>whnf
         repeat'(first|refine wk3 ?_|(refine wk2 ?_ ?_<;>intro _)|refine wk4 ?_|fail);all_goals(conv=>whnf)
         exact Qq ⟨(j+1,Qa Qb ((j:Int)+1),1,I j),[(5,6)],rfl,kps,kps,rfl,⟨hw2,by omega⟩,by dsimp only; omega⟩
        ·repeat'(first|refine wk3 ?_|(refine wk2 ?_ ?_<;>intro _)|refine wk4 ?_|fail);all_goals(conv=>whnf)
         exact Qq (.inr rfl)
       ·have hfit:=Jy
        refine bs.yv Zb hI (sx:=Xg) ?_
        repeat'(first|refine wk3 ?_|(refine wk2 ?_ ?_<;>intro _)|refine wk4 ?_|fail);all_goals(conv=>whnf)
        refine bs.ysv (sx:=Xg) Zb hI Tryz.func110 (by kernel_rfl) rfl (by kernel_rfl) ?_
        conv=>whnf
        refine Ga ⟨rfl,rfl,.same rfl,(fun h=>by cases h),?_,?_⟩
        ·conv=>whnf
         repeat'(first|refine wk3 ?_|(refine wk2 ?_ ?_<;>intro _)|refine wk4 ?_|fail);all_goals(conv=>whnf)
         exact Qq ⟨(j+1,Qa Qb ((j:Int)+1),q+1,I j),[(5,5)],rfl,kps,kps,rfl,⟨hw2,by omega⟩,by dsimp only; omega⟩
        ·repeat'(first|refine wk3 ?_|(refine wk2 ?_ ?_<;>intro _)|refine wk4 ?_|fail);all_goals(conv=>whnf)
         exact Qq (.inr rfl)
     ·dsimp only
      rw [Zge (k:=j) (by omega),Hm,Wg]
      rcases q with _|q
      ·refine bs.yv Zb hI (sx:=Xg) ?_
       repeat'(first|refine wk3 ?_|(refine wk2 ?_ ?_<;>intro _)|refine wk4 ?_|fail);all_goals(conv=>whnf)
       exact Qq ⟨(k+1,Qa Qb ((k:Int)+1),1,I k,b),[(3,4)],rfl,kps,kps,rfl,⟨hw,by omega⟩,by dsimp only; omega⟩
      ·refine bs.yv Zb hI (sx:=Xg) ?_
       repeat'(first|refine wk3 ?_|(refine wk2 ?_ ?_<;>intro _)|refine wk4 ?_|fail);all_goals(conv=>whnf)
       exact Qq ⟨(k+1,Qa Qb ((k:Int)+1),2,I k,b'),[(3,5)],rfl,kps,kps,rfl,⟨hw,by omega⟩,by dsimp only; omega⟩
    ·repeat'(first|refine wk3 ?_|(refine wk2 ?_ ?_<;>intro _)|refine wk4 ?_|fail);all_goals(conv=>whnf)
     exact Qq (.inr rfl)
   ·have hfit:=Jy
    refine bs.yv Zb hI (sx:=Xg) ?_
    repeat'(first|refine wk3 ?_|(refine wk2 ?_ ?_<;>intro _)|refine wk4 ?_|fail);all_goals(conv=>whnf)
    clear hfit
    refine bs.ysv (sx:=Xg) Zb hI Tryz.func110 (by kernel_rfl) rfl (by kernel_rfl) ?_
    conv=>whnf
    refine Ga ⟨rfl,rfl,.same rfl,(fun h=>by cases h),?_,?_⟩
    ·conv=>whnf
     repeat'(first|refine wk3 ?_|(refine wk2 ?_ ?_<;>intro _)|refine wk4 ?_|fail);all_goals(conv=>whnf)
     refine Zxg (S:=Nat × Int × Nat × AV) (fun t=>n-t.1) (fun t=>[(0,.ptr 0 0 0),(1,.ptr 1 0 0),(2,.ipt [I 2]),(3,.ipt [I (n:Int)]),(4,.ptr 2 0 0),(15,I (n:Int)),(16,I t.2.1)]) (fun t=>w3Z l (fn2 n) (I k) t.2.2.2 3 t.2.2.1)
      (fun t=>some (lsX (((rngI t.1 n).flatMap fun j=>if (k:Int)=j then [] else [[(k:Int),j]])++(rngI (k+1) n).flatMap fun i=>wlk n 1 [i]))) 5 (fun t=>match t.2.2.1 with
       | 0=>5
       | _=>6) (fun t=>t.2.1=t.1/\t.1<=n) (0,0,0,I 0) ⟨rfl,Qn _⟩ (Qd _) rfl [] rfl (kps) (kps) ?_
     rintro ⟨j,i,q,b'⟩ ⟨hi,hj⟩
     dsimp only at hi hj
     subst hi
     by_cases hl2:j<n
     ·have hw2:Qa Qb ((j:Int)+1)=((j+1:Nat):Int):=W_eq (by omega) (by omega)
      dsimp only
      rw [Zds hl2,Tb]
      by_cases hkj:(k:Int)=(j:Int)
      ·rw [if_pos hkj,Wg]
       rcases q with _|q
       ·refine bs.yv Zb hI (sx:=Xg) ?_
        repeat'(first|refine wk3 ?_|(refine wk2 ?_ ?_<;>intro _)|refine wk4 ?_|fail);all_goals(conv=>whnf)
        exact Qq ⟨(j+1,Qa Qb ((j:Int)+1),0,b'),[],rfl,kps,kps,rfl,⟨hw2,by omega⟩,by dsimp only; omega⟩
       ·refine bs.yv Zb hI (sx:=Xg) ?_
        repeat'(first|refine wk3 ?_|(refine wk2 ?_ ?_<;>intro _)|refine wk4 ?_|fail);all_goals(conv=>whnf)
        exact Qq ⟨(j+1,Qa Qb ((j:Int)+1),q+1,b'),[(5,5)],rfl,kps,kps,rfl,⟨hw2,by omega⟩,by dsimp only; omega⟩
      ·rw [if_neg hkj]
       rcases q with _|q
       ·refine bs.yv Zb hI (sx:=Xg) ?_
        repeat'(first|refine wk3 ?_|(refine wk2 ?_ ?_<;>intro _)|refine wk4 ?_|fail);all_goals(conv=>whnf)
        refine bs.ysv (sx:=Xg) Zb hI Tryz.func110 (by kernel_rfl) rfl (by kernel_rfl) ?_
        conv=>whnf
        refine Ga ⟨rfl,rfl,.same rfl,(fun h=>by cases h),?_,?_⟩
        ·conv=>whnf
         repeat'(first|refine wk3 ?_|(refine wk2 ?_ ?_<;>intro _)|refine wk4 ?_|fail);all_goals(conv=>whnf)
         exact Qq ⟨(j+1,Qa Qb ((j:Int)+1),1,I j),[(5,6)],rfl,kps,kps,rfl,⟨hw2,by omega⟩,by dsimp only; omega⟩
        ·repeat'(first|refine wk3 ?_|(refine wk2 ?_ ?_<;>intro _)|refine wk4 ?_|fail);all_goals(conv=>whnf)
         exact Qq (.inr rfl)
       ·have hfit:=Jy
        refine bs.yv Zb hI (sx:=Xg) ?_
        repeat'(first|refine wk3 ?_|(refine wk2 ?_ ?_<;>intro _)|refine wk4 ?_|fail);all_goals(conv=>whnf)
        refine bs.ysv (sx:=Xg) Zb hI Tryz.func110 (by kernel_rfl) rfl (by kernel_rfl) ?_
        conv=>whnf
        refine Ga ⟨rfl,rfl,.same rfl,(fun h=>by cases h),?_,?_⟩
        ·conv=>whnf
         repeat'(first|refine wk3 ?_|(refine wk2 ?_ ?_<;>intro _)|refine wk4 ?_|fail);all_goals(conv=>whnf)
         exact Qq ⟨(j+1,Qa Qb ((j:Int)+1),q+1,I j),[(5,5)],rfl,kps,kps,rfl,⟨hw2,by omega⟩,by dsimp only; omega⟩
        ·repeat'(first|refine wk3 ?_|(refine wk2 ?_ ?_<;>intro _)|refine wk4 ?_|fail);all_goals(conv=>whnf)
         exact Qq (.inr rfl)
     ·dsimp only
      rw [Zge (k:=j) (by omega),Hm,Wg]
      rcases q with _|q
      ·refine bs.yv Zb hI (sx:=Xg) ?_
       repeat'(first|refine wk3 ?_|(refine wk2 ?_ ?_<;>intro _)|refine wk4 ?_|fail);all_goals(conv=>whnf)
       exact Qq ⟨(k+1,Qa Qb ((k:Int)+1),1,I k,b),[(3,3)],rfl,kps,kps,rfl,⟨hw,by omega⟩,by dsimp only; omega⟩
      ·refine bs.yv Zb hI (sx:=Xg) ?_
       repeat'(first|refine wk3 ?_|(refine wk2 ?_ ?_<;>intro _)|refine wk4 ?_|fail);all_goals(conv=>whnf)
       exact Qq ⟨(k+1,Qa Qb ((k:Int)+1),2,I k,b'),[(3,5)],rfl,kps,kps,rfl,⟨hw,by omega⟩,by dsimp only; omega⟩
    ·repeat'(first|refine wk3 ?_|(refine wk2 ?_ ?_<;>intro _)|refine wk4 ?_|fail);all_goals(conv=>whnf)
     exact Qq (.inr rfl)
   ·have hfit:=Jy
    refine bs.yv Zb hI (sx:=Xg) ?_
    repeat'(first|refine wk3 ?_|(refine wk2 ?_ ?_<;>intro _)|refine wk4 ?_|fail);all_goals(conv=>whnf)
    refine bs.ysv (sx:=Xg) Zb hI Tryz.func110 (by kernel_rfl) rfl (by kernel_rfl) ?_
    conv=>whnf
    refine Ga ⟨rfl,rfl,.same rfl,(fun h=>by cases h),?_,?_⟩
    ·conv=>whnf
     repeat'(first|refine wk3 ?_|(refine wk2 ?_ ?_<;>intro _)|refine wk4 ?_|fail);all_goals(conv=>whnf)
     refine Zxg (S:=Nat × Int × AV) (fun t=>n-t.1) (fun t=>[(0,.ptr 0 0 0),(1,.ptr 1 0 0),(2,.ipt [I 2]),(3,.ipt [I (n:Int)]),(4,.ptr 2 0 0),(15,I (n:Int)),(16,I t.2.1)]) (fun t=>w4Z l (fn2 n) (I k) t.2.2)
      (fun t=>some (lsX (((rngI t.1 n).flatMap fun j=>if (k:Int)=j then [] else [[(k:Int),j]])++(rngI (k+1) n).flatMap fun i=>wlk n 1 [i]))) 5 (fun _=>5) (fun t=>t.2.1=t.1/\t.1<=n) (0,0,b) ⟨rfl,Qn _⟩ (Qd _) rfl [] rfl (kps) (kps) ?_
     rintro ⟨j,i,b'⟩ ⟨hi,hj⟩
     dsimp only at hi hj
     subst hi
     by_cases hl2:j<n
     ·have hw2:Qa Qb ((j:Int)+1)=((j+1:Nat):Int):=W_eq (by omega) (by omega)
      dsimp only
      rw [Zds hl2,Tb]
      by_cases hkj:(k:Int)=(j:Int)
      ·rw [if_pos hkj,Wg]
       refine bs.yv Zb hI (sx:=Xg) ?_
       repeat'(first|refine wk3 ?_|(refine wk2 ?_ ?_<;>intro _)|refine wk4 ?_|fail);all_goals(conv=>whnf)
       exact Qq ⟨(j+1,Qa Qb ((j:Int)+1),b'),[],rfl,kps,kps,rfl,⟨hw2,by omega⟩,by dsimp only; omega⟩
      ·rw [if_neg hkj]
       refine bs.yv Zb hI (sx:=Xg) ?_
       repeat'(first|refine wk3 ?_|(refine wk2 ?_ ?_<;>intro _)|refine wk4 ?_|fail);all_goals(conv=>whnf)
       refine bs.ysv (sx:=Xg) Zb hI Tryz.func110 (by kernel_rfl) rfl (by kernel_rfl) ?_
       conv=>whnf
       refine Ga ⟨rfl,rfl,.same rfl,(fun h=>by cases h),?_,?_⟩
       ·conv=>whnf
        repeat'(first|refine wk3 ?_|(refine wk2 ?_ ?_<;>intro _)|refine wk4 ?_|fail);all_goals(conv=>whnf)
        exact Qq ⟨(j+1,Qa Qb ((j:Int)+1),I j),[],rfl,kps,kps,rfl,⟨hw2,by omega⟩,by dsimp only; omega⟩
       ·repeat'(first|refine wk3 ?_|(refine wk2 ?_ ?_<;>intro _)|refine wk4 ?_|fail);all_goals(conv=>whnf)
        exact Qq (.inr rfl)
     ·dsimp only
      rw [Zge (k:=j) (by omega),Hm,Wg]
      refine bs.yv Zb hI (sx:=Xg) ?_
      repeat'(first|refine wk3 ?_|(refine wk2 ?_ ?_<;>intro _)|refine wk4 ?_|fail);all_goals(conv=>whnf)
      exact Qq ⟨(k+1,Qa Qb ((k:Int)+1),m+2,I k,b'),[(3,3)],rfl,kps,kps,rfl,⟨hw,by omega⟩,by dsimp only; omega⟩
    ·repeat'(first|refine wk3 ?_|(refine wk2 ?_ ?_<;>intro _)|refine wk4 ?_|fail);all_goals(conv=>whnf)
     exact Qq (.inr rfl)
  ·dsimp only
   rw [Zge (by omega)]
   rcases m with _|_|m
   all_goals
    refine bs.yv Zb hI (sx:=Xg) ?_
    repeat'(first|refine wk3 ?_|(refine wk2 ?_ ?_<;>intro _)|refine wk4 ?_|fail);all_goals(conv=>whnf)
    exact Qq (.inl rfl)
 ·repeat'(first|refine wk3 ?_|(refine wk2 ?_ ?_<;>intro _)|refine wk4 ?_|fail);all_goals(conv=>whnf)
  exact Qq (.inr rfl)
def extL (m:Nat) (L:List Int):List (List Int):=(rngI 0 m).flatMap fun i=>if L.getLast?=some i then [] else [L++[i]]
def bfsL (m:Nat):Nat->List (List Int)
 | 0=>[[]]
 | n+1=>(bfsL m n).flatMap (extL m)
def lev (m:Nat):Nat->List Int->List (List Int)
 | 0,L=>[L]
 | n+1,L=>(extL m L).flatMap (lev m n)
theorem Zs2 (m:Nat):∀ (n:Nat) (L:List Int),lev m (n+1) L=(lev m n L).flatMap (extL m)
 | 0,L=>by simp [lev]
 | n+1,L=>by
  rw [lev,lev,Fq]
  congr 1
  funext L'
  exact Zs2 m n L'
theorem Zzp (m:Nat):∀ n,bfsL m n=lev m n []
 | 0=>rfl
 | n+1=>by rw [Zs2,bfsL,Zzp m n]
theorem Zke {α β:Type} (f g:α->List β):∀ l:List α,(l.flatMap fun x=>f x++g x).Perm (l.flatMap f++l.flatMap g)
 | []=>.nil
 | a::l=>by
  simp only [Tb]
  refine ((Ma _).append (Zke f g l)).trans ?_
  rw [Rx,Rx]
  refine (Ma _).append ?_
  rw [<-Rx,<-Rx]
  exact List.perm_append_comm.append (Ma _)
theorem flatMap_nil {α β:Type}:∀ l:List α,(l.flatMap fun _=>([]:List β))=[]
 | []=>rfl
 | a::l=>by rw [Tb,flatMap_nil l]; rfl
theorem Zim {α β γ:Type} (f:α->β->List γ) (b:List β):∀ a:List α,(a.flatMap fun x=>b.flatMap fun y=>f x y).Perm (b.flatMap fun y=>a.flatMap fun x=>f x y)
 | []=>by simp [flatMap_nil]
 | x::a=>by
  simp only [Tb]
  exact ((Ma _).append (Zim f b a)).trans (Zke _ _ b).symm
theorem Zin {α β:Type} {f g:α->List β}:∀ {l:List α},(∀ x∈l,(f x).Perm (g x))->(l.flatMap f).Perm (l.flatMap g)
 | [],_=>.nil
 | a::l,h=>by
  simp only [Tb]
  exact (h a (by simp)).append (Zin fun x hx=>h x (by simp [hx]))
theorem Yd2 (m o:Nat) (L:List Int):wlk m (o+1) L=L::(extL m L).flatMap (wlk m o):=by
 rw [wlk,extL,Fq]
 congr 2
 funext i
 split<;>simp
theorem Zvr (m:Nat):∀ (o:Nat) (L:List Int),(wlk m o L).Perm ((Tu (o+1)).flatMap fun k=>lev m k L)
 | 0,L=>by simp [wlk,lev]
 | o+1,L=>by
  rw [Yd2,List.range_succ_eq_map,Tb]
  show (L::_).Perm ([L]++_)
  refine List.Perm.cons L ?_
  refine (Zin fun L' _=>Zvr m o L').trans ?_
  refine (Zim _ _ _).trans ?_
  rw [List.flatMap_map]
  exact .refl _
theorem Yd3 (m o:Nat):(wlk m o []).Perm ((Tu (o+1)).flatMap (bfsL m)):=by
 have:bfsL m=fun k=>lev m k []:=funext fun k=>Zzp m k
 rw [this]
 exact Zvr m o []
theorem Zso {m:Nat} {i:Int} (h:i∈rngI 0 m):0<=i/\i<m:=by
 unfold rngI at h
 obtain ⟨k,hk,rfl⟩:=Ph.1 h
 have:=De.1 hk
 omega
structure Wok (m:Nat) (L:List Int) (n:Nat):Prop where
 len:L.length<=n
 mem:∀ i∈L,0<=i/\i<m
theorem Zr7 (m:Nat):∀ (o:Nat) (L:List Int) (n:Nat),Wok m L n->∀ x∈wlk m o L,Wok m x (n+o)
 | 0,L,n,h,x,hx=>by
  rw [wlk] at hx
  rw [Tw.1 hx]; exact h
 | o+1,L,n,h,x,hx=>by
  rw [wlk] at hx
  rcases Ra.1 hx with rfl|hx
  ·exact ⟨Qs h.len (Nat.le_add_right _ _),h.mem⟩
  ·obtain ⟨i,hi,hx⟩:=Mf.1 hx
   split at hx
   ·simp at hx
   ·have:=Zr7 m o (L++[i]) (n+1) ⟨by have:=h.len; simp; omega,fun j hj=>by
     rcases List.mem_append.1 hj with hj|hj
     ·exact h.mem j hj
     ·rw [Tw.1 hj]; exact Zso hi⟩ x hx
    rw [show n+(o+1)=n+1+o by omega]
    exact this
def fndP (f:List Int->Option Pth) (m o:Nat):List Pth:=(wlk m o []).filterMap f
def refL (f:List Int->Option Pth) (m o:Nat):List Pth:=(((Tu (o+1)).flatMap (bfsL m)).filterMap f).foldl putL []
theorem Zkd:∀ (l a:List Pth),a.Pairwise (fun a b=>ordP a b<=0)->(l.foldl putL a).Pairwise (fun a b=>ordP a b<=0)/\(l.foldl putL a).Perm (l++a)
 | [],a,h=>⟨h,.refl _⟩
 | p::l,a,h=>by
  obtain ⟨q1,q2⟩:=Zkd l (putL a p) (Zqv h)
  refine ⟨q1,q2.trans ?_⟩
  refine ((Ma l).append (Zws a p)).trans ?_
  exact List.perm_middle
theorem Zay (f:List Int->Option Pth) (m o:Nat):(refL f m o).Perm (fndP f m o):=by
 have:=(Zkd (((Tu (o+1)).flatMap (bfsL m)).filterMap f) [] .nil).2
 rw [Pk] at this
 exact this.trans ((Yd3 m o).symm.filterMap f)
theorem Zfp (f:List Int->Option Pth) (m o:Nat):(refL f m o).Pairwise (fun a b=>ordP a b<=0):=(Zkd _ [] .nil).1
theorem Zlg {f:List Int->Option Pth} (hf:∀ L p,f L=some p->p.ss=L) {m o:Nat} {ys:List Pth} (h1:ys.Perm (fndP f m o)) (h2:ys.Pairwise (fun a b=>¬ ordP b a<0)):ys=refL f m o:=by
 refine Znv (G:=fun p=>f p.ss=some p) (fun a b ha hb e=>?_) (h1.trans (Zay f m o).symm) (fun a ha=>?_) (h2.imp fun {a b} h=>?_) (Zfp f m o)
 ·rw [e,hb] at ha; cases ha; rfl
 ·have:=h1.subset ha
  obtain ⟨L,hL,e⟩:=Nh.1 this
  rw [hf L a e]; exact e
 ·have:=Za1 a b; omega
theorem Yi4 (n o:Int):PCall Tryz.prog 70 [I n,I o] ⟨.func 109 [] [.ipt [I o],.ipt [I n]],[]⟩:=by
 refine PCall.frzFns (rows:=[(1,[I n]),(1,[I o])]) (ks:=[(1,[I o]),(0,[I n])]) (by
  intro q hq
  simp only [Ra,List.not_mem_nil,or_false] at hq
  rcases hq with rfl|rfl<;>exact ⟨_,rfl⟩) ?_
 refine bs.pv (sx:=nos) Zb Tryz.func70 (by kernel_rfl) (by kernel_rfl) rfl ?_
 repeat'(first|refine wk3 ?_|(refine wk2 ?_ ?_<;>intro _)|refine wk4 ?_|fail);all_goals(conv=>whnf)
 exact Xn [0,1] rfl rfl rfl
def wlkB (m:Nat):Nat->Nat
 | 0=>1
 | o+1=>1+m*wlkB m o
theorem Zl2 {α β:Type} {f:α->List β} {B:Nat}:∀ l:List α,(∀ x∈l,(f x).length<=B)->(l.flatMap f).length<=l.length*B
 | [],_=>by simp
 | a::l,h=>by
  have h1:=h a (by simp)
  have h2:=Zl2 l fun x hx=>h x (by simp [hx])
  rw [Tb,Tj,Sn,Nat.add_mul,Gs]
  omega
theorem Zqe (m:Nat):∀ (o:Nat) (L:List Int),(wlk m o L).length<=wlkB m o
 | 0,L=>by simp [wlk,wlkB]
 | o+1,L=>by
  have:=Zl2 (f:=fun i=>if L.getLast?=some i then [] else wlk m o (L++[i])) (B:=wlkB m o) (rngI 0 m) fun i _=>by
   split
   ·simp
   ·exact Zqe m o _
  rw [wlk,Sn,wlkB]
  have hl:(rngI 0 m).length=m:=by simp [rngI]
  rw [hl] at this
  omega
theorem Ybs (f:List Int->Option Pth) {m o:Nat} (hm:m<900) (ho:o<=2):(fndP f m o).length<900000:=by
 have h1:(fndP f m o).length<=(wlk m o []).length:=Jv _ _
 have h2:=Zqe m o []
 have h3:wlkB m o<=1+m+m*m:=by
  obtain rfl|rfl|rfl:o=0\/o=1\/o=2:=by omega
  ·simp [wlkB]; omega
  ·simp [wlkB]
  ·simp [wlkB,Nat.mul_add]; omega
 have h4:m*m<=899*899:=Li (by omega) (by omega)
 omega
theorem Ybx {P:Program} {f:FuncId} {fn:Func} (hf:P.funcs[f]?=some fn) (h1:(fn.name == "runtime.NumGoroutine")=false) (h2:fn.body.isNone=false) (args:Array Value) (w:World):(callFunc f args).run P w = .ok (.enter f args) w:=by
 have q2' : ¬ fn.name = "runtime.NumGoroutine" := by simpa using h1
 have q3' : ¬ fn.body=none:=by intro h; rw [h] at h2; simp at h2
 simp [callFunc,hf,q2',q3']
theorem Yg8:FnOK Tryz.prog 72:=FnOK.of Tryz.func72 (by kernel_rfl) (by kernel_rfl)
abbrev gcP (p:Pth):List AV:=[.isl 1 (nl p.ss),.isl 4 (p.ps.map hp4),I p.sq]
def Yiu:FuncId->Bool:=fun f=>Nat.beq f 72
noncomputable def kAll (h:Hal) (s:Stg) (fx fy fz tx ty tz n:Int):PC:=ins 33 (oneA [h.av,s.av,.agg [I fx,I fy,I fz,I tx,I ty,I tz,I n]] ⟨I 0,[]⟩) (ins 69 (oneA [h.av] ⟨.tup [.isl 1 (sl (surf h)),I 0],[]⟩) (ins 70 (oneA [I (sl (surf h)).length,I n] ⟨.func 109 [] [.ipt [I n],.ipt [I (nsN h:Nat)]],[]⟩) pt0))
theorem d55 {h:Hal} (hk:h.ok) {s:Stg} (hs:s.few) (hS:SortsK Tryz.prog 72 3) (a:Ask) (e:askE h s a=0) (hn:a.n<3) (hN:nsN h<900) :
  PCall Tryz.prog 35 [h.av,s.av,a.av] ⟨.tup [.isl 3 ((refL (Yo h s (qF a) (qT a)) (nsN h) a.n.toNat).map gcP),I 0],[]⟩:=by
 have A:=Xl e
 have he:=Zgb A.e0
 have h24:=d24 hk hs a
 rw [e] at h24
 have h112:=c64 hk
 rw [if_pos he,he] at h112
 obtain ⟨fx,fy,fz,tx,ty,tz,n⟩:=a
 dsimp only at hn
 have hkA:PCOK Tryz.prog (kAll h s fx fy fz tx ty tz n):=Zfr h24 (Zfr h112 (Zfr (by rw [<-Yai]; exact Yi4 _ n) Zb))
 unfold kAll at hkA
 have o1:=Zcu [h.av,s.av,.agg [I fx,I fy,I fz,I tx,I ty,I tz,I n]] ⟨I 0,[]⟩
 have o2:=Zcu [h.av] ⟨.tup [.isl 1 (sl (surf h)),I 0],[]⟩
 have o3:=Zcu [I (sl (surf h)).length,I n] ⟨.func 109 [] [.ipt [I n],.ipt [I (nsN h:Nat)]],[]⟩
 refine PCall.freeze (res:=if (refL (Yo h s (fx,fy,fz) (tx,ty,tz)) (nsN h) n.toNat)=[] then ⟨.tup [.nils,I 0],[]⟩ else ⟨.tup [.asl 0 0 (refL (Yo h s (fx,fy,fz) (tx,ty,tz)) (nsN h) n.toNat).length,I 0],[(3,(refL (Yo h s (fx,fy,fz) (tx,ty,tz)) (nsN h) n.toNat).map gcP)]⟩) ?_ ?_
 rotate_left
 ·split<;>rename_i hre
  ·rw [hre]; exact ⟨rfl,⟨rfl,rfl⟩,trivial⟩
  ·refine ⟨⟨rfl,rfl,?_⟩,⟨rfl,rfl⟩,trivial⟩
   exact (Rw _).symm
 refine bs.pv (sx:=Yiu) hkA Tryz.func35 (by kernel_rfl) (by kernel_rfl) (by split<;>rfl) ?_
 repeat'(first|refine wk3 ?_|(refine wk2 ?_ ?_<;>intro _)|refine wk4 ?_|fail);all_goals(conv=>whnf)
 obtain ⟨f,hf⟩:∃ f,f=Yo h s (fx,fy,fz) (tx,ty,tz):=⟨_,rfl⟩
 have hfs:∀ L p,f L=some p->p.ss=L:=fun L p hp=>by rw [hf] at hp; exact Zen hp
 have hfr:∀ L:List Int,Wok (nsN h) L 2->Zp8 Tryz.prog 71 [.agg (stgL h s),.agg [I fx,I fy,I fz,I tx,I ty,I tz,I n],.isl 1 (nl1 L)] (ansP (f L)):=fun L hL=>by
  rw [hf]
  exact d65f hk hs e (by have:=hL.len; omega) (fun i hi=>by have:=hL.mem i hi; rw [Zw9] at this; exact this)
 rw [<-hf]
 have hn2:n.toNat<=2:=by omega
 have hwok:∀ L∈wlk (nsN h) n.toNat [],Wok (nsN h) L 2:=fun L hL=>by
  have:=Zr7 (nsN h) n.toNat [] 0 ⟨Qd _,by simp⟩ L hL
  exact ⟨by have:=this.len; omega,this.mem⟩
 have hcnt:=Ybs f (m:=nsN h) (o:=n.toNat) hN hn2
 have hit:Zp9 Tryz.prog 109 [] [.ipt [I n],.ipt [I (nsN h:Nat)]] (lsX (wlk (nsN h) n.toNat [])):=by
  have hN:nsN h<1000:=by omega
  have hn0:=A.n.1
  dsimp only at hn0
  obtain rfl|rfl|rfl:n=0\/n=1\/n=2:=by omega
  ·exact Yfj _ hN
  ·exact Yfi _ hN
  ·exact Yfh _ hN
 refine Rg.ren (env2:=[(5,.ptr 2 0 0),(11,.ptr 3 0 0),(12,.ptr 4 0 0),(35,.func 109 [] [.ipt [I n],.ipt [I (nsN h:Nat)]])]) (σ2:=⟨[(4,.row 11 [stgL h s] true false),(3,.row 1 [[.nils]] true false),(2,.row 7 [[I fx,I fy,I fz,I tx,I ty,I tz,I n]] true false)],5⟩) (Ren.of [] rfl (kps) (kps)) ?_
 refine rngT hit rfl rfl rfl rfl (Zwj (S:=Nat × Nat × List (List AV)) (fun t=>gz 5 3 t.1 t.2.2 [(4,.row 11 [stgL h s] true false),(3,.row 1 [[gv 5 t.1 t.2.1]] true false),(2,.row 7 [[I fx,I fy,I fz,I tx,I ty,I tz,I n]] true false)]) 5 (fun t=>nm2 5 6 t.1)
  (fun xs t=>∃ (Ls:List (List Int)) (ds:List Pth),xs=lsX Ls/\(∀ L∈Ls,Wok (nsN h) L 2)/\t.1=ds.length/\t.2.1=t.2.2.length/\t.2.2=ds.map gcP/\ds++Ls.filterMap f=fndP f (nsN h) n.toNat) ?_ ?_ _ (0,0,[]) ⟨wlk (nsN h) n.toNat [],[],rfl,?_,rfl,rfl,rfl,rfl⟩)
 ·rintro x xs ⟨k,len,els⟩ ⟨Ls,ds,hxs,hok,hkd,hlen,hels,hfd⟩
  dsimp only at hkd hlen hels ⊢
  cases Ls with
  | nil=>cases hxs
  | cons L Ls =>
   cases hxs
   refine ⟨⟨rfl,rfl⟩,fun ys hys hsl=>?_⟩
   obtain ⟨y,rfl⟩:∃ y,ys = #[y]:=by
    obtain ⟨l⟩:=ys
    match l,hys with
    | [y],_=>exact ⟨y,rfl⟩
   obtain ⟨sa,sn,sc,rfl⟩:=hsl 0 _ rfl
   have hr:=hfr L (hok L (by simp))
   rw [List.filterMap_cons] at hfd
   have e4:els.length<900000:=by
    rw [<-hfd,Tj] at hcnt
    rw [hels,Rw]; omega
   cases hp:f L with
   | none =>
    rw [hp] at hfd hr
    cases k with
    | zero =>
     refine bs.av (sx:=nos) hkA ?_
     conv=>whnf
     repeat'(first|refine wk3 ?_|(refine wk2 ?_ ?_<;>intro _)|refine wk4 ?_|fail);all_goals(conv=>whnf)
     refine Zex (Zi6 (Zc7 (Zg2 (sx:=nos) bs.hT bs.hok hkA) rfl ?_))
     conv=>whnf
     repeat'(first|refine wk3 ?_|(refine wk2 ?_ ?_<;>intro _)|refine wk4 ?_|fail);all_goals(conv=>whnf)
     refine Qcn ⟨[.agg (stgL h s),.agg [I fx,I fy,I fz,I tx,I ty,I tz,I n],.isl 1 (nl1 L)],_,⟨.inl rfl,.inl rfl,.inr ⟨⟨sa,sn,sc,rfl,rfl⟩,rfl⟩,trivial⟩,rfl,hr,?_⟩
     conv=>whnf
     repeat'(first|refine wk3 ?_|(refine wk2 ?_ ?_<;>intro _)|refine wk4 ?_|fail);all_goals(conv=>whnf)
     refine bs.av (sx:=nos) hkA ?_
     conv=>whnf
     repeat'(first|refine wk3 ?_|(refine wk2 ?_ ?_<;>intro _)|refine wk4 ?_|fail);all_goals(conv=>whnf)
     exact Qq ⟨(0,len,els),[],rfl,kps,Ls,ds,rfl,fun L hL=>hok L (by simp [hL]),hkd,hlen,hels,hfd⟩
    | succ k =>
     refine bs.av (sx:=nos) hkA ?_
     conv=>whnf
     repeat'(first|refine wk3 ?_|(refine wk2 ?_ ?_<;>intro _)|refine wk4 ?_|fail);all_goals(conv=>whnf)
     refine Zex (Zi6 (Zc7 (Zg2 (sx:=nos) bs.hT bs.hok hkA) rfl ?_))
     conv=>whnf
     repeat'(first|refine wk3 ?_|(refine wk2 ?_ ?_<;>intro _)|refine wk4 ?_|fail);all_goals(conv=>whnf)
     refine Qcn ⟨[.agg (stgL h s),.agg [I fx,I fy,I fz,I tx,I ty,I tz,I n],.isl 1 (nl1 L)],_,⟨.inl rfl,.inl rfl,.inr ⟨⟨sa,sn,sc,rfl,rfl⟩,rfl⟩,trivial⟩,rfl,hr,?_⟩
     conv=>whnf
     repeat'(first|refine wk3 ?_|(refine wk2 ?_ ?_<;>intro _)|refine wk4 ?_|fail);all_goals(conv=>whnf)
     refine bs.av (sx:=nos) hkA ?_
     conv=>whnf
     repeat'(first|refine wk3 ?_|(refine wk2 ?_ ?_<;>intro _)|refine wk4 ?_|fail);all_goals(conv=>whnf)
     exact Qq ⟨(k+1,len,els),[(5,5)],rfl,kps,Ls,ds,rfl,fun L hL=>hok L (by simp [hL]),hkd,hlen,hels,hfd⟩
   | some p =>
    rw [hp] at hfd hr
    cases k with
    | zero =>
     refine bs.av (sx:=nos) hkA ?_
     conv=>whnf
     repeat'(first|refine wk3 ?_|(refine wk2 ?_ ?_<;>intro _)|refine wk4 ?_|fail);all_goals(conv=>whnf)
     refine Zex (Zi6 (Zc7 (Zg2 (sx:=nos) bs.hT bs.hok hkA) rfl ?_))
     conv=>whnf
     repeat'(first|refine wk3 ?_|(refine wk2 ?_ ?_<;>intro _)|refine wk4 ?_|fail);all_goals(conv=>whnf)
     refine Qcn ⟨[.agg (stgL h s),.agg [I fx,I fy,I fz,I tx,I ty,I tz,I n],.isl 1 (nl1 L)],_,⟨.inl rfl,.inl rfl,.inr ⟨⟨sa,sn,sc,rfl,rfl⟩,rfl⟩,trivial⟩,rfl,hr,?_⟩
     conv=>whnf
     repeat'(first|refine wk3 ?_|(refine wk2 ?_ ?_<;>intro _)|refine wk4 ?_|fail);all_goals(conv=>whnf)
     refine bs.av (sx:=nos) hkA ?_
     conv=>whnf
     repeat'(first|refine wk3 ?_|(refine wk2 ?_ ?_<;>intro _)|refine wk4 ?_|fail);all_goals(conv=>whnf)
     exact Qq ⟨(1,_,_),[(5,7)],rfl,kps,Ls,ds++[p],rfl,fun L hL=>hok L (by simp [hL]),by rw [Tj,<-hkd]; rfl,rfl,by rw [Tq.1 hkd.symm]; rfl,by rw [Rx]; exact hfd⟩
    | succ k =>
     refine bs.av (sx:=nos) hkA ?_
     conv=>whnf
     repeat'(first|refine wk3 ?_|(refine wk2 ?_ ?_<;>intro _)|refine wk4 ?_|fail);all_goals(conv=>whnf)
     refine Zex (Zi6 (Zc7 (Zg2 (sx:=nos) bs.hT bs.hok hkA) rfl ?_))
     conv=>whnf
     repeat'(first|refine wk3 ?_|(refine wk2 ?_ ?_<;>intro _)|refine wk4 ?_|fail);all_goals(conv=>whnf)
     refine Qcn ⟨[.agg (stgL h s),.agg [I fx,I fy,I fz,I tx,I ty,I tz,I n],.isl 1 (nl1 L)],_,⟨.inl rfl,.inl rfl,.inr ⟨⟨sa,sn,sc,rfl,rfl⟩,rfl⟩,trivial⟩,rfl,hr,?_⟩
     conv=>whnf
     repeat'(first|refine wk3 ?_|(refine wk2 ?_ ?_<;>intro _)|refine wk4 ?_|fail);all_goals(conv=>whnf)
     refine bs.av (sx:=nos) hkA ?_
     conv=>whnf
     repeat'(first|refine wk3 ?_|(refine wk2 ?_ ?_<;>intro _)|refine wk4 ?_|fail);all_goals(conv=>whnf)
     exact Qq ⟨(k+1+1,_,_),[(5,8)],rfl,kps,Ls,ds++[p],rfl,fun L hL=>hok L (by simp [hL]),by rw [Tj,<-hkd]; rfl,by exact List.length_append.symm,by rw [Oq,<-hels]; rfl,by rw [Rx]; exact hfd⟩
 ·rintro ⟨k,len,els⟩ ⟨Ls,ds,hxs,hok,hkd,hlen,hels,hfd⟩
  dsimp only at hkd hlen hels ⊢
  cases Ls with
  | cons=>cases hxs
  | nil =>
   rw [List.filterMap_nil,Pk] at hfd
   have hds:∀ d∈ds,d.ss.length<1000000:=fun d hd=>by
    rw [hfd] at hd
    obtain ⟨L,hL,hp⟩:=Nh.1 hd
    rw [hfs L d hp]
    have:=(hwok L hL).len; omega
   rw [<-hfd] at hcnt
   cases k with
   | zero =>
    obtain rfl:ds=[]:=Tq.1 hkd.symm
    have hre:refL f (nsN h) n.toNat=[]:=(Zlg hfs (ys:=[]) (by rw [<-hfd]) .nil).symm
    rw [hre,if_pos rfl]
    conv=>whnf
    repeat'(first|refine wk3 ?_|(refine wk2 ?_ ?_<;>intro _)|refine wk4 ?_|fail);all_goals(conv=>whnf)
    refine Yao Yg8 hS ?_
    conv=>whnf
    repeat'(first|refine wk3 ?_|(refine wk2 ?_ ?_<;>intro _)|refine wk4 ?_|fail);all_goals(conv=>whnf)
    exact Zg rfl rfl
   | succ k =>
    rw [hels,Rw] at hlen
    subst hels hlen
    conv=>whnf
    repeat'(first|refine wk3 ?_|(refine wk2 ?_ ?_<;>intro _)|refine wk4 ?_|fail);all_goals(conv=>whnf)
    refine Yan Yg8 hS (by decide) (Ybx Tryz.func73 (by kernel_rfl) (by kernel_rfl)) gcP (fun _=>rfl) (fun _=>rfl) (fun _=>rfl) ordP (fun a ha b hb=>Ya0 (d115 (hds a ha) (hds b hb))) Ya6 (by omega) rfl fun ys hp hs=>?_
    obtain rfl:=Zlg hfs (by rw [<-hfd]; exact hp) hs
    have hyl:=hp.length_eq
    generalize refL f (nsN h) n.toNat=ys at *
    rw [if_neg (by intro h0; rw [h0,<-hkd] at hyl; cases hyl)]
    conv=>whnf
    repeat'(first|refine wk3 ?_|(refine wk2 ?_ ?_<;>intro _)|refine wk4 ?_|fail);all_goals(conv=>whnf)
    exact Xn [5] rfl (by rw [hyl]; rfl) rfl
 ·exact hwok
theorem Zr8 {n i:Int} (hi:within i 0 n=true):∀ (l:List Int) (q:Option Int),wkG n q l=0->(l.getLast?.or q)≠some i->wkG n q (l++[i])=0
 | [],q,_,hq=>by
  have hq:q≠some i:=hq
  show wkG n q [i]=0
  rw [wkG,if_pos hi,if_neg hq]; rfl
 | x::l,q,h,hq=>by
  rw [wkG] at h
  rw [Tn,wkG]
  split at h
  ·rename_i h1
   rw [if_pos h1]
   split at h
   ·cases h
   ·rename_i h2
    rw [if_neg h2]
    refine Zr8 hi l (some x) h ?_
    cases l with
    | nil=>exact hq
    | cons y l =>
     rw [List.getLast?_cons_cons] at hq
     cases hl:(y::l).getLast? with
     | none=>simp at hl
     | some z=>rw [hl] at hq; exact hq
  ·cases h
theorem Zvp (m:Nat):∀ (o:Nat) (L:List Int),wkG ((m:Int)-1) none L=0->∀ x∈wlk m o L,wkG ((m:Int)-1) none x=0
 | 0,L,h,x,hx=>by
  rw [wlk] at hx
  rw [Tw.1 hx]; exact h
 | o+1,L,h,x,hx=>by
  rw [wlk] at hx
  rcases Ra.1 hx with rfl|hx
  ·exact h
  ·obtain ⟨i,hi,hx⟩:=Mf.1 hx
   split at hx
   ·simp at hx
   ·rename_i hl
    have hr:=Zso hi
    refine Zvp m o (L++[i]) (Zr8 (within_iff.2 (by omega)) L none h ?_) x hx
    rw [Option.or_none]; exact hl
theorem Zmi (m:Nat):∀ (o:Nat) (L:List Int),∀ x∈wlk m o L,∃ t,x=L++t
 | 0,L,x,hx=>by
  rw [wlk] at hx
  exact ⟨[],by rw [Tw.1 hx]; simp⟩
 | o+1,L,x,hx=>by
  rw [wlk] at hx
  rcases Ra.1 hx with rfl|hx
  ·exact ⟨[],by simp⟩
  ·obtain ⟨i,hi,hx⟩:=Mf.1 hx
   split at hx
   ·simp at hx
   ·obtain ⟨t,rfl⟩:=Zmi m o _ x hx
    exact ⟨i::t,by simp⟩
theorem Zuh (m:Nat):(rngI 0 m).Nodup:=by
 unfold rngI
 rw [Fr,List.pairwise_map]
 exact (List.pairwise_lt_range' (s:=0) (n:=m-0)).imp fun {a b} h e=>by omega
theorem Znn (m:Nat):∀ (o:Nat) (L:List Int),(wlk m o L).Nodup
 | 0,L=>by simp [wlk]
 | o+1,L=>by
  rw [wlk,List.nodup_cons]
  refine ⟨fun h=>?_,?_⟩
  ·obtain ⟨i,hi,hx⟩:=Mf.1 h
   split at hx
   ·simp at hx
   ·obtain ⟨t,e⟩:=Zmi m o _ _ hx
    have:=congrArg Kg e
    simp at this
  ·rw [Fr,List.pairwise_flatMap]
   refine ⟨fun i _=>?_,(Zuh m).imp fun {i j} hij x hx y hy e=>?_⟩
   ·split
    ·exact .nil
    ·exact Znn m o _
   ·split at hx
    ·simp at hx
    ·split at hy
     ·simp at hy
     ·obtain ⟨t,e1⟩:=Zmi m o _ _ hx
      obtain ⟨t',e2⟩:=Zmi m o _ _ hy
      rw [e1,e2,Rx,Rx] at e
      have:=List.append_cancel_left e
      simp at this
      exact hij this.1
theorem Zvq (m:Nat):∀ (l:List Int) (o:Nat) (L:List Int),wkG ((m:Int)-1) L.getLast? l=0->l.length<=o->L++l∈wlk m o L
 | [],o,L,_,_=>by
  rw [Pk]
  cases o<;>simp [wlk]
 | x::l,0,L,_,ho=>by simp at ho
 | x::l,o+1,L,h,ho=>by
  rw [wkG] at h
  split at h
  ·rename_i h1
   split at h
   ·cases h
   ·rename_i h2
    rw [wlk]
    refine List.mem_cons_of_mem _ (Mf.2 ⟨x,?_,?_⟩)
    ·have:=within_iff.1 h1
     unfold rngI
     refine Ph.2 ⟨x.toNat,De.2 ⟨Qn _,by omega⟩,by omega⟩
    ·rw [if_neg h2]
     have:=Zvq m l o (L++[x]) (by rw [List.getLast?_append]; exact h) (by simpa using ho)
     rwa [Rx] at this
  ·cases h
theorem Zv8 {a b c x y z:Int} (h1:Near 45000 (a,b,c)) (h2:Near 5000 (x,y,z)):sqV a b c x y z=(a-x)*(a-x)+(b-y)*(b-y)+(c-z)*(c-z)/\sqV a b c x y z<=24300000000:=by
 obtain ⟨p1,p2,p3⟩:=h1
 obtain ⟨r1,r2,r3⟩:=h2
 dsimp only at p1 p2 p3 r1 r2 r3
 have k:∀ u v:Int,(-45000<=u/\u<=45000)->(-5000<=v/\v<=5000)->Qa Qb (u-v)=u-v/\(0<=(u-v)*(u-v)/\(u-v)*(u-v)<=2500000000)/\Qa Qb (Qa Qb (u-v)*Qa Qb (u-v))=(u-v)*(u-v):=fun u v hu hv=>by
  have e1:Qa Qb (u-v)=u-v:=W_eq (by omega) (by omega)
  have e2:0<=(u-v)*(u-v)/\(u-v)*(u-v)<=2500000000:=by
   generalize hd:u-v=d
   have hd1 : -50000<=d:=by omega
   have hd2:d<=50000:=by omega
   constructor
   ·rcases Int.le_total 0 d with h|h
    ·exact Qo h h
    ·have:=Qo (show 0 <= -d by omega) (show 0 <= -d by omega)
     rwa [Qao] at this
   ·have:=Qo (show 0<=50000-d by omega) (show 0<=50000+d by omega)
    have e:(50000-d)*(50000+d)=2500000000-d*d:=by rw [Int.mul_add,My,My]; omega
    omega
  exact ⟨e1,e2,by rw [e1]; exact W_eq (by omega) (by omega)⟩
 obtain ⟨_,a1,a2⟩:=k a x p1 r1
 obtain ⟨_,b1,b2⟩:=k b y p2 r2
 obtain ⟨_,c1,c2⟩:=k c z p3 r3
 unfold sqV
 rw [a2,b2,c2]
 rw [W_eq (n:=(a-x)*(a-x)+(b-y)*(b-y)) (by omega) (by omega),W_eq (by omega) (by omega)]
 exact ⟨rfl,by omega⟩
theorem Zbn {d:Int} (h:d≠0):1<=d*d:=by
 rcases Pi d 0 with h1|h1|h1
 ·have:=Nz (show (1:Int) <= -d by omega) (show (1:Int) <= -d by omega) (by omega) (by omega)
  rw [Qao] at this; omega
 ·exact absurd h1 h
 ·have:=Nz (show (1:Int)<=d by omega) (show (1:Int)<=d by omega) (by omega) (by omega)
  omega
theorem Zmn (d:Int):0<=d*d:=by
 by_cases h:d=0
 ·subst h; omega
 ·have:=Zbn h; omega
theorem Yit {a b c x y z:Int} (h:¬ (a=x/\b=y/\c=z)):1<=(a-x)*(a-x)+(b-y)*(b-y)+(c-z)*(c-z):=by
 have h1:=Zmn (a-x)
 have h2:=Zmn (b-y)
 have h3:=Zmn (c-z)
 by_cases e1:a=x
 ·by_cases e2:b=y
  ·have:=Zbn (d:=c-z) (by intro k; exact h ⟨e1,e2,by omega⟩); omega
  ·have:=Zbn (d:=b-y) (by omega); omega
 ·have:=Zbn (d:=a-x) (by omega); omega
theorem Ygm (x:Int):0<=sgn x*sgn x:=Zmn _
theorem Ya5 {h:Hal} {s:Stg} (g:Sit h s) (e0:serr h s=0) {q0 q1:Pl3} (hf:Near 5000 q0) (ht:Near 5000 q1) (hne:q0≠q1) {ns:List Int} (hl:ns.length<=4) (hi:∀ n∈ns,0<=n/\n<nsur h) {p:Pth} (e:Yo h s q0 q1 ns=some p):1<=p.sq/\p.sq<=24300000000:=by
 have hn:=Zm6 g hf hl (Ygl hi) ns.length (Qd _)
 have hn:Near 45000 (imA (im1 h s) q0 ns ns.length):=Zo (by omega) hn
 have hs:imA (im1 h s) q0 ns ns.length≠q1:=by
  intro hq
  rw [Zbm] at e
  by_cases h0:ns=[]
  ·subst h0
   exact hne hq
  ·have hp:0<ns.length:=List.length_pos_iff.2 h0
   have ht2:=Zm4 (f:=im1 h s) (q:=q0) (ns:=ns) (k:=ns.length-1) (by omega)
   rw [show ns.length-1+1=ns.length by omega,List.take_of_length_le (by rw [Zar]; exact Qd _)] at ht2
   rw [ht2,goP,hq] at e
   have hc:=Zko g e0 (hi _ (Qr (show ns.length-1<ns.length by omega))) (q:=q1) (Zo (by omega) ht) (to:=pnt q1) (Zd0 ht)
   have hz:(fP h s (ns[ns.length-1]'(by omega)) q1 (pnt q1)).2≠0:=by
    show (crsA h s ⟨_,q1.1,q1.2.1,q1.2.2,pnt q1⟩).2≠0
    rw [hc.2.2.1]
    unfold Zao
    have:crF (Zf h s (ns[ns.length-1]'(by omega))) ⟨ns[ns.length-1]'(by omega),q1.1,q1.2.1,q1.2.2,pnt q1⟩=crG (Zf h s (ns[ns.length-1]'(by omega))) ⟨ns[ns.length-1]'(by omega),q1.1,q1.2.1,q1.2.2,pnt q1⟩:=by
     unfold crF crG pnt
     dsimp only
     rw [Sc]
    rw [this,if_pos (Ygm _)]
    show (12:Int)≠0
    decide
   rw [if_neg hz] at e
   cases e
 rw [Zbm] at e
 split at e
 ·cases e
 ·split at e
  ·cases e
   obtain ⟨r1,r2⟩:=Zv8 (a:=(imA (im1 h s) q0 ns ns.length).1) (b:=(imA (im1 h s) q0 ns ns.length).2.1) (c:=(imA (im1 h s) q0 ns ns.length).2.2) (x:=q1.1) (y:=q1.2.1) (z:=q1.2.2) hn ht
   dsimp only
   refine ⟨?_,r2⟩
   rw [r1]
   refine Yit ?_
   rintro ⟨k1,k2,k3⟩
   exact hs (Prod.ext k1 (Prod.ext k2 k3))
  ·cases e
theorem Ybv (l:List Pt4):eqP l l=true:=by
 have:=Zwe ⟨[],l,0⟩
 unfold same at this
 simp only [Qc] at this
 exact this.2.2
theorem Zw0 {a b:Pth} (h:ordP a b<=0):a.sq<=b.sq:=by
 rw [Zd2] at h
 unfold ordK at h
 rw [cmpL] at h
 rcases Vs a.sq b.sq with ⟨h1,e⟩|⟨h1,e⟩|⟨h1,e⟩
 ·omega
 ·omega
 ·rw [e,if_neg (by decide)] at h; omega
theorem Yin {a:Ask} (h:a.same=false):qF a≠qT a:=by
 intro e
 have e1:a.fx=a.tx:=congrArg (·.1) e
 have e2:a.fy=a.ty:=congrArg (·.2.1) e
 have e3:a.fz=a.tz:=congrArg (·.2.2) e
 unfold Ask.same at h
 simp [e1,e2,e3] at h
theorem Ygi {h:Hal} {l:List Int} (hl:l.length<=4) (hw:wkG ((nsN h:Int)-1) none l=0):suE h l=0:=by
 unfold suE
 rw [if_neg (by omega),<-Zw9]
 exact hw
theorem Zgf {h:Hal} (hk:h.ok) {s:Stg} (hs:s.few) {a:Ask} (e:askE h s a=0) (hn:a.n<3) {p:Pth} (hp:p∈refL (Yo h s (qF a) (qT a)) (nsN h) a.n.toNat) :
  Yo h s (qF a) (qT a) p.ss=some p/\suE h p.ss=0/\p.ss.length<=2/\p.ps.length<=2/\cpE h s a p=0:=by
 have A:=Xl e
 have hn0:=A.n
 have h1:=(Zay _ _ _).subset hp
 obtain ⟨L,hL,hf⟩:=Nh.1 h1
 obtain rfl:=Zen hf
 have hw:=Zr7 (nsN h) a.n.toNat [] 0 ⟨Qd _,by simp⟩ _ hL
 have hg:=Zvp (nsN h) a.n.toNat [] rfl _ hL
 have hl:p.ss.length<=a.n.toNat:=by have:=hw.len; omega
 have hsu:=Ygi (by omega) hg
 have hps:=Zsw hf
 have hi:=(Zsg hsu).2
 have hsq:=Ya5 (Ze4 hk hs A.e0) A.e0 A.f A.t (Yin A.ne) (by omega) hi hf
 refine ⟨hf,hsu,by omega,by omega,?_⟩
 unfold cpE pthE
 rw [if_pos (show (if (p.ps.length:Int)=p.ss.length then (if 4<(p.ss.length:Int) then 8 else (if within p.sq 1 24300000000 then 0 else 2)) else 10)=(0:Int) by
  rw [if_pos (by omega),if_neg (by omega),if_pos (within_iff.2 hsq)]),if_pos hsu,if_pos (by omega)]
 unfold chkP
 rw [hf]
 dsimp only
 rw [if_pos ⟨rfl,Ybv _⟩]
theorem Ycx {h:Hal} (hk:h.ok) {s:Stg} (e:serr h s=0):nsN h<=18:=by
 have:=(Zkf hk (Zgb e)).le
 unfold nsN; omega
theorem Zwn (f:List Int->Option Pth) {m o:Nat} (hm:m<=18) (ho:o<=2):(refL f m o).length<=343:=by
 rw [(Zay f m o).length_eq]
 have h1:(fndP f m o).length<=(wlk m o []).length:=Jv _ _
 have h2:=Zqe m o []
 have h3:wlkB m o<=1+m+m*m:=by
  obtain rfl|rfl|rfl:o=0\/o=1\/o=2:=by omega
  ·simp [wlkB]; omega
  ·simp [wlkB]
  ·simp [wlkB,Nat.mul_add]; omega
 have h4:m*m<=18*18:=Li hm hm
 omega
theorem Zzx {h:Hal} (g:h.fine) {p q:Pt} (hp:PtR p) (hq:PtR q):(wls h.cs).any (touP p q)=true↔∃ w∈wls h.cs,∃ n sx sy,Str w n sx sy/\Ug w n sx sy p.pl q.pl:=by
 rw [List.any_eq_true]
 constructor
 ·rintro ⟨w,hw,ht⟩
  obtain ⟨n,sx,sy,hs⟩:=Zad g.st w hw
  exact ⟨w,hw,n,sx,sy,hs,(Zej hs hp hq).1 ht⟩
 ·rintro ⟨w,hw,n,sx,sy,hs,hm⟩
  exact ⟨w,hw,(Zej hs hp hq).2 hm⟩
theorem Znk {h:Hal} {s:Stg} (g:Sit h s) {p q:Pt} (hp:PtH p) (hq:PtH q):∀ (l:List Can) (j:Nat),h.ks.drop j=l->(blkA h s p q j l=true↔∃ i,∃ hi:i<h.ks.length,j<=i/\blkS h.ks[i].rc (Zcz h s i) p q)
 | [],j,hl=>by
  have hj:h.ks.length<=j:=by
   rcases Py j h.ks.length with hj|hj
   ·rw [Qi hj] at hl; cases hl
   ·exact hj
  rw [blkA]
  constructor
  ·intro h; cases h
  ·rintro ⟨i,hi,h1,_⟩; omega
 | c::l,j,hl=>by
  have hj:j<h.ks.length:=by
   rcases Py j h.ks.length with hj|hj
   ·exact hj
   ·rw [Qk hj] at hl; cases hl
  rw [Qi hj] at hl
  simp only [Qx] at hl
  obtain ⟨rfl,hl⟩:=hl
  have hb:=Ztd g hj
  have ht:=g.fine.ht
  rw [blkA,Bool.or_eq_true,Znk g hp hq l (j+1) hl,Ycf (Zqu (Zh7 g.fine hj).1) ⟨by omega,by omega⟩ hp hq]
  constructor
  ·rintro (h1|⟨i,hi,h1,h2⟩)
   ·exact ⟨j,hj,Qd _,h1⟩
   ·exact ⟨i,hi,by omega,h2⟩
  ·rintro ⟨i,hi,h1,h2⟩
   by_cases e:i=j
   ·subst e; exact .inl h2
   ·exact .inr ⟨i,hi,by omega,h2⟩
structure Free (h:Hal) (s:Stg) (p q:Pt):Prop where
 z:zBad h p q=false
 w:∀ w∈wls h.cs,∀ n sx sy,Str w n sx sy -> ¬ Ug w n sx sy p.pl q.pl
 m:Yf h (midX p q) (midY p q) (midD p q)=true
 k:∀ i (hi:i<h.ks.length),¬ blkS h.ks[i].rc (Zcz h s i) p q
theorem Ztg {h:Hal} {s:Stg} (g:Sit h s) {p q:Pt} (hp:PtH p) (hq:PtH q):Zea h s p q=true↔Free h s p q:=by
 unfold Zea
 rw [Qc,Qc,Qc,Sb,Sb,Sb]
 constructor
 ·rintro ⟨h1,h2,h3,h4⟩
  refine ⟨h1,fun w hw n sx sy hs hm=>?_,h3,fun i hi hb=>?_⟩
  ·have:=(Zzx g.fine hp.r hq.r).2 ⟨w,hw,n,sx,sy,hs,hm⟩
   rw [h2] at this; cases this
  ·have:=(Znk g hp hq h.ks 0 rfl).2 ⟨i,hi,Qn _,hb⟩
   rw [h4] at this; cases this
 ·rintro ⟨h1,h2,h3,h4⟩
  refine ⟨h1,?_,h3,?_⟩
  ·rw [Qt]
   intro hh
   obtain ⟨w,hw,n,sx,sy,hs,hm⟩:=(Zzx g.fine hp.r hq.r).1 hh
   exact h2 w hw n sx sy hs hm
  ·rw [Qt]
   intro hh
   obtain ⟨i,hi,_,hb⟩:=(Znk g hp hq h.ks 0 rfl).1 hh
   exact h4 i hi hb
theorem Zvn (h:Hal) (p q:Pt):zBad h p q=zBad h q p:=by
 unfold zBad
 generalize decide (p.z=0)=a
 generalize decide (q.z=0)=b
 generalize decide (p.z=Qa Qb (h.ht*p.d))=c
 generalize decide (q.z=Qa Qb (h.ht*q.d))=d
 generalize decide (p.z<0)=e
 generalize decide (q.z<0)=f
 generalize decide (Qa Qb (h.ht*p.d)<p.z)=x
 generalize decide (Qa Qb (h.ht*q.d)<q.z)=y
 revert a b c d e f x y
 decide
theorem Ybb {p q:Pt} (hp:PtR p) (hq:PtR q):midX p q=midX q p/\midY p q=midY q p/\midD p q=midD q p:=by
 obtain ⟨e1,e2,e3⟩:=Zxc hp hq
 obtain ⟨g1,g2,g3⟩:=Zxc hq hp
 rw [e1,e2,e3,g1,g2,g3]
 refine ⟨Wb _ _,Wb _ _,by grind⟩
theorem Free.back {h:Hal} {s:Stg} {p q:Pt} (hp:PtR p) (hq:PtR q) (f:Free h s p q):Free h s q p:=by
 obtain ⟨h1,h2,h3,h4⟩:=f
 obtain ⟨e1,e2,e3⟩:=Ybb hp hq
 refine ⟨by rw [<-Zvn]; exact h1,fun w hw n sx sy hs hm=>h2 w hw n sx sy hs (meetW_swap.1 hm),by rw [<-e1,<-e2,<-e3]; exact h3,fun i hi hb=>h4 i hi (blkS_swap.1 hb)⟩
theorem Yg4 {p q:Pt} (hp:0<p.d) (hq:0<q.d) (gp:g4 p=1) (gq:g4 q=1) (hx:p.x*q.d=q.x*p.d) (hy:p.y*q.d=q.y*p.d) (hz:p.z*q.d=q.z*p.d):p.d=q.d:=by
 have key:∀ p q:Pt,g4 p=1->p.x*q.d=q.x*p.d->p.y*q.d=q.y*p.d->p.z*q.d=q.z*p.d->p.d.natAbs ∣ q.d.natAbs:=by
  intro p q gp hx hy hz
  have h1:p.d.natAbs ∣ p.x.natAbs*q.d.natAbs:=by rw [<-Tx,hx,Tx]; exact Hn _ _
  have h2:p.d.natAbs ∣ p.y.natAbs*q.d.natAbs:=by rw [<-Tx,hy,Tx]; exact Hn _ _
  have h3:p.d.natAbs ∣ p.z.natAbs*q.d.natAbs:=by rw [<-Tx,hz,Tx]; exact Hn _ _
  have h4:p.d.natAbs ∣ p.d.natAbs*q.d.natAbs:=Nat.dvd_mul_right _ _
  have h5:=Dz (Dz h1 h2) (Dz h3 h4)
  rw [Oy,Oy,Oy] at h5
  change p.d.natAbs ∣ g4 p*q.d.natAbs at h5
  rwa [gp,Gs] at h5
 have a:=key p q gp hx hy hz
 have b:=key q p gq hx.symm hy.symm hz.symm
 have:=Nat.dvd_antisymm a b
 omega
theorem Zsu {p q:Pt}:ptEq p q=true↔p=q:=by
 obtain ⟨a,b,c,d⟩:=p
 obtain ⟨x,y,z,w⟩:=q
 unfold ptEq
 simp only [Qc,decide_eq_true_eq,Pt.mk.injEq,and_assoc]
theorem Zwt (p q:Pt):ptEq p q=ptEq q p:=by
 rw [Bool.eq_iff_iff,Zsu,Zsu]
 exact ⟨Eq.symm,Eq.symm⟩
theorem Zvv {h:Hal} {s:Stg} {p q:Pt} (he:wayE h s p q=0):serr h s=0/\Yu p=0/\Yu q=0/\ptEq p q=false:=by
 unfold wayE at he
 split at he
 ·rename_i h1
  split at he
  ·rename_i h2
   split at he
   ·rename_i h3
    split at he
    ·cases he
    ·rename_i h4
     exact ⟨h1,h2,h3,by simpa using h4⟩
   ·rename_i h3; exact absurd he h3
  ·rename_i h2; exact absurd he h2
 ·rename_i h1; exact absurd he h1
theorem Yd8 {h:Hal} {s:Stg} {p q:Pt} (h1:serr h s=0) (h2:Yu p=0) (h3:Yu q=0) (h4:ptEq p q=false):wayE h s p q=0:=by
 unfold wayE
 rw [if_pos h1,if_pos h2,if_pos h3,h4]; rfl
def cmb (p q:Pt) (u v:Int):Pt:=⟨p.x*u+q.x*v,p.y*u+q.y*v,p.z*u+q.z*v,p.d*u+q.d*v⟩
def scl (p:Pt) (w:Int):Pt:=⟨p.x*w,p.y*w,p.z*w,p.d*w⟩
def mU (pl:Int × Int) (p:Pt):Pt :=
 if pl.1=0 then ⟨2*pl.2*p.d-p.x,p.y,p.z,p.d⟩ else if pl.1=1 then ⟨p.x,2*pl.2*p.d-p.y,p.z,p.d⟩ else if pl.1=2 then ⟨p.x,p.y,2*pl.2*p.d-p.z,p.d⟩ else if pl.1=3 then ⟨pl.2*p.d-p.y,pl.2*p.d-p.x,p.z,p.d⟩ else ⟨p.y+pl.2*p.d,p.x-pl.2*p.d,p.z,p.d⟩
def vl (pl:Int × Int) (p:Pt):Int:=valN pl.1 p.x p.y p.z-pl.2*p.d
theorem Zbk {p q:Pt} (h1:p.x=q.x) (h2:p.y=q.y) (h3:p.z=q.z) (h4:p.d=q.d):p=q:=by
 obtain ⟨a,b,c,d⟩:=p
 obtain ⟨x,y,z,w⟩:=q
 dsimp only at *
 subst h1 h2 h3 h4
 rfl
theorem Yc0 (pl:Int × Int) (p q:Pt) (u v:Int):mU pl (cmb p q u v)=cmb (mU pl p) (mU pl q) u v:=by
 unfold mU cmb
 repeat' split
 all_goals (refine Zbk ?_ ?_ ?_ ?_<;>dsimp only<;>grind)
theorem Ycy (pl:Int × Int) (p:Pt) (w:Int):mU pl (scl p w)=scl (mU pl p) w:=by
 unfold mU scl
 repeat' split
 all_goals (refine Zbk ?_ ?_ ?_ ?_<;>dsimp only<;>grind)
theorem Zus (pl:Int × Int) (p:Pt):mU pl (mU pl p)=p:=by
 unfold mU
 repeat' split
 all_goals (refine Zbk ?_ ?_ ?_ ?_<;>dsimp only<;>grind)
theorem Ycz {pl:Int × Int} (hk:0<=pl.1/\pl.1<=4) {p:Pt} (h:vl pl p=0):mU pl p=p:=by
 unfold vl valN at h
 unfold mU
 repeat' split at h
 all_goals simp only [*] at *
 all_goals (refine Zbk ?_ ?_ ?_ ?_<;>simp<;>grind)
theorem Yeb {pl:Int × Int} (hk:0<=pl.1/\pl.1<=4) (p:Pt):vl pl (mU pl p) = -vl pl p:=by
 have:pl.1=0\/pl.1=1\/pl.1=2\/pl.1=3\/pl.1=4:=by omega
 unfold vl valN mU
 rcases this with e|e|e|e|e<;>rw [e]<;>simp<;>grind
theorem Zv1 (pl:Int × Int) (p q:Pt) (u v:Int):vl pl (cmb p q u v)=vl pl p*u+vl pl q*v:=by
 unfold vl cmb
 dsimp only
 rw [Zsf]
 grind
theorem Zv0 (pl:Int × Int) (p:Pt) (w:Int):vl pl (scl p w)=vl pl p*w:=by
 unfold vl scl
 dsimp only
 rw [Zse]
 grind
def dst2 (p q:Pt):Int:=(p.x-q.x)*(p.x-q.x)+(p.y-q.y)*(p.y-q.y)+(p.z-q.z)*(p.z-q.z)
theorem Zrn (pl:Int × Int) {p q:Pt} (h:p.d=q.d):dst2 (mU pl p) (mU pl q)=dst2 p q:=by
 unfold dst2 mU
 repeat' split
 all_goals (dsimp only; rw [h]; grind)
theorem Zkm (p q:Pt):dst2 p q=dst2 q p:=by unfold dst2; grind
theorem mU_d (pl:Int × Int) (p:Pt):(mU pl p).d=p.d:=by
 unfold mU
 repeat' split
 all_goals rfl
theorem Zae {h:Hal} {s:Stg} (g:Sit h s) {n:Int} (hi:SK h n) {q:Pl3} (hq:Near 35000 q):pnt (im1 h s n q)=mU (Zf h s n) (pnt q):=by
 obtain ⟨b1,b2⟩:=Zcs g hi
 obtain ⟨x,y,z⟩:=q
 obtain ⟨hx,hy,hz⟩:=hq
 dsimp only at hx hy hz
 unfold im1 mU pnt rmir
 generalize Zf h s n=pl at *
 obtain ⟨k,a⟩:=pl
 dsimp only at *
 repeat' split
 all_goals (refine Zbk ?_ ?_ ?_ ?_<;>dsimp only)
 all_goals (try (rw [W_eq (n:=2*a) (by omega) (by omega)]))
 all_goals (try (rw [W_eq (by omega) (by omega)]))
 all_goals (try omega)
theorem Zng (n:Int) (f:Pl3) (to:Pt) (u v:Int):crPt ⟨n,f.1,f.2.1,f.2.2,to⟩ u v=cmb (pnt f) to u v:=by
 unfold crPt cmb pnt
 dsimp only
 rw [Int.one_mul]
theorem Ztr (pl:Int × Int) (n:Int) (f:Pl3) (to:Pt):crF pl ⟨n,f.1,f.2.1,f.2.2,to⟩=vl pl (pnt f):=by
 unfold crF vl pnt
 dsimp only
 rw [Sc]
theorem Ztq (pl:Int × Int) (n:Int) (f:Pl3) (to:Pt):crG pl ⟨n,f.1,f.2.1,f.2.2,to⟩=vl pl to:=rfl
structure Xing (h:Hal) (n:Int) (pl:Int × Int) (f to P:Pt):Prop where
 err:Yu P=0
 on:vl pl P=0
 well:Zit h n P=true
 ends:vl pl f≠0/\vl pl to≠0
 btw:∃ u v w,0<u/\0<v/\0<w/\cmb f to u v=scl P w
theorem Zrt {h:Hal} {s:Stg} (g:Sit h s) (e0:serr h s=0) {n:Int} (hn:0<=n/\n<nsur h) {f:Pl3} (hf:Near 45000 f) {to:Pt} (hto:Yu to=0) (hz:(crsA h s ⟨n,f.1,f.2.1,f.2.2,to⟩).2=0) :
  Xing h n (Zf h s n) (pnt f) to (crsA h s ⟨n,f.1,f.2.1,f.2.2,to⟩).1:=by
 obtain ⟨ho,hi,hA,hX⟩:=Zko g e0 hn hf hto
 obtain ⟨x1,x2⟩:=hX hz
 rw [hA] at hz x1 x2 ⊢
 unfold Zao at hz x1 x2 ⊢
 split at hz
 ·cases hz
 ·rename_i hs
  split at hz
  ·rename_i hw
   split at hz
   ·cases hz
   ·rename_i hd
    rw [if_neg hs,if_pos hw,if_neg hd] at x1 x2 ⊢
    dsimp only at x1 x2 ⊢
    obtain ⟨⟨a1,a2⟩,b1,b2⟩:=Zr6 ho hs
    obtain ⟨⟨g1,_⟩,_,_,r1,r2,r3,r4⟩:=Zbj (Zbb ho hs)
    have h3:=sgn_mul_neg.1 (show sgn (crF (Zf h s n) ⟨n,f.1,f.2.1,f.2.2,to⟩)*sgn (crG (Zf h s n) ⟨n,f.1,f.2.1,f.2.2,to⟩)<0 by omega)
    rw [Ztr,Ztq] at h3
    refine ⟨x1,by unfold vl; omega,hw,by omega,_,_,_,a1,b1,g1,?_⟩
    rw [<-Zng n]
    exact (Zbk r1 r2 r3 r4).symm
  ·cases hz
theorem Yha {p q:Pt} (hp:0<p.d) (hq:0<q.d) (gp:g4 p=1) (gq:g4 q=1) {a b:Int} (ha:0<a) (h:scl p a=scl q b):p=q:=by
 have hx:p.x*a=q.x*b:=congrArg Pt.x h
 have hy:p.y*a=q.y*b:=congrArg Pt.y h
 have hz:p.z*a=q.z*b:=congrArg Pt.z h
 have hd:p.d*a=q.d*b:=congrArg Pt.d h
 have k:∀ {x y:Int},x*a=y*b->x*q.d=y*p.d:=fun {x y} e=>by
  refine Jh (show a≠0 by omega) ?_
  have:x*q.d*a=(x*a)*q.d:=by grind
  rw [this,e]
  have:y*p.d*a=y*(p.d*a):=by grind
  rw [this,hd]; grind
 have e:=Yg4 hp hq gp gq (k hx) (k hy) (k hz)
 have k2:∀ {x y:Int},x*a=y*b->x=y:=fun {x y} e2=>by
  have:=k e2
  rw [e] at this
  exact Jh (show q.d≠0 by omega) this
 exact Zbk (k2 hx) (k2 hy) (k2 hz) e
theorem Zy4 {h:Hal} {s:Stg} (g:Sit h s) (e0:serr h s=0) {n:Int} (hn:0<=n/\n<nsur h) {f:Pl3} (hf:Near 45000 f) {to:Pt} (hto:Yu to=0) {P:Pt} (hX:Xing h n (Zf h s n) (pnt f) to P) :
  crsA h s ⟨n,f.1,f.2.1,f.2.2,to⟩=(P,0):=by
 obtain ⟨ho,hi,hA,_⟩:=Zko g e0 hn hf hto
 obtain ⟨he,hon,hw,⟨k1,k2⟩,u,v,w,u0,v0,w0,hb⟩:=hX
 obtain ⟨p1,p2,p3,_⟩:=Zb3 he
 have hsum:vl (Zf h s n) (pnt f)*u+vl (Zf h s n) to*v=0:=by
  rw [<-Zv1,hb,Zv0,hon,Int.zero_mul]
 have hop:(vl (Zf h s n) (pnt f)<0/\0<vl (Zf h s n) to)\/(0<vl (Zf h s n) (pnt f)/\vl (Zf h s n) to<0):=by
  rcases Pi (vl (Zf h s n) (pnt f)) 0 with c|c|c
  ·left
   refine ⟨c,?_⟩
   have:=Rk (show 0 < -vl (Zf h s n) (pnt f) by omega) u0
   rw [Td] at this
   rcases Oc 0 (vl (Zf h s n) to) with d|d
   ·exact d
   ·have:=Qo (show 0 <= -vl (Zf h s n) to by omega) (Rf v0)
    rw [Td] at this
    omega
  ·exact absurd c k1
  ·right
   refine ⟨c,?_⟩
   have:=Rk c u0
   rcases Oc (vl (Zf h s n) to) 0 with d|d
   ·exact d
   ·have:=Qo d (Rf v0)
    omega
 have hs:¬ 0<=sgn (crF (Zf h s n) ⟨n,f.1,f.2.1,f.2.2,to⟩)*sgn (crG (Zf h s n) ⟨n,f.1,f.2.1,f.2.2,to⟩):=by
  rw [Ztr,Ztq]
  exact Int.not_le.2 (sgn_mul_neg.2 hop)
 have hbig:=Zbb ho hs
 obtain ⟨⟨g1,_⟩,_,hb3,r1,r2,r3,r4⟩:=Zbj hbig
 have hg:=Ydf hbig
 have hP:Xw (Zf h s n) ⟨n,f.1,f.2.1,f.2.2,to⟩=P:=by
  rw [Zng,Ztr,Ztq] at *
  have hr:scl (redP (cmb (pnt f) to (iabs (vl (Zf h s n) to)) (iabs (vl (Zf h s n) (pnt f))))) (g4 (cmb (pnt f) to (iabs (vl (Zf h s n) to)) (iabs (vl (Zf h s n) (pnt f)))))=cmb (pnt f) to (iabs (vl (Zf h s n) to)) (iabs (vl (Zf h s n) (pnt f))):=Zbk r1 r2 r3 r4
  have hab:iabs (vl (Zf h s n) (pnt f))*u=iabs (vl (Zf h s n) to)*v/\0<iabs (vl (Zf h s n) (pnt f)):=by
   unfold iabs
   rcases hop with ⟨c,d⟩|⟨c,d⟩
   ·rw [if_pos c,if_neg (by omega)]
    refine ⟨?_,by omega⟩
    rw [Td]; omega
   ·rw [if_neg (by omega),if_pos d]
    refine ⟨?_,by omega⟩
    rw [Td]; omega
  unfold Xw
  rw [Zng,Ztr,Ztq]
  generalize iabs (vl (Zf h s n) (pnt f))=β at *
  generalize iabs (vl (Zf h s n) to)=α at *
  refine (Yha p1 hb3.d.1 p3 hg (a:=w*β) (b:=v*(g4 (cmb (pnt f) to α β):Int)) (Rk w0 hab.2) ?_).symm
  have e1:scl P (w*β)=scl (scl P w) β:=by unfold scl; refine Zbk ?_ ?_ ?_ ?_<;>dsimp only<;>grind
  have e2:∀ (Q:Pt) (x y:Int),scl Q (x*y)=scl (scl Q y) x:=fun Q x y=>by unfold scl; refine Zbk ?_ ?_ ?_ ?_<;>dsimp only<;>grind
  rw [e1,e2,hr,<-hb]
  unfold scl cmb
  have:=hab.1
  refine Zbk ?_ ?_ ?_ ?_<;>dsimp only<;>grind
 rw [hA]
 unfold Zao
 rw [if_neg hs,hP,if_pos hw,if_neg (by omega)]
end Go.Proofs.YtfkdpbklbegnlaaGreat
