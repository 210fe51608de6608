/- A part of the proof: lemmas. -/
import Derived.Test.YtdmidbkelinnjaaGreatA13
import Derived.Test.YtdmidbkelinnjaaGreatA8
import Derived.Test.YtdmidbkelinnjaaGreatA7
import Derived.Test.YtdmidbkelinnjaaGreatA9
import Derived.Test.YtdmidbkelinnjaaGreatA12
import Derived.Shelf.SlSortCmp.Insertion
import Derived.Shelf.SlSortCmp.NoneTotal
import Derived.Sort.Statements
set_option linter.unusedVariables false
set_option linter.unusedSimpArgs false
set_option maxRecDepth 100000
set_option maxHeartbeats 16000000
open Bool renaming and_eq_true->Qc
open Go.IntKind renaming i64->Qb,wrap->Qa
open Go.Sx.AV.isl renaming injEq->Ml
open Go.Sx.CtT renaming mk->Qbl
open Go.Sx.Done renaming mk->Qo
open Go.Sx.Fits renaming here->Ja
open Go.Sx.PCall renaming freeze->Lt
open Go.Sx.Yd renaming mk->Jz
open Int renaming le_of_lt->Rk,lt_or_gt_of_ne->Kf,mul_le_mul->Qab,mul_neg_of_neg_of_pos->Nd,mul_nonneg->Tk,mul_one->Sb,mul_pos->Pc,neg_mul->Tq,neg_mul_neg->Df,sub_mul->Ma,toNat->Sl,toNat_natCast->Rj
open List renaming append_assoc->Rq,append_nil->Wg,cons_append->Tv,countP_eq_zero->Lj,drop->Fm,drop_eq_getElem_cons->Qi,drop_of_length_le->Qj,drop_zero->Ts,flatMap_assoc->Gi,flatMap_cons->Su,flatMap_nil->Jk,getElem?_map->Rr,getElem?_set->Mn,getElem_drop->Gy,getElem_mem->Qs,length->Kl,length_append->Ti,length_cons->Sf,length_drop->Oz,length_eq_zero_iff->Of,length_filterMap_le->Kx,length_map->Ss,map_append->Oh,map_set->Lv,mem_cons->Qx,mem_filterMap->Nx,mem_flatMap->Nb,mem_iff_getElem->Pd,mem_map->Px,mem_or_eq_of_mem_set->Tw,mem_range'_1->Gz,mem_singleton->Tp,nil_append->Tt,nodup_cons->Jv,pairwise_cons->Wj,pairwise_iff_getElem->Nf,range->Tg,replicate->Rn,take->Fl
open List.Perm renaming refl->Ow
open List.cons renaming injEq->Rb
open Nat renaming le_refl->Qd,le_trans->Qr,mul_le_mul->Hq,zero_add->Rv,zero_le->Qm
open Option.some renaming injEq->Qe
open Prod renaming ext->Qac
namespace Go.Proofs.YtdmidbkelinnjaaGreat
open Go Go.Sx
def rowP (o:Option Pth):PRes:=match o with
 | none=>⟨.tup [.agg [.nils,.nils,I 0],Bo false],[]⟩
 | some p=>⟨.tup [.agg [.asl 0 0 (nl p.ss).length,.asl 1 0 (p.ps.map hp4).length,I p.sq],Bo true],[(1,nl p.ss),(4,p.ps.map hp4)]⟩
theorem Zxl (o:Option Pth):Xy (rowP o).blks.length (rowP o).v=true:=by cases o<;>rfl
noncomputable abbrev clR:List AV->Option PRes:=famA (fun ps:List (Int × Int × Int × Int)=>0<ps.length/\ps.length<100000) (fun ps=>[.isl 4 (ps.map hp4)]) (fun ps=>⟨.asl 0 0 (ps.map hp4).length,[(4,ps.map hp4)]⟩)
theorem Yew {pt:PC} (hp:PCOK Tryz.prog pt):PCOK Tryz.prog (ins 65 clR pt):=Xa (fun ps hl=>d104 hl.1 hl.2) hp
theorem Ycq {ps:List (Int × Int × Int × Int)} (h0:0<ps.length) (h:ps.length<100000):clR [.isl 4 (ps.map hp4)]=some ⟨.asl 0 0 (ps.map hp4).length,[(4,ps.map hp4)]⟩ :=
 Yb (p:=fun ps:List (Int × Int × Int × Int)=>0<ps.length/\ps.length<100000) (g:=fun ps=>[.isl 4 (ps.map hp4)]) (r:=fun ps=>⟨.asl 0 0 (ps.map hp4).length,[(4,ps.map hp4)]⟩) (fun j hj=>by
  simp only [Rb,Ml,true_and,and_true] at hj
  rw [hj]) ⟨h0,h⟩
noncomputable def Yd2 (h:Hal) (s:Stg) (q0:Pl3) (ns:List Int):PC:=ins 60 (oneA [.agg (stgL h s),P3 q0.1 q0.2.1 q0.2.2,.isl 1 (nl ns)] ⟨.isl 3 (imC (im1 h s) q0 ns ns.length),[]⟩) (ins 61 r123 (ins 62 (crsT h s) (ins 63 (wayT h s) (ins 66 r126 (ins 65 clR (ins 64 (oneA [.isl 1 (nl ns)] ⟨.asl 0 0 (nl ns).length,[(1,nl ns)]⟩) pt0))))))
theorem Zx6 {h:Hal} (hk:h.ok) {s:Stg} (hs:s.few) (e0:serr h s=0) {q0:Pl3} (hf:Near 5000 q0) {ns:List Int} (h0:0<ns.length) (hl:ns.length<=4) (hi:∀ n∈ns,0<=n/\n<nsur h):PCOK Tryz.prog (Yd2 h s q0 ns) :=
 Ze2 (d82f hk hs e0 hf hl hi) (Zt3 (Zv8 hk hs (Zs4 hk hs (Zt2 (Yew (Ze2 (d103 (ns:=ns) h0 (by omega)) Zd))))))
theorem d65r {h:Hal} (hk:h.ok) {s:Stg} (hs:s.few) (e0:serr h s=0) (a:Ask) (hf:Near 5000 (a.fx,a.fy,a.fz)) (ht:Near 5000 (a.tx,a.ty,a.tz)) {ns:List Int} (h0:0<ns.length) (hl:ns.length<=4) (hi:∀ n∈ns,0<=n/\n<nsur h) :
  PCall Tryz.prog 31 [.agg (stgL h s),a.av,.isl 1 (nl ns)] (rowP (Yr h s (a.fx,a.fy,a.fz) (a.tx,a.ty,a.tz) ns)):=by
 obtain ⟨fx,fy,fz,tx,ty,tz,n⟩:=a
 dsimp only at hf ht ⊢
 have hk0:=Zx6 hk hs e0 hf h0 hl hi
 unfold Yd2 at hk0
 have w0:=Zqo hf
 have wT:=Zqo ht
 have ll:=Zl ns
 have o1:=Zcb [.agg (stgL h s),P3 fx fy fz,.isl 1 (nl ns)] ⟨.isl 3 (imC (im1 h s) (fx,fy,fz) ns ns.length),[]⟩
 have o2:=Zcb [.isl 1 (nl ns)] ⟨.asl 0 0 (nl ns).length,[(1,nl ns)]⟩
 have hR:=Zca h s (fx,fy,fz) (tx,ty,tz) ns
 generalize Yr h s (fx,fy,fz) (tx,ty,tz) ns=R at *
 have il:=Zi5 (im1 h s) (fx,fy,fz) ns ns.length
 have x2:Qa Qb (((nl ns).length:Int)+2)=((ns.length+2:Nat):Int):=by rw [ll,W_eq (by omega) (by omega)]; omega
 have x1:Qa Qb (((nl ns).length:Int)+1)=((ns.length+1:Nat):Int):=by rw [ll,W_eq (by omega) (by omega)]; omega
 have a1:decide (0<=Qa Qb (((nl ns).length:Int)+2)/\(Qa Qb (((nl ns).length:Int)+2)).toNat<=1000000)=true:=by rw [x2]; exact decide_eq_true ⟨by omega,by omega⟩
 have g0:(Rn (Qa Qb (((nl ns).length:Int)+2)).toNat (ptc ptZ))[0+Sl 0]?=some (ptc ptZ):=by
  rw [x2,Rj,List.getElem?_replicate,if_pos (by omega)]
 have g1:(Zhq (Rn (Qa Qb (((nl ns).length:Int)+2)).toNat (ptc ptZ)) (0+Sl 0) (ptc (pnt (fx,fy,fz))))[0+(Qa Qb (((nl ns).length:Int)+1)).toNat]?=some (ptc ptZ):=by
  rw [Za7,x2,x1,Mn,if_neg (by omega)]; simp
 have hE0:Zhq (Zhq (Rn (Qa Qb (((nl ns).length:Int)+2)).toNat (ptc ptZ)) (0+Sl 0) (ptc (pnt (fx,fy,fz)))) (0+(Qa Qb (((nl ns).length:Int)+1)).toNat) (ptc (pnt (tx,ty,tz)))=(((Rn (ns.length+2) ptZ).set 0 (pnt (fx,fy,fz))).set (ns.length+1) (pnt (tx,ty,tz))).map ptc:=by
  rw [Za7,Za7,x2,x1,Lv,Lv,List.map_replicate]
  congr 1
  omega
 refine bs.pv (sx:=nos) hk0 Tryz.func31 (by kernel_rfl) (by kernel_rfl) (Zxl _) ?_
 unfold Zg8
 conv=>whnf
 repeat'(first|refine wk3 ?_|(refine wk2 ?_ ?_<;>intro _)|refine wk4 ?_|fail);all_goals(conv=>whnf)
 obtain ⟨l,hlk⟩:∃ l,l=lkG (im1 h s) (fx,fy,fz) ns:=⟨_,rfl⟩
 have hll:l.length=ns.length:=by rw [hlk,Zad]
 have hlt' : ∀ {k:Nat} (hk:k<ns.length),(l.take (k+1)).reverse=(ns[k],imA (im1 h s) (fx,fy,fz) ns (k+1))::(l.take k).reverse:=fun hk=>by rw [hlk]; exact Zlp hk
 rw [<-hlk] at hR
 clear hlk
 refine Zz (S:=Nat × Int × List (List AV) × List Pt) (fun t=>t.1) (fun t=>[(2,.isl 1 (nl ns)),(3,.ptr 0 0 0),(4,.ptr 1 0 0),(6,.ptr 2 0 0),(8,.isl 3 (imC (im1 h s) (fx,fy,fz) ns ns.length)),(9,I (nl ns).length),(10,.asl 3 0 (Qa Qb (((nl ns).length:Int)+2)).toNat),(11,I t.2.1)])
  (fun t=>[(3,.row 4 t.2.2.1 true true),(2,.row 3 [[.nils,.nils,I 0]] true false),(1,.row 7 [[I fx,I fy,I fz,I tx,I ty,I tz,I n]] true false),(0,.row 11 [stgL h s] true false)]) 18 18
  (fun t=>t.2.1=t.1/\t.1<=ns.length/\t.2.2.1=t.2.2.2.map ptc/\t.2.2.2.length=ns.length+2/\t.2.2.2[0]?=some (pnt (fx,fy,fz))/\(∀ p∈t.2.2.2,p.wf)/\∃ to P Q,t.2.2.2.drop (t.1+1)=to::Q/\P++[pnt (tx,ty,tz)]=to::Q/\goP (fP h s) (l.take t.1).reverse to P=goP (fP h s) l.reverse (pnt (tx,ty,tz)) [])
  (ns.length,(nl ns).length,_,(((Rn (ns.length+2) ptZ).set 0 (pnt (fx,fy,fz))).set (ns.length+1) (pnt (tx,ty,tz)))) ⟨by dsimp only; rw [ll],Qd _,hE0,by simp,by simp,?_,pnt (tx,ty,tz),[],[],by rw [Zci (by simp)]; simp,rfl,by rw [<-hll,List.take_length]⟩ (Qd _) [] rfl (kps) (kps) ?_
 ·intro p hp
  rcases Tw hp with hp|rfl
  ·rcases Tw hp with hp|rfl
   ·rw [List.eq_of_mem_replicate hp]; exact Zkk
   ·exact w0
  ·exact wT
 clear g0 g1 hE0 a1
 rintro ⟨k,i,els,pts⟩ ⟨hi1,hk1,hels,hpl,hp0,hwf,to,P,Q,hd,hPQ,hgo⟩
 dsimp only at hi1 hk1 hels hpl hp0 hwf hd hPQ hgo ⊢
 subst hi1 hels
 have lp:(pts.map ptc).length=ns.length+2:=by rw [Ss,hpl]
 refine bs.av (sx:=nos) hk0 ?_
 cases k with
 | succ j =>
  have b0:((j+1:Nat):Int)>=1:=by omega
  have b1:Qa Qb (((j+1:Nat):Int)-1)=j:=by rw [W_eq (by omega) (by omega)]; omega
  have b2:Qa Qb (((j+1:Nat):Int)+1)=((j+2:Nat):Int):=by rw [W_eq (by omega) (by omega)]; omega
  have e1:(nl ns)[(Qa Qb (((j+1:Nat):Int)-1)).toNat]?=some [I ns[j]]:=by rw [b1]; simp [nl]
  have e2:(imC (im1 h s) (fx,fy,fz) ns ns.length)[((j+1:Nat):Int).toNat]?=some (pl3 (imA (im1 h s) (fx,fy,fz) ns (j+1))):=by
   rw [Rj]; unfold imC; rw [Rr,List.getElem?_range (by omega)]; rfl
  have hto:pts[j+2]?=some to:=by rw [<-List.head?_drop,hd]; rfl
  have e3:(pts.map ptc)[0+(Qa Qb (((j+1:Nat):Int)+1)).toNat]?=some (ptc to):=by rw [b2,Rj,Rv,Rr,hto]; rfl
  have e4:(pts.map ptc)[0+((j+1:Nat):Int).toNat]?=some (ptc (pts[j+1]'(by omega))):=by rw [Rj,Rv]; exact Zgn (by omega)
  have wto:to.wf:=hwf _ (List.mem_of_getElem? hto)
  rw [hlt' (by omega),goP] at hgo
  have c1:=Zrf (h:=h) (s:=s) (c:=⟨ns[j],(imA (im1 h s) (fx,fy,fz) ns (j+1)).1,(imA (im1 h s) (fx,fy,fz) ns (j+1)).2.1,(imA (im1 h s) (fx,fy,fz) ns (j+1)).2.2,to⟩) wto
  have w1:=Zv9 (h:=h) (s:=s) ⟨ns[j],(imA (im1 h s) (fx,fy,fz) ns (j+1)).1,(imA (im1 h s) (fx,fy,fz) ns (j+1)).2.1,(imA (im1 h s) (fx,fy,fz) ns (j+1)).2.2,to⟩ hk hs
  have hfp:fP h s ns[j] (imA (im1 h s) (fx,fy,fz) ns (j+1)) to=crsA h s ⟨ns[j],(imA (im1 h s) (fx,fy,fz) ns (j+1)).1,(imA (im1 h s) (fx,fy,fz) ns (j+1)).2.1,(imA (im1 h s) (fx,fy,fz) ns (j+1)).2.2,to⟩:=rfl
  rw [hfp] at hgo
  clear hfp
  generalize crsA h s ⟨ns[j],(imA (im1 h s) (fx,fy,fz) ns (j+1)).1,(imA (im1 h s) (fx,fy,fz) ns (j+1)).2.1,(imA (im1 h s) (fx,fy,fz) ns (j+1)).2.2,to⟩=r at *
  obtain ⟨⟨x,y,z,d⟩,E⟩:=r
  generalize imA (im1 h s) (fx,fy,fz) ns (j+1)=q at *
  obtain ⟨qx,qy,qz⟩:=q
  obtain ⟨X,Y,Z,V⟩:=to
  dsimp only at hgo w1 c1
  by_cases hE:E=0
  ·subst hE
   rw [if_pos rfl] at hgo
   have hs1:Zhq (pts.map ptc) (0+((j+1:Nat):Int).toNat) (ptc ⟨x,y,z,d⟩)=(pts.set (j+1) ⟨x,y,z,d⟩).map ptc:=by
    rw [Rj,Rv]; exact Zmj _ _ _
   repeat'(first|refine wk3 ?_|(refine wk2 ?_ ?_<;>intro _)|refine wk4 ?_|fail);all_goals(conv=>whnf)
   exact Qo ⟨(j,_,_,pts.set (j+1) ⟨x,y,z,d⟩),[],rfl,kps,kps,⟨b1,by dsimp only; omega,hs1,by dsimp only; rw [List.length_set,hpl],by dsimp only; rw [Mn,if_neg (by omega)]; exact hp0,(fun p hp=>by
    rcases Tw hp with hp|rfl
    ·exact hwf p hp
    ·exact w1),⟨x,y,z,d⟩,⟨x,y,z,d⟩::P,⟨X,Y,Z,V⟩::Q,by dsimp only; rw [Zci (by omega),hd],by rw [Tv,hPQ],hgo⟩,by dsimp only; omega⟩
  ·rw [if_neg hE] at hgo
   rw [<-hgo] at hR
   dsimp only at hR
   subst hR
   repeat'(first|refine wk3 ?_|(refine wk2 ?_ ?_<;>intro _)|refine wk4 ?_|fail);all_goals(conv=>whnf)
   all_goals exact Zf rfl rfl
 | zero =>
  have hpe:pts=pnt (fx,fy,fz)::P++[pnt (tx,ty,tz)]:=by
   rw [Tv,hPQ,<-hd]
   clear hk0 hwf lp hpl
   cases pts with
   | nil=>cases hp0
   | cons p r=>cases hp0; rfl
  rw [List.take_zero,List.reverse_nil,goP] at hgo
  rw [<-hgo] at hR
  dsimp only at hR
  rw [<-hpe] at hR
  have hPl:P.length=ns.length:=by
   have:=congrArg Kl hpe
   simp at this; omega
  clear hgo hlt' hd hPQ Q to
  repeat'(first|refine wk3 ?_|(refine wk2 ?_ ?_<;>intro _)|refine wk4 ?_|fail);all_goals(conv=>whnf)
  refine Zz (S:=Nat × Int) (fun t=>ns.length+1-t.1) (fun t=>[(2,.isl 1 (nl ns)),(3,.ptr 0 0 0),(4,.ptr 1 0 0),(6,.ptr 2 0 0),(8,.isl 3 (imC (im1 h s) (fx,fy,fz) ns ns.length)),(9,I (nl ns).length),(10,.asl 3 0 (Qa Qb (((nl ns).length:Int)+2)).toNat),(75,I (Qa Qb (((nl ns).length:Int)+1))),(76,I t.2)])
   (fun t=>[(3,.row 4 (pts.map ptc) true true),(2,.row 3 [[.nils,.nils,I 0]] true false),(1,.row 7 [[I fx,I fy,I fz,I tx,I ty,I tz,I n]] true false),(0,.row 11 [stgL h s] true false)]) 18 18
   (fun t=>t.2=t.1/\t.1<=ns.length+1/\chkW (wP h s) (pts.drop t.1)=chkW (wP h s) pts) (0,0) ⟨rfl,Qm _,rfl⟩ (Qd _) [] rfl (kps) (kps) ?_
  rintro ⟨k,i⟩ ⟨hi1,hk1,hck⟩
  dsimp only at hi1 hk1 hck ⊢
  subst hi1
  by_cases hlt:k<ns.length+1
  ·have b0:((k:Nat):Int)<Qa Qb (((nl ns).length:Int)+1):=by rw [x1]; omega
   have b2:Qa Qb (((k:Nat):Int)+1)=((k+1:Nat):Int):=by rw [W_eq (by omega) (by omega)]; omega
   have e3:(pts.map ptc)[0+((k:Nat):Int).toNat]?=some (ptc (pts[k]'(by omega))):=by rw [Rj,Rv]; exact Zgn (by omega)
   have e4:(pts.map ptc)[0+(Qa Qb (((k:Nat):Int)+1)).toNat]?=some (ptc (pts[k+1]'(by omega))):=by rw [b2,Rj,Rv]; exact Zgn (by omega)
   rw [Zof (by omega)] at hck
   have v1:=Zqa (h:=h) (s:=s) (hwf (pts[k]'(by omega)) (Qs _)) (hwf (pts[k+1]'(by omega)) (Qs _))
   have hw:wP h s (pts[k]'(by omega)) (pts[k+1]'(by omega))=(decide (wayE h s (pts[k]'(by omega)) (pts[k+1]'(by omega))=0)&&Vt h s (pts[k]'(by omega)) (pts[k+1]'(by omega))):=rfl
   rw [hw] at hck
   clear hw
   generalize (pts[k]'(by omega))=p1 at *
   generalize (pts[k+1]'(by omega))=p2 at *
   generalize wayE h s p1 p2=u at *
   generalize Vt h s p1 p2=f at *
   obtain ⟨x1,y1,z1,d1⟩:=p1
   obtain ⟨x2,y2,z2,d2⟩:=p2
   refine bs.av (sx:=nos) hk0 ?_
   cases hb:(decide (u=0)&&f) with
   | true =>
    rw [hb,Bool.true_and] at hck
    repeat'(first|refine wk3 ?_|(refine wk2 ?_ ?_<;>intro _)|refine wk4 ?_|fail);all_goals(conv=>whnf)
    all_goals first
     | (exfalso; clear hk0; simp_all; done)
     | exact Qo ⟨(k+1,_),[],rfl,kps,kps,⟨b2,hlt,hck⟩,by dsimp only; omega⟩
   | false =>
    rw [hb,Bool.false_and] at hck
    rw [<-hck,if_neg (by simp)] at hR
    subst hR
    repeat'(first|refine wk3 ?_|(refine wk2 ?_ ?_<;>intro _)|refine wk4 ?_|fail);all_goals(conv=>whnf)
    all_goals first
     | exact Zf rfl rfl
     | (exfalso; clear hk0; simp_all; done)
  ·have hke:k=ns.length+1:=by omega
   subst hke
   rw [Zog (by omega)] at hck
   rw [<-hck,if_pos rfl] at hR
   subst hR
   refine Awp.froz [3] rfl (bs.av (sx:=nos) hk0 ?_)
   conv=>whnf
   repeat'(first|refine wk3 ?_|(refine wk2 ?_ ?_<;>intro _)|refine wk4 ?_|fail);all_goals(conv=>whnf)
   have y1:Zeb (some (I (Qa Qb (((nl ns).length:Int)+1)))) (Qa Qb (((nl ns).length:Int)+2)).toNat=some (ns.length+1):=by
    show cond (decide (0<=Qa Qb (((nl ns).length:Int)+1))) (some (Qa Qb (((nl ns).length:Int)+1)).toNat) none=_
    rw [x1,decide_eq_true (by omega)]
    simp only [cond_true,Qe]; omega
   have cl:clR [.isl 4 (Fl (ns.length+1-Sl 1) (Fm (0+Sl 1) (pts.map ptc)))]=some ⟨.asl 0 0 ((P.map tup4).map hp4).length,[(4,(P.map tup4).map hp4)]⟩:=by
    have e:Fl (ns.length+1-Sl 1) (Fm (0+Sl 1) (pts.map ptc))=(P.map tup4).map hp4:=by
     rw [hpe,Tv,List.map_cons,show (0+Sl 1)=1 from rfl,List.drop_succ_cons,Ts,Oh,show ns.length+1-Sl 1=(P.map ptc).length by rw [Ss,hPl]; omega,List.take_left,List.map_map]
     rfl
    rw [e]
    exact Ycq (by rw [Ss]; omega) (by rw [Ss]; omega)
   have e5:(imC (im1 h s) (fx,fy,fz) ns ns.length)[((nl ns).length:Int).toNat]?=some (pl3 (imA (im1 h s) (fx,fy,fz) ns ns.length)):=by
    rw [Rj,ll]; exact Zlq _ _ _ _
   refine Zk3 rfl rfl rfl rfl rfl rfl y1 (by omega) (by rw [x2]; omega) (by rw [x2]; omega) ?_
   conv=>whnf
   generalize imA (im1 h s) (fx,fy,fz) ns ns.length=q at *
   obtain ⟨qx,qy,qz⟩:=q
   repeat'(first|refine wk3 ?_|(refine wk2 ?_ ?_<;>intro _)|refine wk4 ?_|fail);all_goals(conv=>whnf)
   exact Xg [19,25] rfl rfl rfl
theorem Zur {r:Locs} {I:Imm} {w:World} {D:Nat->Prop} {es:Nat} {x:Value} (h:VR r I w D (.isl es []) x) (r' : Locs) (I' : Imm) (w' : World) (D' : Nat->Prop):VR r' I' w' D' (.isl es []) x:=by
 cases h with
 | isl0=>exact .isl0 _ _ _ _
 | isl _ _ _ _ _ _ h1=>exact .isl0 _ _ _ _
theorem d65f {h:Hal} (hk:h.ok) {s:Stg} (hs:s.few) {a:Ask} (e:askE h s a=0) {ns:List Int} (hl:ns.length<=4) (hi:∀ n∈ns,0<=n/\n<nsur h) :
  Zop Tryz.prog 31 [.agg (stgL h s),a.av,.isl 1 (nl ns)] (ansP (Yr h s (qF a) (qT a) ns)):=by
 by_cases h0:0<ns.length
 ·refine Zt7 (d65r hk hs (Xz e).e0 a (Xz e).f (Xz e).t h0 hl hi) ?_ ?_ ?_
  ·cases Yr h s (qF a) (qT a) ns<;>rfl
  ·show Uy (rowP (Yr h s (qF a) (qT a) ns)).blks=true
   cases Yr h s (qF a) (qT a) ns with
   | none=>rfl
   | some p=>(simp [rowP,Uy,Zo2,Zee,nl]; exact ⟨fun _ _=>rfl,fun _ _ _ _ _=>rfl⟩)
  ·show Frz (rowP (Yr h s (qF a) (qT a) ns)).blks (rowP (Yr h s (qF a) (qT a) ns)).v _
   cases Yr h s (qF a) (qT a) ns with
   | none=>exact ⟨⟨rfl,rfl,⟨rfl,rfl⟩,trivial⟩,⟨rfl,rfl⟩,trivial⟩
   | some p=>exact ⟨⟨⟨rfl,rfl,rfl⟩,⟨rfl,rfl,rfl⟩,⟨rfl,rfl⟩,trivial⟩,⟨rfl,rfl⟩,trivial⟩
 ·obtain rfl:ns=[]:=Of.1 (by omega)
  have hd:=(d65 hk hs (Xz e).e0 a (Xz e).f (Xz e).t hl hi).freeze (Zxp _)
  obtain ⟨n,b,hv⟩:∃ n b,ansP (Yr h s (a.fx,a.fy,a.fz) (a.tx,a.ty,a.tz) []) = .tup [.agg [.isl 1 [],.isl 4 [],I n],Bo b]:=by
   cases hp:Yr h s (a.fx,a.fy,a.fz) (a.tx,a.ty,a.tz) [] with
   | none=>exact ⟨0,false,rfl⟩
   | some p =>
    have h1:=Zdy hp
    have h2:=Zqp hp
    obtain ⟨ss,ps,sq⟩:=p
    dsimp only at h1 h2
    subst h1
    obtain rfl:ps=[]:=Of.1 (by simpa using h2)
    exact ⟨sq,true,rfl⟩
  show Zop Tryz.prog 31 _ (ansP (Yr h s (a.fx,a.fy,a.fz) (a.tx,a.ty,a.tz) []))
  rw [hv] at hd ⊢
  refine ⟨hd.1,fun I w vs hI hv=>(hd.2 I w vs hI hv).mono fun e w' hh=>?_⟩
  obtain ⟨x,r',I',rfl,hp⟩:=hh
  refine ⟨x,fun _ _=>False,rfl,hp.below,fun b o h=>h.elim,?_⟩
  have hval:=hp.val
  cases hval with
  | tup _ _ vs h1 h2 =>
   refine .tup _ _ _ h1 fun i c v hc hx=>?_
   have:=h2 i c v hc hx
   match i with
   | 0 =>
    cases hc
    cases this with
    | agg _ _ vs h3 h4 =>
     refine .agg _ _ _ h3 fun i c v hc hx=>?_
     have:=h4 i c v hc hx
     match i with
     | 0=>cases hc; exact Zur this _ _ _ _
     | 1=>cases hc; exact Zur this _ _ _ _
     | 2=>cases hc; cases this; exact .int _ _ _
     | i+3=>simp at hc
   | 1=>cases hc; cases this; exact .bool _ _
   | i+2=>simp at hc
theorem Ztp (p:Pth):same p p=true:=same_iff.2 rfl
def chkP (h:Hal) (s:Stg) (a:Ask) (p:Pth):Int:=match Yr h s (qF a) (qT a) p.ss with
 | none=>20
 | some q=>if q.sq=p.sq/\eqP q.ps p.ps=true then 0 else 20
def cpE (h:Hal) (s:Stg) (a:Ask) (p:Pth):Int:=if pthE p=0 then (if suE h p.ss=0 then (if (p.ss.length:Int)<=a.n then chkP h s a p else 2) else suE h p.ss) else pthE p
def cmpI (a b:Int):Int:=if a<b then -1 else if b<a then 1 else 0
def cmpL:List Int->List Int->Int
 | [],[]=>0
 | [],_::_=>-1
 | _::_,[]=>1
 | x::a,y::b=>if cmpI x y=0 then cmpL a b else cmpI x y
def ordP (a b:Pth):Int:=fstL [cmpI a.sq b.sq,cmpI a.ss.length b.ss.length,cmpL a.ss b.ss]
theorem Yfg (n:Int):PCall Tryz.prog 133 [I n] ⟨Bo false,[]⟩:=by
 refine bs.pv (sx:=nos) Zd Tryz.func133 (by kernel_rfl) (by kernel_rfl) rfl ?_
 repeat'(first|refine wk3 ?_|(refine wk2 ?_ ?_<;>intro _)|refine wk4 ?_|fail);all_goals(conv=>whnf)
 all_goals exact Zc (by simp)
def Ydo:List AV->Option PRes
 | [.int .i64 _]=>some ⟨Bo false,[]⟩
 | _=>none
theorem Zxr {pt:PC} (h:PCOK Tryz.prog pt):PCOK Tryz.prog (ins 133 Ydo pt):=Zj (fun a res h=>by unfold Ydo at h; split at h<;>cases h; exact Yfg _) h
theorem d147 (a b:Int):PCall Tryz.prog 70 [I a,I b] ⟨I (cmpI a b),[]⟩:=by
 have key:cmpI a b=cond (decide (a<b)) (-1) (cond (decide (b<a)) 1 0):=by
  unfold cmpI
  by_cases c1:a<b
  ·simp [c1]
  ·by_cases c2:b<a<;>simp [c1,c2]
 rw [key]
 refine bs.pv (sx:=nos) (Zxr Zd) Tryz.func70 (by kernel_rfl) (by kernel_rfl) rfl ?_
 repeat'(first|refine wk3 ?_|(refine wk2 ?_ ?_<;>intro _)|refine wk4 ?_|fail);all_goals(conv=>whnf)
 all_goals (refine Za ?_; clear key; generalize decide (a<b)=p at *; generalize decide (b<a)=q at *; simp_all)
def r147:List AV->Option PRes
 | [.int .i64 a,.int .i64 b]=>some ⟨I (cmpI a b),[]⟩
 | _=>none
theorem Zt1 {pt:PC} (h:PCOK Tryz.prog pt):PCOK Tryz.prog (ins 70 r147 pt):=Zj (fun a res h=>by unfold r147 at h; split at h<;>cases h; exact d147 _ _) h
theorem d148 {a b:List Int} (ha:a.length<1000000) (hb:b.length<1000000):PCall Tryz.prog 71 [.isl 1 (nl a),.isl 1 (nl b)] ⟨I (cmpL a b),[]⟩:=by
 have la:=Zl a
 have lb:=Zl b
 have hk:=Zt1 Zd
 refine bs.pv (sx:=nos) hk Tryz.func71 (by kernel_rfl) (by kernel_rfl) rfl ?_
 repeat'(first|refine wk3 ?_|(refine wk2 ?_ ?_<;>intro _)|refine wk4 ?_|fail);all_goals(conv=>whnf)
 refine Zz (S:=Nat × Int) (fun t=>a.length-t.1) (fun t=>[(0,.isl 1 (nl a)),(1,.isl 1 (nl b)),(9,.isl 1 (nl a)),(10,I (nl a).length),(11,I t.2)]) (fun _=>[]) 0 0
  (fun t=>t.2=t.1/\t.1<=a.length/\t.1<=b.length/\cmpL (a.drop t.1) (b.drop t.1)=cmpL a b) (0,0) ⟨rfl,Qm _,Qm _,rfl⟩ (Qd _) [] rfl (kps) (kps) ?_
 rintro ⟨k,i⟩ ⟨hi,h1,h2,hh⟩
 dsimp only at hi h1 h2 hh ⊢
 subst hi
 generalize cmpL a b=R at *
 refine bs.av (sx:=nos) hk ?_
 by_cases c1:k<a.length
 ·have e1:=Uo c1
  by_cases c2:k<b.length
  ·have e2:=Uo c2
   rw [Qi c1,Qi c2,cmpL] at hh
   generalize a[k]=x at *
   generalize b[k]=y at *
   generalize hz:cmpI x y=z at *
   have hz2:r147 [I x,I y]=some ⟨I z,[]⟩:=by rw [<-hz]; rfl
   by_cases c3:z=0
   ·rw [if_pos c3] at hh
    repeat'(first|refine wk3 ?_|(refine wk2 ?_ ?_<;>intro _)|refine wk4 ?_|fail);all_goals(conv=>whnf)
    all_goals first
     | (exfalso; clear hk; simp_all; done)
     | exact Qo ⟨(k+1,_),[],rfl,kps,kps,⟨Zi (by omega),c1,c2,hh⟩,by dsimp only; omega⟩
   ·rw [if_neg c3] at hh
    subst hh
    repeat'(first|refine wk3 ?_|(refine wk2 ?_ ?_<;>intro _)|refine wk4 ?_|fail);all_goals(conv=>whnf)
    all_goals first
     | exact Za (by assumption)
     | exact Za rfl
     | (exfalso; clear hk; simp_all; done)
  ·rw [Qi c1,show b.drop k=[] from Qj (by omega),cmpL] at hh
   subst hh
   repeat'(first|refine wk3 ?_|(refine wk2 ?_ ?_<;>intro _)|refine wk4 ?_|fail);all_goals(conv=>whnf)
   exact Za rfl
 ·rw [show a.drop k=[] from Qj (by omega)] at hh
  by_cases c2:k<b.length
  ·rw [Qi c2,cmpL] at hh
   subst hh
   repeat'(first|refine wk3 ?_|(refine wk2 ?_ ?_<;>intro _)|refine wk4 ?_|fail);all_goals(conv=>whnf)
   exact Za rfl
  ·rw [Qj (by omega),cmpL] at hh
   subst hh
   repeat'(first|refine wk3 ?_|(refine wk2 ?_ ?_<;>intro _)|refine wk4 ?_|fail);all_goals(conv=>whnf)
   exact Za rfl
noncomputable abbrev r148:List AV->Option PRes:=famA (fun q:List Int × List Int=>q.1.length<1000000/\q.2.length<1000000) (fun q=>[.isl 1 (nl q.1),.isl 1 (nl q.2)]) (fun q=>⟨I (cmpL q.1 q.2),[]⟩)
theorem Ybg {pt:PC} (hp:PCOK Tryz.prog pt):PCOK Tryz.prog (ins 71 r148 pt):=Xa (fun q hq=>d148 hq.1 hq.2) hp
theorem Zxs {a b:List Int} (h1:a.length<1000000) (h2:b.length<1000000):r148 [.isl 1 (nl a),.isl 1 (nl b)]=some ⟨I (cmpL a b),[]⟩ :=
 Yb (p:=fun q:List Int × List Int=>q.1.length<1000000/\q.2.length<1000000) (g:=fun q=>[.isl 1 (nl q.1),.isl 1 (nl q.2)]) (r:=fun q=>⟨I (cmpL q.1 q.2),[]⟩) (k:=(a,b)) (fun j hj=>by
  simp only [Rb,Ml,true_and,and_true] at hj
  rw [Zqq hj.1,Zqq hj.2]) ⟨h1,h2⟩
theorem d146 {l:List Int} (hl:l.length<1000):PCall Tryz.prog 69 [.isl 1 (nl l)] ⟨I (fstL l),[]⟩:=by
 have ll:=Zl l
 refine bs.pv (sx:=nos) Zd Tryz.func69 (by kernel_rfl) (by kernel_rfl) rfl ?_
 repeat'(first|refine wk3 ?_|(refine wk2 ?_ ?_<;>intro _)|refine wk4 ?_|fail);all_goals(conv=>whnf)
 refine Zz (S:=Nat × Int) (fun t=>l.length-t.1) (fun t=>[(3,I 0),(6,.isl 1 (nl l)),(7,I (nl l).length),(8,I t.2)]) (fun _=>[]) 0 0
  (fun t=>t.2=t.1/\t.1<=l.length/\fstL (l.drop t.1)=fstL l) (0,0) ⟨rfl,Qm _,rfl⟩ (Qd _) [] rfl (kps) (kps) ?_
 rintro ⟨k,i⟩ ⟨hi,hk,hh⟩
 dsimp only at hi hk hh ⊢
 subst hi
 generalize fstL l=R at *
 refine bs.av (sx:=nos) Zd ?_
 by_cases hlt:k<l.length
 ·have e1:=Uo hlt
  rw [Qi hlt,fstL] at hh
  generalize l[k]=x at *
  by_cases c:x=0
  ·rw [if_neg (fun q=>q c)] at hh
   repeat'(first|refine wk3 ?_|(refine wk2 ?_ ?_<;>intro _)|refine wk4 ?_|fail);all_goals(conv=>whnf)
   all_goals first
    | (exfalso; simp_all; done)
    | exact Qo ⟨(k+1,_),[],rfl,kps,kps,⟨Zi (by omega),hlt,hh⟩,by dsimp only; omega⟩
  ·rw [if_pos c] at hh
   subst hh
   repeat'(first|refine wk3 ?_|(refine wk2 ?_ ?_<;>intro _)|refine wk4 ?_|fail);all_goals(conv=>whnf)
   all_goals first
    | exact Za rfl
    | (exfalso; simp_all; done)
 ·rw [Qj (by omega),fstL] at hh
  subst hh
  repeat'(first|refine wk3 ?_|(refine wk2 ?_ ?_<;>intro _)|refine wk4 ?_|fail);all_goals(conv=>whnf)
  exact Za rfl
noncomputable abbrev rOr:List AV->Option PRes:=famA (fun l:List Int=>l.length<1000) (fun l=>[.isl 1 (nl l)]) (fun l=>⟨I (fstL l),[]⟩)
theorem Ydi {pt:PC} (hp:PCOK Tryz.prog pt):PCOK Tryz.prog (ins 69 rOr pt):=Xa (fun l hl=>d146 hl) hp
theorem Ybd {l:List Int} (h:l.length<1000):rOr [.isl 1 (nl l)]=some ⟨I (fstL l),[]⟩ :=
 Yb (p:=fun l:List Int=>l.length<1000) (g:=fun l=>[.isl 1 (nl l)]) (r:=fun l=>⟨I (fstL l),[]⟩) (fun j hj=>by
  simp only [Rb,Ml,true_and,and_true] at hj
  rw [Zqq hj]) h
theorem d115 {a b:Pth} (ha:a.ss.length<1000000) (hb:b.ss.length<1000000):PCall Tryz.prog 33 [a.av,b.av] ⟨I (ordP a b),[]⟩:=by
 obtain ⟨s1,p1,q1⟩:=a
 obtain ⟨s2,p2,q2⟩:=b
 dsimp only at ha hb
 have l1:=Zl s1
 have l2:=Zl s2
 have e1:=Zxs ha hb
 have e2:=Ybd (l:=[cmpI q1 q2,cmpI ((nl s1).length:Int) ((nl s2).length:Int),cmpL s1 s2]) (by simp)
 unfold ordP
 dsimp only
 rw [<-l1,<-l2]
 refine bs.pv (sx:=nos) (Zt1 (Ybg (Ydi Zd))) Tryz.func33 (by kernel_rfl) (by kernel_rfl) rfl ?_
 repeat'(first|refine wk3 ?_|(refine wk2 ?_ ?_<;>intro _)|refine wk4 ?_|fail);all_goals(conv=>whnf)
 exact Za rfl
theorem Vk (a b:Int):(a<b/\cmpI a b = -1)\/(a=b/\cmpI a b=0)\/(b<a/\cmpI a b=1):=by
 unfold cmpI
 split
 ·exact .inl ⟨‹_›,rfl⟩
 ·split
  ·exact .inr (.inr ⟨‹_›,rfl⟩)
  ·exact .inr (.inl ⟨by omega,rfl⟩)
theorem Zod:∀ a:List Int,cmpL a a=0
 | []=>rfl
 | x::a=>by
  have:cmpI x x=0:=by rcases Vk x x with h|h|h<;>omega
  rw [cmpL,if_pos this,Zod a]
theorem Zoe:∀ a b:List Int,cmpL b a = -cmpL a b
 | [],[]=>rfl
 | [],_::_=>rfl
 | _::_,[]=>rfl
 | x::a,y::b=>by
  rw [cmpL,cmpL,Zoe a b]
  rcases Vk x y with h|h|h<;>rcases Vk y x with k|k|k<;>rw [h.2,k.2]<;>first|rfl|omega
theorem Zoc:∀ {a b:List Int},cmpL a b=0->a=b
 | [],[],_=>rfl
 | [],_::_,h=>by cases h
 | _::_,[],h=>by cases h
 | x::a,y::b,h=>by
  rw [cmpL] at h
  rcases Vk x y with k|k|k
  ·rw [k.2] at h; simp at h
  ·rw [k.2] at h; rw [k.1,Zoc (a:=a) (b:=b) (by simpa using h)]
  ·rw [k.2] at h; simp at h
theorem Zk0:∀ {a b c:List Int},cmpL a b<=0->cmpL b c<=0->cmpL a c<=0
 | [],_,[],_,_=>by simp [cmpL]
 | [],_,_::_,_,_=>by simp [cmpL]
 | x::a,[],c,h,_=>by simp [cmpL] at h
 | x::a,y::b,[],_,h=>by simp [cmpL] at h
 | x::a,y::b,z::c,h1,h2=>by
  rw [cmpL] at h1 h2 ⊢
  rcases Vk x y with k|k|k<;>rcases Vk y z with m|m|m<;>rcases Vk x z with n|n|n<;>rw [k.2] at h1<;>rw [m.2] at h2<;>rw [n.2]
  all_goals simp at h1 h2 ⊢
  all_goals first
   | omega
   | exact Zk0 h1 h2
abbrev ordK (p:Pth):List Int:=p.sq::(p.ss.length:Int)::p.ss
theorem Zdc (a b:Pth):ordP a b=cmpL (ordK a) (ordK b):=by
 unfold ordP ordK
 simp only [fstL,cmpL]
 by_cases c1:cmpI a.sq b.sq=0<;>by_cases c2:cmpI a.ss.length b.ss.length=0<;>by_cases c3:cmpL a.ss b.ss=0<;>simp [c1,c2,c3]
theorem Zt9 (a:Pth):ordP a a=0:=by rw [Zdc,Zod]
theorem Zar (a b:Pth):ordP b a = -ordP a b:=by rw [Zdc,Zdc,Zoe]
theorem Zd0 {a b c:Pth} (h1:ordP a b<=0) (h2:ordP b c<=0):ordP a c<=0:=by rw [Zdc] at *; exact Zk0 h1 h2
theorem Zmz {a b:Pth} (h:ordP a b=0):a.sq=b.sq/\a.ss=b.ss:=by
 rw [Zdc] at h
 have:=Zoc h
 simp only [ordK,Rb] at this
 exact ⟨this.1,this.2.2⟩
theorem Zxx:Go.Sort.SWO (Go.Proofs.ltOf ordP):=by
 refine ⟨fun x=>?_,fun x y z h1 h2=>?_,fun x y z h1 h2=>?_⟩
 ·simp [ltOf,Zt9]
 ·simp only [ltOf,decide_eq_true_eq] at *
  have h:=Zd0 (Rk h1) (Rk h2)
  rcases Int.lt_or_eq_of_le h with h|h
  ·exact h
  ·obtain ⟨e1,e2⟩:=Zmz h
   have:ordP x y=ordP z y:=by rw [Zdc,Zdc]; unfold ordK; rw [e1,e2]
   have:=Zar y z
   omega
 ·simp only [ltOf,decide_eq_false_iff_not,Int.not_lt] at *
  have a1:=Zar x y
  have a2:=Zar y z
  have a3:=Zar x z
  have:=Zd0 (a:=z) (b:=y) (c:=x) (by omega) (by omega)
  omega
theorem Zmf {G:Pth->Prop} (hG:∀ a b,G a->G b->a.ss=b.ss->a=b):∀ {l m:List Pth},l.Perm m->(∀ a∈l,G a)->l.Pairwise (fun a b=>ordP a b<=0)->m.Pairwise (fun a b=>ordP a b<=0)->l=m
 | [],m,hp,_,_,_=>by rw [List.nil_perm.1 hp]
 | a::l,[],hp,_,_,_=>by have:=hp.length_eq; simp at this
 | a::l,b::m,hp,hg,h1,h2=>by
  have hab:a=b:=by
   by_cases c:a=b
   ·exact c
   ·have hb:b∈a::l:=hp.symm.subset (by simp)
    have ha:a∈b::m:=hp.subset (by simp)
    rw [Qx] at ha hb
    have q1:=(Wj.1 h1).1 b (by rcases hb with h|h; exact absurd h.symm c; exact h)
    have q2:=(Wj.1 h2).1 a (by rcases ha with h|h; exact absurd h c; exact h)
    have q3:=Zar a b
    have q4:=Zmz (a:=a) (b:=b) (by omega)
    exact hG a b (hg a (by simp)) (hg b (hp.symm.subset (by simp))) q4.2
  subst hab
  rw [Zmf hG (List.perm_cons a |>.1 hp) (fun x hx=>hg x (by simp [hx])) (Wj.1 h1).2 (Wj.1 h2).2]
def putM (p:Pth) (l:List Pth):Nat->Nat
 | 0=>0
 | m+1=>match l[m]? with
  | some x=>if ordP p x<0 then putM p l m else m+1
  | none=>m+1
def putL (l:List Pth) (p:Pth):List Pth:=l.take (putM p l l.length)++p::l.drop (putM p l l.length)
theorem Zt4 (p:Pth) (l:List Pth):∀ m,putM p l m<=m
 | 0=>Qd _
 | m+1=>by
  rw [putM]
  split
  ·split
   ·exact Qr (Zt4 p l m) (Nat.le_succ _)
   ·exact Qd _
  ·exact Qd _
theorem Zt5 (l:List Pth) (p:Pth):(putL l p).Perm (p::l):=by
 unfold putL
 refine List.perm_middle.trans ?_
 rw [List.take_append_drop]
theorem Zmu (p:Pth) (l:List Pth):∀ m,m<=l.length->(∀ j (h:j<l.length),putM p l m<=j->j<m->ordP p l[j]<0)/\(∀ j (h:j<l.length),j+1=putM p l m -> ¬ ordP p l[j]<0)
 | 0,_=>⟨fun j h h1 h2=>by omega,fun j h h1=>by simp [putM] at h1⟩
 | m+1,hm=>by
  have hml:m<l.length:=by omega
  rw [putM,List.getElem?_eq_getElem hml]
  dsimp only
  by_cases c:ordP p l[m]<0
  ·rw [if_pos c]
   obtain ⟨q1,q2⟩:=Zmu p l m (by omega)
   refine ⟨fun j h h1 h2=>?_,q2⟩
   by_cases e:j=m
   ·subst e; exact c
   ·exact q1 j h h1 (by omega)
  ·rw [if_neg c]
   refine ⟨fun j h h1 h2=>by omega,fun j h h1=>?_⟩
   have:j=m:=by omega
   subst this; exact c
theorem Zo7 {l:List Pth} {p:Pth} (hs:l.Pairwise (fun a b=>ordP a b<=0)):(putL l p).Pairwise (fun a b=>ordP a b<=0):=by
 have hle:=Zt4 p l l.length
 obtain ⟨q1,q2⟩:=Zmu p l l.length (Qd _)
 unfold putL
 generalize putM p l l.length=m at *
 rw [List.pairwise_append]
 have hgt:∀ x∈l.drop m,ordP p x<=0:=fun x hx=>by
  obtain ⟨i,hi,rfl⟩:=Pd.1 hx
  rw [Oz] at hi
  rw [Gy]
  exact Rk (q1 (m+i) (by omega) (by omega) (by omega))
 have hlt:∀ x∈l.take m,ordP x p<=0:=fun x hx=>by
  obtain ⟨i,hi,rfl⟩:=Pd.1 hx
  rw [List.length_take] at hi
  rw [List.getElem_take]
  have h1:=q2 (m-1) (by omega) (by omega)
  have h2:=Zar (l[m-1]'(by omega)) p
  have h3:ordP (l[m-1]'(by omega)) p<=0:=by omega
  by_cases e:i=m-1
  ·subst e; exact h3
  ·exact Zd0 (Nf.1 hs i (m-1) (by omega) (by omega) (by omega)) h3
 refine ⟨hs.sublist (List.take_sublist _ _),?_,fun a ha b hb=>?_⟩
 ·rw [Wj]
  exact ⟨hgt,hs.sublist (List.drop_sublist _ _)⟩
 ·rcases Qx.1 hb with rfl|hb
  ·exact hlt a ha
  ·exact Zd0 (hlt a ha) (hgt b hb)
def rngI (k n:Nat):List Int:=(List.range' k (n-k)).map fun (i:Nat)=>(i:Int)
theorem Zc3 {k n:Nat} (h:k<n):rngI k n=(k:Int)::rngI (k+1) n:=by
 unfold rngI
 rw [show n-k=(n-(k+1))+1 by omega,List.range'_succ]
 rfl
theorem Zfk {k n:Nat} (h:n<=k):rngI k n=[]:=by
 unfold rngI
 rw [show n-k=0 by omega]
 rfl
def wlk (n:Nat):Nat->List Int->List (List Int)
 | 0,L=>[L]
 | o+1,L=>L::(rngI 0 n).flatMap fun i=>if L.getLast?=some i then [] else wlk n o (L++[i])
def nl1 (ns:List Int):List (List AV):=ns.map fun n=>[I n]
abbrev lsX (l:List (List Int)):List (List AV):=l.map fun L=>[.isl 1 (nl1 L)]
def Yw:FuncId->Bool:=fun f=>Nat.beq f 59
theorem Yb4 (n:Nat) (hn:n<1000):Zoq Tryz.prog 58 [] [.ipt [I 0],.ipt [I (n:Int)]] (lsX (wlk n 0 [])):=by
 refine bs.titer (sx:=Yw) Zd Tryz.func58 (by kernel_rfl) rfl (by kernel_rfl) fun B Ig l JX hI=>?_
 conv=>whnf
 refine bs.ysv (sx:=Yw) Zd hI Tryz.func59 (by kernel_rfl) rfl (by kernel_rfl) ?_
 conv=>whnf
 refine Jz ⟨rfl,rfl,⟨_,_,rfl,.inr ⟨rfl,_,rfl⟩,trivial⟩,(fun h=>by cases h),?_,?_⟩
 ·repeat'(first|refine wk3 ?_|(refine wk2 ?_ ?_<;>intro _)|refine wk4 ?_|fail);all_goals(conv=>whnf)
  exact Qo (.inl rfl)
 ·repeat'(first|refine wk3 ?_|(refine wk2 ?_ ?_<;>intro _)|refine wk4 ?_|fail);all_goals(conv=>whnf)
  exact Qo (.inr rfl)
def w1Z (l:Nat) (f:AV):Nat->List (List AV)->List (Nat × ABlk)
 | 0,_=>[(2,.row 1 [[f]] true false),(1,.row 1 [[.nils]] true false),(0,.row 1 [[.yld l]] true false)]
 | _+1,A=>[(3,.row 1 A true true),(2,.row 1 [[f]] true false),(1,.row 1 [[.asl 3 0 0]] true false),(0,.row 1 [[.yld l]] true false)]
theorem Yb3 (n:Nat) (hn:n<1000):Zoq Tryz.prog 58 [] [.ipt [I 1],.ipt [I (n:Int)]] (lsX (wlk n 1 [])):=by
 refine bs.titer (sx:=Yw) Zd Tryz.func58 (by kernel_rfl) rfl (by kernel_rfl) fun B Ig l JX hI=>?_
 conv=>whnf
 refine bs.ysv (sx:=Yw) Zd hI Tryz.func59 (by kernel_rfl) rfl (by kernel_rfl) ?_
 conv=>whnf
 refine Jz ⟨rfl,rfl,⟨_,_,rfl,.inr ⟨rfl,_,rfl⟩,trivial⟩,(fun h=>by cases h),?_,?_⟩
 ·conv=>whnf
  refine Zuj (S:=Nat × Int × Nat × List (List AV)) (fun t=>n-t.1) (fun t=>[(0,.ptr 0 0 0),(1,.ptr 1 0 0),(2,.ipt [I 1]),(3,.ipt [I (n:Int)]),(4,.ptr 2 0 0),(15,I (n:Int)),(16,I t.2.1)]) (fun t=>w1Z l (.func 59 [] [.ptr 0 0 0,.ptr 1 0 0,.ipt [I 1],.ipt [I (n:Int)],.ptr 2 0 0]) t.2.2.1 t.2.2.2)
   (fun t=>some (lsX ((rngI t.1 n).flatMap fun i=>wlk n 0 [i]))) 3 (fun t=>match t.2.2.1 with
   | 0=>3
   | _=>4) (fun t=>t.2.1=t.1/\t.1<=n/\(t.2.2.1≠0->∃ c,t.2.2.2=[[c]])) (0,0,0,[]) ⟨rfl,Qm _,fun h=>absurd rfl h⟩ (Qd _) rfl [] rfl (kps) (kps) ?_
  rintro ⟨k,i,m,A⟩ ⟨hi,hk,hA⟩
  dsimp only at hi hk hA
  subst hi
  by_cases hlt:k<n
  ·have hw:Qa Qb ((k:Int)+1)=((k+1:Nat):Int):=W_eq (by omega) (by omega)
   dsimp only
   rw [Zc3 hlt]
   cases m with
   | zero =>
    refine bs.yv Zd hI (sx:=Yw) ?_
    repeat'(first|refine wk3 ?_|(refine wk2 ?_ ?_<;>intro _)|refine wk4 ?_|fail);all_goals(conv=>whnf)
    refine bs.ysv (sx:=Yw) Zd hI Tryz.func59 (by kernel_rfl) rfl (by kernel_rfl) ?_
    conv=>whnf
    refine Jz ⟨rfl,rfl,.same rfl,(fun h=>by cases h),?_,?_⟩
    ·conv=>whnf
     repeat'(first|refine wk3 ?_|(refine wk2 ?_ ?_<;>intro _)|refine wk4 ?_|fail);all_goals(conv=>whnf)
     exact Qo ⟨(k+1,Qa Qb ((k:Int)+1),1,[[I k]]),[(3,4)],rfl,kps,kps,rfl,⟨hw,by omega,fun _=>⟨_,rfl⟩⟩,by dsimp only; omega⟩
    ·repeat'(first|refine wk3 ?_|(refine wk2 ?_ ?_<;>intro _)|refine wk4 ?_|fail);all_goals(conv=>whnf)
     exact Qo (.inr rfl)
   | succ m =>
    obtain ⟨c,rfl⟩:=hA (by simp)
    have hfit:=Ja
    refine bs.yv Zd hI (sx:=Yw) ?_
    repeat'(first|refine wk3 ?_|(refine wk2 ?_ ?_<;>intro _)|refine wk4 ?_|fail);all_goals(conv=>whnf)
    refine bs.ysv (sx:=Yw) Zd hI Tryz.func59 (by kernel_rfl) rfl (by kernel_rfl) ?_
    conv=>whnf
    refine Jz ⟨rfl,rfl,.same rfl,(fun h=>by cases h),?_,?_⟩
    ·conv=>whnf
     repeat'(first|refine wk3 ?_|(refine wk2 ?_ ?_<;>intro _)|refine wk4 ?_|fail);all_goals(conv=>whnf)
     exact Qo ⟨(k+1,Qa Qb ((k:Int)+1),m+1,[[I k]]),[(3,3)],rfl,kps,kps,rfl,⟨hw,by omega,fun _=>⟨_,rfl⟩⟩,by dsimp only; omega⟩
    ·repeat'(first|refine wk3 ?_|(refine wk2 ?_ ?_<;>intro _)|refine wk4 ?_|fail);all_goals(conv=>whnf)
     exact Qo (.inr rfl)
  ·dsimp only
   rw [Zfk (by omega)]
   cases m with
   | zero =>
    refine bs.yv Zd hI (sx:=Yw) ?_
    repeat'(first|refine wk3 ?_|(refine wk2 ?_ ?_<;>intro _)|refine wk4 ?_|fail);all_goals(conv=>whnf)
    exact Qo (.inl rfl)
   | succ m =>
    refine bs.yv Zd hI (sx:=Yw) ?_
    repeat'(first|refine wk3 ?_|(refine wk2 ?_ ?_<;>intro _)|refine wk4 ?_|fail);all_goals(conv=>whnf)
    exact Qo (.inl rfl)
 ·repeat'(first|refine wk3 ?_|(refine wk2 ?_ ?_<;>intro _)|refine wk4 ?_|fail);all_goals(conv=>whnf)
  exact Qo (.inr rfl)
def w2Z (l:Nat) (f:AV) (a b:AV):Nat->List (Nat × ABlk)
 | 0=>[(2,.row 1 [[f]] true false),(1,.row 1 [[.nils]] true false),(0,.row 1 [[.yld l]] true false)]
 | 1=>[(3,.row 1 [[a]] true true),(2,.row 1 [[f]] true false),(1,.row 1 [[.asl 3 0 0]] true false),(0,.row 1 [[.yld l]] true false)]
 | _+2=>[(3,.row 1 [[a],[b]] true true),(2,.row 1 [[f]] true false),(1,.row 1 [[.asl 3 0 0]] true false),(0,.row 1 [[.yld l]] true false)]
abbrev fn2 (n:Nat):AV:=.func 59 [] [.ptr 0 0 0,.ptr 1 0 0,.ipt [I 2],.ipt [I (n:Int)],.ptr 2 0 0]
def w3Z (l:Nat) (f:AV) (a b:AV) (rI:Nat):Nat->List (Nat × ABlk)
 | 0=>[(rI,.row 1 [[a]] true true),(2,.row 1 [[f]] true false),(1,.row 1 [[.asl rI 0 1]] true false),(0,.row 1 [[.yld l]] true false)]
 | _+1=>[(5,.row 1 [[a],[b]] true true),(2,.row 1 [[f]] true false),(1,.row 1 [[.asl 5 0 1]] true false),(0,.row 1 [[.yld l]] true false)]
def w4Z (l:Nat) (f:AV) (a b:AV):List (Nat × ABlk):=[(3,.row 1 [[a],[b]] true true),(2,.row 1 [[f]] true false),(1,.row 1 [[.asl 3 0 1]] true false),(0,.row 1 [[.yld l]] true false)]
theorem wl2 (n k:Nat):wlk n 1 [(k:Int)]=[(k:Int)]::(rngI 0 n).flatMap fun j=>if (k:Int)=j then [] else [[(k:Int),j]]:=by
 simp [wlk]
theorem Yb2 (n:Nat) (hn:n<1000):Zoq Tryz.prog 58 [] [.ipt [I 2],.ipt [I (n:Int)]] (lsX (wlk n 2 [])):=by
 refine bs.titer (sx:=Yw) Zd Tryz.func58 (by kernel_rfl) rfl (by kernel_rfl) fun B Ig l JX hI=>?_
 conv=>whnf
 refine bs.ysv (sx:=Yw) Zd hI Tryz.func59 (by kernel_rfl) rfl (by kernel_rfl) ?_
 conv=>whnf
 refine Jz ⟨rfl,rfl,⟨_,_,rfl,.inr ⟨rfl,_,rfl⟩,trivial⟩,(fun h=>by cases h),?_,?_⟩
 ·conv=>whnf
  refine Zuj (S:=Nat × Int × Nat × AV × AV) (fun t=>n-t.1) (fun t=>[(0,.ptr 0 0 0),(1,.ptr 1 0 0),(2,.ipt [I 2]),(3,.ipt [I (n:Int)]),(4,.ptr 2 0 0),(15,I (n:Int)),(16,I t.2.1)]) (fun t=>w2Z l (fn2 n) t.2.2.2.1 t.2.2.2.2 t.2.2.1)
   (fun t=>some (lsX ((rngI t.1 n).flatMap fun i=>wlk n 1 [i]))) 3 (fun t=>match t.2.2.1 with
   | 0=>3
   | _=>4) (fun t=>t.2.1=t.1/\t.1<=n) (0,0,0,I 0,I 0) ⟨rfl,Qm _⟩ (Qd _) rfl [] rfl (kps) (kps) ?_
  rintro ⟨k,i,m,a,b⟩ ⟨hi,hk⟩
  dsimp only at hi hk
  subst hi
  by_cases hlt:k<n
  ·have hw:Qa Qb ((k:Int)+1)=((k+1:Nat):Int):=W_eq (by omega) (by omega)
   dsimp only
   rw [Zc3 hlt,Su,wl2]
   rcases m with _|_|m
   ·refine bs.yv Zd hI (sx:=Yw) ?_
    repeat'(first|refine wk3 ?_|(refine wk2 ?_ ?_<;>intro _)|refine wk4 ?_|fail);all_goals(conv=>whnf)
    refine bs.ysv (sx:=Yw) Zd hI Tryz.func59 (by kernel_rfl) rfl (by kernel_rfl) ?_
    conv=>whnf
    refine Jz ⟨rfl,rfl,.same rfl,(fun h=>by cases h),?_,?_⟩
    ·conv=>whnf
     repeat'(first|refine wk3 ?_|(refine wk2 ?_ ?_<;>intro _)|refine wk4 ?_|fail);all_goals(conv=>whnf)
     refine Zuj (S:=Nat × Int × Nat × AV) (fun t=>n-t.1) (fun t=>[(0,.ptr 0 0 0),(1,.ptr 1 0 0),(2,.ipt [I 2]),(3,.ipt [I (n:Int)]),(4,.ptr 2 0 0),(15,I (n:Int)),(16,I t.2.1)]) (fun t=>w3Z l (fn2 n) (I k) t.2.2.2 4 t.2.2.1)
      (fun t=>some (lsX (((rngI t.1 n).flatMap fun j=>if (k:Int)=j then [] else [[(k:Int),j]])++(rngI (k+1) n).flatMap fun i=>wlk n 1 [i]))) 5 (fun t=>match t.2.2.1 with
       | 0=>5
       | _=>6) (fun t=>t.2.1=t.1/\t.1<=n) (0,0,0,I 0) ⟨rfl,Qm _⟩ (Qd _) rfl [] rfl (kps) (kps) ?_
     rintro ⟨j,i,q,b'⟩ ⟨hi,hj⟩
     dsimp only at hi hj
     subst hi
     by_cases hl2:j<n
     ·have hw2:Qa Qb ((j:Int)+1)=((j+1:Nat):Int):=W_eq (by omega) (by omega)
      dsimp only
      rw [Zc3 hl2,Su]
      by_cases hkj:(k:Int)=(j:Int)
      ·rw [if_pos hkj,Tt]
       rcases q with _|q
       ·refine bs.yv Zd hI (sx:=Yw) ?_
        repeat'(first|refine wk3 ?_|(refine wk2 ?_ ?_<;>intro _)|refine wk4 ?_|fail);all_goals(conv=>whnf)
        exact Qo ⟨(j+1,Qa Qb ((j:Int)+1),0,b'),[],rfl,kps,kps,rfl,⟨hw2,by omega⟩,by dsimp only; omega⟩
       ·refine bs.yv Zd hI (sx:=Yw) ?_
        repeat'(first|refine wk3 ?_|(refine wk2 ?_ ?_<;>intro _)|refine wk4 ?_|fail);all_goals(conv=>whnf)
        exact Qo ⟨(j+1,Qa Qb ((j:Int)+1),q+1,b'),[(5,5)],rfl,kps,kps,rfl,⟨hw2,by omega⟩,by dsimp only; omega⟩
      ·rw [if_neg hkj]
       rcases q with _|q
       ·refine bs.yv Zd hI (sx:=Yw) ?_
        repeat'(first|refine wk3 ?_|(refine wk2 ?_ ?_<;>intro _)|refine wk4 ?_|fail);all_goals(conv=>whnf)
        refine bs.ysv (sx:=Yw) Zd hI Tryz.func59 (by kernel_rfl) rfl (by kernel_rfl) ?_
        conv=>whnf
        refine Jz ⟨rfl,rfl,.same rfl,(fun h=>by cases h),?_,?_⟩
        ·conv=>whnf
         repeat'(first|refine wk3 ?_|(refine wk2 ?_ ?_<;>intro _)|refine wk4 ?_|fail);all_goals(conv=>whnf)
         exact Qo ⟨(j+1,Qa Qb ((j:Int)+1),1,I j),[(5,6)],rfl,kps,kps,rfl,⟨hw2,by omega⟩,by dsimp only; omega⟩
        ·repeat'(first|refine wk3 ?_|(refine wk2 ?_ ?_<;>intro _)|refine wk4 ?_|fail);all_goals(conv=>whnf)
         exact Qo (.inr rfl)
       ·have hfit:=Ja
        refine bs.yv Zd hI (sx:=Yw) ?_
        repeat'(first|refine wk3 ?_|(refine wk2 ?_ ?_<;>intro _)|refine wk4 ?_|fail);all_goals(conv=>whnf)
        refine bs.ysv (sx:=Yw) Zd hI Tryz.func59 (by kernel_rfl) rfl (by kernel_rfl) ?_
        conv=>whnf
        refine Jz ⟨rfl,rfl,.same rfl,(fun h=>by cases h),?_,?_⟩
        ·conv=>whnf
         repeat'(first|refine wk3 ?_|(refine wk2 ?_ ?_<;>intro _)|refine wk4 ?_|fail);all_goals(conv=>whnf)
         exact Qo ⟨(j+1,Qa Qb ((j:Int)+1),q+1,I j),[(5,5)],rfl,kps,kps,rfl,⟨hw2,by omega⟩,by dsimp only; omega⟩
        ·repeat'(first|refine wk3 ?_|(refine wk2 ?_ ?_<;>intro _)|refine wk4 ?_|fail);all_goals(conv=>whnf)
         exact Qo (.inr rfl)
     ·dsimp only
      rw [Zfk (k:=j) (by omega),Jk,Tt]
      rcases q with _|q
      ·refine bs.yv Zd hI (sx:=Yw) ?_
       repeat'(first|refine wk3 ?_|(refine wk2 ?_ ?_<;>intro _)|refine wk4 ?_|fail);all_goals(conv=>whnf)
       exact Qo ⟨(k+1,Qa Qb ((k:Int)+1),1,I k,b),[(3,4)],rfl,kps,kps,rfl,⟨hw,by omega⟩,by dsimp only; omega⟩
      ·refine bs.yv Zd hI (sx:=Yw) ?_
       repeat'(first|refine wk3 ?_|(refine wk2 ?_ ?_<;>intro _)|refine wk4 ?_|fail);all_goals(conv=>whnf)
       exact Qo ⟨(k+1,Qa Qb ((k:Int)+1),2,I k,b'),[(3,5)],rfl,kps,kps,rfl,⟨hw,by omega⟩,by dsimp only; omega⟩
    ·repeat'(first|refine wk3 ?_|(refine wk2 ?_ ?_<;>intro _)|refine wk4 ?_|fail);all_goals(conv=>whnf)
     exact Qo (.inr rfl)
   ·have hfit:=Ja
    refine bs.yv Zd hI (sx:=Yw) ?_
    repeat'(first|refine wk3 ?_|(refine wk2 ?_ ?_<;>intro _)|refine wk4 ?_|fail);all_goals(conv=>whnf)
    clear hfit
    refine bs.ysv (sx:=Yw) Zd hI Tryz.func59 (by kernel_rfl) rfl (by kernel_rfl) ?_
    conv=>whnf
    refine Jz ⟨rfl,rfl,.same rfl,(fun h=>by cases h),?_,?_⟩
    ·conv=>whnf
     repeat'(first|refine wk3 ?_|(refine wk2 ?_ ?_<;>intro _)|refine wk4 ?_|fail);all_goals(conv=>whnf)
     refine Zuj (S:=Nat × Int × Nat × AV) (fun t=>n-t.1) (fun t=>[(0,.ptr 0 0 0),(1,.ptr 1 0 0),(2,.ipt [I 2]),(3,.ipt [I (n:Int)]),(4,.ptr 2 0 0),(15,I (n:Int)),(16,I t.2.1)]) (fun t=>w3Z l (fn2 n) (I k) t.2.2.2 3 t.2.2.1)
      (fun t=>some (lsX (((rngI t.1 n).flatMap fun j=>if (k:Int)=j then [] else [[(k:Int),j]])++(rngI (k+1) n).flatMap fun i=>wlk n 1 [i]))) 5 (fun t=>match t.2.2.1 with
       | 0=>5
       | _=>6) (fun t=>t.2.1=t.1/\t.1<=n) (0,0,0,I 0) ⟨rfl,Qm _⟩ (Qd _) rfl [] rfl (kps) (kps) ?_
     rintro ⟨j,i,q,b'⟩ ⟨hi,hj⟩
     dsimp only at hi hj
     subst hi
     by_cases hl2:j<n
     ·have hw2:Qa Qb ((j:Int)+1)=((j+1:Nat):Int):=W_eq (by omega) (by omega)
      dsimp only
      rw [Zc3 hl2,Su]
      by_cases hkj:(k:Int)=(j:Int)
      ·rw [if_pos hkj,Tt]
       rcases q with _|q
       ·refine bs.yv Zd hI (sx:=Yw) ?_
        repeat'(first|refine wk3 ?_|(refine wk2 ?_ ?_<;>intro _)|refine wk4 ?_|fail);all_goals(conv=>whnf)
        exact Qo ⟨(j+1,Qa Qb ((j:Int)+1),0,b'),[],rfl,kps,kps,rfl,⟨hw2,by omega⟩,by dsimp only; omega⟩
       ·refine bs.yv Zd hI (sx:=Yw) ?_
        repeat'(first|refine wk3 ?_|(refine wk2 ?_ ?_<;>intro _)|refine wk4 ?_|fail);all_goals(conv=>whnf)
        exact Qo ⟨(j+1,Qa Qb ((j:Int)+1),q+1,b'),[(5,5)],rfl,kps,kps,rfl,⟨hw2,by omega⟩,by dsimp only; omega⟩
      ·rw [if_neg hkj]
       rcases q with _|q
       ·refine bs.yv Zd hI (sx:=Yw) ?_
        repeat'(first|refine wk3 ?_|(refine wk2 ?_ ?_<;>intro _)|refine wk4 ?_|fail);all_goals(conv=>whnf)
        refine bs.ysv (sx:=Yw) Zd hI Tryz.func59 (by kernel_rfl) rfl (by kernel_rfl) ?_
        conv=>whnf
        refine Jz ⟨rfl,rfl,.same rfl,(fun h=>by cases h),?_,?_⟩
        ·conv=>whnf
         repeat'(first|refine wk3 ?_|(refine wk2 ?_ ?_<;>intro _)|refine wk4 ?_|fail);all_goals(conv=>whnf)
         exact Qo ⟨(j+1,Qa Qb ((j:Int)+1),1,I j),[(5,6)],rfl,kps,kps,rfl,⟨hw2,by omega⟩,by dsimp only; omega⟩
        ·repeat'(first|refine wk3 ?_|(refine wk2 ?_ ?_<;>intro _)|refine wk4 ?_|fail);all_goals(conv=>whnf)
         exact Qo (.inr rfl)
       ·have hfit:=Ja
        refine bs.yv Zd hI (sx:=Yw) ?_
        repeat'(first|refine wk3 ?_|(refine wk2 ?_ ?_<;>intro _)|refine wk4 ?_|fail);all_goals(conv=>whnf)
        refine bs.ysv (sx:=Yw) Zd hI Tryz.func59 (by kernel_rfl) rfl (by kernel_rfl) ?_
        conv=>whnf
        refine Jz ⟨rfl,rfl,.same rfl,(fun h=>by cases h),?_,?_⟩
        ·conv=>whnf
         repeat'(first|refine wk3 ?_|(refine wk2 ?_ ?_<;>intro _)|refine wk4 ?_|fail);all_goals(conv=>whnf)
         exact Qo ⟨(j+1,Qa Qb ((j:Int)+1),q+1,I j),[(5,5)],rfl,kps,kps,rfl,⟨hw2,by omega⟩,by dsimp only; omega⟩
        ·repeat'(first|refine wk3 ?_|(refine wk2 ?_ ?_<;>intro _)|refine wk4 ?_|fail);all_goals(conv=>whnf)
         exact Qo (.inr rfl)
     ·dsimp only
      rw [Zfk (k:=j) (by omega),Jk,Tt]
      rcases q with _|q
      ·refine bs.yv Zd hI (sx:=Yw) ?_
       repeat'(first|refine wk3 ?_|(refine wk2 ?_ ?_<;>intro _)|refine wk4 ?_|fail);all_goals(conv=>whnf)
       exact Qo ⟨(k+1,Qa Qb ((k:Int)+1),1,I k,b),[(3,3)],rfl,kps,kps,rfl,⟨hw,by omega⟩,by dsimp only; omega⟩
      ·refine bs.yv Zd hI (sx:=Yw) ?_
       repeat'(first|refine wk3 ?_|(refine wk2 ?_ ?_<;>intro _)|refine wk4 ?_|fail);all_goals(conv=>whnf)
       exact Qo ⟨(k+1,Qa Qb ((k:Int)+1),2,I k,b'),[(3,5)],rfl,kps,kps,rfl,⟨hw,by omega⟩,by dsimp only; omega⟩
    ·repeat'(first|refine wk3 ?_|(refine wk2 ?_ ?_<;>intro _)|refine wk4 ?_|fail);all_goals(conv=>whnf)
     exact Qo (.inr rfl)
   ·have hfit:=Ja
    refine bs.yv Zd hI (sx:=Yw) ?_
    repeat'(first|refine wk3 ?_|(refine wk2 ?_ ?_<;>intro _)|refine wk4 ?_|fail);all_goals(conv=>whnf)
    refine bs.ysv (sx:=Yw) Zd hI Tryz.func59 (by kernel_rfl) rfl (by kernel_rfl) ?_
    conv=>whnf
    refine Jz ⟨rfl,rfl,.same rfl,(fun h=>by cases h),?_,?_⟩
    ·conv=>whnf
     repeat'(first|refine wk3 ?_|(refine wk2 ?_ ?_<;>intro _)|refine wk4 ?_|fail);all_goals(conv=>whnf)
     refine Zuj (S:=Nat × Int × AV) (fun t=>n-t.1) (fun t=>[(0,.ptr 0 0 0),(1,.ptr 1 0 0),(2,.ipt [I 2]),(3,.ipt [I (n:Int)]),(4,.ptr 2 0 0),(15,I (n:Int)),(16,I t.2.1)]) (fun t=>w4Z l (fn2 n) (I k) t.2.2)
      (fun t=>some (lsX (((rngI t.1 n).flatMap fun j=>if (k:Int)=j then [] else [[(k:Int),j]])++(rngI (k+1) n).flatMap fun i=>wlk n 1 [i]))) 5 (fun _=>5) (fun t=>t.2.1=t.1/\t.1<=n) (0,0,b) ⟨rfl,Qm _⟩ (Qd _) rfl [] rfl (kps) (kps) ?_
     rintro ⟨j,i,b'⟩ ⟨hi,hj⟩
     dsimp only at hi hj
     subst hi
     by_cases hl2:j<n
     ·have hw2:Qa Qb ((j:Int)+1)=((j+1:Nat):Int):=W_eq (by omega) (by omega)
      dsimp only
      rw [Zc3 hl2,Su]
      by_cases hkj:(k:Int)=(j:Int)
      ·rw [if_pos hkj,Tt]
       refine bs.yv Zd hI (sx:=Yw) ?_
       repeat'(first|refine wk3 ?_|(refine wk2 ?_ ?_<;>intro _)|refine wk4 ?_|fail);all_goals(conv=>whnf)
       exact Qo ⟨(j+1,Qa Qb ((j:Int)+1),b'),[],rfl,kps,kps,rfl,⟨hw2,by omega⟩,by dsimp only; omega⟩
      ·rw [if_neg hkj]
       refine bs.yv Zd hI (sx:=Yw) ?_
       repeat'(first|refine wk3 ?_|(refine wk2 ?_ ?_<;>intro _)|refine wk4 ?_|fail);all_goals(conv=>whnf)
       refine bs.ysv (sx:=Yw) Zd hI Tryz.func59 (by kernel_rfl) rfl (by kernel_rfl) ?_
       conv=>whnf
       refine Jz ⟨rfl,rfl,.same rfl,(fun h=>by cases h),?_,?_⟩
       ·conv=>whnf
        repeat'(first|refine wk3 ?_|(refine wk2 ?_ ?_<;>intro _)|refine wk4 ?_|fail);all_goals(conv=>whnf)
        exact Qo ⟨(j+1,Qa Qb ((j:Int)+1),I j),[],rfl,kps,kps,rfl,⟨hw2,by omega⟩,by dsimp only; omega⟩
       ·repeat'(first|refine wk3 ?_|(refine wk2 ?_ ?_<;>intro _)|refine wk4 ?_|fail);all_goals(conv=>whnf)
        exact Qo (.inr rfl)
     ·dsimp only
      rw [Zfk (k:=j) (by omega),Jk,Tt]
      refine bs.yv Zd hI (sx:=Yw) ?_
      repeat'(first|refine wk3 ?_|(refine wk2 ?_ ?_<;>intro _)|refine wk4 ?_|fail);all_goals(conv=>whnf)
      exact Qo ⟨(k+1,Qa Qb ((k:Int)+1),m+2,I k,b'),[(3,3)],rfl,kps,kps,rfl,⟨hw,by omega⟩,by dsimp only; omega⟩
    ·repeat'(first|refine wk3 ?_|(refine wk2 ?_ ?_<;>intro _)|refine wk4 ?_|fail);all_goals(conv=>whnf)
     exact Qo (.inr rfl)
  ·dsimp only
   rw [Zfk (by omega)]
   rcases m with _|_|m
   all_goals
    refine bs.yv Zd hI (sx:=Yw) ?_
    repeat'(first|refine wk3 ?_|(refine wk2 ?_ ?_<;>intro _)|refine wk4 ?_|fail);all_goals(conv=>whnf)
    exact Qo (.inl rfl)
 ·repeat'(first|refine wk3 ?_|(refine wk2 ?_ ?_<;>intro _)|refine wk4 ?_|fail);all_goals(conv=>whnf)
  exact Qo (.inr rfl)
def extL (m:Nat) (L:List Int):List (List Int):=(rngI 0 m).flatMap fun i=>if L.getLast?=some i then [] else [L++[i]]
def bfsL (m:Nat):Nat->List (List Int)
 | 0=>[[]]
 | n+1=>(bfsL m n).flatMap (extL m)
def lev (m:Nat):Nat->List Int->List (List Int)
 | 0,L=>[L]
 | n+1,L=>(extL m L).flatMap (lev m n)
theorem Zqw (m:Nat):∀ (n:Nat) (L:List Int),lev m (n+1) L=(lev m n L).flatMap (extL m)
 | 0,L=>by simp [lev]
 | n+1,L=>by
  rw [lev,lev,Gi]
  congr 1
  funext L'
  exact Zqw m n L'
theorem Zwq (m:Nat):∀ n,bfsL m n=lev m n []
 | 0=>rfl
 | n+1=>by rw [Zqw,bfsL,Zwq m n]
theorem Zi9 {α β:Type} (f g:α->List β):∀ l:List α,(l.flatMap fun x=>f x++g x).Perm (l.flatMap f++l.flatMap g)
 | []=>.nil
 | a::l=>by
  simp only [Su]
  refine ((Ow _).append (Zi9 f g l)).trans ?_
  rw [Rq,Rq]
  refine (Ow _).append ?_
  rw [<-Rq,<-Rq]
  exact List.perm_append_comm.append (Ow _)
theorem flatMap_nil {α β:Type}:∀ l:List α,(l.flatMap fun _=>([]:List β))=[]
 | []=>rfl
 | a::l=>by rw [Su,flatMap_nil l]; rfl
theorem Zhi {α β γ:Type} (f:α->β->List γ) (b:List β):∀ a:List α,(a.flatMap fun x=>b.flatMap fun y=>f x y).Perm (b.flatMap fun y=>a.flatMap fun x=>f x y)
 | []=>by simp [flatMap_nil]
 | x::a=>by
  simp only [Su]
  exact ((Ow _).append (Zhi f b a)).trans (Zi9 _ _ b).symm
theorem Zhj {α β:Type} {f g:α->List β}:∀ {l:List α},(∀ x∈l,(f x).Perm (g x))->(l.flatMap f).Perm (l.flatMap g)
 | [],_=>.nil
 | a::l,h=>by
  simp only [Su]
  exact (h a (by simp)).append (Zhj fun x hx=>h x (by simp [hx]))
theorem Yaw (m o:Nat) (L:List Int):wlk m (o+1) L=L::(extL m L).flatMap (wlk m o):=by
 rw [wlk,extL,Gi]
 congr 2
 funext i
 split<;>simp
theorem Zs1 (m:Nat):∀ (o:Nat) (L:List Int),(wlk m o L).Perm ((Tg (o+1)).flatMap fun k=>lev m k L)
 | 0,L=>by simp [wlk,lev]
 | o+1,L=>by
  rw [Yaw,List.range_succ_eq_map,Su]
  show (L::_).Perm ([L]++_)
  refine List.Perm.cons L ?_
  refine (Zhj fun L' _=>Zs1 m o L').trans ?_
  refine (Zhi _ _ _).trans ?_
  rw [List.flatMap_map]
  exact .refl _
theorem Yax (m o:Nat):(wlk m o []).Perm ((Tg (o+1)).flatMap (bfsL m)):=by
 have:bfsL m=fun k=>lev m k []:=funext fun k=>Zwq m k
 rw [this]
 exact Zs1 m o []
theorem Zqk {m:Nat} {i:Int} (h:i∈rngI 0 m):0<=i/\i<m:=by
 unfold rngI at h
 obtain ⟨k,hk,rfl⟩:=Px.1 h
 have:=Gz.1 hk
 omega
structure Wok (m:Nat) (L:List Int) (n:Nat):Prop where
 len:L.length<=n
 mem:∀ i∈L,0<=i/\i<m
theorem Zp8 (m:Nat):∀ (o:Nat) (L:List Int) (n:Nat),Wok m L n->∀ x∈wlk m o L,Wok m x (n+o)
 | 0,L,n,h,x,hx=>by
  rw [wlk] at hx
  rw [Tp.1 hx]; exact h
 | o+1,L,n,h,x,hx=>by
  rw [wlk] at hx
  rcases Qx.1 hx with rfl|hx
  ·exact ⟨Qr h.len (Nat.le_add_right _ _),h.mem⟩
  ·obtain ⟨i,hi,hx⟩:=Nb.1 hx
   split at hx
   ·simp at hx
   ·have:=Zp8 m o (L++[i]) (n+1) ⟨by have:=h.len; simp; omega,fun j hj=>by
     rcases List.mem_append.1 hj with hj|hj
     ·exact h.mem j hj
     ·rw [Tp.1 hj]; exact Zqk hi⟩ x hx
    rw [show n+(o+1)=n+1+o by omega]
    exact this
def fndP (f:List Int->Option Pth) (m o:Nat):List Pth:=(wlk m o []).filterMap f
def refL (f:List Int->Option Pth) (m o:Nat):List Pth:=(((Tg (o+1)).flatMap (bfsL m)).filterMap f).foldl putL []
theorem Zi8:∀ (l a:List Pth),a.Pairwise (fun a b=>ordP a b<=0)->(l.foldl putL a).Pairwise (fun a b=>ordP a b<=0)/\(l.foldl putL a).Perm (l++a)
 | [],a,h=>⟨h,.refl _⟩
 | p::l,a,h=>by
  obtain ⟨q1,q2⟩:=Zi8 l (putL a p) (Zo7 h)
  refine ⟨q1,q2.trans ?_⟩
  refine ((Ow l).append (Zt5 a p)).trans ?_
  exact List.perm_middle
theorem Zc8 (f:List Int->Option Pth) (m o:Nat):(refL f m o).Perm (fndP f m o):=by
 have:=(Zi8 (((Tg (o+1)).flatMap (bfsL m)).filterMap f) [] .nil).2
 rw [Wg] at this
 exact this.trans ((Yax m o).symm.filterMap f)
theorem Zin (f:List Int->Option Pth) (m o:Nat):(refL f m o).Pairwise (fun a b=>ordP a b<=0):=(Zi8 _ [] .nil).1
theorem Zke {f:List Int->Option Pth} (hf:∀ L p,f L=some p->p.ss=L) {m o:Nat} {ys:List Pth} (h1:ys.Perm (fndP f m o)) (h2:ys.Pairwise (fun a b=>¬ ordP b a<0)):ys=refL f m o:=by
 refine Zmf (G:=fun p=>f p.ss=some p) (fun a b ha hb e=>?_) (h1.trans (Zc8 f m o).symm) (fun a ha=>?_) (h2.imp fun {a b} h=>?_) (Zin f m o)
 ·rw [e,hb] at ha; cases ha; rfl
 ·have:=h1.subset ha
  obtain ⟨L,hL,e⟩:=Nx.1 this
  rw [hf L a e]; exact e
 ·have:=Zar a b; omega
theorem Yfh (n o:Int):PCall Tryz.prog 30 [I n,I o] ⟨.func 58 [] [.ipt [I o],.ipt [I n]],[]⟩:=by
 refine PCall.frzFns (rows:=[(1,[I n]),(1,[I o])]) (ks:=[(1,[I o]),(0,[I n])]) (by
  intro q hq
  simp only [Qx,List.not_mem_nil,or_false] at hq
  rcases hq with rfl|rfl<;>exact ⟨_,rfl⟩) ?_
 refine bs.pv (sx:=nos) Zd Tryz.func30 (by kernel_rfl) (by kernel_rfl) rfl ?_
 repeat'(first|refine wk3 ?_|(refine wk2 ?_ ?_<;>intro _)|refine wk4 ?_|fail);all_goals(conv=>whnf)
 exact Xg [0,1] rfl rfl rfl
def wlkB (m:Nat):Nat->Nat
 | 0=>1
 | o+1=>1+m*wlkB m o
theorem Zkw {α β:Type} {f:α->List β} {B:Nat}:∀ l:List α,(∀ x∈l,(f x).length<=B)->(l.flatMap f).length<=l.length*B
 | [],_=>by simp
 | a::l,h=>by
  have h1:=h a (by simp)
  have h2:=Zkw l fun x hx=>h x (by simp [hx])
  rw [Su,Ti,Sf,Nat.add_mul,Nat.one_mul]
  omega
theorem Zou (m:Nat):∀ (o:Nat) (L:List Int),(wlk m o L).length<=wlkB m o
 | 0,L=>by simp [wlk,wlkB]
 | o+1,L=>by
  have:=Zkw (f:=fun i=>if L.getLast?=some i then [] else wlk m o (L++[i])) (B:=wlkB m o) (rngI 0 m) fun i _=>by
   split
   ·simp
   ·exact Zou m o _
  rw [wlk,Sf,wlkB]
  have hl:(rngI 0 m).length=m:=by simp [rngI]
  rw [hl] at this
  omega
theorem Zyg (f:List Int->Option Pth) {m o:Nat} (hm:m<900) (ho:o<=2):(fndP f m o).length<900000:=by
 have h1:(fndP f m o).length<=(wlk m o []).length:=Kx _ _
 have h2:=Zou m o []
 have h3:wlkB m o<=1+m+m*m:=by
  obtain rfl|rfl|rfl:o=0\/o=1\/o=2:=by omega
  ·simp [wlkB]; omega
  ·simp [wlkB]
  ·simp [wlkB,Nat.mul_add]; omega
 have h4:m*m<=899*899:=Hq (by omega) (by omega)
 omega
theorem Zym {P:Program} {f:FuncId} {fn:Func} (hf:P.funcs[f]?=some fn) (h1:(fn.name == "runtime.NumGoroutine")=false) (h2:fn.body.isNone=false) (args:Array Value) (w:World):(callFunc f args).run P w = .ok (.enter f args) w:=by
 have q2' : ¬ fn.name = "runtime.NumGoroutine" := by simpa using h1
 have q3' : ¬ fn.body=none:=by intro h; rw [h] at h2; simp at h2
 simp [callFunc,hf,q2',q3']
theorem Ydu:FnOK Tryz.prog 32:=FnOK.of Tryz.func32 (by kernel_rfl) (by kernel_rfl)
abbrev gcP (p:Pth):List AV:=[.isl 1 (nl p.ss),.isl 4 (p.ps.map hp4),I p.sq]
def Ye7:FuncId->Bool:=fun f=>Nat.beq f 32
noncomputable def kAll (h:Hal) (s:Stg) (fx fy fz tx ty tz n:Int):PC:=ins 28 (oneA [h.av,s.av,.agg [I fx,I fy,I fz,I tx,I ty,I tz,I n]] ⟨I 0,[]⟩) (ins 29 (oneA [h.av] ⟨.tup [.isl 1 (sl (surf h)),I 0],[]⟩) (ins 30 (oneA [I (sl (surf h)).length,I n] ⟨.func 58 [] [.ipt [I n],.ipt [I (nsN h:Nat)]],[]⟩) pt0))
theorem d55 {h:Hal} (hk:h.ok) {s:Stg} (hs:s.few) (hS:SortsK Tryz.prog 32 3) (a:Ask) (e:askE h s a=0) (hn:a.n<3) (hN:nsN h<900) :
  PCall Tryz.prog 11 [h.av,s.av,a.av] ⟨.tup [.isl 3 ((refL (Yr h s (qF a) (qT a)) (nsN h) a.n.toNat).map gcP),I 0],[]⟩:=by
 have A:=Xz e
 have he:=Zfh A.e0
 have h24:=d24 hk hs a
 rw [e] at h24
 have h112:=c64 hk
 rw [if_pos he,he] at h112
 obtain ⟨fx,fy,fz,tx,ty,tz,n⟩:=a
 dsimp only at hn
 have hkA:PCOK Tryz.prog (kAll h s fx fy fz tx ty tz n):=Ze2 h24 (Ze2 h112 (Ze2 (by rw [<-Zxg]; exact Yfh _ n) Zd))
 unfold kAll at hkA
 have o1:=Zcb [h.av,s.av,.agg [I fx,I fy,I fz,I tx,I ty,I tz,I n]] ⟨I 0,[]⟩
 have o2:=Zcb [h.av] ⟨.tup [.isl 1 (sl (surf h)),I 0],[]⟩
 have o3:=Zcb [I (sl (surf h)).length,I n] ⟨.func 58 [] [.ipt [I n],.ipt [I (nsN h:Nat)]],[]⟩
 refine Lt (res:=if (refL (Yr h s (fx,fy,fz) (tx,ty,tz)) (nsN h) n.toNat)=[] then ⟨.tup [.nils,I 0],[]⟩ else ⟨.tup [.asl 0 0 (refL (Yr h s (fx,fy,fz) (tx,ty,tz)) (nsN h) n.toNat).length,I 0],[(3,(refL (Yr h s (fx,fy,fz) (tx,ty,tz)) (nsN h) n.toNat).map gcP)]⟩) ?_ ?_
 rotate_left
 ·split<;>rename_i hre
  ·rw [hre]; exact ⟨rfl,⟨rfl,rfl⟩,trivial⟩
  ·refine ⟨⟨rfl,rfl,?_⟩,⟨rfl,rfl⟩,trivial⟩
   exact (Ss _).symm
 refine bs.pv (sx:=Ye7) hkA Tryz.func11 (by kernel_rfl) (by kernel_rfl) (by split<;>rfl) ?_
 repeat'(first|refine wk3 ?_|(refine wk2 ?_ ?_<;>intro _)|refine wk4 ?_|fail);all_goals(conv=>whnf)
 obtain ⟨f,hf⟩:∃ f,f=Yr h s (fx,fy,fz) (tx,ty,tz):=⟨_,rfl⟩
 have hfs:∀ L p,f L=some p->p.ss=L:=fun L p hp=>by rw [hf] at hp; exact Zdy hp
 have hfr:∀ L:List Int,Wok (nsN h) L 2->Zop Tryz.prog 31 [.agg (stgL h s),.agg [I fx,I fy,I fz,I tx,I ty,I tz,I n],.isl 1 (nl1 L)] (ansP (f L)):=fun L hL=>by
  rw [hf]
  exact d65f hk hs e (by have:=hL.len; omega) (fun i hi=>by have:=hL.mem i hi; rw [Zzz] at this; exact this)
 rw [<-hf]
 have hn2:n.toNat<=2:=by omega
 have hwok:∀ L∈wlk (nsN h) n.toNat [],Wok (nsN h) L 2:=fun L hL=>by
  have:=Zp8 (nsN h) n.toNat [] 0 ⟨Qd _,by simp⟩ L hL
  exact ⟨by have:=this.len; omega,this.mem⟩
 have hcnt:=Zyg f (m:=nsN h) (o:=n.toNat) hN hn2
 have hit:Zoq Tryz.prog 58 [] [.ipt [I n],.ipt [I (nsN h:Nat)]] (lsX (wlk (nsN h) n.toNat [])):=by
  have hN:nsN h<1000:=by omega
  have hn0:=A.n.1
  dsimp only at hn0
  obtain rfl|rfl|rfl:n=0\/n=1\/n=2:=by omega
  ·exact Yb4 _ hN
  ·exact Yb3 _ hN
  ·exact Yb2 _ hN
 refine Rg.ren (env2:=[(5,.ptr 2 0 0),(11,.ptr 3 0 0),(12,.ptr 4 0 0),(35,.func 58 [] [.ipt [I n],.ipt [I (nsN h:Nat)]])]) (σ2:=⟨[(4,.row 11 [stgL h s] true false),(3,.row 1 [[.nils]] true false),(2,.row 7 [[I fx,I fy,I fz,I tx,I ty,I tz,I n]] true false)],5⟩) (Ren.of [] rfl (kps) (kps)) ?_
 refine rngT hit rfl rfl rfl rfl (Ztu (S:=Nat × Nat × List (List AV)) (fun t=>gz 5 3 t.1 t.2.2 [(4,.row 11 [stgL h s] true false),(3,.row 1 [[gv 5 t.1 t.2.1]] true false),(2,.row 7 [[I fx,I fy,I fz,I tx,I ty,I tz,I n]] true false)]) 5 (fun t=>nm2 5 6 t.1)
  (fun xs t=>∃ (Ls:List (List Int)) (ds:List Pth),xs=lsX Ls/\(∀ L∈Ls,Wok (nsN h) L 2)/\t.1=ds.length/\t.2.1=t.2.2.length/\t.2.2=ds.map gcP/\ds++Ls.filterMap f=fndP f (nsN h) n.toNat) ?_ ?_ _ (0,0,[]) ⟨wlk (nsN h) n.toNat [],[],rfl,?_,rfl,rfl,rfl,rfl⟩)
 ·rintro x xs ⟨k,len,els⟩ ⟨Ls,ds,hxs,hok,hkd,hlen,hels,hfd⟩
  dsimp only at hkd hlen hels ⊢
  cases Ls with
  | nil=>cases hxs
  | cons L Ls =>
   cases hxs
   refine ⟨⟨rfl,rfl⟩,fun ys hys hsl=>?_⟩
   obtain ⟨y,rfl⟩:∃ y,ys = #[y]:=by
    obtain ⟨l⟩:=ys
    match l,hys with
    | [y],_=>exact ⟨y,rfl⟩
   obtain ⟨sa,sn,sc,rfl⟩:=hsl 0 _ rfl
   have hr:=hfr L (hok L (by simp))
   rw [List.filterMap_cons] at hfd
   have e4:els.length<900000:=by
    rw [<-hfd,Ti] at hcnt
    rw [hels,Ss]; omega
   cases hp:f L with
   | none =>
    rw [hp] at hfd hr
    cases k with
    | zero =>
     refine bs.av (sx:=nos) hkA ?_
     conv=>whnf
     repeat'(first|refine wk3 ?_|(refine wk2 ?_ ?_<;>intro _)|refine wk4 ?_|fail);all_goals(conv=>whnf)
     refine Zd8 (Zh1 (Zck (Zf2 (sx:=nos) bs.hT bs.hok hkA) rfl ?_))
     conv=>whnf
     repeat'(first|refine wk3 ?_|(refine wk2 ?_ ?_<;>intro _)|refine wk4 ?_|fail);all_goals(conv=>whnf)
     refine Qbl ⟨[.agg (stgL h s),.agg [I fx,I fy,I fz,I tx,I ty,I tz,I n],.isl 1 (nl1 L)],_,⟨.inl rfl,.inl rfl,.inr ⟨⟨sa,sn,sc,rfl,rfl⟩,rfl⟩,trivial⟩,rfl,hr,?_⟩
     conv=>whnf
     repeat'(first|refine wk3 ?_|(refine wk2 ?_ ?_<;>intro _)|refine wk4 ?_|fail);all_goals(conv=>whnf)
     refine bs.av (sx:=nos) hkA ?_
     conv=>whnf
     repeat'(first|refine wk3 ?_|(refine wk2 ?_ ?_<;>intro _)|refine wk4 ?_|fail);all_goals(conv=>whnf)
     exact Qo ⟨(0,len,els),[],rfl,kps,Ls,ds,rfl,fun L hL=>hok L (by simp [hL]),hkd,hlen,hels,hfd⟩
    | succ k =>
     refine bs.av (sx:=nos) hkA ?_
     conv=>whnf
     repeat'(first|refine wk3 ?_|(refine wk2 ?_ ?_<;>intro _)|refine wk4 ?_|fail);all_goals(conv=>whnf)
     refine Zd8 (Zh1 (Zck (Zf2 (sx:=nos) bs.hT bs.hok hkA) rfl ?_))
     conv=>whnf
     repeat'(first|refine wk3 ?_|(refine wk2 ?_ ?_<;>intro _)|refine wk4 ?_|fail);all_goals(conv=>whnf)
     refine Qbl ⟨[.agg (stgL h s),.agg [I fx,I fy,I fz,I tx,I ty,I tz,I n],.isl 1 (nl1 L)],_,⟨.inl rfl,.inl rfl,.inr ⟨⟨sa,sn,sc,rfl,rfl⟩,rfl⟩,trivial⟩,rfl,hr,?_⟩
     conv=>whnf
     repeat'(first|refine wk3 ?_|(refine wk2 ?_ ?_<;>intro _)|refine wk4 ?_|fail);all_goals(conv=>whnf)
     refine bs.av (sx:=nos) hkA ?_
     conv=>whnf
     repeat'(first|refine wk3 ?_|(refine wk2 ?_ ?_<;>intro _)|refine wk4 ?_|fail);all_goals(conv=>whnf)
     exact Qo ⟨(k+1,len,els),[(5,5)],rfl,kps,Ls,ds,rfl,fun L hL=>hok L (by simp [hL]),hkd,hlen,hels,hfd⟩
   | some p =>
    rw [hp] at hfd hr
    cases k with
    | zero =>
     refine bs.av (sx:=nos) hkA ?_
     conv=>whnf
     repeat'(first|refine wk3 ?_|(refine wk2 ?_ ?_<;>intro _)|refine wk4 ?_|fail);all_goals(conv=>whnf)
     refine Zd8 (Zh1 (Zck (Zf2 (sx:=nos) bs.hT bs.hok hkA) rfl ?_))
     conv=>whnf
     repeat'(first|refine wk3 ?_|(refine wk2 ?_ ?_<;>intro _)|refine wk4 ?_|fail);all_goals(conv=>whnf)
     refine Qbl ⟨[.agg (stgL h s),.agg [I fx,I fy,I fz,I tx,I ty,I tz,I n],.isl 1 (nl1 L)],_,⟨.inl rfl,.inl rfl,.inr ⟨⟨sa,sn,sc,rfl,rfl⟩,rfl⟩,trivial⟩,rfl,hr,?_⟩
     conv=>whnf
     repeat'(first|refine wk3 ?_|(refine wk2 ?_ ?_<;>intro _)|refine wk4 ?_|fail);all_goals(conv=>whnf)
     refine bs.av (sx:=nos) hkA ?_
     conv=>whnf
     repeat'(first|refine wk3 ?_|(refine wk2 ?_ ?_<;>intro _)|refine wk4 ?_|fail);all_goals(conv=>whnf)
     exact Qo ⟨(1,_,_),[(5,7)],rfl,kps,Ls,ds++[p],rfl,fun L hL=>hok L (by simp [hL]),by rw [Ti,<-hkd]; rfl,rfl,by rw [Of.1 hkd.symm]; rfl,by rw [Rq]; exact hfd⟩
    | succ k =>
     refine bs.av (sx:=nos) hkA ?_
     conv=>whnf
     repeat'(first|refine wk3 ?_|(refine wk2 ?_ ?_<;>intro _)|refine wk4 ?_|fail);all_goals(conv=>whnf)
     refine Zd8 (Zh1 (Zck (Zf2 (sx:=nos) bs.hT bs.hok hkA) rfl ?_))
     conv=>whnf
     repeat'(first|refine wk3 ?_|(refine wk2 ?_ ?_<;>intro _)|refine wk4 ?_|fail);all_goals(conv=>whnf)
     refine Qbl ⟨[.agg (stgL h s),.agg [I fx,I fy,I fz,I tx,I ty,I tz,I n],.isl 1 (nl1 L)],_,⟨.inl rfl,.inl rfl,.inr ⟨⟨sa,sn,sc,rfl,rfl⟩,rfl⟩,trivial⟩,rfl,hr,?_⟩
     conv=>whnf
     repeat'(first|refine wk3 ?_|(refine wk2 ?_ ?_<;>intro _)|refine wk4 ?_|fail);all_goals(conv=>whnf)
     refine bs.av (sx:=nos) hkA ?_
     conv=>whnf
     repeat'(first|refine wk3 ?_|(refine wk2 ?_ ?_<;>intro _)|refine wk4 ?_|fail);all_goals(conv=>whnf)
     exact Qo ⟨(k+1+1,_,_),[(5,8)],rfl,kps,Ls,ds++[p],rfl,fun L hL=>hok L (by simp [hL]),by rw [Ti,<-hkd]; rfl,by exact List.length_append.symm,by rw [Oh,<-hels]; rfl,by rw [Rq]; exact hfd⟩
 ·rintro ⟨k,len,els⟩ ⟨Ls,ds,hxs,hok,hkd,hlen,hels,hfd⟩
  dsimp only at hkd hlen hels ⊢
  cases Ls with
  | cons=>cases hxs
  | nil =>
   rw [List.filterMap_nil,Wg] at hfd
   have hds:∀ d∈ds,d.ss.length<1000000:=fun d hd=>by
    rw [hfd] at hd
    obtain ⟨L,hL,hp⟩:=Nx.1 hd
    rw [hfs L d hp]
    have:=(hwok L hL).len; omega
   rw [<-hfd] at hcnt
   cases k with
   | zero =>
    obtain rfl:ds=[]:=Of.1 hkd.symm
    have hre:refL f (nsN h) n.toNat=[]:=(Zke hfs (ys:=[]) (by rw [<-hfd]) .nil).symm
    rw [hre,if_pos rfl]
    conv=>whnf
    repeat'(first|refine wk3 ?_|(refine wk2 ?_ ?_<;>intro _)|refine wk4 ?_|fail);all_goals(conv=>whnf)
    refine Zxi Ydu hS ?_
    conv=>whnf
    repeat'(first|refine wk3 ?_|(refine wk2 ?_ ?_<;>intro _)|refine wk4 ?_|fail);all_goals(conv=>whnf)
    exact Zf rfl rfl
   | succ k =>
    rw [hels,Ss] at hlen
    subst hels hlen
    conv=>whnf
    repeat'(first|refine wk3 ?_|(refine wk2 ?_ ?_<;>intro _)|refine wk4 ?_|fail);all_goals(conv=>whnf)
    refine Zxh Ydu hS (by decide) (Zym Tryz.func33 (by kernel_rfl) (by kernel_rfl)) gcP (fun _=>rfl) (fun _=>rfl) (fun _=>rfl) ordP (fun a ha b hb=>Zxt (d115 (hds a ha) (hds b hb))) Zxx (by omega) rfl fun ys hp hs=>?_
    obtain rfl:=Zke hfs (by rw [<-hfd]; exact hp) hs
    have hyl:=hp.length_eq
    generalize refL f (nsN h) n.toNat=ys at *
    rw [if_neg (by intro h0; rw [h0,<-hkd] at hyl; cases hyl)]
    conv=>whnf
    repeat'(first|refine wk3 ?_|(refine wk2 ?_ ?_<;>intro _)|refine wk4 ?_|fail);all_goals(conv=>whnf)
    exact Xg [5] rfl (by rw [hyl]; rfl) rfl
 ·exact hwok
theorem Zp9 {n i:Int} (hi:within i 0 n=true):∀ (l:List Int) (q:Option Int),wkG n q l=0->(l.getLast?.or q)≠some i->wkG n q (l++[i])=0
 | [],q,_,hq=>by
  have hq:q≠some i:=hq
  show wkG n q [i]=0
  rw [wkG,if_pos hi,if_neg hq]; rfl
 | x::l,q,h,hq=>by
  rw [wkG] at h
  rw [Tv,wkG]
  split at h
  ·rename_i h1
   rw [if_pos h1]
   split at h
   ·cases h
   ·rename_i h2
    rw [if_neg h2]
    refine Zp9 hi l (some x) h ?_
    cases l with
    | nil=>exact hq
    | cons y l =>
     rw [List.getLast?_cons_cons] at hq
     cases hl:(y::l).getLast? with
     | none=>simp at hl
     | some z=>rw [hl] at hq; exact hq
  ·cases h
theorem Zsz (m:Nat):∀ (o:Nat) (L:List Int),wkG ((m:Int)-1) none L=0->∀ x∈wlk m o L,wkG ((m:Int)-1) none x=0
 | 0,L,h,x,hx=>by
  rw [wlk] at hx
  rw [Tp.1 hx]; exact h
 | o+1,L,h,x,hx=>by
  rw [wlk] at hx
  rcases Qx.1 hx with rfl|hx
  ·exact h
  ·obtain ⟨i,hi,hx⟩:=Nb.1 hx
   split at hx
   ·simp at hx
   ·rename_i hl
    have hr:=Zqk hi
    refine Zsz m o (L++[i]) (Zp9 (within_iff.2 (by omega)) L none h ?_) x hx
    rw [Option.or_none]; exact hl
theorem Zk7 (m:Nat):∀ (o:Nat) (L:List Int),∀ x∈wlk m o L,∃ t,x=L++t
 | 0,L,x,hx=>by
  rw [wlk] at hx
  exact ⟨[],by rw [Tp.1 hx]; simp⟩
 | o+1,L,x,hx=>by
  rw [wlk] at hx
  rcases Qx.1 hx with rfl|hx
  ·exact ⟨[],by simp⟩
  ·obtain ⟨i,hi,hx⟩:=Nb.1 hx
   split at hx
   ·simp at hx
   ·obtain ⟨t,rfl⟩:=Zk7 m o _ x hx
    exact ⟨i::t,by simp⟩
theorem Zr1 (m:Nat):(rngI 0 m).Nodup:=by
 unfold rngI
 rw [List.Nodup,List.pairwise_map]
 exact (List.pairwise_lt_range' (s:=0) (n:=m-0)).imp fun {a b} h e=>by omega
theorem Zl7 (m:Nat):∀ (o:Nat) (L:List Int),(wlk m o L).Nodup
 | 0,L=>by simp [wlk]
 | o+1,L=>by
  rw [wlk,Jv]
  refine ⟨fun h=>?_,?_⟩
  ·obtain ⟨i,hi,hx⟩:=Nb.1 h
   split at hx
   ·simp at hx
   ·obtain ⟨t,e⟩:=Zk7 m o _ _ hx
    have:=congrArg Kl e
    simp at this
  ·rw [List.Nodup,List.pairwise_flatMap]
   refine ⟨fun i _=>?_,(Zr1 m).imp fun {i j} hij x hx y hy e=>?_⟩
   ·split
    ·exact .nil
    ·exact Zl7 m o _
   ·split at hx
    ·simp at hx
    ·split at hy
     ·simp at hy
     ·obtain ⟨t,e1⟩:=Zk7 m o _ _ hx
      obtain ⟨t',e2⟩:=Zk7 m o _ _ hy
      rw [e1,e2,Rq,Rq] at e
      have:=List.append_cancel_left e
      simp at this
      exact hij this.1
theorem Zs0 (m:Nat):∀ (l:List Int) (o:Nat) (L:List Int),wkG ((m:Int)-1) L.getLast? l=0->l.length<=o->L++l∈wlk m o L
 | [],o,L,_,_=>by
  rw [Wg]
  cases o<;>simp [wlk]
 | x::l,0,L,_,ho=>by simp at ho
 | x::l,o+1,L,h,ho=>by
  rw [wkG] at h
  split at h
  ·rename_i h1
   split at h
   ·cases h
   ·rename_i h2
    rw [wlk]
    refine List.mem_cons_of_mem _ (Nb.2 ⟨x,?_,?_⟩)
    ·have:=within_iff.1 h1
     unfold rngI
     refine Px.2 ⟨x.toNat,Gz.2 ⟨Qm _,by omega⟩,by omega⟩
    ·rw [if_neg h2]
     have:=Zs0 m l o (L++[x]) (by rw [List.getLast?_append]; exact h) (by simpa using ho)
     rwa [Rq] at this
  ·cases h
def cntS (l:List Int) (L:List Pth):Nat:=L.countP fun p=>decide (p.ss=l)
theorem Zob {l:List Int}:∀ {xs:List (List Int)},xs.Nodup->l∈xs->(xs.countP fun x=>decide (x=l))=1
 | [],_,h=>by simp at h
 | x::xs,hn,h=>by
  obtain ⟨h1,h2⟩:=Jv.1 hn
  rw [List.countP_cons]
  by_cases e:x=l
  ·subst e
   rw [if_pos (by simp),Lj.2 (fun y hy=>by
    intro hd
    exact h1 ((of_decide_eq_true hd) ▸ hy))]
  ·rcases Qx.1 h with h|h
   ·exact absurd h.symm e
   ·rw [Zob h2 h,if_neg (by simpa using e)]
theorem Zwf {f:List Int->Option Pth} (hf:∀ L p, f L=some p->p.ss=L) {m o:Nat} {l:List Int} (hw:wkG ((m:Int)-1) none l=0) (ho:l.length<=o):cntS l (refL f m o)=if (f l).isSome then 1 else 0 := by
  unfold cntS
  rw [(Zc8 f m o).countP_eq]
  unfold fndP
  rw [List.countP_filterMap]
  have hm:l∈wlk m o [] := by
    have := Zs0 m l o [] hw ho
    rwa [Tt] at this
  cases e:f l with
  | some q =>
    rw [<-Zob (Zl7 m o []) hm]
    have:(fun a => ((f a).map fun p => decide (p.ss=l)).getD false)=fun x => decide (x=l) := by
      funext L
      cases h:f L with
      | none =>
        have:L≠l := fun k => by rw [k, e] at h; cases h
        simp [this]
      | some p => rw [<-hf L p h]; rfl
    first
      | (rw [this]; rfl)
      | (refine List.countP_congr fun L _ => ?_
         cases h:f L with
         | none =>
           have:L≠l := fun k => by rw [k, e] at h; cases h
           simp [this]
         | some p => have := hf L p h; simp [this])
  | none =>
    refine Lj.2 fun L _ => ?_
    cases h:f L with
    | none => simp
    | some p =>
      have := hf L p h
      have:L≠l := fun k => by rw [k, e] at h; cases h
      simp_all
theorem Zwg {l:List Int} {L:List Pth} {k:Nat} (hk:k<L.length):cntS l (L.take (k+1))=cntS l (L.take k)+if L[k].ss=l then 1 else 0:=by
 unfold cntS
 rw [List.take_succ_eq_append_getElem hk,List.countP_append,List.countP_singleton]
 simp
theorem Zti {a b c x y z:Int} (h1:Near 45000 (a,b,c)) (h2:Near 5000 (x,y,z)):sqV a b c x y z=(a-x)*(a-x)+(b-y)*(b-y)+(c-z)*(c-z)/\sqV a b c x y z<=24300000000:=by
 obtain ⟨p1,p2,p3⟩:=h1
 obtain ⟨r1,r2,r3⟩:=h2
 dsimp only at p1 p2 p3 r1 r2 r3
 have k:∀ u v:Int,(-45000<=u/\u<=45000)->(-5000<=v/\v<=5000)->Qa Qb (u-v)=u-v/\(0<=(u-v)*(u-v)/\(u-v)*(u-v)<=2500000000)/\Qa Qb (Qa Qb (u-v)*Qa Qb (u-v))=(u-v)*(u-v):=fun u v hu hv=>by
  have e1:Qa Qb (u-v)=u-v:=W_eq (by omega) (by omega)
  have e2:0<=(u-v)*(u-v)/\(u-v)*(u-v)<=2500000000:=by
   generalize hd:u-v=d
   have hd1 : -50000<=d:=by omega
   have hd2:d<=50000:=by omega
   constructor
   ·rcases Int.le_total 0 d with h|h
    ·exact Tk h h
    ·have:=Tk (show 0 <= -d by omega) (show 0 <= -d by omega)
     rwa [Df] at this
   ·have:=Tk (show 0<=50000-d by omega) (show 0<=50000+d by omega)
    have e:(50000-d)*(50000+d)=2500000000-d*d:=by rw [Int.mul_add,Ma,Ma]; omega
    omega
  exact ⟨e1,e2,by rw [e1]; exact W_eq (by omega) (by omega)⟩
 obtain ⟨_,a1,a2⟩:=k a x p1 r1
 obtain ⟨_,b1,b2⟩:=k b y p2 r2
 obtain ⟨_,c1,c2⟩:=k c z p3 r3
 unfold sqV
 rw [a2,b2,c2]
 rw [W_eq (n:=(a-x)*(a-x)+(b-y)*(b-y)) (by omega) (by omega),W_eq (by omega) (by omega)]
 exact ⟨rfl,by omega⟩
theorem Zba {d:Int} (h:d≠0):1<=d*d:=by
 rcases Int.lt_trichotomy d 0 with h1|h1|h1
 ·have:=Qab (show (1:Int) <= -d by omega) (show (1:Int) <= -d by omega) (by omega) (by omega)
  rw [Df] at this; omega
 ·exact absurd h1 h
 ·have:=Qab (show (1:Int)<=d by omega) (show (1:Int)<=d by omega) (by omega) (by omega)
  omega
theorem Zld (d:Int):0<=d*d:=by
 by_cases h:d=0
 ·subst h; omega
 ·have:=Zba h; omega
theorem Ye6 {a b c x y z:Int} (h:¬ (a=x/\b=y/\c=z)):1<=(a-x)*(a-x)+(b-y)*(b-y)+(c-z)*(c-z):=by
 have h1:=Zld (a-x)
 have h2:=Zld (b-y)
 have h3:=Zld (c-z)
 by_cases e1:a=x
 ·by_cases e2:b=y
  ·have:=Zba (d:=c-z) (by intro k; exact h ⟨e1,e2,by omega⟩); omega
  ·have:=Zba (d:=b-y) (by omega); omega
 ·have:=Zba (d:=a-x) (by omega); omega
theorem Yda (x:Int):0<=sgn x*sgn x:=Zld _
theorem Zxw {h:Hal} {s:Stg} (g:Sit h s) (e0:serr h s=0) {q0 q1:Pl3} (hf:Near 5000 q0) (ht:Near 5000 q1) (hne:q0≠q1) {ns:List Int} (hl:ns.length<=4) (hi:∀ n∈ns,0<=n/\n<nsur h) {p:Pth} (e:Yr h s q0 q1 ns=some p):1<=p.sq/\p.sq<=24300000000:=by
 have hn:=Zlr g hf hl (Yc9 hi) ns.length (Qd _)
 have hn:Near 45000 (imA (im1 h s) q0 ns ns.length):=Zat (by omega) hn
 have hs:imA (im1 h s) q0 ns ns.length≠q1:=by
  intro hq
  rw [Zca] at e
  by_cases h0:ns=[]
  ·subst h0
   exact hne hq
  ·have hp:0<ns.length:=List.length_pos_iff.2 h0
   have ht2:=Zlp (f:=im1 h s) (q:=q0) (ns:=ns) (k:=ns.length-1) (by omega)
   rw [show ns.length-1+1=ns.length by omega,List.take_of_length_le (by rw [Zad]; exact Qd _)] at ht2
   rw [ht2,goP,hq] at e
   have hc:=Zn7 g e0 (hi _ (Qs (show ns.length-1<ns.length by omega))) (q:=q1) (Zat (by omega) ht) (to:=pnt q1) (Zfm ht)
   have hz:(fP h s (ns[ns.length-1]'(by omega)) q1 (pnt q1)).2≠0:=by
    show (crsA h s ⟨_,q1.1,q1.2.1,q1.2.2,pnt q1⟩).2≠0
    rw [hc.2.2.1]
    unfold Zaz
    have:crF (Zh h s (ns[ns.length-1]'(by omega))) ⟨ns[ns.length-1]'(by omega),q1.1,q1.2.1,q1.2.2,pnt q1⟩=crG (Zh h s (ns[ns.length-1]'(by omega))) ⟨ns[ns.length-1]'(by omega),q1.1,q1.2.1,q1.2.2,pnt q1⟩:=by
     unfold crF crG pnt
     dsimp only
     rw [Sb]
    rw [this,if_pos (Yda _)]
    show (12:Int)≠0
    decide
   rw [if_neg hz] at e
   cases e
 rw [Zca] at e
 split at e
 ·cases e
 ·split at e
  ·cases e
   obtain ⟨r1,r2⟩:=Zti (a:=(imA (im1 h s) q0 ns ns.length).1) (b:=(imA (im1 h s) q0 ns ns.length).2.1) (c:=(imA (im1 h s) q0 ns ns.length).2.2) (x:=q1.1) (y:=q1.2.1) (z:=q1.2.2) hn ht
   dsimp only
   refine ⟨?_,r2⟩
   rw [r1]
   refine Ye6 ?_
   rintro ⟨k1,k2,k3⟩
   exact hs (Qac k1 (Qac k2 k3))
  ·cases e
theorem Zyk (l:List Pt4):eqP l l=true:=by
 have:=Ztp ⟨[],l,0⟩
 unfold same at this
 simp only [Qc] at this
 exact this.2.2
theorem Ybk {a b:Pth} (h:ordP a b<=0):a.sq<=b.sq:=by
 rw [Zdc] at h
 unfold ordK at h
 rw [cmpL] at h
 rcases Vk a.sq b.sq with ⟨h1,e⟩|⟨h1,e⟩|⟨h1,e⟩
 ·omega
 ·omega
 ·rw [e,if_neg (by decide)] at h; omega
theorem Yar {a:Ask} (h:a.same=false):qF a≠qT a:=by
 intro e
 have e1:a.fx=a.tx:=congrArg (·.1) e
 have e2:a.fy=a.ty:=congrArg (·.2.1) e
 have e3:a.fz=a.tz:=congrArg (·.2.2) e
 unfold Ask.same at h
 simp [e1,e2,e3] at h
theorem Yc6 {h:Hal} {l:List Int} (hl:l.length<=4) (hw:wkG ((nsN h:Int)-1) none l=0):suE h l=0:=by
 unfold suE
 rw [if_neg (by omega),<-Zzz]
 exact hw
theorem Zty {h:Hal} (hk:h.ok) {s:Stg} (hs:s.few) {a:Ask} (e:askE h s a=0) (hn:a.n<3) {p:Pth} (hp:p∈refL (Yr h s (qF a) (qT a)) (nsN h) a.n.toNat) :
  Yr h s (qF a) (qT a) p.ss=some p/\suE h p.ss=0/\p.ss.length<=2/\p.ps.length<=2/\cpE h s a p=0:=by
 have A:=Xz e
 have hn0:=A.n
 have h1:=(Zc8 _ _ _).subset hp
 obtain ⟨L,hL,hf⟩:=Nx.1 h1
 obtain rfl:=Zdy hf
 have hw:=Zp8 (nsN h) a.n.toNat [] 0 ⟨Qd _,by simp⟩ _ hL
 have hg:=Zsz (nsN h) a.n.toNat [] rfl _ hL
 have hl:p.ss.length<=a.n.toNat:=by have:=hw.len; omega
 have hsu:=Yc6 (by omega) hg
 have hps:=Zqp hf
 have hi:=(Zqg hsu).2
 have hsq:=Zxw (Zih hk hs A.e0) A.e0 A.f A.t (Yar A.ne) (by omega) hi hf
 refine ⟨hf,hsu,by omega,by omega,?_⟩
 unfold cpE pthE
 rw [if_pos (show (if (p.ps.length:Int)=p.ss.length then (if 4<(p.ss.length:Int) then 8 else (if within p.sq 1 24300000000 then 0 else 2)) else 10)=(0:Int) by
  rw [if_pos (by omega),if_neg (by omega),if_pos (within_iff.2 hsq)]),if_pos hsu,if_pos (by omega)]
 unfold chkP
 rw [hf]
 dsimp only
 rw [if_pos ⟨rfl,Zyk _⟩]
theorem Zzy {h:Hal} (hk:h.ok) {s:Stg} (e:serr h s=0):nsN h<=18:=by
 have:=(Zgz hk (Zfh e)).le
 unfold nsN; omega
theorem Yba (f:List Int->Option Pth) {m o:Nat} (hm:m<=18) (ho:o<=2):(refL f m o).length<=343:=by
 rw [(Zc8 f m o).length_eq]
 have h1:(fndP f m o).length<=(wlk m o []).length:=Kx _ _
 have h2:=Zou m o []
 have h3:wlkB m o<=1+m+m*m:=by
  obtain rfl|rfl|rfl:o=0\/o=1\/o=2:=by omega
  ·simp [wlkB]; omega
  ·simp [wlkB]
  ·simp [wlkB,Nat.mul_add]; omega
 have h4:m*m<=18*18:=Hq hm hm
 omega
def cmb (p q:Pt) (u v:Int):Pt:=⟨p.x*u+q.x*v,p.y*u+q.y*v,p.z*u+q.z*v,p.d*u+q.d*v⟩
def scl (p:Pt) (w:Int):Pt:=⟨p.x*w,p.y*w,p.z*w,p.d*w⟩
def mU (pl:Int × Int) (p:Pt):Pt :=
 if pl.1=0 then ⟨2*pl.2*p.d-p.x,p.y,p.z,p.d⟩ else if pl.1=1 then ⟨p.x,2*pl.2*p.d-p.y,p.z,p.d⟩ else if pl.1=2 then ⟨p.x,p.y,2*pl.2*p.d-p.z,p.d⟩ else if pl.1=3 then ⟨pl.2*p.d-p.y,pl.2*p.d-p.x,p.z,p.d⟩ else ⟨p.y+pl.2*p.d,p.x-pl.2*p.d,p.z,p.d⟩
def vl (pl:Int × Int) (p:Pt):Int:=valN pl.1 p.x p.y p.z-pl.2*p.d
theorem Zzv {p q:Pt} (h1:p.x=q.x) (h2:p.y=q.y) (h3:p.z=q.z) (h4:p.d=q.d):p=q:=by
 obtain ⟨a,b,c,d⟩:=p
 obtain ⟨x,y,z,w⟩:=q
 dsimp only at *
 subst h1 h2 h3 h4
 rfl
theorem Yc0 {pl:Int × Int} (hk:0<=pl.1/\pl.1<=4) (p:Pt):vl pl (mU pl p) = -vl pl p:=by
 have:pl.1=0\/pl.1=1\/pl.1=2\/pl.1=3\/pl.1=4:=by omega
 unfold vl valN mU
 rcases this with e|e|e|e|e<;>rw [e]<;>simp<;>grind
theorem Yc1 (pl:Int × Int) (p q:Pt) (u v:Int):vl pl (cmb p q u v)=vl pl p*u+vl pl q*v:=by
 unfold vl cmb
 dsimp only
 rw [Zqf]
 grind
theorem Ycz (pl:Int × Int) (p:Pt) (w:Int):vl pl (scl p w)=vl pl p*w:=by
 unfold vl scl
 dsimp only
 rw [Zqe]
 grind
def dst2 (p q:Pt):Int:=(p.x-q.x)*(p.x-q.x)+(p.y-q.y)*(p.y-q.y)+(p.z-q.z)*(p.z-q.z)
theorem Zo8 {h:Hal} {s:Stg} (g:Sit h s) {n:Int} (hi:SK h n) {q:Pl3} (hq:Near 35000 q):pnt (im1 h s n q)=mU (Zh h s n) (pnt q):=by
 obtain ⟨b1,b2⟩:=Zfo g hi
 obtain ⟨x,y,z⟩:=q
 obtain ⟨hx,hy,hz⟩:=hq
 dsimp only at hx hy hz
 unfold im1 mU pnt rmir
 generalize Zh h s n=pl at *
 obtain ⟨k,a⟩:=pl
 dsimp only at *
 repeat' split
 all_goals (refine Zzv ?_ ?_ ?_ ?_<;>dsimp only)
 all_goals (try (rw [W_eq (n:=2*a) (by omega) (by omega)]))
 all_goals (try (rw [W_eq (by omega) (by omega)]))
 all_goals (try omega)
theorem Zyv (n:Int) (f:Pl3) (to:Pt) (u v:Int):crPt ⟨n,f.1,f.2.1,f.2.2,to⟩ u v=cmb (pnt f) to u v:=by
 unfold crPt cmb pnt
 dsimp only
 rw [Int.one_mul]
theorem Yet (pl:Int × Int) (n:Int) (f:Pl3) (to:Pt):crF pl ⟨n,f.1,f.2.1,f.2.2,to⟩=vl pl (pnt f):=by
 unfold crF vl pnt
 dsimp only
 rw [Sb]
theorem Yes (pl:Int × Int) (n:Int) (f:Pl3) (to:Pt):crG pl ⟨n,f.1,f.2.1,f.2.2,to⟩=vl pl to:=rfl
structure Xing (h:Hal) (n:Int) (pl:Int × Int) (f to P:Pt):Prop where
 err:Xc P=0
 on:vl pl P=0
 well:Zho h n P=true
 ends:vl pl f≠0/\vl pl to≠0
 btw:∃ u v w,0<u/\0<v/\0<w/\cmb f to u v=scl P w
theorem Yco {h:Hal} {s:Stg} (g:Sit h s) (e0:serr h s=0) {n:Int} (hn:0<=n/\n<nsur h) {f:Pl3} (hf:Near 45000 f) {to:Pt} (hto:Xc to=0) (hz:(crsA h s ⟨n,f.1,f.2.1,f.2.2,to⟩).2=0) :
  Xing h n (Zh h s n) (pnt f) to (crsA h s ⟨n,f.1,f.2.1,f.2.2,to⟩).1:=by
 obtain ⟨ho,hi,hA,hX⟩:=Zn7 g e0 hn hf hto
 obtain ⟨x1,x2⟩:=hX hz
 rw [hA] at hz x1 x2 ⊢
 unfold Zaz at hz x1 x2 ⊢
 split at hz
 ·cases hz
 ·rename_i hs
  split at hz
  ·rename_i hw
   split at hz
   ·cases hz
   ·rename_i hd
    rw [if_neg hs,if_pos hw,if_neg hd] at x1 x2 ⊢
    dsimp only at x1 x2 ⊢
    obtain ⟨⟨a1,a2⟩,b1,b2⟩:=Zp7 ho hs
    obtain ⟨⟨g1,_⟩,_,_,r1,r2,r3,r4⟩:=Zb7 (Zbs ho hs)
    have h3:=sgn_mul_neg.1 (show sgn (crF (Zh h s n) ⟨n,f.1,f.2.1,f.2.2,to⟩)*sgn (crG (Zh h s n) ⟨n,f.1,f.2.1,f.2.2,to⟩)<0 by omega)
    rw [Yet,Yes] at h3
    refine ⟨x1,by unfold vl; omega,hw,by omega,_,_,_,a1,b1,g1,?_⟩
    rw [<-Zyv n]
    exact (Zzv r1 r2 r3 r4).symm
  ·cases hz
theorem Ztj {q r:Pl3} (h1:Near 45000 q) (h2:Near 5000 r):sqV q.1 q.2.1 q.2.2 r.1 r.2.1 r.2.2=dst2 (pnt q) (pnt r):=(Zti (a:=q.1) (b:=q.2.1) (c:=q.2.2) (x:=r.1) (y:=r.2.1) (z:=r.2.2) h1 h2).1
theorem Zmx {h:Hal} {s:Stg} {q0 q1:Pl3} {ns:List Int} {p:Pth} (e:Yr h s q0 q1 ns=some p):∃ P,goP (fP h s) (lkG (im1 h s) q0 ns).reverse (pnt q1) []=some P/\chkW (wP h s) (pnt q0::P++[pnt q1])=true/\p=⟨ns,P.map tup4,sqV (imA (im1 h s) q0 ns ns.length).1 (imA (im1 h s) q0 ns ns.length).2.1 (imA (im1 h s) q0 ns ns.length).2.2 q1.1 q1.2.1 q1.2.2⟩:=by
 rw [Zca] at e
 split at e
 ·cases e
 ·rename_i P hP
  split at e
  ·rename_i hc
   cases e
   exact ⟨P,hP,hc,rfl⟩
  ·cases e
def Zmv (c:Sea) (x y z:Int):Bool:=decide (c.x=x)&&(decide (c.y=y)&&(decide (c.z=z)&&true))
def seeL (f:Pt->Pt->Bool) (x y z:Int):Nat->List Sea->List Int
 | _,[]=>[]
 | i,c::l=>if Zmv c x y z||f ⟨x,y,z,1⟩ ⟨c.x,c.y,c.z,1⟩ then (i:Int)::seeL f x y z (i+1) l else seeL f x y z (i+1) l
theorem Zlh (f:Pt->Pt->Bool) (x y z:Int):∀ (l:List Sea) (i:Nat),(seeL f x y z i l).length<=l.length
 | [],_=>by simp [seeL]
 | c::l,i=>by
  rw [seeL]
  have:=Zlh f x y z l (i+1)
  split<;>simp<;>omega
noncomputable abbrev frT (h:Hal) (s:Stg):List AV->Option PRes:=famA (fun _:Pt × Pt=>True) (fun w=>[.agg (stgL h s),wayA w.1 w.2]) (fun w=>⟨Bo (Vt h s w.1 w.2),[]⟩)
theorem Ycb {h:Hal} {s:Stg} {p q:Pt}:frT h s [.agg (stgL h s),wayA p q]=some ⟨Bo (Vt h s p q),[]⟩ :=
 Yb (p:=fun _:Pt × Pt=>True) (g:=fun w=>[.agg (stgL h s),wayA w.1 w.2]) (r:=fun w=>⟨Bo (Vt h s w.1 w.2),[]⟩) (k:=(p,q)) (fun j hj=>by
  obtain ⟨⟨a,b,c,d⟩,⟨x,y,z,w⟩⟩:=j
  obtain ⟨a',b',c',d'⟩:=p
  obtain ⟨x',y',z',w'⟩:=q
  simp only [Rb,AV.agg.injEq,AV.int.injEq,true_and,and_true] at hj
  obtain ⟨rfl,rfl,rfl,rfl,rfl,rfl,rfl,rfl⟩:=hj
  rfl) trivial
def seeE (h:Hal) (s:Stg) (x y z:Int):Int:=if serr h s=0 then Zgp h x y z else serr h s
theorem Zto {h:Hal} {s:Stg} {x y z:Int} (h0:seeE h s x y z=0):serr h s=0/\Zgp h x y z=0:=by
 unfold seeE at h0
 split at h0
 ·rename_i h1; exact ⟨h1,h0⟩
 ·rename_i h1; exact absurd h0 h1
theorem c68o {h:Hal} (hk:h.ok) {s:Stg} (hs:s.few) {x y z:Int} (h0:seeE h s x y z=0):PCall Tryz.prog 7 [h.av,s.av,P3 x y z] ⟨.tup [.isl 1 (nl (seeL (Vt h s) x y z 0 h.ss)),I 0],[]⟩:=by
 obtain ⟨z1,z2⟩:=Zto h0
 have g:=Zih hk hs z1
 have a83:=c83 hk hs
 have a160:=c160 hk.f x y z
 rw [z1] at a83
 rw [z2] at a160
 have hk0:PCOK Tryz.prog (ins 25 (frT h s) (ins 23 (one [h.av,s.av] ⟨.tup [.agg (stgL h s),I 0],[]⟩) (ins 24 (one [h.av,P3 x y z] ⟨I 0,[]⟩) kG4))):=Xa (fun w _=>c103 g w.1 w.2) (Ze a83 (Ze a160 Ua))
 have hlen:=Zlh (Vt h s) x y z h.ss 0
 have f5:=hk.f.2.2.2.2.1
 have l5:=Zak h.ss
 generalize hL:seeL (Vt h s) x y z 0 h.ss=L at *
 refine Lt (res:=lstR L fun v=>.tup [v,I 0]) ?_ (by
  cases L with
  | nil=>exact ⟨rfl,⟨rfl,rfl⟩,trivial⟩
  | cons a l=>exact ⟨⟨rfl,rfl,rfl⟩,⟨rfl,rfl⟩,trivial⟩)
 refine bs.pv (sx:=nos) hk0 Tryz.func7 (by kernel_rfl) (by kernel_rfl) (by cases L<;>rfl) ?_
 repeat'(first|refine wk3 ?_|(refine wk2 ?_ ?_<;>intro _)|refine wk4 ?_|fail);all_goals(conv=>whnf)
 refine Zz (S:=Nat × Int × Nat × Nat × List (List AV) × List Int) (fun t=>h.ss.length-t.1) (fun t=>[(5,.ptr 2 0 0),(8,.ptr 3 0 0),(10,gv 4 t.2.2.1 t.2.2.2.1),(31,.isl 4 (h.ss.map Sea.av)),(32,I (h.ss.map Sea.av).length),(33,I t.2.1)]) (fun t=>gz 4 1 t.2.2.1 t.2.2.2.2.1 [(3,.row 11 [stgL h s] true false),(2,.row 3 [[I x,I y,I z]] true false)]) 4 5
  (fun t=>t.2.1=t.1/\t.1<=h.ss.length/\t.2.2.2.1=t.2.2.2.2.1.length/\t.2.2.2.2.1=nl t.2.2.2.2.2/\(t.2.2.1=0↔t.2.2.2.2.2=[])/\t.2.2.2.2.2.length<=t.1/\t.2.2.2.2.2++seeL (Vt h s) x y z t.1 (h.ss.drop t.1)=L) (0,0,0,0,[],[]) ⟨rfl,Qm _,rfl,rfl,by simp,Qm _,hL⟩ (Qd _) [] rfl (kps) (kps) ?_
 clear hL
 rintro ⟨k,i,m,len,els,acc⟩ ⟨hi,hkk,hlen2,hels,hm,hacc,hh⟩
 dsimp only at hi hkk hlen2 hels hm hacc hh ⊢
 subst hi
 refine bs.av (sx:=nos) hk0 ?_
 have e4:els.length<2000:=by rw [hels,Zl]; omega
 by_cases hlt:k<h.ss.length
 ·have e1:=Zkf hlt
  rw [Qi hlt,seeL] at hh
  generalize h.ss[k]=c at *
  have hf:=Ycb (h:=h) (s:=s) (p:=⟨x,y,z,1⟩) (q:=⟨c.x,c.y,c.z,1⟩)
  have hpe:Zmv c x y z=(decide (c.x=x)&&(decide (c.y=y)&&(decide (c.z=z)&&true))):=rfl
  generalize Vt h s ⟨x,y,z,1⟩ ⟨c.x,c.y,c.z,1⟩=fr at *
  rw [hpe] at hh
  clear hpe a83 a160 g
  generalize hb:(decide (c.x=x)&&(decide (c.y=y)&&(decide (c.z=z)&&true))||fr)=b at hh
  cases b with
  | true =>
   rw [if_pos rfl] at hh
   cases m with
   | zero =>
    have h0:acc=[]:=hm.1 rfl
    subst h0
    repeat'(first|refine wk3 ?_|(refine wk2 ?_ ?_<;>intro _)|refine wk4 ?_|fail);all_goals(conv=>whnf)
    clear hf e1 hk0
    all_goals first
     | (exfalso; clear hh; simp_all; done)
     | exact Qo ⟨(k+1,_,1,_,_,[(k:Int)]),[(4,21)],rfl,kps,kps,⟨Zi (by omega),hlt,rfl,rfl,by simp,by dsimp only [Sf,List.length_nil]; omega,hh⟩,by dsimp only; omega⟩
   | succ m =>
    repeat'(first|refine wk3 ?_|(refine wk2 ?_ ?_<;>intro _)|refine wk4 ?_|fail);all_goals(conv=>whnf)
    clear hf e1 hk0
    all_goals first
     | (exfalso; clear hh; simp_all; done)
     | exact Qo ⟨(k+1,_,m+2,_,_,acc++[(k:Int)]),[(4,21)],rfl,kps,kps,⟨Zi (by omega),hlt,by exact List.length_append.symm,by show _=nl _; rw [Zui,<-hels]; rfl,by simp,by simp; omega,by rw [Rq]; exact hh⟩,by dsimp only; omega⟩
  | false =>
   simp only [Bool.false_eq_true,if_false] at hh
   cases m with
   | zero =>
    have h0:acc=[]:=hm.1 rfl
    subst h0
    repeat'(first|refine wk3 ?_|(refine wk2 ?_ ?_<;>intro _)|refine wk4 ?_|fail);all_goals(conv=>whnf)
    clear hf e1 hk0
    all_goals first
     | (exfalso; clear hh; simp_all; done)
     | exact Qo ⟨(k+1,_,0,len,els,[]),[],rfl,kps,kps,⟨Zi (by omega),hlt,hlen2,hels,hm,by simp,hh⟩,by dsimp only; omega⟩
   | succ m =>
    repeat'(first|refine wk3 ?_|(refine wk2 ?_ ?_<;>intro _)|refine wk4 ?_|fail);all_goals(conv=>whnf)
    clear hf e1 hk0
    all_goals first
     | (exfalso; clear hh; simp_all; done)
     | exact Qo ⟨(k+1,_,m+1,len,els,acc),[(4,4)],rfl,kps,kps,⟨Zi (by omega),hlt,hlen2,hels,hm,by dsimp only; omega,hh⟩,by dsimp only; omega⟩
 ·rw [Qj (by omega),seeL,Wg] at hh
  subst hh
  cases m with
  | zero =>
   have h0:acc=[]:=hm.1 rfl
   subst h0
   repeat'(first|refine wk3 ?_|(refine wk2 ?_ ?_<;>intro _)|refine wk4 ?_|fail);all_goals(conv=>whnf)
   exact Zf rfl rfl
  | succ m =>
   subst hels
   subst hlen2
   cases acc with
   | nil=>have:=hm.2 rfl; omega
   | cons a l =>
    repeat'(first|refine wk3 ?_|(refine wk2 ?_ ?_<;>intro _)|refine wk4 ?_|fail);all_goals(conv=>whnf)
    exact Xg [4] rfl rfl rfl
theorem Ycm {pl:Int × Int} (hk:0<=pl.1/\pl.1<=4) {p q:Pt} (hp:p.d=1) (hq:q.d=1):dst2 (mU pl p) q=dst2 p q+(if pl.1<=2 then 4 else 2)*(vl pl p*vl pl q):=by
 obtain ⟨k,a⟩:=pl
 obtain ⟨x,y,z,d⟩:=p
 obtain ⟨u,v,w,e⟩:=q
 dsimp only at hk hp hq
 subst hp hq
 obtain rfl|rfl|rfl|rfl|rfl:k=0\/k=1\/k=2\/k=3\/k=4:=by omega
 all_goals
  simp only [dst2,mU,vl,valN]
  simp (decide:=true) only [if_true,if_false]
  grind
theorem Ybm {h:Hal} {s:Stg} (g:Sit h s) (e0:serr h s=0) {q0 q1:Pl3} (hf:Near 5000 q0) (ht:Near 5000 q1) {n:Int} (hn:0<=n/\n<nsur h) {p d:Pth} (hp:Yr h s q0 q1 [n]=some p) (hd:Yr h s q0 q1 []=some d):d.sq<p.sq:=by
 have hsk:=Zo3 hn.1 hn.2
 have hk:=(Zfo g hsk).1
 have hA:=Zat (m:=45000) (by omega) (Zls g hsk (by omega) hf).1
 obtain ⟨P,hP,_,rfl⟩:=Zmx hp
 obtain ⟨Q,hQ,_,rfl⟩:=Zmx hd
 have hP:goP (fP h s) [(n,im1 h s n q0)] (pnt q1) []=some P:=hP
 rw [goP] at hP
 split at hP
 ·rename_i hz
  have hz:(crsA h s ⟨n,(im1 h s n q0).1,(im1 h s n q0).2.1,(im1 h s n q0).2.2,pnt q1⟩).2=0:=hz
  have X:=Yco g e0 hn hA (Zfm ht) hz
  show sqV q0.1 q0.2.1 q0.2.2 q1.1 q1.2.1 q1.2.2<sqV (im1 h s n q0).1 (im1 h s n q0).2.1 (im1 h s n q0).2.2 q1.1 q1.2.1 q1.2.2
  rw [Ztj (Zat (by omega) hf) ht,Ztj hA ht,Zo8 g hsk (Zat (by omega) hf),Ycm hk rfl rfl]
  obtain ⟨u,v,w,hu,hv,hw,hc⟩:=X.btw
  have h1:=congrArg (vl (Zh h s n)) hc
  rw [Yc1,Ycz,X.on,Int.zero_mul,Zo8 g hsk (Zat (by omega) hf),Yc0 hk] at h1
  have n1:=X.ends.1
  have n2:=X.ends.2
  rw [Zo8 g hsk (Zat (by omega) hf),Yc0 hk] at n1
  generalize vl (Zh h s n) (pnt q0)=a at *
  generalize vl (Zh h s n) (pnt q1)=b at *
  have hpos:0<a*b:=by
   rcases Kf (show a≠0 by omega) with c|c
   ·have:b<0:=by
     rcases Kf n2 with c2|c2
     ·exact c2
     ·have:=Pc c2 hv
      have:=Nd c hu
      rw [Tq] at h1
      omega
    exact Int.mul_pos_of_neg_of_neg c this
   ·have:0<b:=by
     rcases Kf n2 with c2|c2
     ·have:=Nd c2 hv
      have:=Pc c hu
      rw [Tq] at h1
      omega
     ·exact c2
    exact Pc c this
  split<;>omega
 ·cases hP
theorem Zv5 {h:Hal} (hk:h.ok) {s:Stg} (hs:s.few) {a:Ask} (e:askE h s a=0) (hn:a.n=1) {k:Nat} (hl:k<(refL (Yr h s (qF a) (qT a)) (nsN h) 1).length) (hz:(refL (Yr h s (qF a) (qT a)) (nsN h) 1)[k].ss=[]):k=0:=by
 have A:=Xz e
 have g:=Zih hk hs A.e0
 have hfa:∀ p,p∈refL (Yr h s (qF a) (qT a)) (nsN h) 1->Yr h s (qF a) (qT a) p.ss=some p/\suE h p.ss=0/\p.ss.length<=1:=fun p hp=>by
  have hp' : p∈refL (Yr h s (qF a) (qT a)) (nsN h) a.n.toNat:=by rw [hn]; exact hp
  obtain ⟨f1,f2,f3,f4,f5⟩:=Zty hk hs e (by omega) hp'
  refine ⟨f1,f2,?_⟩
  have h1:=(Zc8 _ _ _).subset hp
  obtain ⟨L,hL,hf⟩:=Nx.1 h1
  obtain rfl:=Zdy hf
  have hw:=Zp8 (nsN h) 1 [] 0 ⟨Qd _,by simp⟩ _ hL
  have:=hw.len
  omega
 have hnd:cntS [] (refL (Yr h s (qF a) (qT a)) (nsN h) 1)<=1:=by
  rw [Zwf (fun L p hp=>Zdy hp) rfl (by simp)]
  split<;>omega
 have hso:=Zin (Yr h s (qF a) (qT a)) (nsN h) 1
 generalize refL (Yr h s (qF a) (qT a)) (nsN h) 1=l at *
 by_cases h0:k=0
 ·exact h0
 exfalso
 have h1:=Ybk (Nf.1 hso 0 k (by omega) hl (by omega))
 obtain ⟨f1,f2,f3⟩:=hfa l[0] (Qs _)
 obtain ⟨g1,g2,g3⟩:=hfa l[k] (Qs _)
 rw [hz] at g1
 match hss:l[0].ss,f3 with
 | [],_ =>
  have:2<=cntS [] l:=by
   have e1:l=l[0]::l.drop 1:=by
    have:=Qi (l:=l) (i:=0) (by omega)
    rw [Ts] at this; exact this
   have m2:l[k]∈l.drop 1:=by
    refine Pd.2 ⟨k-1,by rw [Oz]; omega,?_⟩
    rw [Gy]
    congr 1; omega
   have c2:0<cntS [] (l.drop 1):=List.countP_pos_iff.2 ⟨_,m2,by rw [hz]; rfl⟩
   rw [e1]
   unfold cntS at c2 ⊢
   rw [List.countP_cons_of_pos (by rw [hss]; rfl)]
   omega
  omega
 | [n],_ =>
  rw [hss] at f1 f2
  have hi:=(Zqg f2).2 n (by simp)
  have:=Ybm g A.e0 A.f A.t hi f1 g1
  omega
theorem Zys {h:Hal} {s:Stg} (q0 q1:Pl3):(Yr h s q0 q1 []).isSome=wP h s (pnt q0) (pnt q1):=by
 have e:Yr h s q0 q1 []=if (wP h s (pnt q0) (pnt q1)&&true)=true then some ⟨[],[],sqV q0.1 q0.2.1 q0.2.2 q1.1 q1.2.1 q1.2.2⟩ else none:=rfl
 rw [e,Bool.and_true]
 cases wP h s (pnt q0) (pnt q1)<;>rfl
theorem Zyt {h:Hal} {s:Stg} (e0:serr h s=0) {q0 q1:Pl3} (hf:Near 5000 q0) (ht:Near 5000 q1) (hne:q0≠q1):wP h s (pnt q0) (pnt q1)=Vt h s (pnt q0) (pnt q1):=by
 unfold wP wayE
 rw [if_pos e0,if_pos (Zfm hf),if_pos (Zfm ht)]
 have:ptEq (pnt q0) (pnt q1)=false:=by
  cases hb:ptEq (pnt q0) (pnt q1)
  ·rfl
  ·exfalso
   unfold ptEq pnt at hb
   simp only [Qc,decide_eq_true_eq] at hb
   exact hne (Qac (by simp_all) (Qac (by simp_all) (by simp_all)))
 rw [this]
 simp
theorem Ztn {f:Pt->Pt->Bool} {x y z:Int}:∀ {l:List Sea} {i:Nat} {j:Nat} (hj:j<l.length),((i+j:Nat):Int)∈seeL f x y z i l↔(Zmv l[j] x y z||f ⟨x,y,z,1⟩ ⟨l[j].x,l[j].y,l[j].z,1⟩)=true
 | [],_,j,hj=>by simp at hj
 | c::l,i,0,hj=>by
  rw [seeL]
  have hlt:∀ (l:List Sea) (i:Nat),∀ n∈seeL f x y z i l,(i:Int)<=n:=by
   intro l
   induction l with
   | nil=>intro i n hn; simp [seeL] at hn
   | cons d l ih =>
    intro i n hn
    rw [seeL] at hn
    split at hn
    ·rcases Qx.1 hn with rfl|hn
     ·omega
     ·have:=ih (i+1) n hn; omega
    ·have:=ih (i+1) n hn; omega
  rw [Nat.add_zero]
  have e:(c::l)[0]=c:=rfl
  rw [e]
  split
  ·rename_i hb; simp [hb]
  ·rename_i hb
   constructor
   ·intro hm; have:=hlt l (i+1) _ hm; omega
   ·intro hc; exact absurd hc hb
 | c::l,i,j+1,hj=>by
  have ih:=Ztn (f:=f) (x:=x) (y:=y) (z:=z) (l:=l) (i:=i+1) (j:=j) (by simpa using hj)
  have e:(c::l)[j+1]=l[j]'(by simpa using hj):=rfl
  rw [seeL,e,<-ih,show i+1+j=i+(j+1) by omega]
  split
  ·rw [Qx]
   constructor
   ·rintro (h|h)
    ·omega
    ·exact h
   ·exact .inr
  ·rfl
theorem Zyd {h:Hal} (g:h.fine) {x y z:Int} (hx : -5000<=x/\x<=5000) (hy : -5000<=y/\y<=5000):Znl h x y z 1=Ub h ⟨x,y,z,1⟩:=by
 unfold Ub Znl
 rw [Vq g.st z ⟨by omega,by omega,by omega,by omega⟩]
end Go.Proofs.YtdmidbkelinnjaaGreat
namespace Go.Proofs
open Go.Shelf
def Tryz.laysS114_ren:Go.Shelf.Ren:=⟨fun|6=>32|15=>68|14=>67|28=>131|29=>132|20=>123|21=>124|22=>125|23=>126|24=>127|25=>128|26=>129|27=>130|46=>186|47=>187|48=>188|49=>189|50=>190|57=>196|n=>n,fun|22=>47|24=>54|25=>97|3=>3|39=>157|0=>0|53=>215|55=>217|4=>4|46=>208|45=>207|50=>212|5=>5|9=>9|66=>250|70=>254|76=>260|77=>177|n=>n,fun|n=>n⟩
theorem Tryz.laysS114:Go.Proofs.SlLaysF0.n6 Tryz.prog Tryz.laysS114_ren:={
 mixed:=by kernel_rfl
 f6:=⟨Tryz.f32.name,by decide,Tryz.func32.trans (congrArg some (by kernel_rfl))⟩
 f14:=⟨Tryz.f67.name,by decide,Tryz.func67.trans (congrArg some (by kernel_rfl))⟩
 f15:=Tryz.func68.trans (congrArg some (by kernel_rfl))
 f20:=⟨Tryz.f123.name,by decide,Tryz.func123.trans (congrArg some (by kernel_rfl))⟩
 f21:=⟨Tryz.f124.name,by decide,Tryz.func124.trans (congrArg some (by kernel_rfl))⟩
 f22:=⟨Tryz.f125.name,by decide,Tryz.func125.trans (congrArg some (by kernel_rfl))⟩
 f23:=⟨Tryz.f126.name,by decide,Tryz.func126.trans (congrArg some (by kernel_rfl))⟩
 f24:=⟨Tryz.f127.name,by decide,Tryz.func127.trans (congrArg some (by kernel_rfl))⟩
 f25:=⟨Tryz.f128.name,by decide,Tryz.func128.trans (congrArg some (by kernel_rfl))⟩
 f26:=⟨Tryz.f129.name,by decide,Tryz.func129.trans (congrArg some (by kernel_rfl))⟩
 f27:=⟨Tryz.f130.name,by decide,Tryz.func130.trans (congrArg some (by kernel_rfl))⟩
 f28:=Tryz.func131.trans (congrArg some (by kernel_rfl))
 f29:=Tryz.func132.trans (congrArg some (by kernel_rfl))
 f46:=⟨Tryz.f186.name,by decide,Tryz.func186.trans (congrArg some (by kernel_rfl))⟩
 f47:=Tryz.func187.trans (congrArg some (by kernel_rfl))
 f48:=Tryz.func188.trans (congrArg some (by kernel_rfl))
 f49:=⟨Tryz.f189.name,by decide,Tryz.func189.trans (congrArg some (by kernel_rfl))⟩
 f50:=⟨Tryz.f190.name,by decide,Tryz.func190.trans (congrArg some (by kernel_rfl))⟩
 f57:=⟨Tryz.f196.name,by decide,Tryz.func196.trans (congrArg some (by kernel_rfl))⟩
 t0:=Tryz.underlying0
 a0:=Tryz.isAgg0
 z0:=Tryz.sizeOf0
 v0:=Tryz.zeroValue0
 t3:=Tryz.underlying3
 a3:=Tryz.isAgg3
 z3:=Tryz.sizeOf3
 v3:=Tryz.zeroValue3
 t4:=Tryz.underlying4
 a4:=Tryz.isAgg4
 z4:=Tryz.sizeOf4
 v4:=Tryz.zeroValue4
 t5:=Tryz.underlying5
 a5:=Tryz.isAgg5
 z5:=Tryz.sizeOf5
 v5:=Tryz.zeroValue5
 t9:=Tryz.underlying9
 a9:=Tryz.isAgg9
 z9:=Tryz.sizeOf9
 v9:=Tryz.zeroValue9
 t22:=Tryz.underlying47
 a22:=Tryz.isAgg47
 z22:=Tryz.sizeOf47
 v22:=Tryz.zeroValue47
 t25:=Tryz.underlying97
 a25:=Tryz.isAgg97
 z25:=Tryz.sizeOf97
 v25:=Tryz.zeroValue97
 t39:=Tryz.underlying157
 a39:=Tryz.isAgg157
 z39:=Tryz.sizeOf157
 v39:=Tryz.zeroValue157
 t45:=Tryz.underlying207
 a45:=Tryz.isAgg207
 z45:=Tryz.sizeOf207
 v45:=Tryz.zeroValue207
 t46:=Tryz.underlying208
 a46:=Tryz.isAgg208
 z46:=Tryz.sizeOf208
 v46:=Tryz.zeroValue208
 t50:=Tryz.underlying212
 a50:=Tryz.isAgg212
 z50:=Tryz.sizeOf212
 v50:=Tryz.zeroValue212
 t53:=Tryz.underlying215
 a53:=Tryz.isAgg215
 z53:=Tryz.sizeOf215
 v53:=Tryz.zeroValue215
 t55:=Tryz.underlying217
 a55:=Tryz.isAgg217
 z55:=Tryz.sizeOf217
 v55:=Tryz.zeroValue217
 t66:=Tryz.underlying250
 a66:=Tryz.isAgg250
 z66:=Tryz.sizeOf250
 v66:=Tryz.zeroValue250
 t70:=Tryz.underlying254
 a70:=Tryz.isAgg254
 z70:=Tryz.sizeOf254
 v70:=Tryz.zeroValue254
 t76:=Tryz.underlying260
 a76:=Tryz.isAgg260
 z76:=Tryz.sizeOf260
 v76:=Tryz.zeroValue260
 t77:=Tryz.underlying177
 a77:=Tryz.isAgg177
 z77:=Tryz.sizeOf177
 v77:=Tryz.zeroValue177 }
theorem Tryz.sorts114:Go.Sx.SortsK Tryz.prog 32 3:={
 some:=fun m _ enc hk h1 cf hO g blk off cap d w eg hcmp hH hblk hsz=>AnyQ.slices_SortFunc Tryz.laysS114 3 Tryz.isAgg54 Tryz.sizeOf54 enc hk h1 cf hO g #[] blk off cap d w eg hcmp hH hblk hsz
 none:=fun p cap fv w=>AnyF.slices_SortFunc_none Tryz.laysS114 p cap fv w }
end Go.Proofs
