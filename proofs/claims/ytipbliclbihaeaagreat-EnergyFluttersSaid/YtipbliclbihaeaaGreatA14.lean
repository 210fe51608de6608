/- A part of the proof: lemmas. -/
import Derived.Test.YtipbliclbihaeaaGreatA13
import Derived.Test.YtipbliclbihaeaaGreatA12
import Derived.Test.YtipbliclbihaeaaGreatA11
import Derived.Test.YtipbliclbihaeaaGreatA7
set_option linter.unusedVariables false
set_option linter.unusedSimpArgs false
set_option maxRecDepth 100000
set_option maxHeartbeats 16000000
open Bool renaming and_eq_true->Qc,false_and->Mh,false_or->Ww,true_and->Tx
open Go.IntKind renaming i64->Qb,wrap->Qa
open Go.Proofs.YtipbliclbihaeaaGreat.Can renaming av->Pb
open Go.Proofs.YtipbliclbihaeaaGreat.Ln renaming mk->Rj
open Go.Sx.AV.agg renaming injEq->Oc
open Go.Sx.AV.int renaming injEq->Sj
open Go.Sx.Done renaming mk->Qn
open Go.Sx.LpM renaming succ->Rn
open Int renaming le_of_lt->Qq,lt_trichotomy->Sv,mul_comm->Ra,neg_neg->Td,toNat->Sy,toNat_natCast->Ro
open List renaming cons_append->Tj,drop->Qaq,drop_eq_getElem_cons->Qj,drop_of_length_le->Ql,drop_succ_cons->Ht,drop_zero->Tn,getElem?_eq_getElem->Qg,getElem?_map->Si,getElem?_range->Tu,getElem?_replicate->Ji,getElem?_set->Ml,getElem_mem->Qt,head?_drop->Df,length->Ft,length_cons->Tf,length_map->Se,length_set->Jz,map_append->We,map_cons->Sp,map_map->Gv,map_replicate->Gj,map_set->Lu,mem_cons->Qz,mem_or_eq_of_mem_set->Ng,range'->Oj,replicate->Rr,reverse_nil->Ja,take->Qap,take_left->Qaa,take_length->Mp,take_zero->Kc
open List.cons renaming injEq->Qv
open Nat renaming gcd->Sw,gcd_one_right->Fa,le_of_ble_eq_true->Qk,le_refl->Qf,zero_add->Rw,zero_le->Qo
open Option.some renaming injEq->Qd
namespace Go.Proofs.YtipbliclbihaeaaGreat
open Go Go.Sx
def okQ (n d m k:Int):Prop:=(0<d/\d<=9223372036854775807)/\(0<k/\k<=9223372036854775807)/\(-9223372036854775807<=n/\n<=9223372036854775807)/\(-9223372036854775807<=m/\m<=9223372036854775807)
noncomputable abbrev cmps:List AV->Option PRes:=famA (fun p:Int × Int × Int × Int=>okQ p.1 p.2.1 p.2.2.1 p.2.2.2) (fun p=>[I p.1,I p.2.1,I p.2.2.1,I p.2.2.2]) (fun p=>⟨I (cmpQ p.1 p.2.1 p.2.2.1 p.2.2.2),[]⟩)
theorem Xl {n d m k:Int} (h:okQ n d m k):cmps [I n,I d,I m,I k]=some ⟨I (cmpQ n d m k),[]⟩ :=
 Zq (p:=fun p:Int × Int × Int × Int=>okQ p.1 p.2.1 p.2.2.1 p.2.2.2) (g:=fun p=>[I p.1,I p.2.1,I p.2.2.1,I p.2.2.2]) (r:=fun p=>⟨I (cmpQ p.1 p.2.1 p.2.2.1 p.2.2.2),[]⟩) (k:=(n,d,m,k)) (fun j hj=>by
  simp only [Qv,Sj,true_and,and_true] at hj
  obtain ⟨h1,h2,h3,h4⟩:=hj
  dsimp only
  rw [h1,h2,h3,h4]) h
theorem Ybl {pt:PC} (h:PCOK Tryz.prog pt):PCOK Tryz.prog (ins 214 cmps pt):=Zu (fun p hp=>c187 hp.1.1 hp.2.1.1 hp.1.2 hp.2.1.2 hp.2.2.1 hp.2.2.2) h
noncomputable def kC2:PC:=ins 214 cmps kR4
theorem Yl:PCOK Tryz.prog kC2:=Ybl Zcp
def bdQ (n d m k:Int):Prop:=(0<d/\d<=200000000000000)/\(0<k/\k<=200000000000000)/\(-200000000000000<=n/\n<=200000000000000)/\(-200000000000000<=m/\m<=200000000000000)
theorem bdQ.ok {n d m k:Int} (h:bdQ n d m k):okQ n d m k:=by obtain ⟨h1,h2,h3,h4⟩:=h; exact ⟨by omega,by omega,by omega,by omega⟩
theorem Zfz {a n d m k:Int} {l:List (Int × Int)} (h:a<0):Yi ((a,0)::l) n d m k=false:=by rw [Yi,if_pos ⟨rfl,h⟩]
theorem Zf0 {a n d m k:Int} {l:List (Int × Int)} (h:¬ a<0):Yi ((a,0)::l) n d m k=Yi l n d m k:=by rw [Yi,if_neg (by omega),if_neg (by omega),if_neg (by omega)]
theorem Zlv {a v n d m k:Int} {l:List (Int × Int)} (h:0<v) (hc:0<cmpQ (-a) v n d):Yi ((a,v)::l) n d m k=Yi l (-a) v m k:=by rw [Yi,if_neg (by omega),if_pos ⟨h,hc⟩]
theorem Zhr {a v n d m k:Int} {l:List (Int × Int)} (h:0<v) (hc:¬ 0<cmpQ (-a) v n d):Yi ((a,v)::l) n d m k=Yi l n d m k:=by rw [Yi,if_neg (by omega),if_neg (fun h=>hc h.2),if_neg (by omega)]
theorem Zlw {a v n d m k:Int} {l:List (Int × Int)} (h:v<0) (hc:cmpQ a (-v) m k<0):Yi ((a,v)::l) n d m k=Yi l n d a (-v):=by rw [Yi,if_neg (by omega),if_neg (by omega),if_pos ⟨h,hc⟩]
theorem Zhs {a v n d m k:Int} {l:List (Int × Int)} (h:v<0) (hc:¬ cmpQ a (-v) m k<0):Yi ((a,v)::l) n d m k=Yi l n d m k:=by rw [Yi,if_neg (by omega),if_neg (by omega),if_neg (fun h=>hc h.2)]
theorem Zrb {a v m k:Int} (hc:cmpQ a v m k<0) (hk:0<k) (hm:m<=k) (hv:0<v):a<=v:=by
 unfold cmpQ at hc
 rw [Xb] at hc
 have q:=Int.mul_le_mul_of_nonneg_right hm (Qq hv)
 have e:k*(a-v)=a*k-k*v:=by grind
 have:=(Zb8 hk).1 (show k*(a-v)<0 by omega)
 omega
theorem Zrc {a v n d:Int} (hc:0<cmpQ a v n d) (hd:0<d) (hn:0<=n) (hv:0<v):0<=a:=by
 unfold cmpQ at hc
 rw [Xa] at hc
 have q:=Int.mul_nonneg hn (Qq hv)
 have e:d*a=a*d:=Ra _ _
 have:=(Za2 hd).1 (show 0<d*a by omega)
 omega
structure AxOk (x y lo hi aD bD:Int):Prop where
 a0:0<aD/\aD<=100000
 b0:0<bD/\bD<=100000
 x : -(5000*aD)<=x/\x<=5000*aD
 y : -(5000*bD)<=y/\y<=5000*bD
 lo : -5000<=lo/\lo<=5000
 hi : -5000<=hi/\hi<=5000
theorem Ydu {x y lo hi aD bD:Int} (h:AxOk x y lo hi aD bD):(Qa Qb (Qa Qb (y*aD)-Qa Qb (x*bD))=y*aD-x*bD/\Qa Qb (0-Qa Qb (Qa Qb (y*aD)-Qa Qb (x*bD))) = -(y*aD-x*bD) /\ -100000000000000<=y*aD-x*bD/\y*aD-x*bD<=100000000000000) /\
  (Qa Qb (Qa Qb (x-Qa Qb (lo*aD))*bD)=(x-lo*aD)*bD/\Qa Qb (0-Qa Qb (Qa Qb (x-Qa Qb (lo*aD))*bD)) = -((x-lo*aD)*bD) /\ -100000000000000<=(x-lo*aD)*bD/\(x-lo*aD)*bD<=100000000000000) /\
  (Qa Qb (Qa Qb (Qa Qb (hi*aD)-x)*bD)=(hi*aD-x)*bD/\Qa Qb (0-Qa Qb (Qa Qb (Qa Qb (hi*aD)-x)*bD)) = -((hi*aD-x)*bD) /\ -100000000000000<=(hi*aD-x)*bD/\(hi*aD-x)*bD<=100000000000000):=by
 obtain ⟨h1,h2,h3,h4,h5,h6⟩:=h
 have m1:=Zl (a:=y) (b:=aD) (A:=500000000) (B:=100000) (by omega) (by omega)
 have m2:=Zl (a:=x) (b:=bD) (A:=500000000) (B:=100000) (by omega) (by omega)
 have m3:=Zj h5 h1.1
 have m4:=Zj h6 h1.1
 have m5:=Zl (a:=x-lo*aD) (b:=bD) (A:=1000000000) (B:=100000) (by omega) (by omega)
 have m6:=Zl (a:=hi*aD-x) (b:=bD) (A:=1000000000) (B:=100000) (by omega) (by omega)
 rw [W_eq (n:=y*aD) (by omega) (by omega),W_eq (n:=x*bD) (by omega) (by omega),W_eq (n:=lo*aD) (by omega) (by omega),W_eq (n:=hi*aD) (by omega) (by omega)]
 rw [W_eq (n:=x-lo*aD) (by omega) (by omega),W_eq (n:=hi*aD-x) (by omega) (by omega),W_eq (n:=(x-lo*aD)*bD) (by omega) (by omega),W_eq (n:=(hi*aD-x)*bD) (by omega) (by omega),W_eq (n:=y*aD-x*bD) (by omega) (by omega)]
 rw [W_eq (n:=0-(y*aD-x*bD)) (by omega) (by omega),W_eq (n:=0-(x-lo*aD)*bD) (by omega) (by omega),W_eq (n:=0-(hi*aD-x)*bD) (by omega) (by omega)]
 refine ⟨⟨rfl,by omega,by omega,by omega⟩,⟨rfl,by omega,by omega,by omega⟩,rfl,by omega,by omega,by omega⟩
theorem c190 {c:Can} (hr:CanOk c) {a b:Pt} (ha:PtR a) (hb:PtR b):PCall Tryz.prog 215 [.agg c.av,a.av,b.av] ⟨Bo (Zsg c.rc a.pl b.pl),[]⟩:=by
 obtain ⟨⟨v1,v2⟩,v3,v4⟩:=Zet c
 have aX:AxOk a.x b.x (imin c.fx c.tx) (imax c.fx c.tx) a.d b.d:=⟨⟨ha.d0,ha.d1⟩,⟨hb.d0,hb.d1⟩,ha.x,hb.x,by rw [Uy]; have:=hr.b1; have:=hr.b3; omega,by rw [Uz]; have:=hr.b1; have:=hr.b3; omega⟩
 have aY:AxOk a.y b.y (imin c.fy c.ty) (imax c.fy c.ty) a.d b.d:=⟨⟨ha.d0,ha.d1⟩,⟨hb.d0,hb.d1⟩,ha.y,hb.y,by rw [Uy]; have:=hr.b2; have:=hr.b4; omega,by rw [Uz]; have:=hr.b2; have:=hr.b4; omega⟩
 have hT:Zsg c.rc a.pl b.pl=Yi [((a.x-imin c.fx c.tx*a.d)*b.d,b.x*a.d-a.x*b.d),((imax c.fx c.tx*a.d-a.x)*b.d,-(b.x*a.d-a.x*b.d)),((a.y-imin c.fy c.ty*a.d)*b.d,b.y*a.d-a.y*b.d),((imax c.fy c.ty*a.d-a.y)*b.d,-(b.y*a.d-a.y*b.d))] 0 1 1 1:=by
  unfold Zsg rcN Pt.pl
  rw [v1,v2,v3,v4,<-Uy,<-Uy,<-Uz,<-Uz]
  simp only [Sp,List.map_nil]
  congr 2
  ·congr 1; grind
  ·congr 1
   ·congr 1; grind
   ·congr 1
    ·congr 1; grind
    ·congr 2; grind
 rw [hT]
 clear hT v1 v2 v3 v4
 refine bs.pv (sx:=nos) Yl Tryz.func215 (by kernel_rfl) (by kernel_rfl) rfl ?_
 repeat'(first|refine wk3 ?_|(refine wk2 ?_ ?_<;>intro _)|refine wk4 ?_|fail);all_goals(conv=>whnf)
 refine LpM.start 3 ?_
 refine Rn (bs.av (sx:=nos) Yl ?_)
 repeat'(first|refine wk3 ?_|(refine wk2 ?_ ?_<;>intro _)|refine wk4 ?_|fail);all_goals(conv=>whnf)
 have eY:(imin c.fy c.ty=imin c.fy c.ty)/\(imax c.fy c.ty=imax c.fy c.ty):=⟨rfl,rfl⟩
 have hbd:bdQ 0 1 1 1:=⟨by omega,by omega,by omega,by omega⟩
 have hnm:(0:Int)<=0/\(1:Int)<=1:=⟨by omega,by omega⟩
 generalize hRR:Yi _ 0 1 1 1=R
 have hR:=hRR
 clear hRR
 refine Zw (S:=Int × Int × Int × Int × Int) (fun t=>(2-t.1).toNat) (fun t=>[(3,.ptr 0 0 0),(4,.ptr 1 0 0),(5,.ptr 2 0 0),(7,I t.2.1),(8,I t.2.2.1),(9,I t.2.2.2.1),(10,I t.2.2.2.2),(11,I 0),(12,I (a.x)),(13,I (b.x)),(14,I (imin c.fx c.tx)),(15,I (imax c.fx c.tx)),(16,I (Qa Qb (Qa Qb (b.x*a.d)-Qa Qb (a.x*b.d)))),(17,I t.1)]) (fun _=>[(2,.row 4 [[I b.x,I b.y,I b.z,I b.d]] true false),(1,.row 4 [[I a.x,I a.y,I a.z,I a.d]] true false),(0,.row 7 [c.av] true false)]) 40 40 (fun t=>bdQ t.2.1 t.2.2.1 t.2.2.2.1 t.2.2.2.2/\(0<=t.2.1/\t.2.2.2.1<=t.2.2.2.2)/\((t.1=0/\Yi (((a.x-imin c.fx c.tx*a.d)*b.d,(b.x*a.d-a.x*b.d))::(((imax c.fx c.tx*a.d-a.x)*b.d,-(b.x*a.d-a.x*b.d))::[((a.y-imin c.fy c.ty*a.d)*b.d,b.y*a.d-a.y*b.d),((imax c.fy c.ty*a.d-a.y)*b.d,-(b.y*a.d-a.y*b.d))])) t.2.1 t.2.2.1 t.2.2.2.1 t.2.2.2.2=R)\/(t.1=1/\Yi (((imax c.fx c.tx*a.d-a.x)*b.d,-(b.x*a.d-a.x*b.d))::[((a.y-imin c.fy c.ty*a.d)*b.d,b.y*a.d-a.y*b.d),((imax c.fy c.ty*a.d-a.y)*b.d,-(b.y*a.d-a.y*b.d))]) t.2.1 t.2.2.1 t.2.2.2.1 t.2.2.2.2=R)\/(t.1=2/\Yi [((a.y-imin c.fy c.ty*a.d)*b.d,b.y*a.d-a.y*b.d),((imax c.fy c.ty*a.d-a.y)*b.d,-(b.y*a.d-a.y*b.d))] t.2.1 t.2.2.1 t.2.2.2.1 t.2.2.2.2=R))) (0,0,1,1,1) ⟨hbd,hnm,.inl ⟨rfl,hR⟩⟩ (Qk rfl) [] rfl (kps) (kps) ?_
 clear hR hbd hnm
 rintro ⟨e,n,d,m,k⟩ ⟨hbd,hnm,hcase⟩
 dsimp only at hbd hnm hcase ⊢
 obtain ⟨⟨y1,y2,y3⟩,h2,h3⟩:=Ydu aX
 rw [<-y1] at hcase y3
 clear y2
 generalize Qa Qb (Qa Qb (b.x*a.d)-Qa Qb (a.x*b.d))=BY at *
 rcases hcase with ⟨rfl,hR⟩|⟨rfl,hR⟩|⟨rfl,hR⟩
 ·have ra:Qa Qb (Qa Qb (a.x-Qa Qb (imin c.fx c.tx*a.d))*b.d)=(a.x-imin c.fx c.tx*a.d)*b.d:=h2.1
  have ra' : Qa Qb (0-Qa Qb (Qa Qb (a.x-Qa Qb (imin c.fx c.tx*a.d))*b.d)) = -((a.x-imin c.fx c.tx*a.d)*b.d):=h2.2.1
  have rb:=h2.2.2
  have rm1:Qa Qb (0-BY) = -BY:=W_eq (by omega) (by omega) |>.trans (by omega)
  have rm2:Qa Qb (0-Qa Qb (0-BY))=BY:=by rw [rm1]; exact (W_eq (by omega) (by omega)).trans (by omega)
  clear h2 h3
  generalize (a.x-imin c.fx c.tx*a.d)*b.d=A at *
  have fin:∀ n' d' m' k' : Int,bdQ n' d' m' k'->(0<=n'/\m'<=k')->Yi (((imax c.fx c.tx*a.d-a.x)*b.d,-BY)::[((a.y-imin c.fy c.ty*a.d)*b.d,b.y*a.d-a.y*b.d),((imax c.fy c.ty*a.d-a.y)*b.d,-(b.y*a.d-a.y*b.d))]) n' d' m' k'=R->(bdQ n' d' m' k'/\(0<=n'/\m'<=k')/\(((1:Int)=0/\Yi ((A,(b.x*a.d-a.x*b.d))::(((imax c.fx c.tx*a.d-a.x)*b.d,-(b.x*a.d-a.x*b.d))::[((a.y-imin c.fy c.ty*a.d)*b.d,b.y*a.d-a.y*b.d),((imax c.fy c.ty*a.d-a.y)*b.d,-(b.y*a.d-a.y*b.d))])) n' d' m' k'=R)\/((1:Int)=1/\Yi (((imax c.fx c.tx*a.d-a.x)*b.d,-(b.x*a.d-a.x*b.d))::[((a.y-imin c.fy c.ty*a.d)*b.d,b.y*a.d-a.y*b.d),((imax c.fy c.ty*a.d-a.y)*b.d,-(b.y*a.d-a.y*b.d))]) n' d' m' k'=R)\/((1:Int)=2/\Yi [((a.y-imin c.fy c.ty*a.d)*b.d,b.y*a.d-a.y*b.d),((imax c.fy c.ty*a.d-a.y)*b.d,-(b.y*a.d-a.y*b.d))] n' d' m' k'=R))):=fun n' d' m' k' g1 g2 g3=>⟨g1,g2,by rw [<-y1]; exact .inr (.inl ⟨rfl,g3⟩)⟩
  rcases Sv BY 0 with hv|hv|hv
  ·skip
   have ht:cmps [I (Qa Qb (Qa Qb (a.x-Qa Qb (imin c.fx c.tx*a.d))*b.d)),I (Qa Qb (0-BY)),I m,I k]=some ⟨I (cmpQ A (-(BY)) m k),[]⟩:=by rw [ra,rm1]; exact Xl (d:=_) ⟨by omega,⟨hbd.2.1.1,by have:=hbd.2.1.2; omega⟩,by omega,by have:=hbd.2.2.2; omega⟩
   by_cases hc:cmpQ A (-(BY)) m k<0
   ·rw [Zlw (by omega) hc] at hR
    have hA:A <= -(BY):=Zrb hc hbd.2.1.1 hnm.2 (by omega)
    generalize cmpQ A (-(BY)) m k=Q at *
    refine bs.av (sx:=nos) Yl ?_
    repeat'(first|refine wk3 ?_|(refine wk2 ?_ ?_<;>intro _)|refine wk4 ?_|fail);all_goals(conv=>whnf)
    exact Qn ⟨(1,n,d,Qa Qb (Qa Qb (a.x-Qa Qb (imin c.fx c.tx*a.d))*b.d),(Qa Qb (0-BY))),[],rfl,kps,kps,fin n d (Qa Qb (Qa Qb (a.x-Qa Qb (imin c.fx c.tx*a.d))*b.d)) ((Qa Qb (0-BY))) (by rw [ra,rm1]; exact ⟨hbd.1,by omega,hbd.2.2.1,by omega⟩) (by rw [ra,rm1]; omega) (by rw [ra,rm1]; exact hR),by dsimp only; omega⟩
   ·rw [Zhs (by omega) hc] at hR
    generalize cmpQ A (-(BY)) m k=Q at *
    refine bs.av (sx:=nos) Yl ?_
    repeat'(first|refine wk3 ?_|(refine wk2 ?_ ?_<;>intro _)|refine wk4 ?_|fail);all_goals(conv=>whnf)
    exact Qn ⟨(1,n,d,m,k),[],rfl,kps,kps,fin _ _ _ _ hbd hnm hR,by dsimp only; omega⟩
  ·subst hv
   skip
   by_cases hneg:A<0
   ·rw [Zfz hneg] at hR
    rw [<-hR]
    refine bs.av (sx:=nos) Yl ?_
    repeat'(first|refine wk3 ?_|(refine wk2 ?_ ?_<;>intro _)|refine wk4 ?_|fail);all_goals(conv=>whnf)
    exact Zc rfl
   ·rw [Zf0 hneg] at hR
    refine bs.av (sx:=nos) Yl ?_
    repeat'(first|refine wk3 ?_|(refine wk2 ?_ ?_<;>intro _)|refine wk4 ?_|fail);all_goals(conv=>whnf)
    exact Qn ⟨(1,n,d,m,k),[],rfl,kps,kps,fin _ _ _ _ hbd hnm hR,by dsimp only; omega⟩
  ·skip
   have ht:cmps [I (Qa Qb (0-Qa Qb (Qa Qb (a.x-Qa Qb (imin c.fx c.tx*a.d))*b.d))),I BY,I n,I d]=some ⟨I (cmpQ (-A) (BY) n d),[]⟩:=by rw [ra']; exact Xl ⟨by omega,⟨hbd.1.1,by have:=hbd.1.2; omega⟩,by omega,by have:=hbd.2.2.1; omega⟩
   by_cases hc:0<cmpQ (-A) (BY) n d
   ·rw [Zlv (by omega) hc] at hR
    have hA:0 <= -A:=Zrc hc hbd.1.1 hnm.1 (by omega)
    generalize cmpQ (-A) (BY) n d=Q at *
    refine bs.av (sx:=nos) Yl ?_
    repeat'(first|refine wk3 ?_|(refine wk2 ?_ ?_<;>intro _)|refine wk4 ?_|fail);all_goals(conv=>whnf)
    exact Qn ⟨(1,Qa Qb (0-Qa Qb (Qa Qb (a.x-Qa Qb (imin c.fx c.tx*a.d))*b.d)),BY,m,k),[],rfl,kps,kps,fin (Qa Qb (0-Qa Qb (Qa Qb (a.x-Qa Qb (imin c.fx c.tx*a.d))*b.d))) (BY) m k (by rw [ra']; exact ⟨by omega,hbd.2.1,by omega,hbd.2.2.2⟩) (by rw [ra']; omega) (by rw [ra']; exact hR),by dsimp only; omega⟩
   ·rw [Zhr (by omega) hc] at hR
    generalize cmpQ (-A) (BY) n d=Q at *
    refine bs.av (sx:=nos) Yl ?_
    repeat'(first|refine wk3 ?_|(refine wk2 ?_ ?_<;>intro _)|refine wk4 ?_|fail);all_goals(conv=>whnf)
    exact Qn ⟨(1,n,d,m,k),[],rfl,kps,kps,fin _ _ _ _ hbd hnm hR,by dsimp only; omega⟩
 ·have ra:Qa Qb (Qa Qb (Qa Qb (imax c.fx c.tx*a.d)-a.x)*b.d)=(imax c.fx c.tx*a.d-a.x)*b.d:=h3.1
  have ra' : Qa Qb (0-Qa Qb (Qa Qb (Qa Qb (imax c.fx c.tx*a.d)-a.x)*b.d)) = -((imax c.fx c.tx*a.d-a.x)*b.d):=h3.2.1
  have rb:=h3.2.2
  have rm1:Qa Qb (0-BY) = -BY:=W_eq (by omega) (by omega) |>.trans (by omega)
  have rm2:Qa Qb (0-Qa Qb (0-BY))=BY:=by rw [rm1]; exact (W_eq (by omega) (by omega)).trans (by omega)
  clear h2 h3
  generalize (imax c.fx c.tx*a.d-a.x)*b.d=A at *
  have fin:∀ n' d' m' k' : Int,bdQ n' d' m' k'->(0<=n'/\m'<=k')->Yi [((a.y-imin c.fy c.ty*a.d)*b.d,b.y*a.d-a.y*b.d),((imax c.fy c.ty*a.d-a.y)*b.d,-(b.y*a.d-a.y*b.d))] n' d' m' k'=R->(bdQ n' d' m' k'/\(0<=n'/\m'<=k')/\(((2:Int)=0/\Yi (((a.x-imin c.fx c.tx*a.d)*b.d,(b.x*a.d-a.x*b.d))::((A,-(b.x*a.d-a.x*b.d))::[((a.y-imin c.fy c.ty*a.d)*b.d,b.y*a.d-a.y*b.d),((imax c.fy c.ty*a.d-a.y)*b.d,-(b.y*a.d-a.y*b.d))])) n' d' m' k'=R)\/((2:Int)=1/\Yi ((A,-(b.x*a.d-a.x*b.d))::[((a.y-imin c.fy c.ty*a.d)*b.d,b.y*a.d-a.y*b.d),((imax c.fy c.ty*a.d-a.y)*b.d,-(b.y*a.d-a.y*b.d))]) n' d' m' k'=R)\/((2:Int)=2/\Yi [((a.y-imin c.fy c.ty*a.d)*b.d,b.y*a.d-a.y*b.d),((imax c.fy c.ty*a.d-a.y)*b.d,-(b.y*a.d-a.y*b.d))] n' d' m' k'=R))):=fun n' d' m' k' g1 g2 g3=>⟨g1,g2,by rw [<-y1]; exact .inr (.inr ⟨rfl,g3⟩)⟩
  rcases Sv BY 0 with hv|hv|hv
  ·skip
   have ht:cmps [I (Qa Qb (0-Qa Qb (Qa Qb (Qa Qb (imax c.fx c.tx*a.d)-a.x)*b.d))),I (Qa Qb (0-BY)),I n,I d]=some ⟨I (cmpQ (-A) (-BY) n d),[]⟩:=by rw [ra',rm1]; exact Xl ⟨by omega,⟨hbd.1.1,by have:=hbd.1.2; omega⟩,by omega,by have:=hbd.2.2.1; omega⟩
   by_cases hc:0<cmpQ (-A) (-BY) n d
   ·rw [Zlv (by omega) hc] at hR
    have hA:0 <= -A:=Zrc hc hbd.1.1 hnm.1 (by omega)
    generalize cmpQ (-A) (-BY) n d=Q at *
    refine bs.av (sx:=nos) Yl ?_
    repeat'(first|refine wk3 ?_|(refine wk2 ?_ ?_<;>intro _)|refine wk4 ?_|fail);all_goals(conv=>whnf)
    exact Qn ⟨(2,Qa Qb (0-Qa Qb (Qa Qb (Qa Qb (imax c.fx c.tx*a.d)-a.x)*b.d)),(Qa Qb (0-BY)),m,k),[],rfl,kps,kps,fin (Qa Qb (0-Qa Qb (Qa Qb (Qa Qb (imax c.fx c.tx*a.d)-a.x)*b.d))) ((Qa Qb (0-BY))) m k (by rw [ra',rm1]; exact ⟨by omega,hbd.2.1,by omega,hbd.2.2.2⟩) (by rw [ra']; omega) (by rw [ra',rm1]; exact hR),by dsimp only; omega⟩
   ·rw [Zhr (by omega) hc] at hR
    generalize cmpQ (-A) (-BY) n d=Q at *
    refine bs.av (sx:=nos) Yl ?_
    repeat'(first|refine wk3 ?_|(refine wk2 ?_ ?_<;>intro _)|refine wk4 ?_|fail);all_goals(conv=>whnf)
    exact Qn ⟨(2,n,d,m,k),[],rfl,kps,kps,fin _ _ _ _ hbd hnm hR,by dsimp only; omega⟩
  ·subst hv
   rw [show (-0:Int)=0 by decide] at hR
   by_cases hneg:A<0
   ·rw [Zfz hneg] at hR
    rw [<-hR]
    refine bs.av (sx:=nos) Yl ?_
    repeat'(first|refine wk3 ?_|(refine wk2 ?_ ?_<;>intro _)|refine wk4 ?_|fail);all_goals(conv=>whnf)
    exact Zc rfl
   ·rw [Zf0 hneg] at hR
    refine bs.av (sx:=nos) Yl ?_
    repeat'(first|refine wk3 ?_|(refine wk2 ?_ ?_<;>intro _)|refine wk4 ?_|fail);all_goals(conv=>whnf)
    exact Qn ⟨(2,n,d,m,k),[],rfl,kps,kps,fin _ _ _ _ hbd hnm hR,by dsimp only; omega⟩
  ·skip
   have ht:cmps [I (Qa Qb (Qa Qb (Qa Qb (imax c.fx c.tx*a.d)-a.x)*b.d)),I (Qa Qb (0-Qa Qb (0-BY))),I m,I k]=some ⟨I (cmpQ A (-(-BY)) m k),[]⟩:=by rw [ra,rm2,Td]; exact Xl (d:=_) ⟨by omega,⟨hbd.2.1.1,by have:=hbd.2.1.2; omega⟩,by omega,by have:=hbd.2.2.2; omega⟩
   by_cases hc:cmpQ A (-(-BY)) m k<0
   ·rw [Zlw (by omega) hc] at hR
    have hA:A <= -(-BY):=Zrb hc hbd.2.1.1 hnm.2 (by omega)
    generalize cmpQ A (-(-BY)) m k=Q at *
    refine bs.av (sx:=nos) Yl ?_
    repeat'(first|refine wk3 ?_|(refine wk2 ?_ ?_<;>intro _)|refine wk4 ?_|fail);all_goals(conv=>whnf)
    exact Qn ⟨(2,n,d,Qa Qb (Qa Qb (Qa Qb (imax c.fx c.tx*a.d)-a.x)*b.d),(Qa Qb (0-Qa Qb (0-BY)))),[],rfl,kps,kps,fin n d (Qa Qb (Qa Qb (Qa Qb (imax c.fx c.tx*a.d)-a.x)*b.d)) ((Qa Qb (0-Qa Qb (0-BY)))) (by rw [ra,rm2]; exact ⟨hbd.1,by omega,hbd.2.2.1,by omega⟩) (by rw [ra,rm2]; omega) (by rw [ra,rm2,<-Td BY]; exact hR),by dsimp only; omega⟩
   ·rw [Zhs (by omega) hc] at hR
    generalize cmpQ A (-(-BY)) m k=Q at *
    refine bs.av (sx:=nos) Yl ?_
    repeat'(first|refine wk3 ?_|(refine wk2 ?_ ?_<;>intro _)|refine wk4 ?_|fail);all_goals(conv=>whnf)
    exact Qn ⟨(2,n,d,m,k),[],rfl,kps,kps,fin _ _ _ _ hbd hnm hR,by dsimp only; omega⟩
 ·refine bs.av (sx:=nos) Yl ?_
  repeat'(first|refine wk3 ?_|(refine wk2 ?_ ?_<;>intro _)|refine wk4 ?_|fail);all_goals(conv=>whnf)
  refine Rn (bs.av (sx:=nos) Yl ?_)
  repeat'(first|refine wk3 ?_|(refine wk2 ?_ ?_<;>intro _)|refine wk4 ?_|fail);all_goals(conv=>whnf)
  refine Zw (S:=Int × Int × Int × Int × Int) (fun t=>(2-t.1).toNat) (fun t=>[(3,.ptr 0 0 0),(4,.ptr 1 0 0),(5,.ptr 2 0 0),(7,I t.2.1),(8,I t.2.2.1),(9,I t.2.2.2.1),(10,I t.2.2.2.2),(11,I 1),(12,I (a.y)),(13,I (b.y)),(14,I (imin c.fy c.ty)),(15,I (imax c.fy c.ty)),(16,I (Qa Qb (Qa Qb (b.y*a.d)-Qa Qb (a.y*b.d)))),(17,I t.1)]) (fun _=>[(2,.row 4 [[I b.x,I b.y,I b.z,I b.d]] true false),(1,.row 4 [[I a.x,I a.y,I a.z,I a.d]] true false),(0,.row 7 [c.av] true false)]) 100 100 (fun t=>bdQ t.2.1 t.2.2.1 t.2.2.2.1 t.2.2.2.2/\(0<=t.2.1/\t.2.2.2.1<=t.2.2.2.2)/\((t.1=0/\Yi (((a.y-imin c.fy c.ty*a.d)*b.d,(b.y*a.d-a.y*b.d))::(((imax c.fy c.ty*a.d-a.y)*b.d,-(b.y*a.d-a.y*b.d))::[])) t.2.1 t.2.2.1 t.2.2.2.1 t.2.2.2.2=R)\/(t.1=1/\Yi (((imax c.fy c.ty*a.d-a.y)*b.d,-(b.y*a.d-a.y*b.d))::[]) t.2.1 t.2.2.1 t.2.2.2.1 t.2.2.2.2=R)\/(t.1=2/\Yi [] t.2.1 t.2.2.1 t.2.2.2.1 t.2.2.2.2=R))) (0,n,d,m,k) ⟨hbd,hnm,.inl ⟨rfl,hR⟩⟩ (Qk rfl) [] rfl (kps) (kps) ?_
  clear hR hbd hnm
  rintro ⟨e,n,d,m,k⟩ ⟨hbd,hnm,hcase⟩
  dsimp only at hbd hnm hcase ⊢
  obtain ⟨⟨y1,y2,y3⟩,h2,h3⟩:=Ydu aY
  rw [<-y1] at hcase y3
  clear y2
  generalize Qa Qb (Qa Qb (b.y*a.d)-Qa Qb (a.y*b.d))=BY at *
  rcases hcase with ⟨rfl,hR⟩|⟨rfl,hR⟩|⟨rfl,hR⟩
  ·have ra:Qa Qb (Qa Qb (a.y-Qa Qb (imin c.fy c.ty*a.d))*b.d)=(a.y-imin c.fy c.ty*a.d)*b.d:=h2.1
   have ra' : Qa Qb (0-Qa Qb (Qa Qb (a.y-Qa Qb (imin c.fy c.ty*a.d))*b.d)) = -((a.y-imin c.fy c.ty*a.d)*b.d):=h2.2.1
   have rb:=h2.2.2
   have rm1:Qa Qb (0-BY) = -BY:=W_eq (by omega) (by omega) |>.trans (by omega)
   have rm2:Qa Qb (0-Qa Qb (0-BY))=BY:=by rw [rm1]; exact (W_eq (by omega) (by omega)).trans (by omega)
   clear h2 h3
   generalize (a.y-imin c.fy c.ty*a.d)*b.d=A at *
   have fin:∀ n' d' m' k' : Int,bdQ n' d' m' k'->(0<=n'/\m'<=k')->Yi (((imax c.fy c.ty*a.d-a.y)*b.d,-BY)::[]) n' d' m' k'=R->(bdQ n' d' m' k'/\(0<=n'/\m'<=k')/\(((1:Int)=0/\Yi ((A,(b.y*a.d-a.y*b.d))::(((imax c.fy c.ty*a.d-a.y)*b.d,-(b.y*a.d-a.y*b.d))::[])) n' d' m' k'=R)\/((1:Int)=1/\Yi (((imax c.fy c.ty*a.d-a.y)*b.d,-(b.y*a.d-a.y*b.d))::[]) n' d' m' k'=R)\/((1:Int)=2/\Yi [] n' d' m' k'=R))):=fun n' d' m' k' g1 g2 g3=>⟨g1,g2,by rw [<-y1]; exact .inr (.inl ⟨rfl,g3⟩)⟩
   rcases Sv BY 0 with hv|hv|hv
   ·skip
    have ht:cmps [I (Qa Qb (Qa Qb (a.y-Qa Qb (imin c.fy c.ty*a.d))*b.d)),I (Qa Qb (0-BY)),I m,I k]=some ⟨I (cmpQ A (-(BY)) m k),[]⟩:=by rw [ra,rm1]; exact Xl (d:=_) ⟨by omega,⟨hbd.2.1.1,by have:=hbd.2.1.2; omega⟩,by omega,by have:=hbd.2.2.2; omega⟩
    by_cases hc:cmpQ A (-(BY)) m k<0
    ·rw [Zlw (by omega) hc] at hR
     have hA:A <= -(BY):=Zrb hc hbd.2.1.1 hnm.2 (by omega)
     generalize cmpQ A (-(BY)) m k=Q at *
     refine bs.av (sx:=nos) Yl ?_
     repeat'(first|refine wk3 ?_|(refine wk2 ?_ ?_<;>intro _)|refine wk4 ?_|fail);all_goals(conv=>whnf)
     exact Qn ⟨(1,n,d,Qa Qb (Qa Qb (a.y-Qa Qb (imin c.fy c.ty*a.d))*b.d),(Qa Qb (0-BY))),[],rfl,kps,kps,fin n d (Qa Qb (Qa Qb (a.y-Qa Qb (imin c.fy c.ty*a.d))*b.d)) ((Qa Qb (0-BY))) (by rw [ra,rm1]; exact ⟨hbd.1,by omega,hbd.2.2.1,by omega⟩) (by rw [ra,rm1]; omega) (by rw [ra,rm1]; exact hR),by dsimp only; omega⟩
    ·rw [Zhs (by omega) hc] at hR
     generalize cmpQ A (-(BY)) m k=Q at *
     refine bs.av (sx:=nos) Yl ?_
     repeat'(first|refine wk3 ?_|(refine wk2 ?_ ?_<;>intro _)|refine wk4 ?_|fail);all_goals(conv=>whnf)
     exact Qn ⟨(1,n,d,m,k),[],rfl,kps,kps,fin _ _ _ _ hbd hnm hR,by dsimp only; omega⟩
   ·subst hv
    skip
    by_cases hneg:A<0
    ·rw [Zfz hneg] at hR
     rw [<-hR]
     refine bs.av (sx:=nos) Yl ?_
     repeat'(first|refine wk3 ?_|(refine wk2 ?_ ?_<;>intro _)|refine wk4 ?_|fail);all_goals(conv=>whnf)
     exact Zc rfl
    ·rw [Zf0 hneg] at hR
     refine bs.av (sx:=nos) Yl ?_
     repeat'(first|refine wk3 ?_|(refine wk2 ?_ ?_<;>intro _)|refine wk4 ?_|fail);all_goals(conv=>whnf)
     exact Qn ⟨(1,n,d,m,k),[],rfl,kps,kps,fin _ _ _ _ hbd hnm hR,by dsimp only; omega⟩
   ·skip
    have ht:cmps [I (Qa Qb (0-Qa Qb (Qa Qb (a.y-Qa Qb (imin c.fy c.ty*a.d))*b.d))),I BY,I n,I d]=some ⟨I (cmpQ (-A) (BY) n d),[]⟩:=by rw [ra']; exact Xl ⟨by omega,⟨hbd.1.1,by have:=hbd.1.2; omega⟩,by omega,by have:=hbd.2.2.1; omega⟩
    by_cases hc:0<cmpQ (-A) (BY) n d
    ·rw [Zlv (by omega) hc] at hR
     have hA:0 <= -A:=Zrc hc hbd.1.1 hnm.1 (by omega)
     generalize cmpQ (-A) (BY) n d=Q at *
     refine bs.av (sx:=nos) Yl ?_
     repeat'(first|refine wk3 ?_|(refine wk2 ?_ ?_<;>intro _)|refine wk4 ?_|fail);all_goals(conv=>whnf)
     exact Qn ⟨(1,Qa Qb (0-Qa Qb (Qa Qb (a.y-Qa Qb (imin c.fy c.ty*a.d))*b.d)),BY,m,k),[],rfl,kps,kps,fin (Qa Qb (0-Qa Qb (Qa Qb (a.y-Qa Qb (imin c.fy c.ty*a.d))*b.d))) (BY) m k (by rw [ra']; exact ⟨by omega,hbd.2.1,by omega,hbd.2.2.2⟩) (by rw [ra']; omega) (by rw [ra']; exact hR),by dsimp only; omega⟩
    ·rw [Zhr (by omega) hc] at hR
     generalize cmpQ (-A) (BY) n d=Q at *
     refine bs.av (sx:=nos) Yl ?_
     repeat'(first|refine wk3 ?_|(refine wk2 ?_ ?_<;>intro _)|refine wk4 ?_|fail);all_goals(conv=>whnf)
     exact Qn ⟨(1,n,d,m,k),[],rfl,kps,kps,fin _ _ _ _ hbd hnm hR,by dsimp only; omega⟩
  ·have ra:Qa Qb (Qa Qb (Qa Qb (imax c.fy c.ty*a.d)-a.y)*b.d)=(imax c.fy c.ty*a.d-a.y)*b.d:=h3.1
   have ra' : Qa Qb (0-Qa Qb (Qa Qb (Qa Qb (imax c.fy c.ty*a.d)-a.y)*b.d)) = -((imax c.fy c.ty*a.d-a.y)*b.d):=h3.2.1
   have rb:=h3.2.2
   have rm1:Qa Qb (0-BY) = -BY:=W_eq (by omega) (by omega) |>.trans (by omega)
   have rm2:Qa Qb (0-Qa Qb (0-BY))=BY:=by rw [rm1]; exact (W_eq (by omega) (by omega)).trans (by omega)
   clear h2 h3
   generalize (imax c.fy c.ty*a.d-a.y)*b.d=A at *
   have fin:∀ n' d' m' k' : Int,bdQ n' d' m' k'->(0<=n'/\m'<=k')->Yi [] n' d' m' k'=R->(bdQ n' d' m' k'/\(0<=n'/\m'<=k')/\(((2:Int)=0/\Yi (((a.y-imin c.fy c.ty*a.d)*b.d,(b.y*a.d-a.y*b.d))::((A,-(b.y*a.d-a.y*b.d))::[])) n' d' m' k'=R)\/((2:Int)=1/\Yi ((A,-(b.y*a.d-a.y*b.d))::[]) n' d' m' k'=R)\/((2:Int)=2/\Yi [] n' d' m' k'=R))):=fun n' d' m' k' g1 g2 g3=>⟨g1,g2,by rw [<-y1]; exact .inr (.inr ⟨rfl,g3⟩)⟩
   rcases Sv BY 0 with hv|hv|hv
   ·skip
    have ht:cmps [I (Qa Qb (0-Qa Qb (Qa Qb (Qa Qb (imax c.fy c.ty*a.d)-a.y)*b.d))),I (Qa Qb (0-BY)),I n,I d]=some ⟨I (cmpQ (-A) (-BY) n d),[]⟩:=by rw [ra',rm1]; exact Xl ⟨by omega,⟨hbd.1.1,by have:=hbd.1.2; omega⟩,by omega,by have:=hbd.2.2.1; omega⟩
    by_cases hc:0<cmpQ (-A) (-BY) n d
    ·rw [Zlv (by omega) hc] at hR
     have hA:0 <= -A:=Zrc hc hbd.1.1 hnm.1 (by omega)
     generalize cmpQ (-A) (-BY) n d=Q at *
     refine bs.av (sx:=nos) Yl ?_
     repeat'(first|refine wk3 ?_|(refine wk2 ?_ ?_<;>intro _)|refine wk4 ?_|fail);all_goals(conv=>whnf)
     exact Qn ⟨(2,Qa Qb (0-Qa Qb (Qa Qb (Qa Qb (imax c.fy c.ty*a.d)-a.y)*b.d)),(Qa Qb (0-BY)),m,k),[],rfl,kps,kps,fin (Qa Qb (0-Qa Qb (Qa Qb (Qa Qb (imax c.fy c.ty*a.d)-a.y)*b.d))) ((Qa Qb (0-BY))) m k (by rw [ra',rm1]; exact ⟨by omega,hbd.2.1,by omega,hbd.2.2.2⟩) (by rw [ra']; omega) (by rw [ra',rm1]; exact hR),by dsimp only; omega⟩
    ·rw [Zhr (by omega) hc] at hR
     generalize cmpQ (-A) (-BY) n d=Q at *
     refine bs.av (sx:=nos) Yl ?_
     repeat'(first|refine wk3 ?_|(refine wk2 ?_ ?_<;>intro _)|refine wk4 ?_|fail);all_goals(conv=>whnf)
     exact Qn ⟨(2,n,d,m,k),[],rfl,kps,kps,fin _ _ _ _ hbd hnm hR,by dsimp only; omega⟩
   ·subst hv
    rw [show (-0:Int)=0 by decide] at hR
    by_cases hneg:A<0
    ·rw [Zfz hneg] at hR
     rw [<-hR]
     refine bs.av (sx:=nos) Yl ?_
     repeat'(first|refine wk3 ?_|(refine wk2 ?_ ?_<;>intro _)|refine wk4 ?_|fail);all_goals(conv=>whnf)
     exact Zc rfl
    ·rw [Zf0 hneg] at hR
     refine bs.av (sx:=nos) Yl ?_
     repeat'(first|refine wk3 ?_|(refine wk2 ?_ ?_<;>intro _)|refine wk4 ?_|fail);all_goals(conv=>whnf)
     exact Qn ⟨(2,n,d,m,k),[],rfl,kps,kps,fin _ _ _ _ hbd hnm hR,by dsimp only; omega⟩
   ·skip
    have ht:cmps [I (Qa Qb (Qa Qb (Qa Qb (imax c.fy c.ty*a.d)-a.y)*b.d)),I (Qa Qb (0-Qa Qb (0-BY))),I m,I k]=some ⟨I (cmpQ A (-(-BY)) m k),[]⟩:=by rw [ra,rm2,Td]; exact Xl (d:=_) ⟨by omega,⟨hbd.2.1.1,by have:=hbd.2.1.2; omega⟩,by omega,by have:=hbd.2.2.2; omega⟩
    by_cases hc:cmpQ A (-(-BY)) m k<0
    ·rw [Zlw (by omega) hc] at hR
     have hA:A <= -(-BY):=Zrb hc hbd.2.1.1 hnm.2 (by omega)
     generalize cmpQ A (-(-BY)) m k=Q at *
     refine bs.av (sx:=nos) Yl ?_
     repeat'(first|refine wk3 ?_|(refine wk2 ?_ ?_<;>intro _)|refine wk4 ?_|fail);all_goals(conv=>whnf)
     exact Qn ⟨(2,n,d,Qa Qb (Qa Qb (Qa Qb (imax c.fy c.ty*a.d)-a.y)*b.d),(Qa Qb (0-Qa Qb (0-BY)))),[],rfl,kps,kps,fin n d (Qa Qb (Qa Qb (Qa Qb (imax c.fy c.ty*a.d)-a.y)*b.d)) ((Qa Qb (0-Qa Qb (0-BY)))) (by rw [ra,rm2]; exact ⟨hbd.1,by omega,hbd.2.2.1,by omega⟩) (by rw [ra,rm2]; omega) (by rw [ra,rm2,<-Td BY]; exact hR),by dsimp only; omega⟩
    ·rw [Zhs (by omega) hc] at hR
     generalize cmpQ A (-(-BY)) m k=Q at *
     refine bs.av (sx:=nos) Yl ?_
     repeat'(first|refine wk3 ?_|(refine wk2 ?_ ?_<;>intro _)|refine wk4 ?_|fail);all_goals(conv=>whnf)
     exact Qn ⟨(2,n,d,m,k),[],rfl,kps,kps,fin _ _ _ _ hbd hnm hR,by dsimp only; omega⟩
  ·refine bs.av (sx:=nos) Yl ?_
   repeat'(first|refine wk3 ?_|(refine wk2 ?_ ?_<;>intro _)|refine wk4 ?_|fail);all_goals(conv=>whnf)
   refine Rn (bs.av (sx:=nos) Yl ?_)
   have t1:=Xl hbd.ok
   have t2:=Xl (n:=n) (d:=d) (m:=1) (k:=1) ⟨hbd.ok.1,by omega,hbd.ok.2.2.1,by omega⟩
   have t3:=Xl (n:=m) (d:=k) (m:=0) (k:=1) ⟨hbd.ok.2.1,by omega,hbd.ok.2.2.2,by omega⟩
   rw [Yi] at hR
   subst hR
   generalize cmpQ n d m k=q1 at *
   generalize cmpQ n d 1 1=q2 at *
   generalize cmpQ m k 0 1=q3 at *
   repeat'(first|refine wk0 ?_|(refine wk2 ?_ ?_<;>intro _)|refine wk4 ?_|fail);all_goals(conv=>whnf)
   all_goals exact Zc (by clear t1 t2 t3 h2 h3 y1 y3 hbd hnm; simp_all<;>(try (intros; omega)))
theorem c104 {w:Wl} {n sx sy:Int} (h:Str w n sx sy) {p q:Pt} (hp:PtR p) (hq:PtR q):PCall Tryz.prog 134 [w.ln.av,p.av,q.av] ⟨Bo (Zb7 w.ln p q),[]⟩:=by
 have ep:w.ln.beside p=bsP w sx sy p.pl:=Ve (z:=p.z) h hp.ok
 have eq:w.ln.beside q=bsP w sx sy q.pl:=Ve (z:=q.z) h hq.ok
 have ap:w.ln.along p=alP w sx sy p.pl:=Zd5 (z:=p.z) h hp.ok
 have aq:w.ln.along q=alP w sx sy q.pl:=Zd5 (z:=q.z) h hq.ok
 have ef:w.ln.full=ful n sx sy:=Zln h
 obtain ⟨b1,b2⟩:=Zre h hp
 obtain ⟨b3,b4⟩:=Zre h hq
 obtain ⟨f1,f2⟩:=Zuo h
 rw [<-ep,<-ap] at *
 rw [<-eq,<-aq] at *
 rw [<-ef] at *
 have hn:w.ln.n≠0:=by rw [h.ln.2.2.1]; have:=h.hn; omega
 clear ep eq ap aq ef h
 generalize w.ln=l at *
 have dp:=hp.d0
 have dp1:=hp.d1
 have dq:=hq.d0
 have dq1:=hq.d1
 clear hp hq
 obtain ⟨lx,ly,ldx,ldy⟩:=l
 obtain ⟨px,py,pz,pd⟩:=p
 obtain ⟨qx,qy,qz,qd⟩:=q
 dsimp only at *
 obtain ⟨f,hf⟩:∃ f,(Rj lx ly ldx ldy).beside ⟨px,py,pz,pd⟩=f:=⟨_,rfl⟩
 obtain ⟨g,hg⟩:∃ f,(Rj lx ly ldx ldy).beside ⟨qx,qy,qz,qd⟩=f:=⟨_,rfl⟩
 obtain ⟨lo,hlo⟩:∃ f,(Rj lx ly ldx ldy).along ⟨px,py,pz,pd⟩=f:=⟨_,rfl⟩
 obtain ⟨hi,hhi⟩:∃ f,(Rj lx ly ldx ldy).along ⟨qx,qy,qz,qd⟩=f:=⟨_,rfl⟩
 obtain ⟨F,hF⟩:∃ f,(Rj lx ly ldx ldy).full=f:=⟨_,rfl⟩
 have ha1:asr (decide ((Rj lx ly ldx ldy).n≠0)) ⟨I ((Rj lx ly ldx ldy).beside ⟨px,py,pz,pd⟩),[]⟩=some ⟨I f,[]⟩:=by rw [Xm hn,hf]
 have ha2:asr (decide ((Rj lx ly ldx ldy).n≠0)) ⟨I ((Rj lx ly ldx ldy).beside ⟨qx,qy,qz,qd⟩),[]⟩=some ⟨I g,[]⟩:=by rw [Xm hn,hg]
 have ha3:asr (decide ((Rj lx ly ldx ldy).n≠0)) ⟨I ((Rj lx ly ldx ldy).along ⟨px,py,pz,pd⟩),[]⟩=some ⟨I lo,[]⟩:=by rw [Xm hn,hlo]
 have ha4:asr (decide ((Rj lx ly ldx ldy).n≠0)) ⟨I ((Rj lx ly ldx ldy).along ⟨qx,qy,qz,qd⟩),[]⟩=some ⟨I hi,[]⟩:=by rw [Xm hn,hhi]
 have ha5:asr (decide ((Rj lx ly ldx ldy).n≠0)) ⟨I (Rj lx ly ldx ldy).full,[]⟩=some ⟨I F,[]⟩:=by rw [Xm hn,hF]
 unfold Zb7
 dsimp only
 rw [hf,hg,hlo,hhi,hF]
 rw [hf] at b1
 rw [hg] at b3
 rw [hlo] at b2
 rw [hhi] at b4
 rw [hF] at f1 f2
 have hk0:PCOK Tryz.prog (ins 12 r30 kC2):=Zi (f0:=12) (r:=r30) (fun a res h=>by unfold r30 at h; split at h<;>cases h; exact c30 _ _ _) Yl
 clear hn hf hg hlo hhi hF
 refine bs.pv (sx:=nos) hk0 Tryz.func134 (by kernel_rfl) (by kernel_rfl) rfl ?_
 by_cases h0:f=0/\g=0
 ·rw [if_pos h0]
  obtain ⟨rfl,rfl⟩:=h0
  have t:=Xl (n:=lo) (d:=pd) (m:=hi) (k:=qd) ⟨by omega,by omega,by omega,by omega⟩
  generalize cmpQ lo pd hi qd=c at *
  rcases Sv c 0 with hc|hc|hc
  ·rw [if_neg (by omega),if_pos hc]
   repeat'(first|refine wk3 ?_|(refine wk2 ?_ ?_<;>intro _)|refine wk4 ?_|fail);all_goals(conv=>whnf)
   all_goals clear ha1 ha2 ha3 ha4 ha5 hk0
   all_goals first|exact Zc rfl|(refine Zc ?_; simp_all; done)|(refine Zc ?_; simp_all; intros; omega)|(exfalso; simp_all; done)|(exfalso; simp_all; omega)
  ·rw [if_pos hc]
   repeat'(first|refine wk3 ?_|(refine wk2 ?_ ?_<;>intro _)|refine wk4 ?_|fail);all_goals(conv=>whnf)
   all_goals clear ha1 ha2 ha3 ha4 ha5 hk0
   all_goals first|exact Zc rfl|(refine Zc ?_; simp_all; done)|(refine Zc ?_; simp_all; intros; omega)|(exfalso; simp_all; done)|(exfalso; simp_all; omega)
  ·rw [if_neg (by omega),if_neg (by omega)]
   repeat'(first|refine wk3 ?_|(refine wk2 ?_ ?_<;>intro _)|refine wk4 ?_|fail);all_goals(conv=>whnf)
   all_goals clear ha1 ha2 ha3 ha4 ha5 hk0
   all_goals first|exact Zc rfl|(refine Zc ?_; simp_all; done)|(refine Zc ?_; simp_all; intros; omega)|(exfalso; simp_all; done)|(exfalso; simp_all; omega)
 ·rw [if_neg h0]
  have hw:=Zdm f g
  by_cases h1:0<=Qa Qb (sgn f*sgn g)
  ·rw [if_pos h1]
   repeat'(first|refine wk3 ?_|(refine wk2 ?_ ?_<;>intro _)|refine wk4 ?_|fail);all_goals(conv=>whnf)
   all_goals clear ha1 ha2 ha3 ha4 ha5 hk0
   all_goals first|exact Zc rfl|(refine Zc ?_; simp_all; done)|(refine Zc ?_; simp_all; intros; omega)|(exfalso; simp_all; done)|(exfalso; simp_all; omega)
  ·rw [if_neg h1]
   have h2:=sgn_mul_neg.1 (show sgn f*sgn g<0 by omega)
   have m1:=Zl (a:=lo) (b:=g) (A:=2000000000) (B:=2000000000) (by omega) (by omega)
   have m2:=Zl (a:=hi) (b:=f) (A:=2000000000) (B:=2000000000) (by omega) (by omega)
   have m3:=Zl (a:=g) (b:=pd) (A:=2000000000) (B:=100000) (by omega) (by omega)
   have m4:=Zl (a:=f) (b:=qd) (A:=2000000000) (B:=100000) (by omega) (by omega)
   have eN:Qa Qb (Qa Qb (lo*g)-Qa Qb (hi*f))=lo*g-hi*f:=by rw [W_eq (n:=lo*g) (by omega) (by omega),W_eq (n:=hi*f) (by omega) (by omega),W_eq (by omega) (by omega)]
   have eD:Qa Qb (Qa Qb (g*pd)-Qa Qb (f*qd))=g*pd-f*qd:=by rw [W_eq (n:=g*pd) (by omega) (by omega),W_eq (n:=f*qd) (by omega) (by omega),W_eq (by omega) (by omega)]
   have eN2:Qa Qb (0-Qa Qb (Qa Qb (lo*g)-Qa Qb (hi*f))) = -(lo*g-hi*f):=by rw [eN,W_eq (by omega) (by omega)]; omega
   have eD2:Qa Qb (0-Qa Qb (Qa Qb (g*pd)-Qa Qb (f*qd))) = -(g*pd-f*qd):=by rw [eD,W_eq (by omega) (by omega)]; omega
   rcases h2 with h2|h2
   ·have k1:=(Za2 dp).2 h2.2
    have k2:=(Zb8 dq).2 h2.1
    rw [Ra] at k1 k2
    have t:=Xl (n:=Qa Qb (Qa Qb (lo*g)-Qa Qb (hi*f))) (d:=Qa Qb (Qa Qb (g*pd)-Qa Qb (f*qd))) (m:=F) (k:=1) ⟨by omega,by omega,by omega,by omega⟩
    rw [if_neg (by omega)]
    generalize cmpQ (Qa Qb (Qa Qb (lo*g)-Qa Qb (hi*f))) (Qa Qb (Qa Qb (g*pd)-Qa Qb (f*qd))) F 1=c at *
    repeat'(first|refine wk3 ?_|(refine wk2 ?_ ?_<;>intro _)|refine wk4 ?_|fail);all_goals(conv=>whnf)
    all_goals clear ha1 ha2 ha3 ha4 ha5 hk0
    all_goals first|exact Zc rfl|(refine Zc ?_; simp_all; done)|(refine Zc ?_; simp_all; intros; omega)|(exfalso; simp_all; done)|(exfalso; simp_all; omega)
   ·have k1:=(Zb8 dp).2 h2.2
    have k2:=(Za2 dq).2 h2.1
    rw [Ra] at k1 k2
    have t:=Xl (n:=Qa Qb (0-Qa Qb (Qa Qb (lo*g)-Qa Qb (hi*f)))) (d:=Qa Qb (0-Qa Qb (Qa Qb (g*pd)-Qa Qb (f*qd)))) (m:=F) (k:=1) ⟨by omega,by omega,by omega,by omega⟩
    rw [if_pos (by omega)]
    generalize cmpQ (Qa Qb (0-Qa Qb (Qa Qb (lo*g)-Qa Qb (hi*f)))) (Qa Qb (0-Qa Qb (Qa Qb (g*pd)-Qa Qb (f*qd)))) F 1=c at *
    repeat'(first|refine wk3 ?_|(refine wk2 ?_ ?_<;>intro _)|refine wk4 ?_|fail);all_goals(conv=>whnf)
    all_goals clear ha1 ha2 ha3 ha4 ha5 hk0
    all_goals first|exact Zc rfl|(refine Zc ?_; simp_all; done)|(refine Zc ?_; simp_all; intros; omega)|(exfalso; simp_all; done)|(exfalso; simp_all; omega)
theorem c107 {c:Can} (hr:CanOk c) (ht:Int) {p q:Pt} (hp:PtR p) (hq:PtR q):PCall Tryz.prog 135 [.agg c.av,I ht,p.av,q.av] ⟨Bo (blkR c.rc ht p q),[]⟩:=by
 have hk0:=Zd (c190 hr hp hq) Zcp
 obtain ⟨px,py,pz,pd⟩:=p
 obtain ⟨qx,qy,qz,qd⟩:=q
 clear hp hq hr
 unfold blkR
 dsimp only
 have z1:zOff ht ⟨px,py,pz,pd⟩=Qa Qb (pz-Qa Qb (ht*pd)):=rfl
 have z2:zOff ht ⟨qx,qy,qz,qd⟩=Qa Qb (qz-Qa Qb (ht*qd)):=rfl
 rw [z1,z2]
 clear z1 z2
 have eD:onX pd qd (Qa Qb (qz-Qa Qb (ht*qd))) (Qa Qb (pz-Qa Qb (ht*pd)))=(Qa Qb (Qa Qb ((Qa Qb (qz-Qa Qb (ht*qd)))*pd)-Qa Qb ((Qa Qb (pz-Qa Qb (ht*pd)))*qd))):=by unfold onX; rw [Ra pd,Ra qd]
 have hx1:PCall Tryz.prog 208 [.agg c.av,P4 (Qa Qb (Qa Qb (px*(Qa Qb (qz-Qa Qb (ht*qd))))-Qa Qb (qx*(Qa Qb (pz-Qa Qb (ht*pd)))))) (Qa Qb (Qa Qb (py*(Qa Qb (qz-Qa Qb (ht*qd))))-Qa Qb (qy*(Qa Qb (pz-Qa Qb (ht*pd)))))) 0 (Qa Qb (Qa Qb ((Qa Qb (qz-Qa Qb (ht*qd)))*pd)-Qa Qb ((Qa Qb (pz-Qa Qb (ht*pd)))*qd)))] ⟨Bo (c.rc.has (onX px qx (Qa Qb (qz-Qa Qb (ht*qd))) (Qa Qb (pz-Qa Qb (ht*pd)))) (onX py qy (Qa Qb (qz-Qa Qb (ht*qd))) (Qa Qb (pz-Qa Qb (ht*pd)))) (onX pd qd (Qa Qb (qz-Qa Qb (ht*qd))) (Qa Qb (pz-Qa Qb (ht*pd))))),[]⟩:=by rw [eD]; exact c191 c ⟨(Qa Qb (Qa Qb (px*(Qa Qb (qz-Qa Qb (ht*qd))))-Qa Qb (qx*(Qa Qb (pz-Qa Qb (ht*pd)))))),(Qa Qb (Qa Qb (py*(Qa Qb (qz-Qa Qb (ht*qd))))-Qa Qb (qy*(Qa Qb (pz-Qa Qb (ht*pd)))))),0,(Qa Qb (Qa Qb ((Qa Qb (qz-Qa Qb (ht*qd)))*pd)-Qa Qb ((Qa Qb (pz-Qa Qb (ht*pd)))*qd)))⟩
 have hx2:PCall Tryz.prog 208 [.agg c.av,P4 (Qa Qb (0-(Qa Qb (Qa Qb (px*(Qa Qb (qz-Qa Qb (ht*qd))))-Qa Qb (qx*(Qa Qb (pz-Qa Qb (ht*pd)))))))) (Qa Qb (0-(Qa Qb (Qa Qb (py*(Qa Qb (qz-Qa Qb (ht*qd))))-Qa Qb (qy*(Qa Qb (pz-Qa Qb (ht*pd)))))))) 0 (Qa Qb (0-(Qa Qb (Qa Qb ((Qa Qb (qz-Qa Qb (ht*qd)))*pd)-Qa Qb ((Qa Qb (pz-Qa Qb (ht*pd)))*qd)))))] ⟨Bo (c.rc.has (Qa Qb (0-onX px qx (Qa Qb (qz-Qa Qb (ht*qd))) (Qa Qb (pz-Qa Qb (ht*pd))))) (Qa Qb (0-onX py qy (Qa Qb (qz-Qa Qb (ht*qd))) (Qa Qb (pz-Qa Qb (ht*pd))))) (Qa Qb (0-onX pd qd (Qa Qb (qz-Qa Qb (ht*qd))) (Qa Qb (pz-Qa Qb (ht*pd)))))),[]⟩:=by rw [eD]; exact c191 c ⟨(Qa Qb (0-(Qa Qb (Qa Qb (px*(Qa Qb (qz-Qa Qb (ht*qd))))-Qa Qb (qx*(Qa Qb (pz-Qa Qb (ht*pd)))))))),(Qa Qb (0-(Qa Qb (Qa Qb (py*(Qa Qb (qz-Qa Qb (ht*qd))))-Qa Qb (qy*(Qa Qb (pz-Qa Qb (ht*pd)))))))),0,(Qa Qb (0-(Qa Qb (Qa Qb ((Qa Qb (qz-Qa Qb (ht*qd)))*pd)-Qa Qb ((Qa Qb (pz-Qa Qb (ht*pd)))*qd)))))⟩
 have e0:Qa Qb (0-0)=0:=rfl
 by_cases h0:(Qa Qb (pz-Qa Qb (ht*pd)))=0/\(Qa Qb (qz-Qa Qb (ht*qd)))=0
 ·rw [if_pos h0]
  obtain ⟨h1,h2⟩:=h0
  refine bs.pv (sx:=nos) hk0 Tryz.func135 (by kernel_rfl) (by kernel_rfl) rfl ?_
  repeat'(first|refine wk3 ?_|(refine wk2 ?_ ?_<;>intro _)|refine wk4 ?_|fail);all_goals(conv=>whnf)
  exact Zc rfl
 ·rw [if_neg h0]
  by_cases h1:0<=Qa Qb (sgn (Qa Qb (pz-Qa Qb (ht*pd)))*sgn (Qa Qb (qz-Qa Qb (ht*qd))))
  ·rw [if_pos h1]
   refine bs.pv (sx:=nos) hk0 Tryz.func135 (by kernel_rfl) (by kernel_rfl) rfl ?_
   repeat'(first|refine wk3 ?_|(refine wk2 ?_ ?_<;>intro _)|refine wk4 ?_|fail);all_goals(conv=>whnf)
   all_goals first|exact Zc rfl|(refine Zc ?_; simp_all; done)|(refine Zc ?_; simp_all; intros; omega)|(exfalso; simp_all; done)|(exfalso; simp_all; omega)
  ·rw [if_neg h1]
   by_cases h2:onX pd qd (Qa Qb (qz-Qa Qb (ht*qd))) (Qa Qb (pz-Qa Qb (ht*pd)))<0
   ·rw [if_pos h2]
    have hk1:=Zd hx2 hk0
    generalize c.rc.has (Qa Qb (0-onX px qx (Qa Qb (qz-Qa Qb (ht*qd))) (Qa Qb (pz-Qa Qb (ht*pd))))) (Qa Qb (0-onX py qy (Qa Qb (qz-Qa Qb (ht*qd))) (Qa Qb (pz-Qa Qb (ht*pd))))) (Qa Qb (0-onX pd qd (Qa Qb (qz-Qa Qb (ht*qd))) (Qa Qb (pz-Qa Qb (ht*pd)))))=b at *
    rw [eD] at h2
    refine bs.pv (sx:=nos) hk1 Tryz.func135 (by kernel_rfl) (by kernel_rfl) rfl ?_
    repeat'(first|refine wk3 ?_|(refine wk2 ?_ ?_<;>intro _)|refine wk4 ?_|fail);all_goals(conv=>whnf)
    all_goals first|exact Zc rfl|(refine Zc ?_; simp_all; done)|(refine Zc ?_; simp_all; intros; omega)|(exfalso; simp_all; done)|(exfalso; simp_all; omega)
   ·rw [if_neg h2]
    have hk1:=Zd hx1 hk0
    generalize c.rc.has (onX px qx (Qa Qb (qz-Qa Qb (ht*qd))) (Qa Qb (pz-Qa Qb (ht*pd)))) (onX py qy (Qa Qb (qz-Qa Qb (ht*qd))) (Qa Qb (pz-Qa Qb (ht*pd)))) (onX pd qd (Qa Qb (qz-Qa Qb (ht*qd))) (Qa Qb (pz-Qa Qb (ht*pd))))=b at *
    rw [eD] at h2
    refine bs.pv (sx:=nos) hk1 Tryz.func135 (by kernel_rfl) (by kernel_rfl) rfl ?_
    repeat'(first|refine wk3 ?_|(refine wk2 ?_ ?_<;>intro _)|refine wk4 ?_|fail);all_goals(conv=>whnf)
    all_goals first|exact Zc rfl|(refine Zc ?_; simp_all; done)|(refine Zc ?_; simp_all; intros; omega)|(exfalso; simp_all; done)|(exfalso; simp_all; omega)
def wlA (cs:List (Int × Int)) (p q:Pt):Nat->Nat->Bool
 | _,0=>false
 | k,n+1=>Zb7 (lnOf cs k) p q||wlA cs p q (k+1) n
def blkB (h:Hal) (s:Stg) (p q:Pt):Nat->List Can->Bool
 | _,[]=>false
 | j,c::l=>blkR c.rc (Vx h s j) p q||blkB h s p q (j+1) l
def midR (p q:Pt):Pt:=⟨midX p q,midY p q,0,midD p q⟩
def Zi3 (h:Hal) (s:Stg) (p q:Pt):Bool:=!zBad h p q&&(!wlA h.cs p q 0 h.ws.length&&(Zp h (midR p q) && !blkB h s p q 0 h.ks))
noncomputable abbrev onWs (h:Hal) (p q:Pt):List AV->Option PRes:=famA (fun k:Nat=>k<h.cs.length) (fun k=>[(lnOf h.cs k).av,p.av,q.av]) (fun k=>⟨Bo (Zb7 (lnOf h.cs k) p q),[]⟩)
theorem Zxa {h:Hal} {p q:Pt} {k:Nat} (hk:k<h.cs.length):onWs h p q [(lnOf h.cs k).av,p.av,q.av]=some ⟨Bo (Zb7 (lnOf h.cs k) p q),[]⟩ :=
 Zq (p:=fun k:Nat=>k<h.cs.length) (g:=fun k=>[(lnOf h.cs k).av,p.av,q.av]) (r:=fun k=>⟨Bo (Zb7 (lnOf h.cs k) p q),[]⟩) (k:=k) (fun j hj=>by
  have e:lnOf h.cs j=lnOf h.cs k:=by
   simp only [Qv,Oc,Sj,true_and,and_true] at hj
   generalize lnOf h.cs j=a at *
   generalize lnOf h.cs k=b at *
   obtain ⟨a1,a2,a3,a4⟩:=a
   obtain ⟨b1,b2,b3,b4⟩:=b
   simp_all
  rw [e]) hk
noncomputable abbrev onCs (h:Hal) (s:Stg) (p q:Pt):List AV->Option PRes:=famA (fun j:Nat=>j<h.ks.length) (fun j=>[.agg (Pb ((h.ks[j]?).getD ⟨⟨#[]⟩,⟨#[]⟩,0,0,0,0,[]⟩)),I (Vx h s j),p.av,q.av]) (fun j=>⟨Bo (blkR ((h.ks[j]?).getD ⟨⟨#[]⟩,⟨#[]⟩,0,0,0,0,[]⟩).rc (Vx h s j) p q),[]⟩)
theorem Zxb {h:Hal} {s:Stg} {p q:Pt} {j:Nat} (hj:j<h.ks.length):onCs h s p q [.agg (Pb h.ks[j]),I (Vx h s j),p.av,q.av]=some ⟨Bo (blkR h.ks[j].rc (Vx h s j) p q),[]⟩:=by
 have:=Zq (p:=fun j:Nat=>j<h.ks.length) (g:=fun j=>[.agg (Pb ((h.ks[j]?).getD ⟨⟨#[]⟩,⟨#[]⟩,0,0,0,0,[]⟩)),I (Vx h s j),p.av,q.av]) (r:=fun j=>⟨Bo (blkR ((h.ks[j]?).getD ⟨⟨#[]⟩,⟨#[]⟩,0,0,0,0,[]⟩).rc (Vx h s j) p q),[]⟩) (k:=j) (fun i hi=>by
  simp only [Qv,Oc,Sj,true_and,and_true] at hi
  generalize ((h.ks[i]?).getD ⟨⟨#[]⟩,⟨#[]⟩,0,0,0,0,[]⟩:Can)=a at *
  generalize ((h.ks[j]?).getD ⟨⟨#[]⟩,⟨#[]⟩,0,0,0,0,[]⟩:Can)=b at *
  obtain ⟨a1,a2,a3,a4,a5,a6,a7⟩:=a
  obtain ⟨b1,b2,b3,b4,b5,b6,b7⟩:=b
  obtain ⟨⟨_,_,h3,h4,h5,h6,_⟩,h7⟩:=hi
  simp only at h3 h4 h5 h6
  subst h3 h4 h5 h6
  rw [h7]) hj
 rw [Qg hj] at this
 exact this
noncomputable abbrev hgts (h:Hal) (s:Stg):List AV->Option PRes:=famA (fun j:Nat=>j<h.ks.length) (fun j=>[h.av,s.av,I j]) (fun j=>⟨I (Vx h s j),[]⟩)
theorem Zxp {h:Hal} {s:Stg} {j:Nat} (hj:j<h.ks.length):hgts h s [h.av,s.av,I j]=some ⟨I (Vx h s j),[]⟩ :=
 Zq (p:=fun j:Nat=>j<h.ks.length) (g:=fun j:Nat=>[h.av,s.av,I j]) (r:=fun j=>⟨I (Vx h s j),[]⟩) (k:=j) (fun i hi=>by
  simp only [Qv,Sj,true_and,and_true] at hi
  have:i=j:=by omega
  subst this; rfl) hj
noncomputable def kF7 (h:Hal) (s:Stg) (p q:Pt):PC:=ins 134 (onWs h p q) (ins 135 (onCs h s p q) (ins 70 (hgts h s) (ins 128 (one [h.av,(midR p q).av] ⟨Bo (Zp h (midR p q)),[]⟩) (kR5 h))))
theorem Yct {h:Hal} {s:Stg} (g:Sit h s) {p q:Pt} (hp:PtR p) (hq:PtR q):PCOK Tryz.prog (kF7 h s p q):=by
 refine Zu (fun k hk=>?_) (Zu (fun j hj=>?_) (Zu (fun j hj=>c108 g hj) (Zd (c106 g.ok.f g.fine.le.2.2.1 (Ztx g.fine.st) (midR p q)) (Zkj g.ok.f))))
 ·obtain ⟨n,sx,sy,hs⟩:=g.fine.st k hk
  rw [Zbg]
  exact c104 hs hp hq
 ·rw [Qg hj]
  exact c107 (Ze7 g.fine hj).1 _ hp hq
theorem c39 {h:Hal} {s:Stg} (g:Sit h s) {p q:Pt} (hp:PtR p) (hq:PtR q):PCall Tryz.prog 74 [h.av,s.av,wayA p q] ⟨Bo (Zi3 h s p q),[]⟩:=by
 have hk:=Yct g hp hq
 refine bs.pv (sx:=nos) hk Tryz.func74 (by kernel_rfl) (by kernel_rfl) rfl ?_
 cases hz:zBad h p q with
 | true =>
  unfold Zi3
  rw [hz]
  repeat'(first|refine wk3 ?_|(refine wk2 ?_ ?_<;>intro _)|refine wk4 ?_|fail);all_goals(conv=>whnf)
  all_goals first
   | exact Zc rfl
   | (exfalso; clear hk; simp_all [zBad]; done)
   | (exfalso; clear hk; simp_all [zBad]; omega)
 | false =>
  have e:Zi3 h s p q=(!wlA h.cs p q 0 h.ws.length&&(Zp h (midR p q) && !blkB h s p q 0 h.ks)):=by unfold Zi3; rw [hz]; rfl
  rw [e]
  clear e
  unfold zBad at hz
  simp only [Bool.or_eq_false_iff,Bool.and_eq_false_iff,decide_eq_false_iff_not] at hz
  obtain ⟨⟨⟨⟨⟨z1,z2⟩,z3⟩,z4⟩,z5⟩,z6⟩:=hz
  repeat'(first|refine wk3 ?_|(refine wk2 ?_ ?_<;>intro _)|refine wk4 ?_|fail);all_goals(conv=>whnf)
  all_goals try (exfalso; clear hk; simp_all; done)
  all_goals
   clear z1 z2 z3 z4 z5 z6
   have l3:=Yd h.ws
   have l4:=Yt h.ks
   have f3:=g.ok.f.2.2.1
   have f4:=g.ok.f.2.2.2.1
   have hwc:=g.fine.le.2.2.1
   refine Zw (S:=Nat × Int) (fun t=>h.ws.length-t.1) (fun t=>[(3,.ptr 0 0 0),(4,.ptr 1 0 0),(6,Bo false),(7,.ptr 7 0 0),(8,.ptr 8 0 0),(9,I t.2)]) (fun _=>[(8,.row 4 [[I q.x,I q.y,I q.z,I q.d]] true false),(7,.row 4 [[I p.x,I p.y,I p.z,I p.d]] true false),(1,.row 2 [s.cells] true false),(0,.row 9 [h.cells] true false)]) 20 20 (fun t=>t.2=t.1/\t.1<=h.ws.length/\wlA h.cs p q t.1 (h.ws.length-t.1)=wlA h.cs p q 0 h.ws.length) (0,0) ⟨rfl,Qo _,rfl⟩ (Qk rfl) [] rfl (kps) (kps) ?_
   rintro ⟨k,i⟩ ⟨hi,hkk,hh⟩
   dsimp only at hi hkk hh ⊢
   subst hi
   refine bs.av (sx:=nos) hk ?_
   by_cases hlt:k<h.ws.length
   ·have e:h.ws.length-k=(h.ws.length-(k+1))+1:=by omega
    rw [e,wlA] at hh
    have hl:=Xs (h:=h) (k:=k) (by omega)
    have hb:=Zxa (h:=h) (p:=p) (q:=q) (k:=k) (by omega)
    generalize Zb7 (lnOf h.cs k) p q=b at *
    cases b with
    | true =>
     rw [<-hh]
     repeat'(first|refine wk3 ?_|(refine wk2 ?_ ?_<;>intro _)|refine wk4 ?_|fail);all_goals(conv=>whnf)
     exact Zc rfl
    | false =>
     rw [Ww] at hh
     repeat'(first|refine wk3 ?_|(refine wk2 ?_ ?_<;>intro _)|refine wk4 ?_|fail);all_goals(conv=>whnf)
     exact Qn ⟨(k+1,_),[],rfl,kps,kps,⟨Zf (by omega),hlt,hh⟩,by dsimp only; omega⟩
   ·rw [show h.ws.length-k=0 by omega,wlA] at hh
    rw [<-hh]
    have hm:midR p q=⟨midX p q,midY p q,0,midD p q⟩:=rfl
    cases hin:Zp h (midR p q) with
    | false =>
     unfold kF7
     rw [hin]
     repeat'(first|refine wk3 ?_|(refine wk2 ?_ ?_<;>intro _)|refine wk4 ?_|fail);all_goals(conv=>whnf)
     all_goals first
      | exact Zc rfl
      | (exfalso; simp_all; done)
    | true =>
     unfold kF7
     rw [hin]
     repeat'(first|refine wk3 ?_|(refine wk2 ?_ ?_<;>intro _)|refine wk4 ?_|fail);all_goals(conv=>whnf)
     refine Zw (S:=Nat × Int) (fun t=>h.ks.length-t.1) (fun t=>[(3,.ptr 0 0 0),(4,.ptr 1 0 0),(6,Bo false),(7,.ptr 7 0 0),(8,.ptr 8 0 0),(10,I t.2)]) (fun _=>[(8,.row 4 [[I q.x,I q.y,I q.z,I q.d]] true false),(7,.row 4 [[I p.x,I p.y,I p.z,I p.d]] true false),(1,.row 2 [s.cells] true false),(0,.row 9 [h.cells] true false)]) 40 40 (fun t=>t.2=t.1/\t.1<=h.ks.length/\blkB h s p q t.1 (h.ks.drop t.1)=blkB h s p q 0 h.ks) (0,0) ⟨rfl,Qo _,rfl⟩ (Qk rfl) [] rfl (kps) (kps) ?_
     clear hh hlt hkk
     rintro ⟨k,i⟩ ⟨hi,hkk,hh⟩
     dsimp only at hi hkk hh ⊢
     subst hi
     refine bs.av (sx:=nos) hk ?_
     by_cases hlt:k<h.ks.length
     ·rw [Qj hlt,blkB] at hh
      have e1:=Zbb hlt
      have hl:=Zxp (s:=s) hlt
      have hb:=Zxb (p:=p) (q:=q) (s:=s) hlt
      generalize blkR h.ks[k].rc (Vx h s k) p q=b at *
      cases b with
      | true =>
       rw [<-hh]
       repeat'(first|refine wk3 ?_|(refine wk2 ?_ ?_<;>intro _)|refine wk4 ?_|fail);all_goals(conv=>whnf)
       exact Zc rfl
      | false =>
       rw [Ww] at hh
       repeat'(first|refine wk3 ?_|(refine wk2 ?_ ?_<;>intro _)|refine wk4 ?_|fail);all_goals(conv=>whnf)
       exact Qn ⟨(k+1,_),[],rfl,kps,kps,⟨Zf (by omega),hlt,hh⟩,by dsimp only; omega⟩
     ·rw [Ql (by omega),blkB] at hh
      rw [<-hh]
      repeat'(first|refine wk3 ?_|(refine wk2 ?_ ?_<;>intro _)|refine wk4 ?_|fail);all_goals(conv=>whnf)
      exact Zc rfl
theorem Zyl {h:Hal} (g:h.fine) {p q:Pt} (hp:PtR p) (hq:PtR q):∀ (n k:Nat),k+n<=h.cs.length->wlA h.cs p q k n=((Oj k n).map (wlOf h.cs)).any (touP p q)
 | 0,_,_=>by simp [wlA]
 | n+1,k,hk=>by
  rw [wlA,List.range'_succ,Sp,List.any_cons,Zyl g hp hq n (k+1) (by omega)]
  congr 1
  obtain ⟨m,sx,sy,hs⟩:=g.st k (by omega)
  rw [Bool.eq_iff_iff,Zfb hs hp hq,Zbg,Zoy hs hp hq]
theorem Zvy {h:Hal} {s:Stg} (g:Sit h s) {p q:Pt} (hp:PtH p) (hq:PtH q):∀ (l:List Can) (j:Nat),h.ks.drop j=l->blkB h s p q j l=blkA h s p q j l
 | [],_,_=>by simp [blkA,blkB]
 | c::l,j,hl=>by
  have hj:j<h.ks.length:=by
   rcases Nat.lt_or_ge j h.ks.length with hj|hj
   ·exact hj
   ·rw [Ql hj] at hl; cases hl
  rw [Qj hj] at hl
  simp only [Qv] at hl
  obtain ⟨rfl,hl⟩:=hl
  have hb:=Zqv g hj
  have ht:=g.fine.ht
  rw [blkA,blkB,Zvy g hp hq l (j+1) hl,Ydt (Zov (Ze7 g.fine hj).1) ⟨by omega,by omega⟩ hp hq]
theorem Ych {p q:Pt} (hp:PtR p) (hq:PtR q):PtOk (midX p q) (midY p q) (midD p q):=by
 obtain ⟨e1,e2,e3⟩:=Zyv hp hq
 rw [e1,e2,e3]
 obtain ⟨a1,a2,a3,a4⟩:=hp
 obtain ⟨b1,b2,b3,b4⟩:=hq
 have m1:=Zl (a:=q.x) (b:=p.d) (A:=500000000) (B:=100000) (by omega) (by omega)
 have m2:=Zl (a:=p.x) (b:=q.d) (A:=500000000) (B:=100000) (by omega) (by omega)
 have m3:=Zl (a:=q.y) (b:=p.d) (A:=500000000) (B:=100000) (by omega) (by omega)
 have m4:=Zl (a:=p.y) (b:=q.d) (A:=500000000) (B:=100000) (by omega) (by omega)
 have m5:=Zl (a:=2*p.d) (b:=q.d) (A:=200000) (B:=100000) (by omega) (by omega)
 have m6:=Int.mul_pos (show 0<2*p.d by omega) b1
 exact ⟨m6,by omega,by omega,by omega⟩
theorem Ya1 {h:Hal} {s:Stg} (g:Sit h s) {p q:Pt} (hp:PtH p) (hq:PtH q):Ze0 h s p q=Zi3 h s p q:=by
 unfold Ze0 Zi3
 have hwc:=g.fine.le.2.2.1
 rw [Zyl g.fine hp.r hq.r _ 0 (by omega),hwc,Zvy g hp hq h.ks 0 rfl,Vv g.fine.st 0 (Ych hp.r hq.r)]
 have:(Oj 0 h.cs.length).map (wlOf h.cs)=wls h.cs:=by unfold wls; rw [List.range_eq_range']
 rw [this]
 rfl
noncomputable abbrev crsT (h:Hal) (s:Stg):List AV->Option PRes:=famA (fun c:Crs=>c.to.wf) (fun c=>[h.av,s.av,c.av]) (fun c=>⟨crAV (crsA h s c),[]⟩)
theorem Zxz {h:Hal} {s:Stg} {c:Crs} (hw:c.to.wf):crsT h s [h.av,s.av,c.av]=some ⟨crAV (crsA h s c),[]⟩ :=
 Zq (p:=fun c:Crs=>c.to.wf) (g:=fun c=>[h.av,s.av,c.av]) (r:=fun c=>⟨crAV (crsA h s c),[]⟩) (fun j hj=>by
  obtain ⟨a,b,d,e,x,y,z,w⟩:=j
  obtain ⟨a',b',d',e',x',y',z',w'⟩:=c
  simp only [Qv,Oc,Sj,true_and,and_true] at hj
  obtain ⟨rfl,rfl,rfl,rfl,rfl,rfl,rfl,rfl⟩:=hj
  rfl) hw
theorem Ybh {h:Hal} (hk:h.ok) {s:Stg} (hs:s.few) {pt:PC} (hp:PCOK Tryz.prog pt):PCOK Tryz.prog (ins 113 (crsT h s) pt):=Zu (fun c hc=>c40 hk hs hc) hp
noncomputable abbrev wayT (h:Hal) (s:Stg):List AV->Option PRes:=famA (fun p:Pt × Pt=>p.1.wf/\p.2.wf) (fun p=>[h.av,s.av,wayA p.1 p.2]) (fun p=>⟨.tup [Bo (decide (wayE h s p.1 p.2=0)&&Ze0 h s p.1 p.2),I (wayE h s p.1 p.2)],[]⟩)
theorem Zwi {h:Hal} {s:Stg} {p q:Pt} (hp:p.wf) (hq:q.wf):wayT h s [h.av,s.av,wayA p q]=some ⟨.tup [Bo (decide (wayE h s p q=0)&&Ze0 h s p q),I (wayE h s p q)],[]⟩ :=
 Zq (p:=fun p:Pt × Pt=>p.1.wf/\p.2.wf) (g:=fun p=>[h.av,s.av,wayA p.1 p.2]) (r:=fun p=>⟨.tup [Bo (decide (wayE h s p.1 p.2=0)&&Ze0 h s p.1 p.2),I (wayE h s p.1 p.2)],[]⟩) (k:=(p,q)) (fun j hj=>by
  obtain ⟨⟨a,b,c,d⟩,⟨a2,b2,c2,d2⟩⟩:=j
  obtain ⟨x,y,z,w⟩:=p
  obtain ⟨x2,y2,z2,w2⟩:=q
  simp only [Qv,Oc,Sj,true_and,and_true] at hj
  obtain ⟨rfl,rfl,rfl,rfl,rfl,rfl,rfl,rfl⟩:=hj
  rfl) ⟨hp,hq⟩
theorem Zzq {h:Hal} (hk:h.ok) {s:Stg} (hs:s.few) {pt:PC} (hp:PCOK Tryz.prog pt):PCOK Tryz.prog (ins 114 (wayT h s) pt):=Zu (fun p hw=>c37 hk hs hw.1 hw.2) hp
def r123:List AV->Option PRes
 | [.agg [.int .i64 x,.int .i64 y,.int .i64 z]]=>some ⟨P4 x y z 1,[]⟩
 | _=>none
theorem Zz9 {pt:PC} (h:PCOK Tryz.prog pt):PCOK Tryz.prog (ins 101 r123 pt):=Zi (fun a res h=>by unfold r123 at h; split at h<;>cases h; exact d123 _ _ _) h
def sqV (a b c x y z:Int):Int:=Qa Qb (Qa Qb (Qa Qb (Qa Qb (a-x)*Qa Qb (a-x))+Qa Qb (Qa Qb (b-y)*Qa Qb (b-y)))+Qa Qb (Qa Qb (c-z)*Qa Qb (c-z)))
theorem d126 (a b c x y z:Int):PCall Tryz.prog 116 [P3 a b c,P3 x y z] ⟨I (sqV a b c x y z),[]⟩:=by
 refine bs.pv (sx:=nos) Zh Tryz.func116 (by kernel_rfl) (by kernel_rfl) rfl ?_
 repeat'(first|refine wk3 ?_|(refine wk2 ?_ ?_<;>intro _)|refine wk4 ?_|fail);all_goals(conv=>whnf)
 exact Za rfl
def r126:List AV->Option PRes
 | [.agg [.int .i64 a,.int .i64 b,.int .i64 c],.agg [.int .i64 x,.int .i64 y,.int .i64 z]]=>some ⟨I (sqV a b c x y z),[]⟩
 | _=>none
theorem Zz8 {pt:PC} (h:PCOK Tryz.prog pt):PCOK Tryz.prog (ins 116 r126 pt):=Zi (fun a res h=>by unfold r126 at h; split at h<;>cases h; exact d126 _ _ _ _ _ _) h
theorem Yeb {ns:List Int} (hl:ns.length<100000):PCall Tryz.prog 92 [.isl 1 (nl ns)] ⟨.isl 1 (nl ns),[]⟩:=by
 cases ns with
 | nil=>exact Yec
 | cons n ns=>exact (d103 (by simp) hl).freeze ⟨rfl,rfl,rfl⟩
theorem Yd9 {ps:List (Int × Int × Int × Int)} (hl:ps.length<100000):PCall Tryz.prog 115 [.isl 4 (ps.map hp4)] ⟨.isl 4 (ps.map hp4),[]⟩:=by
 cases ps with
 | nil=>exact Yea
 | cons n ns=>exact (d104 (by simp) hl).freeze ⟨rfl,rfl,rfl⟩
noncomputable abbrev clT:List AV->Option PRes:=famA (fun ps:List (Int × Int × Int × Int)=>ps.length<100000) (fun ps=>[.isl 4 (ps.map hp4)]) (fun ps=>⟨.isl 4 (ps.map hp4),[]⟩)
theorem Ydp {pt:PC} (hp:PCOK Tryz.prog pt):PCOK Tryz.prog (ins 115 clT pt):=Zu (fun ps hl=>Yd9 hl) hp
theorem Ybn {ps:List (Int × Int × Int × Int)} (h:ps.length<100000):clT [.isl 4 (ps.map hp4)]=some ⟨.isl 4 (ps.map hp4),[]⟩ :=
 Zq (p:=fun ps:List (Int × Int × Int × Int)=>ps.length<100000) (g:=fun ps=>[.isl 4 (ps.map hp4)]) (r:=fun ps=>⟨.isl 4 (ps.map hp4),[]⟩) (fun j hj=>by
  simp only [Qv,AV.isl.injEq,true_and,and_true] at hj
  rw [hj]) h
def goP (f:Int->Pl3->Pt->Pt × Int):List (Int × Pl3)->Pt->List Pt->Option (List Pt)
 | [],_,P=>some P
 | (a,q)::r,to,P=>if (f a q to).2=0 then goP f r (f a q to).1 ((f a q to).1::P) else none
def chkW (w:Pt->Pt->Bool):List Pt->Bool
 | p::q::r=>w p q&&chkW w (q::r)
 | _=>true
def pnt (q:Pl3):Pt:=⟨q.1,q.2.1,q.2.2,1⟩
def tup4 (p:Pt):Int × Int × Int × Int:=(p.x,p.y,p.z,p.d)
def fP (h:Hal) (s:Stg) (a:Int) (q:Pl3) (to:Pt):Pt × Int:=crsA h s ⟨a,q.1,q.2.1,q.2.2,to⟩
def wP (h:Hal) (s:Stg) (p q:Pt):Bool:=decide (wayE h s p q=0)&&Ze0 h s p q
def pthQ (h:Hal) (s:Stg) (q0 q1:Pl3) (l:List (Int × Pl3)):Option Pth :=
 match goP (fP h s) l.reverse (pnt q1) [] with
 | none=>none
 | some P=>if chkW (wP h s) (pnt q0::P++[pnt q1]) then some ⟨l.map (·.1),P.map tup4,sqV (l.getLastD (0,q0)).2.1 (l.getLastD (0,q0)).2.2.1 (l.getLastD (0,q0)).2.2.2 q1.1 q1.2.1 q1.2.2⟩ else none
def ansP:Option Pth->AV
 | none=>.tup [.agg [.isl 1 [],.isl 4 [],I 0],Bo false]
 | some p=>.tup [p.av,Bo true]
theorem Zmn:Pt.wf ptZ:=⟨⟨by decide,by decide⟩,⟨by decide,by decide⟩,⟨by decide,by decide⟩,⟨by decide,by decide⟩⟩
theorem Ybj {h:Hal} {s:Stg} (c:Crs) (hk:h.ok) (hs:s.few):(crsA h s c).1.wf:=by
 unfold crsA
 split
 ·rename_i e
  obtain ⟨g,hi,ho,_⟩:=Zvj hk hs e
  unfold Ul
  split
  ·exact Zmn
  ·rename_i hsn
   split
   ·split
    ·exact Zmn
    ·exact (Zb6 (Zax ho hsn)).2.2.1.wf
   ·exact Zmn
 ·exact Zmn
theorem Zyq {q:Pl3} (h:Near 5000 q):(pnt q).wf:=by
 obtain ⟨h1,h2,h3⟩:=h
 unfold pnt
 exact ⟨⟨by dsimp only; omega,by dsimp only; omega⟩,⟨by dsimp only; omega,by dsimp only; omega⟩,⟨by dsimp only; omega,by dsimp only; omega⟩,⟨by dsimp only; omega,by dsimp only; omega⟩⟩
def rawP:Option Pth->AV
 | none=>.tup [.agg [.nils,.nils,I 0],Bo false]
 | some p=>.tup [p.av,Bo true]
theorem Zw3 (o:Option Pth):Vc 0 (rawP o)=true:=by cases o<;>rfl
noncomputable abbrev oneA (a:List AV) (r:PRes):List AV->Option PRes:=famA (fun _:Unit=>True) (fun _=>a) (fun _=>r)
theorem Zbd {f:FuncId} {a:List AV} {r:PRes} (h:PCall Tryz.prog f a r) {pt:PC} (hp:PCOK Tryz.prog pt):PCOK Tryz.prog (ins f (oneA a r) pt):=Zu (fun _ _=>h) hp
theorem Uo (a:List AV) (r:PRes):oneA a r a=some r:=Zq (p:=fun _:Unit=>True) (g:=fun _=>a) (r:=fun _=>r) (k:=()) (fun _ _=>rfl) trivial
def lkG (f:Int->Pl3->Pl3):Pl3->List Int->List (Int × Pl3)
 | _,[]=>[]
 | q,n::r=>(n,f n q)::lkG f (f n q) r
theorem Zxo (f:Int->Pl3->Pl3) (q:Pl3) (n:Int) (r:List Int) (k:Nat):imA f q (n::r) (k+1)=imA f (f n q) r k:=rfl
theorem Zdx (f:Int->Pl3->Pl3):∀ (q:Pl3) (ns:List Int),(lkG f q ns).length=ns.length
 | _,[]=>rfl
 | q,n::r=>by rw [lkG,Tf,Zdx f _ r,Tf]
theorem Zt4 (f:Int->Pl3->Pl3):∀ (q:Pl3) (ns:List Int) (k:Nat) (hk:k<ns.length),(lkG f q ns)[k]?=some (ns[k],imA f q ns (k+1))
 | q,n::r,0,hk=>rfl
 | q,n::r,k+1,hk=>by
  rw [lkG,List.getElem?_cons_succ,Zt4 f _ r k (by simpa using hk),Zxo]
  rfl
theorem Zt3 (f:Int->Pl3->Pl3):∀ (q:Pl3) (ns:List Int),(lkG f q ns).map (·.1)=ns
 | _,[]=>rfl
 | q,n::r=>by rw [lkG,Sp,Zt3 f _ r]
theorem Zql (f:Int->Pl3->Pl3):∀ (q:Pl3) (ns:List Int) (x:Int),((lkG f q ns).getLastD (x,q)).2=imA f q ns ns.length
 | _,[],_=>rfl
 | q,n::r,x=>by
  rw [lkG,List.getLastD_cons,Zql f _ r n]
  rfl
theorem Zqk {f:Int->Pl3->Pl3} {q:Pl3} {ns:List Int} {k:Nat} (hk:k<ns.length):((lkG f q ns).take (k+1)).reverse=(ns[k],imA f q ns (k+1))::((lkG f q ns).take k).reverse:=by
 have hk2:k<(lkG f q ns).length:=by rw [Zdx]; exact hk
 have e:=Zt4 f q ns k hk
 rw [Qg hk2,Qd] at e
 rw [List.take_succ_eq_append_getElem hk2,List.reverse_append,e]
 rfl
def Uh (h:Hal) (s:Stg) (q0 q1:Pl3) (ns:List Int):Option Pth:=pthQ h s q0 q1 (lkG (im1 h s) q0 ns)
theorem Zlc (h:Hal) (s:Stg) (q0 q1:Pl3) (ns:List Int):Uh h s q0 q1 ns=match goP (fP h s) (lkG (im1 h s) q0 ns).reverse (pnt q1) [] with
  | none=>none
  | some P=>if chkW (wP h s) (pnt q0::P++[pnt q1]) then some ⟨ns,P.map tup4,sqV (imA (im1 h s) q0 ns ns.length).1 (imA (im1 h s) q0 ns ns.length).2.1 (imA (im1 h s) q0 ns ns.length).2.2 q1.1 q1.2.1 q1.2.2⟩ else none:=by
 unfold Uh pthQ
 rw [Zt3,Zql]
 all_goals (cases goP (fP h s) (lkG (im1 h s) q0 ns).reverse (pnt q1) []<;>rfl)
abbrev ptc (p:Pt):List AV:=[I p.x,I p.y,I p.z,I p.d]
theorem Zgl {l:List Pt} {k:Nat} (hk:k<l.length):(l.map ptc)[k]?=some (ptc l[k]):=by simp [hk]
theorem Zmb (l:List Pt) (i:Nat) (p:Pt):Zhh (l.map ptc) i (ptc p)=(l.set i p).map ptc:=by rw [Za6,Lu]
theorem Zci {l:List Pt} {k:Nat} (hk:k<l.length) (p:Pt):(l.set k p).drop k=p::l.drop (k+1):=by
 rw [Qj (by rw [Jz]; exact hk),List.getElem_set_self,List.drop_set,if_pos (by omega)]
theorem Zn5 {w:Pt->Pt->Bool} {l:List Pt} {k:Nat} (hk:k+1<l.length):chkW w (l.drop k)=(w l[k] l[k+1]&&chkW w (l.drop (k+1))):=by
 rw [Qj (show k<l.length by omega),Qj hk,chkW]
theorem Zn6 {w:Pt->Pt->Bool} {l:List Pt} {k:Nat} (hk:k+1=l.length):chkW w (l.drop k)=true:=by
 rw [Qj (show k<l.length by omega),Ql (by omega)]; rfl
noncomputable def kPth (h:Hal) (s:Stg) (q0:Pl3) (ns:List Int):PC:=ins 112 (oneA [.agg (stgL h s),P3 q0.1 q0.2.1 q0.2.2,.isl 1 (nl ns)] ⟨.isl 3 (imC (im1 h s) q0 ns ns.length),[]⟩) (ins 101 r123 (ins 113 (crsT h s) (ins 114 (wayT h s) (ins 116 r126 (ins 115 clT (ins 92 (oneA [.isl 1 (nl ns)] ⟨.isl 1 (nl ns),[]⟩) pt0))))))
theorem Yaq {h:Hal} (hk:h.ok) {s:Stg} (hs:s.few) (e0:serr h s=0) {q0:Pl3} (hf:Near 5000 q0) {ns:List Int} (hl:ns.length<=4) (hi:∀ n∈ns,0<=n/\n<nsur h):PCOK Tryz.prog (kPth h s q0 ns) :=
 Zbd (d82f hk hs e0 hf hl hi) (Zz9 (Ybh hk hs (Zzq hk hs (Zz8 (Ydp (Zbd (Yeb (ns:=ns) (by omega)) Zh))))))
theorem d65 {h:Hal} (hk:h.ok) {s:Stg} (hs:s.few) (e0:serr h s=0) (a:Ask) (hf:Near 5000 (a.fx,a.fy,a.fz)) (ht:Near 5000 (a.tx,a.ty,a.tz)) {ns:List Int} (hl:ns.length<=4) (hi:∀ n∈ns,0<=n/\n<nsur h) :
  PCall Tryz.prog 63 [.agg (stgL h s),a.av,.isl 1 (nl ns)] ⟨rawP (Uh h s (a.fx,a.fy,a.fz) (a.tx,a.ty,a.tz) ns),[]⟩:=by
 obtain ⟨fx,fy,fz,tx,ty,tz,n⟩:=a
 dsimp only at hf ht ⊢
 have hk0:=Yaq hk hs e0 hf hl hi
 unfold kPth at hk0
 have w0:=Zyq hf
 have wT:=Zyq ht
 have ll:=Zr ns
 have o1:=Uo [.agg (stgL h s),P3 fx fy fz,.isl 1 (nl ns)] ⟨.isl 3 (imC (im1 h s) (fx,fy,fz) ns ns.length),[]⟩
 have o2:=Uo [.isl 1 (nl ns)] ⟨.isl 1 (nl ns),[]⟩
 have hR:=Zlc h s (fx,fy,fz) (tx,ty,tz) ns
 generalize Uh h s (fx,fy,fz) (tx,ty,tz) ns=R at *
 have il:=Zdg (im1 h s) (fx,fy,fz) ns ns.length
 have x2:Qa Qb (((nl ns).length:Int)+2)=((ns.length+2:Nat):Int):=by rw [ll,W_eq (by omega) (by omega)]; omega
 have x1:Qa Qb (((nl ns).length:Int)+1)=((ns.length+1:Nat):Int):=by rw [ll,W_eq (by omega) (by omega)]; omega
 have a1:decide (0<=Qa Qb (((nl ns).length:Int)+2)/\(Qa Qb (((nl ns).length:Int)+2)).toNat<=1000000)=true:=by rw [x2]; exact decide_eq_true ⟨by omega,by omega⟩
 have g0:(Rr (Qa Qb (((nl ns).length:Int)+2)).toNat (ptc ptZ))[0+Sy 0]?=some (ptc ptZ):=by
  rw [x2,Ro,Ji,if_pos (by omega)]
 have g1:(Zhh (Rr (Qa Qb (((nl ns).length:Int)+2)).toNat (ptc ptZ)) (0+Sy 0) (ptc (pnt (fx,fy,fz))))[0+(Qa Qb (((nl ns).length:Int)+1)).toNat]?=some (ptc ptZ):=by
  rw [Za6,x2,x1,Ml,if_neg (by omega)]; simp
 have hE0:Zhh (Zhh (Rr (Qa Qb (((nl ns).length:Int)+2)).toNat (ptc ptZ)) (0+Sy 0) (ptc (pnt (fx,fy,fz)))) (0+(Qa Qb (((nl ns).length:Int)+1)).toNat) (ptc (pnt (tx,ty,tz)))=(((Rr (ns.length+2) ptZ).set 0 (pnt (fx,fy,fz))).set (ns.length+1) (pnt (tx,ty,tz))).map ptc:=by
  rw [Za6,Za6,x2,x1,Lu,Lu,Gj]
  congr 1
  omega
 refine bs.pv (sx:=nos) hk0 Tryz.func63 (by kernel_rfl) (by kernel_rfl) (Zw3 _) ?_
 unfold Ze9
 conv=>whnf
 repeat'(first|refine wk3 ?_|(refine wk2 ?_ ?_<;>intro _)|refine wk4 ?_|fail);all_goals(conv=>whnf)
 obtain ⟨l,hlk⟩:∃ l,l=lkG (im1 h s) (fx,fy,fz) ns:=⟨_,rfl⟩
 have hll:l.length=ns.length:=by rw [hlk,Zdx]
 have hlt' : ∀ {k:Nat} (hk:k<ns.length),(l.take (k+1)).reverse=(ns[k],imA (im1 h s) (fx,fy,fz) ns (k+1))::(l.take k).reverse:=fun hk=>by rw [hlk]; exact Zqk hk
 rw [<-hlk] at hR
 clear hlk
 refine Zw (S:=Nat × Int × List (List AV) × List Pt) (fun t=>t.1) (fun t=>[(2,.isl 1 (nl ns)),(3,.ptr 0 0 0),(4,.ptr 1 0 0),(6,.ptr 2 0 0),(8,.isl 3 (imC (im1 h s) (fx,fy,fz) ns ns.length)),(9,I (nl ns).length),(10,.asl 3 0 (Qa Qb (((nl ns).length:Int)+2)).toNat),(11,I t.2.1)])
  (fun t=>[(3,.row 4 t.2.2.1 true true),(2,.row 3 [[.nils,.nils,I 0]] true false),(1,.row 7 [[I fx,I fy,I fz,I tx,I ty,I tz,I n]] true false),(0,.row 11 [stgL h s] true false)]) 18 18
  (fun t=>t.2.1=t.1/\t.1<=ns.length/\t.2.2.1=t.2.2.2.map ptc/\t.2.2.2.length=ns.length+2/\t.2.2.2[0]?=some (pnt (fx,fy,fz))/\(∀ p∈t.2.2.2,p.wf)/\∃ to P Q,t.2.2.2.drop (t.1+1)=to::Q/\P++[pnt (tx,ty,tz)]=to::Q/\goP (fP h s) (l.take t.1).reverse to P=goP (fP h s) l.reverse (pnt (tx,ty,tz)) [])
  (ns.length,(nl ns).length,_,(((Rr (ns.length+2) ptZ).set 0 (pnt (fx,fy,fz))).set (ns.length+1) (pnt (tx,ty,tz)))) ⟨by dsimp only; rw [ll],Qf _,hE0,by simp,by simp,?_,pnt (tx,ty,tz),[],[],by rw [Zci (by simp)]; simp,rfl,by rw [<-hll,Mp]⟩ (Qf _) [] rfl (kps) (kps) ?_
 ·intro p hp
  rcases Ng hp with hp|rfl
  ·rcases Ng hp with hp|rfl
   ·rw [List.eq_of_mem_replicate hp]; exact Zmn
   ·exact w0
  ·exact wT
 clear g0 g1 hE0 a1
 rintro ⟨k,i,els,pts⟩ ⟨hi1,hk1,hels,hpl,hp0,hwf,to,P,Q,hd,hPQ,hgo⟩
 dsimp only at hi1 hk1 hels hpl hp0 hwf hd hPQ hgo ⊢
 subst hi1 hels
 have lp:(pts.map ptc).length=ns.length+2:=by rw [Se,hpl]
 refine bs.av (sx:=nos) hk0 ?_
 cases k with
 | succ j =>
  have b0:((j+1:Nat):Int)>=1:=by omega
  have b1:Qa Qb (((j+1:Nat):Int)-1)=j:=by rw [W_eq (by omega) (by omega)]; omega
  have b2:Qa Qb (((j+1:Nat):Int)+1)=((j+2:Nat):Int):=by rw [W_eq (by omega) (by omega)]; omega
  have e1:(nl ns)[(Qa Qb (((j+1:Nat):Int)-1)).toNat]?=some [I ns[j]]:=by rw [b1]; simp [nl]
  have e2:(imC (im1 h s) (fx,fy,fz) ns ns.length)[((j+1:Nat):Int).toNat]?=some (pl3 (imA (im1 h s) (fx,fy,fz) ns (j+1))):=by
   rw [Ro]; unfold imC; rw [Si,Tu (by omega)]; rfl
  have hto:pts[j+2]?=some to:=by rw [<-Df,hd]; rfl
  have e3:(pts.map ptc)[0+(Qa Qb (((j+1:Nat):Int)+1)).toNat]?=some (ptc to):=by rw [b2,Ro,Rw,Si,hto]; rfl
  have e4:(pts.map ptc)[0+((j+1:Nat):Int).toNat]?=some (ptc (pts[j+1]'(by omega))):=by rw [Ro,Rw]; exact Zgl (by omega)
  have wto:to.wf:=hwf _ (List.mem_of_getElem? hto)
  rw [hlt' (by omega),goP] at hgo
  have c1:=Zxz (h:=h) (s:=s) (c:=⟨ns[j],(imA (im1 h s) (fx,fy,fz) ns (j+1)).1,(imA (im1 h s) (fx,fy,fz) ns (j+1)).2.1,(imA (im1 h s) (fx,fy,fz) ns (j+1)).2.2,to⟩) wto
  have w1:=Ybj (h:=h) (s:=s) ⟨ns[j],(imA (im1 h s) (fx,fy,fz) ns (j+1)).1,(imA (im1 h s) (fx,fy,fz) ns (j+1)).2.1,(imA (im1 h s) (fx,fy,fz) ns (j+1)).2.2,to⟩ hk hs
  have hfp:fP h s ns[j] (imA (im1 h s) (fx,fy,fz) ns (j+1)) to=crsA h s ⟨ns[j],(imA (im1 h s) (fx,fy,fz) ns (j+1)).1,(imA (im1 h s) (fx,fy,fz) ns (j+1)).2.1,(imA (im1 h s) (fx,fy,fz) ns (j+1)).2.2,to⟩:=rfl
  rw [hfp] at hgo
  clear hfp
  generalize crsA h s ⟨ns[j],(imA (im1 h s) (fx,fy,fz) ns (j+1)).1,(imA (im1 h s) (fx,fy,fz) ns (j+1)).2.1,(imA (im1 h s) (fx,fy,fz) ns (j+1)).2.2,to⟩=r at *
  obtain ⟨⟨x,y,z,d⟩,E⟩:=r
  generalize imA (im1 h s) (fx,fy,fz) ns (j+1)=q at *
  obtain ⟨qx,qy,qz⟩:=q
  obtain ⟨X,Y,Z,V⟩:=to
  dsimp only at hgo w1 c1
  by_cases hE:E=0
  ·subst hE
   rw [if_pos rfl] at hgo
   have hs1:Zhh (pts.map ptc) (0+((j+1:Nat):Int).toNat) (ptc ⟨x,y,z,d⟩)=(pts.set (j+1) ⟨x,y,z,d⟩).map ptc:=by
    rw [Ro,Rw]; exact Zmb _ _ _
   repeat'(first|refine wk3 ?_|(refine wk2 ?_ ?_<;>intro _)|refine wk4 ?_|fail);all_goals(conv=>whnf)
   exact Qn ⟨(j,_,_,pts.set (j+1) ⟨x,y,z,d⟩),[],rfl,kps,kps,⟨b1,by dsimp only; omega,hs1,by dsimp only; rw [Jz,hpl],by dsimp only; rw [Ml,if_neg (by omega)]; exact hp0,(fun p hp=>by
    rcases Ng hp with hp|rfl
    ·exact hwf p hp
    ·exact w1),⟨x,y,z,d⟩,⟨x,y,z,d⟩::P,⟨X,Y,Z,V⟩::Q,by dsimp only; rw [Zci (by omega),hd],by rw [Tj,hPQ],hgo⟩,by dsimp only; omega⟩
  ·rw [if_neg hE] at hgo
   rw [<-hgo] at hR
   dsimp only at hR
   subst hR
   repeat'(first|refine wk3 ?_|(refine wk2 ?_ ?_<;>intro _)|refine wk4 ?_|fail);all_goals(conv=>whnf)
   all_goals exact Zg rfl rfl
 | zero =>
  have hpe:pts=pnt (fx,fy,fz)::P++[pnt (tx,ty,tz)]:=by
   rw [Tj,hPQ,<-hd]
   clear hk0 hwf lp hpl
   cases pts with
   | nil=>cases hp0
   | cons p r=>cases hp0; rfl
  rw [Kc,Ja,goP] at hgo
  rw [<-hgo] at hR
  dsimp only at hR
  rw [<-hpe] at hR
  have hPl:P.length=ns.length:=by
   have:=congrArg Ft hpe
   simp at this; omega
  clear hgo hlt' hd hPQ Q to
  repeat'(first|refine wk3 ?_|(refine wk2 ?_ ?_<;>intro _)|refine wk4 ?_|fail);all_goals(conv=>whnf)
  refine Zw (S:=Nat × Int) (fun t=>ns.length+1-t.1) (fun t=>[(2,.isl 1 (nl ns)),(3,.ptr 0 0 0),(4,.ptr 1 0 0),(6,.ptr 2 0 0),(8,.isl 3 (imC (im1 h s) (fx,fy,fz) ns ns.length)),(9,I (nl ns).length),(10,.asl 3 0 (Qa Qb (((nl ns).length:Int)+2)).toNat),(75,I (Qa Qb (((nl ns).length:Int)+1))),(76,I t.2)])
   (fun t=>[(3,.row 4 (pts.map ptc) true true),(2,.row 3 [[.nils,.nils,I 0]] true false),(1,.row 7 [[I fx,I fy,I fz,I tx,I ty,I tz,I n]] true false),(0,.row 11 [stgL h s] true false)]) 18 18
   (fun t=>t.2=t.1/\t.1<=ns.length+1/\chkW (wP h s) (pts.drop t.1)=chkW (wP h s) pts) (0,0) ⟨rfl,Qo _,rfl⟩ (Qf _) [] rfl (kps) (kps) ?_
  rintro ⟨k,i⟩ ⟨hi1,hk1,hck⟩
  dsimp only at hi1 hk1 hck ⊢
  subst hi1
  by_cases hlt:k<ns.length+1
  ·have b0:((k:Nat):Int)<Qa Qb (((nl ns).length:Int)+1):=by rw [x1]; omega
   have b2:Qa Qb (((k:Nat):Int)+1)=((k+1:Nat):Int):=by rw [W_eq (by omega) (by omega)]; omega
   have e3:(pts.map ptc)[0+((k:Nat):Int).toNat]?=some (ptc (pts[k]'(by omega))):=by rw [Ro,Rw]; exact Zgl (by omega)
   have e4:(pts.map ptc)[0+(Qa Qb (((k:Nat):Int)+1)).toNat]?=some (ptc (pts[k+1]'(by omega))):=by rw [b2,Ro,Rw]; exact Zgl (by omega)
   rw [Zn5 (by omega)] at hck
   have v1:=Zwi (h:=h) (s:=s) (hwf (pts[k]'(by omega)) (Qt _)) (hwf (pts[k+1]'(by omega)) (Qt _))
   have hw:wP h s (pts[k]'(by omega)) (pts[k+1]'(by omega))=(decide (wayE h s (pts[k]'(by omega)) (pts[k+1]'(by omega))=0)&&Ze0 h s (pts[k]'(by omega)) (pts[k+1]'(by omega))):=rfl
   rw [hw] at hck
   clear hw
   generalize (pts[k]'(by omega))=p1 at *
   generalize (pts[k+1]'(by omega))=p2 at *
   generalize wayE h s p1 p2=u at *
   generalize Ze0 h s p1 p2=f at *
   obtain ⟨x1,y1,z1,d1⟩:=p1
   obtain ⟨x2,y2,z2,d2⟩:=p2
   refine bs.av (sx:=nos) hk0 ?_
   cases hb:(decide (u=0)&&f) with
   | true =>
    rw [hb,Tx] at hck
    repeat'(first|refine wk3 ?_|(refine wk2 ?_ ?_<;>intro _)|refine wk4 ?_|fail);all_goals(conv=>whnf)
    all_goals first
     | (exfalso; clear hk0; simp_all; done)
     | exact Qn ⟨(k+1,_),[],rfl,kps,kps,⟨b2,hlt,hck⟩,by dsimp only; omega⟩
   | false =>
    rw [hb,Mh] at hck
    rw [<-hck,if_neg (by simp)] at hR
    subst hR
    repeat'(first|refine wk3 ?_|(refine wk2 ?_ ?_<;>intro _)|refine wk4 ?_|fail);all_goals(conv=>whnf)
    all_goals first
     | exact Zg rfl rfl
     | (exfalso; clear hk0; simp_all; done)
  ·have hke:k=ns.length+1:=by omega
   subst hke
   rw [Zn6 (by omega)] at hck
   rw [<-hck,if_pos rfl] at hR
   subst hR
   refine Awp.froz [3] rfl (bs.av (sx:=nos) hk0 ?_)
   conv=>whnf
   repeat'(first|refine wk3 ?_|(refine wk2 ?_ ?_<;>intro _)|refine wk4 ?_|fail);all_goals(conv=>whnf)
   have y1:Zd8 (some (I (Qa Qb (((nl ns).length:Int)+1)))) (Qa Qb (((nl ns).length:Int)+2)).toNat=some (ns.length+1):=by
    show cond (decide (0<=Qa Qb (((nl ns).length:Int)+1))) (some (Qa Qb (((nl ns).length:Int)+1)).toNat) none=_
    rw [x1,decide_eq_true (by omega)]
    simp only [cond_true,Qd]; omega
   have cl:clT [.isl 4 (Qap (ns.length+1-Sy 1) (Qaq (0+Sy 1) (pts.map ptc)))]=some ⟨.isl 4 ((P.map tup4).map hp4),[]⟩:=by
    have e:Qap (ns.length+1-Sy 1) (Qaq (0+Sy 1) (pts.map ptc))=(P.map tup4).map hp4:=by
     rw [hpe,Tj,Sp,show (0+Sy 1)=1 from rfl,Ht,Tn,We,show ns.length+1-Sy 1=(P.map ptc).length by rw [Se,hPl]; omega,Qaa,Gv]
     rfl
    rw [e]
    exact Ybn (by rw [Se]; omega)
   have e5:(imC (im1 h s) (fx,fy,fz) ns ns.length)[((nl ns).length:Int).toNat]?=some (pl3 (imA (im1 h s) (fx,fy,fz) ns ns.length)):=by
    rw [Ro,ll]; exact Zhp _ _ _ _
   refine Zkw rfl rfl rfl rfl rfl rfl y1 (by omega) (by rw [x2]; omega) (by rw [x2]; omega) ?_
   conv=>whnf
   generalize imA (im1 h s) (fx,fy,fz) ns ns.length=q at *
   obtain ⟨qx,qy,qz⟩:=q
   repeat'(first|refine wk3 ?_|(refine wk2 ?_ ?_<;>intro _)|refine wk4 ?_|fail);all_goals(conv=>whnf)
   exact Zg rfl rfl
theorem Zn0 {h:Hal} {s:Stg} (g:Sit h s) (e0:serr h s=0) {n:Int} (hn:0<=n/\n<nsur h) {q:Pl3} (hq:Near 45000 q) {to:Pt} (hto:Yu to=0) :
  CrOk (Zb h s n) ⟨n,q.1,q.2.1,q.2.2,to⟩/\SK h n/\crsA h s ⟨n,q.1,q.2.1,q.2.2,to⟩=Ul (Za0 h n) (Zb h s n) ⟨n,q.1,q.2.1,q.2.2,to⟩ /\
  ((crsA h s ⟨n,q.1,q.2.1,q.2.2,to⟩).2=0->Yu (crsA h s ⟨n,q.1,q.2.1,q.2.2,to⟩).1=0/\valN (Zb h s n).1 (crsA h s ⟨n,q.1,q.2.1,q.2.2,to⟩).1.x (crsA h s ⟨n,q.1,q.2.1,q.2.2,to⟩).1.y (crsA h s ⟨n,q.1,q.2.1,q.2.2,to⟩).1.z=(Zb h s n).2*(crsA h s ⟨n,q.1,q.2.1,q.2.2,to⟩).1.d):=by
 have hi:=Zgj hn.1 hn.2
 obtain ⟨⟨b1,b2⟩,b3⟩:=Zdt g hi
 obtain ⟨h1,h2,h3⟩:=hq
 obtain ⟨p1,p2,_,p4⟩:=Zds hto
 unfold ptIn at p4
 simp only [Qc,within_iff] at p4
 have ho:CrOk (Zb h s n) ⟨n,q.1,q.2.1,q.2.2,to⟩:=⟨b1,b2,b3,h1,h2,h3,p1,p2,p4.1.1,p4.1.2,p4.2⟩
 have he:crsE h s ⟨n,q.1,q.2.1,q.2.2,to⟩=0:=by
  unfold crsE surE Vt img
  rw [if_pos e0,if_pos (within_iff.2 (by dsimp only; omega)),if_pos rfl,if_pos (by simp only [Qc,within_iff]; omega)]
  exact hto
 have hA:crsA h s ⟨n,q.1,q.2.1,q.2.2,to⟩=Ul (Za1 h n) (Zb h s n) ⟨n,q.1,q.2.1,q.2.2,to⟩:=by unfold crsA; rw [if_pos he]
 refine ⟨ho,hi,by rw [hA]; exact Zx3 (c:=⟨n,q.1,q.2.1,q.2.2,to⟩) g hi ho,fun hz=>?_⟩
 rw [hA] at hz ⊢
 refine ⟨Zpn (c:=⟨n,q.1,q.2.1,q.2.2,to⟩) g hi ho hz,?_⟩
 unfold Ul at hz ⊢
 split at hz
 ·cases hz
 ·rename_i hs
  split at hz
  ·rename_i hw
   split at hz
   ·cases hz
   ·rename_i hd
    rw [if_neg hs,if_pos hw,if_neg hd]
    exact Ze6 ho hs
  ·cases hz
noncomputable abbrev crsR (h:Hal) (s:Stg):List AV->Option PRes:=famA (fun c:Crs=>SK h c.su/\CrOk (Zb h s c.su) c) (fun c=>[h.av,s.av,c.av]) (fun c=>⟨crAV (Ul (Za0 h c.su) (Zb h s c.su) c),[]⟩)
theorem Zx0 {h:Hal} {s:Stg} {c:Crs} (hi:SK h c.su) (ho:CrOk (Zb h s c.su) c):crsR h s [h.av,s.av,c.av]=some ⟨crAV (Ul (Za0 h c.su) (Zb h s c.su) c),[]⟩ :=
 Zq (p:=fun c:Crs=>SK h c.su/\CrOk (Zb h s c.su) c) (g:=fun c=>[h.av,s.av,c.av]) (r:=fun c=>⟨crAV (Ul (Za0 h c.su) (Zb h s c.su) c),[]⟩) (fun j hj=>by
  obtain ⟨a,b,d,e,x,y,z,w⟩:=j
  obtain ⟨a',b',d',e',x',y',z',w'⟩:=c
  simp only [Qv,Oc,Sj,true_and,and_true] at hj
  obtain ⟨rfl,rfl,rfl,rfl,rfl,rfl,rfl,rfl⟩:=hj
  rfl) ⟨hi,ho⟩
theorem Ybi {h:Hal} {s:Stg} (g:Sit h s) {pt:PC} (hp:PCOK Tryz.prog pt):PCOK Tryz.prog (ins 73 (crsR h s) pt):=Zu (fun c hc=>c42 g hc.1 hc.2) hp
noncomputable abbrev wayR (h:Hal) (s:Stg):List AV->Option PRes:=famA (fun p:Pt × Pt=>PtR p.1/\PtR p.2) (fun p=>[h.av,s.av,wayA p.1 p.2]) (fun p=>⟨Bo (Zi3 h s p.1 p.2),[]⟩)
theorem Zwj {h:Hal} {s:Stg} {p q:Pt} (hp:PtR p) (hq:PtR q):wayR h s [h.av,s.av,wayA p q]=some ⟨Bo (Zi3 h s p q),[]⟩ :=
 Zq (p:=fun p:Pt × Pt=>PtR p.1/\PtR p.2) (g:=fun p=>[h.av,s.av,wayA p.1 p.2]) (r:=fun p=>⟨Bo (Zi3 h s p.1 p.2),[]⟩) (k:=(p,q)) (fun j hj=>by
  obtain ⟨⟨a,b,c,d⟩,⟨a2,b2,c2,d2⟩⟩:=j
  obtain ⟨x,y,z,w⟩:=p
  obtain ⟨x2,y2,z2,w2⟩:=q
  simp only [Qv,Oc,Sj,true_and,and_true] at hj
  obtain ⟨rfl,rfl,rfl,rfl,rfl,rfl,rfl,rfl⟩:=hj
  rfl) ⟨hp,hq⟩
theorem Zzr {h:Hal} {s:Stg} (g:Sit h s) {pt:PC} (hp:PCOK Tryz.prog pt):PCOK Tryz.prog (ins 74 (wayR h s) pt):=Zu (fun p hw=>c39 g hw.1 hw.2) hp
theorem Ydy {h:Hal} {s:Stg} (g:Sit h s) (e0:serr h s=0) {p q:Pt} (hp:Yu p=0) (hq:Yu q=0):wP h s p q=(!ptEq p q&&Zi3 h s p q):=by
 unfold wP wayE
 rw [if_pos e0,if_pos hp,if_pos hq,Ya1 g (Zqe hp) (Zqe hq)]
 cases ptEq p q<;>rfl
def r70:List AV->Option PRes
 | [.agg [.int .i64 x,.int .i64 y,.int .i64 z]]=>some ⟨P4 x y z 1,[]⟩
 | _=>none
theorem Yca {pt:PC} (h:PCOK Tryz.prog pt):PCOK Tryz.prog (ins 68 r70 pt):=Zi (fun a res h=>by unfold r70 at h; split at h<;>cases h; exact c36 _ _ _) h
theorem d73 (a b c x y z:Int):PCall Tryz.prog 75 [P3 a b c,P3 x y z] ⟨I (sqV a b c x y z),[]⟩:=by
 refine bs.pv (sx:=nos) Zh Tryz.func75 (by kernel_rfl) (by kernel_rfl) rfl ?_
 repeat'(first|refine wk3 ?_|(refine wk2 ?_ ?_<;>intro _)|refine wk4 ?_|fail);all_goals(conv=>whnf)
 exact Za rfl
theorem Yb9 {pt:PC} (h:PCOK Tryz.prog pt):PCOK Tryz.prog (ins 75 r126 pt):=Zi (fun a res h=>by unfold r126 at h; split at h<;>cases h; exact d73 _ _ _ _ _ _) h
theorem Yay (a b c:Int):Sw (Sw a.natAbs b.natAbs) (Sw c.natAbs (1:Int).natAbs)=1:=by
 rw [show (1:Int).natAbs=1 from rfl,Fa,Fa]
theorem Zii {q:Pl3} (h:Near 5000 q):Yu (pnt q)=0:=by
 obtain ⟨h1,h2,h3⟩:=h
 unfold Yu pnt g4 ptIn
 dsimp only
 rw [Yay,if_neg (by simp),if_neg (by omega),if_pos (by simp only [Qc,within_iff]; omega)]
theorem Zyp {h:Hal} {ns:List Int} (hi:∀ n∈ns,0<=n/\n<nsur h):∀ n∈ns,SK h n:=fun n hn=>Zgj (hi n hn).1 (hi n hn).2
noncomputable def kPtr (h:Hal) (s:Stg) (q0:Pl3) (ns:List Int):PC:=ins 72 (oneA [h.av,s.av,P3 q0.1 q0.2.1 q0.2.2,.isl 1 (nl ns)] ⟨.isl 3 (imC (im1 h s) q0 ns ns.length),[]⟩) (ins 68 r70 (ins 73 (crsR h s) (ins 74 (wayR h s) (ins 75 r126 (ins 29 (oneA [.isl 1 (nl ns)] ⟨.isl 1 (nl ns),[]⟩) pt0)))))
theorem Yap {h:Hal} {s:Stg} (g:Sit h s) {q0:Pl3} {ns:List Int} (hl:ns.length<=4) (hi:∀ n∈ns,0<=n/\n<nsur h):PCOK Tryz.prog (kPtr h s q0 ns) :=
 Zbd (d28f g hl (Zyp hi)) (Yca (Ybi g (Zzr g (Yb9 (Zbd (c25f ns (by omega)) Zh)))))
theorem Zin {m k:Int} (h:k<=m) {p:Pl3} (hp:Near k p):Near m p:=by
 obtain ⟨h1,h2,h3⟩:=hp
 exact ⟨by omega,by omega,by omega⟩
def refP:Option Pth->PRes
 | none=>⟨.tup [.agg [.nils,.nils,I 0],Bo false],[]⟩
 | some p=>⟨.tup [.agg [.isl 1 (nl p.ss),.asl 0 0 (p.ps.map hp4).length,I p.sq],Bo true],[(4,p.ps.map hp4)]⟩
theorem Zwz (o:Option Pth):Vc (refP o).blks.length (refP o).v=true:=by cases o<;>rfl
theorem Zw0 (o:Option Pth):Frz (refP o).blks (refP o).v (ansP o):=by
 match o with
 | none=>exact ⟨⟨rfl,rfl,⟨rfl,rfl⟩,trivial⟩,⟨rfl,rfl⟩,trivial⟩
 | some p=>exact ⟨⟨⟨rfl,rfl⟩,⟨rfl,rfl,rfl⟩,⟨rfl,rfl⟩,trivial⟩,⟨rfl,rfl⟩,trivial⟩
theorem d21r {h:Hal} {s:Stg} (g:Sit h s) (e0:serr h s=0) (a:Ask) (hf:Near 5000 (a.fx,a.fy,a.fz)) (ht:Near 5000 (a.tx,a.ty,a.tz)) {ns:List Int} (hl:ns.length<=4) (hi:∀ n∈ns,0<=n/\n<nsur h) :
  PCall Tryz.prog 36 [h.av,s.av,a.av,.isl 1 (nl ns)] (refP (Uh h s (a.fx,a.fy,a.fz) (a.tx,a.ty,a.tz) ns)):=by
 obtain ⟨fx,fy,fz,tx,ty,tz,n⟩:=a
 dsimp only at hf ht ⊢
 have hk0:=Yap (q0:=(fx,fy,fz)) g hl hi
 unfold kPtr at hk0
 have w0:=Zii hf
 have wT:=Zii ht
 have ll:=Zr ns
 have o1:=Uo [h.av,s.av,P3 fx fy fz,.isl 1 (nl ns)] ⟨.isl 3 (imC (im1 h s) (fx,fy,fz) ns ns.length),[]⟩
 have o2:=Uo [.isl 1 (nl ns)] ⟨.isl 1 (nl ns),[]⟩
 have hR:=Zlc h s (fx,fy,fz) (tx,ty,tz) ns
 generalize Uh h s (fx,fy,fz) (tx,ty,tz) ns=R at *
 have il:=Zdg (im1 h s) (fx,fy,fz) ns ns.length
 have x2:Qa Qb (((nl ns).length:Int)+2)=((ns.length+2:Nat):Int):=by rw [ll,W_eq (by omega) (by omega)]; omega
 have x1:Qa Qb (((nl ns).length:Int)+1)=((ns.length+1:Nat):Int):=by rw [ll,W_eq (by omega) (by omega)]; omega
 have a1:decide (0<=Qa Qb (((nl ns).length:Int)+2)/\(Qa Qb (((nl ns).length:Int)+2)).toNat<=1000000)=true:=by rw [x2]; exact decide_eq_true ⟨by omega,by omega⟩
 have g0:(Rr (Qa Qb (((nl ns).length:Int)+2)).toNat (ptc ptZ))[0+Sy 0]?=some (ptc ptZ):=by
  rw [x2,Ro,Ji,if_pos (by omega)]
 have g1:(Zhh (Rr (Qa Qb (((nl ns).length:Int)+2)).toNat (ptc ptZ)) (0+Sy 0) (ptc (pnt (fx,fy,fz))))[0+(Qa Qb (((nl ns).length:Int)+1)).toNat]?=some (ptc ptZ):=by
  rw [Za6,x2,x1,Ml,if_neg (by omega)]; simp
 have hE0:Zhh (Zhh (Rr (Qa Qb (((nl ns).length:Int)+2)).toNat (ptc ptZ)) (0+Sy 0) (ptc (pnt (fx,fy,fz)))) (0+(Qa Qb (((nl ns).length:Int)+1)).toNat) (ptc (pnt (tx,ty,tz)))=(((Rr (ns.length+2) ptZ).set 0 (pnt (fx,fy,fz))).set (ns.length+1) (pnt (tx,ty,tz))).map ptc:=by
  rw [Za6,Za6,x2,x1,Lu,Lu,Gj]
  congr 1
  omega
 refine bs.pv (sx:=nos) hk0 Tryz.func36 (by kernel_rfl) (by kernel_rfl) (Zwz _) ?_
 unfold Ze9
 conv=>whnf
 repeat'(first|refine wk3 ?_|(refine wk2 ?_ ?_<;>intro _)|refine wk4 ?_|fail);all_goals(conv=>whnf)
 obtain ⟨l,hlk⟩:∃ l,l=lkG (im1 h s) (fx,fy,fz) ns:=⟨_,rfl⟩
 have hll:l.length=ns.length:=by rw [hlk,Zdx]
 have hlt' : ∀ {k:Nat} (hk:k<ns.length),(l.take (k+1)).reverse=(ns[k],imA (im1 h s) (fx,fy,fz) ns (k+1))::(l.take k).reverse:=fun hk=>by rw [hlk]; exact Zqk hk
 rw [<-hlk] at hR
 clear hlk
 refine Zw (S:=Nat × Int × List (List AV) × List Pt) (fun t=>t.1) (fun t=>[(3,.isl 1 (nl ns)),(4,.ptr 0 0 0),(5,.ptr 1 0 0),(6,.ptr 2 0 0),(8,.ptr 3 0 0),(10,.isl 3 (imC (im1 h s) (fx,fy,fz) ns ns.length)),(11,I (nl ns).length),(12,.asl 4 0 (Qa Qb (((nl ns).length:Int)+2)).toNat),(13,I t.2.1)])
  (fun t=>[(4,.row 4 t.2.2.1 true true),(3,.row 3 [[.nils,.nils,I 0]] true false),(2,.row 7 [[I fx,I fy,I fz,I tx,I ty,I tz,I n]] true false),(1,.row 2 [[.isl 1 (nl s.hs),.isl 1 (nl s.dr)]] true false),(0,.row 9 [h.cells] true false)]) 19 19
  (fun t=>t.2.1=t.1/\t.1<=ns.length/\t.2.2.1=t.2.2.2.map ptc/\t.2.2.2.length=ns.length+2/\t.2.2.2[0]?=some (pnt (fx,fy,fz))/\∃ to P Q,t.2.2.2.drop (t.1+1)=to::Q/\(∀ p∈to::Q,Yu p=0)/\P++[pnt (tx,ty,tz)]=to::Q/\goP (fP h s) (l.take t.1).reverse to P=goP (fP h s) l.reverse (pnt (tx,ty,tz)) [])
  (ns.length,(nl ns).length,_,(((Rr (ns.length+2) ptZ).set 0 (pnt (fx,fy,fz))).set (ns.length+1) (pnt (tx,ty,tz)))) ⟨by dsimp only; rw [ll],Qf _,hE0,by simp,by simp,pnt (tx,ty,tz),[],[],by rw [Zci (by simp)]; simp,by simpa using wT,rfl,by rw [<-hll,Mp]⟩ (Qf _) [] rfl (kps) (kps) ?_
 clear g0 g1 hE0 a1
 rintro ⟨k,i,els,pts⟩ ⟨hi1,hk1,hels,hpl,hp0,to,P,Q,hd,hpr,hPQ,hgo⟩
 dsimp only at hi1 hk1 hels hpl hp0 hd hpr hPQ hgo ⊢
 subst hi1 hels
 have lp:(pts.map ptc).length=ns.length+2:=by rw [Se,hpl]
 refine bs.av (sx:=nos) hk0 ?_
 cases k with
 | succ j =>
  have b0:((j+1:Nat):Int)>0:=by omega
  have b1:Qa Qb (((j+1:Nat):Int)-1)=j:=by rw [W_eq (by omega) (by omega)]; omega
  have b2:Qa Qb (((j+1:Nat):Int)+1)=((j+2:Nat):Int):=by rw [W_eq (by omega) (by omega)]; omega
  have e1:(nl ns)[(Qa Qb (((j+1:Nat):Int)-1)).toNat]?=some [I ns[j]]:=by rw [b1]; simp [nl]
  have e2:(imC (im1 h s) (fx,fy,fz) ns ns.length)[((j+1:Nat):Int).toNat]?=some (pl3 (imA (im1 h s) (fx,fy,fz) ns (j+1))):=by
   rw [Ro]; unfold imC; rw [Si,Tu (by omega)]; rfl
  have hto:pts[j+2]?=some to:=by rw [<-Df,hd]; rfl
  have e3:(pts.map ptc)[0+(Qa Qb (((j+1:Nat):Int)+1)).toNat]?=some (ptc to):=by rw [b2,Ro,Rw,Si,hto]; rfl
  have e4:(pts.map ptc)[0+((j+1:Nat):Int).toNat]?=some (ptc (pts[j+1]'(by omega))):=by rw [Ro,Rw]; exact Zgl (by omega)
  have fc:=Zn0 g e0 (hi ns[j] (Qt _)) (Zin (m:=45000) (by omega) (Zli g hf hl (Zyp hi) (j+1) (by omega))) (hpr to (by simp))
  rw [hlt' (by omega),goP] at hgo
  have c1:crsR h s [h.av,s.av,Crs.av ⟨ns[j],(imA (im1 h s) (fx,fy,fz) ns (j+1)).1,(imA (im1 h s) (fx,fy,fz) ns (j+1)).2.1,(imA (im1 h s) (fx,fy,fz) ns (j+1)).2.2,to⟩]=some ⟨crAV (crsA h s ⟨ns[j],(imA (im1 h s) (fx,fy,fz) ns (j+1)).1,(imA (im1 h s) (fx,fy,fz) ns (j+1)).2.1,(imA (im1 h s) (fx,fy,fz) ns (j+1)).2.2,to⟩),[]⟩:=by
   rw [fc.2.2.1]
   exact Zx0 (c:=⟨ns[j],(imA (im1 h s) (fx,fy,fz) ns (j+1)).1,(imA (im1 h s) (fx,fy,fz) ns (j+1)).2.1,(imA (im1 h s) (fx,fy,fz) ns (j+1)).2.2,to⟩) fc.2.1 fc.1
  have w1:=fun q=>(fc.2.2.2 q).1
  clear fc
  have hfp:fP h s ns[j] (imA (im1 h s) (fx,fy,fz) ns (j+1)) to=crsA h s ⟨ns[j],(imA (im1 h s) (fx,fy,fz) ns (j+1)).1,(imA (im1 h s) (fx,fy,fz) ns (j+1)).2.1,(imA (im1 h s) (fx,fy,fz) ns (j+1)).2.2,to⟩:=rfl
  rw [hfp] at hgo
  clear hfp
  generalize crsA h s ⟨ns[j],(imA (im1 h s) (fx,fy,fz) ns (j+1)).1,(imA (im1 h s) (fx,fy,fz) ns (j+1)).2.1,(imA (im1 h s) (fx,fy,fz) ns (j+1)).2.2,to⟩=r at *
  obtain ⟨⟨x,y,z,d⟩,E⟩:=r
  generalize imA (im1 h s) (fx,fy,fz) ns (j+1)=q at *
  obtain ⟨qx,qy,qz⟩:=q
  obtain ⟨X,Y,Z,V⟩:=to
  dsimp only at hgo w1 c1
  by_cases hE:E=0
  ·subst hE
   rw [if_pos rfl] at hgo
   have hs1:Zhh (pts.map ptc) (0+((j+1:Nat):Int).toNat) (ptc ⟨x,y,z,d⟩)=(pts.set (j+1) ⟨x,y,z,d⟩).map ptc:=by
    rw [Ro,Rw]; exact Zmb _ _ _
   repeat'(first|refine wk3 ?_|(refine wk2 ?_ ?_<;>intro _)|refine wk4 ?_|fail);all_goals(conv=>whnf)
   exact Qn ⟨(j,_,_,pts.set (j+1) ⟨x,y,z,d⟩),[],rfl,kps,kps,⟨b1,by dsimp only; omega,hs1,by dsimp only; rw [Jz,hpl],by dsimp only; rw [Ml,if_neg (by omega)]; exact hp0,⟨x,y,z,d⟩,⟨x,y,z,d⟩::P,⟨X,Y,Z,V⟩::Q,by dsimp only; rw [Zci (by omega),hd],(fun p hp=>by
    rcases Qz.1 hp with rfl|hp
    ·exact w1 rfl
    ·exact hpr p hp),by rw [Tj,hPQ],hgo⟩,by dsimp only; omega⟩
  ·rw [if_neg hE] at hgo
   rw [<-hgo] at hR
   dsimp only at hR
   subst hR
   repeat'(first|refine wk3 ?_|(refine wk2 ?_ ?_<;>intro _)|refine wk4 ?_|fail);all_goals(conv=>whnf)
   all_goals exact Zg rfl rfl
 | zero =>
  have hpe:pts=pnt (fx,fy,fz)::P++[pnt (tx,ty,tz)]:=by
   rw [Tj,hPQ,<-hd]
   clear hk0 lp hpl
   cases pts with
   | nil=>cases hp0
   | cons p r=>cases hp0; rfl
  have hpa:∀ p∈pts,Yu p=0:=fun p hp=>by
   rw [hpe,Tj,hPQ] at hp
   rcases Qz.1 hp with rfl|hp
   ·exact w0
   ·exact hpr p hp
  rw [Kc,Ja,goP] at hgo
  rw [<-hgo] at hR
  dsimp only at hR
  rw [<-hpe] at hR
  have hPl:P.length=ns.length:=by
   have:=congrArg Ft hpe
   simp at this; omega
  clear hgo hlt' hd hPQ hpr Q to
  repeat'(first|refine wk3 ?_|(refine wk2 ?_ ?_<;>intro _)|refine wk4 ?_|fail);all_goals(conv=>whnf)
  refine Zw (S:=Nat × Int) (fun t=>ns.length+1-t.1) (fun t=>[(3,.isl 1 (nl ns)),(4,.ptr 0 0 0),(5,.ptr 1 0 0),(6,.ptr 2 0 0),(8,.ptr 3 0 0),(10,.isl 3 (imC (im1 h s) (fx,fy,fz) ns ns.length)),(11,I (nl ns).length),(12,.asl 4 0 (Qa Qb (((nl ns).length:Int)+2)).toNat),(16,I t.2)])
   (fun t=>[(4,.row 4 (pts.map ptc) true true),(3,.row 3 [[.nils,.nils,I 0]] true false),(2,.row 7 [[I fx,I fy,I fz,I tx,I ty,I tz,I n]] true false),(1,.row 2 [[.isl 1 (nl s.hs),.isl 1 (nl s.dr)]] true false),(0,.row 9 [h.cells] true false)]) 19 19
   (fun t=>t.2=t.1/\t.1<=ns.length+1/\chkW (wP h s) (pts.drop t.1)=chkW (wP h s) pts) (0,0) ⟨rfl,Qo _,rfl⟩ (Qf _) [] rfl (kps) (kps) ?_
  rintro ⟨k,i⟩ ⟨hi1,hk1,hck⟩
  dsimp only at hi1 hk1 hck ⊢
  subst hi1
  by_cases hlt:k<ns.length+1
  ·have b0:((k:Nat):Int)<=((nl ns).length:Int):=by rw [ll]; omega
   have b2:Qa Qb (((k:Nat):Int)+1)=((k+1:Nat):Int):=by rw [W_eq (by omega) (by omega)]; omega
   have e3:(pts.map ptc)[0+((k:Nat):Int).toNat]?=some (ptc (pts[k]'(by omega))):=by rw [Ro,Rw]; exact Zgl (by omega)
   have e4:(pts.map ptc)[0+(Qa Qb (((k:Nat):Int)+1)).toNat]?=some (ptc (pts[k+1]'(by omega))):=by rw [b2,Ro,Rw]; exact Zgl (by omega)
   rw [Zn5 (by omega)] at hck
   have q1:=hpa (pts[k]'(by omega)) (Qt _)
   have q2:=hpa (pts[k+1]'(by omega)) (Qt _)
   have v1:=Zwj (h:=h) (s:=s) (Zqe q1).r (Zqe q2).r
   rw [Ydy g e0 q1 q2] at hck
   clear q1 q2
   have hpq:ptEq (pts[k]'(by omega)) (pts[k+1]'(by omega))=(decide ((pts[k]'(by omega)).x=(pts[k+1]'(by omega)).x)&&decide ((pts[k]'(by omega)).y=(pts[k+1]'(by omega)).y)&&decide ((pts[k]'(by omega)).z=(pts[k+1]'(by omega)).z)&&decide ((pts[k]'(by omega)).d=(pts[k+1]'(by omega)).d)):=rfl
   rw [hpq] at hck
   clear hpq
   generalize (pts[k]'(by omega))=p1 at *
   generalize (pts[k+1]'(by omega))=p2 at *
   generalize Zi3 h s p1 p2=f at *
   obtain ⟨x1,y1,z1,d1⟩:=p1
   obtain ⟨x2,y2,z2,d2⟩:=p2
   dsimp only at hck
   refine bs.av (sx:=nos) hk0 ?_
   cases hb:(!(decide (x1=x2)&&decide (y1=y2)&&decide (z1=z2)&&decide (d1=d2))&&f) with
   | true =>
    rw [hb,Tx] at hck
    repeat'(first|refine wk3 ?_|(refine wk2 ?_ ?_<;>intro _)|refine wk4 ?_|fail);all_goals(conv=>whnf)
    all_goals first
     | (exfalso; clear hk0; simp_all; done)
     | exact Qn ⟨(k+1,_),[],rfl,kps,kps,⟨b2,hlt,hck⟩,by dsimp only; omega⟩
   | false =>
    rw [hb,Mh] at hck
    rw [<-hck,if_neg (by simp)] at hR
    subst hR
    repeat'(first|refine wk3 ?_|(refine wk2 ?_ ?_<;>intro _)|refine wk4 ?_|fail);all_goals(conv=>whnf)
    all_goals first
     | exact Zg rfl rfl
     | (exfalso; clear hk0; simp_all; done)
  ·have hke:k=ns.length+1:=by omega
   subst hke
   rw [Zn6 (by omega)] at hck
   rw [<-hck,if_pos rfl] at hR
   subst hR
   refine Awp.froz [4] rfl (bs.av (sx:=nos) hk0 ?_)
   have y1:Zd8 (some (I (Qa Qb (((nl ns).length:Int)+1)))) (Qa Qb (((nl ns).length:Int)+2)).toNat=some (ns.length+1):=by
    show cond (decide (0<=Qa Qb (((nl ns).length:Int)+1))) (some (Qa Qb (((nl ns).length:Int)+1)).toNat) none=_
    rw [x1,decide_eq_true (by omega)]
    simp only [cond_true,Qd]; omega
   have e5:(imC (im1 h s) (fx,fy,fz) ns ns.length)[((nl ns).length:Int).toNat]?=some (pl3 (imA (im1 h s) (fx,fy,fz) ns ns.length)):=by
    rw [Ro,ll]; exact Zhp _ _ _ _
   cases P with
   | nil =>
    have hns:ns=[]:=List.eq_nil_of_length_eq_zero (by rw [<-hPl]; rfl)
    subst hns
    subst hpe
    clear hk1 hll hlt hpl lp hp0
    conv=>whnf
    repeat'(first|refine wk3 ?_|(refine wk2 ?_ ?_<;>intro _)|refine wk4 ?_|fail);all_goals(conv=>whnf)
    exact Yp [21] rfl rfl rfl
   | cons p P =>
   have e7:Qap (ns.length+1-Sy 1) (Qaq (0+Sy 1) (pts.map ptc))=((p::P).map tup4).map hp4:=by
    rw [hpe,Tj,Sp,show (0+Sy 1)=1 from rfl,Ht,Tn,We,show ns.length+1-Sy 1=((p::P).map ptc).length by rw [Se,hPl]; omega,Qaa,Gv]
    rfl
   conv=>whnf
   repeat'(first|refine wk3 ?_|(refine wk2 ?_ ?_<;>intro _)|refine wk4 ?_|fail);all_goals(conv=>whnf)
   refine Zkw rfl rfl rfl rfl rfl rfl y1 (by omega) (by rw [x2]; omega) (by rw [x2]; omega) ?_
   conv=>whnf
   generalize imA (im1 h s) (fx,fy,fz) ns ns.length=q at *
   obtain ⟨qx,qy,qz⟩:=q
   repeat'(first|refine wk3 ?_|(refine wk2 ?_ ?_<;>intro _)|refine wk4 ?_|fail);all_goals(conv=>whnf)
   refine Zpv (ys:=((p::P).map tup4).map hp4) rfl rfl rfl rfl rfl rfl rfl (by rw [<-e7]; rfl) rfl ?_ (by simp) rfl (by rw [Se,Se,hPl]; show 0+_<=_; omega) ?_
   ·exact Zmr _
   conv=>whnf
   repeat'(first|refine wk3 ?_|(refine wk2 ?_ ?_<;>intro _)|refine wk4 ?_|fail);all_goals(conv=>whnf)
   refine Yp [26] rfl ?_ rfl
   exact congrArg (fun m=>AV.tup [.agg [.isl 1 (nl ns),.asl 26 0 m,I (sqV qx qy qz tx ty tz)],Bo true]) (Rw (((p::P).map tup4).map hp4).length)
theorem d21p {h:Hal} {s:Stg} (g:Sit h s) (e0:serr h s=0) (a:Ask) (hf:Near 5000 (a.fx,a.fy,a.fz)) (ht:Near 5000 (a.tx,a.ty,a.tz)) {ns:List Int} (hl:ns.length<=4) (hi:∀ n∈ns,0<=n/\n<nsur h) :
  PCall Tryz.prog 36 [h.av,s.av,a.av,.isl 1 (nl ns)] ⟨ansP (Uh h s (a.fx,a.fy,a.fz) (a.tx,a.ty,a.tz) ns),[]⟩:=(d21r g e0 a hf ht hl hi).freeze (Zw0 _)
abbrev zPth:Pth:=⟨[],[],0⟩
end Go.Proofs.YtipbliclbihaeaaGreat
