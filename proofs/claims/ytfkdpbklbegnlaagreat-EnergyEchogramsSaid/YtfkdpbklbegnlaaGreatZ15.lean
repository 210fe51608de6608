/- A part of the proof: lemmas. -/
import Derived.Test.YtfkdpbklbegnlaaGreatZ14
import Derived.Test.YtfkdpbklbegnlaaGreatZ13
import Derived.Test.YtfkdpbklbegnlaaGreatZ7
import Derived.Test.YtfkdpbklbegnlaaGreatZ12
set_option linter.unusedVariables false
set_option linter.unusedSimpArgs false
set_option maxRecDepth 100000
set_option maxHeartbeats 16000000
open Bool renaming and_eq_true->Qc,false_or->Pk
open Go.IntKind renaming i64->Qb,wrap->Qa
open Go.Sx.AV.agg renaming injEq->Nc
open Go.Sx.AV.int renaming injEq->Sr
open Go.Sx.AV.isl renaming injEq->Na
open Go.Sx.Done renaming mk->Ql
open Go.Sx.LpM renaming start->Su,succ->Qx
open Int renaming le_of_lt->Qu,lt_trichotomy->Tb,mul_comm->Re,neg_neg->Tu,toNat->Tp,toNat_natCast->Rf
open List renaming cons_append->Ss,drop_eq_getElem_cons->Qi,drop_of_length_le->Qk,getElem?_eq_getElem->Qe,getElem?_map->Rq,getElem?_set->Md,getElem_mem->Qr,length_cons->Ru,length_map->Ra,length_set->Gt,map_cons->Ti,map_set->Mu,mem_cons->Rb,range'->Oy,replicate->Sd
open List.cons renaming injEq->Qs
open Nat renaming gcd->Tl,gcd_one_right->Qad,le_of_ble_eq_true->Qm,le_refl->Qd,zero_add->Ry,zero_le->Qn
open Option.some renaming injEq->Qf
namespace Go.Proofs.YtfkdpbklbegnlaaGreat
open Go Go.Sx
def okQ (n d m k:Int):Prop:=(0<d/\d<=9223372036854775807)/\(0<k/\k<=9223372036854775807)/\(-9223372036854775807<=n/\n<=9223372036854775807)/\(-9223372036854775807<=m/\m<=9223372036854775807)
noncomputable abbrev cmps:List AV->Option PRes:=famA (fun p:Int × Int × Int × Int=>okQ p.1 p.2.1 p.2.2.1 p.2.2.2) (fun p=>[I p.1,I p.2.1,I p.2.2.1,I p.2.2.2]) (fun p=>⟨I (cmpQ p.1 p.2.1 p.2.2.1 p.2.2.2),[]⟩)
theorem Xz {n d m k:Int} (h:okQ n d m k):cmps [I n,I d,I m,I k]=some ⟨I (cmpQ n d m k),[]⟩ :=
 Zm (p:=fun p:Int × Int × Int × Int=>okQ p.1 p.2.1 p.2.2.1 p.2.2.2) (g:=fun p=>[I p.1,I p.2.1,I p.2.2.1,I p.2.2.2]) (r:=fun p=>⟨I (cmpQ p.1 p.2.1 p.2.2.1 p.2.2.2),[]⟩) (k:=(n,d,m,k)) (fun j hj=>by
  simp only [Qs,Sr,true_and,and_true] at hj
  obtain ⟨h1,h2,h3,h4⟩:=hj
  dsimp only
  rw [h1,h2,h3,h4]) h
theorem Yhc {pt:PC} (h:PCOK Tryz.prog pt):PCOK Tryz.prog (ins 272 cmps pt):=Zo (fun p hp=>c187 hp.1.1 hp.2.1.1 hp.1.2 hp.2.1.2 hp.2.2.1 hp.2.2.2) h
noncomputable def kC2:PC:=ins 272 cmps kR4
theorem Yu:PCOK Tryz.prog kC2:=Yhc Zdz
def bdQ (n d m k:Int):Prop:=(0<d/\d<=200000000000000)/\(0<k/\k<=200000000000000)/\(-200000000000000<=n/\n<=200000000000000)/\(-200000000000000<=m/\m<=200000000000000)
theorem bdQ.ok {n d m k:Int} (h:bdQ n d m k):okQ n d m k:=by obtain ⟨h1,h2,h3,h4⟩:=h; exact ⟨by omega,by omega,by omega,by omega⟩
theorem Zhn {a n d m k:Int} {l:List (Int × Int)} (h:a<0):Yq ((a,0)::l) n d m k=false:=by rw [Yq,if_pos ⟨rfl,h⟩]
theorem Zho {a n d m k:Int} {l:List (Int × Int)} (h:¬ a<0):Yq ((a,0)::l) n d m k=Yq l n d m k:=by rw [Yq,if_neg (by omega),if_neg (by omega),if_neg (by omega)]
theorem Zog {a v n d m k:Int} {l:List (Int × Int)} (h:0<v) (hc:0<cmpQ (-a) v n d):Yq ((a,v)::l) n d m k=Yq l (-a) v m k:=by rw [Yq,if_neg (by omega),if_pos ⟨h,hc⟩]
theorem Zjq {a v n d m k:Int} {l:List (Int × Int)} (h:0<v) (hc:¬ 0<cmpQ (-a) v n d):Yq ((a,v)::l) n d m k=Yq l n d m k:=by rw [Yq,if_neg (by omega),if_neg (fun h=>hc h.2),if_neg (by omega)]
theorem Zoh {a v n d m k:Int} {l:List (Int × Int)} (h:v<0) (hc:cmpQ a (-v) m k<0):Yq ((a,v)::l) n d m k=Yq l n d a (-v):=by rw [Yq,if_neg (by omega),if_neg (by omega),if_pos ⟨h,hc⟩]
theorem Zjr {a v n d m k:Int} {l:List (Int × Int)} (h:v<0) (hc:¬ cmpQ a (-v) m k<0):Yq ((a,v)::l) n d m k=Yq l n d m k:=by rw [Yq,if_neg (by omega),if_neg (by omega),if_neg (fun h=>hc h.2)]
theorem Zu3 {a v m k:Int} (hc:cmpQ a v m k<0) (hk:0<k) (hm:m<=k) (hv:0<v):a<=v:=by
 unfold cmpQ at hc
 rw [Xq] at hc
 have q:=Int.mul_le_mul_of_nonneg_right hm (Qu hv)
 have e:k*(a-v)=a*k-k*v:=by grind
 have:=(Zdi hk).1 (show k*(a-v)<0 by omega)
 omega
theorem Zu4 {a v n d:Int} (hc:0<cmpQ a v n d) (hd:0<d) (hn:0<=n) (hv:0<v):0<=a:=by
 unfold cmpQ at hc
 rw [Xp] at hc
 have q:=Int.mul_nonneg hn (Qu hv)
 have e:d*a=a*d:=Re _ _
 have:=(Zby hd).1 (show 0<d*a by omega)
 omega
structure AxOk (x y lo hi aD bD:Int):Prop where
 a0:0<aD/\aD<=100000
 b0:0<bD/\bD<=100000
 x : -(5000*aD)<=x/\x<=5000*aD
 y : -(5000*bD)<=y/\y<=5000*bD
 lo : -5000<=lo/\lo<=5000
 hi : -5000<=hi/\hi<=5000
theorem Yj8 {x y lo hi aD bD:Int} (h:AxOk x y lo hi aD bD):(Qa Qb (Qa Qb (y*aD)-Qa Qb (x*bD))=y*aD-x*bD/\Qa Qb (0-Qa Qb (Qa Qb (y*aD)-Qa Qb (x*bD))) = -(y*aD-x*bD) /\ -100000000000000<=y*aD-x*bD/\y*aD-x*bD<=100000000000000) /\
  (Qa Qb (Qa Qb (x-Qa Qb (lo*aD))*bD)=(x-lo*aD)*bD/\Qa Qb (0-Qa Qb (Qa Qb (x-Qa Qb (lo*aD))*bD)) = -((x-lo*aD)*bD) /\ -100000000000000<=(x-lo*aD)*bD/\(x-lo*aD)*bD<=100000000000000) /\
  (Qa Qb (Qa Qb (Qa Qb (hi*aD)-x)*bD)=(hi*aD-x)*bD/\Qa Qb (0-Qa Qb (Qa Qb (Qa Qb (hi*aD)-x)*bD)) = -((hi*aD-x)*bD) /\ -100000000000000<=(hi*aD-x)*bD/\(hi*aD-x)*bD<=100000000000000):=by
 obtain ⟨h1,h2,h3,h4,h5,h6⟩:=h
 have m1:=Zn (a:=y) (b:=aD) (A:=500000000) (B:=100000) (by omega) (by omega)
 have m2:=Zn (a:=x) (b:=bD) (A:=500000000) (B:=100000) (by omega) (by omega)
 have m3:=Zj h5 h1.1
 have m4:=Zj h6 h1.1
 have m5:=Zn (a:=x-lo*aD) (b:=bD) (A:=1000000000) (B:=100000) (by omega) (by omega)
 have m6:=Zn (a:=hi*aD-x) (b:=bD) (A:=1000000000) (B:=100000) (by omega) (by omega)
 rw [W_eq (n:=y*aD) (by omega) (by omega),W_eq (n:=x*bD) (by omega) (by omega),W_eq (n:=lo*aD) (by omega) (by omega),W_eq (n:=hi*aD) (by omega) (by omega)]
 rw [W_eq (n:=x-lo*aD) (by omega) (by omega),W_eq (n:=hi*aD-x) (by omega) (by omega),W_eq (n:=(x-lo*aD)*bD) (by omega) (by omega),W_eq (n:=(hi*aD-x)*bD) (by omega) (by omega),W_eq (n:=y*aD-x*bD) (by omega) (by omega)]
 rw [W_eq (n:=0-(y*aD-x*bD)) (by omega) (by omega),W_eq (n:=0-(x-lo*aD)*bD) (by omega) (by omega),W_eq (n:=0-(hi*aD-x)*bD) (by omega) (by omega)]
 refine ⟨⟨rfl,by omega,by omega,by omega⟩,⟨rfl,by omega,by omega,by omega⟩,rfl,by omega,by omega,by omega⟩
theorem c190 {c:Can} (hr:CanOk c) {a b:Pt} (ha:PtR a) (hb:PtR b):PCall Tryz.prog 273 [.agg c.av,a.av,b.av] ⟨Bo (Zwg c.rc a.pl b.pl),[]⟩:=by
 obtain ⟨⟨v1,v2⟩,v3,v4⟩:=Zf7 c
 have aX:AxOk a.x b.x (imin c.fx c.tx) (imax c.fx c.tx) a.d b.d:=⟨⟨ha.d0,ha.d1⟩,⟨hb.d0,hb.d1⟩,ha.x,hb.x,by rw [Zaw]; have:=hr.b1; have:=hr.b3; omega,by rw [Zax]; have:=hr.b1; have:=hr.b3; omega⟩
 have aY:AxOk a.y b.y (imin c.fy c.ty) (imax c.fy c.ty) a.d b.d:=⟨⟨ha.d0,ha.d1⟩,⟨hb.d0,hb.d1⟩,ha.y,hb.y,by rw [Zaw]; have:=hr.b2; have:=hr.b4; omega,by rw [Zax]; have:=hr.b2; have:=hr.b4; omega⟩
 have hT:Zwg c.rc a.pl b.pl=Yq [((a.x-imin c.fx c.tx*a.d)*b.d,b.x*a.d-a.x*b.d),((imax c.fx c.tx*a.d-a.x)*b.d,-(b.x*a.d-a.x*b.d)),((a.y-imin c.fy c.ty*a.d)*b.d,b.y*a.d-a.y*b.d),((imax c.fy c.ty*a.d-a.y)*b.d,-(b.y*a.d-a.y*b.d))] 0 1 1 1:=by
  unfold Zwg rcN Pt.pl
  rw [v1,v2,v3,v4,<-Zaw,<-Zaw,<-Zax,<-Zax]
  simp only [Ti,List.map_nil]
  congr 2
  ·congr 1; grind
  ·congr 1
   ·congr 1; grind
   ·congr 1
    ·congr 1; grind
    ·congr 2; grind
 rw [hT]
 clear hT v1 v2 v3 v4
 refine pn Yu Tryz.func273 ?_
 repeat'(first|refine wk3 ?_|(refine wk2 ?_ ?_<;>intro _)|fail)
 refine Su 3 ?_
 refine Qx (bs.av (sx:=nos) Yu ?_)
 repeat'(first|refine wk3 ?_|(refine wk2 ?_ ?_<;>intro _)|fail)
 have eY:(imin c.fy c.ty=imin c.fy c.ty)/\(imax c.fy c.ty=imax c.fy c.ty):=⟨rfl,rfl⟩
 have hbd:bdQ 0 1 1 1:=⟨by omega,by omega,by omega,by omega⟩
 have hnm:(0:Int)<=0/\(1:Int)<=1:=⟨by omega,by omega⟩
 generalize hRR:Yq _ 0 1 1 1=R
 have hR:=hRR
 clear hRR
 refine Zr (S:=Int × Int × Int × Int × Int) (fun t=>(2-t.1).toNat) (fun t=>[(3,.ptr 0 0 0),(4,.ptr 1 0 0),(5,.ptr 2 0 0),(7,I t.2.1),(8,I t.2.2.1),(9,I t.2.2.2.1),(10,I t.2.2.2.2),(11,I 0),(12,I (a.x)),(13,I (b.x)),(14,I (imin c.fx c.tx)),(15,I (imax c.fx c.tx)),(16,I (Qa Qb (Qa Qb (b.x*a.d)-Qa Qb (a.x*b.d)))),(17,I t.1)]) (fun _=>[(2,.row 4 [[I b.x,I b.y,I b.z,I b.d]] true false),(1,.row 4 [[I a.x,I a.y,I a.z,I a.d]] true false),(0,.row 7 [c.av] true false)]) 40 40 (fun t=>bdQ t.2.1 t.2.2.1 t.2.2.2.1 t.2.2.2.2/\(0<=t.2.1/\t.2.2.2.1<=t.2.2.2.2)/\((t.1=0/\Yq (((a.x-imin c.fx c.tx*a.d)*b.d,(b.x*a.d-a.x*b.d))::(((imax c.fx c.tx*a.d-a.x)*b.d,-(b.x*a.d-a.x*b.d))::[((a.y-imin c.fy c.ty*a.d)*b.d,b.y*a.d-a.y*b.d),((imax c.fy c.ty*a.d-a.y)*b.d,-(b.y*a.d-a.y*b.d))])) t.2.1 t.2.2.1 t.2.2.2.1 t.2.2.2.2=R)\/(t.1=1/\Yq (((imax c.fx c.tx*a.d-a.x)*b.d,-(b.x*a.d-a.x*b.d))::[((a.y-imin c.fy c.ty*a.d)*b.d,b.y*a.d-a.y*b.d),((imax c.fy c.ty*a.d-a.y)*b.d,-(b.y*a.d-a.y*b.d))]) t.2.1 t.2.2.1 t.2.2.2.1 t.2.2.2.2=R)\/(t.1=2/\Yq [((a.y-imin c.fy c.ty*a.d)*b.d,b.y*a.d-a.y*b.d),((imax c.fy c.ty*a.d-a.y)*b.d,-(b.y*a.d-a.y*b.d))] t.2.1 t.2.2.1 t.2.2.2.1 t.2.2.2.2=R))) (0,0,1,1,1) ⟨hbd,hnm,.inl ⟨rfl,hR⟩⟩ (Qm rfl) [] rfl (kps) (kps) ?_
 clear hR hbd hnm
 rintro ⟨e,n,d,m,k⟩ ⟨hbd,hnm,hcase⟩
 dsimp only at hbd hnm hcase ⊢
 obtain ⟨⟨y1,y2,y3⟩,h2,h3⟩:=Yj8 aX
 rw [<-y1] at hcase y3
 clear y2
 generalize Qa Qb (Qa Qb (b.x*a.d)-Qa Qb (a.x*b.d))=BY at *
 rcases hcase with ⟨rfl,hR⟩|⟨rfl,hR⟩|⟨rfl,hR⟩
 ·have ra:Qa Qb (Qa Qb (a.x-Qa Qb (imin c.fx c.tx*a.d))*b.d)=(a.x-imin c.fx c.tx*a.d)*b.d:=h2.1
  have ra' : Qa Qb (0-Qa Qb (Qa Qb (a.x-Qa Qb (imin c.fx c.tx*a.d))*b.d)) = -((a.x-imin c.fx c.tx*a.d)*b.d):=h2.2.1
  have rb:=h2.2.2
  have rm1:Qa Qb (0-BY) = -BY:=W_eq (by omega) (by omega) |>.trans (by omega)
  have rm2:Qa Qb (0-Qa Qb (0-BY))=BY:=by rw [rm1]; exact (W_eq (by omega) (by omega)).trans (by omega)
  clear h2 h3
  generalize (a.x-imin c.fx c.tx*a.d)*b.d=A at *
  have fin:∀ n' d' m' k' : Int,bdQ n' d' m' k'->(0<=n'/\m'<=k')->Yq (((imax c.fx c.tx*a.d-a.x)*b.d,-BY)::[((a.y-imin c.fy c.ty*a.d)*b.d,b.y*a.d-a.y*b.d),((imax c.fy c.ty*a.d-a.y)*b.d,-(b.y*a.d-a.y*b.d))]) n' d' m' k'=R->(bdQ n' d' m' k'/\(0<=n'/\m'<=k')/\(((1:Int)=0/\Yq ((A,(b.x*a.d-a.x*b.d))::(((imax c.fx c.tx*a.d-a.x)*b.d,-(b.x*a.d-a.x*b.d))::[((a.y-imin c.fy c.ty*a.d)*b.d,b.y*a.d-a.y*b.d),((imax c.fy c.ty*a.d-a.y)*b.d,-(b.y*a.d-a.y*b.d))])) n' d' m' k'=R)\/((1:Int)=1/\Yq (((imax c.fx c.tx*a.d-a.x)*b.d,-(b.x*a.d-a.x*b.d))::[((a.y-imin c.fy c.ty*a.d)*b.d,b.y*a.d-a.y*b.d),((imax c.fy c.ty*a.d-a.y)*b.d,-(b.y*a.d-a.y*b.d))]) n' d' m' k'=R)\/((1:Int)=2/\Yq [((a.y-imin c.fy c.ty*a.d)*b.d,b.y*a.d-a.y*b.d),((imax c.fy c.ty*a.d-a.y)*b.d,-(b.y*a.d-a.y*b.d))] n' d' m' k'=R))):=fun n' d' m' k' g1 g2 g3=>⟨g1,g2,by rw [<-y1]; exact .inr (.inl ⟨rfl,g3⟩)⟩
  rcases Tb BY 0 with hv|hv|hv
  ·skip
   have ht:cmps [I (Qa Qb (Qa Qb (a.x-Qa Qb (imin c.fx c.tx*a.d))*b.d)),I (Qa Qb (0-BY)),I m,I k]=some ⟨I (cmpQ A (-(BY)) m k),[]⟩:=by rw [ra,rm1]; exact Xz (d:=_) ⟨by omega,⟨hbd.2.1.1,by have:=hbd.2.1.2; omega⟩,by omega,by have:=hbd.2.2.2; omega⟩
   by_cases hc:cmpQ A (-(BY)) m k<0
   ·rw [Zoh (by omega) hc] at hR
    have hA:A <= -(BY):=Zu3 hc hbd.2.1.1 hnm.2 (by omega);generalize cmpQ A (-(BY)) m k=Q at *;refine bs.av (sx:=nos) Yu ?_
    repeat'(first|refine wk3 ?_|(refine wk2 ?_ ?_<;>intro _)|fail)
    exact Ql ⟨(1,n,d,Qa Qb (Qa Qb (a.x-Qa Qb (imin c.fx c.tx*a.d))*b.d),(Qa Qb (0-BY))),[],rfl,kps,kps,fin n d (Qa Qb (Qa Qb (a.x-Qa Qb (imin c.fx c.tx*a.d))*b.d)) ((Qa Qb (0-BY))) (by rw [ra,rm1]; exact ⟨hbd.1,by omega,hbd.2.2.1,by omega⟩) (by rw [ra,rm1]; omega) (by rw [ra,rm1]; exact hR),by dsimp only; omega⟩
   ·rw [Zjr (by omega) hc] at hR
    generalize cmpQ A (-(BY)) m k=Q at *;refine bs.av (sx:=nos) Yu ?_
    repeat'(first|refine wk3 ?_|(refine wk2 ?_ ?_<;>intro _)|fail)
    exact Ql ⟨(1,n,d,m,k),[],rfl,kps,kps,fin _ _ _ _ hbd hnm hR,by dsimp only; omega⟩
  ·subst hv
   skip
   by_cases hneg:A<0
   ·rw [Zhn hneg] at hR
    rw [<-hR];refine bs.av (sx:=nos) Yu ?_
    repeat'(first|refine wk3 ?_|(refine wk2 ?_ ?_<;>intro _)|fail)
    exact Zb rfl
   ·rw [Zho hneg] at hR
    refine bs.av (sx:=nos) Yu ?_
    repeat'(first|refine wk3 ?_|(refine wk2 ?_ ?_<;>intro _)|fail)
    exact Ql ⟨(1,n,d,m,k),[],rfl,kps,kps,fin _ _ _ _ hbd hnm hR,by dsimp only; omega⟩
  ·skip
   have ht:cmps [I (Qa Qb (0-Qa Qb (Qa Qb (a.x-Qa Qb (imin c.fx c.tx*a.d))*b.d))),I BY,I n,I d]=some ⟨I (cmpQ (-A) (BY) n d),[]⟩:=by rw [ra']; exact Xz ⟨by omega,⟨hbd.1.1,by have:=hbd.1.2; omega⟩,by omega,by have:=hbd.2.2.1; omega⟩
   by_cases hc:0<cmpQ (-A) (BY) n d
   ·rw [Zog (by omega) hc] at hR
    have hA:0 <= -A:=Zu4 hc hbd.1.1 hnm.1 (by omega);generalize cmpQ (-A) (BY) n d=Q at *;refine bs.av (sx:=nos) Yu ?_
    repeat'(first|refine wk3 ?_|(refine wk2 ?_ ?_<;>intro _)|fail)
    exact Ql ⟨(1,Qa Qb (0-Qa Qb (Qa Qb (a.x-Qa Qb (imin c.fx c.tx*a.d))*b.d)),BY,m,k),[],rfl,kps,kps,fin (Qa Qb (0-Qa Qb (Qa Qb (a.x-Qa Qb (imin c.fx c.tx*a.d))*b.d))) (BY) m k (by rw [ra']; exact ⟨by omega,hbd.2.1,by omega,hbd.2.2.2⟩) (by rw [ra']; omega) (by rw [ra']; exact hR),by dsimp only; omega⟩
   ·rw [Zjq (by omega) hc] at hR
    generalize cmpQ (-A) (BY) n d=Q at *;refine bs.av (sx:=nos) Yu ?_
    repeat'(first|refine wk3 ?_|(refine wk2 ?_ ?_<;>intro _)|fail)
    exact Ql ⟨(1,n,d,m,k),[],rfl,kps,kps,fin _ _ _ _ hbd hnm hR,by dsimp only; omega⟩
 ·have ra:Qa Qb (Qa Qb (Qa Qb (imax c.fx c.tx*a.d)-a.x)*b.d)=(imax c.fx c.tx*a.d-a.x)*b.d:=h3.1
  have ra' : Qa Qb (0-Qa Qb (Qa Qb (Qa Qb (imax c.fx c.tx*a.d)-a.x)*b.d)) = -((imax c.fx c.tx*a.d-a.x)*b.d):=h3.2.1
  have rb:=h3.2.2
  have rm1:Qa Qb (0-BY) = -BY:=W_eq (by omega) (by omega) |>.trans (by omega)
  have rm2:Qa Qb (0-Qa Qb (0-BY))=BY:=by rw [rm1]; exact (W_eq (by omega) (by omega)).trans (by omega)
  clear h2 h3
  generalize (imax c.fx c.tx*a.d-a.x)*b.d=A at *
  have fin:∀ n' d' m' k' : Int,bdQ n' d' m' k'->(0<=n'/\m'<=k')->Yq [((a.y-imin c.fy c.ty*a.d)*b.d,b.y*a.d-a.y*b.d),((imax c.fy c.ty*a.d-a.y)*b.d,-(b.y*a.d-a.y*b.d))] n' d' m' k'=R->(bdQ n' d' m' k'/\(0<=n'/\m'<=k')/\(((2:Int)=0/\Yq (((a.x-imin c.fx c.tx*a.d)*b.d,(b.x*a.d-a.x*b.d))::((A,-(b.x*a.d-a.x*b.d))::[((a.y-imin c.fy c.ty*a.d)*b.d,b.y*a.d-a.y*b.d),((imax c.fy c.ty*a.d-a.y)*b.d,-(b.y*a.d-a.y*b.d))])) n' d' m' k'=R)\/((2:Int)=1/\Yq ((A,-(b.x*a.d-a.x*b.d))::[((a.y-imin c.fy c.ty*a.d)*b.d,b.y*a.d-a.y*b.d),((imax c.fy c.ty*a.d-a.y)*b.d,-(b.y*a.d-a.y*b.d))]) n' d' m' k'=R)\/((2:Int)=2/\Yq [((a.y-imin c.fy c.ty*a.d)*b.d,b.y*a.d-a.y*b.d),((imax c.fy c.ty*a.d-a.y)*b.d,-(b.y*a.d-a.y*b.d))] n' d' m' k'=R))):=fun n' d' m' k' g1 g2 g3=>⟨g1,g2,by rw [<-y1]; exact .inr (.inr ⟨rfl,g3⟩)⟩
  rcases Tb BY 0 with hv|hv|hv
  ·skip
   have ht:cmps [I (Qa Qb (0-Qa Qb (Qa Qb (Qa Qb (imax c.fx c.tx*a.d)-a.x)*b.d))),I (Qa Qb (0-BY)),I n,I d]=some ⟨I (cmpQ (-A) (-BY) n d),[]⟩:=by rw [ra',rm1]; exact Xz ⟨by omega,⟨hbd.1.1,by have:=hbd.1.2; omega⟩,by omega,by have:=hbd.2.2.1; omega⟩
   by_cases hc:0<cmpQ (-A) (-BY) n d
   ·rw [Zog (by omega) hc] at hR
    have hA:0 <= -A:=Zu4 hc hbd.1.1 hnm.1 (by omega);generalize cmpQ (-A) (-BY) n d=Q at *;refine bs.av (sx:=nos) Yu ?_
    repeat'(first|refine wk3 ?_|(refine wk2 ?_ ?_<;>intro _)|fail)
    exact Ql ⟨(2,Qa Qb (0-Qa Qb (Qa Qb (Qa Qb (imax c.fx c.tx*a.d)-a.x)*b.d)),(Qa Qb (0-BY)),m,k),[],rfl,kps,kps,fin (Qa Qb (0-Qa Qb (Qa Qb (Qa Qb (imax c.fx c.tx*a.d)-a.x)*b.d))) ((Qa Qb (0-BY))) m k (by rw [ra',rm1]; exact ⟨by omega,hbd.2.1,by omega,hbd.2.2.2⟩) (by rw [ra']; omega) (by rw [ra',rm1]; exact hR),by dsimp only; omega⟩
   ·rw [Zjq (by omega) hc] at hR
    generalize cmpQ (-A) (-BY) n d=Q at *;refine bs.av (sx:=nos) Yu ?_
    repeat'(first|refine wk3 ?_|(refine wk2 ?_ ?_<;>intro _)|fail)
    exact Ql ⟨(2,n,d,m,k),[],rfl,kps,kps,fin _ _ _ _ hbd hnm hR,by dsimp only; omega⟩
  ·subst hv
   rw [show (-0:Int)=0 by decide] at hR
   by_cases hneg:A<0
   ·rw [Zhn hneg] at hR
    rw [<-hR];refine bs.av (sx:=nos) Yu ?_
    repeat'(first|refine wk3 ?_|(refine wk2 ?_ ?_<;>intro _)|fail)
    exact Zb rfl
   ·rw [Zho hneg] at hR
    refine bs.av (sx:=nos) Yu ?_
    repeat'(first|refine wk3 ?_|(refine wk2 ?_ ?_<;>intro _)|fail)
    exact Ql ⟨(2,n,d,m,k),[],rfl,kps,kps,fin _ _ _ _ hbd hnm hR,by dsimp only; omega⟩
  ·skip
   have ht:cmps [I (Qa Qb (Qa Qb (Qa Qb (imax c.fx c.tx*a.d)-a.x)*b.d)),I (Qa Qb (0-Qa Qb (0-BY))),I m,I k]=some ⟨I (cmpQ A (-(-BY)) m k),[]⟩:=by rw [ra,rm2,Tu]; exact Xz (d:=_) ⟨by omega,⟨hbd.2.1.1,by have:=hbd.2.1.2; omega⟩,by omega,by have:=hbd.2.2.2; omega⟩
   by_cases hc:cmpQ A (-(-BY)) m k<0
   ·rw [Zoh (by omega) hc] at hR
    have hA:A <= -(-BY):=Zu3 hc hbd.2.1.1 hnm.2 (by omega);generalize cmpQ A (-(-BY)) m k=Q at *;refine bs.av (sx:=nos) Yu ?_
    repeat'(first|refine wk3 ?_|(refine wk2 ?_ ?_<;>intro _)|fail)
    exact Ql ⟨(2,n,d,Qa Qb (Qa Qb (Qa Qb (imax c.fx c.tx*a.d)-a.x)*b.d),(Qa Qb (0-Qa Qb (0-BY)))),[],rfl,kps,kps,fin n d (Qa Qb (Qa Qb (Qa Qb (imax c.fx c.tx*a.d)-a.x)*b.d)) ((Qa Qb (0-Qa Qb (0-BY)))) (by rw [ra,rm2]; exact ⟨hbd.1,by omega,hbd.2.2.1,by omega⟩) (by rw [ra,rm2]; omega) (by rw [ra,rm2,<-Tu BY]; exact hR),by dsimp only; omega⟩
   ·rw [Zjr (by omega) hc] at hR
    generalize cmpQ A (-(-BY)) m k=Q at *;refine bs.av (sx:=nos) Yu ?_
    repeat'(first|refine wk3 ?_|(refine wk2 ?_ ?_<;>intro _)|fail)
    exact Ql ⟨(2,n,d,m,k),[],rfl,kps,kps,fin _ _ _ _ hbd hnm hR,by dsimp only; omega⟩
 ·refine bs.av (sx:=nos) Yu ?_
  repeat'(first|refine wk3 ?_|(refine wk2 ?_ ?_<;>intro _)|fail)
  refine Qx (bs.av (sx:=nos) Yu ?_)
  repeat'(first|refine wk3 ?_|(refine wk2 ?_ ?_<;>intro _)|fail)
  refine Zr (S:=Int × Int × Int × Int × Int) (fun t=>(2-t.1).toNat) (fun t=>[(3,.ptr 0 0 0),(4,.ptr 1 0 0),(5,.ptr 2 0 0),(7,I t.2.1),(8,I t.2.2.1),(9,I t.2.2.2.1),(10,I t.2.2.2.2),(11,I 1),(12,I (a.y)),(13,I (b.y)),(14,I (imin c.fy c.ty)),(15,I (imax c.fy c.ty)),(16,I (Qa Qb (Qa Qb (b.y*a.d)-Qa Qb (a.y*b.d)))),(17,I t.1)]) (fun _=>[(2,.row 4 [[I b.x,I b.y,I b.z,I b.d]] true false),(1,.row 4 [[I a.x,I a.y,I a.z,I a.d]] true false),(0,.row 7 [c.av] true false)]) 100 100 (fun t=>bdQ t.2.1 t.2.2.1 t.2.2.2.1 t.2.2.2.2/\(0<=t.2.1/\t.2.2.2.1<=t.2.2.2.2)/\((t.1=0/\Yq (((a.y-imin c.fy c.ty*a.d)*b.d,(b.y*a.d-a.y*b.d))::(((imax c.fy c.ty*a.d-a.y)*b.d,-(b.y*a.d-a.y*b.d))::[])) t.2.1 t.2.2.1 t.2.2.2.1 t.2.2.2.2=R)\/(t.1=1/\Yq (((imax c.fy c.ty*a.d-a.y)*b.d,-(b.y*a.d-a.y*b.d))::[]) t.2.1 t.2.2.1 t.2.2.2.1 t.2.2.2.2=R)\/(t.1=2/\Yq [] t.2.1 t.2.2.1 t.2.2.2.1 t.2.2.2.2=R))) (0,n,d,m,k) ⟨hbd,hnm,.inl ⟨rfl,hR⟩⟩ (Qm rfl) [] rfl (kps) (kps) ?_
  clear hR hbd hnm
  rintro ⟨e,n,d,m,k⟩ ⟨hbd,hnm,hcase⟩
  dsimp only at hbd hnm hcase ⊢
  obtain ⟨⟨y1,y2,y3⟩,h2,h3⟩:=Yj8 aY
  rw [<-y1] at hcase y3
  clear y2
  generalize Qa Qb (Qa Qb (b.y*a.d)-Qa Qb (a.y*b.d))=BY at *
  rcases hcase with ⟨rfl,hR⟩|⟨rfl,hR⟩|⟨rfl,hR⟩
  ·have ra:Qa Qb (Qa Qb (a.y-Qa Qb (imin c.fy c.ty*a.d))*b.d)=(a.y-imin c.fy c.ty*a.d)*b.d:=h2.1
   have ra' : Qa Qb (0-Qa Qb (Qa Qb (a.y-Qa Qb (imin c.fy c.ty*a.d))*b.d)) = -((a.y-imin c.fy c.ty*a.d)*b.d):=h2.2.1;have rb:=h2.2.2;have rm1:Qa Qb (0-BY) = -BY:=W_eq (by omega) (by omega) |>.trans (by omega)
   have rm2:Qa Qb (0-Qa Qb (0-BY))=BY:=by rw [rm1]; exact (W_eq (by omega) (by omega)).trans (by omega)
   clear h2 h3;generalize (a.y-imin c.fy c.ty*a.d)*b.d=A at *;have fin:∀ n' d' m' k' : Int,bdQ n' d' m' k'->(0<=n'/\m'<=k')->Yq (((imax c.fy c.ty*a.d-a.y)*b.d,-BY)::[]) n' d' m' k'=R->(bdQ n' d' m' k'/\(0<=n'/\m'<=k')/\(((1:Int)=0/\Yq ((A,(b.y*a.d-a.y*b.d))::(((imax c.fy c.ty*a.d-a.y)*b.d,-(b.y*a.d-a.y*b.d))::[])) n' d' m' k'=R)\/((1:Int)=1/\Yq (((imax c.fy c.ty*a.d-a.y)*b.d,-(b.y*a.d-a.y*b.d))::[]) n' d' m' k'=R)\/((1:Int)=2/\Yq [] n' d' m' k'=R))):=fun n' d' m' k' g1 g2 g3=>⟨g1,g2,by rw [<-y1]; exact .inr (.inl ⟨rfl,g3⟩)⟩
   rcases Tb BY 0 with hv|hv|hv
   ·skip
    have ht:cmps [I (Qa Qb (Qa Qb (a.y-Qa Qb (imin c.fy c.ty*a.d))*b.d)),I (Qa Qb (0-BY)),I m,I k]=some ⟨I (cmpQ A (-(BY)) m k),[]⟩:=by rw [ra,rm1]; exact Xz (d:=_) ⟨by omega,⟨hbd.2.1.1,by have:=hbd.2.1.2; omega⟩,by omega,by have:=hbd.2.2.2; omega⟩
    by_cases hc:cmpQ A (-(BY)) m k<0
    ·rw [Zoh (by omega) hc] at hR
     have hA:A <= -(BY):=Zu3 hc hbd.2.1.1 hnm.2 (by omega);generalize cmpQ A (-(BY)) m k=Q at *;refine bs.av (sx:=nos) Yu ?_
     repeat'(first|refine wk3 ?_|(refine wk2 ?_ ?_<;>intro _)|fail)
     exact Ql ⟨(1,n,d,Qa Qb (Qa Qb (a.y-Qa Qb (imin c.fy c.ty*a.d))*b.d),(Qa Qb (0-BY))),[],rfl,kps,kps,fin n d (Qa Qb (Qa Qb (a.y-Qa Qb (imin c.fy c.ty*a.d))*b.d)) ((Qa Qb (0-BY))) (by rw [ra,rm1]; exact ⟨hbd.1,by omega,hbd.2.2.1,by omega⟩) (by rw [ra,rm1]; omega) (by rw [ra,rm1]; exact hR),by dsimp only; omega⟩
    ·rw [Zjr (by omega) hc] at hR
     generalize cmpQ A (-(BY)) m k=Q at *;refine bs.av (sx:=nos) Yu ?_
     repeat'(first|refine wk3 ?_|(refine wk2 ?_ ?_<;>intro _)|fail)
     exact Ql ⟨(1,n,d,m,k),[],rfl,kps,kps,fin _ _ _ _ hbd hnm hR,by dsimp only; omega⟩
   ·subst hv
    skip
    by_cases hneg:A<0
    ·rw [Zhn hneg] at hR
     rw [<-hR];refine bs.av (sx:=nos) Yu ?_
     repeat'(first|refine wk3 ?_|(refine wk2 ?_ ?_<;>intro _)|fail)
     exact Zb rfl
    ·rw [Zho hneg] at hR
     refine bs.av (sx:=nos) Yu ?_
     repeat'(first|refine wk3 ?_|(refine wk2 ?_ ?_<;>intro _)|fail)
     exact Ql ⟨(1,n,d,m,k),[],rfl,kps,kps,fin _ _ _ _ hbd hnm hR,by dsimp only; omega⟩
   ·skip
    have ht:cmps [I (Qa Qb (0-Qa Qb (Qa Qb (a.y-Qa Qb (imin c.fy c.ty*a.d))*b.d))),I BY,I n,I d]=some ⟨I (cmpQ (-A) (BY) n d),[]⟩:=by rw [ra']; exact Xz ⟨by omega,⟨hbd.1.1,by have:=hbd.1.2; omega⟩,by omega,by have:=hbd.2.2.1; omega⟩
    by_cases hc:0<cmpQ (-A) (BY) n d
    ·rw [Zog (by omega) hc] at hR
     have hA:0 <= -A:=Zu4 hc hbd.1.1 hnm.1 (by omega);generalize cmpQ (-A) (BY) n d=Q at *;refine bs.av (sx:=nos) Yu ?_
     repeat'(first|refine wk3 ?_|(refine wk2 ?_ ?_<;>intro _)|fail)
     exact Ql ⟨(1,Qa Qb (0-Qa Qb (Qa Qb (a.y-Qa Qb (imin c.fy c.ty*a.d))*b.d)),BY,m,k),[],rfl,kps,kps,fin (Qa Qb (0-Qa Qb (Qa Qb (a.y-Qa Qb (imin c.fy c.ty*a.d))*b.d))) (BY) m k (by rw [ra']; exact ⟨by omega,hbd.2.1,by omega,hbd.2.2.2⟩) (by rw [ra']; omega) (by rw [ra']; exact hR),by dsimp only; omega⟩
    ·rw [Zjq (by omega) hc] at hR
     generalize cmpQ (-A) (BY) n d=Q at *;refine bs.av (sx:=nos) Yu ?_
     repeat'(first|refine wk3 ?_|(refine wk2 ?_ ?_<;>intro _)|fail)
     exact Ql ⟨(1,n,d,m,k),[],rfl,kps,kps,fin _ _ _ _ hbd hnm hR,by dsimp only; omega⟩
  ·have ra:Qa Qb (Qa Qb (Qa Qb (imax c.fy c.ty*a.d)-a.y)*b.d)=(imax c.fy c.ty*a.d-a.y)*b.d:=h3.1
   have ra' : Qa Qb (0-Qa Qb (Qa Qb (Qa Qb (imax c.fy c.ty*a.d)-a.y)*b.d)) = -((imax c.fy c.ty*a.d-a.y)*b.d):=h3.2.1;have rb:=h3.2.2;have rm1:Qa Qb (0-BY) = -BY:=W_eq (by omega) (by omega) |>.trans (by omega)
   have rm2:Qa Qb (0-Qa Qb (0-BY))=BY:=by rw [rm1]; exact (W_eq (by omega) (by omega)).trans (by omega)
   clear h2 h3;generalize (imax c.fy c.ty*a.d-a.y)*b.d=A at *;have fin:∀ n' d' m' k' : Int,bdQ n' d' m' k'->(0<=n'/\m'<=k')->Yq [] n' d' m' k'=R->(bdQ n' d' m' k'/\(0<=n'/\m'<=k')/\(((2:Int)=0/\Yq (((a.y-imin c.fy c.ty*a.d)*b.d,(b.y*a.d-a.y*b.d))::((A,-(b.y*a.d-a.y*b.d))::[])) n' d' m' k'=R)\/((2:Int)=1/\Yq ((A,-(b.y*a.d-a.y*b.d))::[]) n' d' m' k'=R)\/((2:Int)=2/\Yq [] n' d' m' k'=R))):=fun n' d' m' k' g1 g2 g3=>⟨g1,g2,by rw [<-y1]; exact .inr (.inr ⟨rfl,g3⟩)⟩
   rcases Tb BY 0 with hv|hv|hv
   ·skip
    have ht:cmps [I (Qa Qb (0-Qa Qb (Qa Qb (Qa Qb (imax c.fy c.ty*a.d)-a.y)*b.d))),I (Qa Qb (0-BY)),I n,I d]=some ⟨I (cmpQ (-A) (-BY) n d),[]⟩:=by rw [ra',rm1]; exact Xz ⟨by omega,⟨hbd.1.1,by have:=hbd.1.2; omega⟩,by omega,by have:=hbd.2.2.1; omega⟩
    by_cases hc:0<cmpQ (-A) (-BY) n d
    ·rw [Zog (by omega) hc] at hR
     have hA:0 <= -A:=Zu4 hc hbd.1.1 hnm.1 (by omega);generalize cmpQ (-A) (-BY) n d=Q at *;refine bs.av (sx:=nos) Yu ?_
     repeat'(first|refine wk3 ?_|(refine wk2 ?_ ?_<;>intro _)|fail)
     exact Ql ⟨(2,Qa Qb (0-Qa Qb (Qa Qb (Qa Qb (imax c.fy c.ty*a.d)-a.y)*b.d)),(Qa Qb (0-BY)),m,k),[],rfl,kps,kps,fin (Qa Qb (0-Qa Qb (Qa Qb (Qa Qb (imax c.fy c.ty*a.d)-a.y)*b.d))) ((Qa Qb (0-BY))) m k (by rw [ra',rm1]; exact ⟨by omega,hbd.2.1,by omega,hbd.2.2.2⟩) (by rw [ra']; omega) (by rw [ra',rm1]; exact hR),by dsimp only; omega⟩
    ·rw [Zjq (by omega) hc] at hR
     generalize cmpQ (-A) (-BY) n d=Q at *;refine bs.av (sx:=nos) Yu ?_
     repeat'(first|refine wk3 ?_|(refine wk2 ?_ ?_<;>intro _)|fail)
     exact Ql ⟨(2,n,d,m,k),[],rfl,kps,kps,fin _ _ _ _ hbd hnm hR,by dsimp only; omega⟩
   ·subst hv
    rw [show (-0:Int)=0 by decide] at hR
    by_cases hneg:A<0
    ·rw [Zhn hneg] at hR
     rw [<-hR];refine bs.av (sx:=nos) Yu ?_
     repeat'(first|refine wk3 ?_|(refine wk2 ?_ ?_<;>intro _)|fail)
     exact Zb rfl
    ·rw [Zho hneg] at hR
     refine bs.av (sx:=nos) Yu ?_
     repeat'(first|refine wk3 ?_|(refine wk2 ?_ ?_<;>intro _)|fail)
     exact Ql ⟨(2,n,d,m,k),[],rfl,kps,kps,fin _ _ _ _ hbd hnm hR,by dsimp only; omega⟩
   ·skip
    have ht:cmps [I (Qa Qb (Qa Qb (Qa Qb (imax c.fy c.ty*a.d)-a.y)*b.d)),I (Qa Qb (0-Qa Qb (0-BY))),I m,I k]=some ⟨I (cmpQ A (-(-BY)) m k),[]⟩:=by rw [ra,rm2,Tu]; exact Xz (d:=_) ⟨by omega,⟨hbd.2.1.1,by have:=hbd.2.1.2; omega⟩,by omega,by have:=hbd.2.2.2; omega⟩
    by_cases hc:cmpQ A (-(-BY)) m k<0
    ·rw [Zoh (by omega) hc] at hR
     have hA:A <= -(-BY):=Zu3 hc hbd.2.1.1 hnm.2 (by omega);generalize cmpQ A (-(-BY)) m k=Q at *;refine bs.av (sx:=nos) Yu ?_
     repeat'(first|refine wk3 ?_|(refine wk2 ?_ ?_<;>intro _)|fail)
     exact Ql ⟨(2,n,d,Qa Qb (Qa Qb (Qa Qb (imax c.fy c.ty*a.d)-a.y)*b.d),(Qa Qb (0-Qa Qb (0-BY)))),[],rfl,kps,kps,fin n d (Qa Qb (Qa Qb (Qa Qb (imax c.fy c.ty*a.d)-a.y)*b.d)) ((Qa Qb (0-Qa Qb (0-BY)))) (by rw [ra,rm2]; exact ⟨hbd.1,by omega,hbd.2.2.1,by omega⟩) (by rw [ra,rm2]; omega) (by rw [ra,rm2,<-Tu BY]; exact hR),by dsimp only; omega⟩
    ·rw [Zjr (by omega) hc] at hR
     generalize cmpQ A (-(-BY)) m k=Q at *;refine bs.av (sx:=nos) Yu ?_
     repeat'(first|refine wk3 ?_|(refine wk2 ?_ ?_<;>intro _)|fail)
     exact Ql ⟨(2,n,d,m,k),[],rfl,kps,kps,fin _ _ _ _ hbd hnm hR,by dsimp only; omega⟩
  ·refine bs.av (sx:=nos) Yu ?_
   repeat'(first|refine wk3 ?_|(refine wk2 ?_ ?_<;>intro _)|fail)
   refine Qx (bs.av (sx:=nos) Yu ?_);have t1:=Xz hbd.ok;have t2:=Xz (n:=n) (d:=d) (m:=1) (k:=1) ⟨hbd.ok.1,by omega,hbd.ok.2.2.1,by omega⟩;have t3:=Xz (n:=m) (d:=k) (m:=0) (k:=1) ⟨hbd.ok.2.1,by omega,hbd.ok.2.2.2,by omega⟩;rw [Yq] at hR;subst hR;generalize cmpQ n d m k=q1 at *;generalize cmpQ n d 1 1=q2 at *;generalize cmpQ m k 0 1=q3 at *
   repeat'(first|refine wk0 ?_|(refine wk2 ?_ ?_<;>intro _)|fail)
   all_goals exact Zb (by clear t1 t2 t3 h2 h3 y1 y3 hbd hnm; simp_all<;>(try (intros; omega)))
theorem c104 {w:Wl} {n sx sy:Int} (h:Str w n sx sy) {p q:Pt} (hp:PtR p) (hq:PtR q):PCall Tryz.prog 210 [w.ln.av,p.av,q.av] ⟨Bo (Zdh w.ln p q),[]⟩:=by
 have ep:w.ln.beside p=bsP w sx sy p.pl:=Vr (z:=p.z) h hp.ok
 have eq:w.ln.beside q=bsP w sx sy q.pl:=Vr (z:=q.z) h hq.ok
 have ap:w.ln.along p=alP w sx sy p.pl:=Zfg (z:=p.z) h hp.ok
 have aq:w.ln.along q=alP w sx sy q.pl:=Zfg (z:=q.z) h hq.ok
 have ef:w.ln.full=ful n sx sy:=Zn9 h
 obtain ⟨b1,b2⟩:=Zu8 h hp
 obtain ⟨b3,b4⟩:=Zu8 h hq
 obtain ⟨f1,f2⟩:=Zy3 h
 rw [<-ep,<-ap] at *
 rw [<-eq,<-aq] at *
 rw [<-ef] at *
 have hn:w.ln.n≠0:=by rw [h.ln.2.2.1]; have:=h.hn; omega
 clear ep eq ap aq ef h
 generalize w.ln=l at *
 have dp:=hp.d0
 have dp1:=hp.d1
 have dq:=hq.d0
 have dq1:=hq.d1
 clear hp hq
 obtain ⟨lx,ly,ldx,ldy⟩:=l
 obtain ⟨px,py,pz,pd⟩:=p
 obtain ⟨qx,qy,qz,qd⟩:=q
 dsimp only at *
 obtain ⟨f,hf⟩:∃ f,(Ln.mk lx ly ldx ldy).beside ⟨px,py,pz,pd⟩=f:=⟨_,rfl⟩
 obtain ⟨g,hg⟩:∃ f,(Ln.mk lx ly ldx ldy).beside ⟨qx,qy,qz,qd⟩=f:=⟨_,rfl⟩
 obtain ⟨lo,hlo⟩:∃ f,(Ln.mk lx ly ldx ldy).along ⟨px,py,pz,pd⟩=f:=⟨_,rfl⟩
 obtain ⟨hi,hhi⟩:∃ f,(Ln.mk lx ly ldx ldy).along ⟨qx,qy,qz,qd⟩=f:=⟨_,rfl⟩
 obtain ⟨F,hF⟩:∃ f,(Ln.mk lx ly ldx ldy).full=f:=⟨_,rfl⟩
 have ha1:asr (decide ((Ln.mk lx ly ldx ldy).n≠0)) ⟨I ((Ln.mk lx ly ldx ldy).beside ⟨px,py,pz,pd⟩),[]⟩=some ⟨I f,[]⟩:=by rw [Yn hn,hf]
 have ha2:asr (decide ((Ln.mk lx ly ldx ldy).n≠0)) ⟨I ((Ln.mk lx ly ldx ldy).beside ⟨qx,qy,qz,qd⟩),[]⟩=some ⟨I g,[]⟩:=by rw [Yn hn,hg]
 have ha3:asr (decide ((Ln.mk lx ly ldx ldy).n≠0)) ⟨I ((Ln.mk lx ly ldx ldy).along ⟨px,py,pz,pd⟩),[]⟩=some ⟨I lo,[]⟩:=by rw [Yn hn,hlo]
 have ha4:asr (decide ((Ln.mk lx ly ldx ldy).n≠0)) ⟨I ((Ln.mk lx ly ldx ldy).along ⟨qx,qy,qz,qd⟩),[]⟩=some ⟨I hi,[]⟩:=by rw [Yn hn,hhi]
 have ha5:asr (decide ((Ln.mk lx ly ldx ldy).n≠0)) ⟨I (Ln.mk lx ly ldx ldy).full,[]⟩=some ⟨I F,[]⟩:=by rw [Yn hn,hF]
 unfold Zdh
 dsimp only
 rw [hf,hg,hlo,hhi,hF]
 rw [hf] at b1
 rw [hg] at b3
 rw [hlo] at b2
 rw [hhi] at b4
 rw [hF] at f1 f2
 have hk0:PCOK Tryz.prog (ins 16 r30 kC2):=Zh (f0:=16) (r:=r30) (fun a res h=>by unfold r30 at h; split at h<;>cases h; exact c30 _ _ _) Yu
 clear hn hf hg hlo hhi hF
 refine pn hk0 Tryz.func210 ?_
 by_cases h0:f=0/\g=0
 ·rw [if_pos h0]
  obtain ⟨rfl,rfl⟩:=h0
  have t:=Xz (n:=lo) (d:=pd) (m:=hi) (k:=qd) ⟨by omega,by omega,by omega,by omega⟩
  generalize cmpQ lo pd hi qd=c at *
  rcases Tb c 0 with hc|hc|hc
  ·rw [if_neg (by omega),if_pos hc]
   repeat'(first|refine wk3 ?_|(refine wk2 ?_ ?_<;>intro _)|fail)
   all_goals clear ha1 ha2 ha3 ha4 ha5 hk0
   all_goals first|exact Zb rfl|(refine Zb ?_; simp_all; done)|(refine Zb ?_; simp_all; intros; omega)|(exfalso; simp_all; done)|(exfalso; simp_all; omega)
  ·rw [if_pos hc]
   repeat'(first|refine wk3 ?_|(refine wk2 ?_ ?_<;>intro _)|fail)
   all_goals clear ha1 ha2 ha3 ha4 ha5 hk0
   all_goals first|exact Zb rfl|(refine Zb ?_; simp_all; done)|(refine Zb ?_; simp_all; intros; omega)|(exfalso; simp_all; done)|(exfalso; simp_all; omega)
  ·rw [if_neg (by omega),if_neg (by omega)]
   repeat'(first|refine wk3 ?_|(refine wk2 ?_ ?_<;>intro _)|fail)
   all_goals clear ha1 ha2 ha3 ha4 ha5 hk0
   all_goals first|exact Zb rfl|(refine Zb ?_; simp_all; done)|(refine Zb ?_; simp_all; intros; omega)|(exfalso; simp_all; done)|(exfalso; simp_all; omega)
 ·rw [if_neg h0]
  have hw:=Zey f g
  by_cases h1:0<=Qa Qb (sgn f*sgn g)
  ·rw [if_pos h1]
   repeat'(first|refine wk3 ?_|(refine wk2 ?_ ?_<;>intro _)|fail)
   all_goals clear ha1 ha2 ha3 ha4 ha5 hk0
   all_goals first|exact Zb rfl|(refine Zb ?_; simp_all; done)|(refine Zb ?_; simp_all; intros; omega)|(exfalso; simp_all; done)|(exfalso; simp_all; omega)
  ·rw [if_neg h1]
   have h2:=sgn_mul_neg.1 (show sgn f*sgn g<0 by omega);have m1:=Zn (a:=lo) (b:=g) (A:=2000000000) (B:=2000000000) (by omega) (by omega);have m2:=Zn (a:=hi) (b:=f) (A:=2000000000) (B:=2000000000) (by omega) (by omega);have m3:=Zn (a:=g) (b:=pd) (A:=2000000000) (B:=100000) (by omega) (by omega);have m4:=Zn (a:=f) (b:=qd) (A:=2000000000) (B:=100000) (by omega) (by omega);have eN:Qa Qb (Qa Qb (lo*g)-Qa Qb (hi*f))=lo*g-hi*f:=by rw [W_eq (n:=lo*g) (by omega) (by omega),W_eq (n:=hi*f) (by omega) (by omega),W_eq (by omega) (by omega)]
   have eD:Qa Qb (Qa Qb (g*pd)-Qa Qb (f*qd))=g*pd-f*qd:=by rw [W_eq (n:=g*pd) (by omega) (by omega),W_eq (n:=f*qd) (by omega) (by omega),W_eq (by omega) (by omega)]
   have eN2:Qa Qb (0-Qa Qb (Qa Qb (lo*g)-Qa Qb (hi*f))) = -(lo*g-hi*f):=by rw [eN,W_eq (by omega) (by omega)]; omega
   have eD2:Qa Qb (0-Qa Qb (Qa Qb (g*pd)-Qa Qb (f*qd))) = -(g*pd-f*qd):=by rw [eD,W_eq (by omega) (by omega)]; omega
   rcases h2 with h2|h2
   ·have k1:=(Zby dp).2 h2.2
    have k2:=(Zdi dq).2 h2.1;rw [Re] at k1 k2;have t:=Xz (n:=Qa Qb (Qa Qb (lo*g)-Qa Qb (hi*f))) (d:=Qa Qb (Qa Qb (g*pd)-Qa Qb (f*qd))) (m:=F) (k:=1) ⟨by omega,by omega,by omega,by omega⟩;rw [if_neg (by omega)];generalize cmpQ (Qa Qb (Qa Qb (lo*g)-Qa Qb (hi*f))) (Qa Qb (Qa Qb (g*pd)-Qa Qb (f*qd))) F 1=c at *
    repeat'(first|refine wk3 ?_|(refine wk2 ?_ ?_<;>intro _)|fail)
    all_goals clear ha1 ha2 ha3 ha4 ha5 hk0
    all_goals first|exact Zb rfl|(refine Zb ?_; simp_all; done)|(refine Zb ?_; simp_all; intros; omega)|(exfalso; simp_all; done)|(exfalso; simp_all; omega)
   ·have k1:=(Zdi dp).2 h2.2
    have k2:=(Zby dq).2 h2.1;rw [Re] at k1 k2;have t:=Xz (n:=Qa Qb (0-Qa Qb (Qa Qb (lo*g)-Qa Qb (hi*f)))) (d:=Qa Qb (0-Qa Qb (Qa Qb (g*pd)-Qa Qb (f*qd)))) (m:=F) (k:=1) ⟨by omega,by omega,by omega,by omega⟩;rw [if_pos (by omega)];generalize cmpQ (Qa Qb (0-Qa Qb (Qa Qb (lo*g)-Qa Qb (hi*f)))) (Qa Qb (0-Qa Qb (Qa Qb (g*pd)-Qa Qb (f*qd)))) F 1=c at *
    repeat'(first|refine wk3 ?_|(refine wk2 ?_ ?_<;>intro _)|fail)
    all_goals clear ha1 ha2 ha3 ha4 ha5 hk0
    all_goals first|exact Zb rfl|(refine Zb ?_; simp_all; done)|(refine Zb ?_; simp_all; intros; omega)|(exfalso; simp_all; done)|(exfalso; simp_all; omega)
theorem c107 {c:Can} (hr:CanOk c) (ht:Int) {p q:Pt} (hp:PtR p) (hq:PtR q):PCall Tryz.prog 211 [.agg c.av,I ht,p.av,q.av] ⟨Bo (blkR c.rc ht p q),[]⟩:=by
 have hk0:=Zd (c190 hr hp hq) Zdz
 obtain ⟨px,py,pz,pd⟩:=p
 obtain ⟨qx,qy,qz,qd⟩:=q
 clear hp hq hr
 unfold blkR
 dsimp only
 have z1:zOff ht ⟨px,py,pz,pd⟩=Qa Qb (pz-Qa Qb (ht*pd)):=rfl
 have z2:zOff ht ⟨qx,qy,qz,qd⟩=Qa Qb (qz-Qa Qb (ht*qd)):=rfl
 rw [z1,z2]
 clear z1 z2
 have eD:onX pd qd (Qa Qb (qz-Qa Qb (ht*qd))) (Qa Qb (pz-Qa Qb (ht*pd)))=(Qa Qb (Qa Qb ((Qa Qb (qz-Qa Qb (ht*qd)))*pd)-Qa Qb ((Qa Qb (pz-Qa Qb (ht*pd)))*qd))):=by unfold onX; rw [Re pd,Re qd]
 have hx1:PCall Tryz.prog 201 [.agg c.av,P4 (Qa Qb (Qa Qb (px*(Qa Qb (qz-Qa Qb (ht*qd))))-Qa Qb (qx*(Qa Qb (pz-Qa Qb (ht*pd)))))) (Qa Qb (Qa Qb (py*(Qa Qb (qz-Qa Qb (ht*qd))))-Qa Qb (qy*(Qa Qb (pz-Qa Qb (ht*pd)))))) 0 (Qa Qb (Qa Qb ((Qa Qb (qz-Qa Qb (ht*qd)))*pd)-Qa Qb ((Qa Qb (pz-Qa Qb (ht*pd)))*qd)))] ⟨Bo (c.rc.has (onX px qx (Qa Qb (qz-Qa Qb (ht*qd))) (Qa Qb (pz-Qa Qb (ht*pd)))) (onX py qy (Qa Qb (qz-Qa Qb (ht*qd))) (Qa Qb (pz-Qa Qb (ht*pd)))) (onX pd qd (Qa Qb (qz-Qa Qb (ht*qd))) (Qa Qb (pz-Qa Qb (ht*pd))))),[]⟩:=by rw [eD]; exact c191 c ⟨(Qa Qb (Qa Qb (px*(Qa Qb (qz-Qa Qb (ht*qd))))-Qa Qb (qx*(Qa Qb (pz-Qa Qb (ht*pd)))))),(Qa Qb (Qa Qb (py*(Qa Qb (qz-Qa Qb (ht*qd))))-Qa Qb (qy*(Qa Qb (pz-Qa Qb (ht*pd)))))),0,(Qa Qb (Qa Qb ((Qa Qb (qz-Qa Qb (ht*qd)))*pd)-Qa Qb ((Qa Qb (pz-Qa Qb (ht*pd)))*qd)))⟩
 have hx2:PCall Tryz.prog 201 [.agg c.av,P4 (Qa Qb (0-(Qa Qb (Qa Qb (px*(Qa Qb (qz-Qa Qb (ht*qd))))-Qa Qb (qx*(Qa Qb (pz-Qa Qb (ht*pd)))))))) (Qa Qb (0-(Qa Qb (Qa Qb (py*(Qa Qb (qz-Qa Qb (ht*qd))))-Qa Qb (qy*(Qa Qb (pz-Qa Qb (ht*pd)))))))) 0 (Qa Qb (0-(Qa Qb (Qa Qb ((Qa Qb (qz-Qa Qb (ht*qd)))*pd)-Qa Qb ((Qa Qb (pz-Qa Qb (ht*pd)))*qd)))))] ⟨Bo (c.rc.has (Qa Qb (0-onX px qx (Qa Qb (qz-Qa Qb (ht*qd))) (Qa Qb (pz-Qa Qb (ht*pd))))) (Qa Qb (0-onX py qy (Qa Qb (qz-Qa Qb (ht*qd))) (Qa Qb (pz-Qa Qb (ht*pd))))) (Qa Qb (0-onX pd qd (Qa Qb (qz-Qa Qb (ht*qd))) (Qa Qb (pz-Qa Qb (ht*pd)))))),[]⟩:=by rw [eD]; exact c191 c ⟨(Qa Qb (0-(Qa Qb (Qa Qb (px*(Qa Qb (qz-Qa Qb (ht*qd))))-Qa Qb (qx*(Qa Qb (pz-Qa Qb (ht*pd)))))))),(Qa Qb (0-(Qa Qb (Qa Qb (py*(Qa Qb (qz-Qa Qb (ht*qd))))-Qa Qb (qy*(Qa Qb (pz-Qa Qb (ht*pd)))))))),0,(Qa Qb (0-(Qa Qb (Qa Qb ((Qa Qb (qz-Qa Qb (ht*qd)))*pd)-Qa Qb ((Qa Qb (pz-Qa Qb (ht*pd)))*qd)))))⟩
 have e0:Qa Qb (0-0)=0:=rfl
 by_cases h0:(Qa Qb (pz-Qa Qb (ht*pd)))=0/\(Qa Qb (qz-Qa Qb (ht*qd)))=0
 ·rw [if_pos h0]
  obtain ⟨h1,h2⟩:=h0
  refine pn hk0 Tryz.func211 ?_
  repeat'(first|refine wk3 ?_|(refine wk2 ?_ ?_<;>intro _)|fail)
  exact Zb rfl
 ·rw [if_neg h0]
  by_cases h1:0<=Qa Qb (sgn (Qa Qb (pz-Qa Qb (ht*pd)))*sgn (Qa Qb (qz-Qa Qb (ht*qd))))
  ·rw [if_pos h1]
   refine pn hk0 Tryz.func211 ?_
   repeat'(first|refine wk3 ?_|(refine wk2 ?_ ?_<;>intro _)|fail)
   all_goals first|exact Zb rfl|(refine Zb ?_; simp_all; done)|(refine Zb ?_; simp_all; intros; omega)|(exfalso; simp_all; done)|(exfalso; simp_all; omega)
  ·rw [if_neg h1]
   by_cases h2:onX pd qd (Qa Qb (qz-Qa Qb (ht*qd))) (Qa Qb (pz-Qa Qb (ht*pd)))<0
   ·rw [if_pos h2]
    have hk1:=Zd hx2 hk0;generalize c.rc.has (Qa Qb (0-onX px qx (Qa Qb (qz-Qa Qb (ht*qd))) (Qa Qb (pz-Qa Qb (ht*pd))))) (Qa Qb (0-onX py qy (Qa Qb (qz-Qa Qb (ht*qd))) (Qa Qb (pz-Qa Qb (ht*pd))))) (Qa Qb (0-onX pd qd (Qa Qb (qz-Qa Qb (ht*qd))) (Qa Qb (pz-Qa Qb (ht*pd)))))=b at *;rw [eD] at h2;refine pn hk1 Tryz.func211 ?_
    repeat'(first|refine wk3 ?_|(refine wk2 ?_ ?_<;>intro _)|fail)
    all_goals first|exact Zb rfl|(refine Zb ?_; simp_all; done)|(refine Zb ?_; simp_all; intros; omega)|(exfalso; simp_all; done)|(exfalso; simp_all; omega)
   ·rw [if_neg h2]
    have hk1:=Zd hx1 hk0;generalize c.rc.has (onX px qx (Qa Qb (qz-Qa Qb (ht*qd))) (Qa Qb (pz-Qa Qb (ht*pd)))) (onX py qy (Qa Qb (qz-Qa Qb (ht*qd))) (Qa Qb (pz-Qa Qb (ht*pd)))) (onX pd qd (Qa Qb (qz-Qa Qb (ht*qd))) (Qa Qb (pz-Qa Qb (ht*pd))))=b at *;rw [eD] at h2;refine pn hk1 Tryz.func211 ?_
    repeat'(first|refine wk3 ?_|(refine wk2 ?_ ?_<;>intro _)|fail)
    all_goals first|exact Zb rfl|(refine Zb ?_; simp_all; done)|(refine Zb ?_; simp_all; intros; omega)|(exfalso; simp_all; done)|(exfalso; simp_all; omega)
def wlA (cs:List (Int × Int)) (p q:Pt):Nat->Nat->Bool
 | _,0=>false
 | k,n+1=>Zdh (lnOf cs k) p q||wlA cs p q (k+1) n
def blkB (h:Hal) (s:Stg) (p q:Pt):Nat->List Can->Bool
 | _,[]=>false
 | j,c::l=>blkR c.rc (Uq h s j) p q||blkB h s p q (j+1) l
def midR (p q:Pt):Pt:=⟨midX p q,midY p q,0,midD p q⟩
def Zk7 (h:Hal) (s:Stg) (p q:Pt):Bool:=!zBad h p q&&(!wlA h.cs p q 0 h.ws.length&&(Zv h (midR p q) && !blkB h s p q 0 h.ks))
noncomputable abbrev onWs (h:Hal) (p q:Pt):List AV->Option PRes:=famA (fun k:Nat=>k<h.cs.length) (fun k=>[(lnOf h.cs k).av,p.av,q.av]) (fun k=>⟨Bo (Zdh (lnOf h.cs k) p q),[]⟩)
theorem Yb9 {h:Hal} {p q:Pt} {k:Nat} (hk:k<h.cs.length):onWs h p q [(lnOf h.cs k).av,p.av,q.av]=some ⟨Bo (Zdh (lnOf h.cs k) p q),[]⟩ :=
 Zm (p:=fun k:Nat=>k<h.cs.length) (g:=fun k=>[(lnOf h.cs k).av,p.av,q.av]) (r:=fun k=>⟨Bo (Zdh (lnOf h.cs k) p q),[]⟩) (k:=k) (fun j hj=>by
  have e:lnOf h.cs j=lnOf h.cs k:=by
   simp only [Qs,Nc,Sr,true_and,and_true] at hj;generalize lnOf h.cs j=a at *;generalize lnOf h.cs k=b at *;obtain ⟨a1,a2,a3,a4⟩:=a;obtain ⟨b1,b2,b3,b4⟩:=b;simp_all
  rw [e]) hk
noncomputable abbrev onCs (h:Hal) (s:Stg) (p q:Pt):List AV->Option PRes:=famA (fun j:Nat=>j<h.ks.length) (fun j=>[.agg (Can.av ((h.ks[j]?).getD ⟨⟨#[]⟩,⟨#[]⟩,0,0,0,0,[]⟩)),I (Uq h s j),p.av,q.av]) (fun j=>⟨Bo (blkR ((h.ks[j]?).getD ⟨⟨#[]⟩,⟨#[]⟩,0,0,0,0,[]⟩).rc (Uq h s j) p q),[]⟩)
theorem Yca {h:Hal} {s:Stg} {p q:Pt} {j:Nat} (hj:j<h.ks.length):onCs h s p q [.agg (Can.av h.ks[j]),I (Uq h s j),p.av,q.av]=some ⟨Bo (blkR h.ks[j].rc (Uq h s j) p q),[]⟩:=by
 have:=Zm (p:=fun j:Nat=>j<h.ks.length) (g:=fun j=>[.agg (Can.av ((h.ks[j]?).getD ⟨⟨#[]⟩,⟨#[]⟩,0,0,0,0,[]⟩)),I (Uq h s j),p.av,q.av]) (r:=fun j=>⟨Bo (blkR ((h.ks[j]?).getD ⟨⟨#[]⟩,⟨#[]⟩,0,0,0,0,[]⟩).rc (Uq h s j) p q),[]⟩) (k:=j) (fun i hi=>by
  simp only [Qs,Nc,Sr,true_and,and_true] at hi
  generalize ((h.ks[i]?).getD ⟨⟨#[]⟩,⟨#[]⟩,0,0,0,0,[]⟩:Can)=a at *
  generalize ((h.ks[j]?).getD ⟨⟨#[]⟩,⟨#[]⟩,0,0,0,0,[]⟩:Can)=b at *
  obtain ⟨a1,a2,a3,a4,a5,a6,a7⟩:=a
  obtain ⟨b1,b2,b3,b4,b5,b6,b7⟩:=b
  obtain ⟨⟨_,_,h3,h4,h5,h6,_⟩,h7⟩:=hi
  simp only at h3 h4 h5 h6
  subst h3 h4 h5 h6
  rw [h7]) hj
 rw [Qe hj] at this
 exact this
noncomputable abbrev hgts (h:Hal) (s:Stg):List AV->Option PRes:=famA (fun j:Nat=>j<h.ks.length) (fun j=>[h.av,s.av,I j]) (fun j=>⟨I (Uq h s j),[]⟩)
theorem Ycq {h:Hal} {s:Stg} {j:Nat} (hj:j<h.ks.length):hgts h s [h.av,s.av,I j]=some ⟨I (Uq h s j),[]⟩ :=
 Zm (p:=fun j:Nat=>j<h.ks.length) (g:=fun j:Nat=>[h.av,s.av,I j]) (r:=fun j=>⟨I (Uq h s j),[]⟩) (k:=j) (fun i hi=>by
  simp only [Qs,Sr,true_and,and_true] at hi
  have:i=j:=by omega
  subst this; rfl) hj
noncomputable def kF7 (h:Hal) (s:Stg) (p q:Pt):PC:=ins 210 (onWs h p q) (ins 211 (onCs h s p q) (ins 212 (hgts h s) (ins 133 (one [h.av,(midR p q).av] ⟨Bo (Zv h (midR p q)),[]⟩) (kR5 h))))
theorem Yi0 {h:Hal} {s:Stg} (g:Sit h s) {p q:Pt} (hp:PtR p) (hq:PtR q):PCOK Tryz.prog (kF7 h s p q):=by
 refine Zo (fun k hk=>?_) (Zo (fun j hj=>?_) (Zo (fun j hj=>c108 g hj) (Zd (c106 g.ok.f g.fine.le.2.2.1 (Zx6 g.fine.st) (midR p q)) (Zmw g.ok.f))))
 ·obtain ⟨n,sx,sy,hs⟩:=g.fine.st k hk
  rw [Zcc]
  exact c104 hs hp hq
 ·rw [Qe hj]
  exact c107 (Zgl g.fine hj).1 _ hp hq
theorem c39 {h:Hal} {s:Stg} (g:Sit h s) {p q:Pt} (hp:PtR p) (hq:PtR q):PCall Tryz.prog 136 [h.av,s.av,wayA p q] ⟨Bo (Zk7 h s p q),[]⟩:=by
 have hk:=Yi0 g hp hq
 refine pn hk Tryz.func136 ?_
 cases hz:zBad h p q with
 | true =>
  unfold Zk7
  rw [hz]
  repeat'(first|refine wk3 ?_|(refine wk2 ?_ ?_<;>intro _)|fail)
  all_goals first
   | exact Zb rfl
   | (exfalso; clear hk; simp_all [zBad]; done)
   | (exfalso; clear hk; simp_all [zBad]; omega)
 | false =>
  have e:Zk7 h s p q=(!wlA h.cs p q 0 h.ws.length&&(Zv h (midR p q) && !blkB h s p q 0 h.ks)):=by unfold Zk7; rw [hz]; rfl
  rw [e]
  clear e
  unfold zBad at hz
  simp only [Bool.or_eq_false_iff,Bool.and_eq_false_iff,decide_eq_false_iff_not] at hz
  obtain ⟨⟨⟨⟨⟨z1,z2⟩,z3⟩,z4⟩,z5⟩,z6⟩:=hz
  repeat'(first|refine wk3 ?_|(refine wk2 ?_ ?_<;>intro _)|fail)
  all_goals try (exfalso; clear hk; simp_all; done)
  all_goals
   clear z1 z2 z3 z4 z5 z6;have l3:=Yh h.ws;have l4:=Xd h.ks;have f3:=g.ok.f.2.2.1;have f4:=g.ok.f.2.2.2.1;have hwc:=g.fine.le.2.2.1
   refine Zr (S:=Nat × Int) (fun t=>h.ws.length-t.1) (fun t=>[(3,.ptr 0 0 0),(4,.ptr 1 0 0),(6,Bo false),(7,.ptr 7 0 0),(8,.ptr 8 0 0),(9,I t.2)]) (fun _=>[(8,.row 4 [[I q.x,I q.y,I q.z,I q.d]] true false),(7,.row 4 [[I p.x,I p.y,I p.z,I p.d]] true false),(1,.row 2 [s.cells] true false),(0,.row 9 [h.cells] true false)]) 20 20 (fun t=>t.2=t.1/\t.1<=h.ws.length/\wlA h.cs p q t.1 (h.ws.length-t.1)=wlA h.cs p q 0 h.ws.length) (0,0) ⟨rfl,Qn _,rfl⟩ (Qm rfl) [] rfl (kps) (kps) ?_;rintro ⟨k,i⟩ ⟨hi,hkk,hh⟩;dsimp only at hi hkk hh ⊢;subst hi;refine bs.av (sx:=nos) hk ?_
   by_cases hlt:k<h.ws.length
   ·have e:h.ws.length-k=(h.ws.length-(k+1))+1:=by omega
    rw [e,wlA] at hh;have hl:=Ve (h:=h) (k:=k) (by omega);have hb:=Yb9 (h:=h) (p:=p) (q:=q) (k:=k) (by omega);generalize Zdh (lnOf h.cs k) p q=b at *
    cases b with
    | true =>
     rw [<-hh]
     repeat'(first|refine wk3 ?_|(refine wk2 ?_ ?_<;>intro _)|fail)
     exact Zb rfl
    | false =>
     rw [Pk] at hh
     repeat'(first|refine wk3 ?_|(refine wk2 ?_ ?_<;>intro _)|fail)
     exact Ql ⟨(k+1,_),[],rfl,kps,kps,⟨Zg (by omega),hlt,hh⟩,by dsimp only; omega⟩
   ·rw [show h.ws.length-k=0 by omega,wlA] at hh
    rw [<-hh];have hm:midR p q=⟨midX p q,midY p q,0,midD p q⟩:=rfl
    cases hin:Zv h (midR p q) with
    | false =>
     unfold kF7;rw [hin]
     repeat'(first|refine wk3 ?_|(refine wk2 ?_ ?_<;>intro _)|fail)
     all_goals first
      | exact Zb rfl
      | (exfalso; simp_all; done)
    | true =>
     unfold kF7;rw [hin]
     repeat'(first|refine wk3 ?_|(refine wk2 ?_ ?_<;>intro _)|fail)
     refine Zr (S:=Nat × Int) (fun t=>h.ks.length-t.1) (fun t=>[(3,.ptr 0 0 0),(4,.ptr 1 0 0),(6,Bo false),(7,.ptr 7 0 0),(8,.ptr 8 0 0),(10,I t.2)]) (fun _=>[(8,.row 4 [[I q.x,I q.y,I q.z,I q.d]] true false),(7,.row 4 [[I p.x,I p.y,I p.z,I p.d]] true false),(1,.row 2 [s.cells] true false),(0,.row 9 [h.cells] true false)]) 40 40 (fun t=>t.2=t.1/\t.1<=h.ks.length/\blkB h s p q t.1 (h.ks.drop t.1)=blkB h s p q 0 h.ks) (0,0) ⟨rfl,Qn _,rfl⟩ (Qm rfl) [] rfl (kps) (kps) ?_;clear hh hlt hkk;rintro ⟨k,i⟩ ⟨hi,hkk,hh⟩;dsimp only at hi hkk hh ⊢;subst hi;refine bs.av (sx:=nos) hk ?_
     by_cases hlt:k<h.ks.length
     ·rw [Qi hlt,blkB] at hh
      have e1:=Zbu hlt;have hl:=Ycq (s:=s) hlt;have hb:=Yca (p:=p) (q:=q) (s:=s) hlt;generalize blkR h.ks[k].rc (Uq h s k) p q=b at *
      cases b with
      | true =>
       rw [<-hh]
       repeat'(first|refine wk3 ?_|(refine wk2 ?_ ?_<;>intro _)|fail)
       exact Zb rfl
      | false =>
       rw [Pk] at hh
       repeat'(first|refine wk3 ?_|(refine wk2 ?_ ?_<;>intro _)|fail)
       exact Ql ⟨(k+1,_),[],rfl,kps,kps,⟨Zg (by omega),hlt,hh⟩,by dsimp only; omega⟩
     ·rw [Qk (by omega),blkB] at hh
      rw [<-hh]
      repeat'(first|refine wk3 ?_|(refine wk2 ?_ ?_<;>intro _)|fail)
      exact Zb rfl
theorem Ydq {h:Hal} (g:h.fine) {p q:Pt} (hp:PtR p) (hq:PtR q):∀ (n k:Nat),k+n<=h.cs.length->wlA h.cs p q k n=((Oy k n).map (wlOf h.cs)).any (touP p q)
 | 0,_,_=>by simp [wlA]
 | n+1,k,hk=>by
  rw [wlA,List.range'_succ,Ti,List.any_cons,Ydq g hp hq n (k+1) (by omega)]
  congr 1
  obtain ⟨m,sx,sy,hs⟩:=g.st k (by omega)
  rw [Bool.eq_iff_iff,Zgr hs hp hq,Zcc,Zr9 hs hp hq]
theorem Yaj {h:Hal} {s:Stg} (g:Sit h s) {p q:Pt} (hp:PtH p) (hq:PtH q):∀ (l:List Can) (j:Nat),h.ks.drop j=l->blkB h s p q j l=blkA h s p q j l
 | [],_,_=>by simp [blkA,blkB]
 | c::l,j,hl=>by
  have hj:j<h.ks.length:=by
   rcases Nat.lt_or_ge j h.ks.length with hj|hj
   ·exact hj
   ·rw [Qk hj] at hl; cases hl
  rw [Qi hj] at hl
  simp only [Qs] at hl
  obtain ⟨rfl,hl⟩:=hl
  have hb:=Zuk g hj
  have ht:=g.fine.ht
  rw [blkA,blkB,Yaj g hp hq l (j+1) hl,Yj6 (Zr5 (Zgl g.fine hj).1) ⟨by omega,by omega⟩ hp hq]
theorem Yim {p q:Pt} (hp:PtR p) (hq:PtR q):PtOk (midX p q) (midY p q) (midD p q):=by
 obtain ⟨e1,e2,e3⟩:=Yd0 hp hq
 rw [e1,e2,e3]
 obtain ⟨a1,a2,a3,a4⟩:=hp
 obtain ⟨b1,b2,b3,b4⟩:=hq
 have m1:=Zn (a:=q.x) (b:=p.d) (A:=500000000) (B:=100000) (by omega) (by omega)
 have m2:=Zn (a:=p.x) (b:=q.d) (A:=500000000) (B:=100000) (by omega) (by omega)
 have m3:=Zn (a:=q.y) (b:=p.d) (A:=500000000) (B:=100000) (by omega) (by omega)
 have m4:=Zn (a:=p.y) (b:=q.d) (A:=500000000) (B:=100000) (by omega) (by omega)
 have m5:=Zn (a:=2*p.d) (b:=q.d) (A:=200000) (B:=100000) (by omega) (by omega)
 have m6:=Int.mul_pos (show 0<2*p.d by omega) b1
 exact ⟨m6,by omega,by omega,by omega⟩
theorem Ygs {h:Hal} {s:Stg} (g:Sit h s) {p q:Pt} (hp:PtH p) (hq:PtH q):Zet h s p q=Zk7 h s p q:=by
 unfold Zet Zk7
 have hwc:=g.fine.le.2.2.1
 rw [Ydq g.fine hp.r hq.r _ 0 (by omega),hwc,Yaj g hp hq h.ks 0 rfl,Uo g.fine.st 0 (Yim hp.r hq.r)]
 have:(Oy 0 h.cs.length).map (wlOf h.cs)=wls h.cs:=by unfold wls; rw [List.range_eq_range']
 rw [this]
 rfl
noncomputable abbrev crsT (h:Hal) (s:Stg):List AV->Option PRes:=famA (fun c:Crs=>c.to.wf) (fun c=>[h.av,s.av,c.av]) (fun c=>⟨crAV (crsA h s c),[]⟩)
theorem Yc6 {h:Hal} {s:Stg} {c:Crs} (hw:c.to.wf):crsT h s [h.av,s.av,c.av]=some ⟨crAV (crsA h s c),[]⟩ :=
 Zm (p:=fun c:Crs=>c.to.wf) (g:=fun c=>[h.av,s.av,c.av]) (r:=fun c=>⟨crAV (crsA h s c),[]⟩) (fun j hj=>by
  obtain ⟨a,b,d,e,x,y,z,w⟩:=j
  obtain ⟨a',b',d',e',x',y',z',w'⟩:=c
  simp only [Qs,Nc,Sr,true_and,and_true] at hj
  obtain ⟨rfl,rfl,rfl,rfl,rfl,rfl,rfl,rfl⟩:=hj
  rfl) hw
theorem Zz1 {h:Hal} (hk:h.ok) {s:Stg} (hs:s.few) {pt:PC} (hp:PCOK Tryz.prog pt):PCOK Tryz.prog (ins 112 (crsT h s) pt):=Zo (fun c hc=>c40 hk hs hc) hp
noncomputable abbrev wayT (h:Hal) (s:Stg):List AV->Option PRes:=famA (fun p:Pt × Pt=>p.1.wf/\p.2.wf) (fun p=>[h.av,s.av,wayA p.1 p.2]) (fun p=>⟨.tup [Bo (decide (wayE h s p.1 p.2=0)&&Zet h s p.1 p.2),I (wayE h s p.1 p.2)],[]⟩)
theorem Ztg {h:Hal} {s:Stg} {p q:Pt} (hp:p.wf) (hq:q.wf):wayT h s [h.av,s.av,wayA p q]=some ⟨.tup [Bo (decide (wayE h s p q=0)&&Zet h s p q),I (wayE h s p q)],[]⟩ :=
 Zm (p:=fun p:Pt × Pt=>p.1.wf/\p.2.wf) (g:=fun p=>[h.av,s.av,wayA p.1 p.2]) (r:=fun p=>⟨.tup [Bo (decide (wayE h s p.1 p.2=0)&&Zet h s p.1 p.2),I (wayE h s p.1 p.2)],[]⟩) (k:=(p,q)) (fun j hj=>by
  obtain ⟨⟨a,b,c,d⟩,⟨a2,b2,c2,d2⟩⟩:=j
  obtain ⟨x,y,z,w⟩:=p
  obtain ⟨x2,y2,z2,w2⟩:=q
  simp only [Qs,Nc,Sr,true_and,and_true] at hj
  obtain ⟨rfl,rfl,rfl,rfl,rfl,rfl,rfl,rfl⟩:=hj
  rfl) ⟨hp,hq⟩
theorem Zw2 {h:Hal} (hk:h.ok) {s:Stg} (hs:s.few) {pt:PC} (hp:PCOK Tryz.prog pt):PCOK Tryz.prog (ins 113 (wayT h s) pt):=Zo (fun p hw=>c37 hk hs hw.1 hw.2) hp
def r123:List AV->Option PRes
 | [.agg [.int .i64 x,.int .i64 y,.int .i64 z]]=>some ⟨P4 x y z 1,[]⟩
 | _=>none
theorem Zxu {pt:PC} (h:PCOK Tryz.prog pt):PCOK Tryz.prog (ins 107 r123 pt):=Zh (fun a res h=>by unfold r123 at h; split at h<;>cases h; exact d123 _ _ _) h
def sqV (a b c x y z:Int):Int:=Qa Qb (Qa Qb (Qa Qb (Qa Qb (a-x)*Qa Qb (a-x))+Qa Qb (Qa Qb (b-y)*Qa Qb (b-y)))+Qa Qb (Qa Qb (c-z)*Qa Qb (c-z)))
theorem d126 (a b c x y z:Int):PCall Tryz.prog 115 [P3 a b c,P3 x y z] ⟨I (sqV a b c x y z),[]⟩:=by
 refine pn Zc Tryz.func115 ?_
 repeat'(first|refine wk3 ?_|(refine wk2 ?_ ?_<;>intro _)|fail)
 exact Za rfl
def r126:List AV->Option PRes
 | [.agg [.int .i64 a,.int .i64 b,.int .i64 c],.agg [.int .i64 x,.int .i64 y,.int .i64 z]]=>some ⟨I (sqV a b c x y z),[]⟩
 | _=>none
theorem Zxt {pt:PC} (h:PCOK Tryz.prog pt):PCOK Tryz.prog (ins 115 r126 pt):=Zh (fun a res h=>by unfold r126 at h; split at h<;>cases h; exact d126 _ _ _ _ _ _) h
theorem Yky {ns:List Int} (hl:ns.length<100000):PCall Tryz.prog 37 [.isl 1 (nl ns)] ⟨.isl 1 (nl ns),[]⟩:=by
 cases ns with
 | nil=>exact Yjx
 | cons n ns=>exact (d103 (by simp) hl).freeze ⟨rfl,rfl,rfl⟩
theorem Ykv {ps:List (Int × Int × Int × Int)} (hl:ps.length<100000):PCall Tryz.prog 114 [.isl 4 (ps.map hp4)] ⟨.isl 4 (ps.map hp4),[]⟩:=by
 cases ps with
 | nil=>exact Ykw
 | cons n ns=>exact (d104 (by simp) hl).freeze ⟨rfl,rfl,rfl⟩
noncomputable abbrev clT:List AV->Option PRes:=famA (fun ps:List (Int × Int × Int × Int)=>ps.length<100000) (fun ps=>[.isl 4 (ps.map hp4)]) (fun ps=>⟨.isl 4 (ps.map hp4),[]⟩)
theorem Yj1 {pt:PC} (hp:PCOK Tryz.prog pt):PCOK Tryz.prog (ins 114 clT pt):=Zo (fun ps hl=>Ykv hl) hp
theorem Yhe {ps:List (Int × Int × Int × Int)} (h:ps.length<100000):clT [.isl 4 (ps.map hp4)]=some ⟨.isl 4 (ps.map hp4),[]⟩ :=
 Zm (p:=fun ps:List (Int × Int × Int × Int)=>ps.length<100000) (g:=fun ps=>[.isl 4 (ps.map hp4)]) (r:=fun ps=>⟨.isl 4 (ps.map hp4),[]⟩) (fun j hj=>by
  simp only [Qs,Na,true_and,and_true] at hj
  rw [hj]) h
def goP (f:Int->Pl3->Pt->Pt × Int):List (Int × Pl3)->Pt->List Pt->Option (List Pt)
 | [],_,P=>some P
 | (a,q)::r,to,P=>if (f a q to).2=0 then goP f r (f a q to).1 ((f a q to).1::P) else none
def chkW (w:Pt->Pt->Bool):List Pt->Bool
 | p::q::r=>w p q&&chkW w (q::r)
 | _=>true
def pnt (q:Pl3):Pt:=⟨q.1,q.2.1,q.2.2,1⟩
def tup4 (p:Pt):Int × Int × Int × Int:=(p.x,p.y,p.z,p.d)
def fP (h:Hal) (s:Stg) (a:Int) (q:Pl3) (to:Pt):Pt × Int:=crsA h s ⟨a,q.1,q.2.1,q.2.2,to⟩
def wP (h:Hal) (s:Stg) (p q:Pt):Bool:=decide (wayE h s p q=0)&&Zet h s p q
def pthQ (h:Hal) (s:Stg) (q0 q1:Pl3) (l:List (Int × Pl3)):Option Pth :=
 match goP (fP h s) l.reverse (pnt q1) [] with
 | none=>none
 | some P=>if chkW (wP h s) (pnt q0::P++[pnt q1]) then some ⟨l.map (·.1),P.map tup4,sqV (l.getLastD (0,q0)).2.1 (l.getLastD (0,q0)).2.2.1 (l.getLastD (0,q0)).2.2.2 q1.1 q1.2.1 q1.2.2⟩ else none
def ansP:Option Pth->AV
 | none=>.tup [.agg [.isl 1 [],.isl 4 [],I 0],Bo false]
 | some p=>.tup [p.av,Bo true]
theorem Zpe:Pt.wf ptZ:=⟨⟨by decide,by decide⟩,⟨by decide,by decide⟩,⟨by decide,by decide⟩,⟨by decide,by decide⟩⟩
theorem Yha {h:Hal} {s:Stg} (c:Crs) (hk:h.ok) (hs:s.few):(crsA h s c).1.wf:=by
 unfold crsA
 split
 ·rename_i e
  obtain ⟨g,hi,ho,_⟩:=Zz4 hk hs e
  unfold Zaf
  split
  ·exact Zpe
  ·rename_i hsn
   split
   ·split
    ·exact Zpe
    ·exact (Ze2 (Zcz ho hsn)).2.2.1.wf
   ·exact Zpe
 ·exact Zpe
theorem Zt1 {q:Pl3} (h:Near 5000 q):(pnt q).wf:=by
 obtain ⟨h1,h2,h3⟩:=h
 unfold pnt
 exact ⟨⟨by dsimp only; omega,by dsimp only; omega⟩,⟨by dsimp only; omega,by dsimp only; omega⟩,⟨by dsimp only; omega,by dsimp only; omega⟩,⟨by dsimp only; omega,by dsimp only; omega⟩⟩
def rawP:Option Pth->AV
 | none=>.tup [.agg [.nils,.nils,I 0],Bo false]
 | some p=>.tup [p.av,Bo true]
theorem Ybv (o:Option Pth):Frz [] (rawP o) (ansP o):=by
 cases o with
 | none=>exact ⟨⟨rfl,rfl,⟨rfl,rfl⟩,trivial⟩,⟨rfl,rfl⟩,trivial⟩
 | some p=>exact ⟨⟨⟨rfl,rfl⟩,⟨rfl,rfl⟩,⟨rfl,rfl⟩,trivial⟩,⟨rfl,rfl⟩,trivial⟩
theorem Ybu (o:Option Pth):Vj 0 (rawP o)=true:=by cases o<;>rfl
noncomputable abbrev oneA (a:List AV) (r:PRes):List AV->Option PRes:=famA (fun _:Unit=>True) (fun _=>a) (fun _=>r)
theorem Zb9 {f:FuncId} {a:List AV} {r:PRes} (h:PCall Tryz.prog f a r) {pt:PC} (hp:PCOK Tryz.prog pt):PCOK Tryz.prog (ins f (oneA a r) pt):=Zo (fun _ _=>h) hp
theorem Zai (a:List AV) (r:PRes):oneA a r a=some r:=Zm (p:=fun _:Unit=>True) (g:=fun _=>a) (r:=fun _=>r) (k:=()) (fun _ _=>rfl) trivial
def lkG (f:Int->Pl3->Pl3):Pl3->List Int->List (Int × Pl3)
 | _,[]=>[]
 | q,n::r=>(n,f n q)::lkG f (f n q) r
theorem Ycp (f:Int->Pl3->Pl3) (q:Pl3) (n:Int) (r:List Int) (k:Nat):imA f q (n::r) (k+1)=imA f (f n q) r k:=rfl
theorem Za9 (f:Int->Pl3->Pl3):∀ (q:Pl3) (ns:List Int),(lkG f q ns).length=ns.length
 | _,[]=>rfl
 | q,n::r=>by rw [lkG,Ru,Za9 f _ r,Ru]
theorem Zyc (f:Int->Pl3->Pl3):∀ (q:Pl3) (ns:List Int) (k:Nat) (hk:k<ns.length),(lkG f q ns)[k]?=some (ns[k],imA f q ns (k+1))
 | q,n::r,0,hk=>rfl
 | q,n::r,k+1,hk=>by
  rw [lkG,List.getElem?_cons_succ,Zyc f _ r k (by simpa using hk),Ycp]
  rfl
theorem Zyb (f:Int->Pl3->Pl3):∀ (q:Pl3) (ns:List Int),(lkG f q ns).map (·.1)=ns
 | _,[]=>rfl
 | q,n::r=>by rw [lkG,Ti,Zyb f _ r]
theorem Zt8 (f:Int->Pl3->Pl3):∀ (q:Pl3) (ns:List Int) (x:Int),((lkG f q ns).getLastD (x,q)).2=imA f q ns ns.length
 | _,[],_=>rfl
 | q,n::r,x=>by
  rw [lkG,List.getLastD_cons,Zt8 f _ r n]
  rfl
theorem Zn3 {f:Int->Pl3->Pl3} {q:Pl3} {ns:List Int} {k:Nat} (hk:k<ns.length):((lkG f q ns).take (k+1)).reverse=(ns[k],imA f q ns (k+1))::((lkG f q ns).take k).reverse:=by
 have hk2:k<(lkG f q ns).length:=by rw [Za9]; exact hk
 have e:=Zyc f q ns k hk
 rw [Qe hk2,Qf] at e
 rw [List.take_succ_eq_append_getElem hk2,List.reverse_append,e]
 rfl
def Yt (h:Hal) (s:Stg) (q0 q1:Pl3) (ns:List Int):Option Pth:=pthQ h s q0 q1 (lkG (im1 h s) q0 ns)
theorem Zdf (h:Hal) (s:Stg) (q0 q1:Pl3) (ns:List Int):Yt h s q0 q1 ns=match goP (fP h s) (lkG (im1 h s) q0 ns).reverse (pnt q1) [] with
  | none=>none
  | some P=>if chkW (wP h s) (pnt q0::P++[pnt q1]) then some ⟨ns,P.map tup4,sqV (imA (im1 h s) q0 ns ns.length).1 (imA (im1 h s) q0 ns ns.length).2.1 (imA (im1 h s) q0 ns ns.length).2.2 q1.1 q1.2.1 q1.2.2⟩ else none:=by
 unfold Yt pthQ
 rw [Zyb,Zt8]
 all_goals (cases goP (fP h s) (lkG (im1 h s) q0 ns).reverse (pnt q1) []<;>rfl)
abbrev ptc (p:Pt):List AV:=[I p.x,I p.y,I p.z,I p.d]
theorem Zib {l:List Pt} {k:Nat} (hk:k<l.length):(l.map ptc)[k]?=some (ptc l[k]):=by simp [hk]
theorem Zo1 (l:List Pt) (i:Nat) (p:Pt):Zf1 (l.map ptc) i (ptc p)=(l.set i p).map ptc:=by rw [Uj,Mu]
theorem Zdr {l:List Pt} {k:Nat} (hk:k<l.length) (p:Pt):(l.set k p).drop k=p::l.drop (k+1):=by
 rw [Qi (by rw [Gt]; exact hk),List.getElem_set_self,List.drop_set,if_pos (by omega)]
theorem Zq6 {w:Pt->Pt->Bool} {l:List Pt} {k:Nat} (hk:k+1<l.length):chkW w (l.drop k)=(w l[k] l[k+1]&&chkW w (l.drop (k+1))):=by
 rw [Qi (show k<l.length by omega),Qi hk,chkW]
theorem Zq7 {w:Pt->Pt->Bool} {l:List Pt} {k:Nat} (hk:k+1=l.length):chkW w (l.drop k)=true:=by
 rw [Qi (show k<l.length by omega),Qk (by omega)]; rfl
noncomputable def kPth (h:Hal) (s:Stg) (q0:Pl3) (ns:List Int):PC:=ins 111 (oneA [.agg (stgL h s),P3 q0.1 q0.2.1 q0.2.2,.isl 1 (nl ns)] ⟨.isl 3 (imC (im1 h s) q0 ns ns.length),[]⟩) (ins 107 r123 (ins 112 (crsT h s) (ins 113 (wayT h s) (ins 115 r126 (ins 114 clT (ins 37 (oneA [.isl 1 (nl ns)] ⟨.isl 1 (nl ns),[]⟩) pt0))))))
theorem Ygg {h:Hal} (hk:h.ok) {s:Stg} (hs:s.few) (e0:serr h s=0) {q0:Pl3} (hf:Near 5000 q0) {ns:List Int} (hl:ns.length<=4) (hi:∀ n∈ns,0<=n/\n<nsur h):PCOK Tryz.prog (kPth h s q0 ns) :=
 Zb9 (d82f hk hs e0 hf hl hi) (Zxu (Zz1 hk hs (Zw2 hk hs (Zxt (Yj1 (Zb9 (Yky (ns:=ns) (by omega)) Zc))))))
theorem d65n {h:Hal} (hk:h.ok) {s:Stg} (hs:s.few) (e0:serr h s=0) (a:Ask) (hf:Near 5000 (a.fx,a.fy,a.fz)) (ht:Near 5000 (a.tx,a.ty,a.tz)) :
  PCall Tryz.prog 71 [.agg (stgL h s),a.av,.isl 1 (nl [])] ⟨rawP (Yt h s (a.fx,a.fy,a.fz) (a.tx,a.ty,a.tz) []),[]⟩:=by
 obtain ⟨fx,fy,fz,tx,ty,tz,n⟩:=a
 dsimp only at hf ht ⊢
 have hk0:=Ygg hk hs e0 hf (ns:=[]) (by simp) (by simp)
 unfold kPth at hk0
 have o1:=Zai [.agg (stgL h s),P3 fx fy fz,.isl 1 (nl [])] ⟨.isl 3 (imC (im1 h s) (fx,fy,fz) [] 0),[]⟩
 have o2:=Zai [.isl 1 (nl [])] ⟨.isl 1 (nl []),[]⟩
 have v1:=Ztg (h:=h) (s:=s) (Zt1 hf) (Zt1 ht)
 have cl:=Yhe (ps:=[]) (by simp)
 have hR:Yt h s (fx,fy,fz) (tx,ty,tz) []=if (decide (wayE h s (pnt (fx,fy,fz)) (pnt (tx,ty,tz))=0)&&Zet h s (pnt (fx,fy,fz)) (pnt (tx,ty,tz)))=true then some ⟨[],[],sqV fx fy fz tx ty tz⟩ else none:=by
  rw [Zdf]
  simp [lkG,goP,chkW,wP,imA]
 rw [hR]
 clear hR
 generalize wayE h s (pnt (fx,fy,fz)) (pnt (tx,ty,tz))=u at *
 generalize Zet h s (pnt (fx,fy,fz)) (pnt (tx,ty,tz))=f at *
 refine bs.pv (sx:=nos) hk0 Tryz.func71 (by kernel_rfl) (by kernel_rfl) (Ybu _) ?_
 unfold Zci
 conv=>whnf
 repeat'(first|refine wk3 ?_|(refine wk2 ?_ ?_<;>intro _)|fail)
 refine Su 1 (Qx (bs.av (sx:=nos) hk0 ?_))
 repeat'(first|refine wk3 ?_|(refine wk2 ?_ ?_<;>intro _)|fail)
 refine Su 2 (Qx (bs.av (sx:=nos) hk0 ?_))
 cases hb:(decide (u=0)&&f) with
 | false =>
  rw [if_neg (by simp)]
  repeat'(first|refine wk3 ?_|(refine wk2 ?_ ?_<;>intro _)|fail)
  all_goals first
   | exact Ze rfl rfl
   | (exfalso; clear hk0; simp_all; done)
 | true =>
  rw [if_pos rfl]
  repeat'(first|refine wk3 ?_|(refine wk2 ?_ ?_<;>intro _)|fail)
  all_goals try (exfalso; clear hk0; simp_all; done)
  refine Qx (Awp.froz [3] rfl (bs.av (sx:=nos) hk0 ?_))
  repeat'(first|refine wk3 ?_|(refine wk2 ?_ ?_<;>intro _)|fail)
  all_goals exact Ze rfl rfl
theorem Zqy {h:Hal} {s:Stg} (g:Sit h s) (e0:serr h s=0) {n:Int} (hn:0<=n/\n<nsur h) {q:Pl3} (hq:Near 45000 q) {to:Pt} (hto:Xh to=0) :
  CrOk (Zi h s n) ⟨n,q.1,q.2.1,q.2.2,to⟩/\SK h n/\crsA h s ⟨n,q.1,q.2.1,q.2.2,to⟩=Zaf (Zb7 h n) (Zi h s n) ⟨n,q.1,q.2.1,q.2.2,to⟩ /\
  ((crsA h s ⟨n,q.1,q.2.1,q.2.2,to⟩).2=0->Xh (crsA h s ⟨n,q.1,q.2.1,q.2.2,to⟩).1=0/\valN (Zi h s n).1 (crsA h s ⟨n,q.1,q.2.1,q.2.2,to⟩).1.x (crsA h s ⟨n,q.1,q.2.1,q.2.2,to⟩).1.y (crsA h s ⟨n,q.1,q.2.1,q.2.2,to⟩).1.z=(Zi h s n).2*(crsA h s ⟨n,q.1,q.2.1,q.2.2,to⟩).1.d):=by
 have hi:=Zjd hn.1 hn.2
 obtain ⟨⟨b1,b2⟩,b3⟩:=Znt g hi
 obtain ⟨h1,h2,h3⟩:=hq
 obtain ⟨p1,p2,_,p4⟩:=Ze3 hto
 unfold ptIn at p4
 simp only [Qc,within_iff] at p4
 have ho:CrOk (Zi h s n) ⟨n,q.1,q.2.1,q.2.2,to⟩:=⟨b1,b2,b3,h1,h2,h3,p1,p2,p4.1.1,p4.1.2,p4.2⟩
 have he:crsE h s ⟨n,q.1,q.2.1,q.2.2,to⟩=0:=by
  unfold crsE surE Um img
  rw [if_pos e0,if_pos (within_iff.2 (by dsimp only; omega)),if_pos rfl,if_pos (by simp only [Qc,within_iff]; omega)]
  exact hto
 have hA:crsA h s ⟨n,q.1,q.2.1,q.2.2,to⟩=Zaf (Zbw h n) (Zi h s n) ⟨n,q.1,q.2.1,q.2.2,to⟩:=by unfold crsA; rw [if_pos he]
 refine ⟨ho,hi,by rw [hA]; exact Yc9 (c:=⟨n,q.1,q.2.1,q.2.2,to⟩) g hi ho,fun hz=>?_⟩
 rw [hA] at hz ⊢
 refine ⟨Zs2 (c:=⟨n,q.1,q.2.1,q.2.2,to⟩) g hi ho hz,?_⟩
 unfold Zaf at hz ⊢
 split at hz
 ·cases hz
 ·rename_i hs
  split at hz
  ·rename_i hw
   split at hz
   ·cases hz
   ·rename_i hd
    rw [if_neg hs,if_pos hw,if_neg hd];exact Zgk ho hs
  ·cases hz
noncomputable abbrev crsR (h:Hal) (s:Stg):List AV->Option PRes:=famA (fun c:Crs=>SK h c.su/\CrOk (Zi h s c.su) c) (fun c=>[h.av,s.av,c.av]) (fun c=>⟨crAV (Zaf (Zb7 h c.su) (Zi h s c.su) c),[]⟩)
theorem Yc7 {h:Hal} {s:Stg} {c:Crs} (hi:SK h c.su) (ho:CrOk (Zi h s c.su) c):crsR h s [h.av,s.av,c.av]=some ⟨crAV (Zaf (Zb7 h c.su) (Zi h s c.su) c),[]⟩ :=
 Zm (p:=fun c:Crs=>SK h c.su/\CrOk (Zi h s c.su) c) (g:=fun c=>[h.av,s.av,c.av]) (r:=fun c=>⟨crAV (Zaf (Zb7 h c.su) (Zi h s c.su) c),[]⟩) (fun j hj=>by
  obtain ⟨a,b,d,e,x,y,z,w⟩:=j
  obtain ⟨a',b',d',e',x',y',z',w'⟩:=c
  simp only [Qs,Nc,Sr,true_and,and_true] at hj
  obtain ⟨rfl,rfl,rfl,rfl,rfl,rfl,rfl,rfl⟩:=hj
  rfl) ⟨hi,ho⟩
theorem Yg9 {h:Hal} {s:Stg} (g:Sit h s) {pt:PC} (hp:PCOK Tryz.prog pt):PCOK Tryz.prog (ins 135 (crsR h s) pt):=Zo (fun c hc=>c42 g hc.1 hc.2) hp
noncomputable abbrev wayR (h:Hal) (s:Stg):List AV->Option PRes:=famA (fun p:Pt × Pt=>PtR p.1/\PtR p.2) (fun p=>[h.av,s.av,wayA p.1 p.2]) (fun p=>⟨Bo (Zk7 h s p.1 p.2),[]⟩)
theorem Ya5 {h:Hal} {s:Stg} {p q:Pt} (hp:PtR p) (hq:PtR q):wayR h s [h.av,s.av,wayA p q]=some ⟨Bo (Zk7 h s p q),[]⟩ :=
 Zm (p:=fun p:Pt × Pt=>PtR p.1/\PtR p.2) (g:=fun p=>[h.av,s.av,wayA p.1 p.2]) (r:=fun p=>⟨Bo (Zk7 h s p.1 p.2),[]⟩) (k:=(p,q)) (fun j hj=>by
  obtain ⟨⟨a,b,c,d⟩,⟨a2,b2,c2,d2⟩⟩:=j
  obtain ⟨x,y,z,w⟩:=p
  obtain ⟨x2,y2,z2,w2⟩:=q
  simp only [Qs,Nc,Sr,true_and,and_true] at hj
  obtain ⟨rfl,rfl,rfl,rfl,rfl,rfl,rfl,rfl⟩:=hj
  rfl) ⟨hp,hq⟩
theorem Ye4 {h:Hal} {s:Stg} (g:Sit h s) {pt:PC} (hp:PCOK Tryz.prog pt):PCOK Tryz.prog (ins 136 (wayR h s) pt):=Zo (fun p hw=>c39 g hw.1 hw.2) hp
theorem Yke {h:Hal} {s:Stg} (g:Sit h s) (e0:serr h s=0) {p q:Pt} (hp:Xh p=0) (hq:Xh q=0):wP h s p q=(!ptEq p q&&Zk7 h s p q):=by
 unfold wP wayE
 rw [if_pos e0,if_pos hp,if_pos hq,Ygs g (Ztz hp) (Ztz hq)]
 cases ptEq p q<;>rfl
def r70:List AV->Option PRes
 | [.agg [.int .i64 x,.int .i64 y,.int .i64 z]]=>some ⟨P4 x y z 1,[]⟩
 | _=>none
theorem Yid {pt:PC} (h:PCOK Tryz.prog pt):PCOK Tryz.prog (ins 84 r70 pt):=Zh (fun a res h=>by unfold r70 at h; split at h<;>cases h; exact c36 _ _ _) h
theorem d73 (a b c x y z:Int):PCall Tryz.prog 137 [P3 a b c,P3 x y z] ⟨I (sqV a b c x y z),[]⟩:=by
 refine pn Zc Tryz.func137 ?_
 repeat'(first|refine wk3 ?_|(refine wk2 ?_ ?_<;>intro _)|fail)
 exact Za rfl
theorem Yic {pt:PC} (h:PCOK Tryz.prog pt):PCOK Tryz.prog (ins 137 r126 pt):=Zh (fun a res h=>by unfold r126 at h; split at h<;>cases h; exact d73 _ _ _ _ _ _) h
theorem Ygp (a b c:Int):Tl (Tl a.natAbs b.natAbs) (Tl c.natAbs (1:Int).natAbs)=1:=by
 rw [show (1:Int).natAbs=1 from rfl,Qad,Qad]
theorem Zkk {q:Pl3} (h:Near 5000 q):Xh (pnt q)=0:=by
 obtain ⟨h1,h2,h3⟩:=h
 unfold Xh pnt g4 ptIn
 dsimp only
 rw [Ygp,if_neg (by simp),if_neg (by omega),if_pos (by simp only [Qc,within_iff]; omega)]
theorem Zxf {h:Hal} {ns:List Int} (hi:∀ n∈ns,0<=n/\n<nsur h):∀ n∈ns,SK h n:=fun n hn=>Zjd (hi n hn).1 (hi n hn).2
noncomputable def kPtr (h:Hal) (s:Stg) (q0:Pl3) (ns:List Int):PC:=ins 134 (oneA [h.av,s.av,P3 q0.1 q0.2.1 q0.2.2,.isl 1 (nl ns)] ⟨.isl 3 (imC (im1 h s) q0 ns ns.length),[]⟩) (ins 84 r70 (ins 135 (crsR h s) (ins 136 (wayR h s) (ins 137 r126 (ins 39 (oneA [.isl 1 (nl ns)] ⟨.isl 1 (nl ns),[]⟩) pt0)))))
theorem Ygf {h:Hal} {s:Stg} (g:Sit h s) {q0:Pl3} {ns:List Int} (hl:ns.length<=4) (hi:∀ n∈ns,0<=n/\n<nsur h):PCOK Tryz.prog (kPtr h s q0 ns) :=
 Zb9 (d28f g hl (Zxf hi)) (Yid (Yg9 g (Ye4 g (Yic (Zb9 (c25f ns (by omega)) Zc)))))
theorem Zkp {m k:Int} (h:k<=m) {p:Pl3} (hp:Near k p):Near m p:=by
 obtain ⟨h1,h2,h3⟩:=hp
 exact ⟨by omega,by omega,by omega⟩
def refP:Option Pth->PRes
 | none=>⟨.tup [.agg [.nils,.nils,I 0],Bo false],[]⟩
 | some p=>⟨.tup [.agg [.isl 1 (nl p.ss),.asl 0 0 (p.ps.map hp4).length,I p.sq],Bo true],[(4,p.ps.map hp4)]⟩
theorem Ybq (o:Option Pth):Vj (refP o).blks.length (refP o).v=true:=by cases o<;>rfl
theorem Ybr (o:Option Pth):Frz (refP o).blks (refP o).v (ansP o):=by
 match o with
 | none=>exact ⟨⟨rfl,rfl,⟨rfl,rfl⟩,trivial⟩,⟨rfl,rfl⟩,trivial⟩
 | some p=>exact ⟨⟨⟨rfl,rfl⟩,⟨rfl,rfl,rfl⟩,⟨rfl,rfl⟩,trivial⟩,⟨rfl,rfl⟩,trivial⟩
theorem d21r {h:Hal} {s:Stg} (g:Sit h s) (e0:serr h s=0) (a:Ask) (hf:Near 5000 (a.fx,a.fy,a.fz)) (ht:Near 5000 (a.tx,a.ty,a.tz)) {ns:List Int} (hl:ns.length<=4) (hi:∀ n∈ns,0<=n/\n<nsur h) :
  PCall Tryz.prog 85 [h.av,s.av,a.av,.isl 1 (nl ns)] (refP (Yt h s (a.fx,a.fy,a.fz) (a.tx,a.ty,a.tz) ns)):=by
 obtain ⟨fx,fy,fz,tx,ty,tz,n⟩:=a
 dsimp only at hf ht ⊢
 have hk0:=Ygf (q0:=(fx,fy,fz)) g hl hi
 unfold kPtr at hk0
 have w0:=Zkk hf
 have wT:=Zkk ht
 have ll:=Zk ns
 have o1:=Zai [h.av,s.av,P3 fx fy fz,.isl 1 (nl ns)] ⟨.isl 3 (imC (im1 h s) (fx,fy,fz) ns ns.length),[]⟩
 have o2:=Zai [.isl 1 (nl ns)] ⟨.isl 1 (nl ns),[]⟩
 have hR:=Zdf h s (fx,fy,fz) (tx,ty,tz) ns
 generalize Yt h s (fx,fy,fz) (tx,ty,tz) ns=R at *
 have il:=Zes (im1 h s) (fx,fy,fz) ns ns.length
 have x2:Qa Qb (((nl ns).length:Int)+2)=((ns.length+2:Nat):Int):=by rw [ll,W_eq (by omega) (by omega)]; omega
 have x1:Qa Qb (((nl ns).length:Int)+1)=((ns.length+1:Nat):Int):=by rw [ll,W_eq (by omega) (by omega)]; omega
 have a1:decide (0<=Qa Qb (((nl ns).length:Int)+2)/\(Qa Qb (((nl ns).length:Int)+2)).toNat<=1000000)=true:=by rw [x2]; exact decide_eq_true ⟨by omega,by omega⟩
 have g0:(Sd (Qa Qb (((nl ns).length:Int)+2)).toNat (ptc ptZ))[0+Tp 0]?=some (ptc ptZ):=by
  rw [x2,Rf,List.getElem?_replicate,if_pos (by omega)]
 have g1:(Zf1 (Sd (Qa Qb (((nl ns).length:Int)+2)).toNat (ptc ptZ)) (0+Tp 0) (ptc (pnt (fx,fy,fz))))[0+(Qa Qb (((nl ns).length:Int)+1)).toNat]?=some (ptc ptZ):=by
  rw [Uj,x2,x1,Md,if_neg (by omega)]; simp
 have hE0:Zf1 (Zf1 (Sd (Qa Qb (((nl ns).length:Int)+2)).toNat (ptc ptZ)) (0+Tp 0) (ptc (pnt (fx,fy,fz)))) (0+(Qa Qb (((nl ns).length:Int)+1)).toNat) (ptc (pnt (tx,ty,tz)))=(((Sd (ns.length+2) ptZ).set 0 (pnt (fx,fy,fz))).set (ns.length+1) (pnt (tx,ty,tz))).map ptc:=by
  rw [Uj,Uj,x2,x1,Mu,Mu,List.map_replicate]
  congr 1
  omega
 refine bs.pv (sx:=nos) hk0 Tryz.func85 (by kernel_rfl) (by kernel_rfl) (Ybq _) ?_
 unfold Zci
 conv=>whnf
 repeat'(first|refine wk3 ?_|(refine wk2 ?_ ?_<;>intro _)|fail)
 obtain ⟨l,hlk⟩:∃ l,l=lkG (im1 h s) (fx,fy,fz) ns:=⟨_,rfl⟩
 have hll:l.length=ns.length:=by rw [hlk,Za9]
 have hlt' : ∀ {k:Nat} (hk:k<ns.length),(l.take (k+1)).reverse=(ns[k],imA (im1 h s) (fx,fy,fz) ns (k+1))::(l.take k).reverse:=fun hk=>by rw [hlk]; exact Zn3 hk
 rw [<-hlk] at hR
 clear hlk
 refine Zr (S:=Nat × Int × List (List AV) × List Pt) (fun t=>t.1) (fun t=>[(3,.isl 1 (nl ns)),(4,.ptr 0 0 0),(5,.ptr 1 0 0),(6,.ptr 2 0 0),(8,.ptr 3 0 0),(10,.isl 3 (imC (im1 h s) (fx,fy,fz) ns ns.length)),(11,I (nl ns).length),(12,.asl 4 0 (Qa Qb (((nl ns).length:Int)+2)).toNat),(13,I t.2.1)])
  (fun t=>[(4,.row 4 t.2.2.1 true true),(3,.row 3 [[.nils,.nils,I 0]] true false),(2,.row 7 [[I fx,I fy,I fz,I tx,I ty,I tz,I n]] true false),(1,.row 2 [[.isl 1 (nl s.hs),.isl 1 (nl s.dr)]] true false),(0,.row 9 [h.cells] true false)]) 19 19
  (fun t=>t.2.1=t.1/\t.1<=ns.length/\t.2.2.1=t.2.2.2.map ptc/\t.2.2.2.length=ns.length+2/\t.2.2.2[0]?=some (pnt (fx,fy,fz))/\∃ to P Q,t.2.2.2.drop (t.1+1)=to::Q/\(∀ p∈to::Q,Xh p=0)/\P++[pnt (tx,ty,tz)]=to::Q/\goP (fP h s) (l.take t.1).reverse to P=goP (fP h s) l.reverse (pnt (tx,ty,tz)) [])
  (ns.length,(nl ns).length,_,(((Sd (ns.length+2) ptZ).set 0 (pnt (fx,fy,fz))).set (ns.length+1) (pnt (tx,ty,tz)))) ⟨by dsimp only; rw [ll],Qd _,hE0,by simp,by simp,pnt (tx,ty,tz),[],[],by rw [Zdr (by simp)]; simp,by simpa using wT,rfl,by rw [<-hll,List.take_length]⟩ (Qd _) [] rfl (kps) (kps) ?_
 clear g0 g1 hE0 a1
 rintro ⟨k,i,els,pts⟩ ⟨hi1,hk1,hels,hpl,hp0,to,P,Q,hd,hpr,hPQ,hgo⟩
 dsimp only at hi1 hk1 hels hpl hp0 hd hpr hPQ hgo ⊢
 subst hi1 hels
 have lp:(pts.map ptc).length=ns.length+2:=by rw [Ra,hpl]
 refine bs.av (sx:=nos) hk0 ?_
 cases k with
 | succ j =>
  have b0:((j+1:Nat):Int)>0:=by omega
  have b1:Qa Qb (((j+1:Nat):Int)-1)=j:=by rw [W_eq (by omega) (by omega)]; omega
  have b2:Qa Qb (((j+1:Nat):Int)+1)=((j+2:Nat):Int):=by rw [W_eq (by omega) (by omega)]; omega
  have e1:(nl ns)[(Qa Qb (((j+1:Nat):Int)-1)).toNat]?=some [I ns[j]]:=by rw [b1]; simp [nl]
  have e2:(imC (im1 h s) (fx,fy,fz) ns ns.length)[((j+1:Nat):Int).toNat]?=some (pl3 (imA (im1 h s) (fx,fy,fz) ns (j+1))):=by
   rw [Rf]; unfold imC; rw [Rq,List.getElem?_range (by omega)]; rfl
  have hto:pts[j+2]?=some to:=by rw [<-List.head?_drop,hd]; rfl
  have e3:(pts.map ptc)[0+(Qa Qb (((j+1:Nat):Int)+1)).toNat]?=some (ptc to):=by rw [b2,Rf,Ry,Rq,hto]; rfl
  have e4:(pts.map ptc)[0+((j+1:Nat):Int).toNat]?=some (ptc (pts[j+1]'(by omega))):=by rw [Rf,Ry]; exact Zib (by omega)
  have fc:=Zqy g e0 (hi ns[j] (Qr _)) (Zkp (m:=45000) (by omega) (Zjn g hf hl (Zxf hi) (j+1) (by omega))) (hpr to (by simp))
  rw [hlt' (by omega),goP] at hgo
  have c1:crsR h s [h.av,s.av,Crs.av ⟨ns[j],(imA (im1 h s) (fx,fy,fz) ns (j+1)).1,(imA (im1 h s) (fx,fy,fz) ns (j+1)).2.1,(imA (im1 h s) (fx,fy,fz) ns (j+1)).2.2,to⟩]=some ⟨crAV (crsA h s ⟨ns[j],(imA (im1 h s) (fx,fy,fz) ns (j+1)).1,(imA (im1 h s) (fx,fy,fz) ns (j+1)).2.1,(imA (im1 h s) (fx,fy,fz) ns (j+1)).2.2,to⟩),[]⟩:=by
   rw [fc.2.2.1];exact Yc7 (c:=⟨ns[j],(imA (im1 h s) (fx,fy,fz) ns (j+1)).1,(imA (im1 h s) (fx,fy,fz) ns (j+1)).2.1,(imA (im1 h s) (fx,fy,fz) ns (j+1)).2.2,to⟩) fc.2.1 fc.1
  have w1:=fun q=>(fc.2.2.2 q).1
  clear fc
  have hfp:fP h s ns[j] (imA (im1 h s) (fx,fy,fz) ns (j+1)) to=crsA h s ⟨ns[j],(imA (im1 h s) (fx,fy,fz) ns (j+1)).1,(imA (im1 h s) (fx,fy,fz) ns (j+1)).2.1,(imA (im1 h s) (fx,fy,fz) ns (j+1)).2.2,to⟩:=rfl
  rw [hfp] at hgo
  clear hfp
  generalize crsA h s ⟨ns[j],(imA (im1 h s) (fx,fy,fz) ns (j+1)).1,(imA (im1 h s) (fx,fy,fz) ns (j+1)).2.1,(imA (im1 h s) (fx,fy,fz) ns (j+1)).2.2,to⟩=r at *
  obtain ⟨⟨x,y,z,d⟩,E⟩:=r
  generalize imA (im1 h s) (fx,fy,fz) ns (j+1)=q at *
  obtain ⟨qx,qy,qz⟩:=q
  obtain ⟨X,Y,Z,V⟩:=to
  dsimp only at hgo w1 c1
  by_cases hE:E=0
  ·subst hE
   rw [if_pos rfl] at hgo
   have hs1:Zf1 (pts.map ptc) (0+((j+1:Nat):Int).toNat) (ptc ⟨x,y,z,d⟩)=(pts.set (j+1) ⟨x,y,z,d⟩).map ptc:=by
    rw [Rf,Ry]; exact Zo1 _ _ _
   repeat'(first|refine wk3 ?_|(refine wk2 ?_ ?_<;>intro _)|fail)
   exact Ql ⟨(j,_,_,pts.set (j+1) ⟨x,y,z,d⟩),[],rfl,kps,kps,⟨b1,by dsimp only; omega,hs1,by dsimp only; rw [Gt,hpl],by dsimp only; rw [Md,if_neg (by omega)]; exact hp0,⟨x,y,z,d⟩,⟨x,y,z,d⟩::P,⟨X,Y,Z,V⟩::Q,by dsimp only; rw [Zdr (by omega),hd],(fun p hp=>by
    rcases Rb.1 hp with rfl|hp
    ·exact w1 rfl
    ·exact hpr p hp),by rw [Ss,hPQ],hgo⟩,by dsimp only; omega⟩
  ·rw [if_neg hE] at hgo
   rw [<-hgo] at hR;dsimp only at hR;subst hR
   repeat'(first|refine wk3 ?_|(refine wk2 ?_ ?_<;>intro _)|fail)
   all_goals exact Ze rfl rfl
 | zero =>
  have hpe:pts=pnt (fx,fy,fz)::P++[pnt (tx,ty,tz)]:=by
   rw [Ss,hPQ,<-hd];clear hk0 lp hpl
   cases pts with
   | nil=>cases hp0
   | cons p r=>cases hp0; rfl
  have hpa:∀ p∈pts,Xh p=0:=fun p hp=>by
   rw [hpe,Ss,hPQ] at hp
   rcases Rb.1 hp with rfl|hp
   ·exact w0
   ·exact hpr p hp
  rw [List.take_zero,List.reverse_nil,goP] at hgo
  rw [<-hgo] at hR
  dsimp only at hR
  rw [<-hpe] at hR
  have hPl:P.length=ns.length:=by
   have:=congrArg List.length hpe;simp at this; omega
  clear hgo hlt' hd hPQ hpr Q to
  repeat'(first|refine wk3 ?_|(refine wk2 ?_ ?_<;>intro _)|fail)
  refine Zr (S:=Nat × Int) (fun t=>ns.length+1-t.1) (fun t=>[(3,.isl 1 (nl ns)),(4,.ptr 0 0 0),(5,.ptr 1 0 0),(6,.ptr 2 0 0),(8,.ptr 3 0 0),(10,.isl 3 (imC (im1 h s) (fx,fy,fz) ns ns.length)),(11,I (nl ns).length),(12,.asl 4 0 (Qa Qb (((nl ns).length:Int)+2)).toNat),(16,I t.2)])
   (fun t=>[(4,.row 4 (pts.map ptc) true true),(3,.row 3 [[.nils,.nils,I 0]] true false),(2,.row 7 [[I fx,I fy,I fz,I tx,I ty,I tz,I n]] true false),(1,.row 2 [[.isl 1 (nl s.hs),.isl 1 (nl s.dr)]] true false),(0,.row 9 [h.cells] true false)]) 19 19
   (fun t=>t.2=t.1/\t.1<=ns.length+1/\chkW (wP h s) (pts.drop t.1)=chkW (wP h s) pts) (0,0) ⟨rfl,Qn _,rfl⟩ (Qd _) [] rfl (kps) (kps) ?_
  rintro ⟨k,i⟩ ⟨hi1,hk1,hck⟩
  dsimp only at hi1 hk1 hck ⊢
  subst hi1
  by_cases hlt:k<ns.length+1
  ·have b0:((k:Nat):Int)<=((nl ns).length:Int):=by rw [ll]; omega
   have b2:Qa Qb (((k:Nat):Int)+1)=((k+1:Nat):Int):=by rw [W_eq (by omega) (by omega)]; omega
   have e3:(pts.map ptc)[0+((k:Nat):Int).toNat]?=some (ptc (pts[k]'(by omega))):=by rw [Rf,Ry]; exact Zib (by omega)
   have e4:(pts.map ptc)[0+(Qa Qb (((k:Nat):Int)+1)).toNat]?=some (ptc (pts[k+1]'(by omega))):=by rw [b2,Rf,Ry]; exact Zib (by omega)
   rw [Zq6 (by omega)] at hck;have q1:=hpa (pts[k]'(by omega)) (Qr _);have q2:=hpa (pts[k+1]'(by omega)) (Qr _);have v1:=Ya5 (h:=h) (s:=s) (Ztz q1).r (Ztz q2).r;rw [Yke g e0 q1 q2] at hck;clear q1 q2;have hpq:ptEq (pts[k]'(by omega)) (pts[k+1]'(by omega))=(decide ((pts[k]'(by omega)).x=(pts[k+1]'(by omega)).x)&&decide ((pts[k]'(by omega)).y=(pts[k+1]'(by omega)).y)&&decide ((pts[k]'(by omega)).z=(pts[k+1]'(by omega)).z)&&decide ((pts[k]'(by omega)).d=(pts[k+1]'(by omega)).d)):=rfl;rw [hpq] at hck;clear hpq;generalize (pts[k]'(by omega))=p1 at *;generalize (pts[k+1]'(by omega))=p2 at *
   generalize Zk7 h s p1 p2=f at *;obtain ⟨x1,y1,z1,d1⟩:=p1;obtain ⟨x2,y2,z2,d2⟩:=p2;dsimp only at hck;refine bs.av (sx:=nos) hk0 ?_
   cases hb:(!(decide (x1=x2)&&decide (y1=y2)&&decide (z1=z2)&&decide (d1=d2))&&f) with
   | true =>
    rw [hb,Bool.true_and] at hck
    repeat'(first|refine wk3 ?_|(refine wk2 ?_ ?_<;>intro _)|fail)
    all_goals first
     | (exfalso; clear hk0; simp_all; done)
     | exact Ql ⟨(k+1,_),[],rfl,kps,kps,⟨b2,hlt,hck⟩,by dsimp only; omega⟩
   | false =>
    rw [hb,Bool.false_and] at hck;rw [<-hck,if_neg (by simp)] at hR;subst hR
    repeat'(first|refine wk3 ?_|(refine wk2 ?_ ?_<;>intro _)|fail)
    all_goals first
     | exact Ze rfl rfl
     | (exfalso; clear hk0; simp_all; done)
  ·have hke:k=ns.length+1:=by omega
   subst hke;rw [Zq7 (by omega)] at hck;rw [<-hck,if_pos rfl] at hR;subst hR;refine Awp.froz [4] rfl (bs.av (sx:=nos) hk0 ?_)
   have y1:Zfj (some (I (Qa Qb (((nl ns).length:Int)+1)))) (Qa Qb (((nl ns).length:Int)+2)).toNat=some (ns.length+1):=by
    show cond (decide (0<=Qa Qb (((nl ns).length:Int)+1))) (some (Qa Qb (((nl ns).length:Int)+1)).toNat) none=_
    rw [x1,decide_eq_true (by omega)];simp only [cond_true,Qf]; omega
   have e5:(imC (im1 h s) (fx,fy,fz) ns ns.length)[((nl ns).length:Int).toNat]?=some (pl3 (imA (im1 h s) (fx,fy,fz) ns ns.length)):=by
    rw [Rf,ll]; exact Zjm _ _ _ _
   cases P with
   | nil =>
    have hns:ns=[]:=List.eq_nil_of_length_eq_zero (by rw [<-hPl]; rfl);subst hns;subst hpe;clear hk1 hll hlt hpl lp hp0;conv=>whnf
    repeat'(first|refine wk3 ?_|(refine wk2 ?_ ?_<;>intro _)|fail)
    exact Yg [21] rfl rfl rfl
   | cons p P =>
   have e7:List.take (ns.length+1-Tp 1) (List.drop (0+Tp 1) (pts.map ptc))=((p::P).map tup4).map hp4:=by
    rw [hpe,Ss,Ti,show (0+Tp 1)=1 from rfl,List.drop_succ_cons,List.drop_zero,List.map_append,show ns.length+1-Tp 1=((p::P).map ptc).length by rw [Ra,hPl]; omega,List.take_left,List.map_map];rfl
   conv=>whnf
   repeat'(first|refine wk3 ?_|(refine wk2 ?_ ?_<;>intro _)|fail)
   refine Znc rfl rfl rfl rfl rfl rfl y1 (by omega) (by rw [x2]; omega) (by rw [x2]; omega) ?_;conv=>whnf
   generalize imA (im1 h s) (fx,fy,fz) ns ns.length=q at *;obtain ⟨qx,qy,qz⟩:=q
   repeat'(first|refine wk3 ?_|(refine wk2 ?_ ?_<;>intro _)|fail)
   refine Zlp (ys:=((p::P).map tup4).map hp4) rfl rfl rfl rfl rfl rfl rfl (by rw [<-e7]; rfl) rfl ?_ (by simp) rfl (by rw [Ra,Ra,hPl]; show 0+_<=_; omega) ?_
   ·exact Zpj _
   conv=>whnf
   repeat'(first|refine wk3 ?_|(refine wk2 ?_ ?_<;>intro _)|fail)
   refine Yg [26] rfl ?_ rfl;exact congrArg (fun m=>AV.tup [.agg [.isl 1 (nl ns),.asl 26 0 m,I (sqV qx qy qz tx ty tz)],Bo true]) (Ry (((p::P).map tup4).map hp4).length)
theorem d21p {h:Hal} {s:Stg} (g:Sit h s) (e0:serr h s=0) (a:Ask) (hf:Near 5000 (a.fx,a.fy,a.fz)) (ht:Near 5000 (a.tx,a.ty,a.tz)) {ns:List Int} (hl:ns.length<=4) (hi:∀ n∈ns,0<=n/\n<nsur h) :
  PCall Tryz.prog 85 [h.av,s.av,a.av,.isl 1 (nl ns)] ⟨ansP (Yt h s (a.fx,a.fy,a.fz) (a.tx,a.ty,a.tz) ns),[]⟩:=(d21r g e0 a hf ht hl hi).freeze (Ybr _)
abbrev Pt4:=Int × Int × Int × Int
def eqP4 (a b:Pt4):Bool:=decide (a.1=b.1)&&(decide (a.2.1=b.2.1)&&(decide (a.2.2.1=b.2.2.1)&&decide (a.2.2.2=b.2.2.2)))
def eqP:List Pt4->List Pt4->Bool
 | [],[]=>true
 | x::a,y::b=>eqP4 x y&&eqP a b
 | _,_=>false
theorem Ycw {a b:Pt4}:eqP4 a b=true↔a=b:=by
 obtain ⟨a1,a2,a3,a4⟩:=a
 obtain ⟨b1,b2,b3,b4⟩:=b
 simp [eqP4]
theorem Zzo:∀ {a b:List Pt4},eqP a b=true↔a=b
 | [],[]=>by simp [eqP]
 | x::a,y::b=>by rw [eqP,Qc,Ycw,Zzo]; simp
 | [],y::b=>by simp [eqP]
 | x::a,[]=>by simp [eqP]
def same (a b:Pth):Bool:=eqN a.ss b.ss&&(decide (a.sq=b.sq)&&eqP a.ps b.ps)
theorem same_iff {a b:Pth}:same a b=true↔a=b:=by
 obtain ⟨a1,a2,a3⟩:=a
 obtain ⟨b1,b2,b3⟩:=b
 unfold same
 rw [Qc,Qc,eqN_iff,Zzo,decide_eq_true_eq]
 simp only [Pth.mk.injEq]
 exact ⟨fun ⟨h1,h2,h3⟩=>⟨h1,h3,h2⟩,fun ⟨h1,h2,h3⟩=>⟨h1,h3,h2⟩⟩
theorem Yjb {a b:List Pt4} (h:a.map hp4=b.map hp4):a=b:=by
 refine (List.map_inj_right (fun x y hxy=>?_)).1 h
 obtain ⟨x1,x2,x3,x4⟩:=x
 obtain ⟨y1,y2,y3,y4⟩:=y
 simpa using hxy
theorem Zkl {a b:Pth} (h:a.av=b.av):a=b:=by
 obtain ⟨a1,a2,a3⟩:=a
 obtain ⟨b1,b2,b3⟩:=b
 simp only [Nc,Qs,Na,Sr,true_and,and_true] at h
 rw [Zi3 h.1,Yjb h.2.1,h.2.2]
structure AskOk (h:Hal) (s:Stg) (a:Ask):Prop where
 e0:serr h s=0
 f:Near 5000 (a.fx,a.fy,a.fz)
 t:Near 5000 (a.tx,a.ty,a.tz)
 fi:Za2 h ⟨a.fx,a.fy,a.fz,1⟩=true
 ti:Za2 h ⟨a.tx,a.ty,a.tz,1⟩=true
 ne:a.same=false
 n:0<=a.n/\a.n<=4
theorem Yj {h:Hal} {s:Stg} {a:Ask} (e:askE h s a=0):AskOk h s a:=by
 unfold askE at e
 split at e
 ·rename_i e0
  simp only [fstL] at e
  by_cases c1:plaE h a.fx a.fy a.fz=0
  rotate_left
  ·rw [if_pos (fun k=>c1 k)] at e; exact absurd e c1
  by_cases c2:plaE h a.tx a.ty a.tz=0
  rotate_left
  ·rw [if_neg (fun k=>k c1),if_pos (fun k=>c2 k)] at e; exact absurd e c2
  by_cases c3:unl (!a.same) 11=0
  rotate_left
  ·rw [if_neg (fun k=>k c1),if_neg (fun k=>k c2),if_pos (fun k=>c3 k)] at e; exact absurd e c3
  by_cases c4:unl (within a.n 0 4) 2=0
  rotate_left
  ·rw [if_neg (fun k=>k c1),if_neg (fun k=>k c2),if_neg (fun k=>k c3),if_pos (fun k=>c4 k)] at e; exact absurd e c4
  refine ⟨e0,(Zg2 c1).1,(Zg2 c2).1,(Zg2 c1).2,(Zg2 c2).2,?_,?_⟩
  ·cases hs:a.same with
   | false=>rfl
   | true=>rw [hs] at c3; cases c3
  ·cases hw:within a.n 0 4 with
   | true=>exact within_iff.1 hw
   | false=>rw [hw] at c4; cases c4
 ·rename_i e0; exact absurd e e0
theorem Zjl {h:Hal} {s:Stg} {q0 q1:Pl3} {ns:List Int} {p:Pth} (e:Yt h s q0 q1 ns=some p):p.ss=ns:=by
 rw [Zdf] at e
 split at e
 ·cases e
 ·split at e
  ·cases e; rfl
  ·cases e
theorem Zy1 {f:Int->Pl3->Pt->Pt × Int}:∀ {l:List (Int × Pl3)} {to:Pt} {P R:List Pt},goP f l to P=some R->R.length=l.length+P.length
 | [],_,_,_,h=>by rw [goP,Qf] at h; subst h; simp
 | (a,q)::r,to,P,R,h=>by
  rw [goP] at h
  split at h
  ·have:=Zy1 h
   rw [this,Ru,Ru]; omega
  ·cases h
theorem Zt2 {h:Hal} {s:Stg} {q0 q1:Pl3} {ns:List Int} {p:Pth} (e:Yt h s q0 q1 ns=some p):p.ps.length=ns.length:=by
 rw [Zdf] at e
 split at e
 ·cases e
 ·rename_i P hP
  have:=Zy1 hP
  rw [List.length_reverse,Za9,List.length_nil] at this
  split at e
  ·cases e; rw [Ra]; exact this
  ·cases e
abbrev qF (a:Ask):Pl3:=(a.fx,a.fy,a.fz)
abbrev qT (a:Ask):Pl3:=(a.tx,a.ty,a.tz)
theorem d21a {h:Hal} (hk:h.ok) {s:Stg} (hs:s.few) {a:Ask} (e:askE h s a=0) {ns:List Int} (e2:suE h ns=0):PCall Tryz.prog 85 [h.av,s.av,a.av,.isl 1 (nl ns)] ⟨ansP (Yt h s (qF a) (qT a) ns),[]⟩ :=
 d21p (Zed hk hs (Yj e).e0) (Yj e).e0 a (Yj e).f (Yj e).t (Zjk e2).1 (Zjk e2).2
end Go.Proofs.YtfkdpbklbegnlaaGreat
