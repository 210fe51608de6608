/- A part of the proof: lemmas. -/
import Derived.Test.YtdaliaafmcjikaaGreatV12
import Derived.Test.YtdaliaafmcjikaaGreatV10
import Derived.Test.YtdaliaafmcjikaaGreatV13
import Derived.Laws.Bits64b
import Derived.Lib.Mul64
set_option linter.unusedVariables false
set_option linter.unusedSimpArgs false
set_option maxRecDepth 100000
set_option maxHeartbeats 16000000
open BitVec renaming ofInt->Su
open Bool renaming and_eq_true->Qc,false_or->Ph,or_eq_true->Rd
open Go.IntKind renaming i64->Qb,u64->Rx,wrap->Qa,wrap_i64->Tp,wrap_u64->Hj
open Go.Lib renaming half_mul_le->Ja
open Go.Sx.AV.int renaming injEq->Tl
open Go.Sx.Done renaming mk->Ql
open Go.Sx.LpM renaming start->Wd,succ->Ry
open Int renaming emod_lt_of_pos->Jb,emod_nonneg->Hy,eq_ofNat_of_zero_le->Hk,le_of_lt->Qw,lt_trichotomy->Tc,mul_comm->Rr,mul_ediv_add_emod->Lr,mul_le_mul_of_nonneg_left->Rp,mul_le_mul_of_nonneg_right->Qk,mul_lt_mul_of_pos_right->Wk,mul_neg->Sq,mul_neg_of_neg_of_pos->Jf,mul_neg_of_pos_of_neg->Om,mul_nonneg->Rj,mul_pos->Rq,mul_zero->Tm,neg_mul->Wn,neg_neg->Ty,toNat->Sr
open List renaming any_cons->Na,getElem?_eq_getElem->Qe,map_cons->Te,mem_cons->Rf,mem_map->Wf
open List.cons renaming injEq->Qx
open Nat renaming beq->Qq,le_of_ble_eq_true->Qo
namespace Go.Proofs.YtdaliaafmcjikaaGreat
open Go Go.Sx
def atW (c:Int × Int) (l m:Int):Int:=l*c.1+m*c.2
def Zke (cs:List (Int × Int)):Prop:=∃ l m:Int,0<l/\0<m/\∀ c∈cs,0<=atW c l m
theorem Yho {l0 m0:Int} (h1:0<l0) (h2:0<m0) {l m:Int} (hl:0<l) (hm:0<m):∀ cs:List (Int × Int),(∀ c∈cs,0<=atW c l m)->∃ a b:Int,0<a/\0<b/\(∀ c∈cs,0<=atW c a b)/\((a=l0/\b=m0)\/∃ c∈cs,atW c a b=0)
 | [],_=>⟨l0,m0,h1,h2,by simp,.inl ⟨rfl,rfl⟩⟩
 | c::cs,h=>by
  obtain ⟨a,b,ha,hb,k1,k2⟩:=Yho h1 h2 hl hm cs fun c' hc=>h c' (by simp [hc])
  have hT:=h c (by simp)
  by_cases hc:0<=atW c a b
  ·refine ⟨a,b,ha,hb,fun c' hc'=>?_,?_⟩
   ·rcases Rf.1 hc' with rfl|hc'
    ·exact hc
    ·exact k1 c' hc'
   ·rcases k2 with k2|⟨c',g1,g2⟩
    ·exact .inl k2
    ·exact .inr ⟨c',by simp [g1],g2⟩
  ·have hN:0 < -atW c a b:=by omega
   have comb:∀ c' : Int × Int,atW c' (-atW c a b*l+atW c l m*a) (-atW c a b*m+atW c l m*b) = -atW c a b*atW c' l m+atW c l m*atW c' a b:=by
    intro c'
    generalize atW c a b=N
    generalize atW c l m=T
    unfold atW; grind
   refine ⟨-atW c a b*l+atW c l m*a,-atW c a b*m+atW c l m*b,?_,?_,fun c' hc'=>?_,.inr ⟨c,by simp,?_⟩⟩
   ·have:=Rq hN hl
    have:=Rj hT (Qw ha)
    omega
   ·have:=Rq hN hm
    have:=Rj hT (Qw hb)
    omega
   ·rw [comb]
    rcases Rf.1 hc' with rfl|hc'
    ·have : -atW c' a b*atW c' l m+atW c' l m*atW c' a b=0:=by grind
     omega
    ·have:=Rj (Qw hN) (h c' (by simp [hc']))
     have:=Rj hT (k1 c' hc')
     omega
   ·rw [comb]; grind
def Yu:List (Int × Int)->Int->Int->Int->Int->Bool
 | [],n,d,m,k=>decide (cmpQ n d m k<=0)&&decide (cmpQ n d 1 1<0)&&decide (0<cmpQ m k 0 1)
 | (a,v)::l,n,d,m,k =>
  if v=0/\a<0 then false
  else if 0<v/\0<cmpQ (-a) v n d then Yu l (-a) v m k
  else if v<0/\cmpQ a (-v) m k<0 then Yu l n d a (-v)
  else Yu l n d m k
theorem Zhd:∀ (cs:List (Int × Int)) (n d m k:Int),0<d->0<k->0<=n->m<=k->(Yu cs n d m k=true↔∃ T D:Int,0<T/\T<D/\n*D<=T*d/\T*k<=m*D/\∀ c∈cs,0<=c.1*D+T*c.2)
 | [],n,d,m,k,hd,hk,hn,hm=>by
  unfold Yu cmpQ
  rw [Qc,Qc,decide_eq_true_eq,decide_eq_true_eq,decide_eq_true_eq,Zsk,Xt,Xs]
  constructor
  ·rintro ⟨⟨h1,h2⟩,h3⟩
   have hm0:0<m:=by omega
   have p1:=Rq hm0 hd
   have p2:=Rj hn (Qw hk)
   have p3:=Wk (show n<d by omega) hk
   have p4:=Qk hm (Qw hd)
   have e1:k*d=d*k:=Rr _ _
   refine ⟨n*k+m*d,2*(d*k),by omega,by omega,?_,?_,by simp⟩
   ·have:(n*k+m*d)*d-n*(2*(d*k))=d*(m*d-n*k):=by grind
    have:=Rj (Qw hd) (show 0<=m*d-n*k by omega)
    omega
   ·have:m*(2*(d*k))-(n*k+m*d)*k=k*(m*d-n*k):=by grind
    have:=Rj (Qw hk) (show 0<=m*d-n*k by omega)
    omega
  ·rintro ⟨T,D,h1,h2,h3,h4,_⟩
   have hD:0<D:=by omega
   refine ⟨⟨?_,?_⟩,?_⟩
   ·have q1:=Qk h3 (Qw hk)
    have q2:=Qk h4 (Qw hd)
    have e:D*(n*k-m*d)=n*D*k-m*D*d:=by grind
    have e2:T*d*k=T*k*d:=by grind
    have:=(np_l hD).1 (show D*(n*k-m*d)<=0 by omega)
    omega
   ·have q:=Wk h2 hd
    have e:D*(n-d)=n*D-D*d:=by grind
    have:=(Zdc hD).1 (show D*(n-d)<0 by omega)
    omega
   ·have q:=Rq h1 hk
    have e:D*m=m*D:=Rr _ _
    have:=(Zbx hD).1 (show 0<D*m by omega)
    omega
 | (a,v)::l,n,d,m,k,hd,hk,hn,hm=>by
  rw [Yu]
  by_cases c1:v=0/\a<0
  ·rw [if_pos c1]
   constructor
   ·intro h; simp at h
   ·rintro ⟨T,D,h1,h2,_,_,h5⟩
    have:=h5 (a,v) (by simp)
    dsimp only at this
    rw [c1.1,Tm] at this
    have:=Jf c1.2 (show 0<D by omega)
    omega
  rw [if_neg c1]
  unfold cmpQ
  simp only [Xs,Xt]
  by_cases c2:0<v/\0 < -a*d-n*v
  ·rw [if_pos c2]
   have q1:=Rj hn (Qw c2.1)
   have hna:0 < -a:=by
    have:0<d * -a:=by rw [Rr]; omega
    exact (Zbx hd).1 this
   rw [Zhd l (-a) v m k c2.1 hk (by omega) hm]
   constructor
   ·rintro ⟨T,D,h1,h2,h3,h4,h5⟩
    refine ⟨T,D,h1,h2,?_,h4,fun c hc=>?_⟩
    ·have r1:=Qk h3 (Qw hd)
     have r2:=Qk (show n*v <= -a*d by omega) (show 0<=D by omega)
     have e1 : -a*d*D = -a*D*d:=by grind
     have e2:v*(n*D-T*d)=n*v*D-T*v*d:=by grind
     have:=(np_l c2.1).1 (show v*(n*D-T*d)<=0 by omega)
     omega
    ·rcases Rf.1 hc with rfl|hc
     ·dsimp only
      have : -a*D = -(a*D):=Wn _ _
      omega
     ·exact h5 c hc
   ·rintro ⟨T,D,h1,h2,h3,h4,h5⟩
    refine ⟨T,D,h1,h2,?_,h4,fun c hc=>h5 c (by simp [hc])⟩
    have:=h5 (a,v) (by simp)
    dsimp only at this
    have : -a*D = -(a*D):=Wn _ _
    omega
  rw [if_neg c2]
  by_cases c3:v<0/\a*k-m * -v<0
  ·rw [if_pos c3]
   have hv:0 < -v:=by omega
   have q1:=Qk hm (Qw hv)
   have hav:a <= -v:=by
    have:k*(a - -v)<0:=by
     have e:k*(a - -v)=a*k-k * -v:=by grind
     omega
    have:=(Zdc hk).1 this
    omega
   rw [Zhd l n d a (-v) hd hv hn hav]
   constructor
   ·rintro ⟨T,D,h1,h2,h3,h4,h5⟩
    refine ⟨T,D,h1,h2,h3,?_,fun c hc=>?_⟩
    ·have r1:=Qk h4 (Qw hk)
     have r2:=Qk (show a*k<=m * -v by omega) (show 0<=D by omega)
     have e1:a*D*k=a*k*D:=by grind
     have e2 : -v*(T*k-m*D)=T * -v*k-m * -v*D:=by grind
     have:=(np_l hv).1 (show -v*(T*k-m*D)<=0 by omega)
     omega
    ·rcases Rf.1 hc with rfl|hc
     ·dsimp only
      have:T * -v = -(T*v):=Sq _ _
      omega
     ·exact h5 c hc
   ·rintro ⟨T,D,h1,h2,h3,h4,h5⟩
    refine ⟨T,D,h1,h2,h3,?_,fun c hc=>h5 c (by simp [hc])⟩
    have:=h5 (a,v) (by simp)
    dsimp only at this
    have:T * -v = -(T*v):=Sq _ _
    omega
  rw [if_neg c3,Zhd l n d m k hd hk hn hm]
  constructor
  ·rintro ⟨T,D,h1,h2,h3,h4,h5⟩
   refine ⟨T,D,h1,h2,h3,h4,fun c hc=>?_⟩
   rcases Rf.1 hc with rfl|hc
   ·dsimp only
    have hD:0<D:=by omega
    rcases Tc v 0 with hv|hv|hv
    ·have hx:m * -v<=a*k:=by omega
     have r1:=Qk h4 (show 0 <= -v by omega)
     have r2:=Qk hx (Qw hD)
     have e1:m*D * -v=m * -v*D:=by grind
     have e2:k*(a*D+T*v)=a*k*D-T*k * -v:=by grind
     exact (nn_l hk).1 (show 0<=k*(a*D+T*v) by omega)
    ·subst hv
     rw [Tm,Int.add_zero]
     exact Rj (by omega) (Qw hD)
    ·have hx : -a*d<=n*v:=by omega
     have r1:=Qk h3 (show 0<=v by omega)
     have r2:=Qk hx (Qw hD)
     have e1:n*D*v=n*v*D:=by grind
     have e2:d*(a*D+T*v)=T*d*v - -a*d*D:=by grind
     exact (nn_l hd).1 (show 0<=d*(a*D+T*v) by omega)
   ·exact h5 c hc
  ·rintro ⟨T,D,h1,h2,h3,h4,h5⟩
   exact ⟨T,D,h1,h2,h3,h4,fun c hc=>h5 c (by simp [hc])⟩
theorem Zuf {pd qd:Int} (h1:0<pd) (h2:0<qd) (cs:List (Int × Int)):(∃ T D:Int,0<T/\T<D/\∀ c∈cs,0<=c.1*qd*D+T*(c.2*pd-c.1*qd))↔Zke cs:=by
 constructor
 ·rintro ⟨T,D,a,b,h⟩
  refine ⟨qd*(D-T),pd*T,Rq h2 (by omega),Rq h1 a,fun c hc=>?_⟩
  have:=h c hc
  have e:atW c (qd*(D-T)) (pd*T)=c.1*qd*D+T*(c.2*pd-c.1*qd):=by unfold atW; grind
  omega
 ·rintro ⟨l,m,a,b,h⟩
  have k1:=Rq a h1
  have k2:=Rq b h2
  refine ⟨m*qd,l*pd+m*qd,k2,by omega,fun c hc=>?_⟩
  have:=Rj (Qw (Rq h1 h2)) (h c hc)
  have e:c.1*qd*(l*pd+m*qd)+m*qd*(c.2*pd-c.1*qd)=pd*qd*atW c l m:=by unfold atW; grind
  omega
def rcN (r:Rc) (p q:P2d):List (Int × Int):=[(p.x-r.xl*p.d,q.x-r.xl*q.d),(r.xh*p.d-p.x,r.xh*q.d-q.x),(p.y-r.yl*p.d,q.y-r.yl*q.d),(r.yh*p.d-p.y,r.yh*q.d-q.y)]
def Zu5 (r:Rc) (p q:P2d):Bool:=Yu ((rcN r p q).map fun c=>(c.1*q.d,c.2*p.d-c.1*q.d)) 0 1 1 1
theorem Zxz {r:Rc} {p q:P2d} (h1:0<p.d) (h2:0<q.d):Zu5 r p q=true↔Zke (rcN r p q):=by
 unfold Zu5
 rw [Zhd _ 0 1 1 1 (by decide) (by decide) (by decide) (by decide),<-Zuf h1 h2]
 constructor
 ·rintro ⟨T,D,a,b,_,_,h⟩
  exact ⟨T,D,a,b,fun c hc=>h _ (Wf.2 ⟨c,hc,rfl⟩)⟩
 ·rintro ⟨T,D,a,b,h⟩
  refine ⟨T,D,a,b,by omega,by omega,fun c hc=>?_⟩
  obtain ⟨c',hc',rfl⟩:=Wf.1 hc
  exact h c' hc'
def edgP (r:Rc):List Wl:=[⟨0,r.xl,r.yl,r.xh,r.yl⟩,⟨0,r.xh,r.yl,r.xh,r.yh⟩,⟨0,r.xh,r.yh,r.xl,r.yh⟩,⟨0,r.xl,r.yh,r.xl,r.yl⟩]
def midX (p q:Pt):Int:=Qa Qb (Qa Qb (p.x*q.d)+Qa Qb (q.x*p.d))
def midY (p q:Pt):Int:=Qa Qb (Qa Qb (p.y*q.d)+Qa Qb (q.y*p.d))
def midD (p q:Pt):Int:=Qa Qb (Qa Qb (2*p.d)*q.d)
def Zvb (r:Rc) (p q:Pt):Bool:=r.has (midX p q) (midY p q) (midD p q)||(edgP r).any (touP p q)||(r.holds p.x p.y p.d||r.holds q.x q.y q.d)
theorem Ycp {p q:Pt} (hp:PtR p) (hq:PtR q):midX p q=p.x*q.d+q.x*p.d/\midY p q=p.y*q.d+q.y*p.d/\midD p q=2*p.d*q.d:=by
 obtain ⟨a1,a2,a3,a4⟩:=hp
 obtain ⟨b1,b2,b3,b4⟩:=hq
 have m1:=Zn (a:=q.x) (b:=p.d) (A:=500000000) (B:=100000) (by omega) (by omega)
 have m2:=Zn (a:=p.x) (b:=q.d) (A:=500000000) (B:=100000) (by omega) (by omega)
 have m3:=Zn (a:=q.y) (b:=p.d) (A:=500000000) (B:=100000) (by omega) (by omega)
 have m4:=Zn (a:=p.y) (b:=q.d) (A:=500000000) (B:=100000) (by omega) (by omega)
 have m5:=Zn (a:=2*p.d) (b:=q.d) (A:=200000) (B:=100000) (by omega) (by omega)
 unfold midX midY midD
 rw [W_eq (n:=q.x*p.d) (by omega) (by omega),W_eq (n:=p.x*q.d) (by omega) (by omega),W_eq (n:=q.y*p.d) (by omega) (by omega),W_eq (n:=p.y*q.d) (by omega) (by omega),W_eq (n:=2*p.d) (by omega) (by omega)]
 exact ⟨W_eq (by omega) (by omega),W_eq (by omega) (by omega),W_eq (by omega) (by omega)⟩
theorem Yfi {r:Rc} (hr:RcOk r):Str ⟨0,r.xl,r.yl,r.xh,r.yl⟩ (r.xh-r.xl) 1 0/\Str ⟨0,r.xh,r.yl,r.xh,r.yh⟩ (r.yh-r.yl) 0 1/\Str ⟨0,r.xh,r.yh,r.xl,r.yh⟩ (r.xh-r.xl) (-1) 0/\Str ⟨0,r.xl,r.yh,r.xl,r.yl⟩ (r.yh-r.yl) 0 (-1):=by
 obtain ⟨h1,h2,h3,h4,h5,h6⟩:=hr
 refine ⟨⟨?_,?_,?_,?_,?_,?_,?_,?_,?_,?_⟩,⟨?_,?_,?_,?_,?_,?_,?_,?_,?_,?_⟩,⟨?_,?_,?_,?_,?_,?_,?_,?_,?_,?_⟩,⟨?_,?_,?_,?_,?_,?_,?_,?_,?_,?_⟩⟩<;>(try dsimp only)<;>omega
theorem rcN_mem {r:Rc} {p q:P2d} {l m:Int}:(∀ c∈rcN r p q,0<=atW c l m)↔0<=l*(p.x-r.xl*p.d)+m*(q.x-r.xl*q.d)/\0<=l*(r.xh*p.d-p.x)+m*(r.xh*q.d-q.x)/\0<=l*(p.y-r.yl*p.d)+m*(q.y-r.yl*q.d)/\0<=l*(r.yh*p.d-p.y)+m*(r.yh*q.d-q.y):=by
 simp [rcN,atW]
theorem Zyd {r:Rc} (hr:RcOk r) {p q:P2d} (h1:0<p.d) (h2:0<q.d) (l m:Int) (hl:0<l) (hm:0<m) :
  ((∀ c∈rcN r p q,0<=atW c l m)/\∃ c∈rcN r p q,atW c l m=0)->(Zar ⟨0,r.xl,r.yl,r.xh,r.yl⟩ (r.xh-r.xl) 1 0 p q\/Zar ⟨0,r.xh,r.yl,r.xh,r.yh⟩ (r.yh-r.yl) 0 1 p q\/Zar ⟨0,r.xh,r.yh,r.xl,r.yh⟩ (r.xh-r.xl) (-1) 0 p q\/Zar ⟨0,r.xl,r.yh,r.xl,r.yl⟩ (r.yh-r.yl) 0 (-1) p q):=by
 rintro ⟨h,c,hc,h0⟩
 rw [rcN_mem] at h
 obtain ⟨k1,k2,k3,k4⟩:=h
 have e1:l*(r.xh*p.d-p.x)+m*(r.xh*q.d-q.x)=(r.xh-r.xl)*(l*p.d+m*q.d)-(l*(p.x-r.xl*p.d)+m*(q.x-r.xl*q.d)):=by grind
 have e2:l*(r.yh*p.d-p.y)+m*(r.yh*q.d-q.y)=(r.yh-r.yl)*(l*p.d+m*q.d)-(l*(p.y-r.yl*p.d)+m*(q.y-r.yl*q.d)):=by grind
 unfold Zar bsP alP ful bes alo
 dsimp only
 simp only [rcN,Rf,List.not_mem_nil,or_false] at hc
 rcases hc with rfl|rfl|rfl|rfl<;>unfold atW at h0<;>dsimp only at h0
 ·refine .inr (.inr (.inr ⟨l,m,hl,hm,?_,?_,?_⟩))
  ·grind
  ·grind
  ·grind
 ·refine .inr (.inl ⟨l,m,hl,hm,?_,?_,?_⟩)
  ·grind
  ·grind
  ·grind
 ·refine .inl ⟨l,m,hl,hm,?_,?_,?_⟩
  ·grind
  ·grind
  ·grind
 ·refine .inr (.inr (.inl ⟨l,m,hl,hm,?_,?_,?_⟩))
  ·grind
  ·grind
  ·grind
theorem Zw0 {r:Rc} (hr:RcOk r) {p q:P2d} (h1:0<p.d) (h2:0<q.d) (h:Zar ⟨0,r.xl,r.yl,r.xh,r.yl⟩ (r.xh-r.xl) 1 0 p q\/Zar ⟨0,r.xh,r.yl,r.xh,r.yh⟩ (r.yh-r.yl) 0 1 p q\/Zar ⟨0,r.xh,r.yh,r.xl,r.yh⟩ (r.xh-r.xl) (-1) 0 p q\/Zar ⟨0,r.xl,r.yh,r.xl,r.yl⟩ (r.yh-r.yl) 0 (-1) p q):Zke (rcN r p q):=by
 have key:∀ l m:Int,0<l->0<m->0<=(r.xh-r.xl)*(l*p.d+m*q.d)/\0<=(r.yh-r.yl)*(l*p.d+m*q.d):=by
  intro l m hl hm
  have k1:=Rq hl h1
  have k2:=Rq hm h2
  have:=hr.x
  have:=hr.y
  exact ⟨Rj (by omega) (by omega),Rj (by omega) (by omega)⟩
 unfold Zar bsP alP ful bes alo at h
 dsimp only at h
 unfold Zke
 rcases h with ⟨l,m,hl,hm,k1,k2,k3⟩|⟨l,m,hl,hm,k1,k2,k3⟩|⟨l,m,hl,hm,k1,k2,k3⟩|⟨l,m,hl,hm,k1,k2,k3⟩<;>refine ⟨l,m,hl,hm,rcN_mem.2 ?_⟩<;>obtain ⟨g1,g2⟩:=key l m hl hm<;>refine ⟨?_,?_,?_,?_⟩<;>grind
theorem Zyl {r:Rc} (hr:RcOk r) {p q:Pt} (hp:PtR p) (hq:PtR q):Zvb r p q=true↔Zke (rcN r p.pl q.pl):=by
 obtain ⟨e1,e2,e3⟩:=Ycp hp hq
 obtain ⟨s1,s2,s3,s4⟩:=Yfi hr
 have dp:=hp.d0
 have dq:=hq.d0
 have dp1:=hp.d1
 have dq1:=hq.d1
 have hD:=Rq (show 0<2*p.d by omega) dq
 have hD2:=(Zn (a:=2*p.d) (b:=q.d) (A:=200000) (B:=100000) (by omega) (by omega)).2
 unfold Zvb
 rw [e1,e2,e3,Rd,Rd,Rd,Zso hr ⟨hD,by omega⟩,Zez hr ⟨dp,by omega⟩,Zez hr ⟨dq,by omega⟩]
 have ea:(edgP r).any (touP p q)=true↔(Zar ⟨0,r.xl,r.yl,r.xh,r.yl⟩ (r.xh-r.xl) 1 0 p.pl q.pl\/Zar ⟨0,r.xh,r.yl,r.xh,r.yh⟩ (r.yh-r.yl) 0 1 p.pl q.pl\/Zar ⟨0,r.xh,r.yh,r.xl,r.yh⟩ (r.xh-r.xl) (-1) 0 p.pl q.pl\/Zar ⟨0,r.xl,r.yh,r.xl,r.yl⟩ (r.yh-r.yl) 0 (-1) p.pl q.pl):=by
  simp only [edgP,Na,List.any_nil,Bool.or_false,Rd]
  rw [Zgk s1 hp hq,Zgk s2 hp hq,Zgk s3 hp hq,Zgk s4 hp hq]
 rw [ea]
 have mm:(0<=p.x*q.d+q.x*p.d-r.xl*(2*p.d*q.d)/\0<=r.xh*(2*p.d*q.d)-(p.x*q.d+q.x*p.d)/\0<=p.y*q.d+q.y*p.d-r.yl*(2*p.d*q.d)/\0<=r.yh*(2*p.d*q.d)-(p.y*q.d+q.y*p.d))↔∀ c∈rcN r p.pl q.pl,0<=atW c q.d p.d:=by
  rw [rcN_mem]
  unfold Pt.pl
  dsimp only
  have k1:q.d*(p.x-r.xl*p.d)+p.d*(q.x-r.xl*q.d)=p.x*q.d+q.x*p.d-r.xl*(2*p.d*q.d):=by grind
  have k2:q.d*(r.xh*p.d-p.x)+p.d*(r.xh*q.d-q.x)=r.xh*(2*p.d*q.d)-(p.x*q.d+q.x*p.d):=by grind
  have k3:q.d*(p.y-r.yl*p.d)+p.d*(q.y-r.yl*q.d)=p.y*q.d+q.y*p.d-r.yl*(2*p.d*q.d):=by grind
  have k4:q.d*(r.yh*p.d-p.y)+p.d*(r.yh*q.d-q.y)=r.yh*(2*p.d*q.d)-(p.y*q.d+q.y*p.d):=by grind
  rw [k1,k2,k3,k4]
 rw [mm]
 have big:∀ a b:Int,0<a->0<=(b.natAbs+1:Int)*a+b:=fun a b ha=>by
  have:=Rp (show 1<=a by omega) (show (0:Int)<=(b.natAbs:Int)+1 by omega)
  omega
 have holdsIn:∀ p q:P2d,(0<p.x-r.xl*p.d/\0<r.xh*p.d-p.x/\0<p.y-r.yl*p.d/\0<r.yh*p.d-p.y)->∃ N:Int,0<N/\0<=N*(p.x-r.xl*p.d)+1*(q.x-r.xl*q.d)/\0<=N*(r.xh*p.d-p.x)+1*(r.xh*q.d-q.x)/\0<=N*(p.y-r.yl*p.d)+1*(q.y-r.yl*q.d)/\0<=N*(r.yh*p.d-p.y)+1*(r.yh*q.d-q.y):=by
  rintro p q ⟨h1,h2,h3,h4⟩
  have mono:∀ a b N:Int,0<a->(b.natAbs:Int)<=N->0<=N*a+1*b:=fun a b N ha hN=>by
   have:=Rp (show 1<=a by omega) (show 0<=N by omega)
   omega
  refine ⟨((q.x-r.xl*q.d).natAbs:Int)+(r.xh*q.d-q.x).natAbs+(q.y-r.yl*q.d).natAbs+(r.yh*q.d-q.y).natAbs+1,by omega,mono _ _ _ h1 (by omega),mono _ _ _ h2 (by omega),mono _ _ _ h3 (by omega),mono _ _ _ h4 (by omega)⟩
 constructor
 ·rintro ((h|h)|h|h)
  ·exact ⟨q.d,p.d,dq,dp,h⟩
  ·exact Zw0 hr dp dq h
  ·obtain ⟨N,h0,h1,h2,h3,h4⟩:=holdsIn p.pl q.pl h
   exact ⟨N,1,h0,by omega,rcN_mem.2 ⟨h1,h2,h3,h4⟩⟩
  ·obtain ⟨N,h0,h1,h2,h3,h4⟩:=holdsIn q.pl p.pl h
   exact ⟨1,N,by omega,h0,rcN_mem.2 ⟨by omega,by omega,by omega,by omega⟩⟩
 ·rintro ⟨l,m,hl,hm,h⟩
  obtain ⟨a,b,ha,hb,k1,k2⟩:=Yho (l0:=q.d) (m0:=p.d) dq dp hl hm _ h
  rcases k2 with ⟨rfl,rfl⟩|k2
  ·exact .inl (.inl k1)
  ·exact .inl (.inr (Zyd hr dp dq a b ha hb ⟨k1,k2⟩))
structure PtH (p:Pt):Prop where
 r:PtR p
 z : -(5000*p.d)<=p.z/\p.z<=5000*p.d
theorem Zss {p:Pt} (h:Xm p=0):PtH p:=by
 obtain ⟨h1,h2,_,h4⟩:=Ze1 h
 unfold ptIn at h4
 simp only [Qc,within_iff] at h4
 exact ⟨⟨h1,h2,h4.1.1,h4.1.2⟩,h4.2⟩
def zOff (ht:Int) (p:Pt):Int:=Qa Qb (p.z-Qa Qb (ht*p.d))
theorem Zhm {ht:Int} (hh:0<=ht/\ht<=5000) {p:Pt} (hp:PtH p):zOff ht p=p.z-ht*p.d/\Qa Qb (ht*p.d)=ht*p.d/\(-1000000000<=p.z-ht*p.d/\p.z-ht*p.d<=1000000000):=by
 obtain ⟨⟨a1,a2,_,_⟩,a5⟩:=hp
 have c1:=Zj (f:=ht) (d:=p.d) (by omega) a1
 unfold zOff
 rw [W_eq (n:=ht*p.d) (by omega) (by omega)]
 exact ⟨W_eq (by omega) (by omega),rfl,by omega⟩
def blkS (r:Rc) (ht:Int) (p q:Pt):Prop:=∃ l m:Int,0<l/\0<m/\l*(p.z-ht*p.d)+m*(q.z-ht*q.d)=0/\∀ c∈rcN r p.pl q.pl,0<=atW c l m
theorem Zp9 {r:Rc} {ht:Int} {p q:Pt} (h1:p.z-ht*p.d=0) (h2:q.z-ht*q.d=0):blkS r ht p q↔Zke (rcN r p.pl q.pl):=by
 unfold blkS Zke
 rw [h1,h2]
 exact ⟨fun ⟨l,m,a,b,_,c⟩=>⟨l,m,a,b,c⟩,fun ⟨l,m,a,b,c⟩=>⟨l,m,a,b,by omega,c⟩⟩
theorem Zp8 {r:Rc} {ht:Int} {p q:Pt} (h0:¬(p.z-ht*p.d=0/\q.z-ht*q.d=0)) (h1:0<=sgn (p.z-ht*p.d)*sgn (q.z-ht*q.d)):¬ blkS r ht p q:=by
 rintro ⟨l,m,hl,hm,e,_⟩
 have hs:¬ (sgn (p.z-ht*p.d)*sgn (q.z-ht*q.d)<0):=by omega
 rw [sgn_mul_neg] at hs
 generalize p.z-ht*p.d=a at *
 generalize q.z-ht*q.d=b at *
 by_cases ha:0<a
 ·have:=(Zbx hl).2 ha
  have:=(nn_l hm).2 (show 0<=b by omega)
  omega
 by_cases hb:a<0
 ·have:=(Zdc hl).2 hb
  have:=(np_l hm).2 (show b<=0 by omega)
  omega
 have:a=0:=by omega
 subst this
 have:m*b≠0:=Int.mul_ne_zero (by omega) (by omega)
 omega
theorem Zp7 {r:Rc} {ht:Int} {p q:Pt}:blkS r ht p q↔blkS r ht q p:=by
 have key:∀ p q,blkS r ht p q->blkS r ht q p:=by
  rintro p q ⟨l,m,h1,h2,h3,h4⟩
  refine ⟨m,l,h2,h1,by omega,?_⟩
  rw [rcN_mem] at h4 ⊢
  omega
 exact ⟨key _ _,key _ _⟩
theorem Zfc {r:Rc} {ht:Int} {p q:Pt} {f g:Int} (hf:p.z-ht*p.d=f) (hg:q.z-ht*q.d=g) (h1:f<0/\0<g):blkS r ht p q↔∀ c∈rcN r p.pl q.pl,0<=atW c g (-f):=by
 unfold blkS
 rw [hf,hg]
 constructor
 ·rintro ⟨l,m,hl,hm,e,h⟩ c hc
  have k1:g*atW c l m=l*atW c g (-f):=by unfold atW; grind
  have q1:=(nn_l h1.2).2 (h c hc)
  rw [k1,nn_l hl] at q1
  exact q1
 ·intro h
  exact ⟨g,-f,h1.2,by omega,by grind,h⟩
theorem Zg9 {r:Rc} (hr:RcOk r) {p q:Pt} (hp:PtR p) (hq:PtR q) {f g:Int} (h1:f<0/\0<g) (h2 : -1000000000<=f/\g<=1000000000):r.has (p.x*g-q.x*f) (p.y*g-q.y*f) (p.d*g-q.d*f)=true↔∀ c∈rcN r p.pl q.pl,0<=atW c g (-f):=by
 obtain ⟨a1,a2,a3,a4⟩:=hp
 obtain ⟨b1,b2,b3,b4⟩:=hq
 have k1:=Rq a1 h1.2
 have k2:=Rq b1 (show 0 < -f by omega)
 rw [Sq] at k2
 have m1:=Zn (a:=p.d) (b:=g) (A:=100000) (B:=1000000000) (by omega) (by omega)
 have m2:=Zn (a:=q.d) (b:=f) (A:=100000) (B:=1000000000) (by omega) (by omega)
 rw [Zso hr ⟨by omega,by omega⟩,rcN_mem]
 unfold Pt.pl
 dsimp only
 have e1:g*(p.x-r.xl*p.d) + -f*(q.x-r.xl*q.d)=p.x*g-q.x*f-r.xl*(p.d*g-q.d*f):=by grind
 have e2:g*(r.xh*p.d-p.x) + -f*(r.xh*q.d-q.x)=r.xh*(p.d*g-q.d*f)-(p.x*g-q.x*f):=by grind
 have e3:g*(p.y-r.yl*p.d) + -f*(q.y-r.yl*q.d)=p.y*g-q.y*f-r.yl*(p.d*g-q.d*f):=by grind
 have e4:g*(r.yh*p.d-p.y) + -f*(r.yh*q.d-q.y)=r.yh*(p.d*g-q.d*f)-(p.y*g-q.y*f):=by grind
 rw [e1,e2,e3,e4]
def atX (a b:Int) (u v:Int):Int:=Qa Qb (Qa Qb (a*u)+Qa Qb (b*v))
def blkP (r:Rc) (ht:Int) (p q:Pt):Bool :=
 if p.z=Qa Qb (ht*p.d)/\q.z=Qa Qb (ht*q.d) then Zvb r p q
 else if 0<=Qa Qb (sgn (zOff ht p)*sgn (zOff ht q)) then false
 else r.has (atX p.x q.x (size (zOff ht q)) (size (zOff ht p))) (atX p.y q.y (size (zOff ht q)) (size (zOff ht p))) (atX p.d q.d (size (zOff ht q)) (size (zOff ht p)))
def onX (a b:Int) (g f:Int):Int:=Qa Qb (Qa Qb (a*g)-Qa Qb (b*f))
def blkR (r:Rc) (ht:Int) (p q:Pt):Bool :=
 if zOff ht p=0/\zOff ht q=0 then Zu5 r p.pl q.pl
 else if 0<=Qa Qb (sgn (zOff ht p)*sgn (zOff ht q)) then false
 else if onX p.d q.d (zOff ht q) (zOff ht p)<0 then r.has (Qa Qb (0-onX p.x q.x (zOff ht q) (zOff ht p))) (Qa Qb (0-onX p.y q.y (zOff ht q) (zOff ht p))) (Qa Qb (0-onX p.d q.d (zOff ht q) (zOff ht p)))
 else r.has (onX p.x q.x (zOff ht q) (zOff ht p)) (onX p.y q.y (zOff ht q) (zOff ht p)) (onX p.d q.d (zOff ht q) (zOff ht p))
theorem x_bd {a d f:Int} (hd:0<d/\d<=100000) (ha : -(5000*d)<=a/\a<=5000*d) (hf : -1000000000<=f/\f<=1000000000) : -500000000000000000<=a*f/\a*f<=500000000000000000:=by
 have:=Zn (a:=a) (b:=f) (A:=500000000) (B:=1000000000) (by omega) (by omega)
 omega
theorem d_bd {d f:Int} (hd:0<d/\d<=100000) (hf : -1000000000<=f/\f<=1000000000) : -100000000000000<=d*f/\d*f<=100000000000000:=by
 have:=Zn (a:=d) (b:=f) (A:=100000) (B:=1000000000) (by omega) (by omega)
 omega
theorem Yfl {ht:Int} (hh:0<=ht/\ht<=5000) {p q:Pt} (hp:PtH p) (hq:PtH q):(p.z=Qa Qb (ht*p.d)/\q.z=Qa Qb (ht*q.d))↔(p.z-ht*p.d=0/\q.z-ht*q.d=0):=by
 rw [(Zhm hh hp).2.1,(Zhm hh hq).2.1]; omega
theorem Ybs {r:Rc} (hr:RcOk r) {ht:Int} (hh:0<=ht/\ht<=5000) {p q:Pt} (hp:PtH p) (hq:PtH q):blkP r ht p q=true↔blkS r ht p q:=by
 obtain ⟨e1,_,b1⟩:=Zhm hh hp
 obtain ⟨e2,_,b2⟩:=Zhm hh hq
 unfold blkP
 simp only [Yfl hh hp hq]
 rw [e1,e2]
 by_cases h0:p.z-ht*p.d=0/\q.z-ht*q.d=0
 ·rw [if_pos h0,Zp9 h0.1 h0.2,Zyl hr hp.r hq.r]
 rw [if_neg h0,Zew]
 by_cases h1:0<=sgn (p.z-ht*p.d)*sgn (q.z-ht*q.d)
 ·rw [if_pos h1]
  exact ⟨fun h=>by simp at h,fun h=>absurd h (Zp8 h0 h1)⟩
 rw [if_neg h1]
 have h2:=sgn_mul_neg.1 (show sgn (p.z-ht*p.d)*sgn (q.z-ht*q.d)<0 by omega)
 generalize hf:p.z-ht*p.d=f at *
 generalize hg:q.z-ht*q.d=g at *
 have hp1:=hp.r
 have hq1:=hq.r
 have x1:=x_bd (f:=g) ⟨hp1.d0,hp1.d1⟩ hp1.x (by omega)
 have x2:=x_bd (f:=f) ⟨hq1.d0,hq1.d1⟩ hq1.x (by omega)
 have y1:=x_bd (f:=g) ⟨hp1.d0,hp1.d1⟩ hp1.y (by omega)
 have y2:=x_bd (f:=f) ⟨hq1.d0,hq1.d1⟩ hq1.y (by omega)
 have d1:=d_bd (f:=g) ⟨hp1.d0,hp1.d1⟩ (by omega)
 have d2:=d_bd (f:=f) ⟨hq1.d0,hq1.d1⟩ (by omega)
 rcases h2 with h2|h2
 ·have s1:size g=g:=by rw [Zc2 (by omega),if_neg (by omega)]
  have s2:size f = -f:=by rw [Zc2 (by omega),if_pos (by omega)]
  have ax:∀ a b:Int,(-500000000000000000<=a*g/\a*g<=500000000000000000)->(-500000000000000000<=b*f/\b*f<=500000000000000000)->atX a b (size g) (size f)=a*g-b*f:=by
   intro a b k1 k2
   unfold atX
   rw [s1,s2,Sq,W_eq (n:=a*g) (by omega) (by omega),W_eq (n:=-(b*f)) (by omega) (by omega),W_eq (by omega) (by omega)]
   omega
  rw [ax _ _ x1 x2,ax _ _ y1 y2,ax _ _ (by omega) (by omega),Zg9 hr hp1 hq1 h2 (by omega),Zfc hf hg h2]
 ·have s1:size g = -g:=by rw [Zc2 (by omega),if_pos (by omega)]
  have s2:size f=f:=by rw [Zc2 (by omega),if_neg (by omega)]
  have ax:∀ a b:Int,(-500000000000000000<=a*g/\a*g<=500000000000000000)->(-500000000000000000<=b*f/\b*f<=500000000000000000)->atX a b (size g) (size f)=b*f-a*g:=by
   intro a b k1 k2
   unfold atX
   rw [s1,s2,Sq,W_eq (n:=b*f) (by omega) (by omega),W_eq (n:=-(a*g)) (by omega) (by omega),W_eq (by omega) (by omega)]
   omega
  rw [ax _ _ x1 x2,ax _ _ y1 y2,ax _ _ (by omega) (by omega),Zg9 hr hq1 hp1 (by omega) (by omega),Zp7,Zfc hg hf (by omega)]
theorem Ybr {r:Rc} (hr:RcOk r) {ht:Int} (hh:0<=ht/\ht<=5000) {p q:Pt} (hp:PtH p) (hq:PtH q):blkR r ht p q=true↔blkS r ht p q:=by
 obtain ⟨e1,_,b1⟩:=Zhm hh hp
 obtain ⟨e2,_,b2⟩:=Zhm hh hq
 unfold blkR
 rw [e1,e2]
 by_cases h0:p.z-ht*p.d=0/\q.z-ht*q.d=0
 ·rw [if_pos h0,Zp9 h0.1 h0.2]
  exact Zxz (p:=p.pl) (q:=q.pl) hp.r.d0 hq.r.d0
 rw [if_neg h0,Zew]
 by_cases h1:0<=sgn (p.z-ht*p.d)*sgn (q.z-ht*q.d)
 ·rw [if_pos h1]
  exact ⟨fun h=>by simp at h,fun h=>absurd h (Zp8 h0 h1)⟩
 rw [if_neg h1]
 have h2:=sgn_mul_neg.1 (show sgn (p.z-ht*p.d)*sgn (q.z-ht*q.d)<0 by omega)
 generalize hf:p.z-ht*p.d=f at *
 generalize hg:q.z-ht*q.d=g at *
 have hp1:=hp.r
 have hq1:=hq.r
 have x1:=x_bd (f:=g) ⟨hp1.d0,hp1.d1⟩ hp1.x (by omega)
 have x2:=x_bd (f:=f) ⟨hq1.d0,hq1.d1⟩ hq1.x (by omega)
 have y1:=x_bd (f:=g) ⟨hp1.d0,hp1.d1⟩ hp1.y (by omega)
 have y2:=x_bd (f:=f) ⟨hq1.d0,hq1.d1⟩ hq1.y (by omega)
 have d1:=d_bd (f:=g) ⟨hp1.d0,hp1.d1⟩ (by omega)
 have d2:=d_bd (f:=f) ⟨hq1.d0,hq1.d1⟩ (by omega)
 have ax:∀ a b:Int,(-500000000000000000<=a*g/\a*g<=500000000000000000)->(-500000000000000000<=b*f/\b*f<=500000000000000000)->onX a b g f=a*g-b*f/\Qa Qb (0-(a*g-b*f))=b*f-a*g:=by
  intro a b k1 k2
  unfold onX
  rw [W_eq (n:=a*g) (by omega) (by omega),W_eq (n:=b*f) (by omega) (by omega),W_eq (n:=a*g-b*f) (by omega) (by omega),W_eq (by omega) (by omega)]
  omega
 rw [(ax _ _ x1 x2).1,(ax _ _ y1 y2).1,(ax p.d q.d (by omega) (by omega)).1,(ax _ _ x1 x2).2,(ax _ _ y1 y2).2,(ax p.d q.d (by omega) (by omega)).2]
 rcases h2 with h2|h2
 ·have k1:=Rq hp1.d0 h2.2
  have k2:=Om hq1.d0 h2.1
  rw [if_neg (by omega),Zg9 hr hp1 hq1 h2 (by omega),Zfc hf hg h2]
 ·have k1:=Om hp1.d0 h2.2
  have k2:=Rq hq1.d0 h2.1
  rw [if_pos (by omega),Zg9 hr hq1 hp1 (by omega) (by omega),Zp7,Zfc hg hf (by omega)]
theorem Yhu {r:Rc} (hr:RcOk r) {ht:Int} (hh:0<=ht/\ht<=5000) {p q:Pt} (hp:PtH p) (hq:PtH q):blkP r ht p q=blkR r ht p q:=by
 rw [Bool.eq_iff_iff,Ybs hr hh hp hq,Ybr hr hh hp hq]
abbrev U (n:Int):AV:=.int .u64 n
abbrev wayA (p q:Pt):AV:=.agg [I p.x,I p.y,I p.z,I p.d,I q.x,I q.y,I q.z,I q.d]
theorem c204 (p q:Pt):PCall Tryz.prog 287 [wayA p q] ⟨.tup [I (Zqn p q),I (Zqm p q)],[]⟩:=by
 refine bs.pv (sx:=nos) Zc Tryz.func287 (by kernel_rfl) (by kernel_rfl) rfl ?_
 repeat'(first|refine wk0 ?_|(refine wk2 ?_ ?_<;>intro _)|refine wk4 ?_|fail);all_goals(conv=>whnf)
 exact Zg rfl rfl
theorem c207 (fr den to oth a b:Int):PCall Tryz.prog 288 [I fr,I den,I to,I oth,I a,I b] ⟨Bo (ovl fr den to oth a b),[]⟩:=by
 refine bs.pv (sx:=nos) Zc Tryz.func288 (by kernel_rfl) (by kernel_rfl) rfl ?_
 repeat'(first|refine wk0 ?_|(refine wk2 ?_ ?_<;>intro _)|refine wk4 ?_|fail);all_goals(conv=>whnf)
 all_goals (refine Za ?_; simp_all [ovl]<;>(intro _; omega))
theorem c182 (p q:Pt):PCall Tryz.prog 263 [wayA p q] ⟨.tup [I (midX p q),I (midY p q),I (midD p q)],[]⟩:=by
 refine bs.pv (sx:=nos) Zc Tryz.func263 (by kernel_rfl) (by kernel_rfl) rfl ?_
 repeat'(first|refine wk0 ?_|(refine wk2 ?_ ?_<;>intro _)|refine wk4 ?_|fail);all_goals(conv=>whnf)
 exact Zg rfl rfl
def u64 (n:Int):Prop:=0<=n/\n<18446744073709551616
theorem mkN (a:Nat) (ha:a<18446744073709551616):Qa Rx (((Su IntKind.u64.bits (a:Int) &&& Su IntKind.u64.bits 4294967295).toNat:Nat):Int)=((a%4294967296:Nat):Int):=by
 have h:=bits_and_u64_nat a 4294967295 ha (by omega)
 have e:a &&& 4294967295=a%4294967296:=Nat.and_two_pow_sub_one_eq_mod a 32
 rw [e] at h
 exact h
theorem fdN (a:Nat):(a:Int).fdiv (2 ^ min (Sr 32) IntKind.u64.bits)=((a / 4294967296:Nat):Int):=by
 rw [show (2 ^ min (Sr 32) IntKind.u64.bits:Int)=4294967296 from rfl,Int.fdiv_eq_ediv_of_nonneg _ (by omega)]; omega
theorem mulN (a b:Nat):(a:Int)*(b:Int)=((a*b:Nat):Int):=(Int.natCast_mul a b).symm
theorem addN (a b:Nat):(a:Int)+(b:Int)=((a+b:Nat):Int):=(Int.natCast_add a b).symm
theorem Znz (a:Nat) (ha:a<18446744073709551616):Qa Rx (a:Int)=(a:Int):=by rw [Hj]; omega
theorem Yh3 (a:Nat):Qa Rx (a:Int)=((a%18446744073709551616:Nat):Int):=by rw [Hj]; omega
theorem Yap (x y:Nat) (hx:x<18446744073709551616) (hy:y<18446744073709551616):AV.tup [AV.int Rx (Qa Rx (Qa Rx (Qa Rx (((x:Int)).fdiv (2 ^ min (Sr 32) IntKind.u64.bits)*((y:Int)).fdiv (2 ^ min (Sr 32) IntKind.u64.bits))+((Qa Rx (Qa Rx (((x:Int)).fdiv (2 ^ min (Sr 32) IntKind.u64.bits)*Qa Rx ((Su IntKind.u64.bits ((y:Int)) &&& Su IntKind.u64.bits 4294967295).toNat:Int))+((Qa Rx ((Qa Rx ((Su IntKind.u64.bits ((x:Int)) &&& Su IntKind.u64.bits 4294967295).toNat:Int))*(Qa Rx ((Su IntKind.u64.bits ((y:Int)) &&& Su IntKind.u64.bits 4294967295).toNat:Int)))).fdiv (2 ^ min (Sr 32) IntKind.u64.bits)))).fdiv (2 ^ min (Sr 32) IntKind.u64.bits)))+((Qa Rx (Qa Rx ((Su IntKind.u64.bits (Qa Rx (Qa Rx (((x:Int)).fdiv (2 ^ min (Sr 32) IntKind.u64.bits)*Qa Rx ((Su IntKind.u64.bits ((y:Int)) &&& Su IntKind.u64.bits 4294967295).toNat:Int))+((Qa Rx ((Qa Rx ((Su IntKind.u64.bits ((x:Int)) &&& Su IntKind.u64.bits 4294967295).toNat:Int))*(Qa Rx ((Su IntKind.u64.bits ((y:Int)) &&& Su IntKind.u64.bits 4294967295).toNat:Int)))).fdiv (2 ^ min (Sr 32) IntKind.u64.bits)))) &&& Su IntKind.u64.bits 4294967295).toNat:Int)+Qa Rx (Qa Rx ((Su IntKind.u64.bits ((x:Int)) &&& Su IntKind.u64.bits 4294967295).toNat:Int)*((y:Int)).fdiv (2 ^ min (Sr 32) IntKind.u64.bits)))).fdiv (2 ^ min (Sr 32) IntKind.u64.bits)))),AV.int Rx (Qa Rx ((x:Int)*(y:Int)))]=AV.tup [U ((x:Int)*(y:Int) / 18446744073709551616),U ((x:Int)*(y:Int)%18446744073709551616)]:=by
 obtain ⟨bd,bt,bw,hhi⟩:=Go.Lib.mul64_hi x y hx hy
 have ba:=Ja (a:=x / 4294967296) (b:=y / 4294967296) (by omega) (by omega)
 have bb:=Ja (a:=x / 4294967296) (b:=y%4294967296) (by omega) (by omega)
 have bc:=Ja (a:=x%4294967296) (b:=y / 4294967296) (by omega) (by omega)
 have ba' : x / 4294967296*(y / 4294967296)<18446744073709551616:=by omega
 have bb' : x / 4294967296*(y%4294967296)<18446744073709551616:=by omega
 have bc' : x%4294967296*(y / 4294967296)<18446744073709551616:=by omega
 have bh1:x / 4294967296*(y / 4294967296)+(x / 4294967296*(y%4294967296)+x%4294967296*(y%4294967296) / 4294967296) / 4294967296<18446744073709551616:=by omega
 have bh:x / 4294967296*(y / 4294967296)+(x / 4294967296*(y%4294967296)+x%4294967296*(y%4294967296) / 4294967296) / 4294967296+((x / 4294967296*(y%4294967296)+x%4294967296*(y%4294967296) / 4294967296)%4294967296+x%4294967296*(y / 4294967296)) / 4294967296<18446744073709551616:=by omega
 simp only [mkN x hx,mkN y hy,fdN,mulN,addN,Znz _ bd,Znz _ bb',Znz _ bt,mkN _ bt,Znz _ bc',Znz _ bw,Znz _ ba',Znz _ bh1,Znz _ bh,Yh3 (x*y)]
 rw [hhi]
 rfl
theorem c216 {x y:Int} (hx:u64 x) (hy:u64 y):PCall Tryz.prog 305 [U x,U y] ⟨.tup [U (x*y / 18446744073709551616),U (x*y%18446744073709551616)],[]⟩:=by
 refine bs.pv (sx:=nos) Zc Tryz.func305 (by kernel_rfl) (by kernel_rfl) rfl ?_
 repeat'(first|refine wk1 ?_|(refine wk2 ?_ ?_<;>intro _)|refine wk4 ?_|fail);all_goals(conv=>whnf)
 refine Zg ?_ rfl
 obtain ⟨h0,hx⟩:=hx
 obtain ⟨h1,hy⟩:=hy
 obtain ⟨a,rfl⟩:=Hk h0
 obtain ⟨b,rfl⟩:=Hk h1
 exact Yap a b (by omega) (by omega)
theorem Zne {a b:Int}:sgn (a*b)=sgn a*sgn b:=by
 unfold sgn
 rcases Tc a 0 with ha|ha|ha<;>rcases Tc b 0 with hb|hb|hb
 ·have:=Int.mul_pos_of_neg_of_neg ha hb
  rw [if_pos this,if_neg (by omega),if_pos ha,if_neg (by omega),if_pos hb]; rfl
 ·subst hb; simp
 ·have:=Jf ha hb
  rw [if_neg (by omega),if_pos this,if_neg (by omega),if_pos ha,if_pos hb]; rfl
 ·subst ha; simp
 ·subst ha; simp
 ·subst ha; simp
 ·have:=Om ha hb
  rw [if_neg (by omega),if_pos this,if_pos ha,if_neg (by omega),if_pos hb]; rfl
 ·subst hb; simp
 ·have:=Rq ha hb
  rw [if_pos this,if_pos ha,if_pos hb]; rfl
theorem Ziy {a:Int} (h:i64 a):Qa Rx (size a)=(a.natAbs:Int)/\u64 (a.natAbs:Int):=by
 have hs:=Zv8 h
 obtain ⟨h1,h2⟩:=h
 rw [hs]
 refine ⟨?_,?_⟩
 ·simp only [Tp,Hj]; omega
 ·unfold u64; omega
theorem Zzf (a b:Int):((a.natAbs:Int)*(b.natAbs:Int))=(a*b)\/((a.natAbs:Int)*(b.natAbs:Int)) = -(a*b):=by
 have:=Int.natAbs_mul a b
 omega
theorem Zys {a b c d X Y:Int} (hX:(a.natAbs:Int)*(b.natAbs:Int)=X) (hY:(c.natAbs:Int)*(d.natAbs:Int)=Y) (h:sgn a*sgn b=sgn c*sgn d) :
  (X=Y->cmpP a b c d=0)/\(Y<X->cmpP a b c d=sgn a*sgn b)/\(X<Y->cmpP a b c d = -(sgn a*sgn b)):=by
 have h1:=Zzf a b
 have h2:=Zzf c d
 have p1:0<=X:=by rw [<-hX]; exact Rj (by omega) (by omega)
 have p2:0<=Y:=by rw [<-hY]; exact Rj (by omega) (by omega)
 have s1:=Zne (a:=a) (b:=b)
 have s2:=Zne (a:=c) (b:=d)
 unfold cmpP
 rw [hX] at h1
 rw [hY] at h2
 rw [<-s1]
 rw [<-s1,<-s2] at h
 clear s1 s2 hX hY
 generalize a*b=u at *
 generalize c*d=v at *
 unfold sgn at *
 refine ⟨fun e=>?_,fun e=>?_,fun e=>?_⟩
 ·repeat' split at h
  all_goals repeat' split
  all_goals omega
 ·repeat' split at h
  all_goals repeat' split
  all_goals omega
 ·repeat' split at h
  all_goals repeat' split
  all_goals omega
theorem Ybl {a b c d:Int} (h:sgn a*sgn b≠sgn c*sgn d):cmpP a b c d=sgn (sgn a*sgn b-sgn c*sgn d):=by
 rw [<-Zne,<-Zne] at h ⊢
 unfold cmpP
 generalize a*b=u at *
 generalize c*d=v at *
 unfold sgn at *
 repeat' split at h
 all_goals repeat' split
 all_goals omega
instance (n:Int):Decidable (u64 n):=by unfold u64; exact inferInstance
def r216:List AV->Option PRes
 | [.int .u64 x,.int .u64 y]=>asr (decide (u64 x/\u64 y)) ⟨.tup [U (x*y / 18446744073709551616),U (x*y%18446744073709551616)],[]⟩
 | _=>none
def kF1:PC:=ins 305 r216 (ins 168 r115 (ins 169 r116 pt0))
theorem Ycx:PCOK Tryz.prog kF1:=by
 refine Zl (fun a res h=>?_) (Zl (fun a res h=>?_) (Zl (fun a res h=>?_) Zc))
 ·unfold r216 at h; split at h
  ·obtain ⟨h1,rfl⟩:=Zam h
   have:=of_decide_eq_true h1
   exact c216 this.1 this.2
  ·cases h
 ·unfold r115 at h; split at h<;>cases h; exact c115 _
 ·unfold r116 at h; split at h<;>cases h; exact c116 _
theorem c215 {a b c d:Int} (ha:i64 a) (hb:i64 b) (hc:i64 c) (hd:i64 d):PCall Tryz.prog 296 [I a,I b,I c,I d] ⟨I (cmpP a b c d),[]⟩:=by
 obtain ⟨a1,a2⟩:=Ziy ha
 obtain ⟨b1,b2⟩:=Ziy hb
 obtain ⟨c1,c2⟩:=Ziy hc
 obtain ⟨d1,d2⟩:=Ziy hd
 by_cases h:sgn a*sgn b=sgn c*sgn d
 ·have hX:(a.natAbs:Int)*(b.natAbs:Int)=(a.natAbs:Int)*(b.natAbs:Int):=rfl
  have hY:(c.natAbs:Int)*(d.natAbs:Int)=(c.natAbs:Int)*(d.natAbs:Int):=rfl
  obtain ⟨k1,k2,k3⟩:=Zys hX hY h
  have t1:asr (decide (u64 (Qa Rx (size a))/\u64 (Qa Rx (size b)))) ⟨.tup [U (Qa Rx (size a)*Qa Rx (size b) / 18446744073709551616),U (Qa Rx (size a)*Qa Rx (size b)%18446744073709551616)],[]⟩=some ⟨.tup [U ((a.natAbs:Int)*(b.natAbs:Int) / 18446744073709551616),U ((a.natAbs:Int)*(b.natAbs:Int)%18446744073709551616)],[]⟩:=by
   rw [a1,b1,Vq ⟨a2,b2⟩]
  have t2:asr (decide (u64 (Qa Rx (size c))/\u64 (Qa Rx (size d)))) ⟨.tup [U (Qa Rx (size c)*Qa Rx (size d) / 18446744073709551616),U (Qa Rx (size c)*Qa Rx (size d)%18446744073709551616)],[]⟩=some ⟨.tup [U ((c.natAbs:Int)*(d.natAbs:Int) / 18446744073709551616),U ((c.natAbs:Int)*(d.natAbs:Int)%18446744073709551616)],[]⟩:=by
   rw [c1,d1,Vq ⟨c2,d2⟩]
  have w1:Qa Qb (sgn a*sgn b)=Qa Qb (sgn c*sgn d):=by rw [h]
  have w2:=Zew a b
  have hr : -1<=sgn a*sgn b/\sgn a*sgn b<=1:=by
   have:=Zn (A:=1) (B:=1) (Zif a) (Zif b); omega
  have w3:Qa Qb (0-Qa Qb (sgn a*sgn b)) = -(sgn a*sgn b):=by rw [w2,W_eq (by omega) (by omega)]; omega
  generalize (a.natAbs:Int)*(b.natAbs:Int)=X at *
  generalize (c.natAbs:Int)*(d.natAbs:Int)=Y at *
  generalize cmpP a b c d=r at *
  refine bs.pv (sx:=nos) Ycx Tryz.func296 (by kernel_rfl) (by kernel_rfl) rfl ?_
  rcases Tc X Y with hxy|hxy|hxy
  ·rw [k3 hxy,<-w3]
   repeat'(first|refine wk1 ?_|(refine wk2 ?_ ?_<;>intro _)|refine wk4 ?_|fail);all_goals(conv=>whnf)
   all_goals first
    | exact Zb rfl
    | (exfalso; simp_all; done)
    | (exfalso; simp_all; omega)
  ·rw [k1 hxy]
   subst hxy
   repeat'(first|refine wk1 ?_|(refine wk2 ?_ ?_<;>intro _)|refine wk4 ?_|fail);all_goals(conv=>whnf)
   all_goals first
    | exact Zb rfl
    | (exfalso; simp_all; done)
    | (exfalso; simp_all; omega)
  ·rw [k2 hxy,<-w2]
   repeat'(first|refine wk1 ?_|(refine wk2 ?_ ?_<;>intro _)|refine wk4 ?_|fail);all_goals(conv=>whnf)
   all_goals first
    | exact Zb rfl
    | (exfalso; simp_all; done)
    | (exfalso; simp_all; omega)
 ·have hr1:=Zn (A:=1) (B:=1) (Zif a) (Zif b)
  have hr2:=Zn (A:=1) (B:=1) (Zif c) (Zif d)
  have w:sgn (Qa Qb (Qa Qb (sgn a*sgn b)-Qa Qb (sgn c*sgn d)))=cmpP a b c d:=by
   rw [Ybl h,Zew,Zew,W_eq (by omega) (by omega)]
  have w2:¬ Qa Qb (sgn a*sgn b)=Qa Qb (sgn c*sgn d):=by rw [Zew,Zew]; exact h
  refine bs.pv (sx:=nos) Ycx Tryz.func296 (by kernel_rfl) (by kernel_rfl) rfl ?_
  rw [<-w]
  repeat'(first|refine wk1 ?_|(refine wk2 ?_ ?_<;>intro _)|refine wk4 ?_|fail);all_goals(conv=>whnf)
  exact Zb rfl
def r204:List AV->Option PRes
 | [.agg [.int .i64 a,.int .i64 b,.int .i64 c,.int .i64 d,.int .i64 x,.int .i64 y,.int .i64 z,.int .i64 w]]=>some ⟨.tup [I (Zqn ⟨a,b,c,d⟩ ⟨x,y,z,w⟩),I (Zqm ⟨a,b,c,d⟩ ⟨x,y,z,w⟩)],[]⟩
 | _=>none
def r207:List AV->Option PRes
 | [.int .i64 fr,.int .i64 den,.int .i64 to,.int .i64 oth,.int .i64 a,.int .i64 b]=>some ⟨Bo (ovl fr den to oth a b),[]⟩
 | _=>none
def r182:List AV->Option PRes
 | [.agg [.int .i64 a,.int .i64 b,.int .i64 c,.int .i64 d,.int .i64 x,.int .i64 y,.int .i64 z,.int .i64 w]]=>some ⟨.tup [I (midX ⟨a,b,c,d⟩ ⟨x,y,z,w⟩),I (midY ⟨a,b,c,d⟩ ⟨x,y,z,w⟩),I (midD ⟨a,b,c,d⟩ ⟨x,y,z,w⟩)],[]⟩
 | _=>none
def kF2:PC:=ins 287 r204 (ins 288 r207 (ins 263 r182 kG3))
theorem Ycw:PCOK Tryz.prog kF2:=by
 refine Zl (fun a res h=>?_) (Zl (fun a res h=>?_) (Zl (fun a res h=>?_) Vx))
 ·unfold r204 at h; split at h<;>cases h; exact c204 ⟨_,_,_,_⟩ ⟨_,_,_,_⟩
 ·unfold r207 at h; split at h<;>cases h; exact c207 _ _ _ _ _ _
 ·unfold r182 at h; split at h<;>cases h; exact c182 ⟨_,_,_,_⟩ ⟨_,_,_,_⟩
theorem c208 (p q:Pt) (x y:Int):PCall Tryz.prog 289 [wayA p q,P2 x y] ⟨I (Zhr p q x y),[]⟩:=by
 have hk:=Zf (c215 (a:=Zqn p q) (b:=Qa Qb (Qa Qb (y*p.d)-p.y)) (c:=Zqm p q) (d:=Qa Qb (Qa Qb (x*p.d)-p.x)) (Zu2 _) (Zu2 _) (Zu2 _) (Zu2 _)) Ycw
 refine bs.pv (sx:=nos) hk Tryz.func289 (by kernel_rfl) (by kernel_rfl) rfl ?_
 repeat'(first|refine wk0 ?_|(refine wk2 ?_ ?_<;>intro _)|refine wk4 ?_|fail);all_goals(conv=>whnf)
 exact Zb rfl
def r208:List AV->Option PRes
 | [.agg [.int .i64 a,.int .i64 b,.int .i64 c,.int .i64 d,.int .i64 x,.int .i64 y,.int .i64 z,.int .i64 w],.agg [.int .i64 u,.int .i64 v]]=>some ⟨I (Zhr ⟨a,b,c,d⟩ ⟨x,y,z,w⟩ u v),[]⟩
 | _=>none
def kF3:PC:=ins 289 r208 kF2
theorem Yg4:PCOK Tryz.prog kF3:=by
 refine Zl (fun a res h=>?_) Ycw
 unfold r208 at h; split at h<;>cases h; exact c208 ⟨_,_,_,_⟩ ⟨_,_,_,_⟩ _ _
theorem c181 (p q:Pt) (w:Wl):PCall Tryz.prog 262 [wayA p q,w.av] ⟨Bo (touP p q w),[]⟩:=by
 obtain ⟨pa,pb,pc,pd⟩:=p
 obtain ⟨qa,qb,qc,qd⟩:=q
 obtain ⟨wn,wa,wb,wc,wd⟩:=w
 refine bs.pv (sx:=nos) Yg4 Tryz.func262 (by kernel_rfl) (by kernel_rfl) rfl ?_
 repeat'(first|refine wk0 ?_|(refine wk2 ?_ ?_<;>intro _)|refine wk4 ?_|fail);all_goals(conv=>whnf)
 all_goals exact Za (by simp_all [touP]<;>omega)
def r181:List AV->Option PRes
 | [.agg [.int .i64 a,.int .i64 b,.int .i64 c,.int .i64 d,.int .i64 x,.int .i64 y,.int .i64 z,.int .i64 w],.agg [.int .i64 n,.int .i64 fx,.int .i64 fy,.int .i64 tx,.int .i64 ty]]=>some ⟨Bo (touP ⟨a,b,c,d⟩ ⟨x,y,z,w⟩ ⟨n,fx,fy,tx,ty⟩),[]⟩
 | _=>none
def Yf5:List AV->Option PRes
 | [.agg [.int .i64 a,.int .i64 b,.int .i64 c,.int .i64 d],.int .i64 x,.int .i64 y,.int .i64 z]=>some ⟨Bo (Rc.has ⟨a,b,c,d⟩ x y z),[]⟩
 | _=>none
def Yf6:List AV->Option PRes
 | [.agg [.int .i64 a,.int .i64 b,.int .i64 c,.int .i64 d],.int .i64 x,.int .i64 y,.int .i64 z]=>some ⟨Bo (Rc.holds ⟨a,b,c,d⟩ x y z),[]⟩
 | _=>none
def kF4:PC:=ins 262 r181 (ins 292 Yf5 (ins 259 Yf6 (ins 263 r182 (ins 258 r170 kG3))))
theorem Zs7:PCOK Tryz.prog kF4:=by
 refine Zl (fun a res h=>?_) (Zl (fun a res h=>?_) (Zl (fun a res h=>?_) (Zl (fun a res h=>?_) (Zl (fun a res h=>?_) Vx))))
 ·unfold r181 at h; split at h<;>cases h; exact c181 ⟨_,_,_,_⟩ ⟨_,_,_,_⟩ ⟨_,_,_,_,_⟩
 ·unfold Yf5 at h; split at h<;>cases h; exact c211 ⟨_,_,_,_⟩ _ _ _
 ·unfold Yf6 at h; split at h<;>cases h; exact c193 ⟨_,_,_,_⟩ _ _ _
 ·unfold r182 at h; split at h<;>cases h; exact c182 ⟨_,_,_,_⟩ ⟨_,_,_,_⟩
 ·unfold r170 at h; split at h<;>cases h; exact c170 _ _ _ _ _ _ _
theorem c209 (r:Rc) (p q:Pt):PCall Tryz.prog 290 [r.av,wayA p q] ⟨Bo (Zvb r p q),[]⟩:=by
 obtain ⟨ra,rb,rc,rd⟩:=r
 obtain ⟨pa,pb,pc,pd⟩:=p
 obtain ⟨qa,qb,qc,qd⟩:=q
 refine bs.pv (sx:=nos) Zs7 Tryz.func290 (by kernel_rfl) (by kernel_rfl) rfl ?_
 repeat'(first|refine wk0 ?_|(refine wk2 ?_ ?_<;>intro _)|refine wk4 ?_|fail);all_goals(conv=>whnf)
 all_goals try (refine Wd 5 ?_)
 iterate 5
  all_goals try (refine Ry (bs.av (sx:=nos) Zs7 ?_))
  repeat'(first|refine wk0 ?_|(refine wk2 ?_ ?_<;>intro _)|refine wk4 ?_|fail);all_goals(conv=>whnf)
 all_goals exact Za (by simp_all [Zvb,edgP])
def atP (ht:Int) (p q:Pt):Int × Int × Int × Bool:=if 0<=Qa Qb (sgn (zOff ht p)*sgn (zOff ht q)) then (0,0,0,false) else (atX p.x q.x (size (zOff ht q)) (size (zOff ht p)),atX p.y q.y (size (zOff ht q)) (size (zOff ht p)),atX p.d q.d (size (zOff ht q)) (size (zOff ht p)),true)
theorem c210 (ht:Int) (p q:Pt):PCall Tryz.prog 291 [wayA p q,I ht] ⟨.tup [I (atP ht p q).1,I (atP ht p q).2.1,I (atP ht p q).2.2.1,Bo (atP ht p q).2.2.2],[]⟩:=by
 refine bs.pv (sx:=nos) Vx Tryz.func291 (by kernel_rfl) (by kernel_rfl) rfl ?_
 unfold atP
 by_cases hc:0<=Qa Qb (sgn (zOff ht p)*sgn (zOff ht q))
 ·rw [if_pos hc]
  unfold zOff at hc
  repeat'(first|refine wk3 ?_|(refine wk2 ?_ ?_<;>intro _)|refine wk4 ?_|fail);all_goals(conv=>whnf)
  exact Zg rfl rfl
 ·rw [if_neg hc]
  unfold zOff at hc
  repeat'(first|refine wk3 ?_|(refine wk2 ?_ ?_<;>intro _)|refine wk4 ?_|fail);all_goals(conv=>whnf)
  exact Zg rfl rfl
def r210:List AV->Option PRes
 | [.agg [.int .i64 a,.int .i64 b,.int .i64 c,.int .i64 d,.int .i64 x,.int .i64 y,.int .i64 z,.int .i64 w],.int .i64 ht]=>some ⟨.tup [I (atP ht ⟨a,b,c,d⟩ ⟨x,y,z,w⟩).1,I (atP ht ⟨a,b,c,d⟩ ⟨x,y,z,w⟩).2.1,I (atP ht ⟨a,b,c,d⟩ ⟨x,y,z,w⟩).2.2.1,Bo (atP ht ⟨a,b,c,d⟩ ⟨x,y,z,w⟩).2.2.2],[]⟩
 | _=>none
def r209:List AV->Option PRes
 | [.agg [.int .i64 e,.int .i64 f,.int .i64 g,.int .i64 h],.agg [.int .i64 a,.int .i64 b,.int .i64 c,.int .i64 d,.int .i64 x,.int .i64 y,.int .i64 z,.int .i64 w]]=>some ⟨Bo (Zvb ⟨e,f,g,h⟩ ⟨a,b,c,d⟩ ⟨x,y,z,w⟩),[]⟩
 | _=>none
def kF5:PC:=ins 290 r209 (ins 291 r210 kF4)
theorem Yg3:PCOK Tryz.prog kF5:=by
 refine Zl (fun a res h=>?_) (Zl (fun a res h=>?_) Zs7)
 ·unfold r209 at h; split at h<;>cases h; exact c209 ⟨_,_,_,_⟩ ⟨_,_,_,_⟩ ⟨_,_,_,_⟩
 ·unfold r210 at h; split at h<;>cases h; exact c210 _ ⟨_,_,_,_⟩ ⟨_,_,_,_⟩
theorem c184 {h:Hal} {s:Stg} (g:Sit h s) {j:Nat} (hj:j<h.ks.length) (p q:Pt):PCall Tryz.prog 264 [.agg (stgL h s),I j,wayA p q] ⟨Bo (blkP h.ks[j].rc (Us h s j) p q),[]⟩:=by
 have hk:=Zf (c192 g hj) Yg3
 have e5:=Zb6 hj
 have l2:=Xi h.ks
 generalize Us h s j=ht at *
 generalize h.ks[j]=c at *
 unfold blkP
 by_cases hc:p.z=Qa Qb (ht*p.d)/\q.z=Qa Qb (ht*q.d)
 ·rw [if_pos hc]
  obtain ⟨h1,h2⟩:=hc
  refine bs.pv (sx:=nos) hk Tryz.func264 (by kernel_rfl) (by kernel_rfl) rfl ?_
  repeat'(first|refine wk3 ?_|(refine wk2 ?_ ?_<;>intro _)|refine wk4 ?_|fail);all_goals(conv=>whnf)
  exact Za rfl
 ·rw [if_neg hc]
  have hat:atP ht p q=if 0<=Qa Qb (sgn (zOff ht p)*sgn (zOff ht q)) then (0,0,0,false) else (atX p.x q.x (size (zOff ht q)) (size (zOff ht p)),atX p.y q.y (size (zOff ht q)) (size (zOff ht p)),atX p.d q.d (size (zOff ht q)) (size (zOff ht p)),true):=rfl
  have hk2:=Zf (c210 ht p q) hk
  rw [hat] at hk2
  clear hk hat
  have hc2:¬ p.z=Qa Qb (ht*p.d)\/(p.z=Qa Qb (ht*p.d) /\ ¬ q.z=Qa Qb (ht*q.d)):=by
   by_cases h1:p.z=Qa Qb (ht*p.d)
   ·exact .inr ⟨h1,fun h2=>hc ⟨h1,h2⟩⟩
   ·exact .inl h1
  clear hc
  by_cases hs:0<=Qa Qb (sgn (zOff ht p)*sgn (zOff ht q))
  ·rw [if_pos hs] at hk2 ⊢
   clear hs
   rcases hc2 with h1|⟨h1,h2⟩
   all_goals
    refine bs.pv (sx:=nos) hk2 Tryz.func264 (by kernel_rfl) (by kernel_rfl) rfl ?_
    repeat'(first|refine wk3 ?_|(refine wk2 ?_ ?_<;>intro _)|refine wk4 ?_|fail);all_goals(conv=>whnf)
    exact Za rfl
  ·rw [if_neg hs] at hk2 ⊢
   clear hs
   rcases hc2 with h1|⟨h1,h2⟩
   all_goals
    refine bs.pv (sx:=nos) hk2 Tryz.func264 (by kernel_rfl) (by kernel_rfl) rfl ?_
    repeat'(first|refine wk3 ?_|(refine wk2 ?_ ?_<;>intro _)|refine wk4 ?_|fail);all_goals(conv=>whnf)
    exact Za rfl
def zBad (h:Hal) (p q:Pt):Bool:=(decide (p.z=0)&&decide (q.z=0))||(decide (p.z=Qa Qb (h.ht*p.d))&&decide (q.z=Qa Qb (h.ht*q.d)))||decide (p.z<0)||decide (q.z<0)||decide (Qa Qb (h.ht*p.d)<p.z)||decide (Qa Qb (h.ht*q.d)<q.z)
def blkA (h:Hal) (s:Stg) (p q:Pt):Nat->List Can->Bool
 | _,[]=>false
 | j,c::l=>blkP c.rc (Us h s j) p q||blkA h s p q (j+1) l
def Zeo (h:Hal) (s:Stg) (p q:Pt):Bool:=!zBad h p q&&(!(wls h.cs).any (touP p q)&&(Yl h (midX p q) (midY p q) (midD p q) && !blkA h s p q 0 h.ks))
noncomputable abbrev blks (h:Hal) (s:Stg) (p q:Pt):List AV->Option PRes:=famA (fun j:Nat=>j<h.ks.length) (fun j=>[.agg (stgL h s),I j,wayA p q]) (fun j=>⟨Bo (blkP ((h.ks[j]?).getD ⟨⟨#[]⟩,⟨#[]⟩,0,0,0,0,[]⟩).rc (Us h s j) p q),[]⟩)
theorem Ybq {h:Hal} {s:Stg} {p q:Pt} {j:Nat} (hj:j<h.ks.length):blks h s p q [.agg (stgL h s),I j,wayA p q]=some ⟨Bo (blkP h.ks[j].rc (Us h s j) p q),[]⟩:=by
 have:=Zo (p:=fun j:Nat=>j<h.ks.length) (g:=fun j:Nat=>[.agg (stgL h s),I j,wayA p q]) (r:=fun j=>⟨Bo (blkP ((h.ks[j]?).getD ⟨⟨#[]⟩,⟨#[]⟩,0,0,0,0,[]⟩).rc (Us h s j) p q),[]⟩) (k:=j) (fun i hi=>by
  simp only [Qx,Tl,true_and,and_true] at hi
  have:i=j:=by omega
  subst this; rfl) hj
 refine this.trans ?_
 rw [Qe hj]; rfl
noncomputable def kF6 (h:Hal) (s:Stg) (p q:Pt):PC:=ins 264 (blks h s p q) (ins 260 (one [h.av,I (midX p q),I (midY p q),I (midD p q)] ⟨Bo (Yl h (midX p q) (midY p q) (midD p q)),[]⟩) kF4)
theorem Yg2 {h:Hal} {s:Stg} (g:Sit h s) (p q:Pt):PCOK Tryz.prog (kF6 h s p q):=Ya (fun j hj=>by rw [Qe hj]; exact c184 g hj p q) (Zf (c183 g.ok.f _ _ _) Zs7)
theorem c103 {h:Hal} {s:Stg} (g:Sit h s) (p q:Pt):PCall Tryz.prog 176 [.agg (stgL h s),wayA p q] ⟨Bo (Zeo h s p q),[]⟩:=by
 have hk:=Yg2 g p q
 refine bs.pv (sx:=nos) hk Tryz.func176 (by kernel_rfl) (by kernel_rfl) rfl ?_
 cases hz:zBad h p q with
 | true =>
  unfold Zeo
  rw [hz]
  repeat'(first|refine wk3 ?_|(refine wk2 ?_ ?_<;>intro _)|refine wk4 ?_|fail);all_goals(conv=>whnf)
  all_goals first
   | exact Za rfl
   | (exfalso; clear hk; simp_all [zBad]; done)
   | (exfalso; clear hk; simp_all [zBad]; omega)
 | false =>
  have e:Zeo h s p q=(!(wls h.cs).any (touP p q)&&(Yl h (midX p q) (midY p q) (midD p q) && !blkA h s p q 0 h.ks)):=by unfold Zeo; rw [hz]; rfl
  rw [e]
  clear e
  unfold zBad at hz
  simp only [Bool.or_eq_false_iff,Bool.and_eq_false_iff,decide_eq_false_iff_not] at hz
  obtain ⟨⟨⟨⟨⟨z1,z2⟩,z3⟩,z4⟩,z5⟩,z6⟩:=hz
  repeat'(first|refine wk3 ?_|(refine wk2 ?_ ?_<;>intro _)|refine wk4 ?_|fail);all_goals(conv=>whnf)
  all_goals try (exfalso; clear hk; simp_all; done)
  all_goals
   refine Rg.ren (env2:=[(2,.ptr 0 0 0),(4,.ptr 2 0 0),(9,.ptr 43 0 0),(92,.func 261 [h.av] [])]) (σ2:=⟨[(43,.row 8 [[I p.x,I p.y,I p.z,I p.d,I q.x,I q.y,I q.z,I q.d]] true false),(2,.row 1 [[Bo false]] true false),(0,.row 11 [stgL h s] true false)],44⟩) (Ren.of [] rfl (kps) (kps)) ?_
   clear z1 z2 z3 z4 z5 z6
   refine rngV (itW g.ok.f) rfl rfl rfl rfl (Zf1 (S:=Unit) (fun _=>[(43,.row 8 [[I p.x,I p.y,I p.z,I p.d,I q.x,I q.y,I q.z,I q.d]] true false),(2,.row 1 [[Bo false]] true false),(0,.row 11 [stgL h s] true false)]) 44 44 (fun xs _=>∃ l:List Wl,xs=l.map (fun w=>[w.av])/\(!l.any (touP p q)&&(Yl h (midX p q) (midY p q) (midD p q) && !blkA h s p q 0 h.ks))=(!(wls h.cs).any (touP p q)&&(Yl h (midX p q) (midY p q) (midD p q) && !blkA h s p q 0 h.ks))) ?_ ?_ _ () ⟨_,rfl,rfl⟩)
   ·rintro u us _ ⟨l,h1,h2⟩
    cases l with
    | nil=>simp at h1
    | cons w l =>
     simp only [Te,Qx] at h1
     obtain ⟨rfl,rfl⟩:=h1
     obtain ⟨wn,wa,wb,wc,wd⟩:=w
     rw [Na] at h2
     refine ⟨rfl,bs.av (sx:=nos) hk ?_⟩
     repeat'(first|refine wk3 ?_|(refine wk2 ?_ ?_<;>intro _)|refine wk4 ?_|fail);all_goals(conv=>whnf)
     refine Bd.mk (bs.av (sx:=nos) hk ?_)
     repeat'(first|refine wk3 ?_|(refine wk2 ?_ ?_<;>intro _)|refine wk4 ?_|fail);all_goals(conv=>whnf)
     ·rename_i hx
      rw [<-h2,hx]
      exact Za rfl
     ·rename_i hx
      rw [hx,Ph] at h2
      exact Ql ⟨(),[],rfl,kps,l,rfl,h2⟩
   ·rintro _ ⟨l,h1,h2⟩
    cases l with
    | cons w l=>simp at h1
    | nil =>
     rw [<-h2]
     clear h1 h2
     rw [List.any_nil]
     repeat'(first|refine wk3 ?_|(refine wk2 ?_ ?_<;>intro _)|refine wk4 ?_|fail);all_goals(conv=>whnf)
     ·rename_i hx
      have hx:Yl h (midX p q) (midY p q) (midD p q)=false:=by simpa using hx
      rw [hx]
      exact Za rfl
     ·rename_i hx
      have hx:Yl h (midX p q) (midY p q) (midD p q)=true:=by simpa using hx
      rw [hx]
      have l4:=Xi h.ks
      have f4:=g.ok.f.2.2.2.1
      refine Yb (S:=Nat × Int) (fun t=>h.ks.length-t.1) (fun t=>[(2,.ptr 0 0 0),(4,.ptr 2 0 0),(9,.ptr 43 0 0),(114,I (h.ks.map Can.av).length),(115,I t.2)]) (fun _=>[(43,.row 8 [[I p.x,I p.y,I p.z,I p.d,I q.x,I q.y,I q.z,I q.d]] true false),(2,.row 1 [[Bo false]] true false),(0,.row 11 [stgL h s] true false)]) 60 60 (fun t=>t.2=t.1/\t.1<=h.ks.length/\blkA h s p q t.1 (h.ks.drop t.1)=blkA h s p q 0 h.ks) (0,0) ⟨rfl,Nat.zero_le _,rfl⟩ (Qo rfl) [] rfl (kps) (kps) ?_
      rintro ⟨k,i⟩ ⟨hi,hkk,hh⟩
      dsimp only at hi hkk hh ⊢
      subst hi
      refine bs.av (sx:=nos) hk ?_
      by_cases hlt:k<h.ks.length
      ·rw [List.drop_eq_getElem_cons hlt,blkA] at hh
       have hb:=Ybq (p:=p) (q:=q) (s:=s) hlt
       generalize blkP h.ks[k].rc (Us h s k) p q=b at *
       cases b with
       | true =>
        rw [<-hh]
        repeat'(first|refine wk3 ?_|(refine wk2 ?_ ?_<;>intro _)|refine wk4 ?_|fail);all_goals(conv=>whnf)
        exact Za rfl
       | false =>
        rw [Ph] at hh
        repeat'(first|refine wk3 ?_|(refine wk2 ?_ ?_<;>intro _)|refine wk4 ?_|fail);all_goals(conv=>whnf)
        exact Ql ⟨(k+1,_),[],rfl,kps,kps,⟨Ze (by omega),hlt,hh⟩,by dsimp only; omega⟩
      ·rw [List.drop_of_length_le (by omega),blkA] at hh
       rw [<-hh]
       repeat'(first|refine wk3 ?_|(refine wk2 ?_ ?_<;>intro _)|refine wk4 ?_|fail);all_goals(conv=>whnf)
       exact Za rfl
def ptEq (p q:Pt):Bool:=decide (p.x=q.x)&&decide (p.y=q.y)&&decide (p.z=q.z)&&decide (p.d=q.d)
def wayE (h:Hal) (s:Stg) (p q:Pt):Int:=if serr h s=0 then (if Xm p=0 then (if Xm q=0 then (if ptEq p q then 11 else 0) else Xm q) else Xm p) else serr h s
abbrev sxF:FuncId->Bool:=fun f=>Qq f 159||Qq f 173||Qq f 174||Qq f 175
noncomputable abbrev ptEs:List AV->Option PRes:=famA (fun p:Pt=>p.wf) (fun p=>[p.av]) (fun p=>⟨I (Xm p),[]⟩)
theorem Zst {p:Pt} (h:p.wf):ptEs [p.av]=some ⟨I (Xm p),[]⟩ :=
 Zo (p:=fun p:Pt=>p.wf) (g:=fun p=>[p.av]) (r:=fun p=>⟨I (Xm p),[]⟩) (fun j hj=>by
  obtain ⟨a,b,c,d⟩:=j
  obtain ⟨a',b',c',d'⟩:=p
  simp only [Qx,AV.agg.injEq,Tl,true_and,and_true] at hj
  obtain ⟨rfl,rfl,rfl,rfl⟩:=hj
  rfl) h
theorem c37 {h:Hal} (hk:h.ok) {s:Stg} (hs:s.few) {p q:Pt} (hp:p.wf) (hq:q.wf):PCall Tryz.prog 125 [h.av,s.av,wayA p q] ⟨.tup [Bo (decide (wayE h s p q=0)&&Zeo h s p q),I (wayE h s p q)],[]⟩:=by
 have hk0:PCOK Tryz.prog (ins 164 ptEs (ins 172 (one [h.av,s.av] ⟨.tup [.agg (stgL h s),I (serr h s)],[]⟩) kG4)):=Ya (fun p hp=>c99 hp) (Zf (c83 hk hs) Zas)
 have t1:=Zst hp
 have t2:=Zst hq
 unfold wayE
 by_cases h0:serr h s=0
 ·have g:=Zlz hk hs h0
  rw [h0] at hk0
  rw [if_pos h0]
  have hk1:=Zf (c103 g p q) hk0
  clear hk0 h0
  generalize Zeo h s p q=fr at *
  generalize Xm p=e1 at *
  generalize Xm q=e2 at *
  by_cases h1:e1=0
  ·rw [if_pos h1]
   subst h1
   by_cases h2:e2=0
   ·rw [if_pos h2]
    subst h2
    have hx:(true ^^ (decide (p.x=q.x)&&(decide (p.y=q.y)&&(decide (p.z=q.z)&&(decide (p.d=q.d)&&true))))) = !ptEq p q:=by
     unfold ptEq
     cases decide (p.x=q.x)<;>cases decide (p.y=q.y)<;>cases decide (p.z=q.z)<;>cases decide (p.d=q.d)<;>rfl
    cases hq:ptEq p q with
    | true =>
     rw [hq] at hx
     have hu:unl (true ^^ (decide (p.x=q.x)&&(decide (p.y=q.y)&&(decide (p.z=q.z)&&(decide (p.d=q.d)&&true))))) 11=11:=by rw [hx]; rfl
     clear hx hq
     refine bs.pv (sx:=sxF) hk1 Tryz.func125 (by kernel_rfl) (by kernel_rfl) rfl ?_
     repeat'(first|refine wk3 ?_|(refine wk2 ?_ ?_<;>intro _)|refine wk4 ?_|fail);all_goals(conv=>whnf)
     refine bs.sv (sx:=sxF) hk1 Tryz.func159 (by kernel_rfl) (by kernel_rfl) ?_
     refine Wd 4 ?_
     refine Ry (bs.av (sx:=sxF) hk1 ?_)
     repeat'(first|refine wk3 ?_|(refine wk2 ?_ ?_<;>intro _)|refine wk4 ?_|fail);all_goals(conv=>whnf)
     refine bs.sv (sx:=sxF) hk1 Tryz.func173 (by kernel_rfl) (by kernel_rfl) ?_
     repeat'(first|refine wk3 ?_|(refine wk2 ?_ ?_<;>intro _)|refine wk4 ?_|fail);all_goals(conv=>whnf)
     refine Ry (bs.av (sx:=sxF) hk1 ?_)
     repeat'(first|refine wk3 ?_|(refine wk2 ?_ ?_<;>intro _)|refine wk4 ?_|fail);all_goals(conv=>whnf)
     refine bs.sv (sx:=sxF) hk1 Tryz.func174 (by kernel_rfl) (by kernel_rfl) ?_
     repeat'(first|refine wk3 ?_|(refine wk2 ?_ ?_<;>intro _)|refine wk4 ?_|fail);all_goals(conv=>whnf)
     refine Ry (bs.av (sx:=sxF) hk1 ?_)
     repeat'(first|refine wk3 ?_|(refine wk2 ?_ ?_<;>intro _)|refine wk4 ?_|fail);all_goals(conv=>whnf)
     refine bs.sv (sx:=sxF) hk1 Tryz.func175 (by kernel_rfl) (by kernel_rfl) ?_
     repeat'(first|refine wk3 ?_|(refine wk2 ?_ ?_<;>intro _)|refine wk4 ?_|fail);all_goals(conv=>whnf)
     exact Zg (by rw [hu]; rfl) rfl
    | false =>
     rw [hq] at hx
     have hu:unl (true ^^ (decide (p.x=q.x)&&(decide (p.y=q.y)&&(decide (p.z=q.z)&&(decide (p.d=q.d)&&true))))) 11=0:=by rw [hx]; rfl
     clear hx hq
     refine bs.pv (sx:=sxF) hk1 Tryz.func125 (by kernel_rfl) (by kernel_rfl) rfl ?_
     repeat'(first|refine wk3 ?_|(refine wk2 ?_ ?_<;>intro _)|refine wk4 ?_|fail);all_goals(conv=>whnf)
     refine bs.sv (sx:=sxF) hk1 Tryz.func159 (by kernel_rfl) (by kernel_rfl) ?_
     refine Wd 4 ?_
     refine Ry (bs.av (sx:=sxF) hk1 ?_)
     repeat'(first|refine wk3 ?_|(refine wk2 ?_ ?_<;>intro _)|refine wk4 ?_|fail);all_goals(conv=>whnf)
     refine bs.sv (sx:=sxF) hk1 Tryz.func173 (by kernel_rfl) (by kernel_rfl) ?_
     repeat'(first|refine wk3 ?_|(refine wk2 ?_ ?_<;>intro _)|refine wk4 ?_|fail);all_goals(conv=>whnf)
     refine Ry (bs.av (sx:=sxF) hk1 ?_)
     repeat'(first|refine wk3 ?_|(refine wk2 ?_ ?_<;>intro _)|refine wk4 ?_|fail);all_goals(conv=>whnf)
     refine bs.sv (sx:=sxF) hk1 Tryz.func174 (by kernel_rfl) (by kernel_rfl) ?_
     repeat'(first|refine wk3 ?_|(refine wk2 ?_ ?_<;>intro _)|refine wk4 ?_|fail);all_goals(conv=>whnf)
     refine Ry (bs.av (sx:=sxF) hk1 ?_)
     repeat'(first|refine wk3 ?_|(refine wk2 ?_ ?_<;>intro _)|refine wk4 ?_|fail);all_goals(conv=>whnf)
     refine bs.sv (sx:=sxF) hk1 Tryz.func175 (by kernel_rfl) (by kernel_rfl) ?_
     repeat'(first|refine wk3 ?_|(refine wk2 ?_ ?_<;>intro _)|refine wk4 ?_|fail);all_goals(conv=>whnf)
     refine Ry (bs.av (sx:=sxF) hk1 ?_)
     repeat'(first|refine wk3 ?_|(refine wk2 ?_ ?_<;>intro _)|refine wk4 ?_|fail);all_goals(conv=>whnf)
     exact Zg (by cases fr<;>rfl) rfl
   ·rw [if_neg h2]
    refine bs.pv (sx:=sxF) hk1 Tryz.func125 (by kernel_rfl) (by kernel_rfl) rfl ?_
    repeat'(first|refine wk3 ?_|(refine wk2 ?_ ?_<;>intro _)|refine wk4 ?_|fail);all_goals(conv=>whnf)
    refine bs.sv (sx:=sxF) hk1 Tryz.func159 (by kernel_rfl) (by kernel_rfl) ?_
    refine Wd 4 ?_
    refine Ry (bs.av (sx:=sxF) hk1 ?_)
    repeat'(first|refine wk3 ?_|(refine wk2 ?_ ?_<;>intro _)|refine wk4 ?_|fail);all_goals(conv=>whnf)
    refine bs.sv (sx:=sxF) hk1 Tryz.func173 (by kernel_rfl) (by kernel_rfl) ?_
    repeat'(first|refine wk3 ?_|(refine wk2 ?_ ?_<;>intro _)|refine wk4 ?_|fail);all_goals(conv=>whnf)
    refine Ry (bs.av (sx:=sxF) hk1 ?_)
    repeat'(first|refine wk3 ?_|(refine wk2 ?_ ?_<;>intro _)|refine wk4 ?_|fail);all_goals(conv=>whnf)
    refine bs.sv (sx:=sxF) hk1 Tryz.func174 (by kernel_rfl) (by kernel_rfl) ?_
    repeat'(first|refine wk3 ?_|(refine wk2 ?_ ?_<;>intro _)|refine wk4 ?_|fail);all_goals(conv=>whnf)
    exact Zg (by rw [decide_eq_false h2]; rfl) rfl
  ·rw [if_neg h1]
   refine bs.pv (sx:=sxF) hk1 Tryz.func125 (by kernel_rfl) (by kernel_rfl) rfl ?_
   repeat'(first|refine wk3 ?_|(refine wk2 ?_ ?_<;>intro _)|refine wk4 ?_|fail);all_goals(conv=>whnf)
   refine bs.sv (sx:=sxF) hk1 Tryz.func159 (by kernel_rfl) (by kernel_rfl) ?_
   refine Wd 4 ?_
   refine Ry (bs.av (sx:=sxF) hk1 ?_)
   repeat'(first|refine wk3 ?_|(refine wk2 ?_ ?_<;>intro _)|refine wk4 ?_|fail);all_goals(conv=>whnf)
   refine bs.sv (sx:=sxF) hk1 Tryz.func173 (by kernel_rfl) (by kernel_rfl) ?_
   repeat'(first|refine wk3 ?_|(refine wk2 ?_ ?_<;>intro _)|refine wk4 ?_|fail);all_goals(conv=>whnf)
   exact Zg (by rw [decide_eq_false h1]; rfl) rfl
 ·rw [if_neg h0]
  generalize Zeo h s p q=fr at *
  refine bs.pv (sx:=sxF) hk0 Tryz.func125 (by kernel_rfl) (by kernel_rfl) rfl ?_
  repeat'(first|refine wk3 ?_|(refine wk2 ?_ ?_<;>intro _)|refine wk4 ?_|fail);all_goals(conv=>whnf)
  exact Zg (by rw [decide_eq_false h0]; rfl) rfl
theorem Zyu {n d m k:Int} (hd:0<d) (hk:0<k) (h:n / d<m / k):cmpQ n d m k = -1:=by
 have h1:=Int.lt_ediv_add_one_mul_self n hd
 have h2:=Int.ediv_mul_le m (show k≠0 by omega)
 have h3:=Qk (show n / d+1<=m / k by omega) (Qw hd)
 have h4:=Wk (show n<m / k*d by omega) hk
 have h5:=Qk h2 (Qw hd)
 have e:m / k*d*k=m / k*k*d:=by grind
 unfold cmpQ sgn
 rw [if_neg (by omega),if_pos (by omega)]
theorem Zyt {n d m k:Int}:cmpQ n d m k = -cmpQ m k n d:=by
 unfold cmpQ
 have e:n*k-m*d = -(m*d-n*k):=by omega
 rw [e]
 generalize m*d-n*k=v
 unfold sgn
 split<;>split<;>(try split)<;>(try split)<;>omega
theorem Yfn {n d m k:Int} (h:n / d=m / k):cmpQ n d m k=cmpQ (n%d) d (m%k) k:=by
 unfold cmpQ
 have h1:=Lr n d
 have h2:=Lr m k
 congr 1
 rw [h] at h1
 generalize m / k=q at *
 generalize n%d=r at *
 generalize m%k=t at *
 subst h1 h2
 grind
theorem cmpQ_flip {n d m k:Int}:cmpQ n d m k=cmpQ k m d n:=by unfold cmpQ; congr 1; grind
noncomputable abbrev flr:List AV->Option PRes:=famA (fun p:Int × Int=>0<p.2 /\ -9223372036854775807<=p.1/\p.1<=9223372036854775807) (fun p=>[I p.1,I p.2]) (fun p=>⟨I (p.1 / p.2),[]⟩)
theorem Zxy {n b:Int} (hb:0<b) (h0 : -9223372036854775807<=n) (h1:n<=9223372036854775807):flr [I n,I b]=some ⟨I (n / b),[]⟩ :=
 Zo (p:=fun p:Int × Int=>0<p.2 /\ -9223372036854775807<=p.1/\p.1<=9223372036854775807) (g:=fun p=>[I p.1,I p.2]) (r:=fun p=>⟨I (p.1 / p.2),[]⟩) (k:=(n,b)) (fun j hj=>by
  simp only [Qx,Tl,true_and,and_true] at hj
  obtain ⟨h1,h2⟩:=hj
  dsimp only
  rw [h1,h2]) ⟨hb,h0,h1⟩
noncomputable def kC1:PC:=ins 109 flr pt0
theorem Ycy:PCOK Tryz.prog kC1:=Ya (fun p hp=>c90 hp.1 hp.2.1 hp.2.2) Zc
theorem Zqf {n d:Int} (hd:0<d) (hd2:d<=9223372036854775807):Qa Qb (n-Qa Qb (n / d*d))=n%d:=by
 have h1:=Hy n (show d≠0 by omega)
 have h2:=Jb n hd
 have h3:=Lr n d
 rw [Rr] at h3
 simp only [Tp]
 omega
theorem c187 {n d m k:Int} (hd:0<d) (hk:0<k) (hd2:d<=9223372036854775807) (hk2:k<=9223372036854775807) (hn : -9223372036854775807<=n/\n<=9223372036854775807) (hm : -9223372036854775807<=m/\m<=9223372036854775807):PCall Tryz.prog 190 [I n,I d,I m,I k] ⟨I (cmpQ n d m k),[]⟩:=by
 refine bs.pv (sx:=nos) Ycy Tryz.func190 (by kernel_rfl) (by kernel_rfl) rfl ?_
 generalize hR:cmpQ n d m k=R
 refine Yb (S:=Int × Int × Int × Int) (fun t=>(t.2.1+t.2.2.2).toNat) (fun t=>[(0,I t.1),(1,I t.2.1),(2,I t.2.2.1),(3,I t.2.2.2)]) (fun _=>[]) 0 0 (fun t=>((0<t.2.1/\t.2.1<=9223372036854775807)/\(0<t.2.2.2/\t.2.2.2<=9223372036854775807))/\((-9223372036854775807<=t.1/\t.1<=9223372036854775807)/\(-9223372036854775807<=t.2.2.1/\t.2.2.1<=9223372036854775807))/\cmpQ t.1 t.2.1 t.2.2.1 t.2.2.2=R) (n,d,m,k) ⟨⟨⟨hd,hd2⟩,hk,hk2⟩,⟨hn,hm⟩,hR⟩ (Nat.le_refl _) [] rfl (kps) (kps) ?_
 clear hR hd hk hd2 hk2 hn hm
 rintro ⟨n,d,m,k⟩ ⟨⟨⟨hd,hd2⟩,hk,hk2⟩,⟨hn,hm⟩,hR⟩
 dsimp only at hd hd2 hk hk2 hn hm hR ⊢
 have t1:=Zxy hd hn.1 hn.2
 have t2:=Zxy hk hm.1 hm.2
 have w1:=Zqf (n:=n) hd hd2
 have w2:=Zqf (n:=m) hk hk2
 have n1:=Hy n (show d≠0 by omega)
 have n2:=Jb n hd
 have m1:=Hy m (show k≠0 by omega)
 have m2:=Jb m hk
 refine bs.av (sx:=nos) Ycy ?_
 rcases Tc (n / d) (m / k) with hc|hc|hc
 ·have e:=Zyu hd hk hc
  rw [hR] at e
  rw [e]
  generalize n / d=P at *
  generalize m / k=Q at *
  repeat'(first|refine wk1 ?_|(refine wk2 ?_ ?_<;>intro _)|refine wk4 ?_|fail);all_goals(conv=>whnf)
  exact Zb rfl
 ·have e:=Yfn hc
  rw [hR] at e
  rw [hc] at t1 w1
  generalize m / k=Q at *
  generalize n%d=r at *
  generalize m%k=t at *
  by_cases r0:r=0
  ·by_cases t0:t=0
   ·have:R=0:=by rw [e,r0,t0]; unfold cmpQ; simp [sgn]
    subst r0 t0
    rw [this]
    clear e hR this
    repeat'(first|refine wk1 ?_|(refine wk2 ?_ ?_<;>intro _)|refine wk4 ?_|fail);all_goals(conv=>whnf)
    all_goals first
     | exact Zb rfl
     | (exfalso; rename_i hx; simp [w1,w2] at hx; done)
     | (exfalso; rename_i hx; simp [w1,w2] at hx; omega)
   ·have:R = -1:=by
     rw [e,r0]; unfold cmpQ sgn
     have:=Rq (show 0<t by omega) hd
     rw [if_neg (by omega),if_pos (by omega)]
    rw [this]
    repeat'(first|refine wk1 ?_|(refine wk2 ?_ ?_<;>intro _)|refine wk4 ?_|fail);all_goals(conv=>whnf)
    all_goals first
     | exact Zb rfl
     | (exfalso; rename_i hx; simp [w1,w2] at hx; done)
     | (exfalso; rename_i hx; simp [w1,w2] at hx; omega)
  ·by_cases t0:t=0
   ·have:R=1:=by
     rw [e,t0]; unfold cmpQ sgn
     have:=Rq (show 0<r by omega) hk
     rw [if_pos (by omega)]
    rw [this]
    repeat'(first|refine wk1 ?_|(refine wk2 ?_ ?_<;>intro _)|refine wk4 ?_|fail);all_goals(conv=>whnf)
    all_goals first
     | exact Zb rfl
     | (exfalso; rename_i hx; simp [w1,w2] at hx; done)
     | (exfalso; rename_i hx; simp [w1,w2] at hx; omega)
   ·repeat'(first|refine wk1 ?_|(refine wk2 ?_ ?_<;>intro _)|refine wk4 ?_|fail);all_goals(conv=>whnf)
    exact Ql ⟨(k,t,d,r),[],rfl,by rw [w1,w2]; exact kps,kps,⟨⟨⟨by dsimp only; omega,by dsimp only; omega⟩,by dsimp only; omega,by dsimp only; omega⟩,⟨⟨by dsimp only; omega,by dsimp only; omega⟩,by dsimp only; omega,by dsimp only; omega⟩,by rw [e]; exact cmpQ_flip.symm⟩,by dsimp only; omega⟩
 ·have e:=Zyu hk hd hc
  have e2:R=1:=by rw [<-hR,Zyt,e]; rfl
  rw [e2]
  generalize n / d=P at *
  generalize m / k=Q at *
  repeat'(first|refine wk1 ?_|(refine wk2 ?_ ?_<;>intro _)|refine wk4 ?_|fail);all_goals(conv=>whnf)
  exact Zb rfl
def okQ (n d m k:Int):Prop:=(0<d/\d<=9223372036854775807)/\(0<k/\k<=9223372036854775807)/\(-9223372036854775807<=n/\n<=9223372036854775807)/\(-9223372036854775807<=m/\m<=9223372036854775807)
noncomputable abbrev cmps:List AV->Option PRes:=famA (fun p:Int × Int × Int × Int=>okQ p.1 p.2.1 p.2.2.1 p.2.2.2) (fun p=>[I p.1,I p.2.1,I p.2.2.1,I p.2.2.2]) (fun p=>⟨I (cmpQ p.1 p.2.1 p.2.2.1 p.2.2.2),[]⟩)
theorem Vf {n d m k:Int} (h:okQ n d m k):cmps [I n,I d,I m,I k]=some ⟨I (cmpQ n d m k),[]⟩ :=
 Zo (p:=fun p:Int × Int × Int × Int=>okQ p.1 p.2.1 p.2.2.1 p.2.2.2) (g:=fun p=>[I p.1,I p.2.1,I p.2.2.1,I p.2.2.2]) (r:=fun p=>⟨I (cmpQ p.1 p.2.1 p.2.2.1 p.2.2.2),[]⟩) (k:=(n,d,m,k)) (fun j hj=>by
  simp only [Qx,Tl,true_and,and_true] at hj
  obtain ⟨h1,h2,h3,h4⟩:=hj
  dsimp only
  rw [h1,h2,h3,h4]) h
theorem Yfm {pt:PC} (h:PCOK Tryz.prog pt):PCOK Tryz.prog (ins 190 cmps pt):=Ya (fun p hp=>c187 hp.1.1 hp.2.1.1 hp.1.2 hp.2.1.2 hp.2.2.1 hp.2.2.2) h
noncomputable def kC2:PC:=ins 190 cmps kR4
theorem Yy:PCOK Tryz.prog kC2:=Yfm Zdv
def bdQ (n d m k:Int):Prop:=(0<d/\d<=200000000000000)/\(0<k/\k<=200000000000000)/\(-200000000000000<=n/\n<=200000000000000)/\(-200000000000000<=m/\m<=200000000000000)
theorem bdQ.ok {n d m k:Int} (h:bdQ n d m k):okQ n d m k:=by obtain ⟨h1,h2,h3,h4⟩:=h; exact ⟨by omega,by omega,by omega,by omega⟩
theorem Zhb {a n d m k:Int} {l:List (Int × Int)} (h:a<0):Yu ((a,0)::l) n d m k=false:=by rw [Yu,if_pos ⟨rfl,h⟩]
theorem Zhc {a n d m k:Int} {l:List (Int × Int)} (h:¬ a<0):Yu ((a,0)::l) n d m k=Yu l n d m k:=by rw [Yu,if_neg (by omega),if_neg (by omega),if_neg (by omega)]
theorem Zns {a v n d m k:Int} {l:List (Int × Int)} (h:0<v) (hc:0<cmpQ (-a) v n d):Yu ((a,v)::l) n d m k=Yu l (-a) v m k:=by rw [Yu,if_neg (by omega),if_pos ⟨h,hc⟩]
theorem Zi5 {a v n d m k:Int} {l:List (Int × Int)} (h:0<v) (hc:¬ 0<cmpQ (-a) v n d):Yu ((a,v)::l) n d m k=Yu l n d m k:=by rw [Yu,if_neg (by omega),if_neg (fun h=>hc h.2),if_neg (by omega)]
theorem Znt {a v n d m k:Int} {l:List (Int × Int)} (h:v<0) (hc:cmpQ a (-v) m k<0):Yu ((a,v)::l) n d m k=Yu l n d a (-v):=by rw [Yu,if_neg (by omega),if_neg (by omega),if_pos ⟨h,hc⟩]
theorem Zi6 {a v n d m k:Int} {l:List (Int × Int)} (h:v<0) (hc:¬ cmpQ a (-v) m k<0):Yu ((a,v)::l) n d m k=Yu l n d m k:=by rw [Yu,if_neg (by omega),if_neg (by omega),if_neg (fun h=>hc h.2)]
theorem Ztr {a v m k:Int} (hc:cmpQ a v m k<0) (hk:0<k) (hm:m<=k) (hv:0<v):a<=v:=by
 unfold cmpQ at hc
 rw [Xt] at hc
 have q:=Qk hm (Qw hv)
 have e:k*(a-v)=a*k-k*v:=by grind
 have:=(Zdc hk).1 (show k*(a-v)<0 by omega)
 omega
theorem Zts {a v n d:Int} (hc:0<cmpQ a v n d) (hd:0<d) (hn:0<=n) (hv:0<v):0<=a:=by
 unfold cmpQ at hc
 rw [Xs] at hc
 have q:=Rj hn (Qw hv)
 have e:d*a=a*d:=Rr _ _
 have:=(Zbx hd).1 (show 0<d*a by omega)
 omega
structure AxOk (x y lo hi aD bD:Int):Prop where
 a0:0<aD/\aD<=100000
 b0:0<bD/\bD<=100000
 x : -(5000*aD)<=x/\x<=5000*aD
 y : -(5000*bD)<=y/\y<=5000*bD
 lo : -5000<=lo/\lo<=5000
 hi : -5000<=hi/\hi<=5000
theorem Yhw {x y lo hi aD bD:Int} (h:AxOk x y lo hi aD bD):(Qa Qb (Qa Qb (y*aD)-Qa Qb (x*bD))=y*aD-x*bD/\Qa Qb (0-Qa Qb (Qa Qb (y*aD)-Qa Qb (x*bD))) = -(y*aD-x*bD) /\ -100000000000000<=y*aD-x*bD/\y*aD-x*bD<=100000000000000) /\
  (Qa Qb (Qa Qb (x-Qa Qb (lo*aD))*bD)=(x-lo*aD)*bD/\Qa Qb (0-Qa Qb (Qa Qb (x-Qa Qb (lo*aD))*bD)) = -((x-lo*aD)*bD) /\ -100000000000000<=(x-lo*aD)*bD/\(x-lo*aD)*bD<=100000000000000) /\
  (Qa Qb (Qa Qb (Qa Qb (hi*aD)-x)*bD)=(hi*aD-x)*bD/\Qa Qb (0-Qa Qb (Qa Qb (Qa Qb (hi*aD)-x)*bD)) = -((hi*aD-x)*bD) /\ -100000000000000<=(hi*aD-x)*bD/\(hi*aD-x)*bD<=100000000000000):=by
 obtain ⟨h1,h2,h3,h4,h5,h6⟩:=h
 have m1:=Zn (a:=y) (b:=aD) (A:=500000000) (B:=100000) (by omega) (by omega)
 have m2:=Zn (a:=x) (b:=bD) (A:=500000000) (B:=100000) (by omega) (by omega)
 have m3:=Zj h5 h1.1
 have m4:=Zj h6 h1.1
 have m5:=Zn (a:=x-lo*aD) (b:=bD) (A:=1000000000) (B:=100000) (by omega) (by omega)
 have m6:=Zn (a:=hi*aD-x) (b:=bD) (A:=1000000000) (B:=100000) (by omega) (by omega)
 rw [W_eq (n:=y*aD) (by omega) (by omega),W_eq (n:=x*bD) (by omega) (by omega),W_eq (n:=lo*aD) (by omega) (by omega),W_eq (n:=hi*aD) (by omega) (by omega)]
 rw [W_eq (n:=x-lo*aD) (by omega) (by omega),W_eq (n:=hi*aD-x) (by omega) (by omega),W_eq (n:=(x-lo*aD)*bD) (by omega) (by omega),W_eq (n:=(hi*aD-x)*bD) (by omega) (by omega),W_eq (n:=y*aD-x*bD) (by omega) (by omega)]
 rw [W_eq (n:=0-(y*aD-x*bD)) (by omega) (by omega),W_eq (n:=0-(x-lo*aD)*bD) (by omega) (by omega),W_eq (n:=0-(hi*aD-x)*bD) (by omega) (by omega)]
 refine ⟨⟨rfl,by omega,by omega,by omega⟩,⟨rfl,by omega,by omega,by omega⟩,rfl,by omega,by omega,by omega⟩
theorem c190 {c:Can} (hr:CanOk c) {a b:Pt} (ha:PtR a) (hb:PtR b):PCall Tryz.prog 192 [.agg c.av,a.av,b.av] ⟨Bo (Zu5 c.rc a.pl b.pl),[]⟩:=by
 obtain ⟨⟨v1,v2⟩,v3,v4⟩:=Zf4 c
 have aX:AxOk a.x b.x (imin c.fx c.tx) (imax c.fx c.tx) a.d b.d:=⟨⟨ha.d0,ha.d1⟩,⟨hb.d0,hb.d1⟩,ha.x,hb.x,by rw [Zay]; have:=hr.b1; have:=hr.b3; omega,by rw [Zaz]; have:=hr.b1; have:=hr.b3; omega⟩
 have aY:AxOk a.y b.y (imin c.fy c.ty) (imax c.fy c.ty) a.d b.d:=⟨⟨ha.d0,ha.d1⟩,⟨hb.d0,hb.d1⟩,ha.y,hb.y,by rw [Zay]; have:=hr.b2; have:=hr.b4; omega,by rw [Zaz]; have:=hr.b2; have:=hr.b4; omega⟩
 have hT:Zu5 c.rc a.pl b.pl=Yu [((a.x-imin c.fx c.tx*a.d)*b.d,b.x*a.d-a.x*b.d),((imax c.fx c.tx*a.d-a.x)*b.d,-(b.x*a.d-a.x*b.d)),((a.y-imin c.fy c.ty*a.d)*b.d,b.y*a.d-a.y*b.d),((imax c.fy c.ty*a.d-a.y)*b.d,-(b.y*a.d-a.y*b.d))] 0 1 1 1:=by
  unfold Zu5 rcN Pt.pl
  rw [v1,v2,v3,v4,<-Zay,<-Zay,<-Zaz,<-Zaz]
  simp only [Te,List.map_nil]
  congr 2
  ·congr 1; grind
  ·congr 1
   ·congr 1; grind
   ·congr 1
    ·congr 1; grind
    ·congr 2; grind
 rw [hT]
 clear hT v1 v2 v3 v4
 refine bs.pv (sx:=nos) Yy Tryz.func192 (by kernel_rfl) (by kernel_rfl) rfl ?_
 repeat'(first|refine wk3 ?_|(refine wk2 ?_ ?_<;>intro _)|refine wk4 ?_|fail);all_goals(conv=>whnf)
 refine Wd 3 ?_
 refine Ry (bs.av (sx:=nos) Yy ?_)
 repeat'(first|refine wk3 ?_|(refine wk2 ?_ ?_<;>intro _)|refine wk4 ?_|fail);all_goals(conv=>whnf)
 have eY:(imin c.fy c.ty=imin c.fy c.ty)/\(imax c.fy c.ty=imax c.fy c.ty):=⟨rfl,rfl⟩
 have hbd:bdQ 0 1 1 1:=⟨by omega,by omega,by omega,by omega⟩
 have hnm:(0:Int)<=0/\(1:Int)<=1:=⟨by omega,by omega⟩
 generalize hRR:Yu _ 0 1 1 1=R
 have hR:=hRR
 clear hRR
 refine Yb (S:=Int × Int × Int × Int × Int) (fun t=>(2-t.1).toNat) (fun t=>[(3,.ptr 0 0 0),(4,.ptr 1 0 0),(5,.ptr 2 0 0),(7,I t.2.1),(8,I t.2.2.1),(9,I t.2.2.2.1),(10,I t.2.2.2.2),(11,I 0),(12,I (a.x)),(13,I (b.x)),(14,I (imin c.fx c.tx)),(15,I (imax c.fx c.tx)),(16,I (Qa Qb (Qa Qb (b.x*a.d)-Qa Qb (a.x*b.d)))),(17,I t.1)]) (fun _=>[(2,.row 4 [[I b.x,I b.y,I b.z,I b.d]] true false),(1,.row 4 [[I a.x,I a.y,I a.z,I a.d]] true false),(0,.row 7 [c.av] true false)]) 40 40 (fun t=>bdQ t.2.1 t.2.2.1 t.2.2.2.1 t.2.2.2.2/\(0<=t.2.1/\t.2.2.2.1<=t.2.2.2.2)/\((t.1=0/\Yu (((a.x-imin c.fx c.tx*a.d)*b.d,(b.x*a.d-a.x*b.d))::(((imax c.fx c.tx*a.d-a.x)*b.d,-(b.x*a.d-a.x*b.d))::[((a.y-imin c.fy c.ty*a.d)*b.d,b.y*a.d-a.y*b.d),((imax c.fy c.ty*a.d-a.y)*b.d,-(b.y*a.d-a.y*b.d))])) t.2.1 t.2.2.1 t.2.2.2.1 t.2.2.2.2=R)\/(t.1=1/\Yu (((imax c.fx c.tx*a.d-a.x)*b.d,-(b.x*a.d-a.x*b.d))::[((a.y-imin c.fy c.ty*a.d)*b.d,b.y*a.d-a.y*b.d),((imax c.fy c.ty*a.d-a.y)*b.d,-(b.y*a.d-a.y*b.d))]) t.2.1 t.2.2.1 t.2.2.2.1 t.2.2.2.2=R)\/(t.1=2/\Yu [((a.y-imin c.fy c.ty*a.d)*b.d,b.y*a.d-a.y*b.d),((imax c.fy c.ty*a.d-a.y)*b.d,-(b.y*a.d-a.y*b.d))] t.2.1 t.2.2.1 t.2.2.2.1 t.2.2.2.2=R))) (0,0,1,1,1) ⟨hbd,hnm,.inl ⟨rfl,hR⟩⟩ (Qo rfl) [] rfl (kps) (kps) ?_
 clear hR hbd hnm
 rintro ⟨e,n,d,m,k⟩ ⟨hbd,hnm,hcase⟩
 dsimp only at hbd hnm hcase ⊢
 obtain ⟨⟨y1,y2,y3⟩,h2,h3⟩:=Yhw aX
 rw [<-y1] at hcase y3
 clear y2
 generalize Qa Qb (Qa Qb (b.x*a.d)-Qa Qb (a.x*b.d))=BY at *
 rcases hcase with ⟨rfl,hR⟩|⟨rfl,hR⟩|⟨rfl,hR⟩
 ·have ra:Qa Qb (Qa Qb (a.x-Qa Qb (imin c.fx c.tx*a.d))*b.d)=(a.x-imin c.fx c.tx*a.d)*b.d:=h2.1
  have ra' : Qa Qb (0-Qa Qb (Qa Qb (a.x-Qa Qb (imin c.fx c.tx*a.d))*b.d)) = -((a.x-imin c.fx c.tx*a.d)*b.d):=h2.2.1
  have rb:=h2.2.2
  have rm1:Qa Qb (0-BY) = -BY:=W_eq (by omega) (by omega) |>.trans (by omega)
  have rm2:Qa Qb (0-Qa Qb (0-BY))=BY:=by rw [rm1]; exact (W_eq (by omega) (by omega)).trans (by omega)
  clear h2 h3
  generalize (a.x-imin c.fx c.tx*a.d)*b.d=A at *
  have fin:∀ n' d' m' k' : Int,bdQ n' d' m' k'->(0<=n'/\m'<=k')->Yu (((imax c.fx c.tx*a.d-a.x)*b.d,-BY)::[((a.y-imin c.fy c.ty*a.d)*b.d,b.y*a.d-a.y*b.d),((imax c.fy c.ty*a.d-a.y)*b.d,-(b.y*a.d-a.y*b.d))]) n' d' m' k'=R->(bdQ n' d' m' k'/\(0<=n'/\m'<=k')/\(((1:Int)=0/\Yu ((A,(b.x*a.d-a.x*b.d))::(((imax c.fx c.tx*a.d-a.x)*b.d,-(b.x*a.d-a.x*b.d))::[((a.y-imin c.fy c.ty*a.d)*b.d,b.y*a.d-a.y*b.d),((imax c.fy c.ty*a.d-a.y)*b.d,-(b.y*a.d-a.y*b.d))])) n' d' m' k'=R)\/((1:Int)=1/\Yu (((imax c.fx c.tx*a.d-a.x)*b.d,-(b.x*a.d-a.x*b.d))::[((a.y-imin c.fy c.ty*a.d)*b.d,b.y*a.d-a.y*b.d),((imax c.fy c.ty*a.d-a.y)*b.d,-(b.y*a.d-a.y*b.d))]) n' d' m' k'=R)\/((1:Int)=2/\Yu [((a.y-imin c.fy c.ty*a.d)*b.d,b.y*a.d-a.y*b.d),((imax c.fy c.ty*a.d-a.y)*b.d,-(b.y*a.d-a.y*b.d))] n' d' m' k'=R))):=fun n' d' m' k' g1 g2 g3=>⟨g1,g2,by rw [<-y1]; exact .inr (.inl ⟨rfl,g3⟩)⟩
  rcases Tc BY 0 with hv|hv|hv
  ·skip
   have ht:cmps [I (Qa Qb (Qa Qb (a.x-Qa Qb (imin c.fx c.tx*a.d))*b.d)),I (Qa Qb (0-BY)),I m,I k]=some ⟨I (cmpQ A (-(BY)) m k),[]⟩:=by rw [ra,rm1]; exact Vf (d:=_) ⟨by omega,⟨hbd.2.1.1,by have:=hbd.2.1.2; omega⟩,by omega,by have:=hbd.2.2.2; omega⟩
   by_cases hc:cmpQ A (-(BY)) m k<0
   ·rw [Znt (by omega) hc] at hR
    have hA:A <= -(BY):=Ztr hc hbd.2.1.1 hnm.2 (by omega)
    generalize cmpQ A (-(BY)) m k=Q at *
    refine bs.av (sx:=nos) Yy ?_
    repeat'(first|refine wk3 ?_|(refine wk2 ?_ ?_<;>intro _)|refine wk4 ?_|fail);all_goals(conv=>whnf)
    exact Ql ⟨(1,n,d,Qa Qb (Qa Qb (a.x-Qa Qb (imin c.fx c.tx*a.d))*b.d),(Qa Qb (0-BY))),[],rfl,kps,kps,fin n d (Qa Qb (Qa Qb (a.x-Qa Qb (imin c.fx c.tx*a.d))*b.d)) ((Qa Qb (0-BY))) (by rw [ra,rm1]; exact ⟨hbd.1,by omega,hbd.2.2.1,by omega⟩) (by rw [ra,rm1]; omega) (by rw [ra,rm1]; exact hR),by dsimp only; omega⟩
   ·rw [Zi6 (by omega) hc] at hR
    generalize cmpQ A (-(BY)) m k=Q at *
    refine bs.av (sx:=nos) Yy ?_
    repeat'(first|refine wk3 ?_|(refine wk2 ?_ ?_<;>intro _)|refine wk4 ?_|fail);all_goals(conv=>whnf)
    exact Ql ⟨(1,n,d,m,k),[],rfl,kps,kps,fin _ _ _ _ hbd hnm hR,by dsimp only; omega⟩
  ·subst hv
   skip
   by_cases hneg:A<0
   ·rw [Zhb hneg] at hR
    rw [<-hR]
    refine bs.av (sx:=nos) Yy ?_
    repeat'(first|refine wk3 ?_|(refine wk2 ?_ ?_<;>intro _)|refine wk4 ?_|fail);all_goals(conv=>whnf)
    exact Za rfl
   ·rw [Zhc hneg] at hR
    refine bs.av (sx:=nos) Yy ?_
    repeat'(first|refine wk3 ?_|(refine wk2 ?_ ?_<;>intro _)|refine wk4 ?_|fail);all_goals(conv=>whnf)
    exact Ql ⟨(1,n,d,m,k),[],rfl,kps,kps,fin _ _ _ _ hbd hnm hR,by dsimp only; omega⟩
  ·skip
   have ht:cmps [I (Qa Qb (0-Qa Qb (Qa Qb (a.x-Qa Qb (imin c.fx c.tx*a.d))*b.d))),I BY,I n,I d]=some ⟨I (cmpQ (-A) (BY) n d),[]⟩:=by rw [ra']; exact Vf ⟨by omega,⟨hbd.1.1,by have:=hbd.1.2; omega⟩,by omega,by have:=hbd.2.2.1; omega⟩
   by_cases hc:0<cmpQ (-A) (BY) n d
   ·rw [Zns (by omega) hc] at hR
    have hA:0 <= -A:=Zts hc hbd.1.1 hnm.1 (by omega)
    generalize cmpQ (-A) (BY) n d=Q at *
    refine bs.av (sx:=nos) Yy ?_
    repeat'(first|refine wk3 ?_|(refine wk2 ?_ ?_<;>intro _)|refine wk4 ?_|fail);all_goals(conv=>whnf)
    exact Ql ⟨(1,Qa Qb (0-Qa Qb (Qa Qb (a.x-Qa Qb (imin c.fx c.tx*a.d))*b.d)),BY,m,k),[],rfl,kps,kps,fin (Qa Qb (0-Qa Qb (Qa Qb (a.x-Qa Qb (imin c.fx c.tx*a.d))*b.d))) (BY) m k (by rw [ra']; exact ⟨by omega,hbd.2.1,by omega,hbd.2.2.2⟩) (by rw [ra']; omega) (by rw [ra']; exact hR),by dsimp only; omega⟩
   ·rw [Zi5 (by omega) hc] at hR
    generalize cmpQ (-A) (BY) n d=Q at *
    refine bs.av (sx:=nos) Yy ?_
    repeat'(first|refine wk3 ?_|(refine wk2 ?_ ?_<;>intro _)|refine wk4 ?_|fail);all_goals(conv=>whnf)
    exact Ql ⟨(1,n,d,m,k),[],rfl,kps,kps,fin _ _ _ _ hbd hnm hR,by dsimp only; omega⟩
 ·have ra:Qa Qb (Qa Qb (Qa Qb (imax c.fx c.tx*a.d)-a.x)*b.d)=(imax c.fx c.tx*a.d-a.x)*b.d:=h3.1
  have ra' : Qa Qb (0-Qa Qb (Qa Qb (Qa Qb (imax c.fx c.tx*a.d)-a.x)*b.d)) = -((imax c.fx c.tx*a.d-a.x)*b.d):=h3.2.1
  have rb:=h3.2.2
  have rm1:Qa Qb (0-BY) = -BY:=W_eq (by omega) (by omega) |>.trans (by omega)
  have rm2:Qa Qb (0-Qa Qb (0-BY))=BY:=by rw [rm1]; exact (W_eq (by omega) (by omega)).trans (by omega)
  clear h2 h3
  generalize (imax c.fx c.tx*a.d-a.x)*b.d=A at *
  have fin:∀ n' d' m' k' : Int,bdQ n' d' m' k'->(0<=n'/\m'<=k')->Yu [((a.y-imin c.fy c.ty*a.d)*b.d,b.y*a.d-a.y*b.d),((imax c.fy c.ty*a.d-a.y)*b.d,-(b.y*a.d-a.y*b.d))] n' d' m' k'=R->(bdQ n' d' m' k'/\(0<=n'/\m'<=k')/\(((2:Int)=0/\Yu (((a.x-imin c.fx c.tx*a.d)*b.d,(b.x*a.d-a.x*b.d))::((A,-(b.x*a.d-a.x*b.d))::[((a.y-imin c.fy c.ty*a.d)*b.d,b.y*a.d-a.y*b.d),((imax c.fy c.ty*a.d-a.y)*b.d,-(b.y*a.d-a.y*b.d))])) n' d' m' k'=R)\/((2:Int)=1/\Yu ((A,-(b.x*a.d-a.x*b.d))::[((a.y-imin c.fy c.ty*a.d)*b.d,b.y*a.d-a.y*b.d),((imax c.fy c.ty*a.d-a.y)*b.d,-(b.y*a.d-a.y*b.d))]) n' d' m' k'=R)\/((2:Int)=2/\Yu [((a.y-imin c.fy c.ty*a.d)*b.d,b.y*a.d-a.y*b.d),((imax c.fy c.ty*a.d-a.y)*b.d,-(b.y*a.d-a.y*b.d))] n' d' m' k'=R))):=fun n' d' m' k' g1 g2 g3=>⟨g1,g2,by rw [<-y1]; exact .inr (.inr ⟨rfl,g3⟩)⟩
  rcases Tc BY 0 with hv|hv|hv
  ·skip
   have ht:cmps [I (Qa Qb (0-Qa Qb (Qa Qb (Qa Qb (imax c.fx c.tx*a.d)-a.x)*b.d))),I (Qa Qb (0-BY)),I n,I d]=some ⟨I (cmpQ (-A) (-BY) n d),[]⟩:=by rw [ra',rm1]; exact Vf ⟨by omega,⟨hbd.1.1,by have:=hbd.1.2; omega⟩,by omega,by have:=hbd.2.2.1; omega⟩
   by_cases hc:0<cmpQ (-A) (-BY) n d
   ·rw [Zns (by omega) hc] at hR
    have hA:0 <= -A:=Zts hc hbd.1.1 hnm.1 (by omega)
    generalize cmpQ (-A) (-BY) n d=Q at *
    refine bs.av (sx:=nos) Yy ?_
    repeat'(first|refine wk3 ?_|(refine wk2 ?_ ?_<;>intro _)|refine wk4 ?_|fail);all_goals(conv=>whnf)
    exact Ql ⟨(2,Qa Qb (0-Qa Qb (Qa Qb (Qa Qb (imax c.fx c.tx*a.d)-a.x)*b.d)),(Qa Qb (0-BY)),m,k),[],rfl,kps,kps,fin (Qa Qb (0-Qa Qb (Qa Qb (Qa Qb (imax c.fx c.tx*a.d)-a.x)*b.d))) ((Qa Qb (0-BY))) m k (by rw [ra',rm1]; exact ⟨by omega,hbd.2.1,by omega,hbd.2.2.2⟩) (by rw [ra']; omega) (by rw [ra',rm1]; exact hR),by dsimp only; omega⟩
   ·rw [Zi5 (by omega) hc] at hR
    generalize cmpQ (-A) (-BY) n d=Q at *
    refine bs.av (sx:=nos) Yy ?_
    repeat'(first|refine wk3 ?_|(refine wk2 ?_ ?_<;>intro _)|refine wk4 ?_|fail);all_goals(conv=>whnf)
    exact Ql ⟨(2,n,d,m,k),[],rfl,kps,kps,fin _ _ _ _ hbd hnm hR,by dsimp only; omega⟩
  ·subst hv
   rw [show (-0:Int)=0 by decide] at hR
   by_cases hneg:A<0
   ·rw [Zhb hneg] at hR
    rw [<-hR]
    refine bs.av (sx:=nos) Yy ?_
    repeat'(first|refine wk3 ?_|(refine wk2 ?_ ?_<;>intro _)|refine wk4 ?_|fail);all_goals(conv=>whnf)
    exact Za rfl
   ·rw [Zhc hneg] at hR
    refine bs.av (sx:=nos) Yy ?_
    repeat'(first|refine wk3 ?_|(refine wk2 ?_ ?_<;>intro _)|refine wk4 ?_|fail);all_goals(conv=>whnf)
    exact Ql ⟨(2,n,d,m,k),[],rfl,kps,kps,fin _ _ _ _ hbd hnm hR,by dsimp only; omega⟩
  ·skip
   have ht:cmps [I (Qa Qb (Qa Qb (Qa Qb (imax c.fx c.tx*a.d)-a.x)*b.d)),I (Qa Qb (0-Qa Qb (0-BY))),I m,I k]=some ⟨I (cmpQ A (-(-BY)) m k),[]⟩:=by rw [ra,rm2,Ty]; exact Vf (d:=_) ⟨by omega,⟨hbd.2.1.1,by have:=hbd.2.1.2; omega⟩,by omega,by have:=hbd.2.2.2; omega⟩
   by_cases hc:cmpQ A (-(-BY)) m k<0
   ·rw [Znt (by omega) hc] at hR
    have hA:A <= -(-BY):=Ztr hc hbd.2.1.1 hnm.2 (by omega)
    generalize cmpQ A (-(-BY)) m k=Q at *
    refine bs.av (sx:=nos) Yy ?_
    repeat'(first|refine wk3 ?_|(refine wk2 ?_ ?_<;>intro _)|refine wk4 ?_|fail);all_goals(conv=>whnf)
    exact Ql ⟨(2,n,d,Qa Qb (Qa Qb (Qa Qb (imax c.fx c.tx*a.d)-a.x)*b.d),(Qa Qb (0-Qa Qb (0-BY)))),[],rfl,kps,kps,fin n d (Qa Qb (Qa Qb (Qa Qb (imax c.fx c.tx*a.d)-a.x)*b.d)) ((Qa Qb (0-Qa Qb (0-BY)))) (by rw [ra,rm2]; exact ⟨hbd.1,by omega,hbd.2.2.1,by omega⟩) (by rw [ra,rm2]; omega) (by rw [ra,rm2,<-Ty BY]; exact hR),by dsimp only; omega⟩
   ·rw [Zi6 (by omega) hc] at hR
    generalize cmpQ A (-(-BY)) m k=Q at *
    refine bs.av (sx:=nos) Yy ?_
    repeat'(first|refine wk3 ?_|(refine wk2 ?_ ?_<;>intro _)|refine wk4 ?_|fail);all_goals(conv=>whnf)
    exact Ql ⟨(2,n,d,m,k),[],rfl,kps,kps,fin _ _ _ _ hbd hnm hR,by dsimp only; omega⟩
 ·refine bs.av (sx:=nos) Yy ?_
  repeat'(first|refine wk3 ?_|(refine wk2 ?_ ?_<;>intro _)|refine wk4 ?_|fail);all_goals(conv=>whnf)
  refine Ry (bs.av (sx:=nos) Yy ?_)
  repeat'(first|refine wk3 ?_|(refine wk2 ?_ ?_<;>intro _)|refine wk4 ?_|fail);all_goals(conv=>whnf)
  refine Yb (S:=Int × Int × Int × Int × Int) (fun t=>(2-t.1).toNat) (fun t=>[(3,.ptr 0 0 0),(4,.ptr 1 0 0),(5,.ptr 2 0 0),(7,I t.2.1),(8,I t.2.2.1),(9,I t.2.2.2.1),(10,I t.2.2.2.2),(11,I 1),(12,I (a.y)),(13,I (b.y)),(14,I (imin c.fy c.ty)),(15,I (imax c.fy c.ty)),(16,I (Qa Qb (Qa Qb (b.y*a.d)-Qa Qb (a.y*b.d)))),(17,I t.1)]) (fun _=>[(2,.row 4 [[I b.x,I b.y,I b.z,I b.d]] true false),(1,.row 4 [[I a.x,I a.y,I a.z,I a.d]] true false),(0,.row 7 [c.av] true false)]) 100 100 (fun t=>bdQ t.2.1 t.2.2.1 t.2.2.2.1 t.2.2.2.2/\(0<=t.2.1/\t.2.2.2.1<=t.2.2.2.2)/\((t.1=0/\Yu (((a.y-imin c.fy c.ty*a.d)*b.d,(b.y*a.d-a.y*b.d))::(((imax c.fy c.ty*a.d-a.y)*b.d,-(b.y*a.d-a.y*b.d))::[])) t.2.1 t.2.2.1 t.2.2.2.1 t.2.2.2.2=R)\/(t.1=1/\Yu (((imax c.fy c.ty*a.d-a.y)*b.d,-(b.y*a.d-a.y*b.d))::[]) t.2.1 t.2.2.1 t.2.2.2.1 t.2.2.2.2=R)\/(t.1=2/\Yu [] t.2.1 t.2.2.1 t.2.2.2.1 t.2.2.2.2=R))) (0,n,d,m,k) ⟨hbd,hnm,.inl ⟨rfl,hR⟩⟩ (Qo rfl) [] rfl (kps) (kps) ?_
  clear hR hbd hnm
  rintro ⟨e,n,d,m,k⟩ ⟨hbd,hnm,hcase⟩
  dsimp only at hbd hnm hcase ⊢
  obtain ⟨⟨y1,y2,y3⟩,h2,h3⟩:=Yhw aY
  rw [<-y1] at hcase y3
  clear y2
  generalize Qa Qb (Qa Qb (b.y*a.d)-Qa Qb (a.y*b.d))=BY at *
  rcases hcase with ⟨rfl,hR⟩|⟨rfl,hR⟩|⟨rfl,hR⟩
  ·have ra:Qa Qb (Qa Qb (a.y-Qa Qb (imin c.fy c.ty*a.d))*b.d)=(a.y-imin c.fy c.ty*a.d)*b.d:=h2.1
   have ra' : Qa Qb (0-Qa Qb (Qa Qb (a.y-Qa Qb (imin c.fy c.ty*a.d))*b.d)) = -((a.y-imin c.fy c.ty*a.d)*b.d):=h2.2.1
   have rb:=h2.2.2
   have rm1:Qa Qb (0-BY) = -BY:=W_eq (by omega) (by omega) |>.trans (by omega)
   have rm2:Qa Qb (0-Qa Qb (0-BY))=BY:=by rw [rm1]; exact (W_eq (by omega) (by omega)).trans (by omega)
   clear h2 h3
   generalize (a.y-imin c.fy c.ty*a.d)*b.d=A at *
   have fin:∀ n' d' m' k' : Int,bdQ n' d' m' k'->(0<=n'/\m'<=k')->Yu (((imax c.fy c.ty*a.d-a.y)*b.d,-BY)::[]) n' d' m' k'=R->(bdQ n' d' m' k'/\(0<=n'/\m'<=k')/\(((1:Int)=0/\Yu ((A,(b.y*a.d-a.y*b.d))::(((imax c.fy c.ty*a.d-a.y)*b.d,-(b.y*a.d-a.y*b.d))::[])) n' d' m' k'=R)\/((1:Int)=1/\Yu (((imax c.fy c.ty*a.d-a.y)*b.d,-(b.y*a.d-a.y*b.d))::[]) n' d' m' k'=R)\/((1:Int)=2/\Yu [] n' d' m' k'=R))):=fun n' d' m' k' g1 g2 g3=>⟨g1,g2,by rw [<-y1]; exact .inr (.inl ⟨rfl,g3⟩)⟩
   rcases Tc BY 0 with hv|hv|hv
   ·skip
    have ht:cmps [I (Qa Qb (Qa Qb (a.y-Qa Qb (imin c.fy c.ty*a.d))*b.d)),I (Qa Qb (0-BY)),I m,I k]=some ⟨I (cmpQ A (-(BY)) m k),[]⟩:=by rw [ra,rm1]; exact Vf (d:=_) ⟨by omega,⟨hbd.2.1.1,by have:=hbd.2.1.2; omega⟩,by omega,by have:=hbd.2.2.2; omega⟩
    by_cases hc:cmpQ A (-(BY)) m k<0
    ·rw [Znt (by omega) hc] at hR
     have hA:A <= -(BY):=Ztr hc hbd.2.1.1 hnm.2 (by omega)
     generalize cmpQ A (-(BY)) m k=Q at *
     refine bs.av (sx:=nos) Yy ?_
     repeat'(first|refine wk3 ?_|(refine wk2 ?_ ?_<;>intro _)|refine wk4 ?_|fail);all_goals(conv=>whnf)
     exact Ql ⟨(1,n,d,Qa Qb (Qa Qb (a.y-Qa Qb (imin c.fy c.ty*a.d))*b.d),(Qa Qb (0-BY))),[],rfl,kps,kps,fin n d (Qa Qb (Qa Qb (a.y-Qa Qb (imin c.fy c.ty*a.d))*b.d)) ((Qa Qb (0-BY))) (by rw [ra,rm1]; exact ⟨hbd.1,by omega,hbd.2.2.1,by omega⟩) (by rw [ra,rm1]; omega) (by rw [ra,rm1]; exact hR),by dsimp only; omega⟩
    ·rw [Zi6 (by omega) hc] at hR
     generalize cmpQ A (-(BY)) m k=Q at *
     refine bs.av (sx:=nos) Yy ?_
     repeat'(first|refine wk3 ?_|(refine wk2 ?_ ?_<;>intro _)|refine wk4 ?_|fail);all_goals(conv=>whnf)
     exact Ql ⟨(1,n,d,m,k),[],rfl,kps,kps,fin _ _ _ _ hbd hnm hR,by dsimp only; omega⟩
   ·subst hv
    skip
    by_cases hneg:A<0
    ·rw [Zhb hneg] at hR
     rw [<-hR]
     refine bs.av (sx:=nos) Yy ?_
     repeat'(first|refine wk3 ?_|(refine wk2 ?_ ?_<;>intro _)|refine wk4 ?_|fail);all_goals(conv=>whnf)
     exact Za rfl
    ·rw [Zhc hneg] at hR
     refine bs.av (sx:=nos) Yy ?_
     repeat'(first|refine wk3 ?_|(refine wk2 ?_ ?_<;>intro _)|refine wk4 ?_|fail);all_goals(conv=>whnf)
     exact Ql ⟨(1,n,d,m,k),[],rfl,kps,kps,fin _ _ _ _ hbd hnm hR,by dsimp only; omega⟩
   ·skip
    have ht:cmps [I (Qa Qb (0-Qa Qb (Qa Qb (a.y-Qa Qb (imin c.fy c.ty*a.d))*b.d))),I BY,I n,I d]=some ⟨I (cmpQ (-A) (BY) n d),[]⟩:=by rw [ra']; exact Vf ⟨by omega,⟨hbd.1.1,by have:=hbd.1.2; omega⟩,by omega,by have:=hbd.2.2.1; omega⟩
    by_cases hc:0<cmpQ (-A) (BY) n d
    ·rw [Zns (by omega) hc] at hR
     have hA:0 <= -A:=Zts hc hbd.1.1 hnm.1 (by omega)
     generalize cmpQ (-A) (BY) n d=Q at *
     refine bs.av (sx:=nos) Yy ?_
     repeat'(first|refine wk3 ?_|(refine wk2 ?_ ?_<;>intro _)|refine wk4 ?_|fail);all_goals(conv=>whnf)
     exact Ql ⟨(1,Qa Qb (0-Qa Qb (Qa Qb (a.y-Qa Qb (imin c.fy c.ty*a.d))*b.d)),BY,m,k),[],rfl,kps,kps,fin (Qa Qb (0-Qa Qb (Qa Qb (a.y-Qa Qb (imin c.fy c.ty*a.d))*b.d))) (BY) m k (by rw [ra']; exact ⟨by omega,hbd.2.1,by omega,hbd.2.2.2⟩) (by rw [ra']; omega) (by rw [ra']; exact hR),by dsimp only; omega⟩
    ·rw [Zi5 (by omega) hc] at hR
     generalize cmpQ (-A) (BY) n d=Q at *
     refine bs.av (sx:=nos) Yy ?_
     repeat'(first|refine wk3 ?_|(refine wk2 ?_ ?_<;>intro _)|refine wk4 ?_|fail);all_goals(conv=>whnf)
     exact Ql ⟨(1,n,d,m,k),[],rfl,kps,kps,fin _ _ _ _ hbd hnm hR,by dsimp only; omega⟩
  ·have ra:Qa Qb (Qa Qb (Qa Qb (imax c.fy c.ty*a.d)-a.y)*b.d)=(imax c.fy c.ty*a.d-a.y)*b.d:=h3.1
   have ra' : Qa Qb (0-Qa Qb (Qa Qb (Qa Qb (imax c.fy c.ty*a.d)-a.y)*b.d)) = -((imax c.fy c.ty*a.d-a.y)*b.d):=h3.2.1
   have rb:=h3.2.2
   have rm1:Qa Qb (0-BY) = -BY:=W_eq (by omega) (by omega) |>.trans (by omega)
   have rm2:Qa Qb (0-Qa Qb (0-BY))=BY:=by rw [rm1]; exact (W_eq (by omega) (by omega)).trans (by omega)
   clear h2 h3
   generalize (imax c.fy c.ty*a.d-a.y)*b.d=A at *
   have fin:∀ n' d' m' k' : Int,bdQ n' d' m' k'->(0<=n'/\m'<=k')->Yu [] n' d' m' k'=R->(bdQ n' d' m' k'/\(0<=n'/\m'<=k')/\(((2:Int)=0/\Yu (((a.y-imin c.fy c.ty*a.d)*b.d,(b.y*a.d-a.y*b.d))::((A,-(b.y*a.d-a.y*b.d))::[])) n' d' m' k'=R)\/((2:Int)=1/\Yu ((A,-(b.y*a.d-a.y*b.d))::[]) n' d' m' k'=R)\/((2:Int)=2/\Yu [] n' d' m' k'=R))):=fun n' d' m' k' g1 g2 g3=>⟨g1,g2,by rw [<-y1]; exact .inr (.inr ⟨rfl,g3⟩)⟩
   rcases Tc BY 0 with hv|hv|hv
   ·skip
    have ht:cmps [I (Qa Qb (0-Qa Qb (Qa Qb (Qa Qb (imax c.fy c.ty*a.d)-a.y)*b.d))),I (Qa Qb (0-BY)),I n,I d]=some ⟨I (cmpQ (-A) (-BY) n d),[]⟩:=by rw [ra',rm1]; exact Vf ⟨by omega,⟨hbd.1.1,by have:=hbd.1.2; omega⟩,by omega,by have:=hbd.2.2.1; omega⟩
    by_cases hc:0<cmpQ (-A) (-BY) n d
    ·rw [Zns (by omega) hc] at hR
     have hA:0 <= -A:=Zts hc hbd.1.1 hnm.1 (by omega)
     generalize cmpQ (-A) (-BY) n d=Q at *
     refine bs.av (sx:=nos) Yy ?_
     repeat'(first|refine wk3 ?_|(refine wk2 ?_ ?_<;>intro _)|refine wk4 ?_|fail);all_goals(conv=>whnf)
     exact Ql ⟨(2,Qa Qb (0-Qa Qb (Qa Qb (Qa Qb (imax c.fy c.ty*a.d)-a.y)*b.d)),(Qa Qb (0-BY)),m,k),[],rfl,kps,kps,fin (Qa Qb (0-Qa Qb (Qa Qb (Qa Qb (imax c.fy c.ty*a.d)-a.y)*b.d))) ((Qa Qb (0-BY))) m k (by rw [ra',rm1]; exact ⟨by omega,hbd.2.1,by omega,hbd.2.2.2⟩) (by rw [ra']; omega) (by rw [ra',rm1]; exact hR),by dsimp only; omega⟩
    ·rw [Zi5 (by omega) hc] at hR
     generalize cmpQ (-A) (-BY) n d=Q at *
     refine bs.av (sx:=nos) Yy ?_
     repeat'(first|refine wk3 ?_|(refine wk2 ?_ ?_<;>intro _)|refine wk4 ?_|fail);all_goals(conv=>whnf)
     exact Ql ⟨(2,n,d,m,k),[],rfl,kps,kps,fin _ _ _ _ hbd hnm hR,by dsimp only; omega⟩
   ·subst hv
    rw [show (-0:Int)=0 by decide] at hR
    by_cases hneg:A<0
    ·rw [Zhb hneg] at hR
     rw [<-hR]
     refine bs.av (sx:=nos) Yy ?_
     repeat'(first|refine wk3 ?_|(refine wk2 ?_ ?_<;>intro _)|refine wk4 ?_|fail);all_goals(conv=>whnf)
     exact Za rfl
    ·rw [Zhc hneg] at hR
     refine bs.av (sx:=nos) Yy ?_
     repeat'(first|refine wk3 ?_|(refine wk2 ?_ ?_<;>intro _)|refine wk4 ?_|fail);all_goals(conv=>whnf)
     exact Ql ⟨(2,n,d,m,k),[],rfl,kps,kps,fin _ _ _ _ hbd hnm hR,by dsimp only; omega⟩
   ·skip
    have ht:cmps [I (Qa Qb (Qa Qb (Qa Qb (imax c.fy c.ty*a.d)-a.y)*b.d)),I (Qa Qb (0-Qa Qb (0-BY))),I m,I k]=some ⟨I (cmpQ A (-(-BY)) m k),[]⟩:=by rw [ra,rm2,Ty]; exact Vf (d:=_) ⟨by omega,⟨hbd.2.1.1,by have:=hbd.2.1.2; omega⟩,by omega,by have:=hbd.2.2.2; omega⟩
    by_cases hc:cmpQ A (-(-BY)) m k<0
    ·rw [Znt (by omega) hc] at hR
     have hA:A <= -(-BY):=Ztr hc hbd.2.1.1 hnm.2 (by omega)
     generalize cmpQ A (-(-BY)) m k=Q at *
     refine bs.av (sx:=nos) Yy ?_
     repeat'(first|refine wk3 ?_|(refine wk2 ?_ ?_<;>intro _)|refine wk4 ?_|fail);all_goals(conv=>whnf)
     exact Ql ⟨(2,n,d,Qa Qb (Qa Qb (Qa Qb (imax c.fy c.ty*a.d)-a.y)*b.d),(Qa Qb (0-Qa Qb (0-BY)))),[],rfl,kps,kps,fin n d (Qa Qb (Qa Qb (Qa Qb (imax c.fy c.ty*a.d)-a.y)*b.d)) ((Qa Qb (0-Qa Qb (0-BY)))) (by rw [ra,rm2]; exact ⟨hbd.1,by omega,hbd.2.2.1,by omega⟩) (by rw [ra,rm2]; omega) (by rw [ra,rm2,<-Ty BY]; exact hR),by dsimp only; omega⟩
    ·rw [Zi6 (by omega) hc] at hR
     generalize cmpQ A (-(-BY)) m k=Q at *
     refine bs.av (sx:=nos) Yy ?_
     repeat'(first|refine wk3 ?_|(refine wk2 ?_ ?_<;>intro _)|refine wk4 ?_|fail);all_goals(conv=>whnf)
     exact Ql ⟨(2,n,d,m,k),[],rfl,kps,kps,fin _ _ _ _ hbd hnm hR,by dsimp only; omega⟩
  ·refine bs.av (sx:=nos) Yy ?_
   repeat'(first|refine wk3 ?_|(refine wk2 ?_ ?_<;>intro _)|refine wk4 ?_|fail);all_goals(conv=>whnf)
   refine Ry (bs.av (sx:=nos) Yy ?_)
   have t1:=Vf hbd.ok
   have t2:=Vf (n:=n) (d:=d) (m:=1) (k:=1) ⟨hbd.ok.1,by omega,hbd.ok.2.2.1,by omega⟩
   have t3:=Vf (n:=m) (d:=k) (m:=0) (k:=1) ⟨hbd.ok.2.1,by omega,hbd.ok.2.2.2,by omega⟩
   rw [Yu] at hR
   subst hR
   generalize cmpQ n d m k=q1 at *
   generalize cmpQ n d 1 1=q2 at *
   generalize cmpQ m k 0 1=q3 at *
   repeat'(first|refine wk0 ?_|(refine wk2 ?_ ?_<;>intro _)|refine wk4 ?_|fail);all_goals(conv=>whnf)
   all_goals exact Za (by clear t1 t2 t3 h2 h3 y1 y3 hbd hnm; simp_all<;>(try (intros; omega)))
end Go.Proofs.YtdaliaafmcjikaaGreat
