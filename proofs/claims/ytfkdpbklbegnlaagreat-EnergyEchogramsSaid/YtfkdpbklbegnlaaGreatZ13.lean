/- A part of the proof: lemmas. -/
import Derived.Test.YtfkdpbklbegnlaaGreatZ12
import Derived.Test.YtfkdpbklbegnlaaGreatZ11
import Derived.Test.YtfkdpbklbegnlaaGreatZ9
set_option linter.unusedVariables false
set_option linter.unusedSimpArgs false
set_option maxRecDepth 100000
set_option maxHeartbeats 16000000
open Bool renaming and_eq_true->Qc,eq_iff_iff->Rz,not_eq_true'->Sz,or_eq_true->Qz
open Go.IntKind renaming i64->Qb,wrap->Qa
open Go.Sx.LpM renaming start->Su,succ->Qx
open Int renaming add_comm->Pa,ediv_le_ediv->Kr,ediv_le_self->Ks,ediv_nonneg->Ts,le_of_lt->Qu,lt_or_le->Nb,mul_assoc->Tc,mul_comm->Re,mul_eq_zero->Lk,mul_le_mul_of_nonneg_left->Rk,mul_le_mul_of_nonneg_right->Qg,mul_lt_mul_of_pos_right->Tg,mul_neg->Sf,mul_nonneg->Qq,mul_one->Sl,mul_pos->Rm,mul_zero->Tf,natAbs_mul->Nl,natAbs_natCast->Lt,ofNat_dvd_left->Lr,one_mul->Ph,sub_mul->Lw,tdiv_eq_ediv_of_nonneg->Om
open List renaming drop_eq_getElem_cons->Qi,drop_of_length_le->Qk,map_congr_left->Ni,map_cons->Ti,mem_cons->Rb
open Nat renaming beq->Qp,dvd_trans->Ky,gcd->Tl,gcd_dvd_left->Gc,gcd_dvd_right->Mc,gcd_mul_right->Hm
namespace Go.Proofs.YtfkdpbklbegnlaaGreat
open Go Go.Sx
structure PtR (p:Pt):Prop where
 d0:0<p.d
 d1:p.d<=100000
 x : -(5000*p.d)<=p.x/\p.x<=5000*p.d
 y : -(5000*p.d)<=p.y/\p.y<=5000*p.d
theorem PtR.ok {p:Pt} (h:PtR p):PtOk p.x p.y p.d:=by
 obtain ⟨h1,h2,h3,h4⟩:=h
 exact ⟨h1,by omega,by omega,by omega⟩
def Pt.pl (p:Pt):P2d:=⟨p.x,p.y,p.d⟩
def cmpQ (n d m k:Int):Int:=sgn (n*k-m*d)
def Zdh (l:Ln) (a b:Pt):Bool :=
  if l.beside a=0/\l.beside b=0 then
    (if cmpQ (l.along a) a.d (l.along b) b.d=0 then within (l.along a) 0 (Qa Qb (l.full*a.d))
     else if cmpQ (l.along a) a.d (l.along b) b.d<0 then decide (0<l.along b)&&decide (l.along a<Qa Qb (l.full*a.d))
     else decide (0<l.along a)&&decide (l.along b<Qa Qb (l.full*b.d)))
  else if 0<=Qa Qb (sgn (l.beside a)*sgn (l.beside b)) then false
  else if Qa Qb (Qa Qb (l.beside b*a.d)-Qa Qb (l.beside a*b.d))<0 then
    decide (0<=Qa Qb (0-Qa Qb (Qa Qb (l.along a*l.beside b)-Qa Qb (l.along b*l.beside a))))&&decide (cmpQ (Qa Qb (0-Qa Qb (Qa Qb (l.along a*l.beside b)-Qa Qb (l.along b*l.beside a)))) (Qa Qb (0-Qa Qb (Qa Qb (l.beside b*a.d)-Qa Qb (l.beside a*b.d)))) l.full 1<=0)
  else decide (0<=Qa Qb (Qa Qb (l.along a*l.beside b)-Qa Qb (l.along b*l.beside a)))&&decide (cmpQ (Qa Qb (Qa Qb (l.along a*l.beside b)-Qa Qb (l.along b*l.beside a))) (Qa Qb (Qa Qb (l.beside b*a.d)-Qa Qb (l.beside a*b.d))) l.full 1<=0)
theorem Zu8 {w:Wl} {n sx sy:Int} (h:Str w n sx sy) {p:Pt} (hp:PtR p):(-2000000000<=bsP w sx sy p.pl/\bsP w sx sy p.pl<=2000000000)/\(-2000000000<=alP w sx sy p.pl/\alP w sx sy p.pl<=2000000000):=by
 have a1:=Zj h.b1 hp.d0
 have a2:=Zj h.b2 hp.d0
 have a3:=hp.d1
 have a4:=hp.x
 have a5:=hp.y
 unfold bsP alP bes alo Pt.pl
 dsimp only
 generalize w.fx*p.d=A at *
 generalize w.fy*p.d=C at *
 rcases h.hx with rfl|rfl|rfl<;>rcases h.hy with rfl|rfl|rfl<;>omega
theorem Zy3 {w:Wl} {n sx sy:Int} (h:Str w n sx sy):0<ful n sx sy/\ful n sx sy<=20000:=by
 refine ⟨Ygq h,?_⟩
 have:=h.nle
 have:=h.hn
 unfold ful
 rcases h.hx with rfl|rfl|rfl<;>rcases h.hy with rfl|rfl|rfl<;>omega
theorem Zr9 {w:Wl} {n sx sy:Int} (h:Str w n sx sy) {p q:Pt} (hp:PtR p) (hq:PtR q):Zdh w.ln p q=true↔Zap w n sx sy p.pl q.pl:=by
 have ep:w.ln.beside p=bsP w sx sy p.pl:=Vr (z:=p.z) h hp.ok
 have eq:w.ln.beside q=bsP w sx sy q.pl:=Vr (z:=q.z) h hq.ok
 have ap:w.ln.along p=alP w sx sy p.pl:=Zfg (z:=p.z) h hp.ok
 have aq:w.ln.along q=alP w sx sy q.pl:=Zfg (z:=q.z) h hq.ok
 have ef:w.ln.full=ful n sx sy:=Zn9 h
 obtain ⟨b1,b2⟩:=Zu8 h hp
 obtain ⟨b3,b4⟩:=Zu8 h hq
 obtain ⟨f1,f2⟩:=Zy3 h
 have dp:=hp.d0
 have dp1:=hp.d1
 have dq:=hq.d0
 have dq1:=hq.d1
 have F1:=Zn (a:=ful n sx sy) (b:=p.d) (A:=20000) (B:=100000) (by omega) (by omega)
 have F2:=Zn (a:=ful n sx sy) (b:=q.d) (A:=20000) (B:=100000) (by omega) (by omega)
 have P1:=Rm f1 dp
 have P2:=Rm f1 dq
 unfold Zdh
 rw [ep,eq,ap,aq,ef]
 by_cases h0:bsP w sx sy p.pl=0/\bsP w sx sy q.pl=0
 ·rw [if_pos h0,Zmq h h0.1 h0.2]
  rw [W_eq (n:=ful n sx sy*p.d) (by omega) (by omega),W_eq (n:=ful n sx sy*q.d) (by omega) (by omega)]
  unfold cmpQ
  show _↔spans _ _ (ful n sx sy*p.d-_) (ful n sx sy*q.d-_)
  have key:alP w sx sy p.pl*(ful n sx sy*q.d-alP w sx sy q.pl)-alP w sx sy q.pl*(ful n sx sy*p.d-alP w sx sy p.pl)=ful n sx sy*(alP w sx sy p.pl*q.d-alP w sx sy q.pl*p.d):=by grind
  generalize alP w sx sy p.pl=a at *
  generalize alP w sx sy q.pl=b at *
  by_cases c1:sgn (a*q.d-b*p.d)=0
  ·rw [if_pos c1,within_iff]
   rw [Vz] at c1;rw [c1] at key;rw [Ybk (by omega) (by omega) (by omega)];omega
  ·rw [if_neg c1]
   by_cases c2:sgn (a*q.d-b*p.d)<0
   ·rw [if_pos c2,Qc,decide_eq_true_eq,decide_eq_true_eq]
    rw [Xq,<-Zdi f1] at c2;rw [Ztm (by omega) (by omega) (by omega)];omega
   ·rw [if_neg c2,Qc,decide_eq_true_eq,decide_eq_true_eq]
    have c3:0<a*q.d-b*p.d:=by
     rw [<-Xp]; omega
    rw [<-Zby f1] at c3;rw [Znn (by omega) (by omega) (by omega)];omega
 ·rw [if_neg h0,Zey]
  by_cases h1:0<=sgn (bsP w sx sy p.pl)*sgn (bsP w sx sy q.pl)
  ·rw [if_pos h1]
   exact ⟨fun h=>by simp at h,fun h=>absurd h (Zmp h0 h1)⟩
  ·rw [if_neg h1]
   have h2:=sgn_mul_neg.1 (show sgn (bsP w sx sy p.pl)*sgn (bsP w sx sy q.pl)<0 by omega);generalize hf:bsP w sx sy p.pl=f at *;generalize hg:bsP w sx sy q.pl=g at *;have m1:=Zn (a:=alP w sx sy p.pl) (b:=g) (A:=2000000000) (B:=2000000000) (by omega) (by omega);have m2:=Zn (a:=alP w sx sy q.pl) (b:=f) (A:=2000000000) (B:=2000000000) (by omega) (by omega);have m3:=Zn (a:=g) (b:=p.d) (A:=2000000000) (B:=100000) (by omega) (by omega);have m4:=Zn (a:=f) (b:=q.d) (A:=2000000000) (B:=100000) (by omega) (by omega)
   rw [W_eq (n:=alP w sx sy p.pl*g) (by omega) (by omega),W_eq (n:=alP w sx sy q.pl*f) (by omega) (by omega),W_eq (n:=g*p.d) (by omega) (by omega),W_eq (n:=f*q.d) (by omega) (by omega)];rw [W_eq (n:=alP w sx sy p.pl*g-alP w sx sy q.pl*f) (by omega) (by omega),W_eq (n:=g*p.d-f*q.d) (by omega) (by omega)]
   rcases h2 with h2|h2
   ·have k1:=(Zby dp).2 h2.2
    have k2:=(Zdi dq).2 h2.1;rw [if_neg (by rw [Re g,Re f]; omega),Zdj hf hg h2,Qc,decide_eq_true_eq,decide_eq_true_eq];unfold cmpQ;rw [Ztq,Sl,Re (alP w sx sy p.pl),Re (alP w sx sy q.pl)]
    show _↔_/\_<=ful n sx sy*(g*p.d-f*q.d)
    omega
   ·have k1:=(Zdi dp).2 h2.2
    have k2:=(Zby dq).2 h2.1;rw [if_pos (by rw [Re g,Re f]; omega),Zmo,Zdj hg hf (by omega),Qc,decide_eq_true_eq,decide_eq_true_eq];rw [W_eq (n:=0-(alP w sx sy p.pl*g-alP w sx sy q.pl*f)) (by omega) (by omega),W_eq (n:=0-(g*p.d-f*q.d)) (by omega) (by omega)];unfold cmpQ;rw [Ztq,Sl,Re (alP w sx sy p.pl),Re (alP w sx sy q.pl),Int.zero_sub (g*p.d-f*q.d),Int.neg_sub]
    show _↔_/\_<=ful n sx sy*(f*q.d-g*p.d)
    omega
def Zrt (p q:Pt):Int:=Qa Qb (Qa Qb (q.x*p.d)-Qa Qb (p.x*q.d))
def Zrs (p q:Pt):Int:=Qa Qb (Qa Qb (q.y*p.d)-Qa Qb (p.y*q.d))
def cmpP (a b c d:Int):Int:=sgn (a*b-c*d)
def Zh5 (p q:Pt) (x y:Int):Int:=cmpP (Zrt p q) (Qa Qb (Qa Qb (y*p.d)-p.y)) (Zrs p q) (Qa Qb (Qa Qb (x*p.d)-p.x))
def ovl (fr den to oth a b:Int):Bool:=decide (imin (Qa Qb (fr*oth)) (Qa Qb (to*den))<Qa Qb (Qa Qb (imax a b*den)*oth))&&decide (Qa Qb (Qa Qb (imin a b*den)*oth)<imax (Qa Qb (fr*oth)) (Qa Qb (to*den)))
def touP (p q:Pt) (w:Wl):Bool :=
 if Zrt p q=0/\Zrs p q=0 then w.has p.x p.y p.d
 else if w.side p.x p.y p.d=0/\w.side q.x q.y q.d=0 then (if w.fx=w.tx then ovl p.y p.d q.y q.d w.fy w.ty else ovl p.x p.d q.x q.d w.fx w.tx)
 else if 0<=Qa Qb (w.side p.x p.y p.d*w.side q.x q.y q.d) then false
 else decide (Qa Qb (Zh5 p q w.fx w.fy*Zh5 p q w.tx w.ty)<=0)
theorem Ydr {p q:Pt} (hp:PtR p) (hq:PtR q):Zrt p q=q.x*p.d-p.x*q.d/\Zrs p q=q.y*p.d-p.y*q.d:=by
 obtain ⟨a1,a2,a3,a4⟩:=hp
 obtain ⟨b1,b2,b3,b4⟩:=hq
 have m1:=Zn (a:=q.x) (b:=p.d) (A:=500000000) (B:=100000) (by omega) (by omega)
 have m2:=Zn (a:=p.x) (b:=q.d) (A:=500000000) (B:=100000) (by omega) (by omega)
 have m3:=Zn (a:=q.y) (b:=p.d) (A:=500000000) (B:=100000) (by omega) (by omega)
 have m4:=Zn (a:=p.y) (b:=q.d) (A:=500000000) (B:=100000) (by omega) (by omega)
 unfold Zrt Zrs
 rw [W_eq (n:=q.x*p.d) (by omega) (by omega),W_eq (n:=p.x*q.d) (by omega) (by omega),W_eq (n:=q.y*p.d) (by omega) (by omega),W_eq (n:=p.y*q.d) (by omega) (by omega)]
 exact ⟨W_eq (by omega) (by omega),W_eq (by omega) (by omega)⟩
theorem Zmc {p q:Pt} (hp:PtR p) (hq:PtR q) {x y:Int} (hx : -5000<=x/\x<=5000) (hy : -5000<=y/\y<=5000):Zh5 p q x y=sgn ((q.x*p.d-p.x*q.d)*(y*p.d-p.y)-(q.y*p.d-p.y*q.d)*(x*p.d-p.x)):=by
 obtain ⟨e1,e2⟩:=Ydr hp hq
 obtain ⟨a1,a2,a3,a4⟩:=hp
 have c1:=Zj hx a1
 have c2:=Zj hy a1
 unfold Zh5 cmpP
 rw [e1,e2,W_eq (n:=y*p.d) (by omega) (by omega),W_eq (n:=x*p.d) (by omega) (by omega),W_eq (n:=y*p.d-p.y) (by omega) (by omega),W_eq (n:=x*p.d-p.x) (by omega) (by omega)]
theorem Zxy {x d x' d' fx n e s:Int} (he:e=1\/e = -1) (hn:0<n/\n<=10000) (hs:0<s) (hd:0<d/\d<=100000) (hd' : 0<d'/\d'<=100000) (hx : -(5000*d)<=x/\x<=5000*d) (hx' : -(5000*d')<=x'/\x'<=5000*d') (hf : -5000<=fx/\fx<=5000) (ht : -5000<=fx+n*e/\fx+n*e<=5000) (hne:x'*d-x*d'≠0) :
  ovl x d x' d' fx (fx+n*e)=true↔spans (s*(e*(x-fx*d))) (s*(e*(x'-fx*d'))) (n*s*d-s*(e*(x-fx*d))) (n*s*d'-s*(e*(x'-fx*d'))):=by
 have m1:=Zn (a:=x) (b:=d') (A:=500000000) (B:=100000) (by omega) (by omega)
 have m2:=Zn (a:=x') (b:=d) (A:=500000000) (B:=100000) (by omega) (by omega)
 have c1:=Zj hf hd.1
 have c2:=Zj ht hd.1
 have m3:=Zn (a:=fx*d) (b:=d') (A:=500000000) (B:=100000) (by omega) (by omega)
 have m4:=Zn (a:=(fx+n*e)*d) (b:=d') (A:=500000000) (B:=100000) (by omega) (by omega)
 unfold ovl
 rw [Zaw,Zaw,Zax,Zax,Zca hd.1,Zcb hd.1]
 rw [W_eq (n:=x*d') (by omega) (by omega),W_eq (n:=x'*d) (by omega) (by omega),W_eq (n:=min (fx*d) ((fx+n*e)*d)) (by omega) (by omega),W_eq (n:=max (fx*d) ((fx+n*e)*d)) (by omega) (by omega)]
 rw [Zca hd'.1,Zcb hd'.1,W_eq (n:=min (fx*d*d') ((fx+n*e)*d*d')) (by omega) (by omega),W_eq (n:=max (fx*d*d') ((fx+n*e)*d*d')) (by omega) (by omega)]
 rw [Qc,decide_eq_true_eq,decide_eq_true_eq]
 have eT:(fx+n*e)*d*d'=fx*d*d'+e*(n*d*d'):=by grind
 rw [eT]
 have hT:0<n*d*d':=Rm (Rm hn.1 hd.1) hd'.1
 have hsn:0<s*n:=Rm hs hn.1
 have g1:0<s*(e*(x-fx*d))+(n*s*d-s*(e*(x-fx*d))):=by
  have:s*(e*(x-fx*d))+(n*s*d-s*(e*(x-fx*d)))=s*n*d:=by grind
  rw [this]; exact Rm hsn hd.1
 have g2:0<s*(e*(x'-fx*d'))+(n*s*d'-s*(e*(x'-fx*d'))):=by
  have:s*(e*(x'-fx*d'))+(n*s*d'-s*(e*(x'-fx*d')))=s*n*d':=by grind
  rw [this]; exact Rm hsn hd'.1
 have key:s*(e*(x-fx*d))*(n*s*d'-s*(e*(x'-fx*d')))-s*(e*(x'-fx*d'))*(n*s*d-s*(e*(x-fx*d)))=s*(s*n)*(e*(x*d'-x'*d)):=by grind
 have hss:0<s*(s*n):=Rm hs hsn
 have p1:∀ v:Int,0<v↔0<v*d':=fun v=>by rw [Re]; exact (Zby hd'.1).symm
 have p2:∀ v:Int,0<v↔0<v*d:=fun v=>by rw [Re]; exact (Zby hd.1).symm
 have q1:n*s*d-s*(e*(x-fx*d))=s*(n*d-e*(x-fx*d)):=by grind
 have q2:n*s*d'-s*(e*(x'-fx*d'))=s*(n*d'-e*(x'-fx*d')):=by grind
 have r1:(e*(x-fx*d))*d'=e*(x*d'-fx*d*d'):=by grind
 have r2:(e*(x'-fx*d'))*d=e*(x'*d-fx*d*d'):=by grind
 have r3:(n*d-e*(x-fx*d))*d'=n*d*d'-e*(x*d'-fx*d*d'):=by grind
 have r4:(n*d'-e*(x'-fx*d'))*d=n*d*d'-e*(x'*d-fx*d*d'):=by grind
 by_cases hc:0<e*(x*d'-x'*d)
 ·have:=(Zby hss).2 hc
  rw [Znn g1 g2 (by omega),Zby hs,q2,Zby hs,p1,p2 (n*d'-_),r1,r4]
  clear key g1 g2 q1 q2 r1 r2 r3 r4 eT
  generalize x*d'=U at *
  generalize x'*d=V at *
  generalize fx*d*d'=B at *
  generalize n*d*d'=T at *
  rcases he with rfl|rfl<;>omega
 ·have hc2:e*(x*d'-x'*d)<0:=by rcases he with rfl|rfl<;>omega
  have:=(Zdi hss).2 hc2
  rw [Ztm g1 g2 (by omega),Zby hs,q1,Zby hs,p2,p1 (n*d-_),r2,r3]
  clear key g1 g2 q1 q2 r1 r2 r3 r4 eT
  generalize x*d'=U at *
  generalize x'*d=V at *
  generalize fx*d*d'=B at *
  generalize n*d*d'=T at *
  rcases he with rfl|rfl<;>omega
theorem Zgr {w:Wl} {n sx sy:Int} (h:Str w n sx sy) {p q:Pt} (hp:PtR p) (hq:PtR q):touP p q w=true↔Zap w n sx sy p.pl q.pl:=by
 obtain ⟨e1,e2⟩:=Ydr hp hq
 have s1:w.side p.x p.y p.d=sgn (bsP w sx sy p.pl):=Xw h hp.ok
 have s2:w.side q.x q.y q.d=sgn (bsP w sx sy q.pl):=Xw h hq.ok
 have t1:=Zmc hp hq h.b1 h.b2
 have t2:=Zmc hp hq h.b3 h.b4
 have dp:=hp.d0
 have dq:=hq.d0
 have hn:=h.hn
 have hxy:=h.hxy
 obtain ⟨f1,f2⟩:=Zy3 h
 have D1:bsP w sx sy q.pl*p.d-bsP w sx sy p.pl*q.d=sx*(q.y*p.d-p.y*q.d)-sy*(q.x*p.d-p.x*q.d):=by unfold bsP bes Pt.pl; dsimp only; grind
 have D2:alP w sx sy q.pl*p.d-alP w sx sy p.pl*q.d=sx*(q.x*p.d-p.x*q.d)+sy*(q.y*p.d-p.y*q.d):=by unfold alP alo Pt.pl; dsimp only; grind
 unfold touP
 rw [e1,e2]
 by_cases h0:q.x*p.d-p.x*q.d=0/\q.y*p.d-p.y*q.d=0
 ·rw [if_pos h0,Za4 h hp.ok]
  rw [h0.1,h0.2] at D1 D2
  unfold onW Zap
  show bsP w sx sy p.pl=0/\0<=alP w sx sy p.pl/\alP w sx sy p.pl<=ful n sx sy*p.d↔_
  show _↔∃ l m:Int,0<l/\0<m/\_/\_/\_<=ful n sx sy*(l*p.d+m*q.d)
  generalize bsP w sx sy p.pl=f at *
  generalize bsP w sx sy q.pl=g at *
  generalize alP w sx sy p.pl=a at *
  generalize alP w sx sy q.pl=b at *
  generalize ful n sx sy=F at *
  have D1:g*p.d=f*q.d:=by omega
  have D2:b*p.d=a*q.d:=by omega
  constructor
  ·rintro ⟨h1,h2,h3⟩
   refine ⟨1,1,by omega,by omega,?_,?_,?_⟩
   ·rw [h1] at D1
    have:g*p.d=0:=by omega
    rcases Lk.1 this with k|k<;>omega
   ·have:0<=p.d*b:=by rw [Re,D2]; exact Qq h2 (by omega)
    have:=(nn_l dp).1 this;omega
   ·have:p.d*(F*q.d-b)=q.d*(F*p.d-a):=by grind
    have k:=Qq (show 0<=q.d by omega) (show 0<=F*p.d-a by omega);rw [<-this] at k;have k:=(nn_l dp).1 k;have:F*(1*p.d+1*q.d)=F*p.d+F*q.d:=by grind
    omega
  ·rintro ⟨l,m,hl,hm,k1,k2,k3⟩
   have hz:0<l*p.d+m*q.d:=by have:=Rm hl dp; have:=Rm hm dq; omega
   refine ⟨?_,?_,?_⟩
   ·have:(l*p.d+m*q.d)*f=p.d*(l*f+m*g):=by grind
    rw [k1,Tf] at this
    rcases Lk.1 this with k|k<;>omega
   ·have:(l*p.d+m*q.d)*a=p.d*(l*a+m*b):=by grind
    have k:=Qq (show 0<=p.d by omega) k2;rw [<-this] at k;exact (nn_l hz).1 k
   ·have:(l*p.d+m*q.d)*(F*p.d-a)=p.d*(F*(l*p.d+m*q.d)-(l*a+m*b)):=by grind
    have k:=Qq (show 0<=p.d by omega) (show 0<=F*(l*p.d+m*q.d)-(l*a+m*b) by omega);rw [<-this] at k;have:=(nn_l hz).1 k;omega
 ·rw [if_neg h0,s1,s2]
  by_cases h1:bsP w sx sy p.pl=0/\bsP w sx sy q.pl=0
  ·rw [if_pos (by rw [Vz,Vz]; exact h1),Zmq h h1.1 h1.2]
   rw [h1.1,h1.2] at D1;have hnn:=h.nle
   show _↔spans _ _ (ful n sx sy*p.d-_) (ful n sx sy*q.d-_)
   obtain ⟨z1,z2⟩:=h1;have b1:=h.b1;have b2:=h.b2;have b3:=h.b3;have b4:=h.b4;have etx:=h.tx;have ety:=h.ty;rw [etx] at b3;rw [ety] at b4
   by_cases hs:sx=0
   ·subst hs
    rw [if_pos (by rw [etx]; omega)];have hy:sy=1\/sy = -1:=by have:=h.hy; omega
    have k:=Zxy (s:=1) (e:=sy) (x:=p.y) (d:=p.d) (x':=q.y) (d':=q.d) hy ⟨hn,hnn⟩ (by omega) ⟨dp,hp.d1⟩ ⟨dq,hq.d1⟩ hp.y hq.y b2 b4 (by
     rcases hy with rfl|rfl<;>omega)
    rw [<-ety] at k;rw [k];have v1:alP w 0 sy p.pl=1*(sy*(p.y-w.fy*p.d)):=by unfold alP alo Pt.pl; dsimp only; grind
    have v2:alP w 0 sy q.pl=1*(sy*(q.y-w.fy*q.d)):=by unfold alP alo Pt.pl; dsimp only; grind
    have v3:ful n 0 sy=n*1:=by unfold ful; rcases hy with rfl|rfl<;>rfl
    rw [v1,v2,v3]
   ·have hx:sx=1\/sx = -1:=by have:=h.hx; omega
    rw [if_neg (by rw [etx]; rcases hx with rfl|rfl<;>omega)];have hsx:sx*sx=1:=by rcases hx with rfl|rfl<;>rfl
    have hS:0<1+sy*sy:=by rcases h.hy with rfl|rfl|rfl<;>decide
    have k:=Zxy (s:=1+sy*sy) (e:=sx) (x:=p.x) (d:=p.d) (x':=q.x) (d':=q.d) hx ⟨hn,hnn⟩ hS ⟨dp,hp.d1⟩ ⟨dq,hq.d1⟩ hp.x hq.x b1 b3 (by
     intro hz;refine h0 ⟨hz,?_⟩;rw [hz] at D1
     rcases hx with rfl|rfl<;>omega)
    rw [<-etx] at k;rw [k];have w1:sx*(p.y-w.fy*p.d)=sy*(p.x-w.fx*p.d):=by unfold bsP bes Pt.pl at z1; dsimp only at z1; omega
    have w2:sx*(q.y-w.fy*q.d)=sy*(q.x-w.fx*q.d):=by unfold bsP bes Pt.pl at z2; dsimp only at z2; omega
    have v1:alP w sx sy p.pl=(1+sy*sy)*(sx*(p.x-w.fx*p.d)):=by
     unfold alP alo Pt.pl; dsimp only;generalize p.x-w.fx*p.d=u at *;generalize p.y-w.fy*p.d=v at *;have:v=sx*(sy*u):=by rw [<-w1,<-Tc,hsx,Ph]
     rw [this]; grind
    have v2:alP w sx sy q.pl=(1+sy*sy)*(sx*(q.x-w.fx*q.d)):=by
     unfold alP alo Pt.pl; dsimp only;generalize q.x-w.fx*q.d=u at *;generalize q.y-w.fy*q.d=v at *;have:v=sx*(sy*u):=by rw [<-w2,<-Tc,hsx,Ph]
     rw [this]; grind
    have v3:ful n sx sy=n*(1+sy*sy):=by unfold ful; rw [hsx]
    rw [v1,v2,v3]
  ·rw [if_neg (by rw [Vz,Vz]; exact h1),Zey]
   by_cases h2:0<=sgn (bsP w sx sy p.pl)*sgn (bsP w sx sy q.pl)
   ·rw [if_pos h2]
    exact ⟨fun h=>by simp at h,fun h=>absurd h (Zmp h1 h2)⟩
   ·rw [if_neg h2,t1,t2,Zey,decide_eq_true_eq]
    have h3:=sgn_mul_neg.1 (show sgn (bsP w sx sy p.pl)*sgn (bsP w sx sy q.pl)<0 by omega);have K1:(q.x*p.d-p.x*q.d)*(w.fy*p.d-p.y)-(q.y*p.d-p.y*q.d)*(w.fx*p.d-p.x)=p.d*((p.x-w.fx*p.d)*(q.y-w.fy*q.d)-(q.x-w.fx*q.d)*(p.y-w.fy*p.d)):=by grind
    have K2:(q.x*p.d-p.x*q.d)*(w.ty*p.d-p.y)-(q.y*p.d-p.y*q.d)*(w.tx*p.d-p.x)=p.d*((p.x-w.fx*p.d)*(q.y-w.fy*q.d)-(q.x-w.fx*q.d)*(p.y-w.fy*p.d)-n*(bsP w sx sy q.pl*p.d-bsP w sx sy p.pl*q.d)):=by
     rw [h.tx,h.ty]; unfold bsP bes Pt.pl; dsimp only; grind
    rw [K1,K2,Zr1 dp,Zr1 dp,Zvr]
    have K3:bsP w sx sy q.pl*alP w sx sy p.pl-bsP w sx sy p.pl*alP w sx sy q.pl=(sx*sx+sy*sy)*((p.x-w.fx*p.d)*(q.y-w.fy*q.d)-(q.x-w.fx*q.d)*(p.y-w.fy*p.d)):=by
     unfold bsP bes alP alo Pt.pl; dsimp only; grind
    have hS:0<sx*sx+sy*sy:=by rcases h.hx with rfl|rfl|rfl<;>rcases h.hy with rfl|rfl|rfl<;>(try (exact absurd ⟨rfl,rfl⟩ hxy))<;>decide
    generalize (p.x-w.fx*p.d)*(q.y-w.fy*q.d)-(q.x-w.fx*q.d)*(p.y-w.fy*p.d)=K at *;have e3:ful n sx sy=(sx*sx+sy*sy)*n:=by unfold ful; rw [Re]
    generalize sx*sx+sy*sy=S at *;generalize hf:bsP w sx sy p.pl=f at *;generalize hg:bsP w sx sy q.pl=g at *
    rcases h3 with h3|h3
    ·have k1:=(Zby dp).2 h3.2
     have k2:=(Zdi dq).2 h3.1;have hD:0<n*(g*p.d-f*q.d):=(Zby hn).2 (by rw [Re g,Re f]; omega);rw [Zdj hf hg h3,K3,e3]
     show _↔_/\_<=S*n*(g*p.d-f*q.d)
     rw [nn_l hS,Tc S n];have:S*K<=S*(n*(g*p.d-f*q.d))↔K<=n*(g*p.d-f*q.d):=by rw [Re S,Re S]; exact Zua hS
     rw [this];omega
    ·have k1:=(Zdi dp).2 h3.2
     have k2:=(Zby dq).2 h3.1;have hD:n*(g*p.d-f*q.d)<0:=(Zdi hn).2 (by rw [Re g,Re f]; omega);have K4:f*alP w sx sy q.pl-g*alP w sx sy p.pl=S * -K:=by rw [Sf,<-K3]; omega
     rw [Zmo,Zdj hg hf (by omega),K4,e3]
     show _↔_/\_<=S*n*(f*q.d-g*p.d)
     have e4:n*(f*q.d-g*p.d) = -(n*(g*p.d-f*q.d)):=by rw [<-Sf,Int.neg_sub]
     rw [nn_l hS,Tc S n,e4];have:S * -K<=S * -(n*(g*p.d-f*q.d)) ↔ -K <= -(n*(g*p.d-f*q.d)):=by rw [Re S,Re S]; exact Zua hS
     rw [this];omega
def crV (N M:P2d) (D x y:Int):Int:=(M.x-N.x)*(y*D-N.y)-(M.y-N.y)*(x*D-N.x)
def tch (N M:P2d) (D ax ay bx by' : Int):Prop:=∃ s t l m:Int,0<=s/\0<=t/\0<s+t/\0<=l/\0<=m/\0<l+m/\(l*N.x+m*M.x)*(s+t)=(l+m)*(D*(s*ax+t*bx))/\(l*N.y+m*M.y)*(s+t)=(l+m)*(D*(s*ay+t*by'))
theorem Ybd {N M:P2d} {D ax ay bx by' : Int} (h:tch N M D ax ay bx by'):tch N M D bx by' ax ay:=by
 obtain ⟨s,t,l,m,h1,h2,h3,h4,h5,h6,h7,h8⟩:=h
 exact ⟨t,s,l,m,h2,h1,by omega,h4,h5,h6,by rw [Pa t s,Pa (t*bx)]; exact h7,by rw [Pa t s,Pa (t*by')]; exact h8⟩
theorem Ybc {N M:P2d} {D ax ay bx by' : Int} (h:tch N M D ax ay bx by'):tch M N D ax ay bx by':=by
 obtain ⟨s,t,l,m,h1,h2,h3,h4,h5,h6,h7,h8⟩:=h
 exact ⟨s,t,m,l,h1,h2,h3,h5,h4,by omega,by rw [Pa m l,Pa (m*M.x)]; exact h7,by rw [Pa m l,Pa (m*M.y)]; exact h8⟩
theorem Yhq {N M:P2d} {D ax ay bx by' : Int} (hy:N.y<M.y) {s t:Int} (hs:0<=s) (ht:0<=t) (hw:0<s+t) (h1:N.y*(s+t)<=D*(s*ay+t*by')) (h2:D*(s*ay+t*by')<=M.y*(s+t)) (h0:s*crV N M D ax ay+t*crV N M D bx by'=0):tch N M D ax ay bx by':=by
 refine ⟨s,t,M.y*(s+t)-D*(s*ay+t*by'),D*(s*ay+t*by')-N.y*(s+t),hs,ht,hw,by omega,by omega,?_,?_,?_⟩
 ·have:(M.y-N.y)*(s+t)=M.y*(s+t)-N.y*(s+t):=Lw _ _ _
  have:=Rm (show 0<M.y-N.y by omega) hw
  omega
 ·unfold crV at h0
  grind
 ·grind
theorem Ye8 {N M:P2d} {D ax ay bx by' : Int} (hy:N.y<M.y) {s t s' t' : Int} (hs:0<=s) (ht:0<=t) (hw:0<s+t) (hs' : 0<=s') (ht' : 0<=t') (hw' : 0<s'+t') (h1:N.y*(s+t)<=D*(s*ay+t*by')) (h2:D*(s*ay+t*by')<=M.y*(s+t))
  (h1' : N.y*(s'+t')<=D*(s'*ay+t'*by')) (h2' : D*(s'*ay+t'*by')<=M.y*(s'+t')) (c1:s*crV N M D ax ay+t*crV N M D bx by'<0) (c2:0<=s'*crV N M D ax ay+t'*crV N M D bx by'):tch N M D ax ay bx by':=by
 generalize hA:crV N M D ax ay=A at *
 generalize hB:crV N M D bx by'=B at *
 generalize hp:s*A+t*B=p at *
 generalize hq:s'*A+t'*B=q at *
 have k1:=Qq c2 hs
 have k2:=Qq c2 ht
 have k3:=Qq (show 0 <= -p by omega) hs'
 have k4:=Qq (show 0 <= -p by omega) ht'
 have k5:=Rm (show 0 < -p by omega) hw'
 have k6:=Qq c2 (Qu hw)
 have e0:q*s + -p*s'+(q*t + -p*t')=q*(s+t) + -p*(s'+t'):=by grind
 have eY:D*((q*s + -p*s')*ay+(q*t + -p*t')*by')=q*(D*(s*ay+t*by')) + -p*(D*(s'*ay+t'*by')):=by grind
 have i1:=Rk h1 c2
 have i2:=Rk h2 c2
 have i3:=Rk h1' (show 0 <= -p by omega)
 have i4:=Rk h2' (show 0 <= -p by omega)
 refine Yhq hy (s:=q*s + -p*s') (t:=q*t + -p*t') (by omega) (by omega) (by omega) ?_ ?_ ?_
 ·rw [e0,eY]
  have:N.y*(q*(s+t) + -p*(s'+t'))=q*(N.y*(s+t)) + -p*(N.y*(s'+t')):=by grind
  omega
 ·rw [e0,eY]
  have:M.y*(q*(s+t) + -p*(s'+t'))=q*(M.y*(s+t)) + -p*(M.y*(s'+t')):=by grind
  omega
 ·rw [hA,hB]
  have:(q*s + -p*s')*A+(q*t + -p*t')*B=q*(s*A+t*B) + -p*(s'*A+t'*B):=by grind
  rw [this,hp,hq]; grind
def detE (p:P2d) (D ax ay bx by' : Int):Int:=(bx-ax)*(p.y-ay*D)-(by'-ay)*(p.x-ax*D)
def upE (p:P2d) (D ax ay bx by' : Int):Prop:=ay*D<=p.y/\p.y<by'*D/\0<detE p D ax ay bx by'
def rgE (N M:P2d) (D x y:Int):Prop:=N.y<y*D/\y*D<=M.y/\crV N M D x y<0
theorem Zzs {N M:P2d} {D ax ay bx by' : Int} (hD:0<D) (hy:N.y<=M.y) (hab:ay<=by') (nt:¬ tch N M D ax ay bx by') :
  (upE N D ax ay bx by'↔upE M D ax ay bx by')↔(rgE N M D ax ay↔rgE N M D bx by'):=by
 have hm:ay*D<=by'*D:=Qg hab (Qu hD)
 by_cases hyy:N.y=M.y
 ·
  have r1:∀ x y,¬ rgE N M D x y:=by rintro x y ⟨a,b,_⟩; omega
  have key:upE N D ax ay bx by'↔upE M D ax ay bx by':=by
   by_cases hl:ay*D<=N.y/\N.y<by'*D
   ·have dd:detE N D ax ay bx by'-detE M D ax ay bx by'=(by'-ay)*(M.x-N.x):=by unfold detE; rw [hyy]; grind
    have hw:by'*D-ay*D=(by'-ay)*D:=by rw [Lw]
    have t1:∀ s,s=by'*D-N.y->∀ t,t=N.y-ay*D->D*(s*ax+t*bx)=N.x*((by'-ay)*D)+D*detE N D ax ay bx by':=by
     rintro s rfl t rfl; unfold detE; grind
    have t2:∀ s,s=by'*D-N.y->∀ t,t=N.y-ay*D->D*(s*ay+t*by')=N.y*((by'-ay)*D):=by
     rintro s rfl t rfl; grind
    unfold upE;rw [<-hyy]
    constructor
    ·rintro ⟨h1,h2,h3⟩
     refine ⟨h1,h2,?_⟩
     by_cases h4:0<detE M D ax ay bx by'
     ·exact h4
     exfalso;refine nt ⟨by'*D-N.y,N.y-ay*D,-detE M D ax ay bx by',detE N D ax ay bx by',by omega,by omega,by omega,by omega,by omega,by omega,?_,?_⟩
     ·rw [t1 _ rfl _ rfl,show by'*D-N.y+(N.y-ay*D)=(by'-ay)*D by omega]
      generalize detE N D ax ay bx by'=u at *
      generalize detE M D ax ay bx by'=v at *
      grind
     ·rw [t2 _ rfl _ rfl,show by'*D-N.y+(N.y-ay*D)=(by'-ay)*D by omega,<-hyy]
      generalize detE N D ax ay bx by'=u at *
      generalize detE M D ax ay bx by'=v at *
      grind
    ·rintro ⟨h1,h2,h3⟩
     refine ⟨h1,h2,?_⟩
     by_cases h4:0<detE N D ax ay bx by'
     ·exact h4
     exfalso;refine nt ⟨by'*D-N.y,N.y-ay*D,detE M D ax ay bx by',-detE N D ax ay bx by',by omega,by omega,by omega,by omega,by omega,by omega,?_,?_⟩
     ·rw [t1 _ rfl _ rfl,show by'*D-N.y+(N.y-ay*D)=(by'-ay)*D by omega]
      generalize detE N D ax ay bx by'=u at *
      generalize detE M D ax ay bx by'=v at *
      grind
     ·rw [t2 _ rfl _ rfl,show by'*D-N.y+(N.y-ay*D)=(by'-ay)*D by omega,<-hyy]
      generalize detE N D ax ay bx by'=u at *
      generalize detE M D ax ay bx by'=v at *
      grind
   ·unfold upE
    rw [<-hyy]
    constructor<;>(rintro ⟨h1,h2,h3⟩; exact absurd ⟨h1,h2⟩ hl)
  exact ⟨fun _=>⟨fun h=>absurd h (r1 _ _),fun h=>absurd h (r1 _ _)⟩,fun _=>key⟩
 have hy:N.y<M.y:=by omega
 have lvl:∀ p:P2d,ay*D<=p.y->p.y<by'*D->0<=by'*D-p.y/\0<=p.y-ay*D/\0<(by'*D-p.y)+(p.y-ay*D)/\D*((by'*D-p.y)*ay+(p.y-ay*D)*by')=p.y*((by'*D-p.y)+(p.y-ay*D)):=by
  intro p h1 h2
  refine ⟨by omega,by omega,by omega,by grind⟩
 have crN:(by'*D-N.y)*crV N M D ax ay+(N.y-ay*D)*crV N M D bx by' = -((M.y-N.y)*D*detE N D ax ay bx by'):=by unfold crV detE; grind
 have crM:(by'*D-M.y)*crV N M D ax ay+(M.y-ay*D)*crV N M D bx by' = -((M.y-N.y)*D*detE M D ax ay bx by'):=by unfold crV detE; grind
 have hp:0<(M.y-N.y)*D:=Rm (by omega) hD
 have sN:∀ v,-((M.y-N.y)*D*v)<0↔0<v:=fun v=>by have:=Zby (a:=v) hp; omega
 have sN2:∀ v,0 <= -((M.y-N.y)*D*v)↔v<=0:=fun v=>by have:=np_l (a:=v) hp; omega
 have one:D*(1*ay+0*by')=ay*D/\D*(0*ay+1*by')=by'*D:=by constructor<;>grind
 have cA:1*crV N M D ax ay+0*crV N M D bx by'=crV N M D ax ay:=by omega
 have cB:0*crV N M D ax ay+1*crV N M D bx by'=crV N M D bx by':=by omega
 have two:=fun {s t s' t' : Int}=>@Ye8 N M D ax ay bx by' hy s t s' t'
 by_cases a0:ay*D<=N.y
 ·by_cases b0:by'*D<=N.y
  ·unfold upE rgE; constructor<;>intro _<;>constructor<;>(rintro ⟨h1,h2,h3⟩; omega)
  obtain ⟨l1,l2,l3,l4⟩:=lvl N a0 (by omega)
  by_cases b1:by'*D<=M.y
  ·
   have key:0<detE N D ax ay bx by'↔crV N M D bx by'<0:=by
    constructor
    ·intro h
     by_cases hc:crV N M D bx by'<0
     ·exact hc
     exact absurd (two (s':=0) (t':=1) l1 l2 l3 (by omega) (by omega) (by omega) (by rw [l4]; omega) (by rw [l4]; exact Qg (Qu hy) (Qu l3)) (by rw [one.2]; omega) (by rw [one.2]; omega) (by rw [crN]; exact (sN _).2 h) (by rw [cB]; omega)) nt
    ·intro h
     by_cases hc:0<detE N D ax ay bx by'
     ·exact hc
     exact absurd (two (s:=0) (t:=1) (by omega) (by omega) (by omega) l1 l2 l3 (by rw [one.2]; omega) (by rw [one.2]; omega) (by rw [l4]; omega) (by rw [l4]; exact Qg (Qu hy) (Qu l3)) (by rw [cB]; exact h) (by rw [crN]; exact (sN2 _).2 (by omega))) nt
   unfold upE rgE;rw [<-key];generalize detE N D ax ay bx by'=u at *
   constructor
   ·intro h
    constructor
    ·rintro ⟨h1,_,_⟩; omega
    ·rintro ⟨_,_,h3⟩
     have:=h.1 ⟨a0,by omega,h3⟩;omega
   ·intro h
    constructor
    ·rintro ⟨_,_,h3⟩
     have:=h.2 ⟨by omega,b1,h3⟩;omega
    ·rintro ⟨_,h2,_⟩; omega
  ·
   obtain ⟨m1,m2,m3,m4⟩:=lvl M (by omega) (by omega)
   have key:0<detE N D ax ay bx by'↔0<detE M D ax ay bx by':=by
    constructor
    ·intro h
     by_cases hc:0<detE M D ax ay bx by'
     ·exact hc
     exact absurd (two l1 l2 l3 m1 m2 m3 (by rw [l4]; omega) (by rw [l4]; exact Qg (Qu hy) (Qu l3)) (by rw [m4]; exact Qg (Qu hy) (Qu m3)) (by rw [m4]; omega) (by rw [crN]; exact (sN _).2 h) (by rw [crM]; exact (sN2 _).2 (by omega))) nt
    ·intro h
     by_cases hc:0<detE N D ax ay bx by'
     ·exact hc
     exact absurd (two m1 m2 m3 l1 l2 l3 (by rw [m4]; exact Qg (Qu hy) (Qu m3)) (by rw [m4]; omega) (by rw [l4]; omega) (by rw [l4]; exact Qg (Qu hy) (Qu l3)) (by rw [crM]; exact (sN _).2 h) (by rw [crN]; exact (sN2 _).2 (by omega))) nt
   unfold upE rgE;rw [key]
   constructor
   ·intro _; constructor<;>(rintro ⟨h1,h2,h3⟩; omega)
   ·intro _
    constructor
    ·rintro ⟨_,_,h3⟩; exact ⟨by omega,by omega,h3⟩
    ·rintro ⟨_,_,h3⟩; exact ⟨by omega,by omega,h3⟩
 by_cases a1:ay*D<=M.y
 ·by_cases b1:by'*D<=M.y
  ·
   have key:crV N M D ax ay<0↔crV N M D bx by'<0:=by
    constructor
    ·intro h
     by_cases hc:crV N M D bx by'<0
     ·exact hc
     exact absurd (two (s:=1) (t:=0) (s':=0) (t':=1) (by omega) (by omega) (by omega) (by omega) (by omega) (by omega) (by rw [one.1]; omega) (by rw [one.1]; omega) (by rw [one.2]; omega) (by rw [one.2]; omega) (by rw [cA]; exact h) (by rw [cB]; omega)) nt
    ·intro h
     by_cases hc:crV N M D ax ay<0
     ·exact hc
     exact absurd (two (s:=0) (t:=1) (s':=1) (t':=0) (by omega) (by omega) (by omega) (by omega) (by omega) (by omega) (by rw [one.2]; omega) (by rw [one.2]; omega) (by rw [one.1]; omega) (by rw [one.1]; omega) (by rw [cB]; exact h) (by rw [cA]; omega)) nt
   unfold upE rgE;rw [key]
   constructor
   ·intro _
    constructor
    ·rintro ⟨_,_,h3⟩; exact ⟨by omega,by omega,h3⟩
    ·rintro ⟨_,_,h3⟩; exact ⟨by omega,by omega,h3⟩
   ·intro _; constructor<;>(rintro ⟨h1,h2,h3⟩; omega)
  ·
   obtain ⟨m1,m2,m3,m4⟩:=lvl M a1 (by omega)
   have key:0<detE M D ax ay bx by'↔crV N M D ax ay<0:=by
    constructor
    ·intro h
     by_cases hc:crV N M D ax ay<0
     ·exact hc
     exact absurd (two (s':=1) (t':=0) m1 m2 m3 (by omega) (by omega) (by omega) (by rw [m4]; exact Qg (Qu hy) (Qu m3)) (by rw [m4]; omega) (by rw [one.1]; omega) (by rw [one.1]; omega) (by rw [crM]; exact (sN _).2 h) (by rw [cA]; omega)) nt
    ·intro h
     by_cases hc:0<detE M D ax ay bx by'
     ·exact hc
     exact absurd (two (s:=1) (t:=0) (by omega) (by omega) (by omega) m1 m2 m3 (by rw [one.1]; omega) (by rw [one.1]; omega) (by rw [m4]; exact Qg (Qu hy) (Qu m3)) (by rw [m4]; omega) (by rw [cA]; exact h) (by rw [crM]; exact (sN2 _).2 (by omega))) nt
   unfold upE rgE;rw [<-key];generalize detE M D ax ay bx by'=u at *
   constructor
   ·intro h
    constructor
    ·rintro ⟨_,_,h3⟩
     have:=h.2 ⟨a1,by omega,h3⟩;omega
    ·rintro ⟨_,h2,_⟩; omega
   ·intro h
    constructor
    ·rintro ⟨h1,_,_⟩; omega
    ·rintro ⟨_,_,h3⟩
     have:=h.1 ⟨by omega,a1,h3⟩;omega
 ·unfold upE rgE; constructor<;>intro _<;>constructor<;>(rintro ⟨h1,h2,h3⟩; omega)
instance (p:P2d) (D ax ay bx by' : Int):Decidable (upE p D ax ay bx by'):=by unfold upE; exact inferInstance
instance (N M:P2d) (D x y:Int):Decidable (rgE N M D x y):=by unfold rgE; exact inferInstance
def flZ (p:P2d) (w:Wl):Bool:=if w.fy<=w.ty then decide (upE p p.d w.fx w.fy w.tx w.ty) else decide (upE p p.d w.tx w.ty w.fx w.fy)
theorem Yg7 {w:Wl} {n sx sy:Int} (h:Str w n sx sy) (p:P2d):detE p p.d w.fx w.fy w.tx w.ty=n*bsP w sx sy p/\detE p p.d w.tx w.ty w.fx w.fy = -(n*bsP w sx sy p):=by
 unfold detE bsP bes
 rw [h.tx,h.ty]
 constructor<;>grind
theorem Ygv {w:Wl} {n sx sy x y d:Int} (h:Str w n sx sy) (hp:PtOk x y d):flips x y d w=flZ ⟨x,y,d⟩ w:=by
 have a2:=Zj h.b2 hp.hd
 have a4:=Zj h.b4 hp.hd
 have hD:=hp.hD
 have hd:=hp.hd
 obtain ⟨e1,e2⟩:=Yg7 h ⟨x,y,d⟩
 have hn:=h.hn
 unfold flips flZ
 rw [Xw h hp,W_eq (n:=w.fy*d) (by omega) (by omega),W_eq (n:=w.ty*d) (by omega) (by omega)]
 change detE ⟨x,y,d⟩ d w.fx w.fy w.tx w.ty=_ at e1
 change detE ⟨x,y,d⟩ d w.tx w.ty w.fx w.fy=_ at e2
 have p1:=Zby (a:=bsP w sx sy ⟨x,y,d⟩) hn
 have p2:=Zdi (a:=bsP w sx sy ⟨x,y,d⟩) hn
 have es:bes w sx sy x y d=bsP w sx sy ⟨x,y,d⟩:=rfl
 rw [es]
 have u1:upE ⟨x,y,d⟩ d w.fx w.fy w.tx w.ty↔w.fy*d<=y/\y<w.ty*d/\0<n*bsP w sx sy ⟨x,y,d⟩:=by rw [<-e1]; exact Iff.rfl
 have u2:upE ⟨x,y,d⟩ d w.tx w.ty w.fx w.fy↔w.ty*d<=y/\y<w.fy*d/\0 < -(n*bsP w sx sy ⟨x,y,d⟩):=by rw [<-e2]; exact Iff.rfl
 show _=if w.fy<=w.ty then decide (upE ⟨x,y,d⟩ d w.fx w.fy w.tx w.ty) else decide (upE ⟨x,y,d⟩ d w.tx w.ty w.fx w.fy)
 by_cases hc:w.fy<=w.ty
 ·have hm:w.fy*d<=w.ty*d:=Qg hc (Qu hd)
  rw [if_pos hc,Rz]
  simp only [Qz,Qc,decide_eq_true_eq,Xp,Xq,u1]
  generalize bsP w sx sy ⟨x,y,d⟩=B at *
  omega
 ·have hm:w.ty*d<=w.fy*d:=Qg (by omega) (Qu hd)
  rw [if_neg hc,Rz]
  simp only [Qz,Qc,decide_eq_true_eq,Xp,Xq,u2]
  generalize bsP w sx sy ⟨x,y,d⟩=B at *
  omega
theorem Zzu {N M:P2d} {D:Int} (hN:N.d=D) (hM:M.d=D) (hD:0<D) (hy:N.y<=M.y) {w:Wl} (nt:¬ tch N M D w.fx w.fy w.tx w.ty):(flZ N w ^^ flZ M w)=(decide (rgE N M D w.fx w.fy) ^^ decide (rgE N M D w.tx w.ty)):=by
 unfold flZ
 rw [hN,hM]
 by_cases hc:w.fy<=w.ty
 ·rw [if_pos hc,if_pos hc]
  exact Zrn (Zzs hD hy hc nt)
 ·rw [if_neg hc,if_neg hc,Bool.xor_comm (decide (rgE N M D w.fx w.fy))]
  exact Zrn (Zzs hD hy (by omega) fun h=>nt (Ybd h))
theorem Ya1 {N M:P2d} {D:Int} (hN:N.d=D) (hM:M.d=D) (hD:0<D) {cs:List (Int × Int)} (nt:∀ w∈wls cs,¬ tch N M D w.fx w.fy w.tx w.ty):xorL ((wls cs).map (flZ N))=xorL ((wls cs).map (flZ M)):=by
 have key:∀ N M:P2d,N.d=D->M.d=D->N.y<=M.y->(∀ w∈wls cs,¬ tch N M D w.fx w.fy w.tx w.ty)->(xorL ((wls cs).map (flZ N)) ^^ xorL ((wls cs).map (flZ M)))=false:=by
  intro N M h1 h2 hy h3
  rw [Zjv,<-tele (fun x y=>decide (rgE N M D x y)) cs]
  congr 1
  refine Ni fun w hw=>?_
  exact Zzu h1 h2 hD hy (h3 w hw)
 have fin:∀ a b:Bool,(a ^^ b)=false->a=b:=by decide
 rcases Int.le_total N.y M.y with hy|hy
 ·exact fin _ _ (key N M hN hM hy nt)
 ·exact (fin _ _ (key M N hM hN hy fun w hw h=>nt w hw (Ybc h))).symm
theorem Zp4 {x y d:Int}:∀ (ws:List Wl) (b:Bool),inPl x y d b ws=true->(b ^^ xorL (ws.map (flips x y d)))=true
 | [],b,h=>by simpa [xorL,inPl] using h
 | w::ws,b,h=>by
  rw [inPl] at h
  split at h
  ·cases h
  ·have:=Zp4 ws _ h
   rw [Ti,show xorL (flips x y d w::ws.map (flips x y d))=(flips x y d w ^^ xorL (ws.map (flips x y d))) from rfl,<-Bool.xor_assoc];exact this
theorem Zl9 {α:Type} (f:α->Bool):∀ (l:List α),(∀ a∈l,f a=false)->xorL (l.map f)=false
 | [],_=>rfl
 | a::l,h=>by
  rw [Ti,show xorL (f a::l.map f)=(f a ^^ xorL (l.map f)) from rfl,h a (by simp),Zl9 f l fun b hb=>h b (by simp [hb])]
  rfl
theorem Ygy {w:Wl} {p:P2d} (hd:0<p.d) (h1 : -5000<=w.fy/\w.fy<=5000) (h2 : -5000<=w.ty/\w.ty<=5000) (hy:p.y < -(5000*p.d)\/5000*p.d<p.y):flZ p w=false:=by
 have a1:=Qg h1.1 (Qu hd)
 have a2:=Qg h1.2 (Qu hd)
 have a3:=Qg h2.1 (Qu hd)
 have a4:=Qg h2.2 (Qu hd)
 unfold flZ
 split
 ·rw [decide_eq_false]
  rintro ⟨b1,b2,_⟩
  omega
 ·rw [decide_eq_false]
  rintro ⟨b1,b2,_⟩
  omega
theorem Ye9 {N M:P2d} {D ax ay bx by' : Int} (hD:0<D) (hM:M.x=N.x) (h1 : -5000<=ax/\ax<=5000) (h2 : -5000<=bx/\bx<=5000) (hx:N.x < -(5000*D)\/5000*D<N.x):¬ tch N M D ax ay bx by':=by
 rintro ⟨s,t,l,m,hs,ht,hst,hl,hm,hlm,e,_⟩
 rw [hM,<-Int.add_mul,Tc] at e
 have e:=Int.eq_of_mul_eq_mul_left (by omega) e
 have a1:=Rk h1.1 hs
 have a2:=Rk h1.2 hs
 have a3:=Rk h2.1 ht
 have a4:=Rk h2.2 ht
 have b1:=Rk (show s*ax+t*bx<=5000*(s+t) by omega) (Qu hD)
 have b2:=Rk (show -5000*(s+t)<=s*ax+t*bx by omega) (Qu hD)
 rw [<-e] at b1 b2
 have c1:D*(5000*(s+t))=5000*D*(s+t):=by grind
 have c2:D*(-5000*(s+t)) = -(5000*D)*(s+t):=by grind
 rw [c1] at b1
 rw [c2] at b2
 rcases hx with hx|hx
 ·have:=Tg hx hst
  omega
 ·have:=Tg hx hst
  omega
theorem Zmz {h:Hal} (hs:Za3 h.cs) {x y d:Int} (hp:PtOk x y d) (hi:Yi h x y d=true):(-(5000*d)<=x/\x<=5000*d)/\(-(5000*d)<=y/\y<=5000*d):=by
 have hd:=hp.hd
 have h0:xorL ((wls h.cs).map (flZ ⟨x,y,d⟩))=true:=by
  have:=Zp4 _ _ hi
  rw [Bool.false_xor] at this
  rw [<-this]
  congr 1
  refine Ni fun w hw=>?_
  obtain ⟨n,sx,sy,g⟩:=Zbb hs w hw
  exact (Ygv g hp).symm
 have far:∀ p:P2d,0<p.d->(p.y < -(5000*p.d)\/5000*p.d<p.y)->xorL ((wls h.cs).map (flZ p))=false:=fun p hpd hy =>
  Zl9 _ _ fun w hw=>by
   obtain ⟨n,sx,sy,g⟩:=Zbb hs w hw;exact Ygy hpd g.b2 g.b4 hy
 have hy:¬ (y < -(5000*d)\/5000*d<y):=fun hy=>by
  rw [far ⟨x,y,d⟩ hd hy] at h0; cases h0
 have hx:¬ (x < -(5000*d)\/5000*d<x):=fun hx=>by
  rw [Ya1 (N:=⟨x,y,d⟩) (M:=⟨x,5001*d,d⟩) (D:=d) rfl rfl hd (fun w hw=>by
   obtain ⟨n,sx,sy,g⟩:=Zbb hs w hw
   exact Ye9 hd rfl g.b1 g.b3 hx),far ⟨x,5001*d,d⟩ hd (.inr (by dsimp only; omega))] at h0
  cases h0
 omega
def r35:List AV->Option PRes
 | [.agg [.int .i64 k,.int .i64 a],.agg [.int .i64 x,.int .i64 y,.int .i64 z,.int .i64 d]]=>asr (decide (0<=k/\k<5)) ⟨I (off k a x y z d),[]⟩
 | _=>none
theorem c113 (k:Int) (p:Pt):PCall Tryz.prog 169 [I k,p.av] ⟨I (offN k p.x p.y p.z),[]⟩:=by
 refine pn Zc Tryz.func169 ?_
 repeat'(first|refine wk0 ?_|(refine wk2 ?_ ?_<;>intro _)|fail)
 all_goals exact Za (by simp_all [offN])
def Zoo (h:Hal) (w:Wl) (p:Pt):Bool:=!(decide (p.z<=0)||decide (Qa Qb (h.ht*p.d)<=p.z))&&(if w.fx=w.tx then decide (Qa Qb (imin w.fy w.ty*p.d)<p.y)&&decide (p.y<Qa Qb (imax w.fy w.ty*p.d)) else decide (Qa Qb (imin w.fx w.tx*p.d)<p.x)&&decide (p.x<Qa Qb (imax w.fx w.tx*p.d)))
def Zbw (h:Hal) (i:Int) (p:Pt):Bool:=if i<h.ws.length then Zoo h (wlOf h.cs i.toNat) p else if i<(h.ws.length:Int)+2 then Yi h p.x p.y p.d else (kat h i).rc.holds p.x p.y p.d
theorem Zh3 {h:Hal} {k:Nat} {p:Pt} (hk:k<h.ws.length):Zbw h k p=Zoo h (wlOf h.cs k) p:=by unfold Zbw; rw [if_pos (by omega)]; rfl
theorem Zf0 {h:Hal} {p:Pt}:Zbw h h.ws.length p=Yi h p.x p.y p.d:=by unfold Zbw; rw [if_neg (by omega),if_pos (by omega)]
theorem Zh4 {h:Hal} {p:Pt}:Zbw h ((h.ws.length:Int)+1) p=Yi h p.x p.y p.d:=by unfold Zbw; rw [if_neg (by omega),if_pos (by omega)]
theorem Zj0 {h:Hal} {j:Nat} {p:Pt} (hj:j<h.ks.length):Zbw h ((h.ws.length:Int)+2+j) p=h.ks[j].rc.holds p.x p.y p.d:=by unfold Zbw; rw [if_neg (by omega),if_neg (by omega),Zmv hj]
theorem c118 {h:Hal} {s:Stg} (g:Sit h s) {i:Int} (hi:SK h i) (p:Pt):PCall Tryz.prog 174 [.agg (stgL h s),I i,p.av] ⟨Bo (Zbw h i p),[]⟩:=by
 have f3:=g.ok.f.2.2.1
 have f4:=g.ok.f.2.2.2.1
 have hk0:=Zd (c87 g.ok.f s hi) (Zd (c183 g.ok.f p.x p.y p.d) (Yiv g))
 cases hi with
 | wall k hk =>
  have hk2:k<h.cs.length:=by have:=g.fine.le; omega
  rw [Zh3 hk]
  obtain ⟨v1,v2⟩:=Zfd (h:=h) (i:=k) (by omega)
  rw [v1,v2] at hk0
  have hk1:=Zd (Yhh g.ok.f hk2) hk0
  generalize wlOf h.cs k=w at *
  refine pn hk1 Tryz.func174 ?_
  repeat'(first|refine wk0 ?_|(refine wk2 ?_ ?_<;>intro _)|fail)
  all_goals clear hk0 hk1
  all_goals first
   | (exfalso; rename_i hx; have hx:=of_decide_eq_true (show decide ((k:Int)=(h.ws.length:Int)+1)=true from hx); omega)
   | (exfalso; rename_i hx; have hx:=of_decide_eq_true (show decide ((k:Int)=(h.ws.length:Int))=true from hx); omega)
   | (refine Zb ?_; simp_all [Zoo]; done)
   | (refine Zb ?_; simp_all [Zoo]; intro _; omega)
   | (exfalso; simp_all; omega)
 | floor =>
  rw [Zf0]
  obtain ⟨v1,v2⟩:=Zfd (h:=h) (i:=h.ws.length) (by omega)
  rw [v1,v2] at hk0
  refine pn hk0 Tryz.func174 ?_
  repeat'(first|refine wk1 ?_|(refine wk2 ?_ ?_<;>intro _)|fail)
  exact Zb rfl
 | ceil =>
  rw [Zh4]
  obtain ⟨v1,v2⟩:=Zfd (h:=h) (i:=(h.ws.length:Int)+1) (by omega)
  rw [v1,v2] at hk0
  refine pn hk0 Tryz.func174 ?_
  repeat'(first|refine wk1 ?_|(refine wk2 ?_ ?_<;>intro _)|fail)
  ·exact Zb rfl
  all_goals (exfalso; simp_all; done)
 | can j hj =>
  rw [Zj0 hj]
  obtain ⟨v1,v2⟩:=Zu5 hj
  rw [v1,v2] at hk0
  generalize h.ks[j]=c at *
  have hk1:=Zd (c193 c.rc p.x p.y p.d) hk0
  refine pn hk1 Tryz.func174 ?_
  repeat'(first|refine wk1 ?_|(refine wk2 ?_ ?_<;>intro _)|fail)
  exact Zb rfl
def Zw1 (c:Can) (p:Pt):Bool:=Zgc c p && !decide (p.x=Qa Qb (c.fx*p.d)) && !decide (p.x=Qa Qb (c.tx*p.d)) && !decide (p.y=Qa Qb (c.fy*p.d)) && !decide (p.y=Qa Qb (c.ty*p.d))
theorem c194 (c:Can) (p:Pt):PCall Tryz.prog 271 [.agg c.av,p.av] ⟨Bo (Zw1 c p),[]⟩:=by
 have hk0:=Zd (c191 c p) Zc
 refine pn hk0 Tryz.func271 ?_
 unfold Zw1
 cases hb:Zgc c p with
 | false =>
  rw [hb] at hk0
  repeat'(first|refine wk0 ?_|(refine wk2 ?_ ?_<;>intro _)|fail)
  all_goals first
   | exact Zb rfl
   | exact Zb (by simp_all; done)
   | (exfalso; simp_all; done)
 | true =>
  rw [hb] at hk0
  repeat'(first|refine wk0 ?_|(refine wk2 ?_ ?_<;>intro _)|fail)
  all_goals first
   | exact Zb (by simp_all; done)
   | (exfalso; simp_all; done)
def Zw0 (h:Hal) (l:Ln) (p:Pt):Bool:=within (l.along p) 1 (Qa Qb (Qa Qb (l.full*p.d)-1))&&within p.z 1 (Qa Qb (Qa Qb (h.ht*p.d)-1))
def Zb7 (h:Hal) (i:Int) (p:Pt):Bool:=if i<h.ws.length then Zw0 h (lnOf h.cs i.toNat) p else if i<(h.ws.length:Int)+2 then Zv h p else Zw1 (kat h i) p
theorem Zma {h:Hal} {k:Nat} {p:Pt} (hk:k<h.ws.length):Zb7 h k p=Zw0 h (lnOf h.cs k) p:=by unfold Zb7; rw [if_pos (by omega)]; rfl
theorem Zjz {h:Hal} {p:Pt}:Zb7 h h.ws.length p=Zv h p:=by unfold Zb7; rw [if_neg (by omega),if_pos (by omega)]
theorem Zmb {h:Hal} {p:Pt}:Zb7 h ((h.ws.length:Int)+1) p=Zv h p:=by unfold Zb7; rw [if_neg (by omega),if_pos (by omega)]
theorem Zop {h:Hal} {j:Nat} {p:Pt} (hj:j<h.ks.length):Zb7 h ((h.ws.length:Int)+2+j) p=Zw1 h.ks[j] p:=by unfold Zb7; rw [if_neg (by omega),if_neg (by omega),Zmv hj]
theorem c121 {h:Hal} {s:Stg} (g:Sit h s) {i:Int} (hi:SK h i) (p:Pt):PCall Tryz.prog 209 [h.av,I i,p.av] ⟨Bo (Zb7 h i p),[]⟩:=by
 have f3:=g.ok.f.2.2.1
 have f4:=g.ok.f.2.2.2.1
 have hk0:=Zd (c89 g.ok.f hi) (Zd (c106 g.ok.f g.fine.le.2.2.1 (Zx6 g.fine.st) p) (Zmw g.ok.f))
 cases hi with
 | wall k hk =>
  have hk2:k<h.cs.length:=by have:=g.fine.le; omega
  have e1:=Ve hk2
  have hn:=Zx6 g.fine.st k hk2
  rw [show Zab h k=(0,(k:Int)) by unfold Zab; rw [if_pos (by omega)]] at hk0
  rw [Zma hk]
  generalize lnOf h.cs k=l at *
  obtain ⟨x,y,dx,dy⟩:=l
  have ha:=Yn (res:=⟨I ((Ln.mk x y dx dy).along ⟨p.x,p.y,p.z,p.d⟩),[]⟩) hn
  have hb:=Yn (res:=⟨I (Ln.mk x y dx dy).full,[]⟩) hn
  refine pn hk0 Tryz.func209 ?_
  repeat'(first|refine wk0 ?_|(refine wk2 ?_ ?_<;>intro _)|fail)
  all_goals clear hk0
  all_goals first
   | (refine Zb ?_; simp_all [Zw0]; done)
   | (exfalso; simp_all; done)
   | (exfalso; simp_all; omega)
 | floor =>
  rw [show Zab h h.ws.length=(1,0) by unfold Zab; rw [if_neg (by omega),if_pos rfl]] at hk0
  rw [Zjz]
  refine pn hk0 Tryz.func209 ?_
  repeat'(first|refine wk1 ?_|(refine wk2 ?_ ?_<;>intro _)|fail)
  exact Zb rfl
 | ceil =>
  rw [show Zab h ((h.ws.length:Int)+1)=(2,0) by unfold Zab; rw [if_neg (by omega),if_neg (by omega),if_pos rfl]] at hk0
  rw [Zmb]
  refine pn hk0 Tryz.func209 ?_
  repeat'(first|refine wk1 ?_|(refine wk2 ?_ ?_<;>intro _)|fail)
  exact Zb rfl
 | can j hj =>
  rw [show Zab h ((h.ws.length:Int)+2+j)=(3,(j:Int)) by unfold Zab; rw [if_neg (by omega),if_neg (by omega),if_neg (by omega)]; simp; omega] at hk0
  rw [Zop hj]
  have e1:=Zbu hj
  generalize h.ks[j]=c at *
  have hk1:=Zd (c194 c p) hk0
  refine pn hk1 Tryz.func209 ?_
  repeat'(first|refine wk1 ?_|(refine wk2 ?_ ?_<;>intro _)|fail)
  exact Zb rfl
def valN (k x y z:Int):Int:=if k=0 then x else if k=1 then y else if k=2 then z else if k=3 then x+y else x-y
theorem Znu {w:Wl} {n sx sy:Int} (h:Str w n sx sy):plW w=if sx=0 then (0,w.fx) else if sy=0 then (1,w.fy) else if sx=sy then (4,w.fx-w.fy) else (3,w.fx+w.fy):=by
 have hn:=h.hn
 have b1:=h.b1
 have b2:=h.b2
 have hxy:=h.hxy
 have w4:Qa Qb (w.fx-w.fy)=w.fx-w.fy:=W_eq (by omega) (by omega)
 have w3:Qa Qb (w.fx+w.fy)=w.fx+w.fy:=W_eq (by omega) (by omega)
 unfold plW
 rw [h.dx,h.dy,w3,w4]
 rcases h.hx with rfl|rfl|rfl<;>rcases h.hy with rfl|rfl|rfl<;>(try (exact absurd ⟨rfl,rfl⟩ hxy))<;>simp only [Tf,Sl,Sf]<;>(repeat' split)<;>first|rfl|(exfalso; omega)
theorem Zw4 {h:Hal} {w:Wl} {n sx sy:Int} (hs:Str w n sx sy) {p:Pt} (hp:PtOk p.x p.y p.d) (ht:2<=h.ht/\h.ht<=5000) (hpl:valN (plW w).1 p.x p.y p.z=(plW w).2*p.d):Zoo h w p=Zw0 h w.ln p:=by
 obtain ⟨x,y,z,d⟩:=p
 dsimp only at hp hpl
 have hd:=hp.hd
 have hD:=hp.hD
 have nd:=Yf0 hs.hn hs.nle hd
 have a1:=Zj hs.b1 hd
 have a2:=Zj hs.b2 hd
 have a3:=Zj hs.b3 hd
 have a4:=Zj hs.b4 hd
 have hz:Qa Qb (h.ht*d)=h.ht*d/\Qa Qb (h.ht*d-1)=h.ht*d-1/\0<h.ht*d:=by
  have:=Zj (f:=h.ht) (d:=d) (by omega) hd
  have:=Rm (a:=h.ht) (b:=d) (by omega) hd
  exact ⟨W_eq (by omega) (by omega),W_eq (by omega) (by omega),this⟩
 unfold Zoo Zw0
 rw [Zfg hs hp,Zn9 hs]
 rw [Znu hs] at hpl
 unfold valN at hpl
 rw [Zaw,Zaw,Zax,Zax]
 dsimp only
 rw [hz.1,hz.2.1]
 rw [Zca hd,Zca hd,Zcb hd,Zcb hd]
 rw [W_eq (n:=min (w.fx*d) (w.tx*d)) (by omega) (by omega),W_eq (n:=max (w.fx*d) (w.tx*d)) (by omega) (by omega),W_eq (n:=min (w.fy*d) (w.ty*d)) (by omega) (by omega),W_eq (n:=max (w.fy*d) (w.ty*d)) (by omega) (by omega)]
 have etx:=hs.tx
 have ety:=hs.ty
 have b1:=hs.b1
 have b2:=hs.b2
 have hn:=hs.hn
 have cnd:(w.fx=w.tx)↔sx=0:=by
  rw [etx]
  constructor
  ·intro e
   have:n*sx=0:=by omega
   rcases Lk.1 this with h|h
   ·omega
   ·exact h
  ·intro e; rw [e]; omega
 have ex:w.tx*d=w.fx*d+sx*(n*d):=by rw [etx]; grind
 have ey:w.ty*d=w.fy*d+sy*(n*d):=by rw [ety]; grind
 have full:n*(sx*sx+sy*sy)*d=(sx*sx+sy*sy)*(n*d):=by grind
 have d3:(w.fx+w.fy)*d=w.fx*d+w.fy*d:=by grind
 have d4:(w.fx-w.fy)*d=w.fx*d-w.fy*d:=by grind
 rw [full,ex,ey]
 unfold alo
 simp only [cnd]
 have hx:=hs.hx
 have hy:=hs.hy
 have hxy:=hs.hxy
 clear full etx ety cnd hs hp hz
 generalize w.fx*d=A at *
 generalize w.fy*d=C at *
 generalize n*d=N at *
 generalize h.ht*d=H at *
 rcases hx with rfl|rfl|rfl<;>rcases hy with rfl|rfl|rfl<;>(try (exact absurd ⟨rfl,rfl⟩ hxy))<;>simp [IntKind.wrap_i64] at hpl ⊢ <;> rw [Rz]<;>simp [within_iff]
 all_goals omega
structure Crs where
 su:Int
 fx:Int
 fy:Int
 fz:Int
 to:Pt
abbrev Crs.av (c:Crs):AV:=.agg [I c.su,I c.fx,I c.fy,I c.fz,I c.to.x,I c.to.y,I c.to.z,I c.to.d]
def crF (pl:Int × Int) (c:Crs):Int:=valN pl.1 c.fx c.fy c.fz-pl.2
def crG (pl:Int × Int) (c:Crs):Int:=valN pl.1 c.to.x c.to.y c.to.z-pl.2*c.to.d
def crPt (c:Crs) (u v:Int):Pt:=⟨c.fx*u+c.to.x*v,c.fy*u+c.to.y*v,c.fz*u+c.to.z*v,u+c.to.d*v⟩
def redP (p:Pt):Pt:=⟨p.x / (g4 p:Int),p.y / (g4 p:Int),p.z / (g4 p:Int),p.d / (g4 p:Int)⟩
def iabs (n:Int):Int:=if n<0 then -n else n
def Xy (pl:Int × Int) (c:Crs):Pt:=redP (crPt c (iabs (crG pl c)) (iabs (crF pl c)))
def ptZ:Pt:=⟨0,0,0,0⟩
def Zaf (well:Pt->Bool) (pl:Int × Int) (c:Crs):Pt × Int :=
 if 0<=sgn (crF pl c)*sgn (crG pl c) then (ptZ,12)
 else if well (Xy pl c) then (if 100000<(Xy pl c).d then (ptZ,8) else (Xy pl c,0))
 else (ptZ,12)
structure CrOk (pl:Int × Int) (c:Crs):Prop where
 k0:0<=pl.1
 k4:pl.1<=4
 at' : -10000<=pl.2/\pl.2<=10000
 fx : -45000<=c.fx/\c.fx<=45000
 fy : -45000<=c.fy/\c.fy<=45000
 fz : -45000<=c.fz/\c.fz<=45000
 d0:0<c.to.d
 d1:c.to.d<=100000
 x : -(5000*c.to.d)<=c.to.x/\c.to.x<=5000*c.to.d
 y : -(5000*c.to.d)<=c.to.y/\c.to.y<=5000*c.to.d
 z : -(5000*c.to.d)<=c.to.z/\c.to.z<=5000*c.to.d
theorem Zz6 {pl:Int × Int} {c:Crs} (h:CrOk pl c):Qa Qb (offN pl.1 c.fx c.fy c.fz-pl.2)=crF pl c/\Qa Qb (offN pl.1 c.fx c.fy c.fz-Qa Qb (pl.2*1))=crF pl c /\ -100000<=crF pl c/\crF pl c<=100000:=by
 obtain ⟨h1,h2,h3,h4,h5,h6,_⟩:=h
 unfold crF valN offN
 rw [Sl,W_eq (n:=pl.2) (by omega) (by omega)]
 repeat' split
 all_goals (try rw [W_eq (n:=c.fx+c.fy) (by omega) (by omega)])
 all_goals (try rw [W_eq (n:=c.fx-c.fy) (by omega) (by omega)])
 all_goals (refine ⟨W_eq (by omega) (by omega),W_eq (by omega) (by omega),by omega,by omega⟩)
theorem Zz5 {pl:Int × Int} {c:Crs} (h:CrOk pl c):Qa Qb (offN pl.1 c.to.x c.to.y c.to.z-Qa Qb (pl.2*c.to.d))=crG pl c /\ -2000000000<=crG pl c/\crG pl c<=2000000000:=by
 obtain ⟨h1,h2,h3,h4,h5,h6,h7,h8,h9,h10,h11⟩:=h
 have m:=Zn (a:=pl.2) (b:=c.to.d) (A:=10000) (B:=100000) (by omega) (by omega)
 unfold crG valN offN
 rw [W_eq (n:=pl.2*c.to.d) (by omega) (by omega)]
 generalize pl.2*c.to.d=m at *
 repeat' split
 all_goals (try rw [W_eq (n:=c.to.x+c.to.y) (by omega) (by omega)])
 all_goals (try rw [W_eq (n:=c.to.x-c.to.y) (by omega) (by omega)])
 all_goals (refine ⟨W_eq (by omega) (by omega),by omega,by omega⟩)
theorem Zs3 {pl:Int × Int} {c:Crs} (h:CrOk pl c) {u v:Int} (hu:0<=u/\u<=2000000000) (hv:0<=v/\v<=100000) :
  (-90000000000000<=c.fx*u/\c.fx*u<=90000000000000)/\(-90000000000000<=c.fy*u/\c.fy*u<=90000000000000)/\(-90000000000000<=c.fz*u/\c.fz*u<=90000000000000) /\
  (-50000000000000<=c.to.x*v/\c.to.x*v<=50000000000000)/\(-50000000000000<=c.to.y*v/\c.to.y*v<=50000000000000)/\(-50000000000000<=c.to.z*v/\c.to.z*v<=50000000000000)/\(0<=c.to.d*v/\c.to.d*v<=10000000000):=by
 obtain ⟨h1,h2,h3,h4,h5,h6,h7,h8,h9,h10,h11⟩:=h
 have m1:=Zn (a:=c.fx) (b:=u) (A:=45000) (B:=2000000000) (by omega) (by omega)
 have m2:=Zn (a:=c.fy) (b:=u) (A:=45000) (B:=2000000000) (by omega) (by omega)
 have m3:=Zn (a:=c.fz) (b:=u) (A:=45000) (B:=2000000000) (by omega) (by omega)
 have m4:=Zn (a:=c.to.x) (b:=v) (A:=500000000) (B:=100000) (by omega) (by omega)
 have m5:=Zn (a:=c.to.y) (b:=v) (A:=500000000) (B:=100000) (by omega) (by omega)
 have m6:=Zn (a:=c.to.z) (b:=v) (A:=500000000) (B:=100000) (by omega) (by omega)
 have m7:=Zn (a:=c.to.d) (b:=v) (A:=100000) (B:=100000) (by omega) (by omega)
 have m8:=Qq (Qu h7) hv.1
 refine ⟨by omega,by omega,by omega,by omega,by omega,by omega,by omega,by omega⟩
structure Big (p:Pt):Prop where
 x : -140000000000000<=p.x/\p.x<=140000000000000
 y : -140000000000000<=p.y/\p.y<=140000000000000
 z : -140000000000000<=p.z/\p.z<=140000000000000
 d:0<p.d/\p.d<=12000000000
theorem Big.wf {p:Pt} (h:Big p):p.wf:=by
 obtain ⟨h1,h2,h3,h4⟩:=h
 exact ⟨⟨by omega,by omega⟩,⟨by omega,by omega⟩,⟨by omega,by omega⟩,⟨by omega,by omega⟩⟩
theorem Yc8 {pl:Int × Int} {c:Crs} (h:CrOk pl c) {u v:Int} (hu:0<u/\u<=2000000000) (hv:0<v/\v<=100000):Big (crPt c u v):=by
 have hb:=Zs3 h (u:=u) (v:=v) (by omega) (by omega)
 unfold crPt
 refine ⟨?_,?_,?_,?_⟩<;>dsimp only<;>omega
theorem Yjg (p:Pt):((g4 p:Int) ∣ p.x/\(g4 p:Int) ∣ p.y)/\((g4 p:Int) ∣ p.z/\(g4 p:Int) ∣ p.d):=by
 unfold g4
 have a:=Gc (Tl p.x.natAbs p.y.natAbs) (Tl p.z.natAbs p.d.natAbs)
 have b:=Mc (Tl p.x.natAbs p.y.natAbs) (Tl p.z.natAbs p.d.natAbs)
 exact ⟨⟨Lr.2 (Ky a (Gc _ _)),Lr.2 (Ky a (Mc _ _))⟩,⟨Lr.2 (Ky b (Gc _ _)),Lr.2 (Ky b (Mc _ _))⟩⟩
theorem Zc5 {a g:Int} (hg:0<g) (h:g ∣ a):a.tdiv g=a / g/\a / g*g=a/\(∀ B,-B<=a/\a<=B -> -B<=a / g/\a / g<=B):=by
 obtain ⟨k,rfl⟩:=h
 rw [Int.mul_tdiv_cancel_left _ (by omega),Int.mul_ediv_cancel_left _ (by omega)]
 refine ⟨rfl,Re _ _,fun B hB=>?_⟩
 rcases Nb k 0 with hk|hk
 ·have:=Qg (show 1<=g by omega) (show 0 <= -k by omega)
  have e:g * -k = -(g*k):=Sf _ _
  omega
 ·have:=Qg (show 1<=g by omega) hk
  omega
theorem Ze2 {p:Pt} (h:Big p):(0<(g4 p:Int)/\(g4 p:Int)<=12000000000)/\(Qa Qb (p.x.tdiv (g4 p))=(redP p).x/\Qa Qb (p.y.tdiv (g4 p))=(redP p).y/\Qa Qb (p.z.tdiv (g4 p))=(redP p).z/\Qa Qb (p.d.tdiv (g4 p))=(redP p).d)/\Big (redP p)/\((redP p).x*g4 p=p.x/\(redP p).y*g4 p=p.y/\(redP p).z*g4 p=p.z/\(redP p).d*g4 p=p.d):=by
 obtain ⟨g1,g2⟩:=Yjf h.wf h.d.1
 obtain ⟨⟨d1,d2⟩,d3,d4⟩:=Yjg p
 have hg:(0:Int)<g4 p:=by omega
 obtain ⟨x1,x2,x3⟩:=Zc5 hg d1
 obtain ⟨y1,y2,y3⟩:=Zc5 hg d2
 obtain ⟨z1,z2,z3⟩:=Zc5 hg d3
 obtain ⟨e1,e2,e3⟩:=Zc5 hg d4
 obtain ⟨h1,h2,h3,h4⟩:=h
 have x3:=x3 140000000000000 h1
 have y3:=y3 140000000000000 h2
 have z3:=z3 140000000000000 h3
 have e3:=e3 12000000000 (by omega)
 have hd:0<p.d / (g4 p:Int):=by
  rcases Nb 0 (p.d / (g4 p:Int)) with k|k
  ·exact k
  ·have:=Qq (show 0 <= -(p.d / (g4 p:Int)) by omega) (Qu hg)
   rw [Int.neg_mul] at this;omega
 refine ⟨by omega,⟨?_,?_,?_,?_⟩,⟨x3,y3,z3,hd,e3.2⟩,x2,y2,z2,e2⟩
 ·rw [x1]; exact W_eq (by omega) (by omega)
 ·rw [y1]; exact W_eq (by omega) (by omega)
 ·rw [z1]; exact W_eq (by omega) (by omega)
 ·rw [e1]; exact W_eq (by omega) (by omega)
theorem Big.ok {p:Pt} (h:Big p):PtOk p.x p.y p.d:=by
 obtain ⟨h1,h2,h3,h4⟩:=h
 exact ⟨h4.1,by omega,by omega,by omega⟩
theorem Zom {pl:Int × Int} {c:Crs} (h:CrOk pl c) (hs:¬ 0<=sgn (crF pl c)*sgn (crG pl c)):(0<iabs (crG pl c)/\iabs (crG pl c)<=2000000000)/\(0<iabs (crF pl c)/\iabs (crF pl c)<=100000):=by
 have h1:=(Zz6 h).2.2
 have h2:=(Zz5 h).2
 have h3:=sgn_mul_neg.1 (show sgn (crF pl c)*sgn (crG pl c)<0 by omega)
 unfold iabs
 refine ⟨?_,?_⟩<;>split<;>omega
theorem Zcz {pl:Int × Int} {c:Crs} (h:CrOk pl c) (hs:¬ 0<=sgn (crF pl c)*sgn (crG pl c)):Big (crPt c (iabs (crG pl c)) (iabs (crF pl c))):=by
 obtain ⟨a,b⟩:=Zom h hs
 exact Yc8 h a b
theorem Ya9 (k a b c a' b' c' u v:Int):valN k (a*u+a'*v) (b*u+b'*v) (c*u+c'*v)=valN k a b c*u+valN k a' b' c'*v:=by
 unfold valN
 repeat' split
 all_goals grind
theorem Ya8 (k a b c g:Int):valN k (a*g) (b*g) (c*g)=valN k a b c*g:=by
 unfold valN
 repeat' split
 all_goals grind
theorem Zgk {pl:Int × Int} {c:Crs} (h:CrOk pl c) (hs:¬ 0<=sgn (crF pl c)*sgn (crG pl c)):valN pl.1 (Xy pl c).x (Xy pl c).y (Xy pl c).z=pl.2*(Xy pl c).d:=by
 obtain ⟨⟨g1,_⟩,_,_,e1,e2,e3,e4⟩:=Ze2 (Zcz h hs)
 have h3:=sgn_mul_neg.1 (show sgn (crF pl c)*sgn (crG pl c)<0 by omega)
 have k:valN pl.1 (crPt c (iabs (crG pl c)) (iabs (crF pl c))).x (crPt c (iabs (crG pl c)) (iabs (crF pl c))).y (crPt c (iabs (crG pl c)) (iabs (crF pl c))).z=pl.2*(crPt c (iabs (crG pl c)) (iabs (crF pl c))).d:=by
  unfold crPt
  dsimp only
  rw [Ya9]
  have hF:valN pl.1 c.fx c.fy c.fz=crF pl c+pl.2:=by unfold crF; omega
  have hG:valN pl.1 c.to.x c.to.y c.to.z=crG pl c+pl.2*c.to.d:=by unfold crG; omega
  rw [hF,hG]
  have:crF pl c*iabs (crG pl c)+crG pl c*iabs (crF pl c)=0:=by
   unfold iabs
   rcases h3 with ⟨p1,p2⟩|⟨p1,p2⟩
   ·rw [if_neg (by omega),if_pos p1]; grind
   ·rw [if_pos p2,if_neg (by omega)]; grind
  grind
 unfold Xy
 rw [<-e1,<-e2,<-e3,<-e4,Ya8] at k
 generalize redP (crPt c (iabs (crG pl c)) (iabs (crF pl c)))=q at *
 have k2:(valN pl.1 q.x q.y q.z-pl.2*q.d)*(g4 (crPt c (iabs (crG pl c)) (iabs (crF pl c))):Int)=0:=by
  rw [Lw,k]; grind
 rcases Lk.1 k2 with k3|k3<;>omega
theorem Zgl {h:Hal} (g:h.fine) {j:Nat} (hj:j<h.ks.length):CanOk h.ks[j]/\Zdm h.ht none h.ks[j].hs=0:=by
 have:=g.can j hj
 unfold Zhv at this
 split at this
 ·split at this
  ·cases this
  ·split at this
   ·cases this
   ·split at this
    ·cases this
    ·split at this
     ·cases this
     ·split at this
      ·split at this
       ·rename_i hz
        split at this
        ·rename_i hp
         split at this
         ·cases this
         ·rename_i hd
          simp only [Qc] at hp;simp only [Qz,decide_eq_true_eq,not_or] at hd;exact ⟨⟨within_iff.1 hp.1.1.1,within_iff.1 hp.1.1.2,within_iff.1 hp.1.2,within_iff.1 hp.2,hd.1,hd.2⟩,hz⟩
        ·cases this
       ·rename_i hx; exact absurd this hx
      ·cases this
 ·cases this
theorem ite9 {b:Bool} {x:Int} (h:(if b=true then 9 else x)=0):x=0:=by
 cases b
 ·exact h
 ·rw [if_pos rfl] at h; exact absurd h (by decide)
theorem Yja {ht:Int} (h0:2<=ht/\ht<=5000):∀ (l:List Int) (p:Option Int),Zdm ht p l=0->∀ n∈l,1<=n/\n<ht
 | [],_,_,n,hn=>by simp at hn
 | m::l,p,h,n,hn=>by
  rw [Zii] at h
  split at h
  ·rename_i hw
   rw [W_eq (by omega) (by omega),within_iff] at hw;have h2:=ite9 h
   rcases Rb.1 hn with rfl|hn
   ·omega
   ·exact Yja h0 l _ h2 n hn
  ·cases h
theorem Zuk {h:Hal} {s:Stg} (g:Sit h s) {j:Nat} (hj:j<h.ks.length):1<=Uq h s j/\Uq h s j<h.ht:=by
 obtain ⟨n,e1,e2,e3,e4⟩:=Zk5 g.set hj
 have hm:Uq h s j∈h.ks[j].hs:=by
  have:=List.mem_of_getElem? e4
  simp only [nl,List.mem_map,List.cons.injEq,AV.int.injEq,true_and,and_true] at this
  obtain ⟨m,hm,rfl⟩:=this
  exact hm
 exact Yja g.fine.ht _ _ (Zgl g.fine hj).2 _ hm
theorem Zr5 {c:Can} (h:CanOk c):RcOk c.rc:=by
 obtain ⟨h1,h2,h3,h4,h5,h6⟩:=h
 obtain ⟨⟨e1,e2⟩,e3,e4⟩:=Zf7 c
 refine ⟨?_,?_,?_,?_,?_,?_⟩<;>omega
theorem Znt {h:Hal} {s:Stg} (g:Sit h s) {i:Int} (hi:SK h i):(0<=(Zi h s i).1/\(Zi h s i).1<=4)/\(-10000<=(Zi h s i).2/\(Zi h s i).2<=10000):=by
 have ht:=g.fine.ht
 cases hi with
 | wall k hk =>
  have hk2:k<h.cs.length:=by have:=g.fine.le; omega
  obtain ⟨n,sx,sy,hs⟩:=g.fine.st k hk2
  rw [Zaa hk,Znu hs]
  have:=hs.b1
  have:=hs.b2
  repeat' split
  all_goals (dsimp only; omega)
 | floor=>rw [Zan]; dsimp only; omega
 | ceil=>rw [Zbj]; dsimp only; omega
 | can j hj =>
  rw [Zcm]
  have:=Zuk g hj
  dsimp only; omega
theorem Ye3 {h:Hal} {s:Stg} (g:Sit h s) {i:Int} (hi:SK h i) {p:Pt} (hp:PtOk p.x p.y p.d) (hpl:valN (Zi h s i).1 p.x p.y p.z=(Zi h s i).2*p.d):Zbw h i p=Zb7 h i p:=by
 cases hi with
 | wall k hk =>
  have hk2:k<h.cs.length:=by have:=g.fine.le; omega
  obtain ⟨n,sx,sy,hs⟩:=g.fine.st k hk2
  rw [Zaa hk] at hpl
  rw [Zh3 hk,Zma hk,Zcc]
  exact Zw4 hs hp g.fine.ht hpl
 | floor =>
  rw [Zf0,Zjz]
  exact Uo g.fine.st p.z hp
 | ceil =>
  rw [Zh4,Zmb]
  exact Uo g.fine.st p.z hp
 | can j hj =>
  rw [Zj0 hj,Zop hj]
  have hr:=Zr5 (Zgl g.fine hj).1
  have hd:0<p.d/\p.d<=1000000000000000:=by have:=hp.hd; have:=hp.hD; omega
  have c0:=(Zgl g.fine hj).1
  generalize h.ks[j]=c at *
  obtain ⟨⟨e1,e2⟩,e3,e4⟩:=Zf7 c
  have c1:=Zj c0.b1 hd.1
  have c2:=Zj c0.b2 hd.1
  have c3:=Zj c0.b3 hd.1
  have c4:=Zj c0.b4 hd.1
  rw [Rz,Ze1 hr hd,e1,e2,e3,e4]
  unfold Zw1 Zgc
  rw [Zaw,Zaw,Zax,Zax,Zca hd.1,Zcb hd.1,Zca hd.1,Zcb hd.1]
  rw [W_eq (n:=c.fx*p.d) (by omega) (by omega),W_eq (n:=c.tx*p.d) (by omega) (by omega),W_eq (n:=c.fy*p.d) (by omega) (by omega),W_eq (n:=c.ty*p.d) (by omega) (by omega)]
  rw [W_eq (n:=min (c.fx*p.d) (c.tx*p.d)) (by omega) (by omega),W_eq (n:=max (c.fx*p.d) (c.tx*p.d)) (by omega) (by omega),W_eq (n:=min (c.fy*p.d) (c.ty*p.d)) (by omega) (by omega),W_eq (n:=max (c.fy*p.d) (c.ty*p.d)) (by omega) (by omega)]
  simp only [Qc,Sz,decide_eq_false_iff_not,within_iff]
  omega
theorem Zz3 {p:Pt} (hb:Big p) {X Y Z D:Int} (hX:X=p.x) (hY:Y=p.y) (hZ:Z=p.z) (hD:D=p.d) :
  gcds [I X,I Y]=some ⟨I (Qa Qb ((Tl p.x.natAbs p.y.natAbs:Nat):Int)),[]⟩/\gcds [I Z,I D]=some ⟨I (Qa Qb ((Tl p.z.natAbs p.d.natAbs:Nat):Int)),[]⟩/\gcds [I (Qa Qb ((Tl p.x.natAbs p.y.natAbs:Nat):Int)),I (Qa Qb ((Tl p.z.natAbs p.d.natAbs:Nat):Int))]=some ⟨I (g4 p:Int),[]⟩ /\
  Qa Qb (X.tdiv (g4 p))=(redP p).x/\Qa Qb (Y.tdiv (g4 p))=(redP p).y/\Qa Qb (Z.tdiv (g4 p))=(redP p).z/\Qa Qb (D.tdiv (g4 p))=(redP p).d/\(0<(g4 p:Int)/\(g4 p:Int)<=12000000000):=by
 subst hX hY hZ hD
 have hw:=hb.wf
 have h3':=Zn8 (Zwc ((Tl p.x.natAbs p.y.natAbs:Nat):Int)) (Zwc ((Tl p.z.natAbs p.d.natAbs:Nat):Int))
 rw [Zt3 (Yeg hw.x hw.y),Zt3 (Yeg hw.z hw.d)] at h3'
 change gcds _=some ⟨I (Qa Qb ((g4 p:Nat):Int)),[]⟩ at h3'
 obtain ⟨g1,⟨r1,r2,r3,r4⟩,_,_⟩:=Ze2 hb
 rw [W_eq (n:=((g4 p:Nat):Int)) (by omega) (by omega)] at h3'
 exact ⟨Zn8 hw.x hw.y,Zn8 hw.z hw.d,h3',r1,r2,r3,r4,g1⟩
theorem Yje {p:Pt} (h:Big p):g4 (redP p)=1:=by
 obtain ⟨⟨g1,_⟩,_,_,e1,e2,e3,e4⟩:=Ze2 h
 have key:g4 p=g4 (redP p)*g4 p:=by
  have hx:p.x.natAbs=(redP p).x.natAbs*g4 p:=by rw [<-e1,Nl,Lt]
  have hy:p.y.natAbs=(redP p).y.natAbs*g4 p:=by rw [<-e2,Nl,Lt]
  have hz:p.z.natAbs=(redP p).z.natAbs*g4 p:=by rw [<-e3,Nl,Lt]
  have hd:p.d.natAbs=(redP p).d.natAbs*g4 p:=by rw [<-e4,Nl,Lt]
  have:g4 p=Tl (Tl ((redP p).x.natAbs*g4 p) ((redP p).y.natAbs*g4 p)) (Tl ((redP p).z.natAbs*g4 p) ((redP p).d.natAbs*g4 p)):=by rw [<-hx,<-hy,<-hz,<-hd]; rfl
  rw [Hm,Hm,Hm] at this
  exact this
 have h0:0<g4 p:=by omega
 have:g4 (redP p)*g4 p=1*g4 p:=by omega
 exact Nat.eq_of_mul_eq_mul_right h0 this
def crsE (h:Hal) (s:Stg) (c:Crs):Int:=if surE h s c.su=0 then (if Um c.fx c.fy c.fz=0 then Xh c.to else Um c.fx c.fy c.fz) else surE h s c.su
theorem Zz4 {h:Hal} {s:Stg} {c:Crs} (hk:h.ok) (hs:s.few) (h0:crsE h s c=0):Sit h s/\SK h c.su/\CrOk (Zi h s c.su) c/\surE h s c.su=0/\Um c.fx c.fy c.fz=0/\Xh c.to=0:=by
 unfold crsE at h0
 split at h0
 ·rename_i h1
  split at h0
  ·rename_i h2
   have e:=Zgs h1;have g:=Zed hk hs e.1;have hi:=Zjd e.2.1 e.2.2;obtain ⟨⟨b1,b2⟩,b3⟩:=Znt g hi;obtain ⟨p1,p2,_,p4⟩:=Ze3 h0;unfold ptIn at p4;simp only [Qc,within_iff] at p4;have h3:=h2;unfold Um img at h3;split at h3
   ·rename_i h4
    simp only [Qc,within_iff] at h4;exact ⟨g,hi,⟨b1,b2,b3,by omega,by omega,by omega,p1,p2,p4.1.1,p4.1.2,p4.2⟩,h1,h2,h0⟩
   ·cases h3
  ·rename_i h2; exact absurd h0 h2
 ·rename_i h1; exact absurd h0 h1
abbrev crAV (r:Pt × Int):AV:=.tup [r.1.av,I r.2]
theorem Zfb {well:Pt->Bool} {pl:Int × Int} {c:Crs} (hs:0<=sgn (crF pl c)*sgn (crG pl c)):Zaf well pl c=(ptZ,12):=by unfold Zaf; rw [if_pos hs]
theorem Zu0 {well:Pt->Bool} {pl:Int × Int} {c:Crs} (hw:well (Xy pl c)=false):Zaf well pl c=(ptZ,12):=by unfold Zaf; rw [hw]; split<;>rfl
theorem Zqz {well:Pt->Bool} {pl:Int × Int} {c:Crs} (hs:¬ 0<=sgn (crF pl c)*sgn (crG pl c)) (hw:well (Xy pl c)=true) (hd:100000<(Xy pl c).d):Zaf well pl c=(ptZ,8):=by unfold Zaf; rw [if_neg hs,hw,if_pos rfl,if_pos hd]
theorem Zuz {well:Pt->Bool} {pl:Int × Int} {c:Crs} (hs:¬ 0<=sgn (crF pl c)*sgn (crG pl c)) (hw:well (Xy pl c)=true) (hd:¬ 100000<(Xy pl c).d):Zaf well pl c=(Xy pl c,0):=by unfold Zaf; rw [if_neg hs,hw,if_pos rfl,if_neg hd]
theorem c42 {h:Hal} {s:Stg} {c:Crs} (g:Sit h s) (hi:SK h c.su) (ho:CrOk (Zi h s c.su) c):PCall Tryz.prog 135 [h.av,s.av,c.av] ⟨crAV (Zaf (Zb7 h c.su) (Zi h s c.su) c),[]⟩:=by
 obtain ⟨f1,f2,f3⟩:=Zz6 ho
 obtain ⟨g1,g2⟩:=Zz5 ho
 have hk0:=Zd (c59 g hi) Yix
 generalize hpl:Zi h s c.su=pl at *
 have hkk:0<=pl.1/\pl.1<5:=⟨ho.k0,by have:=ho.k4; omega⟩
 have hk1:PCOK Tryz.prog (ins 206 r35 (ins 205 (one [h.av,s.av,I c.su] ⟨P2 pl.1 pl.2,[]⟩) kGc)):=Zh (fun a res h=>by
  unfold r35 at h; split at h
  ·obtain ⟨h1,rfl⟩:=Yx h
   have:=of_decide_eq_true h1;exact c35 _ _ _ _ _ this.1 this.2
  ·cases h) hk0
 have a1:asr (decide (0<=pl.1/\pl.1<5)) ⟨I (off pl.1 pl.2 c.fx c.fy c.fz 1),[]⟩=some ⟨I (crF pl c),[]⟩:=by rw [Yn hkk]; exact congrArg some (congrArg (PRes.mk · []) (congrArg I f2))
 have a2:asr (decide (0<=pl.1/\pl.1<5)) ⟨I (off pl.1 pl.2 c.to.x c.to.y c.to.z c.to.d),[]⟩=some ⟨I (crG pl c),[]⟩:=by rw [Yn hkk]; exact congrArg some (congrArg (PRes.mk · []) (congrArg I g1))
 by_cases hs:0<=sgn (crF pl c)*sgn (crG pl c)
 ·rw [Zfb hs]
  have hs2:0<=Qa Qb (sgn (crF pl c)*sgn (crG pl c)):=by rw [Zey]; exact hs
  refine pn hk1 Tryz.func135 ?_
  generalize crF pl c=F at *
  generalize crG pl c=G at *
  repeat'(first|refine wk1 ?_|(refine wk2 ?_ ?_<;>intro _)|fail)
  exact Ze rfl rfl
 ·have hs2:¬ 0<=Qa Qb (sgn (crF pl c)*sgn (crG pl c)):=by rw [Zey]; exact hs
  have hB:=Zcz ho hs
  have hx:=Zs3 ho (u:=iabs (crG pl c)) (v:=iabs (crF pl c)) (by have:=Zom ho hs; omega) (by have:=Zom ho hs; omega)
  have h3:=sgn_mul_neg.1 (show sgn (crF pl c)*sgn (crG pl c)<0 by omega)
  have hcr:Xy pl c=redP (crPt c (iabs (crG pl c)) (iabs (crF pl c))):=rfl
  have hwl:=c121 g hi (Xy pl c)
  have A1:=Zu0 (well:=Zb7 h c.su) (pl:=pl) (c:=c)
  have A2:=Zqz (well:=Zb7 h c.su) hs
  have A3:=Zuz (well:=Zb7 h c.su) hs
  generalize Zaf (Zb7 h c.su) pl c=ans at *
  have iF:iabs (crF pl c)=if crF pl c<0 then -crF pl c else crF pl c:=rfl
  have iG:iabs (crG pl c)=if crG pl c<0 then -crG pl c else crG pl c:=rfl
  generalize Zb7 h c.su (Xy pl c)=wl at *
  generalize Xy pl c=Q at *
  generalize crF pl c=F at *
  generalize crG pl c=G at *
  generalize iabs F=v at *
  generalize iabs G=u at *
  generalize hp:crPt c u v=p at *
  have px:c.fx*u+c.to.x*v=p.x:=by rw [<-hp]; rfl
  have py:c.fy*u+c.to.y*v=p.y:=by rw [<-hp]; rfl
  have pz:c.fz*u+c.to.z*v=p.z:=by rw [<-hp]; rfl
  have pd:u+c.to.d*v=p.d:=by rw [<-hp]; rfl
  obtain ⟨x1,x2,x3,x4,x5,x6,x7⟩:=hx
  have hDd:=hB.d
  rcases h3 with ⟨n1,n2⟩|⟨n1,n2⟩
  ·rw [if_pos n1] at iF
   rw [if_neg (by omega)] at iG;subst iF iG
   have q:∀ a b:Int,(-90000000000000<=a*u/\a*u<=90000000000000)->(-50000000000000<=b * -F/\b * -F<=50000000000000)->Qa Qb (Qa Qb (a*u)-Qa Qb (b*F))=a*u+b * -F:=by
    intro a b k1 k2;rw [Sf] at k2 ⊢;rw [W_eq (n:=a*u) (by omega) (by omega),W_eq (n:=b*F) (by omega) (by omega),W_eq (by omega) (by omega)];omega
   have qd:Qa Qb (u-Qa Qb (F*c.to.d))=p.d:=by
    rw [Re F];rw [Sf] at x7 pd;rw [W_eq (n:=c.to.d*F) (by omega) (by omega),W_eq (by omega) (by omega)]; omega
   obtain ⟨k1,k2,k3,k4,k5,k6,k7,k8⟩:=Zz3 hB (X:=Qa Qb (Qa Qb (c.fx*u)-Qa Qb (c.to.x*F))) (Y:=Qa Qb (Qa Qb (c.fy*u)-Qa Qb (c.to.y*F))) (Z:=Qa Qb (Qa Qb (c.fz*u)-Qa Qb (c.to.z*F))) (D:=Qa Qb (u-Qa Qb (F*c.to.d))) (by rw [q _ _ x1 x4,px]) (by rw [q _ _ x2 x5,py]) (by rw [q _ _ x3 x6,pz]) qd;rw [<-hcr] at k4 k5 k6 k7
   have hw2:PCall Tryz.prog 209 [h.av,I c.su,P4 (Qa Qb ((Qa Qb (Qa Qb (c.fx*u)-Qa Qb (c.to.x*F))).tdiv (g4 p))) (Qa Qb ((Qa Qb (Qa Qb (c.fy*u)-Qa Qb (c.to.y*F))).tdiv (g4 p))) (Qa Qb ((Qa Qb (Qa Qb (c.fz*u)-Qa Qb (c.to.z*F))).tdiv (g4 p))) (Qa Qb ((Qa Qb (u-Qa Qb (F*c.to.d))).tdiv (g4 p)))] ⟨Bo wl,[]⟩:=by
    rw [k4,k5,k6,k7]; exact hwl
   have hk2:=Zd hw2 hk1;clear hw2 hwl hk0 hk1;refine pn hk2 Tryz.func135 ?_
   cases wl with
   | false =>
    rw [A1 rfl]
    repeat'(first|refine wk1 ?_|(refine wk2 ?_ ?_<;>intro _)|fail)
    exact Ze rfl rfl
   | true =>
    by_cases hd:100000<Q.d
    ·rw [A2 rfl hd]
     repeat'(first|refine wk1 ?_|(refine wk2 ?_ ?_<;>intro _)|fail)
     exact Ze rfl rfl
    ·rw [A3 rfl hd]
     repeat'(first|refine wk1 ?_|(refine wk2 ?_ ?_<;>intro _)|fail)
     exact Ze (by rw [k4,k5,k6,k7]) rfl
  ·rw [if_neg (by omega)] at iF
   rw [if_pos n2] at iG;subst iF iG
   have q:∀ a b:Int,(-90000000000000<=a * -G/\a * -G<=90000000000000)->(-50000000000000<=b*v/\b*v<=50000000000000)->Qa Qb (0-Qa Qb (Qa Qb (a*G)-Qa Qb (b*v)))=a * -G+b*v:=by
    intro a b k1 k2;rw [Sf] at k1 ⊢;rw [W_eq (n:=a*G) (by omega) (by omega),W_eq (n:=b*v) (by omega) (by omega),W_eq (n:=a*G-b*v) (by omega) (by omega),W_eq (by omega) (by omega)];omega
   have qn:Qa Qb (G-Qa Qb (v*c.to.d)) = -p.d:=by
    rw [Re v];rw [W_eq (n:=c.to.d*v) (by omega) (by omega),W_eq (by omega) (by omega)]; omega
   have qd:Qa Qb (0-Qa Qb (G-Qa Qb (v*c.to.d)))=p.d:=by
    rw [qn,W_eq (by omega) (by omega)]; omega
   obtain ⟨k1,k2,k3,k4,k5,k6,k7,k8⟩:=Zz3 hB (X:=Qa Qb (0-Qa Qb (Qa Qb (c.fx*G)-Qa Qb (c.to.x*v)))) (Y:=Qa Qb (0-Qa Qb (Qa Qb (c.fy*G)-Qa Qb (c.to.y*v)))) (Z:=Qa Qb (0-Qa Qb (Qa Qb (c.fz*G)-Qa Qb (c.to.z*v)))) (D:=Qa Qb (0-Qa Qb (G-Qa Qb (v*c.to.d)))) (by rw [q _ _ x1 x4,px]) (by rw [q _ _ x2 x5,py]) (by rw [q _ _ x3 x6,pz]) qd;rw [<-hcr] at k4 k5 k6 k7
   have hw2:PCall Tryz.prog 209 [h.av,I c.su,P4 (Qa Qb ((Qa Qb (0-Qa Qb (Qa Qb (c.fx*G)-Qa Qb (c.to.x*v)))).tdiv (g4 p))) (Qa Qb ((Qa Qb (0-Qa Qb (Qa Qb (c.fy*G)-Qa Qb (c.to.y*v)))).tdiv (g4 p))) (Qa Qb ((Qa Qb (0-Qa Qb (Qa Qb (c.fz*G)-Qa Qb (c.to.z*v)))).tdiv (g4 p))) (Qa Qb ((Qa Qb (0-Qa Qb (G-Qa Qb (v*c.to.d)))).tdiv (g4 p)))] ⟨Bo wl,[]⟩:=by
    rw [k4,k5,k6,k7]; exact hwl
   have hk2:=Zd hw2 hk1;clear hw2 hwl hk0 hk1;refine pn hk2 Tryz.func135 ?_
   cases wl with
   | false =>
    rw [A1 rfl]
    repeat'(first|refine wk1 ?_|(refine wk2 ?_ ?_<;>intro _)|fail)
    exact Ze rfl rfl
   | true =>
    by_cases hd:100000<Q.d
    ·rw [A2 rfl hd]
     repeat'(first|refine wk1 ?_|(refine wk2 ?_ ?_<;>intro _)|fail)
     exact Ze rfl rfl
    ·rw [A3 rfl hd]
     repeat'(first|refine wk1 ?_|(refine wk2 ?_ ?_<;>intro _)|fail)
     exact Ze (by rw [k4,k5,k6,k7]) rfl
abbrev sxC:FuncId->Bool:=fun f=>Qp f 163||Qp f 164||Qp f 167
def r113:List AV->Option PRes
 | [.int .i64 k,.agg [.int .i64 x,.int .i64 y,.int .i64 z,.int .i64 d]]=>some ⟨I (offN k x y z),[]⟩
 | _=>none
def crsA (h:Hal) (s:Stg) (c:Crs):Pt × Int:=if crsE h s c=0 then Zaf (Zbw h c.su) (Zi h s c.su) c else (ptZ,crsE h s c)
theorem Yee (x y z:Int):Um x y z=if Vf x y z then 0 else 2:=by rw [Zih]; rfl
theorem c40e {h:Hal} (hk:h.ok) {s:Stg} (hs:s.few) {c:Crs} (hw:c.to.wf) (he:crsE h s c≠0):PCall Tryz.prog 112 [h.av,s.av,c.av] ⟨crAV (ptZ,crsE h s c),[]⟩:=by
 have hk0:=Zd (c109 hk hs c.su) (Zd (c99 hw) Zar)
 by_cases h1:surE h s c.su=0
 ·have e1:crsE h s c=if Vf c.fx c.fy c.fz then Xh c.to else 2:=by
   unfold crsE; rw [if_pos h1,Yee];split
   ·rw [if_pos rfl]
   ·rw [if_neg (by decide)]
  rw [e1] at he ⊢
  rw [h1] at hk0
  cases h2:Vf c.fx c.fy c.fz with
  | false =>
   have hu:unl (Vf c.fx c.fy c.fz) 2=2:=by rw [h2]; rfl
   rw [if_neg (by decide)];refine bs.pv (sx:=sxC) hk0 Tryz.func112 (by kernel_rfl) (by kernel_rfl) rfl ?_
   repeat'(first|refine wk1 ?_|(refine wk2 ?_ ?_<;>intro _)|fail)
   refine bs.sv (sx:=sxC) hk0 Tryz.func163 (by kernel_rfl) (by kernel_rfl) ?_;refine Su 3 ?_;refine Qx (bs.av (sx:=sxC) hk0 ?_)
   repeat'(first|refine wk1 ?_|(refine wk2 ?_ ?_<;>intro _)|fail)
   refine bs.sv (sx:=sxC) hk0 Tryz.func164 (by kernel_rfl) (by kernel_rfl) ?_
   repeat'(first|refine wk1 ?_|(refine wk2 ?_ ?_<;>intro _)|fail)
   exact Ze (by rw [hu]; rfl) rfl
  | true =>
   have hu:unl (Vf c.fx c.fy c.fz) 2=0:=by rw [h2]; rfl
   rw [h2,if_pos rfl] at he;rw [if_pos rfl];generalize Xh c.to=pe at *;refine bs.pv (sx:=sxC) hk0 Tryz.func112 (by kernel_rfl) (by kernel_rfl) rfl ?_
   repeat'(first|refine wk1 ?_|(refine wk2 ?_ ?_<;>intro _)|fail)
   refine bs.sv (sx:=sxC) hk0 Tryz.func163 (by kernel_rfl) (by kernel_rfl) ?_;refine Su 3 ?_;refine Qx (bs.av (sx:=sxC) hk0 ?_)
   repeat'(first|refine wk1 ?_|(refine wk2 ?_ ?_<;>intro _)|fail)
   refine bs.sv (sx:=sxC) hk0 Tryz.func164 (by kernel_rfl) (by kernel_rfl) ?_
   repeat'(first|refine wk1 ?_|(refine wk2 ?_ ?_<;>intro _)|fail)
   refine Qx (bs.av (sx:=sxC) hk0 ?_)
   repeat'(first|refine wk1 ?_|(refine wk2 ?_ ?_<;>intro _)|fail)
   refine bs.sv (sx:=sxC) hk0 Tryz.func167 (by kernel_rfl) (by kernel_rfl) ?_
   repeat'(first|refine wk1 ?_|(refine wk2 ?_ ?_<;>intro _)|fail)
   exact Ze rfl rfl
 ·have e1:crsE h s c=surE h s c.su:=by unfold crsE; rw [if_neg h1]
  rw [e1]
  refine bs.pv (sx:=sxC) hk0 Tryz.func112 (by kernel_rfl) (by kernel_rfl) rfl ?_
  repeat'(first|refine wk1 ?_|(refine wk2 ?_ ?_<;>intro _)|fail)
  exact Ze rfl rfl
theorem Zto {n:Int} (h : -9000000000000000000<=n/\n<=9000000000000000000):size n=iabs n:=by rw [Zc7 h]; rfl
theorem c40o {h:Hal} (hk:h.ok) {s:Stg} (hs:s.few) {c:Crs} (hw:c.to.wf) (he:crsE h s c=0):PCall Tryz.prog 112 [h.av,s.av,c.av] ⟨crAV (Zaf (Zbw h c.su) (Zi h s c.su) c),[]⟩:=by
 obtain ⟨g,hi,ho,h1,h2,h3⟩:=Zz4 hk hs he
 have h2' : Vf c.fx c.fy c.fz=true:=by
  rw [Yee] at h2
  cases hx:Vf c.fx c.fy c.fz
  ·rw [hx] at h2; exact absurd h2 (by decide)
  ·rfl
 have hu:unl (Vf c.fx c.fy c.fz) 2=0:=by rw [h2']; rfl
 obtain ⟨f1,f2,f3⟩:=Zz6 ho
 obtain ⟨g1,g2⟩:=Zz5 ho
 have hk0:=Zd (c109 hk hs c.su) (Zd (c99 hw) Zar)
 rw [h1,h3] at hk0
 have hk0:=Zd (c112 g hi) (Zh (f0:=169) (r:=r113) (fun a res h=>by unfold r113 at h; split at h<;>cases h; exact c113 _ ⟨_,_,_,_⟩) hk0)
 generalize hpl:Zi h s c.su=pl at *
 by_cases hsg:0<=sgn (crF pl c)*sgn (crG pl c)
 ·rw [Zfb hsg]
  have hs2:0<=Qa Qb (sgn (Qa Qb (offN pl.1 c.fx c.fy c.fz-pl.2))*sgn (Qa Qb (offN pl.1 c.to.x c.to.y c.to.z-Qa Qb (pl.2*c.to.d)))):=by rw [f1,g1,Zey]; exact hsg
  refine bs.pv (sx:=sxC) hk0 Tryz.func112 (by kernel_rfl) (by kernel_rfl) rfl ?_
  repeat'(first|refine wk1 ?_|(refine wk2 ?_ ?_<;>intro _)|fail)
  refine bs.sv (sx:=sxC) hk0 Tryz.func163 (by kernel_rfl) (by kernel_rfl) ?_
  refine Su 3 ?_
  refine Qx (bs.av (sx:=sxC) hk0 ?_)
  repeat'(first|refine wk1 ?_|(refine wk2 ?_ ?_<;>intro _)|fail)
  refine bs.sv (sx:=sxC) hk0 Tryz.func164 (by kernel_rfl) (by kernel_rfl) ?_
  repeat'(first|refine wk1 ?_|(refine wk2 ?_ ?_<;>intro _)|fail)
  refine Qx (bs.av (sx:=sxC) hk0 ?_)
  repeat'(first|refine wk1 ?_|(refine wk2 ?_ ?_<;>intro _)|fail)
  refine bs.sv (sx:=sxC) hk0 Tryz.func167 (by kernel_rfl) (by kernel_rfl) ?_
  repeat'(first|refine wk1 ?_|(refine wk2 ?_ ?_<;>intro _)|fail)
  refine Qx (bs.av (sx:=sxC) hk0 ?_)
  repeat'(first|refine wk1 ?_|(refine wk2 ?_ ?_<;>intro _)|fail)
  exact Ze rfl rfl
 ·have hs2:¬ 0<=Qa Qb (sgn (Qa Qb (offN pl.1 c.fx c.fy c.fz-pl.2))*sgn (Qa Qb (offN pl.1 c.to.x c.to.y c.to.z-Qa Qb (pl.2*c.to.d)))):=by rw [f1,g1,Zey]; exact hsg
  have hB:=Zcz ho hsg
  have hx:=Zs3 ho (u:=iabs (crG pl c)) (v:=iabs (crF pl c)) (by have:=Zom ho hsg; omega) (by have:=Zom ho hsg; omega)
  have hcr:Xy pl c=redP (crPt c (iabs (crG pl c)) (iabs (crF pl c))):=rfl
  have hwl:=c118 g hi (Xy pl c)
  have A1:=Zu0 (well:=Zbw h c.su) (pl:=pl) (c:=c)
  have A2:=Zqz (well:=Zbw h c.su) hsg
  have A3:=Zuz (well:=Zbw h c.su) hsg
  generalize Zaf (Zbw h c.su) pl c=ans at *
  generalize Zbw h c.su (Xy pl c)=wl at *
  generalize Xy pl c=Q at *
  have su:size (Qa Qb (offN pl.1 c.to.x c.to.y c.to.z-Qa Qb (pl.2*c.to.d)))=iabs (crG pl c):=by rw [g1]; exact Zto (by omega)
  have sv:size (Qa Qb (offN pl.1 c.fx c.fy c.fz-pl.2))=iabs (crF pl c):=by rw [f1]; exact Zto (by omega)
  generalize hp:crPt c (iabs (crG pl c)) (iabs (crF pl c))=p at *
  generalize iabs (crF pl c)=v at *
  generalize iabs (crG pl c)=u at *
  have px:c.fx*u+c.to.x*v=p.x:=by rw [<-hp]; rfl
  have py:c.fy*u+c.to.y*v=p.y:=by rw [<-hp]; rfl
  have pz:c.fz*u+c.to.z*v=p.z:=by rw [<-hp]; rfl
  have pd:u+c.to.d*v=p.d:=by rw [<-hp]; rfl
  obtain ⟨x1,x2,x3,x4,x5,x6,x7⟩:=hx
  have hDd:=hB.d
  generalize hA:Qa Qb (offN pl.1 c.fx c.fy c.fz-pl.2)=A at *
  generalize hBb:Qa Qb (offN pl.1 c.to.x c.to.y c.to.z-Qa Qb (pl.2*c.to.d))=B at *
  have q:∀ a b:Int,(-90000000000000<=a*u/\a*u<=90000000000000)->(-50000000000000<=b*v/\b*v<=50000000000000)->Qa Qb (Qa Qb (a*size B)+Qa Qb (b*size A))=a*u+b*v:=by
   intro a b k1 k2;rw [su,sv];rw [W_eq (n:=a*u) (by omega) (by omega),W_eq (n:=b*v) (by omega) (by omega),W_eq (by omega) (by omega)]
  have qd:Qa Qb (size B+Qa Qb (c.to.d*size A))=p.d:=by
   rw [su,sv];rw [W_eq (n:=c.to.d*v) (by omega) (by omega),W_eq (by omega) (by omega)]; omega
  obtain ⟨k1,k2,k3,k4,k5,k6,k7,k8⟩:=Zz3 hB (X:=Qa Qb (Qa Qb (c.fx*size B)+Qa Qb (c.to.x*size A))) (Y:=Qa Qb (Qa Qb (c.fy*size B)+Qa Qb (c.to.y*size A))) (Z:=Qa Qb (Qa Qb (c.fz*size B)+Qa Qb (c.to.z*size A))) (D:=Qa Qb (size B+Qa Qb (c.to.d*size A))) (by rw [q _ _ x1 x4,px]) (by rw [q _ _ x2 x5,py]) (by rw [q _ _ x3 x6,pz]) qd
  rw [<-hcr] at k4 k5 k6 k7
  have hdv:PCall Tryz.prog 173 [.isl 1 (nl [Qa Qb (Qa Qb (c.fx*size B)+Qa Qb (c.to.x*size A)),Qa Qb (Qa Qb (c.fy*size B)+Qa Qb (c.to.y*size A)),Qa Qb (Qa Qb (c.fz*size B)+Qa Qb (c.to.z*size A)),Qa Qb (size B+Qa Qb (c.to.d*size A))])] ⟨I (g4 p:Int),[]⟩:=by
   rw [q _ _ x1 x4,q _ _ x2 x5,q _ _ x3 x6,qd,px,py,pz];have hwf:=hB.wf
   have hc:=c117 (ns:=[p.x,p.y,p.z,p.d]) (by simp) (by
    intro n hn;simp only [Rb,List.not_mem_nil,or_false] at hn
    rcases hn with rfl|rfl|rfl|rfl
    ·exact hwf.x
    ·exact hwf.y
    ·exact hwf.z
    ·exact hwf.d)
   have hg:gl 0 [p.x,p.y,p.z,p.d]=g4 p:=by
    simp only [gl,Nat.gcd_zero_left];exact Zm3 _ _ _ _
   rw [hg,W_eq (n:=((g4 p:Nat):Int)) (by omega) (by omega)] at hc;exact hc
  have hw2:PCall Tryz.prog 174 [.agg (stgL h s),I c.su,P4 (Qa Qb ((Qa Qb (Qa Qb (c.fx*size B)+Qa Qb (c.to.x*size A))).tdiv (g4 p))) (Qa Qb ((Qa Qb (Qa Qb (c.fy*size B)+Qa Qb (c.to.y*size A))).tdiv (g4 p))) (Qa Qb ((Qa Qb (Qa Qb (c.fz*size B)+Qa Qb (c.to.z*size A))).tdiv (g4 p))) (Qa Qb ((Qa Qb (size B+Qa Qb (c.to.d*size A))).tdiv (g4 p)))] ⟨Bo wl,[]⟩:=by
   rw [k4,k5,k6,k7]; exact hwl
  rw [<-hA,<-hBb] at hw2 hdv
  have hk2:=Zd hw2 (Zd hdv hk0)
  clear hw2 hwl hk0 hdv q
  rw [<-hA,<-hBb] at k4 k5 k6 k7 hs2
  clear k1 k2 k3
  refine bs.pv (sx:=sxC) hk2 Tryz.func112 (by kernel_rfl) (by kernel_rfl) rfl ?_
  cases wl with
  | false =>
   rw [A1 rfl]
   repeat'(first|refine wk1 ?_|(refine wk2 ?_ ?_<;>intro _)|fail)
   refine bs.sv (sx:=sxC) hk2 Tryz.func163 (by kernel_rfl) (by kernel_rfl) ?_;refine Su 3 ?_;refine Qx (bs.av (sx:=sxC) hk2 ?_)
   repeat'(first|refine wk1 ?_|(refine wk2 ?_ ?_<;>intro _)|fail)
   refine bs.sv (sx:=sxC) hk2 Tryz.func164 (by kernel_rfl) (by kernel_rfl) ?_
   repeat'(first|refine wk1 ?_|(refine wk2 ?_ ?_<;>intro _)|fail)
   refine Qx (bs.av (sx:=sxC) hk2 ?_)
   repeat'(first|refine wk1 ?_|(refine wk2 ?_ ?_<;>intro _)|fail)
   refine bs.sv (sx:=sxC) hk2 Tryz.func167 (by kernel_rfl) (by kernel_rfl) ?_
   repeat'(first|refine wk1 ?_|(refine wk2 ?_ ?_<;>intro _)|fail)
   refine Qx (bs.av (sx:=sxC) hk2 ?_)
   repeat'(first|refine wk1 ?_|(refine wk2 ?_ ?_<;>intro _)|fail)
   exact Ze rfl rfl
  | true =>
   by_cases hd:100000<Q.d
   ·rw [A2 rfl hd]
    repeat'(first|refine wk1 ?_|(refine wk2 ?_ ?_<;>intro _)|fail)
    refine bs.sv (sx:=sxC) hk2 Tryz.func163 (by kernel_rfl) (by kernel_rfl) ?_;refine Su 3 ?_;refine Qx (bs.av (sx:=sxC) hk2 ?_)
    repeat'(first|refine wk1 ?_|(refine wk2 ?_ ?_<;>intro _)|fail)
    refine bs.sv (sx:=sxC) hk2 Tryz.func164 (by kernel_rfl) (by kernel_rfl) ?_
    repeat'(first|refine wk1 ?_|(refine wk2 ?_ ?_<;>intro _)|fail)
    refine Qx (bs.av (sx:=sxC) hk2 ?_)
    repeat'(first|refine wk1 ?_|(refine wk2 ?_ ?_<;>intro _)|fail)
    refine bs.sv (sx:=sxC) hk2 Tryz.func167 (by kernel_rfl) (by kernel_rfl) ?_
    repeat'(first|refine wk1 ?_|(refine wk2 ?_ ?_<;>intro _)|fail)
    refine Qx (bs.av (sx:=sxC) hk2 ?_)
    repeat'(first|refine wk1 ?_|(refine wk2 ?_ ?_<;>intro _)|fail)
    exact Ze rfl rfl
   ·rw [A3 rfl hd]
    repeat'(first|refine wk1 ?_|(refine wk2 ?_ ?_<;>intro _)|fail)
    refine bs.sv (sx:=sxC) hk2 Tryz.func163 (by kernel_rfl) (by kernel_rfl) ?_;refine Su 3 ?_;refine Qx (bs.av (sx:=sxC) hk2 ?_)
    repeat'(first|refine wk1 ?_|(refine wk2 ?_ ?_<;>intro _)|fail)
    refine bs.sv (sx:=sxC) hk2 Tryz.func164 (by kernel_rfl) (by kernel_rfl) ?_
    repeat'(first|refine wk1 ?_|(refine wk2 ?_ ?_<;>intro _)|fail)
    refine Qx (bs.av (sx:=sxC) hk2 ?_)
    repeat'(first|refine wk1 ?_|(refine wk2 ?_ ?_<;>intro _)|fail)
    refine bs.sv (sx:=sxC) hk2 Tryz.func167 (by kernel_rfl) (by kernel_rfl) ?_
    repeat'(first|refine wk1 ?_|(refine wk2 ?_ ?_<;>intro _)|fail)
    refine Qx (bs.av (sx:=sxC) hk2 ?_)
    repeat'(first|refine wk1 ?_|(refine wk2 ?_ ?_<;>intro _)|fail)
    exact Ze (by rw [k4,k5,k6,k7]) rfl
theorem c40 {h:Hal} (hk:h.ok) {s:Stg} (hs:s.few) {c:Crs} (hw:c.to.wf):PCall Tryz.prog 112 [h.av,s.av,c.av] ⟨crAV (crsA h s c),[]⟩:=by
 unfold crsA
 by_cases he:crsE h s c=0
 ·rw [if_pos he]; exact c40o hk hs hw he
 ·rw [if_neg he]; exact c40e hk hs hw he
theorem Yc9 {h:Hal} {s:Stg} {c:Crs} (g:Sit h s) (hi:SK h c.su) (ho:CrOk (Zi h s c.su) c):Zaf (Zbw h c.su) (Zi h s c.su) c=Zaf (Zb7 h c.su) (Zi h s c.su) c:=by
 by_cases hs:0<=sgn (crF (Zi h s c.su) c)*sgn (crG (Zi h s c.su) c)
 ·rw [Zfb hs,Zfb hs]
 ·have hb:=(Ze2 (Zcz ho hs)).2.2.1
  have e:=Ye3 g hi (p:=Xy (Zi h s c.su) c) hb.ok (Zgk ho hs)
  unfold Zaf
  rw [e]
def Yhl (p:Pt):Prop:=(-(5000*p.d)<=p.x/\p.x<=5000*p.d)/\(-(5000*p.d)<=p.y/\p.y<=5000*p.d)/\(-(5000*p.d)<=p.z/\p.z<=5000*p.d)
theorem Zw5 {h:Hal} {w:Wl} {n sx sy:Int} (hs:Str w n sx sy) {p:Pt} (hp:PtOk p.x p.y p.d) (ht:2<=h.ht/\h.ht<=5000) (hpl:valN (plW w).1 p.x p.y p.z=(plW w).2*p.d) (hw:Zoo h w p=true):Yhl p:=by
 obtain ⟨x,y,z,d⟩:=p
 dsimp only at hp hpl
 have hd:=hp.hd
 have hD:=hp.hD
 have a1:=Zj hs.b1 hd
 have a2:=Zj hs.b2 hd
 have a3:=Zj hs.b3 hd
 have a4:=Zj hs.b4 hd
 have hz0:=Zj (f:=h.ht) (d:=d) (by omega) hd
 have hz:Qa Qb (h.ht*d)=h.ht*d:=W_eq (by omega) (by omega)
 unfold Zoo at hw
 rw [Znu hs] at hpl
 unfold valN at hpl
 rw [Zaw,Zaw,Zax,Zax] at hw
 dsimp only at hw
 rw [hz,Zca hd,Zca hd,Zcb hd,Zcb hd] at hw
 rw [W_eq (n:=min (w.fx*d) (w.tx*d)) (by omega) (by omega),W_eq (n:=max (w.fx*d) (w.tx*d)) (by omega) (by omega),W_eq (n:=min (w.fy*d) (w.ty*d)) (by omega) (by omega),W_eq (n:=max (w.fy*d) (w.ty*d)) (by omega) (by omega)] at hw
 have ex:w.tx*d=w.fx*d+sx*(n*d):=by rw [hs.tx]; grind
 have ey:w.ty*d=w.fy*d+sy*(n*d):=by rw [hs.ty]; grind
 have d3:(w.fx+w.fy)*d=w.fx*d+w.fy*d:=by grind
 have d4:(w.fx-w.fy)*d=w.fx*d-w.fy*d:=by grind
 have cnd:(w.fx=w.tx)->sx=0:=by
  intro e
  have:=hs.tx
  have hn:=hs.hn
  have:n*sx=0:=by omega
  rcases Lk.1 this with h|h
  ·omega
  ·exact h
 have nd:0<n*d:=Rm hs.hn hd
 unfold Yhl
 dsimp only
 simp only [Qc,Sz,Bool.or_eq_false_iff,decide_eq_false_iff_not] at hw
 obtain ⟨⟨z1,z2⟩,hw⟩:=hw
 have hxy:=hs.hxy
 split at hw
 ·rename_i c
  have c0:=cnd c
  subst c0
  simp only [Qc,decide_eq_true_eq] at hw
  simp at hpl
  omega
 ·rename_i c
  simp only [Qc,decide_eq_true_eq] at hw
  have hx0:sx≠0:=fun e=>c (by rw [hs.tx,e]; omega)
  rw [if_neg hx0] at hpl
  rcases hs.hy with rfl|rfl|rfl<;>rcases hs.hx with rfl|rfl|rfl
  all_goals simp at hpl hx0
  all_goals omega
theorem Zsi {h:Hal} {d z n:Int} (hd:0<d) (hn:0<=n/\n<=5000) (e:z=n*d) : -(5000*d)<=z/\z<=5000*d:=by
 have:=Zj (f:=n) (d:=d) (by omega) hd
 omega
theorem Zwz {h:Hal} {s:Stg} (g:Sit h s) {i:Int} (hi:SK h i) {p:Pt} (hp:PtOk p.x p.y p.d) (hpl:valN (Zi h s i).1 p.x p.y p.z=(Zi h s i).2*p.d) (hw:Zbw h i p=true):Yhl p:=by
 have ht:=g.fine.ht
 cases hi with
 | wall k hk =>
  have hk2:k<h.cs.length:=by have:=g.fine.le; omega
  obtain ⟨n,sx,sy,hs⟩:=g.fine.st k hk2
  rw [Zaa hk] at hpl
  rw [Zh3 hk] at hw
  exact Zw5 hs hp ht hpl hw
 | floor =>
  rw [Zf0] at hw
  rw [Zan] at hpl
  have hb:=Zmz g.fine.st hp hw
  have hpl:p.z=0*p.d:=hpl
  exact ⟨hb.1,hb.2,Zsi (h:=h) hp.hd (by omega) hpl⟩
 | ceil =>
  rw [Zh4] at hw
  rw [Zbj] at hpl
  have hb:=Zmz g.fine.st hp hw
  have hpl:p.z=h.ht*p.d:=hpl
  exact ⟨hb.1,hb.2,Zsi (h:=h) hp.hd (by omega) hpl⟩
 | can j hj =>
  rw [Zj0 hj] at hw
  rw [Zcm] at hpl
  have hpl:p.z=Uq h s j*p.d:=hpl
  have hg:=Zuk g hj
  have hr:=Zr5 (Zgl g.fine hj).1
  have hd:0<p.d/\p.d<=1000000000000000:=by have:=hp.hd; have:=hp.hD; omega
  have c0:=(Zgl g.fine hj).1
  generalize h.ks[j]=c at *
  obtain ⟨⟨e1,e2⟩,e3,e4⟩:=Zf7 c
  have c1:=Zj c0.b1 hd.1
  have c2:=Zj c0.b2 hd.1
  have c3:=Zj c0.b3 hd.1
  have c4:=Zj c0.b4 hd.1
  rw [Ze1 hr hd,e1,e2,e3,e4,Zca hd.1,Zcb hd.1,Zca hd.1,Zcb hd.1] at hw
  exact ⟨by omega,by omega,Zsi (h:=h) hp.hd (by omega) hpl⟩
theorem Zs2 {h:Hal} {s:Stg} (g:Sit h s) {c:Crs} (hi:SK h c.su) (ho:CrOk (Zi h s c.su) c) (e:(Zaf (Zbw h c.su) (Zi h s c.su) c).2=0) :
  Xh (Zaf (Zbw h c.su) (Zi h s c.su) c).1=0:=by
 unfold Zaf at e ⊢
 split at e
 ·cases e
 ·rename_i hs
  split at e
  ·rename_i hw
   split at e
   ·cases e
   ·rename_i hd
    rw [if_neg hs,if_pos hw,if_neg hd];have hbig:=Zcz ho hs;have hb:=(Ze2 hbig).2.2.1;have hn:=Zwz g hi (p:=Xy (Zi h s c.su) c) hb.ok (Zgk ho hs) hw;have hg:=Yje hbig;unfold Xh;have hd0:=hb.d.1
    rw [if_neg (by
     intro q
     rcases q with q|q
     ·exact absurd hd0 (Int.not_lt.2 q)
     ·exact q hg),if_neg hd,if_pos]
    unfold ptIn;obtain ⟨n1,n2,n3⟩:=hn;simp only [Qc,within_iff];exact ⟨⟨n1,n2⟩,n3⟩
  ·cases e
def cdv (n b:Int):Int:=-((-n) / b)
theorem Yev {n b:Int} (hb:0<b):cdv n b=(n+b-1) / b:=by
 unfold cdv
 have h1:=Int.emod_add_mul_ediv (-n) b
 have h2:=Int.emod_nonneg (-n) (b:=b) (by omega)
 have h3:=Int.emod_lt_of_pos (-n) hb
 refine (((Int.ediv_emod_unique hb (r:=b-1-(-n)%b)).2 ⟨?_,by omega,by omega⟩).1).symm
 rw [Sf]
 omega
def scV (lo hi n b:Int):Int × Int:=(lo*n / b,cdv (hi*n) b)
structure ScOk (lo hi n b:Int):Prop where
 b:0<b/\b<=1000000
 l:0<=lo*n/\lo*n<=4000000000000000000
 h:0<=hi*n/\hi*n<=4000000000000000000
theorem d102 {lo hi n b:Int} (k:ScOk lo hi n b):PCall Tryz.prog 121 [P2 lo hi,I n,I b] ⟨P2 (scV lo hi n b).1 (scV lo hi n b).2,[]⟩:=by
 obtain ⟨⟨b0,b1⟩,⟨l0,l1⟩,⟨h0,h1⟩⟩:=k
 have hz:¬ b=0:=by omega
 have w1:Qa Qb (lo*n)=lo*n:=W_eq (by omega) (by omega)
 have w2:Qa Qb (hi*n)=hi*n:=W_eq (by omega) (by omega)
 have q1:=Ks b l0
 have q2:=Ts l0 (show 0<=b by omega)
 have q3:=Ks b (show 0<=hi*n+b-1 by omega)
 have q4:=Ts (show 0<=hi*n+b-1 by omega) (show 0<=b by omega)
 refine pn Zc Tryz.func121 ?_
 repeat'(first|refine wk3 ?_|(refine wk2 ?_ ?_<;>intro _)|fail)
 refine Ze ?_ rfl
 unfold scV
 rw [Yev b0,w1,w2,W_eq (n:=hi*n+b) (by omega) (by omega),W_eq (n:=hi*n+b-1) (by omega) (by omega),Om l0,Om (show 0<=hi*n+b-1 by omega),W_eq (n:=lo*n / b) (by omega) (by omega),W_eq (n:=(hi*n+b-1) / b) (by omega) (by omega)]
noncomputable def delV (sq v:Int):Int × Int:=scV (lenV sq).1 (lenV sq).2 100 v
theorem spE_iff {n:Int}:spE n=0↔30000<=n/\n<=40000:=by
 rw [<-within_iff]
 unfold spE
 cases within n 30000 40000<;>simp [unl]
theorem Yip {sq v:Int} (h0:1<=sq) (h1:sq<=24300000000) (hv:spE v=0):ScOk (lenV sq).1 (lenV sq).2 100 v:=by
 obtain ⟨⟨g1,g2⟩,g3,g4⟩:=Zk2 h0 h1
 have:=spE_iff.1 hv
 exact ⟨by omega,by omega,by omega⟩
theorem Yg8 {sq v:Int} (h0:1<=sq) (h1:sq<=24300000000) (hv:spE v=0):0<=(delV sq v).1/\(delV sq v).1<=(delV sq v).2/\(delV sq v).2<=7200000:=by
 obtain ⟨⟨g1,g2⟩,g3,g4⟩:=Zk2 h0 h1
 have hv:=spE_iff.1 hv
 unfold delV scV
 dsimp only
 generalize (lenV sq).1=lo at *
 generalize (lenV sq).2=hi at *
 rw [Yev (by omega)]
 refine ⟨Ts (by omega) (by omega),Kr (by omega) (by omega),?_⟩
 have:hi*100+v-1<=7200000*v:=by omega
 have:=Kr (show 0<v by omega) this
 rw [Int.mul_ediv_cancel _ (by omega)] at this
 exact this
theorem d100 {p:Pth} {v:Int} (h:pthE p=0) (hv:spE v=0):PCall Tryz.prog 76 [p.av,I v] ⟨P2 (delV p.sq v).1 (delV p.sq v).2,[]⟩:=by
 obtain ⟨_,s1,s2⟩:=Ul h
 have h1:=Zd (d163 h) (Zd (d102 (Yip s1 s2 hv)) Zc)
 unfold delV
 generalize scV (lenV p.sq).1 (lenV p.sq).2 100 v=D at *
 generalize lenV p.sq=L at *
 refine pn h1 Tryz.func76 ?_
 repeat'(first|refine wk3 ?_|(refine wk2 ?_ ?_<;>intro _)|fail)
 exact Ze rfl rfl
def okP (e:Int) (v:Int × Int):Int × Int:=if e=0 then v else (0,0)
noncomputable def deE (p:Pth) (v:Int):Int:=fstL [pthE p,spE v]
theorem fst_two {a b:Int}:fstL [a,b]=0↔a=0/\b=0:=by
 simp only [fstL]
 by_cases ha:a=0<;>by_cases hb:b=0<;>simp [ha,hb]
theorem d38 (p:Pth) (v:Int):PCall Tryz.prog 36 [p.av,I v] ⟨.tup [P2 (okP (deE p v) (delV p.sq v)).1 (okP (deE p v) (delV p.sq v)).2,I (deE p v)],[]⟩:=by
 have h1:=d162 p
 have h2:=d99s v
 by_cases c:deE p v=0
 ·obtain ⟨c1,c2⟩:=fst_two.1 c
  have h3:=Zd (d100 c1 c2) (Zd h1 (Zd h2 Zud))
  rw [show okP (deE p v) (delV p.sq v)=delV p.sq v from if_pos c]
  unfold deE at c ⊢
  generalize delV p.sq v=D at *
  generalize pthE p=E at *
  generalize spE v=F at *
  rw [c]
  subst c1 c2
  refine pn h3 Tryz.func36 ?_
  repeat'(first|refine wk3 ?_|(refine wk2 ?_ ?_<;>intro _)|fail)
  all_goals first|exact Ze rfl rfl|(exfalso; simp_all [fstL,unl]; done)
 ·have h3:=Zd h1 (Zd h2 Zud)
  rw [show okP (deE p v) (delV p.sq v)=(0,0) from if_neg c]
  unfold deE at c ⊢
  generalize pthE p=E at *
  generalize spE v=F at *
  refine pn h3 Tryz.func36 ?_
  repeat'(first|refine wk3 ?_|(refine wk2 ?_ ?_<;>intro _)|fail)
  all_goals first|exact Ze rfl rfl|(exfalso; simp_all [fstL,unl]; done)
def kI1:PC:=ins 89 rFl (ins 90 rCl k78)
theorem Yiw:PCOK Tryz.prog kI1:=by
 refine Zh (fun a res h=>?_) (Zh (fun a res h=>?_) Zuf)
 ·unfold rFl at h
  split at h
  ·obtain ⟨h1,rfl⟩:=Yx h; exact d95 (of_decide_eq_true h1)
  ·cases h
 ·unfold rCl at h
  split at h
  ·obtain ⟨h1,rfl⟩:=Yx h; exact d96 (of_decide_eq_true h1)
  ·cases h
theorem d45 {sq v:Int} (h0:1<=sq) (h1:sq<=24300000000) (hv:spE v=0):PCall Tryz.prog 46 [I sq,I v] ⟨P2 (delV sq v).1 (delV sq v).2,[]⟩:=by
 have h99:=d99 h0 h1
 obtain ⟨⟨g1,g2⟩,g3,g4⟩:=Zk2 h0 h1
 have hv:=spE_iff.1 hv
 have hk:=Zd h99 Yiw
 unfold delV scV cdv
 dsimp only
 generalize lenV sq=L at *
 obtain ⟨lo,hi⟩:=L
 dsimp only at *
 rw [Re lo,Re hi]
 have w1:Qa Qb (100*lo)=100*lo:=W_eq (by omega) (by omega)
 have w2:Qa Qb (100*hi)=100*hi:=W_eq (by omega) (by omega)
 have q1:=Yji (n:=Qa Qb (100*lo)) (b:=v) ⟨by omega,by omega,by omega⟩
 have q2:=Yj0 (n:=Qa Qb (100*hi)) (b:=v) ⟨by omega,by omega,by omega⟩
 rw [<-w1,<-w2]
 refine pn hk Tryz.func46 ?_
 repeat'(first|refine wk3 ?_|(refine wk2 ?_ ?_<;>intro _)|fail)
 exact Ze rfl rfl
def eqN:List Int->List Int->Bool
 | [],[]=>true
 | x::a,y::b=>decide (x=y)&&eqN a b
 | _,_=>false
theorem eqN_iff:∀ {a b:List Int},eqN a b=true↔a=b
 | [],[]=>by simp [eqN]
 | x::a,y::b=>by rw [eqN,Qc,decide_eq_true_eq,eqN_iff]; simp
 | [],y::b=>by simp [eqN]
 | x::a,[]=>by simp [eqN]
theorem Yg4 {a b:List Int} (h:a.length≠b.length):eqN a b=false:=by
 rw [Bool.eq_false_iff,ne_eq,eqN_iff]
 intro e; exact h (by rw [e])
theorem c69 {a b:List Int} (hl:a.length<1000000) (hb:b.length<1000000):PCall Tryz.prog 21 [.isl 1 (nl a),.isl 1 (nl b)] ⟨Bo (eqN a b),[]⟩:=by
 have l1:=Zk a
 have l2:=Zk b
 refine pn Zc Tryz.func21 ?_
 by_cases hlen:a.length=b.length
 ·repeat'(first|refine wk1 ?_|(refine wk2 ?_ ?_<;>intro _)|fail)
  refine Zr (S:=Nat × Int) (fun t=>a.length-t.1) (fun t=>[(0,.isl 1 (nl a)),(1,.isl 1 (nl b)),(5,I t.2)]) (fun _=>[]) 0 0 (fun t=>t.2=t.1/\t.1<=a.length/\eqN (a.drop t.1) (b.drop t.1)=eqN a b) (0,0) ⟨rfl,Nat.zero_le _,rfl⟩ (Nat.le_refl _) [] rfl (kps) (kps) ?_
  rintro ⟨k,i⟩ ⟨hi,hk,hh⟩
  dsimp only at hi hk hh ⊢
  subst hi
  refine bs.av (sx:=nos) Zc ?_
  by_cases hlt:k<a.length
  ·have e1:=Xx hlt
   have e2:=Xx (ns:=b) (k:=k) (by omega);rw [Qi hlt,Qi (show k<b.length by omega),eqN] at hh
   by_cases he:a[k]=b[k]'(by omega)
   ·rw [decide_eq_true he,Bool.true_and] at hh
    repeat'(first|refine wk1 ?_|(refine wk2 ?_ ?_<;>intro _)|fail)
    exact Done.mk ⟨(k+1,_),[],rfl,kps,kps,⟨Zg (by omega),hlt,hh⟩,by dsimp only; omega⟩
   ·rw [decide_eq_false he,Bool.false_and] at hh
    rw [<-hh]
    repeat'(first|refine wk1 ?_|(refine wk2 ?_ ?_<;>intro _)|fail)
    exact Zb rfl
  ·rw [Qk (by omega),Qk (by omega)] at hh
   rw [<-hh]
   repeat'(first|refine wk1 ?_|(refine wk2 ?_ ?_<;>intro _)|fail)
   exact Zb rfl
 ·rw [Yg4 hlen]
  repeat'(first|refine wk1 ?_|(refine wk2 ?_ ?_<;>intro _)|fail)
  exact Zb rfl
end Go.Proofs.YtfkdpbklbegnlaaGreat
