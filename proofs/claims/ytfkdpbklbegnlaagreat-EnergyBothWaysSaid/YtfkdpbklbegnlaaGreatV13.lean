/- A part of the proof: lemmas. -/
import Derived.Test.YtfkdpbklbegnlaaGreatV12
import Derived.Test.YtfkdpbklbegnlaaGreatV11
import Derived.Test.YtfkdpbklbegnlaaGreatV9
import Derived.Test.YtfkdpbklbegnlaaGreatV7
set_option linter.unusedVariables false
set_option linter.unusedSimpArgs false
set_option maxRecDepth 100000
set_option maxHeartbeats 16000000
open Bool renaming and_eq_true->Qc,eq_iff_iff->Sj,not_eq_true'->Sb,or_eq_true->Qv
open Go.IntKind renaming i64->Qb,wrap->Qa
open Go.RowKit.Below renaming refl->Dc
open Go.Sx.LpM renaming start->Wo,succ->Rq
open Go.Value renaming slice->Mw
open Int renaming add_comm->Wb,ediv_le_self->Ly,ediv_nonneg->Tm,le_of_lt->Rf,lt_or_le->Oc,mul_assoc->Sl,mul_comm->Rp,mul_eq_zero->Ot,mul_le_mul_of_nonneg_left->Re,mul_le_mul_of_nonneg_right->Qj,mul_lt_mul_of_pos_right->Pd,mul_neg->Sk,mul_nonneg->Qo,mul_one->Sc,mul_pos->Rk,mul_zero->Th,natAbs_mul->Tx,natAbs_natCast->Mv,ofNat_dvd_left->Mu,one_mul->Wm,sub_mul->My,tdiv_eq_ediv_of_nonneg->Ok
open List renaming exists_cons_of_length_pos->Lz,map_congr_left->Nb,map_cons->Ti,mem_cons->Ra
open Nat renaming beq->Qm,dvd_trans->Ke,gcd->Tk,gcd_dvd_left->Hh,gcd_dvd_right->Nr,gcd_mul_right->Oy,zero_add->Sf
open Option renaming isNone->Jt
namespace Go.Proofs.YtfkdpbklbegnlaaGreat
open Go Go.Sx
structure PtR (p:Pt):Prop where
 d0:0<p.d
 d1:p.d<=100000
 x : -(5000*p.d)<=p.x/\p.x<=5000*p.d
 y : -(5000*p.d)<=p.y/\p.y<=5000*p.d
theorem PtR.ok {p:Pt} (h:PtR p):PtOk p.x p.y p.d:=by
 obtain ⟨h1,h2,h3,h4⟩:=h
 exact ⟨h1,by omega,by omega,by omega⟩
def Pt.pl (p:Pt):P2d:=⟨p.x,p.y,p.d⟩
def cmpQ (n d m k:Int):Int:=sgn (n*k-m*d)
def Zw8 (l:Ln) (a b:Pt):Bool :=
  if l.beside a=0/\l.beside b=0 then
    (if cmpQ (l.along a) a.d (l.along b) b.d=0 then within (l.along a) 0 (Qa Qb (l.full*a.d))
     else if cmpQ (l.along a) a.d (l.along b) b.d<0 then decide (0<l.along b)&&decide (l.along a<Qa Qb (l.full*a.d))
     else decide (0<l.along a)&&decide (l.along b<Qa Qb (l.full*b.d)))
  else if 0<=Qa Qb (sgn (l.beside a)*sgn (l.beside b)) then false
  else if Qa Qb (Qa Qb (l.beside b*a.d)-Qa Qb (l.beside a*b.d))<0 then
    decide (0<=Qa Qb (0-Qa Qb (Qa Qb (l.along a*l.beside b)-Qa Qb (l.along b*l.beside a))))&&decide (cmpQ (Qa Qb (0-Qa Qb (Qa Qb (l.along a*l.beside b)-Qa Qb (l.along b*l.beside a)))) (Qa Qb (0-Qa Qb (Qa Qb (l.beside b*a.d)-Qa Qb (l.beside a*b.d)))) l.full 1<=0)
  else decide (0<=Qa Qb (Qa Qb (l.along a*l.beside b)-Qa Qb (l.along b*l.beside a)))&&decide (cmpQ (Qa Qb (Qa Qb (l.along a*l.beside b)-Qa Qb (l.along b*l.beside a))) (Qa Qb (Qa Qb (l.beside b*a.d)-Qa Qb (l.beside a*b.d))) l.full 1<=0)
theorem Ydx {w:Wl} {n sx sy:Int} (h:Str w n sx sy) {p:Pt} (hp:PtR p):(-2000000000<=bsP w sx sy p.pl/\bsP w sx sy p.pl<=2000000000)/\(-2000000000<=alP w sx sy p.pl/\alP w sx sy p.pl<=2000000000):=by
 have a1:=Zi h.b1 hp.d0
 have a2:=Zi h.b2 hp.d0
 have a3:=hp.d1
 have a4:=hp.x
 have a5:=hp.y
 unfold bsP alP bes alo Pt.pl
 dsimp only
 generalize w.fx*p.d=A at *
 generalize w.fy*p.d=C at *
 rcases h.hx with rfl|rfl|rfl<;>rcases h.hy with rfl|rfl|rfl<;>omega
theorem Ydg {w:Wl} {n sx sy:Int} (h:Str w n sx sy):0<ful n sx sy/\ful n sx sy<=20000:=by
 refine ⟨Yfo h,?_⟩
 have:=h.nle
 have:=h.hn
 unfold ful
 rcases h.hx with rfl|rfl|rfl<;>rcases h.hy with rfl|rfl|rfl<;>omega
theorem Yez {w:Wl} {n sx sy:Int} (h:Str w n sx sy) {p q:Pt} (hp:PtR p) (hq:PtR q):Zw8 w.ln p q=true↔Ug w n sx sy p.pl q.pl:=by
 have ep:w.ln.beside p=bsP w sx sy p.pl:=Zab (z:=p.z) h hp.ok
 have eq:w.ln.beside q=bsP w sx sy q.pl:=Zab (z:=q.z) h hq.ok
 have ap:w.ln.along p=alP w sx sy p.pl:=Zi8 (z:=p.z) h hp.ok
 have aq:w.ln.along q=alP w sx sy q.pl:=Zi8 (z:=q.z) h hq.ok
 have ef:w.ln.full=ful n sx sy:=Zre h
 obtain ⟨b1,b2⟩:=Ydx h hp
 obtain ⟨b3,b4⟩:=Ydx h hq
 obtain ⟨f1,f2⟩:=Ydg h
 have dp:=hp.d0
 have dp1:=hp.d1
 have dq:=hq.d0
 have dq1:=hq.d1
 have F1:=Zu (a:=ful n sx sy) (b:=p.d) (A:=20000) (B:=100000) (by omega) (by omega)
 have F2:=Zu (a:=ful n sx sy) (b:=q.d) (A:=20000) (B:=100000) (by omega) (by omega)
 have P1:=Rk f1 dp
 have P2:=Rk f1 dq
 unfold Zw8
 rw [ep,eq,ap,aq,ef]
 by_cases h0:bsP w sx sy p.pl=0/\bsP w sx sy q.pl=0
 ·rw [if_pos h0,Zlq h h0.1 h0.2]
  rw [W_eq (n:=ful n sx sy*p.d) (by omega) (by omega),W_eq (n:=ful n sx sy*q.d) (by omega) (by omega)]
  unfold cmpQ
  show _↔spans _ _ (ful n sx sy*p.d-_) (ful n sx sy*q.d-_)
  have key:alP w sx sy p.pl*(ful n sx sy*q.d-alP w sx sy q.pl)-alP w sx sy q.pl*(ful n sx sy*p.d-alP w sx sy p.pl)=ful n sx sy*(alP w sx sy p.pl*q.d-alP w sx sy q.pl*p.d):=by grind
  generalize alP w sx sy p.pl=a at *
  generalize alP w sx sy q.pl=b at *
  by_cases c1:sgn (a*q.d-b*p.d)=0
  ·rw [if_pos c1,within_iff]
   rw [Vk] at c1
   rw [c1] at key
   rw [Yam (by omega) (by omega) (by omega)]
   omega
  ·rw [if_neg c1]
   by_cases c2:sgn (a*q.d-b*p.d)<0
   ·rw [if_pos c2,Qc,decide_eq_true_eq,decide_eq_true_eq]
    rw [Ul,<-Zgm f1] at c2
    rw [Zsi (by omega) (by omega) (by omega)]
    omega
   ·rw [if_neg c2,Qc,decide_eq_true_eq,decide_eq_true_eq]
    have c3:0<a*q.d-b*p.d:=by
     rw [<-Uk]; omega
    rw [<-Zdz f1] at c3
    rw [Zmp (by omega) (by omega) (by omega)]
    omega
 ·rw [if_neg h0,Zia]
  by_cases h1:0<=sgn (bsP w sx sy p.pl)*sgn (bsP w sx sy q.pl)
  ·rw [if_pos h1]
   exact ⟨fun h=>by simp at h,fun h=>absurd h (Zlp h0 h1)⟩
  ·rw [if_neg h1]
   have h2:=sgn_mul_neg.1 (show sgn (bsP w sx sy p.pl)*sgn (bsP w sx sy q.pl)<0 by omega)
   generalize hf:bsP w sx sy p.pl=f at *
   generalize hg:bsP w sx sy q.pl=g at *
   have m1:=Zu (a:=alP w sx sy p.pl) (b:=g) (A:=2000000000) (B:=2000000000) (by omega) (by omega)
   have m2:=Zu (a:=alP w sx sy q.pl) (b:=f) (A:=2000000000) (B:=2000000000) (by omega) (by omega)
   have m3:=Zu (a:=g) (b:=p.d) (A:=2000000000) (B:=100000) (by omega) (by omega)
   have m4:=Zu (a:=f) (b:=q.d) (A:=2000000000) (B:=100000) (by omega) (by omega)
   rw [W_eq (n:=alP w sx sy p.pl*g) (by omega) (by omega),W_eq (n:=alP w sx sy q.pl*f) (by omega) (by omega),W_eq (n:=g*p.d) (by omega) (by omega),W_eq (n:=f*q.d) (by omega) (by omega)]
   rw [W_eq (n:=alP w sx sy p.pl*g-alP w sx sy q.pl*f) (by omega) (by omega),W_eq (n:=g*p.d-f*q.d) (by omega) (by omega)]
   rcases h2 with h2|h2
   ·have k1:=(Zdz dp).2 h2.2
    have k2:=(Zgm dq).2 h2.1
    rw [if_neg (by rw [Rp g,Rp f]; omega),Zcv hf hg h2,Qc,decide_eq_true_eq,decide_eq_true_eq]
    unfold cmpQ
    rw [Zwd,Sc,Rp (alP w sx sy p.pl),Rp (alP w sx sy q.pl)]
    show _↔_/\_<=ful n sx sy*(g*p.d-f*q.d)
    omega
   ·have k1:=(Zgm dp).2 h2.2
    have k2:=(Zdz dq).2 h2.1
    rw [if_pos (by rw [Rp g,Rp f]; omega),meetW_swap,Zcv hg hf (by omega),Qc,decide_eq_true_eq,decide_eq_true_eq]
    rw [W_eq (n:=0-(alP w sx sy p.pl*g-alP w sx sy q.pl*f)) (by omega) (by omega),W_eq (n:=0-(g*p.d-f*q.d)) (by omega) (by omega)]
    unfold cmpQ
    rw [Zwd,Sc,Rp (alP w sx sy p.pl),Rp (alP w sx sy q.pl),Int.zero_sub (g*p.d-f*q.d),Int.neg_sub]
    show _↔_/\_<=ful n sx sy*(f*q.d-g*p.d)
    omega
def Zqh (p q:Pt):Int:=Qa Qb (Qa Qb (q.x*p.d)-Qa Qb (p.x*q.d))
def Zqg (p q:Pt):Int:=Qa Qb (Qa Qb (q.y*p.d)-Qa Qb (p.y*q.d))
def cmpP (a b c d:Int):Int:=sgn (a*b-c*d)
def Zhh (p q:Pt) (x y:Int):Int:=cmpP (Zqh p q) (Qa Qb (Qa Qb (y*p.d)-p.y)) (Zqg p q) (Qa Qb (Qa Qb (x*p.d)-p.x))
def ovl (fr den to oth a b:Int):Bool:=decide (imin (Qa Qb (fr*oth)) (Qa Qb (to*den))<Qa Qb (Qa Qb (imax a b*den)*oth))&&decide (Qa Qb (Qa Qb (imin a b*den)*oth)<imax (Qa Qb (fr*oth)) (Qa Qb (to*den)))
def touP (p q:Pt) (w:Wl):Bool :=
 if Zqh p q=0/\Zqg p q=0 then w.has p.x p.y p.d
 else if w.side p.x p.y p.d=0/\w.side q.x q.y q.d=0 then (if w.fx=w.tx then ovl p.y p.d q.y q.d w.fy w.ty else ovl p.x p.d q.x q.d w.fx w.tx)
 else if 0<=Qa Qb (w.side p.x p.y p.d*w.side q.x q.y q.d) then false
 else decide (Qa Qb (Zhh p q w.fx w.fy*Zhh p q w.tx w.ty)<=0)
theorem Yco {p q:Pt} (hp:PtR p) (hq:PtR q):Zqh p q=q.x*p.d-p.x*q.d/\Zqg p q=q.y*p.d-p.y*q.d:=by
 obtain ⟨a1,a2,a3,a4⟩:=hp
 obtain ⟨b1,b2,b3,b4⟩:=hq
 have m1:=Zu (a:=q.x) (b:=p.d) (A:=500000000) (B:=100000) (by omega) (by omega)
 have m2:=Zu (a:=p.x) (b:=q.d) (A:=500000000) (B:=100000) (by omega) (by omega)
 have m3:=Zu (a:=q.y) (b:=p.d) (A:=500000000) (B:=100000) (by omega) (by omega)
 have m4:=Zu (a:=p.y) (b:=q.d) (A:=500000000) (B:=100000) (by omega) (by omega)
 unfold Zqh Zqg
 rw [W_eq (n:=q.x*p.d) (by omega) (by omega),W_eq (n:=p.x*q.d) (by omega) (by omega),W_eq (n:=q.y*p.d) (by omega) (by omega),W_eq (n:=p.y*q.d) (by omega) (by omega)]
 exact ⟨W_eq (by omega) (by omega),W_eq (by omega) (by omega)⟩
theorem Zlc {p q:Pt} (hp:PtR p) (hq:PtR q) {x y:Int} (hx : -5000<=x/\x<=5000) (hy : -5000<=y/\y<=5000):Zhh p q x y=sgn ((q.x*p.d-p.x*q.d)*(y*p.d-p.y)-(q.y*p.d-p.y*q.d)*(x*p.d-p.x)):=by
 obtain ⟨e1,e2⟩:=Yco hp hq
 obtain ⟨a1,a2,a3,a4⟩:=hp
 have c1:=Zi hx a1
 have c2:=Zi hy a1
 unfold Zhh cmpP
 rw [e1,e2,W_eq (n:=y*p.d) (by omega) (by omega),W_eq (n:=x*p.d) (by omega) (by omega),W_eq (n:=y*p.d-p.y) (by omega) (by omega),W_eq (n:=x*p.d-p.x) (by omega) (by omega)]
theorem Zwy {x d x' d' fx n e s:Int} (he:e=1\/e = -1) (hn:0<n/\n<=10000) (hs:0<s) (hd:0<d/\d<=100000) (hd' : 0<d'/\d'<=100000) (hx : -(5000*d)<=x/\x<=5000*d) (hx' : -(5000*d')<=x'/\x'<=5000*d') (hf : -5000<=fx/\fx<=5000) (ht : -5000<=fx+n*e/\fx+n*e<=5000) (hne:x'*d-x*d'≠0) :
  ovl x d x' d' fx (fx+n*e)=true↔spans (s*(e*(x-fx*d))) (s*(e*(x'-fx*d'))) (n*s*d-s*(e*(x-fx*d))) (n*s*d'-s*(e*(x'-fx*d'))):=by
 have m1:=Zu (a:=x) (b:=d') (A:=500000000) (B:=100000) (by omega) (by omega)
 have m2:=Zu (a:=x') (b:=d) (A:=500000000) (B:=100000) (by omega) (by omega)
 have c1:=Zi hf hd.1
 have c2:=Zi ht hd.1
 have m3:=Zu (a:=fx*d) (b:=d') (A:=500000000) (B:=100000) (by omega) (by omega)
 have m4:=Zu (a:=(fx+n*e)*d) (b:=d') (A:=500000000) (B:=100000) (by omega) (by omega)
 unfold ovl
 rw [Zd8,Zd8,Zd9,Zd9,Zbu hd.1,Zbv hd.1]
 rw [W_eq (n:=x*d') (by omega) (by omega),W_eq (n:=x'*d) (by omega) (by omega),W_eq (n:=min (fx*d) ((fx+n*e)*d)) (by omega) (by omega),W_eq (n:=max (fx*d) ((fx+n*e)*d)) (by omega) (by omega)]
 rw [Zbu hd'.1,Zbv hd'.1,W_eq (n:=min (fx*d*d') ((fx+n*e)*d*d')) (by omega) (by omega),W_eq (n:=max (fx*d*d') ((fx+n*e)*d*d')) (by omega) (by omega)]
 rw [Qc,decide_eq_true_eq,decide_eq_true_eq]
 have eT:(fx+n*e)*d*d'=fx*d*d'+e*(n*d*d'):=by grind
 rw [eT]
 have hT:0<n*d*d':=Rk (Rk hn.1 hd.1) hd'.1
 have hsn:0<s*n:=Rk hs hn.1
 have g1:0<s*(e*(x-fx*d))+(n*s*d-s*(e*(x-fx*d))):=by
  have:s*(e*(x-fx*d))+(n*s*d-s*(e*(x-fx*d)))=s*n*d:=by grind
  rw [this]; exact Rk hsn hd.1
 have g2:0<s*(e*(x'-fx*d'))+(n*s*d'-s*(e*(x'-fx*d'))):=by
  have:s*(e*(x'-fx*d'))+(n*s*d'-s*(e*(x'-fx*d')))=s*n*d':=by grind
  rw [this]; exact Rk hsn hd'.1
 have key:s*(e*(x-fx*d))*(n*s*d'-s*(e*(x'-fx*d')))-s*(e*(x'-fx*d'))*(n*s*d-s*(e*(x-fx*d)))=s*(s*n)*(e*(x*d'-x'*d)):=by grind
 have hss:0<s*(s*n):=Rk hs hsn
 have p1:∀ v:Int,0<v↔0<v*d':=fun v=>by rw [Rp]; exact (Zdz hd'.1).symm
 have p2:∀ v:Int,0<v↔0<v*d:=fun v=>by rw [Rp]; exact (Zdz hd.1).symm
 have q1:n*s*d-s*(e*(x-fx*d))=s*(n*d-e*(x-fx*d)):=by grind
 have q2:n*s*d'-s*(e*(x'-fx*d'))=s*(n*d'-e*(x'-fx*d')):=by grind
 have r1:(e*(x-fx*d))*d'=e*(x*d'-fx*d*d'):=by grind
 have r2:(e*(x'-fx*d'))*d=e*(x'*d-fx*d*d'):=by grind
 have r3:(n*d-e*(x-fx*d))*d'=n*d*d'-e*(x*d'-fx*d*d'):=by grind
 have r4:(n*d'-e*(x'-fx*d'))*d=n*d*d'-e*(x'*d-fx*d*d'):=by grind
 by_cases hc:0<e*(x*d'-x'*d)
 ·have:=(Zdz hss).2 hc
  rw [Zmp g1 g2 (by omega),Zdz hs,q2,Zdz hs,p1,p2 (n*d'-_),r1,r4]
  clear key g1 g2 q1 q2 r1 r2 r3 r4 eT
  generalize x*d'=U at *
  generalize x'*d=V at *
  generalize fx*d*d'=B at *
  generalize n*d*d'=T at *
  rcases he with rfl|rfl<;>omega
 ·have hc2:e*(x*d'-x'*d)<0:=by rcases he with rfl|rfl<;>omega
  have:=(Zgm hss).2 hc2
  rw [Zsi g1 g2 (by omega),Zdz hs,q1,Zdz hs,p2,p1 (n*d-_),r2,r3]
  clear key g1 g2 q1 q2 r1 r2 r3 r4 eT
  generalize x*d'=U at *
  generalize x'*d=V at *
  generalize fx*d*d'=B at *
  generalize n*d*d'=T at *
  rcases he with rfl|rfl<;>omega
theorem Zej {w:Wl} {n sx sy:Int} (h:Str w n sx sy) {p q:Pt} (hp:PtR p) (hq:PtR q):touP p q w=true↔Ug w n sx sy p.pl q.pl:=by
 obtain ⟨e1,e2⟩:=Yco hp hq
 have s1:w.side p.x p.y p.d=sgn (bsP w sx sy p.pl):=Xm h hp.ok
 have s2:w.side q.x q.y q.d=sgn (bsP w sx sy q.pl):=Xm h hq.ok
 have t1:=Zlc hp hq h.b1 h.b2
 have t2:=Zlc hp hq h.b3 h.b4
 have dp:=hp.d0
 have dq:=hq.d0
 have hn:=h.hn
 have hxy:=h.hxy
 obtain ⟨f1,f2⟩:=Ydg h
 have D1:bsP w sx sy q.pl*p.d-bsP w sx sy p.pl*q.d=sx*(q.y*p.d-p.y*q.d)-sy*(q.x*p.d-p.x*q.d):=by unfold bsP bes Pt.pl; dsimp only; grind
 have D2:alP w sx sy q.pl*p.d-alP w sx sy p.pl*q.d=sx*(q.x*p.d-p.x*q.d)+sy*(q.y*p.d-p.y*q.d):=by unfold alP alo Pt.pl; dsimp only; grind
 unfold touP
 rw [e1,e2]
 by_cases h0:q.x*p.d-p.x*q.d=0/\q.y*p.d-p.y*q.d=0
 ·rw [if_pos h0,Zak h hp.ok]
  rw [h0.1,h0.2] at D1 D2
  unfold onW Ug
  show bsP w sx sy p.pl=0/\0<=alP w sx sy p.pl/\alP w sx sy p.pl<=ful n sx sy*p.d↔_
  show _↔∃ l m:Int,0<l/\0<m/\_/\_/\_<=ful n sx sy*(l*p.d+m*q.d)
  generalize bsP w sx sy p.pl=f at *
  generalize bsP w sx sy q.pl=g at *
  generalize alP w sx sy p.pl=a at *
  generalize alP w sx sy q.pl=b at *
  generalize ful n sx sy=F at *
  have D1:g*p.d=f*q.d:=by omega
  have D2:b*p.d=a*q.d:=by omega
  constructor
  ·rintro ⟨h1,h2,h3⟩
   refine ⟨1,1,by omega,by omega,?_,?_,?_⟩
   ·rw [h1] at D1
    have:g*p.d=0:=by omega
    rcases Ot.1 this with k|k<;>omega
   ·have:0<=p.d*b:=by rw [Rp,D2]; exact Qo h2 (by omega)
    have:=(nn_l dp).1 this
    omega
   ·have:p.d*(F*q.d-b)=q.d*(F*p.d-a):=by grind
    have k:=Qo (show 0<=q.d by omega) (show 0<=F*p.d-a by omega)
    rw [<-this] at k
    have k:=(nn_l dp).1 k
    have:F*(1*p.d+1*q.d)=F*p.d+F*q.d:=by grind
    omega
  ·rintro ⟨l,m,hl,hm,k1,k2,k3⟩
   have hz:0<l*p.d+m*q.d:=by have:=Rk hl dp; have:=Rk hm dq; omega
   refine ⟨?_,?_,?_⟩
   ·have:(l*p.d+m*q.d)*f=p.d*(l*f+m*g):=by grind
    rw [k1,Th] at this
    rcases Ot.1 this with k|k<;>omega
   ·have:(l*p.d+m*q.d)*a=p.d*(l*a+m*b):=by grind
    have k:=Qo (show 0<=p.d by omega) k2
    rw [<-this] at k
    exact (nn_l hz).1 k
   ·have:(l*p.d+m*q.d)*(F*p.d-a)=p.d*(F*(l*p.d+m*q.d)-(l*a+m*b)):=by grind
    have k:=Qo (show 0<=p.d by omega) (show 0<=F*(l*p.d+m*q.d)-(l*a+m*b) by omega)
    rw [<-this] at k
    have:=(nn_l hz).1 k
    omega
 ·rw [if_neg h0,s1,s2]
  by_cases h1:bsP w sx sy p.pl=0/\bsP w sx sy q.pl=0
  ·rw [if_pos (by rw [Vk,Vk]; exact h1),Zlq h h1.1 h1.2]
   rw [h1.1,h1.2] at D1
   have hnn:=h.nle
   show _↔spans _ _ (ful n sx sy*p.d-_) (ful n sx sy*q.d-_)
   obtain ⟨z1,z2⟩:=h1
   have b1:=h.b1
   have b2:=h.b2
   have b3:=h.b3
   have b4:=h.b4
   have etx:=h.tx
   have ety:=h.ty
   rw [etx] at b3
   rw [ety] at b4
   by_cases hs:sx=0
   ·subst hs
    rw [if_pos (by rw [etx]; omega)]
    have hy:sy=1\/sy = -1:=by have:=h.hy; omega
    have k:=Zwy (s:=1) (e:=sy) (x:=p.y) (d:=p.d) (x':=q.y) (d':=q.d) hy ⟨hn,hnn⟩ (by omega) ⟨dp,hp.d1⟩ ⟨dq,hq.d1⟩ hp.y hq.y b2 b4 (by
     rcases hy with rfl|rfl<;>omega)
    rw [<-ety] at k
    rw [k]
    have v1:alP w 0 sy p.pl=1*(sy*(p.y-w.fy*p.d)):=by unfold alP alo Pt.pl; dsimp only; grind
    have v2:alP w 0 sy q.pl=1*(sy*(q.y-w.fy*q.d)):=by unfold alP alo Pt.pl; dsimp only; grind
    have v3:ful n 0 sy=n*1:=by unfold ful; rcases hy with rfl|rfl<;>rfl
    rw [v1,v2,v3]
   ·have hx:sx=1\/sx = -1:=by have:=h.hx; omega
    rw [if_neg (by rw [etx]; rcases hx with rfl|rfl<;>omega)]
    have hsx:sx*sx=1:=by rcases hx with rfl|rfl<;>rfl
    have hS:0<1+sy*sy:=by rcases h.hy with rfl|rfl|rfl<;>decide
    have k:=Zwy (s:=1+sy*sy) (e:=sx) (x:=p.x) (d:=p.d) (x':=q.x) (d':=q.d) hx ⟨hn,hnn⟩ hS ⟨dp,hp.d1⟩ ⟨dq,hq.d1⟩ hp.x hq.x b1 b3 (by
     intro hz
     refine h0 ⟨hz,?_⟩
     rw [hz] at D1
     rcases hx with rfl|rfl<;>omega)
    rw [<-etx] at k
    rw [k]
    have w1:sx*(p.y-w.fy*p.d)=sy*(p.x-w.fx*p.d):=by unfold bsP bes Pt.pl at z1; dsimp only at z1; omega
    have w2:sx*(q.y-w.fy*q.d)=sy*(q.x-w.fx*q.d):=by unfold bsP bes Pt.pl at z2; dsimp only at z2; omega
    have v1:alP w sx sy p.pl=(1+sy*sy)*(sx*(p.x-w.fx*p.d)):=by
     unfold alP alo Pt.pl; dsimp only
     generalize p.x-w.fx*p.d=u at *
     generalize p.y-w.fy*p.d=v at *
     have:v=sx*(sy*u):=by rw [<-w1,<-Sl,hsx,Wm]
     rw [this]; grind
    have v2:alP w sx sy q.pl=(1+sy*sy)*(sx*(q.x-w.fx*q.d)):=by
     unfold alP alo Pt.pl; dsimp only
     generalize q.x-w.fx*q.d=u at *
     generalize q.y-w.fy*q.d=v at *
     have:v=sx*(sy*u):=by rw [<-w2,<-Sl,hsx,Wm]
     rw [this]; grind
    have v3:ful n sx sy=n*(1+sy*sy):=by unfold ful; rw [hsx]
    rw [v1,v2,v3]
  ·rw [if_neg (by rw [Vk,Vk]; exact h1),Zia]
   by_cases h2:0<=sgn (bsP w sx sy p.pl)*sgn (bsP w sx sy q.pl)
   ·rw [if_pos h2]
    exact ⟨fun h=>by simp at h,fun h=>absurd h (Zlp h1 h2)⟩
   ·rw [if_neg h2,t1,t2,Zia,decide_eq_true_eq]
    have h3:=sgn_mul_neg.1 (show sgn (bsP w sx sy p.pl)*sgn (bsP w sx sy q.pl)<0 by omega)
    have K1:(q.x*p.d-p.x*q.d)*(w.fy*p.d-p.y)-(q.y*p.d-p.y*q.d)*(w.fx*p.d-p.x)=p.d*((p.x-w.fx*p.d)*(q.y-w.fy*q.d)-(q.x-w.fx*q.d)*(p.y-w.fy*p.d)):=by grind
    have K2:(q.x*p.d-p.x*q.d)*(w.ty*p.d-p.y)-(q.y*p.d-p.y*q.d)*(w.tx*p.d-p.x)=p.d*((p.x-w.fx*p.d)*(q.y-w.fy*q.d)-(q.x-w.fx*q.d)*(p.y-w.fy*p.d)-n*(bsP w sx sy q.pl*p.d-bsP w sx sy p.pl*q.d)):=by
     rw [h.tx,h.ty]; unfold bsP bes Pt.pl; dsimp only; grind
    rw [K1,K2,Zqq dp,Zqq dp,Zuf]
    have K3:bsP w sx sy q.pl*alP w sx sy p.pl-bsP w sx sy p.pl*alP w sx sy q.pl=(sx*sx+sy*sy)*((p.x-w.fx*p.d)*(q.y-w.fy*q.d)-(q.x-w.fx*q.d)*(p.y-w.fy*p.d)):=by
     unfold bsP bes alP alo Pt.pl; dsimp only; grind
    have hS:0<sx*sx+sy*sy:=by rcases h.hx with rfl|rfl|rfl<;>rcases h.hy with rfl|rfl|rfl<;>(try (exact absurd ⟨rfl,rfl⟩ hxy))<;>decide
    generalize (p.x-w.fx*p.d)*(q.y-w.fy*q.d)-(q.x-w.fx*q.d)*(p.y-w.fy*p.d)=K at *
    have e3:ful n sx sy=(sx*sx+sy*sy)*n:=by unfold ful; rw [Rp]
    generalize sx*sx+sy*sy=S at *
    generalize hf:bsP w sx sy p.pl=f at *
    generalize hg:bsP w sx sy q.pl=g at *
    rcases h3 with h3|h3
    ·have k1:=(Zdz dp).2 h3.2
     have k2:=(Zgm dq).2 h3.1
     have hD:0<n*(g*p.d-f*q.d):=(Zdz hn).2 (by rw [Rp g,Rp f]; omega)
     rw [Zcv hf hg h3,K3,e3]
     show _↔_/\_<=S*n*(g*p.d-f*q.d)
     rw [nn_l hS,Sl S n]
     have:S*K<=S*(n*(g*p.d-f*q.d))↔K<=n*(g*p.d-f*q.d):=by rw [Rp S,Rp S]; exact Zs3 hS
     rw [this]
     omega
    ·have k1:=(Zgm dp).2 h3.2
     have k2:=(Zdz dq).2 h3.1
     have hD:n*(g*p.d-f*q.d)<0:=(Zgm hn).2 (by rw [Rp g,Rp f]; omega)
     have K4:f*alP w sx sy q.pl-g*alP w sx sy p.pl=S * -K:=by rw [Sk,<-K3]; omega
     rw [meetW_swap,Zcv hg hf (by omega),K4,e3]
     show _↔_/\_<=S*n*(f*q.d-g*p.d)
     have e4:n*(f*q.d-g*p.d) = -(n*(g*p.d-f*q.d)):=by rw [<-Sk,Int.neg_sub]
     rw [nn_l hS,Sl S n,e4]
     have:S * -K<=S * -(n*(g*p.d-f*q.d)) ↔ -K <= -(n*(g*p.d-f*q.d)):=by rw [Rp S,Rp S]; exact Zs3 hS
     rw [this]
     omega
def crV (N M:P2d) (D x y:Int):Int:=(M.x-N.x)*(y*D-N.y)-(M.y-N.y)*(x*D-N.x)
def tch (N M:P2d) (D ax ay bx by' : Int):Prop:=∃ s t l m:Int,0<=s/\0<=t/\0<s+t/\0<=l/\0<=m/\0<l+m/\(l*N.x+m*M.x)*(s+t)=(l+m)*(D*(s*ax+t*bx))/\(l*N.y+m*M.y)*(s+t)=(l+m)*(D*(s*ay+t*by'))
theorem Yaf {N M:P2d} {D ax ay bx by' : Int} (h:tch N M D ax ay bx by'):tch N M D bx by' ax ay:=by
 obtain ⟨s,t,l,m,h1,h2,h3,h4,h5,h6,h7,h8⟩:=h
 exact ⟨t,s,l,m,h2,h1,by omega,h4,h5,h6,by rw [Wb t s,Wb (t*bx)]; exact h7,by rw [Wb t s,Wb (t*by')]; exact h8⟩
theorem Yae {N M:P2d} {D ax ay bx by' : Int} (h:tch N M D ax ay bx by'):tch M N D ax ay bx by':=by
 obtain ⟨s,t,l,m,h1,h2,h3,h4,h5,h6,h7,h8⟩:=h
 exact ⟨s,t,m,l,h1,h2,h3,h5,h4,by omega,by rw [Wb m l,Wb (m*M.x)]; exact h7,by rw [Wb m l,Wb (m*M.y)]; exact h8⟩
theorem Ygh {N M:P2d} {D ax ay bx by' : Int} (hy:N.y<M.y) {s t:Int} (hs:0<=s) (ht:0<=t) (hw:0<s+t) (h1:N.y*(s+t)<=D*(s*ay+t*by')) (h2:D*(s*ay+t*by')<=M.y*(s+t)) (h0:s*crV N M D ax ay+t*crV N M D bx by'=0):tch N M D ax ay bx by':=by
 refine ⟨s,t,M.y*(s+t)-D*(s*ay+t*by'),D*(s*ay+t*by')-N.y*(s+t),hs,ht,hw,by omega,by omega,?_,?_,?_⟩
 ·have:(M.y-N.y)*(s+t)=M.y*(s+t)-N.y*(s+t):=My _ _ _
  have:=Rk (show 0<M.y-N.y by omega) hw
  omega
 ·unfold crV at h0
  grind
 ·grind
theorem Yed {N M:P2d} {D ax ay bx by' : Int} (hy:N.y<M.y) {s t s' t' : Int} (hs:0<=s) (ht:0<=t) (hw:0<s+t) (hs' : 0<=s') (ht' : 0<=t') (hw' : 0<s'+t') (h1:N.y*(s+t)<=D*(s*ay+t*by')) (h2:D*(s*ay+t*by')<=M.y*(s+t))
  (h1' : N.y*(s'+t')<=D*(s'*ay+t'*by')) (h2' : D*(s'*ay+t'*by')<=M.y*(s'+t')) (c1:s*crV N M D ax ay+t*crV N M D bx by'<0) (c2:0<=s'*crV N M D ax ay+t'*crV N M D bx by'):tch N M D ax ay bx by':=by
 generalize hA:crV N M D ax ay=A at *
 generalize hB:crV N M D bx by'=B at *
 generalize hp:s*A+t*B=p at *
 generalize hq:s'*A+t'*B=q at *
 have k1:=Qo c2 hs
 have k2:=Qo c2 ht
 have k3:=Qo (show 0 <= -p by omega) hs'
 have k4:=Qo (show 0 <= -p by omega) ht'
 have k5:=Rk (show 0 < -p by omega) hw'
 have k6:=Qo c2 (Rf hw)
 have e0:q*s + -p*s'+(q*t + -p*t')=q*(s+t) + -p*(s'+t'):=by grind
 have eY:D*((q*s + -p*s')*ay+(q*t + -p*t')*by')=q*(D*(s*ay+t*by')) + -p*(D*(s'*ay+t'*by')):=by grind
 have i1:=Re h1 c2
 have i2:=Re h2 c2
 have i3:=Re h1' (show 0 <= -p by omega)
 have i4:=Re h2' (show 0 <= -p by omega)
 refine Ygh hy (s:=q*s + -p*s') (t:=q*t + -p*t') (by omega) (by omega) (by omega) ?_ ?_ ?_
 ·rw [e0,eY]
  have:N.y*(q*(s+t) + -p*(s'+t'))=q*(N.y*(s+t)) + -p*(N.y*(s'+t')):=by grind
  omega
 ·rw [e0,eY]
  have:M.y*(q*(s+t) + -p*(s'+t'))=q*(M.y*(s+t)) + -p*(M.y*(s'+t')):=by grind
  omega
 ·rw [hA,hB]
  have:(q*s + -p*s')*A+(q*t + -p*t')*B=q*(s*A+t*B) + -p*(s'*A+t'*B):=by grind
  rw [this,hp,hq]; grind
def detE (p:P2d) (D ax ay bx by' : Int):Int:=(bx-ax)*(p.y-ay*D)-(by'-ay)*(p.x-ax*D)
def upE (p:P2d) (D ax ay bx by' : Int):Prop:=ay*D<=p.y/\p.y<by'*D/\0<detE p D ax ay bx by'
def rgE (N M:P2d) (D x y:Int):Prop:=N.y<y*D/\y*D<=M.y/\crV N M D x y<0
theorem Zyx {N M:P2d} {D ax ay bx by' : Int} (hD:0<D) (hy:N.y<=M.y) (hab:ay<=by') (nt:¬ tch N M D ax ay bx by') :
  (upE N D ax ay bx by'↔upE M D ax ay bx by')↔(rgE N M D ax ay↔rgE N M D bx by'):=by
 have hm:ay*D<=by'*D:=Qj hab (Rf hD)
 by_cases hyy:N.y=M.y
 ·
  have r1:∀ x y,¬ rgE N M D x y:=by rintro x y ⟨a,b,_⟩; omega
  have key:upE N D ax ay bx by'↔upE M D ax ay bx by':=by
   by_cases hl:ay*D<=N.y/\N.y<by'*D
   ·have dd:detE N D ax ay bx by'-detE M D ax ay bx by'=(by'-ay)*(M.x-N.x):=by unfold detE; rw [hyy]; grind
    have hw:by'*D-ay*D=(by'-ay)*D:=by rw [My]
    have t1:∀ s,s=by'*D-N.y->∀ t,t=N.y-ay*D->D*(s*ax+t*bx)=N.x*((by'-ay)*D)+D*detE N D ax ay bx by':=by
     rintro s rfl t rfl; unfold detE; grind
    have t2:∀ s,s=by'*D-N.y->∀ t,t=N.y-ay*D->D*(s*ay+t*by')=N.y*((by'-ay)*D):=by
     rintro s rfl t rfl; grind
    unfold upE
    rw [<-hyy]
    constructor
    ·rintro ⟨h1,h2,h3⟩
     refine ⟨h1,h2,?_⟩
     by_cases h4:0<detE M D ax ay bx by'
     ·exact h4
     exfalso
     refine nt ⟨by'*D-N.y,N.y-ay*D,-detE M D ax ay bx by',detE N D ax ay bx by',by omega,by omega,by omega,by omega,by omega,by omega,?_,?_⟩
     ·rw [t1 _ rfl _ rfl,show by'*D-N.y+(N.y-ay*D)=(by'-ay)*D by omega]
      generalize detE N D ax ay bx by'=u at *
      generalize detE M D ax ay bx by'=v at *
      grind
     ·rw [t2 _ rfl _ rfl,show by'*D-N.y+(N.y-ay*D)=(by'-ay)*D by omega,<-hyy]
      generalize detE N D ax ay bx by'=u at *
      generalize detE M D ax ay bx by'=v at *
      grind
    ·rintro ⟨h1,h2,h3⟩
     refine ⟨h1,h2,?_⟩
     by_cases h4:0<detE N D ax ay bx by'
     ·exact h4
     exfalso
     refine nt ⟨by'*D-N.y,N.y-ay*D,detE M D ax ay bx by',-detE N D ax ay bx by',by omega,by omega,by omega,by omega,by omega,by omega,?_,?_⟩
     ·rw [t1 _ rfl _ rfl,show by'*D-N.y+(N.y-ay*D)=(by'-ay)*D by omega]
      generalize detE N D ax ay bx by'=u at *
      generalize detE M D ax ay bx by'=v at *
      grind
     ·rw [t2 _ rfl _ rfl,show by'*D-N.y+(N.y-ay*D)=(by'-ay)*D by omega,<-hyy]
      generalize detE N D ax ay bx by'=u at *
      generalize detE M D ax ay bx by'=v at *
      grind
   ·unfold upE
    rw [<-hyy]
    constructor<;>(rintro ⟨h1,h2,h3⟩; exact absurd ⟨h1,h2⟩ hl)
  exact ⟨fun _=>⟨fun h=>absurd h (r1 _ _),fun h=>absurd h (r1 _ _)⟩,fun _=>key⟩
 have hy:N.y<M.y:=by omega
 have lvl:∀ p:P2d,ay*D<=p.y->p.y<by'*D->0<=by'*D-p.y/\0<=p.y-ay*D/\0<(by'*D-p.y)+(p.y-ay*D)/\D*((by'*D-p.y)*ay+(p.y-ay*D)*by')=p.y*((by'*D-p.y)+(p.y-ay*D)):=by
  intro p h1 h2
  refine ⟨by omega,by omega,by omega,by grind⟩
 have crN:(by'*D-N.y)*crV N M D ax ay+(N.y-ay*D)*crV N M D bx by' = -((M.y-N.y)*D*detE N D ax ay bx by'):=by unfold crV detE; grind
 have crM:(by'*D-M.y)*crV N M D ax ay+(M.y-ay*D)*crV N M D bx by' = -((M.y-N.y)*D*detE M D ax ay bx by'):=by unfold crV detE; grind
 have hp:0<(M.y-N.y)*D:=Rk (by omega) hD
 have sN:∀ v,-((M.y-N.y)*D*v)<0↔0<v:=fun v=>by have:=Zdz (a:=v) hp; omega
 have sN2:∀ v,0 <= -((M.y-N.y)*D*v)↔v<=0:=fun v=>by have:=np_l (a:=v) hp; omega
 have one:D*(1*ay+0*by')=ay*D/\D*(0*ay+1*by')=by'*D:=by constructor<;>grind
 have cA:1*crV N M D ax ay+0*crV N M D bx by'=crV N M D ax ay:=by omega
 have cB:0*crV N M D ax ay+1*crV N M D bx by'=crV N M D bx by':=by omega
 have two:=fun {s t s' t' : Int}=>@Yed N M D ax ay bx by' hy s t s' t'
 by_cases a0:ay*D<=N.y
 ·by_cases b0:by'*D<=N.y
  ·unfold upE rgE; constructor<;>intro _<;>constructor<;>(rintro ⟨h1,h2,h3⟩; omega)
  obtain ⟨l1,l2,l3,l4⟩:=lvl N a0 (by omega)
  by_cases b1:by'*D<=M.y
  ·
   have key:0<detE N D ax ay bx by'↔crV N M D bx by'<0:=by
    constructor
    ·intro h
     by_cases hc:crV N M D bx by'<0
     ·exact hc
     exact absurd (two (s':=0) (t':=1) l1 l2 l3 (by omega) (by omega) (by omega) (by rw [l4]; omega) (by rw [l4]; exact Qj (Rf hy) (Rf l3)) (by rw [one.2]; omega) (by rw [one.2]; omega) (by rw [crN]; exact (sN _).2 h) (by rw [cB]; omega)) nt
    ·intro h
     by_cases hc:0<detE N D ax ay bx by'
     ·exact hc
     exact absurd (two (s:=0) (t:=1) (by omega) (by omega) (by omega) l1 l2 l3 (by rw [one.2]; omega) (by rw [one.2]; omega) (by rw [l4]; omega) (by rw [l4]; exact Qj (Rf hy) (Rf l3)) (by rw [cB]; exact h) (by rw [crN]; exact (sN2 _).2 (by omega))) nt
   unfold upE rgE
   rw [<-key]
   generalize detE N D ax ay bx by'=u at *
   constructor
   ·intro h
    constructor
    ·rintro ⟨h1,_,_⟩; omega
    ·rintro ⟨_,_,h3⟩
     have:=h.1 ⟨a0,by omega,h3⟩
     omega
   ·intro h
    constructor
    ·rintro ⟨_,_,h3⟩
     have:=h.2 ⟨by omega,b1,h3⟩
     omega
    ·rintro ⟨_,h2,_⟩; omega
  ·
   obtain ⟨m1,m2,m3,m4⟩:=lvl M (by omega) (by omega)
   have key:0<detE N D ax ay bx by'↔0<detE M D ax ay bx by':=by
    constructor
    ·intro h
     by_cases hc:0<detE M D ax ay bx by'
     ·exact hc
     exact absurd (two l1 l2 l3 m1 m2 m3 (by rw [l4]; omega) (by rw [l4]; exact Qj (Rf hy) (Rf l3)) (by rw [m4]; exact Qj (Rf hy) (Rf m3)) (by rw [m4]; omega) (by rw [crN]; exact (sN _).2 h) (by rw [crM]; exact (sN2 _).2 (by omega))) nt
    ·intro h
     by_cases hc:0<detE N D ax ay bx by'
     ·exact hc
     exact absurd (two m1 m2 m3 l1 l2 l3 (by rw [m4]; exact Qj (Rf hy) (Rf m3)) (by rw [m4]; omega) (by rw [l4]; omega) (by rw [l4]; exact Qj (Rf hy) (Rf l3)) (by rw [crM]; exact (sN _).2 h) (by rw [crN]; exact (sN2 _).2 (by omega))) nt
   unfold upE rgE
   rw [key]
   constructor
   ·intro _; constructor<;>(rintro ⟨h1,h2,h3⟩; omega)
   ·intro _
    constructor
    ·rintro ⟨_,_,h3⟩; exact ⟨by omega,by omega,h3⟩
    ·rintro ⟨_,_,h3⟩; exact ⟨by omega,by omega,h3⟩
 by_cases a1:ay*D<=M.y
 ·by_cases b1:by'*D<=M.y
  ·
   have key:crV N M D ax ay<0↔crV N M D bx by'<0:=by
    constructor
    ·intro h
     by_cases hc:crV N M D bx by'<0
     ·exact hc
     exact absurd (two (s:=1) (t:=0) (s':=0) (t':=1) (by omega) (by omega) (by omega) (by omega) (by omega) (by omega) (by rw [one.1]; omega) (by rw [one.1]; omega) (by rw [one.2]; omega) (by rw [one.2]; omega) (by rw [cA]; exact h) (by rw [cB]; omega)) nt
    ·intro h
     by_cases hc:crV N M D ax ay<0
     ·exact hc
     exact absurd (two (s:=0) (t:=1) (s':=1) (t':=0) (by omega) (by omega) (by omega) (by omega) (by omega) (by omega) (by rw [one.2]; omega) (by rw [one.2]; omega) (by rw [one.1]; omega) (by rw [one.1]; omega) (by rw [cB]; exact h) (by rw [cA]; omega)) nt
   unfold upE rgE
   rw [key]
   constructor
   ·intro _
    constructor
    ·rintro ⟨_,_,h3⟩; exact ⟨by omega,by omega,h3⟩
    ·rintro ⟨_,_,h3⟩; exact ⟨by omega,by omega,h3⟩
   ·intro _; constructor<;>(rintro ⟨h1,h2,h3⟩; omega)
  ·
   obtain ⟨m1,m2,m3,m4⟩:=lvl M a1 (by omega)
   have key:0<detE M D ax ay bx by'↔crV N M D ax ay<0:=by
    constructor
    ·intro h
     by_cases hc:crV N M D ax ay<0
     ·exact hc
     exact absurd (two (s':=1) (t':=0) m1 m2 m3 (by omega) (by omega) (by omega) (by rw [m4]; exact Qj (Rf hy) (Rf m3)) (by rw [m4]; omega) (by rw [one.1]; omega) (by rw [one.1]; omega) (by rw [crM]; exact (sN _).2 h) (by rw [cA]; omega)) nt
    ·intro h
     by_cases hc:0<detE M D ax ay bx by'
     ·exact hc
     exact absurd (two (s:=1) (t:=0) (by omega) (by omega) (by omega) m1 m2 m3 (by rw [one.1]; omega) (by rw [one.1]; omega) (by rw [m4]; exact Qj (Rf hy) (Rf m3)) (by rw [m4]; omega) (by rw [cA]; exact h) (by rw [crM]; exact (sN2 _).2 (by omega))) nt
   unfold upE rgE
   rw [<-key]
   generalize detE M D ax ay bx by'=u at *
   constructor
   ·intro h
    constructor
    ·rintro ⟨_,_,h3⟩
     have:=h.2 ⟨a1,by omega,h3⟩
     omega
    ·rintro ⟨_,h2,_⟩; omega
   ·intro h
    constructor
    ·rintro ⟨h1,_,_⟩; omega
    ·rintro ⟨_,_,h3⟩
     have:=h.1 ⟨by omega,a1,h3⟩
     omega
 ·unfold upE rgE; constructor<;>intro _<;>constructor<;>(rintro ⟨h1,h2,h3⟩; omega)
instance (p:P2d) (D ax ay bx by' : Int):Decidable (upE p D ax ay bx by'):=by unfold upE; exact inferInstance
instance (N M:P2d) (D x y:Int):Decidable (rgE N M D x y):=by unfold rgE; exact inferInstance
def flZ (p:P2d) (w:Wl):Bool:=if w.fy<=w.ty then decide (upE p p.d w.fx w.fy w.tx w.ty) else decide (upE p p.d w.tx w.ty w.fx w.fy)
theorem Yf2 {w:Wl} {n sx sy:Int} (h:Str w n sx sy) (p:P2d):detE p p.d w.fx w.fy w.tx w.ty=n*bsP w sx sy p/\detE p p.d w.tx w.ty w.fx w.fy = -(n*bsP w sx sy p):=by
 unfold detE bsP bes
 rw [h.tx,h.ty]
 constructor<;>grind
theorem Yfs {w:Wl} {n sx sy x y d:Int} (h:Str w n sx sy) (hp:PtOk x y d):flips x y d w=flZ ⟨x,y,d⟩ w:=by
 have a2:=Zi h.b2 hp.hd
 have a4:=Zi h.b4 hp.hd
 have hD:=hp.hD
 have hd:=hp.hd
 obtain ⟨e1,e2⟩:=Yf2 h ⟨x,y,d⟩
 have hn:=h.hn
 unfold flips flZ
 rw [Xm h hp,W_eq (n:=w.fy*d) (by omega) (by omega),W_eq (n:=w.ty*d) (by omega) (by omega)]
 change detE ⟨x,y,d⟩ d w.fx w.fy w.tx w.ty=_ at e1
 change detE ⟨x,y,d⟩ d w.tx w.ty w.fx w.fy=_ at e2
 have p1:=Zdz (a:=bsP w sx sy ⟨x,y,d⟩) hn
 have p2:=Zgm (a:=bsP w sx sy ⟨x,y,d⟩) hn
 have es:bes w sx sy x y d=bsP w sx sy ⟨x,y,d⟩:=rfl
 rw [es]
 have u1:upE ⟨x,y,d⟩ d w.fx w.fy w.tx w.ty↔w.fy*d<=y/\y<w.ty*d/\0<n*bsP w sx sy ⟨x,y,d⟩:=by rw [<-e1]; exact Iff.rfl
 have u2:upE ⟨x,y,d⟩ d w.tx w.ty w.fx w.fy↔w.ty*d<=y/\y<w.fy*d/\0 < -(n*bsP w sx sy ⟨x,y,d⟩):=by rw [<-e2]; exact Iff.rfl
 show _=if w.fy<=w.ty then decide (upE ⟨x,y,d⟩ d w.fx w.fy w.tx w.ty) else decide (upE ⟨x,y,d⟩ d w.tx w.ty w.fx w.fy)
 by_cases hc:w.fy<=w.ty
 ·have hm:w.fy*d<=w.ty*d:=Qj hc (Rf hd)
  rw [if_pos hc,Sj]
  simp only [Qv,Qc,decide_eq_true_eq,Uk,Ul,u1]
  generalize bsP w sx sy ⟨x,y,d⟩=B at *
  omega
 ·have hm:w.ty*d<=w.fy*d:=Qj (by omega) (Rf hd)
  rw [if_neg hc,Sj]
  simp only [Qv,Qc,decide_eq_true_eq,Uk,Ul,u2]
  generalize bsP w sx sy ⟨x,y,d⟩=B at *
  omega
theorem Zyz {N M:P2d} {D:Int} (hN:N.d=D) (hM:M.d=D) (hD:0<D) (hy:N.y<=M.y) {w:Wl} (nt:¬ tch N M D w.fx w.fy w.tx w.ty):(flZ N w ^^ flZ M w)=(decide (rgE N M D w.fx w.fy) ^^ decide (rgE N M D w.tx w.ty)):=by
 unfold flZ
 rw [hN,hM]
 by_cases hc:w.fy<=w.ty
 ·rw [if_pos hc,if_pos hc]
  exact Zqb (Zyx hD hy hc nt)
 ·rw [if_neg hc,if_neg hc,Bool.xor_comm (decide (rgE N M D w.fx w.fy))]
  exact Zqb (Zyx hD hy (by omega) fun h=>nt (Yaf h))
theorem Zz4 {N M:P2d} {D:Int} (hN:N.d=D) (hM:M.d=D) (hD:0<D) {cs:List (Int × Int)} (nt:∀ w∈wls cs,¬ tch N M D w.fx w.fy w.tx w.ty):xorL ((wls cs).map (flZ N))=xorL ((wls cs).map (flZ M)):=by
 have key:∀ N M:P2d,N.d=D->M.d=D->N.y<=M.y->(∀ w∈wls cs,¬ tch N M D w.fx w.fy w.tx w.ty)->(xorL ((wls cs).map (flZ N)) ^^ xorL ((wls cs).map (flZ M)))=false:=by
  intro N M h1 h2 hy h3
  rw [Zi9,<-tele (fun x y=>decide (rgE N M D x y)) cs]
  congr 1
  refine Nb fun w hw=>?_
  exact Zyz h1 h2 hD hy (h3 w hw)
 have fin:∀ a b:Bool,(a ^^ b)=false->a=b:=by decide
 rcases Int.le_total N.y M.y with hy|hy
 ·exact fin _ _ (key N M hN hM hy nt)
 ·exact (fin _ _ (key M N hM hN hy fun w hw h=>nt w hw (Yae h))).symm
theorem Zox {x y d:Int}:∀ (ws:List Wl) (b:Bool),inPl x y d b ws=true->(b ^^ xorL (ws.map (flips x y d)))=true
 | [],b,h=>by simpa [xorL,inPl] using h
 | w::ws,b,h=>by
  rw [inPl] at h
  split at h
  ·cases h
  ·have:=Zox ws _ h
   rw [Ti,show xorL (flips x y d w::ws.map (flips x y d))=(flips x y d w ^^ xorL (ws.map (flips x y d))) from rfl,<-Bool.xor_assoc]
   exact this
theorem Zlb {α:Type} (f:α->Bool):∀ (l:List α),(∀ a∈l,f a=false)->xorL (l.map f)=false
 | [],_=>rfl
 | a::l,h=>by
  rw [Ti,show xorL (f a::l.map f)=(f a ^^ xorL (l.map f)) from rfl,h a (by simp),Zlb f l fun b hb=>h b (by simp [hb])]
  rfl
theorem Yfv {w:Wl} {p:P2d} (hd:0<p.d) (h1 : -5000<=w.fy/\w.fy<=5000) (h2 : -5000<=w.ty/\w.ty<=5000) (hy:p.y < -(5000*p.d)\/5000*p.d<p.y):flZ p w=false:=by
 have a1:=Qj h1.1 (Rf hd)
 have a2:=Qj h1.2 (Rf hd)
 have a3:=Qj h2.1 (Rf hd)
 have a4:=Qj h2.2 (Rf hd)
 unfold flZ
 split
 ·rw [decide_eq_false]
  rintro ⟨b1,b2,_⟩
  omega
 ·rw [decide_eq_false]
  rintro ⟨b1,b2,_⟩
  omega
theorem Yee {N M:P2d} {D ax ay bx by' : Int} (hD:0<D) (hM:M.x=N.x) (h1 : -5000<=ax/\ax<=5000) (h2 : -5000<=bx/\bx<=5000) (hx:N.x < -(5000*D)\/5000*D<N.x):¬ tch N M D ax ay bx by':=by
 rintro ⟨s,t,l,m,hs,ht,hst,hl,hm,hlm,e,_⟩
 rw [hM,<-Int.add_mul,Sl] at e
 have e:=Int.eq_of_mul_eq_mul_left (by omega) e
 have a1:=Re h1.1 hs
 have a2:=Re h1.2 hs
 have a3:=Re h2.1 ht
 have a4:=Re h2.2 ht
 have b1:=Re (show s*ax+t*bx<=5000*(s+t) by omega) (Rf hD)
 have b2:=Re (show -5000*(s+t)<=s*ax+t*bx by omega) (Rf hD)
 rw [<-e] at b1 b2
 have c1:D*(5000*(s+t))=5000*D*(s+t):=by grind
 have c2:D*(-5000*(s+t)) = -(5000*D)*(s+t):=by grind
 rw [c1] at b1
 rw [c2] at b2
 rcases hx with hx|hx
 ·have:=Pd hx hst
  omega
 ·have:=Pd hx hst
  omega
theorem Zlw {h:Hal} (hs:Zaj h.cs) {x y d:Int} (hp:PtOk x y d) (hi:Yf h x y d=true):(-(5000*d)<=x/\x<=5000*d)/\(-(5000*d)<=y/\y<=5000*d):=by
 have hd:=hp.hd
 have h0:xorL ((wls h.cs).map (flZ ⟨x,y,d⟩))=true:=by
  have:=Zox _ _ hi
  rw [Bool.false_xor] at this
  rw [<-this]
  congr 1
  refine Nb fun w hw=>?_
  obtain ⟨n,sx,sy,g⟩:=Zad hs w hw
  exact (Yfs g hp).symm
 have far:∀ p:P2d,0<p.d->(p.y < -(5000*p.d)\/5000*p.d<p.y)->xorL ((wls h.cs).map (flZ p))=false:=fun p hpd hy =>
  Zlb _ _ fun w hw=>by
   obtain ⟨n,sx,sy,g⟩:=Zad hs w hw
   exact Yfv hpd g.b2 g.b4 hy
 have hy:¬ (y < -(5000*d)\/5000*d<y):=fun hy=>by
  rw [far ⟨x,y,d⟩ hd hy] at h0; cases h0
 have hx:¬ (x < -(5000*d)\/5000*d<x):=fun hx=>by
  rw [Zz4 (N:=⟨x,y,d⟩) (M:=⟨x,5001*d,d⟩) (D:=d) rfl rfl hd (fun w hw=>by
   obtain ⟨n,sx,sy,g⟩:=Zad hs w hw
   exact Yee hd rfl g.b1 g.b3 hx),far ⟨x,5001*d,d⟩ hd (.inr (by dsimp only; omega))] at h0
  cases h0
 omega
theorem c113 (k:Int) (p:Pt):PCall Tryz.prog 169 [I k,p.av] ⟨I (offN k p.x p.y p.z),[]⟩:=by
 refine bs.pv (sx:=nos) Zb Tryz.func169 (by kernel_rfl) (by kernel_rfl) rfl ?_
 repeat'(first|refine wk0 ?_|(refine wk2 ?_ ?_<;>intro _)|refine wk4 ?_|fail);all_goals(conv=>whnf)
 all_goals exact Za (by simp_all [offN])
def Zno (h:Hal) (w:Wl) (p:Pt):Bool:=!(decide (p.z<=0)||decide (Qa Qb (h.ht*p.d)<=p.z))&&(if w.fx=w.tx then decide (Qa Qb (imin w.fy w.ty*p.d)<p.y)&&decide (p.y<Qa Qb (imax w.fy w.ty*p.d)) else decide (Qa Qb (imin w.fx w.tx*p.d)<p.x)&&decide (p.x<Qa Qb (imax w.fx w.tx*p.d)))
def Zbd (h:Hal) (i:Int) (p:Pt):Bool:=if i<h.ws.length then Zno h (wlOf h.cs i.toNat) p else if i<(h.ws.length:Int)+2 then Yf h p.x p.y p.d else (kat h i).rc.holds p.x p.y p.d
theorem Zhf {h:Hal} {k:Nat} {p:Pt} (hk:k<h.ws.length):Zbd h k p=Zno h (wlOf h.cs k) p:=by unfold Zbd; rw [if_pos (by omega)]; rfl
theorem Zfj {h:Hal} {p:Pt}:Zbd h h.ws.length p=Yf h p.x p.y p.d:=by unfold Zbd; rw [if_neg (by omega),if_pos (by omega)]
theorem Zhg {h:Hal} {p:Pt}:Zbd h ((h.ws.length:Int)+1) p=Yf h p.x p.y p.d:=by unfold Zbd; rw [if_neg (by omega),if_pos (by omega)]
theorem Zjd {h:Hal} {j:Nat} {p:Pt} (hj:j<h.ks.length):Zbd h ((h.ws.length:Int)+2+j) p=h.ks[j].rc.holds p.x p.y p.d:=by unfold Zbd; rw [if_neg (by omega),if_neg (by omega),Zlt hj]
theorem c118 {h:Hal} {s:Stg} (g:Sit h s) {i:Int} (hi:SK h i) (p:Pt):PCall Tryz.prog 174 [.agg (stgL h s),I i,p.av] ⟨Bo (Zbd h i p),[]⟩:=by
 have f3:=g.ok.f.2.2.1
 have f4:=g.ok.f.2.2.2.1
 have hk0:=Ze (c87 g.ok.f s hi) (Ze (c183 g.ok.f p.x p.y p.d) (Yhl g))
 cases hi with
 | wall k hk =>
  have hk2:k<h.cs.length:=by have:=g.fine.le; omega
  rw [Zhf hk]
  obtain ⟨v1,v2⟩:=Zew (h:=h) (i:=k) (by omega)
  rw [v1,v2] at hk0
  have hk1:=Ze (Yf8 g.ok.f hk2) hk0
  generalize wlOf h.cs k=w at *
  refine bs.pv (sx:=nos) hk1 Tryz.func174 (by kernel_rfl) (by kernel_rfl) rfl ?_
  repeat'(first|refine wk0 ?_|(refine wk2 ?_ ?_<;>intro _)|refine wk4 ?_|fail);all_goals(conv=>whnf)
  all_goals clear hk0 hk1
  all_goals first
   | (exfalso; rename_i hx; have hx:=of_decide_eq_true (show decide ((k:Int)=(h.ws.length:Int)+1)=true from hx); omega)
   | (exfalso; rename_i hx; have hx:=of_decide_eq_true (show decide ((k:Int)=(h.ws.length:Int))=true from hx); omega)
   | (refine Zd ?_; simp_all [Zno]; done)
   | (refine Zd ?_; simp_all [Zno]; intro _; omega)
   | (exfalso; simp_all; omega)
 | floor =>
  rw [Zfj]
  obtain ⟨v1,v2⟩:=Zew (h:=h) (i:=h.ws.length) (by omega)
  rw [v1,v2] at hk0
  refine bs.pv (sx:=nos) hk0 Tryz.func174 (by kernel_rfl) (by kernel_rfl) rfl ?_
  repeat'(first|refine wk1 ?_|(refine wk2 ?_ ?_<;>intro _)|refine wk4 ?_|fail);all_goals(conv=>whnf)
  exact Zd rfl
 | ceil =>
  rw [Zhg]
  obtain ⟨v1,v2⟩:=Zew (h:=h) (i:=(h.ws.length:Int)+1) (by omega)
  rw [v1,v2] at hk0
  refine bs.pv (sx:=nos) hk0 Tryz.func174 (by kernel_rfl) (by kernel_rfl) rfl ?_
  repeat'(first|refine wk1 ?_|(refine wk2 ?_ ?_<;>intro _)|refine wk4 ?_|fail);all_goals(conv=>whnf)
  ·exact Zd rfl
  all_goals (exfalso; simp_all; done)
 | can j hj =>
  rw [Zjd hj]
  obtain ⟨v1,v2⟩:=Ztt hj
  rw [v1,v2] at hk0
  generalize h.ks[j]=c at *
  have hk1:=Ze (c193 c.rc p.x p.y p.d) hk0
  refine bs.pv (sx:=nos) hk1 Tryz.func174 (by kernel_rfl) (by kernel_rfl) rfl ?_
  repeat'(first|refine wk1 ?_|(refine wk2 ?_ ?_<;>intro _)|refine wk4 ?_|fail);all_goals(conv=>whnf)
  exact Zd rfl
def Yd7 (c:Can) (p:Pt):Bool:=Zgs c p && !decide (p.x=Qa Qb (c.fx*p.d)) && !decide (p.x=Qa Qb (c.tx*p.d)) && !decide (p.y=Qa Qb (c.fy*p.d)) && !decide (p.y=Qa Qb (c.ty*p.d))
def Zz8 (h:Hal) (l:Ln) (p:Pt):Bool:=within (l.along p) 1 (Qa Qb (Qa Qb (l.full*p.d)-1))&&within p.z 1 (Qa Qb (Qa Qb (h.ht*p.d)-1))
def Zit (h:Hal) (i:Int) (p:Pt):Bool:=if i<h.ws.length then Zz8 h (lnOf h.cs i.toNat) p else if i<(h.ws.length:Int)+2 then Zz h p else Yd7 (kat h i) p
theorem Zt3 {h:Hal} {k:Nat} {p:Pt} (hk:k<h.ws.length):Zit h k p=Zz8 h (lnOf h.cs k) p:=by unfold Zit; rw [if_pos (by omega)]; rfl
theorem Zqf {h:Hal} {p:Pt}:Zit h h.ws.length p=Zz h p:=by unfold Zit; rw [if_neg (by omega),if_pos (by omega)]
theorem Zt4 {h:Hal} {p:Pt}:Zit h ((h.ws.length:Int)+1) p=Zz h p:=by unfold Zit; rw [if_neg (by omega),if_pos (by omega)]
theorem Zvt {h:Hal} {j:Nat} {p:Pt} (hj:j<h.ks.length):Zit h ((h.ws.length:Int)+2+j) p=Yd7 h.ks[j] p:=by unfold Zit; rw [if_neg (by omega),if_neg (by omega),Zlt hj]
def valN (k x y z:Int):Int:=if k=0 then x else if k=1 then y else if k=2 then z else if k=3 then x+y else x-y
theorem Zmx {w:Wl} {n sx sy:Int} (h:Str w n sx sy):plW w=if sx=0 then (0,w.fx) else if sy=0 then (1,w.fy) else if sx=sy then (4,w.fx-w.fy) else (3,w.fx+w.fy):=by
 have hn:=h.hn
 have b1:=h.b1
 have b2:=h.b2
 have hxy:=h.hxy
 have w4:Qa Qb (w.fx-w.fy)=w.fx-w.fy:=W_eq (by omega) (by omega)
 have w3:Qa Qb (w.fx+w.fy)=w.fx+w.fy:=W_eq (by omega) (by omega)
 unfold plW
 rw [h.dx,h.dy,w3,w4]
 rcases h.hx with rfl|rfl|rfl<;>rcases h.hy with rfl|rfl|rfl<;>(try (exact absurd ⟨rfl,rfl⟩ hxy))<;>simp only [Th,Sc,Sk]<;>(repeat' split)<;>first|rfl|(exfalso; omega)
theorem Zvx {h:Hal} {w:Wl} {n sx sy:Int} (hs:Str w n sx sy) {p:Pt} (hp:PtOk p.x p.y p.d) (ht:2<=h.ht/\h.ht<=5000) (hpl:valN (plW w).1 p.x p.y p.z=(plW w).2*p.d):Zno h w p=Zz8 h w.ln p:=by
 obtain ⟨x,y,z,d⟩:=p
 dsimp only at hp hpl
 have hd:=hp.hd
 have hD:=hp.hD
 have nd:=Ye2 hs.hn hs.nle hd
 have a1:=Zi hs.b1 hd
 have a2:=Zi hs.b2 hd
 have a3:=Zi hs.b3 hd
 have a4:=Zi hs.b4 hd
 have hz:Qa Qb (h.ht*d)=h.ht*d/\Qa Qb (h.ht*d-1)=h.ht*d-1/\0<h.ht*d:=by
  have:=Zi (f:=h.ht) (d:=d) (by omega) hd
  have:=Rk (a:=h.ht) (b:=d) (by omega) hd
  exact ⟨W_eq (by omega) (by omega),W_eq (by omega) (by omega),this⟩
 unfold Zno Zz8
 rw [Zi8 hs hp,Zre hs]
 rw [Zmx hs] at hpl
 unfold valN at hpl
 rw [Zd8,Zd8,Zd9,Zd9]
 dsimp only
 rw [hz.1,hz.2.1]
 rw [Zbu hd,Zbu hd,Zbv hd,Zbv hd]
 rw [W_eq (n:=min (w.fx*d) (w.tx*d)) (by omega) (by omega),W_eq (n:=max (w.fx*d) (w.tx*d)) (by omega) (by omega),W_eq (n:=min (w.fy*d) (w.ty*d)) (by omega) (by omega),W_eq (n:=max (w.fy*d) (w.ty*d)) (by omega) (by omega)]
 have etx:=hs.tx
 have ety:=hs.ty
 have b1:=hs.b1
 have b2:=hs.b2
 have hn:=hs.hn
 have cnd:(w.fx=w.tx)↔sx=0:=by
  rw [etx]
  constructor
  ·intro e
   have:n*sx=0:=by omega
   rcases Ot.1 this with h|h
   ·omega
   ·exact h
  ·intro e; rw [e]; omega
 have ex:w.tx*d=w.fx*d+sx*(n*d):=by rw [etx]; grind
 have ey:w.ty*d=w.fy*d+sy*(n*d):=by rw [ety]; grind
 have full:n*(sx*sx+sy*sy)*d=(sx*sx+sy*sy)*(n*d):=by grind
 have d3:(w.fx+w.fy)*d=w.fx*d+w.fy*d:=by grind
 have d4:(w.fx-w.fy)*d=w.fx*d-w.fy*d:=by grind
 rw [full,ex,ey]
 unfold alo
 simp only [cnd]
 have hx:=hs.hx
 have hy:=hs.hy
 have hxy:=hs.hxy
 clear full etx ety cnd hs hp hz
 generalize w.fx*d=A at *
 generalize w.fy*d=C at *
 generalize n*d=N at *
 generalize h.ht*d=H at *
 rcases hx with rfl|rfl|rfl<;>rcases hy with rfl|rfl|rfl<;>(try (exact absurd ⟨rfl,rfl⟩ hxy))<;>simp [IntKind.wrap_i64] at hpl ⊢ <;> rw [Sj]<;>simp [within_iff]
 all_goals omega
structure Crs where
 su:Int
 fx:Int
 fy:Int
 fz:Int
 to:Pt
abbrev Crs.av (c:Crs):AV:=.agg [I c.su,I c.fx,I c.fy,I c.fz,I c.to.x,I c.to.y,I c.to.z,I c.to.d]
def crF (pl:Int × Int) (c:Crs):Int:=valN pl.1 c.fx c.fy c.fz-pl.2
def crG (pl:Int × Int) (c:Crs):Int:=valN pl.1 c.to.x c.to.y c.to.z-pl.2*c.to.d
def crPt (c:Crs) (u v:Int):Pt:=⟨c.fx*u+c.to.x*v,c.fy*u+c.to.y*v,c.fz*u+c.to.z*v,u+c.to.d*v⟩
def redP (p:Pt):Pt:=⟨p.x / (g4 p:Int),p.y / (g4 p:Int),p.z / (g4 p:Int),p.d / (g4 p:Int)⟩
def iabs (n:Int):Int:=if n<0 then -n else n
def Xw (pl:Int × Int) (c:Crs):Pt:=redP (crPt c (iabs (crG pl c)) (iabs (crF pl c)))
def ptZ:Pt:=⟨0,0,0,0⟩
def Zao (well:Pt->Bool) (pl:Int × Int) (c:Crs):Pt × Int :=
 if 0<=sgn (crF pl c)*sgn (crG pl c) then (ptZ,12)
 else if well (Xw pl c) then (if 100000<(Xw pl c).d then (ptZ,8) else (Xw pl c,0))
 else (ptZ,12)
structure CrOk (pl:Int × Int) (c:Crs):Prop where
 k0:0<=pl.1
 k4:pl.1<=4
 at' : -10000<=pl.2/\pl.2<=10000
 fx : -45000<=c.fx/\c.fx<=45000
 fy : -45000<=c.fy/\c.fy<=45000
 fz : -45000<=c.fz/\c.fz<=45000
 d0:0<c.to.d
 d1:c.to.d<=100000
 x : -(5000*c.to.d)<=c.to.x/\c.to.x<=5000*c.to.d
 y : -(5000*c.to.d)<=c.to.y/\c.to.y<=5000*c.to.d
 z : -(5000*c.to.d)<=c.to.z/\c.to.z<=5000*c.to.d
theorem Ydu {pl:Int × Int} {c:Crs} (h:CrOk pl c):Qa Qb (offN pl.1 c.fx c.fy c.fz-pl.2)=crF pl c/\Qa Qb (offN pl.1 c.fx c.fy c.fz-Qa Qb (pl.2*1))=crF pl c /\ -100000<=crF pl c/\crF pl c<=100000:=by
 obtain ⟨h1,h2,h3,h4,h5,h6,_⟩:=h
 unfold crF valN offN
 rw [Sc,W_eq (n:=pl.2) (by omega) (by omega)]
 repeat' split
 all_goals (try rw [W_eq (n:=c.fx+c.fy) (by omega) (by omega)])
 all_goals (try rw [W_eq (n:=c.fx-c.fy) (by omega) (by omega)])
 all_goals (refine ⟨W_eq (by omega) (by omega),W_eq (by omega) (by omega),by omega,by omega⟩)
theorem Ydt {pl:Int × Int} {c:Crs} (h:CrOk pl c):Qa Qb (offN pl.1 c.to.x c.to.y c.to.z-Qa Qb (pl.2*c.to.d))=crG pl c /\ -2000000000<=crG pl c/\crG pl c<=2000000000:=by
 obtain ⟨h1,h2,h3,h4,h5,h6,h7,h8,h9,h10,h11⟩:=h
 have m:=Zu (a:=pl.2) (b:=c.to.d) (A:=10000) (B:=100000) (by omega) (by omega)
 unfold crG valN offN
 rw [W_eq (n:=pl.2*c.to.d) (by omega) (by omega)]
 generalize pl.2*c.to.d=m at *
 repeat' split
 all_goals (try rw [W_eq (n:=c.to.x+c.to.y) (by omega) (by omega)])
 all_goals (try rw [W_eq (n:=c.to.x-c.to.y) (by omega) (by omega)])
 all_goals (refine ⟨W_eq (by omega) (by omega),by omega,by omega⟩)
theorem Zy8 {pl:Int × Int} {c:Crs} (h:CrOk pl c) {u v:Int} (hu:0<=u/\u<=2000000000) (hv:0<=v/\v<=100000) :
  (-90000000000000<=c.fx*u/\c.fx*u<=90000000000000)/\(-90000000000000<=c.fy*u/\c.fy*u<=90000000000000)/\(-90000000000000<=c.fz*u/\c.fz*u<=90000000000000) /\
  (-50000000000000<=c.to.x*v/\c.to.x*v<=50000000000000)/\(-50000000000000<=c.to.y*v/\c.to.y*v<=50000000000000)/\(-50000000000000<=c.to.z*v/\c.to.z*v<=50000000000000)/\(0<=c.to.d*v/\c.to.d*v<=10000000000):=by
 obtain ⟨h1,h2,h3,h4,h5,h6,h7,h8,h9,h10,h11⟩:=h
 have m1:=Zu (a:=c.fx) (b:=u) (A:=45000) (B:=2000000000) (by omega) (by omega)
 have m2:=Zu (a:=c.fy) (b:=u) (A:=45000) (B:=2000000000) (by omega) (by omega)
 have m3:=Zu (a:=c.fz) (b:=u) (A:=45000) (B:=2000000000) (by omega) (by omega)
 have m4:=Zu (a:=c.to.x) (b:=v) (A:=500000000) (B:=100000) (by omega) (by omega)
 have m5:=Zu (a:=c.to.y) (b:=v) (A:=500000000) (B:=100000) (by omega) (by omega)
 have m6:=Zu (a:=c.to.z) (b:=v) (A:=500000000) (B:=100000) (by omega) (by omega)
 have m7:=Zu (a:=c.to.d) (b:=v) (A:=100000) (B:=100000) (by omega) (by omega)
 have m8:=Qo (Rf h7) hv.1
 refine ⟨by omega,by omega,by omega,by omega,by omega,by omega,by omega,by omega⟩
structure Big (p:Pt):Prop where
 x : -140000000000000<=p.x/\p.x<=140000000000000
 y : -140000000000000<=p.y/\p.y<=140000000000000
 z : -140000000000000<=p.z/\p.z<=140000000000000
 d:0<p.d/\p.d<=12000000000
theorem Big.wf {p:Pt} (h:Big p):p.wf:=by
 obtain ⟨h1,h2,h3,h4⟩:=h
 exact ⟨⟨by omega,by omega⟩,⟨by omega,by omega⟩,⟨by omega,by omega⟩,⟨by omega,by omega⟩⟩
theorem Yb5 {pl:Int × Int} {c:Crs} (h:CrOk pl c) {u v:Int} (hu:0<u/\u<=2000000000) (hv:0<v/\v<=100000):Big (crPt c u v):=by
 have hb:=Zy8 h (u:=u) (v:=v) (by omega) (by omega)
 unfold crPt
 refine ⟨?_,?_,?_,?_⟩<;>dsimp only<;>omega
theorem Yh1 (p:Pt):((g4 p:Int) ∣ p.x/\(g4 p:Int) ∣ p.y)/\((g4 p:Int) ∣ p.z/\(g4 p:Int) ∣ p.d):=by
 unfold g4
 have a:=Hh (Tk p.x.natAbs p.y.natAbs) (Tk p.z.natAbs p.d.natAbs)
 have b:=Nr (Tk p.x.natAbs p.y.natAbs) (Tk p.z.natAbs p.d.natAbs)
 exact ⟨⟨Mu.2 (Ke a (Hh _ _)),Mu.2 (Ke a (Nr _ _))⟩,⟨Mu.2 (Ke b (Hh _ _)),Mu.2 (Ke b (Nr _ _))⟩⟩
theorem Zci {a g:Int} (hg:0<g) (h:g ∣ a):a.tdiv g=a / g/\a / g*g=a/\(∀ B,-B<=a/\a<=B -> -B<=a / g/\a / g<=B):=by
 obtain ⟨k,rfl⟩:=h
 rw [Int.mul_tdiv_cancel_left _ (by omega),Int.mul_ediv_cancel_left _ (by omega)]
 refine ⟨rfl,Rp _ _,fun B hB=>?_⟩
 rcases Oc k 0 with hk|hk
 ·have:=Qj (show 1<=g by omega) (show 0 <= -k by omega)
  have e:g * -k = -(g*k):=Sk _ _
  omega
 ·have:=Qj (show 1<=g by omega) hk
  omega
theorem Zbj {p:Pt} (h:Big p):(0<(g4 p:Int)/\(g4 p:Int)<=12000000000)/\(Qa Qb (p.x.tdiv (g4 p))=(redP p).x/\Qa Qb (p.y.tdiv (g4 p))=(redP p).y/\Qa Qb (p.z.tdiv (g4 p))=(redP p).z/\Qa Qb (p.d.tdiv (g4 p))=(redP p).d)/\Big (redP p)/\((redP p).x*g4 p=p.x/\(redP p).y*g4 p=p.y/\(redP p).z*g4 p=p.z/\(redP p).d*g4 p=p.d):=by
 obtain ⟨g1,g2⟩:=Yh0 h.wf h.d.1
 obtain ⟨⟨d1,d2⟩,d3,d4⟩:=Yh1 p
 have hg:(0:Int)<g4 p:=by omega
 obtain ⟨x1,x2,x3⟩:=Zci hg d1
 obtain ⟨y1,y2,y3⟩:=Zci hg d2
 obtain ⟨z1,z2,z3⟩:=Zci hg d3
 obtain ⟨e1,e2,e3⟩:=Zci hg d4
 obtain ⟨h1,h2,h3,h4⟩:=h
 have x3:=x3 140000000000000 h1
 have y3:=y3 140000000000000 h2
 have z3:=z3 140000000000000 h3
 have e3:=e3 12000000000 (by omega)
 have hd:0<p.d / (g4 p:Int):=by
  rcases Oc 0 (p.d / (g4 p:Int)) with k|k
  ·exact k
  ·have:=Qo (show 0 <= -(p.d / (g4 p:Int)) by omega) (Rf hg)
   rw [Int.neg_mul] at this
   omega
 refine ⟨by omega,⟨?_,?_,?_,?_⟩,⟨x3,y3,z3,hd,e3.2⟩,x2,y2,z2,e2⟩
 ·rw [x1]; exact W_eq (by omega) (by omega)
 ·rw [y1]; exact W_eq (by omega) (by omega)
 ·rw [z1]; exact W_eq (by omega) (by omega)
 ·rw [e1]; exact W_eq (by omega) (by omega)
theorem Big.ok {p:Pt} (h:Big p):PtOk p.x p.y p.d:=by
 obtain ⟨h1,h2,h3,h4⟩:=h
 exact ⟨h4.1,by omega,by omega,by omega⟩
theorem Zr6 {pl:Int × Int} {c:Crs} (h:CrOk pl c) (hs:¬ 0<=sgn (crF pl c)*sgn (crG pl c)):(0<iabs (crG pl c)/\iabs (crG pl c)<=2000000000)/\(0<iabs (crF pl c)/\iabs (crF pl c)<=100000):=by
 have h1:=(Ydu h).2.2
 have h2:=(Ydt h).2
 have h3:=sgn_mul_neg.1 (show sgn (crF pl c)*sgn (crG pl c)<0 by omega)
 unfold iabs
 refine ⟨?_,?_⟩<;>split<;>omega
theorem Zbb {pl:Int × Int} {c:Crs} (h:CrOk pl c) (hs:¬ 0<=sgn (crF pl c)*sgn (crG pl c)):Big (crPt c (iabs (crG pl c)) (iabs (crF pl c))):=by
 obtain ⟨a,b⟩:=Zr6 h hs
 exact Yb5 h a b
theorem Zsf (k a b c a' b' c' u v:Int):valN k (a*u+a'*v) (b*u+b'*v) (c*u+c'*v)=valN k a b c*u+valN k a' b' c'*v:=by
 unfold valN
 repeat' split
 all_goals grind
theorem Zse (k a b c g:Int):valN k (a*g) (b*g) (c*g)=valN k a b c*g:=by
 unfold valN
 repeat' split
 all_goals grind
theorem Zf3 {pl:Int × Int} {c:Crs} (h:CrOk pl c) (hs:¬ 0<=sgn (crF pl c)*sgn (crG pl c)):valN pl.1 (Xw pl c).x (Xw pl c).y (Xw pl c).z=pl.2*(Xw pl c).d:=by
 obtain ⟨⟨g1,_⟩,_,_,e1,e2,e3,e4⟩:=Zbj (Zbb h hs)
 have h3:=sgn_mul_neg.1 (show sgn (crF pl c)*sgn (crG pl c)<0 by omega)
 have k:valN pl.1 (crPt c (iabs (crG pl c)) (iabs (crF pl c))).x (crPt c (iabs (crG pl c)) (iabs (crF pl c))).y (crPt c (iabs (crG pl c)) (iabs (crF pl c))).z=pl.2*(crPt c (iabs (crG pl c)) (iabs (crF pl c))).d:=by
  unfold crPt
  dsimp only
  rw [Zsf]
  have hF:valN pl.1 c.fx c.fy c.fz=crF pl c+pl.2:=by unfold crF; omega
  have hG:valN pl.1 c.to.x c.to.y c.to.z=crG pl c+pl.2*c.to.d:=by unfold crG; omega
  rw [hF,hG]
  have:crF pl c*iabs (crG pl c)+crG pl c*iabs (crF pl c)=0:=by
   unfold iabs
   rcases h3 with ⟨p1,p2⟩|⟨p1,p2⟩
   ·rw [if_neg (by omega),if_pos p1]; grind
   ·rw [if_pos p2,if_neg (by omega)]; grind
  grind
 unfold Xw
 rw [<-e1,<-e2,<-e3,<-e4,Zse] at k
 generalize redP (crPt c (iabs (crG pl c)) (iabs (crF pl c)))=q at *
 have k2:(valN pl.1 q.x q.y q.z-pl.2*q.d)*(g4 (crPt c (iabs (crG pl c)) (iabs (crF pl c))):Int)=0:=by
  rw [My,k]; grind
 rcases Ot.1 k2 with k3|k3<;>omega
theorem Zh7 {h:Hal} (g:h.fine) {j:Nat} (hj:j<h.ks.length):CanOk h.ks[j]/\Zcy h.ht none h.ks[j].hs=0:=by
 have:=g.can j hj
 unfold Zg8 at this
 split at this
 ·split at this
  ·cases this
  ·split at this
   ·cases this
   ·split at this
    ·cases this
    ·split at this
     ·cases this
     ·split at this
      ·split at this
       ·rename_i hz
        split at this
        ·rename_i hp
         split at this
         ·cases this
         ·rename_i hd
          simp only [Qc] at hp
          simp only [Qv,decide_eq_true_eq,not_or] at hd
          exact ⟨⟨within_iff.1 hp.1.1.1,within_iff.1 hp.1.1.2,within_iff.1 hp.1.2,within_iff.1 hp.2,hd.1,hd.2⟩,hz⟩
        ·cases this
       ·rename_i hx; exact absurd this hx
      ·cases this
 ·cases this
theorem ite9 {b:Bool} {x:Int} (h:(if b=true then 9 else x)=0):x=0:=by
 cases b
 ·exact h
 ·rw [if_pos rfl] at h; exact absurd h (by decide)
theorem Yhw {ht:Int} (h0:2<=ht/\ht<=5000):∀ (l:List Int) (p:Option Int),Zcy ht p l=0->∀ n∈l,1<=n/\n<ht
 | [],_,_,n,hn=>by simp at hn
 | m::l,p,h,n,hn=>by
  rw [Zhz] at h
  split at h
  ·rename_i hw
   rw [W_eq (by omega) (by omega),within_iff] at hw
   have h2:=ite9 h
   rcases Ra.1 hn with rfl|hn
   ·omega
   ·exact Yhw h0 l _ h2 n hn
  ·cases h
theorem Ztd {h:Hal} {s:Stg} (g:Sit h s) {j:Nat} (hj:j<h.ks.length):1<=Zcz h s j/\Zcz h s j<h.ht:=by
 obtain ⟨n,e1,e2,e3,e4⟩:=Zo3 g.set hj
 have hm:Zcz h s j∈h.ks[j].hs:=by
  have:=List.mem_of_getElem? e4
  simp only [nl,List.mem_map,List.cons.injEq,AV.int.injEq,true_and,and_true] at this
  obtain ⟨m,hm,rfl⟩:=this
  exact hm
 exact Yhw g.fine.ht _ _ (Zh7 g.fine hj).2 _ hm
theorem Zqu {c:Can} (h:CanOk c):RcOk c.rc:=by
 obtain ⟨h1,h2,h3,h4,h5,h6⟩:=h
 obtain ⟨⟨e1,e2⟩,e3,e4⟩:=Zhp c
 refine ⟨?_,?_,?_,?_,?_,?_⟩<;>omega
theorem Zcs {h:Hal} {s:Stg} (g:Sit h s) {i:Int} (hi:SK h i):(0<=(Zf h s i).1/\(Zf h s i).1<=4)/\(-10000<=(Zf h s i).2/\(Zf h s i).2<=10000):=by
 have ht:=g.fine.ht
 cases hi with
 | wall k hk =>
  have hk2:k<h.cs.length:=by have:=g.fine.le; omega
  obtain ⟨n,sx,sy,hs⟩:=g.fine.st k hk2
  rw [Za0 hk,Zmx hs]
  have:=hs.b1
  have:=hs.b2
  repeat' split
  all_goals (dsimp only; omega)
 | floor=>rw [Zbl]; dsimp only; omega
 | ceil=>rw [Zct]; dsimp only; omega
 | can j hj =>
  rw [Zel]
  have:=Ztd g hj
  dsimp only; omega
theorem Yd6 {h:Hal} {s:Stg} (g:Sit h s) {i:Int} (hi:SK h i) {p:Pt} (hp:PtOk p.x p.y p.d) (hpl:valN (Zf h s i).1 p.x p.y p.z=(Zf h s i).2*p.d):Zbd h i p=Zit h i p:=by
 cases hi with
 | wall k hk =>
  have hk2:k<h.cs.length:=by have:=g.fine.le; omega
  obtain ⟨n,sx,sy,hs⟩:=g.fine.st k hk2
  rw [Za0 hk] at hpl
  rw [Zhf hk,Zt3 hk,Zfu]
  exact Zvx hs hp g.fine.ht hpl
 | floor =>
  rw [Zfj,Zqf]
  exact Uw g.fine.st p.z hp
 | ceil =>
  rw [Zhg,Zt4]
  exact Uw g.fine.st p.z hp
 | can j hj =>
  rw [Zjd hj,Zvt hj]
  have hr:=Zqu (Zh7 g.fine hj).1
  have hd:0<p.d/\p.d<=1000000000000000:=by have:=hp.hd; have:=hp.hD; omega
  have c0:=(Zh7 g.fine hj).1
  generalize h.ks[j]=c at *
  obtain ⟨⟨e1,e2⟩,e3,e4⟩:=Zhp c
  have c1:=Zi c0.b1 hd.1
  have c2:=Zi c0.b2 hd.1
  have c3:=Zi c0.b3 hd.1
  have c4:=Zi c0.b4 hd.1
  rw [Sj,Zek hr hd,e1,e2,e3,e4]
  unfold Yd7 Zgs
  rw [Zd8,Zd8,Zd9,Zd9,Zbu hd.1,Zbv hd.1,Zbu hd.1,Zbv hd.1]
  rw [W_eq (n:=c.fx*p.d) (by omega) (by omega),W_eq (n:=c.tx*p.d) (by omega) (by omega),W_eq (n:=c.fy*p.d) (by omega) (by omega),W_eq (n:=c.ty*p.d) (by omega) (by omega)]
  rw [W_eq (n:=min (c.fx*p.d) (c.tx*p.d)) (by omega) (by omega),W_eq (n:=max (c.fx*p.d) (c.tx*p.d)) (by omega) (by omega),W_eq (n:=min (c.fy*p.d) (c.ty*p.d)) (by omega) (by omega),W_eq (n:=max (c.fy*p.d) (c.ty*p.d)) (by omega) (by omega)]
  simp only [Qc,Sb,decide_eq_false_iff_not,within_iff]
  omega
theorem Yid {p:Pt} (hb:Big p) {X Y Z D:Int} (hX:X=p.x) (hY:Y=p.y) (hZ:Z=p.z) (hD:D=p.d) :
  gcds [I X,I Y]=some ⟨I (Qa Qb ((Tk p.x.natAbs p.y.natAbs:Nat):Int)),[]⟩/\gcds [I Z,I D]=some ⟨I (Qa Qb ((Tk p.z.natAbs p.d.natAbs:Nat):Int)),[]⟩/\gcds [I (Qa Qb ((Tk p.x.natAbs p.y.natAbs:Nat):Int)),I (Qa Qb ((Tk p.z.natAbs p.d.natAbs:Nat):Int))]=some ⟨I (g4 p:Int),[]⟩ /\
  Qa Qb (X.tdiv (g4 p))=(redP p).x/\Qa Qb (Y.tdiv (g4 p))=(redP p).y/\Qa Qb (Z.tdiv (g4 p))=(redP p).z/\Qa Qb (D.tdiv (g4 p))=(redP p).d/\(0<(g4 p:Int)/\(g4 p:Int)<=12000000000):=by
 subst hX hY hZ hD
 have hw:=hb.wf
 have h3':=Zna (Zu5 ((Tk p.x.natAbs p.y.natAbs:Nat):Int)) (Zu5 ((Tk p.z.natAbs p.d.natAbs:Nat):Int))
 rw [Zsx (Yde hw.x hw.y),Zsx (Yde hw.z hw.d)] at h3'
 change gcds _=some ⟨I (Qa Qb ((g4 p:Nat):Int)),[]⟩ at h3'
 obtain ⟨g1,⟨r1,r2,r3,r4⟩,_,_⟩:=Zbj hb
 rw [W_eq (n:=((g4 p:Nat):Int)) (by omega) (by omega)] at h3'
 exact ⟨Zna hw.x hw.y,Zna hw.z hw.d,h3',r1,r2,r3,r4,g1⟩
theorem Ydf {p:Pt} (h:Big p):g4 (redP p)=1:=by
 obtain ⟨⟨g1,_⟩,_,_,e1,e2,e3,e4⟩:=Zbj h
 have key:g4 p=g4 (redP p)*g4 p:=by
  have hx:p.x.natAbs=(redP p).x.natAbs*g4 p:=by rw [<-e1,Tx,Mv]
  have hy:p.y.natAbs=(redP p).y.natAbs*g4 p:=by rw [<-e2,Tx,Mv]
  have hz:p.z.natAbs=(redP p).z.natAbs*g4 p:=by rw [<-e3,Tx,Mv]
  have hd:p.d.natAbs=(redP p).d.natAbs*g4 p:=by rw [<-e4,Tx,Mv]
  have:g4 p=Tk (Tk ((redP p).x.natAbs*g4 p) ((redP p).y.natAbs*g4 p)) (Tk ((redP p).z.natAbs*g4 p) ((redP p).d.natAbs*g4 p)):=by rw [<-hx,<-hy,<-hz,<-hd]; rfl
  rw [Oy,Oy,Oy] at this
  exact this
 have h0:0<g4 p:=by omega
 have:g4 (redP p)*g4 p=1*g4 p:=by omega
 exact Nat.eq_of_mul_eq_mul_right h0 this
def crsE (h:Hal) (s:Stg) (c:Crs):Int:=if surE h s c.su=0 then (if Vy c.fx c.fy c.fz=0 then Yu c.to else Vy c.fx c.fy c.fz) else surE h s c.su
theorem Zy9 {h:Hal} {s:Stg} {c:Crs} (hk:h.ok) (hs:s.few) (h0:crsE h s c=0):Sit h s/\SK h c.su/\CrOk (Zf h s c.su) c/\surE h s c.su=0/\Vy c.fx c.fy c.fz=0/\Yu c.to=0:=by
 unfold crsE at h0
 split at h0
 ·rename_i h1
  split at h0
  ·rename_i h2
   have e:=Zf9 h1
   have g:=Ze4 hk hs e.1
   have hi:=Zhn e.2.1 e.2.2
   obtain ⟨⟨b1,b2⟩,b3⟩:=Zcs g hi
   obtain ⟨p1,p2,_,p4⟩:=Zb3 h0
   unfold ptIn at p4
   simp only [Qc,within_iff] at p4
   have h3:=h2
   unfold Vy img at h3
   split at h3
   ·rename_i h4
    simp only [Qc,within_iff] at h4
    exact ⟨g,hi,⟨b1,b2,b3,by omega,by omega,by omega,p1,p2,p4.1.1,p4.1.2,p4.2⟩,h1,h2,h0⟩
   ·cases h3
  ·rename_i h2; exact absurd h0 h2
 ·rename_i h1; exact absurd h0 h1
abbrev crAV (r:Pt × Int):AV:=.tup [r.1.av,I r.2]
theorem Zh2 {well:Pt->Bool} {pl:Int × Int} {c:Crs} (hs:0<=sgn (crF pl c)*sgn (crG pl c)):Zao well pl c=(ptZ,12):=by unfold Zao; rw [if_pos hs]
theorem Yb7 {well:Pt->Bool} {pl:Int × Int} {c:Crs} (hw:well (Xw pl c)=false):Zao well pl c=(ptZ,12):=by unfold Zao; rw [hw]; split<;>rfl
theorem Zza {well:Pt->Bool} {pl:Int × Int} {c:Crs} (hs:¬ 0<=sgn (crF pl c)*sgn (crG pl c)) (hw:well (Xw pl c)=true) (hd:100000<(Xw pl c).d):Zao well pl c=(ptZ,8):=by unfold Zao; rw [if_neg hs,hw,if_pos rfl,if_pos hd]
theorem Yb6 {well:Pt->Bool} {pl:Int × Int} {c:Crs} (hs:¬ 0<=sgn (crF pl c)*sgn (crG pl c)) (hw:well (Xw pl c)=true) (hd:¬ 100000<(Xw pl c).d):Zao well pl c=(Xw pl c,0):=by unfold Zao; rw [if_neg hs,hw,if_pos rfl,if_neg hd]
abbrev sxC:FuncId->Bool:=fun f=>Qm f 163||Qm f 164||Qm f 167
def r113:List AV->Option PRes
 | [.int .i64 k,.agg [.int .i64 x,.int .i64 y,.int .i64 z,.int .i64 d]]=>some ⟨I (offN k x y z),[]⟩
 | _=>none
def crsA (h:Hal) (s:Stg) (c:Crs):Pt × Int:=if crsE h s c=0 then Zao (Zbd h c.su) (Zf h s c.su) c else (ptZ,crsE h s c)
theorem Ydc (x y z:Int):Vy x y z=if Xs x y z then 0 else 2:=by rw [Zhy]; rfl
theorem c40e {h:Hal} (hk:h.ok) {s:Stg} (hs:s.few) {c:Crs} (hw:c.to.wf) (he:crsE h s c≠0):PCall Tryz.prog 112 [h.av,s.av,c.av] ⟨crAV (ptZ,crsE h s c),[]⟩:=by
 have hk0:=Ze (c109 hk hs c.su) (Ze (c99 hw) Uv)
 by_cases h1:surE h s c.su=0
 ·have e1:crsE h s c=if Xs c.fx c.fy c.fz then Yu c.to else 2:=by
   unfold crsE; rw [if_pos h1,Ydc]
   split
   ·rw [if_pos rfl]
   ·rw [if_neg (by decide)]
  rw [e1] at he ⊢
  rw [h1] at hk0
  cases h2:Xs c.fx c.fy c.fz with
  | false =>
   have hu:unl (Xs c.fx c.fy c.fz) 2=2:=by rw [h2]; rfl
   rw [if_neg (by decide)]
   refine bs.pv (sx:=sxC) hk0 Tryz.func112 (by kernel_rfl) (by kernel_rfl) rfl ?_
   repeat'(first|refine wk1 ?_|(refine wk2 ?_ ?_<;>intro _)|refine wk4 ?_|fail);all_goals(conv=>whnf)
   refine bs.sv (sx:=sxC) hk0 Tryz.func163 (by kernel_rfl) (by kernel_rfl) ?_
   refine Wo 3 ?_
   refine Rq (bs.av (sx:=sxC) hk0 ?_)
   repeat'(first|refine wk1 ?_|(refine wk2 ?_ ?_<;>intro _)|refine wk4 ?_|fail);all_goals(conv=>whnf)
   refine bs.sv (sx:=sxC) hk0 Tryz.func164 (by kernel_rfl) (by kernel_rfl) ?_
   repeat'(first|refine wk1 ?_|(refine wk2 ?_ ?_<;>intro _)|refine wk4 ?_|fail);all_goals(conv=>whnf)
   exact Zg (by rw [hu]; rfl) rfl
  | true =>
   have hu:unl (Xs c.fx c.fy c.fz) 2=0:=by rw [h2]; rfl
   rw [h2,if_pos rfl] at he
   rw [if_pos rfl]
   generalize Yu c.to=pe at *
   refine bs.pv (sx:=sxC) hk0 Tryz.func112 (by kernel_rfl) (by kernel_rfl) rfl ?_
   repeat'(first|refine wk1 ?_|(refine wk2 ?_ ?_<;>intro _)|refine wk4 ?_|fail);all_goals(conv=>whnf)
   refine bs.sv (sx:=sxC) hk0 Tryz.func163 (by kernel_rfl) (by kernel_rfl) ?_
   refine Wo 3 ?_
   refine Rq (bs.av (sx:=sxC) hk0 ?_)
   repeat'(first|refine wk1 ?_|(refine wk2 ?_ ?_<;>intro _)|refine wk4 ?_|fail);all_goals(conv=>whnf)
   refine bs.sv (sx:=sxC) hk0 Tryz.func164 (by kernel_rfl) (by kernel_rfl) ?_
   repeat'(first|refine wk1 ?_|(refine wk2 ?_ ?_<;>intro _)|refine wk4 ?_|fail);all_goals(conv=>whnf)
   refine Rq (bs.av (sx:=sxC) hk0 ?_)
   repeat'(first|refine wk1 ?_|(refine wk2 ?_ ?_<;>intro _)|refine wk4 ?_|fail);all_goals(conv=>whnf)
   refine bs.sv (sx:=sxC) hk0 Tryz.func167 (by kernel_rfl) (by kernel_rfl) ?_
   repeat'(first|refine wk1 ?_|(refine wk2 ?_ ?_<;>intro _)|refine wk4 ?_|fail);all_goals(conv=>whnf)
   exact Zg rfl rfl
 ·have e1:crsE h s c=surE h s c.su:=by unfold crsE; rw [if_neg h1]
  rw [e1]
  refine bs.pv (sx:=sxC) hk0 Tryz.func112 (by kernel_rfl) (by kernel_rfl) rfl ?_
  repeat'(first|refine wk1 ?_|(refine wk2 ?_ ?_<;>intro _)|refine wk4 ?_|fail);all_goals(conv=>whnf)
  exact Zg rfl rfl
theorem Zsk {n:Int} (h : -9000000000000000000<=n/\n<=9000000000000000000):size n=iabs n:=by rw [Zck h]; rfl
theorem c40o {h:Hal} (hk:h.ok) {s:Stg} (hs:s.few) {c:Crs} (hw:c.to.wf) (he:crsE h s c=0):PCall Tryz.prog 112 [h.av,s.av,c.av] ⟨crAV (Zao (Zbd h c.su) (Zf h s c.su) c),[]⟩:=by
 obtain ⟨g,hi,ho,h1,h2,h3⟩:=Zy9 hk hs he
 have h2' : Xs c.fx c.fy c.fz=true:=by
  rw [Ydc] at h2
  cases hx:Xs c.fx c.fy c.fz
  ·rw [hx] at h2; exact absurd h2 (by decide)
  ·rfl
 have hu:unl (Xs c.fx c.fy c.fz) 2=0:=by rw [h2']; rfl
 obtain ⟨f1,f2,f3⟩:=Ydu ho
 obtain ⟨g1,g2⟩:=Ydt ho
 have hk0:=Ze (c109 hk hs c.su) (Ze (c99 hw) Uv)
 rw [h1,h3] at hk0
 have hk0:=Ze (c112 g hi) (Zh (f0:=169) (r:=r113) (fun a res h=>by unfold r113 at h; split at h<;>cases h; exact c113 _ ⟨_,_,_,_⟩) hk0)
 generalize hpl:Zf h s c.su=pl at *
 by_cases hsg:0<=sgn (crF pl c)*sgn (crG pl c)
 ·rw [Zh2 hsg]
  have hs2:0<=Qa Qb (sgn (Qa Qb (offN pl.1 c.fx c.fy c.fz-pl.2))*sgn (Qa Qb (offN pl.1 c.to.x c.to.y c.to.z-Qa Qb (pl.2*c.to.d)))):=by rw [f1,g1,Zia]; exact hsg
  refine bs.pv (sx:=sxC) hk0 Tryz.func112 (by kernel_rfl) (by kernel_rfl) rfl ?_
  repeat'(first|refine wk1 ?_|(refine wk2 ?_ ?_<;>intro _)|refine wk4 ?_|fail);all_goals(conv=>whnf)
  refine bs.sv (sx:=sxC) hk0 Tryz.func163 (by kernel_rfl) (by kernel_rfl) ?_
  refine Wo 3 ?_
  refine Rq (bs.av (sx:=sxC) hk0 ?_)
  repeat'(first|refine wk1 ?_|(refine wk2 ?_ ?_<;>intro _)|refine wk4 ?_|fail);all_goals(conv=>whnf)
  refine bs.sv (sx:=sxC) hk0 Tryz.func164 (by kernel_rfl) (by kernel_rfl) ?_
  repeat'(first|refine wk1 ?_|(refine wk2 ?_ ?_<;>intro _)|refine wk4 ?_|fail);all_goals(conv=>whnf)
  refine Rq (bs.av (sx:=sxC) hk0 ?_)
  repeat'(first|refine wk1 ?_|(refine wk2 ?_ ?_<;>intro _)|refine wk4 ?_|fail);all_goals(conv=>whnf)
  refine bs.sv (sx:=sxC) hk0 Tryz.func167 (by kernel_rfl) (by kernel_rfl) ?_
  repeat'(first|refine wk1 ?_|(refine wk2 ?_ ?_<;>intro _)|refine wk4 ?_|fail);all_goals(conv=>whnf)
  refine Rq (bs.av (sx:=sxC) hk0 ?_)
  repeat'(first|refine wk1 ?_|(refine wk2 ?_ ?_<;>intro _)|refine wk4 ?_|fail);all_goals(conv=>whnf)
  exact Zg rfl rfl
 ·have hs2:¬ 0<=Qa Qb (sgn (Qa Qb (offN pl.1 c.fx c.fy c.fz-pl.2))*sgn (Qa Qb (offN pl.1 c.to.x c.to.y c.to.z-Qa Qb (pl.2*c.to.d)))):=by rw [f1,g1,Zia]; exact hsg
  have hB:=Zbb ho hsg
  have hx:=Zy8 ho (u:=iabs (crG pl c)) (v:=iabs (crF pl c)) (by have:=Zr6 ho hsg; omega) (by have:=Zr6 ho hsg; omega)
  have hcr:Xw pl c=redP (crPt c (iabs (crG pl c)) (iabs (crF pl c))):=rfl
  have hwl:=c118 g hi (Xw pl c)
  have A1:=Yb7 (well:=Zbd h c.su) (pl:=pl) (c:=c)
  have A2:=Zza (well:=Zbd h c.su) hsg
  have A3:=Yb6 (well:=Zbd h c.su) hsg
  generalize Zao (Zbd h c.su) pl c=ans at *
  generalize Zbd h c.su (Xw pl c)=wl at *
  generalize Xw pl c=Q at *
  have su:size (Qa Qb (offN pl.1 c.to.x c.to.y c.to.z-Qa Qb (pl.2*c.to.d)))=iabs (crG pl c):=by rw [g1]; exact Zsk (by omega)
  have sv:size (Qa Qb (offN pl.1 c.fx c.fy c.fz-pl.2))=iabs (crF pl c):=by rw [f1]; exact Zsk (by omega)
  generalize hp:crPt c (iabs (crG pl c)) (iabs (crF pl c))=p at *
  generalize iabs (crF pl c)=v at *
  generalize iabs (crG pl c)=u at *
  have px:c.fx*u+c.to.x*v=p.x:=by rw [<-hp]; rfl
  have py:c.fy*u+c.to.y*v=p.y:=by rw [<-hp]; rfl
  have pz:c.fz*u+c.to.z*v=p.z:=by rw [<-hp]; rfl
  have pd:u+c.to.d*v=p.d:=by rw [<-hp]; rfl
  obtain ⟨x1,x2,x3,x4,x5,x6,x7⟩:=hx
  have hDd:=hB.d
  generalize hA:Qa Qb (offN pl.1 c.fx c.fy c.fz-pl.2)=A at *
  generalize hBb:Qa Qb (offN pl.1 c.to.x c.to.y c.to.z-Qa Qb (pl.2*c.to.d))=B at *
  have q:∀ a b:Int,(-90000000000000<=a*u/\a*u<=90000000000000)->(-50000000000000<=b*v/\b*v<=50000000000000)->Qa Qb (Qa Qb (a*size B)+Qa Qb (b*size A))=a*u+b*v:=by
   intro a b k1 k2
   rw [su,sv]
   rw [W_eq (n:=a*u) (by omega) (by omega),W_eq (n:=b*v) (by omega) (by omega),W_eq (by omega) (by omega)]
  have qd:Qa Qb (size B+Qa Qb (c.to.d*size A))=p.d:=by
   rw [su,sv]
   rw [W_eq (n:=c.to.d*v) (by omega) (by omega),W_eq (by omega) (by omega)]; omega
  obtain ⟨k1,k2,k3,k4,k5,k6,k7,k8⟩:=Yid hB (X:=Qa Qb (Qa Qb (c.fx*size B)+Qa Qb (c.to.x*size A))) (Y:=Qa Qb (Qa Qb (c.fy*size B)+Qa Qb (c.to.y*size A))) (Z:=Qa Qb (Qa Qb (c.fz*size B)+Qa Qb (c.to.z*size A))) (D:=Qa Qb (size B+Qa Qb (c.to.d*size A))) (by rw [q _ _ x1 x4,px]) (by rw [q _ _ x2 x5,py]) (by rw [q _ _ x3 x6,pz]) qd
  rw [<-hcr] at k4 k5 k6 k7
  have hdv:PCall Tryz.prog 173 [.isl 1 (nl [Qa Qb (Qa Qb (c.fx*size B)+Qa Qb (c.to.x*size A)),Qa Qb (Qa Qb (c.fy*size B)+Qa Qb (c.to.y*size A)),Qa Qb (Qa Qb (c.fz*size B)+Qa Qb (c.to.z*size A)),Qa Qb (size B+Qa Qb (c.to.d*size A))])] ⟨I (g4 p:Int),[]⟩:=by
   rw [q _ _ x1 x4,q _ _ x2 x5,q _ _ x3 x6,qd,px,py,pz]
   have hwf:=hB.wf
   have hc:=c117 (ns:=[p.x,p.y,p.z,p.d]) (by simp) (by
    intro n hn
    simp only [Ra,List.not_mem_nil,or_false] at hn
    rcases hn with rfl|rfl|rfl|rfl
    ·exact hwf.x
    ·exact hwf.y
    ·exact hwf.z
    ·exact hwf.d)
   have hg:gl 0 [p.x,p.y,p.z,p.d]=g4 p:=by
    simp only [gl,Nat.gcd_zero_left]
    exact Zl0 _ _ _ _
   rw [hg,W_eq (n:=((g4 p:Nat):Int)) (by omega) (by omega)] at hc
   exact hc
  have hw2:PCall Tryz.prog 174 [.agg (stgL h s),I c.su,P4 (Qa Qb ((Qa Qb (Qa Qb (c.fx*size B)+Qa Qb (c.to.x*size A))).tdiv (g4 p))) (Qa Qb ((Qa Qb (Qa Qb (c.fy*size B)+Qa Qb (c.to.y*size A))).tdiv (g4 p))) (Qa Qb ((Qa Qb (Qa Qb (c.fz*size B)+Qa Qb (c.to.z*size A))).tdiv (g4 p))) (Qa Qb ((Qa Qb (size B+Qa Qb (c.to.d*size A))).tdiv (g4 p)))] ⟨Bo wl,[]⟩:=by
   rw [k4,k5,k6,k7]; exact hwl
  rw [<-hA,<-hBb] at hw2 hdv
  have hk2:=Ze hw2 (Ze hdv hk0)
  clear hw2 hwl hk0 hdv q
  rw [<-hA,<-hBb] at k4 k5 k6 k7 hs2
  clear k1 k2 k3
  refine bs.pv (sx:=sxC) hk2 Tryz.func112 (by kernel_rfl) (by kernel_rfl) rfl ?_
  cases wl with
  | false =>
   rw [A1 rfl]
   repeat'(first|refine wk1 ?_|(refine wk2 ?_ ?_<;>intro _)|refine wk4 ?_|fail);all_goals(conv=>whnf)
   refine bs.sv (sx:=sxC) hk2 Tryz.func163 (by kernel_rfl) (by kernel_rfl) ?_
   refine Wo 3 ?_
   refine Rq (bs.av (sx:=sxC) hk2 ?_)
   repeat'(first|refine wk1 ?_|(refine wk2 ?_ ?_<;>intro _)|refine wk4 ?_|fail);all_goals(conv=>whnf)
   refine bs.sv (sx:=sxC) hk2 Tryz.func164 (by kernel_rfl) (by kernel_rfl) ?_
   repeat'(first|refine wk1 ?_|(refine wk2 ?_ ?_<;>intro _)|refine wk4 ?_|fail);all_goals(conv=>whnf)
   refine Rq (bs.av (sx:=sxC) hk2 ?_)
   repeat'(first|refine wk1 ?_|(refine wk2 ?_ ?_<;>intro _)|refine wk4 ?_|fail);all_goals(conv=>whnf)
   refine bs.sv (sx:=sxC) hk2 Tryz.func167 (by kernel_rfl) (by kernel_rfl) ?_
   repeat'(first|refine wk1 ?_|(refine wk2 ?_ ?_<;>intro _)|refine wk4 ?_|fail);all_goals(conv=>whnf)
   refine Rq (bs.av (sx:=sxC) hk2 ?_)
   repeat'(first|refine wk1 ?_|(refine wk2 ?_ ?_<;>intro _)|refine wk4 ?_|fail);all_goals(conv=>whnf)
   exact Zg rfl rfl
  | true =>
   by_cases hd:100000<Q.d
   ·rw [A2 rfl hd]
    repeat'(first|refine wk1 ?_|(refine wk2 ?_ ?_<;>intro _)|refine wk4 ?_|fail);all_goals(conv=>whnf)
    refine bs.sv (sx:=sxC) hk2 Tryz.func163 (by kernel_rfl) (by kernel_rfl) ?_
    refine Wo 3 ?_
    refine Rq (bs.av (sx:=sxC) hk2 ?_)
    repeat'(first|refine wk1 ?_|(refine wk2 ?_ ?_<;>intro _)|refine wk4 ?_|fail);all_goals(conv=>whnf)
    refine bs.sv (sx:=sxC) hk2 Tryz.func164 (by kernel_rfl) (by kernel_rfl) ?_
    repeat'(first|refine wk1 ?_|(refine wk2 ?_ ?_<;>intro _)|refine wk4 ?_|fail);all_goals(conv=>whnf)
    refine Rq (bs.av (sx:=sxC) hk2 ?_)
    repeat'(first|refine wk1 ?_|(refine wk2 ?_ ?_<;>intro _)|refine wk4 ?_|fail);all_goals(conv=>whnf)
    refine bs.sv (sx:=sxC) hk2 Tryz.func167 (by kernel_rfl) (by kernel_rfl) ?_
    repeat'(first|refine wk1 ?_|(refine wk2 ?_ ?_<;>intro _)|refine wk4 ?_|fail);all_goals(conv=>whnf)
    refine Rq (bs.av (sx:=sxC) hk2 ?_)
    repeat'(first|refine wk1 ?_|(refine wk2 ?_ ?_<;>intro _)|refine wk4 ?_|fail);all_goals(conv=>whnf)
    exact Zg rfl rfl
   ·rw [A3 rfl hd]
    repeat'(first|refine wk1 ?_|(refine wk2 ?_ ?_<;>intro _)|refine wk4 ?_|fail);all_goals(conv=>whnf)
    refine bs.sv (sx:=sxC) hk2 Tryz.func163 (by kernel_rfl) (by kernel_rfl) ?_
    refine Wo 3 ?_
    refine Rq (bs.av (sx:=sxC) hk2 ?_)
    repeat'(first|refine wk1 ?_|(refine wk2 ?_ ?_<;>intro _)|refine wk4 ?_|fail);all_goals(conv=>whnf)
    refine bs.sv (sx:=sxC) hk2 Tryz.func164 (by kernel_rfl) (by kernel_rfl) ?_
    repeat'(first|refine wk1 ?_|(refine wk2 ?_ ?_<;>intro _)|refine wk4 ?_|fail);all_goals(conv=>whnf)
    refine Rq (bs.av (sx:=sxC) hk2 ?_)
    repeat'(first|refine wk1 ?_|(refine wk2 ?_ ?_<;>intro _)|refine wk4 ?_|fail);all_goals(conv=>whnf)
    refine bs.sv (sx:=sxC) hk2 Tryz.func167 (by kernel_rfl) (by kernel_rfl) ?_
    repeat'(first|refine wk1 ?_|(refine wk2 ?_ ?_<;>intro _)|refine wk4 ?_|fail);all_goals(conv=>whnf)
    refine Rq (bs.av (sx:=sxC) hk2 ?_)
    repeat'(first|refine wk1 ?_|(refine wk2 ?_ ?_<;>intro _)|refine wk4 ?_|fail);all_goals(conv=>whnf)
    exact Zg (by rw [k4,k5,k6,k7]) rfl
theorem c40 {h:Hal} (hk:h.ok) {s:Stg} (hs:s.few) {c:Crs} (hw:c.to.wf):PCall Tryz.prog 112 [h.av,s.av,c.av] ⟨crAV (crsA h s c),[]⟩:=by
 unfold crsA
 by_cases he:crsE h s c=0
 ·rw [if_pos he]; exact c40o hk hs hw he
 ·rw [if_neg he]; exact c40e hk hs hw he
theorem Yb8 {h:Hal} {s:Stg} {c:Crs} (g:Sit h s) (hi:SK h c.su) (ho:CrOk (Zf h s c.su) c):Zao (Zbd h c.su) (Zf h s c.su) c=Zao (Zit h c.su) (Zf h s c.su) c:=by
 by_cases hs:0<=sgn (crF (Zf h s c.su) c)*sgn (crG (Zf h s c.su) c)
 ·rw [Zh2 hs,Zh2 hs]
 ·have hb:=(Zbj (Zbb ho hs)).2.2.1
  have e:=Yd6 g hi (p:=Xw (Zf h s c.su) c) hb.ok (Zf3 ho hs)
  unfold Zao
  rw [e]
def Ygc (p:Pt):Prop:=(-(5000*p.d)<=p.x/\p.x<=5000*p.d)/\(-(5000*p.d)<=p.y/\p.y<=5000*p.d)/\(-(5000*p.d)<=p.z/\p.z<=5000*p.d)
theorem Zvy {h:Hal} {w:Wl} {n sx sy:Int} (hs:Str w n sx sy) {p:Pt} (hp:PtOk p.x p.y p.d) (ht:2<=h.ht/\h.ht<=5000) (hpl:valN (plW w).1 p.x p.y p.z=(plW w).2*p.d) (hw:Zno h w p=true):Ygc p:=by
 obtain ⟨x,y,z,d⟩:=p
 dsimp only at hp hpl
 have hd:=hp.hd
 have hD:=hp.hD
 have a1:=Zi hs.b1 hd
 have a2:=Zi hs.b2 hd
 have a3:=Zi hs.b3 hd
 have a4:=Zi hs.b4 hd
 have hz0:=Zi (f:=h.ht) (d:=d) (by omega) hd
 have hz:Qa Qb (h.ht*d)=h.ht*d:=W_eq (by omega) (by omega)
 unfold Zno at hw
 rw [Zmx hs] at hpl
 unfold valN at hpl
 rw [Zd8,Zd8,Zd9,Zd9] at hw
 dsimp only at hw
 rw [hz,Zbu hd,Zbu hd,Zbv hd,Zbv hd] at hw
 rw [W_eq (n:=min (w.fx*d) (w.tx*d)) (by omega) (by omega),W_eq (n:=max (w.fx*d) (w.tx*d)) (by omega) (by omega),W_eq (n:=min (w.fy*d) (w.ty*d)) (by omega) (by omega),W_eq (n:=max (w.fy*d) (w.ty*d)) (by omega) (by omega)] at hw
 have ex:w.tx*d=w.fx*d+sx*(n*d):=by rw [hs.tx]; grind
 have ey:w.ty*d=w.fy*d+sy*(n*d):=by rw [hs.ty]; grind
 have d3:(w.fx+w.fy)*d=w.fx*d+w.fy*d:=by grind
 have d4:(w.fx-w.fy)*d=w.fx*d-w.fy*d:=by grind
 have cnd:(w.fx=w.tx)->sx=0:=by
  intro e
  have:=hs.tx
  have hn:=hs.hn
  have:n*sx=0:=by omega
  rcases Ot.1 this with h|h
  ·omega
  ·exact h
 have nd:0<n*d:=Rk hs.hn hd
 unfold Ygc
 dsimp only
 simp only [Qc,Sb,Bool.or_eq_false_iff,decide_eq_false_iff_not] at hw
 obtain ⟨⟨z1,z2⟩,hw⟩:=hw
 have hxy:=hs.hxy
 split at hw
 ·rename_i c
  have c0:=cnd c
  subst c0
  simp only [Qc,decide_eq_true_eq] at hw
  simp at hpl
  omega
 ·rename_i c
  simp only [Qc,decide_eq_true_eq] at hw
  have hx0:sx≠0:=fun e=>c (by rw [hs.tx,e]; omega)
  rw [if_neg hx0] at hpl
  rcases hs.hy with rfl|rfl|rfl<;>rcases hs.hx with rfl|rfl|rfl
  all_goals simp at hpl hx0
  all_goals omega
theorem Zq6 {h:Hal} {d z n:Int} (hd:0<d) (hn:0<=n/\n<=5000) (e:z=n*d) : -(5000*d)<=z/\z<=5000*d:=by
 have:=Zi (f:=n) (d:=d) (by omega) hd
 omega
theorem Zvs {h:Hal} {s:Stg} (g:Sit h s) {i:Int} (hi:SK h i) {p:Pt} (hp:PtOk p.x p.y p.d) (hpl:valN (Zf h s i).1 p.x p.y p.z=(Zf h s i).2*p.d) (hw:Zbd h i p=true):Ygc p:=by
 have ht:=g.fine.ht
 cases hi with
 | wall k hk =>
  have hk2:k<h.cs.length:=by have:=g.fine.le; omega
  obtain ⟨n,sx,sy,hs⟩:=g.fine.st k hk2
  rw [Za0 hk] at hpl
  rw [Zhf hk] at hw
  exact Zvy hs hp ht hpl hw
 | floor =>
  rw [Zfj] at hw
  rw [Zbl] at hpl
  have hb:=Zlw g.fine.st hp hw
  have hpl:p.z=0*p.d:=hpl
  exact ⟨hb.1,hb.2,Zq6 (h:=h) hp.hd (by omega) hpl⟩
 | ceil =>
  rw [Zhg] at hw
  rw [Zct] at hpl
  have hb:=Zlw g.fine.st hp hw
  have hpl:p.z=h.ht*p.d:=hpl
  exact ⟨hb.1,hb.2,Zq6 (h:=h) hp.hd (by omega) hpl⟩
 | can j hj =>
  rw [Zjd hj] at hw
  rw [Zel] at hpl
  have hpl:p.z=Zcz h s j*p.d:=hpl
  have hg:=Ztd g hj
  have hr:=Zqu (Zh7 g.fine hj).1
  have hd:0<p.d/\p.d<=1000000000000000:=by have:=hp.hd; have:=hp.hD; omega
  have c0:=(Zh7 g.fine hj).1
  generalize h.ks[j]=c at *
  obtain ⟨⟨e1,e2⟩,e3,e4⟩:=Zhp c
  have c1:=Zi c0.b1 hd.1
  have c2:=Zi c0.b2 hd.1
  have c3:=Zi c0.b3 hd.1
  have c4:=Zi c0.b4 hd.1
  rw [Zek hr hd,e1,e2,e3,e4,Zbu hd.1,Zbv hd.1,Zbu hd.1,Zbv hd.1] at hw
  exact ⟨by omega,by omega,Zq6 (h:=h) hp.hd (by omega) hpl⟩
theorem Zru {h:Hal} {s:Stg} (g:Sit h s) {c:Crs} (hi:SK h c.su) (ho:CrOk (Zf h s c.su) c) (e:(Zao (Zbd h c.su) (Zf h s c.su) c).2=0) :
  Yu (Zao (Zbd h c.su) (Zf h s c.su) c).1=0:=by
 unfold Zao at e ⊢
 split at e
 ·cases e
 ·rename_i hs
  split at e
  ·rename_i hw
   split at e
   ·cases e
   ·rename_i hd
    rw [if_neg hs,if_pos hw,if_neg hd]
    have hbig:=Zbb ho hs
    have hb:=(Zbj hbig).2.2.1
    have hn:=Zvs g hi (p:=Xw (Zf h s c.su) c) hb.ok (Zf3 ho hs) hw
    have hg:=Ydf hbig
    unfold Yu
    have hd0:=hb.d.1
    rw [if_neg (by
     intro q
     rcases q with q|q
     ·exact absurd hd0 (Int.not_lt.2 q)
     ·exact q hg),if_neg hd,if_pos]
    unfold ptIn
    obtain ⟨n1,n2,n3⟩:=hn
    simp only [Qc,within_iff]
    exact ⟨⟨n1,n2⟩,n3⟩
  ·cases e
def cdv (n b:Int):Int:=-((-n) / b)
theorem Yij {n b:Int} (hb:0<b):cdv n b=(n+b-1) / b:=by
 unfold cdv
 have h1:=Int.emod_add_mul_ediv (-n) b
 have h2:=Int.emod_nonneg (-n) (b:=b) (by omega)
 have h3:=Int.emod_lt_of_pos (-n) hb
 refine (((Int.ediv_emod_unique hb (r:=b-1-(-n)%b)).2 ⟨?_,by omega,by omega⟩).1).symm
 rw [Sk]
 omega
def scV (lo hi n b:Int):Int × Int:=(lo*n / b,cdv (hi*n) b)
structure ScOk (lo hi n b:Int):Prop where
 b:0<b/\b<=1000000
 l:0<=lo*n/\lo*n<=4000000000000000000
 h:0<=hi*n/\hi*n<=4000000000000000000
theorem d102 {lo hi n b:Int} (k:ScOk lo hi n b):PCall Tryz.prog 121 [P2 lo hi,I n,I b] ⟨P2 (scV lo hi n b).1 (scV lo hi n b).2,[]⟩:=by
 obtain ⟨⟨b0,b1⟩,⟨l0,l1⟩,⟨h0,h1⟩⟩:=k
 have hz:¬ b=0:=by omega
 have w1:Qa Qb (lo*n)=lo*n:=W_eq (by omega) (by omega)
 have w2:Qa Qb (hi*n)=hi*n:=W_eq (by omega) (by omega)
 have q1:=Ly b l0
 have q2:=Tm l0 (show 0<=b by omega)
 have q3:=Ly b (show 0<=hi*n+b-1 by omega)
 have q4:=Tm (show 0<=hi*n+b-1 by omega) (show 0<=b by omega)
 refine bs.pv (sx:=nos) Zb Tryz.func121 (by kernel_rfl) (by kernel_rfl) rfl ?_
 repeat'(first|refine wk3 ?_|(refine wk2 ?_ ?_<;>intro _)|refine wk4 ?_|fail);all_goals(conv=>whnf)
 refine Zg ?_ rfl
 unfold scV
 rw [Yij b0,w1,w2,W_eq (n:=hi*n+b) (by omega) (by omega),W_eq (n:=hi*n+b-1) (by omega) (by omega),Ok l0,Ok (show 0<=hi*n+b-1 by omega),W_eq (n:=lo*n / b) (by omega) (by omega),W_eq (n:=(hi*n+b-1) / b) (by omega) (by omega)]
noncomputable def delV (sq v:Int):Int × Int:=scV (lenV sq).1 (lenV sq).2 100 v
theorem spE_iff {n:Int}:spE n=0↔30000<=n/\n<=40000:=by
 rw [<-within_iff]
 unfold spE
 cases within n 30000 40000<;>simp [unl]
theorem Yhf {sq v:Int} (h0:1<=sq) (h1:sq<=24300000000) (hv:spE v=0):ScOk (lenV sq).1 (lenV sq).2 100 v:=by
 obtain ⟨⟨g1,g2⟩,g3,g4⟩:=Zxk h0 h1
 have:=spE_iff.1 hv
 exact ⟨by omega,by omega,by omega⟩
theorem d100 {p:Pth} {v:Int} (h:pthE p=0) (hv:spE v=0):PCall Tryz.prog 76 [p.av,I v] ⟨P2 (delV p.sq v).1 (delV p.sq v).2,[]⟩:=by
 obtain ⟨_,s1,s2⟩:=Zgi h
 have h1:=Ze (d163 h) (Ze (d102 (Yhf s1 s2 hv)) Zb)
 unfold delV
 generalize scV (lenV p.sq).1 (lenV p.sq).2 100 v=D at *
 generalize lenV p.sq=L at *
 refine bs.pv (sx:=nos) h1 Tryz.func76 (by kernel_rfl) (by kernel_rfl) rfl ?_
 repeat'(first|refine wk3 ?_|(refine wk2 ?_ ?_<;>intro _)|refine wk4 ?_|fail);all_goals(conv=>whnf)
 exact Zg rfl rfl
def okP (e:Int) (v:Int × Int):Int × Int:=if e=0 then v else (0,0)
noncomputable def deE (p:Pth) (v:Int):Int:=fstL [pthE p,spE v]
theorem fst_two {a b:Int}:fstL [a,b]=0↔a=0/\b=0:=by
 simp only [fstL]
 by_cases ha:a=0<;>by_cases hb:b=0<;>simp [ha,hb]
theorem d38 (p:Pth) (v:Int):PCall Tryz.prog 36 [p.av,I v] ⟨.tup [P2 (okP (deE p v) (delV p.sq v)).1 (okP (deE p v) (delV p.sq v)).2,I (deE p v)],[]⟩:=by
 have h1:=d162 p
 have h2:=d99s v
 by_cases c:deE p v=0
 ·obtain ⟨c1,c2⟩:=fst_two.1 c
  have h3:=Ze (d100 c1 c2) (Ze h1 (Ze h2 Zs8))
  rw [show okP (deE p v) (delV p.sq v)=delV p.sq v from if_pos c]
  unfold deE at c ⊢
  generalize delV p.sq v=D at *
  generalize pthE p=E at *
  generalize spE v=F at *
  rw [c]
  subst c1 c2
  refine bs.pv (sx:=nos) h3 Tryz.func36 (by kernel_rfl) (by kernel_rfl) rfl ?_
  repeat'(first|refine wk3 ?_|(refine wk2 ?_ ?_<;>intro _)|refine wk4 ?_|fail);all_goals(conv=>whnf)
  all_goals first|exact Zg rfl rfl|(exfalso; simp_all [fstL,unl]; done)
 ·have h3:=Ze h1 (Ze h2 Zs8)
  rw [show okP (deE p v) (delV p.sq v)=(0,0) from if_neg c]
  unfold deE at c ⊢
  generalize pthE p=E at *
  generalize spE v=F at *
  refine bs.pv (sx:=nos) h3 Tryz.func36 (by kernel_rfl) (by kernel_rfl) rfl ?_
  repeat'(first|refine wk3 ?_|(refine wk2 ?_ ?_<;>intro _)|refine wk4 ?_|fail);all_goals(conv=>whnf)
  all_goals first|exact Zg rfl rfl|(exfalso; simp_all [fstL,unl]; done)
def eqN:List Int->List Int->Bool
 | [],[]=>true
 | x::a,y::b=>decide (x=y)&&eqN a b
 | _,_=>false
theorem Zyt:∀ {a b:List Int},eqN a b=true↔a=b
 | [],[]=>by simp [eqN]
 | x::a,y::b=>by rw [eqN,Qc,decide_eq_true_eq,Zyt]; simp
 | [],y::b=>by simp [eqN]
 | x::a,[]=>by simp [eqN]
theorem d103 {ns:List Int} (h0:0<ns.length) (hl:ns.length<100000):PCall Tryz.prog 37 [.isl 1 (nl ns)] ⟨.asl 0 0 (nl ns).length,[(1,nl ns)]⟩:=by
 obtain ⟨x,l,rfl⟩:=Lz h0
 have h1:=Zof (x::l)
 have h2:=Zl (x::l)
 refine bs.pv (sx:=nos) Zb Tryz.func37 (by kernel_rfl) (by kernel_rfl) rfl ?_
 repeat'(first|refine wk3 ?_|(refine wk2 ?_ ?_<;>intro _)|refine wk4 ?_|fail);all_goals(conv=>whnf)
 refine Xn [1] rfl ?_ rfl
 show AV.asl 1 0 (0+(nl (x::l)).length)=AV.asl 1 0 (nl (x::l)).length
 rw [Sf]
theorem w103 (a:Option Addr) (cap:Nat) (w:World):Calls Tryz.prog 37 #[.slice a 0 cap] w fun e w'=>∃ a' cap',e = .returned (.slice a' 0 cap')/\RowKit.Below w.heap.size w w':=by
 have e:∀ w:World,Sem.run Tryz.prog (binOp BinOp.eql 29 (Mw a 0 cap) (Mw none 0 0)) w = .ok (.bool a.isNone) w:=by
  intro w
  cases a<;>rfl
 cases a with
 | none =>
  simp only [Jt] at e
  go_enter Tryz.func37,Tryz.ntmps37
  go_wp2
  go_ret
  exact ⟨_,_,rfl,Dc _ _⟩
 | some a =>
  simp only [Jt] at e
  go_enter Tryz.func37,Tryz.ntmps37
  go_wp2
  go_ret
  exact ⟨_,_,rfl,Zkr _ _⟩
theorem Yic:PCall Tryz.prog 37 [.isl 1 []] ⟨.isl 1 [],[]⟩:=Zoc (FnOK.of Tryz.func37 (by kernel_rfl) (by kernel_rfl)) w103
theorem Zw6 (l:List (Int × Int × Int × Int)):Vn (l.map hp4)=true:=by simp [Vn,AV.one]
theorem d104 {ps:List (Int × Int × Int × Int)} (h0:0<ps.length) (hl:ps.length<100000):PCall Tryz.prog 114 [.isl 4 (ps.map hp4)] ⟨.asl 0 0 (ps.map hp4).length,[(4,ps.map hp4)]⟩:=by
 obtain ⟨x,l,rfl⟩:=Lz h0
 have h1:=Zw6 (x::l)
 have h2:((x::l).map hp4).length=(x::l).length:=by simp
 refine bs.pv (sx:=nos) Zb Tryz.func114 (by kernel_rfl) (by kernel_rfl) rfl ?_
 repeat'(first|refine wk3 ?_|(refine wk2 ?_ ?_<;>intro _)|refine wk4 ?_|fail);all_goals(conv=>whnf)
 refine Xn [1] rfl ?_ rfl
 show AV.asl 1 0 (0+((x::l).map hp4).length)=AV.asl 1 0 ((x::l).map hp4).length
 rw [Sf]
theorem w104 (a:Option Addr) (cap:Nat) (w:World):Calls Tryz.prog 114 #[.slice a 0 cap] w fun e w'=>∃ a' cap',e = .returned (.slice a' 0 cap')/\RowKit.Below w.heap.size w w':=by
 have e:∀ w:World,Sem.run Tryz.prog (binOp BinOp.eql 73 (Mw a 0 cap) (Mw none 0 0)) w = .ok (.bool a.isNone) w:=by
  intro w
  cases a<;>rfl
 cases a with
 | none =>
  simp only [Jt] at e
  go_enter Tryz.func114,Tryz.ntmps114
  go_wp2
  go_ret
  exact ⟨_,_,rfl,Dc _ _⟩
 | some a =>
  simp only [Jt] at e
  go_enter Tryz.func114,Tryz.ntmps114
  go_wp2
  go_ret
  exact ⟨_,_,rfl,Zkr _ _⟩
theorem Yi6:PCall Tryz.prog 114 [.isl 4 []] ⟨.isl 4 [],[]⟩:=Zoc (FnOK.of Tryz.func114 (by kernel_rfl) (by kernel_rfl)) w104
def trV (p:Pth):Pth:=⟨p.ss.reverse,p.ps.reverse,p.sq⟩
abbrev Pl3:=Int × Int × Int
def plcB (x y z:Int):Bool:=within x (-5000) 5000&&within y (-5000) 5000&&within z (-5000) 5000
def plaE (h:Hal) (x y z:Int):Int:=if plcB x y z=true then unl (Zai h ⟨x,y,z,1⟩) 24 else 2
theorem d123 (x y z:Int):PCall Tryz.prog 107 [P3 x y z] ⟨P4 x y z 1,[]⟩:=by
 refine bs.pv (sx:=nos) Zb Tryz.func107 (by kernel_rfl) (by kernel_rfl) rfl ?_
 repeat'(first|refine wk3 ?_|(refine wk2 ?_ ?_<;>intro _)|refine wk4 ?_|fail);all_goals(conv=>whnf)
 all_goals exact Zg rfl rfl
theorem d83 (n:Int):PCall Tryz.prog 82 [I n] ⟨Bo (within n (-5000) 5000),[]⟩:=by
 refine bs.pv (sx:=nos) (Ze (c30 n (-5000) 5000) Zb) Tryz.func82 (by kernel_rfl) (by kernel_rfl) rfl ?_
 repeat'(first|refine wk3 ?_|(refine wk2 ?_ ?_<;>intro _)|refine wk4 ?_|fail);all_goals(conv=>whnf)
 exact Zd rfl
theorem d81 (n:Int):PCall Tryz.prog 67 [I n] ⟨I (unl (within n 0 4) 2),[]⟩:=by
 refine bs.pv (sx:=nos) (Ze (d210 n 0 4) (Ze (d209 (within n 0 4) 2) Zb)) Tryz.func67 (by kernel_rfl) (by kernel_rfl) rfl ?_
 repeat'(first|refine wk3 ?_|(refine wk2 ?_ ?_<;>intro _)|refine wk4 ?_|fail);all_goals(conv=>whnf)
 exact Za rfl
theorem d68 (n:Int):PCall Tryz.prog 43 [I n] ⟨I (unl (within n 0 4) 2),[]⟩:=by
 refine bs.pv (sx:=nos) (Ze (c30 n 0 4) Zb) Tryz.func43 (by kernel_rfl) (by kernel_rfl) rfl ?_
 repeat'(first|refine wk3 ?_|(refine wk2 ?_ ?_<;>intro _)|refine wk4 ?_|fail);all_goals(conv=>whnf)
 all_goals exact Za (by simp_all [unl])
theorem Zsj (n:Int):small n 5000=within n (-5000) 5000:=rfl
theorem Yg7 {x y z:Int} (c:plcB x y z=true):Yu ⟨x,y,z,1⟩=0:=by
 simp only [plcB,Qc,within_iff] at c
 have hg:g4 ⟨x,y,z,1⟩=1:=by
  simp [g4]
 unfold Yu
 rw [if_neg (by simp [hg]),if_neg (by simp),if_pos]
 unfold ptIn
 simp only [Qc,within_iff]
 simp
 omega
def r86:List AV->Option PRes
 | [.int .i64 n,.int .i64 m]=>some ⟨Bo (small n m),[]⟩
 | _=>none
theorem Ygx {pt:PC} (h:PCOK Tryz.prog pt):PCOK Tryz.prog (ins 105 r86 pt):=Zh (fun a res h=>by unfold r86 at h; split at h<;>cases h; exact d86 _ _) h
def r83:List AV->Option PRes
 | [.int .i64 n]=>some ⟨Bo (within n (-5000) 5000),[]⟩
 | _=>none
theorem Ygy {pt:PC} (h:PCOK Tryz.prog pt):PCOK Tryz.prog (ins 82 r83 pt):=Zh (fun a res h=>by unfold r83 at h; split at h<;>cases h; exact d83 _) h
theorem d79 {h:Hal} (hk:h.ok) (he:h.err=0) (x y z:Int):PCall Tryz.prog 65 [h.av,P3 x y z] ⟨I (plaE h x y z),[]⟩:=by
 have hk0:=Ygx (Ze (d123 x y z) Zb)
 by_cases c:plcB x y z=true
 ·have hp:=Yg7 c
  have hi:insE h ⟨x,y,z,1⟩=0:=by unfold insE; rw [if_pos he,hp]
  have hw:Pt.wf ⟨x,y,z,1⟩:=by
   simp only [plcB,Qc,within_iff] at c
   refine ⟨⟨?_,?_⟩,⟨?_,?_⟩,⟨?_,?_⟩,⟨?_,?_⟩⟩<;>dsimp only<;>omega
  have h50:=c50 hk hw
  rw [hi] at h50
  unfold plaE
  rw [if_pos c]
  generalize Zai h ⟨x,y,z,1⟩=b at *
  have hk1:=Ze h50 (Ze (d209 b 24) hk0)
  simp only [plcB,Qc,<-Zsj] at c
  refine bs.pv (sx:=nos) hk1 Tryz.func65 (by kernel_rfl) (by kernel_rfl) rfl ?_
  repeat'(first|refine wk3 ?_|(refine wk2 ?_ ?_<;>intro _)|refine wk4 ?_|fail);all_goals(conv=>whnf)
  all_goals first
   | exact Za rfl
   | (exfalso; clear hk1 h50 hk0 hp hi; simp_all; done)
 ·unfold plaE
  rw [if_neg c]
  simp only [plcB,<-Zsj] at c
  refine bs.pv (sx:=nos) hk0 Tryz.func65 (by kernel_rfl) (by kernel_rfl) rfl ?_
  repeat'(first|refine wk3 ?_|(refine wk2 ?_ ?_<;>intro _)|refine wk4 ?_|fail);all_goals(conv=>whnf)
  all_goals first
   | exact Za rfl
   | (exfalso; clear hk0; simp_all; done)
theorem d27 {h:Hal} (hk:h.ok) (he:h.err=0) (x y z:Int):PCall Tryz.prog 42 [h.av,P3 x y z] ⟨I (plaE h x y z),[]⟩:=by
 have hf:=Zkf hk he
 have hk0:=Ze (c52 hk.f hf.le.2.2.1 (Yg9 hf.st) ⟨x,y,z,1⟩) (Ygy (Ze (c36 x y z) Zb))
 unfold plaE plcB
 generalize Zai h ⟨x,y,z,1⟩=b at *
 refine bs.pv (sx:=nos) hk0 Tryz.func42 (by kernel_rfl) (by kernel_rfl) rfl ?_
 repeat'(first|refine wk3 ?_|(refine wk2 ?_ ?_<;>intro _)|refine wk4 ?_|fail);all_goals(conv=>whnf)
 all_goals clear hk0
 all_goals exact Za (by simp_all [unl])
abbrev pl3 (p:Pl3):List AV:=[I p.1,I p.2.1,I p.2.2]
def im1 (h:Hal) (s:Stg) (n:Int) (p:Pl3):Pl3:=rmir (Zf h s n).1 (Zf h s n).2 p.1 p.2.1 p.2.2
def imA (f:Int->Pl3->Pl3) (p:Pl3) (l:List Int) (k:Nat):Pl3:=(l.take k).foldl (fun q n=>f n q) p
theorem Ztb (f:Int->Pl3->Pl3) (p:Pl3) {l:List Int} {k:Nat} (hk:k<l.length):imA f p l (k+1)=f l[k] (imA f p l k):=by
 unfold imA
 rw [List.take_succ_eq_append_getElem hk,List.foldl_append]
 rfl
def imC (f:Int->Pl3->Pl3) (p:Pl3) (l:List Int) (k:Nat):List (List AV):=(List.range (k+1)).map fun j=>pl3 (imA f p l j)
theorem Zka (f:Int->Pl3->Pl3) (p:Pl3) (l:List Int) (k:Nat):(imC f p l k).length=k+1:=by simp [imC]
theorem Zm5 (f:Int->Pl3->Pl3) (p:Pl3) (l:List Int) (k:Nat):(imC f p l k)[k]?=some (pl3 (imA f p l k)):=by simp [imC]
theorem Ybo (f:Int->Pl3->Pl3) (p:Pl3) (l:List Int) (k:Nat):imC f p l (k+1)=imC f p l k++[pl3 (imA f p l (k+1))]:=by
 unfold imC
 rw [List.range_succ,List.map_append]
 rfl
theorem Ya3 {h:Hal} {s:Stg} (g:Sit h s) {i:Int} (hi:SK h i):(Zf h s i).1<=2->(-5000<=(Zf h s i).2/\(Zf h s i).2<=5000):=by
 have ht:=g.fine.ht
 cases hi with
 | wall k hk =>
  have hk2:k<h.cs.length:=by have:=g.fine.le; omega
  obtain ⟨n,sx,sy,hs⟩:=g.fine.st k hk2
  rw [Za0 hk,Zmx hs]
  have:=hs.b1
  have:=hs.b2
  repeat' split
  all_goals (dsimp only; omega)
 | floor=>rw [Zbl]; dsimp only; omega
 | ceil=>rw [Zct]; dsimp only; omega
 | can j hj =>
  rw [Zel]
  have:=Ztd g hj
  dsimp only; omega
def Near (m:Int) (p:Pl3):Prop:=(-m<=p.1/\p.1<=m)/\(-m<=p.2.1/\p.2.1<=m)/\(-m<=p.2.2/\p.2.2<=m)
theorem Zbp {h:Hal} {s:Stg} (g:Sit h s) {i:Int} (hi:SK h i) {m:Int} (hm:m<=35000) {p:Pl3} (hp:Near m p):Near (m+10000) (im1 h s i p)/\Vp (Zf h s i).1 (Zf h s i).2 p.1 p.2.1 p.2.2=0/\mirP (Zf h s i).1 (Zf h s i).2 p.1 p.2.1 p.2.2=im1 h s i p:=by
 have b:=Zcs g hi
 have b2:=Ya3 g hi
 obtain ⟨x,y,z⟩:=p
 obtain ⟨hx,hy,hz⟩:=hp
 dsimp only at hx hy hz
 unfold im1
 generalize (Zf h s i).1=k at *
 generalize (Zf h s i).2=a at *
 have key:Near (m+10000) (rmir k a x y z):=by
  unfold rmir Near
  have w2:Qa Qb (2*a)=2*a:=W_eq (by omega) (by omega)
  by_cases k0:k=0
  ·subst k0; have:=b2 (by omega); simp only [if_pos]; rw [w2,W_eq (by omega) (by omega)]; omega
  by_cases k1:k=1
  ·subst k1; have:=b2 (by omega); simp; rw [w2,W_eq (by omega) (by omega)]; omega
  by_cases k2:k=2
  ·subst k2; have:=b2 (by omega); simp; rw [w2,W_eq (by omega) (by omega)]; omega
  by_cases k3:k=3
  ·subst k3; simp; rw [W_eq (by omega) (by omega),W_eq (by omega) (by omega)]; omega
  have k4:k=4:=by omega
  subst k4; simp; rw [W_eq (by omega) (by omega),W_eq (by omega) (by omega)]; omega
 have e:=Zui b.1 b.2 (x:=x) (y:=y) (z:=z) (by omega) (by omega) (by omega) (u:=(rmir k a x y z).1) (v:=(rmir k a x y z).2.1) (w:=(rmir k a x y z).2.2) rfl
  (by have:=key.1; omega) (by have:=key.2.1; omega) (by have:=key.2.2; omega)
 refine ⟨key,by rw [Zol]; exact e,?_⟩
 rw [Ye4]
 unfold Yel
 rw [if_pos e]
theorem Zm6 {h:Hal} {s:Stg} (g:Sit h s) {p:Pl3} (hp:Near 5000 p) {l:List Int} (hl:l.length<=4) (hi:∀ n∈l,SK h n):∀ k,k<=l.length->Near (5000+10000*k) (imA (im1 h s) p l k)
 | 0,_=>by simpa [imA] using hp
 | k+1,hk=>by
  rw [Ztb _ _ (by omega)]
  have:=(Zbp g (hi l[k] (List.getElem_mem _)) (m:=5000+10000*k) (by omega) (Zm6 g hp hl hi k (by omega))).1
  rw [show (5000:Int)+10000*((k+1:Nat):Int)=5000+10000*k+10000 by omega]
  exact this
end Go.Proofs.YtfkdpbklbegnlaaGreat
