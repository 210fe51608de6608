/- A part of the proof: lemmas. -/
import Derived.Test.YtipbliclbihaeaaGreatA12
import Derived.Test.YtipbliclbihaeaaGreatA9
import Derived.Test.YtipbliclbihaeaaGreatA11
import Derived.Laws.Bits64b
import Derived.Lib.Mul64
set_option linter.unusedVariables false
set_option linter.unusedSimpArgs false
set_option maxRecDepth 100000
set_option maxHeartbeats 16000000
open BitVec renaming ofInt->Sc
open Bool renaming and_eq_true->Qc,false_or->Ww,or_eq_false_iff->Oz,or_eq_true->Qu
open Go.IntKind renaming i64->Qb,u64->Rk,wrap->Qa,wrap_i64->Sq,wrap_u64->Jg
open Go.Lib renaming half_mul_le->Kd
open Go.Sx.AV.int renaming injEq->Sj
open Go.Sx.Done renaming mk->Qn
open Go.Sx.LpM renaming start->Tt,succ->Rn
open Int renaming emod_lt_of_pos->Nv,emod_nonneg->Lj,eq_ofNat_of_zero_le->Jh,le_of_lt->Qq,lt_trichotomy->Sv,mul_comm->Ra,mul_ediv_add_emod->Mn,mul_le_mul_of_nonneg_left->Rd,mul_le_mul_of_nonneg_right->Qi,mul_lt_mul_of_pos_right->Tk,mul_neg->Rv,mul_neg_of_neg_of_pos->Kg,mul_neg_of_pos_of_neg->Pw,mul_nonneg->Qw,mul_pos->Re,mul_zero->Sm,neg_mul->Tp,toNat->Sy
open List renaming any_cons->Oe,getElem?_eq_getElem->Qg,mem_cons->Qz,mem_map->Oa
open List.cons renaming injEq->Qv
open Nat renaming beq->Qm
namespace Go.Proofs.YtipbliclbihaeaaGreat
open Go Go.Sx
def Ybs (p:Pt):Prop:=(-(5000*p.d)<=p.x/\p.x<=5000*p.d)/\(-(5000*p.d)<=p.y/\p.y<=5000*p.d)/\(-(5000*p.d)<=p.z/\p.z<=5000*p.d)
theorem Zs2 {h:Hal} {w:Wl} {n sx sy:Int} (hs:Str w n sx sy) {p:Pt} (hp:PtOk p.x p.y p.d) (ht:2<=h.ht/\h.ht<=5000) (hpl:valN (plW w).1 p.x p.y p.z=(plW w).2*p.d) (hw:Zl1 h w p=true):Ybs p:=by
 obtain ⟨x,y,z,d⟩:=p
 dsimp only at hp hpl
 have hd:=hp.hd
 have hD:=hp.hD
 have a1:=Zj hs.b1 hd
 have a2:=Zj hs.b2 hd
 have a3:=Zj hs.b3 hd
 have a4:=Zj hs.b4 hd
 have hz0:=Zj (f:=h.ht) (d:=d) (by omega) hd
 have hz:Qa Qb (h.ht*d)=h.ht*d:=W_eq (by omega) (by omega)
 unfold Zl1 at hw
 rw [Zk9 hs] at hpl
 unfold valN at hpl
 rw [Uy,Uy,Uz,Uz] at hw
 dsimp only at hw
 rw [hz,Zbe hd,Zbe hd,Zbf hd,Zbf hd] at hw
 rw [W_eq (n:=min (w.fx*d) (w.tx*d)) (by omega) (by omega),W_eq (n:=max (w.fx*d) (w.tx*d)) (by omega) (by omega),W_eq (n:=min (w.fy*d) (w.ty*d)) (by omega) (by omega),W_eq (n:=max (w.fy*d) (w.ty*d)) (by omega) (by omega)] at hw
 have ex:w.tx*d=w.fx*d+sx*(n*d):=by rw [hs.tx]; grind
 have ey:w.ty*d=w.fy*d+sy*(n*d):=by rw [hs.ty]; grind
 have d3:(w.fx+w.fy)*d=w.fx*d+w.fy*d:=by grind
 have d4:(w.fx-w.fy)*d=w.fx*d-w.fy*d:=by grind
 have cnd:(w.fx=w.tx)->sx=0:=by
  intro e
  have:=hs.tx
  have hn:=hs.hn
  have:n*sx=0:=by omega
  rcases Int.mul_eq_zero.1 this with h|h
  ·omega
  ·exact h
 have nd:0<n*d:=Re hs.hn hd
 unfold Ybs
 dsimp only
 simp only [Qc,Bool.not_eq_true',Oz,decide_eq_false_iff_not] at hw
 obtain ⟨⟨z1,z2⟩,hw⟩:=hw
 have hxy:=hs.hxy
 split at hw
 ·rename_i c
  have c0:=cnd c
  subst c0
  simp only [Qc,decide_eq_true_eq] at hw
  simp at hpl
  omega
 ·rename_i c
  simp only [Qc,decide_eq_true_eq] at hw
  have hx0:sx≠0:=fun e=>c (by rw [hs.tx,e]; omega)
  rw [if_neg hx0] at hpl
  rcases hs.hy with rfl|rfl|rfl<;>rcases hs.hx with rfl|rfl|rfl
  all_goals simp at hpl hx0
  all_goals omega
theorem Zo7 {h:Hal} {d z n:Int} (hd:0<d) (hn:0<=n/\n<=5000) (e:z=n*d) : -(5000*d)<=z/\z<=5000*d:=by
 have:=Zj (f:=n) (d:=d) (by omega) hd
 omega
theorem Zsx {h:Hal} {s:Stg} (g:Sit h s) {i:Int} (hi:SK h i) {p:Pt} (hp:PtOk p.x p.y p.d) (hpl:valN (Zb h s i).1 p.x p.y p.z=(Zb h s i).2*p.d) (hw:Za1 h i p=true):Ybs p:=by
 have ht:=g.fine.ht
 cases hi with
 | wall k hk =>
  have hk2:k<h.cs.length:=by have:=g.fine.le; omega
  obtain ⟨n,sx,sy,hs⟩:=g.fine.st k hk2
  rw [Ug hk] at hpl
  rw [Zgb hk] at hw
  exact Zs2 hs hp ht hpl hw
 | floor =>
  rw [Zen] at hw
  rw [Ur] at hpl
  have hb:=Zkm g.fine.st hp hw
  have hpl:p.z=0*p.d:=hpl
  exact ⟨hb.1,hb.2,Zo7 (h:=h) hp.hd (by omega) hpl⟩
 | ceil =>
  rw [Zgc] at hw
  rw [Zap] at hpl
  have hb:=Zkm g.fine.st hp hw
  have hpl:p.z=h.ht*p.d:=hpl
  exact ⟨hb.1,hb.2,Zo7 (h:=h) hp.hd (by omega) hpl⟩
 | can j hj =>
  rw [Zh0 hj] at hw
  rw [Zbm] at hpl
  have hpl:p.z=Vx h s j*p.d:=hpl
  have hg:=Zqv g hj
  have hr:=Zov (Ze7 g.fine hj).1
  have hd:0<p.d/\p.d<=1000000000000000:=by have:=hp.hd; have:=hp.hD; omega
  have c0:=(Ze7 g.fine hj).1
  generalize h.ks[j]=c at *
  obtain ⟨⟨e1,e2⟩,e3,e4⟩:=Zet c
  have c1:=Zj c0.b1 hd.1
  have c2:=Zj c0.b2 hd.1
  have c3:=Zj c0.b3 hd.1
  have c4:=Zj c0.b4 hd.1
  rw [Zdq hr hd,e1,e2,e3,e4,Zbe hd.1,Zbf hd.1,Zbe hd.1,Zbf hd.1] at hw
  exact ⟨by omega,by omega,Zo7 (h:=h) hp.hd (by omega) hpl⟩
theorem Zpn {h:Hal} {s:Stg} (g:Sit h s) {c:Crs} (hi:SK h c.su) (ho:CrOk (Zb h s c.su) c) (e:(Ul (Za1 h c.su) (Zb h s c.su) c).2=0) :
  Yu (Ul (Za1 h c.su) (Zb h s c.su) c).1=0:=by
 unfold Ul at e ⊢
 split at e
 ·cases e
 ·rename_i hs
  split at e
  ·rename_i hw
   split at e
   ·cases e
   ·rename_i hd
    rw [if_neg hs,if_pos hw,if_neg hd]
    have hbig:=Zax ho hs
    have hb:=(Zb6 hbig).2.2.1
    have hn:=Zsx g hi (p:=Xk (Zb h s c.su) c) hb.ok (Ze6 ho hs) hw
    have hg:=Yc3 hbig
    unfold Yu
    have hd0:=hb.d.1
    rw [if_neg (by
     intro q
     rcases q with q|q
     ·exact absurd hd0 (Int.not_lt.2 q)
     ·exact q hg),if_neg hd,if_pos]
    unfold ptIn
    obtain ⟨n1,n2,n3⟩:=hn
    simp only [Qc,within_iff]
    exact ⟨⟨n1,n2⟩,n3⟩
  ·cases e
def atW (c:Int × Int) (l m:Int):Int:=l*c.1+m*c.2
def Ziz (cs:List (Int × Int)):Prop:=∃ l m:Int,0<l/\0<m/\∀ c∈cs,0<=atW c l m
theorem Ydn {l0 m0:Int} (h1:0<l0) (h2:0<m0) {l m:Int} (hl:0<l) (hm:0<m):∀ cs:List (Int × Int),(∀ c∈cs,0<=atW c l m)->∃ a b:Int,0<a/\0<b/\(∀ c∈cs,0<=atW c a b)/\((a=l0/\b=m0)\/∃ c∈cs,atW c a b=0)
 | [],_=>⟨l0,m0,h1,h2,by simp,.inl ⟨rfl,rfl⟩⟩
 | c::cs,h=>by
  obtain ⟨a,b,ha,hb,k1,k2⟩:=Ydn h1 h2 hl hm cs fun c' hc=>h c' (by simp [hc])
  have hT:=h c (by simp)
  by_cases hc:0<=atW c a b
  ·refine ⟨a,b,ha,hb,fun c' hc'=>?_,?_⟩
   ·rcases Qz.1 hc' with rfl|hc'
    ·exact hc
    ·exact k1 c' hc'
   ·rcases k2 with k2|⟨c',g1,g2⟩
    ·exact .inl k2
    ·exact .inr ⟨c',by simp [g1],g2⟩
  ·have hN:0 < -atW c a b:=by omega
   have comb:∀ c' : Int × Int,atW c' (-atW c a b*l+atW c l m*a) (-atW c a b*m+atW c l m*b) = -atW c a b*atW c' l m+atW c l m*atW c' a b:=by
    intro c'
    generalize atW c a b=N
    generalize atW c l m=T
    unfold atW; grind
   refine ⟨-atW c a b*l+atW c l m*a,-atW c a b*m+atW c l m*b,?_,?_,fun c' hc'=>?_,.inr ⟨c,by simp,?_⟩⟩
   ·have:=Re hN hl
    have:=Qw hT (Qq ha)
    omega
   ·have:=Re hN hm
    have:=Qw hT (Qq hb)
    omega
   ·rw [comb]
    rcases Qz.1 hc' with rfl|hc'
    ·have : -atW c' a b*atW c' l m+atW c' l m*atW c' a b=0:=by grind
     omega
    ·have:=Qw (Qq hN) (h c' (by simp [hc']))
     have:=Qw hT (k1 c' hc')
     omega
   ·rw [comb]; grind
def Yi:List (Int × Int)->Int->Int->Int->Int->Bool
 | [],n,d,m,k=>decide (cmpQ n d m k<=0)&&decide (cmpQ n d 1 1<0)&&decide (0<cmpQ m k 0 1)
 | (a,v)::l,n,d,m,k =>
  if v=0/\a<0 then false
  else if 0<v/\0<cmpQ (-a) v n d then Yi l (-a) v m k
  else if v<0/\cmpQ a (-v) m k<0 then Yi l n d a (-v)
  else Yi l n d m k
theorem Zf1:∀ (cs:List (Int × Int)) (n d m k:Int),0<d->0<k->0<=n->m<=k->(Yi cs n d m k=true↔∃ T D:Int,0<T/\T<D/\n*D<=T*d/\T*k<=m*D/\∀ c∈cs,0<=c.1*D+T*c.2)
 | [],n,d,m,k,hd,hk,hn,hm=>by
  unfold Yi cmpQ
  rw [Qc,Qc,decide_eq_true_eq,decide_eq_true_eq,decide_eq_true_eq,Zp8,Xb,Xa]
  constructor
  ·rintro ⟨⟨h1,h2⟩,h3⟩
   have hm0:0<m:=by omega
   have p1:=Re hm0 hd
   have p2:=Qw hn (Qq hk)
   have p3:=Tk (show n<d by omega) hk
   have p4:=Qi hm (Qq hd)
   have e1:k*d=d*k:=Ra _ _
   refine ⟨n*k+m*d,2*(d*k),by omega,by omega,?_,?_,by simp⟩
   ·have:(n*k+m*d)*d-n*(2*(d*k))=d*(m*d-n*k):=by grind
    have:=Qw (Qq hd) (show 0<=m*d-n*k by omega)
    omega
   ·have:m*(2*(d*k))-(n*k+m*d)*k=k*(m*d-n*k):=by grind
    have:=Qw (Qq hk) (show 0<=m*d-n*k by omega)
    omega
  ·rintro ⟨T,D,h1,h2,h3,h4,_⟩
   have hD:0<D:=by omega
   refine ⟨⟨?_,?_⟩,?_⟩
   ·have q1:=Qi h3 (Qq hk)
    have q2:=Qi h4 (Qq hd)
    have e:D*(n*k-m*d)=n*D*k-m*D*d:=by grind
    have e2:T*d*k=T*k*d:=by grind
    have:=(np_l hD).1 (show D*(n*k-m*d)<=0 by omega)
    omega
   ·have q:=Tk h2 hd
    have e:D*(n-d)=n*D-D*d:=by grind
    have:=(Zb8 hD).1 (show D*(n-d)<0 by omega)
    omega
   ·have q:=Re h1 hk
    have e:D*m=m*D:=Ra _ _
    have:=(Za2 hD).1 (show 0<D*m by omega)
    omega
 | (a,v)::l,n,d,m,k,hd,hk,hn,hm=>by
  rw [Yi]
  by_cases c1:v=0/\a<0
  ·rw [if_pos c1]
   constructor
   ·intro h; simp at h
   ·rintro ⟨T,D,h1,h2,_,_,h5⟩
    have:=h5 (a,v) (by simp)
    dsimp only at this
    rw [c1.1,Sm] at this
    have:=Kg c1.2 (show 0<D by omega)
    omega
  rw [if_neg c1]
  unfold cmpQ
  simp only [Xa,Xb]
  by_cases c2:0<v/\0 < -a*d-n*v
  ·rw [if_pos c2]
   have q1:=Qw hn (Qq c2.1)
   have hna:0 < -a:=by
    have:0<d * -a:=by rw [Ra]; omega
    exact (Za2 hd).1 this
   rw [Zf1 l (-a) v m k c2.1 hk (by omega) hm]
   constructor
   ·rintro ⟨T,D,h1,h2,h3,h4,h5⟩
    refine ⟨T,D,h1,h2,?_,h4,fun c hc=>?_⟩
    ·have r1:=Qi h3 (Qq hd)
     have r2:=Qi (show n*v <= -a*d by omega) (show 0<=D by omega)
     have e1 : -a*d*D = -a*D*d:=by grind
     have e2:v*(n*D-T*d)=n*v*D-T*v*d:=by grind
     have:=(np_l c2.1).1 (show v*(n*D-T*d)<=0 by omega)
     omega
    ·rcases Qz.1 hc with rfl|hc
     ·dsimp only
      have : -a*D = -(a*D):=Tp _ _
      omega
     ·exact h5 c hc
   ·rintro ⟨T,D,h1,h2,h3,h4,h5⟩
    refine ⟨T,D,h1,h2,?_,h4,fun c hc=>h5 c (by simp [hc])⟩
    have:=h5 (a,v) (by simp)
    dsimp only at this
    have : -a*D = -(a*D):=Tp _ _
    omega
  rw [if_neg c2]
  by_cases c3:v<0/\a*k-m * -v<0
  ·rw [if_pos c3]
   have hv:0 < -v:=by omega
   have q1:=Qi hm (Qq hv)
   have hav:a <= -v:=by
    have:k*(a - -v)<0:=by
     have e:k*(a - -v)=a*k-k * -v:=by grind
     omega
    have:=(Zb8 hk).1 this
    omega
   rw [Zf1 l n d a (-v) hd hv hn hav]
   constructor
   ·rintro ⟨T,D,h1,h2,h3,h4,h5⟩
    refine ⟨T,D,h1,h2,h3,?_,fun c hc=>?_⟩
    ·have r1:=Qi h4 (Qq hk)
     have r2:=Qi (show a*k<=m * -v by omega) (show 0<=D by omega)
     have e1:a*D*k=a*k*D:=by grind
     have e2 : -v*(T*k-m*D)=T * -v*k-m * -v*D:=by grind
     have:=(np_l hv).1 (show -v*(T*k-m*D)<=0 by omega)
     omega
    ·rcases Qz.1 hc with rfl|hc
     ·dsimp only
      have:T * -v = -(T*v):=Rv _ _
      omega
     ·exact h5 c hc
   ·rintro ⟨T,D,h1,h2,h3,h4,h5⟩
    refine ⟨T,D,h1,h2,h3,?_,fun c hc=>h5 c (by simp [hc])⟩
    have:=h5 (a,v) (by simp)
    dsimp only at this
    have:T * -v = -(T*v):=Rv _ _
    omega
  rw [if_neg c3,Zf1 l n d m k hd hk hn hm]
  constructor
  ·rintro ⟨T,D,h1,h2,h3,h4,h5⟩
   refine ⟨T,D,h1,h2,h3,h4,fun c hc=>?_⟩
   rcases Qz.1 hc with rfl|hc
   ·dsimp only
    have hD:0<D:=by omega
    rcases Sv v 0 with hv|hv|hv
    ·have hx:m * -v<=a*k:=by omega
     have r1:=Qi h4 (show 0 <= -v by omega)
     have r2:=Qi hx (Qq hD)
     have e1:m*D * -v=m * -v*D:=by grind
     have e2:k*(a*D+T*v)=a*k*D-T*k * -v:=by grind
     exact (nn_l hk).1 (show 0<=k*(a*D+T*v) by omega)
    ·subst hv
     rw [Sm,Int.add_zero]
     exact Qw (by omega) (Qq hD)
    ·have hx : -a*d<=n*v:=by omega
     have r1:=Qi h3 (show 0<=v by omega)
     have r2:=Qi hx (Qq hD)
     have e1:n*D*v=n*v*D:=by grind
     have e2:d*(a*D+T*v)=T*d*v - -a*d*D:=by grind
     exact (nn_l hd).1 (show 0<=d*(a*D+T*v) by omega)
   ·exact h5 c hc
  ·rintro ⟨T,D,h1,h2,h3,h4,h5⟩
   exact ⟨T,D,h1,h2,h3,h4,fun c hc=>h5 c (by simp [hc])⟩
theorem Zru {pd qd:Int} (h1:0<pd) (h2:0<qd) (cs:List (Int × Int)):(∃ T D:Int,0<T/\T<D/\∀ c∈cs,0<=c.1*qd*D+T*(c.2*pd-c.1*qd))↔Ziz cs:=by
 constructor
 ·rintro ⟨T,D,a,b,h⟩
  refine ⟨qd*(D-T),pd*T,Re h2 (by omega),Re h1 a,fun c hc=>?_⟩
  have:=h c hc
  have e:atW c (qd*(D-T)) (pd*T)=c.1*qd*D+T*(c.2*pd-c.1*qd):=by unfold atW; grind
  omega
 ·rintro ⟨l,m,a,b,h⟩
  have k1:=Re a h1
  have k2:=Re b h2
  refine ⟨m*qd,l*pd+m*qd,k2,by omega,fun c hc=>?_⟩
  have:=Qw (Qq (Re h1 h2)) (h c hc)
  have e:c.1*qd*(l*pd+m*qd)+m*qd*(c.2*pd-c.1*qd)=pd*qd*atW c l m:=by unfold atW; grind
  omega
def rcN (r:Rc) (p q:P2d):List (Int × Int):=[(p.x-r.xl*p.d,q.x-r.xl*q.d),(r.xh*p.d-p.x,r.xh*q.d-q.x),(p.y-r.yl*p.d,q.y-r.yl*q.d),(r.yh*p.d-p.y,r.yh*q.d-q.y)]
def Zsg (r:Rc) (p q:P2d):Bool:=Yi ((rcN r p q).map fun c=>(c.1*q.d,c.2*p.d-c.1*q.d)) 0 1 1 1
theorem Zux {r:Rc} {p q:P2d} (h1:0<p.d) (h2:0<q.d):Zsg r p q=true↔Ziz (rcN r p q):=by
 unfold Zsg
 rw [Zf1 _ 0 1 1 1 (by decide) (by decide) (by decide) (by decide),<-Zru h1 h2]
 constructor
 ·rintro ⟨T,D,a,b,_,_,h⟩
  exact ⟨T,D,a,b,fun c hc=>h _ (Oa.2 ⟨c,hc,rfl⟩)⟩
 ·rintro ⟨T,D,a,b,h⟩
  refine ⟨T,D,a,b,by omega,by omega,fun c hc=>?_⟩
  obtain ⟨c',hc',rfl⟩:=Oa.1 hc
  exact h c' hc'
def edgP (r:Rc):List Wl:=[⟨0,r.xl,r.yl,r.xh,r.yl⟩,⟨0,r.xh,r.yl,r.xh,r.yh⟩,⟨0,r.xh,r.yh,r.xl,r.yh⟩,⟨0,r.xl,r.yh,r.xl,r.yl⟩]
def midX (p q:Pt):Int:=Qa Qb (Qa Qb (p.x*q.d)+Qa Qb (q.x*p.d))
def midY (p q:Pt):Int:=Qa Qb (Qa Qb (p.y*q.d)+Qa Qb (q.y*p.d))
def midD (p q:Pt):Int:=Qa Qb (Qa Qb (2*p.d)*q.d)
def Zsn (r:Rc) (p q:Pt):Bool:=r.has (midX p q) (midY p q) (midD p q)||(edgP r).any (touP p q)||(r.holds p.x p.y p.d||r.holds q.x q.y q.d)
theorem Zyv {p q:Pt} (hp:PtR p) (hq:PtR q):midX p q=p.x*q.d+q.x*p.d/\midY p q=p.y*q.d+q.y*p.d/\midD p q=2*p.d*q.d:=by
 obtain ⟨a1,a2,a3,a4⟩:=hp
 obtain ⟨b1,b2,b3,b4⟩:=hq
 have m1:=Zl (a:=q.x) (b:=p.d) (A:=500000000) (B:=100000) (by omega) (by omega)
 have m2:=Zl (a:=p.x) (b:=q.d) (A:=500000000) (B:=100000) (by omega) (by omega)
 have m3:=Zl (a:=q.y) (b:=p.d) (A:=500000000) (B:=100000) (by omega) (by omega)
 have m4:=Zl (a:=p.y) (b:=q.d) (A:=500000000) (B:=100000) (by omega) (by omega)
 have m5:=Zl (a:=2*p.d) (b:=q.d) (A:=200000) (B:=100000) (by omega) (by omega)
 unfold midX midY midD
 rw [W_eq (n:=q.x*p.d) (by omega) (by omega),W_eq (n:=p.x*q.d) (by omega) (by omega),W_eq (n:=q.y*p.d) (by omega) (by omega),W_eq (n:=p.y*q.d) (by omega) (by omega),W_eq (n:=2*p.d) (by omega) (by omega)]
 exact ⟨W_eq (by omega) (by omega),W_eq (by omega) (by omega),W_eq (by omega) (by omega)⟩
theorem Ybe {r:Rc} (hr:RcOk r):Str ⟨0,r.xl,r.yl,r.xh,r.yl⟩ (r.xh-r.xl) 1 0/\Str ⟨0,r.xh,r.yl,r.xh,r.yh⟩ (r.yh-r.yl) 0 1/\Str ⟨0,r.xh,r.yh,r.xl,r.yh⟩ (r.xh-r.xl) (-1) 0/\Str ⟨0,r.xl,r.yh,r.xl,r.yl⟩ (r.yh-r.yl) 0 (-1):=by
 obtain ⟨h1,h2,h3,h4,h5,h6⟩:=hr
 refine ⟨⟨?_,?_,?_,?_,?_,?_,?_,?_,?_,?_⟩,⟨?_,?_,?_,?_,?_,?_,?_,?_,?_,?_⟩,⟨?_,?_,?_,?_,?_,?_,?_,?_,?_,?_⟩,⟨?_,?_,?_,?_,?_,?_,?_,?_,?_,?_⟩⟩<;>(try dsimp only)<;>omega
theorem rcN_mem {r:Rc} {p q:P2d} {l m:Int}:(∀ c∈rcN r p q,0<=atW c l m)↔0<=l*(p.x-r.xl*p.d)+m*(q.x-r.xl*q.d)/\0<=l*(r.xh*p.d-p.x)+m*(r.xh*q.d-q.x)/\0<=l*(p.y-r.yl*p.d)+m*(q.y-r.yl*q.d)/\0<=l*(r.yh*p.d-p.y)+m*(r.yh*q.d-q.y):=by
 simp [rcN,atW]
theorem Zvc {r:Rc} (hr:RcOk r) {p q:P2d} (h1:0<p.d) (h2:0<q.d) (l m:Int) (hl:0<l) (hm:0<m) :
  ((∀ c∈rcN r p q,0<=atW c l m)/\∃ c∈rcN r p q,atW c l m=0)->(Us ⟨0,r.xl,r.yl,r.xh,r.yl⟩ (r.xh-r.xl) 1 0 p q\/Us ⟨0,r.xh,r.yl,r.xh,r.yh⟩ (r.yh-r.yl) 0 1 p q\/Us ⟨0,r.xh,r.yh,r.xl,r.yh⟩ (r.xh-r.xl) (-1) 0 p q\/Us ⟨0,r.xl,r.yh,r.xl,r.yl⟩ (r.yh-r.yl) 0 (-1) p q):=by
 rintro ⟨h,c,hc,h0⟩
 rw [rcN_mem] at h
 obtain ⟨k1,k2,k3,k4⟩:=h
 have e1:l*(r.xh*p.d-p.x)+m*(r.xh*q.d-q.x)=(r.xh-r.xl)*(l*p.d+m*q.d)-(l*(p.x-r.xl*p.d)+m*(q.x-r.xl*q.d)):=by grind
 have e2:l*(r.yh*p.d-p.y)+m*(r.yh*q.d-q.y)=(r.yh-r.yl)*(l*p.d+m*q.d)-(l*(p.y-r.yl*p.d)+m*(q.y-r.yl*q.d)):=by grind
 unfold Us bsP alP ful bes alo
 dsimp only
 simp only [rcN,Qz,List.not_mem_nil,or_false] at hc
 rcases hc with rfl|rfl|rfl|rfl<;>unfold atW at h0<;>dsimp only at h0
 ·refine .inr (.inr (.inr ⟨l,m,hl,hm,?_,?_,?_⟩))
  ·grind
  ·grind
  ·grind
 ·refine .inr (.inl ⟨l,m,hl,hm,?_,?_,?_⟩)
  ·grind
  ·grind
  ·grind
 ·refine .inl ⟨l,m,hl,hm,?_,?_,?_⟩
  ·grind
  ·grind
  ·grind
 ·refine .inr (.inr (.inl ⟨l,m,hl,hm,?_,?_,?_⟩))
  ·grind
  ·grind
  ·grind
theorem Zt1 {r:Rc} (hr:RcOk r) {p q:P2d} (h1:0<p.d) (h2:0<q.d) (h:Us ⟨0,r.xl,r.yl,r.xh,r.yl⟩ (r.xh-r.xl) 1 0 p q\/Us ⟨0,r.xh,r.yl,r.xh,r.yh⟩ (r.yh-r.yl) 0 1 p q\/Us ⟨0,r.xh,r.yh,r.xl,r.yh⟩ (r.xh-r.xl) (-1) 0 p q\/Us ⟨0,r.xl,r.yh,r.xl,r.yl⟩ (r.yh-r.yl) 0 (-1) p q):Ziz (rcN r p q):=by
 have key:∀ l m:Int,0<l->0<m->0<=(r.xh-r.xl)*(l*p.d+m*q.d)/\0<=(r.yh-r.yl)*(l*p.d+m*q.d):=by
  intro l m hl hm
  have k1:=Re hl h1
  have k2:=Re hm h2
  have:=hr.x
  have:=hr.y
  exact ⟨Qw (by omega) (by omega),Qw (by omega) (by omega)⟩
 unfold Us bsP alP ful bes alo at h
 dsimp only at h
 unfold Ziz
 rcases h with ⟨l,m,hl,hm,k1,k2,k3⟩|⟨l,m,hl,hm,k1,k2,k3⟩|⟨l,m,hl,hm,k1,k2,k3⟩|⟨l,m,hl,hm,k1,k2,k3⟩<;>refine ⟨l,m,hl,hm,rcN_mem.2 ?_⟩<;>obtain ⟨g1,g2⟩:=key l m hl hm<;>refine ⟨?_,?_,?_,?_⟩<;>grind
theorem Zvh {r:Rc} (hr:RcOk r) {p q:Pt} (hp:PtR p) (hq:PtR q):Zsn r p q=true↔Ziz (rcN r p.pl q.pl):=by
 obtain ⟨e1,e2,e3⟩:=Zyv hp hq
 obtain ⟨s1,s2,s3,s4⟩:=Ybe hr
 have dp:=hp.d0
 have dq:=hq.d0
 have dp1:=hp.d1
 have dq1:=hq.d1
 have hD:=Re (show 0<2*p.d by omega) dq
 have hD2:=(Zl (a:=2*p.d) (b:=q.d) (A:=200000) (B:=100000) (by omega) (by omega)).2
 unfold Zsn
 rw [e1,e2,e3,Qu,Qu,Qu,Zqb hr ⟨hD,by omega⟩,Zdq hr ⟨dp,by omega⟩,Zdq hr ⟨dq,by omega⟩]
 have ea:(edgP r).any (touP p q)=true↔(Us ⟨0,r.xl,r.yl,r.xh,r.yl⟩ (r.xh-r.xl) 1 0 p.pl q.pl\/Us ⟨0,r.xh,r.yl,r.xh,r.yh⟩ (r.yh-r.yl) 0 1 p.pl q.pl\/Us ⟨0,r.xh,r.yh,r.xl,r.yh⟩ (r.xh-r.xl) (-1) 0 p.pl q.pl\/Us ⟨0,r.xl,r.yh,r.xl,r.yl⟩ (r.yh-r.yl) 0 (-1) p.pl q.pl):=by
  simp only [edgP,Oe,List.any_nil,Bool.or_false,Qu]
  rw [Zfb s1 hp hq,Zfb s2 hp hq,Zfb s3 hp hq,Zfb s4 hp hq]
 rw [ea]
 have mm:(0<=p.x*q.d+q.x*p.d-r.xl*(2*p.d*q.d)/\0<=r.xh*(2*p.d*q.d)-(p.x*q.d+q.x*p.d)/\0<=p.y*q.d+q.y*p.d-r.yl*(2*p.d*q.d)/\0<=r.yh*(2*p.d*q.d)-(p.y*q.d+q.y*p.d))↔∀ c∈rcN r p.pl q.pl,0<=atW c q.d p.d:=by
  rw [rcN_mem]
  unfold Pt.pl
  dsimp only
  have k1:q.d*(p.x-r.xl*p.d)+p.d*(q.x-r.xl*q.d)=p.x*q.d+q.x*p.d-r.xl*(2*p.d*q.d):=by grind
  have k2:q.d*(r.xh*p.d-p.x)+p.d*(r.xh*q.d-q.x)=r.xh*(2*p.d*q.d)-(p.x*q.d+q.x*p.d):=by grind
  have k3:q.d*(p.y-r.yl*p.d)+p.d*(q.y-r.yl*q.d)=p.y*q.d+q.y*p.d-r.yl*(2*p.d*q.d):=by grind
  have k4:q.d*(r.yh*p.d-p.y)+p.d*(r.yh*q.d-q.y)=r.yh*(2*p.d*q.d)-(p.y*q.d+q.y*p.d):=by grind
  rw [k1,k2,k3,k4]
 rw [mm]
 have big:∀ a b:Int,0<a->0<=(b.natAbs+1:Int)*a+b:=fun a b ha=>by
  have:=Rd (show 1<=a by omega) (show (0:Int)<=(b.natAbs:Int)+1 by omega)
  omega
 have holdsIn:∀ p q:P2d,(0<p.x-r.xl*p.d/\0<r.xh*p.d-p.x/\0<p.y-r.yl*p.d/\0<r.yh*p.d-p.y)->∃ N:Int,0<N/\0<=N*(p.x-r.xl*p.d)+1*(q.x-r.xl*q.d)/\0<=N*(r.xh*p.d-p.x)+1*(r.xh*q.d-q.x)/\0<=N*(p.y-r.yl*p.d)+1*(q.y-r.yl*q.d)/\0<=N*(r.yh*p.d-p.y)+1*(r.yh*q.d-q.y):=by
  rintro p q ⟨h1,h2,h3,h4⟩
  have mono:∀ a b N:Int,0<a->(b.natAbs:Int)<=N->0<=N*a+1*b:=fun a b N ha hN=>by
   have:=Rd (show 1<=a by omega) (show 0<=N by omega)
   omega
  refine ⟨((q.x-r.xl*q.d).natAbs:Int)+(r.xh*q.d-q.x).natAbs+(q.y-r.yl*q.d).natAbs+(r.yh*q.d-q.y).natAbs+1,by omega,mono _ _ _ h1 (by omega),mono _ _ _ h2 (by omega),mono _ _ _ h3 (by omega),mono _ _ _ h4 (by omega)⟩
 constructor
 ·rintro ((h|h)|h|h)
  ·exact ⟨q.d,p.d,dq,dp,h⟩
  ·exact Zt1 hr dp dq h
  ·obtain ⟨N,h0,h1,h2,h3,h4⟩:=holdsIn p.pl q.pl h
   exact ⟨N,1,h0,by omega,rcN_mem.2 ⟨h1,h2,h3,h4⟩⟩
  ·obtain ⟨N,h0,h1,h2,h3,h4⟩:=holdsIn q.pl p.pl h
   exact ⟨1,N,by omega,h0,rcN_mem.2 ⟨by omega,by omega,by omega,by omega⟩⟩
 ·rintro ⟨l,m,hl,hm,h⟩
  obtain ⟨a,b,ha,hb,k1,k2⟩:=Ydn (l0:=q.d) (m0:=p.d) dq dp hl hm _ h
  rcases k2 with ⟨rfl,rfl⟩|k2
  ·exact .inl (.inl k1)
  ·exact .inl (.inr (Zvc hr dp dq a b ha hb ⟨k1,k2⟩))
structure PtH (p:Pt):Prop where
 r:PtR p
 z : -(5000*p.d)<=p.z/\p.z<=5000*p.d
theorem Zqe {p:Pt} (h:Yu p=0):PtH p:=by
 obtain ⟨h1,h2,_,h4⟩:=Zds h
 unfold ptIn at h4
 simp only [Qc,within_iff] at h4
 exact ⟨⟨h1,h2,h4.1.1,h4.1.2⟩,h4.2⟩
def zOff (ht:Int) (p:Pt):Int:=Qa Qb (p.z-Qa Qb (ht*p.d))
theorem Zf9 {ht:Int} (hh:0<=ht/\ht<=5000) {p:Pt} (hp:PtH p):zOff ht p=p.z-ht*p.d/\Qa Qb (ht*p.d)=ht*p.d/\(-1000000000<=p.z-ht*p.d/\p.z-ht*p.d<=1000000000):=by
 obtain ⟨⟨a1,a2,_,_⟩,a5⟩:=hp
 have c1:=Zj (f:=ht) (d:=p.d) (by omega) a1
 unfold zOff
 rw [W_eq (n:=ht*p.d) (by omega) (by omega)]
 exact ⟨W_eq (by omega) (by omega),rfl,by omega⟩
def blkS (r:Rc) (ht:Int) (p q:Pt):Prop:=∃ l m:Int,0<l/\0<m/\l*(p.z-ht*p.d)+m*(q.z-ht*q.d)=0/\∀ c∈rcN r p.pl q.pl,0<=atW c l m
theorem Zob {r:Rc} {ht:Int} {p q:Pt} (h1:p.z-ht*p.d=0) (h2:q.z-ht*q.d=0):blkS r ht p q↔Ziz (rcN r p.pl q.pl):=by
 unfold blkS Ziz
 rw [h1,h2]
 exact ⟨fun ⟨l,m,a,b,_,c⟩=>⟨l,m,a,b,c⟩,fun ⟨l,m,a,b,c⟩=>⟨l,m,a,b,by omega,c⟩⟩
theorem Zoa {r:Rc} {ht:Int} {p q:Pt} (h0:¬(p.z-ht*p.d=0/\q.z-ht*q.d=0)) (h1:0<=sgn (p.z-ht*p.d)*sgn (q.z-ht*q.d)):¬ blkS r ht p q:=by
 rintro ⟨l,m,hl,hm,e,_⟩
 have hs:¬ (sgn (p.z-ht*p.d)*sgn (q.z-ht*q.d)<0):=by omega
 rw [sgn_mul_neg] at hs
 generalize p.z-ht*p.d=a at *
 generalize q.z-ht*q.d=b at *
 by_cases ha:0<a
 ·have:=(Za2 hl).2 ha
  have:=(nn_l hm).2 (show 0<=b by omega)
  omega
 by_cases hb:a<0
 ·have:=(Zb8 hl).2 hb
  have:=(np_l hm).2 (show b<=0 by omega)
  omega
 have:a=0:=by omega
 subst this
 have:m*b≠0:=Int.mul_ne_zero (by omega) (by omega)
 omega
theorem Zn9 {r:Rc} {ht:Int} {p q:Pt}:blkS r ht p q↔blkS r ht q p:=by
 have key:∀ p q,blkS r ht p q->blkS r ht q p:=by
  rintro p q ⟨l,m,h1,h2,h3,h4⟩
  refine ⟨m,l,h2,h1,by omega,?_⟩
  rw [rcN_mem] at h4 ⊢
  omega
 exact ⟨key _ _,key _ _⟩
theorem Zd4 {r:Rc} {ht:Int} {p q:Pt} {f g:Int} (hf:p.z-ht*p.d=f) (hg:q.z-ht*q.d=g) (h1:f<0/\0<g):blkS r ht p q↔∀ c∈rcN r p.pl q.pl,0<=atW c g (-f):=by
 unfold blkS
 rw [hf,hg]
 constructor
 ·rintro ⟨l,m,hl,hm,e,h⟩ c hc
  have k1:g*atW c l m=l*atW c g (-f):=by unfold atW; grind
  have q1:=(nn_l h1.2).2 (h c hc)
  rw [k1,nn_l hl] at q1
  exact q1
 ·intro h
  exact ⟨g,-f,h1.2,by omega,by grind,h⟩
theorem Zfx {r:Rc} (hr:RcOk r) {p q:Pt} (hp:PtR p) (hq:PtR q) {f g:Int} (h1:f<0/\0<g) (h2 : -1000000000<=f/\g<=1000000000):r.has (p.x*g-q.x*f) (p.y*g-q.y*f) (p.d*g-q.d*f)=true↔∀ c∈rcN r p.pl q.pl,0<=atW c g (-f):=by
 obtain ⟨a1,a2,a3,a4⟩:=hp
 obtain ⟨b1,b2,b3,b4⟩:=hq
 have k1:=Re a1 h1.2
 have k2:=Re b1 (show 0 < -f by omega)
 rw [Rv] at k2
 have m1:=Zl (a:=p.d) (b:=g) (A:=100000) (B:=1000000000) (by omega) (by omega)
 have m2:=Zl (a:=q.d) (b:=f) (A:=100000) (B:=1000000000) (by omega) (by omega)
 rw [Zqb hr ⟨by omega,by omega⟩,rcN_mem]
 unfold Pt.pl
 dsimp only
 have e1:g*(p.x-r.xl*p.d) + -f*(q.x-r.xl*q.d)=p.x*g-q.x*f-r.xl*(p.d*g-q.d*f):=by grind
 have e2:g*(r.xh*p.d-p.x) + -f*(r.xh*q.d-q.x)=r.xh*(p.d*g-q.d*f)-(p.x*g-q.x*f):=by grind
 have e3:g*(p.y-r.yl*p.d) + -f*(q.y-r.yl*q.d)=p.y*g-q.y*f-r.yl*(p.d*g-q.d*f):=by grind
 have e4:g*(r.yh*p.d-p.y) + -f*(r.yh*q.d-q.y)=r.yh*(p.d*g-q.d*f)-(p.y*g-q.y*f):=by grind
 rw [e1,e2,e3,e4]
def atX (a b:Int) (u v:Int):Int:=Qa Qb (Qa Qb (a*u)+Qa Qb (b*v))
def blkP (r:Rc) (ht:Int) (p q:Pt):Bool :=
 if p.z=Qa Qb (ht*p.d)/\q.z=Qa Qb (ht*q.d) then Zsn r p q
 else if 0<=Qa Qb (sgn (zOff ht p)*sgn (zOff ht q)) then false
 else r.has (atX p.x q.x (size (zOff ht q)) (size (zOff ht p))) (atX p.y q.y (size (zOff ht q)) (size (zOff ht p))) (atX p.d q.d (size (zOff ht q)) (size (zOff ht p)))
def onX (a b:Int) (g f:Int):Int:=Qa Qb (Qa Qb (a*g)-Qa Qb (b*f))
def blkR (r:Rc) (ht:Int) (p q:Pt):Bool :=
 if zOff ht p=0/\zOff ht q=0 then Zsg r p.pl q.pl
 else if 0<=Qa Qb (sgn (zOff ht p)*sgn (zOff ht q)) then false
 else if onX p.d q.d (zOff ht q) (zOff ht p)<0 then r.has (Qa Qb (0-onX p.x q.x (zOff ht q) (zOff ht p))) (Qa Qb (0-onX p.y q.y (zOff ht q) (zOff ht p))) (Qa Qb (0-onX p.d q.d (zOff ht q) (zOff ht p)))
 else r.has (onX p.x q.x (zOff ht q) (zOff ht p)) (onX p.y q.y (zOff ht q) (zOff ht p)) (onX p.d q.d (zOff ht q) (zOff ht p))
theorem x_bd {a d f:Int} (hd:0<d/\d<=100000) (ha : -(5000*d)<=a/\a<=5000*d) (hf : -1000000000<=f/\f<=1000000000) : -500000000000000000<=a*f/\a*f<=500000000000000000:=by
 have:=Zl (a:=a) (b:=f) (A:=500000000) (B:=1000000000) (by omega) (by omega)
 omega
theorem d_bd {d f:Int} (hd:0<d/\d<=100000) (hf : -1000000000<=f/\f<=1000000000) : -100000000000000<=d*f/\d*f<=100000000000000:=by
 have:=Zl (a:=d) (b:=f) (A:=100000) (B:=1000000000) (by omega) (by omega)
 omega
theorem Ybk {ht:Int} (hh:0<=ht/\ht<=5000) {p q:Pt} (hp:PtH p) (hq:PtH q):(p.z=Qa Qb (ht*p.d)/\q.z=Qa Qb (ht*q.d))↔(p.z-ht*p.d=0/\q.z-ht*q.d=0):=by
 rw [(Zf9 hh hp).2.1,(Zf9 hh hq).2.1]; omega
theorem Zyc {r:Rc} (hr:RcOk r) {ht:Int} (hh:0<=ht/\ht<=5000) {p q:Pt} (hp:PtH p) (hq:PtH q):blkP r ht p q=true↔blkS r ht p q:=by
 obtain ⟨e1,_,b1⟩:=Zf9 hh hp
 obtain ⟨e2,_,b2⟩:=Zf9 hh hq
 unfold blkP
 simp only [Ybk hh hp hq]
 rw [e1,e2]
 by_cases h0:p.z-ht*p.d=0/\q.z-ht*q.d=0
 ·rw [if_pos h0,Zob h0.1 h0.2,Zvh hr hp.r hq.r]
 rw [if_neg h0,Zdm]
 by_cases h1:0<=sgn (p.z-ht*p.d)*sgn (q.z-ht*q.d)
 ·rw [if_pos h1]
  exact ⟨fun h=>by simp at h,fun h=>absurd h (Zoa h0 h1)⟩
 rw [if_neg h1]
 have h2:=sgn_mul_neg.1 (show sgn (p.z-ht*p.d)*sgn (q.z-ht*q.d)<0 by omega)
 generalize hf:p.z-ht*p.d=f at *
 generalize hg:q.z-ht*q.d=g at *
 have hp1:=hp.r
 have hq1:=hq.r
 have x1:=x_bd (f:=g) ⟨hp1.d0,hp1.d1⟩ hp1.x (by omega)
 have x2:=x_bd (f:=f) ⟨hq1.d0,hq1.d1⟩ hq1.x (by omega)
 have y1:=x_bd (f:=g) ⟨hp1.d0,hp1.d1⟩ hp1.y (by omega)
 have y2:=x_bd (f:=f) ⟨hq1.d0,hq1.d1⟩ hq1.y (by omega)
 have d1:=d_bd (f:=g) ⟨hp1.d0,hp1.d1⟩ (by omega)
 have d2:=d_bd (f:=f) ⟨hq1.d0,hq1.d1⟩ (by omega)
 rcases h2 with h2|h2
 ·have s1:size g=g:=by rw [Zby (by omega),if_neg (by omega)]
  have s2:size f = -f:=by rw [Zby (by omega),if_pos (by omega)]
  have ax:∀ a b:Int,(-500000000000000000<=a*g/\a*g<=500000000000000000)->(-500000000000000000<=b*f/\b*f<=500000000000000000)->atX a b (size g) (size f)=a*g-b*f:=by
   intro a b k1 k2
   unfold atX
   rw [s1,s2,Rv,W_eq (n:=a*g) (by omega) (by omega),W_eq (n:=-(b*f)) (by omega) (by omega),W_eq (by omega) (by omega)]
   omega
  rw [ax _ _ x1 x2,ax _ _ y1 y2,ax _ _ (by omega) (by omega),Zfx hr hp1 hq1 h2 (by omega),Zd4 hf hg h2]
 ·have s1:size g = -g:=by rw [Zby (by omega),if_pos (by omega)]
  have s2:size f=f:=by rw [Zby (by omega),if_neg (by omega)]
  have ax:∀ a b:Int,(-500000000000000000<=a*g/\a*g<=500000000000000000)->(-500000000000000000<=b*f/\b*f<=500000000000000000)->atX a b (size g) (size f)=b*f-a*g:=by
   intro a b k1 k2
   unfold atX
   rw [s1,s2,Rv,W_eq (n:=b*f) (by omega) (by omega),W_eq (n:=-(a*g)) (by omega) (by omega),W_eq (by omega) (by omega)]
   omega
  rw [ax _ _ x1 x2,ax _ _ y1 y2,ax _ _ (by omega) (by omega),Zfx hr hq1 hp1 (by omega) (by omega),Zn9,Zd4 hg hf (by omega)]
theorem Zyb {r:Rc} (hr:RcOk r) {ht:Int} (hh:0<=ht/\ht<=5000) {p q:Pt} (hp:PtH p) (hq:PtH q):blkR r ht p q=true↔blkS r ht p q:=by
 obtain ⟨e1,_,b1⟩:=Zf9 hh hp
 obtain ⟨e2,_,b2⟩:=Zf9 hh hq
 unfold blkR
 rw [e1,e2]
 by_cases h0:p.z-ht*p.d=0/\q.z-ht*q.d=0
 ·rw [if_pos h0,Zob h0.1 h0.2]
  exact Zux (p:=p.pl) (q:=q.pl) hp.r.d0 hq.r.d0
 rw [if_neg h0,Zdm]
 by_cases h1:0<=sgn (p.z-ht*p.d)*sgn (q.z-ht*q.d)
 ·rw [if_pos h1]
  exact ⟨fun h=>by simp at h,fun h=>absurd h (Zoa h0 h1)⟩
 rw [if_neg h1]
 have h2:=sgn_mul_neg.1 (show sgn (p.z-ht*p.d)*sgn (q.z-ht*q.d)<0 by omega)
 generalize hf:p.z-ht*p.d=f at *
 generalize hg:q.z-ht*q.d=g at *
 have hp1:=hp.r
 have hq1:=hq.r
 have x1:=x_bd (f:=g) ⟨hp1.d0,hp1.d1⟩ hp1.x (by omega)
 have x2:=x_bd (f:=f) ⟨hq1.d0,hq1.d1⟩ hq1.x (by omega)
 have y1:=x_bd (f:=g) ⟨hp1.d0,hp1.d1⟩ hp1.y (by omega)
 have y2:=x_bd (f:=f) ⟨hq1.d0,hq1.d1⟩ hq1.y (by omega)
 have d1:=d_bd (f:=g) ⟨hp1.d0,hp1.d1⟩ (by omega)
 have d2:=d_bd (f:=f) ⟨hq1.d0,hq1.d1⟩ (by omega)
 have ax:∀ a b:Int,(-500000000000000000<=a*g/\a*g<=500000000000000000)->(-500000000000000000<=b*f/\b*f<=500000000000000000)->onX a b g f=a*g-b*f/\Qa Qb (0-(a*g-b*f))=b*f-a*g:=by
  intro a b k1 k2
  unfold onX
  rw [W_eq (n:=a*g) (by omega) (by omega),W_eq (n:=b*f) (by omega) (by omega),W_eq (n:=a*g-b*f) (by omega) (by omega),W_eq (by omega) (by omega)]
  omega
 rw [(ax _ _ x1 x2).1,(ax _ _ y1 y2).1,(ax p.d q.d (by omega) (by omega)).1,(ax _ _ x1 x2).2,(ax _ _ y1 y2).2,(ax p.d q.d (by omega) (by omega)).2]
 rcases h2 with h2|h2
 ·have k1:=Re hp1.d0 h2.2
  have k2:=Pw hq1.d0 h2.1
  rw [if_neg (by omega),Zfx hr hp1 hq1 h2 (by omega),Zd4 hf hg h2]
 ·have k1:=Pw hp1.d0 h2.2
  have k2:=Re hq1.d0 h2.1
  rw [if_pos (by omega),Zfx hr hq1 hp1 (by omega) (by omega),Zn9,Zd4 hg hf (by omega)]
theorem Ydt {r:Rc} (hr:RcOk r) {ht:Int} (hh:0<=ht/\ht<=5000) {p q:Pt} (hp:PtH p) (hq:PtH q):blkP r ht p q=blkR r ht p q:=by
 rw [Bool.eq_iff_iff,Zyc hr hh hp hq,Zyb hr hh hp hq]
abbrev U (n:Int):AV:=.int .u64 n
abbrev wayA (p q:Pt):AV:=.agg [I p.x,I p.y,I p.z,I p.d,I q.x,I q.y,I q.z,I q.d]
theorem c204 (p q:Pt):PCall Tryz.prog 251 [wayA p q] ⟨.tup [I (Zon p q),I (Zom p q)],[]⟩:=by
 refine bs.pv (sx:=nos) Zh Tryz.func251 (by kernel_rfl) (by kernel_rfl) rfl ?_
 repeat'(first|refine wk0 ?_|(refine wk2 ?_ ?_<;>intro _)|refine wk4 ?_|fail);all_goals(conv=>whnf)
 exact Zg rfl rfl
theorem c207 (fr den to oth a b:Int):PCall Tryz.prog 252 [I fr,I den,I to,I oth,I a,I b] ⟨Bo (ovl fr den to oth a b),[]⟩:=by
 refine bs.pv (sx:=nos) Zh Tryz.func252 (by kernel_rfl) (by kernel_rfl) rfl ?_
 repeat'(first|refine wk0 ?_|(refine wk2 ?_ ?_<;>intro _)|refine wk4 ?_|fail);all_goals(conv=>whnf)
 all_goals (refine Zc ?_; simp_all [ovl]<;>(intro _; omega))
theorem c182 (p q:Pt):PCall Tryz.prog 235 [wayA p q] ⟨.tup [I (midX p q),I (midY p q),I (midD p q)],[]⟩:=by
 refine bs.pv (sx:=nos) Zh Tryz.func235 (by kernel_rfl) (by kernel_rfl) rfl ?_
 repeat'(first|refine wk0 ?_|(refine wk2 ?_ ?_<;>intro _)|refine wk4 ?_|fail);all_goals(conv=>whnf)
 exact Zg rfl rfl
def u64 (n:Int):Prop:=0<=n/\n<18446744073709551616
theorem mkN (a:Nat) (ha:a<18446744073709551616):Qa Rk (((Sc IntKind.u64.bits (a:Int) &&& Sc IntKind.u64.bits 4294967295).toNat:Nat):Int)=((a%4294967296:Nat):Int):=by
 have h:=bits_and_u64_nat a 4294967295 ha (by omega)
 have e:a &&& 4294967295=a%4294967296:=Nat.and_two_pow_sub_one_eq_mod a 32
 rw [e] at h
 exact h
theorem fdN (a:Nat):(a:Int).fdiv (2 ^ min (Sy 32) IntKind.u64.bits)=((a / 4294967296:Nat):Int):=by
 rw [show (2 ^ min (Sy 32) IntKind.u64.bits:Int)=4294967296 from rfl,Int.fdiv_eq_ediv_of_nonneg _ (by omega)]; omega
theorem mulN (a b:Nat):(a:Int)*(b:Int)=((a*b:Nat):Int):=(Int.natCast_mul a b).symm
theorem addN (a b:Nat):(a:Int)+(b:Int)=((a+b:Nat):Int):=(Int.natCast_add a b).symm
theorem Zl0 (a:Nat) (ha:a<18446744073709551616):Qa Rk (a:Int)=(a:Int):=by rw [Jg]; omega
theorem Ydx (a:Nat):Qa Rk (a:Int)=((a%18446744073709551616:Nat):Int):=by rw [Jg]; omega
theorem Zxe (x y:Nat) (hx:x<18446744073709551616) (hy:y<18446744073709551616):AV.tup [AV.int Rk (Qa Rk (Qa Rk (Qa Rk (((x:Int)).fdiv (2 ^ min (Sy 32) IntKind.u64.bits)*((y:Int)).fdiv (2 ^ min (Sy 32) IntKind.u64.bits))+((Qa Rk (Qa Rk (((x:Int)).fdiv (2 ^ min (Sy 32) IntKind.u64.bits)*Qa Rk ((Sc IntKind.u64.bits ((y:Int)) &&& Sc IntKind.u64.bits 4294967295).toNat:Int))+((Qa Rk ((Qa Rk ((Sc IntKind.u64.bits ((x:Int)) &&& Sc IntKind.u64.bits 4294967295).toNat:Int))*(Qa Rk ((Sc IntKind.u64.bits ((y:Int)) &&& Sc IntKind.u64.bits 4294967295).toNat:Int)))).fdiv (2 ^ min (Sy 32) IntKind.u64.bits)))).fdiv (2 ^ min (Sy 32) IntKind.u64.bits)))+((Qa Rk (Qa Rk ((Sc IntKind.u64.bits (Qa Rk (Qa Rk (((x:Int)).fdiv (2 ^ min (Sy 32) IntKind.u64.bits)*Qa Rk ((Sc IntKind.u64.bits ((y:Int)) &&& Sc IntKind.u64.bits 4294967295).toNat:Int))+((Qa Rk ((Qa Rk ((Sc IntKind.u64.bits ((x:Int)) &&& Sc IntKind.u64.bits 4294967295).toNat:Int))*(Qa Rk ((Sc IntKind.u64.bits ((y:Int)) &&& Sc IntKind.u64.bits 4294967295).toNat:Int)))).fdiv (2 ^ min (Sy 32) IntKind.u64.bits)))) &&& Sc IntKind.u64.bits 4294967295).toNat:Int)+Qa Rk (Qa Rk ((Sc IntKind.u64.bits ((x:Int)) &&& Sc IntKind.u64.bits 4294967295).toNat:Int)*((y:Int)).fdiv (2 ^ min (Sy 32) IntKind.u64.bits)))).fdiv (2 ^ min (Sy 32) IntKind.u64.bits)))),AV.int Rk (Qa Rk ((x:Int)*(y:Int)))]=AV.tup [U ((x:Int)*(y:Int) / 18446744073709551616),U ((x:Int)*(y:Int)%18446744073709551616)]:=by
 obtain ⟨bd,bt,bw,hhi⟩:=Go.Lib.mul64_hi x y hx hy
 have ba:=Kd (a:=x / 4294967296) (b:=y / 4294967296) (by omega) (by omega)
 have bb:=Kd (a:=x / 4294967296) (b:=y%4294967296) (by omega) (by omega)
 have bc:=Kd (a:=x%4294967296) (b:=y / 4294967296) (by omega) (by omega)
 have ba' : x / 4294967296*(y / 4294967296)<18446744073709551616:=by omega
 have bb' : x / 4294967296*(y%4294967296)<18446744073709551616:=by omega
 have bc' : x%4294967296*(y / 4294967296)<18446744073709551616:=by omega
 have bh1:x / 4294967296*(y / 4294967296)+(x / 4294967296*(y%4294967296)+x%4294967296*(y%4294967296) / 4294967296) / 4294967296<18446744073709551616:=by omega
 have bh:x / 4294967296*(y / 4294967296)+(x / 4294967296*(y%4294967296)+x%4294967296*(y%4294967296) / 4294967296) / 4294967296+((x / 4294967296*(y%4294967296)+x%4294967296*(y%4294967296) / 4294967296)%4294967296+x%4294967296*(y / 4294967296)) / 4294967296<18446744073709551616:=by omega
 simp only [mkN x hx,mkN y hy,fdN,mulN,addN,Zl0 _ bd,Zl0 _ bb',Zl0 _ bt,mkN _ bt,Zl0 _ bc',Zl0 _ bw,Zl0 _ ba',Zl0 _ bh1,Zl0 _ bh,Ydx (x*y)]
 rw [hhi]
 rfl
theorem c216 {x y:Int} (hx:u64 x) (hy:u64 y):PCall Tryz.prog 118 [U x,U y] ⟨.tup [U (x*y / 18446744073709551616),U (x*y%18446744073709551616)],[]⟩:=by
 refine bs.pv (sx:=nos) Zh Tryz.func118 (by kernel_rfl) (by kernel_rfl) rfl ?_
 repeat'(first|refine wk1 ?_|(refine wk2 ?_ ?_<;>intro _)|refine wk4 ?_|fail);all_goals(conv=>whnf)
 refine Zg ?_ rfl
 obtain ⟨h0,hx⟩:=hx
 obtain ⟨h1,hy⟩:=hy
 obtain ⟨a,rfl⟩:=Jh h0
 obtain ⟨b,rfl⟩:=Jh h1
 exact Zxe a b (by omega) (by omega)
theorem Zle {a b:Int}:sgn (a*b)=sgn a*sgn b:=by
 unfold sgn
 rcases Sv a 0 with ha|ha|ha<;>rcases Sv b 0 with hb|hb|hb
 ·have:=Int.mul_pos_of_neg_of_neg ha hb
  rw [if_pos this,if_neg (by omega),if_pos ha,if_neg (by omega),if_pos hb]; rfl
 ·subst hb; simp
 ·have:=Kg ha hb
  rw [if_neg (by omega),if_pos this,if_neg (by omega),if_pos ha,if_pos hb]; rfl
 ·subst ha; simp
 ·subst ha; simp
 ·subst ha; simp
 ·have:=Pw ha hb
  rw [if_neg (by omega),if_pos this,if_pos ha,if_neg (by omega),if_pos hb]; rfl
 ·subst hb; simp
 ·have:=Re ha hb
  rw [if_pos this,if_pos ha,if_pos hb]; rfl
theorem Zhm {a:Int} (h:i64 a):Qa Rk (size a)=(a.natAbs:Int)/\u64 (a.natAbs:Int):=by
 have hs:=Zte h
 obtain ⟨h1,h2⟩:=h
 rw [hs]
 refine ⟨?_,?_⟩
 ·simp only [Sq,Jg]; omega
 ·unfold u64; omega
theorem Zv9 (a b:Int):((a.natAbs:Int)*(b.natAbs:Int))=(a*b)\/((a.natAbs:Int)*(b.natAbs:Int)) = -(a*b):=by
 have:=Int.natAbs_mul a b
 omega
theorem Zvp {a b c d X Y:Int} (hX:(a.natAbs:Int)*(b.natAbs:Int)=X) (hY:(c.natAbs:Int)*(d.natAbs:Int)=Y) (h:sgn a*sgn b=sgn c*sgn d) :
  (X=Y->cmpP a b c d=0)/\(Y<X->cmpP a b c d=sgn a*sgn b)/\(X<Y->cmpP a b c d = -(sgn a*sgn b)):=by
 have h1:=Zv9 a b
 have h2:=Zv9 c d
 have p1:0<=X:=by rw [<-hX]; exact Qw (by omega) (by omega)
 have p2:0<=Y:=by rw [<-hY]; exact Qw (by omega) (by omega)
 have s1:=Zle (a:=a) (b:=b)
 have s2:=Zle (a:=c) (b:=d)
 unfold cmpP
 rw [hX] at h1
 rw [hY] at h2
 rw [<-s1]
 rw [<-s1,<-s2] at h
 clear s1 s2 hX hY
 generalize a*b=u at *
 generalize c*d=v at *
 unfold sgn at *
 refine ⟨fun e=>?_,fun e=>?_,fun e=>?_⟩
 ·repeat' split at h
  all_goals repeat' split
  all_goals omega
 ·repeat' split at h
  all_goals repeat' split
  all_goals omega
 ·repeat' split at h
  all_goals repeat' split
  all_goals omega
theorem Zx5 {a b c d:Int} (h:sgn a*sgn b≠sgn c*sgn d):cmpP a b c d=sgn (sgn a*sgn b-sgn c*sgn d):=by
 rw [<-Zle,<-Zle] at h ⊢
 unfold cmpP
 generalize a*b=u at *
 generalize c*d=v at *
 unfold sgn at *
 repeat' split at h
 all_goals repeat' split
 all_goals omega
instance (n:Int):Decidable (u64 n):=by unfold u64; exact inferInstance
def r216:List AV->Option PRes
 | [.int .u64 x,.int .u64 y]=>asr (decide (u64 x/\u64 y)) ⟨.tup [U (x*y / 18446744073709551616),U (x*y%18446744073709551616)],[]⟩
 | _=>none
def kF1:PC:=ins 118 r216 (ins 195 r115 (ins 196 r116 pt0))
theorem Zy3:PCOK Tryz.prog kF1:=by
 refine Zi (fun a res h=>?_) (Zi (fun a res h=>?_) (Zi (fun a res h=>?_) Zh))
 ·unfold r216 at h; split at h
  ·obtain ⟨h1,rfl⟩:=Xx h
   have:=of_decide_eq_true h1
   exact c216 this.1 this.2
  ·cases h
 ·unfold r115 at h; split at h<;>cases h; exact c115 _
 ·unfold r116 at h; split at h<;>cases h; exact c116 _
theorem c215 {a b c d:Int} (ha:i64 a) (hb:i64 b) (hc:i64 c) (hd:i64 d):PCall Tryz.prog 257 [I a,I b,I c,I d] ⟨I (cmpP a b c d),[]⟩:=by
 obtain ⟨a1,a2⟩:=Zhm ha
 obtain ⟨b1,b2⟩:=Zhm hb
 obtain ⟨c1,c2⟩:=Zhm hc
 obtain ⟨d1,d2⟩:=Zhm hd
 by_cases h:sgn a*sgn b=sgn c*sgn d
 ·have hX:(a.natAbs:Int)*(b.natAbs:Int)=(a.natAbs:Int)*(b.natAbs:Int):=rfl
  have hY:(c.natAbs:Int)*(d.natAbs:Int)=(c.natAbs:Int)*(d.natAbs:Int):=rfl
  obtain ⟨k1,k2,k3⟩:=Zvp hX hY h
  have t1:asr (decide (u64 (Qa Rk (size a))/\u64 (Qa Rk (size b)))) ⟨.tup [U (Qa Rk (size a)*Qa Rk (size b) / 18446744073709551616),U (Qa Rk (size a)*Qa Rk (size b)%18446744073709551616)],[]⟩=some ⟨.tup [U ((a.natAbs:Int)*(b.natAbs:Int) / 18446744073709551616),U ((a.natAbs:Int)*(b.natAbs:Int)%18446744073709551616)],[]⟩:=by
   rw [a1,b1,Xm ⟨a2,b2⟩]
  have t2:asr (decide (u64 (Qa Rk (size c))/\u64 (Qa Rk (size d)))) ⟨.tup [U (Qa Rk (size c)*Qa Rk (size d) / 18446744073709551616),U (Qa Rk (size c)*Qa Rk (size d)%18446744073709551616)],[]⟩=some ⟨.tup [U ((c.natAbs:Int)*(d.natAbs:Int) / 18446744073709551616),U ((c.natAbs:Int)*(d.natAbs:Int)%18446744073709551616)],[]⟩:=by
   rw [c1,d1,Xm ⟨c2,d2⟩]
  have w1:Qa Qb (sgn a*sgn b)=Qa Qb (sgn c*sgn d):=by rw [h]
  have w2:=Zdm a b
  have hr : -1<=sgn a*sgn b/\sgn a*sgn b<=1:=by
   have:=Zl (A:=1) (B:=1) (Zg2 a) (Zg2 b); omega
  have w3:Qa Qb (0-Qa Qb (sgn a*sgn b)) = -(sgn a*sgn b):=by rw [w2,W_eq (by omega) (by omega)]; omega
  generalize (a.natAbs:Int)*(b.natAbs:Int)=X at *
  generalize (c.natAbs:Int)*(d.natAbs:Int)=Y at *
  generalize cmpP a b c d=r at *
  refine bs.pv (sx:=nos) Zy3 Tryz.func257 (by kernel_rfl) (by kernel_rfl) rfl ?_
  rcases Sv X Y with hxy|hxy|hxy
  ·rw [k3 hxy,<-w3]
   repeat'(first|refine wk1 ?_|(refine wk2 ?_ ?_<;>intro _)|refine wk4 ?_|fail);all_goals(conv=>whnf)
   all_goals first
    | exact Za rfl
    | (exfalso; simp_all; done)
    | (exfalso; simp_all; omega)
  ·rw [k1 hxy]
   subst hxy
   repeat'(first|refine wk1 ?_|(refine wk2 ?_ ?_<;>intro _)|refine wk4 ?_|fail);all_goals(conv=>whnf)
   all_goals first
    | exact Za rfl
    | (exfalso; simp_all; done)
    | (exfalso; simp_all; omega)
  ·rw [k2 hxy,<-w2]
   repeat'(first|refine wk1 ?_|(refine wk2 ?_ ?_<;>intro _)|refine wk4 ?_|fail);all_goals(conv=>whnf)
   all_goals first
    | exact Za rfl
    | (exfalso; simp_all; done)
    | (exfalso; simp_all; omega)
 ·have hr1:=Zl (A:=1) (B:=1) (Zg2 a) (Zg2 b)
  have hr2:=Zl (A:=1) (B:=1) (Zg2 c) (Zg2 d)
  have w:sgn (Qa Qb (Qa Qb (sgn a*sgn b)-Qa Qb (sgn c*sgn d)))=cmpP a b c d:=by
   rw [Zx5 h,Zdm,Zdm,W_eq (by omega) (by omega)]
  have w2:¬ Qa Qb (sgn a*sgn b)=Qa Qb (sgn c*sgn d):=by rw [Zdm,Zdm]; exact h
  refine bs.pv (sx:=nos) Zy3 Tryz.func257 (by kernel_rfl) (by kernel_rfl) rfl ?_
  rw [<-w]
  repeat'(first|refine wk1 ?_|(refine wk2 ?_ ?_<;>intro _)|refine wk4 ?_|fail);all_goals(conv=>whnf)
  exact Za rfl
def r204:List AV->Option PRes
 | [.agg [.int .i64 a,.int .i64 b,.int .i64 c,.int .i64 d,.int .i64 x,.int .i64 y,.int .i64 z,.int .i64 w]]=>some ⟨.tup [I (Zon ⟨a,b,c,d⟩ ⟨x,y,z,w⟩),I (Zom ⟨a,b,c,d⟩ ⟨x,y,z,w⟩)],[]⟩
 | _=>none
def r207:List AV->Option PRes
 | [.int .i64 fr,.int .i64 den,.int .i64 to,.int .i64 oth,.int .i64 a,.int .i64 b]=>some ⟨Bo (ovl fr den to oth a b),[]⟩
 | _=>none
def r182:List AV->Option PRes
 | [.agg [.int .i64 a,.int .i64 b,.int .i64 c,.int .i64 d,.int .i64 x,.int .i64 y,.int .i64 z,.int .i64 w]]=>some ⟨.tup [I (midX ⟨a,b,c,d⟩ ⟨x,y,z,w⟩),I (midY ⟨a,b,c,d⟩ ⟨x,y,z,w⟩),I (midD ⟨a,b,c,d⟩ ⟨x,y,z,w⟩)],[]⟩
 | _=>none
def kF2:PC:=ins 251 r204 (ins 252 r207 (ins 235 r182 kG3))
theorem Zy2:PCOK Tryz.prog kF2:=by
 refine Zi (fun a res h=>?_) (Zi (fun a res h=>?_) (Zi (fun a res h=>?_) Vb))
 ·unfold r204 at h; split at h<;>cases h; exact c204 ⟨_,_,_,_⟩ ⟨_,_,_,_⟩
 ·unfold r207 at h; split at h<;>cases h; exact c207 _ _ _ _ _ _
 ·unfold r182 at h; split at h<;>cases h; exact c182 ⟨_,_,_,_⟩ ⟨_,_,_,_⟩
theorem c208 (p q:Pt) (x y:Int):PCall Tryz.prog 253 [wayA p q,P2 x y] ⟨I (Zgd p q x y),[]⟩:=by
 have hk:=Zd (c215 (a:=Zon p q) (b:=Qa Qb (Qa Qb (y*p.d)-p.y)) (c:=Zom p q) (d:=Qa Qb (Qa Qb (x*p.d)-p.x)) (Zsc _) (Zsc _) (Zsc _) (Zsc _)) Zy2
 refine bs.pv (sx:=nos) hk Tryz.func253 (by kernel_rfl) (by kernel_rfl) rfl ?_
 repeat'(first|refine wk0 ?_|(refine wk2 ?_ ?_<;>intro _)|refine wk4 ?_|fail);all_goals(conv=>whnf)
 exact Za rfl
def r208:List AV->Option PRes
 | [.agg [.int .i64 a,.int .i64 b,.int .i64 c,.int .i64 d,.int .i64 x,.int .i64 y,.int .i64 z,.int .i64 w],.agg [.int .i64 u,.int .i64 v]]=>some ⟨I (Zgd ⟨a,b,c,d⟩ ⟨x,y,z,w⟩ u v),[]⟩
 | _=>none
def kF3:PC:=ins 253 r208 kF2
theorem Ycw:PCOK Tryz.prog kF3:=by
 refine Zi (fun a res h=>?_) Zy2
 unfold r208 at h; split at h<;>cases h; exact c208 ⟨_,_,_,_⟩ ⟨_,_,_,_⟩ _ _
theorem c181 (p q:Pt) (w:Wl):PCall Tryz.prog 234 [wayA p q,w.av] ⟨Bo (touP p q w),[]⟩:=by
 obtain ⟨pa,pb,pc,pd⟩:=p
 obtain ⟨qa,qb,qc,qd⟩:=q
 obtain ⟨wn,wa,wb,wc,wd⟩:=w
 refine bs.pv (sx:=nos) Ycw Tryz.func234 (by kernel_rfl) (by kernel_rfl) rfl ?_
 repeat'(first|refine wk0 ?_|(refine wk2 ?_ ?_<;>intro _)|refine wk4 ?_|fail);all_goals(conv=>whnf)
 all_goals exact Zc (by simp_all [touP]<;>omega)
def r181:List AV->Option PRes
 | [.agg [.int .i64 a,.int .i64 b,.int .i64 c,.int .i64 d,.int .i64 x,.int .i64 y,.int .i64 z,.int .i64 w],.agg [.int .i64 n,.int .i64 fx,.int .i64 fy,.int .i64 tx,.int .i64 ty]]=>some ⟨Bo (touP ⟨a,b,c,d⟩ ⟨x,y,z,w⟩ ⟨n,fx,fy,tx,ty⟩),[]⟩
 | _=>none
def Yb0:List AV->Option PRes
 | [.agg [.int .i64 a,.int .i64 b,.int .i64 c,.int .i64 d],.int .i64 x,.int .i64 y,.int .i64 z]=>some ⟨Bo (Rc.has ⟨a,b,c,d⟩ x y z),[]⟩
 | _=>none
def Yb1:List AV->Option PRes
 | [.agg [.int .i64 a,.int .i64 b,.int .i64 c,.int .i64 d],.int .i64 x,.int .i64 y,.int .i64 z]=>some ⟨Bo (Rc.holds ⟨a,b,c,d⟩ x y z),[]⟩
 | _=>none
def kF4:PC:=ins 234 r181 (ins 256 Yb0 (ins 233 Yb1 (ins 235 r182 (ins 224 r170 kG3))))
theorem Zqs:PCOK Tryz.prog kF4:=by
 refine Zi (fun a res h=>?_) (Zi (fun a res h=>?_) (Zi (fun a res h=>?_) (Zi (fun a res h=>?_) (Zi (fun a res h=>?_) Vb))))
 ·unfold r181 at h; split at h<;>cases h; exact c181 ⟨_,_,_,_⟩ ⟨_,_,_,_⟩ ⟨_,_,_,_,_⟩
 ·unfold Yb0 at h; split at h<;>cases h; exact c211 ⟨_,_,_,_⟩ _ _ _
 ·unfold Yb1 at h; split at h<;>cases h; exact c193 ⟨_,_,_,_⟩ _ _ _
 ·unfold r182 at h; split at h<;>cases h; exact c182 ⟨_,_,_,_⟩ ⟨_,_,_,_⟩
 ·unfold r170 at h; split at h<;>cases h; exact c170 _ _ _ _ _ _ _
theorem c209 (r:Rc) (p q:Pt):PCall Tryz.prog 254 [r.av,wayA p q] ⟨Bo (Zsn r p q),[]⟩:=by
 obtain ⟨ra,rb,rc,rd⟩:=r
 obtain ⟨pa,pb,pc,pd⟩:=p
 obtain ⟨qa,qb,qc,qd⟩:=q
 refine bs.pv (sx:=nos) Zqs Tryz.func254 (by kernel_rfl) (by kernel_rfl) rfl ?_
 repeat'(first|refine wk0 ?_|(refine wk2 ?_ ?_<;>intro _)|refine wk4 ?_|fail);all_goals(conv=>whnf)
 all_goals try (refine Tt 5 ?_)
 iterate 5
  all_goals try (refine Rn (bs.av (sx:=nos) Zqs ?_))
  repeat'(first|refine wk0 ?_|(refine wk2 ?_ ?_<;>intro _)|refine wk4 ?_|fail);all_goals(conv=>whnf)
 all_goals exact Zc (by simp_all [Zsn,edgP])
def atP (ht:Int) (p q:Pt):Int × Int × Int × Bool:=if 0<=Qa Qb (sgn (zOff ht p)*sgn (zOff ht q)) then (0,0,0,false) else (atX p.x q.x (size (zOff ht q)) (size (zOff ht p)),atX p.y q.y (size (zOff ht q)) (size (zOff ht p)),atX p.d q.d (size (zOff ht q)) (size (zOff ht p)),true)
theorem c210 (ht:Int) (p q:Pt):PCall Tryz.prog 255 [wayA p q,I ht] ⟨.tup [I (atP ht p q).1,I (atP ht p q).2.1,I (atP ht p q).2.2.1,Bo (atP ht p q).2.2.2],[]⟩:=by
 refine bs.pv (sx:=nos) Vb Tryz.func255 (by kernel_rfl) (by kernel_rfl) rfl ?_
 unfold atP
 by_cases hc:0<=Qa Qb (sgn (zOff ht p)*sgn (zOff ht q))
 ·rw [if_pos hc]
  unfold zOff at hc
  repeat'(first|refine wk3 ?_|(refine wk2 ?_ ?_<;>intro _)|refine wk4 ?_|fail);all_goals(conv=>whnf)
  exact Zg rfl rfl
 ·rw [if_neg hc]
  unfold zOff at hc
  repeat'(first|refine wk3 ?_|(refine wk2 ?_ ?_<;>intro _)|refine wk4 ?_|fail);all_goals(conv=>whnf)
  exact Zg rfl rfl
def r210:List AV->Option PRes
 | [.agg [.int .i64 a,.int .i64 b,.int .i64 c,.int .i64 d,.int .i64 x,.int .i64 y,.int .i64 z,.int .i64 w],.int .i64 ht]=>some ⟨.tup [I (atP ht ⟨a,b,c,d⟩ ⟨x,y,z,w⟩).1,I (atP ht ⟨a,b,c,d⟩ ⟨x,y,z,w⟩).2.1,I (atP ht ⟨a,b,c,d⟩ ⟨x,y,z,w⟩).2.2.1,Bo (atP ht ⟨a,b,c,d⟩ ⟨x,y,z,w⟩).2.2.2],[]⟩
 | _=>none
def r209:List AV->Option PRes
 | [.agg [.int .i64 e,.int .i64 f,.int .i64 g,.int .i64 h],.agg [.int .i64 a,.int .i64 b,.int .i64 c,.int .i64 d,.int .i64 x,.int .i64 y,.int .i64 z,.int .i64 w]]=>some ⟨Bo (Zsn ⟨e,f,g,h⟩ ⟨a,b,c,d⟩ ⟨x,y,z,w⟩),[]⟩
 | _=>none
def kF5:PC:=ins 254 r209 (ins 255 r210 kF4)
theorem Ycv:PCOK Tryz.prog kF5:=by
 refine Zi (fun a res h=>?_) (Zi (fun a res h=>?_) Zqs)
 ·unfold r209 at h; split at h<;>cases h; exact c209 ⟨_,_,_,_⟩ ⟨_,_,_,_⟩ ⟨_,_,_,_⟩
 ·unfold r210 at h; split at h<;>cases h; exact c210 _ ⟨_,_,_,_⟩ ⟨_,_,_,_⟩
theorem c184 {h:Hal} {s:Stg} (g:Sit h s) {j:Nat} (hj:j<h.ks.length) (p q:Pt):PCall Tryz.prog 236 [.agg (stgL h s),I j,wayA p q] ⟨Bo (blkP h.ks[j].rc (Vx h s j) p q),[]⟩:=by
 have hk:=Zd (c192 g hj) Ycv
 have e5:=Zbb hj
 have l2:=Yt h.ks
 generalize Vx h s j=ht at *
 generalize h.ks[j]=c at *
 unfold blkP
 by_cases hc:p.z=Qa Qb (ht*p.d)/\q.z=Qa Qb (ht*q.d)
 ·rw [if_pos hc]
  obtain ⟨h1,h2⟩:=hc
  refine bs.pv (sx:=nos) hk Tryz.func236 (by kernel_rfl) (by kernel_rfl) rfl ?_
  repeat'(first|refine wk3 ?_|(refine wk2 ?_ ?_<;>intro _)|refine wk4 ?_|fail);all_goals(conv=>whnf)
  exact Zc rfl
 ·rw [if_neg hc]
  have hat:atP ht p q=if 0<=Qa Qb (sgn (zOff ht p)*sgn (zOff ht q)) then (0,0,0,false) else (atX p.x q.x (size (zOff ht q)) (size (zOff ht p)),atX p.y q.y (size (zOff ht q)) (size (zOff ht p)),atX p.d q.d (size (zOff ht q)) (size (zOff ht p)),true):=rfl
  have hk2:=Zd (c210 ht p q) hk
  rw [hat] at hk2
  clear hk hat
  have hc2:¬ p.z=Qa Qb (ht*p.d)\/(p.z=Qa Qb (ht*p.d) /\ ¬ q.z=Qa Qb (ht*q.d)):=by
   by_cases h1:p.z=Qa Qb (ht*p.d)
   ·exact .inr ⟨h1,fun h2=>hc ⟨h1,h2⟩⟩
   ·exact .inl h1
  clear hc
  by_cases hs:0<=Qa Qb (sgn (zOff ht p)*sgn (zOff ht q))
  ·rw [if_pos hs] at hk2 ⊢
   clear hs
   rcases hc2 with h1|⟨h1,h2⟩
   all_goals
    refine bs.pv (sx:=nos) hk2 Tryz.func236 (by kernel_rfl) (by kernel_rfl) rfl ?_
    repeat'(first|refine wk3 ?_|(refine wk2 ?_ ?_<;>intro _)|refine wk4 ?_|fail);all_goals(conv=>whnf)
    exact Zc rfl
  ·rw [if_neg hs] at hk2 ⊢
   clear hs
   rcases hc2 with h1|⟨h1,h2⟩
   all_goals
    refine bs.pv (sx:=nos) hk2 Tryz.func236 (by kernel_rfl) (by kernel_rfl) rfl ?_
    repeat'(first|refine wk3 ?_|(refine wk2 ?_ ?_<;>intro _)|refine wk4 ?_|fail);all_goals(conv=>whnf)
    exact Zc rfl
def zBad (h:Hal) (p q:Pt):Bool:=(decide (p.z=0)&&decide (q.z=0))||(decide (p.z=Qa Qb (h.ht*p.d))&&decide (q.z=Qa Qb (h.ht*q.d)))||decide (p.z<0)||decide (q.z<0)||decide (Qa Qb (h.ht*p.d)<p.z)||decide (Qa Qb (h.ht*q.d)<q.z)
def blkA (h:Hal) (s:Stg) (p q:Pt):Nat->List Can->Bool
 | _,[]=>false
 | j,c::l=>blkP c.rc (Vx h s j) p q||blkA h s p q (j+1) l
def Ze0 (h:Hal) (s:Stg) (p q:Pt):Bool:=!zBad h p q&&(!(wls h.cs).any (touP p q)&&(Ye h (midX p q) (midY p q) (midD p q) && !blkA h s p q 0 h.ks))
noncomputable abbrev blks (h:Hal) (s:Stg) (p q:Pt):List AV->Option PRes:=famA (fun j:Nat=>j<h.ks.length) (fun j=>[.agg (stgL h s),I j,wayA p q]) (fun j=>⟨Bo (blkP ((h.ks[j]?).getD ⟨⟨#[]⟩,⟨#[]⟩,0,0,0,0,[]⟩).rc (Vx h s j) p q),[]⟩)
theorem Zya {h:Hal} {s:Stg} {p q:Pt} {j:Nat} (hj:j<h.ks.length):blks h s p q [.agg (stgL h s),I j,wayA p q]=some ⟨Bo (blkP h.ks[j].rc (Vx h s j) p q),[]⟩:=by
 have:=Zq (p:=fun j:Nat=>j<h.ks.length) (g:=fun j:Nat=>[.agg (stgL h s),I j,wayA p q]) (r:=fun j=>⟨Bo (blkP ((h.ks[j]?).getD ⟨⟨#[]⟩,⟨#[]⟩,0,0,0,0,[]⟩).rc (Vx h s j) p q),[]⟩) (k:=j) (fun i hi=>by
  simp only [Qv,Sj,true_and,and_true] at hi
  have:i=j:=by omega
  subst this; rfl) hj
 refine this.trans ?_
 rw [Qg hj]; rfl
noncomputable def kF6 (h:Hal) (s:Stg) (p q:Pt):PC:=ins 236 (blks h s p q) (ins 229 (one [h.av,I (midX p q),I (midY p q),I (midD p q)] ⟨Bo (Ye h (midX p q) (midY p q) (midD p q)),[]⟩) kF4)
theorem Ycu {h:Hal} {s:Stg} (g:Sit h s) (p q:Pt):PCOK Tryz.prog (kF6 h s p q):=Zu (fun j hj=>by rw [Qg hj]; exact c184 g hj p q) (Zd (c183 g.ok.f _ _ _) Zqs)
theorem c103 {h:Hal} {s:Stg} (g:Sit h s) (p q:Pt):PCall Tryz.prog 202 [.agg (stgL h s),wayA p q] ⟨Bo (Ze0 h s p q),[]⟩:=by
 have hk:=Ycu g p q
 refine bs.pv (sx:=nos) hk Tryz.func202 (by kernel_rfl) (by kernel_rfl) rfl ?_
 cases hz:zBad h p q with
 | true =>
  unfold Ze0
  rw [hz]
  repeat'(first|refine wk3 ?_|(refine wk2 ?_ ?_<;>intro _)|refine wk4 ?_|fail);all_goals(conv=>whnf)
  all_goals first
   | exact Zc rfl
   | (exfalso; clear hk; simp_all [zBad]; done)
   | (exfalso; clear hk; simp_all [zBad]; omega)
 | false =>
  have e:Ze0 h s p q=(!(wls h.cs).any (touP p q)&&(Ye h (midX p q) (midY p q) (midD p q) && !blkA h s p q 0 h.ks)):=by unfold Ze0; rw [hz]; rfl
  rw [e]
  clear e
  unfold zBad at hz
  simp only [Oz,Bool.and_eq_false_iff,decide_eq_false_iff_not] at hz
  obtain ⟨⟨⟨⟨⟨z1,z2⟩,z3⟩,z4⟩,z5⟩,z6⟩:=hz
  repeat'(first|refine wk3 ?_|(refine wk2 ?_ ?_<;>intro _)|refine wk4 ?_|fail);all_goals(conv=>whnf)
  all_goals try (exfalso; clear hk; simp_all; done)
  all_goals
   refine Rg.ren (env2:=[(2,.ptr 0 0 0),(4,.ptr 2 0 0),(9,.ptr 43 0 0),(92,.func 227 [h.av] [])]) (σ2:=⟨[(43,.row 8 [[I p.x,I p.y,I p.z,I p.d,I q.x,I q.y,I q.z,I q.d]] true false),(2,.row 1 [[Bo false]] true false),(0,.row 11 [stgL h s] true false)],44⟩) (Ren.of [] rfl (kps) (kps)) ?_
   clear z1 z2 z3 z4 z5 z6
   refine rngV (itW g.ok.f) rfl rfl rfl rfl (Zer (S:=Unit) (fun _=>[(43,.row 8 [[I p.x,I p.y,I p.z,I p.d,I q.x,I q.y,I q.z,I q.d]] true false),(2,.row 1 [[Bo false]] true false),(0,.row 11 [stgL h s] true false)]) 44 44 (fun xs _=>∃ l:List Wl,xs=l.map (fun w=>[w.av])/\(!l.any (touP p q)&&(Ye h (midX p q) (midY p q) (midD p q) && !blkA h s p q 0 h.ks))=(!(wls h.cs).any (touP p q)&&(Ye h (midX p q) (midY p q) (midD p q) && !blkA h s p q 0 h.ks))) ?_ ?_ _ () ⟨_,rfl,rfl⟩)
   ·rintro u us _ ⟨l,h1,h2⟩
    cases l with
    | nil=>simp at h1
    | cons w l =>
     simp only [List.map_cons,Qv] at h1
     obtain ⟨rfl,rfl⟩:=h1
     obtain ⟨wn,wa,wb,wc,wd⟩:=w
     rw [Oe] at h2
     refine ⟨rfl,bs.av (sx:=nos) hk ?_⟩
     repeat'(first|refine wk3 ?_|(refine wk2 ?_ ?_<;>intro _)|refine wk4 ?_|fail);all_goals(conv=>whnf)
     refine Bd.mk (bs.av (sx:=nos) hk ?_)
     repeat'(first|refine wk3 ?_|(refine wk2 ?_ ?_<;>intro _)|refine wk4 ?_|fail);all_goals(conv=>whnf)
     ·rename_i hx
      rw [<-h2,hx]
      exact Zc rfl
     ·rename_i hx
      rw [hx,Ww] at h2
      exact Qn ⟨(),[],rfl,kps,l,rfl,h2⟩
   ·rintro _ ⟨l,h1,h2⟩
    cases l with
    | cons w l=>simp at h1
    | nil =>
     rw [<-h2]
     clear h1 h2
     rw [List.any_nil]
     repeat'(first|refine wk3 ?_|(refine wk2 ?_ ?_<;>intro _)|refine wk4 ?_|fail);all_goals(conv=>whnf)
     ·rename_i hx
      have hx:Ye h (midX p q) (midY p q) (midD p q)=false:=by simpa using hx
      rw [hx]
      exact Zc rfl
     ·rename_i hx
      have hx:Ye h (midX p q) (midY p q) (midD p q)=true:=by simpa using hx
      rw [hx]
      have l4:=Yt h.ks
      have f4:=g.ok.f.2.2.2.1
      refine Zw (S:=Nat × Int) (fun t=>h.ks.length-t.1) (fun t=>[(2,.ptr 0 0 0),(4,.ptr 2 0 0),(9,.ptr 43 0 0),(114,I (h.ks.map Can.av).length),(115,I t.2)]) (fun _=>[(43,.row 8 [[I p.x,I p.y,I p.z,I p.d,I q.x,I q.y,I q.z,I q.d]] true false),(2,.row 1 [[Bo false]] true false),(0,.row 11 [stgL h s] true false)]) 60 60 (fun t=>t.2=t.1/\t.1<=h.ks.length/\blkA h s p q t.1 (h.ks.drop t.1)=blkA h s p q 0 h.ks) (0,0) ⟨rfl,Nat.zero_le _,rfl⟩ (Nat.le_of_ble_eq_true rfl) [] rfl (kps) (kps) ?_
      rintro ⟨k,i⟩ ⟨hi,hkk,hh⟩
      dsimp only at hi hkk hh ⊢
      subst hi
      refine bs.av (sx:=nos) hk ?_
      by_cases hlt:k<h.ks.length
      ·rw [List.drop_eq_getElem_cons hlt,blkA] at hh
       have hb:=Zya (p:=p) (q:=q) (s:=s) hlt
       generalize blkP h.ks[k].rc (Vx h s k) p q=b at *
       cases b with
       | true =>
        rw [<-hh]
        repeat'(first|refine wk3 ?_|(refine wk2 ?_ ?_<;>intro _)|refine wk4 ?_|fail);all_goals(conv=>whnf)
        exact Zc rfl
       | false =>
        rw [Ww] at hh
        repeat'(first|refine wk3 ?_|(refine wk2 ?_ ?_<;>intro _)|refine wk4 ?_|fail);all_goals(conv=>whnf)
        exact Qn ⟨(k+1,_),[],rfl,kps,kps,⟨Zf (by omega),hlt,hh⟩,by dsimp only; omega⟩
      ·rw [List.drop_of_length_le (by omega),blkA] at hh
       rw [<-hh]
       repeat'(first|refine wk3 ?_|(refine wk2 ?_ ?_<;>intro _)|refine wk4 ?_|fail);all_goals(conv=>whnf)
       exact Zc rfl
def ptEq (p q:Pt):Bool:=decide (p.x=q.x)&&decide (p.y=q.y)&&decide (p.z=q.z)&&decide (p.d=q.d)
def wayE (h:Hal) (s:Stg) (p q:Pt):Int:=if serr h s=0 then (if Yu p=0 then (if Yu q=0 then (if ptEq p q then 11 else 0) else Yu q) else Yu p) else serr h s
abbrev sxF:FuncId->Bool:=fun f=>Qm f 163||Qm f 199||Qm f 200||Qm f 201
noncomputable abbrev ptEs:List AV->Option PRes:=famA (fun p:Pt=>p.wf) (fun p=>[p.av]) (fun p=>⟨I (Yu p),[]⟩)
theorem Zqf {p:Pt} (h:p.wf):ptEs [p.av]=some ⟨I (Yu p),[]⟩ :=
 Zq (p:=fun p:Pt=>p.wf) (g:=fun p=>[p.av]) (r:=fun p=>⟨I (Yu p),[]⟩) (fun j hj=>by
  obtain ⟨a,b,c,d⟩:=j
  obtain ⟨a',b',c',d'⟩:=p
  simp only [Qv,AV.agg.injEq,Sj,true_and,and_true] at hj
  obtain ⟨rfl,rfl,rfl,rfl⟩:=hj
  rfl) h
theorem c37 {h:Hal} (hk:h.ok) {s:Stg} (hs:s.few) {p q:Pt} (hp:p.wf) (hq:q.wf):PCall Tryz.prog 114 [h.av,s.av,wayA p q] ⟨.tup [Bo (decide (wayE h s p q=0)&&Ze0 h s p q),I (wayE h s p q)],[]⟩:=by
 have hk0:PCOK Tryz.prog (ins 154 ptEs (ins 104 (one [h.av,s.av] ⟨.tup [.agg (stgL h s),I (serr h s)],[]⟩) kG4)):=Zu (fun p hp=>c99 hp) (Zd (c83 hk hs) Ut)
 have t1:=Zqf hp
 have t2:=Zqf hq
 unfold wayE
 by_cases h0:serr h s=0
 ·have g:=Zfd hk hs h0
  rw [h0] at hk0
  rw [if_pos h0]
  have hk1:=Zd (c103 g p q) hk0
  clear hk0 h0
  generalize Ze0 h s p q=fr at *
  generalize Yu p=e1 at *
  generalize Yu q=e2 at *
  by_cases h1:e1=0
  ·rw [if_pos h1]
   subst h1
   by_cases h2:e2=0
   ·rw [if_pos h2]
    subst h2
    have hx:(true ^^ (decide (p.x=q.x)&&(decide (p.y=q.y)&&(decide (p.z=q.z)&&(decide (p.d=q.d)&&true))))) = !ptEq p q:=by
     unfold ptEq
     cases decide (p.x=q.x)<;>cases decide (p.y=q.y)<;>cases decide (p.z=q.z)<;>cases decide (p.d=q.d)<;>rfl
    cases hq:ptEq p q with
    | true =>
     rw [hq] at hx
     have hu:unl (true ^^ (decide (p.x=q.x)&&(decide (p.y=q.y)&&(decide (p.z=q.z)&&(decide (p.d=q.d)&&true))))) 11=11:=by rw [hx]; rfl
     clear hx hq
     refine bs.pv (sx:=sxF) hk1 Tryz.func114 (by kernel_rfl) (by kernel_rfl) rfl ?_
     repeat'(first|refine wk3 ?_|(refine wk2 ?_ ?_<;>intro _)|refine wk4 ?_|fail);all_goals(conv=>whnf)
     refine bs.sv (sx:=sxF) hk1 Tryz.func163 (by kernel_rfl) (by kernel_rfl) ?_
     refine Tt 4 ?_
     refine Rn (bs.av (sx:=sxF) hk1 ?_)
     repeat'(first|refine wk3 ?_|(refine wk2 ?_ ?_<;>intro _)|refine wk4 ?_|fail);all_goals(conv=>whnf)
     refine bs.sv (sx:=sxF) hk1 Tryz.func199 (by kernel_rfl) (by kernel_rfl) ?_
     repeat'(first|refine wk3 ?_|(refine wk2 ?_ ?_<;>intro _)|refine wk4 ?_|fail);all_goals(conv=>whnf)
     refine Rn (bs.av (sx:=sxF) hk1 ?_)
     repeat'(first|refine wk3 ?_|(refine wk2 ?_ ?_<;>intro _)|refine wk4 ?_|fail);all_goals(conv=>whnf)
     refine bs.sv (sx:=sxF) hk1 Tryz.func200 (by kernel_rfl) (by kernel_rfl) ?_
     repeat'(first|refine wk3 ?_|(refine wk2 ?_ ?_<;>intro _)|refine wk4 ?_|fail);all_goals(conv=>whnf)
     refine Rn (bs.av (sx:=sxF) hk1 ?_)
     repeat'(first|refine wk3 ?_|(refine wk2 ?_ ?_<;>intro _)|refine wk4 ?_|fail);all_goals(conv=>whnf)
     refine bs.sv (sx:=sxF) hk1 Tryz.func201 (by kernel_rfl) (by kernel_rfl) ?_
     repeat'(first|refine wk3 ?_|(refine wk2 ?_ ?_<;>intro _)|refine wk4 ?_|fail);all_goals(conv=>whnf)
     exact Zg (by rw [hu]; rfl) rfl
    | false =>
     rw [hq] at hx
     have hu:unl (true ^^ (decide (p.x=q.x)&&(decide (p.y=q.y)&&(decide (p.z=q.z)&&(decide (p.d=q.d)&&true))))) 11=0:=by rw [hx]; rfl
     clear hx hq
     refine bs.pv (sx:=sxF) hk1 Tryz.func114 (by kernel_rfl) (by kernel_rfl) rfl ?_
     repeat'(first|refine wk3 ?_|(refine wk2 ?_ ?_<;>intro _)|refine wk4 ?_|fail);all_goals(conv=>whnf)
     refine bs.sv (sx:=sxF) hk1 Tryz.func163 (by kernel_rfl) (by kernel_rfl) ?_
     refine Tt 4 ?_
     refine Rn (bs.av (sx:=sxF) hk1 ?_)
     repeat'(first|refine wk3 ?_|(refine wk2 ?_ ?_<;>intro _)|refine wk4 ?_|fail);all_goals(conv=>whnf)
     refine bs.sv (sx:=sxF) hk1 Tryz.func199 (by kernel_rfl) (by kernel_rfl) ?_
     repeat'(first|refine wk3 ?_|(refine wk2 ?_ ?_<;>intro _)|refine wk4 ?_|fail);all_goals(conv=>whnf)
     refine Rn (bs.av (sx:=sxF) hk1 ?_)
     repeat'(first|refine wk3 ?_|(refine wk2 ?_ ?_<;>intro _)|refine wk4 ?_|fail);all_goals(conv=>whnf)
     refine bs.sv (sx:=sxF) hk1 Tryz.func200 (by kernel_rfl) (by kernel_rfl) ?_
     repeat'(first|refine wk3 ?_|(refine wk2 ?_ ?_<;>intro _)|refine wk4 ?_|fail);all_goals(conv=>whnf)
     refine Rn (bs.av (sx:=sxF) hk1 ?_)
     repeat'(first|refine wk3 ?_|(refine wk2 ?_ ?_<;>intro _)|refine wk4 ?_|fail);all_goals(conv=>whnf)
     refine bs.sv (sx:=sxF) hk1 Tryz.func201 (by kernel_rfl) (by kernel_rfl) ?_
     repeat'(first|refine wk3 ?_|(refine wk2 ?_ ?_<;>intro _)|refine wk4 ?_|fail);all_goals(conv=>whnf)
     refine Rn (bs.av (sx:=sxF) hk1 ?_)
     repeat'(first|refine wk3 ?_|(refine wk2 ?_ ?_<;>intro _)|refine wk4 ?_|fail);all_goals(conv=>whnf)
     exact Zg (by cases fr<;>rfl) rfl
   ·rw [if_neg h2]
    refine bs.pv (sx:=sxF) hk1 Tryz.func114 (by kernel_rfl) (by kernel_rfl) rfl ?_
    repeat'(first|refine wk3 ?_|(refine wk2 ?_ ?_<;>intro _)|refine wk4 ?_|fail);all_goals(conv=>whnf)
    refine bs.sv (sx:=sxF) hk1 Tryz.func163 (by kernel_rfl) (by kernel_rfl) ?_
    refine Tt 4 ?_
    refine Rn (bs.av (sx:=sxF) hk1 ?_)
    repeat'(first|refine wk3 ?_|(refine wk2 ?_ ?_<;>intro _)|refine wk4 ?_|fail);all_goals(conv=>whnf)
    refine bs.sv (sx:=sxF) hk1 Tryz.func199 (by kernel_rfl) (by kernel_rfl) ?_
    repeat'(first|refine wk3 ?_|(refine wk2 ?_ ?_<;>intro _)|refine wk4 ?_|fail);all_goals(conv=>whnf)
    refine Rn (bs.av (sx:=sxF) hk1 ?_)
    repeat'(first|refine wk3 ?_|(refine wk2 ?_ ?_<;>intro _)|refine wk4 ?_|fail);all_goals(conv=>whnf)
    refine bs.sv (sx:=sxF) hk1 Tryz.func200 (by kernel_rfl) (by kernel_rfl) ?_
    repeat'(first|refine wk3 ?_|(refine wk2 ?_ ?_<;>intro _)|refine wk4 ?_|fail);all_goals(conv=>whnf)
    exact Zg (by rw [decide_eq_false h2]; rfl) rfl
  ·rw [if_neg h1]
   refine bs.pv (sx:=sxF) hk1 Tryz.func114 (by kernel_rfl) (by kernel_rfl) rfl ?_
   repeat'(first|refine wk3 ?_|(refine wk2 ?_ ?_<;>intro _)|refine wk4 ?_|fail);all_goals(conv=>whnf)
   refine bs.sv (sx:=sxF) hk1 Tryz.func163 (by kernel_rfl) (by kernel_rfl) ?_
   refine Tt 4 ?_
   refine Rn (bs.av (sx:=sxF) hk1 ?_)
   repeat'(first|refine wk3 ?_|(refine wk2 ?_ ?_<;>intro _)|refine wk4 ?_|fail);all_goals(conv=>whnf)
   refine bs.sv (sx:=sxF) hk1 Tryz.func199 (by kernel_rfl) (by kernel_rfl) ?_
   repeat'(first|refine wk3 ?_|(refine wk2 ?_ ?_<;>intro _)|refine wk4 ?_|fail);all_goals(conv=>whnf)
   exact Zg (by rw [decide_eq_false h1]; rfl) rfl
 ·rw [if_neg h0]
  generalize Ze0 h s p q=fr at *
  refine bs.pv (sx:=sxF) hk0 Tryz.func114 (by kernel_rfl) (by kernel_rfl) rfl ?_
  repeat'(first|refine wk3 ?_|(refine wk2 ?_ ?_<;>intro _)|refine wk4 ?_|fail);all_goals(conv=>whnf)
  exact Zg (by rw [decide_eq_false h0]; rfl) rfl
theorem Zvr {n d m k:Int} (hd:0<d) (hk:0<k) (h:n / d<m / k):cmpQ n d m k = -1:=by
 have h1:=Int.lt_ediv_add_one_mul_self n hd
 have h2:=Int.ediv_mul_le m (show k≠0 by omega)
 have h3:=Qi (show n / d+1<=m / k by omega) (Qq hd)
 have h4:=Tk (show n<m / k*d by omega) hk
 have h5:=Qi h2 (Qq hd)
 have e:m / k*d*k=m / k*k*d:=by grind
 unfold cmpQ sgn
 rw [if_neg (by omega),if_pos (by omega)]
theorem Zvq {n d m k:Int}:cmpQ n d m k = -cmpQ m k n d:=by
 unfold cmpQ
 have e:n*k-m*d = -(m*d-n*k):=by omega
 rw [e]
 generalize m*d-n*k=v
 unfold sgn
 split<;>split<;>(try split)<;>(try split)<;>omega
theorem Ybm {n d m k:Int} (h:n / d=m / k):cmpQ n d m k=cmpQ (n%d) d (m%k) k:=by
 unfold cmpQ
 have h1:=Mn n d
 have h2:=Mn m k
 congr 1
 rw [h] at h1
 generalize m / k=q at *
 generalize n%d=r at *
 generalize m%k=t at *
 subst h1 h2
 grind
theorem cmpQ_flip {n d m k:Int}:cmpQ n d m k=cmpQ k m d n:=by unfold cmpQ; congr 1; grind
noncomputable abbrev flr:List AV->Option PRes:=famA (fun p:Int × Int=>0<p.2 /\ -9223372036854775807<=p.1/\p.1<=9223372036854775807) (fun p=>[I p.1,I p.2]) (fun p=>⟨I (p.1 / p.2),[]⟩)
theorem Zuw {n b:Int} (hb:0<b) (h0 : -9223372036854775807<=n) (h1:n<=9223372036854775807):flr [I n,I b]=some ⟨I (n / b),[]⟩ :=
 Zq (p:=fun p:Int × Int=>0<p.2 /\ -9223372036854775807<=p.1/\p.1<=9223372036854775807) (g:=fun p=>[I p.1,I p.2]) (r:=fun p=>⟨I (p.1 / p.2),[]⟩) (k:=(n,b)) (fun j hj=>by
  simp only [Qv,Sj,true_and,and_true] at hj
  obtain ⟨h1,h2⟩:=hj
  dsimp only
  rw [h1,h2]) ⟨hb,h0,h1⟩
noncomputable def kC1:PC:=ins 39 flr pt0
theorem Zy4:PCOK Tryz.prog kC1:=Zu (fun p hp=>c90 hp.1 hp.2.1 hp.2.2) Zh
theorem Zoh {n d:Int} (hd:0<d) (hd2:d<=9223372036854775807):Qa Qb (n-Qa Qb (n / d*d))=n%d:=by
 have h1:=Lj n (show d≠0 by omega)
 have h2:=Nv n hd
 have h3:=Mn n d
 rw [Ra] at h3
 simp only [Sq]
 omega
theorem c187 {n d m k:Int} (hd:0<d) (hk:0<k) (hd2:d<=9223372036854775807) (hk2:k<=9223372036854775807) (hn : -9223372036854775807<=n/\n<=9223372036854775807) (hm : -9223372036854775807<=m/\m<=9223372036854775807):PCall Tryz.prog 214 [I n,I d,I m,I k] ⟨I (cmpQ n d m k),[]⟩:=by
 refine bs.pv (sx:=nos) Zy4 Tryz.func214 (by kernel_rfl) (by kernel_rfl) rfl ?_
 generalize hR:cmpQ n d m k=R
 refine Zw (S:=Int × Int × Int × Int) (fun t=>(t.2.1+t.2.2.2).toNat) (fun t=>[(0,I t.1),(1,I t.2.1),(2,I t.2.2.1),(3,I t.2.2.2)]) (fun _=>[]) 0 0 (fun t=>((0<t.2.1/\t.2.1<=9223372036854775807)/\(0<t.2.2.2/\t.2.2.2<=9223372036854775807))/\((-9223372036854775807<=t.1/\t.1<=9223372036854775807)/\(-9223372036854775807<=t.2.2.1/\t.2.2.1<=9223372036854775807))/\cmpQ t.1 t.2.1 t.2.2.1 t.2.2.2=R) (n,d,m,k) ⟨⟨⟨hd,hd2⟩,hk,hk2⟩,⟨hn,hm⟩,hR⟩ (Nat.le_refl _) [] rfl (kps) (kps) ?_
 clear hR hd hk hd2 hk2 hn hm
 rintro ⟨n,d,m,k⟩ ⟨⟨⟨hd,hd2⟩,hk,hk2⟩,⟨hn,hm⟩,hR⟩
 dsimp only at hd hd2 hk hk2 hn hm hR ⊢
 have t1:=Zuw hd hn.1 hn.2
 have t2:=Zuw hk hm.1 hm.2
 have w1:=Zoh (n:=n) hd hd2
 have w2:=Zoh (n:=m) hk hk2
 have n1:=Lj n (show d≠0 by omega)
 have n2:=Nv n hd
 have m1:=Lj m (show k≠0 by omega)
 have m2:=Nv m hk
 refine bs.av (sx:=nos) Zy4 ?_
 rcases Sv (n / d) (m / k) with hc|hc|hc
 ·have e:=Zvr hd hk hc
  rw [hR] at e
  rw [e]
  generalize n / d=P at *
  generalize m / k=Q at *
  repeat'(first|refine wk1 ?_|(refine wk2 ?_ ?_<;>intro _)|refine wk4 ?_|fail);all_goals(conv=>whnf)
  exact Za rfl
 ·have e:=Ybm hc
  rw [hR] at e
  rw [hc] at t1 w1
  generalize m / k=Q at *
  generalize n%d=r at *
  generalize m%k=t at *
  by_cases r0:r=0
  ·by_cases t0:t=0
   ·have:R=0:=by rw [e,r0,t0]; unfold cmpQ; simp [sgn]
    subst r0 t0
    rw [this]
    clear e hR this
    repeat'(first|refine wk1 ?_|(refine wk2 ?_ ?_<;>intro _)|refine wk4 ?_|fail);all_goals(conv=>whnf)
    all_goals first
     | exact Za rfl
     | (exfalso; rename_i hx; simp [w1,w2] at hx; done)
     | (exfalso; rename_i hx; simp [w1,w2] at hx; omega)
   ·have:R = -1:=by
     rw [e,r0]; unfold cmpQ sgn
     have:=Re (show 0<t by omega) hd
     rw [if_neg (by omega),if_pos (by omega)]
    rw [this]
    repeat'(first|refine wk1 ?_|(refine wk2 ?_ ?_<;>intro _)|refine wk4 ?_|fail);all_goals(conv=>whnf)
    all_goals first
     | exact Za rfl
     | (exfalso; rename_i hx; simp [w1,w2] at hx; done)
     | (exfalso; rename_i hx; simp [w1,w2] at hx; omega)
  ·by_cases t0:t=0
   ·have:R=1:=by
     rw [e,t0]; unfold cmpQ sgn
     have:=Re (show 0<r by omega) hk
     rw [if_pos (by omega)]
    rw [this]
    repeat'(first|refine wk1 ?_|(refine wk2 ?_ ?_<;>intro _)|refine wk4 ?_|fail);all_goals(conv=>whnf)
    all_goals first
     | exact Za rfl
     | (exfalso; rename_i hx; simp [w1,w2] at hx; done)
     | (exfalso; rename_i hx; simp [w1,w2] at hx; omega)
   ·repeat'(first|refine wk1 ?_|(refine wk2 ?_ ?_<;>intro _)|refine wk4 ?_|fail);all_goals(conv=>whnf)
    exact Qn ⟨(k,t,d,r),[],rfl,by rw [w1,w2]; exact kps,kps,⟨⟨⟨by dsimp only; omega,by dsimp only; omega⟩,by dsimp only; omega,by dsimp only; omega⟩,⟨⟨by dsimp only; omega,by dsimp only; omega⟩,by dsimp only; omega,by dsimp only; omega⟩,by rw [e]; exact cmpQ_flip.symm⟩,by dsimp only; omega⟩
 ·have e:=Zvr hk hd hc
  have e2:R=1:=by rw [<-hR,Zvq,e]; rfl
  rw [e2]
  generalize n / d=P at *
  generalize m / k=Q at *
  repeat'(first|refine wk1 ?_|(refine wk2 ?_ ?_<;>intro _)|refine wk4 ?_|fail);all_goals(conv=>whnf)
  exact Za rfl
end Go.Proofs.YtipbliclbihaeaaGreat
