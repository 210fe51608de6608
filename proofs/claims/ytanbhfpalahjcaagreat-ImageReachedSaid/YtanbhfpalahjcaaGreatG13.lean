/- A part of the proof: lemmas. -/
import Derived.Test.YtanbhfpalahjcaaGreatG12
import Derived.Test.YtanbhfpalahjcaaGreatG11
import Derived.Test.YtanbhfpalahjcaaGreatG7
set_option linter.unusedVariables false
set_option linter.unusedSimpArgs false
set_option maxRecDepth 100000
set_option maxHeartbeats 16000000
open Bool renaming and_eq_true->Qc,false_or->Wr,not_eq_false'->Mh,not_eq_true'->Te,true_and->Tv
open Go.Ge renaming lt->Fx
open Go.IntKind renaming i64->Qb,wrap->Qa
open Go.Proofs.YtanbhfpalahjcaaGreat.P2d.mk renaming injEq->Qad
open Go.Sx.AV.int renaming injEq->Tt
open Go.Sx.Done renaming mk->Qr
open Int renaming add_comm->Pi,add_zero->Wn,eq_of_mul_eq_mul_left->Pk,le_of_lt->Qg,le_of_mul_le_mul_left->Sw,le_refl->Wy,le_total->Lc,lt_of_mul_lt_mul_left->Sd,lt_or_le->Wc,lt_or_lt_of_ne->Mi,lt_trichotomy->We,mul_add->Fy,mul_assoc->Lr,mul_comm->Rl,mul_eq_zero->Wv,mul_le_mul_of_nonneg_left->Qw,mul_le_mul_of_nonneg_right->Qk,mul_lt_mul_of_pos_left->Rn,mul_lt_mul_of_pos_right->Wb,mul_neg->Rp,mul_neg_of_pos_of_neg->Ty,mul_nonneg->Qq,mul_nonneg_of_nonpos_of_nonpos->Wg,mul_one->Rw,mul_pos->Qv,mul_pos_of_neg_of_neg->Lf,mul_zero->Sb,natAbs_tmod->Ml,neg_mul->Tq,one_mul->Sj,tmod_nonneg->Qbc,toNat_natCast->Ri,zero_add->Ph,zero_mul->Sq
open Int.ofNat renaming inj->Jd
open List renaming map_congr_left->Nc,map_cons->Ss,mem_cons->Ra,mem_map->Ta,mem_range->Rx,range->Rv
open List.cons renaming injEq->Rd
open Nat renaming gcd->Oe,le_refl->Qd,mod_lt->Tx,zero_le->Qp
open Prod renaming ext->Tk
namespace Go.Proofs.YtanbhfpalahjcaaGreat
open Go Go.Sx Go.Ge
def insZ (cs:List (Int × Int)) (p:P2d):Bool:=xorL ((wls cs).map (flZ p))
theorem Zmq (cs:List (Int × Int)) {k:Int} (hk:0<k) (p:P2d):insZ cs (mulP k p)=insZ cs p:=by
 unfold insZ
 rw [show (wls cs).map (flZ (mulP k p))=(wls cs).map (flZ p) from Nc fun w _=>Yew hk _ _]
def pRy (o v:V) (k D:Int):P2d:=⟨o.1*D+k*v.1,o.2*D+k*v.2,D⟩
def gen (cs:List (Int × Int)) (o v:V):Prop:=∀ i,i<cs.length->(wa (wlOf cs i) o≠(0,0)->cr v (wa (wlOf cs i) o)≠0)/\(wb (wlOf cs i) o≠(0,0)->cr v (wb (wlOf cs i) o)≠0)
theorem Yga (Kp E p q:Int) (v P Q:V) (h1:Kp*(p+q)*v.1=E*(p*P.1+q*Q.1)) (h2:Kp*(p+q)*v.2=E*(p*P.2+q*Q.2)):Kp*(p+q)*cr P v=E*q*cr P Q/\Kp*(p+q)*cr v Q=E*p*cr P Q:=by
 unfold cr
 constructor<;>grind
theorem Ybl {P Q v:V} {Kp E p q:Int} (hc:0<cr P Q) (hK:0<Kp) (hE:0<E) (hp:0<=p) (hq:0<=q) (hpq:0<p+q) (h1:Kp*(p+q)*v.1=E*(p*P.1+q*Q.1)) (h2:Kp*(p+q)*v.2=E*(p*P.2+q*Q.2)) :
  InC ⟨P,Q⟩ v/\Kp*Sg.n ⟨P,Q⟩ v=E*Sg.c ⟨P,Q⟩:=by
 obtain ⟨e1,e2⟩:=Yga Kp E p q v P Q h1 h2
 have hKp:=Qv hK hpq
 refine ⟨⟨Zai (a:=Kp*(p+q)) ?_ hKp,Zai (a:=Kp*(p+q)) ?_ hKp⟩,?_⟩
 ·dsimp only; rw [e1]; exact Qq (Qq (Qg hE) hq) (Qg hc)
 ·dsimp only; rw [e2]; exact Qq (Qq (Qg hE) hp) (Qg hc)
 ·unfold Sg.n Sg.c
  dsimp only
  refine Pk (a:=p+q) (by omega) ?_
  have a1:(p+q)*(Kp*(cr P v+cr v Q))=Kp*(p+q)*cr P v+Kp*(p+q)*cr v Q:=by grind
  rw [a1,e1,e2]
  grind
def onO (cs:List (Int × Int)) (o:V) (i:Nat):Prop:=∃ s t:Int,0<=s/\0<=t/\0<s+t/\s*(wa (wlOf cs i) o).1+t*(wb (wlOf cs i) o).1=0/\s*(wa (wlOf cs i) o).2+t*(wb (wlOf cs i) o).2=0
theorem Ydf {h:Hal} (hs:Vd h.cs) {o v:V} (hg:gen h.cs o v) (hv:v≠(0,0)) {k1 k2 D:Int} (hD:0<D) (hk1:0<=k1) (h12:k1<=k2) {i:Nat} (hi:i<h.cs.length) (hO:0<k1 \/ ¬ onO h.cs o i)
  (ht:tch (pRy o v k1 D) (pRy o v k2 D) D (wlOf h.cs i).fx (wlOf h.cs i).fy (wlOf h.cs i).tx (wlOf h.cs i).ty) :
  ∃ s,sgH h.cs o i=some s/\InC s v/\0<s.n v/\k1*s.n v<=s.c*D/\s.c*D<=k2*s.n v:=by
 obtain ⟨n,sx,sy,g⟩:=hs i hi
 obtain ⟨gA,gB⟩:=hg i hi
 obtain ⟨s,t,l,m,s0,t0,st,l0,m0,lm,e1,e2⟩:=ht
 have hA:(wlOf h.cs i).fx=(wa (wlOf h.cs i) o).1+o.1/\(wlOf h.cs i).fy=(wa (wlOf h.cs i) o).2+o.2:=by unfold wa; dsimp only; omega
 have hB:(wlOf h.cs i).tx=(wb (wlOf h.cs i) o).1+o.1/\(wlOf h.cs i).ty=(wb (wlOf h.cs i) o).2+o.2:=by unfold wb; dsimp only; omega
 have hne:¬(wa (wlOf h.cs i) o=(0,0)/\wb (wlOf h.cs i) o=(0,0)):=by
  rintro ⟨q1,q2⟩
  rw [q1] at hA
  rw [q2] at hB
  dsimp only at hA hB
  have a:=g.tx
  have b:=g.ty
  have hxy:=g.hxy
  have hn:=g.hn
  have z1:n*sx=0:=by omega
  have z2:n*sy=0:=by omega
  exact hxy ⟨Yg z1 hn,Yg z2 hn⟩
 unfold onO at hO
 unfold sgH sgW
 generalize wa (wlOf h.cs i) o=A at *
 generalize wb (wlOf h.cs i) o=B at *
 rw [hA.1,hB.1] at e1
 rw [hA.2,hB.2] at e2
 unfold pRy at e1 e2
 dsimp only at e1 e2
 have hE:0<(l+m)*D:=Qv lm hD
 have f1:(l*k1+m*k2)*(s+t)*v.1=(l+m)*D*(s*A.1+t*B.1):=by grind
 have f2:(l*k1+m*k2)*(s+t)*v.2=(l+m)*D*(s*A.2+t*B.2):=by grind
 have hKp:0<l*k1+m*k2:=by
  have a1:=Qq l0 hk1
  have a2:=Qq m0 (by omega:0<=k2)
  rcases hO with hk1|hO
  ·rcases Wc 0 l with q|q
   ·have:=Qv q hk1; omega
   ·have:=Qv (by omega:0<m) (by omega:0<k2); omega
  ·rcases Wc 0 (l*k1+m*k2) with q|q
   ·exact q
   exfalso
   rw [show l*k1+m*k2=0 by omega,Sq,Sq] at f1 f2
   exact hO ⟨s,t,s0,t0,st,Yg f1.symm hE,Yg f2.symm hE⟩
 have lo:k1*((l+m)*D)<=(l*k1+m*k2)*D:=by
  have a2:=Qw h12 m0
  have:k1*(l+m)<=l*k1+m*k2:=by rw [Fy,Rl k1 l,Rl k1 m]; omega
  have:=Qk this (Qg hD)
  rwa [Lr] at this
 have hi2:(l*k1+m*k2)*D<=k2*((l+m)*D):=by
  have a2:=Qw h12 l0
  have:l*k1+m*k2<=k2*(l+m):=by rw [Fy,Rl k2 l,Rl k2 m]; omega
  have:=Qk this (Qg hD)
  rwa [Lr] at this
 generalize l*k1+m*k2=Kp at *
 generalize (l+m)*D=E at *
 have fin:∀ {r:Sg},InC r v->Kp*r.n v=E*r.c->0<r.c->0<r.n v/\k1*r.n v<=r.c*D/\r.c*D<=k2*r.n v:=fun {r} hr he hc=>by
  have hn:0<r.n v:=Zr (a:=Kp) (by rw [he]; exact Qv hE hc) hKp
  refine ⟨hn,?_,?_⟩
  ·refine Sw (a:=E) ?_ hE
   have a1:=Qk lo (Qg hn)
   have a2:E*(r.c*D)=Kp*r.n v*D:=by rw [he]; grind
   rw [a2]
   have a3:E*(k1*r.n v)=k1*E*r.n v:=by grind
   have a4:Kp*r.n v*D=Kp*D*r.n v:=by grind
   omega
  ·refine Sw (a:=E) ?_ hE
   have a1:=Qk hi2 (Qg hn)
   have a2:E*(r.c*D)=Kp*r.n v*D:=by rw [he]; grind
   rw [a2]
   have a3:E*(k2*r.n v)=k2*E*r.n v:=by grind
   have a4:Kp*r.n v*D=Kp*D*r.n v:=by grind
   omega
 rcases We 0 (cr A B) with c|c|c
 ·rw [if_pos c]
  obtain ⟨r1,r2⟩:=Ybl c hKp hE s0 t0 st f1 f2
  exact ⟨_,rfl,r1,fin r1 r2 c⟩
 ·exfalso
  obtain ⟨q1,q2⟩:=Yga Kp E s t v A B f1 f2
  rw [<-c,Sb] at q1 q2
  have hh:=Qv hKp st
  have z1:=Yg q1 hh
  have z2:=Yg q2 hh
  refine hne ⟨?_,?_⟩
  ·by_cases q:A=(0,0)
   ·exact q
   ·exact absurd (by rw [Zh]; omega) (gA q)
  ·by_cases q:B=(0,0)
   ·exact q
   ·exact absurd z2 (gB q)
 ·rw [if_neg (by omega),if_pos c]
  have c2:0<cr B A:=by rw [Zh]; omega
  obtain ⟨r1,r2⟩:=Ybl c2 hKp hE t0 s0 (by omega) (by rw [Pi t s,Pi (t*B.1)]; exact f1) (by rw [Pi t s,Pi (t*B.2)]; exact f2)
  exact ⟨_,rfl,r1,fin r1 r2 c2⟩
theorem Yd2 {cs:List (Int × Int)} {w:Wl} (h:w∈wls cs):∃ i,i<cs.length/\w=wlOf cs i:=by
 unfold wls at h
 rw [Ta] at h
 obtain ⟨i,hi,e⟩:=h
 exact ⟨i,Rx.1 hi,e.symm⟩
theorem Zw1 {h:Hal} (hs:Vd h.cs) {o v:V} (hg:gen h.cs o v) (hv:v≠(0,0)) {k1 k2 D:Int} (hD:0<D) (hk1:0<=k1) (h12:k1<=k2) (hO:0<k1\/∀ i,i<h.cs.length -> ¬ onO h.cs o i)
  (hno:∀ i s,i<h.cs.length->sgH h.cs o i=some s->InC s v->0<s.n v->k1*s.n v<=s.c*D->s.c*D<=k2*s.n v->False):insZ h.cs (pRy o v k1 D)=insZ h.cs (pRy o v k2 D):=by
 refine Zzh (D:=D) rfl rfl hD fun w hw ht=>?_
 obtain ⟨i,hi,rfl⟩:=Yd2 hw
 obtain ⟨s,h1,h2,h3,h4,h5⟩:=Ydf hs hg hv hD hk1 h12 hi (hO.imp id fun q=>q i hi) ht
 exact hno i s hi h1 h2 h3 h4 h5
theorem Yej {cs:List (Int × Int)} (hs:Vd cs) {p:P2d} (hd:0<p.d) (hf:5000*p.d<p.y\/p.y < -(5000*p.d)):insZ cs p=false:=by
 have hz:∀ w∈wls cs,flZ p w=false:=by
  intro w hw
  obtain ⟨n,sx,sy,g⟩:=Zb2 hs w hw
  have b2:=g.b2
  have b4:=g.b4
  have m1:=Qk b2.2 (Qg hd)
  have m2:=Qk b2.1 (Qg hd)
  have m3:=Qk b4.2 (Qg hd)
  have m4:=Qk b4.1 (Qg hd)
  rw [Tq] at m2 m4
  unfold flZ
  split<;>(rw [decide_eq_false_iff_not]; unfold upE; omega)
 unfold insZ
 have:∀ l:List Wl,(∀ w∈l,flZ p w=false)->xorL (l.map (flZ p))=false:=by
  intro l
  induction l with
  | nil=>intro _; rfl
  | cons w l ih =>
   intro hl
   rw [Ss,xorL,hl w (by simp),ih (fun u hu=>hl u (by simp [hu]))]
   rfl
 exact this _ hz
theorem Zxg {h:Hal} (hs:Vd h.cs) {o v:V} (hg:gen h.cs o v) (hv:v.2≠0) {k D:Int} (hD:0<D) (hk:0<=k) (hO:0<k\/∀ i,i<h.cs.length -> ¬ onO h.cs o i) (hin:insZ h.cs (pRy o v k D)=true) :
  ∃ i s,i<h.cs.length/\sgH h.cs o i=some s/\InC s v/\0<s.n v/\k*s.n v<=s.c*D:=by
 by_cases hex:∃ i s,i<h.cs.length/\sgH h.cs o i=some s/\InC s v/\0<s.n v/\k*s.n v<=s.c*D
 ·exact hex
 exfalso
 have hv0:v≠(0,0):=fun q=>hv (by rw [q])
 have ho:o.2*D<=(o.2.natAbs:Int)*D /\ -((o.2.natAbs:Int)*D)<=o.2*D:=by
  have a1:=Qk (by omega:o.2<=(o.2.natAbs:Int)) (Qg hD)
  have a2:=Qk (by omega : -(o.2.natAbs:Int)<=o.2) (Qg hD)
  rw [Tq] at a2
  exact ⟨a1,a2⟩
 have ho0:0<=(o.2.natAbs:Int)*D:=Qq (by omega) (Qg hD)
 generalize (o.2.natAbs:Int)*D=Q at *
 have far:insZ h.cs (pRy o v (k+(5000*D+Q+Q+1)) D)=false:=by
  refine Yej hs hD ?_
  show 5000*D<o.2*D+(k+(5000*D+Q+Q+1))*v.2\/o.2*D+(k+(5000*D+Q+Q+1))*v.2 < -(5000*D)
  have hM:0<=k+(5000*D+Q+Q+1):=by omega
  rcases Mi hv with c|c
  ·right
   have:=Qw (by omega:v.2 <= -1) hM
   omega
  ·left
   have:=Qw (by omega:1<=v.2) hM
   omega
 have:=Zw1 hs hg hv0 hD hk (by omega:k<=k+(5000*D+Q+Q+1)) hO (fun i s hi h1 h2 h3 h4 _=>hex ⟨i,s,hi,h1,h2,h3,h4⟩)
 rw [hin,far] at this
 cases this
end Go.Proofs.YtanbhfpalahjcaaGreat
namespace Go.Ge
theorem Zd4 {a b:Int} (ha:0<a):∃ K0:Int,0<K0/\∀ K,K0<=K->0<K*a+b:=by
 refine ⟨(b.natAbs:Int)+1,by omega,fun K hK=>?_⟩
 have h1:=Qw (by omega:(1:Int)<=a) (by omega:0<=K)
 omega
theorem Yhs {a b:Int} (h:¬(a=0/\b=0)):∃ K0:Int,0<K0/\∀ K,K0<=K->K*a+b≠0:=by
 rcases We 0 a with c|c|c
 ·obtain ⟨K0,h0,h1⟩:=Zd4 (b:=b) c
  exact ⟨K0,h0,fun K hK=>by have:=h1 K hK; omega⟩
 ·refine ⟨1,by omega,fun K _=>?_⟩
  rw [<-c,Sb]
  have:b≠0:=fun q=>h ⟨c.symm,q⟩
  omega
 ·obtain ⟨K0,h0,h1⟩:=Zd4 (a:=-a) (b:=-b) (by omega)
  refine ⟨K0,h0,fun K hK=>?_⟩
  have:=h1 K hK
  rw [Rp] at this
  omega
theorem Zq9 {α:Type} (p:α->Int->Prop):∀ l:List α,(∀ x∈l,∃ K0:Int,0<K0/\∀ K,K0<=K->p x K)->∃ K0:Int,0<K0/\∀ K,K0<=K->∀ x∈l,p x K
 | [],_=>⟨1,by omega,fun _ _ x hx=>by cases hx⟩
 | a::l,h=>by
  obtain ⟨k1,p1,h1⟩:=h a (by simp)
  obtain ⟨k2,p2,h2⟩:=Zq9 p l (fun x hx=>h x (by simp [hx]))
  refine ⟨k1+k2,by omega,fun K hK x hx=>?_⟩
  rcases Ra.1 hx with rfl|hx
  ·exact h1 K (by omega)
  ·exact h2 K (by omega) x hx
theorem Zho {p q:Int->Prop} (h1:∃ K0:Int,0<K0/\∀ K,K0<=K->p K) (h2:∃ K0:Int,0<K0/\∀ K,K0<=K->q K):∃ K0:Int,0<K0/\∀ K,K0<=K->p K/\q K:=by
 obtain ⟨k1,p1,h1⟩:=h1
 obtain ⟨k2,p2,h2⟩:=h2
 exact ⟨k1+k2,by omega,fun K hK=>⟨h1 K (by omega),h2 K (by omega)⟩⟩
def Avd (A:List V) (v:V):Prop:=∀ c∈A,c≠(0,0)->cr v c≠0
theorem Zpe {P Q c:V} (h:cr P Q≠0) (h1:cr P c=0) (h2:cr Q c=0):c=(0,0):=by
 have e1:cr P Q*c.1=cr P c*Q.1-cr Q c*P.1:=by unfold cr; grind
 have e2:cr P Q*c.2=cr P c*Q.2-cr Q c*P.2:=by unfold cr; grind
 rw [h1,h2] at e1 e2
 have z1:c.1=0:=by
  rcases Wv.1 (show cr P Q*c.1=0 by omega) with z|z
  ·exact absurd z h
  ·exact z
 have z2:c.2=0:=by
  rcases Wv.1 (show cr P Q*c.2=0 by omega) with z|z
  ·exact absurd z h
  ·exact z
 exact Tk z1 z2
theorem Zrc (A:List V) {P Q:V} (h:cr P Q≠0):∃ K0:Int,0<K0/\∀ K,K0<=K->Avd A (mix K 1 P Q):=by
 refine Zq9 (fun c K=>c≠(0,0)->cr (mix K 1 P Q) c≠0) A fun c _=>?_
 by_cases z:c=(0,0)
 ·exact ⟨1,by omega,fun _ _ q=>absurd z q⟩
 ·obtain ⟨K0,h0,h1⟩:=Yhs (a:=cr P c) (b:=cr Q c) (fun q=>z (Zpe h q.1 q.2))
  refine ⟨K0,h0,fun K hK _=>?_⟩
  rw [Yr,Sj]
  exact h1 K hK
variable {m:Nat} {sg:Nat->Option Sg} {L:Option Nat}
theorem Yhw {A:List V} {v:V} {i:Nat} {s:Sg} (S:Sys m sg) (hA:∀ c∈ends m sg,c∈A) (hv:Avd A v) (hi:i<m) (e:sg i=some s) (h:InC s v):InO s v:=by
 have hc:=S.pos i s e
 obtain ⟨e1,e2⟩:=Zj7 hi e
 have na:s.a≠(0,0):=fun q=>by unfold Sg.c cr at hc; rw [q] at hc; simp at hc
 have nb:s.b≠(0,0):=fun q=>by unfold Sg.c cr at hc; rw [q] at hc; simp at hc
 have z1:=hv s.a (hA _ e1) na
 have z2:=hv s.b (hA _ e2) nb
 rw [Zh] at z1
 have:=h.1
 have:=h.2
 exact ⟨by omega,by omega⟩
theorem Ycl (S:Sys m sg) {A:List V} (hA:∀ c∈ends m sg,c∈A) {v:V} (hv:Avd A v) (h:∃ i s,Cnt m sg L i s v):∃ i s,Fst m sg L i s v:=by
 obtain ⟨i0,s0,k0⟩:=h
 obtain ⟨i,hi,⟨s,k⟩,hm⟩:=least (fun i:Nat=>∃ s,Cnt m sg L i s v) (fun i j=>∀ s t,Cnt m sg L i s v->Cnt m sg L j t v->s.c*t.n v<=t.c*s.n v)
  (fun x y hx hy=>by
   obtain ⟨s,ks⟩:=hx
   obtain ⟨t,kt⟩:=hy
   rcases Lc (s.c*t.n v) (t.c*s.n v) with q|q
   ·left
    intro s' t' a b
    have:=ks.e.symm.trans a.e
    cases this
    have:=kt.e.symm.trans b.e
    cases this
    exact q
   ·right
    intro s' t' a b
    have:=kt.e.symm.trans a.e
    cases this
    have:=ks.e.symm.trans b.e
    cases this
    exact q)
  (fun x y z hx hy hz h1 h2 s r ks kr=>by
   obtain ⟨t,kt⟩:=hy
   have a1:=h1 s t ks kt
   have a2:=h2 t r kt kr
   have b1:=Qk a1 (Qg kr.n)
   have b2:=Qk a2 (Qg ks.n)
   refine Int.le_of_mul_le_mul_right ?_ kt.n
   have e1:s.c*r.n v*t.n v=s.c*t.n v*r.n v:=by grind
   have e2:t.c*s.n v*r.n v=t.c*r.n v*s.n v:=by grind
   have e3:r.c*s.n v*t.n v=r.c*t.n v*s.n v:=by grind
   omega)
  (Rv m) ⟨i0,Rx.2 k0.im,s0,k0⟩
 have ho:=Yhw S hA hv k.im k.e k.c
 refine ⟨i,s,k,ho,fun j t kt hji=>?_⟩
 have:=hm j (Rx.2 kt.im) ⟨t,kt⟩ s t k kt
 rcases Int.lt_or_eq_of_le this with q|q
 ·exact q
 ·exact absurd ho (S.nc i j s t v (fun z=>hji z.symm) k.im kt.im k.e kt.e k.c kt.c k.n q)
theorem sector (S:Sys m sg) {A:List V} (hA:∀ c∈ends m sg,c∈A) {a b:V} (hab:0<cr a b) (hL:∀ d,0<cr a d->0<cr d b->LOk m sg L d)
  (hex:∀ v,0<cr a v->0<cr v b->Avd A v->∃ i s,Cnt m sg L i s v) (hno:∀ c∈ends m sg,0<cr a c->0<cr c b -> ¬ Seen m sg L c) :
  ∃ W,∀ e,0<cr a e->0<cr e b->∃ s,Fst m sg L W s e:=by
 have two:∀ e e',0<cr a e->0<cr e b->0<cr a e'->0<cr e' b->∃ W s s',Fst m sg L W s e/\Fst m sg L W s' e':=by
  intro e e' h1 h2 h1' h2'
  obtain ⟨K0,k0,hK⟩:=Zho (Zrc A (P:=a) (Q:=e) (by omega)) (Zho (Zd4 (a:=cr a e') (b:=cr e e') h1') (Zd4 (a:=cr a b) (b:=cr e b) hab))
  obtain ⟨q1,q2,q3⟩:=hK K0 (Wy _)
  have d1:0<cr a (mix K0 1 a e):=by rw [Xn,Zj,Sb,Sj,Ph]; exact h1
  have d2:0<cr (mix K0 1 a e) b:=by rw [Yr,Sj]; exact q3
  have d3:0<cr (mix K0 1 a e) e:=by rw [Yr,Zj,Sb,Wn]; exact Qv k0 h1
  have d4:0<cr (mix K0 1 a e) e':=by rw [Yr,Sj]; exact q2
  generalize mix K0 1 a e=d at *
  obtain ⟨W,s,k⟩:=Ycl S hA q1 (hex d d1 d2 q1)
  have go:∀ x,0<cr a x->0<cr x b->0<cr d x->∃ s',Fst m sg L W s' x:=by
   intro x x1 x2 x3
   rcases sweep S x3 k (hL d d1 d2) (hL x x1 x2) with f|⟨c,hc,c1,c2,_,c4⟩
   ·exact ⟨s,f⟩
   ·exfalso
    have y1:0<cr a c:=by
     have:=Zus d x a c
     have a1:=Qq c2 (Qg d1)
     have a2:=Qv c1 x1
     exact Zr (a:=cr d x) (by omega) x3
    have y2:0<cr c b:=by
     have:=Yau d x c b
     have a1:=Qq c2 (Qg d2)
     have a2:=Qv c1 x2
     exact Zr (a:=cr d x) (by omega) x3
    exact hno c hc y1 y2 c4
  obtain ⟨s1,f1⟩:=go e h1 h2 d3
  obtain ⟨s2,f2⟩:=go e' h1' h2' d4
  exact ⟨W,s1,s2,f1,f2⟩
 have m1:0<cr a (mix 1 1 a b):=by rw [Xn,Zj]; omega
 have m2:0<cr (mix 1 1 a b) b:=by rw [Yr,Zj]; omega
 obtain ⟨W,s,_,f,_⟩:=two _ _ m1 m2 m1 m2
 refine ⟨W,fun e h1 h2=>?_⟩
 obtain ⟨W',s1,s2,f1,f2⟩:=two _ e m1 m2 h1 h2
 have:=f.uniq S f1
 exact ⟨s2,this ▸ f2⟩
theorem Zvm (S:Sys m sg) {A:List V} (hA:∀ c∈ends m sg,c∈A) (hex:∀ v,Avd A v->∃ i s,Cnt m sg none i s v) {a:V} (ha:a≠(0,0)):∃ c∈ends m sg,0<cr a c/\Seen m sg none c:=by
 have hp:0<cr a (-a.2,a.1):=by
  unfold cr
  dsimp only
  rcases We a.1 0 with q|q|q
  ·have:=Lf q q
   have:0<=a.2*a.2:=by rcases Lc 0 a.2 with z|z; exact Qq z z; exact Wg z z
   rw [Rp]; omega
  ·have:a.2≠0:=fun z=>ha (Tk q z)
   have:0<a.2*a.2:=by rcases Mi this with z|z; exact Lf z z; exact Qv z z
   rw [q,Rp]; omega
  ·have:=Qv q q
   have:0<=a.2*a.2:=by rcases Lc 0 a.2 with z|z; exact Qq z z; exact Wg z z
   rw [Rp]; omega
 generalize ((-a.2,a.1):V)=e at *
 have hcs:∃ K0:Int,0<K0/\∀ K,K0<=K->∀ c∈ends m sg,0<cr a c->0<cr (mix K 1 a e) c:=by
  refine Zq9 (fun c K=>0<cr a c->0<cr (mix K 1 a e) c) _ fun c _=>?_
  by_cases q:0<cr a c
  ·obtain ⟨K0,k0,h⟩:=Zd4 (b:=cr e c) q
   exact ⟨K0,k0,fun K hK _=>by rw [Yr,Sj]; exact h K hK⟩
  ·exact ⟨1,by omega,fun _ _ z=>absurd z q⟩
 obtain ⟨K0,k0,hK⟩:=Zho (Zrc A (P:=a) (Q:=e) (by omega)) hcs
 obtain ⟨q1,q2⟩:=hK K0 (Wy _)
 have d1:0<cr a (mix K0 1 a e):=by rw [Xn,Zj,Sb,Sj,Ph]; exact hp
 generalize mix K0 1 a e=d at *
 obtain ⟨W,s,k⟩:=Ycl S hA q1 (hex d q1)
 have ln:∀ x,LOk m sg none x:=fun x l t z=>by cases z
 have hsc:=S.pos W s k.c.e
 have hAa:0<=cr s.a a:=by
  rcases Wc 0 (cr a s.a) with z|z
  ·have:=q2 s.a (Zj7 k.c.im k.c.e).1 z
   have:=k.o.1
   rw [Zh] at this
   omega
  ·rw [Zh]; omega
 rcases sweep S k.o.2 k (ln d) (ln s.b) with f|⟨c,hc,c1,c2,_,c4⟩
 ·have:=f.o.2
  rw [Zj] at this
  omega
 ·refine ⟨c,hc,?_,c4⟩
  have hAc:0<cr s.a c:=by
   have:=Zus d s.b s.a c
   have a1:=Qq c2 (Qg k.o.1)
   have a2:=Qv c1 hsc
   unfold Sg.c at a2
   exact Zr (a:=cr d s.b) (by omega) k.o.2
  have:=plk s.a a d c
  have a1:=Qq hAa (Qg c1)
  have a2:=Qv hAc d1
  exact Zr (a:=cr s.a d) (by omega) k.o.1
end Go.Ge
namespace Go.Proofs.YtanbhfpalahjcaaGreat
open Go Go.Sx Go.Ge
def avL (cs:List (Int × Int)) (o:V) (L:Option Nat):List V :=
 ((Rv cs.length).flatMap fun i=>[wa (wlOf cs i) o,wb (wlOf cs i) o])++(1,0)::(match L with
  | none=>[]
  | some l=>[((wlOf cs l).fy-(wlOf cs l).ty,(wlOf cs l).tx-(wlOf cs l).fx)])
theorem Ye9 {cs:List (Int × Int)} {o:V} {L:Option Nat} {i:Nat} (hi:i<cs.length):wa (wlOf cs i) o∈avL cs o L/\wb (wlOf cs i) o∈avL cs o L:=by
 unfold avL
 constructor<;>(rw [List.mem_append]; left; rw [List.mem_flatMap]; exact ⟨i,Rx.2 hi,by simp⟩)
theorem Zrd {cs:List (Int × Int)} {o:V} {L:Option Nat} {v:V} (h:Avd (avL cs o L) v):gen cs o v:=fun i hi=>⟨h _ (Ye9 hi).1,h _ (Ye9 hi).2⟩
theorem Ye8 {cs:List (Int × Int)} {o:V} {L:Option Nat} {v:V} (h:Avd (avL cs o L) v):v.2≠0:=by
 have:=h (1,0) (by unfold avL; simp) (by simp)
 unfold cr at this
 simp at this
 exact this
theorem Yiv {cs:List (Int × Int)} {o:V} {l:Nat} {v:V} (h:Avd (avL cs o (some l)) v) (hne:¬((wlOf cs l).fx=(wlOf cs l).tx/\(wlOf cs l).fy=(wlOf cs l).ty)):v.1*((wlOf cs l).tx-(wlOf cs l).fx)+v.2*((wlOf cs l).ty-(wlOf cs l).fy)≠0:=by
 have:=h ((wlOf cs l).fy-(wlOf cs l).ty,(wlOf cs l).tx-(wlOf cs l).fx) (by unfold avL; simp) (fun q=>hne (by
  rw [Prod.mk.injEq] at q
  omega))
 unfold cr at this
 dsimp only at this
 intro q
 apply this
 rw [show v.2*((wlOf cs l).fy-(wlOf cs l).ty) = -(v.2*((wlOf cs l).ty-(wlOf cs l).fy)) by rw [<-Rp]; congr 1; omega]
 omega
theorem Zdj {w:Wl} {o:V} {s:Sg} (e:sgW w o=some s):(s.a=wa w o/\s.b=wb w o)\/(s.a=wb w o/\s.b=wa w o):=by
 unfold sgW at e
 split at e
 ·cases e; exact .inl ⟨rfl,rfl⟩
 ·split at e
  ·cases e; exact .inr ⟨rfl,rfl⟩
  ·cases e
theorem Zm6 (cs:List (Int × Int)) (o:V) (L:Option Nat):∀ c∈ends cs.length (sgH cs o),c∈avL cs o L:=by
 intro c hc
 obtain ⟨i,s,hi,es,hh⟩:=Zya hc
 have hm:=Ye9 (o:=o) (L:=L) hi
 rcases Zdj es with ⟨e1,e2⟩|⟨e1,e2⟩<;>rcases hh with rfl|rfl
 ·rw [e1]; exact hm.1
 ·rw [e2]; exact hm.2
 ·rw [e1]; exact hm.2
 ·rw [e2]; exact hm.1
theorem Yhx {cs:List (Int × Int)} {o:V} {L:Option Nat} {v:V} (h:Avd (avL cs o L) v):v≠(0,0):=fun q=>Ye8 h (by rw [q])
structure SecOk (h:Hal) (o:V) (L:Option Nat) (a b:V) (wq:Nat):Prop where
 ab:0<cr a b
 lp:∀ l,L=some l->l<h.cs.length/\∃ t,sgH h.cs o l=some t/\∀ d,0<cr a d->0<cr d b->InO t d
 ft:∀ d,0<cr a d->0<cr d b->∃ s,Fst h.cs.length (sgH h.cs o) L wq s d
 ins:∀ v k D,0<cr a v->0<cr v b->Avd (avL h.cs o L) v->0<k->0<D->(∀ l t,L=some l->sgH h.cs o l=some t->t.c*D<k*t.n v) ->
  (∀ s,sgH h.cs o wq=some s->k*s.n v<s.c*D)->insZ h.cs (pRy o v k D)=true
theorem SecOk.wlt {h:Hal} {o:V} {L:Option Nat} {a b:V} {wq:Nat} (K:SecOk h o L a b wq):wq<h.cs.length:=by
 have hab:=K.ab
 obtain ⟨s,k⟩:=K.ft (mix 1 1 a b) (by rw [Xn,Zj]; omega) (by rw [Yr,Zj]; omega)
 exact k.c.im
theorem Zll {h:Hal} (hs:Vd h.cs) {o v:V} {L:Option Nat} {wq:Nat} {s0:Sg} (hv:Avd (avL h.cs o L) v) (f:Fst h.cs.length (sgH h.cs o) L wq s0 v) {k1 k2 D:Int} (hD:0<D) (hk1:0<=k1) (h12:k1<=k2)
  (hO:0<k1\/∀ i,i<h.cs.length -> ¬ onO h.cs o i) (hL:∀ l t,L=some l->sgH h.cs o l=some t->0<t.n v/\t.c*D<k1*t.n v) (hW:k2*s0.n v<s0.c*D):insZ h.cs (pRy o v k1 D)=insZ h.cs (pRy o v k2 D):=by
 refine Zw1 hs (Zrd hv) (Yhx hv) hD hk1 h12 hO fun i s hi es hc hn h1 h2=>?_
 have hni:L≠some i:=fun q=>by
  have:=(hL i s q es).2
  omega
 have cn:Cnt h.cs.length (sgH h.cs o) L i s v:=⟨hi,es,hni,hc,hn,fun l t e1 e2=>by
  obtain ⟨q1,q2⟩:=hL l t e1 e2
  unfold Fx
  have a1:=Wb q2 hn
  have a2:=Qk h1 (Qg q1)
  have e1:t.c*D*s.n v=D*(t.c*s.n v):=by grind
  have e2:k1*s.n v*t.n v=k1*t.n v*s.n v:=by grind
  have e3:s.c*D*t.n v=D*(s.c*t.n v):=by grind
  exact Sd (a:=D) (by omega) (Qg hD)⟩
 by_cases hiW:i=wq
 ·subst hiW
  have:=es.symm.trans f.c.e
  cases this
  omega
 ·have:=f.f i s cn hiW
  unfold Fx at this
  have n0:=f.c.n
  have a1:=Rn this hD
  have a2:=Qk h2 (Qg n0)
  have a3:=Wb hW hn
  have e1:D*(s0.c*s.n v)=s0.c*D*s.n v:=by grind
  have e2:D*(s.c*s0.n v)=s.c*D*s0.n v:=by grind
  have e3:k2*s.n v*s0.n v=k2*s0.n v*s.n v:=by grind
  omega
theorem Zgb {x y d:Int}:∀ (ws:List Wl) (b:Bool),inPl x y d b ws=true->(∀ w∈ws,w.has x y d=false)/\(b ^^ xorL (ws.map (flips x y d)))=true
 | [],b,e=>⟨fun w hw=>(by cases hw),by simpa [inPl,xorL] using e⟩
 | w::l,b,e=>by
  rw [inPl] at e
  split at e
  ·cases e
  ·rename_i hh
   obtain ⟨h1,h2⟩:=Zgb l _ e
   refine ⟨fun u hu=>?_,?_⟩
   ·rcases Ra.1 hu with rfl|hu
    ·simpa using hh
    ·exact h1 u hu
   ·rw [Ss,xorL]
    rw [<-h2]
    cases b<;>cases flips x y d w<;>simp
structure InSrc (h:Hal) (o:V):Prop where
 bx : -5000<=o.1/\o.1<=5000
 bY : -5000<=o.2/\o.2<=5000
 inn:Xo h o.1 o.2 1=true
theorem InSrc.ok {h:Hal} {o:V} (k:InSrc h o):PtOk o.1 o.2 1:=by
 have a:=k.bx
 have b:=k.bY
 exact ⟨by omega,by omega,by omega,by omega⟩
theorem InSrc.insZ {h:Hal} (hs:Vd h.cs) {o:V} (k:InSrc h o):insZ h.cs ⟨o.1,o.2,1⟩=true/\∀ i,i<h.cs.length -> ¬ onO h.cs o i:=by
 obtain ⟨h1,h2⟩:=Zgb _ _ k.inn
 rw [Bool.false_xor] at h2
 constructor
 ·unfold Proofs.YtanbhfpalahjcaaGreat.insZ
  rw [<-h2]
  congr 1
  refine Nc fun w hw=>?_
  obtain ⟨n,sx,sy,g⟩:=Zb2 hs w hw
  exact (Yet g k.ok).symm
 ·intro i hi ho
  obtain ⟨n,sx,sy,g⟩:=hs i hi
  have hf:=h1 (wlOf h.cs i) (by unfold wls; exact Ta.2 ⟨i,Rx.2 hi,rfl⟩)
  have hq:(wlOf h.cs i).has o.1 o.2 1=true:=by
   rw [Zan g k.ok]
   obtain ⟨s,t,s0,t0,st,e1,e2⟩:=ho
   unfold wa wb at e1 e2
   dsimp only at e1 e2
   rw [g.tx] at e1
   rw [g.ty] at e2
   have hn:=g.hn
   have qp:=qpos g
   have f1:(s+t)*(o.1-(wlOf h.cs i).fx)=t*n*sx:=by grind
   have f2:(s+t)*(o.2-(wlOf h.cs i).fy)=t*n*sy:=by grind
   unfold onW bes alo
   rw [Rw,Rw,Rw]
   refine ⟨?_,?_,?_⟩
   ·have:(s+t)*(sx*(o.2-(wlOf h.cs i).fy)-sy*(o.1-(wlOf h.cs i).fx))=0:=by
     have:(s+t)*(sx*(o.2-(wlOf h.cs i).fy)-sy*(o.1-(wlOf h.cs i).fx))=sx*((s+t)*(o.2-(wlOf h.cs i).fy))-sy*((s+t)*(o.1-(wlOf h.cs i).fx)):=by grind
     rw [this,f1,f2]; grind
    exact Yg this st
   ·have:(s+t)*(sx*(o.1-(wlOf h.cs i).fx)+sy*(o.2-(wlOf h.cs i).fy))=t*n*(sx*sx+sy*sy):=by
     have:(s+t)*(sx*(o.1-(wlOf h.cs i).fx)+sy*(o.2-(wlOf h.cs i).fy))=sx*((s+t)*(o.1-(wlOf h.cs i).fx))+sy*((s+t)*(o.2-(wlOf h.cs i).fy)):=by grind
     rw [this,f1,f2]; grind
    exact Zai (a:=s+t) (by rw [this]; exact Qq (Qq t0 (by omega)) (by omega)) st
   ·have:(s+t)*(sx*(o.1-(wlOf h.cs i).fx)+sy*(o.2-(wlOf h.cs i).fy))=t*n*(sx*sx+sy*sy):=by
     have:(s+t)*(sx*(o.1-(wlOf h.cs i).fx)+sy*(o.2-(wlOf h.cs i).fy))=sx*((s+t)*(o.1-(wlOf h.cs i).fx))+sy*((s+t)*(o.2-(wlOf h.cs i).fy)):=by grind
     rw [this,f1,f2]; grind
    refine Sw (a:=s+t) ?_ st
    rw [this]
    have a1:t*(n*(sx*sx+sy*sy))<=(s+t)*(n*(sx*sx+sy*sy)):=Qk (by omega) (Qq (by omega) (by omega))
    rwa [<-Lr] at a1
  rw [hf] at hq
  cases hq
theorem Zr5 (o v:V) (D:Int):pRy o v 0 D=mulP D ⟨o.1,o.2,1⟩:=by
 unfold pRy mulP
 simp only [Sq,Wn,Rw,Qad]
 exact ⟨Rl _ _,Rl _ _,trivial⟩
theorem Zry {h:Hal} (hs:Vd h.cs) {o:V} (k:InSrc h o):∀ v,Avd (avL h.cs o none) v->∃ i s,Cnt h.cs.length (sgH h.cs o) none i s v:=by
 intro v hv
 obtain ⟨h1,h2⟩:=k.insZ hs
 obtain ⟨i,s,hi,es,hc,hn,_⟩:=Zxg hs (Zrd hv) (Ye8 hv) (k:=0) (D:=1) (by decide) (by decide) (.inr h2) (by rw [Zr5,Zmq _ (by decide)]; exact h1)
 exact ⟨i,s,hi,es,(by intro q; cases q),hc,hn,fun l t q=>(by cases q)⟩
theorem Zzu {h:Hal} (g:h.fine) {o:V} (k:InSrc h o) {a b:V} (hab:0<cr a b) (hno:∀ c∈ends h.cs.length (sgH h.cs o),0<cr a c->0<cr c b -> ¬ Seen h.cs.length (sgH h.cs o) none c):∃ wq,SecOk h o none a b wq:=by
 have S:=Zvd g o
 obtain ⟨wq,hW⟩:=sector S (Zm6 h.cs o none) hab (fun d _ _ l t q=>by cases q) (fun v _ _ hv=>Zry g.st k v hv) hno
 refine ⟨wq,hab,fun l q=>(by cases q),hW,fun v kk D h1 h2 hv hk hD _ hWs=>?_⟩
 obtain ⟨s0,f⟩:=hW v h1 h2
 obtain ⟨z1,z2⟩:=k.insZ g.st
 have:=Zll g.st hv f hD (Wy 0) (Qg hk) (.inr z2) (fun l t q=>by cases q) (hWs s0 f.c.e)
 rw [<-this,Zr5,Zmq _ hD]
 exact z1
def mS (sx sy:Int) (v:V):V:=mvD sx sy v.1 v.2
def mO (w:Wl) (sx sy:Int) (o:V):V:=(w.fx+(mvD sx sy (o.1-w.fx) (o.2-w.fy)).1,w.fy+(mvD sx sy (o.1-w.fx) (o.2-w.fy)).2)
section
variable {w:Wl} {n sx sy:Int}
theorem Zaq (h:Str w n sx sy) (P:Int->Int->Prop) (h1:P 1 0) (h2:P (-1) 0) (h3:P 0 1) (h4:P 0 (-1)) (h5:P 1 1) (h6:P (-1) (-1)) (h7:P 1 (-1)) (h8:P (-1) 1):P sx sy:=by
 have hxy:=h.hxy
 rcases h.hx with rfl|rfl|rfl<;>rcases h.hy with rfl|rfl|rfl
 ·exact absurd ⟨rfl,rfl⟩ hxy
 all_goals assumption
theorem Zmm (h:Str w n sx sy) (u v:V):cr (mS sx sy u) (mS sx sy v) = -cr u v:=by
 refine Zaq h (fun sx sy=>cr (mS sx sy u) (mS sx sy v) = -cr u v) ?_ ?_ ?_ ?_ ?_ ?_ ?_ ?_<;>(unfold mS mvD cr; simp; try grind)
theorem Yd5 (h:Str w n sx sy) (v:V):mS sx sy (mS sx sy v)=v:=by
 refine Zaq h (fun sx sy=>mS sx sy (mS sx sy v)=v) ?_ ?_ ?_ ?_ ?_ ?_ ?_ ?_<;>(unfold mS mvD; simp)
theorem Ygk (h:Str w n sx sy) (o:V):wa w (mO w sx sy o)=mS sx sy (wa w o)/\wb w (mO w sx sy o)=mS sx sy (wb w o):=by
 have a:=h.tx
 have b:=h.ty
 unfold wa wb mO mS
 dsimp only
 rw [a,b]
 clear a b
 refine Zaq h (fun sx sy=>(w.fx-(w.fx+(mvD sx sy (o.1-w.fx) (o.2-w.fy)).1),w.fy-(w.fy+(mvD sx sy (o.1-w.fx) (o.2-w.fy)).2))=mvD sx sy (w.fx-o.1) (w.fy-o.2) /\
  (w.fx+n*sx-(w.fx+(mvD sx sy (o.1-w.fx) (o.2-w.fy)).1),w.fy+n*sy-(w.fy+(mvD sx sy (o.1-w.fx) (o.2-w.fy)).2))=mvD sx sy (w.fx+n*sx-o.1) (w.fy+n*sy-o.2)) ?_ ?_ ?_ ?_ ?_ ?_ ?_ ?_ <;>
 (unfold mvD; simp; try omega)
theorem Zu3 (h:Str w n sx sy) (o:V):wb w o=((wa w o).1+n*sx,(wa w o).2+n*sy):=by
 unfold wa wb
 dsimp only
 rw [h.tx,h.ty]
 refine Tk ?_ ?_<;>(dsimp only; omega)
theorem Ygo (h:Str w n sx sy) (o:V):(mO w sx sy o).1-o.1=(wa w o).1-(mS sx sy (wa w o)).1/\(mO w sx sy o).2-o.2=(wa w o).2-(mS sx sy (wa w o)).2:=by
 have h1:=(Ygk h o).1
 rw [<-h1]
 unfold wa
 dsimp only
 omega
theorem Ygp (h:Str w n sx sy) (o v:V):(cr (wa w o) (mS sx sy v)+cr (mS sx sy v) (wb w o))*((mO w sx sy o).1-o.1)=cr (wa w o) (wb w o)*((mS sx sy v).1-v.1) /\
  (cr (wa w o) (mS sx sy v)+cr (mS sx sy v) (wb w o))*((mO w sx sy o).2-o.2)=cr (wa w o) (wb w o)*((mS sx sy v).2-v.2):=by
 obtain ⟨e1,e2⟩:=Ygo h o
 rw [e1,e2,Zu3 h o]
 generalize wa w o=A
 clear e1 e2
 refine Zaq h (fun sx sy=>(cr A (mS sx sy v)+cr (mS sx sy v) (A.1+n*sx,A.2+n*sy))*(A.1-(mS sx sy A).1)=cr A (A.1+n*sx,A.2+n*sy)*((mS sx sy v).1-v.1) /\
  (cr A (mS sx sy v)+cr (mS sx sy v) (A.1+n*sx,A.2+n*sy))*(A.2-(mS sx sy A).2)=cr A (A.1+n*sx,A.2+n*sy)*((mS sx sy v).2-v.2)) ?_ ?_ ?_ ?_ ?_ ?_ ?_ ?_ <;>
 (unfold mS mvD cr; simp; try grind)
theorem mS_n (h:Str w n sx sy) (o v:V):cr (wa w o) v+cr v (wb w o) = -(cr (wa w o) (mS sx sy v)+cr (mS sx sy v) (wb w o)):=by
 rw [Zu3 h o]
 generalize wa w o=A
 refine Zaq h (fun sx sy=>cr A v+cr v (A.1+n*sx,A.2+n*sy) = -(cr A (mS sx sy v)+cr (mS sx sy v) (A.1+n*sx,A.2+n*sy))) ?_ ?_ ?_ ?_ ?_ ?_ ?_ ?_ <;>
 (unfold mS mvD cr; simp; try grind)
def mG (sx sy:Int) (s:Sg):Sg:=⟨mS sx sy s.b,mS sx sy s.a⟩
theorem Yd7 (h:Str w n sx sy) {o:V} {s:Sg} (e:sgW w o=some s):sgW w (mO w sx sy o)=some (mG sx sy s):=by
 obtain ⟨e1,e2⟩:=Ygk h o
 unfold sgW at e ⊢
 rw [e1,e2,Zmm h]
 split at e
 ·cases e
  rw [if_neg (by omega),if_pos (by omega)]
  rfl
 ·split at e
  ·cases e
   rw [if_pos (by omega)]
   rfl
  ·cases e
theorem mG_c (h:Str w n sx sy) (s:Sg):(mG sx sy s).c=s.c:=by
 unfold Sg.c mG
 dsimp only
 rw [Zmm h,Zh]
 omega
theorem mG_n (h:Str w n sx sy) (s:Sg) (d:V):(mG sx sy s).n d=s.n (mS sx sy d):=by
 have e:=Yd5 h d
 unfold Sg.n mG
 dsimp only
 have e1:=Zmm h s.b (mS sx sy d)
 have e2:=Zmm h (mS sx sy d) s.a
 rw [e] at e1 e2
 rw [e1,e2,Zh s.b,Zh (mS sx sy d) s.a]
 omega
theorem mG_o (h:Str w n sx sy) (s:Sg) (d:V):InO (mG sx sy s) d↔InO s (mS sx sy d):=by
 have e:=Yd5 h d
 unfold InO mG
 dsimp only
 have e1:=Zmm h s.b (mS sx sy d)
 have e2:=Zmm h (mS sx sy d) s.a
 rw [e] at e1 e2
 rw [e1,e2]
 have a1:=Zh s.b (mS sx sy d)
 have a2:=Zh (mS sx sy d) s.a
 constructor<;>(rintro ⟨q1,q2⟩; constructor<;>omega)
theorem Yd6 (h:Str w n sx sy) {a b d:V} (h1:0<cr (mS sx sy b) d) (h2:0<cr d (mS sx sy a)):0<cr a (mS sx sy d)/\0<cr (mS sx sy d) b:=by
 have e:=Yd5 h d
 have e1:=Zmm h b (mS sx sy d)
 have e2:=Zmm h (mS sx sy d) a
 rw [e] at e1 e2
 rw [e1] at h1
 rw [e2] at h2
 have a1:=Zh b (mS sx sy d)
 have a2:=Zh (mS sx sy d) a
 omega
theorem Ygl (h:Str w n sx sy) {v:V} (hp:v.1*sx+v.2*sy≠0) (hq:v.1*sy-v.2*sx≠0):cr (mS sx sy v) v≠0:=by
 revert hp hq
 refine Zaq h (fun sx sy=>v.1*sx+v.2*sy≠0->v.1*sy-v.2*sx≠0->cr (mS sx sy v) v≠0) ?_ ?_ ?_ ?_ ?_ ?_ ?_ ?_ <;>
 (unfold mS mvD cr; simp; intro hp hq)
 all_goals
  intro z
  have hm:∀ x y:Int,x≠0->y≠0->x*y≠0:=fun x y a b q=>by rcases Wv.1 q with c|c<;>contradiction
  have:=hm _ _ hp hq
  grind
end
theorem Ygj {h:Hal} {wq:Nat} {n sx sy:Int} (hs:Str (wlOf h.cs wq) n sx sy) {o v:V} {s:Sg} (es:sgH h.cs o wq=some s) (K:Int) :
  pRy (mO (wlOf h.cs wq) sx sy o) v (K*s.c+1) (K*s.n (mS sx sy v))=pRy o (mix (K*s.c) 1 (mS sx sy v) v) 1 (K*s.n (mS sx sy v)):=by
 obtain ⟨e1,e2⟩:=Ygp hs o v
 have k:s.n (mS sx sy v)*((mO (wlOf h.cs wq) sx sy o).1-o.1)=s.c*((mS sx sy v).1-v.1)/\s.n (mS sx sy v)*((mO (wlOf h.cs wq) sx sy o).2-o.2)=s.c*((mS sx sy v).2-v.2):=by
  rcases Zdj es with ⟨q1,q2⟩|⟨q1,q2⟩
  ·unfold Sg.n Sg.c
   rw [q1,q2]
   exact ⟨e1,e2⟩
  ·have a1:=Zh (wb (wlOf h.cs wq) o) (wa (wlOf h.cs wq) o)
   have a2:=Zh (wb (wlOf h.cs wq) o) (mS sx sy v)
   have a3:=Zh (mS sx sy v) (wa (wlOf h.cs wq) o)
   unfold Sg.n Sg.c
   rw [q1,q2,a1,a2,a3]
   constructor<;>grind
 obtain ⟨k1,k2⟩:=k
 unfold pRy mix
 dsimp only
 generalize mO (wlOf h.cs wq) sx sy o=o' at *
 generalize mS sx sy v=u at *
 generalize s.n u=N at *
 simp only [Qad]
 refine ⟨?_,?_,trivial⟩
 ·have:K*(N*(o'.1-o.1))=K*(s.c*(u.1-v.1)):=by rw [k1]
  grind
 ·have:K*(N*(o'.2-o.2))=K*(s.c*(u.2-v.2)):=by rw [k2]
  grind
theorem Zs3 {h:Hal} (g:h.fine) {o a b:V} {L:Option Nat} {wq:Nat} (K:SecOk h o L a b wq) {n sx sy:Int} (hs:Str (wlOf h.cs wq) n sx sy) {v:V} (h1:0<cr (mS sx sy b) v) (h2:0<cr v (mS sx sy a)) (hv:Avd (avL h.cs (mO (wlOf h.cs wq) sx sy o) (some wq)) v) :
  ∃ s,sgH h.cs o wq=some s/\InO s (mS sx sy v)/\∃ K0:Int,0<K0/\∀ k,K0<=k->insZ h.cs (pRy (mO (wlOf h.cs wq) sx sy o) v (k*s.c+1) (k*s.n (mS sx sy v)))=true:=by
 obtain ⟨u1,u2⟩:=Yd6 hs h1 h2
 obtain ⟨s,f⟩:=K.ft _ u1 u2
 have hc:=Zdi f.c.e
 have hn:=f.c.n
 refine ⟨s,f.c.e,f.o,?_⟩
 have nv:s.n v = -s.n (mS sx sy v):=by
  have:=mS_n hs o v
  rcases Zdj f.c.e with ⟨q1,q2⟩|⟨q1,q2⟩
  ·unfold Sg.n; rw [q1,q2]; exact this
  ·have a1:=Zh (wb (wlOf h.cs wq) o) v
   have a2:=Zh v (wa (wlOf h.cs wq) o)
   have a3:=Zh (wb (wlOf h.cs wq) o) (mS sx sy v)
   have a4:=Zh (mS sx sy v) (wa (wlOf h.cs wq) o)
   unfold Sg.n; rw [q1,q2]; omega
 have hpp:cr (mS sx sy v) v≠0:=by
  have hnn:=hs.hn
  refine Ygl hs ?_ ?_
  ·have:=Yiv hv (by rw [hs.tx,hs.ty]; rintro ⟨q1,q2⟩; exact hs.hxy ⟨Yg (by omega:n*sx=0) hnn,Yg (by omega:n*sy=0) hnn⟩)
   rw [hs.tx,hs.ty] at this
   intro q
   apply this
   have:v.1*((wlOf h.cs wq).fx+n*sx-(wlOf h.cs wq).fx)+v.2*((wlOf h.cs wq).fy+n*sy-(wlOf h.cs wq).fy)=n*(v.1*sx+v.2*sy):=by grind
   rw [this,q,Sb]
  ·intro q
   have:cr (wa (wlOf h.cs wq) o) v+cr v (wb (wlOf h.cs wq) o)=n*(v.1*sy-v.2*sx):=by rw [Zu3 hs o]; unfold cr; dsimp only; grind
   rw [q,Sb] at this
   have z:s.n v=0:=by
    rcases Zdj f.c.e with ⟨q1,q2⟩|⟨q1,q2⟩
    ·unfold Sg.n; rw [q1,q2]; exact this
    ·have a1:=Zh (wb (wlOf h.cs wq) o) v
     have a2:=Zh v (wa (wlOf h.cs wq) o)
     unfold Sg.n; rw [q1,q2]; omega
   omega
 have mo:∀ {p q:Int},0<p->∃ K0:Int,0<K0/\∀ k,K0<=k->0<k*s.c*p+q:=fun {p q} hp=>by
  obtain ⟨K0,k0,hK⟩:=Zd4 (a:=s.c*p) (b:=q) (Qv hc hp)
  exact ⟨K0,k0,fun k hk=>by have:=hK k hk; rwa [<-Lr] at this⟩
 have av:∃ K0:Int,0<K0/\∀ k,K0<=k->Avd (avL h.cs o L) (mix (k*s.c) 1 (mS sx sy v) v):=by
  obtain ⟨K0,k0,hK⟩:=Zrc (avL h.cs o L) hpp
  refine ⟨K0,k0,fun k hk=>hK _ ?_⟩
  have:=Qw (by omega:(1:Int)<=s.c) (by omega:0<=k)
  omega
 have bl:∃ K0:Int,0<K0/\∀ k,K0<=k->∀ l t,L=some l->sgH h.cs o l=some t->t.c*(k*s.n (mS sx sy v))<1*t.n (mix (k*s.c) 1 (mS sx sy v) v):=by
  cases hL:L with
  | none=>exact ⟨1,by omega,fun k _ l t q=>(by cases q)⟩
  | some l =>
   obtain ⟨_,t,et,_⟩:=K.lp l hL
   have hb:=f.c.b l t hL et
   unfold Fx at hb
   obtain ⟨K0,k0,hK⟩:=Zd4 (a:=s.c*t.n (mS sx sy v)-t.c*s.n (mS sx sy v)) (b:=t.n v) (by omega)
   refine ⟨K0,k0,fun k hk l' t' q q2=>?_⟩
   cases q
   rw [et] at q2
   cases q2
   have:=hK k hk
   rw [Sj,Sg.n_mix,Sj]
   have e1:k*(s.c*t.n (mS sx sy v)-t.c*s.n (mS sx sy v))=k*s.c*t.n (mS sx sy v)-t.c*(k*s.n (mS sx sy v)):=by grind
   omega
 obtain ⟨K0,k0,hK⟩:=Zho (mo (q:=cr a v) u1) (Zho (mo (q:=cr v b) u2) (Zho av bl))
 refine ⟨K0,k0,fun k hk=>?_⟩
 obtain ⟨p1,p2,p3,p4⟩:=hK k hk
 rw [Ygj hs f.c.e]
 refine K.ins _ 1 _ ?_ ?_ p3 (by decide) (Qv (by omega) hn) p4 ?_
 ·rw [Xn,Sj]; exact p1
 ·rw [Yr,Sj]; exact p2
 ·intro s' e'
  have:=f.c.e.symm.trans e'
  cases this
  rw [Sj,Sg.n_mix,Sj,nv]
  have e1:s.c*(k*s.n (mS sx sy v))=k*s.c*s.n (mS sx sy v):=by grind
  omega
theorem Zyq {h:Hal} (g:h.fine) {o a b:V} {L:Option Nat} {wq:Nat} (K:SecOk h o L a b wq) {n sx sy:Int} (hs:Str (wlOf h.cs wq) n sx sy) {v:V} (h1:0<cr (mS sx sy b) v) (h2:0<cr v (mS sx sy a)) (hv:Avd (avL h.cs (mO (wlOf h.cs wq) sx sy o) (some wq)) v) :
  ∃ i s,Cnt h.cs.length (sgH h.cs (mO (wlOf h.cs wq) sx sy o)) (some wq) i s v:=by
 obtain ⟨s,es,ho,K0,k0,hK⟩:=Zs3 g K hs h1 h2 hv
 have hc:=Zdi es
 have hn:=ho.n
 have e':=Yd7 hs es
 have hD:0<K0*s.n (mS sx sy v):=Qv k0 hn
 have hk:0<K0*s.c+1:=by have:=Qv k0 hc; omega
 obtain ⟨i,t,hi,et,hC,hN,hle⟩:=Zxg g.st (Zrd hv) (Ye8 hv) hD (Qg hk) (.inl hk) (hK K0 (Wy _))
 have hlt:Fx (mG sx sy s) t v:=by
  unfold Fx
  rw [mG_c hs,mG_n hs]
  have e1:(K0*s.c+1)*t.n v=K0*(s.c*t.n v)+t.n v:=by grind
  have e2:t.c*(K0*s.n (mS sx sy v))=K0*(t.c*s.n (mS sx sy v)):=by grind
  exact Sd (a:=K0) (by omega) (Qg k0)
 refine ⟨i,t,hi,et,?_,hC,hN,fun l r q q2=>?_⟩
 ·intro q
  cases q
  have:=e'.symm.trans et
  cases this
  unfold Fx at hlt
  omega
 ·cases q
  have:=e'.symm.trans q2
  cases this
  exact hlt
theorem Ydv (o v:V) (p q j:Int):pRy o v (p*j) (q*j)=mulP j (pRy o v p q):=by
 unfold pRy mulP
 simp only [Qad]
 refine ⟨by grind,by grind,by grind⟩
theorem Zyp {h:Hal} (g:h.fine) {o a b:V} {L:Option Nat} {wq:Nat} (K:SecOk h o L a b wq) {n sx sy:Int} (hs:Str (wlOf h.cs wq) n sx sy) {a' b' : V} (hab:0<cr a' b')
  (hin:∀ d,0<cr a' d->0<cr d b'->0<cr (mS sx sy b) d/\0<cr d (mS sx sy a))
  (hno:∀ c∈ends h.cs.length (sgH h.cs (mO (wlOf h.cs wq) sx sy o)),0<cr a' c->0<cr c b' -> ¬ Seen h.cs.length (sgH h.cs (mO (wlOf h.cs wq) sx sy o)) (some wq) c):∃ wr,SecOk h (mO (wlOf h.cs wq) sx sy o) (some wq) a' b' wr:=by
 have hseg:∃ s,sgH h.cs o wq=some s:=by
  have hab2:=K.ab
  obtain ⟨s,f⟩:=K.ft (mix 1 1 a b) (by rw [Xn,Zj]; omega) (by rw [Yr,Zj]; omega)
  exact ⟨s,f.c.e⟩
 obtain ⟨s,es⟩:=hseg
 have e':=Yd7 hs es
 have lo:∀ d,0<cr a' d->0<cr d b'->InO (mG sx sy s) d:=fun d h1 h2=>by
  obtain ⟨q1,q2⟩:=hin d h1 h2
  obtain ⟨u1,u2⟩:=Yd6 hs q1 q2
  obtain ⟨s2,f⟩:=K.ft _ u1 u2
  have:=es.symm.trans f.c.e
  cases this
  exact (mG_o hs s d).2 f.o
 obtain ⟨wr,hW2⟩:=sector (Zvd g _) (Zm6 h.cs _ (some wq)) hab (fun d h1 h2 l t q q2=>by
  cases q
  have:=e'.symm.trans q2
  cases this
  exact ⟨K.wlt,lo d h1 h2⟩) (fun v h1 h2 hv=>by
  obtain ⟨q1,q2⟩:=hin v h1 h2
  exact Zyq g K hs q1 q2 hv) hno
 refine ⟨wr,hab,fun l q=>by cases q; exact ⟨K.wlt,_,e',lo⟩,hW2,fun v k D h1 h2 hv hk hD hL hWs=>?_⟩
 obtain ⟨q1,q2⟩:=hin v h1 h2
 obtain ⟨s2,es2,ho2,K0,k0,hK⟩:=Zs3 g K hs q1 q2 hv
 have:=es.symm.trans es2
 cases this
 obtain ⟨s0,f⟩:=hW2 v h1 h2
 have hn:=ho2.n
 have hc:=Zdi es
 have hl:=hL wq _ rfl e'
 rw [mG_c hs,mG_n hs] at hl
 obtain ⟨K1,k1,hK1⟩:=Zd4 (a:=k*s.n (mS sx sy v)-s.c*D) (b:=-D) (by omega)
 obtain ⟨kk,hk0,hk1⟩:∃ kk,K0<=kk/\K1<=kk:=⟨K0+K1,by omega,by omega⟩
 have z1:=hK kk hk0
 have z2:=hK1 kk hk1
 have hkk:0<kk:=by omega
 have hN:0<kk*s.n (mS sx sy v):=Qv hkk hn
 have hcc:0<kk*s.c+1:=by have:=Qv hkk hc; omega
 have m1:∀ {p q j:Int},0<j->insZ h.cs (pRy (mO (wlOf h.cs wq) sx sy o) v (p*j) (q*j))=insZ h.cs (pRy (mO (wlOf h.cs wq) sx sy o) v p q):=fun {p q j} hj=>by
  rw [Ydv,Zmq h.cs hj]
 have e1:=m1 (p:=kk*s.c+1) (q:=kk*s.n (mS sx sy v)) hD
 have e2:=m1 (p:=k) (q:=D) hN
 rw [Rl D] at e2
 rw [<-e2,<-Zll g.st hv f (k1:=(kk*s.c+1)*D) (k2:=k*(kk*s.n (mS sx sy v))) (D:=kk*s.n (mS sx sy v)*D) (Qv hN hD) (Qg (Qv hcc hD)) ?_ (.inl (Qv hcc hD)) ?_ ?_,e1]
 ·exact z1
 ·have a1:kk*(k*s.n (mS sx sy v)-s.c*D)=k*(kk*s.n (mS sx sy v))-kk*s.c*D:=by grind
  have a2:(kk*s.c+1)*D=kk*s.c*D+D:=by grind
  omega
 ·intro l t q q2
  cases q
  have:=e'.symm.trans q2
  cases this
  rw [mG_c hs,mG_n hs]
  refine ⟨hn,?_⟩
  have a1:s.c*(kk*s.n (mS sx sy v)*D)=kk*s.c*s.n (mS sx sy v)*D:=by grind
  have a2:(kk*s.c+1)*D*s.n (mS sx sy v)=kk*s.c*s.n (mS sx sy v)*D+D*s.n (mS sx sy v):=by grind
  have:=Qv hD hn
  omega
 ·have:=hWs s0 f.c.e
  have a1:=Rn this hN
  have e1:k*(kk*s.n (mS sx sy v))*s0.n v=kk*s.n (mS sx sy v)*(k*s0.n v):=by grind
  have e2:s0.c*(kk*s.n (mS sx sy v)*D)=kk*s.n (mS sx sy v)*(s0.c*D):=by grind
  omega
def dt (c x:V):Int:=c.1*x.1+c.2*x.2
theorem Zo5 {c:V} (h:c≠(0,0)):0<dt c c:=by
 unfold dt
 have sq:∀ x:Int,0<=x*x:=fun x=>by
  rcases Lc 0 x with z|z
  ·exact Qq z z
  ·exact Wg z z
 have s1:=sq c.1
 have s2:=sq c.2
 have pz:∀ x:Int,x≠0->0<x*x:=fun x hx=>by
  rcases Mi hx with z|z
  ·exact Lf z z
  ·exact Qv z z
 by_cases q:c.1=0
 ·have:c.2≠0:=fun z=>h (Tk q z)
  have:=pz _ this
  omega
 ·have:=pz _ q
  omega
theorem Zsx {c x:V} (h:cr c x=0):dt c c*x.1=dt c x*c.1/\dt c c*x.2=dt c x*c.2:=by
 unfold cr at h
 unfold dt
 constructor
 ·have:(c.1*c.1+c.2*c.2)*x.1-(c.1*x.1+c.2*x.2)*c.1 = -(c.2*(c.1*x.2-c.2*x.1)):=by grind
  rw [h] at this
  omega
 ·have:(c.1*c.1+c.2*c.2)*x.2-(c.1*x.1+c.2*x.2)*c.2=c.1*(c.1*x.2-c.2*x.1):=by grind
  rw [h] at this
  omega
theorem Zo6 {c x:V} (h:cr c x=0) (y:V):dt c c*cr x y=dt c x*cr c y/\dt c c*cr y x=dt c x*cr y c:=by
 obtain ⟨h1,h2⟩:=Zsx h
 unfold cr
 constructor
 ·have:dt c c*(x.1*y.2-x.2*y.1)=(dt c c*x.1)*y.2-(dt c c*x.2)*y.1:=by grind
  rw [this,h1,h2]; grind
 ·have:dt c c*(y.1*x.2-y.2*x.1)=y.1*(dt c c*x.2)-y.2*(dt c c*x.1):=by grind
  rw [this,h1,h2]; grind
theorem dt_n {c x:V} (h:cr c x=0) (s:Sg):dt c c*s.n x=dt c x*s.n c:=by
 obtain ⟨h1,_⟩:=Zo6 h s.b
 obtain ⟨_,h2⟩:=Zo6 h s.a
 unfold Sg.n
 rw [Fy,h1,h2]; grind
theorem Zr7 {w:Wl} {n sx sy x y d s t:Int} (g:Str w n sx sy) (hd:0<d) (s0:0<=s) (t0:0<=t) (st:0<s+t) (e1:(s+t)*x=d*(s*w.fx+t*w.tx)) (e2:(s+t)*y=d*(s*w.fy+t*w.ty)):onW w n sx sy x y d:=by
 rw [g.tx] at e1
 rw [g.ty] at e2
 have hn:=g.hn
 have qp:=qpos g
 have f1:(s+t)*(x-w.fx*d)=d*(t*n*sx):=by grind
 have f2:(s+t)*(y-w.fy*d)=d*(t*n*sy):=by grind
 have ea:(s+t)*(sx*(x-w.fx*d)+sy*(y-w.fy*d))=d*(t*n*(sx*sx+sy*sy)):=by
  have:(s+t)*(sx*(x-w.fx*d)+sy*(y-w.fy*d))=sx*((s+t)*(x-w.fx*d))+sy*((s+t)*(y-w.fy*d)):=by grind
  rw [this,f1,f2]; grind
 unfold onW bes alo
 refine ⟨?_,?_,?_⟩
 ·have:(s+t)*(sx*(y-w.fy*d)-sy*(x-w.fx*d))=0:=by
   have:(s+t)*(sx*(y-w.fy*d)-sy*(x-w.fx*d))=sx*((s+t)*(y-w.fy*d))-sy*((s+t)*(x-w.fx*d)):=by grind
   rw [this,f1,f2]; grind
  exact Yg this st
 ·exact Zai (a:=s+t) (by rw [ea]; exact Qq (Qg hd) (Qq (Qq t0 (Qg hn)) (Qg qp))) st
 ·refine Sw (a:=s+t) ?_ st
  rw [ea]
  have a1:t*(n*(sx*sx+sy*sy))<=(s+t)*(n*(sx*sx+sy*sy)):=Qk (by omega) (Qq (Qg hn) (Qg qp))
  have a2:=Qw a1 (Qg hd)
  have e3:d*(t*n*(sx*sx+sy*sy))=d*(t*(n*(sx*sx+sy*sy))):=by grind
  have e4:(s+t)*(n*(sx*sx+sy*sy)*d)=d*((s+t)*(n*(sx*sx+sy*sy))):=by grind
  omega
theorem Yb3 {s t q d r A B:Int} (h:(s+t)*r=d*(s*A+t*B)):(s+t)*(q*d+r)=d*(s*(A+q)+t*(B+q)):=by
 rw [Fy,h]; grind
theorem Yh0 {h:Hal} (g:h.fine) {k:Nat} (hk:k<h.cs.length):(wlOf h.cs (if k=0 then h.cs.length-1 else k-1)).turnsBack (wlOf h.cs k)=false:=by
 have l3:=g.le.2.1
 have l12:h.cs.length<=12:=by have:=g.le; omega
 have e1:∀ k:Nat,(wlOf h.cs k).n=(k:Int):=fun k=>rfl
 split
 ·rename_i hz
  subst hz
  have p:=Zmj g (i:=0) (j:=h.cs.length-1) (by omega) (by omega)
  unfold Za9 at p
  cases hb:(wlOf h.cs (h.cs.length-1)).turnsBack (wlOf h.cs 0)
  ·rfl
  ·rw [e1,e1,decide_eq_false (by omega:¬ ((h.cs.length-1:Nat):Int)<=((0:Nat):Int)),Wr,hb,W_eq (n:=(h.cs.length:Int)-1) (by omega) (by omega),decide_eq_true (by omega:((0:Nat):Int)=0),decide_eq_true (by omega:((h.cs.length-1:Nat):Int)=(h.cs.length:Int)-1)] at p
   simp at p
 ·rename_i hz
  have p:=Zmj g (i:=k-1) (j:=k) (by omega) hk
  unfold Za9 at p
  cases hb:(wlOf h.cs (k-1)).turnsBack (wlOf h.cs k)
  ·rfl
  ·rw [e1,e1,decide_eq_false (by omega:¬ (k:Int)<=((k-1:Nat):Int)),Wr,hb,W_eq (n:=((k-1:Nat):Int)+1) (by omega) (by omega),decide_eq_true (by omega:(k:Int)=((k-1:Nat):Int)+1)] at p
   simp at p
theorem Yhz {h:Hal} (g:h.fine) {k:Nat} (hk:k<h.cs.length) (o:V):(if k=0 then h.cs.length-1 else k-1)<h.cs.length/\wb (wlOf h.cs (if k=0 then h.cs.length-1 else k-1)) o=wa (wlOf h.cs k) o:=by
 have l3:=g.le.2.1
 split
 ·rename_i hz
  subst hz
  refine ⟨by omega,?_⟩
  unfold wb wa wlOf
  dsimp only
  rw [show h.cs.length-1+1=h.cs.length by omega,Nat.mod_self]
 ·rename_i hz
  refine ⟨by omega,?_⟩
  unfold wb wa wlOf
  dsimp only
  rw [show k-1+1=k by omega,Nat.mod_eq_of_lt hk]
theorem Zwk {h:Hal} (g:h.fine) {k:Nat} (hk:k<h.cs.length) (o:V):(k+1)%h.cs.length<h.cs.length/\wb (wlOf h.cs k) o=wa (wlOf h.cs ((k+1)%h.cs.length)) o:=by
 have l3:=g.le.2.1
 exact ⟨Tx _ (by omega),rfl⟩
structure Bef (h:Hal) (o:V) (L:Option Nat) (c:V):Prop where
 no:L=none->∀ i,i<h.cs.length -> ¬ onO h.cs o i
 lk:∀ l,L=some l->l<h.cs.length/\∃ t,sgH h.cs o l=some t/\InO t c
theorem Ycy {h:Hal} (g:h.fine) {o c:V} {L:Option Nat} (B:Bef h o L c) (hc:c≠(0,0)) {i:Nat} (hi:i<h.cs.length) (hn:sgH h.cs o i=none) {P Q:V} (hPQ:(wa (wlOf h.cs i) o=P/\wb (wlOf h.cs i) o=Q)\/(wa (wlOf h.cs i) o=Q/\wb (wlOf h.cs i) o=P))
  (zP:cr c P=0) (zQ:cr c Q=0) (pP:0<dt c P) (lt:dt c Q<dt c P) (be:pbey (sgH h.cs o) L P):0<dt c Q/\pbey (sgH h.cs o) L Q:=by
 have dc:=Zo5 hc
 obtain ⟨P1,P2⟩:=Zsx zP
 obtain ⟨Q1,Q2⟩:=Zsx zQ
 cases hL:L with
 | none =>
  refine ⟨?_,fun l t q=>(by cases q)⟩
  rcases Wc 0 (dt c Q) with q|q
  ·exact q
  exfalso
  have k1:dt c c*(-dt c Q*P.1+dt c P*Q.1)=0:=by
   have:dt c c*(-dt c Q*P.1+dt c P*Q.1) = -dt c Q*(dt c c*P.1)+dt c P*(dt c c*Q.1):=by grind
   rw [this,P1,Q1]; grind
  have k2:dt c c*(-dt c Q*P.2+dt c P*Q.2)=0:=by
   have:dt c c*(-dt c Q*P.2+dt c P*Q.2) = -dt c Q*(dt c c*P.2)+dt c P*(dt c c*Q.2):=by grind
   rw [this,P2,Q2]; grind
  have k1:=Yg k1 dc
  have k2:=Yg k2 dc
  refine B.no hL i hi ?_
  unfold onO
  rcases hPQ with ⟨e1,e2⟩|⟨e1,e2⟩
  ·rw [e1,e2]; exact ⟨-dt c Q,dt c P,by omega,by omega,by omega,k1,k2⟩
  ·rw [e1,e2]; exact ⟨dt c P,-dt c Q,by omega,by omega,by omega,by omega,by omega⟩
 | some l =>
  obtain ⟨hl,t,et,ht⟩:=B.lk l hL
  have hlP:=be l t hL et
  have htn:=ht.n
  have htc:=Zdi et
  have nP:=dt_n zP t
  have nQ:=dt_n zQ t
  obtain ⟨n,sx,sy,hs⟩:=g.st l hl
  obtain ⟨m,tx,ty,hsi⟩:=g.st i hi
  have hil:l≠i:=fun q=>by rw [q,hn] at et; cases et
  rcases Wc t.c (t.n Q) with q|q
  ·refine ⟨?_,fun l' t' e1 e2=>by cases e1; rw [et] at e2; cases e2; exact q⟩
   have a1:=Qv dc (by omega:0<t.n Q)
   rw [nQ,Rl] at a1
   exact Zr a1 htn
  ·exfalso
   obtain ⟨x,x1,x2,x3⟩:=Zma hs et htn
   have hde:=Zqi x1
   have o1:=Zxd hs x1 (x3.on.2 ht.c)
   rw [x3.c] at hlP q
   rw [x3.nn] at nP nQ
   have hnn:=hs.hn
   have g1:x.nu*dt c c<dt c P*x.de:=by
    refine Sd (a:=n) ?_ (Qg hnn)
    have a1:=Rn hlP dc
    have e1:dt c c*(n*x.nu)=n*(x.nu*dt c c):=by grind
    have e2:dt c P*(n*x.de)=n*(dt c P*x.de):=by grind
    omega
   have g2:dt c Q*x.de<=x.nu*dt c c:=by
    refine Sw (a:=n) ?_ hnn
    have a1:=Qw q (Qg dc)
    have e1:dt c c*(n*x.nu)=n*(x.nu*dt c c):=by grind
    have e2:dt c Q*(n*x.de)=n*(dt c Q*x.de):=by grind
    omega
   have fin:∀ {s t:Int} {A B:V},wa (wlOf h.cs i) o=A->wb (wlOf h.cs i) o=B->0<=s->0<=t->0<s+t->(s+t)*(x.nu*c.1)=x.de*(s*A.1+t*B.1)->(s+t)*(x.nu*c.2)=x.de*(s*A.2+t*B.2)->False:=fun {s t A B} eA eB s0 t0 st k1 k2=>by
    have hA:(wlOf h.cs i).fx=A.1+o.1/\(wlOf h.cs i).fy=A.2+o.2:=by rw [<-eA]; unfold wa; dsimp only; omega
    have hB:(wlOf h.cs i).tx=B.1+o.1/\(wlOf h.cs i).ty=B.2+o.2:=by rw [<-eB]; unfold wb; dsimp only; omega
    have o2:onW (wlOf h.cs i) m tx ty (o.1*x.de+x.nu*c.1) (o.2*x.de+x.nu*c.2) x.de:=Zr7 hsi hde s0 t0 st (by rw [hA.1,hB.1]; exact Yb3 k1) (by rw [hA.2,hB.2]; exact Yb3 k2)
    have e:=Zi2 g hil hl hi hs hsi hde o1 o2
    have:=Zxe hs x1 e
    rw [x3.well.2 ht] at this
    cases this
   have z1:dt c c*((dt c P*x.de-dt c Q*x.de)*(x.nu*c.1))=dt c c*(x.de*((x.nu*dt c c-dt c Q*x.de)*P.1+(dt c P*x.de-x.nu*dt c c)*Q.1)):=by
    have:dt c c*(x.de*((x.nu*dt c c-dt c Q*x.de)*P.1+(dt c P*x.de-x.nu*dt c c)*Q.1))=x.de*((x.nu*dt c c-dt c Q*x.de)*(dt c c*P.1)+(dt c P*x.de-x.nu*dt c c)*(dt c c*Q.1)):=by grind
    rw [this,P1,Q1]; grind
   have z2:dt c c*((dt c P*x.de-dt c Q*x.de)*(x.nu*c.2))=dt c c*(x.de*((x.nu*dt c c-dt c Q*x.de)*P.2+(dt c P*x.de-x.nu*dt c c)*Q.2)):=by
    have:dt c c*(x.de*((x.nu*dt c c-dt c Q*x.de)*P.2+(dt c P*x.de-x.nu*dt c c)*Q.2))=x.de*((x.nu*dt c c-dt c Q*x.de)*(dt c c*P.2)+(dt c P*x.de-x.nu*dt c c)*(dt c c*Q.2)):=by grind
    rw [this,P2,Q2]; grind
   have z1:=Pk (by omega:dt c c≠0) z1
   have z2:=Pk (by omega:dt c c≠0) z2
   rcases hPQ with ⟨eA,eB⟩|⟨eA,eB⟩
   ·refine fin eA eB (s:=x.nu*dt c c-dt c Q*x.de) (t:=dt c P*x.de-x.nu*dt c c) (by omega) (by omega) (by omega) ?_ ?_
    ·rw [show x.nu*dt c c-dt c Q*x.de+(dt c P*x.de-x.nu*dt c c)=dt c P*x.de-dt c Q*x.de by omega]; exact z1
    ·rw [show x.nu*dt c c-dt c Q*x.de+(dt c P*x.de-x.nu*dt c c)=dt c P*x.de-dt c Q*x.de by omega]; exact z2
   ·refine fin eA eB (s:=dt c P*x.de-x.nu*dt c c) (t:=x.nu*dt c c-dt c Q*x.de) (by omega) (by omega) (by omega) ?_ ?_
    ·rw [show dt c P*x.de-x.nu*dt c c+(x.nu*dt c c-dt c Q*x.de)=dt c P*x.de-dt c Q*x.de by omega,z1,Pi ((x.nu*dt c c-dt c Q*x.de)*P.1)]
    ·rw [show dt c P*x.de-x.nu*dt c c+(x.nu*dt c c-dt c Q*x.de)=dt c P*x.de-dt c Q*x.de by omega,z2,Pi ((x.nu*dt c c-dt c Q*x.de)*P.2)]
theorem Yfn (w:Wl) (o:V):(∃ s,sgW w o=some s)\/(sgW w o=none/\cr (wa w o) (wb w o)=0):=by
 unfold sgW
 split
 ·exact .inl ⟨_,rfl⟩
 ·split
  ·exact .inl ⟨_,rfl⟩
  ·exact .inr ⟨rfl,by omega⟩
theorem chain {h:Hal} (g:h.fine) {o c:V} {L:Option Nat} (B:Bef h o L c) (hc:c≠(0,0)):∀ (N:Nat) (k:Nat),k<h.cs.length->cr c (wa (wlOf h.cs k) o)=0->0<dt c (wa (wlOf h.cs k) o)->(dt c (wa (wlOf h.cs k) o)).toNat<=N->pbey (sgH h.cs o) L (wa (wlOf h.cs k) o) ->
  ∃ i s p,i<h.cs.length/\sgH h.cs o i=some s/\(p=s.a\/p=s.b)/\cr c p=0/\0<dt c p/\dt c p<=dt c (wa (wlOf h.cs k) o)/\pbey (sgH h.cs o) L p
 | 0,k,hk,z,hp,hN,be=>by omega
 | N+1,k,hk,z,hp,hN,be=>by
  have dc:=Zo5 hc
  obtain ⟨ka,ea⟩:=Yhz g hk o
  obtain ⟨kn,en⟩:=Zwk g hk o
  rcases Yfn (wlOf h.cs k) o with ⟨s,es⟩|⟨e1,e2⟩
  ·refine ⟨k,s,wa (wlOf h.cs k) o,hk,es,?_,z,hp,Wy _,be⟩
   rcases Zdj es with ⟨q1,q2⟩|⟨q1,q2⟩
   ·exact .inl q1.symm
   ·exact .inr q2.symm
  rcases Yfn (wlOf h.cs (if k=0 then h.cs.length-1 else k-1)) o with ⟨s,es⟩|⟨e3,e4⟩
  ·refine ⟨_,s,wa (wlOf h.cs k) o,ka,es,?_,z,hp,Wy _,be⟩
   rw [<-ea]
   rcases Zdj es with ⟨q1,q2⟩|⟨q1,q2⟩
   ·exact .inr q2.symm
   ·exact .inl q1.symm
  have nb:=Yh0 g hk
  generalize hk' : (if k=0 then h.cs.length-1 else k-1)=k' at *
  have lin:∀ {x:V},cr (wa (wlOf h.cs k) o) x=0->cr c x=0:=fun {x} hx=>by
   have:=(Zo6 z x).1
   rw [hx,Sb] at this
   exact Yg this.symm hp
  have zB:=lin e2
  have zA:cr c (wa (wlOf h.cs k') o)=0:=lin (by rw [ea] at e4; rw [Zh]; omega)
  obtain ⟨n,sx,sy,hs⟩:=g.st k hk
  obtain ⟨m,tx,ty,hs'⟩:=g.st k' ka
  have wk:=Zu3 hs o
  have wk':=Zu3 hs' o
  rw [ea] at wk'
  have hsc:cr c (sx,sy)=0:=by
   have e:cr c (wb (wlOf h.cs k) o)=cr c (wa (wlOf h.cs k) o)+n*cr c (sx,sy):=by rw [wk]; unfold cr; dsimp only; grind
   exact Yg (by omega) hs.hn
  have htc:cr c (tx,ty)=0:=by
   have e:cr c (wa (wlOf h.cs k) o)=cr c (wa (wlOf h.cs k') o)+m*cr c (tx,ty):=by rw [wk']; unfold cr; dsimp only; grind
   exact Yg (by omega) hs'.hn
  have same:tx=sx/\ty=sy:=by
   have nt:¬ (sx = -tx/\sy = -ty):=fun q=>by
    have:=(Ziu hs' hs).2 q
    rw [nb] at this
    cases this
   have d1:=(Zo6 hsc (tx,ty)).1
   rw [htc,Sb] at d1
   have d1:=Yg d1 dc
   unfold cr at d1
   dsimp only at d1
   have a1:=hs.hxy
   have a2:=hs'.hxy
   rcases hs.hx with rfl|rfl|rfl<;>rcases hs.hy with rfl|rfl|rfl<;>rcases hs'.hx with rfl|rfl|rfl<;>rcases hs'.hy with rfl|rfl|rfl<;>simp at d1 a1 a2 nt ⊢
  obtain ⟨rfl,rfl⟩:=same
  have dB:dt c (wb (wlOf h.cs k) o)=dt c (wa (wlOf h.cs k) o)+n*dt c (tx,ty):=by rw [wk]; unfold dt; dsimp only; grind
  have dA:dt c (wa (wlOf h.cs k) o)=dt c (wa (wlOf h.cs k') o)+m*dt c (tx,ty):=by rw [wk']; unfold dt; dsimp only; grind
  have dn:dt c (tx,ty)≠0:=fun q=>by
   obtain ⟨p1,p2⟩:=Zsx hsc
   rw [q,Sq] at p1 p2
   exact hs.hxy ⟨Yg p1 dc,Yg p2 dc⟩
  rcases Mi dn with q|q
  ·
   have q2:=Ty hs.hn q
   obtain ⟨r1,r2⟩:=Ycy g B hc hk e1 (.inl ⟨rfl,rfl⟩) z zB hp (by omega) be
   rw [en] at r1 r2 zB dB
   obtain ⟨i,s,p,f1,f2,f3,f4,f5,f6,f7⟩:=chain g B hc N _ kn zB r1 (by omega) r2
   exact ⟨i,s,p,f1,f2,f3,f4,f5,by omega,f7⟩
  ·have q2:=Qv hs'.hn q
   obtain ⟨r1,r2⟩:=Ycy g B hc ka e3 (.inr ⟨rfl,ea⟩) z zA hp (by omega) be
   obtain ⟨i,s,p,f1,f2,f3,f4,f5,f6,f7⟩:=chain g B hc N _ ka zA r1 (by omega) r2
   exact ⟨i,s,p,f1,f2,f3,f4,f5,by omega,f7⟩
theorem Zrs {h:Hal} (g:h.fine) {o:V} {L:Option Nat} {k:Nat} (hk:k<h.cs.length) (B:Bef h o L (wa (wlOf h.cs k) o)) (hc:wa (wlOf h.cs k) o≠(0,0)) (hs:Seen h.cs.length (sgH h.cs o) L (wa (wlOf h.cs k) o)) :
  ∃ i s,Cnt h.cs.length (sgH h.cs o) L i s (wa (wlOf h.cs k) o)/\s.n (wa (wlOf h.cs k) o)=s.c:=by
 have dc:=Zo5 hc
 obtain ⟨i,s,p,f1,f2,f3,f4,f5,f6,f7⟩:=chain g B hc _ k hk (Zj _) dc (Qd _) hs.1
 generalize wa (wlOf h.cs k) o=c at *
 have hsc:=Zdi f2
 have np:s.n p=s.c:=by rcases f3 with rfl|rfl; exact Sg.n_a s; exact Sg.n_b s
 have nn:=dt_n f4 s
 rw [np] at nn
 have hn:0<s.n c:=by
  have:=Qv dc hsc
  rw [nn] at this
  exact Zr this f5
 have hC:InC s c:=by
  have a1:=(Zo6 f4 s.b).1
  have a2:=(Zo6 f4 s.a).2
  have pc:InC s p:=by rcases f3 with rfl|rfl; exact a_in hsc; exact b_in hsc
  refine ⟨Zai (a:=dt c p) ?_ f5,Zai (a:=dt c p) ?_ f5⟩
  ·rw [<-a2]; exact Qq (Qg dc) pc.1
  ·rw [<-a1]; exact Qq (Qg dc) pc.2
 have hle:s.c<=s.n c:=by
  refine Sw (a:=dt c c) ?_ dc
  rw [nn]
  exact Qk f6 (Qg hn)
 have cn:Cnt h.cs.length (sgH h.cs o) L i s c:=by
  refine ⟨f1,f2,?_,hC,hn,fun l t e1 e2=>?_⟩
  ·intro q
   have:=f7 i s q f2
   omega
  ·have b:=f7 l t e1 e2
   unfold Fx
   have nt:=dt_n f4 t
   have a1:=Rn b dc
   rw [nt] at a1
   refine Sd (a:=dt c p) ?_ (Qg f5)
   have e1:dt c p*(t.c*s.n c)=t.c*(dt c p*s.n c):=by grind
   have e2:dt c p*(s.c*t.n c)=s.c*(dt c p*t.n c):=by grind
   rw [e1,e2,<-nn]
   have a2:=Rn a1 hsc
   have e3:t.c*(dt c c*s.c)=s.c*(dt c c*t.c):=by grind
   omega
 have:=hs.2 i s cn
 exact ⟨i,s,cn,by omega⟩
open Go Go.Sx
theorem d210 (n lo hi:Int):PCall Tryz.prog 78 [I n,I lo,I hi] ⟨Bo (within n lo hi),[]⟩:=by
 refine pn Ze Tryz.func78 ?_
 repeat'(first|refine wk3 ?_|(refine wk2 ?_ ?_<;>intro _)|fail)
 all_goals exact Za (by simp_all [within]<;>omega)
theorem d209 (b:Bool) (e:Int):PCall Tryz.prog 75 [Bo b,I e] ⟨I (unl b e),[]⟩:=by
 refine pn Ze Tryz.func75 ?_
 repeat'(first|refine wk3 ?_|(refine wk2 ?_ ?_<;>intro _)|fail)
 all_goals exact Zc (by simp_all [unl])
def fstL:List Int->Int
 | []=>0
 | x::l=>if x≠0 then x else fstL l
theorem Zxp (x:Int) (l:List Int):fstL (x::l)=if x≠0 then x else fstL l:=rfl
theorem d78 {l:List Int} (hl:l.length<1000):PCall Tryz.prog 39 [.isl 1 (nl l)] ⟨I (fstL l),[]⟩:=by
 have l2:=Zp l
 refine pn Ze Tryz.func39 ?_
 repeat'(first|refine wk3 ?_|(refine wk2 ?_ ?_<;>intro _)|fail)
 refine Zm (S:=Nat × Int) (fun t=>l.length-t.1) (fun t=>[(5,.isl 1 (nl l)),(6,I (nl l).length),(7,I t.2)]) (fun _=>[]) 0 0 (fun t=>t.2=t.1/\t.1<=l.length/\fstL (l.drop t.1)=fstL l) (0,0) ⟨rfl,Qp _,rfl⟩ (Qd _) [] rfl (kps) (kps) ?_
 rintro ⟨k,i⟩ ⟨hi,hk,hh⟩
 dsimp only at hi hk hh ⊢
 subst hi
 generalize fstL l=R at *
 refine bs.av (sx:=nos) Ze ?_
 by_cases hlt:k<l.length
 ·have e1:=Zal hlt
  rw [List.drop_eq_getElem_cons hlt,Zxp] at hh
  generalize l[k]=x at *
  by_cases hx:x=0
  ·rw [if_neg (fun c=>c hx)] at hh
   repeat'(first|refine wk3 ?_|(refine wk2 ?_ ?_<;>intro _)|fail)
   exact Qr ⟨(k+1,_),[],rfl,kps,kps,⟨Zb (by omega),hlt,hh⟩,by dsimp only; omega⟩
  ·rw [if_pos hx] at hh
   subst hh
   repeat'(first|refine wk3 ?_|(refine wk2 ?_ ?_<;>intro _)|fail)
   exact Zc rfl
 ·rw [List.drop_of_length_le (by omega)] at hh
  repeat'(first|refine wk3 ?_|(refine wk2 ?_ ?_<;>intro _)|fail)
  exact Zc hh
def r78f:List AV->Option PRes
 | [.isl 1 l]=>match numsOf l with
  | some ns=>asr (Nat.blt ns.length 1000) ⟨I (fstL ns),[]⟩
  | none=>none
 | _=>none
where
 numsOf:List (List AV)->Option (List Int)
  | []=>some []
  | [.int .i64 n]::l=>match numsOf l with
   | some ns=>some (n::ns)
   | none=>none
  | _=>none
theorem Znx:∀ {l:List (List AV)} {ns:List Int},r78f.numsOf l=some ns->l=nl ns
 | [],ns,h=>by cases h; rfl
 | e::l,ns,h=>by
  unfold r78f.numsOf at h
  split at h
  ·rename_i h0; cases h0
  ·rename_i n l' h0
   cases h0
   split at h
   ·rename_i ms hm
    cases h
    rw [Znx hm]; rfl
   ·cases h
  ·cases h
theorem d86 (n m:Int):PCall Tryz.prog 77 [I n,I m] ⟨Bo (small n m),[]⟩:=by
 have hk:PCOK Tryz.prog (ins 78 (fun a=>match a with
  | [.int .i64 n,.int .i64 lo,.int .i64 hi]=>some ⟨Bo (within n lo hi),[]⟩
  | _=>none) pt0):=Zk (fun a res h=>by split at h<;>cases h; exact d210 _ _ _) Ze
 refine pn hk Tryz.func77 ?_
 repeat'(first|refine wk3 ?_|(refine wk2 ?_ ?_<;>intro _)|fail)
 exact Za rfl
def rWu:List AV->Option PRes
 | [.int .i64 n,.int .i64 lo,.int .i64 hi]=>some ⟨Bo (within n lo hi),[]⟩
 | _=>none
def rUn:List AV->Option PRes
 | [.bool b,.int .i64 e]=>some ⟨I (unl b e),[]⟩
 | _=>none
def kI0:PC:=ins 39 r78f (ins 75 rUn (ins 78 rWu (ins 77 r92 k78)))
theorem Ygy:PCOK Tryz.prog kI0:=by
 refine Zk (fun a res h=>?_) (Zk (fun a res h=>?_) (Zk (fun a res h=>?_) (Zk (fun a res h=>?_) Zn7)))
 ·unfold r78f at h
  split at h
  ·split at h
   ·rename_i ns hn
    obtain ⟨h1,rfl⟩:=Zat h
    rw [Znx hn]
    exact d78 (by simpa [Nat.blt_eq] using h1)
   ·cases h
  ·cases h
 ·unfold rUn at h; split at h<;>cases h; exact d209 _ _
 ·unfold rWu at h; split at h<;>cases h; exact d210 _ _ _
 ·unfold r92 at h; split at h<;>cases h; exact d86 _ _
def i64 (n:Int):Prop:=-9223372036854775808<=n/\n<=9223372036854775807
theorem Zvl {a:Int} (h:i64 a):size a=Qa Qb (a.natAbs:Int):=by
 unfold size imax
 obtain ⟨h1,h2⟩:=h
 by_cases h3:a = -9223372036854775808
 ·subst h3; decide
 ·rw [W_eq (n:=0-a) (by omega) (by omega),W_eq (by omega) (by omega)]
  by_cases h4:a<0-a
  ·rw [decide_eq_true h4]; simp only [cond_true]; omega
  ·rw [decide_eq_false h4]; simp only [cond_false]; omega
theorem Zl1 {a b:Int} (ha:i64 a) (hb:b≠0):i64 (a.tmod b):=by
 obtain ⟨h1,h2⟩:=ha
 have h3:(a.tmod b).natAbs<=a.natAbs:=by rw [Ml]; exact Nat.mod_le _ _
 have h4:0<=a->0<=a.tmod b:=fun h=>Qbc b h
 have h5:a<=0->a.tmod b<=0:=fun h=>by have:=Qbc b (a:=-a) (by omega); rw [Int.neg_tmod] at this; omega
 unfold i64
 omega
theorem Zmw {a b:Int}:Oe b.natAbs (a.tmod b).natAbs=Oe a.natAbs b.natAbs:=by
 rw [Ml,Nat.gcd_comm,<-Nat.gcd_rec,Nat.gcd_comm]
theorem c120 {a b:Int} (ha:i64 a) (hb:i64 b):PCall Tryz.prog 20 [I a,I b] ⟨I (Qa Qb ((Oe a.natAbs b.natAbs:Nat):Int)),[]⟩:=by
 refine pn Zsf Tryz.func20 ?_
 generalize hG:Oe a.natAbs b.natAbs=G
 refine Zm (S:=Int × Int) (fun t=>t.2.natAbs) (fun t=>[(0,I t.1),(1,I t.2)]) (fun _=>[]) 0 0 (fun t=>(i64 t.1/\i64 t.2)/\Oe t.1.natAbs t.2.natAbs=G) (a,b) ⟨⟨ha,hb⟩,hG⟩ (Qd _) [] rfl (kps) (kps) ?_
 clear hG ha hb
 rintro ⟨a,b⟩ ⟨⟨ha,hb⟩,hG⟩
 dsimp only at ha hb hG ⊢
 refine bs.av (sx:=nos) Zsf ?_
 by_cases h0:b=0
 ·subst h0
  repeat'(first|refine wk1 ?_|(refine wk2 ?_ ?_<;>intro _)|fail)
  exact Zc (by rw [Zvl ha,<-hG]; simp)
 ·repeat'(first|refine wk1 ?_|(refine wk2 ?_ ?_<;>intro _)|fail)
  exact Qr ⟨(b,a.tmod b),[],rfl,kps,kps,⟨⟨hb,Zl1 ha h0⟩,by rw [<-hG]; exact Zmw⟩,by
   show (a.tmod b).natAbs<b.natAbs
   rw [Ml]; exact Tx _ (by omega)⟩
abbrev gcW (a b:Int):Int:=Qa Qb ((Oe a.natAbs b.natAbs:Nat):Int)
theorem d138 {a b:Int} (ha:i64 a) (hb:i64 b):PCall Tryz.prog 76 [I a,I b] ⟨I (gcW a b),[]⟩:=by
 refine pn Ze Tryz.func76 ?_
 unfold gcW
 generalize hG:Oe a.natAbs b.natAbs=G
 conv=>whnf
 refine Zm (S:=Int × Int) (fun t=>t.2.natAbs) (fun t=>[(0,I t.1),(1,I t.2)]) (fun _=>[]) 0 0 (fun t=>(i64 t.1/\i64 t.2)/\Oe t.1.natAbs t.2.natAbs=G) (a,b) ⟨⟨ha,hb⟩,hG⟩ (Qd _) [] rfl (kps) (kps) ?_
 clear hG ha hb
 rintro ⟨a,b⟩ ⟨⟨ha,hb⟩,hG⟩
 dsimp only at ha hb hG ⊢
 refine bs.av (sx:=nos) Ze ?_
 by_cases h0:b=0
 ·subst h0
  repeat'(first|refine wk3 ?_|(refine wk2 ?_ ?_<;>intro _)|fail)
  all_goals first|exact Zc ((Zvl ha).trans (by rw [<-hG]; simp))|(exfalso; simp_all; done)
 ·repeat'(first|refine wk3 ?_|(refine wk2 ?_ ?_<;>intro _)|fail)
  all_goals first
   | exact Qr ⟨(b,a.tmod b),[],rfl,kps,kps,⟨⟨hb,Zl1 ha h0⟩,by rw [<-hG]; exact Zmw⟩,by
     show (a.tmod b).natAbs<b.natAbs
     rw [Ml]; exact Tx _ (by omega)⟩
   | (exfalso; simp_all; done)
def crW (a b c d:Int):Int:=Qa Qb (Qa Qb (a*d)-Qa Qb (b*c))
theorem d139 (a b c d:Int):PCall Tryz.prog 92 [P2 a b,P2 c d] ⟨I (crW a b c d),[]⟩:=by
 refine pn Ze Tryz.func92 ?_
 repeat'(first|refine wk3 ?_|(refine wk2 ?_ ?_<;>intro _)|fail)
 exact Zc rfl
theorem d95c (a b c d:Int):PCall Tryz.prog 177 [P2 a b,P2 c d] ⟨I (crW a b c d),[]⟩:=by
 refine pn Ze Tryz.func177 ?_
 repeat'(first|refine wk3 ?_|(refine wk2 ?_ ?_<;>intro _)|fail)
 exact Zc rfl
theorem d93 (a b:Int):PCall Tryz.prog 43 [P2 a b] ⟨P2 a b,[]⟩:=by
 refine pn Ze Tryz.func43 ?_
 repeat'(first|refine wk3 ?_|(refine wk2 ?_ ?_<;>intro _)|fail)
 exact Zg rfl rfl
def rCr:List AV->Option PRes
 | [.agg [.int .i64 a,.int .i64 b],.agg [.int .i64 c,.int .i64 d]]=>some ⟨I (crW a b c d),[]⟩
 | _=>none
def rWy:List AV->Option PRes
 | [.agg [.int .i64 a,.int .i64 b]]=>some ⟨P2 a b,[]⟩
 | _=>none
def kT0:PC:=ins 92 rCr (ins 177 rCr (ins 43 rWy (ins 100 rFr kI0)))
theorem Yb7:PCOK Tryz.prog kT0:=by
 refine Zk (fun a res h=>?_) (Zk (fun a res h=>?_) (Zk (fun a res h=>?_) (Zk (fun a res h=>?_) Ygy)))
 ·unfold rCr at h; split at h<;>cases h; exact d139 _ _ _ _
 ·unfold rCr at h; split at h<;>cases h; exact d95c _ _ _ _
 ·unfold rWy at h; split at h<;>cases h; exact d93 _ _
 ·unfold rFr at h; split at h<;>cases h; exact d87 _ _ _ _
abbrev Tn:=Int × Int
def btW (a b x:Tn):Bool:=decide (0<crW a.1 a.2 b.1 b.2)&&(decide (0<crW a.1 a.2 x.1 x.2)&&decide (0<crW x.1 x.2 b.1 b.2))
theorem d92b (a b x:Tn):PCall Tryz.prog 54 [P2 a.1 a.2,P2 b.1 b.2,P2 x.1 x.2] ⟨Bo (btW a b x),[]⟩:=by
 unfold btW
 by_cases c1:0<crW a.1 a.2 b.1 b.2<;>by_cases c2:0<crW a.1 a.2 x.1 x.2<;>by_cases c3:0<crW x.1 x.2 b.1 b.2
 all_goals
  refine pn Yb7 Tryz.func54 ?_
  repeat'(first|refine wk3 ?_|(refine wk2 ?_ ?_<;>intro _)|fail)
  all_goals first|exact Za rfl|(refine Za ?_; simp_all; done)|(exfalso; simp_all; done)
theorem d33b (a b x:Tn):PCall Tryz.prog 97 [P2 a.1 a.2,P2 b.1 b.2,P2 x.1 x.2] ⟨Bo (btW a b x),[]⟩:=by
 unfold btW
 by_cases c1:0<crW a.1 a.2 b.1 b.2<;>by_cases c2:0<crW a.1 a.2 x.1 x.2<;>by_cases c3:0<crW x.1 x.2 b.1 b.2
 all_goals
  refine pn Yb7 Tryz.func97 ?_
  repeat'(first|refine wk3 ?_|(refine wk2 ?_ ?_<;>intro _)|fail)
  all_goals first|exact Za rfl|(refine Za ?_; simp_all; done)|(exfalso; simp_all; done)
def tuV (x y:Int):Int × Int:=(Qa Qb (x.tdiv (gcW x y)),Qa Qb (y.tdiv (gcW x y)))
theorem d88 {x y:Int} (h1:i64 x) (h2:i64 y) (hz:¬ gcW x y=0):PCall Tryz.prog 214 [P2 x y] ⟨P2 (tuV x y).1 (tuV x y).2,[]⟩:=by
 have hk:=Zf (d138 h1 h2) Ze
 unfold tuV
 generalize gcW x y=G at *
 refine pn hk Tryz.func214 ?_
 repeat'(first|refine wk3 ?_|(refine wk2 ?_ ?_<;>intro _)|fail)
 all_goals first|exact Zg rfl rfl|(exfalso; simp_all; done)
theorem d90 {x y:Int} (h1:i64 x) (h2:i64 y) (hz:¬ gcW x y=0):PCall Tryz.prog 95 [I x,I y] ⟨P2 (tuV x y).1 (tuV x y).2,[]⟩:=by
 have hk:=Zf (c120 h1 h2) Ze
 change PCOK Tryz.prog (ins 20 (one [I x,I y] ⟨I (gcW x y),[]⟩) pt0) at hk
 unfold tuV
 generalize gcW x y=G at *
 refine pn hk Tryz.func95 ?_
 repeat'(first|refine wk3 ?_|(refine wk2 ?_ ?_<;>intro _)|fail)
 all_goals first|exact Zg rfl rfl|(exfalso; simp_all; done)
abbrev Ry.av (r:Ry) (last:Int):AV:=.agg [I r.x,I r.y,I r.dx,I r.dy,I last]
theorem e162 {h:Hal} (hf:h.few) {k:Nat} (hk:k<h.cs.length):PCall Tryz.prog 162 [h.av,I k] ⟨.tup [P2 (wlOf h.cs k).fx (wlOf h.cs k).fy,P2 (wlOf h.cs k).tx (wlOf h.cs k).ty],[]⟩:=by
 have e1:=Zc8 hk
 have e2:=Zc8 (ps:=h.cs) (i:=(k+1)%h.cs.length) (Tx _ (by omega))
 have e3:(h.cs.map pt).length=h.cs.length:=by simp
 have hl:=hf.2.1
 have hw:Qa Qb ((k:Int)+1)=((k+1:Nat):Int):=IntWalk.i64_in _ ⟨by omega,by omega⟩
 have hm:(Qa Qb ((k:Int)+1)).tmod ((h.cs.map pt).length:Int)=(((k+1)%h.cs.length:Nat):Int):=by rw [hw,e3]; rfl
 have e4:(h.cs.map pt)[((k:Nat):Int).toNat]?=some [I (cor h.cs k).1,I (cor h.cs k).2]:=by simpa using e1
 have e5:(h.cs.map pt)[((Qa Qb ((k:Int)+1)).tmod ((h.cs.map pt).length:Int)).toNat]?=some [I (cor h.cs ((k+1)%h.cs.length)).1,I (cor h.cs ((k+1)%h.cs.length)).2]:=by rw [hm,Ri]; exact e2
 refine pn Ze Tryz.func162 ?_
 repeat'(first|refine wk1 ?_|(refine wk2 ?_ ?_<;>intro _)|fail)
 exact Zg rfl rfl
noncomputable abbrev rWa (h:Hal):List AV->Option PRes:=famA (fun k:Nat=>k<h.cs.length) (fun k=>[h.av,I k]) (fun k=>⟨.tup [P2 (wlOf h.cs k).fx (wlOf h.cs k).fy,P2 (wlOf h.cs k).tx (wlOf h.cs k).ty],[]⟩)
theorem Ydg {h:Hal} {k:Nat} (hk:k<h.cs.length):rWa h [h.av,I k]=some ⟨.tup [P2 (wlOf h.cs k).fx (wlOf h.cs k).fy,P2 (wlOf h.cs k).tx (wlOf h.cs k).ty],[]⟩ :=
 Zl (p:=fun k:Nat=>k<h.cs.length) (g:=fun k=>[h.av,I k]) (r:=fun k=>⟨.tup [P2 (wlOf h.cs k).fx (wlOf h.cs k).fy,P2 (wlOf h.cs k).tx (wlOf h.cs k).ty],[]⟩) (k:=k) (fun j hj=>by
  simp only [Rd,Tt,true_and,and_true] at hj
  rw [Jd hj]) hk
def kE0:PC:=ins 92 rCr (ins 100 rFr (ins 43 rWy pt0))
theorem Zsg:PCOK Tryz.prog kE0:=by
 refine Zk (fun a res h=>?_) (Zk (fun a res h=>?_) (Zk (fun a res h=>?_) Ze))
 ·unfold rCr at h; split at h<;>cases h; exact d139 _ _ _ _
 ·unfold rFr at h; split at h<;>cases h; exact d87 _ _ _ _
 ·unfold rWy at h; split at h<;>cases h; exact d93 _ _
def lnU (w:Wl) (r:Ry):Int:=crW (Qa Qb (w.fx-r.x)) (Qa Qb (w.fy-r.y)) w.dx w.dy
def lnD (w:Wl) (r:Ry):Int:=crW r.dx r.dy w.dx w.dy
def lnQ (w:Wl) (r:Ry):Int × Int:=if lnD w r<0 then (Qa Qb (0-lnU w r),Qa Qb (0-lnD w r)) else (lnU w r,lnD w r)
def lnO (w:Wl) (r:Ry):Bool:=decide (0<(lnQ w r).2)&&decide (0<(lnQ w r).1)
theorem e101 {h:Hal} (hf:h.few) {k:Nat} (hk:k<h.cs.length) (r:Ry) (last:Int):PCall Tryz.prog 101 [h.av,r.av last,I k] ⟨.tup [P2 (lnQ (wlOf h.cs k) r).1 (lnQ (wlOf h.cs k) r).2,Bo (lnO (wlOf h.cs k) r)],[]⟩:=by
 have hk0:PCOK Tryz.prog (ins 162 (rWa h) kE0):=Zn (fun k hk=>e162 hf hk) Zsg
 have c1:=Ydg hk
 obtain ⟨x,y,dx,dy⟩:=r
 unfold lnO lnQ
 by_cases q:lnD (wlOf h.cs k) ⟨x,y,dx,dy⟩<0
 ·simp only [if_pos q]
  unfold lnD lnU Wl.dx Wl.dy at *
  dsimp only at *
  generalize wlOf h.cs k=w at *
  obtain ⟨n,fx,fy,tx,ty⟩:=w
  dsimp only at *
  refine pn hk0 Tryz.func101 ?_
  repeat'(first|refine wk3 ?_|(refine wk2 ?_ ?_<;>intro _)|fail)
  all_goals first|exact Zg (by simp_all<;>(intros; omega)) rfl|(exfalso; simp_all; done)
 ·simp only [if_neg q]
  unfold lnD lnU Wl.dx Wl.dy at *
  dsimp only at *
  generalize wlOf h.cs k=w at *
  obtain ⟨n,fx,fy,tx,ty⟩:=w
  dsimp only at *
  refine pn hk0 Tryz.func101 ?_
  repeat'(first|refine wk3 ?_|(refine wk2 ?_ ?_<;>intro _)|fail)
  all_goals first|exact Zg (by simp_all<;>(intros; omega)) rfl|(exfalso; simp_all; done)
theorem Zs1 {a b c d:Int} (h1 : -4000000000000000000<=a*d/\a*d<=4000000000000000000) (h2 : -4000000000000000000<=b*c/\b*c<=4000000000000000000):crW a b c d=a*d-b*c:=by
 unfold crW
 rw [W_eq (n:=a*d) (by omega) (by omega),W_eq (n:=b*c) (by omega) (by omega),W_eq (by omega) (by omega)]
theorem Ycp {w:Wl} {n sx sy:Int} (h:Str w n sx sy):(-10000<=n*sx/\n*sx<=10000)/\(-10000<=n*sy/\n*sy<=10000):=by
 have b1:=h.b1
 have b2:=h.b2
 have b3:=h.b3
 have b4:=h.b4
 have t1:=h.tx
 have t2:=h.ty
 omega
theorem Ygv {w:Wl} {n sx sy:Int} (h:Str w n sx sy) {r:Ry} (b:RyB r):lnU w r=n*fW w sx sy r:=by
 have d:=Ycp h
 have b1:=h.b1
 have b2:=h.b2
 obtain ⟨p1,p2,p3,p4⟩:=b
 unfold lnU
 rw [h.dx,h.dy,W_eq (n:=w.fx-r.x) (by omega) (by omega),W_eq (n:=w.fy-r.y) (by omega) (by omega)]
 have m1:=Yy (a:=w.fx-r.x) (b:=n*sy) (A:=50000) (B:=10000) (by omega) (by omega)
 have m2:=Yy (a:=w.fy-r.y) (b:=n*sx) (A:=50000) (B:=10000) (by omega) (by omega)
 rw [Zs1 (by omega) (by omega)]
 unfold fW; grind
theorem Yb2 {w:Wl} {n sx sy:Int} (h:Str w n sx sy) {r:Ry} (b:RyB r):lnD w r = -(n*gW sx sy r):=by
 have d:=Ycp h
 obtain ⟨p1,p2,p3,p4⟩:=b
 unfold lnD
 rw [h.dx,h.dy]
 have m1:=Yy (a:=r.dx) (b:=n*sy) (A:=100000) (B:=10000) (by omega) (by omega)
 have m2:=Yy (a:=r.dy) (b:=n*sx) (A:=100000) (B:=10000) (by omega) (by omega)
 rw [Zs1 (by omega) (by omega)]
 unfold gW; grind
theorem Zzs {w:Wl} {n sx sy:Int} (h:Str w n sx sy) {r:Ry} (b:RyB r):crW r.dx r.dy (Qa Qb (w.fx-r.x)) (Qa Qb (w.fy-r.y))=xW w r/\crW r.dx r.dy (Qa Qb (w.tx-r.x)) (Qa Qb (w.ty-r.y))=yW w r:=by
 have b1:=h.b1
 have b2:=h.b2
 have b3:=h.b3
 have b4:=h.b4
 obtain ⟨p1,p2,p3,p4⟩:=b
 rw [W_eq (n:=w.fx-r.x) (by omega) (by omega),W_eq (n:=w.fy-r.y) (by omega) (by omega),W_eq (n:=w.tx-r.x) (by omega) (by omega),W_eq (n:=w.ty-r.y) (by omega) (by omega)]
 have m1:=Yy (a:=r.dx) (b:=w.fy-r.y) (A:=100000) (B:=50000) (by omega) (by omega)
 have m2:=Yy (a:=r.dy) (b:=w.fx-r.x) (A:=100000) (B:=50000) (by omega) (by omega)
 have m3:=Yy (a:=r.dx) (b:=w.ty-r.y) (A:=100000) (B:=50000) (by omega) (by omega)
 have m4:=Yy (a:=r.dy) (b:=w.tx-r.x) (A:=100000) (B:=50000) (by omega) (by omega)
 rw [Zs1 (by omega) (by omega),Zs1 (by omega) (by omega)]
 exact ⟨rfl,rfl⟩
theorem Zmp {w:Wl} {n sx sy:Int} (h:Str w n sx sy) {r:Ry} (b:RyB r) (e:htN w n sx sy r=none):lnO w r=false:=by
 have hg:gW sx sy r=0:=by
  unfold htN at e
  split at e
  ·assumption
  ·split at e<;>cases e
 unfold lnO lnQ
 rw [Yb2 h b,hg]
 simp
theorem Zif {w:Wl} {n sx sy:Int} (h:Str w n sx sy) {r:Ry} (b:RyB r) {x:Ht} (e:htN w n sx sy r=some x):lnQ w r=(n*x.nu,n*x.de)/\lnO w r=decide (0<x.nu):=by
 have hn:=h.hn
 have hl:=h.nle
 have hb:=Zjy h b e
 have m1:=Yy (a:=n) (b:=x.nu) (A:=10000) (B:=100000) (by omega) (by have:=hb.nu; omega)
 have m2:=Yy (a:=n) (b:=x.de) (A:=10000) (B:=200000) (by omega) (by have:=hb.de; omega)
 have hq:lnQ w r=(n*x.nu,n*x.de):=by
  unfold lnQ
  rw [Yb2 h b,Ygv h b]
  unfold htN at e
  split at e
  ·cases e
  ·rename_i hg
   split at e
   ·rename_i hl
    cases e
    dsimp only at m1 m2 ⊢
    have:n*gW sx sy r<0:=Ty hn hl
    rw [if_neg (by omega)]
    rw [show -(n*gW sx sy r)=n * -gW sx sy r by grind]
   ·rename_i hl
    cases e
    dsimp only at m1 m2 ⊢
    have:0<n*gW sx sy r:=Qv hn (by omega)
    rw [if_pos (by omega),show n * -fW w sx sy r = -(n*fW w sx sy r) by grind] at *
    rw [W_eq (by omega) (by omega),W_eq (by omega) (by omega)]
    congr 1<;>omega
 refine ⟨hq,?_⟩
 unfold lnO
 rw [hq]
 dsimp only
 have h1:0<n*x.de:=Qv hn hb.de.1
 rw [decide_eq_true h1,Tv,decide_eq_decide]
 exact ⟨fun h2=>Int.pos_of_mul_pos_right h2 (by omega),fun h2=>Qv hn h2⟩
def lsW (s t:Int × Int):Bool:=decide (Qa Qb (s.1*t.2)<Qa Qb (t.1*s.2))
theorem Zn2 {n m:Int} (hn:0<n/\n<=10000) (hm:0<m/\m<=10000) {a b c d:Int} (ha : -100000<=a/\a<=100000) (hb:0<b/\b<=200000) (hc : -100000<=c/\c<=100000) (hd:0<d/\d<=200000):lsW (n*a,n*b) (m*c,m*d)=decide (a*d<c*b):=by
 unfold lsW
 dsimp only
 have m1:=Yy (a:=n) (b:=m) (A:=10000) (B:=10000) (by omega) (by omega)
 have p1:0<n*m:=Qv hn.1 hm.1
 have m2:=Yy (a:=a) (b:=d) (A:=100000) (B:=200000) ha (by omega)
 have m3:=Yy (a:=c) (b:=b) (A:=100000) (B:=200000) hc (by omega)
 have m4:=Yy (a:=n*m) (b:=a*d) (A:=100000000) (B:=20000000000) (by omega) (by omega)
 have m5:=Yy (a:=n*m) (b:=c*b) (A:=100000000) (B:=20000000000) (by omega) (by omega)
 rw [show n*a*(m*d)=n*m*(a*d) by grind,show m*c*(n*b)=n*m*(c*b) by grind,W_eq (by omega) (by omega),W_eq (by omega) (by omega),decide_eq_decide]
 exact ⟨fun h=>Sd h (by omega),fun h=>Rn h p1⟩
theorem Yc2 {w:Wl} {n sx sy:Int} (h:Str w n sx sy) {r:Ry} {x:Ht} (e:htN w n sx sy r=some x) :
  (x.on=true ↔ ¬((0<xW w r/\0<yW w r)\/(xW w r<0/\yW w r<0)))/\(x.on=true->(x.well=true↔(xW w r≠0/\yW w r≠0))):=by
 have hn:=h.hn
 have hy:=Zu0 h r
 unfold htN at e
 split at e
 ·cases e
 ·rename_i hg
  split at e
  ·rename_i hl
   cases e
   dsimp only
   have:n*gW sx sy r<0:=Ty hn hl
   simp only [Qc,decide_eq_true_eq]
   omega
  ·rename_i hl
   cases e
   dsimp only
   have:0<n*gW sx sy r:=Qv hn (by omega)
   simp only [Qc,decide_eq_true_eq]
   omega
theorem e80 (a b c d:Int):PCall Tryz.prog 80 [P2 a b,P2 c d] ⟨Bo (lsW (a,b) (c,d)),[]⟩:=by
 refine pn Ze Tryz.func80 ?_
 repeat'(first|refine wk3 ?_|(refine wk2 ?_ ?_<;>intro _)|fail)
 exact Za rfl
def rLs:List AV->Option PRes
 | [.agg [.int .i64 a,.int .i64 b],.agg [.int .i64 c,.int .i64 d]]=>some ⟨Bo (lsW (a,b) (c,d)),[]⟩
 | _=>none
theorem Zr3 {pt:PC} (h:PCOK Tryz.prog pt):PCOK Tryz.prog (ins 80 rLs pt):=Zk (fun a res h=>by unfold rLs at h; split at h<;>cases h; exact e80 _ _ _ _) h
noncomputable abbrev rLn (h:Hal):List AV->Option PRes:=famA (fun q:Ry × Int × Nat=>q.2.2<h.cs.length) (fun q=>[h.av,q.1.av q.2.1,I q.2.2]) (fun q=>⟨.tup [P2 (lnQ (wlOf h.cs q.2.2) q.1).1 (lnQ (wlOf h.cs q.2.2) q.1).2,Bo (lnO (wlOf h.cs q.2.2) q.1)],[]⟩)
theorem Zv3 {h:Hal} {k:Nat} (hk:k<h.cs.length) (r:Ry) (last:Int):rLn h [h.av,r.av last,I k]=some ⟨.tup [P2 (lnQ (wlOf h.cs k) r).1 (lnQ (wlOf h.cs k) r).2,Bo (lnO (wlOf h.cs k) r)],[]⟩ :=
 Zl (p:=fun q:Ry × Int × Nat=>q.2.2<h.cs.length) (g:=fun q=>[h.av,q.1.av q.2.1,I q.2.2]) (r:=fun q=>⟨.tup [P2 (lnQ (wlOf h.cs q.2.2) q.1).1 (lnQ (wlOf h.cs q.2.2) q.1).2,Bo (lnO (wlOf h.cs q.2.2) q.1)],[]⟩) (k:=(r,last,k)) (fun j hj=>by
  obtain ⟨⟨a,b,c,d⟩,l,m⟩:=j
  obtain ⟨a',b',c',d'⟩:=r
  simp only [Rd,Tt,AV.agg.injEq,true_and,and_true] at hj
  obtain ⟨⟨rfl,rfl,rfl,rfl,rfl⟩,e⟩:=hj
  rw [Jd e]) hk
theorem Ybq {h:Hal} (hf:h.few) {pt:PC} (hp:PCOK Tryz.prog pt):PCOK Tryz.prog (ins 101 (rLn h) pt):=Zn (fun q hq=>e101 hf hq q.1 q.2.1) hp
def byR (cs:List (Int × Int)) (r:Ry) (last:Int) (s:Int × Int):Bool:=decide (last<0)||(lnO (wlOf cs last.toNat) r&&lsW (lnQ (wlOf cs last.toNat) r) s)
theorem e102 {h:Hal} (hf:h.few) (r:Ry) {last:Int} (hl:last<h.cs.length) (a b:Int):PCall Tryz.prog 102 [h.av,r.av last,P2 a b] ⟨Bo (byR h.cs r last (a,b)),[]⟩:=by
 have hk0:PCOK Tryz.prog (ins 101 (rLn h) (ins 80 rLs pt0)):=Ybq hf (Zr3 Ze)
 obtain ⟨x,y,dx,dy⟩:=r
 unfold byR
 by_cases c:last<0
 ·rw [decide_eq_true c]
  refine pn hk0 Tryz.func102 ?_
  repeat'(first|refine wk3 ?_|(refine wk2 ?_ ?_<;>intro _)|fail)
  all_goals first|exact Za rfl|(exfalso; simp_all; done)
 ·rw [decide_eq_false c,Wr]
  obtain ⟨k,rfl⟩:∃ k:Nat,last=k:=⟨last.toNat,by omega⟩
  rw [Ri]
  have c1:=Zv3 (h:=h) (k:=k) (by omega) ⟨x,y,dx,dy⟩ k
  generalize lnQ (wlOf h.cs k) ⟨x,y,dx,dy⟩=q at *
  generalize lnO (wlOf h.cs k) ⟨x,y,dx,dy⟩=o at *
  obtain ⟨q1,q2⟩:=q
  cases o
  all_goals
   refine pn hk0 Tryz.func102 ?_
   repeat'(first|refine wk3 ?_|(refine wk2 ?_ ?_<;>intro _)|fail)
   all_goals first|exact Za rfl|exact Za (by simp_all)|(exfalso; simp_all; done)
theorem Zkd {cs:List (Int × Int)} {r:Ry} {fr:Int × Int} {last:Int} {k:Nat} (e:htW (wlOf cs k) r=none):Yi cs r fr last k=none:=by
 unfold Yi
 rw [e]
 split<;>rfl
theorem Zq6 {cs:List (Int × Int)} {r:Ry} {fr:Int × Int} {last:Int} (B:Bh cs r fr last) {k:Nat} {x:Ht} (e:htW (wlOf cs k) r=some x) :
  Yi cs r fr last k=if x.on=true/\fr.1*x.de<x.nu*fr.2 then some ⟨k,x.nu,x.de,x.well⟩ else none:=by
 unfold Yi
 rw [e]
 dsimp only
 split
 ·rename_i hl
  rcases B.last with ⟨h1,_⟩|⟨i,hi,h1,h2,y,hy,h3,h4⟩
  ·omega
  ·have:i=k:=by omega
   subst this
   rw [e] at hy
   cases hy
   rw [if_neg (by rw [<-h3,<-h4]; omega)]
 ·rfl
theorem Yiq {h:Hal} (g:h.fine) {r:Ry} (b:RyB r) {fr:Int × Int} {last:Int} (B:Bh h.cs r fr last) {n:Int} (hn:0<n/\n<=10000) {x:Ht} (hx:HtB n x) (hp:0<x.nu):byR h.cs r last (n*x.nu,n*x.de)=decide (fr.1*x.de<x.nu*fr.2):=by
 unfold byR
 rcases B.last with ⟨rfl,rfl⟩|⟨i,hi,rfl,h2,y,hy,h3,h4⟩
 ·rw [show decide ((-1:Int)<0)=true from rfl,Bool.true_or,decide_eq_true (by dsimp only; omega)]
 ·obtain ⟨m,sx,sy,hs⟩:=g.st i hi
  rw [Vn hs] at hy
  obtain ⟨q1,q2⟩:=Zif hs b hy
  have hb:=Zjy hs b hy
  rw [Ri,decide_eq_false (by omega),Wr,q1,q2,decide_eq_true (by omega),Tv,Zn2 ⟨hs.hn,hs.nle⟩ hn hb.nu hb.de hx.nu hx.de,h3,h4]
abbrev hit0:AV:=.agg [I 0,I 0,I 0,Bo false]
abbrev hitA (cs:List (Int × Int)) (c:Cd):AV:=.agg [I ((wlOf cs c.i).ln.n*c.nu),I ((wlOf cs c.i).ln.n*c.de),I (c.i:Int),Bo c.well]
def mtV (cs:List (Int × Int)):Option Cd->PRes
 | none=>⟨.tup [hit0,Bo false],[]⟩
 | some c=>⟨.tup [hitA cs c,Bo true],[]⟩
theorem Yee {cs:List (Int × Int)} {r:Ry} {fr:Int × Int} {last:Int} (B:Bh cs r fr last) (h:0<cs.length):last<cs.length:=by
 rcases B.last with ⟨rfl,_⟩|⟨i,hi,rfl,_⟩<;>omega
theorem e79 {h:Hal} (hf:h.few) (g:h.fine) {r:Ry} (b:RyB r) {fr:Int × Int} {last:Int} (B:Bh h.cs r fr last) {k:Nat} (hk:k<h.cs.length):PCall Tryz.prog 79 [h.av,r.av last,I k] (mtV h.cs (Yi h.cs r fr last k)):=by
 obtain ⟨n,sx,sy,hs⟩:=g.st k hk
 have c1:=e101 hf hk r last
 have c2:=e162 hf hk
 have hl:=Yee B (by omega)
 have hnn:0<n/\n<=10000:=⟨hs.hn,hs.nle⟩
 cases hx:htN (wlOf h.cs k) n sx sy r with
 | none =>
  rw [Zkd (by rw [Vn hs]; exact hx)]
  rw [Zmp hs b hx] at c1
  generalize lnQ (wlOf h.cs k) r=q at *
  obtain ⟨q1,q2⟩:=q
  have hk0:=Zf c1 Ze
  clear hx c1 c2 B b
  obtain ⟨x,y,dx,dy⟩:=r
  refine pn hk0 Tryz.func79 ?_
  repeat'(first|refine wk3 ?_|(refine wk2 ?_ ?_<;>intro _)|fail)
  all_goals first|exact Zg rfl rfl|(exfalso; simp_all; done)
 | some x =>
  rw [Zq6 B (by rw [Vn hs]; exact hx)]
  obtain ⟨e1,e2⟩:=Zif hs b hx
  rw [e1,e2] at c1
  have hb:=Zjy hs b hx
  by_cases hp:0<x.nu
  ·rw [decide_eq_true hp] at c1
   have c3:=e102 hf r hl (n*x.nu) (n*x.de)
   rw [Yiq g b B hnn hb hp] at c3
   by_cases hc:fr.1*x.de<x.nu*fr.2
   ·rw [decide_eq_true hc] at c3
    have s:=Zzs hs b
    obtain ⟨w1,w2⟩:=Yc2 hs hx
    have hln:(wlOf h.cs k).ln.n=n:=hs.ln.2.2.1
    have hres:mtV h.cs (if x.on=true/\fr.1*x.de<x.nu*fr.2 then some ⟨k,x.nu,x.de,x.well⟩ else none)=if x.on=true then ⟨.tup [.agg [I (n*x.nu),I (n*x.de),I (k:Int),Bo x.well],Bo true],[]⟩ else ⟨.tup [hit0,Bo false],[]⟩:=by
     by_cases ho:x.on=true
     ·rw [if_pos ⟨ho,hc⟩,if_pos ho]
      show (⟨.tup [.agg [I ((wlOf h.cs k).ln.n*x.nu),I ((wlOf h.cs k).ln.n*x.de),I (k:Int),Bo x.well],Bo true],[]⟩:PRes)=_
      rw [hln]
     ·rw [if_neg (fun q=>ho q.1),if_neg ho]; rfl
    rw [hres]
    have hk0:=Zf c1 (Zf c3 (Zf c2 Zsg))
    rw [<-s.1,<-s.2] at w1 w2
    generalize n*x.nu=U at *
    generalize n*x.de=V at *
    clear hres hs hx s b B c1 c2 c3 hb e1 e2 hf g
    generalize wlOf h.cs k=w at *
    obtain ⟨x0,y0,dx,dy⟩:=r
    obtain ⟨wn,fx,fy,tx,ty⟩:=w
    dsimp only at w1 w2 hk0
    cases ho:x.on with
    | false =>
     rw [ho] at w1
     have w1:=Decidable.not_not.1 (fun q=>by have:=w1.2 q; cases this)
     rw [if_neg (by decide)]
     clear w2 hln ho
     refine pn hk0 Tryz.func79 ?_
     repeat'(first|refine wk3 ?_|(refine wk2 ?_ ?_<;>intro _)|fail)
     all_goals first|exact Zg rfl rfl|(refine Zg ?_ rfl; simp_all; done)|(refine Zg ?_ rfl; simp_all; omega)|(exfalso; simp only [decide_eq_true_eq,decide_eq_false_iff_not,Te,Mh] at *; omega)
    | true =>
     have w1:=w1.1 ho
     have w2:=w2 ho
     rw [if_pos rfl]
     cases hw:x.well with
     | true =>
      rw [hw] at w2
      have w2:=w2.1 rfl
      clear hln ho hw
      refine pn hk0 Tryz.func79 ?_
      repeat'(first|refine wk3 ?_|(refine wk2 ?_ ?_<;>intro _)|fail)
      all_goals first|exact Zg rfl rfl|(refine Zg ?_ rfl; simp_all; done)|(refine Zg ?_ rfl; simp_all; omega)|(exfalso; simp only [decide_eq_true_eq,decide_eq_false_iff_not,Te,Mh] at *; omega)
     | false =>
      rw [hw] at w2
      have w2:¬ _:=fun q=>by have:=w2.2 q; cases this
      clear hln ho hw
      refine pn hk0 Tryz.func79 ?_
      repeat'(first|refine wk3 ?_|(refine wk2 ?_ ?_<;>intro _)|fail)
      all_goals first|exact Zg rfl rfl|(refine Zg ?_ rfl; simp_all; done)|(refine Zg ?_ rfl; simp_all; omega)|(exfalso; simp only [decide_eq_true_eq,decide_eq_false_iff_not,Te,Mh] at *; omega)
   ·rw [decide_eq_false hc] at c3
    rw [if_neg (fun q=>hc q.2)]
    have hk0:=Zf c1 (Zf c3 Ze)
    clear c1 c2 c3 b B hx e1 e2 hb
    generalize n*x.nu=U at *
    generalize n*x.de=V at *
    obtain ⟨x0,y0,dx,dy⟩:=r
    refine pn hk0 Tryz.func79 ?_
    repeat'(first|refine wk3 ?_|(refine wk2 ?_ ?_<;>intro _)|fail)
    all_goals first|exact Zg rfl rfl|(exfalso; simp_all; done)
  ·rw [decide_eq_false hp] at c1
   rw [if_neg (fun q=>by
    have p1:=Qq B.pos.1 (show 0<=x.de by have:=hb.de; omega)
    have p2:0<x.nu*fr.2:=by omega
    exact hp (Int.pos_of_mul_pos_left p2 (by have:=B.pos.2; omega)))]
   have hk0:=Zf c1 Ze
   clear c1 c2 b B hx e1 e2 hb
   generalize n*x.nu=U at *
   generalize n*x.de=V at *
   obtain ⟨x0,y0,dx,dy⟩:=r
   refine pn hk0 Tryz.func79 ?_
   repeat'(first|refine wk3 ?_|(refine wk2 ?_ ?_<;>intro _)|fail)
   all_goals first|exact Zg rfl rfl|(exfalso; simp_all; done)
theorem Yc9 {w:Wl} {n sx sy:Int} (h:Str w n sx sy):(Qa Qb (w.ty-w.fy)=0↔sy=0)/\(Qa Qb (w.tx-w.fx)=0↔sx=0)/\(Qa Qb (w.tx-w.fx)=Qa Qb (w.ty-w.fy)↔sx=sy):=by
 have d1:Qa Qb (w.tx-w.fx)=n*sx:=h.dx
 have d2:Qa Qb (w.ty-w.fy)=n*sy:=h.dy
 have hn:=h.hn
 rw [d1,d2]
 refine ⟨⟨fun e=>?_,fun e=>by rw [e,Sb]⟩,⟨fun e=>?_,fun e=>by rw [e,Sb]⟩,⟨fun e=>?_,fun e=>by rw [e]⟩⟩
 ·rcases Wv.1 e with e|e<;>omega
 ·rcases Wv.1 e with e|e<;>omega
 ·exact Pk (by omega) e
def sm6 (n:Int):Prop:=-1000000<=n/\n<=1000000
theorem e82 {h:Hal} (hf:h.few) {k:Nat} (hk:k<h.cs.length) {n sx sy:Int} (hs:Str (wlOf h.cs k) n sx sy) {x y:Int} (hx:sm6 x) (hy:sm6 y):PCall Tryz.prog 82 [h.av,I k,P2 x y] ⟨P2 (mvD sx sy x y).1 (mvD sx sy x y).2,[]⟩:=by
 have hk0:=Zf (e162 hf hk) Zsg
 obtain ⟨d1,d2,d3⟩:=Yc9 hs
 unfold mvD
 have ex:Qa Qb (0-x) = -x:=by obtain ⟨a,b⟩:=hx; rw [W_eq (by omega) (by omega)]; omega
 have ey:Qa Qb (0-y) = -y:=by obtain ⟨a,b⟩:=hy; rw [W_eq (by omega) (by omega)]; omega
 rw [<-ex,<-ey]
 clear hs hx hy ex ey
 generalize wlOf h.cs k=w at *
 obtain ⟨wn,fx,fy,tx,ty⟩:=w
 dsimp only at d1 d2 d3 hk0
 by_cases c1:sy=0
 ·rw [if_pos c1]
  have t1:=d1.2 c1
  clear d1 d2 d3 c1
  refine pn hk0 Tryz.func82 ?_
  repeat'(first|refine wk3 ?_|(refine wk2 ?_ ?_<;>intro _)|fail)
  all_goals first|exact Zg rfl rfl|(exfalso; simp_all; done)
 ·rw [if_neg c1]
  have t1:¬ _:=fun q=>c1 (d1.1 q)
  by_cases c2:sx=0
  ·rw [if_pos c2]
   have t2:=d2.2 c2
   clear d1 d2 d3 c1 c2
   refine pn hk0 Tryz.func82 ?_
   repeat'(first|refine wk3 ?_|(refine wk2 ?_ ?_<;>intro _)|fail)
   all_goals first|exact Zg rfl rfl|(exfalso; simp_all; done)
  ·rw [if_neg c2]
   have t2:¬ _:=fun q=>c2 (d2.1 q)
   by_cases c3:sx=sy
   ·rw [if_pos c3]
    have t3:=d3.2 c3
    clear d1 d2 d3 c1 c2 c3
    refine pn hk0 Tryz.func82 ?_
    repeat'(first|refine wk3 ?_|(refine wk2 ?_ ?_<;>intro _)|fail)
    all_goals first|exact Zg rfl rfl|(exfalso; simp_all; done)
   ·rw [if_neg c3]
    have t3:¬ _:=fun q=>c3 (d3.1 q)
    clear d1 d2 d3 c1 c2 c3
    refine pn hk0 Tryz.func82 ?_
    repeat'(first|refine wk3 ?_|(refine wk2 ?_ ?_<;>intro _)|fail)
    all_goals first|exact Zg rfl rfl|(exfalso; simp_all; done)
theorem Ygg (sx sy x y m:Int) (hx : -m<=x/\x<=m) (hy : -m<=y/\y<=m):(-m<=(mvD sx sy x y).1/\(mvD sx sy x y).1<=m)/\(-m<=(mvD sx sy x y).2/\(mvD sx sy x y).2<=m):=by
 unfold mvD
 split
 ·dsimp only; omega
 ·split
  ·dsimp only; omega
  ·split<;>dsimp only<;>omega
theorem e81 {h:Hal} (hf:h.few) {k:Nat} (hk:k<h.cs.length) {n sx sy:Int} (hs:Str (wlOf h.cs k) n sx sy) {x y:Int} (hx : -45000<=x/\x<=45000) (hy : -45000<=y/\y<=45000) :
  PCall Tryz.prog 81 [h.av,I k,P2 x y] ⟨P2 ((wlOf h.cs k).fx+(mvD sx sy (x-(wlOf h.cs k).fx) (y-(wlOf h.cs k).fy)).1) ((wlOf h.cs k).fy+(mvD sx sy (x-(wlOf h.cs k).fx) (y-(wlOf h.cs k).fy)).2),[]⟩:=by
 have b1:=hs.b1
 have b2:=hs.b2
 have c1:=e82 hf hk hs (x:=x-(wlOf h.cs k).fx) (y:=y-(wlOf h.cs k).fy) ⟨by omega,by omega⟩ ⟨by omega,by omega⟩
 have hb:=Ygg sx sy (x-(wlOf h.cs k).fx) (y-(wlOf h.cs k).fy) 50000 (by omega) (by omega)
 generalize mvD sx sy (x-(wlOf h.cs k).fx) (y-(wlOf h.cs k).fy)=m at *
 rw [<-W_eq (n:=x-(wlOf h.cs k).fx) (by omega) (by omega),<-W_eq (n:=y-(wlOf h.cs k).fy) (by omega) (by omega)] at c1
 rw [<-W_eq (n:=(wlOf h.cs k).fx+m.1) (by omega) (by omega),<-W_eq (n:=(wlOf h.cs k).fy+m.2) (by omega) (by omega)]
 have hk0:=Zf c1 (Zf (e162 hf hk) Zsg)
 clear hs c1 b1 b2 hb
 generalize wlOf h.cs k=w at *
 obtain ⟨wn,fx,fy,tx,ty⟩:=w
 obtain ⟨m1,m2⟩:=m
 refine pn hk0 Tryz.func81 ?_
 repeat'(first|refine wk3 ?_|(refine wk2 ?_ ?_<;>intro _)|fail)
 exact Zg rfl rfl
noncomputable abbrev rMt (h:Hal) (r:Ry) (fr:Int × Int) (last:Int):List AV->Option PRes:=famA (fun k:Nat=>k<h.cs.length) (fun k=>[h.av,r.av last,I k]) (fun k=>mtV h.cs (Yi h.cs r fr last k))
theorem Ydh {h:Hal} {r:Ry} {fr:Int × Int} {last:Int} {k:Nat} (hk:k<h.cs.length):rMt h r fr last [h.av,r.av last,I k]=some (mtV h.cs (Yi h.cs r fr last k)) :=
 Zl (p:=fun k:Nat=>k<h.cs.length) (g:=fun k=>[h.av,r.av last,I k]) (r:=fun k=>mtV h.cs (Yi h.cs r fr last k)) (k:=k) (fun j hj=>by
  simp only [Rd,Tt,true_and,and_true] at hj
  rw [Jd hj]) hk
structure CdB (cs:List (Int × Int)) (c:Cd):Prop where
 n:0<(wlOf cs c.i).ln.n/\(wlOf cs c.i).ln.n<=10000
 nu : -100000<=c.nu/\c.nu<=100000
 de:0<c.de/\c.de<=200000
theorem Ye6 {h:Hal} (g:h.fine) {r:Ry} (b:RyB r) {fr:Int × Int} {last:Int} {k:Nat} (hk:k<h.cs.length) {c:Cd} (e:Yi h.cs r fr last k=some c):CdB h.cs c:=by
 obtain ⟨x,x1,x2,x3,rfl,x5⟩:=Zgq e
 obtain ⟨n,sx,sy,hs⟩:=g.st k hk
 rw [Vn hs] at x1
 have hb:=Zjy hs b x1
 exact ⟨by dsimp only; rw [hs.ln.2.2.1]; exact ⟨hs.hn,hs.nle⟩,hb.nu,hb.de⟩
theorem Yeb {cs:List (Int × Int)} {a b:Cd} (ha:CdB cs a) (hb:CdB cs b):lsW ((wlOf cs a.i).ln.n*a.nu,(wlOf cs a.i).ln.n*a.de) ((wlOf cs b.i).ln.n*b.nu,(wlOf cs b.i).ln.n*b.de)=decide (Zar a b):=Zn2 ha.n hb.n ha.nu ha.de hb.nu hb.de
def hcl (cs:List (Int × Int)):Option Cd->List AV
 | none=>[I 0,I 0,I 0,Bo false]
 | some c=>[I ((wlOf cs c.i).ln.n*c.nu),I ((wlOf cs c.i).ln.n*c.de),I (c.i:Int),Bo c.well]
theorem e44 {h:Hal} (hf:h.few) (g:h.fine) {r:Ry} (b:RyB r) {fr:Int × Int} {last:Int} (B:Bh h.cs r fr last):PCall Tryz.prog 44 [h.av,r.av last] (mtV h.cs (bstP (Yi h.cs r fr last) h.cs.length)):=by
 have hk0:PCOK Tryz.prog (ins 79 (rMt h r fr last) (ins 80 rLs pt0)):=Zn (fun k hk=>e79 hf g b B hk) (Zr3 Ze)
 have hl3:h.cs.length<1000:=hf.2.1
 have len:(h.cs.map pt).length=h.cs.length:=by simp
 have hb:∀ k,k<h.cs.length->∀ c,Yi h.cs r fr last k=some c->CdB h.cs c:=fun k hk c e=>Ye6 g b hk e
 have hbm:∀ k,k<=h.cs.length->∀ c,bstP (Yi h.cs r fr last) k=some c->CdB h.cs c:=fun k hk c e=>by
  obtain ⟨i,hi,e2⟩:=Vs e
  exact hb i (by omega) c e2
 have hit:=fun k hk=>Ydh (h:=h) (r:=r) (fr:=fr) (last:=last) (k:=k) hk
 generalize Yi h.cs r fr last=f at *
 clear B b
 obtain ⟨x,y,dx,dy⟩:=r
 refine bs.pv (sx:=nos) hk0 Tryz.func44 (by kernel_rfl) (by kernel_rfl) (by cases bstP f h.cs.length<;>rfl) ?_
 unfold Zbq
 conv=>whnf
 refine Zm (S:=Nat × Int × Option Cd) (fun t=>h.cs.length-t.1)
  (fun t=>[(2,.ptr 0 0 0),(3,.ptr 1 0 0),(4,.ptr 2 0 0),(5,Bo false),(6,.ptr 3 0 0),(7,Bo t.2.2.isSome),(14,I (h.cs.map pt).length),(15,I t.2.1)])
  (fun t=>[(3,.row 4 [hcl h.cs t.2.2] true false),(2,.row 4 [[I 0,I 0,I 0,Bo false]] true false),(1,.row 5 [[I x,I y,I dx,I dy,I last]] true false),(0,.row 9 [h.cells] true false)]) 4 4
  (fun t=>t.2.1=t.1/\t.1<=h.cs.length/\t.2.2=bstP f t.1) (0,0,none) ⟨rfl,Qp _,rfl⟩ (Qd _) [] rfl (kps) (kps) ?_
 rintro ⟨k,i,acc⟩ ⟨hi,hk,ha⟩
 dsimp only at hi hk ha ⊢
 subst hi
 by_cases hlt:k<h.cs.length
 ·have c1:=hit k hlt
  have hst:bstP f (k+1)=stP acc (f k):=by rw [bstP,<-ha]
  have hB:=hb k hlt
  have hA:=fun c e=>hbm k hk c (by rw [<-ha]; exact e)
  clear ha hit hb hbm
  generalize f k=o at *
  cases o with
  | none =>
   have hst:bstP f (k+1)=acc:=by rw [hst]; cases acc<;>rfl
   change _=some (⟨.tup [hit0,Bo false],[]⟩:PRes) at c1
   cases acc<;>refine bs.av (sx:=nos) hk0 ?_<;>repeat'(first|refine wk3 ?_|(refine wk2 ?_ ?_<;>intro _)|fail)
   all_goals exact Qr ⟨(k+1,_,_),[],rfl,kps,kps,⟨Zb (by omega),hlt,hst.symm⟩,by dsimp only; omega⟩
  | some c =>
   change _=some (⟨.tup [hitA h.cs c,Bo true],[]⟩:PRes) at c1
   cases acc with
   | none =>
    refine bs.av (sx:=nos) hk0 ?_
    repeat'(first|refine wk3 ?_|(refine wk2 ?_ ?_<;>intro _)|fail)
    exact Qr ⟨(k+1,_,some c),[],rfl,kps,kps,⟨Zb (by omega),hlt,hst.symm⟩,by dsimp only; omega⟩
   | some b =>
    have e:=Yeb (hB c rfl) (hA b rfl)
    by_cases hl:Zar c b
    ·rw [decide_eq_true hl] at e
     have hst:bstP f (k+1)=some c:=by rw [hst]; exact if_pos hl
     refine bs.av (sx:=nos) hk0 ?_
     repeat'(first|refine wk3 ?_|(refine wk2 ?_ ?_<;>intro _)|fail)
     all_goals first|(exfalso; rename_i q; rw [e] at q; cases q; done)|exact Qr ⟨(k+1,_,some c),[],rfl,kps,kps,⟨Zb (by omega),hlt,hst.symm⟩,by dsimp only; omega⟩
    ·rw [decide_eq_false hl] at e
     have hst:bstP f (k+1)=some b:=by rw [hst]; exact if_neg hl
     refine bs.av (sx:=nos) hk0 ?_
     repeat'(first|refine wk3 ?_|(refine wk2 ?_ ?_<;>intro _)|fail)
     all_goals first|(exfalso; rename_i q; rw [e] at q; cases q; done)|exact Qr ⟨(k+1,_,some b),[],rfl,kps,kps,⟨Zb (by omega),hlt,hst.symm⟩,by dsimp only; omega⟩
 ·obtain rfl:k=h.cs.length:=by omega
  rw [<-ha]
  cases acc
  all_goals
   refine bs.av (sx:=nos) hk0 ?_
   repeat'(first|refine wk3 ?_|(refine wk2 ?_ ?_<;>intro _)|fail)
   exact Zg rfl rfl
end Go.Proofs.YtanbhfpalahjcaaGreat
