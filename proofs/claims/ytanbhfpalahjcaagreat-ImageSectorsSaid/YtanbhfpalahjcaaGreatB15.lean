/- A part of the proof: lemmas. -/
import Derived.Test.YtanbhfpalahjcaaGreatB14
import Derived.Test.YtanbhfpalahjcaaGreatB8
set_option linter.unusedVariables false
set_option linter.unusedSimpArgs false
set_option maxRecDepth 100000
set_option maxHeartbeats 16000000
open Bool renaming and_eq_true->Qc,false_or->Wu,noConfusion->Wz,not_eq_true'->Te,true_and->Wt
open Go.Ge renaming cr->Rq
open Go.IntKind renaming i64->Qb,wrap->Qa
open Go.Proofs renaming ltOf->Qbf
open Go.Sx.AV.agg renaming injEq->Pr
open Go.Sx.AV.int renaming injEq->Wa
open Go.Sx.Done renaming mk->Qu
open Int renaming gcd->Oj,le_of_lt->Qf,le_refl->Wm,lt_of_mul_lt_mul_left->Sd,mul_le_mul_of_nonneg_left->Qv,mul_lt_mul_of_pos_left->Rk,mul_lt_mul_of_pos_right->Tq,mul_nonneg->Qm,mul_one->Rs,mul_pos->Qt,toNat_natCast->Rz
open List renaming Nodup->Kn,getD_eq_getElem?_getD->Ps,getElem?_eq_getElem->Qe,getElem?_map->Ru,getElem_mem->Qo,getElem_of_mem->We,length_append->Ro,length_cons->Ra,length_map->Qn,length_nil->Rx,length_take->Pp,map_append->Sm,map_cons->Sv,map_map->Oi,mem_append->Sc,mem_cons->Qx,mem_filter->Ot,mem_map->Sy,mem_range->Sb,mem_singleton->Wc,nodup_cons->Gj,pairwise_and_iff->Gq,pairwise_iff_getElem->Sw,pairwise_map->Nl,range->Si
open List.Pairwise renaming filter->Ku,imp->Jz,imp_of_mem->Hh,nil->Ds
open List.cons renaming injEq->Rp
open Nat renaming beq->Qs,le_refl->Qd,lt_trichotomy->Lw,min_eq_left->Mb,mod_eq_of_lt->Oa,mod_lt->Tg,mod_self->Kd,sub_self->Ly,zero_add->Ti,zero_le->Qq
open Option.some renaming inj->Sl
open Prod renaming ext->Wh
open Prod.mk renaming injEq->Rj
open Subtype renaming val->Lr
namespace Go.Proofs.YtanbhfpalahjcaaGreat
open Go Go.Sx Go.Ge
def toW (o p:V):V:=(p.1-o.1,p.2-o.2)
def visB (cs:List (Int × Int)) (o:V) (L:Option Nat) (p:V):Bool:=byR cs (ryV o (toW o p)) (laI L) (1,1) && !Zoq cs o (toW o p) L
def Vn (cs:List (Int × Int)) (o:V) (L:Option Nat):List V:=(cs.filter fun p=>!decide (p=o)&&visB cs o L p).map (toW o)
theorem Zow (cs:List (Int × Int)) {k:Nat} (hk:k<cs.length) (o:V):wa (wlOf cs k) o=toW o cs[k]:=by
 unfold wa toW wlOf cor
 dsimp only
 rw [Ps,Qe hk]
 rfl
theorem toW_zero {o p:V}:toW o p=(0,0)↔p=o:=by
 unfold toW
 constructor
 ·intro h
  rw [Rj] at h
  exact Wh (by omega) (by omega)
 ·intro h; rw [h]; simp
structure OB (o:V):Prop where
 x : -45000<=o.1/\o.1<=45000
 y : -45000<=o.2/\o.2<=45000
theorem Yft {h:Hal} (g:h.fine) {p:V} (hp:p∈h.cs):(-5000<=p.1/\p.1<=5000)/\(-5000<=p.2/\p.2<=5000):=by
 obtain ⟨k,hk,rfl⟩:=We hp
 have:=g.bd k hk
 unfold cor at this
 rw [Ps,Qe hk] at this
 exact this
theorem Zg5 {h:Hal} (g:h.fine) {o p:V} (ho:OB o) (hp:p∈h.cs):(-50000<=(toW o p).1/\(toW o p).1<=50000)/\(-50000<=(toW o p).2/\(toW o p).2<=50000):=by
 have:=Yft g hp
 have a:=ho.x
 have b:=ho.y
 unfold toW
 dsimp only
 omega
theorem Zuo {o d:V} (ho:OB o) (h1 : -100000<=d.1/\d.1<=100000) (h2 : -100000<=d.2/\d.2<=100000):RyB (ryV o d):=⟨ho.x,ho.y,h1,h2⟩
theorem Yba {h:Hal} (g:h.fine) {o d:V} (b:RyB (ryV o d)) {L:Option Nat} (hL:∀ l,L=some l->l<h.cs.length):byR h.cs (ryV o d) (laI L) (1,1)=true↔LP h.cs o L d/\pbey (sgH h.cs o) L d:=by
 cases hq:L with
 | none =>
  unfold byR laI
  simp
  exact ⟨fun l q=>(by cases q),fun l t q=>(by cases q)⟩
 | some l =>
  have hl:=hL l hq
  obtain ⟨n,sx,sy,hs⟩:=g.st l hl
  unfold byR laI
  dsimp only
  rw [decide_eq_false (by omega:¬ ((l:Int)<0)),Wu,Rz]
  have hnn:=hs.hn
  cases hx:htN (wlOf h.cs l) n sx sy (ryV o d) with
  | none =>
   rw [Zra hs b hx,Bool.false_and]
   constructor
   ·intro q; cases q
   ·rintro ⟨h1,_⟩
    obtain ⟨_,t,et,hn⟩:=h1 l rfl
    obtain ⟨x,x1,_⟩:=Zmm hs et hn
    rw [hx] at x1
    cases x1
  | some x =>
   obtain ⟨q1,q2⟩:=Zlq hs b hx
   have hb:=Zni hs b hx
   have hls:=Zq9 (a:=x.nu) (b:=x.de) (c:=1) (d:=1) (m:=1) ⟨hs.hn,hs.nle⟩ (by omega) hb.nu hb.de (by omega) (by omega)
   rw [Rs,Rs,Int.one_mul] at hls
   rw [q1,q2,hls,Qc,decide_eq_true_eq,decide_eq_true_eq]
   constructor
   ·rintro ⟨h1,h2⟩
    obtain ⟨s,s1,s2,s3⟩:=Yfa hs hx h1
    refine ⟨fun l' q=>by cases q; exact ⟨hl,s,s1,s2⟩,fun l' t q e=>?_⟩
    cases q
    have:=s1.symm.trans e
    cases this
    rw [s3.c,s3.nn]
    exact Rk h2 hnn
   ·rintro ⟨h1,h2⟩
    obtain ⟨_,t,et,hn⟩:=h1 l rfl
    obtain ⟨y,y1,y2,y3⟩:=Zmm hs et hn
    rw [hx] at y1
    cases y1
    have:=h2 l t rfl et
    rw [y3.c,y3.nn] at this
    exact ⟨y2,Sd this (Qf hnn)⟩
theorem Zt3 {h:Hal} (g:h.fine) {o p:V} (ho:OB o) (hp:p∈h.cs) {L:Option Nat} (hL:∀ l,L=some l->l<h.cs.length):visB h.cs o L p=true↔LP h.cs o L (toW o p)/\Seen h.cs.length (sgH h.cs o) L (toW o p):=by
 have bd:=Zg5 g ho hp
 have b:RyB (ryV o (toW o p)):=Zuo ho (by omega) (by omega)
 unfold visB
 rw [Qc,Yba g b hL]
 constructor
 ·rintro ⟨⟨h1,h2⟩,h3⟩
  exact ⟨h1,h2,(Zop g h1).1 (by simpa using h3)⟩
 ·rintro ⟨h1,h2,h3⟩
  exact ⟨⟨h1,h2⟩,by rw [(Zop g h1).2 h3]; rfl⟩
theorem Zas {h:Hal} (g:h.fine) {o:V} (ho:OB o) {L:Option Nat} (hL:∀ l,L=some l->l<h.cs.length) {w:V}:w∈Vn h.cs o L↔∃ k,k<h.cs.length/\w=wa (wlOf h.cs k) o/\w≠(0,0)/\LP h.cs o L w/\Seen h.cs.length (sgH h.cs o) L w:=by
 unfold Vn
 rw [Sy]
 constructor
 ·rintro ⟨p,hp,rfl⟩
  obtain ⟨h1,h2⟩:=Ot.1 hp
  simp only [Qc,Te,decide_eq_false_iff_not] at h2
  obtain ⟨k,hk,rfl⟩:=We h1
  exact ⟨k,hk,(Zow _ hk o).symm,fun q=>h2.1 (toW_zero.1 q),(Zt3 g ho h1 hL).1 h2.2⟩
 ·rintro ⟨k,hk,rfl,h1,h2⟩
  rw [Zow _ hk] at h1 h2 ⊢
  refine ⟨h.cs[k],Ot.2 ⟨Qo hk,?_⟩,rfl⟩
  simp only [Qc,Te,decide_eq_false_iff_not]
  exact ⟨fun q=>h1 (toW_zero.2 q),(Zt3 g ho (Qo hk) hL).2 h2⟩
theorem Ydg {h:Hal} (g:h.fine) {i j:Nat} (hij:i<j) (hj:j<h.cs.length):cor h.cs i≠cor h.cs j:=by
 intro e
 have l3:=g.le.2.1
 have l12:h.cs.length<=12:=by have:=g.le; omega
 obtain ⟨n,sx,sy,hs⟩:=g.st i (by omega)
 obtain ⟨m,tx,ty,hs2⟩:=g.st j hj
 have zl:∀ {w:Wl} {n sx sy:Int},Str w n sx sy -> ¬ (w.fx=w.tx/\w.fy=w.ty):=fun {w n sx sy} s q=>by
  have a:=s.tx
  have b:=s.ty
  exact s.hxy ⟨Yb (by omega:n*sx=0) s.hn,Yb (by omega:n*sy=0) s.hn⟩
 have st:∀ {w:Wl} {n sx sy:Int},Str w n sx sy->onW w n sx sy w.fx w.fy 1:=fun {w n sx sy} s=>Zq5 (s:=1) (t:=0) s (by decide) (by decide) (by decide) (by decide) (by omega) (by omega)
 have e1:(wlOf h.cs i).fx=(wlOf h.cs j).fx/\(wlOf h.cs i).fy=(wlOf h.cs j).fy:=by
  unfold wlOf
  dsimp only
  rw [e]
  exact ⟨rfl,rfl⟩
 have o1:=st hs
 have o2:=st hs2
 rw [<-e1.1,<-e1.2] at o2
 have p:=Zlk g hij hj
 have tt2:=Zg1 hs2 hs (by decide) o2 o1
 have en:∀ k:Nat,(wlOf h.cs k).n=(k:Int):=fun k=>rfl
 unfold Za0 at p
 rw [en,en,decide_eq_false (by omega:¬ (j:Int)<=(i:Int)),Wu,tt2,W_eq (n:=(i:Int)+1) (by omega) (by omega),W_eq (n:=(h.cs.length:Int)-1) (by omega) (by omega)] at p
 by_cases c1:(j:Int)=i+1
 ·refine zl hs ?_
  have:j=i+1:=by omega
  have et:(wlOf h.cs i).tx=(cor h.cs ((i+1)%h.cs.length)).1/\(wlOf h.cs i).ty=(cor h.cs ((i+1)%h.cs.length)).2:=⟨rfl,rfl⟩
  rw [et.1,et.2,Oa (by omega:i+1<h.cs.length),<-this,<-e]
  exact ⟨rfl,rfl⟩
 ·by_cases c2:(i:Int)=0/\(j:Int)=(h.cs.length:Int)-1
  ·refine zl hs2 ?_
   have et:(wlOf h.cs j).tx=(cor h.cs ((j+1)%h.cs.length)).1/\(wlOf h.cs j).ty=(cor h.cs ((j+1)%h.cs.length)).2:=⟨rfl,rfl⟩
   rw [et.1,et.2,show (j+1)%h.cs.length=i by rw [show j+1=h.cs.length by omega,Kd]; omega,e]
   exact ⟨rfl,rfl⟩
  ·rw [decide_eq_false c1,show (decide ((i:Int)=0)&&decide ((j:Int)=(h.cs.length:Int)-1))=false by rw [<-Bool.decide_and,decide_eq_false c2]] at p
   simp at p
theorem Zrz {h:Hal} (g:h.fine):h.cs.Nodup:=by
 unfold Kn
 rw [Sw]
 intro i j hi hj hij
 have:=Ydg g hij hj
 unfold cor at this
 rw [Ps,Ps,Qe hi,Qe hj] at this
 exact this
theorem Zqu {h:Hal} (g:h.fine) {o:V} {L:Option Nat} {k j:Nat} (hk:k<h.cs.length) (hB:Bef h o L (wa (wlOf h.cs k) o)) (hk0:wa (wlOf h.cs k) o≠(0,0)) (hks:Seen h.cs.length (sgH h.cs o) L (wa (wlOf h.cs k) o))
  (hjs:Seen h.cs.length (sgH h.cs o) L (wa (wlOf h.cs j) o)) (hz:Rq (wa (wlOf h.cs k) o) (wa (wlOf h.cs j) o)=0) (hlt:dt (wa (wlOf h.cs k) o) (wa (wlOf h.cs k) o)<dt (wa (wlOf h.cs k) o) (wa (wlOf h.cs j) o)):False:=by
 obtain ⟨i,s,cn,he⟩:=Zyi g hk hB hk0 hks
 generalize wa (wlOf h.cs k) o=c at *
 generalize wa (wlOf h.cs j) o=x at *
 have dc:=Zn5 hk0
 have pd:0<dt c x:=by omega
 have nx:=dt_n hz s
 have hsc:=Zc1 cn.e
 have hn:s.c<s.n x:=by
  refine Sd (a:=dt c c) ?_ (Qf dc)
  rw [nx,he]
  exact Tq hlt hsc
 have hC:InC s x:=by
  obtain ⟨a1,_⟩:=Zn6 hz s.b
  obtain ⟨_,a2⟩:=Zn6 hz s.a
  exact ⟨Zac (a:=dt c c) (by rw [a2]; exact Qm (Qf pd) cn.c.1) dc,Zac (a:=dt c c) (by rw [a1]; exact Qm (Qf pd) cn.c.2) dc⟩
 have:=hjs.2 i s ⟨cn.im,cn.e,cn.l,hC,by omega,fun l t e1 e2=>by
  have b:=cn.b l t e1 e2
  have nt:=dt_n hz t
  unfold Ge.lt at *
  refine Sd (a:=dt c c) ?_ (Qf dc)
  have k1:dt c c*(t.c*s.n x)=dt c x*(t.c*s.n c):=by
   have:dt c c*(t.c*s.n x)=t.c*(dt c c*s.n x):=by grind
   rw [this,nx]; grind
  have k2:dt c c*(s.c*t.n x)=dt c x*(s.c*t.n c):=by
   have:dt c c*(s.c*t.n x)=s.c*(dt c c*t.n x):=by grind
   rw [this,nt]; grind
  rw [k1,k2]
  exact Rk b pd⟩
 omega
theorem Zj8 {h:Hal} (g:h.fine) {o:V} {L:Option Nat} (P:V->Prop) (hB:∀ k,k<h.cs.length->P (wa (wlOf h.cs k) o)->wa (wlOf h.cs k) o≠(0,0)->Bef h o L (wa (wlOf h.cs k) o)) {k j:Nat} (hk:k<h.cs.length) (hj:j<h.cs.length)
  (pk:P (wa (wlOf h.cs k) o)) (pj:P (wa (wlOf h.cs j) o)) (hk0:wa (wlOf h.cs k) o≠(0,0)) (hj0:wa (wlOf h.cs j) o≠(0,0)) (hks:Seen h.cs.length (sgH h.cs o) L (wa (wlOf h.cs k) o)) (hjs:Seen h.cs.length (sgH h.cs o) L (wa (wlOf h.cs j) o))
  (e:red (wa (wlOf h.cs k) o)=red (wa (wlOf h.cs j) o)):wa (wlOf h.cs k) o=wa (wlOf h.cs j) o:=by
 have bk:=hB k hk pk hk0
 have bj:=hB j hj pj hj0
 have s1:=fun hz hlt=>Zqu g (j:=j) hk bk hk0 hks hjs hz hlt
 have s2:=fun hz hlt=>Zqu g (j:=k) hj bj hj0 hjs hks hz hlt
 generalize wa (wlOf h.cs k) o=c at *
 generalize wa (wlOf h.cs j) o=x at *
 obtain ⟨a,a0,a1,a2,ag,_⟩:=Xx hk0
 obtain ⟨b,b0,b1,b2,bg,_⟩:=Xx hj0
 rw [e] at a1 a2
 generalize red x=u at *
 have du:=Zn5 (Zdm bg)
 have z1:Rq c x=0:=by unfold Rq; rw [a1,a2,b1,b2]; grind
 have z2:Rq x c=0:=by rw [Zh,z1]; rfl
 have d1:dt c c=a*(a*dt u u):=by unfold dt; rw [a1,a2]; grind
 have d2:dt c x=a*(b*dt u u):=by unfold dt; rw [a1,a2,b1,b2]; grind
 have d3:dt x x=b*(b*dt u u):=by unfold dt; rw [b1,b2]; grind
 have d4:dt x c=b*(a*dt u u):=by unfold dt; rw [a1,a2,b1,b2]; grind
 rcases Int.lt_trichotomy a b with q|q|q
 ·exfalso
  refine s1 z1 ?_
  rw [d1,d2]
  exact Rk (Tq q du) a0
 ·subst q
  exact Wh (by rw [a1,b1]) (by rw [a2,b2])
 ·exfalso
  refine s2 z2 ?_
  rw [d3,d4]
  exact Rk (Tq q du) b0
end Go.Proofs.YtanbhfpalahjcaaGreat
namespace Go.Ge
theorem Zl0 {β:Type} {R:V->V->Bool} (P:V->Prop) (f:β->V) (tot:∀ x y,P x->P y->x≠y->R x y=true\/R y x=true) (tr:∀ x y z,P x->P y->P z->R x y=true->R y z=true->R x z=true) :
  ∀ (ws:List β) (l:List V),(∀ w∈ws,P (f w))->(∀ x∈l,P x)->Srt (fun a b=>R a b=true) l ->
   Srt (fun a b=>R a b=true) (ws.foldl (fun l w=>ins R l (f w)) l)/\(∀ x,x∈ws.foldl (fun l w=>ins R l (f w)) l↔x∈l\/∃ w∈ws,x=f w)
 | [],l,_,_,hs=>⟨hs,fun x=>by simp⟩
 | w::ws,l,hw,hl,hs=>by
  have h1:=Ycu (t:=f w) hs (fun x hx hne=>by
   rcases tot x (f w) (hl x hx) (hw w (by simp)) hne with q|q
   ·exact .inr q
   ·exact .inl q) (fun x y hx hy h1 h2=>tr y x (f w) (hl y hy) (hl x hx) (hw w (by simp)) h1 h2)
  have h2:∀ x∈ins R l (f w),P x:=fun x hx=>by
   rcases (Zvs R l (f w) x).1 hx with q|q
   ·rw [q]; exact hw w (by simp)
   ·exact hl x q
  obtain ⟨k1,k2⟩:=Zl0 P f tot tr ws (ins R l (f w)) (fun u hu=>hw u (by simp [hu])) h2 h1
  refine ⟨k1,fun x=>?_⟩
  rw [List.foldl_cons,k2 x,Zvs]
  constructor
  ·rintro ((q|q)|⟨u,hu,q⟩)
   ·exact .inr ⟨w,by simp,q⟩
   ·exact .inl q
   ·exact .inr ⟨u,by simp [hu],q⟩
  ·rintro (q|⟨u,hu,q⟩)
   ·exact .inl (.inr q)
   ·rcases Qx.1 hu with rfl|hu
    ·exact .inl (.inl q)
    ·exact .inr ⟨u,hu,q⟩
theorem Zqo {R:V->V->Prop} (aZ:∀ x y,R x y -> ¬ R y x) {T:List V} (hs:Srt R T) {i j:Nat} (hi:i<T.length) (hj:j<T.length) (h:R T[i] T[j]):i<j:=by
 rcases Lw i j with c|c|c
 ·exact c
 ·subst c; exact absurd h (aZ _ _ h)
 ·have:=Sw.1 hs j i hj hi c
  exact absurd this (aZ _ _ h)
theorem ring {T:List V} (hs:Srt sn T) (hex:∀ a∈T,∃ c∈T,0<cr a c) {i:Nat} (hi:i<T.length) :
  0<cr T[i] (T[(i+1)%T.length]'(Tg _ (by omega)))/\∀ x∈T,¬(0<cr T[i] x/\0<cr x (T[(i+1)%T.length]'(Tg _ (by omega)))):=by
 have pw:=Sw.1 hs
 have aZ:∀ x y,sn x y -> ¬ sn y x:=fun x y=>Zo3
 obtain ⟨c,hc,hac⟩:=hex T[i] (Qo hi)
 obtain ⟨j,hj,rfl⟩:=We hc
 have hji:j≠i:=fun q=>by subst q; rw [Zj] at hac; omega
 have low:j<i->hf T[j]=0/\hf T[i]=1:=fun q=>by
  rcases pw j i hj hi q with k|⟨_,k⟩
  ·have:=Zbc T[j]; have:=Zbc T[i]; omega
  ·have:=Zh T[i] T[j]; omega
 by_cases hl:i+1<T.length
 ·have hm:(i+1)%T.length=i+1:=Oa hl
  have eb:T[(i+1)%T.length]'(Tg _ (by omega))=T[i+1]:=by congr 1
  rw [eb]
  have hab:=pw i (i+1) hi hl (by omega)
  have pos:0<cr T[i] T[i+1]:=by
   rcases Lw j (i+1) with q|q|q
   ·obtain ⟨_,q2⟩:=low (by omega)
    rcases hab with k|⟨_,k⟩
    ·have:=Zbc T[i+1]; omega
    ·exact k
   ·subst q; exact hac
   ·exact Ycc hab (pw (i+1) j hl hj q) hac
  refine ⟨pos,fun x hx hh=>?_⟩
  obtain ⟨k,hk,rfl⟩:=We hx
  obtain ⟨h1,h2⟩:=Zss pos hh.1 hh.2 hab
  have:=Zqo aZ hs hi hk h1
  have:=Zqo aZ hs hk hl h2
  omega
 ·have hl2:i+1=T.length:=by omega
  have hm:(i+1)%T.length=0:=by rw [hl2,Kd]
  have eb:T[(i+1)%T.length]'(Tg _ (by omega))=T[0]'(by omega):=by congr 1
  rw [eb]
  have hj2:j<i:=by omega
  have hba:=pw 0 i (by omega) hi (by omega)
  have pos:0<cr T[i] (T[0]'(by omega)):=by
   refine Zs3 hba (pw j i hj hi hj2) ?_ hac
   by_cases q:j=0
   ·subst q; exact .inl rfl
   ·exact .inr (pw 0 j (by omega) hj (by omega))
  refine ⟨pos,fun x hx hh=>?_⟩
  obtain ⟨k,hk,rfl⟩:=We hx
  by_cases k0:k=0
  ·subst k0
   have:=hh.2
   rw [Zj] at this
   omega
  by_cases ki:k=i
  ·subst ki
   have:=hh.1
   rw [Zj] at this
   omega
  have s1:=pw 0 k (by omega) hk (by omega)
  have s2:=pw k i hk hi (by omega)
  rcases s2 with q|⟨_,q⟩
  ·rcases s1 with z|⟨_,z⟩
   ·have:=Zbc (T[0]'(by omega)); have:=Zbc T[i]; have:=Zbc T[k]; omega
   ·have:=Zh T[k] (T[0]'(by omega)); omega
  ·have:=Zh T[i] T[k]; omega
theorem Ygf {T:List V} (hs:Srt sn T) (hne:T≠[]) (hex:∀ a∈T,∃ c∈T,0<cr a c):3<=T.length:=by
 have hp:0<T.length:=List.length_pos_iff.2 hne
 rcases Nat.lt_or_ge T.length 3 with c|c
 ·exfalso
  have h0:=(ring hs hex hp).1
  by_cases h1:T.length=1
  ·have e:T[(0+1)%T.length]'(Tg _ (by omega))=T[0]:=by congr 1; rw [h1]
   rw [e,Zj] at h0
   omega
  ·have h2:T.length=2:=by omega
   have q:=(ring hs hex (i:=1) (by omega)).1
   have e:T[(0+1)%T.length]'(Tg _ (by omega))=T[1]'(by omega):=by congr 1; rw [h2]
   have e2:T[(1+1)%T.length]'(Tg _ (by omega))=T[0]:=by congr 1; rw [h2]
   rw [e] at h0
   rw [e2,Zh] at q
   omega
 ·exact c
end Go.Ge
namespace Go.Proofs.YtanbhfpalahjcaaGreat
open Go Go.Sx Go.Ge
structure Bm where
 ws:List Int
 o:V
 a:V
 b:V
 nx:Int
def Xc (ws:List Int):Option Nat:=ws.getLast?.map Int.toNat
def nxtV (cs:List (Int × Int)) (o:V) (L:Option Nat) (d:V):Int:=match bstV cs o d L with
 | some c=>c.i
 | none=>0
def addV (a b:V):V:=(a.1+b.1,a.2+b.2)
theorem Ur (a b:V):addV a b=mix 1 1 a b:=by unfold addV mix; simp
def snB (u v:V):Bool:=decide (hf u<hf v\/(hf u=hf v/\0<Rq u v))
theorem snB_iff {u v:V}:snB u v=true↔sn u v:=by unfold snB sn; rw [decide_eq_true_eq]
def crB (u v:V):Bool:=decide (0<Rq u v)
def tO (cs:List (Int × Int)) (o:V):List V:=(Vn cs o none).foldl (fun l w=>Ge.ins snB l (red w)) []
def getV (l:List V) (i:Nat):V:=l.getD i (0,0)
def Zp (cs:List (Int × Int)) (o:V):List Bm:=(Si (tO cs o).length).map fun i=>⟨[],o,getV (tO cs o) i,getV (tO cs o) ((i+1)%(tO cs o).length),nxtV cs o none (addV (getV (tO cs o) i) (getV (tO cs o) ((i+1)%(tO cs o).length)))⟩
structure GoodB (h:Hal) (m:Bm):Prop where
 sec:∃ w:Nat,m.nx=(w:Int)/\SecOk h m.o (Xc m.ws) m.a m.b w
 ga:g1 m.a
 gb:g1 m.b
 ba:(-50000<=m.a.1/\m.a.1<=50000)/\(-50000<=m.a.2/\m.a.2<=50000)
 bb:(-50000<=m.b.1/\m.b.1<=50000)/\(-50000<=m.b.2/\m.b.2<=50000)
 ox:(-(5000+10000*(m.ws.length:Int))<=m.o.1/\m.o.1<=5000+10000*(m.ws.length:Int))/\(-(5000+10000*(m.ws.length:Int))<=m.o.2/\m.o.2<=5000+10000*(m.ws.length:Int))
 ws:∀ x∈m.ws,0<=x/\x<h.cs.length
theorem srtB {l:List V}:Srt (fun a b=>snB a b=true) l↔Srt sn l:=by
 unfold Srt
 constructor<;>(intro q; exact q.imp (fun {a b} z=>by first|exact snB_iff.1 z|exact snB_iff.2 z))
theorem Yaf {h:Hal} (g:h.fine) {o a b:V} {L:Option Nat} {w:Nat} (K:SecOk h o L a b w):nxtV h.cs o L (addV a b)=(w:Int):=by
 have hab:=K.ab
 have d1:0<Rq a (addV a b):=by rw [Ur,Xd,Zj]; omega
 have d2:0<Rq (addV a b) b:=by rw [Ur,Yp,Zj]; omega
 obtain ⟨s,f⟩:=K.ft _ d1 d2
 obtain ⟨c,e1,e2,_⟩:=Zwc g (fun l q=>by
  obtain ⟨q1,t,q2,q3⟩:=K.lp l q
  exact ⟨q1,t,q2,(q3 _ d1 d2).n⟩) f
 unfold nxtV
 rw [e1]
 dsimp only
 rw [e2]
theorem Vc {l:List V} {i:Nat} (hi:i<l.length):getV l i=l[i]:=by unfold getV; rw [Ps,Qe hi]; rfl
theorem Zpw {h:Hal} (g:h.fine) {o c:V} (hc:c∈ends h.cs.length (sgH h.cs o)):∃ k,k<h.cs.length/\c=wa (wlOf h.cs k) o/\c≠(0,0):=by
 obtain ⟨i,s,hi,es,hh⟩:=Zwy hc
 have hp:=Zc1 es
 have na:s.a≠(0,0):=fun q=>by unfold Sg.c Rq at hp; rw [q] at hp; simp at hp
 have nb:s.b≠(0,0):=fun q=>by unfold Sg.c Rq at hp; rw [q] at hp; simp at hp
 obtain ⟨kn,en⟩:=Zva g hi o
 rcases Zc2 es with ⟨e1,e2⟩|⟨e1,e2⟩<;>rcases hh with rfl|rfl
 ·exact ⟨i,hi,e1,na⟩
 ·exact ⟨_,kn,e2.trans en,nb⟩
 ·exact ⟨_,kn,e1.trans en,na⟩
 ·exact ⟨i,hi,e2,nb⟩
theorem InSrc.ob {h:Hal} {o:V} (k:InSrc h o):OB o:=by
 have a:=k.bx
 have b:=k.bY
 exact ⟨by omega,by omega⟩
theorem InSrc.bef {h:Hal} (g:h.fine) {o:V} (k:InSrc h o) (c:V):Bef h o none c:=⟨fun _=>(k.insZ g.st).2,fun l q=>by cases q⟩
theorem Zo0 {h:Hal} (g:h.fine) {o:V} (k:InSrc h o):Srt sn (tO h.cs o)/\(∀ x,x∈tO h.cs o↔∃ w∈Vn h.cs o none,x=red w)/\(∀ x∈tO h.cs o,g1 x/\(-50000<=x.1/\x.1<=50000)/\(-50000<=x.2/\x.2<=50000)) /\
  (∀ a,a≠(0,0)->∃ c∈tO h.cs o,0<Rq a c):=by
 have hm:=fun w=>Zas g k.ob (L:=none) (fun l q=>by cases q) (w:=w)
 have hw:∀ w∈Vn h.cs o none,w≠(0,0)/\(-50000<=w.1/\w.1<=50000)/\(-50000<=w.2/\w.2<=50000):=fun w hw=>by
  obtain ⟨j,hj,e,h1,_⟩:=(hm w).1 hw
  refine ⟨h1,?_⟩
  rw [e,Zow _ hj]
  exact Zg5 g k.ob (Qo hj)
 obtain ⟨s1,s2⟩:=Zl0 (R:=snB) g1 (fun w:V=>red w) (fun x y hx hy hne=>by
  rcases Zqp hx hy with q|q|q
  ·exact .inl (snB_iff.2 q)
  ·exact absurd q hne
  ·exact .inr (snB_iff.2 q)) (fun x y z _ _ _ h1 h2=>snB_iff.2 (Zyg (snB_iff.1 h1) (snB_iff.1 h2))) (Vn h.cs o none) [] (fun w h1=>by
   obtain ⟨gg,_,_,_,h5,_⟩:=Xx (hw w h1).1
   exact h5) (fun x hx=>by cases hx) Ds
 have s2:∀ x,x∈tO h.cs o↔∃ w∈Vn h.cs o none,x=red w:=fun x=>by
  have:=s2 x
  unfold tO
  rw [this]
  simp
 refine ⟨srtB.1 s1,s2,fun x hx=>?_,fun a ha=>?_⟩
 ·obtain ⟨w,h1,rfl⟩:=(s2 x).1 hx
  obtain ⟨q1,q2,q3⟩:=hw w h1
  obtain ⟨gg,_,_,_,h5,_⟩:=Xx q1
  exact ⟨h5,Zkc q1 q2 q3⟩
 ·obtain ⟨c,hc,h1,h2⟩:=Zul (Zuc g o) (Zma h.cs o none) (fun v hv=>Zqx g.st k v hv) ha
  obtain ⟨j,hj,e,hne⟩:=Zpw g hc
  refine ⟨red c,(s2 _).2 ⟨c,(hm c).2 ⟨j,hj,e,hne,fun l q=>(by cases q),h2⟩,rfl⟩,(Uk hne).2.2 h1⟩
theorem Zbu {h:Hal} (g:h.fine) {o:V} (k:InSrc h o):3<=(tO h.cs o).length/\∀ m∈Zp h.cs o,GoodB h m/\m.ws=[]/\m.o=o:=by
 obtain ⟨s1,s2,s3,s4⟩:=Zo0 g k
 have hex:∀ a∈tO h.cs o,∃ c∈tO h.cs o,0<Rq a c:=fun a ha=>s4 a (Zdm (s3 a ha).1)
 have hne:tO h.cs o≠[]:=by
  obtain ⟨c,hc,_⟩:=s4 (1,0) (by simp)
  exact List.ne_nil_of_mem hc
 have h3:=Ygf s1 hne hex
 refine ⟨h3,fun m hm=>?_⟩
 unfold Zp at hm
 rw [Sy] at hm
 obtain ⟨i,hi,rfl⟩:=hm
 have hi:=Sb.1 hi
 have hj:(i+1)%(tO h.cs o).length<(tO h.cs o).length:=Tg _ (by omega)
 rw [Vc hi,Vc hj]
 obtain ⟨r1,r2⟩:=ring s1 hex hi
 have m1:=s3 _ (Qo hi)
 have m2:=s3 _ (Qo hj)
 obtain ⟨w,K⟩:=Zyk g k r1 (fun c hc c1 c2 cs=>by
  obtain ⟨j,hj,e,hne⟩:=Zpw g hc
  refine r2 (red c) ((s2 _).2 ⟨c,(Zas g k.ob (fun l q=>by cases q)).2 ⟨j,hj,e,hne,fun l q=>(by cases q),cs⟩,rfl⟩) ⟨?_,?_⟩
  ·exact (Uk hne).2.2 c1
  ·exact (Uk hne).1.2 c2)
 have a:=k.bx
 have b:=k.bY
 exact ⟨⟨⟨w,Yaf g K,K⟩,m1.1,m2.1,m1.2,m2.2,⟨by dsimp only [Rx]; omega,by dsimp only [Rx]; omega⟩,fun x hx=>by cases hx⟩,rfl,rfl⟩
def uS (cs:List (Int × Int)) (w:Nat):Int × Int:=((wlOf cs w).ln.sx,(wlOf cs w).ln.sy)
def imgO (cs:List (Int × Int)) (w:Nat) (o:V):V:=mO (wlOf cs w) (uS cs w).1 (uS cs w).2 o
def imgV (cs:List (Int × Int)) (w:Nat) (v:V):V:=mS (uS cs w).1 (uS cs w).2 v
def btwL (cs:List (Int × Int)) (o:V) (w:Nat) (lo hi:V):List V:=(Vn cs o (some w)).filter fun v=>decide (0<Rq lo v)&&decide (0<Rq v hi)
def innT (cs:List (Int × Int)) (o:V) (w:Nat) (lo hi:V):List V:=(btwL cs o w lo hi).foldl (fun l v=>Ge.ins crB l (red v)) []
def tB (cs:List (Int × Int)) (o:V) (w:Nat) (lo hi:V):List V:=lo::(innT cs o w lo hi++[hi])
def behB (cs:List (Int × Int)) (m:Bm):List Bm :=
 let w:=m.nx.toNat
 let o:=imgO cs w m.o
 let T:=tB cs o w (imgV cs w m.b) (imgV cs w m.a)
 (Si (T.length-1)).map fun i=>⟨m.ws++[m.nx],o,getV T i,getV T (i+1),nxtV cs o (some w) (addV (getV T i) (getV T (i+1)))⟩
theorem Zk2 {h:Hal} (g:h.fine) {w:Nat} (hw:w<h.cs.length):∃ n,Str (wlOf h.cs w) n (uS h.cs w).1 (uS h.cs w).2:=by
 obtain ⟨n,sx,sy,hs⟩:=g.st w hw
 obtain ⟨_,_,e1,e2,e3⟩:=hs.ln
 unfold uS
 dsimp only
 rw [e2,e3]
 exact ⟨n,hs⟩
theorem Yci {w:Wl} {n sx sy:Int} (hs:Str w n sx sy) {v:V} (h:g1 v):g1 (mS sx sy v):=by
 unfold g1 at *
 refine Zaj hs (fun sx sy=>Oj (mS sx sy v).1 (mS sx sy v).2=1) ?_ ?_ ?_ ?_ ?_ ?_ ?_ ?_<;>(unfold mS mvD; simp)<;>first|exact h|(rw [Int.gcd_comm]; exact h)
theorem Ycj {w:Wl} {n sx sy:Int} (hs:Str w n sx sy) {v:V} {B:Int} (h:(-B<=v.1/\v.1<=B)/\(-B<=v.2/\v.2<=B)):(-B<=(mS sx sy v).1/\(mS sx sy v).1<=B)/\(-B<=(mS sx sy v).2/\(mS sx sy v).2<=B):=by
 refine Zaj hs (fun sx sy=>(-B<=(mS sx sy v).1/\(mS sx sy v).1<=B)/\(-B<=(mS sx sy v).2/\(mS sx sy v).2<=B)) ?_ ?_ ?_ ?_ ?_ ?_ ?_ ?_<;>(unfold mS mvD; simp)<;>omega
theorem Yex {w:Wl} {n sx sy:Int} (hs:Str w n sx sy) {o:V} {B:Int} (h:(-B<=o.1/\o.1<=B)/\(-B<=o.2/\o.2<=B)):(-(B+10000)<=(mO w sx sy o).1/\(mO w sx sy o).1<=B+10000)/\(-(B+10000)<=(mO w sx sy o).2/\(mO w sx sy o).2<=B+10000):=by
 have b1:=hs.b1
 have b2:=hs.b2
 refine Zaj hs (fun sx sy=>(-(B+10000)<=(mO w sx sy o).1/\(mO w sx sy o).1<=B+10000)/\(-(B+10000)<=(mO w sx sy o).2/\(mO w sx sy o).2<=B+10000)) ?_ ?_ ?_ ?_ ?_ ?_ ?_ ?_<;>(unfold mO mvD; simp)<;>omega
theorem Zi3 (ws:List Int) (w:Nat):Xc (ws++[(w:Int)])=some w:=by unfold Xc; simp
structure BehOk (h:Hal) (m:Bm) (w:Nat) (o lo hi:V):Prop where
 wl:w<h.cs.length
 ob:OB o
 pos:0<Rq lo hi
 gl:g1 lo
 gh:g1 hi
 bl:(-50000<=lo.1/\lo.1<=50000)/\(-50000<=lo.2/\lo.2<=50000)
 bh:(-50000<=hi.1/\hi.1<=50000)/\(-50000<=hi.2/\hi.2<=50000)
 lk:∀ d,0<Rq lo d->0<Rq d hi->Bef h o (some w) d
theorem Zr7 {h:Hal} (g:h.fine) {m:Bm} (G:GoodB h m) (hlen:m.ws.length<4):BehOk h m m.nx.toNat (imgO h.cs m.nx.toNat m.o) (imgV h.cs m.nx.toNat m.b) (imgV h.cs m.nx.toNat m.a):=by
 obtain ⟨w,e,K⟩:=G.sec
 have e2:m.nx.toNat=w:=by omega
 rw [e2]
 have hw:=K.wlt
 obtain ⟨n,hs⟩:=Zk2 g hw
 have ob:=Yex hs (o:=m.o) (B:=5000+10000*(m.ws.length:Int)) G.ox
 refine ⟨hw,?_,?_,Yci hs G.gb,Yci hs G.ga,Ycj hs G.bb,Ycj hs G.ba,fun d h1 h2=>?_⟩
 ·unfold imgO
  exact ⟨by omega,by omega⟩
 ·unfold imgV
  rw [Zln hs,Zh]
  have:=K.ab
  omega
 ·obtain ⟨q1,q2⟩:=Zyv hs h1 h2
  obtain ⟨s,f⟩:=K.ft _ q1 q2
  refine ⟨fun q=>(by cases q),fun l q=>?_⟩
  cases q
  exact ⟨hw,_,Yck hs f.c.e,(mG_o hs s d).2 f.o⟩
theorem Zft {h:Hal} (g:h.fine) {m:Bm} {w:Nat} {o lo hi:V} (B:BehOk h m w o lo hi):Srt (fun a b=>0<Rq a b) (tB h.cs o w lo hi)/\(∀ x,x∈innT h.cs o w lo hi↔∃ v∈btwL h.cs o w lo hi,x=red v) /\
  (∀ x∈tB h.cs o w lo hi,g1 x/\inS lo hi x/\(-50000<=x.1/\x.1<=50000)/\(-50000<=x.2/\x.2<=50000)) /\
  (∀ k,k<h.cs.length->wa (wlOf h.cs k) o≠(0,0)->Seen h.cs.length (sgH h.cs o) (some w) (wa (wlOf h.cs k) o)->0<Rq lo (wa (wlOf h.cs k) o)->0<Rq (wa (wlOf h.cs k) o) hi->red (wa (wlOf h.cs k) o)∈tB h.cs o w lo hi):=by
 have hL:∀ l,some w=some l->l<h.cs.length:=fun l q=>by cases q; exact B.wl
 have hm:=fun v=>Zas g B.ob (L:=some w) hL (w:=v)
 have hbt:∀ v,v∈btwL h.cs o w lo hi↔v∈Vn h.cs o (some w)/\0<Rq lo v/\0<Rq v hi:=fun v=>by
  unfold btwL
  rw [Ot,Qc,decide_eq_true_eq,decide_eq_true_eq]
 have hw:∀ v∈btwL h.cs o w lo hi,v≠(0,0)/\((-50000<=v.1/\v.1<=50000)/\(-50000<=v.2/\v.2<=50000))/\0<Rq lo v/\0<Rq v hi:=fun v hv=>by
  obtain ⟨h0,h1,h2⟩:=(hbt v).1 hv
  obtain ⟨j,hj,e,h3,_⟩:=(hm v).1 h0
  refine ⟨h3,?_,h1,h2⟩
  rw [e,Zow _ hj]
  exact Zg5 g B.ob (Qo hj)
 have hP:∀ v∈btwL h.cs o w lo hi,g1 (red v)/\0<Rq lo (red v)/\0<Rq (red v) hi:=fun v hv=>by
  obtain ⟨q1,_,q3,q4⟩:=hw v hv
  obtain ⟨gg,_,_,_,h5,_⟩:=Xx q1
  exact ⟨h5,(Uk q1).2.2 q3,(Uk q1).1.2 q4⟩
 obtain ⟨s1,s2⟩:=Zl0 (R:=crB) (fun x=>g1 x/\inS lo hi x) (fun v:V=>red v) (fun x y hx hy hne=>by
  unfold crB
  rw [decide_eq_true_eq,decide_eq_true_eq]
  rcases Zlt B.pos hx.2 hy.2 hx.1 hy.1 with q|q|q
  ·exact .inl q
  ·exact absurd q hne
  ·exact .inr q) (fun x y z hx hy hz h1 h2=>by
  unfold crB at *
  rw [decide_eq_true_eq] at *
  exact Zvt B.pos hx.2 hy.2 hz.2 hx.1 hy.1 hz.1 h1 h2) (btwL h.cs o w lo hi) [] (fun v hv=>⟨(hP v hv).1,Qf (hP v hv).2.1,Qf (hP v hv).2.2⟩) (fun x hx=>by cases hx) Ds
 have s2:∀ x,x∈innT h.cs o w lo hi↔∃ v∈btwL h.cs o w lo hi,x=red v:=fun x=>by
  have:=s2 x
  unfold innT
  rw [this]
  simp
 have lohi:∀ x∈innT h.cs o w lo hi,g1 x/\0<Rq lo x/\0<Rq x hi/\(-50000<=x.1/\x.1<=50000)/\(-50000<=x.2/\x.2<=50000):=fun x hx=>by
  obtain ⟨v,hv,rfl⟩:=(s2 x).1 hx
  obtain ⟨q1,q2,_⟩:=hw v hv
  exact ⟨(hP v hv).1,(hP v hv).2.1,(hP v hv).2.2,Zkc q1 q2.1 q2.2⟩
 refine ⟨?_,s2,?_,?_⟩
 ·unfold tB Srt
  refine List.pairwise_cons.2 ⟨fun x hx=>?_,List.pairwise_append.2 ⟨?_,List.pairwise_singleton _ _,fun x hx y hy=>?_⟩⟩
  ·rcases Sc.1 hx with q|q
   ·exact (lohi x q).2.1
   ·rw [Wc.1 q]; exact B.pos
  ·exact Jz (fun {a b} q=>by unfold crB at q; exact of_decide_eq_true q) s1
  ·rw [Wc.1 hy]; exact (lohi x hx).2.2.1
 ·intro x hx
  unfold tB at hx
  rcases Qx.1 hx with q|q
  ·rw [q]
   exact ⟨B.gl,⟨by rw [Zj]; exact Wm 0,Qf B.pos⟩,B.bl⟩
  ·rcases Sc.1 q with q|q
   ·obtain ⟨a1,a2,a3,a4⟩:=lohi x q
    exact ⟨a1,⟨Qf a2,Qf a3⟩,a4⟩
   ·rw [Wc.1 q]
    exact ⟨B.gh,⟨Qf B.pos,by rw [Zj]; exact Wm 0⟩,B.bh⟩
 ·intro k hk hne hs h1 h2
  unfold tB
  refine List.mem_cons_of_mem _ (Sc.2 (.inl ((s2 _).2 ⟨_,(hbt _).2 ⟨(hm _).2 ⟨k,hk,rfl,hne,fun l q=>?_,hs⟩,h1,h2⟩,rfl⟩)))
  obtain ⟨q1,t,q2,q3⟩:=(B.lk _ h1 h2).lk l q
  exact ⟨q1,t,q2,q3.n⟩
theorem Zjl {h:Hal} (g:h.fine) {m:Bm} (G:GoodB h m) (hlen:m.ws.length<4):∀ m'∈behB h.cs m,GoodB h m'/\m'.ws=m.ws++[m.nx]:=by
 intro m' hm
 have B:=Zr7 g G hlen
 obtain ⟨w,e,K⟩:=G.sec
 have e2:m.nx.toNat=w:=by omega
 unfold behB at hm
 dsimp only at hm
 rw [e2] at hm B
 obtain ⟨n,hs⟩:=Zk2 g K.wlt
 obtain ⟨s1,_,s3,s4⟩:=Zft g B
 rw [Sy] at hm
 obtain ⟨i,hi,rfl⟩:=hm
 have hi:=Sb.1 hi
 generalize hT:tB h.cs (imgO h.cs w m.o) w (imgV h.cs w m.b) (imgV h.cs w m.a)=T at *
 have hi1:i<T.length:=by omega
 have hi2:i+1<T.length:=by omega
 rw [Vc hi1,Vc hi2]
 have pw:=Sw.1 s1
 have r1:=pw i (i+1) hi1 hi2 (by omega)
 have m1:=s3 _ (Qo hi1)
 have m2:=s3 _ (Qo hi2)
 have asy:∀ x y,0<Rq x y -> ¬ 0<Rq y x:=fun x y h1 h2=>by rw [Zh] at h2; omega
 have b2:0<Rq (imgV h.cs w m.b) T[i+1]:=by
  have hT0:T[0]'(by omega)=imgV h.cs w m.b:=by subst hT; rfl
  rw [<-hT0]
  exact pw 0 (i+1) (by omega) hi2 (by omega)
 have a2:0<Rq T[i] (imgV h.cs w m.a):=by
  have hlast:T[T.length-1]'(by omega)=imgV h.cs w m.a:=by
   subst hT
   unfold tB
   simp
  rw [<-hlast]
  exact pw i (T.length-1) hi1 (by omega) (by omega)
 have hin:∀ d,0<Rq T[i] d->0<Rq d T[i+1]->0<Rq (imgV h.cs w m.b) d/\0<Rq d (imgV h.cs w m.a):=fun d d1 d2=>by
  constructor
  ·have:=Zqc T[i] T[i+1] (imgV h.cs w m.b) d
   have x1:=Qm (Qf d2) m1.2.1.1
   have x2:=Qt d1 b2
   exact Zl (a:=Rq T[i] T[i+1]) (by omega) r1
  ·have:=Zxr T[i] T[i+1] d (imgV h.cs w m.a)
   have x1:=Qt d2 a2
   have x2:=Qm (Qf d1) m2.2.1.2
   exact Zl (a:=Rq T[i] T[i+1]) (by omega) r1
 obtain ⟨w2,K2⟩:=Zxf g K hs r1 hin (fun c hc c1 c2 sc=>by
  obtain ⟨j,hj,ec,hne⟩:=Zpw g hc
  obtain ⟨q1,q2⟩:=hin c c1 c2
  have hmem:=s4 j hj (by show wa (wlOf h.cs j) (mO (wlOf h.cs w) _ _ m.o)≠_; rw [<-ec]; exact hne) (by show Seen _ _ _ (wa (wlOf h.cs j) (mO (wlOf h.cs w) _ _ m.o)); rw [<-ec]; exact sc) (by show 0<Rq _ (wa (wlOf h.cs j) (mO (wlOf h.cs w) _ _ m.o)); rw [<-ec]; exact q1) (by show 0<Rq (wa (wlOf h.cs j) (mO (wlOf h.cs w) _ _ m.o)) _; rw [<-ec]; exact q2)
  have ec2:wa (wlOf h.cs j) (imgO h.cs w m.o)=c:=ec.symm
  rw [ec2] at hmem
  obtain ⟨k,hk,ek⟩:=We hmem
  have z1:0<Rq T[i] T[k]:=by rw [ek]; exact (Uk hne).2.2 c1
  have z2:0<Rq T[k] T[i+1]:=by rw [ek]; exact (Uk hne).1.2 c2
  have:=Zqo asy s1 hi1 hk z1
  have:=Zqo asy s1 hk hi2 z2
  omega)
 have ob:=Yex hs (o:=m.o) (B:=5000+10000*(m.ws.length:Int)) G.ox
 have hlw:Xc (m.ws++[m.nx])=some w:=by rw [e]; exact Zi3 _ _
 refine ⟨⟨⟨w2,Yaf g K2,?_⟩,m1.1,m2.1,m1.2.2,m2.2.2,?_,fun x hx=>?_⟩,rfl⟩
 ·dsimp only
  rw [hlw]
  exact K2
 ·dsimp only
  rw [Ro,List.length_singleton]
  unfold imgO
  omega
 ·rcases Sc.1 hx with q|q
  ·exact G.ws x q
  ·rw [Wc.1 q,e]
   have:=K.wlt
   omega
def Vb (v:V):Prop:=(-200000<=v.1/\v.1<=200000)/\(-200000<=v.2/\v.2<=200000)
theorem Yeq {x y:Int} (hx : -200000<=x/\x<=200000) (hy : -200000<=y/\y<=200000) : -40000000000<=x*y/\x*y<=40000000000:=by
 have h1:0<=(200000-x)*(200000+y):=Qm (by omega) (by omega)
 have h2:0<=(200000+x)*(200000-y):=Qm (by omega) (by omega)
 have h3:0<=(200000-x)*(200000-y):=Qm (by omega) (by omega)
 have h4:0<=(200000+x)*(200000+y):=Qm (by omega) (by omega)
 have e1:(200000-x)*(200000+y)=40000000000+200000*y-200000*x-x*y:=by grind
 have e2:(200000+x)*(200000-y)=40000000000-200000*y+200000*x-x*y:=by grind
 have e3:(200000-x)*(200000-y)=40000000000-200000*y-200000*x+x*y:=by grind
 have e4:(200000+x)*(200000+y)=40000000000+200000*y+200000*x+x*y:=by grind
 omega
theorem Zoa {a b:V} (ha:Vb a) (hb:Vb b):crW a.1 a.2 b.1 b.2=Rq a b /\ -80000000000<=Rq a b/\Rq a b<=80000000000:=by
 have m1:=Yeq ha.1 hb.2
 have m2:=Yeq ha.2 hb.1
 unfold crW Rq
 rw [W_eq (n:=a.1*b.2) (by omega) (by omega),W_eq (n:=a.2*b.1) (by omega) (by omega),W_eq (by omega) (by omega)]
 exact ⟨rfl,by omega,by omega⟩
theorem e220 (x y:Int):PCall Tryz.prog 220 [P2 x y] ⟨I (hf (x,y)),[]⟩:=by
 unfold hf
 dsimp only
 by_cases c1:0<y
 ·rw [if_pos (.inl c1)]
  refine pn Zd Tryz.func220 ?_
  repeat'(first|refine wk3 ?_|(refine wk2 ?_ ?_<;>intro _)|fail)
  all_goals first|exact Zc rfl|(exfalso; simp_all; done)|(exfalso; omega)|(exfalso; simp_all; omega)
 ·by_cases c2:y=0/\0<x
  ·rw [if_pos (.inr c2)]
   obtain ⟨rfl,c2⟩:=c2
   refine pn Zd Tryz.func220 ?_
   repeat'(first|refine wk3 ?_|(refine wk2 ?_ ?_<;>intro _)|fail)
   all_goals first|exact Zc rfl|(exfalso; simp_all; done)|(exfalso; omega)|(exfalso; simp_all; omega)
  ·rw [if_neg (fun q=>by rcases q with q|q; exact c1 q; exact c2 q)]
   by_cases hy:y=0
   ·have hx:¬ 0<x:=fun q=>c2 ⟨hy,q⟩
    clear c2
    subst hy
    refine pn Zd Tryz.func220 ?_
    repeat'(first|refine wk3 ?_|(refine wk2 ?_ ?_<;>intro _)|fail)
    all_goals first|exact Zc rfl|(exfalso; simp_all; done)
   ·clear c2
    refine pn Zd Tryz.func220 ?_
    repeat'(first|refine wk3 ?_|(refine wk2 ?_ ?_<;>intro _)|fail)
    all_goals first|exact Zc rfl|(exfalso; simp_all; done)
def rHf:List AV->Option PRes
 | [.agg [.int .i64 x,.int .i64 y]]=>some ⟨I (hf (x,y)),[]⟩
 | _=>none
def arV (a b:V):Int:=if hf a=hf b then -(Rq a b) else hf a-hf b
theorem Ygu {ax ay bx by' A B C:Int} (T T2:List AV->Option PRes) (hk:PCOK Tryz.prog (ins 220 T (ins 92 T2 pt0))) (e1:T [P2 ax ay]=some ⟨I A,[]⟩) (e2:T [P2 bx by']=some ⟨I B,[]⟩) (c1:T2 [P2 ax ay,P2 bx by']=some ⟨I C,[]⟩) (hA:A=0\/A=1) (hB:B=0\/B=1) (hC : -80000000000<=C/\C<=80000000000) :
  PCall Tryz.prog 171 [P2 ax ay,P2 bx by'] ⟨I (if A=B then -C else A-B),[]⟩:=by
 by_cases c:A=B
 ·rw [if_pos c,show -C=Qa Qb (0-C) from ((W_eq (by omega) (by omega)).trans (by omega)).symm]
  refine pn hk Tryz.func171 ?_
  repeat'(first|refine wk3 ?_|(refine wk2 ?_ ?_<;>intro _)|fail)
  all_goals first|exact Zc rfl|(exfalso; simp_all; done)
 ·rw [if_neg c,show A-B=Qa Qb (A-B) from (W_eq (by omega) (by omega)).symm]
  refine pn hk Tryz.func171 ?_
  repeat'(first|refine wk3 ?_|(refine wk2 ?_ ?_<;>intro _)|fail)
  all_goals first|exact Zc rfl|(exfalso; simp_all; done)
theorem Yee {pt:PC} (h:PCOK Tryz.prog pt):PCOK Tryz.prog (ins 220 rHf pt):=Zk (fun a res h=>by unfold rHf at h; split at h<;>cases h; exact e220 _ _) h
theorem e171 {a b:V} (ha:Vb a) (hb:Vb b):PCall Tryz.prog 171 [P2 a.1 a.2,P2 b.1 b.2] ⟨I (arV a b),[]⟩:=by
 obtain ⟨k1,k2,k3⟩:=Zoa ha hb
 have c:=d139 a.1 a.2 b.1 b.2
 rw [k1] at c
 exact Ygu rHf _ (Yee (Za c Zd)) rfl rfl (Zdc _ _) (Zbc a) (Zbc b) ⟨k2,k3⟩
theorem e173 {a b:V} (ha:Vb a) (hb:Vb b):PCall Tryz.prog 173 [P2 a.1 a.2,P2 b.1 b.2] ⟨I (-(Rq a b)),[]⟩:=by
 obtain ⟨k1,k2,k3⟩:=Zoa ha hb
 have hk:=Za (d139 a.1 a.2 b.1 b.2) Zd
 rw [k1] at hk
 rw [show -Rq a b=Qa Qb (0-Rq a b) from ((W_eq (by omega) (by omega)).trans (by omega)).symm]
 refine pn hk Tryz.func173 ?_
 repeat'(first|refine wk3 ?_|(refine wk2 ?_ ?_<;>intro _)|fail)
 all_goals exact Zc rfl
def wsA (ws:List Int):AV:=match ws with
 | []=>.nils
 | x::r=>.isl 1 (nl (x::r))
def bmA (m:Bm):List AV:=[wsA m.ws,I m.o.1,I m.o.2,I m.a.1,I m.a.2,I m.b.1,I m.b.2,I m.nx]
theorem Ybm {w:V} (hw:w≠(0,0)) (hb:Vb w):tuV w.1 w.2=red w /\ ¬ gcW w.1 w.2=0:=by
 obtain ⟨g,g0,e1,e2,hg,eg⟩:=Xx hw
 obtain ⟨q1,q2⟩:=Zkc hw hb.1 hb.2
 have hle:g<=200000:=by
  have k:∀ x y:Int,x=g*y->y≠0 -> -200000<=x->x<=200000->g<=200000:=fun x y e hy l u=>by
   rcases Int.lt_or_lt_of_ne hy with c|c
   ·have:=Qv (by omega:(1:Int) <= -y) (by omega:0<=g)
    rw [Int.mul_neg] at this
    omega
   ·have:=Qv (by omega:(1:Int)<=y) (by omega:0<=g)
    omega
  by_cases z1:(red w).1=0
  ·by_cases z2:(red w).2=0
   ·exact absurd (Wh z1 z2) (Zdm hg)
   ·exact k _ _ e2 z2 hb.2.1 hb.2.2
  ·exact k _ _ e1 z1 hb.1.1 hb.1.2
 have egc:gcW w.1 w.2=g:=by
  show IntKind.i64.wrap ((Nat.gcd w.1.natAbs w.2.natAbs:Nat):Int)=g
  rw [show Nat.gcd w.1.natAbs w.2.natAbs=Oj w.1 w.2 from rfl,<-eg]
  exact W_eq (by omega) (by omega)
 refine ⟨?_,by rw [egc]; omega⟩
 unfold tuV
 rw [egc,eg]
 have r1:(red w).1=w.1.tdiv (Oj w.1 w.2:Nat):=rfl
 have r2:(red w).2=w.2.tdiv (Oj w.1 w.2:Nat):=rfl
 rw [<-r1,<-r2,W_eq (by omega) (by omega),W_eq (by omega) (by omega)]
theorem Zee {u:V} (h:g1 u):red u=u:=by
 have hu:=Zdm h
 obtain ⟨g,g0,e1,e2,_,eg⟩:=Xx hu
 unfold g1 at h
 rw [h] at eg
 rw [eg] at e1 e2
 exact Wh (by omega) (by omega)
theorem Yau {n:Int} (h : -200000<=n/\n<=200000):i64 n:=by
 constructor<;>omega
noncomputable abbrev rTu:List AV->Option PRes:=famA (fun w:V=>w≠(0,0)/\Vb w) (fun w=>[P2 w.1 w.2]) (fun w=>⟨P2 (red w).1 (red w).2,[]⟩)
theorem Zew {w:V} (hw:w≠(0,0)) (hb:Vb w):rTu [P2 w.1 w.2]=some ⟨P2 (red w).1 (red w).2,[]⟩ :=
 Ye (p:=fun w:V=>w≠(0,0)/\Vb w) (g:=fun w=>[P2 w.1 w.2]) (r:=fun w=>⟨P2 (red w).1 (red w).2,[]⟩) (k:=w) (fun j hj=>by
  simp only [Rp,Wa,Pr,true_and,and_true] at hj
  rw [show j=w from Wh hj.1 hj.2]) ⟨hw,hb⟩
theorem Zuv {pt:PC} (h:PCOK Tryz.prog pt):PCOK Tryz.prog (ins 214 rTu pt):=Yo (fun w hw=>by
 obtain ⟨e1,e2⟩:=Ybm hw.1 hw.2
 have:=d88 (Yau hw.2.1) (Yau hw.2.2) e2
 rw [e1] at this
 exact this) h
def laW (ws:List Int):Int:=match ws.getLast? with
 | none=>-1
 | some x=>x
theorem Ye3 {ws:List Int} (h:∀ x∈ws,0<=x):laW ws=laI (Xc ws):=by
 unfold laW Xc laI
 cases e:ws.getLast? with
 | none=>rfl
 | some x =>
  have:=h x (List.mem_of_getLast? e)
  show x=((x.toNat:Nat):Int)
  omega
theorem Yfq {h:Hal} {ox oy ax ay bx by' la nx:Int} {ws:List Int} (T4 T5:List AV->Option PRes) (hk:PCOK Tryz.prog (ins 44 T4 (ins 214 T5 pt0))) (hl:ws.length<1000) (hla:laW ws=la) {q0 q1:Int} {q3 q4:Bool}
  (c4:T4 [h.av,.agg [I ox,I oy,I (Qa Qb (ax+bx)),I (Qa Qb (ay+by')),I la]]=some ⟨.tup [.agg [I q0,I q1,I nx,Bo q3],Bo q4],[]⟩) (c5:T5 [P2 ax ay]=some ⟨P2 ax ay,[]⟩) (c6:T5 [P2 bx by']=some ⟨P2 bx by',[]⟩) :
  PCall Tryz.prog 172 [h.av,wsA ws,P2 ox oy,P2 ax ay,P2 bx by'] ⟨.agg (bmA ⟨ws,(ox,oy),(ax,ay),(bx,by'),nx⟩),[]⟩:=by
 unfold bmA
 cases ws with
 | nil =>
  cases hla
  unfold wsA
  refine pn hk Tryz.func172 ?_
  repeat'(first|refine wk3 ?_|(refine wk2 ?_ ?_<;>intro _)|fail)
  all_goals first|exact Zg rfl rfl|(exfalso; simp_all; done)
 | cons x r =>
  unfold wsA
  dsimp only
  have e2:(nl (x::r)).length=r.length+1:=by simp [nl]
  have hl2:r.length<1000:=by simp at hl; omega
  have e1:(nl (x::r))[r.length]?=some [I la]:=by
   unfold laW at hla
   rw [List.getLast?_eq_getElem?] at hla
   have:(x::r)[r.length]?=some ((x::r)[r.length]'(by simp)):=Qe (by simp)
   simp only [Ra,Nat.add_sub_cancel] at hla
   rw [this] at hla
   dsimp only at hla
   unfold nl
   rw [Ru,this,<-hla]
   rfl
  have e3:(nl (x::r))[(Qa Qb (((nl (x::r)).length:Int)-1)).toNat]?=some [I la]:=by
   rw [e2,W_eq (by omega) (by omega),show (((r.length+1:Nat):Int)-1).toNat=r.length by omega]
   exact e1
  have e4:¬ Qa Qb (((nl (x::r)).length:Int)-1)<0:=by rw [e2,W_eq (by omega) (by omega)]; omega
  have e5:decide (0<=Qa Qb (((nl (x::r)).length:Int)-1))=true:=by rw [e2,W_eq (by omega) (by omega)]; exact decide_eq_true (by omega)
  clear e1
  generalize nl (x::r)=E at *
  refine pn hk Tryz.func172 ?_
  repeat'(first|refine wk3 ?_|(refine wk2 ?_ ?_<;>intro _)|fail)
  all_goals first|exact Zg rfl rfl|(exfalso; simp_all; done)|(exfalso; rename_i q; rw [e5] at q; cases q)|(exfalso; exact e4 (by omega))
theorem Zj4 {v:V} (h:(-50000<=v.1/\v.1<=50000)/\(-50000<=v.2/\v.2<=50000)):Vb v:=⟨by omega,by omega⟩
theorem e172 {h:Hal} (hf:h.few) (g:h.fine) {ws:List Int} {o a b:V} (ho:OB o) (hl:ws.length<1000) (hw:∀ x∈ws,0<=x) (ga:g1 a) (gb:g1 b) (ba:(-50000<=a.1/\a.1<=50000)/\(-50000<=a.2/\a.2<=50000)) (bb:(-50000<=b.1/\b.1<=50000)/\(-50000<=b.2/\b.2<=50000))
  (hp:LP h.cs o (Xc ws) (addV a b)):PCall Tryz.prog 172 [h.av,wsA ws,P2 o.1 o.2,P2 a.1 a.2,P2 b.1 b.2] ⟨.agg (bmA ⟨ws,o,a,b,nxtV h.cs o (Xc ws) (addV a b)⟩),[]⟩:=by
 have rb:RyB (ryV o (addV a b)):=Zuo ho (by unfold addV; dsimp only; omega) (by unfold addV; dsimp only; omega)
 have c44:=e44 hf g rb (Zzk g hp)
 have t1:=Zew (Zdm ga) (Zj4 ba)
 have t2:=Zew (Zdm gb) (Zj4 bb)
 rw [Zee ga] at t1
 rw [Zee gb] at t2
 have ea:Qa Qb (a.1+b.1)=(addV a b).1:=W_eq (by omega) (by omega)
 have eb:Qa Qb (a.2+b.2)=(addV a b).2:=W_eq (by omega) (by omega)
 have hla:=Ye3 hw
 obtain ⟨ox,oy⟩:=o
 obtain ⟨ax,ay⟩:=a
 obtain ⟨bx,by'⟩:=b
 have c4:=Zdc [h.av,(ryV (ox,oy) (addV (ax,ay) (bx,by'))).av (laI (Xc ws))] (mtV h.cs (bstP (Zv h.cs (ryV (ox,oy) (addV (ax,ay) (bx,by'))) (frQ h.cs (ox,oy) (addV (ax,ay) (bx,by')) (Xc ws)) (laI (Xc ws))) h.cs.length))
 have hk:=Za c44 (Zuv Zd)
 unfold nxtV bstV
 cases hb:bstP (Zv h.cs (ryV (ox,oy) (addV (ax,ay) (bx,by'))) (frQ h.cs (ox,oy) (addV (ax,ay) (bx,by')) (Xc ws)) (laI (Xc ws))) h.cs.length with
 | none =>
  rw [hb] at c4 hk
  refine Yfq _ _ hk hl hla (q0:=0) (q1:=0) (q3:=false) (q4:=false) ?_ t1 t2
  rw [ea,eb]
  exact c4
 | some c =>
  rw [hb] at c4 hk
  refine Yfq _ _ hk hl hla (q0:=(wlOf h.cs c.i).ln.n*c.nu) (q1:=(wlOf h.cs c.i).ln.n*c.de) (q3:=c.well) (q4:=true) ?_ t1 t2
  rw [ea,eb]
  exact c4
def plH (h:Hal):Pl:=⟨h.nm,h.ht,h.fl,h.ce,h.ms.map Mat.av,h.cs,h.ws.map Wal.av,.isl 7 (h.ks.map Can.av),.isl 4 (h.ss.map Sea.av)⟩
theorem Zqv {h:Hal} (g:h.fine) {o:V} (ho:OB o) (L:Option Nat):∀ l:List V,(∀ p∈l,p∈h.cs)->Zfc o.1 o.2 (visB h.cs o L) l=((l.filter fun p=>!decide (p=o)&&visB h.cs o L p).map (toW o)).map wy
 | [],_=>rfl
 | p::l,hl=>by
  have ih:=Zqv g ho L l (fun q hq=>hl q (by simp [hq]))
  have hb:=Zg5 g ho (hl p (by simp))
  rw [Zgn,ih,List.filter_cons]
  by_cases c:p=o
  ·rw [if_pos (by rw [c]; exact ⟨rfl,rfl⟩),decide_eq_true c]
   simp
  ·rw [if_neg (fun q=>c (Wh q.1 q.2)),decide_eq_false c]
   cases visB h.cs o L p
   ·simp
   ·simp only [Bool.not_false,Wt,if_true,Sv]
    congr 1
    unfold toW at hb
    dsimp only at hb
    rw [W_eq (n:=p.1-o.1) (by omega) (by omega),W_eq (n:=p.2-o.2) (by omega) (by omega)]
    rfl
theorem Zum {h:Hal} (hf:h.few) (g:h.fine) {o:V} (ho:OB o) {L:Option Nat} (hL:∀ l,L=some l->l<h.cs.length):ItOK Tryz.prog 218 [] (capS h o.1 o.2 (laI L)) ((Vn h.cs o L).map wy):=by
 have l3:=g.le.2.1
 have l12:h.cs.length<=12:=by have:=g.le; omega
 have hla:laI L<h.cs.length:=by
  cases hq:L with
  | none=>unfold laI; dsimp only; omega
  | some l=>have:=hL l hq; unfold laI; dsimp only; omega
 have e:=Ygn (q:=plH h) (.inr ⟨_,rfl⟩) (.inr ⟨_,rfl⟩) (by show h.cs.length<1000; omega) o.1 o.2 (laI L) (fun p=>byR h.cs (ryV o (toW o p)) (laI L) (1,1)) (fun p=>Zoq h.cs o (toW o p) L)
  (fun p hp=>by
   have hb:=Zg5 g ho hp
   have:=e102 hf (ryV o (toW o p)) hla 1 1
   unfold toW at hb this ⊢
   dsimp only at hb this ⊢
   rw [W_eq (n:=p.1-o.1) (by omega) (by omega),W_eq (n:=p.2-o.2) (by omega) (by omega)]
   exact this)
  (fun p hp hne hby=>by
   have hb:=Zg5 g ho hp
   have rb:RyB (ryV o (toW o p)):=Zuo ho (by omega) (by omega)
   have:=e219 hf g rb ((Yba g rb hL).1 hby).1
   unfold toW at hb this ⊢
   dsimp only at hb this ⊢
   rw [W_eq (n:=p.1-o.1) (by omega) (by omega),W_eq (n:=p.2-o.2) (by omega) (by omega)]
   exact this)
 have e2:=Zqv g ho L h.cs (fun p hp=>hp)
 unfold Vn
 rw [<-e2]
 exact e
theorem Zie {h:Hal} (g:h.fine) (o:V) (L:Option Nat):(Vn h.cs o L).length<=12:=by
 have l12:h.cs.length<=12:=by have:=g.le; omega
 unfold Vn
 rw [Qn]
 exact Nat.le_trans (List.length_filter_le _ _) l12
theorem subs {P:V->Prop}:∀ l:List V,(∀ x∈l,P x)->∃ xs:List {v:V // P v},xs.map Lr=l
 | [],_=>⟨[],rfl⟩
 | a::l,h=>by
  obtain ⟨xs,e⟩:=subs l (fun x hx=>h x (by simp [hx]))
  exact ⟨⟨a,h a (by simp)⟩::xs,by rw [Sv,e]⟩
abbrev Tb:={v:V // g1 v/\Vb v}
theorem Zsa (a b:V):arV a b<0↔sn a b:=by
 unfold arV sn
 have h0:=Zbc a
 have h1:=Zbc b
 split
 ·omega
 ·omega
theorem Ydn:Go.Sort.SWO (Qbf (fun a b:Tb=>arV a.1 b.1)):=by
 refine ⟨fun x=>?_,fun x y z h1 h2=>?_,fun x y z h1 h2=>?_⟩
 ·simp only [ltOf,decide_eq_false_iff_not]
  rw [Zsa]
  exact Zuh _
 ·simp only [ltOf,decide_eq_true_eq] at *
  rw [Zsa] at *
  exact Zyg h1 h2
 ·simp only [ltOf,decide_eq_false_iff_not] at *
  rw [Zsa] at *
  intro h3
  rcases Zqp x.2.1 y.2.1 with q|q|q
  ·exact h1 q
  ·exact h2 (q ▸ h3)
  ·rcases Zqp y.2.1 z.2.1 with w|w|w
   ·exact h2 w
   ·exact h1 (w ▸ h3)
   ·exact Zo3 h3 (Zyg w q)
theorem Zu8:FnOK Tryz.prog 215:=FnOK.of Tryz.func215 (by kernel_rfl) (by kernel_rfl)
theorem Ydx {h:Hal} (g:h.fine) {o:V} (k:InSrc h o) {ys:List Tb} (hp:(ys.map Lr).Perm ((Vn h.cs o none).map red)) (hs:ys.Pairwise (fun a b=>¬ arV b.1 a.1<0)):ys.map Lr=tO h.cs o:=by
 obtain ⟨s1,s2,_,_⟩:=Zo0 g k
 have hm:=fun w=>Zas g k.ob (L:=none) (fun l q=>by cases q) (w:=w)
 have nd:((Vn h.cs o none).map red).Nodup:=by
  unfold Kn
  rw [Nl]
  have nd0:(Vn h.cs o none).Nodup:=by
   unfold Vn Kn
   rw [Nl]
   have:=Ku (fun p=>!decide (p=o)&&visB h.cs o none p) (Zrz g)
   refine Jz (fun {a b} hab q=>hab ?_) this
   unfold toW at q
   rw [Rj] at q
   exact Wh (by omega) (by omega)
  refine Hh (fun {a b} ha hb hab q=>hab ?_) nd0
  obtain ⟨i,hi,rfl,h1,_,h2⟩:=(hm a).1 ha
  obtain ⟨j,hj,rfl,h3,_,h4⟩:=(hm b).1 hb
  exact Zj8 g (fun _=>True) (fun k' _ _ _=>k.bef g _) hi hj trivial trivial h1 h3 h2 h4 q
 have nd2:(ys.map Lr).Nodup:=hp.nodup_iff.2 nd
 refine Zk6 (R:=sn) (fun x y=>Zo3) ?_ s1 (fun x=>?_)
 ·unfold Srt
  unfold Kn at nd2
  rw [Nl] at nd2 ⊢
  refine (Gq.2 ⟨hs,nd2⟩).imp (fun {a b} hab=>?_)
  obtain ⟨h1,h2⟩:=hab
  rw [Zsa] at h1
  rcases Zqp a.2.1 b.2.1 with q|q|q
  ·exact q
  ·exact absurd q h2
  ·exact absurd q h1
 ·rw [hp.mem_iff,s2,Sy]
  constructor
  ·rintro ⟨w,hw,e⟩; exact ⟨w,hw,e.symm⟩
  ·rintro ⟨w,hw,e⟩; exact ⟨w,hw,e.symm⟩
def mixR (vs:List V) (j:Nat):List V:=(vs.take j).map red++vs.drop j
theorem Zfn (vs:List V) (j:Nat):(mixR vs j).length=vs.length:=by
 unfold mixR
 rw [Ro,Qn,Pp,List.length_drop]
 omega
theorem Zfo {vs:List V} {j:Nat} (hj:j<vs.length):((mixR vs j).map wv)[0+((j:Nat):Int).toNat]?=some (wv vs[j]):=by
 rw [Ti,Rz,Ru]
 unfold mixR
 rw [List.getElem?_append_right (by rw [Qn,Pp]; omega),Qn,Pp,Mb (by omega),Ly,List.getElem?_drop,Nat.add_zero,Qe hj]
 rfl
theorem Zfm {vs:List V} {j:Nat} (hj:j<vs.length):Zlb ((mixR vs j).map wv) (0+((j:Nat):Int).toNat) (wv (red vs[j]))=(mixR vs (j+1)).map wv:=by
 rw [Zqt,Ti,Rz,<-List.map_set]
 congr 1
 unfold mixR
 rw [List.set_append_right _ _ (by rw [Qn,Pp]; omega),Qn,Pp,Mb (by omega),Ly,List.drop_eq_getElem_cons hj,List.set_cons_zero,List.take_succ_eq_append_getElem hj,Sm]
 simp
theorem Zfp (vs:List V):mixR vs vs.length=vs.map red:=by unfold mixR; simp
theorem Zf3 {P:Program} {f:FuncId} {fn:Func} (hf:P.funcs[f]?=some fn) (h1:(fn.name == "runtime.NumGoroutine")=false) (h2:fn.body.isNone=false) (args:Array Value) (w:World):(callFunc f args).run P w = .ok (.enter f args) w:=by
 have q2' : ¬ fn.name = "runtime.NumGoroutine" := by simpa using h1
 have q3' : ¬ fn.body=none:=by intro h; rw [h] at h2; simp at h2
 simp [callFunc,hf,q2',q3']
theorem Vj {T:List V} {j:Nat} (hj:j<T.length):(T.map wv)[0+((j:Nat):Int).toNat]?=some (wv T[j]):=by
 rw [Ti,Rz,Ru,Qe hj]
 rfl
def Yf:FuncId->Bool:=fun f=>Qs f 168||(Qs f 215||Qs f 216)
noncomputable abbrev rBm (h:Hal) (ws:List Int) (o:V) (nx:V->Int):List AV->Option PRes:=famA (fun q:V × V=>(g1 q.1/\g1 q.2)/\(((-50000<=q.1.1/\q.1.1<=50000)/\(-50000<=q.1.2/\q.1.2<=50000))/\((-50000<=q.2.1/\q.2.1<=50000)/\(-50000<=q.2.2/\q.2.2<=50000)))/\LP h.cs o (Xc ws) (addV q.1 q.2)) (fun q=>[h.av,wsA ws,P2 o.1 o.2,P2 q.1.1 q.1.2,P2 q.2.1 q.2.2]) (fun q=>⟨.agg (bmA ⟨ws,o,q.1,q.2,nx (addV q.1 q.2)⟩),[]⟩)
theorem Zin {h:Hal} {ws:List Int} {o:V} {nx:V->Int} {a b:V} (h1:g1 a/\g1 b) (h2:((-50000<=a.1/\a.1<=50000)/\(-50000<=a.2/\a.2<=50000))/\((-50000<=b.1/\b.1<=50000)/\(-50000<=b.2/\b.2<=50000))) (h3:LP h.cs o (Xc ws) (addV a b)) :
  rBm h ws o nx [h.av,wsA ws,P2 o.1 o.2,P2 a.1 a.2,P2 b.1 b.2]=some ⟨.agg (bmA ⟨ws,o,a,b,nx (addV a b)⟩),[]⟩ :=
 Ye (p:=fun q:V × V=>(g1 q.1/\g1 q.2)/\(((-50000<=q.1.1/\q.1.1<=50000)/\(-50000<=q.1.2/\q.1.2<=50000))/\((-50000<=q.2.1/\q.2.1<=50000)/\(-50000<=q.2.2/\q.2.2<=50000)))/\LP h.cs o (Xc ws) (addV q.1 q.2)) (g:=fun q=>[h.av,wsA ws,P2 o.1 o.2,P2 q.1.1 q.1.2,P2 q.2.1 q.2.2]) (r:=fun q=>⟨.agg (bmA ⟨ws,o,q.1,q.2,nx (addV q.1 q.2)⟩),[]⟩) (k:=(a,b)) (fun j hj=>by
  simp only [Rp,Wa,Pr,true_and,and_true] at hj
  rw [show j=(a,b) from Wh (Wh hj.1.1 hj.1.2) (Wh hj.2.1 hj.2.2)]) ⟨h1,h2,h3⟩
theorem e88 {h:Hal} (hf:h.few) (g:h.fine) (hS:SortsK Tryz.prog 215 2) {o:V} (k:InSrc h o):PCall Tryz.prog 88 [h.av,P2 o.1 o.2] ⟨.isl 8 ((Zp h.cs o).map bmA),[]⟩:=by
 have hit:=Zum hf g k.ob (L:=none) (fun l q=>by cases q)
 have hln:=Zie g o none
 have c1:=e169 h o.1 o.2 (laI none) hit (by omega)
 have c2:=e170 h o.1 o.2 (laI none)
 have hvs:=fun w=>Zas g k.ob (L:=none) (fun l q=>by cases q) (w:=w)
 have hW:∀ w∈Vn h.cs o none,w≠(0,0)/\Vb w:=fun w hw=>by
  obtain ⟨j,hj,e,h1,_⟩:=(hvs w).1 hw
  refine ⟨h1,Zj4 ?_⟩
  rw [e,Zow _ hj]
  exact Zg5 g k.ob (Qo hj)
 have hT:=fun ys=>Ydx g k (ys:=ys)
 obtain ⟨h3,hgood⟩:=Zbu g k
 have hne:Vn h.cs o none≠[]:=by
  intro q
  unfold tO at h3
  rw [q] at h3
  simp at h3
 have hbeam:=fun (a b:V) (q:(g1 a/\g1 b)/\(((-50000<=a.1/\a.1<=50000)/\(-50000<=a.2/\a.2<=50000))/\((-50000<=b.1/\b.1<=50000)/\(-50000<=b.2/\b.2<=50000)))/\LP h.cs o (Xc []) (addV a b))=>e172 hf g (ws:=[]) k.ob (by simp) (by simp) q.1.1 q.1.2 q.2.1.1 q.2.1.2 q.2.2
 unfold wsR at c1
 rw [if_neg hne] at c1
 generalize hvsd:Vn h.cs o none=vs at *
 have hk:PCOK Tryz.prog (ins 170 (one [h.av,P2 o.1 o.2,I (-1)] ⟨.func 218 [] (capS h o.1 o.2 (-1)),[]⟩) (ins 169 (one [.func 218 [] (capS h o.1 o.2 (-1))] ⟨.asl 0 0 (vs.map wv).length,[(2,vs.map wv)]⟩) (ins 214 rTu (ins 43 rWy (ins 172 (rBm h [] o (nxtV h.cs o (Xc []))) pt0))))) :=
  Za c2 (Za c1 (Zuv (Zk (fun a res h=>by unfold rWy at h; split at h<;>cases h; exact d93 _ _) (Yo (fun q hq=>hbeam q.1 q.2 hq) Zd))))
 refine PCall.freeze (res:=⟨.asl 0 0 ((Zp h.cs o).map bmA).length,[(8,(Zp h.cs o).map bmA)]⟩) ?_ ⟨rfl,rfl,rfl⟩
 obtain ⟨ox,oy⟩:=o
 refine bs.pv (sx:=Yf) hk Tryz.func88 (by kernel_rfl) (by kernel_rfl) rfl ?_
 repeat'(first|refine wk3 ?_|(refine wk2 ?_ ?_<;>intro _)|fail)
 refine bs.sv (sx:=Yf) hk Tryz.func168 (by kernel_rfl) (by kernel_rfl) ?_
 repeat'(first|refine wk3 ?_|(refine wk2 ?_ ?_<;>intro _)|fail)
 have lvs:(vs.map wv).length=vs.length:=Qn _
 have hl12:vs.length<1000:=by omega
 refine Zq (S:=Nat × Int × List (List AV)) (fun t=>vs.length-t.1) (fun t=>[(0,.asl 2 0 (vs.map wv).length),(1,.func 171 [] []),(7,.asl 2 0 (vs.map wv).length),(8,I (vs.map wv).length),(9,I t.2.1)])
  (fun t=>[(2,.row 2 t.2.2 true true),(1,.row 2 [[I ox,I oy]] true false),(0,.row 9 [h.cells] true false)]) 3 3 (fun t=>t.2.1=t.1/\t.1<=vs.length/\t.2.2=(mixR vs t.1).map wv) (0,0,vs.map wv) ⟨rfl,Qq _,rfl⟩ (Qd _) [] rfl (kps) (kps) ?_
 rintro ⟨j,i,els⟩ ⟨hi,hj,hels⟩
 dsimp only at hi hj hels ⊢
 subst hi
 have lel:els.length=vs.length:=by rw [hels,Qn,Zfn]
 by_cases hlt:j<vs.length
 ·have e1:=Zfo hlt
  have e2:=Zfm hlt
  rw [<-hels] at e1 e2
  have t1:=hW vs[j] (Qo hlt)
  have t2:=Zew t1.1 t1.2
  have e3:(⟨ox,oy⟩:V).1=ox:=rfl
  generalize vs[j]=v at *
  generalize red v=u at *
  obtain ⟨vx,vy⟩:=v
  obtain ⟨ux,uy⟩:=u
  refine bs.av (sx:=Yf) hk ?_
  repeat'(first|refine wk3 ?_|(refine wk2 ?_ ?_<;>intro _)|fail)
  exact Qu ⟨(j+1,Qa Qb ((j:Int)+1),Zlb els (0+((j:Nat):Int).toNat) [I ux,I uy]),[],rfl,kps,kps,⟨Ze (by omega),hlt,e2⟩,by dsimp only; omega⟩
 have hjn:j=vs.length:=by omega
 subst hjn
 rw [Zfp] at hels
 obtain ⟨xs,hxs⟩:=subs (P:=fun v=>g1 v/\Vb v) (vs.map red) (fun x hx=>by
  obtain ⟨w,hw,rfl⟩:=Sy.1 hx
  obtain ⟨q1,q2⟩:=hW w hw
  obtain ⟨gg,_,_,_,q5,_⟩:=Xx q1
  obtain ⟨b1,b2⟩:=Zkc q1 q2.1 q2.2
  exact ⟨q5,b1,b2⟩)
 have hx2:els=xs.map (fun b:Tb=>wv b.1):=by rw [hels,<-hxs,Oi]; rfl
 have lxs:xs.length=(vs.map wv).length:=by
  have:=congrArg List.length hxs
  simpa using this
 clear hels
 subst hx2
 refine bs.av (sx:=Yf) hk ?_
 repeat'(first|refine wk3 ?_|(refine wk2 ?_ ?_<;>intro _)|fail)
 rw [<-lxs]
 refine Zfb Zu8 hS (by decide) (Zf3 Tryz.func171 (by kernel_rfl) (by kernel_rfl)) (fun b:Tb=>wv b.1) (fun _=>rfl) (fun _=>rfl) (fun _=>rfl) (fun a b:Tb=>arV a.1 b.1) (fun a _ b _=>Zff (e171 a.2.2 b.2.2)) Ydn (by omega) rfl fun ys hp hs=>?_
 have hys:=hT ys (by rw [<-hxs]; exact hp.map _) hs
 have e5:ys.map (fun b:Tb=>wv b.1)=(tO h.cs (ox,oy)).map wv:=by rw [<-hys,Oi]; rfl
 rw [e5]
 repeat'(first|refine wk3 ?_|(refine wk2 ?_ ?_<;>intro _)|fail)
 have lT:((tO h.cs (ox,oy)).map wv).length=(tO h.cs (ox,oy)).length:=Qn _
 have lx2:xs.length=(tO h.cs (ox,oy)).length:=by rw [<-hys,Qn]; exact hp.length_eq.symm
 have hnd:∀ i,0<i->i<(tO h.cs (ox,oy)).length->(tO h.cs (ox,oy))[i]?≠(tO h.cs (ox,oy))[i-1]?:=by
  obtain ⟨s1,_⟩:=Zo0 g k
  intro i h0 h1 q
  have:=Sw.1 s1 (i-1) i (by omega) h1 (by omega)
  rw [Qe h1,Qe (by omega:i-1<_)] at q
  rw [Sl q] at this
  exact Zuh _ this
 clear hys e5 hp hs hT hvs hW hxs hit hln c1 c2 hne
 rw [lx2]
 generalize hTT:tO h.cs (ox,oy)=T at *
 refine bs.sv (sx:=Yf) hk Tryz.func216 (by kernel_rfl) (by kernel_rfl) ?_
 repeat'(first|refine wk3 ?_|(refine wk2 ?_ ?_<;>intro _)|fail)
 have hT1000:T.length<1000:=by omega
 refine Zq (S:=Nat × Int) (fun t=>T.length-t.1) (fun t=>[(0,.asl 2 0 T.length),(3,I t.2)]) (fun _=>[(2,.row 2 (T.map wv) true true),(1,.row 2 [[I ox,I oy]] true false),(0,.row 9 [h.cells] true false)]) 3 3
  (fun t=>t.2=t.1/\1<=t.1/\t.1<=T.length) (1,1) ⟨rfl,Qd _,by omega⟩ (Qd _) [] rfl (kps) (kps) ?_
 rintro ⟨j,i⟩ ⟨hi,hj0,hj⟩
 dsimp only at hi hj0 hj ⊢
 subst hi
 by_cases hlt:j<T.length
 ·have e1:=Vj hlt
  have e2:=Vj (T:=T) (j:=j-1) (by omega)
  rw [show (((j-1:Nat):Int))=Qa Qb ((j:Int)-1) by rw [W_eq (by omega) (by omega)]; omega] at e2
  have hd:=hnd j (by omega) hlt
  rw [Qe hlt,Qe (by omega:j-1<T.length)] at hd
  have w1:decide (0<=Qa Qb ((j:Int)-1))=true:=by rw [W_eq (by omega) (by omega)]; exact decide_eq_true (by omega)
  have w2:decide (Qa Qb ((j:Int)-1)<(T.length:Int))=true:=by rw [W_eq (by omega) (by omega)]; exact decide_eq_true (by omega)
  have hz:Qa Qb ((j:Int)-1)=(j:Int)-1:=W_eq (by omega) (by omega)
  generalize T[j]=u at *
  generalize T[j-1]'(by omega)=v at *
  obtain ⟨ux,uy⟩:=u
  obtain ⟨vx,vy⟩:=v
  have hraw:(decide (ux=vx)&&(decide (uy=vy)&&true))=false:=by
   rw [Bool.eq_false_iff]
   intro q
   simp only [Bool.and_true,Qc,decide_eq_true_eq] at q
   exact hd (by rw [q.1,q.2])
  clear hd
  refine bs.av (sx:=Yf) hk ?_
  repeat'(first|refine wk3 ?_|(refine wk2 ?_ ?_<;>intro _)|fail)
  all_goals first
   | exact Qu ⟨(j+1,Qa Qb ((j:Int)+1)),[],rfl,kps,kps,⟨Ze (by omega),by omega,hlt⟩,by dsimp only; omega⟩
   | (exfalso; clear hk; simp_all; done)
 have hjn:j=T.length:=by omega
 subst hjn
 refine bs.av (sx:=Yf) hk ?_
 repeat'(first|refine wk3 ?_|(refine wk2 ?_ ?_<;>intro _)|fail)
 have hgd:=fun i (hi:i<T.length)=>hgood _ (Sy.2 ⟨i,Sb.2 (by rw [hTT]; exact hi),rfl⟩)
 have hRB:Zp h.cs (ox,oy)=(Si T.length).map fun i=>⟨[],(ox,oy),getV T i,getV T ((i+1)%T.length),nxtV h.cs (ox,oy) none (addV (getV T i) (getV T ((i+1)%T.length)))⟩:=by
  unfold Zp
  rw [hTT]
 have hbm:∀ i,i<T.length->∃ m:Bm,m=⟨[],(ox,oy),getV T i,getV T ((i+1)%T.length),nxtV h.cs (ox,oy) none (addV (getV T i) (getV T ((i+1)%T.length)))⟩/\GoodB h m:=fun i hi=>by
  refine ⟨_,rfl,?_⟩
  have:=hgd i hi
  rw [hTT] at this
  exact this.1
 rw [hRB]
 clear hgd hgood hRB hTT hnd lxs lx2 hbeam hvsd
 let F:Nat->Bm:=fun i=>⟨[],(ox,oy),getV T i,getV T ((i+1)%T.length),nxtV h.cs (ox,oy) none (addV (getV T i) (getV T ((i+1)%T.length)))⟩
 refine Zq (S:=Nat × Int × Nat × List (List AV)) (fun t=>T.length-t.1) (fun t=>[(2,.ptr 0 0 0),(3,.ptr 1 0 0),(5,.asl 2 0 T.length),(6,gv 3 t.1 t.2.2.1),(14,.asl 2 0 T.length),(15,I T.length),(16,I t.2.1)])
  (fun t=>gz 3 8 t.1 t.2.2.2 [(2,.row 2 (T.map wv) true true),(1,.row 2 [[I ox,I oy]] true false),(0,.row 9 [h.cells] true false)]) 3 4
  (fun t=>t.2.1=t.1/\t.1<=T.length/\t.2.2.1=t.2.2.2.length/\t.2.2.2=((Si t.1).map F).map bmA) (0,0,0,[]) ⟨rfl,Qq _,rfl,rfl⟩ (Qd _) [] rfl (kps) (kps) ?_
 rintro ⟨j,i,len,els⟩ ⟨hi,hj,hlen,hels⟩
 dsimp only at hi hj hlen hels ⊢
 subst hi
 by_cases hlt:j<T.length
 ·obtain ⟨m,em,gm⟩:=hbm j hlt
  have hq:=Vc hlt
  have hj2:(j+1)%T.length<T.length:=Tg _ (by omega)
  have hq2:=Vc hj2
  have eW:Qa Qb ((j:Int)+1)=((j+1:Nat):Int):=Ze (by omega)
  have eM:Int.tmod ((j+1:Nat):Int) (T.length:Int)=(((j+1)%T.length:Nat):Int):=by
   rw [Int.tmod_eq_emod_of_nonneg (by omega)]; omega
  have eD:decide (0<=(Qa Qb ((j:Int)+1)).tmod (T.length:Int)/\(Qa Qb ((j:Int)+1)).tmod (T.length:Int)<(T.length:Int))=true:=by
   rw [eW,eM]
   exact decide_eq_true (by omega)
  have e1:=Vj hlt
  have e2:=Vj hj2
  have hc:rBm h [] (ox,oy) (nxtV h.cs (ox,oy) (Xc [])) [h.av,wsA [],P2 ox oy,P2 m.a.1 m.a.2,P2 m.b.1 m.b.2]=some ⟨.agg (bmA m),[]⟩:=by
   obtain ⟨w,enx,KK⟩:=gm.sec
   have hLP:LP h.cs (ox,oy) (Xc []) (addV m.a m.b):=fun l q=>by cases q
   have:=Zin (h:=h) (ws:=[]) (o:=(ox,oy)) (nx:=nxtV h.cs (ox,oy) (Xc [])) (a:=m.a) (b:=m.b) ⟨gm.ga,gm.gb⟩ ⟨gm.ba,gm.bb⟩ hLP
   rw [this]
   congr 3
   rw [em]
   rfl
  have e3:((Si (j+1)).map F).map bmA=els++[bmA m]:=by
   rw [List.range_succ,Sm,Sm,<-hels]
   show els++[bmA (F j)]=_
   rw [em]
  have ea:T[j]=m.a:=by rw [em,<-hq]
  have eb:T[(j+1)%T.length]=m.b:=by rw [em,<-hq2]
  rw [ea] at e1
  rw [eb,<-eM,<-eW] at e2
  have l4:els.length<2000:=by rw [hels,Qn,Qn,List.length_range]; omega
  have hb0:wsA m.ws = .nils:=by rw [em]; rfl
  have hbA:bmA m=[.nils,I ox,I oy,I m.a.1,I m.a.2,I m.b.1,I m.b.2,I m.nx]:=by unfold bmA; rw [hb0,em]
  rw [hbA] at hc e3
  have hz1:¬ ((T.length:Int)=0):=by omega
  generalize m.nx=nx at *
  generalize hma:m.a=A at *
  generalize hmb:m.b=B at *
  obtain ⟨ax,ay⟩:=A
  obtain ⟨bx,by'⟩:=B
  dsimp only at e1 e2 hc e3
  generalize rBm h [] (ox,oy) (nxtV h.cs (ox,oy) (Xc []))=TB at *
  clear em gm hma hmb hbA hb0 hq hq2 ea eb hbm
  cases j with
  | zero =>
   have hz:els=[]:=hels
   subst hz
   refine bs.av (sx:=Yf) hk ?_
   repeat'(first|refine wk3 ?_|(refine wk2 ?_ ?_<;>intro _)|fail)
   all_goals first
    | (exfalso; exact Wz (eD.symm.trans (by assumption)))
    | exact Qu ⟨(1,_,_,[[.nils,I ox,I oy,I ax,I ay,I bx,I by',I nx]]),[(3,19)],rfl,kps,kps,⟨Ze (by omega),hlt,rfl,e3.symm⟩,by dsimp only; omega⟩
  | succ j =>
   refine bs.av (sx:=Yf) hk ?_
   repeat'(first|refine wk3 ?_|(refine wk2 ?_ ?_<;>intro _)|fail)
   all_goals first
    | (exfalso; exact Wz (eD.symm.trans (by assumption)))
    | skip
   refine Zbr (ys:=[[.nils,I ox,I oy,I ax,I ay,I bx,I by',I nx]]) rfl rfl rfl rfl rfl rfl rfl rfl rfl rfl (by simp) hlen (by simp only [Ra,Rx]; omega) ?_
   repeat'(first|refine wk3 ?_|(refine wk2 ?_ ?_<;>intro _)|fail)
   exact Qu ⟨(j+2,_,_,els++[[.nils,I ox,I oy,I ax,I ay,I bx,I by',I nx]]),[(3,19)],rfl,kps,kps,⟨Ze (by omega),hlt,by exact List.length_append.symm,e3.symm⟩,by dsimp only; omega⟩
 ·have hjn:j=T.length:=by omega
  subst hjn
  subst hels
  have hTp:∃ q,T.length=q+1:=⟨T.length-1,by omega⟩
  obtain ⟨q,hq⟩:=hTp
  have hgz:∀ els z,gz 3 8 T.length els z=(3,.row 8 els true true)::z:=fun els z=>by rw [hq]; rfl
  have hgv:∀ len,gv 3 T.length len = .asl 3 0 len:=fun len=>by rw [hq]; rfl
  rw [hgz,hgv]
  refine bs.av (sx:=Yf) hk ?_
  repeat'(first|refine wk3 ?_|(refine wk2 ?_ ?_<;>intro _)|fail)
  exact Ym [3] rfl (by rw [hlen]; rfl) rfl
def clR (ws:List Int):PRes:=match ws with
 | []=>⟨.nils,[]⟩
 | x::r=>⟨.asl 0 0 (nl (x::r)).length,[(1,nl (x::r))]⟩
theorem e120 {ws:List Int} (hl:ws.length<1000):PCall Tryz.prog 120 [wsA ws] (clR ws):=by
 cases ws with
 | nil =>
  unfold wsA clR
  refine pn Zd Tryz.func120 ?_
  repeat'(first|refine wk3 ?_|(refine wk2 ?_ ?_<;>intro _)|fail)
  exact Zg rfl rfl
 | cons x r =>
  unfold wsA clR
  have h1:=Zmz (x::r)
  have h2:=Yh (x::r)
  have h3:(x::r).length=r.length+1:=rfl
  refine pn Zd Tryz.func120 ?_
  repeat'(first|refine wk3 ?_|(refine wk2 ?_ ?_<;>intro _)|fail)
  refine Ym [1] rfl ?_ rfl
  show AV.asl 1 0 (0+(nl (x::r)).length)=AV.asl 1 0 (nl (x::r)).length
  rw [Ti]
def rBt:List AV->Option PRes
 | [.agg [.int .i64 a,.int .i64 b],.agg [.int .i64 c,.int .i64 d],.agg [.int .i64 x,.int .i64 y]]=>some ⟨Bo (btW (a,b) (c,d) (x,y)),[]⟩
 | _=>none
theorem Yab {pt:PC} (h:PCOK Tryz.prog pt):PCOK Tryz.prog (ins 54 rBt pt):=Zk (fun a res h=>by unfold rBt at h; split at h<;>cases h; exact d92b (_,_) (_,_) (_,_)) h
theorem Ybb {a b x:V} (ha:Vb a) (hb:Vb b) (hx:Vb x) (hab:0<Rq a b):btW a b x=(decide (0<Rq a x)&&decide (0<Rq x b)):=by
 unfold btW
 rw [(Zoa ha hb).1,(Zoa ha hx).1,(Zoa hx hb).1,decide_eq_true hab,Wt]
noncomputable abbrev rMv (h:Hal) (w:Nat):List AV->Option PRes:=famA (fun v:V=>Vb v) (fun v=>[h.av,I w,P2 v.1 v.2]) (fun v=>⟨P2 (imgV h.cs w v).1 (imgV h.cs w v).2,[]⟩)
theorem Zuw {h:Hal} {w:Nat} {v:V} (hv:Vb v):rMv h w [h.av,I w,P2 v.1 v.2]=some ⟨P2 (imgV h.cs w v).1 (imgV h.cs w v).2,[]⟩ :=
 Ye (p:=fun v:V=>Vb v) (g:=fun v=>[h.av,I w,P2 v.1 v.2]) (r:=fun v=>⟨P2 (imgV h.cs w v).1 (imgV h.cs w v).2,[]⟩) (k:=v) (fun j hj=>by
  simp only [Rp,Wa,Pr,true_and,and_true] at hj
  rw [show j=v from Wh hj.1 hj.2]) hv
theorem Yd8 {h:Hal} (hf:h.few) (g:h.fine) {w:Nat} (hw:w<h.cs.length) {pt:PC} (hp:PCOK Tryz.prog pt):PCOK Tryz.prog (ins 82 (rMv h w) pt):=Yo (fun v hv=>by
 obtain ⟨n,hs⟩:=Zk2 g hw
 exact e82 hf hw hs (x:=v.1) (y:=v.2) (by have:=hv.1; unfold sm6; omega) (by have:=hv.2; unfold sm6; omega)) hp
theorem e81i {h:Hal} (hf:h.few) (g:h.fine) {w:Nat} (hw:w<h.cs.length) {o:V} (ho:OB o):PCall Tryz.prog 81 [h.av,I w,P2 o.1 o.2] ⟨P2 (imgO h.cs w o).1 (imgO h.cs w o).2,[]⟩:=by
 obtain ⟨n,hs⟩:=Zk2 g hw
 exact e81 hf hw hs ho.x ho.y
abbrev Ts (lo hi:V):={v:V // g1 v/\Vb v/\inS lo hi v}
theorem Zl5 {lo hi:V} (hp:0<Rq lo hi):Go.Sort.SWO (Qbf (fun a b:Ts lo hi=>-(Rq a.1 b.1))):=by
 refine ⟨fun x=>?_,fun x y z h1 h2=>?_,fun x y z h1 h2=>?_⟩
 ·simp only [ltOf,decide_eq_false_iff_not]
  rw [Zj]; omega
 ·simp only [ltOf,decide_eq_true_eq] at *
  have:=Zvt hp x.2.2.2 y.2.2.2 z.2.2.2 x.2.1 y.2.1 z.2.1 (by omega) (by omega)
  omega
 ·simp only [ltOf,decide_eq_false_iff_not] at *
  intro h3
  rcases Zlt hp x.2.2.2 y.2.2.2 x.2.1 y.2.1 with q|q|q
  ·exact h1 (by omega)
  ·exact h2 (q ▸ h3)
  ·rcases Zlt hp y.2.2.2 z.2.2.2 y.2.1 z.2.1 with w|w|w
   ·exact h2 (by omega)
   ·exact h1 (w ▸ h3)
   ·have:=Zvt hp z.2.2.2 y.2.2.2 x.2.2.2 z.2.1 y.2.1 x.2.1 w q
    rw [Zh] at this
    omega
theorem Ydy {h:Hal} (g:h.fine) {m:Bm} {w:Nat} {o lo hi:V} (B:BehOk h m w o lo hi) {ys:List (Ts lo hi)} (hp:(ys.map Lr).Perm (lo::hi::(btwL h.cs o w lo hi).map red)) (hs:ys.Pairwise (fun a b=>¬ -(Rq b.1 a.1)<0)):ys.map Lr=tB h.cs o w lo hi:=by
 obtain ⟨s1,s2,_,_⟩:=Zft g B
 have hL:∀ l,some w=some l->l<h.cs.length:=fun l q=>by cases q; exact B.wl
 have hm:=fun v=>Zas g B.ob (L:=some w) hL (w:=v)
 have hbt:∀ v,v∈btwL h.cs o w lo hi↔v∈Vn h.cs o (some w)/\0<Rq lo v/\0<Rq v hi:=fun v=>by
  unfold btwL
  rw [Ot,Qc,decide_eq_true_eq,decide_eq_true_eq]
 have hne:∀ v∈btwL h.cs o w lo hi,v≠(0,0):=fun v hv=>by
  obtain ⟨j,_,_,h3,_⟩:=(hm v).1 ((hbt v).1 hv).1
  exact h3
 have hin:∀ v∈btwL h.cs o w lo hi,0<Rq lo (red v)/\0<Rq (red v) hi:=fun v hv=>⟨(Uk (hne v hv)).2.2 ((hbt v).1 hv).2.1,(Uk (hne v hv)).1.2 ((hbt v).1 hv).2.2⟩
 have nd0:(Vn h.cs o (some w)).Nodup:=by
  unfold Vn Kn
  rw [Nl]
  have:=Ku (fun p=>!decide (p=o)&&visB h.cs o (some w) p) (Zrz g)
  refine Jz (fun {a b} hab q=>hab ?_) this
  unfold toW at q
  rw [Rj] at q
  exact Wh (by omega) (by omega)
 have nd:(lo::hi::(btwL h.cs o w lo hi).map red).Nodup:=by
  have pos:=B.pos
  refine Gj.2 ⟨?_,Gj.2 ⟨?_,?_⟩⟩
  ·intro q
   rcases Qx.1 q with q|q
   ·rw [<-q,Zj] at pos; omega
   ·obtain ⟨v,hv,e⟩:=Sy.1 q
    have:=(hin v hv).1
    rw [e,Zj] at this
    omega
  ·intro q
   obtain ⟨v,hv,e⟩:=Sy.1 q
   have:=(hin v hv).2
   rw [e,Zj] at this
   omega
  ·unfold Kn
   rw [Nl]
   have nd1:(btwL h.cs o w lo hi).Nodup:=Ku _ nd0
   refine Hh (fun {a b} ha hb hab q=>hab ?_) nd1
   obtain ⟨a0,a1,a2⟩:=(hbt a).1 ha
   obtain ⟨b0,b1,b2⟩:=(hbt b).1 hb
   obtain ⟨i,hi',rfl,h1,_,h2⟩:=(hm a).1 a0
   obtain ⟨j,hj',rfl,h3,_,h4⟩:=(hm b).1 b0
   exact Zj8 g (fun v=>0<Rq lo v/\0<Rq v hi) (fun k' _ hP _=>B.lk _ hP.1 hP.2) hi' hj' ⟨a1,a2⟩ ⟨b1,b2⟩ h1 h3 h2 h4 q
 have nd2:(ys.map Lr).Nodup:=hp.nodup_iff.2 nd
 refine Zk6 (R:=fun a b=>0<Rq a b) (fun x y h1 h2=>by rw [Zh] at h2; omega) ?_ s1 (fun x=>?_)
 ·unfold Srt
  unfold Kn at nd2
  rw [Nl] at nd2 ⊢
  refine (Gq.2 ⟨hs,nd2⟩).imp (fun {a b} hab=>?_)
  obtain ⟨h1,h2⟩:=hab
  rcases Zlt B.pos a.2.2.2 b.2.2.2 a.2.1 b.2.1 with q|q|q
  ·exact q
  ·exact absurd q h2
  ·exact absurd (by omega) h1
 ·rw [hp.mem_iff]
  unfold tB
  rw [Qx,Qx,Qx,Sc,Wc,s2,Sy]
  constructor
  ·rintro (q|q|⟨v,hv,e⟩)
   ·exact .inl q
   ·exact .inr (.inr q)
   ·exact .inr (.inl ⟨v,hv,e.symm⟩)
  ·rintro (q|⟨v,hv,e⟩|q)
   ·exact .inl q
   ·exact .inr (.inr ⟨v,hv,e.symm⟩)
   ·exact .inr (.inl q)
end Go.Proofs.YtanbhfpalahjcaaGreat
