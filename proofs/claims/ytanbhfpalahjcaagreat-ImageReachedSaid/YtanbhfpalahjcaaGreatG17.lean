/- A part of the proof: lemmas. -/
import Derived.Test.YtanbhfpalahjcaaGreatG16
import Derived.Test.YtanbhfpalahjcaaGreatG8
import Derived.Test.YtanbhfpalahjcaaGreatG7
import Derived.Test.YtanbhfpalahjcaaGreatG14
import Derived.Test.YtanbhfpalahjcaaGreatG11
set_option linter.unusedVariables false
set_option linter.unusedSimpArgs false
set_option maxRecDepth 100000
set_option maxHeartbeats 16000000
open Bool renaming and_eq_true->Qc,and_true->Oq,eq_false_iff->Qx,eq_iff_iff->Sc,false_and->Nm,noConfusion->Me,true_and->Tv
open Go.Ge renaming cr->Si,ins->Kl
open Go.IntKind renaming i64->Qb,wrap->Qa
open Go.Sx.AV renaming asl->Fu
open Go.Sx.AV.agg renaming injEq->Pj
open Go.Sx.AV.int renaming injEq->Tt
open Go.Sx.Done renaming mk->Qr
open Go.Sx.LpM renaming start->Mc,succ->Wt
open Go.Sx.PCall renaming freeze->Nw,nilArgs->Ou
open Int renaming one_mul->Sj,toNat_natCast->Ri
open List renaming append_assoc->Wm,append_nil->Pv,cons_append->Ok,drop->Wq,drop_eq_getElem_cons->Ql,drop_of_length_le->Qo,drop_zero->Tz,filter_append->Hc,filter_cons->Ld,filter_nil->Fb,flatMap_append->Od,flatMap_cons->Nx,foldl_append->Hu,foldl_map->Qbv,getElem?_eq_getElem->Qe,getElem?_map->Rr,getElem?_set_ne->Mt,getElem_mem->Qn,length->Oa,length_append->Rb,length_cons->Qz,length_eq_zero_iff->Se,length_map->Qj,length_nil->Rh,length_range->Tf,map_append->Rm,map_cons->Ss,map_set->Jt,mem_append->Sh,mem_map->Ta,mem_range->Rx,mem_singleton->Tm,range->Rv,range_succ->Na,take->Wp,take_length->Tl,take_of_length_le->Sz,take_succ_eq_append_getElem->Qu
open List.cons renaming injEq->Rd
open Nat renaming le_of_ble_eq_true->Qm,le_refl->Qd,zero_add->Sk,zero_le->Qp
open Option.some renaming inj->Sr
open Prod renaming ext->Tk
namespace Go.Proofs.YtanbhfpalahjcaaGreat
open Go Go.Sx Go.Ge
def toP (cs:List (Int × Int)) (o:V) (j:Nat):List V:=((cs.take j).filter (fun p=>rsB cs o none p)).foldl (fun l p=>Kl snB l (red (toW o p))) []
theorem Zrj {cs:List (Int × Int)} {o:V} {j:Nat} (hj:j<cs.length):toP cs o (j+1)=if rsB cs o none cs[j]=true then Kl snB (toP cs o j) (red (toW o cs[j])) else toP cs o j:=by
 unfold toP
 rw [Qu hj,Hc,Ld,Fb]
 cases rsB cs o none cs[j]<;>simp [Hu]
theorem Zu8 (cs:List (Int × Int)) (o:V):toP cs o cs.length=tO cs o:=by
 unfold toP tO Vl rsB
 rw [Tl,Qbv]
def inP (cs:List (Int × Int)) (o:V) (w:Nat) (lo hi:V) (j:Nat):List V:=((cs.take j).filter (fun p=>(decide (0<Si lo (toW o p))&&decide (0<Si (toW o p) hi))&&rsB cs o (some w) p)).foldl (fun l p=>Kl crB l (red (toW o p))) []
theorem Zsm {cs:List (Int × Int)} {o lo hi:V} {w j:Nat} (hj:j<cs.length):inP cs o w lo hi (j+1)=if ((decide (0<Si lo (toW o cs[j]))&&decide (0<Si (toW o cs[j]) hi))&&rsB cs o (some w) cs[j])=true then Kl crB (inP cs o w lo hi j) (red (toW o cs[j])) else inP cs o w lo hi j:=by
 unfold inP
 rw [Qu hj,Hc,Ld,Fb]
 cases ((decide (0<Si lo (toW o cs[j]))&&decide (0<Si (toW o cs[j]) hi))&&rsB cs o (some w) cs[j])<;>simp [Hu]
theorem Yek (cs:List (Int × Int)) (o:V) (w:Nat) (lo hi:V):inP cs o w lo hi cs.length=innT cs o w lo hi:=by
 unfold inP innT btwL Vl rsB
 rw [Tl,List.filter_map,List.filter_filter,Qbv]
 rfl
theorem Zw2 {P:V->Prop} (R:V->V->Bool) {l:List V} {t:V} (hl:∀ x∈l,P x) (ht:P t):∀ x∈Kl R l t,P x:=fun x hx=>by
 rcases (Zqe R l t x).1 hx with rfl|q
 ·exact ht
 ·exact hl x q
theorem Zr1 {h:Hal} (g:h.fine) {o:V} (ho:OB o) {p:V} (hp:p∈h.cs) (hz:toW o p≠(0,0)):(-50000<=(red (toW o p)).1/\(red (toW o p)).1<=50000)/\(-50000<=(red (toW o p)).2/\(red (toW o p)).2<=50000):=by
 have b:=Zc2 g ho hp
 exact Zhx hz b.1 b.2
theorem Zrw {cs:List (Int × Int)} {o p:V} {L:Option Nat} (h:rsB cs o L p=true):toW o p≠(0,0):=by
 unfold rsB at h
 simp only [Qc,Bool.not_eq_true',decide_eq_false_iff_not] at h
 exact fun q=>h.1 (toW_zero.1 q)
theorem Ya7 {h:Hal} (g:h.fine) {o:V} (ho:OB o):∀ j,j<=h.cs.length->(∀ x∈toP h.cs o j,(-50000<=x.1/\x.1<=50000)/\(-50000<=x.2/\x.2<=50000))/\(toP h.cs o j).length<=j
 | 0,_=>⟨fun x hx=>(by cases hx),Qd _⟩
 | j+1,hj=>by
  obtain ⟨a1,a2⟩:=Ya7 g ho j (by omega)
  rw [Zrj hj]
  split
  ·rename_i q
   refine ⟨Zw2 snB a1 (Zr1 g ho (Qn hj) (Zrw q)),?_⟩
   have:=Zqf snB (toP h.cs o j) (red (toW o h.cs[j]))
   omega
  ·exact ⟨a1,by omega⟩
theorem Yce {h:Hal} (g:h.fine) {o:V} (ho:OB o) (w:Nat) (lo hi:V):∀ j,j<=h.cs.length->(∀ x∈inP h.cs o w lo hi j,(-50000<=x.1/\x.1<=50000)/\(-50000<=x.2/\x.2<=50000))/\(inP h.cs o w lo hi j).length<=j
 | 0,_=>⟨fun x hx=>(by cases hx),Qd _⟩
 | j+1,hj=>by
  obtain ⟨a1,a2⟩:=Yce g ho w lo hi j (by omega)
  rw [Zsm hj]
  split
  ·rename_i q
   rw [Qc] at q
   refine ⟨Zw2 crB a1 (Zr1 g ho (Qn hj) (Zrw q.2)),?_⟩
   have:=Zqf crB (inP h.cs o w lo hi j) (red (toW o h.cs[j]))
   omega
  ·exact ⟨a1,by omega⟩
def behN (cs:List (Int × Int)) (n:Nat) (m:Bm):List Bm:=if m.ws.length<n then behB cs m else []
theorem Zhg {α β:Type} {f g:α->List β}:∀ {l:List α},(∀ x∈l,f x=g x)->l.flatMap f=l.flatMap g
 | [],_=>rfl
 | a::l,h=>by rw [Nx,Nx,h a (by simp),Zhg fun x hx=>h x (by simp [hx])]
theorem Zp6 {h:Hal} (g:h.fine) {o:V} (k:InSrc h o) {n:Nat} (hn:n<=4):∀ j,j<n->outB h.cs o (j+1)=Zu h.cs o++(outB h.cs o j).flatMap (behN h.cs n)
 | 0,hj=>by
  show Zu h.cs o++(Zu h.cs o).flatMap (behB h.cs)=Zu h.cs o++(Zu h.cs o).flatMap (behN h.cs n)
  congr 1
  refine Zhg fun m hm=>?_
  have:=(Zad g k 0 (by omega) m hm).2
  unfold behN
  rw [if_pos (by omega)]
 | j+1,hj=>by
  have ih:=Zp6 g k hn j (by omega)
  show outB h.cs o (j+1)++(levB h.cs o (j+1)).flatMap (behB h.cs)=Zu h.cs o++(outB h.cs o j++levB h.cs o (j+1)).flatMap (behN h.cs n)
  rw [Od,<-Wm,<-ih]
  congr 1
  refine Zhg fun m hm=>?_
  have:=(Zad g k (j+1) (by omega) m hm).2
  unfold behN
  rw [if_pos (by omega)]
theorem Zz1 {h:Hal} (g:h.fine) {o:V} (k:InSrc h o) {n:Nat} (hn:n<=4):outB h.cs o n=Zu h.cs o++(outB h.cs o n).flatMap (behN h.cs n):=by
 have hz:∀ m∈levB h.cs o n,behN h.cs n m=[]:=fun m hm=>by
  have:=(Zad g k n hn m hm).2
  unfold behN
  rw [if_neg (by omega)]
 have hz2:(levB h.cs o n).flatMap (behN h.cs n)=[]:=List.flatMap_eq_nil_iff.2 hz
 cases n with
 | zero =>
  show Zu h.cs o=Zu h.cs o++(levB h.cs o 0).flatMap _
  rw [hz2,Pv]
 | succ j =>
  have:=Zp6 g k hn j (by omega)
  show outB h.cs o (j+1)=Zu h.cs o++(outB h.cs o j++levB h.cs o (j+1)).flatMap _
  rw [Od,hz2,Pv,<-this]
def quB (cs:List (Int × Int)) (o:V) (n i:Nat):List Bm:=Zu cs o++((outB cs o n).take i).flatMap (behN cs n)
theorem Zp4 {h:Hal} (g:h.fine) {o:V} (k:InSrc h o) {n:Nat} (hn:n<=4) (i:Nat):∃ X,outB h.cs o n=quB h.cs o n i++X:=by
 refine ⟨((outB h.cs o n).drop i).flatMap (behN h.cs n),?_⟩
 unfold quB
 rw [Wm,<-Od,List.take_append_drop]
 exact Zz1 g k hn
theorem Ydr {h:Hal} (g:h.fine) {o:V} (k:InSrc h o) {n:Nat} (hn:n<=4) {i:Nat} (hi:i<(quB h.cs o n i).length):∃ hl:i<(outB h.cs o n).length,(quB h.cs o n i)[i]=(outB h.cs o n)[i]/\quB h.cs o n (i+1)=quB h.cs o n i++behN h.cs n (outB h.cs o n)[i]:=by
 obtain ⟨X,e⟩:=Zp4 g k hn i
 have hl:i<(outB h.cs o n).length:=by rw [e,Rb]; omega
 refine ⟨hl,?_,?_⟩
 ·have h1:(outB h.cs o n)[i]?=(quB h.cs o n i)[i]?:=by
   rw [e,List.getElem?_append_left hi]
  rw [Qe hl,Qe hi] at h1
  exact (Sr h1).symm
 ·unfold quB
  rw [Qu hl,Od,Wm]
  simp
theorem Yds {h:Hal} (g:h.fine) {o:V} (k:InSrc h o) {n:Nat} (hn:n<=4) {i:Nat} (hi:(quB h.cs o n i).length<=i) (hle:i<=(quB h.cs o n i).length):quB h.cs o n i=outB h.cs o n:=by
 obtain ⟨X,e⟩:=Zp4 g k hn i
 have e1:(outB h.cs o n).take i=quB h.cs o n i:=by
  rw [e,List.take_append_of_le_length hle,Sz hi]
 have e2:quB h.cs o n i=Zu h.cs o++(quB h.cs o n i).flatMap (behN h.cs n):=by
  conv=>lhs; unfold quB
  rw [e1]
 generalize quB h.cs o n i=P at *
 have key:∀ j,j<=n->∃ Y,P=outB h.cs o j++Y:=by
  intro j
  induction j with
  | zero=>intro _; exact ⟨_,e2⟩
  | succ j ih =>
   intro hj
   obtain ⟨Y,eY⟩:=ih (by omega)
   refine ⟨Y.flatMap (behN h.cs n),?_⟩
   rw [Zp6 g k hn j (by omega),Wm,<-Od,<-eY]
   exact e2
 obtain ⟨Y,eY⟩:=key n (Qd _)
 have hl1:=congrArg Oa e
 have hl2:=congrArg Oa eY
 rw [Rb] at hl1 hl2
 have hX:X=[]:=Se.1 (by omega)
 rw [hX,Pv] at e
 exact e.symm
theorem Yf9 {h:Hal} (g:h.fine) {o:V} (k:InSrc h o) {n:Nat} (hn:n<=4) (i:Nat):(quB h.cs o n i).length<=(outB h.cs o n).length:=by
 obtain ⟨X,e⟩:=Zp4 g k hn i
 rw [e,Rb]
 omega
def cAt (cs:List (Int × Int)) (k:Nat):V:=cs.getD k (0,0)
theorem Ycw {cs:List (Int × Int)} {k:Nat} (h:k<cs.length):cAt cs k=cs[k]:=by unfold cAt; rw [List.getD_eq_getElem?_getD,Qe h]; rfl
noncomputable abbrev rSn (h:Hal) (o:V) (L:Option Nat):List AV->Option PRes:=famA (fun k:Nat=>k<h.cs.length/\(toW o (cAt h.cs k)≠(0,0)->Bef h o L (toW o (cAt h.cs k)))) (fun k=>[h.av,P2 o.1 o.2,I (laI L),I k]) (fun k=>⟨Bo (rsB h.cs o L (cAt h.cs k)),[]⟩)
theorem Zvy {h:Hal} {o:V} {L:Option Nat} {k:Nat} (hk:k<h.cs.length) (B:toW o h.cs[k]≠(0,0)->Bef h o L (toW o h.cs[k])):rSn h o L [h.av,P2 o.1 o.2,I (laI L),I k]=some ⟨Bo (rsB h.cs o L h.cs[k]),[]⟩:=by
 rw [<-Ycw hk] at B ⊢
 exact Zl (p:=fun k:Nat=>k<h.cs.length/\(toW o (cAt h.cs k)≠(0,0)->Bef h o L (toW o (cAt h.cs k)))) (g:=fun k=>[h.av,P2 o.1 o.2,I (laI L),I k]) (r:=fun k=>⟨Bo (rsB h.cs o L (cAt h.cs k)),[]⟩) (k:=k) (fun j hj=>by
  simp only [Rd,Tt,true_and,and_true] at hj
  rw [Int.ofNat.inj hj]) ⟨hk,B⟩
theorem Ybo {h:Hal} (hf:h.few) (g:h.fine) {o:V} (ho:OB o) {L:Option Nat} (hL:∀ l,L=some l->l<h.cs.length) {pt:PC} (hp:PCOK Tryz.prog pt):PCOK Tryz.prog (ins 93 (rSn h o L) pt):=Zn (fun k hk=>by
 obtain ⟨h1,h2⟩:=hk
 rw [Ycw h1] at h2 ⊢
 exact e93 hf g ho hL h1 h2) hp
noncomputable abbrev rTn:List AV->Option PRes:=famA (fun w:V=>w≠(0,0)/\Vb w) (fun w=>[I w.1,I w.2]) (fun w=>⟨P2 (red w).1 (red w).2,[]⟩)
theorem Zp2 {w:V} (hw:w≠(0,0)) (hb:Vb w):rTn [I w.1,I w.2]=some ⟨P2 (red w).1 (red w).2,[]⟩ :=
 Zl (p:=fun w:V=>w≠(0,0)/\Vb w) (g:=fun w=>[I w.1,I w.2]) (r:=fun w=>⟨P2 (red w).1 (red w).2,[]⟩) (k:=w) (fun j hj=>by
  simp only [Rd,Tt,true_and,and_true] at hj
  rw [show j=w from Tk hj.1 hj.2]) ⟨hw,hb⟩
theorem Zvw {pt:PC} (h:PCOK Tryz.prog pt):PCOK Tryz.prog (ins 95 rTn pt):=Zn (fun w hw=>by
 obtain ⟨e1,e2⟩:=Zu7 hw.1 hw.2
 have:=d90 (Zsn hw.2.1) (Zsn hw.2.2) e2
 rw [e1] at this
 exact this) h
def soB (rd:Bool) (a b:V):Bool:=if rd=true then snB a b else crB a b
noncomputable abbrev rSo:List AV->Option PRes:=famA (fun q:(V × V) × Bool=>Vb q.1.1/\Vb q.1.2) (fun q=>[P2 q.1.1.1 q.1.1.2,P2 q.1.2.1 q.1.2.2,Bo q.2]) (fun q=>⟨Bo (soB q.2 q.1.1 q.1.2),[]⟩)
theorem Zvx {a b:V} (ha:Vb a) (hb:Vb b) (rd:Bool):rSo [P2 a.1 a.2,P2 b.1 b.2,Bo rd]=some ⟨Bo (soB rd a b),[]⟩ :=
 Zl (p:=fun q:(V × V) × Bool=>Vb q.1.1/\Vb q.1.2) (g:=fun q=>[P2 q.1.1.1 q.1.1.2,P2 q.1.2.1 q.1.2.2,Bo q.2]) (r:=fun q=>⟨Bo (soB q.2 q.1.1 q.1.2),[]⟩) (k:=((a,b),rd)) (fun j hj=>by
  simp only [Rd,Tt,AV.bool.injEq,Pj,true_and,and_true] at hj
  rw [show j=((a,b),rd) from Tk (Tk (Tk hj.1.1 hj.1.2) (Tk hj.2.1.1 hj.2.1.2)) hj.2.2]) ⟨ha,hb⟩
theorem Ybn {pt:PC} (h:PCOK Tryz.prog pt):PCOK Tryz.prog (ins 176 rSo pt):=Zn (fun q hq=>e176 hq.1 hq.2 q.2) h
def B5 (v:V):Prop:=(-50000<=v.1/\v.1<=50000)/\(-50000<=v.2/\v.2<=50000)
noncomputable abbrev rNz (h:Hal) (o:V) (L:Option Nat):List AV->Option PRes:=famA (fun q:V × V=>(B5 q.1/\B5 q.2)/\LP h.cs o L (addV q.1 q.2)/\∃ c,bstV h.cs o (addV q.1 q.2) L=some c) (fun q=>[h.av,P2 o.1 o.2,I (laI L),P2 q.1.1 q.1.2,P2 q.2.1 q.2.2]) (fun q=>⟨I (nxtV h.cs o L (addV q.1 q.2)),[]⟩)
theorem Zvz {h:Hal} {o:V} {L:Option Nat} {a b:V} (ba:B5 a) (bb:B5 b) (hp:LP h.cs o L (addV a b)) (hc:∃ c,bstV h.cs o (addV a b) L=some c):rNz h o L [h.av,P2 o.1 o.2,I (laI L),P2 a.1 a.2,P2 b.1 b.2]=some ⟨I (nxtV h.cs o L (addV a b)),[]⟩ :=
 Zl (p:=fun q:V × V=>(B5 q.1/\B5 q.2)/\LP h.cs o L (addV q.1 q.2)/\∃ c,bstV h.cs o (addV q.1 q.2) L=some c) (g:=fun q=>[h.av,P2 o.1 o.2,I (laI L),P2 q.1.1 q.1.2,P2 q.2.1 q.2.2]) (r:=fun q=>⟨I (nxtV h.cs o L (addV q.1 q.2)),[]⟩) (k:=(a,b)) (fun j hj=>by
  simp only [Rd,Tt,Pj,true_and,and_true] at hj
  rw [show j=(a,b) from Tk (Tk hj.1.1 hj.1.2) (Tk hj.2.1 hj.2.2)]) ⟨⟨ba,bb⟩,hp,hc⟩
theorem Ybp {h:Hal} (hf:h.few) (g:h.fine) {o:V} (ho:OB o) {L:Option Nat} {pt:PC} (hp:PCOK Tryz.prog pt):PCOK Tryz.prog (ins 96 (rNz h o L) pt):=Zn (fun q hq=>by
 obtain ⟨⟨h1,h2⟩,h3,c,h4⟩:=hq
 exact e96 hf g ho h1 h2 h3 h4) hp
theorem Zxl {h:Hal} (g:h.fine) {m:Bm} (G:GoodB h m):LP h.cs m.o (Zw m.ws) (addV m.a m.b)/\(∃ c,bstV h.cs m.o (addV m.a m.b) (Zw m.ws)=some c)/\nxtV h.cs m.o (Zw m.ws) (addV m.a m.b)=m.nx:=by
 obtain ⟨w,env,K⟩:=G.sec
 have hab:=K.ab
 have d1:0<Si m.a (addV m.a m.b):=by rw [Vt,Xn,Zj]; omega
 have d2:0<Si (addV m.a m.b) m.b:=by rw [Vt,Yr,Zj]; omega
 have hlp:LP h.cs m.o (Zw m.ws) (addV m.a m.b):=fun l q=>by
  obtain ⟨q1,t,q2,q3⟩:=K.lp l q
  exact ⟨q1,t,q2,(q3 _ d1 d2).n⟩
 obtain ⟨s,f⟩:=K.ft _ d1 d2
 obtain ⟨c,e1,_⟩:=Zxo g hlp f
 exact ⟨hlp,⟨c,e1⟩,by rw [env]; exact Zwh g K⟩
def ins1:FuncId->Bool:=fun f=>Nat.beq f 94
theorem e58 {h:Hal} (hf:h.few) (g:h.fine) {o:V} (k0:InSrc h o):PCall Tryz.prog 58 [h.av,P2 o.1 o.2] ⟨.asl 0 0 ((Zu h.cs o).map bmA).length,[(8,(Zu h.cs o).map bmA)]⟩:=by
 have ho:=k0.ob
 have hL:∀ l,(none:Option Nat)=some l->l<h.cs.length:=fun l q=>by cases q
 have hk:=Ybo hf g ho hL (Zvw (Ybn (Ybp hf g ho (L:=none) Ze)))
 have l12:h.cs.length<=12:=by have:=g.le; omega
 have hsn:=fun k (hk:k<h.cs.length)=>Zvy (o:=o) (L:=none) hk (fun _=>k0.bef g _)
 have htp:=fun j (hj:j<=h.cs.length)=>Ya7 g ho j hj
 have hbd:=fun k (hk:k<h.cs.length)=>Zc2 g ho (Qn hk)
 have len:(h.cs.map pt).length=h.cs.length:=by simp
 have hst:=fun j (hj:j<h.cs.length)=>Zrj (cs:=h.cs) (o:=o) hj
 have hrv:=fun k (hk:k<h.cs.length)=>Zr1 g ho (Qn hk)
 have hla:laI none = -1:=rfl
 rw [hla] at hsn
 obtain ⟨ox,oy⟩:=o
 dsimp only at *
 generalize hTS:rSn h (ox,oy) none=TS at *
 generalize hTN:rNz h (ox,oy) none=TN at *
 refine bs.pvT (sx:=ins1) hk Tryz.func58 (by kernel_rfl) (by kernel_rfl) rfl ?_
 repeat'(first|refine wk3 ?_|(refine wk2 ?_ ?_<;>intro _)|fail)
 refine Zm (S:=Nat × Nat × Int × Nat × List (List AV)) (fun t=>h.cs.length-t.2.1) (fun t=>[(2,.ptr 0 0 0),(3,.ptr 1 0 0),(5,gv 2 t.1 t.2.2.2.1),(6,I t.2.2.1)])
  (fun t=>gz 2 2 t.1 t.2.2.2.2 [(1,.row 2 [[I ox,I oy]] true false),(0,.row 9 [h.cells] true false)]) 2 3
  (fun t=>t.1=t.2.2.2.2.length/\t.2.2.1=t.2.1/\t.2.1<=h.cs.length/\t.2.2.2.1=t.2.2.2.2.length/\t.2.2.2.2=(toP h.cs (ox,oy) t.2.1).map wv) (0,0,0,0,[]) ⟨rfl,rfl,Qp _,rfl,rfl⟩ (Qd _) [] rfl (kps) (kps) ?_
 rintro ⟨k,j,i,ln,els⟩ ⟨hkl,hi,hj,hln,hels⟩
 dsimp only at hkl hi hj hln hels ⊢
 subst hi
 by_cases hlt:j<h.cs.length
 ·have hs:=hsn j hlt
  have hT:=htp j hj
  have hS:=hst j hlt
  have hb:=hbd j hlt
  have hne:=Zrw (cs:=h.cs) (o:=(ox,oy)) (p:=h.cs[j]) (L:=none)
  have hvb:=hrv j hlt
  have e1:(h.cs.map pt)[((j:Nat):Int).toNat]?=some (pt h.cs[j]):=by simp [hlt]
  have lel:els.length=(toP h.cs (ox,oy) j).length:=by rw [hels,Qj]
  generalize rsB h.cs (ox,oy) none h.cs[j]=b at *
  cases b with
  | false =>
   rw [if_neg (by decide)] at hS
   rw [<-hS] at hels
   cases k with
   | zero =>
    refine bs.avT (sx:=ins1) hk ?_
    repeat'(first|refine wk3 ?_|(refine wk2 ?_ ?_<;>intro _)|fail)
    all_goals first|exact Qr ⟨(0,j+1,_,ln,els),[],rfl,kps,kps,⟨hkl,Zb (by omega),hlt,hln,hels⟩,by dsimp only; omega⟩|(exfalso; clear hsn hst; simp_all; done)
   | succ k =>
    refine bs.avT (sx:=ins1) hk ?_
    repeat'(first|refine wk3 ?_|(refine wk2 ?_ ?_<;>intro _)|fail)
    all_goals first|exact Qr ⟨(k+1,j+1,_,ln,els),[(2,2)],rfl,kps,kps,⟨hkl,Zb (by omega),hlt,hln,hels⟩,by dsimp only; omega⟩|(exfalso; clear hsn hst; simp_all; done)
  | true =>
   have hne:=hne rfl
   rw [if_pos rfl] at hS
   have hvb2:=hvb hne
   have ht:=Zp2 hne (Zav hb)
   have ew1:(toW (ox,oy) h.cs[j]).1=Qa Qb (h.cs[j].1-ox):=by
    unfold toW at hb ⊢
    dsimp only at hb ⊢
    rw [W_eq (by omega) (by omega)]
   have ew2:(toW (ox,oy) h.cs[j]).2=Qa Qb (h.cs[j].2-oy):=by
    unfold toW at hb ⊢
    dsimp only at hb ⊢
    rw [W_eq (by omega) (by omega)]
   rw [ew1,ew2] at ht
   generalize red (toW (ox,oy) h.cs[j])=u at *
   generalize hp:h.cs[j]=p at *
   generalize toP h.cs (ox,oy) j=T at *
   obtain ⟨ux,uy⟩:=u
   obtain ⟨p1,p2⟩:=p
   dsimp only at e1 ht
   have lT:T.length<=12:=by have:=hT.2; omega
   have hb5:Vb (ux,uy):=Zav hvb2
   have hTb:∀ x∈T,Vb x:=fun x hx=>Zav (hT.1 x hx)
   clear hsn htp hbd hst hrv
   cases k with
   | zero =>
    have hz:els=[]:=Se.1 hkl.symm
    have hTz:T=[]:=by
     have:T.length=0:=by omega
     exact Se.1 this
    subst hz
    subst hTz
    have hS:toP h.cs (ox,oy) (j+1)=[(ux,uy)]:=hS
    refine bs.avT (sx:=ins1) hk ?_
    repeat'(first|refine wk3 ?_|(refine wk2 ?_ ?_<;>intro _)|fail)
    refine bs.sv (sx:=ins1) hk Tryz.func94 (by kernel_rfl) (by kernel_rfl) ?_
    unfold Zbq
    conv=>whnf
    repeat'(first|refine wk3 ?_|(refine wk2 ?_ ?_<;>intro _)|fail)
    refine Mc 1 (Wt (bs.av (sx:=ins1) hk ?_))
    repeat'(first|refine wk3 ?_|(refine wk2 ?_ ?_<;>intro _)|fail)
    refine Mc 1 (Wt (bs.av (sx:=ins1) hk ?_))
    repeat'(first|refine wk3 ?_|(refine wk2 ?_ ?_<;>intro _)|fail)
    exact Qr ⟨(1,j+1,_,1,[wv (ux,uy)]),[(2,25)],rfl,kps,kps,⟨rfl,Zb (by omega),hlt,rfl,by rw [hS]; rfl⟩,by dsimp only; omega⟩
   | succ k =>
    have h2000:els.length<2000:=by omega
    refine bs.avT (sx:=ins1) hk ?_
    repeat'(first|refine wk3 ?_|(refine wk2 ?_ ?_<;>intro _)|fail)
    refine bs.sv (sx:=ins1) hk Tryz.func94 (by kernel_rfl) (by kernel_rfl) ?_
    unfold Zbq
    conv=>whnf
    repeat'(first|refine wk3 ?_|(refine wk2 ?_ ?_<;>intro _)|fail)
    refine Zm (S:=Nat × Int) (fun t=>T.length-t.1) (fun t=>[(0,.asl 2 0 ln),(2,Bo true),(4,.ptr 23 0 0),(7,I t.2)]) (fun _=>[(23,.row 2 [[I ux,I uy]] true false),(2,.row 2 els true true),(1,.row 2 [[I ox,I oy]] true false),(0,.row 9 [h.cells] true false)]) 24 24
     (fun t=>t.2=t.1/\t.1<=T.length/\(ux,uy)∉T.take t.1) (0,0) ⟨rfl,Qp _,by simp⟩ (Qm rfl) [] rfl (kps) (kps) ?_
    rintro ⟨q,i⟩ ⟨hi,hq,hno⟩
    dsimp only at hi hq hno ⊢
    subst hi
    by_cases hqt:q<T.length
    ·have e2:els[0+((q:Nat):Int).toNat]?=some (wv T[q]):=by rw [hels]; exact Xh hqt
     have hmem:=Qn hqt
     have hno2:(ux,uy)≠T[q]->(ux,uy)∉T.take (q+1):=fun hne=>by
      rw [Qu hqt,Sh,Tm]
      rintro (q|q)
      ·exact hno q
      ·exact hne q
     generalize T[q]=x at *
     obtain ⟨x1,x2⟩:=x
     by_cases hx:x1=ux/\x2=uy
     ·obtain ⟨rfl,rfl⟩:=hx
      have hS:toP h.cs (ox,oy) (j+1)=T:=by rw [hS]; unfold Kl; rw [if_pos hmem]
      rw [<-hS] at hels
      refine bs.av (sx:=ins1) hk ?_
      repeat'(first|refine wk3 ?_|(refine wk2 ?_ ?_<;>intro _)|fail)
      all_goals first
       | exact Qr ⟨(k+1,j+1,_,ln,els),[(2,2)],rfl,kps,kps,⟨hkl,Zb (by omega),hlt,hln,hels⟩,by dsimp only; omega⟩
       | (exfalso; clear hk hels hS hT; simp_all; done)
     ·have hraw:(decide (x1=ux)&&(decide (x2=uy)&&true))=false:=by
       rw [Qx]
       intro q
       simp only [Oq,Qc,decide_eq_true_eq] at q
       exact hx q
      have hno3:=hno2 (fun q=>hx ⟨(congrArg Prod.fst q).symm,(congrArg Prod.snd q).symm⟩)
      refine bs.av (sx:=ins1) hk ?_
      repeat'(first|refine wk3 ?_|(refine wk2 ?_ ?_<;>intro _)|fail)
      all_goals first
       | exact Qr ⟨(q+1,Qa Qb ((q:Int)+1)),[],rfl,kps,kps,⟨Zb (by omega),hqt,hno3⟩,by dsimp only; omega⟩
       | (exfalso; clear hk hels hS hT; simp_all; done)
    have hqn:q=T.length:=by omega
    subst hqn
    rw [Tl] at hno
    have hS:toP h.cs (ox,oy) (j+1)=insT snB T (ux,uy) T.length:=by rw [hS]; unfold Kl; rw [if_neg hno,Zle]
    refine bs.av (sx:=ins1) hk ?_
    repeat'(first|refine wk3 ?_|(refine wk2 ?_ ?_<;>intro _)|fail)
    have lelT:els.length=T.length:=lel
    refine Zm (S:=Nat × Int × List (List AV)) (fun t=>t.1) (fun t=>[(0,.asl 25 0 (els.length+1)),(2,Bo true),(8,I t.2.1)]) (fun t=>[(25,.row 2 t.2.2 true true),(1,.row 2 [[I ox,I oy]] true false),(0,.row 9 [h.cells] true false)]) 26 26
     (fun t=>t.2.1=t.1/\t.1<=T.length/\t.2.2=(insI T (ux,uy) t.1).map wv/\insT snB T (ux,uy) t.1=insT snB T (ux,uy) T.length) (T.length,_,els++[[I ux,I uy]]) ⟨by
      show IntKind.i64.wrap (((els.length+1:Nat):Int)-1)=_
      rw [W_eq (by omega) (by omega)]; omega,Qd _,by rw [Zlf,Rm,<-hels]; rfl,rfl⟩ (Qm rfl) [] rfl (kps) (kps) ?_
    rintro ⟨q,i,cur⟩ ⟨hi,hq,hcur,hit⟩
    dsimp only at hi hq hcur hit ⊢
    subst hi
    have lcur:cur.length=els.length+1:=by rw [hcur,Qj,Zsh _ _ hq]; omega
    cases q with
    | zero =>
     have hfin:cur=(toP h.cs (ox,oy) (j+1)).map wv:=by rw [hS,<-hit,Zn9,hcur]
     refine bs.av (sx:=ins1) hk ?_
     repeat'(first|refine wk3 ?_|(refine wk2 ?_ ?_<;>intro _)|fail)
     all_goals first
      | exact Qr ⟨(k+2,j+1,_,els.length+1,cur),[(2,25)],rfl,kps,kps,⟨by show k+2=cur.length; omega,Zb (by omega),hlt,by show els.length+1=cur.length; omega,hfin⟩,by dsimp only; omega⟩
      | (exfalso; clear hk hels hS hT; simp_all; done)
    | succ q =>
     have hqt:q<T.length:=by omega
     obtain ⟨g1',g2'⟩:=Zsi (l:=T) (t:=(ux,uy)) hqt
     have eW:Qa Qb (((q+1:Nat):Int)-1)=(q:Int):=by rw [W_eq (by omega) (by omega)]; omega
     have e1:cur[0+(((q+1:Nat):Int)).toNat]?=some (wv (ux,uy)):=by rw [hcur,Sk,Ri,Rr,g1']; rfl
     have e2:cur[0+(Qa Qb (((q+1:Nat):Int)-1)).toNat]?=some (wv T[q]):=by rw [eW,hcur,Sk,Ri,Rr,g2']; rfl
     have eS:Ze7 (Ze7 cur (0+(((q+1:Nat):Int)).toNat) (wv T[q])) (0+(Qa Qb (((q+1:Nat):Int)-1)).toNat) (wv (ux,uy))=(insI T (ux,uy) q).map wv:=by
      rw [eW,Zbs,Zbs,Sk,Sk,Ri,Ri,hcur,<-Jt,<-Jt,Zoc hqt]
     have e3:(Ze7 cur (0+(((q+1:Nat):Int)).toNat) (wv T[q]))[0+(Qa Qb (((q+1:Nat):Int)-1)).toNat]?=some (wv T[q]):=by
      rw [Zbs,Mt (by rw [eW,Ri,Ri]; omega)]
      exact e2
     have hstep:=Zob (R:=snB) (t:=(ux,uy)) hqt
     have hstop:=Zoa (R:=snB) (t:=(ux,uy)) hqt
     have c6:=Zvx hb5 (hTb _ (Qn hqt)) true
     have hso:soB true (ux,uy) T[q]=snB (ux,uy) T[q]:=rfl
     rw [hso] at c6
     have dD:decide (0<=Qa Qb (((q+1:Nat):Int)-1)/\Qa Qb (((q+1:Nat):Int)-1)<((els.length+1:Nat):Int))=true:=by rw [eW]; exact decide_eq_true (by omega)
     generalize snB (ux,uy) T[q]=bb at *
     generalize T[q]=x at *
     obtain ⟨x1,x2⟩:=x
     cases bb with
     | true =>
      refine bs.av (sx:=ins1) hk ?_
      repeat'(first|refine wk3 ?_|(refine wk2 ?_ ?_<;>intro _)|fail)
      all_goals first
       | exact Qr ⟨(q,Qa Qb (((q+1:Nat):Int)-1),_),[],rfl,kps,kps,⟨eW,by omega,eS,by rw [<-hstep rfl]; exact hit⟩,by dsimp only; omega⟩
       | (exfalso; clear hk hels hS hT; simp_all; done)
     | false =>
      have hfin:cur=(toP h.cs (ox,oy) (j+1)).map wv:=by rw [hS,<-hit,hstop rfl,hcur]
      refine bs.av (sx:=ins1) hk ?_
      repeat'(first|refine wk3 ?_|(refine wk2 ?_ ?_<;>intro _)|fail)
      all_goals first
       | exact Qr ⟨(k+2,j+1,_,els.length+1,cur),[(2,25)],rfl,kps,kps,⟨by show k+2=cur.length; omega,Zb (by omega),hlt,by show els.length+1=cur.length; omega,hfin⟩,by dsimp only; omega⟩
       | (exfalso; clear hk hels hS hT; simp_all; done)
 have hjn:j=h.cs.length:=by omega
 subst hjn
 rw [Zu8] at hels
 obtain ⟨h3,hgood⟩:=Zeb g k0
 generalize hTT:tO h.cs (ox,oy)=T at *
 have lel:els.length=T.length:=by rw [hels,Qj]
 obtain ⟨k',rfl⟩:∃ k',k=k'+1:=⟨k-1,by omega⟩
 subst hels
 have hlnT:ln=T.length:=by omega
 subst hlnT
 have hT1000:T.length<1000:=by have:=(htp h.cs.length hj).2; rw [Zu8,hTT] at this; omega
 have lwv:(T.map wv).length=T.length:=Qj _
 refine bs.avT (sx:=ins1) hk ?_
 repeat'(first|refine wk3 ?_|(refine wk2 ?_ ?_<;>intro _)|fail)
 have hRB:Zu h.cs (ox,oy)=(Rv T.length).map fun i=>⟨[],(ox,oy),getV T i,getV T ((i+1)%T.length),nxtV h.cs (ox,oy) none (addV (getV T i) (getV T ((i+1)%T.length)))⟩:=by
  unfold Zu
  rw [hTT]
 have hbm:∀ i,i<T.length->∃ m:Bm,m=⟨[],(ox,oy),getV T i,getV T ((i+1)%T.length),nxtV h.cs (ox,oy) none (addV (getV T i) (getV T ((i+1)%T.length)))⟩/\GoodB h m:=fun i hi=>by
  refine ⟨_,rfl,?_⟩
  refine (hgood _ ?_).1
  rw [hRB]
  exact Ta.2 ⟨i,Rx.2 hi,rfl⟩
 rw [hRB]
 clear hgood hRB hTT hsn htp hbd hst hrv
 let F:Nat->Bm:=fun i=>⟨[],(ox,oy),getV T i,getV T ((i+1)%T.length),nxtV h.cs (ox,oy) none (addV (getV T i) (getV T ((i+1)%T.length)))⟩
 refine Zm (S:=Nat × Nat × Int × Nat × List (List AV)) (fun t=>T.length-t.2.1) (fun t=>[(2,.ptr 0 0 0),(3,.ptr 1 0 0),(5,.asl 2 0 T.length),(7,gv 3 t.1 t.2.2.2.1),(8,I t.2.2.1)])
  (fun t=>gz 3 8 t.1 t.2.2.2.2 [(2,.row 2 (T.map wv) true true),(1,.row 2 [[I ox,I oy]] true false),(0,.row 9 [h.cells] true false)]) 3 4
  (fun t=>t.1=t.2.1/\t.2.2.1=t.2.1/\t.2.1<=T.length/\t.2.2.2.1=t.2.2.2.2.length/\t.2.2.2.2=((Rv t.2.1).map F).map bmA) (0,0,0,0,[]) ⟨rfl,rfl,Qp _,rfl,rfl⟩ (Qd _) [] rfl (kps) (kps) ?_
 rintro ⟨k,j,i,len,els⟩ ⟨hkj,hi,hj,hlen,hels⟩
 dsimp only at hkj hi hj hlen hels ⊢
 subst hi
 by_cases hlt:j<T.length
 ·obtain ⟨m,em,gm⟩:=hbm j hlt
  have hq:=Xq hlt
  have hj2:(j+1)%T.length<T.length:=Nat.mod_lt _ (by omega)
  have hq2:=Xq hj2
  have eW:Qa Qb ((j:Int)+1)=((j+1:Nat):Int):=Zb (by omega)
  have eM:Int.tmod ((j+1:Nat):Int) (T.length:Int)=(((j+1)%T.length:Nat):Int):=by
   rw [Int.tmod_eq_emod_of_nonneg (by omega)]; omega
  have eD:decide (0<=(Qa Qb ((j:Int)+1)).tmod (T.length:Int)/\(Qa Qb ((j:Int)+1)).tmod (T.length:Int)<(T.length:Int))=true:=by
   rw [eW,eM]
   exact decide_eq_true (by omega)
  have e1:=Xh hlt
  have e2:=Xh hj2
  obtain ⟨n1,n2,n3⟩:=Zxl g gm
  have hmo:m.o=(ox,oy):=by rw [em]
  have hmw:Zw m.ws=none:=by rw [em]; rfl
  rw [hmo,hmw] at n1 n2 n3
  have hc:=Zvz (h:=h) (o:=(ox,oy)) (L:=none) gm.ba gm.bb n1 n2
  rw [n3,hTN,hla] at hc
  have e3:((Rv (j+1)).map F).map bmA=els++[bmA m]:=by
   rw [Na,Rm,Rm,<-hels]
   show els++[bmA (F j)]=_
   rw [em]
  have ea:T[j]=m.a:=by rw [em,<-hq]
  have eb:T[(j+1)%T.length]=m.b:=by rw [em,<-hq2]
  rw [ea] at e1
  rw [eb,<-eM,<-eW] at e2
  have l4:els.length<2000:=by rw [hels,Qj,Qj,Tf]; omega
  have hb0:wsA m.ws = .nils:=by rw [em]; rfl
  have hbA:bmA m=[.nils,I ox,I oy,I m.a.1,I m.a.2,I m.b.1,I m.b.2,I m.nx]:=by unfold bmA; rw [hb0,hmo]
  rw [hbA] at e3
  have hz1:¬ ((T.length:Int)=0):=by omega
  clear n1 n2 n3
  generalize m.nx=nx at *
  generalize hma:m.a=A at *
  generalize hmb:m.b=B at *
  obtain ⟨ax,ay⟩:=A
  obtain ⟨bx,by'⟩:=B
  dsimp only at e1 e2 hc e3
  clear em gm hma hmb hbA hb0 hq hq2 ea eb hbm hmo hmw
  cases k with
  | zero =>
   have hz:els=[]:=by rw [hels,<-hkj]; rfl
   subst hz
   refine bs.avT (sx:=ins1) hk ?_
   repeat'(first|refine wk3 ?_|(refine wk2 ?_ ?_<;>intro _)|fail)
   all_goals first
    | (exfalso; exact Me (eD.symm.trans (by assumption)))
    | skip
   exact Qr ⟨(1,j+1,_,_,[[.nils,I ox,I oy,I ax,I ay,I bx,I by',I nx]]),[(3,31)],rfl,kps,kps,⟨by show 1=j+1; omega,Zb (by omega),hlt,rfl,e3.symm⟩,by dsimp only; omega⟩
  | succ k =>
   refine bs.avT (sx:=ins1) hk ?_
   repeat'(first|refine wk3 ?_|(refine wk2 ?_ ?_<;>intro _)|fail)
   all_goals first
    | (exfalso; exact Me (eD.symm.trans (by assumption)))
    | skip
   refine Xz (ys:=[[.nils,I ox,I oy,I ax,I ay,I bx,I by',I nx]]) rfl rfl rfl rfl rfl rfl rfl rfl rfl rfl (by simp) hlen (by simp only [Qz,Rh]; omega) ?_
   repeat'(first|refine wk3 ?_|(refine wk2 ?_ ?_<;>intro _)|fail)
   exact Qr ⟨(k+2,j+1,_,_,els++[[.nils,I ox,I oy,I ax,I ay,I bx,I by',I nx]]),[(3,31)],rfl,kps,kps,⟨by show k+2=j+1; omega,Zb (by omega),hlt,by exact List.length_append.symm,e3.symm⟩,by dsimp only; omega⟩
 ·have hjn:j=T.length:=by omega
  subst hjn
  subst hels
  obtain ⟨k2,rfl⟩:∃ k2,k=k2+1:=⟨k-1,by omega⟩
  refine bs.avT (sx:=ins1) hk ?_
  repeat'(first|refine wk3 ?_|(refine wk2 ?_ ?_<;>intro _)|fail)
  exact Yk [3] rfl (by rw [hlen]; rfl) rfl
theorem e56 {a b:List Int} (hl:a.length<1000000) (hb:b.length<1000000):PCall Tryz.prog 56 [.isl 1 (nl a),.isl 1 (nl b)] ⟨Bo (eqN a b),[]⟩:=by
 have l1:=Zp a
 have l2:=Zp b
 refine pn Ze Tryz.func56 ?_
 by_cases hlen:a.length=b.length
 ·repeat'(first|refine wk3 ?_|(refine wk2 ?_ ?_<;>intro _)|fail)
  refine Zm (S:=Nat × Int) (fun t=>a.length-t.1) (fun t=>[(0,.isl 1 (nl a)),(1,.isl 1 (nl b)),(12,I (nl a).length),(13,I t.2)]) (fun _=>[]) 0 0 (fun t=>t.2=t.1/\t.1<=a.length/\eqN (a.drop t.1) (b.drop t.1)=eqN a b) (0,0) ⟨rfl,Qp _,rfl⟩ (Qd _) [] rfl (kps) (kps) ?_
  rintro ⟨k,i⟩ ⟨hi,hk,hh⟩
  dsimp only at hi hk hh ⊢
  subst hi
  refine bs.av (sx:=nos) Ze ?_
  by_cases hlt:k<a.length
  ·have e1:=Zal hlt
   have e2:=Zal (ns:=b) (k:=k) (by omega)
   rw [Ql hlt,Ql (show k<b.length by omega),eqN] at hh
   by_cases he:a[k]=b[k]'(by omega)
   ·rw [decide_eq_true he,Tv] at hh
    repeat'(first|refine wk3 ?_|(refine wk2 ?_ ?_<;>intro _)|fail)
    all_goals first|exact Qr ⟨(k+1,_),[],rfl,kps,kps,⟨Zb (by omega),hlt,hh⟩,by dsimp only; omega⟩|(exfalso; simp_all; done)
   ·rw [decide_eq_false he,Nm] at hh
    rw [<-hh]
    repeat'(first|refine wk3 ?_|(refine wk2 ?_ ?_<;>intro _)|fail)
    all_goals first|exact Za rfl|(exfalso; simp_all; done)
  ·rw [Qo (by omega),Qo (by omega)] at hh
   rw [<-hh]
   repeat'(first|refine wk3 ?_|(refine wk2 ?_ ?_<;>intro _)|fail)
   all_goals first|exact Za rfl|(exfalso; simp_all; done)
 ·rw [Zx6 hlen]
  repeat'(first|refine wk3 ?_|(refine wk2 ?_ ?_<;>intro _)|fail)
  all_goals first|exact Za rfl|(exfalso; simp_all; done)
def bmI (m:Bm):List AV:=[.isl 1 (nl m.ws),I m.o.1,I m.o.2,I m.a.1,I m.a.2,I m.b.1,I m.b.2,I m.nx]
theorem Zla (ws:List Int):NS (wsA ws) (.isl 1 (nl ws)):=by
 unfold wsA
 cases ws with
 | nil=>exact .inr ⟨rfl,1,rfl⟩
 | cons x r=>exact .inl rfl
theorem Yic (m:Bm):NA (.agg (bmA m)) (.agg (bmI m)):=.inr ⟨_,_,rfl,rfl,Zla _,.inl rfl,.inl rfl,.inl rfl,.inl rfl,.inl rfl,.inl rfl,.inl rfl,trivial⟩
theorem e23f {ws:List Int} (hl:ws.length<1000):PCall Tryz.prog 23 [wsA ws] ⟨.isl 1 (nl ws),[]⟩:=Ou (c25f ws (by omega)) ⟨.inl (Zla ws),trivial⟩
noncomputable abbrev rCw:List AV->Option PRes:=famA (fun ws:List Int=>ws.length<1000) (fun ws=>[wsA ws]) (fun ws=>⟨.isl 1 (nl ws),[]⟩)
theorem Ydl {ws:List Int} (h:ws.length<1000):rCw [wsA ws]=some ⟨.isl 1 (nl ws),[]⟩ :=
 Zl (p:=fun ws:List Int=>ws.length<1000) (g:=fun ws=>[wsA ws]) (r:=fun ws=>⟨.isl 1 (nl ws),[]⟩) (k:=ws) (fun j hj=>by
  simp only [Rd,and_true] at hj
  rw [Ze6 hj]) h
theorem Yfw {pt:PC} (hp:PCOK Tryz.prog pt):PCOK Tryz.prog (ins 23 rCw pt):=Zn (fun ws hl=>e23f hl) hp
theorem Zyz (m:Bm):∃ Aw,bmA m=[Aw,I m.o.1,I m.o.2,I m.a.1,I m.a.2,I m.b.1,I m.b.2,I m.nx]/\wsA m.ws=Aw/\(Aw = .nils\/Aw = .isl 1 (nl m.ws)):=by
 refine ⟨_,rfl,rfl,?_⟩
 unfold wsA
 cases m.ws with
 | nil=>exact .inl rfl
 | cons x r=>exact .inr rfl
def zz (k:Nat) (pre EX:List (List AV)) (el:Nat) (c:List AV) (z:List (Nat × ABlk)):List (Nat × ABlk):=match k with
 | 0=>z
 | _=>(62,.row 1 EX true true)::(61,.row 8 (pre++[.asl 62 0 el::c]) true false)::z
theorem Zer (f:Nat->Nat):∀ a b:List (List AV),Vg f (a++b)=Vg f a++Vg f b
 | [],b=>rfl
 | x::a,b=>by rw [Ok,Vg,Vg,Zer f a b]; rfl
theorem Zjx (m:Nat):∀ a b:List (List AV),Zby m (a++b)=(Zby m a&&Zby m b)
 | [],b=>by simp [Zby]
 | x::a,b=>by rw [Ok,Zby,Zby,Zjx m a b,Bool.and_assoc]
theorem Ydd (f:Nat->Nat) (m:Bm):renL f (bmA m)=bmA m:=by
 unfold bmA wsA
 cases m.ws<;>rfl
theorem Zk5 (f:Nat->Nat):∀ ls:List Bm,Vg f (ls.map bmA)=ls.map bmA
 | []=>rfl
 | L::ls=>by rw [Ss,Vg,Zk5 f ls,Ydd]
theorem Yg3 (k:Nat) (m:Bm):Uc k (bmA m)=true:=by
 unfold bmA wsA
 cases m.ws<;>rfl
theorem Zxa (m:Nat):∀ ls:List Bm,Zby m (ls.map bmA)=true
 | []=>rfl
 | L::ls=>by rw [Ss,Zby,Zxa m ls,Yg3]; rfl
theorem Zwb (l:List V):Xs (l.map wv)=true:=by
 unfold Xs
 rw [List.all_map]
 exact List.all_eq_true.2 fun m _=>rfl
def rB7:List AV->Option PRes
 | [.agg [.int .i64 a,.int .i64 b],.agg [.int .i64 c,.int .i64 d],.agg [.int .i64 x,.int .i64 y]]=>some ⟨Bo (btW (a,b) (c,d) (x,y)),[]⟩
 | _=>none
theorem Ybu {pt:PC} (h:PCOK Tryz.prog pt):PCOK Tryz.prog (ins 97 rB7 pt):=Zk (fun a res h=>by unfold rB7 at h; split at h<;>cases h; exact d33b (_,_) (_,_) (_,_)) h
theorem e48i {h:Hal} (hf:h.few) (g:h.fine) {w:Nat} (hw:w<h.cs.length) {o:V} (ho:OB o):PCall Tryz.prog 48 [h.av,I w,P2 o.1 o.2] ⟨P2 (imgO h.cs w o).1 (imgO h.cs w o).2,[]⟩:=by
 obtain ⟨n,hs⟩:=Ztp g hw
 exact e48 hf g hw hs ho.x ho.y
theorem e59i {h:Hal} (hf:h.few) (g:h.fine) {m:Bm} (G:GoodB h m) (hlen:m.ws.length<4):PCall Tryz.prog 59 [h.av,.agg (bmI m)] ⟨.isl 8 ((behB h.cs m).map bmA),[]⟩:=by
 have B:=Zs8 g G hlen
 have hgood:=Zfo g G hlen
 obtain ⟨w,enx,_⟩:=G.sec
 have e2:m.nx.toNat=w:=by omega
 rw [e2] at B
 obtain ⟨s1,_,s3,_⟩:=Zga g B
 have hL:∀ l,some w=some l->l<h.cs.length:=fun l q=>by cases q; exact B.wl
 have mlo:=Zv2 (h:=h) (w:=(w:Int)) (v:=m.b) ⟨by omega,by have:=B.wl; omega⟩ ⟨by have:=G.bb; omega,by have:=G.bb; omega⟩
 have mhi:=Zv2 (h:=h) (w:=(w:Int)) (v:=m.a) ⟨by omega,by have:=B.wl; omega⟩ ⟨by have:=G.ba; omega,by have:=G.ba; omega⟩
 rw [Ri] at mlo mhi
 have hob:OB m.o:=⟨by have:=G.ox; omega,by have:=G.ox; omega⟩
 have c48:=e48i hf g B.wl hob
 have c23:=c25 m.ws (by omega)
 have hRB:behB h.cs m=(Rv ((tB h.cs (imgO h.cs w m.o) w (imgV h.cs w m.b) (imgV h.cs w m.a)).length-1)).map fun i=>⟨m.ws++[m.nx],imgO h.cs w m.o,getV (tB h.cs (imgO h.cs w m.o) w (imgV h.cs w m.b) (imgV h.cs w m.a)) i,getV (tB h.cs (imgO h.cs w m.o) w (imgV h.cs w m.b) (imgV h.cs w m.a)) (i+1),nxtV h.cs (imgO h.cs w m.o) (some w) (addV (getV (tB h.cs (imgO h.cs w m.o) w (imgV h.cs w m.b) (imgV h.cs w m.a)) i) (getV (tB h.cs (imgO h.cs w m.o) w (imgV h.cs w m.b) (imgV h.cs w m.a)) (i+1)))⟩:=by
  unfold behB
  rw [e2]
 have hlw:Zw (m.ws++[m.nx])=some w:=by rw [enx]; exact Zju _ _
 have b0:=B.pos
 have b3:=Zav B.bl
 have b4:=Zav B.bh
 have l12:h.cs.length<=12:=by have:=g.le; omega
 have hsn:=fun k (hk:k<h.cs.length)=>Zvy (h:=h) (o:=imgO h.cs w m.o) (L:=some w) hk
 have hlk:=B.lk
 have htp:=fun j (hj:j<=h.cs.length)=>Yce g B.ob w (imgV h.cs w m.b) (imgV h.cs w m.a) j hj
 have hbd:=fun k (hk:k<h.cs.length)=>Zc2 g B.ob (Qn hk)
 have hst:=fun j (hj:j<h.cs.length)=>Zsm (cs:=h.cs) (o:=imgO h.cs w m.o) (lo:=imgV h.cs w m.b) (hi:=imgV h.cs w m.a) (w:=w) hj
 have hen:=Yek h.cs (imgO h.cs w m.o) w (imgV h.cs w m.b) (imgV h.cs w m.a)
 have hrv:=fun k (hk:k<h.cs.length)=>Zr1 g B.ob (Qn hk)
 have hTT:tB h.cs (imgO h.cs w m.o) w (imgV h.cs w m.b) (imgV h.cs w m.a)=imgV h.cs w m.b::(innT h.cs (imgO h.cs w m.o) w (imgV h.cs w m.b) (imgV h.cs w m.a)++[imgV h.cs w m.a]):=rfl
 have qkS:=Ybo (pt:=ins 176 rSo (ins 95 rTn (ins 97 rB7 (ins 96 (rNz h (imgO h.cs w m.o) (some w)) (ins 19 (rMm h) (ins 48 (one [h.av,I w,P2 m.o.1 m.o.2] ⟨P2 (imgO h.cs w m.o).1 (imgO h.cs w m.o).2,[]⟩) (ins 23 (one [.isl 1 (nl m.ws)] ⟨.asl 0 0 (nl m.ws).length,[(1,nl m.ws)]⟩) pt0))))))) hf g B.ob hL (Ybn (Zvw (Ybu (Ybp hf g B.ob (L:=some w) (Yfs hf g (Zf c48 (Zf c23 Ze)))))))
 have l13:=(htp h.cs.length (Qd _)).2
 rw [hen] at l13
 have len:(h.cs.map pt).length=h.cs.length:=by simp
 generalize hTNe:rNz h (imgO h.cs w m.o) (some w)=TN at *
 generalize hTSe:rSn h (imgO h.cs w m.o) (some w)=TS at *
 generalize inP h.cs (imgO h.cs w m.o) w (imgV h.cs w m.b) (imgV h.cs w m.a)=IP at *
 generalize hII:innT h.cs (imgO h.cs w m.o) w (imgV h.cs w m.b) (imgV h.cs w m.a)=II at *
 generalize hTe:tB h.cs (imgO h.cs w m.o) w (imgV h.cs w m.b) (imgV h.cs w m.a)=T at *
 have hIP0:IP 0=[]:=Se.1 (by have:=(htp 0 (Qp _)).2; omega)
 generalize hio:imgO h.cs w m.o=io at *
 generalize hlo:imgV h.cs w m.b=lo at *
 generalize hhi:imgV h.cs w m.a=hi at *
 generalize rMm h=TM at *
 refine Nw (res:=⟨.asl 0 0 ((behB h.cs m).map bmA).length,[(8,(behB h.cs m).map bmA)]⟩) ?_ ⟨rfl,rfl,rfl⟩
 rw [hRB] at hgood ⊢
 clear hRB c48 c23 B
 generalize hF:(fun i=>(⟨m.ws++[m.nx],io,getV T i,getV T (i+1),nxtV h.cs io (some w) (addV (getV T i) (getV T (i+1)))⟩:Bm))=F at *
 have hF2:∀ i,F i=(⟨m.ws++[m.nx],io,getV T i,getV T (i+1),nxtV h.cs io (some w) (addV (getV T i) (getV T (i+1)))⟩:Bm):=fun i=>by rw [<-hF]
 clear hF
 obtain ⟨ws,o,a,b,nx⟩:=m
 dsimp only at *
 subst enx
 have hl1:laI (some w)=(w:Int):=rfl
 rw [hl1] at *
 have hwe:wsA (ws++[(w:Int)]) = .isl 1 (nl ws++[[I (w:Int)]]):=by
  unfold wsA
  cases ws with
  | nil=>rfl
  | cons x r=>simp [nl]
 have hNl:(nl ws).length<1000:=by rw [Zp]; omega
 generalize hN:nl ws=N at *
 obtain ⟨iox,ioy⟩:=io
 obtain ⟨lx,ly⟩:=lo
 obtain ⟨hx,hy⟩:=hi
 obtain ⟨ox,oy⟩:=o
 obtain ⟨ax,ay⟩:=a
 obtain ⟨bx,by'⟩:=b
 dsimp only at *
 unfold bmI
 dsimp only
 rw [hN]
 have hk:=qkS
 clear qkS
 refine bs.pv (sx:=ins1) hk Tryz.func59 (by kernel_rfl) (by kernel_rfl) rfl ?_
 repeat'(first|refine wk3 ?_|(refine wk2 ?_ ?_<;>intro _)|fail)
 refine Zm (S:=Nat × Nat × Int × Nat × List (List AV)) (fun t=>h.cs.length-t.2.1) (fun t=>[(2,.ptr 0 0 0),(3,.ptr 1 0 0),(5,I (w:Int)),(6,.ptr 2 0 0),(7,.ptr 13 0 0),(8,.ptr 14 0 0),(9,gv 17 t.1 t.2.2.2.1),(10,I t.2.2.1)])
  (fun t=>gz 17 2 t.1 t.2.2.2.2 [(14,.row 2 [[I hx,I hy]] true false),(13,.row 2 [[I lx,I ly]] true false),(2,.row 2 [[I iox,I ioy]] true false),(1,.row 8 [[.isl 1 N,I ox,I oy,I ax,I ay,I bx,I by',I (w:Int)]] true false),(0,.row 9 [h.cells] true false)]) 17 18
  (fun t=>t.1=t.2.2.2.2.length/\t.2.2.1=t.2.1/\t.2.1<=h.cs.length/\t.2.2.2.1=t.2.2.2.2.length/\t.2.2.2.2=(IP t.2.1).map wv) (0,0,0,0,[]) ⟨rfl,rfl,Qp _,rfl,by rw [hIP0]; rfl⟩ (Qd _) [] rfl (kps) (kps) ?_
 rintro ⟨k,j,i,ln,els⟩ ⟨hkl,hi,hj,hln,hels⟩
 dsimp only at hkl hi hj hln hels ⊢
 subst hi
 by_cases hlt:j<h.cs.length
 ·have hs:=hsn j hlt
  have hT:=htp j hj
  have hS:=hst j hlt
  have hb:=hbd j hlt
  have hvb:=hrv j hlt
  have e1:(h.cs.map pt)[((j:Nat):Int).toNat]?=some (pt h.cs[j]):=by simp [hlt]
  have lel:els.length=(IP j).length:=by rw [hels,Qj]
  have hne:=Zrw (cs:=h.cs) (o:=(iox,ioy)) (p:=h.cs[j]) (L:=some w)
  have hrp:=fun x (hz:toW (iox,ioy) h.cs[j]≠(0,0))=>Vh hz (x:=x)
  have hlv:=hlk (toW (iox,ioy) h.cs[j])
  have hbw:toW (iox,ioy) h.cs[j]≠(0,0)->btW (lx,ly) (hx,hy) (red (toW (iox,ioy) h.cs[j]))=(decide (0<Si (lx,ly) (toW (iox,ioy) h.cs[j]))&&decide (0<Si (toW (iox,ioy) h.cs[j]) (hx,hy))):=fun hz=>by
   rw [Zs5 b3 b4 (Zav (hvb hz)) b0]
   congr 1
   ·exact decide_eq_decide.2 (hrp _ hz).2
   ·exact decide_eq_decide.2 (hrp _ hz).1
  have htn:=fun hz:toW (iox,ioy) h.cs[j]≠(0,0)=>Zp2 hz (Zav hb)
  have ew1:(toW (iox,ioy) h.cs[j]).1=Qa Qb (h.cs[j].1-iox):=by
   unfold toW at hb ⊢
   dsimp only at hb ⊢
   rw [W_eq (by omega) (by omega)]
  have ew2:(toW (iox,ioy) h.cs[j]).2=Qa Qb (h.cs[j].2-ioy):=by
   unfold toW at hb ⊢
   dsimp only at hb ⊢
   rw [W_eq (by omega) (by omega)]
  rw [ew1,ew2] at htn
  have hpz:toW (iox,ioy) h.cs[j]=(0,0)↔h.cs[j]=(iox,ioy):=toW_zero
  generalize rsB h.cs (iox,ioy) (some w) h.cs[j]=b2 at *
  generalize toW (iox,ioy) h.cs[j]=v at *
  generalize red v=u at *
  generalize hp:h.cs[j]=p at *
  generalize hT' : IP j=T1 at *
  generalize hT2:IP (j+1)=T2 at *
  clear hsn htp hbd hst hrv hrp
  obtain ⟨ux,uy⟩:=u
  obtain ⟨p1,p2⟩:=p
  dsimp only at e1 htn
  have same:T2=T1->els=T2.map wv:=fun q=>by rw [q]; exact hels
  by_cases hpe:p1=iox/\p2=ioy
  ·have hv0:=hpz.2 (by rw [hpe.1,hpe.2])
   have hb20:b2=false:=by
    cases b2
    ·rfl
    ·exact absurd hv0 (hne rfl)
   have hs2:=same (by rw [hS,hb20,Bool.and_false,if_neg (by decide)])
   obtain ⟨rfl,rfl⟩:=hpe
   clear hS hs hlv hbw htn hne
   cases k with
   | zero =>
    refine bs.av (sx:=ins1) hk ?_
    repeat'(first|refine wk3 ?_|(refine wk2 ?_ ?_<;>intro _)|fail)
    all_goals first|exact Qr ⟨(0,j+1,_,ln,els),[],rfl,kps,kps,⟨hkl,Zb (by omega),hlt,hln,by rw [hT2]; exact hs2⟩,by dsimp only; omega⟩|(exfalso; clear hk; simp_all; done)
   | succ k =>
    refine bs.av (sx:=ins1) hk ?_
    repeat'(first|refine wk3 ?_|(refine wk2 ?_ ?_<;>intro _)|fail)
    all_goals first|exact Qr ⟨(k+1,j+1,_,ln,els),[(17,17)],rfl,kps,kps,⟨hkl,Zb (by omega),hlt,hln,by rw [hT2]; exact hs2⟩,by dsimp only; omega⟩|(exfalso; clear hk; simp_all; done)
  have hvz:v≠(0,0):=fun q=>hpe (by have:=hpz.1 q; rw [Prod.mk.injEq] at this; exact this)
  have ht:=htn hvz
  have hbw:=hbw hvz
  rw [<-hbw] at hS
  have hs3:btW (lx,ly) (hx,hy) (ux,uy)=true->TS [h.av,P2 iox ioy,I (w:Int),I (j:Int)]=some ⟨Bo b2,[]⟩:=fun q=>by
   rw [q] at hbw
   have hbw:=hbw.symm
   rw [Qc,decide_eq_true_eq,decide_eq_true_eq] at hbw
   exact hs (fun _=>hlv hbw.1 hbw.2)
  have hvb2:=hvb hvz
  clear hs htn hlv hbw hvb
  have lT:T1.length<=12:=by have:=hT.2; omega
  have hb5:Vb (ux,uy):=Zav hvb2
  have hTb:∀ x∈T1,Vb x:=fun x hx=>Zav (hT.1 x hx)
  cases hb1:btW (lx,ly) (hx,hy) (ux,uy) with
  | false =>
   have hs2:=same (by rw [hS,hb1,Nm,if_neg (by decide)])
   clear hS hs3
   cases k with
   | zero =>
    refine bs.av (sx:=ins1) hk ?_
    repeat'(first|refine wk3 ?_|(refine wk2 ?_ ?_<;>intro _)|fail)
    all_goals first|exact Qr ⟨(0,j+1,_,ln,els),[],rfl,kps,kps,⟨hkl,Zb (by omega),hlt,hln,by rw [hT2]; exact hs2⟩,by dsimp only; omega⟩|(exfalso; exact hpe ⟨by assumption,by assumption⟩)|(exfalso; rename_i q; rw [hb1] at q; cases q; done)|(exfalso; clear hk; simp_all; done)
   | succ k =>
    refine bs.av (sx:=ins1) hk ?_
    repeat'(first|refine wk3 ?_|(refine wk2 ?_ ?_<;>intro _)|fail)
    all_goals first|exact Qr ⟨(k+1,j+1,_,ln,els),[(17,17)],rfl,kps,kps,⟨hkl,Zb (by omega),hlt,hln,by rw [hT2]; exact hs2⟩,by dsimp only; omega⟩|(exfalso; exact hpe ⟨by assumption,by assumption⟩)|(exfalso; rename_i q; rw [hb1] at q; cases q; done)|(exfalso; clear hk; simp_all; done)
  | true =>
   have hs4:=hs3 hb1
   rw [hb1,Tv] at hS
   clear hs3
   cases b2 with
   | false =>
    have hs2:=same (by rw [hS,if_neg (by decide)])
    clear hS
    cases k with
    | zero =>
     refine bs.av (sx:=ins1) hk ?_
     repeat'(first|refine wk3 ?_|(refine wk2 ?_ ?_<;>intro _)|fail)
     all_goals first|exact Qr ⟨(0,j+1,_,ln,els),[],rfl,kps,kps,⟨hkl,Zb (by omega),hlt,hln,by rw [hT2]; exact hs2⟩,by dsimp only; omega⟩|(exfalso; exact hpe ⟨by assumption,by assumption⟩)|(exfalso; rename_i q; rw [hb1] at q; cases q; done)|(exfalso; clear hk; simp_all; done)
    | succ k =>
     refine bs.av (sx:=ins1) hk ?_
     repeat'(first|refine wk3 ?_|(refine wk2 ?_ ?_<;>intro _)|fail)
     all_goals first|exact Qr ⟨(k+1,j+1,_,ln,els),[(17,17)],rfl,kps,kps,⟨hkl,Zb (by omega),hlt,hln,by rw [hT2]; exact hs2⟩,by dsimp only; omega⟩|(exfalso; exact hpe ⟨by assumption,by assumption⟩)|(exfalso; rename_i q; rw [hb1] at q; cases q; done)|(exfalso; clear hk; simp_all; done)
   | true =>
    rw [if_pos rfl] at hS
    cases k with
    | zero =>
     have hz:els=[]:=Se.1 hkl.symm
     have hTz:T1=[]:=by
      have:T1.length=0:=by omega
      exact Se.1 this
     subst hz
     rw [hTz] at hS
     have hS:T2=[(ux,uy)]:=hS
     refine bs.av (sx:=ins1) hk ?_
     repeat'(first|refine wk3 ?_|(refine wk2 ?_ ?_<;>intro _)|fail)
     all_goals first|(exfalso; exact hpe ⟨by assumption,by assumption⟩)|(exfalso; rename_i q; rw [hb1] at q; cases q; done)|(exfalso; exact hpe ⟨of_decide_eq_true (by assumption),of_decide_eq_true (by assumption)⟩)|skip
     all_goals
      refine bs.sv (sx:=ins1) hk Tryz.func94 (by kernel_rfl) (by kernel_rfl) ?_
      unfold Zbq
      conv=>whnf
      repeat'(first|refine wk3 ?_|(refine wk2 ?_ ?_<;>intro _)|fail)
      refine Mc 1 (Wt (bs.av (sx:=ins1) hk ?_))
      repeat'(first|refine wk3 ?_|(refine wk2 ?_ ?_<;>intro _)|fail)
      refine Mc 1 (Wt (bs.av (sx:=ins1) hk ?_))
      repeat'(first|refine wk3 ?_|(refine wk2 ?_ ?_<;>intro _)|fail)
      exact Qr ⟨(1,j+1,_,1,[wv (ux,uy)]),[(17,22)],rfl,kps,kps,⟨rfl,Zb (by omega),hlt,rfl,by rw [hT2,hS]; rfl⟩,by dsimp only; omega⟩
    | succ k =>
     have h2000:els.length<2000:=by omega
     refine bs.av (sx:=ins1) hk ?_
     repeat'(first|refine wk3 ?_|(refine wk2 ?_ ?_<;>intro _)|fail)
     all_goals first|(exfalso; exact hpe ⟨by assumption,by assumption⟩)|(exfalso; rename_i q; rw [hb1] at q; cases q; done)|(exfalso; exact hpe ⟨of_decide_eq_true (by assumption),of_decide_eq_true (by assumption)⟩)|skip
     all_goals
      refine bs.sv (sx:=ins1) hk Tryz.func94 (by kernel_rfl) (by kernel_rfl) ?_
      unfold Zbq
      conv=>whnf
      repeat'(first|refine wk3 ?_|(refine wk2 ?_ ?_<;>intro _)|fail)
      refine Zm (S:=Nat × Int) (fun t=>T1.length-t.1) (fun t=>[(0,.asl 17 0 ln),(2,Bo false),(4,.ptr 20 0 0),(7,I t.2)]) (fun _=>[(20,.row 2 [[I ux,I uy]] true false),(17,.row 2 els true true),(14,.row 2 [[I hx,I hy]] true false),(13,.row 2 [[I lx,I ly]] true false),(2,.row 2 [[I iox,I ioy]] true false),(1,.row 8 [[.isl 1 N,I ox,I oy,I ax,I ay,I bx,I by',I (w:Int)]] true false),(0,.row 9 [h.cells] true false)]) 21 21
       (fun t=>t.2=t.1/\t.1<=T1.length/\(ux,uy)∉T1.take t.1) (0,0) ⟨rfl,Qp _,by simp⟩ (Qm rfl) [] rfl (kps) (kps) ?_
      rintro ⟨q,i⟩ ⟨hi,hq,hno⟩
      dsimp only at hi hq hno ⊢
      subst hi
      by_cases hqt:q<T1.length
      ·have e2:els[0+((q:Nat):Int).toNat]?=some (wv T1[q]):=by rw [hels]; exact Xh hqt
       have hmem:=Qn hqt
       have hno2:(ux,uy)≠T1[q]->(ux,uy)∉T1.take (q+1):=fun hne=>by
        rw [Qu hqt,Sh,Tm]
        rintro (q|q)
        ·exact hno q
        ·exact hne q
       generalize T1[q]=x at *
       obtain ⟨x1,x2⟩:=x
       by_cases hx:x1=ux/\x2=uy
       ·obtain ⟨rfl,rfl⟩:=hx
        have hS:T2=T1:=by rw [hS]; unfold Kl; rw [if_pos hmem]
        rw [<-hS] at hels
        refine bs.av (sx:=ins1) hk ?_
        repeat'(first|refine wk3 ?_|(refine wk2 ?_ ?_<;>intro _)|fail)
        all_goals first
         | exact Qr ⟨(k+1,j+1,_,ln,els),[(17,17)],rfl,kps,kps,⟨hkl,Zb (by omega),hlt,hln,by rw [hT2]; exact hels⟩,by dsimp only; omega⟩
         | (exfalso; clear hk hels hS hT; simp_all; done)
       ·have hraw:(decide (x1=ux)&&(decide (x2=uy)&&true))=false:=by
         rw [Qx]
         intro q
         simp only [Oq,Qc,decide_eq_true_eq] at q
         exact hx q
        have hno3:=hno2 (fun q=>hx ⟨(congrArg Prod.fst q).symm,(congrArg Prod.snd q).symm⟩)
        refine bs.av (sx:=ins1) hk ?_
        repeat'(first|refine wk3 ?_|(refine wk2 ?_ ?_<;>intro _)|fail)
        all_goals first
         | exact Qr ⟨(q+1,Qa Qb ((q:Int)+1)),[],rfl,kps,kps,⟨Zb (by omega),hqt,hno3⟩,by dsimp only; omega⟩
         | (exfalso; clear hk hels hS hT; simp_all; done)
      have hqn:q=T1.length:=by omega
      subst hqn
      rw [Tl] at hno
      have hS:T2=insT crB T1 (ux,uy) T1.length:=by rw [hS]; unfold Kl; rw [if_neg hno,Zle]
      refine bs.av (sx:=ins1) hk ?_
      repeat'(first|refine wk3 ?_|(refine wk2 ?_ ?_<;>intro _)|fail)
      have lelT:els.length=T1.length:=lel
      refine Zm (S:=Nat × Int × List (List AV)) (fun t=>t.1) (fun t=>[(0,.asl 22 0 (els.length+1)),(2,Bo false),(8,I t.2.1)]) (fun t=>[(22,.row 2 t.2.2 true true),(14,.row 2 [[I hx,I hy]] true false),(13,.row 2 [[I lx,I ly]] true false),(2,.row 2 [[I iox,I ioy]] true false),(1,.row 8 [[.isl 1 N,I ox,I oy,I ax,I ay,I bx,I by',I (w:Int)]] true false),(0,.row 9 [h.cells] true false)]) 23 23
       (fun t=>t.2.1=t.1/\t.1<=T1.length/\t.2.2=(insI T1 (ux,uy) t.1).map wv/\insT crB T1 (ux,uy) t.1=insT crB T1 (ux,uy) T1.length) (T1.length,_,els++[[I ux,I uy]]) ⟨by
        show IntKind.i64.wrap (((els.length+1:Nat):Int)-1)=_
        rw [W_eq (by omega) (by omega)]; omega,Qd _,by rw [Zlf,Rm,<-hels]; rfl,rfl⟩ (Qm rfl) [] rfl (kps) (kps) ?_
      rintro ⟨q,i,cur⟩ ⟨hi,hq,hcur,hit⟩
      dsimp only at hi hq hcur hit ⊢
      subst hi
      have lcur:cur.length=els.length+1:=by rw [hcur,Qj,Zsh _ _ hq]; omega
      cases q with
      | zero =>
       have hfin:cur=(T2).map wv:=by rw [hS,<-hit,Zn9,hcur]
       refine bs.av (sx:=ins1) hk ?_
       repeat'(first|refine wk3 ?_|(refine wk2 ?_ ?_<;>intro _)|fail)
       all_goals first
        | exact Qr ⟨(k+2,j+1,_,els.length+1,cur),[(17,22)],rfl,kps,kps,⟨by show k+2=cur.length; omega,Zb (by omega),hlt,by show els.length+1=cur.length; omega,by rw [hT2]; exact hfin⟩,by dsimp only; omega⟩
        | (exfalso; clear hk hels hS hT; simp_all; done)
      | succ q =>
       have hqt:q<T1.length:=by omega
       obtain ⟨g1',g2'⟩:=Zsi (l:=T1) (t:=(ux,uy)) hqt
       have eW:Qa Qb (((q+1:Nat):Int)-1)=(q:Int):=by rw [W_eq (by omega) (by omega)]; omega
       have e1:cur[0+(((q+1:Nat):Int)).toNat]?=some (wv (ux,uy)):=by rw [hcur,Sk,Ri,Rr,g1']; rfl
       have e2:cur[0+(Qa Qb (((q+1:Nat):Int)-1)).toNat]?=some (wv T1[q]):=by rw [eW,hcur,Sk,Ri,Rr,g2']; rfl
       have eS:Ze7 (Ze7 cur (0+(((q+1:Nat):Int)).toNat) (wv T1[q])) (0+(Qa Qb (((q+1:Nat):Int)-1)).toNat) (wv (ux,uy))=(insI T1 (ux,uy) q).map wv:=by
        rw [eW,Zbs,Zbs,Sk,Sk,Ri,Ri,hcur,<-Jt,<-Jt,Zoc hqt]
       have e3:(Ze7 cur (0+(((q+1:Nat):Int)).toNat) (wv T1[q]))[0+(Qa Qb (((q+1:Nat):Int)-1)).toNat]?=some (wv T1[q]):=by
        rw [Zbs,Mt (by rw [eW,Ri,Ri]; omega)]
        exact e2
       have hstep:=Zob (R:=crB) (t:=(ux,uy)) hqt
       have hstop:=Zoa (R:=crB) (t:=(ux,uy)) hqt
       have c6:=Zvx hb5 (hTb _ (Qn hqt)) false
       have hso:soB false (ux,uy) T1[q]=crB (ux,uy) T1[q]:=rfl
       rw [hso] at c6
       have dD:decide (0<=Qa Qb (((q+1:Nat):Int)-1)/\Qa Qb (((q+1:Nat):Int)-1)<((els.length+1:Nat):Int))=true:=by rw [eW]; exact decide_eq_true (by omega)
       generalize crB (ux,uy) T1[q]=bb at *
       generalize T1[q]=x at *
       obtain ⟨x1,x2⟩:=x
       cases bb with
       | true =>
        refine bs.av (sx:=ins1) hk ?_
        repeat'(first|refine wk3 ?_|(refine wk2 ?_ ?_<;>intro _)|fail)
        all_goals first
         | exact Qr ⟨(q,Qa Qb (((q+1:Nat):Int)-1),_),[],rfl,kps,kps,⟨eW,by omega,eS,by rw [<-hstep rfl]; exact hit⟩,by dsimp only; omega⟩
         | (exfalso; clear hk hels hS hT; simp_all; done)
       | false =>
        have hfin:cur=(T2).map wv:=by rw [hS,<-hit,hstop rfl,hcur]
        refine bs.av (sx:=ins1) hk ?_
        repeat'(first|refine wk3 ?_|(refine wk2 ?_ ?_<;>intro _)|fail)
        all_goals first
         | exact Qr ⟨(k+2,j+1,_,els.length+1,cur),[(17,22)],rfl,kps,kps,⟨by show k+2=cur.length; omega,Zb (by omega),hlt,by show els.length+1=cur.length; omega,by rw [hT2]; exact hfin⟩,by dsimp only; omega⟩
         | (exfalso; clear hk hels hS hT; simp_all; done)
 have hjn:j=h.cs.length:=by omega
 subst hjn
 rw [hen] at hels
 have lel:els.length=II.length:=by rw [hels,Qj]
 clear hsn htp hbd hst hrv hlk hen
 have h2T:2<=T.length:=by rw [hTT]; simp only [Qz,Rb,Rh]; omega
 have hT100:T.length<100:=by rw [hTT]; simp only [Qz,Rb,Rh]; omega
 have hgd:=fun i (hi:i<T.length-1)=>(hgood _ (Ta.2 ⟨i,Rx.2 hi,rfl⟩)).1
 have h23:=Vi [.isl 1 N] ⟨.asl 0 0 N.length,[(1,N)]⟩
 cases k
 case' zero =>
  have hz:els=[]:=Se.1 hkl.symm
  have hI0:II=[]:=Se.1 (by rw [<-lel,<-hkl])
  subst hz
  subst hI0
  have hTT:T=[(lx,ly),(hx,hy)]:=hTT
  have hTl:T.length=2:=by rw [hTT]; rfl
  have hTm:T.map wv=[[I lx,I ly],[I hx,I hy]]:=by rw [hTT]; rfl
  refine bs.av (sx:=ins1) hk ?_
  repeat'(first|refine wk3 ?_|(refine wk2 ?_ ?_<;>intro _)|fail)
  refine Lp.go2 [(2,.ptr 0 0 0),(3,.ptr 1 0 0),(5,I (w:Int)),(6,.ptr 2 0 0),(13,.asl 60 0 T.length),(14,.nils),(15,I 0)] [(60,.row 2 (T.map wv) true true),(2,.row 2 [[I iox,I ioy]] true false),(1,.row 8 [[.isl 1 N,I ox,I oy,I ax,I ay,I bx,I by',I (w:Int)]] true false),(0,.row 9 [h.cells] true false)] 60 61 (Qm rfl) [(60,24)] rfl ?_ ?_ ?_
  ·rw [hTl]; exact kps
  ·rw [hTm]; exact kps
 case' succ k =>
  have hraw:Wp ln (Wq 0 els)=els:=by rw [Tz,hln,Tl]
  have h2000:els.length<2000:=by omega
  have hTl:T.length=([[I lx,I ly]]++els).length+1:=by rw [hTT]; simp only [Qz,Rb,Rh,lel]; omega
  have hTm:T.map wv=[[I lx,I ly]]++els++[[I hx,I hy]]:=by rw [hTT,Ss,Rm,<-hels]; rfl
  refine bs.av (sx:=ins1) hk ?_
  repeat'(first|refine wk3 ?_|(refine wk2 ?_ ?_<;>intro _)|fail)
  refine Xz (elems:=[[I lx,I ly]]) (ys:=Wp ln (Wq 0 els)) rfl rfl rfl rfl rfl rfl rfl rfl rfl (by rw [hraw,hels]; exact Zwb II) (by rw [hraw]; intro q; rw [q] at hkl; cases hkl) rfl (by rw [hraw]; simp only [Qz,Rh]; omega) ?_
  rw [hraw]
  repeat'(first|refine wk3 ?_|(refine wk2 ?_ ?_<;>intro _)|fail)
  refine Xz (elems:=[[I lx,I ly]]++els) (ys:=[[I hx,I hy]]) rfl rfl rfl rfl rfl rfl rfl rfl rfl rfl (by simp) (by simp only [Rb]) (by simp only [Qz,Rh,Rb]; omega) ?_
  repeat'(first|refine wk3 ?_|(refine wk2 ?_ ?_<;>intro _)|fail)
  refine Lp.go2 [(2,.ptr 0 0 0),(3,.ptr 1 0 0),(5,I (w:Int)),(6,.ptr 2 0 0),(13,.asl 60 0 T.length),(14,.nils),(15,I 0)] [(60,.row 2 (T.map wv) true true),(2,.row 2 [[I iox,I ioy]] true false),(1,.row 8 [[.isl 1 N,I ox,I oy,I ax,I ay,I bx,I by',I (w:Int)]] true false),(0,.row 9 [h.cells] true false)] 60 61 (Qm rfl) [(60,24)] rfl ?_ ?_ ?_
  ·rw [hTl]; exact kps
  ·rw [hTm]; exact kps
 all_goals
  clear hkl hj hln hels lel hTT hTl hTm
  refine Zm (S:=Nat × Nat × Int × List (List AV) × (Int × Int × Int × Int × Int)) (fun t=>T.length-t.2.1)
   (fun t=>[(2,.ptr 0 0 0),(3,.ptr 1 0 0),(5,I (w:Int)),(6,.ptr 2 0 0),(13,.asl 60 0 T.length),(14,gv 61 t.1 (t.2.2.2.1.length+1)),(15,I t.2.2.1)])
   (fun t=>zz t.1 t.2.2.2.1 (N++[[I (w:Int)]]) (N.length+1) [I iox,I ioy,I t.2.2.2.2.1,I t.2.2.2.2.2.1,I t.2.2.2.2.2.2.1,I t.2.2.2.2.2.2.2.1,I t.2.2.2.2.2.2.2.2] [(60,.row 2 (T.map wv) true true),(2,.row 2 [[I iox,I ioy]] true false),(1,.row 8 [[.isl 1 N,I ox,I oy,I ax,I ay,I bx,I by',I (w:Int)]] true false),(0,.row 9 [h.cells] true false)]) 61 63
   (fun t=>t.1=t.2.1/\t.2.2.1=t.2.1/\t.2.1<=T.length-1/\∀ k0,t.1=k0+1->t.2.2.2.1=((Rv k0).map F).map bmA/\[.isl 1 (N++[[I (w:Int)]]),I iox,I ioy,I t.2.2.2.2.1,I t.2.2.2.2.2.1,I t.2.2.2.2.2.2.1,I t.2.2.2.2.2.2.2.1,I t.2.2.2.2.2.2.2.2]=bmA (F k0))
   (0,0,0,[],(0,0,0,0,0)) ⟨rfl,rfl,Qp _,fun k0 q=>by cases q⟩ (Qm rfl) [] rfl (kps) (kps) ?_
  rintro ⟨k,j,i,pre,q1,q2,q3,q4,q5⟩ ⟨hkj,hi,hj,hX⟩
  dsimp only at hkj hi hj hX ⊢
  subst hi
  have hbody:j<T.length-1->∃ aa bb:V,∃ nx:Int,(T.map wv)[0+((j:Nat):Int).toNat]?=some (wv aa)/\(T.map wv)[0+(Qa Qb ((j:Int)+1)).toNat]?=some (wv bb)/\TN [h.av,P2 iox ioy,I (w:Int),P2 aa.1 aa.2,P2 bb.1 bb.2]=some ⟨I nx,[]⟩/\bmA (F j)=[.isl 1 (N++[[I (w:Int)]]),I iox,I ioy,I aa.1,I aa.2,I bb.1,I bb.2,I nx]:=fun hlt=>by
   have gm:=hgd j hlt
   have em:=hF2 j
   have hj1:j<T.length:=by omega
   have hj2:j+1<T.length:=by omega
   have hq:=Xq hj1
   have hq2:=Xq hj2
   have e1:=Xh hj1
   have e2:=Xh hj2
   obtain ⟨n1,n2,n3⟩:=Zxl g gm
   have hmo:(F j).o=(iox,ioy):=by rw [em]
   have hmw:Zw (F j).ws=some w:=by rw [em]; exact hlw
   have hma:(F j).a=T[j]:=by rw [em,<-hq]
   have hmb:(F j).b=T[j+1]:=by rw [em,<-hq2]
   have hws:wsA (F j).ws = .isl 1 (N++[[I (w:Int)]]):=by rw [em]; exact hwe
   rw [hmo,hmw] at n1 n2 n3
   have hc:=Zvz (h:=h) (o:=(iox,ioy)) (L:=some w) gm.ba gm.bb n1 n2
   rw [n3,hTNe,show laI (some w)=(w:Int) from rfl,hma,hmb] at hc
   refine ⟨T[j],T[j+1],(F j).nx,e1,?_,hc,?_⟩
   ·rw [show IntKind.i64.wrap ((j:Int)+1)=((j+1:Nat):Int) from Zb (by omega)]; exact e2
   ·unfold bmA
    rw [hws,hmo,hma,hmb]
  have dD:j<T.length-1->decide (0<=Qa Qb ((j:Int)+1)/\Qa Qb ((j:Int)+1)<(T.length:Int))=true:=fun hlt=>by
   rw [show IntKind.i64.wrap ((j:Int)+1)=((j+1:Nat):Int) from Zb (by omega)]
   exact decide_eq_true (by omega)
  have hW1:Qa Qb ((j:Int)+1)=(j:Int)+1:=W_eq (by omega) (by omega)
  cases k with
  | zero =>
   have hlt:j<T.length-1:=by omega
   obtain ⟨⟨aa1,aa2⟩,⟨bb1,bb2⟩,nx,e1,e2,hc,hb⟩:=hbody hlt
   have dD:=dD hlt
   dsimp only at e1 e2 hc hb
   generalize T.map wv=TM2 at *
   refine bs.av (sx:=ins1) hk ?_
   repeat'(first|refine wk3 ?_|(refine wk2 ?_ ?_<;>intro _)|fail)
   all_goals first|(exfalso; omega)|skip
   refine Xz (elems:=N) (ys:=[[I (w:Int)]]) rfl rfl rfl rfl rfl rfl rfl rfl rfl rfl (by simp) rfl (by simp only [Qz,Rh]; omega) ?_
   repeat'(first|refine wk3 ?_|(refine wk2 ?_ ?_<;>intro _)|fail)
   exact Qr ⟨(1,j+1,Qa Qb ((j:Int)+1),[],(aa1,aa2,bb1,bb2,nx)),[(61,96),(62,70)],rfl,kps,⟨⟨rfl,rfl,rfl⟩,⟨rfl,rfl,⟨_,rfl,rfl,rfl⟩⟩,kps⟩,⟨by show 1=j+1; omega,Zb (by omega),by show j+1<=T.length-1; omega,fun k0 q=>by
    have hk0:k0=0:=by dsimp only at q; omega
    subst hk0
    refine ⟨rfl,?_⟩
    rw [show (0:Nat)=j from hkj]
    exact hb.symm⟩,by show T.length-(j+1)<T.length-j; omega⟩
  | succ k =>
   obtain ⟨hpre,hrow⟩:=hX k rfl
   have hraw2:Wp (N.length+1) (Wq 0 (N++[[I (w:Int)]]))=N++[[I (w:Int)]]:=by rw [Tz,Sz (by simp)]
   have hels2:pre++[[.isl 1 (N++[[I (w:Int)]]),I iox,I ioy,I q1,I q2,I q3,I q4,I q5]]=((Rv j).map F).map bmA:=by
    rw [hrow,hpre,<-hkj,Na,Rm,Rm]
    rfl
   have lpre:(pre++[[.isl 1 (N++[[I (w:Int)]]),I iox,I ioy,I q1,I q2,I q3,I q4,I q5]]).length<2000:=by rw [hels2,Qj,Qj,Tf]; omega
   refine Awp.melt 61 (elems:=pre++[[.asl 62 0 (N.length+1),I iox,I ioy,I q1,I q2,I q3,I q4,I q5]]) (elems':=pre++[[.isl 1 (N++[[I (w:Int)]]),I iox,I ioy,I q1,I q2,I q3,I q4,I q5]]) (l:=[62]) rfl (by
    refine Zhu (l:=[]) (Zrx fun e he=>?_) ?_
    ·rw [hpre] at he
     obtain ⟨m',_,rfl⟩:=Ta.1 he
     unfold bmA wsA
     cases m'.ws<;>rfl
    ·refine Eq.trans (b:=some ([[.isl 1 (Wp (N.length+1) (Wq 0 (N++[[I (w:Int)]]))),I iox,I ioy,I q1,I q2,I q3,I q4,I q5]],[62])) rfl ?_
     rw [hraw2]) rfl rfl ?_
   generalize hE2:pre++[[.isl 1 (N++[[I (w:Int)]]),I iox,I ioy,I q1,I q2,I q3,I q4,I q5]]=E2 at *
   have lE2:pre.length+1=E2.length:=by rw [<-hE2]; simp
   by_cases hlt:j<T.length-1
   ·obtain ⟨⟨aa1,aa2⟩,⟨bb1,bb2⟩,nx,e1,e2,hc,hb⟩:=hbody hlt
    have dD:=dD hlt
    dsimp only at e1 e2 hc hb
    generalize T.map wv=TM2 at *
    refine bs.av (sx:=ins1) hk ?_
    repeat'(first|refine wk3 ?_|(refine wk2 ?_ ?_<;>intro _)|fail)
    all_goals first|(exfalso; omega)|skip
    refine Xz (elems:=N) (ys:=[[I (w:Int)]]) rfl rfl rfl rfl rfl rfl rfl rfl rfl rfl (by simp) rfl (by simp only [Qz,Rh]; omega) ?_
    repeat'(first|refine wk3 ?_|(refine wk2 ?_ ?_<;>intro _)|fail)
    refine Xz (elems:=E2) (ys:=[[.asl 70 0 (N.length+1),I iox,I ioy,I aa1,I aa2,I bb1,I bb2,I nx]]) rfl rfl rfl rfl rfl rfl rfl rfl rfl rfl (by simp) lE2 (by simp only [Qz,Rh]; omega) ?_
    repeat'(first|refine wk3 ?_|(refine wk2 ?_ ?_<;>intro _)|fail)
    have hren:E2++[[Fu 70 0 (N.length+1),I iox,I ioy,I aa1,I aa2,I bb1,I bb2,I nx]]=Vg (fOf [(61,96),(62,70)]) (E2++[[Fu 62 0 (N.length+1),I iox,I ioy,I aa1,I aa2,I bb1,I bb2,I nx]]):=by rw [hels2,Zer,Zk5]; rfl
    have hids:Zby 63 (E2++[[Fu 62 0 (N.length+1),I iox,I ioy,I aa1,I aa2,I bb1,I bb2,I nx]])=true:=by rw [hels2,Zjx,Zxa]; rfl
    exact Qr ⟨(k+2,j+1,Qa Qb ((j:Int)+1),E2,(aa1,aa2,bb1,bb2,nx)),[(61,96),(62,70)],rfl,kps,⟨⟨rfl,rfl,rfl⟩,⟨rfl,rfl,⟨_,rfl,hren,hids⟩⟩,kps⟩,⟨by show k+2=j+1; omega,Zb (by omega),by show j+1<=T.length-1; omega,fun k0 q=>by
     have hk0:k0=j:=by dsimp only at q; omega
     subst hk0
     exact ⟨hels2,hb.symm⟩⟩,by show T.length-(j+1)<T.length-j; omega⟩
   ·have hjn:j=T.length-1:=by omega
    subst hjn
    subst hels2
    refine bs.av (sx:=ins1) hk ?_
    repeat'(first|refine wk3 ?_|(refine wk2 ?_ ?_<;>intro _)|fail)
    all_goals first|(exfalso; omega)|skip
    exact Yk [61] rfl (by rw [<-lE2]; rfl) rfl
theorem e59 {h:Hal} (hf:h.few) (g:h.fine) {m:Bm} (G:GoodB h m) (hlen:m.ws.length<4):PCall Tryz.prog 59 [h.av,.agg (bmA m)] ⟨.isl 8 ((behB h.cs m).map bmA),[]⟩:=Ou (e59i hf g G hlen) ⟨NA.rfl,Yic m,trivial⟩
noncomputable abbrev rBr (h:Hal):List AV->Option PRes:=famA (fun m:Bm=>GoodB h m/\m.ws.length<4) (fun m=>[h.av,.agg (bmA m)]) (fun m=>⟨.isl 8 ((behB h.cs m).map bmA),[]⟩)
theorem Ydm {h:Hal} {m:Bm} (G:GoodB h m) (hl:m.ws.length<4):rBr h [h.av,.agg (bmA m)]=some ⟨.isl 8 ((behB h.cs m).map bmA),[]⟩ :=
 Zl (p:=fun m:Bm=>GoodB h m/\m.ws.length<4) (g:=fun m=>[h.av,.agg (bmA m)]) (r:=fun m=>⟨.isl 8 ((behB h.cs m).map bmA),[]⟩) (k:=m) (fun j hj=>by
  simp only [Rd,Pj,true_and,and_true] at hj
  rw [Zkf hj]) ⟨G,hl⟩
theorem Yfx {h:Hal} (hf:h.few) (g:h.fine) {pt:PC} (hp:PCOK Tryz.prog pt):PCOK Tryz.prog (ins 59 (rBr h) pt):=Zn (fun m hm=>e59 hf g hm.1 hm.2) hp
theorem e26 {h:Hal} (hf:h.few) (g:h.fine) {o:V} (k0:InSrc h o) {n:Nat} (hn:n<=2):PCall Tryz.prog 26 [h.av,P2 o.1 o.2,I n] ⟨.isl 8 ((outB h.cs o n).map bmA),[]⟩:=by
 have c58:=e58 hf g k0
 have hk:=Zf c58 (Yfx hf g Ze)
 have hhit:=fun (m:Bm) (G:GoodB h m) (hl:m.ws.length<4)=>Ydm G hl
 have hgd:=fun m hm=>Zds g k0 n (by omega) m hm
 have hbl:=fun (m:Bm) (G:GoodB h m) (hl:m.ws.length<4)=>Zra g G hl
 have hget:=fun i (hi:i<(quB h.cs o n i).length)=>Ydr g k0 (by omega:n<=4) hi
 have hend:=fun i (hi:(quB h.cs o n i).length<=i) (hle:i<=(quB h.cs o n i).length)=>Yds g k0 (by omega:n<=4) hi hle
 have hle:=fun i=>Yf9 g k0 (by omega:n<=4) i
 have h2000:=Zfz g k0 hn
 have hR:Zu h.cs o=quB h.cs o n 0:=by unfold quB; simp
 rw [hR] at hk
 clear c58
 generalize rBr h=TB at *
 refine Nw (res:=⟨.asl 0 0 ((outB h.cs o n).map bmA).length,[(8,(outB h.cs o n).map bmA)]⟩) ?_ ⟨rfl,rfl,rfl⟩
 generalize quB h.cs o n=Q at *
 generalize outB h.cs o n=OB at *
 have lQ0:((Q 0).map bmA).length=(Q 0).length:=Qj _
 obtain ⟨ox,oy⟩:=o
 dsimp only at hk
 generalize hE0:(Q 0).map bmA=E0 at *
 refine pn hk Tryz.func26 ?_
 repeat'(first|refine wk3 ?_|(refine wk2 ?_ ?_<;>intro _)|fail)
 refine Ybz (S:=Nat × Int × Nat × List (List AV)) (fun t=>OB.length-t.1) (fun t=>[(2,I (n:Int)),(3,.ptr 0 0 0),(4,.ptr 1 0 0),(7,.asl 3 0 t.2.2.1),(8,I t.2.1)])
  (fun t=>[(3,.row 8 t.2.2.2 true true),(1,.row 2 [[I ox,I oy]] true false),(0,.row 9 [h.cells] true false)]) 3 4
  (fun t=>t.2.1=t.1/\t.1<=(Q t.1).length/\t.2.2.1=t.2.2.2.length/\t.2.2.2=(Q t.1).map bmA) (0,0,E0.length,E0) ⟨rfl,Qp _,rfl,hE0.symm⟩ (Qm rfl) [(3,2)] rfl (kps) (kps) ?_
 rintro ⟨j,i,len,els⟩ ⟨hi,hj,hlen,hels⟩
 dsimp only at hi hj hlen hels ⊢
 subst hi
 have lel:els.length=(Q j).length:=by rw [hels,Qj]
 have hlj:=hle j
 by_cases hlt:j<(Q j).length
 ·obtain ⟨hl,g1',g2'⟩:=hget j hlt
  have e1:els[0+((j:Nat):Int).toNat]?=some (bmA OB[j]):=by
   rw [hels,Sk,Ri,Rr,Qe hlt,g1']
   rfl
  obtain ⟨G,hw⟩:=hgd OB[j] (Qn hl)
  have hlj1:=hle (j+1)
  obtain ⟨Aw,eA,hAw,hA⟩:=Zyz OB[j]
  have t1:=hhit OB[j] G (by omega)
  have hb:=hbl OB[j] G (by omega)
  rw [eA] at e1 t1
  have hbn:behN h.cs n OB[j]=if OB[j].ws.length<n then behB h.cs OB[j] else []:=rfl
  rw [hbn] at g2'
  have lws:(nl OB[j].ws).length=OB[j].ws.length:=Zp _
  have hnil:Aw = .nils->OB[j].ws.length=0:=fun q=>by
   rw [q] at hAw
   unfold wsA at hAw
   cases hw0:OB[j].ws with
   | nil=>rfl
   | cons x r=>rw [hw0] at hAw; cases hAw
  clear hend hget hgd hbl hhit hle eA hbn g1'
  generalize OB[j]=m at *
  have o1:=Zb9 (behB h.cs m)
  have l7:((behB h.cs m).map bmA).length=(behB h.cs m).length:=Qj _
  have hne:(behB h.cs m).map bmA≠[]:=fun q=>by rw [q] at l7; simp at l7; omega
  by_cases hc:m.ws.length<n
  ·rw [if_pos hc] at g2'
   have e5:els++(behB h.cs m).map bmA=(Q (j+1)).map bmA:=by rw [g2',Rm,<-hels]
   have lq:(Q (j+1)).length=(Q j).length+(behB h.cs m).length:=by rw [g2',Rb]
   generalize (behB h.cs m).map bmA=E at *
   rcases hA with rfl|rfl
   ·have h0:=hnil rfl
    have hn0:((0:Int)<(n:Int)):=by omega
    refine bs.av (sx:=nos) hk ?_
    repeat'(first|refine wk3 ?_|(refine wk2 ?_ ?_<;>intro _)|fail)
    all_goals first|(exfalso; omega)|skip
    refine Xz (elems:=els) (ys:=E) rfl rfl rfl rfl rfl rfl rfl rfl rfl o1 hne hlen (by omega) ?_
    repeat'(first|refine wk3 ?_|(refine wk2 ?_ ?_<;>intro _)|fail)
    exact Qr ⟨(j+1,Qa Qb ((j:Int)+1),els.length+E.length,els++E),[(3,11)],rfl,kps,kps,⟨Zb (by omega),by show j+1<=(Q (j+1)).length; omega,by exact List.length_append.symm,e5⟩,by show OB.length-(j+1)<OB.length-j; omega⟩
   ·refine bs.av (sx:=nos) hk ?_
    repeat'(first|refine wk3 ?_|(refine wk2 ?_ ?_<;>intro _)|fail)
    all_goals first|(exfalso; omega)|skip
    refine Xz (elems:=els) (ys:=E) rfl rfl rfl rfl rfl rfl rfl rfl rfl o1 hne hlen (by omega) ?_
    repeat'(first|refine wk3 ?_|(refine wk2 ?_ ?_<;>intro _)|fail)
    exact Qr ⟨(j+1,Qa Qb ((j:Int)+1),els.length+E.length,els++E),[(3,11)],rfl,kps,kps,⟨Zb (by omega),by show j+1<=(Q (j+1)).length; omega,by exact List.length_append.symm,e5⟩,by show OB.length-(j+1)<OB.length-j; omega⟩
  ·rw [if_neg hc,Pv] at g2'
   rcases hA with rfl|rfl
   ·have h0:=hnil rfl
    refine bs.av (sx:=nos) hk ?_
    repeat'(first|refine wk3 ?_|(refine wk2 ?_ ?_<;>intro _)|fail)
    all_goals first|(exfalso; omega)|exact Qr ⟨(j+1,Qa Qb ((j:Int)+1),len,els),[(3,3)],rfl,kps,kps,⟨Zb (by omega),by rw [g2']; exact hlt,hlen,by rw [g2']; exact hels⟩,by dsimp only; omega⟩
   ·refine bs.av (sx:=nos) hk ?_
    repeat'(first|refine wk3 ?_|(refine wk2 ?_ ?_<;>intro _)|fail)
    all_goals first|(exfalso; omega)|exact Qr ⟨(j+1,Qa Qb ((j:Int)+1),len,els),[(3,3)],rfl,kps,kps,⟨Zb (by omega),by rw [g2']; exact hlt,hlen,by rw [g2']; exact hels⟩,by dsimp only; omega⟩
 ·have hq:=hend j (by omega) hj
  rw [hq] at hels
  subst hels
  refine bs.av (sx:=nos) hk ?_
  repeat'(first|refine wk3 ?_|(refine wk2 ?_ ?_<;>intro _)|fail)
  exact Yk [3] rfl (by rw [hlen]; rfl) rfl
open Go Go.Sx
structure Ask where
 fx:Int
 fy:Int
 fz:Int
 tx:Int
 ty:Int
 tz:Int
 n:Int
abbrev Ask.av (a:Ask):AV:=.agg [I a.fx,I a.fy,I a.fz,I a.tx,I a.ty,I a.tz,I a.n]
def Ask.same (a:Ask):Bool:=decide (a.fx=a.tx)&&(decide (a.fy=a.ty)&&decide (a.fz=a.tz))
def askE (h:Hal) (s:Stg) (a:Ask):Int:=if serr h s=0 then fstL [plaE h a.fx a.fy a.fz,plaE h a.tx a.ty a.tz,unl (!a.same) 11,unl (within a.n 0 4) 2] else serr h s
theorem Zi4 {h:Hal} {s:Stg} (e:serr h s=0):h.err=0:=by
 unfold serr at e
 split at e
 ·assumption
 ·rename_i q; exact absurd e q
def r80:List AV->Option PRes
 | [.bool b,.int .i64 e]=>some ⟨I (unl b e),[]⟩
 | _=>none
theorem Yf1 {pt:PC} (h:PCOK Tryz.prog pt):PCOK Tryz.prog (ins 75 r80 pt):=Zk (fun a res h=>by unfold r80 at h; split at h<;>cases h; exact d209 _ _) h
noncomputable abbrev r79 (h:Hal):List AV->Option PRes:=famA (fun _:Pl3=>True) (fun p=>[h.av,P3 p.1 p.2.1 p.2.2]) (fun p=>⟨I (plaE h p.1 p.2.1 p.2.2),[]⟩)
theorem Yf2 {h:Hal} (hk:h.ok) (he:h.err=0) {pt:PC} (hp:PCOK Tryz.prog pt):PCOK Tryz.prog (ins 74 (r79 h) pt):=Zn (fun p _=>d79 hk he p.1 p.2.1 p.2.2) hp
theorem Zmf (h:Hal) (x y z:Int):r79 h [h.av,P3 x y z]=some ⟨I (plaE h x y z),[]⟩ :=
 Zl (p:=fun _:Pl3=>True) (g:=fun p=>[h.av,P3 p.1 p.2.1 p.2.2]) (r:=fun p=>⟨I (plaE h p.1 p.2.1 p.2.2),[]⟩) (k:=(x,y,z)) (fun j hj=>by
  simp only [Rd,Pj,Tt,true_and,and_true] at hj
  obtain ⟨h1,h2,h3⟩:=hj
  rw [h1,h2,h3]) trivial
theorem Yf7 {h:Hal} (hk:h.ok) (he:h.err=0) {pt:PC} (hp:PCOK Tryz.prog pt):PCOK Tryz.prog (ins 66 (r79 h) pt):=Zn (fun p _=>d27 hk he p.1 p.2.1 p.2.2) hp
noncomputable abbrev rFst:List AV->Option PRes:=famA (fun l:List Int=>l.length<1000) (fun l=>[.isl 1 (nl l)]) (fun l=>⟨I (fstL l),[]⟩)
theorem Ydj {pt:PC} (hp:PCOK Tryz.prog pt):PCOK Tryz.prog (ins 39 rFst pt):=Zn (fun l hl=>d78 hl) hp
theorem Zzy {l:List Int} (h:l.length<1000):rFst [.isl 1 (nl l)]=some ⟨I (fstL l),[]⟩ :=
 Zl (p:=fun l:List Int=>l.length<1000) (g:=fun l=>[.isl 1 (nl l)]) (r:=fun l=>⟨I (fstL l),[]⟩) (fun j hj=>by
  simp only [Rd,AV.isl.injEq,true_and,and_true] at hj
  rw [Ybx hj]) h
theorem g60 {h:Hal} (hk:h.ok) {s:Stg} (hs:s.few) (a:Ask):PCall Tryz.prog 60 [h.av,s.av,a.av] ⟨I (askE h s a),[]⟩:=by
 have hk0:=Zf (c47 hk hs) Ze
 by_cases e:serr h s=0
 ·have he:=Zi4 e
  obtain ⟨fx,fy,fz,tx,ty,tz,n⟩:=a
  unfold askE
  rw [if_pos e]
  rw [e] at hk0
  dsimp only
  have hk1:=Yf2 hk he (Yf1 (Zf (d81 n) (Ydj hk0)))
  have q1:=Zmf h fx fy fz
  have q2:=Zmf h tx ty tz
  refine pn hk1 Tryz.func60 ?_
  repeat'(first|refine wk3 ?_|(refine wk2 ?_ ?_<;>intro _)|fail)
  refine wxG (Zzy (l:=[_,_,_,_]) (by simp)) ?_
  conv=>whnf
  repeat'(first|refine wk3 ?_|(refine wk2 ?_ ?_<;>intro _)|fail)
  exact Zc (by simp [Ask.same])
 ·rw [show askE h s a=serr h s by unfold askE; rw [if_neg e]]
  refine pn hk0 Tryz.func60 ?_
  repeat'(first|refine wk3 ?_|(refine wk2 ?_ ?_<;>intro _)|fail)
  all_goals first
   | exact Zc rfl
   | (exfalso; simp_all; done)
theorem g31 {h:Hal} (hk:h.ok) {s:Stg} (hs:s.few) (a:Ask):PCall Tryz.prog 31 [h.av,s.av,a.av] ⟨I (askE h s a),[]⟩:=by
 have hk0:=Zf (p90 hk) (Zf (c75 hk.f hs) Ze)
 by_cases e:serr h s=0
 ·have he:=Zi4 e
  have e2:setE h s=0:=by unfold serr at e; rw [if_pos he] at e; exact e
  obtain ⟨fx,fy,fz,tx,ty,tz,n⟩:=a
  unfold askE
  rw [if_pos e]
  rw [he,e2] at hk0
  dsimp only
  have hk1:=Yf7 hk he (Zf (d68 n) hk0)
  have q1:=Zmf h fx fy fz
  have q2:=Zmf h tx ty tz
  simp only [fstL]
  refine pn hk1 Tryz.func31 ?_
  clear hk1 hk0
  repeat'(first|refine wk3 ?_|(refine wk2 ?_ ?_<;>intro _)|fail)
  all_goals first
   | (refine Zc ?_; simp_all [Ask.same,unl]; done)
   | (refine Zc ?_; clear q1 q2; cases hw:within n 0 4<;>by_cases c1:fx=tx<;>by_cases c2:fy=ty<;>by_cases c3:fz=tz<;>simp_all [Ask.same,unl]<;>done)
   | (exfalso; simp_all; done)
 ·rw [show askE h s a=serr h s by unfold askE; rw [if_neg e]]
  unfold serr at e ⊢
  refine pn hk0 Tryz.func31 ?_
  clear hk0
  repeat'(first|refine wk3 ?_|(refine wk2 ?_ ?_<;>intro _)|fail)
  all_goals first
   | (refine Zc ?_; simp_all; done)
   | (exfalso; simp_all; done)
open Go Go.Sx Go.Ge
def aftB (cs:List (Int × Int)) (o d:V) (l:Nat):Bool:=match htW (wlOf cs l) (ryV o d) with
 | some x=>decide (x.nu<x.de)
 | none=>false
def befB (cs:List (Int × Int)) (o d:V) (l:Nat):Bool:=match htW (wlOf cs l) (ryV o d) with
 | some x=>decide (x.de<x.nu)
 | none=>false
def lstB (cs:List (Int × Int)) (o d:V):Option Nat->Bool
 | none=>true
 | some l=>aftB cs o d l
def secB (m:Bm) (d:V):Bool:=decide (0<Si m.a d)&&decide (0<Si d m.b)
def Zbu (cs:List (Int × Int)) (m:Bm) (p:V):Bool:=secB m (toW m.o p)&&(lstB cs m.o (toW m.o p) (Zw m.ws)&&befB cs m.o (toW m.o p) m.nx.toNat)
def InB5 (p:V):Prop:=(-5000<=p.1/\p.1<=5000)/\(-5000<=p.2/\p.2<=5000)
theorem Zxk {h:Hal} {m:Bm} (G:GoodB h m) (hl:m.ws.length<4) {p:V} (hp:InB5 p):OB m.o/\((-50000<=(toW m.o p).1/\(toW m.o p).1<=50000)/\(-50000<=(toW m.o p).2/\(toW m.o p).2<=50000)):=by
 have h1:=G.ox
 unfold InB5 at hp
 refine ⟨⟨by omega,by omega⟩,?_⟩
 unfold toW
 dsimp only
 omega
theorem Yep {h:Hal} {m:Bm} (G:GoodB h m) {d:V} (hs:secB m d=true):LP h.cs m.o (Zw m.ws) d:=fun l q=>by
 unfold secB at hs
 rw [Qc,decide_eq_true_eq,decide_eq_true_eq] at hs
 obtain ⟨w,_,K⟩:=G.sec
 obtain ⟨q1,t,q2,q3⟩:=K.lp l q
 exact ⟨q1,t,q2,(q3 _ hs.1 hs.2).n⟩
theorem Zgd {h:Hal} {m:Bm} (G:GoodB h m):∀ l,Zw m.ws=some l->l<h.cs.length:=fun l q=>by
 obtain ⟨w,_,K⟩:=G.sec
 exact (K.lp l q).1
theorem Ye7 {h:Hal} (g:h.fine) {m:Bm} (G:GoodB h m) {d:V} (b:RyB (ryV m.o d)) (hs:secB m d=true):byR h.cs (ryV m.o d) (laI (Zw m.ws)) (1,1)=lstB h.cs m.o d (Zw m.ws):=by
 have hlp:=Yep G hs
 rw [Sc,Zyu g b (Zgd G)]
 cases hL:Zw m.ws with
 | none =>
  unfold lstB
  exact ⟨fun _=>rfl,fun _=>⟨fun l q=>(by cases q),fun l t q=>(by cases q)⟩⟩
 | some l =>
  have hl:=Zgd G l hL
  rw [hL] at hlp
  rw [<-rln g hl]
  obtain ⟨_,t,n,x,_,_,x1,x2,_⟩:=hlp.hit g rfl
  show _↔aftB h.cs m.o d l=true
  unfold aftB
  rw [x1]
  constructor
  ·rintro ⟨y,e,h1,h2⟩
   cases e
   exact decide_eq_true h2
  ·intro q
   exact ⟨x,rfl,x2,of_decide_eq_true q⟩
theorem Yht {h:Hal} (g:h.fine) {o d:V} (b:RyB (ryV o d)) {l:Nat} (hl:l<h.cs.length):(lnO (wlOf h.cs l) (ryV o d)&&lsW (1,1) (lnQ (wlOf h.cs l) (ryV o d)))=befB h.cs o d l:=by
 obtain ⟨n,sx,sy,hs⟩:=g.st l hl
 unfold befB
 rw [Vn hs]
 cases hx:htN (wlOf h.cs l) n sx sy (ryV o d) with
 | none=>rw [Zmp hs b hx,Nm]
 | some x =>
  obtain ⟨q1,q2⟩:=Zif hs b hx
  have hb:=Zjy hs b hx
  have hls:=Zn2 (a:=1) (b:=1) (c:=x.nu) (d:=x.de) (n:=1) (m:=n) (by omega) ⟨hs.hn,hs.nle⟩ (by omega) (by omega) hb.nu hb.de
  rw [Sj,Sj,Int.mul_one] at hls
  rw [q1,q2,hls,Sc,Qc,decide_eq_true_eq,decide_eq_true_eq]
  have:=hb.de
  omega
theorem Zwj {ws:List Int} {x:Int} {r:List Int} (e:ws=x::r) (hw:∀ x∈ws,0<=x) (hl:ws.length<4):(nl ws)[(Qa Qb (((nl ws).length:Nat)-1:Int)).toNat]?=some [I (laI (Zw ws))]:=by
 have hn:=Zp ws
 have h1:1<=ws.length:=by rw [e]; simp
 rw [W_eq (by omega) (by omega),hn,show ((ws.length:Int)-1).toNat=ws.length-1 by omega]
 rw [<-Yb6 hw]
 unfold laW nl
 rw [Rr]
 cases hq:ws.getLast? with
 | none=>rw [List.getLast?_eq_none_iff] at hq; rw [hq] at h1; simp at h1
 | some y =>
  rw [List.getLast?_eq_getElem?] at hq
  rw [hq]
  rfl
theorem g63w {h:Hal} (T1 T2 T3:List AV->Option PRes) (Aw:AV) (N:List (List AV)) {ox oy ax ay bx by' px py nx la lq1 lq2:Int} {B1 B2 B3 B4:Bool} (hA:Aw = .nils/\la = -1\/Aw = .isl 1 N/\0<N.length/\N.length<1000/\N[(Qa Qb ((N.length:Nat)-1:Int)).toNat]?=some [I la])
  (hk:PCOK Tryz.prog (ins 100 rFr (ins 43 rWy (ins 54 rBt (ins 101 T1 (ins 102 T2 (ins 80 T3 pt0)))))))
  (hB:btW (ax,ay) (bx,by') (Qa Qb (px-ox),Qa Qb (py-oy))=B1)
  (h1:T1 [h.av,.agg [I ox,I oy,I (Qa Qb (px-ox)),I (Qa Qb (py-oy)),I la],I nx]=some ⟨.tup [P2 lq1 lq2,Bo B3],[]⟩)
  (h2:T2 [h.av,.agg [I ox,I oy,I (Qa Qb (px-ox)),I (Qa Qb (py-oy)),I la],P2 1 1]=some ⟨Bo B2,[]⟩)
  (h3:T3 [P2 1 1,P2 lq1 lq2]=some ⟨Bo B4,[]⟩):PCall Tryz.prog 63 [h.av,.agg [Aw,I ox,I oy,I ax,I ay,I bx,I by',I nx],P2 px py] ⟨Bo (B1&&(B2&&(B3&&B4))),[]⟩:=by
 cases B1 with
 | false =>
  rcases hA with ⟨rfl,rfl⟩|⟨rfl,a1,a2,a3⟩
  all_goals
   refine pn hk Tryz.func63 ?_
   repeat'(first|refine wk3 ?_|(refine wk2 ?_ ?_<;>intro _)|fail)
   all_goals first|exact Za rfl|(exfalso; rename_i q; rw [hB] at q; cases q; done)|(exfalso; clear hk h1 h2 h3; simp_all; done)
 | true =>
  have dd:0<N.length->N.length<1000->decide ((0:Int)<(N.length:Int))=true/\decide (0<=Qa Qb ((N.length:Nat)-1:Int)/\Qa Qb ((N.length:Nat)-1:Int)<(N.length:Int))=true:=fun a b=>⟨decide_eq_true (by omega),decide_eq_true (by rw [W_eq (by omega) (by omega)]; omega)⟩
  rcases hA with ⟨rfl,rfl⟩|⟨rfl,a1,a2,a3⟩
  all_goals
   have dd1:=fun a b=>(dd a b).1
   have dd2:=fun a b=>(dd a b).2
   first|have dd1:=dd1 (by assumption) (by assumption)|skip
   first|have dd2:=dd2 (by assumption) (by assumption)|skip
   cases B2<;>cases B3
   all_goals
    refine pn hk Tryz.func63 ?_
    repeat'(first|refine wk3 ?_|(refine wk2 ?_ ?_<;>intro _)|fail)
    all_goals first|exact Za rfl|(exfalso; rename_i q; rw [hB] at q; cases q; done)|(exfalso; omega)|(exfalso; exact Me (dd1.symm.trans (by assumption)))|(exfalso; exact Me (dd2.symm.trans (by assumption)))|(exfalso; clear hk h1 h2 h3; simp_all; done)
theorem g63 {h:Hal} (hf:h.few) (g:h.fine) {m:Bm} (G:GoodB h m) (hl:m.ws.length<4) {p:V} (hp:InB5 p):PCall Tryz.prog 63 [h.av,.agg (bmA m),P2 p.1 p.2] ⟨Bo (Zbu h.cs m p),[]⟩:=by
 obtain ⟨hob,hd⟩:=Zxk G hl hp
 have rb:RyB (ryV m.o (toW m.o p)):=Zi8 hob (by omega) (by omega)
 have hv:=Zav hd
 have ew1:(toW m.o p).1=Qa Qb (p.1-m.o.1):=by
  unfold toW at hd ⊢
  dsimp only at hd ⊢
  rw [W_eq (by omega) (by omega)]
 have ew2:(toW m.o p).2=Qa Qb (p.2-m.o.2):=by
  unfold toW at hd ⊢
  dsimp only at hd ⊢
  rw [W_eq (by omega) (by omega)]
 have eT:(Qa Qb (p.1-m.o.1),Qa Qb (p.2-m.o.2))=toW m.o p:=by rw [<-ew1,<-ew2]
 obtain ⟨w,enx,K⟩:=G.sec
 have hw:=K.wlt
 have hla:laI (Zw m.ws)<h.cs.length:=by
  cases hq:Zw m.ws with
  | none=>unfold laI; dsimp only; have:=g.le.2.1; omega
  | some l=>have:=Zgd G l hq; unfold laI; dsimp only; omega
 have hB:btW m.a m.b (toW m.o p)=secB m (toW m.o p):=Zs5 (Zav G.ba) (Zav G.bb) hv K.ab
 have t1:=Zv3 hw (ryV m.o (toW m.o p)) (laI (Zw m.ws))
 have c102:=e102 hf (ryV m.o (toW m.o p)) hla 1 1
 have hk:PCOK Tryz.prog (ins 100 rFr (ins 43 rWy (ins 54 rBt (ins 101 (rLn h) (ins 102 (one [h.av,(ryV m.o (toW m.o p)).av (laI (Zw m.ws)),P2 1 1] ⟨Bo (byR h.cs (ryV m.o (toW m.o p)) (laI (Zw m.ws)) (1,1)),[]⟩) (ins 80 rLs pt0)))))) :=
  Zk (fun a res h=>by unfold rFr at h; split at h<;>cases h; exact d87 _ _ _ _) (Zk (fun a res h=>by unfold rWy at h; split at h<;>cases h; exact d93 _ _) (Ybt (Ybq hf (Zf c102 (Zr3 Ze)))))
 have hres:Zbu h.cs m p=(secB m (toW m.o p)&&(byR h.cs (ryV m.o (toW m.o p)) (laI (Zw m.ws)) (1,1)&&(lnO (wlOf h.cs w) (ryV m.o (toW m.o p))&&lsW (1,1) (lnQ (wlOf h.cs w) (ryV m.o (toW m.o p)))))):=by
  unfold Zbu
  have ew:m.nx.toNat=w:=by omega
  rw [Yht g rb hw,ew]
  cases hs:secB m (toW m.o p) with
  | false=>rfl
  | true=>rw [Ye7 g G rb hs]
 rw [hres]
 have hr:(ryV m.o (toW m.o p)).av (laI (Zw m.ws)) = .agg [I m.o.1,I m.o.2,I (Qa Qb (p.1-m.o.1)),I (Qa Qb (p.2-m.o.2)),I (laI (Zw m.ws))]:=by rw [<-ew1,<-ew2]
 have t2:=Vi [h.av,(ryV m.o (toW m.o p)).av (laI (Zw m.ws)),P2 1 1] ⟨Bo (byR h.cs (ryV m.o (toW m.o p)) (laI (Zw m.ws)) (1,1)),[]⟩
 have t3:rLs [P2 1 1,P2 (lnQ (wlOf h.cs w) (ryV m.o (toW m.o p))).1 (lnQ (wlOf h.cs w) (ryV m.o (toW m.o p))).2]=some ⟨Bo (lsW (1,1) (lnQ (wlOf h.cs w) (ryV m.o (toW m.o p)))),[]⟩:=rfl
 rw [hr] at t1
 have t2:=t2
 generalize one [h.av,(ryV m.o (toW m.o p)).av (laI (Zw m.ws)),P2 1 1] ⟨Bo (byR h.cs (ryV m.o (toW m.o p)) (laI (Zw m.ws)) (1,1)),[]⟩=T2 at *
 rw [hr] at t2
 have hB:btW (m.a.1,m.a.2) (m.b.1,m.b.2) (Qa Qb (p.1-m.o.1),Qa Qb (p.2-m.o.2))=secB m (toW m.o p):=by rw [eT]; exact hB
 have hbA:bmA m=[wsA m.ws,I m.o.1,I m.o.2,I m.a.1,I m.a.2,I m.b.1,I m.b.2,I w]:=by unfold bmA; rw [enx]
 rw [hbA]
 refine g63w _ _ _ (wsA m.ws) (nl m.ws) ?_ hk hB t1 t2 t3
 cases hw0:m.ws with
 | nil=>exact .inl ⟨rfl,rfl⟩
 | cons x r =>
  refine .inr ⟨rfl,?_,?_,?_⟩
  ·rw [Zp]; simp
  ·rw [Zp,<-hw0]; omega
  ·have:=Zwj hw0 (fun x hx=>(G.ws x hx).1) hl
   rwa [hw0] at this
theorem g67z {h:Hal} (Aw:AV) (N:List (List AV)) (hA:Aw = .nils\/Aw = .isl 1 N) {ox oy ax ay bx by' px py nx:Int} (hz1:Qa Qb (px-ox)=0) (hz2:Qa Qb (py-oy)=0):PCall Tryz.prog 67 [h.av,.agg [Aw,I ox,I oy,I ax,I ay,I bx,I by',I nx],P2 px py] ⟨Bo false,[]⟩:=by
 rcases hA with rfl|rfl
 all_goals
  refine pn Ze Tryz.func67 ?_
  repeat'(first|refine wk3 ?_|(refine wk2 ?_ ?_<;>intro _)|fail)
  all_goals first|exact Za rfl|(exfalso; simp_all; done)
abbrev mtA (n d:Int) (o w ok:Bool):AV:=.tup [.agg [I n,I d,Bo o,Bo w],Bo ok]
theorem g67w {h:Hal} (T95 T86 T85 T114:List AV->Option PRes) (Aw:AV) (ln1 ln2:Ln) (N:List (List AV)) {ox oy ax ay bx by' px py ux uy nx la n1 d1 C1 n2 d2 C2:Int} {B1 B2 ok1 o1 w1 ok2 o2 w2:Bool}
  (hA:Aw = .nils/\B2=true\/Aw = .isl 1 N/\0<N.length/\N.length<1000/\N[(Qa Qb ((N.length:Nat)-1:Int)).toNat]?=some [I la]/\T86 [h.av,I la]=some ⟨ln1.av,[]⟩/\T85 [ln1.av,.agg [I ox,I oy,I (Qa Qb (px-ox)),I (Qa Qb (py-oy))]]=some ⟨mtA n1 d1 o1 w1 ok1,[]⟩/\(ok1=true->T114 [I n1,I d1,I 1,I 1]=some ⟨I C1,[]⟩)/\B2=(ok1&&decide (C1<0)))
  (hk:PCOK Tryz.prog (ins 95 T95 (ins 97 rB7 (ins 86 T86 (ins 85 T85 (ins 114 T114 pt0))))))
  (hz:¬(Qa Qb (px-ox)=0/\Qa Qb (py-oy)=0)) (h95:T95 [I (Qa Qb (px-ox)),I (Qa Qb (py-oy))]=some ⟨P2 ux uy,[]⟩) (hB:btW (ax,ay) (bx,by') (ux,uy)=B1)
  (h1:T86 [h.av,I nx]=some ⟨ln2.av,[]⟩) (h2:T85 [ln2.av,.agg [I ox,I oy,I (Qa Qb (px-ox)),I (Qa Qb (py-oy))]]=some ⟨mtA n2 d2 o2 w2 ok2,[]⟩) (h3:ok2=true->T114 [I n2,I d2,I 1,I 1]=some ⟨I C2,[]⟩) :
  PCall Tryz.prog 67 [h.av,.agg [Aw,I ox,I oy,I ax,I ay,I bx,I by',I nx],P2 px py] ⟨Bo (B1&&(B2&&(ok2&&decide (0<C2)))),[]⟩:=by
 have hz' : Qa Qb (px-ox)=0 -> ¬ Qa Qb (py-oy)=0:=fun a b=>hz ⟨a,b⟩
 cases B1 with
 | false =>
  rcases hA with ⟨rfl,rfl⟩|⟨rfl,a1,a2,a3,a4,a5,a6,a7⟩
  all_goals
   by_cases z1:Qa Qb (px-ox)=0
   ·have z2:=hz' z1
    refine pn hk Tryz.func67 ?_
    repeat'(first|refine wk3 ?_|(refine wk2 ?_ ?_<;>intro _)|fail)
    all_goals first|exact Za rfl|(exfalso; exact z2 (by assumption))|(exfalso; have q:btW (ax,ay) (bx,by') (ux,uy)=true:=(by assumption); rw [hB] at q; cases q; done)|(exfalso; clear hk; simp_all; done)
   ·refine pn hk Tryz.func67 ?_
    repeat'(first|refine wk3 ?_|(refine wk2 ?_ ?_<;>intro _)|fail)
    all_goals first|exact Za rfl|(exfalso; exact z1 (by assumption))|(exfalso; have q:btW (ax,ay) (bx,by') (ux,uy)=true:=(by assumption); rw [hB] at q; cases q; done)|(exfalso; clear hk; simp_all; done)
 | true =>
  rcases hA with ⟨rfl,rfl⟩|⟨rfl,a1,a2,a3,a4,a5,a6,rfl⟩
  ·cases ok2 with
   | false =>
    refine pn hk Tryz.func67 ?_
    repeat'(first|refine wk3 ?_|(refine wk2 ?_ ?_<;>intro _)|fail)
    all_goals first|exact Za rfl|(exfalso; exact hz ⟨by assumption,by assumption⟩)|(exfalso; exact hz ⟨of_decide_eq_true (by assumption),of_decide_eq_true (by assumption)⟩)|(exfalso; have q:btW (ax,ay) (bx,by') (ux,uy)=false:=(by assumption); rw [hB] at q; cases q; done)|(exfalso; clear hk; simp_all; done)
   | true =>
    have h3:=h3 rfl
    refine pn hk Tryz.func67 ?_
    repeat'(first|refine wk3 ?_|(refine wk2 ?_ ?_<;>intro _)|fail)
    all_goals first|exact Za rfl|(exfalso; exact hz ⟨by assumption,by assumption⟩)|(exfalso; exact hz ⟨of_decide_eq_true (by assumption),of_decide_eq_true (by assumption)⟩)|(exfalso; have q:btW (ax,ay) (bx,by') (ux,uy)=false:=(by assumption); rw [hB] at q; cases q; done)|(exfalso; clear hk; simp_all; done)
  ·have eW:0<=Qa Qb ((N.length:Nat)-1:Int)/\Qa Qb ((N.length:Nat)-1:Int)<(N.length:Int):=by rw [W_eq (by omega) (by omega)]; omega
   cases ok1 with
   | false =>
    refine pn hk Tryz.func67 ?_
    repeat'(first|refine wk3 ?_|(refine wk2 ?_ ?_<;>intro _)|fail)
    all_goals first|exact Za rfl|(exfalso; exact hz ⟨by assumption,by assumption⟩)|(exfalso; exact hz ⟨of_decide_eq_true (by assumption),of_decide_eq_true (by assumption)⟩)|(exfalso; have q:btW (ax,ay) (bx,by') (ux,uy)=false:=(by assumption); rw [hB] at q; cases q; done)|(exfalso; omega)|(exfalso; clear hk; simp_all; done)
   | true =>
    have a6:=a6 rfl
    by_cases hc:C1<0
    ·rw [decide_eq_true hc]
     cases ok2 with
     | false =>
      refine pn hk Tryz.func67 ?_
      repeat'(first|refine wk3 ?_|(refine wk2 ?_ ?_<;>intro _)|fail)
      all_goals first|exact Za rfl|(exfalso; exact hz ⟨by assumption,by assumption⟩)|(exfalso; exact hz ⟨of_decide_eq_true (by assumption),of_decide_eq_true (by assumption)⟩)|(exfalso; have q:btW (ax,ay) (bx,by') (ux,uy)=false:=(by assumption); rw [hB] at q; cases q; done)|(exfalso; omega)|(exfalso; clear hk; simp_all; done)
     | true =>
      have h3:=h3 rfl
      refine pn hk Tryz.func67 ?_
      repeat'(first|refine wk3 ?_|(refine wk2 ?_ ?_<;>intro _)|fail)
      all_goals first|exact Za rfl|(exfalso; exact hz ⟨by assumption,by assumption⟩)|(exfalso; exact hz ⟨of_decide_eq_true (by assumption),of_decide_eq_true (by assumption)⟩)|(exfalso; have q:btW (ax,ay) (bx,by') (ux,uy)=false:=(by assumption); rw [hB] at q; cases q; done)|(exfalso; omega)|(exfalso; clear hk; simp_all; done)
    ·rw [decide_eq_false hc]
     refine pn hk Tryz.func67 ?_
     repeat'(first|refine wk3 ?_|(refine wk2 ?_ ?_<;>intro _)|fail)
     all_goals first|exact Za rfl|(exfalso; exact hz ⟨by assumption,by assumption⟩)|(exfalso; exact hz ⟨of_decide_eq_true (by assumption),of_decide_eq_true (by assumption)⟩)|(exfalso; have q:btW (ax,ay) (bx,by') (ux,uy)=false:=(by assumption); rw [hB] at q; cases q; done)|(exfalso; omega)|(exfalso; clear hk; simp_all; done)
theorem Ygi {h:Hal} (g:h.fine) {o d:V} (b:RyB (ryV o d)) {l:Nat} (hl:l<h.cs.length):∃ (n de:Int) (on w ok:Bool),rMr [(wlOf h.cs l).ln.av,(ryV o d).ra]=some ⟨mtA n de on w ok,[]⟩/\(ok=true->rCm [I n,I de,I 1,I 1]=some ⟨I (cmpQ n de 1 1),[]⟩)/\(ok&&decide (cmpQ n de 1 1<0))=aftB h.cs o d l/\(ok&&decide (0<cmpQ n de 1 1))=befB h.cs o d l:=by
 obtain ⟨n,sx,sy,hs⟩:=g.st l hl
 have h1:=Zp3 hs b
 unfold aftB befB
 cases hx:htW (wlOf h.cs l) (ryV o d) with
 | none =>
  rw [hx] at h1
  exact ⟨0,0,false,false,false,h1,fun q=>(by cases q),rfl,rfl⟩
 | some x =>
  have hb:=Zjy hs b (by rw [<-Vn hs]; exact hx)
  rw [hx] at h1
  refine ⟨x.nu,x.de,x.on,x.well,true,h1,fun _=>Zv5 ⟨hb.de.1,hb.de.2,hb.nu⟩,?_,?_⟩
  ·rw [Tv]
   exact decide_eq_decide.2 Ycu
  ·rw [Tv]
   refine decide_eq_decide.2 ?_
   unfold cmpQ
   rw [Vu]
   omega
theorem g67 {h:Hal} (hf:h.few) (g:h.fine) {m:Bm} (G:GoodB h m) (hl:m.ws.length<4) {p:V} (hp:InB5 p):PCall Tryz.prog 67 [h.av,.agg (bmA m),P2 p.1 p.2] ⟨Bo (Zbu h.cs m p),[]⟩:=by
 obtain ⟨hob,hd⟩:=Zxk G hl hp
 have rb:RyB (ryV m.o (toW m.o p)):=Zi8 hob (by omega) (by omega)
 have ew1:(toW m.o p).1=Qa Qb (p.1-m.o.1):=by
  unfold toW at hd ⊢
  dsimp only at hd ⊢
  rw [W_eq (by omega) (by omega)]
 have ew2:(toW m.o p).2=Qa Qb (p.2-m.o.2):=by
  unfold toW at hd ⊢
  dsimp only at hd ⊢
  rw [W_eq (by omega) (by omega)]
 obtain ⟨w,enx,K⟩:=G.sec
 have hw:=K.wlt
 have hbA:bmA m=[wsA m.ws,I m.o.1,I m.o.2,I m.a.1,I m.a.2,I m.b.1,I m.b.2,I w]:=by unfold bmA; rw [enx]
 have hws:wsA m.ws = .nils\/wsA m.ws = .isl 1 (nl m.ws):=by
  unfold wsA
  cases m.ws with
  | nil=>exact .inl rfl
  | cons x r=>exact .inr rfl
 rw [hbA]
 by_cases hz:toW m.o p=(0,0)
 ·have hr:Zbu h.cs m p=false:=by
   unfold Zbu secB
   rw [hz]
   have:Si m.a (0,0)=0:=by unfold Si; simp
   rw [this]
   rfl
  rw [hr]
  rw [Prod.ext_iff] at hz
  exact g67z (wsA m.ws) (nl m.ws) hws (by rw [<-ew1]; exact hz.1) (by rw [<-ew2]; exact hz.2)
 have hv:=Zav hd
 have t95:=Zp2 hz hv
 have hra:(ryV m.o (toW m.o p)).ra = .agg [I m.o.1,I m.o.2,I (Qa Qb (p.1-m.o.1)),I (Qa Qb (p.2-m.o.2))]:=by rw [<-ew1,<-ew2]
 have hk:PCOK Tryz.prog (ins 95 rTn (ins 97 rB7 (ins 86 (rLi h) (ins 85 rMr (ins 114 rCm pt0))))):=Zvw (Ybu (Zn (fun k hk=>e86 hf hk) (Zv1 (Ybs Ze))))
 have hrv:Vb (red (toW m.o p)):=Zav (Zhx hz hd.1 hd.2)
 have hB:btW m.a m.b ((red (toW m.o p)).1,(red (toW m.o p)).2)=secB m (toW m.o p):=by
  rw [show ((red (toW m.o p)).1,(red (toW m.o p)).2)=red (toW m.o p) from rfl,Zs5 (Zav G.ba) (Zav G.bb) hrv K.ab]
  unfold secB
  congr 1
  ·exact decide_eq_decide.2 (Vh hz).2
  ·exact decide_eq_decide.2 (Vh hz).1
 obtain ⟨n2,d2,o2,w2,ok2,x1,x2,x3,x4⟩:=Ygi g rb hw
 rw [hra] at x1
 rw [ew1,ew2] at t95
 have hzz:¬(Qa Qb (p.1-m.o.1)=0/\Qa Qb (p.2-m.o.2)=0):=by
  rw [<-ew1,<-ew2]
  intro q
  exact hz (Tk q.1 q.2)
 have hres:∀ B2,lstB h.cs m.o (toW m.o p) (Zw m.ws)=B2->Zbu h.cs m p=(secB m (toW m.o p)&&(B2&&(ok2&&decide (0<cmpQ n2 d2 1 1)))):=fun B2 q=>by
  unfold Zbu
  have ew:m.nx.toNat=w:=by omega
  rw [ew,q,x4]
 cases hL:Zw m.ws with
 | none =>
  rw [hres true (by rw [hL]; rfl)]
  refine g67w rTn (rLi h) rMr rCm (wsA m.ws) (wlOf h.cs w).ln _ (nl m.ws) (C1:=0) (n1:=0) (d1:=0) (ok1:=false) (o1:=false) (w1:=false) (la:=0) (.inl ⟨?_,rfl⟩) hk hzz t95 hB (Zfc hw) x1 x2
  cases hw0:m.ws with
  | nil=>rfl
  | cons x r =>
   exfalso
   unfold Zw at hL
   rw [hw0] at hL
   simp at hL
 | some l =>
  have hll:=Zgd G l hL
  obtain ⟨n1,d1,o1,w1,ok1,y1,y2,y3,y4⟩:=Ygi g rb hll
  rw [hra] at y1
  rw [hres (ok1&&decide (cmpQ n1 d1 1 1<0)) (by rw [hL,y3]; rfl)]
  refine g67w rTn (rLi h) rMr rCm (wsA m.ws) _ _ (nl m.ws) (la:=(l:Int)) (.inr ⟨?_,?_,?_,?_,Zfc hll,y1,y2,rfl⟩) hk hzz t95 hB (Zfc hw) x1 x2
  all_goals cases hw0:m.ws with
   | nil=>exfalso; unfold Zw at hL; rw [hw0] at hL; simp at hL
   | cons x r=>?_
  ·rfl
  ·rw [Zp]; simp
  ·rw [Zp,<-hw0]; omega
  ·have:=Zwj hw0 (fun x hx=>(G.ws x hx).1) hl
   rw [hL] at this
   rwa [hw0] at this
end Go.Proofs.YtanbhfpalahjcaaGreat
