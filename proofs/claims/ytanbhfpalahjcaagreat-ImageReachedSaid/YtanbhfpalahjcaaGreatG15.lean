/- A part of the proof: lemmas. -/
import Derived.Test.YtanbhfpalahjcaaGreatG14
import Derived.Test.YtanbhfpalahjcaaGreatG8
set_option linter.unusedVariables false
set_option linter.unusedSimpArgs false
set_option maxRecDepth 100000
set_option maxHeartbeats 16000000
open Bool renaming and_eq_true->Qc,noConfusion->Me,true_and->Tv
open Go.Ge renaming cr->Si
open Go.IntKind renaming i64->Qb,wrap->Qa
open Go.Proofs renaming ltOf->Qbu
open Go.Sx.AV.agg renaming injEq->Pj
open Go.Sx.AV.int renaming injEq->Tt
open Go.Sx.Done renaming mk->Qr
open Int renaming gcd->Ov,le_of_lt->Qg,le_refl->Wy,mul_le_mul_of_nonneg_left->Qw,mul_nonneg->Qq,mul_pos->Qv,toNat_natCast->Ri
open List renaming Nodup->Kz,getElem?_eq_getElem->Qe,getElem?_map->Rr,getElem_mem->Qn,length_append->Rb,length_cons->Qz,length_map->Qj,length_nil->Rh,length_take->Tu,map_append->Rm,map_cons->Ss,map_map->Ot,mem_append->Sh,mem_cons->Ra,mem_filter->Nb,mem_map->Ta,mem_range->Rx,mem_singleton->Tm,nodup_cons->Gz,pairwise_and_iff->Fi,pairwise_iff_getElem->Tj,pairwise_map->Ny,range->Rv
open List.Pairwise renaming filter->Jf,imp->Hs,imp_of_mem->Ga,nil->Qag
open List.cons renaming injEq->Rd
open Nat renaming beq->Qs,le_refl->Qd,min_eq_left->Ns,mod_lt->Tx,sub_self->Jq,zero_add->Sk,zero_le->Qp
open Option.some renaming inj->Sr
open Prod renaming ext->Tk
open Prod.mk renaming injEq->Rk
open Subtype renaming val->Kd
namespace Go.Proofs.YtanbhfpalahjcaaGreat
open Go Go.Sx Go.Ge
structure Bm where
 ws:List Int
 o:V
 a:V
 b:V
 nx:Int
def Zw (ws:List Int):Option Nat:=ws.getLast?.map Int.toNat
def nxtV (cs:List (Int × Int)) (o:V) (L:Option Nat) (d:V):Int:=match bstV cs o d L with
 | some c=>c.i
 | none=>0
def addV (a b:V):V:=(a.1+b.1,a.2+b.2)
theorem Vt (a b:V):addV a b=mix 1 1 a b:=by unfold addV mix; simp
def snB (u v:V):Bool:=decide (hf u<hf v\/(hf u=hf v/\0<Si u v))
theorem snB_iff {u v:V}:snB u v=true↔sn u v:=by unfold snB sn; rw [decide_eq_true_eq]
def crB (u v:V):Bool:=decide (0<Si u v)
def tO (cs:List (Int × Int)) (o:V):List V:=(Vl cs o none).foldl (fun l w=>Ge.ins snB l (red w)) []
def getV (l:List V) (i:Nat):V:=l.getD i (0,0)
def Zu (cs:List (Int × Int)) (o:V):List Bm:=(Rv (tO cs o).length).map fun i=>⟨[],o,getV (tO cs o) i,getV (tO cs o) ((i+1)%(tO cs o).length),nxtV cs o none (addV (getV (tO cs o) i) (getV (tO cs o) ((i+1)%(tO cs o).length)))⟩
structure GoodB (h:Hal) (m:Bm):Prop where
 sec:∃ w:Nat,m.nx=(w:Int)/\SecOk h m.o (Zw m.ws) m.a m.b w
 ga:g1 m.a
 gb:g1 m.b
 ba:(-50000<=m.a.1/\m.a.1<=50000)/\(-50000<=m.a.2/\m.a.2<=50000)
 bb:(-50000<=m.b.1/\m.b.1<=50000)/\(-50000<=m.b.2/\m.b.2<=50000)
 ox:(-(5000+10000*(m.ws.length:Int))<=m.o.1/\m.o.1<=5000+10000*(m.ws.length:Int))/\(-(5000+10000*(m.ws.length:Int))<=m.o.2/\m.o.2<=5000+10000*(m.ws.length:Int))
 ws:∀ x∈m.ws,0<=x/\x<h.cs.length
theorem srtB {l:List V}:Srt (fun a b=>snB a b=true) l↔Srt sn l:=by
 unfold Srt
 constructor<;>(intro q; exact q.imp (fun {a b} z=>by first|exact snB_iff.1 z|exact snB_iff.2 z))
theorem Zwh {h:Hal} (g:h.fine) {o a b:V} {L:Option Nat} {w:Nat} (K:SecOk h o L a b w):nxtV h.cs o L (addV a b)=(w:Int):=by
 have hab:=K.ab
 have d1:0<Si a (addV a b):=by rw [Vt,Xn,Zj]; omega
 have d2:0<Si (addV a b) b:=by rw [Vt,Yr,Zj]; omega
 obtain ⟨s,f⟩:=K.ft _ d1 d2
 obtain ⟨c,e1,e2,_⟩:=Zxo g (fun l q=>by
  obtain ⟨q1,t,q2,q3⟩:=K.lp l q
  exact ⟨q1,t,q2,(q3 _ d1 d2).n⟩) f
 unfold nxtV
 rw [e1]
 dsimp only
 rw [e2]
theorem Xq {l:List V} {i:Nat} (hi:i<l.length):getV l i=l[i]:=by unfold getV; rw [List.getD_eq_getElem?_getD,Qe hi]; rfl
theorem Zqw {h:Hal} (g:h.fine) {o c:V} (hc:c∈ends h.cs.length (sgH h.cs o)):∃ k,k<h.cs.length/\c=wa (wlOf h.cs k) o/\c≠(0,0):=by
 obtain ⟨i,s,hi,es,hh⟩:=Zya hc
 have hp:=Zdi es
 have na:s.a≠(0,0):=fun q=>by unfold Sg.c Si at hp; rw [q] at hp; simp at hp
 have nb:s.b≠(0,0):=fun q=>by unfold Sg.c Si at hp; rw [q] at hp; simp at hp
 obtain ⟨kn,en⟩:=Zwk g hi o
 rcases Zdj es with ⟨e1,e2⟩|⟨e1,e2⟩<;>rcases hh with rfl|rfl
 ·exact ⟨i,hi,e1,na⟩
 ·exact ⟨_,kn,e2.trans en,nb⟩
 ·exact ⟨_,kn,e1.trans en,na⟩
 ·exact ⟨i,hi,e2,nb⟩
theorem InSrc.ob {h:Hal} {o:V} (k:InSrc h o):OB o:=by
 have a:=k.bx
 have b:=k.bY
 exact ⟨by omega,by omega⟩
theorem InSrc.bef {h:Hal} (g:h.fine) {o:V} (k:InSrc h o) (c:V):Bef h o none c:=⟨fun _=>(k.insZ g.st).2,fun l q=>by cases q⟩
theorem Zpu {h:Hal} (g:h.fine) {o:V} (k:InSrc h o):Srt sn (tO h.cs o)/\(∀ x,x∈tO h.cs o↔∃ w∈Vl h.cs o none,x=red w)/\(∀ x∈tO h.cs o,g1 x/\(-50000<=x.1/\x.1<=50000)/\(-50000<=x.2/\x.2<=50000)) /\
  (∀ a,a≠(0,0)->∃ c∈tO h.cs o,0<Si a c):=by
 have hm:=fun w=>Za1 g k.ob (L:=none) (fun l q=>by cases q) (w:=w)
 have hw:∀ w∈Vl h.cs o none,w≠(0,0)/\(-50000<=w.1/\w.1<=50000)/\(-50000<=w.2/\w.2<=50000):=fun w hw=>by
  obtain ⟨j,hj,e,h1,_⟩:=(hm w).1 hw
  refine ⟨h1,?_⟩
  rw [e,Zlx _ hj]
  exact Zc2 g k.ob (Qn hj)
 obtain ⟨s1,s2⟩:=Zmy (R:=snB) g1 (fun w:V=>red w) (fun x y hx hy hne=>by
  rcases Zro hx hy with q|q|q
  ·exact .inl (snB_iff.2 q)
  ·exact absurd q hne
  ·exact .inr (snB_iff.2 q)) (fun x y z _ _ _ h1 h2=>snB_iff.2 (Zzr (snB_iff.1 h1) (snB_iff.1 h2))) (Vl h.cs o none) [] (fun w h1=>by
   obtain ⟨gg,_,_,_,h5,_⟩:=Vq (hw w h1).1
   exact h5) (fun x hx=>by cases hx) Qag
 have s2:∀ x,x∈tO h.cs o↔∃ w∈Vl h.cs o none,x=red w:=fun x=>by
  have:=s2 x
  unfold tO
  rw [this]
  simp
 refine ⟨srtB.1 s1,s2,fun x hx=>?_,fun a ha=>?_⟩
 ·obtain ⟨w,h1,rfl⟩:=(s2 x).1 hx
  obtain ⟨q1,q2,q3⟩:=hw w h1
  obtain ⟨gg,_,_,_,h5,_⟩:=Vq q1
  exact ⟨h5,Zhx q1 q2 q3⟩
 ·obtain ⟨c,hc,h1,h2⟩:=Zvm (Zvd g o) (Zm6 h.cs o none) (fun v hv=>Zry g.st k v hv) ha
  obtain ⟨j,hj,e,hne⟩:=Zqw g hc
  refine ⟨red c,(s2 _).2 ⟨c,(hm c).2 ⟨j,hj,e,hne,fun l q=>(by cases q),h2⟩,rfl⟩,(Vh hne).2.2 h1⟩
theorem Zeb {h:Hal} (g:h.fine) {o:V} (k:InSrc h o):3<=(tO h.cs o).length/\∀ m∈Zu h.cs o,GoodB h m/\m.ws=[]/\m.o=o:=by
 obtain ⟨s1,s2,s3,s4⟩:=Zpu g k
 have hex:∀ a∈tO h.cs o,∃ c∈tO h.cs o,0<Si a c:=fun a ha=>s4 a (Zd0 (s3 a ha).1)
 have hne:tO h.cs o≠[]:=by
  obtain ⟨c,hc,_⟩:=s4 (1,0) (by simp)
  exact List.ne_nil_of_mem hc
 have h3:=Yh9 s1 hne hex
 refine ⟨h3,fun m hm=>?_⟩
 unfold Zu at hm
 rw [Ta] at hm
 obtain ⟨i,hi,rfl⟩:=hm
 have hi:=Rx.1 hi
 have hj:(i+1)%(tO h.cs o).length<(tO h.cs o).length:=Tx _ (by omega)
 rw [Xq hi,Xq hj]
 obtain ⟨r1,r2⟩:=ring s1 hex hi
 have m1:=s3 _ (Qn hi)
 have m2:=s3 _ (Qn hj)
 obtain ⟨w,K⟩:=Zzu g k r1 (fun c hc c1 c2 cs=>by
  obtain ⟨j,hj,e,hne⟩:=Zqw g hc
  refine r2 (red c) ((s2 _).2 ⟨c,(Za1 g k.ob (fun l q=>by cases q)).2 ⟨j,hj,e,hne,fun l q=>(by cases q),cs⟩,rfl⟩) ⟨?_,?_⟩
  ·exact (Vh hne).2.2 c1
  ·exact (Vh hne).1.2 c2)
 have a:=k.bx
 have b:=k.bY
 exact ⟨⟨⟨w,Zwh g K,K⟩,m1.1,m2.1,m1.2,m2.2,⟨by dsimp only [Rh]; omega,by dsimp only [Rh]; omega⟩,fun x hx=>by cases hx⟩,rfl,rfl⟩
def uS (cs:List (Int × Int)) (w:Nat):Int × Int:=((wlOf cs w).ln.sx,(wlOf cs w).ln.sy)
def imgO (cs:List (Int × Int)) (w:Nat) (o:V):V:=mO (wlOf cs w) (uS cs w).1 (uS cs w).2 o
def imgV (cs:List (Int × Int)) (w:Nat) (v:V):V:=mS (uS cs w).1 (uS cs w).2 v
def btwL (cs:List (Int × Int)) (o:V) (w:Nat) (lo hi:V):List V:=(Vl cs o (some w)).filter fun v=>decide (0<Si lo v)&&decide (0<Si v hi)
def innT (cs:List (Int × Int)) (o:V) (w:Nat) (lo hi:V):List V:=(btwL cs o w lo hi).foldl (fun l v=>Ge.ins crB l (red v)) []
def tB (cs:List (Int × Int)) (o:V) (w:Nat) (lo hi:V):List V:=lo::(innT cs o w lo hi++[hi])
def behB (cs:List (Int × Int)) (m:Bm):List Bm :=
 let w:=m.nx.toNat
 let o:=imgO cs w m.o
 let T:=tB cs o w (imgV cs w m.b) (imgV cs w m.a)
 (Rv (T.length-1)).map fun i=>⟨m.ws++[m.nx],o,getV T i,getV T (i+1),nxtV cs o (some w) (addV (getV T i) (getV T (i+1)))⟩
theorem Ztp {h:Hal} (g:h.fine) {w:Nat} (hw:w<h.cs.length):∃ n,Str (wlOf h.cs w) n (uS h.cs w).1 (uS h.cs w).2:=by
 obtain ⟨n,sx,sy,hs⟩:=g.st w hw
 obtain ⟨_,_,e1,e2,e3⟩:=hs.ln
 unfold uS
 dsimp only
 rw [e2,e3]
 exact ⟨n,hs⟩
theorem Ygm {w:Wl} {n sx sy:Int} (hs:Str w n sx sy) {v:V} (h:g1 v):g1 (mS sx sy v):=by
 unfold g1 at *
 refine Zaq hs (fun sx sy=>Ov (mS sx sy v).1 (mS sx sy v).2=1) ?_ ?_ ?_ ?_ ?_ ?_ ?_ ?_<;>(unfold mS mvD; simp)<;>first|exact h|(rw [Int.gcd_comm]; exact h)
theorem Ygn {w:Wl} {n sx sy:Int} (hs:Str w n sx sy) {v:V} {B:Int} (h:(-B<=v.1/\v.1<=B)/\(-B<=v.2/\v.2<=B)):(-B<=(mS sx sy v).1/\(mS sx sy v).1<=B)/\(-B<=(mS sx sy v).2/\(mS sx sy v).2<=B):=by
 refine Zaq hs (fun sx sy=>(-B<=(mS sx sy v).1/\(mS sx sy v).1<=B)/\(-B<=(mS sx sy v).2/\(mS sx sy v).2<=B)) ?_ ?_ ?_ ?_ ?_ ?_ ?_ ?_<;>(unfold mS mvD; simp)<;>omega
theorem Ygq {w:Wl} {n sx sy:Int} (hs:Str w n sx sy) {o:V} {B:Int} (h:(-B<=o.1/\o.1<=B)/\(-B<=o.2/\o.2<=B)):(-(B+10000)<=(mO w sx sy o).1/\(mO w sx sy o).1<=B+10000)/\(-(B+10000)<=(mO w sx sy o).2/\(mO w sx sy o).2<=B+10000):=by
 have b1:=hs.b1
 have b2:=hs.b2
 refine Zaq hs (fun sx sy=>(-(B+10000)<=(mO w sx sy o).1/\(mO w sx sy o).1<=B+10000)/\(-(B+10000)<=(mO w sx sy o).2/\(mO w sx sy o).2<=B+10000)) ?_ ?_ ?_ ?_ ?_ ?_ ?_ ?_<;>(unfold mO mvD; simp)<;>omega
theorem Zju (ws:List Int) (w:Nat):Zw (ws++[(w:Int)])=some w:=by unfold Zw; simp
structure BehOk (h:Hal) (m:Bm) (w:Nat) (o lo hi:V):Prop where
 wl:w<h.cs.length
 ob:OB o
 pos:0<Si lo hi
 gl:g1 lo
 gh:g1 hi
 bl:(-50000<=lo.1/\lo.1<=50000)/\(-50000<=lo.2/\lo.2<=50000)
 bh:(-50000<=hi.1/\hi.1<=50000)/\(-50000<=hi.2/\hi.2<=50000)
 lk:∀ d,0<Si lo d->0<Si d hi->Bef h o (some w) d
theorem Zs8 {h:Hal} (g:h.fine) {m:Bm} (G:GoodB h m) (hlen:m.ws.length<4):BehOk h m m.nx.toNat (imgO h.cs m.nx.toNat m.o) (imgV h.cs m.nx.toNat m.b) (imgV h.cs m.nx.toNat m.a):=by
 obtain ⟨w,e,K⟩:=G.sec
 have e2:m.nx.toNat=w:=by omega
 rw [e2]
 have hw:=K.wlt
 obtain ⟨n,hs⟩:=Ztp g hw
 have ob:=Ygq hs (o:=m.o) (B:=5000+10000*(m.ws.length:Int)) G.ox
 refine ⟨hw,?_,?_,Ygm hs G.gb,Ygm hs G.ga,Ygn hs G.bb,Ygn hs G.ba,fun d h1 h2=>?_⟩
 ·unfold imgO
  exact ⟨by omega,by omega⟩
 ·unfold imgV
  rw [Zmm hs,Zh]
  have:=K.ab
  omega
 ·obtain ⟨q1,q2⟩:=Yd6 hs h1 h2
  obtain ⟨s,f⟩:=K.ft _ q1 q2
  refine ⟨fun q=>(by cases q),fun l q=>?_⟩
  cases q
  exact ⟨hw,_,Yd7 hs f.c.e,(mG_o hs s d).2 f.o⟩
theorem Zga {h:Hal} (g:h.fine) {m:Bm} {w:Nat} {o lo hi:V} (B:BehOk h m w o lo hi):Srt (fun a b=>0<Si a b) (tB h.cs o w lo hi)/\(∀ x,x∈innT h.cs o w lo hi↔∃ v∈btwL h.cs o w lo hi,x=red v) /\
  (∀ x∈tB h.cs o w lo hi,g1 x/\inS lo hi x/\(-50000<=x.1/\x.1<=50000)/\(-50000<=x.2/\x.2<=50000)) /\
  (∀ k,k<h.cs.length->wa (wlOf h.cs k) o≠(0,0)->Seen h.cs.length (sgH h.cs o) (some w) (wa (wlOf h.cs k) o)->0<Si lo (wa (wlOf h.cs k) o)->0<Si (wa (wlOf h.cs k) o) hi->red (wa (wlOf h.cs k) o)∈tB h.cs o w lo hi):=by
 have hL:∀ l,some w=some l->l<h.cs.length:=fun l q=>by cases q; exact B.wl
 have hm:=fun v=>Za1 g B.ob (L:=some w) hL (w:=v)
 have hbt:∀ v,v∈btwL h.cs o w lo hi↔v∈Vl h.cs o (some w)/\0<Si lo v/\0<Si v hi:=fun v=>by
  unfold btwL
  rw [Nb,Qc,decide_eq_true_eq,decide_eq_true_eq]
 have hw:∀ v∈btwL h.cs o w lo hi,v≠(0,0)/\((-50000<=v.1/\v.1<=50000)/\(-50000<=v.2/\v.2<=50000))/\0<Si lo v/\0<Si v hi:=fun v hv=>by
  obtain ⟨h0,h1,h2⟩:=(hbt v).1 hv
  obtain ⟨j,hj,e,h3,_⟩:=(hm v).1 h0
  refine ⟨h3,?_,h1,h2⟩
  rw [e,Zlx _ hj]
  exact Zc2 g B.ob (Qn hj)
 have hP:∀ v∈btwL h.cs o w lo hi,g1 (red v)/\0<Si lo (red v)/\0<Si (red v) hi:=fun v hv=>by
  obtain ⟨q1,_,q3,q4⟩:=hw v hv
  obtain ⟨gg,_,_,_,h5,_⟩:=Vq q1
  exact ⟨h5,(Vh q1).2.2 q3,(Vh q1).1.2 q4⟩
 obtain ⟨s1,s2⟩:=Zmy (R:=crB) (fun x=>g1 x/\inS lo hi x) (fun v:V=>red v) (fun x y hx hy hne=>by
  unfold crB
  rw [decide_eq_true_eq,decide_eq_true_eq]
  rcases Zms B.pos hx.2 hy.2 hx.1 hy.1 with q|q|q
  ·exact .inl q
  ·exact absurd q hne
  ·exact .inr q) (fun x y z hx hy hz h1 h2=>by
  unfold crB at *
  rw [decide_eq_true_eq] at *
  exact Zw3 B.pos hx.2 hy.2 hz.2 hx.1 hy.1 hz.1 h1 h2) (btwL h.cs o w lo hi) [] (fun v hv=>⟨(hP v hv).1,Qg (hP v hv).2.1,Qg (hP v hv).2.2⟩) (fun x hx=>by cases hx) Qag
 have s2:∀ x,x∈innT h.cs o w lo hi↔∃ v∈btwL h.cs o w lo hi,x=red v:=fun x=>by
  have:=s2 x
  unfold innT
  rw [this]
  simp
 have lohi:∀ x∈innT h.cs o w lo hi,g1 x/\0<Si lo x/\0<Si x hi/\(-50000<=x.1/\x.1<=50000)/\(-50000<=x.2/\x.2<=50000):=fun x hx=>by
  obtain ⟨v,hv,rfl⟩:=(s2 x).1 hx
  obtain ⟨q1,q2,_⟩:=hw v hv
  exact ⟨(hP v hv).1,(hP v hv).2.1,(hP v hv).2.2,Zhx q1 q2.1 q2.2⟩
 refine ⟨?_,s2,?_,?_⟩
 ·unfold tB Srt
  refine List.pairwise_cons.2 ⟨fun x hx=>?_,List.pairwise_append.2 ⟨?_,List.pairwise_singleton _ _,fun x hx y hy=>?_⟩⟩
  ·rcases Sh.1 hx with q|q
   ·exact (lohi x q).2.1
   ·rw [Tm.1 q]; exact B.pos
  ·exact Hs (fun {a b} q=>by unfold crB at q; exact of_decide_eq_true q) s1
  ·rw [Tm.1 hy]; exact (lohi x hx).2.2.1
 ·intro x hx
  unfold tB at hx
  rcases Ra.1 hx with q|q
  ·rw [q]
   exact ⟨B.gl,⟨by rw [Zj]; exact Wy 0,Qg B.pos⟩,B.bl⟩
  ·rcases Sh.1 q with q|q
   ·obtain ⟨a1,a2,a3,a4⟩:=lohi x q
    exact ⟨a1,⟨Qg a2,Qg a3⟩,a4⟩
   ·rw [Tm.1 q]
    exact ⟨B.gh,⟨Qg B.pos,by rw [Zj]; exact Wy 0⟩,B.bh⟩
 ·intro k hk hne hs h1 h2
  unfold tB
  refine List.mem_cons_of_mem _ (Sh.2 (.inl ((s2 _).2 ⟨_,(hbt _).2 ⟨(hm _).2 ⟨k,hk,rfl,hne,fun l q=>?_,hs⟩,h1,h2⟩,rfl⟩)))
  obtain ⟨q1,t,q2,q3⟩:=(B.lk _ h1 h2).lk l q
  exact ⟨q1,t,q2,q3.n⟩
theorem Zfo {h:Hal} (g:h.fine) {m:Bm} (G:GoodB h m) (hlen:m.ws.length<4):∀ m'∈behB h.cs m,GoodB h m'/\m'.ws=m.ws++[m.nx]:=by
 intro m' hm
 have B:=Zs8 g G hlen
 obtain ⟨w,e,K⟩:=G.sec
 have e2:m.nx.toNat=w:=by omega
 unfold behB at hm
 dsimp only at hm
 rw [e2] at hm B
 obtain ⟨n,hs⟩:=Ztp g K.wlt
 obtain ⟨s1,_,s3,s4⟩:=Zga g B
 rw [Ta] at hm
 obtain ⟨i,hi,rfl⟩:=hm
 have hi:=Rx.1 hi
 generalize hT:tB h.cs (imgO h.cs w m.o) w (imgV h.cs w m.b) (imgV h.cs w m.a)=T at *
 have hi1:i<T.length:=by omega
 have hi2:i+1<T.length:=by omega
 rw [Xq hi1,Xq hi2]
 have pw:=Tj.1 s1
 have r1:=pw i (i+1) hi1 hi2 (by omega)
 have m1:=s3 _ (Qn hi1)
 have m2:=s3 _ (Qn hi2)
 have asy:∀ x y,0<Si x y -> ¬ 0<Si y x:=fun x y h1 h2=>by rw [Zh] at h2; omega
 have b2:0<Si (imgV h.cs w m.b) T[i+1]:=by
  have hT0:T[0]'(by omega)=imgV h.cs w m.b:=by subst hT; rfl
  rw [<-hT0]
  exact pw 0 (i+1) (by omega) hi2 (by omega)
 have a2:0<Si T[i] (imgV h.cs w m.a):=by
  have hlast:T[T.length-1]'(by omega)=imgV h.cs w m.a:=by
   subst hT
   unfold tB
   simp
  rw [<-hlast]
  exact pw i (T.length-1) hi1 (by omega) (by omega)
 have hin:∀ d,0<Si T[i] d->0<Si d T[i+1]->0<Si (imgV h.cs w m.b) d/\0<Si d (imgV h.cs w m.a):=fun d d1 d2=>by
  constructor
  ·have:=Zus T[i] T[i+1] (imgV h.cs w m.b) d
   have x1:=Qq (Qg d2) m1.2.1.1
   have x2:=Qv d1 b2
   exact Zr (a:=Si T[i] T[i+1]) (by omega) r1
  ·have:=Yau T[i] T[i+1] d (imgV h.cs w m.a)
   have x1:=Qv d2 a2
   have x2:=Qq (Qg d1) m2.2.1.2
   exact Zr (a:=Si T[i] T[i+1]) (by omega) r1
 obtain ⟨w2,K2⟩:=Zyp g K hs r1 hin (fun c hc c1 c2 sc=>by
  obtain ⟨j,hj,ec,hne⟩:=Zqw g hc
  obtain ⟨q1,q2⟩:=hin c c1 c2
  have hmem:=s4 j hj (by show wa (wlOf h.cs j) (mO (wlOf h.cs w) _ _ m.o)≠_; rw [<-ec]; exact hne) (by show Seen _ _ _ (wa (wlOf h.cs j) (mO (wlOf h.cs w) _ _ m.o)); rw [<-ec]; exact sc) (by show 0<Si _ (wa (wlOf h.cs j) (mO (wlOf h.cs w) _ _ m.o)); rw [<-ec]; exact q1) (by show 0<Si (wa (wlOf h.cs j) (mO (wlOf h.cs w) _ _ m.o)) _; rw [<-ec]; exact q2)
  have ec2:wa (wlOf h.cs j) (imgO h.cs w m.o)=c:=ec.symm
  rw [ec2] at hmem
  obtain ⟨k,hk,ek⟩:=List.getElem_of_mem hmem
  have z1:0<Si T[i] T[k]:=by rw [ek]; exact (Vh hne).2.2 c1
  have z2:0<Si T[k] T[i+1]:=by rw [ek]; exact (Vh hne).1.2 c2
  have:=Zrn asy s1 hi1 hk z1
  have:=Zrn asy s1 hk hi2 z2
  omega)
 have ob:=Ygq hs (o:=m.o) (B:=5000+10000*(m.ws.length:Int)) G.ox
 have hlw:Zw (m.ws++[m.nx])=some w:=by rw [e]; exact Zju _ _
 refine ⟨⟨⟨w2,Zwh g K2,?_⟩,m1.1,m2.1,m1.2.2,m2.2.2,?_,fun x hx=>?_⟩,rfl⟩
 ·dsimp only
  rw [hlw]
  exact K2
 ·dsimp only
  rw [Rb,List.length_singleton]
  unfold imgO
  omega
 ·rcases Sh.1 hx with q|q
  ·exact G.ws x q
  ·rw [Tm.1 q,e]
   have:=K.wlt
   omega
def Vb (v:V):Prop:=(-200000<=v.1/\v.1<=200000)/\(-200000<=v.2/\v.2<=200000)
theorem Ygh {x y:Int} (hx : -200000<=x/\x<=200000) (hy : -200000<=y/\y<=200000) : -40000000000<=x*y/\x*y<=40000000000:=by
 have h1:0<=(200000-x)*(200000+y):=Qq (by omega) (by omega)
 have h2:0<=(200000+x)*(200000-y):=Qq (by omega) (by omega)
 have h3:0<=(200000-x)*(200000-y):=Qq (by omega) (by omega)
 have h4:0<=(200000+x)*(200000+y):=Qq (by omega) (by omega)
 have e1:(200000-x)*(200000+y)=40000000000+200000*y-200000*x-x*y:=by grind
 have e2:(200000+x)*(200000-y)=40000000000-200000*y+200000*x-x*y:=by grind
 have e3:(200000-x)*(200000-y)=40000000000-200000*y-200000*x+x*y:=by grind
 have e4:(200000+x)*(200000+y)=40000000000+200000*y+200000*x+x*y:=by grind
 omega
theorem Zlo {a b:V} (ha:Vb a) (hb:Vb b):crW a.1 a.2 b.1 b.2=Si a b /\ -80000000000<=Si a b/\Si a b<=80000000000:=by
 have m1:=Ygh ha.1 hb.2
 have m2:=Ygh ha.2 hb.1
 unfold crW Si
 rw [W_eq (n:=a.1*b.2) (by omega) (by omega),W_eq (n:=a.2*b.1) (by omega) (by omega),W_eq (by omega) (by omega)]
 exact ⟨rfl,by omega,by omega⟩
theorem e220 (x y:Int):PCall Tryz.prog 220 [P2 x y] ⟨I (hf (x,y)),[]⟩:=by
 unfold hf
 dsimp only
 by_cases c1:0<y
 ·rw [if_pos (.inl c1)]
  refine pn Ze Tryz.func220 ?_
  repeat'(first|refine wk3 ?_|(refine wk2 ?_ ?_<;>intro _)|fail)
  all_goals first|exact Zc rfl|(exfalso; simp_all; done)|(exfalso; omega)|(exfalso; simp_all; omega)
 ·by_cases c2:y=0/\0<x
  ·rw [if_pos (.inr c2)]
   obtain ⟨rfl,c2⟩:=c2
   refine pn Ze Tryz.func220 ?_
   repeat'(first|refine wk3 ?_|(refine wk2 ?_ ?_<;>intro _)|fail)
   all_goals first|exact Zc rfl|(exfalso; simp_all; done)|(exfalso; omega)|(exfalso; simp_all; omega)
  ·rw [if_neg (fun q=>by rcases q with q|q; exact c1 q; exact c2 q)]
   by_cases hy:y=0
   ·have hx:¬ 0<x:=fun q=>c2 ⟨hy,q⟩
    clear c2
    subst hy
    refine pn Ze Tryz.func220 ?_
    repeat'(first|refine wk3 ?_|(refine wk2 ?_ ?_<;>intro _)|fail)
    all_goals first|exact Zc rfl|(exfalso; simp_all; done)
   ·clear c2
    refine pn Ze Tryz.func220 ?_
    repeat'(first|refine wk3 ?_|(refine wk2 ?_ ?_<;>intro _)|fail)
    all_goals first|exact Zc rfl|(exfalso; simp_all; done)
def rHf:List AV->Option PRes
 | [.agg [.int .i64 x,.int .i64 y]]=>some ⟨I (hf (x,y)),[]⟩
 | _=>none
def arV (a b:V):Int:=if hf a=hf b then -(Si a b) else hf a-hf b
theorem Yin {ax ay bx by' A B C:Int} (T T2:List AV->Option PRes) (hk:PCOK Tryz.prog (ins 220 T (ins 92 T2 pt0))) (e1:T [P2 ax ay]=some ⟨I A,[]⟩) (e2:T [P2 bx by']=some ⟨I B,[]⟩) (c1:T2 [P2 ax ay,P2 bx by']=some ⟨I C,[]⟩) (hA:A=0\/A=1) (hB:B=0\/B=1) (hC : -80000000000<=C/\C<=80000000000) :
  PCall Tryz.prog 171 [P2 ax ay,P2 bx by'] ⟨I (if A=B then -C else A-B),[]⟩:=by
 by_cases c:A=B
 ·rw [if_pos c,show -C=Qa Qb (0-C) from ((W_eq (by omega) (by omega)).trans (by omega)).symm]
  refine pn hk Tryz.func171 ?_
  repeat'(first|refine wk3 ?_|(refine wk2 ?_ ?_<;>intro _)|fail)
  all_goals first|exact Zc rfl|(exfalso; simp_all; done)
 ·rw [if_neg c,show A-B=Qa Qb (A-B) from (W_eq (by omega) (by omega)).symm]
  refine pn hk Tryz.func171 ?_
  repeat'(first|refine wk3 ?_|(refine wk2 ?_ ?_<;>intro _)|fail)
  all_goals first|exact Zc rfl|(exfalso; simp_all; done)
theorem Yfu {pt:PC} (h:PCOK Tryz.prog pt):PCOK Tryz.prog (ins 220 rHf pt):=Zk (fun a res h=>by unfold rHf at h; split at h<;>cases h; exact e220 _ _) h
theorem e171 {a b:V} (ha:Vb a) (hb:Vb b):PCall Tryz.prog 171 [P2 a.1 a.2,P2 b.1 b.2] ⟨I (arV a b),[]⟩:=by
 obtain ⟨k1,k2,k3⟩:=Zlo ha hb
 have c:=d139 a.1 a.2 b.1 b.2
 rw [k1] at c
 exact Yin rHf _ (Yfu (Zf c Ze)) rfl rfl (Vi _ _) (Zas a) (Zas b) ⟨k2,k3⟩
theorem e173 {a b:V} (ha:Vb a) (hb:Vb b):PCall Tryz.prog 173 [P2 a.1 a.2,P2 b.1 b.2] ⟨I (-(Si a b)),[]⟩:=by
 obtain ⟨k1,k2,k3⟩:=Zlo ha hb
 have hk:=Zf (d139 a.1 a.2 b.1 b.2) Ze
 rw [k1] at hk
 rw [show -Si a b=Qa Qb (0-Si a b) from ((W_eq (by omega) (by omega)).trans (by omega)).symm]
 refine pn hk Tryz.func173 ?_
 repeat'(first|refine wk3 ?_|(refine wk2 ?_ ?_<;>intro _)|fail)
 all_goals exact Zc rfl
def wsA (ws:List Int):AV:=match ws with
 | []=>.nils
 | x::r=>.isl 1 (nl (x::r))
def bmA (m:Bm):List AV:=[wsA m.ws,I m.o.1,I m.o.2,I m.a.1,I m.a.2,I m.b.1,I m.b.2,I m.nx]
theorem Zu7 {w:V} (hw:w≠(0,0)) (hb:Vb w):tuV w.1 w.2=red w /\ ¬ gcW w.1 w.2=0:=by
 obtain ⟨g,g0,e1,e2,hg,eg⟩:=Vq hw
 obtain ⟨q1,q2⟩:=Zhx hw hb.1 hb.2
 have hle:g<=200000:=by
  have k:∀ x y:Int,x=g*y->y≠0 -> -200000<=x->x<=200000->g<=200000:=fun x y e hy l u=>by
   rcases Int.lt_or_lt_of_ne hy with c|c
   ·have:=Qw (by omega:(1:Int) <= -y) (by omega:0<=g)
    rw [Int.mul_neg] at this
    omega
   ·have:=Qw (by omega:(1:Int)<=y) (by omega:0<=g)
    omega
  by_cases z1:(red w).1=0
  ·by_cases z2:(red w).2=0
   ·exact absurd (Tk z1 z2) (Zd0 hg)
   ·exact k _ _ e2 z2 hb.2.1 hb.2.2
  ·exact k _ _ e1 z1 hb.1.1 hb.1.2
 have egc:gcW w.1 w.2=g:=by
  show IntKind.i64.wrap ((Nat.gcd w.1.natAbs w.2.natAbs:Nat):Int)=g
  rw [show Nat.gcd w.1.natAbs w.2.natAbs=Ov w.1 w.2 from rfl,<-eg]
  exact W_eq (by omega) (by omega)
 refine ⟨?_,by rw [egc]; omega⟩
 unfold tuV
 rw [egc,eg]
 have r1:(red w).1=w.1.tdiv (Ov w.1 w.2:Nat):=rfl
 have r2:(red w).2=w.2.tdiv (Ov w.1 w.2:Nat):=rfl
 rw [<-r1,<-r2,W_eq (by omega) (by omega),W_eq (by omega) (by omega)]
theorem Zes {u:V} (h:g1 u):red u=u:=by
 have hu:=Zd0 h
 obtain ⟨g,g0,e1,e2,_,eg⟩:=Vq hu
 unfold g1 at h
 rw [h] at eg
 rw [eg] at e1 e2
 exact Tk (by omega) (by omega)
theorem Zsn {n:Int} (h : -200000<=n/\n<=200000):i64 n:=by
 constructor<;>omega
noncomputable abbrev rTu:List AV->Option PRes:=famA (fun w:V=>w≠(0,0)/\Vb w) (fun w=>[P2 w.1 w.2]) (fun w=>⟨P2 (red w).1 (red w).2,[]⟩)
theorem Zfb {w:V} (hw:w≠(0,0)) (hb:Vb w):rTu [P2 w.1 w.2]=some ⟨P2 (red w).1 (red w).2,[]⟩ :=
 Zl (p:=fun w:V=>w≠(0,0)/\Vb w) (g:=fun w=>[P2 w.1 w.2]) (r:=fun w=>⟨P2 (red w).1 (red w).2,[]⟩) (k:=w) (fun j hj=>by
  simp only [Rd,Tt,Pj,true_and,and_true] at hj
  rw [show j=w from Tk hj.1 hj.2]) ⟨hw,hb⟩
theorem Zvv {pt:PC} (h:PCOK Tryz.prog pt):PCOK Tryz.prog (ins 214 rTu pt):=Zn (fun w hw=>by
 obtain ⟨e1,e2⟩:=Zu7 hw.1 hw.2
 have:=d88 (Zsn hw.2.1) (Zsn hw.2.2) e2
 rw [e1] at this
 exact this) h
def laW (ws:List Int):Int:=match ws.getLast? with
 | none=>-1
 | some x=>x
theorem Yb6 {ws:List Int} (h:∀ x∈ws,0<=x):laW ws=laI (Zw ws):=by
 unfold laW Zw laI
 cases e:ws.getLast? with
 | none=>rfl
 | some x =>
  have:=h x (List.mem_of_getLast? e)
  show x=((x.toNat:Nat):Int)
  omega
theorem Yhj {h:Hal} {ox oy ax ay bx by' la nx:Int} {ws:List Int} (T4 T5:List AV->Option PRes) (hk:PCOK Tryz.prog (ins 44 T4 (ins 214 T5 pt0))) (hl:ws.length<1000) (hla:laW ws=la) {q0 q1:Int} {q3 q4:Bool}
  (c4:T4 [h.av,.agg [I ox,I oy,I (Qa Qb (ax+bx)),I (Qa Qb (ay+by')),I la]]=some ⟨.tup [.agg [I q0,I q1,I nx,Bo q3],Bo q4],[]⟩) (c5:T5 [P2 ax ay]=some ⟨P2 ax ay,[]⟩) (c6:T5 [P2 bx by']=some ⟨P2 bx by',[]⟩) :
  PCall Tryz.prog 172 [h.av,wsA ws,P2 ox oy,P2 ax ay,P2 bx by'] ⟨.agg (bmA ⟨ws,(ox,oy),(ax,ay),(bx,by'),nx⟩),[]⟩:=by
 unfold bmA
 cases ws with
 | nil =>
  cases hla
  unfold wsA
  refine pn hk Tryz.func172 ?_
  repeat'(first|refine wk3 ?_|(refine wk2 ?_ ?_<;>intro _)|fail)
  all_goals first|exact Zg rfl rfl|(exfalso; simp_all; done)
 | cons x r =>
  unfold wsA
  dsimp only
  have e2:(nl (x::r)).length=r.length+1:=by simp [nl]
  have hl2:r.length<1000:=by simp at hl; omega
  have e1:(nl (x::r))[r.length]?=some [I la]:=by
   unfold laW at hla
   rw [List.getLast?_eq_getElem?] at hla
   have:(x::r)[r.length]?=some ((x::r)[r.length]'(by simp)):=Qe (by simp)
   simp only [Qz,Nat.add_sub_cancel] at hla
   rw [this] at hla
   dsimp only at hla
   unfold nl
   rw [Rr,this,<-hla]
   rfl
  have e3:(nl (x::r))[(Qa Qb (((nl (x::r)).length:Int)-1)).toNat]?=some [I la]:=by
   rw [e2,W_eq (by omega) (by omega),show (((r.length+1:Nat):Int)-1).toNat=r.length by omega]
   exact e1
  have e4:¬ Qa Qb (((nl (x::r)).length:Int)-1)<0:=by rw [e2,W_eq (by omega) (by omega)]; omega
  have e5:decide (0<=Qa Qb (((nl (x::r)).length:Int)-1))=true:=by rw [e2,W_eq (by omega) (by omega)]; exact decide_eq_true (by omega)
  clear e1
  generalize nl (x::r)=E at *
  refine pn hk Tryz.func172 ?_
  repeat'(first|refine wk3 ?_|(refine wk2 ?_ ?_<;>intro _)|fail)
  all_goals first|exact Zg rfl rfl|(exfalso; simp_all; done)|(exfalso; rename_i q; rw [e5] at q; cases q)|(exfalso; exact e4 (by omega))
theorem Zav {v:V} (h:(-50000<=v.1/\v.1<=50000)/\(-50000<=v.2/\v.2<=50000)):Vb v:=⟨by omega,by omega⟩
theorem e172 {h:Hal} (hf:h.few) (g:h.fine) {ws:List Int} {o a b:V} (ho:OB o) (hl:ws.length<1000) (hw:∀ x∈ws,0<=x) (ga:g1 a) (gb:g1 b) (ba:(-50000<=a.1/\a.1<=50000)/\(-50000<=a.2/\a.2<=50000)) (bb:(-50000<=b.1/\b.1<=50000)/\(-50000<=b.2/\b.2<=50000))
  (hp:LP h.cs o (Zw ws) (addV a b)):PCall Tryz.prog 172 [h.av,wsA ws,P2 o.1 o.2,P2 a.1 a.2,P2 b.1 b.2] ⟨.agg (bmA ⟨ws,o,a,b,nxtV h.cs o (Zw ws) (addV a b)⟩),[]⟩:=by
 have rb:RyB (ryV o (addV a b)):=Zi8 ho (by unfold addV; dsimp only; omega) (by unfold addV; dsimp only; omega)
 have c44:=e44 hf g rb (Zy2 g hp)
 have t1:=Zfb (Zd0 ga) (Zav ba)
 have t2:=Zfb (Zd0 gb) (Zav bb)
 rw [Zes ga] at t1
 rw [Zes gb] at t2
 have ea:Qa Qb (a.1+b.1)=(addV a b).1:=W_eq (by omega) (by omega)
 have eb:Qa Qb (a.2+b.2)=(addV a b).2:=W_eq (by omega) (by omega)
 have hla:=Yb6 hw
 obtain ⟨ox,oy⟩:=o
 obtain ⟨ax,ay⟩:=a
 obtain ⟨bx,by'⟩:=b
 have c4:=Vi [h.av,(ryV (ox,oy) (addV (ax,ay) (bx,by'))).av (laI (Zw ws))] (mtV h.cs (bstP (Yi h.cs (ryV (ox,oy) (addV (ax,ay) (bx,by'))) (frQ h.cs (ox,oy) (addV (ax,ay) (bx,by')) (Zw ws)) (laI (Zw ws))) h.cs.length))
 have hk:=Zf c44 (Zvv Ze)
 unfold nxtV bstV
 cases hb:bstP (Yi h.cs (ryV (ox,oy) (addV (ax,ay) (bx,by'))) (frQ h.cs (ox,oy) (addV (ax,ay) (bx,by')) (Zw ws)) (laI (Zw ws))) h.cs.length with
 | none =>
  rw [hb] at c4 hk
  refine Yhj _ _ hk hl hla (q0:=0) (q1:=0) (q3:=false) (q4:=false) ?_ t1 t2
  rw [ea,eb]
  exact c4
 | some c =>
  rw [hb] at c4 hk
  refine Yhj _ _ hk hl hla (q0:=(wlOf h.cs c.i).ln.n*c.nu) (q1:=(wlOf h.cs c.i).ln.n*c.de) (q3:=c.well) (q4:=true) ?_ t1 t2
  rw [ea,eb]
  exact c4
def plH (h:Hal):Pl:=⟨h.nm,h.ht,h.fl,h.ce,h.ms.map Mat.av,h.cs,h.ws.map Wal.av,.isl 7 (h.ks.map Can.av),.isl 4 (h.ss.map Sea.av)⟩
theorem Zru {h:Hal} (g:h.fine) {o:V} (ho:OB o) (L:Option Nat):∀ l:List V,(∀ p∈l,p∈h.cs)->Zfs o.1 o.2 (visB h.cs o L) l=((l.filter fun p=>!decide (p=o)&&visB h.cs o L p).map (toW o)).map wy
 | [],_=>rfl
 | p::l,hl=>by
  have ih:=Zru g ho L l (fun q hq=>hl q (by simp [hq]))
  have hb:=Zc2 g ho (hl p (by simp))
  rw [Zg8,ih,List.filter_cons]
  by_cases c:p=o
  ·rw [if_pos (by rw [c]; exact ⟨rfl,rfl⟩),decide_eq_true c]
   simp
  ·rw [if_neg (fun q=>c (Tk q.1 q.2)),decide_eq_false c]
   cases visB h.cs o L p
   ·simp
   ·simp only [Bool.not_false,Tv,if_true,Ss]
    congr 1
    unfold toW at hb
    dsimp only at hb
    rw [W_eq (n:=p.1-o.1) (by omega) (by omega),W_eq (n:=p.2-o.2) (by omega) (by omega)]
    rfl
theorem Zvn {h:Hal} (hf:h.few) (g:h.fine) {o:V} (ho:OB o) {L:Option Nat} (hL:∀ l,L=some l->l<h.cs.length):ItOK Tryz.prog 218 [] (capS h o.1 o.2 (laI L)) ((Vl h.cs o L).map wy):=by
 have l3:=g.le.2.1
 have l12:h.cs.length<=12:=by have:=g.le; omega
 have hla:laI L<h.cs.length:=by
  cases hq:L with
  | none=>unfold laI; dsimp only; omega
  | some l=>have:=hL l hq; unfold laI; dsimp only; omega
 have e:=Yig (q:=plH h) (.inr ⟨_,rfl⟩) (.inr ⟨_,rfl⟩) (by show h.cs.length<1000; omega) o.1 o.2 (laI L) (fun p=>byR h.cs (ryV o (toW o p)) (laI L) (1,1)) (fun p=>Zlt h.cs o (toW o p) L)
  (fun p hp=>by
   have hb:=Zc2 g ho hp
   have:=e102 hf (ryV o (toW o p)) hla 1 1
   unfold toW at hb this ⊢
   dsimp only at hb this ⊢
   rw [W_eq (n:=p.1-o.1) (by omega) (by omega),W_eq (n:=p.2-o.2) (by omega) (by omega)]
   exact this)
  (fun p hp hne hby=>by
   have hb:=Zc2 g ho hp
   have rb:RyB (ryV o (toW o p)):=Zi8 ho (by omega) (by omega)
   have:=e219 hf g rb ((Zyu g rb hL).1 hby).1
   unfold toW at hb this ⊢
   dsimp only at hb this ⊢
   rw [W_eq (n:=p.1-o.1) (by omega) (by omega),W_eq (n:=p.2-o.2) (by omega) (by omega)]
   exact this)
 have e2:=Zru g ho L h.cs (fun p hp=>hp)
 unfold Vl
 rw [<-e2]
 exact e
theorem Zi5 {h:Hal} (g:h.fine) (o:V) (L:Option Nat):(Vl h.cs o L).length<=12:=by
 have l12:h.cs.length<=12:=by have:=g.le; omega
 unfold Vl
 rw [Qj]
 exact Nat.le_trans (List.length_filter_le _ _) l12
theorem subs {P:V->Prop}:∀ l:List V,(∀ x∈l,P x)->∃ xs:List {v:V // P v},xs.map Kd=l
 | [],_=>⟨[],rfl⟩
 | a::l,h=>by
  obtain ⟨xs,e⟩:=subs l (fun x hx=>h x (by simp [hx]))
  exact ⟨⟨a,h a (by simp)⟩::xs,by rw [Ss,e]⟩
abbrev Tb:={v:V // g1 v/\Vb v}
theorem Ztb (a b:V):arV a b<0↔sn a b:=by
 unfold arV sn
 have h0:=Zas a
 have h1:=Zas b
 split
 ·omega
 ·omega
theorem Yfa:Go.Sort.SWO (Qbu (fun a b:Tb=>arV a.1 b.1)):=by
 refine ⟨fun x=>?_,fun x y z h1 h2=>?_,fun x y z h1 h2=>?_⟩
 ·simp only [ltOf,decide_eq_false_iff_not]
  rw [Ztb]
  exact Zvi _
 ·simp only [ltOf,decide_eq_true_eq] at *
  rw [Ztb] at *
  exact Zzr h1 h2
 ·simp only [ltOf,decide_eq_false_iff_not] at *
  rw [Ztb] at *
  intro h3
  rcases Zro x.2.1 y.2.1 with q|q|q
  ·exact h1 q
  ·exact h2 (q ▸ h3)
  ·rcases Zro y.2.1 z.2.1 with w|w|w
   ·exact h2 w
   ·exact h1 (w ▸ h3)
   ·exact Zpx h3 (Zzr w q)
theorem Zwg:FnOK Tryz.prog 215:=FnOK.of Tryz.func215 (by kernel_rfl) (by kernel_rfl)
theorem Yfj {h:Hal} (g:h.fine) {o:V} (k:InSrc h o) {ys:List Tb} (hp:(ys.map Kd).Perm ((Vl h.cs o none).map red)) (hs:ys.Pairwise (fun a b=>¬ arV b.1 a.1<0)):ys.map Kd=tO h.cs o:=by
 obtain ⟨s1,s2,_,_⟩:=Zpu g k
 have hm:=fun w=>Za1 g k.ob (L:=none) (fun l q=>by cases q) (w:=w)
 have nd:((Vl h.cs o none).map red).Nodup:=by
  unfold Kz
  rw [Ny]
  have nd0:(Vl h.cs o none).Nodup:=by
   unfold Vl Kz
   rw [Ny]
   have:=Jf (fun p=>!decide (p=o)&&visB h.cs o none p) (Zsz g)
   refine Hs (fun {a b} hab q=>hab ?_) this
   unfold toW at q
   rw [Rk] at q
   exact Tk (by omega) (by omega)
  refine Ga (fun {a b} ha hb hab q=>hab ?_) nd0
  obtain ⟨i,hi,rfl,h1,_,h2⟩:=(hm a).1 ha
  obtain ⟨j,hj,rfl,h3,_,h4⟩:=(hm b).1 hb
  exact Zk2 g (fun _=>True) (fun k' _ _ _=>k.bef g _) hi hj trivial trivial h1 h3 h2 h4 q
 have nd2:(ys.map Kd).Nodup:=hp.nodup_iff.2 nd
 refine Zl5 (R:=sn) (fun x y=>Zpx) ?_ s1 (fun x=>?_)
 ·unfold Srt
  unfold Kz at nd2
  rw [Ny] at nd2 ⊢
  refine (Fi.2 ⟨hs,nd2⟩).imp (fun {a b} hab=>?_)
  obtain ⟨h1,h2⟩:=hab
  rw [Ztb] at h1
  rcases Zro a.2.1 b.2.1 with q|q|q
  ·exact q
  ·exact absurd q h2
  ·exact absurd q h1
 ·rw [hp.mem_iff,s2,Ta]
  constructor
  ·rintro ⟨w,hw,e⟩; exact ⟨w,hw,e.symm⟩
  ·rintro ⟨w,hw,e⟩; exact ⟨w,hw,e.symm⟩
def mixR (vs:List V) (j:Nat):List V:=(vs.take j).map red++vs.drop j
theorem Zf3 (vs:List V) (j:Nat):(mixR vs j).length=vs.length:=by
 unfold mixR
 rw [Rb,Qj,Tu,List.length_drop]
 omega
theorem Zf4 {vs:List V} {j:Nat} (hj:j<vs.length):((mixR vs j).map wv)[0+((j:Nat):Int).toNat]?=some (wv vs[j]):=by
 rw [Sk,Ri,Rr]
 unfold mixR
 rw [List.getElem?_append_right (by rw [Qj,Tu]; omega),Qj,Tu,Ns (by omega),Jq,List.getElem?_drop,Nat.add_zero,Qe hj]
 rfl
theorem Zf2 {vs:List V} {j:Nat} (hj:j<vs.length):Ze7 ((mixR vs j).map wv) (0+((j:Nat):Int).toNat) (wv (red vs[j]))=(mixR vs (j+1)).map wv:=by
 rw [Zbs,Sk,Ri,<-List.map_set]
 congr 1
 unfold mixR
 rw [List.set_append_right _ _ (by rw [Qj,Tu]; omega),Qj,Tu,Ns (by omega),Jq,List.drop_eq_getElem_cons hj,List.set_cons_zero,List.take_succ_eq_append_getElem hj,Rm]
 simp
theorem Zf5 (vs:List V):mixR vs vs.length=vs.map red:=by unfold mixR; simp
theorem Zgl {P:Program} {f:FuncId} {fn:Func} (hf:P.funcs[f]?=some fn) (h1:(fn.name == "runtime.NumGoroutine")=false) (h2:fn.body.isNone=false) (args:Array Value) (w:World):(callFunc f args).run P w = .ok (.enter f args) w:=by
 have q2' : ¬ fn.name = "runtime.NumGoroutine" := by simpa using h1
 have q3' : ¬ fn.body=none:=by intro h; rw [h] at h2; simp at h2
 simp [callFunc,hf,q2',q3']
theorem Xh {T:List V} {j:Nat} (hj:j<T.length):(T.map wv)[0+((j:Nat):Int).toNat]?=some (wv T[j]):=by
 rw [Sk,Ri,Rr,Qe hj]
 rfl
def Yh:FuncId->Bool:=fun f=>Qs f 168||(Qs f 215||Qs f 216)
noncomputable abbrev rBm (h:Hal) (ws:List Int) (o:V) (nx:V->Int):List AV->Option PRes:=famA (fun q:V × V=>(g1 q.1/\g1 q.2)/\(((-50000<=q.1.1/\q.1.1<=50000)/\(-50000<=q.1.2/\q.1.2<=50000))/\((-50000<=q.2.1/\q.2.1<=50000)/\(-50000<=q.2.2/\q.2.2<=50000)))/\LP h.cs o (Zw ws) (addV q.1 q.2)) (fun q=>[h.av,wsA ws,P2 o.1 o.2,P2 q.1.1 q.1.2,P2 q.2.1 q.2.2]) (fun q=>⟨.agg (bmA ⟨ws,o,q.1,q.2,nx (addV q.1 q.2)⟩),[]⟩)
theorem Zje {h:Hal} {ws:List Int} {o:V} {nx:V->Int} {a b:V} (h1:g1 a/\g1 b) (h2:((-50000<=a.1/\a.1<=50000)/\(-50000<=a.2/\a.2<=50000))/\((-50000<=b.1/\b.1<=50000)/\(-50000<=b.2/\b.2<=50000))) (h3:LP h.cs o (Zw ws) (addV a b)) :
  rBm h ws o nx [h.av,wsA ws,P2 o.1 o.2,P2 a.1 a.2,P2 b.1 b.2]=some ⟨.agg (bmA ⟨ws,o,a,b,nx (addV a b)⟩),[]⟩ :=
 Zl (p:=fun q:V × V=>(g1 q.1/\g1 q.2)/\(((-50000<=q.1.1/\q.1.1<=50000)/\(-50000<=q.1.2/\q.1.2<=50000))/\((-50000<=q.2.1/\q.2.1<=50000)/\(-50000<=q.2.2/\q.2.2<=50000)))/\LP h.cs o (Zw ws) (addV q.1 q.2)) (g:=fun q=>[h.av,wsA ws,P2 o.1 o.2,P2 q.1.1 q.1.2,P2 q.2.1 q.2.2]) (r:=fun q=>⟨.agg (bmA ⟨ws,o,q.1,q.2,nx (addV q.1 q.2)⟩),[]⟩) (k:=(a,b)) (fun j hj=>by
  simp only [Rd,Tt,Pj,true_and,and_true] at hj
  rw [show j=(a,b) from Tk (Tk hj.1.1 hj.1.2) (Tk hj.2.1 hj.2.2)]) ⟨h1,h2,h3⟩
theorem e88 {h:Hal} (hf:h.few) (g:h.fine) (hS:SortsK Tryz.prog 215 2) {o:V} (k:InSrc h o):PCall Tryz.prog 88 [h.av,P2 o.1 o.2] ⟨.isl 8 ((Zu h.cs o).map bmA),[]⟩:=by
 have hit:=Zvn hf g k.ob (L:=none) (fun l q=>by cases q)
 have hln:=Zi5 g o none
 have c1:=e169 h o.1 o.2 (laI none) hit (by omega)
 have c2:=e170 h o.1 o.2 (laI none)
 have hvs:=fun w=>Za1 g k.ob (L:=none) (fun l q=>by cases q) (w:=w)
 have hW:∀ w∈Vl h.cs o none,w≠(0,0)/\Vb w:=fun w hw=>by
  obtain ⟨j,hj,e,h1,_⟩:=(hvs w).1 hw
  refine ⟨h1,Zav ?_⟩
  rw [e,Zlx _ hj]
  exact Zc2 g k.ob (Qn hj)
 have hT:=fun ys=>Yfj g k (ys:=ys)
 obtain ⟨h3,hgood⟩:=Zeb g k
 have hne:Vl h.cs o none≠[]:=by
  intro q
  unfold tO at h3
  rw [q] at h3
  simp at h3
 have hbeam:=fun (a b:V) (q:(g1 a/\g1 b)/\(((-50000<=a.1/\a.1<=50000)/\(-50000<=a.2/\a.2<=50000))/\((-50000<=b.1/\b.1<=50000)/\(-50000<=b.2/\b.2<=50000)))/\LP h.cs o (Zw []) (addV a b))=>e172 hf g (ws:=[]) k.ob (by simp) (by simp) q.1.1 q.1.2 q.2.1.1 q.2.1.2 q.2.2
 unfold wsR at c1
 rw [if_neg hne] at c1
 generalize hvsd:Vl h.cs o none=vs at *
 have hk:PCOK Tryz.prog (ins 170 (one [h.av,P2 o.1 o.2,I (-1)] ⟨.func 218 [] (capS h o.1 o.2 (-1)),[]⟩) (ins 169 (one [.func 218 [] (capS h o.1 o.2 (-1))] ⟨.asl 0 0 (vs.map wv).length,[(2,vs.map wv)]⟩) (ins 214 rTu (ins 43 rWy (ins 172 (rBm h [] o (nxtV h.cs o (Zw []))) pt0))))) :=
  Zf c2 (Zf c1 (Zvv (Zk (fun a res h=>by unfold rWy at h; split at h<;>cases h; exact d93 _ _) (Zn (fun q hq=>hbeam q.1 q.2 hq) Ze))))
 refine PCall.freeze (res:=⟨.asl 0 0 ((Zu h.cs o).map bmA).length,[(8,(Zu h.cs o).map bmA)]⟩) ?_ ⟨rfl,rfl,rfl⟩
 obtain ⟨ox,oy⟩:=o
 refine bs.pv (sx:=Yh) hk Tryz.func88 (by kernel_rfl) (by kernel_rfl) rfl ?_
 repeat'(first|refine wk3 ?_|(refine wk2 ?_ ?_<;>intro _)|fail)
 refine bs.sv (sx:=Yh) hk Tryz.func168 (by kernel_rfl) (by kernel_rfl) ?_
 repeat'(first|refine wk3 ?_|(refine wk2 ?_ ?_<;>intro _)|fail)
 have lvs:(vs.map wv).length=vs.length:=Qj _
 have hl12:vs.length<1000:=by omega
 refine Zm (S:=Nat × Int × List (List AV)) (fun t=>vs.length-t.1) (fun t=>[(0,.asl 2 0 (vs.map wv).length),(1,.func 171 [] []),(7,.asl 2 0 (vs.map wv).length),(8,I (vs.map wv).length),(9,I t.2.1)])
  (fun t=>[(2,.row 2 t.2.2 true true),(1,.row 2 [[I ox,I oy]] true false),(0,.row 9 [h.cells] true false)]) 3 3 (fun t=>t.2.1=t.1/\t.1<=vs.length/\t.2.2=(mixR vs t.1).map wv) (0,0,vs.map wv) ⟨rfl,Qp _,rfl⟩ (Qd _) [] rfl (kps) (kps) ?_
 rintro ⟨j,i,els⟩ ⟨hi,hj,hels⟩
 dsimp only at hi hj hels ⊢
 subst hi
 have lel:els.length=vs.length:=by rw [hels,Qj,Zf3]
 by_cases hlt:j<vs.length
 ·have e1:=Zf4 hlt
  have e2:=Zf2 hlt
  rw [<-hels] at e1 e2
  have t1:=hW vs[j] (Qn hlt)
  have t2:=Zfb t1.1 t1.2
  have e3:(⟨ox,oy⟩:V).1=ox:=rfl
  generalize vs[j]=v at *
  generalize red v=u at *
  obtain ⟨vx,vy⟩:=v
  obtain ⟨ux,uy⟩:=u
  refine bs.av (sx:=Yh) hk ?_
  repeat'(first|refine wk3 ?_|(refine wk2 ?_ ?_<;>intro _)|fail)
  exact Qr ⟨(j+1,Qa Qb ((j:Int)+1),Ze7 els (0+((j:Nat):Int).toNat) [I ux,I uy]),[],rfl,kps,kps,⟨Zb (by omega),hlt,e2⟩,by dsimp only; omega⟩
 have hjn:j=vs.length:=by omega
 subst hjn
 rw [Zf5] at hels
 obtain ⟨xs,hxs⟩:=subs (P:=fun v=>g1 v/\Vb v) (vs.map red) (fun x hx=>by
  obtain ⟨w,hw,rfl⟩:=Ta.1 hx
  obtain ⟨q1,q2⟩:=hW w hw
  obtain ⟨gg,_,_,_,q5,_⟩:=Vq q1
  obtain ⟨b1,b2⟩:=Zhx q1 q2.1 q2.2
  exact ⟨q5,b1,b2⟩)
 have hx2:els=xs.map (fun b:Tb=>wv b.1):=by rw [hels,<-hxs,Ot]; rfl
 have lxs:xs.length=(vs.map wv).length:=by
  have:=congrArg List.length hxs
  simpa using this
 clear hels
 subst hx2
 refine bs.av (sx:=Yh) hk ?_
 repeat'(first|refine wk3 ?_|(refine wk2 ?_ ?_<;>intro _)|fail)
 rw [<-lxs]
 refine Zfr Zwg hS (by decide) (Zgl Tryz.func171 (by kernel_rfl) (by kernel_rfl)) (fun b:Tb=>wv b.1) (fun _=>rfl) (fun _=>rfl) (fun _=>rfl) (fun a b:Tb=>arV a.1 b.1) (fun a _ b _=>Zfv (e171 a.2.2 b.2.2)) Yfa (by omega) rfl fun ys hp hs=>?_
 have hys:=hT ys (by rw [<-hxs]; exact hp.map _) hs
 have e5:ys.map (fun b:Tb=>wv b.1)=(tO h.cs (ox,oy)).map wv:=by rw [<-hys,Ot]; rfl
 rw [e5]
 repeat'(first|refine wk3 ?_|(refine wk2 ?_ ?_<;>intro _)|fail)
 have lT:((tO h.cs (ox,oy)).map wv).length=(tO h.cs (ox,oy)).length:=Qj _
 have lx2:xs.length=(tO h.cs (ox,oy)).length:=by rw [<-hys,Qj]; exact hp.length_eq.symm
 have hnd:∀ i,0<i->i<(tO h.cs (ox,oy)).length->(tO h.cs (ox,oy))[i]?≠(tO h.cs (ox,oy))[i-1]?:=by
  obtain ⟨s1,_⟩:=Zpu g k
  intro i h0 h1 q
  have:=Tj.1 s1 (i-1) i (by omega) h1 (by omega)
  rw [Qe h1,Qe (by omega:i-1<_)] at q
  rw [Sr q] at this
  exact Zvi _ this
 clear hys e5 hp hs hT hvs hW hxs hit hln c1 c2 hne
 rw [lx2]
 generalize hTT:tO h.cs (ox,oy)=T at *
 refine bs.sv (sx:=Yh) hk Tryz.func216 (by kernel_rfl) (by kernel_rfl) ?_
 repeat'(first|refine wk3 ?_|(refine wk2 ?_ ?_<;>intro _)|fail)
 have hT1000:T.length<1000:=by omega
 refine Zm (S:=Nat × Int) (fun t=>T.length-t.1) (fun t=>[(0,.asl 2 0 T.length),(3,I t.2)]) (fun _=>[(2,.row 2 (T.map wv) true true),(1,.row 2 [[I ox,I oy]] true false),(0,.row 9 [h.cells] true false)]) 3 3
  (fun t=>t.2=t.1/\1<=t.1/\t.1<=T.length) (1,1) ⟨rfl,Qd _,by omega⟩ (Qd _) [] rfl (kps) (kps) ?_
 rintro ⟨j,i⟩ ⟨hi,hj0,hj⟩
 dsimp only at hi hj0 hj ⊢
 subst hi
 by_cases hlt:j<T.length
 ·have e1:=Xh hlt
  have e2:=Xh (T:=T) (j:=j-1) (by omega)
  rw [show (((j-1:Nat):Int))=Qa Qb ((j:Int)-1) by rw [W_eq (by omega) (by omega)]; omega] at e2
  have hd:=hnd j (by omega) hlt
  rw [Qe hlt,Qe (by omega:j-1<T.length)] at hd
  have w1:decide (0<=Qa Qb ((j:Int)-1))=true:=by rw [W_eq (by omega) (by omega)]; exact decide_eq_true (by omega)
  have w2:decide (Qa Qb ((j:Int)-1)<(T.length:Int))=true:=by rw [W_eq (by omega) (by omega)]; exact decide_eq_true (by omega)
  have hz:Qa Qb ((j:Int)-1)=(j:Int)-1:=W_eq (by omega) (by omega)
  generalize T[j]=u at *
  generalize T[j-1]'(by omega)=v at *
  obtain ⟨ux,uy⟩:=u
  obtain ⟨vx,vy⟩:=v
  have hraw:(decide (ux=vx)&&(decide (uy=vy)&&true))=false:=by
   rw [Bool.eq_false_iff]
   intro q
   simp only [Bool.and_true,Qc,decide_eq_true_eq] at q
   exact hd (by rw [q.1,q.2])
  clear hd
  refine bs.av (sx:=Yh) hk ?_
  repeat'(first|refine wk3 ?_|(refine wk2 ?_ ?_<;>intro _)|fail)
  all_goals first
   | exact Qr ⟨(j+1,Qa Qb ((j:Int)+1)),[],rfl,kps,kps,⟨Zb (by omega),by omega,hlt⟩,by dsimp only; omega⟩
   | (exfalso; clear hk; simp_all; done)
 have hjn:j=T.length:=by omega
 subst hjn
 refine bs.av (sx:=Yh) hk ?_
 repeat'(first|refine wk3 ?_|(refine wk2 ?_ ?_<;>intro _)|fail)
 have hgd:=fun i (hi:i<T.length)=>hgood _ (Ta.2 ⟨i,Rx.2 (by rw [hTT]; exact hi),rfl⟩)
 have hRB:Zu h.cs (ox,oy)=(Rv T.length).map fun i=>⟨[],(ox,oy),getV T i,getV T ((i+1)%T.length),nxtV h.cs (ox,oy) none (addV (getV T i) (getV T ((i+1)%T.length)))⟩:=by
  unfold Zu
  rw [hTT]
 have hbm:∀ i,i<T.length->∃ m:Bm,m=⟨[],(ox,oy),getV T i,getV T ((i+1)%T.length),nxtV h.cs (ox,oy) none (addV (getV T i) (getV T ((i+1)%T.length)))⟩/\GoodB h m:=fun i hi=>by
  refine ⟨_,rfl,?_⟩
  have:=hgd i hi
  rw [hTT] at this
  exact this.1
 rw [hRB]
 clear hgd hgood hRB hTT hnd lxs lx2 hbeam hvsd
 let F:Nat->Bm:=fun i=>⟨[],(ox,oy),getV T i,getV T ((i+1)%T.length),nxtV h.cs (ox,oy) none (addV (getV T i) (getV T ((i+1)%T.length)))⟩
 refine Zm (S:=Nat × Int × Nat × List (List AV)) (fun t=>T.length-t.1) (fun t=>[(2,.ptr 0 0 0),(3,.ptr 1 0 0),(5,.asl 2 0 T.length),(6,gv 3 t.1 t.2.2.1),(14,.asl 2 0 T.length),(15,I T.length),(16,I t.2.1)])
  (fun t=>gz 3 8 t.1 t.2.2.2 [(2,.row 2 (T.map wv) true true),(1,.row 2 [[I ox,I oy]] true false),(0,.row 9 [h.cells] true false)]) 3 4
  (fun t=>t.2.1=t.1/\t.1<=T.length/\t.2.2.1=t.2.2.2.length/\t.2.2.2=((Rv t.1).map F).map bmA) (0,0,0,[]) ⟨rfl,Qp _,rfl,rfl⟩ (Qd _) [] rfl (kps) (kps) ?_
 rintro ⟨j,i,len,els⟩ ⟨hi,hj,hlen,hels⟩
 dsimp only at hi hj hlen hels ⊢
 subst hi
 by_cases hlt:j<T.length
 ·obtain ⟨m,em,gm⟩:=hbm j hlt
  have hq:=Xq hlt
  have hj2:(j+1)%T.length<T.length:=Tx _ (by omega)
  have hq2:=Xq hj2
  have eW:Qa Qb ((j:Int)+1)=((j+1:Nat):Int):=Zb (by omega)
  have eM:Int.tmod ((j+1:Nat):Int) (T.length:Int)=(((j+1)%T.length:Nat):Int):=by
   rw [Int.tmod_eq_emod_of_nonneg (by omega)]; omega
  have eD:decide (0<=(Qa Qb ((j:Int)+1)).tmod (T.length:Int)/\(Qa Qb ((j:Int)+1)).tmod (T.length:Int)<(T.length:Int))=true:=by
   rw [eW,eM]
   exact decide_eq_true (by omega)
  have e1:=Xh hlt
  have e2:=Xh hj2
  have hc:rBm h [] (ox,oy) (nxtV h.cs (ox,oy) (Zw [])) [h.av,wsA [],P2 ox oy,P2 m.a.1 m.a.2,P2 m.b.1 m.b.2]=some ⟨.agg (bmA m),[]⟩:=by
   obtain ⟨w,enx,KK⟩:=gm.sec
   have hLP:LP h.cs (ox,oy) (Zw []) (addV m.a m.b):=fun l q=>by cases q
   have:=Zje (h:=h) (ws:=[]) (o:=(ox,oy)) (nx:=nxtV h.cs (ox,oy) (Zw [])) (a:=m.a) (b:=m.b) ⟨gm.ga,gm.gb⟩ ⟨gm.ba,gm.bb⟩ hLP
   rw [this]
   congr 3
   rw [em]
   rfl
  have e3:((Rv (j+1)).map F).map bmA=els++[bmA m]:=by
   rw [List.range_succ,Rm,Rm,<-hels]
   show els++[bmA (F j)]=_
   rw [em]
  have ea:T[j]=m.a:=by rw [em,<-hq]
  have eb:T[(j+1)%T.length]=m.b:=by rw [em,<-hq2]
  rw [ea] at e1
  rw [eb,<-eM,<-eW] at e2
  have l4:els.length<2000:=by rw [hels,Qj,Qj,List.length_range]; omega
  have hb0:wsA m.ws = .nils:=by rw [em]; rfl
  have hbA:bmA m=[.nils,I ox,I oy,I m.a.1,I m.a.2,I m.b.1,I m.b.2,I m.nx]:=by unfold bmA; rw [hb0,em]
  rw [hbA] at hc e3
  have hz1:¬ ((T.length:Int)=0):=by omega
  generalize m.nx=nx at *
  generalize hma:m.a=A at *
  generalize hmb:m.b=B at *
  obtain ⟨ax,ay⟩:=A
  obtain ⟨bx,by'⟩:=B
  dsimp only at e1 e2 hc e3
  generalize rBm h [] (ox,oy) (nxtV h.cs (ox,oy) (Zw []))=TB at *
  clear em gm hma hmb hbA hb0 hq hq2 ea eb hbm
  cases j with
  | zero =>
   have hz:els=[]:=hels
   subst hz
   refine bs.av (sx:=Yh) hk ?_
   repeat'(first|refine wk3 ?_|(refine wk2 ?_ ?_<;>intro _)|fail)
   all_goals first
    | (exfalso; exact Me (eD.symm.trans (by assumption)))
    | exact Qr ⟨(1,_,_,[[.nils,I ox,I oy,I ax,I ay,I bx,I by',I nx]]),[(3,19)],rfl,kps,kps,⟨Zb (by omega),hlt,rfl,e3.symm⟩,by dsimp only; omega⟩
  | succ j =>
   refine bs.av (sx:=Yh) hk ?_
   repeat'(first|refine wk3 ?_|(refine wk2 ?_ ?_<;>intro _)|fail)
   all_goals first
    | (exfalso; exact Me (eD.symm.trans (by assumption)))
    | skip
   refine Xz (ys:=[[.nils,I ox,I oy,I ax,I ay,I bx,I by',I nx]]) rfl rfl rfl rfl rfl rfl rfl rfl rfl rfl (by simp) hlen (by simp only [Qz,Rh]; omega) ?_
   repeat'(first|refine wk3 ?_|(refine wk2 ?_ ?_<;>intro _)|fail)
   exact Qr ⟨(j+2,_,_,els++[[.nils,I ox,I oy,I ax,I ay,I bx,I by',I nx]]),[(3,19)],rfl,kps,kps,⟨Zb (by omega),hlt,by exact List.length_append.symm,e3.symm⟩,by dsimp only; omega⟩
 ·have hjn:j=T.length:=by omega
  subst hjn
  subst hels
  have hTp:∃ q,T.length=q+1:=⟨T.length-1,by omega⟩
  obtain ⟨q,hq⟩:=hTp
  have hgz:∀ els z,gz 3 8 T.length els z=(3,.row 8 els true true)::z:=fun els z=>by rw [hq]; rfl
  have hgv:∀ len,gv 3 T.length len = .asl 3 0 len:=fun len=>by rw [hq]; rfl
  rw [hgz,hgv]
  refine bs.av (sx:=Yh) hk ?_
  repeat'(first|refine wk3 ?_|(refine wk2 ?_ ?_<;>intro _)|fail)
  exact Yk [3] rfl (by rw [hlen]; rfl) rfl
def clR (ws:List Int):PRes:=match ws with
 | []=>⟨.nils,[]⟩
 | x::r=>⟨.asl 0 0 (nl (x::r)).length,[(1,nl (x::r))]⟩
theorem e120 {ws:List Int} (hl:ws.length<1000):PCall Tryz.prog 120 [wsA ws] (clR ws):=by
 cases ws with
 | nil =>
  unfold wsA clR
  refine pn Ze Tryz.func120 ?_
  repeat'(first|refine wk3 ?_|(refine wk2 ?_ ?_<;>intro _)|fail)
  exact Zg rfl rfl
 | cons x r =>
  unfold wsA clR
  have h1:=Znw (x::r)
  have h2:=Zp (x::r)
  have h3:(x::r).length=r.length+1:=rfl
  refine pn Ze Tryz.func120 ?_
  repeat'(first|refine wk3 ?_|(refine wk2 ?_ ?_<;>intro _)|fail)
  refine Yk [1] rfl ?_ rfl
  show AV.asl 1 0 (0+(nl (x::r)).length)=AV.asl 1 0 (nl (x::r)).length
  rw [Sk]
def rBt:List AV->Option PRes
 | [.agg [.int .i64 a,.int .i64 b],.agg [.int .i64 c,.int .i64 d],.agg [.int .i64 x,.int .i64 y]]=>some ⟨Bo (btW (a,b) (c,d) (x,y)),[]⟩
 | _=>none
theorem Ybt {pt:PC} (h:PCOK Tryz.prog pt):PCOK Tryz.prog (ins 54 rBt pt):=Zk (fun a res h=>by unfold rBt at h; split at h<;>cases h; exact d92b (_,_) (_,_) (_,_)) h
theorem Zs5 {a b x:V} (ha:Vb a) (hb:Vb b) (hx:Vb x) (hab:0<Si a b):btW a b x=(decide (0<Si a x)&&decide (0<Si x b)):=by
 unfold btW
 rw [(Zlo ha hb).1,(Zlo ha hx).1,(Zlo hx hb).1,decide_eq_true hab,Tv]
noncomputable abbrev rMv (h:Hal) (w:Nat):List AV->Option PRes:=famA (fun v:V=>Vb v) (fun v=>[h.av,I w,P2 v.1 v.2]) (fun v=>⟨P2 (imgV h.cs w v).1 (imgV h.cs w v).2,[]⟩)
theorem Zv0 {h:Hal} {w:Nat} {v:V} (hv:Vb v):rMv h w [h.av,I w,P2 v.1 v.2]=some ⟨P2 (imgV h.cs w v).1 (imgV h.cs w v).2,[]⟩ :=
 Zl (p:=fun v:V=>Vb v) (g:=fun v=>[h.av,I w,P2 v.1 v.2]) (r:=fun v=>⟨P2 (imgV h.cs w v).1 (imgV h.cs w v).2,[]⟩) (k:=v) (fun j hj=>by
  simp only [Rd,Tt,Pj,true_and,and_true] at hj
  rw [show j=v from Tk hj.1 hj.2]) hv
theorem Yfr {h:Hal} (hf:h.few) (g:h.fine) {w:Nat} (hw:w<h.cs.length) {pt:PC} (hp:PCOK Tryz.prog pt):PCOK Tryz.prog (ins 82 (rMv h w) pt):=Zn (fun v hv=>by
 obtain ⟨n,hs⟩:=Ztp g hw
 exact e82 hf hw hs (x:=v.1) (y:=v.2) (by have:=hv.1; unfold sm6; omega) (by have:=hv.2; unfold sm6; omega)) hp
theorem e81i {h:Hal} (hf:h.few) (g:h.fine) {w:Nat} (hw:w<h.cs.length) {o:V} (ho:OB o):PCall Tryz.prog 81 [h.av,I w,P2 o.1 o.2] ⟨P2 (imgO h.cs w o).1 (imgO h.cs w o).2,[]⟩:=by
 obtain ⟨n,hs⟩:=Ztp g hw
 exact e81 hf hw hs ho.x ho.y
abbrev Ts (lo hi:V):={v:V // g1 v/\Vb v/\inS lo hi v}
theorem Zm3 {lo hi:V} (hp:0<Si lo hi):Go.Sort.SWO (Qbu (fun a b:Ts lo hi=>-(Si a.1 b.1))):=by
 refine ⟨fun x=>?_,fun x y z h1 h2=>?_,fun x y z h1 h2=>?_⟩
 ·simp only [ltOf,decide_eq_false_iff_not]
  rw [Zj]; omega
 ·simp only [ltOf,decide_eq_true_eq] at *
  have:=Zw3 hp x.2.2.2 y.2.2.2 z.2.2.2 x.2.1 y.2.1 z.2.1 (by omega) (by omega)
  omega
 ·simp only [ltOf,decide_eq_false_iff_not] at *
  intro h3
  rcases Zms hp x.2.2.2 y.2.2.2 x.2.1 y.2.1 with q|q|q
  ·exact h1 (by omega)
  ·exact h2 (q ▸ h3)
  ·rcases Zms hp y.2.2.2 z.2.2.2 y.2.1 z.2.1 with w|w|w
   ·exact h2 (by omega)
   ·exact h1 (w ▸ h3)
   ·have:=Zw3 hp z.2.2.2 y.2.2.2 x.2.2.2 z.2.1 y.2.1 x.2.1 w q
    rw [Zh] at this
    omega
theorem Yfk {h:Hal} (g:h.fine) {m:Bm} {w:Nat} {o lo hi:V} (B:BehOk h m w o lo hi) {ys:List (Ts lo hi)} (hp:(ys.map Kd).Perm (lo::hi::(btwL h.cs o w lo hi).map red)) (hs:ys.Pairwise (fun a b=>¬ -(Si b.1 a.1)<0)):ys.map Kd=tB h.cs o w lo hi:=by
 obtain ⟨s1,s2,_,_⟩:=Zga g B
 have hL:∀ l,some w=some l->l<h.cs.length:=fun l q=>by cases q; exact B.wl
 have hm:=fun v=>Za1 g B.ob (L:=some w) hL (w:=v)
 have hbt:∀ v,v∈btwL h.cs o w lo hi↔v∈Vl h.cs o (some w)/\0<Si lo v/\0<Si v hi:=fun v=>by
  unfold btwL
  rw [Nb,Qc,decide_eq_true_eq,decide_eq_true_eq]
 have hne:∀ v∈btwL h.cs o w lo hi,v≠(0,0):=fun v hv=>by
  obtain ⟨j,_,_,h3,_⟩:=(hm v).1 ((hbt v).1 hv).1
  exact h3
 have hin:∀ v∈btwL h.cs o w lo hi,0<Si lo (red v)/\0<Si (red v) hi:=fun v hv=>⟨(Vh (hne v hv)).2.2 ((hbt v).1 hv).2.1,(Vh (hne v hv)).1.2 ((hbt v).1 hv).2.2⟩
 have nd0:(Vl h.cs o (some w)).Nodup:=by
  unfold Vl Kz
  rw [Ny]
  have:=Jf (fun p=>!decide (p=o)&&visB h.cs o (some w) p) (Zsz g)
  refine Hs (fun {a b} hab q=>hab ?_) this
  unfold toW at q
  rw [Rk] at q
  exact Tk (by omega) (by omega)
 have nd:(lo::hi::(btwL h.cs o w lo hi).map red).Nodup:=by
  have pos:=B.pos
  refine Gz.2 ⟨?_,Gz.2 ⟨?_,?_⟩⟩
  ·intro q
   rcases Ra.1 q with q|q
   ·rw [<-q,Zj] at pos; omega
   ·obtain ⟨v,hv,e⟩:=Ta.1 q
    have:=(hin v hv).1
    rw [e,Zj] at this
    omega
  ·intro q
   obtain ⟨v,hv,e⟩:=Ta.1 q
   have:=(hin v hv).2
   rw [e,Zj] at this
   omega
  ·unfold Kz
   rw [Ny]
   have nd1:(btwL h.cs o w lo hi).Nodup:=Jf _ nd0
   refine Ga (fun {a b} ha hb hab q=>hab ?_) nd1
   obtain ⟨a0,a1,a2⟩:=(hbt a).1 ha
   obtain ⟨b0,b1,b2⟩:=(hbt b).1 hb
   obtain ⟨i,hi',rfl,h1,_,h2⟩:=(hm a).1 a0
   obtain ⟨j,hj',rfl,h3,_,h4⟩:=(hm b).1 b0
   exact Zk2 g (fun v=>0<Si lo v/\0<Si v hi) (fun k' _ hP _=>B.lk _ hP.1 hP.2) hi' hj' ⟨a1,a2⟩ ⟨b1,b2⟩ h1 h3 h2 h4 q
 have nd2:(ys.map Kd).Nodup:=hp.nodup_iff.2 nd
 refine Zl5 (R:=fun a b=>0<Si a b) (fun x y h1 h2=>by rw [Zh] at h2; omega) ?_ s1 (fun x=>?_)
 ·unfold Srt
  unfold Kz at nd2
  rw [Ny] at nd2 ⊢
  refine (Fi.2 ⟨hs,nd2⟩).imp (fun {a b} hab=>?_)
  obtain ⟨h1,h2⟩:=hab
  rcases Zms B.pos a.2.2.2 b.2.2.2 a.2.1 b.2.1 with q|q|q
  ·exact q
  ·exact absurd q h2
  ·exact absurd (by omega) h1
 ·rw [hp.mem_iff]
  unfold tB
  rw [Ra,Ra,Ra,Sh,Tm,s2,Ta]
  constructor
  ·rintro (q|q|⟨v,hv,e⟩)
   ·exact .inl q
   ·exact .inr (.inr q)
   ·exact .inr (.inl ⟨v,hv,e.symm⟩)
  ·rintro (q|⟨v,hv,e⟩|q)
   ·exact .inl q
   ·exact .inr (.inr ⟨v,hv,e.symm⟩)
   ·exact .inr (.inl q)
end Go.Proofs.YtanbhfpalahjcaaGreat
