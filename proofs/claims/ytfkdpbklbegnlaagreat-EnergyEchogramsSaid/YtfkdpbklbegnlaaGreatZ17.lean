/- A part of the proof: lemmas. -/
import Derived.Test.YtfkdpbklbegnlaaGreatZ16
import Derived.Test.YtfkdpbklbegnlaaGreatZ8
import Derived.Test.YtfkdpbklbegnlaaGreatZ9
import Derived.Test.YtfkdpbklbegnlaaGreatZ13
import Derived.Test.YtfkdpbklbegnlaaGreatZ7
import Derived.Test.YtfkdpbklbegnlaaGreatZ12
import Derived.KernelRfl
set_option linter.unusedVariables false
set_option linter.unusedSimpArgs false
set_option maxRecDepth 100000
set_option maxHeartbeats 16000000
open Bool renaming and_eq_true->Qc,eq_false_iff->Qv
open Go.IntKind renaming i64->Qb,wrap->Qa
open Go.Sx.AV renaming asl->Wn,isl->Ma
open Go.Sx.AV.int renaming injEq->Sr
open Go.Sx.AV.isl renaming injEq->Na
open Go.Sx.Done renaming mk->Ql
open Go.Sx.LpM renaming start->Su,succ->Qx
open Go.Sx.PCall renaming freeze->Mt,nilArgs->Dc
open Int renaming mul_le_mul->Ol,toNat_natCast->Rf
open List renaming append_assoc->Rs,append_nil->Tx,cons_append->Ss,drop_eq_getElem_cons->Qi,drop_of_length_le->Qk,filterMap_append->Kk,filterMap_cons->Jh,filterMap_nil->Jw,flatMap_append->Nj,foldl_append->Hn,foldl_cons->Lg,getElem?_eq_getElem->Qe,getElem?_map->Rq,getElem_mem->Qr,getLast?_eq_getElem?->Mx,length_append->Rr,length_cons->Ru,length_eq_zero_iff->Rt,length_filterMap_le->Nh,length_map->Ra,length_nil->Wp,length_singleton->Nz,length_take->Pi,map_append->Wz,map_set->Mu,mem_cons_of_mem->Py,mem_cons_self->Jx,mem_filterMap->Nr,mem_flatMap->Np,mem_map->Wd,mem_range->Tz,mem_range'_1->Ho,mem_singleton->We,range->Si,set_append_right->Fe,take_length->Pf,take_succ_eq_append_getElem->Qw
open List.cons renaming injEq->Qs
open Nat renaming beq->Qp,le_of_ble_eq_true->Qm,le_refl->Qd,le_trans->Qt,sub_self->Gj,sub_zero->Ws,zero_add->Ry,zero_le->Qn
namespace Go.Proofs.YtfkdpbklbegnlaaGreat
open Go Go.Sx
noncomputable abbrev ecC (h:Hal) (s:Stg) (b r v:Int) (p:Pth):List AV:=[.isl 1 (nl p.ss),I (delV p.sq v).1,I (delV p.sq v).2,I (enV h s p b r).1,I (enV h s p b r).2]
structure OutE (h:Hal) (s:Stg) (b r v:Int) (acc:List Pth) (m len:Nat) (els:List (List AV)):Prop where
 m:m=acc.length
 len:len=els.length
 els:els=acc.map (ecC h s b r v)
noncomputable abbrev rDe (v:Int):List AV->Option PRes:=famA (fun p:Pth=>pthE p=0) (fun p=>[p.av,I v]) (fun p=>⟨.tup [P2 (delV p.sq v).1 (delV p.sq v).2,I 0],[]⟩)
theorem Yh4 {v:Int} (hv:spE v=0) {pt:PC} (hp:PCOK Tryz.prog pt):PCOK Tryz.prog (ins 36 (rDe v) pt):=Zo (fun p hq=>by
 have:=d38 p v
 have e:deE p v=0:=by unfold deE; rw [hq,hv]; rfl
 rw [e] at this
 exact this) hp
theorem Yfn {p:Pth} {v:Int} (h:pthE p=0):rDe v [p.av,I v]=some ⟨.tup [P2 (delV p.sq v).1 (delV p.sq v).2,I 0],[]⟩ :=
 Zm (p:=fun p:Pth=>pthE p=0) (g:=fun p=>[p.av,I v]) (r:=fun p=>⟨.tup [P2 (delV p.sq v).1 (delV p.sq v).2,I 0],[]⟩) (k:=p) (fun j hj=>by
  simp only [Qs,and_true] at hj
  rw [Zkl hj]) h
noncomputable abbrev rCk:List AV->Option PRes:=famA (fun ns:List Int=>ns.length<100000) (fun ns=>[.isl 1 (nl ns)]) (fun ns=>⟨.isl 1 (nl ns),[]⟩)
theorem Yh6 {pt:PC} (hp:PCOK Tryz.prog pt):PCOK Tryz.prog (ins 37 rCk pt):=Zo (fun ns hl=>by
 by_cases h0:0<ns.length
 ·exact (d103 h0 hl).freeze ⟨rfl,rfl,rfl⟩
 ·rw [Rt.1 (show ns.length=0 by omega)]; exact Yjx) hp
theorem Yfp {ns:List Int} (h:ns.length<100000):rCk [.isl 1 (nl ns)]=some ⟨.isl 1 (nl ns),[]⟩ :=
 Zm (p:=fun ns:List Int=>ns.length<100000) (g:=fun ns=>[.isl 1 (nl ns)]) (r:=fun ns=>⟨.isl 1 (nl ns),[]⟩) (k:=ns) (fun j hj=>by
  rw [Zi3 (AV.isl.inj (List.cons.inj hj).1).2]) h
noncomputable abbrev rEn2 (h:Hal) (s:Stg) (b r v:Int):List AV->Option PRes:=famA (fun p:Pth=>pthE p=0/\suE h p.ss=0) (fun p=>[h.av,s.av,p.av,P3 b r v]) (fun p=>⟨P2 (enV h s p b r).1 (enV h s p b r).2,[]⟩)
theorem Ybx {h:Hal} {s:Stg} {b r v:Int} {p:Pth} (h1:pthE p=0) (h2:suE h p.ss=0):rEn2 h s b r v [h.av,s.av,p.av,P3 b r v]=some ⟨P2 (enV h s p b r).1 (enV h s p b r).2,[]⟩ :=
 Zm (p:=fun p:Pth=>pthE p=0/\suE h p.ss=0) (g:=fun p=>[h.av,s.av,p.av,P3 b r v]) (r:=fun p=>⟨P2 (enV h s p b r).1 (enV h s p b r).2,[]⟩) (k:=p) (fun j hj=>by
  simp only [Qs,and_true,true_and] at hj
  rw [Zkl hj]) ⟨h1,h2⟩
noncomputable abbrev rEn (h:Hal) (s:Stg) (b r v:Int):List AV->Option PRes:=famA (fun p:Pth=>pthE p=0/\suE h p.ss=0) (fun p=>[.agg (stgL h s),p.av,P3 b r v]) (fun p=>⟨P2 (enV h s p b r).1 (enV h s p b r).2,[]⟩)
theorem Yh3 {h:Hal} {s:Stg} {b r v:Int} (g:Sit h s) (z:serr h s=0) (hair:airE b r v=0) {pt:PC} (hp:PCOK Tryz.prog pt):PCOK Tryz.prog (ins 38 (rEn h s b r v) pt):=Zo (fun p hq=>d89 g z hq.1 hq.2 hair) hp
theorem Yfm {h:Hal} {s:Stg} {b r v:Int} {p:Pth} (h1:pthE p=0) (h2:suE h p.ss=0):rEn h s b r v [.agg (stgL h s),p.av,P3 b r v]=some ⟨P2 (enV h s p b r).1 (enV h s p b r).2,[]⟩ :=
 Zm (p:=fun p:Pth=>pthE p=0/\suE h p.ss=0) (g:=fun p=>[.agg (stgL h s),p.av,P3 b r v]) (r:=fun p=>⟨P2 (enV h s p b r).1 (enV h s p b r).2,[]⟩) (k:=p) (fun j hj=>by
  simp only [Qs,and_true,true_and] at hj
  rw [Zkl hj]) ⟨h1,h2⟩
theorem Yeh {L:List Pth} {k:Nat} (hk:k<L.length):(L.map gcP)[((k:Nat):Int).toNat]?=some (gcP L[k]):=by simp [hk]
theorem frE5 {bl:List (Nat × List (List AV))} {e:Int}:Frz bl (.tup [.nils,I e]) (.tup [.isl 5 [],I e]):=⟨rfl,⟨rfl,rfl⟩,trivial⟩
abbrev sxK:FuncId->Bool:=fun f=>Qp f 31||Qp f 32
theorem e8 {h:Hal} (hk:h.ok) {s:Stg} (hs:s.few) (a:Ask) (he:askE h s a=0) (hn:a.n<3) {b r v:Int} (hair:airE b r v=0) :
  PCall Tryz.prog 8 [h.av,s.av,a.av,P3 b r v] ⟨.tup [.isl 5 ((refL (Yt h s (qF a) (qT a)) (nsN h) a.n.toNat).map (ecC h s b r v)),I 0],[]⟩:=by
 have A:=Yj he
 have e0:=A.e0
 have g:=Zed hk hs e0
 have hN:=Zpl hk e0
 have c33:=d24 hk hs a
 rw [he] at c33
 have c34:=d88 b r v
 rw [hair] at c34
 have c35:=d55 hk hs Tryz.sorts114 a he hn (by omega)
 have hfa:=fun p hp=>Zgy hk hs he hn (p:=p) hp
 have hrl:=Znr (Yt h s (qF a) (qT a)) hN (show a.n.toNat<=2 by omega)
 have hv:spE v=0:=by
  have:=(Zlr hair).2.2
  unfold spE unl
  rw [within_iff.2 this]; rfl
 have hkA:=Zd c33 (Zd c34 (Zd c35 (Yh4 hv (Yh6 (Yh3 g e0 hair Zc)))))
 generalize refL (Yt h s (qF a) (qT a)) (nsN h) a.n.toNat=L at *
 have hfa2:∀ p∈L,p.ss.length<=2/\pthE p=0/\suE h p.ss=0:=fun p hp=>by
  obtain ⟨f1,f2,f3,f4,f5⟩:=hfa p hp
  refine ⟨f3,?_,f2⟩
  unfold cpE at f5
  split at f5
  ·assumption
  ·exact f5
 clear hfa c33 c34 c35 A
 obtain ⟨fx,fy,fz,tx,ty,tz,n⟩:=a
 refine Mt (res:=if L=[] then ⟨.tup [.nils,I 0],[]⟩ else ⟨.tup [.asl 0 0 L.length,I 0],[(5,L.map (ecC h s b r v))]⟩) ?_ ?_
 rotate_left
 ·split<;>rename_i hre
  ·rw [hre]; exact frE5
  ·exact ⟨⟨rfl,rfl,by simp⟩,⟨rfl,rfl⟩,trivial⟩
 refine bs.pv (sx:=sxK) hkA Tryz.func8 (by kernel_rfl) (by kernel_rfl) (by split<;>rfl) ?_
 repeat'(first|refine wk3 ?_|(refine wk2 ?_ ?_<;>intro _)|fail)
 refine bs.sv (sx:=sxK) hkA Tryz.func31 (by kernel_rfl) (by kernel_rfl) ?_
 repeat'(first|refine wk3 ?_|(refine wk2 ?_ ?_<;>intro _)|fail)
 refine Su 3 ?_
 refine Qx (bs.av (sx:=sxK) hkA ?_)
 repeat'(first|refine wk3 ?_|(refine wk2 ?_ ?_<;>intro _)|fail)
 refine bs.sv (sx:=sxK) hkA Tryz.func32 (by kernel_rfl) (by kernel_rfl) ?_
 repeat'(first|refine wk3 ?_|(refine wk2 ?_ ?_<;>intro _)|fail)
 refine Qx (bs.av (sx:=sxK) hkA ?_)
 repeat'(first|refine wk3 ?_|(refine wk2 ?_ ?_<;>intro _)|fail)
 refine Qx (bs.av (sx:=sxK) hkA ?_)
 repeat'(first|refine wk3 ?_|(refine wk2 ?_ ?_<;>intro _)|fail)
 ·exfalso
  rename_i q
  have:=of_decide_eq_true q
  rw [Ra] at this
  omega
 have hlm:(L.map gcP).length=L.length:=Ra _
 refine Zkz (S:=Nat × Int × Nat × Nat × List (List AV)) (fun t=>L.length-t.1)
  (fun t=>[(4,.ptr 0 0 0),(5,.ptr 1 0 0),(6,.ptr 2 0 0),(7,.ptr 3 0 0),(8,.nils),(9,I 0),(13,gv 20 t.2.2.1 t.2.2.2.1),(42,.isl 3 (L.map gcP)),(43,I (L.map gcP).length),(44,I t.2.1)])
  (fun t=>(3,.row 3 [[I b,I r,I v]] true false)::(2,.row 7 [[I fx,I fy,I fz,I tx,I ty,I tz,I n]] true false)::(1,.row 2 [s.cells] true false)::(0,.row 9 [h.cells] true false)::gz 20 5 t.2.2.1 t.2.2.2.2 []) 20 21
  (fun t=>t.2.1=t.1/\t.1<=L.length/\OutE h s b r v (L.take t.1) t.2.2.1 t.2.2.2.1 t.2.2.2.2)
  (0,0,0,0,[]) ⟨rfl,Qn _,⟨rfl,rfl,rfl⟩⟩ (Qm rfl) [] rfl (kps) (kps) ?_
 rintro ⟨i,ii,m,len,els⟩ ⟨hii,hin,hO⟩
 dsimp only at hii hin hO ⊢
 subst hii
 have hmb:els.length<=400:=by
  rw [hO.els,Ra,Pi]
  omega
 have hlen:=hO.len
 by_cases hlt:i<L.length
 rotate_left
 ·obtain rfl:i=L.length:=by omega
  rw [Pf] at hO
  obtain ⟨o1,o2,o3⟩:=hO
  cases m with
  | zero =>
   have hz:L=[]:=Rt.1 o1.symm;rw [if_pos hz];refine bs.av (sx:=nos) hkA ?_
   repeat'(first|refine wk3 ?_|(refine wk2 ?_ ?_<;>intro _)|fail)
   exact Ze rfl rfl
  | succ m0 =>
   rw [if_neg (by intro hz; rw [hz] at o1; cases o1)];rw [o3,Ra] at o2;subst o2 o3;refine bs.av (sx:=nos) hkA ?_
   repeat'(first|refine wk3 ?_|(refine wk2 ?_ ?_<;>intro _)|fail)
   exact Yg [20] rfl rfl rfl
 have hmem:=Qr hlt
 have e1:=Yeh hlt
 obtain ⟨u0,u1,u2⟩:=hfa2 _ hmem
 have hst:L.take (i+1)=L.take i++[L[i]]:=Qw hlt
 have c1:=Yfn (v:=v) u1
 have c2:=Yfp (ns:=L[i].ss) (by omega)
 have c3:=Yfm (s:=s) (b:=b) (r:=r) (v:=v) u1 u2
 have hO2:OutE h s b r v (L.take (i+1)) (m+1) (els.length+1) (els++[ecC h s b r v L[i]]):=by
  rw [hst]
  exact ⟨by rw [Rr,<-hO.m]; rfl,by simp,by rw [Wz,<-hO.els]; rfl⟩
 have hz0:m=0->els=[]:=fun hz=>by
  have:=hO.els
  rw [Rt.1 (hO.m.symm.trans hz)] at this
  exact this
 clear hO hst hfa2 hmem
 unfold ecC at hO2
 try dsimp only at hO2
 generalize enV h s L[i] b r=EN at *
 generalize delV L[i].sq v=DL at *
 generalize L[i]=p at *
 obtain ⟨ps,pp,pq⟩:=p
 obtain ⟨en1,en2⟩:=EN
 obtain ⟨dl1,dl2⟩:=DL
 dsimp only at *
 cases m with
 | zero =>
  obtain rfl:=hz0 rfl
  refine bs.av (sx:=nos) hkA ?_
  repeat'(first|refine wk3 ?_|(refine wk2 ?_ ?_<;>intro _)|fail)
  exact Ql ⟨(i+1,_,1,1,_),[(20,38)],rfl,kps,kps,⟨Zg (by omega),hlt,hO2⟩,by dsimp only; omega⟩
 | succ m0 =>
  refine bs.av (sx:=nos) hkA ?_
  repeat'(first|refine wk3 ?_|(refine wk2 ?_ ?_<;>intro _)|fail)
  refine Zlp (ys:=[[.isl 1 (nl ps),I dl1,I dl2,I en1,I en2]]) rfl rfl rfl rfl rfl rfl rfl rfl rfl rfl (by simp) hlen (by simp only [Ru,Wp]; omega) ?_
  repeat'(first|refine wk3 ?_|(refine wk2 ?_ ?_<;>intro _)|fail)
  exact Ql ⟨(i+1,_,m0+1+1,els.length+1,_),[(20,38)],rfl,kps,kps,⟨Zg (by omega),hlt,hO2⟩,by dsimp only; omega⟩
def rFq:List AV->Option PRes
 | [.int .i64 n,.int .i64 b]=>asr (decide (0<b /\ -9223372036854775807<=n/\n<=9223372036854775807)) ⟨I (n / b),[]⟩
 | _=>none
def rCq:List AV->Option PRes
 | [.int .i64 n,.int .i64 b]=>asr (decide (0<b /\ -9223372036854775807<=n/\n<=9223372036854775807)) ⟨I (-((-n) / b)),[]⟩
 | _=>none
theorem Zuo {n b:Int} (h:0<b /\ -9223372036854775807<=n/\n<=9223372036854775807):rFq [I n,I b]=some ⟨I (n / b),[]⟩:=Yn h
theorem Zu1 {n b:Int} (h:0<b /\ -9223372036854775807<=n/\n<=9223372036854775807):rCq [I n,I b]=some ⟨I (-((-n) / b)),[]⟩:=Yn h
theorem Yjk {pt:PC} (h:PCOK Tryz.prog pt):PCOK Tryz.prog (ins 89 rFq (ins 90 rCq pt)):=by
 refine Zh (fun a res h=>?_) (Zh (fun a res h=>?_) h)
 ·unfold rFq at h; split at h
  ·obtain ⟨h1,h2⟩:=Yx h; subst h2
   have:=of_decide_eq_true h1;exact c90 this.1 this.2.1 this.2.2
  ·cases h
 ·unfold rCq at h; split at h
  ·obtain ⟨h1,h2⟩:=Yx h; subst h2
   have:=of_decide_eq_true h1;exact c91 this.1 this.2.1 this.2.2
  ·cases h
theorem d98 {a b s p:Int} (h1:0<p /\ -9223372036854775807<=Qa Qb (a*s)/\Qa Qb (a*s)<=9223372036854775807) (h2:0<p /\ -9223372036854775807<=Qa Qb (b*s)/\Qa Qb (b*s)<=9223372036854775807):PCall Tryz.prog 92 [P2 a b,I s,I p] ⟨P2 (Qa Qb (a*s) / p) (-((-(Qa Qb (b*s))) / p)),[]⟩:=by
 have t1:=Zuo h1
 have t2:=Zu1 h2
 refine pn (Yjk Zc) Tryz.func92 ?_
 repeat'(first|refine wk3 ?_|(refine wk2 ?_ ?_<;>intro _)|fail)
 all_goals exact Ze rfl rfl
def r98:List AV->Option PRes
 | [.agg [.int .i64 a,.int .i64 b],.int .i64 s,.int .i64 p]=>asr (decide ((0<p /\ -9223372036854775807<=Qa Qb (a*s)/\Qa Qb (a*s)<=9223372036854775807)/\(0<p /\ -9223372036854775807<=Qa Qb (b*s)/\Qa Qb (b*s)<=9223372036854775807))) ⟨P2 (Qa Qb (a*s) / p) (-((-(Qa Qb (b*s))) / p)),[]⟩
 | _=>none
theorem Yjc {a b s p:Int} (h1:0<p /\ -9223372036854775807<=Qa Qb (a*s)/\Qa Qb (a*s)<=9223372036854775807) (h2:0<p /\ -9223372036854775807<=Qa Qb (b*s)/\Qa Qb (b*s)<=9223372036854775807):r98 [P2 a b,I s,I p]=some ⟨P2 (Qa Qb (a*s) / p) (-((-(Qa Qb (b*s))) / p)),[]⟩:=Yn ⟨h1,h2⟩
noncomputable abbrev cMat (h:Hal) (s:Stg):List AV->Option PRes:=famA (fun i:Int=>0<=i/\i<=nsur h-1) (fun i=>[h.av,s.av,I i]) (fun i=>⟨.agg (matS h s i).av,[]⟩)
theorem Yf6 {h:Hal} {s:Stg} {i:Int} (hi:0<=i/\i<=nsur h-1):cMat h s [h.av,s.av,I i]=some ⟨.agg (matS h s i).av,[]⟩ :=
 Zm (p:=fun i:Int=>0<=i/\i<=nsur h-1) (g:=fun i=>[h.av,s.av,I i]) (r:=fun i=>⟨.agg (matS h s i).av,[]⟩) (k:=i) (fun j hj=>by
  simp only [Qs,Sr,true_and,and_true] at hj
  rw [hj]) hi
noncomputable def kEr (h:Hal) (s:Stg) (p:Pth):PC:=ins 91 (cMat h s) (ins 92 r98 (ins 88 (one [I p.sq] ⟨P2 (lenV p.sq).1 (lenV p.sq).2,[]⟩) (ins 89 rFq (ins 90 rCq pt0))))
theorem Yi4 {h:Hal} {s:Stg} (g:Sit h s) {p:Pth} (s1:1<=p.sq) (s2:p.sq<=24300000000):PCOK Tryz.prog (kEr h s p):=by
 refine Zo (fun i hi=>c62 g (Zjd hi.1 (by omega))) (Zh (fun a res h=>?_) (Zd (d99 s1 s2) (Yjk Zc)))
 unfold r98 at h; split at h
 ·obtain ⟨h1,h2⟩:=Yx h; subst h2
  have:=of_decide_eq_true h1
  exact d98 this.1 this.2
 ·cases h
theorem Yga {h:Hal} {s:Stg} (g:Sit h s) {i b:Int} (hi:SK h i) {lo hi' : Int} (he:EB (lo,hi')) (c:Int) (hc:absB (matS h s i) b=c) :
  (Qa Qb (Qa Qb (lo*Qa Qb (1000-c)) / 1000*Qa Qb (1000-(matS h s i).sc)) / 1000,-((-(Qa Qb (-((-(Qa Qb (hi'*Qa Qb (1000-c)))) / 1000)*Qa Qb (1000-(matS h s i).sc)))) / 1000))=lft (matS h s i) b (lo,hi') /\
  r98 [P2 lo hi',I (Qa Qb (1000-c)),I 1000]=some ⟨P2 (Qa Qb (lo*Qa Qb (1000-c)) / 1000) (-((-(Qa Qb (hi'*Qa Qb (1000-c)))) / 1000)),[]⟩ /\
  r98 [P2 (Qa Qb (lo*Qa Qb (1000-c)) / 1000) (-((-(Qa Qb (hi'*Qa Qb (1000-c)))) / 1000)),I (Qa Qb (1000-(matS h s i).sc)),I 1000]=some ⟨P2 (Qa Qb (Qa Qb (lo*Qa Qb (1000-c)) / 1000*Qa Qb (1000-(matS h s i).sc)) / 1000) (-((-(Qa Qb (-((-(Qa Qb (hi'*Qa Qb (1000-c)))) / 1000)*Qa Qb (1000-(matS h s i).sc)))) / 1000)),[]⟩:=by
 have h1:=(Zok g (b:=b) hi).1
 have h2:=Zt4 g.fine (Zg4 g hi)
 rw [hc] at h1
 obtain ⟨k1,_,⟨k2,k3⟩,k4,k5⟩:=Ziu (s:=1000-c) (p:=1000) ⟨by omega,by omega⟩ ⟨by omega,by omega⟩ he
 obtain ⟨j1,_,⟨j2,j3⟩,j4,j5⟩:=Ziu (s:=1000-(matS h s i).sc) (p:=1000) ⟨by omega,by omega⟩ ⟨by omega,by omega⟩ k1
 have w1:Qa Qb (1000-c)=1000-c:=W_eq (by omega) (by omega)
 have w2:Qa Qb (1000-(matS h s i).sc)=1000-(matS h s i).sc:=W_eq (by omega) (by omega)
 dsimp only at k2 k3 k4 k5
 refine ⟨?_,?_,?_⟩
 ·unfold lft
  rw [hc,w1,w2,k2,k3,j2,j3]
 ·rw [w1]; exact Yjc ⟨by omega,by omega,by omega⟩ ⟨by omega,by omega,by omega⟩
 ·rw [w1,w2,k2,k3]; exact Yjc ⟨by omega,by omega,by omega⟩ ⟨by omega,by omega,by omega⟩
theorem shrB {a lo hi:Int} (ha:0<=a/\a<=100000) (he:EB (lo,hi)) :
  (Qa Qb (lo*Qa Qb (1000000-a)) / 1000000=lo*(1000000-a) / 1000000 /\ -((-(Qa Qb (hi*Qa Qb (1000000-a)))) / 1000000)=(hi*(1000000-a)+1000000-1) / 1000000)/\EB (lo*(1000000-a) / 1000000,(hi*(1000000-a)+1000000-1) / 1000000) /\
  rFq [I (Qa Qb (lo*Qa Qb (1000000-a))),I 1000000]=some ⟨I (Qa Qb (lo*Qa Qb (1000000-a)) / 1000000),[]⟩/\rCq [I (Qa Qb (hi*Qa Qb (1000000-a))),I 1000000]=some ⟨I (-((-(Qa Qb (hi*Qa Qb (1000000-a)))) / 1000000)),[]⟩:=by
 obtain ⟨k1,_,⟨k2,k3⟩,k4,k5⟩:=Ziu (s:=1000000-a) (p:=1000000) ⟨by omega,by omega⟩ ⟨by omega,by omega⟩ he
 rw [W_eq (n:=1000000-a) (by omega) (by omega)]
 dsimp only at k2 k3 k4 k5
 exact ⟨⟨k2,k3⟩,k1,Zuo ⟨by omega,by omega,by omega⟩,Zu1 ⟨by omega,by omega,by omega⟩⟩
theorem Yg1 {sq:Int} (h0:1<=sq) (h1:sq<=24300000000) :
  (rCq [I (lenV sq).2,I 1000000]=some ⟨I ((farN sq:Nat):Int),[]⟩/\rFq [I (lenV sq).1,I 1000000]=some ⟨I ((Zny sq:Nat):Int),[]⟩) /\
  (rFq [I 1000000000000,I sq]=some ⟨I (enA sq).1,[]⟩/\rCq [I 1000000000000,I sq]=some ⟨I (enA sq).2,[]⟩):=by
 have b:=Zk2 h0 h1
 have c1:=Zu1 (n:=(lenV sq).2) (b:=1000000) ⟨by omega,by omega,by omega⟩
 have c2:=Zuo (n:=(lenV sq).1) (b:=1000000) ⟨by omega,by omega,by omega⟩
 have c3:=Zuo (n:=1000000000000) (b:=sq) ⟨by omega,by omega,by omega⟩
 have c4:=Zu1 (n:=1000000000000) (b:=sq) ⟨by omega,by omega,by omega⟩
 have e1 : -((-(lenV sq).2) / 1000000)=((farN sq:Nat):Int):=by
  rw [Zs7 (by omega) (by omega)]; unfold farN; omega
 have e2:(lenV sq).1 / 1000000=((Zny sq:Nat):Int):=by unfold Zny; omega
 have e4 : -((-(1000000000000:Int)) / sq)=(enA sq).2:=by rw [Zs7 (by omega) (by omega)]; rfl
 rw [e1] at c1
 rw [e2] at c2
 rw [e4] at c4
 exact ⟨⟨c1,c2⟩,c3,c4⟩
theorem d25 {h:Hal} {s:Stg} {p:Pth} {b a v:Int} (g:Sit h s) (z:serr h s=0) (hp:pthE p=0) (hw:suE h p.ss=0) (hair:airE b a v=0):PCall Tryz.prog 47 [h.av,s.av,p.av,P3 b a v] ⟨P2 (enV h s p b a).1 (enV h s p b a).2,[]⟩:=by
 obtain ⟨⟨l4,_⟩,s1,s2⟩:=Ul hp
 have hk:=Yi4 g s1 s2
 obtain ⟨hb,⟨a1,a2⟩,_⟩:=Zlr hair
 have hb4:b=0\/b=1\/b=2\/b=3:=by have:=within_iff.1 hb; omega
 have l2:=Zk p.ss
 have hw:wkG (nsur h-1) none p.ss=0:=by unfold suE at hw; rwa [if_neg (by omega)] at hw
 have hin:=Ztf hw
 obtain ⟨⟨c1,c2⟩,c3,c4⟩:=Yg1 s1 s2
 have f3:=(Zzd s1 s2).2.2
 have hA:=Zuw s1 s2
 unfold kEr at hk
 unfold enV enZ
 generalize farN p.sq=FN at *
 generalize Zny p.sq=NN at *
 generalize lenV p.sq=L at *
 generalize enA p.sq=A at *
 obtain ⟨A1,A2⟩:=A
 dsimp only at c3 c4
 refine pn hk Tryz.func47 ?_
 repeat'(first|refine wk3 ?_|(refine wk2 ?_ ?_<;>intro _)|fail)
 refine Zr (S:=Nat × Int × Int × Int) (fun t=>p.ss.length-t.1) (fun t=>[(4,.ptr 0 0 0),(5,.ptr 1 0 0),(6,.ptr 2 0 0),(7,.ptr 3 0 0),(8,.ptr 4 0 0),(9,.ptr 12 0 0),(10,I t.2.1)])
  (fun t=>[(12,.row 2 [[I t.2.2.1,I t.2.2.2]] true false),(4,.row 2 [[I 0,I 0]] true false),(3,.row 3 [[I b,I a,I v]] true false),(2,.row 3 [[.isl 1 (nl p.ss),.isl 4 (p.ps.map hp4),I p.sq]] true false),(1,.row 2 [[.isl 1 (nl s.hs),.isl 1 (nl s.dr)]] true false),(0,.row 9 [h.cells] true false)]) 14 14
  (fun t=>t.2.1=t.1/\t.1<=p.ss.length/\EB t.2.2/\enL h s b (p.ss.drop t.1) t.2.2=enL h s b p.ss (A1,A2)) (0,0,A1,A2) ⟨rfl,Qn _,hA,rfl⟩ (Qd _) [] rfl (kps) (kps) ?_
 rintro ⟨k,i,lo,hi⟩ ⟨hi1,hk1,he,hS⟩
 dsimp only at hi1 hk1 he hS ⊢
 subst hi1
 clear hA c3 c4
 generalize enL h s b p.ss (A1,A2)=R at *
 by_cases hlt:k<p.ss.length
 ·have e1:=Xx hlt
  have hx:=hin _ (Qr hlt)
  rw [Qi hlt,enL] at hS
  generalize p.ss[k]=x at *
  have hsk:SK h x:=Zjd hx.1 (by omega)
  have g1:=Yf6 (s:=s) hx
  have hf:=Yga g (b:=b) hsk he
  have hE:=Zyd g (b:=b) hsk he
  generalize matS h s x=m at *
  rcases hb4 with rfl|rfl|rfl|rfl
  ·obtain ⟨q0,u1,u2⟩:=hf m.a rfl
   have q1:EB (Qa Qb (Qa Qb (lo*Qa Qb (1000-m.a)) / 1000*Qa Qb (1000-m.sc)) / 1000,-((-(Qa Qb (-((-(Qa Qb (hi*Qa Qb (1000-m.a)))) / 1000)*Qa Qb (1000-m.sc)))) / 1000)):=by rw [q0]; exact hE
   have q2:enL h s 0 (p.ss.drop (k+1)) (Qa Qb (Qa Qb (lo*Qa Qb (1000-m.a)) / 1000*Qa Qb (1000-m.sc)) / 1000,-((-(Qa Qb (-((-(Qa Qb (hi*Qa Qb (1000-m.a)))) / 1000)*Qa Qb (1000-m.sc)))) / 1000))=R:=by rw [q0]; exact hS
   clear q0 hE hS hf he hsk hin;refine bs.av (sx:=nos) hk ?_
   repeat'(first|refine wk3 ?_|(refine wk2 ?_ ?_<;>intro _)|fail)
   exact Ql ⟨(k+1,_,_,_),[],rfl,kps,kps,⟨Zg (by omega),hlt,q1,q2⟩,by dsimp only; omega⟩
  ·obtain ⟨q0,u1,u2⟩:=hf m.b rfl
   have q1:EB (Qa Qb (Qa Qb (lo*Qa Qb (1000-m.b)) / 1000*Qa Qb (1000-m.sc)) / 1000,-((-(Qa Qb (-((-(Qa Qb (hi*Qa Qb (1000-m.b)))) / 1000)*Qa Qb (1000-m.sc)))) / 1000)):=by rw [q0]; exact hE
   have q2:enL h s 1 (p.ss.drop (k+1)) (Qa Qb (Qa Qb (lo*Qa Qb (1000-m.b)) / 1000*Qa Qb (1000-m.sc)) / 1000,-((-(Qa Qb (-((-(Qa Qb (hi*Qa Qb (1000-m.b)))) / 1000)*Qa Qb (1000-m.sc)))) / 1000))=R:=by rw [q0]; exact hS
   clear q0 hE hS hf he hsk hin;refine bs.av (sx:=nos) hk ?_
   repeat'(first|refine wk3 ?_|(refine wk2 ?_ ?_<;>intro _)|fail)
   exact Ql ⟨(k+1,_,_,_),[],rfl,kps,kps,⟨Zg (by omega),hlt,q1,q2⟩,by dsimp only; omega⟩
  ·obtain ⟨q0,u1,u2⟩:=hf m.c rfl
   have q1:EB (Qa Qb (Qa Qb (lo*Qa Qb (1000-m.c)) / 1000*Qa Qb (1000-m.sc)) / 1000,-((-(Qa Qb (-((-(Qa Qb (hi*Qa Qb (1000-m.c)))) / 1000)*Qa Qb (1000-m.sc)))) / 1000)):=by rw [q0]; exact hE
   have q2:enL h s 2 (p.ss.drop (k+1)) (Qa Qb (Qa Qb (lo*Qa Qb (1000-m.c)) / 1000*Qa Qb (1000-m.sc)) / 1000,-((-(Qa Qb (-((-(Qa Qb (hi*Qa Qb (1000-m.c)))) / 1000)*Qa Qb (1000-m.sc)))) / 1000))=R:=by rw [q0]; exact hS
   clear q0 hE hS hf he hsk hin;refine bs.av (sx:=nos) hk ?_
   repeat'(first|refine wk3 ?_|(refine wk2 ?_ ?_<;>intro _)|fail)
   exact Ql ⟨(k+1,_,_,_),[],rfl,kps,kps,⟨Zg (by omega),hlt,q1,q2⟩,by dsimp only; omega⟩
  ·obtain ⟨q0,u1,u2⟩:=hf m.d rfl
   have q1:EB (Qa Qb (Qa Qb (lo*Qa Qb (1000-m.d)) / 1000*Qa Qb (1000-m.sc)) / 1000,-((-(Qa Qb (-((-(Qa Qb (hi*Qa Qb (1000-m.d)))) / 1000)*Qa Qb (1000-m.sc)))) / 1000)):=by rw [q0]; exact hE
   have q2:enL h s 3 (p.ss.drop (k+1)) (Qa Qb (Qa Qb (lo*Qa Qb (1000-m.d)) / 1000*Qa Qb (1000-m.sc)) / 1000,-((-(Qa Qb (-((-(Qa Qb (hi*Qa Qb (1000-m.d)))) / 1000)*Qa Qb (1000-m.sc)))) / 1000))=R:=by rw [q0]; exact hS
   clear q0 hE hS hf he hsk hin;refine bs.av (sx:=nos) hk ?_
   repeat'(first|refine wk3 ?_|(refine wk2 ?_ ?_<;>intro _)|fail)
   exact Ql ⟨(k+1,_,_,_),[],rfl,kps,kps,⟨Zg (by omega),hlt,q1,q2⟩,by dsimp only; omega⟩
 rw [Qk (by omega),enL] at hS
 subst hS
 refine bs.av (sx:=nos) hk ?_
 repeat'(first|refine wk3 ?_|(refine wk2 ?_ ?_<;>intro _)|fail)
 clear hk1 hlt
 refine Zr (S:=Nat × Int × Int) (fun t=>FN-t.1) (fun t=>[(7,.ptr 3 0 0),(8,.ptr 4 0 0),(9,.ptr 12 0 0),(12,.ptr 14 0 0),(13,I t.2.1)])
  (fun t=>[(14,.row 2 [[I L.1,I L.2]] true false),(12,.row 2 [[I t.2.2,I hi]] true false),(4,.row 2 [[I 0,I 0]] true false),(3,.row 3 [[I b,I a,I v]] true false)]) 15 15
  (fun t=>t.2.1=t.1/\t.1<=FN/\EB (t.2.2,hi)/\itN (fun x=>x*(1000000-a) / 1000000) (FN-t.1) t.2.2=itN (fun x=>x*(1000000-a) / 1000000) FN lo) (0,0,lo) ⟨rfl,Qn _,he,rfl⟩ (Qd _) [] rfl (kps) (kps) ?_
 clear he
 rintro ⟨k,i,lo2⟩ ⟨hi1,hk1,he,hA⟩
 dsimp only at hi1 hk1 he hA ⊢
 subst hi1
 generalize itN (fun x=>x*(1000000-a) / 1000000) FN lo=R1 at *
 by_cases hlt:k<FN
 ·obtain ⟨⟨q1,q2⟩,q3,u1,u2⟩:=shrB ⟨a1,a2⟩ he
  rw [show FN-k=(FN-(k+1))+1 by omega,itN,<-q1] at hA
  have e2:EB (Qa Qb (lo2*Qa Qb (1000000-a)) / 1000000,hi):=⟨by rw [q1]; exact q3.a,he.b⟩
  clear q1 q2 q3 he
  refine bs.av (sx:=nos) hk ?_
  repeat'(first|refine wk3 ?_|(refine wk2 ?_ ?_<;>intro _)|fail)
  exact Ql ⟨(k+1,_,_),[],rfl,kps,kps,⟨Zg (by omega),hlt,e2,hA⟩,by dsimp only; omega⟩
 rw [show FN-k=0 by omega,itN] at hA
 subst hA
 refine bs.av (sx:=nos) hk ?_
 repeat'(first|refine wk3 ?_|(refine wk2 ?_ ?_<;>intro _)|fail)
 clear hk1 hlt
 refine Zr (S:=Nat × Int × Int) (fun t=>NN-t.1) (fun t=>[(7,.ptr 3 0 0),(8,.ptr 4 0 0),(9,.ptr 12 0 0),(12,.ptr 14 0 0),(14,I t.2.1)])
  (fun t=>[(14,.row 2 [[I L.1,I L.2]] true false),(12,.row 2 [[I lo2,I t.2.2]] true false),(4,.row 2 [[I 0,I 0]] true false),(3,.row 3 [[I b,I a,I v]] true false)]) 15 15
  (fun t=>t.2.1=t.1/\t.1<=NN/\EB (lo2,t.2.2)/\itN (fun x=>(x*(1000000-a)+1000000-1) / 1000000) (NN-t.1) t.2.2=itN (fun x=>(x*(1000000-a)+1000000-1) / 1000000) NN hi) (0,0,hi) ⟨rfl,Qn _,he,rfl⟩ (Qd _) [] rfl (kps) (kps) ?_
 clear he
 rintro ⟨k,i,hi2⟩ ⟨hi1,hk1,he,hB⟩
 dsimp only at hi1 hk1 he hB ⊢
 subst hi1
 generalize itN (fun x=>(x*(1000000-a)+1000000-1) / 1000000) NN hi=R2 at *
 by_cases hlt:k<NN
 ·obtain ⟨⟨q1,q2⟩,q3,u1,u2⟩:=shrB ⟨a1,a2⟩ he
  rw [show NN-k=(NN-(k+1))+1 by omega,itN,<-q2] at hB
  have e2:EB (lo2,-((-(Qa Qb (hi2*Qa Qb (1000000-a)))) / 1000000)):=⟨he.a,by rw [q2]; exact q3.b⟩
  clear q1 q2 q3 he
  refine bs.av (sx:=nos) hk ?_
  repeat'(first|refine wk3 ?_|(refine wk2 ?_ ?_<;>intro _)|fail)
  exact Ql ⟨(k+1,_,_),[],rfl,kps,kps,⟨Zg (by omega),hlt,e2,hB⟩,by dsimp only; omega⟩
 rw [show NN-k=0 by omega,itN] at hB
 subst hB
 refine bs.av (sx:=nos) hk ?_
 repeat'(first|refine wk3 ?_|(refine wk2 ?_ ?_<;>intro _)|fail)
 exact Ze rfl rfl
end Go.Proofs.YtfkdpbklbegnlaaGreat
namespace Go.En
section
variable {n:Nat}
variable {rows:List (List Int)} {ls e:List Int}
end
end Go.En
namespace Go.En
structure Ech where
 su:List Int
 dl:Int
 dh:Int
 el:Int
 eh:Int
end Go.En
namespace Go.En
def rgEc (lo hi most:Int):Int:=if (0<=lo/\lo<=most)/\(0<=hi/\hi<=most) then (if hi<lo then 9 else 0) else 2
def ecE (p:Option Int) (x:Ech):Int :=
 if rgEc x.dl x.dh 10000000=0 then (if rgEc x.el x.eh 1000000000000=0 then (match p with
  | some q=>if x.dl<q then 9 else 0
  | none=>0) else rgEc x.el x.eh 1000000000000) else rgEc x.dl x.dh 10000000
def ecGo:Nat->Option Int->List Ech->Int × Int
 | _,_,[]=>(0,0)
 | i,p,x::l=>if ecE p x=0 then ecGo (i+1) (some x.dl) l else (i,ecE p x)
def ecV (l:List Ech):Int × Int:=if 500<l.length then (0,8) else ecGo 0 none l
end Go.En
namespace Go.Proofs.YtfkdpbklbegnlaaGreat
open Go Go.Sx Go.En
theorem d101 (n lo hi:Int):PCall Tryz.prog 68 [I n,I lo,I hi] ⟨Bo (within n lo hi),[]⟩:=by
 refine pn Zc Tryz.func68 ?_
 repeat'(first|refine wk0 ?_|(refine wk2 ?_ ?_<;>intro _)|fail)
 all_goals exact Zb (by simp_all [within]<;>omega)
theorem Ykx (b:Bool) (e:Int):PCall Tryz.prog 52 [Bo b,I e] ⟨I (unl b e),[]⟩:=by
 refine pn Zc Tryz.func52 ?_
 repeat'(first|refine wk0 ?_|(refine wk2 ?_ ?_<;>intro _)|fail)
 all_goals exact Za (by simp_all [unl])
def rW:List AV->Option PRes
 | [.int .i64 n,.int .i64 lo,.int .i64 hi]=>some ⟨Bo (within n lo hi),[]⟩
 | _=>none
def rU:List AV->Option PRes
 | [.bool b,.int .i64 e]=>some ⟨I (unl b e),[]⟩
 | _=>none
def kY1:PC:=ins 16 rW (ins 68 rW (ins 52 rU pt0))
theorem Yd5:PCOK Tryz.prog kY1:=by
 refine Zh (fun a res h=>?_) (Zh (fun a res h=>?_) (Zh (fun a res h=>?_) Zc))
 ·unfold rW at h; split at h<;>cases h; exact c30 _ _ _
 ·unfold rW at h; split at h<;>cases h; exact d101 _ _ _
 ·unfold rU at h; split at h<;>cases h; exact Ykx _ _
theorem Yhy (lo hi most:Int):rgEc lo hi most=if within lo 0 most&&within hi 0 most then (if hi<lo then 9 else 0) else 2:=by
 unfold rgEc
 by_cases h:(within lo 0 most&&within hi 0 most)=true
 ·rw [if_pos h]
  simp only [Qc,within_iff] at h
  rw [if_pos h]
 ·rw [if_neg h]
  simp only [Qc,within_iff] at h
  rw [if_neg h]
theorem Ykt (lo hi most:Int):PCall Tryz.prog 49 [P2 lo hi,I most] ⟨I (rgEc lo hi most),[]⟩:=by
 rw [Yhy]
 refine pn Yd5 Tryz.func49 ?_
 repeat'(first|refine wk0 ?_|(refine wk2 ?_ ?_<;>intro _)|fail)
 all_goals exact Za (by simp_all<;>omega)
def rG:List AV->Option PRes
 | [.agg [.int .i64 lo,.int .i64 hi],.int .i64 m]=>some ⟨I (rgEc lo hi m),[]⟩
 | _=>none
def kY2:PC:=ins 49 rG kY1
theorem Zw:PCOK Tryz.prog kY2:=by
 refine Zh (fun a res h=>?_) Yd5
 unfold rG at h; split at h<;>cases h; exact Ykt _ _ _
abbrev ev (x:Ech):List AV:=[.isl 1 (nl x.su),I x.dl,I x.dh,I x.el,I x.eh]
theorem Zqu (l:List Ech):(l.map ev).length=l.length:=by simp
theorem Zzl {l:List Ech} {k:Nat} (h:k<l.length):(l.map ev)[((k:Nat):Int).toNat]?=some (ev l[k]):=by simp [h]
def Yb4 (l:List Ech):Nat->Option Int
 | 0=>none
 | k+1=>(l[k]?).map (·.dl)
abbrev sxE:FuncId->Bool:=fun f=>Qp f 31||(Qp f 48||(Qp f 50||Qp f 51))
theorem d51 {l:List Ech} (hl:l.length<100000):PCall Tryz.prog 15 [.isl 5 (l.map ev)] ⟨.tup [I (ecV l).1,I (ecV l).2],[]⟩:=by
 have l1:=Zqu l
 unfold ecV
 by_cases hbig:500<l.length
 ·rw [if_pos hbig]
  refine pn Zw Tryz.func15 ?_
  repeat'(first|refine wk3 ?_|(refine wk2 ?_ ?_<;>intro _)|fail)
  exact Ze rfl rfl
 ·rw [if_neg hbig]
  refine bs.pv (sx:=sxE) Zw Tryz.func15 (by kernel_rfl) (by kernel_rfl) rfl ?_
  repeat'(first|refine wk3 ?_|(refine wk2 ?_ ?_<;>intro _)|fail)
  refine Zr (S:=Nat × Int) (fun t=>l.length-t.1) (fun t=>[(1,.ptr 0 0 0),(10,.isl 5 (l.map ev)),(11,I (l.map ev).length),(12,I t.2)]) (fun _=>[(0,.row 1 [[.isl 5 (l.map ev)]] true false)]) 1 1 (fun t=>t.2=t.1/\t.1<=l.length/\ecGo t.1 (Yb4 l t.1) (l.drop t.1)=ecGo 0 none l) (0,0) ⟨rfl,Qn _,rfl⟩ (Qd _) [] rfl (kps) (kps) ?_
  rintro ⟨k,i⟩ ⟨hi,hk,hh⟩
  dsimp only at hi hk hh ⊢
  subst hi
  generalize ecGo 0 none l=R at *
  refine bs.av (sx:=sxE) Zw ?_
  by_cases hlt:k<l.length
  ·have e1:=Zzl hlt
   have hp:Yb4 l (k+1)=some l[k].dl:=by show (l[k]?).map (·.dl)=_; rw [Qe hlt]; rfl
   rw [Qi hlt,ecGo,<-hp] at hh;clear hp;generalize hx:l[k]=x at *;unfold ecE at hh
   cases k with
   | zero =>
    rw [show Yb4 l 0=none from rfl] at hh
    by_cases z1:rgEc x.dl x.dh 10000000=0
    ·by_cases z2:rgEc x.el x.eh 1000000000000=0
     ·rw [if_pos z1,if_pos z2] at hh
      repeat'(first|refine wk3 ?_|(refine wk2 ?_ ?_<;>intro _)|fail)
      refine bs.sv (sx:=sxE) Zw Tryz.func31 (by kernel_rfl) (by kernel_rfl) ?_
      repeat'(first|refine wk3 ?_|(refine wk2 ?_ ?_<;>intro _)|fail)
      refine Su 4 ?_;refine Qx (bs.av (sx:=sxE) Zw ?_)
      repeat'(first|refine wk3 ?_|(refine wk2 ?_ ?_<;>intro _)|fail)
      refine bs.sv (sx:=sxE) Zw Tryz.func48 (by kernel_rfl) (by kernel_rfl) ?_
      repeat'(first|refine wk3 ?_|(refine wk2 ?_ ?_<;>intro _)|fail)
      refine Qx (bs.av (sx:=sxE) Zw ?_)
      repeat'(first|refine wk3 ?_|(refine wk2 ?_ ?_<;>intro _)|fail)
      refine bs.sv (sx:=sxE) Zw Tryz.func50 (by kernel_rfl) (by kernel_rfl) ?_
      repeat'(first|refine wk3 ?_|(refine wk2 ?_ ?_<;>intro _)|fail)
      refine Qx (bs.av (sx:=sxE) Zw ?_)
      repeat'(first|refine wk3 ?_|(refine wk2 ?_ ?_<;>intro _)|fail)
      refine bs.sv (sx:=sxE) Zw Tryz.func51 (by kernel_rfl) (by kernel_rfl) ?_
      repeat'(first|refine wk3 ?_|(refine wk2 ?_ ?_<;>intro _)|fail)
      all_goals try (refine Qx (bs.av (sx:=sxE) Zw ?_))
      repeat'(first|refine wk3 ?_|(refine wk2 ?_ ?_<;>intro _)|fail)
      clear e1
      all_goals first
       | (exfalso; clear hh; simp_all [unl]; done)
       | (exfalso; clear hh; simp_all [unl]; omega)
       | (refine Ze ?_ rfl; rw [<-hh]; clear hh; simp_all [unl]; done)
       | exact Ql ⟨(0+1,_),[],rfl,kps,kps,⟨Zg (k:=0) (by omega),hlt,by rw [<-hh]; clear hh; simp_all [unl]⟩,by dsimp only; omega⟩
     ·rw [if_pos z1,if_neg z2] at hh
      repeat'(first|refine wk3 ?_|(refine wk2 ?_ ?_<;>intro _)|fail)
      refine bs.sv (sx:=sxE) Zw Tryz.func31 (by kernel_rfl) (by kernel_rfl) ?_
      repeat'(first|refine wk3 ?_|(refine wk2 ?_ ?_<;>intro _)|fail)
      refine Su 4 ?_;refine Qx (bs.av (sx:=sxE) Zw ?_)
      repeat'(first|refine wk3 ?_|(refine wk2 ?_ ?_<;>intro _)|fail)
      refine bs.sv (sx:=sxE) Zw Tryz.func48 (by kernel_rfl) (by kernel_rfl) ?_
      repeat'(first|refine wk3 ?_|(refine wk2 ?_ ?_<;>intro _)|fail)
      refine Qx (bs.av (sx:=sxE) Zw ?_)
      repeat'(first|refine wk3 ?_|(refine wk2 ?_ ?_<;>intro _)|fail)
      refine bs.sv (sx:=sxE) Zw Tryz.func50 (by kernel_rfl) (by kernel_rfl) ?_
      repeat'(first|refine wk3 ?_|(refine wk2 ?_ ?_<;>intro _)|fail)
      clear e1
      all_goals first
       | (exfalso; clear hh; simp_all [unl]; done)
       | (exfalso; clear hh; simp_all [unl]; omega)
       | (refine Ze ?_ rfl; rw [<-hh]; clear hh; simp_all [unl]; done)
       | exact Ql ⟨(0+1,_),[],rfl,kps,kps,⟨Zg (k:=0) (by omega),hlt,by rw [<-hh]; clear hh; simp_all [unl]⟩,by dsimp only; omega⟩
    ·rw [if_neg z1] at hh
     repeat'(first|refine wk3 ?_|(refine wk2 ?_ ?_<;>intro _)|fail)
     refine bs.sv (sx:=sxE) Zw Tryz.func31 (by kernel_rfl) (by kernel_rfl) ?_
     repeat'(first|refine wk3 ?_|(refine wk2 ?_ ?_<;>intro _)|fail)
     refine Su 4 ?_;refine Qx (bs.av (sx:=sxE) Zw ?_)
     repeat'(first|refine wk3 ?_|(refine wk2 ?_ ?_<;>intro _)|fail)
     refine bs.sv (sx:=sxE) Zw Tryz.func48 (by kernel_rfl) (by kernel_rfl) ?_
     repeat'(first|refine wk3 ?_|(refine wk2 ?_ ?_<;>intro _)|fail)
     clear e1
     all_goals first
      | (exfalso; clear hh; simp_all [unl]; done)
      | (exfalso; clear hh; simp_all [unl]; omega)
      | (refine Ze ?_ rfl; rw [<-hh]; clear hh; simp_all [unl]; done)
      | exact Ql ⟨(0+1,_),[],rfl,kps,kps,⟨Zg (k:=0) (by omega),hlt,by rw [<-hh]; clear hh; simp_all [unl]⟩,by dsimp only; omega⟩
   | succ k =>
    have hk2:k<l.length:=by omega
    have e6:Qa Qb (((k+1:Nat):Int)-1)=(k:Int):=by rw [W_eq (by omega) (by omega)]; omega
    have e7:(l.map ev)[(Qa Qb (((k+1:Nat):Int)-1)).toNat]?=some (ev l[k]):=by rw [e6]; exact Zzl hk2
    have e8:Yb4 l (k+1)=some l[k].dl:=by show (l[k]?).map (·.dl)=_; rw [Qe hk2]; rfl
    rw [e8] at hh;clear e8;generalize l[k]=y at *
    by_cases z1:rgEc x.dl x.dh 10000000=0
    ·by_cases z2:rgEc x.el x.eh 1000000000000=0
     ·rw [if_pos z1,if_pos z2] at hh
      by_cases z3:x.dl<y.dl
      ·have z4:decide (y.dl<=x.dl)=false:=by simp; omega
       simp only [if_pos z3] at hh
       repeat'(first|refine wk3 ?_|(refine wk2 ?_ ?_<;>intro _)|fail)
       refine bs.sv (sx:=sxE) Zw Tryz.func31 (by kernel_rfl) (by kernel_rfl) ?_
       repeat'(first|refine wk3 ?_|(refine wk2 ?_ ?_<;>intro _)|fail)
       refine Su 4 ?_;refine Qx (bs.av (sx:=sxE) Zw ?_)
       repeat'(first|refine wk3 ?_|(refine wk2 ?_ ?_<;>intro _)|fail)
       refine bs.sv (sx:=sxE) Zw Tryz.func48 (by kernel_rfl) (by kernel_rfl) ?_
       repeat'(first|refine wk3 ?_|(refine wk2 ?_ ?_<;>intro _)|fail)
       refine Qx (bs.av (sx:=sxE) Zw ?_)
       repeat'(first|refine wk3 ?_|(refine wk2 ?_ ?_<;>intro _)|fail)
       refine bs.sv (sx:=sxE) Zw Tryz.func50 (by kernel_rfl) (by kernel_rfl) ?_
       repeat'(first|refine wk3 ?_|(refine wk2 ?_ ?_<;>intro _)|fail)
       refine Qx (bs.av (sx:=sxE) Zw ?_)
       repeat'(first|refine wk3 ?_|(refine wk2 ?_ ?_<;>intro _)|fail)
       refine bs.sv (sx:=sxE) Zw Tryz.func51 (by kernel_rfl) (by kernel_rfl) ?_
       repeat'(first|refine wk3 ?_|(refine wk2 ?_ ?_<;>intro _)|fail)
       all_goals try (refine Qx (bs.av (sx:=sxE) Zw ?_))
       repeat'(first|refine wk3 ?_|(refine wk2 ?_ ?_<;>intro _)|fail)
       clear e1 e6 e7
       all_goals first
        | (exfalso; rename_i q; simp [unl,z4] at q; done)
        | (exfalso; rename_i q1 q2; simp [unl,z4] at q1; done)
        | (refine Ze ?_ rfl; rw [<-hh]; clear hh; simp [unl,z4]; done)
        | (exfalso; clear hh; simp_all [unl]; done)
        | (exfalso; clear hh; simp_all [unl]; omega)
        | (refine Ze ?_ rfl; rw [<-hh]; clear hh; simp_all [unl]; done)
        | exact Ql ⟨((k+1)+1,_),[],rfl,kps,kps,⟨Zg (k:=(k+1)) (by omega),hlt,by rw [<-hh]; clear hh; simp_all [unl]⟩,by dsimp only; omega⟩
      ·have z4:decide (y.dl<=x.dl)=true:=by simp; omega
       simp only [if_neg z3] at hh
       repeat'(first|refine wk3 ?_|(refine wk2 ?_ ?_<;>intro _)|fail)
       refine bs.sv (sx:=sxE) Zw Tryz.func31 (by kernel_rfl) (by kernel_rfl) ?_
       repeat'(first|refine wk3 ?_|(refine wk2 ?_ ?_<;>intro _)|fail)
       refine Su 4 ?_;refine Qx (bs.av (sx:=sxE) Zw ?_)
       repeat'(first|refine wk3 ?_|(refine wk2 ?_ ?_<;>intro _)|fail)
       refine bs.sv (sx:=sxE) Zw Tryz.func48 (by kernel_rfl) (by kernel_rfl) ?_
       repeat'(first|refine wk3 ?_|(refine wk2 ?_ ?_<;>intro _)|fail)
       refine Qx (bs.av (sx:=sxE) Zw ?_)
       repeat'(first|refine wk3 ?_|(refine wk2 ?_ ?_<;>intro _)|fail)
       refine bs.sv (sx:=sxE) Zw Tryz.func50 (by kernel_rfl) (by kernel_rfl) ?_
       repeat'(first|refine wk3 ?_|(refine wk2 ?_ ?_<;>intro _)|fail)
       refine Qx (bs.av (sx:=sxE) Zw ?_)
       repeat'(first|refine wk3 ?_|(refine wk2 ?_ ?_<;>intro _)|fail)
       refine bs.sv (sx:=sxE) Zw Tryz.func51 (by kernel_rfl) (by kernel_rfl) ?_
       repeat'(first|refine wk3 ?_|(refine wk2 ?_ ?_<;>intro _)|fail)
       all_goals try (refine Qx (bs.av (sx:=sxE) Zw ?_))
       repeat'(first|refine wk3 ?_|(refine wk2 ?_ ?_<;>intro _)|fail)
       clear e1 e6 e7
       all_goals first
        | (exfalso; rename_i q; simp [unl,z4] at q; done)
        | (exfalso; rename_i q1 q2; simp [unl,z4] at q1; done)
        | (refine Ze ?_ rfl; rw [<-hh]; clear hh; simp [unl,z4]; done)
        | (exfalso; clear hh; simp_all [unl]; done)
        | (exfalso; clear hh; simp_all [unl]; omega)
        | (refine Ze ?_ rfl; rw [<-hh]; clear hh; simp_all [unl]; done)
        | exact Ql ⟨((k+1)+1,_),[],rfl,kps,kps,⟨Zg (k:=(k+1)) (by omega),hlt,by rw [<-hh]; clear hh; simp_all [unl]⟩,by dsimp only; omega⟩
     ·rw [if_pos z1,if_neg z2] at hh
      repeat'(first|refine wk3 ?_|(refine wk2 ?_ ?_<;>intro _)|fail)
      refine bs.sv (sx:=sxE) Zw Tryz.func31 (by kernel_rfl) (by kernel_rfl) ?_
      repeat'(first|refine wk3 ?_|(refine wk2 ?_ ?_<;>intro _)|fail)
      refine Su 4 ?_;refine Qx (bs.av (sx:=sxE) Zw ?_)
      repeat'(first|refine wk3 ?_|(refine wk2 ?_ ?_<;>intro _)|fail)
      refine bs.sv (sx:=sxE) Zw Tryz.func48 (by kernel_rfl) (by kernel_rfl) ?_
      repeat'(first|refine wk3 ?_|(refine wk2 ?_ ?_<;>intro _)|fail)
      refine Qx (bs.av (sx:=sxE) Zw ?_)
      repeat'(first|refine wk3 ?_|(refine wk2 ?_ ?_<;>intro _)|fail)
      refine bs.sv (sx:=sxE) Zw Tryz.func50 (by kernel_rfl) (by kernel_rfl) ?_
      repeat'(first|refine wk3 ?_|(refine wk2 ?_ ?_<;>intro _)|fail)
      clear e1
      all_goals first
       | (exfalso; clear hh; simp_all [unl]; done)
       | (exfalso; clear hh; simp_all [unl]; omega)
       | (refine Ze ?_ rfl; rw [<-hh]; clear hh; simp_all [unl]; done)
       | exact Ql ⟨((k+1)+1,_),[],rfl,kps,kps,⟨Zg (k:=(k+1)) (by omega),hlt,by rw [<-hh]; clear hh; simp_all [unl]⟩,by dsimp only; omega⟩
    ·rw [if_neg z1] at hh
     repeat'(first|refine wk3 ?_|(refine wk2 ?_ ?_<;>intro _)|fail)
     refine bs.sv (sx:=sxE) Zw Tryz.func31 (by kernel_rfl) (by kernel_rfl) ?_
     repeat'(first|refine wk3 ?_|(refine wk2 ?_ ?_<;>intro _)|fail)
     refine Su 4 ?_;refine Qx (bs.av (sx:=sxE) Zw ?_)
     repeat'(first|refine wk3 ?_|(refine wk2 ?_ ?_<;>intro _)|fail)
     refine bs.sv (sx:=sxE) Zw Tryz.func48 (by kernel_rfl) (by kernel_rfl) ?_
     repeat'(first|refine wk3 ?_|(refine wk2 ?_ ?_<;>intro _)|fail)
     clear e1
     all_goals first
      | (exfalso; clear hh; simp_all [unl]; done)
      | (exfalso; clear hh; simp_all [unl]; omega)
      | (refine Ze ?_ rfl; rw [<-hh]; clear hh; simp_all [unl]; done)
      | exact Ql ⟨((k+1)+1,_),[],rfl,kps,kps,⟨Zg (k:=(k+1)) (by omega),hlt,by rw [<-hh]; clear hh; simp_all [unl]⟩,by dsimp only; omega⟩
  ·rw [Qk (by omega),ecGo] at hh
   subst hh
   repeat'(first|refine wk3 ?_|(refine wk2 ?_ ?_<;>intro _)|fail)
   exact Ze rfl rfl
open Go Go.Sx
def put1:FuncId->Bool:=fun f=>Qp f 86
noncomputable abbrev r21 (h:Hal) (s:Stg) (a:Ask) (f:List Int->Option Pth):List AV->Option PRes:=famA (fun L:List Int=>suE h L=0) (fun L=>[h.av,s.av,a.av,.isl 1 (nl L)]) (fun L=>⟨ansP (f L),[]⟩)
theorem Yfq {h:Hal} {s:Stg} {a:Ask} {f:List Int->Option Pth} {L:List Int} (e:suE h L=0):r21 h s a f [h.av,s.av,a.av,.isl 1 (nl L)]=some ⟨ansP (f L),[]⟩ :=
 Zm (p:=fun L:List Int=>suE h L=0) (g:=fun L=>[h.av,s.av,a.av,.isl 1 (nl L)]) (r:=fun L=>⟨ansP (f L),[]⟩) (k:=L) (fun j hj=>by
  simp only [Qs,Na,true_and,and_true] at hj
  rw [Zi3 hj]) e
theorem Yf8 {l:List (List Int)} {j:Nat} (hj:j<l.length):(lsX l)[0+((j:Nat):Int).toNat]?=some [.isl 1 (nl1 l[j])]:=by simp [hj]
structure OutL (ds:List Pth) (k len:Nat) (els:List (List AV)):Prop where
 k:k=ds.length
 len:len=els.length
 els:els=ds.map gcP
structure LstL (ls:List (List Int)) (k len:Nat) (els:List (List AV)):Prop where
 k:k=ls.length
 len:len=els.length
 els:els=lsX ls
theorem Zu7 (f:List Int->Option Pth) (m k:Nat):((((Si (k+1)).flatMap (bfsL m)).filterMap f).foldl putL [])=((bfsL m k).filterMap f).foldl putL ((((Si k).flatMap (bfsL m)).filterMap f).foldl putL []):=by
 rw [List.range_succ,Nj,Kk,Hn]
 simp
theorem Yjp {m:Nat} (hm:2<=m) (L:List Int):extL m L≠[]:=by
 intro h
 have h0:(0:Int)∈rngI 0 m:=Wd.2 ⟨0,Ho.2 ⟨by omega,by omega⟩,rfl⟩
 have h1:(1:Int)∈rngI 0 m:=Wd.2 ⟨1,Ho.2 ⟨by omega,by omega⟩,rfl⟩
 unfold extL at h
 rw [List.flatMap_eq_nil_iff] at h
 have a0:=h 0 h0
 have a1:=h 1 h1
 split at a0
 ·rename_i e
  split at a1
  ·rename_i e1; rw [e] at e1; cases e1
  ·cases a1
 ·cases a0
theorem Yew {m:Nat} (hm:2<=m):∀ k,bfsL m k≠[]
 | 0=>by simp [bfsL]
 | k+1=>by
  rw [bfsL]
  intro h
  cases hb:bfsL m k with
  | nil=>exact Yew hm k hb
  | cons L r =>
   rw [hb,List.flatMap_cons] at h;exact Yjp hm L (List.append_eq_nil_iff.1 h).1
noncomputable abbrev r17:List AV->Option PRes:=famA (fun ns:List Int=>ns.length<100000) (fun ns=>[.isl 1 (nl ns)]) (fun ns=>⟨.asl 0 0 (nl ns).length,[(1,nl ns)]⟩)
theorem Yfr {ns:List Int} (h:ns.length<100000):r17 [.isl 1 (nl ns)]=some ⟨.asl 0 0 (nl ns).length,[(1,nl ns)]⟩ :=
 Zm (p:=fun ns:List Int=>ns.length<100000) (g:=fun ns=>[.isl 1 (nl ns)]) (r:=fun ns=>⟨.asl 0 0 (nl ns).length,[(1,nl ns)]⟩) (k:=ns) (fun j hj=>by
  simp only [Qs,Na,true_and,and_true] at hj
  rw [Zi3 hj]) h
theorem Zlm {m:Nat}:∀ (k:Nat) {L:List Int},L∈bfsL m k->L.length=k
 | 0,L,h=>by rw [bfsL,We] at h; rw [h]; rfl
 | k+1,L,h=>by
  rw [bfsL] at h
  obtain ⟨M,hM,h2⟩:=Np.1 h
  unfold extL at h2
  obtain ⟨i,_,h3⟩:=Np.1 h2
  split at h3
  ·simp at h3
  ·rw [We.1 h3,Rr,Zlm k hM]; rfl
theorem Yhk {m o k:Nat} (hk:k<=o) {L:List Int} (h:L∈bfsL m k):L∈wlk m o [] :=
 (Zwy m o).symm.subset (Np.2 ⟨k,Tz.2 (by omega),h⟩)
theorem Yj7 {h:Hal} {o k:Nat} (ho:o<=2) (hk:k<=o) {L:List Int} (hL:L∈bfsL (nsN h) k):suE h L=0:=Ydt (by rw [Zlm k hL]; omega) (Zrq (nsN h) o [] rfl _ (Yhk hk hL))
theorem Zzi (m:Nat) (L:List Int):(extL m L).length<=m:=by
 have:=Zac (f:=fun i=>if L.getLast?=some i then [] else [L++[i]]) (B:=1) (rngI 0 m) fun i _=>by
  split<;>simp
 have hl:(rngI 0 m).length=m:=by simp [rngI]
 rw [hl,Nat.mul_one] at this
 exact this
theorem Yan {m:Nat} (hm:m<=18) {k:Nat} (hk:k<=2):(bfsL m k).length<=324:=by
 have h1:∀ k,(bfsL m (k+1)).length<=(bfsL m k).length*18:=fun k=>by
  have:=Zac (f:=extL m) (B:=18) (bfsL m k) fun L _=>Qt (Zzi m L) hm
  exact this
 have a0:(bfsL m 0).length=1:=rfl
 have a1:(bfsL m 1).length<=(bfsL m 0).length*18:=h1 0
 have a2:(bfsL m 2).length<=(bfsL m 1).length*18:=h1 1
 obtain rfl|rfl|rfl:k=0\/k=1\/k=2:=by omega
 ·omega
 ·omega
 ·omega
theorem Zxp (k:Nat):rngI 0 (k+1)=rngI 0 k++[(k:Int)]:=by
 unfold rngI
 rw [Ws,Ws,List.range'_concat,Wz]
 simp
def extK (L:List Int) (k:Nat):List (List Int):=(rngI 0 k).flatMap fun i=>if L.getLast?=some i then [] else [L++[i]]
theorem Zcw (L:List Int) (k:Nat):extK L (k+1)=extK L k++if L.getLast?=some (k:Int) then [] else [L++[(k:Int)]]:=by
 unfold extK
 rw [Zxp,Nj]
 simp
theorem Vm (f:Nat->Nat):∀ a b:List (List AV),Xg f (a++b)=Xg f a++Xg f b
 | [],b=>rfl
 | x::a,b=>by rw [Ss,Xg,Xg,Vm f a b]; rfl
theorem Zbh (f:Nat->Nat):∀ ls:List (List Int),Xg f (lsX ls)=lsX ls
 | []=>rfl
 | L::ls=>by
  show Xg f ([.isl 1 (nl1 L)]::lsX ls)=[.isl 1 (nl1 L)]::lsX ls
  rw [Xg,Zbh f ls]; rfl
theorem Zbn (m:Nat):∀ a b:List (List AV),Uv m (a++b)=(Uv m a&&Uv m b)
 | [],b=>by simp [Uv]
 | x::a,b=>by rw [Ss,Uv,Uv,Zbn m a b,Bool.and_assoc]
theorem Zha (m:Nat):∀ ls:List (List Int),Uv m (lsX ls)=true
 | []=>rfl
 | L::ls=>by
  show Uv m ([.isl 1 (nl1 L)]::lsX ls)=true
  rw [Uv,Zha m ls]; rfl
theorem Zlb:∀ (l a:List Pth),(l.foldl putL a).length=l.length+a.length
 | [],a=>by simp
 | p::l,a=>by
  rw [Lg,Zlb l (putL a p),(Zcl a p).length_eq,Ru,Ru]
  omega
theorem Zla:∀ (l a:List Pth) {x:Pth},x∈l.foldl putL a->x∈l\/x∈a
 | [],a,x,h=>.inr h
 | p::l,a,x,h=>by
  rw [Lg] at h
  rcases Zla l (putL a p) h with h|h
  ·exact .inl (Py _ h)
  ·rcases List.mem_cons.1 ((Zcl a p).subset h) with rfl|h
   ·exact .inl (by simp)
   ·exact .inr h
def zX (lst:Option (Nat × List (List AV))) (z:List (Nat × ABlk)):List (Nat × ABlk):=match lst with
 | none=>z
 | some q=>(151,.row 1 q.2 true true)::z
def gzp (nm:Nat) (k:Nat) (els:List (List AV)) (lst:Option (Nat × List (List AV))) (z:List (Nat × ABlk)):List (Nat × ABlk):=match k with
 | 0=>z
 | _=>(nm,.row 1 els true lst.isNone)::z
def LstX (ls:List (List Int)) (k len:Nat) (els:List (List AV)) (lst:Option (Nat × List (List AV))):Prop:=k=ls.length/\len=els.length/\match lst with
 | none=>els=lsX ls
 | some q=>∃ M Lx,ls=M++[Lx]/\els=lsX M++[[.asl 151 0 q.1]]/\q.1=q.2.length/\q.2=nl1 Lx
theorem d57 {h:Hal} (hk:h.ok) {s:Stg} (hs:s.few) (a:Ask) (e:askE h s a=0) (hn:a.n<3) :
  PCall Tryz.prog 45 [h.av,s.av,a.av] ⟨.isl 3 ((refL (Yt h s (qF a) (qT a)) (nsN h) a.n.toNat).map gcP),[]⟩:=by
 have A:=Yj e
 have hkp:PCOK Tryz.prog (ins 85 (r21 h s a (Yt h s (qF a) (qT a))) (ins 87 (cHas h) (ins 39 r17 pt0))) :=
  Zo (fun L e2=>d21a hk hs e e2) (Zo (fun i _=>c88 hk.f i) (Zo (fun ns hl=>c25 ns hl) Zc))
 have hm2:2<=nsN h:=by unfold nsN; omega
 have hm18:=Zpl hk A.e0
 have hfs:∀ L p,Yt h s (qF a) (qT a) L=some p->p.ss=L:=fun L p hp=>Zjl hp
 generalize Yt h s (qF a) (qT a)=f at *
 have hn0:=A.n.1
 obtain ⟨fx,fy,fz,tx,ty,tz,n⟩:=a
 dsimp only at hn hn0 ⊢
 obtain ⟨o,ho⟩:∃ o:Nat,n=o:=⟨n.toNat,by omega⟩
 rw [show n.toNat=o by omega]
 have ho2:o<=2:=by omega
 have hR:refL f (nsN h) o=(((Si (o+1)).flatMap (bfsL (nsN h))).filterMap f).foldl putL []:=rfl
 rw [hR]
 clear hR
 have hk0:=hkp
 refine Mt (res:=if ((((Si (o+1)).flatMap (bfsL (nsN h))).filterMap f).foldl putL [])=[] then ⟨.nils,[]⟩ else ⟨.asl 0 0 ((((Si (o+1)).flatMap (bfsL (nsN h))).filterMap f).foldl putL []).length,[(3,((((Si (o+1)).flatMap (bfsL (nsN h))).filterMap f).foldl putL []).map gcP)]⟩) ?_ ?_
 rotate_left
 ·split<;>rename_i hre
  ·rw [hre]; rfl
  ·exact ⟨rfl,rfl,(Ra _).symm⟩
 refine bs.pv (sx:=put1) Zc Tryz.func45 (by kernel_rfl) (by kernel_rfl) (by split<;>rfl) ?_
 unfold Zci
 conv=>whnf
 repeat'(first|refine wk3 ?_|(refine wk2 ?_ ?_<;>intro _)|fail)
 refine ⟨Awp.melt 4 (elems':=[[.isl 1 []]]) (l:=[3]) rfl rfl rfl rfl (Zkz (S:=Nat × Int × (Nat × Nat × List (List AV)) × (Nat × Nat × List (List AV))) (fun t=>o+1-t.1)
  (fun t=>[(3,.ptr 0 0 0),(4,.ptr 1 0 0),(5,.ptr 2 0 0),(7,gv 50 t.2.2.1.1 t.2.2.1.2.1),(8,gv 51 t.2.2.2.1 t.2.2.2.2.1),(9,I t.2.1)])
  (fun t=>(2,.row 7 [[I fx,I fy,I fz,I tx,I ty,I tz,I n]] true false)::(1,.row 2 [s.cells] true false)::(0,.row 9 [h.cells] true false)::gz 51 1 t.2.2.2.1 t.2.2.2.2.2 (gz 50 3 t.2.2.1.1 t.2.2.1.2.2 [])) 50 52
  (fun t=>t.2.1=t.1/\t.1<=o+1/\OutL ((((Si t.1).flatMap (bfsL (nsN h))).filterMap f).foldl putL []) t.2.2.1.1 t.2.2.1.2.1 t.2.2.1.2.2/\(t.1<=o->LstL (bfsL (nsN h) t.1) t.2.2.2.1 t.2.2.2.2.1 t.2.2.2.2.2))
  (0,0,(0,0,[]),(1,1,[[.isl 1 []]])) ⟨rfl,Qn _,⟨rfl,rfl,rfl⟩,fun _=>⟨rfl,rfl,rfl⟩⟩ (Qm rfl) [(51,4)] rfl (kps) (kps) ?_).1⟩
 rintro ⟨nn,i,⟨kO,lenO,elO⟩,kB,lenB,elB⟩ ⟨hi,hn1,hO,hB⟩
 dsimp only at hi hn1 hO hB ⊢
 subst hi
 by_cases hle:nn<=o
 ·have hB:=hB hle
  have hLd:∀ {k len els},nn+1<=o->LstL (if nn<o then (bfsL (nsN h) nn).flatMap (extL (nsN h)) else []) k len els->LstL (bfsL (nsN h) (nn+1)) k len els:=fun h2 hl=>by
   rw [if_pos (by omega)] at hl; exact hl
  have hbl:=hB.k
  have hbb:=Yan hm18 (show nn<=2 by omega)
  have hlb:lenB=(bfsL (nsN h) nn).length:=by rw [hB.len,hB.els,Ra]
  cases kB with
  | zero=>exact absurd (Rt.1 hbl.symm) (Yew hm2 nn)
  | succ b =>
   generalize hds:(((Si nn).flatMap (bfsL (nsN h))).filterMap f).foldl putL []=ds at *;refine bs.av (sx:=put1) hk0 ?_
   repeat'(first|refine wk3 ?_|(refine wk2 ?_ ?_<;>intro _)|fail)
   refine Zkz (S:=Nat × Int × (Nat × Nat × List (List AV)) × (Nat × Nat × List (List AV))) (fun t=>(bfsL (nsN h) nn).length-t.1)
    (fun t=>[(3,.ptr 0 0 0),(4,.ptr 1 0 0),(5,.ptr 2 0 0),(7,gv 100 t.2.2.1.1 t.2.2.1.2.1),(8,.asl 51 0 lenB),(9,I (nn:Int)),(10,gv 101 t.2.2.2.1 t.2.2.2.2.1),(11,I t.2.1)])
    (fun t=>(51,.row 1 elB true true)::(2,.row 7 [[I fx,I fy,I fz,I tx,I ty,I tz,I n]] true false)::(1,.row 2 [s.cells] true false)::(0,.row 9 [h.cells] true false)::gz 100 3 t.2.2.1.1 t.2.2.1.2.2 (gz 101 1 t.2.2.2.1 t.2.2.2.2.2 [])) 100 102
    (fun t=>t.2.1=t.1/\t.1<=(bfsL (nsN h) nn).length/\OutL ((((bfsL (nsN h) nn).take t.1).filterMap f).foldl putL ds) t.2.2.1.1 t.2.2.1.2.1 t.2.2.1.2.2/\LstL (if nn<o then ((bfsL (nsN h) nn).take t.1).flatMap (extL (nsN h)) else []) t.2.2.2.1 t.2.2.2.2.1 t.2.2.2.2.2)
    (0,0,(kO,lenO,elO),(0,0,[])) ⟨rfl,Qn _,hO,by split<;>exact ⟨rfl,rfl,rfl⟩⟩ (Qm rfl) [(100,50)] (by cases kO<;>rfl) (by cases kO<;>exact kps) (by cases kO<;>exact kps) ?_
   rintro ⟨j,ij,⟨kO2,lenO2,elO2⟩,kL,lenL,elL⟩ ⟨hij,hj1,hO2,hL⟩;dsimp only at hij hj1 hO2 hL ⊢;subst hij
   by_cases hjl:j<(bfsL (nsN h) nn).length
   ·have hLm:=Qr hjl
    have e1:elB[0+((j:Nat):Int).toNat]?=some [.isl 1 (nl1 ((bfsL (nsN h) nn)[j]))]:=by rw [hB.els]; exact Yf8 hjl
    have hsu:=Yj7 (h:=h) ho2 hle hLm;have hLl:=Zlm nn hLm;have c1:=Yfq (s:=s) (a:=⟨fx,fy,fz,tx,ty,tz,n⟩) (f:=f) hsu;have ht:=Qw hjl;generalize (bfsL (nsN h) nn)[j]=L at *
    apply Lp.join (α:=Nat × Nat × List (List AV)) (E:=fun t=>[(3,.ptr 0 0 0),(4,.ptr 1 0 0),(5,.ptr 2 0 0),(7,gv 146 t.1 t.2.1),(8,.asl 51 0 lenB),(9,I (nn:Int)),(10,gv 147 kL lenL),(11,I (j:Int)),(14,I 0)]) (Z:=fun t=>⟨((51,.row 1 elB true true)::(2,.row 7 [[I fx,I fy,I fz,I tx,I ty,I tz,I n]] true false)::(1,.row 2 [s.cells] true false)::(0,.row 9 [h.cells] true false)::gz 146 3 t.1 t.2.2 (gz 147 1 kL elL [])),148⟩) (G:=fun t=>OutL ((((bfsL (nsN h) nn).take (j+1)).filterMap f).foldl putL ds) t.1 t.2.1 t.2.2)
    case main =>
     intro key
     cases hp:f L with
     | none =>
      rw [hp] at c1
      have hO3:OutL ((((bfsL (nsN h) nn).take (j+1)).filterMap f).foldl putL ds) kO2 lenO2 elO2:=by
       rw [ht,Kk,Jh,hp,Jw,Tx]; exact hO2
      refine bs.av (sx:=put1) hk0 ?_
      repeat'(first|refine wk3 ?_|(refine wk2 ?_ ?_<;>intro _)|fail)
      exact Lp.go2 [(3,.ptr 0 0 0),(4,.ptr 1 0 0),(5,.ptr 2 0 0),(7,gv 146 kO2 lenO2),(8,.asl 51 0 lenB),(9,I (nn:Int)),(10,gv 147 kL lenL),(11,I (j:Int)),(14,I 0)] ((51,.row 1 elB true true)::(2,.row 7 [[I fx,I fy,I fz,I tx,I ty,I tz,I n]] true false)::(1,.row 2 [s.cells] true false)::(0,.row 9 [h.cells] true false)::gz 146 3 kO2 elO2 (gz 147 1 kL elL [])) 146 148 (Qm rfl) [(146,100),(147,101)] (by cases kO2<;>cases kL<;>rfl) (by cases kO2<;>cases kL<;>exact kps) (by cases kO2<;>cases kL<;>exact kps) (key (kO2,lenO2,elO2) hO3)
     | some p =>
      rw [hp] at c1;have hsp:p.ss.length<=2:=by rw [hfs L p hp]; omega
      have hsh:∀ x∈(((bfsL (nsN h) nn).take j).filterMap f).foldl putL ds,x.ss.length<=2:=fun x hx=>by
       rcases Zla _ _ hx with hx|hx
       ·obtain ⟨L',hL',hf⟩:=Nr.1 hx
        rw [hfs L' x hf,Zlm nn (List.mem_of_mem_take hL')]; omega
       ·rw [<-hds] at hx
        rcases Zla _ _ hx with hx|hx
        ·obtain ⟨L',hL',hf⟩:=Nr.1 hx
         obtain ⟨k',hk',hL2⟩:=Np.1 hL';have:=Tz.1 hk';rw [hfs L' x hf,Zlm k' hL2]; omega
        ·simp at hx
      have hO3' : (((bfsL (nsN h) nn).take (j+1)).filterMap f).foldl putL ds=putL ((((bfsL (nsN h) nn).take j).filterMap f).foldl putL ds) p:=by
       rw [ht,Kk,Jh,hp,Jw,Hn]; rfl
      have hdn:((((bfsL (nsN h) nn).take j).filterMap f).foldl putL ds).length<3000:=by
       rw [Zlb,<-hds,Zlb];have a1:=Nh f ((bfsL (nsN h) nn).take j);have a2:=Nh f ((Si nn).flatMap (bfsL (nsN h)));have a3:=Zac (f:=bfsL (nsN h)) (B:=324) (Si nn) fun k hk=>Yan hm18 (by have:=Tz.1 hk; omega)
       rw [List.length_range] at a3;rw [Pi] at a1;simp only [Wp];omega
      generalize (((bfsL (nsN h) nn).take j).filterMap f).foldl putL ds=d2 at *
      cases kO2 with
      | zero =>
       obtain rfl:d2=[]:=Rt.1 hO2.k.symm;obtain rfl:elO2=[]:=hO2.els;refine bs.av (sx:=put1) hk0 ?_
       repeat'(first|refine wk3 ?_|(refine wk2 ?_ ?_<;>intro _)|fail)
       refine bs.sv (sx:=nos) (Zia Zc) Tryz.func86 (by kernel_rfl) (by kernel_rfl) ?_;unfold Zci;conv=>whnf
       repeat'(first|refine wk3 ?_|(refine wk2 ?_ ?_<;>intro _)|fail)
       refine Zkz (S:=Nat × Int × List (List AV)) (fun t=>t.1) (fun t=>[(0,.asl 130 0 1),(5,I t.2.1)]) (fun t=>(130,.row 3 t.2.2 true true)::(51,.row 1 elB true true)::(2,.row 7 [[I fx,I fy,I fz,I tx,I ty,I tz,I n]] true false)::(1,.row 2 [s.cells] true false)::(0,.row 9 [h.cells] true false)::gz 101 1 kL elL []) 130 131
        (fun t=>t.2.1=t.1/\t.1<=([]:List Pth).length/\t.2.2=(([]:List Pth).take t.1++p::([]:List Pth).drop t.1).map gcP/\putM p ([]:List Pth) t.1=putM p ([]:List Pth) ([]:List Pth).length) (0,_,[gcP p]) ⟨by show Qa Qb (((1:Nat):Int)-1)=_; rfl,Qd _,rfl,rfl⟩ (Qm rfl) [(130,118)] (by cases kL<;>rfl) (by cases kL<;>exact kps) (by cases kL<;>exact kps) ?_
       rintro ⟨i,ii,cur⟩ ⟨hi1,hi2,hcur,hpm⟩;dsimp only at hi1 hi2 hcur hpm ⊢;subst hi1
       cases i with
       | zero =>
        have hput:cur=(putL ([]:List Pth) p).map gcP:=by rw [hcur]; unfold putL; rw [<-hpm]; rfl
        have hO3:OutL ((((bfsL (nsN h) nn).take (j+1)).filterMap f).foldl putL ds) 1 1 cur:=by
         rw [hO3'];have hlp:=(Zcl ([]:List Pth) p).length_eq;rw [Ru] at hlp;exact ⟨by rw [hlp]; rfl,by rw [hput,Ra,hlp]; rfl,hput⟩
        refine bs.av (sx:=nos) (Zia Zc) ?_
        repeat'(first|refine wk3 ?_|(refine wk2 ?_ ?_<;>intro _)|fail)
        exact Lp.go2 [(3,.ptr 0 0 0),(4,.ptr 1 0 0),(5,.ptr 2 0 0),(7,gv 146 1 1),(8,.asl 51 0 lenB),(9,I (nn:Int)),(10,gv 147 kL lenL),(11,I (j:Int)),(14,I 0)] ((51,.row 1 elB true true)::(2,.row 7 [[I fx,I fy,I fz,I tx,I ty,I tz,I n]] true false)::(1,.row 2 [s.cells] true false)::(0,.row 9 [h.cells] true false)::gz 146 3 1 cur (gz 147 1 kL elL [])) 146 148 (Qm rfl) [(146,130),(147,101)] (by cases kL<;>rfl) (by cases kL<;>exact kps) (by cases kL<;>exact kps) (key (1,1,cur) hO3)
       | succ q=>simp at hi2
      | succ q1 =>
       have hlo:=hO2.len;have hle2:elO2.length=d2.length:=by rw [hO2.els,Ra]
       refine bs.av (sx:=put1) hk0 ?_
       repeat'(first|refine wk3 ?_|(refine wk2 ?_ ?_<;>intro _)|fail)
       refine bs.sv (sx:=nos) (Zia Zc) Tryz.func86 (by kernel_rfl) (by kernel_rfl) ?_;unfold Zci;conv=>whnf
       repeat'(first|refine wk3 ?_|(refine wk2 ?_ ?_<;>intro _)|fail)
       refine Zkz (S:=Nat × Int × List (List AV)) (fun t=>t.1) (fun t=>[(0,.asl 130 0 (elO2.length+1)),(5,I t.2.1)]) (fun t=>(130,.row 3 t.2.2 true true)::(51,.row 1 elB true true)::(2,.row 7 [[I fx,I fy,I fz,I tx,I ty,I tz,I n]] true false)::(1,.row 2 [s.cells] true false)::(0,.row 9 [h.cells] true false)::gz 101 1 kL elL []) 130 131
        (fun t=>t.2.1=t.1/\t.1<=d2.length/\t.2.2=(d2.take t.1++p::d2.drop t.1).map gcP/\putM p d2 t.1=putM p d2 d2.length) (d2.length,_,elO2++[gcP p]) ⟨by show Qa Qb (((elO2.length+1:Nat):Int)-1)=_; rw [W_eq (by omega) (by omega)]; omega,Qd _,by dsimp only; rw [Pf,List.drop_length,hO2.els,Wz]; rfl,rfl⟩ (Qm rfl) [(130,118)] (by cases kL<;>rfl) (by cases kL<;>exact kps) (by cases kL<;>exact kps) ?_
       rintro ⟨i,ii,cur⟩ ⟨hi1,hi2,hcur,hpm⟩;dsimp only at hi1 hi2 hcur hpm ⊢;subst hi1
       cases i with
       | zero =>
        have hput:cur=(putL d2 p).map gcP:=by rw [hcur]; unfold putL; rw [<-hpm]; rfl
        have hO3:OutL ((((bfsL (nsN h) nn).take (j+1)).filterMap f).foldl putL ds) (q1+1+1) (elO2.length+1) cur:=by
         rw [hO3'];have hlp:=(Zcl d2 p).length_eq;rw [Ru] at hlp;exact ⟨by rw [hlp]; rw [<-hO2.k],by rw [hput,Ra,hlp]; rw [hle2],hput⟩
        refine bs.av (sx:=nos) (Zia Zc) ?_
        repeat'(first|refine wk3 ?_|(refine wk2 ?_ ?_<;>intro _)|fail)
        exact Lp.go2 [(3,.ptr 0 0 0),(4,.ptr 1 0 0),(5,.ptr 2 0 0),(7,gv 146 (q1+1+1) (elO2.length+1)),(8,.asl 51 0 lenB),(9,I (nn:Int)),(10,gv 147 kL lenL),(11,I (j:Int)),(14,I 0)] ((51,.row 1 elB true true)::(2,.row 7 [[I fx,I fy,I fz,I tx,I ty,I tz,I n]] true false)::(1,.row 2 [s.cells] true false)::(0,.row 9 [h.cells] true false)::gz 146 3 (q1+1+1) cur (gz 147 1 kL elL [])) 146 148 (Qm rfl) [(146,130),(147,101)] (by cases kL<;>rfl) (by cases kL<;>exact kps) (by cases kL<;>exact kps) (key ((q1+1+1),(elO2.length+1),cur) hO3)
       | succ q =>
        have hql:q<d2.length:=by omega
        have b1:Qa Qb (((q+1:Nat):Int)-1)=(q:Int):=by rw [W_eq (by omega) (by omega)]; omega
        have b0:((q+1:Nat):Int)>0:=by omega
        have hlt1:(d2.take (q+1)).length=q+1:=by rw [Pi]; omega
        have e3:cur[0+((q+1:Nat):Int).toNat]?=some (gcP p):=by
         rw [hcur,Rf,Ry,Rq,List.getElem?_append_right (by omega),hlt1,Gj]; rfl
        have e4:cur[0+(Qa Qb (((q+1:Nat):Int)-1)).toNat]?=some (gcP d2[q]):=by
         rw [b1,hcur,Rf,Ry,Rq,List.getElem?_append_left (by omega),List.getElem?_take_of_lt (by omega),Qe hql]; rfl
        have c9:=Ybz (a:=p) (b:=d2[q]) (by omega) (by have:=hsh d2[q] (Qr hql); omega);have hcl:cur.length=d2.length+1:=by rw [hcur,Ra,Rr,Ru,List.length_drop,hlt1]; omega
        by_cases ho9:ordP p d2[q]<0
        ·rw [decide_eq_true ho9] at c9
         have hpm2:putM p d2 q=putM p d2 d2.length:=by
          rw [<-hpm,putM,Qe hql]; dsimp only; rw [if_pos ho9]
         have hset:Zf1 (Zf1 cur (0+((q+1:Nat):Int).toNat) (gcP d2[q])) (0+(Qa Qb (((q+1:Nat):Int)-1)).toNat) (gcP p)=(d2.take q++p::d2.drop q).map gcP:=by
          rw [Uj,Uj,b1,Rf,Rf,Ry,Ry,hcur];have h1:d2.take (q+1)=d2.take q++[d2[q]]:=Qw hql;have h2:d2.drop q=d2[q]::d2.drop (q+1):=Qi hql;have h3:(d2.take q).length=q:=by rw [Pi]; omega
          rw [<-Mu,<-Mu,h1,h2,Rs];congr 1
          rw [Fe _ _ (by omega),h3,show q+1-q=1 by omega,Fe _ _ (by omega),h3,Gj];rfl
         have e5:(Zf1 cur (0+((q+1:Nat):Int).toNat) (gcP d2[q]))[0+(Qa Qb (((q+1:Nat):Int)-1)).toNat]?=some (gcP d2[q]):=by
          rw [Uj,List.getElem?_set,if_neg (by rw [b1]; omega)]; exact e4
         generalize d2[q]=x at *;obtain ⟨xs,xp,xq⟩:=x;obtain ⟨ps,pp,pq⟩:=p;refine bs.av (sx:=nos) (Zia Zc) ?_
         repeat'(first|refine wk3 ?_|(refine wk2 ?_ ?_<;>intro _)|fail)
         exact Ql ⟨(q,_,_),[(130,130)],by cases kL<;>rfl,by cases kL<;>exact kps,by cases kL<;>exact kps,⟨b1,by omega,hset,hpm2⟩,by dsimp only; omega⟩
        ·rw [decide_eq_false ho9] at c9
         have hpm2:q+1=putM p d2 d2.length:=by
          rw [<-hpm,putM,Qe hql]; dsimp only; rw [if_neg ho9]
         have hput:cur=(putL d2 p).map gcP:=by rw [hcur]; unfold putL; rw [<-hpm2]
         have hO3:OutL ((((bfsL (nsN h) nn).take (j+1)).filterMap f).foldl putL ds) (q1+1+1) (elO2.length+1) cur:=by
          rw [hO3'];have hlp:=(Zcl d2 p).length_eq;rw [Ru] at hlp;exact ⟨by rw [hlp]; rw [<-hO2.k],by rw [hput,Ra,hlp]; rw [hle2],hput⟩
         refine bs.av (sx:=nos) (Zia Zc) ?_
         repeat'(first|refine wk3 ?_|(refine wk2 ?_ ?_<;>intro _)|fail)
         exact Lp.go2 [(3,.ptr 0 0 0),(4,.ptr 1 0 0),(5,.ptr 2 0 0),(7,gv 146 (q1+1+1) (elO2.length+1)),(8,.asl 51 0 lenB),(9,I (nn:Int)),(10,gv 147 kL lenL),(11,I (j:Int)),(14,I 0)] ((51,.row 1 elB true true)::(2,.row 7 [[I fx,I fy,I fz,I tx,I ty,I tz,I n]] true false)::(1,.row 2 [s.cells] true false)::(0,.row 9 [h.cells] true false)::gz 146 3 (q1+1+1) cur (gz 147 1 kL elL [])) 146 148 (Qm rfl) [(146,130),(147,101)] (by cases kL<;>rfl) (by cases kL<;>exact kps) (by cases kL<;>exact kps) (key ((q1+1+1),(elO2.length+1),cur) hO3)
    case kl =>
     rintro ⟨kO,lenO,elO⟩ hO3;dsimp only at hO3 ⊢
     by_cases hno:nn<o
     rotate_left
     ·refine Su 1 (Qx (bs.av (sx:=put1) hk0 ?_))
      repeat'(first|refine wk3 ?_|(refine wk2 ?_ ?_<;>intro _)|fail)
      exact Ql ⟨(j+1,_,(kO,lenO,elO),(kL,lenL,elL)),[(100,146),(101,147)],by cases kO<;>cases kL<;>rfl,by cases kO<;>cases kL<;>exact kps,by cases kO<;>cases kL<;>exact kps,⟨Zg (by omega),hjl,hO3,by rw [if_neg hno] at hL ⊢; exact hL⟩,by dsimp only; omega⟩
     rw [if_pos hno] at hL
     refine Zkz (S:=Nat × Int × (Nat × Nat × List (List AV)) × Option (Nat × List (List AV))) (fun t=>nsN h-t.1)
      (fun t=>[(3,.ptr 0 0 0),(4,.ptr 1 0 0),(5,.ptr 2 0 0),(7,gv 146 kO lenO),(8,.asl 51 0 lenB),(9,I (nn:Int)),(10,gv 150 t.2.2.1.1 t.2.2.1.2.1),(11,I (j:Int)),(14,I t.2.1)])
      (fun t=>zX t.2.2.2 (gzp 150 t.2.2.1.1 t.2.2.1.2.2 t.2.2.2 ((51,.row 1 elB true true)::(2,.row 7 [[I fx,I fy,I fz,I tx,I ty,I tz,I n]] true false)::(1,.row 2 [s.cells] true false)::(0,.row 9 [h.cells] true false)::gz 146 3 kO elO []))) 150 152
      (fun t=>t.2.1=t.1/\t.1<=nsN h/\LstX ((((bfsL (nsN h) nn).take j).flatMap (extL (nsN h)))++extK L t.1) t.2.2.1.1 t.2.2.1.2.1 t.2.2.1.2.2 t.2.2.2)
      (0,0,(kL,lenL,elL),none) ⟨rfl,Qn _,by rw [show extK L 0=[] from rfl,Tx]; exact ⟨hL.k,hL.len,hL.els⟩⟩ (Qm rfl) [(150,147)] (by cases kO<;>cases kL<;>rfl) (by cases kO<;>cases kL<;>exact kps) (by cases kO<;>cases kL<;>exact kps) ?_
     rintro ⟨kk,ik,⟨k3,len3,el3⟩,lst⟩ ⟨hik,hk3,hX⟩;dsimp only at hik hk3 hX ⊢;subst hik;have c3:=Yfr (ns:=L) (by omega);have ll:((1,nl L):Nat × List (List AV)).2.length=L.length:=Zk L;have ll2:=Zk L
     have hl3:((((bfsL (nsN h) nn).take j).flatMap (extL (nsN h)))++extK L kk).length<100000:=by
      have a1:=Zac (f:=extL (nsN h)) (B:=18) ((bfsL (nsN h) nn).take j) fun L' _=>Qt (Zzi (nsN h) L') hm18
      have a2:=Zac (f:=fun i=>if L.getLast?=some i then [] else [L++[i]]) (B:=1) (rngI 0 kk) fun i _=>by
       split<;>simp
      have a3:(rngI 0 kk).length=kk:=by simp [rngI]
      rw [Pi] at a1;rw [a3] at a2;rw [Rr];unfold extK;omega
     cases lst with
     | none =>
      have hls:LstL _ k3 len3 el3:=⟨hX.1,hX.2.1,hX.2.2⟩;have hl4:el3.length<100000:=by rw [hls.els,Ra]; exact hl3
      have hlen:=hls.len
      cases k3 with
      | zero =>
       by_cases hkm:kk<nsN h
       rotate_left
       ·obtain rfl:kk=nsN h:=by omega
        have c2:=Zij h (nsN h);rw [show within (nsN h:Int) 0 (nsur h-1)=false by rw [Qv,ne_eq,within_iff,<-Zi2]; omega] at c2;refine bs.av (sx:=put1) hk0 ?_
        repeat'(first|refine wk3 ?_|(refine wk2 ?_ ?_<;>intro _)|fail)
        exact Ql ⟨(j+1,_,(kO,lenO,elO),(0,len3,el3)),[(100,146)],by cases kO<;>rfl,by cases kO<;>exact kps,by cases kO<;>exact kps,⟨Zg (by omega),hjl,hO3,by rw [if_pos hno,ht,Nj]; simpa [extK,extL] using hls⟩,by dsimp only; omega⟩
       have c2:=Zij h kk;rw [show within (kk:Int) 0 (nsur h-1)=true by rw [within_iff,<-Zi2]; omega] at c2
       by_cases hn00:nn=0
       ·have hL0:L.getLast?=none:=by rw [Rt.1 (hLl.trans hn00)]; rfl
        have hxs:=Zcw L kk;rw [hL0,if_neg (by simp)] at hxs;refine bs.av (sx:=put1) hk0 ?_
        repeat'(first|refine wk3 ?_|(refine wk2 ?_ ?_<;>intro _)|fail)
        exact Ql ⟨(kk+1,_,(1,_,[[Wn 151 0 ((nl L).length+1)]]),some (((nl L).length+1),nl L++[[I (kk:Int)]])),[(150,156),(151,154)],by cases kO<;>rfl,by cases kO<;>exact kps,by cases kO<;>exact kps,⟨Zg (by omega),hkm,⟨by rw [hxs,<-Rs,Rr,<-hls.k]; rfl,by rfl,_,_,by rw [hxs,<-Rs],by rw [Rt.1 hls.k.symm]; rfl,by simp,by simp [nl,nl1]⟩⟩,by dsimp only; omega⟩
       ·have hw0:0<=Qa Qb ((nn:Int)-1):=by rw [W_eq (by omega) (by omega)]; omega
        obtain ⟨x,hx,e5⟩:∃ x,L.getLast?=some x/\(nl1 L)[(Qa Qb ((nn:Int)-1)).toNat]?=some [I x]:=by
         rw [W_eq (by omega) (by omega),show ((nn:Int)-1).toNat=nn-1 by omega];refine ⟨L[nn-1]'(by omega),?_,?_⟩
         ·rw [Mx,show L.length-1=nn-1 by omega]; exact Qe _
         ·unfold nl1; rw [Rq,Qe (by omega)]; rfl
        have hxs:=Zcw L kk;rw [hx] at hxs
        by_cases hxk:x=(kk:Int)
        ·rw [hxk,if_pos rfl,Tx] at hxs
         subst hxk;refine bs.av (sx:=put1) hk0 ?_
         repeat'(first|refine wk3 ?_|(refine wk2 ?_ ?_<;>intro _)|fail)
         exact Ql ⟨(kk+1,_,(0,len3,el3),none),[],by cases kO<;>rfl,by cases kO<;>exact kps,by cases kO<;>exact kps,⟨Zg (by omega),hkm,by rw [hxs]; exact ⟨hls.k,hls.len,hls.els⟩⟩,by dsimp only; omega⟩
        ·rw [if_neg (by simpa using hxk)] at hxs
         refine bs.av (sx:=put1) hk0 ?_
         repeat'(first|refine wk3 ?_|(refine wk2 ?_ ?_<;>intro _)|fail)
         exact Ql ⟨(kk+1,_,(1,_,[[Wn 151 0 ((nl L).length+1)]]),some (((nl L).length+1),nl L++[[I (kk:Int)]])),[(150,156),(151,154)],by cases kO<;>rfl,by cases kO<;>exact kps,by cases kO<;>exact kps,⟨Zg (by omega),hkm,⟨by rw [hxs,<-Rs,Rr,<-hls.k]; rfl,by rfl,_,_,by rw [hxs,<-Rs],by rw [Rt.1 hls.k.symm]; rfl,by simp,by simp [nl,nl1]⟩⟩,by dsimp only; omega⟩
      | succ k4 =>
       by_cases hkm:kk<nsN h
       rotate_left
       ·obtain rfl:kk=nsN h:=by omega
        have c2:=Zij h (nsN h);rw [show within (nsN h:Int) 0 (nsur h-1)=false by rw [Qv,ne_eq,within_iff,<-Zi2]; omega] at c2;refine bs.av (sx:=put1) hk0 ?_
        repeat'(first|refine wk3 ?_|(refine wk2 ?_ ?_<;>intro _)|fail)
        exact Ql ⟨(j+1,_,(kO,lenO,elO),((k4+1),len3,el3)),[(100,146),(101,150)],by cases kO<;>rfl,by cases kO<;>exact kps,by cases kO<;>exact kps,⟨Zg (by omega),hjl,hO3,by rw [if_pos hno,ht,Nj]; simpa [extK,extL] using hls⟩,by dsimp only; omega⟩
       have c2:=Zij h kk;rw [show within (kk:Int) 0 (nsur h-1)=true by rw [within_iff,<-Zi2]; omega] at c2
       by_cases hn00:nn=0
       ·have hL0:L.getLast?=none:=by rw [Rt.1 (hLl.trans hn00)]; rfl
        have hxs:=Zcw L kk;rw [hL0,if_neg (by simp)] at hxs;refine bs.av (sx:=put1) hk0 ?_
        repeat'(first|refine wk3 ?_|(refine wk2 ?_ ?_<;>intro _)|fail)
        have hren:el3++[[Wn 154 0 ((nl L).length+1)]]=Xg (fOf [(150,156),(151,154)]) (el3++[[Wn 151 0 ((nl L).length+1)]]):=by rw [hls.els,Vm,Zbh]; rfl
        have hids:Uv 152 (el3++[[Wn 151 0 ((nl L).length+1)]])=true:=by rw [hls.els,Zbn,Zha]; rfl
        have hkx:k4+1+1=((((bfsL (nsN h) nn).take j).flatMap (extL (nsN h)))++extK L (kk+1)).length:=by
         have:=hls.k;rw [hxs]; simp only [Rr,Nz] at this ⊢; omega
        have hlx:el3.length+1=(el3++[[Wn 151 0 ((nl L).length+1)]]).length:=by simp
        have helx:el3++[[Wn 151 0 ((nl L).length+1)]]=lsX ((((bfsL (nsN h) nn).take j).flatMap (extL (nsN h)))++extK L kk)++[[Wn 151 0 ((nl L).length+1)]]:=by rw [hls.els]
        exact Ql ⟨(kk+1,_,(k4+1+1,el3.length+1,el3++[[Wn 151 0 ((nl L).length+1)]]),some (((nl L).length+1),nl L++[[I (kk:Int)]])),[(150,156),(151,154)],by cases kO<;>rfl,by cases kO<;>exact kps,⟨⟨rfl,rfl,rfl⟩,⟨rfl,rfl,⟨_,rfl,hren,hids⟩⟩,by cases kO<;>exact kps⟩,⟨Zg (by omega),hkm,⟨hkx,hlx,((((bfsL (nsN h) nn).take j).flatMap (extL (nsN h)))++extK L kk),L++[(kk:Int)],by rw [hxs,<-Rs],helx,by simp,by simp [nl,nl1]⟩⟩,by dsimp only; omega⟩
       ·have hw0:0<=Qa Qb ((nn:Int)-1):=by rw [W_eq (by omega) (by omega)]; omega
        obtain ⟨x,hx,e5⟩:∃ x,L.getLast?=some x/\(nl1 L)[(Qa Qb ((nn:Int)-1)).toNat]?=some [I x]:=by
         rw [W_eq (by omega) (by omega),show ((nn:Int)-1).toNat=nn-1 by omega];refine ⟨L[nn-1]'(by omega),?_,?_⟩
         ·rw [Mx,show L.length-1=nn-1 by omega]; exact Qe _
         ·unfold nl1; rw [Rq,Qe (by omega)]; rfl
        have hxs:=Zcw L kk;rw [hx] at hxs
        by_cases hxk:x=(kk:Int)
        ·rw [hxk,if_pos rfl,Tx] at hxs
         subst hxk;refine bs.av (sx:=put1) hk0 ?_
         repeat'(first|refine wk3 ?_|(refine wk2 ?_ ?_<;>intro _)|fail)
         exact Ql ⟨(kk+1,_,((k4+1),len3,el3),none),[(150,150)],by cases kO<;>rfl,by cases kO<;>exact kps,by cases kO<;>exact kps,⟨Zg (by omega),hkm,by rw [hxs]; exact ⟨hls.k,hls.len,hls.els⟩⟩,by dsimp only; omega⟩
        ·rw [if_neg (by simpa using hxk)] at hxs
         refine bs.av (sx:=put1) hk0 ?_
         repeat'(first|refine wk3 ?_|(refine wk2 ?_ ?_<;>intro _)|fail)
         have hren:el3++[[Wn 154 0 ((nl L).length+1)]]=Xg (fOf [(150,156),(151,154)]) (el3++[[Wn 151 0 ((nl L).length+1)]]):=by rw [hls.els,Vm,Zbh]; rfl
         have hids:Uv 152 (el3++[[Wn 151 0 ((nl L).length+1)]])=true:=by rw [hls.els,Zbn,Zha]; rfl
         have hkx:k4+1+1=((((bfsL (nsN h) nn).take j).flatMap (extL (nsN h)))++extK L (kk+1)).length:=by
          have:=hls.k;rw [hxs]; simp only [Rr,Nz] at this ⊢; omega
         have hlx:el3.length+1=(el3++[[Wn 151 0 ((nl L).length+1)]]).length:=by simp
         have helx:el3++[[Wn 151 0 ((nl L).length+1)]]=lsX ((((bfsL (nsN h) nn).take j).flatMap (extL (nsN h)))++extK L kk)++[[Wn 151 0 ((nl L).length+1)]]:=by rw [hls.els]
         exact Ql ⟨(kk+1,_,(k4+1+1,el3.length+1,el3++[[Wn 151 0 ((nl L).length+1)]]),some (((nl L).length+1),nl L++[[I (kk:Int)]])),[(150,156),(151,154)],by cases kO<;>rfl,by cases kO<;>exact kps,⟨⟨rfl,rfl,rfl⟩,⟨rfl,rfl,⟨_,rfl,hren,hids⟩⟩,by cases kO<;>exact kps⟩,⟨Zg (by omega),hkm,⟨hkx,hlx,((((bfsL (nsN h) nn).take j).flatMap (extL (nsN h)))++extK L kk),L++[(kk:Int)],by rw [hxs,<-Rs],helx,by simp,by simp [nl,nl1]⟩⟩,by dsimp only; omega⟩
     | some q =>
      obtain ⟨lx,ex⟩:=q;obtain ⟨x1,x2,M,Lx,x3,x4,x5,x6⟩:=hX;dsimp only at x4 x5 x6
      cases k3 with
      | zero=>rw [x3] at x1; simp at x1
      | succ k4 =>
       have ev:List.take lx (List.drop 0 ex)=nl1 Lx:=by rw [List.drop_zero,x5,Pf,x6]
       have hls:LstL (((bfsL (nsN h) nn).take j).flatMap (extL (nsN h))++extK L kk) (k4+1) len3 (lsX M++[[.isl 1 (nl1 Lx)]]):=⟨x1,by rw [x2,x4,Rr,Rr]; rfl,by rw [x3]; simp⟩;have hl4:(lsX M++[[Ma 1 (nl1 Lx)]]).length<100000:=by rw [hls.els,Ra]; exact hl3
       have hlen:=hls.len
       refine Awp.melt 150 (elems:=el3) (elems':=lsX M++[[.isl 1 (nl1 Lx)]]) (l:=[151]) rfl (by
        rw [x4];refine Ziw (l:=[]) (Zts fun e he=>?_) ?_
        ·obtain ⟨L',_,rfl⟩:=Wd.1 he
         rfl
        ·rw [<-ev]; rfl) rfl rfl ?_
       by_cases hkm:kk<nsN h
       rotate_left
       ·obtain rfl:kk=nsN h:=by omega
        have c2:=Zij h (nsN h);rw [show within (nsN h:Int) 0 (nsur h-1)=false by rw [Qv,ne_eq,within_iff,<-Zi2]; omega] at c2;refine bs.av (sx:=put1) hk0 ?_
        repeat'(first|refine wk3 ?_|(refine wk2 ?_ ?_<;>intro _)|fail)
        exact Ql ⟨(j+1,_,(kO,lenO,elO),((k4+1),len3,(lsX M++[[Ma 1 (nl1 Lx)]]))),[(100,146),(101,150)],by cases kO<;>rfl,by cases kO<;>exact kps,by cases kO<;>exact kps,⟨Zg (by omega),hjl,hO3,by rw [if_pos hno,ht,Nj]; simpa [extK,extL] using hls⟩,by dsimp only; omega⟩
       have c2:=Zij h kk;rw [show within (kk:Int) 0 (nsur h-1)=true by rw [within_iff,<-Zi2]; omega] at c2
       by_cases hn00:nn=0
       ·have hL0:L.getLast?=none:=by rw [Rt.1 (hLl.trans hn00)]; rfl
        have hxs:=Zcw L kk;rw [hL0,if_neg (by simp)] at hxs;refine bs.av (sx:=put1) hk0 ?_
        repeat'(first|refine wk3 ?_|(refine wk2 ?_ ?_<;>intro _)|fail)
        have hren:(lsX M++[[Ma 1 (nl1 Lx)]])++[[Wn 154 0 ((nl L).length+1)]]=Xg (fOf [(150,156),(151,154)]) ((lsX M++[[Ma 1 (nl1 Lx)]])++[[Wn 151 0 ((nl L).length+1)]]):=by rw [hls.els,Vm,Zbh]; rfl
        have hids:Uv 152 ((lsX M++[[Ma 1 (nl1 Lx)]])++[[Wn 151 0 ((nl L).length+1)]])=true:=by rw [hls.els,Zbn,Zha]; rfl
        have hkx:k4+1+1=((((bfsL (nsN h) nn).take j).flatMap (extL (nsN h)))++extK L (kk+1)).length:=by
         have:=hls.k;rw [hxs]; simp only [Rr,Nz] at this ⊢; omega
        have hlx:(lsX M++[[Ma 1 (nl1 Lx)]]).length+1=((lsX M++[[Ma 1 (nl1 Lx)]])++[[Wn 151 0 ((nl L).length+1)]]).length:=by simp
        have helx:(lsX M++[[Ma 1 (nl1 Lx)]])++[[Wn 151 0 ((nl L).length+1)]]=lsX ((((bfsL (nsN h) nn).take j).flatMap (extL (nsN h)))++extK L kk)++[[Wn 151 0 ((nl L).length+1)]]:=by rw [hls.els]
        exact Ql ⟨(kk+1,_,(k4+1+1,(lsX M++[[Ma 1 (nl1 Lx)]]).length+1,(lsX M++[[Ma 1 (nl1 Lx)]])++[[Wn 151 0 ((nl L).length+1)]]),some (((nl L).length+1),nl L++[[I (kk:Int)]])),[(150,156),(151,154)],by cases kO<;>rfl,by cases kO<;>exact kps,⟨⟨rfl,rfl,rfl⟩,⟨rfl,rfl,⟨_,rfl,hren,hids⟩⟩,by cases kO<;>exact kps⟩,⟨Zg (by omega),hkm,⟨hkx,hlx,((((bfsL (nsN h) nn).take j).flatMap (extL (nsN h)))++extK L kk),L++[(kk:Int)],by rw [hxs,<-Rs],helx,by simp,by simp [nl,nl1]⟩⟩,by dsimp only; omega⟩
       ·have hw0:0<=Qa Qb ((nn:Int)-1):=by rw [W_eq (by omega) (by omega)]; omega
        obtain ⟨x,hx,e5⟩:∃ x,L.getLast?=some x/\(nl1 L)[(Qa Qb ((nn:Int)-1)).toNat]?=some [I x]:=by
         rw [W_eq (by omega) (by omega),show ((nn:Int)-1).toNat=nn-1 by omega];refine ⟨L[nn-1]'(by omega),?_,?_⟩
         ·rw [Mx,show L.length-1=nn-1 by omega]; exact Qe _
         ·unfold nl1; rw [Rq,Qe (by omega)]; rfl
        have hxs:=Zcw L kk;rw [hx] at hxs
        by_cases hxk:x=(kk:Int)
        ·rw [hxk,if_pos rfl,Tx] at hxs
         subst hxk;refine bs.av (sx:=put1) hk0 ?_
         repeat'(first|refine wk3 ?_|(refine wk2 ?_ ?_<;>intro _)|fail)
         exact Ql ⟨(kk+1,_,((k4+1),len3,(lsX M++[[Ma 1 (nl1 Lx)]])),none),[(150,150)],by cases kO<;>rfl,by cases kO<;>exact kps,by cases kO<;>exact kps,⟨Zg (by omega),hkm,by rw [hxs]; exact ⟨hls.k,hls.len,hls.els⟩⟩,by dsimp only; omega⟩
        ·rw [if_neg (by simpa using hxk)] at hxs
         refine bs.av (sx:=put1) hk0 ?_
         repeat'(first|refine wk3 ?_|(refine wk2 ?_ ?_<;>intro _)|fail)
         have hren:(lsX M++[[Ma 1 (nl1 Lx)]])++[[Wn 154 0 ((nl L).length+1)]]=Xg (fOf [(150,156),(151,154)]) ((lsX M++[[Ma 1 (nl1 Lx)]])++[[Wn 151 0 ((nl L).length+1)]]):=by rw [hls.els,Vm,Zbh]; rfl
         have hids:Uv 152 ((lsX M++[[Ma 1 (nl1 Lx)]])++[[Wn 151 0 ((nl L).length+1)]])=true:=by rw [hls.els,Zbn,Zha]; rfl
         have hkx:k4+1+1=((((bfsL (nsN h) nn).take j).flatMap (extL (nsN h)))++extK L (kk+1)).length:=by
          have:=hls.k;rw [hxs]; simp only [Rr,Nz] at this ⊢; omega
         have hlx:(lsX M++[[Ma 1 (nl1 Lx)]]).length+1=((lsX M++[[Ma 1 (nl1 Lx)]])++[[Wn 151 0 ((nl L).length+1)]]).length:=by simp
         have helx:(lsX M++[[Ma 1 (nl1 Lx)]])++[[Wn 151 0 ((nl L).length+1)]]=lsX ((((bfsL (nsN h) nn).take j).flatMap (extL (nsN h)))++extK L kk)++[[Wn 151 0 ((nl L).length+1)]]:=by rw [hls.els]
         exact Ql ⟨(kk+1,_,(k4+1+1,(lsX M++[[Ma 1 (nl1 Lx)]]).length+1,(lsX M++[[Ma 1 (nl1 Lx)]])++[[Wn 151 0 ((nl L).length+1)]]),some (((nl L).length+1),nl L++[[I (kk:Int)]])),[(150,156),(151,154)],by cases kO<;>rfl,by cases kO<;>exact kps,⟨⟨rfl,rfl,rfl⟩,⟨rfl,rfl,⟨_,rfl,hren,hids⟩⟩,by cases kO<;>exact kps⟩,⟨Zg (by omega),hkm,⟨hkx,hlx,((((bfsL (nsN h) nn).take j).flatMap (extL (nsN h)))++extK L kk),L++[(kk:Int)],by rw [hxs,<-Rs],helx,by simp,by simp [nl,nl1]⟩⟩,by dsimp only; omega⟩
   ·have hje:j=(bfsL (nsN h) nn).length:=by omega
    subst hje;rw [Pf] at hO2 hL
    cases kL with
    | zero =>
     refine bs.av (sx:=put1) hk0 ?_
     repeat'(first|refine wk3 ?_|(refine wk2 ?_ ?_<;>intro _)|fail)
     exact Ql ⟨(nn+1,_,(kO2,lenO2,elO2),(0,lenL,elL)),[(50,100),(51,101)],by cases kO2<;>rfl,by cases kO2<;>exact kps,by cases kO2<;>exact kps,⟨Zg (by omega),by omega,by rw [Zu7,hds]; exact hO2,fun h2=>hLd h2 hL⟩,by dsimp only; omega⟩
    | succ l0 =>
     refine bs.av (sx:=put1) hk0 ?_
     repeat'(first|refine wk3 ?_|(refine wk2 ?_ ?_<;>intro _)|fail)
     exact Ql ⟨(nn+1,_,(kO2,lenO2,elO2),(l0+1,lenL,elL)),[(50,100),(51,101)],by cases kO2<;>rfl,by cases kO2<;>exact kps,by cases kO2<;>exact kps,⟨Zg (by omega),by omega,by rw [Zu7,hds]; exact hO2,fun h2=>hLd h2 hL⟩,by dsimp only; omega⟩
 ·obtain rfl:nn=o+1:=by omega
  generalize (((Si (o+1)).flatMap (bfsL (nsN h))).filterMap f).foldl putL []=ds at *
  obtain ⟨o1,o2,o3⟩:=hO
  cases kO with
  | zero =>
   obtain rfl:ds=[]:=Rt.1 o1.symm;rw [if_pos rfl]
   cases kB with
   | zero =>
    refine bs.av (sx:=put1) hk0 ?_
    repeat'(first|refine wk3 ?_|(refine wk2 ?_ ?_<;>intro _)|fail)
    exact Ze rfl rfl
   | succ b =>
    refine bs.av (sx:=put1) hk0 ?_
    repeat'(first|refine wk3 ?_|(refine wk2 ?_ ?_<;>intro _)|fail)
    exact Ze rfl rfl
  | succ q0 =>
   rw [if_neg (by intro h0; rw [h0] at o1; cases o1)];rw [o3,Ra] at o2;subst o2 o3
   cases kB with
   | zero =>
    refine bs.av (sx:=put1) hk0 ?_
    repeat'(first|refine wk3 ?_|(refine wk2 ?_ ?_<;>intro _)|fail)
    exact Yg [50] rfl rfl rfl
   | succ b =>
    refine bs.av (sx:=put1) hk0 ?_
    repeat'(first|refine wk3 ?_|(refine wk2 ?_ ?_<;>intro _)|fail)
    exact Yg [50] rfl rfl rfl
open Go Go.Sx Go.En
noncomputable abbrev ecO (h:Hal) (s:Stg) (b r v:Int) (p:Pth):Ech:=⟨p.ss,(delV p.sq v).1,(delV p.sq v).2,(enV h s p b r).1,(enV h s p b r).2⟩
theorem Yjw {h:Hal} {s:Stg} {b r v:Int} (L:List Pth):L.map (ecC h s b r v)=(L.map (ecO h s b r v)).map ev:=by rw [List.map_map]; rfl
noncomputable abbrev rD2 (v:Int):List AV->Option PRes:=famA (fun q:Int=>1<=q/\q<=24300000000) (fun q=>[I q,I v]) (fun q=>⟨P2 (delV q v).1 (delV q v).2,[]⟩)
theorem Yh5 {v:Int} (hv:spE v=0) {pt:PC} (hp:PCOK Tryz.prog pt):PCOK Tryz.prog (ins 46 (rD2 v) pt):=Zo (fun q hq=>d45 hq.1 hq.2 hv) hp
theorem Yfo {q v:Int} (h:1<=q/\q<=24300000000):rD2 v [I q,I v]=some ⟨P2 (delV q v).1 (delV q v).2,[]⟩ :=
 Zm (p:=fun q:Int=>1<=q/\q<=24300000000) (g:=fun q=>[I q,I v]) (r:=fun q=>⟨P2 (delV q v).1 (delV q v).2,[]⟩) (k:=q) (fun j hj=>by
  simp only [Qs,Sr,and_true,true_and] at hj
  rw [hj]) h
theorem Yh2 {h:Hal} {s:Stg} {b r v:Int} (g:Sit h s) (z:serr h s=0) (hair:airE b r v=0) {pt:PC} (hp:PCOK Tryz.prog pt):PCOK Tryz.prog (ins 47 (rEn2 h s b r v) pt):=Zo (fun p hq=>d25 g z hq.1 hq.2 hair) hp
theorem e13 {h:Hal} (hk:h.ok) {s:Stg} (hs:s.few) (a:Ask) (he:askE h s a=0) (hn:a.n<3) {b r v:Int} (hair:airE b r v=0) :
  PCall Tryz.prog 13 [h.av,s.av,a.av,P3 b r v] ⟨.tup [.isl 5 ((refL (Yt h s (qF a) (qT a)) (nsN h) a.n.toNat).map (ecC h s b r v)),I 0],[]⟩:=by
 have A:=Yj he
 have e0:=A.e0
 have g:=Zed hk hs e0
 have hN:=Zpl hk e0
 have c45:=d57 hk hs a he hn
 have hfa:=fun p hp=>Zgy hk hs he hn (p:=p) hp
 have hrl:=Znr (Yt h s (qF a) (qT a)) hN (show a.n.toNat<=2 by have:=A.n; omega)
 have hv:spE v=0:=by
  have:=(Zlr hair).2.2
  unfold spE unl
  rw [within_iff.2 this]; rfl
 have hkA:PCOK Tryz.prog (ins 45 _ (ins 39 cints (ins 46 (rD2 v) (ins 47 (rEn2 h s b r v) pt0)))):=Zd c45 (Zo (fun ns h=>c25f ns h) (Yh5 hv (Yh2 g e0 hair Zc)))
 generalize refL (Yt h s (qF a) (qT a)) (nsN h) a.n.toNat=L at *
 have hfa2:∀ p∈L,p.ss.length<=2/\pthE p=0/\suE h p.ss=0:=fun p hp=>by
  obtain ⟨f1,f2,f3,f4,f5⟩:=hfa p hp
  refine ⟨f3,?_,f2⟩
  unfold cpE at f5
  split at f5
  ·assumption
  ·exact f5
 clear hfa c45 A
 obtain ⟨fx,fy,fz,tx,ty,tz,n⟩:=a
 refine Mt (res:=if L=[] then ⟨.tup [.nils,I 0],[]⟩ else ⟨.tup [.asl 0 0 L.length,I 0],[(5,L.map (ecC h s b r v))]⟩) ?_ ?_
 rotate_left
 ·split<;>rename_i hre
  ·rw [hre]; exact frE5
  ·exact ⟨⟨rfl,rfl,by simp⟩,⟨rfl,rfl⟩,trivial⟩
 have hlm:(L.map gcP).length=L.length:=Ra _
 refine bs.pv (sx:=nos) hkA Tryz.func13 (by kernel_rfl) (by kernel_rfl) (by split<;>rfl) ?_
 repeat'(first|refine wk3 ?_|(refine wk2 ?_ ?_<;>intro _)|fail)
 refine Zkz (S:=Nat × Int × Nat × Nat × List (List AV)) (fun t=>L.length-t.1)
  (fun t=>[(4,.ptr 0 0 0),(5,.ptr 1 0 0),(6,.ptr 2 0 0),(7,.ptr 3 0 0),(10,.isl 3 (L.map gcP)),(11,gv 20 t.2.2.1 t.2.2.2.1),(12,I t.2.1)])
  (fun t=>(3,.row 3 [[I b,I r,I v]] true false)::(2,.row 7 [[I fx,I fy,I fz,I tx,I ty,I tz,I n]] true false)::(1,.row 2 [s.cells] true false)::(0,.row 9 [h.cells] true false)::gz 20 5 t.2.2.1 t.2.2.2.2 []) 20 21
  (fun t=>t.2.1=t.1/\t.1<=L.length/\OutE h s b r v (L.take t.1) t.2.2.1 t.2.2.2.1 t.2.2.2.2)
  (0,0,0,0,[]) ⟨rfl,Qn _,⟨rfl,rfl,rfl⟩⟩ (Qm rfl) [] rfl (kps) (kps) ?_
 rintro ⟨i,ii,m,len,els⟩ ⟨hii,hin,hO⟩
 dsimp only at hii hin hO ⊢
 subst hii
 have hmb:els.length<=400:=by
  rw [hO.els,Ra,Pi]
  omega
 have hlen:=hO.len
 by_cases hlt:i<L.length
 rotate_left
 ·obtain rfl:i=L.length:=by omega
  rw [Pf] at hO
  obtain ⟨o1,o2,o3⟩:=hO
  cases m with
  | zero =>
   have hz:L=[]:=Rt.1 o1.symm;rw [if_pos hz];refine bs.av (sx:=nos) hkA ?_
   repeat'(first|refine wk3 ?_|(refine wk2 ?_ ?_<;>intro _)|fail)
   exact Ze rfl rfl
  | succ m0 =>
   rw [if_neg (by intro hz; rw [hz] at o1; cases o1)];rw [o3,Ra] at o2;subst o2 o3;refine bs.av (sx:=nos) hkA ?_
   repeat'(first|refine wk3 ?_|(refine wk2 ?_ ?_<;>intro _)|fail)
   exact Yg [20] rfl rfl rfl
 have hmem:=Qr hlt
 have e1:=Yeh hlt
 obtain ⟨u0,u1,u2⟩:=hfa2 _ hmem
 obtain ⟨_,u3,u4⟩:=Ul u1
 have hst:L.take (i+1)=L.take i++[L[i]]:=Qw hlt
 have c1:=Yfo (v:=v) ⟨u3,u4⟩
 have c2:=Zhq (ns:=L[i].ss) (by omega)
 have c3:=Ybx (s:=s) (b:=b) (r:=r) (v:=v) u1 u2
 have hO2:OutE h s b r v (L.take (i+1)) (m+1) (els.length+1) (els++[ecC h s b r v L[i]]):=by
  rw [hst]
  exact ⟨by rw [Rr,<-hO.m]; rfl,by simp,by rw [Wz,<-hO.els]; rfl⟩
 have hz0:m=0->els=[]:=fun hz=>by
  have:=hO.els
  rw [Rt.1 (hO.m.symm.trans hz)] at this
  exact this
 clear hO hst hfa2 hmem
 unfold ecC at hO2
 generalize enV h s L[i] b r=EN at *
 generalize delV L[i].sq v=DL at *
 generalize L[i]=p at *
 obtain ⟨ps,pp,pq⟩:=p
 obtain ⟨en1,en2⟩:=EN
 obtain ⟨dl1,dl2⟩:=DL
 dsimp only at *
 cases m with
 | zero =>
  obtain rfl:=hz0 rfl
  refine bs.av (sx:=nos) hkA ?_
  repeat'(first|refine wk3 ?_|(refine wk2 ?_ ?_<;>intro _)|fail)
  exact Ql ⟨(i+1,_,1,1,_),[(20,46)],rfl,kps,kps,⟨Zg (by omega),hlt,hO2⟩,by dsimp only; omega⟩
 | succ m0 =>
  refine bs.av (sx:=nos) hkA ?_
  repeat'(first|refine wk3 ?_|(refine wk2 ?_ ?_<;>intro _)|fail)
  refine Zlp (ys:=[[.isl 1 (nl ps),I dl1,I dl2,I en1,I en2]]) rfl rfl rfl rfl rfl rfl rfl rfl rfl rfl (by simp) hlen (by simp only [Ru,Wp]; omega) ?_
  repeat'(first|refine wk3 ?_|(refine wk2 ?_ ?_<;>intro _)|fail)
  exact Ql ⟨(i+1,_,m0+1+1,els.length+1,_),[(20,46)],rfl,kps,kps,⟨Zg (by omega),hlt,hO2⟩,by dsimp only; omega⟩
theorem Yck {a b:Int} (h0:0<=a) (h:a<=b):isq a<=isq b:=by
 obtain ⟨a0,a1,_⟩:=Ze8 h0
 obtain ⟨b0,_,b2⟩:=Ze8 (show 0<=b by omega)
 rcases Int.lt_or_le (isq b) (isq a) with q|q
 ·have:(isq b+1)*(isq b+1)<=isq a*isq a:=Ol (by omega) (by omega) (by omega) (by omega)
  omega
 ·exact q
theorem Zz0 {a b v:Int} (h0:0<=a) (h:a<=b) (hv:0<v):(delV a v).1<=(delV b v).1:=by
 unfold delV scV lenV
 dsimp only
 have:=Yck (a:=a*100000000) (b:=b*100000000) (by omega) (by omega)
 exact Int.ediv_le_ediv hv (by omega)
theorem Yed {a:Int} (ha:0<=a/\a<=1000000):∀ (n:Nat) {x:Int},0<=x->x<=1000000000000->itN (fun x=>(x*(1000000-a)+1000000-1) / 1000000) n x<=1000000000000
 | 0,_,_,h=>h
 | n+1,x,h0,h=>by
  have m1:0<=x*(1000000-a):=Int.mul_nonneg h0 (by omega)
  have m2:x*(1000000-a)<=1000000000000*1000000:=Ol h (by omega) (by omega) (by omega)
  exact Yed ha n (show 0<=(x*(1000000-a)+1000000-1) / 1000000 by omega) (show (x*(1000000-a)+1000000-1) / 1000000<=1000000000000 by omega)
theorem Yeq {h:Hal} {s:Stg} (g:Sit h s) {b:Int}:∀ {l:List Int} {e:Int × Int},(∀ n∈l,SK h n)->EB e->EB (enL h s b l e)
 | [],_,_,he=>he
 | n::l,e,hl,he=>by
  rw [enL]
  exact Yeq g (fun m hm=>hl m (Py _ hm)) (Zyd g (b:=b) (hl n Jx) he)
theorem Yju {h:Hal} {s:Stg} (g:Sit h s) {p:Pth} {a b:Int} (hp:pthE p=0) (hl:∀ n∈p.ss,SK h n) (ha:0<=a/\a<=100000) :
  0<=(enV h s p b a).1/\(enV h s p b a).1<=(enV h s p b a).2/\(enV h s p b a).2<=1000000000000:=by
 have hm:=(Ycz g (a:=a) (b:=b) hp hl ha).1.1
 obtain ⟨_,h0,h1⟩:=Ul hp
 have E:=Yeq g (b:=b) hl (Zuw h0 h1)
 refine ⟨?_,hm,?_⟩
 ·unfold enV enZ
  exact (En.it_dn (q:=1000000-a) (by omega) (fun n x=>itN (fun x=>x*(1000000-a) / 1000000) n x) (fun _=>rfl) (fun _ _=>rfl) _ E.a.1).2
 ·unfold enV enZ
  exact Yed ⟨ha.1,by omega⟩ _ E.b.1 E.b.2
theorem Ydv {lo hi most:Int} (h:0<=lo/\lo<=hi/\hi<=most):En.rgEc lo hi most=0:=by
 unfold En.rgEc
 rw [if_pos ⟨⟨by omega,by omega⟩,by omega,by omega⟩,if_neg (by omega)]
theorem Zzv:∀ {l:List Ech} {i:Nat} {q:Option Int},(∀ x∈l,(0<=x.dl/\x.dl<=x.dh/\x.dh<=10000000)/\0<=x.el/\x.el<=x.eh/\x.eh<=1000000000000) ->
  (∀ y∈q,∀ x∈l,y<=x.dl)->l.Pairwise (fun a b=>a.dl<=b.dl)->ecGo i q l=(0,0)
 | [],_,_,_,_,_=>rfl
 | x::l,i,q,h1,h2,h3=>by
  have e:ecE q x=0:=by
   obtain ⟨g1,g2⟩:=h1 x Jx;unfold ecE;rw [if_pos (Ydv g1),if_pos (Ydv g2)]
   cases q with
   | none=>rfl
   | some y =>
    have:=h2 y rfl x Jx;exact if_neg (by omega)
  rw [ecGo,if_pos e]
  rw [List.pairwise_cons] at h3
  exact Zzv (fun y hy=>h1 y (Py _ hy)) (fun y hy z hz=>by cases hy; exact h3.1 z hz) h3.2
theorem Yjv {h:Hal} (hk:h.ok) {s:Stg} (hs:s.few) {a:Ask} (he:askE h s a=0) (hn:a.n<3) {b r v:Int} (hair:airE b r v=0) :
  ecV ((refL (Yt h s (qF a) (qT a)) (nsN h) a.n.toNat).map (ecO h s b r v))=(0,0):=by
 have A:=Yj he
 have e0:=A.e0
 have g:=Zed hk hs e0
 have hN:=Zpl hk e0
 have hfa:=fun p hp=>Zgy hk hs he hn (p:=p) hp
 have hrl:=Znr (Yt h s (qF a) (qT a)) hN (show a.n.toNat<=2 by have:=A.n; omega)
 have hsrt:=Zkh (Yt h s (qF a) (qT a)) (nsN h) a.n.toNat
 obtain ⟨_,ha,hv1,hv2⟩:=Zlr hair
 have hv:spE v=0:=by
  unfold spE unl
  rw [within_iff.2 ⟨hv1,hv2⟩]; rfl
 generalize refL (Yt h s (qF a) (qT a)) (nsN h) a.n.toNat=L at *
 have hfa2:∀ p∈L,pthE p=0/\∀ n∈p.ss,SK h n:=fun p hp=>by
  obtain ⟨f1,f2,f3,f4,f5⟩:=hfa p hp
  refine ⟨?_,fun n hn=>?_⟩
  ·unfold cpE at f5
   split at f5
   ·assumption
   ·exact f5
  ·have:=(Zjk f2).2 n hn
   exact Zjd this.1 (by omega)
 unfold ecV
 rw [if_neg (by rw [Ra]; omega)]
 refine Zzv (fun x hx=>?_) (fun y hy=>by cases hy) ?_
 ·obtain ⟨p,hp,rfl⟩:=Wd.1 hx
  obtain ⟨h1,h2⟩:=hfa2 p hp
  obtain ⟨_,s0,s1⟩:=Ul h1
  have d:=Yg8 s0 s1 hv
  exact ⟨⟨d.1,d.2.1,by show (delV p.sq v).2<=10000000; omega⟩,Yju g h1 h2 ha⟩
 ·rw [List.pairwise_map]
  refine hsrt.imp_of_mem fun {p q} hp hq o=>?_
  obtain ⟨_,s0,_⟩:=Ul (hfa2 p hp).1
  exact Zz0 (by omega) (Yfx o) (by omega)
noncomputable abbrev rI2:List AV->Option PRes:=famA (fun q:List Int=>q.length<1000000) (fun q=>[.isl 1 (nl q),.isl 1 (nl q)]) (fun q=>⟨Bo true,[]⟩)
theorem Ycx (l:List Int):eqN l l=true:=eqN_iff.2 rfl
theorem Yh1 {pt:PC} (hp:PCOK Tryz.prog pt):PCOK Tryz.prog (ins 21 rI2 pt):=Zo (fun q hq=>by have:=c69 hq hq; rwa [Ycx] at this) hp
theorem Yfk {q:List Int} (h:q.length<1000000):rI2 [.isl 1 (nl q),.isl 1 (nl q)]=some ⟨Bo true,[]⟩ :=
 Zm (p:=fun q:List Int=>q.length<1000000) (g:=fun q=>[.isl 1 (nl q),.isl 1 (nl q)]) (r:=fun _=>⟨Bo true,[]⟩) (k:=q) (fun j hj=>rfl) h
theorem e14 {l:List Ech} (hl:l.length<100000) (hsu:∀ x∈l,x.su.length<100000):PCall Tryz.prog 14 [.isl 5 (l.map ev),.isl 5 (l.map ev)] ⟨Bo true,[]⟩:=by
 have l1:=Zqu l
 have hk:PCOK Tryz.prog (ins 21 rI2 pt0):=Yh1 Zc
 refine pn hk Tryz.func14 ?_
 repeat'(first|refine wk3 ?_|(refine wk2 ?_ ?_<;>intro _)|fail)
 refine Zr (S:=Nat × Int) (fun t=>l.length-t.1) (fun t=>[(0,.isl 5 (l.map ev)),(1,.isl 5 (l.map ev)),(5,I t.2)]) (fun _=>[]) 100 100
  (fun t=>t.2=t.1/\t.1<=l.length) (0,0) ⟨rfl,Qn _⟩ (Qm rfl) [] rfl (kps) (kps) ?_
 rintro ⟨k,i⟩ ⟨hi,hk1⟩
 dsimp only at hi hk1 ⊢
 subst hi
 refine bs.av (sx:=nos) hk ?_
 by_cases hlt:k<l.length
 ·have e1:=Zzl hlt
  have c1:=Yfk (q:=l[k].su) (by have:=hsu _ (Qr hlt); omega)
  generalize l[k]=x at *
  obtain ⟨su,a,b,c,d⟩:=x
  dsimp only at *
  repeat'(first|refine wk3 ?_|(refine wk2 ?_ ?_<;>intro _)|fail)
  all_goals first
   | exact Ql ⟨(k+1,_),[],rfl,kps,kps,⟨Zg (by omega),hlt⟩,by dsimp only; omega⟩
   | (exfalso; simp_all; done)
 ·obtain rfl:k=l.length:=by omega
  repeat'(first|refine wk3 ?_|(refine wk2 ?_ ?_<;>intro _)|fail)
  all_goals first
   | exact Zb rfl
   | (exfalso; simp_all; done)
open Go Go.Sx
theorem d17 (h:Hal) (s:Stg):PCall Tryz.prog 7 [.agg (stgL h s)] ⟨Bo (few3 h s),[]⟩:=by
 have l1:=Zk s.hs
 have l2:=Zk s.dr
 have hk:=Zd (d80 h) Zc
 unfold few3
 generalize few2 h=b at *
 by_cases c1:s.hs.length<=4<;>by_cases c2:s.dr.length<=10<;>cases b
 all_goals
  refine pn hk Tryz.func7 ?_
  repeat'(first|refine wk3 ?_|(refine wk2 ?_ ?_<;>intro _)|fail)
 all_goals first
  | exact Zb rfl
  | (refine Zb ?_; simp_all; done)
  | (refine Zb ?_; simp_all; omega)
  | (exfalso; simp_all; omega)
open Go Go.Sx Go.En
theorem e14n:PCall Tryz.prog 14 [.nils,.nils] ⟨Bo true,[]⟩ :=
 Dc (e14 (l:=[]) (by simp) (by simp)) ⟨.inl (.inr ⟨rfl,5,rfl⟩),.inl (.inr ⟨rfl,5,rfl⟩),trivial⟩
theorem d51n:PCall Tryz.prog 15 [.nils] ⟨.tup [I 0,I 0],[]⟩ :=
 Dc (d51 (l:=[]) (by simp)) ⟨.inl (.inr ⟨rfl,5,rfl⟩),trivial⟩
theorem e8e {h:Hal} (hk:h.ok) {s:Stg} (hs:s.few) (a:Ask) {b r v:Int} (he:askE h s a≠0) :
  PCall Tryz.prog 8 [h.av,s.av,a.av,P3 b r v] ⟨.tup [.nils,I (askE h s a)],[]⟩:=by
 have c33:=d24 hk hs a
 generalize askE h s a=E at *
 have hkA:=Zd c33 Zc
 obtain ⟨fx,fy,fz,tx,ty,tz,n⟩:=a
 refine bs.pv (sx:=sxK) hkA Tryz.func8 (by kernel_rfl) (by kernel_rfl) rfl ?_
 repeat'(first|refine wk3 ?_|(refine wk2 ?_ ?_<;>intro _)|fail)
 refine bs.sv (sx:=sxK) hkA Tryz.func31 (by kernel_rfl) (by kernel_rfl) ?_
 repeat'(first|refine wk3 ?_|(refine wk2 ?_ ?_<;>intro _)|fail)
 refine Su 3 ?_
 refine Qx (bs.av (sx:=sxK) hkA ?_)
 repeat'(first|refine wk3 ?_|(refine wk2 ?_ ?_<;>intro _)|fail)
 refine bs.sv (sx:=sxK) hkA Tryz.func32 (by kernel_rfl) (by kernel_rfl) ?_
 repeat'(first|refine wk3 ?_|(refine wk2 ?_ ?_<;>intro _)|fail)
 all_goals first
  | exact Ze rfl rfl
  | (exfalso; simp_all; done)
theorem e8a {h:Hal} (hk:h.ok) {s:Stg} (hs:s.few) (a:Ask) {b r v:Int} (he:askE h s a=0) (hair:airE b r v≠0) :
  PCall Tryz.prog 8 [h.av,s.av,a.av,P3 b r v] ⟨.tup [.nils,I (airE b r v)],[]⟩:=by
 have c33:=d24 hk hs a
 rw [he] at c33
 have c34:=d88 b r v
 generalize airE b r v=E at *
 have hkA:=Zd c33 (Zd c34 Zc)
 obtain ⟨fx,fy,fz,tx,ty,tz,n⟩:=a
 refine bs.pv (sx:=sxK) hkA Tryz.func8 (by kernel_rfl) (by kernel_rfl) rfl ?_
 repeat'(first|refine wk3 ?_|(refine wk2 ?_ ?_<;>intro _)|fail)
 refine bs.sv (sx:=sxK) hkA Tryz.func31 (by kernel_rfl) (by kernel_rfl) ?_
 repeat'(first|refine wk3 ?_|(refine wk2 ?_ ?_<;>intro _)|fail)
 refine Su 3 ?_
 refine Qx (bs.av (sx:=sxK) hkA ?_)
 repeat'(first|refine wk3 ?_|(refine wk2 ?_ ?_<;>intro _)|fail)
 refine bs.sv (sx:=sxK) hkA Tryz.func32 (by kernel_rfl) (by kernel_rfl) ?_
 repeat'(first|refine wk3 ?_|(refine wk2 ?_ ?_<;>intro _)|fail)
 refine Qx (bs.av (sx:=sxK) hkA ?_)
 repeat'(first|refine wk3 ?_|(refine wk2 ?_ ?_<;>intro _)|fail)
 all_goals first
  | exact Ze rfl rfl
  | (exfalso; simp_all; done)
theorem e3 (h:Hal) (s:Stg) (a:Ask) (b r v:Int):PCall Tryz.prog 3 [.agg (stgL h s),a.av,P3 b r v] ⟨Bo true,[]⟩:=by
 have aw:=Ydm
 by_cases hb:few3 h s=true
 rotate_left
 ·have hb:few3 h s=false:=by simpa using hb
  have hk0:=Zd (d17 h s) (Zd aw Zc)
  rw [hb] at hk0
  obtain ⟨fx,fy,fz,tx,ty,tz,n⟩:=a
  refine pn hk0 Tryz.func3 ?_
  repeat'(first|refine wk3 ?_|(refine wk2 ?_ ?_<;>intro _)|fail)
  all_goals exact Zb rfl
 obtain ⟨hk,hs⟩:=Ygz hb
 by_cases hn:2<a.n/\a.n<=4
 ·have hk0:=Zd (d17 h s) (Zd aw Zc)
  rw [hb] at hk0
  obtain ⟨fx,fy,fz,tx,ty,tz,n⟩:=a
  dsimp only at hn
  obtain ⟨n1,n2⟩:=hn
  refine pn hk0 Tryz.func3 ?_
  repeat'(first|refine wk3 ?_|(refine wk2 ?_ ?_<;>intro _)|fail)
  all_goals first
   | exact Zb rfl
   | (exfalso; simp_all; done)
   | (exfalso; simp_all; omega)
 have h18:=d18 hk hs a
 by_cases e:askE h s a=0
 rotate_left
 ·have h8:=e8e hk hs a (b:=b) (r:=r) (v:=v) e
  obtain ⟨fx,fy,fz,tx,ty,tz,n⟩:=a
  generalize askE h s ⟨fx,fy,fz,tx,ty,tz,n⟩=E at *
  dsimp only at hn
  have hk0:=Zd (d17 h s) (Zd aw (Zd h18 (Zd h8 (Zd e14n (Zd d51n (Zd (c22f hk.f) (Zd (c29 hs) Zc)))))))
  rw [hb] at hk0
  refine pn hk0 Tryz.func3 ?_
  clear hk0 h18 h8 aw
  repeat'(first|refine wk3 ?_|(refine wk2 ?_ ?_<;>intro _)|fail)
  all_goals first
   | exact Zb rfl
   | (exfalso; simp_all; done)
   | (exfalso; simp_all; omega)
   | (refine Zb ?_; simp_all; done)
 rw [e] at h18
 have h12:=Ykq b r v
 by_cases hair:airE b r v=0
 rotate_left
 ·have h8:=e8a hk hs a e hair
  obtain ⟨fx,fy,fz,tx,ty,tz,n⟩:=a
  generalize airE b r v=E at *
  dsimp only at hn
  have hk0:=Zd (d17 h s) (Zd aw (Zd h18 (Zd h12 (Zd h8 (Zd e14n (Zd d51n (Zd (c22f hk.f) (Zd (c29 hs) Zc))))))))
  rw [hb] at hk0
  refine pn hk0 Tryz.func3 ?_
  clear hk0 h18 h12 h8 aw
  repeat'(first|refine wk3 ?_|(refine wk2 ?_ ?_<;>intro _)|fail)
  all_goals first
   | exact Zb rfl
   | (exfalso; simp_all; done)
   | (exfalso; simp_all; omega)
   | (refine Zb ?_; simp_all; done)
 rw [hair] at h12
 have A:=Yj e
 have hn3:a.n<3:=by
  have:=A.n
  omega
 have hN:=Zpl hk A.e0
 have h8:=e8 hk hs a e hn3 hair
 have h13:=e13 hk hs a e hn3 hair
 have hec:=Yjv hk hs e hn3 hair
 have hrl:=Znr (Yt h s (qF a) (qT a)) hN (show a.n.toNat<=2 by have:=A.n; omega)
 have hss:∀ x∈(refL (Yt h s (qF a) (qT a)) (nsN h) a.n.toNat).map (ecO h s b r v),x.su.length<100000:=fun x hx=>by
  obtain ⟨p,hp,rfl⟩:=Wd.1 hx
  have:=(Zgy hk hs e hn3 hp).2.2.1
  show p.ss.length<100000
  omega
 generalize refL (Yt h s (qF a) (qT a)) (nsN h) a.n.toNat=L at *
 rw [Yjw] at h8 h13
 have hlm:(L.map (ecO h s b r v)).length<100000:=by rw [Ra]; omega
 generalize L.map (ecO h s b r v)=M at *
 have h14:=e14 hlm hss
 have h15:=d51 hlm
 rw [hec] at h15
 dsimp only at h15
 generalize M.map ev=R at *
 have hk0:=Zd (d17 h s) (Zd aw (Zd h18 (Zd h12 (Zd h8 (Zd h13 (Zd h14 (Zd h15 (Zd (c22f hk.f) (Zd (c29 hs) Zc)))))))))
 rw [hb] at hk0
 obtain ⟨fx,fy,fz,tx,ty,tz,n⟩:=a
 dsimp only at hn hn3
 refine pn hk0 Tryz.func3 ?_
 clear h18 h12 h8 h13 h14 h15 aw e A hss hec
 repeat'(first|refine wk3 ?_|(refine wk2 ?_ ?_<;>intro _)|fail)
 all_goals first
  | exact Zb rfl
  | (exfalso; simp_all; done)
  | (exfalso; simp_all; omega)
end Go.Proofs.YtfkdpbklbegnlaaGreat
