/- A part of the proof: lemmas. -/
import Derived.Test.YtkmjliccopgocaaGreatZ11
import Derived.Test.YtkmjliccopgocaaGreatZ10
import Derived.Test.YtkmjliccopgocaaGreatZ7
import Derived.Test.YtkmjliccopgocaaGreatZ8
import Derived.Test.YtkmjliccopgocaaGreatZ6
set_option linter.unusedVariables false
set_option linter.unusedSimpArgs false
set_option maxRecDepth 100000
set_option maxHeartbeats 16000000
open Bool renaming and_assoc->We,and_eq_true->Qc,not_eq_true'->Sf,true_and->Td
open Go.En renaming hiSh->Jg,hitG->Oh,hitG_congr->Fl,hitsC->Di,hitsV->Dj,loSh->Dd
open Go.IntKind renaming i64->Qb,wrap->Qa
open Go.Sx.Done renaming mk->Qr
open Go.Sx.Got renaming intro->Wq
open Go.Sx.LpM renaming start->Tx,succ->Rn
open Go.Sx.NA renaming rfl->Dc
open Go.Sx.PCall renaming freezeK->Jl
open IO renaming println->Pp
open Int renaming le_refl->Ob,mul_add->Oz,mul_assoc->Wd,mul_le_mul_of_nonneg_left->Rm,mul_le_mul_of_nonneg_right->Ta,mul_nonneg->Rb,mul_one->Rw,mul_pos->Nv,tdiv_eq_ediv_of_nonneg->Ro,toNat_natCast->Sk,zero_add->Sz
open List renaming all_cons->Wo,all_eq_true->Qs,append_assoc->Sn,append_nil->Su,drop_eq_getElem_cons->Qg,drop_length->Ga,drop_of_length_le->Qj,drop_zero->Sq,getElem?_eq_getElem->Qi,length_append->Tw,length_cons->Ra,length_map->Sv,length_replicate->Tc,length_take->Lx,mem_cons_of_mem->Tm,mem_cons_self->Ow,mem_map->Wa,replicate->Qw,set_append_right->Kp,set_cons_zero->Ha,take_of_length_le->Rr
open Nat renaming le_of_lt->Hf,le_refl->Qd,sub_self->Mp,zero_add->Sg,zero_le->Qk
namespace Go.Proofs.YtkmjliccopgocaaGreat
open Go Go.Sx
theorem Ybh {h:Hal} (g:h.fine) {j:Nat} (hj:j<h.ks.length):CanOk h.ks[j]:=by
 have:=g.can j hj
 unfold Zds at this
 split at this
 ·split at this
  ·cases this
  ·split at this
   ·cases this
   ·split at this
    ·cases this
    ·split at this
     ·cases this
     ·split at this
      ·split at this
       ·split at this
        ·rename_i hp
         split at this
         ·cases this
         ·rename_i hd
          simp only [Qc] at hp
          simp only [Bool.or_eq_true,decide_eq_true_eq,not_or] at hd
          exact ⟨within_iff.1 hp.1.1.1,within_iff.1 hp.1.1.2,within_iff.1 hp.1.2,within_iff.1 hp.2,hd.1,hd.2⟩
        ·cases this
       ·rename_i hx; exact absurd this hx
      ·cases this
 ·cases this
theorem Zwq {a B:Int} (h0 : -B<=a) (h1:a<=B):0<=a*a/\a*a<=B*B:=by
 rcases Int.le_total 0 a with h|h
 ·exact ⟨Rb h h,Zi2 h h1⟩
 ·have e:a*a = -a * -a:=by rw [Int.neg_mul_neg]
  rw [e]
  exact ⟨Rb (by omega) (by omega),Zi2 (by omega) (by omega)⟩
theorem Zbb {a b A B:Int} (h0 : -A<=a) (h1:a<=A) (g0 : -B<=b) (g1:b<=B) : -(A*B)<=a*b/\a*b<=A*B:=by
 have hA:0<=A:=by omega
 have hB:0<=B:=by omega
 have k1:0<=(A-a)*(B+b):=Rb (by omega) (by omega)
 have k2:0<=(A+a)*(B-b):=Rb (by omega) (by omega)
 have k3:0<=(A-a)*(B-b):=Rb (by omega) (by omega)
 have k4:0<=(A+a)*(B+b):=Rb (by omega) (by omega)
 have e1:(A-a)*(B+b)=A*B+A*b-a*B-a*b:=by grind
 have e2:(A+a)*(B-b)=A*B-A*b+a*B-a*b:=by grind
 have e3:(A-a)*(B-b)=A*B-A*b-a*B+a*b:=by grind
 have e4:(A+a)*(B+b)=A*B+A*b+a*B+a*b:=by grind
 omega
def BdW (w:Wl):Prop:=((-5000<=w.fx/\w.fx<=5000)/\(-5000<=w.fy/\w.fy<=5000))/\((-5000<=w.tx/\w.tx<=5000)/\(-5000<=w.ty/\w.ty<=5000))
theorem bdW {cs:List (Int × Int)} (hb:Zjz cs) {i:Nat} (hi:i<cs.length):BdW (wlOf cs i):=Zmh hb hi
theorem Zwi {w:Wl} (hw:BdW w) {n:Int} (h0 : -1000000000000<=n) (h1:n<=1000000000000):n-50000000<=Zh6 n w/\Zh6 n w<=n+50000000:=by
 obtain ⟨⟨a1,a2⟩,a3,a4⟩:=hw
 have k1:=Zbb a1.1 a1.2 a4.1 a4.2
 have k2:=Zbb a3.1 a3.2 a2.1 a2.2
 unfold Zh6
 rw [W_eq (n:=w.fx*w.ty) (by omega) (by omega),W_eq (n:=w.tx*w.fy) (by omega) (by omega),W_eq (n:=w.fx*w.ty-w.tx*w.fy) (by omega) (by omega),W_eq (by omega) (by omega)]
 omega
theorem Zvn (l:List Wl) (hw:∀ w∈l,BdW w):∀ (n B:Int),-B<=n->n<=B->B+50000000*(l.length:Int)<=1000000000000->l.foldl Zh6 n<=B+50000000*(l.length:Int):=by
 induction l with
 | nil=>intro n B h0 h1 h2; simp only [List.foldl_nil,List.length_nil]; omega
 | cons w l ih =>
  intro n B h0 h1 h2
  rw [List.foldl_cons]
  rw [Ra] at h2 ⊢
  have k:=Zwi (hw w Ow) (n:=n) (by omega) (by omega)
  have:=ih (fun v hv=>hw v (Tm _ hv)) (Zh6 n w) (B+50000000) (by omega) (by omega) (by omega)
  omega
theorem Zka {h:Hal} (g:h.fine):0<Ye h/\Ye h<=600000000:=by
 refine ⟨g.area,?_⟩
 have hl:=g.le
 have:=Zvn (wls h.cs) (fun w hw=>by
  unfold wls at hw
  rw [Wa] at hw
  obtain ⟨i,hi,rfl⟩:=hw
  exact bdW g.bd (List.mem_range.1 hi)) 0 0 (by decide) (by decide) (by rw [Zal]; omega)
 rw [Zal] at this
 unfold Ye
 omega
def qn (h:Hal) (k:Nat):Int:=((wlOf h.cs k).dx*(wlOf h.cs k).dx+(wlOf h.cs k).dy*(wlOf h.cs k).dy)*h.ht*h.ht
noncomputable def cr (n:Int):Int:=if isq n*isq n<n then isq n+1 else isq n
noncomputable def Zk (h:Hal) (i:Int):Int × Int:=if i<h.ws.length then (isq (qn h i.toNat),cr (qn h i.toNat)) else if i<(h.ws.length:Int)+2 then (Ye h / 2,(Ye h+1) / 2) else ((kat h i).rc.area,(kat h i).rc.area)
theorem Zct {h:Hal} {k:Nat} (hk:k<h.ws.length):Zk h k=(isq (qn h k),cr (qn h k)):=by unfold Zk; rw [if_pos (by omega)]; rfl
theorem Zdt {h:Hal}:Zk h h.ws.length=(Ye h / 2,(Ye h+1) / 2):=by unfold Zk; rw [if_neg (by omega),if_pos (by omega)]
theorem Ze4 {h:Hal}:Zk h ((h.ws.length:Int)+1)=(Ye h / 2,(Ye h+1) / 2):=by unfold Zk; rw [if_neg (by omega),if_pos (by omega)]
theorem Zhm {h:Hal} {j:Nat} (hj:j<h.ks.length):Zk h ((h.ws.length:Int)+2+j)=(h.ks[j].rc.area,h.ks[j].rc.area):=by unfold Zk; rw [if_neg (by omega),if_neg (by omega),Zk3 hj]
theorem Yci {w:Wl} (hw:BdW w):(-10000<=w.dx/\w.dx<=10000)/\(-10000<=w.dy/\w.dy<=10000):=by
 obtain ⟨⟨a1,a2⟩,a3,a4⟩:=hw
 unfold Wl.dx Wl.dy
 rw [W_eq (n:=w.tx-w.fx) (by omega) (by omega),W_eq (n:=w.ty-w.fy) (by omega) (by omega)]
 omega
theorem Zx6 {h:Hal} (g:h.fine) {k:Nat} (hk:k<h.cs.length) :
  0<=qn h k/\qn h k<=5000000000000000/\Qa Qb (Qa Qb (Qa Qb (Qa Qb ((wlOf h.cs k).dx*(wlOf h.cs k).dx)+Qa Qb ((wlOf h.cs k).dy*(wlOf h.cs k).dy))*h.ht)*h.ht)=qn h k:=by
 have hb:=Yci (bdW g.bd hk)
 have ht:=g.ht
 unfold qn
 generalize (wlOf h.cs k).dx=x at *
 generalize (wlOf h.cs k).dy=y at *
 generalize h.ht=t at *
 have k1:=Zwq hb.1.1 hb.1.2
 have k2:=Zwq hb.2.1 hb.2.2
 rw [W_eq (n:=x*x) (by omega) (by omega),W_eq (n:=y*y) (by omega) (by omega),W_eq (n:=x*x+y*y) (by omega) (by omega)]
 have k3:0<=x*x+y*y/\x*x+y*y<=200000000:=by omega
 generalize x*x+y*y=s at *
 have k4:=Zbb (a:=s) (b:=t) (A:=200000000) (B:=5000) (by omega) (by omega) (by omega) (by omega)
 have k5:0<=s*t:=Rb (by omega) (by omega)
 rw [W_eq (n:=s*t) (by omega) (by omega)]
 generalize s*t=u at *
 have k6:=Zbb (a:=u) (b:=t) (A:=1000000000000) (B:=5000) (by omega) (by omega) (by omega) (by omega)
 have k7:0<=u*t:=Rb (by omega) (by omega)
 rw [W_eq (n:=u*t) (by omega) (by omega)]
 exact ⟨k7,by omega,rfl⟩
theorem Zx3 {c:Can} (hc:CanOk c):(0<=c.rc.area/\c.rc.area<=100000000)/\Qa Qb (size (Qa Qb (c.tx-c.fx))*size (Qa Qb (c.ty-c.fy)))=c.rc.area:=by
 obtain ⟨⟨e1,e2⟩,e3,e4⟩:=Zja c
 obtain ⟨b1,b2,b3,b4,hx,hy⟩:=hc
 have s1:size (Qa Qb (c.tx-c.fx))=c.rc.xh-c.rc.xl:=by
  rw [W_eq (n:=c.tx-c.fx) (by omega) (by omega)]
  unfold size imax
  rw [W_eq (by omega) (by omega)]
  by_cases hh:c.tx-c.fx<0-(c.tx-c.fx)
  ·rw [decide_eq_true hh,cond_true]; omega
  ·rw [decide_eq_false hh,cond_false]; omega
 have s2:size (Qa Qb (c.ty-c.fy))=c.rc.yh-c.rc.yl:=by
  rw [W_eq (n:=c.ty-c.fy) (by omega) (by omega)]
  unfold size imax
  rw [W_eq (by omega) (by omega)]
  by_cases hh:c.ty-c.fy<0-(c.ty-c.fy)
  ·rw [decide_eq_true hh,cond_true]; omega
  ·rw [decide_eq_false hh,cond_false]; omega
 rw [s1,s2]
 unfold Rc.area
 rw [W_eq (n:=c.rc.xh-c.rc.xl) (by omega) (by omega),W_eq (n:=c.rc.yh-c.rc.yl) (by omega) (by omega)]
 have k1:=Zbb (a:=c.rc.xh-c.rc.xl) (b:=c.rc.yh-c.rc.yl) (A:=10000) (B:=10000) (by omega) (by omega) (by omega) (by omega)
 have k2:0<=(c.rc.xh-c.rc.xl)*(c.rc.yh-c.rc.yl):=Rb (by omega) (by omega)
 refine ⟨?_,rfl⟩
 rw [W_eq (by omega) (by omega)]
 omega
def qW (w:Wl) (t:Int):Int:=Qa Qb (Qa Qb (Qa Qb (Qa Qb (w.dx*w.dx)+Qa Qb (w.dy*w.dy))*t)*t)
theorem c85 {h:Hal} {s:Stg} (g:Sit h s) {i:Int} (hi:SK h i):PCall Tryz.prog 78 [.agg (stgL h s),I i] ⟨.agg [I (Zk h i).1,I (Zk h i).2],[]⟩:=by
 have f3:=g.ok.f.2.2.1
 have f4:=g.ok.f.2.2.2.1
 have hk0:=Zi (c87 g.ok.f s hi) (Yb9 g)
 have ht:=Zka g.fine
 have hk0:=Zi (c122 g.ok.f) hk0
 cases hi with
 | wall k hk =>
  have hk2:k<h.cs.length:=by have:=g.fine.le; omega
  rw [Zct hk]
  obtain ⟨v1,v2⟩:=Zcs (h:=h) (i:=k) (by omega)
  rw [v1,v2] at hk0
  obtain ⟨q1,q2,q3⟩:=Zx6 g.fine hk2
  obtain ⟨r1,r2,r3⟩:=Zfv q1
  have r4:isq (qn h k)<94906267:=Zre (by omega) (by omega) r1
  have r5:=Zxw r1 (show isq (qn h k)<=94906267 by omega)
  have w1:Qa Qb (isq (qn h k)*isq (qn h k))=isq (qn h k)*isq (qn h k):=W_eq (by omega) (by omega)
  have w2:Qa Qb (isq (qn h k)+1)=isq (qn h k)+1:=W_eq (by omega) (by omega)
  have hk1:=Zi (c175 q1 (by omega)) (Zi (Ybj g.ok.f hk2) hk0)
  rw [<-q3] at hk1
  unfold cr
  generalize wlOf h.cs k=w at *
  refine pn hk1 Tryz.func78 ?_
  have q4:qW w h.ht=qn h k:=q3
  by_cases hc:isq (qn h k)*isq (qn h k)<qn h k
  ·rw [if_pos hc]
   repeat'(first|refine wk1 ?_|(refine wk2 ?_ ?_<;>intro _)|fail)
   ·exfalso
    rename_i hx
    have hx:=of_decide_eq_true (show decide ((k:Int)=(h.ws.length:Int)+1)=true from hx)
    omega
   ·exact Zd (by rw [q3,w2]) rfl
   ·exfalso
    rename_i hx
    change decide (Qa Qb (isq (qW w h.ht)*isq (qW w h.ht))<qW w h.ht)=false at hx
    rw [q4,w1] at hx
    exact of_decide_eq_false hx hc
  ·rw [if_neg hc]
   repeat'(first|refine wk1 ?_|(refine wk2 ?_ ?_<;>intro _)|fail)
   ·exfalso
    rename_i hx
    have hx:=of_decide_eq_true (show decide ((k:Int)=(h.ws.length:Int)+1)=true from hx)
    omega
   ·exfalso
    rename_i hx
    change decide (Qa Qb (isq (qW w h.ht)*isq (qW w h.ht))<qW w h.ht)=true at hx
    rw [q4,w1] at hx
    exact hc (of_decide_eq_true hx)
   ·exact Zd (by rw [q3]) rfl
 | floor =>
  rw [Zdt]
  obtain ⟨v1,v2⟩:=Zcs (h:=h) (i:=h.ws.length) (by omega)
  rw [v1,v2] at hk0
  have w1:Qa Qb ((Ye h).tdiv 2)=Ye h / 2:=by rw [Ro (by omega)]; exact W_eq (by omega) (by omega)
  have w2:Qa Qb (Ye h+1)=Ye h+1:=W_eq (by omega) (by omega)
  have w3:Qa Qb ((Ye h+1).tdiv 2)=(Ye h+1) / 2:=by rw [Ro (by omega)]; exact W_eq (by omega) (by omega)
  refine pn hk0 Tryz.func78 ?_
  repeat'(first|refine wk1 ?_|(refine wk2 ?_ ?_<;>intro _)|fail)
  exact Zd (by rw [w1,w2,w3]) rfl
 | ceil =>
  rw [Ze4]
  obtain ⟨v1,v2⟩:=Zcs (h:=h) (i:=(h.ws.length:Int)+1) (by omega)
  rw [v1,v2] at hk0
  have w1:Qa Qb ((Ye h).tdiv 2)=Ye h / 2:=by rw [Ro (by omega)]; exact W_eq (by omega) (by omega)
  have w2:Qa Qb (Ye h+1)=Ye h+1:=W_eq (by omega) (by omega)
  have w3:Qa Qb ((Ye h+1).tdiv 2)=(Ye h+1) / 2:=by rw [Ro (by omega)]; exact W_eq (by omega) (by omega)
  refine pn hk0 Tryz.func78 ?_
  repeat'(first|refine wk1 ?_|(refine wk2 ?_ ?_<;>intro _)|fail)
  ·exact Zd (by rw [w1,w2,w3]) rfl
  ·rename_i hx; exact absurd rfl (of_decide_eq_false (show decide ((h.ws.length:Int)+1=(h.ws.length:Int)+1)=false from hx))
 | can j hj =>
  rw [Zhm hj]
  obtain ⟨v1,v2⟩:=Zo6 hj
  rw [v1,v2] at hk0
  generalize h.ks[j]=c at *
  have hk1:=Zi (c171 c.rc) hk0
  refine pn hk1 Tryz.func78 ?_
  repeat'(first|refine wk1 ?_|(refine wk2 ?_ ?_<;>intro _)|fail)
  exact Zd rfl rfl
noncomputable def Zh5 (h:Hal) (s:Stg) (i:Int):Int × Int:=if surE h s i=0 then Zk h i else (0,0)
theorem c56 {h:Hal} (hk:h.ok) {s:Stg} (hs:s.few) (i:Int):PCall Tryz.prog 82 [h.av,s.av,I i] ⟨.tup [.agg [I (Zh5 h s i).1,I (Zh5 h s i).2],I (surE h s i)],[]⟩:=by
 have hk0:=Zi (c109 hk hs i) Zf
 by_cases he:surE h s i=0
 ·have e:=Zq5 he
  have g:=Zri hk hs e.1
  have hk1:=Zi (c85 g (Zur e.2.1 e.2.2)) hk0
  have e2:Zh5 h s i=Zk h i:=by unfold Zh5; rw [if_pos he]
  rw [e2]
  rw [he] at hk1 ⊢
  refine pn hk1 Tryz.func82 ?_
  repeat'(first|refine wk1 ?_|(refine wk2 ?_ ?_<;>intro _)|fail)
  exact Zd rfl rfl
 ·have e2:Zh5 h s i=(0,0):=by unfold Zh5; rw [if_neg he]
  rw [e2]
  refine pn hk0 Tryz.func82 ?_
  repeat'(first|refine wk1 ?_|(refine wk2 ?_ ?_<;>intro _)|fail)
  exact Zd rfl rfl
noncomputable abbrev areas (h:Hal) (s:Stg):List AV->Option PRes:=famA (fun _=>True) (fun i:Int=>[h.av,s.av,I i]) (fun i=>⟨.tup [.agg [I (Zh5 h s i).1,I (Zh5 h s i).2],I (surE h s i)],[]⟩)
theorem Zxu {h:Hal} {s:Stg} {i:Int} (e:serr h s=0) (h0:0<=i) (h1:i<nsur h):surE h s i=0:=by
 unfold surE; rw [if_pos e,if_pos (within_iff.2 ⟨h0,by omega⟩)]
def absB (m:Mat) (b:Int):Int:=if b=0 then m.a else if b=1 then m.b else if b=2 then m.c else m.d
def absK (h:Hal) (s:Stg) (b i:Int):Int:=if isK h i then absB (matS h s i) b*2 else absB (matS h s i) b
noncomputable def sumS (h:Hal) (s:Stg) (b:Int):Nat->Int × Int
 | 0=>(0,0)
 | k+1=>((sumS h s b k).1+(Zk h k).1*absK h s b k,(sumS h s b k).2+(Zk h k).2*absK h s b k)
theorem Zyg {h:Hal} (g:h.fine) {m:Mat} (hm:m∈h.ms):(0<=m.a/\m.a<=1000)/\(0<=m.b/\m.b<=1000)/\(0<=m.c/\m.c<=1000)/\(0<=m.d/\m.d<=1000):=by
 have:=g.mats m hm
 unfold Xx at this
 split at this
 ·rename_i hx
  simp only [Qc] at hx
  exact ⟨within_iff.1 hx.1.1.1.1,within_iff.1 hx.1.1.1.2,within_iff.1 hx.1.1.2,within_iff.1 hx.1.2⟩
 ·cases this
theorem Zoa {h:Hal} {s:Stg} (g:Sit h s) {i:Int} (hi:SK h i):matS h s i∈h.ms:=by
 have h0:=Zod g hi
 have h1:=Zab (Zbc h s i) h.ms 0
 unfold matS matG
 have hl:(Zw (Zbc h s i) 0 h.ms).toNat<h.ms.length:=by omega
 rw [Qi hl]
 exact List.getElem_mem hl
theorem Znt {h:Hal} {s:Stg} (g:Sit h s) {b i:Int} (hi:SK h i):(0<=absB (matS h s i) b/\absB (matS h s i) b<=1000)/\0<=absK h s b i/\absK h s b i<=2000:=by
 have:=Zyg g.fine (Zoa g hi)
 have k:0<=absB (matS h s i) b/\absB (matS h s i) b<=1000:=by
  unfold absB
  repeat' split
  all_goals omega
 refine ⟨k,?_⟩
 unfold absK
 split<;>omega
theorem Zbj {h:Hal} {s:Stg} (g:Sit h s) {i:Int} (hi:SK h i):(0<=(Zk h i).1/\(Zk h i).1<=300000001)/\(0<=(Zk h i).2/\(Zk h i).2<=300000001):=by
 have ht:=Zka g.fine
 cases hi with
 | wall k hk =>
  have hk2:k<h.cs.length:=by have:=g.fine.le; omega
  rw [Zct hk]
  obtain ⟨q1,q2,q3⟩:=Zx6 g.fine hk2
  obtain ⟨r1,r2,r3⟩:=Zfv q1
  have r4:isq (qn h k)<94906267:=Zre (by omega) (by omega) r1
  unfold cr
  dsimp only
  split<;>omega
 | floor=>rw [Zdt]; dsimp only; omega
 | ceil=>rw [Ze4]; dsimp only; omega
 | can j hj =>
  rw [Zhm hj]
  have hc:=(Zx3 (Ybh g.fine hj)).1
  dsimp only; omega
theorem Zyc {h:Hal} (g:h.fine):0<nsur h/\nsur h<=18:=by
 have:=g.le
 unfold nsur; omega
theorem Zmo {h:Hal} {s:Stg} (g:Sit h s) (b:Int):∀ k:Nat,(k:Int)<=nsur h->(0<=(sumS h s b k).1/\(sumS h s b k).1<=600000002000*k)/\(0<=(sumS h s b k).2/\(sumS h s b k).2<=600000002000*k)
 | 0,_=>by simp [sumS]
 | k+1,hk=>by
  have ih:=Zmo g b k (by omega)
  have hi:SK h k:=Zur (by omega) (by omega)
  have a:=Zbj g hi
  have c:=Znt g (b:=b) hi
  have m1:=Zbb (a:=(Zk h k).1) (b:=absK h s b k) (A:=300000001) (B:=2000) (by omega) (by omega) (by omega) (by omega)
  have m2:=Zbb (a:=(Zk h k).2) (b:=absK h s b k) (A:=300000001) (B:=2000) (by omega) (by omega) (by omega) (by omega)
  have n1:0<=(Zk h k).1*absK h s b k:=Rb (by omega) (by omega)
  have n2:0<=(Zk h k).2*absK h s b k:=Rb (by omega) (by omega)
  rw [sumS]
  dsimp only
  omega
noncomputable def absV (h:Hal) (s:Stg) (b:Int):Int × Int:=((sumS h s b (nsur h).toNat).1 / 1000,((sumS h s b (nsur h).toNat).2+999) / 1000)
def Zh4 (h:Hal) (s:Stg) (b:Int):Int:=if serr h s=0 then (if within b 0 3 then 0 else 6) else serr h s
noncomputable def absA (h:Hal) (s:Stg) (b:Int):Int × Int:=if Zh4 h s b=0 then absV h s b else (0,0)
theorem c28 {h:Hal} (hk:h.ok) {s:Stg} (hs:s.few) (b:Int):PCall Tryz.prog 51 [h.av,s.av,I b] ⟨.tup [.agg [I (absA h s b).1,I (absA h s b).2],I (Zh4 h s b)],[]⟩:=by
 have hk0:=Zi (c83 hk hs) (Zi (c84 hk.f s) Zsh)
 by_cases he:serr h s=0
 ·have g:=Zri hk hs he
  have hn:=Zyc g.fine
  cases hw:within b 0 3 with
  | false =>
   have e1:Zh4 h s b=6:=by unfold Zh4; rw [if_pos he,hw]; rfl
   have e2:absA h s b=(0,0):=by unfold absA; rw [if_neg (by omega)]
   rw [e1,e2]
   rw [he] at hk0
   refine pn hk0 Tryz.func51 ?_
   repeat'(first|refine wk1 ?_|(refine wk2 ?_ ?_<;>intro _)|fail)
   ·exact Zd rfl rfl
   all_goals (exfalso; simp_all; done)
  | true =>
   have e1:Zh4 h s b=0:=by unfold Zh4; rw [if_pos he,hw]; rfl
   have e2:absA h s b=absV h s b:=by unfold absA; rw [if_pos e1]
   have hb:=within_iff.1 hw
   rw [e1,e2]
   rw [he] at hk0
   have hb4:b=0\/b=1\/b=2\/b=3:=by omega
   clear hb
   refine pn hk0 Tryz.func51 ?_
   repeat'(first|refine wk1 ?_|(refine wk2 ?_ ?_<;>intro _)|fail)
   ·exfalso; simp_all; done
   refine Zo (S:=Nat × Int × Int × Int) (fun t=>(nsur h).toNat-t.1) (fun t=>[(2,I b),(6,.ptr 2 0 0),(8,.ptr 3 0 0),(10,.ptr 4 0 0),(31,I (nsur h)),(32,I t.2.1)]) (fun t=>[(4,.row 2 [[I t.2.2.1,I t.2.2.2]] true false),(3,.row 11 [stgL h s] true false),(2,.row 2 [[I 0,I 0]] true false)]) 5 5
    (fun t=>t.2.1=t.1/\(t.1:Int)<=nsur h/\t.2.2=sumS h s b t.1) (0,0,0,0) ⟨rfl,by omega,rfl⟩ (Qd _) [] rfl (kps) (kps) ?_
   rintro ⟨k,i,lo,hi⟩ ⟨hi1,hk1,hS⟩
   dsimp only at hi1 hk1 hS ⊢
   subst hi1
   have hB:=Zmo g b k hk1
   rw [<-hS] at hB
   dsimp only at hB
   by_cases hlt:(k:Int)<nsur h
   ·have hsk:SK h k:=Zur (by omega) hlt
    have hA:=Zbj g hsk
    have hK:=Znt g (b:=b) hsk
    have hstep:∀ M,M=absK h s b k->(Qa Qb (lo+Qa Qb ((Zk h k).1*M)),Qa Qb (hi+Qa Qb ((Zk h k).2*M)))=sumS h s b (k+1):=by
     rintro M rfl
     have hB2:=Zmo g b (k+1) (by omega)
     have m1:=Zbb (a:=(Zk h k).1) (b:=absK h s b k) (A:=300000001) (B:=2000) (by omega) (by omega) (by omega) (by omega)
     have m2:=Zbb (a:=(Zk h k).2) (b:=absK h s b k) (A:=300000001) (B:=2000) (by omega) (by omega) (by omega) (by omega)
     rw [sumS,<-hS]
     rw [W_eq (n:=(Zk h k).1*absK h s b k) (by omega) (by omega),W_eq (n:=(Zk h k).2*absK h s b k) (by omega) (by omega),W_eq (by omega) (by omega),W_eq (by omega) (by omega)]
    have hkk:=Zi (c85 g hsk) (Zi (c86 g hsk) (Zi (c87 g.ok.f s hsk) Zf))
    have habs:absK h s b k=if isK h k then absB (matS h s k) b*2 else absB (matS h s k) b:=rfl
    generalize matS h s k=m at *
    have hb0:0<=absB m b/\absB m b<=1000:=hK.1
    have hn18:=hn.2
    clear hK hA hB hS
    cases hc:isK h k
    ·rw [hc,if_neg (by simp)] at habs
     rw [hc,show canV h k = .agg canZ by unfold canV; rw [hc]] at hkk
     rcases hb4 with rfl|rfl|rfl|rfl
     all_goals
      refine bs.av (sx:=nos) hkk ?_
      repeat'(first|refine wk1 ?_|(refine wk2 ?_ ?_<;>intro _)|fail)
      exact Qr ⟨(k+1,_,_,_),[],rfl,kps,kps,⟨Zg (by omega),by omega,hstep _ habs.symm⟩,by dsimp only; omega⟩
    ·rw [hc,if_pos rfl] at habs
     rw [hc,show canV h k = .agg (kat h k).av by unfold canV; rw [hc]] at hkk
     have hw2:Qa Qb (absB m b*2)=absK h s b k:=by rw [habs]; exact W_eq (by omega) (by omega)
     rcases hb4 with rfl|rfl|rfl|rfl
     all_goals
      refine bs.av (sx:=nos) hkk ?_
      repeat'(first|refine wk1 ?_|(refine wk2 ?_ ?_<;>intro _)|fail)
      exact Qr ⟨(k+1,_,_,_),[],rfl,kps,kps,⟨Zg (by omega),by omega,hstep _ hw2⟩,by dsimp only; omega⟩
   ·have hkn:k=(nsur h).toNat:=by omega
    have hV:absV h s b=(lo / 1000,(hi+999) / 1000):=by unfold absV; rw [<-hkn,<-hS]
    have w1:Qa Qb (lo.tdiv 1000)=lo / 1000:=by rw [Ro (by omega)]; exact W_eq (by omega) (by omega)
    have w2:Qa Qb (hi+1000)=hi+1000:=W_eq (by omega) (by omega)
    have w3:Qa Qb (hi+1000-1)=hi+999:=by rw [W_eq (by omega) (by omega)]; omega
    have w4:Qa Qb ((hi+999).tdiv 1000)=(hi+999) / 1000:=by rw [Ro (by omega)]; exact W_eq (by omega) (by omega)
    rw [hV]
    refine bs.av (sx:=nos) Zf ?_
    repeat'(first|refine wk1 ?_|(refine wk2 ?_ ?_<;>intro _)|fail)
    exact Zd (by rw [w1,w2,w3,w4]) rfl
 ·have e1:Zh4 h s b=serr h s:=by unfold Zh4; rw [if_neg he]
  have e2:absA h s b=(0,0):=by unfold absA; rw [if_neg (by omega)]
  rw [e1,e2]
  refine pn hk0 Tryz.func51 ?_
  repeat'(first|refine wk1 ?_|(refine wk2 ?_ ?_<;>intro _)|fail)
  exact Zd rfl rfl
abbrev Yaz (h:Hal):Prop:=(9<h.ws.length/\h.ws.length<=12)\/14<h.ws.length\/14<h.cs.length\/4<h.ms.length\/2<h.ks.length\/3<h.ss.length
def Zii (h:Hal):Bool:=Yc h.nm&&Yc h.fl&&Yc h.ce
def few2 (h:Hal):Bool:=(!decide (Yaz h)&&Zii h)&&(h.ws.all fewW&&(h.ms.all fewM&&(h.ks.all fewC&&h.ss.all fewS)))
theorem Zs8 {h:Hal} (hb:few2 h=true):h.ok:=by
 unfold few2 Zii at hb
 simp only [Qc,Sf,decide_eq_false_iff_not] at hb
 obtain ⟨⟨hL,⟨n1,n2⟩,n3⟩,m2,m1,m3,m4⟩:=hb
 have hL:¬ ((9<h.ws.length/\h.ws.length<=12)\/14<h.ws.length\/14<h.cs.length\/4<h.ms.length\/2<h.ks.length\/3<h.ss.length):=hL
 rw [Qs] at m1 m2 m3 m4
 refine ⟨⟨by omega,by omega,by omega,by omega,by omega,fun c hc=>?_⟩,⟨Zaq n1,fun m hm=>Zaq (m1 m hm),fun m hm=>?_,fun m hm=>?_,fun m hm=>Zaq (m4 m hm)⟩⟩
 ·have:=m3 c hc
  unfold fewC at this
  simp only [Qc,Sf,decide_eq_false_iff_not] at this
  omega
 ·have:=m2 m hm
  unfold fewW at this
  simp only [Qc] at this
  exact Zaq this.1.1
 ·have:=m3 m hm
  unfold fewC at this
  simp only [Qc] at this
  exact Zaq this.1.1
theorem sh_n {s:ByteArray} (h:Yc s=true):¬ (20:Int)<(s.size:Int):=by
 unfold Yc at h
 simpa using h
theorem d80 (h:Hal):PCall Tryz.prog 5 [h.av] ⟨Bo (few2 h),[]⟩:=by
 have l1:=Un h.ms
 have l2:(h.cs.map pt).length=h.cs.length:=by simp
 have l3:=Yn h.ws
 have l4:=Xq h.ks
 have l5:=Zb1 h.ss
 by_cases hP:Yaz h
 ·have e0:few2 h=false:=by unfold few2; rw [decide_eq_true hP]; rfl
  rw [e0]
  clear e0
  have hP:(9<h.ws.length/\h.ws.length<=12)\/14<h.ws.length\/14<h.cs.length\/4<h.ms.length\/2<h.ks.length\/3<h.ss.length:=hP
  refine pn Zf Tryz.func5 ?_
  repeat'(first|refine wk3 ?_|(refine wk2 ?_ ?_<;>intro _)|fail)
  all_goals first
   | exact Zc rfl
   | (exfalso; simp_all; omega)
 have hP' : ¬ ((9<h.ws.length/\h.ws.length<=12)\/14<h.ws.length\/14<h.cs.length\/4<h.ms.length\/2<h.ks.length\/3<h.ss.length):=hP
 have hw:h.ws.length<=9\/12<h.ws.length:=by omega
 unfold few2
 rw [decide_eq_false hP,Bool.not_false,Td]
 clear hP
 by_cases hN:Zii h=true
 rotate_left
 ·have hN:Zii h=false:=by simpa using hN
  rw [hN,Bool.false_and]
  unfold Zii at hN
  rcases hw with hw|hw
  all_goals
   refine pn Zf Tryz.func5 ?_
   repeat'(first|refine wk3 ?_|(refine wk2 ?_ ?_<;>intro _)|fail)
  all_goals first
   | exact Zc rfl
   | (exfalso; simp_all [Yc]; done)
   | (exfalso; simp_all [Yc]; omega)
 rw [hN,Td]
 unfold Zii at hN
 simp only [Qc] at hN
 obtain ⟨⟨n1,n2⟩,n3⟩:=hN
 have n1:=sh_n n1
 have n2:=sh_n n2
 have n3:=sh_n n3
 generalize hE:(h.ws.all fewW&&(h.ms.all fewM&&(h.ks.all fewC&&h.ss.all fewS)))=R
 rcases hw with hw|hw
 all_goals
  refine pn Zf Tryz.func5 ?_
  repeat'(first|refine wk3 ?_|(refine wk2 ?_ ?_<;>intro _)|fail)
  clear n1 n2 n3
  subst hE
  generalize hV:(h.ms.all fewM&&(h.ks.all fewC&&h.ss.all fewS))=V
  refine Zo (S:=Nat × Int) (fun t=>h.ws.length-t.1) (fun t=>[(1,.ptr 0 0 0),(2,Bo false),(3,I t.2)]) (fun _=>[(0,.row 9 [h.cells] true false)]) 1 1 (fun t=>t.2=t.1/\t.1<=h.ws.length/\((h.ws.drop t.1).all fewW&&V)=(h.ws.all fewW&&V)) (0,0) ⟨rfl,Qk _,rfl⟩ (Qd _) [] rfl (kps) (kps) ?_
  rintro ⟨k,i⟩ ⟨hi,hk,hh⟩
  dsimp only at hi hk hh ⊢
  subst hi
  generalize hB:(h.ws.all fewW&&V)=B at *
  clear hB
  refine bs.av (sx:=nos) Zf ?_
  by_cases hlt:k<h.ws.length
  ·clear hV
   have e1:=Zf4 hlt
   rw [Qg hlt,Wo] at hh
   generalize h.ws[k]=m at *
   have hm:∀ b,fewW m=b->(b&&(h.ws.drop (k+1)).all fewW&&V)=B:=fun b e=>by rw [<-e,We]; rw [We] at hh; exact hh
   clear hh
   repeat'(first|refine wk3 ?_|(refine wk2 ?_ ?_<;>intro _)|fail)
   all_goals clear e1
   all_goals first
    | exact Zc (hm false (by clear hm; simp_all [fewW,Yc]; done))
    | exact Qr ⟨(k+1,_),[],rfl,kps,kps,⟨Zg (by omega),hlt,hm true (by clear hm; simp_all [fewW,Yc]; done)⟩,by dsimp only; omega⟩
  rw [Qj (by omega)] at hh
  have hh:V=B:=hh
  subst hh
  subst hV
  repeat'(first|refine wk3 ?_|(refine wk2 ?_ ?_<;>intro _)|fail)
  clear hlt hk
  generalize hV:(h.ks.all fewC&&h.ss.all fewS)=V
  refine Zo (S:=Nat × Int) (fun t=>h.ms.length-t.1) (fun t=>[(1,.ptr 0 0 0),(2,Bo false),(4,I t.2)]) (fun _=>[(0,.row 9 [h.cells] true false)]) 1 1 (fun t=>t.2=t.1/\t.1<=h.ms.length/\((h.ms.drop t.1).all fewM&&V)=(h.ms.all fewM&&V)) (0,0) ⟨rfl,Qk _,rfl⟩ (Qd _) [] rfl (kps) (kps) ?_
  rintro ⟨k,i⟩ ⟨hi,hk,hh⟩
  dsimp only at hi hk hh ⊢
  subst hi
  generalize hB:(h.ms.all fewM&&V)=B at *
  clear hB
  refine bs.av (sx:=nos) Zf ?_
  by_cases hlt:k<h.ms.length
  ·clear hV
   have e1:=Zku hlt
   rw [Qg hlt,Wo] at hh
   generalize h.ms[k]=m at *
   have hm:∀ b,fewM m=b->(b&&(h.ms.drop (k+1)).all fewM&&V)=B:=fun b e=>by rw [<-e,We]; rw [We] at hh; exact hh
   clear hh
   repeat'(first|refine wk3 ?_|(refine wk2 ?_ ?_<;>intro _)|fail)
   all_goals clear e1
   all_goals first
    | exact Zc (hm false (by clear hm; simp_all [fewM,Yc]; done))
    | exact Qr ⟨(k+1,_),[],rfl,kps,kps,⟨Zg (by omega),hlt,hm true (by clear hm; simp_all [fewM,Yc]; done)⟩,by dsimp only; omega⟩
  rw [Qj (by omega)] at hh
  have hh:V=B:=hh
  subst hh
  subst hV
  repeat'(first|refine wk3 ?_|(refine wk2 ?_ ?_<;>intro _)|fail)
  clear hlt hk
  generalize hV:h.ss.all fewS=V
  refine Zo (S:=Nat × Int) (fun t=>h.ks.length-t.1) (fun t=>[(1,.ptr 0 0 0),(2,Bo false),(5,I t.2)]) (fun _=>[(0,.row 9 [h.cells] true false)]) 1 1 (fun t=>t.2=t.1/\t.1<=h.ks.length/\((h.ks.drop t.1).all fewC&&V)=(h.ks.all fewC&&V)) (0,0) ⟨rfl,Qk _,rfl⟩ (Qd _) [] rfl (kps) (kps) ?_
  rintro ⟨k,i⟩ ⟨hi,hk,hh⟩
  dsimp only at hi hk hh ⊢
  subst hi
  generalize hB:(h.ks.all fewC&&V)=B at *
  clear hB
  refine bs.av (sx:=nos) Zf ?_
  by_cases hlt:k<h.ks.length
  ·clear hV
   have e1:=Zfi hlt
   rw [Qg hlt,Wo] at hh
   generalize h.ks[k]=m at *
   have e9:=Ze m.hs
   have hm:∀ b,fewC m=b->(b&&(h.ks.drop (k+1)).all fewC&&V)=B:=fun b e=>by rw [<-e,We]; rw [We] at hh; exact hh
   clear hh
   repeat'(first|refine wk3 ?_|(refine wk2 ?_ ?_<;>intro _)|fail)
   all_goals clear e1
   all_goals first
    | exact Zc (hm false (by clear hm; simp_all [fewC,Yc]; done))
    | exact Qr ⟨(k+1,_),[],rfl,kps,kps,⟨Zg (by omega),hlt,hm true (by clear hm; simp_all [fewC,Yc]; done)⟩,by dsimp only; omega⟩
  rw [Qj (by omega)] at hh
  have hh:V=B:=hh
  subst hh
  subst hV
  repeat'(first|refine wk3 ?_|(refine wk2 ?_ ?_<;>intro _)|fail)
  clear hlt hk
  refine Zo (S:=Nat × Int) (fun t=>h.ss.length-t.1) (fun t=>[(1,.ptr 0 0 0),(2,Bo false),(6,I t.2)]) (fun _=>[(0,.row 9 [h.cells] true false)]) 1 1 (fun t=>t.2=t.1/\t.1<=h.ss.length/\((h.ss.drop t.1).all fewS)=(h.ss.all fewS)) (0,0) ⟨rfl,Qk _,rfl⟩ (Qd _) [] rfl (kps) (kps) ?_
  rintro ⟨k,i⟩ ⟨hi,hk,hh⟩
  dsimp only at hi hk hh ⊢
  subst hi
  generalize hB:(h.ss.all fewS)=B at *
  clear hB
  refine bs.av (sx:=nos) Zf ?_
  by_cases hlt:k<h.ss.length
  ·have e1:=Zn2 hlt
   rw [Qg hlt,Wo] at hh
   generalize h.ss[k]=m at *
   have hm:∀ b,fewS m=b->(b&&(h.ss.drop (k+1)).all fewS)=B:=fun b e=>by rw [<-e]; exact hh
   clear hh
   repeat'(first|refine wk3 ?_|(refine wk2 ?_ ?_<;>intro _)|fail)
   all_goals clear e1
   all_goals first
    | exact Zc (hm false (by clear hm; simp_all [fewS,Yc]; done))
    | exact Qr ⟨(k+1,_),[],rfl,kps,kps,⟨Zg (by omega),hlt,hm true (by clear hm; simp_all [fewS,Yc]; done)⟩,by dsimp only; omega⟩
  rw [Qj (by omega)] at hh
  repeat'(first|refine wk3 ?_|(refine wk2 ?_ ?_<;>intro _)|fail)
  exact Zc hh
theorem d90 {h:Hal} (hk:h.ok):PCall Tryz.prog 6 [h.av] ⟨I h.err,[]⟩:=by
 refine pn (Zi (c65k hk) Zf) Tryz.func6 ?_
 repeat'(first|refine wk3 ?_|(refine wk2 ?_ ?_<;>intro _)|fail)
 exact Zb rfl
def nsN (h:Hal):Nat:=h.ws.length+2+h.ks.length
theorem Zn8 (h:Hal):(nsN h:Int)=nsur h:=by unfold nsN nsur; omega
def sd (h:Hal) (i:Nat):Int:=if i<h.ws.length+2 then 1 else 2
noncomputable def arX (h:Hal):List (List AV):=(List.range (nsN h)).map fun i:Nat=>[.agg [I (Zk h i).1,I (Zk h i).2],I (sd h i)]
theorem Znr (h:Hal):(arX h).length=nsN h:=by unfold arX; simp
theorem Zjx {h:Hal} {k:Nat} (hk:k<nsN h):(arX h).drop k=[.agg [I (Zk h k).1,I (Zk h k).2],I (sd h k)]::(arX h).drop (k+1):=by
 rw [Qg (by rw [Znr]; exact hk)]; simp [arX]
theorem Zup (h:Hal):(sl (surf h)).length=nsN h:=by
 rw [Zgf]; unfold surf Zdu Zd5 nsN; simp; omega
theorem c64n {h:Hal} (hk:h.ok) (he:h.err=0):PCall Tryz.prog 81 [h.av] ⟨.tup [.asl 0 0 (sl (surf h)).length,I 0],[(1,sl (surf h))]⟩:=by
 have hkS:=Yb8 hk
 ·have hfi:=Zna hk he
  obtain ⟨_,g2,g3,_⟩:=hfi.le
  have l3:=Yn h.ws
  have l4:=Xq h.ks
  obtain ⟨f1,f2,f3,f4,f5,f6⟩:=hk.f
  refine pn hkS Tryz.func81 ?_
  repeat'(first|refine wk1 ?_|(refine wk2 ?_ ?_<;>intro _)|fail)
  refine Lp.ren (env2:=[(4,.ptr 1 0 0),(6,.nils),(21,.isl 3 (h.ws.map Wal.av)),(22,I (h.ws.map Wal.av).length),(23,I 0)]) (σ2:=⟨[(1,.row 9 [h.cells] true false)],3⟩) (Ren.of [] rfl (kps) (kps)) ?_
  refine Zo (S:=Nat × Int × Nat × List (List AV)) (fun t=>h.ws.length-t.1) (fun t=>[(4,.ptr 1 0 0),(6,gv 3 t.1 t.2.2.1),(21,.isl 3 (h.ws.map Wal.av)),(22,I (h.ws.map Wal.av).length),(23,I t.2.1)]) (fun t=>gz 3 1 t.1 t.2.2.2 [(1,.row 9 [h.cells] true false)]) 3 4
   (fun t=>t.2.1=t.1/\t.1<=h.ws.length/\t.2.2.1=t.2.2.2.length/\t.2.2.2=sl ((Zdu h).take t.1)) (0,0,0,[]) ⟨rfl,Qk _,rfl,rfl⟩ (Qd _) [] rfl (kps) (kps) ?_
  rintro ⟨k,i,len,els⟩ ⟨hi,hk,hlen,hels⟩
  dsimp only at hi hk hlen hels ⊢
  subst hi
  refine bs.av (sx:=nos) hkS ?_
  have e4:els.length<2000:=by rw [hels,Zgf,Lx]; omega
  by_cases hlt:k<h.ws.length
  ·have e1:=Zf4 hlt
   have e3:=Zxq hlt
   cases k with
   | zero =>
    repeat'(first|refine wk1 ?_|(refine wk2 ?_ ?_<;>intro _)|fail)
    exact Qr ⟨(1,_,_,_),[(3,6)],rfl,kps,kps,⟨Zg (k:=0) (by omega),hlt,rfl,e3.symm⟩,by dsimp only; omega⟩
   | succ k =>
    repeat'(first|refine wk1 ?_|(refine wk2 ?_ ?_<;>intro _)|fail)
    exact Qr ⟨(k+1+1,_,_,_),[(3,6)],rfl,kps,kps,⟨Zg (k:=k+1) (by omega),hlt,by exact List.length_append.symm,by show _=sl _; rw [e3,<-hels]; rfl⟩,by dsimp only; omega⟩
  rw [Rr (by simp [Zdu]; omega)] at hels
  cases k with
  | zero=>exfalso; omega
  | succ k =>
  repeat'(first|refine wk1 ?_|(refine wk2 ?_ ?_<;>intro _)|fail)
  clear hlt
  refine Zo (S:=Nat × Int × Nat × List (List AV)) (fun t=>h.ks.length-t.1) (fun t=>[(6,.asl (nm2 5 6 t.1) 0 t.2.2.1),(38,.isl 7 (h.ks.map Can.av)),(39,I (h.ks.map Can.av).length),(40,I t.2.1)]) (fun t=>[(nm2 5 6 t.1,.row 1 t.2.2.2 true true)]) 6 7
   (fun t=>t.2.1=t.1/\t.1<=h.ks.length/\t.2.2.1=t.2.2.2.length/\t.2.2.2=els++[[.str Xy],[.str Za1]]++sl ((Zd5 h).take t.1)) (0,0,els.length+2,els++[[.str Xy],[.str Za1]]) ⟨rfl,Qk _,by simp,by simp [sl]⟩ (Qd _) [] rfl (kps) (kps) ?_
  rintro ⟨k2,i,len2,els2⟩ ⟨hi,hk2,hlen2,hels2⟩
  dsimp only at hi hk2 hlen2 hels2 ⊢
  subst hi
  refine bs.av (sx:=nos) hkS ?_
  have e5:els2.length<4000:=by rw [hels2,Tw,Zgf,Lx,Tw]; simp; omega
  by_cases hlt:k2<h.ks.length
  ·have e1:=Zfi hlt
   have e3:=Zyl hlt
   cases k2 with
   | zero =>
    repeat'(first|refine wk1 ?_|(refine wk2 ?_ ?_<;>intro _)|fail)
    exact Qr ⟨(1,_,_,_),[(6,9)],rfl,kps,kps,⟨Zg (k:=0) (by omega),hlt,by exact List.length_append.symm,by show _=_; rw [e3,<-Sn,<-hels2]; rfl⟩,by dsimp only; omega⟩
   | succ k2 =>
    repeat'(first|refine wk1 ?_|(refine wk2 ?_ ?_<;>intro _)|fail)
    exact Qr ⟨(k2+1+1,_,_,_),[(6,9)],rfl,kps,kps,⟨Zg (k:=k2+1) (by omega),hlt,by exact List.length_append.symm,by show _=_; rw [e3,<-Sn,<-hels2]; rfl⟩,by dsimp only; omega⟩
  rw [Rr (by simp [Zd5]; omega)] at hels2
  have hfin:els2=sl (surf h):=by rw [hels2,hels]; unfold surf; rw [Zdx,Zdx]; rfl
  subst hfin
  subst hlen2
  cases k2 with
  | zero =>
   repeat'(first|refine wk1 ?_|(refine wk2 ?_ ?_<;>intro _)|fail)
   exact Yh [5] rfl rfl rfl
  | succ k2 =>
   repeat'(first|refine wk1 ?_|(refine wk2 ?_ ?_<;>intro _)|fail)
   exact Yh [6] rfl rfl rfl
theorem Zrg (l:List ByteArray):(sl l).all Zai=true:=by
 rw [Qs]
 intro e he
 obtain ⟨b,_,rfl⟩:=Wa.1 he
 rfl
theorem Zy8 {b:Bool} {A:Prop} (h:b=true) (ha:A):cond b A False:=by rw [h]; exact ha
noncomputable abbrev cAr (h:Hal) (s:Stg):List AV->Option PRes:=famA (fun i:Nat=>i<nsN h) (fun i=>[h.av,s.av,I (i:Int)]) (fun i=>⟨.tup [.agg [I (Zk h i).1,I (Zk h i).2],I 0],[]⟩)
theorem Ybl {h:Hal} {s:Stg} {i:Nat} (hi:i<nsN h):cAr h s [h.av,s.av,I (i:Int)]=some ⟨.tup [.agg [I (Zk h i).1,I (Zk h i).2],I 0],[]⟩ :=
 Xb (p:=fun i:Nat=>i<nsN h) (g:=fun i=>[h.av,s.av,I (i:Int)]) (r:=fun i=>⟨.tup [.agg [I (Zk h i).1,I (Zk h i).2],I 0],[]⟩) (k:=i) (fun j hj=>by
  simp only [List.cons.injEq,AV.int.injEq,true_and,and_true] at hj
  have:j=i:=by omega
  rw [this]) hi
noncomputable def kU (h:Hal) (s:Stg):PC:=ins 81 (one [h.av] ⟨.tup [.asl 0 0 (sl (surf h)).length,I 0],[(1,sl (surf h))]⟩) (ins 82 (cAr h s) pt0)
theorem Zuw {h:Hal} {s:Stg} (g:Sit h s) (e:serr h s=0) {i:Nat} (hi:i<nsN h):surE h s i=0:=by
 have:=Zn8 h
 exact Zxu e (by omega) (by omega)
theorem Ya8 {h:Hal} {s:Stg} (e:serr h s=0):h.err=0:=by
 unfold serr at e
 by_cases z:h.err=0
 ·exact z
 ·rw [if_neg z] at e; exact absurd e z
theorem Yb7 {h:Hal} {s:Stg} (g:Sit h s) (e:serr h s=0):PCOK Tryz.prog (kU h s):=by
 refine Zi (c64n g.ok (Ya8 e)) (Ya (fun i hi=>?_) Zf)
 have h56:=c56 g.ok g.sf (i:Int)
 have e0:=Zuw g e hi
 have e1:Zh5 h s i=Zk h i:=by unfold Zh5; rw [if_pos e0]
 rw [e0,e1] at h56
 exact h56
theorem Yca {h:Hal} {s:Stg} (g:Sit h s) (e:serr h s=0):ItOK Tryz.prog 53 [.agg (stgL h s)] [] (arX h):=by
 have hk:=Yb7 g e
 have l1:=Zup h
 have l2:=Xq h.ks
 obtain ⟨f1,f2,f3,f4,f5,f6⟩:=g.ok.f
 have hns:nsN h<10000:=by unfold nsN; omega
 have wn:Qa Qb (((sl (surf h)).length:Int)-((h.ks.map Can.av).length:Int))=((h.ws.length+2:Nat):Int):=by rw [l1,l2]; unfold nsN; rw [W_eq (by omega) (by omega)]; omega
 refine bs.iter hk Tryz.func53 (by kernel_rfl) rfl (by kernel_rfl) fun B Ig l JX hI=>?_
 refine Wq (x:=⟨.tup [.asl 0 0 (sl (surf h)).length,I 0],[(1,sl (surf h))]⟩) (Zgv _ _) ?_
 refine Zy8 (b:=Zcy (.tup [.asl 0 0 (sl (surf h)).length,I 0])&&Uz [(1,sl (surf h))]) (by simp [Zcy,Zmp,Uz,Zrg]) ?_
 refine Zsq (S:=Nat) (fun k=>nsN h-k) (fun k=>[(1,.yld l),(2,.ptr 0 0 0),(4,.asl 1 0 (sl (surf h)).length),(17,I (sl (surf h)).length),(18,I k)]) (fun _=>[(0,.row 11 [stgL h s] true false),(1,.row 1 (sl (surf h)) true true)]) (fun k=>some ((arX h).drop k)) 2 2 (fun k=>k<=nsN h) ?_ 0 (Qk _) [] rfl ?_ ?_ rfl
 ·intro k hk2
  have hw:Qa Qb ((k:Int)+1)=((k+1:Nat):Int):=Zg (by omega)
  refine bs.awpi hk hI ?_
  refine Br.dec (fun hlt=>?_) (fun hge=>?_)
  ·have hlt:k<nsN h:=by rw [l1] at hlt; omega
   rw [Zjx hlt]
   refine Wq (Ybl hlt) ?_
   refine Br.intro (fun c=>?_) (fun c=>?_)
   ·have c:Qa Qb (((sl (surf h)).length:Int)-((h.ks.map Can.av).length:Int))<=(k:Int):=of_decide_eq_true c
    rw [show sd h k=2 from if_neg (by omega)]
    refine ⟨rfl,rfl,rfl,rfl,?_,?_⟩
    ·refine ⟨k+1,[],rfl,?_,?_,by omega,by omega,rfl⟩
     ·rw [<-hw]; exact kps
     ·exact kps
    ·exact ⟨.inr rfl,.inr rfl,[],rfl⟩
   ·have c:¬ Qa Qb (((sl (surf h)).length:Int)-((h.ks.map Can.av).length:Int))<=(k:Int):=of_decide_eq_false c
    rw [show sd h k=1 from if_pos (by omega)]
    refine ⟨rfl,rfl,rfl,rfl,?_,?_⟩
    ·refine ⟨k+1,[],rfl,?_,?_,by omega,by omega,rfl⟩
     ·rw [<-hw]; exact kps
     ·exact kps
    ·exact ⟨.inr rfl,.inr rfl,[],rfl⟩
  ·have:k=nsN h:=by rw [l1] at hge; omega
   subst this
   refine ⟨.inl rfl,.inl ?_,[],rfl⟩
   rw [Qj (by rw [Znr]; exact Qd _)]
 ·exact kps
 ·exact kps
def srG (h:Hal) (f:Int->Int × Int):Nat->Nat->Int × Int->Int × Int
 | _,0,r=>r
 | k,c+1,r=>srG h f (k+1) c (Qa Qb (r.1+Qa Qb ((f k).1*sd h k)),Qa Qb (r.2+Qa Qb ((f k).2*sd h k)))
noncomputable def srV (h:Hal):Int × Int:=srG h (Zk h) 0 (nsN h) (0,0)
theorem d168 (a b:Int):PCall Tryz.prog 52 [I a,I b] ⟨P2 a b,[]⟩:=by
 refine pn Zf Tryz.func52 ?_
 repeat'(first|refine wk3 ?_|(refine wk2 ?_ ?_<;>intro _)|fail)
 exact Zd rfl rfl
def r168:List AV->Option PRes
 | [.int .i64 a,.int .i64 b]=>some ⟨P2 a b,[]⟩
 | _=>none
def kU1:PC:=ins 52 r168 pt0
theorem Zw0:PCOK Tryz.prog kU1:=by
 refine Zj (fun a res h=>?_) Zf
 unfold r168 at h; split at h<;>cases h; exact d168 _ _
theorem d187 (a b c d:Int):PCall Tryz.prog 54 [P2 a b,P2 c d] ⟨P2 (Qa Qb (a+c)) (Qa Qb (b+d)),[]⟩:=by
 refine pn Zw0 Tryz.func54 ?_
 repeat'(first|refine wk3 ?_|(refine wk2 ?_ ?_<;>intro _)|fail)
 exact Zd rfl rfl
def r187:List AV->Option PRes
 | [.agg [.int .i64 a,.int .i64 b],.agg [.int .i64 c,.int .i64 d]]=>some ⟨P2 (Qa Qb (a+c)) (Qa Qb (b+d)),[]⟩
 | _=>none
def kU2:PC:=ins 54 r187 kU1
theorem Zsd:PCOK Tryz.prog kU2:=by
 refine Zj (fun a res h=>?_) Zw0
 unfold r187 at h; split at h<;>cases h; exact d187 _ _ _ _
theorem d137 {h:Hal} {s:Stg} (g:Sit h s) (e:serr h s=0):PCall Tryz.prog 25 [.agg (stgL h s)] ⟨P2 (srV h).1 (srV h).2,[]⟩:=by
 refine pn Zsd Tryz.func25 ?_
 repeat'(first|refine wk3 ?_|(refine wk2 ?_ ?_<;>intro _)|fail)
 refine Rg.ren (env2:=[(2,.ptr 1 0 0),(3,.ptr 2 0 0),(8,.func 53 [.agg (stgL h s)] [])]) (σ2:=⟨[(2,.row 2 [[I 0,I 0]] true false),(1,.row 2 [[I 0,I 0]] true false)],3⟩) (Ren.of [] rfl (kps) (kps)) ?_
 refine rngV (Yca g e) rfl rfl rfl rfl (Zdi (S:=Int × Int) (fun s=>[(2,.row 2 [[I s.1,I s.2]] true false),(1,.row 2 [[I 0,I 0]] true false)]) 3 3 (fun xs s=>∃ k,k<=nsN h/\xs=(arX h).drop k/\srG h (Zk h) k (nsN h-k) s=srV h) ?_ ?_ _ (0,0) ⟨0,Qk _,rfl,rfl⟩)
 ·rintro x xs ⟨lo,hi'⟩ ⟨k,hk,h1,h2⟩
  dsimp only at h1 h2 ⊢
  by_cases hlt:k<nsN h
  ·rw [Zjx hlt] at h1
   obtain ⟨rfl,rfl⟩:=List.cons.inj h1
   rw [show nsN h-k=(nsN h-(k+1))+1 by omega,srG] at h2
   generalize Zk h k=a at *
   generalize sd h k=d at *
   refine ⟨rfl,bs.av (sx:=nos) Zsd ?_⟩
   repeat'(first|refine wk3 ?_|(refine wk2 ?_ ?_<;>intro _)|fail)
   refine Bd.mk (bs.av (sx:=nos) Zsd ?_)
   repeat'(first|refine wk3 ?_|(refine wk2 ?_ ?_<;>intro _)|fail)
   exact Qr ⟨_,[],rfl,kps,k+1,hlt,rfl,h2⟩
  ·rw [Qj (by rw [Znr]; omega)] at h1
   cases h1
 ·rintro ⟨lo,hi'⟩ ⟨k,hk,h1,h2⟩
  dsimp only at h1 h2 ⊢
  by_cases hlt:k<nsN h
  ·rw [Zjx hlt] at h1
   cases h1
  ·rw [show nsN h-k=0 by omega,srG] at h2
   rw [<-h2]
   repeat'(first|refine wk3 ?_|(refine wk2 ?_ ?_<;>intro _)|fail)
   exact Zd rfl rfl
theorem sk_n {h:Hal} {i:Nat} (hi:i<nsN h):SK h (i:Int):=Zur (by omega) (by have:=Zn8 h; omega)
theorem Zwg {h:Hal} (g:h.fine):1<=(Zk h ((0:Nat):Int)).1/\1<=(Zk h ((0:Nat):Int)).2:=by
 have hle:=g.le
 have h0:0<h.ws.length:=by omega
 have h1:0<h.cs.length:=by omega
 rw [Zct h0]
 obtain ⟨n,sx,sy,hs⟩:=g.st 0 h1
 obtain ⟨q1,q2,q3⟩:=Zx6 g h1
 obtain ⟨r1,r2,r3⟩:=Zfv q1
 have hq:0<qn h 0:=by
  unfold qn
  have hht:=g.ht
  have e1:(wlOf h.cs 0).dx=n*sx:=by
   unfold Wl.dx
   have:=hs.tx; have:=hs.b1; have:=hs.b3
   rw [W_eq (by omega) (by omega)]; omega
  have e2:(wlOf h.cs 0).dy=n*sy:=by
   unfold Wl.dy
   have:=hs.ty; have:=hs.b2; have:=hs.b4
   rw [W_eq (by omega) (by omega)]; omega
  have hn:=hs.hn
  have hnn:0<n*n:=Nv hn hn
  have p:0<(wlOf h.cs 0).dx*(wlOf h.cs 0).dx+(wlOf h.cs 0).dy*(wlOf h.cs 0).dy:=by
   rw [e1,e2]
   rcases hs.hx with rfl|rfl|rfl<;>rcases hs.hy with rfl|rfl|rfl
   ·exact absurd ⟨rfl,rfl⟩ hs.hxy
   all_goals (simp only [Int.mul_zero,Rw,Int.mul_neg,Int.neg_mul,Int.neg_neg]; omega)
  exact Nv (Nv p (by omega)) (by omega)
 have hi:1<=isq (qn h 0):=by
  by_cases c:1<=isq (qn h 0)
  ·exact c
  ·have:isq (qn h 0)=0:=by omega
   rw [this] at r3
   omega
 unfold cr
 dsimp only
 split<;>omega
theorem Zrl (h:Hal) (i:Nat):sd h i=1\/sd h i=2:=by unfold sd; split<;>simp
theorem Zwp {h:Hal} {s:Stg} (g:Sit h s):∀ (c k:Nat) (r:Int × Int),k+c=nsN h->0<=r.1->r.1<=700000000*k->0<=r.2->r.2<=700000000*k ->
  (r.1<=(srG h (Zk h) k c r).1/\(srG h (Zk h) k c r).1<=700000000*(nsN h:Int))/\(r.2<=(srG h (Zk h) k c r).2/\(srG h (Zk h) k c r).2<=700000000*(nsN h:Int))
 | 0,k,r,hk,a,b,c,d=>by rw [srG]; exact ⟨⟨Ob _,by omega⟩,⟨Ob _,by omega⟩⟩
 | c+1,k,r,hk,a,b,e,d=>by
  obtain ⟨⟨x1,x2⟩,⟨y1,y2⟩⟩:=Zbj g (sk_n (h:=h) (i:=k) (by omega))
  have hf:nsN h<10000:=by obtain ⟨f1,f2,f3,f4,f5,f6⟩:=g.ok.f; unfold nsN; omega
  have hx:Qa Qb (r.1+Qa Qb ((Zk h k).1*sd h k))=r.1+(Zk h k).1*sd h k/\0<=(Zk h k).1*sd h k/\(Zk h k).1*sd h k<=600000002:=by
   rcases Zrl h k with q|q<;>rw [q]<;>(rw [W_eq (n:=(Zk h k).1*_) (by omega) (by omega),W_eq (by omega) (by omega)]; omega)
  have hy:Qa Qb (r.2+Qa Qb ((Zk h k).2*sd h k))=r.2+(Zk h k).2*sd h k/\0<=(Zk h k).2*sd h k/\(Zk h k).2*sd h k<=600000002:=by
   rcases Zrl h k with q|q<;>rw [q]<;>(rw [W_eq (n:=(Zk h k).2*_) (by omega) (by omega),W_eq (by omega) (by omega)]; omega)
  have ih:=Zwp g c (k+1) (Qa Qb (r.1+Qa Qb ((Zk h k).1*sd h k)),Qa Qb (r.2+Qa Qb ((Zk h k).2*sd h k))) (by omega) (by dsimp only; omega) (by dsimp only; omega) (by dsimp only; omega) (by dsimp only; omega)
  rw [srG]
  dsimp only at ih
  omega
theorem Zzs {h:Hal} {s:Stg} (g:Sit h s):(1<=(srV h).1/\(srV h).1<=7000000000000)/\(1<=(srV h).2/\(srV h).2<=7000000000000):=by
 have hle:=g.fine.le
 have hf:nsN h<10000:=by obtain ⟨f1,f2,f3,f4,f5,f6⟩:=g.ok.f; unfold nsN; omega
 have hn:nsN h=(nsN h-1)+1:=by unfold nsN; omega
 obtain ⟨p1,p2⟩:=Zwg g.fine
 obtain ⟨⟨x1,x2⟩,⟨y1,y2⟩⟩:=Zbj g (sk_n (h:=h) (i:=0) (by omega))
 have hs:sd h 0=1:=by unfold sd; rw [if_pos (by omega)]
 have e:srV h=srG h (Zk h) 1 (nsN h-1) ((Zk h ((0:Nat):Int)).1,(Zk h ((0:Nat):Int)).2):=by
  unfold srV
  rw [hn,srG,hs,Rw,Rw,W_eq (n:=(Zk h ((0:Nat):Int)).1) (by omega) (by omega),W_eq (n:=(Zk h ((0:Nat):Int)).2) (by omega) (by omega),Sz,Sz,W_eq (by omega) (by omega),W_eq (by omega) (by omega)]
  rfl
 have b:=Zwp g (nsN h-1) 1 ((Zk h ((0:Nat):Int)).1,(Zk h ((0:Nat):Int)).2) (by omega) (by dsimp only; omega) (by dsimp only; omega) (by dsimp only; omega) (by dsimp only; omega)
 rw [e]
 dsimp only at b
 omega
def abvU (n b:Int):Int:=Qa Qb ((Qa Qb (Qa Qb (n+b)-1)).tdiv b)
theorem d135 {n b:Int} (hb:0<b):PCall Tryz.prog 28 [I n,I b] ⟨I (abvU n b),[]⟩:=by
 have hz:¬ b=0:=by omega
 refine pn Zf Tryz.func28 ?_
 repeat'(first|refine wk3 ?_|(refine wk2 ?_ ?_<;>intro _)|fail)
 all_goals exact Zb rfl
def rAbU:List AV->Option PRes
 | [.int .i64 n,.int .i64 b]=>asr (decide (0<b)) ⟨I (abvU n b),[]⟩
 | _=>none
theorem Ycp (n lo hi:Int):PCall Tryz.prog 31 [I n,I lo,I hi] ⟨Bo (within n lo hi),[]⟩:=by
 refine pn Zf Tryz.func31 ?_
 repeat'(first|refine wk3 ?_|(refine wk2 ?_ ?_<;>intro _)|fail)
 all_goals exact Zc (by simp_all [within]<;>omega)
theorem d38u (n lo hi:Int):PCall Tryz.prog 7 [I n,I lo,I hi] ⟨Bo (within n lo hi),[]⟩:=c30 n lo hi
def rWu:List AV->Option PRes
 | [.int .i64 n,.int .i64 lo,.int .i64 hi]=>some ⟨Bo (within n lo hi),[]⟩
 | _=>none
def kV0:PC:=ins 7 rWu (ins 31 rWu pt0)
theorem Yae:PCOK Tryz.prog kV0:=by
 refine Zj (fun a res h=>?_) (Zj (fun a res h=>?_) Zf)
 ·unfold rWu at h; split at h<;>cases h; exact d38u _ _ _
 ·unfold rWu at h; split at h<;>cases h; exact Ycp _ _ _
def airE (b a v:Int):Int:=if within b 0 3 then (if within a 0 100000&&within v 30000 40000 then 0 else 2) else 6
theorem d88 (b a v:Int):PCall Tryz.prog 50 [P3 b a v] ⟨I (airE b a v),[]⟩:=by
 unfold airE
 cases h1:within b 0 3<;>cases h2:within a 0 100000<;>cases h3:within v 30000 40000
 all_goals
  refine pn Yae Tryz.func50 ?_
  repeat'(first|refine wk3 ?_|(refine wk2 ?_ ?_<;>intro _)|fail)
 all_goals first
  | exact Zb rfl
  | (refine Zb ?_; simp_all; done)
  | (exfalso; simp_all; done)
def dvF (sh left:Int):Int:=Qa Qb ((Qa Qb (left*sh)).tdiv 1000000)
def dvC (sh left:Int):Int:=abvU (Qa Qb (left*sh)) 1000000
theorem d145 {n b:Int} (hb:0<b):PCall Tryz.prog 27 [I n,I b] ⟨I (Qa Qb (n.tdiv b)),[]⟩:=by
 have hz:¬ b=0:=by omega
 refine pn Zf Tryz.func27 ?_
 repeat'(first|refine wk3 ?_|(refine wk2 ?_ ?_<;>intro _)|fail)
 all_goals exact Zb rfl
def Zz2:List AV->Option PRes
 | [.int .i64 n,.int .i64 b]=>asr (decide (0<b)) ⟨I (Qa Qb (n.tdiv b)),[]⟩
 | _=>none
def kH:PC:=ins 27 Zz2 (ins 28 rAbU pt0)
theorem Zvc:PCOK Tryz.prog kH:=by
 refine Zj (fun a res h=>?_) (Zj (fun a res h=>?_) Zf)
 ·unfold Zz2 at h; split at h
  ·obtain ⟨h1,h2⟩:=Xc h; subst h2; exact d145 (of_decide_eq_true h1)
  ·cases h
 ·unfold rAbU at h; split at h
  ·obtain ⟨h1,h2⟩:=Xc h; subst h2; exact d135 (of_decide_eq_true h1)
  ·cases h
def htV (r:Option Nat):Int × Int:=match r with
 | some n=>((n:Int),0)
 | none=>(0,8)
theorem Yck (sh:Int):PCall Tryz.prog 26 [I sh,.func 27 [] []] ⟨.tup [I (htV (Oh (dvF sh) 0 1001 1000000000000)).1,I (htV (Oh (dvF sh) 0 1001 1000000000000)).2],[]⟩:=by
 refine pn Zvc Tryz.func26 ?_
 repeat'(first|refine wk3 ?_|(refine wk2 ?_ ?_<;>intro _)|fail)
 refine Zo (S:=Nat × Int × Int) (fun t=>1001-t.1) (fun t=>[(0,I sh),(1,.func 27 [] []),(6,I t.2.2),(8,I t.2.1)]) (fun _=>[]) 0 0 (fun t=>t.2.1=t.1/\t.1<=1001/\Oh (dvF sh) t.1 (1001-t.1) t.2.2=Oh (dvF sh) 0 1001 1000000000000) (0,0,1000000000000) ⟨rfl,Qk _,rfl⟩ (Qd _) [] rfl (kps) (kps) ?_
 rintro ⟨k,i,left⟩ ⟨hi,hk,hh⟩
 dsimp only at hi hk hh ⊢
 subst hi
 generalize Oh (dvF sh) 0 1001 1000000000000=R at *
 refine bs.av (sx:=nos) Zvc ?_
 by_cases hlt:k<1001
 ·rw [En.hitG_step hlt] at hh
  by_cases c:left<=1000000
  ·rw [if_pos c] at hh
   repeat'(first|refine wk3 ?_|(refine wk2 ?_ ?_<;>intro _)|fail)
   exact Zd (by rw [<-hh]; rfl) rfl
  ·rw [if_neg c] at hh
   repeat'(first|refine wk3 ?_|(refine wk2 ?_ ?_<;>intro _)|fail)
   exact Qr ⟨(k+1,_,_),[],rfl,kps,kps,⟨Zg (by omega),hlt,hh⟩,by dsimp only; omega⟩
 ·rw [show 1001-k=0 by omega,Oh] at hh
  repeat'(first|refine wk3 ?_|(refine wk2 ?_ ?_<;>intro _)|fail)
  exact Zd (by rw [<-hh]; rfl) rfl
theorem Ycl (sh:Int):PCall Tryz.prog 26 [I sh,.func 28 [] []] ⟨.tup [I (htV (Oh (dvC sh) 0 1001 1000000000000)).1,I (htV (Oh (dvC sh) 0 1001 1000000000000)).2],[]⟩:=by
 refine pn Zvc Tryz.func26 ?_
 repeat'(first|refine wk3 ?_|(refine wk2 ?_ ?_<;>intro _)|fail)
 refine Zo (S:=Nat × Int × Int) (fun t=>1001-t.1) (fun t=>[(0,I sh),(1,.func 28 [] []),(6,I t.2.2),(8,I t.2.1)]) (fun _=>[]) 0 0 (fun t=>t.2.1=t.1/\t.1<=1001/\Oh (dvC sh) t.1 (1001-t.1) t.2.2=Oh (dvC sh) 0 1001 1000000000000) (0,0,1000000000000) ⟨rfl,Qk _,rfl⟩ (Qd _) [] rfl (kps) (kps) ?_
 rintro ⟨k,i,left⟩ ⟨hi,hk,hh⟩
 dsimp only at hi hk hh ⊢
 subst hi
 generalize Oh (dvC sh) 0 1001 1000000000000=R at *
 refine bs.av (sx:=nos) Zvc ?_
 by_cases hlt:k<1001
 ·rw [En.hitG_step hlt] at hh
  by_cases c:left<=1000000
  ·rw [if_pos c] at hh
   repeat'(first|refine wk3 ?_|(refine wk2 ?_ ?_<;>intro _)|fail)
   exact Zd (by rw [<-hh]; rfl) rfl
  ·rw [if_neg c] at hh
   repeat'(first|refine wk3 ?_|(refine wk2 ?_ ?_<;>intro _)|fail)
   exact Qr ⟨(k+1,_,_),[],rfl,kps,kps,⟨Zg (by omega),hlt,hh⟩,by dsimp only; omega⟩
 ·rw [show 1001-k=0 by omega,Oh] at hh
  repeat'(first|refine wk3 ?_|(refine wk2 ?_ ?_<;>intro _)|fail)
  exact Zd (by rw [<-hh]; rfl) rfl
theorem Yco (b:Bool) (e:Int):PCall Tryz.prog 30 [Bo b,I e] ⟨I (unl b e),[]⟩:=by
 refine pn Zf Tryz.func30 ?_
 repeat'(first|refine wk3 ?_|(refine wk2 ?_ ?_<;>intro _)|fail)
 all_goals exact Zb (by simp_all [unl])
def Zz3:List AV->Option PRes
 | [.bool b,.int .i64 e]=>some ⟨I (unl b e),[]⟩
 | _=>none
def r88:List AV->Option PRes
 | [.agg [.int .i64 b,.int .i64 a,.int .i64 v]]=>some ⟨I (airE b a v),[]⟩
 | _=>none
noncomputable def kAb (h:Hal) (s:Stg) (b:Int):PC:=ins 30 Zz3 (ins 50 r88 (ins 49 (one [h.av,s.av] ⟨I (serr h s),[]⟩) (ins 51 (one [h.av,s.av,I b] ⟨.tup [.agg [I (absA h s b).1,I (absA h s b).2],I (Zh4 h s b)],[]⟩) pt0)))
theorem Yan {h:Hal} {s:Stg} (hk:h.ok) (hs:s.few) (b:Int):PCOK Tryz.prog (kAb h s b):=by
 refine Zj (fun a res h=>?_) (Zj (fun a res h=>?_) (Zi (c47 hk hs) (Zi (c28 hk hs b) Zf)))
 ·unfold Zz3 at h; split at h<;>cases h; exact Yco _ _
 ·unfold r88 at h; split at h<;>cases h; exact d88 _ _ _
noncomputable def abE (h:Hal) (s:Stg) (b a v:Int):Int:=if serr h s≠0 then serr h s else if airE b a v≠0 then airE b a v else unl (decide (0<(absA h s b).1)) 11
noncomputable def abV (h:Hal) (s:Stg) (b a v:Int):Int × Int:=if serr h s≠0 then (0,0) else if airE b a v≠0 then (0,0) else absA h s b
abbrev sxA:FuncId->Bool:=fun f=>Nat.beq f 47||Nat.beq f 48
theorem d143 {h:Hal} (hk:h.ok) {s:Stg} (hs:s.few) (b a v:Int):PCall Tryz.prog 24 [h.av,s.av,P3 b a v] ⟨.tup [P2 (abV h s b a v).1 (abV h s b a v).2,I (abE h s b a v)],[]⟩:=by
 have hA:=Yan hk hs b
 by_cases z:serr h s=0
 rotate_left
 ·rw [show abV h s b a v=(0,0) by unfold abV; rw [if_pos z],show abE h s b a v=serr h s by unfold abE; rw [if_pos z]]
  unfold kAb at hA
  generalize serr h s=E at *
  refine bs.pv (sx:=sxA) hA Tryz.func24 (by kernel_rfl) (by kernel_rfl) rfl ?_
  repeat'(first|refine wk3 ?_|(refine wk2 ?_ ?_<;>intro _)|fail)
  refine bs.sv (sx:=sxA) hA Tryz.func47 (by kernel_rfl) (by kernel_rfl) ?_
  repeat'(first|refine wk3 ?_|(refine wk2 ?_ ?_<;>intro _)|fail)
  refine Tx 3 ?_
  refine Rn (bs.av (sx:=sxA) hA ?_)
  repeat'(first|refine wk3 ?_|(refine wk2 ?_ ?_<;>intro _)|fail)
  refine bs.sv (sx:=sxA) hA Tryz.func48 (by kernel_rfl) (by kernel_rfl) ?_
  repeat'(first|refine wk3 ?_|(refine wk2 ?_ ?_<;>intro _)|fail)
  all_goals exact Zd rfl rfl
 unfold kAb at hA
 rw [z] at hA
 by_cases y:airE b a v=0
 rotate_left
 ·rw [show abV h s b a v=(0,0) by unfold abV; rw [if_neg (fun c=>c z),if_pos y],show abE h s b a v=airE b a v by unfold abE; rw [if_neg (fun c=>c z),if_pos y]]
  refine bs.pv (sx:=sxA) hA Tryz.func24 (by kernel_rfl) (by kernel_rfl) rfl ?_
  repeat'(first|refine wk3 ?_|(refine wk2 ?_ ?_<;>intro _)|fail)
  refine bs.sv (sx:=sxA) hA Tryz.func47 (by kernel_rfl) (by kernel_rfl) ?_
  repeat'(first|refine wk3 ?_|(refine wk2 ?_ ?_<;>intro _)|fail)
  refine Tx 3 ?_
  refine Rn (bs.av (sx:=sxA) hA ?_)
  repeat'(first|refine wk3 ?_|(refine wk2 ?_ ?_<;>intro _)|fail)
  refine bs.sv (sx:=sxA) hA Tryz.func48 (by kernel_rfl) (by kernel_rfl) ?_
  repeat'(first|refine wk3 ?_|(refine wk2 ?_ ?_<;>intro _)|fail)
  refine Rn (bs.av (sx:=sxA) hA ?_)
  repeat'(first|refine wk3 ?_|(refine wk2 ?_ ?_<;>intro _)|fail)
  all_goals exact Zd rfl rfl
 rw [show abV h s b a v=absA h s b by unfold abV; rw [if_neg (fun c=>c z),if_neg (fun c=>c y)],show abE h s b a v=unl (decide (0<(absA h s b).1)) 11 by unfold abE; rw [if_neg (fun c=>c z),if_neg (fun c=>c y)]]
 generalize absA h s b=A at *
 refine bs.pv (sx:=sxA) hA Tryz.func24 (by kernel_rfl) (by kernel_rfl) rfl ?_
 repeat'(first|refine wk3 ?_|(refine wk2 ?_ ?_<;>intro _)|fail)
 refine bs.sv (sx:=sxA) hA Tryz.func47 (by kernel_rfl) (by kernel_rfl) ?_
 repeat'(first|refine wk3 ?_|(refine wk2 ?_ ?_<;>intro _)|fail)
 refine Tx 3 ?_
 refine Rn (bs.av (sx:=sxA) hA ?_)
 repeat'(first|refine wk3 ?_|(refine wk2 ?_ ?_<;>intro _)|fail)
 refine bs.sv (sx:=sxA) hA Tryz.func48 (by kernel_rfl) (by kernel_rfl) ?_
 repeat'(first|refine wk3 ?_|(refine wk2 ?_ ?_<;>intro _)|fail)
 refine Rn (bs.av (sx:=sxA) hA ?_)
 repeat'(first|refine wk3 ?_|(refine wk2 ?_ ?_<;>intro _)|fail)
 refine Rn (bs.av (sx:=sxA) hA ?_)
 repeat'(first|refine wk3 ?_|(refine wk2 ?_ ?_<;>intro _)|fail)
 all_goals exact Zd rfl rfl
theorem Zjw {h:Hal} {s:Stg} (g:Sit h s) {i:Int} (hi:SK h i):(Zk h i).1<=(Zk h i).2:=by
 cases hi with
 | wall k hk =>
  rw [Zct hk]
  unfold cr
  dsimp only
  split<;>omega
 | floor=>rw [Zdt]; dsimp only; omega
 | ceil=>rw [Ze4]; dsimp only; omega
 | can j hj =>
  rw [Zhm hj]
  dsimp only; omega
noncomputable def arS (h:Hal):Nat->Int × Int
 | 0=>(0,0)
 | k+1=>((arS h k).1+(Zk h k).1*sd h k,(arS h k).2+(Zk h k).2*sd h k)
theorem Zt4 {h:Hal} {s:Stg} (g:Sit h s):∀ k:Nat,k<=nsN h->(0<=(arS h k).1/\(arS h k).1<=(arS h k).2)/\(arS h k).2<=700000000*k
 | 0,_=>by simp [arS]
 | k+1,hk=>by
  have ih:=Zt4 g k (by omega)
  obtain ⟨⟨x1,x2⟩,⟨y1,y2⟩⟩:=Zbj g (sk_n (h:=h) (i:=k) (by omega))
  have l:=Zjw g (sk_n (h:=h) (i:=k) (by omega))
  rw [arS]
  dsimp only
  rcases Zrl h k with q|q<;>rw [q]<;>omega
theorem Zrd {h:Hal} {s:Stg} (g:Sit h s):∀ (c k:Nat),k+c=nsN h->srG h (Zk h) k c (arS h k)=arS h (nsN h)
 | 0,k,hk=>by rw [srG,<-hk,Nat.add_zero]
 | c+1,k,hk=>by
  have hf:nsN h<10000:=by obtain ⟨f1,f2,f3,f4,f5,f6⟩:=g.ok.f; unfold nsN; omega
  obtain ⟨⟨x1,x2⟩,⟨y1,y2⟩⟩:=Zbj g (sk_n (h:=h) (i:=k) (by omega))
  have b:=Zt4 g k (by omega)
  rw [srG]
  rw [show (Qa Qb ((arS h k).1+Qa Qb ((Zk h k).1*sd h k)),Qa Qb ((arS h k).2+Qa Qb ((Zk h k).2*sd h k)))=arS h (k+1) by
   rw [arS]
   rcases Zrl h k with q|q<;>rw [q]<;>rw [W_eq (n:=(Zk h k).1*_) (by omega) (by omega),W_eq (n:=(Zk h k).2*_) (by omega) (by omega),W_eq (by omega) (by omega),W_eq (by omega) (by omega)]]
  exact Zrd g c (k+1) (by omega)
theorem Zrc {h:Hal} {s:Stg} (g:Sit h s):srV h=arS h (nsN h):=by
 unfold srV
 exact Zrd g (nsN h) 0 (by omega)
theorem Zzd {h:Hal} {s:Stg} (g:Sit h s) (b:Int) {k:Nat} (hk:k<nsN h):0<=absK h s b k/\absK h s b k<=1000*sd h k:=by
 have q:=Znt g (b:=b) (sk_n hk)
 refine ⟨q.2.1,?_⟩
 unfold absK sd isK
 by_cases c:k<h.ws.length+2
 ·rw [if_pos c,if_neg (by simp; omega)]; omega
 ·rw [if_neg c,if_pos (by simp; omega)]; omega
theorem Zq6 {h:Hal} {s:Stg} (g:Sit h s) (b:Int):∀ k:Nat,k<=nsN h->(0<=(sumS h s b k).1/\(sumS h s b k).1<=(sumS h s b k).2)/\(sumS h s b k).1<=1000*(arS h k).1/\(sumS h s b k).2<=1000*(arS h k).2
 | 0,_=>by simp [sumS,arS]
 | k+1,hk=>by
  have ih:=Zq6 g b k (by omega)
  have hi:=sk_n (h:=h) (i:=k) (by omega)
  obtain ⟨⟨x1,x2⟩,⟨y1,y2⟩⟩:=Zbj g hi
  have l:=Zjw g hi
  obtain ⟨c0,c1⟩:=Zzd g b (k:=k) (by omega)
  have m1:(Zk h k).1*absK h s b k<=(Zk h k).1*(1000*sd h k):=Rm c1 x1
  have m2:(Zk h k).2*absK h s b k<=(Zk h k).2*(1000*sd h k):=Rm c1 y1
  have m3:(Zk h k).1*absK h s b k<=(Zk h k).2*absK h s b k:=Ta l c0
  have n1:0<=(Zk h k).1*absK h s b k:=Rb x1 c0
  rw [Int.mul_left_comm] at m1 m2
  rw [sumS,arS]
  dsimp only
  rw [Oz,Oz]
  omega
theorem Zx1 {h:Hal} {s:Stg} (g:Sit h s) (b:Int):En.Rv (srV h) (absV h s b):=by
 obtain ⟨⟨p1,p2⟩,⟨p3,p4⟩⟩:=Zzs g
 have e:=Zrc g
 have hn:(nsur h).toNat=nsN h:=by have:=Zn8 h; omega
 have a:=Zt4 g (nsN h) (Qd _)
 have q:=Zq6 g b (nsN h) (Qd _)
 unfold absV
 rw [hn]
 rw [e] at p1 p2 p3 p4 ⊢
 refine ⟨p1,a.1.2,p4,?_,?_,?_,?_⟩<;>dsimp only<;>omega
theorem Ybc {sh x:Int} (h0:0<=sh) (h1:sh<=1000000) (x0:0<=x) (x1:x<=1000000000000):dvF sh x=En.dF sh x:=by
 obtain ⟨⟨a,b⟩,c,d⟩:=En.dF_bd h0 h1 x0 x1
 unfold En.dF at c d
 unfold dvF En.dF
 rw [W_eq (n:=x*sh) (by omega) (by omega),Ro a,W_eq (by omega) (by omega)]
theorem Ybd {sh x:Int} (h0:0<=sh) (h1:sh<=1000000) (x0:0<=x) (x1:x<=1000000000000):dvC sh x=En.dC sh x:=by
 obtain ⟨⟨a,b⟩,c,d⟩:=En.dC_bd h0 h1 x0 x1
 unfold En.dC at c d
 unfold dvC abvU En.dC
 rw [W_eq (n:=x*sh) (by omega) (by omega),W_eq (n:=x*sh+1000000) (by omega) (by omega),W_eq (n:=x*sh+1000000-1) (by omega) (by omega),Ro (by omega),show x*sh+1000000-1=x*sh+999999 by omega,W_eq (by omega) (by omega)]
theorem Zvj {sh:Int} (h0:0<=sh) (h1:sh<=1000000):Oh (dvF sh) 0 1001 1000000000000=En.hitsF sh :=
 Fl (fun x x0 x1=>⟨Ybc h0 h1 x0 x1,(En.dF_bd h0 h1 x0 x1).2⟩) _ _ _ (by omega) (by omega)
theorem Zvk {sh:Int} (h0:0<=sh) (h1:sh<=1000000):Oh (dvC sh) 0 1001 1000000000000=Di sh :=
 Fl (fun x x0 x1=>⟨Ybd h0 h1 x0 x1,(En.dC_bd h0 h1 x0 x1).2⟩) _ _ _ (by omega) (by omega)
structure Rg (h:Hal) (s:Stg) (b a v:Int):Prop where
 g:Sit h s
 z:serr h s=0
 air:airE b a v=0
 pos:1<=(absV h s b).1
theorem Zzb {b a v:Int} (h:airE b a v=0):within b 0 3=true/\(0<=a/\a<=100000)/\30000<=v/\v<=40000:=by
 unfold airE at h
 split at h
 ·rename_i hb
  split at h
  ·rename_i hc
   simp only [Qc] at hc
   exact ⟨hb,within_iff.1 hc.1,within_iff.1 hc.2⟩
  ·cases h
 ·cases h
theorem Zue {h:Hal} {s:Stg} {b a v:Int} (z:serr h s=0) (y:airE b a v=0):absA h s b=absV h s b:=by
 unfold absA Zh4
 rw [if_pos z,(Zzb y).1,if_pos rfl,if_pos rfl]
noncomputable abbrev hitX (h:Hal) (s:Stg) (b:Int):(Int × Int) × Int:=Dj (srV h) (absV h s b)
theorem Zz1:PCOK Tryz.prog (ins 28 rAbU pt0):=by
 refine Zj (fun a res h=>?_) Zf
 unfold rAbU at h; split at h
 ·obtain ⟨h1,h2⟩:=Xc h; subst h2; exact d135 (of_decide_eq_true h1)
 ·cases h
theorem Ycs {h:Hal} {s:Stg} {b a v:Int} (r:Rg h s b a v):abV h s b a v=absV h s b/\abE h s b a v=0:=by
 have e:=Zue (h:=h) (s:=s) r.z r.air
 have p:=r.pos
 unfold abV abE
 rw [if_neg (fun c=>c r.z),if_neg (fun c=>c r.air),if_neg (fun c=>c r.z),if_neg (fun c=>c r.air),e]
 exact ⟨rfl,by unfold unl; rw [decide_eq_true (by omega)]; rfl⟩
theorem Ybx {h:Hal} (hk:h.ok) {s:Stg} (hs:s.few) {b a v:Int} (e:abE h s b a v=0):Rg h s b a v:=by
 unfold abE at e
 by_cases z:serr h s=0
 rotate_left
 ·rw [if_pos z] at e; exact absurd e z
 rw [if_neg (fun c=>c z)] at e
 by_cases y:airE b a v=0
 rotate_left
 ·rw [if_pos y] at e; exact absurd e y
 rw [if_neg (fun c=>c y),Zue z y] at e
 refine ⟨Zri hk hs z,z,y,?_⟩
 by_cases c:0<(absV h s b).1
 ·omega
 ·unfold unl at e; rw [decide_eq_false c] at e; cases e
theorem Ybb {n b:Int} (h0:0<=n) (h1:n<=9000000000000000000) (hb:1<=b):Qa Qb (n.tdiv b)=n / b:=by
 have d1:=Int.ediv_nonneg h0 (show 0<=b by omega)
 have d2:=Int.ediv_le_self b h0
 rw [Ro h0,W_eq (by omega) (by omega)]
theorem Zzc {n b:Int} (h0:0<=n) (h1:n<=8000000000000000000) (hb:1<=b) (hb2:b<=1000000000000000000):abvU n b=(n+b-1) / b:=by
 unfold abvU
 rw [W_eq (n:=n+b) (by omega) (by omega),W_eq (n:=n+b-1) (by omega) (by omega),Ybb (by omega) (by omega) hb]
noncomputable def two (a1:List AV) (r1:PRes) (a2:List AV) (r2:PRes) (a:List AV):Option PRes:=by
 classical exact if a=a1 then some r1 else if a=a2 then some r2 else none
theorem Ybu (a1:List AV) (r1:PRes) (a2:List AV) (r2:PRes):two a1 r1 a2 r2 a1=some r1:=by unfold two; simp
theorem Ybt {a1 a2:List AV} (h:a2≠a1) (r1 r2:PRes):two a1 r1 a2 r2 a2=some r2:=by unfold two; simp [h]
theorem Zzp {f0:FuncId} {a1 a2:List AV} {r1 r2:PRes} {pt:PC} (h1:PCall Tryz.prog f0 a1 r1) (h2:PCall Tryz.prog f0 a2 r2) (h:PCOK Tryz.prog pt):PCOK Tryz.prog (ins f0 (two a1 r1 a2 r2) pt):=by
 refine Zj (fun a res hr=>?_) h
 unfold two at hr
 split at hr
 ·rename_i e; subst e; cases hr; exact h1
 ·split at hr
  ·rename_i e; subst e; cases hr; exact h2
  ·cases hr
theorem d68e {h:Hal} (hk:h.ok) {s:Stg} (hs:s.few) {b a v:Int} (e:abE h s b a v≠0):PCall Tryz.prog 12 [h.av,s.av,P3 b a v] ⟨.tup [P2 0 0,I (abE h s b a v)],[]⟩:=by
 have h0:=Zi (d143 hk hs b a v) Zf
 generalize abE h s b a v=E at *
 generalize abV h s b a v=A at *
 refine pn h0 Tryz.func12 ?_
 repeat'(first|refine wk3 ?_|(refine wk2 ?_ ?_<;>intro _)|fail)
 exact Zd rfl rfl
theorem Zvh (x:Int):imax 0 x=max 0 x:=by
 unfold imax
 by_cases c:0<x
 ·rw [decide_eq_true c]; dsimp only [cond_true]; omega
 ·rw [decide_eq_false c]; dsimp only [cond_false]; omega
theorem Yaa {S A:Int × Int} (r:En.Rv S A):Qa Qb ((Qa Qb (1000000*imax 0 (Qa Qb (S.1-A.2)))).tdiv S.1)=Dd S A:=by
 obtain ⟨s1,s2,s3,a1,a2,a3,a4⟩:=r
 unfold Dd
 rw [W_eq (n:=S.1-A.2) (by omega) (by omega),Zvh,W_eq (n:=1000000*_) (by omega) (by omega),Ybb (by omega) (by omega) s1]
theorem Yat {S A:Int × Int} (r:En.Rv S A):abvU (Qa Qb (1000000*Qa Qb (S.2-A.1))) S.2=Jg S A:=by
 obtain ⟨s1,s2,s3,a1,a2,a3,a4⟩:=r
 unfold Jg
 rw [W_eq (n:=S.2-A.1) (by omega) (by omega),W_eq (n:=1000000*_) (by omega) (by omega),Zzc (by omega) (by omega) (by omega) (by omega)]
theorem d68 {h:Hal} {s:Stg} {b a v:Int} (r:Rg h s b a v):PCall Tryz.prog 12 [h.av,s.av,P3 b a v] ⟨.tup [P2 (hitX h s b).1.1 (hitX h s b).1.2,I (hitX h s b).2],[]⟩:=by
 have g:=r.g
 have h143:=d143 g.ok g.sf b a v
 obtain ⟨e1,e2⟩:=Ycs r
 rw [e1,e2] at h143
 have h137:=d137 g r.z
 have rv:=Zx1 g b
 have hl:=En.loSh_bd rv
 have hh:=En.hiSh_bd rv
 have hlo:=fun k=>En.hits_lo (k:=k) rv
 have el:=Yaa rv
 have eh:=Yat rv
 obtain ⟨s1,s2,s3,a1,a2,a3,a4⟩:=rv
 have pos:=r.pos
 have hF:=Yck (Dd (srV h) (absV h s b))
 have hC:=Ycl (Jg (srV h) (absV h s b))
 rw [Zvj hl.1 hl.2,<-el] at hF
 rw [Zvk hh.1 hh.2,<-eh] at hC
 unfold hitX Dj
 rw [el] at hF
 rw [eh] at hC
 generalize srV h=S at *
 generalize absV h s b=A at *
 generalize hf:En.hitsF (Dd S A)=F at *
 generalize hc:Di (Jg S A)=C at *
 rw [<-el] at hF
 rw [<-eh] at hC
 have ha:rAbU [I (Qa Qb (1000000*Qa Qb (S.2-A.1))),I S.2]=some ⟨I (abvU (Qa Qb (1000000*Qa Qb (S.2-A.1))) S.2),[]⟩:=Ue (by omega)
 have hk0:=Zi h143 (Zi h137 (Zzp hF hC Zz1))
 clear hl hh el eh hf hc h143 h137
 have t1:=Ybu [I (Qa Qb ((Qa Qb (1000000*imax 0 (Qa Qb (S.1-A.2)))).tdiv S.1)),.func 27 [] []] ⟨.tup [I (htV F).1,I (htV F).2],[]⟩ [I (abvU (Qa Qb (1000000*Qa Qb (S.2-A.1))) S.2),.func 28 [] []] ⟨.tup [I (htV C).1,I (htV C).2],[]⟩
 have t2:=Ybt (a1:=[I (Qa Qb ((Qa Qb (1000000*imax 0 (Qa Qb (S.1-A.2)))).tdiv S.1)),.func 27 [] []]) (a2:=[I (abvU (Qa Qb (1000000*Qa Qb (S.2-A.1))) S.2),.func 28 [] []]) (by simp) ⟨.tup [I (htV F).1,I (htV F).2],[]⟩ ⟨.tup [I (htV C).1,I (htV C).2],[]⟩
 cases F with
 | none =>
  cases C with
  | none =>
   refine pn hk0 Tryz.func12 ?_
   repeat'(first|refine wk3 ?_|(refine wk2 ?_ ?_<;>intro _)|fail)
   all_goals exact Zd rfl rfl
  | some k=>obtain ⟨j,c,_⟩:=hlo k rfl; cases c
 | some j =>
  cases C with
  | none =>
   refine pn hk0 Tryz.func12 ?_
   repeat'(first|refine wk3 ?_|(refine wk2 ?_ ?_<;>intro _)|fail)
   all_goals exact Zd rfl rfl
  | some k =>
   refine pn hk0 Tryz.func12 ?_
   repeat'(first|refine wk3 ?_|(refine wk2 ?_ ?_<;>intro _)|fail)
   all_goals exact Zd rfl rfl
abbrev Hal.put (h:Hal) (l:List Mat):Hal:=⟨h.nm,h.ht,h.fl,h.ce,l,h.cs,h.ws,h.ks,h.ss⟩
def Zjd (b:Int):List Mat->List Mat->Prop
 | [],[]=>True
 | m::l,n::k=>(n.nm=m.nm/\Xx n=0/\True)/\Zjd b l k
 | _,_=>False
theorem Zgy {b:Int}:∀ {l k:List Mat},Zjd b l k->k.length=l.length
 | [],[],_=>rfl
 | m::l,n::k,h=>by rw [Ra,Ra,Zgy h.2]
theorem Zil {b:Int}:∀ {l k:List Mat} (i:Nat) (ns:List ByteArray),Zjd b l k->(Yp i ns l).2.1=0->Yp i ns k=Yp i ns l
 | [],[],_,_,_,_=>rfl
 | m::l,n::k,i,ns,h,h0=>by
  obtain ⟨⟨e1,e2,_⟩,h2⟩:=h
  rw [Yp] at h0 ⊢
  rw [Yp,e1]
  by_cases c:Zt m.nm ns=0
  ·rw [if_pos c] at h0 ⊢
   rw [if_pos c]
   by_cases d:Xx m=0
   ·rw [if_pos d] at h0 ⊢
    rw [if_pos e2]
    exact Zil (i+1) _ h2 h0
   ·rw [if_neg d] at h0
    exact absurd h0 d
  ·rw [if_neg c] at h0
   exact absurd h0 c
theorem Zkv {b:Int}:∀ {l k:List Mat},Zjd b l k->∀ n∈k,∃ m∈l,n.nm=m.nm
 | [],[],_,n,hn=>by simp at hn
 | m::l,n'::k,h,n,hn=>by
  rw [List.mem_cons] at hn
  rcases hn with rfl|hn
  ·exact ⟨m,Ow,h.1.1⟩
  ·obtain ⟨m',a,c⟩:=Zkv h.2 n hn
   exact ⟨m',Tm _ a,c⟩
theorem Zl8 (h:Hal) (k:List Mat) (ms:List ByteArray):∀ (l:List Can) (i:Nat) (ns:List ByteArray),Zbt (h.put k) ms i ns l=Zbt h ms i ns l
 | [],_,_=>rfl
 | c::l,i,ns=>by
  rw [Zbt,Zbt,Zl8 h k ms l,show cErr (h.put k) ms c=cErr h ms c from rfl]
theorem Zkh (h:Hal) (k:List Mat):∀ (l:List Sea) (i:Nat) (ns:List ByteArray),Za5 (h.put k) i ns l=Za5 h i ns l
 | [],_,_=>rfl
 | c::l,i,ns=>by
  rw [Za5,Za5,Zkh h k l,show Zgr (h.put k) c.x c.y c.z=Zgr h c.x c.y c.z from rfl]
theorem Zsx (h:Hal) (k:List Mat):∀ (l:List Int) (i:Nat),hgE (h.put k) i l=hgE h i l
 | [],_=>rfl
 | c::l,i=>by
  rw [hgE,hgE,Zsx h k l,show kLen (h.put k) i=kLen h i from rfl]
theorem Ztp (h:Hal) (k:List Mat):∀ (l:List Int) (p:Option Int),drE (h.put k) p l=drE h p l
 | [],_=>rfl
 | c::l,p=>by
  rw [drE,drE,Ztp h k l,show drOk (h.put k) c=drOk h c from rfl]
theorem Zuv (h:Hal) (k:List Mat) (s:Stg):setE (h.put k) s=setE h s:=by
 unfold setE
 rw [Zsx,Ztp]
theorem Zy4 {h:Hal} {b:Int} {k:List Mat} (hm:Zjd b h.ms k) (h0:h.err=0):(h.put k).err=0:=by
 unfold Hal.err chk Zno at h0 ⊢
 have hM:(Yp 0 [] h.ms).2.1=0:=by
  obtain ⟨_,h0⟩:=Yw h0
  obtain ⟨_,h0⟩:=Yw h0
  obtain ⟨_,h0⟩:=Yw h0
  exact (Yw h0).1
 have e:=Zil 0 [] hm hM
 have l:=Zgy hm
 have en:(h.put k).names=h.names:=by unfold Hal.names; rw [e]
 have ew:(h.put k).wal=h.wal:=by unfold Hal.wal; rw [en]
 have ec:(h.put k).can=h.can:=by unfold Hal.can; rw [en,ew,Zl8]
 have es:set7 (h.put k)=set7 h:=by unfold set7; rw [l]
 rw [e,en,ew,ec,es,Zkh]
 exact h0
theorem Zux {h:Hal} {b:Int} {k:List Mat} (hm:Zjd b h.ms k) {s:Stg} (h0:serr h s=0):serr (h.put k) s=0:=by
 unfold serr at h0 ⊢
 split at h0
 ·rename_i c
  rw [if_pos (Zy4 hm c),Zuv]
  exact h0
 ·rename_i c; exact absurd h0 c
theorem Zz5 {h:Hal} {b:Int} {k:List Mat} (hm:Zjd b h.ms k) (hk:h.ok):(h.put k).ok:=by
 obtain ⟨⟨f1,f2⟩,t1,t2,t3,t4,t5⟩:=hk
 refine ⟨⟨by have:=Zgy hm; show k.length<1000; omega,f2⟩,t1,fun n hn=>?_,t3,t4,t5⟩
 obtain ⟨m,a,c⟩:=Zkv hm n hn
 rw [c]; exact t2 m a
abbrev cpyM (h:Hal):AV:=.agg [.str h.nm,I h.ht,.str h.fl,.str h.ce,.asl 0 0 (h.ms.map Mat.av).length,.isl 2 (h.cs.map pt),.isl 3 (h.ws.map Wal.av),.isl 7 (h.ks.map Can.av),.isl 4 (h.ss.map Sea.av)]
theorem c22m {h:Hal} (hf:h.few):PCall Tryz.prog 11 [h.av] ⟨cpyM h,[(6,h.ms.map Mat.av)]⟩:=by
 have hc:=c22 hf
 unfold cpyV cpyB at hc
 cases hq:h.ks with
 | nil =>
  rw [hq] at hc
  refine Jl (p0:=(6,h.ms.map Mat.av)) hc ?_
  exact ⟨⟨rfl,rfl⟩,⟨rfl,rfl⟩,⟨rfl,rfl⟩,⟨rfl,rfl⟩,⟨rfl,rfl,rfl,rfl⟩,⟨⟨rfl,by decide⟩,rfl,rfl⟩,⟨⟨rfl,by decide⟩,rfl,rfl⟩,by rw [hq]; rfl,⟨⟨rfl,by decide⟩,rfl,rfl⟩,trivial⟩
 | cons c l =>
  rw [hq] at hc
  refine Jl (p0:=(6,h.ms.map Mat.av)) hc ?_
  exact ⟨⟨rfl,rfl⟩,⟨rfl,rfl⟩,⟨rfl,rfl⟩,⟨rfl,rfl⟩,⟨rfl,rfl,rfl,rfl⟩,⟨⟨rfl,by decide⟩,rfl,rfl⟩,⟨⟨rfl,by decide⟩,rfl,rfl⟩,⟨⟨by rw [hq]; rfl,by decide⟩,rfl,by rw [hq]⟩,⟨⟨rfl,by decide⟩,rfl,rfl⟩,trivial⟩
theorem Zrj {α:Type} (f:α->List AV) (l:List α) (i:Nat) (x:α):Zdg (l.map f) i (f x)=(l.set i x).map f:=by rw [Zi6,List.map_set]
theorem Zuu (l:List Mat) (k:Nat) (x:Mat):Zdg (l.map Mat.av) (0+((k:Nat):Int).toNat) (Mat.av x)=(l.set k x).map Mat.av:=by
 rw [Sg,Sk]
 exact Zrj Mat.av l k x
def Mat.even (m:Mat) (p:Int):Mat:=⟨m.nm,p,p,p,p,m.sc⟩
theorem Zvs (m:Mat) (p b:Int):absB (m.even p) b=p:=by
 unfold absB Mat.even
 dsimp only
 repeat' split
 all_goals rfl
def Hal.evn (h:Hal) (p:Int):List Mat:=h.ms.map fun m=>m.even p
theorem Zvr {m:Mat} (h:Xx m=0) {p:Int} (hp:0<=p/\p<=1000):Xx (m.even p)=0:=by
 have hv:thou p=true:=within_iff.2 hp
 unfold Xx at h ⊢
 split at h
 ·rename_i c
  simp only [Qc] at c
  unfold Mat.even
  dsimp only
  rw [if_pos (by simp [c,hv])]
 ·cases h
theorem Zkw {b p:Int} (hp:0<=p/\p<=1000):∀ {l:List Mat},(∀ m∈l,Xx m=0)->Zjd b l (l.map fun m=>m.even p)
 | [],_=>trivial
 | m::l,h=>⟨⟨rfl,Zvr (h m Ow) hp,trivial⟩,Zkw hp fun x hx=>h x (Tm _ hx)⟩
theorem Zze {h:Hal} {s:Stg} (g:Sit h s) {b p:Int} (hp:∀ m∈h.ms,absB m b=p) {k:Nat} (hk:k<nsN h):absK h s b k=p*sd h k:=by
 have e:=hp _ (Zoa g (sk_n (h:=h) (i:=k) hk))
 unfold absK sd isK
 rw [e]
 by_cases c:k<h.ws.length+2
 ·rw [if_pos c,if_neg (by simp; omega)]; omega
 ·rw [if_neg c,if_pos (by simp; omega)]
theorem Zq7 {h:Hal} {s:Stg} (g:Sit h s) {b p:Int} (p0:0<=p) (hp:∀ m∈h.ms,absB m b=p):∀ k:Nat,k<=nsN h->(sumS h s b k).1<=p*(arS h k).2
 | 0,_=>by simp [sumS,arS]
 | k+1,hk=>by
  have ih:=Zq7 g p0 hp k (by omega)
  have hi:=sk_n (h:=h) (i:=k) (by omega)
  have l:=Zjw g hi
  rw [sumS,arS]
  dsimp only
  rw [Zze g hp (by omega),Oz]
  have m1:(Zk h k).1*(p*sd h k)<=(Zk h k).2*(p*sd h k):=Ta l (Rb p0 (by rcases Zrl h k with q|q<;>rw [q]<;>omega))
  have e:(Zk h k).2*(p*sd h k)=p*((Zk h k).2*sd h k):=by rw [<-Wd,Int.mul_comm _ p,Wd]
  rw [e] at m1
  omega
theorem Ycc {h:Hal} {s:Stg} (g:Sit h s) {b p:Int} (p0:0<=p) (hp:∀ m∈h.ms,absB m b=p):1000*(1000-p)<=Jg (srV h) (absV h s b):=by
 have r:=Zx1 g b
 have e:=Zrc g
 have q:=Zq7 g p0 hp (nsN h) (Qd _)
 have hn:(nsur h).toNat=nsN h:=by have:=Zn8 h; omega
 have hA:1000*(absV h s b).1<=p*(srV h).2:=by
  unfold absV
  rw [hn,e]
  dsimp only
  omega
 have hs:=r.s1
 have hs2:=r.s2
 unfold Jg
 refine En.le_up (by omega) ?_
 generalize (srV h).2=S at *
 generalize (absV h s b).1=A at *
 have e1:1000*(1000-p)*S=1000000*S-1000*(p*S):=by
  rw [Int.mul_sub,Int.sub_mul,Wd 1000 p S]
  omega
 rw [e1]
 generalize p*S=X at *
 omega
theorem aw4:isR (.bool true) (pcF (exT [] pt0) 4 [])=true:=by kernel_rfl
theorem Zgd:PCall Tryz.prog 4 [] ⟨.bool true,[]⟩:=Zuz Zf aw4
open Go Go.Sx Go.En
theorem Zza {h:Hal} (g:h.fine) {i:Nat} (hi:i<h.ks.length):1<=h.ks[i].hs.length/\h.ks[i].hs.length<=4:=by
 have:=g.can i hi
 unfold Zds at this
 cases hw:within (h.ks[i].hs.length:Int) 1 4 with
 | true =>
  have:=within_iff.1 hw
  omega
 | false =>
  rw [hw] at this
  exfalso
  revert this
  repeat' split
  all_goals simp_all
theorem Zw5 {h:Hal} (g:h.fine):∀ (m i:Nat),i+m=h.ks.length->hgE h i (Qw m 0)=0
 | 0,_,_=>rfl
 | m+1,i,he=>by
  have hi:i<h.ks.length:=by omega
  have hl:=Zza g hi
  rw [List.replicate_succ,hgE]
  have hk:kLen h i=(h.ks[i].hs.length:Int):=by unfold kLen; rw [Qi hi]
  rw [hk,W_eq (by omega) (by omega),if_pos (within_iff.2 ⟨by omega,by omega⟩)]
  exact Zw5 g m (i+1) (by omega)
theorem Zus {h:Hal} (g:h.fine):setE h ⟨Qw h.ks.length 0,[]⟩=0:=by
 unfold setE
 dsimp only
 rw [if_pos (by rw [Tc]),if_pos (Zw5 g _ 0 (by omega))]
 rfl
theorem Zrk {h:Hal} (g:h.fine) (he:h.err=0):serr h ⟨Qw h.ks.length 0,[]⟩=0:=by
 unfold serr
 rw [if_pos he]
 exact Zus g
theorem Zoy {f:Nat->Bool}:∀ {c k n:Nat},k<=n->n<k+c->f n=true->0<=Zhz f k c/\Zhz f k c<=n
 | 0,k,n,h1,h2,_=>by omega
 | c+1,k,n,h1,h2,h3=>by
  rw [Zhz]
  by_cases hf:f k=true
  ·rw [if_pos hf]; omega
  ·rw [if_neg hf]
   have hne:k≠n:=fun e=>hf (by rw [e]; exact h3)
   exact Zoy (by omega) (by omega) h3
theorem Zzr {rows:List (List Int)} {ls e:List Int} {n:Nat} (h:ExOk n rows ls) (he:e.length=n) (hn:Nn e) {p:Int} (p0:0<=p) (p1:p<=1000) (hp:∀ x∈ls,x=p) {sh:Int} (hs:1000*(1000-p)<=sh) {k:Nat} (hk:hitsC sh=some k) :
  0<=stN rows ls e 1/\stN rows ls e 1<=k:=by
 have hkb:=Zdp hk
 refine Zoy (Qk _) (by omega) ?_
 unfold decN
 exact decide_eq_true (Zpp h he hn p0 p1 hp hs hk)
def Mat.evK (m:Mat) (p:Int):Nat->Mat
 | 0=>m
 | 1=>⟨m.nm,p,m.b,m.c,m.d,m.sc⟩
 | 2=>⟨m.nm,p,p,m.c,m.d,m.sc⟩
 | 3=>⟨m.nm,p,p,p,m.d,m.sc⟩
 | _=>⟨m.nm,p,p,p,p,m.sc⟩
def evL (h:Hal) (p:Int) (i:Nat):List Mat:=(h.ms.take i).map (fun m=>m.even p)++h.ms.drop i
theorem Zti (h:Hal) (p:Int) {i:Nat} (hi:i<=h.ms.length):(evL h p i).length=h.ms.length:=by
 unfold evL
 simp
 omega
theorem Zy1 {h:Hal} {p:Int} {i:Nat} (hi:i<h.ms.length):(evL h p i)[i]?=some h.ms[i]:=by
 unfold evL
 rw [List.getElem?_append_right (by simp; omega)]
 simp [hi,Nat.min_eq_left (Hf hi)]
theorem Zvu {h:Hal} {p:Int} {i:Nat} (hi:i<h.ms.length):(evL h p i).set i h.ms[i]=evL h p i:=by
 refine List.ext_getElem? fun j=>?_
 rw [List.getElem?_set]
 split
 ·rename_i e
  subst e
  rw [if_pos (by rw [Zti h p (by omega)]; exact hi),Zy1 hi]
 ·rfl
theorem Zvt {h:Hal} {p:Int} {i:Nat} (hi:i<h.ms.length):(evL h p i).set i (h.ms[i].even p)=evL h p (i+1):=by
 unfold evL
 have hl:((h.ms.take i).map (fun m=>m.even p)).length=i:=by simp; omega
 rw [Kp _ _ (by omega),hl,Mp,Qg hi,Ha,List.take_succ_eq_append_getElem hi,List.map_append,Sn]
 rfl
theorem Zy2 (h:Hal) (p:Int):evL h p h.ms.length=h.evn p:=by
 unfold evL Hal.evn
 rw [List.take_length,Ga,Su]
def evI (p:Int) (ls:List Int) (k:Nat):List Int:=Qw k p++ls.drop k
theorem Zvv {p:Int} {ls:List Int} {k:Nat} (hk:k<ls.length):(evI p ls k).set k p=evI p ls (k+1):=by
 unfold evI
 rw [Kp _ _ (by simp),Tc,Mp,Qg hk,Ha,List.replicate_succ',Sn]
 rfl
theorem Zne {p:Int} {ls:List Int} {k:Nat} (hk:k<=ls.length):(evI p ls k).length=ls.length:=by
 unfold evI
 simp
 omega
theorem Zy3 (p:Int) (ls:List Int):evI p ls ls.length=Qw ls.length p:=by
 unfold evI
 rw [Ga,Su]
abbrev zS (h:Hal):Stg:=⟨Qw h.ks.length 0,[]⟩
theorem Ycb {h:Hal} (hk:h.ok) (z:h.err=0) {p:Int} (hp:0<=p/\p<=1000):∃ a c E:Int,PCall Tryz.prog 12 [(h.put (h.evn p)).av,.agg [.isl 1 (nl (Qw h.ks.length 0)),.nils],P3 0 0 34000] ⟨.tup [P2 a c,I E],[]⟩ /\
  (E=11\/E=8\/(E=0/\∀ rows ls e,StH rows ls e->(∀ x∈ls,x=p)->0<=stN rows ls e 1/\stN rows ls e 1<=c/\c<=1000)):=by
 have hf:=Zna hk z
 have hm:Zjd 0 h.ms (h.evn p):=Zkw hp hf.mats
 have hk':=Zz5 hm hk
 have s1:=Zux hm (Zrk hf z)
 have hs:(zS h).few:=⟨by show (Qw h.ks.length (0:Int)).length<1000; rw [Tc]; exact hk.f.2.2.2.1,by show 0<1000; omega⟩
 have air:airE 0 0 34000=0:=rfl
 by_cases e:abE (h.put (h.evn p)) (zS h) 0 0 34000=0
 ·have r:=Ybx hk' hs e
  refine ⟨_,_,_,(d68 r).nilArgs ⟨Dc,.inr ⟨_,_,rfl,rfl,.inl rfl,.inr ⟨rfl,1,rfl⟩,trivial⟩,Dc,trivial⟩,?_⟩
  have hh:=Ycc r.g hp.1 (b:=0) (p:=p) (fun m hm=>by
   obtain ⟨m',_,rfl⟩:=Wa.1 hm
   exact Zvs _ _ _)
  have rv:=Zx1 r.g 0
  have hlo:=fun k=>En.hits_lo (k:=k) rv
  unfold hitX Dj
  generalize srV (h.put (h.evn p))=S at *
  generalize absV (h.put (h.evn p)) (zS h) 0=A at *
  cases hc:Di (Jg S A) with
  | none=>exact .inr (.inl rfl)
  | some k =>
   obtain ⟨j,hj,hjk⟩:=hlo k hc
   rw [hj]
   have hb:=(En.hits_pos hc).2
   refine .inr (.inr ⟨rfl,fun rows ls e hst hls=>?_⟩)
   have:=Zzr hst.x hst.l hst.nn hp.1 hp.2 hls hh hc
   exact ⟨this.1,this.2,by show (k:Int)<=1000; omega⟩
 ·refine ⟨_,_,_,(d68e hk' hs e).nilArgs ⟨Dc,.inr ⟨_,_,rfl,rfl,.inl rfl,.inr ⟨rfl,1,rfl⟩,trivial⟩,Dc,trivial⟩,.inl ?_⟩
  unfold abE at e ⊢
  rw [if_neg (fun c=>c s1),if_neg (fun c=>c air)] at e ⊢
  by_cases q:0<(absA (h.put (h.evn p)) (zS h) 0).1
  ·rw [decide_eq_true q] at e; exact absurd rfl e
  ·rw [decide_eq_false q]; rfl
noncomputable abbrev r8 (rows:List (List Int)) (ls:List Int):PRes:=⟨.agg [.isl 1 (rows.map rv),.asl 0 0 (nl ls).length],[(1,nl ls)]⟩
abbrev r10 (rows:List (List Int)) (ls e:List Int):PRes:=⟨I (enE rows.length e),[]⟩
noncomputable abbrev r13 (rows:List (List Int)) (ls e:List Int) (m:Int):PRes:=⟨.tup [I (stR rows ls e m).1,I (stR rows ls e m).2],[]⟩
noncomputable abbrev r15 (rows:List (List Int)) (ls e:List Int) (s:Int):PRes:=⟨.tup [.isl 1 (nl (runV rows ls e s).1),I (runV rows ls e s).2,I (runE rows ls e s)],[]⟩
noncomputable def kH0 (h:Hal) (b:Bool) (E:Int) (pt:PC):PC:=ins 4 (one [] ⟨Bo true,[]⟩) (ins 5 (one [h.av] ⟨Bo b,[]⟩) (ins 6 (one [h.av] ⟨I E,[]⟩) (ins 7 rWu pt)))
theorem Zw3 {h:Hal} {pt:PC} (hk:few2 h=true) (hp:PCOK Tryz.prog pt):PCOK Tryz.prog (kH0 h true h.err pt):=by
 have h5:=d80 h
 rw [hk] at h5
 refine Zi Zgd (Zi h5 (Zi (d90 (Zs8 hk)) (Zj (fun a res h=>?_) hp)))
 unfold rWu at h; split at h<;>cases h; exact d38u _ _ _
noncomputable def kH1 (h:Hal) (p a c E:Int):PC :=
 ins 8 (famX ExG r8) (ins 9 (famX (fun _ _=>True) rExV) (ins 10 (Zta (fun rows _ _=>rows.length<100000) r10) (ins 11 (one [h.av] ⟨cpyM h,[(6,h.ms.map Mat.av)]⟩)
  (ins 12 (one [(h.put (h.evn p)).av,.agg [.isl 1 (nl (Qw h.ks.length 0)),.nils],P3 0 0 34000] ⟨.tup [P2 a c,I E],[]⟩)
   (ins 13 (Zlq (fun rows ls e _=>ExL rows ls e) r13) (ins 14 Ztt (ins 15 (Zlq (fun rows ls e _=>ExL rows ls e) r15) (ins 16 cSum pt0))))))))
theorem Yai {h:Hal} (hk:h.ok) {p a c E:Int} (h12:PCall Tryz.prog 12 [(h.put (h.evn p)).av,.agg [.isl 1 (nl (Qw h.ks.length 0)),.nils],P3 0 0 34000] ⟨.tup [P2 a c,I E],[]⟩):PCOK Tryz.prog (kH1 h p a c E) :=
 Ya (fun q h=>d28g h) (Ya (fun q _=>d32g q.1 q.2) (Ya (fun q h=>d40g h q.2.2) (Zi (c22m hk.f) (Zi h12 (Ya (fun q h=>d61 h) (Ya (fun ns h=>(c25g ns h).freeze ⟨rfl,rfl,rfl⟩) (Ya (fun q h=>d31 h) (Ya (fun ns h=>d39 h) Zf))))))))
def bad3 (h:Hal) (rows:List (List Int)) (ls:List Int):Prop:=few2 h=false\/h.err≠0\/5<rows.length\/ls.length=0\/∃ p t,ls=p::t/\within p 0 1000=false
theorem Zn9 (p:Int) (t:List Int):(nl (p::t))[0]?=some [I p]:=rfl
theorem Ycj {h:Hal} {rows:List (List Int)} {ls e:List Int} (hb:bad3 h rows ls):PCall Tryz.prog 3 [h.av,exA rows ls,.isl 1 (nl e)] ⟨Bo true,[]⟩:=by
 have l1:=Xn rows
 have l2:=Ze ls
 by_cases r:few2 h=true
 rotate_left
 ·have r:few2 h=false:=by simpa using r
  have h5:=d80 h
  rw [r] at h5
  have hk:=Zi Zgd (Zi h5 Zf)
  refine pn hk Tryz.func3 ?_
  repeat'(first|refine wk3 ?_|(refine wk2 ?_ ?_<;>intro _)|fail)
  all_goals exact Zc rfl
 have hk:=Zw3 r Zf
 unfold kH0 at hk
 by_cases z:h.err=0
 rotate_left
 ·generalize h.err=E at *
  refine pn hk Tryz.func3 ?_
  repeat'(first|refine wk3 ?_|(refine wk2 ?_ ?_<;>intro _)|fail)
  all_goals first
   | exact Zc rfl
   | (exfalso; simp_all; done)
 rw [z] at hk
 rcases hb with c|c|c|c|⟨p,t,rfl,c⟩
 ·rw [r] at c; cases c
 ·exact absurd z c
 ·refine pn hk Tryz.func3 ?_
  repeat'(first|refine wk3 ?_|(refine wk2 ?_ ?_<;>intro _)|fail)
  all_goals first
   | exact Zc rfl
   | (exfalso; simp_all; done)
   | (exfalso; simp_all; omega)
 ·refine pn hk Tryz.func3 ?_
  repeat'(first|refine wk3 ?_|(refine wk2 ?_ ?_<;>intro _)|fail)
  all_goals first
   | exact Zc rfl
   | (exfalso; simp_all; done)
   | (exfalso; simp_all; omega)
 ·have e1:=Zn9 p t
  rw [Ra] at l2
  refine pn hk Tryz.func3 ?_
  repeat'(first|refine wk3 ?_|(refine wk2 ?_ ?_<;>intro _)|fail)
  all_goals first
   | exact Zc rfl
   | (exfalso; simp_all; done)
   | (exfalso; simp_all; omega)
end Go.Proofs.YtkmjliccopgocaaGreat
namespace Go.Proofs.YtkmjliccopgocaaGreat
open Go Go.Sx Go.En
noncomputable def kM3 (h:Hal) (p a c E:Int):PC:=kH0 h true 0 (kH1 h p a c E)
abbrev rawX (rows:List (List Int)) (ev:List Int) (n:Nat):AV:=.agg [.isl 1 (rows.map rv),.isl 1 (((nl ev).drop 0).take n)]
theorem Zgp {rows:List (List Int)} {ev:List Int} {n:Nat} (h:n=ev.length):rawX rows ev n=exA rows ev:=by
 unfold rawX
 rw [Sq,Rr (by rw [Ze]; omega)]
theorem Yby {rows:List (List Int)} {ev:List Int} {n:Nat} (h:n=ev.length):famX (fun _ _=>True) rExV [.agg [.isl 1 (rows.map rv),.isl 1 (((nl ev).drop 0).take n)]]=some (rExV rows ev):=by
 have:=Zgp (rows:=rows) h
 unfold rawX at this
 rw [this]
 exact Zfx rExV trivial
theorem Zz0 {rows:List (List Int)} {ev e:List Int} {n:Nat} (h:n=ev.length) (hr:rows.length<100000):Zta (fun rows _ _=>rows.length<100000) r10 [.agg [.isl 1 (rows.map rv),.isl 1 (((nl ev).drop 0).take n)],.isl 1 (nl e)]=some (r10 rows ev e):=by
 have:=Zgp (rows:=rows) h
 unfold rawX at this
 rw [this]
 exact Zcg (p:=fun rows _ _=>rows.length<100000) r10 hr
theorem Ybz {rows:List (List Int)} {ev:List Int} {n:Nat} (h:n=ev.length) (hx:ExG rows ev):famX ExG r8 [.agg [.isl 1 (rows.map rv),.isl 1 (((nl ev).drop 0).take n)]]=some (r8 rows ev):=by
 have:=Zgp (rows:=rows) h
 unfold rawX at this
 rw [this]
 exact Zfx r8 hx
theorem Zzz {rows:List (List Int)} {ev e:List Int} {n:Nat} (h:n=ev.length) (hx:ExL rows ev e) (m:Int):Zlq (fun rows ls e _=>ExL rows ls e) r13 [.agg [.isl 1 (rows.map rv),.isl 1 (((nl ev).drop 0).take n)],.isl 1 (nl e),I m]=some (r13 rows ev e m):=by
 have:=Zgp (rows:=rows) h
 unfold rawX at this
 rw [this]
 exact Zit (p:=fun rows ls e _=>ExL rows ls e) r13 hx
theorem Zzy {rows:List (List Int)} {ev e:List Int} {n:Nat} (h:n=ev.length) (hx:ExL rows ev e) (m:Int):Zlq (fun rows ls e _=>ExL rows ls e) r15 [.agg [.isl 1 (rows.map rv),.isl 1 (((nl ev).drop 0).take n)],.isl 1 (nl e),I m]=some (r15 rows ev e m):=by
 have:=Zgp (rows:=rows) h
 unfold rawX at this
 rw [this]
 exact Zit (p:=fun rows ls e _=>ExL rows ls e) r15 hx
abbrev hRow (h:Hal):ABlk:=.row 9 [[.str h.nm,I h.ht,.str h.fl,.str h.ce,.isl 6 (h.ms.map Mat.av),.isl 2 (h.cs.map pt),.isl 3 (h.ws.map Wal.av),.isl 7 (h.ks.map Can.av),.isl 4 (h.ss.map Sea.av)]] true false
abbrev Yaw (h:Hal):ABlk:=.row 9 [[.str h.nm,I h.ht,.str h.fl,.str h.ce,.asl 4 0 (h.ms.map Mat.av).length,.isl 2 (h.cs.map pt),.isl 3 (h.ws.map Wal.av),.isl 7 (h.ks.map Can.av),.isl 4 (h.ss.map Sea.av)]] true false
abbrev Zzi (rows:List (List Int)) (Ev ls:List Int) (h:Hal):List (Nat × ABlk):=[(3,.row 2 [[.isl 1 (rows.map rv),.asl 2 0 (nl ls).length]] true false),(2,.row 1 (nl Ev) true true),(1,.row 2 [[.isl 1 (rows.map rv),.isl 1 (nl ls)]] true false),(0,hRow h)]
theorem Yb0 {h:Hal} {p:Int} {c:PRes}:one [(h.put (h.evn p)).av,.agg [.isl 1 (nl (Qw h.ks.length 0)),.nils],P3 0 0 34000] c
  [.agg [.str h.nm,I h.ht,.str h.fl,.str h.ce,.isl 6 ((((h.evn p).map Mat.av).drop 0).take (h.ms.map Mat.av).length),.isl 2 (h.cs.map pt),.isl 3 (h.ws.map Wal.av),.isl 7 (h.ks.map Can.av),.isl 4 (h.ss.map Sea.av)],
   .agg [.isl 1 (((Qw (h.ks.map Can.av).length [I 0]).drop 0).take (h.ks.map Can.av).length),.nils],P3 0 0 34000]=some c:=by
 have e1:(((h.evn p).map Mat.av).drop 0).take (h.ms.map Mat.av).length=(h.evn p).map Mat.av:=by
  rw [Sq,Rr (by rw [Sv,Sv]; unfold Hal.evn; rw [Sv]; exact Qd _)]
 have e2:((Qw (h.ks.map Can.av).length [I 0]).drop 0).take (h.ks.map Can.av).length=nl (Qw h.ks.length 0):=by
  rw [Sq,Rr (by rw [Tc]; exact Qd _),Sv]
  unfold nl
  rw [List.map_replicate]
 rw [e1,e2]
 exact Zgv _ _
theorem d3m {h:Hal} {rows:List (List Int)} {ls e:List Int} {p a c E:Int} {t:List Int} (hk3:PCOK Tryz.prog (kM3 h p a c E)) (hm1:h.ms.length<1000) (hk1:h.ks.length<1000) (hx:ExG rows ls) (hE:ls=p::t) (hp:within p 0 1000=true) (hr:rows.length<=5)
  (he:e.length<=17592186044416) (hE2:E=11\/E=8\/(E=0/\∀ rows ls e,StH rows ls e->(∀ x∈ls,x=p)->0<=stN rows ls e 1/\stN rows ls e 1<=c/\c<=1000)):PCall Tryz.prog 3 [h.av,exA rows ls,.isl 1 (nl e)] ⟨Bo true,[]⟩:=by
 have l1:=Xn rows
 have l2:=Ze ls
 have e1:(nl ls)[0]?=some [I p]:=by rw [hE]; exact Zn9 p t
 have hl:0<ls.length:=by rw [hE,Ra]; omega
 have g8:=Zfx (p:=ExG) r8 hx
 unfold kM3 kH0 kH1 at hk3
 clear hE
 refine pn hk3 Tryz.func3 ?_
 repeat'(first|refine wk3 ?_|(refine wk2 ?_ ?_<;>intro _)|fail)
 ·exact Zc rfl
 refine Zo (S:=Nat × Int × List (List AV)) (fun t=>ls.length-t.1) (fun t=>[(2,.isl 1 (nl e)),(3,.ptr 0 0 0),(4,.ptr 1 0 0),(7,.ptr 3 0 0),(8,I t.2.1)]) (fun t=>[(3,.row 2 [[.isl 1 (rows.map rv),.asl 2 0 (nl ls).length]] true false),(2,.row 1 t.2.2 true true),(1,.row 2 [[.isl 1 (rows.map rv),.isl 1 (nl ls)]] true false),(0,hRow h)]) 4 4
  (fun t=>t.2.1=t.1/\t.1<=ls.length/\t.2.2=nl (evI p ls t.1)) (0,0,nl ls) ⟨rfl,Qk _,rfl⟩ (Qd _) [] rfl (kps) (kps) ?_
 rintro ⟨k,i,els⟩ ⟨hi,hk,hels⟩
 dsimp only at hi hk hels ⊢
 subst hi hels
 have l3:(nl (evI p ls k)).length=ls.length:=by rw [Ze,Zne hk]
 have hll:=hx.l
 refine bs.av (sx:=nos) hk3 ?_
 by_cases hlt:k<ls.length
 ·have e5:=Zmt (l:=evI p ls k) (j:=k) (by rw [Zne hk]; exact hlt)
  generalize (evI p ls k)[k]'(by rw [Zne hk]; exact hlt)=x at e5
  repeat'(first|refine wk3 ?_|(refine wk2 ?_ ?_<;>intro _)|fail)
  exact Qr ⟨(k+1,Qa Qb ((k:Int)+1),Zdg (nl (evI p ls k)) (0+((k:Nat):Int).toNat) [I p]),[],rfl,kps,kps,⟨by rw [W_eq (by omega) (by omega)]; rfl,hlt,by rw [Zgh,Zvv hlt]⟩,by dsimp only; omega⟩
 ·have hkl:k=ls.length:=by omega
  subst hkl
  rw [Zy3] at l3 ⊢
  generalize hEv:Qw ls.length p=Ev at *
  have g9:=Yby (rows:=rows) (ev:=Ev) (n:=(nl ls).length) (by rw [l2,<-l3,Ze])
  have g10:=Zz0 (rows:=rows) (ev:=Ev) (n:=(nl ls).length) (e:=e) (by rw [l2,<-l3,Ze]) (by omega)
  unfold rExV at g9
  by_cases zX:(exV rows Ev).2=0
  rotate_left
  ·generalize (exV rows Ev).2=X at *
   repeat'(first|refine wk3 ?_|(refine wk2 ?_ ?_<;>intro _)|fail)
   all_goals first
    | exact Zc rfl
    | (exfalso; simp_all; done)
  by_cases zE:enE rows.length e=0
  rotate_left
  ·rw [zX] at g9
   unfold r10 at g10
   generalize enE rows.length e=X at *
   repeat'(first|refine wk3 ?_|(refine wk2 ?_ ?_<;>intro _)|fail)
   all_goals first
    | exact Zc rfl
    | (exfalso; simp_all; done)
  rw [zX] at g9
  unfold r10 at g10
  rw [zE] at g10
  have l5:(h.ms.map Mat.av).length=h.ms.length:=by rw [Sv]
  have l6:(h.ks.map Can.av).length=h.ks.length:=by rw [Sv]
  repeat'(first|refine wk3 ?_|(refine wk2 ?_ ?_<;>intro _)|fail)
  refine Zo (S:=Nat × Int × List (List AV)) (fun t=>h.ms.length-t.1) (fun t=>[(2,.isl 1 (nl e)),(3,.ptr 0 0 0),(4,.ptr 1 0 0),(7,.ptr 3 0 0),(11,.ptr 5 0 0),(12,I t.2.1)]) (fun t=>(5,Yaw h)::(4,.row 6 t.2.2 true true)::Zzi rows Ev ls h) 6 6
   (fun t=>t.2.1=t.1/\t.1<=h.ms.length/\t.2.2=(evL h p t.1).map Mat.av) (0,0,h.ms.map Mat.av) ⟨rfl,Qk _,rfl⟩ (Qd _) [] rfl (kps) (kps) ?_
  rintro ⟨k,i,els⟩ ⟨hi,hk2,hels⟩
  dsimp only at hi hk2 hels ⊢
  subst hi hels
  refine bs.av (sx:=nos) hk3 ?_
  by_cases hlt2:k<h.ms.length
  ·have eS:=Zvu (p:=p) hlt2
   have eN:=Zvt (p:=p) hlt2
   have lv:=Zti h p (Hf hlt2)
   have eg:∀ m:Mat,(((evL h p k).set k m).map Mat.av)[0+((k:Nat):Int).toNat]?=some (Mat.av m):=fun m=>by
    rw [Sg,Sk,List.getElem?_map,List.getElem?_set_self (by rw [lv]; exact hlt2)]; rfl
   have es:∀ m n:Mat,Zdg (((evL h p k).set k m).map Mat.av) (0+((k:Nat):Int).toNat) (Mat.av n)=((evL h p k).set k n).map Mat.av:=fun m n=>by rw [Zuu,List.set_set]
   have lz:∀ m:Mat,(((evL h p k).set k m).map Mat.av).length=h.ms.length:=fun m=>by rw [Sv,List.length_set,lv]
   rw [<-eS]
   generalize h.ms[k]=m at *
   generalize evL h p k=V at *
   repeat'(first|refine wk3 ?_|(refine wk2 ?_ ?_<;>intro _)|fail)
   refine Zo (S:=Nat × Int × List (List AV)) (fun t=>4-t.1) (fun t=>[(2,.isl 1 (nl e)),(3,.ptr 0 0 0),(4,.ptr 1 0 0),(7,.ptr 3 0 0),(11,.ptr 5 0 0),(12,I (k:Int)),(13,I t.2.1)]) (fun t=>(5,Yaw h)::(4,.row 6 t.2.2 true true)::Zzi rows Ev ls h) 6 6
    (fun t=>t.2.1=t.1/\t.1<=4/\t.2.2=(V.set k (m.evK p t.1)).map Mat.av) (0,0,(V.set k m).map Mat.av) ⟨rfl,Qk _,rfl⟩ (Qd _) [] rfl (kps) (kps) ?_
   rintro ⟨j,ij,els⟩ ⟨hij,hj,hels⟩
   dsimp only at hij hj hels ⊢
   subst hij hels
   have e6:=eg (m.evK p j)
   have l4:=lz (m.evK p j)
   refine bs.av (sx:=nos) hk3 ?_
   have hj5:j=0\/j=1\/j=2\/j=3\/j=4:=by omega
   rcases hj5 with rfl|rfl|rfl|rfl|rfl
   ·repeat'(first|refine wk3 ?_|(refine wk2 ?_ ?_<;>intro _)|fail)
    exact Qr ⟨(1,1,Zdg ((V.set k (m.evK p 0)).map Mat.av) (0+((k:Nat):Int).toNat) (Mat.av (m.evK p 1))),[],rfl,kps,kps,⟨rfl,by omega,es _ _⟩,by dsimp only; omega⟩
   ·repeat'(first|refine wk3 ?_|(refine wk2 ?_ ?_<;>intro _)|fail)
    exact Qr ⟨(2,2,Zdg ((V.set k (m.evK p 1)).map Mat.av) (0+((k:Nat):Int).toNat) (Mat.av (m.evK p 2))),[],rfl,kps,kps,⟨rfl,by omega,es _ _⟩,by dsimp only; omega⟩
   ·repeat'(first|refine wk3 ?_|(refine wk2 ?_ ?_<;>intro _)|fail)
    exact Qr ⟨(3,3,Zdg ((V.set k (m.evK p 2)).map Mat.av) (0+((k:Nat):Int).toNat) (Mat.av (m.evK p 3))),[],rfl,kps,kps,⟨rfl,by omega,es _ _⟩,by dsimp only; omega⟩
   ·repeat'(first|refine wk3 ?_|(refine wk2 ?_ ?_<;>intro _)|fail)
    exact Qr ⟨(4,4,Zdg ((V.set k (m.evK p 3)).map Mat.av) (0+((k:Nat):Int).toNat) (Mat.av (m.evK p 4))),[],rfl,kps,kps,⟨rfl,by omega,es _ _⟩,by dsimp only; omega⟩
   ·repeat'(first|refine wk3 ?_|(refine wk2 ?_ ?_<;>intro _)|fail)
    exact Qr ⟨(k+1,Qa Qb ((k:Int)+1),(V.set k (m.evK p 4)).map Mat.av),[],rfl,kps,kps,⟨Zg (by omega),hlt2,by show (V.set k (m.even p)).map Mat.av=(evL h p (k+1)).map Mat.av; rw [eN]⟩,by dsimp only; omega⟩
  ·have hke:k=h.ms.length:=by omega
   subst hke
   rw [Zy2]
   have g12:=Yb0 (h:=h) (p:=p) (c:=⟨.tup [P2 a c,I E],[]⟩)
   rcases hE2 with rfl|rfl|⟨rfl,hst⟩
   ·repeat'(first|refine wk3 ?_|(refine wk2 ?_ ?_<;>intro _)|fail)
    all_goals exact Zc rfl
   ·repeat'(first|refine wk3 ?_|(refine wk2 ?_ ?_<;>intro _)|fail)
    all_goals exact Zc rfl
   have ho:owE rows Ev e=0:=by unfold owE; rw [if_neg (fun c=>c zX)]; exact zE
   have hS:=Zrw ho
   have hL:ExL rows Ev e:=⟨⟨by omega,fun r hr=>by rw [(hS.x.row r hr).1]; omega,by rw [hS.x.ll]; omega⟩,hS.len⟩
   obtain ⟨q0,q1,q2⟩:=hst rows Ev e hS (fun x hx=>by rw [<-hEv] at hx; exact List.eq_of_mem_replicate hx)
   have eR:stR rows Ev e 1=(stN rows Ev e 1,0):=by
    have:stE rows Ev e 1=0:=by unfold stE; rw [if_neg (fun c=>c ho)]; rfl
    unfold stR
    rw [if_neg (fun c=>c this),if_neg (by omega)]
   have hEl:(nl ls).length=Ev.length:=by rw [l2,<-l3,Ze]
   have g8b:=Ybz (rows:=rows) hEl (show ExG rows Ev from ⟨by omega,fun r hr=>by rw [(hS.x.row r hr).1]; omega,by rw [hS.x.ll]; omega⟩)
   have g13:=Zzz (rows:=rows) (ev:=Ev) (n:=(nl Ev).length) (by rw [Ze]) hL 1
   unfold r13 at g13
   rw [eR] at g13
   generalize stN rows Ev e 1=q at *
   have g15:=Zzy (rows:=rows) hEl hL q
   have eV:runE rows Ev e q=0:=by
    unfold runE
    rw [if_neg (fun c=>c ho)]
    unfold unl
    rw [within_iff.2 ⟨q0,by omega⟩]
    rfl
   have eW:runV rows Ev e q=En.run rows Ev q.toNat e:=by unfold runV; rw [if_neg (fun c=>c eV)]
   have hR:=hS.run q.toNat
   have hO:=Zid hS.x q.toNat hS.l hS.nn
   unfold r15 at g15
   rw [eV,eW] at g15
   generalize En.run rows Ev q.toNat e=R at *
   obtain ⟨out,lost⟩:=R
   dsimp only at g15 hR hO
   have g16a:=Zfz (ns:=out) (by have:=hR.len; omega)
   have g16b:=Zfz (ns:=e) (by have:=hS.len; omega)
   rw [hR.sum] at g16a
   rw [hS.sum] at g16b
   have g14:=Zix he
   have l7:(nl out).length=(nl e).length:=by rw [Ze,Ze,hR.l,hS.l]
   have tT:=hS.t
   have t0:=Ze6 hR.nn
   have hW:Qa Qb (tot out+lost)=tot e:=by rw [hO.2.2.2]; exact W_eq (by have:=Ze6 hS.nn; omega) (by omega)
   clear hR hO eW eV hL hS ho eR
   repeat'(first|refine wk3 ?_|(refine wk2 ?_ ?_<;>intro _)|fail)
   all_goals first
    | exact Zc rfl
    | (refine Zc ?_; simp [l7,hW]; done)
    | (refine Zc ?_; simp_all; done)
    | (exfalso; simp_all; done)
    | (exfalso; simp_all; omega)
end Go.Proofs.YtkmjliccopgocaaGreat
