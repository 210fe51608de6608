/- A part of the proof: lemmas. -/
import Derived.Test.YtanbhfpalahjcaaGreatA11
import Derived.Test.YtanbhfpalahjcaaGreatA10
set_option linter.unusedVariables false
set_option linter.unusedSimpArgs false
set_option maxRecDepth 100000
set_option maxHeartbeats 16000000
open Bool renaming and_eq_true->Qc,eq_iff_iff->Rl
open Go.IntKind renaming i64->Qb,wrap->Qa
open Go.Sx.AV.agg renaming injEq->Oy
open Go.Sx.AV.int renaming inj->Jj,injEq->Tm
open Go.Sx.Done renaming mk->Qr
open Int renaming emod_lt_of_pos->Mn,emod_nonneg->Ke,mul_ediv_add_emod->Na,mul_le_mul_of_nonneg_right->Sv,mul_one->Rf,mul_pos->Sw
open Int.ofNat renaming inj->Pp
open List renaming drop_eq_getElem_cons->Qk,drop_of_length_le->Ql,length_eq_zero_iff->Ph
open List.cons renaming inj->Qz,injEq->Rj
open Nat renaming le_refl->Qg,zero_le->Qm
namespace Go.Proofs.YtanbhfpalahjcaaGreat
open Go Go.Sx
theorem Zq1 {n d m k:Int} (hd:0<d) (hk:0<k) (h:n / d<m / k):cmpQ n d m k = -1:=by
 have h1:=Int.lt_ediv_add_one_mul_self n hd
 have h2:=Int.ediv_mul_le m (show k≠0 by omega)
 have h3:=Sv (show n / d+1<=m / k by omega) (Int.le_of_lt hd)
 have h4:=Int.mul_lt_mul_of_pos_right (show n<m / k*d by omega) hk
 have h5:=Sv h2 (Int.le_of_lt hd)
 have e:m / k*d*k=m / k*k*d:=by grind
 unfold cmpQ sgn
 rw [if_neg (by omega),if_pos (by omega)]
theorem Zq0 {n d m k:Int}:cmpQ n d m k = -cmpQ m k n d:=by
 unfold cmpQ
 have e:n*k-m*d = -(m*d-n*k):=by omega
 rw [e]
 generalize m*d-n*k=v
 unfold sgn
 split<;>split<;>(try split)<;>(try split)<;>omega
theorem Zv0 {n d m k:Int} (h:n / d=m / k):cmpQ n d m k=cmpQ (n%d) d (m%k) k:=by
 unfold cmpQ
 have h1:=Na n d
 have h2:=Na m k
 congr 1
 rw [h] at h1
 generalize m / k=q at *
 generalize n%d=r at *
 generalize m%k=t at *
 subst h1 h2
 grind
theorem cmpQ_flip {n d m k:Int}:cmpQ n d m k=cmpQ k m d n:=by unfold cmpQ; congr 1; grind
noncomputable abbrev flr:List AV->Option PRes:=famA (fun p:Int × Int=>0<p.2 /\ -9223372036854775807<=p.1/\p.1<=9223372036854775807) (fun p=>[I p.1,I p.2]) (fun p=>⟨I (p.1 / p.2),[]⟩)
theorem Zqi {n b:Int} (hb:0<b) (h0 : -9223372036854775807<=n) (h1:n<=9223372036854775807):flr [I n,I b]=some ⟨I (n / b),[]⟩ :=
 Yp (p:=fun p:Int × Int=>0<p.2 /\ -9223372036854775807<=p.1/\p.1<=9223372036854775807) (g:=fun p=>[I p.1,I p.2]) (r:=fun p=>⟨I (p.1 / p.2),[]⟩) (k:=(n,b)) (fun j hj=>by
  simp only [Rj,Tm,true_and,and_true] at hj
  obtain ⟨h1,h2⟩:=hj
  dsimp only
  rw [h1,h2]) ⟨hb,h0,h1⟩
noncomputable def kC1:PC:=ins 185 flr pt0
theorem Zt3:PCOK Tryz.prog kC1:=Xj (fun p hp=>c90 hp.1 hp.2.1 hp.2.2) Zf
theorem Zk1 {n d:Int} (hd:0<d) (hd2:d<=9223372036854775807):Qa Qb (n-Qa Qb (n / d*d))=n%d:=by
 have h1:=Ke n (show d≠0 by omega)
 have h2:=Mn n hd
 have h3:=Na n d
 rw [Int.mul_comm] at h3
 simp only [IntKind.wrap_i64]
 omega
theorem c187 {n d m k:Int} (hd:0<d) (hk:0<k) (hd2:d<=9223372036854775807) (hk2:k<=9223372036854775807) (hn : -9223372036854775807<=n/\n<=9223372036854775807) (hm : -9223372036854775807<=m/\m<=9223372036854775807):PCall Tryz.prog 114 [I n,I d,I m,I k] ⟨I (cmpQ n d m k),[]⟩:=by
 refine bs.pv (sx:=nos) Zt3 Tryz.func114 (by kernel_rfl) (by kernel_rfl) rfl ?_
 generalize hR:cmpQ n d m k=R
 refine Yj (S:=Int × Int × Int × Int) (fun t=>(t.2.1+t.2.2.2).toNat) (fun t=>[(0,I t.1),(1,I t.2.1),(2,I t.2.2.1),(3,I t.2.2.2)]) (fun _=>[]) 0 0 (fun t=>((0<t.2.1/\t.2.1<=9223372036854775807)/\(0<t.2.2.2/\t.2.2.2<=9223372036854775807))/\((-9223372036854775807<=t.1/\t.1<=9223372036854775807)/\(-9223372036854775807<=t.2.2.1/\t.2.2.1<=9223372036854775807))/\cmpQ t.1 t.2.1 t.2.2.1 t.2.2.2=R) (n,d,m,k) ⟨⟨⟨hd,hd2⟩,hk,hk2⟩,⟨hn,hm⟩,hR⟩ (Qg _) [] rfl (kps) (kps) ?_
 clear hR hd hk hd2 hk2 hn hm
 rintro ⟨n,d,m,k⟩ ⟨⟨⟨hd,hd2⟩,hk,hk2⟩,⟨hn,hm⟩,hR⟩
 dsimp only at hd hd2 hk hk2 hn hm hR ⊢
 have t1:=Zqi hd hn.1 hn.2
 have t2:=Zqi hk hm.1 hm.2
 have w1:=Zk1 (n:=n) hd hd2
 have w2:=Zk1 (n:=m) hk hk2
 have n1:=Ke n (show d≠0 by omega)
 have n2:=Mn n hd
 have m1:=Ke m (show k≠0 by omega)
 have m2:=Mn m hk
 refine bs.av (sx:=nos) Zt3 ?_
 rcases Int.lt_trichotomy (n / d) (m / k) with hc|hc|hc
 ·have e:=Zq1 hd hk hc
  rw [hR] at e
  rw [e]
  generalize n / d=P at *
  generalize m / k=Q at *
  repeat'(first|refine wk1 ?_|(refine wk2 ?_ ?_<;>intro _)|refine wk4 ?_|fail);all_goals(conv=>whnf)
  exact Zb rfl
 ·have e:=Zv0 hc
  rw [hR] at e
  rw [hc] at t1 w1
  generalize m / k=Q at *
  generalize n%d=r at *
  generalize m%k=t at *
  by_cases r0:r=0
  ·by_cases t0:t=0
   ·have:R=0:=by rw [e,r0,t0]; unfold cmpQ; simp [sgn]
    subst r0 t0
    rw [this]
    clear e hR this
    repeat'(first|refine wk1 ?_|(refine wk2 ?_ ?_<;>intro _)|refine wk4 ?_|fail);all_goals(conv=>whnf)
    all_goals first
     | exact Zb rfl
     | (exfalso; rename_i hx; simp [w1,w2] at hx; done)
     | (exfalso; rename_i hx; simp [w1,w2] at hx; omega)
   ·have:R = -1:=by
     rw [e,r0]; unfold cmpQ sgn
     have:=Sw (show 0<t by omega) hd
     rw [if_neg (by omega),if_pos (by omega)]
    rw [this]
    repeat'(first|refine wk1 ?_|(refine wk2 ?_ ?_<;>intro _)|refine wk4 ?_|fail);all_goals(conv=>whnf)
    all_goals first
     | exact Zb rfl
     | (exfalso; rename_i hx; simp [w1,w2] at hx; done)
     | (exfalso; rename_i hx; simp [w1,w2] at hx; omega)
  ·by_cases t0:t=0
   ·have:R=1:=by
     rw [e,t0]; unfold cmpQ sgn
     have:=Sw (show 0<r by omega) hk
     rw [if_pos (by omega)]
    rw [this]
    repeat'(first|refine wk1 ?_|(refine wk2 ?_ ?_<;>intro _)|refine wk4 ?_|fail);all_goals(conv=>whnf)
    all_goals first
     | exact Zb rfl
     | (exfalso; rename_i hx; simp [w1,w2] at hx; done)
     | (exfalso; rename_i hx; simp [w1,w2] at hx; omega)
   ·repeat'(first|refine wk1 ?_|(refine wk2 ?_ ?_<;>intro _)|refine wk4 ?_|fail);all_goals(conv=>whnf)
    exact Qr ⟨(k,t,d,r),[],rfl,by rw [w1,w2]; exact kps,kps,⟨⟨⟨by dsimp only; omega,by dsimp only; omega⟩,by dsimp only; omega,by dsimp only; omega⟩,⟨⟨by dsimp only; omega,by dsimp only; omega⟩,by dsimp only; omega,by dsimp only; omega⟩,by rw [e]; exact cmpQ_flip.symm⟩,by dsimp only; omega⟩
 ·have e:=Zq1 hk hd hc
  have e2:R=1:=by rw [<-hR,Zq0,e]; rfl
  rw [e2]
  generalize n / d=P at *
  generalize m / k=Q at *
  repeat'(first|refine wk1 ?_|(refine wk2 ?_ ?_<;>intro _)|refine wk4 ?_|fail);all_goals(conv=>whnf)
  exact Zb rfl
abbrev Ry.ra (r:Ry):AV:=.agg [I r.x,I r.y,I r.dx,I r.dy]
abbrev rh0:AV:=.agg [I 0,I 0,Bo false,Bo false]
abbrev Ht.av (x:Ht):AV:=.agg [I x.nu,I x.de,Bo x.on,Bo x.well]
def mrV:Option Ht->PRes
 | none=>⟨.tup [rh0,Bo false],[]⟩
 | some x=>⟨.tup [x.av,Bo true],[]⟩
theorem qin {q X M:Int} (h:0<q):within (q*X) 0 (q*M)=(decide (0<=X)&&decide (X<=M))/\within (q*X) 1 (q*M-1)=(decide (0<X)&&decide (X<M)):=by
 have e1:0<=q*X↔0<=X:=nn_l h
 have e2:0<q*X↔0<X:=Zpc h
 have e3:q*X<=q*M↔X<=M:=⟨fun k=>Int.le_of_mul_le_mul_left k h,fun k=>Int.mul_le_mul_of_nonneg_left k (by omega)⟩
 have e4:q*X<q*M↔X<M:=⟨fun k=>Int.lt_of_mul_lt_mul_left k (by omega),fun k=>Int.mul_lt_mul_of_pos_left k h⟩
 refine ⟨?_,?_⟩
 ·rw [Rl,within_iff,Qc,decide_eq_true_eq,decide_eq_true_eq,e1,e3]
 ·rw [Rl,within_iff,Qc,decide_eq_true_eq,decide_eq_true_eq,<-e2,<-e4]
  omega
theorem e85 {w:Wl} {n sx sy:Int} (h:Str w n sx sy) {r:Ry} (b:RyB r):PCall Tryz.prog 85 [w.ln.av,r.ra] (mrV (htN w n sx sy r)):=by
 obtain ⟨_,_,l1,l2,l3⟩:=h.ln
 have hn0:w.ln.n≠0:=by rw [l1]; have:=h.hn; omega
 have hq:=qpos h
 have hq2:sx*sx+sy*sy<=2:=by
  rcases h.hx with rfl|rfl|rfl<;>rcases h.hy with rfl|rfl|rfl<;>decide
 have hn:=h.hn
 have hnl:=h.nle
 have b1:=h.b1
 have b2:=h.b2
 have hp:PtOk r.x r.y 1:=by
  have:=b.x
  have:=b.y
  exact ⟨by omega,by omega,by omega,by omega⟩
 have c1:=c212 w.ln hn0
 have c2:=c185 w.ln ⟨r.x,r.y,0,1⟩ hn0
 have c3:=c186 w.ln ⟨r.x,r.y,0,1⟩ hn0
 have c4:=c188 w.ln hn0
 rw [l1,l2,l3] at c1
 rw [Uw h hp,show bes w sx sy r.x r.y 1=fW w sx sy r by unfold bes fW; rw [Rf,Rf]] at c2
 rw [Znc h hp,show alo w sx sy r.x r.y 1=aW w sx sy r by unfold alo aW; rw [Rf,Rf]] at c3
 rw [Zqa h] at c4
 have bx:=b.dx
 have by':=b.dy
 have bd:(-100000<=fW w sx sy r/\fW w sx sy r<=100000)/\(-100000<=aW w sx sy r/\aW w sx sy r<=100000)/\(-200000<=gW sx sy r/\gW sx sy r<=200000)/\(-200000<=sx*r.dx+sy*r.dy/\sx*r.dx+sy*r.dy<=200000):=by
  have:=b.x
  have:=b.y
  unfold fW aW gW
  rcases h.hx with rfl|rfl|rfl<;>rcases h.hy with rfl|rfl|rfl<;>simp only [Int.zero_mul,Int.one_mul,Int.neg_mul]<;>omega
 have m1:=Yi (a:=sx) (b:=r.dx) (A:=1) (B:=100000) (by rcases h.hx with e|e|e<;>omega) bx
 have m2:=Yi (a:=sy) (b:=r.dy) (A:=1) (B:=100000) (by rcases h.hy with e|e|e<;>omega) by'
 have m3:=Yi (a:=sx) (b:=r.dy) (A:=1) (B:=100000) (by rcases h.hx with e|e|e<;>omega) by'
 have m4:=Yi (a:=sy) (b:=r.dx) (A:=1) (B:=100000) (by rcases h.hy with e|e|e<;>omega) bx
 have eG:Qa Qb (Qa Qb (sx*r.dy)-Qa Qb (sy*r.dx))=gW sx sy r:=by
  rw [W_eq (n:=sx*r.dy) (by omega) (by omega),W_eq (n:=sy*r.dx) (by omega) (by omega),W_eq (by omega) (by omega)]; rfl
 have eS:Qa Qb (Qa Qb (sx*r.dx)+Qa Qb (sy*r.dy))=sx*r.dx+sy*r.dy:=by
  rw [W_eq (n:=sx*r.dx) (by omega) (by omega),W_eq (n:=sy*r.dy) (by omega) (by omega),W_eq (by omega) (by omega)]
 have hal:=Zrl w sx sy r
 have hyw:=Zoo h r
 generalize hgg:gW sx sy r=g at *
 generalize hff:fW w sx sy r=f at *
 generalize haa:aW w sx sy r=a at *
 have mq:=Yi (a:=n) (b:=sx*sx+sy*sy) (A:=10000) (B:=2) (by omega) (by omega)
 have key:∀ D F:Int,(-200000<=D/\D<=200000)->(-100000<=F/\F<=100000)->Qa Qb (Qa Qb (a*D)-Qa Qb (F*Qa Qb (Qa Qb (sx*r.dx)+Qa Qb (sy*r.dy))))=a*D-F*(sx*r.dx+sy*r.dy)/\Qa Qb (n*(sx*sx+sy*sy)*D)=(sx*sx+sy*sy)*(n*D)/\Qa Qb (Qa Qb (n*(sx*sx+sy*sy)*D)-1)=(sx*sx+sy*sy)*(n*D)-1:=fun D F hD hF=>by
  have k1:=Yi (a:=a) (b:=D) (A:=100000) (B:=200000) bd.2.1 hD
  have k2:=Yi (a:=F) (b:=sx*r.dx+sy*r.dy) (A:=100000) (B:=200000) hF bd.2.2.2
  have k3:=Yi (a:=n*(sx*sx+sy*sy)) (b:=D) (A:=20000) (B:=200000) (by omega) hD
  rw [eS,W_eq (n:=a*D) (by omega) (by omega),W_eq (n:=F*_) (by omega) (by omega),W_eq (n:=n*(sx*sx+sy*sy)*D) (by omega) (by omega)]
  refine ⟨W_eq (by omega) (by omega),by clear k1 k2 k3 hal hyw; grind,?_⟩
  rw [W_eq (by omega) (by omega)]
  clear k1 k2 k3 hal hyw; grind
 by_cases g0:g=0
 ·have e:htN w n sx sy r=none:=by unfold htN; rw [hgg,if_pos g0]
  rw [e]
  have hk0:=Zc c1 (Zc c2 Zf)
  rw [g0] at eG
  clear key hal hyw c1 c2 c3 c4 hgg hff haa bd mq m1 m2 m3 m4 eS e b
  generalize w.ln=l at *
  obtain ⟨rx,ry,rdx,rdy⟩:=r
  refine bs.pv (sx:=nos) hk0 Tryz.func85 (by kernel_rfl) (by kernel_rfl) rfl ?_
  repeat'(first|refine wk3 ?_|(refine wk2 ?_ ?_<;>intro _)|refine wk4 ?_|fail);all_goals(conv=>whnf)
  all_goals first|exact Ze rfl rfl|(exfalso; simp_all; done)
 by_cases gl:g<0
 ·have e:htN w n sx sy r=some ⟨f,-g,decide (xW w r<=0)&&decide (0<=yW w r),decide (xW w r<0)&&decide (0<yW w r)⟩:=by unfold htN; rw [hgg,hff,if_neg g0,if_pos gl]
  rw [e]
  obtain ⟨k1,k2,k3⟩:=key (-g) (-f) (by omega) (by omega)
  have hX:a * -g - -f*(sx*r.dx+sy*r.dy)=(sx*sx+sy*sy) * -xW w r:=by
   rw [show a * -g - -f*(sx*r.dx+sy*r.dy) = -(a*g-f*(sx*r.dx+sy*r.dy)) by grind,hal]; grind
  obtain ⟨q1,q2⟩:=qin (q:=sx*sx+sy*sy) (X:=-xW w r) (M:=n * -g) hq
  rw [hX] at k1
  rw [<-k1] at q1 q2
  rw [<-k2] at q1
  rw [<-k3] at q2
  have w0:Qa Qb (0-g) = -g:=by rw [W_eq (by omega) (by omega)]; omega
  have w1:Qa Qb (0-f) = -f:=by rw [W_eq (by omega) (by omega)]; omega
  have w2:Qa Qb (0-Qa Qb (0-f))=f:=by rw [w1,W_eq (by omega) (by omega)]; omega
  rw [show (decide (0 <= -xW w r)&&decide (-xW w r<=n * -g))=(decide (xW w r<=0)&&decide (0<=yW w r)) by rw [hyw,show n * -g = -(n*g) by grind,Rl,Qc,Qc]; simp only [decide_eq_true_eq]; omega,<-w0,<-w1,<-eG] at q1
  rw [show (decide (0 < -xW w r)&&decide (-xW w r<n * -g))=(decide (xW w r<0)&&decide (0<yW w r)) by rw [hyw,show n * -g = -(n*g) by grind,Rl,Qc,Qc]; simp only [decide_eq_true_eq]; omega,<-w0,<-w1,<-eG] at q2
  have hres:mrV (some ⟨f,-g,decide (xW w r<=0)&&decide (0<=yW w r),decide (xW w r<0)&&decide (0<yW w r)⟩)=⟨.tup [.agg [I (Qa Qb (0-Qa Qb (0-f))),I (Qa Qb (0-Qa Qb (Qa Qb (sx*r.dy)-Qa Qb (sy*r.dx)))),Bo (decide (xW w r<=0)&&decide (0<=yW w r)),Bo (decide (xW w r<0)&&decide (0<yW w r))],Bo true],[]⟩:=by rw [w2,eG,w0]; rfl
  rw [hres,<-q1,<-q2]
  have hk0:=Zc c1 (Zc c2 (Zc c3 (Zc c4 Zhw)))
  have t1:¬ Qa Qb (Qa Qb (sx*r.dy)-Qa Qb (sy*r.dx))=0:=by omega
  have t2:Qa Qb (Qa Qb (sx*r.dy)-Qa Qb (sy*r.dx))<0:=by omega
  clear key hal hyw c1 c2 c3 c4 hgg hff haa bd mq m1 m2 m3 m4 eS e b q1 q2 k1 k2 k3 w0 w1 w2 hres hX eG
  generalize w.ln=l at *
  obtain ⟨rx,ry,rdx,rdy⟩:=r
  refine bs.pv (sx:=nos) hk0 Tryz.func85 (by kernel_rfl) (by kernel_rfl) rfl ?_
  repeat'(first|refine wk3 ?_|(refine wk2 ?_ ?_<;>intro _)|refine wk4 ?_|fail);all_goals(conv=>whnf)
  all_goals first|exact Ze rfl rfl|(exfalso; simp_all; done)
 ·have e:htN w n sx sy r=some ⟨-f,g,decide (0<=xW w r)&&decide (yW w r<=0),decide (0<xW w r)&&decide (yW w r<0)⟩:=by unfold htN; rw [hgg,hff,if_neg g0,if_neg gl]
  rw [e]
  obtain ⟨k1,k2,k3⟩:=key g f (by omega) (by omega)
  rw [hal] at k1
  obtain ⟨q1,q2⟩:=qin (q:=sx*sx+sy*sy) (X:=xW w r) (M:=n*g) hq
  rw [<-k1] at q1 q2
  rw [<-k2] at q1
  rw [<-k3] at q2
  have w1:Qa Qb (0-f) = -f:=by rw [W_eq (by omega) (by omega)]; omega
  rw [show (decide (0<=xW w r)&&decide (xW w r<=n*g))=(decide (0<=xW w r)&&decide (yW w r<=0)) by rw [hyw,Rl,Qc,Qc]; simp only [decide_eq_true_eq]; omega,<-eG] at q1
  rw [show (decide (0<xW w r)&&decide (xW w r<n*g))=(decide (0<xW w r)&&decide (yW w r<0)) by rw [hyw,Rl,Qc,Qc]; simp only [decide_eq_true_eq]; omega,<-eG] at q2
  have hres:mrV (some ⟨-f,g,decide (0<=xW w r)&&decide (yW w r<=0),decide (0<xW w r)&&decide (yW w r<0)⟩)=⟨.tup [.agg [I (Qa Qb (0-f)),I (Qa Qb (Qa Qb (sx*r.dy)-Qa Qb (sy*r.dx))),Bo (decide (0<=xW w r)&&decide (yW w r<=0)),Bo (decide (0<xW w r)&&decide (yW w r<0))],Bo true],[]⟩:=by rw [w1,eG]; rfl
  rw [hres,<-q1,<-q2]
  have hk0:=Zc c1 (Zc c2 (Zc c3 (Zc c4 Zhw)))
  have t1:¬ Qa Qb (Qa Qb (sx*r.dy)-Qa Qb (sy*r.dx))=0:=by omega
  have t2:¬ Qa Qb (Qa Qb (sx*r.dy)-Qa Qb (sy*r.dx))<0:=by omega
  clear key hal hyw c1 c2 c3 c4 hgg hff haa bd mq m1 m2 m3 m4 eS e b q1 q2 k1 k2 k3 w1 hres eG
  generalize w.ln=l at *
  obtain ⟨rx,ry,rdx,rdy⟩:=r
  refine bs.pv (sx:=nos) hk0 Tryz.func85 (by kernel_rfl) (by kernel_rfl) rfl ?_
  repeat'(first|refine wk3 ?_|(refine wk2 ?_ ?_<;>intro _)|refine wk4 ?_|fail);all_goals(conv=>whnf)
  all_goals first|exact Ze rfl rfl|(exfalso; simp_all; done)
def laV (a b:Ht):Int:=cmpQ a.nu a.de b.nu b.de
structure HtC (x:Ht):Prop where
 de:0<x.de/\x.de<=200000
 nu : -100000<=x.nu/\x.nu<=100000
theorem e87 {a b:Ht} (ha:HtC a) (hb:HtC b):PCall Tryz.prog 87 [a.av,b.av] ⟨I (laV a b),[]⟩:=by
 have c1:=c187 ha.de.1 hb.de.1 (by have:=ha.de; omega) (by have:=hb.de; omega) (n:=a.nu) (m:=b.nu) (by have:=ha.nu; omega) (by have:=hb.nu; omega)
 have hk0:=Zc c1 Zf
 unfold laV
 clear c1 ha hb
 obtain ⟨a1,a2,a3,a4⟩:=a
 obtain ⟨b1,b2,b3,b4⟩:=b
 refine bs.pv (sx:=nos) hk0 Tryz.func87 (by kernel_rfl) (by kernel_rfl) rfl ?_
 repeat'(first|refine wk3 ?_|(refine wk2 ?_ ?_<;>intro _)|refine wk4 ?_|fail);all_goals(conv=>whnf)
 exact Zb rfl
theorem Zt0 {a b:Ht}:laV a b<0↔a.nu*b.de<b.nu*a.de:=by unfold laV cmpQ; rw [Zay]; omega
theorem Ztz {a b:Ht}:0<laV a b↔b.nu*a.de<a.nu*b.de:=by unfold laV cmpQ; rw [Zax]; omega
theorem Zpo {a b:Ht}:laV a b=0↔a.nu*b.de=b.nu*a.de:=by unfold laV cmpQ; rw [Ze2]; omega
theorem e86 {h:Hal} (hf:h.few) {k:Nat} (hk:k<h.cs.length):PCall Tryz.prog 86 [h.av,I k] ⟨(wlOf h.cs k).ln.av,[]⟩:=c105 hf hk
noncomputable abbrev rLi (h:Hal):List AV->Option PRes:=famA (fun k:Nat=>k<h.cs.length) (fun k=>[h.av,I k]) (fun k=>⟨(wlOf h.cs k).ln.av,[]⟩)
theorem Zk9 {h:Hal} {k:Nat} (hk:k<h.cs.length):rLi h [h.av,I k]=some ⟨(wlOf h.cs k).ln.av,[]⟩ :=
 Yp (p:=fun k:Nat=>k<h.cs.length) (g:=fun k=>[h.av,I k]) (r:=fun k=>⟨(wlOf h.cs k).ln.av,[]⟩) (k:=k) (fun j hj=>by
  simp only [Rj,Tm,true_and,and_true] at hj
  rw [Pp hj]) hk
theorem Zwu {a b:Ln} (h:a.av=b.av):a=b:=by
 obtain ⟨a1,a2,a3,a4⟩:=a
 obtain ⟨b1,b2,b3,b4⟩:=b
 simp only [Rj,Tm,Oy,true_and,and_true] at h
 obtain ⟨rfl,rfl,rfl,rfl⟩:=h
 rfl
def htL (l:Ln) (r:Ry):Option Ht:=htN ⟨0,l.x,l.y,Qa Qb (l.x+l.dx),Qa Qb (l.y+l.dy)⟩ l.n l.sx l.sy r
theorem Zt8 {w:Wl} {n sx sy:Int} (h:Str w n sx sy) (r:Ry):htL w.ln r=htN w n sx sy r:=by
 obtain ⟨a1,a2,a3,a4,a5⟩:=h.ln
 have e:=ln_b h
 have e1:Qa Qb (w.ln.x+w.ln.dx)=w.tx:=congrArg Pt.x e
 have e2:Qa Qb (w.ln.y+w.ln.dy)=w.ty:=congrArg Pt.y e
 unfold htL
 rw [a3,a4,a5,e1,e2]
 rfl
noncomputable abbrev rMr:List AV->Option PRes:=famA (fun q:Ln × Ry=>RyB q.2/\∃ w n sx sy,Str w n sx sy/\q.1=w.ln) (fun q=>[q.1.av,q.2.ra]) (fun q=>mrV (htL q.1 q.2))
theorem Zwf {pt:PC} (hp:PCOK Tryz.prog pt):PCOK Tryz.prog (ins 85 rMr pt):=Xj (fun q hq=>by
 obtain ⟨b,w,n,sx,sy,h,e⟩:=hq
 rw [e,Zt8 h]
 exact e85 h b) hp
theorem Ztn {r q:Ry} (h:r.ra=q.ra):r=q:=by
 obtain ⟨a,b,c,d⟩:=r
 obtain ⟨a',b',c',d'⟩:=q
 simp only [Rj,Tm,Oy,true_and,and_true] at h
 obtain ⟨rfl,rfl,rfl,rfl⟩:=h
 rfl
theorem Zu2 {w:Wl} {n sx sy:Int} (h:Str w n sx sy) {r:Ry} (b:RyB r):rMr [w.ln.av,r.ra]=some (mrV (htW w r)):=by
 rw [Zbi h,<-Zt8 h]
 exact Yp (p:=fun q:Ln × Ry=>RyB q.2/\∃ w n sx sy,Str w n sx sy/\q.1=w.ln) (g:=fun q=>[q.1.av,q.2.ra]) (r:=fun q=>mrV (htL q.1 q.2)) (k:=(w.ln,r)) (fun j hj=>by
  rw [Zwu (Qz hj).1,Ztn (Qz (Qz hj).2).1]) ⟨b,w,n,sx,sy,h,rfl⟩
noncomputable abbrev rLa:List AV->Option PRes:=famA (fun q:Ht × Ht=>HtC q.1/\HtC q.2) (fun q=>[q.1.av,q.2.av]) (fun q=>⟨I (laV q.1 q.2),[]⟩)
theorem Zt7 {x y:Ht} (h:x.av=y.av):x=y:=by
 obtain ⟨a,b,c,d⟩:=x
 obtain ⟨a',b',c',d'⟩:=y
 simp only [Rj,Tm,AV.bool.injEq,Oy,true_and,and_true] at h
 obtain ⟨rfl,rfl,rfl,rfl⟩:=h
 rfl
theorem Zil {a b:Ht} (ha:HtC a) (hb:HtC b):rLa [a.av,b.av]=some ⟨I (laV a b),[]⟩ :=
 Yp (p:=fun q:Ht × Ht=>HtC q.1/\HtC q.2) (g:=fun q=>[q.1.av,q.2.av]) (r:=fun q=>⟨I (laV q.1 q.2),[]⟩) (k:=(a,b)) (fun j hj=>by
  rw [Zt7 (Qz hj).1,Zt7 (Qz (Qz hj).2).1]) ⟨ha,hb⟩
theorem Zwj {pt:PC} (hp:PCOK Tryz.prog pt):PCOK Tryz.prog (ins 87 rLa pt):=Xj (fun q hq=>e87 hq.1 hq.2) hp
def bcl:Option Cd->List AV
 | none=>[I 0,I 0,Bo false,Bo false]
 | some c=>[I c.nu,I c.de,Bo true,Bo c.well]
def bwl:Option Cd->Int
 | none=>-1
 | some c=>c.i
def fsV (o:Option Cd):PRes:=⟨.tup [I (bwl o),.agg (bcl o)],[]⟩
theorem e47 {h:Hal} (hf:h.few) (g:h.fine) {r:Ry} (b:RyB r) {fr:Int × Int} {last:Int} (B:Bh h.cs r fr last):PCall Tryz.prog 47 [h.av,r.ra,I last] (fsV (bstR (Zx h.cs r fr last) h.cs.length)):=by
 have hk0:PCOK Tryz.prog (ins 86 (rLi h) (ins 85 rMr (ins 87 rLa pt0))):=Xj (fun k hk=>e86 hf hk) (Zwf (Zwj Zf))
 have hwc:h.ws.length=h.cs.length:=g.le.2.2.1
 have hl3:h.cs.length<1000:=hf.2.1
 have len:(h.ws.map Wal.av).length=h.cs.length:=by simp [hwc]
 obtain ⟨y,hy1,hy2,hyc,hyl⟩:∃ y:Ht,y.nu=fr.1/\y.de=fr.2/\HtC y/\((last = -1/\y=⟨0,1,false,false⟩)\/∃ i:Nat,i<h.cs.length/\last=(i:Int)/\htW (wlOf h.cs i) r=some y):=by
  rcases B.last with ⟨h1,h2⟩|⟨i,hi,h1,h2,y,hy,h3,h4⟩
  ·exact ⟨⟨0,1,false,false⟩,by rw [h2],by rw [h2],⟨by decide,by decide⟩,.inl ⟨h1,rfl⟩⟩
  ·obtain ⟨n,sx,sy,hs⟩:=g.st i hi
   have hb:=Zlj hs b (by rw [<-Zbi hs]; exact hy)
   exact ⟨y,h3,h4,⟨hb.de,hb.nu⟩,.inr ⟨i,hi,h1,hy⟩⟩
 have hMr:=fun k (hk:k<h.cs.length)=>Zu2 (g.st k hk).choose_spec.choose_spec.choose_spec b
 have hbm:∀ k,k<=h.cs.length->∀ c,bstR (Zx h.cs r fr last) k=some c->HtC ⟨c.nu,c.de,true,c.well⟩:=fun k hk c e=>by
  rw [Zq8 (m:=h.cs.length) (fun i j b c hij hj h1 h2 h3=>Zm6 g i j b c hij hj h1 h2 h3) k hk] at e
  obtain ⟨i,hi,e2⟩:=Zcx e
  have hb:=Zxl g b (by omega) e2
  exact ⟨hb.de,hb.nu⟩
 rcases hyl with ⟨rfl,rfl⟩|⟨i,hi,rfl,hy⟩
 ·refine bs.pv (sx:=nos) hk0 Tryz.func47 (by kernel_rfl) (by kernel_rfl) (by cases bstR (Zx h.cs r fr _) h.cs.length<;>rfl) ?_
  unfold Zdu
  conv=>whnf
  repeat'(first|refine wk3 ?_|(refine wk2 ?_ ?_<;>intro _)|refine wk4 ?_|fail);all_goals(conv=>whnf)
  refine Yj (S:=Nat × Int × Option Cd) (fun t=>h.cs.length-t.1)
   (fun t=>[(2,I (-1)),(3,.ptr 0 0 0),(4,.ptr 1 0 0),(6,I 0),(7,.ptr 2 0 0),(8,.ptr 3 0 0),(9,I (bwl t.2.2)),(10,.ptr 4 0 0),(11,I t.2.1)])
   (fun t=>[(4,.row 4 [bcl t.2.2] true false),(3,.row 4 [[I (⟨0,1,false,false⟩:Ht).nu,I (⟨0,1,false,false⟩:Ht).de,Bo (⟨0,1,false,false⟩:Ht).on,Bo (⟨0,1,false,false⟩:Ht).well]] true false),(2,.row 4 [[I 0,I 0,Bo false,Bo false]] true false),(1,.row 4 [[I r.x,I r.y,I r.dx,I r.dy]] true false),(0,.row 9 [h.cells] true false)]) 5 5
   (fun t=>t.2.1=t.1/\t.1<=h.cs.length/\t.2.2=bstR (Zx h.cs r fr (-1)) t.1) (0,0,none) ⟨rfl,Qm _,rfl⟩ (Qg _) [] rfl (kps) (kps) ?_
  rintro ⟨k,ik,acc⟩ ⟨hik,hk,ha⟩
  dsimp only at hik hk ha ⊢
  subst hik
  by_cases hlt:k<h.cs.length
  ·have c3:=hMr k hlt
   have c4:=Zk9 hlt
   have hst:bstR (Zx h.cs r fr (-1)) (k+1)=stR acc (Zx h.cs r fr (-1) k):=by rw [bstR,<-ha]
   have hA:∀ b,acc=some b->HtC ⟨b.nu,b.de,true,b.well⟩:=fun c e=>hbm k hk c (by rw [<-ha]; exact e)
   by_cases hkl:(k:Int)=(-1)
   ·exact absurd hkl (by omega)
   ·cases hx:htW (wlOf h.cs k) r with
    | none =>
     have hc:Zx h.cs r fr (-1) k=none:=Zg0 hx
     have hst:bstR (Zx h.cs r fr (-1)) (k+1)=acc:=by rw [hst,hc]; cases acc<;>rfl
     rw [hx] at c3
     change _=some (⟨.tup [rh0,Bo false],[]⟩:PRes) at c3
     cases acc<;>refine bs.av (sx:=nos) hk0 ?_<;>repeat'(first|refine wk3 ?_|(refine wk2 ?_ ?_<;>intro _)|refine wk4 ?_|fail);all_goals(conv=>whnf)
     all_goals first|exact Qr ⟨(k+1,_,_),[],rfl,kps,kps,⟨Zh (by omega),hlt,hst.symm⟩,by dsimp only; omega⟩|(exfalso; simp_all; done)
    | some x =>
     have hc:=Zl2 B hx
     have hxC:HtC x:=by
      obtain ⟨n,sx,sy,hs⟩:=g.st k hlt
      have hb:=Zlj hs b (by rw [<-Zbi hs]; exact hx)
      exact ⟨hb.de,hb.nu⟩
     rw [hx] at c3
     change _=some (⟨.tup [x.av,Bo true],[]⟩:PRes) at c3
     have c5:=Zil hxC hyc
     have hpos:0<laV x (⟨0,1,false,false⟩:Ht)↔fr.1*x.de<x.nu*fr.2:=by rw [Ztz,hy1,hy2]
     cases ho:x.on with
     | false =>
      rw [ho] at hc
      rw [if_neg (by simp)] at hc
      have hst:bstR (Zx h.cs r fr (-1)) (k+1)=acc:=by rw [hst,hc]; cases acc<;>rfl
      clear hc hpos c5 hxC hx
      obtain ⟨x1,x2,x3,x4⟩:=x
      subst ho
      cases acc<;>refine bs.av (sx:=nos) hk0 ?_<;>repeat'(first|refine wk3 ?_|(refine wk2 ?_ ?_<;>intro _)|refine wk4 ?_|fail);all_goals(conv=>whnf)
      all_goals first|exact Qr ⟨(k+1,_,_),[],rfl,kps,kps,⟨Zh (by omega),hlt,hst.symm⟩,by dsimp only; omega⟩|(exfalso; simp_all; done)
     | true =>
      by_cases hp:0<laV x (⟨0,1,false,false⟩:Ht)
      ·rw [if_pos ⟨ho,hpos.1 hp⟩] at hc
       rw [hc] at hst
       clear hc hpos hx
       obtain ⟨x1,x2,x3,x4⟩:=x
       subst ho
       dsimp only at hst
       cases acc with
       | none =>
        have hst:bstR (Zx h.cs r fr (-1)) (k+1)=some ⟨k,x1,x2,x4⟩:=hst
        refine bs.av (sx:=nos) hk0 ?_
        repeat'(first|refine wk3 ?_|(refine wk2 ?_ ?_<;>intro _)|refine wk4 ?_|fail);all_goals(conv=>whnf)
        all_goals first|exact Qr ⟨(k+1,_,some ⟨k,x1,x2,x4⟩),[],rfl,kps,kps,⟨Zh (by omega),hlt,hst.symm⟩,by dsimp only; omega⟩|(exfalso; simp_all; done)
       | some c =>
        have c6:=Zil hxC (hA c rfl)
        have hng:laV ⟨x1,x2,true,x4⟩ ⟨c.nu,c.de,true,c.well⟩<0↔Zfi ⟨k,x1,x2,x4⟩ c:=Zt0
        have hzr:laV ⟨x1,x2,true,x4⟩ ⟨c.nu,c.de,true,c.well⟩=0↔x1*c.de=c.nu*x2:=Zpo
        have hst:bstR (Zx h.cs r fr (-1)) (k+1)=if Zfi ⟨k,x1,x2,x4⟩ c\/(x1*c.de=c.nu*x2/\c.well=true) then some ⟨k,x1,x2,x4⟩ else some c:=hst
        have hst:=hst.trans (ite_congr (propext (or_congr hng.symm (and_congr hzr.symm Iff.rfl))) (fun _=>rfl) (fun _=>rfl))
        clear hng hzr hxC hA ha
        generalize laV ⟨x1,x2,true,x4⟩ ⟨c.nu,c.de,true,c.well⟩=L2 at *
        generalize laV ⟨x1,x2,true,x4⟩ (⟨0,1,false,false⟩:Ht)=L1 at *
        obtain ⟨ci,cn,cd,cw⟩:=c
        dsimp only at hst
        by_cases hneg:L2<0
        ·rw [if_pos (.inl hneg)] at hst
         refine bs.av (sx:=nos) hk0 ?_
         repeat'(first|refine wk3 ?_|(refine wk2 ?_ ?_<;>intro _)|refine wk4 ?_|fail);all_goals(conv=>whnf)
         all_goals first|exact Qr ⟨(k+1,_,some ⟨k,x1,x2,x4⟩),[],rfl,kps,kps,⟨Zh (by omega),hlt,hst.symm⟩,by dsimp only; omega⟩|(exfalso; simp_all; done)
        ·by_cases hz:L2=0
         ·cases cw with
          | true =>
           rw [if_pos (.inr ⟨hz,rfl⟩)] at hst
           refine bs.av (sx:=nos) hk0 ?_
           repeat'(first|refine wk3 ?_|(refine wk2 ?_ ?_<;>intro _)|refine wk4 ?_|fail);all_goals(conv=>whnf)
           all_goals first|exact Qr ⟨(k+1,_,some ⟨k,x1,x2,x4⟩),[],rfl,kps,kps,⟨Zh (by omega),hlt,hst.symm⟩,by dsimp only; omega⟩|(exfalso; simp_all; done)
          | false =>
           rw [if_neg (by rintro (q|⟨_,q⟩); exact hneg q; cases q)] at hst
           refine bs.av (sx:=nos) hk0 ?_
           repeat'(first|refine wk3 ?_|(refine wk2 ?_ ?_<;>intro _)|refine wk4 ?_|fail);all_goals(conv=>whnf)
           all_goals first|exact Qr ⟨(k+1,_,some ⟨ci,cn,cd,false⟩),[],rfl,kps,kps,⟨Zh (by omega),hlt,hst.symm⟩,by dsimp only; omega⟩|(exfalso; simp_all; done)
         ·rw [if_neg (by rintro (q|⟨q,_⟩); exact hneg q; exact hz q)] at hst
          refine bs.av (sx:=nos) hk0 ?_
          repeat'(first|refine wk3 ?_|(refine wk2 ?_ ?_<;>intro _)|refine wk4 ?_|fail);all_goals(conv=>whnf)
          all_goals first|exact Qr ⟨(k+1,_,some ⟨ci,cn,cd,cw⟩),[],rfl,kps,kps,⟨Zh (by omega),hlt,hst.symm⟩,by dsimp only; omega⟩|(exfalso; simp_all; done)
      ·rw [if_neg (fun q=>hp (hpos.2 q.2))] at hc
       have hst:bstR (Zx h.cs r fr (-1)) (k+1)=acc:=by rw [hst,hc]; cases acc<;>rfl
       clear hc hpos hx hxC
       obtain ⟨x1,x2,x3,x4⟩:=x
       subst ho
       generalize laV ⟨x1,x2,true,x4⟩ (⟨0,1,false,false⟩:Ht)=L1 at *
       cases acc<;>refine bs.av (sx:=nos) hk0 ?_<;>repeat'(first|refine wk3 ?_|(refine wk2 ?_ ?_<;>intro _)|refine wk4 ?_|fail);all_goals(conv=>whnf)
       all_goals first|exact Qr ⟨(k+1,_,_),[],rfl,kps,kps,⟨Zh (by omega),hlt,hst.symm⟩,by dsimp only; omega⟩|(exfalso; simp_all; done)
  ·obtain rfl:k=h.cs.length:=by omega
   rw [<-ha]
   cases acc
   all_goals
    refine bs.av (sx:=nos) hk0 ?_
    repeat'(first|refine wk3 ?_|(refine wk2 ?_ ?_<;>intro _)|refine wk4 ?_|fail);all_goals(conv=>whnf)
    exact Ze rfl rfl
 ·have c1:=hMr i hi
  rw [hy] at c1
  change _=some (⟨.tup [y.av,Bo true],[]⟩:PRes) at c1
  have c2:=Zk9 hi
  refine bs.pv (sx:=nos) hk0 Tryz.func47 (by kernel_rfl) (by kernel_rfl) (by cases bstR (Zx h.cs r fr _) h.cs.length<;>rfl) ?_
  repeat'(first|refine wk3 ?_|(refine wk2 ?_ ?_<;>intro _)|refine wk4 ?_|fail);all_goals(conv=>whnf)
  refine Yj (S:=Nat × Int × Option Cd) (fun t=>h.cs.length-t.1)
   (fun t=>[(2,I (i:Int)),(3,.ptr 0 0 0),(4,.ptr 1 0 0),(6,I 0),(7,.ptr 2 0 0),(8,.ptr 3 0 0),(9,I (bwl t.2.2)),(10,.ptr 13 0 0),(11,I t.2.1)])
   (fun t=>[(13,.row 4 [bcl t.2.2] true false),(3,.row 4 [[I y.nu,I y.de,Bo y.on,Bo y.well]] true false),(2,.row 4 [[I 0,I 0,Bo false,Bo false]] true false),(1,.row 4 [[I r.x,I r.y,I r.dx,I r.dy]] true false),(0,.row 9 [h.cells] true false)]) 14 14
   (fun t=>t.2.1=t.1/\t.1<=h.cs.length/\t.2.2=bstR (Zx h.cs r fr (i:Int)) t.1) (0,0,none) ⟨rfl,Qm _,rfl⟩ (Qg _) [] rfl (kps) (kps) ?_
  rintro ⟨k,ik,acc⟩ ⟨hik,hk,ha⟩
  dsimp only at hik hk ha ⊢
  subst hik
  by_cases hlt:k<h.cs.length
  ·have c3:=hMr k hlt
   have c4:=Zk9 hlt
   have hst:bstR (Zx h.cs r fr (i:Int)) (k+1)=stR acc (Zx h.cs r fr (i:Int) k):=by rw [bstR,<-ha]
   have hA:∀ b,acc=some b->HtC ⟨b.nu,b.de,true,b.well⟩:=fun c e=>hbm k hk c (by rw [<-ha]; exact e)
   by_cases hkl:(k:Int)=(i:Int)
   ·have hc:Zx h.cs r fr (i:Int) k=none:=if_pos hkl
    have hst:bstR (Zx h.cs r fr (i:Int)) (k+1)=acc:=by rw [hst,hc]; cases acc<;>rfl
    cases hx:htW (wlOf h.cs k) r<;>rw [hx] at c3
    ·change _=some (⟨.tup [rh0,Bo false],[]⟩:PRes) at c3
     cases acc<;>refine bs.av (sx:=nos) hk0 ?_<;>repeat'(first|refine wk3 ?_|(refine wk2 ?_ ?_<;>intro _)|refine wk4 ?_|fail);all_goals(conv=>whnf)
     all_goals first|exact Qr ⟨(k+1,_,_),[],rfl,kps,kps,⟨Zh (by omega),hlt,hst.symm⟩,by dsimp only; omega⟩|(exfalso; simp_all; done)
    ·rename_i x
     change _=some (⟨.tup [x.av,Bo true],[]⟩:PRes) at c3
     cases acc<;>refine bs.av (sx:=nos) hk0 ?_<;>repeat'(first|refine wk3 ?_|(refine wk2 ?_ ?_<;>intro _)|refine wk4 ?_|fail);all_goals(conv=>whnf)
     all_goals first|exact Qr ⟨(k+1,_,_),[],rfl,kps,kps,⟨Zh (by omega),hlt,hst.symm⟩,by dsimp only; omega⟩|(exfalso; simp_all; done)
   ·cases hx:htW (wlOf h.cs k) r with
    | none =>
     have hc:Zx h.cs r fr (i:Int) k=none:=Zg0 hx
     have hst:bstR (Zx h.cs r fr (i:Int)) (k+1)=acc:=by rw [hst,hc]; cases acc<;>rfl
     rw [hx] at c3
     change _=some (⟨.tup [rh0,Bo false],[]⟩:PRes) at c3
     cases acc<;>refine bs.av (sx:=nos) hk0 ?_<;>repeat'(first|refine wk3 ?_|(refine wk2 ?_ ?_<;>intro _)|refine wk4 ?_|fail);all_goals(conv=>whnf)
     all_goals first|exact Qr ⟨(k+1,_,_),[],rfl,kps,kps,⟨Zh (by omega),hlt,hst.symm⟩,by dsimp only; omega⟩|(exfalso; simp_all; done)
    | some x =>
     have hc:=Zl2 B hx
     have hxC:HtC x:=by
      obtain ⟨n,sx,sy,hs⟩:=g.st k hlt
      have hb:=Zlj hs b (by rw [<-Zbi hs]; exact hx)
      exact ⟨hb.de,hb.nu⟩
     rw [hx] at c3
     change _=some (⟨.tup [x.av,Bo true],[]⟩:PRes) at c3
     have c5:=Zil hxC hyc
     have hpos:0<laV x y↔fr.1*x.de<x.nu*fr.2:=by rw [Ztz,hy1,hy2]
     cases ho:x.on with
     | false =>
      rw [ho] at hc
      rw [if_neg (by simp)] at hc
      have hst:bstR (Zx h.cs r fr (i:Int)) (k+1)=acc:=by rw [hst,hc]; cases acc<;>rfl
      clear hc hpos c5 hxC hx
      obtain ⟨x1,x2,x3,x4⟩:=x
      subst ho
      cases acc<;>refine bs.av (sx:=nos) hk0 ?_<;>repeat'(first|refine wk3 ?_|(refine wk2 ?_ ?_<;>intro _)|refine wk4 ?_|fail);all_goals(conv=>whnf)
      all_goals first|exact Qr ⟨(k+1,_,_),[],rfl,kps,kps,⟨Zh (by omega),hlt,hst.symm⟩,by dsimp only; omega⟩|(exfalso; simp_all; done)
     | true =>
      by_cases hp:0<laV x y
      ·rw [if_pos ⟨ho,hpos.1 hp⟩] at hc
       rw [hc] at hst
       clear hc hpos hx
       obtain ⟨x1,x2,x3,x4⟩:=x
       subst ho
       dsimp only at hst
       cases acc with
       | none =>
        have hst:bstR (Zx h.cs r fr (i:Int)) (k+1)=some ⟨k,x1,x2,x4⟩:=hst
        refine bs.av (sx:=nos) hk0 ?_
        repeat'(first|refine wk3 ?_|(refine wk2 ?_ ?_<;>intro _)|refine wk4 ?_|fail);all_goals(conv=>whnf)
        all_goals first|exact Qr ⟨(k+1,_,some ⟨k,x1,x2,x4⟩),[],rfl,kps,kps,⟨Zh (by omega),hlt,hst.symm⟩,by dsimp only; omega⟩|(exfalso; simp_all; done)
       | some c =>
        have c6:=Zil hxC (hA c rfl)
        have hng:laV ⟨x1,x2,true,x4⟩ ⟨c.nu,c.de,true,c.well⟩<0↔Zfi ⟨k,x1,x2,x4⟩ c:=Zt0
        have hzr:laV ⟨x1,x2,true,x4⟩ ⟨c.nu,c.de,true,c.well⟩=0↔x1*c.de=c.nu*x2:=Zpo
        have hst:bstR (Zx h.cs r fr (i:Int)) (k+1)=if Zfi ⟨k,x1,x2,x4⟩ c\/(x1*c.de=c.nu*x2/\c.well=true) then some ⟨k,x1,x2,x4⟩ else some c:=hst
        have hst:=hst.trans (ite_congr (propext (or_congr hng.symm (and_congr hzr.symm Iff.rfl))) (fun _=>rfl) (fun _=>rfl))
        clear hng hzr hxC hA ha
        generalize laV ⟨x1,x2,true,x4⟩ ⟨c.nu,c.de,true,c.well⟩=L2 at *
        generalize laV ⟨x1,x2,true,x4⟩ y=L1 at *
        obtain ⟨ci,cn,cd,cw⟩:=c
        dsimp only at hst
        by_cases hneg:L2<0
        ·rw [if_pos (.inl hneg)] at hst
         refine bs.av (sx:=nos) hk0 ?_
         repeat'(first|refine wk3 ?_|(refine wk2 ?_ ?_<;>intro _)|refine wk4 ?_|fail);all_goals(conv=>whnf)
         all_goals first|exact Qr ⟨(k+1,_,some ⟨k,x1,x2,x4⟩),[],rfl,kps,kps,⟨Zh (by omega),hlt,hst.symm⟩,by dsimp only; omega⟩|(exfalso; simp_all; done)
        ·by_cases hz:L2=0
         ·cases cw with
          | true =>
           rw [if_pos (.inr ⟨hz,rfl⟩)] at hst
           refine bs.av (sx:=nos) hk0 ?_
           repeat'(first|refine wk3 ?_|(refine wk2 ?_ ?_<;>intro _)|refine wk4 ?_|fail);all_goals(conv=>whnf)
           all_goals first|exact Qr ⟨(k+1,_,some ⟨k,x1,x2,x4⟩),[],rfl,kps,kps,⟨Zh (by omega),hlt,hst.symm⟩,by dsimp only; omega⟩|(exfalso; simp_all; done)
          | false =>
           rw [if_neg (by rintro (q|⟨_,q⟩); exact hneg q; cases q)] at hst
           refine bs.av (sx:=nos) hk0 ?_
           repeat'(first|refine wk3 ?_|(refine wk2 ?_ ?_<;>intro _)|refine wk4 ?_|fail);all_goals(conv=>whnf)
           all_goals first|exact Qr ⟨(k+1,_,some ⟨ci,cn,cd,false⟩),[],rfl,kps,kps,⟨Zh (by omega),hlt,hst.symm⟩,by dsimp only; omega⟩|(exfalso; simp_all; done)
         ·rw [if_neg (by rintro (q|⟨q,_⟩); exact hneg q; exact hz q)] at hst
          refine bs.av (sx:=nos) hk0 ?_
          repeat'(first|refine wk3 ?_|(refine wk2 ?_ ?_<;>intro _)|refine wk4 ?_|fail);all_goals(conv=>whnf)
          all_goals first|exact Qr ⟨(k+1,_,some ⟨ci,cn,cd,cw⟩),[],rfl,kps,kps,⟨Zh (by omega),hlt,hst.symm⟩,by dsimp only; omega⟩|(exfalso; simp_all; done)
      ·rw [if_neg (fun q=>hp (hpos.2 q.2))] at hc
       have hst:bstR (Zx h.cs r fr (i:Int)) (k+1)=acc:=by rw [hst,hc]; cases acc<;>rfl
       clear hc hpos hx hxC
       obtain ⟨x1,x2,x3,x4⟩:=x
       subst ho
       generalize laV ⟨x1,x2,true,x4⟩ y=L1 at *
       cases acc<;>refine bs.av (sx:=nos) hk0 ?_<;>repeat'(first|refine wk3 ?_|(refine wk2 ?_ ?_<;>intro _)|refine wk4 ?_|fail);all_goals(conv=>whnf)
       all_goals first|exact Qr ⟨(k+1,_,_),[],rfl,kps,kps,⟨Zh (by omega),hlt,hst.symm⟩,by dsimp only; omega⟩|(exfalso; simp_all; done)
  ·obtain rfl:k=h.cs.length:=by omega
   rw [<-ha]
   cases acc
   all_goals
    refine bs.av (sx:=nos) hk0 ?_
    repeat'(first|refine wk3 ?_|(refine wk2 ?_ ?_<;>intro _)|refine wk4 ?_|fail);all_goals(conv=>whnf)
    exact Ze rfl rfl
abbrev st0:AV:=.agg [.nils,.nils]
theorem e91 {h:Hal} (hf:h.few) (g:h.fine) {k:Nat} (hk2:k<h.cs.length):PCall Tryz.prog 91 [h.av,st0,I k] ⟨P2 (plW (wlOf h.cs k)).1 (plW (wlOf h.cs k)).2,[]⟩:=by
 have hk:k<h.ws.length:=by have:=g.le; omega
 have hk0:=Zc (c89 hf (SK.wall k hk)) (Zmr hf)
 have f3:=hf.2.2.1
 have f4:=hf.2.2.2.1
 have e1:=Xx hk2
 rw [show Zpp h k=(0,(k:Int)) by unfold Zpp; rw [if_pos (by omega)]] at hk0
 rw [Zdm] at e1
 refine bs.pv (sx:=nos) hk0 Tryz.func91 (by kernel_rfl) (by kernel_rfl) rfl ?_
 generalize wlOf h.cs k=w at *
 have hp:plW w=if w.ln.dx=0 then (0,w.ln.x) else if w.ln.dy=0 then (1,w.ln.y) else if w.ln.dx=w.ln.dy then (4,Qa Qb (w.ln.x-w.ln.y)) else (3,Qa Qb (w.ln.x+w.ln.y)):=rfl
 rw [hp]
 repeat'(first|refine wk1 ?_|(refine wk2 ?_ ?_<;>intro _)|refine wk4 ?_|fail);all_goals(conv=>whnf)
 ·rename_i h1; rw [if_pos (of_decide_eq_true h1)]; exact Ze rfl rfl
 ·rename_i h1 h2; rw [if_neg (of_decide_eq_false h1),if_pos (of_decide_eq_true h2)]; exact Ze rfl rfl
 ·rename_i h1 h2 h3; rw [if_neg (of_decide_eq_false h1),if_neg (of_decide_eq_false h2),if_pos (of_decide_eq_true h3)]; exact Ze rfl rfl
 ·rename_i h1 h2 h3; rw [if_neg (of_decide_eq_false h1),if_neg (of_decide_eq_false h2),if_neg (of_decide_eq_false h3)]; exact Ze rfl rfl
theorem e52 {h:Hal} (hf:h.few) (g:h.fine) {k:Nat} (hk:k<h.cs.length):PCall Tryz.prog 52 [h.av,I k] ⟨P2 (plW (wlOf h.cs k)).1 (plW (wlOf h.cs k)).2,[]⟩:=by
 have hk0:=Zc (e91 hf g hk) Zf
 generalize plW (wlOf h.cs k)=p at *
 refine bs.pv (sx:=nos) hk0 Tryz.func52 (by kernel_rfl) (by kernel_rfl) rfl ?_
 repeat'(first|refine wk3 ?_|(refine wk2 ?_ ?_<;>intro _)|refine wk4 ?_|fail);all_goals(conv=>whnf)
 exact Ze rfl rfl
theorem Zxy {w:Wl} {n sx sy:Int} (h:Str w n sx sy) {x y:Int} (hx : -45000<=x/\x<=45000) (hy : -45000<=y/\y<=45000) :
  (rmir (plW w).1 (plW w).2 x y 0).1=w.fx+(mvD sx sy (x-w.fx) (y-w.fy)).1/\(rmir (plW w).1 (plW w).2 x y 0).2.1=w.fy+(mvD sx sy (x-w.fx) (y-w.fy)).2:=by
 obtain ⟨d1,d2,d3⟩:=Zut h
 have b1:=h.b1
 have b2:=h.b2
 unfold plW mvD
 by_cases c2:sx=0
 ·have t2:w.dx=0:=d2.2 c2
  have c1:¬ sy=0:=fun q=>h.hxy ⟨c2,q⟩
  rw [if_pos t2,if_neg c1,if_pos c2,Zcm (by omega) (by omega) hx hy (by omega)]
  dsimp only
  rw [if_pos rfl]
  dsimp only; omega
 ·have t2:¬ w.dx=0:=fun q=>c2 (d2.1 q)
  rw [if_neg t2]
  by_cases c1:sy=0
  ·have t1:w.dy=0:=d1.2 c1
   rw [if_pos t1,if_pos c1,Zcm (by omega) (by omega) hx hy (by omega)]
   dsimp only
   rw [if_neg (by omega),if_pos rfl]
   dsimp only; omega
  ·have t1:¬ w.dy=0:=fun q=>c1 (d1.1 q)
   rw [if_neg t1,if_neg c1,if_neg c2]
   by_cases c3:sx=sy
   ·have t3:w.dx=w.dy:=d3.2 c3
    rw [if_pos t3,if_pos c3,W_eq (by omega) (by omega),Zcm (by omega) (by omega) hx hy (by omega)]
    dsimp only
    rw [if_neg (by omega),if_neg (by omega),if_neg (by omega),if_neg (by omega)]
    dsimp only; omega
   ·have t3:¬ w.dx=w.dy:=fun q=>c3 (d3.1 q)
    rw [if_neg t3,if_neg c3,W_eq (by omega) (by omega),Zcm (by omega) (by omega) hx hy (by omega)]
    dsimp only
    rw [if_neg (by omega),if_neg (by omega),if_neg (by omega),if_pos rfl]
    dsimp only; omega
theorem Zr2 {k x y:Int} (hk:0<=k/\k<=4) (h2:k≠2) (hx:sm6 x) (hy:sm6 y):(rmir k 0 x y 0).1=(if k=0 then -x else if k=1 then x else if k=3 then -y else y)/\(rmir k 0 x y 0).2.1=(if k=0 then y else if k=1 then -y else if k=3 then -x else x):=by
 obtain ⟨x1,x2⟩:=hx
 obtain ⟨y1,y2⟩:=hy
 have e1:Qa Qb (2*0)=0:=rfl
 have e2:Qa Qb (0-x) = -x:=by rw [W_eq (by omega) (by omega)]; omega
 have e3:Qa Qb (0-y) = -y:=by rw [W_eq (by omega) (by omega)]; omega
 have e4:Qa Qb (y+0)=y:=by rw [W_eq (by omega) (by omega)]; omega
 have e5:Qa Qb (x-0)=x:=by rw [W_eq (by omega) (by omega)]; omega
 unfold rmir
 rw [e1,e2,e3,e4,e5]
 obtain rfl|rfl|rfl|rfl:k=0\/k=1\/k=3\/k=4:=by omega
 all_goals simp
theorem Zxz {w:Wl} {n sx sy:Int} (h:Str w n sx sy) {x y:Int} (hx:sm6 x) (hy:sm6 y) :
  (rmir (plW w).1 0 x y 0).1=(mvD sx sy x y).1/\(rmir (plW w).1 0 x y 0).2.1=(mvD sx sy x y).2:=by
 obtain ⟨d1,d2,d3⟩:=Zut h
 unfold plW mvD
 by_cases c2:sx=0
 ·have t2:w.dx=0:=d2.2 c2
  have c1:¬ sy=0:=fun q=>h.hxy ⟨c2,q⟩
  rw [if_pos t2,if_neg c1,if_pos c2]
  have:=Zr2 (k:=0) (by omega) (by omega) hx hy
  exact this
 ·have t2:¬ w.dx=0:=fun q=>c2 (d2.1 q)
  rw [if_neg t2]
  by_cases c1:sy=0
  ·have t1:w.dy=0:=d1.2 c1
   rw [if_pos t1,if_pos c1]
   have:=Zr2 (k:=1) (by omega) (by omega) hx hy
   exact this
  ·have t1:¬ w.dy=0:=fun q=>c1 (d1.1 q)
   rw [if_neg t1,if_neg c1,if_neg c2]
   by_cases c3:sx=sy
   ·have t3:w.dx=w.dy:=d3.2 c3
    rw [if_pos t3,if_pos c3]
    have:=Zr2 (k:=4) (by omega) (by omega) hx hy
    exact this
   ·have t3:¬ w.dx=w.dy:=fun q=>c3 (d3.1 q)
    rw [if_neg t3,if_neg c3]
    have:=Zr2 (k:=3) (by omega) (by omega) hx hy
    exact this
theorem e48 {h:Hal} (hf:h.few) (g:h.fine) {k:Nat} (hk:k<h.cs.length) {n sx sy:Int} (hs:Str (wlOf h.cs k) n sx sy) {x y:Int} (hx : -45000<=x/\x<=45000) (hy : -45000<=y/\y<=45000) :
  PCall Tryz.prog 48 [h.av,I k,P2 x y] ⟨P2 ((wlOf h.cs k).fx+(mvD sx sy (x-(wlOf h.cs k).fx) (y-(wlOf h.cs k).fy)).1) ((wlOf h.cs k).fy+(mvD sx sy (x-(wlOf h.cs k).fx) (y-(wlOf h.cs k).fy)).2),[]⟩:=by
 obtain ⟨e1,e2⟩:=Zxy hs hx hy
 rw [<-e1,<-e2]
 have hk0:=Zc (e52 hf g hk) (Zc (c96 (plW (wlOf h.cs k)).1 (plW (wlOf h.cs k)).2 x y 0) Zf)
 generalize plW (wlOf h.cs k)=p at *
 obtain ⟨p1,p2⟩:=p
 dsimp only at *
 generalize rmir p1 p2 x y 0=q at *
 obtain ⟨q1,q2,q3⟩:=q
 clear e1 e2
 refine bs.pv (sx:=nos) hk0 Tryz.func48 (by kernel_rfl) (by kernel_rfl) rfl ?_
 repeat'(first|refine wk3 ?_|(refine wk2 ?_ ?_<;>intro _)|refine wk4 ?_|fail);all_goals(conv=>whnf)
 exact Ze rfl rfl
theorem e19 {h:Hal} (hf:h.few) (g:h.fine) {k:Nat} (hk:k<h.cs.length) {n sx sy:Int} (hs:Str (wlOf h.cs k) n sx sy) {x y:Int} (hx:sm6 x) (hy:sm6 y) :
  PCall Tryz.prog 19 [h.av,I k,P2 x y] ⟨P2 (mvD sx sy x y).1 (mvD sx sy x y).2,[]⟩:=by
 obtain ⟨e1,e2⟩:=Zxz hs hx hy
 rw [<-e1,<-e2]
 have hk0:=Zc (e52 hf g hk) (Zc (c96 (plW (wlOf h.cs k)).1 0 x y 0) Zf)
 generalize plW (wlOf h.cs k)=p at *
 obtain ⟨p1,p2⟩:=p
 dsimp only at *
 generalize rmir p1 0 x y 0=q at *
 obtain ⟨q1,q2,q3⟩:=q
 clear e1 e2
 refine bs.pv (sx:=nos) hk0 Tryz.func19 (by kernel_rfl) (by kernel_rfl) rfl ?_
 repeat'(first|refine wk3 ?_|(refine wk2 ?_ ?_<;>intro _)|refine wk4 ?_|fail);all_goals(conv=>whnf)
 exact Ze rfl rfl
noncomputable abbrev rFs (h:Hal):List AV->Option PRes:=famA (fun q:Ry × Int=>RyB q.1/\Bh h.cs q.1 (frL h.cs q.1 q.2) q.2) (fun q=>[h.av,q.1.ra,I q.2]) (fun q=>fsV (bstP (Zx h.cs q.1 (frL h.cs q.1 q.2) q.2) h.cs.length))
theorem Zu6 {h:Hal} {r:Ry} (b:RyB r) {fr:Int × Int} {last:Int} (B:Bh h.cs r fr last):rFs h [h.av,r.ra,I last]=some (fsV (bstP (Zx h.cs r fr last) h.cs.length)):=by
 have e:=B.fr
 subst e
 exact Yp (p:=fun q:Ry × Int=>RyB q.1/\Bh h.cs q.1 (frL h.cs q.1 q.2) q.2) (g:=fun q=>[h.av,q.1.ra,I q.2]) (r:=fun q=>fsV (bstP (Zx h.cs q.1 (frL h.cs q.1 q.2) q.2) h.cs.length)) (k:=(r,last)) (fun j hj=>by
  have e1:=Ztn (Qz (Qz hj).2).1
  have e2:=(Jj (Qz (Qz (Qz hj).2).2).1).2
  rw [e1,e2]) ⟨b,B⟩
theorem Zwk {h:Hal} (hf:h.few) (g:h.fine) {pt:PC} (hp:PCOK Tryz.prog pt):PCOK Tryz.prog (ins 47 (rFs h) pt):=Xj (fun q hq=>by
 rw [<-Zw7 g]
 exact e47 hf g hq.1 hq.2) hp
noncomputable abbrev rMi (h:Hal):List AV->Option PRes:=famA (fun q:Ry × Nat=>RyB q.1/\q.2<h.cs.length) (fun q=>[h.av,I q.2,P2 q.1.x q.1.y]) (fun q=>⟨P2 (rfW (wlOf h.cs q.2) q.1).x (rfW (wlOf h.cs q.2) q.1).y,[]⟩)
theorem Ztr {a b c d:Int} (h:P2 a b=P2 c d):a=c/\b=d:=by
 simp only [Rj,Tm,Oy,true_and,and_true] at h
 exact h
theorem Zu3 {h:Hal} {r:Ry} (b:RyB r) {k:Nat} (hk:k<h.cs.length):rMi h [h.av,I k,P2 r.x r.y]=some ⟨P2 (rfW (wlOf h.cs k) r).x (rfW (wlOf h.cs k) r).y,[]⟩ :=
 Yp (p:=fun q:Ry × Nat=>RyB q.1/\q.2<h.cs.length) (g:=fun q=>[h.av,I q.2,P2 q.1.x q.1.y]) (r:=fun q=>⟨P2 (rfW (wlOf h.cs q.2) q.1).x (rfW (wlOf h.cs q.2) q.1).y,[]⟩) (k:=(r,k)) (fun j hj=>by
  have e3:=Pp (Jj (Qz (Qz hj).2).1).2
  obtain ⟨e1,e2⟩:=Ztr (Qz (Qz (Qz hj).2).2).1
  unfold rfW rfN
  dsimp only
  rw [e1,e2,e3]) ⟨b,hk⟩
theorem Zwg {h:Hal} (hf:h.few) (g:h.fine) {pt:PC} (hp:PCOK Tryz.prog pt):PCOK Tryz.prog (ins 48 (rMi h) pt):=Xj (fun q hq=>by
 obtain ⟨n,sx,sy,hs⟩:=g.st q.2 hq.2
 rw [Zho hs]
 exact e48 hf g hq.2 hs hq.1.x hq.1.y) hp
noncomputable abbrev rMd (h:Hal):List AV->Option PRes:=famA (fun q:Ry × Nat=>RyB q.1/\q.2<h.cs.length) (fun q=>[h.av,I q.2,P2 q.1.dx q.1.dy]) (fun q=>⟨P2 (rfW (wlOf h.cs q.2) q.1).dx (rfW (wlOf h.cs q.2) q.1).dy,[]⟩)
theorem Zu4 {h:Hal} {r:Ry} (b:RyB r) {k:Nat} (hk:k<h.cs.length):rMd h [h.av,I k,P2 r.dx r.dy]=some ⟨P2 (rfW (wlOf h.cs k) r).dx (rfW (wlOf h.cs k) r).dy,[]⟩ :=
 Yp (p:=fun q:Ry × Nat=>RyB q.1/\q.2<h.cs.length) (g:=fun q=>[h.av,I q.2,P2 q.1.dx q.1.dy]) (r:=fun q=>⟨P2 (rfW (wlOf h.cs q.2) q.1).dx (rfW (wlOf h.cs q.2) q.1).dy,[]⟩) (k:=(r,k)) (fun j hj=>by
  have e3:=Pp (Jj (Qz (Qz hj).2).1).2
  obtain ⟨e1,e2⟩:=Ztr (Qz (Qz (Qz hj).2).2).1
  unfold rfW rfN
  dsimp only
  rw [e1,e2,e3]) ⟨b,hk⟩
theorem Zwh {h:Hal} (hf:h.few) (g:h.fine) {pt:PC} (hp:PCOK Tryz.prog pt):PCOK Tryz.prog (ins 19 (rMd h) pt):=Xj (fun q hq=>by
 obtain ⟨n,sx,sy,hs⟩:=g.st q.2 hq.2
 rw [Zho hs]
 have b1:=hq.1.dx
 have b2:=hq.1.dy
 exact e19 hf g hq.2 hs (x:=q.1.dx) (y:=q.1.dy) ⟨by omega,by omega⟩ ⟨by omega,by omega⟩) hp
def fllV (o:Option (List Int)):PRes:=⟨.tup [.isl 1 (nl (o.getD [])),Bo o.isSome],[]⟩
theorem frB {bl:List (Nat × List (List AV))} {b:Bool}:Frz bl (.tup [.nils,Bo b]) (.tup [.isl 1 (nl []),Bo b]):=⟨rfl,⟨rfl,rfl⟩,trivial⟩
theorem e14 {h:Hal} (hk:h.ok) (he:h.err=0) {r0:Ry} (hs0:RyS 0 r0) {m:Nat} (hm:m<=4):PCall Tryz.prog 14 [h.av,P2 r0.x r0.y,P2 r0.dx r0.dy,I m] (fllV (folL h.cs m r0 (0,1) (-1))):=by
 have fin:=Ziv hk he
 have hkA:=Zwk hk.f fin (Zwg hk.f fin (Zwh hk.f fin Zf))
 have hB0:=Bh.start h.cs r0
 have hAll:=fin.st
 have hf:=hk.f
 generalize hR:folL h.cs m r0 (0,1) (-1)=R
 refine PCall.freeze (res:=match R with
  | none=>⟨.tup [.nils,Bo false],[]⟩
  | some []=>⟨.tup [.nils,Bo true],[]⟩
  | some (u::l)=>⟨.tup [.asl 0 0 (nl (u::l)).length,Bo true],[(1,nl (u::l))]⟩) ?_ ?_
 rotate_left
 ·cases R with
  | none=>exact frB
  | some l=>cases l with
   | nil=>exact frB
   | cons u l=>exact ⟨⟨rfl,rfl,rfl⟩,⟨rfl,rfl⟩,trivial⟩
 refine bs.pv (sx:=nos) hkA Tryz.func14 (by kernel_rfl) (by kernel_rfl) (by split<;>rfl) ?_
 unfold Zdu
 conv=>whnf
 repeat'(first|refine wk3 ?_|(refine wk2 ?_ ?_<;>intro _)|refine wk4 ?_|fail);all_goals(conv=>whnf)
 refine Ztv (S:=Nat × Ry × (Int × Int) × Int × Nat × List (List AV)) (fun s=>m-s.1)
  (fun s=>[(3,I (m:Int)),(4,.ptr 0 0 0),(5,.ptr 1 0 0),(6,.ptr 2 0 0),(8,.nils),(9,Bo false),(10,gv 3 s.1 s.2.2.2.2.1),(11,I s.2.2.2.1)])
  (fun s=>(2,.row 2 [[I s.2.1.dx,I s.2.1.dy]] true false)::(1,.row 2 [[I s.2.1.x,I s.2.1.y]] true false)::(0,.row 9 [h.cells] true false)::gz 3 1 s.1 s.2.2.2.2.2 []) 3 4
  (fun s=>s.1<=m/\RyS s.1 s.2.1/\Bh h.cs s.2.1 s.2.2.1 s.2.2.2.1/\∃ out:List Int,out.length=s.1/\s.2.2.2.2.1=s.2.2.2.2.2.length/\s.2.2.2.2.2=nl out/\R=(folL h.cs (m-s.1) s.2.1 s.2.2.1 s.2.2.2.1).map (fun l=>out++l))
  (0,r0,(0,1),-1,0,[]) ⟨Qm _,hs0,hB0,[],rfl,rfl,rfl,by rw [<-hR]; simp⟩ (Nat.le_of_ble_eq_true rfl) [] rfl (kps) (kps) ?_
 rintro ⟨k,r,fr,last,len,els⟩ ⟨hkm,hs,hB,out,ho,hlen,hels,hrec⟩
 dsimp only at hkm hs hB ho hlen hels hrec ⊢
 have hb:=hs.b (by omega)
 have cN:=Zu6 hb hB
 have hl4:els.length<100000:=by rw [hels,Xb]; omega
 have hlk:len=k:=by rw [hlen,hels,Xb]; exact ho
 by_cases hlt:k<m
 ·obtain ⟨q,hq⟩:∃ q,m-k=q+1:=⟨m-k-1,by omega⟩
  rw [hq,folL] at hrec
  have hmem:=fun c hc=>hB.next hAll (c:=c) hc
  generalize bstP (Zx h.cs r fr last) h.cs.length=o at *
  cases o with
  | none =>
   change _=some (⟨.tup [I (-1),rh0],[]⟩:PRes) at cN
   have hrec:R=none:=hrec
   subst hrec
   clear hmem
   obtain ⟨rx,ry,rdx,rdy⟩:=r
   cases k<;>refine bs.av (sx:=nos) hkA ?_<;>repeat'(first|refine wk3 ?_|(refine wk2 ?_ ?_<;>intro _)|refine wk4 ?_|fail);all_goals(conv=>whnf)
   all_goals exact Ze rfl rfl
  | some c =>
   change _=some (⟨.tup [I (c.i:Int),.agg [I c.nu,I c.de,Bo true,Bo c.well]],[]⟩:PRes) at cN
   obtain ⟨hci,hBn⟩:=hmem c rfl
   have cM:=Zu3 hb hci
   have cD:=Zu4 hb hci
   have hsn:RyS (k+1) (rfW (wlOf h.cs c.i) r):=by
    obtain ⟨n,sx,sy,hst⟩:=hAll c.i hci
    rw [Zho hst]; exact hs.next hst
   clear hmem
   obtain ⟨ci,cnu,cde,cw⟩:=c
   dsimp only at hci hBn cM cD hsn hrec cN
   cases cw with
   | false =>
    rw [if_neg (by decide)] at hrec
    have hrec:R=none:=hrec
    subst hrec
    obtain ⟨rx,ry,rdx,rdy⟩:=r
    cases k<;>refine bs.av (sx:=nos) hkA ?_<;>repeat'(first|refine wk3 ?_|(refine wk2 ?_ ?_<;>intro _)|refine wk4 ?_|fail);all_goals(conv=>whnf)
    all_goals exact Ze rfl rfl
   | true =>
    rw [if_pos rfl] at hrec
    have hrec2:R=(folL h.cs (m-(k+1)) (rfW (wlOf h.cs ci) r) (cnu,cde) ci).map (fun l=>(out++[(ci:Int)])++l):=by
     rw [hrec,show m-(k+1)=q by omega,Option.map_map]
     congr 1
     funext l
     simp
    clear hrec hs0 hB0 hB hs
    generalize rfW (wlOf h.cs ci) r=r2 at *
    obtain ⟨rx,ry,rdx,rdy⟩:=r
    obtain ⟨sx,sy,sdx,sdy⟩:=r2
    have hnl:nl (out++[(ci:Int)])=nl out++[[I (ci:Int)]]:=by simp [nl]
    cases k with
    | zero =>
     have hout:out=[]:=Ph.1 ho
     refine bs.av (sx:=nos) hkA ?_
     repeat'(first|refine wk3 ?_|(refine wk2 ?_ ?_<;>intro _)|refine wk4 ?_|fail);all_goals(conv=>whnf)
     exact Qr ⟨(1,⟨sx,sy,sdx,sdy⟩,(cnu,cde),ci,1,[[I (ci:Int)]]),[(3,6)],rfl,kps,kps,⟨hlt,hsn,hBn,out++[(ci:Int)],by rw [hout]; rfl,rfl,by rw [hout]; rfl,hrec2⟩,by dsimp only; omega⟩
    | succ k0 =>
     refine bs.av (sx:=nos) hkA ?_
     repeat'(first|refine wk3 ?_|(refine wk2 ?_ ?_<;>intro _)|refine wk4 ?_|fail);all_goals(conv=>whnf)
     exact Qr ⟨(k0+1+1,⟨sx,sy,sdx,sdy⟩,(cnu,cde),ci,els.length+1,els++[[I (ci:Int)]]),[(3,6)],rfl,kps,kps,⟨hlt,hsn,hBn,out++[(ci:Int)],by rw [List.length_append,ho]; rfl,by simp,by rw [hnl,hels],hrec2⟩,by dsimp only; omega⟩
 ·obtain rfl:k=m:=by omega
  rw [Nat.sub_self,folL] at hrec
  have hrec:R=some (out++[]):=hrec
  rw [List.append_nil] at hrec
  subst hrec
  cases k with
  | zero =>
   obtain rfl:out=[]:=Ph.1 ho
   refine bs.av (sx:=nos) hkA ?_
   repeat'(first|refine wk3 ?_|(refine wk2 ?_ ?_<;>intro _)|refine wk4 ?_|fail);all_goals(conv=>whnf)
   exact Ze rfl rfl
  | succ k0 =>
   cases out with
   | nil=>cases ho
   | cons u l =>
    subst hels
    subst hlen
    refine bs.av (sx:=nos) hkA ?_
    repeat'(first|refine wk3 ?_|(refine wk2 ?_ ?_<;>intro _)|refine wk4 ?_|fail);all_goals(conv=>whnf)
    exact Zcn [3] rfl rfl rfl
def eqN:List Int->List Int->Bool
 | [],[]=>true
 | x::a,y::b=>decide (x=y)&&eqN a b
 | _,_=>false
theorem eqN_iff:∀ {a b:List Int},eqN a b=true↔a=b
 | [],[]=>by simp [eqN]
 | x::a,y::b=>by rw [eqN,Qc,decide_eq_true_eq,eqN_iff]; simp
 | [],y::b=>by simp [eqN]
 | x::a,[]=>by simp [eqN]
theorem Zvy {a b:List Int} (h:a.length≠b.length):eqN a b=false:=by
 rw [Bool.eq_false_iff,ne_eq,eqN_iff]
 intro e; exact h (by rw [e])
theorem c69 {a b:List Int} (hl:a.length<1000000) (hb:b.length<1000000):PCall Tryz.prog 15 [.isl 1 (nl a),.isl 1 (nl b)] ⟨Bo (eqN a b),[]⟩:=by
 have l1:=Xb a
 have l2:=Xb b
 refine bs.pv (sx:=nos) Zf Tryz.func15 (by kernel_rfl) (by kernel_rfl) rfl ?_
 by_cases hlen:a.length=b.length
 ·repeat'(first|refine wk1 ?_|(refine wk2 ?_ ?_<;>intro _)|refine wk4 ?_|fail);all_goals(conv=>whnf)
  refine Yj (S:=Nat × Int) (fun t=>a.length-t.1) (fun t=>[(0,.isl 1 (nl a)),(1,.isl 1 (nl b)),(5,I t.2)]) (fun _=>[]) 0 0 (fun t=>t.2=t.1/\t.1<=a.length/\eqN (a.drop t.1) (b.drop t.1)=eqN a b) (0,0) ⟨rfl,Qm _,rfl⟩ (Qg _) [] rfl (kps) (kps) ?_
  rintro ⟨k,i⟩ ⟨hi,hk,hh⟩
  dsimp only at hi hk hh ⊢
  subst hi
  refine bs.av (sx:=nos) Zf ?_
  by_cases hlt:k<a.length
  ·have e1:=Ze7 hlt
   have e2:=Ze7 (ns:=b) (k:=k) (by omega)
   rw [Qk hlt,Qk (show k<b.length by omega),eqN] at hh
   by_cases he:a[k]=b[k]'(by omega)
   ·rw [decide_eq_true he,Bool.true_and] at hh
    repeat'(first|refine wk1 ?_|(refine wk2 ?_ ?_<;>intro _)|refine wk4 ?_|fail);all_goals(conv=>whnf)
    exact Qr ⟨(k+1,_),[],rfl,kps,kps,⟨Zh (by omega),hlt,hh⟩,by dsimp only; omega⟩
   ·rw [decide_eq_false he,Bool.false_and] at hh
    rw [<-hh]
    repeat'(first|refine wk1 ?_|(refine wk2 ?_ ?_<;>intro _)|refine wk4 ?_|fail);all_goals(conv=>whnf)
    exact Zd rfl
  ·rw [Ql (by omega),Ql (by omega)] at hh
   rw [<-hh]
   repeat'(first|refine wk1 ?_|(refine wk2 ?_ ?_<;>intro _)|refine wk4 ?_|fail);all_goals(conv=>whnf)
   exact Zd rfl
 ·rw [Zvy hlen]
  repeat'(first|refine wk1 ?_|(refine wk2 ?_ ?_<;>intro _)|refine wk4 ?_|fail);all_goals(conv=>whnf)
  exact Zd rfl
theorem Zpd {h:Hal} (g:h.fine) (x y:Int):plaE h x y 1=if (within x (-5000) 5000&&within y (-5000) 5000)=true then unl (Zt h ⟨x,y,0,1⟩) 24 else 2:=by
 unfold plaE plcB
 rw [show within 1 (-5000) 5000=true from rfl,Bool.and_true]
 by_cases c:(within x (-5000) 5000&&within y (-5000) 5000)=true
 ·rw [if_pos c,if_pos c]
  congr 1
  simp only [Qc,within_iff] at c
  have hp:PtOk x y 1:=⟨by omega,by omega,by omega,by omega⟩
  have ht:=g.ht
  unfold Zav
  dsimp only
  rw [<-Vp g.st 1 hp,<-Vp g.st 0 hp,W_eq (by omega) (by omega),decide_eq_true (by omega:(0:Int)<1),decide_eq_true (by omega:(1:Int)<h.ht*1)]
  rfl
 ·rw [if_neg c,if_neg c]
theorem e46 {h:Hal} (hk:h.ok) (g:h.fine) (x y:Int):PCall Tryz.prog 46 [h.av,P2 x y] ⟨I (plaE h x y 1),[]⟩:=by
 have c1:=c106 hk.f g.le.2.2.1 (Zwp g.st) ⟨x,y,0,1⟩
 rw [Zpd g]
 generalize Zt h ⟨x,y,0,1⟩=b at *
 have hk0:=Zwm (Zc c1 Zf)
 cases q1:within x (-5000) 5000<;>cases q2:within y (-5000) 5000<;>cases b
 all_goals
  refine bs.pv (sx:=nos) hk0 Tryz.func46 (by kernel_rfl) (by kernel_rfl) rfl ?_
  repeat'(first|refine wk3 ?_|(refine wk2 ?_ ?_<;>intro _)|refine wk4 ?_|fail);all_goals(conv=>whnf)
  all_goals first|exact Zb rfl|(exfalso; simp_all; done)
def plnE (h:Hal) (x y:Int):Int:=if h.err=0 then plaE h x y 1 else h.err
theorem e11 {h:Hal} (hk:h.ok) (x y:Int):PCall Tryz.prog 11 [h.av,P2 x y] ⟨I (plnE h x y),[]⟩:=by
 have c1:=p90 hk
 unfold plnE
 by_cases he:h.err=0
 ·rw [if_pos he]
  have c2:=e46 hk (Ziv hk he) x y
  rw [he] at c1
  have hk0:=Zc c1 (Zc c2 Zf)
  refine bs.pv (sx:=nos) hk0 Tryz.func11 (by kernel_rfl) (by kernel_rfl) rfl ?_
  repeat'(first|refine wk3 ?_|(refine wk2 ?_ ?_<;>intro _)|refine wk4 ?_|fail);all_goals(conv=>whnf)
  exact Zb rfl
 ·rw [if_neg he]
  have hk0:=Zc c1 Zf
  generalize h.err=E at *
  refine bs.pv (sx:=nos) hk0 Tryz.func11 (by kernel_rfl) (by kernel_rfl) rfl ?_
  repeat'(first|refine wk3 ?_|(refine wk2 ?_ ?_<;>intro _)|refine wk4 ?_|fail);all_goals(conv=>whnf)
  all_goals first|exact Zb rfl|(exfalso; simp_all; done)
theorem Zsk (h:Hal) (x y:Int) (t:Tn) (n:Int):Zob h x y t n=if plnE h x y≠0 then plnE h x y else if tnE t≠0 then tnE t else unl (within n 0 4) 2:=by
 unfold Zob plnE
 by_cases he:h.err=0
 ·rw [if_pos he,if_pos he]
  simp only [fstL]
  generalize plaE h x y 1=A
  generalize tnE t=B
  generalize unl (within n 0 4) 2=C
  by_cases a:A=0<;>by_cases b:B=0<;>by_cases c:C=0<;>simp [a,b,c]
 ·rw [if_neg he,if_neg he,if_pos he]
theorem Zmy {cs:List (Int × Int)}:∀ {k:Nat} {r:Ry} {fr:Int × Int} {last:Int} {l:List Int},folL cs k r fr last=some l->l.length=k
 | 0,_,_,_,_,h=>by cases h; rfl
 | k+1,r,fr,last,l,h=>by
  rw [folL] at h
  split at h
  ·cases h
  ·split at h
   ·cases hf:folL cs k _ _ _ with
    | none=>rw [hf] at h; cases h
    | some l' =>
     rw [hf] at h
     cases h
     rw [List.length_cons,Zmy hf]
   ·cases h
theorem Zsp (l:List Int):eqN l l=true:=eqN_iff.2 rfl
theorem d3 (h:Hal) (x y a b n:Int) (ha:i64 a) (hb:i64 b):PCall Tryz.prog 3 [h.av,P2 x y,P3 a b n] ⟨Bo true,[]⟩:=by
 have c8:=p80 h
 have c7:=Zs3
 cases hfw:few2 h with
 | false =>
  rw [hfw] at c8
  have hk0:=Zc c7 (Zc c8 Zf)
  refine bs.pv (sx:=nos) hk0 Tryz.func3 (by kernel_rfl) (by kernel_rfl) rfl ?_
  repeat'(first|refine wk3 ?_|(refine wk2 ?_ ?_<;>intro _)|refine wk4 ?_|fail);all_goals(conv=>whnf)
  exact Zd rfl
 | true =>
  rw [hfw] at c8
  have hk:=Zvv hfw
  have c10:=c22f hk.f
  have c9:=e9 hk x y (t:=(a,b)) ha hb n
  have c11:=e11 hk x y
  have c12:=d32 (t:=(a,b)) ha hb
  have c13:=d68 n
  have hE:=Zsk h x y (a,b) n
  dsimp only at c9 c12
  by_cases q1:plnE h x y=0
  rotate_left
  ·rw [if_pos q1] at hE
   have e:folR h x y (a,b) n=(plnE h x y,[]):=by unfold folR; rw [hE,if_neg q1]
   rw [e] at c9
   have hk0:=Zc c7 (Zc c8 (Zc c10 (Zc c9 (Zc c11 Zf))))
   clear hE e c8 c9 c10 c11 c12 c13
   generalize plnE h x y=E at *
   refine bs.pv (sx:=nos) hk0 Tryz.func3 (by kernel_rfl) (by kernel_rfl) rfl ?_
   repeat'(first|refine wk3 ?_|(refine wk2 ?_ ?_<;>intro _)|refine wk4 ?_|fail);all_goals(conv=>whnf)
   all_goals first|exact Zd rfl|(exfalso; simp_all; done)
  rw [if_neg (by omega)] at hE
  rw [q1] at c11
  by_cases q2:tnE (a,b)=0
  rotate_left
  ·rw [if_pos q2] at hE
   have e:folR h x y (a,b) n=(tnE (a,b),[]):=by unfold folR; rw [hE,if_neg q2]
   rw [e] at c9
   have hk0:=Zc c7 (Zc c8 (Zc c10 (Zc c9 (Zc c11 (Zc c12 Zf)))))
   clear hE e c8 c9 c10 c11 c12 c13
   generalize tnE (a,b)=E at *
   refine bs.pv (sx:=nos) hk0 Tryz.func3 (by kernel_rfl) (by kernel_rfl) rfl ?_
   repeat'(first|refine wk3 ?_|(refine wk2 ?_ ?_<;>intro _)|refine wk4 ?_|fail);all_goals(conv=>whnf)
   all_goals first|exact Zd rfl|(exfalso; simp_all; done)
  rw [if_neg (by omega)] at hE
  rw [q2] at c12
  by_cases q3:unl (within n 0 4) 2=0
  rotate_left
  ·have e:folR h x y (a,b) n=(unl (within n 0 4) 2,[]):=by unfold folR; rw [hE,if_neg q3]
   rw [e] at c9
   have hk0:=Zc c7 (Zc c8 (Zc c10 (Zc c9 (Zc c11 (Zc c12 (Zc c13 Zf))))))
   clear hE e c8 c9 c10 c11 c12 c13
   generalize unl (within n 0 4) 2=E at *
   refine bs.pv (sx:=nos) hk0 Tryz.func3 (by kernel_rfl) (by kernel_rfl) rfl ?_
   repeat'(first|refine wk3 ?_|(refine wk2 ?_ ?_<;>intro _)|refine wk4 ?_|fail);all_goals(conv=>whnf)
   all_goals first|exact Zd rfl|(exfalso; simp_all; done)
  rw [q3] at c13 hE
  have he:h.err=0:=by
   unfold plnE at q1
   split at q1
   ·assumption
   ·omega
  have hp:plaE h x y 1=0:=by unfold plnE at q1; rw [if_pos he] at q1; exact q1
  have hn:0<=n/\n<=4:=by
   cases hw:within n 0 4
   ·rw [hw] at q3; cases q3
   ·exact within_iff.1 hw
  obtain ⟨m,rfl⟩:∃ m:Nat,n=m:=⟨n.toNat,by omega⟩
  have hs0:RyS 0 ⟨x,y,a,b⟩:=by
   obtain ⟨⟨p1,p2,p3⟩,_⟩:=Zjl hp
   have ht:=Zta q2
   exact ⟨by dsimp only; omega,by dsimp only; omega,ht.1,ht.2⟩
  have c14:=e14 hk he hs0 (m:=m) (by omega)
  unfold folR at c9
  rw [hE,if_pos rfl,Int.toNat_natCast] at c9
  have hlen:∀ l,folL h.cs m ⟨x,y,a,b⟩ (0,1) (-1)=some l->l.length=m:=fun l hl=>Zmy hl
  dsimp only at c9 c14
  generalize folL h.cs m ⟨x,y,a,b⟩ (0,1) (-1)=R at *
  cases R with
  | none =>
   change PCall Tryz.prog 9 _ ⟨.tup [.isl 1 (nl []),I 24],[]⟩ at c9
   change PCall Tryz.prog 14 _ ⟨.tup [.isl 1 (nl []),Bo false],[]⟩ at c14
   have hk0:=Zc c7 (Zc c8 (Zc c10 (Zc c9 (Zc c11 (Zc c12 (Zc c13 (Zc c14 Zf)))))))
   clear hE c8 c9 c10 c11 c12 c13 c14
   refine bs.pv (sx:=nos) hk0 Tryz.func3 (by kernel_rfl) (by kernel_rfl) rfl ?_
   repeat'(first|refine wk3 ?_|(refine wk2 ?_ ?_<;>intro _)|refine wk4 ?_|fail);all_goals(conv=>whnf)
   all_goals first|exact Zd rfl|(exfalso; simp_all; done)
  | some l =>
   have hl:=hlen l rfl
   change PCall Tryz.prog 9 _ ⟨.tup [.isl 1 (nl l),I 0],[]⟩ at c9
   change PCall Tryz.prog 14 _ ⟨.tup [.isl 1 (nl l),Bo true],[]⟩ at c14
   have c15:=c69 (a:=l) (b:=l) (by omega) (by omega)
   rw [Zsp] at c15
   have hk0:=Zc c7 (Zc c8 (Zc c10 (Zc c9 (Zc c11 (Zc c12 (Zc c13 (Zc c14 (Zc c15 Zf))))))))
   clear hE c8 c9 c10 c11 c12 c13 c14 c15
   refine bs.pv (sx:=nos) hk0 Tryz.func3 (by kernel_rfl) (by kernel_rfl) rfl ?_
   repeat'(first|refine wk3 ?_|(refine wk2 ?_ ?_<;>intro _)|refine wk4 ?_|fail);all_goals(conv=>whnf)
   all_goals first|exact Zd rfl|(exfalso; simp_all; done)
theorem Zxt {m:Nat} {x:List AV} (hw:WT TT (m+10+1) 28 x):∃ h:Hal,x=h.cells:=by
 have h0:=(Uh (T:=TT) (t:=28) rfl rfl hw).1
 have h0:x.length=9:=h0
 match x,h0 with
 | [x0,x1,x2,x3,x4,x5,x6,x7,x8],_ =>
  obtain ⟨s,hs,hs2⟩:=wStr (Zv (T:=TT) (t:=28) rfl rfl hw 0 rfl rfl)
  obtain ⟨n,hn⟩:=wInt (Zv (T:=TT) (t:=28) rfl rfl hw 1 rfl rfl)
  obtain ⟨t,ht,ht2⟩:=wStr (Zv (T:=TT) (t:=28) rfl rfl hw 2 rfl rfl)
  obtain ⟨u,hu,hu2⟩:=wStr (Zv (T:=TT) (t:=28) rfl rfl hw 3 rfl rfl)
  obtain ⟨e4,h4,_,g4⟩:=Zci (T:=TT) (t:=22) rfl rfl rfl (Zv (T:=TT) (t:=28) rfl rfl hw 4 rfl rfl)
  obtain ⟨e5,h5,_,g5⟩:=Zci (T:=TT) (t:=23) rfl rfl rfl (Zv (T:=TT) (t:=28) rfl rfl hw 5 rfl rfl)
  obtain ⟨e6,h6,_,g6⟩:=Zci (T:=TT) (t:=24) rfl rfl rfl (Zv (T:=TT) (t:=28) rfl rfl hw 6 rfl rfl)
  obtain ⟨e7,h7,_,g7⟩:=Zci (T:=TT) (t:=25) rfl rfl rfl (Zv (T:=TT) (t:=28) rfl rfl hw 7 rfl rfl)
  obtain ⟨e8,h8,_,g8⟩:=Zci (T:=TT) (t:=26) rfl rfl rfl (Zv (T:=TT) (t:=28) rfl rfl hw 8 rfl rfl)
  obtain ⟨l4,k4,_⟩:=Znh (f:=Mat.av) (fun x hx=>wMat hx) e4 g4
  obtain ⟨l5,k5,_⟩:=Znh (f:=pt) (P:=fun _=>True) (fun x hx=>(wP2 hx).imp fun p hp=>⟨hp,trivial⟩) e5 g5
  obtain ⟨l6,k6,_⟩:=Znh (f:=Wal.av) (fun x hx=>wWal hx) e6 g6
  obtain ⟨l7,k7,_⟩:=Znh (f:=Can.av) (fun x hx=>wCan hx) e7 g7
  obtain ⟨l8,k8,_⟩:=Znh (f:=Sea.av) (fun x hx=>wSea hx) e8 g8
  have hs:[x0]=[.str s]:=hs
  have hn:[x1]=[I n]:=hn
  have ht:[x2]=[.str t]:=ht
  have hu:[x3]=[.str u]:=hu
  have h4:[x4]=[.isl 6 e4]:=h4
  have h5:[x5]=[.isl 2 e5]:=h5
  have h6:[x6]=[.isl 3 e6]:=h6
  have h7:[x7]=[.isl 7 e7]:=h7
  have h8:[x8]=[.isl 4 e8]:=h8
  cases hs; cases hn; cases ht; cases hu; cases h4; cases h5; cases h6; cases h7; cases h8
  exact ⟨⟨s,n,t,u,l4,l5,l6,l7,l8⟩,by rw [k4,k5,k6,k7,k8]⟩
theorem Zup {d:Nat} {x:List AV} (h:WT TT (d+1) 3 x):∃ n,x=[I n]/\i64 n:=by
 obtain ⟨n,h1,h2⟩:=Zor (T:=TT) (t:=3) rfl rfl h
 exact ⟨n,h1,Zv3 h2⟩
theorem Zw6 {a:AV} (h:WTA TT 28 a):∃ h:Hal,a=h.av:=by
 obtain ⟨x,m,rfl,hw⟩:=Zop (T:=TT) (t:=28) h rfl rfl 11
 obtain ⟨hl,rfl⟩:=Zxt hw
 exact ⟨hl,rfl⟩
theorem Zxi {a:AV} (h:WTA TT 30 a):∃ x y:Int,a=P2 x y:=by
 obtain ⟨x,m,rfl,hw⟩:=Zop (T:=TT) (t:=30) h rfl rfl 4
 obtain ⟨p,rfl⟩:=wP2 hw
 exact ⟨p.1,p.2,rfl⟩
theorem Zrv {a:AV} (h:WTA TT 31 a):∃ x y z,a=P3 x y z/\(i64 x/\i64 y/\i64 z):=by
 obtain ⟨m,zs,hm,ha⟩:=h 4
 have ha:a = .agg zs:=ha
 obtain ⟨h1,h2⟩:=Zl8 (T:=TT) (t:=31) (d:=m+3) rfl rfl rfl hm
 have h1:zs.length=3:=h1
 match zs,h1 with
 | [x,y,z],_ =>
  obtain ⟨p,hp,p2⟩:=Zup (h2 0 (by omega))
  obtain ⟨q,hq,q2⟩:=Zup (h2 1 (by omega))
  obtain ⟨r,hr,r2⟩:=Zup (h2 2 (by omega))
  have hp:[x]=[I p]:=hp
  have hq:[y]=[I q]:=hq
  have hr:[z]=[I r]:=hr
  cases hp; cases hq; cases hr
  exact ⟨p,q,r,ha,p2,q2,r2⟩
def tysF:List TypeId:=[28,30,31,22,23,24,25,26,35,47,99,97,101,103,69,9,3]
theorem Zv5:tysF.all (Zf2 (tget tbl) tysF)=true:=by kernel_rfl
end Go.Proofs.YtanbhfpalahjcaaGreat
