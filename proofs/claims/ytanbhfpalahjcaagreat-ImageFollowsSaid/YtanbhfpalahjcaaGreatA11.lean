/- A part of the proof: lemmas. -/
import Derived.Test.YtanbhfpalahjcaaGreatA9
import Derived.Test.YtanbhfpalahjcaaGreatA10
import Derived.Test.YtanbhfpalahjcaaGreatA7
set_option linter.unusedVariables false
set_option linter.unusedSimpArgs false
set_option maxRecDepth 100000
set_option maxHeartbeats 16000000
open Bool renaming and_assoc->Wb,and_eq_true->Qc,false_or->Wn,not_eq_false'->Pk,not_eq_true'->Rz,true_and->Tk
open Go.IntKind renaming i64->Qb,wrap->Qa
open Go.Sx.AV.agg renaming injEq->Oy
open Go.Sx.AV.int renaming injEq->Tm
open Go.Sx.Done renaming mk->Qr
open Go.Sx.PCall renaming freeze->Ma
open Int renaming add_mul->Ol,eq_of_mul_eq_mul_right->Wu,lt_or_gt_of_ne->Jh,mul_comm->Tf,mul_eq_zero->Og,mul_le_mul_of_nonneg_left->Pi,mul_le_mul_of_nonneg_right->Sv,mul_neg->Rs,mul_neg_of_pos_of_neg->Sk,mul_nonneg->Pg,mul_one->Rf,mul_pos->Sw,mul_sub->Mz,mul_zero->Rv,natAbs_tmod->Pn,neg_lt_zero_iff->Ks,neg_mul->Sr,neg_neg->Sf,neg_nonneg->Gh,neg_nonpos_iff->Ji,one_mul->Sy,pos_of_mul_pos_left->Lt,sub_mul->Pc,tmod_nonneg->Hq,toNat_natCast->Sj,zero_mul->Rw
open Int.ofNat renaming inj->Pp
open List renaming all_cons->Oa,all_eq_true->Qs,drop_eq_getElem_cons->Qk,drop_of_length_le->Ql,length_eq_zero_iff->Ph
open List.cons renaming inj->Qz,injEq->Rj
open Nat renaming gcd->Wd,gcd_dvd_right->Jw,le_refl->Qg,mod_lt->We,zero_le->Qm
namespace Go.Proofs.YtanbhfpalahjcaaGreat
open Go Go.Sx
theorem onR {w:Wl} {n sx sy x y d:Int} (h:Str w n sx sy) (hd:0<d) (ho:onW w n sx sy x y d):∃ t,0<=t/\t<=n*d/\x=w.fx*d+t*sx/\y=w.fy*d+t*sy:=by
 unfold onW bes alo at ho
 have hn:=h.hn
 have hxy:=h.hxy
 rcases h.hx with rfl|rfl|rfl<;>rcases h.hy with rfl|rfl|rfl<;>(try (exact absurd ⟨rfl,rfl⟩ hxy))<;>simp only [Rv,Rf,Rs,Rw,Sr,Sy,Sf,Int.zero_add,Int.add_zero] at ho ⊢
 ·exact ⟨y-w.fy*d,by omega,by omega,by omega,by omega⟩
 ·exact ⟨w.fy*d-y,by omega,by omega,by omega,by omega⟩
 ·exact ⟨x-w.fx*d,by omega,by omega,by omega,by omega⟩
 ·exact ⟨x-w.fx*d,by omega,by rw [show n*(1+1)*d=2*(n*d) by grind] at ho; omega,by omega,by omega⟩
 ·exact ⟨x-w.fx*d,by omega,by rw [show n*(1+1)*d=2*(n*d) by grind] at ho; omega,by omega,by omega⟩
 ·exact ⟨w.fx*d-x,by omega,by omega,by omega,by omega⟩
 ·exact ⟨w.fx*d-x,by omega,by rw [show n*(1+1)*d=2*(n*d) by grind] at ho; omega,by omega,by omega⟩
 ·exact ⟨w.fx*d-x,by omega,by rw [show n*(1+1)*d=2*(n*d) by grind] at ho; omega,by omega,by omega⟩
theorem qpos {w:Wl} {n sx sy:Int} (h:Str w n sx sy):0<sx*sx+sy*sy:=by
 have hxy:=h.hxy
 rcases h.hx with rfl|rfl|rfl<;>rcases h.hy with rfl|rfl|rfl<;>(try (exact absurd ⟨rfl,rfl⟩ hxy))<;>decide
theorem Zdz {w:Wl} {n sx sy x y d v:Int} (h:Str w n sx sy) (hd:0<d) (h1:d*(x-w.fx)=v*sx) (h2:d*(y-w.fy)=v*sy) (v0:0<=v) (v1:v<=n*d):onW w n sx sy x y 1:=by
 have q:=qpos h
 unfold onW bes alo
 rw [Rf,Rf,Rf]
 have e0:d*(sx*(y-w.fy)-sy*(x-w.fx))=0:=by
  have:d*(sx*(y-w.fy)-sy*(x-w.fx))=sx*(d*(y-w.fy))-sy*(d*(x-w.fx)):=by grind
  rw [this,h1,h2]; grind
 have e1:d*(sx*(x-w.fx)+sy*(y-w.fy))=v*(sx*sx+sy*sy):=by
  have:d*(sx*(x-w.fx)+sy*(y-w.fy))=sx*(d*(x-w.fx))+sy*(d*(y-w.fy)):=by grind
  rw [this,h1,h2]; grind
 refine ⟨?_,?_,?_⟩
 ·rcases Og.1 e0 with h|h
  ·omega
  ·exact h
 ·refine (nn_l hd).1 ?_
  rw [e1]; exact Pg v0 (by omega)
 ·refine Int.le_of_mul_le_mul_left (a:=d) ?_ hd
  rw [e1,show d*(n*(sx*sx+sy*sy))=n*d*(sx*sx+sy*sy) by grind]
  exact Sv v1 (by omega)
theorem dbes (d:Int) (w:Wl) (sx sy x y:Int):d*bes w sx sy x y 1=sx*(d*(y-w.fy))-sy*(d*(x-w.fx)):=by unfold bes; grind
theorem idA (u t sx sy tx ty:Int):tx*(u*ty-t*sy)-ty*(u*tx-t*sx) = -(t*(tx*sy-ty*sx)):=by grind
theorem idB (u t k sx sy tx ty:Int):tx*(u*ty-t*sy+k*sy)-ty*(u*tx-t*sx+k*sx)=(k-t)*(tx*sy-ty*sx):=by grind
theorem idC (u t sx sy tx ty:Int):sx*(t*sy-u*ty)-sy*(t*sx-u*tx)=u*(tx*sy-ty*sx):=by grind
theorem idD (u t k sx sy tx ty:Int):sx*(t*sy-u*ty+k*ty)-sy*(t*sx-u*tx+k*tx) = -((k-u)*(tx*sy-ty*sx)):=by grind
theorem Zh4 {w o:Wl} {n sx sy m tx ty x y d:Int} (h:Str w n sx sy) (g:Str o m tx ty) (hd:0<d) (h1:onW w n sx sy x y d) (h2:onW o m tx ty x y d):o.touches w=true:=by
 obtain ⟨t,t0,t1,ex,ey⟩:=onR h hd h1
 obtain ⟨u,u0,u1,fx,fy⟩:=onR g hd h2
 have ax:=h.tx
 have ay:=h.ty
 have bx:=g.tx
 have cy:=g.ty
 rw [Zi8 g h]
 have kx:d*(w.fx-o.fx)=u*tx-t*sx:=by rw [Mz,Tf d,Tf d]; omega
 have ky:d*(w.fy-o.fy)=u*ty-t*sy:=by rw [Mz,Tf d,Tf d]; omega
 have lx:d*(o.fx-w.fx)=t*sx-u*tx:=by rw [Mz,Tf d,Tf d]; omega
 have ly:d*(o.fy-w.fy)=t*sy-u*ty:=by rw [Mz,Tf d,Tf d]; omega
 have mx:d*(w.tx-o.fx)=u*tx-t*sx+n*d*sx:=by
  rw [ax,show d*(w.fx+n*sx-o.fx)=d*(w.fx-o.fx)+n*d*sx by clear ex ey fx fy kx ky lx ly; grind,kx]
 have my:d*(w.ty-o.fy)=u*ty-t*sy+n*d*sy:=by
  rw [ay,show d*(w.fy+n*sy-o.fy)=d*(w.fy-o.fy)+n*d*sy by clear ex ey fx fy kx ky lx ly mx; grind,ky]
 have nx:d*(o.tx-w.fx)=t*sx-u*tx+m*d*tx:=by
  rw [bx,show d*(o.fx+m*tx-w.fx)=d*(o.fx-w.fx)+m*d*tx by clear ex ey fx fy kx ky lx ly mx my; grind,lx]
 have ny:d*(o.ty-w.fy)=t*sy-u*ty+m*d*ty:=by
  rw [cy,show d*(o.fy+m*ty-w.fy)=d*(o.fy-w.fy)+m*d*ty by clear ex ey fx fy kx ky lx ly mx my nx; grind,ly]
 clear ex ey fx fy ax ay bx cy h1 h2
 by_cases ta:t=0
 ·exact .inr (.inl (Zdz g hd (v:=u) (by rw [kx,ta]; omega) (by rw [ky,ta]; omega) u0 u1))
 by_cases tb:t=n*d
 ·exact .inr (.inr (.inl (Zdz g hd (v:=u) (by rw [mx,tb]; omega) (by rw [my,tb]; omega) u0 u1)))
 by_cases ua:u=0
 ·exact .inr (.inr (.inr (.inl (Zdz h hd (v:=t) (by rw [lx,ua]; omega) (by rw [ly,ua]; omega) t0 t1))))
 by_cases ub:u=m*d
 ·exact .inr (.inr (.inr (.inr (Zdz h hd (v:=t) (by rw [nx,ub]; omega) (by rw [ny,ub]; omega) t0 t1))))
 by_cases hc:tx*sy-ty*sx=0
 ·
  refine .inr ?_
  have hpar:(tx=sx/\ty=sy)\/(tx = -sx/\ty = -sy):=by
   have hxy:=h.hxy
   have gxy:=g.hxy
   have q1:=h.hx
   have q2:=h.hy
   have q3:=g.hx
   have q4:=g.hy
   clear h g kx ky lx ly mx my nx ny
   rcases q1 with rfl|rfl|rfl<;>rcases q2 with rfl|rfl|rfl<;>rcases q3 with rfl|rfl|rfl<;>rcases q4 with rfl|rfl|rfl<;>first|decide|(exfalso; revert hc; decide)|(exfalso; exact hxy ⟨rfl,rfl⟩)|(exfalso; exact gxy ⟨rfl,rfl⟩)
  clear hc
  rcases hpar with ⟨p1,p2⟩|⟨p1,p2⟩
  ·rw [p1] at kx lx
   rw [p2] at ky ly
   by_cases c:t<=u
   ·exact .inl (Zdz g hd (v:=u-t) (by rw [kx,p1,Pc]) (by rw [ky,p2,Pc]) (by omega) (by omega))
   ·exact .inr (.inr (.inl (Zdz h hd (v:=t-u) (by rw [lx,Pc]) (by rw [ly,Pc]) (by omega) (by omega))))
  ·rw [p1,Rs] at kx mx nx
   rw [p2,Rs] at ky my ny
   rw [Rs] at nx ny
   by_cases c:u+t<=m*d
   ·exact .inl (Zdz g hd (v:=u+t) (by rw [kx,p1,Rs,Ol]; omega) (by rw [ky,p2,Rs,Ol]; omega) (by omega) (by omega))
   ·by_cases c2:n*d<=u+t
    ·exact .inr (.inl (Zdz g hd (v:=u+t-n*d) (by rw [mx,p1,Rs,Pc,Ol]; omega) (by rw [my,p2,Rs,Pc,Ol]; omega) (by omega) (by omega)))
    ·exact .inr (.inr (.inr (Zdz h hd (v:=u+t-m*d) (by rw [nx,Pc,Ol]; omega) (by rw [ny,Pc,Ol]; omega) (by omega) (by omega))))
 ·refine .inl ⟨?_,?_⟩
  ·have e1:d*bes o tx ty w.fx w.fy 1 = -(t*(tx*sy-ty*sx)):=by rw [dbes,kx,ky,idA]
   have e2:d*bes o tx ty w.tx w.ty 1=(n*d-t)*(tx*sy-ty*sx):=by rw [dbes,mx,my,idB]
   rcases Jh hc with c|c
   ·refine .inr ⟨(Zpc hd).1 ?_,(Zr8 hd).1 ?_⟩
    ·rw [e1]
     have:=Sk (a:=t) (by omega) c
     omega
    ·rw [e2]; exact Sk (by omega) c
   ·refine .inl ⟨(Zr8 hd).1 ?_,(Zpc hd).1 ?_⟩
    ·rw [e1]
     have:=Sw (a:=t) (by omega) c
     omega
    ·rw [e2]; exact Sw (by omega) c
  ·have e1:d*bes w sx sy o.fx o.fy 1=u*(tx*sy-ty*sx):=by rw [dbes,lx,ly,idC]
   have e2:d*bes w sx sy o.tx o.ty 1 = -((m*d-u)*(tx*sy-ty*sx)):=by rw [dbes,nx,ny,idD]
   rcases Jh hc with c|c
   ·refine .inl ⟨(Zr8 hd).1 ?_,(Zpc hd).1 ?_⟩
    ·rw [e1]; exact Sk (by omega) c
    ·rw [e2]
     have:=Sk (a:=m*d-u) (by omega) c
     omega
   ·refine .inr ⟨(Zpc hd).1 ?_,(Zr8 hd).1 ?_⟩
    ·rw [e1]; exact Sw (by omega) c
    ·rw [e2]
     have:=Sw (a:=m*d-u) (by omega) c
     omega
theorem Zrn {a b:Wl} {n sx sy m tx ty x y d:Int} (h:Str a n sx sy) (g:Str b m tx ty) (hc:b.fx=a.tx/\b.fy=a.ty) (nb:a.turnsBack b=false) (hd:0<d) (h1:onW a n sx sy x y d) (h2:onW b m tx ty x y d):x=a.tx*d/\y=a.ty*d:=by
 obtain ⟨t,t0,t1,ex,ey⟩:=onR h hd h1
 obtain ⟨u,u0,u1,fx,fy⟩:=onR g hd h2
 rw [hc.1] at fx
 rw [hc.2] at fy
 have k1:u*tx = -((n*d-t)*sx):=by rw [h.tx] at fx; grind
 have k2:u*ty = -((n*d-t)*sy):=by rw [h.ty] at fy; grind
 have nb' : ¬ (tx = -sx/\ty = -sy):=fun hh=>by rw [(Zi7 h g).2 hh] at nb; cases nb
 suffices hz:u=0 by subst hz; rw [fx,fy]; omega
 have v0:0<=n*d-t:=by omega
 generalize n*d-t=v at *
 have hxy:=h.hxy
 have gxy:=g.hxy
 rcases h.hx with rfl|rfl|rfl<;>rcases h.hy with rfl|rfl|rfl<;>(try (exact absurd ⟨rfl,rfl⟩ hxy))<;>rcases g.hx with rfl|rfl|rfl<;>rcases g.hy with rfl|rfl|rfl<;>(try (exact absurd ⟨rfl,rfl⟩ gxy))<;>first|(exfalso; exact nb' (by decide))|(simp only [Rv,Rf,Rs,Sf,Int.neg_zero] at k1 k2; omega)
theorem Zu9 {h:Hal} (g:h.fine) {i j:Nat} (hij:i<j) (hj:j<h.cs.length):Zbe h.cs.length (wlOf h.cs i) (wlOf h.cs j)=true:=by
 have s:=g.simple
 unfold Yw at s
 have m:∀ k,k<h.cs.length->wlOf h.cs k∈wls h.cs:=fun k hk=>List.mem_map_of_mem (List.mem_range.2 hk)
 exact Qs.1 (Qs.1 s _ (m i (by omega))) _ (m j hj)
theorem Zmf {h:Hal} (g:h.fine) {i j:Nat} (hij:i<j) (hj:j<h.cs.length) {n sx sy m tx ty x y d:Int} (hi:Str (wlOf h.cs i) n sx sy) (hjs:Str (wlOf h.cs j) m tx ty) (hd:0<d) (h1:onW (wlOf h.cs i) n sx sy x y d) (h2:onW (wlOf h.cs j) m tx ty x y d) :
  ((x=(wlOf h.cs i).fx*d/\y=(wlOf h.cs i).fy*d)\/(x=(wlOf h.cs i).tx*d/\y=(wlOf h.cs i).ty*d))/\((x=(wlOf h.cs j).fx*d/\y=(wlOf h.cs j).fy*d)\/(x=(wlOf h.cs j).tx*d/\y=(wlOf h.cs j).ty*d)):=by
 have p:=Zu9 g hij hj
 have l3:=g.le.2.1
 have l12:h.cs.length<=12:=by have:=g.le; omega
 have tt:=Zh4 hi hjs hd h1 h2
 have tt2:=Zh4 hjs hi hd h2 h1
 have e1:∀ k:Nat,(wlOf h.cs k).n=(k:Int):=fun k=>rfl
 have ef:(wlOf h.cs j).fx=(cor h.cs j).1/\(wlOf h.cs j).fy=(cor h.cs j).2:=⟨rfl,rfl⟩
 have ef' : (wlOf h.cs i).fx=(cor h.cs i).1/\(wlOf h.cs i).fy=(cor h.cs i).2:=⟨rfl,rfl⟩
 have et:(wlOf h.cs i).tx=(cor h.cs ((i+1)%h.cs.length)).1/\(wlOf h.cs i).ty=(cor h.cs ((i+1)%h.cs.length)).2:=⟨rfl,rfl⟩
 have et' : (wlOf h.cs j).tx=(cor h.cs ((j+1)%h.cs.length)).1/\(wlOf h.cs j).ty=(cor h.cs ((j+1)%h.cs.length)).2:=⟨rfl,rfl⟩
 unfold Zbe at p
 rw [e1,e1,decide_eq_false (by omega:¬ (j:Int)<=(i:Int)),Wn,tt2,W_eq (n:=(i:Int)+1) (by omega) (by omega),W_eq (n:=(h.cs.length:Int)-1) (by omega) (by omega)] at p
 by_cases c1:(j:Int)=i+1
 ·have hji:j=i+1:=by omega
  have nb:(wlOf h.cs i).turnsBack (wlOf h.cs j)=false:=by
   cases hb:(wlOf h.cs i).turnsBack (wlOf h.cs j)
   ·rfl
   ·rw [decide_eq_true c1,hb] at p; simp at p
  have hc:(wlOf h.cs j).fx=(wlOf h.cs i).tx/\(wlOf h.cs j).fy=(wlOf h.cs i).ty:=by
   rw [ef.1,ef.2,et.1,et.2,Nat.mod_eq_of_lt (by omega:i+1<h.cs.length),hji]
   exact ⟨rfl,rfl⟩
  have r:=Zrn hi hjs hc nb hd h1 h2
  refine ⟨.inr r,.inl ?_⟩
  rw [hc.1,hc.2]; exact r
 ·rw [decide_eq_false c1] at p
  by_cases c2:(i:Int)=0/\(j:Int)=(h.cs.length:Int)-1
  ·have nb:(wlOf h.cs j).turnsBack (wlOf h.cs i)=false:=by
    cases hb:(wlOf h.cs j).turnsBack (wlOf h.cs i)
    ·rfl
    ·rw [decide_eq_true c2.1,decide_eq_true c2.2,hb] at p; simp at p
   have hc:(wlOf h.cs i).fx=(wlOf h.cs j).tx/\(wlOf h.cs i).fy=(wlOf h.cs j).ty:=by
    rw [ef'.1,ef'.2,et'.1,et'.2,show (j+1)%h.cs.length=i by rw [show j+1=h.cs.length by omega,Nat.mod_self]; omega]
    exact ⟨rfl,rfl⟩
   have r:=Zrn hjs hi hc nb hd h2 h1
   refine ⟨.inl ?_,.inr r⟩
   rw [hc.1,hc.2]; exact r
  ·exfalso
   rw [show (decide ((i:Int)=0)&&decide ((j:Int)=(h.cs.length:Int)-1))=false by rw [<-Bool.decide_and,decide_eq_false c2]] at p
   simp at p
theorem Zo5 {h:Hal} (g:h.fine) {i j:Nat} (hij:i≠j) (hil:i<h.cs.length) (hjl:j<h.cs.length) {n sx sy m tx ty x y d:Int} (hi:Str (wlOf h.cs i) n sx sy) (hjs:Str (wlOf h.cs j) m tx ty) (hd:0<d) (h1:onW (wlOf h.cs i) n sx sy x y d) (h2:onW (wlOf h.cs j) m tx ty x y d) :
  (x=(wlOf h.cs i).fx*d/\y=(wlOf h.cs i).fy*d)\/(x=(wlOf h.cs i).tx*d/\y=(wlOf h.cs i).ty*d):=by
 rcases Nat.lt_or_gt_of_ne hij with c|c
 ·exact (Zmf g c hjl hi hjs hd h1 h2).1
 ·exact (Zmf g c hil hjs hi hd h2 h1).2
structure Ry where
 x:Int
 y:Int
 dx:Int
 dy:Int
structure RyB (r:Ry):Prop where
 x : -45000<=r.x/\r.x<=45000
 y : -45000<=r.y/\r.y<=45000
 dx : -100000<=r.dx/\r.dx<=100000
 dy : -100000<=r.dy/\r.dy<=100000
def gW (sx sy:Int) (r:Ry):Int:=sx*r.dy-sy*r.dx
def fW (w:Wl) (sx sy:Int) (r:Ry):Int:=sx*(r.y-w.fy)-sy*(r.x-w.fx)
def xW (w:Wl) (r:Ry):Int:=r.dx*(w.fy-r.y)-r.dy*(w.fx-r.x)
def yW (w:Wl) (r:Ry):Int:=r.dx*(w.ty-r.y)-r.dy*(w.tx-r.x)
def aW (w:Wl) (sx sy:Int) (r:Ry):Int:=sx*(r.x-w.fx)+sy*(r.y-w.fy)
theorem Zoo {w:Wl} {n sx sy:Int} (h:Str w n sx sy) (r:Ry):yW w r=xW w r-n*gW sx sy r:=by
 unfold yW xW gW; rw [h.tx,h.ty]; grind
theorem Zrl (w:Wl) (sx sy:Int) (r:Ry):aW w sx sy r*gW sx sy r-fW w sx sy r*(sx*r.dx+sy*r.dy)=(sx*sx+sy*sy)*xW w r:=by
 unfold aW gW fW xW; grind
structure Ht where
 nu:Int
 de:Int
 on:Bool
 well:Bool
def htN (w:Wl) (n sx sy:Int) (r:Ry):Option Ht :=
 if gW sx sy r=0 then none else if gW sx sy r<0 then
  some ⟨fW w sx sy r,-gW sx sy r,decide (xW w r<=0)&&decide (0<=yW w r),decide (xW w r<0)&&decide (0<yW w r)⟩
 else some ⟨-fW w sx sy r,gW sx sy r,decide (0<=xW w r)&&decide (yW w r<=0),decide (0<xW w r)&&decide (yW w r<0)⟩
def htW (w:Wl) (r:Ry):Option Ht:=htN w w.ln.n w.ln.sx w.ln.sy r
theorem Zbi {w:Wl} {n sx sy:Int} (h:Str w n sx sy) (r:Ry):htW w r=htN w n sx sy r:=by
 obtain ⟨_,_,h1,h2,h3⟩:=h.ln
 unfold htW; rw [h1,h2,h3]
structure HtB (n:Int) (x:Ht):Prop where
 de:0<x.de/\x.de<=200000
 nu : -100000<=x.nu/\x.nu<=100000
theorem Zlj {w:Wl} {n sx sy:Int} (h:Str w n sx sy) {r:Ry} (b:RyB r) {x:Ht} (e:htN w n sx sy r=some x):HtB n x:=by
 have b1:=h.b1
 have b2:=h.b2
 obtain ⟨p1,p2,p3,p4⟩:=b
 have q:(-200000<=gW sx sy r/\gW sx sy r<=200000)/\(-100000<=fW w sx sy r/\fW w sx sy r<=100000):=by
  unfold gW fW
  rcases h.hx with rfl|rfl|rfl<;>rcases h.hy with rfl|rfl|rfl<;>simp only [Rw,Sy,Sr]<;>omega
 unfold htN at e
 split at e
 ·cases e
 ·split at e<;>cases e<;>exact ⟨by dsimp only; omega,by dsimp only; omega⟩
theorem Zw3 {w:Wl} {n sx sy:Int} (h:Str w n sx sy) {r:Ry} {x:Ht} (e:htN w n sx sy r=some x) (ho:x.on=true):onW w n sx sy (r.x*x.de+x.nu*r.dx) (r.y*x.de+x.nu*r.dy) x.de:=by
 have q:=qpos h
 have hy:=Zoo h r
 have ha:=Zrl w sx sy r
 unfold htN at e
 split at e
 ·cases e
 rename_i hg
 unfold onW
 split at e<;>cases e<;>dsimp only at ho ⊢ <;> rw [Qc] at ho<;>obtain ⟨o1,o2⟩:=ho<;>have o1:=of_decide_eq_true o1<;>have o2:=of_decide_eq_true o2
 ·have eal:alo w sx sy (r.x * -gW sx sy r+fW w sx sy r*r.dx) (r.y * -gW sx sy r+fW w sx sy r*r.dy) (-gW sx sy r)=(sx*sx+sy*sy) * -xW w r:=by
   unfold alo
   have:sx*(r.x * -gW sx sy r+fW w sx sy r*r.dx-w.fx * -gW sx sy r)+sy*(r.y * -gW sx sy r+fW w sx sy r*r.dy-w.fy * -gW sx sy r) = -(aW w sx sy r*gW sx sy r-fW w sx sy r*(sx*r.dx+sy*r.dy)):=by unfold aW; grind
   rw [this,ha]; grind
  refine ⟨by unfold bes fW gW; grind,?_,?_⟩
  ·rw [eal]; exact Pg (by omega) (by omega)
  ·rw [eal,show n*(sx*sx+sy*sy) * -gW sx sy r=(sx*sx+sy*sy) * -(n*gW sx sy r) by grind]
   exact Pi (by omega) (by omega)
 ·have eal:alo w sx sy (r.x*gW sx sy r + -fW w sx sy r*r.dx) (r.y*gW sx sy r + -fW w sx sy r*r.dy) (gW sx sy r)=(sx*sx+sy*sy)*xW w r:=by
   unfold alo
   have:sx*(r.x*gW sx sy r + -fW w sx sy r*r.dx-w.fx*gW sx sy r)+sy*(r.y*gW sx sy r + -fW w sx sy r*r.dy-w.fy*gW sx sy r)=aW w sx sy r*gW sx sy r-fW w sx sy r*(sx*r.dx+sy*r.dy):=by unfold aW; grind
   rw [this,ha]
  refine ⟨by unfold bes fW gW; grind,?_,?_⟩
  ·rw [eal]; exact Pg (by omega) (by omega)
  ·rw [eal,show n*(sx*sx+sy*sy)*gW sx sy r=(sx*sx+sy*sy)*(n*gW sx sy r) by grind]
   exact Pi (by omega) (by omega)
theorem Zw4 {w:Wl} {n sx sy:Int} (h:Str w n sx sy) {r:Ry} {x:Ht} (e:htN w n sx sy r=some x)
  (he:(r.x*x.de+x.nu*r.dx=w.fx*x.de/\r.y*x.de+x.nu*r.dy=w.fy*x.de)\/(r.x*x.de+x.nu*r.dx=w.tx*x.de/\r.y*x.de+x.nu*r.dy=w.ty*x.de)):x.well=false:=by
 have k:∀ a b u v:Int,r.x*u+v*r.dx=a*u->r.y*u+v*r.dy=b*u->u*(r.dx*(b-r.y)-r.dy*(a-r.x))=0:=fun a b u v h1 h2=>by grind
 have hd:x.de≠0:=by
  unfold htN at e
  split at e
  ·cases e
  ·split at e<;>cases e<;>dsimp only<;>omega
 have z:xW w r=0\/yW w r=0:=by
  rcases he with ⟨h1,h2⟩|⟨h1,h2⟩
  ·rcases Og.1 (k _ _ _ _ h1 h2) with c|c
   ·exact absurd c hd
   ·exact .inl c
  ·rcases Og.1 (k _ _ _ _ h1 h2) with c|c
   ·exact absurd c hd
   ·exact .inr c
 unfold htN at e
 split at e
 ·cases e
 ·split at e<;>cases e<;>dsimp only<;>rcases z with z|z<;>rw [z]<;>simp
structure Cd where
 i:Nat
 nu:Int
 de:Int
 well:Bool
def Zx (cs:List (Int × Int)) (r:Ry) (fr:Int × Int) (last:Int) (i:Nat):Option Cd :=
 if (i:Int)=last then none else match htW (wlOf cs i) r with
  | none=>none
  | some x=>if x.on=true/\fr.1*x.de<x.nu*fr.2 then some ⟨i,x.nu,x.de,x.well⟩ else none
def Zfi (a b:Cd):Prop:=a.nu*b.de<b.nu*a.de
instance (a b:Cd):Decidable (Zfi a b):=inferInstanceAs (Decidable (_<_))
def stP:Option Cd->Option Cd->Option Cd
 | acc,none=>acc
 | none,some c=>some c
 | some b,some c=>if Zfi c b then some c else some b
def stR:Option Cd->Option Cd->Option Cd
 | acc,none=>acc
 | none,some c=>some c
 | some b,some c=>if Zfi c b\/(c.nu*b.de=b.nu*c.de/\b.well=true) then some c else some b
def bstP (f:Nat->Option Cd):Nat->Option Cd
 | 0=>none
 | k+1=>stP (bstP f k) (f k)
def bstR (f:Nat->Option Cd):Nat->Option Cd
 | 0=>none
 | k+1=>stR (bstR f k) (f k)
theorem Zcx {f:Nat->Option Cd}:∀ {k:Nat} {c:Cd},bstP f k=some c->∃ i,i<k/\f i=some c
 | 0,_,h=>by cases h
 | k+1,c,h=>by
  rw [bstP] at h
  cases hf:f k with
  | none =>
   rw [hf] at h
   have h:bstP f k=some c:=by cases hb:bstP f k<;>rw [hb] at h<;>exact h
   obtain ⟨i,hi,e⟩:=Zcx h
   exact ⟨i,by omega,e⟩
  | some d =>
   rw [hf] at h
   cases hb:bstP f k with
   | none=>rw [hb] at h; cases h; exact ⟨k,by omega,hf⟩
   | some b =>
    rw [hb] at h
    unfold stP at h
    dsimp only at h
    split at h
    ·cases h; exact ⟨k,by omega,hf⟩
    ·cases h
     obtain ⟨i,hi,e⟩:=Zcx hb
     exact ⟨i,by omega,e⟩
theorem Zq8 {f:Nat->Option Cd} {m:Nat} (ht:∀ i j b c,i<j->j<m->f i=some b->f j=some c->c.nu*b.de=b.nu*c.de->b.well=false):∀ k,k<=m->bstR f k=bstP f k
 | 0,_=>rfl
 | k+1,hk=>by
  rw [bstR,bstP,Zq8 ht k (by omega)]
  cases hf:f k with
  | none=>cases bstP f k<;>rfl
  | some c =>
   cases hb:bstP f k with
   | none=>rfl
   | some b =>
    obtain ⟨i,hi,e⟩:=Zcx hb
    show (if Zfi c b\/(c.nu*b.de=b.nu*c.de/\b.well=true) then some c else some b)=if Zfi c b then some c else some b
    by_cases hl:Zfi c b
    ·rw [if_pos (.inl hl),if_pos hl]
    ·rw [if_neg hl,if_neg]
     rintro (h|⟨h1,h2⟩)
     ·exact hl h
     ·rw [ht i k b c hi (by omega) e hf h1] at h2; cases h2
theorem Zed {cs:List (Int × Int)} {r:Ry} {fr:Int × Int} {last:Int} {i:Nat} {c:Cd} (h:Zx cs r fr last i=some c):∃ x,htW (wlOf cs i) r=some x/\x.on=true/\fr.1*x.de<x.nu*fr.2/\c=⟨i,x.nu,x.de,x.well⟩/\(i:Int)≠last:=by
 unfold Zx at h
 split at h
 ·cases h
 ·rename_i hl
  cases hx:htW (wlOf cs i) r with
  | none=>rw [hx] at h; cases h
  | some x =>
   rw [hx] at h
   dsimp only at h
   split at h
   ·rename_i hc
    cases h
    exact ⟨x,rfl,hc.1,hc.2,rfl,hl⟩
   ·cases h
theorem Zm6 {h:Hal} (g:h.fine) {r:Ry} {fr:Int × Int} {last:Int} (i j:Nat) (b c:Cd) (hij:i<j) (hj:j<h.cs.length) (hb:Zx h.cs r fr last i=some b) (hc:Zx h.cs r fr last j=some c) (ht:c.nu*b.de=b.nu*c.de):b.well=false:=by
 obtain ⟨x,x1,x2,x3,rfl,x5⟩:=Zed hb
 obtain ⟨y,y1,y2,y3,rfl,y5⟩:=Zed hc
 dsimp only at ht ⊢
 obtain ⟨n,sx,sy,hs⟩:=g.st i (by omega)
 obtain ⟨m,tx,ty,hs2⟩:=g.st j hj
 rw [Zbi hs] at x1
 rw [Zbi hs2] at y1
 have o1:=Zw3 hs x1 x2
 have o2:=Zw3 hs2 y1 y2
 have d1:0<x.de:=by
  unfold htN at x1
  split at x1
  ·cases x1
  ·split at x1<;>cases x1<;>dsimp only<;>omega
 have d2:0<y.de:=by
  unfold htN at y1
  split at y1
  ·cases y1
  ·split at y1<;>cases y1<;>dsimp only<;>omega
 have sc:∀ {w:Wl} {n sx sy p q d k:Int},0<k->onW w n sx sy p q d->onW w n sx sy (p*k) (q*k) (d*k):=fun {w n sx sy p q d k} hk ho=>by
  obtain ⟨b0,a0,a1⟩:=ho
  have e1:bes w sx sy (p*k) (q*k) (d*k)=bes w sx sy p q d*k:=by unfold bes; grind
  have e2:alo w sx sy (p*k) (q*k) (d*k)=alo w sx sy p q d*k:=by unfold alo; grind
  refine ⟨by rw [e1,b0,Rw],by rw [e2]; exact Pg a0 (by omega),?_⟩
  rw [e2,<-Int.mul_assoc]
  exact Sv a1 (by omega)
 have o1':=sc d2 o1
 have o2':=sc d1 o2
 rw [show (r.x*y.de+y.nu*r.dx)*x.de=(r.x*x.de+x.nu*r.dx)*y.de by grind,show (r.y*y.de+y.nu*r.dy)*x.de=(r.y*x.de+x.nu*r.dy)*y.de by grind,Tf y.de x.de] at o2'
 have e:=Zo5 g (by omega) (by omega) hj hs hs2 (Sw d1 d2) o1' o2'
 refine Zw4 hs x1 ?_
 rcases e with ⟨e1,e2⟩|⟨e1,e2⟩
 ·refine .inl ⟨?_,?_⟩
  ·exact Wu (by omega:y.de≠0) (by rw [e1]; grind)
  ·exact Wu (by omega:y.de≠0) (by rw [e2]; grind)
 ·refine .inr ⟨?_,?_⟩
  ·exact Wu (by omega:y.de≠0) (by rw [e1]; grind)
  ·exact Wu (by omega:y.de≠0) (by rw [e2]; grind)
theorem Zw7 {h:Hal} (g:h.fine) (r:Ry) (fr:Int × Int) (last:Int):bstR (Zx h.cs r fr last) h.cs.length=bstP (Zx h.cs r fr last) h.cs.length :=
 Zq8 (fun i j b c hij hj h1 h2 h3=>Zm6 g i j b c hij hj h1 h2 h3) _ (Qg _)
def mvD (sx sy x y:Int):Int × Int:=if sy=0 then (x,-y) else if sx=0 then (-x,y) else if sx=sy then (y,x) else (-y,-x)
def rfN (w:Wl) (sx sy:Int) (r:Ry):Ry:=⟨w.fx+(mvD sx sy (r.x-w.fx) (r.y-w.fy)).1,w.fy+(mvD sx sy (r.x-w.fx) (r.y-w.fy)).2,(mvD sx sy r.dx r.dy).1,(mvD sx sy r.dx r.dy).2⟩
def rfW (w:Wl) (r:Ry):Ry:=rfN w w.ln.sx w.ln.sy r
theorem Zho {w:Wl} {n sx sy:Int} (h:Str w n sx sy) (r:Ry):rfW w r=rfN w sx sy r:=by
 obtain ⟨_,_,h1,h2,h3⟩:=h.ln
 unfold rfW; rw [h2,h3]
theorem Zxx {w:Wl} {n sx sy:Int} (h:Str w n sx sy) (r:Ry):fW w sx sy (rfN w sx sy r) = -fW w sx sy r/\gW sx sy (rfN w sx sy r) = -gW sx sy r/\xW w (rfN w sx sy r) = -xW w r:=by
 have hxy:=h.hxy
 unfold fW gW xW rfN mvD
 rcases h.hx with rfl|rfl|rfl<;>rcases h.hy with rfl|rfl|rfl<;>(try (exact absurd ⟨rfl,rfl⟩ hxy))<;>simp (decide:=true) only [if_true,if_false]<;>refine ⟨?_,?_,?_⟩<;>grind
theorem Zxw {w:Wl} {n sx sy:Int} (h:Str w n sx sy) (r:Ry):htN w n sx sy (rfN w sx sy r)=htN w n sx sy r:=by
 obtain ⟨h1,h2,h3⟩:=Zxx h r
 have h4:yW w (rfN w sx sy r) = -yW w r:=by rw [Zoo h,Zoo h,h2,h3]; grind
 unfold htN
 rw [h1,h2,h3,h4]
 by_cases c:gW sx sy r=0
 ·rw [if_pos (by omega),if_pos c]
 ·rw [if_neg (by omega),if_neg c]
  by_cases c2:gW sx sy r<0
  ·rw [if_neg (by omega),if_pos c2]
   simp only [Sf,Gh,Ji,Int.neg_pos,Ks]
  ·rw [if_pos (by omega),if_neg c2]
   simp only [Sf,Gh,Ji,Int.neg_pos,Ks]
structure RyS (k:Nat) (r:Ry):Prop where
 x : -(5000+10000*(k:Int))<=r.x/\r.x<=5000+10000*(k:Int)
 y : -(5000+10000*(k:Int))<=r.y/\r.y<=5000+10000*(k:Int)
 dx : -100000<=r.dx/\r.dx<=100000
 dy : -100000<=r.dy/\r.dy<=100000
theorem RyS.b {k:Nat} {r:Ry} (h:RyS k r) (hk:k<=4):RyB r:=by
 obtain ⟨h1,h2,h3,h4⟩:=h
 exact ⟨by omega,by omega,h3,h4⟩
theorem RyS.next {k:Nat} {r:Ry} (s:RyS k r) {w:Wl} {n sx sy:Int} (h:Str w n sx sy):RyS (k+1) (rfN w sx sy r):=by
 obtain ⟨h1,h2,h3,h4⟩:=s
 have b1:=h.b1
 have b2:=h.b2
 have hxy:=h.hxy
 unfold rfN mvD
 rcases h.hx with rfl|rfl|rfl<;>rcases h.hy with rfl|rfl|rfl<;>(try (exact absurd ⟨rfl,rfl⟩ hxy))<;>simp (decide:=true) only [if_true,if_false]<;>exact ⟨by dsimp only; omega,by dsimp only; omega,by dsimp only; omega,by dsimp only; omega⟩
def folL (cs:List (Int × Int)):Nat->Ry->Int × Int->Int->Option (List Int)
 | 0,_,_,_=>some []
 | k+1,r,fr,last=>match bstP (Zx cs r fr last) cs.length with
  | none=>none
  | some c=>if c.well=true then (folL cs k (rfW (wlOf cs c.i) r) (c.nu,c.de) c.i).map (fun l=>(c.i:Int)::l) else none
structure Bh (cs:List (Int × Int)) (r:Ry) (fr:Int × Int) (last:Int):Prop where
 pos:0<=fr.1/\0<fr.2
 last:(last = -1/\fr=(0,1))\/∃ i:Nat,i<cs.length/\last=(i:Int)/\0<fr.1/\∃ x,htW (wlOf cs i) r=some x/\x.nu=fr.1/\x.de=fr.2
theorem Bh.start (cs:List (Int × Int)) (r:Ry):Bh cs r (0,1) (-1):=⟨⟨by decide,by decide⟩,.inl ⟨rfl,rfl⟩⟩
theorem Zx4 {w:Wl} {n sx sy:Int} {r:Ry} {x:Ht} (x1:htN w n sx sy r=some x):0<x.de:=by
 unfold htN at x1
 split at x1
 ·cases x1
 ·split at x1<;>cases x1<;>dsimp only<;>omega
theorem Bh.next {cs:List (Int × Int)} (hs:Ua cs) {r:Ry} {fr:Int × Int} {last:Int} (b:Bh cs r fr last) {c:Cd} (hc:bstP (Zx cs r fr last) cs.length=some c):c.i<cs.length/\Bh cs (rfW (wlOf cs c.i) r) (c.nu,c.de) c.i:=by
 obtain ⟨i,hi,e⟩:=Zcx hc
 obtain ⟨x,x1,x2,x3,rfl,x5⟩:=Zed e
 dsimp only
 obtain ⟨n,sx,sy,h⟩:=hs i hi
 have x1':=x1
 rw [Zbi h] at x1'
 have d:=Zx4 x1'
 have p:0<x.nu:=by
  have h1:0<=fr.1*x.de:=Pg b.pos.1 (by omega)
  have h2:0<x.nu*fr.2:=by omega
  exact Lt h2 (by have:=b.pos.2; omega)
 refine ⟨hi,⟨by dsimp only; omega,d⟩,.inr ⟨i,hi,rfl,p,x,?_,rfl,rfl⟩⟩
 rw [Zho h,Zbi h,Zxw h]; exact x1'
theorem d210 (n lo hi:Int):PCall Tryz.prog 78 [I n,I lo,I hi] ⟨Bo (within n lo hi),[]⟩:=by
 refine bs.pv (sx:=nos) Zf Tryz.func78 (by kernel_rfl) (by kernel_rfl) rfl ?_
 repeat'(first|refine wk3 ?_|(refine wk2 ?_ ?_<;>intro _)|refine wk4 ?_|fail);all_goals(conv=>whnf)
 all_goals exact Zd (by simp_all [within]<;>omega)
theorem d209 (b:Bool) (e:Int):PCall Tryz.prog 75 [Bo b,I e] ⟨I (unl b e),[]⟩:=by
 refine bs.pv (sx:=nos) Zf Tryz.func75 (by kernel_rfl) (by kernel_rfl) rfl ?_
 repeat'(first|refine wk3 ?_|(refine wk2 ?_ ?_<;>intro _)|refine wk4 ?_|fail);all_goals(conv=>whnf)
 all_goals exact Zb (by simp_all [unl])
def fstL:List Int->Int
 | []=>0
 | x::l=>if x≠0 then x else fstL l
theorem Zqb (x:Int) (l:List Int):fstL (x::l)=if x≠0 then x else fstL l:=rfl
theorem d78 {l:List Int} (hl:l.length<1000):PCall Tryz.prog 39 [.isl 1 (nl l)] ⟨I (fstL l),[]⟩:=by
 have l2:=Xb l
 refine bs.pv (sx:=nos) Zf Tryz.func39 (by kernel_rfl) (by kernel_rfl) rfl ?_
 repeat'(first|refine wk3 ?_|(refine wk2 ?_ ?_<;>intro _)|refine wk4 ?_|fail);all_goals(conv=>whnf)
 refine Yj (S:=Nat × Int) (fun t=>l.length-t.1) (fun t=>[(5,.isl 1 (nl l)),(6,I (nl l).length),(7,I t.2)]) (fun _=>[]) 0 0 (fun t=>t.2=t.1/\t.1<=l.length/\fstL (l.drop t.1)=fstL l) (0,0) ⟨rfl,Qm _,rfl⟩ (Qg _) [] rfl (kps) (kps) ?_
 rintro ⟨k,i⟩ ⟨hi,hk,hh⟩
 dsimp only at hi hk hh ⊢
 subst hi
 generalize fstL l=R at *
 refine bs.av (sx:=nos) Zf ?_
 by_cases hlt:k<l.length
 ·have e1:=Ze7 hlt
  rw [Qk hlt,Zqb] at hh
  generalize l[k]=x at *
  by_cases hx:x=0
  ·rw [if_neg (fun c=>c hx)] at hh
   repeat'(first|refine wk3 ?_|(refine wk2 ?_ ?_<;>intro _)|refine wk4 ?_|fail);all_goals(conv=>whnf)
   exact Qr ⟨(k+1,_),[],rfl,kps,kps,⟨Zh (by omega),hlt,hh⟩,by dsimp only; omega⟩
  ·rw [if_pos hx] at hh
   subst hh
   repeat'(first|refine wk3 ?_|(refine wk2 ?_ ?_<;>intro _)|refine wk4 ?_|fail);all_goals(conv=>whnf)
   exact Zb rfl
 ·rw [Ql (by omega)] at hh
  repeat'(first|refine wk3 ?_|(refine wk2 ?_ ?_<;>intro _)|refine wk4 ?_|fail);all_goals(conv=>whnf)
  exact Zb hh
def r78f:List AV->Option PRes
 | [.isl 1 l]=>match numsOf l with
  | some ns=>asr (Nat.blt ns.length 1000) ⟨I (fstL ns),[]⟩
  | none=>none
 | _=>none
where
 numsOf:List (List AV)->Option (List Int)
  | []=>some []
  | [.int .i64 n]::l=>match numsOf l with
   | some ns=>some (n::ns)
   | none=>none
  | _=>none
theorem Zjn:∀ {l:List (List AV)} {ns:List Int},r78f.numsOf l=some ns->l=nl ns
 | [],ns,h=>by cases h; rfl
 | e::l,ns,h=>by
  unfold r78f.numsOf at h
  split at h
  ·rename_i h0; cases h0
  ·rename_i n l' h0
   cases h0
   split at h
   ·rename_i ms hm
    cases h
    rw [Zjn hm]; rfl
   ·cases h
  ·cases h
theorem d86 (n m:Int):PCall Tryz.prog 77 [I n,I m] ⟨Bo (small n m),[]⟩:=by
 have hk:PCOK Tryz.prog (ins 78 (fun a=>match a with
  | [.int .i64 n,.int .i64 lo,.int .i64 hi]=>some ⟨Bo (within n lo hi),[]⟩
  | _=>none) pt0):=Zi (fun a res h=>by split at h<;>cases h; exact d210 _ _ _) Zf
 refine bs.pv (sx:=nos) hk Tryz.func77 (by kernel_rfl) (by kernel_rfl) rfl ?_
 repeat'(first|refine wk3 ?_|(refine wk2 ?_ ?_<;>intro _)|refine wk4 ?_|fail);all_goals(conv=>whnf)
 exact Zd rfl
def rWu:List AV->Option PRes
 | [.int .i64 n,.int .i64 lo,.int .i64 hi]=>some ⟨Bo (within n lo hi),[]⟩
 | _=>none
def rUn:List AV->Option PRes
 | [.bool b,.int .i64 e]=>some ⟨I (unl b e),[]⟩
 | _=>none
def kI0:PC:=ins 39 r78f (ins 75 rUn (ins 78 rWu (ins 77 r92 k78)))
theorem Zwz:PCOK Tryz.prog kI0:=by
 refine Zi (fun a res h=>?_) (Zi (fun a res h=>?_) (Zi (fun a res h=>?_) (Zi (fun a res h=>?_) Zhw)))
 ·unfold r78f at h
  split at h
  ·split at h
   ·rename_i ns hn
    obtain ⟨h1,rfl⟩:=Uc h
    rw [Zjn hn]
    exact d78 (by simpa [Nat.blt_eq] using h1)
   ·cases h
  ·cases h
 ·unfold rUn at h; split at h<;>cases h; exact d209 _ _
 ·unfold rWu at h; split at h<;>cases h; exact d210 _ _ _
 ·unfold r92 at h; split at h<;>cases h; exact d86 _ _
def i64 (n:Int):Prop:=-9223372036854775808<=n/\n<=9223372036854775807
theorem Zo4 {a:Int} (h:i64 a):size a=Qa Qb (a.natAbs:Int):=by
 unfold size imax
 obtain ⟨h1,h2⟩:=h
 by_cases h3:a = -9223372036854775808
 ·subst h3; decide
 ·rw [W_eq (n:=0-a) (by omega) (by omega),W_eq (by omega) (by omega)]
  by_cases h4:a<0-a
  ·rw [decide_eq_true h4]; simp only [cond_true]; omega
  ·rw [decide_eq_false h4]; simp only [cond_false]; omega
theorem Zid {a b:Int} (ha:i64 a) (hb:b≠0):i64 (a.tmod b):=by
 obtain ⟨h1,h2⟩:=ha
 have h3:(a.tmod b).natAbs<=a.natAbs:=by rw [Pn]; exact Nat.mod_le _ _
 have h4:0<=a->0<=a.tmod b:=fun h=>Hq b h
 have h5:a<=0->a.tmod b<=0:=fun h=>by have:=Hq b (a:=-a) (by omega); rw [Int.neg_tmod] at this; omega
 unfold i64
 omega
theorem Ziu {a b:Int}:Wd b.natAbs (a.tmod b).natAbs=Wd a.natAbs b.natAbs:=by
 rw [Pn,Nat.gcd_comm,<-Nat.gcd_rec,Nat.gcd_comm]
theorem c120 {a b:Int} (ha:i64 a) (hb:i64 b):PCall Tryz.prog 20 [I a,I b] ⟨I (Qa Qb ((Wd a.natAbs b.natAbs:Nat):Int)),[]⟩:=by
 refine bs.pv (sx:=nos) Zmt Tryz.func20 (by kernel_rfl) (by kernel_rfl) rfl ?_
 generalize hG:Wd a.natAbs b.natAbs=G
 refine Yj (S:=Int × Int) (fun t=>t.2.natAbs) (fun t=>[(0,I t.1),(1,I t.2)]) (fun _=>[]) 0 0 (fun t=>(i64 t.1/\i64 t.2)/\Wd t.1.natAbs t.2.natAbs=G) (a,b) ⟨⟨ha,hb⟩,hG⟩ (Qg _) [] rfl (kps) (kps) ?_
 clear hG ha hb
 rintro ⟨a,b⟩ ⟨⟨ha,hb⟩,hG⟩
 dsimp only at ha hb hG ⊢
 refine bs.av (sx:=nos) Zmt ?_
 by_cases h0:b=0
 ·subst h0
  repeat'(first|refine wk1 ?_|(refine wk2 ?_ ?_<;>intro _)|refine wk4 ?_|fail);all_goals(conv=>whnf)
  exact Zb (by rw [Zo4 ha,<-hG]; simp)
 ·repeat'(first|refine wk1 ?_|(refine wk2 ?_ ?_<;>intro _)|refine wk4 ?_|fail);all_goals(conv=>whnf)
  exact Qr ⟨(b,a.tmod b),[],rfl,kps,kps,⟨⟨hb,Zid ha h0⟩,by rw [<-hG]; exact Ziu⟩,by
   show (a.tmod b).natAbs<b.natAbs
   rw [Pn]; exact We _ (by omega)⟩
abbrev gcW (a b:Int):Int:=Qa Qb ((Wd a.natAbs b.natAbs:Nat):Int)
theorem d138 {a b:Int} (ha:i64 a) (hb:i64 b):PCall Tryz.prog 76 [I a,I b] ⟨I (gcW a b),[]⟩:=by
 refine bs.pv (sx:=nos) Zf Tryz.func76 (by kernel_rfl) (by kernel_rfl) rfl ?_
 unfold gcW
 generalize hG:Wd a.natAbs b.natAbs=G
 conv=>whnf
 refine Yj (S:=Int × Int) (fun t=>t.2.natAbs) (fun t=>[(0,I t.1),(1,I t.2)]) (fun _=>[]) 0 0 (fun t=>(i64 t.1/\i64 t.2)/\Wd t.1.natAbs t.2.natAbs=G) (a,b) ⟨⟨ha,hb⟩,hG⟩ (Qg _) [] rfl (kps) (kps) ?_
 clear hG ha hb
 rintro ⟨a,b⟩ ⟨⟨ha,hb⟩,hG⟩
 dsimp only at ha hb hG ⊢
 refine bs.av (sx:=nos) Zf ?_
 by_cases h0:b=0
 ·subst h0
  repeat'(first|refine wk3 ?_|(refine wk2 ?_ ?_<;>intro _)|refine wk4 ?_|fail);all_goals(conv=>whnf)
  all_goals first|exact Zb ((Zo4 ha).trans (by rw [<-hG]; simp))|(exfalso; simp_all; done)
 ·repeat'(first|refine wk3 ?_|(refine wk2 ?_ ?_<;>intro _)|refine wk4 ?_|fail);all_goals(conv=>whnf)
  all_goals first
   | exact Qr ⟨(b,a.tmod b),[],rfl,kps,kps,⟨⟨hb,Zid ha h0⟩,by rw [<-hG]; exact Ziu⟩,by
     show (a.tmod b).natAbs<b.natAbs
     rw [Pn]; exact We _ (by omega)⟩
   | (exfalso; simp_all; done)
def crW (a b c d:Int):Int:=Qa Qb (Qa Qb (a*d)-Qa Qb (b*c))
theorem d139 (a b c d:Int):PCall Tryz.prog 92 [P2 a b,P2 c d] ⟨I (crW a b c d),[]⟩:=by
 refine bs.pv (sx:=nos) Zf Tryz.func92 (by kernel_rfl) (by kernel_rfl) rfl ?_
 repeat'(first|refine wk3 ?_|(refine wk2 ?_ ?_<;>intro _)|refine wk4 ?_|fail);all_goals(conv=>whnf)
 exact Zb rfl
theorem d93 (a b:Int):PCall Tryz.prog 43 [P2 a b] ⟨P2 a b,[]⟩:=by
 refine bs.pv (sx:=nos) Zf Tryz.func43 (by kernel_rfl) (by kernel_rfl) rfl ?_
 repeat'(first|refine wk3 ?_|(refine wk2 ?_ ?_<;>intro _)|refine wk4 ?_|fail);all_goals(conv=>whnf)
 exact Ze rfl rfl
def rCr:List AV->Option PRes
 | [.agg [.int .i64 a,.int .i64 b],.agg [.int .i64 c,.int .i64 d]]=>some ⟨I (crW a b c d),[]⟩
 | _=>none
def rWy:List AV->Option PRes
 | [.agg [.int .i64 a,.int .i64 b]]=>some ⟨P2 a b,[]⟩
 | _=>none
abbrev Tn:=Int × Int
def tnE (t:Tn):Int:=fstL [unl (decide (gcW t.1 t.2=1)) 3,unl (small t.1 100000&&small t.2 100000) 2]
theorem Zig (n:Int):small n 100000=within n (-100000) 100000:=rfl
theorem d91 {t:Tn} (h1:i64 t.1) (h2:i64 t.2):PCall Tryz.prog 41 [P2 t.1 t.2] ⟨I (tnE t),[]⟩:=by
 have hk:=Zc (d138 h1 h2) Zwz
 unfold tnE
 generalize gcW t.1 t.2=G at *
 cases q1:small t.1 100000<;>cases q2:small t.2 100000
 all_goals
  refine bs.pv (sx:=nos) hk Tryz.func41 (by kernel_rfl) (by kernel_rfl) rfl ?_
  repeat'(first|refine wk3 ?_|(refine wk2 ?_ ?_<;>intro _)|refine wk4 ?_|fail);all_goals(conv=>whnf)
  all_goals first|exact Zb rfl|(refine Zb ?_; simp_all; done)|(exfalso; simp_all; done)
theorem d32 {t:Tn} (h1:i64 t.1) (h2:i64 t.2):PCall Tryz.prog 12 [P2 t.1 t.2] ⟨I (tnE t),[]⟩:=by
 have hk:=Zc (c120 h1 h2) Zhw
 change PCOK Tryz.prog (ins 20 (one [I t.1,I t.2] ⟨I (gcW t.1 t.2),[]⟩) k78) at hk
 unfold tnE
 rw [Zig,Zig]
 generalize gcW t.1 t.2=G at *
 by_cases q0:G=1<;>cases q1:within t.1 (-100000) 100000<;>cases q2:within t.2 (-100000) 100000
 all_goals
  refine bs.pv (sx:=nos) hk Tryz.func12 (by kernel_rfl) (by kernel_rfl) rfl ?_
  repeat'(first|refine wk3 ?_|(refine wk2 ?_ ?_<;>intro _)|refine wk4 ?_|fail);all_goals(conv=>whnf)
  all_goals first|exact Zb rfl|(refine Zb ?_; simp_all [fstL,unl]; done)|(exfalso; simp_all; done)
abbrev Ry.av (r:Ry) (last:Int):AV:=.agg [I r.x,I r.y,I r.dx,I r.dy,I last]
theorem e162 {h:Hal} (hf:h.few) {k:Nat} (hk:k<h.cs.length):PCall Tryz.prog 162 [h.av,I k] ⟨.tup [P2 (wlOf h.cs k).fx (wlOf h.cs k).fy,P2 (wlOf h.cs k).tx (wlOf h.cs k).ty],[]⟩:=by
 have e1:=Zbk hk
 have e2:=Zbk (ps:=h.cs) (i:=(k+1)%h.cs.length) (We _ (by omega))
 have e3:(h.cs.map pt).length=h.cs.length:=by simp
 have hl:=hf.2.1
 have hw:Qa Qb ((k:Int)+1)=((k+1:Nat):Int):=IntWalk.i64_in _ ⟨by omega,by omega⟩
 have hm:(Qa Qb ((k:Int)+1)).tmod ((h.cs.map pt).length:Int)=(((k+1)%h.cs.length:Nat):Int):=by rw [hw,e3]; rfl
 have e4:(h.cs.map pt)[((k:Nat):Int).toNat]?=some [I (cor h.cs k).1,I (cor h.cs k).2]:=by simpa using e1
 have e5:(h.cs.map pt)[((Qa Qb ((k:Int)+1)).tmod ((h.cs.map pt).length:Int)).toNat]?=some [I (cor h.cs ((k+1)%h.cs.length)).1,I (cor h.cs ((k+1)%h.cs.length)).2]:=by rw [hm,Sj]; exact e2
 refine bs.pv (sx:=nos) Zf Tryz.func162 (by kernel_rfl) (by kernel_rfl) rfl ?_
 repeat'(first|refine wk1 ?_|(refine wk2 ?_ ?_<;>intro _)|refine wk4 ?_|fail);all_goals(conv=>whnf)
 exact Ze rfl rfl
noncomputable abbrev rWa (h:Hal):List AV->Option PRes:=famA (fun k:Nat=>k<h.cs.length) (fun k=>[h.av,I k]) (fun k=>⟨.tup [P2 (wlOf h.cs k).fx (wlOf h.cs k).fy,P2 (wlOf h.cs k).tx (wlOf h.cs k).ty],[]⟩)
theorem Zuy {h:Hal} {k:Nat} (hk:k<h.cs.length):rWa h [h.av,I k]=some ⟨.tup [P2 (wlOf h.cs k).fx (wlOf h.cs k).fy,P2 (wlOf h.cs k).tx (wlOf h.cs k).ty],[]⟩ :=
 Yp (p:=fun k:Nat=>k<h.cs.length) (g:=fun k=>[h.av,I k]) (r:=fun k=>⟨.tup [P2 (wlOf h.cs k).fx (wlOf h.cs k).fy,P2 (wlOf h.cs k).tx (wlOf h.cs k).ty],[]⟩) (k:=k) (fun j hj=>by
  simp only [Rj,Tm,true_and,and_true] at hj
  rw [Pp hj]) hk
def kE0:PC:=ins 92 rCr (ins 100 rFr (ins 43 rWy pt0))
theorem Zjw:PCOK Tryz.prog kE0:=by
 refine Zi (fun a res h=>?_) (Zi (fun a res h=>?_) (Zi (fun a res h=>?_) Zf))
 ·unfold rCr at h; split at h<;>cases h; exact d139 _ _ _ _
 ·unfold rFr at h; split at h<;>cases h; exact d87 _ _ _ _
 ·unfold rWy at h; split at h<;>cases h; exact d93 _ _
def lnU (w:Wl) (r:Ry):Int:=crW (Qa Qb (w.fx-r.x)) (Qa Qb (w.fy-r.y)) w.dx w.dy
def lnD (w:Wl) (r:Ry):Int:=crW r.dx r.dy w.dx w.dy
def lnQ (w:Wl) (r:Ry):Int × Int:=if lnD w r<0 then (Qa Qb (0-lnU w r),Qa Qb (0-lnD w r)) else (lnU w r,lnD w r)
def lnO (w:Wl) (r:Ry):Bool:=decide (0<(lnQ w r).2)&&decide (0<(lnQ w r).1)
theorem e101 {h:Hal} (hf:h.few) {k:Nat} (hk:k<h.cs.length) (r:Ry) (last:Int):PCall Tryz.prog 101 [h.av,r.av last,I k] ⟨.tup [P2 (lnQ (wlOf h.cs k) r).1 (lnQ (wlOf h.cs k) r).2,Bo (lnO (wlOf h.cs k) r)],[]⟩:=by
 have hk0:PCOK Tryz.prog (ins 162 (rWa h) kE0):=Xj (fun k hk=>e162 hf hk) Zjw
 have c1:=Zuy hk
 obtain ⟨x,y,dx,dy⟩:=r
 unfold lnO lnQ
 by_cases q:lnD (wlOf h.cs k) ⟨x,y,dx,dy⟩<0
 ·simp only [if_pos q]
  unfold lnD lnU Wl.dx Wl.dy at *
  dsimp only at *
  generalize wlOf h.cs k=w at *
  obtain ⟨n,fx,fy,tx,ty⟩:=w
  dsimp only at *
  refine bs.pv (sx:=nos) hk0 Tryz.func101 (by kernel_rfl) (by kernel_rfl) rfl ?_
  repeat'(first|refine wk3 ?_|(refine wk2 ?_ ?_<;>intro _)|refine wk4 ?_|fail);all_goals(conv=>whnf)
  all_goals first|exact Ze (by simp_all<;>(intros; omega)) rfl|(exfalso; simp_all; done)
 ·simp only [if_neg q]
  unfold lnD lnU Wl.dx Wl.dy at *
  dsimp only at *
  generalize wlOf h.cs k=w at *
  obtain ⟨n,fx,fy,tx,ty⟩:=w
  dsimp only at *
  refine bs.pv (sx:=nos) hk0 Tryz.func101 (by kernel_rfl) (by kernel_rfl) rfl ?_
  repeat'(first|refine wk3 ?_|(refine wk2 ?_ ?_<;>intro _)|refine wk4 ?_|fail);all_goals(conv=>whnf)
  all_goals first|exact Ze (by simp_all<;>(intros; omega)) rfl|(exfalso; simp_all; done)
theorem Zm4 {a b c d:Int} (h1 : -4000000000000000000<=a*d/\a*d<=4000000000000000000) (h2 : -4000000000000000000<=b*c/\b*c<=4000000000000000000):crW a b c d=a*d-b*c:=by
 unfold crW
 rw [W_eq (n:=a*d) (by omega) (by omega),W_eq (n:=b*c) (by omega) (by omega),W_eq (by omega) (by omega)]
theorem Zuf {w:Wl} {n sx sy:Int} (h:Str w n sx sy):(-10000<=n*sx/\n*sx<=10000)/\(-10000<=n*sy/\n*sy<=10000):=by
 have b1:=h.b1
 have b2:=h.b2
 have b3:=h.b3
 have b4:=h.b4
 have t1:=h.tx
 have t2:=h.ty
 omega
theorem Zwv {w:Wl} {n sx sy:Int} (h:Str w n sx sy) {r:Ry} (b:RyB r):lnU w r=n*fW w sx sy r:=by
 have d:=Zuf h
 have b1:=h.b1
 have b2:=h.b2
 obtain ⟨p1,p2,p3,p4⟩:=b
 unfold lnU
 rw [h.dx,h.dy,W_eq (n:=w.fx-r.x) (by omega) (by omega),W_eq (n:=w.fy-r.y) (by omega) (by omega)]
 have m1:=Yi (a:=w.fx-r.x) (b:=n*sy) (A:=50000) (B:=10000) (by omega) (by omega)
 have m2:=Yi (a:=w.fy-r.y) (b:=n*sx) (A:=50000) (B:=10000) (by omega) (by omega)
 rw [Zm4 (by omega) (by omega)]
 unfold fW; grind
theorem Zty {w:Wl} {n sx sy:Int} (h:Str w n sx sy) {r:Ry} (b:RyB r):lnD w r = -(n*gW sx sy r):=by
 have d:=Zuf h
 obtain ⟨p1,p2,p3,p4⟩:=b
 unfold lnD
 rw [h.dx,h.dy]
 have m1:=Yi (a:=r.dx) (b:=n*sy) (A:=100000) (B:=10000) (by omega) (by omega)
 have m2:=Yi (a:=r.dy) (b:=n*sx) (A:=100000) (B:=10000) (by omega) (by omega)
 rw [Zm4 (by omega) (by omega)]
 unfold gW; grind
theorem Zrz {w:Wl} {n sx sy:Int} (h:Str w n sx sy) {r:Ry} (b:RyB r):crW r.dx r.dy (Qa Qb (w.fx-r.x)) (Qa Qb (w.fy-r.y))=xW w r/\crW r.dx r.dy (Qa Qb (w.tx-r.x)) (Qa Qb (w.ty-r.y))=yW w r:=by
 have b1:=h.b1
 have b2:=h.b2
 have b3:=h.b3
 have b4:=h.b4
 obtain ⟨p1,p2,p3,p4⟩:=b
 rw [W_eq (n:=w.fx-r.x) (by omega) (by omega),W_eq (n:=w.fy-r.y) (by omega) (by omega),W_eq (n:=w.tx-r.x) (by omega) (by omega),W_eq (n:=w.ty-r.y) (by omega) (by omega)]
 have m1:=Yi (a:=r.dx) (b:=w.fy-r.y) (A:=100000) (B:=50000) (by omega) (by omega)
 have m2:=Yi (a:=r.dy) (b:=w.fx-r.x) (A:=100000) (B:=50000) (by omega) (by omega)
 have m3:=Yi (a:=r.dx) (b:=w.ty-r.y) (A:=100000) (B:=50000) (by omega) (by omega)
 have m4:=Yi (a:=r.dy) (b:=w.tx-r.x) (A:=100000) (B:=50000) (by omega) (by omega)
 rw [Zm4 (by omega) (by omega),Zm4 (by omega) (by omega)]
 exact ⟨rfl,rfl⟩
theorem Zsb {w:Wl} {n sx sy:Int} (h:Str w n sx sy) {r:Ry} (b:RyB r) (e:htN w n sx sy r=none):lnO w r=false:=by
 have hg:gW sx sy r=0:=by
  unfold htN at e
  split at e
  ·assumption
  ·split at e<;>cases e
 unfold lnO lnQ
 rw [Zty h b,hg]
 simp
theorem Zmo {w:Wl} {n sx sy:Int} (h:Str w n sx sy) {r:Ry} (b:RyB r) {x:Ht} (e:htN w n sx sy r=some x):lnQ w r=(n*x.nu,n*x.de)/\lnO w r=decide (0<x.nu):=by
 have hn:=h.hn
 have hl:=h.nle
 have hb:=Zlj h b e
 have m1:=Yi (a:=n) (b:=x.nu) (A:=10000) (B:=100000) (by omega) (by have:=hb.nu; omega)
 have m2:=Yi (a:=n) (b:=x.de) (A:=10000) (B:=200000) (by omega) (by have:=hb.de; omega)
 have hq:lnQ w r=(n*x.nu,n*x.de):=by
  unfold lnQ
  rw [Zty h b,Zwv h b]
  unfold htN at e
  split at e
  ·cases e
  ·rename_i hg
   split at e
   ·rename_i hl
    cases e
    dsimp only at m1 m2 ⊢
    have:n*gW sx sy r<0:=Sk hn hl
    rw [if_neg (by omega)]
    rw [show -(n*gW sx sy r)=n * -gW sx sy r by grind]
   ·rename_i hl
    cases e
    dsimp only at m1 m2 ⊢
    have:0<n*gW sx sy r:=Sw hn (by omega)
    rw [if_pos (by omega),show n * -fW w sx sy r = -(n*fW w sx sy r) by grind] at *
    rw [W_eq (by omega) (by omega),W_eq (by omega) (by omega)]
    congr 1<;>omega
 refine ⟨hq,?_⟩
 unfold lnO
 rw [hq]
 dsimp only
 have h1:0<n*x.de:=Sw hn hb.de.1
 rw [decide_eq_true h1,Tk,decide_eq_decide]
 exact ⟨fun h2=>Int.pos_of_mul_pos_right h2 (by omega),fun h2=>Sw hn h2⟩
def lsW (s t:Int × Int):Bool:=decide (Qa Qb (s.1*t.2)<Qa Qb (t.1*s.2))
theorem Ztt {n m:Int} (hn:0<n/\n<=10000) (hm:0<m/\m<=10000) {a b c d:Int} (ha : -100000<=a/\a<=100000) (hb:0<b/\b<=200000) (hc : -100000<=c/\c<=100000) (hd:0<d/\d<=200000):lsW (n*a,n*b) (m*c,m*d)=decide (a*d<c*b):=by
 unfold lsW
 dsimp only
 have m1:=Yi (a:=n) (b:=m) (A:=10000) (B:=10000) (by omega) (by omega)
 have p1:0<n*m:=Sw hn.1 hm.1
 have m2:=Yi (a:=a) (b:=d) (A:=100000) (B:=200000) ha (by omega)
 have m3:=Yi (a:=c) (b:=b) (A:=100000) (B:=200000) hc (by omega)
 have m4:=Yi (a:=n*m) (b:=a*d) (A:=100000000) (B:=20000000000) (by omega) (by omega)
 have m5:=Yi (a:=n*m) (b:=c*b) (A:=100000000) (B:=20000000000) (by omega) (by omega)
 rw [show n*a*(m*d)=n*m*(a*d) by grind,show m*c*(n*b)=n*m*(c*b) by grind,W_eq (by omega) (by omega),W_eq (by omega) (by omega),decide_eq_decide]
 exact ⟨fun h=>Int.lt_of_mul_lt_mul_left h (by omega),fun h=>Int.mul_lt_mul_of_pos_left h p1⟩
theorem Zuo {w:Wl} {n sx sy:Int} (h:Str w n sx sy) {r:Ry} {x:Ht} (e:htN w n sx sy r=some x) :
  (x.on=true ↔ ¬((0<xW w r/\0<yW w r)\/(xW w r<0/\yW w r<0)))/\(x.on=true->(x.well=true↔(xW w r≠0/\yW w r≠0))):=by
 have hn:=h.hn
 have hy:=Zoo h r
 unfold htN at e
 split at e
 ·cases e
 ·rename_i hg
  split at e
  ·rename_i hl
   cases e
   dsimp only
   have:n*gW sx sy r<0:=Sk hn hl
   simp only [Qc,decide_eq_true_eq]
   omega
  ·rename_i hl
   cases e
   dsimp only
   have:0<n*gW sx sy r:=Sw hn (by omega)
   simp only [Qc,decide_eq_true_eq]
   omega
theorem e80 (a b c d:Int):PCall Tryz.prog 80 [P2 a b,P2 c d] ⟨Bo (lsW (a,b) (c,d)),[]⟩:=by
 refine bs.pv (sx:=nos) Zf Tryz.func80 (by kernel_rfl) (by kernel_rfl) rfl ?_
 repeat'(first|refine wk3 ?_|(refine wk2 ?_ ?_<;>intro _)|refine wk4 ?_|fail);all_goals(conv=>whnf)
 exact Zd rfl
def rLs:List AV->Option PRes
 | [.agg [.int .i64 a,.int .i64 b],.agg [.int .i64 c,.int .i64 d]]=>some ⟨Bo (lsW (a,b) (c,d)),[]⟩
 | _=>none
theorem Zto {pt:PC} (h:PCOK Tryz.prog pt):PCOK Tryz.prog (ins 80 rLs pt):=Zi (fun a res h=>by unfold rLs at h; split at h<;>cases h; exact e80 _ _ _ _) h
noncomputable abbrev rLn (h:Hal):List AV->Option PRes:=famA (fun q:Ry × Int × Nat=>q.2.2<h.cs.length) (fun q=>[h.av,q.1.av q.2.1,I q.2.2]) (fun q=>⟨.tup [P2 (lnQ (wlOf h.cs q.2.2) q.1).1 (lnQ (wlOf h.cs q.2.2) q.1).2,Bo (lnO (wlOf h.cs q.2.2) q.1)],[]⟩)
theorem Zu5 {h:Hal} {k:Nat} (hk:k<h.cs.length) (r:Ry) (last:Int):rLn h [h.av,r.av last,I k]=some ⟨.tup [P2 (lnQ (wlOf h.cs k) r).1 (lnQ (wlOf h.cs k) r).2,Bo (lnO (wlOf h.cs k) r)],[]⟩ :=
 Yp (p:=fun q:Ry × Int × Nat=>q.2.2<h.cs.length) (g:=fun q=>[h.av,q.1.av q.2.1,I q.2.2]) (r:=fun q=>⟨.tup [P2 (lnQ (wlOf h.cs q.2.2) q.1).1 (lnQ (wlOf h.cs q.2.2) q.1).2,Bo (lnO (wlOf h.cs q.2.2) q.1)],[]⟩) (k:=(r,last,k)) (fun j hj=>by
  obtain ⟨⟨a,b,c,d⟩,l,m⟩:=j
  obtain ⟨a',b',c',d'⟩:=r
  simp only [Rj,Tm,Oy,true_and,and_true] at hj
  obtain ⟨⟨rfl,rfl,rfl,rfl,rfl⟩,e⟩:=hj
  rw [Pp e]) hk
theorem Zwi {h:Hal} (hf:h.few) {pt:PC} (hp:PCOK Tryz.prog pt):PCOK Tryz.prog (ins 101 (rLn h) pt):=Xj (fun q hq=>e101 hf hq q.1 q.2.1) hp
def byR (cs:List (Int × Int)) (r:Ry) (last:Int) (s:Int × Int):Bool:=decide (last<0)||(lnO (wlOf cs last.toNat) r&&lsW (lnQ (wlOf cs last.toNat) r) s)
theorem e102 {h:Hal} (hf:h.few) (r:Ry) {last:Int} (hl:last<h.cs.length) (a b:Int):PCall Tryz.prog 102 [h.av,r.av last,P2 a b] ⟨Bo (byR h.cs r last (a,b)),[]⟩:=by
 have hk0:PCOK Tryz.prog (ins 101 (rLn h) (ins 80 rLs pt0)):=Zwi hf (Zto Zf)
 obtain ⟨x,y,dx,dy⟩:=r
 unfold byR
 by_cases c:last<0
 ·rw [decide_eq_true c]
  refine bs.pv (sx:=nos) hk0 Tryz.func102 (by kernel_rfl) (by kernel_rfl) rfl ?_
  repeat'(first|refine wk3 ?_|(refine wk2 ?_ ?_<;>intro _)|refine wk4 ?_|fail);all_goals(conv=>whnf)
  all_goals first|exact Zd rfl|(exfalso; simp_all; done)
 ·rw [decide_eq_false c,Wn]
  obtain ⟨k,rfl⟩:∃ k:Nat,last=k:=⟨last.toNat,by omega⟩
  rw [Sj]
  have c1:=Zu5 (h:=h) (k:=k) (by omega) ⟨x,y,dx,dy⟩ k
  generalize lnQ (wlOf h.cs k) ⟨x,y,dx,dy⟩=q at *
  generalize lnO (wlOf h.cs k) ⟨x,y,dx,dy⟩=o at *
  obtain ⟨q1,q2⟩:=q
  cases o
  all_goals
   refine bs.pv (sx:=nos) hk0 Tryz.func102 (by kernel_rfl) (by kernel_rfl) rfl ?_
   repeat'(first|refine wk3 ?_|(refine wk2 ?_ ?_<;>intro _)|refine wk4 ?_|fail);all_goals(conv=>whnf)
   all_goals first|exact Zd rfl|exact Zd (by simp_all)|(exfalso; simp_all; done)
theorem Zg0 {cs:List (Int × Int)} {r:Ry} {fr:Int × Int} {last:Int} {k:Nat} (e:htW (wlOf cs k) r=none):Zx cs r fr last k=none:=by
 unfold Zx
 rw [e]
 split<;>rfl
theorem Zl2 {cs:List (Int × Int)} {r:Ry} {fr:Int × Int} {last:Int} (B:Bh cs r fr last) {k:Nat} {x:Ht} (e:htW (wlOf cs k) r=some x) :
  Zx cs r fr last k=if x.on=true/\fr.1*x.de<x.nu*fr.2 then some ⟨k,x.nu,x.de,x.well⟩ else none:=by
 unfold Zx
 rw [e]
 dsimp only
 split
 ·rename_i hl
  rcases B.last with ⟨h1,_⟩|⟨i,hi,h1,h2,y,hy,h3,h4⟩
  ·omega
  ·have:i=k:=by omega
   subst this
   rw [e] at hy
   cases hy
   rw [if_neg (by rw [<-h3,<-h4]; omega)]
 ·rfl
theorem Zyc {h:Hal} (g:h.fine) {r:Ry} (b:RyB r) {fr:Int × Int} {last:Int} (B:Bh h.cs r fr last) {n:Int} (hn:0<n/\n<=10000) {x:Ht} (hx:HtB n x) (hp:0<x.nu):byR h.cs r last (n*x.nu,n*x.de)=decide (fr.1*x.de<x.nu*fr.2):=by
 unfold byR
 rcases B.last with ⟨rfl,rfl⟩|⟨i,hi,rfl,h2,y,hy,h3,h4⟩
 ·rw [show decide ((-1:Int)<0)=true from rfl,Bool.true_or,decide_eq_true (by dsimp only; omega)]
 ·obtain ⟨m,sx,sy,hs⟩:=g.st i hi
  rw [Zbi hs] at hy
  obtain ⟨q1,q2⟩:=Zmo hs b hy
  have hb:=Zlj hs b hy
  rw [Sj,decide_eq_false (by omega),Wn,q1,q2,decide_eq_true (by omega),Tk,Ztt ⟨hs.hn,hs.nle⟩ hn hb.nu hb.de hx.nu hx.de,h3,h4]
abbrev hit0:AV:=.agg [I 0,I 0,I 0,Bo false]
abbrev hitA (cs:List (Int × Int)) (c:Cd):AV:=.agg [I ((wlOf cs c.i).ln.n*c.nu),I ((wlOf cs c.i).ln.n*c.de),I (c.i:Int),Bo c.well]
def mtV (cs:List (Int × Int)):Option Cd->PRes
 | none=>⟨.tup [hit0,Bo false],[]⟩
 | some c=>⟨.tup [hitA cs c,Bo true],[]⟩
theorem Zvl {cs:List (Int × Int)} {r:Ry} {fr:Int × Int} {last:Int} (B:Bh cs r fr last) (h:0<cs.length):last<cs.length:=by
 rcases B.last with ⟨rfl,_⟩|⟨i,hi,rfl,_⟩<;>omega
theorem e79 {h:Hal} (hf:h.few) (g:h.fine) {r:Ry} (b:RyB r) {fr:Int × Int} {last:Int} (B:Bh h.cs r fr last) {k:Nat} (hk:k<h.cs.length):PCall Tryz.prog 79 [h.av,r.av last,I k] (mtV h.cs (Zx h.cs r fr last k)):=by
 obtain ⟨n,sx,sy,hs⟩:=g.st k hk
 have c1:=e101 hf hk r last
 have c2:=e162 hf hk
 have hl:=Zvl B (by omega)
 have hnn:0<n/\n<=10000:=⟨hs.hn,hs.nle⟩
 cases hx:htN (wlOf h.cs k) n sx sy r with
 | none =>
  rw [Zg0 (by rw [Zbi hs]; exact hx)]
  rw [Zsb hs b hx] at c1
  generalize lnQ (wlOf h.cs k) r=q at *
  obtain ⟨q1,q2⟩:=q
  have hk0:=Zc c1 Zf
  clear hx c1 c2 B b
  obtain ⟨x,y,dx,dy⟩:=r
  refine bs.pv (sx:=nos) hk0 Tryz.func79 (by kernel_rfl) (by kernel_rfl) rfl ?_
  repeat'(first|refine wk3 ?_|(refine wk2 ?_ ?_<;>intro _)|refine wk4 ?_|fail);all_goals(conv=>whnf)
  all_goals first|exact Ze rfl rfl|(exfalso; simp_all; done)
 | some x =>
  rw [Zl2 B (by rw [Zbi hs]; exact hx)]
  obtain ⟨e1,e2⟩:=Zmo hs b hx
  rw [e1,e2] at c1
  have hb:=Zlj hs b hx
  by_cases hp:0<x.nu
  ·rw [decide_eq_true hp] at c1
   have c3:=e102 hf r hl (n*x.nu) (n*x.de)
   rw [Zyc g b B hnn hb hp] at c3
   by_cases hc:fr.1*x.de<x.nu*fr.2
   ·rw [decide_eq_true hc] at c3
    have s:=Zrz hs b
    obtain ⟨w1,w2⟩:=Zuo hs hx
    have hln:(wlOf h.cs k).ln.n=n:=hs.ln.2.2.1
    have hres:mtV h.cs (if x.on=true/\fr.1*x.de<x.nu*fr.2 then some ⟨k,x.nu,x.de,x.well⟩ else none)=if x.on=true then ⟨.tup [.agg [I (n*x.nu),I (n*x.de),I (k:Int),Bo x.well],Bo true],[]⟩ else ⟨.tup [hit0,Bo false],[]⟩:=by
     by_cases ho:x.on=true
     ·rw [if_pos ⟨ho,hc⟩,if_pos ho]
      show (⟨.tup [.agg [I ((wlOf h.cs k).ln.n*x.nu),I ((wlOf h.cs k).ln.n*x.de),I (k:Int),Bo x.well],Bo true],[]⟩:PRes)=_
      rw [hln]
     ·rw [if_neg (fun q=>ho q.1),if_neg ho]; rfl
    rw [hres]
    have hk0:=Zc c1 (Zc c3 (Zc c2 Zjw))
    rw [<-s.1,<-s.2] at w1 w2
    generalize n*x.nu=U at *
    generalize n*x.de=V at *
    clear hres hs hx s b B c1 c2 c3 hb e1 e2 hf g
    generalize wlOf h.cs k=w at *
    obtain ⟨x0,y0,dx,dy⟩:=r
    obtain ⟨wn,fx,fy,tx,ty⟩:=w
    dsimp only at w1 w2 hk0
    cases ho:x.on with
    | false =>
     rw [ho] at w1
     have w1:=Decidable.not_not.1 (fun q=>by have:=w1.2 q; cases this)
     rw [if_neg (by decide)]
     clear w2 hln ho
     refine bs.pv (sx:=nos) hk0 Tryz.func79 (by kernel_rfl) (by kernel_rfl) rfl ?_
     repeat'(first|refine wk3 ?_|(refine wk2 ?_ ?_<;>intro _)|refine wk4 ?_|fail);all_goals(conv=>whnf)
     all_goals first|exact Ze rfl rfl|(refine Ze ?_ rfl; simp_all; done)|(refine Ze ?_ rfl; simp_all; omega)|(exfalso; simp only [decide_eq_true_eq,decide_eq_false_iff_not,Rz,Pk] at *; omega)
    | true =>
     have w1:=w1.1 ho
     have w2:=w2 ho
     rw [if_pos rfl]
     cases hw:x.well with
     | true =>
      rw [hw] at w2
      have w2:=w2.1 rfl
      clear hln ho hw
      refine bs.pv (sx:=nos) hk0 Tryz.func79 (by kernel_rfl) (by kernel_rfl) rfl ?_
      repeat'(first|refine wk3 ?_|(refine wk2 ?_ ?_<;>intro _)|refine wk4 ?_|fail);all_goals(conv=>whnf)
      all_goals first|exact Ze rfl rfl|(refine Ze ?_ rfl; simp_all; done)|(refine Ze ?_ rfl; simp_all; omega)|(exfalso; simp only [decide_eq_true_eq,decide_eq_false_iff_not,Rz,Pk] at *; omega)
     | false =>
      rw [hw] at w2
      have w2:¬ _:=fun q=>by have:=w2.2 q; cases this
      clear hln ho hw
      refine bs.pv (sx:=nos) hk0 Tryz.func79 (by kernel_rfl) (by kernel_rfl) rfl ?_
      repeat'(first|refine wk3 ?_|(refine wk2 ?_ ?_<;>intro _)|refine wk4 ?_|fail);all_goals(conv=>whnf)
      all_goals first|exact Ze rfl rfl|(refine Ze ?_ rfl; simp_all; done)|(refine Ze ?_ rfl; simp_all; omega)|(exfalso; simp only [decide_eq_true_eq,decide_eq_false_iff_not,Rz,Pk] at *; omega)
   ·rw [decide_eq_false hc] at c3
    rw [if_neg (fun q=>hc q.2)]
    have hk0:=Zc c1 (Zc c3 Zf)
    clear c1 c2 c3 b B hx e1 e2 hb
    generalize n*x.nu=U at *
    generalize n*x.de=V at *
    obtain ⟨x0,y0,dx,dy⟩:=r
    refine bs.pv (sx:=nos) hk0 Tryz.func79 (by kernel_rfl) (by kernel_rfl) rfl ?_
    repeat'(first|refine wk3 ?_|(refine wk2 ?_ ?_<;>intro _)|refine wk4 ?_|fail);all_goals(conv=>whnf)
    all_goals first|exact Ze rfl rfl|(exfalso; simp_all; done)
  ·rw [decide_eq_false hp] at c1
   rw [if_neg (fun q=>by
    have p1:=Pg B.pos.1 (show 0<=x.de by have:=hb.de; omega)
    have p2:0<x.nu*fr.2:=by omega
    exact hp (Lt p2 (by have:=B.pos.2; omega)))]
   have hk0:=Zc c1 Zf
   clear c1 c2 b B hx e1 e2 hb
   generalize n*x.nu=U at *
   generalize n*x.de=V at *
   obtain ⟨x0,y0,dx,dy⟩:=r
   refine bs.pv (sx:=nos) hk0 Tryz.func79 (by kernel_rfl) (by kernel_rfl) rfl ?_
   repeat'(first|refine wk3 ?_|(refine wk2 ?_ ?_<;>intro _)|refine wk4 ?_|fail);all_goals(conv=>whnf)
   all_goals first|exact Ze rfl rfl|(exfalso; simp_all; done)
theorem Zut {w:Wl} {n sx sy:Int} (h:Str w n sx sy):(Qa Qb (w.ty-w.fy)=0↔sy=0)/\(Qa Qb (w.tx-w.fx)=0↔sx=0)/\(Qa Qb (w.tx-w.fx)=Qa Qb (w.ty-w.fy)↔sx=sy):=by
 have d1:Qa Qb (w.tx-w.fx)=n*sx:=h.dx
 have d2:Qa Qb (w.ty-w.fy)=n*sy:=h.dy
 have hn:=h.hn
 rw [d1,d2]
 refine ⟨⟨fun e=>?_,fun e=>by rw [e,Rv]⟩,⟨fun e=>?_,fun e=>by rw [e,Rv]⟩,⟨fun e=>?_,fun e=>by rw [e]⟩⟩
 ·rcases Og.1 e with e|e<;>omega
 ·rcases Og.1 e with e|e<;>omega
 ·exact Int.eq_of_mul_eq_mul_left (by omega) e
def sm6 (n:Int):Prop:=-1000000<=n/\n<=1000000
theorem e82 {h:Hal} (hf:h.few) {k:Nat} (hk:k<h.cs.length) {n sx sy:Int} (hs:Str (wlOf h.cs k) n sx sy) {x y:Int} (hx:sm6 x) (hy:sm6 y):PCall Tryz.prog 82 [h.av,I k,P2 x y] ⟨P2 (mvD sx sy x y).1 (mvD sx sy x y).2,[]⟩:=by
 have hk0:=Zc (e162 hf hk) Zjw
 obtain ⟨d1,d2,d3⟩:=Zut hs
 unfold mvD
 have ex:Qa Qb (0-x) = -x:=by obtain ⟨a,b⟩:=hx; rw [W_eq (by omega) (by omega)]; omega
 have ey:Qa Qb (0-y) = -y:=by obtain ⟨a,b⟩:=hy; rw [W_eq (by omega) (by omega)]; omega
 rw [<-ex,<-ey]
 clear hs hx hy ex ey
 generalize wlOf h.cs k=w at *
 obtain ⟨wn,fx,fy,tx,ty⟩:=w
 dsimp only at d1 d2 d3 hk0
 by_cases c1:sy=0
 ·rw [if_pos c1]
  have t1:=d1.2 c1
  clear d1 d2 d3 c1
  refine bs.pv (sx:=nos) hk0 Tryz.func82 (by kernel_rfl) (by kernel_rfl) rfl ?_
  repeat'(first|refine wk3 ?_|(refine wk2 ?_ ?_<;>intro _)|refine wk4 ?_|fail);all_goals(conv=>whnf)
  all_goals first|exact Ze rfl rfl|(exfalso; simp_all; done)
 ·rw [if_neg c1]
  have t1:¬ _:=fun q=>c1 (d1.1 q)
  by_cases c2:sx=0
  ·rw [if_pos c2]
   have t2:=d2.2 c2
   clear d1 d2 d3 c1 c2
   refine bs.pv (sx:=nos) hk0 Tryz.func82 (by kernel_rfl) (by kernel_rfl) rfl ?_
   repeat'(first|refine wk3 ?_|(refine wk2 ?_ ?_<;>intro _)|refine wk4 ?_|fail);all_goals(conv=>whnf)
   all_goals first|exact Ze rfl rfl|(exfalso; simp_all; done)
  ·rw [if_neg c2]
   have t2:¬ _:=fun q=>c2 (d2.1 q)
   by_cases c3:sx=sy
   ·rw [if_pos c3]
    have t3:=d3.2 c3
    clear d1 d2 d3 c1 c2 c3
    refine bs.pv (sx:=nos) hk0 Tryz.func82 (by kernel_rfl) (by kernel_rfl) rfl ?_
    repeat'(first|refine wk3 ?_|(refine wk2 ?_ ?_<;>intro _)|refine wk4 ?_|fail);all_goals(conv=>whnf)
    all_goals first|exact Ze rfl rfl|(exfalso; simp_all; done)
   ·rw [if_neg c3]
    have t3:¬ _:=fun q=>c3 (d3.1 q)
    clear d1 d2 d3 c1 c2 c3
    refine bs.pv (sx:=nos) hk0 Tryz.func82 (by kernel_rfl) (by kernel_rfl) rfl ?_
    repeat'(first|refine wk3 ?_|(refine wk2 ?_ ?_<;>intro _)|refine wk4 ?_|fail);all_goals(conv=>whnf)
    all_goals first|exact Ze rfl rfl|(exfalso; simp_all; done)
theorem Zwr (sx sy x y m:Int) (hx : -m<=x/\x<=m) (hy : -m<=y/\y<=m):(-m<=(mvD sx sy x y).1/\(mvD sx sy x y).1<=m)/\(-m<=(mvD sx sy x y).2/\(mvD sx sy x y).2<=m):=by
 unfold mvD
 split
 ·dsimp only; omega
 ·split
  ·dsimp only; omega
  ·split<;>dsimp only<;>omega
theorem e81 {h:Hal} (hf:h.few) {k:Nat} (hk:k<h.cs.length) {n sx sy:Int} (hs:Str (wlOf h.cs k) n sx sy) {x y:Int} (hx : -45000<=x/\x<=45000) (hy : -45000<=y/\y<=45000) :
  PCall Tryz.prog 81 [h.av,I k,P2 x y] ⟨P2 ((wlOf h.cs k).fx+(mvD sx sy (x-(wlOf h.cs k).fx) (y-(wlOf h.cs k).fy)).1) ((wlOf h.cs k).fy+(mvD sx sy (x-(wlOf h.cs k).fx) (y-(wlOf h.cs k).fy)).2),[]⟩:=by
 have b1:=hs.b1
 have b2:=hs.b2
 have c1:=e82 hf hk hs (x:=x-(wlOf h.cs k).fx) (y:=y-(wlOf h.cs k).fy) ⟨by omega,by omega⟩ ⟨by omega,by omega⟩
 have hb:=Zwr sx sy (x-(wlOf h.cs k).fx) (y-(wlOf h.cs k).fy) 50000 (by omega) (by omega)
 generalize mvD sx sy (x-(wlOf h.cs k).fx) (y-(wlOf h.cs k).fy)=m at *
 rw [<-W_eq (n:=x-(wlOf h.cs k).fx) (by omega) (by omega),<-W_eq (n:=y-(wlOf h.cs k).fy) (by omega) (by omega)] at c1
 rw [<-W_eq (n:=(wlOf h.cs k).fx+m.1) (by omega) (by omega),<-W_eq (n:=(wlOf h.cs k).fy+m.2) (by omega) (by omega)]
 have hk0:=Zc c1 (Zc (e162 hf hk) Zjw)
 clear hs c1 b1 b2 hb
 generalize wlOf h.cs k=w at *
 obtain ⟨wn,fx,fy,tx,ty⟩:=w
 obtain ⟨m1,m2⟩:=m
 refine bs.pv (sx:=nos) hk0 Tryz.func81 (by kernel_rfl) (by kernel_rfl) rfl ?_
 repeat'(first|refine wk3 ?_|(refine wk2 ?_ ?_<;>intro _)|refine wk4 ?_|fail);all_goals(conv=>whnf)
 exact Ze rfl rfl
theorem e45 {h:Hal} (hf:h.few) {k:Nat} (hk:k<h.cs.length) {n sx sy:Int} (hs:Str (wlOf h.cs k) n sx sy) {r:Ry} (b:RyB r) (last:Int):PCall Tryz.prog 45 [h.av,r.av last,I k] ⟨(rfN (wlOf h.cs k) sx sy r).av k,[]⟩:=by
 have c1:=e81 hf hk hs b.x b.y
 have c2:=e82 hf hk hs (x:=r.dx) (y:=r.dy) ⟨by have:=b.dx; omega,by have:=b.dx; omega⟩ ⟨by have:=b.dy; omega,by have:=b.dy; omega⟩
 unfold rfN
 generalize (wlOf h.cs k).fx+(mvD sx sy (r.x-(wlOf h.cs k).fx) (r.y-(wlOf h.cs k).fy)).1=A at *
 generalize (wlOf h.cs k).fy+(mvD sx sy (r.x-(wlOf h.cs k).fx) (r.y-(wlOf h.cs k).fy)).2=B at *
 generalize mvD sx sy r.dx r.dy=m at *
 obtain ⟨m1,m2⟩:=m
 have hk0:=Zc c1 (Zc c2 Zf)
 clear c1 c2 b hs
 obtain ⟨x,y,dx,dy⟩:=r
 refine bs.pv (sx:=nos) hk0 Tryz.func45 (by kernel_rfl) (by kernel_rfl) rfl ?_
 repeat'(first|refine wk3 ?_|(refine wk2 ?_ ?_<;>intro _)|refine wk4 ?_|fail);all_goals(conv=>whnf)
 exact Ze rfl rfl
noncomputable abbrev rMt (h:Hal) (r:Ry) (fr:Int × Int) (last:Int):List AV->Option PRes:=famA (fun k:Nat=>k<h.cs.length) (fun k=>[h.av,r.av last,I k]) (fun k=>mtV h.cs (Zx h.cs r fr last k))
theorem Zu1 {h:Hal} {r:Ry} {fr:Int × Int} {last:Int} {k:Nat} (hk:k<h.cs.length):rMt h r fr last [h.av,r.av last,I k]=some (mtV h.cs (Zx h.cs r fr last k)) :=
 Yp (p:=fun k:Nat=>k<h.cs.length) (g:=fun k=>[h.av,r.av last,I k]) (r:=fun k=>mtV h.cs (Zx h.cs r fr last k)) (k:=k) (fun j hj=>by
  simp only [Rj,Tm,true_and,and_true] at hj
  rw [Pp hj]) hk
structure CdB (cs:List (Int × Int)) (c:Cd):Prop where
 n:0<(wlOf cs c.i).ln.n/\(wlOf cs c.i).ln.n<=10000
 nu : -100000<=c.nu/\c.nu<=100000
 de:0<c.de/\c.de<=200000
theorem Zxl {h:Hal} (g:h.fine) {r:Ry} (b:RyB r) {fr:Int × Int} {last:Int} {k:Nat} (hk:k<h.cs.length) {c:Cd} (e:Zx h.cs r fr last k=some c):CdB h.cs c:=by
 obtain ⟨x,x1,x2,x3,rfl,x5⟩:=Zed e
 obtain ⟨n,sx,sy,hs⟩:=g.st k hk
 rw [Zbi hs] at x1
 have hb:=Zlj hs b x1
 exact ⟨by dsimp only; rw [hs.ln.2.2.1]; exact ⟨hs.hn,hs.nle⟩,hb.nu,hb.de⟩
theorem Zvi {cs:List (Int × Int)} {a b:Cd} (ha:CdB cs a) (hb:CdB cs b):lsW ((wlOf cs a.i).ln.n*a.nu,(wlOf cs a.i).ln.n*a.de) ((wlOf cs b.i).ln.n*b.nu,(wlOf cs b.i).ln.n*b.de)=decide (Zfi a b):=Ztt ha.n hb.n ha.nu ha.de hb.nu hb.de
def hcl (cs:List (Int × Int)):Option Cd->List AV
 | none=>[I 0,I 0,I 0,Bo false]
 | some c=>[I ((wlOf cs c.i).ln.n*c.nu),I ((wlOf cs c.i).ln.n*c.de),I (c.i:Int),Bo c.well]
theorem e44 {h:Hal} (hf:h.few) (g:h.fine) {r:Ry} (b:RyB r) {fr:Int × Int} {last:Int} (B:Bh h.cs r fr last):PCall Tryz.prog 44 [h.av,r.av last] (mtV h.cs (bstP (Zx h.cs r fr last) h.cs.length)):=by
 have hk0:PCOK Tryz.prog (ins 79 (rMt h r fr last) (ins 80 rLs pt0)):=Xj (fun k hk=>e79 hf g b B hk) (Zto Zf)
 have hl3:h.cs.length<1000:=hf.2.1
 have len:(h.cs.map pt).length=h.cs.length:=by simp
 have hb:∀ k,k<h.cs.length->∀ c,Zx h.cs r fr last k=some c->CdB h.cs c:=fun k hk c e=>Zxl g b hk e
 have hbm:∀ k,k<=h.cs.length->∀ c,bstP (Zx h.cs r fr last) k=some c->CdB h.cs c:=fun k hk c e=>by
  obtain ⟨i,hi,e2⟩:=Zcx e
  exact hb i (by omega) c e2
 have hit:=fun k hk=>Zu1 (h:=h) (r:=r) (fr:=fr) (last:=last) (k:=k) hk
 generalize Zx h.cs r fr last=f at *
 clear B b
 obtain ⟨x,y,dx,dy⟩:=r
 refine bs.pv (sx:=nos) hk0 Tryz.func44 (by kernel_rfl) (by kernel_rfl) (by cases bstP f h.cs.length<;>rfl) ?_
 unfold Zdu
 conv=>whnf
 refine Yj (S:=Nat × Int × Option Cd) (fun t=>h.cs.length-t.1)
  (fun t=>[(2,.ptr 0 0 0),(3,.ptr 1 0 0),(4,.ptr 2 0 0),(5,Bo false),(6,.ptr 3 0 0),(7,Bo t.2.2.isSome),(14,I (h.cs.map pt).length),(15,I t.2.1)])
  (fun t=>[(3,.row 4 [hcl h.cs t.2.2] true false),(2,.row 4 [[I 0,I 0,I 0,Bo false]] true false),(1,.row 5 [[I x,I y,I dx,I dy,I last]] true false),(0,.row 9 [h.cells] true false)]) 4 4
  (fun t=>t.2.1=t.1/\t.1<=h.cs.length/\t.2.2=bstP f t.1) (0,0,none) ⟨rfl,Qm _,rfl⟩ (Qg _) [] rfl (kps) (kps) ?_
 rintro ⟨k,i,acc⟩ ⟨hi,hk,ha⟩
 dsimp only at hi hk ha ⊢
 subst hi
 by_cases hlt:k<h.cs.length
 ·have c1:=hit k hlt
  have hst:bstP f (k+1)=stP acc (f k):=by rw [bstP,<-ha]
  have hB:=hb k hlt
  have hA:=fun c e=>hbm k hk c (by rw [<-ha]; exact e)
  clear ha hit hb hbm
  generalize f k=o at *
  cases o with
  | none =>
   have hst:bstP f (k+1)=acc:=by rw [hst]; cases acc<;>rfl
   change _=some (⟨.tup [hit0,Bo false],[]⟩:PRes) at c1
   cases acc<;>refine bs.av (sx:=nos) hk0 ?_<;>repeat'(first|refine wk3 ?_|(refine wk2 ?_ ?_<;>intro _)|refine wk4 ?_|fail);all_goals(conv=>whnf)
   all_goals exact Qr ⟨(k+1,_,_),[],rfl,kps,kps,⟨Zh (by omega),hlt,hst.symm⟩,by dsimp only; omega⟩
  | some c =>
   change _=some (⟨.tup [hitA h.cs c,Bo true],[]⟩:PRes) at c1
   cases acc with
   | none =>
    refine bs.av (sx:=nos) hk0 ?_
    repeat'(first|refine wk3 ?_|(refine wk2 ?_ ?_<;>intro _)|refine wk4 ?_|fail);all_goals(conv=>whnf)
    exact Qr ⟨(k+1,_,some c),[],rfl,kps,kps,⟨Zh (by omega),hlt,hst.symm⟩,by dsimp only; omega⟩
   | some b =>
    have e:=Zvi (hB c rfl) (hA b rfl)
    by_cases hl:Zfi c b
    ·rw [decide_eq_true hl] at e
     have hst:bstP f (k+1)=some c:=by rw [hst]; exact if_pos hl
     refine bs.av (sx:=nos) hk0 ?_
     repeat'(first|refine wk3 ?_|(refine wk2 ?_ ?_<;>intro _)|refine wk4 ?_|fail);all_goals(conv=>whnf)
     all_goals first|(exfalso; rename_i q; rw [e] at q; cases q; done)|exact Qr ⟨(k+1,_,some c),[],rfl,kps,kps,⟨Zh (by omega),hlt,hst.symm⟩,by dsimp only; omega⟩
    ·rw [decide_eq_false hl] at e
     have hst:bstP f (k+1)=some b:=by rw [hst]; exact if_neg hl
     refine bs.av (sx:=nos) hk0 ?_
     repeat'(first|refine wk3 ?_|(refine wk2 ?_ ?_<;>intro _)|refine wk4 ?_|fail);all_goals(conv=>whnf)
     all_goals first|(exfalso; rename_i q; rw [e] at q; cases q; done)|exact Qr ⟨(k+1,_,some b),[],rfl,kps,kps,⟨Zh (by omega),hlt,hst.symm⟩,by dsimp only; omega⟩
 ·obtain rfl:k=h.cs.length:=by omega
  rw [<-ha]
  cases acc
  all_goals
   refine bs.av (sx:=nos) hk0 ?_
   repeat'(first|refine wk3 ?_|(refine wk2 ?_ ?_<;>intro _)|refine wk4 ?_|fail);all_goals(conv=>whnf)
   exact Ze rfl rfl
def g4 (p:Pt):Nat:=Wd (Wd p.x.natAbs p.y.natAbs) (Wd p.z.natAbs p.d.natAbs)
structure Pt.wf (p:Pt):Prop where
 x:i64 p.x
 y:i64 p.y
 z:i64 p.z
 d:i64 p.d
theorem Zx5 {p:Pt} (hp:p.wf) (hd:0<p.d):0<g4 p/\(g4 p:Int)<=p.d:=by
 have h1:g4 p ∣ p.d.natAbs:=Nat.dvd_trans (Jw _ _) (Jw _ _)
 have h2:=Nat.le_of_dvd (by omega) h1
 have h3:0<g4 p:=Nat.pos_of_dvd_of_pos h1 (by omega)
 omega
def ptIn (p:Pt):Bool:=within p.x (-(5000*p.d)) (5000*p.d)&&within p.y (-(5000*p.d)) (5000*p.d)&&within p.z (-(5000*p.d)) (5000*p.d)
def Zb2 (p:Pt):Int:=if p.d<=0\/g4 p≠1 then 3 else if 100000<p.d then 2 else if ptIn p then 0 else 2
theorem Znu {p:Pt} (h:Zb2 p=0):0<p.d/\p.d<=100000/\g4 p=1/\ptIn p=true:=by
 unfold Zb2 at h
 split at h
 ·cases h
 ·rename_i h1
  split at h
  ·cases h
  ·split at h
   ·rename_i h3; exact ⟨by omega,by omega,by omega,h3⟩
   ·cases h
theorem Zn9 (a b c d:Nat):Wd (Wd (Wd a b) c) d=Wd (Wd a b) (Wd c d):=by rw [Nat.gcd_assoc (Wd a b)]
def gl:Nat->List Int->Nat
 | g,[]=>g
 | g,n::l=>gl (Wd g n.natAbs) l
theorem c117 {ns:List Int} (hl:ns.length<1000) (hw:∀ n∈ns,i64 n):PCall Tryz.prog 198 [.isl 1 (nl ns)] ⟨I (Qa Qb ((gl 0 ns:Nat):Int)),[]⟩:=by
 have e3:=Xb ns
 refine bs.pv (sx:=nos) Zhv Tryz.func198 (by kernel_rfl) (by kernel_rfl) rfl ?_
 repeat'(first|refine wk1 ?_|(refine wk2 ?_ ?_<;>intro _)|refine wk4 ?_|fail);all_goals(conv=>whnf)
 refine Yj (S:=Nat × Int × Int) (fun t=>ns.length-t.1) (fun t=>[(3,I t.2.2),(6,.isl 1 (nl ns)),(7,I (nl ns).length),(8,I t.2.1)]) (fun _=>[]) 0 0 (fun t=>t.2.1=t.1/\t.1<=ns.length/\i64 t.2.2/\gl t.2.2.natAbs (ns.drop t.1)=gl 0 ns) (0,0,0) ⟨rfl,Qm _,(by unfold i64; decide),rfl⟩ (Qg _) [] rfl (kps) (kps) ?_
 rintro ⟨k,i,g⟩ ⟨hi,hk,hg,hh⟩
 dsimp only at hi hk hg hh ⊢
 subst hi
 refine bs.av (sx:=nos) Zhv ?_
 by_cases hlt:k<ns.length
 ·have e1:=Ze7 hlt
  have hn:=hw _ (List.getElem_mem hlt)
  rw [Qk hlt,gl] at hh
  repeat'(first|refine wk1 ?_|(refine wk2 ?_ ?_<;>intro _)|refine wk4 ?_|fail);all_goals(conv=>whnf)
  refine Yj (S:=Int × Int) (fun t=>t.2.natAbs) (fun t=>[(3,I t.1),(5,I t.2),(6,.isl 1 (nl ns)),(7,I (nl ns).length),(8,I k)]) (fun _=>[]) 0 0 (fun t=>(i64 t.1/\i64 t.2)/\Wd t.1.natAbs t.2.natAbs=Wd g.natAbs ns[k].natAbs) (g,ns[k]) ⟨⟨hg,hn⟩,rfl⟩ (Qg _) [] rfl (kps) (kps) ?_
  rintro ⟨a,b⟩ ⟨⟨ha,hb⟩,hG⟩
  dsimp only at ha hb hG ⊢
  refine bs.av (sx:=nos) Zhv ?_
  by_cases h0:b=0
  ·subst h0
   repeat'(first|refine wk1 ?_|(refine wk2 ?_ ?_<;>intro _)|refine wk4 ?_|fail);all_goals(conv=>whnf)
   exact Qr ⟨(k+1,_,a),[],rfl,kps,kps,⟨Zh (by omega),hlt,ha,by rw [<-hh,<-hG]; simp⟩,by dsimp only; omega⟩
  ·repeat'(first|refine wk1 ?_|(refine wk2 ?_ ?_<;>intro _)|refine wk4 ?_|fail);all_goals(conv=>whnf)
   exact Qr ⟨(b,a.tmod b),[],rfl,kps,kps,⟨⟨hb,Zid ha h0⟩,by rw [<-hG]; exact Ziu⟩,by
    show (a.tmod b).natAbs<b.natAbs
    rw [Pn]; exact We _ (by omega)⟩
 rw [Ql (by omega)] at hh
 repeat'(first|refine wk1 ?_|(refine wk2 ?_ ?_<;>intro _)|refine wk4 ?_|fail);all_goals(conv=>whnf)
 exact Zb (by show size g=_; rw [Zo4 hg,<-hh]; rfl)
theorem Zvd {d:Int} (h0:0<d) (h1:d<=100000):Qa Qb (5000*d)=5000*d/\Qa Qb (0-Qa Qb (5000*d)) = -(5000*d):=by
 have e:Qa Qb (5000*d)=5000*d:=W_eq (by omega) (by omega)
 refine ⟨e,?_⟩
 rw [e,W_eq (by omega) (by omega)]; omega
theorem c99 {p:Pt} (hp:p.wf):PCall Tryz.prog 192 [p.av] ⟨I (Zb2 p),[]⟩:=by
 have hc:=c117 (ns:=[p.x,p.y,p.z,p.d]) (by simp) (by
  intro n hn
  simp only [List.mem_cons,List.not_mem_nil,or_false] at hn
  rcases hn with rfl|rfl|rfl|rfl
  ·exact hp.x
  ·exact hp.y
  ·exact hp.z
  ·exact hp.d)
 have hg:gl 0 [p.x,p.y,p.z,p.d]=g4 p:=by
  simp only [gl,Nat.gcd_zero_left]
  exact Zn9 _ _ _ _
 rw [hg] at hc
 have hk:=Zc hc Zat
 by_cases h1:p.d<=0
 ·have e:Zb2 p=3:=by unfold Zb2; rw [if_pos (.inl h1)]
  rw [e]
  refine bs.pv (sx:=nos) hk Tryz.func192 (by kernel_rfl) (by kernel_rfl) rfl ?_
  repeat'(first|refine wk1 ?_|(refine wk2 ?_ ?_<;>intro _)|refine wk4 ?_|fail);all_goals(conv=>whnf)
  exact Zb rfl
 ·obtain ⟨g1,g2⟩:=Zx5 hp (by omega)
  have hd:=hp.d
  unfold i64 at hd
  have hw:Qa Qb ((g4 p:Nat):Int)=(g4 p:Nat):=W_eq (by omega) (by omega)
  rw [hw] at hk
  by_cases h2:g4 p=1
  ·rw [h2] at hk
   by_cases h3:100000<p.d
   ·have e:Zb2 p=2:=by unfold Zb2; rw [if_neg (by omega),if_pos h3]
    rw [e]
    refine bs.pv (sx:=nos) hk Tryz.func192 (by kernel_rfl) (by kernel_rfl) rfl ?_
    repeat'(first|refine wk1 ?_|(refine wk2 ?_ ?_<;>intro _)|refine wk4 ?_|fail);all_goals(conv=>whnf)
    exact Zb rfl
   ·obtain ⟨m1,m2⟩:=Zvd (d:=p.d) (by omega) (by omega)
    have e:Zb2 p=if ptIn p then 0 else 2:=by unfold Zb2; rw [if_neg (by omega),if_neg h3]
    have e2:∀ x,small x (Qa Qb (5000*p.d))=within x (-(5000*p.d)) (5000*p.d):=fun x=>by unfold small; rw [m2,m1]
    rw [e]
    unfold ptIn
    rw [<-e2,<-e2,<-e2]
    refine bs.pv (sx:=nos) hk Tryz.func192 (by kernel_rfl) (by kernel_rfl) rfl ?_
    repeat'(first|refine wk1 ?_|(refine wk2 ?_ ?_<;>intro _)|refine wk4 ?_|fail);all_goals(conv=>whnf)
    all_goals (clear hk hc m1 m2 e2)
    all_goals exact Zb (by simp_all [unl])
  ·have e:Zb2 p=3:=by unfold Zb2; rw [if_pos (.inr h2)]
   rw [e]
   have h4:(1:Int)<(g4 p:Nat):=by omega
   refine bs.pv (sx:=nos) hk Tryz.func192 (by kernel_rfl) (by kernel_rfl) rfl ?_
   repeat'(first|refine wk1 ?_|(refine wk2 ?_ ?_<;>intro _)|refine wk4 ?_|fail);all_goals(conv=>whnf)
   all_goals clear hk hc
   all_goals first
    | exact Zb rfl
    | (exfalso; simp_all; done)
    | (exfalso; simp_all; omega)
def insE (h:Hal) (p:Pt):Int:=if h.err=0 then Zb2 p else h.err
theorem Zu7 {p:Pt} (h:Zb2 p=0):PtOk p.x p.y p.d:=by
 obtain ⟨h1,h2,_,h4⟩:=Znu h
 unfold ptIn at h4
 simp only [Qc,within_iff] at h4
 exact ⟨h1,by omega,by omega,by omega⟩
theorem c50 {h:Hal} (hk:h.ok) {p:Pt} (hp:p.wf):PCall Tryz.prog 161 [h.av,p.av] ⟨.tup [Bo (decide (insE h p=0)&&Zav h p),I (insE h p)],[]⟩:=by
 have hk0:=Zc (c76 hk) (Zc (c99 hp) Zf)
 by_cases he:h.err=0
 ·have hi:insE h p=Zb2 p:=by unfold insE; rw [if_pos he]
  rw [hi]
  by_cases hq:Zb2 p=0
  ·have hf:=Ziv hk he
   have e:Zav h p=Zn8 h p.x p.y p.z p.d:=by
    unfold Zav Zn8
    rw [Vp hf.st p.z (Zu7 hq)]
   have hk1:=Zc (c124 hk.f p.x p.y p.z p.d) hk0
   rw [hq,he] at hk1
   rw [hq,e]
   refine bs.pv (sx:=nos) hk1 Tryz.func161 (by kernel_rfl) (by kernel_rfl) rfl ?_
   repeat'(first|refine wk1 ?_|(refine wk2 ?_ ?_<;>intro _)|refine wk4 ?_|fail);all_goals(conv=>whnf)
   exact Ze (by simp) rfl
  ·rw [he] at hk0
   rw [decide_eq_false hq]
   refine bs.pv (sx:=nos) hk0 Tryz.func161 (by kernel_rfl) (by kernel_rfl) rfl ?_
   repeat'(first|refine wk1 ?_|(refine wk2 ?_ ?_<;>intro _)|refine wk4 ?_|fail);all_goals(conv=>whnf)
   exact Ze rfl rfl
 ·have hi:insE h p=h.err:=by unfold insE; rw [if_neg he]
  rw [hi,decide_eq_false he]
  refine bs.pv (sx:=nos) hk0 Tryz.func161 (by kernel_rfl) (by kernel_rfl) rfl ?_
  repeat'(first|refine wk1 ?_|(refine wk2 ?_ ?_<;>intro _)|refine wk4 ?_|fail);all_goals(conv=>whnf)
  exact Ze rfl rfl
abbrev Zw9 (h:Hal):Prop:=(9<h.ws.length/\h.ws.length<=12)\/14<h.ws.length\/14<h.cs.length\/4<h.ms.length\/2<h.ks.length\/3<h.ss.length
def Zht (h:Hal):Bool:=Ya h.nm&&Ya h.fl&&Ya h.ce
def few2 (h:Hal):Bool:=(!decide (Zw9 h)&&Zht h)&&(h.ws.all fewW&&(h.ms.all fewM&&(h.ks.all fewC&&h.ss.all fewS)))
theorem Zvv {h:Hal} (hb:few2 h=true):h.ok:=by
 unfold few2 Zht at hb
 simp only [Qc,Rz,decide_eq_false_iff_not] at hb
 obtain ⟨⟨hL,⟨n1,n2⟩,n3⟩,m2,m1,m3,m4⟩:=hb
 have hL:¬ ((9<h.ws.length/\h.ws.length<=12)\/14<h.ws.length\/14<h.cs.length\/4<h.ms.length\/2<h.ks.length\/3<h.ss.length):=hL
 rw [Qs] at m1 m2 m3 m4
 refine ⟨⟨by omega,by omega,by omega,by omega,by omega,fun c hc=>?_⟩,⟨Zan n1,fun m hm=>Zan (m1 m hm),fun m hm=>?_,fun m hm=>?_,fun m hm=>Zan (m4 m hm)⟩⟩
 ·have:=m3 c hc
  unfold fewC at this
  simp only [Qc,Rz,decide_eq_false_iff_not] at this
  omega
 ·have:=m2 m hm
  unfold fewW at this
  simp only [Qc] at this
  exact Zan this.1.1
 ·have:=m3 m hm
  unfold fewC at this
  simp only [Qc] at this
  exact Zan this.1.1
theorem sh_n {s:ByteArray} (h:Ya s=true):¬ (20:Int)<(s.size:Int):=by
 unfold Ya at h
 simpa using h
theorem p80 (h:Hal):PCall Tryz.prog 8 [h.av] ⟨Bo (few2 h),[]⟩:=by
 have l1:=Zb4 h.ms
 have l2:(h.cs.map pt).length=h.cs.length:=by simp
 have l3:=Vn h.ws
 have l4:=Zcf h.ks
 have l5:=Zbv h.ss
 by_cases hP:Zw9 h
 ·have e0:few2 h=false:=by unfold few2; rw [decide_eq_true hP]; rfl
  rw [e0]
  clear e0
  have hP:(9<h.ws.length/\h.ws.length<=12)\/14<h.ws.length\/14<h.cs.length\/4<h.ms.length\/2<h.ks.length\/3<h.ss.length:=hP
  refine bs.pv (sx:=nos) Zf Tryz.func8 (by kernel_rfl) (by kernel_rfl) rfl ?_
  repeat'(first|refine wk3 ?_|(refine wk2 ?_ ?_<;>intro _)|refine wk4 ?_|fail);all_goals(conv=>whnf)
  all_goals first
   | exact Zd rfl
   | (exfalso; simp_all; omega)
 have hP' : ¬ ((9<h.ws.length/\h.ws.length<=12)\/14<h.ws.length\/14<h.cs.length\/4<h.ms.length\/2<h.ks.length\/3<h.ss.length):=hP
 have hw:h.ws.length<=9\/12<h.ws.length:=by omega
 unfold few2
 rw [decide_eq_false hP,Bool.not_false,Tk]
 clear hP
 by_cases hN:Zht h=true
 rotate_left
 ·have hN:Zht h=false:=by simpa using hN
  rw [hN,Bool.false_and]
  unfold Zht at hN
  rcases hw with hw|hw
  all_goals
   refine bs.pv (sx:=nos) Zf Tryz.func8 (by kernel_rfl) (by kernel_rfl) rfl ?_
   repeat'(first|refine wk3 ?_|(refine wk2 ?_ ?_<;>intro _)|refine wk4 ?_|fail);all_goals(conv=>whnf)
  all_goals first
   | exact Zd rfl
   | (exfalso; simp_all [Ya]; done)
   | (exfalso; simp_all [Ya]; omega)
 rw [hN,Tk]
 unfold Zht at hN
 simp only [Qc] at hN
 obtain ⟨⟨n1,n2⟩,n3⟩:=hN
 have n1:=sh_n n1
 have n2:=sh_n n2
 have n3:=sh_n n3
 generalize hE:(h.ws.all fewW&&(h.ms.all fewM&&(h.ks.all fewC&&h.ss.all fewS)))=R
 rcases hw with hw|hw
 all_goals
  refine bs.pv (sx:=nos) Zf Tryz.func8 (by kernel_rfl) (by kernel_rfl) rfl ?_
  repeat'(first|refine wk3 ?_|(refine wk2 ?_ ?_<;>intro _)|refine wk4 ?_|fail);all_goals(conv=>whnf)
  clear n1 n2 n3
  subst hE
  generalize hV:(h.ms.all fewM&&(h.ks.all fewC&&h.ss.all fewS))=V
  refine Yj (S:=Nat × Int) (fun t=>h.ws.length-t.1) (fun t=>[(1,.ptr 0 0 0),(2,Bo false),(3,I t.2)]) (fun _=>[(0,.row 9 [h.cells] true false)]) 1 1 (fun t=>t.2=t.1/\t.1<=h.ws.length/\((h.ws.drop t.1).all fewW&&V)=(h.ws.all fewW&&V)) (0,0) ⟨rfl,Qm _,rfl⟩ (Qg _) [] rfl (kps) (kps) ?_
  rintro ⟨k,i⟩ ⟨hi,hk,hh⟩
  dsimp only at hi hk hh ⊢
  subst hi
  generalize hB:(h.ws.all fewW&&V)=B at *
  clear hB
  refine bs.av (sx:=nos) Zf ?_
  by_cases hlt:k<h.ws.length
  ·clear hV
   have e1:=Zi4 hlt
   rw [Qk hlt,Oa] at hh
   generalize h.ws[k]=m at *
   have hm:∀ b,fewW m=b->(b&&(h.ws.drop (k+1)).all fewW&&V)=B:=fun b e=>by rw [<-e,Wb]; rw [Wb] at hh; exact hh
   clear hh
   repeat'(first|refine wk3 ?_|(refine wk2 ?_ ?_<;>intro _)|refine wk4 ?_|fail);all_goals(conv=>whnf)
   all_goals clear e1
   all_goals first
    | exact Zd (hm false (by clear hm; simp_all [fewW,Ya]; done))
    | exact Qr ⟨(k+1,_),[],rfl,kps,kps,⟨Zh (by omega),hlt,hm true (by clear hm; simp_all [fewW,Ya]; done)⟩,by dsimp only; omega⟩
  rw [Ql (by omega)] at hh
  have hh:V=B:=hh
  subst hh
  subst hV
  repeat'(first|refine wk3 ?_|(refine wk2 ?_ ?_<;>intro _)|refine wk4 ?_|fail);all_goals(conv=>whnf)
  clear hlt hk
  generalize hV:(h.ks.all fewC&&h.ss.all fewS)=V
  refine Yj (S:=Nat × Int) (fun t=>h.ms.length-t.1) (fun t=>[(1,.ptr 0 0 0),(2,Bo false),(4,I t.2)]) (fun _=>[(0,.row 9 [h.cells] true false)]) 1 1 (fun t=>t.2=t.1/\t.1<=h.ms.length/\((h.ms.drop t.1).all fewM&&V)=(h.ms.all fewM&&V)) (0,0) ⟨rfl,Qm _,rfl⟩ (Qg _) [] rfl (kps) (kps) ?_
  rintro ⟨k,i⟩ ⟨hi,hk,hh⟩
  dsimp only at hi hk hh ⊢
  subst hi
  generalize hB:(h.ms.all fewM&&V)=B at *
  clear hB
  refine bs.av (sx:=nos) Zf ?_
  by_cases hlt:k<h.ms.length
  ·clear hV
   have e1:=Zml hlt
   rw [Qk hlt,Oa] at hh
   generalize h.ms[k]=m at *
   have hm:∀ b,fewM m=b->(b&&(h.ms.drop (k+1)).all fewM&&V)=B:=fun b e=>by rw [<-e,Wb]; rw [Wb] at hh; exact hh
   clear hh
   repeat'(first|refine wk3 ?_|(refine wk2 ?_ ?_<;>intro _)|refine wk4 ?_|fail);all_goals(conv=>whnf)
   all_goals clear e1
   all_goals first
    | exact Zd (hm false (by clear hm; simp_all [fewM,Ya]; done))
    | exact Qr ⟨(k+1,_),[],rfl,kps,kps,⟨Zh (by omega),hlt,hm true (by clear hm; simp_all [fewM,Ya]; done)⟩,by dsimp only; omega⟩
  rw [Ql (by omega)] at hh
  have hh:V=B:=hh
  subst hh
  subst hV
  repeat'(first|refine wk3 ?_|(refine wk2 ?_ ?_<;>intro _)|refine wk4 ?_|fail);all_goals(conv=>whnf)
  clear hlt hk
  generalize hV:h.ss.all fewS=V
  refine Yj (S:=Nat × Int) (fun t=>h.ks.length-t.1) (fun t=>[(1,.ptr 0 0 0),(2,Bo false),(5,I t.2)]) (fun _=>[(0,.row 9 [h.cells] true false)]) 1 1 (fun t=>t.2=t.1/\t.1<=h.ks.length/\((h.ks.drop t.1).all fewC&&V)=(h.ks.all fewC&&V)) (0,0) ⟨rfl,Qm _,rfl⟩ (Qg _) [] rfl (kps) (kps) ?_
  rintro ⟨k,i⟩ ⟨hi,hk,hh⟩
  dsimp only at hi hk hh ⊢
  subst hi
  generalize hB:(h.ks.all fewC&&V)=B at *
  clear hB
  refine bs.av (sx:=nos) Zf ?_
  by_cases hlt:k<h.ks.length
  ·clear hV
   have e1:=Zkv hlt
   rw [Qk hlt,Oa] at hh
   generalize h.ks[k]=m at *
   have e9:=Xb m.hs
   have hm:∀ b,fewC m=b->(b&&(h.ks.drop (k+1)).all fewC&&V)=B:=fun b e=>by rw [<-e,Wb]; rw [Wb] at hh; exact hh
   clear hh
   repeat'(first|refine wk3 ?_|(refine wk2 ?_ ?_<;>intro _)|refine wk4 ?_|fail);all_goals(conv=>whnf)
   all_goals clear e1
   all_goals first
    | exact Zd (hm false (by clear hm; simp_all [fewC,Ya]; done))
    | exact Qr ⟨(k+1,_),[],rfl,kps,kps,⟨Zh (by omega),hlt,hm true (by clear hm; simp_all [fewC,Ya]; done)⟩,by dsimp only; omega⟩
  rw [Ql (by omega)] at hh
  have hh:V=B:=hh
  subst hh
  subst hV
  repeat'(first|refine wk3 ?_|(refine wk2 ?_ ?_<;>intro _)|refine wk4 ?_|fail);all_goals(conv=>whnf)
  clear hlt hk
  refine Yj (S:=Nat × Int) (fun t=>h.ss.length-t.1) (fun t=>[(1,.ptr 0 0 0),(2,Bo false),(6,I t.2)]) (fun _=>[(0,.row 9 [h.cells] true false)]) 1 1 (fun t=>t.2=t.1/\t.1<=h.ss.length/\((h.ss.drop t.1).all fewS)=(h.ss.all fewS)) (0,0) ⟨rfl,Qm _,rfl⟩ (Qg _) [] rfl (kps) (kps) ?_
  rintro ⟨k,i⟩ ⟨hi,hk,hh⟩
  dsimp only at hi hk hh ⊢
  subst hi
  generalize hB:(h.ss.all fewS)=B at *
  clear hB
  refine bs.av (sx:=nos) Zf ?_
  by_cases hlt:k<h.ss.length
  ·have e1:=Zmg hlt
   rw [Qk hlt,Oa] at hh
   generalize h.ss[k]=m at *
   have hm:∀ b,fewS m=b->(b&&(h.ss.drop (k+1)).all fewS)=B:=fun b e=>by rw [<-e]; exact hh
   clear hh
   repeat'(first|refine wk3 ?_|(refine wk2 ?_ ?_<;>intro _)|refine wk4 ?_|fail);all_goals(conv=>whnf)
   all_goals clear e1
   all_goals first
    | exact Zd (hm false (by clear hm; simp_all [fewS,Ya]; done))
    | exact Qr ⟨(k+1,_),[],rfl,kps,kps,⟨Zh (by omega),hlt,hm true (by clear hm; simp_all [fewS,Ya]; done)⟩,by dsimp only; omega⟩
  rw [Ql (by omega)] at hh
  repeat'(first|refine wk3 ?_|(refine wk2 ?_ ?_<;>intro _)|refine wk4 ?_|fail);all_goals(conv=>whnf)
  exact Zd hh
theorem p90 {h:Hal} (hk:h.ok):PCall Tryz.prog 30 [h.av] ⟨I h.err,[]⟩:=by
 refine bs.pv (sx:=nos) (Zc (c65k hk) Zf) Tryz.func30 (by kernel_rfl) (by kernel_rfl) rfl ?_
 repeat'(first|refine wk3 ?_|(refine wk2 ?_ ?_<;>intro _)|refine wk4 ?_|fail);all_goals(conv=>whnf)
 exact Zb rfl
theorem p164 {h:Hal} (hk:h.ok):PCall Tryz.prog 38 [h.av] ⟨I h.err,[]⟩:=by
 refine bs.pv (sx:=nos) (Zc (c63k hk) Zf) Tryz.func38 (by kernel_rfl) (by kernel_rfl) rfl ?_
 repeat'(first|refine wk3 ?_|(refine wk2 ?_ ?_<;>intro _)|refine wk4 ?_|fail);all_goals(conv=>whnf)
 exact Zb rfl
def plcB (x y z:Int):Bool:=within x (-5000) 5000&&within y (-5000) 5000&&within z (-5000) 5000
def plaE (h:Hal) (x y z:Int):Int:=if plcB x y z=true then unl (Zav h ⟨x,y,z,1⟩) 24 else 2
theorem d123 (x y z:Int):PCall Tryz.prog 117 [P3 x y z] ⟨P4 x y z 1,[]⟩:=by
 refine bs.pv (sx:=nos) Zf Tryz.func117 (by kernel_rfl) (by kernel_rfl) rfl ?_
 repeat'(first|refine wk3 ?_|(refine wk2 ?_ ?_<;>intro _)|refine wk4 ?_|fail);all_goals(conv=>whnf)
 all_goals exact Ze rfl rfl
theorem d83 (n:Int):PCall Tryz.prog 83 [I n] ⟨Bo (within n (-5000) 5000),[]⟩:=by
 refine bs.pv (sx:=nos) (Zc (c30 n (-5000) 5000) Zf) Tryz.func83 (by kernel_rfl) (by kernel_rfl) rfl ?_
 repeat'(first|refine wk3 ?_|(refine wk2 ?_ ?_<;>intro _)|refine wk4 ?_|fail);all_goals(conv=>whnf)
 exact Zd rfl
theorem d81 (n:Int):PCall Tryz.prog 42 [I n] ⟨I (unl (within n 0 4) 2),[]⟩:=by
 refine bs.pv (sx:=nos) (Zc (d210 n 0 4) (Zc (d209 (within n 0 4) 2) Zf)) Tryz.func42 (by kernel_rfl) (by kernel_rfl) rfl ?_
 repeat'(first|refine wk3 ?_|(refine wk2 ?_ ?_<;>intro _)|refine wk4 ?_|fail);all_goals(conv=>whnf)
 exact Zb rfl
theorem d68 (n:Int):PCall Tryz.prog 13 [I n] ⟨I (unl (within n 0 4) 2),[]⟩:=by
 refine bs.pv (sx:=nos) (Zc (c30 n 0 4) Zf) Tryz.func13 (by kernel_rfl) (by kernel_rfl) rfl ?_
 repeat'(first|refine wk3 ?_|(refine wk2 ?_ ?_<;>intro _)|refine wk4 ?_|fail);all_goals(conv=>whnf)
 all_goals exact Zb (by simp_all [unl])
theorem Zmd (n:Int):small n 5000=within n (-5000) 5000:=rfl
theorem Zwo {x y z:Int} (c:plcB x y z=true):Zb2 ⟨x,y,z,1⟩=0:=by
 simp only [plcB,Qc,within_iff] at c
 have hg:g4 ⟨x,y,z,1⟩=1:=by
  simp [g4]
 unfold Zb2
 rw [if_neg (by simp [hg]),if_neg (by simp),if_pos]
 unfold ptIn
 simp only [Qc,within_iff]
 simp
 omega
def r86:List AV->Option PRes
 | [.int .i64 n,.int .i64 m]=>some ⟨Bo (small n m),[]⟩
 | _=>none
theorem Zwl {pt:PC} (h:PCOK Tryz.prog pt):PCOK Tryz.prog (ins 77 r86 pt):=Zi (fun a res h=>by unfold r86 at h; split at h<;>cases h; exact d86 _ _) h
def r83:List AV->Option PRes
 | [.int .i64 n]=>some ⟨Bo (within n (-5000) 5000),[]⟩
 | _=>none
theorem Zwm {pt:PC} (h:PCOK Tryz.prog pt):PCOK Tryz.prog (ins 83 r83 pt):=Zi (fun a res h=>by unfold r83 at h; split at h<;>cases h; exact d83 _) h
theorem d79 {h:Hal} (hk:h.ok) (he:h.err=0) (x y z:Int):PCall Tryz.prog 74 [h.av,P3 x y z] ⟨I (plaE h x y z),[]⟩:=by
 have hk0:=Zwl (Zc (d123 x y z) Zf)
 by_cases c:plcB x y z=true
 ·have hp:=Zwo c
  have hi:insE h ⟨x,y,z,1⟩=0:=by unfold insE; rw [if_pos he,hp]
  have hw:Pt.wf ⟨x,y,z,1⟩:=by
   simp only [plcB,Qc,within_iff] at c
   refine ⟨⟨?_,?_⟩,⟨?_,?_⟩,⟨?_,?_⟩,⟨?_,?_⟩⟩<;>dsimp only<;>omega
  have h50:=c50 hk hw
  rw [hi] at h50
  unfold plaE
  rw [if_pos c]
  generalize Zav h ⟨x,y,z,1⟩=b at *
  have hk1:=Zc h50 (Zc (d209 b 24) hk0)
  simp only [plcB,Qc,<-Zmd] at c
  refine bs.pv (sx:=nos) hk1 Tryz.func74 (by kernel_rfl) (by kernel_rfl) rfl ?_
  repeat'(first|refine wk3 ?_|(refine wk2 ?_ ?_<;>intro _)|refine wk4 ?_|fail);all_goals(conv=>whnf)
  all_goals first
   | exact Zb rfl
   | (exfalso; clear hk1 h50 hk0 hp hi; simp_all; done)
 ·unfold plaE
  rw [if_neg c]
  simp only [plcB,<-Zmd] at c
  refine bs.pv (sx:=nos) hk0 Tryz.func74 (by kernel_rfl) (by kernel_rfl) rfl ?_
  repeat'(first|refine wk3 ?_|(refine wk2 ?_ ?_<;>intro _)|refine wk4 ?_|fail);all_goals(conv=>whnf)
  all_goals first
   | exact Zb rfl
   | (exfalso; clear hk0; simp_all; done)
theorem e40 {h:Hal} (hk:h.ok) (he:h.err=0) (x y:Int):PCall Tryz.prog 40 [h.av,P2 x y] ⟨I (plaE h x y 1),[]⟩:=by
 have hk0:=Zc (d79 hk he x y 1) Zf
 refine bs.pv (sx:=nos) hk0 Tryz.func40 (by kernel_rfl) (by kernel_rfl) rfl ?_
 repeat'(first|refine wk3 ?_|(refine wk2 ?_ ?_<;>intro _)|refine wk4 ?_|fail);all_goals(conv=>whnf)
 exact Zb rfl
def Zob (h:Hal) (x y:Int) (t:Tn) (n:Int):Int:=if h.err=0 then fstL [plaE h x y 1,tnE t,unl (within n 0 4) 2] else h.err
def folR (h:Hal) (x y:Int) (t:Tn) (n:Int):Int × List Int:=if Zob h x y t n=0 then (match folL h.cs n.toNat ⟨x,y,t.1,t.2⟩ (0,1) (-1) with
 | none=>(24,[])
 | some l=>(0,l)) else (Zob h x y t n,[])
def frL (cs:List (Int × Int)) (r:Ry) (last:Int):Int × Int:=if last<0 then (0,1) else match htW (wlOf cs last.toNat) r with
 | none=>(0,0)
 | some x=>(x.nu,x.de)
theorem Bh.fr {cs:List (Int × Int)} {r:Ry} {f:Int × Int} {last:Int} (a:Bh cs r f last):frL cs r last=f:=by
 unfold frL
 rcases a.last with ⟨h1,h2⟩|⟨i,hi,h1,h2,x,hx,h3,h4⟩
 ·rw [if_pos (by omega),h2]
 ·rw [if_neg (by omega),h1,Sj,hx]
  exact Prod.ext h3 h4
theorem Ztm {r q:Ry} {l m:Int} (h:r.av l=q.av m):r=q/\l=m:=by
 obtain ⟨a,b,c,d⟩:=r
 obtain ⟨a',b',c',d'⟩:=q
 simp only [Rj,Tm,Oy,true_and,and_true] at h
 obtain ⟨rfl,rfl,rfl,rfl,rfl⟩:=h
 exact ⟨rfl,rfl⟩
noncomputable abbrev rNx (h:Hal):List AV->Option PRes:=famA (fun q:Ry × Int=>RyB q.1/\Bh h.cs q.1 (frL h.cs q.1 q.2) q.2) (fun q=>[h.av,q.1.av q.2]) (fun q=>mtV h.cs (bstP (Zx h.cs q.1 (frL h.cs q.1 q.2) q.2) h.cs.length))
theorem Zu0 {h:Hal} {r:Ry} (b:RyB r) {fr:Int × Int} {last:Int} (B:Bh h.cs r fr last):rNx h [h.av,r.av last]=some (mtV h.cs (bstP (Zx h.cs r fr last) h.cs.length)):=by
 have e:=B.fr
 subst e
 exact Yp (p:=fun q:Ry × Int=>RyB q.1/\Bh h.cs q.1 (frL h.cs q.1 q.2) q.2) (g:=fun q=>[h.av,q.1.av q.2]) (r:=fun q=>mtV h.cs (bstP (Zx h.cs q.1 (frL h.cs q.1 q.2) q.2) h.cs.length)) (k:=(r,last)) (fun j hj=>by
  obtain ⟨e1,e2⟩:=Ztm (Qz (Qz hj).2).1
  rw [e1,e2]) ⟨b,B⟩
noncomputable abbrev rRf (h:Hal):List AV->Option PRes:=famA (fun q:Ry × Int × Nat=>RyB q.1/\q.2.2<h.cs.length) (fun q=>[h.av,q.1.av q.2.1,I q.2.2]) (fun q=>⟨(rfW (wlOf h.cs q.2.2) q.1).av q.2.2,[]⟩)
theorem Zuz {h:Hal} {r:Ry} (b:RyB r) {k:Nat} (hk:k<h.cs.length) (last:Int):rRf h [h.av,r.av last,I k]=some ⟨(rfW (wlOf h.cs k) r).av k,[]⟩ :=
 Yp (p:=fun q:Ry × Int × Nat=>RyB q.1/\q.2.2<h.cs.length) (g:=fun q=>[h.av,q.1.av q.2.1,I q.2.2]) (r:=fun q=>⟨(rfW (wlOf h.cs q.2.2) q.1).av q.2.2,[]⟩) (k:=(r,last,k)) (fun j hj=>by
  obtain ⟨e1,e2⟩:=Ztm (Qz (Qz hj).2).1
  have e3:=(AV.int.inj (Qz (Qz (Qz hj).2).2).1).2
  rw [e1,Pp e3]) ⟨b,hk⟩
theorem Zwd {h:Hal} (hf:h.few) (g:h.fine) {pt:PC} (hp:PCOK Tryz.prog pt):PCOK Tryz.prog (ins 45 (rRf h) pt):=Xj (fun q hq=>by
 obtain ⟨n,sx,sy,hs⟩:=g.st q.2.2 hq.2
 rw [Zho hs]
 exact e45 hf hq.2 hs hq.1 q.2.1) hp
theorem Zwe {h:Hal} (hf:h.few) (g:h.fine) {pt:PC} (hp:PCOK Tryz.prog pt):PCOK Tryz.prog (ins 44 (rNx h) pt):=Xj (fun q hq=>e44 hf g hq.1 hq.2) hp
theorem Zta {t:Tn} (h:tnE t=0):(-100000<=t.1/\t.1<=100000)/\(-100000<=t.2/\t.2<=100000):=by
 unfold tnE at h
 rw [Zig,Zig] at h
 cases h1:within t.1 (-100000) 100000<;>cases h2:within t.2 (-100000) 100000<;>rw [h1,h2] at h
 ·exfalso; revert h; cases decide (gcW t.1 t.2=1)<;>decide
 ·exfalso; revert h; cases decide (gcW t.1 t.2=1)<;>decide
 ·exfalso; revert h; cases decide (gcW t.1 t.2=1)<;>decide
 ·exact ⟨within_iff.1 h1,within_iff.1 h2⟩
theorem Zjl {h:Hal} {x y z:Int} (e:plaE h x y z=0):((-5000<=x/\x<=5000)/\(-5000<=y/\y<=5000)/\(-5000<=z/\z<=5000))/\Zav h ⟨x,y,z,1⟩=true:=by
 unfold plaE at e
 split at e
 ·rename_i c
  simp only [plcB,Qc,within_iff] at c
  refine ⟨⟨c.1.1,c.1.2,c.2⟩,Xu e (by decide)⟩
 ·omega
theorem fst3 {a b c:Int} (h:fstL [a,b,c]=0):a=0/\b=0/\c=0:=by
 simp only [fstL] at h
 by_cases ha:a=0
 ·by_cases hb:b=0
  ·by_cases hc:c=0
   ·exact ⟨ha,hb,hc⟩
   ·rw [if_neg (by omega),if_neg (by omega),if_pos hc] at h; omega
  ·rw [if_neg (by omega),if_pos hb] at h; omega
 ·rw [if_pos ha] at h; omega
theorem frT {bl:List (Nat × List (List AV))} {e:Int}:Frz bl (.tup [.nils,I e]) (.tup [.isl 1 (nl []),I e]):=⟨rfl,⟨rfl,rfl⟩,trivial⟩
theorem e9 {h:Hal} (hk:h.ok) (x y:Int) {t:Tn} (h1:i64 t.1) (h2:i64 t.2) (n:Int):PCall Tryz.prog 9 [h.av,P2 x y,P2 t.1 t.2,I n] ⟨.tup [.isl 1 (nl (folR h x y t n).2),I (folR h x y t n).1],[]⟩:=by
 have c1:=p164 hk
 by_cases he:h.err=0
 rotate_left
 ·have e:folR h x y t n=(h.err,[]):=by unfold folR Zob; rw [if_neg he,if_neg he]
  rw [e]
  have hk0:=Zc c1 Zf
  generalize h.err=E at *
  refine Ma (res:=⟨.tup [.nils,I E],[]⟩) ?_ frT
  refine bs.pv (sx:=nos) hk0 Tryz.func9 (by kernel_rfl) (by kernel_rfl) rfl ?_
  repeat'(first|refine wk3 ?_|(refine wk2 ?_ ?_<;>intro _)|refine wk4 ?_|fail);all_goals(conv=>whnf)
  exact Ze rfl rfl
 ·have fin:=Ziv hk he
  have g40:=e40 hk he x y
  have g41:=d91 h1 h2
  have g42:=d81 n
  have g39:PCall Tryz.prog 39 [.isl 1 [[I (plaE h x y 1)],[I (tnE t)],[I (unl (within n 0 4) 2)]]] ⟨I (fstL [plaE h x y 1,tnE t,unl (within n 0 4) 2]),[]⟩:=d78 (l:=[plaE h x y 1,tnE t,unl (within n 0 4) 2]) (by simp)
  unfold folR
  have hE:Zob h x y t n=fstL [plaE h x y 1,tnE t,unl (within n 0 4) 2]:=if_pos he
  rw [he] at c1
  rw [hE]
  have hkA:=Zc c1 (Zc g40 (Zc g41 (Zc g42 (Zc g39 (Zwe hk.f fin (Zwd hk.f fin Zjw))))))
  generalize hF:fstL [plaE h x y 1,tnE t,unl (within n 0 4) 2]=E at *
  by_cases hE0:E=0
  rotate_left
  ·rw [if_neg hE0]
   refine Ma (res:=⟨.tup [.nils,I E],[]⟩) ?_ frT
   refine bs.pv (sx:=nos) hkA Tryz.func9 (by kernel_rfl) (by kernel_rfl) rfl ?_
   repeat'(first|refine wk3 ?_|(refine wk2 ?_ ?_<;>intro _)|refine wk4 ?_|fail);all_goals(conv=>whnf)
   exact Ze rfl rfl
  ·subst hE0
   rw [if_pos rfl]
   obtain ⟨q1,q2,q3⟩:plaE h x y 1=0/\tnE t=0/\unl (within n 0 4) 2=0:=by
    exact fst3 hF
   clear hF hE
   have hn:(0<=n/\n<=4):=by
    cases hw:within n 0 4
    ·rw [hw] at q3; cases q3
    ·exact within_iff.1 hw
   obtain ⟨m,rfl⟩:∃ m:Nat,n=m:=⟨n.toNat,by omega⟩
   rw [Sj]
   have hs0:RyS 0 ⟨x,y,t.1,t.2⟩:=by
    have hp:=(Zjl q1).1
    obtain ⟨p1,p2,p3⟩:=hp
    have ht:=Zta q2
    exact ⟨by dsimp only; omega,by dsimp only; omega,ht.1,ht.2⟩
   have hB0:=Bh.start h.cs ⟨x,y,t.1,t.2⟩
   have hAll:=fin.st
   have hf:=hk.f
   generalize hR:folL h.cs m ⟨x,y,t.1,t.2⟩ (0,1) (-1)=R
   refine Ma (res:=match R with
    | none=>⟨.tup [.nils,I 24],[]⟩
    | some []=>⟨.tup [.nils,I 0],[]⟩
    | some (u::l)=>⟨.tup [.asl 0 0 (nl (u::l)).length,I 0],[(1,nl (u::l))]⟩) ?_ ?_
   rotate_left
   ·cases R with
    | none=>exact frT
    | some l=>cases l with
     | nil=>exact frT
     | cons u l=>exact ⟨⟨rfl,rfl,rfl⟩,⟨rfl,rfl⟩,trivial⟩
   refine bs.pv (sx:=nos) hkA Tryz.func9 (by kernel_rfl) (by kernel_rfl) (by split<;>rfl) ?_
   repeat'(first|refine wk3 ?_|(refine wk2 ?_ ?_<;>intro _)|refine wk4 ?_|fail);all_goals(conv=>whnf)
   refine Ztv (S:=Nat × Int × Ry × (Int × Int) × Int × Nat × List (List AV)) (fun s=>m-s.1)
    (fun s=>[(8,.nils),(9,I 0),(12,.ptr 13 0 0),(13,.ptr 18 0 0),(14,gv 20 s.1 s.2.2.2.2.2.1),(40,I (m:Int)),(41,I s.2.1)])
    (fun s=>(18,.row 5 [[I s.2.2.1.x,I s.2.2.1.y,I s.2.2.1.dx,I s.2.2.1.dy,I s.2.2.2.2.1]] true false)::(13,.row 9 [h.cells] true false)::gz 20 1 s.1 s.2.2.2.2.2.2 []) 20 21
    (fun s=>s.2.1=s.1/\s.1<=m/\RyS s.1 s.2.2.1/\Bh h.cs s.2.2.1 s.2.2.2.1 s.2.2.2.2.1/\∃ out:List Int,out.length=s.1/\s.2.2.2.2.2.1=s.2.2.2.2.2.2.length/\s.2.2.2.2.2.2=nl out/\R=(folL h.cs (m-s.1) s.2.2.1 s.2.2.2.1 s.2.2.2.2.1).map (fun l=>out++l))
    (0,0,⟨x,y,t.1,t.2⟩,(0,1),-1,0,[]) ⟨rfl,Qm _,hs0,hB0,[],rfl,rfl,rfl,by rw [<-hR]; simp⟩ (Nat.le_of_ble_eq_true rfl) [] rfl (kps) (kps) ?_
   rintro ⟨k,i,r,fr,last,len,els⟩ ⟨hi,hkm,hs,hB,out,ho,hlen,hels,hrec⟩
   dsimp only at hi hkm hs hB ho hlen hels hrec ⊢
   subst hi
   have hb:=hs.b (by omega)
   have cN:=Zu0 hb hB
   have hl4:els.length<100000:=by rw [hels,Xb]; omega
   by_cases hlt:k<m
   ·obtain ⟨q,hq⟩:∃ q,m-k=q+1:=⟨m-k-1,by omega⟩
    rw [hq,folL] at hrec
    have hmem:=fun c hc=>hB.next hAll (c:=c) hc
    generalize bstP (Zx h.cs r fr last) h.cs.length=o at *
    cases o with
    | none =>
     change _=some (⟨.tup [hit0,Bo false],[]⟩:PRes) at cN
     have hrec:R=none:=hrec
     subst hrec
     clear hmem
     obtain ⟨rx,ry,rdx,rdy⟩:=r
     cases k<;>refine bs.av (sx:=nos) hkA ?_<;>repeat'(first|refine wk3 ?_|(refine wk2 ?_ ?_<;>intro _)|refine wk4 ?_|fail);all_goals(conv=>whnf)
     all_goals exact Ze rfl rfl
    | some c =>
     change _=some (⟨.tup [hitA h.cs c,Bo true],[]⟩:PRes) at cN
     obtain ⟨hci,hBn⟩:=hmem c rfl
     have cR:=Zuz hb hci last
     have hsn:RyS (k+1) (rfW (wlOf h.cs c.i) r):=by
      obtain ⟨n,sx,sy,hst⟩:=hAll c.i hci
      rw [Zho hst]; exact hs.next hst
     clear hmem
     obtain ⟨ci,cnu,cde,cw⟩:=c
     dsimp only at hci hBn cR hsn hrec
     cases cw with
     | false =>
      rw [if_neg (by decide)] at hrec
      have hrec:R=none:=hrec
      subst hrec
      obtain ⟨rx,ry,rdx,rdy⟩:=r
      cases k<;>refine bs.av (sx:=nos) hkA ?_<;>repeat'(first|refine wk3 ?_|(refine wk2 ?_ ?_<;>intro _)|refine wk4 ?_|fail);all_goals(conv=>whnf)
      all_goals exact Ze rfl rfl
     | true =>
      rw [if_pos rfl] at hrec
      have hrec2:R=(folL h.cs (m-(k+1)) (rfW (wlOf h.cs ci) r) (cnu,cde) ci).map (fun l=>(out++[(ci:Int)])++l):=by
       rw [hrec,show m-(k+1)=q by omega,Option.map_map]
       congr 1
       funext l
       simp
      clear hrec hs0 hB0 hB hs
      generalize rfW (wlOf h.cs ci) r=r2 at *
      obtain ⟨rx,ry,rdx,rdy⟩:=r
      obtain ⟨sx,sy,sdx,sdy⟩:=r2
      have hnl:nl (out++[(ci:Int)])=nl out++[[I (ci:Int)]]:=by simp [nl]
      cases k with
      | zero =>
       have hout:out=[]:=Ph.1 ho
       refine bs.av (sx:=nos) hkA ?_
       repeat'(first|refine wk3 ?_|(refine wk2 ?_ ?_<;>intro _)|refine wk4 ?_|fail);all_goals(conv=>whnf)
       exact Qr ⟨(1,_,⟨sx,sy,sdx,sdy⟩,(cnu,cde),ci,1,[[I (ci:Int)]]),[(20,23)],rfl,kps,kps,⟨Zh (by omega),hlt,hsn,hBn,out++[(ci:Int)],by rw [hout]; rfl,rfl,by rw [hout]; rfl,hrec2⟩,by dsimp only; omega⟩
      | succ k0 =>
       refine bs.av (sx:=nos) hkA ?_
       repeat'(first|refine wk3 ?_|(refine wk2 ?_ ?_<;>intro _)|refine wk4 ?_|fail);all_goals(conv=>whnf)
       exact Qr ⟨(k0+1+1,_,⟨sx,sy,sdx,sdy⟩,(cnu,cde),ci,els.length+1,els++[[I (ci:Int)]]),[(20,23)],rfl,kps,kps,⟨Zh (by omega),hlt,hsn,hBn,out++[(ci:Int)],by rw [List.length_append,ho]; rfl,by simp,by rw [hnl,hels],hrec2⟩,by dsimp only; omega⟩
   ·obtain rfl:k=m:=by omega
    rw [Nat.sub_self,folL] at hrec
    have hrec:R=some (out++[]):=hrec
    rw [List.append_nil] at hrec
    subst hrec
    cases k with
    | zero =>
     obtain rfl:out=[]:=Ph.1 ho
     refine bs.av (sx:=nos) hkA ?_
     repeat'(first|refine wk3 ?_|(refine wk2 ?_ ?_<;>intro _)|refine wk4 ?_|fail);all_goals(conv=>whnf)
     exact Ze rfl rfl
    | succ k0 =>
     cases out with
     | nil=>cases ho
     | cons u l =>
      subst hels
      subst hlen
      refine bs.av (sx:=nos) hkA ?_
      repeat'(first|refine wk3 ?_|(refine wk2 ?_ ?_<;>intro _)|refine wk4 ?_|fail);all_goals(conv=>whnf)
      exact Zcn [20] rfl rfl rfl
def cmpQ (n d m k:Int):Int:=sgn (n*k-m*d)
end Go.Proofs.YtanbhfpalahjcaaGreat
