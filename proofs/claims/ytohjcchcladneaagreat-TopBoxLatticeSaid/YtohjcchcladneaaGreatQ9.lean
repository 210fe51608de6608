/- A part of the proof: lemmas. -/
import Derived.Test.YtohjcchcladneaaGreatQ8
import Derived.Test.YtohjcchcladneaaGreatQ6
import Derived.Test.YtohjcchcladneaaGreatQ7
set_option linter.unusedVariables false
set_option linter.unusedSimpArgs false
set_option maxRecDepth 100000
set_option maxHeartbeats 16000000
open Bool renaming and_eq_true->Qf,eq_false_iff->Qs,eq_iff_iff->Sf,false_eq_true->Rn,not_eq_true'->Sc,or_eq_true->Qy
open Classical renaming not_not->Lt
open Function renaming comp->Fz
open Go.IntKind renaming i64->Qb,wrap->Qa,wrap_i64->Sr
open Go.Sx.Done renaming mk->Th
open Go.Sx.PCall renaming freeze->Mv
open Int renaming add_zero->Tb,lt_trichotomy->Wj,mul_neg->Sj,mul_one->Rs,mul_pos->Ra,mul_tdiv_cancel_left->Ng,mul_zero->Sp,natAbs_mul->Tj,neg_mul->Tc,neg_neg->Tl,one_mul->Sn,sub_mul->Oa,sub_self->Nv,zero_add->Tt,zero_mul->Rk
open List renaming all_eq_true->Rh,any_eq_false->Hn,append_assoc->Tw,drop_eq_getElem_cons->Qr,drop_of_length_le->Rb,drop_zero->Wk,getElem?_eq_getElem->Ql,getElem_mem->Rx,length_append->Ws,length_take->Gc,map_congr_left->Pu,map_cons->Tg,mem_append->Sy,mem_cons->Rp,mem_iff_getElem->Jp,mem_map->Oy,mem_range->Tx,mem_singleton->Of,not_mem_nil->Pz,take_of_length_le->Wz,take_succ_eq_append_getElem->Sd
open Nat renaming le_refl->Qm,mod_eq_of_lt->Nz,sub_zero->Wv,zero_le->Rl
namespace Go.Proofs.YtohjcchcladneaaGreat
open Go Go.Sx
def plc (n:Int):Bool:=within n (-5000) 5000
def Zrr (h:Hal) (i:Nat) (w:Sea):Int :=
 if Zdt w.nm then (if (h.ss.take i).any (fun v=>v.nm==w.nm) then 5 else if plc w.x&&plc w.y&&plc w.z then (if Zam h ⟨w.x,w.y,w.z,1⟩ then 0 else 24) else 2) else 4
def edges (c:Can):List Ln:=[Yax c,Yaw c,Yav c,Yau c]
def Zd3 (h:Hal) (l:Ln):Bool:=(lns h.cs).any fun m=>l.touch m
def Zho (h:Hal):List Ln->Bool
 | []=>true
 | l::r=>if Ve h l.a then (if Zd3 h l then false else Zho h r) else false
def Zgw (h:Hal) (c:Can):Bool:=Zho h (edges c) && !(h.cs.any fun p=>Zqf c ⟨p.1,p.2,0,1⟩)
def Zqw (h:Hal) (i:Nat) (c:Can):Int :=
 if Zdt c.nm then (if (c.nm==Za9)||(c.nm==Zff) then 5 else if h.ws.any (fun v=>v.nm==c.nm) then 5 else if (h.ks.take i).any (fun v=>v.nm==c.nm) then 5 else
  if decide (Vb c.mt 0 h.ms<0) then 6 else if within c.hs.length 1 4 then (if Zee h.ht none c.hs=0 then (if plc c.fx&&plc c.fy&&plc c.tx&&plc c.ty then (if decide (c.fx=c.tx)||decide (c.fy=c.ty) then 11 else if Zgw h c then 0 else 24) else 2) else Zee h.ht none c.hs) else 10) else 4
theorem Zm {a b A B:Int} (ha : -A<=a/\a<=A) (hb : -B<=b/\b<=B) : -(A*B)<=a*b/\a*b<=A*B:=by
 have h1:a.natAbs<=A.natAbs:=by omega
 have h2:b.natAbs<=B.natAbs:=by omega
 have h3:=Nat.mul_le_mul h1 h2
 rw [<-Tj,<-Tj] at h3
 have h4:0<=A*B:=Int.mul_nonneg (by omega) (by omega)
 omega
theorem Zmv {n v:Int} (hn:0<n):sgn (n*v)=sgn v:=by
 unfold sgn
 rcases Wj v 0 with h|h|h
 ·have:=Int.mul_neg_of_pos_of_neg hn h
  rw [if_neg (by omega),if_pos this,if_neg (by omega),if_pos h]
 ·subst h; simp
 ·have:=Ra hn h
  rw [if_pos this,if_pos h]
theorem sgn_neg_iff {v:Int}:sgn v<0↔v<0:=by unfold sgn; split<;>(try split)<;>omega
theorem Yw {v:Int}:0<sgn v↔0<v:=by unfold sgn; split<;>(try split)<;>omega
theorem Xt {v:Int}:sgn v=0↔v=0:=by unfold sgn; split<;>(try split)<;>omega
theorem Zfm (v:Int) : -1<=sgn v/\sgn v<=1:=by unfold sgn; split<;>(try split)<;>omega
structure Str (w:Wl) (n sx sy:Int):Prop where
 hn:0<n
 hx:sx=0\/sx=1\/sx = -1
 hy:sy=0\/sy=1\/sy = -1
 hxy:¬(sx=0/\sy=0)
 tx:w.tx=w.fx+n*sx
 ty:w.ty=w.fy+n*sy
 b1 : -5000<=w.fx/\w.fx<=5000
 b2 : -5000<=w.fy/\w.fy<=5000
 b3 : -5000<=w.tx/\w.tx<=5000
 b4 : -5000<=w.ty/\w.ty<=5000
theorem Str.nle {w:Wl} {n sx sy:Int} (h:Str w n sx sy):n<=10000:=by
 obtain ⟨hn,hx,hy,hxy,tx,ty,b1,b2,b3,b4⟩:=h
 rcases hx with rfl|rfl|rfl<;>rcases hy with rfl|rfl|rfl<;>simp at * <;> omega
theorem Str.dx {w:Wl} {n sx sy:Int} (h:Str w n sx sy):w.dx=n*sx:=by
 obtain ⟨hn,hx,hy,hxy,tx,ty,b1,b2,b3,b4⟩:=h
 unfold Wl.dx
 rw [W_eq (by omega) (by omega)]; omega
theorem Str.dy {w:Wl} {n sx sy:Int} (h:Str w n sx sy):w.dy=n*sy:=by
 obtain ⟨hn,hx,hy,hxy,tx,ty,b1,b2,b3,b4⟩:=h
 unfold Wl.dy
 rw [W_eq (by omega) (by omega)]; omega
def Wl.ln (w:Wl):Ln:=⟨w.fx,w.fy,Qa Qb (w.tx-w.fx),Qa Qb (w.ty-w.fy)⟩
theorem Zds (cs:List (Int × Int)) (i:Nat):lnOf cs i=(wlOf cs i).ln:=rfl
theorem Vo {n:Int} (h : -9000000000000000000<=n/\n<=9000000000000000000):size n=if n<0 then -n else n:=by
 unfold size imax
 rw [W_eq (by omega) (by omega)]
 split
 ·rw [decide_eq_true (by omega)]; simp
 ·by_cases h0:n=0
  ·subst h0; rfl
  ·rw [decide_eq_false (by omega)]; rfl
theorem Str.ln {w:Wl} {n sx sy:Int} (h:Str w n sx sy):w.ln.dx=n*sx/\w.ln.dy=n*sy/\w.ln.n=n/\w.ln.sx=sx/\w.ln.sy=sy:=by
 have h1:w.ln.dx=n*sx:=h.dx
 have h2:w.ln.dy=n*sy:=h.dy
 have hle:=h.nle
 have hn:=h.hn
 have h3:w.ln.n=n:=by
  unfold Ln.n
  rw [h1,h2]
  have hxy:=h.hxy
  have s0:size 0=0:=by rw [Vo (by omega)]; rfl
  have s1:size n=n:=by rw [Vo (by omega),if_neg (by omega)]
  have s2:size (-n)=n:=by rw [Vo (by omega),if_pos (by omega)]; omega
  have i1:imax n n=n:=by unfold imax; rw [decide_eq_false (by omega)]; rfl
  have i2:imax n 0=n:=by unfold imax; rw [decide_eq_false (by omega)]; rfl
  have i3:imax 0 n=n:=by unfold imax; rw [decide_eq_true (by omega)]; rfl
  rcases h.hx with rfl|rfl|rfl<;>rcases h.hy with rfl|rfl|rfl<;>(try (exact absurd ⟨rfl,rfl⟩ hxy))<;>simp only [Sp,Rs,Sj,s0,s1,s2,i1,i2,i3]
 refine ⟨h1,h2,h3,?_,?_⟩
 ·unfold Ln.sx
  rw [h1,h3,Ng _ (by omega)]
  rcases h.hx with rfl|rfl|rfl<;>rfl
 ·unfold Ln.sy
  rw [h2,h3,Ng _ (by omega)]
  rcases h.hy with rfl|rfl|rfl<;>rfl
structure PtOk (x y d:Int):Prop where
 hd:0<d
 hD:d<=20000000000
 hx : -200000000000000<=x/\x<=200000000000000
 hy : -200000000000000<=y/\y<=200000000000000
def bes (w:Wl) (sx sy x y d:Int):Int:=sx*(y-w.fy*d)-sy*(x-w.fx*d)
def alo (w:Wl) (sx sy x y d:Int):Int:=sx*(x-w.fx*d)+sy*(y-w.fy*d)
theorem Ze {f d:Int} (hf : -5000<=f/\f<=5000) (hd:0<d) : -(5000*d)<=f*d/\f*d<=5000*d:=Zm hf (by omega)
theorem Ud {w:Wl} {n sx sy x y d z:Int} (h:Str w n sx sy) (hp:PtOk x y d):w.ln.beside ⟨x,y,z,d⟩=bes w sx sy x y d:=by
 obtain ⟨_,_,_,h4,h5⟩:=h.ln
 unfold Ln.beside bes
 rw [h4,h5]
 show IntKind.i64.wrap (Qa Qb (sx*Qa Qb (y-Qa Qb (w.fy*d)))-Qa Qb (sy*Qa Qb (x-Qa Qb (w.fx*d))))=_
 have a1:=Ze h.b1 hp.hd
 have a2:=Ze h.b2 hp.hd
 have a3:=hp.hD
 have a4:=hp.hx
 have a5:=hp.hy
 have a6:=hp.hd
 generalize w.fx*d=A at *
 generalize w.fy*d=C at *
 rw [W_eq (n:=C) (by omega) (by omega),W_eq (n:=A) (by omega) (by omega),W_eq (n:=y-C) (by omega) (by omega),W_eq (n:=x-A) (by omega) (by omega)]
 have hx:=h.hx
 have hy:=h.hy
 rcases hx with rfl|rfl|rfl<;>rcases hy with rfl|rfl|rfl<;>simp only [Rk,Sn,Tc]<;>simp only [Sr]<;>omega
theorem Zew {w:Wl} {n sx sy x y d z:Int} (h:Str w n sx sy) (hp:PtOk x y d):w.ln.along ⟨x,y,z,d⟩=alo w sx sy x y d:=by
 obtain ⟨_,_,_,h4,h5⟩:=h.ln
 unfold Ln.along alo
 rw [h4,h5]
 show IntKind.i64.wrap (Qa Qb (sx*Qa Qb (x-Qa Qb (w.fx*d)))+Qa Qb (sy*Qa Qb (y-Qa Qb (w.fy*d))))=_
 have a1:=Ze h.b1 hp.hd
 have a2:=Ze h.b2 hp.hd
 have a3:=hp.hD
 have a4:=hp.hx
 have a5:=hp.hy
 have a6:=hp.hd
 generalize w.fx*d=A at *
 generalize w.fy*d=C at *
 rw [W_eq (n:=C) (by omega) (by omega),W_eq (n:=A) (by omega) (by omega),W_eq (n:=y-C) (by omega) (by omega),W_eq (n:=x-A) (by omega) (by omega)]
 have hx:=h.hx
 have hy:=h.hy
 rcases hx with rfl|rfl|rfl<;>rcases hy with rfl|rfl|rfl<;>simp only [Rk,Sn,Tc]<;>simp only [Sr]<;>omega
theorem Zjv {w:Wl} {n sx sy:Int} (h:Str w n sx sy):w.ln.full=n*(sx*sx+sy*sy):=by
 obtain ⟨_,_,h3,h4,h5⟩:=h.ln
 unfold Ln.full
 rw [h3,h4,h5]
 have hn:=h.hn
 have hle:=h.nle
 have hx:=h.hx
 have hy:=h.hy
 rcases hx with rfl|rfl|rfl<;>rcases hy with rfl|rfl|rfl<;>simp [Sr]<;>omega
theorem Yj {w:Wl} {n sx sy x y d:Int} (h:Str w n sx sy) (hp:PtOk x y d):w.side x y d=sgn (bes w sx sy x y d):=by
 unfold Wl.side bes
 rw [h.dx,h.dy]
 refine Eq.trans ?_ (Zmv h.hn)
 have a1:=Ze h.b1 hp.hd
 have a2:=Ze h.b2 hp.hd
 have a3:=hp.hD
 have a4:=hp.hx
 have a5:=hp.hy
 have a6:=hp.hd
 have hn:=h.hn
 have hle:=h.nle
 generalize w.fx*d=A at *
 generalize w.fy*d=C at *
 have b1 : -(10000*300000000000000)<=n*(y-C)/\n*(y-C)<=10000*300000000000000:=Zm (by omega) (by omega)
 have b2 : -(10000*300000000000000)<=n*(x-A)/\n*(x-A)<=10000*300000000000000:=Zm (by omega) (by omega)
 rw [W_eq (n:=C) (by omega) (by omega),W_eq (n:=A) (by omega) (by omega),W_eq (n:=y-C) (by omega) (by omega),W_eq (n:=x-A) (by omega) (by omega)]
 congr 1
 have hx:=h.hx
 have hy:=h.hy
 rw [show n*(sx*(y-C)-sy*(x-A))=sx*(n*(y-C))-sy*(n*(x-A)) by grind,show n*sx*(y-C)=sx*(n*(y-C)) by grind,show n*sy*(x-A)=sy*(n*(x-A)) by grind]
 generalize n*(y-C)=P at *
 generalize n*(x-A)=Q at *
 rcases hx with rfl|rfl|rfl<;>rcases hy with rfl|rfl|rfl<;>simp only [Rk,Sn,Tc]<;>simp only [Sr]<;>omega
def onW (w:Wl) (n sx sy x y d:Int):Prop:=bes w sx sy x y d=0/\0<=alo w sx sy x y d/\alo w sx sy x y d<=n*(sx*sx+sy*sy)*d
theorem Zz0 {n d:Int} (hn:0<n) (hle:n<=10000) (hd:0<d):0<n*d/\n*d<=10000*d:=by
 have:=Zm (a:=n) (b:=d) (A:=10000) (B:=d) (by omega) (by omega)
 exact ⟨Ra hn hd,this.2⟩
theorem Zv3 {w:Wl} {n sx sy x y d z:Int} (h:Str w n sx sy) (hp:PtOk x y d):w.ln.has ⟨x,y,z,d⟩=true↔onW w n sx sy x y d:=by
 unfold Ln.has onW
 rw [Ud h hp,Zew h hp,Zjv h,Qf,decide_eq_true_eq,within_iff]
 have hb:Qa Qb (n*(sx*sx+sy*sy)*d)=n*(sx*sx+sy*sy)*d:=by
  have:=Zz0 h.hn h.nle hp.hd
  have:=hp.hD
  rcases h.hx with rfl|rfl|rfl<;>rcases h.hy with rfl|rfl|rfl<;>simp only [Sp,Rs,Sj,Rk,Tc,Tl,Tt,Tb]<;>(try rw [show n*(1+1)*d=2*(n*d) by grind])<;>exact W_eq (by omega) (by omega)
 rw [hb]
theorem Xe {w:Wl} {n sx sy x y d:Int} (h:Str w n sx sy) (hp:PtOk x y d):w.has x y d=true↔onW w n sx sy x y d:=by
 unfold Wl.has onW
 rw [Yj h hp,Qf,Qf,decide_eq_true_eq,within_iff,within_iff,Xt]
 have a1:=Ze h.b1 hp.hd
 have a2:=Ze h.b2 hp.hd
 have a3:=Zz0 h.hn h.nle hp.hd
 have a4:=hp.hD
 have hn:=h.hn
 unfold bes alo
 rw [h.tx,h.ty]
 have hxy:=h.hxy
 have f7:n*(1+1)*d=2*(n*d):=by grind
 have e1:imin w.fx (w.fx+n)=w.fx:=by unfold imin; rw [decide_eq_false (by omega)]; rfl
 have e2:imin w.fx (w.fx + -n)=w.fx + -n:=by unfold imin; rw [decide_eq_true (by omega)]; rfl
 have e3:imin w.fx w.fx=w.fx:=by unfold imin; rw [decide_eq_false (by omega)]; rfl
 have e4:imax w.fx (w.fx+n)=w.fx+n:=by unfold imax; rw [decide_eq_true (by omega)]; rfl
 have e5:imax w.fx (w.fx + -n)=w.fx:=by unfold imax; rw [decide_eq_false (by omega)]; rfl
 have e6:imax w.fx w.fx=w.fx:=by unfold imax; rw [decide_eq_false (by omega)]; rfl
 have f1:imin w.fy (w.fy+n)=w.fy:=by unfold imin; rw [decide_eq_false (by omega)]; rfl
 have f2:imin w.fy (w.fy + -n)=w.fy + -n:=by unfold imin; rw [decide_eq_true (by omega)]; rfl
 have f3:imin w.fy w.fy=w.fy:=by unfold imin; rw [decide_eq_false (by omega)]; rfl
 have f4:imax w.fy (w.fy+n)=w.fy+n:=by unfold imax; rw [decide_eq_true (by omega)]; rfl
 have f5:imax w.fy (w.fy + -n)=w.fy:=by unfold imax; rw [decide_eq_false (by omega)]; rfl
 have f6:imax w.fy w.fy=w.fy:=by unfold imax; rw [decide_eq_false (by omega)]; rfl
 rcases h.hx with rfl|rfl|rfl<;>rcases h.hy with rfl|rfl|rfl<;>simp only [Sp,Rs,Sj,Rk,Tc,Sn,Tl,Tt,Tb,Int.add_mul,f7,e1,e2,e3,e4,e5,e6,f1,f2,f3,f4,f5,f6]<;>(try (exact absurd ⟨rfl,rfl⟩ hxy))<;>generalize w.fx*d=A at * <;> generalize w.fy*d=C at * <;> generalize n*d=M at *
 all_goals repeat rw [W_eq (by omega) (by omega)]
 all_goals omega
theorem Zef {w:Wl} {n sx sy x y d z:Int} (h:Str w n sx sy) (hp:PtOk x y d):w.has x y d=w.ln.has ⟨x,y,z,d⟩:=by
 rw [Sf,Xe h hp,Zv3 h hp]
theorem Yh {x y:Int} (h1 : -5000<=x/\x<=5000) (h2 : -5000<=y/\y<=5000):PtOk x y 1:=⟨by omega,by omega,by omega,by omega⟩
theorem ln_a (w:Wl):w.ln.a=⟨w.fx,w.fy,0,1⟩:=rfl
theorem ln_b {w:Wl} {n sx sy:Int} (h:Str w n sx sy):w.ln.b=⟨w.tx,w.ty,0,1⟩:=by
 obtain ⟨h1,h2,_⟩:=h.ln
 unfold Ln.b
 rw [h1,h2]
 have e1:Qa Qb (w.ln.x+n*sx)=w.tx:=by rw [h.tx]; exact W_eq (by have:=h.b3; have:=h.tx; show _<=w.fx+_; omega) (by have:=h.b3; have:=h.tx; show w.fx+_<=_; omega)
 have e2:Qa Qb (w.ln.y+n*sy)=w.ty:=by rw [h.ty]; exact W_eq (by have:=h.b4; have:=h.ty; show _<=w.fy+_; omega) (by have:=h.b4; have:=h.ty; show w.fy+_<=_; omega)
 rw [e1,e2]
theorem Zfi (a b:Int):Qa Qb (sgn a*sgn b)=sgn a*sgn b:=by
 have:=Zm (A:=1) (B:=1) (Zfm a) (Zfm b)
 exact W_eq (by omega) (by omega)
theorem sgn_mul_neg {a b:Int}:sgn a*sgn b<0↔(a<0/\0<b)\/(0<a/\b<0):=by
 unfold sgn
 split<;>split<;>(try split)<;>(try split)<;>simp<;>omega
theorem Ze3 {w o:Wl} {n sx sy m tx ty:Int} (h:Str w n sx sy) (g:Str o m tx ty):w.touches o=w.ln.touch o.ln:=by
 have p1:=Yh g.b1 g.b2
 have p2:=Yh g.b3 g.b4
 have p3:=Yh h.b1 h.b2
 have p4:=Yh h.b3 h.b4
 unfold Wl.touches Ln.touch
 rw [ln_b h,ln_b g,ln_a,ln_a,<-Zef h p1,<-Zef h p2,<-Zef g p3,<-Zef g p4,Ud h p1,Ud h p2,Ud g p3,Ud g p4,Yj h p1,Yj h p2,Yj g p3,Yj g p4]
 exact Bool.or_comm _ _
theorem Zre {w o:Wl} {n sx sy m tx ty:Int} (h:Str w n sx sy) (g:Str o m tx ty):w.turnsBack o=true↔tx = -sx/\ty = -sy:=by
 unfold Wl.turnsBack
 rw [h.dx,h.dy,g.dx,g.dy]
 have a1:=h.nle
 have a2:=g.nle
 have hn:=h.hn
 have hm:=g.hn
 have hxy:=h.hxy
 have gxy:=g.hxy
 have b1:0<n*m:=Ra hn hm
 have b2:=(Zm (a:=n) (b:=m) (A:=10000) (B:=10000) (by omega) (by omega)).2
 have e1:∀ a b:Int,n*a*(m*b)=n*m*(a*b):=fun a b=>by grind
 rw [e1,e1,e1,e1]
 generalize n*m=K at *
 rcases h.hx with rfl|rfl|rfl<;>rcases h.hy with rfl|rfl|rfl<;>(try (exact absurd ⟨rfl,rfl⟩ hxy))<;>rcases g.hx with rfl|rfl|rfl<;>rcases g.hy with rfl|rfl|rfl<;>(try (exact absurd ⟨rfl,rfl⟩ gxy))<;>simp [Sr]<;>omega
theorem Zpi {w o:Wl} {n sx sy m tx ty:Int} (h:Str w n sx sy) (g:Str o m tx ty) (hc:o.fx=w.tx/\o.fy=w.ty):(o.has w.fx w.fy 1||w.has o.tx o.ty 1)=w.turnsBack o:=by
 rw [Sf,Zre h g,Qy,Xe g (Yh h.b1 h.b2),Xe h (Yh g.b3 g.b4)]
 unfold onW bes alo
 have hn:=h.hn
 have hm:=g.hn
 have hxy:=h.hxy
 have gxy:=g.hxy
 rw [g.tx,g.ty,hc.1,hc.2,h.tx,h.ty]
 rcases h.hx with rfl|rfl|rfl<;>rcases h.hy with rfl|rfl|rfl<;>(try (exact absurd ⟨rfl,rfl⟩ hxy))<;>rcases g.hx with rfl|rfl|rfl<;>rcases g.hy with rfl|rfl|rfl<;>(try (exact absurd ⟨rfl,rfl⟩ gxy))<;>simp only [Sp,Rs,Sj,Rk,Tc,Sn,Tl,Tt,Tb,and_self,and_true,true_and,iff_true]<;>omega
theorem Zwi {w:Wl} {n sx sy x y d z:Int} (h:Str w n sx sy) (hp:PtOk x y d):flips x y d w=Zs8 ⟨x,y,z,d⟩ w.ln:=by
 unfold flips Zs8
 have e:Qa Qb (w.ln.y+w.ln.dy)=w.ty:=by
  have:=ln_b h
  unfold Ln.b at this
  simpa using congrArg Pt.y this
 rw [Ud h hp,Yj h hp,e]
 have c1:∀ v,decide (0<sgn v)=decide (0<v):=fun v=>by rw [decide_eq_decide]; exact Yw
 have c2:∀ v,decide (sgn v<0)=decide (v<0):=fun v=>by rw [decide_eq_decide]; exact sgn_neg_iff
 have c3:∀ a:Int,decide (y<a) = !decide (a<=y):=fun a=>by by_cases q:a<=y<;>simp [q]<;>omega
 rw [c1,c2,c3,c3]
 show _=(((decide (Qa Qb (w.fy*d)<=y) && !decide (Qa Qb (w.ty*d)<=y))&&decide (0<bes w sx sy x y d))||((!decide (Qa Qb (w.fy*d)<=y)&&decide (Qa Qb (w.ty*d)<=y))&&decide (bes w sx sy x y d<0)))
 cases decide (Qa Qb (w.fy*d)<=y)<;>cases decide (Qa Qb (w.ty*d)<=y)<;>rfl
def Zaq (cs:List (Int × Int)):Prop:=∀ i,i<cs.length->∃ n sx sy,Str (wlOf cs i) n sx sy
theorem Zsq {x y d z:Int} (hp:PtOk x y d):∀ (l:List Wl) (b:Bool),(∀ w∈l,∃ n sx sy,Str w n sx sy)->inPl x y d b l=Zwb ⟨x,y,z,d⟩ b (l.map Wl.ln)
 | [],_,_=>rfl
 | w::l,b,h=>by
  obtain ⟨n,sx,sy,hw⟩:=h w (by simp)
  rw [Tg,inPl,Zwb,Zef (z:=z) hw hp,Zwi (z:=z) hw hp]
  split
  ·rfl
  ·exact Zsq hp l _ fun u hu=>h u (by simp [hu])
theorem Zx9 (cs:List (Int × Int)):lns cs=(wls cs).map Wl.ln:=by simp [lns,wls,Zds]
theorem Ue {cs:List (Int × Int)} (h:Zaq cs):∀ w∈wls cs,∃ n sx sy,Str w n sx sy:=by
 intro w hw
 simp only [wls,Oy,Tx] at hw
 obtain ⟨i,hi,rfl⟩:=hw
 exact h i hi
theorem Vd {h:Hal} (hs:Zaq h.cs) {x y d:Int} (z:Int) (hp:PtOk x y d):Zu h x y d=Ve h ⟨x,y,z,d⟩:=by
 unfold Zu Ve
 rw [Zx9]
 exact Zsq hp _ _ (Ue hs)
theorem Zxd (n:Int) (w:Wl):Zqz n w=Zpl n w:=by
 unfold Zqz Zpl
 generalize w.fx*w.ty=a
 generalize w.tx*w.fy=b
 simp only [Sr]; omega
theorem Zkc (h:Hal):Zaz h=Zmu h.cs:=by
 unfold Zaz Zmu
 rw [show Zqz=Zpl from funext fun n=>funext fun w=>Zxd n w]
theorem Znq {cs:List (Int × Int)} {i:Nat} (h:i<cs.length):cor cs i=cs[i]:=by simp [cor,h]
theorem Zkg {h:Hal} (hs:Zaq h.cs) (h3:3<=h.cs.length) (hl:h.cs.length<1000):Yo h=Zjc h.cs:=by
 have key:∀ i k,i<k->k<h.cs.length->Zcd h.cs.length (wlOf h.cs i) (wlOf h.cs k)=Zjn h.cs h.cs.length i k:=by
  intro i k hik hk
  obtain ⟨n,sx,sy,hi⟩:=hs i (by omega)
  obtain ⟨m,tx,ty,hm⟩:=hs k hk
  unfold Zcd Zjn
  show (decide ((k:Int)<=(i:Int))||(!((decide ((k:Int)=Qa Qb ((i:Int)+1))&&_)||((decide ((i:Int)=0)&&decide ((k:Int)=Qa Qb ((h.cs.length:Int)-1)))&&_))&&((decide ((k:Int)=Qa Qb ((i:Int)+1))||(decide ((i:Int)=0)&&decide ((k:Int)=Qa Qb ((h.cs.length:Int)-1))))||_)))=_
  rw [Zds,Zds,<-Ze3 hi hm,ln_a,ln_a,ln_b hi,ln_b hm,<-Zef hi (Yh hm.b3 hm.b4),<-Zef hm (Yh hi.b1 hi.b2),<-Zef hi (Yh hm.b1 hm.b2),<-Zef hm (Yh hi.b3 hi.b4)]
  have e1:Qa Qb ((i:Int)+1)=(i:Int)+1:=W_eq (by omega) (by omega)
  have e2:Qa Qb ((h.cs.length:Int)-1)=(h.cs.length:Int)-1:=W_eq (by omega) (by omega)
  rw [e1,e2,decide_eq_false (p:=(k:Int)<=(i:Int)) (by omega)]
  by_cases c1:(k:Int)=(i:Int)+1
  ·have hki:k=i+1:=by omega
   have c2:((decide ((i:Int)=0)&&decide ((k:Int)=(h.cs.length:Int)-1)))=false:=by
    by_cases q:(i:Int)=0
    ·rw [decide_eq_false (p:=(k:Int)=(h.cs.length:Int)-1) (by omega)]; simp
    ·rw [decide_eq_false q]; rfl
   have hb:=Zpi hi hm (by
    subst hki
    simp only [wlOf,Nz hk,and_self])
   rw [c2,decide_eq_true c1,<-hb]
   simp
  ·rw [decide_eq_false c1]
   by_cases c2:(i:Int)=0/\(k:Int)=(h.cs.length:Int)-1
   ·have hb:=Zpi hm hi (by
     have h1:i=0:=by omega
     have h2:k+1=h.cs.length:=by omega
     subst h1
     simp only [wlOf,h2,Nat.mod_self,and_self])
    rw [decide_eq_true c2.1,decide_eq_true c2.2,<-hb]
    simp [Bool.and_comm]
   ·have c3:((decide ((i:Int)=0)&&decide ((k:Int)=(h.cs.length:Int)-1)))=false:=by
     rw [Qs]; intro hq; simp only [Qf,decide_eq_true_eq] at hq; exact c2 hq
    rw [c3]
    simp
 have hR:Zjc h.cs=true↔∀ i k,i<k->k<h.cs.length->Zjn h.cs h.cs.length i k=true:=by
  simp only [Zjc,Zx2,Zyj,Rh,List.mem_range']
  constructor
  ·intro hq i k hik hk
   exact hq i ⟨i,by omega,by omega⟩ k ⟨k-(i+1),by omega,by omega⟩
  ·rintro hq i ⟨a,ha,rfl⟩ k ⟨b,hb,rfl⟩
   exact hq _ _ (by omega) (by omega)
 have hP:Yo h=true↔∀ i k,i<h.cs.length->k<h.cs.length->Zcd h.cs.length (wlOf h.cs i) (wlOf h.cs k)=true:=by
  simp only [Yo,wls,Rh,Oy,Tx]
  constructor
  ·intro hq i k hi hk; exact hq _ ⟨i,hi,rfl⟩ _ ⟨k,hk,rfl⟩
  ·rintro hq a ⟨i,hi,rfl⟩ b ⟨k,hk,rfl⟩; exact hq i k hi hk
 rw [Sf,hR,hP]
 constructor
 ·intro hq i k hik hk; rw [<-key i k hik hk]; exact hq i k (by omega) hk
 ·intro hq i k hi hk
  by_cases hik:i<k
  ·rw [key i k hik hk]; exact hq i k hik hk
  ·unfold Zcd
   rw [show decide ((wlOf h.cs k).n<=(wlOf h.cs i).n)=true from decide_eq_true (by show (k:Int)<=(i:Int); omega)]
   rfl
def hit (w:Wl) (n sx sy:Int) (q:Rc):Prop:=∃ t,0<=t/\t<=n/\q.xl<=w.fx+t*sx/\w.fx+t*sx<=q.xh/\q.yl<=w.fy+t*sy/\w.fy+t*sy<=q.yh
structure RcOk (q:Rc):Prop where
 x:q.xl<q.xh
 y:q.yl<q.yh
 b1 : -5000<=q.xl
 b2:q.xh<=5000
 b3 : -5000<=q.yl
 b4:q.yh<=5000
theorem Yag {a b c:Int}:imin a b<=c↔a<=c\/b<=c:=by
 unfold imin; by_cases h:b<a<;>simp [h]<;>omega
theorem Yah {a b c:Int}:c<=imax a b↔c<=a\/c<=b:=by
 unfold imax; by_cases h:a<b<;>simp [h]<;>omega
theorem Zsr {a b c:Int}:c<imin a b↔c<a/\c<b:=by
 unfold imin; by_cases h:b<a<;>simp [h]<;>omega
theorem Zss {a b c:Int}:imax a b<c↔a<c/\b<c:=by
 unfold imax; by_cases h:a<b<;>simp [h]<;>omega
theorem Zrn {v:Int}:sgn v<=0↔v<=0:=by have:=@Yw v; omega
theorem Yby {v:Int}:0<=sgn v↔0<=v:=by have:=@sgn_neg_iff v; omega
theorem Zk2 {w:Wl} {n sx sy:Int} {q:Rc} (h:Str w n sx sy) (hq:RcOk q):q.meets w=true↔hit w n sx sy q:=by
 have q1:=hq.x
 have q2:=hq.y
 have q3:=hq.b1
 have q4:=hq.b2
 have q5:=hq.b3
 have q6:=hq.b4
 have p1:PtOk q.xl q.yl 1:=Yh (by omega) (by omega)
 have p2:PtOk q.xl q.yh 1:=Yh (by omega) (by omega)
 have p3:PtOk q.xh q.yl 1:=Yh (by omega) (by omega)
 have p4:PtOk q.xh q.yh 1:=Yh (by omega) (by omega)
 have e:q.meets w=true ↔ ¬((w.fx<q.xl/\w.tx<q.xl)\/(q.xh<w.fx/\q.xh<w.tx)\/(w.fy<q.yl/\w.ty<q.yl)\/(q.yh<w.fy/\q.yh<w.ty))/\(bes w sx sy q.xl q.yl 1<=0\/bes w sx sy q.xl q.yh 1<=0\/bes w sx sy q.xh q.yl 1<=0\/bes w sx sy q.xh q.yh 1<=0)/\(0<=bes w sx sy q.xl q.yl 1\/0<=bes w sx sy q.xl q.yh 1\/0<=bes w sx sy q.xh q.yl 1\/0<=bes w sx sy q.xh q.yh 1):=by
  unfold Rc.meets
  rw [Yj h p1,Yj h p2,Yj h p3,Yj h p4]
  by_cases hb:(decide (imax w.fx w.tx<q.xl)||decide (q.xh<imin w.fx w.tx)||decide (imax w.fy w.ty<q.yl)||decide (q.yh<imin w.fy w.ty))=true
  ·rw [if_pos hb]
   simp only [Qy,decide_eq_true_eq,Zsr,Zss] at hb
   constructor
   ·intro hf; cases hf
   ·rintro ⟨h1,_⟩; exact absurd (by rcases hb with ((hb|hb)|hb)|hb<;>simp [hb]) h1
  ·rw [if_neg hb]
   simp only [Qy,decide_eq_true_eq,Zsr,Zss] at hb
   rw [Qf,decide_eq_true_eq,decide_eq_true_eq]
   simp only [Yag,Yah,Zrn,Yby]
   omega
 rw [e]
 unfold hit bes
 rw [h.tx,h.ty]
 have hn:=h.hn
 have hxy:=h.hxy
 rcases h.hx with rfl|rfl|rfl<;>rcases h.hy with rfl|rfl|rfl<;>(try (exact absurd ⟨rfl,rfl⟩ hxy))<;>simp only [Sp,Rs,Sj,Rk,Tc,Sn,Tl,Tt,Tb]
 ·exact ⟨fun hh=>⟨max 0 (q.yl-w.fy),by omega,by omega,by omega,by omega,by omega,by omega⟩,fun ⟨t,h1,h2,h3,h4,h5,h6⟩=>by omega⟩
 ·exact ⟨fun hh=>⟨max 0 (w.fy-q.yh),by omega,by omega,by omega,by omega,by omega,by omega⟩,fun ⟨t,h1,h2,h3,h4,h5,h6⟩=>by omega⟩
 ·exact ⟨fun hh=>⟨max 0 (q.xl-w.fx),by omega,by omega,by omega,by omega,by omega,by omega⟩,fun ⟨t,h1,h2,h3,h4,h5,h6⟩=>by omega⟩
 ·exact ⟨fun hh=>⟨max (max 0 (q.xl-w.fx)) (q.yl-w.fy),by omega,by omega,by omega,by omega,by omega,by omega⟩,fun ⟨t,h1,h2,h3,h4,h5,h6⟩=>by omega⟩
 ·exact ⟨fun hh=>⟨max (max 0 (q.xl-w.fx)) (w.fy-q.yh),by omega,by omega,by omega,by omega,by omega,by omega⟩,fun ⟨t,h1,h2,h3,h4,h5,h6⟩=>by omega⟩
 ·exact ⟨fun hh=>⟨max 0 (w.fx-q.xh),by omega,by omega,by omega,by omega,by omega,by omega⟩,fun ⟨t,h1,h2,h3,h4,h5,h6⟩=>by omega⟩
 ·exact ⟨fun hh=>⟨max (max 0 (w.fx-q.xh)) (q.yl-w.fy),by omega,by omega,by omega,by omega,by omega,by omega⟩,fun ⟨t,h1,h2,h3,h4,h5,h6⟩=>by omega⟩
 ·exact ⟨fun hh=>⟨max (max 0 (w.fx-q.xh)) (w.fy-q.yh),by omega,by omega,by omega,by omega,by omega,by omega⟩,fun ⟨t,h1,h2,h3,h4,h5,h6⟩=>by omega⟩
def common (e:Wl) (m ex ey:Int) (w:Wl) (n sx sy:Int):Prop:=∃ t s,0<=t/\t<=n/\0<=s/\s<=m/\w.fx+t*sx=e.fx+s*ex/\w.fy+t*sy=e.fy+s*ey
theorem Zd8 {w:Wl} {n sx sy x y:Int} (h:Str w n sx sy):onW w n sx sy x y 1↔∃ t,0<=t/\t<=n/\x=w.fx+t*sx/\y=w.fy+t*sy:=by
 unfold onW bes alo
 have hn:=h.hn
 have hxy:=h.hxy
 rcases h.hx with rfl|rfl|rfl<;>rcases h.hy with rfl|rfl|rfl<;>(try (exact absurd ⟨rfl,rfl⟩ hxy))<;>simp only [Sp,Rs,Sj,Rk,Tc,Sn,Tl,Tt,Tb]
 ·exact ⟨fun hh=>⟨y-w.fy,by omega,by omega,by omega,by omega⟩,fun ⟨t,h1,h2,h3,h4⟩=>by omega⟩
 ·exact ⟨fun hh=>⟨w.fy-y,by omega,by omega,by omega,by omega⟩,fun ⟨t,h1,h2,h3,h4⟩=>by omega⟩
 ·exact ⟨fun hh=>⟨x-w.fx,by omega,by omega,by omega,by omega⟩,fun ⟨t,h1,h2,h3,h4⟩=>by omega⟩
 ·exact ⟨fun hh=>⟨x-w.fx,by omega,by omega,by omega,by omega⟩,fun ⟨t,h1,h2,h3,h4⟩=>by omega⟩
 ·exact ⟨fun hh=>⟨x-w.fx,by omega,by omega,by omega,by omega⟩,fun ⟨t,h1,h2,h3,h4⟩=>by omega⟩
 ·exact ⟨fun hh=>⟨w.fx-x,by omega,by omega,by omega,by omega⟩,fun ⟨t,h1,h2,h3,h4⟩=>by omega⟩
 ·exact ⟨fun hh=>⟨w.fx-x,by omega,by omega,by omega,by omega⟩,fun ⟨t,h1,h2,h3,h4⟩=>by omega⟩
 ·exact ⟨fun hh=>⟨w.fx-x,by omega,by omega,by omega,by omega⟩,fun ⟨t,h1,h2,h3,h4⟩=>by omega⟩
theorem Zgl {e w:Wl} {m ex ey n sx sy:Int} (g:Str e m ex ey) (h:Str w n sx sy):e.touches w=true ↔
  (((bes e ex ey w.fx w.fy 1<0/\0<bes e ex ey w.tx w.ty 1)\/(0<bes e ex ey w.fx w.fy 1/\bes e ex ey w.tx w.ty 1<0))/\((bes w sx sy e.fx e.fy 1<0/\0<bes w sx sy e.tx e.ty 1)\/(0<bes w sx sy e.fx e.fy 1/\bes w sx sy e.tx e.ty 1<0))) \/
  onW e m ex ey w.fx w.fy 1\/onW e m ex ey w.tx w.ty 1\/onW w n sx sy e.fx e.fy 1\/onW w n sx sy e.tx e.ty 1:=by
 have p1:=Yh g.b1 g.b2
 have p2:=Yh g.b3 g.b4
 have p3:=Yh h.b1 h.b2
 have p4:=Yh h.b3 h.b4
 unfold Wl.touches
 rw [Qy,Qf,Qy,Qy,Qy,decide_eq_true_eq,decide_eq_true_eq,Xe g p3,Xe g p4,Xe h p1,Xe h p2,Yj g p3,Yj g p4,Yj h p1,Yj h p2,Zfi,Zfi,sgn_mul_neg,sgn_mul_neg]
 simp only [or_assoc]
theorem Zah {e w:Wl} {m ex ey n sx sy:Int} (g:Str e m ex ey) (h:Str w n sx sy) (hax:ex=0\/ey=0):e.touches w=true↔common e m ex ey w n sx sy := by
  rw [Zgl g h]
  have hn := h.hn
  have hm := g.hn
  have hxy := h.hxy
  have gxy := g.hxy
  constructor
  · rintro (hc|hc|hc|hc|hc)
    · unfold bes at hc
      rw [h.tx, h.ty, g.tx, g.ty] at hc
      rcases g.hx with rfl|rfl|rfl<;>rcases g.hy with rfl|rfl|rfl<;>(try (exact absurd ⟨rfl, rfl⟩ gxy))<;>(try (exact absurd hax (by decide)))<;>rcases h.hx with rfl|rfl|rfl<;>rcases h.hy with rfl|rfl|rfl<;>(try (exact absurd ⟨rfl, rfl⟩ hxy))<;>simp only [Sp, Rs, Sj, Rk, Tc, Sn, Tl, Tt, Tb] at hc<;>first
        | (exfalso; omega)
        | (unfold common
           simp only [Sp, Rs, Sj, Rk, Tc, Sn, Tl, Tt, Tb]
           first
            | exact ⟨e.fy-w.fy, w.fx+(e.fy-w.fy)-e.fx, by omega, by omega, by omega, by omega, by omega, by omega⟩
            | exact ⟨e.fy-w.fy, e.fx-(w.fx+(e.fy-w.fy)), by omega, by omega, by omega, by omega, by omega, by omega⟩
            | exact ⟨e.fy-w.fy, w.fx-(e.fy-w.fy)-e.fx, by omega, by omega, by omega, by omega, by omega, by omega⟩
            | exact ⟨e.fy-w.fy, e.fx-(w.fx-(e.fy-w.fy)), by omega, by omega, by omega, by omega, by omega, by omega⟩
            | exact ⟨e.fy-w.fy, w.fx-e.fx, by omega, by omega, by omega, by omega, by omega, by omega⟩
            | exact ⟨e.fy-w.fy, e.fx-w.fx, by omega, by omega, by omega, by omega, by omega, by omega⟩
            | exact ⟨w.fy-e.fy, w.fx+(w.fy-e.fy)-e.fx, by omega, by omega, by omega, by omega, by omega, by omega⟩
            | exact ⟨w.fy-e.fy, e.fx-(w.fx+(w.fy-e.fy)), by omega, by omega, by omega, by omega, by omega, by omega⟩
            | exact ⟨w.fy-e.fy, w.fx-(w.fy-e.fy)-e.fx, by omega, by omega, by omega, by omega, by omega, by omega⟩
            | exact ⟨w.fy-e.fy, e.fx-(w.fx-(w.fy-e.fy)), by omega, by omega, by omega, by omega, by omega, by omega⟩
            | exact ⟨w.fy-e.fy, w.fx-e.fx, by omega, by omega, by omega, by omega, by omega, by omega⟩
            | exact ⟨w.fy-e.fy, e.fx-w.fx, by omega, by omega, by omega, by omega, by omega, by omega⟩
            | exact ⟨e.fx-w.fx, w.fy+(e.fx-w.fx)-e.fy, by omega, by omega, by omega, by omega, by omega, by omega⟩
            | exact ⟨e.fx-w.fx, e.fy-(w.fy+(e.fx-w.fx)), by omega, by omega, by omega, by omega, by omega, by omega⟩
            | exact ⟨e.fx-w.fx, w.fy-(e.fx-w.fx)-e.fy, by omega, by omega, by omega, by omega, by omega, by omega⟩
            | exact ⟨e.fx-w.fx, e.fy-(w.fy-(e.fx-w.fx)), by omega, by omega, by omega, by omega, by omega, by omega⟩
            | exact ⟨e.fx-w.fx, w.fy-e.fy, by omega, by omega, by omega, by omega, by omega, by omega⟩
            | exact ⟨e.fx-w.fx, e.fy-w.fy, by omega, by omega, by omega, by omega, by omega, by omega⟩
            | exact ⟨w.fx-e.fx, w.fy+(w.fx-e.fx)-e.fy, by omega, by omega, by omega, by omega, by omega, by omega⟩
            | exact ⟨w.fx-e.fx, e.fy-(w.fy+(w.fx-e.fx)), by omega, by omega, by omega, by omega, by omega, by omega⟩
            | exact ⟨w.fx-e.fx, w.fy-(w.fx-e.fx)-e.fy, by omega, by omega, by omega, by omega, by omega, by omega⟩
            | exact ⟨w.fx-e.fx, e.fy-(w.fy-(w.fx-e.fx)), by omega, by omega, by omega, by omega, by omega, by omega⟩
            | exact ⟨w.fx-e.fx, w.fy-e.fy, by omega, by omega, by omega, by omega, by omega, by omega⟩
            | exact ⟨w.fx-e.fx, e.fy-w.fy, by omega, by omega, by omega, by omega, by omega, by omega⟩)
    · obtain ⟨s, h1, h2, h3, h4⟩ := (Zd8 g).1 hc
      exact ⟨0, s, by omega, by omega, h1, h2, by simpa using h3, by simpa using h4⟩
    · obtain ⟨s, h1, h2, h3, h4⟩ := (Zd8 g).1 hc
      exact ⟨n, s, by omega, by omega, h1, h2, by rw [<-h.tx]; exact h3, by rw [<-h.ty]; exact h4⟩
    · obtain ⟨t, h1, h2, h3, h4⟩ := (Zd8 h).1 hc
      exact ⟨t, 0, h1, h2, by omega, by omega, by simpa using h3.symm, by simpa using h4.symm⟩
    · obtain ⟨t, h1, h2, h3, h4⟩ := (Zd8 h).1 hc
      exact ⟨t, m, h1, h2, by omega, by omega, by rw [<-g.tx]; exact h3.symm, by rw [<-g.ty]; exact h4.symm⟩
  · rintro ⟨t, s, t0, t1, s0, s1, c1, c2⟩
    by_cases z1:t=0
    · exact .inr (.inl ((Zd8 g).2 ⟨s, s0, s1, by subst z1; simpa using c1, by subst z1; simpa using c2⟩))
    by_cases z2:t=n
    · exact .inr (.inr (.inl ((Zd8 g).2 ⟨s, s0, s1, by subst z2; rw [h.tx]; exact c1, by subst z2; rw [h.ty]; exact c2⟩)))
    by_cases z3:s=0
    · exact .inr (.inr (.inr (.inl ((Zd8 h).2 ⟨t, t0, t1, by subst z3; simpa using c1.symm, by subst z3; simpa using c2.symm⟩))))
    by_cases z4:s=m
    · exact .inr (.inr (.inr (.inr ((Zd8 h).2 ⟨t, t0, t1, by subst z4; rw [g.tx]; exact c1.symm, by subst z4; rw [g.ty]; exact c2.symm⟩))))
    unfold onW bes alo
    rw [h.tx, h.ty, g.tx, g.ty]
    rcases g.hx with rfl|rfl|rfl<;>rcases g.hy with rfl|rfl|rfl<;>(try (exact absurd ⟨rfl, rfl⟩ gxy))<;>(try (exact absurd hax (by decide)))<;>rcases h.hx with rfl|rfl|rfl<;>rcases h.hy with rfl|rfl|rfl<;>(try (exact absurd ⟨rfl, rfl⟩ hxy))<;>simp only [Sp, Rs, Sj, Rk, Tc, Sn, Tl, Tt, Tb] at c1 c2 ⊢ <;> first
      | (refine .inl ?_; omega)
      | (refine .inr ?_; omega)
def xorL:List Bool->Bool
 | []=>false
 | b::l=>b ^^ xorL l
theorem Zge:∀ (l m:List Bool),xorL (l++m)=(xorL l ^^ xorL m)
 | [],m=>by simp [xorL]
 | b::l,m=>by simp [xorL,Zge l m]
theorem Zgd {α:Type} (a b:α->Bool):∀ l:List α,(xorL (l.map a) ^^ xorL (l.map b))=xorL (l.map fun x=>a x ^^ b x)
 | []=>rfl
 | x::l=>by
  simp only [Tg,xorL,<-Zgd a b l]
  cases a x<;>cases b x<;>cases xorL (l.map a)<;>cases xorL (l.map b)<;>rfl
theorem Zot {x y d:Int}:∀ (l:List Wl) (b:Bool),(∀ w∈l,w.has x y d=false)->inPl x y d b l=(b ^^ xorL (l.map (flips x y d)))
 | [],b,_=>by simp [inPl,xorL]
 | w::l,b,h=>by
  rw [Zle (h w (by simp)),Zot l _ (fun u hu=>h u (by simp [hu]))]
  simp [xorL]
theorem Zj6 (G:Nat->Bool) (n:Nat):∀ k,k<=n->xorL ((List.range k).map fun i=>G i ^^ G ((i+1)%n))=(G 0 ^^ G (k%n))
 | 0,_=>by simp [xorL]
 | k+1,h=>by
  rw [List.range_succ,List.map_append,Zge,Zj6 G n k (by omega),Nz (show k<n by omega)]
  simp only [Tg,List.map_nil,xorL]
  cases G 0<;>cases G k<;>cases G ((k+1)%n)<;>rfl
theorem tele (g:Int->Int->Bool) (cs:List (Int × Int)):xorL ((wls cs).map fun w=>g w.fx w.fy ^^ g w.tx w.ty)=false:=by
 have:=Zj6 (fun i=>g (cor cs i).1 (cor cs i).2) cs.length cs.length (Qm _)
 rw [Nat.mod_self] at this
 rw [wls,List.map_map]
 have e:((fun w:Wl=>g w.fx w.fy ^^ g w.tx w.ty) ∘ wlOf cs)=fun i=>g (cor cs i).1 (cor cs i).2 ^^ g (cor cs ((i+1)%cs.length)).1 (cor cs ((i+1)%cs.length)).2:=rfl
 rw [e,this]
 simp
theorem Zej {w:Wl} {n sx sy x y:Int} (h:Str w n sx sy) (hp:PtOk x y 1):flips x y 1 w=true↔(w.fy<=y/\y<w.ty/\0<bes w sx sy x y 1)\/(w.ty<=y/\y<w.fy/\bes w sx sy x y 1<0):=by
 have b2:=h.b2
 have b4:=h.b4
 unfold flips
 rw [Yj h hp,Rs,Rs,W_eq (n:=w.fy) (by omega) (by omega),W_eq (n:=w.ty) (by omega) (by omega)]
 simp only [Qy,Qf,decide_eq_true_eq,Yw,sgn_neg_iff,and_assoc]
theorem Yap {w:Wl} {n sx sy Y:Int} {q:Rc} (h:Str w n sx sy) (hq:RcOk q) (nh:¬hit w n sx sy q) (h1:q.yl<=Y) (h2:Y<=q.yh):flips q.xl Y 1 w=flips q.xh Y 1 w:=by
 have q1:=hq.x
 have q2:=hq.y
 have q3:=hq.b1
 have q4:=hq.b2
 have q5:=hq.b3
 have q6:=hq.b4
 rw [Sf,Zej h (Yh (by omega) (by omega)),Zej h (Yh (by omega) (by omega))]
 have key:∀ t,¬(0<=t/\t<=n/\q.xl<=w.fx+t*sx/\w.fx+t*sx<=q.xh/\q.yl<=w.fy+t*sy/\w.fy+t*sy<=q.yh):=fun t ht=>nh ⟨t,ht⟩
 have hn:=h.hn
 have hxy:=h.hxy
 unfold bes
 rw [h.ty]
 have k:=key ((Y-w.fy)*sy)
 clear key nh
 rcases h.hx with rfl|rfl|rfl<;>rcases h.hy with rfl|rfl|rfl<;>(try (exact absurd ⟨rfl,rfl⟩ hxy))<;>simp only [Sp,Rs,Sj,Rk,Tc,Sn,Tl,Tt,Tb] at k ⊢ <;> omega
def inR (X Y1 Y2 x y:Int):Bool:=decide (Y1<y/\y<=Y2/\X<x)
theorem Zmm {A B C D:Prop} [Decidable A] [Decidable B] [Decidable C] [Decidable D] (h:(A↔B)↔(C↔D)):(decide A ^^ decide B)=(decide C ^^ decide D):=by
 by_cases a:A<;>by_cases b:B<;>by_cases c:C<;>by_cases d:D<;>simp_all
theorem Zys {b:Bool} {p:Prop} [Decidable p] (h:b=true↔p):b=decide p:=by
 cases b
 ·exact (decide_eq_false (fun hp=>by simpa using h.2 hp)).symm
 ·exact (decide_eq_true (h.1 rfl)).symm
theorem Yao {w:Wl} {n sx sy:Int} {q:Rc} (h:Str w n sx sy) (hq:RcOk q) (nh:¬hit w n sx sy q):(flips q.xl q.yl 1 w ^^ flips q.xl q.yh 1 w)=(inR q.xl q.yl q.yh w.fx w.fy ^^ inR q.xl q.yl q.yh w.tx w.ty):=by
 have q1:=hq.x
 have q2:=hq.y
 have q3:=hq.b1
 have q4:=hq.b2
 have q5:=hq.b3
 have q6:=hq.b4
 rw [Zys (Zej h (Yh (x:=q.xl) (y:=q.yl) (by omega) (by omega))),Zys (Zej h (Yh (x:=q.xl) (y:=q.yh) (by omega) (by omega)))]
 unfold inR
 refine Zmm ?_
 have key:∀ t,¬(0<=t/\t<=n/\q.xl<=w.fx+t*sx/\w.fx+t*sx<=q.xh/\q.yl<=w.fy+t*sy/\w.fy+t*sy<=q.yh):=fun t ht=>nh ⟨t,ht⟩
 have hn:=h.hn
 have hxy:=h.hxy
 unfold bes
 rw [h.tx,h.ty]
 have k:=key ((q.xl-w.fx)*sx)
 clear key nh
 rcases h.hx with rfl|rfl|rfl<;>rcases h.hy with rfl|rfl|rfl<;>(try (exact absurd ⟨rfl,rfl⟩ hxy))<;>simp only [Sp,Rs,Sj,Rk,Tc,Sn,Tl,Tt,Tb] at k ⊢ <;> omega
def Zu2 (cs:List (Int × Int)) (q:Rc):Prop:=∀ w∈wls cs,∀ n sx sy,Str w n sx sy -> ¬hit w n sx sy q
theorem Zsb {w:Wl} {n sx sy x y:Int} {q:Rc} (h:Str w n sx sy) (hq:RcOk q) (nh:¬hit w n sx sy q) (h1:q.xl<=x) (h2:x<=q.xh) (h3:q.yl<=y) (h4:y<=q.yh):w.has x y 1=false:=by
 rw [Qs]
 intro hh
 rw [Xe h (Yh (by have:=hq.b1; have:=hq.b2; omega) (by have:=hq.b3; have:=hq.b4; omega)),Zd8 h] at hh
 obtain ⟨t,a,b,rfl,rfl⟩:=hh
 exact nh ⟨t,a,b,h1,h2,h3,h4⟩
theorem Zma {h:Hal} {q:Rc} (hs:Zaq h.cs) (hq:RcOk q) (nh:Zu2 h.cs q):Zu h q.xh q.yl 1=Zu h q.xl q.yl 1/\Zu h q.xl q.yh 1=Zu h q.xl q.yl 1/\Zu h q.xh q.yh 1=Zu h q.xl q.yl 1:=by
 have q1:=hq.x
 have q2:=hq.y
 have e:∀ x y,q.xl<=x->x<=q.xh->q.yl<=y->y<=q.yh->Zu h x y 1=xorL ((wls h.cs).map (flips x y 1)):=by
  intro x y h1 h2 h3 h4
  unfold Zu
  rw [Zot _ _ (fun w hw=>by
   obtain ⟨n,sx,sy,g⟩:=Ue hs w hw
   exact Zsb g hq (nh w hw _ _ _ g) h1 h2 h3 h4),Bool.false_xor]
 have hh:∀ Y,q.yl<=Y->Y<=q.yh->(wls h.cs).map (flips q.xh Y 1)=(wls h.cs).map (flips q.xl Y 1):=by
  intro Y h1 h2
  refine Pu fun w hw=>?_
  obtain ⟨n,sx,sy,g⟩:=Ue hs w hw
  exact (Yap g hq (nh w hw _ _ _ g) h1 h2).symm
 have hv:(xorL ((wls h.cs).map (flips q.xl q.yl 1)) ^^ xorL ((wls h.cs).map (flips q.xl q.yh 1)))=false:=by
  rw [Zgd,<-tele (inR q.xl q.yl q.yh) h.cs]
  congr 1
  refine Pu fun w hw=>?_
  obtain ⟨n,sx,sy,g⟩:=Ue hs w hw
  exact Yao g hq (nh w hw _ _ _ g)
 rw [e q.xh q.yl (by omega) (by omega) (by omega) (by omega),e q.xl q.yl (by omega) (by omega) (by omega) (by omega),e q.xl q.yh (by omega) (by omega) (by omega) (by omega),e q.xh q.yh (by omega) (by omega) (by omega) (by omega),hh q.yl (by omega) (by omega),hh q.yh (by omega) (by omega)]
 revert hv
 cases xorL ((wls h.cs).map (flips q.xl q.yl 1))<;>cases xorL ((wls h.cs).map (flips q.xl q.yh 1))<;>simp
def E1 (c:Can):Wl:=⟨0,c.fx,c.fy,c.tx,c.fy⟩
def E2 (c:Can):Wl:=⟨0,c.tx,c.fy,c.tx,c.ty⟩
def E3 (c:Can):Wl:=⟨0,c.tx,c.ty,c.fx,c.ty⟩
def E4 (c:Can):Wl:=⟨0,c.fx,c.ty,c.fx,c.fy⟩
theorem Zwo (c:Can):Yax c=(E1 c).ln:=by unfold Yax Wl.ln E1; simp only [Nv]; rfl
theorem Zwn (c:Can):Yaw c=(E2 c).ln:=by unfold Yaw Wl.ln E2; simp only [Nv]; rfl
theorem Zwm (c:Can):Yav c=(E3 c).ln:=by
 unfold Yav Wl.ln E3; simp only [Nv]
 have:Qa Qb (0-Qa Qb (c.tx-c.fx))=Qa Qb (c.fx-c.tx):=by simp only [Sr]; omega
 rw [this]; rfl
theorem Zwl (c:Can):Yau c=(E4 c).ln:=by
 unfold Yau Wl.ln E4; simp only [Nv]
 have:Qa Qb (0-Qa Qb (c.ty-c.fy))=Qa Qb (c.fy-c.ty):=by simp only [Sr]; omega
 rw [this]; rfl
structure CanOk (c:Can):Prop where
 b1 : -5000<=c.fx/\c.fx<=5000
 b2 : -5000<=c.fy/\c.fy<=5000
 b3 : -5000<=c.tx/\c.tx<=5000
 b4 : -5000<=c.ty/\c.ty<=5000
 x:c.fx≠c.tx
 y:c.fy≠c.ty
abbrev Can.rc (c:Can):Rc:=rcOf c.fx c.fy c.tx c.ty
theorem Ze4 (c:Can):(c.rc.xl=min c.fx c.tx/\c.rc.xh=max c.fx c.tx)/\(c.rc.yl=min c.fy c.ty/\c.rc.yh=max c.fy c.ty):=by
 unfold Can.rc rcOf imin imax
 refine ⟨⟨?_,?_⟩,?_,?_⟩<;>dsimp only
 ·by_cases h:c.tx<c.fx<;>simp [h]<;>omega
 ·by_cases h:c.fx<c.tx<;>simp [h]<;>omega
 ·by_cases h:c.ty<c.fy<;>simp [h]<;>omega
 ·by_cases h:c.fy<c.ty<;>simp [h]<;>omega
theorem CanOk.rcOk {c:Can} (h:CanOk c):RcOk c.rc:=by
 obtain ⟨⟨e1,e2⟩,e3,e4⟩:=Ze4 c
 obtain ⟨b1,b2,b3,b4,hx,hy⟩:=h
 exact ⟨by omega,by omega,by omega,by omega,by omega,by omega⟩
theorem Zl5 {c:Can} (h:CanOk c):∃ m k sx sy,(sx=1\/sx = -1)/\(sy=1\/sy = -1)/\c.tx=c.fx+m*sx/\c.ty=c.fy+k*sy/\Str (E1 c) m sx 0/\Str (E2 c) k 0 sy/\Str (E3 c) m (-sx) 0/\Str (E4 c) k 0 (-sy):=by
 obtain ⟨b1,b2,b3,b4,hx,hy⟩:=h
 have hx' : c.fx<c.tx\/c.tx<c.fx:=by omega
 have hy' : c.fy<c.ty\/c.ty<c.fy:=by omega
 rcases hx' with hx' | hx'<;>rcases hy' with hy' | hy'
 ·refine ⟨c.tx-c.fx,c.ty-c.fy,1,1,.inl rfl,.inl rfl,by omega,by omega,?_,?_,?_,?_⟩<;>constructor<;>(try simp only [E1,E2,E3,E4])<;>first|omega|decide
 ·refine ⟨c.tx-c.fx,c.fy-c.ty,1,-1,.inl rfl,.inr rfl,by omega,by omega,?_,?_,?_,?_⟩<;>constructor<;>(try simp only [E1,E2,E3,E4])<;>first|omega|decide
 ·refine ⟨c.fx-c.tx,c.ty-c.fy,-1,1,.inr rfl,.inl rfl,by omega,by omega,?_,?_,?_,?_⟩<;>constructor<;>(try simp only [E1,E2,E3,E4])<;>first|omega|decide
 ·refine ⟨c.fx-c.tx,c.fy-c.ty,-1,-1,.inr rfl,.inr rfl,by omega,by omega,?_,?_,?_,?_⟩<;>constructor<;>(try simp only [E1,E2,E3,E4])<;>first|omega|decide
theorem Zo7 {P:Int->Prop} (hd:∀ t,P t \/ ¬P t):∀ (k:Nat),P k->P 0\/∃ t:Int,1<=t/\t<=k/\P t /\ ¬P (t-1)
 | 0,h=>.inl h
 | k+1,h=>by
  rcases hd (k:Int) with h0|h0
  ·rcases Zo7 hd k h0 with h1|⟨t,a,b,c,d⟩
   ·exact .inl h1
   ·exact .inr ⟨t,a,by omega,c,d⟩
  ·exact .inr ⟨(k:Int)+1,by omega,by omega,by simpa using h,by simpa using h0⟩
theorem Zsx {c:Can} (hc:CanOk c) {w:Wl} {n sx sy:Int} (h:Str w n sx sy):hit w n sx sy c.rc↔((E1 c).touches w=true\/(E2 c).touches w=true\/(E3 c).touches w=true\/(E4 c).touches w=true)\/(c.rc.xl<=w.fx/\w.fx<=c.rc.xh/\c.rc.yl<=w.fy/\w.fy<=c.rc.yh) := by
  obtain ⟨⟨e1, e2⟩, e3, e4⟩ := Ze4 c
  obtain ⟨m, k, ux, uy, hux, huy, hm, hk, s1, s2, s3, s4⟩ := Zl5 hc
  have hm0 := s1.hn
  have hk0 := s2.hn
  rw [Zah s1 h (.inr rfl), Zah s2 h (.inl rfl), Zah s3 h (.inr rfl), Zah s4 h (.inl rfl)]
  rw [e1, e2, e3, e4]
  constructor
  · rintro ⟨t, t0, t1, g1, g2, g3, g4⟩
    rw [e1] at g1; rw [e2] at g2; rw [e3] at g3; rw [e4] at g4
    have hf := Zo7 (P := fun t => min c.fx c.tx<=w.fx+t*sx/\w.fx+t*sx<=max c.fx c.tx/\min c.fy c.ty<=w.fy+t*sy/\w.fy+t*sy<=max c.fy c.ty) (fun t => Classical.em _) t.toNat (by rw [Int.toNat_of_nonneg t0]; exact ⟨g1, g2, g3, g4⟩)
    rcases hf with hf|⟨u, u1, u2, ⟨f1, f2, f3, f4⟩, hn⟩
    · refine .inr ?_
      simpa using hf
    · refine .inl ?_
      have hb:w.fx+u*sx=c.fx\/w.fx+u*sx=c.tx\/w.fy+u*sy=c.fy\/w.fy+u*sy=c.ty := by
        rw [Oa, Oa] at hn
        have hx := h.hx
        have hy := h.hy
        generalize u*sx=U at *
        generalize u*sy=V at *
        omega
      unfold common
      rcases hb with hb|hb|hb|hb
      · refine .inr (.inr (.inr ⟨u, (c.ty-(w.fy+u*sy))*uy, by omega, by omega, ?_, ?_, ?_, ?_⟩))<;>(try simp only [E4])<;>generalize u*sx=U at * <;> generalize u*sy=V at * <;> rcases huy with rfl|rfl<;>simp only [Sp, Rs, Sj, Tl, Tb] at * <;> omega
      · refine .inr (.inl ⟨u, ((w.fy+u*sy)-c.fy)*uy, by omega, by omega, ?_, ?_, ?_, ?_⟩)<;>(try simp only [E2])<;>generalize u*sx=U at * <;> generalize u*sy=V at * <;> rcases huy with rfl|rfl<;>simp only [Sp, Rs, Sj, Tl, Tb] at * <;> omega
      · refine .inl ⟨u, ((w.fx+u*sx)-c.fx)*ux, by omega, by omega, ?_, ?_, ?_, ?_⟩<;>(try simp only [E1])<;>generalize u*sx=U at * <;> generalize u*sy=V at * <;> rcases hux with rfl|rfl<;>simp only [Sp, Rs, Sj, Tl, Tb] at * <;> omega
      · refine .inr (.inr (.inl ⟨u, (c.tx-(w.fx+u*sx))*ux, by omega, by omega, ?_, ?_, ?_, ?_⟩))<;>(try simp only [E3])<;>generalize u*sx=U at * <;> generalize u*sy=V at * <;> rcases hux with rfl|rfl<;>simp only [Sp, Rs, Sj, Tl, Tb] at * <;> omega
  · rintro ((⟨t, s, t0, t1, s0, s1, c1, c2⟩|⟨t, s, t0, t1, s0, s1, c1, c2⟩|⟨t, s, t0, t1, s0, s1, c1, c2⟩|⟨t, s, t0, t1, s0, s1, c1, c2⟩)|hc)
    all_goals first
      | (refine ⟨t, t0, t1, ?_⟩
         rw [e1, e2, e3, e4]
         simp only [E1, E2, E3, E4] at c1 c2
         rw [c1, c2]
         rcases hux with rfl|rfl<;>rcases huy with rfl|rfl<;>simp only [Sp, Rs, Sj, Tl, Tb] at * <;> omega)
      | (refine ⟨0, by omega, by have := h.hn; omega, ?_⟩
         rw [e1, e2, e3, e4]
         simpa using hc)
theorem Zlg {c:Can} (hc:CanOk c) (x y:Int):Zqf c ⟨x,y,0,1⟩=true↔(c.rc.xl<=x/\x<=c.rc.xh)/\(c.rc.yl<=y/\y<=c.rc.yh):=by
 have q:=hc.rcOk
 have q1:=q.x
 have q2:=q.y
 have q3:=q.b1
 have q4:=q.b2
 have q5:=q.b3
 have q6:=q.b4
 unfold Zqf
 show (within x (Qa Qb (c.rc.xl*1)) (Qa Qb (c.rc.xh*1))&&within y (Qa Qb (c.rc.yl*1)) (Qa Qb (c.rc.yh*1)))=true↔_
 rw [Rs,Rs,Rs,Rs,W_eq (n:=c.rc.xl) (by omega) (by omega),W_eq (n:=c.rc.xh) (by omega) (by omega),W_eq (n:=c.rc.yl) (by omega) (by omega),W_eq (n:=c.rc.yh) (by omega) (by omega),Qf,within_iff,within_iff]
theorem Zhn (h:Hal):∀ l:List Ln,Zho h l=true↔∀ e∈l,Ve h e.a=true/\Zd3 h e=false
 | []=>by simp [Zho]
 | e::l=>by
  rw [Zho]
  have ih:=Zhn h l
  cases h1:Ve h e.a<;>cases h2:Zd3 h e<;>simp [h1,h2,ih]
theorem Zzl {h:Hal} {c:Can} (hs:Zaq h.cs) (hc:CanOk c):Zdu h c.rc=Zgw h c:=by
 have hq:=hc.rcOk
 have q1:=hq.x
 have q2:=hq.y
 have q3:=hq.b1
 have q4:=hq.b2
 have q5:=hq.b3
 have q6:=hq.b4
 obtain ⟨⟨e1,e2⟩,e3,e4⟩:=Ze4 c
 obtain ⟨m,k,ux,uy,hux,huy,hm,hk,s1,s2,s3,s4⟩:=Zl5 hc
 have hA:(Zdu h c.rc=true)↔Zu2 h.cs c.rc/\Zu h c.rc.xl c.rc.yl 1=true:=by
  unfold Zdu Zu2
  rw [Qf,Rh]
  refine and_congr ⟨fun hh w hw n sx sy g hit=>?_,fun hh w hw=>?_⟩ Iff.rfl
  ·have:=hh w hw
   rw [(Zk2 g hq).2 hit] at this
   cases this
  ·obtain ⟨n,sx,sy,g⟩:=Ue hs w hw
   have:=hh w hw n sx sy g
   rw [<-Zk2 g hq] at this
   simpa using this
 have tch:∀ (e:Wl) {m ex ey:Int},Str e m ex ey->(Zd3 h e.ln=false↔∀ w∈wls h.cs,e.touches w=false):=by
  intro e m ex ey g
  unfold Zd3
  rw [Zx9,List.any_map,Hn]
  refine ⟨fun hh w hw=>?_,fun hh w hw=>?_⟩
  ·obtain ⟨n,sx,sy,gw⟩:=Ue hs w hw
   have:=hh w hw
   rw [Fz,<-Ze3 g gw] at this
   simpa using this
  ·obtain ⟨n,sx,sy,gw⟩:=Ue hs w hw
   rw [Fz,<-Ze3 g gw]
   simpa using hh w hw
 have bnd:((h.cs.any fun p=>Zqf c ⟨p.1,p.2,0,1⟩)=false)↔∀ w∈wls h.cs,¬(c.rc.xl<=w.fx/\w.fx<=c.rc.xh/\c.rc.yl<=w.fy/\w.fy<=c.rc.yh):=by
  rw [Hn]
  refine ⟨fun hh w hw hin=>?_,fun hh p hp hin=>?_⟩
  ·simp only [wls,Oy,Tx] at hw
   obtain ⟨i,hi,rfl⟩:=hw
   refine hh (cor h.cs i) (by rw [Znq hi]; exact Rx hi) ?_
   rw [Zlg hc]
   exact ⟨⟨hin.1,hin.2.1⟩,hin.2.2.1,hin.2.2.2⟩
  ·rw [Zlg hc] at hin
   obtain ⟨i,hi,rfl⟩:=Jp.1 hp
   refine hh (wlOf h.cs i) (by simp only [wls,Oy,Tx]; exact ⟨i,hi,rfl⟩) ?_
   simp only [wlOf,Znq hi]
   exact ⟨hin.1.1,hin.1.2,hin.2.1,hin.2.2⟩
 have hB:Zgw h c=true↔Zu2 h.cs c.rc/\(Zu h c.fx c.fy 1=true/\Zu h c.tx c.fy 1=true/\Zu h c.tx c.ty 1=true/\Zu h c.fx c.ty 1=true):=by
  unfold Zgw edges
  rw [Qf,Zhn,Sc,bnd,Zwo,Zwn,Zwm,Zwl]
  simp only [Rp,Pz,or_false,forall_eq_or_imp,forall_eq]
  rw [tch _ s1,tch _ s2,tch _ s3,tch _ s4]
  have p1:Ve h (E1 c).ln.a=Zu h c.fx c.fy 1:=(Vd hs 0 (Yh hc.b1 hc.b2)).symm
  have p2:Ve h (E2 c).ln.a=Zu h c.tx c.fy 1:=(Vd hs 0 (Yh hc.b3 hc.b2)).symm
  have p3:Ve h (E3 c).ln.a=Zu h c.tx c.ty 1:=(Vd hs 0 (Yh hc.b3 hc.b4)).symm
  have p4:Ve h (E4 c).ln.a=Zu h c.fx c.ty 1:=(Vd hs 0 (Yh hc.b1 hc.b4)).symm
  rw [p1,p2,p3,p4]
  unfold Zu2
  constructor
  ·rintro ⟨⟨⟨a1,b1⟩,⟨a2,b2⟩,⟨a3,b3⟩,⟨a4,b4⟩⟩,b5⟩
   refine ⟨fun w hw n sx sy g hh=>?_,a1,a2,a3,a4⟩
   rw [Zsx hc g] at hh
   rcases hh with (hh|hh|hh|hh)|hh
   ·rw [b1 w hw] at hh; cases hh
   ·rw [b2 w hw] at hh; cases hh
   ·rw [b3 w hw] at hh; cases hh
   ·rw [b4 w hw] at hh; cases hh
   ·exact b5 w hw hh
  ·rintro ⟨nh,a1,a2,a3,a4⟩
   have key:∀ w∈wls h.cs,¬(((E1 c).touches w=true\/(E2 c).touches w=true\/(E3 c).touches w=true\/(E4 c).touches w=true)\/(c.rc.xl<=w.fx/\w.fx<=c.rc.xh/\c.rc.yl<=w.fy/\w.fy<=c.rc.yh)):=by
    intro w hw hh
    obtain ⟨n,sx,sy,g⟩:=Ue hs w hw
    exact nh w hw n sx sy g ((Zsx hc g).2 hh)
   refine ⟨⟨⟨a1,fun w hw=>?_⟩,⟨a2,fun w hw=>?_⟩,⟨a3,fun w hw=>?_⟩,⟨a4,fun w hw=>?_⟩⟩,fun w hw hh=>key w hw (.inr hh)⟩
   ·rw [Qs]; exact fun hh=>key w hw (.inl (.inl hh))
   ·rw [Qs]; exact fun hh=>key w hw (.inl (.inr (.inl hh)))
   ·rw [Qs]; exact fun hh=>key w hw (.inl (.inr (.inr (.inl hh))))
   ·rw [Qs]; exact fun hh=>key w hw (.inl (.inr (.inr (.inr hh))))
 rw [Sf,hA,hB]
 refine and_congr_right fun nh=>?_
 obtain ⟨g1,g2,g3⟩:=Zma hs hq nh
 have hx:(c.fx=c.rc.xl/\c.tx=c.rc.xh)\/(c.fx=c.rc.xh/\c.tx=c.rc.xl):=by omega
 have hy:(c.fy=c.rc.yl/\c.ty=c.rc.yh)\/(c.fy=c.rc.yh/\c.ty=c.rc.yl):=by omega
 rcases hx with ⟨x1,x2⟩|⟨x1,x2⟩<;>rcases hy with ⟨y1,y2⟩|⟨y1,y2⟩<;>rw [x1,x2,y1,y2]<;>simp only [g1,g2,g3,and_self]
def fIx (f:Nat->Int):Nat->Nat->Int × Int
 | _,0=>(0,0)
 | k,m+1=>if f k=0 then fIx f (k+1) m else (k,f k)
theorem Zcx {f:Nat->Int} {k n:Nat} (h:k<n):fIx f k (n-k)=if f k=0 then fIx f (k+1) (n-(k+1)) else (k,f k):=by
 rw [show n-k=(n-(k+1))+1 by omega]; rfl
theorem Zhh {f:Nat->Int} {k n:Nat} (h:n<=k):fIx f k (n-k)=(0,0):=by rw [show n-k=0 by omega]; rfl
def mErr (h:Hal) (i:Nat) (m:Mat):Int:=if Zdt m.nm then (if decide (Vb m.nm 0 h.ms<(i:Int)) then 5 else if (thou m.a&&(thou m.b&&(thou m.c&&thou m.d)))&&thou m.sc then 0 else 2) else 4
def Zsg (h:Hal) (i:Nat):Int:=match h.ms[i]? with
 | some m=>mErr h i m
 | none=>0
def Ziy (h:Hal) (i:Nat):Int:=if plc (cor h.cs i).1&&plc (cor h.cs i).2 then 0 else 2
def Zgh (h:Hal) (i:Nat):Int:=match h.ws[i]? with
 | some w=>Zmp h i w
 | none=>0
def Zmd (h:Hal) (i:Nat):Int:=match h.ks[i]? with
 | some w=>Zqw h i w
 | none=>0
def Zkl (h:Hal) (i:Nat):Int:=match h.ss[i]? with
 | some w=>Zrr h i w
 | none=>0
def Zo6 (h:Hal):Int:=if decide (Vb h.fl 0 h.ms<0)||decide (Vb h.ce 0 h.ms<0) then 6 else 0
def Zj0 (h:Hal):List (Int × Int × Int) :=
  [(0, 0, unl (Zdt h.nm) 4), (0, 0, unl (within h.ht 2 5000) 2), (0, 0, unl (decide ((h.ms.length:Int)<=10)) 8), (1, fIx (Zsg h) 0 h.ms.length), (0, 0, Zo6 h), (0, 0, unl (decide (3<=(h.cs.length:Int))&&decide ((h.ws.length:Int)=h.cs.length)) 10),
   (0, 0, unl (decide ((h.ws.length:Int)<=12)) 8), (2, fIx (Ziy h) 0 h.cs.length), (3, fIx (Zgh h) 0 h.ws.length), (0, 0, unl (Zjc h.cs) 24), (0, 0, unl (decide (0<Zmu h.cs)) 9), (0, 0, unl (decide ((h.ks.length:Int)<=4)) 8), (4, fIx (Zmd h) 0 h.ks.length),
   (0, 0, unl (decide ((h.ss.length:Int)<=40)) 8), (5, fIx (Zkl h) 0 h.ss.length)]
def chkR (h:Hal):Int × Int × Int:=Ye (Zj0 h)
theorem Uy (s:ByteArray):∀ l:List ByteArray,Xn s l=true↔s∈l
 | []=>by simp [Xn]
 | a::l=>by rw [Xn,Qy,Uy s l,Zcn,decide_eq_true_eq,Rp]
theorem Zc1 (s a:ByteArray) (l:List ByteArray):s∈addK a l↔s=a\/s∈l:=by
 unfold addK
 cases h:Xn a l with
 | true =>
  have:=(Uy a l).1 h
  constructor
  ·exact .inr
  ·rintro (rfl|h)
   ·exact this
   ·exact h
 | false=>simp [or_comm]
theorem Zom (s:ByteArray):∀ (l:List Mat) (i:Nat),Vb s i l = -1\/(i:Int)<=Vb s i l
 | [],i=>.inl rfl
 | m::l,i=>by
  rw [Vb]
  split
  ·exact .inr (by omega)
  ·rcases Zom s l (i+1) with h|h
   ·exact .inl h
   ·exact .inr (by omega)
theorem Zcf (s:ByteArray):∀ (l:List Mat) (i:Nat),Vb s i l<0 ↔ ¬∃ m∈l,m.nm=s
 | [],i=>by simp [Vb]
 | m::l,i=>by
  rw [Vb,Zcn]
  by_cases h:m.nm=s
  ·simp [h]
  ·simp only [h,decide_false,Rn,if_false]
   rw [Zcf s l (i+1)]
   simp [h]
theorem Zol (s:ByteArray):∀ (l:List Mat) (i k:Nat),(∃ m∈l,m.nm=s)->(Vb s i l<((i+k:Nat):Int)↔∃ m∈l.take k,m.nm=s)
 | [],i,k,h=>by simp at h
 | m::l,i,0,h=>by
  rw [Vb]
  split
  ·simp
  ·rename_i hx
   rw [Zcn,decide_eq_true_eq] at hx
   have h1:∃ m∈l,m.nm=s:=by
    obtain ⟨u,hu,e⟩:=h
    rcases Rp.1 hu with rfl|hu
    ·exact absurd e hx
    ·exact ⟨u,hu,e⟩
   have h2:=mt (Zcf s l (i+1)).1 (by simpa using h1)
   have h3:=Zom s l (i+1)
   simp
   omega
 | m::l,i,k+1,h=>by
  rw [Vb,Zcn]
  by_cases hx:m.nm=s
  ·simp [hx]; omega
  ·have h1:∃ m∈l,m.nm=s:=by
    obtain ⟨u,hu,e⟩:=h
    rcases Rp.1 hu with rfl|hu
    ·exact absurd e hx
    ·exact ⟨u,hu,e⟩
   have:=Zol s l (i+1) k h1
   simp only [hx,decide_false,Rn,if_false]
   rw [show i+(k+1)=i+1+k by omega,this]
   simp [hx]
theorem Zk3 (h:Hal) (n:Nat) (hn:n=h.ms.length):∀ (m k:Nat) (ns:List ByteArray),m=n-k->k<=n->(∀ s,s∈ns↔∃ u∈h.ms.take k,u.nm=s) ->
  ((Xk k ns (h.ms.drop k)).1,(Xk k ns (h.ms.drop k)).2.1)=fIx (Zsg h) k (n-k)/\((Xk k ns (h.ms.drop k)).2.1=0->∀ s,s∈(Xk k ns (h.ms.drop k)).2.2↔∃ u∈h.ms,u.nm=s)
 | 0,k,ns,hm,hk,hs=>by
  have:k=n:=by omega
  rw [Zhh (by omega),Rb (by omega)]
  refine ⟨rfl,fun _ s=>?_⟩
  rw [Xk,hs s,Wz (by omega)]
 | m+1,k,ns,hm,hk,hs=>by
  have hlt:k<h.ms.length:=by omega
  rw [Zcx (by omega:k<n),Qr hlt,Xk]
  have e1:Zsg h k=mErr h k h.ms[k]:=by unfold Zsg; rw [Ql hlt]
  have e2:mErr h k h.ms[k]=if Zo h.ms[k].nm ns=0 then Za2 h.ms[k] else Zo h.ms[k].nm ns:=by
   unfold mErr Zo
   rw [Za7]
   cases Vc h.ms[k].nm with
   | false=>simp
   | true =>
    have h1:(Vb h.ms[k].nm 0 h.ms<(k:Int))↔Xn h.ms[k].nm ns=true:=by
     have:=Zol h.ms[k].nm h.ms 0 k ⟨h.ms[k],Rx hlt,rfl⟩
     rw [Nat.zero_add] at this
     rw [this,Uy,hs]
    rw [show decide (Vb h.ms[k].nm 0 h.ms<(k:Int))=Xn h.ms[k].nm ns by rw [Sf,decide_eq_true_eq,h1]]
    cases Xn h.ms[k].nm ns with
    | true=>simp
    | false =>
     simp only [if_true,Rn,if_false,Za2]
     cases thou h.ms[k].a<;>cases thou h.ms[k].b<;>cases thou h.ms[k].c<;>cases thou h.ms[k].d<;>cases thou h.ms[k].sc<;>rfl
  rw [e1,e2]
  by_cases c1:Zo h.ms[k].nm ns=0
  ·rw [if_pos c1,if_pos c1]
   by_cases c2:Za2 h.ms[k]=0
   ·rw [if_pos c2,if_pos c2]
    refine Zk3 h n hn m (k+1) _ (by omega) (by omega) fun s=>?_
    rw [Zc1,hs,Sd hlt]
    simp only [Sy,Of]
    constructor
    ·rintro (rfl|⟨u,hu,e⟩)
     ·exact ⟨_,.inr rfl,rfl⟩
     ·exact ⟨u,.inl hu,e⟩
    ·rintro ⟨u,hu|rfl,e⟩
     ·exact .inr ⟨u,hu,e⟩
     ·exact .inl e.symm
   ·rw [if_neg c2,if_neg c2]
    exact ⟨rfl,fun hh=>absurd hh c2⟩
  ·rw [if_neg c1,if_neg c1,if_neg c1]
   exact ⟨rfl,fun hh=>absurd hh c1⟩
theorem Xx (x:Int):small x 5000=plc x:=by
 unfold small plc
 rw [show IntKind.i64.wrap (0-5000) = -5000 by decide]
theorem Zl9 (h:Hal) (n:Nat) (hn:n=h.cs.length):∀ (m k:Nat),m=n-k->k<=n->Zdz k (h.cs.drop k)=fIx (Ziy h) k (n-k)
 | 0,k,hm,hk=>by
  rw [Zhh (by omega),Rb (by omega)]; rfl
 | m+1,k,hm,hk=>by
  have hlt:k<h.cs.length:=by omega
  rw [Zcx (by omega:k<n),Qr hlt,Zdz]
  have e1:Ziy h k=if Zeo h.cs[k].1 h.cs[k].2 then 0 else 2:=by
   unfold Ziy Zeo
   rw [Znq hlt,Xx,Xx]
  rw [e1]
  have ih:=Zl9 h n hn m (k+1) (by omega) (by omega)
  cases Zeo h.cs[k].1 h.cs[k].2
  ·simp
  ·simpa using ih
theorem Zbq {f:Nat->Int} {n:Nat}:∀ (m k:Nat),m=n-k->(fIx f k (n-k)).2=0->∀ i,k<=i->i<n->f i=0
 | 0,k,hm,h,i,h1,h2=>by omega
 | m+1,k,hm,h,i,h1,h2=>by
  rw [Zcx (by omega:k<n)] at h
  by_cases c:f k=0
  ·rw [if_pos c] at h
   by_cases e:i=k
   ·subst e; exact c
   ·exact Zbq m (k+1) (by omega) h i (by omega) h2
  ·rw [if_neg c] at h
   exact absurd h c
def Zn0 (cs:List (Int × Int)):Prop:=∀ i,i<cs.length->(-5000<=(cor cs i).1/\(cor cs i).1<=5000)/\(-5000<=(cor cs i).2/\(cor cs i).2<=5000)
theorem Zpd {h:Hal} (hz:(fIx (Ziy h) 0 h.cs.length).2=0):Zn0 h.cs:=by
 intro i hi
 have:=Zbq (n:=h.cs.length) _ 0 rfl hz i (Rl _) hi
 unfold Ziy at this
 have h1:(plc (cor h.cs i).1&&plc (cor h.cs i).2)=true:=by
  cases hq:(plc (cor h.cs i).1&&plc (cor h.cs i).2)
  ·rw [hq] at this; simp at this
  ·rfl
 rw [Qf] at h1
 exact ⟨within_iff.1 h1.1,within_iff.1 h1.2⟩
theorem Zpp {cs:List (Int × Int)} (hb:Zn0 cs) {i:Nat} (hi:i<cs.length):((-5000<=(wlOf cs i).fx/\(wlOf cs i).fx<=5000)/\(-5000<=(wlOf cs i).fy/\(wlOf cs i).fy<=5000))/\((-5000<=(wlOf cs i).tx/\(wlOf cs i).tx<=5000)/\(-5000<=(wlOf cs i).ty/\(wlOf cs i).ty<=5000)) :=
 ⟨hb i hi,hb _ (Nat.mod_lt _ (by omega))⟩
theorem Zrm {n:Int} (h : -10000<=n/\n<=10000):size n=if n<0 then -n else n:=Vo (by omega)
theorem Zk5 {w:Wl} (h1:(-5000<=w.fx/\w.fx<=5000)/\(-5000<=w.fy/\w.fy<=5000)) (h2:(-5000<=w.tx/\w.tx<=5000)/\(-5000<=w.ty/\w.ty<=5000)):Xb w=Zeb w.ln:=by
 unfold Xb Zeb Wl.straight Wl.dx Wl.dy Wl.ln
 dsimp only
 rw [W_eq (n:=w.tx-w.fx) (by omega) (by omega),W_eq (n:=w.ty-w.fy) (by omega) (by omega)]
 have e1:decide (w.fx=w.tx)=decide (w.tx-w.fx=0):=by rw [decide_eq_decide]; omega
 have e2:decide (w.fy=w.ty)=decide (w.ty-w.fy=0):=by rw [decide_eq_decide]; omega
 rw [e1,e2]
 cases decide (w.tx-w.fx=0)<;>cases decide (w.ty-w.fy=0)<;>cases decide (size (w.tx-w.fx)=size (w.ty-w.fy))<;>rfl
theorem Ybw {w:Wl} (h1:(-5000<=w.fx/\w.fx<=5000)/\(-5000<=w.fy/\w.fy<=5000)) (h2:(-5000<=w.tx/\w.tx<=5000)/\(-5000<=w.ty/\w.ty<=5000)) (hz:Xb w=0):∃ n sx sy,Str w n sx sy:=by
 unfold Xb Wl.straight Wl.dx Wl.dy at hz
 rw [W_eq (n:=w.tx-w.fx) (by omega) (by omega),W_eq (n:=w.ty-w.fy) (by omega) (by omega),Zrm (by omega),Zrm (by omega)] at hz
 have g1:¬(w.fx=w.tx/\w.fy=w.ty):=by
  rintro ⟨a,b⟩
  rw [decide_eq_true a,decide_eq_true b] at hz
  simp at hz
 have g2:w.tx-w.fx=0\/w.ty-w.fy=0\/w.tx-w.fx=w.ty-w.fy\/w.tx-w.fx = -(w.ty-w.fy):=by
  have g3:(decide (w.fx=w.tx)&&decide (w.fy=w.ty))=false:=by
   rw [Qs]; intro hq; simp only [Qf,decide_eq_true_eq] at hq; exact g1 hq
  rw [g3] at hz
  simp only [Rn,if_false] at hz
  have g4:(decide (w.tx-w.fx=0)||decide (w.ty-w.fy=0)||decide ((if w.tx-w.fx<0 then -(w.tx-w.fx) else w.tx-w.fx)=if w.ty-w.fy<0 then -(w.ty-w.fy) else w.ty-w.fy))=true:=by
   cases hq:(decide (w.tx-w.fx=0)||decide (w.ty-w.fy=0)||decide ((if w.tx-w.fx<0 then -(w.tx-w.fx) else w.tx-w.fx)=if w.ty-w.fy<0 then -(w.ty-w.fy) else w.ty-w.fy))
   ·rw [hq] at hz; simp at hz
   ·rfl
  simp only [Qy,decide_eq_true_eq] at g4
  omega
 obtain ⟨⟨b1,b2⟩,b3,b4⟩:=h1
 rcases Wj (w.tx-w.fx) 0 with c1|c1|c1<;>rcases Wj (w.ty-w.fy) 0 with c2|c2|c2
 ·exact ⟨w.fx-w.tx,-1,-1,by omega,by omega,by omega,by omega,by omega,by omega,by omega,by omega,by omega,by omega⟩
 ·exact ⟨w.fx-w.tx,-1,0,by omega,by omega,by omega,by omega,by omega,by omega,by omega,by omega,by omega,by omega⟩
 ·exact ⟨w.fx-w.tx,-1,1,by omega,by omega,by omega,by omega,by omega,by omega,by omega,by omega,by omega,by omega⟩
 ·exact ⟨w.fy-w.ty,0,-1,by omega,by omega,by omega,by omega,by omega,by omega,by omega,by omega,by omega,by omega⟩
 ·exact absurd ⟨by omega,by omega⟩ g1
 ·exact ⟨w.ty-w.fy,0,1,by omega,by omega,by omega,by omega,by omega,by omega,by omega,by omega,by omega,by omega⟩
 ·exact ⟨w.tx-w.fx,1,-1,by omega,by omega,by omega,by omega,by omega,by omega,by omega,by omega,by omega,by omega⟩
 ·exact ⟨w.tx-w.fx,1,0,by omega,by omega,by omega,by omega,by omega,by omega,by omega,by omega,by omega,by omega⟩
 ·exact ⟨w.tx-w.fx,1,1,by omega,by omega,by omega,by omega,by omega,by omega,by omega,by omega,by omega,by omega⟩
theorem Zps {h:Hal} {i:Nat} {w:Wal} (hz:Zmp h i w=0):Zeb (lnOf h.cs i)=0:=by
 unfold Zmp at hz
 split at hz
 ·split at hz
  ·cases hz
  ·split at hz
   ·cases hz
   ·split at hz
    ·cases hz
    ·exact hz
 ·cases hz
theorem Zmj {h:Hal} (hb:Zn0 h.cs) (hwc:h.ws.length=h.cs.length) (hz:(fIx (Zgh h) 0 h.ws.length).2=0):Zaq h.cs:=by
 intro i hi
 have h1:=Zbq (n:=h.ws.length) _ 0 rfl hz i (Rl _) (by omega)
 unfold Zgh at h1
 rw [Ql (by omega)] at h1
 have h2:=Zps h1
 rw [Zds,<-Zk5 (Zpp hb hi).1 (Zpp hb hi).2] at h2
 exact Ybw (Zpp hb hi).1 (Zpp hb hi).2 h2
theorem Zpo {α:Type} {f:α->ByteArray} {l:List α} {s:ByteArray}:(l.any fun v=>f v==s)=true↔∃ u∈l,f u=s:=by
 rw [List.any_eq_true]
 simp only [Zcn,decide_eq_true_eq]
theorem Zg6 {h:Hal} {ms:List ByteArray} (hms:∀ s,s∈ms↔∃ u∈h.ms,u.nm=s) (s:ByteArray):Xn s ms = !decide (Vb s 0 h.ms<0):=by
 rw [Sf,Uy,hms,Sc,decide_eq_false_iff_not,Zcf,Lt]
theorem Zka (h:Hal) (n:Nat) (hn:n=h.ws.length) (hwc:h.ws.length=h.cs.length) (hb:Zn0 h.cs) {ms:List ByteArray} (hms:∀ s,s∈ms↔∃ u∈h.ms,u.nm=s):∀ (m k:Nat) (ns:List ByteArray),m=n-k->k<=n->(∀ s,s∈ns↔(s=Za9\/s=Zff)\/∃ u∈h.ws.take k,u.nm=s) ->
  ((Uj h.cs ms k ns (h.ws.drop k)).1,(Uj h.cs ms k ns (h.ws.drop k)).2.1)=fIx (Zgh h) k (n-k)/\((Uj h.cs ms k ns (h.ws.drop k)).2.1=0->∀ s,s∈(Uj h.cs ms k ns (h.ws.drop k)).2.2↔(s=Za9\/s=Zff)\/∃ u∈h.ws,u.nm=s)
 | 0,k,ns,hm,hk,hs=>by
  rw [Zhh (by omega),Rb (by omega)]
  refine ⟨rfl,fun _ s=>?_⟩
  rw [Uj,hs s,Wz (by omega)]
 | m+1,k,ns,hm,hk,hs=>by
  have hlt:k<h.ws.length:=by omega
  rw [Zcx (by omega:k<n),Qr hlt,Uj]
  have e1:Zgh h k=Zmp h k h.ws[k]:=by unfold Zgh; rw [Ql hlt]
  have e2:Zmp h k h.ws[k]=if Zo h.ws[k].nm ns=0 then wErr h.cs ms k h.ws[k] else Zo h.ws[k].nm ns:=by
   unfold Zmp Zo
   rw [Za7]
   cases Vc h.ws[k].nm with
   | false=>simp
   | true =>
    have h1:Xn h.ws[k].nm ns=(((h.ws[k].nm==Za9)||(h.ws[k].nm==Zff))||(h.ws.take k).any fun v=>v.nm==h.ws[k].nm):=by
     rw [Sf,Uy,hs,Qy,Qy,Zpo,Zcn,Zcn,decide_eq_true_eq,decide_eq_true_eq]
    rw [h1]
    have h2:wErr h.cs ms k h.ws[k]=if decide (Vb h.ws[k].mt 0 h.ms<0)||(!(h.ws[k].cu==⟨#[]⟩)&&decide (Vb h.ws[k].cu 0 h.ms<0)) then 6 else Zeb (lnOf h.cs k):=by
     unfold wErr Zpt
     rw [Zg6 hms,Zg6 hms,Zds,<-Zk5 (Zpp hb (by omega)).1 (Zpp hb (by omega)).2]
     cases decide (Vb h.ws[k].mt 0 h.ms<0)<;>cases (h.ws[k].cu==⟨#[]⟩)<;>cases decide (Vb h.ws[k].cu 0 h.ms<0)<;>rfl
    rw [<-h2]
    cases (h.ws.take k).any (fun v=>v.nm==h.ws[k].nm)<;>cases (h.ws[k].nm==Za9)<;>cases (h.ws[k].nm==Zff)<;>rfl
  rw [e1,e2]
  by_cases c1:Zo h.ws[k].nm ns=0
  ·rw [if_pos c1,if_pos c1]
   by_cases c2:wErr h.cs ms k h.ws[k]=0
   ·rw [if_pos c2,if_pos c2]
    refine Zka h n hn hwc hb hms m (k+1) _ (by omega) (by omega) fun s=>?_
    rw [Zc1,hs,Sd hlt]
    simp only [Sy,Of]
    constructor
    ·rintro (rfl|hl|⟨u,hu,e⟩)
     ·exact .inr ⟨_,.inr rfl,rfl⟩
     ·exact .inl hl
     ·exact .inr ⟨u,.inl hu,e⟩
    ·rintro (hl|⟨u,hu|rfl,e⟩)
     ·exact .inr (.inl hl)
     ·exact .inr (.inr ⟨u,hu,e⟩)
     ·exact .inl e.symm
   ·rw [if_neg c2,if_neg c2]
    exact ⟨rfl,fun hh=>absurd hh c2⟩
  ·rw [if_neg c1,if_neg c1,if_neg c1]
   exact ⟨rfl,fun hh=>absurd hh c1⟩
theorem Zwz {h:Hal} (hs:Zaq h.cs) (c:Can):Zeq h c=if within c.hs.length 1 4 then (if Zee h.ht none c.hs=0 then (if plc c.fx&&plc c.fy&&plc c.tx&&plc c.ty then (if decide (c.fx=c.tx)||decide (c.fy=c.ty) then 11 else if Zgw h c then 0 else 24) else 2) else Zee h.ht none c.hs) else 10:=by
 unfold Zeq
 have e:(if Zeo c.fx c.fy&&Zeo c.tx c.ty then (if decide (c.fx=c.tx)||decide (c.fy=c.ty) then 11 else unl (Zdu h (rcOf c.fx c.fy c.tx c.ty)) 24) else 2)=if plc c.fx&&plc c.fy&&plc c.tx&&plc c.ty then (if decide (c.fx=c.tx)||decide (c.fy=c.ty) then 11 else if Zgw h c then (0:Int) else 24) else 2:=by
  unfold Zeo
  rw [Xx,Xx,Xx,Xx,<-Bool.and_assoc]
  by_cases hp:(plc c.fx&&plc c.fy&&plc c.tx&&plc c.ty)=true
  ·rw [if_pos hp,if_pos hp]
   by_cases hd:(decide (c.fx=c.tx)||decide (c.fy=c.ty))=true
   ·rw [if_pos hd,if_pos hd]
   ·rw [if_neg hd,if_neg hd]
    simp only [Qf] at hp
    simp only [Qy,decide_eq_true_eq,not_or] at hd
    rw [show rcOf c.fx c.fy c.tx c.ty=c.rc from rfl,Zzl hs ⟨within_iff.1 hp.1.1.1,within_iff.1 hp.1.1.2,within_iff.1 hp.1.2,within_iff.1 hp.2,hd.1,hd.2⟩]
    cases Zgw h c<;>rfl
  ·rw [if_neg hp,if_neg hp]
 rw [e]
theorem Zmc (h:Hal) (n:Nat) (hn:n=h.ks.length) (hst:Zaq h.cs) {ms:List ByteArray} (hms:∀ s,s∈ms↔∃ u∈h.ms,u.nm=s):∀ (m k:Nat) (ns:List ByteArray),m=n-k->k<=n->(∀ s,s∈ns↔((s=Za9\/s=Zff)\/∃ u∈h.ws,u.nm=s)\/∃ u∈h.ks.take k,u.nm=s) ->
  ((Zep h ms k ns (h.ks.drop k)).1,(Zep h ms k ns (h.ks.drop k)).2.1)=fIx (Zmd h) k (n-k)
 | 0,k,ns,hm,hk,hs=>by
  rw [Zhh (by omega),Rb (by omega)]; rfl
 | m+1,k,ns,hm,hk,hs=>by
  have hlt:k<h.ks.length:=by omega
  rw [Zcx (by omega:k<n),Qr hlt,Zep]
  have e1:Zmd h k=Zqw h k h.ks[k]:=by unfold Zmd; rw [Ql hlt]
  have e2:Zqw h k h.ks[k]=if Zo h.ks[k].nm ns=0 then cErr h ms h.ks[k] else Zo h.ks[k].nm ns:=by
   unfold Zqw Zo
   rw [Za7]
   cases Vc h.ks[k].nm with
   | false=>simp
   | true =>
    have h1:Xn h.ks[k].nm ns=((((h.ks[k].nm==Za9)||(h.ks[k].nm==Zff))||(h.ws.any fun v=>v.nm==h.ks[k].nm))||(h.ks.take k).any fun v=>v.nm==h.ks[k].nm):=by
     rw [Sf,Uy,hs,Qy,Qy,Qy,Zpo,Zpo,Zcn,Zcn,decide_eq_true_eq,decide_eq_true_eq]
    rw [h1]
    unfold cErr
    rw [Zg6 hms,<-Zwz hst]
    cases (h.ks.take k).any (fun v=>v.nm==h.ks[k].nm)<;>cases (h.ws.any fun v=>v.nm==h.ks[k].nm)<;>cases (h.ks[k].nm==Za9)<;>cases (h.ks[k].nm==Zff)<;>cases decide (Vb h.ks[k].mt 0 h.ms<0)<;>rfl
  rw [e1,e2]
  by_cases c1:Zo h.ks[k].nm ns=0
  ·rw [if_pos c1,if_pos c1]
   by_cases c2:cErr h ms h.ks[k]=0
   ·rw [if_pos c2,if_pos c2]
    refine Zmc h n hn hst hms m (k+1) _ (by omega) (by omega) fun s=>?_
    rw [Zc1,hs,Sd hlt]
    simp only [Sy,Of]
    constructor
    ·rintro (rfl|hl|⟨u,hu,e⟩)
     ·exact .inr ⟨_,.inr rfl,rfl⟩
     ·exact .inl hl
     ·exact .inr ⟨u,.inl hu,e⟩
    ·rintro (hl|⟨u,hu|rfl,e⟩)
     ·exact .inr (.inl hl)
     ·exact .inr (.inr ⟨u,hu,e⟩)
     ·exact .inl e.symm
   ·rw [if_neg c2,if_neg c2]
  ·rw [if_neg c1,if_neg c1,if_neg c1]
theorem Zvn {h:Hal} (hst:Zaq h.cs) (x y z:Int):Zji h x y z=if plc x&&plc y&&plc z then (if Zam h ⟨x,y,z,1⟩ then 0 else 24) else 2:=by
 unfold Zji
 rw [Xx,Xx,Xx]
 by_cases hp:(plc x&&plc y&&plc z)=true
 ·rw [if_pos hp,if_pos hp]
  simp only [Qf] at hp
  unfold Zqk Zam
  rw [Vd hst z (Yh (within_iff.1 hp.1.1) (within_iff.1 hp.1.2))]
 ·rw [if_neg hp,if_neg hp]
theorem Zkk (h:Hal) (n:Nat) (hn:n=h.ss.length) (hst:Zaq h.cs):∀ (m k:Nat) (ns:List ByteArray),m=n-k->k<=n->(∀ s,s∈ns↔∃ u∈h.ss.take k,u.nm=s) ->
  ((Zdl h k ns (h.ss.drop k)).1,(Zdl h k ns (h.ss.drop k)).2.1)=fIx (Zkl h) k (n-k)
 | 0,k,ns,hm,hk,hs=>by
  rw [Zhh (by omega),Rb (by omega)]; rfl
 | m+1,k,ns,hm,hk,hs=>by
  have hlt:k<h.ss.length:=by omega
  rw [Zcx (by omega:k<n),Qr hlt,Zdl]
  have e1:Zkl h k=Zrr h k h.ss[k]:=by unfold Zkl; rw [Ql hlt]
  have e2:Zrr h k h.ss[k]=if Zo h.ss[k].nm ns=0 then Zji h h.ss[k].x h.ss[k].y h.ss[k].z else Zo h.ss[k].nm ns:=by
   unfold Zrr Zo
   rw [Za7,<-Zvn hst]
   cases Vc h.ss[k].nm with
   | false=>simp
   | true =>
    have h1:Xn h.ss[k].nm ns=(h.ss.take k).any fun v=>v.nm==h.ss[k].nm:=by
     rw [Sf,Uy,hs,Zpo]
    rw [h1]
    cases (h.ss.take k).any (fun v=>v.nm==h.ss[k].nm)<;>rfl
  rw [e1,e2]
  by_cases c1:Zo h.ss[k].nm ns=0
  ·rw [if_pos c1,if_pos c1]
   by_cases c2:Zji h h.ss[k].x h.ss[k].y h.ss[k].z=0
   ·rw [if_pos c2,if_pos c2]
    refine Zkk h n hn hst m (k+1) _ (by omega) (by omega) fun s=>?_
    rw [Zc1,hs,Sd hlt]
    simp only [Sy,Of]
    constructor
    ·rintro (rfl|⟨u,hu,e⟩)
     ·exact ⟨_,.inr rfl,rfl⟩
     ·exact ⟨u,.inl hu,e⟩
    ·rintro ⟨u,hu|rfl,e⟩
     ·exact .inr ⟨u,hu,e⟩
     ·exact .inl e.symm
   ·rw [if_neg c2,if_neg c2]
  ·rw [if_neg c1,if_neg c1,if_neg c1]
theorem Xr {x y:Int × Int × Int} {l m:List (Int × Int × Int)} (h:x=y) (hl:y.2.2=0->Ye l=Ye m):Ye (x::l)=Ye (y::m):=by
 subst h
 rw [Ye,Ye]
 by_cases c:x.2.2=0
 ·rw [if_pos c,if_pos c,hl c]
 ·rw [if_neg c,if_neg c]
theorem Ydh {h:Hal} (hf:h.few):chkR h=chk h:=by
 unfold chkR Zj0 chk Znu
 refine Xr (by rw [Za7]; rfl) fun _=>Xr rfl fun _=>Xr rfl fun _=>?_
 obtain ⟨m1,m2⟩:=Zk3 h h.ms.length rfl _ 0 [] rfl (Rl _) (fun s=>by simp)
 rw [Wk,Wv] at m1
 rw [Wk] at m2
 refine Xr (by rw [<-m1]) fun z1=>?_
 have hms:=m2 z1
 refine Xr ?_ fun _=>Xr rfl fun z2=>Xr rfl fun _=>?_
 ·unfold Zo6 Zhf Hal.names
  rw [Zg6 hms,Zg6 hms]
  cases decide (Vb h.fl 0 h.ms<0)<;>cases decide (Vb h.ce 0 h.ms<0)<;>rfl
 have hwc:3<=h.cs.length/\h.ws.length=h.cs.length:=by
  have:=Vt z2 (by decide)
  simp only [set7,Qf,decide_eq_true_eq] at this
  omega
 have c1:=Zl9 h h.cs.length rfl _ 0 rfl (Rl _)
 rw [Wk,Wv] at c1
 refine Xr (by rw [c1]) fun z3=>?_
 have hb:Zn0 h.cs:=Zpd (by rw [c1] at z3; exact z3)
 obtain ⟨w1,w2⟩:=Zka h h.ws.length rfl hwc.2 hb hms _ 0 su0 rfl (Rl _) (fun s=>by
  rw [su0,Zc1,Zc1]; simp [or_comm])
 rw [Wk,Wv] at w1
 rw [Wk] at w2
 refine Xr (by rw [<-w1]; rfl) fun z4=>?_
 have hst:Zaq h.cs:=Zmj hb hwc.2 (by rw [<-w1]; exact z4)
 refine Xr (by rw [Zkg hst hwc.1 hf.2.1]) fun _=>Xr (by rw [Zkc]) fun _=>Xr rfl fun _=>?_
 have k1:=Zmc h h.ks.length rfl hst hms _ 0 h.wal.2.2 rfl (Rl _) (fun s=>by
  have:=w2 z4 s
  rw [show h.wal.2.2=(Uj h.cs h.names 0 su0 h.ws).2.2 from rfl]
  simp only [List.take_zero,Pz,false_and,exists_false,or_false]
  exact this)
 rw [Wk,Wv] at k1
 refine Xr (by rw [<-k1]; rfl) fun _=>Xr rfl fun _=>?_
 have s1:=Zkk h h.ss.length rfl hst _ 0 [] rfl (Rl _) (fun s=>by simp)
 rw [Wk,Wv] at s1
 exact Xr (by rw [<-s1]) fun _=>rfl
def Uf (s:ByteArray):Bool:=!decide ((20:Int)<(s.size:Int))
def fewM (m:Mat):Bool:=Uf m.nm
def fewW (w:Wal):Bool:=Uf w.nm&&Uf w.mt&&Uf w.cu
def fewC (c:Can):Bool:=Uf c.nm&&Uf c.mt && !decide ((6:Int)<(c.hs.length:Int))
def fewS (s:Sea):Bool:=Uf s.nm
theorem Zr6 (ns:List Int):Zcb (nl ns)=true:=by simp [Zcb,nl,AV.one]
theorem Zx3 {a b:List Int} (h:nl a=nl b):a=b:=by
 unfold nl at h
 exact List.map_inj_right (fun x y hxy=>by simpa using hxy) |>.1 h
structure Stg where
 hs:List Int
 dr:List Int
abbrev Stg.cells (s:Stg):List AV:=[.isl 1 (nl s.hs),.isl 1 (nl s.dr)]
abbrev Stg.av (s:Stg):AV:=.agg [.isl 1 (nl s.hs),.isl 1 (nl s.dr)]
def Stg.few (s:Stg):Prop:=s.hs.length<1000/\s.dr.length<1000
def kLen (h:Hal) (i:Nat):Int:=match h.ks[i]? with
 | some c=>(c.hs.length:Int)
 | none=>0
def curt (h:Hal) (n:Int):ByteArray:=match h.ws[n.toNat]? with
 | some w=>w.cu
 | none=>⟨#[]⟩
def hgE (h:Hal):Nat->List Int->Int
 | _,[]=>0
 | i,n::l=>if within n 0 (Qa Qb (kLen h i-1)) then hgE h (i+1) l else 6
def drOk (h:Hal) (n:Int):Bool:=within n 0 (Qa Qb ((h.ws.length:Int)-1)) && !(curt h n==⟨#[]⟩)
def Zsa (p:Option Int) (n:Int):Bool:=match p with
 | some q=>decide (n<=q)
 | none=>false
def drE (h:Hal):Option Int->List Int->Int
 | _,[]=>0
 | p,n::l=>if drOk h n then (if Zsa p n then 9 else drE h (some n) l) else 6
def setE (h:Hal) (s:Stg):Int:=if (s.hs.length:Int)=h.ks.length then (if hgE h 0 s.hs=0 then drE h none s.dr else hgE h 0 s.hs) else 10
theorem Yad {h:Hal} {i:Nat} (hi:i<h.ks.length):kLen h i=((nl h.ks[i].hs).length:Int):=by unfold kLen; rw [Ql hi,Xa]
theorem Ydr {h:Hal} {n:Int} (hw:within n 0 (Qa Qb ((h.ws.length:Int)-1))=true) (hl:h.ws.length<1000):∃ w,(h.ws.map Wal.av)[n.toNat]?=some (Wal.av w)/\curt h n=w.cu/\0<=n/\n<h.ws.length:=by
 rw [W_eq (by omega) (by omega)] at hw
 have hw:=within_iff.1 hw
 have hi:n.toNat<h.ws.length:=by omega
 exact ⟨h.ws[n.toNat],by simp [hi],by unfold curt; rw [Ql hi],by omega,by omega⟩
abbrev Z123 (h:Hal) (s:Stg):List (Nat × ABlk):=[(1,.row 2 [s.cells] true false),(0,.row 9 [h.cells] true false)]
theorem c123 {h:Hal} (hf:h.few) {s:Stg} (hs:s.few):PCall Tryz.prog 49 [h.av,s.av] ⟨I (setE h s),[]⟩:=by
 have l1:=Xa s.hs
 have l2:=Xa s.dr
 have l3:=Zac h.ks
 have l4:=Un h.ws
 obtain ⟨f1,f2,f3,f4,f5,f6⟩:=hf
 obtain ⟨g1,g2⟩:=hs
 refine pn Zip Tryz.func49 ?_
 by_cases hlen:(s.hs.length:Int)=h.ks.length
 ·unfold setE
  rw [if_pos hlen]
  repeat'(first|refine wk1 ?_|(refine wk2 ?_ ?_<;>intro _)|fail)
  refine Za3 (S:=Nat × Int) (fun t=>s.hs.length-t.1) (fun t=>[(2,.ptr 0 0 0),(3,.ptr 1 0 0),(4,I 0),(18,.isl 1 (nl s.hs)),(19,I (nl s.hs).length),(20,I t.2)]) (fun _=>Z123 h s) 2 2 (fun t=>t.2=t.1/\t.1<=s.hs.length/\hgE h t.1 (s.hs.drop t.1)=hgE h 0 s.hs) (0,0) ⟨rfl,Rl _,rfl⟩ (Qm _) [] rfl (kps) (kps) ?_
  rintro ⟨k,i⟩ ⟨hi,hk,hh⟩
  dsimp only at hi hk hh ⊢
  subst hi
  generalize hgE h 0 s.hs=V at *
  refine bs.av (sx:=nos) Zip ?_
  by_cases hlt:k<s.hs.length
  ·have e1:=Zdc hlt
   have e2:=Ziz (l:=h.ks) (k:=k) (by omega)
   have e3:=Yad (h:=h) (i:=k) (by omega)
   rw [Qr hlt,hgE,e3] at hh
   clear e3
   repeat'(first|refine wk1 ?_|(refine wk2 ?_ ?_<;>intro _)|fail)
   ·rename_i hx
    rw [show within s.hs[k] 0 (Qa Qb (((nl (h.ks[k]'(by omega)).hs).length:Int)-1))=false by simpa using hx] at hh
    exact Zd (by rw [<-hh]; rfl)
   ·rename_i hx
    rw [show within s.hs[k] 0 (Qa Qb (((nl (h.ks[k]'(by omega)).hs).length:Int)-1))=true by simpa using hx,if_pos rfl] at hh
    exact Th ⟨(k+1,_),[],rfl,kps,kps,⟨Xh (by omega),hlt,hh⟩,by dsimp only; omega⟩
  rw [Rb (by omega)] at hh
  have hh:0=V:=hh
  subst hh
  rw [if_pos rfl]
  repeat'(first|refine wk1 ?_|(refine wk2 ?_ ?_<;>intro _)|fail)
  clear hlt hk
  refine Za3 (S:=Nat × Int) (fun t=>s.dr.length-t.1) (fun t=>[(2,.ptr 0 0 0),(3,.ptr 1 0 0),(4,I 0),(39,.isl 1 (nl s.dr)),(40,I (nl s.dr).length),(41,I t.2)]) (fun _=>Z123 h s) 2 2 (fun t=>t.2=t.1/\t.1<=s.dr.length/\drE h (Uh s.dr t.1) (s.dr.drop t.1)=drE h none s.dr) (0,0) ⟨rfl,Rl _,rfl⟩ (Qm _) [] rfl (kps) (kps) ?_
  rintro ⟨k,i⟩ ⟨hi,hk,hh⟩
  dsimp only at hi hk hh ⊢
  subst hi
  generalize drE h none s.dr=V at *
  refine bs.av (sx:=nos) Zip ?_
  by_cases hlt:k<s.dr.length
  ·have e1:=Zdc hlt
   rw [Qr hlt,drE] at hh
   by_cases hw:within s.dr[k] 0 (Qa Qb ((h.ws.length:Int)-1))=true
   ·obtain ⟨w,e2,e3,e4,e5⟩:=Ydr hw f3
    have hw' : within s.dr[k] 0 (Qa Qb (((h.ws.map Wal.av).length:Int)-1))=true:=by rw [l4]; exact hw
    have hd:drOk h s.dr[k] = !(w.cu==⟨#[]⟩):=by unfold drOk; rw [hw,e3,Bool.true_and]
    rw [hd] at hh
    clear hd e3
    cases k with
    | zero =>
     have hp:Uh s.dr (0+1)=some s.dr[0]:=by simp [Uh,hlt]
     rw [<-hp] at hh
     clear hp
     have e8:Zsa (Uh s.dr 0) s.dr[0]=false:=rfl
     rw [e8] at hh
     clear e8
     repeat'(first|refine wk1 ?_|(refine wk2 ?_ ?_<;>intro _)|fail)
     all_goals clear e1 e2
     all_goals try (exfalso; clear hh; simp_all; done)
     ·rename_i hx; exact Zd (by rw [<-hh]; clear hh; simp_all)
     ·exact Th ⟨(1,_),[],rfl,kps,kps,⟨Xh (k:=0) (by omega),hlt,by rw [<-hh]; clear hh; simp_all⟩,by dsimp only; omega⟩
    | succ k =>
     have e6:Qa Qb (((k+1:Nat):Int)-1)=(k:Int):=by rw [W_eq (by omega) (by omega)]; omega
     have e7:(nl s.dr)[(Qa Qb (((k+1:Nat):Int)-1)).toNat]?=some [I s.dr[k]]:=by rw [e6]; exact Zdc (by omega)
     have e8:Zsa (Uh s.dr (k+1)) s.dr[k+1]=decide (s.dr[k+1]<=s.dr[k]):=by simp [Uh,Zsa,show k<s.dr.length by omega]
     rw [e8] at hh
     clear e8
     have hp:Uh s.dr (k+1+1)=some s.dr[k+1]:=by simp [Uh,hlt]
     rw [<-hp] at hh
     clear hp
     repeat'(first|refine wk1 ?_|(refine wk2 ?_ ?_<;>intro _)|fail)
     all_goals clear e7 e1 e2
     all_goals try (exfalso; clear hh; simp_all; done)
     ·rename_i hx; exact Zd (by rw [<-hh]; clear hh; simp_all)
     ·exact Zd (by rw [<-hh]; clear hh; simp_all)
     ·exact Th ⟨(k+1+1,_),[],rfl,kps,kps,⟨Xh (k:=k+1) (by omega),hlt,by rw [<-hh]; clear hh; simp_all<;>omega⟩,by dsimp only; omega⟩
   ·have hd:drOk h s.dr[k]=false:=by unfold drOk; rw [show within s.dr[k] 0 (Qa Qb ((h.ws.length:Int)-1))=false by simpa using hw]; rfl
    have hw' : within s.dr[k] 0 (Qa Qb (((h.ws.map Wal.av).length:Int)-1))=false:=by rw [l4]; simpa using hw
    rw [hd] at hh
    repeat'(first|refine wk1 ?_|(refine wk2 ?_ ?_<;>intro _)|fail)
    all_goals try (exfalso; clear hh; simp_all; done)
    all_goals exact Zd (by rw [<-hh]; rfl)
  rw [Rb (by omega)] at hh
  repeat'(first|refine wk1 ?_|(refine wk2 ?_ ?_<;>intro _)|fail)
  exact Zd (by rw [<-hh]; cases Uh s.dr k<;>rfl)
 ·unfold setE
  rw [if_neg hlen]
  repeat'(first|refine wk1 ?_|(refine wk2 ?_ ?_<;>intro _)|fail)
  exact Zd rfl
structure Hal.ok (h:Hal):Prop where
 f:h.few
 t:h.texts
def Hal.err (h:Hal):Int:=(chk h).2.2
abbrev chkA (h:Hal):AV:=.tup [P2 (chk h).1 (chk h).2.1,I h.err]
theorem c63k {h:Hal} (hk:h.ok):PCall Tryz.prog 41 [h.av] ⟨chkA h,[]⟩:=c63 hk.f hk.t
noncomputable def kE (h:Hal):PC:=ins 41 (one [h.av] ⟨chkA h,[]⟩) pt0
theorem Yct {h:Hal} (hk:h.ok):PCOK Tryz.prog (kE h):=Zi (c63k hk) Zh
theorem c76 {h:Hal} (hk:h.ok):PCall Tryz.prog 48 [h.av] ⟨.tup [h.av,I h.err],[]⟩:=by
 refine pn (Yct hk) Tryz.func48 ?_
 repeat'(first|refine wk0 ?_|(refine wk2 ?_ ?_<;>intro _)|fail)
 exact Zg rfl rfl
def serr (h:Hal) (s:Stg):Int:=if h.err=0 then setE h s else h.err
noncomputable def kF (h:Hal) (s:Stg):PC:=ins 48 (one [h.av] ⟨.tup [h.av,I h.err],[]⟩) (ins 49 (one [h.av,s.av] ⟨I (setE h s),[]⟩) (kE h))
theorem Ycp {h:Hal} (hk:h.ok) {s:Stg} (hs:s.few):PCOK Tryz.prog (kF h s):=Zi (c76 hk) (Zi (c123 hk.f hs) (Yct hk))
theorem c47 {h:Hal} (hk:h.ok) {s:Stg} (hs:s.few):PCall Tryz.prog 29 [h.av,s.av] ⟨I (serr h s),[]⟩:=by
 refine pn (Ycp hk hs) Tryz.func29 ?_
 repeat'(first|refine wk0 ?_|(refine wk2 ?_ ?_<;>intro _)|fail)
 all_goals exact Zd (by simp_all [serr])
abbrev stgL (h:Hal) (s:Stg):List AV:=[.str h.nm,I h.ht,.str h.fl,.str h.ce,.isl 6 (h.ms.map Mat.av),.isl 2 (h.cs.map pt),.isl 3 (h.ws.map Wal.av),.isl 7 (h.ks.map Can.av),.isl 4 (h.ss.map Sea.av),.isl 1 (nl s.hs),.isl 1 (nl s.dr)]
theorem c83 {h:Hal} (hk:h.ok) {s:Stg} (hs:s.few):PCall Tryz.prog 67 [h.av,s.av] ⟨.tup [.agg (stgL h s),I (serr h s)],[]⟩:=by
 refine pn (Ycp hk hs) Tryz.func67 ?_
 repeat'(first|refine wk0 ?_|(refine wk2 ?_ ?_<;>intro _)|fail)
 ·rename_i hx
  have e:serr h s=setE h s:=by simp_all [serr]
  rw [e]
  exact Zg rfl rfl
 ·rename_i hx
  have e:serr h s=h.err:=by simp_all [serr]
  rw [e]
  exact Zg rfl rfl
end Go.Proofs.YtohjcchcladneaaGreat
namespace Go.Sx
open Go Go.RowKit
theorem Zi6 {T:Tab} {d:Nat} {t:TypeId} {xs:List AV} {ti:TI} {fs:Array Field} (ht:T t=some ti) (hd:ti.desc = .struct fs) (h:WT T (d+1) t xs) (i:Nat) {f:Field} (hf:fs.toList[i]?=some f) {tf:TI} (htf:T f.type=some tf):WT T d f.type ((xs.drop f.offset).take tf.size):=by
 obtain ⟨tf',e,w⟩:=(Zj7 ht hd h).2 f (List.mem_of_getElem? hf)
 rw [htf] at e
 cases e
 exact w
end Go.Sx
namespace Go.Proofs.YtohjcchcladneaaGreat
open Go Go.Sx
noncomputable abbrev TT:=tget tbl
theorem wInt {d:Nat} {x:List AV} (h:WT TT (d+1) 3 x):∃ n,x=[I n]:=by
 obtain ⟨n,h1,_⟩:=Zxh (T:=TT) (t:=3) rfl rfl h
 exact ⟨n,h1⟩
theorem Za0 {s:ByteArray} (h:Uf s=true):s.data.toList.length<100000:=by
 unfold Uf at h
 have hz:s.size=s.data.toList.length:=by simp
 simp only [Sc,decide_eq_false_iff_not] at h
 omega
def sl (l:List ByteArray):List (List AV):=l.map fun s=>[.str s]
theorem Zgq (l:List ByteArray):(sl l).length=l.length:=by simp [sl]
theorem Zd4 (l m:List ByteArray):sl (l++m)=sl l++sl m:=by simp [sl]
def Zd2 (h:Hal):List ByteArray:=h.ws.map Wal.nm
def Zed (h:Hal):List ByteArray:=h.ks.map Can.nm
def surf (h:Hal):List ByteArray:=(Zd2 h++[Za9,Zff])++Zed h
theorem Zy9 {h:Hal} {k:Nat} (hk:k<h.ws.length):sl ((Zd2 h).take (k+1))=sl ((Zd2 h).take k)++[[.str h.ws[k].nm]]:=by
 have:k<(Zd2 h).length:=by simp [Zd2]; exact hk
 rw [Sd this,Zd4]
 simp [Zd2,sl]
theorem Yac {h:Hal} {k:Nat} (hk:k<h.ks.length):sl ((Zed h).take (k+1))=sl ((Zed h).take k)++[[.str h.ks[k].nm]]:=by
 have:k<(Zed h).length:=by simp [Zed]; exact hk
 rw [Sd this,Zd4]
 simp [Zed,sl]
def gv (n0:Nat) (k len:Nat):AV:=match k with
 | 0=>.nils
 | _=>.asl n0 0 len
def gz (n0 es:Nat) (k:Nat) (els:List (List AV)) (z:List (Nat × ABlk)):List (Nat × ABlk):=match k with
 | 0=>z
 | _=>(n0,.row es els true true)::z
def nm2 (a b:Nat) (k:Nat):Nat:=match k with
 | 0=>a
 | _=>b
structure Hal.fine (h:Hal):Prop where
 nms:h.names=(Xk 0 [] h.ms).2.2
 le:h.ms.length<=10/\3<=h.cs.length/\h.ws.length=h.cs.length/\h.ws.length<=12/\h.ks.length<=4/\h.ss.length<=40
 ht:2<=h.ht/\h.ht<=5000
 mats:∀ m∈h.ms,Za2 m=0
 fl:∃ m∈h.ms,m.nm=h.fl
 ce:∃ m∈h.ms,m.nm=h.ce
 bd:Zn0 h.cs
 st:Zaq h.cs
 simple:Yo h=true
 area:0<Zaz h
 wal:∀ i (hi:i<h.ws.length),Zmp h i h.ws[i]=0
 can:∀ i (hi:i<h.ks.length),Zqw h i h.ks[i]=0
 sea:∀ i (hi:i<h.ss.length),Zrr h i h.ss[i]=0
theorem Xq {x:Int × Int × Int} {l:List (Int × Int × Int)} (h:(Ye (x::l)).2.2=0):x.2.2=0/\(Ye l).2.2=0:=by
 rw [Ye] at h
 by_cases c:x.2.2=0
 ·rw [if_pos c] at h; exact ⟨c,h⟩
 ·rw [if_neg c] at h; exact absurd h c
theorem Znf {h:Hal} (hk:h.ok) (he:h.err=0):h.fine:=by
 have h0:(chkR h).2.2=0:=by rw [Ydh hk.f]; exact he
 unfold chkR Zj0 at h0
 obtain ⟨z1,h0⟩:=Xq h0
 obtain ⟨z2,h0⟩:=Xq h0
 obtain ⟨z3,h0⟩:=Xq h0
 obtain ⟨z4,h0⟩:=Xq h0
 obtain ⟨z5,h0⟩:=Xq h0
 obtain ⟨z6,h0⟩:=Xq h0
 obtain ⟨z7,h0⟩:=Xq h0
 obtain ⟨z8,h0⟩:=Xq h0
 obtain ⟨z9,h0⟩:=Xq h0
 obtain ⟨z10,h0⟩:=Xq h0
 obtain ⟨z11,h0⟩:=Xq h0
 obtain ⟨z12,h0⟩:=Xq h0
 obtain ⟨z13,h0⟩:=Xq h0
 obtain ⟨z14,h0⟩:=Xq h0
 obtain ⟨z15,h0⟩:=Xq h0
 have z2:=within_iff.1 (Vt z2 (by decide))
 have z3:=of_decide_eq_true (Vt z3 (by decide))
 have z6:=Vt z6 (by decide)
 have z7:=of_decide_eq_true (Vt z7 (by decide))
 have z10:=Vt z10 (by decide)
 have z11:=of_decide_eq_true (Vt z11 (by decide))
 have z12:=of_decide_eq_true (Vt z12 (by decide))
 have z14:=of_decide_eq_true (Vt z14 (by decide))
 simp only [Qf,decide_eq_true_eq] at z6
 have hb:Zn0 h.cs:=Zpd z8
 have hwc:h.ws.length=h.cs.length:=by omega
 have hst:Zaq h.cs:=Zmj hb hwc z9
 have hfl:¬(Vb h.fl 0 h.ms<0) /\ ¬(Vb h.ce 0 h.ms<0):=by
  change Zo6 h=0 at z5
  unfold Zo6 at z5
  split at z5
  ·cases z5
  ·rename_i hx
   simp only [Qy,decide_eq_true_eq,not_or] at hx
   exact hx
 refine ⟨rfl,⟨by omega,by omega,hwc,by omega,by omega,by omega⟩,z2,?_,?_,?_,hb,hst,?_,by rw [Zkc]; exact z11,?_,?_,?_⟩
 ·intro m hm
  obtain ⟨i,hi,rfl⟩:=Jp.1 hm
  have:=Zbq (n:=h.ms.length) _ 0 rfl z4 i (Rl _) hi
  unfold Zsg at this
  rw [Ql hi] at this
  change mErr h i h.ms[i]=0 at this
  unfold mErr at this
  unfold Za2
  split at this
  ·split at this
   ·cases this
   ·split at this
    ·rename_i hx
     rw [if_pos (by simp only [Qf] at hx ⊢; simp [hx])]
    ·cases this
  ·cases this
 ·have:=mt (Zcf h.fl h.ms 0).2 hfl.1; exact Lt.1 this
 ·have:=mt (Zcf h.ce h.ms 0).2 hfl.2; exact Lt.1 this
 ·rw [Zkg hst (by omega) hk.f.2.1]; exact z10
 ·intro i hi
  have:=Zbq (n:=h.ws.length) _ 0 rfl z9 i (Rl _) hi
  unfold Zgh at this
  rw [Ql hi] at this
  exact this
 ·intro i hi
  have:=Zbq (n:=h.ks.length) _ 0 rfl z13 i (Rl _) hi
  unfold Zmd at this
  rw [Ql hi] at this
  exact this
 ·intro i hi
  have:=Zbq (n:=h.ss.length) _ 0 rfl z15 i (Rl _) hi
  unfold Zkl at this
  rw [Ql hi] at this
  exact this
noncomputable def kS (h:Hal):PC:=ins 48 (one [h.av] ⟨.tup [h.av,I h.err],[]⟩) pt0
theorem Ydx {h:Hal} (hk:h.ok):PCOK Tryz.prog (kS h):=Zi (c76 hk) Zh
theorem c64 {h:Hal} (hk:h.ok):PCall Tryz.prog 32 [h.av] ⟨.tup [.isl 1 (sl (if h.err=0 then surf h else [])),I h.err],[]⟩:=by
 have hkS:=Ydx hk
 by_cases he:h.err=0
 ·have hfi:=Znf hk he
  obtain ⟨_,g2,g3,_⟩:=hfi.le
  have l3:=Un h.ws
  have l4:=Zac h.ks
  obtain ⟨f1,f2,f3,f4,f5,f6⟩:=hk.f
  rw [if_pos he]
  refine Mv (res:=⟨.tup [.asl 0 0 (sl (surf h)).length,I h.err],[(1,sl (surf h))]⟩) ?_ ⟨⟨rfl,rfl,rfl⟩,⟨rfl,rfl⟩,trivial⟩
  refine pn hkS Tryz.func32 ?_
  repeat'(first|refine wk1 ?_|(refine wk2 ?_ ?_<;>intro _)|fail)
  refine Lp.ren (env2:=[(4,.ptr 1 0 0),(6,.nils),(21,.isl 3 (h.ws.map Wal.av)),(22,I (h.ws.map Wal.av).length),(23,I 0)]) (σ2:=⟨[(1,.row 9 [h.cells] true false)],3⟩) (Ren.of [] rfl (kps) (kps)) ?_
  refine Za3 (S:=Nat × Int × Nat × List (List AV)) (fun t=>h.ws.length-t.1) (fun t=>[(4,.ptr 1 0 0),(6,gv 3 t.1 t.2.2.1),(21,.isl 3 (h.ws.map Wal.av)),(22,I (h.ws.map Wal.av).length),(23,I t.2.1)]) (fun t=>gz 3 1 t.1 t.2.2.2 [(1,.row 9 [h.cells] true false)]) 3 4
   (fun t=>t.2.1=t.1/\t.1<=h.ws.length/\t.2.2.1=t.2.2.2.length/\t.2.2.2=sl ((Zd2 h).take t.1)) (0,0,0,[]) ⟨rfl,Rl _,rfl,rfl⟩ (Qm _) [] rfl (kps) (kps) ?_
  rintro ⟨k,i,len,els⟩ ⟨hi,hk,hlen,hels⟩
  dsimp only at hi hk hlen hels ⊢
  subst hi
  refine bs.av (sx:=nos) hkS ?_
  have e4:els.length<2000:=by rw [hels,Zgq,Gc]; omega
  by_cases hlt:k<h.ws.length
  ·have e1:=Zxl hlt
   have e3:=Zy9 hlt
   cases k with
   | zero =>
    repeat'(first|refine wk1 ?_|(refine wk2 ?_ ?_<;>intro _)|fail)
    exact Th ⟨(1,_,_,_),[(3,6)],rfl,kps,kps,⟨Xh (k:=0) (by omega),hlt,rfl,e3.symm⟩,by dsimp only; omega⟩
   | succ k =>
    repeat'(first|refine wk1 ?_|(refine wk2 ?_ ?_<;>intro _)|fail)
    exact Th ⟨(k+1+1,_,_,_),[(3,6)],rfl,kps,kps,⟨Xh (k:=k+1) (by omega),hlt,by exact List.length_append.symm,by show _=sl _; rw [e3,<-hels]; rfl⟩,by dsimp only; omega⟩
  rw [Wz (by simp [Zd2]; omega)] at hels
  cases k with
  | zero=>exfalso; omega
  | succ k =>
  repeat'(first|refine wk1 ?_|(refine wk2 ?_ ?_<;>intro _)|fail)
  clear hlt
  refine Za3 (S:=Nat × Int × Nat × List (List AV)) (fun t=>h.ks.length-t.1) (fun t=>[(6,.asl (nm2 5 6 t.1) 0 t.2.2.1),(38,.isl 7 (h.ks.map Can.av)),(39,I (h.ks.map Can.av).length),(40,I t.2.1)]) (fun t=>[(nm2 5 6 t.1,.row 1 t.2.2.2 true true)]) 6 7
   (fun t=>t.2.1=t.1/\t.1<=h.ks.length/\t.2.2.1=t.2.2.2.length/\t.2.2.2=els++[[.str Za9],[.str Zff]]++sl ((Zed h).take t.1)) (0,0,els.length+2,els++[[.str Za9],[.str Zff]]) ⟨rfl,Rl _,by simp,by simp [sl]⟩ (Qm _) [] rfl (kps) (kps) ?_
  rintro ⟨k2,i,len2,els2⟩ ⟨hi,hk2,hlen2,hels2⟩
  dsimp only at hi hk2 hlen2 hels2 ⊢
  subst hi
  refine bs.av (sx:=nos) hkS ?_
  have e5:els2.length<4000:=by rw [hels2,Ws,Zgq,Gc,Ws]; simp; omega
  by_cases hlt:k2<h.ks.length
  ·have e1:=Ziz hlt
   have e3:=Yac hlt
   cases k2 with
   | zero =>
    repeat'(first|refine wk1 ?_|(refine wk2 ?_ ?_<;>intro _)|fail)
    exact Th ⟨(1,_,_,_),[(6,9)],rfl,kps,kps,⟨Xh (k:=0) (by omega),hlt,by exact List.length_append.symm,by show _=_; rw [e3,<-Tw,<-hels2]; rfl⟩,by dsimp only; omega⟩
   | succ k2 =>
    repeat'(first|refine wk1 ?_|(refine wk2 ?_ ?_<;>intro _)|fail)
    exact Th ⟨(k2+1+1,_,_,_),[(6,9)],rfl,kps,kps,⟨Xh (k:=k2+1) (by omega),hlt,by exact List.length_append.symm,by show _=_; rw [e3,<-Tw,<-hels2]; rfl⟩,by dsimp only; omega⟩
  rw [Wz (by simp [Zed]; omega)] at hels2
  have hfin:els2=sl (surf h):=by rw [hels2,hels]; unfold surf; rw [Zd4,Zd4]; rfl
  subst hfin
  subst hlen2
  rw [he]
  cases k2 with
  | zero =>
   repeat'(first|refine wk1 ?_|(refine wk2 ?_ ?_<;>intro _)|fail)
   exact Uk [5] rfl rfl rfl
  | succ k2 =>
   repeat'(first|refine wk1 ?_|(refine wk2 ?_ ?_<;>intro _)|fail)
   exact Uk [6] rfl rfl rfl
 ·rw [if_neg he]
  refine Mv (res:=⟨.tup [.nils,I h.err],[]⟩) ?_ ⟨rfl,⟨rfl,rfl⟩,trivial⟩
  refine pn hkS Tryz.func32 ?_
  repeat'(first|refine wk1 ?_|(refine wk2 ?_ ?_<;>intro _)|fail)
  exact Zg rfl rfl
structure SetOk (h:Hal) (s:Stg):Prop where
 len:s.hs.length=h.ks.length
 hs:∀ j (h1:j<h.ks.length) (h2:j<s.hs.length),0<=s.hs[j]/\s.hs[j]<h.ks[j].hs.length
 dr:∀ d∈s.dr,0<=d/\d<h.ws.length/\curt h d≠⟨#[]⟩
 up:s.dr.Pairwise (· < ·)
theorem Zo0 {h:Hal} (hf:h.few):∀ (l:List Int) (i:Nat),hgE h i l=0->∀ j (h1:i+j<h.ks.length) (h2:j<l.length),0<=l[j]/\l[j]<h.ks[i+j].hs.length
 | [],i,_,j,_,h2=>by simp at h2
 | n::l,i,h0,j,h1,h2=>by
  rw [hgE] at h0
  split at h0
  ·rename_i hw
   cases j with
   | zero =>
    have hk:i<h.ks.length:=by omega
    have hl:=hf.2.2.2.2.2 _ (Rx hk)
    rw [show kLen h i=(h.ks[i].hs.length:Int) by unfold kLen; rw [Ql hk],W_eq (by omega) (by omega)] at hw
    have hw:=within_iff.1 hw
    simp only [List.getElem_cons_zero,Nat.add_zero]
    omega
   | succ j =>
    have:=Zo0 hf l (i+1) h0 j (by omega) (by simpa using h2)
    simp only [List.getElem_cons_succ]
    have e:i+1+j=i+(j+1):=by omega
    simp only [e] at this
    exact this
  ·cases h0
theorem Zpa {h:Hal} (hf:h.few):∀ (l:List Int) (p:Option Int),drE h p l=0->(∀ d∈l,(0<=d/\d<h.ws.length/\curt h d≠⟨#[]⟩)/\(∀ q,p=some q->q<d))/\l.Pairwise (· < ·)
 | [],p,_=>⟨by simp,.nil⟩
 | n::l,p,h0=>by
  rw [drE] at h0
  split at h0
  ·rename_i ho
   split at h0
   ·cases h0
   ·rename_i hn
    obtain ⟨g1,g2⟩:=Zpa hf l (some n) h0
    have hl:=hf.2.2.1
    unfold drOk at ho
    rw [Qf,W_eq (by omega) (by omega),within_iff,Sc,Zcn,decide_eq_false_iff_not] at ho
    have hp:∀ q,p=some q->q<n:=by
     rintro q rfl
     simp only [Zsa,decide_eq_true_eq] at hn
     omega
    refine ⟨fun d hd=>?_,List.pairwise_cons.2 ⟨fun d hd=>(g1 d hd).2 n rfl,g2⟩⟩
    rcases Rp.1 hd with rfl|hd
    ·exact ⟨⟨by omega,by omega,ho.2⟩,hp⟩
    ·refine ⟨(g1 d hd).1,fun q hq=>?_⟩
     have:=(g1 d hd).2 n rfl
     have:=hp q hq
     omega
  ·cases h0
theorem Zzh {h:Hal} (hf:h.few) {s:Stg} (h0:setE h s=0):SetOk h s:=by
 unfold setE at h0
 split at h0
 ·rename_i hl
  split at h0
  ·rename_i hg
   obtain ⟨g1,g2⟩:=Zpa hf s.dr none h0
   refine ⟨by omega,fun j h1 h2=>?_,fun d hd=>(g1 d hd).1,g2⟩
   have:=Zo0 hf s.hs 0 hg j (by omega) h2
   simpa using this
  ·rename_i hg; exact absurd h0 hg
 ·cases h0
def nsur (h:Hal):Int:=(h.ws.length:Int)+2+h.ks.length
def surE (h:Hal) (s:Stg) (i:Int):Int:=if serr h s=0 then (if within i 0 (nsur h-1) then 0 else 6) else serr h s
theorem c172 {h:Hal} (s:Stg):PCall Tryz.prog 114 [.agg (stgL h s)] ⟨I (h.ws.length:Int),[]⟩:=by
 have l:=Un h.ws
 refine pn Zh Tryz.func114 ?_
 repeat'(first|refine wk0 ?_|(refine wk2 ?_ ?_<;>intro _)|fail)
 exact Zd (by omega)
theorem c173 {h:Hal} (hf:h.few) (s:Stg):PCall Tryz.prog 115 [.agg (stgL h s)] ⟨I ((h.ws.length:Int)+1),[]⟩:=by
 have l:=Un h.ws
 refine pn Zh Tryz.func115 ?_
 repeat'(first|refine wk0 ?_|(refine wk2 ?_ ?_<;>intro _)|fail)
 exact Zd (by show IntKind.i64.wrap (((h.ws.map Wal.av).length:Int)+1)=_; have:=hf.2.2.1; rw [W_eq (by omega) (by omega)]; omega)
theorem c84 {h:Hal} (hf:h.few) (s:Stg):PCall Tryz.prog 113 [.agg (stgL h s)] ⟨I (nsur h),[]⟩:=by
 have l:=Un h.ws
 have l2:=Zac h.ks
 refine pn Zh Tryz.func113 ?_
 repeat'(first|refine wk0 ?_|(refine wk2 ?_ ?_<;>intro _)|fail)
 exact Zd (by
  show IntKind.i64.wrap (Qa Qb (((h.ws.map Wal.av).length:Int)+2)+((h.ks.map Can.av).length:Int))=_
  have:=hf.2.2.1; have:=hf.2.2.2.1; unfold nsur; rw [W_eq (n:=((h.ws.map Wal.av).length:Int)+2) (by omega) (by omega),W_eq (by omega) (by omega)]; omega)
noncomputable def kS1 (h:Hal) (s:Stg) (i:Int):PC:=ins 114 (one [.agg (stgL h s)] ⟨I (h.ws.length:Int),[]⟩) (ins 115 (one [.agg (stgL h s)] ⟨I ((h.ws.length:Int)+1),[]⟩) (ins 113 (one [.agg (stgL h s)] ⟨I (nsur h),[]⟩) (ins 67 (one [h.av,s.av] ⟨.tup [.agg (stgL h s),I (serr h s)],[]⟩) k93)))
theorem Ycm {h:Hal} (hk:h.ok) {s:Stg} (hs:s.few) (i:Int):PCOK Tryz.prog (kS1 h s i):=Zi (c172 s) (Zi (c173 hk.f s) (Zi (c84 hk.f s) (Zi (c83 hk hs) Zip)))
theorem c109 {h:Hal} (hk:h.ok) {s:Stg} (hs:s.few) (i:Int):PCall Tryz.prog 53 [h.av,s.av,I i] ⟨.tup [.agg (stgL h s),I (surE h s i)],[]⟩:=by
 have hw:Qa Qb (nsur h-1)=nsur h-1:=W_eq (by have:=hk.f.2.2.1; have:=hk.f.2.2.2.1; unfold nsur; omega) (by have:=hk.f.2.2.1; have:=hk.f.2.2.2.1; unfold nsur; omega)
 refine pn (Ycm hk hs i) Tryz.func53 ?_
 repeat'(first|refine wk0 ?_|(refine wk2 ?_ ?_<;>intro _)|fail)
 ·rename_i h1 h2
  have e:surE h s i=6:=by unfold surE; rw [if_pos (of_decide_eq_true h1)]; rw [hw] at h2; simp_all
  rw [e]; exact Zg rfl rfl
 ·rename_i h1 h2
  have e0:serr h s=0:=of_decide_eq_true h1
  have e:surE h s i=0:=by unfold surE; rw [if_pos e0]; rw [hw] at h2; simp_all
  rw [e,<-e0]; exact Zg rfl rfl
 ·rename_i h1
  have e:surE h s i=serr h s:=by unfold surE; rw [if_neg (of_decide_eq_false h1)]
  rw [e]; exact Zg rfl rfl
end Go.Proofs.YtohjcchcladneaaGreat
