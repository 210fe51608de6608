/- A part of the proof: lemmas. -/
import Derived.Test.YtfkdpbklbegnlaaGreatT12
import Derived.Test.YtfkdpbklbegnlaaGreatT7
import Derived.Test.YtfkdpbklbegnlaaGreatT10
import Derived.Test.YtfkdpbklbegnlaaGreatT11
import Derived.Test.YtfkdpbklbegnlaaGreatT9
import Derived.Laws.Bits64b
import Derived.Lib.Mul64
set_option linter.unusedVariables false
set_option linter.unusedSimpArgs false
set_option maxRecDepth 100000
set_option maxHeartbeats 16000000
open BitVec renaming ofInt->Sd
open Bool renaming and_eq_true->Qc,eq_iff_iff->Sj,not_eq_true'->Sl,or_eq_true->Re
open Go.IntKind renaming i64->Qb,u64->Rl,wrap->Qa,wrap_i64->Te,wrap_u64->Ht
open Go.Lib renaming half_mul_le->Jo
open Go.Sx.AV.int renaming injEq->Sn
open Go.Sx.AV.isl renaming injEq->Wa
open Go.Sx.AV.str renaming injEq->Ll
open Go.Sx.LpM renaming start->Tf,succ->Ra
open Go.Sx.PCall renaming freezeK->Fl
open Int renaming add_comm->Nh,eq_ofNat_of_zero_le->Hu,le_of_lt->Ro,le_total->Hz,lt_or_le->Ow,lt_trichotomy->Pw,max_eq_left->Qas,max_eq_right->Qaa,min_eq_left->Qar,min_eq_right->Dz,mul_comm->Ob,mul_eq_zero->Gi,mul_le_mul_of_nonneg_left->Rq,mul_le_mul_of_nonneg_right->Qj,mul_lt_mul_of_pos_right->Pf,mul_neg->Tc,mul_nonneg->Qu,mul_one->Si,mul_pos->Pi,natAbs_mul->Nc,natAbs_natCast->My,ofNat_dvd_left->Mx,sub_mul->Lc,toNat->Ss,zero_mul->Ta
open List renaming getElem_mem->Qq,length_cons->Rr,map_congr_left->Na,map_cons->Tj,map_inj_right->Wz,mem_cons->Rf
open List.cons renaming injEq->Qs
open Nat renaming beq->Qn,dvd_trans->Kn,gcd->Tk,gcd_dvd_left->Hs,gcd_dvd_right->Nr,gcd_mul_right->Jy,zero_add->Ry
namespace Go.Proofs.YtfkdpbklbegnlaaGreat
open Go Go.Sx
abbrev Hal.put (h:Hal) (l:List Mat):Hal:=⟨h.nm,h.ht,h.fl,h.ce,l,h.cs,h.ws,h.ks,h.ss⟩
def Zid (b:Int):List Mat->List Mat->Prop
 | [],[]=>True
 | m::l,n::k=>(n.nm=m.nm/\Vc n=0/\absB m b<=absB n b)/\Zid b l k
 | _,_=>False
theorem Zji {b:Int}:∀ {l k:List Mat},Zid b l k->k.length=l.length
 | [],[],_=>rfl
 | m::l,n::k,h=>by rw [Rr,Rr,Zji h.2]
theorem Zk7 {b:Int}:∀ {l k:List Mat} (i:Nat) (ns:List ByteArray),Zid b l k->(Xf i ns l).2.1=0->Xf i ns k=Xf i ns l
 | [],[],_,_,_,_=>rfl
 | m::l,n::k,i,ns,h,h0=>by
  obtain ⟨⟨e1,e2,_⟩,h2⟩:=h
  rw [Xf] at h0 ⊢
  rw [Xf,e1]
  by_cases c:Yb m.nm ns=0
  ·rw [if_pos c] at h0 ⊢
   rw [if_pos c]
   by_cases d:Vc m=0
   ·rw [if_pos d] at h0 ⊢
    rw [if_pos e2]
    exact Zk7 (i+1) _ h2 h0
   ·rw [if_neg d] at h0
    exact absurd h0 d
  ·rw [if_neg c] at h0
   exact absurd h0 c
theorem Zn5 {b:Int}:∀ {l k:List Mat},Zid b l k->∀ n∈k,∃ m∈l,n.nm=m.nm
 | [],[],_,n,hn=>by simp at hn
 | m::l,n'::k,h,n,hn=>by
  rw [Rf] at hn
  rcases hn with rfl|hn
  ·exact ⟨m,List.mem_cons_self,h.1.1⟩
  ·obtain ⟨m',a,c⟩:=Zn5 h.2 n hn
   exact ⟨m',List.mem_cons_of_mem _ a,c⟩
theorem Zpn (h:Hal) (k:List Mat) (ms:List ByteArray):∀ (l:List Can) (i:Nat) (ns:List ByteArray),Zc8 (h.put k) ms i ns l=Zc8 h ms i ns l
 | [],_,_=>rfl
 | c::l,i,ns=>by
  rw [Zc8,Zc8,Zpn h k ms l,show cErr (h.put k) ms c=cErr h ms c from rfl]
theorem Znk (h:Hal) (k:List Mat):∀ (l:List Sea) (i:Nat) (ns:List ByteArray),Zcb (h.put k) i ns l=Zcb h i ns l
 | [],_,_=>rfl
 | c::l,i,ns=>by
  rw [Zcb,Zcb,Znk h k l,show Zjc (h.put k) c.x c.y c.z=Zjc h c.x c.y c.z from rfl]
theorem Zxk (h:Hal) (k:List Mat):∀ (l:List Int) (i:Nat),hgE (h.put k) i l=hgE h i l
 | [],_=>rfl
 | c::l,i=>by
  rw [hgE,hgE,Zxk h k l,show kLen (h.put k) i=kLen h i from rfl]
theorem Zym (h:Hal) (k:List Mat):∀ (l:List Int) (p:Option Int),drE (h.put k) p l=drE h p l
 | [],_=>rfl
 | c::l,p=>by
  rw [drE,drE,Zym h k l,show drOk (h.put k) c=drOk h c from rfl]
theorem Zz6 (h:Hal) (k:List Mat) (s:Stg):setE (h.put k) s=setE h s:=by
 unfold setE
 rw [Zxk,Zym]
theorem Yfr {h:Hal} {b:Int} {k:List Mat} (hm:Zid b h.ms k) (h0:h.err=0):(h.put k).err=0:=by
 unfold Hal.err chk Zre at h0 ⊢
 have hM:(Xf 0 [] h.ms).2.1=0:=by
  obtain ⟨_,h0⟩:=Xn h0
  obtain ⟨_,h0⟩:=Xn h0
  obtain ⟨_,h0⟩:=Xn h0
  exact (Xn h0).1
 have e:=Zk7 0 [] hm hM
 have l:=Zji hm
 have en:(h.put k).names=h.names:=by unfold Hal.names; rw [e]
 have ew:(h.put k).wal=h.wal:=by unfold Hal.wal; rw [en]
 have ec:(h.put k).can=h.can:=by unfold Hal.can; rw [en,ew,Zpn]
 have es:set7 (h.put k)=set7 h:=by unfold set7; rw [l]
 rw [e,en,ew,ec,es,Znk]
 exact h0
theorem Zl9 {h:Hal} {b:Int} {k:List Mat} (hm:Zid b h.ms k) {s:Stg} (h0:serr h s=0):serr (h.put k) s=0:=by
 unfold serr at h0 ⊢
 split at h0
 ·rename_i c
  rw [if_pos (Yfr hm c),Zz6]
  exact h0
 ·rename_i c; exact absurd h0 c
theorem Yhe {h:Hal} {b:Int} {k:List Mat} (hm:Zid b h.ms k) (hk:h.ok):(h.put k).ok:=by
 obtain ⟨⟨f1,f2⟩,t1,t2,t3,t4,t5⟩:=hk
 refine ⟨⟨by have:=Zji hm; show k.length<1000; omega,f2⟩,t1,fun n hn=>?_,t3,t4,t5⟩
 obtain ⟨m,a,c⟩:=Zn5 hm n hn
 rw [c]; exact t2 m a
def Mat.upd (m:Mat) (b v:Int):Mat:=if b=0 then ⟨m.nm,v,m.b,m.c,m.d,m.sc⟩ else if b=1 then ⟨m.nm,m.a,v,m.c,m.d,m.sc⟩ else if b=2 then ⟨m.nm,m.a,m.b,v,m.d,m.sc⟩ else ⟨m.nm,m.a,m.b,m.c,v,m.sc⟩
theorem Ygd (m:Mat) (b v:Int):(m.upd b v).nm=m.nm:=by
 unfold Mat.upd
 repeat' split
 all_goals rfl
theorem Zru (m:Mat) (b v:Int):absB (m.upd b v) b=v:=by
 unfold Mat.upd absB
 repeat' split
 all_goals rfl
theorem Ydv {m:Mat} (h:Vc m=0) {b v:Int} (hv:0<=v/\v<=1000):Vc (m.upd b v)=0:=by
 have hv:thou v=true:=within_iff.2 hv
 unfold Vc at h ⊢
 split at h
 ·rename_i c
  simp only [Qc] at c
  unfold Mat.upd
  repeat' split
  all_goals first
   | rfl
   | (rename_i d; exact absurd (by simp [c,hv]) d)
 ·cases h
abbrev cpyM (h:Hal):AV:=.agg [.str h.nm,I h.ht,.str h.fl,.str h.ce,.asl 0 0 (h.ms.map Mat.av).length,.isl 2 (h.cs.map pt),.isl 3 (h.ws.map Wal.av),.isl 7 (h.ks.map Can.av),.isl 4 (h.ss.map Sea.av)]
theorem c22m {h:Hal} (hf:h.few):PCall Tryz.prog 9 [h.av] ⟨cpyM h,[(6,h.ms.map Mat.av)]⟩:=by
 have hc:=c22 hf
 unfold cpyV cpyB at hc
 cases hq:h.ks with
 | nil =>
  rw [hq] at hc
  refine Fl (p0:=(6,h.ms.map Mat.av)) hc ?_
  exact ⟨⟨rfl,rfl⟩,⟨rfl,rfl⟩,⟨rfl,rfl⟩,⟨rfl,rfl⟩,⟨rfl,rfl,rfl,rfl⟩,⟨⟨rfl,by decide⟩,rfl,rfl⟩,⟨⟨rfl,by decide⟩,rfl,rfl⟩,by rw [hq]; rfl,⟨⟨rfl,by decide⟩,rfl,rfl⟩,trivial⟩
 | cons c l =>
  rw [hq] at hc
  refine Fl (p0:=(6,h.ms.map Mat.av)) hc ?_
  exact ⟨⟨rfl,rfl⟩,⟨rfl,rfl⟩,⟨rfl,rfl⟩,⟨rfl,rfl⟩,⟨rfl,rfl,rfl,rfl⟩,⟨⟨rfl,by decide⟩,rfl,rfl⟩,⟨⟨rfl,by decide⟩,rfl,rfl⟩,⟨⟨by rw [hq]; rfl,by decide⟩,rfl,by rw [hq]⟩,⟨⟨rfl,by decide⟩,rfl,rfl⟩,trivial⟩
theorem Yez {a b:Mat} (h:a.av=b.av):a=b:=by
 simp only [Qs,Ll,Sn,true_and,and_true] at h
 obtain ⟨h1,h2,h3,h4,h5,h6⟩:=h
 cases a; cases b; simp_all
theorem Ydr {a b:Wal} (h:a.av=b.av):a=b:=by
 simp only [Qs,Ll,and_true] at h
 obtain ⟨h1,h2,h3⟩:=h
 cases a; cases b; simp_all
theorem Yf6 {a b:Can} (h:a.av=b.av):a=b:=by
 simp only [Qs,Ll,Sn,Wa,true_and,and_true] at h
 obtain ⟨h1,h2,h3,h4,h5,h6,h7⟩:=h
 have h7:=Ze0 h7
 cases a; cases b; simp_all
theorem Yd9 {a b:Sea} (h:a.av=b.av):a=b:=by
 simp only [Qs,Ll,Sn,true_and,and_true] at h
 obtain ⟨h1,h2,h3,h4⟩:=h
 cases a; cases b; simp_all
theorem Yg9 {a b:Int × Int} (h:pt a=pt b):a=b:=by
 unfold pt at h
 simp only [Qs,Sn,true_and,and_true] at h
 exact Prod.ext h.1 h.2
theorem Yfg {a b:Hal} (h:a.av=b.av):a=b:=by
 simp only [AV.agg.injEq,Qs,Ll,Sn,Wa,true_and,and_true] at h
 obtain ⟨h1,h2,h3,h4,h5,h6,h7,h8,h9⟩:=h
 have h5:=Wz (fun x y e=>Yez e) |>.1 h5
 have h6:=Wz (fun x y e=>Yg9 e) |>.1 h6
 have h7:=Wz (fun x y e=>Ydr e) |>.1 h7
 have h8:=Wz (fun x y e=>Yf6 e) |>.1 h8
 have h9:=Wz (fun x y e=>Yd9 e) |>.1 h9
 cases a; cases b; simp_all
theorem Zvr {α:Type} (f:α->List AV) (l:List α) (i:Nat) (x:α):Zep (l.map f) i (f x)=(l.set i x).map f:=by rw [Un,List.map_set]
theorem Zz5 (l:List Mat) (k:Nat) (x:Mat):Zep (l.map Mat.av) (0+((k:Nat):Int).toNat) (Mat.av x)=(l.set k x).map Mat.av:=by
 rw [Ry,Int.toNat_natCast]
 exact Zvr Mat.av l k x
abbrev rawH (x:Hal) (n:Nat):AV:=.agg [.str x.nm,I x.ht,.str x.fl,.str x.ce,.isl 6 (((x.ms.map Mat.av).drop 0).take n),.isl 2 (x.cs.map pt),.isl 3 (x.ws.map Wal.av),.isl 7 (x.ks.map Can.av),.isl 4 (x.ss.map Sea.av)]
theorem Zmd {x:Hal} {n:Nat} (h:n=x.ms.length):rawH x n=x.av:=by
 unfold rawH
 rw [List.drop_zero,List.take_of_length_le (by rw [Yy]; omega)]
theorem Yci {a b c:Int} (hc:0<c):a*c<b*c↔a<b:=⟨fun h=>Int.lt_of_mul_lt_mul_right h (by omega),fun h=>Pf h hc⟩
theorem Yhm {a b c:Int} (hc:0<c):a*c<=b*c↔a<=b:=⟨fun h=>Int.le_of_mul_le_mul_right h hc,fun h=>Qj h (by omega)⟩
theorem Yha {a c:Int} (hc:0<c):0<c*a↔0<a:=by rw [Ob]; have:=Yci (a:=0) (b:=a) hc; rwa [Ta] at this
theorem Yi7 {a c:Int} (hc:0<c):c*a<0↔a<0:=by rw [Ob]; have:=Yci (a:=a) (b:=0) hc; rwa [Ta] at this
theorem np_l {a c:Int} (hc:0<c):c*a<=0↔a<=0:=by rw [Ob]; have:=Yhm (a:=a) (b:=0) hc; rwa [Ta] at this
theorem Zhi (a b:Int):imin a b=min a b:=by
 unfold imin; by_cases h:b<a<;>simp [h]<;>omega
theorem Zhj (a b:Int):imax a b=max a b:=by
 unfold imax; by_cases h:a<b<;>simp [h]<;>omega
theorem Zdv {a b d:Int} (hd:0<d):min a b*d=min (a*d) (b*d):=by
 rcases Hz a b with h|h
 ·rw [Qar h,Qar (Qj h (by omega))]
 ·rw [Dz h,Dz (Qj h (by omega))]
theorem Zdw {a b d:Int} (hd:0<d):max a b*d=max (a*d) (b*d):=by
 rcases Hz a b with h|h
 ·rw [Qaa h,Qaa (Qj h (by omega))]
 ·rw [Qas h,Qas (Qj h (by omega))]
structure P2d where
 x:Int
 y:Int
 d:Int
def bsP (w:Wl) (sx sy:Int) (p:P2d):Int:=bes w sx sy p.x p.y p.d
theorem Yiz {r:Rc} (hr:RcOk r) {x y d:Int} (hd:0<d/\d<=1000000000000000):r.has x y d=true↔0<=x-r.xl*d/\0<=r.xh*d-x/\0<=y-r.yl*d/\0<=r.yh*d-y:=by
 obtain ⟨h1,h2,h3,h4,h5,h6⟩:=hr
 have c1:=Zj (f:=r.xl) (d:=d) (by omega) hd.1
 have c2:=Zj (f:=r.xh) (d:=d) (by omega) hd.1
 have c3:=Zj (f:=r.yl) (d:=d) (by omega) hd.1
 have c4:=Zj (f:=r.yh) (d:=d) (by omega) hd.1
 unfold Rc.has
 rw [W_eq (n:=r.xl*d) (by omega) (by omega),W_eq (n:=r.xh*d) (by omega) (by omega),W_eq (n:=r.yl*d) (by omega) (by omega),W_eq (n:=r.yh*d) (by omega) (by omega),Qc,within_iff,within_iff]
 omega
theorem Zkz {r:Rc} (hr:RcOk r) {x y d:Int} (hd:0<d/\d<=1000000000000000):r.holds x y d=true↔0<x-r.xl*d/\0<r.xh*d-x/\0<y-r.yl*d/\0<r.yh*d-y:=by
 obtain ⟨h1,h2,h3,h4,h5,h6⟩:=hr
 have c1:=Zj (f:=r.xl) (d:=d) (by omega) hd.1
 have c2:=Zj (f:=r.xh) (d:=d) (by omega) hd.1
 have c3:=Zj (f:=r.yl) (d:=d) (by omega) hd.1
 have c4:=Zj (f:=r.yh) (d:=d) (by omega) hd.1
 unfold Rc.holds
 rw [W_eq (n:=r.xl*d) (by omega) (by omega),W_eq (n:=r.xh*d) (by omega) (by omega),W_eq (n:=r.yl*d) (by omega) (by omega),W_eq (n:=r.yh*d) (by omega) (by omega)]
 simp only [Qc,decide_eq_true_eq]
 omega
def Zu7 (p q:Pt):Int:=Qa Qb (Qa Qb (q.x*p.d)-Qa Qb (p.x*q.d))
def Zu6 (p q:Pt):Int:=Qa Qb (Qa Qb (q.y*p.d)-Qa Qb (p.y*q.d))
def cmpP (a b c d:Int):Int:=sgn (a*b-c*d)
def Zlz (p q:Pt) (x y:Int):Int:=cmpP (Zu7 p q) (Qa Qb (Qa Qb (y*p.d)-p.y)) (Zu6 p q) (Qa Qb (Qa Qb (x*p.d)-p.x))
def ovl (fr den to oth a b:Int):Bool:=decide (imin (Qa Qb (fr*oth)) (Qa Qb (to*den))<Qa Qb (Qa Qb (imax a b*den)*oth))&&decide (Qa Qb (Qa Qb (imin a b*den)*oth)<imax (Qa Qb (fr*oth)) (Qa Qb (to*den)))
def touP (p q:Pt) (w:Wl):Bool :=
 if Zu7 p q=0/\Zu6 p q=0 then w.has p.x p.y p.d
 else if w.side p.x p.y p.d=0/\w.side q.x q.y q.d=0 then (if w.fx=w.tx then ovl p.y p.d q.y q.d w.fy w.ty else ovl p.x p.d q.x q.d w.fx w.tx)
 else if 0<=Qa Qb (w.side p.x p.y p.d*w.side q.x q.y q.d) then false
 else decide (Qa Qb (Zlz p q w.fx w.fy*Zlz p q w.tx w.ty)<=0)
def crV (N M:P2d) (D x y:Int):Int:=(M.x-N.x)*(y*D-N.y)-(M.y-N.y)*(x*D-N.x)
def tch (N M:P2d) (D ax ay bx by' : Int):Prop:=∃ s t l m:Int,0<=s/\0<=t/\0<s+t/\0<=l/\0<=m/\0<l+m/\(l*N.x+m*M.x)*(s+t)=(l+m)*(D*(s*ax+t*bx))/\(l*N.y+m*M.y)*(s+t)=(l+m)*(D*(s*ay+t*by'))
theorem Zzx {N M:P2d} {D ax ay bx by' : Int} (h:tch N M D ax ay bx by'):tch N M D bx by' ax ay:=by
 obtain ⟨s,t,l,m,h1,h2,h3,h4,h5,h6,h7,h8⟩:=h
 exact ⟨t,s,l,m,h2,h1,by omega,h4,h5,h6,by rw [Nh t s,Nh (t*bx)]; exact h7,by rw [Nh t s,Nh (t*by')]; exact h8⟩
theorem Zzw {N M:P2d} {D ax ay bx by' : Int} (h:tch N M D ax ay bx by'):tch M N D ax ay bx by':=by
 obtain ⟨s,t,l,m,h1,h2,h3,h4,h5,h6,h7,h8⟩:=h
 exact ⟨s,t,m,l,h1,h2,h3,h5,h4,by omega,by rw [Nh m l,Nh (m*M.x)]; exact h7,by rw [Nh m l,Nh (m*M.y)]; exact h8⟩
theorem Ygi {N M:P2d} {D ax ay bx by' : Int} (hy:N.y<M.y) {s t:Int} (hs:0<=s) (ht:0<=t) (hw:0<s+t) (h1:N.y*(s+t)<=D*(s*ay+t*by')) (h2:D*(s*ay+t*by')<=M.y*(s+t)) (h0:s*crV N M D ax ay+t*crV N M D bx by'=0):tch N M D ax ay bx by':=by
 refine ⟨s,t,M.y*(s+t)-D*(s*ay+t*by'),D*(s*ay+t*by')-N.y*(s+t),hs,ht,hw,by omega,by omega,?_,?_,?_⟩
 ·have:(M.y-N.y)*(s+t)=M.y*(s+t)-N.y*(s+t):=Lc _ _ _
  have:=Pi (show 0<M.y-N.y by omega) hw
  omega
 ·unfold crV at h0
  grind
 ·grind
theorem Yd0 {N M:P2d} {D ax ay bx by' : Int} (hy:N.y<M.y) {s t s' t' : Int} (hs:0<=s) (ht:0<=t) (hw:0<s+t) (hs' : 0<=s') (ht' : 0<=t') (hw' : 0<s'+t') (h1:N.y*(s+t)<=D*(s*ay+t*by')) (h2:D*(s*ay+t*by')<=M.y*(s+t))
  (h1' : N.y*(s'+t')<=D*(s'*ay+t'*by')) (h2' : D*(s'*ay+t'*by')<=M.y*(s'+t')) (c1:s*crV N M D ax ay+t*crV N M D bx by'<0) (c2:0<=s'*crV N M D ax ay+t'*crV N M D bx by'):tch N M D ax ay bx by':=by
 generalize hA:crV N M D ax ay=A at *
 generalize hB:crV N M D bx by'=B at *
 generalize hp:s*A+t*B=p at *
 generalize hq:s'*A+t'*B=q at *
 have k1:=Qu c2 hs
 have k2:=Qu c2 ht
 have k3:=Qu (show 0 <= -p by omega) hs'
 have k4:=Qu (show 0 <= -p by omega) ht'
 have k5:=Pi (show 0 < -p by omega) hw'
 have k6:=Qu c2 (Ro hw)
 have e0:q*s + -p*s'+(q*t + -p*t')=q*(s+t) + -p*(s'+t'):=by grind
 have eY:D*((q*s + -p*s')*ay+(q*t + -p*t')*by')=q*(D*(s*ay+t*by')) + -p*(D*(s'*ay+t'*by')):=by grind
 have i1:=Rq h1 c2
 have i2:=Rq h2 c2
 have i3:=Rq h1' (show 0 <= -p by omega)
 have i4:=Rq h2' (show 0 <= -p by omega)
 refine Ygi hy (s:=q*s + -p*s') (t:=q*t + -p*t') (by omega) (by omega) (by omega) ?_ ?_ ?_
 ·rw [e0,eY]
  have:N.y*(q*(s+t) + -p*(s'+t'))=q*(N.y*(s+t)) + -p*(N.y*(s'+t')):=by grind
  omega
 ·rw [e0,eY]
  have:M.y*(q*(s+t) + -p*(s'+t'))=q*(M.y*(s+t)) + -p*(M.y*(s'+t')):=by grind
  omega
 ·rw [hA,hB]
  have:(q*s + -p*s')*A+(q*t + -p*t')*B=q*(s*A+t*B) + -p*(s'*A+t'*B):=by grind
  rw [this,hp,hq]; grind
def detE (p:P2d) (D ax ay bx by' : Int):Int:=(bx-ax)*(p.y-ay*D)-(by'-ay)*(p.x-ax*D)
def upE (p:P2d) (D ax ay bx by' : Int):Prop:=ay*D<=p.y/\p.y<by'*D/\0<detE p D ax ay bx by'
def rgE (N M:P2d) (D x y:Int):Prop:=N.y<y*D/\y*D<=M.y/\crV N M D x y<0
theorem Zyg {N M:P2d} {D ax ay bx by' : Int} (hD:0<D) (hy:N.y<=M.y) (hab:ay<=by') (nt:¬ tch N M D ax ay bx by') :
  (upE N D ax ay bx by'↔upE M D ax ay bx by')↔(rgE N M D ax ay↔rgE N M D bx by'):=by
 have hm:ay*D<=by'*D:=Qj hab (Ro hD)
 by_cases hyy:N.y=M.y
 ·
  have r1:∀ x y,¬ rgE N M D x y:=by rintro x y ⟨a,b,_⟩; omega
  have key:upE N D ax ay bx by'↔upE M D ax ay bx by':=by
   by_cases hl:ay*D<=N.y/\N.y<by'*D
   ·have dd:detE N D ax ay bx by'-detE M D ax ay bx by'=(by'-ay)*(M.x-N.x):=by unfold detE; rw [hyy]; grind
    have hw:by'*D-ay*D=(by'-ay)*D:=by rw [Lc]
    have t1:∀ s,s=by'*D-N.y->∀ t,t=N.y-ay*D->D*(s*ax+t*bx)=N.x*((by'-ay)*D)+D*detE N D ax ay bx by':=by
     rintro s rfl t rfl; unfold detE; grind
    have t2:∀ s,s=by'*D-N.y->∀ t,t=N.y-ay*D->D*(s*ay+t*by')=N.y*((by'-ay)*D):=by
     rintro s rfl t rfl; grind
    unfold upE
    rw [<-hyy]
    constructor
    ·rintro ⟨h1,h2,h3⟩
     refine ⟨h1,h2,?_⟩
     by_cases h4:0<detE M D ax ay bx by'
     ·exact h4
     exfalso
     refine nt ⟨by'*D-N.y,N.y-ay*D,-detE M D ax ay bx by',detE N D ax ay bx by',by omega,by omega,by omega,by omega,by omega,by omega,?_,?_⟩
     ·rw [t1 _ rfl _ rfl,show by'*D-N.y+(N.y-ay*D)=(by'-ay)*D by omega]
      generalize detE N D ax ay bx by'=u at *
      generalize detE M D ax ay bx by'=v at *
      grind
     ·rw [t2 _ rfl _ rfl,show by'*D-N.y+(N.y-ay*D)=(by'-ay)*D by omega,<-hyy]
      generalize detE N D ax ay bx by'=u at *
      generalize detE M D ax ay bx by'=v at *
      grind
    ·rintro ⟨h1,h2,h3⟩
     refine ⟨h1,h2,?_⟩
     by_cases h4:0<detE N D ax ay bx by'
     ·exact h4
     exfalso
     refine nt ⟨by'*D-N.y,N.y-ay*D,detE M D ax ay bx by',-detE N D ax ay bx by',by omega,by omega,by omega,by omega,by omega,by omega,?_,?_⟩
     ·rw [t1 _ rfl _ rfl,show by'*D-N.y+(N.y-ay*D)=(by'-ay)*D by omega]
      generalize detE N D ax ay bx by'=u at *
      generalize detE M D ax ay bx by'=v at *
      grind
     ·rw [t2 _ rfl _ rfl,show by'*D-N.y+(N.y-ay*D)=(by'-ay)*D by omega,<-hyy]
      generalize detE N D ax ay bx by'=u at *
      generalize detE M D ax ay bx by'=v at *
      grind
   ·unfold upE
    rw [<-hyy]
    constructor<;>(rintro ⟨h1,h2,h3⟩; exact absurd ⟨h1,h2⟩ hl)
  exact ⟨fun _=>⟨fun h=>absurd h (r1 _ _),fun h=>absurd h (r1 _ _)⟩,fun _=>key⟩
 have hy:N.y<M.y:=by omega
 have lvl:∀ p:P2d,ay*D<=p.y->p.y<by'*D->0<=by'*D-p.y/\0<=p.y-ay*D/\0<(by'*D-p.y)+(p.y-ay*D)/\D*((by'*D-p.y)*ay+(p.y-ay*D)*by')=p.y*((by'*D-p.y)+(p.y-ay*D)):=by
  intro p h1 h2
  refine ⟨by omega,by omega,by omega,by grind⟩
 have crN:(by'*D-N.y)*crV N M D ax ay+(N.y-ay*D)*crV N M D bx by' = -((M.y-N.y)*D*detE N D ax ay bx by'):=by unfold crV detE; grind
 have crM:(by'*D-M.y)*crV N M D ax ay+(M.y-ay*D)*crV N M D bx by' = -((M.y-N.y)*D*detE M D ax ay bx by'):=by unfold crV detE; grind
 have hp:0<(M.y-N.y)*D:=Pi (by omega) hD
 have sN:∀ v,-((M.y-N.y)*D*v)<0↔0<v:=fun v=>by have:=Yha (a:=v) hp; omega
 have sN2:∀ v,0 <= -((M.y-N.y)*D*v)↔v<=0:=fun v=>by have:=np_l (a:=v) hp; omega
 have one:D*(1*ay+0*by')=ay*D/\D*(0*ay+1*by')=by'*D:=by constructor<;>grind
 have cA:1*crV N M D ax ay+0*crV N M D bx by'=crV N M D ax ay:=by omega
 have cB:0*crV N M D ax ay+1*crV N M D bx by'=crV N M D bx by':=by omega
 have two:=fun {s t s' t' : Int}=>@Yd0 N M D ax ay bx by' hy s t s' t'
 by_cases a0:ay*D<=N.y
 ·by_cases b0:by'*D<=N.y
  ·unfold upE rgE; constructor<;>intro _<;>constructor<;>(rintro ⟨h1,h2,h3⟩; omega)
  obtain ⟨l1,l2,l3,l4⟩:=lvl N a0 (by omega)
  by_cases b1:by'*D<=M.y
  ·
   have key:0<detE N D ax ay bx by'↔crV N M D bx by'<0:=by
    constructor
    ·intro h
     by_cases hc:crV N M D bx by'<0
     ·exact hc
     exact absurd (two (s':=0) (t':=1) l1 l2 l3 (by omega) (by omega) (by omega) (by rw [l4]; omega) (by rw [l4]; exact Qj (Ro hy) (Ro l3)) (by rw [one.2]; omega) (by rw [one.2]; omega) (by rw [crN]; exact (sN _).2 h) (by rw [cB]; omega)) nt
    ·intro h
     by_cases hc:0<detE N D ax ay bx by'
     ·exact hc
     exact absurd (two (s:=0) (t:=1) (by omega) (by omega) (by omega) l1 l2 l3 (by rw [one.2]; omega) (by rw [one.2]; omega) (by rw [l4]; omega) (by rw [l4]; exact Qj (Ro hy) (Ro l3)) (by rw [cB]; exact h) (by rw [crN]; exact (sN2 _).2 (by omega))) nt
   unfold upE rgE
   rw [<-key]
   generalize detE N D ax ay bx by'=u at *
   constructor
   ·intro h
    constructor
    ·rintro ⟨h1,_,_⟩; omega
    ·rintro ⟨_,_,h3⟩
     have:=h.1 ⟨a0,by omega,h3⟩
     omega
   ·intro h
    constructor
    ·rintro ⟨_,_,h3⟩
     have:=h.2 ⟨by omega,b1,h3⟩
     omega
    ·rintro ⟨_,h2,_⟩; omega
  ·
   obtain ⟨m1,m2,m3,m4⟩:=lvl M (by omega) (by omega)
   have key:0<detE N D ax ay bx by'↔0<detE M D ax ay bx by':=by
    constructor
    ·intro h
     by_cases hc:0<detE M D ax ay bx by'
     ·exact hc
     exact absurd (two l1 l2 l3 m1 m2 m3 (by rw [l4]; omega) (by rw [l4]; exact Qj (Ro hy) (Ro l3)) (by rw [m4]; exact Qj (Ro hy) (Ro m3)) (by rw [m4]; omega) (by rw [crN]; exact (sN _).2 h) (by rw [crM]; exact (sN2 _).2 (by omega))) nt
    ·intro h
     by_cases hc:0<detE N D ax ay bx by'
     ·exact hc
     exact absurd (two m1 m2 m3 l1 l2 l3 (by rw [m4]; exact Qj (Ro hy) (Ro m3)) (by rw [m4]; omega) (by rw [l4]; omega) (by rw [l4]; exact Qj (Ro hy) (Ro l3)) (by rw [crM]; exact (sN _).2 h) (by rw [crN]; exact (sN2 _).2 (by omega))) nt
   unfold upE rgE
   rw [key]
   constructor
   ·intro _; constructor<;>(rintro ⟨h1,h2,h3⟩; omega)
   ·intro _
    constructor
    ·rintro ⟨_,_,h3⟩; exact ⟨by omega,by omega,h3⟩
    ·rintro ⟨_,_,h3⟩; exact ⟨by omega,by omega,h3⟩
 by_cases a1:ay*D<=M.y
 ·by_cases b1:by'*D<=M.y
  ·
   have key:crV N M D ax ay<0↔crV N M D bx by'<0:=by
    constructor
    ·intro h
     by_cases hc:crV N M D bx by'<0
     ·exact hc
     exact absurd (two (s:=1) (t:=0) (s':=0) (t':=1) (by omega) (by omega) (by omega) (by omega) (by omega) (by omega) (by rw [one.1]; omega) (by rw [one.1]; omega) (by rw [one.2]; omega) (by rw [one.2]; omega) (by rw [cA]; exact h) (by rw [cB]; omega)) nt
    ·intro h
     by_cases hc:crV N M D ax ay<0
     ·exact hc
     exact absurd (two (s:=0) (t:=1) (s':=1) (t':=0) (by omega) (by omega) (by omega) (by omega) (by omega) (by omega) (by rw [one.2]; omega) (by rw [one.2]; omega) (by rw [one.1]; omega) (by rw [one.1]; omega) (by rw [cB]; exact h) (by rw [cA]; omega)) nt
   unfold upE rgE
   rw [key]
   constructor
   ·intro _
    constructor
    ·rintro ⟨_,_,h3⟩; exact ⟨by omega,by omega,h3⟩
    ·rintro ⟨_,_,h3⟩; exact ⟨by omega,by omega,h3⟩
   ·intro _; constructor<;>(rintro ⟨h1,h2,h3⟩; omega)
  ·
   obtain ⟨m1,m2,m3,m4⟩:=lvl M a1 (by omega)
   have key:0<detE M D ax ay bx by'↔crV N M D ax ay<0:=by
    constructor
    ·intro h
     by_cases hc:crV N M D ax ay<0
     ·exact hc
     exact absurd (two (s':=1) (t':=0) m1 m2 m3 (by omega) (by omega) (by omega) (by rw [m4]; exact Qj (Ro hy) (Ro m3)) (by rw [m4]; omega) (by rw [one.1]; omega) (by rw [one.1]; omega) (by rw [crM]; exact (sN _).2 h) (by rw [cA]; omega)) nt
    ·intro h
     by_cases hc:0<detE M D ax ay bx by'
     ·exact hc
     exact absurd (two (s:=1) (t:=0) (by omega) (by omega) (by omega) m1 m2 m3 (by rw [one.1]; omega) (by rw [one.1]; omega) (by rw [m4]; exact Qj (Ro hy) (Ro m3)) (by rw [m4]; omega) (by rw [cA]; exact h) (by rw [crM]; exact (sN2 _).2 (by omega))) nt
   unfold upE rgE
   rw [<-key]
   generalize detE M D ax ay bx by'=u at *
   constructor
   ·intro h
    constructor
    ·rintro ⟨_,_,h3⟩
     have:=h.2 ⟨a1,by omega,h3⟩
     omega
    ·rintro ⟨_,h2,_⟩; omega
   ·intro h
    constructor
    ·rintro ⟨h1,_,_⟩; omega
    ·rintro ⟨_,_,h3⟩
     have:=h.1 ⟨by omega,a1,h3⟩
     omega
 ·unfold upE rgE; constructor<;>intro _<;>constructor<;>(rintro ⟨h1,h2,h3⟩; omega)
instance (p:P2d) (D ax ay bx by' : Int):Decidable (upE p D ax ay bx by'):=by unfold upE; exact inferInstance
instance (N M:P2d) (D x y:Int):Decidable (rgE N M D x y):=by unfold rgE; exact inferInstance
def flZ (p:P2d) (w:Wl):Bool:=if w.fy<=w.ty then decide (upE p p.d w.fx w.fy w.tx w.ty) else decide (upE p p.d w.tx w.ty w.fx w.fy)
theorem Yfy {w:Wl} {n sx sy:Int} (h:Str w n sx sy) (p:P2d):detE p p.d w.fx w.fy w.tx w.ty=n*bsP w sx sy p/\detE p p.d w.tx w.ty w.fx w.fy = -(n*bsP w sx sy p):=by
 unfold detE bsP bes
 rw [h.tx,h.ty]
 constructor<;>grind
theorem Yfl {w:Wl} {n sx sy x y d:Int} (h:Str w n sx sy) (hp:PtOk x y d):flips x y d w=flZ ⟨x,y,d⟩ w:=by
 have a2:=Zj h.b2 hp.hd
 have a4:=Zj h.b4 hp.hd
 have hD:=hp.hD
 have hd:=hp.hd
 obtain ⟨e1,e2⟩:=Yfy h ⟨x,y,d⟩
 have hn:=h.hn
 unfold flips flZ
 rw [Xz h hp,W_eq (n:=w.fy*d) (by omega) (by omega),W_eq (n:=w.ty*d) (by omega) (by omega)]
 change detE ⟨x,y,d⟩ d w.fx w.fy w.tx w.ty=_ at e1
 change detE ⟨x,y,d⟩ d w.tx w.ty w.fx w.fy=_ at e2
 have p1:=Yha (a:=bsP w sx sy ⟨x,y,d⟩) hn
 have p2:=Yi7 (a:=bsP w sx sy ⟨x,y,d⟩) hn
 have es:bes w sx sy x y d=bsP w sx sy ⟨x,y,d⟩:=rfl
 rw [es]
 have u1:upE ⟨x,y,d⟩ d w.fx w.fy w.tx w.ty↔w.fy*d<=y/\y<w.ty*d/\0<n*bsP w sx sy ⟨x,y,d⟩:=by rw [<-e1]; exact Iff.rfl
 have u2:upE ⟨x,y,d⟩ d w.tx w.ty w.fx w.fy↔w.ty*d<=y/\y<w.fy*d/\0 < -(n*bsP w sx sy ⟨x,y,d⟩):=by rw [<-e2]; exact Iff.rfl
 show _=if w.fy<=w.ty then decide (upE ⟨x,y,d⟩ d w.fx w.fy w.tx w.ty) else decide (upE ⟨x,y,d⟩ d w.tx w.ty w.fx w.fy)
 by_cases hc:w.fy<=w.ty
 ·have hm:w.fy*d<=w.ty*d:=Qj hc (Ro hd)
  rw [if_pos hc,Sj]
  simp only [Re,Qc,decide_eq_true_eq,Zaq,Zar,u1]
  generalize bsP w sx sy ⟨x,y,d⟩=B at *
  omega
 ·have hm:w.ty*d<=w.fy*d:=Qj (by omega) (Ro hd)
  rw [if_neg hc,Sj]
  simp only [Re,Qc,decide_eq_true_eq,Zaq,Zar,u2]
  generalize bsP w sx sy ⟨x,y,d⟩=B at *
  omega
theorem Zyh {N M:P2d} {D:Int} (hN:N.d=D) (hM:M.d=D) (hD:0<D) (hy:N.y<=M.y) {w:Wl} (nt:¬ tch N M D w.fx w.fy w.tx w.ty):(flZ N w ^^ flZ M w)=(decide (rgE N M D w.fx w.fy) ^^ decide (rgE N M D w.tx w.ty)):=by
 unfold flZ
 rw [hN,hM]
 by_cases hc:w.fy<=w.ty
 ·rw [if_pos hc,if_pos hc]
  exact Zpx (Zyg hD hy hc nt)
 ·rw [if_neg hc,if_neg hc,Bool.xor_comm (decide (rgE N M D w.fx w.fy))]
  exact Zpx (Zyg hD hy (by omega) fun h=>nt (Zzx h))
theorem Zzl {N M:P2d} {D:Int} (hN:N.d=D) (hM:M.d=D) (hD:0<D) {cs:List (Int × Int)} (nt:∀ w∈wls cs,¬ tch N M D w.fx w.fy w.tx w.ty):xorL ((wls cs).map (flZ N))=xorL ((wls cs).map (flZ M)):=by
 have key:∀ N M:P2d,N.d=D->M.d=D->N.y<=M.y->(∀ w∈wls cs,¬ tch N M D w.fx w.fy w.tx w.ty)->(xorL ((wls cs).map (flZ N)) ^^ xorL ((wls cs).map (flZ M)))=false:=by
  intro N M h1 h2 hy h3
  rw [Zim,<-tele (fun x y=>decide (rgE N M D x y)) cs]
  congr 1
  refine Na fun w hw=>?_
  exact Zyh h1 h2 hD hy (h3 w hw)
 have fin:∀ a b:Bool,(a ^^ b)=false->a=b:=by decide
 rcases Hz N.y M.y with hy|hy
 ·exact fin _ _ (key N M hN hM hy nt)
 ·exact (fin _ _ (key M N hM hN hy fun w hw h=>nt w hw (Zzw h))).symm
theorem Zoh {x y d:Int}:∀ (ws:List Wl) (b:Bool),inPl x y d b ws=true->(b ^^ xorL (ws.map (flips x y d)))=true
 | [],b,h=>by simpa [xorL,inPl] using h
 | w::ws,b,h=>by
  rw [inPl] at h
  split at h
  ·cases h
  ·have:=Zoh ws _ h
   rw [Tj,show xorL (flips x y d w::ws.map (flips x y d))=(flips x y d w ^^ xorL (ws.map (flips x y d))) from rfl,<-Bool.xor_assoc]
   exact this
theorem Zkt {α:Type} (f:α->Bool):∀ (l:List α),(∀ a∈l,f a=false)->xorL (l.map f)=false
 | [],_=>rfl
 | a::l,h=>by
  rw [Tj,show xorL (f a::l.map f)=(f a ^^ xorL (l.map f)) from rfl,h a (by simp),Zkt f l fun b hb=>h b (by simp [hb])]
  rfl
theorem Yfo {w:Wl} {p:P2d} (hd:0<p.d) (h1 : -5000<=w.fy/\w.fy<=5000) (h2 : -5000<=w.ty/\w.ty<=5000) (hy:p.y < -(5000*p.d)\/5000*p.d<p.y):flZ p w=false:=by
 have a1:=Qj h1.1 (Ro hd)
 have a2:=Qj h1.2 (Ro hd)
 have a3:=Qj h2.1 (Ro hd)
 have a4:=Qj h2.2 (Ro hd)
 unfold flZ
 split
 ·rw [decide_eq_false]
  rintro ⟨b1,b2,_⟩
  omega
 ·rw [decide_eq_false]
  rintro ⟨b1,b2,_⟩
  omega
theorem Yd1 {N M:P2d} {D ax ay bx by' : Int} (hD:0<D) (hM:M.x=N.x) (h1 : -5000<=ax/\ax<=5000) (h2 : -5000<=bx/\bx<=5000) (hx:N.x < -(5000*D)\/5000*D<N.x):¬ tch N M D ax ay bx by':=by
 rintro ⟨s,t,l,m,hs,ht,hst,hl,hm,hlm,e,_⟩
 rw [hM,<-Int.add_mul,Int.mul_assoc] at e
 have e:=Int.eq_of_mul_eq_mul_left (by omega) e
 have a1:=Rq h1.1 hs
 have a2:=Rq h1.2 hs
 have a3:=Rq h2.1 ht
 have a4:=Rq h2.2 ht
 have b1:=Rq (show s*ax+t*bx<=5000*(s+t) by omega) (Ro hD)
 have b2:=Rq (show -5000*(s+t)<=s*ax+t*bx by omega) (Ro hD)
 rw [<-e] at b1 b2
 have c1:D*(5000*(s+t))=5000*D*(s+t):=by grind
 have c2:D*(-5000*(s+t)) = -(5000*D)*(s+t):=by grind
 rw [c1] at b1
 rw [c2] at b2
 rcases hx with hx|hx
 ·have:=Pf hx hst
  omega
 ·have:=Pf hx hst
  omega
theorem Zle {h:Hal} (hs:Zaf h.cs) {x y d:Int} (hp:PtOk x y d) (hi:Yg h x y d=true):(-(5000*d)<=x/\x<=5000*d)/\(-(5000*d)<=y/\y<=5000*d):=by
 have hd:=hp.hd
 have h0:xorL ((wls h.cs).map (flZ ⟨x,y,d⟩))=true:=by
  have:=Zoh _ _ hi
  rw [Bool.false_xor] at this
  rw [<-this]
  congr 1
  refine Na fun w hw=>?_
  obtain ⟨n,sx,sy,g⟩:=Zan hs w hw
  exact (Yfl g hp).symm
 have far:∀ p:P2d,0<p.d->(p.y < -(5000*p.d)\/5000*p.d<p.y)->xorL ((wls h.cs).map (flZ p))=false:=fun p hpd hy =>
  Zkt _ _ fun w hw=>by
   obtain ⟨n,sx,sy,g⟩:=Zan hs w hw
   exact Yfo hpd g.b2 g.b4 hy
 have hy:¬ (y < -(5000*d)\/5000*d<y):=fun hy=>by
  rw [far ⟨x,y,d⟩ hd hy] at h0; cases h0
 have hx:¬ (x < -(5000*d)\/5000*d<x):=fun hx=>by
  rw [Zzl (N:=⟨x,y,d⟩) (M:=⟨x,5001*d,d⟩) (D:=d) rfl rfl hd (fun w hw=>by
   obtain ⟨n,sx,sy,g⟩:=Zan hs w hw
   exact Yd1 hd rfl g.b1 g.b3 hx),far ⟨x,5001*d,d⟩ hd (.inr (by dsimp only; omega))] at h0
  cases h0
 omega
theorem c113 (k:Int) (p:Pt):PCall Tryz.prog 169 [I k,p.av] ⟨I (offN k p.x p.y p.z),[]⟩:=by
 refine bs.pv (sx:=nos) Zb Tryz.func169 (by kernel_rfl) (by kernel_rfl) rfl ?_
 repeat'(first|refine wk0 ?_|(refine wk2 ?_ ?_<;>intro _)|refine wk4 ?_|fail);all_goals(conv=>whnf)
 all_goals exact Za (by simp_all [offN])
def Zm5 (h:Hal) (w:Wl) (p:Pt):Bool:=!(decide (p.z<=0)||decide (Qa Qb (h.ht*p.d)<=p.z))&&(if w.fx=w.tx then decide (Qa Qb (imin w.fy w.ty*p.d)<p.y)&&decide (p.y<Qa Qb (imax w.fy w.ty*p.d)) else decide (Qa Qb (imin w.fx w.tx*p.d)<p.x)&&decide (p.x<Qa Qb (imax w.fx w.tx*p.d)))
def Za9 (h:Hal) (i:Int) (p:Pt):Bool:=if i<h.ws.length then Zm5 h (wlOf h.cs i.toNat) p else if i<(h.ws.length:Int)+2 then Yg h p.x p.y p.d else (kat h i).rc.holds p.x p.y p.d
theorem Zg2 {h:Hal} {k:Nat} {p:Pt} (hk:k<h.ws.length):Za9 h k p=Zm5 h (wlOf h.cs k) p:=by unfold Za9; rw [if_pos (by omega)]; rfl
theorem Zfa {h:Hal} {p:Pt}:Za9 h h.ws.length p=Yg h p.x p.y p.d:=by unfold Za9; rw [if_neg (by omega),if_pos (by omega)]
theorem Zg3 {h:Hal} {p:Pt}:Za9 h ((h.ws.length:Int)+1) p=Yg h p.x p.y p.d:=by unfold Za9; rw [if_neg (by omega),if_pos (by omega)]
theorem Ziq {h:Hal} {j:Nat} {p:Pt} (hj:j<h.ks.length):Za9 h ((h.ws.length:Int)+2+j) p=h.ks[j].rc.holds p.x p.y p.d:=by unfold Za9; rw [if_neg (by omega),if_neg (by omega),Zlb hj]
theorem c118 {h:Hal} {s:Stg} (g:Sit h s) {i:Int} (hi:SK h i) (p:Pt):PCall Tryz.prog 174 [.agg (stgL h s),I i,p.av] ⟨Bo (Za9 h i p),[]⟩:=by
 have f3:=g.ok.f.2.2.1
 have f4:=g.ok.f.2.2.2.1
 have hk0:=Ze (c87 g.ok.f s hi) (Ze (c183 g.ok.f p.x p.y p.d) (Yhs g))
 cases hi with
 | wall k hk =>
  have hk2:k<h.cs.length:=by have:=g.fine.le; omega
  rw [Zg2 hk]
  obtain ⟨v1,v2⟩:=Zem (h:=h) (i:=k) (by omega)
  rw [v1,v2] at hk0
  have hk1:=Ze (Yf7 g.ok.f hk2) hk0
  generalize wlOf h.cs k=w at *
  refine bs.pv (sx:=nos) hk1 Tryz.func174 (by kernel_rfl) (by kernel_rfl) rfl ?_
  repeat'(first|refine wk0 ?_|(refine wk2 ?_ ?_<;>intro _)|refine wk4 ?_|fail);all_goals(conv=>whnf)
  all_goals clear hk0 hk1
  all_goals first
   | (exfalso; rename_i hx; have hx:=of_decide_eq_true (show decide ((k:Int)=(h.ws.length:Int)+1)=true from hx); omega)
   | (exfalso; rename_i hx; have hx:=of_decide_eq_true (show decide ((k:Int)=(h.ws.length:Int))=true from hx); omega)
   | (refine Zd ?_; simp_all [Zm5]; done)
   | (refine Zd ?_; simp_all [Zm5]; intro _; omega)
   | (exfalso; simp_all; omega)
 | floor =>
  rw [Zfa]
  obtain ⟨v1,v2⟩:=Zem (h:=h) (i:=h.ws.length) (by omega)
  rw [v1,v2] at hk0
  refine bs.pv (sx:=nos) hk0 Tryz.func174 (by kernel_rfl) (by kernel_rfl) rfl ?_
  repeat'(first|refine wk1 ?_|(refine wk2 ?_ ?_<;>intro _)|refine wk4 ?_|fail);all_goals(conv=>whnf)
  exact Zd rfl
 | ceil =>
  rw [Zg3]
  obtain ⟨v1,v2⟩:=Zem (h:=h) (i:=(h.ws.length:Int)+1) (by omega)
  rw [v1,v2] at hk0
  refine bs.pv (sx:=nos) hk0 Tryz.func174 (by kernel_rfl) (by kernel_rfl) rfl ?_
  repeat'(first|refine wk1 ?_|(refine wk2 ?_ ?_<;>intro _)|refine wk4 ?_|fail);all_goals(conv=>whnf)
  ·exact Zd rfl
  all_goals (exfalso; simp_all; done)
 | can j hj =>
  rw [Ziq hj]
  obtain ⟨v1,v2⟩:=Zs5 hj
  rw [v1,v2] at hk0
  generalize h.ks[j]=c at *
  have hk1:=Ze (c193 c.rc p.x p.y p.d) hk0
  refine bs.pv (sx:=nos) hk1 Tryz.func174 (by kernel_rfl) (by kernel_rfl) rfl ?_
  repeat'(first|refine wk1 ?_|(refine wk2 ?_ ?_<;>intro _)|refine wk4 ?_|fail);all_goals(conv=>whnf)
  exact Zd rfl
def Ydq (c:Can) (p:Pt):Bool:=Zgf c p && !decide (p.x=Qa Qb (c.fx*p.d)) && !decide (p.x=Qa Qb (c.tx*p.d)) && !decide (p.y=Qa Qb (c.fy*p.d)) && !decide (p.y=Qa Qb (c.ty*p.d))
def Zzn (h:Hal) (l:Ln) (p:Pt):Bool:=within (l.along p) 1 (Qa Qb (Qa Qb (l.full*p.d)-1))&&within p.z 1 (Qa Qb (Qa Qb (h.ht*p.d)-1))
def Zip (h:Hal) (i:Int) (p:Pt):Bool:=if i<h.ws.length then Zzn h (lnOf h.cs i.toNat) p else if i<(h.ws.length:Int)+2 then Zz h p else Ydq (kat h i) p
theorem Ztg {h:Hal} {k:Nat} {p:Pt} (hk:k<h.ws.length):Zip h k p=Zzn h (lnOf h.cs k) p:=by unfold Zip; rw [if_pos (by omega)]; rfl
theorem Zp1 {h:Hal} {p:Pt}:Zip h h.ws.length p=Zz h p:=by unfold Zip; rw [if_neg (by omega),if_pos (by omega)]
theorem Zth {h:Hal} {p:Pt}:Zip h ((h.ws.length:Int)+1) p=Zz h p:=by unfold Zip; rw [if_neg (by omega),if_pos (by omega)]
theorem Zu4 {h:Hal} {j:Nat} {p:Pt} (hj:j<h.ks.length):Zip h ((h.ws.length:Int)+2+j) p=Ydq h.ks[j] p:=by unfold Zip; rw [if_neg (by omega),if_neg (by omega),Zlb hj]
def valN (k x y z:Int):Int:=if k=0 then x else if k=1 then y else if k=2 then z else if k=3 then x+y else x-y
theorem Zmg {w:Wl} {n sx sy:Int} (h:Str w n sx sy):plW w=if sx=0 then (0,w.fx) else if sy=0 then (1,w.fy) else if sx=sy then (4,w.fx-w.fy) else (3,w.fx+w.fy):=by
 have hn:=h.hn
 have b1:=h.b1
 have b2:=h.b2
 have hxy:=h.hxy
 have w4:Qa Qb (w.fx-w.fy)=w.fx-w.fy:=W_eq (by omega) (by omega)
 have w3:Qa Qb (w.fx+w.fy)=w.fx+w.fy:=W_eq (by omega) (by omega)
 unfold plW
 rw [h.dx,h.dy,w3,w4]
 rcases h.hx with rfl|rfl|rfl<;>rcases h.hy with rfl|rfl|rfl<;>(try (exact absurd ⟨rfl,rfl⟩ hxy))<;>simp only [Int.mul_zero,Si,Tc]<;>(repeat' split)<;>first|rfl|(exfalso; omega)
theorem Zu9 {h:Hal} {w:Wl} {n sx sy:Int} (hs:Str w n sx sy) {p:Pt} (hp:PtOk p.x p.y p.d) (ht:2<=h.ht/\h.ht<=5000) (hpl:valN (plW w).1 p.x p.y p.z=(plW w).2*p.d):Zm5 h w p=Zzn h w.ln p:=by
 obtain ⟨x,y,z,d⟩:=p
 dsimp only at hp hpl
 have hd:=hp.hd
 have hD:=hp.hD
 have nd:=Yet hs.hn hs.nle hd
 have a1:=Zj hs.b1 hd
 have a2:=Zj hs.b2 hd
 have a3:=Zj hs.b3 hd
 have a4:=Zj hs.b4 hd
 have hz:Qa Qb (h.ht*d)=h.ht*d/\Qa Qb (h.ht*d-1)=h.ht*d-1/\0<h.ht*d:=by
  have:=Zj (f:=h.ht) (d:=d) (by omega) hd
  have:=Pi (a:=h.ht) (b:=d) (by omega) hd
  exact ⟨W_eq (by omega) (by omega),W_eq (by omega) (by omega),this⟩
 unfold Zm5 Zzn
 rw [Ztd hs hp,Zxr hs]
 rw [Zmg hs] at hpl
 unfold valN at hpl
 rw [Zhi,Zhi,Zhj,Zhj]
 dsimp only
 rw [hz.1,hz.2.1]
 rw [Zdv hd,Zdv hd,Zdw hd,Zdw hd]
 rw [W_eq (n:=min (w.fx*d) (w.tx*d)) (by omega) (by omega),W_eq (n:=max (w.fx*d) (w.tx*d)) (by omega) (by omega),W_eq (n:=min (w.fy*d) (w.ty*d)) (by omega) (by omega),W_eq (n:=max (w.fy*d) (w.ty*d)) (by omega) (by omega)]
 have etx:=hs.tx
 have ety:=hs.ty
 have b1:=hs.b1
 have b2:=hs.b2
 have hn:=hs.hn
 have cnd:(w.fx=w.tx)↔sx=0:=by
  rw [etx]
  constructor
  ·intro e
   have:n*sx=0:=by omega
   rcases Gi.1 this with h|h
   ·omega
   ·exact h
  ·intro e; rw [e]; omega
 have ex:w.tx*d=w.fx*d+sx*(n*d):=by rw [etx]; grind
 have ey:w.ty*d=w.fy*d+sy*(n*d):=by rw [ety]; grind
 have full:n*(sx*sx+sy*sy)*d=(sx*sx+sy*sy)*(n*d):=by grind
 have d3:(w.fx+w.fy)*d=w.fx*d+w.fy*d:=by grind
 have d4:(w.fx-w.fy)*d=w.fx*d-w.fy*d:=by grind
 rw [full,ex,ey]
 unfold alo
 simp only [cnd]
 have hx:=hs.hx
 have hy:=hs.hy
 have hxy:=hs.hxy
 clear full etx ety cnd hs hp hz
 generalize w.fx*d=A at *
 generalize w.fy*d=C at *
 generalize n*d=N at *
 generalize h.ht*d=H at *
 rcases hx with rfl|rfl|rfl<;>rcases hy with rfl|rfl|rfl<;>(try (exact absurd ⟨rfl,rfl⟩ hxy))<;>simp [Te] at hpl ⊢ <;> rw [Sj]<;>simp [within_iff]
 all_goals omega
structure Crs where
 su:Int
 fx:Int
 fy:Int
 fz:Int
 to:Pt
abbrev Crs.av (c:Crs):AV:=.agg [I c.su,I c.fx,I c.fy,I c.fz,I c.to.x,I c.to.y,I c.to.z,I c.to.d]
def crF (pl:Int × Int) (c:Crs):Int:=valN pl.1 c.fx c.fy c.fz-pl.2
def crG (pl:Int × Int) (c:Crs):Int:=valN pl.1 c.to.x c.to.y c.to.z-pl.2*c.to.d
def crPt (c:Crs) (u v:Int):Pt:=⟨c.fx*u+c.to.x*v,c.fy*u+c.to.y*v,c.fz*u+c.to.z*v,u+c.to.d*v⟩
def redP (p:Pt):Pt:=⟨p.x / (g4 p:Int),p.y / (g4 p:Int),p.z / (g4 p:Int),p.d / (g4 p:Int)⟩
def iabs (n:Int):Int:=if n<0 then -n else n
def Vr (pl:Int × Int) (c:Crs):Pt:=redP (crPt c (iabs (crG pl c)) (iabs (crF pl c)))
def ptZ:Pt:=⟨0,0,0,0⟩
def Zba (well:Pt->Bool) (pl:Int × Int) (c:Crs):Pt × Int :=
 if 0<=sgn (crF pl c)*sgn (crG pl c) then (ptZ,12)
 else if well (Vr pl c) then (if 100000<(Vr pl c).d then (ptZ,8) else (Vr pl c,0))
 else (ptZ,12)
structure CrOk (pl:Int × Int) (c:Crs):Prop where
 k0:0<=pl.1
 k4:pl.1<=4
 at' : -10000<=pl.2/\pl.2<=10000
 fx : -45000<=c.fx/\c.fx<=45000
 fy : -45000<=c.fy/\c.fy<=45000
 fz : -45000<=c.fz/\c.fz<=45000
 d0:0<c.to.d
 d1:c.to.d<=100000
 x : -(5000*c.to.d)<=c.to.x/\c.to.x<=5000*c.to.d
 y : -(5000*c.to.d)<=c.to.y/\c.to.y<=5000*c.to.d
 z : -(5000*c.to.d)<=c.to.z/\c.to.z<=5000*c.to.d
theorem Ydf {pl:Int × Int} {c:Crs} (h:CrOk pl c):Qa Qb (offN pl.1 c.fx c.fy c.fz-pl.2)=crF pl c/\Qa Qb (offN pl.1 c.fx c.fy c.fz-Qa Qb (pl.2*1))=crF pl c /\ -100000<=crF pl c/\crF pl c<=100000:=by
 obtain ⟨h1,h2,h3,h4,h5,h6,_⟩:=h
 unfold crF valN offN
 rw [Si,W_eq (n:=pl.2) (by omega) (by omega)]
 repeat' split
 all_goals (try rw [W_eq (n:=c.fx+c.fy) (by omega) (by omega)])
 all_goals (try rw [W_eq (n:=c.fx-c.fy) (by omega) (by omega)])
 all_goals (refine ⟨W_eq (by omega) (by omega),W_eq (by omega) (by omega),by omega,by omega⟩)
theorem Yde {pl:Int × Int} {c:Crs} (h:CrOk pl c):Qa Qb (offN pl.1 c.to.x c.to.y c.to.z-Qa Qb (pl.2*c.to.d))=crG pl c /\ -2000000000<=crG pl c/\crG pl c<=2000000000:=by
 obtain ⟨h1,h2,h3,h4,h5,h6,h7,h8,h9,h10,h11⟩:=h
 have m:=Us (a:=pl.2) (b:=c.to.d) (A:=10000) (B:=100000) (by omega) (by omega)
 unfold crG valN offN
 rw [W_eq (n:=pl.2*c.to.d) (by omega) (by omega)]
 generalize pl.2*c.to.d=m at *
 repeat' split
 all_goals (try rw [W_eq (n:=c.to.x+c.to.y) (by omega) (by omega)])
 all_goals (try rw [W_eq (n:=c.to.x-c.to.y) (by omega) (by omega)])
 all_goals (refine ⟨W_eq (by omega) (by omega),by omega,by omega⟩)
theorem Zys {pl:Int × Int} {c:Crs} (h:CrOk pl c) {u v:Int} (hu:0<=u/\u<=2000000000) (hv:0<=v/\v<=100000) :
  (-90000000000000<=c.fx*u/\c.fx*u<=90000000000000)/\(-90000000000000<=c.fy*u/\c.fy*u<=90000000000000)/\(-90000000000000<=c.fz*u/\c.fz*u<=90000000000000) /\
  (-50000000000000<=c.to.x*v/\c.to.x*v<=50000000000000)/\(-50000000000000<=c.to.y*v/\c.to.y*v<=50000000000000)/\(-50000000000000<=c.to.z*v/\c.to.z*v<=50000000000000)/\(0<=c.to.d*v/\c.to.d*v<=10000000000):=by
 obtain ⟨h1,h2,h3,h4,h5,h6,h7,h8,h9,h10,h11⟩:=h
 have m1:=Us (a:=c.fx) (b:=u) (A:=45000) (B:=2000000000) (by omega) (by omega)
 have m2:=Us (a:=c.fy) (b:=u) (A:=45000) (B:=2000000000) (by omega) (by omega)
 have m3:=Us (a:=c.fz) (b:=u) (A:=45000) (B:=2000000000) (by omega) (by omega)
 have m4:=Us (a:=c.to.x) (b:=v) (A:=500000000) (B:=100000) (by omega) (by omega)
 have m5:=Us (a:=c.to.y) (b:=v) (A:=500000000) (B:=100000) (by omega) (by omega)
 have m6:=Us (a:=c.to.z) (b:=v) (A:=500000000) (B:=100000) (by omega) (by omega)
 have m7:=Us (a:=c.to.d) (b:=v) (A:=100000) (B:=100000) (by omega) (by omega)
 have m8:=Qu (Ro h7) hv.1
 refine ⟨by omega,by omega,by omega,by omega,by omega,by omega,by omega,by omega⟩
structure Big (p:Pt):Prop where
 x : -140000000000000<=p.x/\p.x<=140000000000000
 y : -140000000000000<=p.y/\p.y<=140000000000000
 z : -140000000000000<=p.z/\p.z<=140000000000000
 d:0<p.d/\p.d<=12000000000
theorem Big.wf {p:Pt} (h:Big p):p.wf:=by
 obtain ⟨h1,h2,h3,h4⟩:=h
 exact ⟨⟨by omega,by omega⟩,⟨by omega,by omega⟩,⟨by omega,by omega⟩,⟨by omega,by omega⟩⟩
theorem Ybp {pl:Int × Int} {c:Crs} (h:CrOk pl c) {u v:Int} (hu:0<u/\u<=2000000000) (hv:0<v/\v<=100000):Big (crPt c u v):=by
 have hb:=Zys h (u:=u) (v:=v) (by omega) (by omega)
 unfold crPt
 refine ⟨?_,?_,?_,?_⟩<;>dsimp only<;>omega
theorem Yh9 (p:Pt):((g4 p:Int) ∣ p.x/\(g4 p:Int) ∣ p.y)/\((g4 p:Int) ∣ p.z/\(g4 p:Int) ∣ p.d):=by
 unfold g4
 have a:=Hs (Tk p.x.natAbs p.y.natAbs) (Tk p.z.natAbs p.d.natAbs)
 have b:=Nr (Tk p.x.natAbs p.y.natAbs) (Tk p.z.natAbs p.d.natAbs)
 exact ⟨⟨Mx.2 (Kn a (Hs _ _)),Mx.2 (Kn a (Nr _ _))⟩,⟨Mx.2 (Kn b (Hs _ _)),Mx.2 (Kn b (Nr _ _))⟩⟩
theorem Zb9 {a g:Int} (hg:0<g) (h:g ∣ a):a.tdiv g=a / g/\a / g*g=a/\(∀ B,-B<=a/\a<=B -> -B<=a / g/\a / g<=B):=by
 obtain ⟨k,rfl⟩:=h
 rw [Int.mul_tdiv_cancel_left _ (by omega),Int.mul_ediv_cancel_left _ (by omega)]
 refine ⟨rfl,Ob _ _,fun B hB=>?_⟩
 rcases Ow k 0 with hk|hk
 ·have:=Qj (show 1<=g by omega) (show 0 <= -k by omega)
  have e:g * -k = -(g*k):=Tc _ _
  omega
 ·have:=Qj (show 1<=g by omega) hk
  omega
theorem Zd9 {p:Pt} (h:Big p):(0<(g4 p:Int)/\(g4 p:Int)<=12000000000)/\(Qa Qb (p.x.tdiv (g4 p))=(redP p).x/\Qa Qb (p.y.tdiv (g4 p))=(redP p).y/\Qa Qb (p.z.tdiv (g4 p))=(redP p).z/\Qa Qb (p.d.tdiv (g4 p))=(redP p).d)/\Big (redP p)/\((redP p).x*g4 p=p.x/\(redP p).y*g4 p=p.y/\(redP p).z*g4 p=p.z/\(redP p).d*g4 p=p.d):=by
 obtain ⟨g1,g2⟩:=Yh8 h.wf h.d.1
 obtain ⟨⟨d1,d2⟩,d3,d4⟩:=Yh9 p
 have hg:(0:Int)<g4 p:=by omega
 obtain ⟨x1,x2,x3⟩:=Zb9 hg d1
 obtain ⟨y1,y2,y3⟩:=Zb9 hg d2
 obtain ⟨z1,z2,z3⟩:=Zb9 hg d3
 obtain ⟨e1,e2,e3⟩:=Zb9 hg d4
 obtain ⟨h1,h2,h3,h4⟩:=h
 have x3:=x3 140000000000000 h1
 have y3:=y3 140000000000000 h2
 have z3:=z3 140000000000000 h3
 have e3:=e3 12000000000 (by omega)
 have hd:0<p.d / (g4 p:Int):=by
  rcases Ow 0 (p.d / (g4 p:Int)) with k|k
  ·exact k
  ·have:=Qu (show 0 <= -(p.d / (g4 p:Int)) by omega) (Ro hg)
   rw [Int.neg_mul] at this
   omega
 refine ⟨by omega,⟨?_,?_,?_,?_⟩,⟨x3,y3,z3,hd,e3.2⟩,x2,y2,z2,e2⟩
 ·rw [x1]; exact W_eq (by omega) (by omega)
 ·rw [y1]; exact W_eq (by omega) (by omega)
 ·rw [z1]; exact W_eq (by omega) (by omega)
 ·rw [e1]; exact W_eq (by omega) (by omega)
theorem Big.ok {p:Pt} (h:Big p):PtOk p.x p.y p.d:=by
 obtain ⟨h1,h2,h3,h4⟩:=h
 exact ⟨h4.1,by omega,by omega,by omega⟩
theorem Zuw {pl:Int × Int} {c:Crs} (h:CrOk pl c) (hs:¬ 0<=sgn (crF pl c)*sgn (crG pl c)):(0<iabs (crG pl c)/\iabs (crG pl c)<=2000000000)/\(0<iabs (crF pl c)/\iabs (crF pl c)<=100000):=by
 have h1:=(Ydf h).2.2
 have h2:=(Yde h).2
 have h3:=sgn_mul_neg.1 (show sgn (crF pl c)*sgn (crG pl c)<0 by omega)
 unfold iabs
 refine ⟨?_,?_⟩<;>split<;>omega
theorem Zd3 {pl:Int × Int} {c:Crs} (h:CrOk pl c) (hs:¬ 0<=sgn (crF pl c)*sgn (crG pl c)):Big (crPt c (iabs (crG pl c)) (iabs (crF pl c))):=by
 obtain ⟨a,b⟩:=Zuw h hs
 exact Ybp h a b
theorem Zzr (k a b c a' b' c' u v:Int):valN k (a*u+a'*v) (b*u+b'*v) (c*u+c'*v)=valN k a b c*u+valN k a' b' c'*v:=by
 unfold valN
 repeat' split
 all_goals grind
theorem Zzq (k a b c g:Int):valN k (a*g) (b*g) (c*g)=valN k a b c*g:=by
 unfold valN
 repeat' split
 all_goals grind
theorem Zfs {pl:Int × Int} {c:Crs} (h:CrOk pl c) (hs:¬ 0<=sgn (crF pl c)*sgn (crG pl c)):valN pl.1 (Vr pl c).x (Vr pl c).y (Vr pl c).z=pl.2*(Vr pl c).d:=by
 obtain ⟨⟨g1,_⟩,_,_,e1,e2,e3,e4⟩:=Zd9 (Zd3 h hs)
 have h3:=sgn_mul_neg.1 (show sgn (crF pl c)*sgn (crG pl c)<0 by omega)
 have k:valN pl.1 (crPt c (iabs (crG pl c)) (iabs (crF pl c))).x (crPt c (iabs (crG pl c)) (iabs (crF pl c))).y (crPt c (iabs (crG pl c)) (iabs (crF pl c))).z=pl.2*(crPt c (iabs (crG pl c)) (iabs (crF pl c))).d:=by
  unfold crPt
  dsimp only
  rw [Zzr]
  have hF:valN pl.1 c.fx c.fy c.fz=crF pl c+pl.2:=by unfold crF; omega
  have hG:valN pl.1 c.to.x c.to.y c.to.z=crG pl c+pl.2*c.to.d:=by unfold crG; omega
  rw [hF,hG]
  have:crF pl c*iabs (crG pl c)+crG pl c*iabs (crF pl c)=0:=by
   unfold iabs
   rcases h3 with ⟨p1,p2⟩|⟨p1,p2⟩
   ·rw [if_neg (by omega),if_pos p1]; grind
   ·rw [if_pos p2,if_neg (by omega)]; grind
  grind
 unfold Vr
 rw [<-e1,<-e2,<-e3,<-e4,Zzq] at k
 generalize redP (crPt c (iabs (crG pl c)) (iabs (crF pl c)))=q at *
 have k2:(valN pl.1 q.x q.y q.z-pl.2*q.d)*(g4 (crPt c (iabs (crG pl c)) (iabs (crF pl c))):Int)=0:=by
  rw [Lc,k]; grind
 rcases Gi.1 k2 with k3|k3<;>omega
theorem Zj8 {h:Hal} (g:h.fine) {j:Nat} (hj:j<h.ks.length):CanOk h.ks[j]/\Zcn h.ht none h.ks[j].hs=0:=by
 have:=g.can j hj
 unfold Zgv at this
 split at this
 ·split at this
  ·cases this
  ·split at this
   ·cases this
   ·split at this
    ·cases this
    ·split at this
     ·cases this
     ·split at this
      ·split at this
       ·rename_i hz
        split at this
        ·rename_i hp
         split at this
         ·cases this
         ·rename_i hd
          simp only [Qc] at hp
          simp only [Re,decide_eq_true_eq,not_or] at hd
          exact ⟨⟨within_iff.1 hp.1.1.1,within_iff.1 hp.1.1.2,within_iff.1 hp.1.2,within_iff.1 hp.2,hd.1,hd.2⟩,hz⟩
        ·cases this
       ·rename_i hx; exact absurd this hx
      ·cases this
 ·cases this
theorem ite9 {b:Bool} {x:Int} (h:(if b=true then 9 else x)=0):x=0:=by
 cases b
 ·exact h
 ·rw [if_pos rfl] at h; exact absurd h (by decide)
theorem Yh3 {ht:Int} (h0:2<=ht/\ht<=5000):∀ (l:List Int) (p:Option Int),Zcn ht p l=0->∀ n∈l,1<=n/\n<ht
 | [],_,_,n,hn=>by simp at hn
 | m::l,p,h,n,hn=>by
  rw [Zhk] at h
  split at h
  ·rename_i hw
   rw [W_eq (by omega) (by omega),within_iff] at hw
   have h2:=ite9 h
   rcases Rf.1 hn with rfl|hn
   ·omega
   ·exact Yh3 h0 l _ h2 n hn
  ·cases h
theorem Zxj {h:Hal} {s:Stg} (g:Sit h s) {j:Nat} (hj:j<h.ks.length):1<=Zco h s j/\Zco h s j<h.ht:=by
 obtain ⟨n,e1,e2,e3,e4⟩:=Zon g.set hj
 have hm:Zco h s j∈h.ks[j].hs:=by
  have:=List.mem_of_getElem? e4
  simp only [nl,List.mem_map,Qs,Sn,true_and,and_true] at this
  obtain ⟨m,hm,rfl⟩:=this
  exact hm
 exact Yh3 g.fine.ht _ _ (Zj8 g.fine hj).2 _ hm
theorem Zv1 {c:Can} (h:CanOk c):RcOk c.rc:=by
 obtain ⟨h1,h2,h3,h4,h5,h6⟩:=h
 obtain ⟨⟨e1,e2⟩,e3,e4⟩:=Zg8 c
 refine ⟨?_,?_,?_,?_,?_,?_⟩<;>omega
theorem Zmf {h:Hal} {s:Stg} (g:Sit h s) {i:Int} (hi:SK h i):(0<=(Zk h s i).1/\(Zk h s i).1<=4)/\(-10000<=(Zk h s i).2/\(Zk h s i).2<=10000):=by
 have ht:=g.fine.ht
 cases hi with
 | wall k hk =>
  have hk2:k<h.cs.length:=by have:=g.fine.le; omega
  obtain ⟨n,sx,sy,hs⟩:=g.fine.st k hk2
  rw [Zaz hk,Zmg hs]
  have:=hs.b1
  have:=hs.b2
  repeat' split
  all_goals (dsimp only; omega)
 | floor=>rw [Zbg]; dsimp only; omega
 | ceil=>rw [Zcj]; dsimp only; omega
 | can j hj =>
  rw [Zea]
  have:=Zxj g hj
  dsimp only; omega
theorem Ydp {h:Hal} {s:Stg} (g:Sit h s) {i:Int} (hi:SK h i) {p:Pt} (hp:PtOk p.x p.y p.d) (hpl:valN (Zk h s i).1 p.x p.y p.z=(Zk h s i).2*p.d):Za9 h i p=Zip h i p:=by
 cases hi with
 | wall k hk =>
  have hk2:k<h.cs.length:=by have:=g.fine.le; omega
  obtain ⟨n,sx,sy,hs⟩:=g.fine.st k hk2
  rw [Zaz hk] at hpl
  rw [Zg2 hk,Ztg hk,Zfj]
  exact Zu9 hs hp g.fine.ht hpl
 | floor =>
  rw [Zfa,Zp1]
  exact Uv g.fine.st p.z hp
 | ceil =>
  rw [Zg3,Zth]
  exact Uv g.fine.st p.z hp
 | can j hj =>
  rw [Ziq hj,Zu4 hj]
  have hr:=Zv1 (Zj8 g.fine hj).1
  have hd:0<p.d/\p.d<=1000000000000000:=by have:=hp.hd; have:=hp.hD; omega
  have c0:=(Zj8 g.fine hj).1
  generalize h.ks[j]=c at *
  obtain ⟨⟨e1,e2⟩,e3,e4⟩:=Zg8 c
  have c1:=Zj c0.b1 hd.1
  have c2:=Zj c0.b2 hd.1
  have c3:=Zj c0.b3 hd.1
  have c4:=Zj c0.b4 hd.1
  rw [Sj,Zkz hr hd,e1,e2,e3,e4]
  unfold Ydq Zgf
  rw [Zhi,Zhi,Zhj,Zhj,Zdv hd.1,Zdw hd.1,Zdv hd.1,Zdw hd.1]
  rw [W_eq (n:=c.fx*p.d) (by omega) (by omega),W_eq (n:=c.tx*p.d) (by omega) (by omega),W_eq (n:=c.fy*p.d) (by omega) (by omega),W_eq (n:=c.ty*p.d) (by omega) (by omega)]
  rw [W_eq (n:=min (c.fx*p.d) (c.tx*p.d)) (by omega) (by omega),W_eq (n:=max (c.fx*p.d) (c.tx*p.d)) (by omega) (by omega),W_eq (n:=min (c.fy*p.d) (c.ty*p.d)) (by omega) (by omega),W_eq (n:=max (c.fy*p.d) (c.ty*p.d)) (by omega) (by omega)]
  simp only [Qc,Sl,decide_eq_false_iff_not,within_iff]
  omega
theorem Yip {p:Pt} (hb:Big p) {X Y Z D:Int} (hX:X=p.x) (hY:Y=p.y) (hZ:Z=p.z) (hD:D=p.d) :
  gcds [I X,I Y]=some ⟨I (Qa Qb ((Tk p.x.natAbs p.y.natAbs:Nat):Int)),[]⟩/\gcds [I Z,I D]=some ⟨I (Qa Qb ((Tk p.z.natAbs p.d.natAbs:Nat):Int)),[]⟩/\gcds [I (Qa Qb ((Tk p.x.natAbs p.y.natAbs:Nat):Int)),I (Qa Qb ((Tk p.z.natAbs p.d.natAbs:Nat):Int))]=some ⟨I (g4 p:Int),[]⟩ /\
  Qa Qb (X.tdiv (g4 p))=(redP p).x/\Qa Qb (Y.tdiv (g4 p))=(redP p).y/\Qa Qb (Z.tdiv (g4 p))=(redP p).z/\Qa Qb (D.tdiv (g4 p))=(redP p).d/\(0<(g4 p:Int)/\(g4 p:Int)<=12000000000):=by
 subst hX hY hZ hD
 have hw:=hb.wf
 have h3':=Zms (Zuf ((Tk p.x.natAbs p.y.natAbs:Nat):Int)) (Zuf ((Tk p.z.natAbs p.d.natAbs:Nat):Int))
 rw [Zr9 (Yc0 hw.x hw.y),Zr9 (Yc0 hw.z hw.d)] at h3'
 change gcds _=some ⟨I (Qa Qb ((g4 p:Nat):Int)),[]⟩ at h3'
 obtain ⟨g1,⟨r1,r2,r3,r4⟩,_,_⟩:=Zd9 hb
 rw [W_eq (n:=((g4 p:Nat):Int)) (by omega) (by omega)] at h3'
 exact ⟨Zms hw.x hw.y,Zms hw.z hw.d,h3',r1,r2,r3,r4,g1⟩
theorem Yh7 {p:Pt} (h:Big p):g4 (redP p)=1:=by
 obtain ⟨⟨g1,_⟩,_,_,e1,e2,e3,e4⟩:=Zd9 h
 have key:g4 p=g4 (redP p)*g4 p:=by
  have hx:p.x.natAbs=(redP p).x.natAbs*g4 p:=by rw [<-e1,Nc,My]
  have hy:p.y.natAbs=(redP p).y.natAbs*g4 p:=by rw [<-e2,Nc,My]
  have hz:p.z.natAbs=(redP p).z.natAbs*g4 p:=by rw [<-e3,Nc,My]
  have hd:p.d.natAbs=(redP p).d.natAbs*g4 p:=by rw [<-e4,Nc,My]
  have:g4 p=Tk (Tk ((redP p).x.natAbs*g4 p) ((redP p).y.natAbs*g4 p)) (Tk ((redP p).z.natAbs*g4 p) ((redP p).d.natAbs*g4 p)):=by rw [<-hx,<-hy,<-hz,<-hd]; rfl
  rw [Jy,Jy,Jy] at this
  exact this
 have h0:0<g4 p:=by omega
 have:g4 (redP p)*g4 p=1*g4 p:=by omega
 exact Nat.eq_of_mul_eq_mul_right h0 this
def crsE (h:Hal) (s:Stg) (c:Crs):Int:=if surE h s c.su=0 then (if Vy c.fx c.fy c.fz=0 then Xp c.to else Vy c.fx c.fy c.fz) else surE h s c.su
theorem Zyt {h:Hal} {s:Stg} {c:Crs} (hk:h.ok) (hs:s.few) (h0:crsE h s c=0):Sit h s/\SK h c.su/\CrOk (Zk h s c.su) c/\surE h s c.su=0/\Vy c.fx c.fy c.fz=0/\Xp c.to=0:=by
 unfold crsE at h0
 split at h0
 ·rename_i h1
  split at h0
  ·rename_i h2
   have e:=Zfy h1
   have g:=Zdg hk hs e.1
   have hi:=Zi2 e.2.1 e.2.2
   obtain ⟨⟨b1,b2⟩,b3⟩:=Zmf g hi
   obtain ⟨p1,p2,_,p4⟩:=Zha h0
   unfold ptIn at p4
   simp only [Qc,within_iff] at p4
   have h3:=h2
   unfold Vy img at h3
   split at h3
   ·rename_i h4
    simp only [Qc,within_iff] at h4
    exact ⟨g,hi,⟨b1,b2,b3,by omega,by omega,by omega,p1,p2,p4.1.1,p4.1.2,p4.2⟩,h1,h2,h0⟩
   ·cases h3
  ·rename_i h2; exact absurd h0 h2
 ·rename_i h1; exact absurd h0 h1
abbrev crAV (r:Pt × Int):AV:=.tup [r.1.av,I r.2]
theorem Zhn {well:Pt->Bool} {pl:Int × Int} {c:Crs} (hs:0<=sgn (crF pl c)*sgn (crG pl c)):Zba well pl c=(ptZ,12):=by unfold Zba; rw [if_pos hs]
theorem Ybr {well:Pt->Bool} {pl:Int × Int} {c:Crs} (hw:well (Vr pl c)=false):Zba well pl c=(ptZ,12):=by unfold Zba; rw [hw]; split<;>rfl
theorem Zyu {well:Pt->Bool} {pl:Int × Int} {c:Crs} (hs:¬ 0<=sgn (crF pl c)*sgn (crG pl c)) (hw:well (Vr pl c)=true) (hd:100000<(Vr pl c).d):Zba well pl c=(ptZ,8):=by unfold Zba; rw [if_neg hs,hw,if_pos rfl,if_pos hd]
theorem Ybq {well:Pt->Bool} {pl:Int × Int} {c:Crs} (hs:¬ 0<=sgn (crF pl c)*sgn (crG pl c)) (hw:well (Vr pl c)=true) (hd:¬ 100000<(Vr pl c).d):Zba well pl c=(Vr pl c,0):=by unfold Zba; rw [if_neg hs,hw,if_pos rfl,if_neg hd]
abbrev sxC:FuncId->Bool:=fun f=>Qn f 163||Qn f 164||Qn f 167
def r113:List AV->Option PRes
 | [.int .i64 k,.agg [.int .i64 x,.int .i64 y,.int .i64 z,.int .i64 d]]=>some ⟨I (offN k x y z),[]⟩
 | _=>none
def crsA (h:Hal) (s:Stg) (c:Crs):Pt × Int:=if crsE h s c=0 then Zba (Za9 h c.su) (Zk h s c.su) c else (ptZ,crsE h s c)
theorem Ycy (x y z:Int):Vy x y z=if Xt x y z then 0 else 2:=by rw [Zhh]; rfl
theorem c40e {h:Hal} (hk:h.ok) {s:Stg} (hs:s.few) {c:Crs} (hw:c.to.wf) (he:crsE h s c≠0):PCall Tryz.prog 112 [h.av,s.av,c.av] ⟨crAV (ptZ,crsE h s c),[]⟩:=by
 have hk0:=Ze (c109 hk hs c.su) (Ze (c99 hw) Uu)
 by_cases h1:surE h s c.su=0
 ·have e1:crsE h s c=if Xt c.fx c.fy c.fz then Xp c.to else 2:=by
   unfold crsE; rw [if_pos h1,Ycy]
   split
   ·rw [if_pos rfl]
   ·rw [if_neg (by decide)]
  rw [e1] at he ⊢
  rw [h1] at hk0
  cases h2:Xt c.fx c.fy c.fz with
  | false =>
   have hu:unl (Xt c.fx c.fy c.fz) 2=2:=by rw [h2]; rfl
   rw [if_neg (by decide)]
   refine bs.pv (sx:=sxC) hk0 Tryz.func112 (by kernel_rfl) (by kernel_rfl) rfl ?_
   repeat'(first|refine wk1 ?_|(refine wk2 ?_ ?_<;>intro _)|refine wk4 ?_|fail);all_goals(conv=>whnf)
   refine bs.sv (sx:=sxC) hk0 Tryz.func163 (by kernel_rfl) (by kernel_rfl) ?_
   refine Tf 3 ?_
   refine Ra (bs.av (sx:=sxC) hk0 ?_)
   repeat'(first|refine wk1 ?_|(refine wk2 ?_ ?_<;>intro _)|refine wk4 ?_|fail);all_goals(conv=>whnf)
   refine bs.sv (sx:=sxC) hk0 Tryz.func164 (by kernel_rfl) (by kernel_rfl) ?_
   repeat'(first|refine wk1 ?_|(refine wk2 ?_ ?_<;>intro _)|refine wk4 ?_|fail);all_goals(conv=>whnf)
   exact Zf (by rw [hu]; rfl) rfl
  | true =>
   have hu:unl (Xt c.fx c.fy c.fz) 2=0:=by rw [h2]; rfl
   rw [h2,if_pos rfl] at he
   rw [if_pos rfl]
   generalize Xp c.to=pe at *
   refine bs.pv (sx:=sxC) hk0 Tryz.func112 (by kernel_rfl) (by kernel_rfl) rfl ?_
   repeat'(first|refine wk1 ?_|(refine wk2 ?_ ?_<;>intro _)|refine wk4 ?_|fail);all_goals(conv=>whnf)
   refine bs.sv (sx:=sxC) hk0 Tryz.func163 (by kernel_rfl) (by kernel_rfl) ?_
   refine Tf 3 ?_
   refine Ra (bs.av (sx:=sxC) hk0 ?_)
   repeat'(first|refine wk1 ?_|(refine wk2 ?_ ?_<;>intro _)|refine wk4 ?_|fail);all_goals(conv=>whnf)
   refine bs.sv (sx:=sxC) hk0 Tryz.func164 (by kernel_rfl) (by kernel_rfl) ?_
   repeat'(first|refine wk1 ?_|(refine wk2 ?_ ?_<;>intro _)|refine wk4 ?_|fail);all_goals(conv=>whnf)
   refine Ra (bs.av (sx:=sxC) hk0 ?_)
   repeat'(first|refine wk1 ?_|(refine wk2 ?_ ?_<;>intro _)|refine wk4 ?_|fail);all_goals(conv=>whnf)
   refine bs.sv (sx:=sxC) hk0 Tryz.func167 (by kernel_rfl) (by kernel_rfl) ?_
   repeat'(first|refine wk1 ?_|(refine wk2 ?_ ?_<;>intro _)|refine wk4 ?_|fail);all_goals(conv=>whnf)
   exact Zf rfl rfl
 ·have e1:crsE h s c=surE h s c.su:=by unfold crsE; rw [if_neg h1]
  rw [e1]
  refine bs.pv (sx:=sxC) hk0 Tryz.func112 (by kernel_rfl) (by kernel_rfl) rfl ?_
  repeat'(first|refine wk1 ?_|(refine wk2 ?_ ?_<;>intro _)|refine wk4 ?_|fail);all_goals(conv=>whnf)
  exact Zf rfl rfl
theorem Zry {n:Int} (h : -9000000000000000000<=n/\n<=9000000000000000000):size n=iabs n:=by rw [Zi3 h]; rfl
theorem c40o {h:Hal} (hk:h.ok) {s:Stg} (hs:s.few) {c:Crs} (hw:c.to.wf) (he:crsE h s c=0):PCall Tryz.prog 112 [h.av,s.av,c.av] ⟨crAV (Zba (Za9 h c.su) (Zk h s c.su) c),[]⟩:=by
 obtain ⟨g,hi,ho,h1,h2,h3⟩:=Zyt hk hs he
 have h2' : Xt c.fx c.fy c.fz=true:=by
  rw [Ycy] at h2
  cases hx:Xt c.fx c.fy c.fz
  ·rw [hx] at h2; exact absurd h2 (by decide)
  ·rfl
 have hu:unl (Xt c.fx c.fy c.fz) 2=0:=by rw [h2']; rfl
 obtain ⟨f1,f2,f3⟩:=Ydf ho
 obtain ⟨g1,g2⟩:=Yde ho
 have hk0:=Ze (c109 hk hs c.su) (Ze (c99 hw) Uu)
 rw [h1,h3] at hk0
 have hk0:=Ze (c112 g hi) (Zh (f0:=169) (r:=r113) (fun a res h=>by unfold r113 at h; split at h<;>cases h; exact c113 _ ⟨_,_,_,_⟩) hk0)
 generalize hpl:Zk h s c.su=pl at *
 by_cases hsg:0<=sgn (crF pl c)*sgn (crG pl c)
 ·rw [Zhn hsg]
  have hs2:0<=Qa Qb (sgn (Qa Qb (offN pl.1 c.fx c.fy c.fz-pl.2))*sgn (Qa Qb (offN pl.1 c.to.x c.to.y c.to.z-Qa Qb (pl.2*c.to.d)))):=by rw [f1,g1,Zm1]; exact hsg
  refine bs.pv (sx:=sxC) hk0 Tryz.func112 (by kernel_rfl) (by kernel_rfl) rfl ?_
  repeat'(first|refine wk1 ?_|(refine wk2 ?_ ?_<;>intro _)|refine wk4 ?_|fail);all_goals(conv=>whnf)
  refine bs.sv (sx:=sxC) hk0 Tryz.func163 (by kernel_rfl) (by kernel_rfl) ?_
  refine Tf 3 ?_
  refine Ra (bs.av (sx:=sxC) hk0 ?_)
  repeat'(first|refine wk1 ?_|(refine wk2 ?_ ?_<;>intro _)|refine wk4 ?_|fail);all_goals(conv=>whnf)
  refine bs.sv (sx:=sxC) hk0 Tryz.func164 (by kernel_rfl) (by kernel_rfl) ?_
  repeat'(first|refine wk1 ?_|(refine wk2 ?_ ?_<;>intro _)|refine wk4 ?_|fail);all_goals(conv=>whnf)
  refine Ra (bs.av (sx:=sxC) hk0 ?_)
  repeat'(first|refine wk1 ?_|(refine wk2 ?_ ?_<;>intro _)|refine wk4 ?_|fail);all_goals(conv=>whnf)
  refine bs.sv (sx:=sxC) hk0 Tryz.func167 (by kernel_rfl) (by kernel_rfl) ?_
  repeat'(first|refine wk1 ?_|(refine wk2 ?_ ?_<;>intro _)|refine wk4 ?_|fail);all_goals(conv=>whnf)
  refine Ra (bs.av (sx:=sxC) hk0 ?_)
  repeat'(first|refine wk1 ?_|(refine wk2 ?_ ?_<;>intro _)|refine wk4 ?_|fail);all_goals(conv=>whnf)
  exact Zf rfl rfl
 ·have hs2:¬ 0<=Qa Qb (sgn (Qa Qb (offN pl.1 c.fx c.fy c.fz-pl.2))*sgn (Qa Qb (offN pl.1 c.to.x c.to.y c.to.z-Qa Qb (pl.2*c.to.d)))):=by rw [f1,g1,Zm1]; exact hsg
  have hB:=Zd3 ho hsg
  have hx:=Zys ho (u:=iabs (crG pl c)) (v:=iabs (crF pl c)) (by have:=Zuw ho hsg; omega) (by have:=Zuw ho hsg; omega)
  have hcr:Vr pl c=redP (crPt c (iabs (crG pl c)) (iabs (crF pl c))):=rfl
  have hwl:=c118 g hi (Vr pl c)
  have A1:=Ybr (well:=Za9 h c.su) (pl:=pl) (c:=c)
  have A2:=Zyu (well:=Za9 h c.su) hsg
  have A3:=Ybq (well:=Za9 h c.su) hsg
  generalize Zba (Za9 h c.su) pl c=ans at *
  generalize Za9 h c.su (Vr pl c)=wl at *
  generalize Vr pl c=Q at *
  have su:size (Qa Qb (offN pl.1 c.to.x c.to.y c.to.z-Qa Qb (pl.2*c.to.d)))=iabs (crG pl c):=by rw [g1]; exact Zry (by omega)
  have sv:size (Qa Qb (offN pl.1 c.fx c.fy c.fz-pl.2))=iabs (crF pl c):=by rw [f1]; exact Zry (by omega)
  generalize hp:crPt c (iabs (crG pl c)) (iabs (crF pl c))=p at *
  generalize iabs (crF pl c)=v at *
  generalize iabs (crG pl c)=u at *
  have px:c.fx*u+c.to.x*v=p.x:=by rw [<-hp]; rfl
  have py:c.fy*u+c.to.y*v=p.y:=by rw [<-hp]; rfl
  have pz:c.fz*u+c.to.z*v=p.z:=by rw [<-hp]; rfl
  have pd:u+c.to.d*v=p.d:=by rw [<-hp]; rfl
  obtain ⟨x1,x2,x3,x4,x5,x6,x7⟩:=hx
  have hDd:=hB.d
  generalize hA:Qa Qb (offN pl.1 c.fx c.fy c.fz-pl.2)=A at *
  generalize hBb:Qa Qb (offN pl.1 c.to.x c.to.y c.to.z-Qa Qb (pl.2*c.to.d))=B at *
  have q:∀ a b:Int,(-90000000000000<=a*u/\a*u<=90000000000000)->(-50000000000000<=b*v/\b*v<=50000000000000)->Qa Qb (Qa Qb (a*size B)+Qa Qb (b*size A))=a*u+b*v:=by
   intro a b k1 k2
   rw [su,sv]
   rw [W_eq (n:=a*u) (by omega) (by omega),W_eq (n:=b*v) (by omega) (by omega),W_eq (by omega) (by omega)]
  have qd:Qa Qb (size B+Qa Qb (c.to.d*size A))=p.d:=by
   rw [su,sv]
   rw [W_eq (n:=c.to.d*v) (by omega) (by omega),W_eq (by omega) (by omega)]; omega
  obtain ⟨k1,k2,k3,k4,k5,k6,k7,k8⟩:=Yip hB (X:=Qa Qb (Qa Qb (c.fx*size B)+Qa Qb (c.to.x*size A))) (Y:=Qa Qb (Qa Qb (c.fy*size B)+Qa Qb (c.to.y*size A))) (Z:=Qa Qb (Qa Qb (c.fz*size B)+Qa Qb (c.to.z*size A))) (D:=Qa Qb (size B+Qa Qb (c.to.d*size A))) (by rw [q _ _ x1 x4,px]) (by rw [q _ _ x2 x5,py]) (by rw [q _ _ x3 x6,pz]) qd
  rw [<-hcr] at k4 k5 k6 k7
  have hdv:PCall Tryz.prog 173 [.isl 1 (nl [Qa Qb (Qa Qb (c.fx*size B)+Qa Qb (c.to.x*size A)),Qa Qb (Qa Qb (c.fy*size B)+Qa Qb (c.to.y*size A)),Qa Qb (Qa Qb (c.fz*size B)+Qa Qb (c.to.z*size A)),Qa Qb (size B+Qa Qb (c.to.d*size A))])] ⟨I (g4 p:Int),[]⟩:=by
   rw [q _ _ x1 x4,q _ _ x2 x5,q _ _ x3 x6,qd,px,py,pz]
   have hwf:=hB.wf
   have hc:=c117 (ns:=[p.x,p.y,p.z,p.d]) (by simp) (by
    intro n hn
    simp only [Rf,List.not_mem_nil,or_false] at hn
    rcases hn with rfl|rfl|rfl|rfl
    ·exact hwf.x
    ·exact hwf.y
    ·exact hwf.z
    ·exact hwf.d)
   have hg:gl 0 [p.x,p.y,p.z,p.d]=g4 p:=by
    simp only [gl,Nat.gcd_zero_left]
    exact Zli _ _ _ _
   rw [hg,W_eq (n:=((g4 p:Nat):Int)) (by omega) (by omega)] at hc
   exact hc
  have hw2:PCall Tryz.prog 174 [.agg (stgL h s),I c.su,P4 (Qa Qb ((Qa Qb (Qa Qb (c.fx*size B)+Qa Qb (c.to.x*size A))).tdiv (g4 p))) (Qa Qb ((Qa Qb (Qa Qb (c.fy*size B)+Qa Qb (c.to.y*size A))).tdiv (g4 p))) (Qa Qb ((Qa Qb (Qa Qb (c.fz*size B)+Qa Qb (c.to.z*size A))).tdiv (g4 p))) (Qa Qb ((Qa Qb (size B+Qa Qb (c.to.d*size A))).tdiv (g4 p)))] ⟨Bo wl,[]⟩:=by
   rw [k4,k5,k6,k7]; exact hwl
  rw [<-hA,<-hBb] at hw2 hdv
  have hk2:=Ze hw2 (Ze hdv hk0)
  clear hw2 hwl hk0 hdv q
  rw [<-hA,<-hBb] at k4 k5 k6 k7 hs2
  clear k1 k2 k3
  refine bs.pv (sx:=sxC) hk2 Tryz.func112 (by kernel_rfl) (by kernel_rfl) rfl ?_
  cases wl with
  | false =>
   rw [A1 rfl]
   repeat'(first|refine wk1 ?_|(refine wk2 ?_ ?_<;>intro _)|refine wk4 ?_|fail);all_goals(conv=>whnf)
   refine bs.sv (sx:=sxC) hk2 Tryz.func163 (by kernel_rfl) (by kernel_rfl) ?_
   refine Tf 3 ?_
   refine Ra (bs.av (sx:=sxC) hk2 ?_)
   repeat'(first|refine wk1 ?_|(refine wk2 ?_ ?_<;>intro _)|refine wk4 ?_|fail);all_goals(conv=>whnf)
   refine bs.sv (sx:=sxC) hk2 Tryz.func164 (by kernel_rfl) (by kernel_rfl) ?_
   repeat'(first|refine wk1 ?_|(refine wk2 ?_ ?_<;>intro _)|refine wk4 ?_|fail);all_goals(conv=>whnf)
   refine Ra (bs.av (sx:=sxC) hk2 ?_)
   repeat'(first|refine wk1 ?_|(refine wk2 ?_ ?_<;>intro _)|refine wk4 ?_|fail);all_goals(conv=>whnf)
   refine bs.sv (sx:=sxC) hk2 Tryz.func167 (by kernel_rfl) (by kernel_rfl) ?_
   repeat'(first|refine wk1 ?_|(refine wk2 ?_ ?_<;>intro _)|refine wk4 ?_|fail);all_goals(conv=>whnf)
   refine Ra (bs.av (sx:=sxC) hk2 ?_)
   repeat'(first|refine wk1 ?_|(refine wk2 ?_ ?_<;>intro _)|refine wk4 ?_|fail);all_goals(conv=>whnf)
   exact Zf rfl rfl
  | true =>
   by_cases hd:100000<Q.d
   ·rw [A2 rfl hd]
    repeat'(first|refine wk1 ?_|(refine wk2 ?_ ?_<;>intro _)|refine wk4 ?_|fail);all_goals(conv=>whnf)
    refine bs.sv (sx:=sxC) hk2 Tryz.func163 (by kernel_rfl) (by kernel_rfl) ?_
    refine Tf 3 ?_
    refine Ra (bs.av (sx:=sxC) hk2 ?_)
    repeat'(first|refine wk1 ?_|(refine wk2 ?_ ?_<;>intro _)|refine wk4 ?_|fail);all_goals(conv=>whnf)
    refine bs.sv (sx:=sxC) hk2 Tryz.func164 (by kernel_rfl) (by kernel_rfl) ?_
    repeat'(first|refine wk1 ?_|(refine wk2 ?_ ?_<;>intro _)|refine wk4 ?_|fail);all_goals(conv=>whnf)
    refine Ra (bs.av (sx:=sxC) hk2 ?_)
    repeat'(first|refine wk1 ?_|(refine wk2 ?_ ?_<;>intro _)|refine wk4 ?_|fail);all_goals(conv=>whnf)
    refine bs.sv (sx:=sxC) hk2 Tryz.func167 (by kernel_rfl) (by kernel_rfl) ?_
    repeat'(first|refine wk1 ?_|(refine wk2 ?_ ?_<;>intro _)|refine wk4 ?_|fail);all_goals(conv=>whnf)
    refine Ra (bs.av (sx:=sxC) hk2 ?_)
    repeat'(first|refine wk1 ?_|(refine wk2 ?_ ?_<;>intro _)|refine wk4 ?_|fail);all_goals(conv=>whnf)
    exact Zf rfl rfl
   ·rw [A3 rfl hd]
    repeat'(first|refine wk1 ?_|(refine wk2 ?_ ?_<;>intro _)|refine wk4 ?_|fail);all_goals(conv=>whnf)
    refine bs.sv (sx:=sxC) hk2 Tryz.func163 (by kernel_rfl) (by kernel_rfl) ?_
    refine Tf 3 ?_
    refine Ra (bs.av (sx:=sxC) hk2 ?_)
    repeat'(first|refine wk1 ?_|(refine wk2 ?_ ?_<;>intro _)|refine wk4 ?_|fail);all_goals(conv=>whnf)
    refine bs.sv (sx:=sxC) hk2 Tryz.func164 (by kernel_rfl) (by kernel_rfl) ?_
    repeat'(first|refine wk1 ?_|(refine wk2 ?_ ?_<;>intro _)|refine wk4 ?_|fail);all_goals(conv=>whnf)
    refine Ra (bs.av (sx:=sxC) hk2 ?_)
    repeat'(first|refine wk1 ?_|(refine wk2 ?_ ?_<;>intro _)|refine wk4 ?_|fail);all_goals(conv=>whnf)
    refine bs.sv (sx:=sxC) hk2 Tryz.func167 (by kernel_rfl) (by kernel_rfl) ?_
    repeat'(first|refine wk1 ?_|(refine wk2 ?_ ?_<;>intro _)|refine wk4 ?_|fail);all_goals(conv=>whnf)
    refine Ra (bs.av (sx:=sxC) hk2 ?_)
    repeat'(first|refine wk1 ?_|(refine wk2 ?_ ?_<;>intro _)|refine wk4 ?_|fail);all_goals(conv=>whnf)
    exact Zf (by rw [k4,k5,k6,k7]) rfl
theorem c40 {h:Hal} (hk:h.ok) {s:Stg} (hs:s.few) {c:Crs} (hw:c.to.wf):PCall Tryz.prog 112 [h.av,s.av,c.av] ⟨crAV (crsA h s c),[]⟩:=by
 unfold crsA
 by_cases he:crsE h s c=0
 ·rw [if_pos he]; exact c40o hk hs hw he
 ·rw [if_neg he]; exact c40e hk hs hw he
theorem Ybs {h:Hal} {s:Stg} {c:Crs} (g:Sit h s) (hi:SK h c.su) (ho:CrOk (Zk h s c.su) c):Zba (Za9 h c.su) (Zk h s c.su) c=Zba (Zip h c.su) (Zk h s c.su) c:=by
 by_cases hs:0<=sgn (crF (Zk h s c.su) c)*sgn (crG (Zk h s c.su) c)
 ·rw [Zhn hs,Zhn hs]
 ·have hb:=(Zd9 (Zd3 ho hs)).2.2.1
  have e:=Ydp g hi (p:=Vr (Zk h s c.su) c) hb.ok (Zfs ho hs)
  unfold Zba
  rw [e]
def Yga (p:Pt):Prop:=(-(5000*p.d)<=p.x/\p.x<=5000*p.d)/\(-(5000*p.d)<=p.y/\p.y<=5000*p.d)/\(-(5000*p.d)<=p.z/\p.z<=5000*p.d)
theorem Zva {h:Hal} {w:Wl} {n sx sy:Int} (hs:Str w n sx sy) {p:Pt} (hp:PtOk p.x p.y p.d) (ht:2<=h.ht/\h.ht<=5000) (hpl:valN (plW w).1 p.x p.y p.z=(plW w).2*p.d) (hw:Zm5 h w p=true):Yga p:=by
 obtain ⟨x,y,z,d⟩:=p
 dsimp only at hp hpl
 have hd:=hp.hd
 have hD:=hp.hD
 have a1:=Zj hs.b1 hd
 have a2:=Zj hs.b2 hd
 have a3:=Zj hs.b3 hd
 have a4:=Zj hs.b4 hd
 have hz0:=Zj (f:=h.ht) (d:=d) (by omega) hd
 have hz:Qa Qb (h.ht*d)=h.ht*d:=W_eq (by omega) (by omega)
 unfold Zm5 at hw
 rw [Zmg hs] at hpl
 unfold valN at hpl
 rw [Zhi,Zhi,Zhj,Zhj] at hw
 dsimp only at hw
 rw [hz,Zdv hd,Zdv hd,Zdw hd,Zdw hd] at hw
 rw [W_eq (n:=min (w.fx*d) (w.tx*d)) (by omega) (by omega),W_eq (n:=max (w.fx*d) (w.tx*d)) (by omega) (by omega),W_eq (n:=min (w.fy*d) (w.ty*d)) (by omega) (by omega),W_eq (n:=max (w.fy*d) (w.ty*d)) (by omega) (by omega)] at hw
 have ex:w.tx*d=w.fx*d+sx*(n*d):=by rw [hs.tx]; grind
 have ey:w.ty*d=w.fy*d+sy*(n*d):=by rw [hs.ty]; grind
 have d3:(w.fx+w.fy)*d=w.fx*d+w.fy*d:=by grind
 have d4:(w.fx-w.fy)*d=w.fx*d-w.fy*d:=by grind
 have cnd:(w.fx=w.tx)->sx=0:=by
  intro e
  have:=hs.tx
  have hn:=hs.hn
  have:n*sx=0:=by omega
  rcases Gi.1 this with h|h
  ·omega
  ·exact h
 have nd:0<n*d:=Pi hs.hn hd
 unfold Yga
 dsimp only
 simp only [Qc,Sl,Bool.or_eq_false_iff,decide_eq_false_iff_not] at hw
 obtain ⟨⟨z1,z2⟩,hw⟩:=hw
 have hxy:=hs.hxy
 split at hw
 ·rename_i c
  have c0:=cnd c
  subst c0
  simp only [Qc,decide_eq_true_eq] at hw
  simp at hpl
  omega
 ·rename_i c
  simp only [Qc,decide_eq_true_eq] at hw
  have hx0:sx≠0:=fun e=>c (by rw [hs.tx,e]; omega)
  rw [if_neg hx0] at hpl
  rcases hs.hy with rfl|rfl|rfl<;>rcases hs.hx with rfl|rfl|rfl
  all_goals simp at hpl hx0
  all_goals omega
theorem Zqq {h:Hal} {d z n:Int} (hd:0<d) (hn:0<=n/\n<=5000) (e:z=n*d) : -(5000*d)<=z/\z<=5000*d:=by
 have:=Zj (f:=n) (d:=d) (by omega) hd
 omega
theorem Zu3 {h:Hal} {s:Stg} (g:Sit h s) {i:Int} (hi:SK h i) {p:Pt} (hp:PtOk p.x p.y p.d) (hpl:valN (Zk h s i).1 p.x p.y p.z=(Zk h s i).2*p.d) (hw:Za9 h i p=true):Yga p:=by
 have ht:=g.fine.ht
 cases hi with
 | wall k hk =>
  have hk2:k<h.cs.length:=by have:=g.fine.le; omega
  obtain ⟨n,sx,sy,hs⟩:=g.fine.st k hk2
  rw [Zaz hk] at hpl
  rw [Zg2 hk] at hw
  exact Zva hs hp ht hpl hw
 | floor =>
  rw [Zfa] at hw
  rw [Zbg] at hpl
  have hb:=Zle g.fine.st hp hw
  have hpl:p.z=0*p.d:=hpl
  exact ⟨hb.1,hb.2,Zqq (h:=h) hp.hd (by omega) hpl⟩
 | ceil =>
  rw [Zg3] at hw
  rw [Zcj] at hpl
  have hb:=Zle g.fine.st hp hw
  have hpl:p.z=h.ht*p.d:=hpl
  exact ⟨hb.1,hb.2,Zqq (h:=h) hp.hd (by omega) hpl⟩
 | can j hj =>
  rw [Ziq hj] at hw
  rw [Zea] at hpl
  have hpl:p.z=Zco h s j*p.d:=hpl
  have hg:=Zxj g hj
  have hr:=Zv1 (Zj8 g.fine hj).1
  have hd:0<p.d/\p.d<=1000000000000000:=by have:=hp.hd; have:=hp.hD; omega
  have c0:=(Zj8 g.fine hj).1
  generalize h.ks[j]=c at *
  obtain ⟨⟨e1,e2⟩,e3,e4⟩:=Zg8 c
  have c1:=Zj c0.b1 hd.1
  have c2:=Zj c0.b2 hd.1
  have c3:=Zj c0.b3 hd.1
  have c4:=Zj c0.b4 hd.1
  rw [Zkz hr hd,e1,e2,e3,e4,Zdv hd.1,Zdw hd.1,Zdv hd.1,Zdw hd.1] at hw
  exact ⟨by omega,by omega,Zqq (h:=h) hp.hd (by omega) hpl⟩
theorem Zra {h:Hal} {s:Stg} (g:Sit h s) {c:Crs} (hi:SK h c.su) (ho:CrOk (Zk h s c.su) c) (e:(Zba (Za9 h c.su) (Zk h s c.su) c).2=0) :
  Xp (Zba (Za9 h c.su) (Zk h s c.su) c).1=0:=by
 unfold Zba at e ⊢
 split at e
 ·cases e
 ·rename_i hs
  split at e
  ·rename_i hw
   split at e
   ·cases e
   ·rename_i hd
    rw [if_neg hs,if_pos hw,if_neg hd]
    have hbig:=Zd3 ho hs
    have hb:=(Zd9 hbig).2.2.1
    have hn:=Zu3 g hi (p:=Vr (Zk h s c.su) c) hb.ok (Zfs ho hs) hw
    have hg:=Yh7 hbig
    unfold Xp
    have hd0:=hb.d.1
    rw [if_neg (by
     intro q
     rcases q with q|q
     ·exact absurd hd0 (Int.not_lt.2 q)
     ·exact q hg),if_neg hd,if_pos]
    unfold ptIn
    obtain ⟨n1,n2,n3⟩:=hn
    simp only [Qc,within_iff]
    exact ⟨⟨n1,n2⟩,n3⟩
  ·cases e
abbrev pl3 (p:Pl3):List AV:=[I p.1,I p.2.1,I p.2.2]
def im1 (h:Hal) (s:Stg) (n:Int) (p:Pl3):Pl3:=rmir (Zk h s n).1 (Zk h s n).2 p.1 p.2.1 p.2.2
def imA (f:Int->Pl3->Pl3) (p:Pl3) (l:List Int) (k:Nat):Pl3:=(l.take k).foldl (fun q n=>f n q) p
theorem Zsm (f:Int->Pl3->Pl3) (p:Pl3) {l:List Int} {k:Nat} (hk:k<l.length):imA f p l (k+1)=f l[k] (imA f p l k):=by
 unfold imA
 rw [List.take_succ_eq_append_getElem hk,List.foldl_append]
 rfl
def imC (f:Int->Pl3->Pl3) (p:Pl3) (l:List Int) (k:Nat):List (List AV):=(List.range (k+1)).map fun j=>pl3 (imA f p l j)
theorem Zjs (f:Int->Pl3->Pl3) (p:Pl3) (l:List Int) (k:Nat):(imC f p l k).length=k+1:=by simp [imC]
theorem Zmn (f:Int->Pl3->Pl3) (p:Pl3) (l:List Int) (k:Nat):(imC f p l k)[k]?=some (pl3 (imA f p l k)):=by simp [imC]
theorem Ya5 (f:Int->Pl3->Pl3) (p:Pl3) (l:List Int) (k:Nat):imC f p l (k+1)=imC f p l k++[pl3 (imA f p l (k+1))]:=by
 unfold imC
 rw [List.range_succ,List.map_append]
 rfl
theorem Yam {h:Hal} {s:Stg} (g:Sit h s) {i:Int} (hi:SK h i):(Zk h s i).1<=2->(-5000<=(Zk h s i).2/\(Zk h s i).2<=5000):=by
 have ht:=g.fine.ht
 cases hi with
 | wall k hk =>
  have hk2:k<h.cs.length:=by have:=g.fine.le; omega
  obtain ⟨n,sx,sy,hs⟩:=g.fine.st k hk2
  rw [Zaz hk,Zmg hs]
  have:=hs.b1
  have:=hs.b2
  repeat' split
  all_goals (dsimp only; omega)
 | floor=>rw [Zbg]; dsimp only; omega
 | ceil=>rw [Zcj]; dsimp only; omega
 | can j hj =>
  rw [Zea]
  have:=Zxj g hj
  dsimp only; omega
def Near (m:Int) (p:Pl3):Prop:=(-m<=p.1/\p.1<=m)/\(-m<=p.2.1/\p.2.1<=m)/\(-m<=p.2.2/\p.2.2<=m)
theorem Zsn {h:Hal} {s:Stg} (g:Sit h s) {i:Int} (hi:SK h i) {m:Int} (hm:m<=35000) {p:Pl3} (hp:Near m p):Near (m+10000) (im1 h s i p)/\Vp (Zk h s i).1 (Zk h s i).2 p.1 p.2.1 p.2.2=0/\mirP (Zk h s i).1 (Zk h s i).2 p.1 p.2.1 p.2.2=im1 h s i p:=by
 have b:=Zmf g hi
 have b2:=Yam g hi
 obtain ⟨x,y,z⟩:=p
 obtain ⟨hx,hy,hz⟩:=hp
 dsimp only at hx hy hz
 unfold im1
 generalize (Zk h s i).1=k at *
 generalize (Zk h s i).2=a at *
 have key:Near (m+10000) (rmir k a x y z):=by
  unfold rmir Near
  have w2:Qa Qb (2*a)=2*a:=W_eq (by omega) (by omega)
  by_cases k0:k=0
  ·subst k0; have:=b2 (by omega); simp only [if_pos]; rw [w2,W_eq (by omega) (by omega)]; omega
  by_cases k1:k=1
  ·subst k1; have:=b2 (by omega); simp; rw [w2,W_eq (by omega) (by omega)]; omega
  by_cases k2:k=2
  ·subst k2; have:=b2 (by omega); simp; rw [w2,W_eq (by omega) (by omega)]; omega
  by_cases k3:k=3
  ·subst k3; simp; rw [W_eq (by omega) (by omega),W_eq (by omega) (by omega)]; omega
  have k4:k=4:=by omega
  subst k4; simp; rw [W_eq (by omega) (by omega),W_eq (by omega) (by omega)]; omega
 have e:=Ztu b.1 b.2 (x:=x) (y:=y) (z:=z) (by omega) (by omega) (by omega) (u:=(rmir k a x y z).1) (v:=(rmir k a x y z).2.1) (w:=(rmir k a x y z).2.2) rfl
  (by have:=key.1; omega) (by have:=key.2.1; omega) (by have:=key.2.2; omega)
 refine ⟨key,by rw [Zn6]; exact e,?_⟩
 rw [Yev]
 unfold Yec
 rw [if_pos e]
theorem Zmo {h:Hal} {s:Stg} (g:Sit h s) {p:Pl3} (hp:Near 5000 p) {l:List Int} (hl:l.length<=4) (hi:∀ n∈l,SK h n):∀ k,k<=l.length->Near (5000+10000*k) (imA (im1 h s) p l k)
 | 0,_=>by simpa [imA] using hp
 | k+1,hk=>by
  rw [Zsm _ _ (by omega)]
  have:=(Zsn g (hi l[k] (Qq _)) (m:=5000+10000*k) (by omega) (Zmo g hp hl hi k (by omega))).1
  rw [show (5000:Int)+10000*((k+1:Nat):Int)=5000+10000*k+10000 by omega]
  exact this
theorem Yg6 {pt:PC} (h:PCOK Tryz.prog pt):PCOK Tryz.prog (ins 162 r32 pt):=Zh (fun a res h=>by unfold r32 at h; split at h<;>cases h; exact c32 _ _ _ _ _) h
noncomputable abbrev plT (h:Hal) (s:Stg):List AV->Option PRes:=famA (fun i:Int=>0<=i/\i<nsur h) (fun i=>[h.av,s.av,I i]) (fun i=>⟨.tup [P2 (Zk h s i).1 (Zk h s i).2,I 0],[]⟩)
theorem Yhb {h:Hal} (hk:h.ok) {s:Stg} (hs:s.few) (h0:serr h s=0) {pt:PC} (hp:PCOK Tryz.prog pt):PCOK Tryz.prog (ins 161 (plT h s) pt) :=
 Ya (fun i hi=>by
  have e:surE h s i=0:=by
   unfold surE
   rw [if_pos h0,if_pos (within_iff.2 (by omega))]
  have e2:Zh0 h s i=Zk h s i:=by unfold Zh0; rw [if_pos e]
  have:=c54 hk hs i
  rw [e,e2] at this
  exact this) hp
theorem Yen {h:Hal} {s:Stg} {i:Int} (hi:0<=i/\i<nsur h):plT h s [h.av,s.av,I i]=some ⟨.tup [P2 (Zk h s i).1 (Zk h s i).2,I 0],[]⟩ :=
 Zm (p:=fun i:Int=>0<=i/\i<nsur h) (g:=fun i=>[h.av,s.av,I i]) (r:=fun i=>⟨.tup [P2 (Zk h s i).1 (Zk h s i).2,I 0],[]⟩) (fun j hj=>by
  simp only [Qs,Sn,true_and,and_true] at hj
  rw [hj]) hi
theorem d82 {h:Hal} (hk:h.ok) {s:Stg} (hs:s.few) (h0:serr h s=0) {p:Pl3} (hp:Near 5000 p) {l:List Int} (hl:l.length<=4) (hi:∀ n∈l,0<=n/\n<nsur h) :
  PCall Tryz.prog 111 [.agg (stgL h s),P3 p.1 p.2.1 p.2.2,.isl 1 (nl l)] ⟨.asl 0 0 (l.length+1),[(3,imC (im1 h s) p l l.length)]⟩:=by
 have g:=Zdg hk hs h0
 have hkk:=Yhb hk hs h0 (Yg6 Zb)
 have ll:=Zl l
 refine bs.pv (sx:=nos) hkk Tryz.func111 (by kernel_rfl) (by kernel_rfl) rfl ?_
 refine Zt (S:=Nat × Int × Nat × List (List AV)) (fun t=>l.length-t.1) (fun t=>[(3,.ptr 0 0 0),(7,.asl (nm2 2 3 t.1) 0 t.2.2.1),(16,.isl 1 (nl l)),(17,I (nl l).length),(18,I t.2.1)]) (fun t=>[(nm2 2 3 t.1,.row 3 t.2.2.2 true true),(0,.row 11 [stgL h s] true false)]) 3 4
  (fun t=>t.2.1=t.1/\t.1<=l.length/\t.2.2.1=t.2.2.2.length/\t.2.2.2=imC (im1 h s) p l t.1) (0,0,1,[pl3 p]) ⟨rfl,Nat.zero_le _,rfl,rfl⟩ (Nat.le_refl _) [] rfl (kps) (kps) ?_
 rintro ⟨k,i,len,els⟩ ⟨hi',hk',hlen,hels⟩
 dsimp only at hi' hk' hlen hels ⊢
 subst hi'
 refine bs.av (sx:=nos) hkk ?_
 have e1:els.length=k+1:=by rw [hels,Zjs]
 have e2:els[0+(Qa Qb ((len:Int)-1)).toNat]?=some (pl3 (imA (im1 h s) p l k)):=by
  rw [Ry,hlen,e1,W_eq (by omega) (by omega),show (((k+1:Nat):Int)-1).toNat=k by omega,hels,Zmn]
 have e8:Qa Qb ((len:Int)-1)=k:=by rw [hlen,e1,W_eq (by omega) (by omega)]; omega
 have hnr:=Zmo g hp hl (fun n hn=>Zi2 (hi n hn).1 (hi n hn).2) k hk'
 by_cases hlt:k<l.length
 ·have e3:(nl l)[((k:Nat):Int).toNat]?=some [I l[k]]:=by simp [nl,hlt]
  have hin:=hi l[k] (Qq _)
  have e4:=Yen (s:=s) hin
  have e5:=Zsn g (Zi2 hin.1 hin.2) (by omega) hnr
  have e6:=Zsm (im1 h s) p hlt
  have e7:=Ya5 (im1 h s) p l k
  rw [<-hels,e6] at e7
  rw [<-e5.2.2] at e7
  clear e6 hels
  generalize imA (im1 h s) p l k=q at *
  generalize l[k]=n at *
  cases k with
  | zero =>
   repeat'(first|refine wk3 ?_|(refine wk2 ?_ ?_<;>intro _)|refine wk4 ?_|fail);all_goals(conv=>whnf)
   exact Done.mk ⟨(1,_,_,_),[(3,20)],rfl,kps,kps,⟨Zg (k:=0) (by omega),hlt,by exact List.length_append.symm,e7.symm⟩,by dsimp only; omega⟩
  | succ k =>
   repeat'(first|refine wk3 ?_|(refine wk2 ?_ ?_<;>intro _)|refine wk4 ?_|fail);all_goals(conv=>whnf)
   exact Done.mk ⟨(k+1+1,_,_,_),[(3,20)],rfl,kps,kps,⟨Zg (k:=k+1) (by omega),hlt,by exact List.length_append.symm,e7.symm⟩,by dsimp only; omega⟩
 ·have ek:k=l.length:=by omega
  subst ek
  rw [hels]
  rw [hels,Zjs] at hlen
  subst hlen
  cases l with
  | nil =>
   repeat'(first|refine wk3 ?_|(refine wk2 ?_ ?_<;>intro _)|refine wk4 ?_|fail);all_goals(conv=>whnf)
   exact Xj [2] rfl rfl rfl
  | cons a l =>
   repeat'(first|refine wk3 ?_|(refine wk2 ?_ ?_<;>intro _)|refine wk4 ?_|fail);all_goals(conv=>whnf)
   exact Xj [3] rfl rfl rfl
theorem d82f {h:Hal} (hk:h.ok) {s:Stg} (hs:s.few) (h0:serr h s=0) {p:Pl3} (hp:Near 5000 p) {l:List Int} (hl:l.length<=4) (hi:∀ n∈l,0<=n/\n<nsur h) :
  PCall Tryz.prog 111 [.agg (stgL h s),P3 p.1 p.2.1 p.2.2,.isl 1 (nl l)] ⟨.isl 3 (imC (im1 h s) p l l.length),[]⟩:=by
 have:=d82 hk hs h0 hp hl hi
 rw [show l.length+1=(imC (im1 h s) p l l.length).length by rw [Zjs]] at this
 exact this.freeze ⟨rfl,rfl,rfl⟩
theorem Zl4 {h:Hal} {l:List Int} (e:suE h l=0):l.length<=4/\∀ n∈l,0<=n/\n<nsur h:=by
 unfold suE at e
 split at e
 ·cases e
 ·exact ⟨by omega,fun n hn=>by have:=Zu2 e n hn; omega⟩
theorem Zf7 {h:Hal} {x y z:Int} (e:plaE h x y z=0):Near 5000 (x,y,z)/\Zae h ⟨x,y,z,1⟩=true:=by
 unfold plaE at e
 split at e
 ·rename_i c
  simp only [plcB,Qc,within_iff] at c
  refine ⟨⟨by dsimp only; omega,by dsimp only; omega,by dsimp only; omega⟩,?_⟩
  unfold unl at e
  cases hb:Zae h ⟨x,y,z,1⟩ with
  | true=>rfl
  | false=>rw [hb] at e; cases e
 ·cases e
def edgP (r:Rc):List Wl:=[⟨0,r.xl,r.yl,r.xh,r.yl⟩,⟨0,r.xh,r.yl,r.xh,r.yh⟩,⟨0,r.xh,r.yh,r.xl,r.yh⟩,⟨0,r.xl,r.yh,r.xl,r.yl⟩]
def midX (p q:Pt):Int:=Qa Qb (Qa Qb (p.x*q.d)+Qa Qb (q.x*p.d))
def midY (p q:Pt):Int:=Qa Qb (Qa Qb (p.y*q.d)+Qa Qb (q.y*p.d))
def midD (p q:Pt):Int:=Qa Qb (Qa Qb (2*p.d)*q.d)
def Ybo (r:Rc) (p q:Pt):Bool:=r.has (midX p q) (midY p q) (midD p q)||(edgP r).any (touP p q)||(r.holds p.x p.y p.d||r.holds q.x q.y q.d)
def zOff (ht:Int) (p:Pt):Int:=Qa Qb (p.z-Qa Qb (ht*p.d))
def atX (a b:Int) (u v:Int):Int:=Qa Qb (Qa Qb (a*u)+Qa Qb (b*v))
def blkP (r:Rc) (ht:Int) (p q:Pt):Bool :=
 if p.z=Qa Qb (ht*p.d)/\q.z=Qa Qb (ht*q.d) then Ybo r p q
 else if 0<=Qa Qb (sgn (zOff ht p)*sgn (zOff ht q)) then false
 else r.has (atX p.x q.x (size (zOff ht q)) (size (zOff ht p))) (atX p.y q.y (size (zOff ht q)) (size (zOff ht p))) (atX p.d q.d (size (zOff ht q)) (size (zOff ht p)))
abbrev U (n:Int):AV:=.int .u64 n
abbrev wayA (p q:Pt):AV:=.agg [I p.x,I p.y,I p.z,I p.d,I q.x,I q.y,I q.z,I q.d]
theorem c204 (p q:Pt):PCall Tryz.prog 289 [wayA p q] ⟨.tup [I (Zu7 p q),I (Zu6 p q)],[]⟩:=by
 refine bs.pv (sx:=nos) Zb Tryz.func289 (by kernel_rfl) (by kernel_rfl) rfl ?_
 repeat'(first|refine wk0 ?_|(refine wk2 ?_ ?_<;>intro _)|refine wk4 ?_|fail);all_goals(conv=>whnf)
 exact Zf rfl rfl
theorem c207 (fr den to oth a b:Int):PCall Tryz.prog 290 [I fr,I den,I to,I oth,I a,I b] ⟨Bo (ovl fr den to oth a b),[]⟩:=by
 refine bs.pv (sx:=nos) Zb Tryz.func290 (by kernel_rfl) (by kernel_rfl) rfl ?_
 repeat'(first|refine wk0 ?_|(refine wk2 ?_ ?_<;>intro _)|refine wk4 ?_|fail);all_goals(conv=>whnf)
 all_goals (refine Zd ?_; simp_all [ovl]<;>(intro _; omega))
theorem c182 (p q:Pt):PCall Tryz.prog 261 [wayA p q] ⟨.tup [I (midX p q),I (midY p q),I (midD p q)],[]⟩:=by
 refine bs.pv (sx:=nos) Zb Tryz.func261 (by kernel_rfl) (by kernel_rfl) rfl ?_
 repeat'(first|refine wk0 ?_|(refine wk2 ?_ ?_<;>intro _)|refine wk4 ?_|fail);all_goals(conv=>whnf)
 exact Zf rfl rfl
def u64 (n:Int):Prop:=0<=n/\n<18446744073709551616
theorem mkN (a:Nat) (ha:a<18446744073709551616):Qa Rl (((Sd IntKind.u64.bits (a:Int) &&& Sd IntKind.u64.bits 4294967295).toNat:Nat):Int)=((a%4294967296:Nat):Int):=by
 have h:=bits_and_u64_nat a 4294967295 ha (by omega)
 have e:a &&& 4294967295=a%4294967296:=Nat.and_two_pow_sub_one_eq_mod a 32
 rw [e] at h
 exact h
theorem fdN (a:Nat):(a:Int).fdiv (2 ^ min (Ss 32) IntKind.u64.bits)=((a / 4294967296:Nat):Int):=by
 rw [show (2 ^ min (Ss 32) IntKind.u64.bits:Int)=4294967296 from rfl,Int.fdiv_eq_ediv_of_nonneg _ (by omega)]; omega
theorem mulN (a b:Nat):(a:Int)*(b:Int)=((a*b:Nat):Int):=(Int.natCast_mul a b).symm
theorem addN (a b:Nat):(a:Int)+(b:Int)=((a+b:Nat):Int):=(Int.natCast_add a b).symm
theorem Zm3 (a:Nat) (ha:a<18446744073709551616):Qa Rl (a:Int)=(a:Int):=by rw [Ht]; omega
theorem Yi0 (a:Nat):Qa Rl (a:Int)=((a%18446744073709551616:Nat):Int):=by rw [Ht]; omega
theorem Yas (x y:Nat) (hx:x<18446744073709551616) (hy:y<18446744073709551616):AV.tup [AV.int Rl (Qa Rl (Qa Rl (Qa Rl (((x:Int)).fdiv (2 ^ min (Ss 32) IntKind.u64.bits)*((y:Int)).fdiv (2 ^ min (Ss 32) IntKind.u64.bits))+((Qa Rl (Qa Rl (((x:Int)).fdiv (2 ^ min (Ss 32) IntKind.u64.bits)*Qa Rl ((Sd IntKind.u64.bits ((y:Int)) &&& Sd IntKind.u64.bits 4294967295).toNat:Int))+((Qa Rl ((Qa Rl ((Sd IntKind.u64.bits ((x:Int)) &&& Sd IntKind.u64.bits 4294967295).toNat:Int))*(Qa Rl ((Sd IntKind.u64.bits ((y:Int)) &&& Sd IntKind.u64.bits 4294967295).toNat:Int)))).fdiv (2 ^ min (Ss 32) IntKind.u64.bits)))).fdiv (2 ^ min (Ss 32) IntKind.u64.bits)))+((Qa Rl (Qa Rl ((Sd IntKind.u64.bits (Qa Rl (Qa Rl (((x:Int)).fdiv (2 ^ min (Ss 32) IntKind.u64.bits)*Qa Rl ((Sd IntKind.u64.bits ((y:Int)) &&& Sd IntKind.u64.bits 4294967295).toNat:Int))+((Qa Rl ((Qa Rl ((Sd IntKind.u64.bits ((x:Int)) &&& Sd IntKind.u64.bits 4294967295).toNat:Int))*(Qa Rl ((Sd IntKind.u64.bits ((y:Int)) &&& Sd IntKind.u64.bits 4294967295).toNat:Int)))).fdiv (2 ^ min (Ss 32) IntKind.u64.bits)))) &&& Sd IntKind.u64.bits 4294967295).toNat:Int)+Qa Rl (Qa Rl ((Sd IntKind.u64.bits ((x:Int)) &&& Sd IntKind.u64.bits 4294967295).toNat:Int)*((y:Int)).fdiv (2 ^ min (Ss 32) IntKind.u64.bits)))).fdiv (2 ^ min (Ss 32) IntKind.u64.bits)))),AV.int Rl (Qa Rl ((x:Int)*(y:Int)))]=AV.tup [U ((x:Int)*(y:Int) / 18446744073709551616),U ((x:Int)*(y:Int)%18446744073709551616)]:=by
 obtain ⟨bd,bt,bw,hhi⟩:=Go.Lib.mul64_hi x y hx hy
 have ba:=Jo (a:=x / 4294967296) (b:=y / 4294967296) (by omega) (by omega)
 have bb:=Jo (a:=x / 4294967296) (b:=y%4294967296) (by omega) (by omega)
 have bc:=Jo (a:=x%4294967296) (b:=y / 4294967296) (by omega) (by omega)
 have ba' : x / 4294967296*(y / 4294967296)<18446744073709551616:=by omega
 have bb' : x / 4294967296*(y%4294967296)<18446744073709551616:=by omega
 have bc' : x%4294967296*(y / 4294967296)<18446744073709551616:=by omega
 have bh1:x / 4294967296*(y / 4294967296)+(x / 4294967296*(y%4294967296)+x%4294967296*(y%4294967296) / 4294967296) / 4294967296<18446744073709551616:=by omega
 have bh:x / 4294967296*(y / 4294967296)+(x / 4294967296*(y%4294967296)+x%4294967296*(y%4294967296) / 4294967296) / 4294967296+((x / 4294967296*(y%4294967296)+x%4294967296*(y%4294967296) / 4294967296)%4294967296+x%4294967296*(y / 4294967296)) / 4294967296<18446744073709551616:=by omega
 simp only [mkN x hx,mkN y hy,fdN,mulN,addN,Zm3 _ bd,Zm3 _ bb',Zm3 _ bt,mkN _ bt,Zm3 _ bc',Zm3 _ bw,Zm3 _ ba',Zm3 _ bh1,Zm3 _ bh,Yi0 (x*y)]
 rw [hhi]
 rfl
theorem c216 {x y:Int} (hx:u64 x) (hy:u64 y):PCall Tryz.prog 298 [U x,U y] ⟨.tup [U (x*y / 18446744073709551616),U (x*y%18446744073709551616)],[]⟩:=by
 refine bs.pv (sx:=nos) Zb Tryz.func298 (by kernel_rfl) (by kernel_rfl) rfl ?_
 repeat'(first|refine wk1 ?_|(refine wk2 ?_ ?_<;>intro _)|refine wk4 ?_|fail);all_goals(conv=>whnf)
 refine Zf ?_ rfl
 obtain ⟨h0,hx⟩:=hx
 obtain ⟨h1,hy⟩:=hy
 obtain ⟨a,rfl⟩:=Hu h0
 obtain ⟨b,rfl⟩:=Hu h1
 exact Yas a b (by omega) (by omega)
theorem Zmj {a b:Int}:sgn (a*b)=sgn a*sgn b:=by
 unfold sgn
 rcases Pw a 0 with ha|ha|ha<;>rcases Pw b 0 with hb|hb|hb
 ·have:=Int.mul_pos_of_neg_of_neg ha hb
  rw [if_pos this,if_neg (by omega),if_pos ha,if_neg (by omega),if_pos hb]; rfl
 ·subst hb; simp
 ·have:=Int.mul_neg_of_neg_of_pos ha hb
  rw [if_neg (by omega),if_pos this,if_neg (by omega),if_pos ha,if_pos hb]; rfl
 ·subst ha; simp
 ·subst ha; simp
 ·subst ha; simp
 ·have:=Int.mul_neg_of_pos_of_neg ha hb
  rw [if_neg (by omega),if_pos this,if_pos ha,if_neg (by omega),if_pos hb]; rfl
 ·subst hb; simp
 ·have:=Pi ha hb
  rw [if_pos this,if_pos ha,if_pos hb]; rfl
theorem Zig {a:Int} (h:i64 a):Qa Rl (size a)=(a.natAbs:Int)/\u64 (a.natAbs:Int):=by
 have hs:=Ycb h
 obtain ⟨h1,h2⟩:=h
 rw [hs]
 refine ⟨?_,?_⟩
 ·simp only [Te,Ht]; omega
 ·unfold u64; omega
theorem Zzg (a b:Int):((a.natAbs:Int)*(b.natAbs:Int))=(a*b)\/((a.natAbs:Int)*(b.natAbs:Int)) = -(a*b):=by
 have:=Nc a b
 omega
theorem Zyz {a b c d X Y:Int} (hX:(a.natAbs:Int)*(b.natAbs:Int)=X) (hY:(c.natAbs:Int)*(d.natAbs:Int)=Y) (h:sgn a*sgn b=sgn c*sgn d) :
  (X=Y->cmpP a b c d=0)/\(Y<X->cmpP a b c d=sgn a*sgn b)/\(X<Y->cmpP a b c d = -(sgn a*sgn b)):=by
 have h1:=Zzg a b
 have h2:=Zzg c d
 have p1:0<=X:=by rw [<-hX]; exact Qu (by omega) (by omega)
 have p2:0<=Y:=by rw [<-hY]; exact Qu (by omega) (by omega)
 have s1:=Zmj (a:=a) (b:=b)
 have s2:=Zmj (a:=c) (b:=d)
 unfold cmpP
 rw [hX] at h1
 rw [hY] at h2
 rw [<-s1]
 rw [<-s1,<-s2] at h
 clear s1 s2 hX hY
 generalize a*b=u at *
 generalize c*d=v at *
 unfold sgn at *
 refine ⟨fun e=>?_,fun e=>?_,fun e=>?_⟩
 ·repeat' split at h
  all_goals repeat' split
  all_goals omega
 ·repeat' split at h
  all_goals repeat' split
  all_goals omega
 ·repeat' split at h
  all_goals repeat' split
  all_goals omega
theorem Ybu {a b c d:Int} (h:sgn a*sgn b≠sgn c*sgn d):cmpP a b c d=sgn (sgn a*sgn b-sgn c*sgn d):=by
 rw [<-Zmj,<-Zmj] at h ⊢
 unfold cmpP
 generalize a*b=u at *
 generalize c*d=v at *
 unfold sgn at *
 repeat' split at h
 all_goals repeat' split
 all_goals omega
instance (n:Int):Decidable (u64 n):=by unfold u64; exact inferInstance
def r216:List AV->Option PRes
 | [.int .u64 x,.int .u64 y]=>asr (decide (u64 x/\u64 y)) ⟨.tup [U (x*y / 18446744073709551616),U (x*y%18446744073709551616)],[]⟩
 | _=>none
def kF1:PC:=ins 298 r216 (ins 171 r115 (ins 172 r116 pt0))
theorem Ycu:PCOK Tryz.prog kF1:=by
 refine Zh (fun a res h=>?_) (Zh (fun a res h=>?_) (Zh (fun a res h=>?_) Zb))
 ·unfold r216 at h; split at h
  ·obtain ⟨h1,rfl⟩:=Vi h
   have:=of_decide_eq_true h1
   exact c216 this.1 this.2
  ·cases h
 ·unfold r115 at h; split at h<;>cases h; exact c115 _
 ·unfold r116 at h; split at h<;>cases h; exact c116 _
theorem c215 {a b c d:Int} (ha:i64 a) (hb:i64 b) (hc:i64 c) (hd:i64 d):PCall Tryz.prog 297 [I a,I b,I c,I d] ⟨I (cmpP a b c d),[]⟩:=by
 obtain ⟨a1,a2⟩:=Zig ha
 obtain ⟨b1,b2⟩:=Zig hb
 obtain ⟨c1,c2⟩:=Zig hc
 obtain ⟨d1,d2⟩:=Zig hd
 by_cases h:sgn a*sgn b=sgn c*sgn d
 ·have hX:(a.natAbs:Int)*(b.natAbs:Int)=(a.natAbs:Int)*(b.natAbs:Int):=rfl
  have hY:(c.natAbs:Int)*(d.natAbs:Int)=(c.natAbs:Int)*(d.natAbs:Int):=rfl
  obtain ⟨k1,k2,k3⟩:=Zyz hX hY h
  have t1:asr (decide (u64 (Qa Rl (size a))/\u64 (Qa Rl (size b)))) ⟨.tup [U (Qa Rl (size a)*Qa Rl (size b) / 18446744073709551616),U (Qa Rl (size a)*Qa Rl (size b)%18446744073709551616)],[]⟩=some ⟨.tup [U ((a.natAbs:Int)*(b.natAbs:Int) / 18446744073709551616),U ((a.natAbs:Int)*(b.natAbs:Int)%18446744073709551616)],[]⟩:=by
   rw [a1,b1,Zaa ⟨a2,b2⟩]
  have t2:asr (decide (u64 (Qa Rl (size c))/\u64 (Qa Rl (size d)))) ⟨.tup [U (Qa Rl (size c)*Qa Rl (size d) / 18446744073709551616),U (Qa Rl (size c)*Qa Rl (size d)%18446744073709551616)],[]⟩=some ⟨.tup [U ((c.natAbs:Int)*(d.natAbs:Int) / 18446744073709551616),U ((c.natAbs:Int)*(d.natAbs:Int)%18446744073709551616)],[]⟩:=by
   rw [c1,d1,Zaa ⟨c2,d2⟩]
  have w1:Qa Qb (sgn a*sgn b)=Qa Qb (sgn c*sgn d):=by rw [h]
  have w2:=Zm1 a b
  have hr : -1<=sgn a*sgn b/\sgn a*sgn b<=1:=by
   have:=Us (A:=1) (B:=1) (Zhw a) (Zhw b); omega
  have w3:Qa Qb (0-Qa Qb (sgn a*sgn b)) = -(sgn a*sgn b):=by rw [w2,W_eq (by omega) (by omega)]; omega
  generalize (a.natAbs:Int)*(b.natAbs:Int)=X at *
  generalize (c.natAbs:Int)*(d.natAbs:Int)=Y at *
  generalize cmpP a b c d=r at *
  refine bs.pv (sx:=nos) Ycu Tryz.func297 (by kernel_rfl) (by kernel_rfl) rfl ?_
  rcases Pw X Y with hxy|hxy|hxy
  ·rw [k3 hxy,<-w3]
   repeat'(first|refine wk1 ?_|(refine wk2 ?_ ?_<;>intro _)|refine wk4 ?_|fail);all_goals(conv=>whnf)
   all_goals first
    | exact Za rfl
    | (exfalso; simp_all; done)
    | (exfalso; simp_all; omega)
  ·rw [k1 hxy]
   subst hxy
   repeat'(first|refine wk1 ?_|(refine wk2 ?_ ?_<;>intro _)|refine wk4 ?_|fail);all_goals(conv=>whnf)
   all_goals first
    | exact Za rfl
    | (exfalso; simp_all; done)
    | (exfalso; simp_all; omega)
  ·rw [k2 hxy,<-w2]
   repeat'(first|refine wk1 ?_|(refine wk2 ?_ ?_<;>intro _)|refine wk4 ?_|fail);all_goals(conv=>whnf)
   all_goals first
    | exact Za rfl
    | (exfalso; simp_all; done)
    | (exfalso; simp_all; omega)
 ·have hr1:=Us (A:=1) (B:=1) (Zhw a) (Zhw b)
  have hr2:=Us (A:=1) (B:=1) (Zhw c) (Zhw d)
  have w:sgn (Qa Qb (Qa Qb (sgn a*sgn b)-Qa Qb (sgn c*sgn d)))=cmpP a b c d:=by
   rw [Ybu h,Zm1,Zm1,W_eq (by omega) (by omega)]
  have w2:¬ Qa Qb (sgn a*sgn b)=Qa Qb (sgn c*sgn d):=by rw [Zm1,Zm1]; exact h
  refine bs.pv (sx:=nos) Ycu Tryz.func297 (by kernel_rfl) (by kernel_rfl) rfl ?_
  rw [<-w]
  repeat'(first|refine wk1 ?_|(refine wk2 ?_ ?_<;>intro _)|refine wk4 ?_|fail);all_goals(conv=>whnf)
  exact Za rfl
def r204:List AV->Option PRes
 | [.agg [.int .i64 a,.int .i64 b,.int .i64 c,.int .i64 d,.int .i64 x,.int .i64 y,.int .i64 z,.int .i64 w]]=>some ⟨.tup [I (Zu7 ⟨a,b,c,d⟩ ⟨x,y,z,w⟩),I (Zu6 ⟨a,b,c,d⟩ ⟨x,y,z,w⟩)],[]⟩
 | _=>none
def r207:List AV->Option PRes
 | [.int .i64 fr,.int .i64 den,.int .i64 to,.int .i64 oth,.int .i64 a,.int .i64 b]=>some ⟨Bo (ovl fr den to oth a b),[]⟩
 | _=>none
def r182:List AV->Option PRes
 | [.agg [.int .i64 a,.int .i64 b,.int .i64 c,.int .i64 d,.int .i64 x,.int .i64 y,.int .i64 z,.int .i64 w]]=>some ⟨.tup [I (midX ⟨a,b,c,d⟩ ⟨x,y,z,w⟩),I (midY ⟨a,b,c,d⟩ ⟨x,y,z,w⟩),I (midD ⟨a,b,c,d⟩ ⟨x,y,z,w⟩)],[]⟩
 | _=>none
def kF2:PC:=ins 289 r204 (ins 290 r207 (ins 261 r182 kG3))
theorem Yct:PCOK Tryz.prog kF2:=by
 refine Zh (fun a res h=>?_) (Zh (fun a res h=>?_) (Zh (fun a res h=>?_) Ve))
 ·unfold r204 at h; split at h<;>cases h; exact c204 ⟨_,_,_,_⟩ ⟨_,_,_,_⟩
 ·unfold r207 at h; split at h<;>cases h; exact c207 _ _ _ _ _ _
 ·unfold r182 at h; split at h<;>cases h; exact c182 ⟨_,_,_,_⟩ ⟨_,_,_,_⟩
theorem c208 (p q:Pt) (x y:Int):PCall Tryz.prog 291 [wayA p q,P2 x y] ⟨I (Zlz p q x y),[]⟩:=by
 have hk:=Ze (c215 (a:=Zu7 p q) (b:=Qa Qb (Qa Qb (y*p.d)-p.y)) (c:=Zu6 p q) (d:=Qa Qb (Qa Qb (x*p.d)-p.x)) (Zuf _) (Zuf _) (Zuf _) (Zuf _)) Yct
 refine bs.pv (sx:=nos) hk Tryz.func291 (by kernel_rfl) (by kernel_rfl) rfl ?_
 repeat'(first|refine wk0 ?_|(refine wk2 ?_ ?_<;>intro _)|refine wk4 ?_|fail);all_goals(conv=>whnf)
 exact Za rfl
def r208:List AV->Option PRes
 | [.agg [.int .i64 a,.int .i64 b,.int .i64 c,.int .i64 d,.int .i64 x,.int .i64 y,.int .i64 z,.int .i64 w],.agg [.int .i64 u,.int .i64 v]]=>some ⟨I (Zlz ⟨a,b,c,d⟩ ⟨x,y,z,w⟩ u v),[]⟩
 | _=>none
def kF3:PC:=ins 291 r208 kF2
theorem Yhx:PCOK Tryz.prog kF3:=by
 refine Zh (fun a res h=>?_) Yct
 unfold r208 at h; split at h<;>cases h; exact c208 ⟨_,_,_,_⟩ ⟨_,_,_,_⟩ _ _
theorem c181 (p q:Pt) (w:Wl):PCall Tryz.prog 260 [wayA p q,w.av] ⟨Bo (touP p q w),[]⟩:=by
 obtain ⟨pa,pb,pc,pd⟩:=p
 obtain ⟨qa,qb,qc,qd⟩:=q
 obtain ⟨wn,wa,wb,wc,wd⟩:=w
 refine bs.pv (sx:=nos) Yhx Tryz.func260 (by kernel_rfl) (by kernel_rfl) rfl ?_
 repeat'(first|refine wk0 ?_|(refine wk2 ?_ ?_<;>intro _)|refine wk4 ?_|fail);all_goals(conv=>whnf)
 all_goals exact Zd (by simp_all [touP]<;>omega)
end Go.Proofs.YtfkdpbklbegnlaaGreat
