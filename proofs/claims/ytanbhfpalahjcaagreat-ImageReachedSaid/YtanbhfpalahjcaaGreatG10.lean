/- A part of the proof: lemmas. -/
import Derived.Test.YtanbhfpalahjcaaGreatG9
set_option linter.unusedVariables false
set_option linter.unusedSimpArgs false
set_option maxRecDepth 100000
set_option maxHeartbeats 16000000
open Bool renaming and_eq_true->Qc,eq_iff_iff->Sc,or_eq_true->Ro,true_and->Tv
open Classical renaming choose->Gi,choose_spec->Nq
open Go.IntKind renaming i64->Qb,wrap->Qa,wrap_i64->Ww
open Go.IntWalk renaming i64_in->Mz
open Go.Proofs.YtanbhfpalahjcaaGreat.Wal renaming av->Wu
open Go.Proofs.YtanbhfpalahjcaaGreat.Wl renaming touches->Gt
open Go.Sx.Done renaming mk->Qr
open Int renaming add_zero->Wn,mul_neg->Rp,mul_one->Rw,mul_pos->Qv,mul_tdiv_cancel_left->Ma,mul_zero->Sb,natAbs_mul->Jx,neg_mul->Tq,neg_neg->Wx,one_mul->Sj,toNat_natCast->Ri,zero_add->Ph,zero_mul->Sq
open List renaming all_eq_true->Rf,any_append->Lu,any_cons->Lm,any_eq_true->Mb,drop_eq_getElem_cons->Ql,drop_of_length_le->Qo,getElem_mem->Qn,mem_map->Ta,mem_range->Rx,mem_take_iff_getElem->Le,range'->Kb,range'_succ->Gj,take_succ_eq_append_getElem->Qu
open List.cons renaming injEq->Rd
open Nat renaming le_refl->Qd,mod_lt->Tx,zero_le->Qp
namespace Go.Proofs.YtanbhfpalahjcaaGreat
open Go Go.Sx
structure Ln where
 x:Int
 y:Int
 dx:Int
 dy:Int
abbrev Ln.av (l:Ln):AV:=.agg [I l.x,I l.y,I l.dx,I l.dy]
structure Pt where
 x:Int
 y:Int
 z:Int
 d:Int
abbrev Pt.av (p:Pt):AV:=.agg [I p.x,I p.y,I p.z,I p.d]
def Ln.n (l:Ln):Int:=imax (size l.dx) (size l.dy)
def Ln.sx (l:Ln):Int:=Qa Qb (Int.tdiv l.dx l.n)
def Ln.sy (l:Ln):Int:=Qa Qb (Int.tdiv l.dy l.n)
theorem c125 (n:Int):PCall Tryz.prog 53 [I n] ⟨I (size n),[]⟩:=by
 refine pn Ze Tryz.func53 ?_
 repeat'(first|refine wk0 ?_|(refine wk2 ?_ ?_<;>intro _)|fail)
 exact Zc rfl
theorem c119 (n:Int):PCall Tryz.prog 222 [I n] ⟨I (sgn n),[]⟩:=by
 refine pn Ze Tryz.func222 ?_
 repeat'(first|refine wk0 ?_|(refine wk2 ?_ ?_<;>intro _)|fail)
 all_goals exact Zc (by simp_all [sgn]<;>omega)
theorem c163 (n:Int):PCall Tryz.prog 106 [I n] ⟨Bo (within n (-5000) 5000),[]⟩:=by
 refine pn Zbw Tryz.func106 ?_
 repeat'(first|refine wk0 ?_|(refine wk2 ?_ ?_<;>intro _)|fail)
 exact Za rfl
theorem c162 (a b c:Int):PCall Tryz.prog 104 [I a,I b,I c] ⟨.tup [P2 a b,I c],[]⟩:=by
 refine pn Zbw Tryz.func104 ?_
 repeat'(first|refine wk0 ?_|(refine wk2 ?_ ?_<;>intro _)|fail)
 exact Zg rfl rfl
theorem c201 (x y:Int):PCall Tryz.prog 184 [P2 x y] ⟨P4 x y 0 1,[]⟩:=by
 refine pn Zbw Tryz.func184 ?_
 repeat'(first|refine wk0 ?_|(refine wk2 ?_ ?_<;>intro _)|fail)
 exact Zg rfl rfl
def rS1:List AV->Option PRes
 | [.int .i64 n]=>some ⟨I (size n),[]⟩
 | _=>none
def rS2:List AV->Option PRes
 | [.int .i64 n]=>some ⟨I (sgn n),[]⟩
 | _=>none
def r163:List AV->Option PRes
 | [.int .i64 n]=>some ⟨Bo (within n (-5000) 5000),[]⟩
 | _=>none
def r162:List AV->Option PRes
 | [.int .i64 a,.int .i64 b,.int .i64 c]=>some ⟨.tup [P2 a b,I c],[]⟩
 | _=>none
def r201:List AV->Option PRes
 | [.agg [.int .i64 x,.int .i64 y]]=>some ⟨P4 x y 0 1,[]⟩
 | _=>none
def r36R:List AV->Option PRes
 | [.agg [.int .i64 x,.int .i64 y,.int .i64 z]]=>some ⟨P4 x y z 1,[]⟩
 | _=>none
def kR1:PC:=ins 53 rS1 (ins 222 rS2 (ins 106 r163 (ins 104 r162 (ins 184 r201 (ins 113 r36R k93)))))
theorem Zsf:PCOK Tryz.prog kR1:=by
 refine Zk (fun a res h=>?_) (Zk (fun a res h=>?_) (Zk (fun a res h=>?_) (Zk (fun a res h=>?_) (Zk (fun a res h=>?_) (Zk (fun a res h=>?_) Zbw)))))
 ·unfold rS1 at h; split at h<;>cases h; exact c125 _
 ·unfold rS2 at h; split at h<;>cases h; exact c119 _
 ·unfold r163 at h; split at h<;>cases h; exact c163 _
 ·unfold r162 at h; split at h<;>cases h; exact c162 _ _ _
 ·unfold r201 at h; split at h<;>cases h; exact c201 _ _
 ·unfold r36R at h; split at h<;>cases h; exact c36 _ _ _
theorem c212 (l:Ln) (hn:l.n≠0):PCall Tryz.prog 165 [l.av] ⟨.tup [I l.n,I l.sx,I l.sy],[]⟩:=by
 have hn' : ¬ imax (size l.dx) (size l.dy)=0:=hn
 refine pn Zsf Tryz.func165 ?_
 repeat'(first|refine wk1 ?_|(refine wk2 ?_ ?_<;>intro _)|fail)
 exact Zg rfl rfl
def r212:List AV->Option PRes
 | [.agg [.int .i64 x,.int .i64 y,.int .i64 dx,.int .i64 dy]]=>asr (decide ((Ln.mk x y dx dy).n≠0)) ⟨.tup [I (Ln.mk x y dx dy).n,I (Ln.mk x y dx dy).sx,I (Ln.mk x y dx dy).sy],[]⟩
 | _=>none
def kR2:PC:=ins 165 r212 kR1
theorem Zse:PCOK Tryz.prog kR2:=by
 refine Zk (fun a res h=>?_) Zsf
 unfold r212 at h; split at h
 ·obtain ⟨h1,rfl⟩:=Zat h; exact c212 ⟨_,_,_,_⟩ (of_decide_eq_true h1)
 ·cases h
def Ln.beside (l:Ln) (p:Pt):Int:=Qa Qb (Qa Qb (l.sx*Qa Qb (p.y-Qa Qb (l.y*p.d)))-Qa Qb (l.sy*Qa Qb (p.x-Qa Qb (l.x*p.d))))
def Ln.along (l:Ln) (p:Pt):Int:=Qa Qb (Qa Qb (l.sx*Qa Qb (p.x-Qa Qb (l.x*p.d)))+Qa Qb (l.sy*Qa Qb (p.y-Qa Qb (l.y*p.d))))
def Ln.full (l:Ln):Int:=Qa Qb (l.n*Qa Qb (Qa Qb (l.sx*l.sx)+Qa Qb (l.sy*l.sy)))
theorem c185 (l:Ln) (p:Pt) (hn:l.n≠0):PCall Tryz.prog 164 [l.av,p.av] ⟨I (l.beside p),[]⟩:=by
 obtain ⟨x,y,dx,dy⟩:=l
 have ha:=Zcm (res:=⟨.tup [I (Ln.mk x y dx dy).n,I (Ln.mk x y dx dy).sx,I (Ln.mk x y dx dy).sy],[]⟩) hn
 refine pn Zse Tryz.func164 ?_
 repeat'(first|refine wk0 ?_|(refine wk2 ?_ ?_<;>intro _)|fail)
 exact Zc rfl
theorem c186 (l:Ln) (p:Pt) (hn:l.n≠0):PCall Tryz.prog 166 [l.av,p.av] ⟨I (l.along p),[]⟩:=by
 obtain ⟨x,y,dx,dy⟩:=l
 have ha:=Zcm (res:=⟨.tup [I (Ln.mk x y dx dy).n,I (Ln.mk x y dx dy).sx,I (Ln.mk x y dx dy).sy],[]⟩) hn
 refine pn Zse Tryz.func166 ?_
 repeat'(first|refine wk0 ?_|(refine wk2 ?_ ?_<;>intro _)|fail)
 exact Zc rfl
theorem c188 (l:Ln) (hn:l.n≠0):PCall Tryz.prog 167 [l.av] ⟨I l.full,[]⟩:=by
 obtain ⟨x,y,dx,dy⟩:=l
 have ha:=Zcm (res:=⟨.tup [I (Ln.mk x y dx dy).n,I (Ln.mk x y dx dy).sx,I (Ln.mk x y dx dy).sy],[]⟩) hn
 refine pn Zse Tryz.func167 ?_
 repeat'(first|refine wk0 ?_|(refine wk2 ?_ ?_<;>intro _)|fail)
 exact Zc rfl
def r185:List AV->Option PRes
 | [.agg [.int .i64 x,.int .i64 y,.int .i64 dx,.int .i64 dy],.agg [.int .i64 a,.int .i64 b,.int .i64 c,.int .i64 d]]=>asr (decide ((Ln.mk x y dx dy).n≠0)) ⟨I ((Ln.mk x y dx dy).beside ⟨a,b,c,d⟩),[]⟩
 | _=>none
def r186:List AV->Option PRes
 | [.agg [.int .i64 x,.int .i64 y,.int .i64 dx,.int .i64 dy],.agg [.int .i64 a,.int .i64 b,.int .i64 c,.int .i64 d]]=>asr (decide ((Ln.mk x y dx dy).n≠0)) ⟨I ((Ln.mk x y dx dy).along ⟨a,b,c,d⟩),[]⟩
 | _=>none
def r188:List AV->Option PRes
 | [.agg [.int .i64 x,.int .i64 y,.int .i64 dx,.int .i64 dy]]=>asr (decide ((Ln.mk x y dx dy).n≠0)) ⟨I (Ln.mk x y dx dy).full,[]⟩
 | _=>none
def kR3:PC:=ins 164 r185 (ins 166 r186 (ins 167 r188 kR2))
theorem Zwt:PCOK Tryz.prog kR3:=by
 refine Zk (fun a res h=>?_) (Zk (fun a res h=>?_) (Zk (fun a res h=>?_) Zse))
 ·unfold r185 at h; split at h
  ·obtain ⟨h1,rfl⟩:=Zat h; exact c185 ⟨_,_,_,_⟩ ⟨_,_,_,_⟩ (of_decide_eq_true h1)
  ·cases h
 ·unfold r186 at h; split at h
  ·obtain ⟨h1,rfl⟩:=Zat h; exact c186 ⟨_,_,_,_⟩ ⟨_,_,_,_⟩ (of_decide_eq_true h1)
  ·cases h
 ·unfold r188 at h; split at h
  ·obtain ⟨h1,rfl⟩:=Zat h; exact c188 ⟨_,_,_,_⟩ (of_decide_eq_true h1)
  ·cases h
def Ln.has (l:Ln) (p:Pt):Bool:=decide (l.beside p=0)&&within (l.along p) 0 (Qa Qb (l.full*p.d))
theorem c189 (l:Ln) (p:Pt) (hn:l.n≠0):PCall Tryz.prog 163 [l.av,p.av] ⟨Bo (l.has p),[]⟩:=by
 obtain ⟨x,y,dx,dy⟩:=l
 obtain ⟨a,b,c,d⟩:=p
 refine pn Zwt Tryz.func163 ?_
 repeat'(first|refine wk0 ?_|(refine wk2 ?_ ?_<;>intro _)|fail)
 all_goals exact Za (by clear hn; simp_all [Ln.has])
def Ln.a (l:Ln):Pt:=⟨l.x,l.y,0,1⟩
def Ln.b (l:Ln):Pt:=⟨Qa Qb (l.x+l.dx),Qa Qb (l.y+l.dy),0,1⟩
theorem c199 (l:Ln):PCall Tryz.prog 181 [l.av] ⟨.tup [l.a.av,l.b.av],[]⟩:=by
 refine pn Zwt Tryz.func181 ?_
 repeat'(first|refine wk0 ?_|(refine wk2 ?_ ?_<;>intro _)|fail)
 exact Zg rfl rfl
def r189:List AV->Option PRes
 | [.agg [.int .i64 x,.int .i64 y,.int .i64 dx,.int .i64 dy],.agg [.int .i64 a,.int .i64 b,.int .i64 c,.int .i64 d]]=>asr (decide ((Ln.mk x y dx dy).n≠0)) ⟨Bo ((Ln.mk x y dx dy).has ⟨a,b,c,d⟩),[]⟩
 | _=>none
def r199:List AV->Option PRes
 | [.agg [.int .i64 x,.int .i64 y,.int .i64 dx,.int .i64 dy]]=>some ⟨.tup [P4 x y 0 1,P4 (Qa Qb (x+dx)) (Qa Qb (y+dy)) 0 1],[]⟩
 | _=>none
def kR4:PC:=ins 163 r189 (ins 181 r199 kR3)
theorem Zew:PCOK Tryz.prog kR4:=by
 refine Zk (fun a res h=>?_) (Zk (fun a res h=>?_) Zwt)
 ·unfold r189 at h; split at h
  ·obtain ⟨h1,rfl⟩:=Zat h; exact c189 ⟨_,_,_,_⟩ ⟨_,_,_,_⟩ (of_decide_eq_true h1)
  ·cases h
 ·unfold r199 at h; split at h<;>cases h; exact c199 ⟨_,_,_,_⟩
def Ln.touch (l m:Ln):Bool :=
 (l.has m.a||l.has m.b||m.has l.a||m.has l.b)||(decide (Qa Qb (sgn (l.beside m.a)*sgn (l.beside m.b))<0)&&decide (Qa Qb (sgn (m.beside l.a)*sgn (m.beside l.b))<0))
theorem c198 (l m:Ln) (hn:l.n≠0) (hm:m.n≠0):PCall Tryz.prog 180 [l.av,m.av] ⟨Bo (l.touch m),[]⟩:=by
 obtain ⟨x,y,dx,dy⟩:=l
 obtain ⟨u,v,du,dv⟩:=m
 refine pn Zew Tryz.func180 ?_
 repeat'(first|refine wk0 ?_|(refine wk2 ?_ ?_<;>intro _)|fail)
 all_goals exact Za (by clear hn hm; simp_all [Ln.touch,Ln.a,Ln.b]<;>first|rfl|(intro hx; exact absurd (of_decide_eq_true hx) (by omega)))
def Zkx (c:Can):Ln:=⟨c.fx,c.fy,Qa Qb (c.tx-c.fx),0⟩
def Zkw (c:Can):Ln:=⟨c.tx,c.fy,0,Qa Qb (c.ty-c.fy)⟩
def Zkv (c:Can):Ln:=⟨c.tx,c.ty,Qa Qb (0-Qa Qb (c.tx-c.fx)),0⟩
def Zku (c:Can):Ln:=⟨c.fx,c.ty,0,Qa Qb (0-Qa Qb (c.ty-c.fy))⟩
theorem c200 (c:Can):PCall Tryz.prog 182 [.agg c.av] ⟨.agg [I (Zkx c).x,I (Zkx c).y,I (Zkx c).dx,I (Zkx c).dy,I (Zkw c).x,I (Zkw c).y,I (Zkw c).dx,I (Zkw c).dy,I (Zkv c).x,I (Zkv c).y,I (Zkv c).dx,I (Zkv c).dy,I (Zku c).x,I (Zku c).y,I (Zku c).dx,I (Zku c).dy],[]⟩:=by
 refine pn Zew Tryz.func182 ?_
 repeat'(first|refine wk0 ?_|(refine wk2 ?_ ?_<;>intro _)|fail)
 exact Zg rfl rfl
def Zh9 (c:Can) (p:Pt):Bool:=within p.x (Qa Qb (imin c.fx c.tx*p.d)) (Qa Qb (imax c.fx c.tx*p.d))&&within p.y (Qa Qb (imin c.fy c.ty*p.d)) (Qa Qb (imax c.fy c.ty*p.d))
theorem c191 (c:Can) (p:Pt):PCall Tryz.prog 183 [.agg c.av,p.av] ⟨Bo (Zh9 c p),[]⟩:=by
 refine pn Zew Tryz.func183 ?_
 repeat'(first|refine wk0 ?_|(refine wk2 ?_ ?_<;>intro _)|fail)
 all_goals exact Za (by simp_all [Zh9])
def lnOf (cs:List (Int × Int)) (i:Nat):Ln:=⟨(cor cs i).1,(cor cs i).2,Qa Qb ((cor cs ((i+1)%cs.length)).1-(cor cs i).1),Qa Qb ((cor cs ((i+1)%cs.length)).2-(cor cs i).2)⟩
theorem c105 {h:Hal} (hf:h.few) {k:Nat} (hk:k<h.cs.length):PCall Tryz.prog 86 [h.av,I k] ⟨(lnOf h.cs k).av,[]⟩:=by
 have e1:=Zc8 hk
 have e2:=Zc8 (ps:=h.cs) (i:=(k+1)%h.cs.length) (Tx _ (by omega))
 have e3:(h.cs.map pt).length=h.cs.length:=by simp
 have hl:=hf.2.1
 have hw:Qa Qb ((k:Int)+1)=((k+1:Nat):Int):=Mz _ ⟨by omega,by omega⟩
 have hm:(Qa Qb ((k:Int)+1)).tmod ((h.cs.map pt).length:Int)=(((k+1)%h.cs.length:Nat):Int):=by rw [hw,e3]; rfl
 have e4:(h.cs.map pt)[((k:Nat):Int).toNat]?=some [I (cor h.cs k).1,I (cor h.cs k).2]:=by simpa using e1
 have e5:(h.cs.map pt)[((Qa Qb ((k:Int)+1)).tmod ((h.cs.map pt).length:Int)).toNat]?=some [I (cor h.cs ((k+1)%h.cs.length)).1,I (cor h.cs ((k+1)%h.cs.length)).2]:=by rw [hm,Ri]; exact e2
 refine pn Zew Tryz.func86 ?_
 repeat'(first|refine wk1 ?_|(refine wk2 ?_ ?_<;>intro _)|fail)
 exact Zg rfl rfl
theorem Ze4 (a b:ByteArray):(a==b)=decide (a=b):=by
 rw [Sc]
 obtain ⟨a⟩:=a
 obtain ⟨b⟩:=b
 have:((⟨a⟩:ByteArray)==⟨b⟩)=(a==b):=rfl
 rw [this]
 simp
def Xd (s:ByteArray):Nat->List Mat->Int
 | _,[]=>-1
 | i,m::l=>if m.nm==s then i else Xd s (i+1) l
theorem c128 {h:Hal} (hf:h.few) (s:ByteArray):PCall Tryz.prog 105 [h.av,.str s] ⟨I (Xd s 0 h.ms),[]⟩:=by
 refine pn Zew Tryz.func105 ?_
 refine Zm (S:=Nat × Int) (fun t=>h.ms.length-t.1) (fun t=>[(2,.ptr 0 0 0),(1,.str s),(5,I t.2)]) (fun _=>[(0,.row 9 [h.cells] true false)]) 1 1 (fun t=>t.2=t.1/\t.1<=h.ms.length/\Xd s t.1 (h.ms.drop t.1)=Xd s 0 h.ms) (0,0) ⟨rfl,Qp _,rfl⟩ (Qd _) [] rfl (kps) (kps) ?_
 rintro ⟨k,i⟩ ⟨hi,hk,hh⟩
 dsimp only at hi hk hh ⊢
 subst hi
 refine bs.av (sx:=nos) Zew ?_
 have e3:=Zdt h.ms
 by_cases hlt:k<h.ms.length
 ·have e1:=Zr8 hlt
  rw [Ql hlt,Xd] at hh
  cases hb:(h.ms[k].nm==s) with
  | true =>
   rw [hb,if_pos rfl] at hh
   repeat'(first|refine wk1 ?_|(refine wk2 ?_ ?_<;>intro _)|fail)
   ·exact Zc hh
   ·rename_i hx; rw [hb] at hx; cases hx
  | false =>
   rw [hb,if_neg (by simp)] at hh
   repeat'(first|refine wk1 ?_|(refine wk2 ?_ ?_<;>intro _)|fail)
   ·rename_i hx; rw [hb] at hx; cases hx
   ·exact Qr ⟨(k+1,_),[],rfl,kps,kps,⟨Zb (by have:=hf.1; omega),hlt,hh⟩,by dsimp only; omega⟩
 ·rw [Qo (by omega)] at hh
  repeat'(first|refine wk1 ?_|(refine wk2 ?_ ?_<;>intro _)|fail)
  exact Zc hh
def Xk (s:ByteArray):Bool:=decide (1<=(s.size:Int))&&(decide ((s.size:Int)<=12)&&Zc4 true s.data.toList)
theorem c161 {s:ByteArray} (hs:s.data.toList.length<100000):PCall Tryz.prog 103 [.str s] ⟨Bo (Xk s),[]⟩:=by
 have hz:s.size=s.data.toList.length:=by simp
 refine pn Ze Tryz.func103 ?_
 repeat'(first|refine wk0 ?_|(refine wk2 ?_ ?_<;>intro _)|fail)
 ·rename_i hx
  have hx:=of_decide_eq_true hx
  exact Za (by rw [Xk,decide_eq_false (by omega)]; rfl)
 ·exact Za (by clear hz hs; simp_all [Xk]<;>omega)
 ·rename_i hb1 hb2
  have hb:Xk s=Zc4 true s.data.toList:=by clear hz; simp_all [Xk]
  rw [hb]
  refine Zm (S:=Nat × Int) (fun t=>s.data.toList.length-t.1) (fun t=>[(0,.str s),(3,I t.2)]) (fun _=>[]) 0 0 (fun t=>t.2=t.1/\t.1<=s.data.toList.length/\Zc4 (decide (t.1=0)) (s.data.toList.drop t.1)=Zc4 true s.data.toList) (0,0) ⟨rfl,Qp _,rfl⟩ (Qd _) [] rfl (kps) (kps) ?_
  rintro ⟨k,i⟩ ⟨hi,hk,hh⟩
  dsimp only at hi hk hh ⊢
  subst hi
  clear hb1 hb2 hb
  have hk9:k<9000000000:=by omega
  refine bs.av (sx:=nos) Ze ?_
  by_cases hlt:k<s.data.toList.length
  ·have e1:s.data.toList[((k:Nat):Int).toNat]?=some s.data.toList[k]:=by simp only [Ri]; exact List.getElem?_eq_getElem hlt
   rw [Ql hlt,Zjl] at hh
   generalize s.data.toList[k]=c0 at *
   repeat'(first|refine wk1 ?_|(refine wk2 ?_ ?_<;>intro _)|fail)
   all_goals (clear e1)
   all_goals (generalize c0.toNat=c at *)
   all_goals (clear hz hs)
   all_goals first
    | exact Za (by
      have hg:Zkp (decide (k=0)) c=false:=by clear hh; simp_all [Zkp,Zjt]<;>omega
      rw [hg,Bool.false_and] at hh
      exact hh)
    | exact Qr ⟨(k+1,_),[],rfl,kps,trivial,⟨Zb hk9,hlt,by
      have hg:Zkp (decide (k=0)) c=true:=by clear hh; simp_all [Zkp,Zjt]<;>omega
      rw [hg,Tv] at hh
      exact hh⟩,by dsimp only; omega⟩
  ·rw [Qo (by omega)] at hh
   repeat'(first|refine wk1 ?_|(refine wk2 ?_ ?_<;>intro _)|fail)
   exact Za hh
theorem Zch (s:ByteArray):Xk s=Uj s:=by
 unfold Xk Uj
 have h1:(s==⟨#[]⟩)=decide (s.size=0):=by
  rw [Ze4,Sc]
  simp only [decide_eq_true_eq]
  constructor
  ·rintro rfl; rfl
  ·intro h0
   obtain ⟨d⟩:=s
   have:d = #[]:=by simpa [ByteArray.size] using h0
   rw [this]
 rw [h1]
 have h2:decide (1<=(s.size:Int)) = !decide (s.size=0):=by
  rw [Sc]; simp only [decide_eq_true_eq,Bool.not_eq_true',decide_eq_false_iff_not]; omega
 rw [h2]
 cases Zc4 true s.data.toList<;>cases decide (s.size=0)<;>simp
noncomputable def fam (g:Nat->List AV) (r:Nat->PRes) (n:Nat) (a:List AV):Option PRes:=by
 classical exact if hx:∃ k,k<n/\a=g k then some (r (Gi hx)) else none
theorem Zxx {g:Nat->List AV} {r:Nat->PRes} {n k:Nat} (hi:∀ j,g j=g k->r j=r k) (hk:k<n):fam g r n (g k)=some (r k):=by
 classical
 unfold fam
 have hx:∃ j,j<n/\g k=g j:=⟨k,hk,rfl⟩
 rw [dif_pos hx,hi _ (Nq hx).2.symm]
theorem Zsv {f0:FuncId} {g:Nat->List AV} {r:Nat->PRes} {n:Nat} {pt:PC} (h0:∀ k,k<n->PCall Tryz.prog f0 (g k) (r k)) (h:PCOK Tryz.prog pt):PCOK Tryz.prog (ins f0 (fam g r n) pt):=by
 classical
 refine Zk (fun a res hr=>?_) h
 unfold fam at hr
 split at hr
 ·rename_i hx
  obtain ⟨h1,h2⟩:=Nq hx
  cases hr
  have:=h0 _ h1
  rw [<-h2] at this
  exact this
 ·cases hr
noncomputable abbrev lines (h:Hal):List AV->Option PRes:=fam (fun k=>[h.av,I (k:Int)]) (fun k=>⟨(lnOf h.cs k).av,[]⟩) h.cs.length
theorem Ui {h:Hal} {k:Nat} (hk:k<h.cs.length):lines h [h.av,I (k:Int)]=some ⟨(lnOf h.cs k).av,[]⟩ :=
 Zxx (g:=fun k=>[h.av,I (k:Int)]) (r:=fun k=>⟨(lnOf h.cs k).av,[]⟩) (fun j hj=>by
  simp only [Rd,AV.int.injEq,Int.natCast_inj,true_and,and_true] at hj
  rw [hj]) hk
noncomputable def kR5 (h:Hal):PC:=ins 86 (lines h) kR4
theorem Zsd {h:Hal} (hf:h.few):PCOK Tryz.prog (kR5 h):=Zsv (fun k hk=>c105 hf hk) Zew
def Zph (n:Int) (w:Wl):Int:=Qa Qb (Qa Qb (n+Qa Qb (w.fx*w.ty))-Qa Qb (w.tx*w.fy))
def Zit (cs:List (Int × Int)):Int:=(wls cs).foldl Zph 0
theorem Zg2 (cs:List (Int × Int)):(wls cs).length=cs.length:=by simp [wls]
theorem Yc1 {cs:List (Int × Int)} {k:Nat} (h:k<cs.length):(wls cs)[k]'(by rw [Zg2]; exact h)=wlOf cs k:=by simp [wls]
theorem Zzj {cs:List (Int × Int)} {k:Nat} (h:k<cs.length):(wls cs).drop k=wlOf cs k::(wls cs).drop (k+1):=by
 rw [Ql (by rw [Zg2]; exact h),Yc1 h]
theorem c46 {h:Hal} (hf:h.few):PCall Tryz.prog 109 [h.av] ⟨I (Zit h.cs),[]⟩:=by
 refine pn Zew Tryz.func109 ?_
 refine Zm (S:=Nat × Int × Int) (fun t=>h.cs.length-t.1) (fun t=>[(1,.ptr 0 0 0),(3,I t.2.2),(4,I t.2.1)]) (fun _=>[(0,.row 9 [h.cells] true false)]) 1 1 (fun t=>t.2.1=t.1/\t.1<=h.cs.length/\((wls h.cs).drop t.1).foldl Zph t.2.2=Zit h.cs) (0,0,0) ⟨rfl,Qp _,rfl⟩ (Qd _) [] rfl (kps) (kps) ?_
 rintro ⟨k,i,n⟩ ⟨hi,hk,hh⟩
 dsimp only at hi hk hh ⊢
 subst hi
 refine bs.av (sx:=nos) Zew ?_
 have e3:=Zpb h.cs
 have hl:=hf.2.1
 by_cases hlt:k<h.cs.length
 ·rw [Zzj hlt,List.foldl_cons] at hh
  have e1:=Zc8 hlt
  have e2:=Zc8 (ps:=h.cs) (i:=(k+1)%h.cs.length) (Tx _ (by omega))
  have hw:Qa Qb ((k:Int)+1)=((k+1:Nat):Int):=Mz _ ⟨by omega,by omega⟩
  have hm:(Qa Qb ((k:Int)+1)).tmod ((h.cs.map pt).length:Int)=(((k+1)%h.cs.length:Nat):Int):=by rw [hw,e3]; rfl
  have e4:(h.cs.map pt)[((k:Nat):Int).toNat]?=some [I (cor h.cs k).1,I (cor h.cs k).2]:=by simpa using e1
  have e5:(h.cs.map pt)[((Qa Qb ((k:Int)+1)).tmod ((h.cs.map pt).length:Int)).toNat]?=some [I (cor h.cs ((k+1)%h.cs.length)).1,I (cor h.cs ((k+1)%h.cs.length)).2]:=by rw [hm,Ri]; exact e2
  repeat'(first|refine wk1 ?_|(refine wk2 ?_ ?_<;>intro _)|fail)
  exact Qr ⟨(k+1,_,_),[],rfl,kps,kps,⟨Zb (by omega),hlt,hh⟩,by dsimp only; omega⟩
 ·rw [Qo (by rw [Zg2]; omega)] at hh
  repeat'(first|refine wk1 ?_|(refine wk2 ?_ ?_<;>intro _)|fail)
  exact Zc hh
def Hal.nz (h:Hal):Prop:=∀ k,k<h.cs.length->(lnOf h.cs k).n≠0
def Zos (p:Pt) (l:Ln):Bool :=
 ((decide (Qa Qb (l.y*p.d)<=p.y) && !decide (Qa Qb (Qa Qb (l.y+l.dy)*p.d)<=p.y))&&decide (0<l.beside p))||((!decide (Qa Qb (l.y*p.d)<=p.y)&&decide (Qa Qb (Qa Qb (l.y+l.dy)*p.d)<=p.y))&&decide (l.beside p<0))
def Zko (p:Pt):Bool->List Ln->Bool
 | b,[]=>b
 | b,l::r=>if l.has p then false else Zko p (b ^^ Zos p l) r
def lns (cs:List (Int × Int)):List Ln:=(List.range cs.length).map (lnOf cs)
theorem Zax (cs:List (Int × Int)):(lns cs).length=cs.length:=by simp [lns]
theorem Zf7 {cs:List (Int × Int)} {k:Nat} (h:k<cs.length):(lns cs).drop k=lnOf cs k::(lns cs).drop (k+1):=by
 rw [Ql (by rw [Zax]; exact h)]; simp [lns]
def Yj (h:Hal) (p:Pt):Bool:=Zko p false (lns h.cs)
theorem Zud {p:Pt} {b:Bool} {l:Ln} {r:List Ln} (h:l.has p=false):Zko p b (l::r)=Zko p (b ^^ Zos p l) r:=by rw [Zko,if_neg (by simp [h])]
theorem Zw6 {p:Pt} {b:Bool} {l:Ln} {r:List Ln} (h:l.has p=true):Zko p b (l::r)=false:=by rw [Zko,if_pos h]
theorem c106 {h:Hal} (hf:h.few) (hwc:h.ws.length=h.cs.length) (hz:h.nz) (p:Pt):PCall Tryz.prog 84 [h.av,p.av] ⟨Bo (Yj h p),[]⟩:=by
 obtain ⟨px,py,pz,pd⟩:=p
 refine pn (Zsd hf) Tryz.func84 ?_
 refine Zm (S:=Nat × Int × Bool) (fun t=>h.ws.length-t.1) (fun t=>[(2,.ptr 0 0 0),(3,.ptr 1 0 0),(5,Bo t.2.2),(6,I t.2.1)]) (fun _=>[(1,.row 4 [[I px,I py,I pz,I pd]] true false),(0,.row 9 [h.cells] true false)]) 2 2 (fun t=>t.2.1=t.1/\t.1<=h.ws.length/\Zko ⟨px,py,pz,pd⟩ t.2.2 ((lns h.cs).drop t.1)=Yj h ⟨px,py,pz,pd⟩) (0,0,false) ⟨rfl,Qp _,rfl⟩ (Qd _) [] rfl (kps) (kps) ?_
 rintro ⟨k,i,b⟩ ⟨hi,hk,hh⟩
 dsimp only at hi hk hh ⊢
 subst hi
 refine bs.av (sx:=nos) (Zsd hf) ?_
 have e3:=Vk h.ws
 have hl:=hf.2.1
 by_cases hlt:k<h.ws.length
 ·have e1:=Ui (h:=h) (k:=k) (by omega)
  have hn:=hz k (by omega)
  rw [Zf7 (by omega)] at hh
  generalize lnOf h.cs k=L at *
  obtain ⟨lx,ly,ldx,ldy⟩:=L
  cases hb:(Ln.mk lx ly ldx ldy).has ⟨px,py,pz,pd⟩ with
  | true =>
   rw [Zw6 hb] at hh
   repeat'(first|refine wk1 ?_|(refine wk2 ?_ ?_<;>intro _)|fail)
   ·exact Za hh
   all_goals (exfalso; clear hh e1 hz hn; simp_all; done)
  | false =>
   rw [Zud hb] at hh
   repeat'(first|refine wk1 ?_|(refine wk2 ?_ ?_<;>intro _)|fail)
   ·exfalso; clear hh e1 hz hn; simp_all; done
   all_goals (clear e1 hz hn e3)
   all_goals exact Qr ⟨(k+1,_,_),[],rfl,kps,kps,⟨Zb (by omega),hlt,by rw [<-hh]; congr 1; clear hh hl hlt hk; cases b<;>simp_all [Zos]<;>omega⟩,by dsimp only; omega⟩
 ·rw [Qo (by rw [Zax]; omega)] at hh
  repeat'(first|refine wk1 ?_|(refine wk2 ?_ ?_<;>intro _)|fail)
  exact Za hh
def Zhc (cs:List (Int × Int)) (n:Int) (i k:Nat):Bool :=
 !((!decide ((k:Int)=Qa Qb ((i:Int)+1)) && !(decide ((i:Int)=0)&&decide ((k:Int)=Qa Qb (n-1))))&&(lnOf cs i).touch (lnOf cs k)) &&
 !((decide ((k:Int)=Qa Qb ((i:Int)+1))&&((lnOf cs k).has (lnOf cs i).a||(lnOf cs i).has (lnOf cs k).b))||((decide ((i:Int)=0)&&decide ((k:Int)=Qa Qb (n-1)))&&((lnOf cs k).has (lnOf cs i).b||(lnOf cs i).has (lnOf cs k).a)))
def Zex (cs:List (Int × Int)) (n i k:Nat):Bool:=(Kb k (n-k)).all fun k=>Zhc cs n i k
def Zeu (cs:List (Int × Int)) (n i:Nat):Bool:=(Kb i (n-i)).all fun i=>Zex cs n i (i+1)
def Zdh (cs:List (Int × Int)):Bool:=Zeu cs cs.length 0
theorem Zqg {cs:List (Int × Int)} {n i k:Nat} (h:k<n):Zex cs n i k=(Zhc cs n i k&&Zex cs n i (k+1)):=by
 unfold Zex
 rw [show n-k=(n-(k+1))+1 by omega,Gj]; rfl
theorem Zuc {cs:List (Int × Int)} {n i k:Nat} (h:n<=k):Zex cs n i k=true:=by
 unfold Zex; rw [show n-k=0 by omega]; rfl
theorem Zp5 {cs:List (Int × Int)} {n i:Nat} (h:i<n):Zeu cs n i=(Zex cs n i (i+1)&&Zeu cs n (i+1)):=by
 unfold Zeu
 rw [show n-i=(n-(i+1))+1 by omega,Gj]; rfl
theorem Zt1 {cs:List (Int × Int)} {n i:Nat} (h:n<=i):Zeu cs n i=true:=by
 unfold Zeu; rw [show n-i=0 by omega]; rfl
def r198:List AV->Option PRes
 | [.agg [.int .i64 x,.int .i64 y,.int .i64 dx,.int .i64 dy],.agg [.int .i64 u,.int .i64 v,.int .i64 du,.int .i64 dv]]=>asr (decide ((Ln.mk x y dx dy).n≠0/\(Ln.mk u v du dv).n≠0)) ⟨Bo ((Ln.mk x y dx dy).touch ⟨u,v,du,dv⟩),[]⟩
 | _=>none
noncomputable def kR6 (h:Hal):PC:=ins 180 r198 (kR5 h)
theorem Yb8 {h:Hal} (hf:h.few):PCOK Tryz.prog (kR6 h):=by
 refine Zk (fun a res h=>?_) (Zsd hf)
 unfold r198 at h; split at h
 ·obtain ⟨h1,rfl⟩:=Zat h; exact c198 ⟨_,_,_,_⟩ ⟨_,_,_,_⟩ (of_decide_eq_true h1).1 (of_decide_eq_true h1).2
 ·cases h
theorem c165 {h:Hal} (hf:h.few) (hwc:h.ws.length=h.cs.length) (hz:h.nz):PCall Tryz.prog 108 [h.av] ⟨Bo (Zdh h.cs),[]⟩:=by
 have hk6:=Yb8 hf
 have e3:(h.ws.map Wu).length=h.cs.length:=by simp [hwc]
 have hl:=hf.2.1
 refine pn hk6 Tryz.func108 ?_
 refine Zm (S:=Nat × Int) (fun t=>h.cs.length-t.1) (fun t=>[(1,.ptr 0 0 0),(3,I (h.ws.map Wu).length),(4,I t.2)]) (fun _=>[(0,.row 9 [h.cells] true false)]) 1 1 (fun t=>t.2=t.1/\t.1<=h.cs.length/\Zeu h.cs h.cs.length t.1=Zdh h.cs) (0,0) ⟨rfl,Qp _,rfl⟩ (Qd _) [] rfl (kps) (kps) ?_
 rintro ⟨i,i'⟩ ⟨hi,hk,hh⟩
 dsimp only at hi hk hh ⊢
 subst hi
 refine bs.av (sx:=nos) hk6 ?_
 by_cases hlt:i<h.cs.length
 ·rw [Zp5 hlt] at hh
  repeat'(first|refine wk1 ?_|(refine wk2 ?_ ?_<;>intro _)|fail)
  refine Zm (S:=Nat × Int) (fun t=>h.cs.length-t.1) (fun t=>[(1,.ptr 0 0 0),(3,I (h.ws.map Wu).length),(4,I i),(5,I t.2)]) (fun _=>[(0,.row 9 [h.cells] true false)]) 1 1 (fun t=>t.2=t.1/\t.1<=h.cs.length/\(Zex h.cs h.cs.length i t.1&&Zeu h.cs h.cs.length (i+1))=Zdh h.cs) (i+1,Qa Qb ((i:Int)+1)) ⟨Zb (by omega),hlt,hh⟩ (Qd _) [] rfl (kps) (kps) ?_
  rintro ⟨k,k'⟩ ⟨hi,hk2,h3⟩
  dsimp only at hi hk2 h3 ⊢
  subst hi
  refine bs.av (sx:=nos) hk6 ?_
  by_cases hlt2:k<h.cs.length
  ·rw [Zqg hlt2,Zhc] at h3
   have e1:=Ui (h:=h) hlt
   have e2:=Ui (h:=h) hlt2
   have hn1:=hz i hlt
   have hn2:=hz k hlt2
   generalize lnOf h.cs i=L at *
   generalize lnOf h.cs k=M at *
   obtain ⟨lx,ly,ldx,ldy⟩:=L
   obtain ⟨mx,my,mdx,mdy⟩:=M
   have hn3:(Ln.mk lx ly ldx ldy).n≠0/\(Ln.mk mx my mdx mdy).n≠0:=⟨hn1,hn2⟩
   have e3':=e3
   clear hz hh
   rw [Bool.and_assoc] at h3
   generalize hT:(Zex h.cs h.cs.length i (k+1)&&Zeu h.cs h.cs.length (i+1))=T at *
   generalize hU:Zdh h.cs=U at *
   rw [<-e3] at h3
   simp only [Ln.a,Ln.b] at h3
   clear e3
   repeat'(first|refine wk1 ?_|(refine wk2 ?_ ?_<;>intro _)|fail)
   all_goals (clear e1 e2 hn1 hn2 hn3)
   all_goals first
    | exact Za (by rw [<-h3]; clear hT hU h3 hk hk2 hlt hlt2 hl hwc e3' hk6; simp_all; done)
    | exact Qr ⟨(k+1,_),[],rfl,kps,kps,⟨Zb (by omega),hlt2,by rw [hT,<-h3]; clear hT hU h3 hk hk2 hlt hlt2 hl hwc e3' hk6; simp_all; done⟩,by dsimp only; omega⟩
    | (exfalso; clear hT hU h3 hk hk2 hlt hlt2 hl hwc e3' hk6; simp_all; done)
  ·rw [Zuc (by omega),Tv] at h3
   repeat'(first|refine wk1 ?_|(refine wk2 ?_ ?_<;>intro _)|fail)
   exact Qr ⟨(i+1,_),[],rfl,kps,kps,⟨Zb (by omega),hlt,h3⟩,by dsimp only; omega⟩
 ·rw [Zt1 (by omega)] at hh
  repeat'(first|refine wk1 ?_|(refine wk2 ?_ ?_<;>intro _)|fail)
  exact Za hh
noncomputable def famA {α:Type} (p:α->Prop) (g:α->List AV) (r:α->PRes) (a:List AV):Option PRes:=by
 classical exact if hx:∃ k,p k/\a=g k then some (r (Gi hx)) else none
theorem Zl {α:Type} {p:α->Prop} {g:α->List AV} {r:α->PRes} {k:α} (hi:∀ j,g j=g k->r j=r k) (hk:p k):famA p g r (g k)=some (r k):=by
 classical
 unfold famA
 have hx:∃ j,p j/\g k=g j:=⟨k,hk,rfl⟩
 rw [dif_pos hx,hi _ (Nq hx).2.symm]
theorem Zn {f0:FuncId} {α:Type} {p:α->Prop} {g:α->List AV} {r:α->PRes} {pt:PC} (h0:∀ k,p k->PCall Tryz.prog f0 (g k) (r k)) (h:PCOK Tryz.prog pt):PCOK Tryz.prog (ins f0 (famA p g r) pt):=by
 classical
 refine Zk (fun a res hr=>?_) h
 unfold famA at hr
 split at hr
 ·rename_i hx
  obtain ⟨h1,h2⟩:=Nq hx
  cases hr
  have:=h0 _ h1
  rw [<-h2] at this
  exact this
 ·cases hr
noncomputable abbrev mats (h:Hal):List AV->Option PRes:=famA (fun _=>True) (fun s=>[h.av,.str s]) (fun s=>⟨I (Xd s 0 h.ms),[]⟩)
theorem Zeg (h:Hal) (s:ByteArray):mats h [h.av,.str s]=some ⟨I (Xd s 0 h.ms),[]⟩ :=
 Zl (g:=fun s=>[h.av,.str s]) (r:=fun s=>⟨I (Xd s 0 h.ms),[]⟩) (fun j hj=>by
  simp only [Rd,AV.str.injEq,true_and,and_true] at hj
  rw [hj]) trivial
def r161:List AV->Option PRes
 | [.str s]=>asr (decide (s.data.toList.length<100000)) ⟨Bo (Xk s),[]⟩
 | _=>none
noncomputable def kR7 (h:Hal):PC:=ins 103 r161 (ins 105 (mats h) (kR6 h))
theorem Zsc {h:Hal} (hf:h.few):PCOK Tryz.prog (kR7 h):=by
 refine Zk (fun a res h=>?_) (Zn (fun s _=>c128 hf s) (Yb8 hf))
 unfold r161 at h; split at h
 ·obtain ⟨h1,rfl⟩:=Zat h; exact c161 (of_decide_eq_true h1)
 ·cases h
def Zbx (h:Hal) (p:Pt):Bool:=(decide (0<p.z)&&decide (p.z<Qa Qb (h.ht*p.d)))&&Yj h p
theorem c52 {h:Hal} (hf:h.few) (hwc:h.ws.length=h.cs.length) (hz:h.nz) (p:Pt):PCall Tryz.prog 112 [h.av,p.av] ⟨Bo (Zbx h p),[]⟩:=by
 obtain ⟨px,py,pz,pd⟩:=p
 have hk:=Zf (c106 hf hwc hz ⟨px,py,pz,pd⟩) Zew
 refine pn hk Tryz.func112 ?_
 repeat'(first|refine wk0 ?_|(refine wk2 ?_ ?_<;>intro _)|fail)
 all_goals (clear hk hz)
 all_goals exact Za (by simp_all [Zbx]<;>omega)
def Zct (l:Ln):Int:=if decide (l.dx=0)&&decide (l.dy=0) then 11 else if (!decide (l.dx=0) && !decide (l.dy=0)) && !decide (size l.dx=size l.dy) then 15 else 0
def Zg3 (h:Hal) (i:Nat) (w:Wal):Int :=
 if Xk w.nm then (if (h.ws.take i).any (fun v=>v.nm==w.nm) then 5 else if (w.nm==Zaf)||(w.nm==Zd3) then 5 else if decide (Xd w.mt 0 h.ms<0)||(!(w.cu==⟨#[]⟩)&&decide (Xd w.cu 0 h.ms<0)) then 6 else Zct (lnOf h.cs i)) else 4
theorem c164 {h:Hal} (hf:h.few) (ht:h.texts) (hwc:h.ws.length=h.cs.length) {i:Nat} (hi:i<h.ws.length):PCall Tryz.prog 107 [h.av,I i] ⟨I (Zg3 h i h.ws[i]),[]⟩:=by
 have hk7:=Zsc hf
 have e3:=Vk h.ws
 have e1:=Zm9 hi
 have hs:=ht.ws _ (Qn hi)
 have hl:=hf.2.2.1
 generalize hw:h.ws[i]=w at *
 refine pn hk7 Tryz.func107 ?_
 repeat'(first|refine wk1 ?_|(refine wk2 ?_ ?_<;>intro _)|fail)
 ·exact Zc (by clear e1 e3 hk7; simp_all [Zg3])
 ·rename_i hb
  have hnm:Xk w.nm=true:=by simpa using hb
  refine Zm (S:=Nat × Int) (fun t=>i-t.1) (fun t=>[(2,.ptr 0 0 0),(1,I i),(5,.ptr 1 0 0),(6,I t.2)]) (fun _=>[(1,.row 3 [w.av] true false),(0,.row 9 [h.cells] true false)]) 2 2 (fun t=>t.2=t.1/\t.1<=i/\(h.ws.take t.1).any (fun v=>v.nm==w.nm)=false) (0,0) ⟨rfl,Qp _,rfl⟩ (Qd _) [] rfl (kps) (kps) ?_
  rintro ⟨k,k'⟩ ⟨hk,hk2,hh⟩
  dsimp only at hk hk2 hh ⊢
  subst hk
  refine bs.av (sx:=nos) hk7 ?_
  by_cases hlt:k<i
  ·have e4:=Zm9 (l:=h.ws) (k:=k) (by omega)
   have e5:h.ws.take (k+1)=h.ws.take k++[h.ws[k]'(by omega)]:=by rw [Qu]
   cases hb2:((h.ws[k]'(by omega)).nm==w.nm) with
   | true =>
    repeat'(first|refine wk1 ?_|(refine wk2 ?_ ?_<;>intro _)|fail)
    ·exact Zc (by
      have:(h.ws.take i).any (fun v=>v.nm==w.nm)=true:=by
       rw [Mb]
       exact ⟨h.ws[k]'(by omega),Le.2 ⟨k,by omega,rfl⟩,hb2⟩
      rw [Zg3,hnm,if_pos rfl,this,if_pos rfl])
    ·rename_i hx; rw [hb2] at hx; cases hx
   | false =>
    repeat'(first|refine wk1 ?_|(refine wk2 ?_ ?_<;>intro _)|fail)
    ·rename_i hx; rw [hb2] at hx; cases hx
    ·exact Qr ⟨(k+1,_),[],rfl,kps,kps,⟨Zb (by omega),hlt,by rw [e5,Lu,hh]; simp [hb2]⟩,by dsimp only; omega⟩
  ·have hki:k=i:=by omega
   subst hki
   have m1:=Zeg h w.mt
   have m2:=Zeg h w.cu
   have m3:=Ui (h:=h) (k:=k) (by omega)
   have e9:Zg3 h k w=if (w.nm==Zaf)||(w.nm==Zd3) then 5 else if decide (Xd w.mt 0 h.ms<0)||(!(w.cu==⟨#[]⟩)&&decide (Xd w.cu 0 h.ms<0)) then 6 else Zct (lnOf h.cs k):=by
    rw [Zg3,hnm,if_pos rfl,hh,if_neg (by simp)]
   rw [e9]
   generalize lnOf h.cs k=L at *
   obtain ⟨lx,ly,ldx,ldy⟩:=L
   repeat'(first|refine wk1 ?_|(refine wk2 ?_ ?_<;>intro _)|fail)
   all_goals (clear e9 m1 m2 m3 e1 e3 hk7 hh hs hw hb hi hk2 hlt hwc hf ht hl)
   all_goals exact Zc (by by_cases hx:ldx=0<;>by_cases hy:ldy=0<;>simp_all [Zct,Zaf,Zd3])
def plc (n:Int):Bool:=within n (-5000) 5000
def Zi7 (h:Hal) (i:Nat) (w:Sea):Int :=
 if Xk w.nm then (if (h.ss.take i).any (fun v=>v.nm==w.nm) then 5 else if plc w.x&&plc w.y&&plc w.z then (if Zbx h ⟨w.x,w.y,w.z,1⟩ then 0 else 24) else 2) else 4
theorem c167 {h:Hal} (hf:h.few) (ht:h.texts) (hwc:h.ws.length=h.cs.length) (hz:h.nz) {i:Nat} (hi:i<h.ss.length):PCall Tryz.prog 111 [h.av,I i] ⟨I (Zi7 h i h.ss[i]),[]⟩:=by
 have e3:=Zdk h.ss
 have e1:=Zrv hi
 have hs:=ht.ss _ (Qn hi)
 have hl:=hf.2.2.2.2.1
 generalize hw:h.ss[i]=w at *
 have hk7:=Zf (c52 hf hwc hz ⟨w.x,w.y,w.z,1⟩) (Zsc hf)
 refine pn hk7 Tryz.func111 ?_
 repeat'(first|refine wk1 ?_|(refine wk2 ?_ ?_<;>intro _)|fail)
 ·exact Zc (by clear e1 e3 hk7; simp_all [Zi7])
 ·rename_i hb
  have hnm:Xk w.nm=true:=by simpa using hb
  refine Zm (S:=Nat × Int) (fun t=>i-t.1) (fun t=>[(2,.ptr 0 0 0),(1,I i),(5,.ptr 1 0 0),(6,I t.2)]) (fun _=>[(1,.row 4 [w.av] true false),(0,.row 9 [h.cells] true false)]) 2 2 (fun t=>t.2=t.1/\t.1<=i/\(h.ss.take t.1).any (fun v=>v.nm==w.nm)=false) (0,0) ⟨rfl,Qp _,rfl⟩ (Qd _) [] rfl (kps) (kps) ?_
  rintro ⟨k,k'⟩ ⟨hk,hk2,hh⟩
  dsimp only at hk hk2 hh ⊢
  subst hk
  refine bs.av (sx:=nos) hk7 ?_
  by_cases hlt:k<i
  ·have e4:=Zrv (l:=h.ss) (k:=k) (by omega)
   have e5:h.ss.take (k+1)=h.ss.take k++[h.ss[k]'(by omega)]:=by rw [Qu]
   cases hb2:((h.ss[k]'(by omega)).nm==w.nm) with
   | true =>
    repeat'(first|refine wk1 ?_|(refine wk2 ?_ ?_<;>intro _)|fail)
    ·exact Zc (by
      have:(h.ss.take i).any (fun v=>v.nm==w.nm)=true:=by
       rw [Mb]
       exact ⟨h.ss[k]'(by omega),Le.2 ⟨k,by omega,rfl⟩,hb2⟩
      rw [Zi7,hnm,if_pos rfl,this,if_pos rfl])
    ·rename_i hx; rw [hb2] at hx; cases hx
   | false =>
    repeat'(first|refine wk1 ?_|(refine wk2 ?_ ?_<;>intro _)|fail)
    ·rename_i hx; rw [hb2] at hx; cases hx
    ·exact Qr ⟨(k+1,_),[],rfl,kps,kps,⟨Zb (by omega),hlt,by rw [e5,Lu,hh]; simp [hb2]⟩,by dsimp only; omega⟩
  ·have hki:k=i:=by omega
   subst hki
   have e9:Zi7 h k w=if plc w.x&&plc w.y&&plc w.z then (if Zbx h ⟨w.x,w.y,w.z,1⟩ then 0 else 24) else 2:=by
    rw [Zi7,hnm,if_pos rfl,hh,if_neg (by simp)]
   rw [e9]
   repeat'(first|refine wk1 ?_|(refine wk2 ?_ ?_<;>intro _)|fail)
   all_goals (clear e9 e1 e3 hk7 hh hs hw hb hi hk2 hlt hwc hf ht hl hz)
   all_goals exact Zc (by simp_all [plc])
def edges (c:Can):List Ln:=[Zkx c,Zkw c,Zkv c,Zku c]
def Va (h:Hal) (l:Ln):Bool:=(lns h.cs).any fun m=>l.touch m
def Xf (h:Hal):List Ln->Bool
 | []=>true
 | l::r=>if Yj h l.a then (if Va h l then false else Xf h r) else false
def Zdp (h:Hal) (c:Can):Bool:=Xf h (edges c) && !(h.cs.any fun p=>Zh9 c ⟨p.1,p.2,0,1⟩)
def Zic (h:Hal) (i:Nat) (c:Can):Int :=
 if Xk c.nm then (if (c.nm==Zaf)||(c.nm==Zd3) then 5 else if h.ws.any (fun v=>v.nm==c.nm) then 5 else if (h.ks.take i).any (fun v=>v.nm==c.nm) then 5 else
  if decide (Xd c.mt 0 h.ms<0) then 6 else if within c.hs.length 1 4 then (if Zdz h.ht none c.hs=0 then (if plc c.fx&&plc c.fy&&plc c.tx&&plc c.ty then (if decide (c.fx=c.tx)||decide (c.fy=c.ty) then 11 else if Zdp h c then 0 else 24) else 2) else Zdz h.ht none c.hs) else 10) else 4
noncomputable abbrev plans (h:Hal):List AV->Option PRes:=famA (fun _=>True) (fun p:Pt=>[h.av,p.av]) (fun p=>⟨Bo (Yj h p),[]⟩)
theorem Zfy (h:Hal) (p:Pt):plans h [h.av,p.av]=some ⟨Bo (Yj h p),[]⟩ :=
 Zl (g:=fun p:Pt=>[h.av,p.av]) (r:=fun p=>⟨Bo (Yj h p),[]⟩) (fun j hj=>by
  obtain ⟨a,b,u,d⟩:=j
  obtain ⟨a',b',u',d'⟩:=p
  simp_all [Pt.av]) trivial
noncomputable abbrev bnds (c:Can):List AV->Option PRes:=famA (fun _=>True) (fun p:Pt=>[.agg c.av,p.av]) (fun p=>⟨Bo (Zh9 c p),[]⟩)
theorem Yar (c:Can) (p:Pt):bnds c [.agg c.av,p.av]=some ⟨Bo (Zh9 c p),[]⟩ :=
 Zl (g:=fun p:Pt=>[.agg c.av,p.av]) (r:=fun p=>⟨Bo (Zh9 c p),[]⟩) (fun j hj=>by
  obtain ⟨a,b,u,d⟩:=j
  obtain ⟨a',b',u',d'⟩:=p
  simp_all [Pt.av]) trivial
noncomputable def kR8 (h:Hal) (c:Can):PC:=ins 84 (plans h) (ins 183 (bnds c) (kR7 h))
theorem Ygw {h:Hal} (hf:h.few) (hwc:h.ws.length=h.cs.length) (hz:h.nz) (c:Can):PCOK Tryz.prog (kR8 h c) :=
 Zn (fun p _=>c106 hf hwc hz p) (Zn (fun p _=>c191 c p) (Zsc hf))
theorem Zrq {a b:Int} (ha:within a (-5000) 5000=true) (hb:within b (-5000) 5000=true) (h:decide (a=b)=false):imax (size (Qa Qb (b-a))) (size 0)≠0/\imax (size (Qa Qb (0-Qa Qb (b-a)))) (size 0)≠0/\imax (size 0) (size (Qa Qb (b-a)))≠0/\imax (size 0) (size (Qa Qb (0-Qa Qb (b-a))))≠0:=by
 simp only [within,Qc,decide_eq_true_eq] at ha hb
 have h':=of_decide_eq_false h
 have w1:Qa Qb (b-a)=b-a:=W_eq (by omega) (by omega)
 have w2:Qa Qb (0-(b-a))=0-(b-a):=W_eq (by omega) (by omega)
 have w3:Qa Qb (0-(0-(b-a)))=0-(0-(b-a)):=W_eq (by omega) (by omega)
 have w4:Qa Qb (0-0)=0:=W_eq (by omega) (by omega)
 rw [w1,w2]
 simp only [size]
 rw [w2,w3,w4]
 simp only [imax,Bool.cond_decide]
 refine ⟨?_,?_,?_,?_⟩<;>(repeat' split)<;>omega
theorem c166 {h:Hal} (hf:h.few) (ht:h.texts) (hwc:h.ws.length=h.cs.length) (hz:h.nz) {i:Nat} (hi:i<h.ks.length):PCall Tryz.prog 110 [h.av,I i] ⟨I (Zic h i h.ks[i]),[]⟩:=by
 have e3:=Zbi h.ks
 have e1:=Zke hi
 have hs:=ht.ks _ (Qn hi)
 have hl:=hf.2.2.2.1
 have hlw:=hf.2.2.1
 have ew:=Vk h.ws
 generalize hw:h.ks[i]=c at *
 have hk7:=Zf (c200 c) (Ygw hf hwc hz c)
 refine pn hk7 Tryz.func110 ?_
 repeat'(first|refine wk1 ?_|(refine wk2 ?_ ?_<;>intro _)|fail)
 ·exact Zc (by clear e1 e3 hk7 hw; simp_all [Zic])
 ·exact Zc (by clear e1 e3 hk7 hw; simp_all [Zic,Zaf,Zd3])
 ·exact Zc (by clear e1 e3 hk7 hw; simp_all [Zic,Zaf,Zd3])
 rename_i hb1 hb2 hb3
 have r0:Zic h i c=if h.ws.any (fun v=>v.nm==c.nm) then 5 else if (h.ks.take i).any (fun v=>v.nm==c.nm) then 5 else
  if decide (Xd c.mt 0 h.ms<0) then 6 else if within c.hs.length 1 4 then (if Zdz h.ht none c.hs=0 then (if plc c.fx&&plc c.fy&&plc c.tx&&plc c.ty then (if decide (c.fx=c.tx)||decide (c.fy=c.ty) then 11 else if Zdp h c then 0 else 24) else 2) else Zdz h.ht none c.hs) else 10:=by
  have q1:Xk c.nm=true:=by simpa using hb1
  have q2:((c.nm==Zaf)||(c.nm==Zd3))=false:=by
   have q3:(c.nm==Zaf)=false:=by simpa [Zaf] using hb2
   have q4:(c.nm==Zd3)=false:=by simpa [Zd3] using hb3
   rw [q3,q4]; rfl
  rw [Zic,q1,if_pos rfl,q2,if_neg (by simp)]
 rw [r0]
 clear r0 hb1 hb2 hb3
 refine Zm (S:=Nat × Int) (fun t=>h.ws.length-t.1) (fun t=>[(2,.ptr 0 0 0),(1,I i),(5,.ptr 1 0 0),(6,I t.2)]) (fun _=>[(1,.row 7 [c.av] true false),(0,.row 9 [h.cells] true false)]) 2 2 (fun t=>t.2=t.1/\t.1<=h.ws.length/\(h.ws.take t.1).any (fun v=>v.nm==c.nm)=false) (0,0) ⟨rfl,Qp _,rfl⟩ (Qd _) [] rfl (kps) (kps) ?_
 rintro ⟨k,k'⟩ ⟨hk,hk2,hh⟩
 dsimp only at hk hk2 hh ⊢
 subst hk
 refine bs.av (sx:=nos) hk7 ?_
 by_cases hlt:k<h.ws.length
 ·have e4:=Zm9 (l:=h.ws) hlt
  have e5:h.ws.take (k+1)=h.ws.take k++[h.ws[k]]:=by rw [Qu]
  cases hb2:(h.ws[k].nm==c.nm) with
  | true =>
   repeat'(first|refine wk1 ?_|(refine wk2 ?_ ?_<;>intro _)|fail)
   ·exact Zc (by
     have:h.ws.any (fun v=>v.nm==c.nm)=true:=Mb.2 ⟨h.ws[k],Qn hlt,hb2⟩
     rw [this,if_pos rfl])
   ·rename_i hx; rw [hb2] at hx; cases hx
  | false =>
   repeat'(first|refine wk1 ?_|(refine wk2 ?_ ?_<;>intro _)|fail)
   ·rename_i hx; rw [hb2] at hx; cases hx
   ·exact Qr ⟨(k+1,_),[],rfl,kps,kps,⟨Zb (by omega),hlt,by rw [e5,Lu,hh]; simp [hb2]⟩,by dsimp only; omega⟩
 have r1:h.ws.any (fun v=>v.nm==c.nm)=false:=by rwa [List.take_of_length_le (by omega)] at hh
 rw [r1,if_neg (by simp)]
 repeat'(first|refine wk1 ?_|(refine wk2 ?_ ?_<;>intro _)|fail)
 clear r1 hh hlt hk2
 refine Zm (S:=Nat × Int) (fun t=>i-t.1) (fun t=>[(2,.ptr 0 0 0),(1,I i),(5,.ptr 1 0 0),(7,I t.2)]) (fun _=>[(1,.row 7 [c.av] true false),(0,.row 9 [h.cells] true false)]) 2 2 (fun t=>t.2=t.1/\t.1<=i/\(h.ks.take t.1).any (fun v=>v.nm==c.nm)=false) (0,0) ⟨rfl,Qp _,rfl⟩ (Qd _) [] rfl (kps) (kps) ?_
 rintro ⟨q,q'⟩ ⟨hk,hk2,hh⟩
 dsimp only at hk hk2 hh ⊢
 subst hk
 refine bs.av (sx:=nos) hk7 ?_
 by_cases hlt:q<i
 ·have e4:=Zke (l:=h.ks) (k:=q) (by omega)
  have e5:h.ks.take (q+1)=h.ks.take q++[h.ks[q]'(by omega)]:=by rw [Qu]
  cases hb2:((h.ks[q]'(by omega)).nm==c.nm) with
  | true =>
   repeat'(first|refine wk1 ?_|(refine wk2 ?_ ?_<;>intro _)|fail)
   ·exact Zc (by
     have:(h.ks.take i).any (fun v=>v.nm==c.nm)=true:=by
      rw [Mb]
      exact ⟨h.ks[q]'(by omega),Le.2 ⟨q,by omega,rfl⟩,hb2⟩
     rw [this,if_pos rfl])
   ·rename_i hx; rw [hb2] at hx; cases hx
  | false =>
   repeat'(first|refine wk1 ?_|(refine wk2 ?_ ?_<;>intro _)|fail)
   ·rename_i hx; rw [hb2] at hx; cases hx
   ·exact Qr ⟨(q+1,_),[],rfl,kps,kps,⟨Zb (by omega),hlt,by rw [e5,Lu,hh]; simp [hb2]⟩,by dsimp only; omega⟩
 have hki:q=i:=by omega
 subst hki
 rw [hh,if_neg (by simp)]
 clear hlt hk2 hh
 have m1:=Zeg h c.mt
 have e7:=Zp c.hs
 have hlc:c.hs.length<1000:=by have:=hf.2.2.2.2.2 _ (Qn hi); rwa [hw] at this
 repeat'(first|refine wk1 ?_|(refine wk2 ?_ ?_<;>intro _)|fail)
 ·rename_i hx; exact Zc (by rw [hx,if_pos rfl])
 ·rename_i hx hy
  exact Zc (by
   rw [hx,if_neg (by simp)]
   have:within c.hs.length 1 4=false:=by rw [<-e7]; simpa using hy
   rw [this,if_neg (by simp)])
 rename_i hx hy
 have r2:within c.hs.length 1 4=true:=by rw [<-e7]; simpa using hy
 rw [hx,if_neg (by simp),r2,if_pos rfl]
 clear hx hy r2 m1
 refine Zm (S:=Nat × Int) (fun t=>c.hs.length-t.1) (fun t=>[(2,.ptr 0 0 0),(1,I q),(5,.ptr 1 0 0),(8,I t.2)]) (fun _=>[(1,.row 7 [c.av] true false),(0,.row 9 [h.cells] true false)]) 2 2
  (fun t=>t.2=t.1/\t.1<=c.hs.length/\Zdz h.ht (Yt c.hs t.1) (c.hs.drop t.1)=Zdz h.ht none c.hs) (0,0) ⟨rfl,Qp _,rfl⟩ (Qd _) [] rfl (kps) (kps) ?_
 rintro ⟨j,j'⟩ ⟨hj,hj2,hh⟩
 dsimp only at hj hj2 hh ⊢
 subst hj
 refine bs.av (sx:=nos) hk7 ?_
 by_cases hlt:j<c.hs.length
 ·have e8:=Zal hlt
  rw [Ql hlt,Zlj] at hh
  have e4:Qa Qb ((j:Int)-1)=(j:Int)-1:=W_eq (by omega) (by omega)
  have hh:=hh.symm
  cases j with
  | zero =>
   repeat'(first|refine wk1 ?_|(refine wk2 ?_ ?_<;>intro _)|fail)
   all_goals (clear hk7 e1 e8 hw)
   ·exact Zc (by rw [hh]; simp_all [Yt])
   ·exact Qr ⟨(1,_),[],rfl,kps,kps,⟨by exact Zb (k:=0) (by omega),hlt,by rw [hh]; simp_all [Yt]⟩,by dsimp only; omega⟩
  | succ j =>
   have e5:(nl c.hs)[(Qa Qb (((j+1:Nat):Int)-1)).toNat]?=some [I c.hs[j]]:=by
    rw [e4,show ((j+1:Nat):Int)-1=(j:Int) by omega]; exact Zal (by omega)
   have e6:Yt c.hs (j+1)=some c.hs[j]:=by simp [Yt,show j<c.hs.length by omega]
   rw [e6] at hh
   repeat'(first|refine wk1 ?_|(refine wk2 ?_ ?_<;>intro _)|fail)
   all_goals (clear e8 e5 hk7 e1 hw)
   ·exact Zc (by rw [hh]; clear hh; simp_all)
   ·exact Zc (by rw [hh]; clear hh; simp_all)
   ·exact Qr ⟨(j+2,_),[],rfl,kps,kps,⟨by exact Zb (k:=j+1) (by omega),hlt,by rw [hh,if_pos (by clear hh; simp_all),if_neg (by clear hh; simp_all)]; simp [Yt,hlt]⟩,by dsimp only; omega⟩
 rw [Qo (by omega)] at hh
 have r3:Zdz h.ht none c.hs=0:=by rw [<-hh]; cases Yt c.hs j<;>rfl
 rw [r3,if_pos rfl]
 clear hh r3
 repeat'(first|refine wk1 ?_|(refine wk2 ?_ ?_<;>intro _)|fail)
 ·exact Zc (by simp_all [plc])
 ·exact Zc (by simp_all [plc])
 ·exact Zc (by simp_all [plc])
 ·exact Zc (by simp_all [plc])
 ·exact Zc (by simp_all [plc])
 ·exact Zc (by simp_all [plc])
 rename_i g6 g5 g4 g3 g2 g1
 simp only [cond_false,Bool.not_eq_false'] at g1 g2 g3 g4 g5 g6
 have r4:(if plc c.fx&&plc c.fy&&plc c.tx&&plc c.ty then (if decide (c.fx=c.tx)||decide (c.fy=c.ty) then 11 else if Zdp h c then 0 else 24) else 2)=if Zdp h c then (0:Int) else 24:=by
  simp [plc, *]
 rw [r4]
 clear r4 hlt hj2 hlc e7
 have hn1:(Zkx c).n≠0:=(Zrq g6 g4 g2).1
 have hn3:(Zkv c).n≠0:=(Zrq g6 g4 g2).2.1
 have hn2:(Zkw c).n≠0:=(Zrq g5 g3 g1).2.2.1
 have hn4:(Zku c).n≠0:=(Zrq g5 g3 g1).2.2.2
 have ew2:(h.ws.map Wu).length=h.cs.length:=by rw [ew,hwc]
 have hlc:=hf.2.1
 clear g1 g2 g3 g4 g5 g6
 have r5:Zdp h c=(Xf h [Zkx c,Zkw c,Zkv c,Zku c] && !(h.cs.any fun p=>Zh9 c ⟨p.1,p.2,0,1⟩)):=rfl
 generalize Zkx c=L1 at *
 generalize Zkw c=L2 at *
 generalize Zkv c=L3 at *
 generalize Zku c=L4 at *
 obtain ⟨x1,y1,u1,v1⟩:=L1
 obtain ⟨x2,y2,u2,v2⟩:=L2
 obtain ⟨x3,y3,u3,v3⟩:=L3
 obtain ⟨x4,y4,u4,v4⟩:=L4
 rw [r5]
 clear r5
 generalize hTL:(!(h.cs.any fun p=>Zh9 c ⟨p.1,p.2,0,1⟩))=TL
 generalize hB:(Xf h [⟨x1,y1,u1,v1⟩,⟨x2,y2,u2,v2⟩,⟨x3,y3,u3,v3⟩,⟨x4,y4,u4,v4⟩]&&TL)=B
 refine Zm (S:=Nat × Int) (fun t=>4-t.1) (fun t=>[(2,.ptr 0 0 0),(1,I q),(5,.ptr 1 0 0),(9,.ptr 2 0 0),(10,I t.2)]) (fun _=>[(2,.row 16 [[I x1,I y1,I u1,I v1,I x2,I y2,I u2,I v2,I x3,I y3,I u3,I v3,I x4,I y4,I u4,I v4]] true false),(1,.row 7 [c.av] true false),(0,.row 9 [h.cells] true false)]) 3 3
  (fun t=>t.2=t.1/\t.1<=4/\(Xf h ([(Ln.mk x1 y1 u1 v1),(Ln.mk x2 y2 u2 v2),(Ln.mk x3 y3 u3 v3),(Ln.mk x4 y4 u4 v4)].drop t.1)&&TL)=B) (0,0) ⟨rfl,Qp _,hB⟩ (Qd _) [] rfl (kps) (kps) ?_
 clear hB
 rintro ⟨m,m'⟩ ⟨hm,hm2,hh⟩
 dsimp only at hm hm2 hh ⊢
 subst hm
 refine bs.av (sx:=nos) hk7 ?_
 have p1:=Zfy h (Ln.mk x1 y1 u1 v1).a
 have p2:=Zfy h (Ln.mk x2 y2 u2 v2).a
 have p3:=Zfy h (Ln.mk x3 y3 u3 v3).a
 have p4:=Zfy h (Ln.mk x4 y4 u4 v4).a
 by_cases h4:m<4
 rcases m with _|_|_|_|m
 ·have q1:(if Yj h (Ln.mk x1 y1 u1 v1).a then (if Va h (Ln.mk x1 y1 u1 v1) then false else Xf h [(Ln.mk x2 y2 u2 v2),(Ln.mk x3 y3 u3 v3),(Ln.mk x4 y4 u4 v4)]) else false:Bool)=Xf h ([(Ln.mk x1 y1 u1 v1),(Ln.mk x2 y2 u2 v2),(Ln.mk x3 y3 u3 v3),(Ln.mk x4 y4 u4 v4)].drop 0):=rfl
  rw [<-q1] at hh
  clear q1
  generalize hT:Xf h [(Ln.mk x2 y2 u2 v2),(Ln.mk x3 y3 u3 v3),(Ln.mk x4 y4 u4 v4)]=T at hh
  repeat'(first|refine wk1 ?_|(refine wk2 ?_ ?_<;>intro _)|fail)
  ·rename_i hx; exact Zc (by rw [<-hh,show Yj h (Ln.mk x1 y1 u1 v1).a=false by simpa using hx]; rfl)
  rename_i hx
  have h3:(!(((lns h.cs).drop 0).any fun m=>(Ln.mk x1 y1 u1 v1).touch m)&&(T&&TL))=B:=by
   rw [<-hh,show Yj h (Ln.mk x1 y1 u1 v1).a=true by simpa using hx,if_pos rfl]
   cases hA:((lns h.cs).any fun m=>(Ln.mk x1 y1 u1 v1).touch m)<;>simp [Va,hA]
  clear hh hx
  refine Zm (S:=Nat × Int) (fun t=>h.cs.length-t.1) (fun t=>[(2,.ptr 0 0 0),(1,I q),(5,.ptr 1 0 0),(9,.ptr 2 0 0),(10,I 0),(13,I t.2)]) (fun _=>[(2,.row 16 [[I x1,I y1,I u1,I v1,I x2,I y2,I u2,I v2,I x3,I y3,I u3,I v3,I x4,I y4,I u4,I v4]] true false),(1,.row 7 [c.av] true false),(0,.row 9 [h.cells] true false)]) 5 5 (fun t=>t.2=t.1/\t.1<=h.cs.length/\(!(((lns h.cs).drop t.1).any fun m=>(Ln.mk x1 y1 u1 v1).touch m)&&(T&&TL))=B) (0,0) ⟨rfl,Qp _,h3⟩ (Qd _) [] rfl (kps) (kps) ?_
  clear h3
  rintro ⟨r,r'⟩ ⟨hr,hr2,h3⟩
  dsimp only at hr hr2 h3 ⊢
  subst hr
  refine bs.av (sx:=nos) hk7 ?_
  by_cases hlt:r<h.cs.length
  ·rw [Zf7 hlt,Lm] at h3
   have e2:=Ui (h:=h) hlt
   have hn5:=hz r hlt
   generalize lnOf h.cs r=M at *
   obtain ⟨mx,my,mdx,mdy⟩:=M
   have hn6:(Ln.mk x1 y1 u1 v1).n≠0/\(Ln.mk mx my mdx mdy).n≠0:=⟨hn1,hn5⟩
   repeat'(first|refine wk1 ?_|(refine wk2 ?_ ?_<;>intro _)|fail)
   ·rename_i hx; exact Zc (by rw [<-h3,hx]; rfl)
   ·rename_i hx; exact Qr ⟨(r+1,_),[],rfl,kps,kps,⟨Zb (by omega),hlt,by rw [<-h3,hx]; rfl⟩,by dsimp only; omega⟩
  ·rw [Qo (by rw [Zax]; omega)] at h3
   repeat'(first|refine wk1 ?_|(refine wk2 ?_ ?_<;>intro _)|fail)
   exact Qr ⟨(1,_),[],rfl,kps,kps,⟨Zb (k:=0) (by omega),by omega,by rw [<-h3,<-hT]; rfl⟩,by dsimp only; omega⟩
 ·have q1:(if Yj h (Ln.mk x2 y2 u2 v2).a then (if Va h (Ln.mk x2 y2 u2 v2) then false else Xf h [(Ln.mk x3 y3 u3 v3),(Ln.mk x4 y4 u4 v4)]) else false:Bool)=Xf h ([(Ln.mk x1 y1 u1 v1),(Ln.mk x2 y2 u2 v2),(Ln.mk x3 y3 u3 v3),(Ln.mk x4 y4 u4 v4)].drop 1):=rfl
  rw [<-q1] at hh
  clear q1
  generalize hT:Xf h [(Ln.mk x3 y3 u3 v3),(Ln.mk x4 y4 u4 v4)]=T at hh
  repeat'(first|refine wk1 ?_|(refine wk2 ?_ ?_<;>intro _)|fail)
  ·rename_i hx; exact Zc (by rw [<-hh,show Yj h (Ln.mk x2 y2 u2 v2).a=false by simpa using hx]; rfl)
  rename_i hx
  have h3:(!(((lns h.cs).drop 0).any fun m=>(Ln.mk x2 y2 u2 v2).touch m)&&(T&&TL))=B:=by
   rw [<-hh,show Yj h (Ln.mk x2 y2 u2 v2).a=true by simpa using hx,if_pos rfl]
   cases hA:((lns h.cs).any fun m=>(Ln.mk x2 y2 u2 v2).touch m)<;>simp [Va,hA]
  clear hh hx
  refine Zm (S:=Nat × Int) (fun t=>h.cs.length-t.1) (fun t=>[(2,.ptr 0 0 0),(1,I q),(5,.ptr 1 0 0),(9,.ptr 2 0 0),(10,I 1),(13,I t.2)]) (fun _=>[(2,.row 16 [[I x1,I y1,I u1,I v1,I x2,I y2,I u2,I v2,I x3,I y3,I u3,I v3,I x4,I y4,I u4,I v4]] true false),(1,.row 7 [c.av] true false),(0,.row 9 [h.cells] true false)]) 5 5 (fun t=>t.2=t.1/\t.1<=h.cs.length/\(!(((lns h.cs).drop t.1).any fun m=>(Ln.mk x2 y2 u2 v2).touch m)&&(T&&TL))=B) (0,0) ⟨rfl,Qp _,h3⟩ (Qd _) [] rfl (kps) (kps) ?_
  clear h3
  rintro ⟨r,r'⟩ ⟨hr,hr2,h3⟩
  dsimp only at hr hr2 h3 ⊢
  subst hr
  refine bs.av (sx:=nos) hk7 ?_
  by_cases hlt:r<h.cs.length
  ·rw [Zf7 hlt,Lm] at h3
   have e2:=Ui (h:=h) hlt
   have hn5:=hz r hlt
   generalize lnOf h.cs r=M at *
   obtain ⟨mx,my,mdx,mdy⟩:=M
   have hn6:(Ln.mk x2 y2 u2 v2).n≠0/\(Ln.mk mx my mdx mdy).n≠0:=⟨hn2,hn5⟩
   repeat'(first|refine wk1 ?_|(refine wk2 ?_ ?_<;>intro _)|fail)
   ·rename_i hx; exact Zc (by rw [<-h3,hx]; rfl)
   ·rename_i hx; exact Qr ⟨(r+1,_),[],rfl,kps,kps,⟨Zb (by omega),hlt,by rw [<-h3,hx]; rfl⟩,by dsimp only; omega⟩
  ·rw [Qo (by rw [Zax]; omega)] at h3
   repeat'(first|refine wk1 ?_|(refine wk2 ?_ ?_<;>intro _)|fail)
   exact Qr ⟨(2,_),[],rfl,kps,kps,⟨Zb (k:=1) (by omega),by omega,by rw [<-h3,<-hT]; rfl⟩,by dsimp only; omega⟩
 ·have q1:(if Yj h (Ln.mk x3 y3 u3 v3).a then (if Va h (Ln.mk x3 y3 u3 v3) then false else Xf h [(Ln.mk x4 y4 u4 v4)]) else false:Bool)=Xf h ([(Ln.mk x1 y1 u1 v1),(Ln.mk x2 y2 u2 v2),(Ln.mk x3 y3 u3 v3),(Ln.mk x4 y4 u4 v4)].drop 2):=rfl
  rw [<-q1] at hh
  clear q1
  generalize hT:Xf h [(Ln.mk x4 y4 u4 v4)]=T at hh
  repeat'(first|refine wk1 ?_|(refine wk2 ?_ ?_<;>intro _)|fail)
  ·rename_i hx; exact Zc (by rw [<-hh,show Yj h (Ln.mk x3 y3 u3 v3).a=false by simpa using hx]; rfl)
  rename_i hx
  have h3:(!(((lns h.cs).drop 0).any fun m=>(Ln.mk x3 y3 u3 v3).touch m)&&(T&&TL))=B:=by
   rw [<-hh,show Yj h (Ln.mk x3 y3 u3 v3).a=true by simpa using hx,if_pos rfl]
   cases hA:((lns h.cs).any fun m=>(Ln.mk x3 y3 u3 v3).touch m)<;>simp [Va,hA]
  clear hh hx
  refine Zm (S:=Nat × Int) (fun t=>h.cs.length-t.1) (fun t=>[(2,.ptr 0 0 0),(1,I q),(5,.ptr 1 0 0),(9,.ptr 2 0 0),(10,I 2),(13,I t.2)]) (fun _=>[(2,.row 16 [[I x1,I y1,I u1,I v1,I x2,I y2,I u2,I v2,I x3,I y3,I u3,I v3,I x4,I y4,I u4,I v4]] true false),(1,.row 7 [c.av] true false),(0,.row 9 [h.cells] true false)]) 5 5 (fun t=>t.2=t.1/\t.1<=h.cs.length/\(!(((lns h.cs).drop t.1).any fun m=>(Ln.mk x3 y3 u3 v3).touch m)&&(T&&TL))=B) (0,0) ⟨rfl,Qp _,h3⟩ (Qd _) [] rfl (kps) (kps) ?_
  clear h3
  rintro ⟨r,r'⟩ ⟨hr,hr2,h3⟩
  dsimp only at hr hr2 h3 ⊢
  subst hr
  refine bs.av (sx:=nos) hk7 ?_
  by_cases hlt:r<h.cs.length
  ·rw [Zf7 hlt,Lm] at h3
   have e2:=Ui (h:=h) hlt
   have hn5:=hz r hlt
   generalize lnOf h.cs r=M at *
   obtain ⟨mx,my,mdx,mdy⟩:=M
   have hn6:(Ln.mk x3 y3 u3 v3).n≠0/\(Ln.mk mx my mdx mdy).n≠0:=⟨hn3,hn5⟩
   repeat'(first|refine wk1 ?_|(refine wk2 ?_ ?_<;>intro _)|fail)
   ·rename_i hx; exact Zc (by rw [<-h3,hx]; rfl)
   ·rename_i hx; exact Qr ⟨(r+1,_),[],rfl,kps,kps,⟨Zb (by omega),hlt,by rw [<-h3,hx]; rfl⟩,by dsimp only; omega⟩
  ·rw [Qo (by rw [Zax]; omega)] at h3
   repeat'(first|refine wk1 ?_|(refine wk2 ?_ ?_<;>intro _)|fail)
   exact Qr ⟨(3,_),[],rfl,kps,kps,⟨Zb (k:=2) (by omega),by omega,by rw [<-h3,<-hT]; rfl⟩,by dsimp only; omega⟩
 ·have q1:(if Yj h (Ln.mk x4 y4 u4 v4).a then (if Va h (Ln.mk x4 y4 u4 v4) then false else Xf h []) else false:Bool)=Xf h ([(Ln.mk x1 y1 u1 v1),(Ln.mk x2 y2 u2 v2),(Ln.mk x3 y3 u3 v3),(Ln.mk x4 y4 u4 v4)].drop 3):=rfl
  rw [<-q1] at hh
  clear q1
  generalize hT:Xf h []=T at hh
  repeat'(first|refine wk1 ?_|(refine wk2 ?_ ?_<;>intro _)|fail)
  ·rename_i hx; exact Zc (by rw [<-hh,show Yj h (Ln.mk x4 y4 u4 v4).a=false by simpa using hx]; rfl)
  rename_i hx
  have h3:(!(((lns h.cs).drop 0).any fun m=>(Ln.mk x4 y4 u4 v4).touch m)&&(T&&TL))=B:=by
   rw [<-hh,show Yj h (Ln.mk x4 y4 u4 v4).a=true by simpa using hx,if_pos rfl]
   cases hA:((lns h.cs).any fun m=>(Ln.mk x4 y4 u4 v4).touch m)<;>simp [Va,hA]
  clear hh hx
  refine Zm (S:=Nat × Int) (fun t=>h.cs.length-t.1) (fun t=>[(2,.ptr 0 0 0),(1,I q),(5,.ptr 1 0 0),(9,.ptr 2 0 0),(10,I 3),(13,I t.2)]) (fun _=>[(2,.row 16 [[I x1,I y1,I u1,I v1,I x2,I y2,I u2,I v2,I x3,I y3,I u3,I v3,I x4,I y4,I u4,I v4]] true false),(1,.row 7 [c.av] true false),(0,.row 9 [h.cells] true false)]) 5 5 (fun t=>t.2=t.1/\t.1<=h.cs.length/\(!(((lns h.cs).drop t.1).any fun m=>(Ln.mk x4 y4 u4 v4).touch m)&&(T&&TL))=B) (0,0) ⟨rfl,Qp _,h3⟩ (Qd _) [] rfl (kps) (kps) ?_
  clear h3
  rintro ⟨r,r'⟩ ⟨hr,hr2,h3⟩
  dsimp only at hr hr2 h3 ⊢
  subst hr
  refine bs.av (sx:=nos) hk7 ?_
  by_cases hlt:r<h.cs.length
  ·rw [Zf7 hlt,Lm] at h3
   have e2:=Ui (h:=h) hlt
   have hn5:=hz r hlt
   generalize lnOf h.cs r=M at *
   obtain ⟨mx,my,mdx,mdy⟩:=M
   have hn6:(Ln.mk x4 y4 u4 v4).n≠0/\(Ln.mk mx my mdx mdy).n≠0:=⟨hn4,hn5⟩
   repeat'(first|refine wk1 ?_|(refine wk2 ?_ ?_<;>intro _)|fail)
   ·rename_i hx; exact Zc (by rw [<-h3,hx]; rfl)
   ·rename_i hx; exact Qr ⟨(r+1,_),[],rfl,kps,kps,⟨Zb (by omega),hlt,by rw [<-h3,hx]; rfl⟩,by dsimp only; omega⟩
  ·rw [Qo (by rw [Zax]; omega)] at h3
   repeat'(first|refine wk1 ?_|(refine wk2 ?_ ?_<;>intro _)|fail)
   exact Qr ⟨(4,_),[],rfl,kps,kps,⟨Zb (k:=3) (by omega),by omega,by rw [<-h3,<-hT]; rfl⟩,by dsimp only; omega⟩
 ·omega
 have hm4:m=4:=by omega
 have hh:TL=B:=by rw [<-hh,hm4]; rfl
 repeat'(first|refine wk1 ?_|(refine wk2 ?_ ?_<;>intro _)|fail)
 subst hTL
 clear h4 hm2 hm4 p1 p2 p3 p4
 refine Zm (S:=Nat × Int) (fun t=>h.cs.length-t.1) (fun t=>[(2,.ptr 0 0 0),(5,.ptr 1 0 0),(14,I t.2)]) (fun _=>[(1,.row 7 [c.av] true false),(0,.row 9 [h.cells] true false)]) 3 3 (fun t=>t.2=t.1/\t.1<=h.cs.length/\(!((h.cs.drop t.1).any fun p=>Zh9 c ⟨p.1,p.2,0,1⟩))=B) (0,0) ⟨rfl,Qp _,hh⟩ (Qd _) [] rfl (kps) (kps) ?_
 clear hh
 rintro ⟨r,r'⟩ ⟨hr,hr2,h3⟩
 dsimp only at hr hr2 h3 ⊢
 subst hr
 refine bs.av (sx:=nos) hk7 ?_
 have e8:(h.cs.map pt).length=h.cs.length:=by simp
 by_cases hlt:r<h.cs.length
 ·rw [Ql hlt,Lm] at h3
  have e4:=Zc8 hlt
  have e9:cor h.cs r=h.cs[r]:=by simp [cor,hlt]
  have b1:=Yar c ⟨(cor h.cs r).1,(cor h.cs r).2,0,1⟩
  rw [<-e9] at h3
  clear e9
  repeat'(first|refine wk1 ?_|(refine wk2 ?_ ?_<;>intro _)|fail)
  ·rename_i hx; exact Zc (by rw [<-h3,hx]; rfl)
  ·rename_i hx; exact Qr ⟨(r+1,_),[],rfl,kps,kps,⟨Zb (by omega),hlt,by rw [<-h3,hx]; rfl⟩,by dsimp only; omega⟩
 ·rw [Qo (by omega)] at h3
  repeat'(first|refine wk1 ?_|(refine wk2 ?_ ?_<;>intro _)|fail)
  exact Zc (by rw [<-h3]; rfl)
theorem Yy {a b A B:Int} (ha : -A<=a/\a<=A) (hb : -B<=b/\b<=B) : -(A*B)<=a*b/\a*b<=A*B:=by
 have h1:a.natAbs<=A.natAbs:=by omega
 have h2:b.natAbs<=B.natAbs:=by omega
 have h3:=Nat.mul_le_mul h1 h2
 rw [<-Jx,<-Jx] at h3
 have h4:0<=A*B:=Int.mul_nonneg (by omega) (by omega)
 omega
theorem Yda {n v:Int} (hn:0<n):sgn (n*v)=sgn v:=by
 unfold sgn
 rcases Int.lt_trichotomy v 0 with h|h|h
 ·have:=Int.mul_neg_of_pos_of_neg hn h
  rw [if_neg (by omega),if_pos this,if_neg (by omega),if_pos h]
 ·subst h; simp
 ·have:=Qv hn h
  rw [if_pos this,if_pos h]
theorem Vv {v:Int}:sgn v<0↔v<0:=by unfold sgn; split<;>(try split)<;>omega
theorem Vu {v:Int}:0<sgn v↔0<v:=by unfold sgn; split<;>(try split)<;>omega
theorem Zht {v:Int}:sgn v=0↔v=0:=by unfold sgn; split<;>(try split)<;>omega
theorem Ybj (v:Int) : -1<=sgn v/\sgn v<=1:=by unfold sgn; split<;>(try split)<;>omega
structure Str (w:Wl) (n sx sy:Int):Prop where
 hn:0<n
 hx:sx=0\/sx=1\/sx = -1
 hy:sy=0\/sy=1\/sy = -1
 hxy:¬(sx=0/\sy=0)
 tx:w.tx=w.fx+n*sx
 ty:w.ty=w.fy+n*sy
 b1 : -5000<=w.fx/\w.fx<=5000
 b2 : -5000<=w.fy/\w.fy<=5000
 b3 : -5000<=w.tx/\w.tx<=5000
 b4 : -5000<=w.ty/\w.ty<=5000
theorem Str.nle {w:Wl} {n sx sy:Int} (h:Str w n sx sy):n<=10000:=by
 obtain ⟨hn,hx,hy,hxy,tx,ty,b1,b2,b3,b4⟩:=h
 rcases hx with rfl|rfl|rfl<;>rcases hy with rfl|rfl|rfl<;>simp at * <;> omega
theorem Str.dx {w:Wl} {n sx sy:Int} (h:Str w n sx sy):w.dx=n*sx:=by
 obtain ⟨hn,hx,hy,hxy,tx,ty,b1,b2,b3,b4⟩:=h
 unfold Wl.dx
 rw [W_eq (by omega) (by omega)]; omega
theorem Str.dy {w:Wl} {n sx sy:Int} (h:Str w n sx sy):w.dy=n*sy:=by
 obtain ⟨hn,hx,hy,hxy,tx,ty,b1,b2,b3,b4⟩:=h
 unfold Wl.dy
 rw [W_eq (by omega) (by omega)]; omega
def Wl.ln (w:Wl):Ln:=⟨w.fx,w.fy,Qa Qb (w.tx-w.fx),Qa Qb (w.ty-w.fy)⟩
theorem Zfg (cs:List (Int × Int)) (i:Nat):lnOf cs i=(wlOf cs i).ln:=rfl
theorem Zl9 {n:Int} (h : -9000000000000000000<=n/\n<=9000000000000000000):size n=if n<0 then -n else n:=by
 unfold size imax
 rw [W_eq (by omega) (by omega)]
 split
 ·rw [decide_eq_true (by omega)]; simp
 ·by_cases h0:n=0
  ·subst h0; rfl
  ·rw [decide_eq_false (by omega)]; rfl
theorem Str.ln {w:Wl} {n sx sy:Int} (h:Str w n sx sy):w.ln.dx=n*sx/\w.ln.dy=n*sy/\w.ln.n=n/\w.ln.sx=sx/\w.ln.sy=sy:=by
 have h1:w.ln.dx=n*sx:=h.dx
 have h2:w.ln.dy=n*sy:=h.dy
 have hle:=h.nle
 have hn:=h.hn
 have h3:w.ln.n=n:=by
  unfold Ln.n
  rw [h1,h2]
  have hxy:=h.hxy
  have s0:size 0=0:=by rw [Zl9 (by omega)]; rfl
  have s1:size n=n:=by rw [Zl9 (by omega),if_neg (by omega)]
  have s2:size (-n)=n:=by rw [Zl9 (by omega),if_pos (by omega)]; omega
  have i1:imax n n=n:=by unfold imax; rw [decide_eq_false (by omega)]; rfl
  have i2:imax n 0=n:=by unfold imax; rw [decide_eq_false (by omega)]; rfl
  have i3:imax 0 n=n:=by unfold imax; rw [decide_eq_true (by omega)]; rfl
  rcases h.hx with rfl|rfl|rfl<;>rcases h.hy with rfl|rfl|rfl<;>(try (exact absurd ⟨rfl,rfl⟩ hxy))<;>simp only [Sb,Rw,Rp,s0,s1,s2,i1,i2,i3]
 refine ⟨h1,h2,h3,?_,?_⟩
 ·unfold Ln.sx
  rw [h1,h3,Ma _ (by omega)]
  rcases h.hx with rfl|rfl|rfl<;>rfl
 ·unfold Ln.sy
  rw [h2,h3,Ma _ (by omega)]
  rcases h.hy with rfl|rfl|rfl<;>rfl
structure PtOk (x y d:Int):Prop where
 hd:0<d
 hD:d<=20000000000
 hx : -200000000000000<=x/\x<=200000000000000
 hy : -200000000000000<=y/\y<=200000000000000
def bes (w:Wl) (sx sy x y d:Int):Int:=sx*(y-w.fy*d)-sy*(x-w.fx*d)
def alo (w:Wl) (sx sy x y d:Int):Int:=sx*(x-w.fx*d)+sy*(y-w.fy*d)
theorem Uw {f d:Int} (hf : -5000<=f/\f<=5000) (hd:0<d) : -(5000*d)<=f*d/\f*d<=5000*d:=Yy hf (by omega)
theorem Zbk {w:Wl} {n sx sy x y d z:Int} (h:Str w n sx sy) (hp:PtOk x y d):w.ln.beside ⟨x,y,z,d⟩=bes w sx sy x y d:=by
 obtain ⟨_,_,_,h4,h5⟩:=h.ln
 unfold Ln.beside bes
 rw [h4,h5]
 show IntKind.i64.wrap (Qa Qb (sx*Qa Qb (y-Qa Qb (w.fy*d)))-Qa Qb (sy*Qa Qb (x-Qa Qb (w.fx*d))))=_
 have a1:=Uw h.b1 hp.hd
 have a2:=Uw h.b2 hp.hd
 have a3:=hp.hD
 have a4:=hp.hx
 have a5:=hp.hy
 have a6:=hp.hd
 generalize w.fx*d=A at *
 generalize w.fy*d=C at *
 rw [W_eq (n:=C) (by omega) (by omega),W_eq (n:=A) (by omega) (by omega),W_eq (n:=y-C) (by omega) (by omega),W_eq (n:=x-A) (by omega) (by omega)]
 have hx:=h.hx
 have hy:=h.hy
 rcases hx with rfl|rfl|rfl<;>rcases hy with rfl|rfl|rfl<;>simp only [Sq,Sj,Tq]<;>simp only [Ww]<;>omega
theorem Ztf {w:Wl} {n sx sy x y d z:Int} (h:Str w n sx sy) (hp:PtOk x y d):w.ln.along ⟨x,y,z,d⟩=alo w sx sy x y d:=by
 obtain ⟨_,_,_,h4,h5⟩:=h.ln
 unfold Ln.along alo
 rw [h4,h5]
 show IntKind.i64.wrap (Qa Qb (sx*Qa Qb (x-Qa Qb (w.fx*d)))+Qa Qb (sy*Qa Qb (y-Qa Qb (w.fy*d))))=_
 have a1:=Uw h.b1 hp.hd
 have a2:=Uw h.b2 hp.hd
 have a3:=hp.hD
 have a4:=hp.hx
 have a5:=hp.hy
 have a6:=hp.hd
 generalize w.fx*d=A at *
 generalize w.fy*d=C at *
 rw [W_eq (n:=C) (by omega) (by omega),W_eq (n:=A) (by omega) (by omega),W_eq (n:=y-C) (by omega) (by omega),W_eq (n:=x-A) (by omega) (by omega)]
 have hx:=h.hx
 have hy:=h.hy
 rcases hx with rfl|rfl|rfl<;>rcases hy with rfl|rfl|rfl<;>simp only [Sq,Sj,Tq]<;>simp only [Ww]<;>omega
theorem Zxn {w:Wl} {n sx sy:Int} (h:Str w n sx sy):w.ln.full=n*(sx*sx+sy*sy):=by
 obtain ⟨_,_,h3,h4,h5⟩:=h.ln
 unfold Ln.full
 rw [h3,h4,h5]
 have hn:=h.hn
 have hle:=h.nle
 have hx:=h.hx
 have hy:=h.hy
 rcases hx with rfl|rfl|rfl<;>rcases hy with rfl|rfl|rfl<;>simp [Ww]<;>omega
theorem Vf {w:Wl} {n sx sy x y d:Int} (h:Str w n sx sy) (hp:PtOk x y d):w.side x y d=sgn (bes w sx sy x y d):=by
 unfold Wl.side bes
 rw [h.dx,h.dy]
 refine Eq.trans ?_ (Yda h.hn)
 have a1:=Uw h.b1 hp.hd
 have a2:=Uw h.b2 hp.hd
 have a3:=hp.hD
 have a4:=hp.hx
 have a5:=hp.hy
 have a6:=hp.hd
 have hn:=h.hn
 have hle:=h.nle
 generalize w.fx*d=A at *
 generalize w.fy*d=C at *
 have b1 : -(10000*300000000000000)<=n*(y-C)/\n*(y-C)<=10000*300000000000000:=Yy (by omega) (by omega)
 have b2 : -(10000*300000000000000)<=n*(x-A)/\n*(x-A)<=10000*300000000000000:=Yy (by omega) (by omega)
 rw [W_eq (n:=C) (by omega) (by omega),W_eq (n:=A) (by omega) (by omega),W_eq (n:=y-C) (by omega) (by omega),W_eq (n:=x-A) (by omega) (by omega)]
 congr 1
 have hx:=h.hx
 have hy:=h.hy
 rw [show n*(sx*(y-C)-sy*(x-A))=sx*(n*(y-C))-sy*(n*(x-A)) by grind,show n*sx*(y-C)=sx*(n*(y-C)) by grind,show n*sy*(x-A)=sy*(n*(x-A)) by grind]
 generalize n*(y-C)=P at *
 generalize n*(x-A)=Q at *
 rcases hx with rfl|rfl|rfl<;>rcases hy with rfl|rfl|rfl<;>simp only [Sq,Sj,Tq]<;>simp only [Ww]<;>omega
def onW (w:Wl) (n sx sy x y d:Int):Prop:=bes w sx sy x y d=0/\0<=alo w sx sy x y d/\alo w sx sy x y d<=n*(sx*sx+sy*sy)*d
theorem Ygf {n d:Int} (hn:0<n) (hle:n<=10000) (hd:0<d):0<n*d/\n*d<=10000*d:=by
 have:=Yy (a:=n) (b:=d) (A:=10000) (B:=d) (by omega) (by omega)
 exact ⟨Qv hn hd,this.2⟩
theorem Zz7 {w:Wl} {n sx sy x y d z:Int} (h:Str w n sx sy) (hp:PtOk x y d):w.ln.has ⟨x,y,z,d⟩=true↔onW w n sx sy x y d:=by
 unfold Ln.has onW
 rw [Zbk h hp,Ztf h hp,Zxn h,Qc,decide_eq_true_eq,within_iff]
 have hb:Qa Qb (n*(sx*sx+sy*sy)*d)=n*(sx*sx+sy*sy)*d:=by
  have:=Ygf h.hn h.nle hp.hd
  have:=hp.hD
  rcases h.hx with rfl|rfl|rfl<;>rcases h.hy with rfl|rfl|rfl<;>simp only [Sb,Rw,Rp,Sq,Tq,Wx,Ph,Wn]<;>(try rw [show n*(1+1)*d=2*(n*d) by grind])<;>exact W_eq (by omega) (by omega)
 rw [hb]
theorem Zan {w:Wl} {n sx sy x y d:Int} (h:Str w n sx sy) (hp:PtOk x y d):w.has x y d=true↔onW w n sx sy x y d:=by
 unfold Wl.has onW
 rw [Vf h hp,Qc,Qc,decide_eq_true_eq,within_iff,within_iff,Zht]
 have a1:=Uw h.b1 hp.hd
 have a2:=Uw h.b2 hp.hd
 have a3:=Ygf h.hn h.nle hp.hd
 have a4:=hp.hD
 have hn:=h.hn
 unfold bes alo
 rw [h.tx,h.ty]
 have hxy:=h.hxy
 have f7:n*(1+1)*d=2*(n*d):=by grind
 have e1:imin w.fx (w.fx+n)=w.fx:=by unfold imin; rw [decide_eq_false (by omega)]; rfl
 have e2:imin w.fx (w.fx + -n)=w.fx + -n:=by unfold imin; rw [decide_eq_true (by omega)]; rfl
 have e3:imin w.fx w.fx=w.fx:=by unfold imin; rw [decide_eq_false (by omega)]; rfl
 have e4:imax w.fx (w.fx+n)=w.fx+n:=by unfold imax; rw [decide_eq_true (by omega)]; rfl
 have e5:imax w.fx (w.fx + -n)=w.fx:=by unfold imax; rw [decide_eq_false (by omega)]; rfl
 have e6:imax w.fx w.fx=w.fx:=by unfold imax; rw [decide_eq_false (by omega)]; rfl
 have f1:imin w.fy (w.fy+n)=w.fy:=by unfold imin; rw [decide_eq_false (by omega)]; rfl
 have f2:imin w.fy (w.fy + -n)=w.fy + -n:=by unfold imin; rw [decide_eq_true (by omega)]; rfl
 have f3:imin w.fy w.fy=w.fy:=by unfold imin; rw [decide_eq_false (by omega)]; rfl
 have f4:imax w.fy (w.fy+n)=w.fy+n:=by unfold imax; rw [decide_eq_true (by omega)]; rfl
 have f5:imax w.fy (w.fy + -n)=w.fy:=by unfold imax; rw [decide_eq_false (by omega)]; rfl
 have f6:imax w.fy w.fy=w.fy:=by unfold imax; rw [decide_eq_false (by omega)]; rfl
 rcases h.hx with rfl|rfl|rfl<;>rcases h.hy with rfl|rfl|rfl<;>simp only [Sb,Rw,Rp,Sq,Tq,Sj,Wx,Ph,Wn,Int.add_mul,f7,e1,e2,e3,e4,e5,e6,f1,f2,f3,f4,f5,f6]<;>(try (exact absurd ⟨rfl,rfl⟩ hxy))<;>generalize w.fx*d=A at * <;> generalize w.fy*d=C at * <;> generalize n*d=M at *
 all_goals repeat rw [W_eq (by omega) (by omega)]
 all_goals omega
theorem Zgc {w:Wl} {n sx sy x y d z:Int} (h:Str w n sx sy) (hp:PtOk x y d):w.has x y d=w.ln.has ⟨x,y,z,d⟩:=by
 rw [Sc,Zan h hp,Zz7 h hp]
theorem Xc {x y:Int} (h1 : -5000<=x/\x<=5000) (h2 : -5000<=y/\y<=5000):PtOk x y 1:=⟨by omega,by omega,by omega,by omega⟩
theorem ln_a (w:Wl):w.ln.a=⟨w.fx,w.fy,0,1⟩:=rfl
theorem ln_b {w:Wl} {n sx sy:Int} (h:Str w n sx sy):w.ln.b=⟨w.tx,w.ty,0,1⟩:=by
 obtain ⟨h1,h2,_⟩:=h.ln
 unfold Ln.b
 rw [h1,h2]
 have e1:Qa Qb (w.ln.x+n*sx)=w.tx:=by rw [h.tx]; exact W_eq (by have:=h.b3; have:=h.tx; show _<=w.fx+_; omega) (by have:=h.b3; have:=h.tx; show w.fx+_<=_; omega)
 have e2:Qa Qb (w.ln.y+n*sy)=w.ty:=by rw [h.ty]; exact W_eq (by have:=h.b4; have:=h.ty; show _<=w.fy+_; omega) (by have:=h.b4; have:=h.ty; show w.fy+_<=_; omega)
 rw [e1,e2]
theorem Yh1 (a b:Int):Qa Qb (sgn a*sgn b)=sgn a*sgn b:=by
 have:=Yy (A:=1) (B:=1) (Ybj a) (Ybj b)
 exact W_eq (by omega) (by omega)
theorem Zi3 {a b:Int}:sgn a*sgn b<0↔(a<0/\0<b)\/(0<a/\b<0):=by
 unfold sgn
 split<;>split<;>(try split)<;>(try split)<;>simp<;>omega
theorem Zg6 {w o:Wl} {n sx sy m tx ty:Int} (h:Str w n sx sy) (g:Str o m tx ty):w.touches o=w.ln.touch o.ln:=by
 have p1:=Xc g.b1 g.b2
 have p2:=Xc g.b3 g.b4
 have p3:=Xc h.b1 h.b2
 have p4:=Xc h.b3 h.b4
 unfold Gt Ln.touch
 rw [ln_b h,ln_b g,ln_a,ln_a,<-Zgc h p1,<-Zgc h p2,<-Zgc g p3,<-Zgc g p4,Zbk h p1,Zbk h p2,Zbk g p3,Zbk g p4,Vf h p1,Vf h p2,Vf g p3,Vf g p4]
 exact Bool.or_comm _ _
theorem Ziu {w o:Wl} {n sx sy m tx ty:Int} (h:Str w n sx sy) (g:Str o m tx ty):w.turnsBack o=true↔tx = -sx/\ty = -sy:=by
 unfold Wl.turnsBack
 rw [h.dx,h.dy,g.dx,g.dy]
 have a1:=h.nle
 have a2:=g.nle
 have hn:=h.hn
 have hm:=g.hn
 have hxy:=h.hxy
 have gxy:=g.hxy
 have b1:0<n*m:=Qv hn hm
 have b2:=(Yy (a:=n) (b:=m) (A:=10000) (B:=10000) (by omega) (by omega)).2
 have e1:∀ a b:Int,n*a*(m*b)=n*m*(a*b):=fun a b=>by grind
 rw [e1,e1,e1,e1]
 generalize n*m=K at *
 rcases h.hx with rfl|rfl|rfl<;>rcases h.hy with rfl|rfl|rfl<;>(try (exact absurd ⟨rfl,rfl⟩ hxy))<;>rcases g.hx with rfl|rfl|rfl<;>rcases g.hy with rfl|rfl|rfl<;>(try (exact absurd ⟨rfl,rfl⟩ gxy))<;>simp [Ww]<;>omega
theorem Zs9 {w o:Wl} {n sx sy m tx ty:Int} (h:Str w n sx sy) (g:Str o m tx ty) (hc:o.fx=w.tx/\o.fy=w.ty):(o.has w.fx w.fy 1||w.has o.tx o.ty 1)=w.turnsBack o:=by
 rw [Sc,Ziu h g,Ro,Zan g (Xc h.b1 h.b2),Zan h (Xc g.b3 g.b4)]
 unfold onW bes alo
 have hn:=h.hn
 have hm:=g.hn
 have hxy:=h.hxy
 have gxy:=g.hxy
 rw [g.tx,g.ty,hc.1,hc.2,h.tx,h.ty]
 rcases h.hx with rfl|rfl|rfl<;>rcases h.hy with rfl|rfl|rfl<;>(try (exact absurd ⟨rfl,rfl⟩ hxy))<;>rcases g.hx with rfl|rfl|rfl<;>rcases g.hy with rfl|rfl|rfl<;>(try (exact absurd ⟨rfl,rfl⟩ gxy))<;>simp only [Sb,Rw,Rp,Sq,Tq,Sj,Wx,Ph,Wn,and_self,and_true,true_and,iff_true]<;>omega
theorem Yaf {w:Wl} {n sx sy x y d z:Int} (h:Str w n sx sy) (hp:PtOk x y d):flips x y d w=Zos ⟨x,y,z,d⟩ w.ln:=by
 unfold flips Zos
 have e:Qa Qb (w.ln.y+w.ln.dy)=w.ty:=by
  have:=ln_b h
  unfold Ln.b at this
  simpa using congrArg Pt.y this
 rw [Zbk h hp,Vf h hp,e]
 have c1:∀ v,decide (0<sgn v)=decide (0<v):=fun v=>by rw [decide_eq_decide]; exact Vu
 have c2:∀ v,decide (sgn v<0)=decide (v<0):=fun v=>by rw [decide_eq_decide]; exact Vv
 have c3:∀ a:Int,decide (y<a) = !decide (a<=y):=fun a=>by by_cases q:a<=y<;>simp [q]<;>omega
 rw [c1,c2,c3,c3]
 show _=(((decide (Qa Qb (w.fy*d)<=y) && !decide (Qa Qb (w.ty*d)<=y))&&decide (0<bes w sx sy x y d))||((!decide (Qa Qb (w.fy*d)<=y)&&decide (Qa Qb (w.ty*d)<=y))&&decide (bes w sx sy x y d<0)))
 cases decide (Qa Qb (w.fy*d)<=y)<;>cases decide (Qa Qb (w.ty*d)<=y)<;>rfl
def Vd (cs:List (Int × Int)):Prop:=∀ i,i<cs.length->∃ n sx sy,Str (wlOf cs i) n sx sy
theorem Zw5 {x y d z:Int} (hp:PtOk x y d):∀ (l:List Wl) (b:Bool),(∀ w∈l,∃ n sx sy,Str w n sx sy)->inPl x y d b l=Zko ⟨x,y,z,d⟩ b (l.map Wl.ln)
 | [],_,_=>rfl
 | w::l,b,h=>by
  obtain ⟨n,sx,sy,hw⟩:=h w (by simp)
  rw [List.map_cons,inPl,Zko,Zgc (z:=z) hw hp,Yaf (z:=z) hw hp]
  split
  ·rfl
  ·exact Zw5 hp l _ fun u hu=>h u (by simp [hu])
theorem Yb1 (cs:List (Int × Int)):lns cs=(wls cs).map Wl.ln:=by simp [lns,wls,Zfg]
theorem Zb2 {cs:List (Int × Int)} (h:Vd cs):∀ w∈wls cs,∃ n sx sy,Str w n sx sy:=by
 intro w hw
 simp only [wls,Ta,Rx] at hw
 obtain ⟨i,hi,rfl⟩:=hw
 exact h i hi
theorem Zba {h:Hal} (hs:Vd h.cs) {x y d:Int} (z:Int) (hp:PtOk x y d):Xo h x y d=Yj h ⟨x,y,z,d⟩:=by
 unfold Xo Yj
 rw [Yb1]
 exact Zw5 hp _ _ (Zb2 hs)
theorem Yay (n:Int) (w:Wl):Zy5 n w=Zph n w:=by
 unfold Zy5 Zph
 generalize w.fx*w.ty=a
 generalize w.tx*w.fy=b
 simp only [Ww]; omega
theorem Znd (h:Hal):Zdf h=Zit h.cs:=by
 unfold Zdf Zit
 rw [show Zy5=Zph from funext fun n=>funext fun w=>Yay n w]
theorem Zq2 {cs:List (Int × Int)} {i:Nat} (h:i<cs.length):cor cs i=cs[i]:=by simp [cor,h]
theorem Znh {h:Hal} (hs:Vd h.cs) (h3:3<=h.cs.length) (hl:h.cs.length<1000):Xt h=Zdh h.cs:=by
 have key:∀ i k,i<k->k<h.cs.length->Za9 h.cs.length (wlOf h.cs i) (wlOf h.cs k)=Zhc h.cs h.cs.length i k:=by
  intro i k hik hk
  obtain ⟨n,sx,sy,hi⟩:=hs i (by omega)
  obtain ⟨m,tx,ty,hm⟩:=hs k hk
  unfold Za9 Zhc
  show (decide ((k:Int)<=(i:Int))||(!((decide ((k:Int)=Qa Qb ((i:Int)+1))&&_)||((decide ((i:Int)=0)&&decide ((k:Int)=Qa Qb ((h.cs.length:Int)-1)))&&_))&&((decide ((k:Int)=Qa Qb ((i:Int)+1))||(decide ((i:Int)=0)&&decide ((k:Int)=Qa Qb ((h.cs.length:Int)-1))))||_)))=_
  rw [Zfg,Zfg,<-Zg6 hi hm,ln_a,ln_a,ln_b hi,ln_b hm,<-Zgc hi (Xc hm.b3 hm.b4),<-Zgc hm (Xc hi.b1 hi.b2),<-Zgc hi (Xc hm.b1 hm.b2),<-Zgc hm (Xc hi.b3 hi.b4)]
  have e1:Qa Qb ((i:Int)+1)=(i:Int)+1:=W_eq (by omega) (by omega)
  have e2:Qa Qb ((h.cs.length:Int)-1)=(h.cs.length:Int)-1:=W_eq (by omega) (by omega)
  rw [e1,e2,decide_eq_false (p:=(k:Int)<=(i:Int)) (by omega)]
  by_cases c1:(k:Int)=(i:Int)+1
  ·have hki:k=i+1:=by omega
   have c2:((decide ((i:Int)=0)&&decide ((k:Int)=(h.cs.length:Int)-1)))=false:=by
    by_cases q:(i:Int)=0
    ·rw [decide_eq_false (p:=(k:Int)=(h.cs.length:Int)-1) (by omega)]; simp
    ·rw [decide_eq_false q]; rfl
   have hb:=Zs9 hi hm (by
    subst hki
    simp only [wlOf,Nat.mod_eq_of_lt hk,and_self])
   rw [c2,decide_eq_true c1,<-hb]
   simp
  ·rw [decide_eq_false c1]
   by_cases c2:(i:Int)=0/\(k:Int)=(h.cs.length:Int)-1
   ·have hb:=Zs9 hm hi (by
     have h1:i=0:=by omega
     have h2:k+1=h.cs.length:=by omega
     subst h1
     simp only [wlOf,h2,Nat.mod_self,and_self])
    rw [decide_eq_true c2.1,decide_eq_true c2.2,<-hb]
    simp [Bool.and_comm]
   ·have c3:((decide ((i:Int)=0)&&decide ((k:Int)=(h.cs.length:Int)-1)))=false:=by
     rw [Bool.eq_false_iff]; intro hq; simp only [Qc,decide_eq_true_eq] at hq; exact c2 hq
    rw [c3]
    simp
 have hR:Zdh h.cs=true↔∀ i k,i<k->k<h.cs.length->Zhc h.cs h.cs.length i k=true:=by
  simp only [Zdh,Zeu,Zex,Rf,List.mem_range']
  constructor
  ·intro hq i k hik hk
   exact hq i ⟨i,by omega,by omega⟩ k ⟨k-(i+1),by omega,by omega⟩
  ·rintro hq i ⟨a,ha,rfl⟩ k ⟨b,hb,rfl⟩
   exact hq _ _ (by omega) (by omega)
 have hP:Xt h=true↔∀ i k,i<h.cs.length->k<h.cs.length->Za9 h.cs.length (wlOf h.cs i) (wlOf h.cs k)=true:=by
  simp only [Xt,wls,Rf,Ta,Rx]
  constructor
  ·intro hq i k hi hk; exact hq _ ⟨i,hi,rfl⟩ _ ⟨k,hk,rfl⟩
  ·rintro hq a ⟨i,hi,rfl⟩ b ⟨k,hk,rfl⟩; exact hq i k hi hk
 rw [Sc,hR,hP]
 constructor
 ·intro hq i k hik hk; rw [<-key i k hik hk]; exact hq i k (by omega) hk
 ·intro hq i k hi hk
  by_cases hik:i<k
  ·rw [key i k hik hk]; exact hq i k hik hk
  ·unfold Za9
   rw [show decide ((wlOf h.cs k).n<=(wlOf h.cs i).n)=true from decide_eq_true (by show (k:Int)<=(i:Int); omega)]
   rfl
def hit (w:Wl) (n sx sy:Int) (q:Rc):Prop:=∃ t,0<=t/\t<=n/\q.xl<=w.fx+t*sx/\w.fx+t*sx<=q.xh/\q.yl<=w.fy+t*sy/\w.fy+t*sy<=q.yh
structure RcOk (q:Rc):Prop where
 x:q.xl<q.xh
 y:q.yl<q.yh
 b1 : -5000<=q.xl
 b2:q.xh<=5000
 b3 : -5000<=q.yl
 b4:q.yh<=5000
theorem Yel {a b c:Int}:imin a b<=c↔a<=c\/b<=c:=by
 unfold imin; by_cases h:b<a<;>simp [h]<;>omega
theorem Yem {a b c:Int}:c<=imax a b↔c<=a\/c<=b:=by
 unfold imax; by_cases h:a<b<;>simp [h]<;>omega
theorem Zw7 {a b c:Int}:c<imin a b↔c<a/\c<b:=by
 unfold imin; by_cases h:b<a<;>simp [h]<;>omega
theorem Zw8 {a b c:Int}:imax a b<c↔a<c/\b<c:=by
 unfold imax; by_cases h:a<b<;>simp [h]<;>omega
theorem Yfl {v:Int}:sgn v<=0↔v<=0:=by have:=@Vu v; omega
theorem Yfm {v:Int}:0<=sgn v↔0<=v:=by have:=@Vv v; omega
theorem Zn0 {w:Wl} {n sx sy:Int} {q:Rc} (h:Str w n sx sy) (hq:RcOk q):q.meets w=true↔hit w n sx sy q:=by
 have q1:=hq.x
 have q2:=hq.y
 have q3:=hq.b1
 have q4:=hq.b2
 have q5:=hq.b3
 have q6:=hq.b4
 have p1:PtOk q.xl q.yl 1:=Xc (by omega) (by omega)
 have p2:PtOk q.xl q.yh 1:=Xc (by omega) (by omega)
 have p3:PtOk q.xh q.yl 1:=Xc (by omega) (by omega)
 have p4:PtOk q.xh q.yh 1:=Xc (by omega) (by omega)
 have e:q.meets w=true ↔ ¬((w.fx<q.xl/\w.tx<q.xl)\/(q.xh<w.fx/\q.xh<w.tx)\/(w.fy<q.yl/\w.ty<q.yl)\/(q.yh<w.fy/\q.yh<w.ty))/\(bes w sx sy q.xl q.yl 1<=0\/bes w sx sy q.xl q.yh 1<=0\/bes w sx sy q.xh q.yl 1<=0\/bes w sx sy q.xh q.yh 1<=0)/\(0<=bes w sx sy q.xl q.yl 1\/0<=bes w sx sy q.xl q.yh 1\/0<=bes w sx sy q.xh q.yl 1\/0<=bes w sx sy q.xh q.yh 1):=by
  unfold Rc.meets
  rw [Vf h p1,Vf h p2,Vf h p3,Vf h p4]
  by_cases hb:(decide (imax w.fx w.tx<q.xl)||decide (q.xh<imin w.fx w.tx)||decide (imax w.fy w.ty<q.yl)||decide (q.yh<imin w.fy w.ty))=true
  ·rw [if_pos hb]
   simp only [Ro,decide_eq_true_eq,Zw7,Zw8] at hb
   constructor
   ·intro hf; cases hf
   ·rintro ⟨h1,_⟩; exact absurd (by rcases hb with ((hb|hb)|hb)|hb<;>simp [hb]) h1
  ·rw [if_neg hb]
   simp only [Ro,decide_eq_true_eq,Zw7,Zw8] at hb
   rw [Qc,decide_eq_true_eq,decide_eq_true_eq]
   simp only [Yel,Yem,Yfl,Yfm]
   omega
 rw [e]
 unfold hit bes
 rw [h.tx,h.ty]
 have hn:=h.hn
 have hxy:=h.hxy
 rcases h.hx with rfl|rfl|rfl<;>rcases h.hy with rfl|rfl|rfl<;>(try (exact absurd ⟨rfl,rfl⟩ hxy))<;>simp only [Sb,Rw,Rp,Sq,Tq,Sj,Wx,Ph,Wn]
 ·exact ⟨fun hh=>⟨max 0 (q.yl-w.fy),by omega,by omega,by omega,by omega,by omega,by omega⟩,fun ⟨t,h1,h2,h3,h4,h5,h6⟩=>by omega⟩
 ·exact ⟨fun hh=>⟨max 0 (w.fy-q.yh),by omega,by omega,by omega,by omega,by omega,by omega⟩,fun ⟨t,h1,h2,h3,h4,h5,h6⟩=>by omega⟩
 ·exact ⟨fun hh=>⟨max 0 (q.xl-w.fx),by omega,by omega,by omega,by omega,by omega,by omega⟩,fun ⟨t,h1,h2,h3,h4,h5,h6⟩=>by omega⟩
 ·exact ⟨fun hh=>⟨max (max 0 (q.xl-w.fx)) (q.yl-w.fy),by omega,by omega,by omega,by omega,by omega,by omega⟩,fun ⟨t,h1,h2,h3,h4,h5,h6⟩=>by omega⟩
 ·exact ⟨fun hh=>⟨max (max 0 (q.xl-w.fx)) (w.fy-q.yh),by omega,by omega,by omega,by omega,by omega,by omega⟩,fun ⟨t,h1,h2,h3,h4,h5,h6⟩=>by omega⟩
 ·exact ⟨fun hh=>⟨max 0 (w.fx-q.xh),by omega,by omega,by omega,by omega,by omega,by omega⟩,fun ⟨t,h1,h2,h3,h4,h5,h6⟩=>by omega⟩
 ·exact ⟨fun hh=>⟨max (max 0 (w.fx-q.xh)) (q.yl-w.fy),by omega,by omega,by omega,by omega,by omega,by omega⟩,fun ⟨t,h1,h2,h3,h4,h5,h6⟩=>by omega⟩
 ·exact ⟨fun hh=>⟨max (max 0 (w.fx-q.xh)) (w.fy-q.yh),by omega,by omega,by omega,by omega,by omega,by omega⟩,fun ⟨t,h1,h2,h3,h4,h5,h6⟩=>by omega⟩
def common (e:Wl) (m ex ey:Int) (w:Wl) (n sx sy:Int):Prop:=∃ t s,0<=t/\t<=n/\0<=s/\s<=m/\w.fx+t*sx=e.fx+s*ex/\w.fy+t*sy=e.fy+s*ey
theorem Zf0 {w:Wl} {n sx sy x y:Int} (h:Str w n sx sy):onW w n sx sy x y 1↔∃ t,0<=t/\t<=n/\x=w.fx+t*sx/\y=w.fy+t*sy:=by
 unfold onW bes alo
 have hn:=h.hn
 have hxy:=h.hxy
 rcases h.hx with rfl|rfl|rfl<;>rcases h.hy with rfl|rfl|rfl<;>(try (exact absurd ⟨rfl,rfl⟩ hxy))<;>simp only [Sb,Rw,Rp,Sq,Tq,Sj,Wx,Ph,Wn]
 ·exact ⟨fun hh=>⟨y-w.fy,by omega,by omega,by omega,by omega⟩,fun ⟨t,h1,h2,h3,h4⟩=>by omega⟩
 ·exact ⟨fun hh=>⟨w.fy-y,by omega,by omega,by omega,by omega⟩,fun ⟨t,h1,h2,h3,h4⟩=>by omega⟩
 ·exact ⟨fun hh=>⟨x-w.fx,by omega,by omega,by omega,by omega⟩,fun ⟨t,h1,h2,h3,h4⟩=>by omega⟩
 ·exact ⟨fun hh=>⟨x-w.fx,by omega,by omega,by omega,by omega⟩,fun ⟨t,h1,h2,h3,h4⟩=>by omega⟩
 ·exact ⟨fun hh=>⟨x-w.fx,by omega,by omega,by omega,by omega⟩,fun ⟨t,h1,h2,h3,h4⟩=>by omega⟩
 ·exact ⟨fun hh=>⟨w.fx-x,by omega,by omega,by omega,by omega⟩,fun ⟨t,h1,h2,h3,h4⟩=>by omega⟩
 ·exact ⟨fun hh=>⟨w.fx-x,by omega,by omega,by omega,by omega⟩,fun ⟨t,h1,h2,h3,h4⟩=>by omega⟩
 ·exact ⟨fun hh=>⟨w.fx-x,by omega,by omega,by omega,by omega⟩,fun ⟨t,h1,h2,h3,h4⟩=>by omega⟩
theorem Zne {e w:Wl} {m ex ey n sx sy:Int} (g:Str e m ex ey) (h:Str w n sx sy):e.touches w=true ↔
  (((bes e ex ey w.fx w.fy 1<0/\0<bes e ex ey w.tx w.ty 1)\/(0<bes e ex ey w.fx w.fy 1/\bes e ex ey w.tx w.ty 1<0))/\((bes w sx sy e.fx e.fy 1<0/\0<bes w sx sy e.tx e.ty 1)\/(0<bes w sx sy e.fx e.fy 1/\bes w sx sy e.tx e.ty 1<0))) \/
  onW e m ex ey w.fx w.fy 1\/onW e m ex ey w.tx w.ty 1\/onW w n sx sy e.fx e.fy 1\/onW w n sx sy e.tx e.ty 1:=by
 have p1:=Xc g.b1 g.b2
 have p2:=Xc g.b3 g.b4
 have p3:=Xc h.b1 h.b2
 have p4:=Xc h.b3 h.b4
 unfold Gt
 rw [Ro,Qc,Ro,Ro,Ro,decide_eq_true_eq,decide_eq_true_eq,Zan g p3,Zan g p4,Zan h p1,Zan h p2,Vf g p3,Vf g p4,Vf h p1,Vf h p2,Yh1,Yh1,Zi3,Zi3]
 simp only [or_assoc]
theorem Zbr {e w:Wl} {m ex ey n sx sy:Int} (g:Str e m ex ey) (h:Str w n sx sy) (hax:ex=0\/ey=0):e.touches w=true↔common e m ex ey w n sx sy := by
  rw [Zne g h]
  have hn := h.hn
  have hm := g.hn
  have hxy := h.hxy
  have gxy := g.hxy
  constructor
  · rintro (hc|hc|hc|hc|hc)
    · unfold bes at hc
      rw [h.tx, h.ty, g.tx, g.ty] at hc
      rcases g.hx with rfl|rfl|rfl<;>rcases g.hy with rfl|rfl|rfl<;>(try (exact absurd ⟨rfl, rfl⟩ gxy))<;>(try (exact absurd hax (by decide)))<;>rcases h.hx with rfl|rfl|rfl<;>rcases h.hy with rfl|rfl|rfl<;>(try (exact absurd ⟨rfl, rfl⟩ hxy))<;>simp only [Sb, Rw, Rp, Sq, Tq, Sj, Wx, Ph, Wn] at hc<;>first
        | (exfalso; omega)
        | (unfold common
           simp only [Sb, Rw, Rp, Sq, Tq, Sj, Wx, Ph, Wn]
           first
            | exact ⟨e.fy-w.fy, w.fx+(e.fy-w.fy)-e.fx, by omega, by omega, by omega, by omega, by omega, by omega⟩
            | exact ⟨e.fy-w.fy, e.fx-(w.fx+(e.fy-w.fy)), by omega, by omega, by omega, by omega, by omega, by omega⟩
            | exact ⟨e.fy-w.fy, w.fx-(e.fy-w.fy)-e.fx, by omega, by omega, by omega, by omega, by omega, by omega⟩
            | exact ⟨e.fy-w.fy, e.fx-(w.fx-(e.fy-w.fy)), by omega, by omega, by omega, by omega, by omega, by omega⟩
            | exact ⟨e.fy-w.fy, w.fx-e.fx, by omega, by omega, by omega, by omega, by omega, by omega⟩
            | exact ⟨e.fy-w.fy, e.fx-w.fx, by omega, by omega, by omega, by omega, by omega, by omega⟩
            | exact ⟨w.fy-e.fy, w.fx+(w.fy-e.fy)-e.fx, by omega, by omega, by omega, by omega, by omega, by omega⟩
            | exact ⟨w.fy-e.fy, e.fx-(w.fx+(w.fy-e.fy)), by omega, by omega, by omega, by omega, by omega, by omega⟩
            | exact ⟨w.fy-e.fy, w.fx-(w.fy-e.fy)-e.fx, by omega, by omega, by omega, by omega, by omega, by omega⟩
            | exact ⟨w.fy-e.fy, e.fx-(w.fx-(w.fy-e.fy)), by omega, by omega, by omega, by omega, by omega, by omega⟩
            | exact ⟨w.fy-e.fy, w.fx-e.fx, by omega, by omega, by omega, by omega, by omega, by omega⟩
            | exact ⟨w.fy-e.fy, e.fx-w.fx, by omega, by omega, by omega, by omega, by omega, by omega⟩
            | exact ⟨e.fx-w.fx, w.fy+(e.fx-w.fx)-e.fy, by omega, by omega, by omega, by omega, by omega, by omega⟩
            | exact ⟨e.fx-w.fx, e.fy-(w.fy+(e.fx-w.fx)), by omega, by omega, by omega, by omega, by omega, by omega⟩
            | exact ⟨e.fx-w.fx, w.fy-(e.fx-w.fx)-e.fy, by omega, by omega, by omega, by omega, by omega, by omega⟩
            | exact ⟨e.fx-w.fx, e.fy-(w.fy-(e.fx-w.fx)), by omega, by omega, by omega, by omega, by omega, by omega⟩
            | exact ⟨e.fx-w.fx, w.fy-e.fy, by omega, by omega, by omega, by omega, by omega, by omega⟩
            | exact ⟨e.fx-w.fx, e.fy-w.fy, by omega, by omega, by omega, by omega, by omega, by omega⟩
            | exact ⟨w.fx-e.fx, w.fy+(w.fx-e.fx)-e.fy, by omega, by omega, by omega, by omega, by omega, by omega⟩
            | exact ⟨w.fx-e.fx, e.fy-(w.fy+(w.fx-e.fx)), by omega, by omega, by omega, by omega, by omega, by omega⟩
            | exact ⟨w.fx-e.fx, w.fy-(w.fx-e.fx)-e.fy, by omega, by omega, by omega, by omega, by omega, by omega⟩
            | exact ⟨w.fx-e.fx, e.fy-(w.fy-(w.fx-e.fx)), by omega, by omega, by omega, by omega, by omega, by omega⟩
            | exact ⟨w.fx-e.fx, w.fy-e.fy, by omega, by omega, by omega, by omega, by omega, by omega⟩
            | exact ⟨w.fx-e.fx, e.fy-w.fy, by omega, by omega, by omega, by omega, by omega, by omega⟩)
    · obtain ⟨s, h1, h2, h3, h4⟩ := (Zf0 g).1 hc
      exact ⟨0, s, by omega, by omega, h1, h2, by simpa using h3, by simpa using h4⟩
    · obtain ⟨s, h1, h2, h3, h4⟩ := (Zf0 g).1 hc
      exact ⟨n, s, by omega, by omega, h1, h2, by rw [<-h.tx]; exact h3, by rw [<-h.ty]; exact h4⟩
    · obtain ⟨t, h1, h2, h3, h4⟩ := (Zf0 h).1 hc
      exact ⟨t, 0, h1, h2, by omega, by omega, by simpa using h3.symm, by simpa using h4.symm⟩
    · obtain ⟨t, h1, h2, h3, h4⟩ := (Zf0 h).1 hc
      exact ⟨t, m, h1, h2, by omega, by omega, by rw [<-g.tx]; exact h3.symm, by rw [<-g.ty]; exact h4.symm⟩
  · rintro ⟨t, s, t0, t1, s0, s1, c1, c2⟩
    by_cases z1:t=0
    · exact .inr (.inl ((Zf0 g).2 ⟨s, s0, s1, by subst z1; simpa using c1, by subst z1; simpa using c2⟩))
    by_cases z2:t=n
    · exact .inr (.inr (.inl ((Zf0 g).2 ⟨s, s0, s1, by subst z2; rw [h.tx]; exact c1, by subst z2; rw [h.ty]; exact c2⟩)))
    by_cases z3:s=0
    · exact .inr (.inr (.inr (.inl ((Zf0 h).2 ⟨t, t0, t1, by subst z3; simpa using c1.symm, by subst z3; simpa using c2.symm⟩))))
    by_cases z4:s=m
    · exact .inr (.inr (.inr (.inr ((Zf0 h).2 ⟨t, t0, t1, by subst z4; rw [g.tx]; exact c1.symm, by subst z4; rw [g.ty]; exact c2.symm⟩))))
    unfold onW bes alo
    rw [h.tx, h.ty, g.tx, g.ty]
    rcases g.hx with rfl|rfl|rfl<;>rcases g.hy with rfl|rfl|rfl<;>(try (exact absurd ⟨rfl, rfl⟩ gxy))<;>(try (exact absurd hax (by decide)))<;>rcases h.hx with rfl|rfl|rfl<;>rcases h.hy with rfl|rfl|rfl<;>(try (exact absurd ⟨rfl, rfl⟩ hxy))<;>simp only [Sb, Rw, Rp, Sq, Tq, Sj, Wx, Ph, Wn] at c1 c2 ⊢ <;> first
      | (refine .inl ?_; omega)
      | (refine .inr ?_; omega)
end Go.Proofs.YtanbhfpalahjcaaGreat
