/- A part of the proof: lemmas. -/
import Derived.Test.YtanbhfpalahjcaaGreatP9
set_option linter.unusedVariables false
set_option linter.unusedSimpArgs false
set_option maxRecDepth 100000
set_option maxHeartbeats 16000000
open Bool renaming and_eq_true->Qc,eq_iff_iff->Sk,or_eq_true->Rr,true_and->Wm
open Classical renaming choose->Gi,choose_spec->Nq
open Go.IntKind renaming i64->Qb,wrap->Qa,wrap_i64->Wr
open Go.IntWalk renaming i64_in->Mw
open Go.Proofs.YtanbhfpalahjcaaGreat.Wal renaming av->Pi
open Go.Proofs.YtanbhfpalahjcaaGreat.Wl renaming touches->Gt
open Go.Sx.Done renaming mk->Qr
open Int renaming add_zero->Wk,mul_neg->Rp,mul_one->Rz,mul_pos->Qu,mul_tdiv_cancel_left->Nx,mul_zero->Sc,natAbs_mul->Jy,neg_mul->Tm,neg_neg->Wu,one_mul->Sr,toNat_natCast->Re,zero_add->Pj,zero_mul->Sq
open List renaming all_eq_true->Rh,any_append->Jn,any_cons->Je,any_eq_true->Ny,drop_eq_getElem_cons->Ql,drop_of_length_le->Qo,getElem_mem->Qn,mem_map->Ta,mem_range->Rx,mem_take_iff_getElem->Ld,range'->Lz,range'_succ->Gj,take_succ_eq_append_getElem->Qv
open List.cons renaming injEq->Rf
open Nat renaming le_refl->Qe,mod_lt->Tl,zero_le->Qq
namespace Go.Proofs.YtanbhfpalahjcaaGreat
open Go Go.Sx
structure Ln where
 x:Int
 y:Int
 dx:Int
 dy:Int
abbrev Ln.av (l:Ln):AV:=.agg [I l.x,I l.y,I l.dx,I l.dy]
structure Pt where
 x:Int
 y:Int
 z:Int
 d:Int
abbrev Pt.av (p:Pt):AV:=.agg [I p.x,I p.y,I p.z,I p.d]
def Ln.n (l:Ln):Int:=imax (size l.dx) (size l.dy)
def Ln.sx (l:Ln):Int:=Qa Qb (Int.tdiv l.dx l.n)
def Ln.sy (l:Ln):Int:=Qa Qb (Int.tdiv l.dy l.n)
theorem c125 (n:Int):PCall Tryz.prog 53 [I n] ⟨I (size n),[]⟩:=by
 refine pn Ze Tryz.func53 ?_
 repeat'(first|refine wk0 ?_|(refine wk2 ?_ ?_<;>intro _)|fail)
 exact Zd rfl
theorem c119 (n:Int):PCall Tryz.prog 222 [I n] ⟨I (sgn n),[]⟩:=by
 refine pn Ze Tryz.func222 ?_
 repeat'(first|refine wk0 ?_|(refine wk2 ?_ ?_<;>intro _)|fail)
 all_goals exact Zd (by simp_all [sgn]<;>omega)
theorem c163 (n:Int):PCall Tryz.prog 106 [I n] ⟨Bo (within n (-5000) 5000),[]⟩:=by
 refine pn Zht Tryz.func106 ?_
 repeat'(first|refine wk0 ?_|(refine wk2 ?_ ?_<;>intro _)|fail)
 exact Za rfl
theorem c162 (a b c:Int):PCall Tryz.prog 104 [I a,I b,I c] ⟨.tup [P2 a b,I c],[]⟩:=by
 refine pn Zht Tryz.func104 ?_
 repeat'(first|refine wk0 ?_|(refine wk2 ?_ ?_<;>intro _)|fail)
 exact Zg rfl rfl
theorem c201 (x y:Int):PCall Tryz.prog 184 [P2 x y] ⟨P4 x y 0 1,[]⟩:=by
 refine pn Zht Tryz.func184 ?_
 repeat'(first|refine wk0 ?_|(refine wk2 ?_ ?_<;>intro _)|fail)
 exact Zg rfl rfl
def rS1:List AV->Option PRes
 | [.int .i64 n]=>some ⟨I (size n),[]⟩
 | _=>none
def rS2:List AV->Option PRes
 | [.int .i64 n]=>some ⟨I (sgn n),[]⟩
 | _=>none
def r163:List AV->Option PRes
 | [.int .i64 n]=>some ⟨Bo (within n (-5000) 5000),[]⟩
 | _=>none
def r162:List AV->Option PRes
 | [.int .i64 a,.int .i64 b,.int .i64 c]=>some ⟨.tup [P2 a b,I c],[]⟩
 | _=>none
def r201:List AV->Option PRes
 | [.agg [.int .i64 x,.int .i64 y]]=>some ⟨P4 x y 0 1,[]⟩
 | _=>none
def r36R:List AV->Option PRes
 | [.agg [.int .i64 x,.int .i64 y,.int .i64 z]]=>some ⟨P4 x y z 1,[]⟩
 | _=>none
def kR1:PC:=ins 53 rS1 (ins 222 rS2 (ins 106 r163 (ins 104 r162 (ins 184 r201 (ins 113 r36R k93)))))
theorem Zr7:PCOK Tryz.prog kR1:=by
 refine Zk (fun a res h=>?_) (Zk (fun a res h=>?_) (Zk (fun a res h=>?_) (Zk (fun a res h=>?_) (Zk (fun a res h=>?_) (Zk (fun a res h=>?_) Zht)))))
 ·unfold rS1 at h; split at h<;>cases h; exact c125 _
 ·unfold rS2 at h; split at h<;>cases h; exact c119 _
 ·unfold r163 at h; split at h<;>cases h; exact c163 _
 ·unfold r162 at h; split at h<;>cases h; exact c162 _ _ _
 ·unfold r201 at h; split at h<;>cases h; exact c201 _ _
 ·unfold r36R at h; split at h<;>cases h; exact c36 _ _ _
theorem c212 (l:Ln) (hn:l.n≠0):PCall Tryz.prog 165 [l.av] ⟨.tup [I l.n,I l.sx,I l.sy],[]⟩:=by
 have hn' : ¬ imax (size l.dx) (size l.dy)=0:=hn
 refine pn Zr7 Tryz.func165 ?_
 repeat'(first|refine wk1 ?_|(refine wk2 ?_ ?_<;>intro _)|fail)
 exact Zg rfl rfl
def r212:List AV->Option PRes
 | [.agg [.int .i64 x,.int .i64 y,.int .i64 dx,.int .i64 dy]]=>asr (decide ((Ln.mk x y dx dy).n≠0)) ⟨.tup [I (Ln.mk x y dx dy).n,I (Ln.mk x y dx dy).sx,I (Ln.mk x y dx dy).sy],[]⟩
 | _=>none
def kR2:PC:=ins 165 r212 kR1
theorem Zr6:PCOK Tryz.prog kR2:=by
 refine Zk (fun a res h=>?_) Zr7
 unfold r212 at h; split at h
 ·obtain ⟨h1,rfl⟩:=Zar h; exact c212 ⟨_,_,_,_⟩ (of_decide_eq_true h1)
 ·cases h
def Ln.beside (l:Ln) (p:Pt):Int:=Qa Qb (Qa Qb (l.sx*Qa Qb (p.y-Qa Qb (l.y*p.d)))-Qa Qb (l.sy*Qa Qb (p.x-Qa Qb (l.x*p.d))))
def Ln.along (l:Ln) (p:Pt):Int:=Qa Qb (Qa Qb (l.sx*Qa Qb (p.x-Qa Qb (l.x*p.d)))+Qa Qb (l.sy*Qa Qb (p.y-Qa Qb (l.y*p.d))))
def Ln.full (l:Ln):Int:=Qa Qb (l.n*Qa Qb (Qa Qb (l.sx*l.sx)+Qa Qb (l.sy*l.sy)))
theorem c185 (l:Ln) (p:Pt) (hn:l.n≠0):PCall Tryz.prog 164 [l.av,p.av] ⟨I (l.beside p),[]⟩:=by
 obtain ⟨x,y,dx,dy⟩:=l
 have ha:=Zch (res:=⟨.tup [I (Ln.mk x y dx dy).n,I (Ln.mk x y dx dy).sx,I (Ln.mk x y dx dy).sy],[]⟩) hn
 refine pn Zr6 Tryz.func164 ?_
 repeat'(first|refine wk0 ?_|(refine wk2 ?_ ?_<;>intro _)|fail)
 exact Zd rfl
theorem c186 (l:Ln) (p:Pt) (hn:l.n≠0):PCall Tryz.prog 166 [l.av,p.av] ⟨I (l.along p),[]⟩:=by
 obtain ⟨x,y,dx,dy⟩:=l
 have ha:=Zch (res:=⟨.tup [I (Ln.mk x y dx dy).n,I (Ln.mk x y dx dy).sx,I (Ln.mk x y dx dy).sy],[]⟩) hn
 refine pn Zr6 Tryz.func166 ?_
 repeat'(first|refine wk0 ?_|(refine wk2 ?_ ?_<;>intro _)|fail)
 exact Zd rfl
theorem c188 (l:Ln) (hn:l.n≠0):PCall Tryz.prog 167 [l.av] ⟨I l.full,[]⟩:=by
 obtain ⟨x,y,dx,dy⟩:=l
 have ha:=Zch (res:=⟨.tup [I (Ln.mk x y dx dy).n,I (Ln.mk x y dx dy).sx,I (Ln.mk x y dx dy).sy],[]⟩) hn
 refine pn Zr6 Tryz.func167 ?_
 repeat'(first|refine wk0 ?_|(refine wk2 ?_ ?_<;>intro _)|fail)
 exact Zd rfl
def r185:List AV->Option PRes
 | [.agg [.int .i64 x,.int .i64 y,.int .i64 dx,.int .i64 dy],.agg [.int .i64 a,.int .i64 b,.int .i64 c,.int .i64 d]]=>asr (decide ((Ln.mk x y dx dy).n≠0)) ⟨I ((Ln.mk x y dx dy).beside ⟨a,b,c,d⟩),[]⟩
 | _=>none
def r186:List AV->Option PRes
 | [.agg [.int .i64 x,.int .i64 y,.int .i64 dx,.int .i64 dy],.agg [.int .i64 a,.int .i64 b,.int .i64 c,.int .i64 d]]=>asr (decide ((Ln.mk x y dx dy).n≠0)) ⟨I ((Ln.mk x y dx dy).along ⟨a,b,c,d⟩),[]⟩
 | _=>none
def r188:List AV->Option PRes
 | [.agg [.int .i64 x,.int .i64 y,.int .i64 dx,.int .i64 dy]]=>asr (decide ((Ln.mk x y dx dy).n≠0)) ⟨I (Ln.mk x y dx dy).full,[]⟩
 | _=>none
def kR3:PC:=ins 164 r185 (ins 166 r186 (ins 167 r188 kR2))
theorem Zwm:PCOK Tryz.prog kR3:=by
 refine Zk (fun a res h=>?_) (Zk (fun a res h=>?_) (Zk (fun a res h=>?_) Zr6))
 ·unfold r185 at h; split at h
  ·obtain ⟨h1,rfl⟩:=Zar h; exact c185 ⟨_,_,_,_⟩ ⟨_,_,_,_⟩ (of_decide_eq_true h1)
  ·cases h
 ·unfold r186 at h; split at h
  ·obtain ⟨h1,rfl⟩:=Zar h; exact c186 ⟨_,_,_,_⟩ ⟨_,_,_,_⟩ (of_decide_eq_true h1)
  ·cases h
 ·unfold r188 at h; split at h
  ·obtain ⟨h1,rfl⟩:=Zar h; exact c188 ⟨_,_,_,_⟩ (of_decide_eq_true h1)
  ·cases h
def Ln.has (l:Ln) (p:Pt):Bool:=decide (l.beside p=0)&&within (l.along p) 0 (Qa Qb (l.full*p.d))
theorem c189 (l:Ln) (p:Pt) (hn:l.n≠0):PCall Tryz.prog 163 [l.av,p.av] ⟨Bo (l.has p),[]⟩:=by
 obtain ⟨x,y,dx,dy⟩:=l
 obtain ⟨a,b,c,d⟩:=p
 refine pn Zwm Tryz.func163 ?_
 repeat'(first|refine wk0 ?_|(refine wk2 ?_ ?_<;>intro _)|fail)
 all_goals exact Za (by clear hn; simp_all [Ln.has])
def Ln.a (l:Ln):Pt:=⟨l.x,l.y,0,1⟩
def Ln.b (l:Ln):Pt:=⟨Qa Qb (l.x+l.dx),Qa Qb (l.y+l.dy),0,1⟩
theorem c199 (l:Ln):PCall Tryz.prog 181 [l.av] ⟨.tup [l.a.av,l.b.av],[]⟩:=by
 refine pn Zwm Tryz.func181 ?_
 repeat'(first|refine wk0 ?_|(refine wk2 ?_ ?_<;>intro _)|fail)
 exact Zg rfl rfl
def r189:List AV->Option PRes
 | [.agg [.int .i64 x,.int .i64 y,.int .i64 dx,.int .i64 dy],.agg [.int .i64 a,.int .i64 b,.int .i64 c,.int .i64 d]]=>asr (decide ((Ln.mk x y dx dy).n≠0)) ⟨Bo ((Ln.mk x y dx dy).has ⟨a,b,c,d⟩),[]⟩
 | _=>none
def r199:List AV->Option PRes
 | [.agg [.int .i64 x,.int .i64 y,.int .i64 dx,.int .i64 dy]]=>some ⟨.tup [P4 x y 0 1,P4 (Qa Qb (x+dx)) (Qa Qb (y+dy)) 0 1],[]⟩
 | _=>none
def kR4:PC:=ins 163 r189 (ins 181 r199 kR3)
theorem Zeu:PCOK Tryz.prog kR4:=by
 refine Zk (fun a res h=>?_) (Zk (fun a res h=>?_) Zwm)
 ·unfold r189 at h; split at h
  ·obtain ⟨h1,rfl⟩:=Zar h; exact c189 ⟨_,_,_,_⟩ ⟨_,_,_,_⟩ (of_decide_eq_true h1)
  ·cases h
 ·unfold r199 at h; split at h<;>cases h; exact c199 ⟨_,_,_,_⟩
def Ln.touch (l m:Ln):Bool :=
 (l.has m.a||l.has m.b||m.has l.a||m.has l.b)||(decide (Qa Qb (sgn (l.beside m.a)*sgn (l.beside m.b))<0)&&decide (Qa Qb (sgn (m.beside l.a)*sgn (m.beside l.b))<0))
theorem c198 (l m:Ln) (hn:l.n≠0) (hm:m.n≠0):PCall Tryz.prog 180 [l.av,m.av] ⟨Bo (l.touch m),[]⟩:=by
 obtain ⟨x,y,dx,dy⟩:=l
 obtain ⟨u,v,du,dv⟩:=m
 refine pn Zeu Tryz.func180 ?_
 repeat'(first|refine wk0 ?_|(refine wk2 ?_ ?_<;>intro _)|fail)
 all_goals exact Za (by clear hn hm; simp_all [Ln.touch,Ln.a,Ln.b]<;>first|rfl|(intro hx; exact absurd (of_decide_eq_true hx) (by omega)))
def Zko (c:Can):Ln:=⟨c.fx,c.fy,Qa Qb (c.tx-c.fx),0⟩
def Zkn (c:Can):Ln:=⟨c.tx,c.fy,0,Qa Qb (c.ty-c.fy)⟩
def Zkm (c:Can):Ln:=⟨c.tx,c.ty,Qa Qb (0-Qa Qb (c.tx-c.fx)),0⟩
def Zkl (c:Can):Ln:=⟨c.fx,c.ty,0,Qa Qb (0-Qa Qb (c.ty-c.fy))⟩
theorem c200 (c:Can):PCall Tryz.prog 182 [.agg c.av] ⟨.agg [I (Zko c).x,I (Zko c).y,I (Zko c).dx,I (Zko c).dy,I (Zkn c).x,I (Zkn c).y,I (Zkn c).dx,I (Zkn c).dy,I (Zkm c).x,I (Zkm c).y,I (Zkm c).dx,I (Zkm c).dy,I (Zkl c).x,I (Zkl c).y,I (Zkl c).dx,I (Zkl c).dy],[]⟩:=by
 refine pn Zeu Tryz.func182 ?_
 repeat'(first|refine wk0 ?_|(refine wk2 ?_ ?_<;>intro _)|fail)
 exact Zg rfl rfl
def Zh2 (c:Can) (p:Pt):Bool:=within p.x (Qa Qb (imin c.fx c.tx*p.d)) (Qa Qb (imax c.fx c.tx*p.d))&&within p.y (Qa Qb (imin c.fy c.ty*p.d)) (Qa Qb (imax c.fy c.ty*p.d))
theorem c191 (c:Can) (p:Pt):PCall Tryz.prog 183 [.agg c.av,p.av] ⟨Bo (Zh2 c p),[]⟩:=by
 refine pn Zeu Tryz.func183 ?_
 repeat'(first|refine wk0 ?_|(refine wk2 ?_ ?_<;>intro _)|fail)
 all_goals exact Za (by simp_all [Zh2])
def lnOf (cs:List (Int × Int)) (i:Nat):Ln:=⟨(cor cs i).1,(cor cs i).2,Qa Qb ((cor cs ((i+1)%cs.length)).1-(cor cs i).1),Qa Qb ((cor cs ((i+1)%cs.length)).2-(cor cs i).2)⟩
theorem c105 {h:Hal} (hf:h.few) {k:Nat} (hk:k<h.cs.length):PCall Tryz.prog 86 [h.av,I k] ⟨(lnOf h.cs k).av,[]⟩:=by
 have e1:=Zc4 hk
 have e2:=Zc4 (ps:=h.cs) (i:=(k+1)%h.cs.length) (Tl _ (by omega))
 have e3:(h.cs.map pt).length=h.cs.length:=by simp
 have hl:=hf.2.1
 have hw:Qa Qb ((k:Int)+1)=((k+1:Nat):Int):=Mw _ ⟨by omega,by omega⟩
 have hm:(Qa Qb ((k:Int)+1)).tmod ((h.cs.map pt).length:Int)=(((k+1)%h.cs.length:Nat):Int):=by rw [hw,e3]; rfl
 have e4:(h.cs.map pt)[((k:Nat):Int).toNat]?=some [I (cor h.cs k).1,I (cor h.cs k).2]:=by simpa using e1
 have e5:(h.cs.map pt)[((Qa Qb ((k:Int)+1)).tmod ((h.cs.map pt).length:Int)).toNat]?=some [I (cor h.cs ((k+1)%h.cs.length)).1,I (cor h.cs ((k+1)%h.cs.length)).2]:=by rw [hm,Re]; exact e2
 refine pn Zeu Tryz.func86 ?_
 repeat'(first|refine wk1 ?_|(refine wk2 ?_ ?_<;>intro _)|fail)
 exact Zg rfl rfl
theorem Ze2 (a b:ByteArray):(a==b)=decide (a=b):=by
 rw [Sk]
 obtain ⟨a⟩:=a
 obtain ⟨b⟩:=b
 have:((⟨a⟩:ByteArray)==⟨b⟩)=(a==b):=rfl
 rw [this]
 simp
def Xb (s:ByteArray):Nat->List Mat->Int
 | _,[]=>-1
 | i,m::l=>if m.nm==s then i else Xb s (i+1) l
theorem c128 {h:Hal} (hf:h.few) (s:ByteArray):PCall Tryz.prog 105 [h.av,.str s] ⟨I (Xb s 0 h.ms),[]⟩:=by
 refine pn Zeu Tryz.func105 ?_
 refine Zn (S:=Nat × Int) (fun t=>h.ms.length-t.1) (fun t=>[(2,.ptr 0 0 0),(1,.str s),(5,I t.2)]) (fun _=>[(0,.row 9 [h.cells] true false)]) 1 1 (fun t=>t.2=t.1/\t.1<=h.ms.length/\Xb s t.1 (h.ms.drop t.1)=Xb s 0 h.ms) (0,0) ⟨rfl,Qq _,rfl⟩ (Qe _) [] rfl (kps) (kps) ?_
 rintro ⟨k,i⟩ ⟨hi,hk,hh⟩
 dsimp only at hi hk hh ⊢
 subst hi
 refine bs.av (sx:=nos) Zeu ?_
 have e3:=Zdp h.ms
 by_cases hlt:k<h.ms.length
 ·have e1:=Zry hlt
  rw [Ql hlt,Xb] at hh
  cases hb:(h.ms[k].nm==s) with
  | true =>
   rw [hb,if_pos rfl] at hh
   repeat'(first|refine wk1 ?_|(refine wk2 ?_ ?_<;>intro _)|fail)
   ·exact Zd hh
   ·rename_i hx; rw [hb] at hx; cases hx
  | false =>
   rw [hb,if_neg (by simp)] at hh
   repeat'(first|refine wk1 ?_|(refine wk2 ?_ ?_<;>intro _)|fail)
   ·rename_i hx; rw [hb] at hx; cases hx
   ·exact Qr ⟨(k+1,_),[],rfl,kps,kps,⟨Zb (by have:=hf.1; omega),hlt,hh⟩,by dsimp only; omega⟩
 ·rw [Qo (by omega)] at hh
  repeat'(first|refine wk1 ?_|(refine wk2 ?_ ?_<;>intro _)|fail)
  exact Zd hh
def Xj (s:ByteArray):Bool:=decide (1<=(s.size:Int))&&(decide ((s.size:Int)<=12)&&Zc0 true s.data.toList)
theorem c161 {s:ByteArray} (hs:s.data.toList.length<100000):PCall Tryz.prog 103 [.str s] ⟨Bo (Xj s),[]⟩:=by
 have hz:s.size=s.data.toList.length:=by simp
 refine pn Ze Tryz.func103 ?_
 repeat'(first|refine wk0 ?_|(refine wk2 ?_ ?_<;>intro _)|fail)
 ·rename_i hx
  have hx:=of_decide_eq_true hx
  exact Za (by rw [Xj,decide_eq_false (by omega)]; rfl)
 ·exact Za (by clear hz hs; simp_all [Xj]<;>omega)
 ·rename_i hb1 hb2
  have hb:Xj s=Zc0 true s.data.toList:=by clear hz; simp_all [Xj]
  rw [hb]
  refine Zn (S:=Nat × Int) (fun t=>s.data.toList.length-t.1) (fun t=>[(0,.str s),(3,I t.2)]) (fun _=>[]) 0 0 (fun t=>t.2=t.1/\t.1<=s.data.toList.length/\Zc0 (decide (t.1=0)) (s.data.toList.drop t.1)=Zc0 true s.data.toList) (0,0) ⟨rfl,Qq _,rfl⟩ (Qe _) [] rfl (kps) (kps) ?_
  rintro ⟨k,i⟩ ⟨hi,hk,hh⟩
  dsimp only at hi hk hh ⊢
  subst hi
  clear hb1 hb2 hb
  have hk9:k<9000000000:=by omega
  refine bs.av (sx:=nos) Ze ?_
  by_cases hlt:k<s.data.toList.length
  ·have e1:s.data.toList[((k:Nat):Int).toNat]?=some s.data.toList[k]:=by simp only [Re]; exact List.getElem?_eq_getElem hlt
   rw [Ql hlt,Zjd] at hh
   generalize s.data.toList[k]=c0 at *
   repeat'(first|refine wk1 ?_|(refine wk2 ?_ ?_<;>intro _)|fail)
   all_goals (clear e1)
   all_goals (generalize c0.toNat=c at *)
   all_goals (clear hz hs)
   all_goals first
    | exact Za (by
      have hg:Zkg (decide (k=0)) c=false:=by clear hh; simp_all [Zkg,Zjl]<;>omega
      rw [hg,Bool.false_and] at hh
      exact hh)
    | exact Qr ⟨(k+1,_),[],rfl,kps,trivial,⟨Zb hk9,hlt,by
      have hg:Zkg (decide (k=0)) c=true:=by clear hh; simp_all [Zkg,Zjl]<;>omega
      rw [hg,Wm] at hh
      exact hh⟩,by dsimp only; omega⟩
  ·rw [Qo (by omega)] at hh
   repeat'(first|refine wk1 ?_|(refine wk2 ?_ ?_<;>intro _)|fail)
   exact Za hh
theorem Zcc (s:ByteArray):Xj s=Uh s:=by
 unfold Xj Uh
 have h1:(s==⟨#[]⟩)=decide (s.size=0):=by
  rw [Ze2,Sk]
  simp only [decide_eq_true_eq]
  constructor
  ·rintro rfl; rfl
  ·intro h0
   obtain ⟨d⟩:=s
   have:d = #[]:=by simpa [ByteArray.size] using h0
   rw [this]
 rw [h1]
 have h2:decide (1<=(s.size:Int)) = !decide (s.size=0):=by
  rw [Sk]; simp only [decide_eq_true_eq,Bool.not_eq_true',decide_eq_false_iff_not]; omega
 rw [h2]
 cases Zc0 true s.data.toList<;>cases decide (s.size=0)<;>simp
noncomputable def fam (g:Nat->List AV) (r:Nat->PRes) (n:Nat) (a:List AV):Option PRes:=by
 classical exact if hx:∃ k,k<n/\a=g k then some (r (Gi hx)) else none
theorem Zxn {g:Nat->List AV} {r:Nat->PRes} {n k:Nat} (hi:∀ j,g j=g k->r j=r k) (hk:k<n):fam g r n (g k)=some (r k):=by
 classical
 unfold fam
 have hx:∃ j,j<n/\g k=g j:=⟨k,hk,rfl⟩
 rw [dif_pos hx,hi _ (Nq hx).2.symm]
theorem Zsn {f0:FuncId} {g:Nat->List AV} {r:Nat->PRes} {n:Nat} {pt:PC} (h0:∀ k,k<n->PCall Tryz.prog f0 (g k) (r k)) (h:PCOK Tryz.prog pt):PCOK Tryz.prog (ins f0 (fam g r n) pt):=by
 classical
 refine Zk (fun a res hr=>?_) h
 unfold fam at hr
 split at hr
 ·rename_i hx
  obtain ⟨h1,h2⟩:=Nq hx
  cases hr
  have:=h0 _ h1
  rw [<-h2] at this
  exact this
 ·cases hr
noncomputable abbrev lines (h:Hal):List AV->Option PRes:=fam (fun k=>[h.av,I (k:Int)]) (fun k=>⟨(lnOf h.cs k).av,[]⟩) h.cs.length
theorem Uf {h:Hal} {k:Nat} (hk:k<h.cs.length):lines h [h.av,I (k:Int)]=some ⟨(lnOf h.cs k).av,[]⟩ :=
 Zxn (g:=fun k=>[h.av,I (k:Int)]) (r:=fun k=>⟨(lnOf h.cs k).av,[]⟩) (fun j hj=>by
  simp only [Rf,AV.int.injEq,Int.natCast_inj,true_and,and_true] at hj
  rw [hj]) hk
noncomputable def kR5 (h:Hal):PC:=ins 86 (lines h) kR4
theorem Zr5 {h:Hal} (hf:h.few):PCOK Tryz.prog (kR5 h):=Zsn (fun k hk=>c105 hf hk) Zeu
def Zo6 (n:Int) (w:Wl):Int:=Qa Qb (Qa Qb (n+Qa Qb (w.fx*w.ty))-Qa Qb (w.tx*w.fy))
def Zil (cs:List (Int × Int)):Int:=(wls cs).foldl Zo6 0
theorem Zgu (cs:List (Int × Int)):(wls cs).length=cs.length:=by simp [wls]
theorem Ycn {cs:List (Int × Int)} {k:Nat} (h:k<cs.length):(wls cs)[k]'(by rw [Zgu]; exact h)=wlOf cs k:=by simp [wls]
theorem Zy8 {cs:List (Int × Int)} {k:Nat} (h:k<cs.length):(wls cs).drop k=wlOf cs k::(wls cs).drop (k+1):=by
 rw [Ql (by rw [Zgu]; exact h),Ycn h]
theorem c46 {h:Hal} (hf:h.few):PCall Tryz.prog 109 [h.av] ⟨I (Zil h.cs),[]⟩:=by
 refine pn Zeu Tryz.func109 ?_
 refine Zn (S:=Nat × Int × Int) (fun t=>h.cs.length-t.1) (fun t=>[(1,.ptr 0 0 0),(3,I t.2.2),(4,I t.2.1)]) (fun _=>[(0,.row 9 [h.cells] true false)]) 1 1 (fun t=>t.2.1=t.1/\t.1<=h.cs.length/\((wls h.cs).drop t.1).foldl Zo6 t.2.2=Zil h.cs) (0,0,0) ⟨rfl,Qq _,rfl⟩ (Qe _) [] rfl (kps) (kps) ?_
 rintro ⟨k,i,n⟩ ⟨hi,hk,hh⟩
 dsimp only at hi hk hh ⊢
 subst hi
 refine bs.av (sx:=nos) Zeu ?_
 have e3:=Zo0 h.cs
 have hl:=hf.2.1
 by_cases hlt:k<h.cs.length
 ·rw [Zy8 hlt,List.foldl_cons] at hh
  have e1:=Zc4 hlt
  have e2:=Zc4 (ps:=h.cs) (i:=(k+1)%h.cs.length) (Tl _ (by omega))
  have hw:Qa Qb ((k:Int)+1)=((k+1:Nat):Int):=Mw _ ⟨by omega,by omega⟩
  have hm:(Qa Qb ((k:Int)+1)).tmod ((h.cs.map pt).length:Int)=(((k+1)%h.cs.length:Nat):Int):=by rw [hw,e3]; rfl
  have e4:(h.cs.map pt)[((k:Nat):Int).toNat]?=some [I (cor h.cs k).1,I (cor h.cs k).2]:=by simpa using e1
  have e5:(h.cs.map pt)[((Qa Qb ((k:Int)+1)).tmod ((h.cs.map pt).length:Int)).toNat]?=some [I (cor h.cs ((k+1)%h.cs.length)).1,I (cor h.cs ((k+1)%h.cs.length)).2]:=by rw [hm,Re]; exact e2
  repeat'(first|refine wk1 ?_|(refine wk2 ?_ ?_<;>intro _)|fail)
  exact Qr ⟨(k+1,_,_),[],rfl,kps,kps,⟨Zb (by omega),hlt,hh⟩,by dsimp only; omega⟩
 ·rw [Qo (by rw [Zgu]; omega)] at hh
  repeat'(first|refine wk1 ?_|(refine wk2 ?_ ?_<;>intro _)|fail)
  exact Zd hh
def Hal.nz (h:Hal):Prop:=∀ k,k<h.cs.length->(lnOf h.cs k).n≠0
def Zoh (p:Pt) (l:Ln):Bool :=
 ((decide (Qa Qb (l.y*p.d)<=p.y) && !decide (Qa Qb (Qa Qb (l.y+l.dy)*p.d)<=p.y))&&decide (0<l.beside p))||((!decide (Qa Qb (l.y*p.d)<=p.y)&&decide (Qa Qb (Qa Qb (l.y+l.dy)*p.d)<=p.y))&&decide (l.beside p<0))
def Zkf (p:Pt):Bool->List Ln->Bool
 | b,[]=>b
 | b,l::r=>if l.has p then false else Zkf p (b ^^ Zoh p l) r
def lns (cs:List (Int × Int)):List Ln:=(List.range cs.length).map (lnOf cs)
theorem Zau (cs:List (Int × Int)):(lns cs).length=cs.length:=by simp [lns]
theorem Zf0 {cs:List (Int × Int)} {k:Nat} (h:k<cs.length):(lns cs).drop k=lnOf cs k::(lns cs).drop (k+1):=by
 rw [Ql (by rw [Zau]; exact h)]; simp [lns]
def Yb (h:Hal) (p:Pt):Bool:=Zkf p false (lns h.cs)
theorem Zt3 {p:Pt} {b:Bool} {l:Ln} {r:List Ln} (h:l.has p=false):Zkf p b (l::r)=Zkf p (b ^^ Zoh p l) r:=by rw [Zkf,if_neg (by simp [h])]
theorem Zwx {p:Pt} {b:Bool} {l:Ln} {r:List Ln} (h:l.has p=true):Zkf p b (l::r)=false:=by rw [Zkf,if_pos h]
theorem c106 {h:Hal} (hf:h.few) (hwc:h.ws.length=h.cs.length) (hz:h.nz) (p:Pt):PCall Tryz.prog 84 [h.av,p.av] ⟨Bo (Yb h p),[]⟩:=by
 obtain ⟨px,py,pz,pd⟩:=p
 refine pn (Zr5 hf) Tryz.func84 ?_
 refine Zn (S:=Nat × Int × Bool) (fun t=>h.ws.length-t.1) (fun t=>[(2,.ptr 0 0 0),(3,.ptr 1 0 0),(5,Bo t.2.2),(6,I t.2.1)]) (fun _=>[(1,.row 4 [[I px,I py,I pz,I pd]] true false),(0,.row 9 [h.cells] true false)]) 2 2 (fun t=>t.2.1=t.1/\t.1<=h.ws.length/\Zkf ⟨px,py,pz,pd⟩ t.2.2 ((lns h.cs).drop t.1)=Yb h ⟨px,py,pz,pd⟩) (0,0,false) ⟨rfl,Qq _,rfl⟩ (Qe _) [] rfl (kps) (kps) ?_
 rintro ⟨k,i,b⟩ ⟨hi,hk,hh⟩
 dsimp only at hi hk hh ⊢
 subst hi
 refine bs.av (sx:=nos) (Zr5 hf) ?_
 have e3:=Uz h.ws
 have hl:=hf.2.1
 by_cases hlt:k<h.ws.length
 ·have e1:=Uf (h:=h) (k:=k) (by omega)
  have hn:=hz k (by omega)
  rw [Zf0 (by omega)] at hh
  generalize lnOf h.cs k=L at *
  obtain ⟨lx,ly,ldx,ldy⟩:=L
  cases hb:(Ln.mk lx ly ldx ldy).has ⟨px,py,pz,pd⟩ with
  | true =>
   rw [Zwx hb] at hh
   repeat'(first|refine wk1 ?_|(refine wk2 ?_ ?_<;>intro _)|fail)
   ·exact Za hh
   all_goals (exfalso; clear hh e1 hz hn; simp_all; done)
  | false =>
   rw [Zt3 hb] at hh
   repeat'(first|refine wk1 ?_|(refine wk2 ?_ ?_<;>intro _)|fail)
   ·exfalso; clear hh e1 hz hn; simp_all; done
   all_goals (clear e1 hz hn e3)
   all_goals exact Qr ⟨(k+1,_,_),[],rfl,kps,kps,⟨Zb (by omega),hlt,by rw [<-hh]; congr 1; clear hh hl hlt hk; cases b<;>simp_all [Zoh]<;>omega⟩,by dsimp only; omega⟩
 ·rw [Qo (by rw [Zau]; omega)] at hh
  repeat'(first|refine wk1 ?_|(refine wk2 ?_ ?_<;>intro _)|fail)
  exact Za hh
def Zg4 (cs:List (Int × Int)) (n:Int) (i k:Nat):Bool :=
 !((!decide ((k:Int)=Qa Qb ((i:Int)+1)) && !(decide ((i:Int)=0)&&decide ((k:Int)=Qa Qb (n-1))))&&(lnOf cs i).touch (lnOf cs k)) &&
 !((decide ((k:Int)=Qa Qb ((i:Int)+1))&&((lnOf cs k).has (lnOf cs i).a||(lnOf cs i).has (lnOf cs k).b))||((decide ((i:Int)=0)&&decide ((k:Int)=Qa Qb (n-1)))&&((lnOf cs k).has (lnOf cs i).b||(lnOf cs i).has (lnOf cs k).a)))
def Zev (cs:List (Int × Int)) (n i k:Nat):Bool:=(Lz k (n-k)).all fun k=>Zg4 cs n i k
def Zer (cs:List (Int × Int)) (n i:Nat):Bool:=(Lz i (n-i)).all fun i=>Zev cs n i (i+1)
def Zdd (cs:List (Int × Int)):Bool:=Zer cs cs.length 0
theorem Zp3 {cs:List (Int × Int)} {n i k:Nat} (h:k<n):Zev cs n i k=(Zg4 cs n i k&&Zev cs n i (k+1)):=by
 unfold Zev
 rw [show n-k=(n-(k+1))+1 by omega,Gj]; rfl
theorem Zt2 {cs:List (Int × Int)} {n i k:Nat} (h:n<=k):Zev cs n i k=true:=by
 unfold Zev; rw [show n-k=0 by omega]; rfl
theorem Zpt {cs:List (Int × Int)} {n i:Nat} (h:i<n):Zer cs n i=(Zev cs n i (i+1)&&Zer cs n (i+1)):=by
 unfold Zer
 rw [show n-i=(n-(i+1))+1 by omega,Gj]; rfl
theorem Zts {cs:List (Int × Int)} {n i:Nat} (h:n<=i):Zer cs n i=true:=by
 unfold Zer; rw [show n-i=0 by omega]; rfl
def r198:List AV->Option PRes
 | [.agg [.int .i64 x,.int .i64 y,.int .i64 dx,.int .i64 dy],.agg [.int .i64 u,.int .i64 v,.int .i64 du,.int .i64 dv]]=>asr (decide ((Ln.mk x y dx dy).n≠0/\(Ln.mk u v du dv).n≠0)) ⟨Bo ((Ln.mk x y dx dy).touch ⟨u,v,du,dv⟩),[]⟩
 | _=>none
noncomputable def kR6 (h:Hal):PC:=ins 180 r198 (kR5 h)
theorem Ybt {h:Hal} (hf:h.few):PCOK Tryz.prog (kR6 h):=by
 refine Zk (fun a res h=>?_) (Zr5 hf)
 unfold r198 at h; split at h
 ·obtain ⟨h1,rfl⟩:=Zar h; exact c198 ⟨_,_,_,_⟩ ⟨_,_,_,_⟩ (of_decide_eq_true h1).1 (of_decide_eq_true h1).2
 ·cases h
theorem c165 {h:Hal} (hf:h.few) (hwc:h.ws.length=h.cs.length) (hz:h.nz):PCall Tryz.prog 108 [h.av] ⟨Bo (Zdd h.cs),[]⟩:=by
 have hk6:=Ybt hf
 have e3:(h.ws.map Pi).length=h.cs.length:=by simp [hwc]
 have hl:=hf.2.1
 refine pn hk6 Tryz.func108 ?_
 refine Zn (S:=Nat × Int) (fun t=>h.cs.length-t.1) (fun t=>[(1,.ptr 0 0 0),(3,I (h.ws.map Pi).length),(4,I t.2)]) (fun _=>[(0,.row 9 [h.cells] true false)]) 1 1 (fun t=>t.2=t.1/\t.1<=h.cs.length/\Zer h.cs h.cs.length t.1=Zdd h.cs) (0,0) ⟨rfl,Qq _,rfl⟩ (Qe _) [] rfl (kps) (kps) ?_
 rintro ⟨i,i'⟩ ⟨hi,hk,hh⟩
 dsimp only at hi hk hh ⊢
 subst hi
 refine bs.av (sx:=nos) hk6 ?_
 by_cases hlt:i<h.cs.length
 ·rw [Zpt hlt] at hh
  repeat'(first|refine wk1 ?_|(refine wk2 ?_ ?_<;>intro _)|fail)
  refine Zn (S:=Nat × Int) (fun t=>h.cs.length-t.1) (fun t=>[(1,.ptr 0 0 0),(3,I (h.ws.map Pi).length),(4,I i),(5,I t.2)]) (fun _=>[(0,.row 9 [h.cells] true false)]) 1 1 (fun t=>t.2=t.1/\t.1<=h.cs.length/\(Zev h.cs h.cs.length i t.1&&Zer h.cs h.cs.length (i+1))=Zdd h.cs) (i+1,Qa Qb ((i:Int)+1)) ⟨Zb (by omega),hlt,hh⟩ (Qe _) [] rfl (kps) (kps) ?_
  rintro ⟨k,k'⟩ ⟨hi,hk2,h3⟩
  dsimp only at hi hk2 h3 ⊢
  subst hi
  refine bs.av (sx:=nos) hk6 ?_
  by_cases hlt2:k<h.cs.length
  ·rw [Zp3 hlt2,Zg4] at h3
   have e1:=Uf (h:=h) hlt
   have e2:=Uf (h:=h) hlt2
   have hn1:=hz i hlt
   have hn2:=hz k hlt2
   generalize lnOf h.cs i=L at *
   generalize lnOf h.cs k=M at *
   obtain ⟨lx,ly,ldx,ldy⟩:=L
   obtain ⟨mx,my,mdx,mdy⟩:=M
   have hn3:(Ln.mk lx ly ldx ldy).n≠0/\(Ln.mk mx my mdx mdy).n≠0:=⟨hn1,hn2⟩
   have e3':=e3
   clear hz hh
   rw [Bool.and_assoc] at h3
   generalize hT:(Zev h.cs h.cs.length i (k+1)&&Zer h.cs h.cs.length (i+1))=T at *
   generalize hU:Zdd h.cs=U at *
   rw [<-e3] at h3
   simp only [Ln.a,Ln.b] at h3
   clear e3
   repeat'(first|refine wk1 ?_|(refine wk2 ?_ ?_<;>intro _)|fail)
   all_goals (clear e1 e2 hn1 hn2 hn3)
   all_goals first
    | exact Za (by rw [<-h3]; clear hT hU h3 hk hk2 hlt hlt2 hl hwc e3' hk6; simp_all; done)
    | exact Qr ⟨(k+1,_),[],rfl,kps,kps,⟨Zb (by omega),hlt2,by rw [hT,<-h3]; clear hT hU h3 hk hk2 hlt hlt2 hl hwc e3' hk6; simp_all; done⟩,by dsimp only; omega⟩
    | (exfalso; clear hT hU h3 hk hk2 hlt hlt2 hl hwc e3' hk6; simp_all; done)
  ·rw [Zt2 (by omega),Wm] at h3
   repeat'(first|refine wk1 ?_|(refine wk2 ?_ ?_<;>intro _)|fail)
   exact Qr ⟨(i+1,_),[],rfl,kps,kps,⟨Zb (by omega),hlt,h3⟩,by dsimp only; omega⟩
 ·rw [Zts (by omega)] at hh
  repeat'(first|refine wk1 ?_|(refine wk2 ?_ ?_<;>intro _)|fail)
  exact Za hh
noncomputable def famA {α:Type} (p:α->Prop) (g:α->List AV) (r:α->PRes) (a:List AV):Option PRes:=by
 classical exact if hx:∃ k,p k/\a=g k then some (r (Gi hx)) else none
theorem Zq {α:Type} {p:α->Prop} {g:α->List AV} {r:α->PRes} {k:α} (hi:∀ j,g j=g k->r j=r k) (hk:p k):famA p g r (g k)=some (r k):=by
 classical
 unfold famA
 have hx:∃ j,p j/\g k=g j:=⟨k,hk,rfl⟩
 rw [dif_pos hx,hi _ (Nq hx).2.symm]
theorem Zx {f0:FuncId} {α:Type} {p:α->Prop} {g:α->List AV} {r:α->PRes} {pt:PC} (h0:∀ k,p k->PCall Tryz.prog f0 (g k) (r k)) (h:PCOK Tryz.prog pt):PCOK Tryz.prog (ins f0 (famA p g r) pt):=by
 classical
 refine Zk (fun a res hr=>?_) h
 unfold famA at hr
 split at hr
 ·rename_i hx
  obtain ⟨h1,h2⟩:=Nq hx
  cases hr
  have:=h0 _ h1
  rw [<-h2] at this
  exact this
 ·cases hr
noncomputable abbrev mats (h:Hal):List AV->Option PRes:=famA (fun _=>True) (fun s=>[h.av,.str s]) (fun s=>⟨I (Xb s 0 h.ms),[]⟩)
theorem Zed (h:Hal) (s:ByteArray):mats h [h.av,.str s]=some ⟨I (Xb s 0 h.ms),[]⟩ :=
 Zq (g:=fun s=>[h.av,.str s]) (r:=fun s=>⟨I (Xb s 0 h.ms),[]⟩) (fun j hj=>by
  simp only [Rf,AV.str.injEq,true_and,and_true] at hj
  rw [hj]) trivial
def r161:List AV->Option PRes
 | [.str s]=>asr (decide (s.data.toList.length<100000)) ⟨Bo (Xj s),[]⟩
 | _=>none
noncomputable def kR7 (h:Hal):PC:=ins 103 r161 (ins 105 (mats h) (kR6 h))
theorem Zr4 {h:Hal} (hf:h.few):PCOK Tryz.prog (kR7 h):=by
 refine Zk (fun a res h=>?_) (Zx (fun s _=>c128 hf s) (Ybt hf))
 unfold r161 at h; split at h
 ·obtain ⟨h1,rfl⟩:=Zar h; exact c161 (of_decide_eq_true h1)
 ·cases h
def Zbs (h:Hal) (p:Pt):Bool:=(decide (0<p.z)&&decide (p.z<Qa Qb (h.ht*p.d)))&&Yb h p
theorem c52 {h:Hal} (hf:h.few) (hwc:h.ws.length=h.cs.length) (hz:h.nz) (p:Pt):PCall Tryz.prog 112 [h.av,p.av] ⟨Bo (Zbs h p),[]⟩:=by
 obtain ⟨px,py,pz,pd⟩:=p
 have hk:=Zf (c106 hf hwc hz ⟨px,py,pz,pd⟩) Zeu
 refine pn hk Tryz.func112 ?_
 repeat'(first|refine wk0 ?_|(refine wk2 ?_ ?_<;>intro _)|fail)
 all_goals (clear hk hz)
 all_goals exact Za (by simp_all [Zbs]<;>omega)
def Zcp (l:Ln):Int:=if decide (l.dx=0)&&decide (l.dy=0) then 11 else if (!decide (l.dx=0) && !decide (l.dy=0)) && !decide (size l.dx=size l.dy) then 15 else 0
def Zgv (h:Hal) (i:Nat) (w:Wal):Int :=
 if Xj w.nm then (if (h.ws.take i).any (fun v=>v.nm==w.nm) then 5 else if (w.nm==Zae)||(w.nm==Zdz) then 5 else if decide (Xb w.mt 0 h.ms<0)||(!(w.cu==⟨#[]⟩)&&decide (Xb w.cu 0 h.ms<0)) then 6 else Zcp (lnOf h.cs i)) else 4
theorem c164 {h:Hal} (hf:h.few) (ht:h.texts) (hwc:h.ws.length=h.cs.length) {i:Nat} (hi:i<h.ws.length):PCall Tryz.prog 107 [h.av,I i] ⟨I (Zgv h i h.ws[i]),[]⟩:=by
 have hk7:=Zr4 hf
 have e3:=Uz h.ws
 have e1:=Zmy hi
 have hs:=ht.ws _ (Qn hi)
 have hl:=hf.2.2.1
 generalize hw:h.ws[i]=w at *
 refine pn hk7 Tryz.func107 ?_
 repeat'(first|refine wk1 ?_|(refine wk2 ?_ ?_<;>intro _)|fail)
 ·exact Zd (by clear e1 e3 hk7; simp_all [Zgv])
 ·rename_i hb
  have hnm:Xj w.nm=true:=by simpa using hb
  refine Zn (S:=Nat × Int) (fun t=>i-t.1) (fun t=>[(2,.ptr 0 0 0),(1,I i),(5,.ptr 1 0 0),(6,I t.2)]) (fun _=>[(1,.row 3 [w.av] true false),(0,.row 9 [h.cells] true false)]) 2 2 (fun t=>t.2=t.1/\t.1<=i/\(h.ws.take t.1).any (fun v=>v.nm==w.nm)=false) (0,0) ⟨rfl,Qq _,rfl⟩ (Qe _) [] rfl (kps) (kps) ?_
  rintro ⟨k,k'⟩ ⟨hk,hk2,hh⟩
  dsimp only at hk hk2 hh ⊢
  subst hk
  refine bs.av (sx:=nos) hk7 ?_
  by_cases hlt:k<i
  ·have e4:=Zmy (l:=h.ws) (k:=k) (by omega)
   have e5:h.ws.take (k+1)=h.ws.take k++[h.ws[k]'(by omega)]:=by rw [Qv]
   cases hb2:((h.ws[k]'(by omega)).nm==w.nm) with
   | true =>
    repeat'(first|refine wk1 ?_|(refine wk2 ?_ ?_<;>intro _)|fail)
    ·exact Zd (by
      have:(h.ws.take i).any (fun v=>v.nm==w.nm)=true:=by
       rw [Ny]
       exact ⟨h.ws[k]'(by omega),Ld.2 ⟨k,by omega,rfl⟩,hb2⟩
      rw [Zgv,hnm,if_pos rfl,this,if_pos rfl])
    ·rename_i hx; rw [hb2] at hx; cases hx
   | false =>
    repeat'(first|refine wk1 ?_|(refine wk2 ?_ ?_<;>intro _)|fail)
    ·rename_i hx; rw [hb2] at hx; cases hx
    ·exact Qr ⟨(k+1,_),[],rfl,kps,kps,⟨Zb (by omega),hlt,by rw [e5,Jn,hh]; simp [hb2]⟩,by dsimp only; omega⟩
  ·have hki:k=i:=by omega
   subst hki
   have m1:=Zed h w.mt
   have m2:=Zed h w.cu
   have m3:=Uf (h:=h) (k:=k) (by omega)
   have e9:Zgv h k w=if (w.nm==Zae)||(w.nm==Zdz) then 5 else if decide (Xb w.mt 0 h.ms<0)||(!(w.cu==⟨#[]⟩)&&decide (Xb w.cu 0 h.ms<0)) then 6 else Zcp (lnOf h.cs k):=by
    rw [Zgv,hnm,if_pos rfl,hh,if_neg (by simp)]
   rw [e9]
   generalize lnOf h.cs k=L at *
   obtain ⟨lx,ly,ldx,ldy⟩:=L
   repeat'(first|refine wk1 ?_|(refine wk2 ?_ ?_<;>intro _)|fail)
   all_goals (clear e9 m1 m2 m3 e1 e3 hk7 hh hs hw hb hi hk2 hlt hwc hf ht hl)
   all_goals exact Zd (by by_cases hx:ldx=0<;>by_cases hy:ldy=0<;>simp_all [Zcp,Zae,Zdz])
def plc (n:Int):Bool:=within n (-5000) 5000
def Ziy (h:Hal) (i:Nat) (w:Sea):Int :=
 if Xj w.nm then (if (h.ss.take i).any (fun v=>v.nm==w.nm) then 5 else if plc w.x&&plc w.y&&plc w.z then (if Zbs h ⟨w.x,w.y,w.z,1⟩ then 0 else 24) else 2) else 4
theorem c167 {h:Hal} (hf:h.few) (ht:h.texts) (hwc:h.ws.length=h.cs.length) (hz:h.nz) {i:Nat} (hi:i<h.ss.length):PCall Tryz.prog 111 [h.av,I i] ⟨I (Ziy h i h.ss[i]),[]⟩:=by
 have e3:=Zdg h.ss
 have e1:=Zrk hi
 have hs:=ht.ss _ (Qn hi)
 have hl:=hf.2.2.2.2.1
 generalize hw:h.ss[i]=w at *
 have hk7:=Zf (c52 hf hwc hz ⟨w.x,w.y,w.z,1⟩) (Zr4 hf)
 refine pn hk7 Tryz.func111 ?_
 repeat'(first|refine wk1 ?_|(refine wk2 ?_ ?_<;>intro _)|fail)
 ·exact Zd (by clear e1 e3 hk7; simp_all [Ziy])
 ·rename_i hb
  have hnm:Xj w.nm=true:=by simpa using hb
  refine Zn (S:=Nat × Int) (fun t=>i-t.1) (fun t=>[(2,.ptr 0 0 0),(1,I i),(5,.ptr 1 0 0),(6,I t.2)]) (fun _=>[(1,.row 4 [w.av] true false),(0,.row 9 [h.cells] true false)]) 2 2 (fun t=>t.2=t.1/\t.1<=i/\(h.ss.take t.1).any (fun v=>v.nm==w.nm)=false) (0,0) ⟨rfl,Qq _,rfl⟩ (Qe _) [] rfl (kps) (kps) ?_
  rintro ⟨k,k'⟩ ⟨hk,hk2,hh⟩
  dsimp only at hk hk2 hh ⊢
  subst hk
  refine bs.av (sx:=nos) hk7 ?_
  by_cases hlt:k<i
  ·have e4:=Zrk (l:=h.ss) (k:=k) (by omega)
   have e5:h.ss.take (k+1)=h.ss.take k++[h.ss[k]'(by omega)]:=by rw [Qv]
   cases hb2:((h.ss[k]'(by omega)).nm==w.nm) with
   | true =>
    repeat'(first|refine wk1 ?_|(refine wk2 ?_ ?_<;>intro _)|fail)
    ·exact Zd (by
      have:(h.ss.take i).any (fun v=>v.nm==w.nm)=true:=by
       rw [Ny]
       exact ⟨h.ss[k]'(by omega),Ld.2 ⟨k,by omega,rfl⟩,hb2⟩
      rw [Ziy,hnm,if_pos rfl,this,if_pos rfl])
    ·rename_i hx; rw [hb2] at hx; cases hx
   | false =>
    repeat'(first|refine wk1 ?_|(refine wk2 ?_ ?_<;>intro _)|fail)
    ·rename_i hx; rw [hb2] at hx; cases hx
    ·exact Qr ⟨(k+1,_),[],rfl,kps,kps,⟨Zb (by omega),hlt,by rw [e5,Jn,hh]; simp [hb2]⟩,by dsimp only; omega⟩
  ·have hki:k=i:=by omega
   subst hki
   have e9:Ziy h k w=if plc w.x&&plc w.y&&plc w.z then (if Zbs h ⟨w.x,w.y,w.z,1⟩ then 0 else 24) else 2:=by
    rw [Ziy,hnm,if_pos rfl,hh,if_neg (by simp)]
   rw [e9]
   repeat'(first|refine wk1 ?_|(refine wk2 ?_ ?_<;>intro _)|fail)
   all_goals (clear e9 e1 e3 hk7 hh hs hw hb hi hk2 hlt hwc hf ht hl hz)
   all_goals exact Zd (by simp_all [plc])
def edges (c:Can):List Ln:=[Zko c,Zkn c,Zkm c,Zkl c]
def Xz (h:Hal) (l:Ln):Bool:=(lns h.cs).any fun m=>l.touch m
def Xe (h:Hal):List Ln->Bool
 | []=>true
 | l::r=>if Yb h l.a then (if Xz h l then false else Xe h r) else false
def Zdl (h:Hal) (c:Can):Bool:=Xe h (edges c) && !(h.cs.any fun p=>Zh2 c ⟨p.1,p.2,0,1⟩)
def Zh5 (h:Hal) (i:Nat) (c:Can):Int :=
 if Xj c.nm then (if (c.nm==Zae)||(c.nm==Zdz) then 5 else if h.ws.any (fun v=>v.nm==c.nm) then 5 else if (h.ks.take i).any (fun v=>v.nm==c.nm) then 5 else
  if decide (Xb c.mt 0 h.ms<0) then 6 else if within c.hs.length 1 4 then (if Zdv h.ht none c.hs=0 then (if plc c.fx&&plc c.fy&&plc c.tx&&plc c.ty then (if decide (c.fx=c.tx)||decide (c.fy=c.ty) then 11 else if Zdl h c then 0 else 24) else 2) else Zdv h.ht none c.hs) else 10) else 4
noncomputable abbrev plans (h:Hal):List AV->Option PRes:=famA (fun _=>True) (fun p:Pt=>[h.av,p.av]) (fun p=>⟨Bo (Yb h p),[]⟩)
theorem Zfs (h:Hal) (p:Pt):plans h [h.av,p.av]=some ⟨Bo (Yb h p),[]⟩ :=
 Zq (g:=fun p:Pt=>[h.av,p.av]) (r:=fun p=>⟨Bo (Yb h p),[]⟩) (fun j hj=>by
  obtain ⟨a,b,u,d⟩:=j
  obtain ⟨a',b',u',d'⟩:=p
  simp_all [Pt.av]) trivial
noncomputable abbrev bnds (c:Can):List AV->Option PRes:=famA (fun _=>True) (fun p:Pt=>[.agg c.av,p.av]) (fun p=>⟨Bo (Zh2 c p),[]⟩)
theorem Yaj (c:Can) (p:Pt):bnds c [.agg c.av,p.av]=some ⟨Bo (Zh2 c p),[]⟩ :=
 Zq (g:=fun p:Pt=>[.agg c.av,p.av]) (r:=fun p=>⟨Bo (Zh2 c p),[]⟩) (fun j hj=>by
  obtain ⟨a,b,u,d⟩:=j
  obtain ⟨a',b',u',d'⟩:=p
  simp_all [Pt.av]) trivial
noncomputable def kR8 (h:Hal) (c:Can):PC:=ins 84 (plans h) (ins 183 (bnds c) (kR7 h))
theorem Ygg {h:Hal} (hf:h.few) (hwc:h.ws.length=h.cs.length) (hz:h.nz) (c:Can):PCOK Tryz.prog (kR8 h c) :=
 Zx (fun p _=>c106 hf hwc hz p) (Zx (fun p _=>c191 c p) (Zr4 hf))
theorem Zrf {a b:Int} (ha:within a (-5000) 5000=true) (hb:within b (-5000) 5000=true) (h:decide (a=b)=false):imax (size (Qa Qb (b-a))) (size 0)≠0/\imax (size (Qa Qb (0-Qa Qb (b-a)))) (size 0)≠0/\imax (size 0) (size (Qa Qb (b-a)))≠0/\imax (size 0) (size (Qa Qb (0-Qa Qb (b-a))))≠0:=by
 simp only [within,Qc,decide_eq_true_eq] at ha hb
 have h':=of_decide_eq_false h
 have w1:Qa Qb (b-a)=b-a:=W_eq (by omega) (by omega)
 have w2:Qa Qb (0-(b-a))=0-(b-a):=W_eq (by omega) (by omega)
 have w3:Qa Qb (0-(0-(b-a)))=0-(0-(b-a)):=W_eq (by omega) (by omega)
 have w4:Qa Qb (0-0)=0:=W_eq (by omega) (by omega)
 rw [w1,w2]
 simp only [size]
 rw [w2,w3,w4]
 simp only [imax,Bool.cond_decide]
 refine ⟨?_,?_,?_,?_⟩<;>(repeat' split)<;>omega
theorem c166 {h:Hal} (hf:h.few) (ht:h.texts) (hwc:h.ws.length=h.cs.length) (hz:h.nz) {i:Nat} (hi:i<h.ks.length):PCall Tryz.prog 110 [h.av,I i] ⟨I (Zh5 h i h.ks[i]),[]⟩:=by
 have e3:=Zd0 h.ks
 have e1:=Zo3 hi
 have hs:=ht.ks _ (Qn hi)
 have hl:=hf.2.2.2.1
 have hlw:=hf.2.2.1
 have ew:=Uz h.ws
 generalize hw:h.ks[i]=c at *
 have hk7:=Zf (c200 c) (Ygg hf hwc hz c)
 refine pn hk7 Tryz.func110 ?_
 repeat'(first|refine wk1 ?_|(refine wk2 ?_ ?_<;>intro _)|fail)
 ·exact Zd (by clear e1 e3 hk7 hw; simp_all [Zh5])
 ·exact Zd (by clear e1 e3 hk7 hw; simp_all [Zh5,Zae,Zdz])
 ·exact Zd (by clear e1 e3 hk7 hw; simp_all [Zh5,Zae,Zdz])
 rename_i hb1 hb2 hb3
 have r0:Zh5 h i c=if h.ws.any (fun v=>v.nm==c.nm) then 5 else if (h.ks.take i).any (fun v=>v.nm==c.nm) then 5 else
  if decide (Xb c.mt 0 h.ms<0) then 6 else if within c.hs.length 1 4 then (if Zdv h.ht none c.hs=0 then (if plc c.fx&&plc c.fy&&plc c.tx&&plc c.ty then (if decide (c.fx=c.tx)||decide (c.fy=c.ty) then 11 else if Zdl h c then 0 else 24) else 2) else Zdv h.ht none c.hs) else 10:=by
  have q1:Xj c.nm=true:=by simpa using hb1
  have q2:((c.nm==Zae)||(c.nm==Zdz))=false:=by
   have q3:(c.nm==Zae)=false:=by simpa [Zae] using hb2
   have q4:(c.nm==Zdz)=false:=by simpa [Zdz] using hb3
   rw [q3,q4]; rfl
  rw [Zh5,q1,if_pos rfl,q2,if_neg (by simp)]
 rw [r0]
 clear r0 hb1 hb2 hb3
 refine Zn (S:=Nat × Int) (fun t=>h.ws.length-t.1) (fun t=>[(2,.ptr 0 0 0),(1,I i),(5,.ptr 1 0 0),(6,I t.2)]) (fun _=>[(1,.row 7 [c.av] true false),(0,.row 9 [h.cells] true false)]) 2 2 (fun t=>t.2=t.1/\t.1<=h.ws.length/\(h.ws.take t.1).any (fun v=>v.nm==c.nm)=false) (0,0) ⟨rfl,Qq _,rfl⟩ (Qe _) [] rfl (kps) (kps) ?_
 rintro ⟨k,k'⟩ ⟨hk,hk2,hh⟩
 dsimp only at hk hk2 hh ⊢
 subst hk
 refine bs.av (sx:=nos) hk7 ?_
 by_cases hlt:k<h.ws.length
 ·have e4:=Zmy (l:=h.ws) hlt
  have e5:h.ws.take (k+1)=h.ws.take k++[h.ws[k]]:=by rw [Qv]
  cases hb2:(h.ws[k].nm==c.nm) with
  | true =>
   repeat'(first|refine wk1 ?_|(refine wk2 ?_ ?_<;>intro _)|fail)
   ·exact Zd (by
     have:h.ws.any (fun v=>v.nm==c.nm)=true:=Ny.2 ⟨h.ws[k],Qn hlt,hb2⟩
     rw [this,if_pos rfl])
   ·rename_i hx; rw [hb2] at hx; cases hx
  | false =>
   repeat'(first|refine wk1 ?_|(refine wk2 ?_ ?_<;>intro _)|fail)
   ·rename_i hx; rw [hb2] at hx; cases hx
   ·exact Qr ⟨(k+1,_),[],rfl,kps,kps,⟨Zb (by omega),hlt,by rw [e5,Jn,hh]; simp [hb2]⟩,by dsimp only; omega⟩
 have r1:h.ws.any (fun v=>v.nm==c.nm)=false:=by rwa [List.take_of_length_le (by omega)] at hh
 rw [r1,if_neg (by simp)]
 repeat'(first|refine wk1 ?_|(refine wk2 ?_ ?_<;>intro _)|fail)
 clear r1 hh hlt hk2
 refine Zn (S:=Nat × Int) (fun t=>i-t.1) (fun t=>[(2,.ptr 0 0 0),(1,I i),(5,.ptr 1 0 0),(7,I t.2)]) (fun _=>[(1,.row 7 [c.av] true false),(0,.row 9 [h.cells] true false)]) 2 2 (fun t=>t.2=t.1/\t.1<=i/\(h.ks.take t.1).any (fun v=>v.nm==c.nm)=false) (0,0) ⟨rfl,Qq _,rfl⟩ (Qe _) [] rfl (kps) (kps) ?_
 rintro ⟨q,q'⟩ ⟨hk,hk2,hh⟩
 dsimp only at hk hk2 hh ⊢
 subst hk
 refine bs.av (sx:=nos) hk7 ?_
 by_cases hlt:q<i
 ·have e4:=Zo3 (l:=h.ks) (k:=q) (by omega)
  have e5:h.ks.take (q+1)=h.ks.take q++[h.ks[q]'(by omega)]:=by rw [Qv]
  cases hb2:((h.ks[q]'(by omega)).nm==c.nm) with
  | true =>
   repeat'(first|refine wk1 ?_|(refine wk2 ?_ ?_<;>intro _)|fail)
   ·exact Zd (by
     have:(h.ks.take i).any (fun v=>v.nm==c.nm)=true:=by
      rw [Ny]
      exact ⟨h.ks[q]'(by omega),Ld.2 ⟨q,by omega,rfl⟩,hb2⟩
     rw [this,if_pos rfl])
   ·rename_i hx; rw [hb2] at hx; cases hx
  | false =>
   repeat'(first|refine wk1 ?_|(refine wk2 ?_ ?_<;>intro _)|fail)
   ·rename_i hx; rw [hb2] at hx; cases hx
   ·exact Qr ⟨(q+1,_),[],rfl,kps,kps,⟨Zb (by omega),hlt,by rw [e5,Jn,hh]; simp [hb2]⟩,by dsimp only; omega⟩
 have hki:q=i:=by omega
 subst hki
 rw [hh,if_neg (by simp)]
 clear hlt hk2 hh
 have m1:=Zed h c.mt
 have e7:=Yv c.hs
 have hlc:c.hs.length<1000:=by have:=hf.2.2.2.2.2 _ (Qn hi); rwa [hw] at this
 repeat'(first|refine wk1 ?_|(refine wk2 ?_ ?_<;>intro _)|fail)
 ·rename_i hx; exact Zd (by rw [hx,if_pos rfl])
 ·rename_i hx hy
  exact Zd (by
   rw [hx,if_neg (by simp)]
   have:within c.hs.length 1 4=false:=by rw [<-e7]; simpa using hy
   rw [this,if_neg (by simp)])
 rename_i hx hy
 have r2:within c.hs.length 1 4=true:=by rw [<-e7]; simpa using hy
 rw [hx,if_neg (by simp),r2,if_pos rfl]
 clear hx hy r2 m1
 refine Zn (S:=Nat × Int) (fun t=>c.hs.length-t.1) (fun t=>[(2,.ptr 0 0 0),(1,I q),(5,.ptr 1 0 0),(8,I t.2)]) (fun _=>[(1,.row 7 [c.av] true false),(0,.row 9 [h.cells] true false)]) 2 2
  (fun t=>t.2=t.1/\t.1<=c.hs.length/\Zdv h.ht (Zbq c.hs t.1) (c.hs.drop t.1)=Zdv h.ht none c.hs) (0,0) ⟨rfl,Qq _,rfl⟩ (Qe _) [] rfl (kps) (kps) ?_
 rintro ⟨j,j'⟩ ⟨hj,hj2,hh⟩
 dsimp only at hj hj2 hh ⊢
 subst hj
 refine bs.av (sx:=nos) hk7 ?_
 by_cases hlt:j<c.hs.length
 ·have e8:=Zet hlt
  rw [Ql hlt,Zk8] at hh
  have e4:Qa Qb ((j:Int)-1)=(j:Int)-1:=W_eq (by omega) (by omega)
  have hh:=hh.symm
  cases j with
  | zero =>
   repeat'(first|refine wk1 ?_|(refine wk2 ?_ ?_<;>intro _)|fail)
   all_goals (clear hk7 e1 e8 hw)
   ·exact Zd (by rw [hh]; simp_all [Zbq])
   ·exact Qr ⟨(1,_),[],rfl,kps,kps,⟨by exact Zb (k:=0) (by omega),hlt,by rw [hh]; simp_all [Zbq]⟩,by dsimp only; omega⟩
  | succ j =>
   have e5:(nl c.hs)[(Qa Qb (((j+1:Nat):Int)-1)).toNat]?=some [I c.hs[j]]:=by
    rw [e4,show ((j+1:Nat):Int)-1=(j:Int) by omega]; exact Zet (by omega)
   have e6:Zbq c.hs (j+1)=some c.hs[j]:=by simp [Zbq,show j<c.hs.length by omega]
   rw [e6] at hh
   repeat'(first|refine wk1 ?_|(refine wk2 ?_ ?_<;>intro _)|fail)
   all_goals (clear e8 e5 hk7 e1 hw)
   ·exact Zd (by rw [hh]; clear hh; simp_all)
   ·exact Zd (by rw [hh]; clear hh; simp_all)
   ·exact Qr ⟨(j+2,_),[],rfl,kps,kps,⟨by exact Zb (k:=j+1) (by omega),hlt,by rw [hh,if_pos (by clear hh; simp_all),if_neg (by clear hh; simp_all)]; simp [Zbq,hlt]⟩,by dsimp only; omega⟩
 rw [Qo (by omega)] at hh
 have r3:Zdv h.ht none c.hs=0:=by rw [<-hh]; cases Zbq c.hs j<;>rfl
 rw [r3,if_pos rfl]
 clear hh r3
 repeat'(first|refine wk1 ?_|(refine wk2 ?_ ?_<;>intro _)|fail)
 ·exact Zd (by simp_all [plc])
 ·exact Zd (by simp_all [plc])
 ·exact Zd (by simp_all [plc])
 ·exact Zd (by simp_all [plc])
 ·exact Zd (by simp_all [plc])
 ·exact Zd (by simp_all [plc])
 rename_i g6 g5 g4 g3 g2 g1
 simp only [cond_false,Bool.not_eq_false'] at g1 g2 g3 g4 g5 g6
 have r4:(if plc c.fx&&plc c.fy&&plc c.tx&&plc c.ty then (if decide (c.fx=c.tx)||decide (c.fy=c.ty) then 11 else if Zdl h c then 0 else 24) else 2)=if Zdl h c then (0:Int) else 24:=by
  simp [plc, *]
 rw [r4]
 clear r4 hlt hj2 hlc e7
 have hn1:(Zko c).n≠0:=(Zrf g6 g4 g2).1
 have hn3:(Zkm c).n≠0:=(Zrf g6 g4 g2).2.1
 have hn2:(Zkn c).n≠0:=(Zrf g5 g3 g1).2.2.1
 have hn4:(Zkl c).n≠0:=(Zrf g5 g3 g1).2.2.2
 have ew2:(h.ws.map Pi).length=h.cs.length:=by rw [ew,hwc]
 have hlc:=hf.2.1
 clear g1 g2 g3 g4 g5 g6
 have r5:Zdl h c=(Xe h [Zko c,Zkn c,Zkm c,Zkl c] && !(h.cs.any fun p=>Zh2 c ⟨p.1,p.2,0,1⟩)):=rfl
 generalize Zko c=L1 at *
 generalize Zkn c=L2 at *
 generalize Zkm c=L3 at *
 generalize Zkl c=L4 at *
 obtain ⟨x1,y1,u1,v1⟩:=L1
 obtain ⟨x2,y2,u2,v2⟩:=L2
 obtain ⟨x3,y3,u3,v3⟩:=L3
 obtain ⟨x4,y4,u4,v4⟩:=L4
 rw [r5]
 clear r5
 generalize hTL:(!(h.cs.any fun p=>Zh2 c ⟨p.1,p.2,0,1⟩))=TL
 generalize hB:(Xe h [⟨x1,y1,u1,v1⟩,⟨x2,y2,u2,v2⟩,⟨x3,y3,u3,v3⟩,⟨x4,y4,u4,v4⟩]&&TL)=B
 refine Zn (S:=Nat × Int) (fun t=>4-t.1) (fun t=>[(2,.ptr 0 0 0),(1,I q),(5,.ptr 1 0 0),(9,.ptr 2 0 0),(10,I t.2)]) (fun _=>[(2,.row 16 [[I x1,I y1,I u1,I v1,I x2,I y2,I u2,I v2,I x3,I y3,I u3,I v3,I x4,I y4,I u4,I v4]] true false),(1,.row 7 [c.av] true false),(0,.row 9 [h.cells] true false)]) 3 3
  (fun t=>t.2=t.1/\t.1<=4/\(Xe h ([(Ln.mk x1 y1 u1 v1),(Ln.mk x2 y2 u2 v2),(Ln.mk x3 y3 u3 v3),(Ln.mk x4 y4 u4 v4)].drop t.1)&&TL)=B) (0,0) ⟨rfl,Qq _,hB⟩ (Qe _) [] rfl (kps) (kps) ?_
 clear hB
 rintro ⟨m,m'⟩ ⟨hm,hm2,hh⟩
 dsimp only at hm hm2 hh ⊢
 subst hm
 refine bs.av (sx:=nos) hk7 ?_
 have p1:=Zfs h (Ln.mk x1 y1 u1 v1).a
 have p2:=Zfs h (Ln.mk x2 y2 u2 v2).a
 have p3:=Zfs h (Ln.mk x3 y3 u3 v3).a
 have p4:=Zfs h (Ln.mk x4 y4 u4 v4).a
 by_cases h4:m<4
 rcases m with _|_|_|_|m
 ·have q1:(if Yb h (Ln.mk x1 y1 u1 v1).a then (if Xz h (Ln.mk x1 y1 u1 v1) then false else Xe h [(Ln.mk x2 y2 u2 v2),(Ln.mk x3 y3 u3 v3),(Ln.mk x4 y4 u4 v4)]) else false:Bool)=Xe h ([(Ln.mk x1 y1 u1 v1),(Ln.mk x2 y2 u2 v2),(Ln.mk x3 y3 u3 v3),(Ln.mk x4 y4 u4 v4)].drop 0):=rfl
  rw [<-q1] at hh
  clear q1
  generalize hT:Xe h [(Ln.mk x2 y2 u2 v2),(Ln.mk x3 y3 u3 v3),(Ln.mk x4 y4 u4 v4)]=T at hh
  repeat'(first|refine wk1 ?_|(refine wk2 ?_ ?_<;>intro _)|fail)
  ·rename_i hx; exact Zd (by rw [<-hh,show Yb h (Ln.mk x1 y1 u1 v1).a=false by simpa using hx]; rfl)
  rename_i hx
  have h3:(!(((lns h.cs).drop 0).any fun m=>(Ln.mk x1 y1 u1 v1).touch m)&&(T&&TL))=B:=by
   rw [<-hh,show Yb h (Ln.mk x1 y1 u1 v1).a=true by simpa using hx,if_pos rfl]
   cases hA:((lns h.cs).any fun m=>(Ln.mk x1 y1 u1 v1).touch m)<;>simp [Xz,hA]
  clear hh hx
  refine Zn (S:=Nat × Int) (fun t=>h.cs.length-t.1) (fun t=>[(2,.ptr 0 0 0),(1,I q),(5,.ptr 1 0 0),(9,.ptr 2 0 0),(10,I 0),(13,I t.2)]) (fun _=>[(2,.row 16 [[I x1,I y1,I u1,I v1,I x2,I y2,I u2,I v2,I x3,I y3,I u3,I v3,I x4,I y4,I u4,I v4]] true false),(1,.row 7 [c.av] true false),(0,.row 9 [h.cells] true false)]) 5 5 (fun t=>t.2=t.1/\t.1<=h.cs.length/\(!(((lns h.cs).drop t.1).any fun m=>(Ln.mk x1 y1 u1 v1).touch m)&&(T&&TL))=B) (0,0) ⟨rfl,Qq _,h3⟩ (Qe _) [] rfl (kps) (kps) ?_
  clear h3
  rintro ⟨r,r'⟩ ⟨hr,hr2,h3⟩
  dsimp only at hr hr2 h3 ⊢
  subst hr
  refine bs.av (sx:=nos) hk7 ?_
  by_cases hlt:r<h.cs.length
  ·rw [Zf0 hlt,Je] at h3
   have e2:=Uf (h:=h) hlt
   have hn5:=hz r hlt
   generalize lnOf h.cs r=M at *
   obtain ⟨mx,my,mdx,mdy⟩:=M
   have hn6:(Ln.mk x1 y1 u1 v1).n≠0/\(Ln.mk mx my mdx mdy).n≠0:=⟨hn1,hn5⟩
   repeat'(first|refine wk1 ?_|(refine wk2 ?_ ?_<;>intro _)|fail)
   ·rename_i hx; exact Zd (by rw [<-h3,hx]; rfl)
   ·rename_i hx; exact Qr ⟨(r+1,_),[],rfl,kps,kps,⟨Zb (by omega),hlt,by rw [<-h3,hx]; rfl⟩,by dsimp only; omega⟩
  ·rw [Qo (by rw [Zau]; omega)] at h3
   repeat'(first|refine wk1 ?_|(refine wk2 ?_ ?_<;>intro _)|fail)
   exact Qr ⟨(1,_),[],rfl,kps,kps,⟨Zb (k:=0) (by omega),by omega,by rw [<-h3,<-hT]; rfl⟩,by dsimp only; omega⟩
 ·have q1:(if Yb h (Ln.mk x2 y2 u2 v2).a then (if Xz h (Ln.mk x2 y2 u2 v2) then false else Xe h [(Ln.mk x3 y3 u3 v3),(Ln.mk x4 y4 u4 v4)]) else false:Bool)=Xe h ([(Ln.mk x1 y1 u1 v1),(Ln.mk x2 y2 u2 v2),(Ln.mk x3 y3 u3 v3),(Ln.mk x4 y4 u4 v4)].drop 1):=rfl
  rw [<-q1] at hh
  clear q1
  generalize hT:Xe h [(Ln.mk x3 y3 u3 v3),(Ln.mk x4 y4 u4 v4)]=T at hh
  repeat'(first|refine wk1 ?_|(refine wk2 ?_ ?_<;>intro _)|fail)
  ·rename_i hx; exact Zd (by rw [<-hh,show Yb h (Ln.mk x2 y2 u2 v2).a=false by simpa using hx]; rfl)
  rename_i hx
  have h3:(!(((lns h.cs).drop 0).any fun m=>(Ln.mk x2 y2 u2 v2).touch m)&&(T&&TL))=B:=by
   rw [<-hh,show Yb h (Ln.mk x2 y2 u2 v2).a=true by simpa using hx,if_pos rfl]
   cases hA:((lns h.cs).any fun m=>(Ln.mk x2 y2 u2 v2).touch m)<;>simp [Xz,hA]
  clear hh hx
  refine Zn (S:=Nat × Int) (fun t=>h.cs.length-t.1) (fun t=>[(2,.ptr 0 0 0),(1,I q),(5,.ptr 1 0 0),(9,.ptr 2 0 0),(10,I 1),(13,I t.2)]) (fun _=>[(2,.row 16 [[I x1,I y1,I u1,I v1,I x2,I y2,I u2,I v2,I x3,I y3,I u3,I v3,I x4,I y4,I u4,I v4]] true false),(1,.row 7 [c.av] true false),(0,.row 9 [h.cells] true false)]) 5 5 (fun t=>t.2=t.1/\t.1<=h.cs.length/\(!(((lns h.cs).drop t.1).any fun m=>(Ln.mk x2 y2 u2 v2).touch m)&&(T&&TL))=B) (0,0) ⟨rfl,Qq _,h3⟩ (Qe _) [] rfl (kps) (kps) ?_
  clear h3
  rintro ⟨r,r'⟩ ⟨hr,hr2,h3⟩
  dsimp only at hr hr2 h3 ⊢
  subst hr
  refine bs.av (sx:=nos) hk7 ?_
  by_cases hlt:r<h.cs.length
  ·rw [Zf0 hlt,Je] at h3
   have e2:=Uf (h:=h) hlt
   have hn5:=hz r hlt
   generalize lnOf h.cs r=M at *
   obtain ⟨mx,my,mdx,mdy⟩:=M
   have hn6:(Ln.mk x2 y2 u2 v2).n≠0/\(Ln.mk mx my mdx mdy).n≠0:=⟨hn2,hn5⟩
   repeat'(first|refine wk1 ?_|(refine wk2 ?_ ?_<;>intro _)|fail)
   ·rename_i hx; exact Zd (by rw [<-h3,hx]; rfl)
   ·rename_i hx; exact Qr ⟨(r+1,_),[],rfl,kps,kps,⟨Zb (by omega),hlt,by rw [<-h3,hx]; rfl⟩,by dsimp only; omega⟩
  ·rw [Qo (by rw [Zau]; omega)] at h3
   repeat'(first|refine wk1 ?_|(refine wk2 ?_ ?_<;>intro _)|fail)
   exact Qr ⟨(2,_),[],rfl,kps,kps,⟨Zb (k:=1) (by omega),by omega,by rw [<-h3,<-hT]; rfl⟩,by dsimp only; omega⟩
 ·have q1:(if Yb h (Ln.mk x3 y3 u3 v3).a then (if Xz h (Ln.mk x3 y3 u3 v3) then false else Xe h [(Ln.mk x4 y4 u4 v4)]) else false:Bool)=Xe h ([(Ln.mk x1 y1 u1 v1),(Ln.mk x2 y2 u2 v2),(Ln.mk x3 y3 u3 v3),(Ln.mk x4 y4 u4 v4)].drop 2):=rfl
  rw [<-q1] at hh
  clear q1
  generalize hT:Xe h [(Ln.mk x4 y4 u4 v4)]=T at hh
  repeat'(first|refine wk1 ?_|(refine wk2 ?_ ?_<;>intro _)|fail)
  ·rename_i hx; exact Zd (by rw [<-hh,show Yb h (Ln.mk x3 y3 u3 v3).a=false by simpa using hx]; rfl)
  rename_i hx
  have h3:(!(((lns h.cs).drop 0).any fun m=>(Ln.mk x3 y3 u3 v3).touch m)&&(T&&TL))=B:=by
   rw [<-hh,show Yb h (Ln.mk x3 y3 u3 v3).a=true by simpa using hx,if_pos rfl]
   cases hA:((lns h.cs).any fun m=>(Ln.mk x3 y3 u3 v3).touch m)<;>simp [Xz,hA]
  clear hh hx
  refine Zn (S:=Nat × Int) (fun t=>h.cs.length-t.1) (fun t=>[(2,.ptr 0 0 0),(1,I q),(5,.ptr 1 0 0),(9,.ptr 2 0 0),(10,I 2),(13,I t.2)]) (fun _=>[(2,.row 16 [[I x1,I y1,I u1,I v1,I x2,I y2,I u2,I v2,I x3,I y3,I u3,I v3,I x4,I y4,I u4,I v4]] true false),(1,.row 7 [c.av] true false),(0,.row 9 [h.cells] true false)]) 5 5 (fun t=>t.2=t.1/\t.1<=h.cs.length/\(!(((lns h.cs).drop t.1).any fun m=>(Ln.mk x3 y3 u3 v3).touch m)&&(T&&TL))=B) (0,0) ⟨rfl,Qq _,h3⟩ (Qe _) [] rfl (kps) (kps) ?_
  clear h3
  rintro ⟨r,r'⟩ ⟨hr,hr2,h3⟩
  dsimp only at hr hr2 h3 ⊢
  subst hr
  refine bs.av (sx:=nos) hk7 ?_
  by_cases hlt:r<h.cs.length
  ·rw [Zf0 hlt,Je] at h3
   have e2:=Uf (h:=h) hlt
   have hn5:=hz r hlt
   generalize lnOf h.cs r=M at *
   obtain ⟨mx,my,mdx,mdy⟩:=M
   have hn6:(Ln.mk x3 y3 u3 v3).n≠0/\(Ln.mk mx my mdx mdy).n≠0:=⟨hn3,hn5⟩
   repeat'(first|refine wk1 ?_|(refine wk2 ?_ ?_<;>intro _)|fail)
   ·rename_i hx; exact Zd (by rw [<-h3,hx]; rfl)
   ·rename_i hx; exact Qr ⟨(r+1,_),[],rfl,kps,kps,⟨Zb (by omega),hlt,by rw [<-h3,hx]; rfl⟩,by dsimp only; omega⟩
  ·rw [Qo (by rw [Zau]; omega)] at h3
   repeat'(first|refine wk1 ?_|(refine wk2 ?_ ?_<;>intro _)|fail)
   exact Qr ⟨(3,_),[],rfl,kps,kps,⟨Zb (k:=2) (by omega),by omega,by rw [<-h3,<-hT]; rfl⟩,by dsimp only; omega⟩
 ·have q1:(if Yb h (Ln.mk x4 y4 u4 v4).a then (if Xz h (Ln.mk x4 y4 u4 v4) then false else Xe h []) else false:Bool)=Xe h ([(Ln.mk x1 y1 u1 v1),(Ln.mk x2 y2 u2 v2),(Ln.mk x3 y3 u3 v3),(Ln.mk x4 y4 u4 v4)].drop 3):=rfl
  rw [<-q1] at hh
  clear q1
  generalize hT:Xe h []=T at hh
  repeat'(first|refine wk1 ?_|(refine wk2 ?_ ?_<;>intro _)|fail)
  ·rename_i hx; exact Zd (by rw [<-hh,show Yb h (Ln.mk x4 y4 u4 v4).a=false by simpa using hx]; rfl)
  rename_i hx
  have h3:(!(((lns h.cs).drop 0).any fun m=>(Ln.mk x4 y4 u4 v4).touch m)&&(T&&TL))=B:=by
   rw [<-hh,show Yb h (Ln.mk x4 y4 u4 v4).a=true by simpa using hx,if_pos rfl]
   cases hA:((lns h.cs).any fun m=>(Ln.mk x4 y4 u4 v4).touch m)<;>simp [Xz,hA]
  clear hh hx
  refine Zn (S:=Nat × Int) (fun t=>h.cs.length-t.1) (fun t=>[(2,.ptr 0 0 0),(1,I q),(5,.ptr 1 0 0),(9,.ptr 2 0 0),(10,I 3),(13,I t.2)]) (fun _=>[(2,.row 16 [[I x1,I y1,I u1,I v1,I x2,I y2,I u2,I v2,I x3,I y3,I u3,I v3,I x4,I y4,I u4,I v4]] true false),(1,.row 7 [c.av] true false),(0,.row 9 [h.cells] true false)]) 5 5 (fun t=>t.2=t.1/\t.1<=h.cs.length/\(!(((lns h.cs).drop t.1).any fun m=>(Ln.mk x4 y4 u4 v4).touch m)&&(T&&TL))=B) (0,0) ⟨rfl,Qq _,h3⟩ (Qe _) [] rfl (kps) (kps) ?_
  clear h3
  rintro ⟨r,r'⟩ ⟨hr,hr2,h3⟩
  dsimp only at hr hr2 h3 ⊢
  subst hr
  refine bs.av (sx:=nos) hk7 ?_
  by_cases hlt:r<h.cs.length
  ·rw [Zf0 hlt,Je] at h3
   have e2:=Uf (h:=h) hlt
   have hn5:=hz r hlt
   generalize lnOf h.cs r=M at *
   obtain ⟨mx,my,mdx,mdy⟩:=M
   have hn6:(Ln.mk x4 y4 u4 v4).n≠0/\(Ln.mk mx my mdx mdy).n≠0:=⟨hn4,hn5⟩
   repeat'(first|refine wk1 ?_|(refine wk2 ?_ ?_<;>intro _)|fail)
   ·rename_i hx; exact Zd (by rw [<-h3,hx]; rfl)
   ·rename_i hx; exact Qr ⟨(r+1,_),[],rfl,kps,kps,⟨Zb (by omega),hlt,by rw [<-h3,hx]; rfl⟩,by dsimp only; omega⟩
  ·rw [Qo (by rw [Zau]; omega)] at h3
   repeat'(first|refine wk1 ?_|(refine wk2 ?_ ?_<;>intro _)|fail)
   exact Qr ⟨(4,_),[],rfl,kps,kps,⟨Zb (k:=3) (by omega),by omega,by rw [<-h3,<-hT]; rfl⟩,by dsimp only; omega⟩
 ·omega
 have hm4:m=4:=by omega
 have hh:TL=B:=by rw [<-hh,hm4]; rfl
 repeat'(first|refine wk1 ?_|(refine wk2 ?_ ?_<;>intro _)|fail)
 subst hTL
 clear h4 hm2 hm4 p1 p2 p3 p4
 refine Zn (S:=Nat × Int) (fun t=>h.cs.length-t.1) (fun t=>[(2,.ptr 0 0 0),(5,.ptr 1 0 0),(14,I t.2)]) (fun _=>[(1,.row 7 [c.av] true false),(0,.row 9 [h.cells] true false)]) 3 3 (fun t=>t.2=t.1/\t.1<=h.cs.length/\(!((h.cs.drop t.1).any fun p=>Zh2 c ⟨p.1,p.2,0,1⟩))=B) (0,0) ⟨rfl,Qq _,hh⟩ (Qe _) [] rfl (kps) (kps) ?_
 clear hh
 rintro ⟨r,r'⟩ ⟨hr,hr2,h3⟩
 dsimp only at hr hr2 h3 ⊢
 subst hr
 refine bs.av (sx:=nos) hk7 ?_
 have e8:(h.cs.map pt).length=h.cs.length:=by simp
 by_cases hlt:r<h.cs.length
 ·rw [Ql hlt,Je] at h3
  have e4:=Zc4 hlt
  have e9:cor h.cs r=h.cs[r]:=by simp [cor,hlt]
  have b1:=Yaj c ⟨(cor h.cs r).1,(cor h.cs r).2,0,1⟩
  rw [<-e9] at h3
  clear e9
  repeat'(first|refine wk1 ?_|(refine wk2 ?_ ?_<;>intro _)|fail)
  ·rename_i hx; exact Zd (by rw [<-h3,hx]; rfl)
  ·rename_i hx; exact Qr ⟨(r+1,_),[],rfl,kps,kps,⟨Zb (by omega),hlt,by rw [<-h3,hx]; rfl⟩,by dsimp only; omega⟩
 ·rw [Qo (by omega)] at h3
  repeat'(first|refine wk1 ?_|(refine wk2 ?_ ?_<;>intro _)|fail)
  exact Zd (by rw [<-h3]; rfl)
theorem Yw {a b A B:Int} (ha : -A<=a/\a<=A) (hb : -B<=b/\b<=B) : -(A*B)<=a*b/\a*b<=A*B:=by
 have h1:a.natAbs<=A.natAbs:=by omega
 have h2:b.natAbs<=B.natAbs:=by omega
 have h3:=Nat.mul_le_mul h1 h2
 rw [<-Jy,<-Jy] at h3
 have h4:0<=A*B:=Int.mul_nonneg (by omega) (by omega)
 omega
theorem Ycw {n v:Int} (hn:0<n):sgn (n*v)=sgn v:=by
 unfold sgn
 rcases Int.lt_trichotomy v 0 with h|h|h
 ·have:=Int.mul_neg_of_pos_of_neg hn h
  rw [if_neg (by omega),if_pos this,if_neg (by omega),if_pos h]
 ·subst h; simp
 ·have:=Qu hn h
  rw [if_pos this,if_pos h]
theorem Vp {v:Int}:sgn v<0↔v<0:=by unfold sgn; split<;>(try split)<;>omega
theorem Uq {v:Int}:0<sgn v↔0<v:=by unfold sgn; split<;>(try split)<;>omega
theorem Zhm {v:Int}:sgn v=0↔v=0:=by unfold sgn; split<;>(try split)<;>omega
theorem Ya8 (v:Int) : -1<=sgn v/\sgn v<=1:=by unfold sgn; split<;>(try split)<;>omega
structure Str (w:Wl) (n sx sy:Int):Prop where
 hn:0<n
 hx:sx=0\/sx=1\/sx = -1
 hy:sy=0\/sy=1\/sy = -1
 hxy:¬(sx=0/\sy=0)
 tx:w.tx=w.fx+n*sx
 ty:w.ty=w.fy+n*sy
 b1 : -5000<=w.fx/\w.fx<=5000
 b2 : -5000<=w.fy/\w.fy<=5000
 b3 : -5000<=w.tx/\w.tx<=5000
 b4 : -5000<=w.ty/\w.ty<=5000
theorem Str.nle {w:Wl} {n sx sy:Int} (h:Str w n sx sy):n<=10000:=by
 obtain ⟨hn,hx,hy,hxy,tx,ty,b1,b2,b3,b4⟩:=h
 rcases hx with rfl|rfl|rfl<;>rcases hy with rfl|rfl|rfl<;>simp at * <;> omega
theorem Str.dx {w:Wl} {n sx sy:Int} (h:Str w n sx sy):w.dx=n*sx:=by
 obtain ⟨hn,hx,hy,hxy,tx,ty,b1,b2,b3,b4⟩:=h
 unfold Wl.dx
 rw [W_eq (by omega) (by omega)]; omega
theorem Str.dy {w:Wl} {n sx sy:Int} (h:Str w n sx sy):w.dy=n*sy:=by
 obtain ⟨hn,hx,hy,hxy,tx,ty,b1,b2,b3,b4⟩:=h
 unfold Wl.dy
 rw [W_eq (by omega) (by omega)]; omega
def Wl.ln (w:Wl):Ln:=⟨w.fx,w.fy,Qa Qb (w.tx-w.fx),Qa Qb (w.ty-w.fy)⟩
theorem Zfb (cs:List (Int × Int)) (i:Nat):lnOf cs i=(wlOf cs i).ln:=rfl
theorem Zlx {n:Int} (h : -9000000000000000000<=n/\n<=9000000000000000000):size n=if n<0 then -n else n:=by
 unfold size imax
 rw [W_eq (by omega) (by omega)]
 split
 ·rw [decide_eq_true (by omega)]; simp
 ·by_cases h0:n=0
  ·subst h0; rfl
  ·rw [decide_eq_false (by omega)]; rfl
theorem Str.ln {w:Wl} {n sx sy:Int} (h:Str w n sx sy):w.ln.dx=n*sx/\w.ln.dy=n*sy/\w.ln.n=n/\w.ln.sx=sx/\w.ln.sy=sy:=by
 have h1:w.ln.dx=n*sx:=h.dx
 have h2:w.ln.dy=n*sy:=h.dy
 have hle:=h.nle
 have hn:=h.hn
 have h3:w.ln.n=n:=by
  unfold Ln.n
  rw [h1,h2]
  have hxy:=h.hxy
  have s0:size 0=0:=by rw [Zlx (by omega)]; rfl
  have s1:size n=n:=by rw [Zlx (by omega),if_neg (by omega)]
  have s2:size (-n)=n:=by rw [Zlx (by omega),if_pos (by omega)]; omega
  have i1:imax n n=n:=by unfold imax; rw [decide_eq_false (by omega)]; rfl
  have i2:imax n 0=n:=by unfold imax; rw [decide_eq_false (by omega)]; rfl
  have i3:imax 0 n=n:=by unfold imax; rw [decide_eq_true (by omega)]; rfl
  rcases h.hx with rfl|rfl|rfl<;>rcases h.hy with rfl|rfl|rfl<;>(try (exact absurd ⟨rfl,rfl⟩ hxy))<;>simp only [Sc,Rz,Rp,s0,s1,s2,i1,i2,i3]
 refine ⟨h1,h2,h3,?_,?_⟩
 ·unfold Ln.sx
  rw [h1,h3,Nx _ (by omega)]
  rcases h.hx with rfl|rfl|rfl<;>rfl
 ·unfold Ln.sy
  rw [h2,h3,Nx _ (by omega)]
  rcases h.hy with rfl|rfl|rfl<;>rfl
structure PtOk (x y d:Int):Prop where
 hd:0<d
 hD:d<=20000000000
 hx : -200000000000000<=x/\x<=200000000000000
 hy : -200000000000000<=y/\y<=200000000000000
def bes (w:Wl) (sx sy x y d:Int):Int:=sx*(y-w.fy*d)-sy*(x-w.fx*d)
def alo (w:Wl) (sx sy x y d:Int):Int:=sx*(x-w.fx*d)+sy*(y-w.fy*d)
theorem Uw {f d:Int} (hf : -5000<=f/\f<=5000) (hd:0<d) : -(5000*d)<=f*d/\f*d<=5000*d:=Yw hf (by omega)
theorem Zbh {w:Wl} {n sx sy x y d z:Int} (h:Str w n sx sy) (hp:PtOk x y d):w.ln.beside ⟨x,y,z,d⟩=bes w sx sy x y d:=by
 obtain ⟨_,_,_,h4,h5⟩:=h.ln
 unfold Ln.beside bes
 rw [h4,h5]
 show IntKind.i64.wrap (Qa Qb (sx*Qa Qb (y-Qa Qb (w.fy*d)))-Qa Qb (sy*Qa Qb (x-Qa Qb (w.fx*d))))=_
 have a1:=Uw h.b1 hp.hd
 have a2:=Uw h.b2 hp.hd
 have a3:=hp.hD
 have a4:=hp.hx
 have a5:=hp.hy
 have a6:=hp.hd
 generalize w.fx*d=A at *
 generalize w.fy*d=C at *
 rw [W_eq (n:=C) (by omega) (by omega),W_eq (n:=A) (by omega) (by omega),W_eq (n:=y-C) (by omega) (by omega),W_eq (n:=x-A) (by omega) (by omega)]
 have hx:=h.hx
 have hy:=h.hy
 rcases hx with rfl|rfl|rfl<;>rcases hy with rfl|rfl|rfl<;>simp only [Sq,Sr,Tm]<;>simp only [Wr]<;>omega
theorem Zs6 {w:Wl} {n sx sy x y d z:Int} (h:Str w n sx sy) (hp:PtOk x y d):w.ln.along ⟨x,y,z,d⟩=alo w sx sy x y d:=by
 obtain ⟨_,_,_,h4,h5⟩:=h.ln
 unfold Ln.along alo
 rw [h4,h5]
 show IntKind.i64.wrap (Qa Qb (sx*Qa Qb (x-Qa Qb (w.fx*d)))+Qa Qb (sy*Qa Qb (y-Qa Qb (w.fy*d))))=_
 have a1:=Uw h.b1 hp.hd
 have a2:=Uw h.b2 hp.hd
 have a3:=hp.hD
 have a4:=hp.hx
 have a5:=hp.hy
 have a6:=hp.hd
 generalize w.fx*d=A at *
 generalize w.fy*d=C at *
 rw [W_eq (n:=C) (by omega) (by omega),W_eq (n:=A) (by omega) (by omega),W_eq (n:=y-C) (by omega) (by omega),W_eq (n:=x-A) (by omega) (by omega)]
 have hx:=h.hx
 have hy:=h.hy
 rcases hx with rfl|rfl|rfl<;>rcases hy with rfl|rfl|rfl<;>simp only [Sq,Sr,Tm]<;>simp only [Wr]<;>omega
theorem Zxd {w:Wl} {n sx sy:Int} (h:Str w n sx sy):w.ln.full=n*(sx*sx+sy*sy):=by
 obtain ⟨_,_,h3,h4,h5⟩:=h.ln
 unfold Ln.full
 rw [h3,h4,h5]
 have hn:=h.hn
 have hle:=h.nle
 have hx:=h.hx
 have hy:=h.hy
 rcases hx with rfl|rfl|rfl<;>rcases hy with rfl|rfl|rfl<;>simp [Wr]<;>omega
theorem Ve {w:Wl} {n sx sy x y d:Int} (h:Str w n sx sy) (hp:PtOk x y d):w.side x y d=sgn (bes w sx sy x y d):=by
 unfold Wl.side bes
 rw [h.dx,h.dy]
 refine Eq.trans ?_ (Ycw h.hn)
 have a1:=Uw h.b1 hp.hd
 have a2:=Uw h.b2 hp.hd
 have a3:=hp.hD
 have a4:=hp.hx
 have a5:=hp.hy
 have a6:=hp.hd
 have hn:=h.hn
 have hle:=h.nle
 generalize w.fx*d=A at *
 generalize w.fy*d=C at *
 have b1 : -(10000*300000000000000)<=n*(y-C)/\n*(y-C)<=10000*300000000000000:=Yw (by omega) (by omega)
 have b2 : -(10000*300000000000000)<=n*(x-A)/\n*(x-A)<=10000*300000000000000:=Yw (by omega) (by omega)
 rw [W_eq (n:=C) (by omega) (by omega),W_eq (n:=A) (by omega) (by omega),W_eq (n:=y-C) (by omega) (by omega),W_eq (n:=x-A) (by omega) (by omega)]
 congr 1
 have hx:=h.hx
 have hy:=h.hy
 rw [show n*(sx*(y-C)-sy*(x-A))=sx*(n*(y-C))-sy*(n*(x-A)) by grind,show n*sx*(y-C)=sx*(n*(y-C)) by grind,show n*sy*(x-A)=sy*(n*(x-A)) by grind]
 generalize n*(y-C)=P at *
 generalize n*(x-A)=Q at *
 rcases hx with rfl|rfl|rfl<;>rcases hy with rfl|rfl|rfl<;>simp only [Sq,Sr,Tm]<;>simp only [Wr]<;>omega
def onW (w:Wl) (n sx sy x y d:Int):Prop:=bes w sx sy x y d=0/\0<=alo w sx sy x y d/\alo w sx sy x y d<=n*(sx*sx+sy*sy)*d
theorem Yfy {n d:Int} (hn:0<n) (hle:n<=10000) (hd:0<d):0<n*d/\n*d<=10000*d:=by
 have:=Yw (a:=n) (b:=d) (A:=10000) (B:=d) (by omega) (by omega)
 exact ⟨Qu hn hd,this.2⟩
theorem Zzz {w:Wl} {n sx sy x y d z:Int} (h:Str w n sx sy) (hp:PtOk x y d):w.ln.has ⟨x,y,z,d⟩=true↔onW w n sx sy x y d:=by
 unfold Ln.has onW
 rw [Zbh h hp,Zs6 h hp,Zxd h,Qc,decide_eq_true_eq,within_iff]
 have hb:Qa Qb (n*(sx*sx+sy*sy)*d)=n*(sx*sx+sy*sy)*d:=by
  have:=Yfy h.hn h.nle hp.hd
  have:=hp.hD
  rcases h.hx with rfl|rfl|rfl<;>rcases h.hy with rfl|rfl|rfl<;>simp only [Sc,Rz,Rp,Sq,Tm,Wu,Pj,Wk]<;>(try rw [show n*(1+1)*d=2*(n*d) by grind])<;>exact W_eq (by omega) (by omega)
 rw [hb]
theorem Zal {w:Wl} {n sx sy x y d:Int} (h:Str w n sx sy) (hp:PtOk x y d):w.has x y d=true↔onW w n sx sy x y d:=by
 unfold Wl.has onW
 rw [Ve h hp,Qc,Qc,decide_eq_true_eq,within_iff,within_iff,Zhm]
 have a1:=Uw h.b1 hp.hd
 have a2:=Uw h.b2 hp.hd
 have a3:=Yfy h.hn h.nle hp.hd
 have a4:=hp.hD
 have hn:=h.hn
 unfold bes alo
 rw [h.tx,h.ty]
 have hxy:=h.hxy
 have f7:n*(1+1)*d=2*(n*d):=by grind
 have e1:imin w.fx (w.fx+n)=w.fx:=by unfold imin; rw [decide_eq_false (by omega)]; rfl
 have e2:imin w.fx (w.fx + -n)=w.fx + -n:=by unfold imin; rw [decide_eq_true (by omega)]; rfl
 have e3:imin w.fx w.fx=w.fx:=by unfold imin; rw [decide_eq_false (by omega)]; rfl
 have e4:imax w.fx (w.fx+n)=w.fx+n:=by unfold imax; rw [decide_eq_true (by omega)]; rfl
 have e5:imax w.fx (w.fx + -n)=w.fx:=by unfold imax; rw [decide_eq_false (by omega)]; rfl
 have e6:imax w.fx w.fx=w.fx:=by unfold imax; rw [decide_eq_false (by omega)]; rfl
 have f1:imin w.fy (w.fy+n)=w.fy:=by unfold imin; rw [decide_eq_false (by omega)]; rfl
 have f2:imin w.fy (w.fy + -n)=w.fy + -n:=by unfold imin; rw [decide_eq_true (by omega)]; rfl
 have f3:imin w.fy w.fy=w.fy:=by unfold imin; rw [decide_eq_false (by omega)]; rfl
 have f4:imax w.fy (w.fy+n)=w.fy+n:=by unfold imax; rw [decide_eq_true (by omega)]; rfl
 have f5:imax w.fy (w.fy + -n)=w.fy:=by unfold imax; rw [decide_eq_false (by omega)]; rfl
 have f6:imax w.fy w.fy=w.fy:=by unfold imax; rw [decide_eq_false (by omega)]; rfl
 rcases h.hx with rfl|rfl|rfl<;>rcases h.hy with rfl|rfl|rfl<;>simp only [Sc,Rz,Rp,Sq,Tm,Sr,Wu,Pj,Wk,Int.add_mul,f7,e1,e2,e3,e4,e5,e6,f1,f2,f3,f4,f5,f6]<;>(try (exact absurd ⟨rfl,rfl⟩ hxy))<;>generalize w.fx*d=A at * <;> generalize w.fy*d=C at * <;> generalize n*d=M at *
 all_goals repeat rw [W_eq (by omega) (by omega)]
 all_goals omega
theorem Zf5 {w:Wl} {n sx sy x y d z:Int} (h:Str w n sx sy) (hp:PtOk x y d):w.has x y d=w.ln.has ⟨x,y,z,d⟩:=by
 rw [Sk,Zal h hp,Zzz h hp]
theorem Xa {x y:Int} (h1 : -5000<=x/\x<=5000) (h2 : -5000<=y/\y<=5000):PtOk x y 1:=⟨by omega,by omega,by omega,by omega⟩
theorem ln_a (w:Wl):w.ln.a=⟨w.fx,w.fy,0,1⟩:=rfl
theorem ln_b {w:Wl} {n sx sy:Int} (h:Str w n sx sy):w.ln.b=⟨w.tx,w.ty,0,1⟩:=by
 obtain ⟨h1,h2,_⟩:=h.ln
 unfold Ln.b
 rw [h1,h2]
 have e1:Qa Qb (w.ln.x+n*sx)=w.tx:=by rw [h.tx]; exact W_eq (by have:=h.b3; have:=h.tx; show _<=w.fx+_; omega) (by have:=h.b3; have:=h.tx; show w.fx+_<=_; omega)
 have e2:Qa Qb (w.ln.y+n*sy)=w.ty:=by rw [h.ty]; exact W_eq (by have:=h.b4; have:=h.ty; show _<=w.fy+_; omega) (by have:=h.b4; have:=h.ty; show w.fy+_<=_; omega)
 rw [e1,e2]
theorem Yhk (a b:Int):Qa Qb (sgn a*sgn b)=sgn a*sgn b:=by
 have:=Yw (A:=1) (B:=1) (Ya8 a) (Ya8 b)
 exact W_eq (by omega) (by omega)
theorem Ziv {a b:Int}:sgn a*sgn b<0↔(a<0/\0<b)\/(0<a/\b<0):=by
 unfold sgn
 split<;>split<;>(try split)<;>(try split)<;>simp<;>omega
theorem Zgy {w o:Wl} {n sx sy m tx ty:Int} (h:Str w n sx sy) (g:Str o m tx ty):w.touches o=w.ln.touch o.ln:=by
 have p1:=Xa g.b1 g.b2
 have p2:=Xa g.b3 g.b4
 have p3:=Xa h.b1 h.b2
 have p4:=Xa h.b3 h.b4
 unfold Gt Ln.touch
 rw [ln_b h,ln_b g,ln_a,ln_a,<-Zf5 h p1,<-Zf5 h p2,<-Zf5 g p3,<-Zf5 g p4,Zbh h p1,Zbh h p2,Zbh g p3,Zbh g p4,Ve h p1,Ve h p2,Ve g p3,Ve g p4]
 exact Bool.or_comm _ _
theorem Zim {w o:Wl} {n sx sy m tx ty:Int} (h:Str w n sx sy) (g:Str o m tx ty):w.turnsBack o=true↔tx = -sx/\ty = -sy:=by
 unfold Wl.turnsBack
 rw [h.dx,h.dy,g.dx,g.dy]
 have a1:=h.nle
 have a2:=g.nle
 have hn:=h.hn
 have hm:=g.hn
 have hxy:=h.hxy
 have gxy:=g.hxy
 have b1:0<n*m:=Qu hn hm
 have b2:=(Yw (a:=n) (b:=m) (A:=10000) (B:=10000) (by omega) (by omega)).2
 have e1:∀ a b:Int,n*a*(m*b)=n*m*(a*b):=fun a b=>by grind
 rw [e1,e1,e1,e1]
 generalize n*m=K at *
 rcases h.hx with rfl|rfl|rfl<;>rcases h.hy with rfl|rfl|rfl<;>(try (exact absurd ⟨rfl,rfl⟩ hxy))<;>rcases g.hx with rfl|rfl|rfl<;>rcases g.hy with rfl|rfl|rfl<;>(try (exact absurd ⟨rfl,rfl⟩ gxy))<;>simp [Wr]<;>omega
theorem Zs0 {w o:Wl} {n sx sy m tx ty:Int} (h:Str w n sx sy) (g:Str o m tx ty) (hc:o.fx=w.tx/\o.fy=w.ty):(o.has w.fx w.fy 1||w.has o.tx o.ty 1)=w.turnsBack o:=by
 rw [Sk,Zim h g,Rr,Zal g (Xa h.b1 h.b2),Zal h (Xa g.b3 g.b4)]
 unfold onW bes alo
 have hn:=h.hn
 have hm:=g.hn
 have hxy:=h.hxy
 have gxy:=g.hxy
 rw [g.tx,g.ty,hc.1,hc.2,h.tx,h.ty]
 rcases h.hx with rfl|rfl|rfl<;>rcases h.hy with rfl|rfl|rfl<;>(try (exact absurd ⟨rfl,rfl⟩ hxy))<;>rcases g.hx with rfl|rfl|rfl<;>rcases g.hy with rfl|rfl|rfl<;>(try (exact absurd ⟨rfl,rfl⟩ gxy))<;>simp only [Sc,Rz,Rp,Sq,Tm,Sr,Wu,Pj,Wk,and_self,and_true,true_and,iff_true]<;>omega
theorem Zz7 {w:Wl} {n sx sy x y d z:Int} (h:Str w n sx sy) (hp:PtOk x y d):flips x y d w=Zoh ⟨x,y,z,d⟩ w.ln:=by
 unfold flips Zoh
 have e:Qa Qb (w.ln.y+w.ln.dy)=w.ty:=by
  have:=ln_b h
  unfold Ln.b at this
  simpa using congrArg Pt.y this
 rw [Zbh h hp,Ve h hp,e]
 have c1:∀ v,decide (0<sgn v)=decide (0<v):=fun v=>by rw [decide_eq_decide]; exact Uq
 have c2:∀ v,decide (sgn v<0)=decide (v<0):=fun v=>by rw [decide_eq_decide]; exact Vp
 have c3:∀ a:Int,decide (y<a) = !decide (a<=y):=fun a=>by by_cases q:a<=y<;>simp [q]<;>omega
 rw [c1,c2,c3,c3]
 show _=(((decide (Qa Qb (w.fy*d)<=y) && !decide (Qa Qb (w.ty*d)<=y))&&decide (0<bes w sx sy x y d))||((!decide (Qa Qb (w.fy*d)<=y)&&decide (Qa Qb (w.ty*d)<=y))&&decide (bes w sx sy x y d<0)))
 cases decide (Qa Qb (w.fy*d)<=y)<;>cases decide (Qa Qb (w.ty*d)<=y)<;>rfl
def Vc (cs:List (Int × Int)):Prop:=∀ i,i<cs.length->∃ n sx sy,Str (wlOf cs i) n sx sy
theorem Zww {x y d z:Int} (hp:PtOk x y d):∀ (l:List Wl) (b:Bool),(∀ w∈l,∃ n sx sy,Str w n sx sy)->inPl x y d b l=Zkf ⟨x,y,z,d⟩ b (l.map Wl.ln)
 | [],_,_=>rfl
 | w::l,b,h=>by
  obtain ⟨n,sx,sy,hw⟩:=h w (by simp)
  rw [List.map_cons,inPl,Zkf,Zf5 (z:=z) hw hp,Zz7 (z:=z) hw hp]
  split
  ·rfl
  ·exact Zww hp l _ fun u hu=>h u (by simp [hu])
theorem Ybn (cs:List (Int × Int)):lns cs=(wls cs).map Wl.ln:=by simp [lns,wls,Zfb]
theorem Zbx {cs:List (Int × Int)} (h:Vc cs):∀ w∈wls cs,∃ n sx sy,Str w n sx sy:=by
 intro w hw
 simp only [wls,Ta,Rx] at hw
 obtain ⟨i,hi,rfl⟩:=hw
 exact h i hi
theorem Ui {h:Hal} (hs:Vc h.cs) {x y d:Int} (z:Int) (hp:PtOk x y d):Xn h x y d=Yb h ⟨x,y,z,d⟩:=by
 unfold Xn Yb
 rw [Ybn]
 exact Zww hp _ _ (Zbx hs)
theorem Yaq (n:Int) (w:Wl):Zyv n w=Zo6 n w:=by
 unfold Zyv Zo6
 generalize w.fx*w.ty=a
 generalize w.tx*w.fy=b
 simp only [Wr]; omega
theorem Zm2 (h:Hal):Zdb h=Zil h.cs:=by
 unfold Zdb Zil
 rw [show Zyv=Zo6 from funext fun n=>funext fun w=>Yaq n w]
theorem Zqp {cs:List (Int × Int)} {i:Nat} (h:i<cs.length):cor cs i=cs[i]:=by simp [cor,h]
theorem Zm6 {h:Hal} (hs:Vc h.cs) (h3:3<=h.cs.length) (hl:h.cs.length<1000):Xs h=Zdd h.cs:=by
 have key:∀ i k,i<k->k<h.cs.length->Za8 h.cs.length (wlOf h.cs i) (wlOf h.cs k)=Zg4 h.cs h.cs.length i k:=by
  intro i k hik hk
  obtain ⟨n,sx,sy,hi⟩:=hs i (by omega)
  obtain ⟨m,tx,ty,hm⟩:=hs k hk
  unfold Za8 Zg4
  show (decide ((k:Int)<=(i:Int))||(!((decide ((k:Int)=Qa Qb ((i:Int)+1))&&_)||((decide ((i:Int)=0)&&decide ((k:Int)=Qa Qb ((h.cs.length:Int)-1)))&&_))&&((decide ((k:Int)=Qa Qb ((i:Int)+1))||(decide ((i:Int)=0)&&decide ((k:Int)=Qa Qb ((h.cs.length:Int)-1))))||_)))=_
  rw [Zfb,Zfb,<-Zgy hi hm,ln_a,ln_a,ln_b hi,ln_b hm,<-Zf5 hi (Xa hm.b3 hm.b4),<-Zf5 hm (Xa hi.b1 hi.b2),<-Zf5 hi (Xa hm.b1 hm.b2),<-Zf5 hm (Xa hi.b3 hi.b4)]
  have e1:Qa Qb ((i:Int)+1)=(i:Int)+1:=W_eq (by omega) (by omega)
  have e2:Qa Qb ((h.cs.length:Int)-1)=(h.cs.length:Int)-1:=W_eq (by omega) (by omega)
  rw [e1,e2,decide_eq_false (p:=(k:Int)<=(i:Int)) (by omega)]
  by_cases c1:(k:Int)=(i:Int)+1
  ·have hki:k=i+1:=by omega
   have c2:((decide ((i:Int)=0)&&decide ((k:Int)=(h.cs.length:Int)-1)))=false:=by
    by_cases q:(i:Int)=0
    ·rw [decide_eq_false (p:=(k:Int)=(h.cs.length:Int)-1) (by omega)]; simp
    ·rw [decide_eq_false q]; rfl
   have hb:=Zs0 hi hm (by
    subst hki
    simp only [wlOf,Nat.mod_eq_of_lt hk,and_self])
   rw [c2,decide_eq_true c1,<-hb]
   simp
  ·rw [decide_eq_false c1]
   by_cases c2:(i:Int)=0/\(k:Int)=(h.cs.length:Int)-1
   ·have hb:=Zs0 hm hi (by
     have h1:i=0:=by omega
     have h2:k+1=h.cs.length:=by omega
     subst h1
     simp only [wlOf,h2,Nat.mod_self,and_self])
    rw [decide_eq_true c2.1,decide_eq_true c2.2,<-hb]
    simp [Bool.and_comm]
   ·have c3:((decide ((i:Int)=0)&&decide ((k:Int)=(h.cs.length:Int)-1)))=false:=by
     rw [Bool.eq_false_iff]; intro hq; simp only [Qc,decide_eq_true_eq] at hq; exact c2 hq
    rw [c3]
    simp
 have hR:Zdd h.cs=true↔∀ i k,i<k->k<h.cs.length->Zg4 h.cs h.cs.length i k=true:=by
  simp only [Zdd,Zer,Zev,Rh,List.mem_range']
  constructor
  ·intro hq i k hik hk
   exact hq i ⟨i,by omega,by omega⟩ k ⟨k-(i+1),by omega,by omega⟩
  ·rintro hq i ⟨a,ha,rfl⟩ k ⟨b,hb,rfl⟩
   exact hq _ _ (by omega) (by omega)
 have hP:Xs h=true↔∀ i k,i<h.cs.length->k<h.cs.length->Za8 h.cs.length (wlOf h.cs i) (wlOf h.cs k)=true:=by
  simp only [Xs,wls,Rh,Ta,Rx]
  constructor
  ·intro hq i k hi hk; exact hq _ ⟨i,hi,rfl⟩ _ ⟨k,hk,rfl⟩
  ·rintro hq a ⟨i,hi,rfl⟩ b ⟨k,hk,rfl⟩; exact hq i k hi hk
 rw [Sk,hR,hP]
 constructor
 ·intro hq i k hik hk; rw [<-key i k hik hk]; exact hq i k (by omega) hk
 ·intro hq i k hi hk
  by_cases hik:i<k
  ·rw [key i k hik hk]; exact hq i k hik hk
  ·unfold Za8
   rw [show decide ((wlOf h.cs k).n<=(wlOf h.cs i).n)=true from decide_eq_true (by show (k:Int)<=(i:Int); omega)]
   rfl
def hit (w:Wl) (n sx sy:Int) (q:Rc):Prop:=∃ t,0<=t/\t<=n/\q.xl<=w.fx+t*sx/\w.fx+t*sx<=q.xh/\q.yl<=w.fy+t*sy/\w.fy+t*sy<=q.yh
structure RcOk (q:Rc):Prop where
 x:q.xl<q.xh
 y:q.yl<q.yh
 b1 : -5000<=q.xl
 b2:q.xh<=5000
 b3 : -5000<=q.yl
 b4:q.yh<=5000
theorem Yd4 {a b c:Int}:imin a b<=c↔a<=c\/b<=c:=by
 unfold imin; by_cases h:b<a<;>simp [h]<;>omega
theorem Yd5 {a b c:Int}:c<=imax a b↔c<=a\/c<=b:=by
 unfold imax; by_cases h:a<b<;>simp [h]<;>omega
theorem Zwy {a b c:Int}:c<imin a b↔c<a/\c<b:=by
 unfold imin; by_cases h:b<a<;>simp [h]<;>omega
theorem Zwz {a b c:Int}:imax a b<c↔a<c/\b<c:=by
 unfold imax; by_cases h:a<b<;>simp [h]<;>omega
theorem Ye6 {v:Int}:sgn v<=0↔v<=0:=by have:=@Uq v; omega
theorem Ye7 {v:Int}:0<=sgn v↔0<=v:=by have:=@Vp v; omega
theorem Znq {w:Wl} {n sx sy:Int} {q:Rc} (h:Str w n sx sy) (hq:RcOk q):q.meets w=true↔hit w n sx sy q:=by
 have q1:=hq.x
 have q2:=hq.y
 have q3:=hq.b1
 have q4:=hq.b2
 have q5:=hq.b3
 have q6:=hq.b4
 have p1:PtOk q.xl q.yl 1:=Xa (by omega) (by omega)
 have p2:PtOk q.xl q.yh 1:=Xa (by omega) (by omega)
 have p3:PtOk q.xh q.yl 1:=Xa (by omega) (by omega)
 have p4:PtOk q.xh q.yh 1:=Xa (by omega) (by omega)
 have e:q.meets w=true ↔ ¬((w.fx<q.xl/\w.tx<q.xl)\/(q.xh<w.fx/\q.xh<w.tx)\/(w.fy<q.yl/\w.ty<q.yl)\/(q.yh<w.fy/\q.yh<w.ty))/\(bes w sx sy q.xl q.yl 1<=0\/bes w sx sy q.xl q.yh 1<=0\/bes w sx sy q.xh q.yl 1<=0\/bes w sx sy q.xh q.yh 1<=0)/\(0<=bes w sx sy q.xl q.yl 1\/0<=bes w sx sy q.xl q.yh 1\/0<=bes w sx sy q.xh q.yl 1\/0<=bes w sx sy q.xh q.yh 1):=by
  unfold Rc.meets
  rw [Ve h p1,Ve h p2,Ve h p3,Ve h p4]
  by_cases hb:(decide (imax w.fx w.tx<q.xl)||decide (q.xh<imin w.fx w.tx)||decide (imax w.fy w.ty<q.yl)||decide (q.yh<imin w.fy w.ty))=true
  ·rw [if_pos hb]
   simp only [Rr,decide_eq_true_eq,Zwy,Zwz] at hb
   constructor
   ·intro hf; cases hf
   ·rintro ⟨h1,_⟩; exact absurd (by rcases hb with ((hb|hb)|hb)|hb<;>simp [hb]) h1
  ·rw [if_neg hb]
   simp only [Rr,decide_eq_true_eq,Zwy,Zwz] at hb
   rw [Qc,decide_eq_true_eq,decide_eq_true_eq]
   simp only [Yd4,Yd5,Ye6,Ye7]
   omega
 rw [e]
 unfold hit bes
 rw [h.tx,h.ty]
 have hn:=h.hn
 have hxy:=h.hxy
 rcases h.hx with rfl|rfl|rfl<;>rcases h.hy with rfl|rfl|rfl<;>(try (exact absurd ⟨rfl,rfl⟩ hxy))<;>simp only [Sc,Rz,Rp,Sq,Tm,Sr,Wu,Pj,Wk]
 ·exact ⟨fun hh=>⟨max 0 (q.yl-w.fy),by omega,by omega,by omega,by omega,by omega,by omega⟩,fun ⟨t,h1,h2,h3,h4,h5,h6⟩=>by omega⟩
 ·exact ⟨fun hh=>⟨max 0 (w.fy-q.yh),by omega,by omega,by omega,by omega,by omega,by omega⟩,fun ⟨t,h1,h2,h3,h4,h5,h6⟩=>by omega⟩
 ·exact ⟨fun hh=>⟨max 0 (q.xl-w.fx),by omega,by omega,by omega,by omega,by omega,by omega⟩,fun ⟨t,h1,h2,h3,h4,h5,h6⟩=>by omega⟩
 ·exact ⟨fun hh=>⟨max (max 0 (q.xl-w.fx)) (q.yl-w.fy),by omega,by omega,by omega,by omega,by omega,by omega⟩,fun ⟨t,h1,h2,h3,h4,h5,h6⟩=>by omega⟩
 ·exact ⟨fun hh=>⟨max (max 0 (q.xl-w.fx)) (w.fy-q.yh),by omega,by omega,by omega,by omega,by omega,by omega⟩,fun ⟨t,h1,h2,h3,h4,h5,h6⟩=>by omega⟩
 ·exact ⟨fun hh=>⟨max 0 (w.fx-q.xh),by omega,by omega,by omega,by omega,by omega,by omega⟩,fun ⟨t,h1,h2,h3,h4,h5,h6⟩=>by omega⟩
 ·exact ⟨fun hh=>⟨max (max 0 (w.fx-q.xh)) (q.yl-w.fy),by omega,by omega,by omega,by omega,by omega,by omega⟩,fun ⟨t,h1,h2,h3,h4,h5,h6⟩=>by omega⟩
 ·exact ⟨fun hh=>⟨max (max 0 (w.fx-q.xh)) (w.fy-q.yh),by omega,by omega,by omega,by omega,by omega,by omega⟩,fun ⟨t,h1,h2,h3,h4,h5,h6⟩=>by omega⟩
def common (e:Wl) (m ex ey:Int) (w:Wl) (n sx sy:Int):Prop:=∃ t s,0<=t/\t<=n/\0<=s/\s<=m/\w.fx+t*sx=e.fx+s*ex/\w.fy+t*sy=e.fy+s*ey
theorem Zft {w:Wl} {n sx sy x y:Int} (h:Str w n sx sy):onW w n sx sy x y 1↔∃ t,0<=t/\t<=n/\x=w.fx+t*sx/\y=w.fy+t*sy:=by
 unfold onW bes alo
 have hn:=h.hn
 have hxy:=h.hxy
 rcases h.hx with rfl|rfl|rfl<;>rcases h.hy with rfl|rfl|rfl<;>(try (exact absurd ⟨rfl,rfl⟩ hxy))<;>simp only [Sc,Rz,Rp,Sq,Tm,Sr,Wu,Pj,Wk]
 ·exact ⟨fun hh=>⟨y-w.fy,by omega,by omega,by omega,by omega⟩,fun ⟨t,h1,h2,h3,h4⟩=>by omega⟩
 ·exact ⟨fun hh=>⟨w.fy-y,by omega,by omega,by omega,by omega⟩,fun ⟨t,h1,h2,h3,h4⟩=>by omega⟩
 ·exact ⟨fun hh=>⟨x-w.fx,by omega,by omega,by omega,by omega⟩,fun ⟨t,h1,h2,h3,h4⟩=>by omega⟩
 ·exact ⟨fun hh=>⟨x-w.fx,by omega,by omega,by omega,by omega⟩,fun ⟨t,h1,h2,h3,h4⟩=>by omega⟩
 ·exact ⟨fun hh=>⟨x-w.fx,by omega,by omega,by omega,by omega⟩,fun ⟨t,h1,h2,h3,h4⟩=>by omega⟩
 ·exact ⟨fun hh=>⟨w.fx-x,by omega,by omega,by omega,by omega⟩,fun ⟨t,h1,h2,h3,h4⟩=>by omega⟩
 ·exact ⟨fun hh=>⟨w.fx-x,by omega,by omega,by omega,by omega⟩,fun ⟨t,h1,h2,h3,h4⟩=>by omega⟩
 ·exact ⟨fun hh=>⟨w.fx-x,by omega,by omega,by omega,by omega⟩,fun ⟨t,h1,h2,h3,h4⟩=>by omega⟩
theorem Zm3 {e w:Wl} {m ex ey n sx sy:Int} (g:Str e m ex ey) (h:Str w n sx sy):e.touches w=true ↔
  (((bes e ex ey w.fx w.fy 1<0/\0<bes e ex ey w.tx w.ty 1)\/(0<bes e ex ey w.fx w.fy 1/\bes e ex ey w.tx w.ty 1<0))/\((bes w sx sy e.fx e.fy 1<0/\0<bes w sx sy e.tx e.ty 1)\/(0<bes w sx sy e.fx e.fy 1/\bes w sx sy e.tx e.ty 1<0))) \/
  onW e m ex ey w.fx w.fy 1\/onW e m ex ey w.tx w.ty 1\/onW w n sx sy e.fx e.fy 1\/onW w n sx sy e.tx e.ty 1:=by
 have p1:=Xa g.b1 g.b2
 have p2:=Xa g.b3 g.b4
 have p3:=Xa h.b1 h.b2
 have p4:=Xa h.b3 h.b4
 unfold Gt
 rw [Rr,Qc,Rr,Rr,Rr,decide_eq_true_eq,decide_eq_true_eq,Zal g p3,Zal g p4,Zal h p1,Zal h p2,Ve g p3,Ve g p4,Ve h p1,Ve h p2,Yhk,Yhk,Ziv,Ziv]
 simp only [or_assoc]
theorem Zbo {e w:Wl} {m ex ey n sx sy:Int} (g:Str e m ex ey) (h:Str w n sx sy) (hax:ex=0\/ey=0):e.touches w=true↔common e m ex ey w n sx sy := by
  rw [Zm3 g h]
  have hn := h.hn
  have hm := g.hn
  have hxy := h.hxy
  have gxy := g.hxy
  constructor
  · rintro (hc|hc|hc|hc|hc)
    · unfold bes at hc
      rw [h.tx, h.ty, g.tx, g.ty] at hc
      rcases g.hx with rfl|rfl|rfl<;>rcases g.hy with rfl|rfl|rfl<;>(try (exact absurd ⟨rfl, rfl⟩ gxy))<;>(try (exact absurd hax (by decide)))<;>rcases h.hx with rfl|rfl|rfl<;>rcases h.hy with rfl|rfl|rfl<;>(try (exact absurd ⟨rfl, rfl⟩ hxy))<;>simp only [Sc, Rz, Rp, Sq, Tm, Sr, Wu, Pj, Wk] at hc<;>first
        | (exfalso; omega)
        | (unfold common
           simp only [Sc, Rz, Rp, Sq, Tm, Sr, Wu, Pj, Wk]
           first
            | exact ⟨e.fy-w.fy, w.fx+(e.fy-w.fy)-e.fx, by omega, by omega, by omega, by omega, by omega, by omega⟩
            | exact ⟨e.fy-w.fy, e.fx-(w.fx+(e.fy-w.fy)), by omega, by omega, by omega, by omega, by omega, by omega⟩
            | exact ⟨e.fy-w.fy, w.fx-(e.fy-w.fy)-e.fx, by omega, by omega, by omega, by omega, by omega, by omega⟩
            | exact ⟨e.fy-w.fy, e.fx-(w.fx-(e.fy-w.fy)), by omega, by omega, by omega, by omega, by omega, by omega⟩
            | exact ⟨e.fy-w.fy, w.fx-e.fx, by omega, by omega, by omega, by omega, by omega, by omega⟩
            | exact ⟨e.fy-w.fy, e.fx-w.fx, by omega, by omega, by omega, by omega, by omega, by omega⟩
            | exact ⟨w.fy-e.fy, w.fx+(w.fy-e.fy)-e.fx, by omega, by omega, by omega, by omega, by omega, by omega⟩
            | exact ⟨w.fy-e.fy, e.fx-(w.fx+(w.fy-e.fy)), by omega, by omega, by omega, by omega, by omega, by omega⟩
            | exact ⟨w.fy-e.fy, w.fx-(w.fy-e.fy)-e.fx, by omega, by omega, by omega, by omega, by omega, by omega⟩
            | exact ⟨w.fy-e.fy, e.fx-(w.fx-(w.fy-e.fy)), by omega, by omega, by omega, by omega, by omega, by omega⟩
            | exact ⟨w.fy-e.fy, w.fx-e.fx, by omega, by omega, by omega, by omega, by omega, by omega⟩
            | exact ⟨w.fy-e.fy, e.fx-w.fx, by omega, by omega, by omega, by omega, by omega, by omega⟩
            | exact ⟨e.fx-w.fx, w.fy+(e.fx-w.fx)-e.fy, by omega, by omega, by omega, by omega, by omega, by omega⟩
            | exact ⟨e.fx-w.fx, e.fy-(w.fy+(e.fx-w.fx)), by omega, by omega, by omega, by omega, by omega, by omega⟩
            | exact ⟨e.fx-w.fx, w.fy-(e.fx-w.fx)-e.fy, by omega, by omega, by omega, by omega, by omega, by omega⟩
            | exact ⟨e.fx-w.fx, e.fy-(w.fy-(e.fx-w.fx)), by omega, by omega, by omega, by omega, by omega, by omega⟩
            | exact ⟨e.fx-w.fx, w.fy-e.fy, by omega, by omega, by omega, by omega, by omega, by omega⟩
            | exact ⟨e.fx-w.fx, e.fy-w.fy, by omega, by omega, by omega, by omega, by omega, by omega⟩
            | exact ⟨w.fx-e.fx, w.fy+(w.fx-e.fx)-e.fy, by omega, by omega, by omega, by omega, by omega, by omega⟩
            | exact ⟨w.fx-e.fx, e.fy-(w.fy+(w.fx-e.fx)), by omega, by omega, by omega, by omega, by omega, by omega⟩
            | exact ⟨w.fx-e.fx, w.fy-(w.fx-e.fx)-e.fy, by omega, by omega, by omega, by omega, by omega, by omega⟩
            | exact ⟨w.fx-e.fx, e.fy-(w.fy-(w.fx-e.fx)), by omega, by omega, by omega, by omega, by omega, by omega⟩
            | exact ⟨w.fx-e.fx, w.fy-e.fy, by omega, by omega, by omega, by omega, by omega, by omega⟩
            | exact ⟨w.fx-e.fx, e.fy-w.fy, by omega, by omega, by omega, by omega, by omega, by omega⟩)
    · obtain ⟨s, h1, h2, h3, h4⟩ := (Zft g).1 hc
      exact ⟨0, s, by omega, by omega, h1, h2, by simpa using h3, by simpa using h4⟩
    · obtain ⟨s, h1, h2, h3, h4⟩ := (Zft g).1 hc
      exact ⟨n, s, by omega, by omega, h1, h2, by rw [<-h.tx]; exact h3, by rw [<-h.ty]; exact h4⟩
    · obtain ⟨t, h1, h2, h3, h4⟩ := (Zft h).1 hc
      exact ⟨t, 0, h1, h2, by omega, by omega, by simpa using h3.symm, by simpa using h4.symm⟩
    · obtain ⟨t, h1, h2, h3, h4⟩ := (Zft h).1 hc
      exact ⟨t, m, h1, h2, by omega, by omega, by rw [<-g.tx]; exact h3.symm, by rw [<-g.ty]; exact h4.symm⟩
  · rintro ⟨t, s, t0, t1, s0, s1, c1, c2⟩
    by_cases z1:t=0
    · exact .inr (.inl ((Zft g).2 ⟨s, s0, s1, by subst z1; simpa using c1, by subst z1; simpa using c2⟩))
    by_cases z2:t=n
    · exact .inr (.inr (.inl ((Zft g).2 ⟨s, s0, s1, by subst z2; rw [h.tx]; exact c1, by subst z2; rw [h.ty]; exact c2⟩)))
    by_cases z3:s=0
    · exact .inr (.inr (.inr (.inl ((Zft h).2 ⟨t, t0, t1, by subst z3; simpa using c1.symm, by subst z3; simpa using c2.symm⟩))))
    by_cases z4:s=m
    · exact .inr (.inr (.inr (.inr ((Zft h).2 ⟨t, t0, t1, by subst z4; rw [g.tx]; exact c1.symm, by subst z4; rw [g.ty]; exact c2.symm⟩))))
    unfold onW bes alo
    rw [h.tx, h.ty, g.tx, g.ty]
    rcases g.hx with rfl|rfl|rfl<;>rcases g.hy with rfl|rfl|rfl<;>(try (exact absurd ⟨rfl, rfl⟩ gxy))<;>(try (exact absurd hax (by decide)))<;>rcases h.hx with rfl|rfl|rfl<;>rcases h.hy with rfl|rfl|rfl<;>(try (exact absurd ⟨rfl, rfl⟩ hxy))<;>simp only [Sc, Rz, Rp, Sq, Tm, Sr, Wu, Pj, Wk] at c1 c2 ⊢ <;> first
      | (refine .inl ?_; omega)
      | (refine .inr ?_; omega)
end Go.Proofs.YtanbhfpalahjcaaGreat
