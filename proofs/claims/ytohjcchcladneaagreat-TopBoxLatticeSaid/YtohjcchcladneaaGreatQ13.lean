/- A part of the proof: lemmas. -/
import Derived.Test.YtohjcchcladneaaGreatQ12
import Derived.Test.YtohjcchcladneaaGreatQ10
import Derived.Test.YtohjcchcladneaaGreatQ7
import Derived.Test.YtohjcchcladneaaGreatQ9
set_option linter.unusedVariables false
set_option linter.unusedSimpArgs false
set_option maxRecDepth 100000
set_option maxHeartbeats 16000000
open Bool renaming and_eq_true->Qf
open Go.IntKind renaming i64->Qb,wrap->Qa
open Go.Sx.AV.int renaming injEq->Wm
open Go.Sx.Cut renaming go->Wg,of->Ov
open Go.Sx.LpM renaming start->Tq,succ->Ri
open Go.Sx.NA renaming rfl->Dx
open Go.Sx.PCall renaming freeze->Mv
open Go.Sx.Ren renaming of->Sv
open Int renaming ediv_emod_unique->Ou,lt_tmod_of_pos->Nk,mul_nonneg->Qu,reduceEq->Tp
open List.cons renaming injEq->Rw
namespace Go.Proofs.YtohjcchcladneaaGreat
open Go Go.Sx
variable {sx sy sz:Int}
theorem Ybx (b:BoxS sx sy sz) {q0 q1:Pl3} (h0:InB sx sy sz q0) {n:Int} (hn:0<=n/\n<6) :
  dst2 (pnt (im1 (boxH sx sy sz) stg0 n q0)) (pnt q1)=dst2 (pnt q0) (mU (bxK n,bxA sx sy sz n) (pnt q1)):=by
 rw [Zmf b hn (h0.near b (by omega)),<-Znm (bxK n,bxA sx sy sz n) (p:=mU (bxK n,bxA sx sy sz n) (pnt q0)) (by rw [mU_d]; rfl),Zv1]
theorem Zxx (b:BoxS sx sy sz) {q0 q1:Pl3} (h0:InB sx sy sz q0) {n m:Int} (hn:0<=n/\n<6) (hm:0<=m/\m<6) :
  dst2 (pnt (im1 (boxH sx sy sz) stg0 m (im1 (boxH sx sy sz) stg0 n q0))) (pnt q1)=dst2 (pnt q0) (mU (bxK n,bxA sx sy sz n) (mU (bxK m,bxA sx sy sz m) (pnt q1))):=by
 obtain ⟨_,_,_,r1,_⟩:=Zj3 (q1:=q1) b h0 hn hm
 have e2:=Zmf b hm (q:=im1 (boxH sx sy sz) stg0 n q0) (by obtain ⟨x,y,z⟩:=r1; exact ⟨by omega,by omega,by omega⟩)
 rw [e2,Zmf b hn (h0.near b (by omega))]
 rw [<-Znm (bxK m,bxA sx sy sz m) (p:=mU (bxK m,bxA sx sy sz m) (mU (bxK n,bxA sx sy sz n) (pnt q0))) (by rw [mU_d,mU_d]; rfl),Zv1]
 rw [<-Znm (bxK n,bxA sx sy sz n) (p:=mU (bxK n,bxA sx sy sz n) (pnt q0)) (by rw [mU_d,mU_d]; rfl),Zv1]
theorem Zz9 (b:BoxS sx sy sz) {q0 q1:Pl3} (h0:InB sx sy sz q0) (h1:InB sx sy sz q1) {n:Int} (hn:0<=n/\n<6) :
  ∃ p,Zaf (boxH sx sy sz) stg0 q0 q1 [n]=some p/\p.sq=dst2 (pnt q0) (mU (bxK n,bxA sx sy sz n) (pnt q1)):=by
 obtain ⟨P,hP⟩:=Ybk b h0 h1 hn
 exact ⟨_,hP,Ybx b h0 hn⟩
theorem Zv6 (b:BoxS sx sy sz) {q0 q1:Pl3} (h0:InB sx sy sz q0) (h1:InB sx sy sz q1) {n m:Int} (hn:0<=n/\n<6) (hm:0<=m/\m<6) (hne:n≠m) (hk:bxK n=bxK m) :
  ∃ p,Zaf (boxH sx sy sz) stg0 q0 q1 [n,m]=some p/\p.sq=dst2 (pnt q0) (mU (bxK n,bxA sx sy sz n) (mU (bxK m,bxA sx sy sz m) (pnt q1))):=by
 have I:=Zj3 (q1:=q1) b h0 hn hm
 obtain ⟨al,be,ga,de,T⟩:=Zva b h0 h1 hn hm hne I hk
 obtain ⟨P,Q,hP⟩:=Zug b h0 h1 hn hm I.r1 I.r2 T
 exact ⟨_,hP,Zxx b h0 hn hm⟩
def far (sx sy sz n:Int) (q:Pl3):Int:=if bxA sx sy sz n=0 then cx (bxK n) (pnt q) else bxS sx sy sz (bxK n)-cx (bxK n) (pnt q)
theorem Zby (b:BoxS sx sy sz) (n:Int) {q:Pl3} (h:InB sx sy sz q):0<far sx sy sz n q/\far sx sy sz n q<=2000:=by
 have hk:=Yl n
 have:=h _ hk.1 hk.2
 have s:=Zbc b (bxK n)
 unfold far
 split<;>omega
theorem Zck (n:Int) (q0 q1:Pl3):(bxA sx sy sz n=0/\cx (bxK n) (pnt q1)=far sx sy sz n q1/\cx (bxK n) (pnt q0)=far sx sy sz n q0) \/
  (bxA sx sy sz n=bxS sx sy sz (bxK n)/\cx (bxK n) (pnt q1)=bxS sx sy sz (bxK n)-far sx sy sz n q1/\cx (bxK n) (pnt q0)=bxS sx sy sz (bxK n)-far sx sy sz n q0):=by
 unfold far
 by_cases e:bxA sx sy sz n=0
 ·rw [if_pos e,if_pos e]; exact .inl ⟨e,rfl,rfl⟩
 ·rw [if_neg e,if_neg e]
  rcases Zpf (sx:=sx) (sy:=sy) (sz:=sz) n with z|z
  ·exact absurd z e
  ·exact .inr ⟨z,by omega,by omega⟩
theorem Zv5 (b:BoxS sx sy sz) {q0 q1:Pl3} (h0:InB sx sy sz q0) (h1:InB sx sy sz q1) {n m:Int} (hn:0<=n/\n<6) (hm:0<=m/\m<6) (hk:bxK n≠bxK m)
  (hs:far sx sy sz n q0*far sx sy sz m q1<far sx sy sz n q1*far sx sy sz m q0) :
  ∃ p,Zaf (boxH sx sy sz) stg0 q0 q1 [n,m]=some p/\p.sq=dst2 (pnt q0) (mU (bxK n,bxA sx sy sz n) (mU (bxK m,bxA sx sy sz m) (pnt q1))):=by
 have I:=Zj3 (q1:=q1) b h0 hn hm
 have T:=Zvb b h0 h1 I hk (Zby b n h0) (Zby b n h1) (Zby b m h0) (Zby b m h1) (Zck n q0 q1) (Zck m q0 q1) hs
 obtain ⟨P,Q,hP⟩:=Zug b h0 h1 hn hm I.r1 I.r2 T
 exact ⟨_,hP,Zxx b h0 hn hm⟩
theorem Zv7 (b:BoxS sx sy sz) {q0 q1:Pl3} (h0:InB sx sy sz q0) (h1:InB sx sy sz q1) {n m:Int} (hn:0<=n/\n<6) (hm:0<=m/\m<6) (hk:bxK n≠bxK m)
  (hs:far sx sy sz n q1*far sx sy sz m q0<=far sx sy sz n q0*far sx sy sz m q1):Zaf (boxH sx sy sz) stg0 q0 q1 [n,m]=none :=
 Zw3 b h0 h1 hn hm hk (Zck n q0 q1) (Zck m q0 q1) (Zby b m h1).1 hs
variable {sx sy sz:Int}
theorem Zuj (b:BoxS sx sy sz) {q:Pl3} (h:InB sx sy sz q):plaE (boxH sx sy sz) q.1 q.2.1 q.2.2=0:=by
 have k:=(all3 (p:=fun j=>0<cx j (pnt q)/\cx j (pnt q)<bxS sx sy sz j)).1 h
 have he:=Zif (h.err b)
 have hw:=(Zhu b he).2
 simp only [cx,bxS,pnt] at k hw
 simp at k hw
 have hb:=b.z
 have hx:=b.x
 have hy:=b.y
 unfold plaE
 rw [if_pos (by unfold plcB; simp only [Qf,within_iff]; omega)]
 have hi:Zam (boxH sx sy sz) ⟨q.1,q.2.1,q.2.2,1⟩=true:=by
  unfold Zam
  rw [hw k.1.1 k.1.2 k.2.1.1 k.2.1.2,show (boxH sx sy sz).ht=sz from rfl]
  dsimp only
  rw [Int.mul_one,W_eq (n:=sz) (by omega) (by omega)]
  simp
  omega
 rw [hi]
 rfl
theorem Zuk (b:BoxS sx sy sz) {a:Ask} (h0:InB sx sy sz (qF a)) (h1:InB sx sy sz (qT a)) (hne:a.same=false) (hn:a.n=2):askE (boxH sx sy sz) stg0 a=0:=by
 have e0:plaE (boxH sx sy sz) a.fx a.fy a.fz=0:=Zuj b h0
 have e1:plaE (boxH sx sy sz) a.tx a.ty a.tz=0:=Zuj b h1
 unfold askE
 rw [if_pos (Zbt b),e0,e1,hne,hn]
 rfl
theorem Ybd {n:Int} (hn:0<=n/\n<6):suE (boxH sx sy sz) [n]=0:=by
 have hw:within n 0 (nsur (boxH sx sy sz)-1)=true:=within_iff.2 ⟨hn.1,by show n<=6-1; omega⟩
 unfold suE
 rw [if_neg (by simp),wkG,if_pos hw,if_neg (by simp),wkG]
theorem Ybc {n m:Int} (hn:0<=n/\n<6) (hm:0<=m/\m<6) (hne:n≠m):suE (boxH sx sy sz) [n,m]=0:=by
 have hw:within n 0 (nsur (boxH sx sy sz)-1)=true:=within_iff.2 ⟨hn.1,by show n<=6-1; omega⟩
 have hv:within m 0 (nsur (boxH sx sy sz)-1)=true:=within_iff.2 ⟨hm.1,by show m<=6-1; omega⟩
 unfold suE
 rw [if_neg (by simp),wkG,if_pos hw,if_neg (by simp),wkG,if_pos hv,if_neg (by simp; omega),wkG]
theorem Zzs (b:BoxS sx sy sz) {a:Ask} (h0:InB sx sy sz (qF a)) (h1:InB sx sy sz (qT a)) (hne:a.same=false) (hn2:a.n=2) {n:Int} (hn:0<=n/\n<6) :
  ∃ p,pofV (boxH sx sy sz) stg0 a [n]=(some p,0)/\p.sq=dst2 (pnt (qF a)) (mU (bxK n,bxA sx sy sz n) (pnt (qT a))):=by
 obtain ⟨p,hp,hs⟩:=Zz9 b h0 h1 hn
 refine ⟨p,?_,hs⟩
 unfold pofV
 rw [if_pos (Zuk b h0 h1 hne hn2),if_pos (Ybd hn),hp]
theorem Zzr (b:BoxS sx sy sz) {a:Ask} (h0:InB sx sy sz (qF a)) (h1:InB sx sy sz (qT a)) (hne:a.same=false) (hn2:a.n=2) {n m:Int} (hn:0<=n/\n<6) (hm:0<=m/\m<6) (hnm:n≠m) :
  pofV (boxH sx sy sz) stg0 a [n,m]=match Zaf (boxH sx sy sz) stg0 (qF a) (qT a) [n,m] with
   | none=>(none,12)
   | some p=>(some p,0):=by
 unfold pofV
 rw [if_pos (Zuk b h0 h1 hne hn2),if_pos (Ybc hn hm hnm)]
 cases Zaf (boxH sx sy sz) stg0 (qF a) (qT a) [n,m]<;>rfl
theorem Zjw (b:BoxS sx sy sz) (n:Int) {q0 q1:Pl3} (h0:InB sx sy sz q0) (h1:InB sx sy sz q1) :
  size (bxA sx sy sz n-cx (bxK n) (pnt q0))=far sx sy sz n q0/\size (2*bxA sx sy sz n-cx (bxK n) (pnt q1)-cx (bxK n) (pnt q0))=far sx sy sz n q0+far sx sy sz n q1:=by
 have s:=Zbc b (bxK n)
 have f0:=Zby b n h0
 have f1:=Zby b n h1
 rcases Zck (sx:=sx) (sy:=sy) (sz:=sz) n q0 q1 with ⟨z1,z2,z3⟩|⟨z1,z2,z3⟩
 ·rw [z1,z2,z3,Vo (by omega),Vo (by omega)]
  constructor<;>split<;>omega
 ·rw [z1,z2,z3,Vo (by omega),Vo (by omega)]
  constructor<;>split<;>omega
abbrev ibA (s0 s1 s2 f0 f1 f2 t0 t1 t2:Int):AV:=.agg [I s0,I s1,I s2,I f0,I f1,I f2,I t0,I t1,I t2]
theorem e7 (s0 s1 s2 f0 f1 f2 t0 t1 t2:Int) {u:Int} (hu:0<=u/\u<6):PCall Tryz.prog 7 [ibA s0 s1 s2 f0 f1 f2 t0 t1 t2,I u] ⟨.tup [I (bxK u),I (bxA s0 s1 s2 u)],[]⟩:=by
 have h:u=0\/u=1\/u=2\/u=3\/u=4\/u=5:=by omega
 rcases h with rfl|rfl|rfl|rfl|rfl|rfl
 all_goals
  refine pn Zh Tryz.func7 ?_
  repeat'(first|refine wk3 ?_|(refine wk2 ?_ ?_<;>intro _)|fail)
  exact Zg rfl rfl
def sqW (a b:Int × Int × Int):Int:=Qa Qb (Qa Qb (Qa Qb (0+Qa Qb (Qa Qb (a.1-b.1)*Qa Qb (a.1-b.1)))+Qa Qb (Qa Qb (a.2.1-b.2.1)*Qa Qb (a.2.1-b.2.1)))+Qa Qb (Qa Qb (a.2.2-b.2.2)*Qa Qb (a.2.2-b.2.2)))
abbrev A3 (a:Int × Int × Int):AV:=.agg [I a.1,I a.2.1,I a.2.2]
theorem e10 (a b:Int × Int × Int):PCall Tryz.prog 10 [A3 a,A3 b] ⟨I (sqW a b),[]⟩:=by
 refine pn Zh Tryz.func10 ?_
 repeat'(first|refine wk3 ?_|(refine wk2 ?_ ?_<;>intro _)|fail)
 refine Tq 4 ?_
 refine Ri (bs.av (sx:=nos) Zh ?_)
 repeat'(first|refine wk3 ?_|(refine wk2 ?_ ?_<;>intro _)|fail)
 refine Ri (bs.av (sx:=nos) Zh ?_)
 repeat'(first|refine wk3 ?_|(refine wk2 ?_ ?_<;>intro _)|fail)
 refine Ri (bs.av (sx:=nos) Zh ?_)
 repeat'(first|refine wk3 ?_|(refine wk2 ?_ ?_<;>intro _)|fail)
 refine Ri (bs.av (sx:=nos) Zh ?_)
 repeat'(first|refine wk3 ?_|(refine wk2 ?_ ?_<;>intro _)|fail)
 exact Zd rfl
theorem Ztm {n b:Int} (hb:0<b):(n.tmod b<0/\n%b=n.tmod b+b)\/(¬ n.tmod b<0/\n%b=n.tmod b):=by
 have e1:=Int.tmod_add_mul_tdiv n b
 have e2:=Int.tmod_lt_of_pos n hb
 have e3:=Nk n hb
 by_cases h:n.tmod b<0
 ·exact .inl ⟨h,((Ou hb (r:=n.tmod b+b) (q:=n.tdiv b-1)).2 ⟨by rw [Int.mul_sub]; omega,by omega,by omega⟩).2⟩
 ·exact .inr ⟨h,((Ou hb (r:=n.tmod b) (q:=n.tdiv b)).2 ⟨by omega,by omega,by omega⟩).2⟩
theorem e6 (n:Int):PCall Tryz.prog 6 [I n,I 6] ⟨I (n%6),[]⟩:=by
 have e3:=Nk n (b:=6) (by decide)
 rcases Ztm (n:=n) (b:=6) (by decide) with ⟨c1,c2⟩|⟨c1,c2⟩
 ·have w:Qa Qb (n.tmod 6+6)=n.tmod 6+6:=W_eq (by omega) (by omega)
  rw [c2,<-w]
  refine pn Zh Tryz.func6 ?_
  repeat'(first|refine wk3 ?_|(refine wk2 ?_ ?_<;>intro _)|fail)
  all_goals exact Zd rfl
 ·rw [c2]
  refine pn Zh Tryz.func6 ?_
  repeat'(first|refine wk3 ?_|(refine wk2 ?_ ?_<;>intro _)|fail)
  all_goals exact Zd rfl
theorem e13:PCall Tryz.prog 13 [] ⟨.agg bxP.c,[]⟩:=by
 refine Mv (res:=⟨.agg [.str ⟨⟨[104]⟩⟩,I 600,.str ⟨⟨[119]⟩⟩,.str ⟨⟨[119]⟩⟩,.asl 0 0 1,.asl 1 0 4,.asl 2 0 4,.nils,.nils],[(6,bxP.ms),(2,bxP.ps.map pt),(3,bxP.wa)]⟩) ?_ ⟨⟨rfl,rfl⟩,⟨rfl,rfl⟩,⟨rfl,rfl⟩,⟨rfl,rfl⟩,⟨rfl,rfl,rfl⟩,⟨rfl,rfl,rfl⟩,⟨rfl,rfl,rfl⟩,⟨rfl,rfl⟩,⟨rfl,rfl⟩,trivial⟩
 refine pn Zh Tryz.func13 ?_
 repeat'(first|refine wk3 ?_|(refine wk2 ?_ ?_<;>intro _)|fail)
 all_goals exact Uk [1,2,3] rfl rfl rfl
theorem e9 (s0 s1 s2 f0 f1 f2 t0 t1 t2:Int):PCall Tryz.prog 9 [ibA s0 s1 s2 f0 f1 f2 t0 t1 t2] ⟨(boxH s0 s1 s2).av,[]⟩:=by
 refine Mv (res:=⟨.agg [.str ⟨⟨[104]⟩⟩,I s2,.str ⟨⟨[119]⟩⟩,.str ⟨⟨[119]⟩⟩,.isl 6 bxP.ms,.asl 0 0 4,.isl 3 bxP.wa,.nils,.nils],[(2,[[I 0,I 0],[I s0,I 0],[I s0,I s1],[I 0,I s1]])]⟩) ?_ ⟨⟨rfl,rfl⟩,⟨rfl,rfl⟩,⟨rfl,rfl⟩,⟨rfl,rfl⟩,⟨rfl,rfl⟩,⟨rfl,rfl,rfl⟩,⟨rfl,rfl⟩,rfl,rfl,trivial⟩
 refine pn (Zi e13 Zh) Tryz.func9 ?_
 repeat'(first|refine wk3 ?_|(refine wk2 ?_ ?_<;>intro _)|fail)
 all_goals exact Uk [3] rfl rfl rfl
def sel (k a b c:Int):Int:=if k=0 then a else if k=1 then b else c
def upd (k v:Int) (t:Int × Int × Int):Int × Int × Int:=if k=0 then (v,t.2.1,t.2.2) else if k=1 then (t.1,v,t.2.2) else (t.1,t.2.1,v)
theorem W_id {n:Int} (h : -100000000000<=n/\n<=100000000000):Qa Qb n=n:=W_eq (by omega) (by omega)
theorem Zrh {x:Int} (h : -20000<=x/\x<=20000):0<=x*x/\x*x<=400000000:=by
 refine ⟨?_,?_⟩
 ·rcases Int.le_total 0 x with c|c
  ·exact Qu c c
  ·exact Int.mul_nonneg_of_nonpos_of_nonpos c c
 ·have h1:0<=(20000-x)*(20000+x):=Qu (by omega) (by omega)
  have h2:(20000-x)*(20000+x)=400000000-x*x:=by grind
  omega
def Bd3 (a:Int × Int × Int):Prop:=(-8000<=a.1/\a.1<=8000)/\(-8000<=a.2.1/\a.2.1<=8000)/\(-8000<=a.2.2/\a.2.2<=8000)
theorem Zri {a b:Int × Int × Int} (ha:Bd3 a) (hb:Bd3 b):sqW a b=dst2 (pnt a) (pnt b):=by
 obtain ⟨a0,a1,a2⟩:=ha
 obtain ⟨b0,b1,b2⟩:=hb
 have q0:=Zrh (x:=a.1-b.1) (by omega)
 have q1:=Zrh (x:=a.2.1-b.2.1) (by omega)
 have q2:=Zrh (x:=a.2.2-b.2.2) (by omega)
 unfold sqW
 rw [W_id (n:=a.1-b.1) (by omega),W_id (n:=a.2.1-b.2.1) (by omega),W_id (n:=a.2.2-b.2.2) (by omega)]
 rw [W_id (n:=(a.1-b.1)*(a.1-b.1)) (by omega),W_id (n:=(a.2.1-b.2.1)*(a.2.1-b.2.1)) (by omega),W_id (n:=(a.2.2-b.2.2)*(a.2.2-b.2.2)) (by omega)]
 rw [W_id (n:=0+(a.1-b.1)*(a.1-b.1)) (by omega),W_id (n:=0+(a.1-b.1)*(a.1-b.1)+(a.2.1-b.2.1)*(a.2.1-b.2.1)) (by omega),W_id (by omega),Int.zero_add]
 rfl
theorem Zn7 {k v:Int} {t:Int × Int × Int} (ht:Bd3 t) (hv : -8000<=v/\v<=8000):Bd3 (upd k v t):=by
 obtain ⟨t0,t1,t2⟩:=ht
 unfold upd
 split
 ·exact ⟨hv,t1,t2⟩
 ·split
  ·exact ⟨t0,hv,t2⟩
  ·exact ⟨t0,t1,hv⟩
theorem Zk4 {k a:Int} (hk:0<=k/\k<3) (t:Int × Int × Int):mU (k,a) (pnt t)=pnt (upd k (2*a-sel k t.1 t.2.1 t.2.2) t):=by
 have h:k=0\/k=1\/k=2:=by omega
 unfold mU upd sel pnt
 rcases h with rfl|rfl|rfl<;>simp
theorem Zzi {k v:Int} (hk:0<=k/\k<3) (t:Int × Int × Int):sel k (upd k v t).1 (upd k v t).2.1 (upd k v t).2.2=v:=by
 have h:k=0\/k=1\/k=2:=by omega
 unfold upd sel
 rcases h with rfl|rfl|rfl<;>simp
theorem Zvm {k l v:Int} (hk:0<=k/\k<3) (hl:0<=l/\l<3) (hne:k≠l) (t:Int × Int × Int):sel l (upd k v t).1 (upd k v t).2.1 (upd k v t).2.2=sel l t.1 t.2.1 t.2.2:=by
 have h:k=0\/k=1\/k=2:=by omega
 have h2:l=0\/l=1\/l=2:=by omega
 unfold upd sel
 rcases h with rfl|rfl|rfl<;>rcases h2 with rfl|rfl|rfl<;>first|(exact absurd rfl hne)|simp
theorem Zzc {k v w:Int} (t:Int × Int × Int):upd k v (upd k w t)=upd k v t:=by
 unfold upd
 repeat' split
 all_goals first|rfl|contradiction
theorem Zu9 {k l v w:Int} (hk:0<=k/\k<3) (hl:0<=l/\l<3) (hne:k≠l) (t:Int × Int × Int):upd k v (upd l w t)=upd l w (upd k v t):=by
 have h:k=0\/k=1\/k=2:=by omega
 have h2:l=0\/l=1\/l=2:=by omega
 unfold upd
 rcases h with rfl|rfl|rfl<;>rcases h2 with rfl|rfl|rfl<;>first|(exact absurd rfl hne)|simp
def T3 (sx sy sz:Int) (t:Int × Int × Int):Prop:=(1<=t.1/\t.1<=sx-1)/\(1<=t.2.1/\t.2.1<=sy-1)/\(1<=t.2.2/\t.2.2<=sz-1)
variable {sx sy sz:Int}
theorem T3.inB {t:Int × Int × Int} (h:T3 sx sy sz t):InB sx sy sz t:=by
 obtain ⟨t0,t1,t2⟩:=h
 intro j j0 j3
 have hj:j=0\/j=1\/j=2:=by omega
 rcases hj with rfl|rfl|rfl
 ·show 0<t.1/\t.1<sx
  omega
 ·show 0<t.2.1/\t.2.1<sy
  omega
 ·show 0<t.2.2/\t.2.2<sz
  omega
theorem T3.bd (b:BoxS sx sy sz) {t:Int × Int × Int} (h:T3 sx sy sz t):Bd3 t:=by
 obtain ⟨t0,t1,t2⟩:=h
 obtain ⟨x,y,z⟩:=b
 exact ⟨by omega,by omega,by omega⟩
theorem Zcm (b:BoxS sx sy sz) (n:Int):0<=bxA sx sy sz n/\bxA sx sy sz n<=2000:=by
 have:=Zbc b (bxK n)
 unfold bxA
 split<;>omega
theorem Zc8 (b:BoxS sx sy sz) {t:Int × Int × Int} (h:T3 sx sy sz t) (k:Int):1<=sel k t.1 t.2.1 t.2.2/\sel k t.1 t.2.1 t.2.2<=2000:=by
 obtain ⟨t0,t1,t2⟩:=h
 obtain ⟨x,y,z⟩:=b
 unfold sel
 split
 ·omega
 ·split<;>omega
def m1 (a t:Int):Int:=Qa Qb (Qa Qb (2*a)-t)
def m2 (a b t:Int):Int:=Qa Qb (Qa Qb (2*a)-Qa Qb (Qa Qb (2*b)-t))
theorem Zqb {a t:Int} (ha:0<=a/\a<=2000) (ht:1<=t/\t<=2000):m1 a t=2*a-t:=by
 unfold m1
 rw [W_id (n:=2*a) (by omega),W_id (by omega)]
theorem Ydv {a b t:Int} (ha:0<=a/\a<=2000) (hb:0<=b/\b<=2000) (ht:1<=t/\t<=2000):m2 a b t=2*a-(2*b-t):=by
 unfold m2
 rw [W_id (n:=2*a) (by omega),W_id (n:=2*b) (by omega),W_id (n:=2*b-t) (by omega),W_id (by omega)]
theorem Zzy (b:BoxS sx sy sz) {f t:Int × Int × Int} (hf:T3 sx sy sz f) (ht:T3 sx sy sz t) {n:Int} :
  dst2 (pnt f) (mU (bxK n,bxA sx sy sz n) (pnt t))=sqW f (upd (bxK n) (m1 (bxA sx sy sz n) (sel (bxK n) t.1 t.2.1 t.2.2)) t):=by
 have ha:=Zcm b n
 have hs:=Zc8 b ht (bxK n)
 rw [Zk4 (Yl n),Zqb ha hs,Zri (hf.bd b) (Zn7 (ht.bd b) (by omega))]
theorem Zvv (b:BoxS sx sy sz) {f t:Int × Int × Int} (hf:T3 sx sy sz f) (ht:T3 sx sy sz t) {n m:Int} (hk:bxK n=bxK m) :
  dst2 (pnt f) (mU (bxK n,bxA sx sy sz n) (mU (bxK m,bxA sx sy sz m) (pnt t)))=sqW f (upd (bxK n) (m2 (bxA sx sy sz n) (bxA sx sy sz m) (sel (bxK n) t.1 t.2.1 t.2.2)) t):=by
 have ha:=Zcm b n
 have hb:=Zcm b m
 have hs:=Zc8 b ht (bxK n)
 rw [<-hk,Zk4 (Yl n),Zk4 (Yl n),Zzi (Yl n),Zzc,Ydv ha hb hs,Zri (hf.bd b) (Zn7 (ht.bd b) (by omega))]
theorem Zvw (b:BoxS sx sy sz) {f t:Int × Int × Int} (hf:T3 sx sy sz f) (ht:T3 sx sy sz t) {n m:Int} (hk:bxK n≠bxK m) :
  dst2 (pnt f) (mU (bxK n,bxA sx sy sz n) (mU (bxK m,bxA sx sy sz m) (pnt t)))=sqW f (upd (bxK m) (m1 (bxA sx sy sz m) (sel (bxK m) t.1 t.2.1 t.2.2)) (upd (bxK n) (m1 (bxA sx sy sz n) (sel (bxK n) t.1 t.2.1 t.2.2)) t)):=by
 have ha:=Zcm b n
 have hb:=Zcm b m
 have hs:=Zc8 b ht (bxK n)
 have hs2:=Zc8 b ht (bxK m)
 rw [Zk4 (Yl m),Zk4 (Yl n),Zvm (Yl m) (Yl n) (Ne.symm hk),Zqb ha hs,Zqb hb hs2,Zu9 (Yl n) (Yl m) hk,Zri (hf.bd b) (Zn7 (Zn7 (ht.bd b) (by omega)) (by omega))]
def soon (a f t b g s:Int):Int:=cmpQ (size (Qa Qb (a-f))) (size (Qa Qb (m1 a t-f))) (size (Qa Qb (b-g))) (size (Qa Qb (m1 b s-g)))
theorem Zzg (b:BoxS sx sy sz) {f t:Int × Int × Int} (hf:T3 sx sy sz f) (ht:T3 sx sy sz t) (n m:Int) :
  soon (bxA sx sy sz n) (sel (bxK n) f.1 f.2.1 f.2.2) (sel (bxK n) t.1 t.2.1 t.2.2) (bxA sx sy sz m) (sel (bxK m) f.1 f.2.1 f.2.2) (sel (bxK m) t.1 t.2.1 t.2.2) =
   sgn (far sx sy sz n f*(far sx sy sz m f+far sx sy sz m t)-far sx sy sz m f*(far sx sy sz n f+far sx sy sz n t)):=by
 have ha:=Zcm b n
 have hb:=Zcm b m
 have hs:=Zc8 b ht (bxK n)
 have hs2:=Zc8 b ht (bxK m)
 have gs:=Zc8 b hf (bxK n)
 have gs2:=Zc8 b hf (bxK m)
 obtain ⟨z1,z2⟩:=Zjw b n hf.inB ht.inB
 obtain ⟨z3,z4⟩:=Zjw b m hf.inB ht.inB
 have e1:cx (bxK n) (pnt f)=sel (bxK n) f.1 f.2.1 f.2.2:=rfl
 have e2:cx (bxK n) (pnt t)=sel (bxK n) t.1 t.2.1 t.2.2:=rfl
 have e3:cx (bxK m) (pnt f)=sel (bxK m) f.1 f.2.1 f.2.2:=rfl
 have e4:cx (bxK m) (pnt t)=sel (bxK m) t.1 t.2.1 t.2.2:=rfl
 rw [e1] at z1
 rw [e1,e2] at z2
 rw [e3] at z3
 rw [e3,e4] at z4
 unfold soon
 rw [Zqb ha hs,Zqb hb hs2,W_id (n:=bxA sx sy sz n-_) (by omega),W_id (n:=2*bxA sx sy sz n-_-_) (by omega),W_id (n:=bxA sx sy sz m-_) (by omega),W_id (n:=2*bxA sx sy sz m-_-_) (by omega),z1,z2,z3,z4]
 rfl
theorem Zrk (b:BoxS sx sy sz) {f t:Int × Int × Int} (hf:T3 sx sy sz f) (ht:T3 sx sy sz t) (n:Int) :
  size (Qa Qb (bxA sx sy sz n-sel (bxK n) f.1 f.2.1 f.2.2))=far sx sy sz n f/\size (Qa Qb (m1 (bxA sx sy sz n) (sel (bxK n) t.1 t.2.1 t.2.2)-sel (bxK n) f.1 f.2.1 f.2.2))=far sx sy sz n f+far sx sy sz n t:=by
 have ha:=Zcm b n
 have hs:=Zc8 b ht (bxK n)
 have gs:=Zc8 b hf (bxK n)
 obtain ⟨z1,z2⟩:=Zjw b n hf.inB ht.inB
 have e1:cx (bxK n) (pnt f)=sel (bxK n) f.1 f.2.1 f.2.2:=rfl
 have e2:cx (bxK n) (pnt t)=sel (bxK n) t.1 t.2.1 t.2.2:=rfl
 rw [e1] at z1
 rw [e1,e2] at z2
 rw [Zqb ha hs,W_id (n:=bxA sx sy sz n-_) (by omega),W_id (n:=2*bxA sx sy sz n-_-_) (by omega)]
 exact ⟨z1,z2⟩
theorem Zvl (b:BoxS sx sy sz) {f t:Int × Int × Int} (hf:T3 sx sy sz f) (ht:T3 sx sy sz t) (n m:Int) :
  okQ (size (Qa Qb (bxA sx sy sz n-sel (bxK n) f.1 f.2.1 f.2.2))) (size (Qa Qb (m1 (bxA sx sy sz n) (sel (bxK n) t.1 t.2.1 t.2.2)-sel (bxK n) f.1 f.2.1 f.2.2))) (size (Qa Qb (bxA sx sy sz m-sel (bxK m) f.1 f.2.1 f.2.2))) (size (Qa Qb (m1 (bxA sx sy sz m) (sel (bxK m) t.1 t.2.1 t.2.2)-sel (bxK m) f.1 f.2.1 f.2.2))):=by
 obtain ⟨a1,a2⟩:=Zrk b hf ht n
 obtain ⟨a3,a4⟩:=Zrk b hf ht m
 rw [a1,a2,a3,a4]
 have b1:=Zby b n hf.inB
 have b2:=Zby b n ht.inB
 have b3:=Zby b m hf.inB
 have b4:=Zby b m ht.inB
 exact ⟨by omega,by omega,by omega,by omega⟩
noncomputable abbrev r6F:List AV->Option PRes:=famA (fun _:Int=>True) (fun n=>[I n,I 6]) (fun n=>⟨I (n%6),[]⟩)
theorem Zjg (n:Int):r6F [I n,I 6]=some ⟨I (n%6),[]⟩ :=
 Yr (p:=fun _:Int=>True) (g:=fun n=>[I n,I 6]) (r:=fun n=>⟨I (n%6),[]⟩) (k:=n) (fun j hj=>by
  simp only [Rw,Wm,true_and,and_true] at hj
  rw [hj]) trivial
noncomputable abbrev r7F (x:AV) (s0 s1 s2:Int):List AV->Option PRes:=famA (fun n:Int=>0<=n/\n<6) (fun n=>[x,I n]) (fun n=>⟨.tup [I (bxK n),I (bxA s0 s1 s2 n)],[]⟩)
theorem Zry (x:AV) (s0 s1 s2:Int) {n:Int} (h:0<=n/\n<6):r7F x s0 s1 s2 [x,I n]=some ⟨.tup [I (bxK n),I (bxA s0 s1 s2 n)],[]⟩ :=
 Yr (p:=fun n:Int=>0<=n/\n<6) (g:=fun n=>[x,I n]) (r:=fun n=>⟨.tup [I (bxK n),I (bxA s0 s1 s2 n)],[]⟩) (k:=n) (fun j hj=>by
  simp only [Rw,Wm,true_and,and_true] at hj
  rw [hj]) h
abbrev nilG:AV:=.agg [.nils,.nils]
noncomputable abbrev r8F (h:Hal) (a:Ask):List AV->Option PRes:=famA (fun ns:List Int=>ns.length<1000) (fun ns=>[h.av,nilG,a.av,.isl 1 (nl ns)]) (fun ns=>⟨.tup [rawO (pofV h stg0 a ns).1,I (pofV h stg0 a ns).2],[]⟩)
theorem Zrx (h:Hal) (a:Ask) {ns:List Int} (hl:ns.length<1000):r8F h a [h.av,nilG,a.av,.isl 1 (nl ns)]=some ⟨.tup [rawO (pofV h stg0 a ns).1,I (pofV h stg0 a ns).2],[]⟩ :=
 Yr (p:=fun ns:List Int=>ns.length<1000) (g:=fun ns=>[h.av,nilG,a.av,.isl 1 (nl ns)]) (r:=fun ns=>⟨.tup [rawO (pofV h stg0 a ns).1,I (pofV h stg0 a ns).2],[]⟩) (k:=ns) (fun j hj=>by
  simp only [Rw,AV.isl.injEq,true_and,and_true] at hj
  rw [Zx3 hj]) hl
theorem e8 {h:Hal} (hk:h.ok) (a:Ask) {ns:List Int} (hl:ns.length<1000):PCall Tryz.prog 8 [h.av,nilG,a.av,.isl 1 (nl ns)] ⟨.tup [rawO (pofV h stg0 a ns).1,I (pofV h stg0 a ns).2],[]⟩ :=
 PCall.nilArgs (d14 hk Zn9 a hl) ⟨Dx,.inr ⟨_,_,rfl,rfl,.inr ⟨rfl,1,rfl⟩,.inr ⟨rfl,1,rfl⟩,trivial⟩,Dx,Dx,trivial⟩
def rSq:List AV->Option PRes
 | [.agg [.int .i64 a0,.int .i64 a1,.int .i64 a2],.agg [.int .i64 b0,.int .i64 b1,.int .i64 b2]]=>some ⟨I (sqW (a0,a1,a2) (b0,b1,b2)),[]⟩
 | _=>none
noncomputable def kBx (x:AV) (s0 s1 s2:Int) (a:Ask):PC:=ins 4 (one [] ⟨Bo true,[]⟩) (ins 5 r78 (ins 6 r6F (ins 7 (r7F x s0 s1 s2) (ins 8 (r8F (boxH s0 s1 s2) a) (ins 9 (one [x] ⟨(boxH s0 s1 s2).av,[]⟩) (ins 10 rSq (ins 11 cmps (ins 12 rS1 pt0))))))))
theorem Ycu (s0 s1 s2 f0 f1 f2 t0 t1 t2:Int) (a:Ask):PCOK Tryz.prog (kBx (ibA s0 s1 s2 f0 f1 f2 t0 t1 t2) s0 s1 s2 a) :=
 Zi Zhc (Zj (fun a res h=>by unfold r78 at h; split at h<;>cases h; exact c30 _ _ _) (Xs (fun n _=>e6 n) (Xs (fun n hn=>e7 _ _ _ _ _ _ _ _ _ hn) (Xs (fun ns hl=>e8 Zyx a hl) (Zi (e9 _ _ _ _ _ _ _ _ _) (Zj (fun a res h=>by unfold rSq at h; split at h<;>cases h; exact e10 (_,_,_) (_,_,_)) (Ya6 (Zj (fun a res h=>by unfold rS1 at h; split at h<;>cases h; exact c125 _) Zh))))))))
def okB (s0 s1 s2 f0 f1 f2 t0 t1 t2:Int):Bool :=
 (within s0 2 2000&&within f0 1 (Qa Qb (s0-1))&&within t0 1 (Qa Qb (s0-1)))&&(within s1 2 2000&&within f1 1 (Qa Qb (s1-1))&&within t1 1 (Qa Qb (s1-1)))&&(within s2 2 2000&&within f2 1 (Qa Qb (s2-1))&&within t2 1 (Qa Qb (s2-1)))
theorem Ydb {s0 s1 s2 f0 f1 f2 t0 t1 t2:Int} (u v:Int) (h:okB s0 s1 s2 f0 f1 f2 t0 t1 t2=false):PCall Tryz.prog 3 [ibA s0 s1 s2 f0 f1 f2 t0 t1 t2,I u,I v] ⟨Bo true,[]⟩:=by
 have hk:=Zi Zhc (Zj (f0:=5) (r:=r78) (fun a res h=>by unfold r78 at h; split at h<;>cases h; exact c30 _ _ _) Zh)
 unfold okB at h
 refine pn hk Tryz.func3 ?_
 repeat'(first|refine wk3 ?_|(refine wk2 ?_ ?_<;>intro _)|fail)
 refine Tq 4 ?_
 refine Ri (bs.av (sx:=nos) hk ?_)
 repeat'(first|refine wk3 ?_|(refine wk2 ?_ ?_<;>intro _)|fail)
 all_goals try exact Zb rfl
 refine Ri (bs.av (sx:=nos) hk ?_)
 repeat'(first|refine wk3 ?_|(refine wk2 ?_ ?_<;>intro _)|fail)
 all_goals try exact Zb rfl
 refine Ri (bs.av (sx:=nos) hk ?_)
 repeat'(first|refine wk3 ?_|(refine wk2 ?_ ?_<;>intro _)|fail)
 all_goals try exact Zb rfl
 all_goals (exfalso; clear hk; simp_all; done)
abbrev pthA (ss ps:List (List AV)) (S:Int):AV:=.agg [.isl 1 ss,.isl 4 ps,I S]
abbrev halB (nm:ByteArray) (s2:Int) (fl ce:ByteArray) (hms hcs hws hks hss:List (List AV)):AV:=.agg [.str nm,I s2,.str fl,.str ce,.isl 6 hms,.isl 2 hcs,.isl 3 hws,.isl 7 hks,.isl 4 hss]
abbrev askB (f0 f1 f2 t0 t1 t2:Int):AV:=.agg [I f0,I f1,I f2,I t0,I t1,I t2,I 2]
theorem Znl {s0 s1 s2 f0 f1 f2 t0 t1 t2 u v U V K L A B C E S S2:Int} {O:AV} {ss ps ss2 ps2:List (List AV)} {r7 r8 r9 r10:List AV->Option PRes} {nm fl ce:ByteArray} {hms hcs hws hks hss:List (List AV)}
  (hk:PCOK Tryz.prog (ins 4 (one [] ⟨Bo true,[]⟩) (ins 5 r78 (ins 6 r6F (ins 7 r7 (ins 8 r8 (ins 9 r9 (ins 10 r10 (ins 11 cmps (ins 12 rS1 pt0))))))))))
  (w1:within s0 2 2000=true) (w2:within f0 1 (Qa Qb (s0-1))=true) (w3:within t0 1 (Qa Qb (s0-1))=true)
  (w4:within s1 2 2000=true) (w5:within f1 1 (Qa Qb (s1-1))=true) (w6:within t1 1 (Qa Qb (s1-1))=true)
  (w7:within s2 2 2000=true) (w8:within f2 1 (Qa Qb (s2-1))=true) (w9:within t2 1 (Qa Qb (s2-1))=true)
  (hraw:(decide (f0=t0)&&(decide (f1=t1)&&(decide (f2=t2)&&true)))=false) (huv:U≠V)
  (c6u:r6F [I u,I 6]=some ⟨I U,[]⟩) (c6v:r6F [I v,I 6]=some ⟨I V,[]⟩)
  (c9:r9 [ibA s0 s1 s2 f0 f1 f2 t0 t1 t2]=some ⟨halB nm s2 fl ce hms hcs hws hks hss,[]⟩)
  (c7u:r7 [ibA s0 s1 s2 f0 f1 f2 t0 t1 t2,I U]=some ⟨.tup [I K,I A],[]⟩) (c7v:r7 [ibA s0 s1 s2 f0 f1 f2 t0 t1 t2,I V]=some ⟨.tup [I L,I B],[]⟩)
  (c8a:r8 [halB nm s2 fl ce hms hcs hws hks hss,nilG,askB f0 f1 f2 t0 t1 t2,.isl 1 [[I U]]]=some ⟨.tup [pthA ss ps S,I 0],[]⟩)
  (c8b:r8 [halB nm s2 fl ce hms hcs hws hks hss,nilG,askB f0 f1 f2 t0 t1 t2,.isl 1 [[I U],[I V]]]=some ⟨.tup [O,I E],[]⟩)
  (hK:K=0\/K=1\/K=2) (hL:L=0\/L=1\/L=2)
  (c11:cmps [I (size (Qa Qb (A-sel K f0 f1 f2))),I (size (Qa Qb (m1 A (sel K t0 t1 t2)-sel K f0 f1 f2))),I (size (Qa Qb (B-sel L f0 f1 f2))),I (size (Qa Qb (m1 B (sel L t0 t1 t2)-sel L f0 f1 f2)))]=some ⟨I C,[]⟩)
  (hS:r10 [A3 (f0,f1,f2),A3 (upd K (m1 A (sel K t0 t1 t2)) (t0,t1,t2))]=some ⟨I S,[]⟩)
  (hfin:(K=L/\O=pthA ss2 ps2 S2/\E=0/\r10 [A3 (f0,f1,f2),A3 (upd K (m2 A B (sel K t0 t1 t2)) (t0,t1,t2))]=some ⟨I S2,[]⟩) \/
   (K≠L/\0<=C/\O = .agg [.nils,.nils,I 0]/\E=12) \/
   (K≠L/\C<0/\O=pthA ss2 ps2 S2/\E=0/\r10 [A3 (f0,f1,f2),A3 (upd L (m1 B (sel L t0 t1 t2)) (upd K (m1 A (sel K t0 t1 t2)) (t0,t1,t2)))]=some ⟨I S2,[]⟩)) :
  PCall Tryz.prog 3 [ibA s0 s1 s2 f0 f1 f2 t0 t1 t2,I u,I v] ⟨Bo true,[]⟩:=by
 refine bs.pvc 4 (sx:=nos) hk Tryz.func3 (by kernel_rfl) (by kernel_rfl) rfl ?_
 repeat'(first|refine wk3 ?_|(refine wk2 ?_ ?_<;>intro _)|fail)
 refine Tq 4 ?_
 refine Ri (bs.av (sx:=nos) hk ?_)
 repeat'(first|refine wk3 ?_|(refine wk2 ?_ ?_<;>intro _)|fail)
 all_goals try (exfalso; clear hk hfin; simp_all; done)
 refine Ri (bs.av (sx:=nos) hk ?_)
 repeat'(first|refine wk3 ?_|(refine wk2 ?_ ?_<;>intro _)|fail)
 all_goals try (exfalso; clear hk hfin; simp_all; done)
 refine Ri (bs.av (sx:=nos) hk ?_)
 repeat'(first|refine wk3 ?_|(refine wk2 ?_ ?_<;>intro _)|fail)
 all_goals try (exfalso; clear hk hfin; simp_all; done)
 refine Ri (bs.av (sx:=nos) hk ?_)
 repeat'(first|refine wk3 ?_|(refine wk2 ?_ ?_<;>intro _)|fail)
 clear w1 w2 w3 w4 w5 w6 w7 w8 w9
 refine Ov (env2:=[(1,I U),(2,I V),(3,.ptr 0 0 0)]) (σ2:=⟨[(0,.row 9 [[I s0,I s1,I s2,I f0,I f1,I f2,I t0,I t1,I t2]] true false)],97⟩) (Sv [] rfl (kps) (kps)) ?_
 refine bs.cut 5 (sx:=nos) hk ?_
 repeat'(first|refine wk3 ?_|(refine wk2 ?_ ?_<;>intro _)|fail)
 all_goals try (exfalso; clear hk hfin; simp_all; done)
 refine Ov (env2:=[(1,I U),(2,I V),(3,.ptr 0 0 0),(8,.ptr 97 0 0),(9,I K),(10,I A),(11,I L),(12,I B),(13,.ptr 98 0 0)]) (σ2:=⟨[(98,.row 3 [[I t0,I t1,I t2]] true false),(97,.row 7 [[I f0,I f1,I f2,I t0,I t1,I t2,I 2]] true false),(0,.row 9 [[I s0,I s1,I s2,I f0,I f1,I f2,I t0,I t1,I t2]] true false)],99⟩) (Sv [] rfl (kps) (kps)) ?_
 clear hraw c6u c6v c7u c7v
 rcases hK with rfl|rfl|rfl
 ·simp only [sel,upd,m1,m2,Tp,if_true,if_false,reduceIte] at hS hfin c11
  refine bs.cut 1 (sx:=nos) hk ?_
  repeat'(first|refine wk3 ?_|(refine wk2 ?_ ?_<;>intro _)|fail)
  refine Wg (bs.cut 1 (sx:=nos) hk ?_)
  repeat'(first|refine wk3 ?_|(refine wk2 ?_ ?_<;>intro _)|fail)
  refine Wg (bs.cut 1 (sx:=nos) hk ?_)
  repeat'(first|refine wk3 ?_|(refine wk2 ?_ ?_<;>intro _)|fail)
  all_goals try (exfalso; clear hk hfin; simp_all; done)
  refine Ov (env2:=[(1,I U),(2,I V),(3,.ptr 0 0 0),(8,.ptr 97 0 0),(9,I 0),(10,I A),(11,I L),(12,I B),(13,.ptr 98 0 0)]) (σ2:=⟨[(98,.row 3 [[I (Qa Qb (Qa Qb (2*A)-t0)),I t1,I t2]] true false),(97,.row 7 [[I f0,I f1,I f2,I t0,I t1,I t2,I 2]] true false),(0,.row 9 [[I s0,I s1,I s2,I f0,I f1,I f2,I t0,I t1,I t2]] true false)],123⟩) (Sv [] rfl (kps) (kps)) ?_
  clear hS c8a
  rcases hfin with ⟨rfl,rfl,rfl,hS2⟩|⟨hne,hC,rfl,rfl⟩|⟨hne,hC,rfl,rfl,hS2⟩
  ·clear hL c11
   refine bs.av (sx:=nos) hk ?_
   repeat'(first|refine wk3 ?_|(refine wk2 ?_ ?_<;>intro _)|fail)
   all_goals first
    | exact Zb rfl
    | (refine Zb ?_; simp; done)
    | (exfalso; clear hk; simp_all; done)
  ·rcases hL with rfl|rfl|rfl
   ·exact absurd rfl hne
   ·simp only [sel,upd,m1,m2,Tp,if_true,if_false,reduceIte] at c11
    refine bs.cut 1 (sx:=nos) hk ?_
    repeat'(first|refine wk3 ?_|(refine wk2 ?_ ?_<;>intro _)|fail)
    refine Wg (bs.cut 1 (sx:=nos) hk ?_)
    repeat'(first|refine wk3 ?_|(refine wk2 ?_ ?_<;>intro _)|fail)
    refine Wg (bs.cut 1 (sx:=nos) hk ?_)
    repeat'(first|refine wk3 ?_|(refine wk2 ?_ ?_<;>intro _)|fail)
    refine Ov (env2:=[(1,I U),(2,I V),(3,.ptr 0 0 0),(8,.ptr 97 0 0),(13,.ptr 98 0 0),(18,I C)]) (σ2:=⟨[(98,.row 3 [[I (Qa Qb (Qa Qb (2*A)-t0)),I (Qa Qb (Qa Qb (2*B)-t1)),I t2]] true false),(97,.row 7 [[I f0,I f1,I f2,I t0,I t1,I t2,I 2]] true false),(0,.row 9 [[I s0,I s1,I s2,I f0,I f1,I f2,I t0,I t1,I t2]] true false)],157⟩) (Sv [] rfl (kps) (kps)) ?_
    clear c11
    refine bs.av (sx:=nos) hk ?_
    repeat'(first|refine wk3 ?_|(refine wk2 ?_ ?_<;>intro _)|fail)
    all_goals first
     | exact Zb rfl
     | (refine Zb ?_; simp; done)
     | (exfalso; clear hk; simp_all; done)
     | (exfalso; clear hk; omega)
   ·simp only [sel,upd,m1,m2,Tp,if_true,if_false,reduceIte] at c11
    refine bs.cut 1 (sx:=nos) hk ?_
    repeat'(first|refine wk3 ?_|(refine wk2 ?_ ?_<;>intro _)|fail)
    refine Wg (bs.cut 1 (sx:=nos) hk ?_)
    repeat'(first|refine wk3 ?_|(refine wk2 ?_ ?_<;>intro _)|fail)
    refine Wg (bs.cut 1 (sx:=nos) hk ?_)
    repeat'(first|refine wk3 ?_|(refine wk2 ?_ ?_<;>intro _)|fail)
    refine Ov (env2:=[(1,I U),(2,I V),(3,.ptr 0 0 0),(8,.ptr 97 0 0),(13,.ptr 98 0 0),(18,I C)]) (σ2:=⟨[(98,.row 3 [[I (Qa Qb (Qa Qb (2*A)-t0)),I t1,I (Qa Qb (Qa Qb (2*B)-t2))]] true false),(97,.row 7 [[I f0,I f1,I f2,I t0,I t1,I t2,I 2]] true false),(0,.row 9 [[I s0,I s1,I s2,I f0,I f1,I f2,I t0,I t1,I t2]] true false)],157⟩) (Sv [] rfl (kps) (kps)) ?_
    clear c11
    refine bs.av (sx:=nos) hk ?_
    repeat'(first|refine wk3 ?_|(refine wk2 ?_ ?_<;>intro _)|fail)
    all_goals first
     | exact Zb rfl
     | (refine Zb ?_; simp; done)
     | (exfalso; clear hk; simp_all; done)
     | (exfalso; clear hk; omega)
  ·rcases hL with rfl|rfl|rfl
   ·exact absurd rfl hne
   ·simp only [sel,upd,m1,m2,Tp,if_true,if_false,reduceIte] at c11 hS2
    refine bs.cut 1 (sx:=nos) hk ?_
    repeat'(first|refine wk3 ?_|(refine wk2 ?_ ?_<;>intro _)|fail)
    refine Wg (bs.cut 1 (sx:=nos) hk ?_)
    repeat'(first|refine wk3 ?_|(refine wk2 ?_ ?_<;>intro _)|fail)
    refine Wg (bs.cut 1 (sx:=nos) hk ?_)
    repeat'(first|refine wk3 ?_|(refine wk2 ?_ ?_<;>intro _)|fail)
    refine Ov (env2:=[(1,I U),(2,I V),(3,.ptr 0 0 0),(8,.ptr 97 0 0),(13,.ptr 98 0 0),(18,I C)]) (σ2:=⟨[(98,.row 3 [[I (Qa Qb (Qa Qb (2*A)-t0)),I (Qa Qb (Qa Qb (2*B)-t1)),I t2]] true false),(97,.row 7 [[I f0,I f1,I f2,I t0,I t1,I t2,I 2]] true false),(0,.row 9 [[I s0,I s1,I s2,I f0,I f1,I f2,I t0,I t1,I t2]] true false)],157⟩) (Sv [] rfl (kps) (kps)) ?_
    clear c11
    refine bs.av (sx:=nos) hk ?_
    repeat'(first|refine wk3 ?_|(refine wk2 ?_ ?_<;>intro _)|fail)
    all_goals first
     | exact Zb rfl
     | (refine Zb ?_; simp; done)
     | (exfalso; clear hk; simp_all; done)
     | (exfalso; clear hk; omega)
   ·simp only [sel,upd,m1,m2,Tp,if_true,if_false,reduceIte] at c11 hS2
    refine bs.cut 1 (sx:=nos) hk ?_
    repeat'(first|refine wk3 ?_|(refine wk2 ?_ ?_<;>intro _)|fail)
    refine Wg (bs.cut 1 (sx:=nos) hk ?_)
    repeat'(first|refine wk3 ?_|(refine wk2 ?_ ?_<;>intro _)|fail)
    refine Wg (bs.cut 1 (sx:=nos) hk ?_)
    repeat'(first|refine wk3 ?_|(refine wk2 ?_ ?_<;>intro _)|fail)
    refine Ov (env2:=[(1,I U),(2,I V),(3,.ptr 0 0 0),(8,.ptr 97 0 0),(13,.ptr 98 0 0),(18,I C)]) (σ2:=⟨[(98,.row 3 [[I (Qa Qb (Qa Qb (2*A)-t0)),I t1,I (Qa Qb (Qa Qb (2*B)-t2))]] true false),(97,.row 7 [[I f0,I f1,I f2,I t0,I t1,I t2,I 2]] true false),(0,.row 9 [[I s0,I s1,I s2,I f0,I f1,I f2,I t0,I t1,I t2]] true false)],157⟩) (Sv [] rfl (kps) (kps)) ?_
    clear c11
    refine bs.av (sx:=nos) hk ?_
    repeat'(first|refine wk3 ?_|(refine wk2 ?_ ?_<;>intro _)|fail)
    all_goals first
     | exact Zb rfl
     | (refine Zb ?_; simp; done)
     | (exfalso; clear hk; simp_all; done)
     | (exfalso; clear hk; omega)
 ·simp only [sel,upd,m1,m2,Tp,if_true,if_false,reduceIte] at hS hfin c11
  refine bs.cut 1 (sx:=nos) hk ?_
  repeat'(first|refine wk3 ?_|(refine wk2 ?_ ?_<;>intro _)|fail)
  refine Wg (bs.cut 1 (sx:=nos) hk ?_)
  repeat'(first|refine wk3 ?_|(refine wk2 ?_ ?_<;>intro _)|fail)
  refine Wg (bs.cut 1 (sx:=nos) hk ?_)
  repeat'(first|refine wk3 ?_|(refine wk2 ?_ ?_<;>intro _)|fail)
  all_goals try (exfalso; clear hk hfin; simp_all; done)
  refine Ov (env2:=[(1,I U),(2,I V),(3,.ptr 0 0 0),(8,.ptr 97 0 0),(9,I 1),(10,I A),(11,I L),(12,I B),(13,.ptr 98 0 0)]) (σ2:=⟨[(98,.row 3 [[I t0,I (Qa Qb (Qa Qb (2*A)-t1)),I t2]] true false),(97,.row 7 [[I f0,I f1,I f2,I t0,I t1,I t2,I 2]] true false),(0,.row 9 [[I s0,I s1,I s2,I f0,I f1,I f2,I t0,I t1,I t2]] true false)],123⟩) (Sv [] rfl (kps) (kps)) ?_
  clear hS c8a
  rcases hfin with ⟨rfl,rfl,rfl,hS2⟩|⟨hne,hC,rfl,rfl⟩|⟨hne,hC,rfl,rfl,hS2⟩
  ·clear hL c11
   refine bs.av (sx:=nos) hk ?_
   repeat'(first|refine wk3 ?_|(refine wk2 ?_ ?_<;>intro _)|fail)
   all_goals first
    | exact Zb rfl
    | (refine Zb ?_; simp; done)
    | (exfalso; clear hk; simp_all; done)
  ·rcases hL with rfl|rfl|rfl
   ·simp only [sel,upd,m1,m2,Tp,if_true,if_false,reduceIte] at c11
    refine bs.cut 1 (sx:=nos) hk ?_
    repeat'(first|refine wk3 ?_|(refine wk2 ?_ ?_<;>intro _)|fail)
    refine Wg (bs.cut 1 (sx:=nos) hk ?_)
    repeat'(first|refine wk3 ?_|(refine wk2 ?_ ?_<;>intro _)|fail)
    refine Wg (bs.cut 1 (sx:=nos) hk ?_)
    repeat'(first|refine wk3 ?_|(refine wk2 ?_ ?_<;>intro _)|fail)
    refine Ov (env2:=[(1,I U),(2,I V),(3,.ptr 0 0 0),(8,.ptr 97 0 0),(13,.ptr 98 0 0),(18,I C)]) (σ2:=⟨[(98,.row 3 [[I (Qa Qb (Qa Qb (2*B)-t0)),I (Qa Qb (Qa Qb (2*A)-t1)),I t2]] true false),(97,.row 7 [[I f0,I f1,I f2,I t0,I t1,I t2,I 2]] true false),(0,.row 9 [[I s0,I s1,I s2,I f0,I f1,I f2,I t0,I t1,I t2]] true false)],157⟩) (Sv [] rfl (kps) (kps)) ?_
    clear c11
    refine bs.av (sx:=nos) hk ?_
    repeat'(first|refine wk3 ?_|(refine wk2 ?_ ?_<;>intro _)|fail)
    all_goals first
     | exact Zb rfl
     | (refine Zb ?_; simp; done)
     | (exfalso; clear hk; simp_all; done)
     | (exfalso; clear hk; omega)
   ·exact absurd rfl hne
   ·simp only [sel,upd,m1,m2,Tp,if_true,if_false,reduceIte] at c11
    refine bs.cut 1 (sx:=nos) hk ?_
    repeat'(first|refine wk3 ?_|(refine wk2 ?_ ?_<;>intro _)|fail)
    refine Wg (bs.cut 1 (sx:=nos) hk ?_)
    repeat'(first|refine wk3 ?_|(refine wk2 ?_ ?_<;>intro _)|fail)
    refine Wg (bs.cut 1 (sx:=nos) hk ?_)
    repeat'(first|refine wk3 ?_|(refine wk2 ?_ ?_<;>intro _)|fail)
    refine Ov (env2:=[(1,I U),(2,I V),(3,.ptr 0 0 0),(8,.ptr 97 0 0),(13,.ptr 98 0 0),(18,I C)]) (σ2:=⟨[(98,.row 3 [[I t0,I (Qa Qb (Qa Qb (2*A)-t1)),I (Qa Qb (Qa Qb (2*B)-t2))]] true false),(97,.row 7 [[I f0,I f1,I f2,I t0,I t1,I t2,I 2]] true false),(0,.row 9 [[I s0,I s1,I s2,I f0,I f1,I f2,I t0,I t1,I t2]] true false)],157⟩) (Sv [] rfl (kps) (kps)) ?_
    clear c11
    refine bs.av (sx:=nos) hk ?_
    repeat'(first|refine wk3 ?_|(refine wk2 ?_ ?_<;>intro _)|fail)
    all_goals first
     | exact Zb rfl
     | (refine Zb ?_; simp; done)
     | (exfalso; clear hk; simp_all; done)
     | (exfalso; clear hk; omega)
  ·rcases hL with rfl|rfl|rfl
   ·simp only [sel,upd,m1,m2,Tp,if_true,if_false,reduceIte] at c11 hS2
    refine bs.cut 1 (sx:=nos) hk ?_
    repeat'(first|refine wk3 ?_|(refine wk2 ?_ ?_<;>intro _)|fail)
    refine Wg (bs.cut 1 (sx:=nos) hk ?_)
    repeat'(first|refine wk3 ?_|(refine wk2 ?_ ?_<;>intro _)|fail)
    refine Wg (bs.cut 1 (sx:=nos) hk ?_)
    repeat'(first|refine wk3 ?_|(refine wk2 ?_ ?_<;>intro _)|fail)
    refine Ov (env2:=[(1,I U),(2,I V),(3,.ptr 0 0 0),(8,.ptr 97 0 0),(13,.ptr 98 0 0),(18,I C)]) (σ2:=⟨[(98,.row 3 [[I (Qa Qb (Qa Qb (2*B)-t0)),I (Qa Qb (Qa Qb (2*A)-t1)),I t2]] true false),(97,.row 7 [[I f0,I f1,I f2,I t0,I t1,I t2,I 2]] true false),(0,.row 9 [[I s0,I s1,I s2,I f0,I f1,I f2,I t0,I t1,I t2]] true false)],157⟩) (Sv [] rfl (kps) (kps)) ?_
    clear c11
    refine bs.av (sx:=nos) hk ?_
    repeat'(first|refine wk3 ?_|(refine wk2 ?_ ?_<;>intro _)|fail)
    all_goals first
     | exact Zb rfl
     | (refine Zb ?_; simp; done)
     | (exfalso; clear hk; simp_all; done)
     | (exfalso; clear hk; omega)
   ·exact absurd rfl hne
   ·simp only [sel,upd,m1,m2,Tp,if_true,if_false,reduceIte] at c11 hS2
    refine bs.cut 1 (sx:=nos) hk ?_
    repeat'(first|refine wk3 ?_|(refine wk2 ?_ ?_<;>intro _)|fail)
    refine Wg (bs.cut 1 (sx:=nos) hk ?_)
    repeat'(first|refine wk3 ?_|(refine wk2 ?_ ?_<;>intro _)|fail)
    refine Wg (bs.cut 1 (sx:=nos) hk ?_)
    repeat'(first|refine wk3 ?_|(refine wk2 ?_ ?_<;>intro _)|fail)
    refine Ov (env2:=[(1,I U),(2,I V),(3,.ptr 0 0 0),(8,.ptr 97 0 0),(13,.ptr 98 0 0),(18,I C)]) (σ2:=⟨[(98,.row 3 [[I t0,I (Qa Qb (Qa Qb (2*A)-t1)),I (Qa Qb (Qa Qb (2*B)-t2))]] true false),(97,.row 7 [[I f0,I f1,I f2,I t0,I t1,I t2,I 2]] true false),(0,.row 9 [[I s0,I s1,I s2,I f0,I f1,I f2,I t0,I t1,I t2]] true false)],157⟩) (Sv [] rfl (kps) (kps)) ?_
    clear c11
    refine bs.av (sx:=nos) hk ?_
    repeat'(first|refine wk3 ?_|(refine wk2 ?_ ?_<;>intro _)|fail)
    all_goals first
     | exact Zb rfl
     | (refine Zb ?_; simp; done)
     | (exfalso; clear hk; simp_all; done)
     | (exfalso; clear hk; omega)
 ·simp only [sel,upd,m1,m2,Tp,if_true,if_false,reduceIte] at hS hfin c11
  refine bs.cut 1 (sx:=nos) hk ?_
  repeat'(first|refine wk3 ?_|(refine wk2 ?_ ?_<;>intro _)|fail)
  refine Wg (bs.cut 1 (sx:=nos) hk ?_)
  repeat'(first|refine wk3 ?_|(refine wk2 ?_ ?_<;>intro _)|fail)
  refine Wg (bs.cut 1 (sx:=nos) hk ?_)
  repeat'(first|refine wk3 ?_|(refine wk2 ?_ ?_<;>intro _)|fail)
  all_goals try (exfalso; clear hk hfin; simp_all; done)
  refine Ov (env2:=[(1,I U),(2,I V),(3,.ptr 0 0 0),(8,.ptr 97 0 0),(9,I 2),(10,I A),(11,I L),(12,I B),(13,.ptr 98 0 0)]) (σ2:=⟨[(98,.row 3 [[I t0,I t1,I (Qa Qb (Qa Qb (2*A)-t2))]] true false),(97,.row 7 [[I f0,I f1,I f2,I t0,I t1,I t2,I 2]] true false),(0,.row 9 [[I s0,I s1,I s2,I f0,I f1,I f2,I t0,I t1,I t2]] true false)],123⟩) (Sv [] rfl (kps) (kps)) ?_
  clear hS c8a
  rcases hfin with ⟨rfl,rfl,rfl,hS2⟩|⟨hne,hC,rfl,rfl⟩|⟨hne,hC,rfl,rfl,hS2⟩
  ·clear hL c11
   refine bs.av (sx:=nos) hk ?_
   repeat'(first|refine wk3 ?_|(refine wk2 ?_ ?_<;>intro _)|fail)
   all_goals first
    | exact Zb rfl
    | (refine Zb ?_; simp; done)
    | (exfalso; clear hk; simp_all; done)
  ·rcases hL with rfl|rfl|rfl
   ·simp only [sel,upd,m1,m2,Tp,if_true,if_false,reduceIte] at c11
    refine bs.cut 1 (sx:=nos) hk ?_
    repeat'(first|refine wk3 ?_|(refine wk2 ?_ ?_<;>intro _)|fail)
    refine Wg (bs.cut 1 (sx:=nos) hk ?_)
    repeat'(first|refine wk3 ?_|(refine wk2 ?_ ?_<;>intro _)|fail)
    refine Wg (bs.cut 1 (sx:=nos) hk ?_)
    repeat'(first|refine wk3 ?_|(refine wk2 ?_ ?_<;>intro _)|fail)
    refine Ov (env2:=[(1,I U),(2,I V),(3,.ptr 0 0 0),(8,.ptr 97 0 0),(13,.ptr 98 0 0),(18,I C)]) (σ2:=⟨[(98,.row 3 [[I (Qa Qb (Qa Qb (2*B)-t0)),I t1,I (Qa Qb (Qa Qb (2*A)-t2))]] true false),(97,.row 7 [[I f0,I f1,I f2,I t0,I t1,I t2,I 2]] true false),(0,.row 9 [[I s0,I s1,I s2,I f0,I f1,I f2,I t0,I t1,I t2]] true false)],157⟩) (Sv [] rfl (kps) (kps)) ?_
    clear c11
    refine bs.av (sx:=nos) hk ?_
    repeat'(first|refine wk3 ?_|(refine wk2 ?_ ?_<;>intro _)|fail)
    all_goals first
     | exact Zb rfl
     | (refine Zb ?_; simp; done)
     | (exfalso; clear hk; simp_all; done)
     | (exfalso; clear hk; omega)
   ·simp only [sel,upd,m1,m2,Tp,if_true,if_false,reduceIte] at c11
    refine bs.cut 1 (sx:=nos) hk ?_
    repeat'(first|refine wk3 ?_|(refine wk2 ?_ ?_<;>intro _)|fail)
    refine Wg (bs.cut 1 (sx:=nos) hk ?_)
    repeat'(first|refine wk3 ?_|(refine wk2 ?_ ?_<;>intro _)|fail)
    refine Wg (bs.cut 1 (sx:=nos) hk ?_)
    repeat'(first|refine wk3 ?_|(refine wk2 ?_ ?_<;>intro _)|fail)
    refine Ov (env2:=[(1,I U),(2,I V),(3,.ptr 0 0 0),(8,.ptr 97 0 0),(13,.ptr 98 0 0),(18,I C)]) (σ2:=⟨[(98,.row 3 [[I t0,I (Qa Qb (Qa Qb (2*B)-t1)),I (Qa Qb (Qa Qb (2*A)-t2))]] true false),(97,.row 7 [[I f0,I f1,I f2,I t0,I t1,I t2,I 2]] true false),(0,.row 9 [[I s0,I s1,I s2,I f0,I f1,I f2,I t0,I t1,I t2]] true false)],157⟩) (Sv [] rfl (kps) (kps)) ?_
    clear c11
    refine bs.av (sx:=nos) hk ?_
    repeat'(first|refine wk3 ?_|(refine wk2 ?_ ?_<;>intro _)|fail)
    all_goals first
     | exact Zb rfl
     | (refine Zb ?_; simp; done)
     | (exfalso; clear hk; simp_all; done)
     | (exfalso; clear hk; omega)
   ·exact absurd rfl hne
  ·rcases hL with rfl|rfl|rfl
   ·simp only [sel,upd,m1,m2,Tp,if_true,if_false,reduceIte] at c11 hS2
    refine bs.cut 1 (sx:=nos) hk ?_
    repeat'(first|refine wk3 ?_|(refine wk2 ?_ ?_<;>intro _)|fail)
    refine Wg (bs.cut 1 (sx:=nos) hk ?_)
    repeat'(first|refine wk3 ?_|(refine wk2 ?_ ?_<;>intro _)|fail)
    refine Wg (bs.cut 1 (sx:=nos) hk ?_)
    repeat'(first|refine wk3 ?_|(refine wk2 ?_ ?_<;>intro _)|fail)
    refine Ov (env2:=[(1,I U),(2,I V),(3,.ptr 0 0 0),(8,.ptr 97 0 0),(13,.ptr 98 0 0),(18,I C)]) (σ2:=⟨[(98,.row 3 [[I (Qa Qb (Qa Qb (2*B)-t0)),I t1,I (Qa Qb (Qa Qb (2*A)-t2))]] true false),(97,.row 7 [[I f0,I f1,I f2,I t0,I t1,I t2,I 2]] true false),(0,.row 9 [[I s0,I s1,I s2,I f0,I f1,I f2,I t0,I t1,I t2]] true false)],157⟩) (Sv [] rfl (kps) (kps)) ?_
    clear c11
    refine bs.av (sx:=nos) hk ?_
    repeat'(first|refine wk3 ?_|(refine wk2 ?_ ?_<;>intro _)|fail)
    all_goals first
     | exact Zb rfl
     | (refine Zb ?_; simp; done)
     | (exfalso; clear hk; simp_all; done)
     | (exfalso; clear hk; omega)
   ·simp only [sel,upd,m1,m2,Tp,if_true,if_false,reduceIte] at c11 hS2
    refine bs.cut 1 (sx:=nos) hk ?_
    repeat'(first|refine wk3 ?_|(refine wk2 ?_ ?_<;>intro _)|fail)
    refine Wg (bs.cut 1 (sx:=nos) hk ?_)
    repeat'(first|refine wk3 ?_|(refine wk2 ?_ ?_<;>intro _)|fail)
    refine Wg (bs.cut 1 (sx:=nos) hk ?_)
    repeat'(first|refine wk3 ?_|(refine wk2 ?_ ?_<;>intro _)|fail)
    refine Ov (env2:=[(1,I U),(2,I V),(3,.ptr 0 0 0),(8,.ptr 97 0 0),(13,.ptr 98 0 0),(18,I C)]) (σ2:=⟨[(98,.row 3 [[I t0,I (Qa Qb (Qa Qb (2*B)-t1)),I (Qa Qb (Qa Qb (2*A)-t2))]] true false),(97,.row 7 [[I f0,I f1,I f2,I t0,I t1,I t2,I 2]] true false),(0,.row 9 [[I s0,I s1,I s2,I f0,I f1,I f2,I t0,I t1,I t2]] true false)],157⟩) (Sv [] rfl (kps) (kps)) ?_
    clear c11
    refine bs.av (sx:=nos) hk ?_
    repeat'(first|refine wk3 ?_|(refine wk2 ?_ ?_<;>intro _)|fail)
    all_goals first
     | exact Zb rfl
     | (refine Zb ?_; simp; done)
     | (exfalso; clear hk; simp_all; done)
     | (exfalso; clear hk; omega)
   ·exact absurd rfl hne
theorem Ycc {s0 s1 s2 f0 f1 f2 t0 t1 t2:Int} (h:okB s0 s1 s2 f0 f1 f2 t0 t1 t2=true):BoxS s0 s1 s2/\T3 s0 s1 s2 (f0,f1,f2)/\T3 s0 s1 s2 (t0,t1,t2):=by
 unfold okB at h
 simp only [Qf] at h
 obtain ⟨⟨⟨⟨a1,a2⟩,a3⟩,⟨⟨b1,b2⟩,b3⟩⟩,⟨⟨c1,c2⟩,c3⟩⟩:=h
 have a1:=within_iff.1 a1
 have b1:=within_iff.1 b1
 have c1:=within_iff.1 c1
 rw [W_id (by omega)] at a2 a3 b2 b3 c2 c3
 exact ⟨⟨a1,b1,c1⟩,⟨within_iff.1 a2,within_iff.1 b2,within_iff.1 c2⟩,⟨within_iff.1 a3,within_iff.1 b3,within_iff.1 c3⟩⟩
theorem Zzm (a b:Int × Int × Int):rSq [A3 a,A3 b]=some ⟨I (sqW a b),[]⟩:=rfl
theorem Zku {a b:Int × Int × Int} {S:Int} (h:S=sqW a b):rSq [A3 a,A3 b]=some ⟨I S,[]⟩:=by rw [h]; exact Zzm a b
theorem Zi0 (n:Int):bxK n=0\/bxK n=1\/bxK n=2:=by have:=Yl n; omega
theorem Ydc {s0 s1 s2 f0 f1 f2 t0 t1 t2:Int} (u v:Int) (w:okB s0 s1 s2 f0 f1 f2 t0 t1 t2=true) (h:(decide (f0=t0)&&(decide (f1=t1)&&(decide (f2=t2)&&true)))=true\/u%6=v%6):PCall Tryz.prog 3 [ibA s0 s1 s2 f0 f1 f2 t0 t1 t2,I u,I v] ⟨Bo true,[]⟩:=by
 have hk:=Zi Zhc (Zj (f0:=5) (r:=r78) (fun a res h=>by unfold r78 at h; split at h<;>cases h; exact c30 _ _ _) (Xs (f0:=6) (p:=fun _:Int=>True) (g:=fun n=>[I n,I 6]) (r:=fun n=>⟨I (n%6),[]⟩) (fun n _=>e6 n) Zh))
 have c6u:=Zjg u
 have c6v:=Zjg v
 unfold okB at w
 simp only [Qf] at w
 obtain ⟨⟨⟨⟨w1,w2⟩,w3⟩,⟨⟨w4,w5⟩,w6⟩⟩,⟨⟨w7,w8⟩,w9⟩⟩:=w
 generalize u%6=U at *
 generalize v%6=V at *
 refine pn hk Tryz.func3 ?_
 repeat'(first|refine wk3 ?_|(refine wk2 ?_ ?_<;>intro _)|fail)
 refine Tq 4 ?_
 refine Ri (bs.av (sx:=nos) hk ?_)
 repeat'(first|refine wk3 ?_|(refine wk2 ?_ ?_<;>intro _)|fail)
 all_goals try (exfalso; clear hk h; simp_all; done)
 refine Ri (bs.av (sx:=nos) hk ?_)
 repeat'(first|refine wk3 ?_|(refine wk2 ?_ ?_<;>intro _)|fail)
 all_goals try (exfalso; clear hk h; simp_all; done)
 refine Ri (bs.av (sx:=nos) hk ?_)
 repeat'(first|refine wk3 ?_|(refine wk2 ?_ ?_<;>intro _)|fail)
 all_goals try (exfalso; clear hk h; simp_all; done)
 refine Ri (bs.av (sx:=nos) hk ?_)
 clear w1 w2 w3 w4 w5 w6 w7 w8 w9
 repeat'(first|refine wk3 ?_|(refine wk2 ?_ ?_<;>intro _)|fail)
 all_goals first
  | exact Zb rfl
  | (exfalso; clear hk; simp_all; done)
theorem Yd5 {s0 s1 s2 f0 f1 f2 t0 t1 t2:Int} (u v:Int) (w:okB s0 s1 s2 f0 f1 f2 t0 t1 t2=true) (hraw:(decide (f0=t0)&&(decide (f1=t1)&&(decide (f2=t2)&&true)))=false) (huv:u%6≠v%6):PCall Tryz.prog 3 [ibA s0 s1 s2 f0 f1 f2 t0 t1 t2,I u,I v] ⟨Bo true,[]⟩:=by
 obtain ⟨b,hf,ht⟩:=Ycc w
 unfold okB at w
 simp only [Qf] at w
 obtain ⟨⟨⟨⟨w1,w2⟩,w3⟩,⟨⟨w4,w5⟩,w6⟩⟩,⟨⟨w7,w8⟩,w9⟩⟩:=w
 have hk:=Ycu s0 s1 s2 f0 f1 f2 t0 t1 t2 ⟨f0,f1,f2,t0,t1,t2,2⟩
 unfold kBx at hk
 have hU:0<=u%6/\u%6<6:=by omega
 have hV:0<=v%6/\v%6<6:=by omega
 have c6u:=Zjg u
 have c6v:=Zjg v
 have c7u:=Zry (ibA s0 s1 s2 f0 f1 f2 t0 t1 t2) s0 s1 s2 hU
 have c7v:=Zry (ibA s0 s1 s2 f0 f1 f2 t0 t1 t2) s0 s1 s2 hV
 have hne:Ask.same ⟨f0,f1,f2,t0,t1,t2,2⟩=false:=by
  unfold Ask.same
  rw [Bool.and_true] at hraw
  exact hraw
 obtain ⟨p,hp,hs⟩:=Zzs (a:=⟨f0,f1,f2,t0,t1,t2,2⟩) b hf.inB ht.inB hne rfl hU
 have p2:=Zzr (a:=⟨f0,f1,f2,t0,t1,t2,2⟩) b hf.inB ht.inB hne rfl hU hV huv
 have c8a:=Zrx (boxH s0 s1 s2) ⟨f0,f1,f2,t0,t1,t2,2⟩ (ns:=[u%6]) (by simp)
 have c8b:=Zrx (boxH s0 s1 s2) ⟨f0,f1,f2,t0,t1,t2,2⟩ (ns:=[u%6,v%6]) (by simp)
 have c11:=Zwx (Zvl b hf ht (u%6) (v%6))
 have hso:=Zzg b hf ht (u%6) (v%6)
 unfold soon at hso
 rw [hp] at c8a
 have hs:=hs.trans (Zzy b hf ht (n:=u%6))
 by_cases hkk:bxK (u%6)=bxK (v%6)
 ·obtain ⟨q,hq,hs2⟩:=Zv6 b hf.inB ht.inB hU hV huv hkk
  have hq:Zaf (boxH s0 s1 s2) stg0 (qF ⟨f0,f1,f2,t0,t1,t2,2⟩) (qT ⟨f0,f1,f2,t0,t1,t2,2⟩) [u%6,v%6]=some q:=hq
  rw [hq] at p2
  rw [p2] at c8b
  have hs2:=hs2.trans (Zvv b hf ht hkk)
  exact Znl hk w1 w2 w3 w4 w5 w6 w7 w8 w9 hraw huv c6u c6v (Ze6 _ _) c7u c7v c8a c8b (Zi0 _) (Zi0 _) c11 (Zku hs) (.inl ⟨hkk,rfl,rfl,Zku hs2⟩)
 ·have fq:=Zby b (u%6) hf.inB
  have e:far s0 s1 s2 (u%6) (f0,f1,f2)*(far s0 s1 s2 (v%6) (f0,f1,f2)+far s0 s1 s2 (v%6) (t0,t1,t2))-far s0 s1 s2 (v%6) (f0,f1,f2)*(far s0 s1 s2 (u%6) (f0,f1,f2)+far s0 s1 s2 (u%6) (t0,t1,t2)) =
    far s0 s1 s2 (u%6) (f0,f1,f2)*far s0 s1 s2 (v%6) (t0,t1,t2)-far s0 s1 s2 (u%6) (t0,t1,t2)*far s0 s1 s2 (v%6) (f0,f1,f2):=by grind
  rw [e] at hso
  rcases Int.lt_or_le (far s0 s1 s2 (u%6) (f0,f1,f2)*far s0 s1 s2 (v%6) (t0,t1,t2)) (far s0 s1 s2 (u%6) (t0,t1,t2)*far s0 s1 s2 (v%6) (f0,f1,f2)) with c|c
  ·obtain ⟨q,hq,hs2⟩:=Zv5 b hf.inB ht.inB hU hV hkk c
   have hq:Zaf (boxH s0 s1 s2) stg0 (qF ⟨f0,f1,f2,t0,t1,t2,2⟩) (qT ⟨f0,f1,f2,t0,t1,t2,2⟩) [u%6,v%6]=some q:=hq
   rw [hq] at p2
   rw [p2] at c8b
   have hs2:=hs2.trans (Zvw b hf ht hkk)
   have hneg:=(sgn_neg_iff (v:=far s0 s1 s2 (u%6) (f0,f1,f2)*far s0 s1 s2 (v%6) (t0,t1,t2)-far s0 s1 s2 (u%6) (t0,t1,t2)*far s0 s1 s2 (v%6) (f0,f1,f2))).2 (by omega)
   rw [<-hso] at hneg
   exact Znl hk w1 w2 w3 w4 w5 w6 w7 w8 w9 hraw huv c6u c6v (Ze6 _ _) c7u c7v c8a c8b (Zi0 _) (Zi0 _) c11 (Zku hs) (.inr (.inr ⟨hkk,hneg,rfl,rfl,Zku hs2⟩))
  ·have hq:=Zv7 b hf.inB ht.inB hU hV hkk c
   have hq:Zaf (boxH s0 s1 s2) stg0 (qF ⟨f0,f1,f2,t0,t1,t2,2⟩) (qT ⟨f0,f1,f2,t0,t1,t2,2⟩) [u%6,v%6]=none:=hq
   rw [hq] at p2
   rw [p2] at c8b
   have hneg:¬ sgn (far s0 s1 s2 (u%6) (f0,f1,f2)*far s0 s1 s2 (v%6) (t0,t1,t2)-far s0 s1 s2 (u%6) (t0,t1,t2)*far s0 s1 s2 (v%6) (f0,f1,f2))<0:=fun z=>by
    have:=sgn_neg_iff.1 z
    omega
   rw [<-hso] at hneg
   exact Znl (ss2:=[]) (ps2:=[]) (S2:=0) hk w1 w2 w3 w4 w5 w6 w7 w8 w9 hraw huv c6u c6v (Ze6 _ _) c7u c7v c8a c8b (Zi0 _) (Zi0 _) c11 (Zku hs) (.inr (.inl ⟨hkk,by omega,rfl,rfl⟩))
theorem e3 (s0 s1 s2 f0 f1 f2 t0 t1 t2 u v:Int):PCall Tryz.prog 3 [ibA s0 s1 s2 f0 f1 f2 t0 t1 t2,I u,I v] ⟨Bo true,[]⟩:=by
 cases w:okB s0 s1 s2 f0 f1 f2 t0 t1 t2 with
 | false=>exact Ydb u v w
 | true =>
  cases hraw:(decide (f0=t0)&&(decide (f1=t1)&&(decide (f2=t2)&&true))) with
  | true=>exact Ydc u v w (.inl hraw)
  | false =>
   by_cases huv:u%6=v%6
   ·exact Ydc u v w (.inr huv)
   ·exact Yd5 u v w hraw huv
theorem Zza {d:Nat} {x y z:AV} (h:WT TT (d+2) 22 [x,y,z]):∃ a b c:Int,x=I a/\y=I b/\z=I c:=by
 obtain ⟨_,h2⟩:=Zu4 (T:=TT) (t:=22) (d:=d+1) rfl rfl rfl h
 obtain ⟨p,hp⟩:=wInt (h2 0 (by omega))
 obtain ⟨q,hq⟩:=wInt (h2 1 (by omega))
 obtain ⟨r,hr⟩:=wInt (h2 2 (by omega))
 have hp:[x]=[I p]:=hp
 have hq:[y]=[I q]:=hq
 have hr:[z]=[I r]:=hr
 cases hp; cases hq; cases hr
 exact ⟨p,q,r,rfl,rfl,rfl⟩
theorem Ydy {a:AV} (h:WTA TT 24 a):∃ s0 s1 s2 f0 f1 f2 t0 t1 t2:Int,a=ibA s0 s1 s2 f0 f1 f2 t0 t1 t2:=by
 obtain ⟨x,m,rfl,hw⟩:=Zy4 (T:=TT) (t:=24) h rfl rfl 4
 have h0:=(Zj7 (T:=TT) (t:=24) rfl rfl hw).1
 have h0:x.length=9:=h0
 match x,h0 with
 | [x0,x1,x2,x3,x4,x5,x6,x7,x8],_ =>
  obtain ⟨s0,s1,s2,e0,e1,e2⟩:=Zza (d:=m+2) (Zi6 (T:=TT) (t:=24) rfl rfl hw 0 rfl rfl)
  obtain ⟨f0,f1,f2,e3,e4,e5⟩:=Zza (d:=m+2) (Zi6 (T:=TT) (t:=24) rfl rfl hw 1 rfl rfl)
  obtain ⟨t0,t1,t2,e6,e7,e8⟩:=Zza (d:=m+2) (Zi6 (T:=TT) (t:=24) rfl rfl hw 2 rfl rfl)
  exact ⟨s0,s1,s2,f0,f1,f2,t0,t1,t2,by rw [e0,e1,e2,e3,e4,e5,e6,e7,e8]⟩
theorem Zyi {a:AV} (h:WTA TT 3 a):∃ n,a=I n:=by
 obtain ⟨n,h1,_⟩:=Zy3 (T:=TT) (t:=3) h rfl rfl
 exact ⟨n,h1⟩
def tysB:List TypeId:=[24,22,3]
theorem Ybt:tysB.all (Zgo (tget tbl) tysB)=true:=by kernel_rfl
end Go.Proofs.YtohjcchcladneaaGreat
