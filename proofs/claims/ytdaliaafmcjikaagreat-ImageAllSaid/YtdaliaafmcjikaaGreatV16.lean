/- A part of the proof: lemmas. -/
import Derived.Test.YtdaliaafmcjikaaGreatV15
import Derived.Test.YtdaliaafmcjikaaGreatV7
import Derived.Test.YtdaliaafmcjikaaGreatV9
import Derived.Test.YtdaliaafmcjikaaGreatV8
import Derived.Shelf.SlSortCmp.Insertion
import Derived.Shelf.SlSortCmp.NoneTotal
import Derived.Sort.Statements
set_option linter.unusedVariables false
set_option linter.unusedSimpArgs false
set_option maxRecDepth 100000
set_option maxHeartbeats 16000000
open Bool renaming and_eq_true->Qc,eq_iff_iff->Se
open Go.IntKind renaming i64->Qb,wrap->Qa
open Go.Sx.AV.isl renaming injEq->Od
open Go.Sx.CtT renaming mk->Qch
open Go.Sx.Done renaming mk->Ql
open Go.Sx.Fits renaming here->Jy
open Go.Sx.Yd renaming mk->Hf
open Int renaming le_of_lt->Qw,mul_le_mul->Qay,mul_nonneg->Rj,neg_mul_neg->Qah,sub_mul->My
open List renaming append_assoc->Qs,append_nil->Rz,drop_eq_getElem_cons->Qi,drop_of_length_le->Qj,flatMap_assoc->Fp,flatMap_cons->Td,flatMap_nil->Hl,getElem_mem->Qt,length_append->Qp,length_cons->Sb,length_eq_zero_iff->Qv,length_filterMap_le->Nb,length_map->Re,mem_cons->Rf,mem_filterMap->Nj,mem_flatMap->Ni,mem_iff_getElem->Ou,mem_singleton->Wg,nil_append->Wy,pairwise_cons->Pc,range->Sm
open List.Perm renaming refl->Nv
open List.cons renaming injEq->Qx
open Nat renaming le_refl->Qd,le_trans->Qu,mul_le_mul->Gp,zero_le->Qn
namespace Go.Proofs.YtdaliaafmcjikaaGreat
open Go Go.Sx
def cmpI (a b:Int):Int:=if a<b then -1 else if b<a then 1 else 0
def cmpL:List Int->List Int->Int
 | [],[]=>0
 | [],_::_=>-1
 | _::_,[]=>1
 | x::a,y::b=>if cmpI x y=0 then cmpL a b else cmpI x y
def ordP (a b:Pth):Int:=fstL [cmpI a.sq b.sq,cmpI a.ss.length b.ss.length,cmpL a.ss b.ss]
theorem Yij (n:Int):PCall Tryz.prog 208 [I n] ⟨Bo false,[]⟩:=by
 refine bs.pv (sx:=nos) Zc Tryz.func208 (by kernel_rfl) (by kernel_rfl) rfl ?_
 repeat'(first|refine wk3 ?_|(refine wk2 ?_ ?_<;>intro _)|refine wk4 ?_|fail);all_goals(conv=>whnf)
 all_goals exact Za (by simp)
def Ygk:List AV->Option PRes
 | [.int .i64 _]=>some ⟨Bo false,[]⟩
 | _=>none
theorem Yad {pt:PC} (h:PCOK Tryz.prog pt):PCOK Tryz.prog (ins 208 Ygk pt):=Zl (fun a res h=>by unfold Ygk at h; split at h<;>cases h; exact Yij _) h
theorem d147 (a b:Int):PCall Tryz.prog 147 [I a,I b] ⟨I (cmpI a b),[]⟩:=by
 have key:cmpI a b=cond (decide (a<b)) (-1) (cond (decide (b<a)) 1 0):=by
  unfold cmpI
  by_cases c1:a<b
  ·simp [c1]
  ·by_cases c2:b<a<;>simp [c1,c2]
 rw [key]
 refine bs.pv (sx:=nos) (Yad Zc) Tryz.func147 (by kernel_rfl) (by kernel_rfl) rfl ?_
 repeat'(first|refine wk3 ?_|(refine wk2 ?_ ?_<;>intro _)|refine wk4 ?_|fail);all_goals(conv=>whnf)
 all_goals (refine Zb ?_; clear key; generalize decide (a<b)=p at *; generalize decide (b<a)=q at *; simp_all)
def r147:List AV->Option PRes
 | [.int .i64 a,.int .i64 b]=>some ⟨I (cmpI a b),[]⟩
 | _=>none
theorem Zwk {pt:PC} (h:PCOK Tryz.prog pt):PCOK Tryz.prog (ins 147 r147 pt):=Zl (fun a res h=>by unfold r147 at h; split at h<;>cases h; exact d147 _ _) h
theorem d148 {a b:List Int} (ha:a.length<1000000) (hb:b.length<1000000):PCall Tryz.prog 148 [.isl 1 (nl a),.isl 1 (nl b)] ⟨I (cmpL a b),[]⟩:=by
 have la:=Zi a
 have lb:=Zi b
 have hk:=Zwk Zc
 refine bs.pv (sx:=nos) hk Tryz.func148 (by kernel_rfl) (by kernel_rfl) rfl ?_
 repeat'(first|refine wk3 ?_|(refine wk2 ?_ ?_<;>intro _)|refine wk4 ?_|fail);all_goals(conv=>whnf)
 refine Yb (S:=Nat × Int) (fun t=>a.length-t.1) (fun t=>[(0,.isl 1 (nl a)),(1,.isl 1 (nl b)),(9,.isl 1 (nl a)),(10,I (nl a).length),(11,I t.2)]) (fun _=>[]) 0 0
  (fun t=>t.2=t.1/\t.1<=a.length/\t.1<=b.length/\cmpL (a.drop t.1) (b.drop t.1)=cmpL a b) (0,0) ⟨rfl,Qn _,Qn _,rfl⟩ (Qd _) [] rfl (kps) (kps) ?_
 rintro ⟨k,i⟩ ⟨hi,h1,h2,hh⟩
 dsimp only at hi h1 h2 hh ⊢
 subst hi
 generalize cmpL a b=R at *
 refine bs.av (sx:=nos) hk ?_
 by_cases c1:k<a.length
 ·have e1:=Uh c1
  by_cases c2:k<b.length
  ·have e2:=Uh c2
   rw [Qi c1,Qi c2,cmpL] at hh
   generalize a[k]=x at *
   generalize b[k]=y at *
   generalize hz:cmpI x y=z at *
   have hz2:r147 [I x,I y]=some ⟨I z,[]⟩:=by rw [<-hz]; rfl
   by_cases c3:z=0
   ·rw [if_pos c3] at hh
    repeat'(first|refine wk3 ?_|(refine wk2 ?_ ?_<;>intro _)|refine wk4 ?_|fail);all_goals(conv=>whnf)
    all_goals first
     | (exfalso; clear hk; simp_all; done)
     | exact Ql ⟨(k+1,_),[],rfl,kps,kps,⟨Ze (by omega),c1,c2,hh⟩,by dsimp only; omega⟩
   ·rw [if_neg c3] at hh
    subst hh
    repeat'(first|refine wk3 ?_|(refine wk2 ?_ ?_<;>intro _)|refine wk4 ?_|fail);all_goals(conv=>whnf)
    all_goals first
     | exact Zb (by assumption)
     | exact Zb rfl
     | (exfalso; clear hk; simp_all; done)
  ·rw [Qi c1,show b.drop k=[] from Qj (by omega),cmpL] at hh
   subst hh
   repeat'(first|refine wk3 ?_|(refine wk2 ?_ ?_<;>intro _)|refine wk4 ?_|fail);all_goals(conv=>whnf)
   exact Zb rfl
 ·rw [show a.drop k=[] from Qj (by omega)] at hh
  by_cases c2:k<b.length
  ·rw [Qi c2,cmpL] at hh
   subst hh
   repeat'(first|refine wk3 ?_|(refine wk2 ?_ ?_<;>intro _)|refine wk4 ?_|fail);all_goals(conv=>whnf)
   exact Zb rfl
  ·rw [Qj (by omega),cmpL] at hh
   subst hh
   repeat'(first|refine wk3 ?_|(refine wk2 ?_ ?_<;>intro _)|refine wk4 ?_|fail);all_goals(conv=>whnf)
   exact Zb rfl
noncomputable abbrev r148:List AV->Option PRes:=famA (fun q:List Int × List Int=>q.1.length<1000000/\q.2.length<1000000) (fun q=>[.isl 1 (nl q.1),.isl 1 (nl q.2)]) (fun q=>⟨I (cmpL q.1 q.2),[]⟩)
theorem Yd7 {pt:PC} (hp:PCOK Tryz.prog pt):PCOK Tryz.prog (ins 148 r148 pt):=Ya (fun q hq=>d148 hq.1 hq.2) hp
theorem Yaf {a b:List Int} (h1:a.length<1000000) (h2:b.length<1000000):r148 [.isl 1 (nl a),.isl 1 (nl b)]=some ⟨I (cmpL a b),[]⟩ :=
 Zo (p:=fun q:List Int × List Int=>q.1.length<1000000/\q.2.length<1000000) (g:=fun q=>[.isl 1 (nl q.1),.isl 1 (nl q.2)]) (r:=fun q=>⟨I (cmpL q.1 q.2),[]⟩) (k:=(a,b)) (fun j hj=>by
  simp only [Qx,Od,true_and,and_true] at hj
  rw [Zgv hj.1,Zgv hj.2]) ⟨h1,h2⟩
theorem d146 {l:List Int} (hl:l.length<1000):PCall Tryz.prog 146 [.isl 1 (nl l)] ⟨I (fstL l),[]⟩:=by
 have ll:=Zi l
 refine bs.pv (sx:=nos) Zc Tryz.func146 (by kernel_rfl) (by kernel_rfl) rfl ?_
 repeat'(first|refine wk3 ?_|(refine wk2 ?_ ?_<;>intro _)|refine wk4 ?_|fail);all_goals(conv=>whnf)
 refine Yb (S:=Nat × Int) (fun t=>l.length-t.1) (fun t=>[(3,I 0),(6,.isl 1 (nl l)),(7,I (nl l).length),(8,I t.2)]) (fun _=>[]) 0 0
  (fun t=>t.2=t.1/\t.1<=l.length/\fstL (l.drop t.1)=fstL l) (0,0) ⟨rfl,Qn _,rfl⟩ (Qd _) [] rfl (kps) (kps) ?_
 rintro ⟨k,i⟩ ⟨hi,hk,hh⟩
 dsimp only at hi hk hh ⊢
 subst hi
 generalize fstL l=R at *
 refine bs.av (sx:=nos) Zc ?_
 by_cases hlt:k<l.length
 ·have e1:=Uh hlt
  rw [Qi hlt,fstL] at hh
  generalize l[k]=x at *
  by_cases c:x=0
  ·rw [if_neg (fun q=>q c)] at hh
   repeat'(first|refine wk3 ?_|(refine wk2 ?_ ?_<;>intro _)|refine wk4 ?_|fail);all_goals(conv=>whnf)
   all_goals first
    | (exfalso; simp_all; done)
    | exact Ql ⟨(k+1,_),[],rfl,kps,kps,⟨Ze (by omega),hlt,hh⟩,by dsimp only; omega⟩
  ·rw [if_pos c] at hh
   subst hh
   repeat'(first|refine wk3 ?_|(refine wk2 ?_ ?_<;>intro _)|refine wk4 ?_|fail);all_goals(conv=>whnf)
   all_goals first
    | exact Zb rfl
    | (exfalso; simp_all; done)
 ·rw [Qj (by omega),fstL] at hh
  subst hh
  repeat'(first|refine wk3 ?_|(refine wk2 ?_ ?_<;>intro _)|refine wk4 ?_|fail);all_goals(conv=>whnf)
  exact Zb rfl
noncomputable abbrev rOr:List AV->Option PRes:=famA (fun l:List Int=>l.length<1000) (fun l=>[.isl 1 (nl l)]) (fun l=>⟨I (fstL l),[]⟩)
theorem Yf9 {pt:PC} (hp:PCOK Tryz.prog pt):PCOK Tryz.prog (ins 146 rOr pt):=Ya (fun l hl=>d146 hl) hp
theorem Yd4 {l:List Int} (h:l.length<1000):rOr [.isl 1 (nl l)]=some ⟨I (fstL l),[]⟩ :=
 Zo (p:=fun l:List Int=>l.length<1000) (g:=fun l=>[.isl 1 (nl l)]) (r:=fun l=>⟨I (fstL l),[]⟩) (fun j hj=>by
  simp only [Qx,Od,true_and,and_true] at hj
  rw [Zgv hj]) h
theorem d115 {a b:Pth} (ha:a.ss.length<1000000) (hb:b.ss.length<1000000):PCall Tryz.prog 115 [a.av,b.av] ⟨I (ordP a b),[]⟩:=by
 obtain ⟨s1,p1,q1⟩:=a
 obtain ⟨s2,p2,q2⟩:=b
 dsimp only at ha hb
 have l1:=Zi s1
 have l2:=Zi s2
 have e1:=Yaf ha hb
 have e2:=Yd4 (l:=[cmpI q1 q2,cmpI ((nl s1).length:Int) ((nl s2).length:Int),cmpL s1 s2]) (by simp)
 unfold ordP
 dsimp only
 rw [<-l1,<-l2]
 refine bs.pv (sx:=nos) (Zwk (Yd7 (Yf9 Zc))) Tryz.func115 (by kernel_rfl) (by kernel_rfl) rfl ?_
 repeat'(first|refine wk3 ?_|(refine wk2 ?_ ?_<;>intro _)|refine wk4 ?_|fail);all_goals(conv=>whnf)
 exact Zb rfl
theorem Vb (a b:Int):(a<b/\cmpI a b = -1)\/(a=b/\cmpI a b=0)\/(b<a/\cmpI a b=1):=by
 unfold cmpI
 split
 ·exact .inl ⟨‹_›,rfl⟩
 ·split
  ·exact .inr (.inr ⟨‹_›,rfl⟩)
  ·exact .inr (.inl ⟨by omega,rfl⟩)
theorem Zp3:∀ a:List Int,cmpL a a=0
 | []=>rfl
 | x::a=>by
  have:cmpI x x=0:=by rcases Vb x x with h|h|h<;>omega
  rw [cmpL,if_pos this,Zp3 a]
theorem Zp4:∀ a b:List Int,cmpL b a = -cmpL a b
 | [],[]=>rfl
 | [],_::_=>rfl
 | _::_,[]=>rfl
 | x::a,y::b=>by
  rw [cmpL,cmpL,Zp4 a b]
  rcases Vb x y with h|h|h<;>rcases Vb y x with k|k|k<;>rw [h.2,k.2]<;>first|rfl|omega
theorem Zp2:∀ {a b:List Int},cmpL a b=0->a=b
 | [],[],_=>rfl
 | [],_::_,h=>by cases h
 | _::_,[],h=>by cases h
 | x::a,y::b,h=>by
  rw [cmpL] at h
  rcases Vb x y with k|k|k
  ·rw [k.2] at h; simp at h
  ·rw [k.2] at h; rw [k.1,Zp2 (a:=a) (b:=b) (by simpa using h)]
  ·rw [k.2] at h; simp at h
theorem Zmn:∀ {a b c:List Int},cmpL a b<=0->cmpL b c<=0->cmpL a c<=0
 | [],_,[],_,_=>by simp [cmpL]
 | [],_,_::_,_,_=>by simp [cmpL]
 | x::a,[],c,h,_=>by simp [cmpL] at h
 | x::a,y::b,[],_,h=>by simp [cmpL] at h
 | x::a,y::b,z::c,h1,h2=>by
  rw [cmpL] at h1 h2 ⊢
  rcases Vb x y with k|k|k<;>rcases Vb y z with m|m|m<;>rcases Vb x z with n|n|n<;>rw [k.2] at h1<;>rw [m.2] at h2<;>rw [n.2]
  all_goals simp at h1 h2 ⊢
  all_goals first
   | omega
   | exact Zmn h1 h2
abbrev ordK (p:Pth):List Int:=p.sq::(p.ss.length:Int)::p.ss
theorem Zeg (a b:Pth):ordP a b=cmpL (ordK a) (ordK b):=by
 unfold ordP ordK
 simp only [fstL,cmpL]
 by_cases c1:cmpI a.sq b.sq=0<;>by_cases c2:cmpI a.ss.length b.ss.length=0<;>by_cases c3:cmpL a.ss b.ss=0<;>simp [c1,c2,c3]
theorem Zws (a:Pth):ordP a a=0:=by rw [Zeg,Zp3]
theorem Zbk (a b:Pth):ordP b a = -ordP a b:=by rw [Zeg,Zeg,Zp4]
theorem Ze4 {a b c:Pth} (h1:ordP a b<=0) (h2:ordP b c<=0):ordP a c<=0:=by rw [Zeg] at *; exact Zmn h1 h2
theorem Zoq {a b:Pth} (h:ordP a b=0):a.sq=b.sq/\a.ss=b.ss:=by
 rw [Zeg] at h
 have:=Zp2 h
 simp only [ordK,Qx] at this
 exact ⟨this.1,this.2.2⟩
theorem Yak:Go.Sort.SWO (Go.Proofs.ltOf ordP):=by
 refine ⟨fun x=>?_,fun x y z h1 h2=>?_,fun x y z h1 h2=>?_⟩
 ·simp [ltOf,Zws]
 ·simp only [ltOf,decide_eq_true_eq] at *
  have h:=Ze4 (Qw h1) (Qw h2)
  rcases Int.lt_or_eq_of_le h with h|h
  ·exact h
  ·obtain ⟨e1,e2⟩:=Zoq h
   have:ordP x y=ordP z y:=by rw [Zeg,Zeg]; unfold ordK; rw [e1,e2]
   have:=Zbk y z
   omega
 ·simp only [ltOf,decide_eq_false_iff_not,Int.not_lt] at *
  have a1:=Zbk x y
  have a2:=Zbk y z
  have a3:=Zbk x z
  have:=Ze4 (a:=z) (b:=y) (c:=x) (by omega) (by omega)
  omega
theorem Zn9 {G:Pth->Prop} (hG:∀ a b,G a->G b->a.ss=b.ss->a=b):∀ {l m:List Pth},l.Perm m->(∀ a∈l,G a)->l.Pairwise (fun a b=>ordP a b<=0)->m.Pairwise (fun a b=>ordP a b<=0)->l=m
 | [],m,hp,_,_,_=>by rw [List.nil_perm.1 hp]
 | a::l,[],hp,_,_,_=>by have:=hp.length_eq; simp at this
 | a::l,b::m,hp,hg,h1,h2=>by
  have hab:a=b:=by
   by_cases c:a=b
   ·exact c
   ·have hb:b∈a::l:=hp.symm.subset (by simp)
    have ha:a∈b::m:=hp.subset (by simp)
    rw [Rf] at ha hb
    have q1:=(Pc.1 h1).1 b (by rcases hb with h|h; exact absurd h.symm c; exact h)
    have q2:=(Pc.1 h2).1 a (by rcases ha with h|h; exact absurd h c; exact h)
    have q3:=Zbk a b
    have q4:=Zoq (a:=a) (b:=b) (by omega)
    exact hG a b (hg a (by simp)) (hg b (hp.symm.subset (by simp))) q4.2
  subst hab
  rw [Zn9 hG (List.perm_cons a |>.1 hp) (fun x hx=>hg x (by simp [hx])) (Pc.1 h1).2 (Pc.1 h2).2]
def putM (p:Pth) (l:List Pth):Nat->Nat
 | 0=>0
 | m+1=>match l[m]? with
  | some x=>if ordP p x<0 then putM p l m else m+1
  | none=>m+1
def putL (l:List Pth) (p:Pth):List Pth:=l.take (putM p l l.length)++p::l.drop (putM p l l.length)
theorem Zwn (p:Pth) (l:List Pth):∀ m,putM p l m<=m
 | 0=>Qd _
 | m+1=>by
  rw [putM]
  split
  ·split
   ·exact Qu (Zwn p l m) (Nat.le_succ _)
   ·exact Qd _
  ·exact Qd _
theorem Zcj (l:List Pth) (p:Pth):(putL l p).Perm (p::l):=by
 unfold putL
 refine List.perm_middle.trans ?_
 rw [List.take_append_drop]
theorem Zon (p:Pth) (l:List Pth):∀ m,m<=l.length->(∀ j (h:j<l.length),putM p l m<=j->j<m->ordP p l[j]<0)/\(∀ j (h:j<l.length),j+1=putM p l m -> ¬ ordP p l[j]<0)
 | 0,_=>⟨fun j h h1 h2=>by omega,fun j h h1=>by simp [putM] at h1⟩
 | m+1,hm=>by
  have hml:m<l.length:=by omega
  rw [putM,List.getElem?_eq_getElem hml]
  dsimp only
  by_cases c:ordP p l[m]<0
  ·rw [if_pos c]
   obtain ⟨q1,q2⟩:=Zon p l m (by omega)
   refine ⟨fun j h h1 h2=>?_,q2⟩
   by_cases e:j=m
   ·subst e; exact c
   ·exact q1 j h h1 (by omega)
  ·rw [if_neg c]
   refine ⟨fun j h h1 h2=>by omega,fun j h h1=>?_⟩
   have:j=m:=by omega
   subst this; exact c
theorem Zq1 {l:List Pth} {p:Pth} (hs:l.Pairwise (fun a b=>ordP a b<=0)):(putL l p).Pairwise (fun a b=>ordP a b<=0):=by
 have hle:=Zwn p l l.length
 obtain ⟨q1,q2⟩:=Zon p l l.length (Qd _)
 unfold putL
 generalize putM p l l.length=m at *
 rw [List.pairwise_append]
 have hgt:∀ x∈l.drop m,ordP p x<=0:=fun x hx=>by
  obtain ⟨i,hi,rfl⟩:=Ou.1 hx
  rw [List.length_drop] at hi
  rw [List.getElem_drop]
  exact Qw (q1 (m+i) (by omega) (by omega) (by omega))
 have hlt:∀ x∈l.take m,ordP x p<=0:=fun x hx=>by
  obtain ⟨i,hi,rfl⟩:=Ou.1 hx
  rw [List.length_take] at hi
  rw [List.getElem_take]
  have h1:=q2 (m-1) (by omega) (by omega)
  have h2:=Zbk (l[m-1]'(by omega)) p
  have h3:ordP (l[m-1]'(by omega)) p<=0:=by omega
  by_cases e:i=m-1
  ·subst e; exact h3
  ·exact Ze4 (List.pairwise_iff_getElem.1 hs i (m-1) (by omega) (by omega) (by omega)) h3
 refine ⟨hs.sublist (List.take_sublist _ _),?_,fun a ha b hb=>?_⟩
 ·rw [Pc]
  exact ⟨hgt,hs.sublist (List.drop_sublist _ _)⟩
 ·rcases Rf.1 hb with rfl|hb
  ·exact hlt a ha
  ·exact Ze4 (hlt a ha) (hgt b hb)
abbrev pv (p:Pth):List AV:=[.isl 1 (nl p.ss),.isl 4 (p.ps.map hp4),I p.sq]
theorem Yck (l:List Pth):(l.map pv).length=l.length:=by simp
theorem Ycl {l:List Pth} {k:Nat} (h:k<l.length):(l.map pv)[((k:Nat):Int).toNat]?=some (pv l[k]):=by simp [h]
theorem Yii {a b:List Int} (ha:a.length<1000000) (hb:b.length<1000000):PCall Tryz.prog 209 [.isl 1 (nl a),.isl 1 (nl b)] ⟨Bo (decide (cmpL a b<0)),[]⟩:=by
 have la:=Zi a
 have lb:=Zi b
 refine bs.pv (sx:=nos) Zc Tryz.func209 (by kernel_rfl) (by kernel_rfl) rfl ?_
 repeat'(first|refine wk3 ?_|(refine wk2 ?_ ?_<;>intro _)|refine wk4 ?_|fail);all_goals(conv=>whnf)
 refine Yb (S:=Nat × Int) (fun t=>a.length-t.1) (fun t=>[(0,.isl 1 (nl a)),(1,.isl 1 (nl b)),(5,I t.2)]) (fun _=>[]) 0 0
  (fun t=>t.2=t.1/\t.1<=a.length/\t.1<=b.length/\cmpL (a.drop t.1) (b.drop t.1)=cmpL a b) (0,0) ⟨rfl,Qn _,Qn _,rfl⟩ (Qd _) [] rfl (kps) (kps) ?_
 rintro ⟨k,i⟩ ⟨hi,h1,h2,hh⟩
 dsimp only at hi h1 h2 hh ⊢
 subst hi
 generalize cmpL a b=R at *
 refine bs.av (sx:=nos) Zc ?_
 by_cases c1:k<a.length
 ·have e1:=Uh c1
  by_cases c2:k<b.length
  ·have e2:=Uh c2
   rw [Qi c1,Qi c2,cmpL] at hh
   generalize a[k]=x at *
   generalize b[k]=y at *
   rcases Vb x y with ⟨h,e⟩|⟨h,e⟩|⟨h,e⟩
   ·rw [e,if_neg (by simp)] at hh
    subst hh
    repeat'(first|refine wk3 ?_|(refine wk2 ?_ ?_<;>intro _)|refine wk4 ?_|fail);all_goals(conv=>whnf)
    all_goals first
     | exact Za (by rw [decide_eq_true h]; rfl)
     | (exfalso; simp_all; done)
   ·rw [e,if_pos rfl] at hh
    subst h
    repeat'(first|refine wk3 ?_|(refine wk2 ?_ ?_<;>intro _)|refine wk4 ?_|fail);all_goals(conv=>whnf)
    all_goals first
     | (exfalso; simp_all; done)
     | exact Ql ⟨(k+1,_),[],rfl,kps,kps,⟨Ze (by omega),c1,c2,hh⟩,by dsimp only; omega⟩
   ·rw [e,if_neg (by simp)] at hh
    subst hh
    repeat'(first|refine wk3 ?_|(refine wk2 ?_ ?_<;>intro _)|refine wk4 ?_|fail);all_goals(conv=>whnf)
    all_goals first
     | exact Za (by rw [decide_eq_false (by omega)]; rfl)
     | (exfalso; simp_all; done)
  ·rw [Qi c1,show b.drop k=[] from Qj (by omega),cmpL] at hh
   subst hh
   repeat'(first|refine wk3 ?_|(refine wk2 ?_ ?_<;>intro _)|refine wk4 ?_|fail);all_goals(conv=>whnf)
   all_goals first
    | exact Za (by rw [decide_eq_false (by omega)]; rfl)
    | (exfalso; simp_all; done)
 ·rw [show a.drop k=[] from Qj (by omega)] at hh
  by_cases c2:k<b.length
  ·rw [Qi c2,cmpL] at hh
   subst hh
   repeat'(first|refine wk3 ?_|(refine wk2 ?_ ?_<;>intro _)|refine wk4 ?_|fail);all_goals(conv=>whnf)
   all_goals first
    | exact Za (by rw [decide_eq_true (by omega)]; rfl)
    | (exfalso; simp_all; done)
  ·rw [show b.drop k=[] from Qj (by omega),cmpL] at hh
   subst hh
   repeat'(first|refine wk3 ?_|(refine wk2 ?_ ?_<;>intro _)|refine wk4 ?_|fail);all_goals(conv=>whnf)
   all_goals first
    | exact Za (by rw [decide_eq_false (by omega)]; rfl)
    | (exfalso; simp_all; done)
theorem d149 {a b:Pth} (ha:a.ss.length<1000000) (hb:b.ss.length<1000000):PCall Tryz.prog 149 [a.av,b.av] ⟨Bo (decide (ordP a b<0)),[]⟩:=by
 have h1:=Yii ha hb
 rw [Zeg]
 obtain ⟨s1,p1,q1⟩:=a
 obtain ⟨s2,p2,q2⟩:=b
 dsimp only at ha hb h1
 unfold ordK
 dsimp only
 rw [cmpL,cmpL]
 have l1:=Zi s1
 have l2:=Zi s2
 have hk:=Zb8 h1 Zc
 have o1:=Zak [.isl 1 (nl s1),.isl 1 (nl s2)] ⟨Bo (decide (cmpL s1 s2<0)),[]⟩
 generalize cmpL s1 s2=c at *
 rcases Vb q1 q2 with ⟨h,e⟩|⟨h,e⟩|⟨h,e⟩
 ·rw [e,if_neg (by simp)]
  refine bs.pv (sx:=nos) hk Tryz.func149 (by kernel_rfl) (by kernel_rfl) rfl ?_
  repeat'(first|refine wk3 ?_|(refine wk2 ?_ ?_<;>intro _)|refine wk4 ?_|fail);all_goals(conv=>whnf)
  all_goals first
   | (refine Za ?_; rw [Se]; simp only [decide_eq_true_eq]; omega)
   | (exfalso; clear hk o1; simp_all; done)
   | (exfalso; clear hk o1; simp_all; omega)
 ·subst h
  rw [e,if_pos rfl]
  rcases Vb (s1.length:Int) (s2.length:Int) with ⟨h,e⟩|⟨h,e⟩|⟨h,e⟩
  ·rw [e,if_neg (by simp)]
   refine bs.pv (sx:=nos) hk Tryz.func149 (by kernel_rfl) (by kernel_rfl) rfl ?_
   repeat'(first|refine wk3 ?_|(refine wk2 ?_ ?_<;>intro _)|refine wk4 ?_|fail);all_goals(conv=>whnf)
   all_goals first
    | (refine Za ?_; rw [Se]; simp only [decide_eq_true_eq]; omega)
    | (exfalso; clear hk o1; simp_all; done)
    | (exfalso; clear hk o1; simp_all; omega)
  ·rw [e,if_pos rfl]
   refine bs.pv (sx:=nos) hk Tryz.func149 (by kernel_rfl) (by kernel_rfl) rfl ?_
   repeat'(first|refine wk3 ?_|(refine wk2 ?_ ?_<;>intro _)|refine wk4 ?_|fail);all_goals(conv=>whnf)
   all_goals first
    | exact Za rfl
    | (exfalso; clear hk o1; simp_all; done)
    | (exfalso; clear hk o1; simp_all; omega)
  ·rw [e,if_neg (by simp)]
   refine bs.pv (sx:=nos) hk Tryz.func149 (by kernel_rfl) (by kernel_rfl) rfl ?_
   repeat'(first|refine wk3 ?_|(refine wk2 ?_ ?_<;>intro _)|refine wk4 ?_|fail);all_goals(conv=>whnf)
   all_goals first
    | (refine Za ?_; rw [Se]; simp only [decide_eq_true_eq]; omega)
    | (exfalso; clear hk o1; simp_all; done)
    | (exfalso; clear hk o1; simp_all; omega)
 ·rw [e,if_neg (by simp)]
  refine bs.pv (sx:=nos) hk Tryz.func149 (by kernel_rfl) (by kernel_rfl) rfl ?_
  repeat'(first|refine wk3 ?_|(refine wk2 ?_ ?_<;>intro _)|refine wk4 ?_|fail);all_goals(conv=>whnf)
  all_goals first
   | (refine Za ?_; rw [Se]; simp only [decide_eq_true_eq]; omega)
   | (exfalso; clear hk o1; simp_all; done)
   | (exfalso; clear hk o1; simp_all; omega)
noncomputable abbrev r149:List AV->Option PRes:=famA (fun q:Pth × Pth=>q.1.ss.length<1000000/\q.2.ss.length<1000000) (fun q=>[q.1.av,q.2.av]) (fun q=>⟨Bo (decide (ordP q.1 q.2<0)),[]⟩)
theorem Zhy {pt:PC} (hp:PCOK Tryz.prog pt):PCOK Tryz.prog (ins 149 r149 pt):=Ya (fun q hq=>d149 hq.1 hq.2) hp
theorem Yae {a b:Pth} (h1:a.ss.length<1000000) (h2:b.ss.length<1000000):r149 [a.av,b.av]=some ⟨Bo (decide (ordP a b<0)),[]⟩ :=
 Zo (p:=fun q:Pth × Pth=>q.1.ss.length<1000000/\q.2.ss.length<1000000) (g:=fun q=>[q.1.av,q.2.av]) (r:=fun q=>⟨Bo (decide (ordP q.1 q.2<0)),[]⟩) (k:=(a,b)) (fun j hj=>by
  simp only [Qx,and_true] at hj
  rw [Znd hj.1,Znd hj.2]) ⟨h1,h2⟩
abbrev Zzg (l:List Pth):Prop:=∀ p∈l,p.ss.length<1000000/\p.ps.length<1000000
def Zhw:List Pth->List Pth->Bool
 | [],[]=>true
 | a::l,b::m=>same a b&&Zhw l m
 | _,_=>false
theorem sameL_iff:∀ {l m:List Pth},Zhw l m=true↔l=m
 | [],[]=>by simp [Zhw]
 | a::l,b::m=>by rw [Zhw,Qc,same_iff,sameL_iff]; simp
 | [],b::m=>by simp [Zhw]
 | a::l,[]=>by simp [Zhw]
theorem d56 {l m:List Pth} (hl:l.length<100000) (hm:m.length<100000) (sl:Zzg l) (sm:Zzg m):PCall Tryz.prog 56 [.isl 3 (l.map pv),.isl 3 (m.map pv)] ⟨Bo (Zhw l m),[]⟩:=by
 have hk:=Ygj Zc
 have l1:=Yck l
 have l2:=Yck m
 by_cases h3:l.length=m.length
 rotate_left
 ·have:Zhw l m=false:=by
   rw [Bool.eq_false_iff,ne_eq,sameL_iff]; exact fun e=>h3 (by rw [e])
  rw [this]
  refine bs.pv (sx:=nos) hk Tryz.func56 (by kernel_rfl) (by kernel_rfl) rfl ?_
  repeat'(first|refine wk3 ?_|(refine wk2 ?_ ?_<;>intro _)|refine wk4 ?_|fail);all_goals(conv=>whnf)
  exact Za rfl
 refine bs.pv (sx:=nos) hk Tryz.func56 (by kernel_rfl) (by kernel_rfl) rfl ?_
 repeat'(first|refine wk3 ?_|(refine wk2 ?_ ?_<;>intro _)|refine wk4 ?_|fail);all_goals(conv=>whnf)
 refine Yb (S:=Nat × Int) (fun t=>l.length-t.1) (fun t=>[(0,.isl 3 (l.map pv)),(1,.isl 3 (m.map pv)),(5,I t.2)]) (fun _=>[]) 0 0
  (fun t=>t.2=t.1/\t.1<=l.length/\Zhw (l.drop t.1) (m.drop t.1)=Zhw l m) (0,0) ⟨rfl,Qn _,rfl⟩ (Qd _) [] rfl (kps) (kps) ?_
 rintro ⟨k,i⟩ ⟨hi,h1,hh⟩
 dsimp only at hi h1 hh ⊢
 subst hi
 generalize Zhw l m=R at *
 refine bs.av (sx:=nos) hk ?_
 by_cases c1:k<l.length
 ·have e1:=Ycl c1
  have e2:=Ycl (show k<m.length by omega)
  have q:=Zz5 (a:=l[k]) (b:=(m[k]'(by omega))) (sl _ (Qt _)).1 (sl _ (Qt _)).2 (sm _ (Qt _)).1 (sm _ (Qt _)).2
  rw [Qi c1,Qi (show k<m.length by omega),Zhw] at hh
  generalize l[k]=x at *
  generalize (m[k]'(by omega))=y at *
  obtain ⟨x1,x2,x3⟩:=x
  obtain ⟨y1,y2,y3⟩:=y
  cases hb:same ⟨x1,x2,x3⟩ ⟨y1,y2,y3⟩ with
  | true =>
   rw [hb,Bool.true_and] at hh
   rw [hb] at q
   repeat'(first|refine wk3 ?_|(refine wk2 ?_ ?_<;>intro _)|refine wk4 ?_|fail);all_goals(conv=>whnf)
   exact Ql ⟨(k+1,_),[],rfl,kps,kps,⟨Ze (by omega),c1,hh⟩,by dsimp only; omega⟩
  | false =>
   rw [hb,Bool.false_and] at hh
   rw [hb] at q
   subst hh
   repeat'(first|refine wk3 ?_|(refine wk2 ?_ ?_<;>intro _)|refine wk4 ?_|fail);all_goals(conv=>whnf)
   exact Za rfl
 ·rw [Qj (by omega),Qj (by omega),Zhw] at hh
  subst hh
  repeat'(first|refine wk3 ?_|(refine wk2 ?_ ?_<;>intro _)|refine wk4 ?_|fail);all_goals(conv=>whnf)
  exact Za rfl
def rngI (k n:Nat):List Int:=(List.range' k (n-k)).map fun (i:Nat)=>(i:Int)
theorem Zd9 {k n:Nat} (h:k<n):rngI k n=(k:Int)::rngI (k+1) n:=by
 unfold rngI
 rw [show n-k=(n-(k+1))+1 by omega,List.range'_succ]
 rfl
theorem Zgq {k n:Nat} (h:n<=k):rngI k n=[]:=by
 unfold rngI
 rw [show n-k=0 by omega]
 rfl
def wlk (n:Nat):Nat->List Int->List (List Int)
 | 0,L=>[L]
 | o+1,L=>L::(rngI 0 n).flatMap fun i=>if L.getLast?=some i then [] else wlk n o (L++[i])
def nl1 (ns:List Int):List (List AV):=ns.map fun n=>[I n]
abbrev lsX (l:List (List Int)):List (List AV):=l.map fun L=>[.isl 1 (nl1 L)]
def Xu:FuncId->Bool:=fun f=>Nat.beq f 143
theorem Yex (n:Nat) (hn:n<1000):Zqh Tryz.prog 142 [] [.ipt [I 0],.ipt [I (n:Int)]] (lsX (wlk n 0 [])):=by
 refine bs.titer (sx:=Xu) Zc Tryz.func142 (by kernel_rfl) rfl (by kernel_rfl) fun B Ig l JX hI=>?_
 conv=>whnf
 refine bs.ysv (sx:=Xu) Zc hI Tryz.func143 (by kernel_rfl) rfl (by kernel_rfl) ?_
 conv=>whnf
 refine Hf ⟨rfl,rfl,⟨_,_,rfl,.inr ⟨rfl,_,rfl⟩,trivial⟩,(fun h=>by cases h),?_,?_⟩
 ·repeat'(first|refine wk3 ?_|(refine wk2 ?_ ?_<;>intro _)|refine wk4 ?_|fail);all_goals(conv=>whnf)
  exact Ql (.inl rfl)
 ·repeat'(first|refine wk3 ?_|(refine wk2 ?_ ?_<;>intro _)|refine wk4 ?_|fail);all_goals(conv=>whnf)
  exact Ql (.inr rfl)
def w1Z (l:Nat) (f:AV):Nat->List (List AV)->List (Nat × ABlk)
 | 0,_=>[(2,.row 1 [[f]] true false),(1,.row 1 [[.nils]] true false),(0,.row 1 [[.yld l]] true false)]
 | _+1,A=>[(3,.row 1 A true true),(2,.row 1 [[f]] true false),(1,.row 1 [[.asl 3 0 0]] true false),(0,.row 1 [[.yld l]] true false)]
theorem Yew (n:Nat) (hn:n<1000):Zqh Tryz.prog 142 [] [.ipt [I 1],.ipt [I (n:Int)]] (lsX (wlk n 1 [])):=by
 refine bs.titer (sx:=Xu) Zc Tryz.func142 (by kernel_rfl) rfl (by kernel_rfl) fun B Ig l JX hI=>?_
 conv=>whnf
 refine bs.ysv (sx:=Xu) Zc hI Tryz.func143 (by kernel_rfl) rfl (by kernel_rfl) ?_
 conv=>whnf
 refine Hf ⟨rfl,rfl,⟨_,_,rfl,.inr ⟨rfl,_,rfl⟩,trivial⟩,(fun h=>by cases h),?_,?_⟩
 ·conv=>whnf
  refine Zus (S:=Nat × Int × Nat × List (List AV)) (fun t=>n-t.1) (fun t=>[(0,.ptr 0 0 0),(1,.ptr 1 0 0),(2,.ipt [I 1]),(3,.ipt [I (n:Int)]),(4,.ptr 2 0 0),(15,I (n:Int)),(16,I t.2.1)]) (fun t=>w1Z l (.func 143 [] [.ptr 0 0 0,.ptr 1 0 0,.ipt [I 1],.ipt [I (n:Int)],.ptr 2 0 0]) t.2.2.1 t.2.2.2)
   (fun t=>some (lsX ((rngI t.1 n).flatMap fun i=>wlk n 0 [i]))) 3 (fun t=>match t.2.2.1 with
   | 0=>3
   | _=>4) (fun t=>t.2.1=t.1/\t.1<=n/\(t.2.2.1≠0->∃ c,t.2.2.2=[[c]])) (0,0,0,[]) ⟨rfl,Qn _,fun h=>absurd rfl h⟩ (Qd _) rfl [] rfl (kps) (kps) ?_
  rintro ⟨k,i,m,A⟩ ⟨hi,hk,hA⟩
  dsimp only at hi hk hA
  subst hi
  by_cases hlt:k<n
  ·have hw:Qa Qb ((k:Int)+1)=((k+1:Nat):Int):=W_eq (by omega) (by omega)
   dsimp only
   rw [Zd9 hlt]
   cases m with
   | zero =>
    refine bs.yv Zc hI (sx:=Xu) ?_
    repeat'(first|refine wk3 ?_|(refine wk2 ?_ ?_<;>intro _)|refine wk4 ?_|fail);all_goals(conv=>whnf)
    refine bs.ysv (sx:=Xu) Zc hI Tryz.func143 (by kernel_rfl) rfl (by kernel_rfl) ?_
    conv=>whnf
    refine Hf ⟨rfl,rfl,.same rfl,(fun h=>by cases h),?_,?_⟩
    ·conv=>whnf
     repeat'(first|refine wk3 ?_|(refine wk2 ?_ ?_<;>intro _)|refine wk4 ?_|fail);all_goals(conv=>whnf)
     exact Ql ⟨(k+1,Qa Qb ((k:Int)+1),1,[[I k]]),[(3,4)],rfl,kps,kps,rfl,⟨hw,by omega,fun _=>⟨_,rfl⟩⟩,by dsimp only; omega⟩
    ·repeat'(first|refine wk3 ?_|(refine wk2 ?_ ?_<;>intro _)|refine wk4 ?_|fail);all_goals(conv=>whnf)
     exact Ql (.inr rfl)
   | succ m =>
    obtain ⟨c,rfl⟩:=hA (by simp)
    have hfit:=Jy
    refine bs.yv Zc hI (sx:=Xu) ?_
    repeat'(first|refine wk3 ?_|(refine wk2 ?_ ?_<;>intro _)|refine wk4 ?_|fail);all_goals(conv=>whnf)
    refine bs.ysv (sx:=Xu) Zc hI Tryz.func143 (by kernel_rfl) rfl (by kernel_rfl) ?_
    conv=>whnf
    refine Hf ⟨rfl,rfl,.same rfl,(fun h=>by cases h),?_,?_⟩
    ·conv=>whnf
     repeat'(first|refine wk3 ?_|(refine wk2 ?_ ?_<;>intro _)|refine wk4 ?_|fail);all_goals(conv=>whnf)
     exact Ql ⟨(k+1,Qa Qb ((k:Int)+1),m+1,[[I k]]),[(3,3)],rfl,kps,kps,rfl,⟨hw,by omega,fun _=>⟨_,rfl⟩⟩,by dsimp only; omega⟩
    ·repeat'(first|refine wk3 ?_|(refine wk2 ?_ ?_<;>intro _)|refine wk4 ?_|fail);all_goals(conv=>whnf)
     exact Ql (.inr rfl)
  ·dsimp only
   rw [Zgq (by omega)]
   cases m with
   | zero =>
    refine bs.yv Zc hI (sx:=Xu) ?_
    repeat'(first|refine wk3 ?_|(refine wk2 ?_ ?_<;>intro _)|refine wk4 ?_|fail);all_goals(conv=>whnf)
    exact Ql (.inl rfl)
   | succ m =>
    refine bs.yv Zc hI (sx:=Xu) ?_
    repeat'(first|refine wk3 ?_|(refine wk2 ?_ ?_<;>intro _)|refine wk4 ?_|fail);all_goals(conv=>whnf)
    exact Ql (.inl rfl)
 ·repeat'(first|refine wk3 ?_|(refine wk2 ?_ ?_<;>intro _)|refine wk4 ?_|fail);all_goals(conv=>whnf)
  exact Ql (.inr rfl)
def w2Z (l:Nat) (f:AV) (a b:AV):Nat->List (Nat × ABlk)
 | 0=>[(2,.row 1 [[f]] true false),(1,.row 1 [[.nils]] true false),(0,.row 1 [[.yld l]] true false)]
 | 1=>[(3,.row 1 [[a]] true true),(2,.row 1 [[f]] true false),(1,.row 1 [[.asl 3 0 0]] true false),(0,.row 1 [[.yld l]] true false)]
 | _+2=>[(3,.row 1 [[a],[b]] true true),(2,.row 1 [[f]] true false),(1,.row 1 [[.asl 3 0 0]] true false),(0,.row 1 [[.yld l]] true false)]
abbrev fn2 (n:Nat):AV:=.func 143 [] [.ptr 0 0 0,.ptr 1 0 0,.ipt [I 2],.ipt [I (n:Int)],.ptr 2 0 0]
def w3Z (l:Nat) (f:AV) (a b:AV) (rI:Nat):Nat->List (Nat × ABlk)
 | 0=>[(rI,.row 1 [[a]] true true),(2,.row 1 [[f]] true false),(1,.row 1 [[.asl rI 0 1]] true false),(0,.row 1 [[.yld l]] true false)]
 | _+1=>[(5,.row 1 [[a],[b]] true true),(2,.row 1 [[f]] true false),(1,.row 1 [[.asl 5 0 1]] true false),(0,.row 1 [[.yld l]] true false)]
def w4Z (l:Nat) (f:AV) (a b:AV):List (Nat × ABlk):=[(3,.row 1 [[a],[b]] true true),(2,.row 1 [[f]] true false),(1,.row 1 [[.asl 3 0 1]] true false),(0,.row 1 [[.yld l]] true false)]
theorem wl2 (n k:Nat):wlk n 1 [(k:Int)]=[(k:Int)]::(rngI 0 n).flatMap fun j=>if (k:Int)=j then [] else [[(k:Int),j]]:=by
 simp [wlk]
theorem Yev (n:Nat) (hn:n<1000):Zqh Tryz.prog 142 [] [.ipt [I 2],.ipt [I (n:Int)]] (lsX (wlk n 2 [])):=by
 refine bs.titer (sx:=Xu) Zc Tryz.func142 (by kernel_rfl) rfl (by kernel_rfl) fun B Ig l JX hI=>?_
 conv=>whnf
 refine bs.ysv (sx:=Xu) Zc hI Tryz.func143 (by kernel_rfl) rfl (by kernel_rfl) ?_
 conv=>whnf
 refine Hf ⟨rfl,rfl,⟨_,_,rfl,.inr ⟨rfl,_,rfl⟩,trivial⟩,(fun h=>by cases h),?_,?_⟩
 ·conv=>whnf
  refine Zus (S:=Nat × Int × Nat × AV × AV) (fun t=>n-t.1) (fun t=>[(0,.ptr 0 0 0),(1,.ptr 1 0 0),(2,.ipt [I 2]),(3,.ipt [I (n:Int)]),(4,.ptr 2 0 0),(15,I (n:Int)),(16,I t.2.1)]) (fun t=>w2Z l (fn2 n) t.2.2.2.1 t.2.2.2.2 t.2.2.1)
   (fun t=>some (lsX ((rngI t.1 n).flatMap fun i=>wlk n 1 [i]))) 3 (fun t=>match t.2.2.1 with
   | 0=>3
   | _=>4) (fun t=>t.2.1=t.1/\t.1<=n) (0,0,0,I 0,I 0) ⟨rfl,Qn _⟩ (Qd _) rfl [] rfl (kps) (kps) ?_
  rintro ⟨k,i,m,a,b⟩ ⟨hi,hk⟩
  dsimp only at hi hk
  subst hi
  by_cases hlt:k<n
  ·have hw:Qa Qb ((k:Int)+1)=((k+1:Nat):Int):=W_eq (by omega) (by omega)
   dsimp only
   rw [Zd9 hlt,Td,wl2]
   rcases m with _|_|m
   ·refine bs.yv Zc hI (sx:=Xu) ?_
    repeat'(first|refine wk3 ?_|(refine wk2 ?_ ?_<;>intro _)|refine wk4 ?_|fail);all_goals(conv=>whnf)
    refine bs.ysv (sx:=Xu) Zc hI Tryz.func143 (by kernel_rfl) rfl (by kernel_rfl) ?_
    conv=>whnf
    refine Hf ⟨rfl,rfl,.same rfl,(fun h=>by cases h),?_,?_⟩
    ·conv=>whnf
     repeat'(first|refine wk3 ?_|(refine wk2 ?_ ?_<;>intro _)|refine wk4 ?_|fail);all_goals(conv=>whnf)
     refine Zus (S:=Nat × Int × Nat × AV) (fun t=>n-t.1) (fun t=>[(0,.ptr 0 0 0),(1,.ptr 1 0 0),(2,.ipt [I 2]),(3,.ipt [I (n:Int)]),(4,.ptr 2 0 0),(15,I (n:Int)),(16,I t.2.1)]) (fun t=>w3Z l (fn2 n) (I k) t.2.2.2 4 t.2.2.1)
      (fun t=>some (lsX (((rngI t.1 n).flatMap fun j=>if (k:Int)=j then [] else [[(k:Int),j]])++(rngI (k+1) n).flatMap fun i=>wlk n 1 [i]))) 5 (fun t=>match t.2.2.1 with
       | 0=>5
       | _=>6) (fun t=>t.2.1=t.1/\t.1<=n) (0,0,0,I 0) ⟨rfl,Qn _⟩ (Qd _) rfl [] rfl (kps) (kps) ?_
     rintro ⟨j,i,q,b'⟩ ⟨hi,hj⟩
     dsimp only at hi hj
     subst hi
     by_cases hl2:j<n
     ·have hw2:Qa Qb ((j:Int)+1)=((j+1:Nat):Int):=W_eq (by omega) (by omega)
      dsimp only
      rw [Zd9 hl2,Td]
      by_cases hkj:(k:Int)=(j:Int)
      ·rw [if_pos hkj,Wy]
       rcases q with _|q
       ·refine bs.yv Zc hI (sx:=Xu) ?_
        repeat'(first|refine wk3 ?_|(refine wk2 ?_ ?_<;>intro _)|refine wk4 ?_|fail);all_goals(conv=>whnf)
        exact Ql ⟨(j+1,Qa Qb ((j:Int)+1),0,b'),[],rfl,kps,kps,rfl,⟨hw2,by omega⟩,by dsimp only; omega⟩
       ·refine bs.yv Zc hI (sx:=Xu) ?_
        repeat'(first|refine wk3 ?_|(refine wk2 ?_ ?_<;>intro _)|refine wk4 ?_|fail);all_goals(conv=>whnf)
        exact Ql ⟨(j+1,Qa Qb ((j:Int)+1),q+1,b'),[(5,5)],rfl,kps,kps,rfl,⟨hw2,by omega⟩,by dsimp only; omega⟩
      ·rw [if_neg hkj]
       rcases q with _|q
       ·refine bs.yv Zc hI (sx:=Xu) ?_
        repeat'(first|refine wk3 ?_|(refine wk2 ?_ ?_<;>intro _)|refine wk4 ?_|fail);all_goals(conv=>whnf)
        refine bs.ysv (sx:=Xu) Zc hI Tryz.func143 (by kernel_rfl) rfl (by kernel_rfl) ?_
        conv=>whnf
        refine Hf ⟨rfl,rfl,.same rfl,(fun h=>by cases h),?_,?_⟩
        ·conv=>whnf
         repeat'(first|refine wk3 ?_|(refine wk2 ?_ ?_<;>intro _)|refine wk4 ?_|fail);all_goals(conv=>whnf)
         exact Ql ⟨(j+1,Qa Qb ((j:Int)+1),1,I j),[(5,6)],rfl,kps,kps,rfl,⟨hw2,by omega⟩,by dsimp only; omega⟩
        ·repeat'(first|refine wk3 ?_|(refine wk2 ?_ ?_<;>intro _)|refine wk4 ?_|fail);all_goals(conv=>whnf)
         exact Ql (.inr rfl)
       ·have hfit:=Jy
        refine bs.yv Zc hI (sx:=Xu) ?_
        repeat'(first|refine wk3 ?_|(refine wk2 ?_ ?_<;>intro _)|refine wk4 ?_|fail);all_goals(conv=>whnf)
        refine bs.ysv (sx:=Xu) Zc hI Tryz.func143 (by kernel_rfl) rfl (by kernel_rfl) ?_
        conv=>whnf
        refine Hf ⟨rfl,rfl,.same rfl,(fun h=>by cases h),?_,?_⟩
        ·conv=>whnf
         repeat'(first|refine wk3 ?_|(refine wk2 ?_ ?_<;>intro _)|refine wk4 ?_|fail);all_goals(conv=>whnf)
         exact Ql ⟨(j+1,Qa Qb ((j:Int)+1),q+1,I j),[(5,5)],rfl,kps,kps,rfl,⟨hw2,by omega⟩,by dsimp only; omega⟩
        ·repeat'(first|refine wk3 ?_|(refine wk2 ?_ ?_<;>intro _)|refine wk4 ?_|fail);all_goals(conv=>whnf)
         exact Ql (.inr rfl)
     ·dsimp only
      rw [Zgq (k:=j) (by omega),Hl,Wy]
      rcases q with _|q
      ·refine bs.yv Zc hI (sx:=Xu) ?_
       repeat'(first|refine wk3 ?_|(refine wk2 ?_ ?_<;>intro _)|refine wk4 ?_|fail);all_goals(conv=>whnf)
       exact Ql ⟨(k+1,Qa Qb ((k:Int)+1),1,I k,b),[(3,4)],rfl,kps,kps,rfl,⟨hw,by omega⟩,by dsimp only; omega⟩
      ·refine bs.yv Zc hI (sx:=Xu) ?_
       repeat'(first|refine wk3 ?_|(refine wk2 ?_ ?_<;>intro _)|refine wk4 ?_|fail);all_goals(conv=>whnf)
       exact Ql ⟨(k+1,Qa Qb ((k:Int)+1),2,I k,b'),[(3,5)],rfl,kps,kps,rfl,⟨hw,by omega⟩,by dsimp only; omega⟩
    ·repeat'(first|refine wk3 ?_|(refine wk2 ?_ ?_<;>intro _)|refine wk4 ?_|fail);all_goals(conv=>whnf)
     exact Ql (.inr rfl)
   ·have hfit:=Jy
    refine bs.yv Zc hI (sx:=Xu) ?_
    repeat'(first|refine wk3 ?_|(refine wk2 ?_ ?_<;>intro _)|refine wk4 ?_|fail);all_goals(conv=>whnf)
    clear hfit
    refine bs.ysv (sx:=Xu) Zc hI Tryz.func143 (by kernel_rfl) rfl (by kernel_rfl) ?_
    conv=>whnf
    refine Hf ⟨rfl,rfl,.same rfl,(fun h=>by cases h),?_,?_⟩
    ·conv=>whnf
     repeat'(first|refine wk3 ?_|(refine wk2 ?_ ?_<;>intro _)|refine wk4 ?_|fail);all_goals(conv=>whnf)
     refine Zus (S:=Nat × Int × Nat × AV) (fun t=>n-t.1) (fun t=>[(0,.ptr 0 0 0),(1,.ptr 1 0 0),(2,.ipt [I 2]),(3,.ipt [I (n:Int)]),(4,.ptr 2 0 0),(15,I (n:Int)),(16,I t.2.1)]) (fun t=>w3Z l (fn2 n) (I k) t.2.2.2 3 t.2.2.1)
      (fun t=>some (lsX (((rngI t.1 n).flatMap fun j=>if (k:Int)=j then [] else [[(k:Int),j]])++(rngI (k+1) n).flatMap fun i=>wlk n 1 [i]))) 5 (fun t=>match t.2.2.1 with
       | 0=>5
       | _=>6) (fun t=>t.2.1=t.1/\t.1<=n) (0,0,0,I 0) ⟨rfl,Qn _⟩ (Qd _) rfl [] rfl (kps) (kps) ?_
     rintro ⟨j,i,q,b'⟩ ⟨hi,hj⟩
     dsimp only at hi hj
     subst hi
     by_cases hl2:j<n
     ·have hw2:Qa Qb ((j:Int)+1)=((j+1:Nat):Int):=W_eq (by omega) (by omega)
      dsimp only
      rw [Zd9 hl2,Td]
      by_cases hkj:(k:Int)=(j:Int)
      ·rw [if_pos hkj,Wy]
       rcases q with _|q
       ·refine bs.yv Zc hI (sx:=Xu) ?_
        repeat'(first|refine wk3 ?_|(refine wk2 ?_ ?_<;>intro _)|refine wk4 ?_|fail);all_goals(conv=>whnf)
        exact Ql ⟨(j+1,Qa Qb ((j:Int)+1),0,b'),[],rfl,kps,kps,rfl,⟨hw2,by omega⟩,by dsimp only; omega⟩
       ·refine bs.yv Zc hI (sx:=Xu) ?_
        repeat'(first|refine wk3 ?_|(refine wk2 ?_ ?_<;>intro _)|refine wk4 ?_|fail);all_goals(conv=>whnf)
        exact Ql ⟨(j+1,Qa Qb ((j:Int)+1),q+1,b'),[(5,5)],rfl,kps,kps,rfl,⟨hw2,by omega⟩,by dsimp only; omega⟩
      ·rw [if_neg hkj]
       rcases q with _|q
       ·refine bs.yv Zc hI (sx:=Xu) ?_
        repeat'(first|refine wk3 ?_|(refine wk2 ?_ ?_<;>intro _)|refine wk4 ?_|fail);all_goals(conv=>whnf)
        refine bs.ysv (sx:=Xu) Zc hI Tryz.func143 (by kernel_rfl) rfl (by kernel_rfl) ?_
        conv=>whnf
        refine Hf ⟨rfl,rfl,.same rfl,(fun h=>by cases h),?_,?_⟩
        ·conv=>whnf
         repeat'(first|refine wk3 ?_|(refine wk2 ?_ ?_<;>intro _)|refine wk4 ?_|fail);all_goals(conv=>whnf)
         exact Ql ⟨(j+1,Qa Qb ((j:Int)+1),1,I j),[(5,6)],rfl,kps,kps,rfl,⟨hw2,by omega⟩,by dsimp only; omega⟩
        ·repeat'(first|refine wk3 ?_|(refine wk2 ?_ ?_<;>intro _)|refine wk4 ?_|fail);all_goals(conv=>whnf)
         exact Ql (.inr rfl)
       ·have hfit:=Jy
        refine bs.yv Zc hI (sx:=Xu) ?_
        repeat'(first|refine wk3 ?_|(refine wk2 ?_ ?_<;>intro _)|refine wk4 ?_|fail);all_goals(conv=>whnf)
        refine bs.ysv (sx:=Xu) Zc hI Tryz.func143 (by kernel_rfl) rfl (by kernel_rfl) ?_
        conv=>whnf
        refine Hf ⟨rfl,rfl,.same rfl,(fun h=>by cases h),?_,?_⟩
        ·conv=>whnf
         repeat'(first|refine wk3 ?_|(refine wk2 ?_ ?_<;>intro _)|refine wk4 ?_|fail);all_goals(conv=>whnf)
         exact Ql ⟨(j+1,Qa Qb ((j:Int)+1),q+1,I j),[(5,5)],rfl,kps,kps,rfl,⟨hw2,by omega⟩,by dsimp only; omega⟩
        ·repeat'(first|refine wk3 ?_|(refine wk2 ?_ ?_<;>intro _)|refine wk4 ?_|fail);all_goals(conv=>whnf)
         exact Ql (.inr rfl)
     ·dsimp only
      rw [Zgq (k:=j) (by omega),Hl,Wy]
      rcases q with _|q
      ·refine bs.yv Zc hI (sx:=Xu) ?_
       repeat'(first|refine wk3 ?_|(refine wk2 ?_ ?_<;>intro _)|refine wk4 ?_|fail);all_goals(conv=>whnf)
       exact Ql ⟨(k+1,Qa Qb ((k:Int)+1),1,I k,b),[(3,3)],rfl,kps,kps,rfl,⟨hw,by omega⟩,by dsimp only; omega⟩
      ·refine bs.yv Zc hI (sx:=Xu) ?_
       repeat'(first|refine wk3 ?_|(refine wk2 ?_ ?_<;>intro _)|refine wk4 ?_|fail);all_goals(conv=>whnf)
       exact Ql ⟨(k+1,Qa Qb ((k:Int)+1),2,I k,b'),[(3,5)],rfl,kps,kps,rfl,⟨hw,by omega⟩,by dsimp only; omega⟩
    ·repeat'(first|refine wk3 ?_|(refine wk2 ?_ ?_<;>intro _)|refine wk4 ?_|fail);all_goals(conv=>whnf)
     exact Ql (.inr rfl)
   ·have hfit:=Jy
    refine bs.yv Zc hI (sx:=Xu) ?_
    repeat'(first|refine wk3 ?_|(refine wk2 ?_ ?_<;>intro _)|refine wk4 ?_|fail);all_goals(conv=>whnf)
    refine bs.ysv (sx:=Xu) Zc hI Tryz.func143 (by kernel_rfl) rfl (by kernel_rfl) ?_
    conv=>whnf
    refine Hf ⟨rfl,rfl,.same rfl,(fun h=>by cases h),?_,?_⟩
    ·conv=>whnf
     repeat'(first|refine wk3 ?_|(refine wk2 ?_ ?_<;>intro _)|refine wk4 ?_|fail);all_goals(conv=>whnf)
     refine Zus (S:=Nat × Int × AV) (fun t=>n-t.1) (fun t=>[(0,.ptr 0 0 0),(1,.ptr 1 0 0),(2,.ipt [I 2]),(3,.ipt [I (n:Int)]),(4,.ptr 2 0 0),(15,I (n:Int)),(16,I t.2.1)]) (fun t=>w4Z l (fn2 n) (I k) t.2.2)
      (fun t=>some (lsX (((rngI t.1 n).flatMap fun j=>if (k:Int)=j then [] else [[(k:Int),j]])++(rngI (k+1) n).flatMap fun i=>wlk n 1 [i]))) 5 (fun _=>5) (fun t=>t.2.1=t.1/\t.1<=n) (0,0,b) ⟨rfl,Qn _⟩ (Qd _) rfl [] rfl (kps) (kps) ?_
     rintro ⟨j,i,b'⟩ ⟨hi,hj⟩
     dsimp only at hi hj
     subst hi
     by_cases hl2:j<n
     ·have hw2:Qa Qb ((j:Int)+1)=((j+1:Nat):Int):=W_eq (by omega) (by omega)
      dsimp only
      rw [Zd9 hl2,Td]
      by_cases hkj:(k:Int)=(j:Int)
      ·rw [if_pos hkj,Wy]
       refine bs.yv Zc hI (sx:=Xu) ?_
       repeat'(first|refine wk3 ?_|(refine wk2 ?_ ?_<;>intro _)|refine wk4 ?_|fail);all_goals(conv=>whnf)
       exact Ql ⟨(j+1,Qa Qb ((j:Int)+1),b'),[],rfl,kps,kps,rfl,⟨hw2,by omega⟩,by dsimp only; omega⟩
      ·rw [if_neg hkj]
       refine bs.yv Zc hI (sx:=Xu) ?_
       repeat'(first|refine wk3 ?_|(refine wk2 ?_ ?_<;>intro _)|refine wk4 ?_|fail);all_goals(conv=>whnf)
       refine bs.ysv (sx:=Xu) Zc hI Tryz.func143 (by kernel_rfl) rfl (by kernel_rfl) ?_
       conv=>whnf
       refine Hf ⟨rfl,rfl,.same rfl,(fun h=>by cases h),?_,?_⟩
       ·conv=>whnf
        repeat'(first|refine wk3 ?_|(refine wk2 ?_ ?_<;>intro _)|refine wk4 ?_|fail);all_goals(conv=>whnf)
        exact Ql ⟨(j+1,Qa Qb ((j:Int)+1),I j),[],rfl,kps,kps,rfl,⟨hw2,by omega⟩,by dsimp only; omega⟩
       ·repeat'(first|refine wk3 ?_|(refine wk2 ?_ ?_<;>intro _)|refine wk4 ?_|fail);all_goals(conv=>whnf)
        exact Ql (.inr rfl)
     ·dsimp only
      rw [Zgq (k:=j) (by omega),Hl,Wy]
      refine bs.yv Zc hI (sx:=Xu) ?_
      repeat'(first|refine wk3 ?_|(refine wk2 ?_ ?_<;>intro _)|refine wk4 ?_|fail);all_goals(conv=>whnf)
      exact Ql ⟨(k+1,Qa Qb ((k:Int)+1),m+2,I k,b'),[(3,3)],rfl,kps,kps,rfl,⟨hw,by omega⟩,by dsimp only; omega⟩
    ·repeat'(first|refine wk3 ?_|(refine wk2 ?_ ?_<;>intro _)|refine wk4 ?_|fail);all_goals(conv=>whnf)
     exact Ql (.inr rfl)
  ·dsimp only
   rw [Zgq (by omega)]
   rcases m with _|_|m
   all_goals
    refine bs.yv Zc hI (sx:=Xu) ?_
    repeat'(first|refine wk3 ?_|(refine wk2 ?_ ?_<;>intro _)|refine wk4 ?_|fail);all_goals(conv=>whnf)
    exact Ql (.inl rfl)
 ·repeat'(first|refine wk3 ?_|(refine wk2 ?_ ?_<;>intro _)|refine wk4 ?_|fail);all_goals(conv=>whnf)
  exact Ql (.inr rfl)
def extL (m:Nat) (L:List Int):List (List Int):=(rngI 0 m).flatMap fun i=>if L.getLast?=some i then [] else [L++[i]]
def bfsL (m:Nat):Nat->List (List Int)
 | 0=>[[]]
 | n+1=>(bfsL m n).flatMap (extL m)
def lev (m:Nat):Nat->List Int->List (List Int)
 | 0,L=>[L]
 | n+1,L=>(extL m L).flatMap (lev m n)
theorem Zs1 (m:Nat):∀ (n:Nat) (L:List Int),lev m (n+1) L=(lev m n L).flatMap (extL m)
 | 0,L=>by simp [lev]
 | n+1,L=>by
  rw [lev,lev,Fp]
  congr 1
  funext L'
  exact Zs1 m n L'
theorem Zy4 (m:Nat):∀ n,bfsL m n=lev m n []
 | 0=>rfl
 | n+1=>by rw [Zs1,bfsL,Zy4 m n]
theorem Zkn {α β:Type} (f g:α->List β):∀ l:List α,(l.flatMap fun x=>f x++g x).Perm (l.flatMap f++l.flatMap g)
 | []=>.nil
 | a::l=>by
  simp only [Td]
  refine ((Nv _).append (Zkn f g l)).trans ?_
  rw [Qs,Qs]
  refine (Nv _).append ?_
  rw [<-Qs,<-Qs]
  exact List.perm_append_comm.append (Nv _)
theorem flatMap_nil {α β:Type}:∀ l:List α,(l.flatMap fun _=>([]:List β))=[]
 | []=>rfl
 | a::l=>by rw [Td,flatMap_nil l]; rfl
theorem Zio {α β γ:Type} (f:α->β->List γ) (b:List β):∀ a:List α,(a.flatMap fun x=>b.flatMap fun y=>f x y).Perm (b.flatMap fun y=>a.flatMap fun x=>f x y)
 | []=>by simp [flatMap_nil]
 | x::a=>by
  simp only [Td]
  exact ((Nv _).append (Zio f b a)).trans (Zkn _ _ b).symm
theorem Zip {α β:Type} {f g:α->List β}:∀ {l:List α},(∀ x∈l,(f x).Perm (g x))->(l.flatMap f).Perm (l.flatMap g)
 | [],_=>.nil
 | a::l,h=>by
  simp only [Td]
  exact (h a (by simp)).append (Zip fun x hx=>h x (by simp [hx]))
theorem Ydo (m o:Nat) (L:List Int):wlk m (o+1) L=L::(extL m L).flatMap (wlk m o):=by
 rw [wlk,extL,Fp]
 congr 2
 funext i
 split<;>simp
theorem Zvl (m:Nat):∀ (o:Nat) (L:List Int),(wlk m o L).Perm ((Sm (o+1)).flatMap fun k=>lev m k L)
 | 0,L=>by simp [wlk,lev]
 | o+1,L=>by
  rw [Ydo,List.range_succ_eq_map,Td]
  show (L::_).Perm ([L]++_)
  refine List.Perm.cons L ?_
  refine (Zip fun L' _=>Zvl m o L').trans ?_
  refine (Zio _ _ _).trans ?_
  rw [List.flatMap_map]
  exact .refl _
theorem Zvm (m o:Nat):(wlk m o []).Perm ((Sm (o+1)).flatMap (bfsL m)):=by
 have:bfsL m=fun k=>lev m k []:=funext fun k=>Zy4 m k
 rw [this]
 exact Zvl m o []
theorem Zsn {m:Nat} {i:Int} (h:i∈rngI 0 m):0<=i/\i<m:=by
 unfold rngI at h
 obtain ⟨k,hk,rfl⟩:=List.mem_map.1 h
 have:=List.mem_range'_1.1 hk
 omega
structure Wok (m:Nat) (L:List Int) (n:Nat):Prop where
 len:L.length<=n
 mem:∀ i∈L,0<=i/\i<m
theorem Zvk (m:Nat):∀ (o:Nat) (L:List Int) (n:Nat),Wok m L n->∀ x∈wlk m o L,Wok m x (n+o)
 | 0,L,n,h,x,hx=>by
  rw [wlk] at hx
  rw [Wg.1 hx]; exact h
 | o+1,L,n,h,x,hx=>by
  rw [wlk] at hx
  rcases Rf.1 hx with rfl|hx
  ·exact ⟨Qu h.len (Nat.le_add_right _ _),h.mem⟩
  ·obtain ⟨i,hi,hx⟩:=Ni.1 hx
   split at hx
   ·simp at hx
   ·have:=Zvk m o (L++[i]) (n+1) ⟨by have:=h.len; simp; omega,fun j hj=>by
     rcases List.mem_append.1 hj with hj|hj
     ·exact h.mem j hj
     ·rw [Wg.1 hj]; exact Zsn hi⟩ x hx
    rw [show n+(o+1)=n+1+o by omega]
    exact this
def fndP (f:List Int->Option Pth) (m o:Nat):List Pth:=(wlk m o []).filterMap f
def refL (f:List Int->Option Pth) (m o:Nat):List Pth:=(((Sm (o+1)).flatMap (bfsL m)).filterMap f).foldl putL []
theorem Zkk:∀ (l a:List Pth),a.Pairwise (fun a b=>ordP a b<=0)->(l.foldl putL a).Pairwise (fun a b=>ordP a b<=0)/\(l.foldl putL a).Perm (l++a)
 | [],a,h=>⟨h,.refl _⟩
 | p::l,a,h=>by
  obtain ⟨q1,q2⟩:=Zkk l (putL a p) (Zq1 h)
  refine ⟨q1,q2.trans ?_⟩
  refine ((Nv l).append (Zcj a p)).trans ?_
  exact List.perm_middle
theorem Zjv (f:List Int->Option Pth) (m o:Nat):(refL f m o).Perm (fndP f m o):=by
 have:=(Zkk (((Sm (o+1)).flatMap (bfsL m)).filterMap f) [] .nil).2
 rw [Rz] at this
 exact this.trans ((Zvm m o).symm.filterMap f)
theorem Zqz (f:List Int->Option Pth) (m o:Nat):(refL f m o).Pairwise (fun a b=>ordP a b<=0):=(Zkk _ [] .nil).1
theorem Zly {f:List Int->Option Pth} (hf:∀ L p,f L=some p->p.ss=L) {m o:Nat} {ys:List Pth} (h1:ys.Perm (fndP f m o)) (h2:ys.Pairwise (fun a b=>¬ ordP b a<0)):ys=refL f m o:=by
 refine Zn9 (G:=fun p=>f p.ss=some p) (fun a b ha hb e=>?_) (h1.trans (Zjv f m o).symm) (fun a ha=>?_) (h2.imp fun {a b} h=>?_) (Zqz f m o)
 ·rw [e,hb] at ha; cases ha; rfl
 ·have:=h1.subset ha
  obtain ⟨L,hL,e⟩:=Nj.1 this
  rw [hf L a e]; exact e
 ·have:=Zbk a b; omega
theorem Yik (n o:Int):PCall Tryz.prog 113 [I n,I o] ⟨.func 142 [] [.ipt [I o],.ipt [I n]],[]⟩:=by
 refine PCall.frzFns (rows:=[(1,[I n]),(1,[I o])]) (ks:=[(1,[I o]),(0,[I n])]) (by
  intro q hq
  simp only [Rf,List.not_mem_nil,or_false] at hq
  rcases hq with rfl|rfl<;>exact ⟨_,rfl⟩) ?_
 refine bs.pv (sx:=nos) Zc Tryz.func113 (by kernel_rfl) (by kernel_rfl) rfl ?_
 repeat'(first|refine wk3 ?_|(refine wk2 ?_ ?_<;>intro _)|refine wk4 ?_|fail);all_goals(conv=>whnf)
 exact Yr [0,1] rfl rfl rfl
def wlkB (m:Nat):Nat->Nat
 | 0=>1
 | o+1=>1+m*wlkB m o
theorem Yx {α β:Type} {f:α->List β} {B:Nat}:∀ l:List α,(∀ x∈l,(f x).length<=B)->(l.flatMap f).length<=l.length*B
 | [],_=>by simp
 | a::l,h=>by
  have h1:=h a (by simp)
  have h2:=Yx l fun x hx=>h x (by simp [hx])
  rw [Td,Qp,Sb,Nat.add_mul,Nat.one_mul]
  omega
theorem Zql (m:Nat):∀ (o:Nat) (L:List Int),(wlk m o L).length<=wlkB m o
 | 0,L=>by simp [wlk,wlkB]
 | o+1,L=>by
  have:=Yx (f:=fun i=>if L.getLast?=some i then [] else wlk m o (L++[i])) (B:=wlkB m o) (rngI 0 m) fun i _=>by
   split
   ·simp
   ·exact Zql m o _
  rw [wlk,Sb,wlkB]
  have hl:(rngI 0 m).length=m:=by simp [rngI]
  rw [hl] at this
  omega
theorem Ya5 (f:List Int->Option Pth) {m o:Nat} (hm:m<900) (ho:o<=2):(fndP f m o).length<900000:=by
 have h1:(fndP f m o).length<=(wlk m o []).length:=Nb _ _
 have h2:=Zql m o []
 have h3:wlkB m o<=1+m+m*m:=by
  obtain rfl|rfl|rfl:o=0\/o=1\/o=2:=by omega
  ·simp [wlkB]; omega
  ·simp [wlkB]
  ·simp [wlkB,Nat.mul_add]; omega
 have h4:m*m<=899*899:=Gp (by omega) (by omega)
 omega
theorem Ybb {P:Program} {f:FuncId} {fn:Func} (hf:P.funcs[f]?=some fn) (h1:(fn.name == "runtime.NumGoroutine")=false) (h2:fn.body.isNone=false) (args:Array Value) (w:World):(callFunc f args).run P w = .ok (.enter f args) w:=by
 have q2' : ¬ fn.name = "runtime.NumGoroutine" := by simpa using h1
 have q3' : ¬ fn.body=none:=by intro h; rw [h] at h2; simp at h2
 simp [callFunc,hf,q2',q3']
theorem Ygp:FnOK Tryz.prog 114:=FnOK.of Tryz.func114 (by kernel_rfl) (by kernel_rfl)
abbrev gcP (p:Pth):List AV:=[.isl 1 (nl p.ss),.isl 4 (p.ps.map hp4),I p.sq]
def Yh8:FuncId->Bool:=fun f=>Nat.beq f 114
noncomputable def kAll (h:Hal) (s:Stg) (fx fy fz tx ty tz n:Int):PC:=ins 24 (oneA [h.av,s.av,.agg [I fx,I fy,I fz,I tx,I ty,I tz,I n]] ⟨I 0,[]⟩) (ins 112 (oneA [h.av] ⟨.tup [.isl 1 (sl (surf h)),I 0],[]⟩) (ins 113 (oneA [I (sl (surf h)).length,I n] ⟨.func 142 [] [.ipt [I n],.ipt [I (nsN h:Nat)]],[]⟩) pt0))
theorem d55 {h:Hal} (hk:h.ok) {s:Stg} (hs:s.few) (hS:SortsK Tryz.prog 114 3) (a:Ask) (e:askE h s a=0) (hn:a.n<3) (hN:nsN h<900) :
  PCall Tryz.prog 55 [h.av,s.av,a.av] ⟨.tup [.isl 3 ((refL (Xz h s (qF a) (qT a)) (nsN h) a.n.toNat).map gcP),I 0],[]⟩:=by
 have A:=Xj e
 have he:=Zgm A.e0
 have h24:=d24 hk hs a
 rw [e] at h24
 have h112:=c64 hk
 rw [if_pos he,he] at h112
 obtain ⟨fx,fy,fz,tx,ty,tz,n⟩:=a
 dsimp only at hn
 have hkA:PCOK Tryz.prog (kAll h s fx fy fz tx ty tz n):=Zb8 h24 (Zb8 h112 (Zb8 (by rw [<-Zzz]; exact Yik _ n) Zc))
 unfold kAll at hkA
 have o1:=Zak [h.av,s.av,.agg [I fx,I fy,I fz,I tx,I ty,I tz,I n]] ⟨I 0,[]⟩
 have o2:=Zak [h.av] ⟨.tup [.isl 1 (sl (surf h)),I 0],[]⟩
 have o3:=Zak [I (sl (surf h)).length,I n] ⟨.func 142 [] [.ipt [I n],.ipt [I (nsN h:Nat)]],[]⟩
 refine PCall.freeze (res:=if (refL (Xz h s (fx,fy,fz) (tx,ty,tz)) (nsN h) n.toNat)=[] then ⟨.tup [.nils,I 0],[]⟩ else ⟨.tup [.asl 0 0 (refL (Xz h s (fx,fy,fz) (tx,ty,tz)) (nsN h) n.toNat).length,I 0],[(3,(refL (Xz h s (fx,fy,fz) (tx,ty,tz)) (nsN h) n.toNat).map gcP)]⟩) ?_ ?_
 rotate_left
 ·split<;>rename_i hre
  ·rw [hre]; exact ⟨rfl,⟨rfl,rfl⟩,trivial⟩
  ·refine ⟨⟨rfl,rfl,?_⟩,⟨rfl,rfl⟩,trivial⟩
   exact (Re _).symm
 refine bs.pv (sx:=Yh8) hkA Tryz.func55 (by kernel_rfl) (by kernel_rfl) (by split<;>rfl) ?_
 repeat'(first|refine wk3 ?_|(refine wk2 ?_ ?_<;>intro _)|refine wk4 ?_|fail);all_goals(conv=>whnf)
 obtain ⟨f,hf⟩:∃ f,f=Xz h s (fx,fy,fz) (tx,ty,tz):=⟨_,rfl⟩
 have hfs:∀ L p,f L=some p->p.ss=L:=fun L p hp=>by rw [hf] at hp; exact Ziz hp
 have hfr:∀ L:List Int,Wok (nsN h) L 2->Zqg Tryz.prog 65 [.agg (stgL h s),.agg [I fx,I fy,I fz,I tx,I ty,I tz,I n],.isl 1 (nl1 L)] (ansP (f L)):=fun L hL=>by
  rw [hf]
  exact d65f hk hs e (by have:=hL.len; omega) (fun i hi=>by have:=hL.mem i hi; rw [Xq] at this; exact this)
 rw [<-hf]
 have hn2:n.toNat<=2:=by omega
 have hwok:∀ L∈wlk (nsN h) n.toNat [],Wok (nsN h) L 2:=fun L hL=>by
  have:=Zvk (nsN h) n.toNat [] 0 ⟨Qd _,by simp⟩ L hL
  exact ⟨by have:=this.len; omega,this.mem⟩
 have hcnt:=Ya5 f (m:=nsN h) (o:=n.toNat) hN hn2
 have hit:Zqh Tryz.prog 142 [] [.ipt [I n],.ipt [I (nsN h:Nat)]] (lsX (wlk (nsN h) n.toNat [])):=by
  have hN:nsN h<1000:=by omega
  have hn0:=A.n.1
  dsimp only at hn0
  obtain rfl|rfl|rfl:n=0\/n=1\/n=2:=by omega
  ·exact Yex _ hN
  ·exact Yew _ hN
  ·exact Yev _ hN
 refine Rg.ren (env2:=[(5,.ptr 2 0 0),(11,.ptr 3 0 0),(12,.ptr 4 0 0),(35,.func 142 [] [.ipt [I n],.ipt [I (nsN h:Nat)]])]) (σ2:=⟨[(4,.row 11 [stgL h s] true false),(3,.row 1 [[.nils]] true false),(2,.row 7 [[I fx,I fy,I fz,I tx,I ty,I tz,I n]] true false)],5⟩) (Ren.of [] rfl (kps) (kps)) ?_
 refine rngT hit rfl rfl rfl rfl (Zwe (S:=Nat × Nat × List (List AV)) (fun t=>gz 5 3 t.1 t.2.2 [(4,.row 11 [stgL h s] true false),(3,.row 1 [[gv 5 t.1 t.2.1]] true false),(2,.row 7 [[I fx,I fy,I fz,I tx,I ty,I tz,I n]] true false)]) 5 (fun t=>nm2 5 6 t.1)
  (fun xs t=>∃ (Ls:List (List Int)) (ds:List Pth),xs=lsX Ls/\(∀ L∈Ls,Wok (nsN h) L 2)/\t.1=ds.length/\t.2.1=t.2.2.length/\t.2.2=ds.map gcP/\ds++Ls.filterMap f=fndP f (nsN h) n.toNat) ?_ ?_ _ (0,0,[]) ⟨wlk (nsN h) n.toNat [],[],rfl,?_,rfl,rfl,rfl,rfl⟩)
 ·rintro x xs ⟨k,len,els⟩ ⟨Ls,ds,hxs,hok,hkd,hlen,hels,hfd⟩
  dsimp only at hkd hlen hels ⊢
  cases Ls with
  | nil=>cases hxs
  | cons L Ls =>
   cases hxs
   refine ⟨⟨rfl,rfl⟩,fun ys hys hsl=>?_⟩
   obtain ⟨y,rfl⟩:∃ y,ys = #[y]:=by
    obtain ⟨l⟩:=ys
    match l,hys with
    | [y],_=>exact ⟨y,rfl⟩
   obtain ⟨sa,sn,sc,rfl⟩:=hsl 0 _ rfl
   have hr:=hfr L (hok L (by simp))
   rw [List.filterMap_cons] at hfd
   have e4:els.length<900000:=by
    rw [<-hfd,Qp] at hcnt
    rw [hels,Re]; omega
   cases hp:f L with
   | none =>
    rw [hp] at hfd hr
    cases k with
    | zero =>
     refine bs.av (sx:=nos) hkA ?_
     conv=>whnf
     repeat'(first|refine wk3 ?_|(refine wk2 ?_ ?_<;>intro _)|refine wk4 ?_|fail);all_goals(conv=>whnf)
     refine Zfd (Zi8 (Zdn (Zg8 (sx:=nos) bs.hT bs.hok hkA) rfl ?_))
     conv=>whnf
     repeat'(first|refine wk3 ?_|(refine wk2 ?_ ?_<;>intro _)|refine wk4 ?_|fail);all_goals(conv=>whnf)
     refine Qch ⟨[.agg (stgL h s),.agg [I fx,I fy,I fz,I tx,I ty,I tz,I n],.isl 1 (nl1 L)],_,⟨.inl rfl,.inl rfl,.inr ⟨⟨sa,sn,sc,rfl,rfl⟩,rfl⟩,trivial⟩,rfl,hr,?_⟩
     conv=>whnf
     repeat'(first|refine wk3 ?_|(refine wk2 ?_ ?_<;>intro _)|refine wk4 ?_|fail);all_goals(conv=>whnf)
     refine bs.av (sx:=nos) hkA ?_
     conv=>whnf
     repeat'(first|refine wk3 ?_|(refine wk2 ?_ ?_<;>intro _)|refine wk4 ?_|fail);all_goals(conv=>whnf)
     exact Ql ⟨(0,len,els),[],rfl,kps,Ls,ds,rfl,fun L hL=>hok L (by simp [hL]),hkd,hlen,hels,hfd⟩
    | succ k =>
     refine bs.av (sx:=nos) hkA ?_
     conv=>whnf
     repeat'(first|refine wk3 ?_|(refine wk2 ?_ ?_<;>intro _)|refine wk4 ?_|fail);all_goals(conv=>whnf)
     refine Zfd (Zi8 (Zdn (Zg8 (sx:=nos) bs.hT bs.hok hkA) rfl ?_))
     conv=>whnf
     repeat'(first|refine wk3 ?_|(refine wk2 ?_ ?_<;>intro _)|refine wk4 ?_|fail);all_goals(conv=>whnf)
     refine Qch ⟨[.agg (stgL h s),.agg [I fx,I fy,I fz,I tx,I ty,I tz,I n],.isl 1 (nl1 L)],_,⟨.inl rfl,.inl rfl,.inr ⟨⟨sa,sn,sc,rfl,rfl⟩,rfl⟩,trivial⟩,rfl,hr,?_⟩
     conv=>whnf
     repeat'(first|refine wk3 ?_|(refine wk2 ?_ ?_<;>intro _)|refine wk4 ?_|fail);all_goals(conv=>whnf)
     refine bs.av (sx:=nos) hkA ?_
     conv=>whnf
     repeat'(first|refine wk3 ?_|(refine wk2 ?_ ?_<;>intro _)|refine wk4 ?_|fail);all_goals(conv=>whnf)
     exact Ql ⟨(k+1,len,els),[(5,5)],rfl,kps,Ls,ds,rfl,fun L hL=>hok L (by simp [hL]),hkd,hlen,hels,hfd⟩
   | some p =>
    rw [hp] at hfd hr
    cases k with
    | zero =>
     refine bs.av (sx:=nos) hkA ?_
     conv=>whnf
     repeat'(first|refine wk3 ?_|(refine wk2 ?_ ?_<;>intro _)|refine wk4 ?_|fail);all_goals(conv=>whnf)
     refine Zfd (Zi8 (Zdn (Zg8 (sx:=nos) bs.hT bs.hok hkA) rfl ?_))
     conv=>whnf
     repeat'(first|refine wk3 ?_|(refine wk2 ?_ ?_<;>intro _)|refine wk4 ?_|fail);all_goals(conv=>whnf)
     refine Qch ⟨[.agg (stgL h s),.agg [I fx,I fy,I fz,I tx,I ty,I tz,I n],.isl 1 (nl1 L)],_,⟨.inl rfl,.inl rfl,.inr ⟨⟨sa,sn,sc,rfl,rfl⟩,rfl⟩,trivial⟩,rfl,hr,?_⟩
     conv=>whnf
     repeat'(first|refine wk3 ?_|(refine wk2 ?_ ?_<;>intro _)|refine wk4 ?_|fail);all_goals(conv=>whnf)
     refine bs.av (sx:=nos) hkA ?_
     conv=>whnf
     repeat'(first|refine wk3 ?_|(refine wk2 ?_ ?_<;>intro _)|refine wk4 ?_|fail);all_goals(conv=>whnf)
     exact Ql ⟨(1,_,_),[(5,7)],rfl,kps,Ls,ds++[p],rfl,fun L hL=>hok L (by simp [hL]),by rw [Qp,<-hkd]; rfl,rfl,by rw [Qv.1 hkd.symm]; rfl,by rw [Qs]; exact hfd⟩
    | succ k =>
     refine bs.av (sx:=nos) hkA ?_
     conv=>whnf
     repeat'(first|refine wk3 ?_|(refine wk2 ?_ ?_<;>intro _)|refine wk4 ?_|fail);all_goals(conv=>whnf)
     refine Zfd (Zi8 (Zdn (Zg8 (sx:=nos) bs.hT bs.hok hkA) rfl ?_))
     conv=>whnf
     repeat'(first|refine wk3 ?_|(refine wk2 ?_ ?_<;>intro _)|refine wk4 ?_|fail);all_goals(conv=>whnf)
     refine Qch ⟨[.agg (stgL h s),.agg [I fx,I fy,I fz,I tx,I ty,I tz,I n],.isl 1 (nl1 L)],_,⟨.inl rfl,.inl rfl,.inr ⟨⟨sa,sn,sc,rfl,rfl⟩,rfl⟩,trivial⟩,rfl,hr,?_⟩
     conv=>whnf
     repeat'(first|refine wk3 ?_|(refine wk2 ?_ ?_<;>intro _)|refine wk4 ?_|fail);all_goals(conv=>whnf)
     refine bs.av (sx:=nos) hkA ?_
     conv=>whnf
     repeat'(first|refine wk3 ?_|(refine wk2 ?_ ?_<;>intro _)|refine wk4 ?_|fail);all_goals(conv=>whnf)
     exact Ql ⟨(k+1+1,_,_),[(5,8)],rfl,kps,Ls,ds++[p],rfl,fun L hL=>hok L (by simp [hL]),by rw [Qp,<-hkd]; rfl,by exact List.length_append.symm,by rw [List.map_append,<-hels]; rfl,by rw [Qs]; exact hfd⟩
 ·rintro ⟨k,len,els⟩ ⟨Ls,ds,hxs,hok,hkd,hlen,hels,hfd⟩
  dsimp only at hkd hlen hels ⊢
  cases Ls with
  | cons=>cases hxs
  | nil =>
   rw [List.filterMap_nil,Rz] at hfd
   have hds:∀ d∈ds,d.ss.length<1000000:=fun d hd=>by
    rw [hfd] at hd
    obtain ⟨L,hL,hp⟩:=Nj.1 hd
    rw [hfs L d hp]
    have:=(hwok L hL).len; omega
   rw [<-hfd] at hcnt
   cases k with
   | zero =>
    obtain rfl:ds=[]:=Qv.1 hkd.symm
    have hre:refL f (nsN h) n.toNat=[]:=(Zly hfs (ys:=[]) (by rw [<-hfd]) .nil).symm
    rw [hre,if_pos rfl]
    conv=>whnf
    repeat'(first|refine wk3 ?_|(refine wk2 ?_ ?_<;>intro _)|refine wk4 ?_|fail);all_goals(conv=>whnf)
    refine Zz2 Ygp hS ?_
    conv=>whnf
    repeat'(first|refine wk3 ?_|(refine wk2 ?_ ?_<;>intro _)|refine wk4 ?_|fail);all_goals(conv=>whnf)
    exact Zg rfl rfl
   | succ k =>
    rw [hels,Re] at hlen
    subst hels hlen
    conv=>whnf
    repeat'(first|refine wk3 ?_|(refine wk2 ?_ ?_<;>intro _)|refine wk4 ?_|fail);all_goals(conv=>whnf)
    refine Zz1 Ygp hS (by decide) (Ybb Tryz.func115 (by kernel_rfl) (by kernel_rfl)) gcP (fun _=>rfl) (fun _=>rfl) (fun _=>rfl) ordP (fun a ha b hb=>Yag (d115 (hds a ha) (hds b hb))) Yak (by omega) rfl fun ys hp hs=>?_
    obtain rfl:=Zly hfs (by rw [<-hfd]; exact hp) hs
    have hyl:=hp.length_eq
    generalize refL f (nsN h) n.toNat=ys at *
    rw [if_neg (by intro h0; rw [h0,<-hkd] at hyl; cases hyl)]
    conv=>whnf
    repeat'(first|refine wk3 ?_|(refine wk2 ?_ ?_<;>intro _)|refine wk4 ?_|fail);all_goals(conv=>whnf)
    exact Yr [5] rfl (by rw [hyl]; rfl) rfl
 ·exact hwok
theorem Zr8 {n i:Int} (hi:within i 0 n=true):∀ (l:List Int) (q:Option Int),wkG n q l=0->(l.getLast?.or q)≠some i->wkG n q (l++[i])=0
 | [],q,_,hq=>by
  have hq:q≠some i:=hq
  show wkG n q [i]=0
  rw [wkG,if_pos hi,if_neg hq]; rfl
 | x::l,q,h,hq=>by
  rw [wkG] at h
  rw [List.cons_append,wkG]
  split at h
  ·rename_i h1
   rw [if_pos h1]
   split at h
   ·cases h
   ·rename_i h2
    rw [if_neg h2]
    refine Zr8 hi l (some x) h ?_
    cases l with
    | nil=>exact hq
    | cons y l =>
     rw [List.getLast?_cons_cons] at hq
     cases hl:(y::l).getLast? with
     | none=>simp at hl
     | some z=>rw [hl] at hq; exact hq
  ·cases h
theorem Zqk (m:Nat):∀ (o:Nat) (L:List Int),wkG ((m:Int)-1) none L=0->∀ x∈wlk m o L,wkG ((m:Int)-1) none x=0
 | 0,L,h,x,hx=>by
  rw [wlk] at hx
  rw [Wg.1 hx]; exact h
 | o+1,L,h,x,hx=>by
  rw [wlk] at hx
  rcases Rf.1 hx with rfl|hx
  ·exact h
  ·obtain ⟨i,hi,hx⟩:=Ni.1 hx
   split at hx
   ·simp at hx
   ·rename_i hl
    have hr:=Zsn hi
    refine Zqk m o (L++[i]) (Zr8 (within_iff.2 (by omega)) L none h ?_) x hx
    rw [Option.or_none]; exact hl
theorem Ydy {a b c x y z:Int} (h1:Near 45000 (a,b,c)) (h2:Near 5000 (x,y,z)):sqV a b c x y z=(a-x)*(a-x)+(b-y)*(b-y)+(c-z)*(c-z)/\sqV a b c x y z<=24300000000:=by
 obtain ⟨p1,p2,p3⟩:=h1
 obtain ⟨r1,r2,r3⟩:=h2
 dsimp only at p1 p2 p3 r1 r2 r3
 have k:∀ u v:Int,(-45000<=u/\u<=45000)->(-5000<=v/\v<=5000)->Qa Qb (u-v)=u-v/\(0<=(u-v)*(u-v)/\(u-v)*(u-v)<=2500000000)/\Qa Qb (Qa Qb (u-v)*Qa Qb (u-v))=(u-v)*(u-v):=fun u v hu hv=>by
  have e1:Qa Qb (u-v)=u-v:=W_eq (by omega) (by omega)
  have e2:0<=(u-v)*(u-v)/\(u-v)*(u-v)<=2500000000:=by
   generalize hd:u-v=d
   have hd1 : -50000<=d:=by omega
   have hd2:d<=50000:=by omega
   constructor
   ·rcases Int.le_total 0 d with h|h
    ·exact Rj h h
    ·have:=Rj (show 0 <= -d by omega) (show 0 <= -d by omega)
     rwa [Qah] at this
   ·have:=Rj (show 0<=50000-d by omega) (show 0<=50000+d by omega)
    have e:(50000-d)*(50000+d)=2500000000-d*d:=by rw [Int.mul_add,My,My]; omega
    omega
  exact ⟨e1,e2,by rw [e1]; exact W_eq (by omega) (by omega)⟩
 obtain ⟨_,a1,a2⟩:=k a x p1 r1
 obtain ⟨_,b1,b2⟩:=k b y p2 r2
 obtain ⟨_,c1,c2⟩:=k c z p3 r3
 unfold sqV
 rw [a2,b2,c2]
 rw [W_eq (n:=(a-x)*(a-x)+(b-y)*(b-y)) (by omega) (by omega),W_eq (by omega) (by omega)]
 exact ⟨rfl,by omega⟩
theorem Zb3 {d:Int} (h:d≠0):1<=d*d:=by
 rcases Int.lt_trichotomy d 0 with h1|h1|h1
 ·have:=Qay (show (1:Int) <= -d by omega) (show (1:Int) <= -d by omega) (by omega) (by omega)
  rw [Qah] at this; omega
 ·exact absurd h1 h
 ·have:=Qay (show (1:Int)<=d by omega) (show (1:Int)<=d by omega) (by omega) (by omega)
  omega
theorem Zm1 (d:Int):0<=d*d:=by
 by_cases h:d=0
 ·subst h; omega
 ·have:=Zb3 h; omega
theorem Yh7 {a b c x y z:Int} (h:¬ (a=x/\b=y/\c=z)):1<=(a-x)*(a-x)+(b-y)*(b-y)+(c-z)*(c-z):=by
 have h1:=Zm1 (a-x)
 have h2:=Zm1 (b-y)
 have h3:=Zm1 (c-z)
 by_cases e1:a=x
 ·by_cases e2:b=y
  ·have:=Zb3 (d:=c-z) (by intro k; exact h ⟨e1,e2,by omega⟩); omega
  ·have:=Zb3 (d:=b-y) (by omega); omega
 ·have:=Zb3 (d:=a-x) (by omega); omega
theorem Yf2 (x:Int):0<=sgn x*sgn x:=Zm1 _
theorem Yaj {h:Hal} {s:Stg} (g:Sit h s) (e0:serr h s=0) {q0 q1:Pl3} (hf:Near 5000 q0) (ht:Near 5000 q1) (hne:q0≠q1) {ns:List Int} (hl:ns.length<=4) (hi:∀ n∈ns,0<=n/\n<nsur h) {p:Pth} (e:Xz h s q0 q1 ns=some p):1<=p.sq/\p.sq<=24300000000:=by
 have hn:=Zi1 g hf hl (Zv6 hi) ns.length (Qd _)
 have hn:Near 45000 (imA (im1 h s) q0 ns ns.length):=Zj2 (by omega) hn
 have hs:imA (im1 h s) q0 ns ns.length≠q1:=by
  intro hq
  rw [Zda] at e
  by_cases h0:ns=[]
  ·subst h0
   exact hne hq
  ·have hp:0<ns.length:=List.length_pos_iff.2 h0
   have ht2:=Zi0 (f:=im1 h s) (q:=q0) (ns:=ns) (k:=ns.length-1) (by omega)
   rw [show ns.length-1+1=ns.length by omega,List.take_of_length_le (by rw [Zad]; exact Qd _)] at ht2
   rw [ht2,goP,hq] at e
   have hc:=Zpx g e0 (hi _ (Qt (show ns.length-1<ns.length by omega))) (q:=q1) (Zj2 (by omega) ht) (to:=pnt q1) (Zjy ht)
   have hz:(fP h s (ns[ns.length-1]'(by omega)) q1 (pnt q1)).2≠0:=by
    show (crsA h s ⟨_,q1.1,q1.2.1,q1.2.2,pnt q1⟩).2≠0
    rw [hc.2.2.1]
    unfold Zag
    have:crF (Zh h s (ns[ns.length-1]'(by omega))) ⟨ns[ns.length-1]'(by omega),q1.1,q1.2.1,q1.2.2,pnt q1⟩=crG (Zh h s (ns[ns.length-1]'(by omega))) ⟨ns[ns.length-1]'(by omega),q1.1,q1.2.1,q1.2.2,pnt q1⟩:=by
     unfold crF crG pnt
     dsimp only
     rw [Int.mul_one]
    rw [this,if_pos (Yf2 _)]
    show (12:Int)≠0
    decide
   rw [if_neg hz] at e
   cases e
 rw [Zda] at e
 split at e
 ·cases e
 ·split at e
  ·cases e
   obtain ⟨r1,r2⟩:=Ydy (a:=(imA (im1 h s) q0 ns ns.length).1) (b:=(imA (im1 h s) q0 ns ns.length).2.1) (c:=(imA (im1 h s) q0 ns ns.length).2.2) (x:=q1.1) (y:=q1.2.1) (z:=q1.2.2) hn ht
   dsimp only
   refine ⟨?_,r2⟩
   rw [r1]
   refine Yh7 ?_
   rintro ⟨k1,k2,k3⟩
   exact hs (Prod.ext k1 (Prod.ext k2 k3))
  ·cases e
theorem Yba (l:List Pt4):eqP l l=true:=by
 have:=Zv9 ⟨[],l,0⟩
 unfold same at this
 simp only [Qc] at this
 exact this.2.2
theorem Yh0 {a:Ask} (h:a.same=false):qF a≠qT a:=by
 intro e
 have e1:a.fx=a.tx:=congrArg (·.1) e
 have e2:a.fy=a.ty:=congrArg (·.2.1) e
 have e3:a.fz=a.tz:=congrArg (·.2.2) e
 unfold Ask.same at h
 simp [e1,e2,e3] at h
theorem Yci {h:Hal} {l:List Int} (hl:l.length<=4) (hw:wkG ((nsN h:Int)-1) none l=0):suE h l=0:=by
 unfold suE
 rw [if_neg (by omega),<-Xq]
 exact hw
theorem Zwj {h:Hal} (hk:h.ok) {s:Stg} (hs:s.few) {a:Ask} (e:askE h s a=0) (hn:a.n<3) {p:Pth} (hp:p∈refL (Xz h s (qF a) (qT a)) (nsN h) a.n.toNat) :
  Xz h s (qF a) (qT a) p.ss=some p/\suE h p.ss=0/\p.ss.length<=2/\p.ps.length<=2/\cpE h s a p=0:=by
 have A:=Xj e
 have hn0:=A.n
 have h1:=(Zjv _ _ _).subset hp
 obtain ⟨L,hL,hf⟩:=Nj.1 h1
 obtain rfl:=Ziz hf
 have hw:=Zvk (nsN h) a.n.toNat [] 0 ⟨Qd _,by simp⟩ _ hL
 have hg:=Zqk (nsN h) a.n.toNat [] rfl _ hL
 have hl:p.ss.length<=a.n.toNat:=by have:=hw.len; omega
 have hsu:=Yci (by omega) hg
 have hps:=Zsv hf
 have hi:=(Zmz hsu).2
 have hsq:=Yaj (Zlz hk hs A.e0) A.e0 A.f A.t (Yh0 A.ne) (by omega) hi hf
 refine ⟨hf,hsu,by omega,by omega,?_⟩
 unfold cpE pthE
 rw [if_pos (show (if (p.ps.length:Int)=p.ss.length then (if 4<(p.ss.length:Int) then 8 else (if within p.sq 1 24300000000 then 0 else 2)) else 10)=(0:Int) by
  rw [if_pos (by omega),if_neg (by omega),if_pos (within_iff.2 hsq)]),if_pos hsu,if_pos (by omega)]
 unfold chkP
 rw [hf]
 dsimp only
 rw [if_pos ⟨rfl,Yba _⟩]
theorem Yco {h:Hal} (hk:h.ok) {s:Stg} (e:serr h s=0):nsN h<=18:=by
 have:=(Zko hk (Zgm e)).le
 unfold nsN; omega
theorem Yd2 (f:List Int->Option Pth) {m o:Nat} (hm:m<=18) (ho:o<=2):(refL f m o).length<=343:=by
 rw [(Zjv f m o).length_eq]
 have h1:(fndP f m o).length<=(wlk m o []).length:=Nb _ _
 have h2:=Zql m o []
 have h3:wlkB m o<=1+m+m*m:=by
  obtain rfl|rfl|rfl:o=0\/o=1\/o=2:=by omega
  ·simp [wlkB]; omega
  ·simp [wlkB]
  ·simp [wlkB,Nat.mul_add]; omega
 have h4:m*m<=18*18:=Gp hm hm
 omega
end Go.Proofs.YtdaliaafmcjikaaGreat
namespace Go.Proofs
open Go.Shelf
def Tryz.laysS114_ren:Go.Shelf.Ren:=⟨fun|6=>114|15=>145|14=>144|28=>206|29=>207|20=>198|21=>199|22=>200|23=>201|24=>202|25=>203|26=>204|27=>205|46=>271|47=>272|48=>273|49=>274|50=>275|57=>293|n=>n,fun|22=>102|24=>42|25=>191|3=>3|39=>240|0=>0|53=>286|55=>288|4=>4|46=>279|45=>278|50=>283|5=>5|9=>9|66=>337|70=>341|76=>355|77=>148|n=>n,fun|n=>n⟩
theorem Tryz.laysS114:Go.Proofs.SlLaysF0.n6 Tryz.prog Tryz.laysS114_ren:={
 mixed:=by kernel_rfl
 f6:=⟨Tryz.f114.name,by decide,Tryz.func114.trans (congrArg some (by kernel_rfl))⟩
 f14:=⟨Tryz.f144.name,by decide,Tryz.func144.trans (congrArg some (by kernel_rfl))⟩
 f15:=Tryz.func145.trans (congrArg some (by kernel_rfl))
 f20:=⟨Tryz.f198.name,by decide,Tryz.func198.trans (congrArg some (by kernel_rfl))⟩
 f21:=⟨Tryz.f199.name,by decide,Tryz.func199.trans (congrArg some (by kernel_rfl))⟩
 f22:=⟨Tryz.f200.name,by decide,Tryz.func200.trans (congrArg some (by kernel_rfl))⟩
 f23:=⟨Tryz.f201.name,by decide,Tryz.func201.trans (congrArg some (by kernel_rfl))⟩
 f24:=⟨Tryz.f202.name,by decide,Tryz.func202.trans (congrArg some (by kernel_rfl))⟩
 f25:=⟨Tryz.f203.name,by decide,Tryz.func203.trans (congrArg some (by kernel_rfl))⟩
 f26:=⟨Tryz.f204.name,by decide,Tryz.func204.trans (congrArg some (by kernel_rfl))⟩
 f27:=⟨Tryz.f205.name,by decide,Tryz.func205.trans (congrArg some (by kernel_rfl))⟩
 f28:=Tryz.func206.trans (congrArg some (by kernel_rfl))
 f29:=Tryz.func207.trans (congrArg some (by kernel_rfl))
 f46:=⟨Tryz.f271.name,by decide,Tryz.func271.trans (congrArg some (by kernel_rfl))⟩
 f47:=Tryz.func272.trans (congrArg some (by kernel_rfl))
 f48:=Tryz.func273.trans (congrArg some (by kernel_rfl))
 f49:=⟨Tryz.f274.name,by decide,Tryz.func274.trans (congrArg some (by kernel_rfl))⟩
 f50:=⟨Tryz.f275.name,by decide,Tryz.func275.trans (congrArg some (by kernel_rfl))⟩
 f57:=⟨Tryz.f293.name,by decide,Tryz.func293.trans (congrArg some (by kernel_rfl))⟩
 t0:=Tryz.underlying0
 a0:=Tryz.isAgg0
 z0:=Tryz.sizeOf0
 v0:=Tryz.zeroValue0
 t3:=Tryz.underlying3
 a3:=Tryz.isAgg3
 z3:=Tryz.sizeOf3
 v3:=Tryz.zeroValue3
 t4:=Tryz.underlying4
 a4:=Tryz.isAgg4
 z4:=Tryz.sizeOf4
 v4:=Tryz.zeroValue4
 t5:=Tryz.underlying5
 a5:=Tryz.isAgg5
 z5:=Tryz.sizeOf5
 v5:=Tryz.zeroValue5
 t9:=Tryz.underlying9
 a9:=Tryz.isAgg9
 z9:=Tryz.sizeOf9
 v9:=Tryz.zeroValue9
 t22:=Tryz.underlying102
 a22:=Tryz.isAgg102
 z22:=Tryz.sizeOf102
 v22:=Tryz.zeroValue102
 t25:=Tryz.underlying191
 a25:=Tryz.isAgg191
 z25:=Tryz.sizeOf191
 v25:=Tryz.zeroValue191
 t39:=Tryz.underlying240
 a39:=Tryz.isAgg240
 z39:=Tryz.sizeOf240
 v39:=Tryz.zeroValue240
 t45:=Tryz.underlying278
 a45:=Tryz.isAgg278
 z45:=Tryz.sizeOf278
 v45:=Tryz.zeroValue278
 t46:=Tryz.underlying279
 a46:=Tryz.isAgg279
 z46:=Tryz.sizeOf279
 v46:=Tryz.zeroValue279
 t50:=Tryz.underlying283
 a50:=Tryz.isAgg283
 z50:=Tryz.sizeOf283
 v50:=Tryz.zeroValue283
 t53:=Tryz.underlying286
 a53:=Tryz.isAgg286
 z53:=Tryz.sizeOf286
 v53:=Tryz.zeroValue286
 t55:=Tryz.underlying288
 a55:=Tryz.isAgg288
 z55:=Tryz.sizeOf288
 v55:=Tryz.zeroValue288
 t66:=Tryz.underlying337
 a66:=Tryz.isAgg337
 z66:=Tryz.sizeOf337
 v66:=Tryz.zeroValue337
 t70:=Tryz.underlying341
 a70:=Tryz.isAgg341
 z70:=Tryz.sizeOf341
 v70:=Tryz.zeroValue341
 t76:=Tryz.underlying355
 a76:=Tryz.isAgg355
 z76:=Tryz.sizeOf355
 v76:=Tryz.zeroValue355
 t77:=Tryz.underlying148
 a77:=Tryz.isAgg148
 z77:=Tryz.sizeOf148
 v77:=Tryz.zeroValue148 }
theorem Tryz.sorts114:Go.Sx.SortsK Tryz.prog 114 3:={
 some:=fun m _ enc hk h1 cf hO g blk off cap d w eg hcmp hH hblk hsz=>AnyQ.slices_SortFunc Tryz.laysS114 3 Tryz.isAgg42 Tryz.sizeOf42 enc hk h1 cf hO g #[] blk off cap d w eg hcmp hH hblk hsz
 none:=fun p cap fv w=>AnyF.slices_SortFunc_none Tryz.laysS114 p cap fv w }
end Go.Proofs
namespace Go.Proofs.YtdaliaafmcjikaaGreat
open Go Go.Sx
end Go.Proofs.YtdaliaafmcjikaaGreat
