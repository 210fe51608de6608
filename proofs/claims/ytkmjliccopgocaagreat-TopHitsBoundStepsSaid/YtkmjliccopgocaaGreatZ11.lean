/- A part of the proof: lemmas. -/
import Derived.Test.YtkmjliccopgocaaGreatZ10
import Derived.Test.YtkmjliccopgocaaGreatZ7
import Derived.KernelRfl
import Derived.Laws.Bits64b
import Derived.Lib.Mul64
set_option linter.unusedVariables false
set_option linter.unusedSimpArgs false
set_option maxRecDepth 100000
set_option maxHeartbeats 16000000
open BitVec renaming ofInt->Rs
open Bool renaming and_eq_true->Qc,not_eq_true'->Sf,true_and->Td
open Classical renaming choose->Oe
open Go.En renaming imax->Lg,run->Kg,step->Og,stepG->Dh
open Go.IntKind renaming i64->Qb,u64->Rq,wrap->Qa,wrap_u64->Lv
open Go.Lib renaming half_mul_le->Mx
open Go.Sx.AV renaming asl->Jx,int->Da,tup->Do
open Go.Sx.AV.isl renaming injEq->Wc
open Go.Sx.Done renaming mk->Qr
open Go.Sx.LpM renaming start->Tx,succ->Rn
open Go.Sx.PCall renaming freeze->Of
open Int renaming ediv_nonneg->Mh,eq_ofNat_of_zero_le->Lw,le_refl->Ob,mul_assoc->Wd,mul_comm->Kh,mul_le_mul->My,mul_le_mul_of_nonneg_left->Rm,mul_le_mul_of_nonneg_right->Ta,mul_nonneg->Rb,mul_sub->Gf,natCast_mul->Md,toNat->Ps,toNat_natCast->Sk,toNat_of_nonneg->Mm,zero_add->Sz
open List renaming all_cons->Wo,drop_eq_getElem_cons->Qg,drop_of_length_le->Qj,getElem?_eq_getElem->Qi,getElem_mem->Qq,length_set->Kl,replicate->Qw,take_of_length_le->Rr
open List.cons renaming inj->Ot,injEq->Rl
open Nat renaming beq->Ql,le_refl->Qd,zero_add->Sg,zero_le->Qk
open Option.some renaming inj->Rx
namespace Go.Proofs.YtkmjliccopgocaaGreat
open Go Go.Sx Go.En
abbrev rv (r:List Int):List AV:=[.isl 1 (nl r)]
abbrev exA (rows:List (List Int)) (ls:List Int):AV:=.agg [.isl 1 (rows.map rv),.isl 1 (nl ls)]
theorem Xn (rows:List (List Int)):(rows.map rv).length=rows.length:=by simp
theorem Zkj {rows:List (List Int)} {k:Nat} (h:k<rows.length):(rows.map rv)[((k:Nat):Int).toNat]?=some [.isl 1 (nl rows[k])]:=by simp [h]
theorem Zws {a b:List (List Int)} (h:a.map rv=b.map rv):a=b:=by
 refine List.map_inj_right (fun x y hxy=>?_) |>.1 h
 simp only [rv,Rl,Wc,true_and,and_true] at hxy
 exact Zd2 hxy
structure ExS (rows:List (List Int)) (ls:List Int):Prop where
 r:rows.length<100000
 e:∀ r∈rows,r.length<100000
 l:ls.length<100000
noncomputable def kX2:PC:=ins 56 (cBad 109 [.ipt [.func 106 [] []]] 0 1000) kX1
theorem Zl:PCOK Tryz.prog kX2:=Ya (fun l h=>Zv6 h) Zfe
theorem Zap (n:Int):shr n=within n 0 1000:=rfl
theorem Zqr {r:List Int}:(r.all fun n=>within n 0 1000)=r.all shr:=rfl
theorem Zq4 {r:List Int} (h:r.all shr=true) (hl:r.length<100000):sumW 0 r=tot r:=by
 rw [List.all_eq_true] at h
 rw [Zmn (M:=1000) (fun x hx=>shr_iff.1 (h x hx)) (by omega) (by omega),Sz]
abbrev sxX:FuncId->Bool:=fun f=>Ql f 47||(Ql f 107||(Ql f 108||(Ql f 110||Ql f 111)))
theorem d27 {rows:List (List Int)} {ls:List Int} (hs:ExS rows ls):PCall Tryz.prog 83 [exA rows ls] ⟨.tup [I (exV rows ls).1,I (exV rows ls).2],[]⟩:=by
 have l1:=Xn rows
 have l2:=Ze ls
 obtain ⟨s1,s2,s3⟩:=hs
 unfold exV
 by_cases h0:rows.length=0
 ·rw [if_pos h0]
  refine pn Zl Tryz.func83 ?_
  repeat'(first|refine wk3 ?_|(refine wk2 ?_ ?_<;>intro _)|fail)
  exact Zd rfl rfl
 rw [if_neg h0]
 by_cases h1:12<rows.length
 ·rw [if_pos h1]
  refine pn Zl Tryz.func83 ?_
  repeat'(first|refine wk3 ?_|(refine wk2 ?_ ?_<;>intro _)|fail)
  exact Zd rfl rfl
 rw [if_neg h1]
 by_cases h2:ls.length=rows.length
 rotate_left
 ·rw [if_neg h2]
  refine pn Zl Tryz.func83 ?_
  repeat'(first|refine wk3 ?_|(refine wk2 ?_ ?_<;>intro _)|fail)
  exact Zd rfl rfl
 rw [if_pos h2]
 refine bs.pv (sx:=sxX) Zl Tryz.func83 (by kernel_rfl) (by kernel_rfl) rfl ?_
 repeat'(first|refine wk3 ?_|(refine wk2 ?_ ?_<;>intro _)|fail)
 refine Zo (S:=Nat × Int) (fun t=>rows.length-t.1) (fun t=>[(1,.ptr 0 0 0),(4,.ptr 1 0 0),(5,.ptr 2 0 0),(25,.isl 1 (rows.map rv)),(26,I (rows.map rv).length),(27,I t.2)]) (fun _=>[(2,.row 1 [[.func 106 [] []]] true false),(1,.row 1 [[I (rows.map rv).length]] true false),(0,.row 2 [[.isl 1 (rows.map rv),.isl 1 (nl ls)]] true false)]) 3 3 (fun t=>t.2=t.1/\t.1<=rows.length/\exGo rows.length t.1 (rows.drop t.1) (ls.drop t.1)=exGo rows.length 0 rows ls) (0,0) ⟨rfl,Qk _,rfl⟩ (Qd _) [] rfl (kps) (kps) ?_
 rintro ⟨k,i⟩ ⟨hi,hk,hh⟩
 dsimp only at hi hk hh ⊢
 subst hi
 generalize exGo rows.length 0 rows ls=R at *
 refine bs.av (sx:=sxX) Zl ?_
 by_cases hlt:k<rows.length
 ·have e1:=Zkj hlt
  have e2:=Yz (ns:=ls) (k:=k) (by omega)
  have hr:=s2 _ (Qq hlt)
  rw [Qg hlt,Qg (show k<ls.length by omega),exGo] at hh
  generalize rows[k]=r at *
  generalize ls[k]'(by omega)=L at *
  have g1:=Zo7 (f:=109) (φ:=[.ipt [.func 106 [] []]]) (lo:=0) (hi:=1000) (ns:=r) (by omega)
  have g2:=Zfy (p:=Len6) (fun ns=>⟨I (sumW 0 ns),[]⟩) (ns:=r) (by show r.length<1000000; omega)
  rw [Zqr] at g1
  have l3:=Ze r
  unfold rowE at hh
  rw [Zap] at hh
  have v1:unl (!!true) 2=0:=rfl
  have v2:unl (!!false) 2=2:=rfl
  by_cases z1:r.length=rows.length
  rotate_left
  ·have u1:unl (decide (((nl r).length:Int)=((rows.map rv).length:Int))) 10=10:=by rw [decide_eq_false (by omega)]; rfl
   rw [if_neg z1,if_neg (by omega)] at hh
   subst hh
   repeat'(first|refine wk3 ?_|(refine wk2 ?_ ?_<;>intro _)|fail)
   refine bs.sv (sx:=sxX) Zl Tryz.func47 (by kernel_rfl) (by kernel_rfl) ?_
   repeat'(first|refine wk3 ?_|(refine wk2 ?_ ?_<;>intro _)|fail)
   refine Tx 5 ?_
   refine Rn (bs.av (sx:=sxX) Zl ?_)
   repeat'(first|refine wk3 ?_|(refine wk2 ?_ ?_<;>intro _)|fail)
   refine bs.sv (sx:=sxX) Zl Tryz.func107 (by kernel_rfl) (by kernel_rfl) ?_
   repeat'(first|refine wk3 ?_|(refine wk2 ?_ ?_<;>intro _)|fail)
   exact Zd (by rw [u1]) rfl
  have u1:unl (decide (((nl r).length:Int)=((rows.map rv).length:Int))) 10=0:=by rw [decide_eq_true (by omega)]; rfl
  rw [if_pos z1] at hh
  by_cases z2:r.all shr=true
  rotate_left
  ·rw [if_neg z2,if_neg (by omega)] at hh
   have z2:r.all shr=false:=by simpa using z2
   rw [z2] at g1
   subst hh
   repeat'(first|refine wk3 ?_|(refine wk2 ?_ ?_<;>intro _)|fail)
   refine bs.sv (sx:=sxX) Zl Tryz.func47 (by kernel_rfl) (by kernel_rfl) ?_
   repeat'(first|refine wk3 ?_|(refine wk2 ?_ ?_<;>intro _)|fail)
   refine Tx 5 ?_
   refine Rn (bs.av (sx:=sxX) Zl ?_)
   repeat'(first|refine wk3 ?_|(refine wk2 ?_ ?_<;>intro _)|fail)
   refine bs.sv (sx:=sxX) Zl Tryz.func107 (by kernel_rfl) (by kernel_rfl) ?_
   repeat'(first|refine wk3 ?_|(refine wk2 ?_ ?_<;>intro _)|fail)
   refine Rn (bs.av (sx:=sxX) Zl ?_)
   repeat'(first|refine wk3 ?_|(refine wk2 ?_ ?_<;>intro _)|fail)
   refine bs.sv (sx:=sxX) Zl Tryz.func108 (by kernel_rfl) (by kernel_rfl) ?_
   repeat'(first|refine wk3 ?_|(refine wk2 ?_ ?_<;>intro _)|fail)
   exact Zd rfl rfl
  rw [if_pos z2] at hh
  rw [z2] at g1
  rw [Zq4 z2 hr] at g2
  by_cases z3:tot r=1000
  rotate_left
  ·rw [if_neg z3,if_neg (by omega)] at hh
   have u3:unl (decide (tot r=1000)) 21=21:=by rw [decide_eq_false z3]; rfl
   subst hh
   repeat'(first|refine wk3 ?_|(refine wk2 ?_ ?_<;>intro _)|fail)
   refine bs.sv (sx:=sxX) Zl Tryz.func47 (by kernel_rfl) (by kernel_rfl) ?_
   repeat'(first|refine wk3 ?_|(refine wk2 ?_ ?_<;>intro _)|fail)
   refine Tx 5 ?_
   refine Rn (bs.av (sx:=sxX) Zl ?_)
   repeat'(first|refine wk3 ?_|(refine wk2 ?_ ?_<;>intro _)|fail)
   refine bs.sv (sx:=sxX) Zl Tryz.func107 (by kernel_rfl) (by kernel_rfl) ?_
   repeat'(first|refine wk3 ?_|(refine wk2 ?_ ?_<;>intro _)|fail)
   refine Rn (bs.av (sx:=sxX) Zl ?_)
   repeat'(first|refine wk3 ?_|(refine wk2 ?_ ?_<;>intro _)|fail)
   refine bs.sv (sx:=sxX) Zl Tryz.func108 (by kernel_rfl) (by kernel_rfl) ?_
   repeat'(first|refine wk3 ?_|(refine wk2 ?_ ?_<;>intro _)|fail)
   refine Rn (bs.av (sx:=sxX) Zl ?_)
   repeat'(first|refine wk3 ?_|(refine wk2 ?_ ?_<;>intro _)|fail)
   refine bs.sv (sx:=sxX) Zl Tryz.func110 (by kernel_rfl) (by kernel_rfl) ?_
   repeat'(first|refine wk3 ?_|(refine wk2 ?_ ?_<;>intro _)|fail)
   exact Zd (by rw [u3]) rfl
  rw [if_pos z3] at hh
  have u3:unl (decide (tot r=1000)) 21=0:=by rw [decide_eq_true z3]; rfl
  by_cases z4:within L 0 1000=true
  rotate_left
  ·rw [if_neg z4,if_neg (by omega)] at hh
   have z4:within L 0 1000=false:=by simpa using z4
   have u4:unl (within L 0 1000) 2=2:=by rw [z4]; rfl
   subst hh
   repeat'(first|refine wk3 ?_|(refine wk2 ?_ ?_<;>intro _)|fail)
   refine bs.sv (sx:=sxX) Zl Tryz.func47 (by kernel_rfl) (by kernel_rfl) ?_
   repeat'(first|refine wk3 ?_|(refine wk2 ?_ ?_<;>intro _)|fail)
   refine Tx 5 ?_
   refine Rn (bs.av (sx:=sxX) Zl ?_)
   repeat'(first|refine wk3 ?_|(refine wk2 ?_ ?_<;>intro _)|fail)
   refine bs.sv (sx:=sxX) Zl Tryz.func107 (by kernel_rfl) (by kernel_rfl) ?_
   repeat'(first|refine wk3 ?_|(refine wk2 ?_ ?_<;>intro _)|fail)
   refine Rn (bs.av (sx:=sxX) Zl ?_)
   repeat'(first|refine wk3 ?_|(refine wk2 ?_ ?_<;>intro _)|fail)
   refine bs.sv (sx:=sxX) Zl Tryz.func108 (by kernel_rfl) (by kernel_rfl) ?_
   repeat'(first|refine wk3 ?_|(refine wk2 ?_ ?_<;>intro _)|fail)
   refine Rn (bs.av (sx:=sxX) Zl ?_)
   repeat'(first|refine wk3 ?_|(refine wk2 ?_ ?_<;>intro _)|fail)
   refine bs.sv (sx:=sxX) Zl Tryz.func110 (by kernel_rfl) (by kernel_rfl) ?_
   repeat'(first|refine wk3 ?_|(refine wk2 ?_ ?_<;>intro _)|fail)
   refine Rn (bs.av (sx:=sxX) Zl ?_)
   repeat'(first|refine wk3 ?_|(refine wk2 ?_ ?_<;>intro _)|fail)
   refine bs.sv (sx:=sxX) Zl Tryz.func111 (by kernel_rfl) (by kernel_rfl) ?_
   repeat'(first|refine wk3 ?_|(refine wk2 ?_ ?_<;>intro _)|fail)
   exact Zd (by rw [u4]) rfl
  have u4:unl (within L 0 1000) 2=0:=by rw [z4]; rfl
  rw [if_pos z4,if_pos rfl] at hh
  repeat'(first|refine wk3 ?_|(refine wk2 ?_ ?_<;>intro _)|fail)
  refine bs.sv (sx:=sxX) Zl Tryz.func47 (by kernel_rfl) (by kernel_rfl) ?_
  repeat'(first|refine wk3 ?_|(refine wk2 ?_ ?_<;>intro _)|fail)
  refine Tx 5 ?_
  refine Rn (bs.av (sx:=sxX) Zl ?_)
  repeat'(first|refine wk3 ?_|(refine wk2 ?_ ?_<;>intro _)|fail)
  refine bs.sv (sx:=sxX) Zl Tryz.func107 (by kernel_rfl) (by kernel_rfl) ?_
  repeat'(first|refine wk3 ?_|(refine wk2 ?_ ?_<;>intro _)|fail)
  refine Rn (bs.av (sx:=sxX) Zl ?_)
  repeat'(first|refine wk3 ?_|(refine wk2 ?_ ?_<;>intro _)|fail)
  refine bs.sv (sx:=sxX) Zl Tryz.func108 (by kernel_rfl) (by kernel_rfl) ?_
  repeat'(first|refine wk3 ?_|(refine wk2 ?_ ?_<;>intro _)|fail)
  refine Rn (bs.av (sx:=sxX) Zl ?_)
  repeat'(first|refine wk3 ?_|(refine wk2 ?_ ?_<;>intro _)|fail)
  refine bs.sv (sx:=sxX) Zl Tryz.func110 (by kernel_rfl) (by kernel_rfl) ?_
  repeat'(first|refine wk3 ?_|(refine wk2 ?_ ?_<;>intro _)|fail)
  refine Rn (bs.av (sx:=sxX) Zl ?_)
  repeat'(first|refine wk3 ?_|(refine wk2 ?_ ?_<;>intro _)|fail)
  refine bs.sv (sx:=sxX) Zl Tryz.func111 (by kernel_rfl) (by kernel_rfl) ?_
  repeat'(first|refine wk3 ?_|(refine wk2 ?_ ?_<;>intro _)|fail)
  refine Rn (bs.av (sx:=sxX) Zl ?_)
  repeat'(first|refine wk3 ?_|(refine wk2 ?_ ?_<;>intro _)|fail)
  exact Qr ⟨(k+1,_),[],rfl,kps,kps,⟨Zg (by omega),hlt,hh⟩,by dsimp only; omega⟩
 ·rw [Qj (by omega),exGo] at hh
  ·subst hh
   repeat'(first|refine wk3 ?_|(refine wk2 ?_ ?_<;>intro _)|fail)
   exact Zd rfl rfl
  ·intro a b c d e; cases e
def Zgn:Int->List Int->Option Int
 | s,[]=>some s
 | s,x::l=>if shr x then Zgn (Qa Qb (s+x)) l else none
theorem Zdz:∀ (l:List Int) (s:Int),Zgn s l=if l.all shr then some (sumW s l) else none
 | [],s=>rfl
 | x::l,s=>by
  rw [Zgn,Wo,sumW]
  cases h:shr x with
  | true=>rw [if_pos rfl,Td]; exact Zdz l _
  | false=>rfl
theorem d32 {rows:List (List Int)} {ls:List Int} (hs:ExS rows ls):PCall Tryz.prog 9 [exA rows ls] ⟨.tup [I (exV rows ls).1,I (exV rows ls).2],[]⟩:=by
 have l1:=Xn rows
 have l2:=Ze ls
 obtain ⟨s1,s2,s3⟩:=hs
 unfold exV
 by_cases h0:rows.length=0
 ·rw [if_pos h0]
  refine pn Zl Tryz.func9 ?_
  repeat'(first|refine wk3 ?_|(refine wk2 ?_ ?_<;>intro _)|fail)
  exact Zd rfl rfl
 rw [if_neg h0]
 by_cases h1:12<rows.length
 ·rw [if_pos h1]
  refine pn Zl Tryz.func9 ?_
  repeat'(first|refine wk3 ?_|(refine wk2 ?_ ?_<;>intro _)|fail)
  exact Zd rfl rfl
 rw [if_neg h1]
 by_cases h2:ls.length=rows.length
 rotate_left
 ·rw [if_neg h2]
  refine pn Zl Tryz.func9 ?_
  repeat'(first|refine wk3 ?_|(refine wk2 ?_ ?_<;>intro _)|fail)
  exact Zd rfl rfl
 rw [if_pos h2]
 refine pn Zl Tryz.func9 ?_
 repeat'(first|refine wk3 ?_|(refine wk2 ?_ ?_<;>intro _)|fail)
 refine Zo (S:=Nat × Int) (fun t=>rows.length-t.1) (fun t=>[(1,.ptr 0 0 0),(4,I (rows.map rv).length),(5,I t.2)]) (fun _=>[(0,.row 2 [[.isl 1 (rows.map rv),.isl 1 (nl ls)]] true false)]) 1 1 (fun t=>t.2=t.1/\t.1<=rows.length/\exGo rows.length t.1 (rows.drop t.1) (ls.drop t.1)=exGo rows.length 0 rows ls) (0,0) ⟨rfl,Qk _,rfl⟩ (Qd _) [] rfl (kps) (kps) ?_
 rintro ⟨k,i⟩ ⟨hi,hk,hh⟩
 dsimp only at hi hk hh ⊢
 subst hi
 generalize exGo rows.length 0 rows ls=R at *
 refine bs.av (sx:=nos) Zl ?_
 by_cases hlt:k<rows.length
 ·have e1:=Zkj hlt
  have e2:=Yz (ns:=ls) (k:=k) (by omega)
  have hr:=s2 _ (Qq hlt)
  rw [Qg hlt,Qg (show k<ls.length by omega),exGo] at hh
  generalize rows[k]=r at *
  generalize ls[k]'(by omega)=L at *
  have l3:=Ze r
  unfold rowE at hh
  by_cases z1:r.length=rows.length
  rotate_left
  ·rw [if_neg z1,if_neg (by omega)] at hh
   subst hh
   repeat'(first|refine wk3 ?_|(refine wk2 ?_ ?_<;>intro _)|fail)
   exact Zd rfl rfl
  rw [if_pos z1] at hh
  repeat'(first|refine wk3 ?_|(refine wk2 ?_ ?_<;>intro _)|fail)
  refine Zo (S:=Nat × Int × Int) (fun t=>r.length-t.1) (fun t=>[(1,.ptr 0 0 0),(4,I (rows.map rv).length),(5,I (k:Int)),(6,I t.2.2),(7,I t.2.1)]) (fun _=>[(0,.row 2 [[.isl 1 (rows.map rv),.isl 1 (nl ls)]] true false)]) 1 1 (fun t=>t.2.1=t.1/\t.1<=r.length/\Zgn t.2.2 (r.drop t.1)=Zgn 0 r) (0,0,0) ⟨rfl,Qk _,rfl⟩ (Qd _) [] rfl (kps) (kps) ?_
  rintro ⟨j,ij,s⟩ ⟨hij,hj,hq⟩
  dsimp only at hij hj hq ⊢
  subst hij
  rw [Zdz r 0] at hq
  refine bs.av (sx:=nos) Zl ?_
  by_cases hlj:j<r.length
  ·have e4:=Yz hlj
   rw [Qg hlj,Zgn,Zap] at hq
   generalize r[j]=x at *
   generalize hb:within x 0 1000=b at *
   cases b
   ·rw [if_neg (by simp)] at hq
    have hz:¬ (r.all shr)=true:=fun c=>by rw [if_pos c] at hq; cases hq
    rw [if_neg hz,if_neg (by omega)] at hh
    subst hh
    repeat'(first|refine wk3 ?_|(refine wk2 ?_ ?_<;>intro _)|fail)
    all_goals first
     | exact Zd rfl rfl
     | (exfalso; simp_all; done)
   ·rw [if_pos rfl,<-Zdz r 0] at hq
    repeat'(first|refine wk3 ?_|(refine wk2 ?_ ?_<;>intro _)|fail)
    all_goals first
     | exact Qr ⟨(j+1,_,_),[],rfl,kps,kps,⟨Zg (by omega),hlj,hq⟩,by dsimp only; omega⟩
     | (exfalso; simp_all; done)
  ·rw [Qj (by omega),Zgn] at hq
   have hz:(r.all shr)=true:=by
    by_cases c:(r.all shr)=true
    ·exact c
    ·rw [if_neg c] at hq; cases hq
   rw [if_pos hz] at hq
   rw [if_pos hz] at hh
   have hq:=Rx hq
   rw [Zq4 hz hr] at hq
   subst hq
   by_cases z3:tot r=1000
   rotate_left
   ·rw [if_neg z3,if_neg (by omega)] at hh
    subst hh
    repeat'(first|refine wk3 ?_|(refine wk2 ?_ ?_<;>intro _)|fail)
    exact Zd rfl rfl
   rw [if_pos z3] at hh
   rw [Zap] at hh
   generalize hb:within L 0 1000=b at *
   cases b
   ·rw [if_neg (show ¬ (false=true) by simp),if_neg (show ¬ ((2:Int)=0) by omega)] at hh
    subst hh
    repeat'(first|refine wk3 ?_|(refine wk2 ?_ ?_<;>intro _)|fail)
    all_goals first
     | exact Zd rfl rfl
     | (exfalso; simp_all; done)
   ·rw [if_pos rfl,if_pos rfl] at hh
    repeat'(first|refine wk3 ?_|(refine wk2 ?_ ?_<;>intro _)|fail)
    all_goals first
     | exact Qr ⟨(k+1,_),[],rfl,kps,kps,⟨Zg (by omega),hlt,hh⟩,by dsimp only; omega⟩
     | (exfalso; simp_all; done)
 ·rw [Qj (by omega),exGo] at hh
  ·subst hh
   repeat'(first|refine wk3 ?_|(refine wk2 ?_ ?_<;>intro _)|fail)
   exact Zd rfl rfl
  ·intro a b c d e; cases e
theorem Zmr {kept s:Int} (hk:0<=kept) (h0:0<=s) (h1:s<=1000):0<=kept*s/\kept*s<=kept*1000:=⟨Rb hk h0,Rm h1 hk⟩
def pE (kept s:Int):Int:=Qa Qb ((Qa Qb (kept*s)).tdiv 1000)
theorem Yb1 {kept s:Int} (hk:0<=kept/\kept<=13000000000000) (hs:0<=s/\s<=1000):pE kept s=kept*s / 1000:=by
 obtain ⟨a,b⟩:=Zmr hk.1 hs.1 hs.2
 unfold pE
 generalize kept*s=q at *
 rw [W_eq (n:=q) (by omega) (by omega),Int.tdiv_eq_ediv_of_nonneg (by omega),W_eq (by omega) (by omega)]
abbrev Ybo (n:Nat) (r:List Int):Prop:=r.length=n/\(∀ s∈r,0<=s/\s<=1000)/\tot r=1000
structure RowSt (n:Nat) (r out:List Int) (kept B:Int) (p:Int->Int):Prop where
 add:addQ (Qa Qb) p r out=addP kept r out
 sum:sumQ (Qa Qb) p kept r=kept-gsum kept r
 lo:0<=kept-gsum kept r
 hi:kept-gsum kept r<=kept
 bd:∀ o∈addP kept r out,0<=o/\o<=B+kept
 len:(addP kept r out).length=n
theorem Zzv {n:Nat} {r out:List Int} {kept B:Int} {p:Int->Int} (hr:Ybo n r) (hk:0<=kept/\kept<=13000000000000) (hp:∀ s,0<=s/\s<=1000->p s=kept*s / 1000) (ho:out.length=n) (hB:B<=1000000000000000000) (hb:∀ o∈out,0<=o/\o<=B) (hn:n<=12):RowSt n r out kept B p:=by
 obtain ⟨r1,r2,r3⟩:=hr
 obtain ⟨k1,k2⟩:=hk
 have q1:∀ s∈r,p s=kept*s / 1000/\0<=p s/\p s<=kept:=fun s hs=>by
  have:=r2 s hs
  obtain ⟨a,b⟩:=Zmr k1 this.1 this.2
  rw [hp s this]
  generalize kept*s=q at *
  exact ⟨rfl,by omega,by omega⟩
 have q2:∀ s∈r,0<=kept*s / 1000/\kept*s / 1000<=kept:=fun s hs=>by
  have:=q1 s hs
  rw [this.1] at this
  exact this.2
 obtain ⟨g1,g2,g3⟩:=Zm3 k1 r2
 rw [r3] at g2 g3
 have hm:kept*(r.length:Int)<=kept*12:=Rm (by omega) k1
 refine ⟨Zub (M:=kept) q1 (fun o h=>by have:=hb o h; omega) (fun m h0 h1=>W_eq (by omega) (by omega)),Zq8 (M:=kept) q1 (by omega) (by omega) (fun m h0 h1=>W_eq (by omega) (by omega)),by omega,by omega,Zud q2 k1 B hb,by rw [Zjy,ho]⟩
theorem Zwk (w p:Int->Int) (out:List Int):addQ w p [] out=out:=by simp [addQ]
theorem Zz6 (n:Nat):Qw n [I 0]=nl (zer n):=by unfold nl zer; rw [List.map_replicate]
theorem Zxm (n:Nat):(zer n).length=n:=by unfold zer; rw [List.length_replicate]
theorem Zzh {n:Nat} {B:Int} (hB:0<=B):∀ o∈zer n,0<=o/\o<=B:=by
 intro o ho
 unfold zer at ho
 have:=List.eq_of_mem_replicate ho
 omega
theorem Zut (l:List Int) (i:Nat) (v:Int):Zdg (nl l) i [I v]=nl (l.set i v):=by
 rw [Zi6]; unfold nl; rw [List.map_set]
theorem Zgh (l:List Int) (j:Nat) (v:Int):Zdg (nl l) (0+((j:Nat):Int).toNat) [I v]=nl (l.set j v):=by
 rw [Sg]; exact Zut l j v
theorem Zmt {l:List Int} {j:Nat} (h:j<l.length):(nl l)[0+((j:Nat):Int).toNat]?=some [I l[j]]:=by rw [Sg]; exact Yz h
structure StH (rows:List (List Int)) (ls e:List Int):Prop where
 x:ExOk rows.length rows ls
 n:rows.length<=12
 l:e.length=rows.length
 nn:Nn e
 t:tot e<=13000000000000
theorem Zph {l:List Int} {m:Nat} (hm:m<l.length) {x B:Int} (hb:∀ o∈l,0<=o/\o<=B) (hB:B<=2000000000000000000) (hx:0<=x/\x<=13000000000000):l.set m (Qa Qb (l[m]+x))=Za3 l m x:=by
 have:=hb _ (Qq hm)
 rw [Zmf hm,W_eq (by omega) (by omega)]
theorem d114 {rows:List (List Int)} {ls e:List Int} (h:StH rows ls e):PCall Tryz.prog 34 [exA rows ls,.isl 1 (nl e)] ⟨.tup [.isl 1 (nl (Og rows ls e).1),I (Og rows ls e).2],[]⟩:=by
 refine Of (res:=⟨.tup [.asl 0 0 (nl (Og rows ls e).1).length,I (Og rows ls e).2],[(1,nl (Og rows ls e).1)]⟩) ?_ ⟨⟨rfl,rfl,rfl⟩,⟨rfl,rfl⟩,trivial⟩
 have l1:=Xn rows
 have l2:=Ze ls
 have l3:=Ze e
 have hn:=h.n
 have hl:=h.l
 have hll:=h.x.ll
 have hst:=(Zi1 h.x h.l h.nn).len
 refine pn Zfe Tryz.func34 ?_
 repeat'(first|refine wk3 ?_|(refine wk2 ?_ ?_<;>intro _)|fail)
 refine Zo (S:=Nat × Int × List (List AV) × List Int × Int) (fun t=>e.length-t.1) (fun t=>[(2,.ptr 0 0 0),(6,.asl 1 0 (nl e).length),(7,I t.2.2.2.2),(19,.isl 1 (nl e)),(20,I (nl e).length),(21,I t.2.1)]) (fun t=>[(1,.row 1 t.2.2.1 true true),(0,.row 2 [[.isl 1 (rows.map rv),.isl 1 (nl ls)]] true false)]) 2 2 (fun t=>t.2.1=t.1/\t.1<=e.length/\t.2.2.1=nl t.2.2.2.1/\t.2.2.2.1.length=rows.length/\(∀ o∈t.2.2.2.1,0<=o/\o<=30000000000000*t.1)/\(0<=t.2.2.2.2/\t.2.2.2.2<=13000000000000*t.1)/\Dh (rows.drop t.1) (ls.drop t.1) (e.drop t.1) t.2.2.2.1 t.2.2.2.2=Og rows ls e) (0,0,Qw (nl e).length [I 0],zer e.length,0) ⟨rfl,Qk _,by rw [l3]; exact Zz6 _,by rw [Zxm,hl],Zzh (by omega),⟨Ob _,by simp⟩,rfl⟩ (Qd _) [] rfl (kps) (kps) ?_
 rintro ⟨k,i,els,out,all⟩ ⟨hi,hk,hels,hlen,hb,hall,hh⟩
 dsimp only at hi hk hels hlen hb hall hh ⊢
 subst hi hels
 generalize Og rows ls e=R at *
 refine bs.av (sx:=nos) Zfe ?_
 by_cases hlt:k<e.length
 ·have e1:=Yz hlt
  have e2:=Yz (ns:=ls) (k:=k) (by omega)
  have e3:=Zkj (rows:=rows) (k:=k) (by omega)
  have hr:Ybo rows.length (rows[k]'(by omega)):=h.x.row _ (Qq _)
  have hL:=h.x.lost _ (Qq (show k<ls.length by omega))
  have hx:=h.nn _ (Qq hlt)
  have hx2:=Zr9 h.nn _ (Qq hlt)
  have ht:=h.t
  rw [Qg hlt,Qg (show k<ls.length by omega),Qg (show k<rows.length by omega),Dh] at hh
  obtain ⟨r,er⟩:∃ r,r=rows[k]'(by omega):=⟨_,rfl⟩
  obtain ⟨L,eL⟩:∃ L,L=ls[k]'(by omega):=⟨_,rfl⟩
  obtain ⟨x,ex⟩:∃ x,x=e[k]:=⟨_,rfl⟩
  rw [<-er] at e3 hr
  rw [<-eL] at e2 hL
  rw [<-ex] at e1 hx hx2
  simp only [<-er,<-eL,<-ex] at hh
  clear er eL ex
  obtain ⟨b1,b2⟩:=Zmr hx hL.1 hL.2
  have w1:Qa Qb (x*L)=x*L:=W_eq (by omega) (by omega)
  have ha:abv (Qa Qb (x*L)) 1000=above (x*L):=by rw [w1,Ybm b1 (by omega)]
  obtain ⟨c1,c2⟩:=Zpi hx hL.1 hL.2
  generalize above (x*L)=lost at *
  have w2:Qa Qb (x-lost)=x-lost:=W_eq (by omega) (by omega)
  have l4:=Ze r
  have hr0:=hr.1
  repeat'(first|refine wk3 ?_|(refine wk2 ?_ ?_<;>intro _)|fail)
  rw [ha]
  refine Zo (S:=Nat × Int × List (List AV) × List Int × Int) (fun t=>r.length-t.1) (fun t=>[(2,.ptr 0 0 0),(6,.asl 1 0 (nl e).length),(7,I all),(8,I (k:Int)),(10,I lost),(11,I (Qa Qb (x-lost))),(12,I t.2.2.2.2),(19,.isl 1 (nl e)),(20,I (nl e).length),(21,I (k:Int)),(44,.isl 1 (nl r)),(45,I (nl r).length),(46,I t.2.1)]) (fun t=>[(1,.row 1 t.2.2.1 true true),(0,.row 2 [[.isl 1 (rows.map rv),.isl 1 (nl ls)]] true false)]) 2 2 (fun t=>t.2.1=t.1/\t.1<=r.length/\t.2.2.1=nl t.2.2.2.1/\t.2.2.2.1.length=rows.length/\t.2.2.2.1.take t.1++addQ (Qa Qb) (pE (Qa Qb (x-lost))) (r.drop t.1) (t.2.2.2.1.drop t.1)=addQ (Qa Qb) (pE (Qa Qb (x-lost))) r out/\sumQ (Qa Qb) (pE (Qa Qb (x-lost))) t.2.2.2.2 (r.drop t.1)=sumQ (Qa Qb) (pE (Qa Qb (x-lost))) (Qa Qb (x-lost)) r) (0,0,nl out,out,Qa Qb (x-lost)) ⟨rfl,Qk _,rfl,hlen,by simp,rfl⟩ (Qd _) [] rfl (kps) (kps) ?_
  rintro ⟨j,ij,els,out2,left⟩ ⟨hij,hj,hels,hlen2,hq,hs⟩
  dsimp only at hij hj hels hlen2 hq hs ⊢
  subst hij hels
  refine bs.av (sx:=nos) Zfe ?_
  by_cases hlj:j<r.length
  ·have e4:=Yz hlj
   have e5:=Zmt (l:=out2) (j:=j) (by omega)
   rw [Zua (Qa Qb) _ hlj (by omega)] at hq
   rw [Qg hlj,sumQ] at hs
   repeat'(first|refine wk3 ?_|(refine wk2 ?_ ?_<;>intro _)|fail)
   exact Qr ⟨(j+1,Qa Qb ((j:Int)+1),Zdg (nl out2) (0+((j:Nat):Int).toNat) [I (Qa Qb (out2[j]+pE (Qa Qb (x-lost)) r[j]))],out2.set j (Qa Qb (out2[j]+pE (Qa Qb (x-lost)) r[j])),Qa Qb (left-pE (Qa Qb (x-lost)) r[j])),[],rfl,kps,kps,⟨Zg (by omega),hlj,Zgh _ _ _,by rw [Kl]; exact hlen2,hq,hs⟩,by dsimp only; omega⟩
  ·rw [Qj (by omega),Qj (by omega),Rr (by omega),Zwk,List.append_nil] at hq
   rw [Qj (by omega),sumQ] at hs
   rw [w2] at hq hs
   have hR:=Zzv (B:=30000000000000*k) hr ⟨show 0<=x-lost by omega,by omega⟩ (fun s hs=>Yb1 ⟨by omega,by omega⟩ hs) hlen (by omega) hb hn
   rw [hR.add] at hq
   rw [hR.sum] at hs
   subst hq hs
   have hm:Lg r<(addP (x-lost) r out).length:=by rw [hR.len,<-hr.1]; exact En.imax_lt (by have:=h.x.pos; omega)
   have m1:=Zfy (p:=Ybp) (fun ns=>⟨I (mxl ns),[]⟩) (ns:=r) ⟨by omega,by omega⟩
   have m2:=Ztb (fun ns n=>⟨I (idxI n 0 ns),[]⟩) (ns:=r) (by omega) (mxl r)
   rw [Zyr (by omega)] at m2
   have e6:=Zmt hm
   have hl2:=hR.len
   have hm0:=hm
   have hs1:=hR.lo
   have hs2:=hR.hi
   rw [<-Zph hm hR.bd (by omega) ⟨hR.lo,by omega⟩] at hh
   have hbd:=Zpg (M:=x-lost) ⟨hR.lo,hR.hi⟩ (i:=Lg r) hR.bd
   rw [<-Zph hm hR.bd (by omega) ⟨hR.lo,by omega⟩] at hbd
   have w3:Qa Qb (all+lost)=all+lost:=W_eq (by omega) (by omega)
   rw [<-w3] at hh
   have hls:((addP (x-lost) r out).set (Lg r) (Qa Qb ((addP (x-lost) r out)[Lg r]+(x-lost-gsum (x-lost) r)))).length=rows.length:=by rw [Kl]; exact hl2
   clear hR
   repeat'(first|refine wk3 ?_|(refine wk2 ?_ ?_<;>intro _)|fail)
   exact Qr ⟨(k+1,Qa Qb ((k:Int)+1),Zdg (nl (addP (x-lost) r out)) (0+((Lg r:Nat):Int).toNat) [I (Qa Qb ((addP (x-lost) r out)[Lg r]+(x-lost-gsum (x-lost) r)))],(addP (x-lost) r out).set (Lg r) (Qa Qb ((addP (x-lost) r out)[Lg r]+(x-lost-gsum (x-lost) r))),Qa Qb (all+lost)),[],rfl,kps,kps,⟨Zg (by omega),hlt,Zgh _ _ _,hls,fun o ho=>by have:=hbd o ho; omega,⟨by show (0:Int)<=Qa Qb (all+lost); rw [w3]; omega,by show Qa Qb (all+lost)<=13000000000000*((k+1:Nat):Int); rw [w3]; omega⟩,hh⟩,by dsimp only; omega⟩
 ·rw [Qj (by omega),Qj (by omega),Qj (by omega),Dh] at hh
  ·subst hh
   repeat'(first|refine wk3 ?_|(refine wk2 ?_ ?_<;>intro _)|fail)
   refine Yh [1] rfl ?_ rfl
   show Do [Jx 1 0 (nl e).length,I all]=Do [Jx 1 0 (nl out).length,I all]
   rw [l3,Ze,hlen,hl]
  ·intro a b c d f g h1 h2 h3; cases h1
noncomputable abbrev famX (p:List (List Int)->List Int->Prop) (r:List (List Int)->List Int->PRes):List AV->Option PRes:=famA (fun q:List (List Int) × List Int=>p q.1 q.2) (fun q=>[exA q.1 q.2]) (fun q=>r q.1 q.2)
theorem Znd {a c:List (List Int)} {b d:List Int} (h:exA a b=exA c d):a=c/\b=d:=by
 simp only [exA,AV.agg.injEq,Rl,Wc,true_and,and_true] at h
 exact ⟨Zws h.1,Zd2 h.2⟩
theorem Zfx {p:List (List Int)->List Int->Prop} (r:List (List Int)->List Int->PRes) {rows:List (List Int)} {ls:List Int} (h:p rows ls):famX p r [exA rows ls]=some (r rows ls) :=
 Xb (p:=fun q:List (List Int) × List Int=>p q.1 q.2) (g:=fun q=>[exA q.1 q.2]) (r:=fun q=>r q.1 q.2) (k:=(rows,ls)) (fun j hj=>by
  obtain ⟨h1,h2⟩:=Znd (Ot hj).1
  rw [h1,h2]) h
noncomputable abbrev Zta (p:List (List Int)->List Int->List Int->Prop) (r:List (List Int)->List Int->List Int->PRes):List AV->Option PRes:=famA (fun q:List (List Int) × List Int × List Int=>p q.1 q.2.1 q.2.2) (fun q=>[exA q.1 q.2.1,.isl 1 (nl q.2.2)]) (fun q=>r q.1 q.2.1 q.2.2)
theorem Zcg {p:List (List Int)->List Int->List Int->Prop} (r:List (List Int)->List Int->List Int->PRes) {rows:List (List Int)} {ls e:List Int} (h:p rows ls e):Zta p r [exA rows ls,.isl 1 (nl e)]=some (r rows ls e) :=
 Xb (p:=fun q:List (List Int) × List Int × List Int=>p q.1 q.2.1 q.2.2) (g:=fun q=>[exA q.1 q.2.1,.isl 1 (nl q.2.2)]) (r:=fun q=>r q.1 q.2.1 q.2.2) (k:=(rows,ls,e)) (fun j hj=>by
  obtain ⟨h1,h2⟩:=Znd (Ot hj).1
  have h3:=(Ot hj).2
  simp only [Rl,Wc,true_and,and_true] at h3
  rw [h1,h2,Zd2 h3]) h
noncomputable abbrev Zlq (p:List (List Int)->List Int->List Int->Int->Prop) (r:List (List Int)->List Int->List Int->Int->PRes):List AV->Option PRes:=famA (fun q:List (List Int) × List Int × List Int × Int=>p q.1 q.2.1 q.2.2.1 q.2.2.2) (fun q=>[exA q.1 q.2.1,.isl 1 (nl q.2.2.1),I q.2.2.2]) (fun q=>r q.1 q.2.1 q.2.2.1 q.2.2.2)
theorem Zit {p:List (List Int)->List Int->List Int->Int->Prop} (r:List (List Int)->List Int->List Int->Int->PRes) {rows:List (List Int)} {ls e:List Int} {n:Int} (h:p rows ls e n):Zlq p r [exA rows ls,.isl 1 (nl e),I n]=some (r rows ls e n) :=
 Xb (p:=fun q:List (List Int) × List Int × List Int × Int=>p q.1 q.2.1 q.2.2.1 q.2.2.2) (g:=fun q=>[exA q.1 q.2.1,.isl 1 (nl q.2.2.1),I q.2.2.2]) (r:=fun q=>r q.1 q.2.1 q.2.2.1 q.2.2.2) (k:=(rows,ls,e,n)) (fun j hj=>by
  obtain ⟨h1,h2⟩:=Znd (Ot hj).1
  have h3:=(Ot hj).2
  simp only [Rl,Wc,AV.int.injEq,true_and,and_true] at h3
  rw [h1,h2,Zd2 h3.1,h3.2]) h
abbrev rExV (rows:List (List Int)) (ls:List Int):PRes:=⟨.tup [I (exV rows ls).1,I (exV rows ls).2],[]⟩
def owE (rows:List (List Int)) (ls e:List Int):Int:=if (exV rows ls).2≠0 then (exV rows ls).2 else enE rows.length e
noncomputable def kX3:PC:=ins 83 (famX ExS rExV) (ins 9 (famX ExS rExV) (ins 56 (cBad 57 [] 0 1000000000000) (ins 14 cints kX1)))
theorem Zsc:PCOK Tryz.prog kX3:=Ya (fun q h=>d27 h) (Ya (fun q h=>d32 h) (Ya (fun l h=>Zv5 h) (Ya (fun ns h=>c25f ns h) Zfe)))
theorem d115 {rows:List (List Int)} {ls:List Int} (h:ExS rows ls):PCall Tryz.prog 55 [exA rows ls] ⟨.tup [exA rows ls,I (exV rows ls).2],[]⟩:=by
 have g1:=Zfx (p:=ExS) rExV h
 unfold rExV at g1
 refine pn Zsc Tryz.func55 ?_
 repeat'(first|refine wk3 ?_|(refine wk2 ?_ ?_<;>intro _)|fail)
 exact Zd rfl rfl
abbrev ExL (rows:List (List Int)) (ls e:List Int):Prop:=ExS rows ls/\e.length<100000
theorem d111 {rows:List (List Int)} {ls e:List Int} (h:ExL rows ls e):PCall Tryz.prog 29 [exA rows ls,.isl 1 (nl e)] ⟨.tup [exA rows ls,I (owE rows ls e)],[]⟩:=by
 obtain ⟨h,hl⟩:=h
 have hk:=Zi (d115 h) Zsc
 have l1:=Xn rows
 have l2:=Ze e
 have g1:=Zo7 (f:=57) (φ:=[]) (lo:=0) (hi:=1000000000000) (ns:=e) (by omega)
 have hw:(e.all fun x=>decide (0<=x)&&decide (x<=1000000000000))=e.all fun n=>within n 0 1000000000000:=rfl
 unfold owE enE
 rw [hw]
 by_cases z:(exV rows ls).2=0
 ·rw [if_neg (fun c=>c z)]
  rw [z] at hk
  by_cases z2:e.length=rows.length
  ·rw [if_pos z2]
   generalize (e.all fun n=>within n 0 1000000000000)=b at *
   cases b
   all_goals
    refine pn hk Tryz.func29 ?_
    repeat'(first|refine wk3 ?_|(refine wk2 ?_ ?_<;>intro _)|fail)
    exact Zd rfl rfl
  ·rw [if_neg z2]
   refine pn hk Tryz.func29 ?_
   repeat'(first|refine wk3 ?_|(refine wk2 ?_ ?_<;>intro _)|fail)
   exact Zd rfl rfl
 ·rw [if_pos z]
  refine pn hk Tryz.func29 ?_
  repeat'(first|refine wk3 ?_|(refine wk2 ?_ ?_<;>intro _)|fail)
  exact Zd rfl rfl
theorem d40 {rows:List (List Int)} {ls e:List Int} (hr:rows.length<100000) (hl:e.length<1000000):PCall Tryz.prog 10 [exA rows ls,.isl 1 (nl e)] ⟨I (enE rows.length e),[]⟩:=by
 have l1:=Xn rows
 have l2:=Ze e
 unfold enE
 by_cases z:e.length=rows.length
 rotate_left
 ·rw [if_neg z]
  refine pn Zfe Tryz.func10 ?_
  repeat'(first|refine wk3 ?_|(refine wk2 ?_ ?_<;>intro _)|fail)
  exact Zb rfl
 rw [if_pos z]
 have hw:(e.all fun x=>decide (0<=x)&&decide (x<=1000000000000))=e.all fun n=>within n 0 1000000000000:=rfl
 rw [hw]
 refine pn Zfe Tryz.func10 ?_
 repeat'(first|refine wk3 ?_|(refine wk2 ?_ ?_<;>intro _)|fail)
 refine Zo (S:=Nat × Int) (fun t=>e.length-t.1) (fun t=>[(1,.isl 1 (nl e)),(5,I t.2)]) (fun _=>[]) 1 1 (fun t=>t.2=t.1/\t.1<=e.length/\((e.drop t.1).all fun n=>within n 0 1000000000000)=e.all fun n=>within n 0 1000000000000) (0,0) ⟨rfl,Qk _,rfl⟩ (Qd _) [] rfl (kps) (kps) ?_
 rintro ⟨k,i⟩ ⟨hi,hk,hh⟩
 dsimp only at hi hk hh ⊢
 subst hi
 generalize (e.all fun n=>within n 0 1000000000000)=R at *
 refine bs.av (sx:=nos) Zfe ?_
 by_cases hlt:k<e.length
 ·have e1:=Yz hlt
  rw [Qg hlt,Wo] at hh
  generalize e[k]=x at *
  generalize hb:within x 0 1000000000000=b at *
  cases b
  ·rw [Bool.false_and] at hh
   subst hh
   repeat'(first|refine wk3 ?_|(refine wk2 ?_ ?_<;>intro _)|fail)
   all_goals first
    | exact Zb rfl
    | (exfalso; simp_all; done)
  ·rw [Td] at hh
   repeat'(first|refine wk3 ?_|(refine wk2 ?_ ?_<;>intro _)|fail)
   all_goals first
    | exact Qr ⟨(k+1,_),[],rfl,kps,kps,⟨Zg (by omega),hlt,hh⟩,by dsimp only; omega⟩
    | (exfalso; simp_all; done)
 ·rw [Qj (by omega)] at hh
  subst hh
  repeat'(first|refine wk3 ?_|(refine wk2 ?_ ?_<;>intro _)|fail)
  exact Zb rfl
theorem StH.of {rows:List (List Int)} {ls e:List Int} (h1:(exV rows ls).2=0) (h2:enE rows.length e=0):StH rows ls e:=by
 obtain ⟨a,b⟩:=Zvq h1
 obtain ⟨c,d⟩:=Zvw h2
 obtain ⟨t0,t1⟩:=Zwo d
 exact ⟨a,b,c,fun x hx=>(d x hx).1,by rw [c] at t1; omega⟩
theorem StH.run {rows:List (List Int)} {ls e:List Int} (h:StH rows ls e) (k:Nat):StH rows ls (Kg rows ls k e).1:=by
 obtain ⟨a,b,c,d⟩:=Zid h.x k h.l h.nn
 have:=h.t
 exact ⟨h.x,h.n,a,b,by omega⟩
theorem StH.all {rows:List (List Int)} {ls e:List Int} (h:StH rows ls e) (k:Nat):0<=(Kg rows ls k e).2/\(Kg rows ls k e).2<=13000000000000:=by
 obtain ⟨a,b,c,d⟩:=Zid h.x k h.l h.nn
 have:=h.t
 have:=Ze6 b
 exact ⟨c,by omega⟩
theorem d113 {ns:List Int} (h0:0<ns.length) (hl:ns.length<100000):PCall Tryz.prog 36 [.isl 1 (nl ns)] ⟨.isl 1 (nl ns),[]⟩:=by
 obtain ⟨x,l,rfl⟩:=List.exists_cons_of_length_pos h0
 have h1:=Zgw (x::l)
 have h2:=Ze (x::l)
 refine Of (res:=⟨.asl 0 0 (nl (x::l)).length,[(1,nl (x::l))]⟩) ?_ ⟨rfl,rfl,rfl⟩
 refine pn Zf Tryz.func36 ?_
 repeat'(first|refine wk3 ?_|(refine wk2 ?_ ?_<;>intro _)|fail)
 refine Yh [1] rfl ?_ rfl
 show Jx 1 0 (0+(nl (x::l)).length)=Jx 1 0 (nl (x::l)).length
 rw [Sg]
def runE (rows:List (List Int)) (ls e:List Int) (s:Int):Int:=if owE rows ls e≠0 then owE rows ls e else unl (within s 0 1000) 2
def runV (rows:List (List Int)) (ls e:List Int) (s:Int):List Int × Int:=if runE rows ls e s≠0 then ([],0) else Kg rows ls s.toNat e
abbrev Zx4 (rows:List (List Int)) (ls e:List Int):PRes:=⟨.tup [.isl 1 (nl (Og rows ls e).1),I (Og rows ls e).2],[]⟩
noncomputable abbrev Ybi:List AV->Option PRes:=famN (fun ns=>0<ns.length/\ns.length<100000) (fun ns=>⟨.isl 1 (nl ns),[]⟩)
noncomputable def kX4:PC:=ins 29 (Zta ExL fun rows ls e=>⟨.tup [exA rows ls,I (owE rows ls e)],[]⟩) (ins 36 Ybi (ins 34 (Zta StH Zx4) kX3))
theorem Zk4:PCOK Tryz.prog kX4:=Ya (fun q h=>d111 h) (Ya (fun ns h=>d113 h.1 h.2) (Ya (fun q h=>d114 h) Zsc))
theorem Zrw {rows:List (List Int)} {ls e:List Int} (h:owE rows ls e=0):StH rows ls e:=by
 unfold owE at h
 by_cases z:(exV rows ls).2=0
 ·rw [if_neg (fun c=>c z)] at h
  exact StH.of z h
 ·rw [if_pos z] at h; exact absurd h z
theorem d31 {rows:List (List Int)} {ls e:List Int} {s:Int} (h:ExL rows ls e):PCall Tryz.prog 15 [exA rows ls,.isl 1 (nl e),I s] ⟨.tup [.isl 1 (nl (runV rows ls e s).1),I (runV rows ls e s).2,I (runE rows ls e s)],[]⟩:=by
 have g1:=Zcg (fun rows ls e=>⟨.tup [exA rows ls,I (owE rows ls e)],[]⟩) h
 by_cases z:owE rows ls e=0
 rotate_left
 ·have e0:runE rows ls e s=owE rows ls e:=by unfold runE; rw [if_pos z]
  unfold runV
  rw [e0,if_pos z]
  refine Of (res:=⟨.tup [.nils,I 0,I (owE rows ls e)],[]⟩) ?_ ⟨rfl,⟨rfl,rfl⟩,⟨rfl,rfl⟩,trivial⟩
  refine pn Zk4 Tryz.func15 ?_
  repeat'(first|refine wk3 ?_|(refine wk2 ?_ ?_<;>intro _)|fail)
  exact Zd rfl rfl
 have e0:runE rows ls e s=unl (within s 0 1000) 2:=by unfold runE; rw [if_neg (fun c=>c z)]
 unfold runV
 rw [e0]
 rw [z] at g1
 by_cases y:within s 0 1000=true
 rotate_left
 ·have y:within s 0 1000=false:=by simpa using y
  have y2:unl (within s 0 1000) 2=2:=by rw [y]; rfl
  rw [if_pos (by omega)]
  refine Of (res:=⟨.tup [.nils,I 0,I (unl (within s 0 1000) 2)],[]⟩) ?_ ⟨rfl,⟨rfl,rfl⟩,⟨rfl,rfl⟩,trivial⟩
  refine pn Zk4 Tryz.func15 ?_
  repeat'(first|refine wk3 ?_|(refine wk2 ?_ ?_<;>intro _)|fail)
  exact Zd rfl rfl
 have y2:unl (within s 0 1000) 2=0:=by rw [y]; rfl
 have y3:=within_iff.1 y
 have hst:=Zrw z
 rw [if_neg (by omega),y2]
 have l1:=Ze e
 have g2:=Zfy (p:=fun ns=>0<ns.length/\ns.length<100000) (fun ns=>⟨.isl 1 (nl ns),[]⟩) (ns:=e) ⟨by have:=hst.x.pos; have:=hst.l; omega,h.2⟩
 refine pn Zk4 Tryz.func15 ?_
 repeat'(first|refine wk3 ?_|(refine wk2 ?_ ?_<;>intro _)|fail)
 refine Zo (S:=Nat × Int × List Int × Int) (fun t=>s.toNat-t.1) (fun t=>[(1,.isl 1 (nl t.2.2.1)),(9,.ptr 1 0 0),(11,I t.2.2.2),(29,I s),(30,I t.2.1)]) (fun _=>[(1,.row 2 [[.isl 1 (rows.map rv),.isl 1 (nl ls)]] true false),(0,.row 2 [[.isl 1 (rows.map rv),.isl 1 (nl ls)]] true false)]) 2 2 (fun t=>t.2.1=t.1/\t.1<=s.toNat/\Kg rows ls t.1 e=t.2.2) (0,0,e,0) ⟨rfl,Qk _,rfl⟩ (Qd _) [] rfl (kps) (kps) ?_
 rintro ⟨k,i,cur,all⟩ ⟨hi,hk,hh⟩
 dsimp only at hi hk hh ⊢
 subst hi
 refine bs.av (sx:=nos) Zk4 ?_
 by_cases hlt:k<s.toNat
 ·have hc:=hst.run k
  have hb:=(hst.all k).1
  have hb2:=(hst.all (k+1)).2
  have hr:=Zn3 (rows:=rows) (ls:=ls) k e
  rw [hr] at hb2
  rw [hh] at hr hc hb hb2
  have hp:=Zcg (p:=StH) Zx4 hc
  have hn:=(Zra hc.x hc.l hc.nn).1
  dsimp only at hr hc hb hb2 hp hn
  have w:Qa Qb (all+(Og rows ls cur).2)=all+(Og rows ls cur).2:=W_eq (by omega) (by omega)
  rw [<-w] at hr
  repeat'(first|refine wk3 ?_|(refine wk2 ?_ ?_<;>intro _)|fail)
  exact Qr ⟨(k+1,Qa Qb ((k:Int)+1),(Og rows ls cur).1,Qa Qb (all+(Og rows ls cur).2)),[],rfl,kps,kps,⟨Zg (by omega),hlt,hr⟩,by dsimp only; omega⟩
 ·have e1:k=s.toNat:=by omega
  subst e1
  repeat'(first|refine wk3 ?_|(refine wk2 ?_ ?_<;>intro _)|fail)
  exact Zd (by rw [hh]) rfl
noncomputable def kX5:PC:=kX4
theorem Yad:PCOK Tryz.prog kX5:=Zk4
theorem Yb3 {e:List Int} (hn:Nn e) (ht:tot e<=13000000000000):∀ x∈e,0<=x/\x<=13000000000000:=fun x hx=>⟨hn x hx,by have:=Zr9 hn x hx; omega⟩
theorem StH.sum {rows:List (List Int)} {ls e:List Int} (h:StH rows ls e):sumW 0 e=tot e:=by
 have:=h.l
 have:=h.n
 rw [Zmn (M:=13000000000000) (Yb3 h.nn h.t) (by omega) (by omega),Sz]
theorem StH.len {rows:List (List Int)} {ls e:List Int} (h:StH rows ls e):e.length<100000:=by
 have:=h.l
 have:=h.n
 omega
theorem Zfz {ns:List Int} (h:ns.length<1000000):cSum [.isl 1 (nl ns)]=some ⟨I (sumW 0 ns),[]⟩:=Zfy (p:=Len6) (fun ns=>⟨I (sumW 0 ns),[]⟩) h
abbrev U (n:Int):AV:=.int .u64 n
def u64 (n:Int):Prop:=0<=n/\n<18446744073709551616
theorem mkN (a:Nat) (ha:a<18446744073709551616):Qa Rq (((Rs IntKind.u64.bits (a:Int) &&& Rs IntKind.u64.bits 4294967295).toNat:Nat):Int)=((a%4294967296:Nat):Int):=by
 have h:=bits_and_u64_nat a 4294967295 ha (by omega)
 have e:a &&& 4294967295=a%4294967296:=Nat.and_two_pow_sub_one_eq_mod a 32
 rw [e] at h
 exact h
theorem fdN (a:Nat):(a:Int).fdiv (2 ^ min (Ps 32) IntKind.u64.bits)=((a / 4294967296:Nat):Int):=by
 rw [show (2 ^ min (Ps 32) IntKind.u64.bits:Int)=4294967296 from rfl,Int.fdiv_eq_ediv_of_nonneg _ (by omega)]; omega
theorem mulN (a b:Nat):(a:Int)*(b:Int)=((a*b:Nat):Int):=(Md a b).symm
theorem addN (a b:Nat):(a:Int)+(b:Int)=((a+b:Nat):Int):=(Int.natCast_add a b).symm
theorem Zj5 (a:Nat) (ha:a<18446744073709551616):Qa Rq (a:Int)=(a:Int):=by rw [Lv]; omega
theorem Ybr (a:Nat):Qa Rq (a:Int)=((a%18446744073709551616:Nat):Int):=by rw [Lv]; omega
theorem Zu6 (x y:Nat) (hx:x<18446744073709551616) (hy:y<18446744073709551616):Do [Da Rq (Qa Rq (Qa Rq (Qa Rq (((x:Int)).fdiv (2 ^ min (Ps 32) IntKind.u64.bits)*((y:Int)).fdiv (2 ^ min (Ps 32) IntKind.u64.bits))+((Qa Rq (Qa Rq (((x:Int)).fdiv (2 ^ min (Ps 32) IntKind.u64.bits)*Qa Rq ((Rs IntKind.u64.bits ((y:Int)) &&& Rs IntKind.u64.bits 4294967295).toNat:Int))+((Qa Rq ((Qa Rq ((Rs IntKind.u64.bits ((x:Int)) &&& Rs IntKind.u64.bits 4294967295).toNat:Int))*(Qa Rq ((Rs IntKind.u64.bits ((y:Int)) &&& Rs IntKind.u64.bits 4294967295).toNat:Int)))).fdiv (2 ^ min (Ps 32) IntKind.u64.bits)))).fdiv (2 ^ min (Ps 32) IntKind.u64.bits)))+((Qa Rq (Qa Rq ((Rs IntKind.u64.bits (Qa Rq (Qa Rq (((x:Int)).fdiv (2 ^ min (Ps 32) IntKind.u64.bits)*Qa Rq ((Rs IntKind.u64.bits ((y:Int)) &&& Rs IntKind.u64.bits 4294967295).toNat:Int))+((Qa Rq ((Qa Rq ((Rs IntKind.u64.bits ((x:Int)) &&& Rs IntKind.u64.bits 4294967295).toNat:Int))*(Qa Rq ((Rs IntKind.u64.bits ((y:Int)) &&& Rs IntKind.u64.bits 4294967295).toNat:Int)))).fdiv (2 ^ min (Ps 32) IntKind.u64.bits)))) &&& Rs IntKind.u64.bits 4294967295).toNat:Int)+Qa Rq (Qa Rq ((Rs IntKind.u64.bits ((x:Int)) &&& Rs IntKind.u64.bits 4294967295).toNat:Int)*((y:Int)).fdiv (2 ^ min (Ps 32) IntKind.u64.bits)))).fdiv (2 ^ min (Ps 32) IntKind.u64.bits)))),Da Rq (Qa Rq ((x:Int)*(y:Int)))]=Do [U ((x:Int)*(y:Int) / 18446744073709551616),U ((x:Int)*(y:Int)%18446744073709551616)]:=by
 obtain ⟨bd,bt,bw,hhi⟩:=Go.Lib.mul64_hi x y hx hy
 have ba:=Mx (a:=x / 4294967296) (b:=y / 4294967296) (by omega) (by omega)
 have bb:=Mx (a:=x / 4294967296) (b:=y%4294967296) (by omega) (by omega)
 have bc:=Mx (a:=x%4294967296) (b:=y / 4294967296) (by omega) (by omega)
 have ba' : x / 4294967296*(y / 4294967296)<18446744073709551616:=by omega
 have bb' : x / 4294967296*(y%4294967296)<18446744073709551616:=by omega
 have bc' : x%4294967296*(y / 4294967296)<18446744073709551616:=by omega
 have bh1:x / 4294967296*(y / 4294967296)+(x / 4294967296*(y%4294967296)+x%4294967296*(y%4294967296) / 4294967296) / 4294967296<18446744073709551616:=by omega
 have bh:x / 4294967296*(y / 4294967296)+(x / 4294967296*(y%4294967296)+x%4294967296*(y%4294967296) / 4294967296) / 4294967296+((x / 4294967296*(y%4294967296)+x%4294967296*(y%4294967296) / 4294967296)%4294967296+x%4294967296*(y / 4294967296)) / 4294967296<18446744073709551616:=by omega
 simp only [mkN x hx,mkN y hy,fdN,mulN,addN,Zj5 _ bd,Zj5 _ bb',Zj5 _ bt,mkN _ bt,Zj5 _ bc',Zj5 _ bw,Zj5 _ ba',Zj5 _ bh1,Zj5 _ bh,Ybr (x*y)]
 rw [hhi]
 rfl
theorem d185 {x y:Int} (hx:u64 x) (hy:u64 y):PCall Tryz.prog 58 [U x,U y] ⟨.tup [U (x*y / 18446744073709551616),U (x*y%18446744073709551616)],[]⟩:=by
 refine pn Zf Tryz.func58 ?_
 repeat'(first|refine wk1 ?_|(refine wk2 ?_ ?_<;>intro _)|fail)
 refine Zd ?_ rfl
 obtain ⟨h0,hx⟩:=hx
 obtain ⟨h1,hy⟩:=hy
 obtain ⟨a,rfl⟩:=Lw h0
 obtain ⟨b,rfl⟩:=Lw h1
 exact Zu6 a b (by omega) (by omega)
instance (n:Int):Decidable (u64 n):=by unfold u64; exact inferInstance
def Zx5:List AV->Option PRes
 | [.int .u64 x,.int .u64 y]=>asr (decide (u64 x/\u64 y)) ⟨.tup [U (x*y / 18446744073709551616),U (x*y%18446744073709551616)],[]⟩
 | _=>none
abbrev nnS (n:Int):Prop:=0<=n/\n<9223372036854775808
abbrev amOk (a b c d:Int):Prop:=nnS a/\nnS b/\nnS c/\nnS d
def kXu:PC:=ins 58 Zx5 pt0
theorem Yac:PCOK Tryz.prog kXu:=by
 refine Zj (fun a res h=>?_) Zf
 unfold Zx5 at h; split at h
 ·obtain ⟨h1,rfl⟩:=Xc h
  have:=of_decide_eq_true h1
  exact d185 this.1 this.2
 ·cases h
theorem Zzn {n:Int} (h:nnS n):Qa Rq n=n:=by
 obtain ⟨h0,h1⟩:=h
 rw [Lv]; omega
theorem Zkq {a b:Int} (ha:nnS a) (hb:nnS b):Zx5 [U (Qa Rq a),U (Qa Rq b)]=some ⟨.tup [U (a*b / 18446744073709551616),U (a*b%18446744073709551616)],[]⟩:=by
 rw [Zzn ha,Zzn hb]
 exact Ue ⟨⟨ha.1,by have:=ha.2; omega⟩,⟨hb.1,by have:=hb.2; omega⟩⟩
theorem d136 {a b c d:Int} (h:amOk a b c d):PCall Tryz.prog 33 [I a,I b,I c,I d] ⟨Bo (decide (a*b<=c*d)),[]⟩:=by
 obtain ⟨ha,hb,hc,hd⟩:=h
 have h1:=Zkq ha hb
 have h2:=Zkq hc hd
 have p1:0<=a*b:=Rb ha.1 hb.1
 have p2:0<=c*d:=Rb hc.1 hd.1
 refine pn Yac Tryz.func33 ?_
 generalize a*b=X at *
 generalize c*d=Y at *
 by_cases e:X<=Y
 ·rw [decide_eq_true e]
  repeat'(first|refine wk3 ?_|(refine wk2 ?_ ?_<;>intro _)|fail)
  all_goals first
   | exact Zc rfl
   | (refine Zc ?_; simp_all; done)
   | (refine Zc ?_; simp_all; omega)
   | (exfalso; simp_all; omega)
 ·rw [decide_eq_false e]
  repeat'(first|refine wk3 ?_|(refine wk2 ?_ ?_<;>intro _)|fail)
  all_goals first
   | exact Zc rfl
   | (refine Zc ?_; simp_all; done)
   | (refine Zc ?_; simp_all; omega)
   | (exfalso; simp_all; omega)
instance (a b c d:Int):Decidable (amOk a b c d):=by unfold amOk nnS; exact inferInstance
def r136:List AV->Option PRes
 | [.int .i64 a,.int .i64 b,.int .i64 c,.int .i64 d]=>asr (decide (amOk a b c d)) ⟨Bo (decide (a*b<=c*d)),[]⟩
 | _=>none
theorem Zu1 {a b c d:Int} (h:amOk a b c d):r136 [I a,I b,I c,I d]=some ⟨Bo (decide (a*b<=c*d)),[]⟩:=Ue h
noncomputable def kXs:PC:=ins 33 r136 kX5
theorem Zoh:PCOK Tryz.prog kXs:=by
 refine Zj (fun a res h=>?_) Yad
 unfold r136 at h; split at h
 ·obtain ⟨h1,rfl⟩:=Xc h; exact d136 (of_decide_eq_true h1)
 ·cases h
def Zhz (f:Nat->Bool):Nat->Nat->Int
 | _,0=>-1
 | k,c+1=>if f k then (k:Int) else Zhz f (k+1) c
theorem Zqc {f:Nat->Bool} {k n:Nat} (h:k<n):Zhz f k (n-k)=if f k then (k:Int) else Zhz f (k+1) (n-(k+1)):=by
 rw [show n-k=(n-(k+1))+1 by omega,Zhz]
def decN (rows:List (List Int)) (ls e:List Int) (m:Int) (n:Nat):Bool:=decide (tot (Kg rows ls n e).1*1000000<=m*tot e)
def stN (rows:List (List Int)) (ls e:List Int) (m:Int):Int:=Zhz (decN rows ls e m) 0 1001
def stE (rows:List (List Int)) (ls e:List Int) (m:Int):Int:=if owE rows ls e≠0 then owE rows ls e else unl (within m 0 1000000) 2
def stR (rows:List (List Int)) (ls e:List Int) (m:Int):Int × Int:=if stE rows ls e m≠0 then (0,stE rows ls e m) else if stN rows ls e m<0 then (0,12) else (stN rows ls e m,0)
theorem d61 {rows:List (List Int)} {ls e:List Int} {m:Int} (h:ExL rows ls e):PCall Tryz.prog 13 [exA rows ls,.isl 1 (nl e),I m] ⟨.tup [I (stR rows ls e m).1,I (stR rows ls e m).2],[]⟩:=by
 have g1:=Zcg (fun rows ls e=>⟨.tup [exA rows ls,I (owE rows ls e)],[]⟩) h
 by_cases z:owE rows ls e=0
 rotate_left
 ·have e0:stE rows ls e m=owE rows ls e:=by unfold stE; rw [if_pos z]
  have e1:stR rows ls e m=(0,owE rows ls e):=by unfold stR; rw [e0,if_pos z]
  rw [e1]
  refine pn Zoh Tryz.func13 ?_
  repeat'(first|refine wk3 ?_|(refine wk2 ?_ ?_<;>intro _)|fail)
  exact Zd rfl rfl
 have e0:stE rows ls e m=unl (within m 0 1000000) 2:=by unfold stE; rw [if_neg (fun c=>c z)]
 rw [z] at g1
 by_cases y:within m 0 1000000=true
 rotate_left
 ·have y:within m 0 1000000=false:=by simpa using y
  have y2:unl (within m 0 1000000) 2=2:=by rw [y]; rfl
  have e1:stR rows ls e m=(0,2):=by unfold stR; rw [e0,y2,if_pos (by omega)]
  rw [e1]
  refine pn Zoh Tryz.func13 ?_
  repeat'(first|refine wk3 ?_|(refine wk2 ?_ ?_<;>intro _)|fail)
  exact Zd (by rw [y2]) rfl
 have y2:unl (within m 0 1000000) 2=0:=by rw [y]; rfl
 have hm:=within_iff.1 y
 have hst:=Zrw z
 have e1:stR rows ls e m=if stN rows ls e m<0 then (0,12) else (stN rows ls e m,0):=by unfold stR; rw [e0,y2,if_neg (fun c=>c rfl)]
 rw [e1]
 have k1:=Zfz (ns:=e) (by have:=hst.len; omega)
 rw [hst.sum] at k1
 have tE:=hst.t
 have tE0:=Ze6 hst.nn
 refine pn Zoh Tryz.func13 ?_
 repeat'(first|refine wk3 ?_|(refine wk2 ?_ ?_<;>intro _)|fail)
 refine Zo (S:=Nat × Int × List Int) (fun t=>1001-t.1) (fun t=>[(1,.isl 1 (nl t.2.2)),(2,I m),(8,.ptr 1 0 0),(10,I (tot e)),(28,I t.2.1)]) (fun _=>[(1,.row 2 [[.isl 1 (rows.map rv),.isl 1 (nl ls)]] true false),(0,.row 2 [[.isl 1 (rows.map rv),.isl 1 (nl ls)]] true false)]) 2 2 (fun t=>t.2.1=t.1/\t.1<=1001/\(Kg rows ls t.1 e).1=t.2.2/\Zhz (decN rows ls e m) t.1 (1001-t.1)=stN rows ls e m) (0,0,e) ⟨rfl,Qk _,rfl,rfl⟩ (Qd _) [] rfl (kps) (kps) ?_
 rintro ⟨k,i,cur⟩ ⟨hi,hk,hc,hh⟩
 dsimp only at hi hk hc hh ⊢
 subst hi
 generalize stN rows ls e m=R at *
 refine bs.av (sx:=nos) Zoh ?_
 by_cases hlt:k<1001
 ·rw [Zqc hlt] at hh
  have hS:=hst.run k
  have hd:decN rows ls e m k=decide (tot (Kg rows ls k e).1*1000000<=m*tot e):=rfl
  have hr:=Zn3 (rows:=rows) (ls:=ls) k e
  rw [hc] at hS hd hr
  have k2:=Zfz (ns:=cur) (by have:=hS.len; omega)
  rw [hS.sum] at k2
  have h114:=Zcg (p:=StH) Zx4 hS
  have tC:=hS.t
  have tC0:=Ze6 hS.nn
  have ham:=Zu1 (a:=tot cur) (b:=1000000) (c:=m) (d:=tot e) ⟨⟨by omega,by omega⟩,⟨by omega,by omega⟩,⟨by omega,by omega⟩,⟨by omega,by omega⟩⟩
  by_cases c:tot cur*1000000<=m*tot e
  ·rw [hd,decide_eq_true c,if_pos rfl] at hh
   rw [decide_eq_true c] at ham
   repeat'(first|refine wk3 ?_|(refine wk2 ?_ ?_<;>intro _)|fail)
   exact Zd (by rw [<-hh,if_neg (by omega)]) rfl
  ·rw [hd,decide_eq_false c,if_neg (by simp)] at hh
   rw [decide_eq_false c] at ham
   repeat'(first|refine wk3 ?_|(refine wk2 ?_ ?_<;>intro _)|fail)
   exact Qr ⟨(k+1,Qa Qb ((k:Int)+1),(Og rows ls cur).1),[],rfl,kps,kps,⟨Zg (by omega),hlt,by rw [hr],hh⟩,by dsimp only; omega⟩
 ·rw [show 1001-k=0 by omega,Zhz] at hh
  repeat'(first|refine wk3 ?_|(refine wk2 ?_ ?_<;>intro _)|fail)
  exact Zd (by rw [<-hh,if_pos (by omega)]) rfl
end Go.Proofs.YtkmjliccopgocaaGreat
namespace Go.En
def hitG (dv:Int->Int):Nat->Nat->Int->Option Nat
 | _,0,_=>none
 | n,c+1,left=>if left<=1000000 then some n else hitG dv (n+1) c (dv left)
theorem hitG_step {dv:Int->Int} {n m:Nat} (h:n<m) (left:Int):hitG dv n (m-n) left=if left<=1000000 then some n else hitG dv (n+1) (m-(n+1)) (dv left):=by
 rw [show m-n=(m-(n+1))+1 by omega,hitG]
theorem Zdp {dv:Int->Int}:∀ {c n:Nat} {left:Int} {k:Nat},hitG dv n c left=some k->n<=k/\k<n+c
 | 0,_,_,_,h=>by simp [hitG] at h
 | c+1,n,left,k,h=>by
  rw [hitG] at h
  split at h
  ·cases h; omega
  ·have:=Zdp h; omega
theorem Zld {dv dw:Int->Int} (hd:∀ x y,0<=x->x<=y->0<=dv x/\dv x<=dw y):∀ {c n:Nat} {l1 l2:Int} {k:Nat},0<=l1->l1<=l2->hitG dw n c l2=some k->∃ j,hitG dv n c l1=some j/\j<=k
 | 0,_,_,_,_,_,_,h=>by simp [hitG] at h
 | c+1,n,l1,l2,k,h0,h1,h=>by
  rw [hitG] at h
  rw [hitG]
  by_cases a:l1<=1000000
  ·rw [if_pos a]
   refine ⟨n,rfl,?_⟩
   split at h
   ·cases h; exact Qd _
   ·have:=(Zdp h).1; omega
  ·rw [if_neg a]
   rw [if_neg (by omega)] at h
   obtain ⟨q1,q2⟩:=hd l1 l2 h0 h1
   exact Zld hd q1 q2 h
end Go.En
namespace Go.En
def dF (sh left:Int):Int:=left*sh / 1000000
def dC (sh left:Int):Int:=(left*sh+999999) / 1000000
structure Rv (S A:Int × Int):Prop where
 s1:1<=S.1
 s2:S.1<=S.2
 s3:S.2<=7000000000000
 a1:0<=A.1
 a2:A.1<=A.2
 a3:A.2<=S.2
 a4:A.1<=S.1
def loSh (S A:Int × Int):Int:=1000000*max 0 (S.1-A.2) / S.1
def hiSh (S A:Int × Int):Int:=(1000000*(S.2-A.1)+S.2-1) / S.2
theorem Yab {q n b:Int} (hb:0<b) (h:q*b<=n):q<=n / b:=(Int.le_ediv_iff_mul_le hb).2 h
theorem Ybe {q n b:Int} (hb:0<b) (h:n<=q*b):n / b<=q:=by
 have h1:=Int.ediv_le_ediv hb h
 rwa [Int.mul_ediv_cancel q (by omega)] at h1
theorem Zy7 {n b:Int} (hb:0<b):n / b*b<=n:=Int.ediv_mul_le n (by omega)
theorem Ybs {q n b:Int} (hb:0<b) (h:n<=q*b):(n+b-1) / b<=q:=by
 have:(n+b-1) / b<q+1:=by
  refine Int.ediv_lt_of_lt_mul hb ?_
  rw [Int.add_mul]; omega
 omega
theorem le_up {q n b:Int} (hb:0<b) (h:q*b<=n):q<=(n+b-1) / b:=Yab hb (by omega)
theorem loSh_bd {S A:Int × Int} (g:Rv S A):0<=loSh S A/\loSh S A<=1000000:=by
 obtain ⟨s1,s2,s3,a1,a2,a3,a4⟩:=g
 unfold loSh
 have:0<=max 0 (S.1-A.2)/\max 0 (S.1-A.2)<=S.1:=by omega
 exact ⟨Mh (by omega) (by omega),Ybe (by omega) (by omega)⟩
theorem hiSh_bd {S A:Int × Int} (g:Rv S A):0<=hiSh S A/\hiSh S A<=1000000:=by
 obtain ⟨s1,s2,s3,a1,a2,a3,a4⟩:=g
 unfold hiSh
 exact ⟨Mh (by omega) (by omega),Ybs (by omega) (by omega)⟩
theorem Ybw {S A B:Int × Int} (g:Rv S A) (k:Rv S B) (h:A.1<=B.2):loSh S B<=hiSh S A:=by
 obtain ⟨s1,s2,s3,a1,a2,a3,a4⟩:=g
 obtain ⟨_,_,_,b1,b2,b3,b4⟩:=k
 have l:=loSh_bd ⟨s1,s2,s3,b1,b2,b3,b4⟩
 unfold hiSh
 refine le_up (by omega) ?_
 by_cases c:S.1<=B.2
 ·have:loSh S B=0:=by
   unfold loSh
   rw [show max 0 (S.1-B.2)=0 by omega]
   simp
  rw [this]; omega
 ·have e:loSh S B*S.1<=1000000*(S.1-B.2):=by
   have:=Zy7 (n:=1000000*max 0 (S.1-B.2)) (b:=S.1) (by omega)
   unfold loSh
   rw [show max 0 (S.1-B.2)=S.1-B.2 by omega] at this ⊢
   exact this
  have e2:loSh S B*(S.2-S.1)<=1000000*(S.2-S.1):=Ta l.2 (by omega)
  rw [Gf] at e2
  omega
theorem dF_bd {sh x:Int} (h0:0<=sh) (h1:sh<=1000000) (x0:0<=x) (x1:x<=1000000000000):(0<=x*sh/\x*sh<=1000000000000000000)/\0<=dF sh x/\dF sh x<=1000000000000:=by
 have p:0<=x*sh:=Rb x0 h0
 have q:x*sh<=1000000000000*1000000:=My x1 h1 h0 (by omega)
 unfold dF
 omega
theorem dC_bd {sh x:Int} (h0:0<=sh) (h1:sh<=1000000) (x0:0<=x) (x1:x<=1000000000000):(0<=x*sh/\x*sh<=1000000000000000000)/\0<=dC sh x/\dC sh x<=1000000000000:=by
 have p:0<=x*sh:=Rb x0 h0
 have q:x*sh<=1000000000000*1000000:=My x1 h1 h0 (by omega)
 unfold dC
 omega
theorem dFC {s t x y:Int} (s0:0<=s) (st:s<=t) (x0:0<=x) (xy:x<=y):0<=dF s x/\dF s x<=dC t y:=by
 have p:0<=x*s:=Rb x0 s0
 have q:x*s<=y*t:=My xy st s0 (by omega)
 unfold dF dC
 omega
theorem hitG_congr {dv dw:Int->Int} (h:∀ x,0<=x->x<=1000000000000->dv x=dw x/\0<=dw x/\dw x<=1000000000000):∀ (c n:Nat) (l:Int),0<=l->l<=1000000000000->hitG dv n c l=hitG dw n c l
 | 0,_,_,_,_=>rfl
 | c+1,n,l,l0,l1=>by
  obtain ⟨e,x0,x1⟩:=h l l0 l1
  rw [hitG,hitG,e,hitG_congr h c (n+1) (dw l) x0 x1]
abbrev hitsC (sh:Int):Option Nat:=hitG (dC sh) 0 1001 1000000000000
abbrev hitsF (sh:Int):Option Nat:=hitG (dF sh) 0 1001 1000000000000
theorem hits_pos {dv:Int->Int} {k:Nat} (h:hitG dv 0 1001 1000000000000=some k):1<=k/\k<=1000:=by
 have b:=Zdp h
 rw [show (1001:Nat)=1000+1 from rfl,hitG,if_neg (by omega)] at h
 have:=Zdp h
 omega
def hitsV (S A:Int × Int):(Int × Int) × Int:=match hitsC (hiSh S A) with
 | none=>((0,0),8)
 | some k=>match hitsF (loSh S A) with
  | none=>((0,0),8)
  | some j=>(((j:Int),(k:Int)),0)
theorem hits_lo {S A:Int × Int} (g:Rv S A) {k:Nat} (h:hitsC (hiSh S A)=some k):∃ j,hitsF (loSh S A)=some j/\j<=k:=by
 have l:=loSh_bd g
 have s:=Ybw g g (by have:=g.a2; omega)
 exact Zld (fun x y x0 xy=>dFC l.1 s x0 xy) (by omega) (Ob _) h
end Go.En
namespace Go.En
def itC (sh:Int):Nat->Int->Int
 | 0,x=>x
 | k+1,x=>itC sh k (dC sh x)
theorem Zsw {sh:Int}:∀ {c n:Nat} {left:Int} {k:Nat},hitG (dC sh) n c left=some k->itC sh (k-n) left<=1000000
 | 0,_,_,_,h=>by simp [hitG] at h
 | c+1,n,left,k,h=>by
  have hg:=Zdp h
  rw [hitG] at h
  split at h
  ·cases h
   rw [Nat.sub_self]
   assumption
  ·have h2:=(Zdp h).1
   have:=Zsw h
   rw [show k-n=(k-(n+1))+1 by omega,itC]
   exact this
variable {n:Nat} {rows:List (List Int)} {ls:List Int}
theorem Zrb (h:ExOk n rows ls) {e:List Int} (he:e.length=n) (hn:Nn e) {p:Int} (p0:0<=p) (hp:∀ x∈ls,x=p):tot (step rows ls e).1*1000<=tot e*(1000-p):=by
 have k:=(Zid h 1 he hn).2.2.2
 have k:tot (step rows ls e).1+(step rows ls e).2=tot e:=by simpa [run] using k
 have a:(step rows ls e).2=Zjg ls e:=by
  have:=Zkc (rows:=rows) (ls:=ls) (e:=e) (out:=zer e.length) (all:=0) (by rw [h.rl,he]) (by rw [h.ll,he])
  unfold step
  rw [this]; omega
 have b:=(Zoe (least:=p) (most:=p) p0 (ls:=ls) (e:=e) (by rw [h.ll,he]) hn (fun x hx=>by rw [hp x hx]; omega)).1
 rw [Gf]
 generalize tot e*p=q at *
 omega
theorem Zn4 (h:ExOk n rows ls) {p:Int} (p0:0<=p) (p1:p<=1000) (hp:∀ x∈ls,x=p) {sh:Int} (hs:1000*(1000-p)<=sh) {T D:Int} (hT:0<=T) (hD:0<=D) :
  ∀ (k:Nat) {e:List Int} {x:Int},e.length=n->Nn e->0<=x->tot e*D<=T*x->tot (run rows ls k e).1*D<=T*itC sh k x
 | 0,_,_,_,_,_,h2=>h2
 | k+1,e,x,he,hn,hx,h2=>by
  have h1:=Zrb h he hn p0 hp
  have ho:=Zid h 1 he hn
  have ho1:(step rows ls e).1.length=n:=by simpa [run] using ho.1
  have ho2:Nn (step rows ls e).1:=by simpa [run] using ho.2.1
  have hsh:0<=sh:=by omega
  have hxs:0<=x*sh:=Rb hx hsh
  have h3:x*sh<=dC sh x*1000000:=by unfold dC; omega
  have hy:0<=dC sh x:=by unfold dC; omega
  refine Zn4 h p0 p1 hp hs hT hD k ho1 ho2 hy ?_
  generalize dC sh x=y at *
  generalize tot (step rows ls e).1=b at *
  generalize tot e=a at *
  obtain ⟨q,hq⟩:∃ q,1000-p=q:=⟨_,rfl⟩
  rw [hq] at h1 hs
  have hq0:0<=q:=by omega
  have c1:b*1000*D<=a*q*D:=Ta h1 hD
  have c2:a*D*q<=T*x*q:=Ta h2 hq0
  have c3:T*x*(1000*q)<=T*x*sh:=Rm hs (Rb hT hx)
  have c4:T*(x*sh)<=T*(y*1000000):=Rm h3 hT
  have e1:b*1000*D=b*D*1000:=by rw [Wd,Kh 1000 D,<-Wd]
  have e2:a*q*D=a*D*q:=by rw [Wd,Kh q D,<-Wd]
  have e3:T*x*(1000*q)=T*x*q*1000:=by rw [Kh 1000 q,<-Wd]
  have e4:T*x*sh=T*(x*sh):=Wd _ _ _
  have e5:T*(y*1000000)=T*y*1000000:=by rw [<-Wd]
  rw [e1,e2] at c1
  rw [e3,e4] at c3
  rw [e5] at c4
  generalize b*D=B at *
  generalize a*D*q=A at *
  generalize T*x*q=C at *
  generalize T*(x*sh)=E at *
  generalize T*y=F at *
  omega
theorem Zpp (h:ExOk n rows ls) {e:List Int} (he:e.length=n) (hn:Nn e) {p:Int} (p0:0<=p) (p1:p<=1000) (hp:∀ x∈ls,x=p) {sh:Int} (hs:1000*(1000-p)<=sh) {k:Nat} (hk:hitsC sh=some k) :
  tot (run rows ls k e).1*1000000<=1*tot e:=by
 have hT:=Ze6 hn
 have h1:=Zn4 h p0 p1 hp hs hT (D:=1000000000000) (by omega) k he hn (x:=1000000000000) (by omega) (Ob _)
 have h2:=Zsw hk
 rw [Nat.sub_zero] at h2
 have h3:tot e*itC sh k 1000000000000<=tot e*1000000:=Rm h2 hT
 omega
end Go.En
namespace Go.Proofs.YtkmjliccopgocaaGreat
open Go Go.Sx Go.En
theorem c25g (ns:List Int) (hl:ns.length<=17592186044416):PCall Tryz.prog 14 [.isl 1 (nl ns)] ⟨.asl 0 0 (nl ns).length,[(1,nl ns)]⟩:=by
 have h1:=Zgw ns
 have h2:=Ze ns
 have h3:decide (0=([]:List (List AV)).length/\([]:List (List AV)).length+(nl ns).length<=limB 8)=true:=decide_eq_true ⟨rfl,by rw [h2]; show 0+ns.length<=17592186044416; omega⟩
 refine pn Zf Tryz.func14 ?_
 repeat'(first|refine wk0 ?_|(refine wk2 ?_ ?_<;>intro _)|fail)
 refine Yh [1] rfl ?_ rfl
 show Jx 1 0 (0+(nl ns).length)=Jx 1 0 (nl ns).length
 rw [Sg]
noncomputable abbrev Ztt:List AV->Option PRes:=famA (fun ns:List Int=>ns.length<=17592186044416) (fun ns=>[.isl 1 (nl ns)]) (fun ns=>⟨.isl 1 (nl ns),[]⟩)
theorem Zix {ns:List Int} (h:ns.length<=17592186044416):Ztt [.isl 1 (nl ns)]=some ⟨.isl 1 (nl ns),[]⟩ :=
 Xb (p:=fun ns:List Int=>ns.length<=17592186044416) (g:=fun ns=>[.isl 1 (nl ns)]) (r:=fun ns=>⟨.isl 1 (nl ns),[]⟩) (k:=ns) (fun j hj=>by
  simp only [Rl,Wc,true_and,and_true] at hj
  rw [Zd2 hj]) h
noncomputable abbrev Zxg:List AV->Option PRes:=famA (fun ns:List Int=>ns.length<=17592186044416) (fun ns=>[.isl 1 (nl ns)]) (fun ns=>⟨.asl 0 0 (nl ns).length,[(1,nl ns)]⟩)
theorem Zqj {ns:List Int} (h:ns.length<=17592186044416):Zxg [.isl 1 (nl ns)]=some ⟨.asl 0 0 (nl ns).length,[(1,nl ns)]⟩ :=
 Xb (p:=fun ns:List Int=>ns.length<=17592186044416) (g:=fun ns=>[.isl 1 (nl ns)]) (r:=fun ns=>⟨.asl 0 0 (nl ns).length,[(1,nl ns)]⟩) (k:=ns) (fun j hj=>by
  simp only [Rl,Wc,true_and,and_true] at hj
  rw [Zd2 hj]) h
noncomputable def kGa:PC:=ins 14 Ztt pt0
theorem Zon:PCOK Tryz.prog kGa:=Ya (fun ns h=>(c25g ns h).freeze ⟨rfl,rfl,rfl⟩) Zf
theorem Ycn {rows:List (List Int)} (hl:rows.length<100000) (he:∀ r∈rows,r.length<=17592186044416):PCall Tryz.prog 23 [.isl 1 (rows.map rv)] ⟨.isl 1 (rows.map rv),[]⟩:=by
 have l1:=Xn rows
 by_cases h0:rows.length=0
 ·obtain rfl:=List.eq_nil_of_length_eq_zero h0
  refine Of (res:=⟨.nils,[]⟩) ?_ rfl
  refine pn Zon Tryz.func23 ?_
  conv=>whnf
  refine Tx 1 ?_
  refine Rn (bs.av (sx:=nos) Zon ?_)
  repeat'(first|refine wk3 ?_|(refine wk2 ?_ ?_<;>intro _)|fail)
  exact Zd rfl rfl
 refine Of (res:=⟨.asl 0 0 (rows.map rv).length,[(1,rows.map rv)]⟩) ?_ ⟨rfl,rfl,rfl⟩
 refine pn Zon Tryz.func23 ?_
 conv=>whnf
 refine Zo (S:=Nat × Int × Nat × List (List AV)) (fun t=>rows.length-t.1) (fun t=>[(0,.isl 1 (rows.map rv)),(3,gv 0 t.1 t.2.2.1),(4,I t.2.1)]) (fun t=>gz 0 1 t.1 t.2.2.2 []) 0 1
  (fun t=>t.2.1=t.1/\t.1<=rows.length/\t.2.2.1=t.2.2.2.length/\t.2.2.2=(rows.take t.1).map rv) (0,0,0,[]) ⟨rfl,Qk _,rfl,rfl⟩ (Qd _) [] rfl (kps) (kps) ?_
 rintro ⟨k,i,len,els⟩ ⟨hi,hk,hlen,hels⟩
 dsimp only at hi hk hlen hels ⊢
 subst hi
 refine bs.av (sx:=nos) Zon ?_
 have e4:els.length<100000:=by rw [hels,List.length_map,List.length_take]; omega
 by_cases hlt:k<rows.length
 ·have e1:=Zkj hlt
  have e3:(rows.take (k+1)).map rv=(rows.take k).map rv++[[.isl 1 (nl rows[k])]]:=by rw [List.take_succ_eq_append_getElem hlt,List.map_append]; rfl
  have e2:=Zix (he _ (Qq hlt))
  generalize rows[k]=r at *
  cases k with
  | zero =>
   repeat'(first|refine wk3 ?_|(refine wk2 ?_ ?_<;>intro _)|fail)
   exact Qr ⟨(1,_,_,_),[(0,2)],rfl,kps,kps,⟨Zg (k:=0) (by omega),hlt,rfl,e3.symm⟩,by dsimp only; omega⟩
  | succ k =>
   repeat'(first|refine wk3 ?_|(refine wk2 ?_ ?_<;>intro _)|fail)
   exact Qr ⟨(k+1+1,_,_,_),[(0,2)],rfl,kps,kps,⟨Zg (k:=k+1) (by omega),hlt,by exact List.length_append.symm,by show _=_; rw [e3,<-hels]; rfl⟩,by dsimp only; omega⟩
 ·rw [Rr (by omega)] at hels
  subst hels hlen
  cases k with
  | zero=>omega
  | succ k =>
   repeat'(first|refine wk3 ?_|(refine wk2 ?_ ?_<;>intro _)|fail)
   exact Yh [0] rfl rfl rfl
noncomputable abbrev Zxi:List AV->Option PRes:=famA (fun rows:List (List Int)=>rows.length<100000/\∀ r∈rows,r.length<=17592186044416) (fun rows=>[.isl 1 (rows.map rv)]) (fun rows=>⟨.isl 1 (rows.map rv),[]⟩)
theorem Zqk {rows:List (List Int)} (h:rows.length<100000/\∀ r∈rows,r.length<=17592186044416):Zxi [.isl 1 (rows.map rv)]=some ⟨.isl 1 (rows.map rv),[]⟩ :=
 Xb (p:=fun rows:List (List Int)=>rows.length<100000/\∀ r∈rows,r.length<=17592186044416) (g:=fun rows=>[.isl 1 (rows.map rv)]) (r:=fun rows=>⟨.isl 1 (rows.map rv),[]⟩) (k:=rows) (fun j hj=>by
  simp only [Rl,Wc,true_and,and_true] at hj
  rw [Zws hj]) h
structure ExG (rows:List (List Int)) (ls:List Int):Prop where
 r:rows.length<100000
 e:∀ r∈rows,r.length<=17592186044416
 l:ls.length<=17592186044416
noncomputable def kGb:PC:=ins 23 Zxi (ins 14 Zxg pt0)
theorem Yaj:PCOK Tryz.prog kGb:=Ya (fun q h=>Ycn h.1 h.2) (Ya (fun ns h=>c25g ns h) Zf)
theorem d28g {rows:List (List Int)} {ls:List Int} (h:ExG rows ls):PCall Tryz.prog 8 [exA rows ls] ⟨.agg [.isl 1 (rows.map rv),.asl 0 0 (nl ls).length],[(1,nl ls)]⟩:=by
 have g1:=Zqk (rows:=rows) ⟨h.r,h.e⟩
 have g2:=Zqj h.l
 refine pn Yaj Tryz.func8 ?_
 repeat'(first|refine wk3 ?_|(refine wk2 ?_ ?_<;>intro _)|fail)
 all_goals first
  | exact Yh [2] rfl rfl rfl
  | exact Yh [1] rfl rfl rfl
  | exact Yh [3] rfl rfl rfl
  | exact Yh [4] rfl rfl rfl
  | exact Yh [5] rfl rfl rfl
  | exact Yh [6] rfl rfl rfl
  | exact Yh [7] rfl rfl rfl
  | exact Yh [8] rfl rfl rfl
theorem d32g (rows:List (List Int)) (ls:List Int):PCall Tryz.prog 9 [exA rows ls] ⟨.tup [I (exV rows ls).1,I (exV rows ls).2],[]⟩:=by
 have l1:=Xn rows
 have l2:=Ze ls
 unfold exV
 by_cases h0:rows.length=0
 ·rw [if_pos h0]
  refine pn Zl Tryz.func9 ?_
  repeat'(first|refine wk3 ?_|(refine wk2 ?_ ?_<;>intro _)|fail)
  exact Zd rfl rfl
 rw [if_neg h0]
 by_cases h1:12<rows.length
 ·rw [if_pos h1]
  refine pn Zl Tryz.func9 ?_
  repeat'(first|refine wk3 ?_|(refine wk2 ?_ ?_<;>intro _)|fail)
  exact Zd rfl rfl
 rw [if_neg h1]
 by_cases h2:ls.length=rows.length
 rotate_left
 ·rw [if_neg h2]
  refine pn Zl Tryz.func9 ?_
  repeat'(first|refine wk3 ?_|(refine wk2 ?_ ?_<;>intro _)|fail)
  exact Zd rfl rfl
 rw [if_pos h2]
 refine pn Zl Tryz.func9 ?_
 repeat'(first|refine wk3 ?_|(refine wk2 ?_ ?_<;>intro _)|fail)
 refine Zo (S:=Nat × Int) (fun t=>rows.length-t.1) (fun t=>[(1,.ptr 0 0 0),(4,I (rows.map rv).length),(5,I t.2)]) (fun _=>[(0,.row 2 [[.isl 1 (rows.map rv),.isl 1 (nl ls)]] true false)]) 1 1 (fun t=>t.2=t.1/\t.1<=rows.length/\exGo rows.length t.1 (rows.drop t.1) (ls.drop t.1)=exGo rows.length 0 rows ls) (0,0) ⟨rfl,Qk _,rfl⟩ (Qd _) [] rfl (kps) (kps) ?_
 rintro ⟨k,i⟩ ⟨hi,hk,hh⟩
 dsimp only at hi hk hh ⊢
 subst hi
 generalize exGo rows.length 0 rows ls=R at *
 refine bs.av (sx:=nos) Zl ?_
 by_cases hlt:k<rows.length
 ·have e1:=Zkj hlt
  have e2:=Yz (ns:=ls) (k:=k) (by omega)
  rw [Qg hlt,Qg (show k<ls.length by omega),exGo] at hh
  generalize rows[k]=r at *
  generalize ls[k]'(by omega)=L at *
  have l3:=Ze r
  unfold rowE at hh
  by_cases z1:r.length=rows.length
  rotate_left
  ·rw [if_neg z1,if_neg (by omega)] at hh
   subst hh
   repeat'(first|refine wk3 ?_|(refine wk2 ?_ ?_<;>intro _)|fail)
   exact Zd rfl rfl
  rw [if_pos z1] at hh
  repeat'(first|refine wk3 ?_|(refine wk2 ?_ ?_<;>intro _)|fail)
  refine Zo (S:=Nat × Int × Int) (fun t=>r.length-t.1) (fun t=>[(1,.ptr 0 0 0),(4,I (rows.map rv).length),(5,I (k:Int)),(6,I t.2.2),(7,I t.2.1)]) (fun _=>[(0,.row 2 [[.isl 1 (rows.map rv),.isl 1 (nl ls)]] true false)]) 1 1 (fun t=>t.2.1=t.1/\t.1<=r.length/\Zgn t.2.2 (r.drop t.1)=Zgn 0 r) (0,0,0) ⟨rfl,Qk _,rfl⟩ (Qd _) [] rfl (kps) (kps) ?_
  rintro ⟨j,ij,s⟩ ⟨hij,hj,hq⟩
  dsimp only at hij hj hq ⊢
  subst hij
  rw [Zdz r 0] at hq
  refine bs.av (sx:=nos) Zl ?_
  by_cases hlj:j<r.length
  ·have e4:=Yz hlj
   rw [Qg hlj,Zgn,Zap] at hq
   generalize r[j]=x at *
   generalize hb:within x 0 1000=b at *
   cases b
   ·rw [if_neg (by simp)] at hq
    have hz:¬ (r.all shr)=true:=fun c=>by rw [if_pos c] at hq; cases hq
    rw [if_neg hz,if_neg (by omega)] at hh
    subst hh
    repeat'(first|refine wk3 ?_|(refine wk2 ?_ ?_<;>intro _)|fail)
    all_goals first
     | exact Zd rfl rfl
     | (exfalso; simp_all; done)
   ·rw [if_pos rfl,<-Zdz r 0] at hq
    repeat'(first|refine wk3 ?_|(refine wk2 ?_ ?_<;>intro _)|fail)
    all_goals first
     | exact Qr ⟨(j+1,_,_),[],rfl,kps,kps,⟨Zg (by omega),hlj,hq⟩,by dsimp only; omega⟩
     | (exfalso; simp_all; done)
  ·rw [Qj (by omega),Zgn] at hq
   have hz:(r.all shr)=true:=by
    by_cases c:(r.all shr)=true
    ·exact c
    ·rw [if_neg c] at hq; cases hq
   rw [if_pos hz] at hq
   rw [if_pos hz] at hh
   have hq:=Rx hq
   rw [Zq4 hz (by omega)] at hq
   subst hq
   by_cases z3:tot r=1000
   rotate_left
   ·rw [if_neg z3,if_neg (by omega)] at hh
    subst hh
    repeat'(first|refine wk3 ?_|(refine wk2 ?_ ?_<;>intro _)|fail)
    exact Zd rfl rfl
   rw [if_pos z3] at hh
   rw [Zap] at hh
   generalize hb:within L 0 1000=b at *
   cases b
   ·rw [if_neg (show ¬ (false=true) by simp),if_neg (show ¬ ((2:Int)=0) by omega)] at hh
    subst hh
    repeat'(first|refine wk3 ?_|(refine wk2 ?_ ?_<;>intro _)|fail)
    all_goals first
     | exact Zd rfl rfl
     | (exfalso; simp_all; done)
   ·rw [if_pos rfl,if_pos rfl] at hh
    repeat'(first|refine wk3 ?_|(refine wk2 ?_ ?_<;>intro _)|fail)
    all_goals first
     | exact Qr ⟨(k+1,_),[],rfl,kps,kps,⟨Zg (by omega),hlt,hh⟩,by dsimp only; omega⟩
     | (exfalso; simp_all; done)
 ·rw [Qj (by omega),exGo] at hh
  ·subst hh
   repeat'(first|refine wk3 ?_|(refine wk2 ?_ ?_<;>intro _)|fail)
   exact Zd rfl rfl
  ·intro a b c d e; cases e
theorem d40g {rows:List (List Int)} {ls:List Int} (hr:rows.length<100000) (e:List Int):PCall Tryz.prog 10 [exA rows ls,.isl 1 (nl e)] ⟨I (enE rows.length e),[]⟩:=by
 by_cases h:e.length<1000000
 ·exact d40 hr h
 ·have l1:=Xn rows
  have l2:=Ze e
  have hn:enE rows.length e=10:=by
   unfold enE
   rw [if_neg (by omega)]
  rw [hn]
  refine pn Zf Tryz.func10 ?_
  repeat'(first|refine wk3 ?_|(refine wk2 ?_ ?_<;>intro _)|fail)
  all_goals first
   | exact Zb rfl
   | (exfalso; simp_all; done)
   | (exfalso; simp_all; omega)
open Go Go.Sx
structure SetOk (h:Hal) (s:Stg):Prop where
 len:s.hs.length=h.ks.length
 hs:∀ j (h1:j<h.ks.length) (h2:j<s.hs.length),0<=s.hs[j]/\s.hs[j]<h.ks[j].hs.length
 dr:∀ d∈s.dr,0<=d/\d<h.ws.length/\curt h d≠⟨#[]⟩
 up:s.dr.Pairwise (· < ·)
theorem Zos {h:Hal} (hf:h.few):∀ (l:List Int) (i:Nat),hgE h i l=0->∀ j (h1:i+j<h.ks.length) (h2:j<l.length),0<=l[j]/\l[j]<h.ks[i+j].hs.length
 | [],i,_,j,_,h2=>by simp at h2
 | n::l,i,h0,j,h1,h2=>by
  rw [hgE] at h0
  split at h0
  ·rename_i hw
   cases j with
   | zero =>
    have hk:i<h.ks.length:=by omega
    have hl:=hf.2.2.2.2.2 _ (Qq hk)
    rw [show kLen h i=(h.ks[i].hs.length:Int) by unfold kLen; rw [Qi hk],W_eq (by omega) (by omega)] at hw
    have hw:=within_iff.1 hw
    simp only [List.getElem_cons_zero,Nat.add_zero]
    omega
   | succ j =>
    have:=Zos hf l (i+1) h0 j (by omega) (by simpa using h2)
    simp only [List.getElem_cons_succ]
    have e:i+1+j=i+(j+1):=by omega
    simp only [e] at this
    exact this
  ·cases h0
theorem Zo1 {h:Hal} (hf:h.few):∀ (l:List Int) (p:Option Int),drE h p l=0->(∀ d∈l,(0<=d/\d<h.ws.length/\curt h d≠⟨#[]⟩)/\(∀ q,p=some q->q<d))/\l.Pairwise (· < ·)
 | [],p,_=>⟨by simp,.nil⟩
 | n::l,p,h0=>by
  rw [drE] at h0
  split at h0
  ·rename_i ho
   split at h0
   ·cases h0
   ·rename_i hn
    obtain ⟨g1,g2⟩:=Zo1 hf l (some n) h0
    have hl:=hf.2.2.1
    unfold drOk at ho
    rw [Qc,W_eq (by omega) (by omega),within_iff,Sf,Zbr,decide_eq_false_iff_not] at ho
    have hp:∀ q,p=some q->q<n:=by
     rintro q rfl
     simp only [Zr3,decide_eq_true_eq] at hn
     omega
    refine ⟨fun d hd=>?_,List.pairwise_cons.2 ⟨fun d hd=>(g1 d hd).2 n rfl,g2⟩⟩
    rcases List.mem_cons.1 hd with rfl|hd
    ·exact ⟨⟨by omega,by omega,ho.2⟩,hp⟩
    ·refine ⟨(g1 d hd).1,fun q hq=>?_⟩
     have:=(g1 d hd).2 n rfl
     have:=hp q hq
     omega
  ·cases h0
theorem Zxz {h:Hal} (hf:h.few) {s:Stg} (h0:setE h s=0):SetOk h s:=by
 unfold setE at h0
 split at h0
 ·rename_i hl
  split at h0
  ·rename_i hg
   obtain ⟨g1,g2⟩:=Zo1 hf s.dr none h0
   refine ⟨by omega,fun j h1 h2=>?_,fun d hd=>(g1 d hd).1,g2⟩
   have:=Zos hf s.hs 0 hg j (by omega) h2
   simpa using this
  ·rename_i hg; exact absurd h0 hg
 ·cases h0
def nsur (h:Hal):Int:=(h.ws.length:Int)+2+h.ks.length
def surE (h:Hal) (s:Stg) (i:Int):Int:=if serr h s=0 then (if within i 0 (nsur h-1) then 0 else 6) else serr h s
theorem c172 {h:Hal} (s:Stg):PCall Tryz.prog 96 [.agg (stgL h s)] ⟨I (h.ws.length:Int),[]⟩:=by
 have l:=Yn h.ws
 refine pn Zf Tryz.func96 ?_
 repeat'(first|refine wk0 ?_|(refine wk2 ?_ ?_<;>intro _)|fail)
 exact Zb (by omega)
theorem c173 {h:Hal} (hf:h.few) (s:Stg):PCall Tryz.prog 97 [.agg (stgL h s)] ⟨I ((h.ws.length:Int)+1),[]⟩:=by
 have l:=Yn h.ws
 refine pn Zf Tryz.func97 ?_
 repeat'(first|refine wk0 ?_|(refine wk2 ?_ ?_<;>intro _)|fail)
 exact Zb (by show Qa Qb (((h.ws.map Wal.av).length:Int)+1)=_; have:=hf.2.2.1; rw [W_eq (by omega) (by omega)]; omega)
theorem c84 {h:Hal} (hf:h.few) (s:Stg):PCall Tryz.prog 77 [.agg (stgL h s)] ⟨I (nsur h),[]⟩:=by
 have l:=Yn h.ws
 have l2:=Xq h.ks
 refine pn Zf Tryz.func77 ?_
 repeat'(first|refine wk0 ?_|(refine wk2 ?_ ?_<;>intro _)|fail)
 exact Zb (by
  show Qa Qb (Qa Qb (((h.ws.map Wal.av).length:Int)+2)+((h.ks.map Can.av).length:Int))=_
  have:=hf.2.2.1; have:=hf.2.2.2.1; unfold nsur; rw [W_eq (n:=((h.ws.map Wal.av).length:Int)+2) (by omega) (by omega),W_eq (by omega) (by omega)]; omega)
noncomputable def kS1 (h:Hal) (s:Stg) (i:Int):PC:=ins 96 (one [.agg (stgL h s)] ⟨I (h.ws.length:Int),[]⟩) (ins 97 (one [.agg (stgL h s)] ⟨I ((h.ws.length:Int)+1),[]⟩) (ins 77 (one [.agg (stgL h s)] ⟨I (nsur h),[]⟩) (ins 75 (one [h.av,s.av] ⟨.tup [.agg (stgL h s),I (serr h s)],[]⟩) k93)))
theorem Yaf {h:Hal} (hk:h.ok) {s:Stg} (hs:s.few) (i:Int):PCOK Tryz.prog (kS1 h s i):=Zi (c172 s) (Zi (c173 hk.f s) (Zi (c84 hk.f s) (Zi (c83 hk hs) Zc5)))
theorem c109 {h:Hal} (hk:h.ok) {s:Stg} (hs:s.few) (i:Int):PCall Tryz.prog 105 [h.av,s.av,I i] ⟨.tup [.agg (stgL h s),I (surE h s i)],[]⟩:=by
 have hw:Qa Qb (nsur h-1)=nsur h-1:=W_eq (by have:=hk.f.2.2.1; have:=hk.f.2.2.2.1; unfold nsur; omega) (by have:=hk.f.2.2.1; have:=hk.f.2.2.2.1; unfold nsur; omega)
 refine pn (Yaf hk hs i) Tryz.func105 ?_
 repeat'(first|refine wk0 ?_|(refine wk2 ?_ ?_<;>intro _)|fail)
 ·rename_i h1 h2
  have e:surE h s i=6:=by unfold surE; rw [if_pos (of_decide_eq_true h1)]; rw [hw] at h2; simp_all
  rw [e]; exact Zd rfl rfl
 ·rename_i h1 h2
  have e0:serr h s=0:=of_decide_eq_true h1
  have e:surE h s i=0:=by unfold surE; rw [if_pos e0]; rw [hw] at h2; simp_all
  rw [e,<-e0]; exact Zd rfl rfl
 ·rename_i h1
  have e:surE h s i=serr h s:=by unfold surE; rw [if_neg (of_decide_eq_false h1)]
  rw [e]; exact Zd rfl rfl
structure Sit (h:Hal) (s:Stg):Prop where
 ok:h.ok
 fine:h.fine
 sf:s.few
 set:SetOk h s
theorem Zri {h:Hal} (hk:h.ok) {s:Stg} (hs:s.few) (h0:serr h s=0):Sit h s:=by
 unfold serr at h0
 split at h0
 ·rename_i he
  exact ⟨hk,Zna hk he,hs,Zxz hk.f h0⟩
 ·rename_i he; exact absurd h0 he
inductive SK (h:Hal):Int->Prop
 | wall (k:Nat) (hk:k<h.ws.length):SK h k
 | floor:SK h h.ws.length
 | ceil:SK h ((h.ws.length:Int)+1)
 | can (j:Nat) (hj:j<h.ks.length):SK h ((h.ws.length:Int)+2+j)
theorem Zur {h:Hal} {i:Int} (h0:0<=i) (h1:i<nsur h):SK h i:=by
 unfold nsur at h1
 by_cases c1:i<h.ws.length
 ·have:=SK.wall (h:=h) i.toNat (by omega)
  rwa [Mm h0] at this
 by_cases c2:i=h.ws.length
 ·rw [c2]; exact .floor
 by_cases c3:i=(h.ws.length:Int)+1
 ·rw [c3]; exact .ceil
 have:=SK.can (h:=h) (i-h.ws.length-2).toNat (by omega)
 rwa [Mm (by omega),show (h.ws.length:Int)+2+(i-h.ws.length-2)=i by omega] at this
theorem Zq5 {h:Hal} {s:Stg} {i:Int} (h0:surE h s i=0):serr h s=0/\0<=i/\i<nsur h:=by
 unfold surE at h0
 split at h0
 ·rename_i he
  split at h0
  ·rename_i hw
   have:=within_iff.1 hw
   exact ⟨he,by omega,by omega⟩
  ·cases h0
 ·rename_i he; exact absurd h0 he
def kix (h:Hal) (i:Int):Nat:=(i-h.ws.length-2).toNat
def kat (h:Hal) (i:Int):Can:=(h.ks[kix h i]?).getD ⟨⟨#[]⟩,⟨#[]⟩,0,0,0,0,[]⟩
theorem Zk3 {h:Hal} {j:Nat} (hj:j<h.ks.length):kat h ((h.ws.length:Int)+2+j)=h.ks[j]:=by
 unfold kat kix
 rw [show ((h.ws.length:Int)+2+j-h.ws.length-2).toNat=j by omega,Qi hj]; rfl
def isK (h:Hal) (i:Int):Bool:=decide ((h.ws.length:Int)+2<=i)
abbrev canZ:List AV:=[.str ⟨#[]⟩,.str ⟨#[]⟩,I 0,I 0,I 0,I 0,.nils]
def canV (h:Hal) (i:Int):AV:=.agg (match isK h i with
 | true=>(kat h i).av
 | false=>canZ)
theorem c87 {h:Hal} (hf:h.few) (s:Stg) {i:Int} (hi:SK h i):PCall Tryz.prog 80 [.agg (stgL h s),I i] ⟨.tup [canV h i,Bo (isK h i)],[]⟩:=by
 have l:=Yn h.ws
 have l2:=Xq h.ks
 obtain ⟨_,_,f3,f4,_⟩:=hf
 have low:∀ i:Int,0<=i->i<(h.ws.length:Int)+2->PCall Tryz.prog 80 [.agg (stgL h s),I i] ⟨.tup [.agg canZ,Bo false],[]⟩:=by
  intro i h0 h1
  have hv:Qa Qb (Qa Qb (i-((h.ws.map Wal.av).length:Int))-2)=i-h.ws.length-2:=by rw [W_eq (n:=i-((h.ws.map Wal.av).length:Int)) (by omega) (by omega),W_eq (by omega) (by omega)]; omega
  refine pn Zf Tryz.func80 ?_
  have hn:¬ (0<=Qa Qb (Qa Qb (i-((h.ws.map Wal.av).length:Int))-2)):=by rw [hv]; omega
  repeat'(first|refine wk0 ?_|(refine wk2 ?_ ?_<;>intro _)|fail)
  all_goals first
   | exact Zd rfl rfl
   | (exfalso; rename_i hx; have:=of_decide_eq_true hx; rw [hv] at this; omega)
   | (exfalso; rename_i hx; have:=of_decide_eq_true hx; exact hn this)
 cases hi with
 | wall k hk =>
  have e1:isK h k=false:=decide_eq_false (by omega)
  unfold canV; rw [e1]; exact low _ (by omega) (by omega)
 | floor =>
  have e1:isK h h.ws.length=false:=decide_eq_false (by omega)
  unfold canV; rw [e1]; exact low _ (by omega) (by omega)
 | ceil =>
  have e1:isK h ((h.ws.length:Int)+1)=false:=decide_eq_false (by omega)
  unfold canV; rw [e1]; exact low _ (by omega) (by omega)
 | can j hj =>
  have e1:isK h ((h.ws.length:Int)+2+j)=true:=decide_eq_true (by omega)
  unfold canV
  rw [e1]
  dsimp only
  rw [Zk3 hj]
  have hv:Qa Qb (Qa Qb ((h.ws.length:Int)+2+j-((h.ws.map Wal.av).length:Int))-2)=j:=by rw [W_eq (n:=(h.ws.length:Int)+2+j-((h.ws.map Wal.av).length:Int)) (by omega) (by omega),W_eq (by omega) (by omega)]; omega
  have e2:(h.ks.map Can.av)[(Qa Qb (Qa Qb ((h.ws.length:Int)+2+j-((h.ws.map Wal.av).length:Int))-2)).toNat]?=some (Can.av h.ks[j]):=by rw [hv]; exact Zfi hj
  have e3:0<=Qa Qb (Qa Qb ((h.ws.length:Int)+2+j-((h.ws.map Wal.av).length:Int))-2):=by omega
  have e4:decide (0<=Qa Qb (Qa Qb ((h.ws.length:Int)+2+j-((h.ws.map Wal.av).length:Int))-2))=true:=decide_eq_true e3
  refine pn Zf Tryz.func80 ?_
  repeat'(first|refine wk0 ?_|(refine wk2 ?_ ?_<;>intro _)|fail)
  all_goals first
   | exact Zd rfl rfl
   | (exfalso; rename_i hx; rw [e4] at hx; cases hx)
def Yau (h:Hal) (s:Stg) (j:Nat):Int:=match h.ks[j]?,s.hs[j]? with
 | some c,some n=>c.hs.getD n.toNat 0
 | _,_=>0
def plW (w:Wl):Int × Int:=if w.dx=0 then (0,w.fx) else if w.dy=0 then (1,w.fy) else if w.dx=w.dy then (4,Qa Qb (w.fx-w.fy)) else (3,Qa Qb (w.fx+w.fy))
def Zfb (h:Hal) (s:Stg) (i:Int):Int × Int:=if i<h.ws.length then plW (wlOf h.cs i.toNat) else if i=h.ws.length then (2,0) else if i=(h.ws.length:Int)+1 then (2,h.ht) else (2,Yau h s (kix h i))
theorem Zx7 {h:Hal} {s:Stg} {k:Nat} (hk:k<h.ws.length):Zfb h s k=plW (wlOf h.cs k):=by unfold Zfb; rw [if_pos (by omega)]; rfl
theorem Zwt {h:Hal} {s:Stg}:Zfb h s h.ws.length=(2,0):=by unfold Zfb; rw [if_neg (by omega),if_pos rfl]
theorem Zx8 {h:Hal} {s:Stg}:Zfb h s ((h.ws.length:Int)+1)=(2,h.ht):=by unfold Zfb; rw [if_neg (by omega),if_neg (by omega),if_pos rfl]
theorem Zzf {h:Hal} {s:Stg} {j:Nat}:Zfb h s ((h.ws.length:Int)+2+j)=(2,Yau h s j):=by
 unfold Zfb kix
 rw [if_neg (by omega),if_neg (by omega),if_neg (by omega),show ((h.ws.length:Int)+2+j-h.ws.length-2).toNat=j by omega]
noncomputable def kP (h:Hal) (s:Stg):PC:=ins 96 (one [.agg (stgL h s)] ⟨I (h.ws.length:Int),[]⟩) (ins 97 (one [.agg (stgL h s)] ⟨I ((h.ws.length:Int)+1),[]⟩) kG4)
theorem Yb9 {h:Hal} {s:Stg} (g:Sit h s):PCOK Tryz.prog (kP h s):=Zi (c172 s) (Zi (c173 g.ok.f s) Zaw)
def idxN (n:Int):Nat->List Int->Int
 | _,[]=>-1
 | i,m::l=>if n=m then i else idxN n (i+1) l
theorem Zop (n:Int):∀ (l:List Int) (i:Nat),decide (0<=idxN n i l)=hasN l n
 | [],i=>rfl
 | m::l,i=>by
  rw [idxN,Zsz]
  by_cases h:n=m
  ·rw [if_pos h,decide_eq_true (show m=n from h.symm),decide_eq_true (by omega)]; rfl
  ·rw [if_neg h,decide_eq_false (show ¬ m=n from fun e=>h e.symm),Bool.false_or]; exact Zop n l _
theorem c203 {ns:List Int} (hl:ns.length<1000000) (n:Int):PCall Tryz.prog 59 [.isl 1 (nl ns),I n] ⟨I (idxN n 0 ns),[]⟩:=by
 have e3:=Ze ns
 refine pn Zf Tryz.func59 ?_
 repeat'(first|refine wk1 ?_|(refine wk2 ?_ ?_<;>intro _)|fail)
 refine Zo (S:=Nat × Int) (fun t=>ns.length-t.1) (fun t=>[(0,.isl 1 (nl ns)),(1,I n),(7,I (nl ns).length),(8,I t.2)]) (fun _=>[]) 0 0 (fun t=>t.2=t.1/\t.1<=ns.length/\idxN n t.1 (ns.drop t.1)=idxN n 0 ns) (0,0) ⟨rfl,Qk _,rfl⟩ (Qd _) [] rfl (kps) (kps) ?_
 rintro ⟨k,i⟩ ⟨hi,hk,hh⟩
 dsimp only at hi hk hh ⊢
 subst hi
 refine bs.av (sx:=nos) Zf ?_
 by_cases hlt:k<ns.length
 ·have e1:=Yz hlt
  rw [Qg hlt,idxN] at hh
  repeat'(first|refine wk1 ?_|(refine wk2 ?_ ?_<;>intro _)|fail)
  ·rename_i hx; exact Zb (by rw [<-hh,if_pos (of_decide_eq_true hx)])
  ·rename_i hx; exact Qr ⟨(k+1,_),[],rfl,kps,kps,⟨Zg (by omega),hlt,by rw [<-hh,if_neg (of_decide_eq_false hx)]⟩,by dsimp only; omega⟩
 rw [Qj (by omega)] at hh
 repeat'(first|refine wk1 ?_|(refine wk2 ?_ ?_<;>intro _)|fail)
 exact Zb hh
theorem c176 {ns:List Int} (hl:ns.length<1000000) (n:Int):PCall Tryz.prog 102 [.isl 1 (nl ns),I n] ⟨Bo (hasN ns n),[]⟩:=by
 refine pn (Zi (c203 hl n) Zf) Tryz.func102 ?_
 repeat'(first|refine wk0 ?_|(refine wk2 ?_ ?_<;>intro _)|fail)
 exact Zc (Zop n ns 0)
theorem c178 (m:Mat) (nm:ByteArray):PCall Tryz.prog 104 [.agg m.av,.ipt [.str nm]] ⟨Bo (m.nm==nm),[]⟩:=by
 refine pn Zf Tryz.func104 ?_
 repeat'(first|refine wk0 ?_|(refine wk2 ?_ ?_<;>intro _)|fail)
 exact Zc (by simp)
theorem c177 {ms:List Mat} (hl:ms.length<1000) (nm:ByteArray):PCall Tryz.prog 103 [.isl 6 (ms.map Mat.av),.func 104 [] [.ipt [.str nm]]] ⟨I (Zw nm 0 ms),[]⟩:=by
 have e3:=Un ms
 refine pn Zf Tryz.func103 ?_
 repeat'(first|refine wk1 ?_|(refine wk2 ?_ ?_<;>intro _)|fail)
 refine Zo (S:=Nat × Int) (fun t=>ms.length-t.1) (fun t=>[(0,.isl 6 (ms.map Mat.av)),(1,.func 104 [] [.ipt [.str nm]]),(7,I (ms.map Mat.av).length),(8,I t.2)]) (fun _=>[]) 0 0 (fun t=>t.2=t.1/\t.1<=ms.length/\Zw nm t.1 (ms.drop t.1)=Zw nm 0 ms) (0,0) ⟨rfl,Qk _,rfl⟩ (Qd _) [] rfl (kps) (kps) ?_
 rintro ⟨k,i⟩ ⟨hi,hk,hh⟩
 dsimp only at hi hk hh ⊢
 subst hi
 by_cases hlt:k<ms.length
 ·have e1:=Zku hlt
  rw [Qg hlt,Zw] at hh
  refine bs.av (sx:=nos) (Zi (c178 ms[k] nm) Zf) ?_
  repeat'(first|refine wk1 ?_|(refine wk2 ?_ ?_<;>intro _)|fail)
  ·rename_i hx; exact Zb (by rw [<-hh,if_pos hx])
  ·rename_i hx; exact Qr ⟨(k+1,_),[],rfl,kps,kps,⟨Zg (by omega),hlt,by rw [<-hh,hx]; rfl⟩,by dsimp only; omega⟩
 rw [Qj (by omega)] at hh
 refine bs.av (sx:=nos) Zf ?_
 repeat'(first|refine wk1 ?_|(refine wk2 ?_ ?_<;>intro _)|fail)
 exact Zb hh
def mat0:Mat:=⟨⟨#[]⟩,0,0,0,0,0⟩
def matG (h:Hal) (nm:ByteArray):Mat:=(h.ms[(Zw nm 0 h.ms).toNat]?).getD mat0
theorem Zab (s:ByteArray):∀ (l:List Mat) (i:Nat),Zw s i l<((i+l.length:Nat):Int)
 | [],i=>by simp [Zw]; omega
 | m::l,i=>by
  rw [Zw]
  have:=Zab s l (i+1)
  split
  ·simp; omega
  ·simp only [List.length_cons]; omega
theorem Zu9 {h:Hal} {nm:ByteArray} (h0:0<=Zw nm 0 h.ms):(h.ms.map Mat.av)[(Zw nm 0 h.ms).toNat]?=some (matG h nm).av:=by
 have h1:=Zab nm h.ms 0
 have hi:(Zw nm 0 h.ms).toNat<h.ms.length:=by omega
 unfold matG
 rw [List.getElem?_map,Qi hi]; rfl
def Zbc (h:Hal) (s:Stg) (i:Int):ByteArray:=if i<h.ws.length then (if hasN s.dr i then curt h i else ((h.ws[i.toNat]?).map Wal.mt).getD ⟨#[]⟩) else if i=h.ws.length then h.fl else if i=(h.ws.length:Int)+1 then h.ce else (kat h i).mt
theorem Zk5 {h:Hal} {nm:ByteArray} (hm:∃ m∈h.ms,m.nm=nm):0<=Zw nm 0 h.ms:=by
 have:=mt (Zas nm h.ms 0).1 (by simpa using hm)
 omega
theorem Zj7 {h:Hal} (g:h.fine) {k:Nat} (hk:k<h.ws.length):0<=Zw h.ws[k].mt 0 h.ms/\(h.ws[k].cu≠⟨#[]⟩->0<=Zw h.ws[k].cu 0 h.ms):=by
 have:=g.wal k hk
 unfold Zdv at this
 split at this
 ·split at this
  ·cases this
  ·split at this
   ·cases this
   ·split at this
    ·cases this
    ·rename_i hx
     simp only [Bool.or_eq_true,Qc,decide_eq_true_eq,Sf,Zbr,decide_eq_false_iff_not,not_or,not_and] at hx
     exact ⟨by omega,fun hc=>by have:=hx.2 hc; omega⟩
 ·cases this
theorem Ztu {h:Hal} (g:h.fine) {k:Nat} (hk:k<h.ks.length):0<=Zw h.ks[k].mt 0 h.ms:=by
 have:=g.can k hk
 unfold Zds at this
 split at this
 ·split at this
  ·cases this
  ·split at this
   ·cases this
   ·split at this
    ·cases this
    ·split at this
     ·cases this
     ·rename_i hx
      simp only [decide_eq_true_eq] at hx
      omega
 ·cases this
theorem Zod {h:Hal} {s:Stg} (g:Sit h s) {i:Int} (hi:SK h i):0<=Zw (Zbc h s i) 0 h.ms:=by
 unfold Zbc
 cases hi with
 | wall k hk =>
  rw [if_pos (by omega),Sk,Qi hk]
  have hc:curt h k=h.ws[k].cu:=by unfold curt; rw [Sk,Qi hk]
  split
  ·rename_i hd
   have hd:∃ d∈s.dr,d=(k:Int):=by unfold hasN at hd; rw [List.any_eq_true] at hd; simpa using hd
   obtain ⟨d,hd,rfl⟩:=hd
   rw [hc]
   exact (Zj7 g.fine hk).2 (by rw [<-hc]; exact (g.set.dr _ hd).2.2)
  ·exact (Zj7 g.fine hk).1
 | floor=>rw [if_neg (by omega),if_pos rfl]; exact Zk5 g.fine.fl
 | ceil=>rw [if_neg (by omega),if_neg (by omega),if_pos rfl]; exact Zk5 g.fine.ce
 | can j hj=>rw [if_neg (by omega),if_neg (by omega),if_neg (by omega),Zk3 hj]; exact Ztu g.fine hj
def matS (h:Hal) (s:Stg) (i:Int):Mat:=matG h (Zbc h s i)
theorem Zcs {h:Hal} {i:Int} (hi:i<(h.ws.length:Int)+2):canV h i = .agg canZ/\isK h i=false:=by
 have e1:isK h i=false:=decide_eq_false (by omega)
 unfold canV; rw [e1]; exact ⟨rfl,rfl⟩
theorem Zo6 {h:Hal} {j:Nat} (hj:j<h.ks.length):canV h ((h.ws.length:Int)+2+j) = .agg (Can.av h.ks[j])/\isK h ((h.ws.length:Int)+2+j)=true:=by
 have e1:isK h ((h.ws.length:Int)+2+j)=true:=decide_eq_true (by omega)
 unfold canV; rw [e1,<-Zk3 hj]; exact ⟨rfl,rfl⟩
theorem Zpz {h:Hal} {s:Stg} {k:Nat} (hk:k<h.ws.length):Zbc h s k=if hasN s.dr k then h.ws[k].cu else h.ws[k].mt:=by
 unfold Zbc
 rw [if_pos (by omega),Sk,Qi hk]
 rw [show curt h k=h.ws[k].cu by unfold curt; rw [Sk,Qi hk]]
 rfl
theorem Zmu {h:Hal} {s:Stg}:Zbc h s h.ws.length=h.fl:=by unfold Zbc; rw [if_neg (by omega),if_pos rfl]
theorem Zp0 {h:Hal} {s:Stg}:Zbc h s ((h.ws.length:Int)+1)=h.ce:=by unfold Zbc; rw [if_neg (by omega),if_neg (by omega),if_pos rfl]
theorem Zr6 {h:Hal} {s:Stg} {j:Nat} (hj:j<h.ks.length):Zbc h s ((h.ws.length:Int)+2+j)=h.ks[j].mt:=by
 unfold Zbc
 rw [if_neg (by omega),if_neg (by omega),if_neg (by omega),Zk3 hj]
theorem c86 {h:Hal} {s:Stg} (g:Sit h s) {i:Int} (hi:SK h i):PCall Tryz.prog 79 [.agg (stgL h s),I i] ⟨.agg (matS h s i).av,[]⟩:=by
 have f3:=g.ok.f.2.2.1
 have f4:=g.ok.f.2.2.2.1
 have h0:=Zod g hi
 have hG:=Zu9 h0
 have hk0:=Zi (c87 g.ok.f s hi) (Zi (c172 (h:=h) s) (Zi (c173 g.ok.f s) (Zi (c176 (ns:=s.dr) (by have:=g.sf.2; omega) i) (Zi (c177 g.ok.f.1 (Zbc h s i)) Zf))))
 unfold matS
 have l1:=Un h.ms
 have hlt:=Zab (Zbc h s i) h.ms 0
 cases hi with
 | wall k hk =>
  obtain ⟨v1,v2⟩:=Zcs (h:=h) (i:=k) (by omega)
  rw [v1,v2] at hk0
  have e1:=Zf4 hk
  have hn:=Zpz (s:=s) hk
  generalize matG h (Zbc h s k)=M at *
  cases hd:hasN s.dr k with
  | true =>
   rw [hd] at hn hk0
   rw [if_pos rfl] at hn
   rw [hn] at hk0 h0 hG hlt
   refine pn hk0 Tryz.func79 ?_
   repeat'(first|refine wk1 ?_|(refine wk2 ?_ ?_<;>intro _)|fail)
   exact Zd rfl rfl
  | false =>
   rw [hd] at hn hk0
   rw [if_neg (by simp)] at hn
   rw [hn] at hk0 h0 hG hlt
   refine pn hk0 Tryz.func79 ?_
   repeat'(first|refine wk1 ?_|(refine wk2 ?_ ?_<;>intro _)|fail)
   exact Zd rfl rfl
 | floor =>
  obtain ⟨v1,v2⟩:=Zcs (h:=h) (i:=h.ws.length) (by omega)
  rw [v1,v2] at hk0
  have hn:=Zmu (h:=h) (s:=s)
  generalize matG h (Zbc h s h.ws.length)=M at *
  rw [hn] at hk0 h0 hG hlt
  refine pn hk0 Tryz.func79 ?_
  repeat'(first|refine wk1 ?_|(refine wk2 ?_ ?_<;>intro _)|fail)
  exact Zd rfl rfl
 | ceil =>
  obtain ⟨v1,v2⟩:=Zcs (h:=h) (i:=(h.ws.length:Int)+1) (by omega)
  rw [v1,v2] at hk0
  have hn:=Zp0 (h:=h) (s:=s)
  generalize matG h (Zbc h s ((h.ws.length:Int)+1))=M at *
  rw [hn] at hk0 h0 hG hlt
  refine pn hk0 Tryz.func79 ?_
  repeat'(first|refine wk1 ?_|(refine wk2 ?_ ?_<;>intro _)|fail)
  exact Zd rfl rfl
 | can j hj =>
  obtain ⟨v1,v2⟩:=Zo6 hj
  rw [v1,v2] at hk0
  have hn:=Zr6 (s:=s) hj
  generalize matG h (Zbc h s ((h.ws.length:Int)+2+j))=M at *
  rw [hn] at hk0 h0 hG hlt
  refine pn hk0 Tryz.func79 ?_
  repeat'(first|refine wk1 ?_|(refine wk2 ?_ ?_<;>intro _)|fail)
  exact Zd rfl rfl
theorem Zxv (n:Nat):∃ r,r*r<=n/\n<(r+1)*(r+1):=by
 induction n with
 | zero=>exact ⟨0,by decide,by decide⟩
 | succ n ih =>
  obtain ⟨r,h1,h2⟩:=ih
  by_cases h:(r+1)*(r+1)<=n+1
  ·refine ⟨r+1,h,?_⟩
   have:(r+1+1)*(r+1+1)=(r+1)*(r+1)+2*(r+1)+1:=by grind
   omega
  ·exact ⟨r,by omega,by omega⟩
noncomputable def isq (n:Int):Int:=(Oe (Zxv n.toNat):Nat)
theorem Zfv {n:Int} (h:0<=n):0<=isq n/\isq n*isq n<=n/\n<(isq n+1)*(isq n+1):=by
 obtain ⟨h1,h2⟩:=Classical.choose_spec (Zxv n.toNat)
 unfold isq
 generalize Oe (Zxv n.toNat)=r at *
 refine ⟨by omega,?_,?_⟩
 ·have:((r*r:Nat):Int)<=(n.toNat:Int):=by exact_mod_cast h1
  rw [Md] at this; omega
 ·have:((n.toNat:Nat):Int)<(((r+1)*(r+1):Nat):Int):=by exact_mod_cast h2
  rw [Md] at this
  have e:((r+1:Nat):Int)=(r:Int)+1:=by omega
  rw [e] at this; omega
theorem Zi2 {a b:Int} (ha:0<=a) (h:a<=b):a*a<=b*b:=My h h ha (by omega)
theorem Zre {a b:Int} (hb:0<=b) (h:a*a<b*b) (ha:0<=a):a<b:=by
 rcases Int.lt_or_le a b with h1|h1
 ·exact h1
 ·have:=Zi2 hb h1; omega
theorem Zp2 {n r:Int} (h0:0<=n) (hr:0<=r) (h1:r*r<=n) (h2:n<(r+1)*(r+1)):r=isq n:=by
 obtain ⟨g0,g1,g2⟩:=Zfv h0
 have a1:=Zre (a:=r) (b:=isq n+1) (by omega) (by omega) hr
 have a2:=Zre (a:=isq n) (b:=r+1) (by omega) (by omega) g0
 omega
theorem Zxw {r B:Int} (h0:0<=r) (h1:r<=B):0<=r*r/\r*r<=B*B:=⟨Rb h0 h0,Zi2 h0 h1⟩
theorem Zv8 {y:Nat} {r:Int} (h:floatToIntVal .f64 y .i64=some r):Ze3 (tget tbl) 191 3 (.flt .f64 y)=some (I r):=by
 unfold floatToIntVal at h
 show (match (FloatKind.f64.decode y).toInt .zero with
  | some n=>cond (decide (IntKind.i64.min<=n/\n<=IntKind.i64.max)) (some (Da .i64 n)) none
  | none=>none)=_
 split at h
 ·rename_i n hn
  rw [hn]
  dsimp only
  split at h
  ·rename_i hr
   cases h
   rw [decide_eq_true hr]; rfl
  ·cases h
 ·cases h
theorem c175 {n:Int} (h0:0<=n) (h1:n<9007199254740992):PCall Tryz.prog 101 [I n] ⟨I (isq n),[]⟩:=by
 obtain ⟨y,r0,e1,e2,e3,e4⟩:=Zuq h0 h1
 refine pn (Zi (c202 e1) Zf) Tryz.func101 ?_
 have hc:=Zv8 e2
 repeat'(first|refine wk1 ?_|(refine wk2 ?_ ?_<;>intro _)|fail)
 split
 rotate_left
 ·rename_i hx
  exfalso
  change ret (Ze3 (tget tbl) 191 3 (.flt .f64 y))=none at hx
  rw [hc] at hx
  cases hx
 rename_i x hx
 change ret (Ze3 (tget tbl) 191 3 (.flt .f64 y))=some x at hx
 rw [hc] at hx
 cases hx
 repeat'(first|refine wk1 ?_|(refine wk2 ?_ ?_<;>intro _)|fail)
 refine Zo (S:=Int) (fun t=>t.toNat) (fun t=>[(0,I n),(3,I t)]) (fun _=>[]) 0 0 (fun t=>0<=t/\t<=268435456) r0 ⟨e3,e4⟩ (Qd _) [] rfl (kps) (kps) ?_
 clear e1 e2 e3 e4
 rintro r ⟨g1,g2⟩
 try dsimp only at g1 g2 ⊢
 have hb:=Zxw g1 g2
 have hw:Qa Qb (r*r)=r*r:=W_eq (by omega) (by omega)
 refine bs.av (sx:=nos) Zf ?_
 by_cases hc:n<r*r
 ·have hp:0<r:=by
   rcases Int.lt_or_le 0 r with h|h
   ·exact h
   ·have:r=0:=by omega
    subst this; omega
  repeat'(first|refine wk1 ?_|(refine wk2 ?_ ?_<;>intro _)|fail)
  have hv:Qa Qb (r-1)=r-1:=W_eq (by omega) (by omega)
  exact Qr ⟨_,[],rfl,kps,kps,⟨by omega,by omega⟩,by omega⟩
 ·repeat'(first|refine wk1 ?_|(refine wk2 ?_ ?_<;>intro _)|fail)
  refine Zo (S:=Int) (fun t=>(n-t).toNat) (fun t=>[(0,I n),(3,I t)]) (fun _=>[]) 0 0 (fun t=>0<=t/\t*t<=n) r ⟨g1,by omega⟩ (Qd _) [] rfl (kps) (kps) ?_
  clear hc hw hb g1 g2
  rintro r ⟨g1,g2⟩
  try dsimp only at g1 g2 ⊢
  have g3:r<94906267:=Zre (by omega) (by omega) g1
  have hw1:Qa Qb (r+1)=r+1:=W_eq (by omega) (by omega)
  have hb:=Zxw (r:=r+1) (B:=94906267) (by omega) (by omega)
  have hw2:Qa Qb (Qa Qb (r+1)*Qa Qb (r+1))=(r+1)*(r+1):=by rw [hw1]; exact W_eq (by omega) (by omega)
  refine bs.av (sx:=nos) Zf ?_
  by_cases hc:(r+1)*(r+1)<=n
  ·repeat'(first|refine wk1 ?_|(refine wk2 ?_ ?_<;>intro _)|fail)
   have hrn:r<n:=by
    have:(r+1)*(r+1)=r*r+2*r+1:=by grind
    have hz:=Rb g1 g1
    omega
   exact Qr ⟨_,[],rfl,kps,kps,⟨by omega,by rw [hw1]; exact hc⟩,by rw [hw1]; omega⟩
  ·repeat'(first|refine wk1 ?_|(refine wk2 ?_ ?_<;>intro _)|fail)
   exact Zb (Zp2 h0 g1 g2 (by omega))
end Go.Proofs.YtkmjliccopgocaaGreat
