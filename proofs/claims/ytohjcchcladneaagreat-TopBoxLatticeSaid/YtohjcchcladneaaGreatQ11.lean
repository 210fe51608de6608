/- A part of the proof: lemmas. -/
import Derived.Test.YtohjcchcladneaaGreatQ10
import Derived.Test.YtohjcchcladneaaGreatQ7
import Derived.Test.YtohjcchcladneaaGreatQ9
import Derived.Laws.Bits64b
import Derived.Lib.Mul64
set_option linter.unusedVariables false
set_option linter.unusedSimpArgs false
set_option maxRecDepth 100000
set_option maxHeartbeats 16000000
open BitVec renaming ofInt->Sb
open Bool renaming and_eq_true->Qf,false_or->Pr,not_eq_true'->Sc,or_eq_false_iff->Mh,or_eq_true->Qy
open Go.IntKind renaming i64->Qb,u64->Rj,wrap->Qa,wrap_i64->Sr,wrap_u64->Kk
open Go.Lib renaming half_mul_le->Lh
open Go.RowKit.Below renaming refl->Hp
open Go.Sx.AV renaming asl->Dy
open Go.Sx.AV.agg renaming injEq->Kt
open Go.Sx.AV.int renaming injEq->Wm
open Go.Sx.Done renaming mk->Th
open Go.Sx.LpM renaming start->Tq,succ->Ri
open Go.Value renaming slice->Nn
open Int renaming emod_lt_of_pos->Li,emod_nonneg->Kz,eq_ofNat_of_zero_le->Kl,le_of_lt->Qx,lt_trichotomy->Wj,mul_ediv_add_emod->Ny,mul_le_mul_of_nonneg_left->Rd,mul_le_mul_of_nonneg_right->Qk,mul_neg->Sj,mul_nonneg->Qu,mul_pos->Ra,toNat->Tu
open List renaming any_cons->Dc,drop_eq_getElem_cons->Qr,drop_of_length_le->Rb,exists_cons_of_length_pos->Md,getElem?_eq_getElem->Ql,getElem_mem->Rx,mem_cons->Rp,not_mem_nil->Pz
open List.cons renaming injEq->Rw
open Nat renaming beq->Qp,le_refl->Qm,zero_add->Tm,zero_le->Rl
open Option renaming isNone->Kb
namespace Go.Proofs.YtohjcchcladneaaGreat
open Go Go.Sx
def crsE (h:Hal) (s:Stg) (c:Crs):Int:=if surE h s c.su=0 then (if Va c.fx c.fy c.fz=0 then Zy c.to else Va c.fx c.fy c.fz) else surE h s c.su
theorem Ztx {h:Hal} {s:Stg} {c:Crs} (hk:h.ok) (hs:s.few) (h0:crsE h s c=0):Sit h s/\SK h c.su/\CrOk (Zc h s c.su) c/\surE h s c.su=0/\Va c.fx c.fy c.fz=0/\Zy c.to=0:=by
 unfold crsE at h0
 split at h0
 ·rename_i h1
  split at h0
  ·rename_i h2
   have e:=Zke h1
   have g:=Zkf hk hs e.1
   have hi:=Zp3 e.2.1 e.2.2
   obtain ⟨⟨b1,b2⟩,b3⟩:=Zf8 g hi
   obtain ⟨p1,p2,_,p4⟩:=Xv h0
   unfold ptIn at p4
   simp only [Qf,within_iff] at p4
   have h3:=h2
   unfold Va img at h3
   split at h3
   ·rename_i h4
    simp only [Qf,within_iff] at h4
    exact ⟨g,hi,⟨b1,b2,b3,by omega,by omega,by omega,p1,p2,p4.1.1,p4.1.2,p4.2⟩,h1,h2,h0⟩
   ·cases h3
  ·rename_i h2; exact absurd h0 h2
 ·rename_i h1; exact absurd h0 h1
abbrev crAV (r:Pt × Int):AV:=.tup [r.1.av,I r.2]
theorem Zfe {well:Pt->Bool} {pl:Int × Int} {c:Crs} (hs:0<=sgn (crF pl c)*sgn (crG pl c)):Zaa well pl c=(ptZ,12):=by unfold Zaa; rw [if_pos hs]
theorem Zwu {well:Pt->Bool} {pl:Int × Int} {c:Crs} (hw:well (Xg pl c)=false):Zaa well pl c=(ptZ,12):=by unfold Zaa; rw [hw]; split<;>rfl
theorem Zty {well:Pt->Bool} {pl:Int × Int} {c:Crs} (hs:¬ 0<=sgn (crF pl c)*sgn (crG pl c)) (hw:well (Xg pl c)=true) (hd:100000<(Xg pl c).d):Zaa well pl c=(ptZ,8):=by unfold Zaa; rw [if_neg hs,hw,if_pos rfl,if_pos hd]
theorem Zwt {well:Pt->Bool} {pl:Int × Int} {c:Crs} (hs:¬ 0<=sgn (crF pl c)*sgn (crG pl c)) (hw:well (Xg pl c)=true) (hd:¬ 100000<(Xg pl c).d):Zaa well pl c=(Xg pl c,0):=by unfold Zaa; rw [if_neg hs,hw,if_pos rfl,if_neg hd]
abbrev sxC:FuncId->Bool:=fun f=>Qp f 54||Qp f 55||Qp f 58
def r113:List AV->Option PRes
 | [.int .i64 k,.agg [.int .i64 x,.int .i64 y,.int .i64 z,.int .i64 d]]=>some ⟨I (offN k x y z),[]⟩
 | _=>none
def crsA (h:Hal) (s:Stg) (c:Crs):Pt × Int:=if crsE h s c=0 then Zaa (Zae h c.su) (Zc h s c.su) c else (ptZ,crsE h s c)
theorem Zyk (x y z:Int):Va x y z=if Xc x y z then 0 else 2:=by rw [Zfa]; rfl
theorem c40e {h:Hal} (hk:h.ok) {s:Stg} (hs:s.few) {c:Crs} (hw:c.to.wf) (he:crsE h s c≠0):PCall Tryz.prog 36 [h.av,s.av,c.av] ⟨crAV (ptZ,crsE h s c),[]⟩:=by
 have hk0:=Zi (c109 hk hs c.su) (Zi (c99 hw) Vy)
 by_cases h1:surE h s c.su=0
 ·have e1:crsE h s c=if Xc c.fx c.fy c.fz then Zy c.to else 2:=by
   unfold crsE; rw [if_pos h1,Zyk]
   split
   ·rw [if_pos rfl]
   ·rw [if_neg (by decide)]
  rw [e1] at he ⊢
  rw [h1] at hk0
  cases h2:Xc c.fx c.fy c.fz with
  | false =>
   have hu:unl (Xc c.fx c.fy c.fz) 2=2:=by rw [h2]; rfl
   rw [if_neg (by decide)]
   refine bs.pv (sx:=sxC) hk0 Tryz.func36 (by kernel_rfl) (by kernel_rfl) rfl ?_
   repeat'(first|refine wk1 ?_|(refine wk2 ?_ ?_<;>intro _)|fail)
   refine bs.sv (sx:=sxC) hk0 Tryz.func54 (by kernel_rfl) (by kernel_rfl) ?_
   refine Tq 3 ?_
   refine Ri (bs.av (sx:=sxC) hk0 ?_)
   repeat'(first|refine wk1 ?_|(refine wk2 ?_ ?_<;>intro _)|fail)
   refine bs.sv (sx:=sxC) hk0 Tryz.func55 (by kernel_rfl) (by kernel_rfl) ?_
   repeat'(first|refine wk1 ?_|(refine wk2 ?_ ?_<;>intro _)|fail)
   exact Zg (by rw [hu]; rfl) rfl
  | true =>
   have hu:unl (Xc c.fx c.fy c.fz) 2=0:=by rw [h2]; rfl
   rw [h2,if_pos rfl] at he
   rw [if_pos rfl]
   generalize Zy c.to=pe at *
   refine bs.pv (sx:=sxC) hk0 Tryz.func36 (by kernel_rfl) (by kernel_rfl) rfl ?_
   repeat'(first|refine wk1 ?_|(refine wk2 ?_ ?_<;>intro _)|fail)
   refine bs.sv (sx:=sxC) hk0 Tryz.func54 (by kernel_rfl) (by kernel_rfl) ?_
   refine Tq 3 ?_
   refine Ri (bs.av (sx:=sxC) hk0 ?_)
   repeat'(first|refine wk1 ?_|(refine wk2 ?_ ?_<;>intro _)|fail)
   refine bs.sv (sx:=sxC) hk0 Tryz.func55 (by kernel_rfl) (by kernel_rfl) ?_
   repeat'(first|refine wk1 ?_|(refine wk2 ?_ ?_<;>intro _)|fail)
   refine Ri (bs.av (sx:=sxC) hk0 ?_)
   repeat'(first|refine wk1 ?_|(refine wk2 ?_ ?_<;>intro _)|fail)
   refine bs.sv (sx:=sxC) hk0 Tryz.func58 (by kernel_rfl) (by kernel_rfl) ?_
   repeat'(first|refine wk1 ?_|(refine wk2 ?_ ?_<;>intro _)|fail)
   exact Zg rfl rfl
 ·have e1:crsE h s c=surE h s c.su:=by unfold crsE; rw [if_neg h1]
  rw [e1]
  refine bs.pv (sx:=sxC) hk0 Tryz.func36 (by kernel_rfl) (by kernel_rfl) rfl ?_
  repeat'(first|refine wk1 ?_|(refine wk2 ?_ ?_<;>intro _)|fail)
  exact Zg rfl rfl
theorem Zoc {n:Int} (h : -9000000000000000000<=n/\n<=9000000000000000000):size n=iabs n:=by rw [Vo h]; rfl
theorem c40o {h:Hal} (hk:h.ok) {s:Stg} (hs:s.few) {c:Crs} (hw:c.to.wf) (he:crsE h s c=0):PCall Tryz.prog 36 [h.av,s.av,c.av] ⟨crAV (Zaa (Zae h c.su) (Zc h s c.su) c),[]⟩:=by
 obtain ⟨g,hi,ho,h1,h2,h3⟩:=Ztx hk hs he
 have h2' : Xc c.fx c.fy c.fz=true:=by
  rw [Zyk] at h2
  cases hx:Xc c.fx c.fy c.fz
  ·rw [hx] at h2; exact absurd h2 (by decide)
  ·rfl
 have hu:unl (Xc c.fx c.fy c.fz) 2=0:=by rw [h2']; rfl
 obtain ⟨f1,f2,f3⟩:=Zyv ho
 obtain ⟨g1,g2⟩:=Zyu ho
 have hk0:=Zi (c109 hk hs c.su) (Zi (c99 hw) Vy)
 rw [h1,h3] at hk0
 have hk0:=Zi (c112 g hi) (Zj (f0:=61) (r:=r113) (fun a res h=>by unfold r113 at h; split at h<;>cases h; exact c113 _ ⟨_,_,_,_⟩) hk0)
 generalize hpl:Zc h s c.su=pl at *
 by_cases hsg:0<=sgn (crF pl c)*sgn (crG pl c)
 ·rw [Zfe hsg]
  have hs2:0<=Qa Qb (sgn (Qa Qb (offN pl.1 c.fx c.fy c.fz-pl.2))*sgn (Qa Qb (offN pl.1 c.to.x c.to.y c.to.z-Qa Qb (pl.2*c.to.d)))):=by rw [f1,g1,Zfi]; exact hsg
  refine bs.pv (sx:=sxC) hk0 Tryz.func36 (by kernel_rfl) (by kernel_rfl) rfl ?_
  repeat'(first|refine wk1 ?_|(refine wk2 ?_ ?_<;>intro _)|fail)
  refine bs.sv (sx:=sxC) hk0 Tryz.func54 (by kernel_rfl) (by kernel_rfl) ?_
  refine Tq 3 ?_
  refine Ri (bs.av (sx:=sxC) hk0 ?_)
  repeat'(first|refine wk1 ?_|(refine wk2 ?_ ?_<;>intro _)|fail)
  refine bs.sv (sx:=sxC) hk0 Tryz.func55 (by kernel_rfl) (by kernel_rfl) ?_
  repeat'(first|refine wk1 ?_|(refine wk2 ?_ ?_<;>intro _)|fail)
  refine Ri (bs.av (sx:=sxC) hk0 ?_)
  repeat'(first|refine wk1 ?_|(refine wk2 ?_ ?_<;>intro _)|fail)
  refine bs.sv (sx:=sxC) hk0 Tryz.func58 (by kernel_rfl) (by kernel_rfl) ?_
  repeat'(first|refine wk1 ?_|(refine wk2 ?_ ?_<;>intro _)|fail)
  refine Ri (bs.av (sx:=sxC) hk0 ?_)
  repeat'(first|refine wk1 ?_|(refine wk2 ?_ ?_<;>intro _)|fail)
  exact Zg rfl rfl
 ·have hs2:¬ 0<=Qa Qb (sgn (Qa Qb (offN pl.1 c.fx c.fy c.fz-pl.2))*sgn (Qa Qb (offN pl.1 c.to.x c.to.y c.to.z-Qa Qb (pl.2*c.to.d)))):=by rw [f1,g1,Zfi]; exact hsg
  have hB:=Uz ho hsg
  have hx:=Ztw ho (u:=iabs (crG pl c)) (v:=iabs (crF pl c)) (by have:=Zn1 ho hsg; omega) (by have:=Zn1 ho hsg; omega)
  have hcr:Xg pl c=redP (crPt c (iabs (crG pl c)) (iabs (crF pl c))):=rfl
  have hwl:=c118 g hi (Xg pl c)
  have A1:=Zwu (well:=Zae h c.su) (pl:=pl) (c:=c)
  have A2:=Zty (well:=Zae h c.su) hsg
  have A3:=Zwt (well:=Zae h c.su) hsg
  generalize Zaa (Zae h c.su) pl c=ans at *
  generalize Zae h c.su (Xg pl c)=wl at *
  generalize Xg pl c=Q at *
  have su:size (Qa Qb (offN pl.1 c.to.x c.to.y c.to.z-Qa Qb (pl.2*c.to.d)))=iabs (crG pl c):=by rw [g1]; exact Zoc (by omega)
  have sv:size (Qa Qb (offN pl.1 c.fx c.fy c.fz-pl.2))=iabs (crF pl c):=by rw [f1]; exact Zoc (by omega)
  generalize hp:crPt c (iabs (crG pl c)) (iabs (crF pl c))=p at *
  generalize iabs (crF pl c)=v at *
  generalize iabs (crG pl c)=u at *
  have px:c.fx*u+c.to.x*v=p.x:=by rw [<-hp]; rfl
  have py:c.fy*u+c.to.y*v=p.y:=by rw [<-hp]; rfl
  have pz:c.fz*u+c.to.z*v=p.z:=by rw [<-hp]; rfl
  have pd:u+c.to.d*v=p.d:=by rw [<-hp]; rfl
  obtain ⟨x1,x2,x3,x4,x5,x6,x7⟩:=hx
  have hDd:=hB.d
  generalize hA:Qa Qb (offN pl.1 c.fx c.fy c.fz-pl.2)=A at *
  generalize hBb:Qa Qb (offN pl.1 c.to.x c.to.y c.to.z-Qa Qb (pl.2*c.to.d))=B at *
  have q:∀ a b:Int,(-90000000000000<=a*u/\a*u<=90000000000000)->(-50000000000000<=b*v/\b*v<=50000000000000)->Qa Qb (Qa Qb (a*size B)+Qa Qb (b*size A))=a*u+b*v:=by
   intro a b k1 k2
   rw [su,sv]
   rw [W_eq (n:=a*u) (by omega) (by omega),W_eq (n:=b*v) (by omega) (by omega),W_eq (by omega) (by omega)]
  have qd:Qa Qb (size B+Qa Qb (c.to.d*size A))=p.d:=by
   rw [su,sv]
   rw [W_eq (n:=c.to.d*v) (by omega) (by omega),W_eq (by omega) (by omega)]; omega
  obtain ⟨k1,k2,k3,k4,k5,k6,k7,k8⟩:=Ydd hB (X:=Qa Qb (Qa Qb (c.fx*size B)+Qa Qb (c.to.x*size A))) (Y:=Qa Qb (Qa Qb (c.fy*size B)+Qa Qb (c.to.y*size A))) (Z:=Qa Qb (Qa Qb (c.fz*size B)+Qa Qb (c.to.z*size A))) (D:=Qa Qb (size B+Qa Qb (c.to.d*size A))) (by rw [q _ _ x1 x4,px]) (by rw [q _ _ x2 x5,py]) (by rw [q _ _ x3 x6,pz]) qd
  rw [<-hcr] at k4 k5 k6 k7
  have hdv:PCall Tryz.prog 65 [.isl 1 (nl [Qa Qb (Qa Qb (c.fx*size B)+Qa Qb (c.to.x*size A)),Qa Qb (Qa Qb (c.fy*size B)+Qa Qb (c.to.y*size A)),Qa Qb (Qa Qb (c.fz*size B)+Qa Qb (c.to.z*size A)),Qa Qb (size B+Qa Qb (c.to.d*size A))])] ⟨I (g4 p:Int),[]⟩:=by
   rw [q _ _ x1 x4,q _ _ x2 x5,q _ _ x3 x6,qd,px,py,pz]
   have hwf:=hB.wf
   have hc:=c117 (ns:=[p.x,p.y,p.z,p.d]) (by simp) (by
    intro n hn
    simp only [Rp,Pz,or_false] at hn
    rcases hn with rfl|rfl|rfl|rfl
    ·exact hwf.x
    ·exact hwf.y
    ·exact hwf.z
    ·exact hwf.d)
   have hg:gl 0 [p.x,p.y,p.z,p.d]=g4 p:=by
    simp only [gl,Nat.gcd_zero_left]
    exact Ziv _ _ _ _
   rw [hg,W_eq (n:=((g4 p:Nat):Int)) (by omega) (by omega)] at hc
   exact hc
  have hw2:PCall Tryz.prog 66 [.agg (stgL h s),I c.su,P4 (Qa Qb ((Qa Qb (Qa Qb (c.fx*size B)+Qa Qb (c.to.x*size A))).tdiv (g4 p))) (Qa Qb ((Qa Qb (Qa Qb (c.fy*size B)+Qa Qb (c.to.y*size A))).tdiv (g4 p))) (Qa Qb ((Qa Qb (Qa Qb (c.fz*size B)+Qa Qb (c.to.z*size A))).tdiv (g4 p))) (Qa Qb ((Qa Qb (size B+Qa Qb (c.to.d*size A))).tdiv (g4 p)))] ⟨Bo wl,[]⟩:=by
   rw [k4,k5,k6,k7]; exact hwl
  rw [<-hA,<-hBb] at hw2 hdv
  have hk2:=Zi hw2 (Zi hdv hk0)
  clear hw2 hwl hk0 hdv q
  rw [<-hA,<-hBb] at k4 k5 k6 k7 hs2
  clear k1 k2 k3
  refine bs.pv (sx:=sxC) hk2 Tryz.func36 (by kernel_rfl) (by kernel_rfl) rfl ?_
  cases wl with
  | false =>
   rw [A1 rfl]
   repeat'(first|refine wk1 ?_|(refine wk2 ?_ ?_<;>intro _)|fail)
   refine bs.sv (sx:=sxC) hk2 Tryz.func54 (by kernel_rfl) (by kernel_rfl) ?_
   refine Tq 3 ?_
   refine Ri (bs.av (sx:=sxC) hk2 ?_)
   repeat'(first|refine wk1 ?_|(refine wk2 ?_ ?_<;>intro _)|fail)
   refine bs.sv (sx:=sxC) hk2 Tryz.func55 (by kernel_rfl) (by kernel_rfl) ?_
   repeat'(first|refine wk1 ?_|(refine wk2 ?_ ?_<;>intro _)|fail)
   refine Ri (bs.av (sx:=sxC) hk2 ?_)
   repeat'(first|refine wk1 ?_|(refine wk2 ?_ ?_<;>intro _)|fail)
   refine bs.sv (sx:=sxC) hk2 Tryz.func58 (by kernel_rfl) (by kernel_rfl) ?_
   repeat'(first|refine wk1 ?_|(refine wk2 ?_ ?_<;>intro _)|fail)
   refine Ri (bs.av (sx:=sxC) hk2 ?_)
   repeat'(first|refine wk1 ?_|(refine wk2 ?_ ?_<;>intro _)|fail)
   exact Zg rfl rfl
  | true =>
   by_cases hd:100000<Q.d
   ·rw [A2 rfl hd]
    repeat'(first|refine wk1 ?_|(refine wk2 ?_ ?_<;>intro _)|fail)
    refine bs.sv (sx:=sxC) hk2 Tryz.func54 (by kernel_rfl) (by kernel_rfl) ?_
    refine Tq 3 ?_
    refine Ri (bs.av (sx:=sxC) hk2 ?_)
    repeat'(first|refine wk1 ?_|(refine wk2 ?_ ?_<;>intro _)|fail)
    refine bs.sv (sx:=sxC) hk2 Tryz.func55 (by kernel_rfl) (by kernel_rfl) ?_
    repeat'(first|refine wk1 ?_|(refine wk2 ?_ ?_<;>intro _)|fail)
    refine Ri (bs.av (sx:=sxC) hk2 ?_)
    repeat'(first|refine wk1 ?_|(refine wk2 ?_ ?_<;>intro _)|fail)
    refine bs.sv (sx:=sxC) hk2 Tryz.func58 (by kernel_rfl) (by kernel_rfl) ?_
    repeat'(first|refine wk1 ?_|(refine wk2 ?_ ?_<;>intro _)|fail)
    refine Ri (bs.av (sx:=sxC) hk2 ?_)
    repeat'(first|refine wk1 ?_|(refine wk2 ?_ ?_<;>intro _)|fail)
    exact Zg rfl rfl
   ·rw [A3 rfl hd]
    repeat'(first|refine wk1 ?_|(refine wk2 ?_ ?_<;>intro _)|fail)
    refine bs.sv (sx:=sxC) hk2 Tryz.func54 (by kernel_rfl) (by kernel_rfl) ?_
    refine Tq 3 ?_
    refine Ri (bs.av (sx:=sxC) hk2 ?_)
    repeat'(first|refine wk1 ?_|(refine wk2 ?_ ?_<;>intro _)|fail)
    refine bs.sv (sx:=sxC) hk2 Tryz.func55 (by kernel_rfl) (by kernel_rfl) ?_
    repeat'(first|refine wk1 ?_|(refine wk2 ?_ ?_<;>intro _)|fail)
    refine Ri (bs.av (sx:=sxC) hk2 ?_)
    repeat'(first|refine wk1 ?_|(refine wk2 ?_ ?_<;>intro _)|fail)
    refine bs.sv (sx:=sxC) hk2 Tryz.func58 (by kernel_rfl) (by kernel_rfl) ?_
    repeat'(first|refine wk1 ?_|(refine wk2 ?_ ?_<;>intro _)|fail)
    refine Ri (bs.av (sx:=sxC) hk2 ?_)
    repeat'(first|refine wk1 ?_|(refine wk2 ?_ ?_<;>intro _)|fail)
    exact Zg (by rw [k4,k5,k6,k7]) rfl
theorem c40 {h:Hal} (hk:h.ok) {s:Stg} (hs:s.few) {c:Crs} (hw:c.to.wf):PCall Tryz.prog 36 [h.av,s.av,c.av] ⟨crAV (crsA h s c),[]⟩:=by
 unfold crsA
 by_cases he:crsE h s c=0
 ·rw [if_pos he]; exact c40o hk hs hw he
 ·rw [if_neg he]; exact c40e hk hs hw he
theorem Zwv {h:Hal} {s:Stg} {c:Crs} (g:Sit h s) (hi:SK h c.su) (ho:CrOk (Zc h s c.su) c):Zaa (Zae h c.su) (Zc h s c.su) c=Zaa (Zaw h c.su) (Zc h s c.su) c:=by
 by_cases hs:0<=sgn (crF (Zc h s c.su) c)*sgn (crG (Zc h s c.su) c)
 ·rw [Zfe hs,Zfe hs]
 ·have hb:=(Vv (Uz ho hs)).2.2.1
  have e:=Zy5 g hi (p:=Xg (Zc h s c.su) c) hb.ok (Zdy ho hs)
  unfold Zaa
  rw [e]
def Ybp (p:Pt):Prop:=(-(5000*p.d)<=p.x/\p.x<=5000*p.d)/\(-(5000*p.d)<=p.y/\p.y<=5000*p.d)/\(-(5000*p.d)<=p.z/\p.z<=5000*p.d)
theorem Zrb {h:Hal} {w:Wl} {n sx sy:Int} (hs:Str w n sx sy) {p:Pt} (hp:PtOk p.x p.y p.d) (ht:2<=h.ht/\h.ht<=5000) (hpl:valN (plW w).1 p.x p.y p.z=(plW w).2*p.d) (hw:Zj9 h w p=true):Ybp p:=by
 obtain ⟨x,y,z,d⟩:=p
 dsimp only at hp hpl
 have hd:=hp.hd
 have hD:=hp.hD
 have a1:=Ze hs.b1 hd
 have a2:=Ze hs.b2 hd
 have a3:=Ze hs.b3 hd
 have a4:=Ze hs.b4 hd
 have hz0:=Ze (f:=h.ht) (d:=d) (by omega) hd
 have hz:Qa Qb (h.ht*d)=h.ht*d:=W_eq (by omega) (by omega)
 unfold Zj9 at hw
 rw [Zjh hs] at hpl
 unfold valN at hpl
 rw [Zch,Zch,Zci,Zci] at hw
 dsimp only at hw
 rw [hz,Zas hd,Zas hd,Zat hd,Zat hd] at hw
 rw [W_eq (n:=min (w.fx*d) (w.tx*d)) (by omega) (by omega),W_eq (n:=max (w.fx*d) (w.tx*d)) (by omega) (by omega),W_eq (n:=min (w.fy*d) (w.ty*d)) (by omega) (by omega),W_eq (n:=max (w.fy*d) (w.ty*d)) (by omega) (by omega)] at hw
 have ex:w.tx*d=w.fx*d+sx*(n*d):=by rw [hs.tx]; grind
 have ey:w.ty*d=w.fy*d+sy*(n*d):=by rw [hs.ty]; grind
 have d3:(w.fx+w.fy)*d=w.fx*d+w.fy*d:=by grind
 have d4:(w.fx-w.fy)*d=w.fx*d-w.fy*d:=by grind
 have cnd:(w.fx=w.tx)->sx=0:=by
  intro e
  have:=hs.tx
  have hn:=hs.hn
  have:n*sx=0:=by omega
  rcases Int.mul_eq_zero.1 this with h|h
  ·omega
  ·exact h
 have nd:0<n*d:=Ra hs.hn hd
 unfold Ybp
 dsimp only
 simp only [Qf,Sc,Mh,decide_eq_false_iff_not] at hw
 obtain ⟨⟨z1,z2⟩,hw⟩:=hw
 have hxy:=hs.hxy
 split at hw
 ·rename_i c
  have c0:=cnd c
  subst c0
  simp only [Qf,decide_eq_true_eq] at hw
  simp at hpl
  omega
 ·rename_i c
  simp only [Qf,decide_eq_true_eq] at hw
  have hx0:sx≠0:=fun e=>c (by rw [hs.tx,e]; omega)
  rw [if_neg hx0] at hpl
  rcases hs.hy with rfl|rfl|rfl<;>rcases hs.hx with rfl|rfl|rfl
  all_goals simp at hpl hx0
  all_goals omega
theorem Zm7 {h:Hal} {d z n:Int} (hd:0<d) (hn:0<=n/\n<=5000) (e:z=n*d) : -(5000*d)<=z/\z<=5000*d:=by
 have:=Ze (f:=n) (d:=d) (by omega) hd
 omega
theorem Zq7 {h:Hal} {s:Stg} (g:Sit h s) {i:Int} (hi:SK h i) {p:Pt} (hp:PtOk p.x p.y p.d) (hpl:valN (Zc h s i).1 p.x p.y p.z=(Zc h s i).2*p.d) (hw:Zae h i p=true):Ybp p:=by
 have ht:=g.fine.ht
 cases hi with
 | wall k hk =>
  have hk2:k<h.cs.length:=by have:=g.fine.le; omega
  obtain ⟨n,sx,sy,hs⟩:=g.fine.st k hk2
  rw [Ut hk] at hpl
  rw [Zey hk] at hw
  exact Zrb hs hp ht hpl hw
 | floor =>
  rw [Zdj] at hw
  rw [Zaj] at hpl
  have hb:=Ziq g.fine.st hp hw
  have hpl:p.z=0*p.d:=hpl
  exact ⟨hb.1,hb.2,Zm7 (h:=h) hp.hd (by omega) hpl⟩
 | ceil =>
  rw [Zez] at hw
  rw [Zbm] at hpl
  have hb:=Ziq g.fine.st hp hw
  have hpl:p.z=h.ht*p.d:=hpl
  exact ⟨hb.1,hb.2,Zm7 (h:=h) hp.hd (by omega) hpl⟩
 | can j hj =>
  rw [Zgg hj] at hw
  rw [Zct] at hpl
  have hpl:p.z=Zbo h s j*p.d:=hpl
  have hg:=Zoy g hj
  have hr:=Zmx (Zfg g.fine hj).1
  have hd:0<p.d/\p.d<=1000000000000000:=by have:=hp.hd; have:=hp.hD; omega
  have c0:=(Zfg g.fine hj).1
  generalize h.ks[j]=c at *
  obtain ⟨⟨e1,e2⟩,e3,e4⟩:=Ze4 c
  have c1:=Ze c0.b1 hd.1
  have c2:=Ze c0.b2 hd.1
  have c3:=Ze c0.b3 hd.1
  have c4:=Ze c0.b4 hd.1
  rw [Zcs hr hd,e1,e2,e3,e4,Zas hd.1,Zat hd.1,Zas hd.1,Zat hd.1] at hw
  exact ⟨by omega,by omega,Zm7 (h:=h) hp.hd (by omega) hpl⟩
theorem Znp {h:Hal} {s:Stg} (g:Sit h s) {c:Crs} (hi:SK h c.su) (ho:CrOk (Zc h s c.su) c) (e:(Zaa (Zae h c.su) (Zc h s c.su) c).2=0) :
  Zy (Zaa (Zae h c.su) (Zc h s c.su) c).1=0:=by
 unfold Zaa at e ⊢
 split at e
 ·cases e
 ·rename_i hs
  split at e
  ·rename_i hw
   split at e
   ·cases e
   ·rename_i hd
    rw [if_neg hs,if_pos hw,if_neg hd]
    have hbig:=Uz ho hs
    have hb:=(Vv hbig).2.2.1
    have hn:=Zq7 g hi (p:=Xg (Zc h s c.su) c) hb.ok (Zdy ho hs) hw
    have hg:=Zo2 hbig
    unfold Zy
    have hd0:=hb.d.1
    rw [if_neg (by
     intro q
     rcases q with q|q
     ·exact absurd hd0 (Int.not_lt.2 q)
     ·exact q hg),if_neg hd,if_pos]
    unfold ptIn
    obtain ⟨n1,n2,n3⟩:=hn
    simp only [Qf,within_iff]
    exact ⟨⟨n1,n2⟩,n3⟩
  ·cases e
structure Pth where
 ss:List Int
 ps:List (Int × Int × Int × Int)
 sq:Int
abbrev hp4 (p:Int × Int × Int × Int):List AV:=[I p.1,I p.2.1,I p.2.2.1,I p.2.2.2]
abbrev Pth.av (p:Pth):AV:=.agg [.isl 1 (nl p.ss),.isl 4 (p.ps.map hp4),I p.sq]
theorem d210 (n lo hi:Int):PCall Tryz.prog 33 [I n,I lo,I hi] ⟨Bo (within n lo hi),[]⟩:=by
 refine pn Zh Tryz.func33 ?_
 repeat'(first|refine wk3 ?_|(refine wk2 ?_ ?_<;>intro _)|fail)
 all_goals exact Zb (by simp_all [within]<;>omega)
theorem d209 (b:Bool) (e:Int):PCall Tryz.prog 31 [Bo b,I e] ⟨I (unl b e),[]⟩:=by
 refine pn Zh Tryz.func31 ?_
 repeat'(first|refine wk3 ?_|(refine wk2 ?_ ?_<;>intro _)|fail)
 all_goals exact Zd (by simp_all [unl])
def fstL:List Int->Int
 | []=>0
 | x::l=>if x≠0 then x else fstL l
theorem Zs0 (x:Int) (l:List Int):fstL (x::l)=if x≠0 then x else fstL l:=rfl
theorem d78 {l:List Int} (hl:l.length<1000):PCall Tryz.prog 22 [.isl 1 (nl l)] ⟨I (fstL l),[]⟩:=by
 have l2:=Xa l
 refine pn Zh Tryz.func22 ?_
 repeat'(first|refine wk3 ?_|(refine wk2 ?_ ?_<;>intro _)|fail)
 refine Za3 (S:=Nat × Int) (fun t=>l.length-t.1) (fun t=>[(5,.isl 1 (nl l)),(6,I (nl l).length),(7,I t.2)]) (fun _=>[]) 0 0 (fun t=>t.2=t.1/\t.1<=l.length/\fstL (l.drop t.1)=fstL l) (0,0) ⟨rfl,Rl _,rfl⟩ (Qm _) [] rfl (kps) (kps) ?_
 rintro ⟨k,i⟩ ⟨hi,hk,hh⟩
 dsimp only at hi hk hh ⊢
 subst hi
 generalize fstL l=R at *
 refine bs.av (sx:=nos) Zh ?_
 by_cases hlt:k<l.length
 ·have e1:=Zdc hlt
  rw [Qr hlt,Zs0] at hh
  generalize l[k]=x at *
  by_cases hx:x=0
  ·rw [if_neg (fun c=>c hx)] at hh
   repeat'(first|refine wk3 ?_|(refine wk2 ?_ ?_<;>intro _)|fail)
   exact Th ⟨(k+1,_),[],rfl,kps,kps,⟨Xh (by omega),hlt,hh⟩,by dsimp only; omega⟩
  ·rw [if_pos hx] at hh
   subst hh
   repeat'(first|refine wk3 ?_|(refine wk2 ?_ ?_<;>intro _)|fail)
   exact Zd rfl
 ·rw [Rb (by omega)] at hh
  repeat'(first|refine wk3 ?_|(refine wk2 ?_ ?_<;>intro _)|fail)
  exact Zd hh
def r78f:List AV->Option PRes
 | [.isl 1 l]=>match numsOf l with
  | some ns=>asr (Nat.blt ns.length 1000) ⟨I (fstL ns),[]⟩
  | none=>none
 | _=>none
where
 numsOf:List (List AV)->Option (List Int)
  | []=>some []
  | [.int .i64 n]::l=>match numsOf l with
   | some ns=>some (n::ns)
   | none=>none
  | _=>none
theorem d86 (n m:Int):PCall Tryz.prog 43 [I n,I m] ⟨Bo (small n m),[]⟩:=by
 have hk:PCOK Tryz.prog (ins 33 (fun a=>match a with
  | [.int .i64 n,.int .i64 lo,.int .i64 hi]=>some ⟨Bo (within n lo hi),[]⟩
  | _=>none) pt0):=Zj (fun a res h=>by split at h<;>cases h; exact d210 _ _ _) Zh
 refine pn hk Tryz.func43 ?_
 repeat'(first|refine wk3 ?_|(refine wk2 ?_ ?_<;>intro _)|fail)
 exact Zb rfl
def rWu:List AV->Option PRes
 | [.int .i64 n,.int .i64 lo,.int .i64 hi]=>some ⟨Bo (within n lo hi),[]⟩
 | _=>none
abbrev Ydz (h:Hal):Prop:=(9<h.ws.length/\h.ws.length<=12)\/14<h.ws.length\/14<h.cs.length\/4<h.ms.length\/2<h.ks.length\/3<h.ss.length
def Zx4 (h:Hal):Bool:=Uf h.nm&&Uf h.fl&&Uf h.ce
def few2 (h:Hal):Bool:=(!decide (Ydz h)&&Zx4 h)&&(h.ws.all fewW&&(h.ms.all fewM&&(h.ks.all fewC&&h.ss.all fewS)))
theorem Yar {h:Hal} (hb:few2 h=true):h.ok:=by
 unfold few2 Zx4 at hb
 simp only [Qf,Sc,decide_eq_false_iff_not] at hb
 obtain ⟨⟨hL,⟨n1,n2⟩,n3⟩,m2,m1,m3,m4⟩:=hb
 have hL:¬ ((9<h.ws.length/\h.ws.length<=12)\/14<h.ws.length\/14<h.cs.length\/4<h.ms.length\/2<h.ks.length\/3<h.ss.length):=hL
 rw [List.all_eq_true] at m1 m2 m3 m4
 refine ⟨⟨by omega,by omega,by omega,by omega,by omega,fun c hc=>?_⟩,⟨Za0 n1,fun m hm=>Za0 (m1 m hm),fun m hm=>?_,fun m hm=>?_,fun m hm=>Za0 (m4 m hm)⟩⟩
 ·have:=m3 c hc
  unfold fewC at this
  simp only [Qf,Sc,decide_eq_false_iff_not] at this
  omega
 ·have:=m2 m hm
  unfold fewW at this
  simp only [Qf] at this
  exact Za0 this.1.1
 ·have:=m3 m hm
  unfold fewC at this
  simp only [Qf] at this
  exact Za0 this.1.1
def nsN (h:Hal):Nat:=h.ws.length+2+h.ks.length
theorem Ycd (h:Hal):(nsN h:Int)=nsur h:=by unfold nsN nsur; omega
theorem Zvj (h:Hal):(sl (surf h)).length=nsN h:=by
 rw [Zgq]; unfold surf Zd2 Zed nsN; simp; omega
def prvL (l:List Int):Nat->Option Int
 | 0=>none
 | k+1=>l[k]?
def wkG (n:Int):Option Int->List Int->Int
 | _,[]=>0
 | q,x::l=>if within x 0 n then (if q=some x then 26 else wkG n (some x) l) else 6
theorem Zu5 {n:Int} {l:List Int} {k:Nat} (hk:k<l.length):wkG n (prvL l k) (l.drop k)=if within l[k] 0 n then (if prvL l k=some l[k] then 26 else wkG n (prvL l (k+1)) (l.drop (k+1))) else 6:=by
 rw [Qr hk,wkG,show prvL l (k+1)=some l[k] by rw [prvL,Ql hk]]
def suE (h:Hal) (l:List Int):Int:=if 4<(l.length:Int) then 8 else wkG (nsur h-1) none l
theorem Zxi {n:Int}:∀ {l:List Int} {q:Option Int},wkG n q l=0->∀ x∈l,0<=x/\x<=n
 | [],_,_,x,hx=>by simp at hx
 | y::l,q,h,x,hx=>by
  rw [wkG] at h
  split at h
  ·rename_i c
   split at h
   ·cases h
   ·rw [Rp] at hx
    rcases hx with rfl|hx
    ·exact within_iff.1 c
    ·exact Zxi h x hx
  ·cases h
theorem d165 {h:Hal} (hk:h.ok) (he:h.err=0) (l:List Int) (hl:l.length<1000):PCall Tryz.prog 18 [h.av,.isl 1 (nl l)] ⟨I (suE h l),[]⟩:=by
 have l2:=Xa l
 have h64:=c64 hk
 rw [he,if_pos rfl] at h64
 have l3:=Zvj h
 have hn:=Ycd h
 have hf:=hk.f
 have hnb:nsN h<10000:=by obtain ⟨f1,f2,f3,f4,f5,f6⟩:=hf; unfold nsN; omega
 have hk:=Zi h64 (Zj (f0:=33) (r:=rWu) (fun a res h=>by unfold rWu at h; split at h<;>cases h; exact d210 _ _ _) Zh)
 unfold suE
 by_cases c:4<(l.length:Int)
 ·rw [if_pos c]
  refine pn Zh Tryz.func18 ?_
  repeat'(first|refine wk3 ?_|(refine wk2 ?_ ?_<;>intro _)|fail)
  exact Zd rfl
 rw [if_neg c]
 have w0:Qa Qb (((sl (surf h)).length:Int)-1)=nsur h-1:=by rw [l3,W_eq (by omega) (by omega)]; omega
 rw [<-w0]
 refine pn hk Tryz.func18 ?_
 repeat'(first|refine wk3 ?_|(refine wk2 ?_ ?_<;>intro _)|fail)
 refine Za3 (S:=Nat × Int) (fun t=>l.length-t.1) (fun t=>[(1,.isl 1 (nl l)),(5,.isl 1 (sl (surf h))),(17,.isl 1 (nl l)),(18,I (nl l).length),(19,I t.2)]) (fun _=>[]) 1 1 (fun t=>t.2=t.1/\t.1<=l.length/\wkG (Qa Qb (((sl (surf h)).length:Int)-1)) (prvL l t.1) (l.drop t.1)=wkG (Qa Qb (((sl (surf h)).length:Int)-1)) none l) (0,0) ⟨rfl,Rl _,rfl⟩ (Qm _) [] rfl (kps) (kps) ?_
 rintro ⟨k,i⟩ ⟨hi,hk1,hh⟩
 dsimp only at hi hk1 hh ⊢
 subst hi
 generalize wkG (Qa Qb (((sl (surf h)).length:Int)-1)) none l=R at *
 refine bs.av (sx:=nos) hk ?_
 by_cases hlt:k<l.length
 ·have e1:=Zdc hlt
  rw [Zu5 hlt] at hh
  cases k with
  | zero =>
   rw [show prvL l 0=none from rfl] at hh
   rw [if_neg (c:=none=some l[0]) (by simp)] at hh
   generalize l[0]=x at *
   cases hw:within x 0 (Qa Qb (((sl (surf h)).length:Int)-1))
   ·rw [hw] at hh
    have hh:(6:Int)=R:=hh
    subst hh
    repeat'(first|refine wk3 ?_|(refine wk2 ?_ ?_<;>intro _)|fail)
    all_goals first
     | exact Zd rfl
     | (exfalso; simp_all; done)
   ·rw [hw,if_pos rfl] at hh
    repeat'(first|refine wk3 ?_|(refine wk2 ?_ ?_<;>intro _)|fail)
    all_goals first
     | exact Th ⟨(1,_),[],rfl,kps,kps,⟨Xh (k:=0) (by omega),hlt,hh⟩,by dsimp only; omega⟩
     | (exfalso; simp_all; done)
  | succ k =>
   have w:Qa Qb (((k+1:Nat):Int)-1)=(k:Int):=by rw [W_eq (by omega) (by omega)]; omega
   have hlt' : k<l.length:=by omega
   have e2:(nl l)[(Qa Qb (((k+1:Nat):Int)-1)).toNat]?=some [I l[k]]:=by rw [w]; exact Zdc hlt'
   rw [show prvL l (k+1)=some l[k] by rw [prvL,Ql hlt']] at hh
   generalize l[k+1]=x at *
   generalize l[k]=y at *
   cases hw:within x 0 (Qa Qb (((sl (surf h)).length:Int)-1))
   ·rw [hw] at hh
    have hh:(6:Int)=R:=hh
    subst hh
    repeat'(first|refine wk3 ?_|(refine wk2 ?_ ?_<;>intro _)|fail)
    all_goals first
     | exact Zd rfl
     | (exfalso; simp_all; done)
   ·rw [hw,if_pos rfl] at hh
    by_cases hxy:x=y
    ·rw [if_pos (by rw [hxy])] at hh
     subst hh
     repeat'(first|refine wk3 ?_|(refine wk2 ?_ ?_<;>intro _)|fail)
     all_goals first
      | exact Zd rfl
      | (exfalso; simp_all; done)
    ·rw [if_neg (fun c=>hxy (by simpa using c.symm))] at hh
     repeat'(first|refine wk3 ?_|(refine wk2 ?_ ?_<;>intro _)|fail)
     all_goals first
      | exact Th ⟨(k+1+1,_),[],rfl,kps,kps,⟨Xh (k:=k+1) (by omega),hlt,hh⟩,by dsimp only; omega⟩
      | (exfalso; simp_all; done)
 ·rw [Rb (by omega),wkG] at hh
  repeat'(first|refine wk3 ?_|(refine wk2 ?_ ?_<;>intro _)|fail)
  exact Zd hh
def eqN:List Int->List Int->Bool
 | [],[]=>true
 | x::a,y::b=>decide (x=y)&&eqN a b
 | _,_=>false
theorem d103 {ns:List Int} (h0:0<ns.length) (hl:ns.length<100000):PCall Tryz.prog 38 [.isl 1 (nl ns)] ⟨.asl 0 0 (nl ns).length,[(1,nl ns)]⟩:=by
 obtain ⟨x,l,rfl⟩:=Md h0
 have h1:=Zr6 (x::l)
 have h2:=Xa (x::l)
 refine pn Zh Tryz.func38 ?_
 repeat'(first|refine wk3 ?_|(refine wk2 ?_ ?_<;>intro _)|fail)
 refine Uk [1] rfl ?_ rfl
 show Dy 1 0 (0+(nl (x::l)).length)=Dy 1 0 (nl (x::l)).length
 rw [Tm]
theorem w103 (a:Option Addr) (cap:Nat) (w:World):Calls Tryz.prog 38 #[.slice a 0 cap] w fun e w'=>∃ a' cap',e = .returned (.slice a' 0 cap')/\RowKit.Below w.heap.size w w':=by
 have e:∀ w:World,Sem.run Tryz.prog (binOp BinOp.eql 34 (Nn a 0 cap) (Nn none 0 0)) w = .ok (.bool a.isNone) w:=by
  intro w
  cases a<;>rfl
 cases a with
 | none =>
  simp only [Kb] at e
  go_enter Tryz.func38,Tryz.ntmps38
  go_wp2
  go_ret
  exact ⟨_,_,rfl,Hp _ _⟩
 | some a =>
  simp only [Kb] at e
  go_enter Tryz.func38,Tryz.ntmps38
  go_wp2
  go_ret
  exact ⟨_,_,rfl,Zhv _ _⟩
theorem Yd9:PCall Tryz.prog 38 [.isl 1 []] ⟨.isl 1 [],[]⟩:=Zky (FnOK.of Tryz.func38 (by kernel_rfl) (by kernel_rfl)) w103
theorem Zr7 (l:List (Int × Int × Int × Int)):Zcb (l.map hp4)=true:=by simp [Zcb,AV.one]
theorem d104 {ps:List (Int × Int × Int × Int)} (h0:0<ps.length) (hl:ps.length<100000):PCall Tryz.prog 39 [.isl 4 (ps.map hp4)] ⟨.asl 0 0 (ps.map hp4).length,[(4,ps.map hp4)]⟩:=by
 obtain ⟨x,l,rfl⟩:=Md h0
 have h1:=Zr7 (x::l)
 have h2:((x::l).map hp4).length=(x::l).length:=by simp
 refine pn Zh Tryz.func39 ?_
 repeat'(first|refine wk3 ?_|(refine wk2 ?_ ?_<;>intro _)|fail)
 refine Uk [1] rfl ?_ rfl
 show Dy 1 0 (0+((x::l).map hp4).length)=Dy 1 0 ((x::l).map hp4).length
 rw [Tm]
theorem w104 (a:Option Addr) (cap:Nat) (w:World):Calls Tryz.prog 39 #[.slice a 0 cap] w fun e w'=>∃ a' cap',e = .returned (.slice a' 0 cap')/\RowKit.Below w.heap.size w w':=by
 have e:∀ w:World,Sem.run Tryz.prog (binOp BinOp.eql 35 (Nn a 0 cap) (Nn none 0 0)) w = .ok (.bool a.isNone) w:=by
  intro w
  cases a<;>rfl
 cases a with
 | none =>
  simp only [Kb] at e
  go_enter Tryz.func39,Tryz.ntmps39
  go_wp2
  go_ret
  exact ⟨_,_,rfl,Hp _ _⟩
 | some a =>
  simp only [Kb] at e
  go_enter Tryz.func39,Tryz.ntmps39
  go_wp2
  go_ret
  exact ⟨_,_,rfl,Zhv _ _⟩
theorem Yd7:PCall Tryz.prog 39 [.isl 4 []] ⟨.isl 4 [],[]⟩:=Zky (FnOK.of Tryz.func39 (by kernel_rfl) (by kernel_rfl)) w104
abbrev Pl3:=Int × Int × Int
def plcB (x y z:Int):Bool:=within x (-5000) 5000&&within y (-5000) 5000&&within z (-5000) 5000
def plaE (h:Hal) (x y z:Int):Int:=if plcB x y z=true then unl (Zam h ⟨x,y,z,1⟩) 24 else 2
theorem d123 (x y z:Int):PCall Tryz.prog 35 [P3 x y z] ⟨P4 x y z 1,[]⟩:=by
 refine pn Zh Tryz.func35 ?_
 repeat'(first|refine wk3 ?_|(refine wk2 ?_ ?_<;>intro _)|fail)
 all_goals exact Zg rfl rfl
theorem d81 (n:Int):PCall Tryz.prog 25 [I n] ⟨I (unl (within n 0 4) 2),[]⟩:=by
 refine bs.pv (sx:=nos) (Zi (d210 n 0 4) (Zi (d209 (within n 0 4) 2) Zh)) Tryz.func25 (by kernel_rfl) (by kernel_rfl) rfl ?_
 repeat'(first|refine wk3 ?_|(refine wk2 ?_ ?_<;>intro _)|fail)
 exact Zd rfl
theorem Zob (n:Int):small n 5000=within n (-5000) 5000:=rfl
theorem Ycb {x y z:Int} (c:plcB x y z=true):Zy ⟨x,y,z,1⟩=0:=by
 simp only [plcB,Qf,within_iff] at c
 have hg:g4 ⟨x,y,z,1⟩=1:=by
  simp [g4]
 unfold Zy
 rw [if_neg (by simp [hg]),if_neg (by simp),if_pos]
 unfold ptIn
 simp only [Qf,within_iff]
 simp
 omega
def r86:List AV->Option PRes
 | [.int .i64 n,.int .i64 m]=>some ⟨Bo (small n m),[]⟩
 | _=>none
theorem Yb4 {pt:PC} (h:PCOK Tryz.prog pt):PCOK Tryz.prog (ins 43 r86 pt):=Zj (fun a res h=>by unfold r86 at h; split at h<;>cases h; exact d86 _ _) h
theorem d79 {h:Hal} (hk:h.ok) (he:h.err=0) (x y z:Int):PCall Tryz.prog 30 [h.av,P3 x y z] ⟨I (plaE h x y z),[]⟩:=by
 have hk0:=Yb4 (Zi (d123 x y z) Zh)
 by_cases c:plcB x y z=true
 ·have hp:=Ycb c
  have hi:insE h ⟨x,y,z,1⟩=0:=by unfold insE; rw [if_pos he,hp]
  have hw:Pt.wf ⟨x,y,z,1⟩:=by
   simp only [plcB,Qf,within_iff] at c
   refine ⟨⟨?_,?_⟩,⟨?_,?_⟩,⟨?_,?_⟩,⟨?_,?_⟩⟩<;>dsimp only<;>omega
  have h50:=c50 hk hw
  rw [hi] at h50
  unfold plaE
  rw [if_pos c]
  generalize Zam h ⟨x,y,z,1⟩=b at *
  have hk1:=Zi h50 (Zi (d209 b 24) hk0)
  simp only [plcB,Qf,<-Zob] at c
  refine pn hk1 Tryz.func30 ?_
  repeat'(first|refine wk3 ?_|(refine wk2 ?_ ?_<;>intro _)|fail)
  all_goals first
   | exact Zd rfl
   | (exfalso; clear hk1 h50 hk0 hp hi; simp_all; done)
 ·unfold plaE
  rw [if_neg c]
  simp only [plcB,<-Zob] at c
  refine pn hk0 Tryz.func30 ?_
  repeat'(first|refine wk3 ?_|(refine wk2 ?_ ?_<;>intro _)|fail)
  all_goals first
   | exact Zd rfl
   | (exfalso; clear hk0; simp_all; done)
abbrev pl3 (p:Pl3):List AV:=[I p.1,I p.2.1,I p.2.2]
def im1 (h:Hal) (s:Stg) (n:Int) (p:Pl3):Pl3:=rmir (Zc h s n).1 (Zc h s n).2 p.1 p.2.1 p.2.2
def imA (f:Int->Pl3->Pl3) (p:Pl3) (l:List Int) (k:Nat):Pl3:=(l.take k).foldl (fun q n=>f n q) p
theorem Zov (f:Int->Pl3->Pl3) (p:Pl3) {l:List Int} {k:Nat} (hk:k<l.length):imA f p l (k+1)=f l[k] (imA f p l k):=by
 unfold imA
 rw [List.take_succ_eq_append_getElem hk,List.foldl_append]
 rfl
def imC (f:Int->Pl3->Pl3) (p:Pl3) (l:List Int) (k:Nat):List (List AV):=(List.range (k+1)).map fun j=>pl3 (imA f p l j)
theorem Zjr (f:Int->Pl3->Pl3) (p:Pl3) (l:List Int) (k:Nat):(imC f p l k).length=k+1:=by simp [imC]
theorem Zou (f:Int->Pl3->Pl3) (p:Pl3) (l:List Int) (k:Nat):(imC f p l k)[k]?=some (pl3 (imA f p l k)):=by simp [imC]
theorem Zwd (f:Int->Pl3->Pl3) (p:Pl3) (l:List Int) (k:Nat):imC f p l (k+1)=imC f p l k++[pl3 (imA f p l (k+1))]:=by
 unfold imC
 rw [List.range_succ,List.map_append]
 rfl
theorem Zvt {h:Hal} {s:Stg} (g:Sit h s) {i:Int} (hi:SK h i):(Zc h s i).1<=2->(-5000<=(Zc h s i).2/\(Zc h s i).2<=5000):=by
 have ht:=g.fine.ht
 cases hi with
 | wall k hk =>
  have hk2:k<h.cs.length:=by have:=g.fine.le; omega
  obtain ⟨n,sx,sy,hs⟩:=g.fine.st k hk2
  rw [Ut hk,Zjh hs]
  have:=hs.b1
  have:=hs.b2
  repeat' split
  all_goals (dsimp only; omega)
 | floor=>rw [Zaj]; dsimp only; omega
 | ceil=>rw [Zbm]; dsimp only; omega
 | can j hj =>
  rw [Zct]
  have:=Zoy g hj
  dsimp only; omega
def Near (m:Int) (p:Pl3):Prop:=(-m<=p.1/\p.1<=m)/\(-m<=p.2.1/\p.2.1<=m)/\(-m<=p.2.2/\p.2.2<=m)
theorem Zox {h:Hal} {s:Stg} (g:Sit h s) {i:Int} (hi:SK h i) {m:Int} (hm:m<=35000) {p:Pl3} (hp:Near m p):Near (m+10000) (im1 h s i p)/\Xw (Zc h s i).1 (Zc h s i).2 p.1 p.2.1 p.2.2=0/\mirP (Zc h s i).1 (Zc h s i).2 p.1 p.2.1 p.2.2=im1 h s i p:=by
 have b:=Zf8 g hi
 have b2:=Zvt g hi
 obtain ⟨x,y,z⟩:=p
 obtain ⟨hx,hy,hz⟩:=hp
 dsimp only at hx hy hz
 unfold im1
 generalize (Zc h s i).1=k at *
 generalize (Zc h s i).2=a at *
 have key:Near (m+10000) (rmir k a x y z):=by
  unfold rmir Near
  have w2:Qa Qb (2*a)=2*a:=W_eq (by omega) (by omega)
  by_cases k0:k=0
  ·subst k0; have:=b2 (by omega); simp only [if_pos]; rw [w2,W_eq (by omega) (by omega)]; omega
  by_cases k1:k=1
  ·subst k1; have:=b2 (by omega); simp; rw [w2,W_eq (by omega) (by omega)]; omega
  by_cases k2:k=2
  ·subst k2; have:=b2 (by omega); simp; rw [w2,W_eq (by omega) (by omega)]; omega
  by_cases k3:k=3
  ·subst k3; simp; rw [W_eq (by omega) (by omega),W_eq (by omega) (by omega)]; omega
  have k4:k=4:=by omega
  subst k4; simp; rw [W_eq (by omega) (by omega),W_eq (by omega) (by omega)]; omega
 have e:=Zp6 b.1 b.2 (x:=x) (y:=y) (z:=z) (by omega) (by omega) (by omega) (u:=(rmir k a x y z).1) (v:=(rmir k a x y z).2.1) (w:=(rmir k a x y z).2.2) rfl
  (by have:=key.1; omega) (by have:=key.2.1; omega) (by have:=key.2.2; omega)
 refine ⟨key,by rw [Zk1]; exact e,?_⟩
 rw [Zz2]
 unfold Zzk
 rw [if_pos e]
theorem Zow {h:Hal} {s:Stg} (g:Sit h s) {p:Pl3} (hp:Near 5000 p) {l:List Int} (hl:l.length<=4) (hi:∀ n∈l,SK h n):∀ k,k<=l.length->Near (5000+10000*k) (imA (im1 h s) p l k)
 | 0,_=>by simpa [imA] using hp
 | k+1,hk=>by
  rw [Zov _ _ (by omega)]
  have:=(Zox g (hi l[k] (Rx _)) (m:=5000+10000*k) (by omega) (Zow g hp hl hi k (by omega))).1
  rw [show (5000:Int)+10000*((k+1:Nat):Int)=5000+10000*k+10000 by omega]
  exact this
theorem Yb7 {pt:PC} (h:PCOK Tryz.prog pt):PCOK Tryz.prog (ins 52 r32 pt):=Zj (fun a res h=>by unfold r32 at h; split at h<;>cases h; exact c32 _ _ _ _ _) h
noncomputable abbrev plT (h:Hal) (s:Stg):List AV->Option PRes:=famA (fun i:Int=>0<=i/\i<nsur h) (fun i=>[h.av,s.av,I i]) (fun i=>⟨.tup [P2 (Zc h s i).1 (Zc h s i).2,I 0],[]⟩)
theorem Yb9 {h:Hal} (hk:h.ok) {s:Stg} (hs:s.few) (h0:serr h s=0) {pt:PC} (hp:PCOK Tryz.prog pt):PCOK Tryz.prog (ins 51 (plT h s) pt) :=
 Xs (fun i hi=>by
  have e:surE h s i=0:=by
   unfold surE
   rw [if_pos h0,if_pos (within_iff.2 (by omega))]
  have e2:Zfq h s i=Zc h s i:=by unfold Zfq; rw [if_pos e]
  have:=c54 hk hs i
  rw [e,e2] at this
  exact this) hp
theorem Zzu {h:Hal} {s:Stg} {i:Int} (hi:0<=i/\i<nsur h):plT h s [h.av,s.av,I i]=some ⟨.tup [P2 (Zc h s i).1 (Zc h s i).2,I 0],[]⟩ :=
 Yr (p:=fun i:Int=>0<=i/\i<nsur h) (g:=fun i=>[h.av,s.av,I i]) (r:=fun i=>⟨.tup [P2 (Zc h s i).1 (Zc h s i).2,I 0],[]⟩) (fun j hj=>by
  simp only [Rw,Wm,true_and,and_true] at hj
  rw [hj]) hi
theorem d82 {h:Hal} (hk:h.ok) {s:Stg} (hs:s.few) (h0:serr h s=0) {p:Pl3} (hp:Near 5000 p) {l:List Int} (hl:l.length<=4) (hi:∀ n∈l,0<=n/\n<nsur h) :
  PCall Tryz.prog 34 [.agg (stgL h s),P3 p.1 p.2.1 p.2.2,.isl 1 (nl l)] ⟨.asl 0 0 (l.length+1),[(3,imC (im1 h s) p l l.length)]⟩:=by
 have g:=Zkf hk hs h0
 have hkk:=Yb9 hk hs h0 (Yb7 Zh)
 have ll:=Xa l
 refine pn hkk Tryz.func34 ?_
 refine Za3 (S:=Nat × Int × Nat × List (List AV)) (fun t=>l.length-t.1) (fun t=>[(3,.ptr 0 0 0),(7,.asl (nm2 2 3 t.1) 0 t.2.2.1),(16,.isl 1 (nl l)),(17,I (nl l).length),(18,I t.2.1)]) (fun t=>[(nm2 2 3 t.1,.row 3 t.2.2.2 true true),(0,.row 11 [stgL h s] true false)]) 3 4
  (fun t=>t.2.1=t.1/\t.1<=l.length/\t.2.2.1=t.2.2.2.length/\t.2.2.2=imC (im1 h s) p l t.1) (0,0,1,[pl3 p]) ⟨rfl,Rl _,rfl,rfl⟩ (Qm _) [] rfl (kps) (kps) ?_
 rintro ⟨k,i,len,els⟩ ⟨hi',hk',hlen,hels⟩
 dsimp only at hi' hk' hlen hels ⊢
 subst hi'
 refine bs.av (sx:=nos) hkk ?_
 have e1:els.length=k+1:=by rw [hels,Zjr]
 have e2:els[0+(Qa Qb ((len:Int)-1)).toNat]?=some (pl3 (imA (im1 h s) p l k)):=by
  rw [Tm,hlen,e1,W_eq (by omega) (by omega),show (((k+1:Nat):Int)-1).toNat=k by omega,hels,Zou]
 have e8:Qa Qb ((len:Int)-1)=k:=by rw [hlen,e1,W_eq (by omega) (by omega)]; omega
 have hnr:=Zow g hp hl (fun n hn=>Zp3 (hi n hn).1 (hi n hn).2) k hk'
 by_cases hlt:k<l.length
 ·have e3:(nl l)[((k:Nat):Int).toNat]?=some [I l[k]]:=by simp [nl,hlt]
  have hin:=hi l[k] (Rx _)
  have e4:=Zzu (s:=s) hin
  have e5:=Zox g (Zp3 hin.1 hin.2) (by omega) hnr
  have e6:=Zov (im1 h s) p hlt
  have e7:=Zwd (im1 h s) p l k
  rw [<-hels,e6] at e7
  rw [<-e5.2.2] at e7
  clear e6 hels
  generalize imA (im1 h s) p l k=q at *
  generalize l[k]=n at *
  cases k with
  | zero =>
   repeat'(first|refine wk3 ?_|(refine wk2 ?_ ?_<;>intro _)|fail)
   exact Th ⟨(1,_,_,_),[(3,20)],rfl,kps,kps,⟨Xh (k:=0) (by omega),hlt,by exact List.length_append.symm,e7.symm⟩,by dsimp only; omega⟩
  | succ k =>
   repeat'(first|refine wk3 ?_|(refine wk2 ?_ ?_<;>intro _)|fail)
   exact Th ⟨(k+1+1,_,_,_),[(3,20)],rfl,kps,kps,⟨Xh (k:=k+1) (by omega),hlt,by exact List.length_append.symm,e7.symm⟩,by dsimp only; omega⟩
 ·have ek:k=l.length:=by omega
  subst ek
  rw [hels]
  rw [hels,Zjr] at hlen
  subst hlen
  cases l with
  | nil =>
   repeat'(first|refine wk3 ?_|(refine wk2 ?_ ?_<;>intro _)|fail)
   exact Uk [2] rfl rfl rfl
  | cons a l =>
   repeat'(first|refine wk3 ?_|(refine wk2 ?_ ?_<;>intro _)|fail)
   exact Uk [3] rfl rfl rfl
structure Ask where
 fx:Int
 fy:Int
 fz:Int
 tx:Int
 ty:Int
 tz:Int
 n:Int
abbrev Ask.av (a:Ask):AV:=.agg [I a.fx,I a.fy,I a.fz,I a.tx,I a.ty,I a.tz,I a.n]
def Ask.same (a:Ask):Bool:=decide (a.fx=a.tx)&&(decide (a.fy=a.ty)&&decide (a.fz=a.tz))
def askE (h:Hal) (s:Stg) (a:Ask):Int:=if serr h s=0 then fstL [plaE h a.fx a.fy a.fz,plaE h a.tx a.ty a.tz,unl (!a.same) 11,unl (within a.n 0 4) 2] else serr h s
theorem Zkj {h:Hal} {s:Stg} (e:serr h s=0):h.err=0:=by
 unfold serr at e
 split at e
 ·assumption
 ·rename_i q; exact absurd e q
def r80:List AV->Option PRes
 | [.bool b,.int .i64 e]=>some ⟨I (unl b e),[]⟩
 | _=>none
theorem Yb5 {pt:PC} (h:PCOK Tryz.prog pt):PCOK Tryz.prog (ins 31 r80 pt):=Zj (fun a res h=>by unfold r80 at h; split at h<;>cases h; exact d209 _ _) h
noncomputable abbrev r79 (h:Hal):List AV->Option PRes:=famA (fun _:Pl3=>True) (fun p=>[h.av,P3 p.1 p.2.1 p.2.2]) (fun p=>⟨I (plaE h p.1 p.2.1 p.2.2),[]⟩)
theorem Yb6 {h:Hal} (hk:h.ok) (he:h.err=0) {pt:PC} (hp:PCOK Tryz.prog pt):PCOK Tryz.prog (ins 30 (r79 h) pt):=Xs (fun p _=>d79 hk he p.1 p.2.1 p.2.2) hp
theorem Zrz (h:Hal) (x y z:Int):r79 h [h.av,P3 x y z]=some ⟨I (plaE h x y z),[]⟩ :=
 Yr (p:=fun _:Pl3=>True) (g:=fun p=>[h.av,P3 p.1 p.2.1 p.2.2]) (r:=fun p=>⟨I (plaE h p.1 p.2.1 p.2.2),[]⟩) (k:=(x,y,z)) (fun j hj=>by
  simp only [Rw,Kt,Wm,true_and,and_true] at hj
  obtain ⟨h1,h2,h3⟩:=hj
  rw [h1,h2,h3]) trivial
noncomputable abbrev rFst:List AV->Option PRes:=famA (fun l:List Int=>l.length<1000) (fun l=>[.isl 1 (nl l)]) (fun l=>⟨I (fstL l),[]⟩)
theorem Zzn {pt:PC} (hp:PCOK Tryz.prog pt):PCOK Tryz.prog (ins 22 rFst pt):=Xs (fun l hl=>d78 hl) hp
theorem Zvr {l:List Int} (h:l.length<1000):rFst [.isl 1 (nl l)]=some ⟨I (fstL l),[]⟩ :=
 Yr (p:=fun l:List Int=>l.length<1000) (g:=fun l=>[.isl 1 (nl l)]) (r:=fun l=>⟨I (fstL l),[]⟩) (fun j hj=>by
  simp only [Rw,AV.isl.injEq,true_and,and_true] at hj
  rw [Zx3 hj]) h
theorem d24 {h:Hal} (hk:h.ok) {s:Stg} (hs:s.few) (a:Ask):PCall Tryz.prog 17 [h.av,s.av,a.av] ⟨I (askE h s a),[]⟩:=by
 have hk0:=Zi (c47 hk hs) Zh
 by_cases e:serr h s=0
 ·have he:=Zkj e
  obtain ⟨fx,fy,fz,tx,ty,tz,n⟩:=a
  unfold askE
  rw [if_pos e]
  rw [e] at hk0
  dsimp only
  have hk1:=Yb6 hk he (Yb5 (Zi (d81 n) (Zzn hk0)))
  have q1:=Zrz h fx fy fz
  have q2:=Zrz h tx ty tz
  refine pn hk1 Tryz.func17 ?_
  repeat'(first|refine wk3 ?_|(refine wk2 ?_ ?_<;>intro _)|fail)
  refine wxG (Zvr (l:=[_,_,_,_]) (by simp)) ?_
  conv=>whnf
  repeat'(first|refine wk3 ?_|(refine wk2 ?_ ?_<;>intro _)|fail)
  exact Zd (by simp [Ask.same])
 ·rw [show askE h s a=serr h s by unfold askE; rw [if_neg e]]
  refine pn hk0 Tryz.func17 ?_
  repeat'(first|refine wk3 ?_|(refine wk2 ?_ ?_<;>intro _)|fail)
  all_goals first
   | exact Zd rfl
   | (exfalso; simp_all; done)
theorem d82f {h:Hal} (hk:h.ok) {s:Stg} (hs:s.few) (h0:serr h s=0) {p:Pl3} (hp:Near 5000 p) {l:List Int} (hl:l.length<=4) (hi:∀ n∈l,0<=n/\n<nsur h) :
  PCall Tryz.prog 34 [.agg (stgL h s),P3 p.1 p.2.1 p.2.2,.isl 1 (nl l)] ⟨.isl 3 (imC (im1 h s) p l l.length),[]⟩:=by
 have:=d82 hk hs h0 hp hl hi
 rw [show l.length+1=(imC (im1 h s) p l l.length).length by rw [Zjr]] at this
 exact this.freeze ⟨rfl,rfl,rfl⟩
theorem Zn8 {h:Hal} {l:List Int} (e:suE h l=0):l.length<=4/\∀ n∈l,0<=n/\n<nsur h:=by
 unfold suE at e
 split at e
 ·cases e
 ·exact ⟨by omega,fun n hn=>by have:=Zxi e n hn; omega⟩
theorem Zd7 {h:Hal} {x y z:Int} (e:plaE h x y z=0):Near 5000 (x,y,z)/\Zam h ⟨x,y,z,1⟩=true:=by
 unfold plaE at e
 split at e
 ·rename_i c
  simp only [plcB,Qf,within_iff] at c
  refine ⟨⟨by dsimp only; omega,by dsimp only; omega,by dsimp only; omega⟩,?_⟩
  unfold unl at e
  cases hb:Zam h ⟨x,y,z,1⟩ with
  | true=>rfl
  | false=>rw [hb] at e; cases e
 ·cases e
def atW (c:Int × Int) (l m:Int):Int:=l*c.1+m*c.2
def Zlc (cs:List (Int × Int)):Prop:=∃ l m:Int,0<l/\0<m/\∀ c∈cs,0<=atW c l m
theorem Ydf {l0 m0:Int} (h1:0<l0) (h2:0<m0) {l m:Int} (hl:0<l) (hm:0<m):∀ cs:List (Int × Int),(∀ c∈cs,0<=atW c l m)->∃ a b:Int,0<a/\0<b/\(∀ c∈cs,0<=atW c a b)/\((a=l0/\b=m0)\/∃ c∈cs,atW c a b=0)
 | [],_=>⟨l0,m0,h1,h2,by simp,.inl ⟨rfl,rfl⟩⟩
 | c::cs,h=>by
  obtain ⟨a,b,ha,hb,k1,k2⟩:=Ydf h1 h2 hl hm cs fun c' hc=>h c' (by simp [hc])
  have hT:=h c (by simp)
  by_cases hc:0<=atW c a b
  ·refine ⟨a,b,ha,hb,fun c' hc'=>?_,?_⟩
   ·rcases Rp.1 hc' with rfl|hc'
    ·exact hc
    ·exact k1 c' hc'
   ·rcases k2 with k2|⟨c',g1,g2⟩
    ·exact .inl k2
    ·exact .inr ⟨c',by simp [g1],g2⟩
  ·have hN:0 < -atW c a b:=by omega
   have comb:∀ c' : Int × Int,atW c' (-atW c a b*l+atW c l m*a) (-atW c a b*m+atW c l m*b) = -atW c a b*atW c' l m+atW c l m*atW c' a b:=by
    intro c'
    generalize atW c a b=N
    generalize atW c l m=T
    unfold atW; grind
   refine ⟨-atW c a b*l+atW c l m*a,-atW c a b*m+atW c l m*b,?_,?_,fun c' hc'=>?_,.inr ⟨c,by simp,?_⟩⟩
   ·have:=Ra hN hl
    have:=Qu hT (Qx ha)
    omega
   ·have:=Ra hN hm
    have:=Qu hT (Qx hb)
    omega
   ·rw [comb]
    rcases Rp.1 hc' with rfl|hc'
    ·have : -atW c' a b*atW c' l m+atW c' l m*atW c' a b=0:=by grind
     omega
    ·have:=Qu (Qx hN) (h c' (by simp [hc']))
     have:=Qu hT (k1 c' hc')
     omega
   ·rw [comb]; grind
def rcN (r:Rc) (p q:P2d):List (Int × Int):=[(p.x-r.xl*p.d,q.x-r.xl*q.d),(r.xh*p.d-p.x,r.xh*q.d-q.x),(p.y-r.yl*p.d,q.y-r.yl*q.d),(r.yh*p.d-p.y,r.yh*q.d-q.y)]
def edgP (r:Rc):List Wl:=[⟨0,r.xl,r.yl,r.xh,r.yl⟩,⟨0,r.xh,r.yl,r.xh,r.yh⟩,⟨0,r.xh,r.yh,r.xl,r.yh⟩,⟨0,r.xl,r.yh,r.xl,r.yl⟩]
def midX (p q:Pt):Int:=Qa Qb (Qa Qb (p.x*q.d)+Qa Qb (q.x*p.d))
def midY (p q:Pt):Int:=Qa Qb (Qa Qb (p.y*q.d)+Qa Qb (q.y*p.d))
def midD (p q:Pt):Int:=Qa Qb (Qa Qb (2*p.d)*q.d)
def Zqu (r:Rc) (p q:Pt):Bool:=r.has (midX p q) (midY p q) (midD p q)||(edgP r).any (touP p q)||(r.holds p.x p.y p.d||r.holds q.x q.y q.d)
theorem Zx5 {p q:Pt} (hp:PtR p) (hq:PtR q):midX p q=p.x*q.d+q.x*p.d/\midY p q=p.y*q.d+q.y*p.d/\midD p q=2*p.d*q.d:=by
 obtain ⟨a1,a2,a3,a4⟩:=hp
 obtain ⟨b1,b2,b3,b4⟩:=hq
 have m1:=Zm (a:=q.x) (b:=p.d) (A:=500000000) (B:=100000) (by omega) (by omega)
 have m2:=Zm (a:=p.x) (b:=q.d) (A:=500000000) (B:=100000) (by omega) (by omega)
 have m3:=Zm (a:=q.y) (b:=p.d) (A:=500000000) (B:=100000) (by omega) (by omega)
 have m4:=Zm (a:=p.y) (b:=q.d) (A:=500000000) (B:=100000) (by omega) (by omega)
 have m5:=Zm (a:=2*p.d) (b:=q.d) (A:=200000) (B:=100000) (by omega) (by omega)
 unfold midX midY midD
 rw [W_eq (n:=q.x*p.d) (by omega) (by omega),W_eq (n:=p.x*q.d) (by omega) (by omega),W_eq (n:=q.y*p.d) (by omega) (by omega),W_eq (n:=p.y*q.d) (by omega) (by omega),W_eq (n:=2*p.d) (by omega) (by omega)]
 exact ⟨W_eq (by omega) (by omega),W_eq (by omega) (by omega),W_eq (by omega) (by omega)⟩
theorem Yay {r:Rc} (hr:RcOk r):Str ⟨0,r.xl,r.yl,r.xh,r.yl⟩ (r.xh-r.xl) 1 0/\Str ⟨0,r.xh,r.yl,r.xh,r.yh⟩ (r.yh-r.yl) 0 1/\Str ⟨0,r.xh,r.yh,r.xl,r.yh⟩ (r.xh-r.xl) (-1) 0/\Str ⟨0,r.xl,r.yh,r.xl,r.yl⟩ (r.yh-r.yl) 0 (-1):=by
 obtain ⟨h1,h2,h3,h4,h5,h6⟩:=hr
 refine ⟨⟨?_,?_,?_,?_,?_,?_,?_,?_,?_,?_⟩,⟨?_,?_,?_,?_,?_,?_,?_,?_,?_,?_⟩,⟨?_,?_,?_,?_,?_,?_,?_,?_,?_,?_⟩,⟨?_,?_,?_,?_,?_,?_,?_,?_,?_,?_⟩⟩<;>(try dsimp only)<;>omega
theorem rcN_mem {r:Rc} {p q:P2d} {l m:Int}:(∀ c∈rcN r p q,0<=atW c l m)↔0<=l*(p.x-r.xl*p.d)+m*(q.x-r.xl*q.d)/\0<=l*(r.xh*p.d-p.x)+m*(r.xh*q.d-q.x)/\0<=l*(p.y-r.yl*p.d)+m*(q.y-r.yl*q.d)/\0<=l*(r.yh*p.d-p.y)+m*(r.yh*q.d-q.y):=by
 simp [rcN,atW]
theorem Zto {r:Rc} (hr:RcOk r) {p q:P2d} (h1:0<p.d) (h2:0<q.d) (l m:Int) (hl:0<l) (hm:0<m) :
  ((∀ c∈rcN r p q,0<=atW c l m)/\∃ c∈rcN r p q,atW c l m=0)->(Vj ⟨0,r.xl,r.yl,r.xh,r.yl⟩ (r.xh-r.xl) 1 0 p q\/Vj ⟨0,r.xh,r.yl,r.xh,r.yh⟩ (r.yh-r.yl) 0 1 p q\/Vj ⟨0,r.xh,r.yh,r.xl,r.yh⟩ (r.xh-r.xl) (-1) 0 p q\/Vj ⟨0,r.xl,r.yh,r.xl,r.yl⟩ (r.yh-r.yl) 0 (-1) p q):=by
 rintro ⟨h,c,hc,h0⟩
 rw [rcN_mem] at h
 obtain ⟨k1,k2,k3,k4⟩:=h
 have e1:l*(r.xh*p.d-p.x)+m*(r.xh*q.d-q.x)=(r.xh-r.xl)*(l*p.d+m*q.d)-(l*(p.x-r.xl*p.d)+m*(q.x-r.xl*q.d)):=by grind
 have e2:l*(r.yh*p.d-p.y)+m*(r.yh*q.d-q.y)=(r.yh-r.yl)*(l*p.d+m*q.d)-(l*(p.y-r.yl*p.d)+m*(q.y-r.yl*q.d)):=by grind
 unfold Vj bsP alP ful bes alo
 dsimp only
 simp only [rcN,Rp,Pz,or_false] at hc
 rcases hc with rfl|rfl|rfl|rfl<;>unfold atW at h0<;>dsimp only at h0
 ·refine .inr (.inr (.inr ⟨l,m,hl,hm,?_,?_,?_⟩))
  ·grind
  ·grind
  ·grind
 ·refine .inr (.inl ⟨l,m,hl,hm,?_,?_,?_⟩)
  ·grind
  ·grind
  ·grind
 ·refine .inl ⟨l,m,hl,hm,?_,?_,?_⟩
  ·grind
  ·grind
  ·grind
 ·refine .inr (.inr (.inl ⟨l,m,hl,hm,?_,?_,?_⟩))
  ·grind
  ·grind
  ·grind
theorem Zsf {r:Rc} (hr:RcOk r) {p q:P2d} (h1:0<p.d) (h2:0<q.d) (h:Vj ⟨0,r.xl,r.yl,r.xh,r.yl⟩ (r.xh-r.xl) 1 0 p q\/Vj ⟨0,r.xh,r.yl,r.xh,r.yh⟩ (r.yh-r.yl) 0 1 p q\/Vj ⟨0,r.xh,r.yh,r.xl,r.yh⟩ (r.xh-r.xl) (-1) 0 p q\/Vj ⟨0,r.xl,r.yh,r.xl,r.yl⟩ (r.yh-r.yl) 0 (-1) p q):Zlc (rcN r p q):=by
 have key:∀ l m:Int,0<l->0<m->0<=(r.xh-r.xl)*(l*p.d+m*q.d)/\0<=(r.yh-r.yl)*(l*p.d+m*q.d):=by
  intro l m hl hm
  have k1:=Ra hl h1
  have k2:=Ra hm h2
  have:=hr.x
  have:=hr.y
  exact ⟨Qu (by omega) (by omega),Qu (by omega) (by omega)⟩
 unfold Vj bsP alP ful bes alo at h
 dsimp only at h
 unfold Zlc
 rcases h with ⟨l,m,hl,hm,k1,k2,k3⟩|⟨l,m,hl,hm,k1,k2,k3⟩|⟨l,m,hl,hm,k1,k2,k3⟩|⟨l,m,hl,hm,k1,k2,k3⟩<;>refine ⟨l,m,hl,hm,rcN_mem.2 ?_⟩<;>obtain ⟨g1,g2⟩:=key l m hl hm<;>refine ⟨?_,?_,?_,?_⟩<;>grind
theorem Ztv {r:Rc} (hr:RcOk r) {p q:Pt} (hp:PtR p) (hq:PtR q):Zqu r p q=true↔Zlc (rcN r p.pl q.pl):=by
 obtain ⟨e1,e2,e3⟩:=Zx5 hp hq
 obtain ⟨s1,s2,s3,s4⟩:=Yay hr
 have dp:=hp.d0
 have dq:=hq.d0
 have dp1:=hp.d1
 have dq1:=hq.d1
 have hD:=Ra (show 0<2*p.d by omega) dq
 have hD2:=(Zm (a:=2*p.d) (b:=q.d) (A:=200000) (B:=100000) (by omega) (by omega)).2
 unfold Zqu
 rw [e1,e2,e3,Qy,Qy,Qy,Zoe hr ⟨hD,by omega⟩,Zcs hr ⟨dp,by omega⟩,Zcs hr ⟨dq,by omega⟩]
 have ea:(edgP r).any (touP p q)=true↔(Vj ⟨0,r.xl,r.yl,r.xh,r.yl⟩ (r.xh-r.xl) 1 0 p.pl q.pl\/Vj ⟨0,r.xh,r.yl,r.xh,r.yh⟩ (r.yh-r.yl) 0 1 p.pl q.pl\/Vj ⟨0,r.xh,r.yh,r.xl,r.yh⟩ (r.xh-r.xl) (-1) 0 p.pl q.pl\/Vj ⟨0,r.xl,r.yh,r.xl,r.yl⟩ (r.yh-r.yl) 0 (-1) p.pl q.pl):=by
  simp only [edgP,Dc,List.any_nil,Bool.or_false,Qy]
  rw [Zcq s1 hp hq,Zcq s2 hp hq,Zcq s3 hp hq,Zcq s4 hp hq]
 rw [ea]
 have mm:(0<=p.x*q.d+q.x*p.d-r.xl*(2*p.d*q.d)/\0<=r.xh*(2*p.d*q.d)-(p.x*q.d+q.x*p.d)/\0<=p.y*q.d+q.y*p.d-r.yl*(2*p.d*q.d)/\0<=r.yh*(2*p.d*q.d)-(p.y*q.d+q.y*p.d))↔∀ c∈rcN r p.pl q.pl,0<=atW c q.d p.d:=by
  rw [rcN_mem]
  unfold Pt.pl
  dsimp only
  have k1:q.d*(p.x-r.xl*p.d)+p.d*(q.x-r.xl*q.d)=p.x*q.d+q.x*p.d-r.xl*(2*p.d*q.d):=by grind
  have k2:q.d*(r.xh*p.d-p.x)+p.d*(r.xh*q.d-q.x)=r.xh*(2*p.d*q.d)-(p.x*q.d+q.x*p.d):=by grind
  have k3:q.d*(p.y-r.yl*p.d)+p.d*(q.y-r.yl*q.d)=p.y*q.d+q.y*p.d-r.yl*(2*p.d*q.d):=by grind
  have k4:q.d*(r.yh*p.d-p.y)+p.d*(r.yh*q.d-q.y)=r.yh*(2*p.d*q.d)-(p.y*q.d+q.y*p.d):=by grind
  rw [k1,k2,k3,k4]
 rw [mm]
 have big:∀ a b:Int,0<a->0<=(b.natAbs+1:Int)*a+b:=fun a b ha=>by
  have:=Rd (show 1<=a by omega) (show (0:Int)<=(b.natAbs:Int)+1 by omega)
  omega
 have holdsIn:∀ p q:P2d,(0<p.x-r.xl*p.d/\0<r.xh*p.d-p.x/\0<p.y-r.yl*p.d/\0<r.yh*p.d-p.y)->∃ N:Int,0<N/\0<=N*(p.x-r.xl*p.d)+1*(q.x-r.xl*q.d)/\0<=N*(r.xh*p.d-p.x)+1*(r.xh*q.d-q.x)/\0<=N*(p.y-r.yl*p.d)+1*(q.y-r.yl*q.d)/\0<=N*(r.yh*p.d-p.y)+1*(r.yh*q.d-q.y):=by
  rintro p q ⟨h1,h2,h3,h4⟩
  have mono:∀ a b N:Int,0<a->(b.natAbs:Int)<=N->0<=N*a+1*b:=fun a b N ha hN=>by
   have:=Rd (show 1<=a by omega) (show 0<=N by omega)
   omega
  refine ⟨((q.x-r.xl*q.d).natAbs:Int)+(r.xh*q.d-q.x).natAbs+(q.y-r.yl*q.d).natAbs+(r.yh*q.d-q.y).natAbs+1,by omega,mono _ _ _ h1 (by omega),mono _ _ _ h2 (by omega),mono _ _ _ h3 (by omega),mono _ _ _ h4 (by omega)⟩
 constructor
 ·rintro ((h|h)|h|h)
  ·exact ⟨q.d,p.d,dq,dp,h⟩
  ·exact Zsf hr dp dq h
  ·obtain ⟨N,h0,h1,h2,h3,h4⟩:=holdsIn p.pl q.pl h
   exact ⟨N,1,h0,by omega,rcN_mem.2 ⟨h1,h2,h3,h4⟩⟩
  ·obtain ⟨N,h0,h1,h2,h3,h4⟩:=holdsIn q.pl p.pl h
   exact ⟨1,N,by omega,h0,rcN_mem.2 ⟨by omega,by omega,by omega,by omega⟩⟩
 ·rintro ⟨l,m,hl,hm,h⟩
  obtain ⟨a,b,ha,hb,k1,k2⟩:=Ydf (l0:=q.d) (m0:=p.d) dq dp hl hm _ h
  rcases k2 with ⟨rfl,rfl⟩|k2
  ·exact .inl (.inl k1)
  ·exact .inl (.inr (Zto hr dp dq a b ha hb ⟨k1,k2⟩))
structure PtH (p:Pt):Prop where
 r:PtR p
 z : -(5000*p.d)<=p.z/\p.z<=5000*p.d
theorem Zif {p:Pt} (h:Zy p=0):PtH p:=by
 obtain ⟨h1,h2,_,h4⟩:=Xv h
 unfold ptIn at h4
 simp only [Qf,within_iff] at h4
 exact ⟨⟨h1,h2,h4.1.1,h4.1.2⟩,h4.2⟩
def zOff (ht:Int) (p:Pt):Int:=Qa Qb (p.z-Qa Qb (ht*p.d))
theorem Zi4 {ht:Int} (hh:0<=ht/\ht<=5000) {p:Pt} (hp:PtH p):zOff ht p=p.z-ht*p.d/\Qa Qb (ht*p.d)=ht*p.d/\(-1000000000<=p.z-ht*p.d/\p.z-ht*p.d<=1000000000):=by
 obtain ⟨⟨a1,a2,_,_⟩,a5⟩:=hp
 have c1:=Ze (f:=ht) (d:=p.d) (by omega) a1
 unfold zOff
 rw [W_eq (n:=ht*p.d) (by omega) (by omega)]
 exact ⟨W_eq (by omega) (by omega),rfl,by omega⟩
def blkS (r:Rc) (ht:Int) (p q:Pt):Prop:=∃ l m:Int,0<l/\0<m/\l*(p.z-ht*p.d)+m*(q.z-ht*q.d)=0/\∀ c∈rcN r p.pl q.pl,0<=atW c l m
theorem Zuq {r:Rc} {ht:Int} {p q:Pt} (h1:p.z-ht*p.d=0) (h2:q.z-ht*q.d=0):blkS r ht p q↔Zlc (rcN r p.pl q.pl):=by
 unfold blkS Zlc
 rw [h1,h2]
 exact ⟨fun ⟨l,m,a,b,_,c⟩=>⟨l,m,a,b,c⟩,fun ⟨l,m,a,b,c⟩=>⟨l,m,a,b,by omega,c⟩⟩
theorem Zup {r:Rc} {ht:Int} {p q:Pt} (h0:¬(p.z-ht*p.d=0/\q.z-ht*q.d=0)) (h1:0<=sgn (p.z-ht*p.d)*sgn (q.z-ht*q.d)):¬ blkS r ht p q:=by
 rintro ⟨l,m,hl,hm,e,_⟩
 have hs:¬ (sgn (p.z-ht*p.d)*sgn (q.z-ht*q.d)<0):=by omega
 rw [sgn_mul_neg] at hs
 generalize p.z-ht*p.d=a at *
 generalize q.z-ht*q.d=b at *
 by_cases ha:0<a
 ·have:=(Zb9 hl).2 ha
  have:=(nn_l hm).2 (show 0<=b by omega)
  omega
 by_cases hb:a<0
 ·have:=(Zd9 hl).2 hb
  have:=(np_l hm).2 (show b<=0 by omega)
  omega
 have:a=0:=by omega
 subst this
 have:m*b≠0:=Int.mul_ne_zero (by omega) (by omega)
 omega
theorem Zuo {r:Rc} {ht:Int} {p q:Pt}:blkS r ht p q↔blkS r ht q p:=by
 have key:∀ p q,blkS r ht p q->blkS r ht q p:=by
  rintro p q ⟨l,m,h1,h2,h3,h4⟩
  refine ⟨m,l,h2,h1,by omega,?_⟩
  rw [rcN_mem] at h4 ⊢
  omega
 exact ⟨key _ _,key _ _⟩
theorem Zi1 {r:Rc} {ht:Int} {p q:Pt} {f g:Int} (hf:p.z-ht*p.d=f) (hg:q.z-ht*q.d=g) (h1:f<0/\0<g):blkS r ht p q↔∀ c∈rcN r p.pl q.pl,0<=atW c g (-f):=by
 unfold blkS
 rw [hf,hg]
 constructor
 ·rintro ⟨l,m,hl,hm,e,h⟩ c hc
  have k1:g*atW c l m=l*atW c g (-f):=by unfold atW; grind
  have q1:=(nn_l h1.2).2 (h c hc)
  rw [k1,nn_l hl] at q1
  exact q1
 ·intro h
  exact ⟨g,-f,h1.2,by omega,by grind,h⟩
theorem Zl8 {r:Rc} (hr:RcOk r) {p q:Pt} (hp:PtR p) (hq:PtR q) {f g:Int} (h1:f<0/\0<g) (h2 : -1000000000<=f/\g<=1000000000):r.has (p.x*g-q.x*f) (p.y*g-q.y*f) (p.d*g-q.d*f)=true↔∀ c∈rcN r p.pl q.pl,0<=atW c g (-f):=by
 obtain ⟨a1,a2,a3,a4⟩:=hp
 obtain ⟨b1,b2,b3,b4⟩:=hq
 have k1:=Ra a1 h1.2
 have k2:=Ra b1 (show 0 < -f by omega)
 rw [Sj] at k2
 have m1:=Zm (a:=p.d) (b:=g) (A:=100000) (B:=1000000000) (by omega) (by omega)
 have m2:=Zm (a:=q.d) (b:=f) (A:=100000) (B:=1000000000) (by omega) (by omega)
 rw [Zoe hr ⟨by omega,by omega⟩,rcN_mem]
 unfold Pt.pl
 dsimp only
 have e1:g*(p.x-r.xl*p.d) + -f*(q.x-r.xl*q.d)=p.x*g-q.x*f-r.xl*(p.d*g-q.d*f):=by grind
 have e2:g*(r.xh*p.d-p.x) + -f*(r.xh*q.d-q.x)=r.xh*(p.d*g-q.d*f)-(p.x*g-q.x*f):=by grind
 have e3:g*(p.y-r.yl*p.d) + -f*(q.y-r.yl*q.d)=p.y*g-q.y*f-r.yl*(p.d*g-q.d*f):=by grind
 have e4:g*(r.yh*p.d-p.y) + -f*(r.yh*q.d-q.y)=r.yh*(p.d*g-q.d*f)-(p.y*g-q.y*f):=by grind
 rw [e1,e2,e3,e4]
def atX (a b:Int) (u v:Int):Int:=Qa Qb (Qa Qb (a*u)+Qa Qb (b*v))
def blkP (r:Rc) (ht:Int) (p q:Pt):Bool :=
 if p.z=Qa Qb (ht*p.d)/\q.z=Qa Qb (ht*q.d) then Zqu r p q
 else if 0<=Qa Qb (sgn (zOff ht p)*sgn (zOff ht q)) then false
 else r.has (atX p.x q.x (size (zOff ht q)) (size (zOff ht p))) (atX p.y q.y (size (zOff ht q)) (size (zOff ht p))) (atX p.d q.d (size (zOff ht q)) (size (zOff ht p)))
theorem x_bd {a d f:Int} (hd:0<d/\d<=100000) (ha : -(5000*d)<=a/\a<=5000*d) (hf : -1000000000<=f/\f<=1000000000) : -500000000000000000<=a*f/\a*f<=500000000000000000:=by
 have:=Zm (a:=a) (b:=f) (A:=500000000) (B:=1000000000) (by omega) (by omega)
 omega
theorem d_bd {d f:Int} (hd:0<d/\d<=100000) (hf : -1000000000<=f/\f<=1000000000) : -100000000000000<=d*f/\d*f<=100000000000000:=by
 have:=Zm (a:=d) (b:=f) (A:=100000) (B:=1000000000) (by omega) (by omega)
 omega
theorem Ya5 {ht:Int} (hh:0<=ht/\ht<=5000) {p q:Pt} (hp:PtH p) (hq:PtH q):(p.z=Qa Qb (ht*p.d)/\q.z=Qa Qb (ht*q.d))↔(p.z-ht*p.d=0/\q.z-ht*q.d=0):=by
 rw [(Zi4 hh hp).2.1,(Zi4 hh hq).2.1]; omega
theorem Zw8 {r:Rc} (hr:RcOk r) {ht:Int} (hh:0<=ht/\ht<=5000) {p q:Pt} (hp:PtH p) (hq:PtH q):blkP r ht p q=true↔blkS r ht p q:=by
 obtain ⟨e1,_,b1⟩:=Zi4 hh hp
 obtain ⟨e2,_,b2⟩:=Zi4 hh hq
 unfold blkP
 simp only [Ya5 hh hp hq]
 rw [e1,e2]
 by_cases h0:p.z-ht*p.d=0/\q.z-ht*q.d=0
 ·rw [if_pos h0,Zuq h0.1 h0.2,Ztv hr hp.r hq.r]
 rw [if_neg h0,Zfi]
 by_cases h1:0<=sgn (p.z-ht*p.d)*sgn (q.z-ht*q.d)
 ·rw [if_pos h1]
  exact ⟨fun h=>by simp at h,fun h=>absurd h (Zup h0 h1)⟩
 rw [if_neg h1]
 have h2:=sgn_mul_neg.1 (show sgn (p.z-ht*p.d)*sgn (q.z-ht*q.d)<0 by omega)
 generalize hf:p.z-ht*p.d=f at *
 generalize hg:q.z-ht*q.d=g at *
 have hp1:=hp.r
 have hq1:=hq.r
 have x1:=x_bd (f:=g) ⟨hp1.d0,hp1.d1⟩ hp1.x (by omega)
 have x2:=x_bd (f:=f) ⟨hq1.d0,hq1.d1⟩ hq1.x (by omega)
 have y1:=x_bd (f:=g) ⟨hp1.d0,hp1.d1⟩ hp1.y (by omega)
 have y2:=x_bd (f:=f) ⟨hq1.d0,hq1.d1⟩ hq1.y (by omega)
 have d1:=d_bd (f:=g) ⟨hp1.d0,hp1.d1⟩ (by omega)
 have d2:=d_bd (f:=f) ⟨hq1.d0,hq1.d1⟩ (by omega)
 rcases h2 with h2|h2
 ·have s1:size g=g:=by rw [Vo (by omega),if_neg (by omega)]
  have s2:size f = -f:=by rw [Vo (by omega),if_pos (by omega)]
  have ax:∀ a b:Int,(-500000000000000000<=a*g/\a*g<=500000000000000000)->(-500000000000000000<=b*f/\b*f<=500000000000000000)->atX a b (size g) (size f)=a*g-b*f:=by
   intro a b k1 k2
   unfold atX
   rw [s1,s2,Sj,W_eq (n:=a*g) (by omega) (by omega),W_eq (n:=-(b*f)) (by omega) (by omega),W_eq (by omega) (by omega)]
   omega
  rw [ax _ _ x1 x2,ax _ _ y1 y2,ax _ _ (by omega) (by omega),Zl8 hr hp1 hq1 h2 (by omega),Zi1 hf hg h2]
 ·have s1:size g = -g:=by rw [Vo (by omega),if_pos (by omega)]
  have s2:size f=f:=by rw [Vo (by omega),if_neg (by omega)]
  have ax:∀ a b:Int,(-500000000000000000<=a*g/\a*g<=500000000000000000)->(-500000000000000000<=b*f/\b*f<=500000000000000000)->atX a b (size g) (size f)=b*f-a*g:=by
   intro a b k1 k2
   unfold atX
   rw [s1,s2,Sj,W_eq (n:=b*f) (by omega) (by omega),W_eq (n:=-(a*g)) (by omega) (by omega),W_eq (by omega) (by omega)]
   omega
  rw [ax _ _ x1 x2,ax _ _ y1 y2,ax _ _ (by omega) (by omega),Zl8 hr hq1 hp1 (by omega) (by omega),Zuo,Zi1 hg hf (by omega)]
abbrev U (n:Int):AV:=.int .u64 n
abbrev wayA (p q:Pt):AV:=.agg [I p.x,I p.y,I p.z,I p.d,I q.x,I q.y,I q.z,I q.d]
theorem c204 (p q:Pt):PCall Tryz.prog 131 [wayA p q] ⟨.tup [I (Zmo p q),I (Zmn p q)],[]⟩:=by
 refine pn Zh Tryz.func131 ?_
 repeat'(first|refine wk0 ?_|(refine wk2 ?_ ?_<;>intro _)|fail)
 exact Zg rfl rfl
theorem c207 (fr den to oth a b:Int):PCall Tryz.prog 132 [I fr,I den,I to,I oth,I a,I b] ⟨Bo (ovl fr den to oth a b),[]⟩:=by
 refine pn Zh Tryz.func132 ?_
 repeat'(first|refine wk0 ?_|(refine wk2 ?_ ?_<;>intro _)|fail)
 all_goals (refine Zb ?_; simp_all [ovl]<;>(intro _; omega))
theorem c182 (p q:Pt):PCall Tryz.prog 124 [wayA p q] ⟨.tup [I (midX p q),I (midY p q),I (midD p q)],[]⟩:=by
 refine pn Zh Tryz.func124 ?_
 repeat'(first|refine wk0 ?_|(refine wk2 ?_ ?_<;>intro _)|fail)
 exact Zg rfl rfl
def u64 (n:Int):Prop:=0<=n/\n<18446744073709551616
theorem mkN (a:Nat) (ha:a<18446744073709551616):Qa Rj (((Sb IntKind.u64.bits (a:Int) &&& Sb IntKind.u64.bits 4294967295).toNat:Nat):Int)=((a%4294967296:Nat):Int):=by
 have h:=bits_and_u64_nat a 4294967295 ha (by omega)
 have e:a &&& 4294967295=a%4294967296:=Nat.and_two_pow_sub_one_eq_mod a 32
 rw [e] at h
 exact h
theorem fdN (a:Nat):(a:Int).fdiv (2 ^ min (Tu 32) IntKind.u64.bits)=((a / 4294967296:Nat):Int):=by
 rw [show (2 ^ min (Tu 32) IntKind.u64.bits:Int)=4294967296 from rfl,Int.fdiv_eq_ediv_of_nonneg _ (by omega)]; omega
theorem mulN (a b:Nat):(a:Int)*(b:Int)=((a*b:Nat):Int):=(Int.natCast_mul a b).symm
theorem addN (a b:Nat):(a:Int)+(b:Int)=((a+b:Nat):Int):=(Int.natCast_add a b).symm
theorem Zj8 (a:Nat) (ha:a<18446744073709551616):Qa Rj (a:Int)=(a:Int):=by rw [Kk]; omega
theorem Yds (a:Nat):Qa Rj (a:Int)=((a%18446744073709551616:Nat):Int):=by rw [Kk]; omega
theorem Zvy (x y:Nat) (hx:x<18446744073709551616) (hy:y<18446744073709551616):AV.tup [AV.int Rj (Qa Rj (Qa Rj (Qa Rj (((x:Int)).fdiv (2 ^ min (Tu 32) IntKind.u64.bits)*((y:Int)).fdiv (2 ^ min (Tu 32) IntKind.u64.bits))+((Qa Rj (Qa Rj (((x:Int)).fdiv (2 ^ min (Tu 32) IntKind.u64.bits)*Qa Rj ((Sb IntKind.u64.bits ((y:Int)) &&& Sb IntKind.u64.bits 4294967295).toNat:Int))+((Qa Rj ((Qa Rj ((Sb IntKind.u64.bits ((x:Int)) &&& Sb IntKind.u64.bits 4294967295).toNat:Int))*(Qa Rj ((Sb IntKind.u64.bits ((y:Int)) &&& Sb IntKind.u64.bits 4294967295).toNat:Int)))).fdiv (2 ^ min (Tu 32) IntKind.u64.bits)))).fdiv (2 ^ min (Tu 32) IntKind.u64.bits)))+((Qa Rj (Qa Rj ((Sb IntKind.u64.bits (Qa Rj (Qa Rj (((x:Int)).fdiv (2 ^ min (Tu 32) IntKind.u64.bits)*Qa Rj ((Sb IntKind.u64.bits ((y:Int)) &&& Sb IntKind.u64.bits 4294967295).toNat:Int))+((Qa Rj ((Qa Rj ((Sb IntKind.u64.bits ((x:Int)) &&& Sb IntKind.u64.bits 4294967295).toNat:Int))*(Qa Rj ((Sb IntKind.u64.bits ((y:Int)) &&& Sb IntKind.u64.bits 4294967295).toNat:Int)))).fdiv (2 ^ min (Tu 32) IntKind.u64.bits)))) &&& Sb IntKind.u64.bits 4294967295).toNat:Int)+Qa Rj (Qa Rj ((Sb IntKind.u64.bits ((x:Int)) &&& Sb IntKind.u64.bits 4294967295).toNat:Int)*((y:Int)).fdiv (2 ^ min (Tu 32) IntKind.u64.bits)))).fdiv (2 ^ min (Tu 32) IntKind.u64.bits)))),AV.int Rj (Qa Rj ((x:Int)*(y:Int)))]=AV.tup [U ((x:Int)*(y:Int) / 18446744073709551616),U ((x:Int)*(y:Int)%18446744073709551616)]:=by
 obtain ⟨bd,bt,bw,hhi⟩:=Go.Lib.mul64_hi x y hx hy
 have ba:=Lh (a:=x / 4294967296) (b:=y / 4294967296) (by omega) (by omega)
 have bb:=Lh (a:=x / 4294967296) (b:=y%4294967296) (by omega) (by omega)
 have bc:=Lh (a:=x%4294967296) (b:=y / 4294967296) (by omega) (by omega)
 have ba' : x / 4294967296*(y / 4294967296)<18446744073709551616:=by omega
 have bb' : x / 4294967296*(y%4294967296)<18446744073709551616:=by omega
 have bc' : x%4294967296*(y / 4294967296)<18446744073709551616:=by omega
 have bh1:x / 4294967296*(y / 4294967296)+(x / 4294967296*(y%4294967296)+x%4294967296*(y%4294967296) / 4294967296) / 4294967296<18446744073709551616:=by omega
 have bh:x / 4294967296*(y / 4294967296)+(x / 4294967296*(y%4294967296)+x%4294967296*(y%4294967296) / 4294967296) / 4294967296+((x / 4294967296*(y%4294967296)+x%4294967296*(y%4294967296) / 4294967296)%4294967296+x%4294967296*(y / 4294967296)) / 4294967296<18446744073709551616:=by omega
 simp only [mkN x hx,mkN y hy,fdN,mulN,addN,Zj8 _ bd,Zj8 _ bb',Zj8 _ bt,mkN _ bt,Zj8 _ bc',Zj8 _ bw,Zj8 _ ba',Zj8 _ bh1,Zj8 _ bh,Yds (x*y)]
 rw [hhi]
 rfl
theorem c216 {x y:Int} (hx:u64 x) (hy:u64 y):PCall Tryz.prog 139 [U x,U y] ⟨.tup [U (x*y / 18446744073709551616),U (x*y%18446744073709551616)],[]⟩:=by
 refine pn Zh Tryz.func139 ?_
 repeat'(first|refine wk1 ?_|(refine wk2 ?_ ?_<;>intro _)|fail)
 refine Zg ?_ rfl
 obtain ⟨h0,hx⟩:=hx
 obtain ⟨h1,hy⟩:=hy
 obtain ⟨a,rfl⟩:=Kl h0
 obtain ⟨b,rfl⟩:=Kl h1
 exact Zvy a b (by omega) (by omega)
theorem Zjp {a b:Int}:sgn (a*b)=sgn a*sgn b:=by
 unfold sgn
 rcases Wj a 0 with ha|ha|ha<;>rcases Wj b 0 with hb|hb|hb
 ·have:=Int.mul_pos_of_neg_of_neg ha hb
  rw [if_pos this,if_neg (by omega),if_pos ha,if_neg (by omega),if_pos hb]; rfl
 ·subst hb; simp
 ·have:=Int.mul_neg_of_neg_of_pos ha hb
  rw [if_neg (by omega),if_pos this,if_neg (by omega),if_pos ha,if_pos hb]; rfl
 ·subst ha; simp
 ·subst ha; simp
 ·subst ha; simp
 ·have:=Int.mul_neg_of_pos_of_neg ha hb
  rw [if_neg (by omega),if_pos this,if_pos ha,if_neg (by omega),if_pos hb]; rfl
 ·subst hb; simp
 ·have:=Ra ha hb
  rw [if_pos this,if_pos ha,if_pos hb]; rfl
theorem Zf6 {a:Int} (h:i64 a):Qa Rj (size a)=(a.natAbs:Int)/\u64 (a.natAbs:Int):=by
 have hs:=Zxy h
 obtain ⟨h1,h2⟩:=h
 rw [hs]
 refine ⟨?_,?_⟩
 ·simp only [Sr,Kk]; omega
 ·unfold u64; omega
theorem Zu0 (a b:Int):((a.natAbs:Int)*(b.natAbs:Int))=(a*b)\/((a.natAbs:Int)*(b.natAbs:Int)) = -(a*b):=by
 have:=Int.natAbs_mul a b
 omega
theorem Zt2 {a b c d X Y:Int} (hX:(a.natAbs:Int)*(b.natAbs:Int)=X) (hY:(c.natAbs:Int)*(d.natAbs:Int)=Y) (h:sgn a*sgn b=sgn c*sgn d) :
  (X=Y->cmpP a b c d=0)/\(Y<X->cmpP a b c d=sgn a*sgn b)/\(X<Y->cmpP a b c d = -(sgn a*sgn b)):=by
 have h1:=Zu0 a b
 have h2:=Zu0 c d
 have p1:0<=X:=by rw [<-hX]; exact Qu (by omega) (by omega)
 have p2:0<=Y:=by rw [<-hY]; exact Qu (by omega) (by omega)
 have s1:=Zjp (a:=a) (b:=b)
 have s2:=Zjp (a:=c) (b:=d)
 unfold cmpP
 rw [hX] at h1
 rw [hY] at h2
 rw [<-s1]
 rw [<-s1,<-s2] at h
 clear s1 s2 hX hY
 generalize a*b=u at *
 generalize c*d=v at *
 unfold sgn at *
 refine ⟨fun e=>?_,fun e=>?_,fun e=>?_⟩
 ·repeat' split at h
  all_goals repeat' split
  all_goals omega
 ·repeat' split at h
  all_goals repeat' split
  all_goals omega
 ·repeat' split at h
  all_goals repeat' split
  all_goals omega
theorem Zwy {a b c d:Int} (h:sgn a*sgn b≠sgn c*sgn d):cmpP a b c d=sgn (sgn a*sgn b-sgn c*sgn d):=by
 rw [<-Zjp,<-Zjp] at h ⊢
 unfold cmpP
 generalize a*b=u at *
 generalize c*d=v at *
 unfold sgn at *
 repeat' split at h
 all_goals repeat' split
 all_goals omega
instance (n:Int):Decidable (u64 n):=by unfold u64; exact inferInstance
def r216:List AV->Option PRes
 | [.int .u64 x,.int .u64 y]=>asr (decide (u64 x/\u64 y)) ⟨.tup [U (x*y / 18446744073709551616),U (x*y%18446744073709551616)],[]⟩
 | _=>none
def kF1:PC:=ins 139 r216 (ins 63 r115 (ins 64 r116 pt0))
theorem Zyc:PCOK Tryz.prog kF1:=by
 refine Zj (fun a res h=>?_) (Zj (fun a res h=>?_) (Zj (fun a res h=>?_) Zh))
 ·unfold r216 at h; split at h
  ·obtain ⟨h1,rfl⟩:=Zpk h
   have:=of_decide_eq_true h1
   exact c216 this.1 this.2
  ·cases h
 ·unfold r115 at h; split at h<;>cases h; exact c115 _
 ·unfold r116 at h; split at h<;>cases h; exact c116 _
theorem c215 {a b c d:Int} (ha:i64 a) (hb:i64 b) (hc:i64 c) (hd:i64 d):PCall Tryz.prog 138 [I a,I b,I c,I d] ⟨I (cmpP a b c d),[]⟩:=by
 obtain ⟨a1,a2⟩:=Zf6 ha
 obtain ⟨b1,b2⟩:=Zf6 hb
 obtain ⟨c1,c2⟩:=Zf6 hc
 obtain ⟨d1,d2⟩:=Zf6 hd
 by_cases h:sgn a*sgn b=sgn c*sgn d
 ·have hX:(a.natAbs:Int)*(b.natAbs:Int)=(a.natAbs:Int)*(b.natAbs:Int):=rfl
  have hY:(c.natAbs:Int)*(d.natAbs:Int)=(c.natAbs:Int)*(d.natAbs:Int):=rfl
  obtain ⟨k1,k2,k3⟩:=Zt2 hX hY h
  have t1:asr (decide (u64 (Qa Rj (size a))/\u64 (Qa Rj (size b)))) ⟨.tup [U (Qa Rj (size a)*Qa Rj (size b) / 18446744073709551616),U (Qa Rj (size a)*Qa Rj (size b)%18446744073709551616)],[]⟩=some ⟨.tup [U ((a.natAbs:Int)*(b.natAbs:Int) / 18446744073709551616),U ((a.natAbs:Int)*(b.natAbs:Int)%18446744073709551616)],[]⟩:=by
   rw [a1,b1,Zdg ⟨a2,b2⟩]
  have t2:asr (decide (u64 (Qa Rj (size c))/\u64 (Qa Rj (size d)))) ⟨.tup [U (Qa Rj (size c)*Qa Rj (size d) / 18446744073709551616),U (Qa Rj (size c)*Qa Rj (size d)%18446744073709551616)],[]⟩=some ⟨.tup [U ((c.natAbs:Int)*(d.natAbs:Int) / 18446744073709551616),U ((c.natAbs:Int)*(d.natAbs:Int)%18446744073709551616)],[]⟩:=by
   rw [c1,d1,Zdg ⟨c2,d2⟩]
  have w1:Qa Qb (sgn a*sgn b)=Qa Qb (sgn c*sgn d):=by rw [h]
  have w2:=Zfi a b
  have hr : -1<=sgn a*sgn b/\sgn a*sgn b<=1:=by
   have:=Zm (A:=1) (B:=1) (Zfm a) (Zfm b); omega
  have w3:Qa Qb (0-Qa Qb (sgn a*sgn b)) = -(sgn a*sgn b):=by rw [w2,W_eq (by omega) (by omega)]; omega
  generalize (a.natAbs:Int)*(b.natAbs:Int)=X at *
  generalize (c.natAbs:Int)*(d.natAbs:Int)=Y at *
  generalize cmpP a b c d=r at *
  refine pn Zyc Tryz.func138 ?_
  rcases Wj X Y with hxy|hxy|hxy
  ·rw [k3 hxy,<-w3]
   repeat'(first|refine wk1 ?_|(refine wk2 ?_ ?_<;>intro _)|fail)
   all_goals first
    | exact Zd rfl
    | (exfalso; simp_all; done)
    | (exfalso; simp_all; omega)
  ·rw [k1 hxy]
   subst hxy
   repeat'(first|refine wk1 ?_|(refine wk2 ?_ ?_<;>intro _)|fail)
   all_goals first
    | exact Zd rfl
    | (exfalso; simp_all; done)
    | (exfalso; simp_all; omega)
  ·rw [k2 hxy,<-w2]
   repeat'(first|refine wk1 ?_|(refine wk2 ?_ ?_<;>intro _)|fail)
   all_goals first
    | exact Zd rfl
    | (exfalso; simp_all; done)
    | (exfalso; simp_all; omega)
 ·have hr1:=Zm (A:=1) (B:=1) (Zfm a) (Zfm b)
  have hr2:=Zm (A:=1) (B:=1) (Zfm c) (Zfm d)
  have w:sgn (Qa Qb (Qa Qb (sgn a*sgn b)-Qa Qb (sgn c*sgn d)))=cmpP a b c d:=by
   rw [Zwy h,Zfi,Zfi,W_eq (by omega) (by omega)]
  have w2:¬ Qa Qb (sgn a*sgn b)=Qa Qb (sgn c*sgn d):=by rw [Zfi,Zfi]; exact h
  refine pn Zyc Tryz.func138 ?_
  rw [<-w]
  repeat'(first|refine wk1 ?_|(refine wk2 ?_ ?_<;>intro _)|fail)
  exact Zd rfl
def r204:List AV->Option PRes
 | [.agg [.int .i64 a,.int .i64 b,.int .i64 c,.int .i64 d,.int .i64 x,.int .i64 y,.int .i64 z,.int .i64 w]]=>some ⟨.tup [I (Zmo ⟨a,b,c,d⟩ ⟨x,y,z,w⟩),I (Zmn ⟨a,b,c,d⟩ ⟨x,y,z,w⟩)],[]⟩
 | _=>none
def r207:List AV->Option PRes
 | [.int .i64 fr,.int .i64 den,.int .i64 to,.int .i64 oth,.int .i64 a,.int .i64 b]=>some ⟨Bo (ovl fr den to oth a b),[]⟩
 | _=>none
def r182:List AV->Option PRes
 | [.agg [.int .i64 a,.int .i64 b,.int .i64 c,.int .i64 d,.int .i64 x,.int .i64 y,.int .i64 z,.int .i64 w]]=>some ⟨.tup [I (midX ⟨a,b,c,d⟩ ⟨x,y,z,w⟩),I (midY ⟨a,b,c,d⟩ ⟨x,y,z,w⟩),I (midD ⟨a,b,c,d⟩ ⟨x,y,z,w⟩)],[]⟩
 | _=>none
def kF2:PC:=ins 131 r204 (ins 132 r207 (ins 124 r182 kG3))
theorem Zyb:PCOK Tryz.prog kF2:=by
 refine Zj (fun a res h=>?_) (Zj (fun a res h=>?_) (Zj (fun a res h=>?_) Xm))
 ·unfold r204 at h; split at h<;>cases h; exact c204 ⟨_,_,_,_⟩ ⟨_,_,_,_⟩
 ·unfold r207 at h; split at h<;>cases h; exact c207 _ _ _ _ _ _
 ·unfold r182 at h; split at h<;>cases h; exact c182 ⟨_,_,_,_⟩ ⟨_,_,_,_⟩
theorem c208 (p q:Pt) (x y:Int):PCall Tryz.prog 133 [wayA p q,P2 x y] ⟨I (Ze0 p q x y),[]⟩:=by
 have hk:=Zi (c215 (a:=Zmo p q) (b:=Qa Qb (Qa Qb (y*p.d)-p.y)) (c:=Zmn p q) (d:=Qa Qb (Qa Qb (x*p.d)-p.x)) (Zqj _) (Zqj _) (Zqj _) (Zqj _)) Zyb
 refine pn hk Tryz.func133 ?_
 repeat'(first|refine wk0 ?_|(refine wk2 ?_ ?_<;>intro _)|fail)
 exact Zd rfl
def r208:List AV->Option PRes
 | [.agg [.int .i64 a,.int .i64 b,.int .i64 c,.int .i64 d,.int .i64 x,.int .i64 y,.int .i64 z,.int .i64 w],.agg [.int .i64 u,.int .i64 v]]=>some ⟨I (Ze0 ⟨a,b,c,d⟩ ⟨x,y,z,w⟩ u v),[]⟩
 | _=>none
def kF3:PC:=ins 133 r208 kF2
theorem Ycs:PCOK Tryz.prog kF3:=by
 refine Zj (fun a res h=>?_) Zyb
 unfold r208 at h; split at h<;>cases h; exact c208 ⟨_,_,_,_⟩ ⟨_,_,_,_⟩ _ _
theorem c181 (p q:Pt) (w:Wl):PCall Tryz.prog 123 [wayA p q,w.av] ⟨Bo (touP p q w),[]⟩:=by
 obtain ⟨pa,pb,pc,pd⟩:=p
 obtain ⟨qa,qb,qc,qd⟩:=q
 obtain ⟨wn,wa,wb,wc,wd⟩:=w
 refine pn Ycs Tryz.func123 ?_
 repeat'(first|refine wk0 ?_|(refine wk2 ?_ ?_<;>intro _)|fail)
 all_goals exact Zb (by simp_all [touP]<;>omega)
def r181:List AV->Option PRes
 | [.agg [.int .i64 a,.int .i64 b,.int .i64 c,.int .i64 d,.int .i64 x,.int .i64 y,.int .i64 z,.int .i64 w],.agg [.int .i64 n,.int .i64 fx,.int .i64 fy,.int .i64 tx,.int .i64 ty]]=>some ⟨Bo (touP ⟨a,b,c,d⟩ ⟨x,y,z,w⟩ ⟨n,fx,fy,tx,ty⟩),[]⟩
 | _=>none
def Yb0:List AV->Option PRes
 | [.agg [.int .i64 a,.int .i64 b,.int .i64 c,.int .i64 d],.int .i64 x,.int .i64 y,.int .i64 z]=>some ⟨Bo (Rc.has ⟨a,b,c,d⟩ x y z),[]⟩
 | _=>none
def Yb1:List AV->Option PRes
 | [.agg [.int .i64 a,.int .i64 b,.int .i64 c,.int .i64 d],.int .i64 x,.int .i64 y,.int .i64 z]=>some ⟨Bo (Rc.holds ⟨a,b,c,d⟩ x y z),[]⟩
 | _=>none
def kF4:PC:=ins 123 r181 (ins 136 Yb0 (ins 120 Yb1 (ins 124 r182 (ins 119 r170 kG3))))
theorem Zos:PCOK Tryz.prog kF4:=by
 refine Zj (fun a res h=>?_) (Zj (fun a res h=>?_) (Zj (fun a res h=>?_) (Zj (fun a res h=>?_) (Zj (fun a res h=>?_) Xm))))
 ·unfold r181 at h; split at h<;>cases h; exact c181 ⟨_,_,_,_⟩ ⟨_,_,_,_⟩ ⟨_,_,_,_,_⟩
 ·unfold Yb0 at h; split at h<;>cases h; exact c211 ⟨_,_,_,_⟩ _ _ _
 ·unfold Yb1 at h; split at h<;>cases h; exact c193 ⟨_,_,_,_⟩ _ _ _
 ·unfold r182 at h; split at h<;>cases h; exact c182 ⟨_,_,_,_⟩ ⟨_,_,_,_⟩
 ·unfold r170 at h; split at h<;>cases h; exact c170 _ _ _ _ _ _ _
theorem c209 (r:Rc) (p q:Pt):PCall Tryz.prog 134 [r.av,wayA p q] ⟨Bo (Zqu r p q),[]⟩:=by
 obtain ⟨ra,rb,rc,rd⟩:=r
 obtain ⟨pa,pb,pc,pd⟩:=p
 obtain ⟨qa,qb,qc,qd⟩:=q
 refine pn Zos Tryz.func134 ?_
 repeat'(first|refine wk0 ?_|(refine wk2 ?_ ?_<;>intro _)|fail)
 all_goals try (refine Tq 5 ?_)
 iterate 5
  all_goals try (refine Ri (bs.av (sx:=nos) Zos ?_))
  repeat'(first|refine wk0 ?_|(refine wk2 ?_ ?_<;>intro _)|fail)
 all_goals exact Zb (by simp_all [Zqu,edgP])
def atP (ht:Int) (p q:Pt):Int × Int × Int × Bool:=if 0<=Qa Qb (sgn (zOff ht p)*sgn (zOff ht q)) then (0,0,0,false) else (atX p.x q.x (size (zOff ht q)) (size (zOff ht p)),atX p.y q.y (size (zOff ht q)) (size (zOff ht p)),atX p.d q.d (size (zOff ht q)) (size (zOff ht p)),true)
theorem c210 (ht:Int) (p q:Pt):PCall Tryz.prog 135 [wayA p q,I ht] ⟨.tup [I (atP ht p q).1,I (atP ht p q).2.1,I (atP ht p q).2.2.1,Bo (atP ht p q).2.2.2],[]⟩:=by
 refine pn Xm Tryz.func135 ?_
 unfold atP
 by_cases hc:0<=Qa Qb (sgn (zOff ht p)*sgn (zOff ht q))
 ·rw [if_pos hc]
  unfold zOff at hc
  repeat'(first|refine wk3 ?_|(refine wk2 ?_ ?_<;>intro _)|fail)
  exact Zg rfl rfl
 ·rw [if_neg hc]
  unfold zOff at hc
  repeat'(first|refine wk3 ?_|(refine wk2 ?_ ?_<;>intro _)|fail)
  exact Zg rfl rfl
def r210:List AV->Option PRes
 | [.agg [.int .i64 a,.int .i64 b,.int .i64 c,.int .i64 d,.int .i64 x,.int .i64 y,.int .i64 z,.int .i64 w],.int .i64 ht]=>some ⟨.tup [I (atP ht ⟨a,b,c,d⟩ ⟨x,y,z,w⟩).1,I (atP ht ⟨a,b,c,d⟩ ⟨x,y,z,w⟩).2.1,I (atP ht ⟨a,b,c,d⟩ ⟨x,y,z,w⟩).2.2.1,Bo (atP ht ⟨a,b,c,d⟩ ⟨x,y,z,w⟩).2.2.2],[]⟩
 | _=>none
def r209:List AV->Option PRes
 | [.agg [.int .i64 e,.int .i64 f,.int .i64 g,.int .i64 h],.agg [.int .i64 a,.int .i64 b,.int .i64 c,.int .i64 d,.int .i64 x,.int .i64 y,.int .i64 z,.int .i64 w]]=>some ⟨Bo (Zqu ⟨e,f,g,h⟩ ⟨a,b,c,d⟩ ⟨x,y,z,w⟩),[]⟩
 | _=>none
def kF5:PC:=ins 134 r209 (ins 135 r210 kF4)
theorem Ycr:PCOK Tryz.prog kF5:=by
 refine Zj (fun a res h=>?_) (Zj (fun a res h=>?_) Zos)
 ·unfold r209 at h; split at h<;>cases h; exact c209 ⟨_,_,_,_⟩ ⟨_,_,_,_⟩ ⟨_,_,_,_⟩
 ·unfold r210 at h; split at h<;>cases h; exact c210 _ ⟨_,_,_,_⟩ ⟨_,_,_,_⟩
theorem c184 {h:Hal} {s:Stg} (g:Sit h s) {j:Nat} (hj:j<h.ks.length) (p q:Pt):PCall Tryz.prog 125 [.agg (stgL h s),I j,wayA p q] ⟨Bo (blkP h.ks[j].rc (Zbo h s j) p q),[]⟩:=by
 have hk:=Zi (c192 g hj) Ycr
 have e5:=Ziz hj
 have l2:=Zac h.ks
 generalize Zbo h s j=ht at *
 generalize h.ks[j]=c at *
 unfold blkP
 by_cases hc:p.z=Qa Qb (ht*p.d)/\q.z=Qa Qb (ht*q.d)
 ·rw [if_pos hc]
  obtain ⟨h1,h2⟩:=hc
  refine pn hk Tryz.func125 ?_
  repeat'(first|refine wk3 ?_|(refine wk2 ?_ ?_<;>intro _)|fail)
  exact Zb rfl
 ·rw [if_neg hc]
  have hat:atP ht p q=if 0<=Qa Qb (sgn (zOff ht p)*sgn (zOff ht q)) then (0,0,0,false) else (atX p.x q.x (size (zOff ht q)) (size (zOff ht p)),atX p.y q.y (size (zOff ht q)) (size (zOff ht p)),atX p.d q.d (size (zOff ht q)) (size (zOff ht p)),true):=rfl
  have hk2:=Zi (c210 ht p q) hk
  rw [hat] at hk2
  clear hk hat
  have hc2:¬ p.z=Qa Qb (ht*p.d)\/(p.z=Qa Qb (ht*p.d) /\ ¬ q.z=Qa Qb (ht*q.d)):=by
   by_cases h1:p.z=Qa Qb (ht*p.d)
   ·exact .inr ⟨h1,fun h2=>hc ⟨h1,h2⟩⟩
   ·exact .inl h1
  clear hc
  by_cases hs:0<=Qa Qb (sgn (zOff ht p)*sgn (zOff ht q))
  ·rw [if_pos hs] at hk2 ⊢
   clear hs
   rcases hc2 with h1|⟨h1,h2⟩
   all_goals
    refine pn hk2 Tryz.func125 ?_
    repeat'(first|refine wk3 ?_|(refine wk2 ?_ ?_<;>intro _)|fail)
    exact Zb rfl
  ·rw [if_neg hs] at hk2 ⊢
   clear hs
   rcases hc2 with h1|⟨h1,h2⟩
   all_goals
    refine pn hk2 Tryz.func125 ?_
    repeat'(first|refine wk3 ?_|(refine wk2 ?_ ?_<;>intro _)|fail)
    exact Zb rfl
def zBad (h:Hal) (p q:Pt):Bool:=(decide (p.z=0)&&decide (q.z=0))||(decide (p.z=Qa Qb (h.ht*p.d))&&decide (q.z=Qa Qb (h.ht*q.d)))||decide (p.z<0)||decide (q.z<0)||decide (Qa Qb (h.ht*p.d)<p.z)||decide (Qa Qb (h.ht*q.d)<q.z)
def blkA (h:Hal) (s:Stg) (p q:Pt):Nat->List Can->Bool
 | _,[]=>false
 | j,c::l=>blkP c.rc (Zbo h s j) p q||blkA h s p q (j+1) l
def Zc5 (h:Hal) (s:Stg) (p q:Pt):Bool:=!zBad h p q&&(!(wls h.cs).any (touP p q)&&(Zu h (midX p q) (midY p q) (midD p q) && !blkA h s p q 0 h.ks))
noncomputable abbrev blks (h:Hal) (s:Stg) (p q:Pt):List AV->Option PRes:=famA (fun j:Nat=>j<h.ks.length) (fun j=>[.agg (stgL h s),I j,wayA p q]) (fun j=>⟨Bo (blkP ((h.ks[j]?).getD ⟨⟨#[]⟩,⟨#[]⟩,0,0,0,0,[]⟩).rc (Zbo h s j) p q),[]⟩)
theorem Zw7 {h:Hal} {s:Stg} {p q:Pt} {j:Nat} (hj:j<h.ks.length):blks h s p q [.agg (stgL h s),I j,wayA p q]=some ⟨Bo (blkP h.ks[j].rc (Zbo h s j) p q),[]⟩:=by
 have:=Yr (p:=fun j:Nat=>j<h.ks.length) (g:=fun j:Nat=>[.agg (stgL h s),I j,wayA p q]) (r:=fun j=>⟨Bo (blkP ((h.ks[j]?).getD ⟨⟨#[]⟩,⟨#[]⟩,0,0,0,0,[]⟩).rc (Zbo h s j) p q),[]⟩) (k:=j) (fun i hi=>by
  simp only [Rw,Wm,true_and,and_true] at hi
  have:i=j:=by omega
  subst this; rfl) hj
 refine this.trans ?_
 rw [Ql hj]; rfl
noncomputable def kF6 (h:Hal) (s:Stg) (p q:Pt):PC:=ins 125 (blks h s p q) (ins 121 (one [h.av,I (midX p q),I (midY p q),I (midD p q)] ⟨Bo (Zu h (midX p q) (midY p q) (midD p q)),[]⟩) kF4)
theorem Ycq {h:Hal} {s:Stg} (g:Sit h s) (p q:Pt):PCOK Tryz.prog (kF6 h s p q):=Xs (fun j hj=>by rw [Ql hj]; exact c184 g hj p q) (Zi (c183 g.ok.f _ _ _) Zos)
theorem c103 {h:Hal} {s:Stg} (g:Sit h s) (p q:Pt):PCall Tryz.prog 71 [.agg (stgL h s),wayA p q] ⟨Bo (Zc5 h s p q),[]⟩:=by
 have hk:=Ycq g p q
 refine pn hk Tryz.func71 ?_
 cases hz:zBad h p q with
 | true =>
  unfold Zc5
  rw [hz]
  repeat'(first|refine wk3 ?_|(refine wk2 ?_ ?_<;>intro _)|fail)
  all_goals first
   | exact Zb rfl
   | (exfalso; clear hk; simp_all [zBad]; done)
   | (exfalso; clear hk; simp_all [zBad]; omega)
 | false =>
  have e:Zc5 h s p q=(!(wls h.cs).any (touP p q)&&(Zu h (midX p q) (midY p q) (midD p q) && !blkA h s p q 0 h.ks)):=by unfold Zc5; rw [hz]; rfl
  rw [e]
  clear e
  unfold zBad at hz
  simp only [Mh,Bool.and_eq_false_iff,decide_eq_false_iff_not] at hz
  obtain ⟨⟨⟨⟨⟨z1,z2⟩,z3⟩,z4⟩,z5⟩,z6⟩:=hz
  repeat'(first|refine wk3 ?_|(refine wk2 ?_ ?_<;>intro _)|fail)
  all_goals try (exfalso; clear hk; simp_all; done)
  all_goals
   refine Rg.ren (env2:=[(2,.ptr 0 0 0),(4,.ptr 2 0 0),(9,.ptr 43 0 0),(92,.func 122 [h.av] [])]) (σ2:=⟨[(43,.row 8 [[I p.x,I p.y,I p.z,I p.d,I q.x,I q.y,I q.z,I q.d]] true false),(2,.row 1 [[Bo false]] true false),(0,.row 11 [stgL h s] true false)],44⟩) (Ren.of [] rfl (kps) (kps)) ?_
   clear z1 z2 z3 z4 z5 z6
   refine rngV (itW g.ok.f) rfl rfl rfl rfl (Zdn (S:=Unit) (fun _=>[(43,.row 8 [[I p.x,I p.y,I p.z,I p.d,I q.x,I q.y,I q.z,I q.d]] true false),(2,.row 1 [[Bo false]] true false),(0,.row 11 [stgL h s] true false)]) 44 44 (fun xs _=>∃ l:List Wl,xs=l.map (fun w=>[w.av])/\(!l.any (touP p q)&&(Zu h (midX p q) (midY p q) (midD p q) && !blkA h s p q 0 h.ks))=(!(wls h.cs).any (touP p q)&&(Zu h (midX p q) (midY p q) (midD p q) && !blkA h s p q 0 h.ks))) ?_ ?_ _ () ⟨_,rfl,rfl⟩)
   ·rintro u us _ ⟨l,h1,h2⟩
    cases l with
    | nil=>simp at h1
    | cons w l =>
     simp only [List.map_cons,Rw] at h1
     obtain ⟨rfl,rfl⟩:=h1
     obtain ⟨wn,wa,wb,wc,wd⟩:=w
     rw [Dc] at h2
     refine ⟨rfl,bs.av (sx:=nos) hk ?_⟩
     repeat'(first|refine wk3 ?_|(refine wk2 ?_ ?_<;>intro _)|fail)
     refine Bd.mk (bs.av (sx:=nos) hk ?_)
     repeat'(first|refine wk3 ?_|(refine wk2 ?_ ?_<;>intro _)|fail)
     ·rename_i hx
      rw [<-h2,hx]
      exact Zb rfl
     ·rename_i hx
      rw [hx,Pr] at h2
      exact Th ⟨(),[],rfl,kps,l,rfl,h2⟩
   ·rintro _ ⟨l,h1,h2⟩
    cases l with
    | cons w l=>simp at h1
    | nil =>
     rw [<-h2]
     clear h1 h2
     rw [List.any_nil]
     repeat'(first|refine wk3 ?_|(refine wk2 ?_ ?_<;>intro _)|fail)
     ·rename_i hx
      have hx:Zu h (midX p q) (midY p q) (midD p q)=false:=by simpa using hx
      rw [hx]
      exact Zb rfl
     ·rename_i hx
      have hx:Zu h (midX p q) (midY p q) (midD p q)=true:=by simpa using hx
      rw [hx]
      have l4:=Zac h.ks
      have f4:=g.ok.f.2.2.2.1
      refine Za3 (S:=Nat × Int) (fun t=>h.ks.length-t.1) (fun t=>[(2,.ptr 0 0 0),(4,.ptr 2 0 0),(9,.ptr 43 0 0),(114,I (h.ks.map Can.av).length),(115,I t.2)]) (fun _=>[(43,.row 8 [[I p.x,I p.y,I p.z,I p.d,I q.x,I q.y,I q.z,I q.d]] true false),(2,.row 1 [[Bo false]] true false),(0,.row 11 [stgL h s] true false)]) 60 60 (fun t=>t.2=t.1/\t.1<=h.ks.length/\blkA h s p q t.1 (h.ks.drop t.1)=blkA h s p q 0 h.ks) (0,0) ⟨rfl,Rl _,rfl⟩ (Nat.le_of_ble_eq_true rfl) [] rfl (kps) (kps) ?_
      rintro ⟨k,i⟩ ⟨hi,hkk,hh⟩
      dsimp only at hi hkk hh ⊢
      subst hi
      refine bs.av (sx:=nos) hk ?_
      by_cases hlt:k<h.ks.length
      ·rw [Qr hlt,blkA] at hh
       have hb:=Zw7 (p:=p) (q:=q) (s:=s) hlt
       generalize blkP h.ks[k].rc (Zbo h s k) p q=b at *
       cases b with
       | true =>
        rw [<-hh]
        repeat'(first|refine wk3 ?_|(refine wk2 ?_ ?_<;>intro _)|fail)
        exact Zb rfl
       | false =>
        rw [Pr] at hh
        repeat'(first|refine wk3 ?_|(refine wk2 ?_ ?_<;>intro _)|fail)
        exact Th ⟨(k+1,_),[],rfl,kps,kps,⟨Xh (by omega),hlt,hh⟩,by dsimp only; omega⟩
      ·rw [Rb (by omega),blkA] at hh
       rw [<-hh]
       repeat'(first|refine wk3 ?_|(refine wk2 ?_ ?_<;>intro _)|fail)
       exact Zb rfl
def ptEq (p q:Pt):Bool:=decide (p.x=q.x)&&decide (p.y=q.y)&&decide (p.z=q.z)&&decide (p.d=q.d)
def wayE (h:Hal) (s:Stg) (p q:Pt):Int:=if serr h s=0 then (if Zy p=0 then (if Zy q=0 then (if ptEq p q then 11 else 0) else Zy q) else Zy p) else serr h s
abbrev sxF:FuncId->Bool:=fun f=>Qp f 54||Qp f 68||Qp f 69||Qp f 70
noncomputable abbrev ptEs:List AV->Option PRes:=famA (fun p:Pt=>p.wf) (fun p=>[p.av]) (fun p=>⟨I (Zy p),[]⟩)
theorem Zoh {p:Pt} (h:p.wf):ptEs [p.av]=some ⟨I (Zy p),[]⟩ :=
 Yr (p:=fun p:Pt=>p.wf) (g:=fun p=>[p.av]) (r:=fun p=>⟨I (Zy p),[]⟩) (fun j hj=>by
  obtain ⟨a,b,c,d⟩:=j
  obtain ⟨a',b',c',d'⟩:=p
  simp only [Rw,Kt,Wm,true_and,and_true] at hj
  obtain ⟨rfl,rfl,rfl,rfl⟩:=hj
  rfl) h
theorem c37 {h:Hal} (hk:h.ok) {s:Stg} (hs:s.few) {p q:Pt} (hp:p.wf) (hq:q.wf):PCall Tryz.prog 37 [h.av,s.av,wayA p q] ⟨.tup [Bo (decide (wayE h s p q=0)&&Zc5 h s p q),I (wayE h s p q)],[]⟩:=by
 have hk0:PCOK Tryz.prog (ins 59 ptEs (ins 67 (one [h.av,s.av] ⟨.tup [.agg (stgL h s),I (serr h s)],[]⟩) kG4)):=Xs (fun p hp=>c99 hp) (Zi (c83 hk hs) Vy)
 have t1:=Zoh hp
 have t2:=Zoh hq
 unfold wayE
 by_cases h0:serr h s=0
 ·have g:=Zkf hk hs h0
  rw [h0] at hk0
  rw [if_pos h0]
  have hk1:=Zi (c103 g p q) hk0
  clear hk0 h0
  generalize Zc5 h s p q=fr at *
  generalize Zy p=e1 at *
  generalize Zy q=e2 at *
  by_cases h1:e1=0
  ·rw [if_pos h1]
   subst h1
   by_cases h2:e2=0
   ·rw [if_pos h2]
    subst h2
    have hx:(true ^^ (decide (p.x=q.x)&&(decide (p.y=q.y)&&(decide (p.z=q.z)&&(decide (p.d=q.d)&&true))))) = !ptEq p q:=by
     unfold ptEq
     cases decide (p.x=q.x)<;>cases decide (p.y=q.y)<;>cases decide (p.z=q.z)<;>cases decide (p.d=q.d)<;>rfl
    cases hq:ptEq p q with
    | true =>
     rw [hq] at hx
     have hu:unl (true ^^ (decide (p.x=q.x)&&(decide (p.y=q.y)&&(decide (p.z=q.z)&&(decide (p.d=q.d)&&true))))) 11=11:=by rw [hx]; rfl
     clear hx hq
     refine bs.pv (sx:=sxF) hk1 Tryz.func37 (by kernel_rfl) (by kernel_rfl) rfl ?_
     repeat'(first|refine wk3 ?_|(refine wk2 ?_ ?_<;>intro _)|fail)
     refine bs.sv (sx:=sxF) hk1 Tryz.func54 (by kernel_rfl) (by kernel_rfl) ?_
     refine Tq 4 ?_
     refine Ri (bs.av (sx:=sxF) hk1 ?_)
     repeat'(first|refine wk3 ?_|(refine wk2 ?_ ?_<;>intro _)|fail)
     refine bs.sv (sx:=sxF) hk1 Tryz.func68 (by kernel_rfl) (by kernel_rfl) ?_
     repeat'(first|refine wk3 ?_|(refine wk2 ?_ ?_<;>intro _)|fail)
     refine Ri (bs.av (sx:=sxF) hk1 ?_)
     repeat'(first|refine wk3 ?_|(refine wk2 ?_ ?_<;>intro _)|fail)
     refine bs.sv (sx:=sxF) hk1 Tryz.func69 (by kernel_rfl) (by kernel_rfl) ?_
     repeat'(first|refine wk3 ?_|(refine wk2 ?_ ?_<;>intro _)|fail)
     refine Ri (bs.av (sx:=sxF) hk1 ?_)
     repeat'(first|refine wk3 ?_|(refine wk2 ?_ ?_<;>intro _)|fail)
     refine bs.sv (sx:=sxF) hk1 Tryz.func70 (by kernel_rfl) (by kernel_rfl) ?_
     repeat'(first|refine wk3 ?_|(refine wk2 ?_ ?_<;>intro _)|fail)
     exact Zg (by rw [hu]; rfl) rfl
    | false =>
     rw [hq] at hx
     have hu:unl (true ^^ (decide (p.x=q.x)&&(decide (p.y=q.y)&&(decide (p.z=q.z)&&(decide (p.d=q.d)&&true))))) 11=0:=by rw [hx]; rfl
     clear hx hq
     refine bs.pv (sx:=sxF) hk1 Tryz.func37 (by kernel_rfl) (by kernel_rfl) rfl ?_
     repeat'(first|refine wk3 ?_|(refine wk2 ?_ ?_<;>intro _)|fail)
     refine bs.sv (sx:=sxF) hk1 Tryz.func54 (by kernel_rfl) (by kernel_rfl) ?_
     refine Tq 4 ?_
     refine Ri (bs.av (sx:=sxF) hk1 ?_)
     repeat'(first|refine wk3 ?_|(refine wk2 ?_ ?_<;>intro _)|fail)
     refine bs.sv (sx:=sxF) hk1 Tryz.func68 (by kernel_rfl) (by kernel_rfl) ?_
     repeat'(first|refine wk3 ?_|(refine wk2 ?_ ?_<;>intro _)|fail)
     refine Ri (bs.av (sx:=sxF) hk1 ?_)
     repeat'(first|refine wk3 ?_|(refine wk2 ?_ ?_<;>intro _)|fail)
     refine bs.sv (sx:=sxF) hk1 Tryz.func69 (by kernel_rfl) (by kernel_rfl) ?_
     repeat'(first|refine wk3 ?_|(refine wk2 ?_ ?_<;>intro _)|fail)
     refine Ri (bs.av (sx:=sxF) hk1 ?_)
     repeat'(first|refine wk3 ?_|(refine wk2 ?_ ?_<;>intro _)|fail)
     refine bs.sv (sx:=sxF) hk1 Tryz.func70 (by kernel_rfl) (by kernel_rfl) ?_
     repeat'(first|refine wk3 ?_|(refine wk2 ?_ ?_<;>intro _)|fail)
     refine Ri (bs.av (sx:=sxF) hk1 ?_)
     repeat'(first|refine wk3 ?_|(refine wk2 ?_ ?_<;>intro _)|fail)
     exact Zg (by cases fr<;>rfl) rfl
   ·rw [if_neg h2]
    refine bs.pv (sx:=sxF) hk1 Tryz.func37 (by kernel_rfl) (by kernel_rfl) rfl ?_
    repeat'(first|refine wk3 ?_|(refine wk2 ?_ ?_<;>intro _)|fail)
    refine bs.sv (sx:=sxF) hk1 Tryz.func54 (by kernel_rfl) (by kernel_rfl) ?_
    refine Tq 4 ?_
    refine Ri (bs.av (sx:=sxF) hk1 ?_)
    repeat'(first|refine wk3 ?_|(refine wk2 ?_ ?_<;>intro _)|fail)
    refine bs.sv (sx:=sxF) hk1 Tryz.func68 (by kernel_rfl) (by kernel_rfl) ?_
    repeat'(first|refine wk3 ?_|(refine wk2 ?_ ?_<;>intro _)|fail)
    refine Ri (bs.av (sx:=sxF) hk1 ?_)
    repeat'(first|refine wk3 ?_|(refine wk2 ?_ ?_<;>intro _)|fail)
    refine bs.sv (sx:=sxF) hk1 Tryz.func69 (by kernel_rfl) (by kernel_rfl) ?_
    repeat'(first|refine wk3 ?_|(refine wk2 ?_ ?_<;>intro _)|fail)
    exact Zg (by rw [decide_eq_false h2]; rfl) rfl
  ·rw [if_neg h1]
   refine bs.pv (sx:=sxF) hk1 Tryz.func37 (by kernel_rfl) (by kernel_rfl) rfl ?_
   repeat'(first|refine wk3 ?_|(refine wk2 ?_ ?_<;>intro _)|fail)
   refine bs.sv (sx:=sxF) hk1 Tryz.func54 (by kernel_rfl) (by kernel_rfl) ?_
   refine Tq 4 ?_
   refine Ri (bs.av (sx:=sxF) hk1 ?_)
   repeat'(first|refine wk3 ?_|(refine wk2 ?_ ?_<;>intro _)|fail)
   refine bs.sv (sx:=sxF) hk1 Tryz.func68 (by kernel_rfl) (by kernel_rfl) ?_
   repeat'(first|refine wk3 ?_|(refine wk2 ?_ ?_<;>intro _)|fail)
   exact Zg (by rw [decide_eq_false h1]; rfl) rfl
 ·rw [if_neg h0]
  generalize Zc5 h s p q=fr at *
  refine bs.pv (sx:=sxF) hk0 Tryz.func37 (by kernel_rfl) (by kernel_rfl) rfl ?_
  repeat'(first|refine wk3 ?_|(refine wk2 ?_ ?_<;>intro _)|fail)
  exact Zg (by rw [decide_eq_false h0]; rfl) rfl
theorem Zt4 {n d m k:Int} (hd:0<d) (hk:0<k) (h:n / d<m / k):cmpQ n d m k = -1:=by
 have h1:=Int.lt_ediv_add_one_mul_self n hd
 have h2:=Int.ediv_mul_le m (show k≠0 by omega)
 have h3:=Qk (show n / d+1<=m / k by omega) (Qx hd)
 have h4:=Int.mul_lt_mul_of_pos_right (show n<m / k*d by omega) hk
 have h5:=Qk h2 (Qx hd)
 have e:m / k*d*k=m / k*k*d:=by grind
 unfold cmpQ sgn
 rw [if_neg (by omega),if_pos (by omega)]
theorem Zt3 {n d m k:Int}:cmpQ n d m k = -cmpQ m k n d:=by
 unfold cmpQ
 have e:n*k-m*d = -(m*d-n*k):=by omega
 rw [e]
 generalize m*d-n*k=v
 unfold sgn
 split<;>split<;>(try split)<;>(try split)<;>omega
theorem Ya7 {n d m k:Int} (h:n / d=m / k):cmpQ n d m k=cmpQ (n%d) d (m%k) k:=by
 unfold cmpQ
 have h1:=Ny n d
 have h2:=Ny m k
 congr 1
 rw [h] at h1
 generalize m / k=q at *
 generalize n%d=r at *
 generalize m%k=t at *
 subst h1 h2
 grind
theorem cmpQ_flip {n d m k:Int}:cmpQ n d m k=cmpQ k m d n:=by unfold cmpQ; congr 1; grind
noncomputable abbrev flr:List AV->Option PRes:=famA (fun p:Int × Int=>0<p.2 /\ -9223372036854775807<=p.1/\p.1<=9223372036854775807) (fun p=>[I p.1,I p.2]) (fun p=>⟨I (p.1 / p.2),[]⟩)
theorem Zs7 {n b:Int} (hb:0<b) (h0 : -9223372036854775807<=n) (h1:n<=9223372036854775807):flr [I n,I b]=some ⟨I (n / b),[]⟩ :=
 Yr (p:=fun p:Int × Int=>0<p.2 /\ -9223372036854775807<=p.1/\p.1<=9223372036854775807) (g:=fun p=>[I p.1,I p.2]) (r:=fun p=>⟨I (p.1 / p.2),[]⟩) (k:=(n,b)) (fun j hj=>by
  simp only [Rw,Wm,true_and,and_true] at hj
  obtain ⟨h1,h2⟩:=hj
  dsimp only
  rw [h1,h2]) ⟨hb,h0,h1⟩
noncomputable def kC1:PC:=ins 20 flr pt0
theorem Zyd:PCOK Tryz.prog kC1:=Xs (fun p hp=>c90 hp.1 hp.2.1 hp.2.2) Zh
theorem Zml {n d:Int} (hd:0<d) (hd2:d<=9223372036854775807):Qa Qb (n-Qa Qb (n / d*d))=n%d:=by
 have h1:=Kz n (show d≠0 by omega)
 have h2:=Li n hd
 have h3:=Ny n d
 rw [Int.mul_comm] at h3
 simp only [Sr]
 omega
theorem c187 {n d m k:Int} (hd:0<d) (hk:0<k) (hd2:d<=9223372036854775807) (hk2:k<=9223372036854775807) (hn : -9223372036854775807<=n/\n<=9223372036854775807) (hm : -9223372036854775807<=m/\m<=9223372036854775807):PCall Tryz.prog 11 [I n,I d,I m,I k] ⟨I (cmpQ n d m k),[]⟩:=by
 refine pn Zyd Tryz.func11 ?_
 generalize hR:cmpQ n d m k=R
 refine Za3 (S:=Int × Int × Int × Int) (fun t=>(t.2.1+t.2.2.2).toNat) (fun t=>[(0,I t.1),(1,I t.2.1),(2,I t.2.2.1),(3,I t.2.2.2)]) (fun _=>[]) 0 0 (fun t=>((0<t.2.1/\t.2.1<=9223372036854775807)/\(0<t.2.2.2/\t.2.2.2<=9223372036854775807))/\((-9223372036854775807<=t.1/\t.1<=9223372036854775807)/\(-9223372036854775807<=t.2.2.1/\t.2.2.1<=9223372036854775807))/\cmpQ t.1 t.2.1 t.2.2.1 t.2.2.2=R) (n,d,m,k) ⟨⟨⟨hd,hd2⟩,hk,hk2⟩,⟨hn,hm⟩,hR⟩ (Qm _) [] rfl (kps) (kps) ?_
 clear hR hd hk hd2 hk2 hn hm
 rintro ⟨n,d,m,k⟩ ⟨⟨⟨hd,hd2⟩,hk,hk2⟩,⟨hn,hm⟩,hR⟩
 dsimp only at hd hd2 hk hk2 hn hm hR ⊢
 have t1:=Zs7 hd hn.1 hn.2
 have t2:=Zs7 hk hm.1 hm.2
 have w1:=Zml (n:=n) hd hd2
 have w2:=Zml (n:=m) hk hk2
 have n1:=Kz n (show d≠0 by omega)
 have n2:=Li n hd
 have m1:=Kz m (show k≠0 by omega)
 have m2:=Li m hk
 refine bs.av (sx:=nos) Zyd ?_
 rcases Wj (n / d) (m / k) with hc|hc|hc
 ·have e:=Zt4 hd hk hc
  rw [hR] at e
  rw [e]
  generalize n / d=P at *
  generalize m / k=Q at *
  repeat'(first|refine wk1 ?_|(refine wk2 ?_ ?_<;>intro _)|fail)
  exact Zd rfl
 ·have e:=Ya7 hc
  rw [hR] at e
  rw [hc] at t1 w1
  generalize m / k=Q at *
  generalize n%d=r at *
  generalize m%k=t at *
  by_cases r0:r=0
  ·by_cases t0:t=0
   ·have:R=0:=by rw [e,r0,t0]; unfold cmpQ; simp [sgn]
    subst r0 t0
    rw [this]
    clear e hR this
    repeat'(first|refine wk1 ?_|(refine wk2 ?_ ?_<;>intro _)|fail)
    all_goals first
     | exact Zd rfl
     | (exfalso; rename_i hx; simp [w1,w2] at hx; done)
     | (exfalso; rename_i hx; simp [w1,w2] at hx; omega)
   ·have:R = -1:=by
     rw [e,r0]; unfold cmpQ sgn
     have:=Ra (show 0<t by omega) hd
     rw [if_neg (by omega),if_pos (by omega)]
    rw [this]
    repeat'(first|refine wk1 ?_|(refine wk2 ?_ ?_<;>intro _)|fail)
    all_goals first
     | exact Zd rfl
     | (exfalso; rename_i hx; simp [w1,w2] at hx; done)
     | (exfalso; rename_i hx; simp [w1,w2] at hx; omega)
  ·by_cases t0:t=0
   ·have:R=1:=by
     rw [e,t0]; unfold cmpQ sgn
     have:=Ra (show 0<r by omega) hk
     rw [if_pos (by omega)]
    rw [this]
    repeat'(first|refine wk1 ?_|(refine wk2 ?_ ?_<;>intro _)|fail)
    all_goals first
     | exact Zd rfl
     | (exfalso; rename_i hx; simp [w1,w2] at hx; done)
     | (exfalso; rename_i hx; simp [w1,w2] at hx; omega)
   ·repeat'(first|refine wk1 ?_|(refine wk2 ?_ ?_<;>intro _)|fail)
    exact Th ⟨(k,t,d,r),[],rfl,by rw [w1,w2]; exact kps,kps,⟨⟨⟨by dsimp only; omega,by dsimp only; omega⟩,by dsimp only; omega,by dsimp only; omega⟩,⟨⟨by dsimp only; omega,by dsimp only; omega⟩,by dsimp only; omega,by dsimp only; omega⟩,by rw [e]; exact cmpQ_flip.symm⟩,by dsimp only; omega⟩
 ·have e:=Zt4 hk hd hc
  have e2:R=1:=by rw [<-hR,Zt3,e]; rfl
  rw [e2]
  generalize n / d=P at *
  generalize m / k=Q at *
  repeat'(first|refine wk1 ?_|(refine wk2 ?_ ?_<;>intro _)|fail)
  exact Zd rfl
def okQ (n d m k:Int):Prop:=(0<d/\d<=9223372036854775807)/\(0<k/\k<=9223372036854775807)/\(-9223372036854775807<=n/\n<=9223372036854775807)/\(-9223372036854775807<=m/\m<=9223372036854775807)
noncomputable abbrev cmps:List AV->Option PRes:=famA (fun p:Int × Int × Int × Int=>okQ p.1 p.2.1 p.2.2.1 p.2.2.2) (fun p=>[I p.1,I p.2.1,I p.2.2.1,I p.2.2.2]) (fun p=>⟨I (cmpQ p.1 p.2.1 p.2.2.1 p.2.2.2),[]⟩)
theorem Zwx {n d m k:Int} (h:okQ n d m k):cmps [I n,I d,I m,I k]=some ⟨I (cmpQ n d m k),[]⟩ :=
 Yr (p:=fun p:Int × Int × Int × Int=>okQ p.1 p.2.1 p.2.2.1 p.2.2.2) (g:=fun p=>[I p.1,I p.2.1,I p.2.2.1,I p.2.2.2]) (r:=fun p=>⟨I (cmpQ p.1 p.2.1 p.2.2.1 p.2.2.2),[]⟩) (k:=(n,d,m,k)) (fun j hj=>by
  simp only [Rw,Wm,true_and,and_true] at hj
  obtain ⟨h1,h2,h3,h4⟩:=hj
  dsimp only
  rw [h1,h2,h3,h4]) h
theorem Ya6 {pt:PC} (h:PCOK Tryz.prog pt):PCOK Tryz.prog (ins 11 cmps pt):=Xs (fun p hp=>c187 hp.1.1 hp.2.1.1 hp.1.2 hp.2.1.2 hp.2.2.1 hp.2.2.2) h
end Go.Proofs.YtohjcchcladneaaGreat
