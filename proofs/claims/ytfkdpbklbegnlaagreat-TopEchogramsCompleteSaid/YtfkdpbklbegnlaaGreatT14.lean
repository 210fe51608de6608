/- A part of the proof: lemmas. -/
import Derived.Test.YtfkdpbklbegnlaaGreatT13
import Derived.Test.YtfkdpbklbegnlaaGreatT12
import Derived.Test.YtfkdpbklbegnlaaGreatT7
import Derived.Test.YtfkdpbklbegnlaaGreatT8
import Derived.Test.YtfkdpbklbegnlaaGreatT9
import Derived.Shelf.SlSortCmp.Insertion
import Derived.Sort.Statements
set_option linter.unusedVariables false
set_option linter.unusedSimpArgs false
set_option maxRecDepth 100000
set_option maxHeartbeats 16000000
open Bool renaming and_eq_true->Qc,false_and->Ny,false_or->Oc,true_and->Wg
open Go.IntKind renaming i64->Qb,wrap->Qa
open Go.Sx.AV.agg renaming injEq->Ng
open Go.Sx.AV.int renaming injEq->Sn
open Go.Sx.AV.isl renaming injEq->Wa
open Go.Sx.Done renaming mk->Qo
open Go.Sx.Fits renaming here->Hl
open Go.Sx.LpM renaming start->Tf,succ->Ra
open Go.Sx.Yd renaming mk->Gk
open Int renaming le_of_lt->Ro,toNat->Ss,toNat_natCast->Rd
open List renaming cons_append->Sw,drop->Qac,drop_eq_getElem_cons->Qi,drop_of_length_le->Qk,drop_succ_cons->Ff,drop_zero->Tt,eq_of_mem_replicate->Hf,flatMap_cons->Sm,flatMap_nil->Ki,getElem?_eq_getElem->Qf,getElem?_map->Rp,getElem?_range->Wo,getElem?_replicate->Hv,getElem?_set->Ns,getElem_mem->Qq,head?_drop->Qat,length->Ju,length_cons->Rr,length_eq_zero_iff->Wb,length_map->Rn,length_set->Gj,map_append->Pj,map_cons->Tj,map_map->Hy,map_replicate->Fw,map_set->Lt,mem_cons->Rf,mem_iff_getElem->Ov,mem_of_getElem?->Pd,mem_or_eq_of_mem_set->Wn,nil_append->Tl,pairwise_cons->Wc,replicate->Ru,reverse_nil->Kc,take->Qab,take_left->Qbk,take_length->Oe,take_zero->Jn
open List.cons renaming injEq->Qs
open Nat renaming beq->Qn,gcd->Tk,gcd_one_right->Dm,le_refl->Qd,zero_add->Ry,zero_le->Qm
open Option.some renaming injEq->Qe
namespace Go.Proofs.YtfkdpbklbegnlaaGreat
open Go Go.Sx
def r181:List AV->Option PRes
 | [.agg [.int .i64 a,.int .i64 b,.int .i64 c,.int .i64 d,.int .i64 x,.int .i64 y,.int .i64 z,.int .i64 w],.agg [.int .i64 n,.int .i64 fx,.int .i64 fy,.int .i64 tx,.int .i64 ty]]=>some ⟨Bo (touP ⟨a,b,c,d⟩ ⟨x,y,z,w⟩ ⟨n,fx,fy,tx,ty⟩),[]⟩
 | _=>none
def Ygq:List AV->Option PRes
 | [.agg [.int .i64 a,.int .i64 b,.int .i64 c,.int .i64 d],.int .i64 x,.int .i64 y,.int .i64 z]=>some ⟨Bo (Rc.has ⟨a,b,c,d⟩ x y z),[]⟩
 | _=>none
def Ygr:List AV->Option PRes
 | [.agg [.int .i64 a,.int .i64 b,.int .i64 c,.int .i64 d],.int .i64 x,.int .i64 y,.int .i64 z]=>some ⟨Bo (Rc.holds ⟨a,b,c,d⟩ x y z),[]⟩
 | _=>none
def kF4:PC:=ins 260 r181 (ins 294 Ygq (ins 259 Ygr (ins 261 r182 (ins 251 r170 kG3))))
theorem Zsk:PCOK Tryz.prog kF4:=by
 refine Zh (fun a res h=>?_) (Zh (fun a res h=>?_) (Zh (fun a res h=>?_) (Zh (fun a res h=>?_) (Zh (fun a res h=>?_) Ve))))
 ·unfold r181 at h; split at h<;>cases h; exact c181 ⟨_,_,_,_⟩ ⟨_,_,_,_⟩ ⟨_,_,_,_,_⟩
 ·unfold Ygq at h; split at h<;>cases h; exact c211 ⟨_,_,_,_⟩ _ _ _
 ·unfold Ygr at h; split at h<;>cases h; exact c193 ⟨_,_,_,_⟩ _ _ _
 ·unfold r182 at h; split at h<;>cases h; exact c182 ⟨_,_,_,_⟩ ⟨_,_,_,_⟩
 ·unfold r170 at h; split at h<;>cases h; exact c170 _ _ _ _ _ _ _
theorem c209 (r:Rc) (p q:Pt):PCall Tryz.prog 292 [r.av,wayA p q] ⟨Bo (Ybo r p q),[]⟩:=by
 obtain ⟨ra,rb,rc,rd⟩:=r
 obtain ⟨pa,pb,pc,pd⟩:=p
 obtain ⟨qa,qb,qc,qd⟩:=q
 refine bs.pv (sx:=nos) Zsk Tryz.func292 (by kernel_rfl) (by kernel_rfl) rfl ?_
 repeat'(first|refine wk0 ?_|(refine wk2 ?_ ?_<;>intro _)|refine wk4 ?_|fail);all_goals(conv=>whnf)
 all_goals try (refine Tf 5 ?_)
 iterate 5
  all_goals try (refine Ra (bs.av (sx:=nos) Zsk ?_))
  repeat'(first|refine wk0 ?_|(refine wk2 ?_ ?_<;>intro _)|refine wk4 ?_|fail);all_goals(conv=>whnf)
 all_goals exact Zd (by simp_all [Ybo,edgP])
def atP (ht:Int) (p q:Pt):Int × Int × Int × Bool:=if 0<=Qa Qb (sgn (zOff ht p)*sgn (zOff ht q)) then (0,0,0,false) else (atX p.x q.x (size (zOff ht q)) (size (zOff ht p)),atX p.y q.y (size (zOff ht q)) (size (zOff ht p)),atX p.d q.d (size (zOff ht q)) (size (zOff ht p)),true)
theorem c210 (ht:Int) (p q:Pt):PCall Tryz.prog 293 [wayA p q,I ht] ⟨.tup [I (atP ht p q).1,I (atP ht p q).2.1,I (atP ht p q).2.2.1,Bo (atP ht p q).2.2.2],[]⟩:=by
 refine bs.pv (sx:=nos) Ve Tryz.func293 (by kernel_rfl) (by kernel_rfl) rfl ?_
 unfold atP
 by_cases hc:0<=Qa Qb (sgn (zOff ht p)*sgn (zOff ht q))
 ·rw [if_pos hc]
  unfold zOff at hc
  repeat'(first|refine wk3 ?_|(refine wk2 ?_ ?_<;>intro _)|refine wk4 ?_|fail);all_goals(conv=>whnf)
  exact Zf rfl rfl
 ·rw [if_neg hc]
  unfold zOff at hc
  repeat'(first|refine wk3 ?_|(refine wk2 ?_ ?_<;>intro _)|refine wk4 ?_|fail);all_goals(conv=>whnf)
  exact Zf rfl rfl
def r210:List AV->Option PRes
 | [.agg [.int .i64 a,.int .i64 b,.int .i64 c,.int .i64 d,.int .i64 x,.int .i64 y,.int .i64 z,.int .i64 w],.int .i64 ht]=>some ⟨.tup [I (atP ht ⟨a,b,c,d⟩ ⟨x,y,z,w⟩).1,I (atP ht ⟨a,b,c,d⟩ ⟨x,y,z,w⟩).2.1,I (atP ht ⟨a,b,c,d⟩ ⟨x,y,z,w⟩).2.2.1,Bo (atP ht ⟨a,b,c,d⟩ ⟨x,y,z,w⟩).2.2.2],[]⟩
 | _=>none
def r209:List AV->Option PRes
 | [.agg [.int .i64 e,.int .i64 f,.int .i64 g,.int .i64 h],.agg [.int .i64 a,.int .i64 b,.int .i64 c,.int .i64 d,.int .i64 x,.int .i64 y,.int .i64 z,.int .i64 w]]=>some ⟨Bo (Ybo ⟨e,f,g,h⟩ ⟨a,b,c,d⟩ ⟨x,y,z,w⟩),[]⟩
 | _=>none
def kF5:PC:=ins 292 r209 (ins 293 r210 kF4)
theorem Yhw:PCOK Tryz.prog kF5:=by
 refine Zh (fun a res h=>?_) (Zh (fun a res h=>?_) Zsk)
 ·unfold r209 at h; split at h<;>cases h; exact c209 ⟨_,_,_,_⟩ ⟨_,_,_,_⟩ ⟨_,_,_,_⟩
 ·unfold r210 at h; split at h<;>cases h; exact c210 _ ⟨_,_,_,_⟩ ⟨_,_,_,_⟩
theorem c184 {h:Hal} {s:Stg} (g:Sit h s) {j:Nat} (hj:j<h.ks.length) (p q:Pt):PCall Tryz.prog 262 [.agg (stgL h s),I j,wayA p q] ⟨Bo (blkP h.ks[j].rc (Zco h s j) p q),[]⟩:=by
 have hk:=Ze (c192 g hj) Yhw
 have e5:=Zd4 hj
 have l2:=Xc h.ks
 generalize Zco h s j=ht at *
 generalize h.ks[j]=c at *
 unfold blkP
 by_cases hc:p.z=Qa Qb (ht*p.d)/\q.z=Qa Qb (ht*q.d)
 ·rw [if_pos hc]
  obtain ⟨h1,h2⟩:=hc
  refine bs.pv (sx:=nos) hk Tryz.func262 (by kernel_rfl) (by kernel_rfl) rfl ?_
  repeat'(first|refine wk3 ?_|(refine wk2 ?_ ?_<;>intro _)|refine wk4 ?_|fail);all_goals(conv=>whnf)
  exact Zd rfl
 ·rw [if_neg hc]
  have hat:atP ht p q=if 0<=Qa Qb (sgn (zOff ht p)*sgn (zOff ht q)) then (0,0,0,false) else (atX p.x q.x (size (zOff ht q)) (size (zOff ht p)),atX p.y q.y (size (zOff ht q)) (size (zOff ht p)),atX p.d q.d (size (zOff ht q)) (size (zOff ht p)),true):=rfl
  have hk2:=Ze (c210 ht p q) hk
  rw [hat] at hk2
  clear hk hat
  have hc2:¬ p.z=Qa Qb (ht*p.d)\/(p.z=Qa Qb (ht*p.d) /\ ¬ q.z=Qa Qb (ht*q.d)):=by
   by_cases h1:p.z=Qa Qb (ht*p.d)
   ·exact .inr ⟨h1,fun h2=>hc ⟨h1,h2⟩⟩
   ·exact .inl h1
  clear hc
  by_cases hs:0<=Qa Qb (sgn (zOff ht p)*sgn (zOff ht q))
  ·rw [if_pos hs] at hk2 ⊢
   clear hs
   rcases hc2 with h1|⟨h1,h2⟩
   all_goals
    refine bs.pv (sx:=nos) hk2 Tryz.func262 (by kernel_rfl) (by kernel_rfl) rfl ?_
    repeat'(first|refine wk3 ?_|(refine wk2 ?_ ?_<;>intro _)|refine wk4 ?_|fail);all_goals(conv=>whnf)
    exact Zd rfl
  ·rw [if_neg hs] at hk2 ⊢
   clear hs
   rcases hc2 with h1|⟨h1,h2⟩
   all_goals
    refine bs.pv (sx:=nos) hk2 Tryz.func262 (by kernel_rfl) (by kernel_rfl) rfl ?_
    repeat'(first|refine wk3 ?_|(refine wk2 ?_ ?_<;>intro _)|refine wk4 ?_|fail);all_goals(conv=>whnf)
    exact Zd rfl
def zBad (h:Hal) (p q:Pt):Bool:=(decide (p.z=0)&&decide (q.z=0))||(decide (p.z=Qa Qb (h.ht*p.d))&&decide (q.z=Qa Qb (h.ht*q.d)))||decide (p.z<0)||decide (q.z<0)||decide (Qa Qb (h.ht*p.d)<p.z)||decide (Qa Qb (h.ht*q.d)<q.z)
def blkA (h:Hal) (s:Stg) (p q:Pt):Nat->List Can->Bool
 | _,[]=>false
 | j,c::l=>blkP c.rc (Zco h s j) p q||blkA h s p q (j+1) l
def Zc7 (h:Hal) (s:Stg) (p q:Pt):Bool:=!zBad h p q&&(!(wls h.cs).any (touP p q)&&(Yg h (midX p q) (midY p q) (midD p q) && !blkA h s p q 0 h.ks))
noncomputable abbrev blks (h:Hal) (s:Stg) (p q:Pt):List AV->Option PRes:=famA (fun j:Nat=>j<h.ks.length) (fun j=>[.agg (stgL h s),I j,wayA p q]) (fun j=>⟨Bo (blkP ((h.ks[j]?).getD ⟨⟨#[]⟩,⟨#[]⟩,0,0,0,0,[]⟩).rc (Zco h s j) p q),[]⟩)
theorem Yb0 {h:Hal} {s:Stg} {p q:Pt} {j:Nat} (hj:j<h.ks.length):blks h s p q [.agg (stgL h s),I j,wayA p q]=some ⟨Bo (blkP h.ks[j].rc (Zco h s j) p q),[]⟩:=by
 have:=Zm (p:=fun j:Nat=>j<h.ks.length) (g:=fun j:Nat=>[.agg (stgL h s),I j,wayA p q]) (r:=fun j=>⟨Bo (blkP ((h.ks[j]?).getD ⟨⟨#[]⟩,⟨#[]⟩,0,0,0,0,[]⟩).rc (Zco h s j) p q),[]⟩) (k:=j) (fun i hi=>by
  simp only [Qs,Sn,true_and,and_true] at hi
  have:i=j:=by omega
  subst this; rfl) hj
 refine this.trans ?_
 rw [Qf hj]; rfl
noncomputable def kF6 (h:Hal) (s:Stg) (p q:Pt):PC:=ins 262 (blks h s p q) (ins 257 (one [h.av,I (midX p q),I (midY p q),I (midD p q)] ⟨Bo (Yg h (midX p q) (midY p q) (midD p q)),[]⟩) kF4)
theorem Yhv {h:Hal} {s:Stg} (g:Sit h s) (p q:Pt):PCOK Tryz.prog (kF6 h s p q):=Ya (fun j hj=>by rw [Qf hj]; exact c184 g hj p q) (Ze (c183 g.ok.f _ _ _) Zsk)
theorem c103 {h:Hal} {s:Stg} (g:Sit h s) (p q:Pt):PCall Tryz.prog 178 [.agg (stgL h s),wayA p q] ⟨Bo (Zc7 h s p q),[]⟩:=by
 have hk:=Yhv g p q
 refine bs.pv (sx:=nos) hk Tryz.func178 (by kernel_rfl) (by kernel_rfl) rfl ?_
 cases hz:zBad h p q with
 | true =>
  unfold Zc7
  rw [hz]
  repeat'(first|refine wk3 ?_|(refine wk2 ?_ ?_<;>intro _)|refine wk4 ?_|fail);all_goals(conv=>whnf)
  all_goals first
   | exact Zd rfl
   | (exfalso; clear hk; simp_all [zBad]; done)
   | (exfalso; clear hk; simp_all [zBad]; omega)
 | false =>
  have e:Zc7 h s p q=(!(wls h.cs).any (touP p q)&&(Yg h (midX p q) (midY p q) (midD p q) && !blkA h s p q 0 h.ks)):=by unfold Zc7; rw [hz]; rfl
  rw [e]
  clear e
  unfold zBad at hz
  simp only [Bool.or_eq_false_iff,Bool.and_eq_false_iff,decide_eq_false_iff_not] at hz
  obtain ⟨⟨⟨⟨⟨z1,z2⟩,z3⟩,z4⟩,z5⟩,z6⟩:=hz
  repeat'(first|refine wk3 ?_|(refine wk2 ?_ ?_<;>intro _)|refine wk4 ?_|fail);all_goals(conv=>whnf)
  all_goals try (exfalso; clear hk; simp_all; done)
  all_goals
   refine Rg.ren (env2:=[(2,.ptr 0 0 0),(4,.ptr 2 0 0),(9,.ptr 43 0 0),(92,.func 255 [h.av] [])]) (σ2:=⟨[(43,.row 8 [[I p.x,I p.y,I p.z,I p.d,I q.x,I q.y,I q.z,I q.d]] true false),(2,.row 1 [[Bo false]] true false),(0,.row 11 [stgL h s] true false)],44⟩) (Ren.of [] rfl (kps) (kps)) ?_
   clear z1 z2 z3 z4 z5 z6
   refine rngV (itW g.ok.f) rfl rfl rfl rfl (Zfc (S:=Unit) (fun _=>[(43,.row 8 [[I p.x,I p.y,I p.z,I p.d,I q.x,I q.y,I q.z,I q.d]] true false),(2,.row 1 [[Bo false]] true false),(0,.row 11 [stgL h s] true false)]) 44 44 (fun xs _=>∃ l:List Wl,xs=l.map (fun w=>[w.av])/\(!l.any (touP p q)&&(Yg h (midX p q) (midY p q) (midD p q) && !blkA h s p q 0 h.ks))=(!(wls h.cs).any (touP p q)&&(Yg h (midX p q) (midY p q) (midD p q) && !blkA h s p q 0 h.ks))) ?_ ?_ _ () ⟨_,rfl,rfl⟩)
   ·rintro u us _ ⟨l,h1,h2⟩
    cases l with
    | nil=>simp at h1
    | cons w l =>
     simp only [Tj,Qs] at h1
     obtain ⟨rfl,rfl⟩:=h1
     obtain ⟨wn,wa,wb,wc,wd⟩:=w
     rw [List.any_cons] at h2
     refine ⟨rfl,bs.av (sx:=nos) hk ?_⟩
     repeat'(first|refine wk3 ?_|(refine wk2 ?_ ?_<;>intro _)|refine wk4 ?_|fail);all_goals(conv=>whnf)
     refine Bd.mk (bs.av (sx:=nos) hk ?_)
     repeat'(first|refine wk3 ?_|(refine wk2 ?_ ?_<;>intro _)|refine wk4 ?_|fail);all_goals(conv=>whnf)
     ·rename_i hx
      rw [<-h2,hx]
      exact Zd rfl
     ·rename_i hx
      rw [hx,Oc] at h2
      exact Qo ⟨(),[],rfl,kps,l,rfl,h2⟩
   ·rintro _ ⟨l,h1,h2⟩
    cases l with
    | cons w l=>simp at h1
    | nil =>
     rw [<-h2]
     clear h1 h2
     rw [List.any_nil]
     repeat'(first|refine wk3 ?_|(refine wk2 ?_ ?_<;>intro _)|refine wk4 ?_|fail);all_goals(conv=>whnf)
     ·rename_i hx
      have hx:Yg h (midX p q) (midY p q) (midD p q)=false:=by simpa using hx
      rw [hx]
      exact Zd rfl
     ·rename_i hx
      have hx:Yg h (midX p q) (midY p q) (midD p q)=true:=by simpa using hx
      rw [hx]
      have l4:=Xc h.ks
      have f4:=g.ok.f.2.2.2.1
      refine Zt (S:=Nat × Int) (fun t=>h.ks.length-t.1) (fun t=>[(2,.ptr 0 0 0),(4,.ptr 2 0 0),(9,.ptr 43 0 0),(114,I (h.ks.map Can.av).length),(115,I t.2)]) (fun _=>[(43,.row 8 [[I p.x,I p.y,I p.z,I p.d,I q.x,I q.y,I q.z,I q.d]] true false),(2,.row 1 [[Bo false]] true false),(0,.row 11 [stgL h s] true false)]) 60 60 (fun t=>t.2=t.1/\t.1<=h.ks.length/\blkA h s p q t.1 (h.ks.drop t.1)=blkA h s p q 0 h.ks) (0,0) ⟨rfl,Qm _,rfl⟩ (Nat.le_of_ble_eq_true rfl) [] rfl (kps) (kps) ?_
      rintro ⟨k,i⟩ ⟨hi,hkk,hh⟩
      dsimp only at hi hkk hh ⊢
      subst hi
      refine bs.av (sx:=nos) hk ?_
      by_cases hlt:k<h.ks.length
      ·rw [Qi hlt,blkA] at hh
       have hb:=Yb0 (p:=p) (q:=q) (s:=s) hlt
       generalize blkP h.ks[k].rc (Zco h s k) p q=b at *
       cases b with
       | true =>
        rw [<-hh]
        repeat'(first|refine wk3 ?_|(refine wk2 ?_ ?_<;>intro _)|refine wk4 ?_|fail);all_goals(conv=>whnf)
        exact Zd rfl
       | false =>
        rw [Oc] at hh
        repeat'(first|refine wk3 ?_|(refine wk2 ?_ ?_<;>intro _)|refine wk4 ?_|fail);all_goals(conv=>whnf)
        exact Qo ⟨(k+1,_),[],rfl,kps,kps,⟨Zg (by omega),hlt,hh⟩,by dsimp only; omega⟩
      ·rw [Qk (by omega),blkA] at hh
       rw [<-hh]
       repeat'(first|refine wk3 ?_|(refine wk2 ?_ ?_<;>intro _)|refine wk4 ?_|fail);all_goals(conv=>whnf)
       exact Zd rfl
def ptEq (p q:Pt):Bool:=decide (p.x=q.x)&&decide (p.y=q.y)&&decide (p.z=q.z)&&decide (p.d=q.d)
def wayE (h:Hal) (s:Stg) (p q:Pt):Int:=if serr h s=0 then (if Xp p=0 then (if Xp q=0 then (if ptEq p q then 11 else 0) else Xp q) else Xp p) else serr h s
abbrev sxF:FuncId->Bool:=fun f=>Qn f 163||Qn f 175||Qn f 176||Qn f 177
noncomputable abbrev ptEs:List AV->Option PRes:=famA (fun p:Pt=>p.wf) (fun p=>[p.av]) (fun p=>⟨I (Xp p),[]⟩)
theorem Zr6 {p:Pt} (h:p.wf):ptEs [p.av]=some ⟨I (Xp p),[]⟩ :=
 Zm (p:=fun p:Pt=>p.wf) (g:=fun p=>[p.av]) (r:=fun p=>⟨I (Xp p),[]⟩) (fun j hj=>by
  obtain ⟨a,b,c,d⟩:=j
  obtain ⟨a',b',c',d'⟩:=p
  simp only [Qs,Ng,Sn,true_and,and_true] at hj
  obtain ⟨rfl,rfl,rfl,rfl⟩:=hj
  rfl) h
theorem c37 {h:Hal} (hk:h.ok) {s:Stg} (hs:s.few) {p q:Pt} (hp:p.wf) (hq:q.wf):PCall Tryz.prog 113 [h.av,s.av,wayA p q] ⟨.tup [Bo (decide (wayE h s p q=0)&&Zc7 h s p q),I (wayE h s p q)],[]⟩:=by
 have hk0:PCOK Tryz.prog (ins 159 ptEs (ins 154 (one [h.av,s.av] ⟨.tup [.agg (stgL h s),I (serr h s)],[]⟩) kG4)):=Ya (fun p hp=>c99 hp) (Ze (c83 hk hs) Uu)
 have t1:=Zr6 hp
 have t2:=Zr6 hq
 unfold wayE
 by_cases h0:serr h s=0
 ·have g:=Zdg hk hs h0
  rw [h0] at hk0
  rw [if_pos h0]
  have hk1:=Ze (c103 g p q) hk0
  clear hk0 h0
  generalize Zc7 h s p q=fr at *
  generalize Xp p=e1 at *
  generalize Xp q=e2 at *
  by_cases h1:e1=0
  ·rw [if_pos h1]
   subst h1
   by_cases h2:e2=0
   ·rw [if_pos h2]
    subst h2
    have hx:(true ^^ (decide (p.x=q.x)&&(decide (p.y=q.y)&&(decide (p.z=q.z)&&(decide (p.d=q.d)&&true))))) = !ptEq p q:=by
     unfold ptEq
     cases decide (p.x=q.x)<;>cases decide (p.y=q.y)<;>cases decide (p.z=q.z)<;>cases decide (p.d=q.d)<;>rfl
    cases hq:ptEq p q with
    | true =>
     rw [hq] at hx
     have hu:unl (true ^^ (decide (p.x=q.x)&&(decide (p.y=q.y)&&(decide (p.z=q.z)&&(decide (p.d=q.d)&&true))))) 11=11:=by rw [hx]; rfl
     clear hx hq
     refine bs.pv (sx:=sxF) hk1 Tryz.func113 (by kernel_rfl) (by kernel_rfl) rfl ?_
     repeat'(first|refine wk3 ?_|(refine wk2 ?_ ?_<;>intro _)|refine wk4 ?_|fail);all_goals(conv=>whnf)
     refine bs.sv (sx:=sxF) hk1 Tryz.func163 (by kernel_rfl) (by kernel_rfl) ?_
     refine Tf 4 ?_
     refine Ra (bs.av (sx:=sxF) hk1 ?_)
     repeat'(first|refine wk3 ?_|(refine wk2 ?_ ?_<;>intro _)|refine wk4 ?_|fail);all_goals(conv=>whnf)
     refine bs.sv (sx:=sxF) hk1 Tryz.func175 (by kernel_rfl) (by kernel_rfl) ?_
     repeat'(first|refine wk3 ?_|(refine wk2 ?_ ?_<;>intro _)|refine wk4 ?_|fail);all_goals(conv=>whnf)
     refine Ra (bs.av (sx:=sxF) hk1 ?_)
     repeat'(first|refine wk3 ?_|(refine wk2 ?_ ?_<;>intro _)|refine wk4 ?_|fail);all_goals(conv=>whnf)
     refine bs.sv (sx:=sxF) hk1 Tryz.func176 (by kernel_rfl) (by kernel_rfl) ?_
     repeat'(first|refine wk3 ?_|(refine wk2 ?_ ?_<;>intro _)|refine wk4 ?_|fail);all_goals(conv=>whnf)
     refine Ra (bs.av (sx:=sxF) hk1 ?_)
     repeat'(first|refine wk3 ?_|(refine wk2 ?_ ?_<;>intro _)|refine wk4 ?_|fail);all_goals(conv=>whnf)
     refine bs.sv (sx:=sxF) hk1 Tryz.func177 (by kernel_rfl) (by kernel_rfl) ?_
     repeat'(first|refine wk3 ?_|(refine wk2 ?_ ?_<;>intro _)|refine wk4 ?_|fail);all_goals(conv=>whnf)
     exact Zf (by rw [hu]; rfl) rfl
    | false =>
     rw [hq] at hx
     have hu:unl (true ^^ (decide (p.x=q.x)&&(decide (p.y=q.y)&&(decide (p.z=q.z)&&(decide (p.d=q.d)&&true))))) 11=0:=by rw [hx]; rfl
     clear hx hq
     refine bs.pv (sx:=sxF) hk1 Tryz.func113 (by kernel_rfl) (by kernel_rfl) rfl ?_
     repeat'(first|refine wk3 ?_|(refine wk2 ?_ ?_<;>intro _)|refine wk4 ?_|fail);all_goals(conv=>whnf)
     refine bs.sv (sx:=sxF) hk1 Tryz.func163 (by kernel_rfl) (by kernel_rfl) ?_
     refine Tf 4 ?_
     refine Ra (bs.av (sx:=sxF) hk1 ?_)
     repeat'(first|refine wk3 ?_|(refine wk2 ?_ ?_<;>intro _)|refine wk4 ?_|fail);all_goals(conv=>whnf)
     refine bs.sv (sx:=sxF) hk1 Tryz.func175 (by kernel_rfl) (by kernel_rfl) ?_
     repeat'(first|refine wk3 ?_|(refine wk2 ?_ ?_<;>intro _)|refine wk4 ?_|fail);all_goals(conv=>whnf)
     refine Ra (bs.av (sx:=sxF) hk1 ?_)
     repeat'(first|refine wk3 ?_|(refine wk2 ?_ ?_<;>intro _)|refine wk4 ?_|fail);all_goals(conv=>whnf)
     refine bs.sv (sx:=sxF) hk1 Tryz.func176 (by kernel_rfl) (by kernel_rfl) ?_
     repeat'(first|refine wk3 ?_|(refine wk2 ?_ ?_<;>intro _)|refine wk4 ?_|fail);all_goals(conv=>whnf)
     refine Ra (bs.av (sx:=sxF) hk1 ?_)
     repeat'(first|refine wk3 ?_|(refine wk2 ?_ ?_<;>intro _)|refine wk4 ?_|fail);all_goals(conv=>whnf)
     refine bs.sv (sx:=sxF) hk1 Tryz.func177 (by kernel_rfl) (by kernel_rfl) ?_
     repeat'(first|refine wk3 ?_|(refine wk2 ?_ ?_<;>intro _)|refine wk4 ?_|fail);all_goals(conv=>whnf)
     refine Ra (bs.av (sx:=sxF) hk1 ?_)
     repeat'(first|refine wk3 ?_|(refine wk2 ?_ ?_<;>intro _)|refine wk4 ?_|fail);all_goals(conv=>whnf)
     exact Zf (by cases fr<;>rfl) rfl
   ·rw [if_neg h2]
    refine bs.pv (sx:=sxF) hk1 Tryz.func113 (by kernel_rfl) (by kernel_rfl) rfl ?_
    repeat'(first|refine wk3 ?_|(refine wk2 ?_ ?_<;>intro _)|refine wk4 ?_|fail);all_goals(conv=>whnf)
    refine bs.sv (sx:=sxF) hk1 Tryz.func163 (by kernel_rfl) (by kernel_rfl) ?_
    refine Tf 4 ?_
    refine Ra (bs.av (sx:=sxF) hk1 ?_)
    repeat'(first|refine wk3 ?_|(refine wk2 ?_ ?_<;>intro _)|refine wk4 ?_|fail);all_goals(conv=>whnf)
    refine bs.sv (sx:=sxF) hk1 Tryz.func175 (by kernel_rfl) (by kernel_rfl) ?_
    repeat'(first|refine wk3 ?_|(refine wk2 ?_ ?_<;>intro _)|refine wk4 ?_|fail);all_goals(conv=>whnf)
    refine Ra (bs.av (sx:=sxF) hk1 ?_)
    repeat'(first|refine wk3 ?_|(refine wk2 ?_ ?_<;>intro _)|refine wk4 ?_|fail);all_goals(conv=>whnf)
    refine bs.sv (sx:=sxF) hk1 Tryz.func176 (by kernel_rfl) (by kernel_rfl) ?_
    repeat'(first|refine wk3 ?_|(refine wk2 ?_ ?_<;>intro _)|refine wk4 ?_|fail);all_goals(conv=>whnf)
    exact Zf (by rw [decide_eq_false h2]; rfl) rfl
  ·rw [if_neg h1]
   refine bs.pv (sx:=sxF) hk1 Tryz.func113 (by kernel_rfl) (by kernel_rfl) rfl ?_
   repeat'(first|refine wk3 ?_|(refine wk2 ?_ ?_<;>intro _)|refine wk4 ?_|fail);all_goals(conv=>whnf)
   refine bs.sv (sx:=sxF) hk1 Tryz.func163 (by kernel_rfl) (by kernel_rfl) ?_
   refine Tf 4 ?_
   refine Ra (bs.av (sx:=sxF) hk1 ?_)
   repeat'(first|refine wk3 ?_|(refine wk2 ?_ ?_<;>intro _)|refine wk4 ?_|fail);all_goals(conv=>whnf)
   refine bs.sv (sx:=sxF) hk1 Tryz.func175 (by kernel_rfl) (by kernel_rfl) ?_
   repeat'(first|refine wk3 ?_|(refine wk2 ?_ ?_<;>intro _)|refine wk4 ?_|fail);all_goals(conv=>whnf)
   exact Zf (by rw [decide_eq_false h1]; rfl) rfl
 ·rw [if_neg h0]
  generalize Zc7 h s p q=fr at *
  refine bs.pv (sx:=sxF) hk0 Tryz.func113 (by kernel_rfl) (by kernel_rfl) rfl ?_
  repeat'(first|refine wk3 ?_|(refine wk2 ?_ ?_<;>intro _)|refine wk4 ?_|fail);all_goals(conv=>whnf)
  exact Zf (by rw [decide_eq_false h0]; rfl) rfl
noncomputable abbrev crsT (h:Hal) (s:Stg):List AV->Option PRes:=famA (fun c:Crs=>c.to.wf) (fun c=>[h.av,s.av,c.av]) (fun c=>⟨crAV (crsA h s c),[]⟩)
theorem Zs3 {h:Hal} {s:Stg} {c:Crs} (hw:c.to.wf):crsT h s [h.av,s.av,c.av]=some ⟨crAV (crsA h s c),[]⟩ :=
 Zm (p:=fun c:Crs=>c.to.wf) (g:=fun c=>[h.av,s.av,c.av]) (r:=fun c=>⟨crAV (crsA h s c),[]⟩) (fun j hj=>by
  obtain ⟨a,b,d,e,x,y,z,w⟩:=j
  obtain ⟨a',b',d',e',x',y',z',w'⟩:=c
  simp only [Qs,Ng,Sn,true_and,and_true] at hj
  obtain ⟨rfl,rfl,rfl,rfl,rfl,rfl,rfl,rfl⟩:=hj
  rfl) hw
theorem Zyq {h:Hal} (hk:h.ok) {s:Stg} (hs:s.few) {pt:PC} (hp:PCOK Tryz.prog pt):PCOK Tryz.prog (ins 112 (crsT h s) pt):=Ya (fun c hc=>c40 hk hs hc) hp
noncomputable abbrev wayT (h:Hal) (s:Stg):List AV->Option PRes:=famA (fun p:Pt × Pt=>p.1.wf/\p.2.wf) (fun p=>[h.av,s.av,wayA p.1 p.2]) (fun p=>⟨.tup [Bo (decide (wayE h s p.1 p.2=0)&&Zc7 h s p.1 p.2),I (wayE h s p.1 p.2)],[]⟩)
theorem Zrq {h:Hal} {s:Stg} {p q:Pt} (hp:p.wf) (hq:q.wf):wayT h s [h.av,s.av,wayA p q]=some ⟨.tup [Bo (decide (wayE h s p q=0)&&Zc7 h s p q),I (wayE h s p q)],[]⟩ :=
 Zm (p:=fun p:Pt × Pt=>p.1.wf/\p.2.wf) (g:=fun p=>[h.av,s.av,wayA p.1 p.2]) (r:=fun p=>⟨.tup [Bo (decide (wayE h s p.1 p.2=0)&&Zc7 h s p.1 p.2),I (wayE h s p.1 p.2)],[]⟩) (k:=(p,q)) (fun j hj=>by
  obtain ⟨⟨a,b,c,d⟩,⟨a2,b2,c2,d2⟩⟩:=j
  obtain ⟨x,y,z,w⟩:=p
  obtain ⟨x2,y2,z2,w2⟩:=q
  simp only [Qs,Ng,Sn,true_and,and_true] at hj
  obtain ⟨rfl,rfl,rfl,rfl,rfl,rfl,rfl,rfl⟩:=hj
  rfl) ⟨hp,hq⟩
theorem Zu5 {h:Hal} (hk:h.ok) {s:Stg} (hs:s.few) {pt:PC} (hp:PCOK Tryz.prog pt):PCOK Tryz.prog (ins 113 (wayT h s) pt):=Ya (fun p hw=>c37 hk hs hw.1 hw.2) hp
def r123:List AV->Option PRes
 | [.agg [.int .i64 x,.int .i64 y,.int .i64 z]]=>some ⟨P4 x y z 1,[]⟩
 | _=>none
theorem Zv6 {pt:PC} (h:PCOK Tryz.prog pt):PCOK Tryz.prog (ins 107 r123 pt):=Zh (fun a res h=>by unfold r123 at h; split at h<;>cases h; exact d123 _ _ _) h
def sqV (a b c x y z:Int):Int:=Qa Qb (Qa Qb (Qa Qb (Qa Qb (a-x)*Qa Qb (a-x))+Qa Qb (Qa Qb (b-y)*Qa Qb (b-y)))+Qa Qb (Qa Qb (c-z)*Qa Qb (c-z)))
theorem d126 (a b c x y z:Int):PCall Tryz.prog 115 [P3 a b c,P3 x y z] ⟨I (sqV a b c x y z),[]⟩:=by
 refine bs.pv (sx:=nos) Zb Tryz.func115 (by kernel_rfl) (by kernel_rfl) rfl ?_
 repeat'(first|refine wk3 ?_|(refine wk2 ?_ ?_<;>intro _)|refine wk4 ?_|fail);all_goals(conv=>whnf)
 exact Za rfl
def r126:List AV->Option PRes
 | [.agg [.int .i64 a,.int .i64 b,.int .i64 c],.agg [.int .i64 x,.int .i64 y,.int .i64 z]]=>some ⟨I (sqV a b c x y z),[]⟩
 | _=>none
theorem Zv5 {pt:PC} (h:PCOK Tryz.prog pt):PCOK Tryz.prog (ins 115 r126 pt):=Zh (fun a res h=>by unfold r126 at h; split at h<;>cases h; exact d126 _ _ _ _ _ _) h
theorem Yjm {ns:List Int} (hl:ns.length<100000):PCall Tryz.prog 37 [.isl 1 (nl ns)] ⟨.isl 1 (nl ns),[]⟩:=by
 cases ns with
 | nil=>exact Yio
 | cons n ns=>exact (d103 (by simp) hl).freeze ⟨rfl,rfl,rfl⟩
theorem Yjj {ps:List (Int × Int × Int × Int)} (hl:ps.length<100000):PCall Tryz.prog 114 [.isl 4 (ps.map hp4)] ⟨.isl 4 (ps.map hp4),[]⟩:=by
 cases ps with
 | nil=>exact Yjk
 | cons n ns=>exact (d104 (by simp) hl).freeze ⟨rfl,rfl,rfl⟩
noncomputable abbrev clT:List AV->Option PRes:=famA (fun ps:List (Int × Int × Int × Int)=>ps.length<100000) (fun ps=>[.isl 4 (ps.map hp4)]) (fun ps=>⟨.isl 4 (ps.map hp4),[]⟩)
theorem Yir {pt:PC} (hp:PCOK Tryz.prog pt):PCOK Tryz.prog (ins 114 clT pt):=Ya (fun ps hl=>Yjj hl) hp
theorem Yf2 {ps:List (Int × Int × Int × Int)} (h:ps.length<100000):clT [.isl 4 (ps.map hp4)]=some ⟨.isl 4 (ps.map hp4),[]⟩ :=
 Zm (p:=fun ps:List (Int × Int × Int × Int)=>ps.length<100000) (g:=fun ps=>[.isl 4 (ps.map hp4)]) (r:=fun ps=>⟨.isl 4 (ps.map hp4),[]⟩) (fun j hj=>by
  simp only [Qs,Wa,true_and,and_true] at hj
  rw [hj]) h
def goP (f:Int->Pl3->Pt->Pt × Int):List (Int × Pl3)->Pt->List Pt->Option (List Pt)
 | [],_,P=>some P
 | (a,q)::r,to,P=>if (f a q to).2=0 then goP f r (f a q to).1 ((f a q to).1::P) else none
def chkW (w:Pt->Pt->Bool):List Pt->Bool
 | p::q::r=>w p q&&chkW w (q::r)
 | _=>true
def pnt (q:Pl3):Pt:=⟨q.1,q.2.1,q.2.2,1⟩
def tup4 (p:Pt):Int × Int × Int × Int:=(p.x,p.y,p.z,p.d)
def fP (h:Hal) (s:Stg) (a:Int) (q:Pl3) (to:Pt):Pt × Int:=crsA h s ⟨a,q.1,q.2.1,q.2.2,to⟩
def wP (h:Hal) (s:Stg) (p q:Pt):Bool:=decide (wayE h s p q=0)&&Zc7 h s p q
def pthQ (h:Hal) (s:Stg) (q0 q1:Pl3) (l:List (Int × Pl3)):Option Pth :=
 match goP (fP h s) l.reverse (pnt q1) [] with
 | none=>none
 | some P=>if chkW (wP h s) (pnt q0::P++[pnt q1]) then some ⟨l.map (·.1),P.map tup4,sqV (l.getLastD (0,q0)).2.1 (l.getLastD (0,q0)).2.2.1 (l.getLastD (0,q0)).2.2.2 q1.1 q1.2.1 q1.2.2⟩ else none
def ansP:Option Pth->AV
 | none=>.tup [.agg [.isl 1 [],.isl 4 [],I 0],Bo false]
 | some p=>.tup [p.av,Bo true]
theorem Zk3:Pt.wf ptZ:=⟨⟨by decide,by decide⟩,⟨by decide,by decide⟩,⟨by decide,by decide⟩,⟨by decide,by decide⟩⟩
theorem Zyr {h:Hal} {s:Stg} (c:Crs) (hk:h.ok) (hs:s.few):(crsA h s c).1.wf:=by
 unfold crsA
 split
 ·rename_i e
  obtain ⟨g,hi,ho,_⟩:=Zyt hk hs e
  unfold Zba
  split
  ·exact Zk3
  ·rename_i hsn
   split
   ·split
    ·exact Zk3
    ·exact (Zd9 (Zd3 ho hsn)).2.2.1.wf
   ·exact Zk3
 ·exact Zk3
theorem Zr7 {q:Pl3} (h:Near 5000 q):(pnt q).wf:=by
 obtain ⟨h1,h2,h3⟩:=h
 unfold pnt
 exact ⟨⟨by dsimp only; omega,by dsimp only; omega⟩,⟨by dsimp only; omega,by dsimp only; omega⟩,⟨by dsimp only; omega,by dsimp only; omega⟩,⟨by dsimp only; omega,by dsimp only; omega⟩⟩
def rawP:Option Pth->AV
 | none=>.tup [.agg [.nils,.nils,I 0],Bo false]
 | some p=>.tup [p.av,Bo true]
theorem Yae (o:Option Pth):Frz [] (rawP o) (ansP o):=by
 cases o with
 | none=>exact ⟨⟨rfl,rfl,⟨rfl,rfl⟩,trivial⟩,⟨rfl,rfl⟩,trivial⟩
 | some p=>exact ⟨⟨⟨rfl,rfl⟩,⟨rfl,rfl⟩,⟨rfl,rfl⟩,trivial⟩,⟨rfl,rfl⟩,trivial⟩
theorem Yad (o:Option Pth):Vf 0 (rawP o)=true:=by cases o<;>rfl
noncomputable abbrev oneA (a:List AV) (r:PRes):List AV->Option PRes:=famA (fun _:Unit=>True) (fun _=>a) (fun _=>r)
theorem Zfg {f:FuncId} {a:List AV} {r:PRes} (h:PCall Tryz.prog f a r) {pt:PC} (hp:PCOK Tryz.prog pt):PCOK Tryz.prog (ins f (oneA a r) pt):=Ya (fun _ _=>h) hp
theorem Zck (a:List AV) (r:PRes):oneA a r a=some r:=Zm (p:=fun _:Unit=>True) (g:=fun _=>a) (r:=fun _=>r) (k:=()) (fun _ _=>rfl) trivial
def lkG (f:Int->Pl3->Pl3):Pl3->List Int->List (Int × Pl3)
 | _,[]=>[]
 | q,n::r=>(n,f n q)::lkG f (f n q) r
theorem Ya6 (f:Int->Pl3->Pl3) (q:Pl3) (n:Int) (r:List Int) (k:Nat):imA f q (n::r) (k+1)=imA f (f n q) r k:=rfl
theorem Zal (f:Int->Pl3->Pl3):∀ (q:Pl3) (ns:List Int),(lkG f q ns).length=ns.length
 | _,[]=>rfl
 | q,n::r=>by rw [lkG,Rr,Zal f _ r,Rr]
theorem Zwx (f:Int->Pl3->Pl3):∀ (q:Pl3) (ns:List Int) (k:Nat) (hk:k<ns.length),(lkG f q ns)[k]?=some (ns[k],imA f q ns (k+1))
 | q,n::r,0,hk=>rfl
 | q,n::r,k+1,hk=>by
  rw [lkG,List.getElem?_cons_succ,Zwx f _ r k (by simpa using hk),Ya6]
  rfl
theorem Zww (f:Int->Pl3->Pl3):∀ (q:Pl3) (ns:List Int),(lkG f q ns).map (·.1)=ns
 | _,[]=>rfl
 | q,n::r=>by rw [lkG,Tj,Zww f _ r]
theorem Zsd (f:Int->Pl3->Pl3):∀ (q:Pl3) (ns:List Int) (x:Int),((lkG f q ns).getLastD (x,q)).2=imA f q ns ns.length
 | _,[],_=>rfl
 | q,n::r,x=>by
  rw [lkG,List.getLastD_cons,Zsd f _ r n]
  rfl
theorem Zmm {f:Int->Pl3->Pl3} {q:Pl3} {ns:List Int} {k:Nat} (hk:k<ns.length):((lkG f q ns).take (k+1)).reverse=(ns[k],imA f q ns (k+1))::((lkG f q ns).take k).reverse:=by
 have hk2:k<(lkG f q ns).length:=by rw [Zal]; exact hk
 have e:=Zwx f q ns k hk
 rw [Qf hk2,Qe] at e
 rw [List.take_succ_eq_append_getElem hk2,List.reverse_append,e]
 rfl
def Yf (h:Hal) (s:Stg) (q0 q1:Pl3) (ns:List Int):Option Pth:=pthQ h s q0 q1 (lkG (im1 h s) q0 ns)
theorem Zec (h:Hal) (s:Stg) (q0 q1:Pl3) (ns:List Int):Yf h s q0 q1 ns=match goP (fP h s) (lkG (im1 h s) q0 ns).reverse (pnt q1) [] with
  | none=>none
  | some P=>if chkW (wP h s) (pnt q0::P++[pnt q1]) then some ⟨ns,P.map tup4,sqV (imA (im1 h s) q0 ns ns.length).1 (imA (im1 h s) q0 ns ns.length).2.1 (imA (im1 h s) q0 ns ns.length).2.2 q1.1 q1.2.1 q1.2.2⟩ else none:=by
 unfold Yf pthQ
 rw [Zww,Zsd]
 all_goals (cases goP (fP h s) (lkG (im1 h s) q0 ns).reverse (pnt q1) []<;>rfl)
abbrev ptc (p:Pt):List AV:=[I p.x,I p.y,I p.z,I p.d]
theorem Zg9 {l:List Pt} {k:Nat} (hk:k<l.length):(l.map ptc)[k]?=some (ptc l[k]):=by simp [hk]
theorem Zni (l:List Pt) (i:Nat) (p:Pt):Zep (l.map ptc) i (ptc p)=(l.set i p).map ptc:=by rw [Un,Lt]
theorem Zcu {l:List Pt} {k:Nat} (hk:k<l.length) (p:Pt):(l.set k p).drop k=p::l.drop (k+1):=by
 rw [Qi (by rw [Gj]; exact hk),List.getElem_set_self,List.drop_set,if_pos (by omega)]
theorem Zpj {w:Pt->Pt->Bool} {l:List Pt} {k:Nat} (hk:k+1<l.length):chkW w (l.drop k)=(w l[k] l[k+1]&&chkW w (l.drop (k+1))):=by
 rw [Qi (show k<l.length by omega),Qi hk,chkW]
theorem Zpk {w:Pt->Pt->Bool} {l:List Pt} {k:Nat} (hk:k+1=l.length):chkW w (l.drop k)=true:=by
 rw [Qi (show k<l.length by omega),Qk (by omega)]; rfl
noncomputable def kPth (h:Hal) (s:Stg) (q0:Pl3) (ns:List Int):PC:=ins 111 (oneA [.agg (stgL h s),P3 q0.1 q0.2.1 q0.2.2,.isl 1 (nl ns)] ⟨.isl 3 (imC (im1 h s) q0 ns ns.length),[]⟩) (ins 107 r123 (ins 112 (crsT h s) (ins 113 (wayT h s) (ins 115 r126 (ins 114 clT (ins 37 (oneA [.isl 1 (nl ns)] ⟨.isl 1 (nl ns),[]⟩) pt0))))))
theorem Ye5 {h:Hal} (hk:h.ok) {s:Stg} (hs:s.few) (e0:serr h s=0) {q0:Pl3} (hf:Near 5000 q0) {ns:List Int} (hl:ns.length<=4) (hi:∀ n∈ns,0<=n/\n<nsur h):PCOK Tryz.prog (kPth h s q0 ns) :=
 Zfg (d82f hk hs e0 hf hl hi) (Zv6 (Zyq hk hs (Zu5 hk hs (Zv5 (Yir (Zfg (Yjm (ns:=ns) (by omega)) Zb))))))
theorem d65 {h:Hal} (hk:h.ok) {s:Stg} (hs:s.few) (e0:serr h s=0) (a:Ask) (hf:Near 5000 (a.fx,a.fy,a.fz)) (ht:Near 5000 (a.tx,a.ty,a.tz)) {ns:List Int} (hl:ns.length<=4) (hi:∀ n∈ns,0<=n/\n<nsur h) :
  PCall Tryz.prog 71 [.agg (stgL h s),a.av,.isl 1 (nl ns)] ⟨rawP (Yf h s (a.fx,a.fy,a.fz) (a.tx,a.ty,a.tz) ns),[]⟩:=by
 obtain ⟨fx,fy,fz,tx,ty,tz,n⟩:=a
 dsimp only at hf ht ⊢
 have hk0:=Ye5 hk hs e0 hf hl hi
 unfold kPth at hk0
 have w0:=Zr7 hf
 have wT:=Zr7 ht
 have ll:=Zl ns
 have o1:=Zck [.agg (stgL h s),P3 fx fy fz,.isl 1 (nl ns)] ⟨.isl 3 (imC (im1 h s) (fx,fy,fz) ns ns.length),[]⟩
 have o2:=Zck [.isl 1 (nl ns)] ⟨.isl 1 (nl ns),[]⟩
 have hR:=Zec h s (fx,fy,fz) (tx,ty,tz) ns
 generalize Yf h s (fx,fy,fz) (tx,ty,tz) ns=R at *
 have il:=Zjs (im1 h s) (fx,fy,fz) ns ns.length
 have x2:Qa Qb (((nl ns).length:Int)+2)=((ns.length+2:Nat):Int):=by rw [ll,W_eq (by omega) (by omega)]; omega
 have x1:Qa Qb (((nl ns).length:Int)+1)=((ns.length+1:Nat):Int):=by rw [ll,W_eq (by omega) (by omega)]; omega
 have a1:decide (0<=Qa Qb (((nl ns).length:Int)+2)/\(Qa Qb (((nl ns).length:Int)+2)).toNat<=1000000)=true:=by rw [x2]; exact decide_eq_true ⟨by omega,by omega⟩
 have g0:(Ru (Qa Qb (((nl ns).length:Int)+2)).toNat (ptc ptZ))[0+Ss 0]?=some (ptc ptZ):=by
  rw [x2,Rd,Hv,if_pos (by omega)]
 have g1:(Zep (Ru (Qa Qb (((nl ns).length:Int)+2)).toNat (ptc ptZ)) (0+Ss 0) (ptc (pnt (fx,fy,fz))))[0+(Qa Qb (((nl ns).length:Int)+1)).toNat]?=some (ptc ptZ):=by
  rw [Un,x2,x1,Ns,if_neg (by omega)]; simp
 have hE0:Zep (Zep (Ru (Qa Qb (((nl ns).length:Int)+2)).toNat (ptc ptZ)) (0+Ss 0) (ptc (pnt (fx,fy,fz)))) (0+(Qa Qb (((nl ns).length:Int)+1)).toNat) (ptc (pnt (tx,ty,tz)))=(((Ru (ns.length+2) ptZ).set 0 (pnt (fx,fy,fz))).set (ns.length+1) (pnt (tx,ty,tz))).map ptc:=by
  rw [Un,Un,x2,x1,Lt,Lt,Fw]
  congr 1
  omega
 refine bs.pv (sx:=nos) hk0 Tryz.func71 (by kernel_rfl) (by kernel_rfl) (Yad _) ?_
 unfold Zhv
 conv=>whnf
 repeat'(first|refine wk3 ?_|(refine wk2 ?_ ?_<;>intro _)|refine wk4 ?_|fail);all_goals(conv=>whnf)
 obtain ⟨l,hlk⟩:∃ l,l=lkG (im1 h s) (fx,fy,fz) ns:=⟨_,rfl⟩
 have hll:l.length=ns.length:=by rw [hlk,Zal]
 have hlt' : ∀ {k:Nat} (hk:k<ns.length),(l.take (k+1)).reverse=(ns[k],imA (im1 h s) (fx,fy,fz) ns (k+1))::(l.take k).reverse:=fun hk=>by rw [hlk]; exact Zmm hk
 rw [<-hlk] at hR
 clear hlk
 refine Zt (S:=Nat × Int × List (List AV) × List Pt) (fun t=>t.1) (fun t=>[(2,.isl 1 (nl ns)),(3,.ptr 0 0 0),(4,.ptr 1 0 0),(6,.ptr 2 0 0),(8,.isl 3 (imC (im1 h s) (fx,fy,fz) ns ns.length)),(9,I (nl ns).length),(10,.asl 3 0 (Qa Qb (((nl ns).length:Int)+2)).toNat),(11,I t.2.1)])
  (fun t=>[(3,.row 4 t.2.2.1 true true),(2,.row 3 [[.nils,.nils,I 0]] true false),(1,.row 7 [[I fx,I fy,I fz,I tx,I ty,I tz,I n]] true false),(0,.row 11 [stgL h s] true false)]) 18 18
  (fun t=>t.2.1=t.1/\t.1<=ns.length/\t.2.2.1=t.2.2.2.map ptc/\t.2.2.2.length=ns.length+2/\t.2.2.2[0]?=some (pnt (fx,fy,fz))/\(∀ p∈t.2.2.2,p.wf)/\∃ to P Q,t.2.2.2.drop (t.1+1)=to::Q/\P++[pnt (tx,ty,tz)]=to::Q/\goP (fP h s) (l.take t.1).reverse to P=goP (fP h s) l.reverse (pnt (tx,ty,tz)) [])
  (ns.length,(nl ns).length,_,(((Ru (ns.length+2) ptZ).set 0 (pnt (fx,fy,fz))).set (ns.length+1) (pnt (tx,ty,tz)))) ⟨by dsimp only; rw [ll],Qd _,hE0,by simp,by simp,?_,pnt (tx,ty,tz),[],[],by rw [Zcu (by simp)]; simp,rfl,by rw [<-hll,Oe]⟩ (Qd _) [] rfl (kps) (kps) ?_
 ·intro p hp
  rcases Wn hp with hp|rfl
  ·rcases Wn hp with hp|rfl
   ·rw [Hf hp]; exact Zk3
   ·exact w0
  ·exact wT
 clear g0 g1 hE0 a1
 rintro ⟨k,i,els,pts⟩ ⟨hi1,hk1,hels,hpl,hp0,hwf,to,P,Q,hd,hPQ,hgo⟩
 dsimp only at hi1 hk1 hels hpl hp0 hwf hd hPQ hgo ⊢
 subst hi1 hels
 have lp:(pts.map ptc).length=ns.length+2:=by rw [Rn,hpl]
 refine bs.av (sx:=nos) hk0 ?_
 cases k with
 | succ j =>
  have b0:((j+1:Nat):Int)>=1:=by omega
  have b1:Qa Qb (((j+1:Nat):Int)-1)=j:=by rw [W_eq (by omega) (by omega)]; omega
  have b2:Qa Qb (((j+1:Nat):Int)+1)=((j+2:Nat):Int):=by rw [W_eq (by omega) (by omega)]; omega
  have e1:(nl ns)[(Qa Qb (((j+1:Nat):Int)-1)).toNat]?=some [I ns[j]]:=by rw [b1]; simp [nl]
  have e2:(imC (im1 h s) (fx,fy,fz) ns ns.length)[((j+1:Nat):Int).toNat]?=some (pl3 (imA (im1 h s) (fx,fy,fz) ns (j+1))):=by
   rw [Rd]; unfold imC; rw [Rp,Wo (by omega)]; rfl
  have hto:pts[j+2]?=some to:=by rw [<-Qat,hd]; rfl
  have e3:(pts.map ptc)[0+(Qa Qb (((j+1:Nat):Int)+1)).toNat]?=some (ptc to):=by rw [b2,Rd,Ry,Rp,hto]; rfl
  have e4:(pts.map ptc)[0+((j+1:Nat):Int).toNat]?=some (ptc (pts[j+1]'(by omega))):=by rw [Rd,Ry]; exact Zg9 (by omega)
  have wto:to.wf:=hwf _ (Pd hto)
  rw [hlt' (by omega),goP] at hgo
  have c1:=Zs3 (h:=h) (s:=s) (c:=⟨ns[j],(imA (im1 h s) (fx,fy,fz) ns (j+1)).1,(imA (im1 h s) (fx,fy,fz) ns (j+1)).2.1,(imA (im1 h s) (fx,fy,fz) ns (j+1)).2.2,to⟩) wto
  have w1:=Zyr (h:=h) (s:=s) ⟨ns[j],(imA (im1 h s) (fx,fy,fz) ns (j+1)).1,(imA (im1 h s) (fx,fy,fz) ns (j+1)).2.1,(imA (im1 h s) (fx,fy,fz) ns (j+1)).2.2,to⟩ hk hs
  have hfp:fP h s ns[j] (imA (im1 h s) (fx,fy,fz) ns (j+1)) to=crsA h s ⟨ns[j],(imA (im1 h s) (fx,fy,fz) ns (j+1)).1,(imA (im1 h s) (fx,fy,fz) ns (j+1)).2.1,(imA (im1 h s) (fx,fy,fz) ns (j+1)).2.2,to⟩:=rfl
  rw [hfp] at hgo
  clear hfp
  generalize crsA h s ⟨ns[j],(imA (im1 h s) (fx,fy,fz) ns (j+1)).1,(imA (im1 h s) (fx,fy,fz) ns (j+1)).2.1,(imA (im1 h s) (fx,fy,fz) ns (j+1)).2.2,to⟩=r at *
  obtain ⟨⟨x,y,z,d⟩,E⟩:=r
  generalize imA (im1 h s) (fx,fy,fz) ns (j+1)=q at *
  obtain ⟨qx,qy,qz⟩:=q
  obtain ⟨X,Y,Z,V⟩:=to
  dsimp only at hgo w1 c1
  by_cases hE:E=0
  ·subst hE
   rw [if_pos rfl] at hgo
   have hs1:Zep (pts.map ptc) (0+((j+1:Nat):Int).toNat) (ptc ⟨x,y,z,d⟩)=(pts.set (j+1) ⟨x,y,z,d⟩).map ptc:=by
    rw [Rd,Ry]; exact Zni _ _ _
   repeat'(first|refine wk3 ?_|(refine wk2 ?_ ?_<;>intro _)|refine wk4 ?_|fail);all_goals(conv=>whnf)
   exact Qo ⟨(j,_,_,pts.set (j+1) ⟨x,y,z,d⟩),[],rfl,kps,kps,⟨b1,by dsimp only; omega,hs1,by dsimp only; rw [Gj,hpl],by dsimp only; rw [Ns,if_neg (by omega)]; exact hp0,(fun p hp=>by
    rcases Wn hp with hp|rfl
    ·exact hwf p hp
    ·exact w1),⟨x,y,z,d⟩,⟨x,y,z,d⟩::P,⟨X,Y,Z,V⟩::Q,by dsimp only; rw [Zcu (by omega),hd],by rw [Sw,hPQ],hgo⟩,by dsimp only; omega⟩
  ·rw [if_neg hE] at hgo
   rw [<-hgo] at hR
   dsimp only at hR
   subst hR
   repeat'(first|refine wk3 ?_|(refine wk2 ?_ ?_<;>intro _)|refine wk4 ?_|fail);all_goals(conv=>whnf)
   all_goals exact Zf rfl rfl
 | zero =>
  have hpe:pts=pnt (fx,fy,fz)::P++[pnt (tx,ty,tz)]:=by
   rw [Sw,hPQ,<-hd]
   clear hk0 hwf lp hpl
   cases pts with
   | nil=>cases hp0
   | cons p r=>cases hp0; rfl
  rw [Jn,Kc,goP] at hgo
  rw [<-hgo] at hR
  dsimp only at hR
  rw [<-hpe] at hR
  have hPl:P.length=ns.length:=by
   have:=congrArg Ju hpe
   simp at this; omega
  clear hgo hlt' hd hPQ Q to
  repeat'(first|refine wk3 ?_|(refine wk2 ?_ ?_<;>intro _)|refine wk4 ?_|fail);all_goals(conv=>whnf)
  refine Zt (S:=Nat × Int) (fun t=>ns.length+1-t.1) (fun t=>[(2,.isl 1 (nl ns)),(3,.ptr 0 0 0),(4,.ptr 1 0 0),(6,.ptr 2 0 0),(8,.isl 3 (imC (im1 h s) (fx,fy,fz) ns ns.length)),(9,I (nl ns).length),(10,.asl 3 0 (Qa Qb (((nl ns).length:Int)+2)).toNat),(75,I (Qa Qb (((nl ns).length:Int)+1))),(76,I t.2)])
   (fun t=>[(3,.row 4 (pts.map ptc) true true),(2,.row 3 [[.nils,.nils,I 0]] true false),(1,.row 7 [[I fx,I fy,I fz,I tx,I ty,I tz,I n]] true false),(0,.row 11 [stgL h s] true false)]) 18 18
   (fun t=>t.2=t.1/\t.1<=ns.length+1/\chkW (wP h s) (pts.drop t.1)=chkW (wP h s) pts) (0,0) ⟨rfl,Qm _,rfl⟩ (Qd _) [] rfl (kps) (kps) ?_
  rintro ⟨k,i⟩ ⟨hi1,hk1,hck⟩
  dsimp only at hi1 hk1 hck ⊢
  subst hi1
  by_cases hlt:k<ns.length+1
  ·have b0:((k:Nat):Int)<Qa Qb (((nl ns).length:Int)+1):=by rw [x1]; omega
   have b2:Qa Qb (((k:Nat):Int)+1)=((k+1:Nat):Int):=by rw [W_eq (by omega) (by omega)]; omega
   have e3:(pts.map ptc)[0+((k:Nat):Int).toNat]?=some (ptc (pts[k]'(by omega))):=by rw [Rd,Ry]; exact Zg9 (by omega)
   have e4:(pts.map ptc)[0+(Qa Qb (((k:Nat):Int)+1)).toNat]?=some (ptc (pts[k+1]'(by omega))):=by rw [b2,Rd,Ry]; exact Zg9 (by omega)
   rw [Zpj (by omega)] at hck
   have v1:=Zrq (h:=h) (s:=s) (hwf (pts[k]'(by omega)) (Qq _)) (hwf (pts[k+1]'(by omega)) (Qq _))
   have hw:wP h s (pts[k]'(by omega)) (pts[k+1]'(by omega))=(decide (wayE h s (pts[k]'(by omega)) (pts[k+1]'(by omega))=0)&&Zc7 h s (pts[k]'(by omega)) (pts[k+1]'(by omega))):=rfl
   rw [hw] at hck
   clear hw
   generalize (pts[k]'(by omega))=p1 at *
   generalize (pts[k+1]'(by omega))=p2 at *
   generalize wayE h s p1 p2=u at *
   generalize Zc7 h s p1 p2=f at *
   obtain ⟨x1,y1,z1,d1⟩:=p1
   obtain ⟨x2,y2,z2,d2⟩:=p2
   refine bs.av (sx:=nos) hk0 ?_
   cases hb:(decide (u=0)&&f) with
   | true =>
    rw [hb,Wg] at hck
    repeat'(first|refine wk3 ?_|(refine wk2 ?_ ?_<;>intro _)|refine wk4 ?_|fail);all_goals(conv=>whnf)
    all_goals first
     | (exfalso; clear hk0; simp_all; done)
     | exact Qo ⟨(k+1,_),[],rfl,kps,kps,⟨b2,hlt,hck⟩,by dsimp only; omega⟩
   | false =>
    rw [hb,Ny] at hck
    rw [<-hck,if_neg (by simp)] at hR
    subst hR
    repeat'(first|refine wk3 ?_|(refine wk2 ?_ ?_<;>intro _)|refine wk4 ?_|fail);all_goals(conv=>whnf)
    all_goals first
     | exact Zf rfl rfl
     | (exfalso; clear hk0; simp_all; done)
  ·have hke:k=ns.length+1:=by omega
   subst hke
   rw [Zpk (by omega)] at hck
   rw [<-hck,if_pos rfl] at hR
   subst hR
   refine Awp.froz [3] rfl (bs.av (sx:=nos) hk0 ?_)
   conv=>whnf
   repeat'(first|refine wk3 ?_|(refine wk2 ?_ ?_<;>intro _)|refine wk4 ?_|fail);all_goals(conv=>whnf)
   have y1:Zer (some (I (Qa Qb (((nl ns).length:Int)+1)))) (Qa Qb (((nl ns).length:Int)+2)).toNat=some (ns.length+1):=by
    show cond (decide (0<=Qa Qb (((nl ns).length:Int)+1))) (some (Qa Qb (((nl ns).length:Int)+1)).toNat) none=_
    rw [x1,decide_eq_true (by omega)]
    simp only [cond_true,Qe]; omega
   have cl:clT [.isl 4 (Qab (ns.length+1-Ss 1) (Qac (0+Ss 1) (pts.map ptc)))]=some ⟨.isl 4 ((P.map tup4).map hp4),[]⟩:=by
    have e:Qab (ns.length+1-Ss 1) (Qac (0+Ss 1) (pts.map ptc))=(P.map tup4).map hp4:=by
     rw [hpe,Sw,Tj,show (0+Ss 1)=1 from rfl,Ff,Tt,Pj,show ns.length+1-Ss 1=(P.map ptc).length by rw [Rn,hPl]; omega,Qbk,Hy]
     rfl
    rw [e]
    exact Yf2 (by rw [Rn]; omega)
   have e5:(imC (im1 h s) (fx,fy,fz) ns ns.length)[((nl ns).length:Int).toNat]?=some (pl3 (imA (im1 h s) (fx,fy,fz) ns ns.length)):=by
    rw [Rd,ll]; exact Zmn _ _ _ _
   refine Zls rfl rfl rfl rfl rfl rfl y1 (by omega) (by rw [x2]; omega) (by rw [x2]; omega) ?_
   conv=>whnf
   generalize imA (im1 h s) (fx,fy,fz) ns ns.length=q at *
   obtain ⟨qx,qy,qz⟩:=q
   repeat'(first|refine wk3 ?_|(refine wk2 ?_ ?_<;>intro _)|refine wk4 ?_|fail);all_goals(conv=>whnf)
   exact Zf rfl rfl
theorem Zyp {h:Hal} {s:Stg} (g:Sit h s) (e0:serr h s=0) {n:Int} (hn:0<=n/\n<nsur h) {q:Pl3} (hq:Near 45000 q) {to:Pt} (hto:Xp to=0) :
  CrOk (Zk h s n) ⟨n,q.1,q.2.1,q.2.2,to⟩/\SK h n/\crsA h s ⟨n,q.1,q.2.1,q.2.2,to⟩=Zba (Zip h n) (Zk h s n) ⟨n,q.1,q.2.1,q.2.2,to⟩ /\
  ((crsA h s ⟨n,q.1,q.2.1,q.2.2,to⟩).2=0->Xp (crsA h s ⟨n,q.1,q.2.1,q.2.2,to⟩).1=0/\valN (Zk h s n).1 (crsA h s ⟨n,q.1,q.2.1,q.2.2,to⟩).1.x (crsA h s ⟨n,q.1,q.2.1,q.2.2,to⟩).1.y (crsA h s ⟨n,q.1,q.2.1,q.2.2,to⟩).1.z=(Zk h s n).2*(crsA h s ⟨n,q.1,q.2.1,q.2.2,to⟩).1.d):=by
 have hi:=Zi2 hn.1 hn.2
 obtain ⟨⟨b1,b2⟩,b3⟩:=Zmf g hi
 obtain ⟨h1,h2,h3⟩:=hq
 obtain ⟨p1,p2,_,p4⟩:=Zha hto
 unfold ptIn at p4
 simp only [Qc,within_iff] at p4
 have ho:CrOk (Zk h s n) ⟨n,q.1,q.2.1,q.2.2,to⟩:=⟨b1,b2,b3,h1,h2,h3,p1,p2,p4.1.1,p4.1.2,p4.2⟩
 have he:crsE h s ⟨n,q.1,q.2.1,q.2.2,to⟩=0:=by
  unfold crsE surE Vy img
  rw [if_pos e0,if_pos (within_iff.2 (by dsimp only; omega)),if_pos rfl,if_pos (by simp only [Qc,within_iff]; omega)]
  exact hto
 have hA:crsA h s ⟨n,q.1,q.2.1,q.2.2,to⟩=Zba (Za9 h n) (Zk h s n) ⟨n,q.1,q.2.1,q.2.2,to⟩:=by unfold crsA; rw [if_pos he]
 refine ⟨ho,hi,by rw [hA]; exact Ybs (c:=⟨n,q.1,q.2.1,q.2.2,to⟩) g hi ho,fun hz=>?_⟩
 rw [hA] at hz ⊢
 refine ⟨Zra (c:=⟨n,q.1,q.2.1,q.2.2,to⟩) g hi ho hz,?_⟩
 unfold Zba at hz ⊢
 split at hz
 ·cases hz
 ·rename_i hs
  split at hz
  ·rename_i hw
   split at hz
   ·cases hz
   ·rename_i hd
    rw [if_neg hs,if_pos hw,if_neg hd]
    exact Zfs ho hs
  ·cases hz
theorem Yfh (a b c:Int):Tk (Tk a.natAbs b.natAbs) (Tk c.natAbs (1:Int).natAbs)=1:=by
 rw [show (1:Int).natAbs=1 from rfl,Dm,Dm]
theorem Zv9 {q:Pl3} (h:Near 5000 q):Xp (pnt q)=0:=by
 obtain ⟨h1,h2,h3⟩:=h
 unfold Xp pnt g4 ptIn
 dsimp only
 rw [Yfh,if_neg (by simp),if_neg (by omega),if_pos (by simp only [Qc,within_iff]; omega)]
theorem Ygm {h:Hal} {ns:List Int} (hi:∀ n∈ns,0<=n/\n<nsur h):∀ n∈ns,SK h n:=fun n hn=>Zi2 (hi n hn).1 (hi n hn).2
theorem Zn2 {m k:Int} (h:k<=m) {p:Pl3} (hp:Near k p):Near m p:=by
 obtain ⟨h1,h2,h3⟩:=hp
 exact ⟨by omega,by omega,by omega⟩
abbrev Pt4:=Int × Int × Int × Int
def eqP4 (a b:Pt4):Bool:=decide (a.1=b.1)&&(decide (a.2.1=b.2.1)&&(decide (a.2.2.1=b.2.2.1)&&decide (a.2.2.2=b.2.2.2)))
def eqP:List Pt4->List Pt4->Bool
 | [],[]=>true
 | x::a,y::b=>eqP4 x y&&eqP a b
 | _,_=>false
theorem Ybd {a b:Pt4}:eqP4 a b=true↔a=b:=by
 obtain ⟨a1,a2,a3,a4⟩:=a
 obtain ⟨b1,b2,b3,b4⟩:=b
 simp [eqP4]
theorem Zx9:∀ {a b:List Pt4},eqP a b=true↔a=b
 | [],[]=>by simp [eqP]
 | x::a,y::b=>by rw [eqP,Qc,Ybd,Zx9]; simp
 | [],y::b=>by simp [eqP]
 | x::a,[]=>by simp [eqP]
def same (a b:Pth):Bool:=eqN a.ss b.ss&&(decide (a.sq=b.sq)&&eqP a.ps b.ps)
theorem same_iff {a b:Pth}:same a b=true↔a=b:=by
 obtain ⟨a1,a2,a3⟩:=a
 obtain ⟨b1,b2,b3⟩:=b
 unfold same
 rw [Qc,Qc,eqN_iff,Zx9,decide_eq_true_eq]
 simp only [Pth.mk.injEq]
 exact ⟨fun ⟨h1,h2,h3⟩=>⟨h1,h3,h2⟩,fun ⟨h1,h2,h3⟩=>⟨h1,h3,h2⟩⟩
theorem Yh4 {a b:List Pt4} (h:a.map hp4=b.map hp4):a=b:=by
 refine (List.map_inj_right (fun x y hxy=>?_)).1 h
 obtain ⟨x1,x2,x3,x4⟩:=x
 obtain ⟨y1,y2,y3,y4⟩:=y
 simpa using hxy
theorem Zwc {a b:Pth} (h:a.av=b.av):a=b:=by
 obtain ⟨a1,a2,a3⟩:=a
 obtain ⟨b1,b2,b3⟩:=b
 simp only [Ng,Qs,Wa,Sn,true_and,and_true] at h
 rw [Ze0 h.1,Yh4 h.2.1,h.2.2]
structure AskOk (h:Hal) (s:Stg) (a:Ask):Prop where
 e0:serr h s=0
 f:Near 5000 (a.fx,a.fy,a.fz)
 t:Near 5000 (a.tx,a.ty,a.tz)
 fi:Zae h ⟨a.fx,a.fy,a.fz,1⟩=true
 ti:Zae h ⟨a.tx,a.ty,a.tz,1⟩=true
 ne:a.same=false
 n:0<=a.n/\a.n<=4
theorem Xd {h:Hal} {s:Stg} {a:Ask} (e:askE h s a=0):AskOk h s a:=by
 unfold askE at e
 split at e
 ·rename_i e0
  simp only [fstL] at e
  by_cases c1:plaE h a.fx a.fy a.fz=0
  rotate_left
  ·rw [if_pos (fun k=>c1 k)] at e; exact absurd e c1
  by_cases c2:plaE h a.tx a.ty a.tz=0
  rotate_left
  ·rw [if_neg (fun k=>k c1),if_pos (fun k=>c2 k)] at e; exact absurd e c2
  by_cases c3:unl (!a.same) 11=0
  rotate_left
  ·rw [if_neg (fun k=>k c1),if_neg (fun k=>k c2),if_pos (fun k=>c3 k)] at e; exact absurd e c3
  by_cases c4:unl (within a.n 0 4) 2=0
  rotate_left
  ·rw [if_neg (fun k=>k c1),if_neg (fun k=>k c2),if_neg (fun k=>k c3),if_pos (fun k=>c4 k)] at e; exact absurd e c4
  refine ⟨e0,(Zf7 c1).1,(Zf7 c2).1,(Zf7 c1).2,(Zf7 c2).2,?_,?_⟩
  ·cases hs:a.same with
   | false=>rfl
   | true=>rw [hs] at c3; cases c3
  ·cases hw:within a.n 0 4 with
   | true=>exact within_iff.1 hw
   | false=>rw [hw] at c4; cases c4
 ·rename_i e0; exact absurd e e0
theorem Zf8 {h:Hal} {s:Stg} {q0 q1:Pl3} {ns:List Int} {p:Pth} (e:Yf h s q0 q1 ns=some p):p.ss=ns:=by
 rw [Zec] at e
 split at e
 ·cases e
 ·split at e
  ·cases e; rfl
  ·cases e
theorem Zxp {f:Int->Pl3->Pt->Pt × Int}:∀ {l:List (Int × Pl3)} {to:Pt} {P R:List Pt},goP f l to P=some R->R.length=l.length+P.length
 | [],_,_,_,h=>by rw [goP,Qe] at h; subst h; simp
 | (a,q)::r,to,P,R,h=>by
  rw [goP] at h
  split at h
  ·have:=Zxp h
   rw [this,Rr,Rr]; omega
  ·cases h
theorem Zr8 {h:Hal} {s:Stg} {q0 q1:Pl3} {ns:List Int} {p:Pth} (e:Yf h s q0 q1 ns=some p):p.ps.length=ns.length:=by
 rw [Zec] at e
 split at e
 ·cases e
 ·rename_i P hP
  have:=Zxp hP
  rw [List.length_reverse,Zal,List.length_nil] at this
  split at e
  ·cases e; rw [Rn]; exact this
  ·cases e
abbrev qF (a:Ask):Pl3:=(a.fx,a.fy,a.fz)
abbrev qT (a:Ask):Pl3:=(a.tx,a.ty,a.tz)
def rowP (o:Option Pth):PRes:=match o with
 | none=>⟨.tup [.agg [.nils,.nils,I 0],Bo false],[]⟩
 | some p=>⟨.tup [.agg [.asl 0 0 (nl p.ss).length,.asl 1 0 (p.ps.map hp4).length,I p.sq],Bo true],[(1,nl p.ss),(4,p.ps.map hp4)]⟩
theorem Zz9 (o:Option Pth):Vf (rowP o).blks.length (rowP o).v=true:=by cases o<;>rfl
noncomputable abbrev clR:List AV->Option PRes:=famA (fun ps:List (Int × Int × Int × Int)=>0<ps.length/\ps.length<100000) (fun ps=>[.isl 4 (ps.map hp4)]) (fun ps=>⟨.asl 0 0 (ps.map hp4).length,[(4,ps.map hp4)]⟩)
theorem Yis {pt:PC} (hp:PCOK Tryz.prog pt):PCOK Tryz.prog (ins 114 clR pt):=Ya (fun ps hl=>d104 hl.1 hl.2) hp
theorem Yf3 {ps:List (Int × Int × Int × Int)} (h0:0<ps.length) (h:ps.length<100000):clR [.isl 4 (ps.map hp4)]=some ⟨.asl 0 0 (ps.map hp4).length,[(4,ps.map hp4)]⟩ :=
 Zm (p:=fun ps:List (Int × Int × Int × Int)=>0<ps.length/\ps.length<100000) (g:=fun ps=>[.isl 4 (ps.map hp4)]) (r:=fun ps=>⟨.asl 0 0 (ps.map hp4).length,[(4,ps.map hp4)]⟩) (fun j hj=>by
  simp only [Qs,Wa,true_and,and_true] at hj
  rw [hj]) ⟨h0,h⟩
noncomputable def Yhr (h:Hal) (s:Stg) (q0:Pl3) (ns:List Int):PC:=ins 111 (oneA [.agg (stgL h s),P3 q0.1 q0.2.1 q0.2.2,.isl 1 (nl ns)] ⟨.isl 3 (imC (im1 h s) q0 ns ns.length),[]⟩) (ins 107 r123 (ins 112 (crsT h s) (ins 113 (wayT h s) (ins 115 r126 (ins 114 clR (ins 37 (oneA [.isl 1 (nl ns)] ⟨.asl 0 0 (nl ns).length,[(1,nl ns)]⟩) pt0))))))
theorem Yaz {h:Hal} (hk:h.ok) {s:Stg} (hs:s.few) (e0:serr h s=0) {q0:Pl3} (hf:Near 5000 q0) {ns:List Int} (h0:0<ns.length) (hl:ns.length<=4) (hi:∀ n∈ns,0<=n/\n<nsur h):PCOK Tryz.prog (Yhr h s q0 ns) :=
 Zfg (d82f hk hs e0 hf hl hi) (Zv6 (Zyq hk hs (Zu5 hk hs (Zv5 (Yis (Zfg (d103 (ns:=ns) h0 (by omega)) Zb))))))
theorem d65r {h:Hal} (hk:h.ok) {s:Stg} (hs:s.few) (e0:serr h s=0) (a:Ask) (hf:Near 5000 (a.fx,a.fy,a.fz)) (ht:Near 5000 (a.tx,a.ty,a.tz)) {ns:List Int} (h0:0<ns.length) (hl:ns.length<=4) (hi:∀ n∈ns,0<=n/\n<nsur h) :
  PCall Tryz.prog 71 [.agg (stgL h s),a.av,.isl 1 (nl ns)] (rowP (Yf h s (a.fx,a.fy,a.fz) (a.tx,a.ty,a.tz) ns)):=by
 obtain ⟨fx,fy,fz,tx,ty,tz,n⟩:=a
 dsimp only at hf ht ⊢
 have hk0:=Yaz hk hs e0 hf h0 hl hi
 unfold Yhr at hk0
 have w0:=Zr7 hf
 have wT:=Zr7 ht
 have ll:=Zl ns
 have o1:=Zck [.agg (stgL h s),P3 fx fy fz,.isl 1 (nl ns)] ⟨.isl 3 (imC (im1 h s) (fx,fy,fz) ns ns.length),[]⟩
 have o2:=Zck [.isl 1 (nl ns)] ⟨.asl 0 0 (nl ns).length,[(1,nl ns)]⟩
 have hR:=Zec h s (fx,fy,fz) (tx,ty,tz) ns
 generalize Yf h s (fx,fy,fz) (tx,ty,tz) ns=R at *
 have il:=Zjs (im1 h s) (fx,fy,fz) ns ns.length
 have x2:Qa Qb (((nl ns).length:Int)+2)=((ns.length+2:Nat):Int):=by rw [ll,W_eq (by omega) (by omega)]; omega
 have x1:Qa Qb (((nl ns).length:Int)+1)=((ns.length+1:Nat):Int):=by rw [ll,W_eq (by omega) (by omega)]; omega
 have a1:decide (0<=Qa Qb (((nl ns).length:Int)+2)/\(Qa Qb (((nl ns).length:Int)+2)).toNat<=1000000)=true:=by rw [x2]; exact decide_eq_true ⟨by omega,by omega⟩
 have g0:(Ru (Qa Qb (((nl ns).length:Int)+2)).toNat (ptc ptZ))[0+Ss 0]?=some (ptc ptZ):=by
  rw [x2,Rd,Hv,if_pos (by omega)]
 have g1:(Zep (Ru (Qa Qb (((nl ns).length:Int)+2)).toNat (ptc ptZ)) (0+Ss 0) (ptc (pnt (fx,fy,fz))))[0+(Qa Qb (((nl ns).length:Int)+1)).toNat]?=some (ptc ptZ):=by
  rw [Un,x2,x1,Ns,if_neg (by omega)]; simp
 have hE0:Zep (Zep (Ru (Qa Qb (((nl ns).length:Int)+2)).toNat (ptc ptZ)) (0+Ss 0) (ptc (pnt (fx,fy,fz)))) (0+(Qa Qb (((nl ns).length:Int)+1)).toNat) (ptc (pnt (tx,ty,tz)))=(((Ru (ns.length+2) ptZ).set 0 (pnt (fx,fy,fz))).set (ns.length+1) (pnt (tx,ty,tz))).map ptc:=by
  rw [Un,Un,x2,x1,Lt,Lt,Fw]
  congr 1
  omega
 refine bs.pv (sx:=nos) hk0 Tryz.func71 (by kernel_rfl) (by kernel_rfl) (Zz9 _) ?_
 unfold Zhv
 conv=>whnf
 repeat'(first|refine wk3 ?_|(refine wk2 ?_ ?_<;>intro _)|refine wk4 ?_|fail);all_goals(conv=>whnf)
 obtain ⟨l,hlk⟩:∃ l,l=lkG (im1 h s) (fx,fy,fz) ns:=⟨_,rfl⟩
 have hll:l.length=ns.length:=by rw [hlk,Zal]
 have hlt' : ∀ {k:Nat} (hk:k<ns.length),(l.take (k+1)).reverse=(ns[k],imA (im1 h s) (fx,fy,fz) ns (k+1))::(l.take k).reverse:=fun hk=>by rw [hlk]; exact Zmm hk
 rw [<-hlk] at hR
 clear hlk
 refine Zt (S:=Nat × Int × List (List AV) × List Pt) (fun t=>t.1) (fun t=>[(2,.isl 1 (nl ns)),(3,.ptr 0 0 0),(4,.ptr 1 0 0),(6,.ptr 2 0 0),(8,.isl 3 (imC (im1 h s) (fx,fy,fz) ns ns.length)),(9,I (nl ns).length),(10,.asl 3 0 (Qa Qb (((nl ns).length:Int)+2)).toNat),(11,I t.2.1)])
  (fun t=>[(3,.row 4 t.2.2.1 true true),(2,.row 3 [[.nils,.nils,I 0]] true false),(1,.row 7 [[I fx,I fy,I fz,I tx,I ty,I tz,I n]] true false),(0,.row 11 [stgL h s] true false)]) 18 18
  (fun t=>t.2.1=t.1/\t.1<=ns.length/\t.2.2.1=t.2.2.2.map ptc/\t.2.2.2.length=ns.length+2/\t.2.2.2[0]?=some (pnt (fx,fy,fz))/\(∀ p∈t.2.2.2,p.wf)/\∃ to P Q,t.2.2.2.drop (t.1+1)=to::Q/\P++[pnt (tx,ty,tz)]=to::Q/\goP (fP h s) (l.take t.1).reverse to P=goP (fP h s) l.reverse (pnt (tx,ty,tz)) [])
  (ns.length,(nl ns).length,_,(((Ru (ns.length+2) ptZ).set 0 (pnt (fx,fy,fz))).set (ns.length+1) (pnt (tx,ty,tz)))) ⟨by dsimp only; rw [ll],Qd _,hE0,by simp,by simp,?_,pnt (tx,ty,tz),[],[],by rw [Zcu (by simp)]; simp,rfl,by rw [<-hll,Oe]⟩ (Qd _) [] rfl (kps) (kps) ?_
 ·intro p hp
  rcases Wn hp with hp|rfl
  ·rcases Wn hp with hp|rfl
   ·rw [Hf hp]; exact Zk3
   ·exact w0
  ·exact wT
 clear g0 g1 hE0 a1
 rintro ⟨k,i,els,pts⟩ ⟨hi1,hk1,hels,hpl,hp0,hwf,to,P,Q,hd,hPQ,hgo⟩
 dsimp only at hi1 hk1 hels hpl hp0 hwf hd hPQ hgo ⊢
 subst hi1 hels
 have lp:(pts.map ptc).length=ns.length+2:=by rw [Rn,hpl]
 refine bs.av (sx:=nos) hk0 ?_
 cases k with
 | succ j =>
  have b0:((j+1:Nat):Int)>=1:=by omega
  have b1:Qa Qb (((j+1:Nat):Int)-1)=j:=by rw [W_eq (by omega) (by omega)]; omega
  have b2:Qa Qb (((j+1:Nat):Int)+1)=((j+2:Nat):Int):=by rw [W_eq (by omega) (by omega)]; omega
  have e1:(nl ns)[(Qa Qb (((j+1:Nat):Int)-1)).toNat]?=some [I ns[j]]:=by rw [b1]; simp [nl]
  have e2:(imC (im1 h s) (fx,fy,fz) ns ns.length)[((j+1:Nat):Int).toNat]?=some (pl3 (imA (im1 h s) (fx,fy,fz) ns (j+1))):=by
   rw [Rd]; unfold imC; rw [Rp,Wo (by omega)]; rfl
  have hto:pts[j+2]?=some to:=by rw [<-Qat,hd]; rfl
  have e3:(pts.map ptc)[0+(Qa Qb (((j+1:Nat):Int)+1)).toNat]?=some (ptc to):=by rw [b2,Rd,Ry,Rp,hto]; rfl
  have e4:(pts.map ptc)[0+((j+1:Nat):Int).toNat]?=some (ptc (pts[j+1]'(by omega))):=by rw [Rd,Ry]; exact Zg9 (by omega)
  have wto:to.wf:=hwf _ (Pd hto)
  rw [hlt' (by omega),goP] at hgo
  have c1:=Zs3 (h:=h) (s:=s) (c:=⟨ns[j],(imA (im1 h s) (fx,fy,fz) ns (j+1)).1,(imA (im1 h s) (fx,fy,fz) ns (j+1)).2.1,(imA (im1 h s) (fx,fy,fz) ns (j+1)).2.2,to⟩) wto
  have w1:=Zyr (h:=h) (s:=s) ⟨ns[j],(imA (im1 h s) (fx,fy,fz) ns (j+1)).1,(imA (im1 h s) (fx,fy,fz) ns (j+1)).2.1,(imA (im1 h s) (fx,fy,fz) ns (j+1)).2.2,to⟩ hk hs
  have hfp:fP h s ns[j] (imA (im1 h s) (fx,fy,fz) ns (j+1)) to=crsA h s ⟨ns[j],(imA (im1 h s) (fx,fy,fz) ns (j+1)).1,(imA (im1 h s) (fx,fy,fz) ns (j+1)).2.1,(imA (im1 h s) (fx,fy,fz) ns (j+1)).2.2,to⟩:=rfl
  rw [hfp] at hgo
  clear hfp
  generalize crsA h s ⟨ns[j],(imA (im1 h s) (fx,fy,fz) ns (j+1)).1,(imA (im1 h s) (fx,fy,fz) ns (j+1)).2.1,(imA (im1 h s) (fx,fy,fz) ns (j+1)).2.2,to⟩=r at *
  obtain ⟨⟨x,y,z,d⟩,E⟩:=r
  generalize imA (im1 h s) (fx,fy,fz) ns (j+1)=q at *
  obtain ⟨qx,qy,qz⟩:=q
  obtain ⟨X,Y,Z,V⟩:=to
  dsimp only at hgo w1 c1
  by_cases hE:E=0
  ·subst hE
   rw [if_pos rfl] at hgo
   have hs1:Zep (pts.map ptc) (0+((j+1:Nat):Int).toNat) (ptc ⟨x,y,z,d⟩)=(pts.set (j+1) ⟨x,y,z,d⟩).map ptc:=by
    rw [Rd,Ry]; exact Zni _ _ _
   repeat'(first|refine wk3 ?_|(refine wk2 ?_ ?_<;>intro _)|refine wk4 ?_|fail);all_goals(conv=>whnf)
   exact Qo ⟨(j,_,_,pts.set (j+1) ⟨x,y,z,d⟩),[],rfl,kps,kps,⟨b1,by dsimp only; omega,hs1,by dsimp only; rw [Gj,hpl],by dsimp only; rw [Ns,if_neg (by omega)]; exact hp0,(fun p hp=>by
    rcases Wn hp with hp|rfl
    ·exact hwf p hp
    ·exact w1),⟨x,y,z,d⟩,⟨x,y,z,d⟩::P,⟨X,Y,Z,V⟩::Q,by dsimp only; rw [Zcu (by omega),hd],by rw [Sw,hPQ],hgo⟩,by dsimp only; omega⟩
  ·rw [if_neg hE] at hgo
   rw [<-hgo] at hR
   dsimp only at hR
   subst hR
   repeat'(first|refine wk3 ?_|(refine wk2 ?_ ?_<;>intro _)|refine wk4 ?_|fail);all_goals(conv=>whnf)
   all_goals exact Zf rfl rfl
 | zero =>
  have hpe:pts=pnt (fx,fy,fz)::P++[pnt (tx,ty,tz)]:=by
   rw [Sw,hPQ,<-hd]
   clear hk0 hwf lp hpl
   cases pts with
   | nil=>cases hp0
   | cons p r=>cases hp0; rfl
  rw [Jn,Kc,goP] at hgo
  rw [<-hgo] at hR
  dsimp only at hR
  rw [<-hpe] at hR
  have hPl:P.length=ns.length:=by
   have:=congrArg Ju hpe
   simp at this; omega
  clear hgo hlt' hd hPQ Q to
  repeat'(first|refine wk3 ?_|(refine wk2 ?_ ?_<;>intro _)|refine wk4 ?_|fail);all_goals(conv=>whnf)
  refine Zt (S:=Nat × Int) (fun t=>ns.length+1-t.1) (fun t=>[(2,.isl 1 (nl ns)),(3,.ptr 0 0 0),(4,.ptr 1 0 0),(6,.ptr 2 0 0),(8,.isl 3 (imC (im1 h s) (fx,fy,fz) ns ns.length)),(9,I (nl ns).length),(10,.asl 3 0 (Qa Qb (((nl ns).length:Int)+2)).toNat),(75,I (Qa Qb (((nl ns).length:Int)+1))),(76,I t.2)])
   (fun t=>[(3,.row 4 (pts.map ptc) true true),(2,.row 3 [[.nils,.nils,I 0]] true false),(1,.row 7 [[I fx,I fy,I fz,I tx,I ty,I tz,I n]] true false),(0,.row 11 [stgL h s] true false)]) 18 18
   (fun t=>t.2=t.1/\t.1<=ns.length+1/\chkW (wP h s) (pts.drop t.1)=chkW (wP h s) pts) (0,0) ⟨rfl,Qm _,rfl⟩ (Qd _) [] rfl (kps) (kps) ?_
  rintro ⟨k,i⟩ ⟨hi1,hk1,hck⟩
  dsimp only at hi1 hk1 hck ⊢
  subst hi1
  by_cases hlt:k<ns.length+1
  ·have b0:((k:Nat):Int)<Qa Qb (((nl ns).length:Int)+1):=by rw [x1]; omega
   have b2:Qa Qb (((k:Nat):Int)+1)=((k+1:Nat):Int):=by rw [W_eq (by omega) (by omega)]; omega
   have e3:(pts.map ptc)[0+((k:Nat):Int).toNat]?=some (ptc (pts[k]'(by omega))):=by rw [Rd,Ry]; exact Zg9 (by omega)
   have e4:(pts.map ptc)[0+(Qa Qb (((k:Nat):Int)+1)).toNat]?=some (ptc (pts[k+1]'(by omega))):=by rw [b2,Rd,Ry]; exact Zg9 (by omega)
   rw [Zpj (by omega)] at hck
   have v1:=Zrq (h:=h) (s:=s) (hwf (pts[k]'(by omega)) (Qq _)) (hwf (pts[k+1]'(by omega)) (Qq _))
   have hw:wP h s (pts[k]'(by omega)) (pts[k+1]'(by omega))=(decide (wayE h s (pts[k]'(by omega)) (pts[k+1]'(by omega))=0)&&Zc7 h s (pts[k]'(by omega)) (pts[k+1]'(by omega))):=rfl
   rw [hw] at hck
   clear hw
   generalize (pts[k]'(by omega))=p1 at *
   generalize (pts[k+1]'(by omega))=p2 at *
   generalize wayE h s p1 p2=u at *
   generalize Zc7 h s p1 p2=f at *
   obtain ⟨x1,y1,z1,d1⟩:=p1
   obtain ⟨x2,y2,z2,d2⟩:=p2
   refine bs.av (sx:=nos) hk0 ?_
   cases hb:(decide (u=0)&&f) with
   | true =>
    rw [hb,Wg] at hck
    repeat'(first|refine wk3 ?_|(refine wk2 ?_ ?_<;>intro _)|refine wk4 ?_|fail);all_goals(conv=>whnf)
    all_goals first
     | (exfalso; clear hk0; simp_all; done)
     | exact Qo ⟨(k+1,_),[],rfl,kps,kps,⟨b2,hlt,hck⟩,by dsimp only; omega⟩
   | false =>
    rw [hb,Ny] at hck
    rw [<-hck,if_neg (by simp)] at hR
    subst hR
    repeat'(first|refine wk3 ?_|(refine wk2 ?_ ?_<;>intro _)|refine wk4 ?_|fail);all_goals(conv=>whnf)
    all_goals first
     | exact Zf rfl rfl
     | (exfalso; clear hk0; simp_all; done)
  ·have hke:k=ns.length+1:=by omega
   subst hke
   rw [Zpk (by omega)] at hck
   rw [<-hck,if_pos rfl] at hR
   subst hR
   refine Awp.froz [3] rfl (bs.av (sx:=nos) hk0 ?_)
   conv=>whnf
   repeat'(first|refine wk3 ?_|(refine wk2 ?_ ?_<;>intro _)|refine wk4 ?_|fail);all_goals(conv=>whnf)
   have y1:Zer (some (I (Qa Qb (((nl ns).length:Int)+1)))) (Qa Qb (((nl ns).length:Int)+2)).toNat=some (ns.length+1):=by
    show cond (decide (0<=Qa Qb (((nl ns).length:Int)+1))) (some (Qa Qb (((nl ns).length:Int)+1)).toNat) none=_
    rw [x1,decide_eq_true (by omega)]
    simp only [cond_true,Qe]; omega
   have cl:clR [.isl 4 (Qab (ns.length+1-Ss 1) (Qac (0+Ss 1) (pts.map ptc)))]=some ⟨.asl 0 0 ((P.map tup4).map hp4).length,[(4,(P.map tup4).map hp4)]⟩:=by
    have e:Qab (ns.length+1-Ss 1) (Qac (0+Ss 1) (pts.map ptc))=(P.map tup4).map hp4:=by
     rw [hpe,Sw,Tj,show (0+Ss 1)=1 from rfl,Ff,Tt,Pj,show ns.length+1-Ss 1=(P.map ptc).length by rw [Rn,hPl]; omega,Qbk,Hy]
     rfl
    rw [e]
    exact Yf3 (by rw [Rn]; omega) (by rw [Rn]; omega)
   have e5:(imC (im1 h s) (fx,fy,fz) ns ns.length)[((nl ns).length:Int).toNat]?=some (pl3 (imA (im1 h s) (fx,fy,fz) ns ns.length)):=by
    rw [Rd,ll]; exact Zmn _ _ _ _
   refine Zls rfl rfl rfl rfl rfl rfl y1 (by omega) (by rw [x2]; omega) (by rw [x2]; omega) ?_
   conv=>whnf
   generalize imA (im1 h s) (fx,fy,fz) ns ns.length=q at *
   obtain ⟨qx,qy,qz⟩:=q
   repeat'(first|refine wk3 ?_|(refine wk2 ?_ ?_<;>intro _)|refine wk4 ?_|fail);all_goals(conv=>whnf)
   exact Xj [19,25] rfl rfl rfl
theorem Zw3 {r:Locs} {I:Imm} {w:World} {D:Nat->Prop} {es:Nat} {x:Value} (h:VR r I w D (.isl es []) x) (r' : Locs) (I' : Imm) (w' : World) (D' : Nat->Prop):VR r' I' w' D' (.isl es []) x:=by
 cases h with
 | isl0=>exact .isl0 _ _ _ _
 | isl _ _ _ _ _ _ h1=>exact .isl0 _ _ _ _
theorem d65f {h:Hal} (hk:h.ok) {s:Stg} (hs:s.few) {a:Ask} (e:askE h s a=0) {ns:List Int} (hl:ns.length<=4) (hi:∀ n∈ns,0<=n/\n<nsur h) :
  Zpu Tryz.prog 71 [.agg (stgL h s),a.av,.isl 1 (nl ns)] (ansP (Yf h s (qF a) (qT a) ns)):=by
 by_cases h0:0<ns.length
 ·refine Zwb (d65r hk hs (Xd e).e0 a (Xd e).f (Xd e).t h0 hl hi) ?_ ?_ ?_
  ·cases Yf h s (qF a) (qT a) ns<;>rfl
  ·show Zah (rowP (Yf h s (qF a) (qT a) ns)).blks=true
   cases Yf h s (qF a) (qT a) ns with
   | none=>rfl
   | some p=>(simp [rowP,Zah,Zp9,Zeu,nl]; exact ⟨fun _ _=>rfl,fun _ _ _ _ _=>rfl⟩)
  ·show Frz (rowP (Yf h s (qF a) (qT a) ns)).blks (rowP (Yf h s (qF a) (qT a) ns)).v _
   cases Yf h s (qF a) (qT a) ns with
   | none=>exact ⟨⟨rfl,rfl,⟨rfl,rfl⟩,trivial⟩,⟨rfl,rfl⟩,trivial⟩
   | some p=>exact ⟨⟨⟨rfl,rfl,rfl⟩,⟨rfl,rfl,rfl⟩,⟨rfl,rfl⟩,trivial⟩,⟨rfl,rfl⟩,trivial⟩
 ·obtain rfl:ns=[]:=Wb.1 (by omega)
  have hd:=(d65 hk hs (Xd e).e0 a (Xd e).f (Xd e).t hl hi).freeze (Yae _)
  obtain ⟨n,b,hv⟩:∃ n b,ansP (Yf h s (a.fx,a.fy,a.fz) (a.tx,a.ty,a.tz) []) = .tup [.agg [.isl 1 [],.isl 4 [],I n],Bo b]:=by
   cases hp:Yf h s (a.fx,a.fy,a.fz) (a.tx,a.ty,a.tz) [] with
   | none=>exact ⟨0,false,rfl⟩
   | some p =>
    have h1:=Zf8 hp
    have h2:=Zr8 hp
    obtain ⟨ss,ps,sq⟩:=p
    dsimp only at h1 h2
    subst h1
    obtain rfl:ps=[]:=Wb.1 (by simpa using h2)
    exact ⟨sq,true,rfl⟩
  show Zpu Tryz.prog 71 _ (ansP (Yf h s (a.fx,a.fy,a.fz) (a.tx,a.ty,a.tz) []))
  rw [hv] at hd ⊢
  refine ⟨hd.1,fun I w vs hI hv=>(hd.2 I w vs hI hv).mono fun e w' hh=>?_⟩
  obtain ⟨x,r',I',rfl,hp⟩:=hh
  refine ⟨x,fun _ _=>False,rfl,hp.below,fun b o h=>h.elim,?_⟩
  have hval:=hp.val
  cases hval with
  | tup _ _ vs h1 h2 =>
   refine .tup _ _ _ h1 fun i c v hc hx=>?_
   have:=h2 i c v hc hx
   match i with
   | 0 =>
    cases hc
    cases this with
    | agg _ _ vs h3 h4 =>
     refine .agg _ _ _ h3 fun i c v hc hx=>?_
     have:=h4 i c v hc hx
     match i with
     | 0=>cases hc; exact Zw3 this _ _ _ _
     | 1=>cases hc; exact Zw3 this _ _ _ _
     | 2=>cases hc; cases this; exact .int _ _ _
     | i+3=>simp at hc
   | 1=>cases hc; cases this; exact .bool _ _
   | i+2=>simp at hc
end Go.Proofs.YtfkdpbklbegnlaaGreat

namespace Go.Proofs.YtfkdpbklbegnlaaGreat
open Go Go.Sx
theorem d18 {h:Hal} (hk:h.ok) {s:Stg} (hs:s.few) (a:Ask):PCall Tryz.prog 11 [h.av,s.av,a.av] ⟨I (askE h s a),[]⟩:=by
 have hk0:=Ze (d90 hk) (Ze (c75 hk.f hs) Zb)
 by_cases e:serr h s=0
 ·have he:=Zf0 e
  have e2:setE h s=0:=by unfold serr at e; rw [if_pos he] at e; exact e
  obtain ⟨fx,fy,fz,tx,ty,tz,n⟩:=a
  unfold askE
  rw [if_pos e]
  rw [he,e2] at hk0
  dsimp only
  have hk1:=Yg7 hk he (Ze (d68 n) hk0)
  have q1:=Zme h fx fy fz
  have q2:=Zme h tx ty tz
  simp only [fstL]
  refine bs.pv (sx:=nos) hk1 Tryz.func11 (by kernel_rfl) (by kernel_rfl) rfl ?_
  clear hk1 hk0
  repeat'(first|refine wk3 ?_|(refine wk2 ?_ ?_<;>intro _)|refine wk4 ?_|fail);all_goals(conv=>whnf)
  all_goals first
   | (refine Za ?_; simp_all [Ask.same,unl]; done)
   | (refine Za ?_; clear q1 q2; cases hw:within n 0 4<;>by_cases c1:fx=tx<;>by_cases c2:fy=ty<;>by_cases c3:fz=tz<;>simp_all [Ask.same,unl]<;>done)
   | (exfalso; simp_all; done)
 ·rw [show askE h s a=serr h s by unfold askE; rw [if_neg e]]
  unfold serr at e ⊢
  refine bs.pv (sx:=nos) hk0 Tryz.func11 (by kernel_rfl) (by kernel_rfl) rfl ?_
  clear hk0
  repeat'(first|refine wk3 ?_|(refine wk2 ?_ ?_<;>intro _)|refine wk4 ?_|fail);all_goals(conv=>whnf)
  all_goals first
   | (refine Za ?_; simp_all; done)
   | (exfalso; simp_all; done)
theorem Zvs (p:Pth):same p p=true:=same_iff.2 rfl
def chkP (h:Hal) (s:Stg) (a:Ask) (p:Pth):Int:=match Yf h s (qF a) (qT a) p.ss with
 | none=>20
 | some q=>if q.sq=p.sq/\eqP q.ps p.ps=true then 0 else 20
def cpE (h:Hal) (s:Stg) (a:Ask) (p:Pth):Int:=if pthE p=0 then (if suE h p.ss=0 then (if (p.ss.length:Int)<=a.n then chkP h s a p else 2) else suE h p.ss) else pthE p
def cmpI (a b:Int):Int:=if a<b then -1 else if b<a then 1 else 0
def cmpL:List Int->List Int->Int
 | [],[]=>0
 | [],_::_=>-1
 | _::_,[]=>1
 | x::a,y::b=>if cmpI x y=0 then cmpL a b else cmpI x y
def ordP (a b:Pth):Int:=fstL [cmpI a.sq b.sq,cmpI a.ss.length b.ss.length,cmpL a.ss b.ss]
theorem Yjg (n:Int):PCall Tryz.prog 189 [I n] ⟨Bo false,[]⟩:=by
 refine bs.pv (sx:=nos) Zb Tryz.func189 (by kernel_rfl) (by kernel_rfl) rfl ?_
 repeat'(first|refine wk3 ?_|(refine wk2 ?_ ?_<;>intro _)|refine wk4 ?_|fail);all_goals(conv=>whnf)
 all_goals exact Zd (by simp)
def Yg8:List AV->Option PRes
 | [.int .i64 _]=>some ⟨Bo false,[]⟩
 | _=>none
theorem Yag {pt:PC} (h:PCOK Tryz.prog pt):PCOK Tryz.prog (ins 189 Yg8 pt):=Zh (fun a res h=>by unfold Yg8 at h; split at h<;>cases h; exact Yjg _) h
theorem d147 (a b:Int):PCall Tryz.prog 119 [I a,I b] ⟨I (cmpI a b),[]⟩:=by
 have key:cmpI a b=cond (decide (a<b)) (-1) (cond (decide (b<a)) 1 0):=by
  unfold cmpI
  by_cases c1:a<b
  ·simp [c1]
  ·by_cases c2:b<a<;>simp [c1,c2]
 rw [key]
 refine bs.pv (sx:=nos) (Yag Zb) Tryz.func119 (by kernel_rfl) (by kernel_rfl) rfl ?_
 repeat'(first|refine wk3 ?_|(refine wk2 ?_ ?_<;>intro _)|refine wk4 ?_|fail);all_goals(conv=>whnf)
 all_goals (refine Za ?_; clear key; generalize decide (a<b)=p at *; generalize decide (b<a)=q at *; simp_all)
def r147:List AV->Option PRes
 | [.int .i64 a,.int .i64 b]=>some ⟨I (cmpI a b),[]⟩
 | _=>none
theorem Zv4 {pt:PC} (h:PCOK Tryz.prog pt):PCOK Tryz.prog (ins 119 r147 pt):=Zh (fun a res h=>by unfold r147 at h; split at h<;>cases h; exact d147 _ _) h
theorem d148 {a b:List Int} (ha:a.length<1000000) (hb:b.length<1000000):PCall Tryz.prog 120 [.isl 1 (nl a),.isl 1 (nl b)] ⟨I (cmpL a b),[]⟩:=by
 have la:=Zl a
 have lb:=Zl b
 have hk:=Zv4 Zb
 refine bs.pv (sx:=nos) hk Tryz.func120 (by kernel_rfl) (by kernel_rfl) rfl ?_
 repeat'(first|refine wk3 ?_|(refine wk2 ?_ ?_<;>intro _)|refine wk4 ?_|fail);all_goals(conv=>whnf)
 refine Zt (S:=Nat × Int) (fun t=>a.length-t.1) (fun t=>[(0,.isl 1 (nl a)),(1,.isl 1 (nl b)),(9,.isl 1 (nl a)),(10,I (nl a).length),(11,I t.2)]) (fun _=>[]) 0 0
  (fun t=>t.2=t.1/\t.1<=a.length/\t.1<=b.length/\cmpL (a.drop t.1) (b.drop t.1)=cmpL a b) (0,0) ⟨rfl,Qm _,Qm _,rfl⟩ (Qd _) [] rfl (kps) (kps) ?_
 rintro ⟨k,i⟩ ⟨hi,h1,h2,hh⟩
 dsimp only at hi h1 h2 hh ⊢
 subst hi
 generalize cmpL a b=R at *
 refine bs.av (sx:=nos) hk ?_
 by_cases c1:k<a.length
 ·have e1:=Vo c1
  by_cases c2:k<b.length
  ·have e2:=Vo c2
   rw [Qi c1,Qi c2,cmpL] at hh
   generalize a[k]=x at *
   generalize b[k]=y at *
   generalize hz:cmpI x y=z at *
   have hz2:r147 [I x,I y]=some ⟨I z,[]⟩:=by rw [<-hz]; rfl
   by_cases c3:z=0
   ·rw [if_pos c3] at hh
    repeat'(first|refine wk3 ?_|(refine wk2 ?_ ?_<;>intro _)|refine wk4 ?_|fail);all_goals(conv=>whnf)
    all_goals first
     | (exfalso; clear hk; simp_all; done)
     | exact Qo ⟨(k+1,_),[],rfl,kps,kps,⟨Zg (by omega),c1,c2,hh⟩,by dsimp only; omega⟩
   ·rw [if_neg c3] at hh
    subst hh
    repeat'(first|refine wk3 ?_|(refine wk2 ?_ ?_<;>intro _)|refine wk4 ?_|fail);all_goals(conv=>whnf)
    all_goals first
     | exact Za (by assumption)
     | exact Za rfl
     | (exfalso; clear hk; simp_all; done)
  ·rw [Qi c1,show b.drop k=[] from Qk (by omega),cmpL] at hh
   subst hh
   repeat'(first|refine wk3 ?_|(refine wk2 ?_ ?_<;>intro _)|refine wk4 ?_|fail);all_goals(conv=>whnf)
   exact Za rfl
 ·rw [show a.drop k=[] from Qk (by omega)] at hh
  by_cases c2:k<b.length
  ·rw [Qi c2,cmpL] at hh
   subst hh
   repeat'(first|refine wk3 ?_|(refine wk2 ?_ ?_<;>intro _)|refine wk4 ?_|fail);all_goals(conv=>whnf)
   exact Za rfl
  ·rw [Qk (by omega),cmpL] at hh
   subst hh
   repeat'(first|refine wk3 ?_|(refine wk2 ?_ ?_<;>intro _)|refine wk4 ?_|fail);all_goals(conv=>whnf)
   exact Za rfl
noncomputable abbrev r148:List AV->Option PRes:=famA (fun q:List Int × List Int=>q.1.length<1000000/\q.2.length<1000000) (fun q=>[.isl 1 (nl q.1),.isl 1 (nl q.2)]) (fun q=>⟨I (cmpL q.1 q.2),[]⟩)
theorem Yel {pt:PC} (hp:PCOK Tryz.prog pt):PCOK Tryz.prog (ins 120 r148 pt):=Ya (fun q hq=>d148 hq.1 hq.2) hp
theorem Yah {a b:List Int} (h1:a.length<1000000) (h2:b.length<1000000):r148 [.isl 1 (nl a),.isl 1 (nl b)]=some ⟨I (cmpL a b),[]⟩ :=
 Zm (p:=fun q:List Int × List Int=>q.1.length<1000000/\q.2.length<1000000) (g:=fun q=>[.isl 1 (nl q.1),.isl 1 (nl q.2)]) (r:=fun q=>⟨I (cmpL q.1 q.2),[]⟩) (k:=(a,b)) (fun j hj=>by
  simp only [Qs,Wa,true_and,and_true] at hj
  rw [Ze0 hj.1,Ze0 hj.2]) ⟨h1,h2⟩
theorem d146 {l:List Int} (hl:l.length<1000):PCall Tryz.prog 118 [.isl 1 (nl l)] ⟨I (fstL l),[]⟩:=by
 have ll:=Zl l
 refine bs.pv (sx:=nos) Zb Tryz.func118 (by kernel_rfl) (by kernel_rfl) rfl ?_
 repeat'(first|refine wk3 ?_|(refine wk2 ?_ ?_<;>intro _)|refine wk4 ?_|fail);all_goals(conv=>whnf)
 refine Zt (S:=Nat × Int) (fun t=>l.length-t.1) (fun t=>[(3,I 0),(6,.isl 1 (nl l)),(7,I (nl l).length),(8,I t.2)]) (fun _=>[]) 0 0
  (fun t=>t.2=t.1/\t.1<=l.length/\fstL (l.drop t.1)=fstL l) (0,0) ⟨rfl,Qm _,rfl⟩ (Qd _) [] rfl (kps) (kps) ?_
 rintro ⟨k,i⟩ ⟨hi,hk,hh⟩
 dsimp only at hi hk hh ⊢
 subst hi
 generalize fstL l=R at *
 refine bs.av (sx:=nos) Zb ?_
 by_cases hlt:k<l.length
 ·have e1:=Vo hlt
  rw [Qi hlt,fstL] at hh
  generalize l[k]=x at *
  by_cases c:x=0
  ·rw [if_neg (fun q=>q c)] at hh
   repeat'(first|refine wk3 ?_|(refine wk2 ?_ ?_<;>intro _)|refine wk4 ?_|fail);all_goals(conv=>whnf)
   all_goals first
    | (exfalso; simp_all; done)
    | exact Qo ⟨(k+1,_),[],rfl,kps,kps,⟨Zg (by omega),hlt,hh⟩,by dsimp only; omega⟩
  ·rw [if_pos c] at hh
   subst hh
   repeat'(first|refine wk3 ?_|(refine wk2 ?_ ?_<;>intro _)|refine wk4 ?_|fail);all_goals(conv=>whnf)
   all_goals first
    | exact Za rfl
    | (exfalso; simp_all; done)
 ·rw [Qk (by omega),fstL] at hh
  subst hh
  repeat'(first|refine wk3 ?_|(refine wk2 ?_ ?_<;>intro _)|refine wk4 ?_|fail);all_goals(conv=>whnf)
  exact Za rfl
noncomputable abbrev rOr:List AV->Option PRes:=famA (fun l:List Int=>l.length<1000) (fun l=>[.isl 1 (nl l)]) (fun l=>⟨I (fstL l),[]⟩)
theorem Ygw {pt:PC} (hp:PCOK Tryz.prog pt):PCOK Tryz.prog (ins 118 rOr pt):=Ya (fun l hl=>d146 hl) hp
theorem Yef {l:List Int} (h:l.length<1000):rOr [.isl 1 (nl l)]=some ⟨I (fstL l),[]⟩ :=
 Zm (p:=fun l:List Int=>l.length<1000) (g:=fun l=>[.isl 1 (nl l)]) (r:=fun l=>⟨I (fstL l),[]⟩) (fun j hj=>by
  simp only [Qs,Wa,true_and,and_true] at hj
  rw [Ze0 hj]) h
theorem d115 {a b:Pth} (ha:a.ss.length<1000000) (hb:b.ss.length<1000000):PCall Tryz.prog 73 [a.av,b.av] ⟨I (ordP a b),[]⟩:=by
 obtain ⟨s1,p1,q1⟩:=a
 obtain ⟨s2,p2,q2⟩:=b
 dsimp only at ha hb
 have l1:=Zl s1
 have l2:=Zl s2
 have e1:=Yah ha hb
 have e2:=Yef (l:=[cmpI q1 q2,cmpI ((nl s1).length:Int) ((nl s2).length:Int),cmpL s1 s2]) (by simp)
 unfold ordP
 dsimp only
 rw [<-l1,<-l2]
 refine bs.pv (sx:=nos) (Zv4 (Yel (Ygw Zb))) Tryz.func73 (by kernel_rfl) (by kernel_rfl) rfl ?_
 repeat'(first|refine wk3 ?_|(refine wk2 ?_ ?_<;>intro _)|refine wk4 ?_|fail);all_goals(conv=>whnf)
 exact Za rfl
theorem Vs (a b:Int):(a<b/\cmpI a b = -1)\/(a=b/\cmpI a b=0)\/(b<a/\cmpI a b=1):=by
 unfold cmpI
 split
 ·exact .inl ⟨‹_›,rfl⟩
 ·split
  ·exact .inr (.inr ⟨‹_›,rfl⟩)
  ·exact .inr (.inl ⟨by omega,rfl⟩)
theorem Zph:∀ a:List Int,cmpL a a=0
 | []=>rfl
 | x::a=>by
  have:cmpI x x=0:=by rcases Vs x x with h|h|h<;>omega
  rw [cmpL,if_pos this,Zph a]
theorem Zpi:∀ a b:List Int,cmpL b a = -cmpL a b
 | [],[]=>rfl
 | [],_::_=>rfl
 | _::_,[]=>rfl
 | x::a,y::b=>by
  rw [cmpL,cmpL,Zpi a b]
  rcases Vs x y with h|h|h<;>rcases Vs y x with k|k|k<;>rw [h.2,k.2]<;>first|rfl|omega
theorem Zpg:∀ {a b:List Int},cmpL a b=0->a=b
 | [],[],_=>rfl
 | [],_::_,h=>by cases h
 | _::_,[],h=>by cases h
 | x::a,y::b,h=>by
  rw [cmpL] at h
  rcases Vs x y with k|k|k
  ·rw [k.2] at h; simp at h
  ·rw [k.2] at h; rw [k.1,Zpg (a:=a) (b:=b) (by simpa using h)]
  ·rw [k.2] at h; simp at h
theorem Zlp:∀ {a b c:List Int},cmpL a b<=0->cmpL b c<=0->cmpL a c<=0
 | [],_,[],_,_=>by simp [cmpL]
 | [],_,_::_,_,_=>by simp [cmpL]
 | x::a,[],c,h,_=>by simp [cmpL] at h
 | x::a,y::b,[],_,h=>by simp [cmpL] at h
 | x::a,y::b,z::c,h1,h2=>by
  rw [cmpL] at h1 h2 ⊢
  rcases Vs x y with k|k|k<;>rcases Vs y z with m|m|m<;>rcases Vs x z with n|n|n<;>rw [k.2] at h1<;>rw [m.2] at h2<;>rw [n.2]
  all_goals simp at h1 h2 ⊢
  all_goals first
   | omega
   | exact Zlp h1 h2
abbrev ordK (p:Pth):List Int:=p.sq::(p.ss.length:Int)::p.ss
theorem Zdt (a b:Pth):ordP a b=cmpL (ordK a) (ordK b):=by
 unfold ordP ordK
 simp only [fstL,cmpL]
 by_cases c1:cmpI a.sq b.sq=0<;>by_cases c2:cmpI a.ss.length b.ss.length=0<;>by_cases c3:cmpL a.ss b.ss=0<;>simp [c1,c2,c3]
theorem Zwf (a:Pth):ordP a a=0:=by rw [Zdt,Zph]
theorem Za0 (a b:Pth):ordP b a = -ordP a b:=by rw [Zdt,Zdt,Zpi]
theorem Zee {a b c:Pth} (h1:ordP a b<=0) (h2:ordP b c<=0):ordP a c<=0:=by rw [Zdt] at *; exact Zlp h1 h2
theorem Znx {a b:Pth} (h:ordP a b=0):a.sq=b.sq/\a.ss=b.ss:=by
 rw [Zdt] at h
 have:=Zpg h
 simp only [ordK,Qs] at this
 exact ⟨this.1,this.2.2⟩
theorem Yap:Go.Sort.SWO (Go.Proofs.ltOf ordP):=by
 refine ⟨fun x=>?_,fun x y z h1 h2=>?_,fun x y z h1 h2=>?_⟩
 ·simp [ltOf,Zwf]
 ·simp only [ltOf,decide_eq_true_eq] at *
  have h:=Zee (Ro h1) (Ro h2)
  rcases Int.lt_or_eq_of_le h with h|h
  ·exact h
  ·obtain ⟨e1,e2⟩:=Znx h
   have:ordP x y=ordP z y:=by rw [Zdt,Zdt]; unfold ordK; rw [e1,e2]
   have:=Za0 y z
   omega
 ·simp only [ltOf,decide_eq_false_iff_not,Int.not_lt] at *
  have a1:=Za0 x y
  have a2:=Za0 y z
  have a3:=Za0 x z
  have:=Zee (a:=z) (b:=y) (c:=x) (by omega) (by omega)
  omega
theorem Znc {G:Pth->Prop} (hG:∀ a b,G a->G b->a.ss=b.ss->a=b):∀ {l m:List Pth},l.Perm m->(∀ a∈l,G a)->l.Pairwise (fun a b=>ordP a b<=0)->m.Pairwise (fun a b=>ordP a b<=0)->l=m
 | [],m,hp,_,_,_=>by rw [List.nil_perm.1 hp]
 | a::l,[],hp,_,_,_=>by have:=hp.length_eq; simp at this
 | a::l,b::m,hp,hg,h1,h2=>by
  have hab:a=b:=by
   by_cases c:a=b
   ·exact c
   ·have hb:b∈a::l:=hp.symm.subset (by simp)
    have ha:a∈b::m:=hp.subset (by simp)
    rw [Rf] at ha hb
    have q1:=(Wc.1 h1).1 b (by rcases hb with h|h; exact absurd h.symm c; exact h)
    have q2:=(Wc.1 h2).1 a (by rcases ha with h|h; exact absurd h c; exact h)
    have q3:=Za0 a b
    have q4:=Znx (a:=a) (b:=b) (by omega)
    exact hG a b (hg a (by simp)) (hg b (hp.symm.subset (by simp))) q4.2
  subst hab
  rw [Znc hG (List.perm_cons a |>.1 hp) (fun x hx=>hg x (by simp [hx])) (Wc.1 h1).2 (Wc.1 h2).2]
def putM (p:Pth) (l:List Pth):Nat->Nat
 | 0=>0
 | m+1=>match l[m]? with
  | some x=>if ordP p x<0 then putM p l m else m+1
  | none=>m+1
def putL (l:List Pth) (p:Pth):List Pth:=l.take (putM p l l.length)++p::l.drop (putM p l l.length)
theorem Zv7 (p:Pth) (l:List Pth):∀ m,putM p l m<=m
 | 0=>Qd _
 | m+1=>by
  rw [putM]
  split
  ·split
   ·exact Nat.le_trans (Zv7 p l m) (Nat.le_succ _)
   ·exact Qd _
  ·exact Qd _
theorem Zv8 (l:List Pth) (p:Pth):(putL l p).Perm (p::l):=by
 unfold putL
 refine List.perm_middle.trans ?_
 rw [List.take_append_drop]
theorem Znu (p:Pth) (l:List Pth):∀ m,m<=l.length->(∀ j (h:j<l.length),putM p l m<=j->j<m->ordP p l[j]<0)/\(∀ j (h:j<l.length),j+1=putM p l m -> ¬ ordP p l[j]<0)
 | 0,_=>⟨fun j h h1 h2=>by omega,fun j h h1=>by simp [putM] at h1⟩
 | m+1,hm=>by
  have hml:m<l.length:=by omega
  rw [putM,Qf hml]
  dsimp only
  by_cases c:ordP p l[m]<0
  ·rw [if_pos c]
   obtain ⟨q1,q2⟩:=Znu p l m (by omega)
   refine ⟨fun j h h1 h2=>?_,q2⟩
   by_cases e:j=m
   ·subst e; exact c
   ·exact q1 j h h1 (by omega)
  ·rw [if_neg c]
   refine ⟨fun j h h1 h2=>by omega,fun j h h1=>?_⟩
   have:j=m:=by omega
   subst this; exact c
theorem Zqe {l:List Pth} {p:Pth} (hs:l.Pairwise (fun a b=>ordP a b<=0)):(putL l p).Pairwise (fun a b=>ordP a b<=0):=by
 have hle:=Zv7 p l l.length
 obtain ⟨q1,q2⟩:=Znu p l l.length (Qd _)
 unfold putL
 generalize putM p l l.length=m at *
 rw [List.pairwise_append]
 have hgt:∀ x∈l.drop m,ordP p x<=0:=fun x hx=>by
  obtain ⟨i,hi,rfl⟩:=Ov.1 hx
  rw [List.length_drop] at hi
  rw [List.getElem_drop]
  exact Ro (q1 (m+i) (by omega) (by omega) (by omega))
 have hlt:∀ x∈l.take m,ordP x p<=0:=fun x hx=>by
  obtain ⟨i,hi,rfl⟩:=Ov.1 hx
  rw [List.length_take] at hi
  rw [List.getElem_take]
  have h1:=q2 (m-1) (by omega) (by omega)
  have h2:=Za0 (l[m-1]'(by omega)) p
  have h3:ordP (l[m-1]'(by omega)) p<=0:=by omega
  by_cases e:i=m-1
  ·subst e; exact h3
  ·exact Zee (List.pairwise_iff_getElem.1 hs i (m-1) (by omega) (by omega) (by omega)) h3
 refine ⟨hs.sublist (List.take_sublist _ _),?_,fun a ha b hb=>?_⟩
 ·rw [Wc]
  exact ⟨hgt,hs.sublist (List.drop_sublist _ _)⟩
 ·rcases Rf.1 hb with rfl|hb
  ·exact hlt a ha
  ·exact Zee (hlt a ha) (hgt b hb)
def rngI (k n:Nat):List Int:=(List.range' k (n-k)).map fun (i:Nat)=>(i:Int)
theorem Zdk {k n:Nat} (h:k<n):rngI k n=(k:Int)::rngI (k+1) n:=by
 unfold rngI
 rw [show n-k=(n-(k+1))+1 by omega,List.range'_succ]
 rfl
theorem Zf3 {k n:Nat} (h:n<=k):rngI k n=[]:=by
 unfold rngI
 rw [show n-k=0 by omega]
 rfl
def wlk (n:Nat):Nat->List Int->List (List Int)
 | 0,L=>[L]
 | o+1,L=>L::(rngI 0 n).flatMap fun i=>if L.getLast?=some i then [] else wlk n o (L++[i])
def nl1 (ns:List Int):List (List AV):=ns.map fun n=>[I n]
abbrev lsX (l:List (List Int)):List (List AV):=l.map fun L=>[.isl 1 (nl1 L)]
def Xh:FuncId->Bool:=fun f=>Qn f 110
theorem Yfb (n:Nat) (hn:n<1000):Zpv Tryz.prog 109 [] [.ipt [I 0],.ipt [I (n:Int)]] (lsX (wlk n 0 [])):=by
 refine bs.titer (sx:=Xh) Zb Tryz.func109 (by kernel_rfl) rfl (by kernel_rfl) fun B Ig l JX hI=>?_
 conv=>whnf
 refine bs.ysv (sx:=Xh) Zb hI Tryz.func110 (by kernel_rfl) rfl (by kernel_rfl) ?_
 conv=>whnf
 refine Gk ⟨rfl,rfl,⟨_,_,rfl,.inr ⟨rfl,_,rfl⟩,trivial⟩,(fun h=>by cases h),?_,?_⟩
 ·repeat'(first|refine wk3 ?_|(refine wk2 ?_ ?_<;>intro _)|refine wk4 ?_|fail);all_goals(conv=>whnf)
  exact Qo (.inl rfl)
 ·repeat'(first|refine wk3 ?_|(refine wk2 ?_ ?_<;>intro _)|refine wk4 ?_|fail);all_goals(conv=>whnf)
  exact Qo (.inr rfl)
def w1Z (l:Nat) (f:AV):Nat->List (List AV)->List (Nat × ABlk)
 | 0,_=>[(2,.row 1 [[f]] true false),(1,.row 1 [[.nils]] true false),(0,.row 1 [[.yld l]] true false)]
 | _+1,A=>[(3,.row 1 A true true),(2,.row 1 [[f]] true false),(1,.row 1 [[.asl 3 0 0]] true false),(0,.row 1 [[.yld l]] true false)]
theorem Yfa (n:Nat) (hn:n<1000):Zpv Tryz.prog 109 [] [.ipt [I 1],.ipt [I (n:Int)]] (lsX (wlk n 1 [])):=by
 refine bs.titer (sx:=Xh) Zb Tryz.func109 (by kernel_rfl) rfl (by kernel_rfl) fun B Ig l JX hI=>?_
 conv=>whnf
 refine bs.ysv (sx:=Xh) Zb hI Tryz.func110 (by kernel_rfl) rfl (by kernel_rfl) ?_
 conv=>whnf
 refine Gk ⟨rfl,rfl,⟨_,_,rfl,.inr ⟨rfl,_,rfl⟩,trivial⟩,(fun h=>by cases h),?_,?_⟩
 ·conv=>whnf
  refine Zwu (S:=Nat × Int × Nat × List (List AV)) (fun t=>n-t.1) (fun t=>[(0,.ptr 0 0 0),(1,.ptr 1 0 0),(2,.ipt [I 1]),(3,.ipt [I (n:Int)]),(4,.ptr 2 0 0),(15,I (n:Int)),(16,I t.2.1)]) (fun t=>w1Z l (.func 110 [] [.ptr 0 0 0,.ptr 1 0 0,.ipt [I 1],.ipt [I (n:Int)],.ptr 2 0 0]) t.2.2.1 t.2.2.2)
   (fun t=>some (lsX ((rngI t.1 n).flatMap fun i=>wlk n 0 [i]))) 3 (fun t=>match t.2.2.1 with
   | 0=>3
   | _=>4) (fun t=>t.2.1=t.1/\t.1<=n/\(t.2.2.1≠0->∃ c,t.2.2.2=[[c]])) (0,0,0,[]) ⟨rfl,Qm _,fun h=>absurd rfl h⟩ (Qd _) rfl [] rfl (kps) (kps) ?_
  rintro ⟨k,i,m,A⟩ ⟨hi,hk,hA⟩
  dsimp only at hi hk hA
  subst hi
  by_cases hlt:k<n
  ·have hw:Qa Qb ((k:Int)+1)=((k+1:Nat):Int):=W_eq (by omega) (by omega)
   dsimp only
   rw [Zdk hlt]
   cases m with
   | zero =>
    refine bs.yv Zb hI (sx:=Xh) ?_
    repeat'(first|refine wk3 ?_|(refine wk2 ?_ ?_<;>intro _)|refine wk4 ?_|fail);all_goals(conv=>whnf)
    refine bs.ysv (sx:=Xh) Zb hI Tryz.func110 (by kernel_rfl) rfl (by kernel_rfl) ?_
    conv=>whnf
    refine Gk ⟨rfl,rfl,.same rfl,(fun h=>by cases h),?_,?_⟩
    ·conv=>whnf
     repeat'(first|refine wk3 ?_|(refine wk2 ?_ ?_<;>intro _)|refine wk4 ?_|fail);all_goals(conv=>whnf)
     exact Qo ⟨(k+1,Qa Qb ((k:Int)+1),1,[[I k]]),[(3,4)],rfl,kps,kps,rfl,⟨hw,by omega,fun _=>⟨_,rfl⟩⟩,by dsimp only; omega⟩
    ·repeat'(first|refine wk3 ?_|(refine wk2 ?_ ?_<;>intro _)|refine wk4 ?_|fail);all_goals(conv=>whnf)
     exact Qo (.inr rfl)
   | succ m =>
    obtain ⟨c,rfl⟩:=hA (by simp)
    have hfit:=Hl
    refine bs.yv Zb hI (sx:=Xh) ?_
    repeat'(first|refine wk3 ?_|(refine wk2 ?_ ?_<;>intro _)|refine wk4 ?_|fail);all_goals(conv=>whnf)
    refine bs.ysv (sx:=Xh) Zb hI Tryz.func110 (by kernel_rfl) rfl (by kernel_rfl) ?_
    conv=>whnf
    refine Gk ⟨rfl,rfl,.same rfl,(fun h=>by cases h),?_,?_⟩
    ·conv=>whnf
     repeat'(first|refine wk3 ?_|(refine wk2 ?_ ?_<;>intro _)|refine wk4 ?_|fail);all_goals(conv=>whnf)
     exact Qo ⟨(k+1,Qa Qb ((k:Int)+1),m+1,[[I k]]),[(3,3)],rfl,kps,kps,rfl,⟨hw,by omega,fun _=>⟨_,rfl⟩⟩,by dsimp only; omega⟩
    ·repeat'(first|refine wk3 ?_|(refine wk2 ?_ ?_<;>intro _)|refine wk4 ?_|fail);all_goals(conv=>whnf)
     exact Qo (.inr rfl)
  ·dsimp only
   rw [Zf3 (by omega)]
   cases m with
   | zero =>
    refine bs.yv Zb hI (sx:=Xh) ?_
    repeat'(first|refine wk3 ?_|(refine wk2 ?_ ?_<;>intro _)|refine wk4 ?_|fail);all_goals(conv=>whnf)
    exact Qo (.inl rfl)
   | succ m =>
    refine bs.yv Zb hI (sx:=Xh) ?_
    repeat'(first|refine wk3 ?_|(refine wk2 ?_ ?_<;>intro _)|refine wk4 ?_|fail);all_goals(conv=>whnf)
    exact Qo (.inl rfl)
 ·repeat'(first|refine wk3 ?_|(refine wk2 ?_ ?_<;>intro _)|refine wk4 ?_|fail);all_goals(conv=>whnf)
  exact Qo (.inr rfl)
def w2Z (l:Nat) (f:AV) (a b:AV):Nat->List (Nat × ABlk)
 | 0=>[(2,.row 1 [[f]] true false),(1,.row 1 [[.nils]] true false),(0,.row 1 [[.yld l]] true false)]
 | 1=>[(3,.row 1 [[a]] true true),(2,.row 1 [[f]] true false),(1,.row 1 [[.asl 3 0 0]] true false),(0,.row 1 [[.yld l]] true false)]
 | _+2=>[(3,.row 1 [[a],[b]] true true),(2,.row 1 [[f]] true false),(1,.row 1 [[.asl 3 0 0]] true false),(0,.row 1 [[.yld l]] true false)]
abbrev fn2 (n:Nat):AV:=.func 110 [] [.ptr 0 0 0,.ptr 1 0 0,.ipt [I 2],.ipt [I (n:Int)],.ptr 2 0 0]
def w3Z (l:Nat) (f:AV) (a b:AV) (rI:Nat):Nat->List (Nat × ABlk)
 | 0=>[(rI,.row 1 [[a]] true true),(2,.row 1 [[f]] true false),(1,.row 1 [[.asl rI 0 1]] true false),(0,.row 1 [[.yld l]] true false)]
 | _+1=>[(5,.row 1 [[a],[b]] true true),(2,.row 1 [[f]] true false),(1,.row 1 [[.asl 5 0 1]] true false),(0,.row 1 [[.yld l]] true false)]
def w4Z (l:Nat) (f:AV) (a b:AV):List (Nat × ABlk):=[(3,.row 1 [[a],[b]] true true),(2,.row 1 [[f]] true false),(1,.row 1 [[.asl 3 0 1]] true false),(0,.row 1 [[.yld l]] true false)]
theorem wl2 (n k:Nat):wlk n 1 [(k:Int)]=[(k:Int)]::(rngI 0 n).flatMap fun j=>if (k:Int)=j then [] else [[(k:Int),j]]:=by
 simp [wlk]
theorem Ye9 (n:Nat) (hn:n<1000):Zpv Tryz.prog 109 [] [.ipt [I 2],.ipt [I (n:Int)]] (lsX (wlk n 2 [])):=by
 refine bs.titer (sx:=Xh) Zb Tryz.func109 (by kernel_rfl) rfl (by kernel_rfl) fun B Ig l JX hI=>?_
 conv=>whnf
 refine bs.ysv (sx:=Xh) Zb hI Tryz.func110 (by kernel_rfl) rfl (by kernel_rfl) ?_
 conv=>whnf
 refine Gk ⟨rfl,rfl,⟨_,_,rfl,.inr ⟨rfl,_,rfl⟩,trivial⟩,(fun h=>by cases h),?_,?_⟩
 ·conv=>whnf
  refine Zwu (S:=Nat × Int × Nat × AV × AV) (fun t=>n-t.1) (fun t=>[(0,.ptr 0 0 0),(1,.ptr 1 0 0),(2,.ipt [I 2]),(3,.ipt [I (n:Int)]),(4,.ptr 2 0 0),(15,I (n:Int)),(16,I t.2.1)]) (fun t=>w2Z l (fn2 n) t.2.2.2.1 t.2.2.2.2 t.2.2.1)
   (fun t=>some (lsX ((rngI t.1 n).flatMap fun i=>wlk n 1 [i]))) 3 (fun t=>match t.2.2.1 with
   | 0=>3
   | _=>4) (fun t=>t.2.1=t.1/\t.1<=n) (0,0,0,I 0,I 0) ⟨rfl,Qm _⟩ (Qd _) rfl [] rfl (kps) (kps) ?_
  rintro ⟨k,i,m,a,b⟩ ⟨hi,hk⟩
  dsimp only at hi hk
  subst hi
  by_cases hlt:k<n
  ·have hw:Qa Qb ((k:Int)+1)=((k+1:Nat):Int):=W_eq (by omega) (by omega)
   dsimp only
   rw [Zdk hlt,Sm,wl2]
   rcases m with _|_|m
   ·refine bs.yv Zb hI (sx:=Xh) ?_
    repeat'(first|refine wk3 ?_|(refine wk2 ?_ ?_<;>intro _)|refine wk4 ?_|fail);all_goals(conv=>whnf)
    refine bs.ysv (sx:=Xh) Zb hI Tryz.func110 (by kernel_rfl) rfl (by kernel_rfl) ?_
    conv=>whnf
    refine Gk ⟨rfl,rfl,.same rfl,(fun h=>by cases h),?_,?_⟩
    ·conv=>whnf
     repeat'(first|refine wk3 ?_|(refine wk2 ?_ ?_<;>intro _)|refine wk4 ?_|fail);all_goals(conv=>whnf)
     refine Zwu (S:=Nat × Int × Nat × AV) (fun t=>n-t.1) (fun t=>[(0,.ptr 0 0 0),(1,.ptr 1 0 0),(2,.ipt [I 2]),(3,.ipt [I (n:Int)]),(4,.ptr 2 0 0),(15,I (n:Int)),(16,I t.2.1)]) (fun t=>w3Z l (fn2 n) (I k) t.2.2.2 4 t.2.2.1)
      (fun t=>some (lsX (((rngI t.1 n).flatMap fun j=>if (k:Int)=j then [] else [[(k:Int),j]])++(rngI (k+1) n).flatMap fun i=>wlk n 1 [i]))) 5 (fun t=>match t.2.2.1 with
       | 0=>5
       | _=>6) (fun t=>t.2.1=t.1/\t.1<=n) (0,0,0,I 0) ⟨rfl,Qm _⟩ (Qd _) rfl [] rfl (kps) (kps) ?_
     rintro ⟨j,i,q,b'⟩ ⟨hi,hj⟩
     dsimp only at hi hj
     subst hi
     by_cases hl2:j<n
     ·have hw2:Qa Qb ((j:Int)+1)=((j+1:Nat):Int):=W_eq (by omega) (by omega)
      dsimp only
      rw [Zdk hl2,Sm]
      by_cases hkj:(k:Int)=(j:Int)
      ·rw [if_pos hkj,Tl]
       rcases q with _|q
       ·refine bs.yv Zb hI (sx:=Xh) ?_
        repeat'(first|refine wk3 ?_|(refine wk2 ?_ ?_<;>intro _)|refine wk4 ?_|fail);all_goals(conv=>whnf)
        exact Qo ⟨(j+1,Qa Qb ((j:Int)+1),0,b'),[],rfl,kps,kps,rfl,⟨hw2,by omega⟩,by dsimp only; omega⟩
       ·refine bs.yv Zb hI (sx:=Xh) ?_
        repeat'(first|refine wk3 ?_|(refine wk2 ?_ ?_<;>intro _)|refine wk4 ?_|fail);all_goals(conv=>whnf)
        exact Qo ⟨(j+1,Qa Qb ((j:Int)+1),q+1,b'),[(5,5)],rfl,kps,kps,rfl,⟨hw2,by omega⟩,by dsimp only; omega⟩
      ·rw [if_neg hkj]
       rcases q with _|q
       ·refine bs.yv Zb hI (sx:=Xh) ?_
        repeat'(first|refine wk3 ?_|(refine wk2 ?_ ?_<;>intro _)|refine wk4 ?_|fail);all_goals(conv=>whnf)
        refine bs.ysv (sx:=Xh) Zb hI Tryz.func110 (by kernel_rfl) rfl (by kernel_rfl) ?_
        conv=>whnf
        refine Gk ⟨rfl,rfl,.same rfl,(fun h=>by cases h),?_,?_⟩
        ·conv=>whnf
         repeat'(first|refine wk3 ?_|(refine wk2 ?_ ?_<;>intro _)|refine wk4 ?_|fail);all_goals(conv=>whnf)
         exact Qo ⟨(j+1,Qa Qb ((j:Int)+1),1,I j),[(5,6)],rfl,kps,kps,rfl,⟨hw2,by omega⟩,by dsimp only; omega⟩
        ·repeat'(first|refine wk3 ?_|(refine wk2 ?_ ?_<;>intro _)|refine wk4 ?_|fail);all_goals(conv=>whnf)
         exact Qo (.inr rfl)
       ·have hfit:=Hl
        refine bs.yv Zb hI (sx:=Xh) ?_
        repeat'(first|refine wk3 ?_|(refine wk2 ?_ ?_<;>intro _)|refine wk4 ?_|fail);all_goals(conv=>whnf)
        refine bs.ysv (sx:=Xh) Zb hI Tryz.func110 (by kernel_rfl) rfl (by kernel_rfl) ?_
        conv=>whnf
        refine Gk ⟨rfl,rfl,.same rfl,(fun h=>by cases h),?_,?_⟩
        ·conv=>whnf
         repeat'(first|refine wk3 ?_|(refine wk2 ?_ ?_<;>intro _)|refine wk4 ?_|fail);all_goals(conv=>whnf)
         exact Qo ⟨(j+1,Qa Qb ((j:Int)+1),q+1,I j),[(5,5)],rfl,kps,kps,rfl,⟨hw2,by omega⟩,by dsimp only; omega⟩
        ·repeat'(first|refine wk3 ?_|(refine wk2 ?_ ?_<;>intro _)|refine wk4 ?_|fail);all_goals(conv=>whnf)
         exact Qo (.inr rfl)
     ·dsimp only
      rw [Zf3 (k:=j) (by omega),Ki,Tl]
      rcases q with _|q
      ·refine bs.yv Zb hI (sx:=Xh) ?_
       repeat'(first|refine wk3 ?_|(refine wk2 ?_ ?_<;>intro _)|refine wk4 ?_|fail);all_goals(conv=>whnf)
       exact Qo ⟨(k+1,Qa Qb ((k:Int)+1),1,I k,b),[(3,4)],rfl,kps,kps,rfl,⟨hw,by omega⟩,by dsimp only; omega⟩
      ·refine bs.yv Zb hI (sx:=Xh) ?_
       repeat'(first|refine wk3 ?_|(refine wk2 ?_ ?_<;>intro _)|refine wk4 ?_|fail);all_goals(conv=>whnf)
       exact Qo ⟨(k+1,Qa Qb ((k:Int)+1),2,I k,b'),[(3,5)],rfl,kps,kps,rfl,⟨hw,by omega⟩,by dsimp only; omega⟩
    ·repeat'(first|refine wk3 ?_|(refine wk2 ?_ ?_<;>intro _)|refine wk4 ?_|fail);all_goals(conv=>whnf)
     exact Qo (.inr rfl)
   ·have hfit:=Hl
    refine bs.yv Zb hI (sx:=Xh) ?_
    repeat'(first|refine wk3 ?_|(refine wk2 ?_ ?_<;>intro _)|refine wk4 ?_|fail);all_goals(conv=>whnf)
    clear hfit
    refine bs.ysv (sx:=Xh) Zb hI Tryz.func110 (by kernel_rfl) rfl (by kernel_rfl) ?_
    conv=>whnf
    refine Gk ⟨rfl,rfl,.same rfl,(fun h=>by cases h),?_,?_⟩
    ·conv=>whnf
     repeat'(first|refine wk3 ?_|(refine wk2 ?_ ?_<;>intro _)|refine wk4 ?_|fail);all_goals(conv=>whnf)
     refine Zwu (S:=Nat × Int × Nat × AV) (fun t=>n-t.1) (fun t=>[(0,.ptr 0 0 0),(1,.ptr 1 0 0),(2,.ipt [I 2]),(3,.ipt [I (n:Int)]),(4,.ptr 2 0 0),(15,I (n:Int)),(16,I t.2.1)]) (fun t=>w3Z l (fn2 n) (I k) t.2.2.2 3 t.2.2.1)
      (fun t=>some (lsX (((rngI t.1 n).flatMap fun j=>if (k:Int)=j then [] else [[(k:Int),j]])++(rngI (k+1) n).flatMap fun i=>wlk n 1 [i]))) 5 (fun t=>match t.2.2.1 with
       | 0=>5
       | _=>6) (fun t=>t.2.1=t.1/\t.1<=n) (0,0,0,I 0) ⟨rfl,Qm _⟩ (Qd _) rfl [] rfl (kps) (kps) ?_
     rintro ⟨j,i,q,b'⟩ ⟨hi,hj⟩
     dsimp only at hi hj
     subst hi
     by_cases hl2:j<n
     ·have hw2:Qa Qb ((j:Int)+1)=((j+1:Nat):Int):=W_eq (by omega) (by omega)
      dsimp only
      rw [Zdk hl2,Sm]
      by_cases hkj:(k:Int)=(j:Int)
      ·rw [if_pos hkj,Tl]
       rcases q with _|q
       ·refine bs.yv Zb hI (sx:=Xh) ?_
        repeat'(first|refine wk3 ?_|(refine wk2 ?_ ?_<;>intro _)|refine wk4 ?_|fail);all_goals(conv=>whnf)
        exact Qo ⟨(j+1,Qa Qb ((j:Int)+1),0,b'),[],rfl,kps,kps,rfl,⟨hw2,by omega⟩,by dsimp only; omega⟩
       ·refine bs.yv Zb hI (sx:=Xh) ?_
        repeat'(first|refine wk3 ?_|(refine wk2 ?_ ?_<;>intro _)|refine wk4 ?_|fail);all_goals(conv=>whnf)
        exact Qo ⟨(j+1,Qa Qb ((j:Int)+1),q+1,b'),[(5,5)],rfl,kps,kps,rfl,⟨hw2,by omega⟩,by dsimp only; omega⟩
      ·rw [if_neg hkj]
       rcases q with _|q
       ·refine bs.yv Zb hI (sx:=Xh) ?_
        repeat'(first|refine wk3 ?_|(refine wk2 ?_ ?_<;>intro _)|refine wk4 ?_|fail);all_goals(conv=>whnf)
        refine bs.ysv (sx:=Xh) Zb hI Tryz.func110 (by kernel_rfl) rfl (by kernel_rfl) ?_
        conv=>whnf
        refine Gk ⟨rfl,rfl,.same rfl,(fun h=>by cases h),?_,?_⟩
        ·conv=>whnf
         repeat'(first|refine wk3 ?_|(refine wk2 ?_ ?_<;>intro _)|refine wk4 ?_|fail);all_goals(conv=>whnf)
         exact Qo ⟨(j+1,Qa Qb ((j:Int)+1),1,I j),[(5,6)],rfl,kps,kps,rfl,⟨hw2,by omega⟩,by dsimp only; omega⟩
        ·repeat'(first|refine wk3 ?_|(refine wk2 ?_ ?_<;>intro _)|refine wk4 ?_|fail);all_goals(conv=>whnf)
         exact Qo (.inr rfl)
       ·have hfit:=Hl
        refine bs.yv Zb hI (sx:=Xh) ?_
        repeat'(first|refine wk3 ?_|(refine wk2 ?_ ?_<;>intro _)|refine wk4 ?_|fail);all_goals(conv=>whnf)
        refine bs.ysv (sx:=Xh) Zb hI Tryz.func110 (by kernel_rfl) rfl (by kernel_rfl) ?_
        conv=>whnf
        refine Gk ⟨rfl,rfl,.same rfl,(fun h=>by cases h),?_,?_⟩
        ·conv=>whnf
         repeat'(first|refine wk3 ?_|(refine wk2 ?_ ?_<;>intro _)|refine wk4 ?_|fail);all_goals(conv=>whnf)
         exact Qo ⟨(j+1,Qa Qb ((j:Int)+1),q+1,I j),[(5,5)],rfl,kps,kps,rfl,⟨hw2,by omega⟩,by dsimp only; omega⟩
        ·repeat'(first|refine wk3 ?_|(refine wk2 ?_ ?_<;>intro _)|refine wk4 ?_|fail);all_goals(conv=>whnf)
         exact Qo (.inr rfl)
     ·dsimp only
      rw [Zf3 (k:=j) (by omega),Ki,Tl]
      rcases q with _|q
      ·refine bs.yv Zb hI (sx:=Xh) ?_
       repeat'(first|refine wk3 ?_|(refine wk2 ?_ ?_<;>intro _)|refine wk4 ?_|fail);all_goals(conv=>whnf)
       exact Qo ⟨(k+1,Qa Qb ((k:Int)+1),1,I k,b),[(3,3)],rfl,kps,kps,rfl,⟨hw,by omega⟩,by dsimp only; omega⟩
      ·refine bs.yv Zb hI (sx:=Xh) ?_
       repeat'(first|refine wk3 ?_|(refine wk2 ?_ ?_<;>intro _)|refine wk4 ?_|fail);all_goals(conv=>whnf)
       exact Qo ⟨(k+1,Qa Qb ((k:Int)+1),2,I k,b'),[(3,5)],rfl,kps,kps,rfl,⟨hw,by omega⟩,by dsimp only; omega⟩
    ·repeat'(first|refine wk3 ?_|(refine wk2 ?_ ?_<;>intro _)|refine wk4 ?_|fail);all_goals(conv=>whnf)
     exact Qo (.inr rfl)
   ·have hfit:=Hl
    refine bs.yv Zb hI (sx:=Xh) ?_
    repeat'(first|refine wk3 ?_|(refine wk2 ?_ ?_<;>intro _)|refine wk4 ?_|fail);all_goals(conv=>whnf)
    refine bs.ysv (sx:=Xh) Zb hI Tryz.func110 (by kernel_rfl) rfl (by kernel_rfl) ?_
    conv=>whnf
    refine Gk ⟨rfl,rfl,.same rfl,(fun h=>by cases h),?_,?_⟩
    ·conv=>whnf
     repeat'(first|refine wk3 ?_|(refine wk2 ?_ ?_<;>intro _)|refine wk4 ?_|fail);all_goals(conv=>whnf)
     refine Zwu (S:=Nat × Int × AV) (fun t=>n-t.1) (fun t=>[(0,.ptr 0 0 0),(1,.ptr 1 0 0),(2,.ipt [I 2]),(3,.ipt [I (n:Int)]),(4,.ptr 2 0 0),(15,I (n:Int)),(16,I t.2.1)]) (fun t=>w4Z l (fn2 n) (I k) t.2.2)
      (fun t=>some (lsX (((rngI t.1 n).flatMap fun j=>if (k:Int)=j then [] else [[(k:Int),j]])++(rngI (k+1) n).flatMap fun i=>wlk n 1 [i]))) 5 (fun _=>5) (fun t=>t.2.1=t.1/\t.1<=n) (0,0,b) ⟨rfl,Qm _⟩ (Qd _) rfl [] rfl (kps) (kps) ?_
     rintro ⟨j,i,b'⟩ ⟨hi,hj⟩
     dsimp only at hi hj
     subst hi
     by_cases hl2:j<n
     ·have hw2:Qa Qb ((j:Int)+1)=((j+1:Nat):Int):=W_eq (by omega) (by omega)
      dsimp only
      rw [Zdk hl2,Sm]
      by_cases hkj:(k:Int)=(j:Int)
      ·rw [if_pos hkj,Tl]
       refine bs.yv Zb hI (sx:=Xh) ?_
       repeat'(first|refine wk3 ?_|(refine wk2 ?_ ?_<;>intro _)|refine wk4 ?_|fail);all_goals(conv=>whnf)
       exact Qo ⟨(j+1,Qa Qb ((j:Int)+1),b'),[],rfl,kps,kps,rfl,⟨hw2,by omega⟩,by dsimp only; omega⟩
      ·rw [if_neg hkj]
       refine bs.yv Zb hI (sx:=Xh) ?_
       repeat'(first|refine wk3 ?_|(refine wk2 ?_ ?_<;>intro _)|refine wk4 ?_|fail);all_goals(conv=>whnf)
       refine bs.ysv (sx:=Xh) Zb hI Tryz.func110 (by kernel_rfl) rfl (by kernel_rfl) ?_
       conv=>whnf
       refine Gk ⟨rfl,rfl,.same rfl,(fun h=>by cases h),?_,?_⟩
       ·conv=>whnf
        repeat'(first|refine wk3 ?_|(refine wk2 ?_ ?_<;>intro _)|refine wk4 ?_|fail);all_goals(conv=>whnf)
        exact Qo ⟨(j+1,Qa Qb ((j:Int)+1),I j),[],rfl,kps,kps,rfl,⟨hw2,by omega⟩,by dsimp only; omega⟩
       ·repeat'(first|refine wk3 ?_|(refine wk2 ?_ ?_<;>intro _)|refine wk4 ?_|fail);all_goals(conv=>whnf)
        exact Qo (.inr rfl)
     ·dsimp only
      rw [Zf3 (k:=j) (by omega),Ki,Tl]
      refine bs.yv Zb hI (sx:=Xh) ?_
      repeat'(first|refine wk3 ?_|(refine wk2 ?_ ?_<;>intro _)|refine wk4 ?_|fail);all_goals(conv=>whnf)
      exact Qo ⟨(k+1,Qa Qb ((k:Int)+1),m+2,I k,b'),[(3,3)],rfl,kps,kps,rfl,⟨hw,by omega⟩,by dsimp only; omega⟩
    ·repeat'(first|refine wk3 ?_|(refine wk2 ?_ ?_<;>intro _)|refine wk4 ?_|fail);all_goals(conv=>whnf)
     exact Qo (.inr rfl)
  ·dsimp only
   rw [Zf3 (by omega)]
   rcases m with _|_|m
   all_goals
    refine bs.yv Zb hI (sx:=Xh) ?_
    repeat'(first|refine wk3 ?_|(refine wk2 ?_ ?_<;>intro _)|refine wk4 ?_|fail);all_goals(conv=>whnf)
    exact Qo (.inl rfl)
 ·repeat'(first|refine wk3 ?_|(refine wk2 ?_ ?_<;>intro _)|refine wk4 ?_|fail);all_goals(conv=>whnf)
  exact Qo (.inr rfl)
end Go.Proofs.YtfkdpbklbegnlaaGreat
