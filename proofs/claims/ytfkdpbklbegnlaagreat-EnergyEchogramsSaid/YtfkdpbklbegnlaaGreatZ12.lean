/- A part of the proof: lemmas. -/
import Derived.Test.YtfkdpbklbegnlaaGreatZ11
import Derived.Test.YtfkdpbklbegnlaaGreatZ7
import Derived.Test.YtfkdpbklbegnlaaGreatZ10
import Derived.KernelRfl
set_option linter.unusedVariables false
set_option linter.unusedSimpArgs false
set_option maxRecDepth 100000
set_option maxHeartbeats 16000000
open Bool renaming and_assoc->Po,and_eq_true->Qc,not_eq_true'->Sz,true_and->Wo
open Classical renaming choose->Ms
open Go.IntKind renaming i64->Qb,wrap->Qa
open Go.Sx.AV.int renaming injEq->Sr
open Go.Sx.Done renaming mk->Ql
open Int renaming add_comm->Pa,ediv_emod_unique->Mm,ediv_le_self->Ks,ediv_nonneg->Ts,le_of_lt->Qu,le_total->Gn,lt_or_le->Nb,lt_tmod_of_pos->Do,max_eq_left->Qbg,max_eq_right->Qao,min_eq_left->Qbf,min_eq_right->Qan,mul_comm->Re,mul_le_mul->Ol,mul_le_mul_of_nonneg_left->Rk,mul_le_mul_of_nonneg_right->Qg,mul_neg->Sf,mul_nonneg->Qq,mul_pos->Rm,natAbs_ediv_le_natAbs->Hb,natAbs_tdiv_le_natAbs->Jz,natAbs_tmod->Li,natCast_mul->Jb,natCast_nonneg->Jt,tdiv_eq_ediv_of_nonneg->Om,tmod_lt_of_pos->Dm,tmod_nonneg->Qbe,toNat_natCast->Rf,toNat_of_nonneg->Jg,zero_mul->Tw
open List renaming all_cons->La,drop_eq_getElem_cons->Qi,drop_of_length_le->Qk,getElem?_eq_getElem->Qe,getElem_mem->Qr,mem_cons->Rb
open List.cons renaming injEq->Qs
open Nat renaming gcd->Tl,gcd_dvd_right->Mc,gcd_zero_left->Hl,le_refl->Qd,mod_lt->Pn,pow_le_pow_right->Sk,pow_succ->Qab,zero_le->Qn
namespace Go.Proofs.YtfkdpbklbegnlaaGreat
open Go Go.Sx
structure Sit (h:Hal) (s:Stg):Prop where
 ok:h.ok
 fine:h.fine
 sf:s.few
 set:SetOk h s
theorem Zed {h:Hal} (hk:h.ok) {s:Stg} (hs:s.few) (h0:serr h s=0):Sit h s:=by
 unfold serr at h0
 split at h0
 ·rename_i he
  exact ⟨hk,Zld hk he,hs,Yfe hk.f h0⟩
 ·rename_i he; exact absurd h0 he
inductive SK (h:Hal):Int->Prop
 | wall (k:Nat) (hk:k<h.ws.length):SK h k
 | floor:SK h h.ws.length
 | ceil:SK h ((h.ws.length:Int)+1)
 | can (j:Nat) (hj:j<h.ks.length):SK h ((h.ws.length:Int)+2+j)
theorem Zjd {h:Hal} {i:Int} (h0:0<=i) (h1:i<nsur h):SK h i:=by
 unfold nsur at h1
 by_cases c1:i<h.ws.length
 ·have:=SK.wall (h:=h) i.toNat (by omega)
  rwa [Jg h0] at this
 by_cases c2:i=h.ws.length
 ·rw [c2]; exact .floor
 by_cases c3:i=(h.ws.length:Int)+1
 ·rw [c3]; exact .ceil
 have:=SK.can (h:=h) (i-h.ws.length-2).toNat (by omega)
 rwa [Jg (by omega),show (h.ws.length:Int)+2+(i-h.ws.length-2)=i by omega] at this
theorem Zgs {h:Hal} {s:Stg} {i:Int} (h0:surE h s i=0):serr h s=0/\0<=i/\i<nsur h:=by
 unfold surE at h0
 split at h0
 ·rename_i he
  split at h0
  ·rename_i hw
   have:=within_iff.1 hw;exact ⟨he,by omega,by omega⟩
  ·cases h0
 ·rename_i he; exact absurd h0 he
def kix (h:Hal) (i:Int):Nat:=(i-h.ws.length-2).toNat
def kat (h:Hal) (i:Int):Can:=(h.ks[kix h i]?).getD ⟨⟨#[]⟩,⟨#[]⟩,0,0,0,0,[]⟩
theorem Zmv {h:Hal} {j:Nat} (hj:j<h.ks.length):kat h ((h.ws.length:Int)+2+j)=h.ks[j]:=by
 unfold kat kix
 rw [show ((h.ws.length:Int)+2+j-h.ws.length-2).toNat=j by omega,Qe hj]; rfl
def isK (h:Hal) (i:Int):Bool:=decide ((h.ws.length:Int)+2<=i)
abbrev canZ:List AV:=[.str ⟨#[]⟩,.str ⟨#[]⟩,I 0,I 0,I 0,I 0,.nils]
def canV (h:Hal) (i:Int):AV:=.agg (match isK h i with
 | true=>(kat h i).av
 | false=>canZ)
theorem c87 {h:Hal} (hf:h.few) (s:Stg) {i:Int} (hi:SK h i):PCall Tryz.prog 157 [.agg (stgL h s),I i] ⟨.tup [canV h i,Bo (isK h i)],[]⟩:=by
 have l:=Yh h.ws
 have l2:=Xd h.ks
 obtain ⟨_,_,f3,f4,_⟩:=hf
 have low:∀ i:Int,0<=i->i<(h.ws.length:Int)+2->PCall Tryz.prog 157 [.agg (stgL h s),I i] ⟨.tup [.agg canZ,Bo false],[]⟩:=by
  intro i h0 h1
  have hv:Qa Qb (Qa Qb (i-((h.ws.map Wal.av).length:Int))-2)=i-h.ws.length-2:=by rw [W_eq (n:=i-((h.ws.map Wal.av).length:Int)) (by omega) (by omega),W_eq (by omega) (by omega)]; omega
  refine pn Zc Tryz.func157 ?_
  have hn:¬ (0<=Qa Qb (Qa Qb (i-((h.ws.map Wal.av).length:Int))-2)):=by rw [hv]; omega
  repeat'(first|refine wk0 ?_|(refine wk2 ?_ ?_<;>intro _)|fail)
  all_goals first
   | exact Ze rfl rfl
   | (exfalso; rename_i hx; have:=of_decide_eq_true hx; rw [hv] at this; omega)
   | (exfalso; rename_i hx; have:=of_decide_eq_true hx; exact hn this)
 cases hi with
 | wall k hk =>
  have e1:isK h k=false:=decide_eq_false (by omega)
  unfold canV; rw [e1]; exact low _ (by omega) (by omega)
 | floor =>
  have e1:isK h h.ws.length=false:=decide_eq_false (by omega)
  unfold canV; rw [e1]; exact low _ (by omega) (by omega)
 | ceil =>
  have e1:isK h ((h.ws.length:Int)+1)=false:=decide_eq_false (by omega)
  unfold canV; rw [e1]; exact low _ (by omega) (by omega)
 | can j hj =>
  have e1:isK h ((h.ws.length:Int)+2+j)=true:=decide_eq_true (by omega)
  unfold canV
  rw [e1]
  dsimp only
  rw [Zmv hj]
  have hv:Qa Qb (Qa Qb ((h.ws.length:Int)+2+j-((h.ws.map Wal.av).length:Int))-2)=j:=by rw [W_eq (n:=(h.ws.length:Int)+2+j-((h.ws.map Wal.av).length:Int)) (by omega) (by omega),W_eq (by omega) (by omega)]; omega
  have e2:(h.ks.map Can.av)[(Qa Qb (Qa Qb ((h.ws.length:Int)+2+j-((h.ws.map Wal.av).length:Int))-2)).toNat]?=some (Can.av h.ks[j]):=by rw [hv]; exact Zbu hj
  have e3:0<=Qa Qb (Qa Qb ((h.ws.length:Int)+2+j-((h.ws.map Wal.av).length:Int))-2):=by omega
  have e4:decide (0<=Qa Qb (Qa Qb ((h.ws.length:Int)+2+j-((h.ws.map Wal.av).length:Int))-2))=true:=decide_eq_true e3
  refine pn Zc Tryz.func157 ?_
  repeat'(first|refine wk0 ?_|(refine wk2 ?_ ?_<;>intro _)|fail)
  all_goals first
   | exact Ze rfl rfl
   | (exfalso; rename_i hx; rw [e4] at hx; cases hx)
def Uq (h:Hal) (s:Stg) (j:Nat):Int:=match h.ks[j]?,s.hs[j]? with
 | some c,some n=>c.hs.getD n.toNat 0
 | _,_=>0
theorem Zk5 {h:Hal} {s:Stg} (g:SetOk h s) {j:Nat} (hj:j<h.ks.length):∃ n,(nl s.hs)[((j:Nat):Int).toNat]?=some [I n]/\0<=n/\n<h.ks[j].hs.length/\(nl h.ks[j].hs)[n.toNat]?=some [I (Uq h s j)]:=by
 have h2:j<s.hs.length:=by rw [g.len]; exact hj
 obtain ⟨g1,g2⟩:=g.hs j hj h2
 refine ⟨s.hs[j],Xx h2,g1,g2,?_⟩
 have h3:s.hs[j].toNat<h.ks[j].hs.length:=by omega
 have e:Uq h s j=h.ks[j].hs[s.hs[j].toNat]:=by unfold Uq; rw [Qe hj,Qe h2]; simp [h3]
 rw [e]
 simp [nl,h3]
theorem c192 {h:Hal} {s:Stg} (g:Sit h s) {j:Nat} (hj:j<h.ks.length):PCall Tryz.prog 258 [.agg (stgL h s),I j] ⟨I (Uq h s j),[]⟩:=by
 obtain ⟨n,e1,e2,e3,e4⟩:=Zk5 g.set hj
 have e5:=Zbu hj
 generalize h.ks[j]=c at *
 have e6:=Zk c.hs
 refine pn Zc Tryz.func258 ?_
 repeat'(first|refine wk1 ?_|(refine wk2 ?_ ?_<;>intro _)|fail)
 exact Za rfl
theorem c108 {h:Hal} {s:Stg} (g:Sit h s) {j:Nat} (hj:j<h.ks.length):PCall Tryz.prog 212 [h.av,s.av,I j] ⟨I (Uq h s j),[]⟩:=by
 obtain ⟨n,e1,e2,e3,e4⟩:=Zk5 g.set hj
 have e5:=Zbu hj
 generalize h.ks[j]=c at *
 have e6:=Zk c.hs
 refine pn Zc Tryz.func212 ?_
 repeat'(first|refine wk1 ?_|(refine wk2 ?_ ?_<;>intro _)|fail)
 exact Za rfl
def Zab (h:Hal) (i:Int):Int × Int:=if i<h.ws.length then (0,i) else if i=h.ws.length then (1,0) else if i=(h.ws.length:Int)+1 then (2,0) else (3,i-h.ws.length-2)
theorem c89 {h:Hal} (hf:h.few) {i:Int} (hi:SK h i):PCall Tryz.prog 141 [h.av,I i] ⟨.tup [I (Zab h i).1,I (Zab h i).2],[]⟩:=by
 have l:=Yh h.ws
 obtain ⟨_,_,f3,f4,_⟩:=hf
 have hw:Qa Qb (((h.ws.map Wal.av).length:Int)+1)=h.ws.length+1:=by rw [W_eq (by omega) (by omega)]; omega
 have hr:0<=i/\i<100000:=by cases hi<;>omega
 have hv:Qa Qb (Qa Qb (i-((h.ws.map Wal.av).length:Int))-2)=i-h.ws.length-2:=by rw [W_eq (n:=i-((h.ws.map Wal.av).length:Int)) (by omega) (by omega),W_eq (by omega) (by omega)]; omega
 unfold Zab
 refine pn Zc Tryz.func141 ?_
 repeat'(first|refine wk0 ?_|(refine wk2 ?_ ?_<;>intro _)|fail)
 ·rename_i hx
  rw [l] at hx
  rw [if_pos (of_decide_eq_true hx)]; exact Ze rfl rfl
 ·rename_i h1 hx
  rw [l] at hx h1
  rw [if_neg (of_decide_eq_false h1),if_pos (of_decide_eq_true hx)]; exact Ze rfl rfl
 ·rename_i h1 h2 hx
  rw [hw] at hx
  rw [l] at h1 h2
  rw [if_neg (of_decide_eq_false h1),if_neg (of_decide_eq_false h2),if_pos (of_decide_eq_true hx)]; exact Ze rfl rfl
 ·rename_i h1 h2 hx
  rw [hw] at hx
  rw [l] at h1 h2
  rw [if_neg (of_decide_eq_false h1),if_neg (of_decide_eq_false h2),if_neg (of_decide_eq_false hx),<-hv]; exact Ze rfl rfl
def plW (w:Wl):Int × Int:=if w.dx=0 then (0,w.fx) else if w.dy=0 then (1,w.fy) else if w.dx=w.dy then (4,Qa Qb (w.fx-w.fy)) else (3,Qa Qb (w.fx+w.fy))
def Zi (h:Hal) (s:Stg) (i:Int):Int × Int:=if i<h.ws.length then plW (wlOf h.cs i.toNat) else if i=h.ws.length then (2,0) else if i=(h.ws.length:Int)+1 then (2,h.ht) else (2,Uq h s (kix h i))
theorem Zaa {h:Hal} {s:Stg} {k:Nat} (hk:k<h.ws.length):Zi h s k=plW (wlOf h.cs k):=by unfold Zi; rw [if_pos (by omega)]; rfl
theorem Zan {h:Hal} {s:Stg}:Zi h s h.ws.length=(2,0):=by unfold Zi; rw [if_neg (by omega),if_pos rfl]
theorem Zbj {h:Hal} {s:Stg}:Zi h s ((h.ws.length:Int)+1)=(2,h.ht):=by unfold Zi; rw [if_neg (by omega),if_neg (by omega),if_pos rfl]
theorem Zcm {h:Hal} {s:Stg} {j:Nat}:Zi h s ((h.ws.length:Int)+2+j)=(2,Uq h s j):=by
 unfold Zi kix
 rw [if_neg (by omega),if_neg (by omega),if_neg (by omega),show ((h.ws.length:Int)+2+j-h.ws.length-2).toNat=j by omega]
noncomputable def kP (h:Hal) (s:Stg):PC:=ins 190 (one [.agg (stgL h s)] ⟨I (h.ws.length:Int),[]⟩) (ins 191 (one [.agg (stgL h s)] ⟨I ((h.ws.length:Int)+1),[]⟩) kG4)
theorem Yiv {h:Hal} {s:Stg} (g:Sit h s):PCOK Tryz.prog (kP h s):=Zd (c172 s) (Zd (c173 g.ok.f s) Zar)
theorem c112 {h:Hal} {s:Stg} (g:Sit h s) {i:Int} (hi:SK h i):PCall Tryz.prog 168 [.agg (stgL h s),I i] ⟨P2 (Zi h s i).1 (Zi h s i).2,[]⟩:=by
 have hk0:=Yiv g
 have f3:=g.ok.f.2.2.1
 have f4:=g.ok.f.2.2.2.1
 cases hi with
 | wall k hk =>
  have hk2:k<h.cs.length:=by have:=g.fine.le; omega
  rw [Zaa hk]
  have hk1:=Zd (Yhh g.ok.f hk2) hk0
  refine pn hk1 Tryz.func168 ?_
  generalize wlOf h.cs k=w at *
  repeat'(first|refine wk1 ?_|(refine wk2 ?_ ?_<;>intro _)|fail)
  all_goals exact Ze (by clear hk0 hk1; simp_all [plW]) rfl
 | floor =>
  rw [Zan]
  refine pn hk0 Tryz.func168 ?_
  repeat'(first|refine wk1 ?_|(refine wk2 ?_ ?_<;>intro _)|fail)
  exact Ze rfl rfl
 | ceil =>
  rw [Zbj]
  refine pn hk0 Tryz.func168 ?_
  repeat'(first|refine wk1 ?_|(refine wk2 ?_ ?_<;>intro _)|fail)
  exact Ze rfl rfl
 | can j hj =>
  rw [Zcm]
  have hv:Qa Qb (Qa Qb ((h.ws.length:Int)+2+j-((h.ws.length:Int)+1))-1)=j:=by rw [W_eq (n:=(h.ws.length:Int)+2+j-((h.ws.length:Int)+1)) (by omega) (by omega),W_eq (by omega) (by omega)]; omega
  have hc:=c192 g hj
  rw [<-hv] at hc
  have hk1:=Zd hc hk0
  refine pn hk1 Tryz.func168 ?_
  repeat'(first|refine wk1 ?_|(refine wk2 ?_ ?_<;>intro _)|fail)
  exact Ze rfl rfl
theorem c59 {h:Hal} {s:Stg} (g:Sit h s) {i:Int} (hi:SK h i):PCall Tryz.prog 205 [h.av,s.av,I i] ⟨P2 (Zi h s i).1 (Zi h s i).2,[]⟩:=by
 have hk0:=Zd (c89 g.ok.f hi) (Zmw g.ok.f)
 have f3:=g.ok.f.2.2.1
 have f4:=g.ok.f.2.2.2.1
 cases hi with
 | wall k hk =>
  have hk2:k<h.cs.length:=by have:=g.fine.le; omega
  have e1:=Ve hk2
  rw [show Zab h k=(0,(k:Int)) by unfold Zab; rw [if_pos (by omega)]] at hk0
  rw [Zaa hk]
  rw [Zcc] at e1
  refine pn hk0 Tryz.func205 ?_
  generalize wlOf h.cs k=w at *
  have hp:plW w=if w.ln.dx=0 then (0,w.ln.x) else if w.ln.dy=0 then (1,w.ln.y) else if w.ln.dx=w.ln.dy then (4,Qa Qb (w.ln.x-w.ln.y)) else (3,Qa Qb (w.ln.x+w.ln.y)):=rfl
  rw [hp]
  repeat'(first|refine wk1 ?_|(refine wk2 ?_ ?_<;>intro _)|fail)
  ·rename_i h1; rw [if_pos (of_decide_eq_true h1)]; exact Ze rfl rfl
  ·rename_i h1 h2; rw [if_neg (of_decide_eq_false h1),if_pos (of_decide_eq_true h2)]; exact Ze rfl rfl
  ·rename_i h1 h2 h3; rw [if_neg (of_decide_eq_false h1),if_neg (of_decide_eq_false h2),if_pos (of_decide_eq_true h3)]; exact Ze rfl rfl
  ·rename_i h1 h2 h3; rw [if_neg (of_decide_eq_false h1),if_neg (of_decide_eq_false h2),if_neg (of_decide_eq_false h3)]; exact Ze rfl rfl
 | floor =>
  rw [show Zab h h.ws.length=(1,0) by unfold Zab; rw [if_neg (by omega),if_pos rfl]] at hk0
  rw [Zan]
  refine pn hk0 Tryz.func205 ?_
  repeat'(first|refine wk1 ?_|(refine wk2 ?_ ?_<;>intro _)|fail)
  exact Ze rfl rfl
 | ceil =>
  rw [show Zab h ((h.ws.length:Int)+1)=(2,0) by unfold Zab; rw [if_neg (by omega),if_neg (by omega),if_pos rfl]] at hk0
  rw [Zbj]
  refine pn hk0 Tryz.func205 ?_
  repeat'(first|refine wk1 ?_|(refine wk2 ?_ ?_<;>intro _)|fail)
  exact Ze rfl rfl
 | can j hj =>
  rw [show Zab h ((h.ws.length:Int)+2+j)=(3,(j:Int)) by unfold Zab; rw [if_neg (by omega),if_neg (by omega),if_neg (by omega)]; simp; omega] at hk0
  rw [Zcm]
  have hk1:=Zd (c108 g hj) hk0
  refine pn hk1 Tryz.func205 ?_
  repeat'(first|refine wk1 ?_|(refine wk2 ?_ ?_<;>intro _)|fail)
  exact Ze rfl rfl
def Zi0 (h:Hal) (s:Stg) (i:Int):Int × Int:=if surE h s i=0 then Zi h s i else (0,0)
theorem c54 {h:Hal} (hk:h.ok) {s:Stg} (hs:s.few) (i:Int):PCall Tryz.prog 161 [h.av,s.av,I i] ⟨.tup [P2 (Zi0 h s i).1 (Zi0 h s i).2,I (surE h s i)],[]⟩:=by
 have hk0:=Zd (c109 hk hs i) Zc
 by_cases he:surE h s i=0
 ·have e:=Zgs he
  have g:=Zed hk hs e.1
  have hk1:=Zd (c112 g (Zjd e.2.1 e.2.2)) hk0
  have e2:Zi0 h s i=Zi h s i:=by unfold Zi0; rw [if_pos he]
  rw [e2]
  rw [he] at hk1 ⊢
  refine pn hk1 Tryz.func161 ?_
  repeat'(first|refine wk1 ?_|(refine wk2 ?_ ?_<;>intro _)|fail)
  exact Ze rfl rfl
 ·have e2:Zi0 h s i=(0,0):=by unfold Zi0; rw [if_neg he]
  rw [e2]
  refine pn hk0 Tryz.func161 ?_
  repeat'(first|refine wk1 ?_|(refine wk2 ?_ ?_<;>intro _)|fail)
  exact Ze rfl rfl
def idxN (n:Int):Nat->List Int->Int
 | _,[]=>-1
 | i,m::l=>if n=m then i else idxN n (i+1) l
theorem Zuj (n:Int):∀ (l:List Int) (i:Nat),decide (0<=idxN n i l)=hasN l n
 | [],i=>rfl
 | m::l,i=>by
  rw [idxN,Zp9]
  by_cases h:n=m
  ·rw [if_pos h,decide_eq_true (show m=n from h.symm),decide_eq_true (by omega)]; rfl
  ·rw [if_neg h,decide_eq_false (show ¬ m=n from fun e=>h e.symm),Bool.false_or]; exact Zuj n l _
theorem c203 {ns:List Int} (hl:ns.length<1000000) (n:Int):PCall Tryz.prog 152 [.isl 1 (nl ns),I n] ⟨I (idxN n 0 ns),[]⟩:=by
 have e3:=Zk ns
 refine pn Zc Tryz.func152 ?_
 repeat'(first|refine wk1 ?_|(refine wk2 ?_ ?_<;>intro _)|fail)
 refine Zr (S:=Nat × Int) (fun t=>ns.length-t.1) (fun t=>[(0,.isl 1 (nl ns)),(1,I n),(7,I (nl ns).length),(8,I t.2)]) (fun _=>[]) 0 0 (fun t=>t.2=t.1/\t.1<=ns.length/\idxN n t.1 (ns.drop t.1)=idxN n 0 ns) (0,0) ⟨rfl,Qn _,rfl⟩ (Qd _) [] rfl (kps) (kps) ?_
 rintro ⟨k,i⟩ ⟨hi,hk,hh⟩
 dsimp only at hi hk hh ⊢
 subst hi
 refine bs.av (sx:=nos) Zc ?_
 by_cases hlt:k<ns.length
 ·have e1:=Xx hlt
  rw [Qi hlt,idxN] at hh
  repeat'(first|refine wk1 ?_|(refine wk2 ?_ ?_<;>intro _)|fail)
  ·rename_i hx; exact Za (by rw [<-hh,if_pos (of_decide_eq_true hx)])
  ·rename_i hx; exact Ql ⟨(k+1,_),[],rfl,kps,kps,⟨Zg (by omega),hlt,by rw [<-hh,if_neg (of_decide_eq_false hx)]⟩,by dsimp only; omega⟩
 rw [Qk (by omega)] at hh
 repeat'(first|refine wk1 ?_|(refine wk2 ?_ ?_<;>intro _)|fail)
 exact Za hh
theorem c176 {ns:List Int} (hl:ns.length<1000000) (n:Int):PCall Tryz.prog 192 [.isl 1 (nl ns),I n] ⟨Bo (hasN ns n),[]⟩:=by
 refine pn (Zd (c203 hl n) Zc) Tryz.func192 ?_
 repeat'(first|refine wk0 ?_|(refine wk2 ?_ ?_<;>intro _)|fail)
 exact Zb (Zuj n ns 0)
theorem c178 (m:Mat) (nm:ByteArray):PCall Tryz.prog 194 [.agg m.av,.ipt [.str nm]] ⟨Bo (m.nm==nm),[]⟩:=by
 refine pn Zc Tryz.func194 ?_
 repeat'(first|refine wk0 ?_|(refine wk2 ?_ ?_<;>intro _)|fail)
 exact Zb (by simp)
theorem c177 {ms:List Mat} (hl:ms.length<1000) (nm:ByteArray):PCall Tryz.prog 193 [.isl 6 (ms.map Mat.av),.func 194 [] [.ipt [.str nm]]] ⟨I (Ye nm 0 ms),[]⟩:=by
 have e3:=Zao ms
 refine pn Zc Tryz.func193 ?_
 repeat'(first|refine wk1 ?_|(refine wk2 ?_ ?_<;>intro _)|fail)
 refine Zr (S:=Nat × Int) (fun t=>ms.length-t.1) (fun t=>[(0,.isl 6 (ms.map Mat.av)),(1,.func 194 [] [.ipt [.str nm]]),(7,I (ms.map Mat.av).length),(8,I t.2)]) (fun _=>[]) 0 0 (fun t=>t.2=t.1/\t.1<=ms.length/\Ye nm t.1 (ms.drop t.1)=Ye nm 0 ms) (0,0) ⟨rfl,Qn _,rfl⟩ (Qd _) [] rfl (kps) (kps) ?_
 rintro ⟨k,i⟩ ⟨hi,hk,hh⟩
 dsimp only at hi hk hh ⊢
 subst hi
 by_cases hlt:k<ms.length
 ·have e1:=Zpo hlt
  rw [Qi hlt,Ye] at hh
  refine bs.av (sx:=nos) (Zd (c178 ms[k] nm) Zc) ?_
  repeat'(first|refine wk1 ?_|(refine wk2 ?_ ?_<;>intro _)|fail)
  ·rename_i hx; exact Za (by rw [<-hh,if_pos hx])
  ·rename_i hx; exact Ql ⟨(k+1,_),[],rfl,kps,kps,⟨Zg (by omega),hlt,by rw [<-hh,hx]; rfl⟩,by dsimp only; omega⟩
 rw [Qk (by omega)] at hh
 refine bs.av (sx:=nos) Zc ?_
 repeat'(first|refine wk1 ?_|(refine wk2 ?_ ?_<;>intro _)|fail)
 exact Za hh
def mat0:Mat:=⟨⟨#[]⟩,0,0,0,0,0⟩
def matG (h:Hal) (nm:ByteArray):Mat:=(h.ms[(Ye nm 0 h.ms).toNat]?).getD mat0
theorem Zaq (s:ByteArray):∀ (l:List Mat) (i:Nat),Ye s i l<((i+l.length:Nat):Int)
 | [],i=>by simp [Ye]; omega
 | m::l,i=>by
  rw [Ye]
  have:=Zaq s l (i+1)
  split
  ·simp; omega
  ·simp only [List.length_cons]; omega
theorem Zt7 {h:Hal} {nm:ByteArray} (h0:0<=Ye nm 0 h.ms):(h.ms.map Mat.av)[(Ye nm 0 h.ms).toNat]?=some (matG h nm).av:=by
 have h1:=Zaq nm h.ms 0
 have hi:(Ye nm 0 h.ms).toNat<h.ms.length:=by omega
 unfold matG
 rw [List.getElem?_map,Qe hi]; rfl
def Zav (h:Hal) (s:Stg) (i:Int):ByteArray:=if i<h.ws.length then (if hasN s.dr i then curt h i else ((h.ws[i.toNat]?).map Wal.mt).getD ⟨#[]⟩) else if i=h.ws.length then h.fl else if i=(h.ws.length:Int)+1 then h.ce else (kat h i).mt
theorem Zp1 {h:Hal} {nm:ByteArray} (hm:∃ m∈h.ms,m.nm=nm):0<=Ye nm 0 h.ms:=by
 have:=mt (Zcp nm h.ms 0).1 (by simpa using hm)
 omega
theorem Zor {h:Hal} (g:h.fine) {k:Nat} (hk:k<h.ws.length):0<=Ye h.ws[k].mt 0 h.ms/\(h.ws[k].cu≠⟨#[]⟩->0<=Ye h.ws[k].cu 0 h.ms):=by
 have:=g.wal k hk
 unfold Zgo at this
 split at this
 ·split at this
  ·cases this
  ·split at this
   ·cases this
   ·split at this
    ·cases this
    ·rename_i hx
     simp only [Bool.or_eq_true,Qc,decide_eq_true_eq,Sz,Zd3,decide_eq_false_iff_not,not_or,not_and] at hx;exact ⟨by omega,fun hc=>by have:=hx.2 hc; omega⟩
 ·cases this
theorem Yae {h:Hal} (g:h.fine) {k:Nat} (hk:k<h.ks.length):0<=Ye h.ks[k].mt 0 h.ms:=by
 have:=g.can k hk
 unfold Zhv at this
 split at this
 ·split at this
  ·cases this
  ·split at this
   ·cases this
   ·split at this
    ·cases this
    ·split at this
     ·cases this
     ·rename_i hx
      simp only [decide_eq_true_eq] at hx;omega
 ·cases this
theorem Zn0 {h:Hal} {s:Stg} (g:Sit h s) {i:Int} (hi:SK h i):0<=Ye (Zav h s i) 0 h.ms:=by
 unfold Zav
 cases hi with
 | wall k hk =>
  rw [if_pos (by omega),Rf,Qe hk]
  have hc:curt h k=h.ws[k].cu:=by unfold curt; rw [Rf,Qe hk]
  split
  ·rename_i hd
   have hd:∃ d∈s.dr,d=(k:Int):=by unfold hasN at hd; rw [List.any_eq_true] at hd; simpa using hd
   obtain ⟨d,hd,rfl⟩:=hd;rw [hc];exact (Zor g.fine hk).2 (by rw [<-hc]; exact (g.set.dr _ hd).2.2)
  ·exact (Zor g.fine hk).1
 | floor=>rw [if_neg (by omega),if_pos rfl]; exact Zp1 g.fine.fl
 | ceil=>rw [if_neg (by omega),if_neg (by omega),if_pos rfl]; exact Zp1 g.fine.ce
 | can j hj=>rw [if_neg (by omega),if_neg (by omega),if_neg (by omega),Zmv hj]; exact Yae g.fine hj
def matS (h:Hal) (s:Stg) (i:Int):Mat:=matG h (Zav h s i)
theorem Zfd {h:Hal} {i:Int} (hi:i<(h.ws.length:Int)+2):canV h i = .agg canZ/\isK h i=false:=by
 have e1:isK h i=false:=decide_eq_false (by omega)
 unfold canV; rw [e1]; exact ⟨rfl,rfl⟩
theorem Zu5 {h:Hal} {j:Nat} (hj:j<h.ks.length):canV h ((h.ws.length:Int)+2+j) = .agg (Can.av h.ks[j])/\isK h ((h.ws.length:Int)+2+j)=true:=by
 have e1:isK h ((h.ws.length:Int)+2+j)=true:=decide_eq_true (by omega)
 unfold canV; rw [e1,<-Zmv hj]; exact ⟨rfl,rfl⟩
theorem Zms {h:Hal} {s:Stg} {k:Nat} (hk:k<h.ws.length):Zav h s k=if hasN s.dr k then h.ws[k].cu else h.ws[k].mt:=by
 unfold Zav
 rw [if_pos (by omega),Rf,Qe hk]
 rw [show curt h k=h.ws[k].cu by unfold curt; rw [Rf,Qe hk]]
 rfl
theorem Zky {h:Hal} {s:Stg}:Zav h s h.ws.length=h.fl:=by unfold Zav; rw [if_neg (by omega),if_pos rfl]
theorem Zmt {h:Hal} {s:Stg}:Zav h s ((h.ws.length:Int)+1)=h.ce:=by unfold Zav; rw [if_neg (by omega),if_neg (by omega),if_pos rfl]
theorem Zpt {h:Hal} {s:Stg} {j:Nat} (hj:j<h.ks.length):Zav h s ((h.ws.length:Int)+2+j)=h.ks[j].mt:=by
 unfold Zav
 rw [if_neg (by omega),if_neg (by omega),if_neg (by omega),Zmv hj]
theorem c86 {h:Hal} {s:Stg} (g:Sit h s) {i:Int} (hi:SK h i):PCall Tryz.prog 123 [.agg (stgL h s),I i] ⟨.agg (matS h s i).av,[]⟩:=by
 have f3:=g.ok.f.2.2.1
 have f4:=g.ok.f.2.2.2.1
 have h0:=Zn0 g hi
 have hG:=Zt7 h0
 have hk0:=Zd (c87 g.ok.f s hi) (Zd (c172 (h:=h) s) (Zd (c173 g.ok.f s) (Zd (c176 (ns:=s.dr) (by have:=g.sf.2; omega) i) (Zd (c177 g.ok.f.1 (Zav h s i)) Zc))))
 unfold matS
 have l1:=Zao h.ms
 have hlt:=Zaq (Zav h s i) h.ms 0
 cases hi with
 | wall k hk =>
  obtain ⟨v1,v2⟩:=Zfd (h:=h) (i:=k) (by omega)
  rw [v1,v2] at hk0
  have e1:=Zis hk
  have hn:=Zms (s:=s) hk
  generalize matG h (Zav h s k)=M at *
  cases hd:hasN s.dr k with
  | true =>
   rw [hd] at hn hk0;rw [if_pos rfl] at hn;rw [hn] at hk0 h0 hG hlt;refine pn hk0 Tryz.func123 ?_
   repeat'(first|refine wk1 ?_|(refine wk2 ?_ ?_<;>intro _)|fail)
   exact Ze rfl rfl
  | false =>
   rw [hd] at hn hk0;rw [if_neg (by simp)] at hn;rw [hn] at hk0 h0 hG hlt;refine pn hk0 Tryz.func123 ?_
   repeat'(first|refine wk1 ?_|(refine wk2 ?_ ?_<;>intro _)|fail)
   exact Ze rfl rfl
 | floor =>
  obtain ⟨v1,v2⟩:=Zfd (h:=h) (i:=h.ws.length) (by omega)
  rw [v1,v2] at hk0
  have hn:=Zky (h:=h) (s:=s)
  generalize matG h (Zav h s h.ws.length)=M at *
  rw [hn] at hk0 h0 hG hlt
  refine pn hk0 Tryz.func123 ?_
  repeat'(first|refine wk1 ?_|(refine wk2 ?_ ?_<;>intro _)|fail)
  exact Ze rfl rfl
 | ceil =>
  obtain ⟨v1,v2⟩:=Zfd (h:=h) (i:=(h.ws.length:Int)+1) (by omega)
  rw [v1,v2] at hk0
  have hn:=Zmt (h:=h) (s:=s)
  generalize matG h (Zav h s ((h.ws.length:Int)+1))=M at *
  rw [hn] at hk0 h0 hG hlt
  refine pn hk0 Tryz.func123 ?_
  repeat'(first|refine wk1 ?_|(refine wk2 ?_ ?_<;>intro _)|fail)
  exact Ze rfl rfl
 | can j hj =>
  obtain ⟨v1,v2⟩:=Zu5 hj
  rw [v1,v2] at hk0
  have hn:=Zpt (s:=s) hj
  generalize matG h (Zav h s ((h.ws.length:Int)+2+j))=M at *
  rw [hn] at hk0 h0 hG hlt
  refine pn hk0 Tryz.func123 ?_
  repeat'(first|refine wk1 ?_|(refine wk2 ?_ ?_<;>intro _)|fail)
  exact Ze rfl rfl
theorem c62 {h:Hal} {s:Stg} (g:Sit h s) {i:Int} (hi:SK h i):PCall Tryz.prog 91 [h.av,s.av,I i] ⟨.agg (matS h s i).av,[]⟩:=by
 have f3:=g.ok.f.2.2.1
 have f4:=g.ok.f.2.2.2.1
 have h0:=Zn0 g hi
 have hG:=Zt7 h0
 have hmx:=Zdk h (Zav h s i)
 have hk0:=Zd (c89 g.ok.f hi) (Zd (c26 (ns:=s.dr) (by have:=g.sf.2; omega) i) (Zpy g.ok.f))
 unfold matS
 have l1:=Zao h.ms
 have hlt:=Zaq (Zav h s i) h.ms 0
 cases hi with
 | wall k hk =>
  rw [show Zab h k=(0,(k:Int)) by unfold Zab; rw [if_pos (by omega)]] at hk0
  have e1:=Zis hk
  have hn:=Zms (s:=s) hk
  generalize matG h (Zav h s k)=M at *
  cases hd:hasN s.dr k with
  | true =>
   rw [hd] at hn hk0;rw [if_pos rfl] at hn;rw [hn] at h0 hG hlt hmx;refine pn hk0 Tryz.func91 ?_
   repeat'(first|refine wk1 ?_|(refine wk2 ?_ ?_<;>intro _)|fail)
   exact Ze rfl rfl
  | false =>
   rw [hd] at hn hk0;rw [if_neg (by simp)] at hn;rw [hn] at h0 hG hlt hmx;refine pn hk0 Tryz.func91 ?_
   repeat'(first|refine wk1 ?_|(refine wk2 ?_ ?_<;>intro _)|fail)
   exact Ze rfl rfl
 | floor =>
  rw [show Zab h h.ws.length=(1,0) by unfold Zab; rw [if_neg (by omega),if_pos rfl]] at hk0
  have hn:=Zky (h:=h) (s:=s)
  generalize matG h (Zav h s h.ws.length)=M at *
  rw [hn] at h0 hG hlt hmx
  refine pn hk0 Tryz.func91 ?_
  repeat'(first|refine wk1 ?_|(refine wk2 ?_ ?_<;>intro _)|fail)
  exact Ze rfl rfl
 | ceil =>
  rw [show Zab h ((h.ws.length:Int)+1)=(2,0) by unfold Zab; rw [if_neg (by omega),if_neg (by omega),if_pos rfl]] at hk0
  have hn:=Zmt (h:=h) (s:=s)
  generalize matG h (Zav h s ((h.ws.length:Int)+1))=M at *
  rw [hn] at h0 hG hlt hmx
  refine pn hk0 Tryz.func91 ?_
  repeat'(first|refine wk1 ?_|(refine wk2 ?_ ?_<;>intro _)|fail)
  exact Ze rfl rfl
 | can j hj =>
  rw [show Zab h ((h.ws.length:Int)+2+j)=(3,(j:Int)) by unfold Zab; rw [if_neg (by omega),if_neg (by omega),if_neg (by omega)]; simp; omega] at hk0
  have e1:=Zbu hj
  have hn:=Zpt (s:=s) hj
  generalize matG h (Zav h s ((h.ws.length:Int)+2+j))=M at *
  rw [hn] at h0 hG hlt hmx
  refine pn hk0 Tryz.func91 ?_
  repeat'(first|refine wk1 ?_|(refine wk2 ?_ ?_<;>intro _)|fail)
  exact Ze rfl rfl
def matA (h:Hal) (s:Stg) (i:Int):Mat:=if surE h s i=0 then matS h s i else mat0
abbrev abs4 (m:Mat):AV:=.agg [I m.a,I m.b,I m.c,I m.d]
theorem c60 {h:Hal} (hk:h.ok) {s:Stg} (hs:s.few) (i:Int):PCall Tryz.prog 78 [h.av,s.av,I i] ⟨.tup [abs4 (matA h s i),I (surE h s i)],[]⟩:=by
 have hk0:=Zd (c109 hk hs i) Zc
 by_cases he:surE h s i=0
 ·have e:=Zgs he
  have g:=Zed hk hs e.1
  have hk1:=Zd (c86 g (Zjd e.2.1 e.2.2)) hk0
  have e2:matA h s i=matS h s i:=by unfold matA; rw [if_pos he]
  rw [e2]
  rw [he] at hk1 ⊢
  refine pn hk1 Tryz.func78 ?_
  repeat'(first|refine wk1 ?_|(refine wk2 ?_ ?_<;>intro _)|fail)
  exact Ze rfl rfl
 ·have e2:matA h s i=mat0:=by unfold matA; rw [if_neg he]
  rw [e2]
  refine pn hk0 Tryz.func78 ?_
  repeat'(first|refine wk1 ?_|(refine wk2 ?_ ?_<;>intro _)|fail)
  exact Ze rfl rfl
theorem c61 {h:Hal} (hk:h.ok) {s:Stg} (hs:s.few) (i:Int):PCall Tryz.prog 79 [h.av,s.av,I i] ⟨.tup [I (matA h s i).sc,I (surE h s i)],[]⟩:=by
 have hk0:=Zd (c109 hk hs i) Zc
 by_cases he:surE h s i=0
 ·have e:=Zgs he
  have g:=Zed hk hs e.1
  have hk1:=Zd (c86 g (Zjd e.2.1 e.2.2)) hk0
  have e2:matA h s i=matS h s i:=by unfold matA; rw [if_pos he]
  rw [e2]
  rw [he] at hk1 ⊢
  refine pn hk1 Tryz.func79 ?_
  repeat'(first|refine wk1 ?_|(refine wk2 ?_ ?_<;>intro _)|fail)
  exact Ze rfl rfl
 ·have e2:matA h s i=mat0:=by unfold matA; rw [if_neg he]
  rw [e2]
  refine pn hk0 Tryz.func79 ?_
  repeat'(first|refine wk1 ?_|(refine wk2 ?_ ?_<;>intro _)|fail)
  exact Ze rfl rfl
def i64 (n:Int):Prop:=-9223372036854775808<=n/\n<=9223372036854775807
theorem Zxh {a:Int} (h:i64 a):size a=Qa Qb (a.natAbs:Int):=by
 unfold size imax
 obtain ⟨h1,h2⟩:=h
 by_cases h3:a = -9223372036854775808
 ·subst h3; decide
 ·rw [W_eq (n:=0-a) (by omega) (by omega),W_eq (by omega) (by omega)]
  by_cases h4:a<0-a
  ·rw [decide_eq_true h4]; simp only [cond_true]; omega
  ·rw [decide_eq_false h4]; simp only [cond_false]; omega
theorem Zwc (a:Int):i64 (Qa Qb a):=by unfold i64; simp only [IntKind.wrap_i64]; omega
theorem Zt3 {g:Nat} (h:g<=9223372036854775808):(Qa Qb (g:Int)).natAbs=g:=by
 by_cases h3:g=9223372036854775808
 ·subst h3; decide
 ·rw [W_eq (by omega) (by omega)]; simp
theorem Ztk {a b:Int} (ha:i64 a) (hb:b≠0):i64 (a.tmod b):=by
 obtain ⟨h1,h2⟩:=ha
 have h3:(a.tmod b).natAbs<=a.natAbs:=by rw [Li]; exact Nat.mod_le _ _
 have h4:0<=a->0<=a.tmod b:=fun h=>Qbe b h
 have h5:a<=0->a.tmod b<=0:=fun h=>by have:=Qbe b (a:=-a) (by omega); rw [Int.neg_tmod] at this; omega
 unfold i64
 omega
theorem Zun {a b:Int}:Tl b.natAbs (a.tmod b).natAbs=Tl a.natAbs b.natAbs:=by
 rw [Li,Nat.gcd_comm,<-Nat.gcd_rec,Nat.gcd_comm]
theorem c120 {a b:Int} (ha:i64 a) (hb:i64 b):PCall Tryz.prog 208 [I a,I b] ⟨I (Qa Qb ((Tl a.natAbs b.natAbs:Nat):Int)),[]⟩:=by
 refine pn Zpz Tryz.func208 ?_
 generalize hG:Tl a.natAbs b.natAbs=G
 refine Zr (S:=Int × Int) (fun t=>t.2.natAbs) (fun t=>[(0,I t.1),(1,I t.2)]) (fun _=>[]) 0 0 (fun t=>(i64 t.1/\i64 t.2)/\Tl t.1.natAbs t.2.natAbs=G) (a,b) ⟨⟨ha,hb⟩,hG⟩ (Qd _) [] rfl (kps) (kps) ?_
 clear hG ha hb
 rintro ⟨a,b⟩ ⟨⟨ha,hb⟩,hG⟩
 dsimp only at ha hb hG ⊢
 refine bs.av (sx:=nos) Zpz ?_
 by_cases h0:b=0
 ·subst h0
  repeat'(first|refine wk1 ?_|(refine wk2 ?_ ?_<;>intro _)|fail)
  exact Za (by rw [Zxh ha,<-hG]; simp)
 ·repeat'(first|refine wk1 ?_|(refine wk2 ?_ ?_<;>intro _)|fail)
  exact Ql ⟨(b,a.tmod b),[],rfl,kps,kps,⟨⟨hb,Ztk ha h0⟩,by rw [<-hG]; exact Zun⟩,by
   show (a.tmod b).natAbs<b.natAbs
   rw [Li]; exact Pn _ (by omega)⟩
def g4 (p:Pt):Nat:=Tl (Tl p.x.natAbs p.y.natAbs) (Tl p.z.natAbs p.d.natAbs)
structure Pt.wf (p:Pt):Prop where
 x:i64 p.x
 y:i64 p.y
 z:i64 p.z
 d:i64 p.d
theorem Yeg {a b:Int} (ha:i64 a) (hb:i64 b):Tl a.natAbs b.natAbs<=9223372036854775808:=by
 obtain ⟨a1,a2⟩:=ha
 obtain ⟨b1,b2⟩:=hb
 by_cases h:a.natAbs=0
 ·rw [h,Hl]; omega
 ·exact Nat.le_trans (Nat.gcd_le_left _ (by omega)) (by omega)
theorem Yjf {p:Pt} (hp:p.wf) (hd:0<p.d):0<g4 p/\(g4 p:Int)<=p.d:=by
 have h1:g4 p ∣ p.d.natAbs:=Nat.dvd_trans (Mc _ _) (Mc _ _)
 have h2:=Nat.le_of_dvd (by omega) h1
 have h3:0<g4 p:=Nat.pos_of_dvd_of_pos h1 (by omega)
 omega
def ptIn (p:Pt):Bool:=within p.x (-(5000*p.d)) (5000*p.d)&&within p.y (-(5000*p.d)) (5000*p.d)&&within p.z (-(5000*p.d)) (5000*p.d)
def Xh (p:Pt):Int:=if p.d<=0\/g4 p≠1 then 3 else if 100000<p.d then 2 else if ptIn p then 0 else 2
theorem Ze3 {p:Pt} (h:Xh p=0):0<p.d/\p.d<=100000/\g4 p=1/\ptIn p=true:=by
 unfold Xh at h
 split at h
 ·cases h
 ·rename_i h1
  split at h
  ·cases h
  ·split at h
   ·rename_i h3; exact ⟨by omega,by omega,by omega,h3⟩
   ·cases h
theorem Zm3 (a b c d:Nat):Tl (Tl (Tl a b) c) d=Tl (Tl a b) (Tl c d):=by rw [Nat.gcd_assoc (Tl a b)]
def gl:Nat->List Int->Nat
 | g,[]=>g
 | g,n::l=>gl (Tl g n.natAbs) l
theorem c117 {ns:List Int} (hl:ns.length<1000) (hw:∀ n∈ns,i64 n):PCall Tryz.prog 173 [.isl 1 (nl ns)] ⟨I (Qa Qb ((gl 0 ns:Nat):Int)),[]⟩:=by
 have e3:=Zk ns
 refine pn Zmx Tryz.func173 ?_
 repeat'(first|refine wk1 ?_|(refine wk2 ?_ ?_<;>intro _)|fail)
 refine Zr (S:=Nat × Int × Int) (fun t=>ns.length-t.1) (fun t=>[(3,I t.2.2),(6,.isl 1 (nl ns)),(7,I (nl ns).length),(8,I t.2.1)]) (fun _=>[]) 0 0 (fun t=>t.2.1=t.1/\t.1<=ns.length/\i64 t.2.2/\gl t.2.2.natAbs (ns.drop t.1)=gl 0 ns) (0,0,0) ⟨rfl,Qn _,(by unfold i64; decide),rfl⟩ (Qd _) [] rfl (kps) (kps) ?_
 rintro ⟨k,i,g⟩ ⟨hi,hk,hg,hh⟩
 dsimp only at hi hk hg hh ⊢
 subst hi
 refine bs.av (sx:=nos) Zmx ?_
 by_cases hlt:k<ns.length
 ·have e1:=Xx hlt
  have hn:=hw _ (Qr hlt)
  rw [Qi hlt,gl] at hh
  repeat'(first|refine wk1 ?_|(refine wk2 ?_ ?_<;>intro _)|fail)
  refine Zr (S:=Int × Int) (fun t=>t.2.natAbs) (fun t=>[(3,I t.1),(5,I t.2),(6,.isl 1 (nl ns)),(7,I (nl ns).length),(8,I k)]) (fun _=>[]) 0 0 (fun t=>(i64 t.1/\i64 t.2)/\Tl t.1.natAbs t.2.natAbs=Tl g.natAbs ns[k].natAbs) (g,ns[k]) ⟨⟨hg,hn⟩,rfl⟩ (Qd _) [] rfl (kps) (kps) ?_
  rintro ⟨a,b⟩ ⟨⟨ha,hb⟩,hG⟩
  dsimp only at ha hb hG ⊢
  refine bs.av (sx:=nos) Zmx ?_
  by_cases h0:b=0
  ·subst h0
   repeat'(first|refine wk1 ?_|(refine wk2 ?_ ?_<;>intro _)|fail)
   exact Ql ⟨(k+1,_,a),[],rfl,kps,kps,⟨Zg (by omega),hlt,ha,by rw [<-hh,<-hG]; simp⟩,by dsimp only; omega⟩
  ·repeat'(first|refine wk1 ?_|(refine wk2 ?_ ?_<;>intro _)|fail)
   exact Ql ⟨(b,a.tmod b),[],rfl,kps,kps,⟨⟨hb,Ztk ha h0⟩,by rw [<-hG]; exact Zun⟩,by
    show (a.tmod b).natAbs<b.natAbs
    rw [Li]; exact Pn _ (by omega)⟩
 rw [Qk (by omega)] at hh
 repeat'(first|refine wk1 ?_|(refine wk2 ?_ ?_<;>intro _)|fail)
 exact Za (by show size g=_; rw [Zxh hg,<-hh]; rfl)
theorem Yf1 {d:Int} (h0:0<d) (h1:d<=100000):Qa Qb (5000*d)=5000*d/\Qa Qb (0-Qa Qb (5000*d)) = -(5000*d):=by
 have e:Qa Qb (5000*d)=5000*d:=W_eq (by omega) (by omega)
 refine ⟨e,?_⟩
 rw [e,W_eq (by omega) (by omega)]; omega
theorem c99 {p:Pt} (hp:p.wf):PCall Tryz.prog 159 [p.av] ⟨I (Xh p),[]⟩:=by
 have hc:=c117 (ns:=[p.x,p.y,p.z,p.d]) (by simp) (by
  intro n hn
  simp only [Rb,List.not_mem_nil,or_false] at hn
  rcases hn with rfl|rfl|rfl|rfl
  ·exact hp.x
  ·exact hp.y
  ·exact hp.z
  ·exact hp.d)
 have hg:gl 0 [p.x,p.y,p.z,p.d]=g4 p:=by
  simp only [gl,Hl]
  exact Zm3 _ _ _ _
 rw [hg] at hc
 have hk:=Zd hc Zar
 by_cases h1:p.d<=0
 ·have e:Xh p=3:=by unfold Xh; rw [if_pos (.inl h1)]
  rw [e]
  refine pn hk Tryz.func159 ?_
  repeat'(first|refine wk1 ?_|(refine wk2 ?_ ?_<;>intro _)|fail)
  exact Za rfl
 ·obtain ⟨g1,g2⟩:=Yjf hp (by omega)
  have hd:=hp.d
  unfold i64 at hd
  have hw:Qa Qb ((g4 p:Nat):Int)=(g4 p:Nat):=W_eq (by omega) (by omega)
  rw [hw] at hk
  by_cases h2:g4 p=1
  ·rw [h2] at hk
   by_cases h3:100000<p.d
   ·have e:Xh p=2:=by unfold Xh; rw [if_neg (by omega),if_pos h3]
    rw [e];refine pn hk Tryz.func159 ?_
    repeat'(first|refine wk1 ?_|(refine wk2 ?_ ?_<;>intro _)|fail)
    exact Za rfl
   ·obtain ⟨m1,m2⟩:=Yf1 (d:=p.d) (by omega) (by omega)
    have e:Xh p=if ptIn p then 0 else 2:=by unfold Xh; rw [if_neg (by omega),if_neg h3]
    have e2:∀ x,small x (Qa Qb (5000*p.d))=within x (-(5000*p.d)) (5000*p.d):=fun x=>by unfold small; rw [m2,m1]
    rw [e];unfold ptIn;rw [<-e2,<-e2,<-e2];refine pn hk Tryz.func159 ?_
    repeat'(first|refine wk1 ?_|(refine wk2 ?_ ?_<;>intro _)|fail)
    all_goals (clear hk hc m1 m2 e2)
    all_goals exact Za (by simp_all [unl])
  ·have e:Xh p=3:=by unfold Xh; rw [if_pos (.inr h2)]
   rw [e];have h4:(1:Int)<(g4 p:Nat):=by omega
   refine pn hk Tryz.func159 ?_
   repeat'(first|refine wk1 ?_|(refine wk2 ?_ ?_<;>intro _)|fail)
   all_goals clear hk hc
   all_goals first
    | exact Za rfl
    | (exfalso; simp_all; done)
    | (exfalso; simp_all; omega)
noncomputable abbrev gcds:List AV->Option PRes:=famA (fun p:Int × Int=>i64 p.1/\i64 p.2) (fun p=>[I p.1,I p.2]) (fun p=>⟨I (Qa Qb ((Tl p.1.natAbs p.2.natAbs:Nat):Int)),[]⟩)
theorem Zn8 {a b:Int} (ha:i64 a) (hb:i64 b):gcds [I a,I b]=some ⟨I (Qa Qb ((Tl a.natAbs b.natAbs:Nat):Int)),[]⟩ :=
 Zm (p:=fun p:Int × Int=>i64 p.1/\i64 p.2) (g:=fun p=>[I p.1,I p.2]) (r:=fun p=>⟨I (Qa Qb ((Tl p.1.natAbs p.2.natAbs:Nat):Int)),[]⟩) (k:=(a,b)) (fun j hj=>by
  simp only [Qs,Sr,true_and,and_true] at hj
  obtain ⟨h1,h2⟩:=hj
  dsimp only
  rw [h1,h2]) ⟨ha,hb⟩
noncomputable def kGc:PC:=ins 208 gcds kR1
theorem Yix:PCOK Tryz.prog kGc:=Zo (fun p hp=>c120 hp.1 hp.2) Zpz
def insE (h:Hal) (p:Pt):Int:=if h.err=0 then Xh p else h.err
theorem Yft {p:Pt} (h:Xh p=0):PtOk p.x p.y p.d:=by
 obtain ⟨h1,h2,_,h4⟩:=Ze3 h
 unfold ptIn at h4
 simp only [Qc,within_iff] at h4
 exact ⟨h1,by omega,by omega,by omega⟩
theorem c50 {h:Hal} (hk:h.ok) {p:Pt} (hp:p.wf):PCall Tryz.prog 106 [h.av,p.av] ⟨.tup [Bo (decide (insE h p=0)&&Za2 h p),I (insE h p)],[]⟩:=by
 have hk0:=Zd (c76 hk) (Zd (c99 hp) Zc)
 by_cases he:h.err=0
 ·have hi:insE h p=Xh p:=by unfold insE; rw [if_pos he]
  rw [hi]
  by_cases hq:Xh p=0
  ·have hf:=Zld hk he
   have e:Za2 h p=Zwd h p.x p.y p.z p.d:=by
    unfold Za2 Zwd;rw [Uo hf.st p.z (Yft hq)]
   have hk1:=Zd (c124 hk.f p.x p.y p.z p.d) hk0;rw [hq,he] at hk1;rw [hq,e];refine pn hk1 Tryz.func106 ?_
   repeat'(first|refine wk1 ?_|(refine wk2 ?_ ?_<;>intro _)|fail)
   exact Ze (by simp) rfl
  ·rw [he] at hk0
   rw [decide_eq_false hq];refine pn hk0 Tryz.func106 ?_
   repeat'(first|refine wk1 ?_|(refine wk2 ?_ ?_<;>intro _)|fail)
   exact Ze rfl rfl
 ·have hi:insE h p=h.err:=by unfold insE; rw [if_neg he]
  rw [hi,decide_eq_false he]
  refine pn hk0 Tryz.func106 ?_
  repeat'(first|refine wk1 ?_|(refine wk2 ?_ ?_<;>intro _)|fail)
  exact Ze rfl rfl
theorem Yfd (n:Nat):∃ r,r*r<=n/\n<(r+1)*(r+1):=by
 induction n with
 | zero=>exact ⟨0,by decide,by decide⟩
 | succ n ih =>
  obtain ⟨r,h1,h2⟩:=ih
  by_cases h:(r+1)*(r+1)<=n+1
  ·refine ⟨r+1,h,?_⟩
   have:(r+1+1)*(r+1+1)=(r+1)*(r+1)+2*(r+1)+1:=by grind
   omega
  ·exact ⟨r,by omega,by omega⟩
noncomputable def isq (n:Int):Int:=(Ms (Yfd n.toNat):Nat)
theorem Ze8 {n:Int} (h:0<=n):0<=isq n/\isq n*isq n<=n/\n<(isq n+1)*(isq n+1):=by
 obtain ⟨h1,h2⟩:=Classical.choose_spec (Yfd n.toNat)
 unfold isq
 generalize Ms (Yfd n.toNat)=r at *
 refine ⟨by omega,?_,?_⟩
 ·have:((r*r:Nat):Int)<=(n.toNat:Int):=by exact_mod_cast h1
  rw [Jb] at this; omega
 ·have:((n.toNat:Nat):Int)<(((r+1)*(r+1):Nat):Int):=by exact_mod_cast h2
  rw [Jb] at this
  have e:((r+1:Nat):Int)=(r:Int)+1:=by omega
  rw [e] at this; omega
theorem Zxc {a b:Int} (ha:0<=a) (h:a<=b):a*a<=b*b:=Ol h h ha (by omega)
theorem Zrz {a b:Int} (hb:0<=b) (h:a*a<b*b) (ha:0<=a):a<b:=by
 rcases Nb a b with h1|h1
 ·exact h1
 ·have:=Zxc hb h1; omega
theorem Zmy {n r:Int} (h0:0<=n) (hr:0<=r) (h1:r*r<=n) (h2:n<(r+1)*(r+1)):r=isq n:=by
 obtain ⟨g0,g1,g2⟩:=Ze8 h0
 have a1:=Zrz (a:=r) (b:=isq n+1) (by omega) (by omega) hr
 have a2:=Zrz (a:=isq n) (b:=r+1) (by omega) (by omega) g0
 omega
theorem Zxd {r B:Int} (h0:0<=r) (h1:r<=B):0<=r*r/\r*r<=B*B:=⟨Qq h0 h0,Zxc h0 h1⟩
def bk:Nat->Int
 | 0=>0
 | k+1=>((2 ^ k:Nat):Int)
theorem Yhj (k:Nat):Qa Qb ((bk (k+1)).tdiv 2)=bk k\/62<=k:=by
 by_cases hk:62<=k
 ·exact .inr hk
 refine .inl ?_
 have hb:2 ^ k<=2 ^ 62:=Sk (by decide) (by omega)
 unfold bk
 cases k with
 | zero=>decide
 | succ k =>
  dsimp only
  have e:((2 ^ (k+1):Nat):Int).tdiv 2=((2 ^ k:Nat):Int):=by
   rw [Om (Jt _)];rw [Qab]; omega
  rw [e]
  rw [Qab] at hb
  have h1:(0:Int)<=((2 ^ k:Nat):Int):=Jt _
  exact W_eq (by omega) (by omega)
noncomputable def cr (n:Int):Int:=if isq n*isq n<n then isq n+1 else isq n
theorem Zus {n b:Int} (hb:0<b):(n.tmod b<0/\n / b=n.tdiv b-1)\/(¬ n.tmod b<0/\n / b=n.tdiv b):=by
 have e1:=Int.tmod_add_mul_tdiv n b
 have e2:=Dm n hb
 have e3:=Do n hb
 by_cases h:n.tmod b<0
 ·exact .inl ⟨h,((Mm hb (r:=n.tmod b+b)).2 ⟨by rw [Int.mul_sub]; omega,by omega,by omega⟩).1⟩
 ·exact .inr ⟨h,((Mm hb (r:=n.tmod b)).2 ⟨by omega,by omega,by omega⟩).1⟩
theorem c90 {n b:Int} (hb:0<b) (h0 : -9223372036854775807<=n) (h1:n<=9223372036854775807):PCall Tryz.prog 89 [I n,I b] ⟨I (n / b),[]⟩:=by
 have hq:=Jz n b
 have e:Qa Qb (n.tdiv b)=n.tdiv b:=W_eq (by omega) (by omega)
 have hm:Qa Qb (n.tmod b)=n.tmod b:=by
  have:=Dm n hb
  have e3:=Do n hb
  have e4:(n.tmod b).natAbs<=n.natAbs:=by rw [Li]; exact Nat.mod_le _ _
  exact W_eq (by omega) (by omega)
 have hz:¬ b=0:=by omega
 refine pn Zc Tryz.func89 ?_
 rcases Zus (n:=n) hb with ⟨c1,c2⟩|⟨c1,c2⟩
 ·have e5:Qa Qb (n.tdiv b-1)=n.tdiv b-1:=W_eq (by omega) (by omega)
  rw [c2]
  repeat'(first|refine wk1 ?_|(refine wk2 ?_ ?_<;>intro _)|fail)
  all_goals exact Za (by rw [e,e5])
 ·rw [c2]
  repeat'(first|refine wk1 ?_|(refine wk2 ?_ ?_<;>intro _)|fail)
  all_goals exact Za (by omega)
theorem c91 {n b:Int} (hb:0<b) (h0 : -9223372036854775807<=n) (h1:n<=9223372036854775807):PCall Tryz.prog 90 [I n,I b] ⟨I (-((-n) / b)),[]⟩:=by
 have e1:Qa Qb (0-n) = -n:=by rw [W_eq (by omega) (by omega)]; omega
 have hk:=Zd (c90 (n:=-n) hb (by omega) (by omega)) Zc
 rw [<-e1] at hk
 refine pn hk Tryz.func90 ?_
 have hq:(-n / b).natAbs<=(-n).natAbs:=Hb _ _
 repeat'(first|refine wk1 ?_|(refine wk2 ?_ ?_<;>intro _)|fail)
 rw [e1]
 exact Za (by rw [W_eq (by omega) (by omega)]; omega)
theorem Zz7 {y:Nat} {r:Int} (h:floatToIntVal .f64 y .i64=some r):Zio (tget tbl) 295 3 (.flt .f64 y)=some (I r):=by
 unfold floatToIntVal at h
 show (match (FloatKind.f64.decode y).toInt .zero with
  | some n=>cond (decide (IntKind.i64.min<=n/\n<=IntKind.i64.max)) (some (AV.int .i64 n)) none
  | none=>none)=_
 split at h
 ·rename_i n hn
  rw [hn]
  dsimp only
  split at h
  ·rename_i hr
   cases h;rw [decide_eq_true hr]; rfl
  ·cases h
 ·cases h
theorem d211 {n:Int} (h0:0<=n) (h1:n<4611686018427387000):PCall Tryz.prog 145 [I n] ⟨I (isq n),[]⟩:=by
 obtain ⟨y,r0,e1,e2,e3,e4⟩:=Ybi h0 h1
 refine pn (Zd (c202 e1) Zc) Tryz.func145 ?_
 have hc:=Zz7 e2
 repeat'(first|refine wk1 ?_|(refine wk2 ?_ ?_<;>intro _)|fail)
 split
 rotate_left
 ·rename_i hx
  exfalso
  change ret (Zio (tget tbl) 295 3 (.flt .f64 y))=none at hx
  rw [hc] at hx
  cases hx
 rename_i x hx
 change ret (Zio (tget tbl) 295 3 (.flt .f64 y))=some x at hx
 rw [hc] at hx
 cases hx
 repeat'(first|refine wk1 ?_|(refine wk2 ?_ ?_<;>intro _)|fail)
 refine Zr (S:=Int) (fun t=>t.toNat) (fun t=>[(0,I n),(3,I t)]) (fun _=>[]) 0 0 (fun t=>0<=t/\t<=2147483648) r0 ⟨e3,e4⟩ (Qd _) [] rfl (kps) (kps) ?_
 clear e1 e2 e3 e4
 rintro r ⟨g1,g2⟩
 try dsimp only at g1 g2 ⊢
 have hb:=Zxd g1 g2
 have hw:Qa Qb (r*r)=r*r:=W_eq (by omega) (by omega)
 refine bs.av (sx:=nos) Zc ?_
 by_cases hc:n<r*r
 ·have hp:0<r:=by
   rcases Nb 0 r with h|h
   ·exact h
   ·have:r=0:=by omega
    subst this; omega
  repeat'(first|refine wk1 ?_|(refine wk2 ?_ ?_<;>intro _)|fail)
  have hv:Qa Qb (r-1)=r-1:=W_eq (by omega) (by omega)
  exact Ql ⟨_,[],rfl,kps,kps,⟨by omega,by omega⟩,by omega⟩
 ·repeat'(first|refine wk1 ?_|(refine wk2 ?_ ?_<;>intro _)|fail)
  refine Zr (S:=Int) (fun t=>(n-t).toNat) (fun t=>[(0,I n),(3,I t)]) (fun _=>[]) 0 0 (fun t=>0<=t/\t*t<=n) r ⟨g1,by omega⟩ (Qd _) [] rfl (kps) (kps) ?_
  clear hc hw hb g1 g2
  rintro r ⟨g1,g2⟩
  try dsimp only at g1 g2 ⊢
  have g3:r<2147483648:=Zrz (by omega) (by omega) g1
  have hw1:Qa Qb (r+1)=r+1:=W_eq (by omega) (by omega)
  have hb:=Zxd (r:=r+1) (B:=2147483648) (by omega) (by omega)
  have hw2:Qa Qb (Qa Qb (r+1)*Qa Qb (r+1))=(r+1)*(r+1):=by rw [hw1]; exact W_eq (by omega) (by omega)
  refine bs.av (sx:=nos) Zc ?_
  by_cases hc:(r+1)*(r+1)<=n
  ·repeat'(first|refine wk1 ?_|(refine wk2 ?_ ?_<;>intro _)|fail)
   have hrn:r<n:=by
    have:(r+1)*(r+1)=r*r+2*r+1:=by grind
    have hz:=Qq g1 g1;omega
   exact Ql ⟨_,[],rfl,kps,kps,⟨by omega,by rw [hw1]; exact hc⟩,by rw [hw1]; omega⟩
  ·repeat'(first|refine wk1 ?_|(refine wk2 ?_ ?_<;>intro _)|fail)
   exact Za (Zmy h0 g1 g2 (by omega))
theorem d172 {n:Int} (h0:0<=n) (h1:n<4611686018427387000):PCall Tryz.prog 139 [I n] ⟨I (isq n),[]⟩:=by
 refine pn Zc Tryz.func139 ?_
 conv=>whnf
 refine Zr (S:=Nat × Int) (fun t=>t.1) (fun t=>[(0,I n),(3,I t.2),(4,I (bk t.1))]) (fun _=>[]) 0 0 (fun t=>t.1<=31/\(0<=t.2/\t.2+((2 ^ t.1:Nat):Int)<=2147483648)/\t.2*t.2<=n/\n<(t.2+((2 ^ t.1:Nat):Int))*(t.2+((2 ^ t.1:Nat):Int))) (31,0) ⟨by decide,⟨by decide,by decide⟩,by simpa using h0,by
  have:((0:Int)+((2 ^ 31:Nat):Int))*(0+((2 ^ 31:Nat):Int))=4611686018427387904:=by decide
  show n<((0:Int)+((2 ^ 31:Nat):Int))*(0+((2 ^ 31:Nat):Int))
  omega⟩ (Qd _) [] rfl (kps) (kps) ?_
 rintro ⟨k,r⟩ ⟨g0,⟨g1,g5⟩,g2,g3⟩
 dsimp only at g0 g1 g2 g3 g5 ⊢
 have g4:r<2147483648:=Zrz (by omega) (by omega) g1
 refine bs.av (sx:=nos) Zc ?_
 cases k with
 | zero =>
  repeat'(first|refine wk1 ?_|(refine wk2 ?_ ?_<;>intro _)|fail)
  exact Za (Zmy h0 g1 g2 (by simpa using g3))
 | succ k =>
  have hb:2 ^ k<=2 ^ 30:=Sk (by decide) (by omega)
  have hp:0<2 ^ k:=Nat.pow_pos (by decide)
  have hh:Qa Qb ((bk (k+1)).tdiv 2)=bk k:=(Yhj k).resolve_right (by omega)
  have hk1:bk (k+1)=((2 ^ k:Nat):Int):=rfl
  have e2:((2 ^ (k+1):Nat):Int)=2*((2 ^ k:Nat):Int):=by rw [Qab]; omega
  rw [e2] at g3 g5
  rw [hk1] at hh ⊢
  generalize hbk:((2 ^ k:Nat):Int)=b at *
  have hb' : 0<b/\b<=1073741824:=by omega
  have hw1:Qa Qb (r+b)=r+b:=W_eq (by omega) (by omega)
  have hq:=Zxd (r:=r+b) (B:=2147483648) (by omega) (by omega)
  have hw2:Qa Qb (Qa Qb (r+b)*Qa Qb (r+b))=(r+b)*(r+b):=by rw [hw1]; exact W_eq (by omega) (by omega)
  by_cases hc:(r+b)*(r+b)<=n
  ·repeat'(first|refine wk1 ?_|(refine wk2 ?_ ?_<;>intro _)|fail)
   exact Ql ⟨(k,Qa Qb (r+b)),[],rfl,by rw [<-hh]; exact kps,kps,⟨by omega,⟨by dsimp only; omega,by dsimp only; rw [hbk,hw1]; omega⟩,by dsimp only; rw [hw1]; exact hc,by
    dsimp only;rw [hw1];have:r+b+b=r+2*b:=by omega
    rw [hbk,this]; exact g3⟩,by dsimp only; omega⟩
  ·repeat'(first|refine wk1 ?_|(refine wk2 ?_ ?_<;>intro _)|fail)
   exact Ql ⟨(k,r),[],rfl,by rw [<-hh]; exact kps,kps,⟨by omega,⟨g1,by dsimp only; rw [hbk]; omega⟩,g2,by dsimp only; rw [hbk]; omega⟩,by dsimp only; omega⟩
theorem d173 {n:Int} (h0:0<=n) (h1:n<4611686018427387000):PCall Tryz.prog 140 [I n] ⟨I (if isq n*isq n<n then isq n+1 else isq n),[]⟩:=by
 obtain ⟨g1,g2,g3⟩:=Ze8 h0
 have g4:isq n<2147483648:=Zrz (by omega) (by omega) g1
 have hb:=Zxd g1 (show isq n<=2147483648 by omega)
 have hw:Qa Qb (isq n*isq n)=isq n*isq n:=W_eq (by omega) (by omega)
 have hw2:Qa Qb (isq n+1)=isq n+1:=W_eq (by omega) (by omega)
 refine pn (Zd (d172 h0 h1) Zc) Tryz.func140 ?_
 by_cases hc:isq n*isq n<n
 ·rw [if_pos hc]
  repeat'(first|refine wk1 ?_|(refine wk2 ?_ ?_<;>intro _)|fail)
  exact Za hw2
 ·rw [if_neg hc]
  repeat'(first|refine wk1 ?_|(refine wk2 ?_ ?_<;>intro _)|fail)
  exact Za rfl
structure Pth where
 ss:List Int
 ps:List (Int × Int × Int × Int)
 sq:Int
abbrev hp4 (p:Int × Int × Int × Int):List AV:=[I p.1,I p.2.1,I p.2.2.1,I p.2.2.2]
abbrev Pth.av (p:Pth):AV:=.agg [.isl 1 (nl p.ss),.isl 4 (p.ps.map hp4),I p.sq]
def pthE (p:Pth):Int:=if (p.ps.length:Int)=p.ss.length then (if 4<(p.ss.length:Int) then 8 else (if within p.sq 1 24300000000 then 0 else 2)) else 10
theorem Ul {p:Pth} (h:pthE p=0):(p.ss.length<=4/\p.ps.length=p.ss.length)/\1<=p.sq/\p.sq<=24300000000:=by
 unfold pthE at h
 split at h
 ·split at h
  ·cases h
  ·split at h
   ·rename_i a b c
    have:=within_iff.1 c;omega
   ·cases h
 ·cases h
theorem d210 (n lo hi:Int):PCall Tryz.prog 108 [I n,I lo,I hi] ⟨Bo (within n lo hi),[]⟩:=by
 refine pn Zc Tryz.func108 ?_
 repeat'(first|refine wk3 ?_|(refine wk2 ?_ ?_<;>intro _)|fail)
 all_goals exact Zb (by simp_all [within]<;>omega)
theorem d209 (b:Bool) (e:Int):PCall Tryz.prog 66 [Bo b,I e] ⟨I (unl b e),[]⟩:=by
 refine pn Zc Tryz.func66 ?_
 repeat'(first|refine wk3 ?_|(refine wk2 ?_ ?_<;>intro _)|fail)
 all_goals exact Za (by simp_all [unl])
noncomputable def lenV (sq:Int):Int × Int:=(isq (sq*100000000),cr (sq*100000000))
theorem Zk2 {sq:Int} (h0:1<=sq) (h1:sq<=24300000000):(0<=(lenV sq).1/\(lenV sq).1<2147483648)/\(lenV sq).1<=(lenV sq).2/\(lenV sq).2<=(lenV sq).1+1:=by
 obtain ⟨g1,g2,g3⟩:=Ze8 (n:=sq*100000000) (by omega)
 have g4:isq (sq*100000000)<2147483648:=Zrz (by omega) (by omega) g1
 unfold lenV cr
 dsimp only
 split<;>omega
theorem d163 {p:Pth} (h:pthE p=0):PCall Tryz.prog 95 [p.av] ⟨P2 (lenV p.sq).1 (lenV p.sq).2,[]⟩:=by
 obtain ⟨_,s1,s2⟩:=Ul h
 have w1:Qa Qb (p.sq*100000000)=p.sq*100000000:=W_eq (by omega) (by omega)
 obtain ⟨g1,g2,g3⟩:=Ze8 (n:=p.sq*100000000) (by omega)
 have g4:isq (p.sq*100000000)<2147483648:=Zrz (by omega) (by omega) g1
 have hb:=Zxd g1 (show isq (p.sq*100000000)<=2147483648 by omega)
 have h0:=Zd (d211 (n:=p.sq*100000000) (by omega) (by omega)) Zc
 unfold lenV cr
 rw [<-w1] at g1 g2 g3 g4 hb h0 ⊢
 have w2:Qa Qb (isq (Qa Qb (p.sq*100000000))*isq (Qa Qb (p.sq*100000000)))=isq (Qa Qb (p.sq*100000000))*isq (Qa Qb (p.sq*100000000)):=W_eq (by omega) (by omega)
 have w3:Qa Qb (isq (Qa Qb (p.sq*100000000))+1)=isq (Qa Qb (p.sq*100000000))+1:=W_eq (by omega) (by omega)
 generalize isq (Qa Qb (p.sq*100000000))=r at *
 dsimp only
 by_cases c:r*r<Qa Qb (p.sq*100000000)
 ·rw [if_pos c,<-w3]
  rw [<-w2] at c
  refine pn h0 Tryz.func95 ?_
  repeat'(first|refine wk3 ?_|(refine wk2 ?_ ?_<;>intro _)|fail)
  all_goals exact Ze rfl rfl
 ·rw [if_neg c]
  rw [<-w2] at c
  refine pn h0 Tryz.func95 ?_
  repeat'(first|refine wk3 ?_|(refine wk2 ?_ ?_<;>intro _)|fail)
  all_goals exact Ze rfl rfl
noncomputable def lenP (p:Pth):Int × Int:=if pthE p=0 then lenV p.sq else (0,0)
theorem d99 {sq:Int} (s1:1<=sq) (s2:sq<=24300000000):PCall Tryz.prog 88 [I sq] ⟨P2 (lenV sq).1 (lenV sq).2,[]⟩:=by
 have w1:Qa Qb (sq*100000000)=sq*100000000:=W_eq (by omega) (by omega)
 have h0:=Zd (d172 (n:=sq*100000000) (by omega) (by omega)) (Zd (d173 (n:=sq*100000000) (by omega) (by omega)) Zc)
 unfold lenV cr
 rw [<-w1] at h0 ⊢
 dsimp only
 refine pn h0 Tryz.func88 ?_
 repeat'(first|refine wk3 ?_|(refine wk2 ?_ ?_<;>intro _)|fail)
 exact Ze rfl rfl
abbrev flOk (n b:Int):Prop:=0<b /\ -9223372036854775807<=n/\n<=9223372036854775807
theorem d95 {n b:Int} (h:flOk n b):PCall Tryz.prog 89 [I n,I b] ⟨I (n / b),[]⟩:=by
 obtain ⟨hb,h0,h1⟩:=h
 have hq:=Jz n b
 have e:Qa Qb (n.tdiv b)=n.tdiv b:=W_eq (by omega) (by omega)
 have hz:¬ b=0:=by omega
 refine pn Zc Tryz.func89 ?_
 rcases Zus (n:=n) hb with ⟨c1,c2⟩|⟨c1,c2⟩
 ·have e5:Qa Qb (n.tdiv b-1)=n.tdiv b-1:=W_eq (by omega) (by omega)
  rw [c2]
  repeat'(first|refine wk1 ?_|(refine wk2 ?_ ?_<;>intro _)|fail)
  all_goals exact Za (by rw [e,e5])
 ·rw [c2]
  repeat'(first|refine wk1 ?_|(refine wk2 ?_ ?_<;>intro _)|fail)
  all_goals exact Za (by omega)
theorem d96 {n b:Int} (h:flOk n b):PCall Tryz.prog 90 [I n,I b] ⟨I (-((-n) / b)),[]⟩:=by
 obtain ⟨hb,h0,h1⟩:=h
 have e1:Qa Qb (0-n) = -n:=by rw [W_eq (by omega) (by omega)]; omega
 have hk:=Zd (d95 (n:=-n) (b:=b) ⟨hb,by omega,by omega⟩) Zc
 rw [<-e1] at hk
 refine pn hk Tryz.func90 ?_
 have hq:(-n / b).natAbs<=(-n).natAbs:=Hb _ _
 repeat'(first|refine wk1 ?_|(refine wk2 ?_ ?_<;>intro _)|fail)
 rw [e1]
 exact Za (by rw [W_eq (by omega) (by omega)]; omega)
def rFl:List AV->Option PRes
 | [.int .i64 n,.int .i64 b]=>asr (decide (flOk n b)) ⟨I (n / b),[]⟩
 | _=>none
def rCl:List AV->Option PRes
 | [.int .i64 n,.int .i64 b]=>asr (decide (flOk n b)) ⟨I (-((-n) / b)),[]⟩
 | _=>none
theorem Yji {n b:Int} (h:flOk n b):rFl [I n,I b]=some ⟨I (n / b),[]⟩:=Yn h
theorem Yj0 {n b:Int} (h:flOk n b):rCl [I n,I b]=some ⟨I (-((-n) / b)),[]⟩:=Yn h
def fstL:List Int->Int
 | []=>0
 | x::l=>if x≠0 then x else fstL l
theorem Zy4 (x:Int) (l:List Int):fstL (x::l)=if x≠0 then x else fstL l:=rfl
theorem d78 {l:List Int} (hl:l.length<1000):PCall Tryz.prog 64 [.isl 1 (nl l)] ⟨I (fstL l),[]⟩:=by
 have l2:=Zk l
 refine pn Zc Tryz.func64 ?_
 repeat'(first|refine wk3 ?_|(refine wk2 ?_ ?_<;>intro _)|fail)
 refine Zr (S:=Nat × Int) (fun t=>l.length-t.1) (fun t=>[(5,.isl 1 (nl l)),(6,I (nl l).length),(7,I t.2)]) (fun _=>[]) 0 0 (fun t=>t.2=t.1/\t.1<=l.length/\fstL (l.drop t.1)=fstL l) (0,0) ⟨rfl,Qn _,rfl⟩ (Qd _) [] rfl (kps) (kps) ?_
 rintro ⟨k,i⟩ ⟨hi,hk,hh⟩
 dsimp only at hi hk hh ⊢
 subst hi
 generalize fstL l=R at *
 refine bs.av (sx:=nos) Zc ?_
 by_cases hlt:k<l.length
 ·have e1:=Xx hlt
  rw [Qi hlt,Zy4] at hh
  generalize l[k]=x at *
  by_cases hx:x=0
  ·rw [if_neg (fun c=>c hx)] at hh
   repeat'(first|refine wk3 ?_|(refine wk2 ?_ ?_<;>intro _)|fail)
   exact Ql ⟨(k+1,_),[],rfl,kps,kps,⟨Zg (by omega),hlt,hh⟩,by dsimp only; omega⟩
  ·rw [if_pos hx] at hh
   subst hh
   repeat'(first|refine wk3 ?_|(refine wk2 ?_ ?_<;>intro _)|fail)
   exact Za rfl
 ·rw [Qk (by omega)] at hh
  repeat'(first|refine wk3 ?_|(refine wk2 ?_ ?_<;>intro _)|fail)
  exact Za hh
def r78f:List AV->Option PRes
 | [.isl 1 l]=>match numsOf l with
  | some ns=>asr (Nat.blt ns.length 1000) ⟨I (fstL ns),[]⟩
  | none=>none
 | _=>none
where
 numsOf:List (List AV)->Option (List Int)
  | []=>some []
  | [.int .i64 n]::l=>match numsOf l with
   | some ns=>some (n::ns)
   | none=>none
  | _=>none
theorem Zpk:∀ {l:List (List AV)} {ns:List Int},r78f.numsOf l=some ns->l=nl ns
 | [],ns,h=>by cases h; rfl
 | e::l,ns,h=>by
  unfold r78f.numsOf at h
  split at h
  ·rename_i h0; cases h0
  ·rename_i n l' h0
   cases h0;split at h
   ·rename_i ms hm
    cases h;rw [Zpk hm]; rfl
   ·cases h
  ·cases h
theorem d86 (n m:Int):PCall Tryz.prog 105 [I n,I m] ⟨Bo (small n m),[]⟩:=by
 have hk:PCOK Tryz.prog (ins 108 (fun a=>match a with
  | [.int .i64 n,.int .i64 lo,.int .i64 hi]=>some ⟨Bo (within n lo hi),[]⟩
  | _=>none) pt0):=Zh (fun a res h=>by split at h<;>cases h; exact d210 _ _ _) Zc
 refine pn hk Tryz.func105 ?_
 repeat'(first|refine wk3 ?_|(refine wk2 ?_ ?_<;>intro _)|fail)
 exact Zb rfl
def rWu:List AV->Option PRes
 | [.int .i64 n,.int .i64 lo,.int .i64 hi]=>some ⟨Bo (within n lo hi),[]⟩
 | _=>none
def rUn:List AV->Option PRes
 | [.bool b,.int .i64 e]=>some ⟨I (unl b e),[]⟩
 | _=>none
def kI0:PC:=ins 64 r78f (ins 66 rUn (ins 108 rWu (ins 105 r92 k78)))
theorem Zud:PCOK Tryz.prog kI0:=by
 refine Zh (fun a res h=>?_) (Zh (fun a res h=>?_) (Zh (fun a res h=>?_) (Zh (fun a res h=>?_) Zuf)))
 ·unfold r78f at h
  split at h
  ·split at h
   ·rename_i ns hn
    obtain ⟨h1,rfl⟩:=Yx h;rw [Zpk hn];exact d78 (by simpa [Nat.blt_eq] using h1)
   ·cases h
  ·cases h
 ·unfold rUn at h; split at h<;>cases h; exact d209 _ _
 ·unfold rWu at h; split at h<;>cases h; exact d210 _ _ _
 ·unfold r92 at h; split at h<;>cases h; exact d86 _ _
theorem Yb3 (p:Pth):pthE p=fstL [unl (decide (((p.ps.map hp4).length:Int)=((nl p.ss).length:Int))) 10,unl (decide (((nl p.ss).length:Int)<=4)) 8,unl (within p.sq 1 24300000000) 2]:=by
 have l1:(p.ps.map hp4).length=p.ps.length:=by simp
 rw [l1,Zk]
 unfold pthE fstL fstL fstL fstL unl
 by_cases c1:(p.ps.length:Int)=p.ss.length
 ·by_cases c2:4<(p.ss.length:Int)
  ·rw [if_pos c1,if_pos c2,decide_eq_true c1,decide_eq_false (by omega)]; rfl
  ·rw [if_pos c1,if_neg c2,decide_eq_true c1,decide_eq_true (by omega)]; cases within p.sq 1 24300000000<;>rfl
 ·rw [if_neg c1,decide_eq_false c1]; rfl
theorem d162 (p:Pth):PCall Tryz.prog 74 [p.av] ⟨I (pthE p),[]⟩:=by
 rw [Yb3]
 refine pn Zud Tryz.func74 ?_
 repeat'(first|refine wk3 ?_|(refine wk2 ?_ ?_<;>intro _)|fail)
 exact Za rfl
def spE (n:Int):Int:=unl (within n 30000 40000) 2
theorem d99s (n:Int):PCall Tryz.prog 75 [I n] ⟨I (spE n),[]⟩:=by
 refine pn Zud Tryz.func75 ?_
 repeat'(first|refine wk3 ?_|(refine wk2 ?_ ?_<;>intro _)|fail)
 exact Za rfl
abbrev Yjj (h:Hal):Prop:=(9<h.ws.length/\h.ws.length<=12)\/14<h.ws.length\/14<h.cs.length\/4<h.ms.length\/2<h.ks.length\/3<h.ss.length
def Zmn (h:Hal):Bool:=Yo h.nm&&Yo h.fl&&Yo h.ce
def few2 (h:Hal):Bool:=(!decide (Yjj h)&&Zmn h)&&(h.ws.all fewW&&(h.ms.all fewM&&(h.ks.all fewC&&h.ss.all fewS)))
theorem Yg0 {h:Hal} (hb:few2 h=true):h.ok:=by
 unfold few2 Zmn at hb
 simp only [Qc,Sz,decide_eq_false_iff_not] at hb
 obtain ⟨⟨hL,⟨n1,n2⟩,n3⟩,m2,m1,m3,m4⟩:=hb
 have hL:¬ ((9<h.ws.length/\h.ws.length<=12)\/14<h.ws.length\/14<h.cs.length\/4<h.ms.length\/2<h.ks.length\/3<h.ss.length):=hL
 rw [List.all_eq_true] at m1 m2 m3 m4
 refine ⟨⟨by omega,by omega,by omega,by omega,by omega,fun c hc=>?_⟩,⟨Zcj n1,fun m hm=>Zcj (m1 m hm),fun m hm=>?_,fun m hm=>?_,fun m hm=>Zcj (m4 m hm)⟩⟩
 ·have:=m3 c hc
  unfold fewC at this
  simp only [Qc,Sz,decide_eq_false_iff_not] at this
  omega
 ·have:=m2 m hm
  unfold fewW at this
  simp only [Qc] at this
  exact Zcj this.1.1
 ·have:=m3 m hm
  unfold fewC at this
  simp only [Qc] at this
  exact Zcj this.1.1
theorem sh_n {s:ByteArray} (h:Yo s=true):¬ (20:Int)<(s.size:Int):=by
 unfold Yo at h
 simpa using h
theorem d80 (h:Hal):PCall Tryz.prog 30 [h.av] ⟨Bo (few2 h),[]⟩:=by
 have l1:=Zao h.ms
 have l2:(h.cs.map pt).length=h.cs.length:=by simp
 have l3:=Yh h.ws
 have l4:=Xd h.ks
 have l5:=Zef h.ss
 by_cases hP:Yjj h
 ·have e0:few2 h=false:=by unfold few2; rw [decide_eq_true hP]; rfl
  rw [e0]
  clear e0
  have hP:(9<h.ws.length/\h.ws.length<=12)\/14<h.ws.length\/14<h.cs.length\/4<h.ms.length\/2<h.ks.length\/3<h.ss.length:=hP
  refine pn Zc Tryz.func30 ?_
  repeat'(first|refine wk3 ?_|(refine wk2 ?_ ?_<;>intro _)|fail)
  all_goals first
   | exact Zb rfl
   | (exfalso; simp_all; omega)
 have hP' : ¬ ((9<h.ws.length/\h.ws.length<=12)\/14<h.ws.length\/14<h.cs.length\/4<h.ms.length\/2<h.ks.length\/3<h.ss.length):=hP
 have hw:h.ws.length<=9\/12<h.ws.length:=by omega
 unfold few2
 rw [decide_eq_false hP,Bool.not_false,Wo]
 clear hP
 by_cases hN:Zmn h=true
 rotate_left
 ·have hN:Zmn h=false:=by simpa using hN
  rw [hN,Bool.false_and]
  unfold Zmn at hN
  rcases hw with hw|hw
  all_goals
   refine pn Zc Tryz.func30 ?_
   repeat'(first|refine wk3 ?_|(refine wk2 ?_ ?_<;>intro _)|fail)
  all_goals first
   | exact Zb rfl
   | (exfalso; simp_all [Yo]; done)
   | (exfalso; simp_all [Yo]; omega)
 rw [hN,Wo]
 unfold Zmn at hN
 simp only [Qc] at hN
 obtain ⟨⟨n1,n2⟩,n3⟩:=hN
 have n1:=sh_n n1
 have n2:=sh_n n2
 have n3:=sh_n n3
 generalize hE:(h.ws.all fewW&&(h.ms.all fewM&&(h.ks.all fewC&&h.ss.all fewS)))=R
 rcases hw with hw|hw
 all_goals
  refine pn Zc Tryz.func30 ?_
  repeat'(first|refine wk3 ?_|(refine wk2 ?_ ?_<;>intro _)|fail)
  clear n1 n2 n3
  subst hE
  generalize hV:(h.ms.all fewM&&(h.ks.all fewC&&h.ss.all fewS))=V
  refine Zr (S:=Nat × Int) (fun t=>h.ws.length-t.1) (fun t=>[(1,.ptr 0 0 0),(2,Bo false),(3,I t.2)]) (fun _=>[(0,.row 9 [h.cells] true false)]) 1 1 (fun t=>t.2=t.1/\t.1<=h.ws.length/\((h.ws.drop t.1).all fewW&&V)=(h.ws.all fewW&&V)) (0,0) ⟨rfl,Qn _,rfl⟩ (Qd _) [] rfl (kps) (kps) ?_
  rintro ⟨k,i⟩ ⟨hi,hk,hh⟩
  dsimp only at hi hk hh ⊢
  subst hi
  generalize hB:(h.ws.all fewW&&V)=B at *
  clear hB
  refine bs.av (sx:=nos) Zc ?_
  by_cases hlt:k<h.ws.length
  ·clear hV
   have e1:=Zis hlt;rw [Qi hlt,La] at hh;generalize h.ws[k]=m at *;have hm:∀ b,fewW m=b->(b&&(h.ws.drop (k+1)).all fewW&&V)=B:=fun b e=>by rw [<-e,Po]; rw [Po] at hh; exact hh
   clear hh
   repeat'(first|refine wk3 ?_|(refine wk2 ?_ ?_<;>intro _)|fail)
   all_goals clear e1
   all_goals first
    | exact Zb (hm false (by clear hm; simp_all [fewW,Yo]; done))
    | exact Ql ⟨(k+1,_),[],rfl,kps,kps,⟨Zg (by omega),hlt,hm true (by clear hm; simp_all [fewW,Yo]; done)⟩,by dsimp only; omega⟩
  rw [Qk (by omega)] at hh
  have hh:V=B:=hh
  subst hh
  subst hV
  repeat'(first|refine wk3 ?_|(refine wk2 ?_ ?_<;>intro _)|fail)
  clear hlt hk
  generalize hV:(h.ks.all fewC&&h.ss.all fewS)=V
  refine Zr (S:=Nat × Int) (fun t=>h.ms.length-t.1) (fun t=>[(1,.ptr 0 0 0),(2,Bo false),(4,I t.2)]) (fun _=>[(0,.row 9 [h.cells] true false)]) 1 1 (fun t=>t.2=t.1/\t.1<=h.ms.length/\((h.ms.drop t.1).all fewM&&V)=(h.ms.all fewM&&V)) (0,0) ⟨rfl,Qn _,rfl⟩ (Qd _) [] rfl (kps) (kps) ?_
  rintro ⟨k,i⟩ ⟨hi,hk,hh⟩
  dsimp only at hi hk hh ⊢
  subst hi
  generalize hB:(h.ms.all fewM&&V)=B at *
  clear hB
  refine bs.av (sx:=nos) Zc ?_
  by_cases hlt:k<h.ms.length
  ·clear hV
   have e1:=Zpo hlt;rw [Qi hlt,La] at hh;generalize h.ms[k]=m at *;have hm:∀ b,fewM m=b->(b&&(h.ms.drop (k+1)).all fewM&&V)=B:=fun b e=>by rw [<-e,Po]; rw [Po] at hh; exact hh
   clear hh
   repeat'(first|refine wk3 ?_|(refine wk2 ?_ ?_<;>intro _)|fail)
   all_goals clear e1
   all_goals first
    | exact Zb (hm false (by clear hm; simp_all [fewM,Yo]; done))
    | exact Ql ⟨(k+1,_),[],rfl,kps,kps,⟨Zg (by omega),hlt,hm true (by clear hm; simp_all [fewM,Yo]; done)⟩,by dsimp only; omega⟩
  rw [Qk (by omega)] at hh
  have hh:V=B:=hh
  subst hh
  subst hV
  repeat'(first|refine wk3 ?_|(refine wk2 ?_ ?_<;>intro _)|fail)
  clear hlt hk
  generalize hV:h.ss.all fewS=V
  refine Zr (S:=Nat × Int) (fun t=>h.ks.length-t.1) (fun t=>[(1,.ptr 0 0 0),(2,Bo false),(5,I t.2)]) (fun _=>[(0,.row 9 [h.cells] true false)]) 1 1 (fun t=>t.2=t.1/\t.1<=h.ks.length/\((h.ks.drop t.1).all fewC&&V)=(h.ks.all fewC&&V)) (0,0) ⟨rfl,Qn _,rfl⟩ (Qd _) [] rfl (kps) (kps) ?_
  rintro ⟨k,i⟩ ⟨hi,hk,hh⟩
  dsimp only at hi hk hh ⊢
  subst hi
  generalize hB:(h.ks.all fewC&&V)=B at *
  clear hB
  refine bs.av (sx:=nos) Zc ?_
  by_cases hlt:k<h.ks.length
  ·clear hV
   have e1:=Zbu hlt;rw [Qi hlt,La] at hh;generalize h.ks[k]=m at *;have e9:=Zk m.hs;have hm:∀ b,fewC m=b->(b&&(h.ks.drop (k+1)).all fewC&&V)=B:=fun b e=>by rw [<-e,Po]; rw [Po] at hh; exact hh
   clear hh
   repeat'(first|refine wk3 ?_|(refine wk2 ?_ ?_<;>intro _)|fail)
   all_goals clear e1
   all_goals first
    | exact Zb (hm false (by clear hm; simp_all [fewC,Yo]; done))
    | exact Ql ⟨(k+1,_),[],rfl,kps,kps,⟨Zg (by omega),hlt,hm true (by clear hm; simp_all [fewC,Yo]; done)⟩,by dsimp only; omega⟩
  rw [Qk (by omega)] at hh
  have hh:V=B:=hh
  subst hh
  subst hV
  repeat'(first|refine wk3 ?_|(refine wk2 ?_ ?_<;>intro _)|fail)
  clear hlt hk
  refine Zr (S:=Nat × Int) (fun t=>h.ss.length-t.1) (fun t=>[(1,.ptr 0 0 0),(2,Bo false),(6,I t.2)]) (fun _=>[(0,.row 9 [h.cells] true false)]) 1 1 (fun t=>t.2=t.1/\t.1<=h.ss.length/\((h.ss.drop t.1).all fewS)=(h.ss.all fewS)) (0,0) ⟨rfl,Qn _,rfl⟩ (Qd _) [] rfl (kps) (kps) ?_
  rintro ⟨k,i⟩ ⟨hi,hk,hh⟩
  dsimp only at hi hk hh ⊢
  subst hi
  generalize hB:(h.ss.all fewS)=B at *
  clear hB
  refine bs.av (sx:=nos) Zc ?_
  by_cases hlt:k<h.ss.length
  ·have e1:=Ztr hlt
   rw [Qi hlt,La] at hh;generalize h.ss[k]=m at *;have hm:∀ b,fewS m=b->(b&&(h.ss.drop (k+1)).all fewS)=B:=fun b e=>by rw [<-e]; exact hh
   clear hh
   repeat'(first|refine wk3 ?_|(refine wk2 ?_ ?_<;>intro _)|fail)
   all_goals clear e1
   all_goals first
    | exact Zb (hm false (by clear hm; simp_all [fewS,Yo]; done))
    | exact Ql ⟨(k+1,_),[],rfl,kps,kps,⟨Zg (by omega),hlt,hm true (by clear hm; simp_all [fewS,Yo]; done)⟩,by dsimp only; omega⟩
  rw [Qk (by omega)] at hh
  repeat'(first|refine wk3 ?_|(refine wk2 ?_ ?_<;>intro _)|fail)
  exact Zb hh
def few3 (h:Hal) (s:Stg):Bool:=few2 h&&(decide (s.hs.length<=4)&&decide (s.dr.length<=10))
theorem Ygz {h:Hal} {s:Stg} (r:few3 h s=true):h.ok/\s.few:=by
 unfold few3 at r
 simp only [Qc,decide_eq_true_eq] at r
 exact ⟨Yg0 r.1,by omega,by omega⟩
theorem d90 {h:Hal} (hk:h.ok):PCall Tryz.prog 40 [h.av] ⟨I h.err,[]⟩:=by
 refine pn (Zd (c65k hk) Zc) Tryz.func40 ?_
 repeat'(first|refine wk3 ?_|(refine wk2 ?_ ?_<;>intro _)|fail)
 exact Za rfl
noncomputable abbrev cHas (h:Hal):List AV->Option PRes:=famA (fun _:Int=>True) (fun i=>[h.av,I i]) (fun i=>⟨Bo (within i 0 (nsur h-1)),[]⟩)
theorem Zij (h:Hal) (i:Int):cHas h [h.av,I i]=some ⟨Bo (within i 0 (nsur h-1)),[]⟩ :=
 Zm (p:=fun _:Int=>True) (g:=fun i=>[h.av,I i]) (r:=fun i=>⟨Bo (within i 0 (nsur h-1)),[]⟩) (fun j hj=>by
  simp only [Qs,Sr,true_and,and_true] at hj
  rw [hj]) trivial
def nsN (h:Hal):Nat:=h.ws.length+2+h.ks.length
theorem Zi2 (h:Hal):(nsN h:Int)=nsur h:=by unfold nsN nsur; omega
theorem Ybg (h:Hal):(sl (surf h)).length=nsN h:=by
 rw [Zka]; unfold surf Zgn Zg9 nsN; simp; omega
def wkG (n:Int):Option Int->List Int->Int
 | _,[]=>0
 | q,x::l=>if within x 0 n then (if q=some x then 26 else wkG n (some x) l) else 6
def suE (h:Hal) (l:List Int):Int:=if 4<(l.length:Int) then 8 else wkG (nsur h-1) none l
theorem Ztf {n:Int}:∀ {l:List Int} {q:Option Int},wkG n q l=0->∀ x∈l,0<=x/\x<=n
 | [],_,_,x,hx=>by simp at hx
 | y::l,q,h,x,hx=>by
  rw [wkG] at h
  split at h
  ·rename_i c
   split at h
   ·cases h
   ·rw [Rb] at hx
    rcases hx with rfl|hx
    ·exact within_iff.1 c
    ·exact Ztf h x hx
  ·cases h
theorem d85 (p:Pth):PCall Tryz.prog 57 [p.av] ⟨.tup [P2 (lenP p).1 (lenP p).2,I (pthE p)],[]⟩:=by
 unfold lenP
 have h1:=d162 p
 by_cases c:pthE p=0
 ·have h2:=Zd (d163 c) (Zd h1 Zc)
  rw [if_pos c]
  rw [c] at h2 ⊢
  generalize lenV p.sq=L at *
  refine pn h2 Tryz.func57 ?_
  repeat'(first|refine wk3 ?_|(refine wk2 ?_ ?_<;>intro _)|fail)
  exact Ze rfl rfl
 ·have h2:=Zd h1 Zc
  rw [if_neg c]
  generalize pthE p=E at *
  refine pn h2 Tryz.func57 ?_
  repeat'(first|refine wk3 ?_|(refine wk2 ?_ ?_<;>intro _)|fail)
  exact Ze rfl rfl
theorem Yfb {h:Hal} {s:Stg} {i:Int} (e:serr h s=0) (h0:0<=i) (h1:i<nsur h):surE h s i=0:=by
 unfold surE; rw [if_pos e,if_pos (within_iff.2 ⟨h0,by omega⟩)]
def absB (m:Mat) (b:Int):Int:=if b=0 then m.a else if b=1 then m.b else if b=2 then m.c else m.d
def absK (h:Hal) (s:Stg) (b i:Int):Int:=if isK h i then absB (matS h s i) b*2 else absB (matS h s i) b
theorem Yf7 {h:Hal} (g:h.fine) {m:Mat} (hm:m∈h.ms):(0<=m.a/\m.a<=1000)/\(0<=m.b/\m.b<=1000)/\(0<=m.c/\m.c<=1000)/\(0<=m.d/\m.d<=1000):=by
 have:=g.mats m hm
 unfold Zbm at this
 split at this
 ·rename_i hx
  simp only [Qc] at hx
  exact ⟨within_iff.1 hx.1.1.1.1,within_iff.1 hx.1.1.1.2,within_iff.1 hx.1.1.2,within_iff.1 hx.1.2⟩
 ·cases this
theorem Zg4 {h:Hal} {s:Stg} (g:Sit h s) {i:Int} (hi:SK h i):matS h s i∈h.ms:=by
 have h0:=Zn0 g hi
 have h1:=Zaq (Zav h s i) h.ms 0
 unfold matS matG
 have hl:(Ye (Zav h s i) 0 h.ms).toNat<h.ms.length:=by omega
 rw [Qe hl]
 exact Qr hl
theorem Zok {h:Hal} {s:Stg} (g:Sit h s) {b i:Int} (hi:SK h i):(0<=absB (matS h s i) b/\absB (matS h s i) b<=1000)/\0<=absK h s b i/\absK h s b i<=2000:=by
 have:=Yf7 g.fine (Zg4 g hi)
 have k:0<=absB (matS h s i) b/\absB (matS h s i) b<=1000:=by
  unfold absB
  repeat' split
  all_goals omega
 refine ⟨k,?_⟩
 unfold absK
 split<;>omega
end Go.Proofs.YtfkdpbklbegnlaaGreat
namespace Go.En
end Go.En
namespace Go.En
theorem div_le {q n b:Int} (hb:0<b) (h:n<=q*b):n / b<=q:=by
 have h1:=Int.ediv_le_ediv hb h
 rwa [Int.mul_ediv_cancel q (by omega)] at h1
theorem up_le {q n b:Int} (hb:0<b) (h:n<=q*b):(n+b-1) / b<=q:=by
 have:(n+b-1) / b<q+1:=by
  refine Int.ediv_lt_of_lt_mul hb ?_
  rw [Int.add_mul]; omega
 omega
end Go.En
namespace Go.Proofs.YtfkdpbklbegnlaaGreat
open Go Go.Sx
def airE (b a v:Int):Int:=if within b 0 3 then (if within a 0 100000&&within v 30000 40000 then 0 else 2) else 6
theorem Zlr {b a v:Int} (h:airE b a v=0):within b 0 3=true/\(0<=a/\a<=100000)/\30000<=v/\v<=40000:=by
 unfold airE at h
 split at h
 ·rename_i hb
  split at h
  ·rename_i hc
   simp only [Qc] at hc;exact ⟨hb,within_iff.1 hc.1,within_iff.1 hc.2⟩
  ·cases h
 ·cases h
theorem d168 (a b:Int):PCall Tryz.prog 77 [I a,I b] ⟨P2 a b,[]⟩:=by
 refine pn Zc Tryz.func77 ?_
 repeat'(first|refine wk3 ?_|(refine wk2 ?_ ?_<;>intro _)|fail)
 exact Ze rfl rfl
def r168:List AV->Option PRes
 | [.int .i64 a,.int .i64 b]=>some ⟨P2 a b,[]⟩
 | _=>none
def abvU (n b:Int):Int:=Qa Qb ((Qa Qb (Qa Qb (n+b)-1)).tdiv b)
theorem d135 {n b:Int} (hb:0<b):PCall Tryz.prog 63 [I n,I b] ⟨I (abvU n b),[]⟩:=by
 have hz:¬ b=0:=by omega
 refine pn Zc Tryz.func63 ?_
 repeat'(first|refine wk3 ?_|(refine wk2 ?_ ?_<;>intro _)|fail)
 all_goals exact Za rfl
def rAbU:List AV->Option PRes
 | [.int .i64 n,.int .i64 b]=>asr (decide (0<b)) ⟨I (abvU n b),[]⟩
 | _=>none
theorem Zs7 {n b:Int} (h0:0<=n) (hb:0<b) : -((-n) / b)=(n+b-1) / b:=by
 have e1:=Int.mul_ediv_add_emod (n+b-1) b
 have e2:=Int.emod_nonneg (n+b-1) (show b≠0 by omega)
 have e3:=Int.emod_lt_of_pos (n+b-1) hb
 have:(-n) / b = -((n+b-1) / b):=by
  refine ((Mm hb (r:=(-n)-b*(-((n+b-1) / b))) (q:=-((n+b-1) / b))).2 ⟨by omega,?_,?_⟩).1
  ·rw [Sf]; omega
  ·rw [Sf]; omega
 omega
theorem Ydw:PCOK Tryz.prog (ins 63 rAbU pt0):=by
 refine Zh (fun a res h=>?_) Zc
 unfold rAbU at h; split at h
 ·obtain ⟨h1,h2⟩:=Yx h; subst h2; exact d135 (of_decide_eq_true h1)
 ·cases h
theorem Yc5 {n b:Int} (h0:0<=n) (h1:n<=9000000000000000000) (hb:1<=b):Qa Qb (n.tdiv b)=n / b:=by
 have d1:=Ts h0 (show 0<=b by omega)
 have d2:=Ks b h0
 rw [Om h0,W_eq (by omega) (by omega)]
theorem Ztb {n b:Int} (h0:0<=n) (h1:n<=8000000000000000000) (hb:1<=b) (hb2:b<=1000000000000000000):abvU n b=(n+b-1) / b:=by
 unfold abvU
 rw [W_eq (n:=n+b) (by omega) (by omega),W_eq (n:=n+b-1) (by omega) (by omega),Yc5 (by omega) (by omega) hb]
structure EB (e:Int × Int):Prop where
 a:0<=e.1/\e.1<=1000000000000
 b:0<=e.2/\e.2<=1000000000000
def shr (s p:Int) (e:Int × Int):Int × Int:=(e.1*s / p,(e.2*s+p-1) / p)
theorem Ziu {s p:Int} {e:Int × Int} (hp:1<=p/\p<=1000000) (hs:0<=s/\s<=p) (he:EB e) :
  EB (shr s p e)/\(Qa Qb ((Qa Qb (e.1*s)).tdiv p)=(shr s p e).1/\abvU (Qa Qb (e.2*s)) p=(shr s p e).2)/\(Qa Qb (e.1*s) / p=(shr s p e).1 /\ -((-(Qa Qb (e.2*s))) / p)=(shr s p e).2)/\(0<=Qa Qb (e.1*s)/\Qa Qb (e.1*s)<=1000000000000000000)/\0<=Qa Qb (e.2*s)/\Qa Qb (e.2*s)<=1000000000000000000:=by
 obtain ⟨⟨a1,a2⟩,b1,b2⟩:=he
 have m1:0<=e.1*s:=Qq a1 hs.1
 have m2:0<=e.2*s:=Qq b1 hs.1
 have m3:e.1*s<=1000000000000*p:=Ol a2 hs.2 hs.1 (by omega)
 have m4:e.2*s<=1000000000000*p:=Ol b2 hs.2 hs.1 (by omega)
 have w1:Qa Qb (e.1*s)=e.1*s:=W_eq (by omega) (by omega)
 have w2:Qa Qb (e.2*s)=e.2*s:=W_eq (by omega) (by omega)
 rw [w1,w2]
 unfold shr
 dsimp only
 refine ⟨⟨⟨Ts m1 (by omega),En.div_le (by omega) m3⟩,Ts (by omega) (by omega),En.up_le (by omega) m4⟩,⟨Yc5 m1 (by omega) hp.1,Ztb m2 (by omega) hp.1 (by omega)⟩,⟨rfl,Zs7 m2 (by omega)⟩,⟨m1,by omega⟩,m2,by omega⟩
theorem d171 {p:Int} (hp:0<p) (a b s:Int):PCall Tryz.prog 80 [P2 a b,I s,I p] ⟨P2 (Qa Qb ((Qa Qb (a*s)).tdiv p)) (abvU (Qa Qb (b*s)) p),[]⟩:=by
 have hd:¬ p=0:=by omega
 have ha:rAbU [I (Qa Qb (b*s)),I p]=some ⟨I (abvU (Qa Qb (b*s)) p),[]⟩:=Yn hp
 have hk:PCOK Tryz.prog (ins 77 r168 (ins 63 rAbU pt0)):=by
  refine Zh (fun a res h=>?_) Ydw
  unfold r168 at h; split at h<;>cases h; exact d168 _ _
 refine pn hk Tryz.func80 ?_
 repeat'(first|refine wk3 ?_|(refine wk2 ?_ ?_<;>intro _)|fail)
 all_goals exact Ze rfl rfl
def r171:List AV->Option PRes
 | [.agg [.int .i64 a,.int .i64 b],.int .i64 s,.int .i64 p]=>asr (decide (0<p)) ⟨P2 (Qa Qb ((Qa Qb (a*s)).tdiv p)) (abvU (Qa Qb (b*s)) p),[]⟩
 | _=>none
theorem Zyx {p:Int} (hp:0<p) (a b s:Int):r171 [P2 a b,I s,I p]=some ⟨P2 (Qa Qb ((Qa Qb (a*s)).tdiv p)) (abvU (Qa Qb (b*s)) p),[]⟩:=Yn hp
def lft (m:Mat) (b:Int) (e:Int × Int):Int × Int:=shr (1000-m.sc) 1000 (shr (1000-absB m b) 1000 e)
def enL (h:Hal) (s:Stg) (b:Int):List Int->Int × Int->Int × Int
 | [],e=>e
 | n::l,e=>enL h s b l (lft (matS h s n) b e)
def itN (f:Int->Int):Nat->Int->Int
 | 0,x=>x
 | n+1,x=>itN f n (f x)
def enA (sq:Int):Int × Int:=(1000000000000 / sq,(1000000000000+sq-1) / sq)
noncomputable def farN (sq:Int):Nat:=(((lenV sq).2+1000000-1) / 1000000).toNat
noncomputable def Zny (sq:Int):Nat:=((lenV sq).1 / 1000000).toNat
noncomputable def enZ (sq a:Int) (e:Int × Int):Int × Int:=(itN (fun x=>x*(1000000-a) / 1000000) (farN sq) e.1,itN (fun x=>(x*(1000000-a)+1000000-1) / 1000000) (Zny sq) e.2)
noncomputable def enV (h:Hal) (s:Stg) (p:Pth) (b a:Int):Int × Int:=enZ p.sq a (enL h s b p.ss (enA p.sq))
theorem Zuw {sq:Int} (h0:1<=sq) (h1:sq<=24300000000):EB (enA sq):=by
 unfold enA
 exact ⟨⟨Ts (by omega) (by omega),Ks _ (by omega)⟩,Ts (by omega) (by omega),En.up_le (by omega) (by omega)⟩
theorem Zt4 {h:Hal} (g:h.fine) {m:Mat} (hm:m∈h.ms):0<=m.sc/\m.sc<=1000:=by
 have:=g.mats m hm
 unfold Zbm at this
 split at this
 ·rename_i hx
  simp only [Qc] at hx
  exact within_iff.1 hx.2
 ·cases this
theorem Zyd {h:Hal} {s:Stg} (g:Sit h s) {i b:Int} (hi:SK h i) {e:Int × Int} (he:EB e):EB (lft (matS h s i) b e):=by
 have h1:=(Zok g (b:=b) hi).1
 have h2:=Zt4 g.fine (Zg4 g hi)
 exact (Ziu ⟨by omega,by omega⟩ ⟨by omega,by omega⟩ (Ziu ⟨by omega,by omega⟩ ⟨by omega,by omega⟩ he).1).1
noncomputable abbrev cAbs (h:Hal) (s:Stg):List AV->Option PRes:=famA (fun _:Int=>True) (fun i=>[h.av,s.av,I i]) (fun i=>⟨.tup [abs4 (matA h s i),I (surE h s i)],[]⟩)
noncomputable abbrev cSca (h:Hal) (s:Stg):List AV->Option PRes:=famA (fun _:Int=>True) (fun i=>[h.av,s.av,I i]) (fun i=>⟨.tup [I (matA h s i).sc,I (surE h s i)],[]⟩)
theorem Zym {h:Hal} {s:Stg} (r:Int->PRes) (i:Int):famA (fun _:Int=>True) (fun i=>[h.av,s.av,I i]) r [h.av,s.av,I i]=some (r i) :=
 Zm (p:=fun _:Int=>True) (g:=fun i=>[h.av,s.av,I i]) (r:=r) (k:=i) (fun j hj=>by
  simp only [Qs,Sr,true_and,and_true] at hj
  rw [hj]) trivial
noncomputable def kEn (h:Hal) (s:Stg) (p:Pth):PC:=ins 78 (cAbs h s) (ins 79 (cSca h s) (ins 80 r171 (ins 77 r168 (ins 57 (one [p.av] ⟨.tup [P2 (lenP p).1 (lenP p).2,I (pthE p)],[]⟩) (ins 63 rAbU pt0)))))
theorem Yi5 {h:Hal} {s:Stg} (g:Sit h s) (p:Pth):PCOK Tryz.prog (kEn h s p):=by
 refine Zo (fun i _=>c60 g.ok g.sf i) (Zo (fun i _=>c61 g.ok g.sf i) (Zh (fun a res h=>?_) (Zh (fun a res h=>?_) (Zd (d85 p) Ydw))))
 ·unfold r171 at h; split at h
  ·obtain ⟨h1,h2⟩:=Yx h; subst h2; exact d171 (of_decide_eq_true h1) _ _ _
  ·cases h
 ·unfold r168 at h; split at h<;>cases h; exact d168 _ _
theorem Zzd {sq:Int} (h0:1<=sq) (h1:sq<=24300000000):abvU (lenV sq).2 1000000=((farN sq:Nat):Int)/\Qa Qb ((lenV sq).1.tdiv 1000000)=((Zny sq:Nat):Int)/\Zny sq<=farN sq/\farN sq<=3000:=by
 have b:=Zk2 h0 h1
 unfold farN Zny
 rw [Ztb (by omega) (by omega) (by omega) (by omega),Yc5 (by omega) (by omega) (by omega)]
 omega
theorem Ygb {h:Hal} {s:Stg} (g:Sit h s) {i b:Int} (hi:SK h i) {lo hi' : Int} (he:EB (lo,hi')) (c:Int) (hc:absB (matS h s i) b=c) :
  (Qa Qb ((Qa Qb (Qa Qb ((Qa Qb (lo*Qa Qb (1000-c))).tdiv 1000)*Qa Qb (1000-(matS h s i).sc))).tdiv 1000),abvU (Qa Qb (abvU (Qa Qb (hi'*Qa Qb (1000-c))) 1000*Qa Qb (1000-(matS h s i).sc))) 1000)=lft (matS h s i) b (lo,hi'):=by
 have h1:=(Zok g (b:=b) hi).1
 have h2:=Zt4 g.fine (Zg4 g hi)
 rw [hc] at h1
 obtain ⟨k1,⟨k2,k3⟩,_⟩:=Ziu (s:=1000-c) (p:=1000) ⟨by omega,by omega⟩ ⟨by omega,by omega⟩ he
 obtain ⟨j1,⟨j2,j3⟩,_⟩:=Ziu (s:=1000-(matS h s i).sc) (p:=1000) ⟨by omega,by omega⟩ ⟨by omega,by omega⟩ k1
 unfold lft
 rw [hc,W_eq (n:=1000-c) (by omega) (by omega),W_eq (n:=1000-(matS h s i).sc) (by omega) (by omega)]
 dsimp only at k2 k3
 rw [k2,k3,j2,j3]
theorem shrA {a lo hi:Int} (ha:0<=a/\a<=100000) (he:EB (lo,hi)):(Qa Qb ((Qa Qb (lo*Qa Qb (1000000-a))).tdiv 1000000)=lo*(1000000-a) / 1000000/\abvU (Qa Qb (hi*Qa Qb (1000000-a))) 1000000=(hi*(1000000-a)+1000000-1) / 1000000)/\EB (lo*(1000000-a) / 1000000,(hi*(1000000-a)+1000000-1) / 1000000):=by
 obtain ⟨k1,⟨k2,k3⟩,_⟩:=Ziu (s:=1000000-a) (p:=1000000) ⟨by omega,by omega⟩ ⟨by omega,by omega⟩ he
 rw [W_eq (n:=1000000-a) (by omega) (by omega)]
 exact ⟨⟨k2,k3⟩,k1⟩
theorem d89 {h:Hal} {s:Stg} {p:Pth} {b a v:Int} (g:Sit h s) (z:serr h s=0) (hp:pthE p=0) (hw:suE h p.ss=0) (hair:airE b a v=0):PCall Tryz.prog 38 [.agg (stgL h s),p.av,P3 b a v] ⟨P2 (enV h s p b a).1 (enV h s p b a).2,[]⟩:=by
 have hk:=Yi5 g p
 obtain ⟨⟨l4,_⟩,s1,s2⟩:=Ul hp
 obtain ⟨hb,⟨a1,a2⟩,_⟩:=Zlr hair
 have hb4:b=0\/b=1\/b=2\/b=3:=by have:=within_iff.1 hb; omega
 have l2:=Zk p.ss
 have hsq:¬ p.sq=0:=by omega
 have e0:(Qa Qb ((1000000000000:Int).tdiv p.sq),abvU 1000000000000 p.sq)=enA p.sq:=by
  unfold enA
  rw [Yc5 (by omega) (by omega) s1,Ztb (by omega) (by omega) s1 (by omega)]
 have t0:rAbU [I 1000000000000,I p.sq]=some ⟨I (abvU 1000000000000 p.sq),[]⟩:=Yn (by omega)
 have hw:wkG (nsur h-1) none p.ss=0:=by unfold suE at hw; rwa [if_neg (by omega)] at hw
 have hin:=Ztf hw
 have hL:lenP p=lenV p.sq:=by unfold lenP; rw [if_pos hp]
 unfold kEn at hk
 rw [hL,hp] at hk
 obtain ⟨f1,f2,f3,f4⟩:=Zzd s1 s2
 have t5:rAbU [I (lenV p.sq).2,I 1000000]=some ⟨I (abvU (lenV p.sq).2 1000000),[]⟩:=Yn (p:=(0:Int)<1000000) (by omega)
 unfold enV enZ
 generalize farN p.sq=FN at *
 generalize Zny p.sq=NN at *
 generalize lenV p.sq=L at *
 refine pn hk Tryz.func38 ?_
 repeat'(first|refine wk3 ?_|(refine wk2 ?_ ?_<;>intro _)|fail)
 refine Zr (S:=Nat × Int × Int × Int) (fun t=>p.ss.length-t.1) (fun t=>[(3,.ptr 0 0 0),(4,.ptr 1 0 0),(5,.ptr 2 0 0),(6,.ptr 3 0 0),(7,.ptr 11 0 0),(28,.isl 1 (nl p.ss)),(29,I (nl p.ss).length),(30,I t.2.1)])
  (fun t=>[(11,.row 2 [[I t.2.2.1,I t.2.2.2]] true false),(3,.row 2 [[I 0,I 0]] true false),(2,.row 3 [[I b,I a,I v]] true false),(1,.row 3 [[.isl 1 (nl p.ss),.isl 4 (p.ps.map hp4),I p.sq]] true false),(0,.row 11 [stgL h s] true false)]) 13 13
  (fun t=>t.2.1=t.1/\t.1<=p.ss.length/\EB t.2.2/\enL h s b (p.ss.drop t.1) t.2.2=enL h s b p.ss (enA p.sq)) (0,0,Qa Qb ((1000000000000:Int).tdiv p.sq),abvU 1000000000000 p.sq) ⟨rfl,Qn _,by show EB (Qa Qb ((1000000000000:Int).tdiv p.sq),abvU 1000000000000 p.sq); rw [e0]; exact Zuw s1 s2,by show enL h s b p.ss (Qa Qb ((1000000000000:Int).tdiv p.sq),abvU 1000000000000 p.sq)=_; rw [e0]⟩ (Qd _) [] rfl (kps) (kps) ?_
 rintro ⟨k,i,lo,hi⟩ ⟨hi1,hk1,he,hS⟩
 dsimp only at hi1 hk1 he hS ⊢
 subst hi1
 clear e0 t0
 generalize enL h s b p.ss (enA p.sq)=R at *
 by_cases hlt:k<p.ss.length
 ·have e1:=Xx hlt
  have hx:=hin _ (Qr hlt)
  rw [Qi hlt,enL] at hS
  generalize p.ss[k]=x at *
  have hsk:SK h x:=Zjd hx.1 (by omega)
  have hsu:surE h s x=0:=Yfb z hx.1 (by omega)
  have hmA:matA h s x=matS h s x:=by unfold matA; rw [if_pos hsu]
  have g1:cAbs h s [h.av,s.av,I x]=some ⟨.tup [abs4 (matS h s x),I 0],[]⟩:=(Zym _ x).trans (by rw [hmA,hsu])
  have g2:cSca h s [h.av,s.av,I x]=some ⟨.tup [I (matS h s x).sc,I 0],[]⟩:=(Zym _ x).trans (by rw [hmA,hsu])
  have hf:=Ygb g (b:=b) hsk he
  have hE:=Zyd g (b:=b) hsk he
  generalize matS h s x=m at *
  have go:∀ c,absB m b=c->EB (Qa Qb ((Qa Qb (Qa Qb ((Qa Qb (lo*Qa Qb (1000-c))).tdiv 1000)*Qa Qb (1000-m.sc))).tdiv 1000),abvU (Qa Qb (abvU (Qa Qb (hi*Qa Qb (1000-c))) 1000*Qa Qb (1000-m.sc))) 1000)/\enL h s b (p.ss.drop (k+1)) (Qa Qb ((Qa Qb (Qa Qb ((Qa Qb (lo*Qa Qb (1000-c))).tdiv 1000)*Qa Qb (1000-m.sc))).tdiv 1000),abvU (Qa Qb (abvU (Qa Qb (hi*Qa Qb (1000-c))) 1000*Qa Qb (1000-m.sc))) 1000)=R:=fun c hc=>by
   rw [hf c hc]; exact ⟨hE,hS⟩
  have uu:∀ c,r171 [P2 lo hi,I (Qa Qb (1000-c)),I 1000]=some ⟨P2 (Qa Qb ((Qa Qb (lo*Qa Qb (1000-c))).tdiv 1000)) (abvU (Qa Qb (hi*Qa Qb (1000-c))) 1000),[]⟩/\r171 [P2 (Qa Qb ((Qa Qb (lo*Qa Qb (1000-c))).tdiv 1000)) (abvU (Qa Qb (hi*Qa Qb (1000-c))) 1000),I (Qa Qb (1000-m.sc)),I 1000]=some ⟨P2 (Qa Qb ((Qa Qb (Qa Qb ((Qa Qb (lo*Qa Qb (1000-c))).tdiv 1000)*Qa Qb (1000-m.sc))).tdiv 1000)) (abvU (Qa Qb (abvU (Qa Qb (hi*Qa Qb (1000-c))) 1000*Qa Qb (1000-m.sc))) 1000),[]⟩:=fun c=>⟨Zyx (by omega) _ _ _,Zyx (by omega) _ _ _⟩
  clear hf hE hS he hmA hsu hsk hin
  rcases hb4 with rfl|rfl|rfl|rfl
  ·obtain ⟨u1,u2⟩:=uu m.a
   obtain ⟨q1,q2⟩:=go m.a rfl;clear uu go;refine bs.av (sx:=nos) hk ?_
   repeat'(first|refine wk3 ?_|(refine wk2 ?_ ?_<;>intro _)|fail)
   exact Ql ⟨(k+1,_,_,_),[],rfl,kps,kps,⟨Zg (by omega),hlt,q1,q2⟩,by dsimp only; omega⟩
  ·obtain ⟨u1,u2⟩:=uu m.b
   obtain ⟨q1,q2⟩:=go m.b rfl;clear uu go;refine bs.av (sx:=nos) hk ?_
   repeat'(first|refine wk3 ?_|(refine wk2 ?_ ?_<;>intro _)|fail)
   exact Ql ⟨(k+1,_,_,_),[],rfl,kps,kps,⟨Zg (by omega),hlt,q1,q2⟩,by dsimp only; omega⟩
  ·obtain ⟨u1,u2⟩:=uu m.c
   obtain ⟨q1,q2⟩:=go m.c rfl;clear uu go;refine bs.av (sx:=nos) hk ?_
   repeat'(first|refine wk3 ?_|(refine wk2 ?_ ?_<;>intro _)|fail)
   exact Ql ⟨(k+1,_,_,_),[],rfl,kps,kps,⟨Zg (by omega),hlt,q1,q2⟩,by dsimp only; omega⟩
  ·obtain ⟨u1,u2⟩:=uu m.d
   obtain ⟨q1,q2⟩:=go m.d rfl;clear uu go;refine bs.av (sx:=nos) hk ?_
   repeat'(first|refine wk3 ?_|(refine wk2 ?_ ?_<;>intro _)|fail)
   exact Ql ⟨(k+1,_,_,_),[],rfl,kps,kps,⟨Zg (by omega),hlt,q1,q2⟩,by dsimp only; omega⟩
 rw [Qk (by omega),enL] at hS
 subst hS
 refine bs.av (sx:=nos) hk ?_
 repeat'(first|refine wk3 ?_|(refine wk2 ?_ ?_<;>intro _)|fail)
 clear hk1 hlt
 refine Zr (S:=Nat × Int × Int × Int) (fun t=>FN-t.1) (fun t=>[(5,.ptr 2 0 0),(6,.ptr 3 0 0),(7,.ptr 11 0 0),(17,I (Qa Qb (L.1.tdiv 1000000))),(75,I (abvU L.2 1000000)),(76,I t.2.1)])
  (fun t=>[(11,.row 2 [[I t.2.2.1,I t.2.2.2]] true false),(3,.row 2 [[I 0,I 0]] true false),(2,.row 3 [[I b,I a,I v]] true false)]) 22 22
  (fun t=>t.2.1=t.1/\t.1<=FN/\EB t.2.2/\itN (fun x=>x*(1000000-a) / 1000000) (FN-t.1) t.2.2.1=itN (fun x=>x*(1000000-a) / 1000000) FN lo/\itN (fun x=>(x*(1000000-a)+1000000-1) / 1000000) (NN-t.1) t.2.2.2=itN (fun x=>(x*(1000000-a)+1000000-1) / 1000000) NN hi) (0,0,lo,hi) ⟨rfl,Qn _,he,rfl,rfl⟩ (Qd _) [] rfl (kps) (kps) ?_
 clear he
 rintro ⟨k,i,lo2,hi2⟩ ⟨hi1,hk1,he,hA,hB⟩
 dsimp only at hi1 hk1 he hA hB ⊢
 subst hi1
 generalize itN (fun x=>x*(1000000-a) / 1000000) FN lo=R1 at *
 generalize itN (fun x=>(x*(1000000-a)+1000000-1) / 1000000) NN hi=R2 at *
 refine bs.av (sx:=nos) hk ?_
 by_cases hlt:k<FN
 ·obtain ⟨⟨q1,q2⟩,q3⟩:=shrA ⟨a1,a2⟩ he
  have u1:=Zyx (p:=1000000) (by omega) lo2 hi2 (Qa Qb (1000000-a))
  rw [show FN-k=(FN-(k+1))+1 by omega,itN,<-q1] at hA
  by_cases hn:NN<=k
  ·rw [show NN-k=NN-(k+1) by omega] at hB
   have e2:EB (Qa Qb ((Qa Qb (lo2*Qa Qb (1000000-a))).tdiv 1000000),hi2):=⟨by rw [q1]; exact q3.a,he.b⟩;clear q1 q2 q3 he
   repeat'(first|refine wk3 ?_|(refine wk2 ?_ ?_<;>intro _)|fail)
   exact Ql ⟨(k+1,_,_,_),[],rfl,kps,kps,⟨Zg (by omega),hlt,e2,hA,hB⟩,by dsimp only; omega⟩
  ·rw [show NN-k=(NN-(k+1))+1 by omega,itN,<-q2] at hB
   have e2:EB (Qa Qb ((Qa Qb (lo2*Qa Qb (1000000-a))).tdiv 1000000),abvU (Qa Qb (hi2*Qa Qb (1000000-a))) 1000000):=by rw [q1,q2]; exact q3
   clear q1 q2 q3 he
   repeat'(first|refine wk3 ?_|(refine wk2 ?_ ?_<;>intro _)|fail)
   exact Ql ⟨(k+1,_,_,_),[],rfl,kps,kps,⟨Zg (by omega),hlt,e2,hA,hB⟩,by dsimp only; omega⟩
 ·rw [show FN-k=0 by omega,itN] at hA
  rw [show NN-k=0 by omega,itN] at hB
  subst hA hB
  repeat'(first|refine wk3 ?_|(refine wk2 ?_ ?_<;>intro _)|fail)
  exact Ze rfl rfl
theorem Yd1 {a b c:Int} (hc:0<c):a*c<b*c↔a<b:=⟨fun h=>Int.lt_of_mul_lt_mul_right h (by omega),fun h=>Int.mul_lt_mul_of_pos_right h hc⟩
theorem Zua {a b c:Int} (hc:0<c):a*c<=b*c↔a<=b:=⟨fun h=>Int.le_of_mul_le_mul_right h hc,fun h=>Qg h (by omega)⟩
theorem Zby {a c:Int} (hc:0<c):0<c*a↔0<a:=by rw [Re]; have:=Yd1 (a:=0) (b:=a) hc; rwa [Tw] at this
theorem Zdi {a c:Int} (hc:0<c):c*a<0↔a<0:=by rw [Re]; have:=Yd1 (a:=a) (b:=0) hc; rwa [Tw] at this
theorem nn_l {a c:Int} (hc:0<c):0<=c*a↔0<=a:=by rw [Re]; have:=Zua (a:=0) (b:=a) hc; rwa [Tw] at this
theorem np_l {a c:Int} (hc:0<c):c*a<=0↔a<=0:=by rw [Re]; have:=Zua (a:=a) (b:=0) hc; rwa [Tw] at this
theorem Zaw (a b:Int):imin a b=min a b:=by
 unfold imin; by_cases h:b<a<;>simp [h]<;>omega
theorem Zax (a b:Int):imax a b=max a b:=by
 unfold imax; by_cases h:a<b<;>simp [h]<;>omega
theorem Zca {a b d:Int} (hd:0<d):min a b*d=min (a*d) (b*d):=by
 rcases Gn a b with h|h
 ·rw [Qbf h,Qbf (Qg h (by omega))]
 ·rw [Qan h,Qan (Qg h (by omega))]
theorem Zcb {a b d:Int} (hd:0<d):max a b*d=max (a*d) (b*d):=by
 rcases Gn a b with h|h
 ·rw [Qao h,Qao (Qg h (by omega))]
 ·rw [Qbg h,Qbg (Qg h (by omega))]
def spans (a b c d:Int):Prop:=∃ l m:Int,0<l/\0<m/\0<=l*a+m*b/\0<=l*c+m*d
theorem Zvp {a b c d:Int}:spans a b c d↔spans b a d c :=
 ⟨fun ⟨l,m,h1,h2,h3,h4⟩=>⟨m,l,h2,h1,by rw [Pa]; exact h3,by rw [Pa]; exact h4⟩,fun ⟨l,m,h1,h2,h3,h4⟩=>⟨m,l,h2,h1,by rw [Pa]; exact h3,by rw [Pa]; exact h4⟩⟩
theorem Ybk {a b c d:Int} (h1:0<a+c) (h2:0<b+d) (he:a*d=b*c):spans a b c d↔0<=a/\0<=c:=by
 constructor
 ·rintro ⟨l,m,hl,hm,e1,e2⟩
  have hp:0<l*(a+c)+m*(b+d):=by have:=Rm hl h1; have:=Rm hm h2; omega
  have k1:(l*a+m*b)*(a+c)=(l*(a+c)+m*(b+d))*a:=by grind
  have k2:(l*c+m*d)*(a+c)=(l*(a+c)+m*(b+d))*c:=by grind
  have q1:=Qq e1 (Qu h1)
  have q2:=Qq e2 (Qu h1)
  rw [k1,nn_l hp] at q1
  rw [k2,nn_l hp] at q2
  exact ⟨q1,q2⟩
 ·rintro ⟨ha,hc⟩
  refine ⟨1,1,by omega,by omega,?_,?_⟩
  ·have k:(a+c)*b=a*(b+d):=by grind
   have q:=Qq ha (Qu h2);rw [<-k,nn_l h1] at q;omega
  ·have k:(a+c)*d=c*(b+d):=by grind
   have q:=Qq hc (Qu h2);rw [<-k,nn_l h1] at q;omega
theorem Znn {a b c d:Int} (h1:0<a+c) (h2:0<b+d) (he:b*c<a*d):spans a b c d↔0<a/\0<d:=by
 constructor
 ·rintro ⟨l,m,hl,hm,e1,e2⟩
  constructor
  ·by_cases ha:0<a
   ·exact ha
   exfalso;have q:(b+d)*a<=0:=(np_l h2).2 (by omega)
   have q2:(a+c)*b<0:=by
    have:(a+c)*b=(b+d)*a+(b*c-a*d):=by grind
    omega
   have hb:=(Zdi h1).1 q2;have:=(Zdi hm).2 hb;have:=(np_l hl).2 (show a<=0 by omega);omega
  ·by_cases hd:0<d
   ·exact hd
   exfalso;have q:(a+c)*d<=0:=(np_l h1).2 (by omega)
   have q2:(b+d)*c<0:=by
    have:(b+d)*c=(a+c)*d+(b*c-a*d):=by grind
    omega
   have hb:=(Zdi h2).1 q2;have:=(Zdi hl).2 hb;have:=(np_l hm).2 (show d<=0 by omega);omega
 ·rintro ⟨ha,hd⟩
  by_cases hb:0<=b
  ·refine ⟨1,c.natAbs+1,by omega,by omega,?_,?_⟩
   ·have:=Qq (show (0:Int)<=(c.natAbs:Int)+1 by omega) hb
    omega
   ·have:=Rk (show 1<=d by omega) (show (0:Int)<=(c.natAbs:Int)+1 by omega)
    omega
  by_cases hc:0<=c
  ·refine ⟨-b,1,by omega,by omega,?_,?_⟩
   ·have:=Rk (show 1<=a by omega) (show (0:Int) <= -b by omega)
    omega
   ·have:=Qq (show 0 <= -b by omega) hc
    omega
  ·refine ⟨-b,a,by omega,ha,?_,?_⟩
   ·have : -b*a+a*b=0:=by grind
    omega
   ·have : -b*c+a*d=a*d-b*c:=by grind
    omega
theorem Ztm {a b c d:Int} (h1:0<a+c) (h2:0<b+d) (he:a*d<b*c):spans a b c d↔0<b/\0<c:=by
 rw [Zvp]; exact Znn h2 h1 he
structure P2d where
 x:Int
 y:Int
 d:Int
def bsP (w:Wl) (sx sy:Int) (p:P2d):Int:=bes w sx sy p.x p.y p.d
def alP (w:Wl) (sx sy:Int) (p:P2d):Int:=alo w sx sy p.x p.y p.d
def ful (n sx sy:Int):Int:=n*(sx*sx+sy*sy)
def Zap (w:Wl) (n sx sy:Int) (p q:P2d):Prop:=∃ l m:Int,0<l/\0<m/\l*bsP w sx sy p+m*bsP w sx sy q=0/\0<=l*alP w sx sy p+m*alP w sx sy q/\l*alP w sx sy p+m*alP w sx sy q<=ful n sx sy*(l*p.d+m*q.d)
theorem Ygq {w:Wl} {n sx sy:Int} (h:Str w n sx sy):0<ful n sx sy:=by
 have hn:=h.hn
 have hxy:=h.hxy
 unfold ful
 rcases h.hx with rfl|rfl|rfl<;>rcases h.hy with rfl|rfl|rfl<;>(try (exact absurd ⟨rfl,rfl⟩ hxy))<;>simp<;>omega
theorem Zmo {w:Wl} {n sx sy:Int} {p q:P2d}:Zap w n sx sy p q↔Zap w n sx sy q p:=by
 have key:∀ p q,Zap w n sx sy p q->Zap w n sx sy q p:=by
  rintro p q ⟨l,m,h1,h2,h3,h4,h5⟩
  refine ⟨m,l,h2,h1,by omega,by omega,?_⟩
  rw [Pa (m*q.d)]; omega
 exact ⟨key _ _,key _ _⟩
theorem Zmq {w:Wl} {n sx sy:Int} (h:Str w n sx sy) {p q:P2d} (h1:bsP w sx sy p=0) (h2:bsP w sx sy q=0):Zap w n sx sy p q↔spans (alP w sx sy p) (alP w sx sy q) (ful n sx sy*p.d-alP w sx sy p) (ful n sx sy*q.d-alP w sx sy q):=by
 unfold Zap spans
 rw [h1,h2]
 constructor
 ·rintro ⟨l,m,hl,hm,_,e1,e2⟩
  exact ⟨l,m,hl,hm,e1,by grind⟩
 ·rintro ⟨l,m,hl,hm,e1,e2⟩
  exact ⟨l,m,hl,hm,by omega,e1,by grind⟩
theorem Zmp {w:Wl} {n sx sy:Int} {p q:P2d} (h0:¬(bsP w sx sy p=0/\bsP w sx sy q=0)) (h1:0<=sgn (bsP w sx sy p)*sgn (bsP w sx sy q)):¬ Zap w n sx sy p q:=by
 rintro ⟨l,m,hl,hm,e,_⟩
 have hs:¬ (sgn (bsP w sx sy p)*sgn (bsP w sx sy q)<0):=by omega
 rw [sgn_mul_neg] at hs
 generalize bsP w sx sy p=a at *
 generalize bsP w sx sy q=b at *
 by_cases ha:0<a
 ·have:=(Zby hl).2 ha
  have:=(nn_l hm).2 (show 0<=b by omega)
  omega
 by_cases hb:a<0
 ·have:=(Zdi hl).2 hb
  have:=(np_l hm).2 (show b<=0 by omega)
  omega
 have:a=0:=by omega
 subst this
 have:m*b≠0:=Int.mul_ne_zero (by omega) (by omega)
 omega
theorem Zdj {w:Wl} {n sx sy:Int} {p q:P2d} {f g:Int} (hf:bsP w sx sy p=f) (hg:bsP w sx sy q=g) (h1:f<0/\0<g):Zap w n sx sy p q↔0<=g*alP w sx sy p-f*alP w sx sy q/\g*alP w sx sy p-f*alP w sx sy q<=ful n sx sy*(g*p.d-f*q.d):=by
 unfold Zap
 rw [hf,hg]
 generalize alP w sx sy p=a
 generalize alP w sx sy q=b
 generalize ful n sx sy=F
 constructor
 ·rintro ⟨l,m,hl,hm,e,e1,e2⟩
  have k1:g*(l*a+m*b)=l*(g*a-f*b):=by grind
  have k2:g*(F*(l*p.d+m*q.d)-(l*a+m*b))=l*(F*(g*p.d-f*q.d)-(g*a-f*b)):=by grind
  have q1:=(nn_l h1.2).2 e1
  have q2:=(nn_l h1.2).2 (show 0<=F*(l*p.d+m*q.d)-(l*a+m*b) by omega)
  rw [k1,nn_l hl] at q1
  rw [k2,nn_l hl] at q2
  exact ⟨q1,by omega⟩
 ·rintro ⟨e1,e2⟩
  refine ⟨g,-f,h1.2,by omega,by grind,?_,?_⟩
  ·have:g*a + -f*b=g*a-f*b:=by grind
   omega
  ·have:g*a + -f*b=g*a-f*b:=by grind
   have:g*p.d + -f*q.d=g*p.d-f*q.d:=by grind
   rw [this]; omega
theorem Zvr {a b:Int}:sgn a*sgn b<=0 ↔ ¬((0<a/\0<b)\/(a<0/\b<0)):=by
 unfold sgn
 split<;>split<;>(try split)<;>(try split)<;>simp<;>omega
theorem Ztv {r:Rc} (hr:RcOk r) {x y d:Int} (hd:0<d/\d<=1000000000000000):r.has x y d=true↔0<=x-r.xl*d/\0<=r.xh*d-x/\0<=y-r.yl*d/\0<=r.yh*d-y:=by
 obtain ⟨h1,h2,h3,h4,h5,h6⟩:=hr
 have c1:=Zj (f:=r.xl) (d:=d) (by omega) hd.1
 have c2:=Zj (f:=r.xh) (d:=d) (by omega) hd.1
 have c3:=Zj (f:=r.yl) (d:=d) (by omega) hd.1
 have c4:=Zj (f:=r.yh) (d:=d) (by omega) hd.1
 unfold Rc.has
 rw [W_eq (n:=r.xl*d) (by omega) (by omega),W_eq (n:=r.xh*d) (by omega) (by omega),W_eq (n:=r.yl*d) (by omega) (by omega),W_eq (n:=r.yh*d) (by omega) (by omega),Qc,within_iff,within_iff]
 omega
theorem Ze1 {r:Rc} (hr:RcOk r) {x y d:Int} (hd:0<d/\d<=1000000000000000):r.holds x y d=true↔0<x-r.xl*d/\0<r.xh*d-x/\0<y-r.yl*d/\0<r.yh*d-y:=by
 obtain ⟨h1,h2,h3,h4,h5,h6⟩:=hr
 have c1:=Zj (f:=r.xl) (d:=d) (by omega) hd.1
 have c2:=Zj (f:=r.xh) (d:=d) (by omega) hd.1
 have c3:=Zj (f:=r.yl) (d:=d) (by omega) hd.1
 have c4:=Zj (f:=r.yh) (d:=d) (by omega) hd.1
 unfold Rc.holds
 rw [W_eq (n:=r.xl*d) (by omega) (by omega),W_eq (n:=r.xh*d) (by omega) (by omega),W_eq (n:=r.yl*d) (by omega) (by omega),W_eq (n:=r.yh*d) (by omega) (by omega)]
 simp only [Qc,decide_eq_true_eq]
 omega
end Go.Proofs.YtfkdpbklbegnlaaGreat
