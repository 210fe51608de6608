/- A part of the proof: lemmas. -/
import Derived.Test.YtdaliaafmcjikaaGreatV11
import Derived.Test.YtdaliaafmcjikaaGreatV7
import Derived.Test.YtdaliaafmcjikaaGreatV6
import Derived.Test.YtdaliaafmcjikaaGreatV10
import Derived.Test.YtdaliaafmcjikaaGreatV9
import Derived.Test.YtdaliaafmcjikaaGreatRows
set_option linter.unusedVariables false
set_option linter.unusedSimpArgs false
set_option maxRecDepth 100000
set_option maxHeartbeats 16000000
open Bool renaming and_eq_true->Qc,eq_iff_iff->Se,or_eq_true->Rd
open Go.IntKind renaming i64->Qb,wrap->Qa
open Go.Proofs.YtdaliaafmcjikaaGreat.Can renaming av->Pw
open Go.Proofs.YtdaliaafmcjikaaGreat.Wal renaming av->Ta
open Go.Sx.Done renaming mk->Ql
open Int renaming add_comm->Wz,ediv_emod_unique->Gr,le_of_lt->Qw,le_total->Hu,lt_tmod_of_pos->Fo,max_eq_left->Qae,max_eq_right->Dq,min_eq_left->Qad,min_eq_right->Dp,mul_assoc->Kc,mul_comm->Rr,mul_eq_zero->Mp,mul_le_mul_of_nonneg_left->Rp,mul_le_mul_of_nonneg_right->Qk,mul_lt_mul_of_pos_right->Wk,mul_neg->Sq,mul_nonneg->Rj,mul_one->Ss,mul_pos->Rq,natAbs_tmod->Mo,one_mul->Pg,sub_mul->My,tmod_lt_of_pos->Fm,tmod_nonneg->Qag,toNat_of_nonneg->Km,zero_mul->Tz
open List renaming drop_eq_getElem_cons->Qi,drop_of_length_le->Qj,getElem?_eq_getElem->Qe,getElem_mem->Qt,map_congr_left->Nc,map_cons->Te,mem_map_of_mem->Gv
open Nat renaming beq->Qq,eq_of_beq_eq_true->Qg,gcd->Tt,gcd_dvd_right->Nn,gcd_zero_left->Jn,le_refl->Qd,mod_lt->Og,zero_le->Qn
namespace Go.Proofs.YtdaliaafmcjikaaGreat
open Go Go.Sx
structure Sit (h:Hal) (s:Stg):Prop where
 ok:h.ok
 fine:h.fine
 sf:s.few
 set:SetOk h s
theorem Zlz {h:Hal} (hk:h.ok) {s:Stg} (hs:s.few) (h0:serr h s=0):Sit h s:=by
 unfold serr at h0
 split at h0
 ·rename_i he
  exact ⟨hk,Zko hk he,hs,Ydz hk.f h0⟩
 ·rename_i he; exact absurd h0 he
inductive SK (h:Hal):Int->Prop
 | wall (k:Nat) (hk:k<h.ws.length):SK h k
 | floor:SK h h.ws.length
 | ceil:SK h ((h.ws.length:Int)+1)
 | can (j:Nat) (hj:j<h.ks.length):SK h ((h.ws.length:Int)+2+j)
theorem Zue {h:Hal} {i:Int} (h0:0<=i) (h1:i<nsur h):SK h i:=by
 unfold nsur at h1
 by_cases c1:i<h.ws.length
 ·have:=SK.wall (h:=h) i.toNat (by omega)
  rwa [Km h0] at this
 by_cases c2:i=h.ws.length
 ·rw [c2]; exact .floor
 by_cases c3:i=(h.ws.length:Int)+1
 ·rw [c3]; exact .ceil
 have:=SK.can (h:=h) (i-h.ws.length-2).toNat (by omega)
 rwa [Km (by omega),show (h.ws.length:Int)+2+(i-h.ws.length-2)=i by omega] at this
theorem Zn8 {h:Hal} {s:Stg} {i:Int} (h0:surE h s i=0):serr h s=0/\0<=i/\i<nsur h:=by
 unfold surE at h0
 split at h0
 ·rename_i he
  split at h0
  ·rename_i hw
   have:=within_iff.1 hw
   exact ⟨he,by omega,by omega⟩
  ·cases h0
 ·rename_i he; exact absurd h0 he
def kix (h:Hal) (i:Int):Nat:=(i-h.ws.length-2).toNat
def kat (h:Hal) (i:Int):Can:=(h.ks[kix h i]?).getD ⟨⟨#[]⟩,⟨#[]⟩,0,0,0,0,[]⟩
theorem Zs4 {h:Hal} {j:Nat} (hj:j<h.ks.length):kat h ((h.ws.length:Int)+2+j)=h.ks[j]:=by
 unfold kat kix
 rw [show ((h.ws.length:Int)+2+j-h.ws.length-2).toNat=j by omega,Qe hj]; rfl
def isK (h:Hal) (i:Int):Bool:=decide ((h.ws.length:Int)+2<=i)
abbrev canZ:List AV:=[.str ⟨#[]⟩,.str ⟨#[]⟩,I 0,I 0,I 0,I 0,.nils]
def canV (h:Hal) (i:Int):AV:=.agg (match isK h i with
 | true=>(kat h i).av
 | false=>canZ)
theorem c87 {h:Hal} (hf:h.few) (s:Stg) {i:Int} (hi:SK h i):PCall Tryz.prog 257 [.agg (stgL h s),I i] ⟨.tup [canV h i,Bo (isK h i)],[]⟩:=by
 have l:=Yj h.ws
 have l2:=Xi h.ks
 obtain ⟨_,_,f3,f4,_⟩:=hf
 have low:∀ i:Int,0<=i->i<(h.ws.length:Int)+2->PCall Tryz.prog 257 [.agg (stgL h s),I i] ⟨.tup [.agg canZ,Bo false],[]⟩:=by
  intro i h0 h1
  have hv:Qa Qb (Qa Qb (i-((h.ws.map Ta).length:Int))-2)=i-h.ws.length-2:=by rw [W_eq (n:=i-((h.ws.map Ta).length:Int)) (by omega) (by omega),W_eq (by omega) (by omega)]; omega
  refine bs.pv (sx:=nos) Zc Tryz.func257 (by kernel_rfl) (by kernel_rfl) rfl ?_
  have hn:¬ (0<=Qa Qb (Qa Qb (i-((h.ws.map Ta).length:Int))-2)):=by rw [hv]; omega
  repeat'(first|refine wk0 ?_|(refine wk2 ?_ ?_<;>intro _)|refine wk4 ?_|fail);all_goals(conv=>whnf)
  all_goals first
   | exact Zg rfl rfl
   | (exfalso; rename_i hx; have:=of_decide_eq_true hx; rw [hv] at this; omega)
   | (exfalso; rename_i hx; have:=of_decide_eq_true hx; exact hn this)
 cases hi with
 | wall k hk =>
  have e1:isK h k=false:=decide_eq_false (by omega)
  unfold canV; rw [e1]; exact low _ (by omega) (by omega)
 | floor =>
  have e1:isK h h.ws.length=false:=decide_eq_false (by omega)
  unfold canV; rw [e1]; exact low _ (by omega) (by omega)
 | ceil =>
  have e1:isK h ((h.ws.length:Int)+1)=false:=decide_eq_false (by omega)
  unfold canV; rw [e1]; exact low _ (by omega) (by omega)
 | can j hj =>
  have e1:isK h ((h.ws.length:Int)+2+j)=true:=decide_eq_true (by omega)
  unfold canV
  rw [e1]
  dsimp only
  rw [Zs4 hj]
  have hv:Qa Qb (Qa Qb ((h.ws.length:Int)+2+j-((h.ws.map Ta).length:Int))-2)=j:=by rw [W_eq (n:=(h.ws.length:Int)+2+j-((h.ws.map Ta).length:Int)) (by omega) (by omega),W_eq (by omega) (by omega)]; omega
  have e2:(h.ks.map Pw)[(Qa Qb (Qa Qb ((h.ws.length:Int)+2+j-((h.ws.map Ta).length:Int))-2)).toNat]?=some (Pw h.ks[j]):=by rw [hv]; exact Zb6 hj
  have e3:0<=Qa Qb (Qa Qb ((h.ws.length:Int)+2+j-((h.ws.map Ta).length:Int))-2):=by omega
  have e4:decide (0<=Qa Qb (Qa Qb ((h.ws.length:Int)+2+j-((h.ws.map Ta).length:Int))-2))=true:=decide_eq_true e3
  refine bs.pv (sx:=nos) Zc Tryz.func257 (by kernel_rfl) (by kernel_rfl) rfl ?_
  repeat'(first|refine wk0 ?_|(refine wk2 ?_ ?_<;>intro _)|refine wk4 ?_|fail);all_goals(conv=>whnf)
  all_goals first
   | exact Zg rfl rfl
   | (exfalso; rename_i hx; rw [e4] at hx; cases hx)
def Us (h:Hal) (s:Stg) (j:Nat):Int:=match h.ks[j]?,s.hs[j]? with
 | some c,some n=>c.hs.getD n.toNat 0
 | _,_=>0
theorem Zkg {h:Hal} {s:Stg} (g:SetOk h s) {j:Nat} (hj:j<h.ks.length):∃ n,(nl s.hs)[((j:Nat):Int).toNat]?=some [I n]/\0<=n/\n<h.ks[j].hs.length/\(nl h.ks[j].hs)[n.toNat]?=some [I (Us h s j)]:=by
 have h2:j<s.hs.length:=by rw [g.len]; exact hj
 obtain ⟨g1,g2⟩:=g.hs j hj h2
 refine ⟨s.hs[j],Uh h2,g1,g2,?_⟩
 have h3:s.hs[j].toNat<h.ks[j].hs.length:=by omega
 have e:Us h s j=h.ks[j].hs[s.hs[j].toNat]:=by unfold Us; rw [Qe hj,Qe h2]; simp [h3]
 rw [e]
 simp [nl,h3]
theorem c192 {h:Hal} {s:Stg} (g:Sit h s) {j:Nat} (hj:j<h.ks.length):PCall Tryz.prog 255 [.agg (stgL h s),I j] ⟨I (Us h s j),[]⟩:=by
 obtain ⟨n,e1,e2,e3,e4⟩:=Zkg g.set hj
 have e5:=Zb6 hj
 generalize h.ks[j]=c at *
 have e6:=Zi c.hs
 refine bs.pv (sx:=nos) Zc Tryz.func255 (by kernel_rfl) (by kernel_rfl) rfl ?_
 repeat'(first|refine wk1 ?_|(refine wk2 ?_ ?_<;>intro _)|refine wk4 ?_|fail);all_goals(conv=>whnf)
 exact Zb rfl
theorem c108 {h:Hal} {s:Stg} (g:Sit h s) {j:Nat} (hj:j<h.ks.length):PCall Tryz.prog 75 [h.av,s.av,I j] ⟨I (Us h s j),[]⟩:=by
 obtain ⟨n,e1,e2,e3,e4⟩:=Zkg g.set hj
 have e5:=Zb6 hj
 generalize h.ks[j]=c at *
 have e6:=Zi c.hs
 refine bs.pv (sx:=nos) Zc Tryz.func75 (by kernel_rfl) (by kernel_rfl) rfl ?_
 repeat'(first|refine wk1 ?_|(refine wk2 ?_ ?_<;>intro _)|refine wk4 ?_|fail);all_goals(conv=>whnf)
 exact Zb rfl
def Zdf (h:Hal) (i:Int):Int × Int:=if i<h.ws.length then (0,i) else if i=h.ws.length then (1,0) else if i=(h.ws.length:Int)+1 then (2,0) else (3,i-h.ws.length-2)
theorem c89 {h:Hal} (hf:h.few) {i:Int} (hi:SK h i):PCall Tryz.prog 74 [h.av,I i] ⟨.tup [I (Zdf h i).1,I (Zdf h i).2],[]⟩:=by
 have l:=Yj h.ws
 obtain ⟨_,_,f3,f4,_⟩:=hf
 have hw:Qa Qb (((h.ws.map Ta).length:Int)+1)=h.ws.length+1:=by rw [W_eq (by omega) (by omega)]; omega
 have hr:0<=i/\i<100000:=by cases hi<;>omega
 have hv:Qa Qb (Qa Qb (i-((h.ws.map Ta).length:Int))-2)=i-h.ws.length-2:=by rw [W_eq (n:=i-((h.ws.map Ta).length:Int)) (by omega) (by omega),W_eq (by omega) (by omega)]; omega
 unfold Zdf
 refine bs.pv (sx:=nos) Zc Tryz.func74 (by kernel_rfl) (by kernel_rfl) rfl ?_
 repeat'(first|refine wk0 ?_|(refine wk2 ?_ ?_<;>intro _)|refine wk4 ?_|fail);all_goals(conv=>whnf)
 ·rename_i hx
  rw [l] at hx
  rw [if_pos (of_decide_eq_true hx)]; exact Zg rfl rfl
 ·rename_i h1 hx
  rw [l] at hx h1
  rw [if_neg (of_decide_eq_false h1),if_pos (of_decide_eq_true hx)]; exact Zg rfl rfl
 ·rename_i h1 h2 hx
  rw [hw] at hx
  rw [l] at h1 h2
  rw [if_neg (of_decide_eq_false h1),if_neg (of_decide_eq_false h2),if_pos (of_decide_eq_true hx)]; exact Zg rfl rfl
 ·rename_i h1 h2 hx
  rw [hw] at hx
  rw [l] at h1 h2
  rw [if_neg (of_decide_eq_false h1),if_neg (of_decide_eq_false h2),if_neg (of_decide_eq_false hx),<-hv]; exact Zg rfl rfl
def plW (w:Wl):Int × Int:=if w.dx=0 then (0,w.fx) else if w.dy=0 then (1,w.fy) else if w.dx=w.dy then (4,Qa Qb (w.fx-w.fy)) else (3,Qa Qb (w.fx+w.fy))
def Zh (h:Hal) (s:Stg) (i:Int):Int × Int:=if i<h.ws.length then plW (wlOf h.cs i.toNat) else if i=h.ws.length then (2,0) else if i=(h.ws.length:Int)+1 then (2,h.ht) else (2,Us h s (kix h i))
theorem Zac {h:Hal} {s:Stg} {k:Nat} (hk:k<h.ws.length):Zh h s k=plW (wlOf h.cs k):=by unfold Zh; rw [if_pos (by omega)]; rfl
theorem Zaq {h:Hal} {s:Stg}:Zh h s h.ws.length=(2,0):=by unfold Zh; rw [if_neg (by omega),if_pos rfl]
theorem Zbj {h:Hal} {s:Stg}:Zh h s ((h.ws.length:Int)+1)=(2,h.ht):=by unfold Zh; rw [if_neg (by omega),if_neg (by omega),if_pos rfl]
theorem Zck {h:Hal} {s:Stg} {j:Nat}:Zh h s ((h.ws.length:Int)+2+j)=(2,Us h s j):=by
 unfold Zh kix
 rw [if_neg (by omega),if_neg (by omega),if_neg (by omega),show ((h.ws.length:Int)+2+j-h.ws.length-2).toNat=j by omega]
noncomputable def kP (h:Hal) (s:Stg):PC:=ins 253 (one [.agg (stgL h s)] ⟨I (h.ws.length:Int),[]⟩) (ins 254 (one [.agg (stgL h s)] ⟨I ((h.ws.length:Int)+1),[]⟩) kG4)
theorem Ygx {h:Hal} {s:Stg} (g:Sit h s):PCOK Tryz.prog (kP h s):=Zf (c172 s) (Zf (c173 g.ok.f s) Zas)
theorem c112 {h:Hal} {s:Stg} (g:Sit h s) {i:Int} (hi:SK h i):PCall Tryz.prog 165 [.agg (stgL h s),I i] ⟨P2 (Zh h s i).1 (Zh h s i).2,[]⟩:=by
 have hk0:=Ygx g
 have f3:=g.ok.f.2.2.1
 have f4:=g.ok.f.2.2.2.1
 cases hi with
 | wall k hk =>
  have hk2:k<h.cs.length:=by have:=g.fine.le; omega
  rw [Zac hk]
  have hk1:=Zf (Yfr g.ok.f hk2) hk0
  refine bs.pv (sx:=nos) hk1 Tryz.func165 (by kernel_rfl) (by kernel_rfl) rfl ?_
  generalize wlOf h.cs k=w at *
  repeat'(first|refine wk1 ?_|(refine wk2 ?_ ?_<;>intro _)|refine wk4 ?_|fail);all_goals(conv=>whnf)
  all_goals exact Zg (by clear hk0 hk1; simp_all [plW]) rfl
 | floor =>
  rw [Zaq]
  refine bs.pv (sx:=nos) hk0 Tryz.func165 (by kernel_rfl) (by kernel_rfl) rfl ?_
  repeat'(first|refine wk1 ?_|(refine wk2 ?_ ?_<;>intro _)|refine wk4 ?_|fail);all_goals(conv=>whnf)
  exact Zg rfl rfl
 | ceil =>
  rw [Zbj]
  refine bs.pv (sx:=nos) hk0 Tryz.func165 (by kernel_rfl) (by kernel_rfl) rfl ?_
  repeat'(first|refine wk1 ?_|(refine wk2 ?_ ?_<;>intro _)|refine wk4 ?_|fail);all_goals(conv=>whnf)
  exact Zg rfl rfl
 | can j hj =>
  rw [Zck]
  have hv:Qa Qb (Qa Qb ((h.ws.length:Int)+2+j-((h.ws.length:Int)+1))-1)=j:=by rw [W_eq (n:=(h.ws.length:Int)+2+j-((h.ws.length:Int)+1)) (by omega) (by omega),W_eq (by omega) (by omega)]; omega
  have hc:=c192 g hj
  rw [<-hv] at hc
  have hk1:=Zf hc hk0
  refine bs.pv (sx:=nos) hk1 Tryz.func165 (by kernel_rfl) (by kernel_rfl) rfl ?_
  repeat'(first|refine wk1 ?_|(refine wk2 ?_ ?_<;>intro _)|refine wk4 ?_|fail);all_goals(conv=>whnf)
  exact Zg rfl rfl
theorem c59 {h:Hal} {s:Stg} (g:Sit h s) {i:Int} (hi:SK h i):PCall Tryz.prog 23 [h.av,s.av,I i] ⟨P2 (Zh h s i).1 (Zh h s i).2,[]⟩:=by
 have hk0:=Zf (c89 g.ok.f hi) (Zmc g.ok.f)
 have f3:=g.ok.f.2.2.1
 have f4:=g.ok.f.2.2.2.1
 cases hi with
 | wall k hk =>
  have hk2:k<h.cs.length:=by have:=g.fine.le; omega
  have e1:=Vk hk2
  rw [show Zdf h k=(0,(k:Int)) by unfold Zdf; rw [if_pos (by omega)]] at hk0
  rw [Zac hk]
  rw [Zcb] at e1
  refine bs.pv (sx:=nos) hk0 Tryz.func23 (by kernel_rfl) (by kernel_rfl) rfl ?_
  generalize wlOf h.cs k=w at *
  have hp:plW w=if w.ln.dx=0 then (0,w.ln.x) else if w.ln.dy=0 then (1,w.ln.y) else if w.ln.dx=w.ln.dy then (4,Qa Qb (w.ln.x-w.ln.y)) else (3,Qa Qb (w.ln.x+w.ln.y)):=rfl
  rw [hp]
  repeat'(first|refine wk1 ?_|(refine wk2 ?_ ?_<;>intro _)|refine wk4 ?_|fail);all_goals(conv=>whnf)
  ·rename_i h1; rw [if_pos (of_decide_eq_true h1)]; exact Zg rfl rfl
  ·rename_i h1 h2; rw [if_neg (of_decide_eq_false h1),if_pos (of_decide_eq_true h2)]; exact Zg rfl rfl
  ·rename_i h1 h2 h3; rw [if_neg (of_decide_eq_false h1),if_neg (of_decide_eq_false h2),if_pos (of_decide_eq_true h3)]; exact Zg rfl rfl
  ·rename_i h1 h2 h3; rw [if_neg (of_decide_eq_false h1),if_neg (of_decide_eq_false h2),if_neg (of_decide_eq_false h3)]; exact Zg rfl rfl
 | floor =>
  rw [show Zdf h h.ws.length=(1,0) by unfold Zdf; rw [if_neg (by omega),if_pos rfl]] at hk0
  rw [Zaq]
  refine bs.pv (sx:=nos) hk0 Tryz.func23 (by kernel_rfl) (by kernel_rfl) rfl ?_
  repeat'(first|refine wk1 ?_|(refine wk2 ?_ ?_<;>intro _)|refine wk4 ?_|fail);all_goals(conv=>whnf)
  exact Zg rfl rfl
 | ceil =>
  rw [show Zdf h ((h.ws.length:Int)+1)=(2,0) by unfold Zdf; rw [if_neg (by omega),if_neg (by omega),if_pos rfl]] at hk0
  rw [Zbj]
  refine bs.pv (sx:=nos) hk0 Tryz.func23 (by kernel_rfl) (by kernel_rfl) rfl ?_
  repeat'(first|refine wk1 ?_|(refine wk2 ?_ ?_<;>intro _)|refine wk4 ?_|fail);all_goals(conv=>whnf)
  exact Zg rfl rfl
 | can j hj =>
  rw [show Zdf h ((h.ws.length:Int)+2+j)=(3,(j:Int)) by unfold Zdf; rw [if_neg (by omega),if_neg (by omega),if_neg (by omega)]; simp; omega] at hk0
  rw [Zck]
  have hk1:=Zf (c108 g hj) hk0
  refine bs.pv (sx:=nos) hk1 Tryz.func23 (by kernel_rfl) (by kernel_rfl) rfl ?_
  repeat'(first|refine wk1 ?_|(refine wk2 ?_ ?_<;>intro _)|refine wk4 ?_|fail);all_goals(conv=>whnf)
  exact Zg rfl rfl
def Zij (h:Hal) (s:Stg) (i:Int):Int × Int:=if surE h s i=0 then Zh h s i else (0,0)
theorem c54 {h:Hal} (hk:h.ok) {s:Stg} (hs:s.few) (i:Int):PCall Tryz.prog 136 [h.av,s.av,I i] ⟨.tup [P2 (Zij h s i).1 (Zij h s i).2,I (surE h s i)],[]⟩:=by
 have hk0:=Zf (c109 hk hs i) Zc
 by_cases he:surE h s i=0
 ·have e:=Zn8 he
  have g:=Zlz hk hs e.1
  have hk1:=Zf (c112 g (Zue e.2.1 e.2.2)) hk0
  have e2:Zij h s i=Zh h s i:=by unfold Zij; rw [if_pos he]
  rw [e2]
  rw [he] at hk1 ⊢
  refine bs.pv (sx:=nos) hk1 Tryz.func136 (by kernel_rfl) (by kernel_rfl) rfl ?_
  repeat'(first|refine wk1 ?_|(refine wk2 ?_ ?_<;>intro _)|refine wk4 ?_|fail);all_goals(conv=>whnf)
  exact Zg rfl rfl
 ·have e2:Zij h s i=(0,0):=by unfold Zij; rw [if_neg he]
  rw [e2]
  refine bs.pv (sx:=nos) hk0 Tryz.func136 (by kernel_rfl) (by kernel_rfl) rfl ?_
  repeat'(first|refine wk1 ?_|(refine wk2 ?_ ?_<;>intro _)|refine wk4 ?_|fail);all_goals(conv=>whnf)
  exact Zg rfl rfl
theorem Znu {h:Hal} {i:Int} (hi:i<(h.ws.length:Int)+2):canV h i = .agg canZ/\isK h i=false:=by
 have e1:isK h i=false:=decide_eq_false (by omega)
 unfold canV; rw [e1]; exact ⟨rfl,rfl⟩
theorem Ybn {h:Hal} {j:Nat} (hj:j<h.ks.length):canV h ((h.ws.length:Int)+2+j) = .agg (Pw h.ks[j])/\isK h ((h.ws.length:Int)+2+j)=true:=by
 have e1:isK h ((h.ws.length:Int)+2+j)=true:=decide_eq_true (by omega)
 unfold canV; rw [e1,<-Zs4 hj]; exact ⟨rfl,rfl⟩
theorem Ya7 {n b:Int} (hb:0<b):(n.tmod b<0/\n / b=n.tdiv b-1)\/(¬ n.tmod b<0/\n / b=n.tdiv b):=by
 have e1:=Int.tmod_add_mul_tdiv n b
 have e2:=Fm n hb
 have e3:=Fo n hb
 by_cases h:n.tmod b<0
 ·exact .inl ⟨h,((Gr hb (r:=n.tmod b+b)).2 ⟨by rw [Int.mul_sub]; omega,by omega,by omega⟩).1⟩
 ·exact .inr ⟨h,((Gr hb (r:=n.tmod b)).2 ⟨by omega,by omega,by omega⟩).1⟩
theorem c90 {n b:Int} (hb:0<b) (h0 : -9223372036854775807<=n) (h1:n<=9223372036854775807):PCall Tryz.prog 109 [I n,I b] ⟨I (n / b),[]⟩:=by
 have hq:=Int.natAbs_tdiv_le_natAbs n b
 have e:Qa Qb (n.tdiv b)=n.tdiv b:=W_eq (by omega) (by omega)
 have hm:Qa Qb (n.tmod b)=n.tmod b:=by
  have:=Fm n hb
  have e3:=Fo n hb
  have e4:(n.tmod b).natAbs<=n.natAbs:=by rw [Mo]; exact Nat.mod_le _ _
  exact W_eq (by omega) (by omega)
 have hz:¬ b=0:=by omega
 refine bs.pv (sx:=nos) Zc Tryz.func109 (by kernel_rfl) (by kernel_rfl) rfl ?_
 rcases Ya7 (n:=n) hb with ⟨c1,c2⟩|⟨c1,c2⟩
 ·have e5:Qa Qb (n.tdiv b-1)=n.tdiv b-1:=W_eq (by omega) (by omega)
  rw [c2]
  repeat'(first|refine wk1 ?_|(refine wk2 ?_ ?_<;>intro _)|refine wk4 ?_|fail);all_goals(conv=>whnf)
  all_goals exact Zb (by rw [e,e5])
 ·rw [c2]
  repeat'(first|refine wk1 ?_|(refine wk2 ?_ ?_<;>intro _)|refine wk4 ?_|fail);all_goals(conv=>whnf)
  all_goals exact Zb (by omega)
theorem d87 (a b c d:Int):PCall Tryz.prog 87 [P2 a b,P2 c d] ⟨P2 (Qa Qb (c-a)) (Qa Qb (d-b)),[]⟩:=by
 refine bs.pv (sx:=nos) Zc Tryz.func87 (by kernel_rfl) (by kernel_rfl) rfl ?_
 repeat'(first|refine wk3 ?_|(refine wk2 ?_ ?_<;>intro _)|refine wk4 ?_|fail);all_goals(conv=>whnf)
 exact Zg rfl rfl
def Zld (ax ay:Int) (vis:Int × Int->Bool):List (Int × Int)->List (List AV)
 | []=>[]
 | p::l=>if p.1=ax/\p.2=ay then Zld ax ay vis l else if vis p=true then [P2 (Qa Qb (p.1-ax)) (Qa Qb (p.2-ay))]::Zld ax ay vis l else Zld ax ay vis l
theorem Zuh (ax ay:Int) (vis:Int × Int->Bool) (p:Int × Int) (l:List (Int × Int)):Zld ax ay vis (p::l)=if p.1=ax/\p.2=ay then Zld ax ay vis l else if vis p=true then [P2 (Qa Qb (p.1-ax)) (Qa Qb (p.2-ay))]::Zld ax ay vis l else Zld ax ay vis l:=rfl
def rFr:List AV->Option PRes
 | [.agg [.int .i64 a,.int .i64 b],.agg [.int .i64 c,.int .i64 d]]=>some ⟨P2 (Qa Qb (c-a)) (Qa Qb (d-b)),[]⟩
 | _=>none
def LN (es:Nat) (a:AV):Prop:=a = .nils\/∃ L,a = .isl es L
structure Pl where
 nm:ByteArray
 ht:Int
 fl:ByteArray
 ce:ByteArray
 ms:List (List AV)
 ps:List (Int × Int)
 wa:List (List AV)
 ca:AV
 se:AV
abbrev Pl.c (p:Pl):List AV:=[.str p.nm,I p.ht,.str p.fl,.str p.ce,.isl 6 p.ms,.isl 2 (p.ps.map pt),.isl 3 p.wa,p.ca,p.se]
abbrev rayA (ax ay dx dy last:Int):AV:=.agg [I ax,I ay,I dx,I dy,I last]
theorem Yic {q:Pl} (h1:LN 7 q.ca) (h2:LN 4 q.se) (hn:q.ps.length<1000) (ax ay last:Int) (bB bA:Int × Int->Bool)
  (hB:∀ p∈q.ps,PCall Tryz.prog 250 [.agg q.c,rayA ax ay (Qa Qb (p.1-ax)) (Qa Qb (p.2-ay)) last,P2 1 1] ⟨Bo (bB p),[]⟩)
  (hA:∀ p∈q.ps,PCall Tryz.prog 280 [.agg q.c,rayA ax ay (Qa Qb (p.1-ax)) (Qa Qb (p.2-ay)) last,P2 1 1] ⟨Bo (bA p),[]⟩) :
  ItOK Tryz.prog 279 [] [.ipt q.c,.ipt [I ax,I ay],.ipt [I last]] (Zld ax ay (fun p=>bB p && !bA p) q.ps):=by
 obtain ⟨nm,ht,fl,ce,ms,ps,wa,ca,se⟩:=q
 dsimp only at h1 h2 hn hB hA ⊢
 have l1:(ps.map pt).length=ps.length:=by simp
 refine bs.yiter (sx:=nos) Zc Tryz.func279 (by kernel_rfl) rfl (by kernel_rfl) fun B Ig l JX hI=>?_
 rcases h1 with rfl|⟨L1,rfl⟩<;>rcases h2 with rfl|⟨L2,rfl⟩
 all_goals
  conv=>whnf
  refine Zus (S:=Nat × Int) (fun t=>ps.length-t.1) (fun t=>[(0,.yld l),(1,.ipt [.str nm,I ht,.str fl,.str ce,.isl 6 ms,.isl 2 (ps.map pt),.isl 3 wa,_,_]),(2,.ipt [I ax,I ay]),(3,.ipt [I last]),(11,.isl 2 (ps.map pt)),(12,I (ps.map pt).length),(13,I t.2)]) (fun _=>[]) (fun t=>some (Zld ax ay (fun p=>bB p && !bA p) (ps.drop t.1))) 0 (fun _=>0) (fun t=>t.2=t.1/\t.1<=ps.length) (0,0) ⟨rfl,Qn _⟩ (Qd _) rfl [] rfl (kps) (kps) ?_
  rintro ⟨k,i⟩ ⟨hi,hk⟩
  dsimp only at hi hk
  subst hi
  by_cases hlt:k<ps.length
  ·have e1:(ps.map pt)[((k:Nat):Int).toNat]?=some (pt ps[k]):=by simp [hlt]
   have hm:=Qt hlt
   have hT:=Zf (hB _ hm) (Zf (hA _ hm) (Zl (f0:=87) (r:=rFr) (fun a res h=>by unfold rFr at h; split at h<;>cases h; exact d87 _ _ _ _) Zc))
   have hG:(Qa Qb ((k:Int)+1)=((k+1:Nat):Int)/\k+1<=ps.length)/\ps.length-(k+1)<ps.length-k:=⟨⟨Ze (by omega),hlt⟩,by omega⟩
   dsimp only
   rw [Qi hlt]
   rw [Zuh]
   generalize ps[k]=p at *
   clear hB hA hm
   obtain ⟨px,py⟩:=p
   dsimp only at e1 hT ⊢
   generalize bB (px,py)=b1 at *
   generalize bA (px,py)=b2 at *
   by_cases c:px=ax/\py=ay
   ·rw [if_pos c]
    refine bs.yv hT hI (sx:=nos) ?_
    repeat'(first|refine wk3 ?_|(refine wk2 ?_ ?_<;>intro _)|refine wk4 ?_|fail);all_goals(conv=>whnf)
    all_goals first
     | (refine Ql ?_; exact ⟨(k+1,_),[],rfl,kps,kps,rfl,hG.1,hG.2⟩)
     | (exfalso; clear hT e1; simp_all; done)
   ·rw [if_neg c]
    cases b1<;>cases b2
    all_goals
     refine bs.yv hT hI (sx:=nos) ?_
     repeat'(first|refine wk3 ?_|(refine wk2 ?_ ?_<;>intro _)|refine wk4 ?_|fail);all_goals(conv=>whnf)
    all_goals first
     | (refine Ql ?_; exact ⟨(k+1,_),[],rfl,kps,kps,rfl,hG.1,hG.2⟩)
     | (exfalso; rename_i q; simp at q; exact c q)
     | skip
    all_goals
     refine Yd.mk ⟨rfl,rfl,.same rfl,fun _=>rfl,?_,?_⟩
     all_goals repeat'(first|refine wk3 ?_|(refine wk2 ?_ ?_<;>intro _)|refine wk4 ?_|fail);all_goals(conv=>whnf)
    all_goals first
     | (refine Ql ?_; exact ⟨(k+1,_),[],rfl,kps,kps,rfl,hG.1,hG.2⟩)
     | exact Ql (.inr rfl)
  ·dsimp only
   rw [Qj (by omega)]
   unfold Zld
   refine bs.yv Zc hI (sx:=nos) ?_
   repeat'(first|refine wk3 ?_|(refine wk2 ?_ ?_<;>intro _)|refine wk4 ?_|fail);all_goals(conv=>whnf)
   exact Ql (.inl rfl)
def bxP:Pl:=⟨⟨⟨[104]⟩⟩,600,⟨⟨[119]⟩⟩,⟨⟨[119]⟩⟩,[[.str ⟨⟨[119]⟩⟩,I 100,I 100,I 100,I 100,I 0]],[(0,0),(1000,0),(1000,2000),(0,2000)],
 [[.str ⟨⟨[97]⟩⟩,.str ⟨⟨[119]⟩⟩,.str ⟨⟨[]⟩⟩],[.str ⟨⟨[98]⟩⟩,.str ⟨⟨[119]⟩⟩,.str ⟨⟨[]⟩⟩],[.str ⟨⟨[99]⟩⟩,.str ⟨⟨[119]⟩⟩,.str ⟨⟨[]⟩⟩],[.str ⟨⟨[100]⟩⟩,.str ⟨⟨[119]⟩⟩,.str ⟨⟨[]⟩⟩]],.nils,.nils⟩
abbrev Yf4 (p:Int × Int):List AV:=[.agg bxP.c,rayA 500 1000 (Qa Qb (p.1-500)) (Qa Qb (p.2-1000)) (-1),P2 1 1]
noncomputable def allR (f:FuncId) (v:AV) (l:List (List AV)):Bool:=l.all fun a=>isR v (pcF (exT [197] Zv4) f a)
theorem sB:allR 250 (.bool true) (bxP.ps.map Yf4)=true:=by kernel_rfl
theorem sA:allR 280 (.bool false) (bxP.ps.map Yf4)=true:=by kernel_rfl
theorem Zt0 {f:FuncId} {v:AV} {l:List (List AV)} (h:allR f v l=true) {a:List AV} (ha:a∈l):PCall Tryz.prog f a ⟨v,[]⟩:=Zsq Zm0 (List.all_eq_true.1 h a ha)
def bxX:List (List AV):=[[P2 (-500) (-1000)],[P2 500 (-1000)],[P2 500 1000],[P2 (-500) 1000]]
theorem Yh9:ItOK Tryz.prog 279 [] [.ipt bxP.c,.ipt [I 500,I 1000],.ipt [I (-1)]] bxX :=
 Yic (q:=bxP) (.inl rfl) (.inl rfl) (by decide) 500 1000 (-1) (fun _=>true) (fun _=>false) (fun p hp=>Zt0 sB (Gv hp)) (fun p hp=>Zt0 sA (Gv hp))
def itT5:ITab:=fun g c0 c1=>cond (Qq g 279&&(eqL c0 []&&eqL c1 [.ipt bxP.c,.ipt [I 500,I 1000],.ipt [I (-1)]])) (some bxX) (itT g c0 c1)
theorem Yeu:∀ g c0 c1 xs,itT5 g c0 c1=some xs->ItOK Tryz.prog g c0 c1 xs:=by
 intro g c0 c1 xs h
 unfold itT5 at h
 cases hb:(Qq g 279&&(eqL c0 []&&eqL c1 [.ipt bxP.c,.ipt [I 500,I 1000],.ipt [I (-1)]])) with
 | true =>
  rw [hb] at h
  cases h
  simp only [Qc] at hb
  rw [Qg hb.1,Zfv _ _ hb.2.1,Zfv _ _ hb.2.2]
  exact Yh9
 | false=>rw [hb] at h; exact Yc2 g c0 c1 xs h
noncomputable def exT5 (xs:List Nat) (pt:PC):CF:=exG Tryz.prog (tget tbl) (memN eqs) itT5 (memN xs) pt 1000 60
theorem Zx3 {xs:List Nat} {pt:PC} (hpt:PCOK Tryz.prog pt):CFOK Tryz.prog (exT5 xs pt):=Zks Zzy eqOK Yeu mixed hpt 60
theorem Yk {xs:List Nat} {pt:PC} (hpt:PCOK Tryz.prog pt) {f:FuncId} {a:List AV} {v:AV} (h:isR v (pcF (exT5 xs pt) f a)=true):PCall Tryz.prog f a ⟨v,[]⟩:=Znc (Zx3 hpt) (Yc3 h)
mutual
def toFz (bl:List (Nat × List (List AV))):AV->Option AV
 | .asl id 0 len=>match bl[id]? with
  | some (es,els)=>cond (Qq len els.length) (some (.isl es els)) none
  | none=>none
 | .agg cs=>match Zt9 bl cs with
  | some ds=>some (.agg ds)
  | none=>none
 | .tup cs=>match Zt9 bl cs with
  | some ds=>some (.tup ds)
  | none=>none
 | .int k n=>some (.int k n)
 | .bool b=>some (.bool b)
 | .nils=>some .nils
 | _=>none
def Zt9 (bl:List (Nat × List (List AV))):List AV->Option (List AV)
 | []=>some []
 | c::cs=>match toFz bl c,Zt9 bl cs with
  | some d,some ds=>some (d::ds)
  | _,_=>none
end
mutual
theorem Zvy (bl:List (Nat × List (List AV))):∀ (v:AV) {v' : AV},toFz bl v=some v'->Frz bl v v'
 | .asl id 0 len,v',h=>by
  simp only [toFz] at h
  split at h
  ·rename_i es els hb
   obtain ⟨h1,h⟩:=Zd h
   cases h
   exact ⟨hb,rfl,Qg h1⟩
  ·cases h
 | .agg cs,v',h=>by
  simp only [toFz] at h
  split at h
  ·rename_i ds hd
   cases h
   exact Zmx bl cs hd
  ·cases h
 | .tup cs,v',h=>by
  simp only [toFz] at h
  split at h
  ·rename_i ds hd
   cases h
   exact Zmx bl cs hd
  ·cases h
 | .int k n,v',h=>by simp only [toFz] at h; cases h; exact ⟨rfl,rfl⟩
 | .bool b,v',h=>by simp only [toFz] at h; cases h; exact ⟨rfl,rfl⟩
 | .nils,v',h=>by simp only [toFz] at h; cases h; exact ⟨rfl,rfl⟩
 | .any,_,h | .flt _ _,_,h | .cpx _ _ _,_,h | .str _,_,h | .ptr _ _ _,_,h | .ipt _,_,h | .nilp,_,h | .bsl _ _ _ _ _,_,h | .isl _ _,_,h | .amap _,_,h | .func _ _ _,_,h | .yld _,_,h | .asl _ (_+1) _,_,h=>by simp [toFz] at h
theorem Zmx (bl:List (Nat × List (List AV))):∀ (v:List AV) {v' : List AV},Zt9 bl v=some v'->FrzL bl v v'
 | [],v',h=>by simp only [Zt9] at h; cases h; exact trivial
 | c::cs,v',h=>by
  simp only [Zt9] at h
  split at h
  ·rename_i d ds h1 h2
   cases h
   exact ⟨Zvy bl c h1,Zmx bl cs h2⟩
  ·cases h
end
def isRF (v0:AV):Option PRes->Bool
 | some ⟨v,bl⟩=>match toFz bl v with
  | some u=>eqA u v0
  | none=>false
 | _=>false
theorem Zjw {xs:List Nat} {pt:PC} (hpt:PCOK Tryz.prog pt) {f:FuncId} {a:List AV} {v:AV} (h:isRF v (pcF (exT5 xs pt) f a)=true):PCall Tryz.prog f a ⟨v,[]⟩:=by
 unfold isRF at h
 split at h
 ·rename_i u bl hu
  split at h
  ·rename_i d hd
   rw [<-Zyb _ _ h]
   exact (Znc (Zx3 hpt) hu).freeze (Zvy bl u hd)
  ·cases h
 ·cases h
theorem Yip:isR (.tup [.agg [I 0,I 0],I 0]) (pcF (exT [197] Zv4) 153 [.agg bxP.c])=true:=by kernel_rfl
theorem Yht:PCall Tryz.prog 153 [.agg bxP.c] ⟨.tup [.agg [I 0,I 0],I 0],[]⟩:=Zsq Zm0 Yip
noncomputable def boxT:PC:=Zbu 153 [.agg bxP.c] (.tup [.agg [I 0,I 0],I 0]) Zv4
theorem Zy0:PCOK Tryz.prog boxT:=Ym Yht Zm0
theorem aw77:isR (I 0) (pcF (exT5 [153,197] boxT) 77 [.agg bxP.c,.agg [.nils,.nils]])=true:=by kernel_rfl
noncomputable def t77:PC:=Zbu 77 [.agg bxP.c,.agg [.nils,.nils]] (I 0) boxT
theorem Ycc:PCOK Tryz.prog t77:=Ym (Yk Zy0 aw77) Zy0
theorem aw24:isR (I 0) (pcF (exT5 [77,153,197] t77) 24 [.agg bxP.c,.agg [.nils,.nils],.agg [I 300,I 700,I 150,I 300,I 800,I 50,I 2]])=true:=by kernel_rfl
noncomputable def t24:PC:=Zbu 24 [.agg bxP.c,.agg [.nils,.nils],.agg [I 300,I 700,I 150,I 300,I 800,I 50,I 2]] (I 0) t77
theorem Ycg:PCOK Tryz.prog t24:=Ym (Yk Ycc aw24) Ycc
theorem aw64:isR (I 0) (pcF (exT5 [24,77,153,197] t24) 64 [.agg bxP.c,.isl 1 [[I 1]]])=true:=by kernel_rfl
noncomputable def t64:PC:=Zbu 64 [.agg bxP.c,.isl 1 [[I 1]]] (I 0) t24
theorem Ycd:PCOK Tryz.prog t64:=Ym (Yk Ycg aw64) Ycg
theorem Yir:isR (.tup [.agg [I 1000,I 750,I 100,I 1],I 0]) (pcF (exT5 [24,64,77,153,197] t64) 124 [.agg bxP.c,.agg [.nils,.nils],.agg [I 1,I 1700,I 700,I 150,I 300,I 800,I 50,I 1]])=true:=by kernel_rfl
noncomputable def t124:PC:=Zbu 124 [.agg bxP.c,.agg [.nils,.nils],.agg [I 1,I 1700,I 700,I 150,I 300,I 800,I 50,I 1]] (.tup [.agg [I 1000,I 750,I 100,I 1],I 0]) t64
theorem Zv0:PCOK Tryz.prog t124:=Ym (Yk Ycd Yir) Ycd
theorem Yhy:isR (.tup [.bool true,I 0]) (pcF (exT5 [24,64,77,124,153,197] t124) 125 [.agg bxP.c,.agg [.nils,.nils],.agg [I 300,I 700,I 150,I 1,I 1000,I 750,I 100,I 1]])=true:=by kernel_rfl
noncomputable def Ydx:PC:=Zbu 125 [.agg bxP.c,.agg [.nils,.nils],.agg [I 300,I 700,I 150,I 1,I 1000,I 750,I 100,I 1]] (.tup [.bool true,I 0]) t124
theorem Zsf:PCOK Tryz.prog Ydx:=Ym (Yk Zv0 Yhy) Zv0
theorem Yhx:isR (.tup [.bool true,I 0]) (pcF (exT5 [24,64,77,124,125,153,197] Ydx) 125 [.agg bxP.c,.agg [.nils,.nils],.agg [I 1000,I 750,I 100,I 1,I 300,I 800,I 50,I 1]])=true:=by kernel_rfl
noncomputable def Ydw:PC:=Zbu 125 [.agg bxP.c,.agg [.nils,.nils],.agg [I 1000,I 750,I 100,I 1,I 300,I 800,I 50,I 1]] (.tup [.bool true,I 0]) Ydx
theorem Zse:PCOK Tryz.prog Ydw:=Ym (Yk Zsf Yhx) Zsf
theorem Yiq:isR (.tup [.agg [I 0,I 1000],I 0]) (pcF (exT5 [24,64,77,124,125,153,197] Ydw) 136 [.agg bxP.c,.agg [.nils,.nils],I 1])=true:=by kernel_rfl
noncomputable def t136:PC:=Zbu 136 [.agg bxP.c,.agg [.nils,.nils],I 1] (.tup [.agg [I 0,I 1000],I 0]) Ydw
theorem Zvz:PCOK Tryz.prog t136:=Ym (Yk Zse Yiq) Zse
theorem aw14:isRF (.tup [.agg [.isl 1 [[I 1]],.isl 4 [[I 1000,I 750,I 100,I 1]],I 1980000],I 0]) (pcF (exT5 [24,64,77,124,125,136,153,197] t136) 14 [.agg bxP.c,.agg [.nils,.nils],.agg [I 300,I 700,I 150,I 300,I 800,I 50,I 2],.isl 1 [[I 1]]])=true:=by kernel_rfl
noncomputable def t14:PC:=Zbu 14 [.agg bxP.c,.agg [.nils,.nils],.agg [I 300,I 700,I 150,I 300,I 800,I 50,I 2],.isl 1 [[I 1]]] (.tup [.agg [.isl 1 [[I 1]],.isl 4 [[I 1000,I 750,I 100,I 1]],I 1980000],I 0]) t136
theorem Ych:PCOK Tryz.prog t14:=Ym (Zjw Zvz aw14) Zvz
theorem aw38:isR (.tup [.agg [I 4159,I 4160],I 0]) (pcF (exT5 [14,24,64,77,124,125,136,153,197] t14) 38 [.agg [.nils,.nils,I 20000],I 34000])=true:=by kernel_rfl
noncomputable def t38:PC:=Zbu 38 [.agg [.nils,.nils,I 20000],I 34000] (.tup [.agg [I 4159,I 4160],I 0]) t14
theorem Ycf:PCOK Tryz.prog t38:=Ym (Yk Ych aw38) Ych
theorem Yis:isR (.tup [.agg bxP.c,I 0]) (pcF (exT5 [14,24,38,64,77,124,125,136,153,197] t38) 117 [.agg bxP.c,.agg [I 500,I 1000],I 0])=true:=by kernel_rfl
noncomputable def t117:PC:=Zbu 117 [.agg bxP.c,.agg [I 500,I 1000],I 0] (.tup [.agg bxP.c,I 0]) t38
theorem Zv1:PCOK Tryz.prog t117:=Ym (Yk Ycf Yis) Ycf
theorem awn0:isR (.tup [.agg [I 1000000,I 4000,I 2,.bool true],.bool true]) (pcF (exT5 [14,24,38,64,77,117,124,125,136,153,197] t117) 121 [.agg bxP.c,.agg [I 500,I 1000,I 0,I 4,I (-1)]])=true:=by kernel_rfl
noncomputable def tn0:PC:=Zbu 121 [.agg bxP.c,.agg [I 500,I 1000,I 0,I 4,I (-1)]] (.tup [.agg [I 1000000,I 4000,I 2,.bool true],.bool true]) t117
theorem Ycb:PCOK Tryz.prog tn0:=Ym (Yk Zv1 awn0) Zv1
theorem awn1:isR (.tup [.agg [I 1000000,I 4000,I 3,.bool true],.bool true]) (pcF (exT5 [14,24,38,64,77,117,121,124,125,136,153,197] tn0) 121 [.agg bxP.c,.agg [I 500,I 1000,I (-2),I 0,I (-1)]])=true:=by kernel_rfl
noncomputable def tn1:PC:=Zbu 121 [.agg bxP.c,.agg [I 500,I 1000,I (-2),I 0,I (-1)]] (.tup [.agg [I 1000000,I 4000,I 3,.bool true],.bool true]) tn0
theorem Yca:PCOK Tryz.prog tn1:=Ym (Yk Ycb awn1) Ycb
theorem awn2:isR (.tup [.agg [I 1000000,I 4000,I 0,.bool true],.bool true]) (pcF (exT5 [14,24,38,64,77,117,121,124,125,136,153,197] tn1) 121 [.agg bxP.c,.agg [I 500,I 1000,I 0,I (-4),I (-1)]])=true:=by kernel_rfl
noncomputable def tn2:PC:=Zbu 121 [.agg bxP.c,.agg [I 500,I 1000,I 0,I (-4),I (-1)]] (.tup [.agg [I 1000000,I 4000,I 0,.bool true],.bool true]) tn1
theorem Yb9:PCOK Tryz.prog tn2:=Ym (Yk Yca awn2) Yca
theorem awn3:isR (.tup [.agg [I 1000000,I 4000,I 1,.bool true],.bool true]) (pcF (exT5 [14,24,38,64,77,117,121,124,125,136,153,197] tn2) 121 [.agg bxP.c,.agg [I 500,I 1000,I 2,I 0,I (-1)]])=true:=by kernel_rfl
noncomputable def tn3:PC:=Zbu 121 [.agg bxP.c,.agg [I 500,I 1000,I 2,I 0,I (-1)]] (.tup [.agg [I 1000000,I 4000,I 1,.bool true],.bool true]) tn2
theorem Yb8:PCOK Tryz.prog tn3:=Ym (Yk Yb9 awn3) Yb9
theorem awr0:isR (.tup [.agg [I 1000000,I 2000,I 1,.bool true],.bool true]) (pcF (exT5 [14,24,38,64,77,117,121,124,125,136,153,197] tn3) 121 [.agg bxP.c,.agg [I 500,I 1000,I 1,I 0,I (-1)]])=true:=by kernel_rfl
noncomputable def tr0:PC:=Zbu 121 [.agg bxP.c,.agg [I 500,I 1000,I 1,I 0,I (-1)]] (.tup [.agg [I 1000000,I 2000,I 1,.bool true],.bool true]) tn3
theorem Yb7:PCOK Tryz.prog tr0:=Ym (Yk Yb8 awr0) Yb8
theorem awr1:isR (.tup [.agg [I 3000000,I 2000,I 3,.bool true],.bool true]) (pcF (exT5 [14,24,38,64,77,117,121,124,125,136,153,197] tr0) 121 [.agg bxP.c,.agg [I 1500,I 1000,I (-1),I 0,I 1]])=true:=by kernel_rfl
noncomputable def tr1:PC:=Zbu 121 [.agg bxP.c,.agg [I 1500,I 1000,I (-1),I 0,I 1]] (.tup [.agg [I 3000000,I 2000,I 3,.bool true],.bool true]) tr0
theorem Yb6:PCOK Tryz.prog tr1:=Ym (Yk Yb7 awr1) Yb7
theorem awr2:isR (.tup [.agg [I 5000000,I 2000,I 1,.bool true],.bool true]) (pcF (exT5 [14,24,38,64,77,117,121,124,125,136,153,197] tr1) 121 [.agg bxP.c,.agg [I (-1500),I 1000,I 1,I 0,I 3]])=true:=by kernel_rfl
noncomputable def tr2:PC:=Zbu 121 [.agg bxP.c,.agg [I (-1500),I 1000,I 1,I 0,I 3]] (.tup [.agg [I 5000000,I 2000,I 1,.bool true],.bool true]) tr1
theorem Yb5:PCOK Tryz.prog tr2:=Ym (Yk Yb6 awr2) Yb6
theorem aw61:isRF (.tup [.isl 8 [[.nils,I 500,I 1000,I 1,I 2,I (-1),I 2,I 2],[.nils,I 500,I 1000,I (-1),I 2,I (-1),I (-2),I 3],[.nils,I 500,I 1000,I (-1),I (-2),I 1,I (-2),I 0],[.nils,I 500,I 1000,I 1,I (-2),I 1,I 2,I 1]],I 0]) (pcF (exT5 [14,24,38,64,77,117,121,124,125,136,153,197] tr2) 61 [.agg bxP.c,.agg [I 500,I 1000],I 0])=true:=by kernel_rfl
noncomputable def t61:PC:=Zbu 61 [.agg bxP.c,.agg [I 500,I 1000],I 0] (.tup [.isl 8 [[.nils,I 500,I 1000,I 1,I 2,I (-1),I 2,I 2],[.nils,I 500,I 1000,I (-1),I 2,I (-1),I (-2),I 3],[.nils,I 500,I 1000,I (-1),I (-2),I 1,I (-2),I 0],[.nils,I 500,I 1000,I 1,I (-2),I 1,I 2,I 1]],I 0]) tr2
theorem Yce:PCOK Tryz.prog t61:=Ym (Zjw Yb5 aw61) Yb5
theorem aw62:isRF (.tup [.isl 1 [[I 1],[I 3],[I 1]],I 0]) (pcF (exT5 [14,24,38,61,64,77,117,121,124,125,136,153,197] t61) 62 [.agg bxP.c,.agg [I 500,I 1000],.agg [I 1,I 0],I 3])=true:=by kernel_rfl
noncomputable def t62:PC:=Zbu 62 [.agg bxP.c,.agg [I 500,I 1000],.agg [I 1,I 0],I 3] (.tup [.isl 1 [[I 1],[I 3],[I 1]],I 0]) t61
theorem Yfz:PCOK Tryz.prog t62:=Ym (Zjw Yce aw62) Yce
theorem aw12:isR (.bool true) (pcF (exT5 [14,24,38,61,62,64,77,117,121,124,125,136,153,197] t62) 12 [])=true:=by kernel_rfl
theorem Ybx:PCall Tryz.prog 12 [] ⟨.bool true,[]⟩:=Yk Yfz aw12
theorem own:ownKnob Tryz.prog.godebug=none:=by kernel_rfl
theorem Yep:laidOutB Tryz.prog=true:=by kernel_rfl
theorem Yif:laidOutB Tryz.checked.prog=true:=by kernel_rfl
theorem Yid:mapsRowed Tryz.checked.prog=true:=by kernel_rfl
theorem Yhe:Tryz.checked.prog.plainKeys=Rows.imageDelaysRow.plainKeys:=by kernel_rfl
theorem Yhh:Tryz.checked.prog.stopsHeard=true:=by kernel_rfl
theorem fMay:Tryz.checked.prog.mayEnter=true:=by kernel_rfl
theorem Yhf:Tryz.checked.prog.liftsFinal=Rows.imageDelaysRow.lifted:=by kernel_rfl
theorem Yie:Tryz.checked.prog.make=some Rows.imageDelaysRow.make:=by kernel_rfl
theorem Ycq {a b c:Int} (hc:0<c):a*c<b*c↔a<b:=⟨fun h=>Int.lt_of_mul_lt_mul_right h (by omega),fun h=>Wk h hc⟩
theorem Zs2 {a b c:Int} (hc:0<c):a*c<=b*c↔a<=b:=⟨fun h=>Int.le_of_mul_le_mul_right h hc,fun h=>Qk h (by omega)⟩
theorem Zbx {a c:Int} (hc:0<c):0<c*a↔0<a:=by rw [Rr]; have:=Ycq (a:=0) (b:=a) hc; rwa [Tz] at this
theorem Zdc {a c:Int} (hc:0<c):c*a<0↔a<0:=by rw [Rr]; have:=Ycq (a:=a) (b:=0) hc; rwa [Tz] at this
theorem nn_l {a c:Int} (hc:0<c):0<=c*a↔0<=a:=by rw [Rr]; have:=Zs2 (a:=0) (b:=a) hc; rwa [Tz] at this
theorem np_l {a c:Int} (hc:0<c):c*a<=0↔a<=0:=by rw [Rr]; have:=Zs2 (a:=a) (b:=0) hc; rwa [Tz] at this
theorem Zay (a b:Int):imin a b=min a b:=by
 unfold imin; by_cases h:b<a<;>simp [h]<;>omega
theorem Zaz (a b:Int):imax a b=max a b:=by
 unfold imax; by_cases h:a<b<;>simp [h]<;>omega
theorem Zb9 {a b d:Int} (hd:0<d):min a b*d=min (a*d) (b*d):=by
 rcases Hu a b with h|h
 ·rw [Qad h,Qad (Qk h (by omega))]
 ·rw [Dp h,Dp (Qk h (by omega))]
theorem Zca {a b d:Int} (hd:0<d):max a b*d=max (a*d) (b*d):=by
 rcases Hu a b with h|h
 ·rw [Dq h,Dq (Qk h (by omega))]
 ·rw [Qae h,Qae (Qk h (by omega))]
def spans (a b c d:Int):Prop:=∃ l m:Int,0<l/\0<m/\0<=l*a+m*b/\0<=l*c+m*d
theorem Zud {a b c d:Int}:spans a b c d↔spans b a d c :=
 ⟨fun ⟨l,m,h1,h2,h3,h4⟩=>⟨m,l,h2,h1,by rw [Wz]; exact h3,by rw [Wz]; exact h4⟩,fun ⟨l,m,h1,h2,h3,h4⟩=>⟨m,l,h2,h1,by rw [Wz]; exact h3,by rw [Wz]; exact h4⟩⟩
theorem Zz0 {a b c d:Int} (h1:0<a+c) (h2:0<b+d) (he:a*d=b*c):spans a b c d↔0<=a/\0<=c:=by
 constructor
 ·rintro ⟨l,m,hl,hm,e1,e2⟩
  have hp:0<l*(a+c)+m*(b+d):=by have:=Rq hl h1; have:=Rq hm h2; omega
  have k1:(l*a+m*b)*(a+c)=(l*(a+c)+m*(b+d))*a:=by grind
  have k2:(l*c+m*d)*(a+c)=(l*(a+c)+m*(b+d))*c:=by grind
  have q1:=Rj e1 (Qw h1)
  have q2:=Rj e2 (Qw h1)
  rw [k1,nn_l hp] at q1
  rw [k2,nn_l hp] at q2
  exact ⟨q1,q2⟩
 ·rintro ⟨ha,hc⟩
  refine ⟨1,1,by omega,by omega,?_,?_⟩
  ·have k:(a+c)*b=a*(b+d):=by grind
   have q:=Rj ha (Qw h2)
   rw [<-k,nn_l h1] at q
   omega
  ·have k:(a+c)*d=c*(b+d):=by grind
   have q:=Rj hc (Qw h2)
   rw [<-k,nn_l h1] at q
   omega
theorem Zm3 {a b c d:Int} (h1:0<a+c) (h2:0<b+d) (he:b*c<a*d):spans a b c d↔0<a/\0<d:=by
 constructor
 ·rintro ⟨l,m,hl,hm,e1,e2⟩
  constructor
  ·by_cases ha:0<a
   ·exact ha
   exfalso
   have q:(b+d)*a<=0:=(np_l h2).2 (by omega)
   have q2:(a+c)*b<0:=by
    have:(a+c)*b=(b+d)*a+(b*c-a*d):=by grind
    omega
   have hb:=(Zdc h1).1 q2
   have:=(Zdc hm).2 hb
   have:=(np_l hl).2 (show a<=0 by omega)
   omega
  ·by_cases hd:0<d
   ·exact hd
   exfalso
   have q:(a+c)*d<=0:=(np_l h1).2 (by omega)
   have q2:(b+d)*c<0:=by
    have:(b+d)*c=(a+c)*d+(b*c-a*d):=by grind
    omega
   have hb:=(Zdc h2).1 q2
   have:=(Zdc hl).2 hb
   have:=(np_l hm).2 (show d<=0 by omega)
   omega
 ·rintro ⟨ha,hd⟩
  by_cases hb:0<=b
  ·refine ⟨1,c.natAbs+1,by omega,by omega,?_,?_⟩
   ·have:=Rj (show (0:Int)<=(c.natAbs:Int)+1 by omega) hb
    omega
   ·have:=Rp (show 1<=d by omega) (show (0:Int)<=(c.natAbs:Int)+1 by omega)
    omega
  by_cases hc:0<=c
  ·refine ⟨-b,1,by omega,by omega,?_,?_⟩
   ·have:=Rp (show 1<=a by omega) (show (0:Int) <= -b by omega)
    omega
   ·have:=Rj (show 0 <= -b by omega) hc
    omega
  ·refine ⟨-b,a,by omega,ha,?_,?_⟩
   ·have : -b*a+a*b=0:=by grind
    omega
   ·have : -b*c+a*d=a*d-b*c:=by grind
    omega
theorem Zsg {a b c d:Int} (h1:0<a+c) (h2:0<b+d) (he:a*d<b*c):spans a b c d↔0<b/\0<c:=by
 rw [Zud]; exact Zm3 h2 h1 he
structure P2d where
 x:Int
 y:Int
 d:Int
def bsP (w:Wl) (sx sy:Int) (p:P2d):Int:=bes w sx sy p.x p.y p.d
def alP (w:Wl) (sx sy:Int) (p:P2d):Int:=alo w sx sy p.x p.y p.d
def ful (n sx sy:Int):Int:=n*(sx*sx+sy*sy)
def Zar (w:Wl) (n sx sy:Int) (p q:P2d):Prop:=∃ l m:Int,0<l/\0<m/\l*bsP w sx sy p+m*bsP w sx sy q=0/\0<=l*alP w sx sy p+m*alP w sx sy q/\l*alP w sx sy p+m*alP w sx sy q<=ful n sx sy*(l*p.d+m*q.d)
theorem Ye3 {w:Wl} {n sx sy:Int} (h:Str w n sx sy):0<ful n sx sy:=by
 have hn:=h.hn
 have hxy:=h.hxy
 unfold ful
 rcases h.hx with rfl|rfl|rfl<;>rcases h.hy with rfl|rfl|rfl<;>(try (exact absurd ⟨rfl,rfl⟩ hxy))<;>simp<;>omega
theorem Zl7 {w:Wl} {n sx sy:Int} {p q:P2d}:Zar w n sx sy p q↔Zar w n sx sy q p:=by
 have key:∀ p q,Zar w n sx sy p q->Zar w n sx sy q p:=by
  rintro p q ⟨l,m,h1,h2,h3,h4,h5⟩
  refine ⟨m,l,h2,h1,by omega,by omega,?_⟩
  rw [Wz (m*q.d)]; omega
 exact ⟨key _ _,key _ _⟩
theorem Zl9 {w:Wl} {n sx sy:Int} (h:Str w n sx sy) {p q:P2d} (h1:bsP w sx sy p=0) (h2:bsP w sx sy q=0):Zar w n sx sy p q↔spans (alP w sx sy p) (alP w sx sy q) (ful n sx sy*p.d-alP w sx sy p) (ful n sx sy*q.d-alP w sx sy q):=by
 unfold Zar spans
 rw [h1,h2]
 constructor
 ·rintro ⟨l,m,hl,hm,_,e1,e2⟩
  exact ⟨l,m,hl,hm,e1,by grind⟩
 ·rintro ⟨l,m,hl,hm,e1,e2⟩
  exact ⟨l,m,hl,hm,by omega,e1,by grind⟩
theorem Zl8 {w:Wl} {n sx sy:Int} {p q:P2d} (h0:¬(bsP w sx sy p=0/\bsP w sx sy q=0)) (h1:0<=sgn (bsP w sx sy p)*sgn (bsP w sx sy q)):¬ Zar w n sx sy p q:=by
 rintro ⟨l,m,hl,hm,e,_⟩
 have hs:¬ (sgn (bsP w sx sy p)*sgn (bsP w sx sy q)<0):=by omega
 rw [sgn_mul_neg] at hs
 generalize bsP w sx sy p=a at *
 generalize bsP w sx sy q=b at *
 by_cases ha:0<a
 ·have:=(Zbx hl).2 ha
  have:=(nn_l hm).2 (show 0<=b by omega)
  omega
 by_cases hb:a<0
 ·have:=(Zdc hl).2 hb
  have:=(np_l hm).2 (show b<=0 by omega)
  omega
 have:a=0:=by omega
 subst this
 have:m*b≠0:=Int.mul_ne_zero (by omega) (by omega)
 omega
theorem Zdd {w:Wl} {n sx sy:Int} {p q:P2d} {f g:Int} (hf:bsP w sx sy p=f) (hg:bsP w sx sy q=g) (h1:f<0/\0<g):Zar w n sx sy p q↔0<=g*alP w sx sy p-f*alP w sx sy q/\g*alP w sx sy p-f*alP w sx sy q<=ful n sx sy*(g*p.d-f*q.d):=by
 unfold Zar
 rw [hf,hg]
 generalize alP w sx sy p=a
 generalize alP w sx sy q=b
 generalize ful n sx sy=F
 constructor
 ·rintro ⟨l,m,hl,hm,e,e1,e2⟩
  have k1:g*(l*a+m*b)=l*(g*a-f*b):=by grind
  have k2:g*(F*(l*p.d+m*q.d)-(l*a+m*b))=l*(F*(g*p.d-f*q.d)-(g*a-f*b)):=by grind
  have q1:=(nn_l h1.2).2 e1
  have q2:=(nn_l h1.2).2 (show 0<=F*(l*p.d+m*q.d)-(l*a+m*b) by omega)
  rw [k1,nn_l hl] at q1
  rw [k2,nn_l hl] at q2
  exact ⟨q1,by omega⟩
 ·rintro ⟨e1,e2⟩
  refine ⟨g,-f,h1.2,by omega,by grind,?_,?_⟩
  ·have:g*a + -f*b=g*a-f*b:=by grind
   omega
  ·have:g*a + -f*b=g*a-f*b:=by grind
   have:g*p.d + -f*q.d=g*p.d-f*q.d:=by grind
   rw [this]; omega
theorem Zug {a b:Int}:sgn a*sgn b<=0 ↔ ¬((0<a/\0<b)\/(a<0/\b<0)):=by
 unfold sgn
 split<;>split<;>(try split)<;>(try split)<;>simp<;>omega
theorem Zso {r:Rc} (hr:RcOk r) {x y d:Int} (hd:0<d/\d<=1000000000000000):r.has x y d=true↔0<=x-r.xl*d/\0<=r.xh*d-x/\0<=y-r.yl*d/\0<=r.yh*d-y:=by
 obtain ⟨h1,h2,h3,h4,h5,h6⟩:=hr
 have c1:=Zj (f:=r.xl) (d:=d) (by omega) hd.1
 have c2:=Zj (f:=r.xh) (d:=d) (by omega) hd.1
 have c3:=Zj (f:=r.yl) (d:=d) (by omega) hd.1
 have c4:=Zj (f:=r.yh) (d:=d) (by omega) hd.1
 unfold Rc.has
 rw [W_eq (n:=r.xl*d) (by omega) (by omega),W_eq (n:=r.xh*d) (by omega) (by omega),W_eq (n:=r.yl*d) (by omega) (by omega),W_eq (n:=r.yh*d) (by omega) (by omega),Qc,within_iff,within_iff]
 omega
theorem Zez {r:Rc} (hr:RcOk r) {x y d:Int} (hd:0<d/\d<=1000000000000000):r.holds x y d=true↔0<x-r.xl*d/\0<r.xh*d-x/\0<y-r.yl*d/\0<r.yh*d-y:=by
 obtain ⟨h1,h2,h3,h4,h5,h6⟩:=hr
 have c1:=Zj (f:=r.xl) (d:=d) (by omega) hd.1
 have c2:=Zj (f:=r.xh) (d:=d) (by omega) hd.1
 have c3:=Zj (f:=r.yl) (d:=d) (by omega) hd.1
 have c4:=Zj (f:=r.yh) (d:=d) (by omega) hd.1
 unfold Rc.holds
 rw [W_eq (n:=r.xl*d) (by omega) (by omega),W_eq (n:=r.xh*d) (by omega) (by omega),W_eq (n:=r.yl*d) (by omega) (by omega),W_eq (n:=r.yh*d) (by omega) (by omega)]
 simp only [Qc,decide_eq_true_eq]
 omega
structure PtR (p:Pt):Prop where
 d0:0<p.d
 d1:p.d<=100000
 x : -(5000*p.d)<=p.x/\p.x<=5000*p.d
 y : -(5000*p.d)<=p.y/\p.y<=5000*p.d
theorem PtR.ok {p:Pt} (h:PtR p):PtOk p.x p.y p.d:=by
 obtain ⟨h1,h2,h3,h4⟩:=h
 exact ⟨h1,by omega,by omega,by omega⟩
def Pt.pl (p:Pt):P2d:=⟨p.x,p.y,p.d⟩
def cmpQ (n d m k:Int):Int:=sgn (n*k-m*d)
def Zdb (l:Ln) (a b:Pt):Bool :=
  if l.beside a=0/\l.beside b=0 then
    (if cmpQ (l.along a) a.d (l.along b) b.d=0 then within (l.along a) 0 (Qa Qb (l.full*a.d))
     else if cmpQ (l.along a) a.d (l.along b) b.d<0 then decide (0<l.along b)&&decide (l.along a<Qa Qb (l.full*a.d))
     else decide (0<l.along a)&&decide (l.along b<Qa Qb (l.full*b.d)))
  else if 0<=Qa Qb (sgn (l.beside a)*sgn (l.beside b)) then false
  else if Qa Qb (Qa Qb (l.beside b*a.d)-Qa Qb (l.beside a*b.d))<0 then
    decide (0<=Qa Qb (0-Qa Qb (Qa Qb (l.along a*l.beside b)-Qa Qb (l.along b*l.beside a))))&&decide (cmpQ (Qa Qb (0-Qa Qb (Qa Qb (l.along a*l.beside b)-Qa Qb (l.along b*l.beside a)))) (Qa Qb (0-Qa Qb (Qa Qb (l.beside b*a.d)-Qa Qb (l.beside a*b.d)))) l.full 1<=0)
  else decide (0<=Qa Qb (Qa Qb (l.along a*l.beside b)-Qa Qb (l.along b*l.beside a)))&&decide (cmpQ (Qa Qb (Qa Qb (l.along a*l.beside b)-Qa Qb (l.along b*l.beside a))) (Qa Qb (Qa Qb (l.beside b*a.d)-Qa Qb (l.beside a*b.d))) l.full 1<=0)
theorem Ztv {w:Wl} {n sx sy:Int} (h:Str w n sx sy) {p:Pt} (hp:PtR p):(-2000000000<=bsP w sx sy p.pl/\bsP w sx sy p.pl<=2000000000)/\(-2000000000<=alP w sx sy p.pl/\alP w sx sy p.pl<=2000000000):=by
 have a1:=Zj h.b1 hp.d0
 have a2:=Zj h.b2 hp.d0
 have a3:=hp.d1
 have a4:=hp.x
 have a5:=hp.y
 unfold bsP alP bes alo Pt.pl
 dsimp only
 generalize w.fx*p.d=A at *
 generalize w.fy*p.d=C at *
 rcases h.hx with rfl|rfl|rfl<;>rcases h.hy with rfl|rfl|rfl<;>omega
theorem Zxq {w:Wl} {n sx sy:Int} (h:Str w n sx sy):0<ful n sx sy/\ful n sx sy<=20000:=by
 refine ⟨Ye3 h,?_⟩
 have:=h.nle
 have:=h.hn
 unfold ful
 rcases h.hx with rfl|rfl|rfl<;>rcases h.hy with rfl|rfl|rfl<;>omega
theorem Zq4 {w:Wl} {n sx sy:Int} (h:Str w n sx sy) {p q:Pt} (hp:PtR p) (hq:PtR q):Zdb w.ln p q=true↔Zar w n sx sy p.pl q.pl:=by
 have ep:w.ln.beside p=bsP w sx sy p.pl:=Vz (z:=p.z) h hp.ok
 have eq:w.ln.beside q=bsP w sx sy q.pl:=Vz (z:=q.z) h hq.ok
 have ap:w.ln.along p=alP w sx sy p.pl:=Zfe (z:=p.z) h hp.ok
 have aq:w.ln.along q=alP w sx sy q.pl:=Zfe (z:=q.z) h hq.ok
 have ef:w.ln.full=ful n sx sy:=Znm h
 obtain ⟨b1,b2⟩:=Ztv h hp
 obtain ⟨b3,b4⟩:=Ztv h hq
 obtain ⟨f1,f2⟩:=Zxq h
 have dp:=hp.d0
 have dp1:=hp.d1
 have dq:=hq.d0
 have dq1:=hq.d1
 have F1:=Zn (a:=ful n sx sy) (b:=p.d) (A:=20000) (B:=100000) (by omega) (by omega)
 have F2:=Zn (a:=ful n sx sy) (b:=q.d) (A:=20000) (B:=100000) (by omega) (by omega)
 have P1:=Rq f1 dp
 have P2:=Rq f1 dq
 unfold Zdb
 rw [ep,eq,ap,aq,ef]
 by_cases h0:bsP w sx sy p.pl=0/\bsP w sx sy q.pl=0
 ·rw [if_pos h0,Zl9 h h0.1 h0.2]
  rw [W_eq (n:=ful n sx sy*p.d) (by omega) (by omega),W_eq (n:=ful n sx sy*q.d) (by omega) (by omega)]
  unfold cmpQ
  show _↔spans _ _ (ful n sx sy*p.d-_) (ful n sx sy*q.d-_)
  have key:alP w sx sy p.pl*(ful n sx sy*q.d-alP w sx sy q.pl)-alP w sx sy q.pl*(ful n sx sy*p.d-alP w sx sy p.pl)=ful n sx sy*(alP w sx sy p.pl*q.d-alP w sx sy q.pl*p.d):=by grind
  generalize alP w sx sy p.pl=a at *
  generalize alP w sx sy q.pl=b at *
  by_cases c1:sgn (a*q.d-b*p.d)=0
  ·rw [if_pos c1,within_iff]
   rw [Ue] at c1
   rw [c1] at key
   rw [Zz0 (by omega) (by omega) (by omega)]
   omega
  ·rw [if_neg c1]
   by_cases c2:sgn (a*q.d-b*p.d)<0
   ·rw [if_pos c2,Qc,decide_eq_true_eq,decide_eq_true_eq]
    rw [Xt,<-Zdc f1] at c2
    rw [Zsg (by omega) (by omega) (by omega)]
    omega
   ·rw [if_neg c2,Qc,decide_eq_true_eq,decide_eq_true_eq]
    have c3:0<a*q.d-b*p.d:=by
     rw [<-Xs]; omega
    rw [<-Zbx f1] at c3
    rw [Zm3 (by omega) (by omega) (by omega)]
    omega
 ·rw [if_neg h0,Zew]
  by_cases h1:0<=sgn (bsP w sx sy p.pl)*sgn (bsP w sx sy q.pl)
  ·rw [if_pos h1]
   exact ⟨fun h=>by simp at h,fun h=>absurd h (Zl8 h0 h1)⟩
  ·rw [if_neg h1]
   have h2:=sgn_mul_neg.1 (show sgn (bsP w sx sy p.pl)*sgn (bsP w sx sy q.pl)<0 by omega)
   generalize hf:bsP w sx sy p.pl=f at *
   generalize hg:bsP w sx sy q.pl=g at *
   have m1:=Zn (a:=alP w sx sy p.pl) (b:=g) (A:=2000000000) (B:=2000000000) (by omega) (by omega)
   have m2:=Zn (a:=alP w sx sy q.pl) (b:=f) (A:=2000000000) (B:=2000000000) (by omega) (by omega)
   have m3:=Zn (a:=g) (b:=p.d) (A:=2000000000) (B:=100000) (by omega) (by omega)
   have m4:=Zn (a:=f) (b:=q.d) (A:=2000000000) (B:=100000) (by omega) (by omega)
   rw [W_eq (n:=alP w sx sy p.pl*g) (by omega) (by omega),W_eq (n:=alP w sx sy q.pl*f) (by omega) (by omega),W_eq (n:=g*p.d) (by omega) (by omega),W_eq (n:=f*q.d) (by omega) (by omega)]
   rw [W_eq (n:=alP w sx sy p.pl*g-alP w sx sy q.pl*f) (by omega) (by omega),W_eq (n:=g*p.d-f*q.d) (by omega) (by omega)]
   rcases h2 with h2|h2
   ·have k1:=(Zbx dp).2 h2.2
    have k2:=(Zdc dq).2 h2.1
    rw [if_neg (by rw [Rr g,Rr f]; omega),Zdd hf hg h2,Qc,decide_eq_true_eq,decide_eq_true_eq]
    unfold cmpQ
    rw [Zsk,Ss,Rr (alP w sx sy p.pl),Rr (alP w sx sy q.pl)]
    show _↔_/\_<=ful n sx sy*(g*p.d-f*q.d)
    omega
   ·have k1:=(Zdc dp).2 h2.2
    have k2:=(Zbx dq).2 h2.1
    rw [if_pos (by rw [Rr g,Rr f]; omega),Zl7,Zdd hg hf (by omega),Qc,decide_eq_true_eq,decide_eq_true_eq]
    rw [W_eq (n:=0-(alP w sx sy p.pl*g-alP w sx sy q.pl*f)) (by omega) (by omega),W_eq (n:=0-(g*p.d-f*q.d)) (by omega) (by omega)]
    unfold cmpQ
    rw [Zsk,Ss,Rr (alP w sx sy p.pl),Rr (alP w sx sy q.pl),Int.zero_sub (g*p.d-f*q.d),Int.neg_sub]
    show _↔_/\_<=ful n sx sy*(f*q.d-g*p.d)
    omega
def Zqn (p q:Pt):Int:=Qa Qb (Qa Qb (q.x*p.d)-Qa Qb (p.x*q.d))
def Zqm (p q:Pt):Int:=Qa Qb (Qa Qb (q.y*p.d)-Qa Qb (p.y*q.d))
def cmpP (a b c d:Int):Int:=sgn (a*b-c*d)
def Zhr (p q:Pt) (x y:Int):Int:=cmpP (Zqn p q) (Qa Qb (Qa Qb (y*p.d)-p.y)) (Zqm p q) (Qa Qb (Qa Qb (x*p.d)-p.x))
def ovl (fr den to oth a b:Int):Bool:=decide (imin (Qa Qb (fr*oth)) (Qa Qb (to*den))<Qa Qb (Qa Qb (imax a b*den)*oth))&&decide (Qa Qb (Qa Qb (imin a b*den)*oth)<imax (Qa Qb (fr*oth)) (Qa Qb (to*den)))
def touP (p q:Pt) (w:Wl):Bool :=
 if Zqn p q=0/\Zqm p q=0 then w.has p.x p.y p.d
 else if w.side p.x p.y p.d=0/\w.side q.x q.y q.d=0 then (if w.fx=w.tx then ovl p.y p.d q.y q.d w.fy w.ty else ovl p.x p.d q.x q.d w.fx w.tx)
 else if 0<=Qa Qb (w.side p.x p.y p.d*w.side q.x q.y q.d) then false
 else decide (Qa Qb (Zhr p q w.fx w.fy*Zhr p q w.tx w.ty)<=0)
theorem Yb3 {p q:Pt} (hp:PtR p) (hq:PtR q):Zqn p q=q.x*p.d-p.x*q.d/\Zqm p q=q.y*p.d-p.y*q.d:=by
 obtain ⟨a1,a2,a3,a4⟩:=hp
 obtain ⟨b1,b2,b3,b4⟩:=hq
 have m1:=Zn (a:=q.x) (b:=p.d) (A:=500000000) (B:=100000) (by omega) (by omega)
 have m2:=Zn (a:=p.x) (b:=q.d) (A:=500000000) (B:=100000) (by omega) (by omega)
 have m3:=Zn (a:=q.y) (b:=p.d) (A:=500000000) (B:=100000) (by omega) (by omega)
 have m4:=Zn (a:=p.y) (b:=q.d) (A:=500000000) (B:=100000) (by omega) (by omega)
 unfold Zqn Zqm
 rw [W_eq (n:=q.x*p.d) (by omega) (by omega),W_eq (n:=p.x*q.d) (by omega) (by omega),W_eq (n:=q.y*p.d) (by omega) (by omega),W_eq (n:=p.y*q.d) (by omega) (by omega)]
 exact ⟨W_eq (by omega) (by omega),W_eq (by omega) (by omega)⟩
theorem Zlt {p q:Pt} (hp:PtR p) (hq:PtR q) {x y:Int} (hx : -5000<=x/\x<=5000) (hy : -5000<=y/\y<=5000):Zhr p q x y=sgn ((q.x*p.d-p.x*q.d)*(y*p.d-p.y)-(q.y*p.d-p.y*q.d)*(x*p.d-p.x)):=by
 obtain ⟨e1,e2⟩:=Yb3 hp hq
 obtain ⟨a1,a2,a3,a4⟩:=hp
 have c1:=Zj hx a1
 have c2:=Zj hy a1
 unfold Zhr cmpP
 rw [e1,e2,W_eq (n:=y*p.d) (by omega) (by omega),W_eq (n:=x*p.d) (by omega) (by omega),W_eq (n:=y*p.d-p.y) (by omega) (by omega),W_eq (n:=x*p.d-p.x) (by omega) (by omega)]
theorem Zwq {x d x' d' fx n e s:Int} (he:e=1\/e = -1) (hn:0<n/\n<=10000) (hs:0<s) (hd:0<d/\d<=100000) (hd' : 0<d'/\d'<=100000) (hx : -(5000*d)<=x/\x<=5000*d) (hx' : -(5000*d')<=x'/\x'<=5000*d') (hf : -5000<=fx/\fx<=5000) (ht : -5000<=fx+n*e/\fx+n*e<=5000) (hne:x'*d-x*d'≠0) :
  ovl x d x' d' fx (fx+n*e)=true↔spans (s*(e*(x-fx*d))) (s*(e*(x'-fx*d'))) (n*s*d-s*(e*(x-fx*d))) (n*s*d'-s*(e*(x'-fx*d'))):=by
 have m1:=Zn (a:=x) (b:=d') (A:=500000000) (B:=100000) (by omega) (by omega)
 have m2:=Zn (a:=x') (b:=d) (A:=500000000) (B:=100000) (by omega) (by omega)
 have c1:=Zj hf hd.1
 have c2:=Zj ht hd.1
 have m3:=Zn (a:=fx*d) (b:=d') (A:=500000000) (B:=100000) (by omega) (by omega)
 have m4:=Zn (a:=(fx+n*e)*d) (b:=d') (A:=500000000) (B:=100000) (by omega) (by omega)
 unfold ovl
 rw [Zay,Zay,Zaz,Zaz,Zb9 hd.1,Zca hd.1]
 rw [W_eq (n:=x*d') (by omega) (by omega),W_eq (n:=x'*d) (by omega) (by omega),W_eq (n:=min (fx*d) ((fx+n*e)*d)) (by omega) (by omega),W_eq (n:=max (fx*d) ((fx+n*e)*d)) (by omega) (by omega)]
 rw [Zb9 hd'.1,Zca hd'.1,W_eq (n:=min (fx*d*d') ((fx+n*e)*d*d')) (by omega) (by omega),W_eq (n:=max (fx*d*d') ((fx+n*e)*d*d')) (by omega) (by omega)]
 rw [Qc,decide_eq_true_eq,decide_eq_true_eq]
 have eT:(fx+n*e)*d*d'=fx*d*d'+e*(n*d*d'):=by grind
 rw [eT]
 have hT:0<n*d*d':=Rq (Rq hn.1 hd.1) hd'.1
 have hsn:0<s*n:=Rq hs hn.1
 have g1:0<s*(e*(x-fx*d))+(n*s*d-s*(e*(x-fx*d))):=by
  have:s*(e*(x-fx*d))+(n*s*d-s*(e*(x-fx*d)))=s*n*d:=by grind
  rw [this]; exact Rq hsn hd.1
 have g2:0<s*(e*(x'-fx*d'))+(n*s*d'-s*(e*(x'-fx*d'))):=by
  have:s*(e*(x'-fx*d'))+(n*s*d'-s*(e*(x'-fx*d')))=s*n*d':=by grind
  rw [this]; exact Rq hsn hd'.1
 have key:s*(e*(x-fx*d))*(n*s*d'-s*(e*(x'-fx*d')))-s*(e*(x'-fx*d'))*(n*s*d-s*(e*(x-fx*d)))=s*(s*n)*(e*(x*d'-x'*d)):=by grind
 have hss:0<s*(s*n):=Rq hs hsn
 have p1:∀ v:Int,0<v↔0<v*d':=fun v=>by rw [Rr]; exact (Zbx hd'.1).symm
 have p2:∀ v:Int,0<v↔0<v*d:=fun v=>by rw [Rr]; exact (Zbx hd.1).symm
 have q1:n*s*d-s*(e*(x-fx*d))=s*(n*d-e*(x-fx*d)):=by grind
 have q2:n*s*d'-s*(e*(x'-fx*d'))=s*(n*d'-e*(x'-fx*d')):=by grind
 have r1:(e*(x-fx*d))*d'=e*(x*d'-fx*d*d'):=by grind
 have r2:(e*(x'-fx*d'))*d=e*(x'*d-fx*d*d'):=by grind
 have r3:(n*d-e*(x-fx*d))*d'=n*d*d'-e*(x*d'-fx*d*d'):=by grind
 have r4:(n*d'-e*(x'-fx*d'))*d=n*d*d'-e*(x'*d-fx*d*d'):=by grind
 by_cases hc:0<e*(x*d'-x'*d)
 ·have:=(Zbx hss).2 hc
  rw [Zm3 g1 g2 (by omega),Zbx hs,q2,Zbx hs,p1,p2 (n*d'-_),r1,r4]
  clear key g1 g2 q1 q2 r1 r2 r3 r4 eT
  generalize x*d'=U at *
  generalize x'*d=V at *
  generalize fx*d*d'=B at *
  generalize n*d*d'=T at *
  rcases he with rfl|rfl<;>omega
 ·have hc2:e*(x*d'-x'*d)<0:=by rcases he with rfl|rfl<;>omega
  have:=(Zdc hss).2 hc2
  rw [Zsg g1 g2 (by omega),Zbx hs,q1,Zbx hs,p2,p1 (n*d-_),r2,r3]
  clear key g1 g2 q1 q2 r1 r2 r3 r4 eT
  generalize x*d'=U at *
  generalize x'*d=V at *
  generalize fx*d*d'=B at *
  generalize n*d*d'=T at *
  rcases he with rfl|rfl<;>omega
theorem Zgk {w:Wl} {n sx sy:Int} (h:Str w n sx sy) {p q:Pt} (hp:PtR p) (hq:PtR q):touP p q w=true↔Zar w n sx sy p.pl q.pl:=by
 obtain ⟨e1,e2⟩:=Yb3 hp hq
 have s1:w.side p.x p.y p.d=sgn (bsP w sx sy p.pl):=Vc h hp.ok
 have s2:w.side q.x q.y q.d=sgn (bsP w sx sy q.pl):=Vc h hq.ok
 have t1:=Zlt hp hq h.b1 h.b2
 have t2:=Zlt hp hq h.b3 h.b4
 have dp:=hp.d0
 have dq:=hq.d0
 have hn:=h.hn
 have hxy:=h.hxy
 obtain ⟨f1,f2⟩:=Zxq h
 have D1:bsP w sx sy q.pl*p.d-bsP w sx sy p.pl*q.d=sx*(q.y*p.d-p.y*q.d)-sy*(q.x*p.d-p.x*q.d):=by unfold bsP bes Pt.pl; dsimp only; grind
 have D2:alP w sx sy q.pl*p.d-alP w sx sy p.pl*q.d=sx*(q.x*p.d-p.x*q.d)+sy*(q.y*p.d-p.y*q.d):=by unfold alP alo Pt.pl; dsimp only; grind
 unfold touP
 rw [e1,e2]
 by_cases h0:q.x*p.d-p.x*q.d=0/\q.y*p.d-p.y*q.d=0
 ·rw [if_pos h0,Za5 h hp.ok]
  rw [h0.1,h0.2] at D1 D2
  unfold onW Zar
  show bsP w sx sy p.pl=0/\0<=alP w sx sy p.pl/\alP w sx sy p.pl<=ful n sx sy*p.d↔_
  show _↔∃ l m:Int,0<l/\0<m/\_/\_/\_<=ful n sx sy*(l*p.d+m*q.d)
  generalize bsP w sx sy p.pl=f at *
  generalize bsP w sx sy q.pl=g at *
  generalize alP w sx sy p.pl=a at *
  generalize alP w sx sy q.pl=b at *
  generalize ful n sx sy=F at *
  have D1:g*p.d=f*q.d:=by omega
  have D2:b*p.d=a*q.d:=by omega
  constructor
  ·rintro ⟨h1,h2,h3⟩
   refine ⟨1,1,by omega,by omega,?_,?_,?_⟩
   ·rw [h1] at D1
    have:g*p.d=0:=by omega
    rcases Mp.1 this with k|k<;>omega
   ·have:0<=p.d*b:=by rw [Rr,D2]; exact Rj h2 (by omega)
    have:=(nn_l dp).1 this
    omega
   ·have:p.d*(F*q.d-b)=q.d*(F*p.d-a):=by grind
    have k:=Rj (show 0<=q.d by omega) (show 0<=F*p.d-a by omega)
    rw [<-this] at k
    have k:=(nn_l dp).1 k
    have:F*(1*p.d+1*q.d)=F*p.d+F*q.d:=by grind
    omega
  ·rintro ⟨l,m,hl,hm,k1,k2,k3⟩
   have hz:0<l*p.d+m*q.d:=by have:=Rq hl dp; have:=Rq hm dq; omega
   refine ⟨?_,?_,?_⟩
   ·have:(l*p.d+m*q.d)*f=p.d*(l*f+m*g):=by grind
    rw [k1,Int.mul_zero] at this
    rcases Mp.1 this with k|k<;>omega
   ·have:(l*p.d+m*q.d)*a=p.d*(l*a+m*b):=by grind
    have k:=Rj (show 0<=p.d by omega) k2
    rw [<-this] at k
    exact (nn_l hz).1 k
   ·have:(l*p.d+m*q.d)*(F*p.d-a)=p.d*(F*(l*p.d+m*q.d)-(l*a+m*b)):=by grind
    have k:=Rj (show 0<=p.d by omega) (show 0<=F*(l*p.d+m*q.d)-(l*a+m*b) by omega)
    rw [<-this] at k
    have:=(nn_l hz).1 k
    omega
 ·rw [if_neg h0,s1,s2]
  by_cases h1:bsP w sx sy p.pl=0/\bsP w sx sy q.pl=0
  ·rw [if_pos (by rw [Ue,Ue]; exact h1),Zl9 h h1.1 h1.2]
   rw [h1.1,h1.2] at D1
   have hnn:=h.nle
   show _↔spans _ _ (ful n sx sy*p.d-_) (ful n sx sy*q.d-_)
   obtain ⟨z1,z2⟩:=h1
   have b1:=h.b1
   have b2:=h.b2
   have b3:=h.b3
   have b4:=h.b4
   have etx:=h.tx
   have ety:=h.ty
   rw [etx] at b3
   rw [ety] at b4
   by_cases hs:sx=0
   ·subst hs
    rw [if_pos (by rw [etx]; omega)]
    have hy:sy=1\/sy = -1:=by have:=h.hy; omega
    have k:=Zwq (s:=1) (e:=sy) (x:=p.y) (d:=p.d) (x':=q.y) (d':=q.d) hy ⟨hn,hnn⟩ (by omega) ⟨dp,hp.d1⟩ ⟨dq,hq.d1⟩ hp.y hq.y b2 b4 (by
     rcases hy with rfl|rfl<;>omega)
    rw [<-ety] at k
    rw [k]
    have v1:alP w 0 sy p.pl=1*(sy*(p.y-w.fy*p.d)):=by unfold alP alo Pt.pl; dsimp only; grind
    have v2:alP w 0 sy q.pl=1*(sy*(q.y-w.fy*q.d)):=by unfold alP alo Pt.pl; dsimp only; grind
    have v3:ful n 0 sy=n*1:=by unfold ful; rcases hy with rfl|rfl<;>rfl
    rw [v1,v2,v3]
   ·have hx:sx=1\/sx = -1:=by have:=h.hx; omega
    rw [if_neg (by rw [etx]; rcases hx with rfl|rfl<;>omega)]
    have hsx:sx*sx=1:=by rcases hx with rfl|rfl<;>rfl
    have hS:0<1+sy*sy:=by rcases h.hy with rfl|rfl|rfl<;>decide
    have k:=Zwq (s:=1+sy*sy) (e:=sx) (x:=p.x) (d:=p.d) (x':=q.x) (d':=q.d) hx ⟨hn,hnn⟩ hS ⟨dp,hp.d1⟩ ⟨dq,hq.d1⟩ hp.x hq.x b1 b3 (by
     intro hz
     refine h0 ⟨hz,?_⟩
     rw [hz] at D1
     rcases hx with rfl|rfl<;>omega)
    rw [<-etx] at k
    rw [k]
    have w1:sx*(p.y-w.fy*p.d)=sy*(p.x-w.fx*p.d):=by unfold bsP bes Pt.pl at z1; dsimp only at z1; omega
    have w2:sx*(q.y-w.fy*q.d)=sy*(q.x-w.fx*q.d):=by unfold bsP bes Pt.pl at z2; dsimp only at z2; omega
    have v1:alP w sx sy p.pl=(1+sy*sy)*(sx*(p.x-w.fx*p.d)):=by
     unfold alP alo Pt.pl; dsimp only
     generalize p.x-w.fx*p.d=u at *
     generalize p.y-w.fy*p.d=v at *
     have:v=sx*(sy*u):=by rw [<-w1,<-Kc,hsx,Pg]
     rw [this]; grind
    have v2:alP w sx sy q.pl=(1+sy*sy)*(sx*(q.x-w.fx*q.d)):=by
     unfold alP alo Pt.pl; dsimp only
     generalize q.x-w.fx*q.d=u at *
     generalize q.y-w.fy*q.d=v at *
     have:v=sx*(sy*u):=by rw [<-w2,<-Kc,hsx,Pg]
     rw [this]; grind
    have v3:ful n sx sy=n*(1+sy*sy):=by unfold ful; rw [hsx]
    rw [v1,v2,v3]
  ·rw [if_neg (by rw [Ue,Ue]; exact h1),Zew]
   by_cases h2:0<=sgn (bsP w sx sy p.pl)*sgn (bsP w sx sy q.pl)
   ·rw [if_pos h2]
    exact ⟨fun h=>by simp at h,fun h=>absurd h (Zl8 h1 h2)⟩
   ·rw [if_neg h2,t1,t2,Zew,decide_eq_true_eq]
    have h3:=sgn_mul_neg.1 (show sgn (bsP w sx sy p.pl)*sgn (bsP w sx sy q.pl)<0 by omega)
    have K1:(q.x*p.d-p.x*q.d)*(w.fy*p.d-p.y)-(q.y*p.d-p.y*q.d)*(w.fx*p.d-p.x)=p.d*((p.x-w.fx*p.d)*(q.y-w.fy*q.d)-(q.x-w.fx*q.d)*(p.y-w.fy*p.d)):=by grind
    have K2:(q.x*p.d-p.x*q.d)*(w.ty*p.d-p.y)-(q.y*p.d-p.y*q.d)*(w.tx*p.d-p.x)=p.d*((p.x-w.fx*p.d)*(q.y-w.fy*q.d)-(q.x-w.fx*q.d)*(p.y-w.fy*p.d)-n*(bsP w sx sy q.pl*p.d-bsP w sx sy p.pl*q.d)):=by
     rw [h.tx,h.ty]; unfold bsP bes Pt.pl; dsimp only; grind
    rw [K1,K2,Zqv dp,Zqv dp,Zug]
    have K3:bsP w sx sy q.pl*alP w sx sy p.pl-bsP w sx sy p.pl*alP w sx sy q.pl=(sx*sx+sy*sy)*((p.x-w.fx*p.d)*(q.y-w.fy*q.d)-(q.x-w.fx*q.d)*(p.y-w.fy*p.d)):=by
     unfold bsP bes alP alo Pt.pl; dsimp only; grind
    have hS:0<sx*sx+sy*sy:=by rcases h.hx with rfl|rfl|rfl<;>rcases h.hy with rfl|rfl|rfl<;>(try (exact absurd ⟨rfl,rfl⟩ hxy))<;>decide
    generalize (p.x-w.fx*p.d)*(q.y-w.fy*q.d)-(q.x-w.fx*q.d)*(p.y-w.fy*p.d)=K at *
    have e3:ful n sx sy=(sx*sx+sy*sy)*n:=by unfold ful; rw [Rr]
    generalize sx*sx+sy*sy=S at *
    generalize hf:bsP w sx sy p.pl=f at *
    generalize hg:bsP w sx sy q.pl=g at *
    rcases h3 with h3|h3
    ·have k1:=(Zbx dp).2 h3.2
     have k2:=(Zdc dq).2 h3.1
     have hD:0<n*(g*p.d-f*q.d):=(Zbx hn).2 (by rw [Rr g,Rr f]; omega)
     rw [Zdd hf hg h3,K3,e3]
     show _↔_/\_<=S*n*(g*p.d-f*q.d)
     rw [nn_l hS,Kc S n]
     have:S*K<=S*(n*(g*p.d-f*q.d))↔K<=n*(g*p.d-f*q.d):=by rw [Rr S,Rr S]; exact Zs2 hS
     rw [this]
     omega
    ·have k1:=(Zdc dp).2 h3.2
     have k2:=(Zbx dq).2 h3.1
     have hD:n*(g*p.d-f*q.d)<0:=(Zdc hn).2 (by rw [Rr g,Rr f]; omega)
     have K4:f*alP w sx sy q.pl-g*alP w sx sy p.pl=S * -K:=by rw [Sq,<-K3]; omega
     rw [Zl7,Zdd hg hf (by omega),K4,e3]
     show _↔_/\_<=S*n*(f*q.d-g*p.d)
     have e4:n*(f*q.d-g*p.d) = -(n*(g*p.d-f*q.d)):=by rw [<-Sq,Int.neg_sub]
     rw [nn_l hS,Kc S n,e4]
     have:S * -K<=S * -(n*(g*p.d-f*q.d)) ↔ -K <= -(n*(g*p.d-f*q.d)):=by rw [Rr S,Rr S]; exact Zs2 hS
     rw [this]
     omega
def crV (N M:P2d) (D x y:Int):Int:=(M.x-N.x)*(y*D-N.y)-(M.y-N.y)*(x*D-N.x)
def tch (N M:P2d) (D ax ay bx by' : Int):Prop:=∃ s t l m:Int,0<=s/\0<=t/\0<s+t/\0<=l/\0<=m/\0<l+m/\(l*N.x+m*M.x)*(s+t)=(l+m)*(D*(s*ax+t*bx))/\(l*N.y+m*M.y)*(s+t)=(l+m)*(D*(s*ay+t*by'))
theorem Zzv {N M:P2d} {D ax ay bx by' : Int} (h:tch N M D ax ay bx by'):tch N M D bx by' ax ay:=by
 obtain ⟨s,t,l,m,h1,h2,h3,h4,h5,h6,h7,h8⟩:=h
 exact ⟨t,s,l,m,h2,h1,by omega,h4,h5,h6,by rw [Wz t s,Wz (t*bx)]; exact h7,by rw [Wz t s,Wz (t*by')]; exact h8⟩
theorem Zzu {N M:P2d} {D ax ay bx by' : Int} (h:tch N M D ax ay bx by'):tch M N D ax ay bx by':=by
 obtain ⟨s,t,l,m,h1,h2,h3,h4,h5,h6,h7,h8⟩:=h
 exact ⟨s,t,m,l,h1,h2,h3,h5,h4,by omega,by rw [Wz m l,Wz (m*M.x)]; exact h7,by rw [Wz m l,Wz (m*M.y)]; exact h8⟩
theorem Yfy {N M:P2d} {D ax ay bx by' : Int} (hy:N.y<M.y) {s t:Int} (hs:0<=s) (ht:0<=t) (hw:0<s+t) (h1:N.y*(s+t)<=D*(s*ay+t*by')) (h2:D*(s*ay+t*by')<=M.y*(s+t)) (h0:s*crV N M D ax ay+t*crV N M D bx by'=0):tch N M D ax ay bx by':=by
 refine ⟨s,t,M.y*(s+t)-D*(s*ay+t*by'),D*(s*ay+t*by')-N.y*(s+t),hs,ht,hw,by omega,by omega,?_,?_,?_⟩
 ·have:(M.y-N.y)*(s+t)=M.y*(s+t)-N.y*(s+t):=My _ _ _
  have:=Rq (show 0<M.y-N.y by omega) hw
  omega
 ·unfold crV at h0
  grind
 ·grind
theorem Ydu {N M:P2d} {D ax ay bx by' : Int} (hy:N.y<M.y) {s t s' t' : Int} (hs:0<=s) (ht:0<=t) (hw:0<s+t) (hs' : 0<=s') (ht' : 0<=t') (hw' : 0<s'+t') (h1:N.y*(s+t)<=D*(s*ay+t*by')) (h2:D*(s*ay+t*by')<=M.y*(s+t))
  (h1' : N.y*(s'+t')<=D*(s'*ay+t'*by')) (h2' : D*(s'*ay+t'*by')<=M.y*(s'+t')) (c1:s*crV N M D ax ay+t*crV N M D bx by'<0) (c2:0<=s'*crV N M D ax ay+t'*crV N M D bx by'):tch N M D ax ay bx by':=by
 generalize hA:crV N M D ax ay=A at *
 generalize hB:crV N M D bx by'=B at *
 generalize hp:s*A+t*B=p at *
 generalize hq:s'*A+t'*B=q at *
 have k1:=Rj c2 hs
 have k2:=Rj c2 ht
 have k3:=Rj (show 0 <= -p by omega) hs'
 have k4:=Rj (show 0 <= -p by omega) ht'
 have k5:=Rq (show 0 < -p by omega) hw'
 have k6:=Rj c2 (Qw hw)
 have e0:q*s + -p*s'+(q*t + -p*t')=q*(s+t) + -p*(s'+t'):=by grind
 have eY:D*((q*s + -p*s')*ay+(q*t + -p*t')*by')=q*(D*(s*ay+t*by')) + -p*(D*(s'*ay+t'*by')):=by grind
 have i1:=Rp h1 c2
 have i2:=Rp h2 c2
 have i3:=Rp h1' (show 0 <= -p by omega)
 have i4:=Rp h2' (show 0 <= -p by omega)
 refine Yfy hy (s:=q*s + -p*s') (t:=q*t + -p*t') (by omega) (by omega) (by omega) ?_ ?_ ?_
 ·rw [e0,eY]
  have:N.y*(q*(s+t) + -p*(s'+t'))=q*(N.y*(s+t)) + -p*(N.y*(s'+t')):=by grind
  omega
 ·rw [e0,eY]
  have:M.y*(q*(s+t) + -p*(s'+t'))=q*(M.y*(s+t)) + -p*(M.y*(s'+t')):=by grind
  omega
 ·rw [hA,hB]
  have:(q*s + -p*s')*A+(q*t + -p*t')*B=q*(s*A+t*B) + -p*(s'*A+t'*B):=by grind
  rw [this,hp,hq]; grind
def detE (p:P2d) (D ax ay bx by' : Int):Int:=(bx-ax)*(p.y-ay*D)-(by'-ay)*(p.x-ax*D)
def upE (p:P2d) (D ax ay bx by' : Int):Prop:=ay*D<=p.y/\p.y<by'*D/\0<detE p D ax ay bx by'
def rgE (N M:P2d) (D x y:Int):Prop:=N.y<y*D/\y*D<=M.y/\crV N M D x y<0
theorem Zyc {N M:P2d} {D ax ay bx by' : Int} (hD:0<D) (hy:N.y<=M.y) (hab:ay<=by') (nt:¬ tch N M D ax ay bx by') :
  (upE N D ax ay bx by'↔upE M D ax ay bx by')↔(rgE N M D ax ay↔rgE N M D bx by'):=by
 have hm:ay*D<=by'*D:=Qk hab (Qw hD)
 by_cases hyy:N.y=M.y
 ·
  have r1:∀ x y,¬ rgE N M D x y:=by rintro x y ⟨a,b,_⟩; omega
  have key:upE N D ax ay bx by'↔upE M D ax ay bx by':=by
   by_cases hl:ay*D<=N.y/\N.y<by'*D
   ·have dd:detE N D ax ay bx by'-detE M D ax ay bx by'=(by'-ay)*(M.x-N.x):=by unfold detE; rw [hyy]; grind
    have hw:by'*D-ay*D=(by'-ay)*D:=by rw [My]
    have t1:∀ s,s=by'*D-N.y->∀ t,t=N.y-ay*D->D*(s*ax+t*bx)=N.x*((by'-ay)*D)+D*detE N D ax ay bx by':=by
     rintro s rfl t rfl; unfold detE; grind
    have t2:∀ s,s=by'*D-N.y->∀ t,t=N.y-ay*D->D*(s*ay+t*by')=N.y*((by'-ay)*D):=by
     rintro s rfl t rfl; grind
    unfold upE
    rw [<-hyy]
    constructor
    ·rintro ⟨h1,h2,h3⟩
     refine ⟨h1,h2,?_⟩
     by_cases h4:0<detE M D ax ay bx by'
     ·exact h4
     exfalso
     refine nt ⟨by'*D-N.y,N.y-ay*D,-detE M D ax ay bx by',detE N D ax ay bx by',by omega,by omega,by omega,by omega,by omega,by omega,?_,?_⟩
     ·rw [t1 _ rfl _ rfl,show by'*D-N.y+(N.y-ay*D)=(by'-ay)*D by omega]
      generalize detE N D ax ay bx by'=u at *
      generalize detE M D ax ay bx by'=v at *
      grind
     ·rw [t2 _ rfl _ rfl,show by'*D-N.y+(N.y-ay*D)=(by'-ay)*D by omega,<-hyy]
      generalize detE N D ax ay bx by'=u at *
      generalize detE M D ax ay bx by'=v at *
      grind
    ·rintro ⟨h1,h2,h3⟩
     refine ⟨h1,h2,?_⟩
     by_cases h4:0<detE N D ax ay bx by'
     ·exact h4
     exfalso
     refine nt ⟨by'*D-N.y,N.y-ay*D,detE M D ax ay bx by',-detE N D ax ay bx by',by omega,by omega,by omega,by omega,by omega,by omega,?_,?_⟩
     ·rw [t1 _ rfl _ rfl,show by'*D-N.y+(N.y-ay*D)=(by'-ay)*D by omega]
      generalize detE N D ax ay bx by'=u at *
      generalize detE M D ax ay bx by'=v at *
      grind
     ·rw [t2 _ rfl _ rfl,show by'*D-N.y+(N.y-ay*D)=(by'-ay)*D by omega,<-hyy]
      generalize detE N D ax ay bx by'=u at *
      generalize detE M D ax ay bx by'=v at *
      grind
   ·unfold upE
    rw [<-hyy]
    constructor<;>(rintro ⟨h1,h2,h3⟩; exact absurd ⟨h1,h2⟩ hl)
  exact ⟨fun _=>⟨fun h=>absurd h (r1 _ _),fun h=>absurd h (r1 _ _)⟩,fun _=>key⟩
 have hy:N.y<M.y:=by omega
 have lvl:∀ p:P2d,ay*D<=p.y->p.y<by'*D->0<=by'*D-p.y/\0<=p.y-ay*D/\0<(by'*D-p.y)+(p.y-ay*D)/\D*((by'*D-p.y)*ay+(p.y-ay*D)*by')=p.y*((by'*D-p.y)+(p.y-ay*D)):=by
  intro p h1 h2
  refine ⟨by omega,by omega,by omega,by grind⟩
 have crN:(by'*D-N.y)*crV N M D ax ay+(N.y-ay*D)*crV N M D bx by' = -((M.y-N.y)*D*detE N D ax ay bx by'):=by unfold crV detE; grind
 have crM:(by'*D-M.y)*crV N M D ax ay+(M.y-ay*D)*crV N M D bx by' = -((M.y-N.y)*D*detE M D ax ay bx by'):=by unfold crV detE; grind
 have hp:0<(M.y-N.y)*D:=Rq (by omega) hD
 have sN:∀ v,-((M.y-N.y)*D*v)<0↔0<v:=fun v=>by have:=Zbx (a:=v) hp; omega
 have sN2:∀ v,0 <= -((M.y-N.y)*D*v)↔v<=0:=fun v=>by have:=np_l (a:=v) hp; omega
 have one:D*(1*ay+0*by')=ay*D/\D*(0*ay+1*by')=by'*D:=by constructor<;>grind
 have cA:1*crV N M D ax ay+0*crV N M D bx by'=crV N M D ax ay:=by omega
 have cB:0*crV N M D ax ay+1*crV N M D bx by'=crV N M D bx by':=by omega
 have two:=fun {s t s' t' : Int}=>@Ydu N M D ax ay bx by' hy s t s' t'
 by_cases a0:ay*D<=N.y
 ·by_cases b0:by'*D<=N.y
  ·unfold upE rgE; constructor<;>intro _<;>constructor<;>(rintro ⟨h1,h2,h3⟩; omega)
  obtain ⟨l1,l2,l3,l4⟩:=lvl N a0 (by omega)
  by_cases b1:by'*D<=M.y
  ·
   have key:0<detE N D ax ay bx by'↔crV N M D bx by'<0:=by
    constructor
    ·intro h
     by_cases hc:crV N M D bx by'<0
     ·exact hc
     exact absurd (two (s':=0) (t':=1) l1 l2 l3 (by omega) (by omega) (by omega) (by rw [l4]; omega) (by rw [l4]; exact Qk (Qw hy) (Qw l3)) (by rw [one.2]; omega) (by rw [one.2]; omega) (by rw [crN]; exact (sN _).2 h) (by rw [cB]; omega)) nt
    ·intro h
     by_cases hc:0<detE N D ax ay bx by'
     ·exact hc
     exact absurd (two (s:=0) (t:=1) (by omega) (by omega) (by omega) l1 l2 l3 (by rw [one.2]; omega) (by rw [one.2]; omega) (by rw [l4]; omega) (by rw [l4]; exact Qk (Qw hy) (Qw l3)) (by rw [cB]; exact h) (by rw [crN]; exact (sN2 _).2 (by omega))) nt
   unfold upE rgE
   rw [<-key]
   generalize detE N D ax ay bx by'=u at *
   constructor
   ·intro h
    constructor
    ·rintro ⟨h1,_,_⟩; omega
    ·rintro ⟨_,_,h3⟩
     have:=h.1 ⟨a0,by omega,h3⟩
     omega
   ·intro h
    constructor
    ·rintro ⟨_,_,h3⟩
     have:=h.2 ⟨by omega,b1,h3⟩
     omega
    ·rintro ⟨_,h2,_⟩; omega
  ·
   obtain ⟨m1,m2,m3,m4⟩:=lvl M (by omega) (by omega)
   have key:0<detE N D ax ay bx by'↔0<detE M D ax ay bx by':=by
    constructor
    ·intro h
     by_cases hc:0<detE M D ax ay bx by'
     ·exact hc
     exact absurd (two l1 l2 l3 m1 m2 m3 (by rw [l4]; omega) (by rw [l4]; exact Qk (Qw hy) (Qw l3)) (by rw [m4]; exact Qk (Qw hy) (Qw m3)) (by rw [m4]; omega) (by rw [crN]; exact (sN _).2 h) (by rw [crM]; exact (sN2 _).2 (by omega))) nt
    ·intro h
     by_cases hc:0<detE N D ax ay bx by'
     ·exact hc
     exact absurd (two m1 m2 m3 l1 l2 l3 (by rw [m4]; exact Qk (Qw hy) (Qw m3)) (by rw [m4]; omega) (by rw [l4]; omega) (by rw [l4]; exact Qk (Qw hy) (Qw l3)) (by rw [crM]; exact (sN _).2 h) (by rw [crN]; exact (sN2 _).2 (by omega))) nt
   unfold upE rgE
   rw [key]
   constructor
   ·intro _; constructor<;>(rintro ⟨h1,h2,h3⟩; omega)
   ·intro _
    constructor
    ·rintro ⟨_,_,h3⟩; exact ⟨by omega,by omega,h3⟩
    ·rintro ⟨_,_,h3⟩; exact ⟨by omega,by omega,h3⟩
 by_cases a1:ay*D<=M.y
 ·by_cases b1:by'*D<=M.y
  ·
   have key:crV N M D ax ay<0↔crV N M D bx by'<0:=by
    constructor
    ·intro h
     by_cases hc:crV N M D bx by'<0
     ·exact hc
     exact absurd (two (s:=1) (t:=0) (s':=0) (t':=1) (by omega) (by omega) (by omega) (by omega) (by omega) (by omega) (by rw [one.1]; omega) (by rw [one.1]; omega) (by rw [one.2]; omega) (by rw [one.2]; omega) (by rw [cA]; exact h) (by rw [cB]; omega)) nt
    ·intro h
     by_cases hc:crV N M D ax ay<0
     ·exact hc
     exact absurd (two (s:=0) (t:=1) (s':=1) (t':=0) (by omega) (by omega) (by omega) (by omega) (by omega) (by omega) (by rw [one.2]; omega) (by rw [one.2]; omega) (by rw [one.1]; omega) (by rw [one.1]; omega) (by rw [cB]; exact h) (by rw [cA]; omega)) nt
   unfold upE rgE
   rw [key]
   constructor
   ·intro _
    constructor
    ·rintro ⟨_,_,h3⟩; exact ⟨by omega,by omega,h3⟩
    ·rintro ⟨_,_,h3⟩; exact ⟨by omega,by omega,h3⟩
   ·intro _; constructor<;>(rintro ⟨h1,h2,h3⟩; omega)
  ·
   obtain ⟨m1,m2,m3,m4⟩:=lvl M a1 (by omega)
   have key:0<detE M D ax ay bx by'↔crV N M D ax ay<0:=by
    constructor
    ·intro h
     by_cases hc:crV N M D ax ay<0
     ·exact hc
     exact absurd (two (s':=1) (t':=0) m1 m2 m3 (by omega) (by omega) (by omega) (by rw [m4]; exact Qk (Qw hy) (Qw m3)) (by rw [m4]; omega) (by rw [one.1]; omega) (by rw [one.1]; omega) (by rw [crM]; exact (sN _).2 h) (by rw [cA]; omega)) nt
    ·intro h
     by_cases hc:0<detE M D ax ay bx by'
     ·exact hc
     exact absurd (two (s:=1) (t:=0) (by omega) (by omega) (by omega) m1 m2 m3 (by rw [one.1]; omega) (by rw [one.1]; omega) (by rw [m4]; exact Qk (Qw hy) (Qw m3)) (by rw [m4]; omega) (by rw [cA]; exact h) (by rw [crM]; exact (sN2 _).2 (by omega))) nt
   unfold upE rgE
   rw [<-key]
   generalize detE M D ax ay bx by'=u at *
   constructor
   ·intro h
    constructor
    ·rintro ⟨_,_,h3⟩
     have:=h.2 ⟨a1,by omega,h3⟩
     omega
    ·rintro ⟨_,h2,_⟩; omega
   ·intro h
    constructor
    ·rintro ⟨h1,_,_⟩; omega
    ·rintro ⟨_,_,h3⟩
     have:=h.1 ⟨by omega,a1,h3⟩
     omega
 ·unfold upE rgE; constructor<;>intro _<;>constructor<;>(rintro ⟨h1,h2,h3⟩; omega)
instance (p:P2d) (D ax ay bx by' : Int):Decidable (upE p D ax ay bx by'):=by unfold upE; exact inferInstance
instance (N M:P2d) (D x y:Int):Decidable (rgE N M D x y):=by unfold rgE; exact inferInstance
def flZ (p:P2d) (w:Wl):Bool:=if w.fy<=w.ty then decide (upE p p.d w.fx w.fy w.tx w.ty) else decide (upE p p.d w.tx w.ty w.fx w.fy)
theorem Yfj {w:Wl} {n sx sy:Int} (h:Str w n sx sy) (p:P2d):detE p p.d w.fx w.fy w.tx w.ty=n*bsP w sx sy p/\detE p p.d w.tx w.ty w.fx w.fy = -(n*bsP w sx sy p):=by
 unfold detE bsP bes
 rw [h.tx,h.ty]
 constructor<;>grind
theorem Ye7 {w:Wl} {n sx sy x y d:Int} (h:Str w n sx sy) (hp:PtOk x y d):flips x y d w=flZ ⟨x,y,d⟩ w:=by
 have a2:=Zj h.b2 hp.hd
 have a4:=Zj h.b4 hp.hd
 have hD:=hp.hD
 have hd:=hp.hd
 obtain ⟨e1,e2⟩:=Yfj h ⟨x,y,d⟩
 have hn:=h.hn
 unfold flips flZ
 rw [Vc h hp,W_eq (n:=w.fy*d) (by omega) (by omega),W_eq (n:=w.ty*d) (by omega) (by omega)]
 change detE ⟨x,y,d⟩ d w.fx w.fy w.tx w.ty=_ at e1
 change detE ⟨x,y,d⟩ d w.tx w.ty w.fx w.fy=_ at e2
 have p1:=Zbx (a:=bsP w sx sy ⟨x,y,d⟩) hn
 have p2:=Zdc (a:=bsP w sx sy ⟨x,y,d⟩) hn
 have es:bes w sx sy x y d=bsP w sx sy ⟨x,y,d⟩:=rfl
 rw [es]
 have u1:upE ⟨x,y,d⟩ d w.fx w.fy w.tx w.ty↔w.fy*d<=y/\y<w.ty*d/\0<n*bsP w sx sy ⟨x,y,d⟩:=by rw [<-e1]; exact Iff.rfl
 have u2:upE ⟨x,y,d⟩ d w.tx w.ty w.fx w.fy↔w.ty*d<=y/\y<w.fy*d/\0 < -(n*bsP w sx sy ⟨x,y,d⟩):=by rw [<-e2]; exact Iff.rfl
 show _=if w.fy<=w.ty then decide (upE ⟨x,y,d⟩ d w.fx w.fy w.tx w.ty) else decide (upE ⟨x,y,d⟩ d w.tx w.ty w.fx w.fy)
 by_cases hc:w.fy<=w.ty
 ·have hm:w.fy*d<=w.ty*d:=Qk hc (Qw hd)
  rw [if_pos hc,Se]
  simp only [Rd,Qc,decide_eq_true_eq,Xs,Xt,u1]
  generalize bsP w sx sy ⟨x,y,d⟩=B at *
  omega
 ·have hm:w.ty*d<=w.fy*d:=Qk (by omega) (Qw hd)
  rw [if_neg hc,Se]
  simp only [Rd,Qc,decide_eq_true_eq,Xs,Xt,u2]
  generalize bsP w sx sy ⟨x,y,d⟩=B at *
  omega
theorem Zye {N M:P2d} {D:Int} (hN:N.d=D) (hM:M.d=D) (hD:0<D) (hy:N.y<=M.y) {w:Wl} (nt:¬ tch N M D w.fx w.fy w.tx w.ty):(flZ N w ^^ flZ M w)=(decide (rgE N M D w.fx w.fy) ^^ decide (rgE N M D w.tx w.ty)):=by
 unfold flZ
 rw [hN,hM]
 by_cases hc:w.fy<=w.ty
 ·rw [if_pos hc,if_pos hc]
  exact Zqj (Zyc hD hy hc nt)
 ·rw [if_neg hc,if_neg hc,Bool.xor_comm (decide (rgE N M D w.fx w.fy))]
  exact Zqj (Zyc hD hy (by omega) fun h=>nt (Zzv h))
theorem Zzl {N M:P2d} {D:Int} (hN:N.d=D) (hM:M.d=D) (hD:0<D) {cs:List (Int × Int)} (nt:∀ w∈wls cs,¬ tch N M D w.fx w.fy w.tx w.ty):xorL ((wls cs).map (flZ N))=xorL ((wls cs).map (flZ M)):=by
 have key:∀ N M:P2d,N.d=D->M.d=D->N.y<=M.y->(∀ w∈wls cs,¬ tch N M D w.fx w.fy w.tx w.ty)->(xorL ((wls cs).map (flZ N)) ^^ xorL ((wls cs).map (flZ M)))=false:=by
  intro N M h1 h2 hy h3
  rw [Zja,<-tele (fun x y=>decide (rgE N M D x y)) cs]
  congr 1
  refine Nc fun w hw=>?_
  exact Zye h1 h2 hD hy (h3 w hw)
 have fin:∀ a b:Bool,(a ^^ b)=false->a=b:=by decide
 rcases Hu N.y M.y with hy|hy
 ·exact fin _ _ (key N M hN hM hy nt)
 ·exact (fin _ _ (key M N hM hN hy fun w hw h=>nt w hw (Zzu h))).symm
theorem Zo7 {x y d:Int}:∀ (ws:List Wl) (b:Bool),inPl x y d b ws=true->(b ^^ xorL (ws.map (flips x y d)))=true
 | [],b,h=>by simpa [xorL,inPl] using h
 | w::ws,b,h=>by
  rw [inPl] at h
  split at h
  ·cases h
  ·have:=Zo7 ws _ h
   rw [Te,show xorL (flips x y d w::ws.map (flips x y d))=(flips x y d w ^^ xorL (ws.map (flips x y d))) from rfl,<-Bool.xor_assoc]
   exact this
theorem Zlq {α:Type} (f:α->Bool):∀ (l:List α),(∀ a∈l,f a=false)->xorL (l.map f)=false
 | [],_=>rfl
 | a::l,h=>by
  rw [Te,show xorL (f a::l.map f)=(f a ^^ xorL (l.map f)) from rfl,h a (by simp),Zlq f l fun b hb=>h b (by simp [hb])]
  rfl
theorem Yfa {w:Wl} {p:P2d} (hd:0<p.d) (h1 : -5000<=w.fy/\w.fy<=5000) (h2 : -5000<=w.ty/\w.ty<=5000) (hy:p.y < -(5000*p.d)\/5000*p.d<p.y):flZ p w=false:=by
 have a1:=Qk h1.1 (Qw hd)
 have a2:=Qk h1.2 (Qw hd)
 have a3:=Qk h2.1 (Qw hd)
 have a4:=Qk h2.2 (Qw hd)
 unfold flZ
 split
 ·rw [decide_eq_false]
  rintro ⟨b1,b2,_⟩
  omega
 ·rw [decide_eq_false]
  rintro ⟨b1,b2,_⟩
  omega
theorem Ydv {N M:P2d} {D ax ay bx by' : Int} (hD:0<D) (hM:M.x=N.x) (h1 : -5000<=ax/\ax<=5000) (h2 : -5000<=bx/\bx<=5000) (hx:N.x < -(5000*D)\/5000*D<N.x):¬ tch N M D ax ay bx by':=by
 rintro ⟨s,t,l,m,hs,ht,hst,hl,hm,hlm,e,_⟩
 rw [hM,<-Int.add_mul,Kc] at e
 have e:=Int.eq_of_mul_eq_mul_left (by omega) e
 have a1:=Rp h1.1 hs
 have a2:=Rp h1.2 hs
 have a3:=Rp h2.1 ht
 have a4:=Rp h2.2 ht
 have b1:=Rp (show s*ax+t*bx<=5000*(s+t) by omega) (Qw hD)
 have b2:=Rp (show -5000*(s+t)<=s*ax+t*bx by omega) (Qw hD)
 rw [<-e] at b1 b2
 have c1:D*(5000*(s+t))=5000*D*(s+t):=by grind
 have c2:D*(-5000*(s+t)) = -(5000*D)*(s+t):=by grind
 rw [c1] at b1
 rw [c2] at b2
 rcases hx with hx|hx
 ·have:=Wk hx hst
  omega
 ·have:=Wk hx hst
  omega
theorem Zme {h:Hal} (hs:Za4 h.cs) {x y d:Int} (hp:PtOk x y d) (hi:Yl h x y d=true):(-(5000*d)<=x/\x<=5000*d)/\(-(5000*d)<=y/\y<=5000*d):=by
 have hd:=hp.hd
 have h0:xorL ((wls h.cs).map (flZ ⟨x,y,d⟩))=true:=by
  have:=Zo7 _ _ hi
  rw [Bool.false_xor] at this
  rw [<-this]
  congr 1
  refine Nc fun w hw=>?_
  obtain ⟨n,sx,sy,g⟩:=Zbb hs w hw
  exact (Ye7 g hp).symm
 have far:∀ p:P2d,0<p.d->(p.y < -(5000*p.d)\/5000*p.d<p.y)->xorL ((wls h.cs).map (flZ p))=false:=fun p hpd hy =>
  Zlq _ _ fun w hw=>by
   obtain ⟨n,sx,sy,g⟩:=Zbb hs w hw
   exact Yfa hpd g.b2 g.b4 hy
 have hy:¬ (y < -(5000*d)\/5000*d<y):=fun hy=>by
  rw [far ⟨x,y,d⟩ hd hy] at h0; cases h0
 have hx:¬ (x < -(5000*d)\/5000*d<x):=fun hx=>by
  rw [Zzl (N:=⟨x,y,d⟩) (M:=⟨x,5001*d,d⟩) (D:=d) rfl rfl hd (fun w hw=>by
   obtain ⟨n,sx,sy,g⟩:=Zbb hs w hw
   exact Ydv hd rfl g.b1 g.b3 hx),far ⟨x,5001*d,d⟩ hd (.inr (by dsimp only; omega))] at h0
  cases h0
 omega
def r35:List AV->Option PRes
 | [.agg [.int .i64 k,.int .i64 a],.agg [.int .i64 x,.int .i64 y,.int .i64 z,.int .i64 d]]=>asr (decide (0<=k/\k<5)) ⟨I (off k a x y z d),[]⟩
 | _=>none
def i64 (n:Int):Prop:=-9223372036854775808<=n/\n<=9223372036854775807
theorem Zv8 {a:Int} (h:i64 a):size a=Qa Qb (a.natAbs:Int):=by
 unfold size imax
 obtain ⟨h1,h2⟩:=h
 by_cases h3:a = -9223372036854775808
 ·subst h3; decide
 ·rw [W_eq (n:=0-a) (by omega) (by omega),W_eq (by omega) (by omega)]
  by_cases h4:a<0-a
  ·rw [decide_eq_true h4]; simp only [cond_true]; omega
  ·rw [decide_eq_false h4]; simp only [cond_false]; omega
theorem Zu2 (a:Int):i64 (Qa Qb a):=by unfold i64; simp only [IntKind.wrap_i64]; omega
theorem Zsw {g:Nat} (h:g<=9223372036854775808):(Qa Qb (g:Int)).natAbs=g:=by
 by_cases h3:g=9223372036854775808
 ·subst h3; decide
 ·rw [W_eq (by omega) (by omega)]; simp
theorem Zsd {a b:Int} (ha:i64 a) (hb:b≠0):i64 (a.tmod b):=by
 obtain ⟨h1,h2⟩:=ha
 have h3:(a.tmod b).natAbs<=a.natAbs:=by rw [Mo]; exact Nat.mod_le _ _
 have h4:0<=a->0<=a.tmod b:=fun h=>Qag b h
 have h5:a<=0->a.tmod b<=0:=fun h=>by have:=Qag b (a:=-a) (by omega); rw [Int.neg_tmod] at this; omega
 unfold i64
 omega
theorem Zte {a b:Int}:Tt b.natAbs (a.tmod b).natAbs=Tt a.natAbs b.natAbs:=by
 rw [Mo,Nat.gcd_comm,<-Nat.gcd_rec,Nat.gcd_comm]
theorem c120 {a b:Int} (ha:i64 a) (hb:i64 b):PCall Tryz.prog 94 [I a,I b] ⟨I (Qa Qb ((Tt a.natAbs b.natAbs:Nat):Int)),[]⟩:=by
 refine bs.pv (sx:=nos) Zo3 Tryz.func94 (by kernel_rfl) (by kernel_rfl) rfl ?_
 generalize hG:Tt a.natAbs b.natAbs=G
 refine Yb (S:=Int × Int) (fun t=>t.2.natAbs) (fun t=>[(0,I t.1),(1,I t.2)]) (fun _=>[]) 0 0 (fun t=>(i64 t.1/\i64 t.2)/\Tt t.1.natAbs t.2.natAbs=G) (a,b) ⟨⟨ha,hb⟩,hG⟩ (Qd _) [] rfl (kps) (kps) ?_
 clear hG ha hb
 rintro ⟨a,b⟩ ⟨⟨ha,hb⟩,hG⟩
 dsimp only at ha hb hG ⊢
 refine bs.av (sx:=nos) Zo3 ?_
 by_cases h0:b=0
 ·subst h0
  repeat'(first|refine wk1 ?_|(refine wk2 ?_ ?_<;>intro _)|refine wk4 ?_|fail);all_goals(conv=>whnf)
  exact Zb (by rw [Zv8 ha,<-hG]; simp)
 ·repeat'(first|refine wk1 ?_|(refine wk2 ?_ ?_<;>intro _)|refine wk4 ?_|fail);all_goals(conv=>whnf)
  exact Ql ⟨(b,a.tmod b),[],rfl,kps,kps,⟨⟨hb,Zsd ha h0⟩,by rw [<-hG]; exact Zte⟩,by
   show (a.tmod b).natAbs<b.natAbs
   rw [Mo]; exact Og _ (by omega)⟩
def g4 (p:Pt):Nat:=Tt (Tt p.x.natAbs p.y.natAbs) (Tt p.z.natAbs p.d.natAbs)
structure Pt.wf (p:Pt):Prop where
 x:i64 p.x
 y:i64 p.y
 z:i64 p.z
 d:i64 p.d
theorem Yc8 {a b:Int} (ha:i64 a) (hb:i64 b):Tt a.natAbs b.natAbs<=9223372036854775808:=by
 obtain ⟨a1,a2⟩:=ha
 obtain ⟨b1,b2⟩:=hb
 by_cases h:a.natAbs=0
 ·rw [h,Jn]; omega
 ·exact Nat.le_trans (Nat.gcd_le_left _ (by omega)) (by omega)
theorem Yhb {p:Pt} (hp:p.wf) (hd:0<p.d):0<g4 p/\(g4 p:Int)<=p.d:=by
 have h1:g4 p ∣ p.d.natAbs:=Nat.dvd_trans (Nn _ _) (Nn _ _)
 have h2:=Nat.le_of_dvd (by omega) h1
 have h3:0<g4 p:=Nat.pos_of_dvd_of_pos h1 (by omega)
 omega
def ptIn (p:Pt):Bool:=within p.x (-(5000*p.d)) (5000*p.d)&&within p.y (-(5000*p.d)) (5000*p.d)&&within p.z (-(5000*p.d)) (5000*p.d)
def Xm (p:Pt):Int:=if p.d<=0\/g4 p≠1 then 3 else if 100000<p.d then 2 else if ptIn p then 0 else 2
theorem Ze1 {p:Pt} (h:Xm p=0):0<p.d/\p.d<=100000/\g4 p=1/\ptIn p=true:=by
 unfold Xm at h
 split at h
 ·cases h
 ·rename_i h1
  split at h
  ·cases h
  ·split at h
   ·rename_i h3; exact ⟨by omega,by omega,by omega,h3⟩
   ·cases h
theorem Zmi (a b c d:Nat):Tt (Tt (Tt a b) c) d=Tt (Tt a b) (Tt c d):=by rw [Nat.gcd_assoc (Tt a b)]
def gl:Nat->List Int->Nat
 | g,[]=>g
 | g,n::l=>gl (Tt g n.natAbs) l
theorem c117 {ns:List Int} (hl:ns.length<1000) (hw:∀ n∈ns,i64 n):PCall Tryz.prog 170 [.isl 1 (nl ns)] ⟨I (Qa Qb ((gl 0 ns:Nat):Int)),[]⟩:=by
 have e3:=Zi ns
 refine bs.pv (sx:=nos) Zmd Tryz.func170 (by kernel_rfl) (by kernel_rfl) rfl ?_
 repeat'(first|refine wk1 ?_|(refine wk2 ?_ ?_<;>intro _)|refine wk4 ?_|fail);all_goals(conv=>whnf)
 refine Yb (S:=Nat × Int × Int) (fun t=>ns.length-t.1) (fun t=>[(3,I t.2.2),(6,.isl 1 (nl ns)),(7,I (nl ns).length),(8,I t.2.1)]) (fun _=>[]) 0 0 (fun t=>t.2.1=t.1/\t.1<=ns.length/\i64 t.2.2/\gl t.2.2.natAbs (ns.drop t.1)=gl 0 ns) (0,0,0) ⟨rfl,Qn _,(by unfold i64; decide),rfl⟩ (Qd _) [] rfl (kps) (kps) ?_
 rintro ⟨k,i,g⟩ ⟨hi,hk,hg,hh⟩
 dsimp only at hi hk hg hh ⊢
 subst hi
 refine bs.av (sx:=nos) Zmd ?_
 by_cases hlt:k<ns.length
 ·have e1:=Uh hlt
  have hn:=hw _ (Qt hlt)
  rw [Qi hlt,gl] at hh
  repeat'(first|refine wk1 ?_|(refine wk2 ?_ ?_<;>intro _)|refine wk4 ?_|fail);all_goals(conv=>whnf)
  refine Yb (S:=Int × Int) (fun t=>t.2.natAbs) (fun t=>[(3,I t.1),(5,I t.2),(6,.isl 1 (nl ns)),(7,I (nl ns).length),(8,I k)]) (fun _=>[]) 0 0 (fun t=>(i64 t.1/\i64 t.2)/\Tt t.1.natAbs t.2.natAbs=Tt g.natAbs ns[k].natAbs) (g,ns[k]) ⟨⟨hg,hn⟩,rfl⟩ (Qd _) [] rfl (kps) (kps) ?_
  rintro ⟨a,b⟩ ⟨⟨ha,hb⟩,hG⟩
  dsimp only at ha hb hG ⊢
  refine bs.av (sx:=nos) Zmd ?_
  by_cases h0:b=0
  ·subst h0
   repeat'(first|refine wk1 ?_|(refine wk2 ?_ ?_<;>intro _)|refine wk4 ?_|fail);all_goals(conv=>whnf)
   exact Ql ⟨(k+1,_,a),[],rfl,kps,kps,⟨Ze (by omega),hlt,ha,by rw [<-hh,<-hG]; simp⟩,by dsimp only; omega⟩
  ·repeat'(first|refine wk1 ?_|(refine wk2 ?_ ?_<;>intro _)|refine wk4 ?_|fail);all_goals(conv=>whnf)
   exact Ql ⟨(b,a.tmod b),[],rfl,kps,kps,⟨⟨hb,Zsd ha h0⟩,by rw [<-hG]; exact Zte⟩,by
    show (a.tmod b).natAbs<b.natAbs
    rw [Mo]; exact Og _ (by omega)⟩
 rw [Qj (by omega)] at hh
 repeat'(first|refine wk1 ?_|(refine wk2 ?_ ?_<;>intro _)|refine wk4 ?_|fail);all_goals(conv=>whnf)
 exact Zb (by show size g=_; rw [Zv8 hg,<-hh]; rfl)
theorem Yeg {d:Int} (h0:0<d) (h1:d<=100000):Qa Qb (5000*d)=5000*d/\Qa Qb (0-Qa Qb (5000*d)) = -(5000*d):=by
 have e:Qa Qb (5000*d)=5000*d:=W_eq (by omega) (by omega)
 refine ⟨e,?_⟩
 rw [e,W_eq (by omega) (by omega)]; omega
theorem c99 {p:Pt} (hp:p.wf):PCall Tryz.prog 164 [p.av] ⟨I (Xm p),[]⟩:=by
 have hc:=c117 (ns:=[p.x,p.y,p.z,p.d]) (by simp) (by
  intro n hn
  simp only [List.mem_cons,List.not_mem_nil,or_false] at hn
  rcases hn with rfl|rfl|rfl|rfl
  ·exact hp.x
  ·exact hp.y
  ·exact hp.z
  ·exact hp.d)
 have hg:gl 0 [p.x,p.y,p.z,p.d]=g4 p:=by
  simp only [gl,Jn]
  exact Zmi _ _ _ _
 rw [hg] at hc
 have hk:=Zf hc Zas
 by_cases h1:p.d<=0
 ·have e:Xm p=3:=by unfold Xm; rw [if_pos (.inl h1)]
  rw [e]
  refine bs.pv (sx:=nos) hk Tryz.func164 (by kernel_rfl) (by kernel_rfl) rfl ?_
  repeat'(first|refine wk1 ?_|(refine wk2 ?_ ?_<;>intro _)|refine wk4 ?_|fail);all_goals(conv=>whnf)
  exact Zb rfl
 ·obtain ⟨g1,g2⟩:=Yhb hp (by omega)
  have hd:=hp.d
  unfold i64 at hd
  have hw:Qa Qb ((g4 p:Nat):Int)=(g4 p:Nat):=W_eq (by omega) (by omega)
  rw [hw] at hk
  by_cases h2:g4 p=1
  ·rw [h2] at hk
   by_cases h3:100000<p.d
   ·have e:Xm p=2:=by unfold Xm; rw [if_neg (by omega),if_pos h3]
    rw [e]
    refine bs.pv (sx:=nos) hk Tryz.func164 (by kernel_rfl) (by kernel_rfl) rfl ?_
    repeat'(first|refine wk1 ?_|(refine wk2 ?_ ?_<;>intro _)|refine wk4 ?_|fail);all_goals(conv=>whnf)
    exact Zb rfl
   ·obtain ⟨m1,m2⟩:=Yeg (d:=p.d) (by omega) (by omega)
    have e:Xm p=if ptIn p then 0 else 2:=by unfold Xm; rw [if_neg (by omega),if_neg h3]
    have e2:∀ x,small x (Qa Qb (5000*p.d))=within x (-(5000*p.d)) (5000*p.d):=fun x=>by unfold small; rw [m2,m1]
    rw [e]
    unfold ptIn
    rw [<-e2,<-e2,<-e2]
    refine bs.pv (sx:=nos) hk Tryz.func164 (by kernel_rfl) (by kernel_rfl) rfl ?_
    repeat'(first|refine wk1 ?_|(refine wk2 ?_ ?_<;>intro _)|refine wk4 ?_|fail);all_goals(conv=>whnf)
    all_goals (clear hk hc m1 m2 e2)
    all_goals exact Zb (by simp_all [unl])
  ·have e:Xm p=3:=by unfold Xm; rw [if_pos (.inr h2)]
   rw [e]
   have h4:(1:Int)<(g4 p:Nat):=by omega
   refine bs.pv (sx:=nos) hk Tryz.func164 (by kernel_rfl) (by kernel_rfl) rfl ?_
   repeat'(first|refine wk1 ?_|(refine wk2 ?_ ?_<;>intro _)|refine wk4 ?_|fail);all_goals(conv=>whnf)
   all_goals clear hk hc
   all_goals first
    | exact Zb rfl
    | (exfalso; simp_all; done)
    | (exfalso; simp_all; omega)
noncomputable abbrev gcds:List AV->Option PRes:=famA (fun p:Int × Int=>i64 p.1/\i64 p.2) (fun p=>[I p.1,I p.2]) (fun p=>⟨I (Qa Qb ((Tt p.1.natAbs p.2.natAbs:Nat):Int)),[]⟩)
theorem Znl {a b:Int} (ha:i64 a) (hb:i64 b):gcds [I a,I b]=some ⟨I (Qa Qb ((Tt a.natAbs b.natAbs:Nat):Int)),[]⟩ :=
 Zo (p:=fun p:Int × Int=>i64 p.1/\i64 p.2) (g:=fun p=>[I p.1,I p.2]) (r:=fun p=>⟨I (Qa Qb ((Tt p.1.natAbs p.2.natAbs:Nat):Int)),[]⟩) (k:=(a,b)) (fun j hj=>by
  simp only [List.cons.injEq,AV.int.injEq,true_and,and_true] at hj
  obtain ⟨h1,h2⟩:=hj
  dsimp only
  rw [h1,h2]) ⟨ha,hb⟩
noncomputable def kGc:PC:=ins 94 gcds kR1
theorem Ygy:PCOK Tryz.prog kGc:=Ya (fun p hp=>c120 hp.1 hp.2) Zo3
def insE (h:Hal) (p:Pt):Int:=if h.err=0 then Xm p else h.err
theorem Yd8 {p:Pt} (h:Xm p=0):PtOk p.x p.y p.d:=by
 obtain ⟨h1,h2,_,h4⟩:=Ze1 h
 unfold ptIn at h4
 simp only [Qc,within_iff] at h4
 exact ⟨h1,by omega,by omega,by omega⟩
theorem c50 {h:Hal} (hk:h.ok) {p:Pt} (hp:p.wf):PCall Tryz.prog 135 [h.av,p.av] ⟨.tup [Bo (decide (insE h p=0)&&Za3 h p),I (insE h p)],[]⟩:=by
 have hk0:=Zf (c76 hk) (Zf (c99 hp) Zc)
 by_cases he:h.err=0
 ·have hi:insE h p=Xm p:=by unfold insE; rw [if_pos he]
  rw [hi]
  by_cases hq:Xm p=0
  ·have hf:=Zko hk he
   have e:Za3 h p=Zu3 h p.x p.y p.z p.d:=by
    unfold Za3 Zu3
    rw [Uq hf.st p.z (Yd8 hq)]
   have hk1:=Zf (c124 hk.f p.x p.y p.z p.d) hk0
   rw [hq,he] at hk1
   rw [hq,e]
   refine bs.pv (sx:=nos) hk1 Tryz.func135 (by kernel_rfl) (by kernel_rfl) rfl ?_
   repeat'(first|refine wk1 ?_|(refine wk2 ?_ ?_<;>intro _)|refine wk4 ?_|fail);all_goals(conv=>whnf)
   exact Zg (by simp) rfl
  ·rw [he] at hk0
   rw [decide_eq_false hq]
   refine bs.pv (sx:=nos) hk0 Tryz.func135 (by kernel_rfl) (by kernel_rfl) rfl ?_
   repeat'(first|refine wk1 ?_|(refine wk2 ?_ ?_<;>intro _)|refine wk4 ?_|fail);all_goals(conv=>whnf)
   exact Zg rfl rfl
 ·have hi:insE h p=h.err:=by unfold insE; rw [if_neg he]
  rw [hi,decide_eq_false he]
  refine bs.pv (sx:=nos) hk0 Tryz.func135 (by kernel_rfl) (by kernel_rfl) rfl ?_
  repeat'(first|refine wk1 ?_|(refine wk2 ?_ ?_<;>intro _)|refine wk4 ?_|fail);all_goals(conv=>whnf)
  exact Zg rfl rfl
end Go.Proofs.YtdaliaafmcjikaaGreat
