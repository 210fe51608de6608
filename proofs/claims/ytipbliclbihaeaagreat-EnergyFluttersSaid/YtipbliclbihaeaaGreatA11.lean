/- A part of the proof: lemmas. -/
import Derived.Test.YtipbliclbihaeaaGreatA10
import Derived.Test.YtipbliclbihaeaaGreatA7
import Derived.Test.YtipbliclbihaeaaGreatA9
set_option linter.unusedVariables false
set_option linter.unusedSimpArgs false
set_option maxRecDepth 100000
set_option maxHeartbeats 16000000
open Bool renaming and_assoc->Wx,and_eq_true->Qc,not_eq_true'->Ss,true_and->Tx
open Classical renaming choose->Nc
open Go.IntKind renaming i64->Qb,wrap->Qa,wrap_i64->Sq
open Go.Proofs.YtipbliclbihaeaaGreat.Can renaming av->Pb
open Go.Proofs.YtipbliclbihaeaaGreat.Wal renaming av->Sh
open Go.RowKit.Below renaming refl->Gy
open Go.Sx.AV renaming asl->Dy
open Go.Sx.AV.int renaming injEq->Sj
open Go.Sx.Done renaming mk->Qn
open Go.Value renaming slice->Ny
open Int renaming add_comm->Wf,ediv_emod_unique->Ld,ediv_le_ediv->Fo,ediv_le_self->Fm,ediv_nonneg->Jy,le_of_lt->Qq,le_total->Gz,lt_or_le->Jr,lt_tmod_of_pos->Gi,max_eq_left->Dd,max_eq_right->Fq,min_eq_left->Dc,min_eq_right->Fp,mul_comm->Ra,mul_le_mul_of_nonneg_left->Rd,mul_le_mul_of_nonneg_right->Qi,mul_neg->Rv,mul_nonneg->Qw,mul_pos->Re,natAbs_tdiv_le_natAbs->Kf,natAbs_tmod->Ns,natCast_mul->Lg,natCast_nonneg->Kb,tdiv_eq_ediv_of_nonneg->Nb,tmod_lt_of_pos->Gh,tmod_nonneg->Da,toNat_of_nonneg->Lm,zero_mul->Te
open List renaming all_cons->Nj,drop_eq_getElem_cons->Qj,drop_of_length_le->Ql,exists_cons_of_length_pos->Mu,getElem?_eq_getElem->Qg,mem_cons->Qz
open List.cons renaming injEq->Qv
open Nat renaming gcd->Sw,gcd_dvd_right->Ov,gcd_zero_left->Kq,le_refl->Qf,mod_lt->Wu,pow_le_pow_right->Rz,pow_succ->Gx,zero_add->Rw,zero_le->Qo
open Option renaming isNone->Kv
namespace Go.Proofs.YtipbliclbihaeaaGreat
open Go Go.Sx
structure Sit (h:Hal) (s:Stg):Prop where
 ok:h.ok
 fine:h.fine
 sf:s.few
 set:SetOk h s
theorem Zfd {h:Hal} (hk:h.ok) {s:Stg} (hs:s.few) (h0:serr h s=0):Sit h s:=by
 unfold serr at h0
 split at h0
 ·rename_i he
  exact ⟨hk,Zlp hk he,hs,Zz0 hk.f h0⟩
 ·rename_i he; exact absurd h0 he
inductive SK (h:Hal):Int->Prop
 | wall (k:Nat) (hk:k<h.ws.length):SK h k
 | floor:SK h h.ws.length
 | ceil:SK h ((h.ws.length:Int)+1)
 | can (j:Nat) (hj:j<h.ks.length):SK h ((h.ws.length:Int)+2+j)
theorem Zgj {h:Hal} {i:Int} (h0:0<=i) (h1:i<nsur h):SK h i:=by
 unfold nsur at h1
 by_cases c1:i<h.ws.length
 ·have:=SK.wall (h:=h) i.toNat (by omega)
  rwa [Lm h0] at this
 by_cases c2:i=h.ws.length
 ·rw [c2]; exact .floor
 by_cases c3:i=(h.ws.length:Int)+1
 ·rw [c3]; exact .ceil
 have:=SK.can (h:=h) (i-h.ws.length-2).toNat (by omega)
 rwa [Lm (by omega),show (h.ws.length:Int)+2+(i-h.ws.length-2)=i by omega] at this
theorem Zl7 {h:Hal} {s:Stg} {i:Int} (h0:surE h s i=0):serr h s=0/\0<=i/\i<nsur h:=by
 unfold surE at h0
 split at h0
 ·rename_i he
  split at h0
  ·rename_i hw
   have:=within_iff.1 hw
   exact ⟨he,by omega,by omega⟩
  ·cases h0
 ·rename_i he; exact absurd h0 he
def kix (h:Hal) (i:Int):Nat:=(i-h.ws.length-2).toNat
def kat (h:Hal) (i:Int):Can:=(h.ks[kix h i]?).getD ⟨⟨#[]⟩,⟨#[]⟩,0,0,0,0,[]⟩
theorem Zqo {h:Hal} {j:Nat} (hj:j<h.ks.length):kat h ((h.ws.length:Int)+2+j)=h.ks[j]:=by
 unfold kat kix
 rw [show ((h.ws.length:Int)+2+j-h.ws.length-2).toNat=j by omega,Qg hj]; rfl
def isK (h:Hal) (i:Int):Bool:=decide ((h.ws.length:Int)+2<=i)
abbrev canZ:List AV:=[.str ⟨#[]⟩,.str ⟨#[]⟩,I 0,I 0,I 0,I 0,.nils]
def canV (h:Hal) (i:Int):AV:=.agg (match isK h i with
 | true=>(kat h i).av
 | false=>canZ)
theorem c87 {h:Hal} (hf:h.few) (s:Stg) {i:Int} (hi:SK h i):PCall Tryz.prog 148 [.agg (stgL h s),I i] ⟨.tup [canV h i,Bo (isK h i)],[]⟩:=by
 have l:=Yd h.ws
 have l2:=Yt h.ks
 obtain ⟨_,_,f3,f4,_⟩:=hf
 have low:∀ i:Int,0<=i->i<(h.ws.length:Int)+2->PCall Tryz.prog 148 [.agg (stgL h s),I i] ⟨.tup [.agg canZ,Bo false],[]⟩:=by
  intro i h0 h1
  have hv:Qa Qb (Qa Qb (i-((h.ws.map Sh).length:Int))-2)=i-h.ws.length-2:=by rw [W_eq (n:=i-((h.ws.map Sh).length:Int)) (by omega) (by omega),W_eq (by omega) (by omega)]; omega
  refine bs.pv (sx:=nos) Zh Tryz.func148 (by kernel_rfl) (by kernel_rfl) rfl ?_
  have hn:¬ (0<=Qa Qb (Qa Qb (i-((h.ws.map Sh).length:Int))-2)):=by rw [hv]; omega
  repeat'(first|refine wk0 ?_|(refine wk2 ?_ ?_<;>intro _)|refine wk4 ?_|fail);all_goals(conv=>whnf)
  all_goals first
   | exact Zg rfl rfl
   | (exfalso; rename_i hx; have:=of_decide_eq_true hx; rw [hv] at this; omega)
   | (exfalso; rename_i hx; have:=of_decide_eq_true hx; exact hn this)
 cases hi with
 | wall k hk =>
  have e1:isK h k=false:=decide_eq_false (by omega)
  unfold canV; rw [e1]; exact low _ (by omega) (by omega)
 | floor =>
  have e1:isK h h.ws.length=false:=decide_eq_false (by omega)
  unfold canV; rw [e1]; exact low _ (by omega) (by omega)
 | ceil =>
  have e1:isK h ((h.ws.length:Int)+1)=false:=decide_eq_false (by omega)
  unfold canV; rw [e1]; exact low _ (by omega) (by omega)
 | can j hj =>
  have e1:isK h ((h.ws.length:Int)+2+j)=true:=decide_eq_true (by omega)
  unfold canV
  rw [e1]
  dsimp only
  rw [Zqo hj]
  have hv:Qa Qb (Qa Qb ((h.ws.length:Int)+2+j-((h.ws.map Sh).length:Int))-2)=j:=by rw [W_eq (n:=(h.ws.length:Int)+2+j-((h.ws.map Sh).length:Int)) (by omega) (by omega),W_eq (by omega) (by omega)]; omega
  have e2:(h.ks.map Pb)[(Qa Qb (Qa Qb ((h.ws.length:Int)+2+j-((h.ws.map Sh).length:Int))-2)).toNat]?=some (Pb h.ks[j]):=by rw [hv]; exact Zbb hj
  have e3:0<=Qa Qb (Qa Qb ((h.ws.length:Int)+2+j-((h.ws.map Sh).length:Int))-2):=by omega
  have e4:decide (0<=Qa Qb (Qa Qb ((h.ws.length:Int)+2+j-((h.ws.map Sh).length:Int))-2))=true:=decide_eq_true e3
  refine bs.pv (sx:=nos) Zh Tryz.func148 (by kernel_rfl) (by kernel_rfl) rfl ?_
  repeat'(first|refine wk0 ?_|(refine wk2 ?_ ?_<;>intro _)|refine wk4 ?_|fail);all_goals(conv=>whnf)
  all_goals first
   | exact Zg rfl rfl
   | (exfalso; rename_i hx; rw [e4] at hx; cases hx)
def Vx (h:Hal) (s:Stg) (j:Nat):Int:=match h.ks[j]?,s.hs[j]? with
 | some c,some n=>c.hs.getD n.toNat 0
 | _,_=>0
theorem Zi1 {h:Hal} {s:Stg} (g:SetOk h s) {j:Nat} (hj:j<h.ks.length):∃ n,(nl s.hs)[((j:Nat):Int).toNat]?=some [I n]/\0<=n/\n<h.ks[j].hs.length/\(nl h.ks[j].hs)[n.toNat]?=some [I (Vx h s j)]:=by
 have h2:j<s.hs.length:=by rw [g.len]; exact hj
 obtain ⟨g1,g2⟩:=g.hs j hj h2
 refine ⟨s.hs[j],Zar h2,g1,g2,?_⟩
 have h3:s.hs[j].toNat<h.ks[j].hs.length:=by omega
 have e:Vx h s j=h.ks[j].hs[s.hs[j].toNat]:=by unfold Vx; rw [Qg hj,Qg h2]; simp [h3]
 rw [e]
 simp [nl,h3]
theorem c192 {h:Hal} {s:Stg} (g:Sit h s) {j:Nat} (hj:j<h.ks.length):PCall Tryz.prog 109 [.agg (stgL h s),I j] ⟨I (Vx h s j),[]⟩:=by
 obtain ⟨n,e1,e2,e3,e4⟩:=Zi1 g.set hj
 have e5:=Zbb hj
 generalize h.ks[j]=c at *
 have e6:=Zr c.hs
 refine bs.pv (sx:=nos) Zh Tryz.func109 (by kernel_rfl) (by kernel_rfl) rfl ?_
 repeat'(first|refine wk1 ?_|(refine wk2 ?_ ?_<;>intro _)|refine wk4 ?_|fail);all_goals(conv=>whnf)
 exact Za rfl
theorem c108 {h:Hal} {s:Stg} (g:Sit h s) {j:Nat} (hj:j<h.ks.length):PCall Tryz.prog 70 [h.av,s.av,I j] ⟨I (Vx h s j),[]⟩:=by
 obtain ⟨n,e1,e2,e3,e4⟩:=Zi1 g.set hj
 have e5:=Zbb hj
 generalize h.ks[j]=c at *
 have e6:=Zr c.hs
 refine bs.pv (sx:=nos) Zh Tryz.func70 (by kernel_rfl) (by kernel_rfl) rfl ?_
 repeat'(first|refine wk1 ?_|(refine wk2 ?_ ?_<;>intro _)|refine wk4 ?_|fail);all_goals(conv=>whnf)
 exact Za rfl
def Zcb (h:Hal) (i:Int):Int × Int:=if i<h.ws.length then (0,i) else if i=h.ws.length then (1,0) else if i=(h.ws.length:Int)+1 then (2,0) else (3,i-h.ws.length-2)
theorem c89 {h:Hal} (hf:h.few) {i:Int} (hi:SK h i):PCall Tryz.prog 69 [h.av,I i] ⟨.tup [I (Zcb h i).1,I (Zcb h i).2],[]⟩:=by
 have l:=Yd h.ws
 obtain ⟨_,_,f3,f4,_⟩:=hf
 have hw:Qa Qb (((h.ws.map Sh).length:Int)+1)=h.ws.length+1:=by rw [W_eq (by omega) (by omega)]; omega
 have hr:0<=i/\i<100000:=by cases hi<;>omega
 have hv:Qa Qb (Qa Qb (i-((h.ws.map Sh).length:Int))-2)=i-h.ws.length-2:=by rw [W_eq (n:=i-((h.ws.map Sh).length:Int)) (by omega) (by omega),W_eq (by omega) (by omega)]; omega
 unfold Zcb
 refine bs.pv (sx:=nos) Zh Tryz.func69 (by kernel_rfl) (by kernel_rfl) rfl ?_
 repeat'(first|refine wk0 ?_|(refine wk2 ?_ ?_<;>intro _)|refine wk4 ?_|fail);all_goals(conv=>whnf)
 ·rename_i hx
  rw [l] at hx
  rw [if_pos (of_decide_eq_true hx)]; exact Zg rfl rfl
 ·rename_i h1 hx
  rw [l] at hx h1
  rw [if_neg (of_decide_eq_false h1),if_pos (of_decide_eq_true hx)]; exact Zg rfl rfl
 ·rename_i h1 h2 hx
  rw [hw] at hx
  rw [l] at h1 h2
  rw [if_neg (of_decide_eq_false h1),if_neg (of_decide_eq_false h2),if_pos (of_decide_eq_true hx)]; exact Zg rfl rfl
 ·rename_i h1 h2 hx
  rw [hw] at hx
  rw [l] at h1 h2
  rw [if_neg (of_decide_eq_false h1),if_neg (of_decide_eq_false h2),if_neg (of_decide_eq_false hx),<-hv]; exact Zg rfl rfl
def plW (w:Wl):Int × Int:=if w.dx=0 then (0,w.fx) else if w.dy=0 then (1,w.fy) else if w.dx=w.dy then (4,Qa Qb (w.fx-w.fy)) else (3,Qa Qb (w.fx+w.fy))
def Zb (h:Hal) (s:Stg) (i:Int):Int × Int:=if i<h.ws.length then plW (wlOf h.cs i.toNat) else if i=h.ws.length then (2,0) else if i=(h.ws.length:Int)+1 then (2,h.ht) else (2,Vx h s (kix h i))
theorem Ug {h:Hal} {s:Stg} {k:Nat} (hk:k<h.ws.length):Zb h s k=plW (wlOf h.cs k):=by unfold Zb; rw [if_pos (by omega)]; rfl
theorem Ur {h:Hal} {s:Stg}:Zb h s h.ws.length=(2,0):=by unfold Zb; rw [if_neg (by omega),if_pos rfl]
theorem Zap {h:Hal} {s:Stg}:Zb h s ((h.ws.length:Int)+1)=(2,h.ht):=by unfold Zb; rw [if_neg (by omega),if_neg (by omega),if_pos rfl]
theorem Zbm {h:Hal} {s:Stg} {j:Nat}:Zb h s ((h.ws.length:Int)+2+j)=(2,Vx h s j):=by
 unfold Zb kix
 rw [if_neg (by omega),if_neg (by omega),if_neg (by omega),show ((h.ws.length:Int)+2+j-h.ws.length-2).toNat=j by omega]
noncomputable def kP (h:Hal) (s:Stg):PC:=ins 107 (one [.agg (stgL h s)] ⟨I (h.ws.length:Int),[]⟩) (ins 108 (one [.agg (stgL h s)] ⟨I ((h.ws.length:Int)+1),[]⟩) kG4)
theorem Yco {h:Hal} {s:Stg} (g:Sit h s):PCOK Tryz.prog (kP h s):=Zd (c172 s) (Zd (c173 g.ok.f s) Ut)
theorem c112 {h:Hal} {s:Stg} (g:Sit h s) {i:Int} (hi:SK h i):PCall Tryz.prog 61 [.agg (stgL h s),I i] ⟨P2 (Zb h s i).1 (Zb h s i).2,[]⟩:=by
 have hk0:=Yco g
 have f3:=g.ok.f.2.2.1
 have f4:=g.ok.f.2.2.2.1
 cases hi with
 | wall k hk =>
  have hk2:k<h.cs.length:=by have:=g.fine.le; omega
  rw [Ug hk]
  have hk1:=Zd (Ybp g.ok.f hk2) hk0
  refine bs.pv (sx:=nos) hk1 Tryz.func61 (by kernel_rfl) (by kernel_rfl) rfl ?_
  generalize wlOf h.cs k=w at *
  repeat'(first|refine wk1 ?_|(refine wk2 ?_ ?_<;>intro _)|refine wk4 ?_|fail);all_goals(conv=>whnf)
  all_goals exact Zg (by clear hk0 hk1; simp_all [plW]) rfl
 | floor =>
  rw [Ur]
  refine bs.pv (sx:=nos) hk0 Tryz.func61 (by kernel_rfl) (by kernel_rfl) rfl ?_
  repeat'(first|refine wk1 ?_|(refine wk2 ?_ ?_<;>intro _)|refine wk4 ?_|fail);all_goals(conv=>whnf)
  exact Zg rfl rfl
 | ceil =>
  rw [Zap]
  refine bs.pv (sx:=nos) hk0 Tryz.func61 (by kernel_rfl) (by kernel_rfl) rfl ?_
  repeat'(first|refine wk1 ?_|(refine wk2 ?_ ?_<;>intro _)|refine wk4 ?_|fail);all_goals(conv=>whnf)
  exact Zg rfl rfl
 | can j hj =>
  rw [Zbm]
  have hv:Qa Qb (Qa Qb ((h.ws.length:Int)+2+j-((h.ws.length:Int)+1))-1)=j:=by rw [W_eq (n:=(h.ws.length:Int)+2+j-((h.ws.length:Int)+1)) (by omega) (by omega),W_eq (by omega) (by omega)]; omega
  have hc:=c192 g hj
  rw [<-hv] at hc
  have hk1:=Zd hc hk0
  refine bs.pv (sx:=nos) hk1 Tryz.func61 (by kernel_rfl) (by kernel_rfl) rfl ?_
  repeat'(first|refine wk1 ?_|(refine wk2 ?_ ?_<;>intro _)|refine wk4 ?_|fail);all_goals(conv=>whnf)
  exact Zg rfl rfl
theorem c59 {h:Hal} {s:Stg} (g:Sit h s) {i:Int} (hi:SK h i):PCall Tryz.prog 35 [h.av,s.av,I i] ⟨P2 (Zb h s i).1 (Zb h s i).2,[]⟩:=by
 have hk0:=Zd (c89 g.ok.f hi) (Zkj g.ok.f)
 have f3:=g.ok.f.2.2.1
 have f4:=g.ok.f.2.2.2.1
 cases hi with
 | wall k hk =>
  have hk2:k<h.cs.length:=by have:=g.fine.le; omega
  have e1:=Xs hk2
  rw [show Zcb h k=(0,(k:Int)) by unfold Zcb; rw [if_pos (by omega)]] at hk0
  rw [Ug hk]
  rw [Zbg] at e1
  refine bs.pv (sx:=nos) hk0 Tryz.func35 (by kernel_rfl) (by kernel_rfl) rfl ?_
  generalize wlOf h.cs k=w at *
  have hp:plW w=if w.ln.dx=0 then (0,w.ln.x) else if w.ln.dy=0 then (1,w.ln.y) else if w.ln.dx=w.ln.dy then (4,Qa Qb (w.ln.x-w.ln.y)) else (3,Qa Qb (w.ln.x+w.ln.y)):=rfl
  rw [hp]
  repeat'(first|refine wk1 ?_|(refine wk2 ?_ ?_<;>intro _)|refine wk4 ?_|fail);all_goals(conv=>whnf)
  ·rename_i h1; rw [if_pos (of_decide_eq_true h1)]; exact Zg rfl rfl
  ·rename_i h1 h2; rw [if_neg (of_decide_eq_false h1),if_pos (of_decide_eq_true h2)]; exact Zg rfl rfl
  ·rename_i h1 h2 h3; rw [if_neg (of_decide_eq_false h1),if_neg (of_decide_eq_false h2),if_pos (of_decide_eq_true h3)]; exact Zg rfl rfl
  ·rename_i h1 h2 h3; rw [if_neg (of_decide_eq_false h1),if_neg (of_decide_eq_false h2),if_neg (of_decide_eq_false h3)]; exact Zg rfl rfl
 | floor =>
  rw [show Zcb h h.ws.length=(1,0) by unfold Zcb; rw [if_neg (by omega),if_pos rfl]] at hk0
  rw [Ur]
  refine bs.pv (sx:=nos) hk0 Tryz.func35 (by kernel_rfl) (by kernel_rfl) rfl ?_
  repeat'(first|refine wk1 ?_|(refine wk2 ?_ ?_<;>intro _)|refine wk4 ?_|fail);all_goals(conv=>whnf)
  exact Zg rfl rfl
 | ceil =>
  rw [show Zcb h ((h.ws.length:Int)+1)=(2,0) by unfold Zcb; rw [if_neg (by omega),if_neg (by omega),if_pos rfl]] at hk0
  rw [Zap]
  refine bs.pv (sx:=nos) hk0 Tryz.func35 (by kernel_rfl) (by kernel_rfl) rfl ?_
  repeat'(first|refine wk1 ?_|(refine wk2 ?_ ?_<;>intro _)|refine wk4 ?_|fail);all_goals(conv=>whnf)
  exact Zg rfl rfl
 | can j hj =>
  rw [show Zcb h ((h.ws.length:Int)+2+j)=(3,(j:Int)) by unfold Zcb; rw [if_neg (by omega),if_neg (by omega),if_neg (by omega)]; simp; omega] at hk0
  rw [Zbm]
  have hk1:=Zd (c108 g hj) hk0
  refine bs.pv (sx:=nos) hk1 Tryz.func35 (by kernel_rfl) (by kernel_rfl) rfl ?_
  repeat'(first|refine wk1 ?_|(refine wk2 ?_ ?_<;>intro _)|refine wk4 ?_|fail);all_goals(conv=>whnf)
  exact Zg rfl rfl
def Zg6 (h:Hal) (s:Stg) (i:Int):Int × Int:=if surE h s i=0 then Zb h s i else (0,0)
theorem c54 {h:Hal} (hk:h.ok) {s:Stg} (hs:s.few) (i:Int):PCall Tryz.prog 26 [h.av,s.av,I i] ⟨.tup [P2 (Zg6 h s i).1 (Zg6 h s i).2,I (surE h s i)],[]⟩:=by
 have hk0:=Zd (c109 hk hs i) Zh
 by_cases he:surE h s i=0
 ·have e:=Zl7 he
  have g:=Zfd hk hs e.1
  have hk1:=Zd (c112 g (Zgj e.2.1 e.2.2)) hk0
  have e2:Zg6 h s i=Zb h s i:=by unfold Zg6; rw [if_pos he]
  rw [e2]
  rw [he] at hk1 ⊢
  refine bs.pv (sx:=nos) hk1 Tryz.func26 (by kernel_rfl) (by kernel_rfl) rfl ?_
  repeat'(first|refine wk1 ?_|(refine wk2 ?_ ?_<;>intro _)|refine wk4 ?_|fail);all_goals(conv=>whnf)
  exact Zg rfl rfl
 ·have e2:Zg6 h s i=(0,0):=by unfold Zg6; rw [if_neg he]
  rw [e2]
  refine bs.pv (sx:=nos) hk0 Tryz.func26 (by kernel_rfl) (by kernel_rfl) rfl ?_
  repeat'(first|refine wk1 ?_|(refine wk2 ?_ ?_<;>intro _)|refine wk4 ?_|fail);all_goals(conv=>whnf)
  exact Zg rfl rfl
theorem Zlx {h:Hal} {i:Int} (hi:i<(h.ws.length:Int)+2):canV h i = .agg canZ/\isK h i=false:=by
 have e1:isK h i=false:=decide_eq_false (by omega)
 unfold canV; rw [e1]; exact ⟨rfl,rfl⟩
theorem Zx7 {h:Hal} {j:Nat} (hj:j<h.ks.length):canV h ((h.ws.length:Int)+2+j) = .agg (Pb h.ks[j])/\isK h ((h.ws.length:Int)+2+j)=true:=by
 have e1:isK h ((h.ws.length:Int)+2+j)=true:=decide_eq_true (by omega)
 unfold canV; rw [e1,<-Zqo hj]; exact ⟨rfl,rfl⟩
theorem Zzz (n:Nat):∃ r,r*r<=n/\n<(r+1)*(r+1):=by
 induction n with
 | zero=>exact ⟨0,by decide,by decide⟩
 | succ n ih =>
  obtain ⟨r,h1,h2⟩:=ih
  by_cases h:(r+1)*(r+1)<=n+1
  ·refine ⟨r+1,h,?_⟩
   have:(r+1+1)*(r+1+1)=(r+1)*(r+1)+2*(r+1)+1:=by grind
   omega
  ·exact ⟨r,by omega,by omega⟩
noncomputable def isq (n:Int):Int:=(Nc (Zzz n.toNat):Nat)
theorem Zho {n:Int} (h:0<=n):0<=isq n/\isq n*isq n<=n/\n<(isq n+1)*(isq n+1):=by
 obtain ⟨h1,h2⟩:=Classical.choose_spec (Zzz n.toNat)
 unfold isq
 generalize Nc (Zzz n.toNat)=r at *
 refine ⟨by omega,?_,?_⟩
 ·have:((r*r:Nat):Int)<=(n.toNat:Int):=by exact_mod_cast h1
  rw [Lg] at this; omega
 ·have:((n.toNat:Nat):Int)<(((r+1)*(r+1):Nat):Int):=by exact_mod_cast h2
  rw [Lg] at this
  have e:((r+1:Nat):Int)=(r:Int)+1:=by omega
  rw [e] at this; omega
theorem Zs9 {a b:Int} (ha:0<=a) (h:a<=b):a*a<=b*b:=Int.mul_le_mul h h ha (by omega)
theorem Zos {a b:Int} (hb:0<=b) (h:a*a<b*b) (ha:0<=a):a<b:=by
 rcases Jr a b with h1|h1
 ·exact h1
 ·have:=Zs9 hb h1; omega
theorem Zkl {n r:Int} (h0:0<=n) (hr:0<=r) (h1:r*r<=n) (h2:n<(r+1)*(r+1)):r=isq n:=by
 obtain ⟨g0,g1,g2⟩:=Zho h0
 have a1:=Zos (a:=r) (b:=isq n+1) (by omega) (by omega) hr
 have a2:=Zos (a:=isq n) (b:=r+1) (by omega) (by omega) g0
 omega
theorem Ztb {r B:Int} (h0:0<=r) (h1:r<=B):0<=r*r/\r*r<=B*B:=⟨Qw h0 h0,Zs9 h0 h1⟩
def bk:Nat->Int
 | 0=>0
 | k+1=>((2 ^ k:Nat):Int)
theorem Ybr (k:Nat):Qa Qb ((bk (k+1)).tdiv 2)=bk k\/62<=k:=by
 by_cases hk:62<=k
 ·exact .inr hk
 refine .inl ?_
 have hb:2 ^ k<=2 ^ 62:=Rz (by decide) (by omega)
 unfold bk
 cases k with
 | zero=>decide
 | succ k =>
  dsimp only
  have e:((2 ^ (k+1):Nat):Int).tdiv 2=((2 ^ k:Nat):Int):=by
   rw [Nb (Kb _)]
   rw [Gx]; omega
  rw [e]
  rw [Gx] at hb
  have h1:(0:Int)<=((2 ^ k:Nat):Int):=Kb _
  exact W_eq (by omega) (by omega)
noncomputable def cr (n:Int):Int:=if isq n*isq n<n then isq n+1 else isq n
theorem Zq2 {n b:Int} (hb:0<b):(n.tmod b<0/\n / b=n.tdiv b-1)\/(¬ n.tmod b<0/\n / b=n.tdiv b):=by
 have e1:=Int.tmod_add_mul_tdiv n b
 have e2:=Gh n hb
 have e3:=Gi n hb
 by_cases h:n.tmod b<0
 ·exact .inl ⟨h,((Ld hb (r:=n.tmod b+b)).2 ⟨by rw [Int.mul_sub]; omega,by omega,by omega⟩).1⟩
 ·exact .inr ⟨h,((Ld hb (r:=n.tmod b)).2 ⟨by omega,by omega,by omega⟩).1⟩
theorem c90 {n b:Int} (hb:0<b) (h0 : -9223372036854775807<=n) (h1:n<=9223372036854775807):PCall Tryz.prog 39 [I n,I b] ⟨I (n / b),[]⟩:=by
 have hq:=Kf n b
 have e:Qa Qb (n.tdiv b)=n.tdiv b:=W_eq (by omega) (by omega)
 have hm:Qa Qb (n.tmod b)=n.tmod b:=by
  have:=Gh n hb
  have e3:=Gi n hb
  have e4:(n.tmod b).natAbs<=n.natAbs:=by rw [Ns]; exact Nat.mod_le _ _
  exact W_eq (by omega) (by omega)
 have hz:¬ b=0:=by omega
 refine bs.pv (sx:=nos) Zh Tryz.func39 (by kernel_rfl) (by kernel_rfl) rfl ?_
 rcases Zq2 (n:=n) hb with ⟨c1,c2⟩|⟨c1,c2⟩
 ·have e5:Qa Qb (n.tdiv b-1)=n.tdiv b-1:=W_eq (by omega) (by omega)
  rw [c2]
  repeat'(first|refine wk1 ?_|(refine wk2 ?_ ?_<;>intro _)|refine wk4 ?_|fail);all_goals(conv=>whnf)
  all_goals exact Za (by rw [e,e5])
 ·rw [c2]
  repeat'(first|refine wk1 ?_|(refine wk2 ?_ ?_<;>intro _)|refine wk4 ?_|fail);all_goals(conv=>whnf)
  all_goals exact Za (by omega)
theorem Zvm {y:Nat} {r:Int} (h:floatToIntVal .f64 y .i64=some r):Zgw (tget tbl) 278 3 (.flt .f64 y)=some (I r):=by
 unfold floatToIntVal at h
 show (match (FloatKind.f64.decode y).toInt .zero with
  | some n=>cond (decide (IntKind.i64.min<=n/\n<=IntKind.i64.max)) (some (AV.int .i64 n)) none
  | none=>none)=_
 split at h
 ·rename_i n hn
  rw [hn]
  dsimp only
  split at h
  ·rename_i hr
   cases h
   rw [decide_eq_true hr]; rfl
  ·cases h
 ·cases h
theorem d211 {n:Int} (h0:0<=n) (h1:n<4611686018427387000):PCall Tryz.prog 137 [I n] ⟨I (isq n),[]⟩:=by
 obtain ⟨y,r0,e1,e2,e3,e4⟩:=Zwu h0 h1
 refine bs.pv (sx:=nos) (Zd (c202 e1) Zh) Tryz.func137 (by kernel_rfl) (by kernel_rfl) rfl ?_
 have hc:=Zvm e2
 repeat'(first|refine wk1 ?_|(refine wk2 ?_ ?_<;>intro _)|refine wk4 ?_|fail);all_goals(conv=>whnf)
 split
 rotate_left
 ·rename_i hx
  exfalso
  change ret (Zgw (tget tbl) 278 3 (.flt .f64 y))=none at hx
  rw [hc] at hx
  cases hx
 rename_i x hx
 change ret (Zgw (tget tbl) 278 3 (.flt .f64 y))=some x at hx
 rw [hc] at hx
 cases hx
 repeat'(first|refine wk1 ?_|(refine wk2 ?_ ?_<;>intro _)|refine wk4 ?_|fail);all_goals(conv=>whnf)
 refine Zw (S:=Int) (fun t=>t.toNat) (fun t=>[(0,I n),(3,I t)]) (fun _=>[]) 0 0 (fun t=>0<=t/\t<=2147483648) r0 ⟨e3,e4⟩ (Qf _) [] rfl (kps) (kps) ?_
 clear e1 e2 e3 e4
 rintro r ⟨g1,g2⟩
 try dsimp only at g1 g2 ⊢
 have hb:=Ztb g1 g2
 have hw:Qa Qb (r*r)=r*r:=W_eq (by omega) (by omega)
 refine bs.av (sx:=nos) Zh ?_
 by_cases hc:n<r*r
 ·have hp:0<r:=by
   rcases Jr 0 r with h|h
   ·exact h
   ·have:r=0:=by omega
    subst this; omega
  repeat'(first|refine wk1 ?_|(refine wk2 ?_ ?_<;>intro _)|refine wk4 ?_|fail);all_goals(conv=>whnf)
  have hv:Qa Qb (r-1)=r-1:=W_eq (by omega) (by omega)
  exact Qn ⟨_,[],rfl,kps,kps,⟨by omega,by omega⟩,by omega⟩
 ·repeat'(first|refine wk1 ?_|(refine wk2 ?_ ?_<;>intro _)|refine wk4 ?_|fail);all_goals(conv=>whnf)
  refine Zw (S:=Int) (fun t=>(n-t).toNat) (fun t=>[(0,I n),(3,I t)]) (fun _=>[]) 0 0 (fun t=>0<=t/\t*t<=n) r ⟨g1,by omega⟩ (Qf _) [] rfl (kps) (kps) ?_
  clear hc hw hb g1 g2
  rintro r ⟨g1,g2⟩
  try dsimp only at g1 g2 ⊢
  have g3:r<2147483648:=Zos (by omega) (by omega) g1
  have hw1:Qa Qb (r+1)=r+1:=W_eq (by omega) (by omega)
  have hb:=Ztb (r:=r+1) (B:=2147483648) (by omega) (by omega)
  have hw2:Qa Qb (Qa Qb (r+1)*Qa Qb (r+1))=(r+1)*(r+1):=by rw [hw1]; exact W_eq (by omega) (by omega)
  refine bs.av (sx:=nos) Zh ?_
  by_cases hc:(r+1)*(r+1)<=n
  ·repeat'(first|refine wk1 ?_|(refine wk2 ?_ ?_<;>intro _)|refine wk4 ?_|fail);all_goals(conv=>whnf)
   have hrn:r<n:=by
    have:(r+1)*(r+1)=r*r+2*r+1:=by grind
    have hz:=Qw g1 g1
    omega
   exact Qn ⟨_,[],rfl,kps,kps,⟨by omega,by rw [hw1]; exact hc⟩,by rw [hw1]; omega⟩
  ·repeat'(first|refine wk1 ?_|(refine wk2 ?_ ?_<;>intro _)|refine wk4 ?_|fail);all_goals(conv=>whnf)
   exact Za (Zkl h0 g1 g2 (by omega))
theorem d172 {n:Int} (h0:0<=n) (h1:n<4611686018427387000):PCall Tryz.prog 79 [I n] ⟨I (isq n),[]⟩:=by
 refine bs.pv (sx:=nos) Zh Tryz.func79 (by kernel_rfl) (by kernel_rfl) rfl ?_
 conv=>whnf
 refine Zw (S:=Nat × Int) (fun t=>t.1) (fun t=>[(0,I n),(3,I t.2),(4,I (bk t.1))]) (fun _=>[]) 0 0 (fun t=>t.1<=31/\(0<=t.2/\t.2+((2 ^ t.1:Nat):Int)<=2147483648)/\t.2*t.2<=n/\n<(t.2+((2 ^ t.1:Nat):Int))*(t.2+((2 ^ t.1:Nat):Int))) (31,0) ⟨by decide,⟨by decide,by decide⟩,by simpa using h0,by
  have:((0:Int)+((2 ^ 31:Nat):Int))*(0+((2 ^ 31:Nat):Int))=4611686018427387904:=by decide
  show n<((0:Int)+((2 ^ 31:Nat):Int))*(0+((2 ^ 31:Nat):Int))
  omega⟩ (Qf _) [] rfl (kps) (kps) ?_
 rintro ⟨k,r⟩ ⟨g0,⟨g1,g5⟩,g2,g3⟩
 dsimp only at g0 g1 g2 g3 g5 ⊢
 have g4:r<2147483648:=Zos (by omega) (by omega) g1
 refine bs.av (sx:=nos) Zh ?_
 cases k with
 | zero =>
  repeat'(first|refine wk1 ?_|(refine wk2 ?_ ?_<;>intro _)|refine wk4 ?_|fail);all_goals(conv=>whnf)
  exact Za (Zkl h0 g1 g2 (by simpa using g3))
 | succ k =>
  have hb:2 ^ k<=2 ^ 30:=Rz (by decide) (by omega)
  have hp:0<2 ^ k:=Nat.pow_pos (by decide)
  have hh:Qa Qb ((bk (k+1)).tdiv 2)=bk k:=(Ybr k).resolve_right (by omega)
  have hk1:bk (k+1)=((2 ^ k:Nat):Int):=rfl
  have e2:((2 ^ (k+1):Nat):Int)=2*((2 ^ k:Nat):Int):=by rw [Gx]; omega
  rw [e2] at g3 g5
  rw [hk1] at hh ⊢
  generalize hbk:((2 ^ k:Nat):Int)=b at *
  have hb' : 0<b/\b<=1073741824:=by omega
  have hw1:Qa Qb (r+b)=r+b:=W_eq (by omega) (by omega)
  have hq:=Ztb (r:=r+b) (B:=2147483648) (by omega) (by omega)
  have hw2:Qa Qb (Qa Qb (r+b)*Qa Qb (r+b))=(r+b)*(r+b):=by rw [hw1]; exact W_eq (by omega) (by omega)
  by_cases hc:(r+b)*(r+b)<=n
  ·repeat'(first|refine wk1 ?_|(refine wk2 ?_ ?_<;>intro _)|refine wk4 ?_|fail);all_goals(conv=>whnf)
   exact Qn ⟨(k,Qa Qb (r+b)),[],rfl,by rw [<-hh]; exact kps,kps,⟨by omega,⟨by dsimp only; omega,by dsimp only; rw [hbk,hw1]; omega⟩,by dsimp only; rw [hw1]; exact hc,by
    dsimp only
    rw [hw1]
    have:r+b+b=r+2*b:=by omega
    rw [hbk,this]; exact g3⟩,by dsimp only; omega⟩
  ·repeat'(first|refine wk1 ?_|(refine wk2 ?_ ?_<;>intro _)|refine wk4 ?_|fail);all_goals(conv=>whnf)
   exact Qn ⟨(k,r),[],rfl,by rw [<-hh]; exact kps,kps,⟨by omega,⟨g1,by dsimp only; rw [hbk]; omega⟩,g2,by dsimp only; rw [hbk]; omega⟩,by dsimp only; omega⟩
theorem d173 {n:Int} (h0:0<=n) (h1:n<4611686018427387000):PCall Tryz.prog 80 [I n] ⟨I (if isq n*isq n<n then isq n+1 else isq n),[]⟩:=by
 obtain ⟨g1,g2,g3⟩:=Zho h0
 have g4:isq n<2147483648:=Zos (by omega) (by omega) g1
 have hb:=Ztb g1 (show isq n<=2147483648 by omega)
 have hw:Qa Qb (isq n*isq n)=isq n*isq n:=W_eq (by omega) (by omega)
 have hw2:Qa Qb (isq n+1)=isq n+1:=W_eq (by omega) (by omega)
 refine bs.pv (sx:=nos) (Zd (d172 h0 h1) Zh) Tryz.func80 (by kernel_rfl) (by kernel_rfl) rfl ?_
 by_cases hc:isq n*isq n<n
 ·rw [if_pos hc]
  repeat'(first|refine wk1 ?_|(refine wk2 ?_ ?_<;>intro _)|refine wk4 ?_|fail);all_goals(conv=>whnf)
  exact Za hw2
 ·rw [if_neg hc]
  repeat'(first|refine wk1 ?_|(refine wk2 ?_ ?_<;>intro _)|refine wk4 ?_|fail);all_goals(conv=>whnf)
  exact Za rfl
structure Pth where
 ss:List Int
 ps:List (Int × Int × Int × Int)
 sq:Int
abbrev hp4 (p:Int × Int × Int × Int):List AV:=[I p.1,I p.2.1,I p.2.2.1,I p.2.2.2]
abbrev Pth.av (p:Pth):AV:=.agg [.isl 1 (nl p.ss),.isl 4 (p.ps.map hp4),I p.sq]
def pthE (p:Pth):Int:=if (p.ps.length:Int)=p.ss.length then (if 4<(p.ss.length:Int) then 8 else (if within p.sq 1 24300000000 then 0 else 2)) else 10
theorem Zmm {p:Pth} (h:pthE p=0):(p.ss.length<=4/\p.ps.length=p.ss.length)/\1<=p.sq/\p.sq<=24300000000:=by
 unfold pthE at h
 split at h
 ·split at h
  ·cases h
  ·split at h
   ·rename_i a b c
    have:=within_iff.1 c
    omega
   ·cases h
 ·cases h
theorem d210 (n lo hi:Int):PCall Tryz.prog 102 [I n,I lo,I hi] ⟨Bo (within n lo hi),[]⟩:=by
 refine bs.pv (sx:=nos) Zh Tryz.func102 (by kernel_rfl) (by kernel_rfl) rfl ?_
 repeat'(first|refine wk3 ?_|(refine wk2 ?_ ?_<;>intro _)|refine wk4 ?_|fail);all_goals(conv=>whnf)
 all_goals exact Zc (by simp_all [within]<;>omega)
theorem d209 (b:Bool) (e:Int):PCall Tryz.prog 57 [Bo b,I e] ⟨I (unl b e),[]⟩:=by
 refine bs.pv (sx:=nos) Zh Tryz.func57 (by kernel_rfl) (by kernel_rfl) rfl ?_
 repeat'(first|refine wk3 ?_|(refine wk2 ?_ ?_<;>intro _)|refine wk4 ?_|fail);all_goals(conv=>whnf)
 all_goals exact Za (by simp_all [unl])
noncomputable def lenV (sq:Int):Int × Int:=(isq (sq*100000000),cr (sq*100000000))
theorem Zo2 {sq:Int} (h0:1<=sq) (h1:sq<=24300000000):(0<=(lenV sq).1/\(lenV sq).1<2147483648)/\(lenV sq).1<=(lenV sq).2/\(lenV sq).2<=(lenV sq).1+1:=by
 obtain ⟨g1,g2,g3⟩:=Zho (n:=sq*100000000) (by omega)
 have g4:isq (sq*100000000)<2147483648:=Zos (by omega) (by omega) g1
 unfold lenV cr
 dsimp only
 split<;>omega
theorem d163 {p:Pth} (h:pthE p=0):PCall Tryz.prog 82 [p.av] ⟨P2 (lenV p.sq).1 (lenV p.sq).2,[]⟩:=by
 obtain ⟨_,s1,s2⟩:=Zmm h
 have w1:Qa Qb (p.sq*100000000)=p.sq*100000000:=W_eq (by omega) (by omega)
 obtain ⟨g1,g2,g3⟩:=Zho (n:=p.sq*100000000) (by omega)
 have g4:isq (p.sq*100000000)<2147483648:=Zos (by omega) (by omega) g1
 have hb:=Ztb g1 (show isq (p.sq*100000000)<=2147483648 by omega)
 have h0:=Zd (d211 (n:=p.sq*100000000) (by omega) (by omega)) Zh
 unfold lenV cr
 rw [<-w1] at g1 g2 g3 g4 hb h0 ⊢
 have w2:Qa Qb (isq (Qa Qb (p.sq*100000000))*isq (Qa Qb (p.sq*100000000)))=isq (Qa Qb (p.sq*100000000))*isq (Qa Qb (p.sq*100000000)):=W_eq (by omega) (by omega)
 have w3:Qa Qb (isq (Qa Qb (p.sq*100000000))+1)=isq (Qa Qb (p.sq*100000000))+1:=W_eq (by omega) (by omega)
 generalize isq (Qa Qb (p.sq*100000000))=r at *
 dsimp only
 by_cases c:r*r<Qa Qb (p.sq*100000000)
 ·rw [if_pos c,<-w3]
  rw [<-w2] at c
  refine bs.pv (sx:=nos) h0 Tryz.func82 (by kernel_rfl) (by kernel_rfl) rfl ?_
  repeat'(first|refine wk3 ?_|(refine wk2 ?_ ?_<;>intro _)|refine wk4 ?_|fail);all_goals(conv=>whnf)
  all_goals exact Zg rfl rfl
 ·rw [if_neg c]
  rw [<-w2] at c
  refine bs.pv (sx:=nos) h0 Tryz.func82 (by kernel_rfl) (by kernel_rfl) rfl ?_
  repeat'(first|refine wk3 ?_|(refine wk2 ?_ ?_<;>intro _)|refine wk4 ?_|fail);all_goals(conv=>whnf)
  all_goals exact Zg rfl rfl
theorem d99 {sq:Int} (s1:1<=sq) (s2:sq<=24300000000):PCall Tryz.prog 38 [I sq] ⟨P2 (lenV sq).1 (lenV sq).2,[]⟩:=by
 have w1:Qa Qb (sq*100000000)=sq*100000000:=W_eq (by omega) (by omega)
 have h0:=Zd (d172 (n:=sq*100000000) (by omega) (by omega)) (Zd (d173 (n:=sq*100000000) (by omega) (by omega)) Zh)
 unfold lenV cr
 rw [<-w1] at h0 ⊢
 dsimp only
 refine bs.pv (sx:=nos) h0 Tryz.func38 (by kernel_rfl) (by kernel_rfl) rfl ?_
 repeat'(first|refine wk3 ?_|(refine wk2 ?_ ?_<;>intro _)|refine wk4 ?_|fail);all_goals(conv=>whnf)
 exact Zg rfl rfl
abbrev flOk (n b:Int):Prop:=0<b /\ -9223372036854775807<=n/\n<=9223372036854775807
theorem d95 {n b:Int} (h:flOk n b):PCall Tryz.prog 39 [I n,I b] ⟨I (n / b),[]⟩:=by
 obtain ⟨hb,h0,h1⟩:=h
 have hq:=Kf n b
 have e:Qa Qb (n.tdiv b)=n.tdiv b:=W_eq (by omega) (by omega)
 have hz:¬ b=0:=by omega
 refine bs.pv (sx:=nos) Zh Tryz.func39 (by kernel_rfl) (by kernel_rfl) rfl ?_
 rcases Zq2 (n:=n) hb with ⟨c1,c2⟩|⟨c1,c2⟩
 ·have e5:Qa Qb (n.tdiv b-1)=n.tdiv b-1:=W_eq (by omega) (by omega)
  rw [c2]
  repeat'(first|refine wk1 ?_|(refine wk2 ?_ ?_<;>intro _)|refine wk4 ?_|fail);all_goals(conv=>whnf)
  all_goals exact Za (by rw [e,e5])
 ·rw [c2]
  repeat'(first|refine wk1 ?_|(refine wk2 ?_ ?_<;>intro _)|refine wk4 ?_|fail);all_goals(conv=>whnf)
  all_goals exact Za (by omega)
theorem d96 {n b:Int} (h:flOk n b):PCall Tryz.prog 40 [I n,I b] ⟨I (-((-n) / b)),[]⟩:=by
 obtain ⟨hb,h0,h1⟩:=h
 have e1:Qa Qb (0-n) = -n:=by rw [W_eq (by omega) (by omega)]; omega
 have hk:=Zd (d95 (n:=-n) (b:=b) ⟨hb,by omega,by omega⟩) Zh
 rw [<-e1] at hk
 refine bs.pv (sx:=nos) hk Tryz.func40 (by kernel_rfl) (by kernel_rfl) rfl ?_
 have hq:(-n / b).natAbs<=(-n).natAbs:=Int.natAbs_ediv_le_natAbs _ _
 repeat'(first|refine wk1 ?_|(refine wk2 ?_ ?_<;>intro _)|refine wk4 ?_|fail);all_goals(conv=>whnf)
 rw [e1]
 exact Za (by rw [W_eq (by omega) (by omega)]; omega)
def rFl:List AV->Option PRes
 | [.int .i64 n,.int .i64 b]=>asr (decide (flOk n b)) ⟨I (n / b),[]⟩
 | _=>none
def rCl:List AV->Option PRes
 | [.int .i64 n,.int .i64 b]=>asr (decide (flOk n b)) ⟨I (-((-n) / b)),[]⟩
 | _=>none
theorem Yc9 {n b:Int} (h:flOk n b):rFl [I n,I b]=some ⟨I (n / b),[]⟩:=Xm h
theorem Ydo {n b:Int} (h:flOk n b):rCl [I n,I b]=some ⟨I (-((-n) / b)),[]⟩:=Xm h
def fstL:List Int->Int
 | []=>0
 | x::l=>if x≠0 then x else fstL l
theorem Zup (x:Int) (l:List Int):fstL (x::l)=if x≠0 then x else fstL l:=rfl
theorem d78 {l:List Int} (hl:l.length<1000):PCall Tryz.prog 55 [.isl 1 (nl l)] ⟨I (fstL l),[]⟩:=by
 have l2:=Zr l
 refine bs.pv (sx:=nos) Zh Tryz.func55 (by kernel_rfl) (by kernel_rfl) rfl ?_
 repeat'(first|refine wk3 ?_|(refine wk2 ?_ ?_<;>intro _)|refine wk4 ?_|fail);all_goals(conv=>whnf)
 refine Zw (S:=Nat × Int) (fun t=>l.length-t.1) (fun t=>[(5,.isl 1 (nl l)),(6,I (nl l).length),(7,I t.2)]) (fun _=>[]) 0 0 (fun t=>t.2=t.1/\t.1<=l.length/\fstL (l.drop t.1)=fstL l) (0,0) ⟨rfl,Qo _,rfl⟩ (Qf _) [] rfl (kps) (kps) ?_
 rintro ⟨k,i⟩ ⟨hi,hk,hh⟩
 dsimp only at hi hk hh ⊢
 subst hi
 generalize fstL l=R at *
 refine bs.av (sx:=nos) Zh ?_
 by_cases hlt:k<l.length
 ·have e1:=Zar hlt
  rw [Qj hlt,Zup] at hh
  generalize l[k]=x at *
  by_cases hx:x=0
  ·rw [if_neg (fun c=>c hx)] at hh
   repeat'(first|refine wk3 ?_|(refine wk2 ?_ ?_<;>intro _)|refine wk4 ?_|fail);all_goals(conv=>whnf)
   exact Qn ⟨(k+1,_),[],rfl,kps,kps,⟨Zf (by omega),hlt,hh⟩,by dsimp only; omega⟩
  ·rw [if_pos hx] at hh
   subst hh
   repeat'(first|refine wk3 ?_|(refine wk2 ?_ ?_<;>intro _)|refine wk4 ?_|fail);all_goals(conv=>whnf)
   exact Za rfl
 ·rw [Ql (by omega)] at hh
  repeat'(first|refine wk3 ?_|(refine wk2 ?_ ?_<;>intro _)|refine wk4 ?_|fail);all_goals(conv=>whnf)
  exact Za hh
def r78f:List AV->Option PRes
 | [.isl 1 l]=>match numsOf l with
  | some ns=>asr (Nat.blt ns.length 1000) ⟨I (fstL ns),[]⟩
  | none=>none
 | _=>none
where
 numsOf:List (List AV)->Option (List Int)
  | []=>some []
  | [.int .i64 n]::l=>match numsOf l with
   | some ns=>some (n::ns)
   | none=>none
  | _=>none
theorem Zms:∀ {l:List (List AV)} {ns:List Int},r78f.numsOf l=some ns->l=nl ns
 | [],ns,h=>by cases h; rfl
 | e::l,ns,h=>by
  unfold r78f.numsOf at h
  split at h
  ·rename_i h0; cases h0
  ·rename_i n l' h0
   cases h0
   split at h
   ·rename_i ms hm
    cases h
    rw [Zms hm]; rfl
   ·cases h
  ·cases h
theorem d86 (n m:Int):PCall Tryz.prog 99 [I n,I m] ⟨Bo (small n m),[]⟩:=by
 have hk:PCOK Tryz.prog (ins 102 (fun a=>match a with
  | [.int .i64 n,.int .i64 lo,.int .i64 hi]=>some ⟨Bo (within n lo hi),[]⟩
  | _=>none) pt0):=Zi (fun a res h=>by split at h<;>cases h; exact d210 _ _ _) Zh
 refine bs.pv (sx:=nos) hk Tryz.func99 (by kernel_rfl) (by kernel_rfl) rfl ?_
 repeat'(first|refine wk3 ?_|(refine wk2 ?_ ?_<;>intro _)|refine wk4 ?_|fail);all_goals(conv=>whnf)
 exact Zc rfl
def rWu:List AV->Option PRes
 | [.int .i64 n,.int .i64 lo,.int .i64 hi]=>some ⟨Bo (within n lo hi),[]⟩
 | _=>none
def rUn:List AV->Option PRes
 | [.bool b,.int .i64 e]=>some ⟨I (unl b e),[]⟩
 | _=>none
def kI0:PC:=ins 55 r78f (ins 57 rUn (ins 102 rWu (ins 99 r92 k78)))
theorem Zqr:PCOK Tryz.prog kI0:=by
 refine Zi (fun a res h=>?_) (Zi (fun a res h=>?_) (Zi (fun a res h=>?_) (Zi (fun a res h=>?_) Zm4)))
 ·unfold r78f at h
  split at h
  ·split at h
   ·rename_i ns hn
    obtain ⟨h1,rfl⟩:=Xx h
    rw [Zms hn]
    exact d78 (by simpa [Nat.blt_eq] using h1)
   ·cases h
  ·cases h
 ·unfold rUn at h; split at h<;>cases h; exact d209 _ _
 ·unfold rWu at h; split at h<;>cases h; exact d210 _ _ _
 ·unfold r92 at h; split at h<;>cases h; exact d86 _ _
theorem Zw7 (p:Pth):pthE p=fstL [unl (decide (((p.ps.map hp4).length:Int)=((nl p.ss).length:Int))) 10,unl (decide (((nl p.ss).length:Int)<=4)) 8,unl (within p.sq 1 24300000000) 2]:=by
 have l1:(p.ps.map hp4).length=p.ps.length:=by simp
 rw [l1,Zr]
 unfold pthE fstL fstL fstL fstL unl
 by_cases c1:(p.ps.length:Int)=p.ss.length
 ·by_cases c2:4<(p.ss.length:Int)
  ·rw [if_pos c1,if_pos c2,decide_eq_true c1,decide_eq_false (by omega)]; rfl
  ·rw [if_pos c1,if_neg c2,decide_eq_true c1,decide_eq_true (by omega)]; cases within p.sq 1 24300000000<;>rfl
 ·rw [if_neg c1,decide_eq_false c1]; rfl
theorem d162 (p:Pth):PCall Tryz.prog 76 [p.av] ⟨I (pthE p),[]⟩:=by
 rw [Zw7]
 refine bs.pv (sx:=nos) Zqr Tryz.func76 (by kernel_rfl) (by kernel_rfl) rfl ?_
 repeat'(first|refine wk3 ?_|(refine wk2 ?_ ?_<;>intro _)|refine wk4 ?_|fail);all_goals(conv=>whnf)
 exact Za rfl
def spE (n:Int):Int:=unl (within n 30000 40000) 2
theorem d99s (n:Int):PCall Tryz.prog 77 [I n] ⟨I (spE n),[]⟩:=by
 refine bs.pv (sx:=nos) Zqr Tryz.func77 (by kernel_rfl) (by kernel_rfl) rfl ?_
 repeat'(first|refine wk3 ?_|(refine wk2 ?_ ?_<;>intro _)|refine wk4 ?_|fail);all_goals(conv=>whnf)
 exact Za rfl
theorem d44 (n:Int):PCall Tryz.prog 13 [I n] ⟨I (spE n),[]⟩:=by
 cases h:within n 30000 40000
 all_goals
  refine bs.pv (sx:=nos) Zm4 Tryz.func13 (by kernel_rfl) (by kernel_rfl) rfl ?_
  repeat'(first|refine wk3 ?_|(refine wk2 ?_ ?_<;>intro _)|refine wk4 ?_|fail);all_goals(conv=>whnf)
  all_goals first|exact Za (by unfold spE; rw [h]; rfl)|(exfalso; simp_all; done)
def cdv (n b:Int):Int:=-((-n) / b)
theorem Zzk {n b:Int} (hb:0<b):cdv n b=(n+b-1) / b:=by
 unfold cdv
 have h1:=Int.emod_add_mul_ediv (-n) b
 have h2:=Int.emod_nonneg (-n) (b:=b) (by omega)
 have h3:=Int.emod_lt_of_pos (-n) hb
 refine (((Ld hb (r:=b-1-(-n)%b)).2 ⟨?_,by omega,by omega⟩).1).symm
 rw [Rv]
 omega
def scV (lo hi n b:Int):Int × Int:=(lo*n / b,cdv (hi*n) b)
structure ScOk (lo hi n b:Int):Prop where
 b:0<b/\b<=1000000
 l:0<=lo*n/\lo*n<=4000000000000000000
 h:0<=hi*n/\hi*n<=4000000000000000000
theorem d102 {lo hi n b:Int} (k:ScOk lo hi n b):PCall Tryz.prog 136 [P2 lo hi,I n,I b] ⟨P2 (scV lo hi n b).1 (scV lo hi n b).2,[]⟩:=by
 obtain ⟨⟨b0,b1⟩,⟨l0,l1⟩,⟨h0,h1⟩⟩:=k
 have hz:¬ b=0:=by omega
 have w1:Qa Qb (lo*n)=lo*n:=W_eq (by omega) (by omega)
 have w2:Qa Qb (hi*n)=hi*n:=W_eq (by omega) (by omega)
 have q1:=Fm b l0
 have q2:=Jy l0 (show 0<=b by omega)
 have q3:=Fm b (show 0<=hi*n+b-1 by omega)
 have q4:=Jy (show 0<=hi*n+b-1 by omega) (show 0<=b by omega)
 refine bs.pv (sx:=nos) Zh Tryz.func136 (by kernel_rfl) (by kernel_rfl) rfl ?_
 repeat'(first|refine wk3 ?_|(refine wk2 ?_ ?_<;>intro _)|refine wk4 ?_|fail);all_goals(conv=>whnf)
 refine Zg ?_ rfl
 unfold scV
 rw [Zzk b0,w1,w2,W_eq (n:=hi*n+b) (by omega) (by omega),W_eq (n:=hi*n+b-1) (by omega) (by omega),Nb l0,Nb (show 0<=hi*n+b-1 by omega),W_eq (n:=lo*n / b) (by omega) (by omega),W_eq (n:=(hi*n+b-1) / b) (by omega) (by omega)]
noncomputable def delV (sq v:Int):Int × Int:=scV (lenV sq).1 (lenV sq).2 100 v
theorem spE_iff {n:Int}:spE n=0↔30000<=n/\n<=40000:=by
 rw [<-within_iff]
 unfold spE
 cases within n 30000 40000<;>simp [unl]
theorem Yck {sq v:Int} (h0:1<=sq) (h1:sq<=24300000000) (hv:spE v=0):ScOk (lenV sq).1 (lenV sq).2 100 v:=by
 obtain ⟨⟨g1,g2⟩,g3,g4⟩:=Zo2 h0 h1
 have:=spE_iff.1 hv
 exact ⟨by omega,by omega,by omega⟩
theorem Yd8 {sq v:Int} (h0:1<=sq) (h1:sq<=24300000000) (hv:spE v=0):0<=(delV sq v).1/\(delV sq v).1<=(delV sq v).2/\(delV sq v).2<=7200000:=by
 obtain ⟨⟨g1,g2⟩,g3,g4⟩:=Zo2 h0 h1
 have hv:=spE_iff.1 hv
 unfold delV scV
 dsimp only
 generalize (lenV sq).1=lo at *
 generalize (lenV sq).2=hi at *
 rw [Zzk (by omega)]
 refine ⟨Jy (by omega) (by omega),Fo (by omega) (by omega),?_⟩
 have:hi*100+v-1<=7200000*v:=by omega
 have:=Fo (show 0<v by omega) this
 rw [Int.mul_ediv_cancel _ (by omega)] at this
 exact this
theorem d100 {p:Pth} {v:Int} (h:pthE p=0) (hv:spE v=0):PCall Tryz.prog 78 [p.av,I v] ⟨P2 (delV p.sq v).1 (delV p.sq v).2,[]⟩:=by
 obtain ⟨_,s1,s2⟩:=Zmm h
 have h1:=Zd (d163 h) (Zd (d102 (Yck s1 s2 hv)) Zh)
 unfold delV
 generalize scV (lenV p.sq).1 (lenV p.sq).2 100 v=D at *
 generalize lenV p.sq=L at *
 refine bs.pv (sx:=nos) h1 Tryz.func78 (by kernel_rfl) (by kernel_rfl) rfl ?_
 repeat'(first|refine wk3 ?_|(refine wk2 ?_ ?_<;>intro _)|refine wk4 ?_|fail);all_goals(conv=>whnf)
 exact Zg rfl rfl
def okP (e:Int) (v:Int × Int):Int × Int:=if e=0 then v else (0,0)
noncomputable def deE (p:Pth) (v:Int):Int:=fstL [pthE p,spE v]
theorem fst_two {a b:Int}:fstL [a,b]=0↔a=0/\b=0:=by
 simp only [fstL]
 by_cases ha:a=0<;>by_cases hb:b=0<;>simp [ha,hb]
theorem d38 (p:Pth) (v:Int):PCall Tryz.prog 37 [p.av,I v] ⟨.tup [P2 (okP (deE p v) (delV p.sq v)).1 (okP (deE p v) (delV p.sq v)).2,I (deE p v)],[]⟩:=by
 have h1:=d162 p
 have h2:=d99s v
 by_cases c:deE p v=0
 ·obtain ⟨c1,c2⟩:=fst_two.1 c
  have h3:=Zd (d100 c1 c2) (Zd h1 (Zd h2 Zqr))
  rw [show okP (deE p v) (delV p.sq v)=delV p.sq v from if_pos c]
  unfold deE at c ⊢
  generalize delV p.sq v=D at *
  generalize pthE p=E at *
  generalize spE v=F at *
  rw [c]
  subst c1 c2
  refine bs.pv (sx:=nos) h3 Tryz.func37 (by kernel_rfl) (by kernel_rfl) rfl ?_
  repeat'(first|refine wk3 ?_|(refine wk2 ?_ ?_<;>intro _)|refine wk4 ?_|fail);all_goals(conv=>whnf)
  all_goals first|exact Zg rfl rfl|(exfalso; simp_all [fstL,unl]; done)
 ·have h3:=Zd h1 (Zd h2 Zqr)
  rw [show okP (deE p v) (delV p.sq v)=(0,0) from if_neg c]
  unfold deE at c ⊢
  generalize pthE p=E at *
  generalize spE v=F at *
  refine bs.pv (sx:=nos) h3 Tryz.func37 (by kernel_rfl) (by kernel_rfl) rfl ?_
  repeat'(first|refine wk3 ?_|(refine wk2 ?_ ?_<;>intro _)|refine wk4 ?_|fail);all_goals(conv=>whnf)
  all_goals first|exact Zg rfl rfl|(exfalso; simp_all [fstL,unl]; done)
def kI1:PC:=ins 39 rFl (ins 40 rCl k78)
theorem Ycp:PCOK Tryz.prog kI1:=by
 refine Zi (fun a res h=>?_) (Zi (fun a res h=>?_) Zm4)
 ·unfold rFl at h
  split at h
  ·obtain ⟨h1,rfl⟩:=Xx h; exact d95 (of_decide_eq_true h1)
  ·cases h
 ·unfold rCl at h
  split at h
  ·obtain ⟨h1,rfl⟩:=Xx h; exact d96 (of_decide_eq_true h1)
  ·cases h
theorem d45 {sq v:Int} (h0:1<=sq) (h1:sq<=24300000000) (hv:spE v=0):PCall Tryz.prog 14 [I sq,I v] ⟨P2 (delV sq v).1 (delV sq v).2,[]⟩:=by
 have h99:=d99 h0 h1
 obtain ⟨⟨g1,g2⟩,g3,g4⟩:=Zo2 h0 h1
 have hv:=spE_iff.1 hv
 have hk:=Zd h99 Ycp
 unfold delV scV cdv
 dsimp only
 generalize lenV sq=L at *
 obtain ⟨lo,hi⟩:=L
 dsimp only at *
 rw [Ra lo,Ra hi]
 have w1:Qa Qb (100*lo)=100*lo:=W_eq (by omega) (by omega)
 have w2:Qa Qb (100*hi)=100*hi:=W_eq (by omega) (by omega)
 have q1:=Yc9 (n:=Qa Qb (100*lo)) (b:=v) ⟨by omega,by omega,by omega⟩
 have q2:=Ydo (n:=Qa Qb (100*hi)) (b:=v) ⟨by omega,by omega,by omega⟩
 rw [<-w1,<-w2]
 refine bs.pv (sx:=nos) hk Tryz.func14 (by kernel_rfl) (by kernel_rfl) rfl ?_
 repeat'(first|refine wk3 ?_|(refine wk2 ?_ ?_<;>intro _)|refine wk4 ?_|fail);all_goals(conv=>whnf)
 exact Zg rfl rfl
def i64 (n:Int):Prop:=-9223372036854775808<=n/\n<=9223372036854775807
theorem Zte {a:Int} (h:i64 a):size a=Qa Qb (a.natAbs:Int):=by
 unfold size imax
 obtain ⟨h1,h2⟩:=h
 by_cases h3:a = -9223372036854775808
 ·subst h3; decide
 ·rw [W_eq (n:=0-a) (by omega) (by omega),W_eq (by omega) (by omega)]
  by_cases h4:a<0-a
  ·rw [decide_eq_true h4]; simp only [cond_true]; omega
  ·rw [decide_eq_false h4]; simp only [cond_false]; omega
theorem Zsc (a:Int):i64 (Qa Qb a):=by unfold i64; simp only [Sq]; omega
theorem Zqg {g:Nat} (h:g<=9223372036854775808):(Qa Qb (g:Int)).natAbs=g:=by
 by_cases h3:g=9223372036854775808
 ·subst h3; decide
 ·rw [W_eq (by omega) (by omega)]; simp
theorem Zp1 {a b:Int} (ha:i64 a) (hb:b≠0):i64 (a.tmod b):=by
 obtain ⟨h1,h2⟩:=ha
 have h3:(a.tmod b).natAbs<=a.natAbs:=by rw [Ns]; exact Nat.mod_le _ _
 have h4:0<=a->0<=a.tmod b:=fun h=>Da b h
 have h5:a<=0->a.tmod b<=0:=fun h=>by have:=Da b (a:=-a) (by omega); rw [Int.neg_tmod] at this; omega
 unfold i64
 omega
theorem Zqy {a b:Int}:Sw b.natAbs (a.tmod b).natAbs=Sw a.natAbs b.natAbs:=by
 rw [Ns,Nat.gcd_comm,<-Nat.gcd_rec,Nat.gcd_comm]
theorem c120 {a b:Int} (ha:i64 a) (hb:i64 b):PCall Tryz.prog 132 [I a,I b] ⟨I (Qa Qb ((Sw a.natAbs b.natAbs:Nat):Int)),[]⟩:=by
 refine bs.pv (sx:=nos) Zm2 Tryz.func132 (by kernel_rfl) (by kernel_rfl) rfl ?_
 generalize hG:Sw a.natAbs b.natAbs=G
 refine Zw (S:=Int × Int) (fun t=>t.2.natAbs) (fun t=>[(0,I t.1),(1,I t.2)]) (fun _=>[]) 0 0 (fun t=>(i64 t.1/\i64 t.2)/\Sw t.1.natAbs t.2.natAbs=G) (a,b) ⟨⟨ha,hb⟩,hG⟩ (Qf _) [] rfl (kps) (kps) ?_
 clear hG ha hb
 rintro ⟨a,b⟩ ⟨⟨ha,hb⟩,hG⟩
 dsimp only at ha hb hG ⊢
 refine bs.av (sx:=nos) Zm2 ?_
 by_cases h0:b=0
 ·subst h0
  repeat'(first|refine wk1 ?_|(refine wk2 ?_ ?_<;>intro _)|refine wk4 ?_|fail);all_goals(conv=>whnf)
  exact Za (by rw [Zte ha,<-hG]; simp)
 ·repeat'(first|refine wk1 ?_|(refine wk2 ?_ ?_<;>intro _)|refine wk4 ?_|fail);all_goals(conv=>whnf)
  exact Qn ⟨(b,a.tmod b),[],rfl,kps,kps,⟨⟨hb,Zp1 ha h0⟩,by rw [<-hG]; exact Zqy⟩,by
   show (a.tmod b).natAbs<b.natAbs
   rw [Ns]; exact Wu _ (by omega)⟩
def g4 (p:Pt):Nat:=Sw (Sw p.x.natAbs p.y.natAbs) (Sw p.z.natAbs p.d.natAbs)
structure Pt.wf (p:Pt):Prop where
 x:i64 p.x
 y:i64 p.y
 z:i64 p.z
 d:i64 p.d
theorem Zy9 {a b:Int} (ha:i64 a) (hb:i64 b):Sw a.natAbs b.natAbs<=9223372036854775808:=by
 obtain ⟨a1,a2⟩:=ha
 obtain ⟨b1,b2⟩:=hb
 by_cases h:a.natAbs=0
 ·rw [h,Kq]; omega
 ·exact Nat.le_trans (Nat.gcd_le_left _ (by omega)) (by omega)
theorem Yc4 {p:Pt} (hp:p.wf) (hd:0<p.d):0<g4 p/\(g4 p:Int)<=p.d:=by
 have h1:g4 p ∣ p.d.natAbs:=Nat.dvd_trans (Ov _ _) (Ov _ _)
 have h2:=Nat.le_of_dvd (by omega) h1
 have h3:0<g4 p:=Nat.pos_of_dvd_of_pos h1 (by omega)
 omega
def ptIn (p:Pt):Bool:=within p.x (-(5000*p.d)) (5000*p.d)&&within p.y (-(5000*p.d)) (5000*p.d)&&within p.z (-(5000*p.d)) (5000*p.d)
def Yu (p:Pt):Int:=if p.d<=0\/g4 p≠1 then 3 else if 100000<p.d then 2 else if ptIn p then 0 else 2
theorem Zds {p:Pt} (h:Yu p=0):0<p.d/\p.d<=100000/\g4 p=1/\ptIn p=true:=by
 unfold Yu at h
 split at h
 ·cases h
 ·rename_i h1
  split at h
  ·cases h
  ·split at h
   ·rename_i h3; exact ⟨by omega,by omega,by omega,h3⟩
   ·cases h
theorem Zkq (a b c d:Nat):Sw (Sw (Sw a b) c) d=Sw (Sw a b) (Sw c d):=by rw [Nat.gcd_assoc (Sw a b)]
def gl:Nat->List Int->Nat
 | g,[]=>g
 | g,n::l=>gl (Sw g n.natAbs) l
theorem c117 {ns:List Int} (hl:ns.length<1000) (hw:∀ n∈ns,i64 n):PCall Tryz.prog 197 [.isl 1 (nl ns)] ⟨I (Qa Qb ((gl 0 ns:Nat):Int)),[]⟩:=by
 have e3:=Zr ns
 refine bs.pv (sx:=nos) Zkk Tryz.func197 (by kernel_rfl) (by kernel_rfl) rfl ?_
 repeat'(first|refine wk1 ?_|(refine wk2 ?_ ?_<;>intro _)|refine wk4 ?_|fail);all_goals(conv=>whnf)
 refine Zw (S:=Nat × Int × Int) (fun t=>ns.length-t.1) (fun t=>[(3,I t.2.2),(6,.isl 1 (nl ns)),(7,I (nl ns).length),(8,I t.2.1)]) (fun _=>[]) 0 0 (fun t=>t.2.1=t.1/\t.1<=ns.length/\i64 t.2.2/\gl t.2.2.natAbs (ns.drop t.1)=gl 0 ns) (0,0,0) ⟨rfl,Qo _,(by unfold i64; decide),rfl⟩ (Qf _) [] rfl (kps) (kps) ?_
 rintro ⟨k,i,g⟩ ⟨hi,hk,hg,hh⟩
 dsimp only at hi hk hg hh ⊢
 subst hi
 refine bs.av (sx:=nos) Zkk ?_
 by_cases hlt:k<ns.length
 ·have e1:=Zar hlt
  have hn:=hw _ (List.getElem_mem hlt)
  rw [Qj hlt,gl] at hh
  repeat'(first|refine wk1 ?_|(refine wk2 ?_ ?_<;>intro _)|refine wk4 ?_|fail);all_goals(conv=>whnf)
  refine Zw (S:=Int × Int) (fun t=>t.2.natAbs) (fun t=>[(3,I t.1),(5,I t.2),(6,.isl 1 (nl ns)),(7,I (nl ns).length),(8,I k)]) (fun _=>[]) 0 0 (fun t=>(i64 t.1/\i64 t.2)/\Sw t.1.natAbs t.2.natAbs=Sw g.natAbs ns[k].natAbs) (g,ns[k]) ⟨⟨hg,hn⟩,rfl⟩ (Qf _) [] rfl (kps) (kps) ?_
  rintro ⟨a,b⟩ ⟨⟨ha,hb⟩,hG⟩
  dsimp only at ha hb hG ⊢
  refine bs.av (sx:=nos) Zkk ?_
  by_cases h0:b=0
  ·subst h0
   repeat'(first|refine wk1 ?_|(refine wk2 ?_ ?_<;>intro _)|refine wk4 ?_|fail);all_goals(conv=>whnf)
   exact Qn ⟨(k+1,_,a),[],rfl,kps,kps,⟨Zf (by omega),hlt,ha,by rw [<-hh,<-hG]; simp⟩,by dsimp only; omega⟩
  ·repeat'(first|refine wk1 ?_|(refine wk2 ?_ ?_<;>intro _)|refine wk4 ?_|fail);all_goals(conv=>whnf)
   exact Qn ⟨(b,a.tmod b),[],rfl,kps,kps,⟨⟨hb,Zp1 ha h0⟩,by rw [<-hG]; exact Zqy⟩,by
    show (a.tmod b).natAbs<b.natAbs
    rw [Ns]; exact Wu _ (by omega)⟩
 rw [Ql (by omega)] at hh
 repeat'(first|refine wk1 ?_|(refine wk2 ?_ ?_<;>intro _)|refine wk4 ?_|fail);all_goals(conv=>whnf)
 exact Za (by show size g=_; rw [Zte hg,<-hh]; rfl)
theorem Yag {d:Int} (h0:0<d) (h1:d<=100000):Qa Qb (5000*d)=5000*d/\Qa Qb (0-Qa Qb (5000*d)) = -(5000*d):=by
 have e:Qa Qb (5000*d)=5000*d:=W_eq (by omega) (by omega)
 refine ⟨e,?_⟩
 rw [e,W_eq (by omega) (by omega)]; omega
theorem c99 {p:Pt} (hp:p.wf):PCall Tryz.prog 154 [p.av] ⟨I (Yu p),[]⟩:=by
 have hc:=c117 (ns:=[p.x,p.y,p.z,p.d]) (by simp) (by
  intro n hn
  simp only [Qz,List.not_mem_nil,or_false] at hn
  rcases hn with rfl|rfl|rfl|rfl
  ·exact hp.x
  ·exact hp.y
  ·exact hp.z
  ·exact hp.d)
 have hg:gl 0 [p.x,p.y,p.z,p.d]=g4 p:=by
  simp only [gl,Kq]
  exact Zkq _ _ _ _
 rw [hg] at hc
 have hk:=Zd hc Ut
 by_cases h1:p.d<=0
 ·have e:Yu p=3:=by unfold Yu; rw [if_pos (.inl h1)]
  rw [e]
  refine bs.pv (sx:=nos) hk Tryz.func154 (by kernel_rfl) (by kernel_rfl) rfl ?_
  repeat'(first|refine wk1 ?_|(refine wk2 ?_ ?_<;>intro _)|refine wk4 ?_|fail);all_goals(conv=>whnf)
  exact Za rfl
 ·obtain ⟨g1,g2⟩:=Yc4 hp (by omega)
  have hd:=hp.d
  unfold i64 at hd
  have hw:Qa Qb ((g4 p:Nat):Int)=(g4 p:Nat):=W_eq (by omega) (by omega)
  rw [hw] at hk
  by_cases h2:g4 p=1
  ·rw [h2] at hk
   by_cases h3:100000<p.d
   ·have e:Yu p=2:=by unfold Yu; rw [if_neg (by omega),if_pos h3]
    rw [e]
    refine bs.pv (sx:=nos) hk Tryz.func154 (by kernel_rfl) (by kernel_rfl) rfl ?_
    repeat'(first|refine wk1 ?_|(refine wk2 ?_ ?_<;>intro _)|refine wk4 ?_|fail);all_goals(conv=>whnf)
    exact Za rfl
   ·obtain ⟨m1,m2⟩:=Yag (d:=p.d) (by omega) (by omega)
    have e:Yu p=if ptIn p then 0 else 2:=by unfold Yu; rw [if_neg (by omega),if_neg h3]
    have e2:∀ x,small x (Qa Qb (5000*p.d))=within x (-(5000*p.d)) (5000*p.d):=fun x=>by unfold small; rw [m2,m1]
    rw [e]
    unfold ptIn
    rw [<-e2,<-e2,<-e2]
    refine bs.pv (sx:=nos) hk Tryz.func154 (by kernel_rfl) (by kernel_rfl) rfl ?_
    repeat'(first|refine wk1 ?_|(refine wk2 ?_ ?_<;>intro _)|refine wk4 ?_|fail);all_goals(conv=>whnf)
    all_goals (clear hk hc m1 m2 e2)
    all_goals exact Za (by simp_all [unl])
  ·have e:Yu p=3:=by unfold Yu; rw [if_pos (.inr h2)]
   rw [e]
   have h4:(1:Int)<(g4 p:Nat):=by omega
   refine bs.pv (sx:=nos) hk Tryz.func154 (by kernel_rfl) (by kernel_rfl) rfl ?_
   repeat'(first|refine wk1 ?_|(refine wk2 ?_ ?_<;>intro _)|refine wk4 ?_|fail);all_goals(conv=>whnf)
   all_goals clear hk hc
   all_goals first
    | exact Za rfl
    | (exfalso; simp_all; done)
    | (exfalso; simp_all; omega)
noncomputable abbrev gcds:List AV->Option PRes:=famA (fun p:Int × Int=>i64 p.1/\i64 p.2) (fun p=>[I p.1,I p.2]) (fun p=>⟨I (Qa Qb ((Sw p.1.natAbs p.2.natAbs:Nat):Int)),[]⟩)
theorem Zlm {a b:Int} (ha:i64 a) (hb:i64 b):gcds [I a,I b]=some ⟨I (Qa Qb ((Sw a.natAbs b.natAbs:Nat):Int)),[]⟩ :=
 Zq (p:=fun p:Int × Int=>i64 p.1/\i64 p.2) (g:=fun p=>[I p.1,I p.2]) (r:=fun p=>⟨I (Qa Qb ((Sw p.1.natAbs p.2.natAbs:Nat):Int)),[]⟩) (k:=(a,b)) (fun j hj=>by
  simp only [Qv,Sj,true_and,and_true] at hj
  obtain ⟨h1,h2⟩:=hj
  dsimp only
  rw [h1,h2]) ⟨ha,hb⟩
noncomputable def kGc:PC:=ins 132 gcds kR1
theorem Ycq:PCOK Tryz.prog kGc:=Zu (fun p hp=>c120 hp.1 hp.2) Zm2
def insE (h:Hal) (p:Pt):Int:=if h.err=0 then Yu p else h.err
theorem Yaa {p:Pt} (h:Yu p=0):PtOk p.x p.y p.d:=by
 obtain ⟨h1,h2,_,h4⟩:=Zds h
 unfold ptIn at h4
 simp only [Qc,within_iff] at h4
 exact ⟨h1,by omega,by omega,by omega⟩
theorem c50 {h:Hal} (hk:h.ok) {p:Pt} (hp:p.wf):PCall Tryz.prog 100 [h.av,p.av] ⟨.tup [Bo (decide (insE h p=0)&&Zad h p),I (insE h p)],[]⟩:=by
 have hk0:=Zd (c76 hk) (Zd (c99 hp) Zh)
 by_cases he:h.err=0
 ·have hi:insE h p=Yu p:=by unfold insE; rw [if_pos he]
  rw [hi]
  by_cases hq:Yu p=0
  ·have hf:=Zlp hk he
   have e:Zad h p=Zsd h p.x p.y p.z p.d:=by
    unfold Zad Zsd
    rw [Vv hf.st p.z (Yaa hq)]
   have hk1:=Zd (c124 hk.f p.x p.y p.z p.d) hk0
   rw [hq,he] at hk1
   rw [hq,e]
   refine bs.pv (sx:=nos) hk1 Tryz.func100 (by kernel_rfl) (by kernel_rfl) rfl ?_
   repeat'(first|refine wk1 ?_|(refine wk2 ?_ ?_<;>intro _)|refine wk4 ?_|fail);all_goals(conv=>whnf)
   exact Zg (by simp) rfl
  ·rw [he] at hk0
   rw [decide_eq_false hq]
   refine bs.pv (sx:=nos) hk0 Tryz.func100 (by kernel_rfl) (by kernel_rfl) rfl ?_
   repeat'(first|refine wk1 ?_|(refine wk2 ?_ ?_<;>intro _)|refine wk4 ?_|fail);all_goals(conv=>whnf)
   exact Zg rfl rfl
 ·have hi:insE h p=h.err:=by unfold insE; rw [if_neg he]
  rw [hi,decide_eq_false he]
  refine bs.pv (sx:=nos) hk0 Tryz.func100 (by kernel_rfl) (by kernel_rfl) rfl ?_
  repeat'(first|refine wk1 ?_|(refine wk2 ?_ ?_<;>intro _)|refine wk4 ?_|fail);all_goals(conv=>whnf)
  exact Zg rfl rfl
abbrev Yda (h:Hal):Prop:=(9<h.ws.length/\h.ws.length<=12)\/14<h.ws.length\/14<h.cs.length\/4<h.ms.length\/2<h.ks.length\/3<h.ss.length
def Zkd (h:Hal):Bool:=Yg h.nm&&Yg h.fl&&Yg h.ce
def few2 (h:Hal):Bool:=(!decide (Yda h)&&Zkd h)&&(h.ws.all fewW&&(h.ms.all fewM&&(h.ks.all fewC&&h.ss.all fewS)))
theorem Ybb {h:Hal} (hb:few2 h=true):h.ok:=by
 unfold few2 Zkd at hb
 simp only [Qc,Ss,decide_eq_false_iff_not] at hb
 obtain ⟨⟨hL,⟨n1,n2⟩,n3⟩,m2,m1,m3,m4⟩:=hb
 have hL:¬ ((9<h.ws.length/\h.ws.length<=12)\/14<h.ws.length\/14<h.cs.length\/4<h.ms.length\/2<h.ks.length\/3<h.ss.length):=hL
 rw [List.all_eq_true] at m1 m2 m3 m4
 refine ⟨⟨by omega,by omega,by omega,by omega,by omega,fun c hc=>?_⟩,⟨Zbl n1,fun m hm=>Zbl (m1 m hm),fun m hm=>?_,fun m hm=>?_,fun m hm=>Zbl (m4 m hm)⟩⟩
 ·have:=m3 c hc
  unfold fewC at this
  simp only [Qc,Ss,decide_eq_false_iff_not] at this
  omega
 ·have:=m2 m hm
  unfold fewW at this
  simp only [Qc] at this
  exact Zbl this.1.1
 ·have:=m3 m hm
  unfold fewC at this
  simp only [Qc] at this
  exact Zbl this.1.1
theorem sh_n {s:ByteArray} (h:Yg s=true):¬ (20:Int)<(s.size:Int):=by
 unfold Yg at h
 simpa using h
theorem d80 (h:Hal):PCall Tryz.prog 23 [h.av] ⟨Bo (few2 h),[]⟩:=by
 have l1:=Zda h.ms
 have l2:(h.cs.map pt).length=h.cs.length:=by simp
 have l3:=Yd h.ws
 have l4:=Yt h.ks
 have l5:=Zc1 h.ss
 by_cases hP:Yda h
 ·have e0:few2 h=false:=by unfold few2; rw [decide_eq_true hP]; rfl
  rw [e0]
  clear e0
  have hP:(9<h.ws.length/\h.ws.length<=12)\/14<h.ws.length\/14<h.cs.length\/4<h.ms.length\/2<h.ks.length\/3<h.ss.length:=hP
  refine bs.pv (sx:=nos) Zh Tryz.func23 (by kernel_rfl) (by kernel_rfl) rfl ?_
  repeat'(first|refine wk3 ?_|(refine wk2 ?_ ?_<;>intro _)|refine wk4 ?_|fail);all_goals(conv=>whnf)
  all_goals first
   | exact Zc rfl
   | (exfalso; simp_all; omega)
 have hP' : ¬ ((9<h.ws.length/\h.ws.length<=12)\/14<h.ws.length\/14<h.cs.length\/4<h.ms.length\/2<h.ks.length\/3<h.ss.length):=hP
 have hw:h.ws.length<=9\/12<h.ws.length:=by omega
 unfold few2
 rw [decide_eq_false hP,Bool.not_false,Tx]
 clear hP
 by_cases hN:Zkd h=true
 rotate_left
 ·have hN:Zkd h=false:=by simpa using hN
  rw [hN,Bool.false_and]
  unfold Zkd at hN
  rcases hw with hw|hw
  all_goals
   refine bs.pv (sx:=nos) Zh Tryz.func23 (by kernel_rfl) (by kernel_rfl) rfl ?_
   repeat'(first|refine wk3 ?_|(refine wk2 ?_ ?_<;>intro _)|refine wk4 ?_|fail);all_goals(conv=>whnf)
  all_goals first
   | exact Zc rfl
   | (exfalso; simp_all [Yg]; done)
   | (exfalso; simp_all [Yg]; omega)
 rw [hN,Tx]
 unfold Zkd at hN
 simp only [Qc] at hN
 obtain ⟨⟨n1,n2⟩,n3⟩:=hN
 have n1:=sh_n n1
 have n2:=sh_n n2
 have n3:=sh_n n3
 generalize hE:(h.ws.all fewW&&(h.ms.all fewM&&(h.ks.all fewC&&h.ss.all fewS)))=R
 rcases hw with hw|hw
 all_goals
  refine bs.pv (sx:=nos) Zh Tryz.func23 (by kernel_rfl) (by kernel_rfl) rfl ?_
  repeat'(first|refine wk3 ?_|(refine wk2 ?_ ?_<;>intro _)|refine wk4 ?_|fail);all_goals(conv=>whnf)
  clear n1 n2 n3
  subst hE
  generalize hV:(h.ms.all fewM&&(h.ks.all fewC&&h.ss.all fewS))=V
  refine Zw (S:=Nat × Int) (fun t=>h.ws.length-t.1) (fun t=>[(1,.ptr 0 0 0),(2,Bo false),(3,I t.2)]) (fun _=>[(0,.row 9 [h.cells] true false)]) 1 1 (fun t=>t.2=t.1/\t.1<=h.ws.length/\((h.ws.drop t.1).all fewW&&V)=(h.ws.all fewW&&V)) (0,0) ⟨rfl,Qo _,rfl⟩ (Qf _) [] rfl (kps) (kps) ?_
  rintro ⟨k,i⟩ ⟨hi,hk,hh⟩
  dsimp only at hi hk hh ⊢
  subst hi
  generalize hB:(h.ws.all fewW&&V)=B at *
  clear hB
  refine bs.av (sx:=nos) Zh ?_
  by_cases hlt:k<h.ws.length
  ·clear hV
   have e1:=Zj2 hlt
   rw [Qj hlt,Nj] at hh
   generalize h.ws[k]=m at *
   have hm:∀ b,fewW m=b->(b&&(h.ws.drop (k+1)).all fewW&&V)=B:=fun b e=>by rw [<-e,Wx]; rw [Wx] at hh; exact hh
   clear hh
   repeat'(first|refine wk3 ?_|(refine wk2 ?_ ?_<;>intro _)|refine wk4 ?_|fail);all_goals(conv=>whnf)
   all_goals clear e1
   all_goals first
    | exact Zc (hm false (by clear hm; simp_all [fewW,Yg]; done))
    | exact Qn ⟨(k+1,_),[],rfl,kps,kps,⟨Zf (by omega),hlt,hm true (by clear hm; simp_all [fewW,Yg]; done)⟩,by dsimp only; omega⟩
  rw [Ql (by omega)] at hh
  have hh:V=B:=hh
  subst hh
  subst hV
  repeat'(first|refine wk3 ?_|(refine wk2 ?_ ?_<;>intro _)|refine wk4 ?_|fail);all_goals(conv=>whnf)
  clear hlt hk
  generalize hV:(h.ks.all fewC&&h.ss.all fewS)=V
  refine Zw (S:=Nat × Int) (fun t=>h.ms.length-t.1) (fun t=>[(1,.ptr 0 0 0),(2,Bo false),(4,I t.2)]) (fun _=>[(0,.row 9 [h.cells] true false)]) 1 1 (fun t=>t.2=t.1/\t.1<=h.ms.length/\((h.ms.drop t.1).all fewM&&V)=(h.ms.all fewM&&V)) (0,0) ⟨rfl,Qo _,rfl⟩ (Qf _) [] rfl (kps) (kps) ?_
  rintro ⟨k,i⟩ ⟨hi,hk,hh⟩
  dsimp only at hi hk hh ⊢
  subst hi
  generalize hB:(h.ms.all fewM&&V)=B at *
  clear hB
  refine bs.av (sx:=nos) Zh ?_
  by_cases hlt:k<h.ms.length
  ·clear hV
   have e1:=Zqh hlt
   rw [Qj hlt,Nj] at hh
   generalize h.ms[k]=m at *
   have hm:∀ b,fewM m=b->(b&&(h.ms.drop (k+1)).all fewM&&V)=B:=fun b e=>by rw [<-e,Wx]; rw [Wx] at hh; exact hh
   clear hh
   repeat'(first|refine wk3 ?_|(refine wk2 ?_ ?_<;>intro _)|refine wk4 ?_|fail);all_goals(conv=>whnf)
   all_goals clear e1
   all_goals first
    | exact Zc (hm false (by clear hm; simp_all [fewM,Yg]; done))
    | exact Qn ⟨(k+1,_),[],rfl,kps,kps,⟨Zf (by omega),hlt,hm true (by clear hm; simp_all [fewM,Yg]; done)⟩,by dsimp only; omega⟩
  rw [Ql (by omega)] at hh
  have hh:V=B:=hh
  subst hh
  subst hV
  repeat'(first|refine wk3 ?_|(refine wk2 ?_ ?_<;>intro _)|refine wk4 ?_|fail);all_goals(conv=>whnf)
  clear hlt hk
  generalize hV:h.ss.all fewS=V
  refine Zw (S:=Nat × Int) (fun t=>h.ks.length-t.1) (fun t=>[(1,.ptr 0 0 0),(2,Bo false),(5,I t.2)]) (fun _=>[(0,.row 9 [h.cells] true false)]) 1 1 (fun t=>t.2=t.1/\t.1<=h.ks.length/\((h.ks.drop t.1).all fewC&&V)=(h.ks.all fewC&&V)) (0,0) ⟨rfl,Qo _,rfl⟩ (Qf _) [] rfl (kps) (kps) ?_
  rintro ⟨k,i⟩ ⟨hi,hk,hh⟩
  dsimp only at hi hk hh ⊢
  subst hi
  generalize hB:(h.ks.all fewC&&V)=B at *
  clear hB
  refine bs.av (sx:=nos) Zh ?_
  by_cases hlt:k<h.ks.length
  ·clear hV
   have e1:=Zbb hlt
   rw [Qj hlt,Nj] at hh
   generalize h.ks[k]=m at *
   have e9:=Zr m.hs
   have hm:∀ b,fewC m=b->(b&&(h.ks.drop (k+1)).all fewC&&V)=B:=fun b e=>by rw [<-e,Wx]; rw [Wx] at hh; exact hh
   clear hh
   repeat'(first|refine wk3 ?_|(refine wk2 ?_ ?_<;>intro _)|refine wk4 ?_|fail);all_goals(conv=>whnf)
   all_goals clear e1
   all_goals first
    | exact Zc (hm false (by clear hm; simp_all [fewC,Yg]; done))
    | exact Qn ⟨(k+1,_),[],rfl,kps,kps,⟨Zf (by omega),hlt,hm true (by clear hm; simp_all [fewC,Yg]; done)⟩,by dsimp only; omega⟩
  rw [Ql (by omega)] at hh
  have hh:V=B:=hh
  subst hh
  subst hV
  repeat'(first|refine wk3 ?_|(refine wk2 ?_ ?_<;>intro _)|refine wk4 ?_|fail);all_goals(conv=>whnf)
  clear hlt hk
  refine Zw (S:=Nat × Int) (fun t=>h.ss.length-t.1) (fun t=>[(1,.ptr 0 0 0),(2,Bo false),(6,I t.2)]) (fun _=>[(0,.row 9 [h.cells] true false)]) 1 1 (fun t=>t.2=t.1/\t.1<=h.ss.length/\((h.ss.drop t.1).all fewS)=(h.ss.all fewS)) (0,0) ⟨rfl,Qo _,rfl⟩ (Qf _) [] rfl (kps) (kps) ?_
  rintro ⟨k,i⟩ ⟨hi,hk,hh⟩
  dsimp only at hi hk hh ⊢
  subst hi
  generalize hB:(h.ss.all fewS)=B at *
  clear hB
  refine bs.av (sx:=nos) Zh ?_
  by_cases hlt:k<h.ss.length
  ·have e1:=Zp9 hlt
   rw [Qj hlt,Nj] at hh
   generalize h.ss[k]=m at *
   have hm:∀ b,fewS m=b->(b&&(h.ss.drop (k+1)).all fewS)=B:=fun b e=>by rw [<-e]; exact hh
   clear hh
   repeat'(first|refine wk3 ?_|(refine wk2 ?_ ?_<;>intro _)|refine wk4 ?_|fail);all_goals(conv=>whnf)
   all_goals clear e1
   all_goals first
    | exact Zc (hm false (by clear hm; simp_all [fewS,Yg]; done))
    | exact Qn ⟨(k+1,_),[],rfl,kps,kps,⟨Zf (by omega),hlt,hm true (by clear hm; simp_all [fewS,Yg]; done)⟩,by dsimp only; omega⟩
  rw [Ql (by omega)] at hh
  repeat'(first|refine wk3 ?_|(refine wk2 ?_ ?_<;>intro _)|refine wk4 ?_|fail);all_goals(conv=>whnf)
  exact Zc hh
def few3 (h:Hal) (s:Stg):Bool:=few2 h&&(decide (s.hs.length<=4)&&decide (s.dr.length<=10))
theorem Yba {h:Hal} {s:Stg} (r:few3 h s=true):h.ok/\s.few:=by
 unfold few3 at r
 simp only [Qc,decide_eq_true_eq] at r
 exact ⟨Ybb r.1,by omega,by omega⟩
theorem d90 {h:Hal} (hk:h.ok):PCall Tryz.prog 30 [h.av] ⟨I h.err,[]⟩:=by
 refine bs.pv (sx:=nos) (Zd (c65k hk) Zh) Tryz.func30 (by kernel_rfl) (by kernel_rfl) rfl ?_
 repeat'(first|refine wk3 ?_|(refine wk2 ?_ ?_<;>intro _)|refine wk4 ?_|fail);all_goals(conv=>whnf)
 exact Za rfl
noncomputable abbrev cHas (h:Hal):List AV->Option PRes:=famA (fun _:Int=>True) (fun i=>[h.av,I i]) (fun i=>⟨Bo (within i 0 (nsur h-1)),[]⟩)
theorem Yaw (h:Hal) (i:Int):cHas h [h.av,I i]=some ⟨Bo (within i 0 (nsur h-1)),[]⟩ :=
 Zq (p:=fun _:Int=>True) (g:=fun i=>[h.av,I i]) (r:=fun i=>⟨Bo (within i 0 (nsur h-1)),[]⟩) (fun j hj=>by
  simp only [Qv,Sj,true_and,and_true] at hj
  rw [hj]) trivial
def nsN (h:Hal):Nat:=h.ws.length+2+h.ks.length
theorem Zim (h:Hal):(nsN h:Int)=nsur h:=by unfold nsN nsur; omega
theorem Zp2 (h:Hal):(sl (surf h)).length=nsN h:=by
 rw [Zia]; unfold surf Ze8 Zfm nsN; simp; omega
def prvL (l:List Int):Nat->Option Int
 | 0=>none
 | k+1=>l[k]?
def wkG (n:Int):Option Int->List Int->Int
 | _,[]=>0
 | q,x::l=>if within x 0 n then (if q=some x then 26 else wkG n (some x) l) else 6
theorem Zwg {n:Int} {l:List Int} {k:Nat} (hk:k<l.length):wkG n (prvL l k) (l.drop k)=if within l[k] 0 n then (if prvL l k=some l[k] then 26 else wkG n (prvL l (k+1)) (l.drop (k+1))) else 6:=by
 rw [Qj hk,wkG,show prvL l (k+1)=some l[k] by rw [prvL,Qg hk]]
def suE (h:Hal) (l:List Int):Int:=if 4<(l.length:Int) then 8 else wkG (nsur h-1) none l
theorem Zym {n:Int}:∀ {l:List Int} {q:Option Int},wkG n q l=0->∀ x∈l,0<=x/\x<=n
 | [],_,_,x,hx=>by simp at hx
 | y::l,q,h,x,hx=>by
  rw [wkG] at h
  split at h
  ·rename_i c
   split at h
   ·cases h
   ·rw [Qz] at hx
    rcases hx with rfl|hx
    ·exact within_iff.1 c
    ·exact Zym h x hx
  ·cases h
theorem d165 {h:Hal} (hk:h.ok) (he:h.err=0) (l:List Int) (hl:l.length<1000):PCall Tryz.prog 62 [h.av,.isl 1 (nl l)] ⟨I (suE h l),[]⟩:=by
 have l2:=Zr l
 have h64:=c64 hk
 rw [he,if_pos rfl] at h64
 have l3:=Zp2 h
 have hn:=Zim h
 have hf:=hk.f
 have hnb:nsN h<10000:=by obtain ⟨f1,f2,f3,f4,f5,f6⟩:=hf; unfold nsN; omega
 have hk:=Zd h64 (Zi (f0:=102) (r:=rWu) (fun a res h=>by unfold rWu at h; split at h<;>cases h; exact d210 _ _ _) Zh)
 unfold suE
 by_cases c:4<(l.length:Int)
 ·rw [if_pos c]
  refine bs.pv (sx:=nos) Zh Tryz.func62 (by kernel_rfl) (by kernel_rfl) rfl ?_
  repeat'(first|refine wk3 ?_|(refine wk2 ?_ ?_<;>intro _)|refine wk4 ?_|fail);all_goals(conv=>whnf)
  exact Za rfl
 rw [if_neg c]
 have w0:Qa Qb (((sl (surf h)).length:Int)-1)=nsur h-1:=by rw [l3,W_eq (by omega) (by omega)]; omega
 rw [<-w0]
 refine bs.pv (sx:=nos) hk Tryz.func62 (by kernel_rfl) (by kernel_rfl) rfl ?_
 repeat'(first|refine wk3 ?_|(refine wk2 ?_ ?_<;>intro _)|refine wk4 ?_|fail);all_goals(conv=>whnf)
 refine Zw (S:=Nat × Int) (fun t=>l.length-t.1) (fun t=>[(1,.isl 1 (nl l)),(5,.isl 1 (sl (surf h))),(17,.isl 1 (nl l)),(18,I (nl l).length),(19,I t.2)]) (fun _=>[]) 1 1 (fun t=>t.2=t.1/\t.1<=l.length/\wkG (Qa Qb (((sl (surf h)).length:Int)-1)) (prvL l t.1) (l.drop t.1)=wkG (Qa Qb (((sl (surf h)).length:Int)-1)) none l) (0,0) ⟨rfl,Qo _,rfl⟩ (Qf _) [] rfl (kps) (kps) ?_
 rintro ⟨k,i⟩ ⟨hi,hk1,hh⟩
 dsimp only at hi hk1 hh ⊢
 subst hi
 generalize wkG (Qa Qb (((sl (surf h)).length:Int)-1)) none l=R at *
 refine bs.av (sx:=nos) hk ?_
 by_cases hlt:k<l.length
 ·have e1:=Zar hlt
  rw [Zwg hlt] at hh
  cases k with
  | zero =>
   rw [show prvL l 0=none from rfl] at hh
   rw [if_neg (c:=none=some l[0]) (by simp)] at hh
   generalize l[0]=x at *
   cases hw:within x 0 (Qa Qb (((sl (surf h)).length:Int)-1))
   ·rw [hw] at hh
    have hh:(6:Int)=R:=hh
    subst hh
    repeat'(first|refine wk3 ?_|(refine wk2 ?_ ?_<;>intro _)|refine wk4 ?_|fail);all_goals(conv=>whnf)
    all_goals first
     | exact Za rfl
     | (exfalso; simp_all; done)
   ·rw [hw,if_pos rfl] at hh
    repeat'(first|refine wk3 ?_|(refine wk2 ?_ ?_<;>intro _)|refine wk4 ?_|fail);all_goals(conv=>whnf)
    all_goals first
     | exact Qn ⟨(1,_),[],rfl,kps,kps,⟨Zf (k:=0) (by omega),hlt,hh⟩,by dsimp only; omega⟩
     | (exfalso; simp_all; done)
  | succ k =>
   have w:Qa Qb (((k+1:Nat):Int)-1)=(k:Int):=by rw [W_eq (by omega) (by omega)]; omega
   have hlt' : k<l.length:=by omega
   have e2:(nl l)[(Qa Qb (((k+1:Nat):Int)-1)).toNat]?=some [I l[k]]:=by rw [w]; exact Zar hlt'
   rw [show prvL l (k+1)=some l[k] by rw [prvL,Qg hlt']] at hh
   generalize l[k+1]=x at *
   generalize l[k]=y at *
   cases hw:within x 0 (Qa Qb (((sl (surf h)).length:Int)-1))
   ·rw [hw] at hh
    have hh:(6:Int)=R:=hh
    subst hh
    repeat'(first|refine wk3 ?_|(refine wk2 ?_ ?_<;>intro _)|refine wk4 ?_|fail);all_goals(conv=>whnf)
    all_goals first
     | exact Za rfl
     | (exfalso; simp_all; done)
   ·rw [hw,if_pos rfl] at hh
    by_cases hxy:x=y
    ·rw [if_pos (by rw [hxy])] at hh
     subst hh
     repeat'(first|refine wk3 ?_|(refine wk2 ?_ ?_<;>intro _)|refine wk4 ?_|fail);all_goals(conv=>whnf)
     all_goals first
      | exact Za rfl
      | (exfalso; simp_all; done)
    ·rw [if_neg (fun c=>hxy (by simpa using c.symm))] at hh
     repeat'(first|refine wk3 ?_|(refine wk2 ?_ ?_<;>intro _)|refine wk4 ?_|fail);all_goals(conv=>whnf)
     all_goals first
      | exact Qn ⟨(k+1+1,_),[],rfl,kps,kps,⟨Zf (k:=k+1) (by omega),hlt,hh⟩,by dsimp only; omega⟩
      | (exfalso; simp_all; done)
 ·rw [Ql (by omega),wkG] at hh
  repeat'(first|refine wk3 ?_|(refine wk2 ?_ ?_<;>intro _)|refine wk4 ?_|fail);all_goals(conv=>whnf)
  exact Za hh
theorem d103 {ns:List Int} (h0:0<ns.length) (hl:ns.length<100000):PCall Tryz.prog 92 [.isl 1 (nl ns)] ⟨.asl 0 0 (nl ns).length,[(1,nl ns)]⟩:=by
 obtain ⟨x,l,rfl⟩:=Mu h0
 have h1:=Zmq (x::l)
 have h2:=Zr (x::l)
 refine bs.pv (sx:=nos) Zh Tryz.func92 (by kernel_rfl) (by kernel_rfl) rfl ?_
 repeat'(first|refine wk3 ?_|(refine wk2 ?_ ?_<;>intro _)|refine wk4 ?_|fail);all_goals(conv=>whnf)
 refine Yp [1] rfl ?_ rfl
 show Dy 1 0 (0+(nl (x::l)).length)=Dy 1 0 (nl (x::l)).length
 rw [Rw]
theorem w103 (a:Option Addr) (cap:Nat) (w:World):Calls Tryz.prog 92 #[.slice a 0 cap] w fun e w'=>∃ a' cap',e = .returned (.slice a' 0 cap')/\RowKit.Below w.heap.size w w':=by
 have e:∀ w:World,Sem.run Tryz.prog (binOp BinOp.eql 29 (Ny a 0 cap) (Ny none 0 0)) w = .ok (.bool a.isNone) w:=by
  intro w
  cases a<;>rfl
 cases a with
 | none =>
  simp only [Kv] at e
  go_enter Tryz.func92,Tryz.ntmps92
  go_wp2
  go_ret
  exact ⟨_,_,rfl,Gy _ _⟩
 | some a =>
  simp only [Kv] at e
  go_enter Tryz.func92,Tryz.ntmps92
  go_wp2
  go_ret
  exact ⟨_,_,rfl,Zje _ _⟩
theorem Yec:PCall Tryz.prog 92 [.isl 1 []] ⟨.isl 1 [],[]⟩:=Zmo (FnOK.of Tryz.func92 (by kernel_rfl) (by kernel_rfl)) w103
theorem Zmr (l:List (Int × Int × Int × Int)):Vl (l.map hp4)=true:=by simp [Vl,AV.one]
theorem d104 {ps:List (Int × Int × Int × Int)} (h0:0<ps.length) (hl:ps.length<100000):PCall Tryz.prog 115 [.isl 4 (ps.map hp4)] ⟨.asl 0 0 (ps.map hp4).length,[(4,ps.map hp4)]⟩:=by
 obtain ⟨x,l,rfl⟩:=Mu h0
 have h1:=Zmr (x::l)
 have h2:((x::l).map hp4).length=(x::l).length:=by simp
 refine bs.pv (sx:=nos) Zh Tryz.func115 (by kernel_rfl) (by kernel_rfl) rfl ?_
 repeat'(first|refine wk3 ?_|(refine wk2 ?_ ?_<;>intro _)|refine wk4 ?_|fail);all_goals(conv=>whnf)
 refine Yp [1] rfl ?_ rfl
 show Dy 1 0 (0+((x::l).map hp4).length)=Dy 1 0 ((x::l).map hp4).length
 rw [Rw]
theorem w104 (a:Option Addr) (cap:Nat) (w:World):Calls Tryz.prog 115 #[.slice a 0 cap] w fun e w'=>∃ a' cap',e = .returned (.slice a' 0 cap')/\RowKit.Below w.heap.size w w':=by
 have e:∀ w:World,Sem.run Tryz.prog (binOp BinOp.eql 60 (Ny a 0 cap) (Ny none 0 0)) w = .ok (.bool a.isNone) w:=by
  intro w
  cases a<;>rfl
 cases a with
 | none =>
  simp only [Kv] at e
  go_enter Tryz.func115,Tryz.ntmps115
  go_wp2
  go_ret
  exact ⟨_,_,rfl,Gy _ _⟩
 | some a =>
  simp only [Kv] at e
  go_enter Tryz.func115,Tryz.ntmps115
  go_wp2
  go_ret
  exact ⟨_,_,rfl,Zje _ _⟩
theorem Yea:PCall Tryz.prog 115 [.isl 4 []] ⟨.isl 4 [],[]⟩:=Zmo (FnOK.of Tryz.func115 (by kernel_rfl) (by kernel_rfl)) w104
abbrev Pl3:=Int × Int × Int
def plcB (x y z:Int):Bool:=within x (-5000) 5000&&within y (-5000) 5000&&within z (-5000) 5000
def plaE (h:Hal) (x y z:Int):Int:=if plcB x y z=true then unl (Zad h ⟨x,y,z,1⟩) 24 else 2
theorem d123 (x y z:Int):PCall Tryz.prog 101 [P3 x y z] ⟨P4 x y z 1,[]⟩:=by
 refine bs.pv (sx:=nos) Zh Tryz.func101 (by kernel_rfl) (by kernel_rfl) rfl ?_
 repeat'(first|refine wk3 ?_|(refine wk2 ?_ ?_<;>intro _)|refine wk4 ?_|fail);all_goals(conv=>whnf)
 all_goals exact Zg rfl rfl
theorem d83 (n:Int):PCall Tryz.prog 66 [I n] ⟨Bo (within n (-5000) 5000),[]⟩:=by
 refine bs.pv (sx:=nos) (Zd (c30 n (-5000) 5000) Zh) Tryz.func66 (by kernel_rfl) (by kernel_rfl) rfl ?_
 repeat'(first|refine wk3 ?_|(refine wk2 ?_ ?_<;>intro _)|refine wk4 ?_|fail);all_goals(conv=>whnf)
 exact Zc rfl
theorem d81 (n:Int):PCall Tryz.prog 58 [I n] ⟨I (unl (within n 0 4) 2),[]⟩:=by
 refine bs.pv (sx:=nos) (Zd (d210 n 0 4) (Zd (d209 (within n 0 4) 2) Zh)) Tryz.func58 (by kernel_rfl) (by kernel_rfl) rfl ?_
 repeat'(first|refine wk3 ?_|(refine wk2 ?_ ?_<;>intro _)|refine wk4 ?_|fail);all_goals(conv=>whnf)
 exact Za rfl
theorem d68 (n:Int):PCall Tryz.prog 33 [I n] ⟨I (unl (within n 0 4) 2),[]⟩:=by
 refine bs.pv (sx:=nos) (Zd (c30 n 0 4) Zh) Tryz.func33 (by kernel_rfl) (by kernel_rfl) rfl ?_
 repeat'(first|refine wk3 ?_|(refine wk2 ?_ ?_<;>intro _)|refine wk4 ?_|fail);all_goals(conv=>whnf)
 all_goals exact Za (by simp_all [unl])
theorem Zp5 (n:Int):small n 5000=within n (-5000) 5000:=rfl
theorem Ycg {x y z:Int} (c:plcB x y z=true):Yu ⟨x,y,z,1⟩=0:=by
 simp only [plcB,Qc,within_iff] at c
 have hg:g4 ⟨x,y,z,1⟩=1:=by
  simp [g4]
 unfold Yu
 rw [if_neg (by simp [hg]),if_neg (by simp),if_pos]
 unfold ptIn
 simp only [Qc,within_iff]
 simp
 omega
def r86:List AV->Option PRes
 | [.int .i64 n,.int .i64 m]=>some ⟨Bo (small n m),[]⟩
 | _=>none
theorem Yb4 {pt:PC} (h:PCOK Tryz.prog pt):PCOK Tryz.prog (ins 99 r86 pt):=Zi (fun a res h=>by unfold r86 at h; split at h<;>cases h; exact d86 _ _) h
def r83:List AV->Option PRes
 | [.int .i64 n]=>some ⟨Bo (within n (-5000) 5000),[]⟩
 | _=>none
theorem Yb6 {pt:PC} (h:PCOK Tryz.prog pt):PCOK Tryz.prog (ins 66 r83 pt):=Zi (fun a res h=>by unfold r83 at h; split at h<;>cases h; exact d83 _) h
theorem d79 {h:Hal} (hk:h.ok) (he:h.err=0) (x y z:Int):PCall Tryz.prog 56 [h.av,P3 x y z] ⟨I (plaE h x y z),[]⟩:=by
 have hk0:=Yb4 (Zd (d123 x y z) Zh)
 by_cases c:plcB x y z=true
 ·have hp:=Ycg c
  have hi:insE h ⟨x,y,z,1⟩=0:=by unfold insE; rw [if_pos he,hp]
  have hw:Pt.wf ⟨x,y,z,1⟩:=by
   simp only [plcB,Qc,within_iff] at c
   refine ⟨⟨?_,?_⟩,⟨?_,?_⟩,⟨?_,?_⟩,⟨?_,?_⟩⟩<;>dsimp only<;>omega
  have h50:=c50 hk hw
  rw [hi] at h50
  unfold plaE
  rw [if_pos c]
  generalize Zad h ⟨x,y,z,1⟩=b at *
  have hk1:=Zd h50 (Zd (d209 b 24) hk0)
  simp only [plcB,Qc,<-Zp5] at c
  refine bs.pv (sx:=nos) hk1 Tryz.func56 (by kernel_rfl) (by kernel_rfl) rfl ?_
  repeat'(first|refine wk3 ?_|(refine wk2 ?_ ?_<;>intro _)|refine wk4 ?_|fail);all_goals(conv=>whnf)
  all_goals first
   | exact Za rfl
   | (exfalso; clear hk1 h50 hk0 hp hi; simp_all; done)
 ·unfold plaE
  rw [if_neg c]
  simp only [plcB,<-Zp5] at c
  refine bs.pv (sx:=nos) hk0 Tryz.func56 (by kernel_rfl) (by kernel_rfl) rfl ?_
  repeat'(first|refine wk3 ?_|(refine wk2 ?_ ?_<;>intro _)|refine wk4 ?_|fail);all_goals(conv=>whnf)
  all_goals first
   | exact Za rfl
   | (exfalso; clear hk0; simp_all; done)
theorem d27 {h:Hal} (hk:h.ok) (he:h.err=0) (x y z:Int):PCall Tryz.prog 32 [h.av,P3 x y z] ⟨I (plaE h x y z),[]⟩:=by
 have hf:=Zlp hk he
 have hk0:=Zd (c52 hk.f hf.le.2.2.1 (Ztx hf.st) ⟨x,y,z,1⟩) (Yb6 (Zd (c36 x y z) Zh))
 unfold plaE plcB
 generalize Zad h ⟨x,y,z,1⟩=b at *
 refine bs.pv (sx:=nos) hk0 Tryz.func32 (by kernel_rfl) (by kernel_rfl) rfl ?_
 repeat'(first|refine wk3 ?_|(refine wk2 ?_ ?_<;>intro _)|refine wk4 ?_|fail);all_goals(conv=>whnf)
 all_goals clear hk0
 all_goals exact Za (by simp_all [unl])
theorem c113 (k:Int) (p:Pt):PCall Tryz.prog 193 [I k,p.av] ⟨I (offN k p.x p.y p.z),[]⟩:=by
 refine bs.pv (sx:=nos) Zh Tryz.func193 (by kernel_rfl) (by kernel_rfl) rfl ?_
 repeat'(first|refine wk0 ?_|(refine wk2 ?_ ?_<;>intro _)|refine wk4 ?_|fail);all_goals(conv=>whnf)
 all_goals exact Za (by simp_all [offN])
def Zl1 (h:Hal) (w:Wl) (p:Pt):Bool:=!(decide (p.z<=0)||decide (Qa Qb (h.ht*p.d)<=p.z))&&(if w.fx=w.tx then decide (Qa Qb (imin w.fy w.ty*p.d)<p.y)&&decide (p.y<Qa Qb (imax w.fy w.ty*p.d)) else decide (Qa Qb (imin w.fx w.tx*p.d)<p.x)&&decide (p.x<Qa Qb (imax w.fx w.tx*p.d)))
def Za1 (h:Hal) (i:Int) (p:Pt):Bool:=if i<h.ws.length then Zl1 h (wlOf h.cs i.toNat) p else if i<(h.ws.length:Int)+2 then Ye h p.x p.y p.d else (kat h i).rc.holds p.x p.y p.d
theorem Zgb {h:Hal} {k:Nat} {p:Pt} (hk:k<h.ws.length):Za1 h k p=Zl1 h (wlOf h.cs k) p:=by unfold Za1; rw [if_pos (by omega)]; rfl
theorem Zen {h:Hal} {p:Pt}:Za1 h h.ws.length p=Ye h p.x p.y p.d:=by unfold Za1; rw [if_neg (by omega),if_pos (by omega)]
theorem Zgc {h:Hal} {p:Pt}:Za1 h ((h.ws.length:Int)+1) p=Ye h p.x p.y p.d:=by unfold Za1; rw [if_neg (by omega),if_pos (by omega)]
theorem Zh0 {h:Hal} {j:Nat} {p:Pt} (hj:j<h.ks.length):Za1 h ((h.ws.length:Int)+2+j) p=h.ks[j].rc.holds p.x p.y p.d:=by unfold Za1; rw [if_neg (by omega),if_neg (by omega),Zqo hj]
theorem c118 {h:Hal} {s:Stg} (g:Sit h s) {i:Int} (hi:SK h i) (p:Pt):PCall Tryz.prog 198 [.agg (stgL h s),I i,p.av] ⟨Bo (Za1 h i p),[]⟩:=by
 have f3:=g.ok.f.2.2.1
 have f4:=g.ok.f.2.2.2.1
 have hk0:=Zd (c87 g.ok.f s hi) (Zd (c183 g.ok.f p.x p.y p.d) (Yco g))
 cases hi with
 | wall k hk =>
  have hk2:k<h.cs.length:=by have:=g.fine.le; omega
  rw [Zgb hk]
  obtain ⟨v1,v2⟩:=Zlx (h:=h) (i:=k) (by omega)
  rw [v1,v2] at hk0
  have hk1:=Zd (Ybp g.ok.f hk2) hk0
  generalize wlOf h.cs k=w at *
  refine bs.pv (sx:=nos) hk1 Tryz.func198 (by kernel_rfl) (by kernel_rfl) rfl ?_
  repeat'(first|refine wk0 ?_|(refine wk2 ?_ ?_<;>intro _)|refine wk4 ?_|fail);all_goals(conv=>whnf)
  all_goals clear hk0 hk1
  all_goals first
   | (exfalso; rename_i hx; have hx:=of_decide_eq_true (show decide ((k:Int)=(h.ws.length:Int)+1)=true from hx); omega)
   | (exfalso; rename_i hx; have hx:=of_decide_eq_true (show decide ((k:Int)=(h.ws.length:Int))=true from hx); omega)
   | (refine Zc ?_; simp_all [Zl1]; done)
   | (refine Zc ?_; simp_all [Zl1]; intro _; omega)
   | (exfalso; simp_all; omega)
 | floor =>
  rw [Zen]
  obtain ⟨v1,v2⟩:=Zlx (h:=h) (i:=h.ws.length) (by omega)
  rw [v1,v2] at hk0
  refine bs.pv (sx:=nos) hk0 Tryz.func198 (by kernel_rfl) (by kernel_rfl) rfl ?_
  repeat'(first|refine wk1 ?_|(refine wk2 ?_ ?_<;>intro _)|refine wk4 ?_|fail);all_goals(conv=>whnf)
  exact Zc rfl
 | ceil =>
  rw [Zgc]
  obtain ⟨v1,v2⟩:=Zlx (h:=h) (i:=(h.ws.length:Int)+1) (by omega)
  rw [v1,v2] at hk0
  refine bs.pv (sx:=nos) hk0 Tryz.func198 (by kernel_rfl) (by kernel_rfl) rfl ?_
  repeat'(first|refine wk1 ?_|(refine wk2 ?_ ?_<;>intro _)|refine wk4 ?_|fail);all_goals(conv=>whnf)
  ·exact Zc rfl
  all_goals (exfalso; simp_all; done)
 | can j hj =>
  rw [Zh0 hj]
  obtain ⟨v1,v2⟩:=Zx7 hj
  rw [v1,v2] at hk0
  generalize h.ks[j]=c at *
  have hk1:=Zd (c193 c.rc p.x p.y p.d) hk0
  refine bs.pv (sx:=nos) hk1 Tryz.func198 (by kernel_rfl) (by kernel_rfl) rfl ?_
  repeat'(first|refine wk1 ?_|(refine wk2 ?_ ?_<;>intro _)|refine wk4 ?_|fail);all_goals(conv=>whnf)
  exact Zc rfl
def Zsz (c:Can) (p:Pt):Bool:=Zey c p && !decide (p.x=Qa Qb (c.fx*p.d)) && !decide (p.x=Qa Qb (c.tx*p.d)) && !decide (p.y=Qa Qb (c.fy*p.d)) && !decide (p.y=Qa Qb (c.ty*p.d))
theorem c194 (c:Can) (p:Pt):PCall Tryz.prog 211 [.agg c.av,p.av] ⟨Bo (Zsz c p),[]⟩:=by
 have hk0:=Zd (c191 c p) Zh
 refine bs.pv (sx:=nos) hk0 Tryz.func211 (by kernel_rfl) (by kernel_rfl) rfl ?_
 unfold Zsz
 cases hb:Zey c p with
 | false =>
  rw [hb] at hk0
  repeat'(first|refine wk0 ?_|(refine wk2 ?_ ?_<;>intro _)|refine wk4 ?_|fail);all_goals(conv=>whnf)
  all_goals first
   | exact Zc rfl
   | exact Zc (by simp_all; done)
   | (exfalso; simp_all; done)
 | true =>
  rw [hb] at hk0
  repeat'(first|refine wk0 ?_|(refine wk2 ?_ ?_<;>intro _)|refine wk4 ?_|fail);all_goals(conv=>whnf)
  all_goals first
   | exact Zc (by simp_all; done)
   | (exfalso; simp_all; done)
def Zsy (h:Hal) (l:Ln) (p:Pt):Bool:=within (l.along p) 1 (Qa Qb (Qa Qb (l.full*p.d)-1))&&within p.z 1 (Qa Qb (Qa Qb (h.ht*p.d)-1))
def Za0 (h:Hal) (i:Int) (p:Pt):Bool:=if i<h.ws.length then Zsy h (lnOf h.cs i.toNat) p else if i<(h.ws.length:Int)+2 then Zp h p else Zsz (kat h i) p
theorem Zjz {h:Hal} {k:Nat} {p:Pt} (hk:k<h.ws.length):Za0 h k p=Zsy h (lnOf h.cs k) p:=by unfold Za0; rw [if_pos (by omega)]; rfl
theorem Zhz {h:Hal} {p:Pt}:Za0 h h.ws.length p=Zp h p:=by unfold Za0; rw [if_neg (by omega),if_pos (by omega)]
theorem Zj0 {h:Hal} {p:Pt}:Za0 h ((h.ws.length:Int)+1) p=Zp h p:=by unfold Za0; rw [if_neg (by omega),if_pos (by omega)]
theorem Zl2 {h:Hal} {j:Nat} {p:Pt} (hj:j<h.ks.length):Za0 h ((h.ws.length:Int)+2+j) p=Zsz h.ks[j] p:=by unfold Za0; rw [if_neg (by omega),if_neg (by omega),Zqo hj]
theorem c121 {h:Hal} {s:Stg} (g:Sit h s) {i:Int} (hi:SK h i) (p:Pt):PCall Tryz.prog 133 [h.av,I i,p.av] ⟨Bo (Za0 h i p),[]⟩:=by
 have f3:=g.ok.f.2.2.1
 have f4:=g.ok.f.2.2.2.1
 have hk0:=Zd (c89 g.ok.f hi) (Zd (c106 g.ok.f g.fine.le.2.2.1 (Ztx g.fine.st) p) (Zkj g.ok.f))
 cases hi with
 | wall k hk =>
  have hk2:k<h.cs.length:=by have:=g.fine.le; omega
  have e1:=Xs hk2
  have hn:=Ztx g.fine.st k hk2
  rw [show Zcb h k=(0,(k:Int)) by unfold Zcb; rw [if_pos (by omega)]] at hk0
  rw [Zjz hk]
  generalize lnOf h.cs k=l at *
  obtain ⟨x,y,dx,dy⟩:=l
  have ha:=Xm (res:=⟨I ((Ln.mk x y dx dy).along ⟨p.x,p.y,p.z,p.d⟩),[]⟩) hn
  have hb:=Xm (res:=⟨I (Ln.mk x y dx dy).full,[]⟩) hn
  refine bs.pv (sx:=nos) hk0 Tryz.func133 (by kernel_rfl) (by kernel_rfl) rfl ?_
  repeat'(first|refine wk0 ?_|(refine wk2 ?_ ?_<;>intro _)|refine wk4 ?_|fail);all_goals(conv=>whnf)
  all_goals clear hk0
  all_goals first
   | (refine Zc ?_; simp_all [Zsy]; done)
   | (exfalso; simp_all; done)
   | (exfalso; simp_all; omega)
 | floor =>
  rw [show Zcb h h.ws.length=(1,0) by unfold Zcb; rw [if_neg (by omega),if_pos rfl]] at hk0
  rw [Zhz]
  refine bs.pv (sx:=nos) hk0 Tryz.func133 (by kernel_rfl) (by kernel_rfl) rfl ?_
  repeat'(first|refine wk1 ?_|(refine wk2 ?_ ?_<;>intro _)|refine wk4 ?_|fail);all_goals(conv=>whnf)
  exact Zc rfl
 | ceil =>
  rw [show Zcb h ((h.ws.length:Int)+1)=(2,0) by unfold Zcb; rw [if_neg (by omega),if_neg (by omega),if_pos rfl]] at hk0
  rw [Zj0]
  refine bs.pv (sx:=nos) hk0 Tryz.func133 (by kernel_rfl) (by kernel_rfl) rfl ?_
  repeat'(first|refine wk1 ?_|(refine wk2 ?_ ?_<;>intro _)|refine wk4 ?_|fail);all_goals(conv=>whnf)
  exact Zc rfl
 | can j hj =>
  rw [show Zcb h ((h.ws.length:Int)+2+j)=(3,(j:Int)) by unfold Zcb; rw [if_neg (by omega),if_neg (by omega),if_neg (by omega)]; simp; omega] at hk0
  rw [Zl2 hj]
  have e1:=Zbb hj
  generalize h.ks[j]=c at *
  have hk1:=Zd (c194 c p) hk0
  refine bs.pv (sx:=nos) hk1 Tryz.func133 (by kernel_rfl) (by kernel_rfl) rfl ?_
  repeat'(first|refine wk1 ?_|(refine wk2 ?_ ?_<;>intro _)|refine wk4 ?_|fail);all_goals(conv=>whnf)
  exact Zc rfl
theorem Zyw {a b c:Int} (hc:0<c):a*c<b*c↔a<b:=⟨fun h=>Int.lt_of_mul_lt_mul_right h (by omega),fun h=>Int.mul_lt_mul_of_pos_right h hc⟩
theorem Zqm {a b c:Int} (hc:0<c):a*c<=b*c↔a<=b:=⟨fun h=>Int.le_of_mul_le_mul_right h hc,fun h=>Qi h (by omega)⟩
theorem Za2 {a c:Int} (hc:0<c):0<c*a↔0<a:=by rw [Ra]; have:=Zyw (a:=0) (b:=a) hc; rwa [Te] at this
theorem Zb8 {a c:Int} (hc:0<c):c*a<0↔a<0:=by rw [Ra]; have:=Zyw (a:=a) (b:=0) hc; rwa [Te] at this
theorem nn_l {a c:Int} (hc:0<c):0<=c*a↔0<=a:=by rw [Ra]; have:=Zqm (a:=0) (b:=a) hc; rwa [Te] at this
theorem np_l {a c:Int} (hc:0<c):c*a<=0↔a<=0:=by rw [Ra]; have:=Zqm (a:=a) (b:=0) hc; rwa [Te] at this
theorem Uy (a b:Int):imin a b=min a b:=by
 unfold imin; by_cases h:b<a<;>simp [h]<;>omega
theorem Uz (a b:Int):imax a b=max a b:=by
 unfold imax; by_cases h:a<b<;>simp [h]<;>omega
theorem Zbe {a b d:Int} (hd:0<d):min a b*d=min (a*d) (b*d):=by
 rcases Gz a b with h|h
 ·rw [Dc h,Dc (Qi h (by omega))]
 ·rw [Fp h,Fp (Qi h (by omega))]
theorem Zbf {a b d:Int} (hd:0<d):max a b*d=max (a*d) (b*d):=by
 rcases Gz a b with h|h
 ·rw [Fq h,Fq (Qi h (by omega))]
 ·rw [Dd h,Dd (Qi h (by omega))]
def spans (a b c d:Int):Prop:=∃ l m:Int,0<l/\0<m/\0<=l*a+m*b/\0<=l*c+m*d
theorem Zrs {a b c d:Int}:spans a b c d↔spans b a d c :=
 ⟨fun ⟨l,m,h1,h2,h3,h4⟩=>⟨m,l,h2,h1,by rw [Wf]; exact h3,by rw [Wf]; exact h4⟩,fun ⟨l,m,h1,h2,h3,h4⟩=>⟨m,l,h2,h1,by rw [Wf]; exact h3,by rw [Wf]; exact h4⟩⟩
theorem Zww {a b c d:Int} (h1:0<a+c) (h2:0<b+d) (he:a*d=b*c):spans a b c d↔0<=a/\0<=c:=by
 constructor
 ·rintro ⟨l,m,hl,hm,e1,e2⟩
  have hp:0<l*(a+c)+m*(b+d):=by have:=Re hl h1; have:=Re hm h2; omega
  have k1:(l*a+m*b)*(a+c)=(l*(a+c)+m*(b+d))*a:=by grind
  have k2:(l*c+m*d)*(a+c)=(l*(a+c)+m*(b+d))*c:=by grind
  have q1:=Qw e1 (Qq h1)
  have q2:=Qw e2 (Qq h1)
  rw [k1,nn_l hp] at q1
  rw [k2,nn_l hp] at q2
  exact ⟨q1,q2⟩
 ·rintro ⟨ha,hc⟩
  refine ⟨1,1,by omega,by omega,?_,?_⟩
  ·have k:(a+c)*b=a*(b+d):=by grind
   have q:=Qw ha (Qq h2)
   rw [<-k,nn_l h1] at q
   omega
  ·have k:(a+c)*d=c*(b+d):=by grind
   have q:=Qw hc (Qq h2)
   rw [<-k,nn_l h1] at q
   omega
theorem Zk2 {a b c d:Int} (h1:0<a+c) (h2:0<b+d) (he:b*c<a*d):spans a b c d↔0<a/\0<d:=by
 constructor
 ·rintro ⟨l,m,hl,hm,e1,e2⟩
  constructor
  ·by_cases ha:0<a
   ·exact ha
   exfalso
   have q:(b+d)*a<=0:=(np_l h2).2 (by omega)
   have q2:(a+c)*b<0:=by
    have:(a+c)*b=(b+d)*a+(b*c-a*d):=by grind
    omega
   have hb:=(Zb8 h1).1 q2
   have:=(Zb8 hm).2 hb
   have:=(np_l hl).2 (show a<=0 by omega)
   omega
  ·by_cases hd:0<d
   ·exact hd
   exfalso
   have q:(a+c)*d<=0:=(np_l h1).2 (by omega)
   have q2:(b+d)*c<0:=by
    have:(b+d)*c=(a+c)*d+(b*c-a*d):=by grind
    omega
   have hb:=(Zb8 h2).1 q2
   have:=(Zb8 hl).2 hb
   have:=(np_l hm).2 (show d<=0 by omega)
   omega
 ·rintro ⟨ha,hd⟩
  by_cases hb:0<=b
  ·refine ⟨1,c.natAbs+1,by omega,by omega,?_,?_⟩
   ·have:=Qw (show (0:Int)<=(c.natAbs:Int)+1 by omega) hb
    omega
   ·have:=Rd (show 1<=d by omega) (show (0:Int)<=(c.natAbs:Int)+1 by omega)
    omega
  by_cases hc:0<=c
  ·refine ⟨-b,1,by omega,by omega,?_,?_⟩
   ·have:=Rd (show 1<=a by omega) (show (0:Int) <= -b by omega)
    omega
   ·have:=Qw (show 0 <= -b by omega) hc
    omega
  ·refine ⟨-b,a,by omega,ha,?_,?_⟩
   ·have : -b*a+a*b=0:=by grind
    omega
   ·have : -b*c+a*d=a*d-b*c:=by grind
    omega
theorem Zp4 {a b c d:Int} (h1:0<a+c) (h2:0<b+d) (he:a*d<b*c):spans a b c d↔0<b/\0<c:=by
 rw [Zrs]; exact Zk2 h2 h1 he
structure P2d where
 x:Int
 y:Int
 d:Int
def bsP (w:Wl) (sx sy:Int) (p:P2d):Int:=bes w sx sy p.x p.y p.d
def alP (w:Wl) (sx sy:Int) (p:P2d):Int:=alo w sx sy p.x p.y p.d
def ful (n sx sy:Int):Int:=n*(sx*sx+sy*sy)
def Us (w:Wl) (n sx sy:Int) (p q:P2d):Prop:=∃ l m:Int,0<l/\0<m/\l*bsP w sx sy p+m*bsP w sx sy q=0/\0<=l*alP w sx sy p+m*alP w sx sy q/\l*alP w sx sy p+m*alP w sx sy q<=ful n sx sy*(l*p.d+m*q.d)
theorem Yaz {w:Wl} {n sx sy:Int} (h:Str w n sx sy):0<ful n sx sy:=by
 have hn:=h.hn
 have hxy:=h.hxy
 unfold ful
 rcases h.hx with rfl|rfl|rfl<;>rcases h.hy with rfl|rfl|rfl<;>(try (exact absurd ⟨rfl,rfl⟩ hxy))<;>simp<;>omega
theorem Zkf {w:Wl} {n sx sy:Int} {p q:P2d}:Us w n sx sy p q↔Us w n sx sy q p:=by
 have key:∀ p q,Us w n sx sy p q->Us w n sx sy q p:=by
  rintro p q ⟨l,m,h1,h2,h3,h4,h5⟩
  refine ⟨m,l,h2,h1,by omega,by omega,?_⟩
  rw [Wf (m*q.d)]; omega
 exact ⟨key _ _,key _ _⟩
theorem Zkh {w:Wl} {n sx sy:Int} (h:Str w n sx sy) {p q:P2d} (h1:bsP w sx sy p=0) (h2:bsP w sx sy q=0):Us w n sx sy p q↔spans (alP w sx sy p) (alP w sx sy q) (ful n sx sy*p.d-alP w sx sy p) (ful n sx sy*q.d-alP w sx sy q):=by
 unfold Us spans
 rw [h1,h2]
 constructor
 ·rintro ⟨l,m,hl,hm,_,e1,e2⟩
  exact ⟨l,m,hl,hm,e1,by grind⟩
 ·rintro ⟨l,m,hl,hm,e1,e2⟩
  exact ⟨l,m,hl,hm,by omega,e1,by grind⟩
theorem Zkg {w:Wl} {n sx sy:Int} {p q:P2d} (h0:¬(bsP w sx sy p=0/\bsP w sx sy q=0)) (h1:0<=sgn (bsP w sx sy p)*sgn (bsP w sx sy q)):¬ Us w n sx sy p q:=by
 rintro ⟨l,m,hl,hm,e,_⟩
 have hs:¬ (sgn (bsP w sx sy p)*sgn (bsP w sx sy q)<0):=by omega
 rw [sgn_mul_neg] at hs
 generalize bsP w sx sy p=a at *
 generalize bsP w sx sy q=b at *
 by_cases ha:0<a
 ·have:=(Za2 hl).2 ha
  have:=(nn_l hm).2 (show 0<=b by omega)
  omega
 by_cases hb:a<0
 ·have:=(Zb8 hl).2 hb
  have:=(np_l hm).2 (show b<=0 by omega)
  omega
 have:a=0:=by omega
 subst this
 have:m*b≠0:=Int.mul_ne_zero (by omega) (by omega)
 omega
theorem Zb9 {w:Wl} {n sx sy:Int} {p q:P2d} {f g:Int} (hf:bsP w sx sy p=f) (hg:bsP w sx sy q=g) (h1:f<0/\0<g):Us w n sx sy p q↔0<=g*alP w sx sy p-f*alP w sx sy q/\g*alP w sx sy p-f*alP w sx sy q<=ful n sx sy*(g*p.d-f*q.d):=by
 unfold Us
 rw [hf,hg]
 generalize alP w sx sy p=a
 generalize alP w sx sy q=b
 generalize ful n sx sy=F
 constructor
 ·rintro ⟨l,m,hl,hm,e,e1,e2⟩
  have k1:g*(l*a+m*b)=l*(g*a-f*b):=by grind
  have k2:g*(F*(l*p.d+m*q.d)-(l*a+m*b))=l*(F*(g*p.d-f*q.d)-(g*a-f*b)):=by grind
  have q1:=(nn_l h1.2).2 e1
  have q2:=(nn_l h1.2).2 (show 0<=F*(l*p.d+m*q.d)-(l*a+m*b) by omega)
  rw [k1,nn_l hl] at q1
  rw [k2,nn_l hl] at q2
  exact ⟨q1,by omega⟩
 ·rintro ⟨e1,e2⟩
  refine ⟨g,-f,h1.2,by omega,by grind,?_,?_⟩
  ·have:g*a + -f*b=g*a-f*b:=by grind
   omega
  ·have:g*a + -f*b=g*a-f*b:=by grind
   have:g*p.d + -f*q.d=g*p.d-f*q.d:=by grind
   rw [this]; omega
theorem Zrv {a b:Int}:sgn a*sgn b<=0 ↔ ¬((0<a/\0<b)\/(a<0/\b<0)):=by
 unfold sgn
 split<;>split<;>(try split)<;>(try split)<;>simp<;>omega
theorem Zqb {r:Rc} (hr:RcOk r) {x y d:Int} (hd:0<d/\d<=1000000000000000):r.has x y d=true↔0<=x-r.xl*d/\0<=r.xh*d-x/\0<=y-r.yl*d/\0<=r.yh*d-y:=by
 obtain ⟨h1,h2,h3,h4,h5,h6⟩:=hr
 have c1:=Zj (f:=r.xl) (d:=d) (by omega) hd.1
 have c2:=Zj (f:=r.xh) (d:=d) (by omega) hd.1
 have c3:=Zj (f:=r.yl) (d:=d) (by omega) hd.1
 have c4:=Zj (f:=r.yh) (d:=d) (by omega) hd.1
 unfold Rc.has
 rw [W_eq (n:=r.xl*d) (by omega) (by omega),W_eq (n:=r.xh*d) (by omega) (by omega),W_eq (n:=r.yl*d) (by omega) (by omega),W_eq (n:=r.yh*d) (by omega) (by omega),Qc,within_iff,within_iff]
 omega
theorem Zdq {r:Rc} (hr:RcOk r) {x y d:Int} (hd:0<d/\d<=1000000000000000):r.holds x y d=true↔0<x-r.xl*d/\0<r.xh*d-x/\0<y-r.yl*d/\0<r.yh*d-y:=by
 obtain ⟨h1,h2,h3,h4,h5,h6⟩:=hr
 have c1:=Zj (f:=r.xl) (d:=d) (by omega) hd.1
 have c2:=Zj (f:=r.xh) (d:=d) (by omega) hd.1
 have c3:=Zj (f:=r.yl) (d:=d) (by omega) hd.1
 have c4:=Zj (f:=r.yh) (d:=d) (by omega) hd.1
 unfold Rc.holds
 rw [W_eq (n:=r.xl*d) (by omega) (by omega),W_eq (n:=r.xh*d) (by omega) (by omega),W_eq (n:=r.yl*d) (by omega) (by omega),W_eq (n:=r.yh*d) (by omega) (by omega)]
 simp only [Qc,decide_eq_true_eq]
 omega
def valN (k x y z:Int):Int:=if k=0 then x else if k=1 then y else if k=2 then z else if k=3 then x+y else x-y
theorem Zk9 {w:Wl} {n sx sy:Int} (h:Str w n sx sy):plW w=if sx=0 then (0,w.fx) else if sy=0 then (1,w.fy) else if sx=sy then (4,w.fx-w.fy) else (3,w.fx+w.fy):=by
 have hn:=h.hn
 have b1:=h.b1
 have b2:=h.b2
 have hxy:=h.hxy
 have w4:Qa Qb (w.fx-w.fy)=w.fx-w.fy:=W_eq (by omega) (by omega)
 have w3:Qa Qb (w.fx+w.fy)=w.fx+w.fy:=W_eq (by omega) (by omega)
 unfold plW
 rw [h.dx,h.dy,w3,w4]
 rcases h.hx with rfl|rfl|rfl<;>rcases h.hy with rfl|rfl|rfl<;>(try (exact absurd ⟨rfl,rfl⟩ hxy))<;>simp only [Int.mul_zero,Int.mul_one,Rv]<;>(repeat' split)<;>first|rfl|(exfalso; omega)
theorem Zs1 {h:Hal} {w:Wl} {n sx sy:Int} (hs:Str w n sx sy) {p:Pt} (hp:PtOk p.x p.y p.d) (ht:2<=h.ht/\h.ht<=5000) (hpl:valN (plW w).1 p.x p.y p.z=(plW w).2*p.d):Zl1 h w p=Zsy h w.ln p:=by
 obtain ⟨x,y,z,d⟩:=p
 dsimp only at hp hpl
 have hd:=hp.hd
 have hD:=hp.hD
 have nd:=Yaf hs.hn hs.nle hd
 have a1:=Zj hs.b1 hd
 have a2:=Zj hs.b2 hd
 have a3:=Zj hs.b3 hd
 have a4:=Zj hs.b4 hd
 have hz:Qa Qb (h.ht*d)=h.ht*d/\Qa Qb (h.ht*d-1)=h.ht*d-1/\0<h.ht*d:=by
  have:=Zj (f:=h.ht) (d:=d) (by omega) hd
  have:=Re (a:=h.ht) (b:=d) (by omega) hd
  exact ⟨W_eq (by omega) (by omega),W_eq (by omega) (by omega),this⟩
 unfold Zl1 Zsy
 rw [Zd5 hs hp,Zln hs]
 rw [Zk9 hs] at hpl
 unfold valN at hpl
 rw [Uy,Uy,Uz,Uz]
 dsimp only
 rw [hz.1,hz.2.1]
 rw [Zbe hd,Zbe hd,Zbf hd,Zbf hd]
 rw [W_eq (n:=min (w.fx*d) (w.tx*d)) (by omega) (by omega),W_eq (n:=max (w.fx*d) (w.tx*d)) (by omega) (by omega),W_eq (n:=min (w.fy*d) (w.ty*d)) (by omega) (by omega),W_eq (n:=max (w.fy*d) (w.ty*d)) (by omega) (by omega)]
 have etx:=hs.tx
 have ety:=hs.ty
 have b1:=hs.b1
 have b2:=hs.b2
 have hn:=hs.hn
 have cnd:(w.fx=w.tx)↔sx=0:=by
  rw [etx]
  constructor
  ·intro e
   have:n*sx=0:=by omega
   rcases Int.mul_eq_zero.1 this with h|h
   ·omega
   ·exact h
  ·intro e; rw [e]; omega
 have ex:w.tx*d=w.fx*d+sx*(n*d):=by rw [etx]; grind
 have ey:w.ty*d=w.fy*d+sy*(n*d):=by rw [ety]; grind
 have full:n*(sx*sx+sy*sy)*d=(sx*sx+sy*sy)*(n*d):=by grind
 have d3:(w.fx+w.fy)*d=w.fx*d+w.fy*d:=by grind
 have d4:(w.fx-w.fy)*d=w.fx*d-w.fy*d:=by grind
 rw [full,ex,ey]
 unfold alo
 simp only [cnd]
 have hx:=hs.hx
 have hy:=hs.hy
 have hxy:=hs.hxy
 clear full etx ety cnd hs hp hz
 generalize w.fx*d=A at *
 generalize w.fy*d=C at *
 generalize n*d=N at *
 generalize h.ht*d=H at *
 rcases hx with rfl|rfl|rfl<;>rcases hy with rfl|rfl|rfl<;>(try (exact absurd ⟨rfl,rfl⟩ hxy))<;>simp [Sq] at hpl ⊢ <;> rw [Bool.eq_iff_iff]<;>simp [within_iff]
 all_goals omega
end Go.Proofs.YtipbliclbihaeaaGreat
