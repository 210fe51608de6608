/- A part of the proof: lemmas. -/
import Derived.Test.YtfkdpbklbegnlaaGreatT11
import Derived.Test.YtfkdpbklbegnlaaGreatT7
import Derived.KernelRfl
set_option linter.unusedVariables false
set_option linter.unusedSimpArgs false
set_option maxRecDepth 100000
set_option maxHeartbeats 16000000
open Bool renaming and_assoc->Pu,and_eq_true->Qc,false_and->Ny,not_eq_true'->Sl,true_and->Wg
open Classical renaming choose->Me
open Go.IntKind renaming i64->Qb,wrap->Qa
open Go.RowKit.Below renaming refl->Dl
open Go.Sx.AV renaming asl->Fv
open Go.Sx.AV.int renaming injEq->Sn
open Go.Sx.Done renaming mk->Qo
open Go.Value renaming slice->La
open Int renaming ediv_emod_unique->Ma,ediv_le_ediv->Kf,ediv_le_self->Kg,ediv_nonneg->Tg,emod_lt_of_pos->Mw,emod_nonneg->Gh,lt_or_le->Ow,mul_ediv_cancel->Fe,mul_le_mul->Ok,mul_neg->Tc,mul_nonneg->Qu,natAbs_tmod->Gg,natCast_mul->Ks,natCast_nonneg->Jm,tdiv_eq_ediv_of_nonneg->Ol,tmod_nonneg->Qaq,toNat_natCast->Rd,toNat_of_nonneg->Kz
open List renaming all_cons->Ml,drop_eq_getElem_cons->Qi,drop_of_length_le->Qk,exists_cons_of_length_pos->Kh,getElem?_eq_getElem->Qf,getElem_mem->Qq,mem_cons->Rf
open List.cons renaming injEq->Qs
open Nat renaming gcd->Tk,gcd_dvd_right->Nr,gcd_zero_left->Jx,le_refl->Qd,pow_le_pow_right->Sb,pow_succ->Dk,zero_add->Ry,zero_le->Qm
open Option renaming isNone->He
namespace Go.Proofs.YtfkdpbklbegnlaaGreat
open Go Go.Sx
structure Sit (h:Hal) (s:Stg):Prop where
 ok:h.ok
 fine:h.fine
 sf:s.few
 set:SetOk h s
theorem Zdg {h:Hal} (hk:h.ok) {s:Stg} (hs:s.few) (h0:serr h s=0):Sit h s:=by
 unfold serr at h0
 split at h0
 ·rename_i he
  exact ⟨hk,Zjx hk he,hs,Yd8 hk.f h0⟩
 ·rename_i he; exact absurd h0 he
inductive SK (h:Hal):Int->Prop
 | wall (k:Nat) (hk:k<h.ws.length):SK h k
 | floor:SK h h.ws.length
 | ceil:SK h ((h.ws.length:Int)+1)
 | can (j:Nat) (hj:j<h.ks.length):SK h ((h.ws.length:Int)+2+j)
theorem Zi2 {h:Hal} {i:Int} (h0:0<=i) (h1:i<nsur h):SK h i:=by
 unfold nsur at h1
 by_cases c1:i<h.ws.length
 ·have:=SK.wall (h:=h) i.toNat (by omega)
  rwa [Kz h0] at this
 by_cases c2:i=h.ws.length
 ·rw [c2]; exact .floor
 by_cases c3:i=(h.ws.length:Int)+1
 ·rw [c3]; exact .ceil
 have:=SK.can (h:=h) (i-h.ws.length-2).toNat (by omega)
 rwa [Kz (by omega),show (h.ws.length:Int)+2+(i-h.ws.length-2)=i by omega] at this
theorem Zfy {h:Hal} {s:Stg} {i:Int} (h0:surE h s i=0):serr h s=0/\0<=i/\i<nsur h:=by
 unfold surE at h0
 split at h0
 ·rename_i he
  split at h0
  ·rename_i hw
   have:=within_iff.1 hw
   exact ⟨he,by omega,by omega⟩
  ·cases h0
 ·rename_i he; exact absurd h0 he
def kix (h:Hal) (i:Int):Nat:=(i-h.ws.length-2).toNat
def kat (h:Hal) (i:Int):Can:=(h.ks[kix h i]?).getD ⟨⟨#[]⟩,⟨#[]⟩,0,0,0,0,[]⟩
theorem Zlb {h:Hal} {j:Nat} (hj:j<h.ks.length):kat h ((h.ws.length:Int)+2+j)=h.ks[j]:=by
 unfold kat kix
 rw [show ((h.ws.length:Int)+2+j-h.ws.length-2).toNat=j by omega,Qf hj]; rfl
def isK (h:Hal) (i:Int):Bool:=decide ((h.ws.length:Int)+2<=i)
abbrev canZ:List AV:=[.str ⟨#[]⟩,.str ⟨#[]⟩,I 0,I 0,I 0,I 0,.nils]
def canV (h:Hal) (i:Int):AV:=.agg (match isK h i with
 | true=>(kat h i).av
 | false=>canZ)
theorem c87 {h:Hal} (hf:h.few) (s:Stg) {i:Int} (hi:SK h i):PCall Tryz.prog 157 [.agg (stgL h s),I i] ⟨.tup [canV h i,Bo (isK h i)],[]⟩:=by
 have l:=Yo h.ws
 have l2:=Xc h.ks
 obtain ⟨_,_,f3,f4,_⟩:=hf
 have low:∀ i:Int,0<=i->i<(h.ws.length:Int)+2->PCall Tryz.prog 157 [.agg (stgL h s),I i] ⟨.tup [.agg canZ,Bo false],[]⟩:=by
  intro i h0 h1
  have hv:Qa Qb (Qa Qb (i-((h.ws.map Wal.av).length:Int))-2)=i-h.ws.length-2:=by rw [W_eq (n:=i-((h.ws.map Wal.av).length:Int)) (by omega) (by omega),W_eq (by omega) (by omega)]; omega
  refine bs.pv (sx:=nos) Zb Tryz.func157 (by kernel_rfl) (by kernel_rfl) rfl ?_
  have hn:¬ (0<=Qa Qb (Qa Qb (i-((h.ws.map Wal.av).length:Int))-2)):=by rw [hv]; omega
  repeat'(first|refine wk0 ?_|(refine wk2 ?_ ?_<;>intro _)|refine wk4 ?_|fail);all_goals(conv=>whnf)
  all_goals first
   | exact Zf rfl rfl
   | (exfalso; rename_i hx; have:=of_decide_eq_true hx; rw [hv] at this; omega)
   | (exfalso; rename_i hx; have:=of_decide_eq_true hx; exact hn this)
 cases hi with
 | wall k hk =>
  have e1:isK h k=false:=decide_eq_false (by omega)
  unfold canV; rw [e1]; exact low _ (by omega) (by omega)
 | floor =>
  have e1:isK h h.ws.length=false:=decide_eq_false (by omega)
  unfold canV; rw [e1]; exact low _ (by omega) (by omega)
 | ceil =>
  have e1:isK h ((h.ws.length:Int)+1)=false:=decide_eq_false (by omega)
  unfold canV; rw [e1]; exact low _ (by omega) (by omega)
 | can j hj =>
  have e1:isK h ((h.ws.length:Int)+2+j)=true:=decide_eq_true (by omega)
  unfold canV
  rw [e1]
  dsimp only
  rw [Zlb hj]
  have hv:Qa Qb (Qa Qb ((h.ws.length:Int)+2+j-((h.ws.map Wal.av).length:Int))-2)=j:=by rw [W_eq (n:=(h.ws.length:Int)+2+j-((h.ws.map Wal.av).length:Int)) (by omega) (by omega),W_eq (by omega) (by omega)]; omega
  have e2:(h.ks.map Can.av)[(Qa Qb (Qa Qb ((h.ws.length:Int)+2+j-((h.ws.map Wal.av).length:Int))-2)).toNat]?=some (Can.av h.ks[j]):=by rw [hv]; exact Zd4 hj
  have e3:0<=Qa Qb (Qa Qb ((h.ws.length:Int)+2+j-((h.ws.map Wal.av).length:Int))-2):=by omega
  have e4:decide (0<=Qa Qb (Qa Qb ((h.ws.length:Int)+2+j-((h.ws.map Wal.av).length:Int))-2))=true:=decide_eq_true e3
  refine bs.pv (sx:=nos) Zb Tryz.func157 (by kernel_rfl) (by kernel_rfl) rfl ?_
  repeat'(first|refine wk0 ?_|(refine wk2 ?_ ?_<;>intro _)|refine wk4 ?_|fail);all_goals(conv=>whnf)
  all_goals first
   | exact Zf rfl rfl
   | (exfalso; rename_i hx; rw [e4] at hx; cases hx)
def Zco (h:Hal) (s:Stg) (j:Nat):Int:=match h.ks[j]?,s.hs[j]? with
 | some c,some n=>c.hs.getD n.toNat 0
 | _,_=>0
theorem Zon {h:Hal} {s:Stg} (g:SetOk h s) {j:Nat} (hj:j<h.ks.length):∃ n,(nl s.hs)[((j:Nat):Int).toNat]?=some [I n]/\0<=n/\n<h.ks[j].hs.length/\(nl h.ks[j].hs)[n.toNat]?=some [I (Zco h s j)]:=by
 have h2:j<s.hs.length:=by rw [g.len]; exact hj
 obtain ⟨g1,g2⟩:=g.hs j hj h2
 refine ⟨s.hs[j],Vo h2,g1,g2,?_⟩
 have h3:s.hs[j].toNat<h.ks[j].hs.length:=by omega
 have e:Zco h s j=h.ks[j].hs[s.hs[j].toNat]:=by unfold Zco; rw [Qf hj,Qf h2]; simp [h3]
 rw [e]
 simp [nl,h3]
theorem c192 {h:Hal} {s:Stg} (g:Sit h s) {j:Nat} (hj:j<h.ks.length):PCall Tryz.prog 258 [.agg (stgL h s),I j] ⟨I (Zco h s j),[]⟩:=by
 obtain ⟨n,e1,e2,e3,e4⟩:=Zon g.set hj
 have e5:=Zd4 hj
 generalize h.ks[j]=c at *
 have e6:=Zl c.hs
 refine bs.pv (sx:=nos) Zb Tryz.func258 (by kernel_rfl) (by kernel_rfl) rfl ?_
 repeat'(first|refine wk1 ?_|(refine wk2 ?_ ?_<;>intro _)|refine wk4 ?_|fail);all_goals(conv=>whnf)
 exact Za rfl
def plW (w:Wl):Int × Int:=if w.dx=0 then (0,w.fx) else if w.dy=0 then (1,w.fy) else if w.dx=w.dy then (4,Qa Qb (w.fx-w.fy)) else (3,Qa Qb (w.fx+w.fy))
def Zk (h:Hal) (s:Stg) (i:Int):Int × Int:=if i<h.ws.length then plW (wlOf h.cs i.toNat) else if i=h.ws.length then (2,0) else if i=(h.ws.length:Int)+1 then (2,h.ht) else (2,Zco h s (kix h i))
theorem Zaz {h:Hal} {s:Stg} {k:Nat} (hk:k<h.ws.length):Zk h s k=plW (wlOf h.cs k):=by unfold Zk; rw [if_pos (by omega)]; rfl
theorem Zbg {h:Hal} {s:Stg}:Zk h s h.ws.length=(2,0):=by unfold Zk; rw [if_neg (by omega),if_pos rfl]
theorem Zcj {h:Hal} {s:Stg}:Zk h s ((h.ws.length:Int)+1)=(2,h.ht):=by unfold Zk; rw [if_neg (by omega),if_neg (by omega),if_pos rfl]
theorem Zea {h:Hal} {s:Stg} {j:Nat}:Zk h s ((h.ws.length:Int)+2+j)=(2,Zco h s j):=by
 unfold Zk kix
 rw [if_neg (by omega),if_neg (by omega),if_neg (by omega),show ((h.ws.length:Int)+2+j-h.ws.length-2).toNat=j by omega]
noncomputable def kP (h:Hal) (s:Stg):PC:=ins 190 (one [.agg (stgL h s)] ⟨I (h.ws.length:Int),[]⟩) (ins 191 (one [.agg (stgL h s)] ⟨I ((h.ws.length:Int)+1),[]⟩) kG4)
theorem Yhs {h:Hal} {s:Stg} (g:Sit h s):PCOK Tryz.prog (kP h s):=Ze (c172 s) (Ze (c173 g.ok.f s) Uu)
theorem c112 {h:Hal} {s:Stg} (g:Sit h s) {i:Int} (hi:SK h i):PCall Tryz.prog 168 [.agg (stgL h s),I i] ⟨P2 (Zk h s i).1 (Zk h s i).2,[]⟩:=by
 have hk0:=Yhs g
 have f3:=g.ok.f.2.2.1
 have f4:=g.ok.f.2.2.2.1
 cases hi with
 | wall k hk =>
  have hk2:k<h.cs.length:=by have:=g.fine.le; omega
  rw [Zaz hk]
  have hk1:=Ze (Yf7 g.ok.f hk2) hk0
  refine bs.pv (sx:=nos) hk1 Tryz.func168 (by kernel_rfl) (by kernel_rfl) rfl ?_
  generalize wlOf h.cs k=w at *
  repeat'(first|refine wk1 ?_|(refine wk2 ?_ ?_<;>intro _)|refine wk4 ?_|fail);all_goals(conv=>whnf)
  all_goals exact Zf (by clear hk0 hk1; simp_all [plW]) rfl
 | floor =>
  rw [Zbg]
  refine bs.pv (sx:=nos) hk0 Tryz.func168 (by kernel_rfl) (by kernel_rfl) rfl ?_
  repeat'(first|refine wk1 ?_|(refine wk2 ?_ ?_<;>intro _)|refine wk4 ?_|fail);all_goals(conv=>whnf)
  exact Zf rfl rfl
 | ceil =>
  rw [Zcj]
  refine bs.pv (sx:=nos) hk0 Tryz.func168 (by kernel_rfl) (by kernel_rfl) rfl ?_
  repeat'(first|refine wk1 ?_|(refine wk2 ?_ ?_<;>intro _)|refine wk4 ?_|fail);all_goals(conv=>whnf)
  exact Zf rfl rfl
 | can j hj =>
  rw [Zea]
  have hv:Qa Qb (Qa Qb ((h.ws.length:Int)+2+j-((h.ws.length:Int)+1))-1)=j:=by rw [W_eq (n:=(h.ws.length:Int)+2+j-((h.ws.length:Int)+1)) (by omega) (by omega),W_eq (by omega) (by omega)]; omega
  have hc:=c192 g hj
  rw [<-hv] at hc
  have hk1:=Ze hc hk0
  refine bs.pv (sx:=nos) hk1 Tryz.func168 (by kernel_rfl) (by kernel_rfl) rfl ?_
  repeat'(first|refine wk1 ?_|(refine wk2 ?_ ?_<;>intro _)|refine wk4 ?_|fail);all_goals(conv=>whnf)
  exact Zf rfl rfl
def Zh0 (h:Hal) (s:Stg) (i:Int):Int × Int:=if surE h s i=0 then Zk h s i else (0,0)
theorem c54 {h:Hal} (hk:h.ok) {s:Stg} (hs:s.few) (i:Int):PCall Tryz.prog 161 [h.av,s.av,I i] ⟨.tup [P2 (Zh0 h s i).1 (Zh0 h s i).2,I (surE h s i)],[]⟩:=by
 have hk0:=Ze (c109 hk hs i) Zb
 by_cases he:surE h s i=0
 ·have e:=Zfy he
  have g:=Zdg hk hs e.1
  have hk1:=Ze (c112 g (Zi2 e.2.1 e.2.2)) hk0
  have e2:Zh0 h s i=Zk h s i:=by unfold Zh0; rw [if_pos he]
  rw [e2]
  rw [he] at hk1 ⊢
  refine bs.pv (sx:=nos) hk1 Tryz.func161 (by kernel_rfl) (by kernel_rfl) rfl ?_
  repeat'(first|refine wk1 ?_|(refine wk2 ?_ ?_<;>intro _)|refine wk4 ?_|fail);all_goals(conv=>whnf)
  exact Zf rfl rfl
 ·have e2:Zh0 h s i=(0,0):=by unfold Zh0; rw [if_neg he]
  rw [e2]
  refine bs.pv (sx:=nos) hk0 Tryz.func161 (by kernel_rfl) (by kernel_rfl) rfl ?_
  repeat'(first|refine wk1 ?_|(refine wk2 ?_ ?_<;>intro _)|refine wk4 ?_|fail);all_goals(conv=>whnf)
  exact Zf rfl rfl
def idxN (n:Int):Nat->List Int->Int
 | _,[]=>-1
 | i,m::l=>if n=m then i else idxN n (i+1) l
theorem Zso (n:Int):∀ (l:List Int) (i:Nat),decide (0<=idxN n i l)=hasN l n
 | [],i=>rfl
 | m::l,i=>by
  rw [idxN,Zxm]
  by_cases h:n=m
  ·rw [if_pos h,decide_eq_true (show m=n from h.symm),decide_eq_true (by omega)]; rfl
  ·rw [if_neg h,decide_eq_false (show ¬ m=n from fun e=>h e.symm),Bool.false_or]; exact Zso n l _
theorem c203 {ns:List Int} (hl:ns.length<1000000) (n:Int):PCall Tryz.prog 152 [.isl 1 (nl ns),I n] ⟨I (idxN n 0 ns),[]⟩:=by
 have e3:=Zl ns
 refine bs.pv (sx:=nos) Zb Tryz.func152 (by kernel_rfl) (by kernel_rfl) rfl ?_
 repeat'(first|refine wk1 ?_|(refine wk2 ?_ ?_<;>intro _)|refine wk4 ?_|fail);all_goals(conv=>whnf)
 refine Zt (S:=Nat × Int) (fun t=>ns.length-t.1) (fun t=>[(0,.isl 1 (nl ns)),(1,I n),(7,I (nl ns).length),(8,I t.2)]) (fun _=>[]) 0 0 (fun t=>t.2=t.1/\t.1<=ns.length/\idxN n t.1 (ns.drop t.1)=idxN n 0 ns) (0,0) ⟨rfl,Qm _,rfl⟩ (Qd _) [] rfl (kps) (kps) ?_
 rintro ⟨k,i⟩ ⟨hi,hk,hh⟩
 dsimp only at hi hk hh ⊢
 subst hi
 refine bs.av (sx:=nos) Zb ?_
 by_cases hlt:k<ns.length
 ·have e1:=Vo hlt
  rw [Qi hlt,idxN] at hh
  repeat'(first|refine wk1 ?_|(refine wk2 ?_ ?_<;>intro _)|refine wk4 ?_|fail);all_goals(conv=>whnf)
  ·rename_i hx; exact Za (by rw [<-hh,if_pos (of_decide_eq_true hx)])
  ·rename_i hx; exact Qo ⟨(k+1,_),[],rfl,kps,kps,⟨Zg (by omega),hlt,by rw [<-hh,if_neg (of_decide_eq_false hx)]⟩,by dsimp only; omega⟩
 rw [Qk (by omega)] at hh
 repeat'(first|refine wk1 ?_|(refine wk2 ?_ ?_<;>intro _)|refine wk4 ?_|fail);all_goals(conv=>whnf)
 exact Za hh
theorem c176 {ns:List Int} (hl:ns.length<1000000) (n:Int):PCall Tryz.prog 192 [.isl 1 (nl ns),I n] ⟨Bo (hasN ns n),[]⟩:=by
 refine bs.pv (sx:=nos) (Ze (c203 hl n) Zb) Tryz.func192 (by kernel_rfl) (by kernel_rfl) rfl ?_
 repeat'(first|refine wk0 ?_|(refine wk2 ?_ ?_<;>intro _)|refine wk4 ?_|fail);all_goals(conv=>whnf)
 exact Zd (Zso n ns 0)
theorem c178 (m:Mat) (nm:ByteArray):PCall Tryz.prog 194 [.agg m.av,.ipt [.str nm]] ⟨Bo (m.nm==nm),[]⟩:=by
 refine bs.pv (sx:=nos) Zb Tryz.func194 (by kernel_rfl) (by kernel_rfl) rfl ?_
 repeat'(first|refine wk0 ?_|(refine wk2 ?_ ?_<;>intro _)|refine wk4 ?_|fail);all_goals(conv=>whnf)
 exact Zd (by simp)
theorem c177 {ms:List Mat} (hl:ms.length<1000) (nm:ByteArray):PCall Tryz.prog 193 [.isl 6 (ms.map Mat.av),.func 194 [] [.ipt [.str nm]]] ⟨I (Ye nm 0 ms),[]⟩:=by
 have e3:=Yy ms
 refine bs.pv (sx:=nos) Zb Tryz.func193 (by kernel_rfl) (by kernel_rfl) rfl ?_
 repeat'(first|refine wk1 ?_|(refine wk2 ?_ ?_<;>intro _)|refine wk4 ?_|fail);all_goals(conv=>whnf)
 refine Zt (S:=Nat × Int) (fun t=>ms.length-t.1) (fun t=>[(0,.isl 6 (ms.map Mat.av)),(1,.func 194 [] [.ipt [.str nm]]),(7,I (ms.map Mat.av).length),(8,I t.2)]) (fun _=>[]) 0 0 (fun t=>t.2=t.1/\t.1<=ms.length/\Ye nm t.1 (ms.drop t.1)=Ye nm 0 ms) (0,0) ⟨rfl,Qm _,rfl⟩ (Qd _) [] rfl (kps) (kps) ?_
 rintro ⟨k,i⟩ ⟨hi,hk,hh⟩
 dsimp only at hi hk hh ⊢
 subst hi
 by_cases hlt:k<ms.length
 ·have e1:=Zn3 hlt
  rw [Qi hlt,Ye] at hh
  refine bs.av (sx:=nos) (Ze (c178 ms[k] nm) Zb) ?_
  repeat'(first|refine wk1 ?_|(refine wk2 ?_ ?_<;>intro _)|refine wk4 ?_|fail);all_goals(conv=>whnf)
  ·rename_i hx; exact Za (by rw [<-hh,if_pos hx])
  ·rename_i hx; exact Qo ⟨(k+1,_),[],rfl,kps,kps,⟨Zg (by omega),hlt,by rw [<-hh,hx]; rfl⟩,by dsimp only; omega⟩
 rw [Qk (by omega)] at hh
 refine bs.av (sx:=nos) Zb ?_
 repeat'(first|refine wk1 ?_|(refine wk2 ?_ ?_<;>intro _)|refine wk4 ?_|fail);all_goals(conv=>whnf)
 exact Za hh
def mat0:Mat:=⟨⟨#[]⟩,0,0,0,0,0⟩
def matG (h:Hal) (nm:ByteArray):Mat:=(h.ms[(Ye nm 0 h.ms).toNat]?).getD mat0
theorem Zbi (s:ByteArray):∀ (l:List Mat) (i:Nat),Ye s i l<((i+l.length:Nat):Int)
 | [],i=>by simp [Ye]; omega
 | m::l,i=>by
  rw [Ye]
  have:=Zbi s l (i+1)
  split
  ·simp; omega
  ·simp only [List.length_cons]; omega
theorem Yav {h:Hal} {nm:ByteArray} (h0:0<=Ye nm 0 h.ms):(h.ms.map Mat.av)[(Ye nm 0 h.ms).toNat]?=some (matG h nm).av:=by
 have h1:=Zbi nm h.ms 0
 have hi:(Ye nm 0 h.ms).toNat<h.ms.length:=by omega
 unfold matG
 rw [List.getElem?_map,Qf hi]; rfl
def Zcl (h:Hal) (s:Stg) (i:Int):ByteArray:=if i<h.ws.length then (if hasN s.dr i then curt h i else ((h.ws[i.toNat]?).map Wal.mt).getD ⟨#[]⟩) else if i=h.ws.length then h.fl else if i=(h.ws.length:Int)+1 then h.ce else (kat h i).mt
theorem Zoe {h:Hal} {nm:ByteArray} (hm:∃ m∈h.ms,m.nm=nm):0<=Ye nm 0 h.ms:=by
 have:=mt (Zbv nm h.ms 0).1 (by simpa using hm)
 omega
theorem Zm7 {h:Hal} (g:h.fine) {k:Nat} (hk:k<h.ws.length):0<=Ye h.ws[k].mt 0 h.ms/\(h.ws[k].cu≠⟨#[]⟩->0<=Ye h.ws[k].cu 0 h.ms):=by
 have:=g.wal k hk
 unfold Zfv at this
 split at this
 ·split at this
  ·cases this
  ·split at this
   ·cases this
   ·split at this
    ·cases this
    ·rename_i hx
     simp only [Bool.or_eq_true,Qc,decide_eq_true_eq,Sl,Zc5,decide_eq_false_iff_not,not_or,not_and] at hx
     exact ⟨by omega,fun hc=>by have:=hx.2 hc; omega⟩
 ·cases this
theorem Zy0 {h:Hal} (g:h.fine) {k:Nat} (hk:k<h.ks.length):0<=Ye h.ks[k].mt 0 h.ms:=by
 have:=g.can k hk
 unfold Zgv at this
 split at this
 ·split at this
  ·cases this
  ·split at this
   ·cases this
   ·split at this
    ·cases this
    ·split at this
     ·cases this
     ·rename_i hx
      simp only [decide_eq_true_eq] at hx
      omega
 ·cases this
theorem Zsc {h:Hal} {s:Stg} (g:Sit h s) {i:Int} (hi:SK h i):0<=Ye (Zcl h s i) 0 h.ms:=by
 unfold Zcl
 cases hi with
 | wall k hk =>
  rw [if_pos (by omega),Rd,Qf hk]
  have hc:curt h k=h.ws[k].cu:=by unfold curt; rw [Rd,Qf hk]
  split
  ·rename_i hd
   have hd:∃ d∈s.dr,d=(k:Int):=by unfold hasN at hd; rw [List.any_eq_true] at hd; simpa using hd
   obtain ⟨d,hd,rfl⟩:=hd
   rw [hc]
   exact (Zm7 g.fine hk).2 (by rw [<-hc]; exact (g.set.dr _ hd).2.2)
  ·exact (Zm7 g.fine hk).1
 | floor=>rw [if_neg (by omega),if_pos rfl]; exact Zoe g.fine.fl
 | ceil=>rw [if_neg (by omega),if_neg (by omega),if_pos rfl]; exact Zoe g.fine.ce
 | can j hj=>rw [if_neg (by omega),if_neg (by omega),if_neg (by omega),Zlb hj]; exact Zy0 g.fine hj
def matS (h:Hal) (s:Stg) (i:Int):Mat:=matG h (Zcl h s i)
theorem Zem {h:Hal} {i:Int} (hi:i<(h.ws.length:Int)+2):canV h i = .agg canZ/\isK h i=false:=by
 have e1:isK h i=false:=decide_eq_false (by omega)
 unfold canV; rw [e1]; exact ⟨rfl,rfl⟩
theorem Zs5 {h:Hal} {j:Nat} (hj:j<h.ks.length):canV h ((h.ws.length:Int)+2+j) = .agg (Can.av h.ks[j])/\isK h ((h.ws.length:Int)+2+j)=true:=by
 have e1:isK h ((h.ws.length:Int)+2+j)=true:=decide_eq_true (by omega)
 unfold canV; rw [e1,<-Zlb hj]; exact ⟨rfl,rfl⟩
theorem Zt3 {h:Hal} {s:Stg} {k:Nat} (hk:k<h.ws.length):Zcl h s k=if hasN s.dr k then h.ws[k].cu else h.ws[k].mt:=by
 unfold Zcl
 rw [if_pos (by omega),Rd,Qf hk]
 rw [show curt h k=h.ws[k].cu by unfold curt; rw [Rd,Qf hk]]
 rfl
theorem Zqh {h:Hal} {s:Stg}:Zcl h s h.ws.length=h.fl:=by unfold Zcl; rw [if_neg (by omega),if_pos rfl]
theorem Zt4 {h:Hal} {s:Stg}:Zcl h s ((h.ws.length:Int)+1)=h.ce:=by unfold Zcl; rw [if_neg (by omega),if_neg (by omega),if_pos rfl]
theorem Zwt {h:Hal} {s:Stg} {j:Nat} (hj:j<h.ks.length):Zcl h s ((h.ws.length:Int)+2+j)=h.ks[j].mt:=by
 unfold Zcl
 rw [if_neg (by omega),if_neg (by omega),if_neg (by omega),Zlb hj]
theorem c86 {h:Hal} {s:Stg} (g:Sit h s) {i:Int} (hi:SK h i):PCall Tryz.prog 123 [.agg (stgL h s),I i] ⟨.agg (matS h s i).av,[]⟩:=by
 have f3:=g.ok.f.2.2.1
 have f4:=g.ok.f.2.2.2.1
 have h0:=Zsc g hi
 have hG:=Yav h0
 have hk0:=Ze (c87 g.ok.f s hi) (Ze (c172 (h:=h) s) (Ze (c173 g.ok.f s) (Ze (c176 (ns:=s.dr) (by have:=g.sf.2; omega) i) (Ze (c177 g.ok.f.1 (Zcl h s i)) Zb))))
 unfold matS
 have l1:=Yy h.ms
 have hlt:=Zbi (Zcl h s i) h.ms 0
 cases hi with
 | wall k hk =>
  obtain ⟨v1,v2⟩:=Zem (h:=h) (i:=k) (by omega)
  rw [v1,v2] at hk0
  have e1:=Zir hk
  have hn:=Zt3 (s:=s) hk
  generalize matG h (Zcl h s k)=M at *
  cases hd:hasN s.dr k with
  | true =>
   rw [hd] at hn hk0
   rw [if_pos rfl] at hn
   rw [hn] at hk0 h0 hG hlt
   refine bs.pv (sx:=nos) hk0 Tryz.func123 (by kernel_rfl) (by kernel_rfl) rfl ?_
   repeat'(first|refine wk1 ?_|(refine wk2 ?_ ?_<;>intro _)|refine wk4 ?_|fail);all_goals(conv=>whnf)
   exact Zf rfl rfl
  | false =>
   rw [hd] at hn hk0
   rw [if_neg (by simp)] at hn
   rw [hn] at hk0 h0 hG hlt
   refine bs.pv (sx:=nos) hk0 Tryz.func123 (by kernel_rfl) (by kernel_rfl) rfl ?_
   repeat'(first|refine wk1 ?_|(refine wk2 ?_ ?_<;>intro _)|refine wk4 ?_|fail);all_goals(conv=>whnf)
   exact Zf rfl rfl
 | floor =>
  obtain ⟨v1,v2⟩:=Zem (h:=h) (i:=h.ws.length) (by omega)
  rw [v1,v2] at hk0
  have hn:=Zqh (h:=h) (s:=s)
  generalize matG h (Zcl h s h.ws.length)=M at *
  rw [hn] at hk0 h0 hG hlt
  refine bs.pv (sx:=nos) hk0 Tryz.func123 (by kernel_rfl) (by kernel_rfl) rfl ?_
  repeat'(first|refine wk1 ?_|(refine wk2 ?_ ?_<;>intro _)|refine wk4 ?_|fail);all_goals(conv=>whnf)
  exact Zf rfl rfl
 | ceil =>
  obtain ⟨v1,v2⟩:=Zem (h:=h) (i:=(h.ws.length:Int)+1) (by omega)
  rw [v1,v2] at hk0
  have hn:=Zt4 (h:=h) (s:=s)
  generalize matG h (Zcl h s ((h.ws.length:Int)+1))=M at *
  rw [hn] at hk0 h0 hG hlt
  refine bs.pv (sx:=nos) hk0 Tryz.func123 (by kernel_rfl) (by kernel_rfl) rfl ?_
  repeat'(first|refine wk1 ?_|(refine wk2 ?_ ?_<;>intro _)|refine wk4 ?_|fail);all_goals(conv=>whnf)
  exact Zf rfl rfl
 | can j hj =>
  obtain ⟨v1,v2⟩:=Zs5 hj
  rw [v1,v2] at hk0
  have hn:=Zwt (s:=s) hj
  generalize matG h (Zcl h s ((h.ws.length:Int)+2+j))=M at *
  rw [hn] at hk0 h0 hG hlt
  refine bs.pv (sx:=nos) hk0 Tryz.func123 (by kernel_rfl) (by kernel_rfl) rfl ?_
  repeat'(first|refine wk1 ?_|(refine wk2 ?_ ?_<;>intro _)|refine wk4 ?_|fail);all_goals(conv=>whnf)
  exact Zf rfl rfl
def matA (h:Hal) (s:Stg) (i:Int):Mat:=if surE h s i=0 then matS h s i else mat0
abbrev abs4 (m:Mat):AV:=.agg [I m.a,I m.b,I m.c,I m.d]
theorem c60 {h:Hal} (hk:h.ok) {s:Stg} (hs:s.few) (i:Int):PCall Tryz.prog 78 [h.av,s.av,I i] ⟨.tup [abs4 (matA h s i),I (surE h s i)],[]⟩:=by
 have hk0:=Ze (c109 hk hs i) Zb
 by_cases he:surE h s i=0
 ·have e:=Zfy he
  have g:=Zdg hk hs e.1
  have hk1:=Ze (c86 g (Zi2 e.2.1 e.2.2)) hk0
  have e2:matA h s i=matS h s i:=by unfold matA; rw [if_pos he]
  rw [e2]
  rw [he] at hk1 ⊢
  refine bs.pv (sx:=nos) hk1 Tryz.func78 (by kernel_rfl) (by kernel_rfl) rfl ?_
  repeat'(first|refine wk1 ?_|(refine wk2 ?_ ?_<;>intro _)|refine wk4 ?_|fail);all_goals(conv=>whnf)
  exact Zf rfl rfl
 ·have e2:matA h s i=mat0:=by unfold matA; rw [if_neg he]
  rw [e2]
  refine bs.pv (sx:=nos) hk0 Tryz.func78 (by kernel_rfl) (by kernel_rfl) rfl ?_
  repeat'(first|refine wk1 ?_|(refine wk2 ?_ ?_<;>intro _)|refine wk4 ?_|fail);all_goals(conv=>whnf)
  exact Zf rfl rfl
theorem c61 {h:Hal} (hk:h.ok) {s:Stg} (hs:s.few) (i:Int):PCall Tryz.prog 79 [h.av,s.av,I i] ⟨.tup [I (matA h s i).sc,I (surE h s i)],[]⟩:=by
 have hk0:=Ze (c109 hk hs i) Zb
 by_cases he:surE h s i=0
 ·have e:=Zfy he
  have g:=Zdg hk hs e.1
  have hk1:=Ze (c86 g (Zi2 e.2.1 e.2.2)) hk0
  have e2:matA h s i=matS h s i:=by unfold matA; rw [if_pos he]
  rw [e2]
  rw [he] at hk1 ⊢
  refine bs.pv (sx:=nos) hk1 Tryz.func79 (by kernel_rfl) (by kernel_rfl) rfl ?_
  repeat'(first|refine wk1 ?_|(refine wk2 ?_ ?_<;>intro _)|refine wk4 ?_|fail);all_goals(conv=>whnf)
  exact Zf rfl rfl
 ·have e2:matA h s i=mat0:=by unfold matA; rw [if_neg he]
  rw [e2]
  refine bs.pv (sx:=nos) hk0 Tryz.func79 (by kernel_rfl) (by kernel_rfl) rfl ?_
  repeat'(first|refine wk1 ?_|(refine wk2 ?_ ?_<;>intro _)|refine wk4 ?_|fail);all_goals(conv=>whnf)
  exact Zf rfl rfl
def i64 (n:Int):Prop:=-9223372036854775808<=n/\n<=9223372036854775807
theorem Ycb {a:Int} (h:i64 a):size a=Qa Qb (a.natAbs:Int):=by
 unfold size imax
 obtain ⟨h1,h2⟩:=h
 by_cases h3:a = -9223372036854775808
 ·subst h3; decide
 ·rw [W_eq (n:=0-a) (by omega) (by omega),W_eq (by omega) (by omega)]
  by_cases h4:a<0-a
  ·rw [decide_eq_true h4]; simp only [cond_true]; omega
  ·rw [decide_eq_false h4]; simp only [cond_false]; omega
theorem Zuf (a:Int):i64 (Qa Qb a):=by unfold i64; simp only [IntKind.wrap_i64]; omega
theorem Zr9 {g:Nat} (h:g<=9223372036854775808):(Qa Qb (g:Int)).natAbs=g:=by
 by_cases h3:g=9223372036854775808
 ·subst h3; decide
 ·rw [W_eq (by omega) (by omega)]; simp
theorem Zzu {a b:Int} (ha:i64 a) (hb:b≠0):i64 (a.tmod b):=by
 obtain ⟨h1,h2⟩:=ha
 have h3:(a.tmod b).natAbs<=a.natAbs:=by rw [Gg]; exact Nat.mod_le _ _
 have h4:0<=a->0<=a.tmod b:=fun h=>Qaq b h
 have h5:a<=0->a.tmod b<=0:=fun h=>by have:=Qaq b (a:=-a) (by omega); rw [Int.neg_tmod] at this; omega
 unfold i64
 omega
theorem Ya8 {a b:Int}:Tk b.natAbs (a.tmod b).natAbs=Tk a.natAbs b.natAbs:=by
 rw [Gg,Nat.gcd_comm,<-Nat.gcd_rec,Nat.gcd_comm]
def g4 (p:Pt):Nat:=Tk (Tk p.x.natAbs p.y.natAbs) (Tk p.z.natAbs p.d.natAbs)
structure Pt.wf (p:Pt):Prop where
 x:i64 p.x
 y:i64 p.y
 z:i64 p.z
 d:i64 p.d
theorem Yc0 {a b:Int} (ha:i64 a) (hb:i64 b):Tk a.natAbs b.natAbs<=9223372036854775808:=by
 obtain ⟨a1,a2⟩:=ha
 obtain ⟨b1,b2⟩:=hb
 by_cases h:a.natAbs=0
 ·rw [h,Jx]; omega
 ·exact Nat.le_trans (Nat.gcd_le_left _ (by omega)) (by omega)
theorem Yh8 {p:Pt} (hp:p.wf) (hd:0<p.d):0<g4 p/\(g4 p:Int)<=p.d:=by
 have h1:g4 p ∣ p.d.natAbs:=Nat.dvd_trans (Nr _ _) (Nr _ _)
 have h2:=Nat.le_of_dvd (by omega) h1
 have h3:0<g4 p:=Nat.pos_of_dvd_of_pos h1 (by omega)
 omega
def ptIn (p:Pt):Bool:=within p.x (-(5000*p.d)) (5000*p.d)&&within p.y (-(5000*p.d)) (5000*p.d)&&within p.z (-(5000*p.d)) (5000*p.d)
def Xp (p:Pt):Int:=if p.d<=0\/g4 p≠1 then 3 else if 100000<p.d then 2 else if ptIn p then 0 else 2
theorem Zha {p:Pt} (h:Xp p=0):0<p.d/\p.d<=100000/\g4 p=1/\ptIn p=true:=by
 unfold Xp at h
 split at h
 ·cases h
 ·rename_i h1
  split at h
  ·cases h
  ·split at h
   ·rename_i h3; exact ⟨by omega,by omega,by omega,h3⟩
   ·cases h
theorem Zli (a b c d:Nat):Tk (Tk (Tk a b) c) d=Tk (Tk a b) (Tk c d):=by rw [Nat.gcd_assoc (Tk a b)]
def gl:Nat->List Int->Nat
 | g,[]=>g
 | g,n::l=>gl (Tk g n.natAbs) l
theorem c117 {ns:List Int} (hl:ns.length<1000) (hw:∀ n∈ns,i64 n):PCall Tryz.prog 173 [.isl 1 (nl ns)] ⟨I (Qa Qb ((gl 0 ns:Nat):Int)),[]⟩:=by
 have e3:=Zl ns
 refine bs.pv (sx:=nos) Zlc Tryz.func173 (by kernel_rfl) (by kernel_rfl) rfl ?_
 repeat'(first|refine wk1 ?_|(refine wk2 ?_ ?_<;>intro _)|refine wk4 ?_|fail);all_goals(conv=>whnf)
 refine Zt (S:=Nat × Int × Int) (fun t=>ns.length-t.1) (fun t=>[(3,I t.2.2),(6,.isl 1 (nl ns)),(7,I (nl ns).length),(8,I t.2.1)]) (fun _=>[]) 0 0 (fun t=>t.2.1=t.1/\t.1<=ns.length/\i64 t.2.2/\gl t.2.2.natAbs (ns.drop t.1)=gl 0 ns) (0,0,0) ⟨rfl,Qm _,(by unfold i64; decide),rfl⟩ (Qd _) [] rfl (kps) (kps) ?_
 rintro ⟨k,i,g⟩ ⟨hi,hk,hg,hh⟩
 dsimp only at hi hk hg hh ⊢
 subst hi
 refine bs.av (sx:=nos) Zlc ?_
 by_cases hlt:k<ns.length
 ·have e1:=Vo hlt
  have hn:=hw _ (Qq hlt)
  rw [Qi hlt,gl] at hh
  repeat'(first|refine wk1 ?_|(refine wk2 ?_ ?_<;>intro _)|refine wk4 ?_|fail);all_goals(conv=>whnf)
  refine Zt (S:=Int × Int) (fun t=>t.2.natAbs) (fun t=>[(3,I t.1),(5,I t.2),(6,.isl 1 (nl ns)),(7,I (nl ns).length),(8,I k)]) (fun _=>[]) 0 0 (fun t=>(i64 t.1/\i64 t.2)/\Tk t.1.natAbs t.2.natAbs=Tk g.natAbs ns[k].natAbs) (g,ns[k]) ⟨⟨hg,hn⟩,rfl⟩ (Qd _) [] rfl (kps) (kps) ?_
  rintro ⟨a,b⟩ ⟨⟨ha,hb⟩,hG⟩
  dsimp only at ha hb hG ⊢
  refine bs.av (sx:=nos) Zlc ?_
  by_cases h0:b=0
  ·subst h0
   repeat'(first|refine wk1 ?_|(refine wk2 ?_ ?_<;>intro _)|refine wk4 ?_|fail);all_goals(conv=>whnf)
   exact Qo ⟨(k+1,_,a),[],rfl,kps,kps,⟨Zg (by omega),hlt,ha,by rw [<-hh,<-hG]; simp⟩,by dsimp only; omega⟩
  ·repeat'(first|refine wk1 ?_|(refine wk2 ?_ ?_<;>intro _)|refine wk4 ?_|fail);all_goals(conv=>whnf)
   exact Qo ⟨(b,a.tmod b),[],rfl,kps,kps,⟨⟨hb,Zzu ha h0⟩,by rw [<-hG]; exact Ya8⟩,by
    show (a.tmod b).natAbs<b.natAbs
    rw [Gg]; exact Nat.mod_lt _ (by omega)⟩
 rw [Qk (by omega)] at hh
 repeat'(first|refine wk1 ?_|(refine wk2 ?_ ?_<;>intro _)|refine wk4 ?_|fail);all_goals(conv=>whnf)
 exact Za (by show size g=_; rw [Ycb hg,<-hh]; rfl)
theorem Yeu {d:Int} (h0:0<d) (h1:d<=100000):Qa Qb (5000*d)=5000*d/\Qa Qb (0-Qa Qb (5000*d)) = -(5000*d):=by
 have e:Qa Qb (5000*d)=5000*d:=W_eq (by omega) (by omega)
 refine ⟨e,?_⟩
 rw [e,W_eq (by omega) (by omega)]; omega
theorem c99 {p:Pt} (hp:p.wf):PCall Tryz.prog 159 [p.av] ⟨I (Xp p),[]⟩:=by
 have hc:=c117 (ns:=[p.x,p.y,p.z,p.d]) (by simp) (by
  intro n hn
  simp only [Rf,List.not_mem_nil,or_false] at hn
  rcases hn with rfl|rfl|rfl|rfl
  ·exact hp.x
  ·exact hp.y
  ·exact hp.z
  ·exact hp.d)
 have hg:gl 0 [p.x,p.y,p.z,p.d]=g4 p:=by
  simp only [gl,Jx]
  exact Zli _ _ _ _
 rw [hg] at hc
 have hk:=Ze hc Uu
 by_cases h1:p.d<=0
 ·have e:Xp p=3:=by unfold Xp; rw [if_pos (.inl h1)]
  rw [e]
  refine bs.pv (sx:=nos) hk Tryz.func159 (by kernel_rfl) (by kernel_rfl) rfl ?_
  repeat'(first|refine wk1 ?_|(refine wk2 ?_ ?_<;>intro _)|refine wk4 ?_|fail);all_goals(conv=>whnf)
  exact Za rfl
 ·obtain ⟨g1,g2⟩:=Yh8 hp (by omega)
  have hd:=hp.d
  unfold i64 at hd
  have hw:Qa Qb ((g4 p:Nat):Int)=(g4 p:Nat):=W_eq (by omega) (by omega)
  rw [hw] at hk
  by_cases h2:g4 p=1
  ·rw [h2] at hk
   by_cases h3:100000<p.d
   ·have e:Xp p=2:=by unfold Xp; rw [if_neg (by omega),if_pos h3]
    rw [e]
    refine bs.pv (sx:=nos) hk Tryz.func159 (by kernel_rfl) (by kernel_rfl) rfl ?_
    repeat'(first|refine wk1 ?_|(refine wk2 ?_ ?_<;>intro _)|refine wk4 ?_|fail);all_goals(conv=>whnf)
    exact Za rfl
   ·obtain ⟨m1,m2⟩:=Yeu (d:=p.d) (by omega) (by omega)
    have e:Xp p=if ptIn p then 0 else 2:=by unfold Xp; rw [if_neg (by omega),if_neg h3]
    have e2:∀ x,small x (Qa Qb (5000*p.d))=within x (-(5000*p.d)) (5000*p.d):=fun x=>by unfold small; rw [m2,m1]
    rw [e]
    unfold ptIn
    rw [<-e2,<-e2,<-e2]
    refine bs.pv (sx:=nos) hk Tryz.func159 (by kernel_rfl) (by kernel_rfl) rfl ?_
    repeat'(first|refine wk1 ?_|(refine wk2 ?_ ?_<;>intro _)|refine wk4 ?_|fail);all_goals(conv=>whnf)
    all_goals (clear hk hc m1 m2 e2)
    all_goals exact Za (by simp_all [unl])
  ·have e:Xp p=3:=by unfold Xp; rw [if_pos (.inr h2)]
   rw [e]
   have h4:(1:Int)<(g4 p:Nat):=by omega
   refine bs.pv (sx:=nos) hk Tryz.func159 (by kernel_rfl) (by kernel_rfl) rfl ?_
   repeat'(first|refine wk1 ?_|(refine wk2 ?_ ?_<;>intro _)|refine wk4 ?_|fail);all_goals(conv=>whnf)
   all_goals clear hk hc
   all_goals first
    | exact Za rfl
    | (exfalso; simp_all; done)
    | (exfalso; simp_all; omega)
noncomputable abbrev gcds:List AV->Option PRes:=famA (fun p:Int × Int=>i64 p.1/\i64 p.2) (fun p=>[I p.1,I p.2]) (fun p=>⟨I (Qa Qb ((Tk p.1.natAbs p.2.natAbs:Nat):Int)),[]⟩)
theorem Zms {a b:Int} (ha:i64 a) (hb:i64 b):gcds [I a,I b]=some ⟨I (Qa Qb ((Tk a.natAbs b.natAbs:Nat):Int)),[]⟩ :=
 Zm (p:=fun p:Int × Int=>i64 p.1/\i64 p.2) (g:=fun p=>[I p.1,I p.2]) (r:=fun p=>⟨I (Qa Qb ((Tk p.1.natAbs p.2.natAbs:Nat):Int)),[]⟩) (k:=(a,b)) (fun j hj=>by
  simp only [Qs,Sn,true_and,and_true] at hj
  obtain ⟨h1,h2⟩:=hj
  dsimp only
  rw [h1,h2]) ⟨ha,hb⟩
def insE (h:Hal) (p:Pt):Int:=if h.err=0 then Xp p else h.err
theorem Yem {p:Pt} (h:Xp p=0):PtOk p.x p.y p.d:=by
 obtain ⟨h1,h2,_,h4⟩:=Zha h
 unfold ptIn at h4
 simp only [Qc,within_iff] at h4
 exact ⟨h1,by omega,by omega,by omega⟩
theorem c50 {h:Hal} (hk:h.ok) {p:Pt} (hp:p.wf):PCall Tryz.prog 106 [h.av,p.av] ⟨.tup [Bo (decide (insE h p=0)&&Zae h p),I (insE h p)],[]⟩:=by
 have hk0:=Ze (c76 hk) (Ze (c99 hp) Zb)
 by_cases he:h.err=0
 ·have hi:insE h p=Xp p:=by unfold insE; rw [if_pos he]
  rw [hi]
  by_cases hq:Xp p=0
  ·have hf:=Zjx hk he
   have e:Zae h p=Zug h p.x p.y p.z p.d:=by
    unfold Zae Zug
    rw [Uv hf.st p.z (Yem hq)]
   have hk1:=Ze (c124 hk.f p.x p.y p.z p.d) hk0
   rw [hq,he] at hk1
   rw [hq,e]
   refine bs.pv (sx:=nos) hk1 Tryz.func106 (by kernel_rfl) (by kernel_rfl) rfl ?_
   repeat'(first|refine wk1 ?_|(refine wk2 ?_ ?_<;>intro _)|refine wk4 ?_|fail);all_goals(conv=>whnf)
   exact Zf (by simp) rfl
  ·rw [he] at hk0
   rw [decide_eq_false hq]
   refine bs.pv (sx:=nos) hk0 Tryz.func106 (by kernel_rfl) (by kernel_rfl) rfl ?_
   repeat'(first|refine wk1 ?_|(refine wk2 ?_ ?_<;>intro _)|refine wk4 ?_|fail);all_goals(conv=>whnf)
   exact Zf rfl rfl
 ·have hi:insE h p=h.err:=by unfold insE; rw [if_neg he]
  rw [hi,decide_eq_false he]
  refine bs.pv (sx:=nos) hk0 Tryz.func106 (by kernel_rfl) (by kernel_rfl) rfl ?_
  repeat'(first|refine wk1 ?_|(refine wk2 ?_ ?_<;>intro _)|refine wk4 ?_|fail);all_goals(conv=>whnf)
  exact Zf rfl rfl
theorem Yd5 (n:Nat):∃ r,r*r<=n/\n<(r+1)*(r+1):=by
 induction n with
 | zero=>exact ⟨0,by decide,by decide⟩
 | succ n ih =>
  obtain ⟨r,h1,h2⟩:=ih
  by_cases h:(r+1)*(r+1)<=n+1
  ·refine ⟨r+1,h,?_⟩
   have:(r+1+1)*(r+1+1)=(r+1)*(r+1)+2*(r+1)+1:=by grind
   omega
  ·exact ⟨r,by omega,by omega⟩
noncomputable def isq (n:Int):Int:=(Me (Yd5 n.toNat):Nat)
theorem Zeh {n:Int} (h:0<=n):0<=isq n/\isq n*isq n<=n/\n<(isq n+1)*(isq n+1):=by
 obtain ⟨h1,h2⟩:=Classical.choose_spec (Yd5 n.toNat)
 unfold isq
 generalize Me (Yd5 n.toNat)=r at *
 refine ⟨by omega,?_,?_⟩
 ·have:((r*r:Nat):Int)<=(n.toNat:Int):=by exact_mod_cast h1
  rw [Ks] at this; omega
 ·have:((n.toNat:Nat):Int)<(((r+1)*(r+1):Nat):Int):=by exact_mod_cast h2
  rw [Ks] at this
  have e:((r+1:Nat):Int)=(r:Int)+1:=by omega
  rw [e] at this; omega
theorem Zvn {a b:Int} (ha:0<=a) (h:a<=b):a*a<=b*b:=Ok h h ha (by omega)
theorem Zp7 {a b:Int} (hb:0<=b) (h:a*a<b*b) (ha:0<=a):a<b:=by
 rcases Ow a b with h1|h1
 ·exact h1
 ·have:=Zvn hb h1; omega
theorem Zld {n r:Int} (h0:0<=n) (hr:0<=r) (h1:r*r<=n) (h2:n<(r+1)*(r+1)):r=isq n:=by
 obtain ⟨g0,g1,g2⟩:=Zeh h0
 have a1:=Zp7 (a:=r) (b:=isq n+1) (by omega) (by omega) hr
 have a2:=Zp7 (a:=isq n) (b:=r+1) (by omega) (by omega) g0
 omega
theorem Zvo {r B:Int} (h0:0<=r) (h1:r<=B):0<=r*r/\r*r<=B*B:=⟨Qu h0 h0,Zvn h0 h1⟩
def bk:Nat->Int
 | 0=>0
 | k+1=>((2 ^ k:Nat):Int)
theorem Yf8 (k:Nat):Qa Qb ((bk (k+1)).tdiv 2)=bk k\/62<=k:=by
 by_cases hk:62<=k
 ·exact .inr hk
 refine .inl ?_
 have hb:2 ^ k<=2 ^ 62:=Sb (by decide) (by omega)
 unfold bk
 cases k with
 | zero=>decide
 | succ k =>
  dsimp only
  have e:((2 ^ (k+1):Nat):Int).tdiv 2=((2 ^ k:Nat):Int):=by
   rw [Ol (Jm _)]
   rw [Dk]; omega
  rw [e]
  rw [Dk] at hb
  have h1:(0:Int)<=((2 ^ k:Nat):Int):=Jm _
  exact W_eq (by omega) (by omega)
noncomputable def cr (n:Int):Int:=if isq n*isq n<n then isq n+1 else isq n
theorem Zyv {y:Nat} {r:Int} (h:floatToIntVal .f64 y .i64=some r):Zhq (tget tbl) 295 3 (.flt .f64 y)=some (I r):=by
 unfold floatToIntVal at h
 show (match (FloatKind.f64.decode y).toInt .zero with
  | some n=>cond (decide (IntKind.i64.min<=n/\n<=IntKind.i64.max)) (some (AV.int .i64 n)) none
  | none=>none)=_
 split at h
 ·rename_i n hn
  rw [hn]
  dsimp only
  split at h
  ·rename_i hr
   cases h
   rw [decide_eq_true hr]; rfl
  ·cases h
 ·cases h
theorem d211 {n:Int} (h0:0<=n) (h1:n<4611686018427387000):PCall Tryz.prog 145 [I n] ⟨I (isq n),[]⟩:=by
 obtain ⟨y,r0,e1,e2,e3,e4⟩:=Zz2 h0 h1
 refine bs.pv (sx:=nos) (Ze (c202 e1) Zb) Tryz.func145 (by kernel_rfl) (by kernel_rfl) rfl ?_
 have hc:=Zyv e2
 repeat'(first|refine wk1 ?_|(refine wk2 ?_ ?_<;>intro _)|refine wk4 ?_|fail);all_goals(conv=>whnf)
 split
 rotate_left
 ·rename_i hx
  exfalso
  change ret (Zhq (tget tbl) 295 3 (.flt .f64 y))=none at hx
  rw [hc] at hx
  cases hx
 rename_i x hx
 change ret (Zhq (tget tbl) 295 3 (.flt .f64 y))=some x at hx
 rw [hc] at hx
 cases hx
 repeat'(first|refine wk1 ?_|(refine wk2 ?_ ?_<;>intro _)|refine wk4 ?_|fail);all_goals(conv=>whnf)
 refine Zt (S:=Int) (fun t=>t.toNat) (fun t=>[(0,I n),(3,I t)]) (fun _=>[]) 0 0 (fun t=>0<=t/\t<=2147483648) r0 ⟨e3,e4⟩ (Qd _) [] rfl (kps) (kps) ?_
 clear e1 e2 e3 e4
 rintro r ⟨g1,g2⟩
 try dsimp only at g1 g2 ⊢
 have hb:=Zvo g1 g2
 have hw:Qa Qb (r*r)=r*r:=W_eq (by omega) (by omega)
 refine bs.av (sx:=nos) Zb ?_
 by_cases hc:n<r*r
 ·have hp:0<r:=by
   rcases Ow 0 r with h|h
   ·exact h
   ·have:r=0:=by omega
    subst this; omega
  repeat'(first|refine wk1 ?_|(refine wk2 ?_ ?_<;>intro _)|refine wk4 ?_|fail);all_goals(conv=>whnf)
  have hv:Qa Qb (r-1)=r-1:=W_eq (by omega) (by omega)
  exact Qo ⟨_,[],rfl,kps,kps,⟨by omega,by omega⟩,by omega⟩
 ·repeat'(first|refine wk1 ?_|(refine wk2 ?_ ?_<;>intro _)|refine wk4 ?_|fail);all_goals(conv=>whnf)
  refine Zt (S:=Int) (fun t=>(n-t).toNat) (fun t=>[(0,I n),(3,I t)]) (fun _=>[]) 0 0 (fun t=>0<=t/\t*t<=n) r ⟨g1,by omega⟩ (Qd _) [] rfl (kps) (kps) ?_
  clear hc hw hb g1 g2
  rintro r ⟨g1,g2⟩
  try dsimp only at g1 g2 ⊢
  have g3:r<2147483648:=Zp7 (by omega) (by omega) g1
  have hw1:Qa Qb (r+1)=r+1:=W_eq (by omega) (by omega)
  have hb:=Zvo (r:=r+1) (B:=2147483648) (by omega) (by omega)
  have hw2:Qa Qb (Qa Qb (r+1)*Qa Qb (r+1))=(r+1)*(r+1):=by rw [hw1]; exact W_eq (by omega) (by omega)
  refine bs.av (sx:=nos) Zb ?_
  by_cases hc:(r+1)*(r+1)<=n
  ·repeat'(first|refine wk1 ?_|(refine wk2 ?_ ?_<;>intro _)|refine wk4 ?_|fail);all_goals(conv=>whnf)
   have hrn:r<n:=by
    have:(r+1)*(r+1)=r*r+2*r+1:=by grind
    have hz:=Qu g1 g1
    omega
   exact Qo ⟨_,[],rfl,kps,kps,⟨by omega,by rw [hw1]; exact hc⟩,by rw [hw1]; omega⟩
  ·repeat'(first|refine wk1 ?_|(refine wk2 ?_ ?_<;>intro _)|refine wk4 ?_|fail);all_goals(conv=>whnf)
   exact Za (Zld h0 g1 g2 (by omega))
theorem d172 {n:Int} (h0:0<=n) (h1:n<4611686018427387000):PCall Tryz.prog 139 [I n] ⟨I (isq n),[]⟩:=by
 refine bs.pv (sx:=nos) Zb Tryz.func139 (by kernel_rfl) (by kernel_rfl) rfl ?_
 conv=>whnf
 refine Zt (S:=Nat × Int) (fun t=>t.1) (fun t=>[(0,I n),(3,I t.2),(4,I (bk t.1))]) (fun _=>[]) 0 0 (fun t=>t.1<=31/\(0<=t.2/\t.2+((2 ^ t.1:Nat):Int)<=2147483648)/\t.2*t.2<=n/\n<(t.2+((2 ^ t.1:Nat):Int))*(t.2+((2 ^ t.1:Nat):Int))) (31,0) ⟨by decide,⟨by decide,by decide⟩,by simpa using h0,by
  have:((0:Int)+((2 ^ 31:Nat):Int))*(0+((2 ^ 31:Nat):Int))=4611686018427387904:=by decide
  show n<((0:Int)+((2 ^ 31:Nat):Int))*(0+((2 ^ 31:Nat):Int))
  omega⟩ (Qd _) [] rfl (kps) (kps) ?_
 rintro ⟨k,r⟩ ⟨g0,⟨g1,g5⟩,g2,g3⟩
 dsimp only at g0 g1 g2 g3 g5 ⊢
 have g4:r<2147483648:=Zp7 (by omega) (by omega) g1
 refine bs.av (sx:=nos) Zb ?_
 cases k with
 | zero =>
  repeat'(first|refine wk1 ?_|(refine wk2 ?_ ?_<;>intro _)|refine wk4 ?_|fail);all_goals(conv=>whnf)
  exact Za (Zld h0 g1 g2 (by simpa using g3))
 | succ k =>
  have hb:2 ^ k<=2 ^ 30:=Sb (by decide) (by omega)
  have hp:0<2 ^ k:=Nat.pow_pos (by decide)
  have hh:Qa Qb ((bk (k+1)).tdiv 2)=bk k:=(Yf8 k).resolve_right (by omega)
  have hk1:bk (k+1)=((2 ^ k:Nat):Int):=rfl
  have e2:((2 ^ (k+1):Nat):Int)=2*((2 ^ k:Nat):Int):=by rw [Dk]; omega
  rw [e2] at g3 g5
  rw [hk1] at hh ⊢
  generalize hbk:((2 ^ k:Nat):Int)=b at *
  have hb' : 0<b/\b<=1073741824:=by omega
  have hw1:Qa Qb (r+b)=r+b:=W_eq (by omega) (by omega)
  have hq:=Zvo (r:=r+b) (B:=2147483648) (by omega) (by omega)
  have hw2:Qa Qb (Qa Qb (r+b)*Qa Qb (r+b))=(r+b)*(r+b):=by rw [hw1]; exact W_eq (by omega) (by omega)
  by_cases hc:(r+b)*(r+b)<=n
  ·repeat'(first|refine wk1 ?_|(refine wk2 ?_ ?_<;>intro _)|refine wk4 ?_|fail);all_goals(conv=>whnf)
   exact Qo ⟨(k,Qa Qb (r+b)),[],rfl,by rw [<-hh]; exact kps,kps,⟨by omega,⟨by dsimp only; omega,by dsimp only; rw [hbk,hw1]; omega⟩,by dsimp only; rw [hw1]; exact hc,by
    dsimp only
    rw [hw1]
    have:r+b+b=r+2*b:=by omega
    rw [hbk,this]; exact g3⟩,by dsimp only; omega⟩
  ·repeat'(first|refine wk1 ?_|(refine wk2 ?_ ?_<;>intro _)|refine wk4 ?_|fail);all_goals(conv=>whnf)
   exact Qo ⟨(k,r),[],rfl,by rw [<-hh]; exact kps,kps,⟨by omega,⟨g1,by dsimp only; rw [hbk]; omega⟩,g2,by dsimp only; rw [hbk]; omega⟩,by dsimp only; omega⟩
theorem d173 {n:Int} (h0:0<=n) (h1:n<4611686018427387000):PCall Tryz.prog 140 [I n] ⟨I (if isq n*isq n<n then isq n+1 else isq n),[]⟩:=by
 obtain ⟨g1,g2,g3⟩:=Zeh h0
 have g4:isq n<2147483648:=Zp7 (by omega) (by omega) g1
 have hb:=Zvo g1 (show isq n<=2147483648 by omega)
 have hw:Qa Qb (isq n*isq n)=isq n*isq n:=W_eq (by omega) (by omega)
 have hw2:Qa Qb (isq n+1)=isq n+1:=W_eq (by omega) (by omega)
 refine bs.pv (sx:=nos) (Ze (d172 h0 h1) Zb) Tryz.func140 (by kernel_rfl) (by kernel_rfl) rfl ?_
 by_cases hc:isq n*isq n<n
 ·rw [if_pos hc]
  repeat'(first|refine wk1 ?_|(refine wk2 ?_ ?_<;>intro _)|refine wk4 ?_|fail);all_goals(conv=>whnf)
  exact Za hw2
 ·rw [if_neg hc]
  repeat'(first|refine wk1 ?_|(refine wk2 ?_ ?_<;>intro _)|refine wk4 ?_|fail);all_goals(conv=>whnf)
  exact Za rfl
structure Pth where
 ss:List Int
 ps:List (Int × Int × Int × Int)
 sq:Int
abbrev hp4 (p:Int × Int × Int × Int):List AV:=[I p.1,I p.2.1,I p.2.2.1,I p.2.2.2]
abbrev Pth.av (p:Pth):AV:=.agg [.isl 1 (nl p.ss),.isl 4 (p.ps.map hp4),I p.sq]
def pthE (p:Pth):Int:=if (p.ps.length:Int)=p.ss.length then (if 4<(p.ss.length:Int) then 8 else (if within p.sq 1 24300000000 then 0 else 2)) else 10
theorem Zay {p:Pth} (h:pthE p=0):(p.ss.length<=4/\p.ps.length=p.ss.length)/\1<=p.sq/\p.sq<=24300000000:=by
 unfold pthE at h
 split at h
 ·split at h
  ·cases h
  ·split at h
   ·rename_i a b c
    have:=within_iff.1 c
    omega
   ·cases h
 ·cases h
theorem d210 (n lo hi:Int):PCall Tryz.prog 108 [I n,I lo,I hi] ⟨Bo (within n lo hi),[]⟩:=by
 refine bs.pv (sx:=nos) Zb Tryz.func108 (by kernel_rfl) (by kernel_rfl) rfl ?_
 repeat'(first|refine wk3 ?_|(refine wk2 ?_ ?_<;>intro _)|refine wk4 ?_|fail);all_goals(conv=>whnf)
 all_goals exact Zd (by simp_all [within]<;>omega)
theorem d209 (b:Bool) (e:Int):PCall Tryz.prog 66 [Bo b,I e] ⟨I (unl b e),[]⟩:=by
 refine bs.pv (sx:=nos) Zb Tryz.func66 (by kernel_rfl) (by kernel_rfl) rfl ?_
 repeat'(first|refine wk3 ?_|(refine wk2 ?_ ?_<;>intro _)|refine wk4 ?_|fail);all_goals(conv=>whnf)
 all_goals exact Za (by simp_all [unl])
noncomputable def lenV (sq:Int):Int × Int:=(isq (sq*100000000),cr (sq*100000000))
theorem Zqk {sq:Int} (h0:1<=sq) (h1:sq<=24300000000):(0<=(lenV sq).1/\(lenV sq).1<2147483648)/\(lenV sq).1<=(lenV sq).2/\(lenV sq).2<=(lenV sq).1+1:=by
 obtain ⟨g1,g2,g3⟩:=Zeh (n:=sq*100000000) (by omega)
 have g4:isq (sq*100000000)<2147483648:=Zp7 (by omega) (by omega) g1
 unfold lenV cr
 dsimp only
 split<;>omega
theorem d163 {p:Pth} (h:pthE p=0):PCall Tryz.prog 95 [p.av] ⟨P2 (lenV p.sq).1 (lenV p.sq).2,[]⟩:=by
 obtain ⟨_,s1,s2⟩:=Zay h
 have w1:Qa Qb (p.sq*100000000)=p.sq*100000000:=W_eq (by omega) (by omega)
 obtain ⟨g1,g2,g3⟩:=Zeh (n:=p.sq*100000000) (by omega)
 have g4:isq (p.sq*100000000)<2147483648:=Zp7 (by omega) (by omega) g1
 have hb:=Zvo g1 (show isq (p.sq*100000000)<=2147483648 by omega)
 have h0:=Ze (d211 (n:=p.sq*100000000) (by omega) (by omega)) Zb
 unfold lenV cr
 rw [<-w1] at g1 g2 g3 g4 hb h0 ⊢
 have w2:Qa Qb (isq (Qa Qb (p.sq*100000000))*isq (Qa Qb (p.sq*100000000)))=isq (Qa Qb (p.sq*100000000))*isq (Qa Qb (p.sq*100000000)):=W_eq (by omega) (by omega)
 have w3:Qa Qb (isq (Qa Qb (p.sq*100000000))+1)=isq (Qa Qb (p.sq*100000000))+1:=W_eq (by omega) (by omega)
 generalize isq (Qa Qb (p.sq*100000000))=r at *
 dsimp only
 by_cases c:r*r<Qa Qb (p.sq*100000000)
 ·rw [if_pos c,<-w3]
  rw [<-w2] at c
  refine bs.pv (sx:=nos) h0 Tryz.func95 (by kernel_rfl) (by kernel_rfl) rfl ?_
  repeat'(first|refine wk3 ?_|(refine wk2 ?_ ?_<;>intro _)|refine wk4 ?_|fail);all_goals(conv=>whnf)
  all_goals exact Zf rfl rfl
 ·rw [if_neg c]
  rw [<-w2] at c
  refine bs.pv (sx:=nos) h0 Tryz.func95 (by kernel_rfl) (by kernel_rfl) rfl ?_
  repeat'(first|refine wk3 ?_|(refine wk2 ?_ ?_<;>intro _)|refine wk4 ?_|fail);all_goals(conv=>whnf)
  all_goals exact Zf rfl rfl
noncomputable def lenP (p:Pth):Int × Int:=if pthE p=0 then lenV p.sq else (0,0)
def fstL:List Int->Int
 | []=>0
 | x::l=>if x≠0 then x else fstL l
theorem Zxs (x:Int) (l:List Int):fstL (x::l)=if x≠0 then x else fstL l:=rfl
theorem d78 {l:List Int} (hl:l.length<1000):PCall Tryz.prog 64 [.isl 1 (nl l)] ⟨I (fstL l),[]⟩:=by
 have l2:=Zl l
 refine bs.pv (sx:=nos) Zb Tryz.func64 (by kernel_rfl) (by kernel_rfl) rfl ?_
 repeat'(first|refine wk3 ?_|(refine wk2 ?_ ?_<;>intro _)|refine wk4 ?_|fail);all_goals(conv=>whnf)
 refine Zt (S:=Nat × Int) (fun t=>l.length-t.1) (fun t=>[(5,.isl 1 (nl l)),(6,I (nl l).length),(7,I t.2)]) (fun _=>[]) 0 0 (fun t=>t.2=t.1/\t.1<=l.length/\fstL (l.drop t.1)=fstL l) (0,0) ⟨rfl,Qm _,rfl⟩ (Qd _) [] rfl (kps) (kps) ?_
 rintro ⟨k,i⟩ ⟨hi,hk,hh⟩
 dsimp only at hi hk hh ⊢
 subst hi
 generalize fstL l=R at *
 refine bs.av (sx:=nos) Zb ?_
 by_cases hlt:k<l.length
 ·have e1:=Vo hlt
  rw [Qi hlt,Zxs] at hh
  generalize l[k]=x at *
  by_cases hx:x=0
  ·rw [if_neg (fun c=>c hx)] at hh
   repeat'(first|refine wk3 ?_|(refine wk2 ?_ ?_<;>intro _)|refine wk4 ?_|fail);all_goals(conv=>whnf)
   exact Qo ⟨(k+1,_),[],rfl,kps,kps,⟨Zg (by omega),hlt,hh⟩,by dsimp only; omega⟩
  ·rw [if_pos hx] at hh
   subst hh
   repeat'(first|refine wk3 ?_|(refine wk2 ?_ ?_<;>intro _)|refine wk4 ?_|fail);all_goals(conv=>whnf)
   exact Za rfl
 ·rw [Qk (by omega)] at hh
  repeat'(first|refine wk3 ?_|(refine wk2 ?_ ?_<;>intro _)|refine wk4 ?_|fail);all_goals(conv=>whnf)
  exact Za hh
def r78f:List AV->Option PRes
 | [.isl 1 l]=>match numsOf l with
  | some ns=>asr (Nat.blt ns.length 1000) ⟨I (fstL ns),[]⟩
  | none=>none
 | _=>none
where
 numsOf:List (List AV)->Option (List Int)
  | []=>some []
  | [.int .i64 n]::l=>match numsOf l with
   | some ns=>some (n::ns)
   | none=>none
  | _=>none
theorem Znz:∀ {l:List (List AV)} {ns:List Int},r78f.numsOf l=some ns->l=nl ns
 | [],ns,h=>by cases h; rfl
 | e::l,ns,h=>by
  unfold r78f.numsOf at h
  split at h
  ·rename_i h0; cases h0
  ·rename_i n l' h0
   cases h0
   split at h
   ·rename_i ms hm
    cases h
    rw [Znz hm]; rfl
   ·cases h
  ·cases h
theorem d86 (n m:Int):PCall Tryz.prog 105 [I n,I m] ⟨Bo (small n m),[]⟩:=by
 have hk:PCOK Tryz.prog (ins 108 (fun a=>match a with
  | [.int .i64 n,.int .i64 lo,.int .i64 hi]=>some ⟨Bo (within n lo hi),[]⟩
  | _=>none) pt0):=Zh (fun a res h=>by split at h<;>cases h; exact d210 _ _ _) Zb
 refine bs.pv (sx:=nos) hk Tryz.func105 (by kernel_rfl) (by kernel_rfl) rfl ?_
 repeat'(first|refine wk3 ?_|(refine wk2 ?_ ?_<;>intro _)|refine wk4 ?_|fail);all_goals(conv=>whnf)
 exact Zd rfl
def rWu:List AV->Option PRes
 | [.int .i64 n,.int .i64 lo,.int .i64 hi]=>some ⟨Bo (within n lo hi),[]⟩
 | _=>none
def rUn:List AV->Option PRes
 | [.bool b,.int .i64 e]=>some ⟨I (unl b e),[]⟩
 | _=>none
def kI0:PC:=ins 64 r78f (ins 66 rUn (ins 108 rWu (ins 105 r92 k78)))
theorem Zsj:PCOK Tryz.prog kI0:=by
 refine Zh (fun a res h=>?_) (Zh (fun a res h=>?_) (Zh (fun a res h=>?_) (Zh (fun a res h=>?_) Zw2)))
 ·unfold r78f at h
  split at h
  ·split at h
   ·rename_i ns hn
    obtain ⟨h1,rfl⟩:=Vi h
    rw [Znz hn]
    exact d78 (by simpa [Nat.blt_eq] using h1)
   ·cases h
  ·cases h
 ·unfold rUn at h; split at h<;>cases h; exact d209 _ _
 ·unfold rWu at h; split at h<;>cases h; exact d210 _ _ _
 ·unfold r92 at h; split at h<;>cases h; exact d86 _ _
theorem Yak (p:Pth):pthE p=fstL [unl (decide (((p.ps.map hp4).length:Int)=((nl p.ss).length:Int))) 10,unl (decide (((nl p.ss).length:Int)<=4)) 8,unl (within p.sq 1 24300000000) 2]:=by
 have l1:(p.ps.map hp4).length=p.ps.length:=by simp
 rw [l1,Zl]
 unfold pthE fstL fstL fstL fstL unl
 by_cases c1:(p.ps.length:Int)=p.ss.length
 ·by_cases c2:4<(p.ss.length:Int)
  ·rw [if_pos c1,if_pos c2,decide_eq_true c1,decide_eq_false (by omega)]; rfl
  ·rw [if_pos c1,if_neg c2,decide_eq_true c1,decide_eq_true (by omega)]; cases within p.sq 1 24300000000<;>rfl
 ·rw [if_neg c1,decide_eq_false c1]; rfl
theorem d162 (p:Pth):PCall Tryz.prog 74 [p.av] ⟨I (pthE p),[]⟩:=by
 rw [Yak]
 refine bs.pv (sx:=nos) Zsj Tryz.func74 (by kernel_rfl) (by kernel_rfl) rfl ?_
 repeat'(first|refine wk3 ?_|(refine wk2 ?_ ?_<;>intro _)|refine wk4 ?_|fail);all_goals(conv=>whnf)
 exact Za rfl
def spE (n:Int):Int:=unl (within n 30000 40000) 2
theorem d99s (n:Int):PCall Tryz.prog 75 [I n] ⟨I (spE n),[]⟩:=by
 refine bs.pv (sx:=nos) Zsj Tryz.func75 (by kernel_rfl) (by kernel_rfl) rfl ?_
 repeat'(first|refine wk3 ?_|(refine wk2 ?_ ?_<;>intro _)|refine wk4 ?_|fail);all_goals(conv=>whnf)
 exact Za rfl
abbrev Yib (h:Hal):Prop:=(9<h.ws.length/\h.ws.length<=12)\/14<h.ws.length\/14<h.cs.length\/4<h.ms.length\/2<h.ks.length\/3<h.ss.length
def Zk6 (h:Hal):Bool:=Yk h.nm&&Yk h.fl&&Yk h.ce
def few2 (h:Hal):Bool:=(!decide (Yib h)&&Zk6 h)&&(h.ws.all fewW&&(h.ms.all fewM&&(h.ks.all fewC&&h.ss.all fewS)))
theorem Yfp {h:Hal} (hb:few2 h=true):h.ok:=by
 unfold few2 Zk6 at hb
 simp only [Qc,Sl,decide_eq_false_iff_not] at hb
 obtain ⟨⟨hL,⟨n1,n2⟩,n3⟩,m2,m1,m3,m4⟩:=hb
 have hL:¬ ((9<h.ws.length/\h.ws.length<=12)\/14<h.ws.length\/14<h.cs.length\/4<h.ms.length\/2<h.ks.length\/3<h.ss.length):=hL
 rw [List.all_eq_true] at m1 m2 m3 m4
 refine ⟨⟨by omega,by omega,by omega,by omega,by omega,fun c hc=>?_⟩,⟨Zbs n1,fun m hm=>Zbs (m1 m hm),fun m hm=>?_,fun m hm=>?_,fun m hm=>Zbs (m4 m hm)⟩⟩
 ·have:=m3 c hc
  unfold fewC at this
  simp only [Qc,Sl,decide_eq_false_iff_not] at this
  omega
 ·have:=m2 m hm
  unfold fewW at this
  simp only [Qc] at this
  exact Zbs this.1.1
 ·have:=m3 m hm
  unfold fewC at this
  simp only [Qc] at this
  exact Zbs this.1.1
theorem sh_n {s:ByteArray} (h:Yk s=true):¬ (20:Int)<(s.size:Int):=by
 unfold Yk at h
 simpa using h
theorem d80 (h:Hal):PCall Tryz.prog 30 [h.av] ⟨Bo (few2 h),[]⟩:=by
 have l1:=Yy h.ms
 have l2:(h.cs.map pt).length=h.cs.length:=by simp
 have l3:=Yo h.ws
 have l4:=Xc h.ks
 have l5:=Zdi h.ss
 by_cases hP:Yib h
 ·have e0:few2 h=false:=by unfold few2; rw [decide_eq_true hP]; rfl
  rw [e0]
  clear e0
  have hP:(9<h.ws.length/\h.ws.length<=12)\/14<h.ws.length\/14<h.cs.length\/4<h.ms.length\/2<h.ks.length\/3<h.ss.length:=hP
  refine bs.pv (sx:=nos) Zb Tryz.func30 (by kernel_rfl) (by kernel_rfl) rfl ?_
  repeat'(first|refine wk3 ?_|(refine wk2 ?_ ?_<;>intro _)|refine wk4 ?_|fail);all_goals(conv=>whnf)
  all_goals first
   | exact Zd rfl
   | (exfalso; simp_all; omega)
 have hP' : ¬ ((9<h.ws.length/\h.ws.length<=12)\/14<h.ws.length\/14<h.cs.length\/4<h.ms.length\/2<h.ks.length\/3<h.ss.length):=hP
 have hw:h.ws.length<=9\/12<h.ws.length:=by omega
 unfold few2
 rw [decide_eq_false hP,Bool.not_false,Wg]
 clear hP
 by_cases hN:Zk6 h=true
 rotate_left
 ·have hN:Zk6 h=false:=by simpa using hN
  rw [hN,Ny]
  unfold Zk6 at hN
  rcases hw with hw|hw
  all_goals
   refine bs.pv (sx:=nos) Zb Tryz.func30 (by kernel_rfl) (by kernel_rfl) rfl ?_
   repeat'(first|refine wk3 ?_|(refine wk2 ?_ ?_<;>intro _)|refine wk4 ?_|fail);all_goals(conv=>whnf)
  all_goals first
   | exact Zd rfl
   | (exfalso; simp_all [Yk]; done)
   | (exfalso; simp_all [Yk]; omega)
 rw [hN,Wg]
 unfold Zk6 at hN
 simp only [Qc] at hN
 obtain ⟨⟨n1,n2⟩,n3⟩:=hN
 have n1:=sh_n n1
 have n2:=sh_n n2
 have n3:=sh_n n3
 generalize hE:(h.ws.all fewW&&(h.ms.all fewM&&(h.ks.all fewC&&h.ss.all fewS)))=R
 rcases hw with hw|hw
 all_goals
  refine bs.pv (sx:=nos) Zb Tryz.func30 (by kernel_rfl) (by kernel_rfl) rfl ?_
  repeat'(first|refine wk3 ?_|(refine wk2 ?_ ?_<;>intro _)|refine wk4 ?_|fail);all_goals(conv=>whnf)
  clear n1 n2 n3
  subst hE
  generalize hV:(h.ms.all fewM&&(h.ks.all fewC&&h.ss.all fewS))=V
  refine Zt (S:=Nat × Int) (fun t=>h.ws.length-t.1) (fun t=>[(1,.ptr 0 0 0),(2,Bo false),(3,I t.2)]) (fun _=>[(0,.row 9 [h.cells] true false)]) 1 1 (fun t=>t.2=t.1/\t.1<=h.ws.length/\((h.ws.drop t.1).all fewW&&V)=(h.ws.all fewW&&V)) (0,0) ⟨rfl,Qm _,rfl⟩ (Qd _) [] rfl (kps) (kps) ?_
  rintro ⟨k,i⟩ ⟨hi,hk,hh⟩
  dsimp only at hi hk hh ⊢
  subst hi
  generalize hB:(h.ws.all fewW&&V)=B at *
  clear hB
  refine bs.av (sx:=nos) Zb ?_
  by_cases hlt:k<h.ws.length
  ·clear hV
   have e1:=Zir hlt
   rw [Qi hlt,Ml] at hh
   generalize h.ws[k]=m at *
   have hm:∀ b,fewW m=b->(b&&(h.ws.drop (k+1)).all fewW&&V)=B:=fun b e=>by rw [<-e,Pu]; rw [Pu] at hh; exact hh
   clear hh
   repeat'(first|refine wk3 ?_|(refine wk2 ?_ ?_<;>intro _)|refine wk4 ?_|fail);all_goals(conv=>whnf)
   all_goals clear e1
   all_goals first
    | exact Zd (hm false (by clear hm; simp_all [fewW,Yk]; done))
    | exact Qo ⟨(k+1,_),[],rfl,kps,kps,⟨Zg (by omega),hlt,hm true (by clear hm; simp_all [fewW,Yk]; done)⟩,by dsimp only; omega⟩
  rw [Qk (by omega)] at hh
  have hh:V=B:=hh
  subst hh
  subst hV
  repeat'(first|refine wk3 ?_|(refine wk2 ?_ ?_<;>intro _)|refine wk4 ?_|fail);all_goals(conv=>whnf)
  clear hlt hk
  generalize hV:(h.ks.all fewC&&h.ss.all fewS)=V
  refine Zt (S:=Nat × Int) (fun t=>h.ms.length-t.1) (fun t=>[(1,.ptr 0 0 0),(2,Bo false),(4,I t.2)]) (fun _=>[(0,.row 9 [h.cells] true false)]) 1 1 (fun t=>t.2=t.1/\t.1<=h.ms.length/\((h.ms.drop t.1).all fewM&&V)=(h.ms.all fewM&&V)) (0,0) ⟨rfl,Qm _,rfl⟩ (Qd _) [] rfl (kps) (kps) ?_
  rintro ⟨k,i⟩ ⟨hi,hk,hh⟩
  dsimp only at hi hk hh ⊢
  subst hi
  generalize hB:(h.ms.all fewM&&V)=B at *
  clear hB
  refine bs.av (sx:=nos) Zb ?_
  by_cases hlt:k<h.ms.length
  ·clear hV
   have e1:=Zn3 hlt
   rw [Qi hlt,Ml] at hh
   generalize h.ms[k]=m at *
   have hm:∀ b,fewM m=b->(b&&(h.ms.drop (k+1)).all fewM&&V)=B:=fun b e=>by rw [<-e,Pu]; rw [Pu] at hh; exact hh
   clear hh
   repeat'(first|refine wk3 ?_|(refine wk2 ?_ ?_<;>intro _)|refine wk4 ?_|fail);all_goals(conv=>whnf)
   all_goals clear e1
   all_goals first
    | exact Zd (hm false (by clear hm; simp_all [fewM,Yk]; done))
    | exact Qo ⟨(k+1,_),[],rfl,kps,kps,⟨Zg (by omega),hlt,hm true (by clear hm; simp_all [fewM,Yk]; done)⟩,by dsimp only; omega⟩
  rw [Qk (by omega)] at hh
  have hh:V=B:=hh
  subst hh
  subst hV
  repeat'(first|refine wk3 ?_|(refine wk2 ?_ ?_<;>intro _)|refine wk4 ?_|fail);all_goals(conv=>whnf)
  clear hlt hk
  generalize hV:h.ss.all fewS=V
  refine Zt (S:=Nat × Int) (fun t=>h.ks.length-t.1) (fun t=>[(1,.ptr 0 0 0),(2,Bo false),(5,I t.2)]) (fun _=>[(0,.row 9 [h.cells] true false)]) 1 1 (fun t=>t.2=t.1/\t.1<=h.ks.length/\((h.ks.drop t.1).all fewC&&V)=(h.ks.all fewC&&V)) (0,0) ⟨rfl,Qm _,rfl⟩ (Qd _) [] rfl (kps) (kps) ?_
  rintro ⟨k,i⟩ ⟨hi,hk,hh⟩
  dsimp only at hi hk hh ⊢
  subst hi
  generalize hB:(h.ks.all fewC&&V)=B at *
  clear hB
  refine bs.av (sx:=nos) Zb ?_
  by_cases hlt:k<h.ks.length
  ·clear hV
   have e1:=Zd4 hlt
   rw [Qi hlt,Ml] at hh
   generalize h.ks[k]=m at *
   have e9:=Zl m.hs
   have hm:∀ b,fewC m=b->(b&&(h.ks.drop (k+1)).all fewC&&V)=B:=fun b e=>by rw [<-e,Pu]; rw [Pu] at hh; exact hh
   clear hh
   repeat'(first|refine wk3 ?_|(refine wk2 ?_ ?_<;>intro _)|refine wk4 ?_|fail);all_goals(conv=>whnf)
   all_goals clear e1
   all_goals first
    | exact Zd (hm false (by clear hm; simp_all [fewC,Yk]; done))
    | exact Qo ⟨(k+1,_),[],rfl,kps,kps,⟨Zg (by omega),hlt,hm true (by clear hm; simp_all [fewC,Yk]; done)⟩,by dsimp only; omega⟩
  rw [Qk (by omega)] at hh
  have hh:V=B:=hh
  subst hh
  subst hV
  repeat'(first|refine wk3 ?_|(refine wk2 ?_ ?_<;>intro _)|refine wk4 ?_|fail);all_goals(conv=>whnf)
  clear hlt hk
  refine Zt (S:=Nat × Int) (fun t=>h.ss.length-t.1) (fun t=>[(1,.ptr 0 0 0),(2,Bo false),(6,I t.2)]) (fun _=>[(0,.row 9 [h.cells] true false)]) 1 1 (fun t=>t.2=t.1/\t.1<=h.ss.length/\((h.ss.drop t.1).all fewS)=(h.ss.all fewS)) (0,0) ⟨rfl,Qm _,rfl⟩ (Qd _) [] rfl (kps) (kps) ?_
  rintro ⟨k,i⟩ ⟨hi,hk,hh⟩
  dsimp only at hi hk hh ⊢
  subst hi
  generalize hB:(h.ss.all fewS)=B at *
  clear hB
  refine bs.av (sx:=nos) Zb ?_
  by_cases hlt:k<h.ss.length
  ·have e1:=Zr0 hlt
   rw [Qi hlt,Ml] at hh
   generalize h.ss[k]=m at *
   have hm:∀ b,fewS m=b->(b&&(h.ss.drop (k+1)).all fewS)=B:=fun b e=>by rw [<-e]; exact hh
   clear hh
   repeat'(first|refine wk3 ?_|(refine wk2 ?_ ?_<;>intro _)|refine wk4 ?_|fail);all_goals(conv=>whnf)
   all_goals clear e1
   all_goals first
    | exact Zd (hm false (by clear hm; simp_all [fewS,Yk]; done))
    | exact Qo ⟨(k+1,_),[],rfl,kps,kps,⟨Zg (by omega),hlt,hm true (by clear hm; simp_all [fewS,Yk]; done)⟩,by dsimp only; omega⟩
  rw [Qk (by omega)] at hh
  repeat'(first|refine wk3 ?_|(refine wk2 ?_ ?_<;>intro _)|refine wk4 ?_|fail);all_goals(conv=>whnf)
  exact Zd hh
def few3 (h:Hal) (s:Stg):Bool:=few2 h&&(decide (s.hs.length<=4)&&decide (s.dr.length<=10))
theorem Zx0 {h:Hal} {s:Stg} (r:few3 h s=true):h.ok/\s.few:=by
 unfold few3 at r
 simp only [Qc,decide_eq_true_eq] at r
 exact ⟨Yfp r.1,by omega,by omega⟩
theorem d90 {h:Hal} (hk:h.ok):PCall Tryz.prog 40 [h.av] ⟨I h.err,[]⟩:=by
 refine bs.pv (sx:=nos) (Ze (c65k hk) Zb) Tryz.func40 (by kernel_rfl) (by kernel_rfl) rfl ?_
 repeat'(first|refine wk3 ?_|(refine wk2 ?_ ?_<;>intro _)|refine wk4 ?_|fail);all_goals(conv=>whnf)
 exact Za rfl
def nsN (h:Hal):Nat:=h.ws.length+2+h.ks.length
theorem Zwo (h:Hal):(nsN h:Int)=nsur h:=by unfold nsN nsur; omega
theorem Zz0 (h:Hal):(sl (surf h)).length=nsN h:=by
 rw [Zi1]; unfold surf Zfu Zge nsN; simp; omega
def wkG (n:Int):Option Int->List Int->Int
 | _,[]=>0
 | q,x::l=>if within x 0 n then (if q=some x then 26 else wkG n (some x) l) else 6
def suE (h:Hal) (l:List Int):Int:=if 4<(l.length:Int) then 8 else wkG (nsur h-1) none l
theorem Zu2 {n:Int}:∀ {l:List Int} {q:Option Int},wkG n q l=0->∀ x∈l,0<=x/\x<=n
 | [],_,_,x,hx=>by simp at hx
 | y::l,q,h,x,hx=>by
  rw [wkG] at h
  split at h
  ·rename_i c
   split at h
   ·cases h
   ·rw [Rf] at hx
    rcases hx with rfl|hx
    ·exact within_iff.1 c
    ·exact Zu2 h x hx
  ·cases h
theorem d85 (p:Pth):PCall Tryz.prog 57 [p.av] ⟨.tup [P2 (lenP p).1 (lenP p).2,I (pthE p)],[]⟩:=by
 unfold lenP
 have h1:=d162 p
 by_cases c:pthE p=0
 ·have h2:=Ze (d163 c) (Ze h1 Zb)
  rw [if_pos c]
  rw [c] at h2 ⊢
  generalize lenV p.sq=L at *
  refine bs.pv (sx:=nos) h2 Tryz.func57 (by kernel_rfl) (by kernel_rfl) rfl ?_
  repeat'(first|refine wk3 ?_|(refine wk2 ?_ ?_<;>intro _)|refine wk4 ?_|fail);all_goals(conv=>whnf)
  exact Zf rfl rfl
 ·have h2:=Ze h1 Zb
  rw [if_neg c]
  generalize pthE p=E at *
  refine bs.pv (sx:=nos) h2 Tryz.func57 (by kernel_rfl) (by kernel_rfl) rfl ?_
  repeat'(first|refine wk3 ?_|(refine wk2 ?_ ?_<;>intro _)|refine wk4 ?_|fail);all_goals(conv=>whnf)
  exact Zf rfl rfl
theorem Yd3 {h:Hal} {s:Stg} {i:Int} (e:serr h s=0) (h0:0<=i) (h1:i<nsur h):surE h s i=0:=by
 unfold surE; rw [if_pos e,if_pos (within_iff.2 ⟨h0,by omega⟩)]
def absB (m:Mat) (b:Int):Int:=if b=0 then m.a else if b=1 then m.b else if b=2 then m.c else m.d
def absK (h:Hal) (s:Stg) (b i:Int):Int:=if isK h i then absB (matS h s i) b*2 else absB (matS h s i) b
theorem Zws {h:Hal} (g:h.fine) {m:Mat} (hm:m∈h.ms):(0<=m.a/\m.a<=1000)/\(0<=m.b/\m.b<=1000)/\(0<=m.c/\m.c<=1000)/\(0<=m.d/\m.d<=1000):=by
 have:=g.mats m hm
 unfold Vc at this
 split at this
 ·rename_i hx
  simp only [Qc] at hx
  exact ⟨within_iff.1 hx.1.1.1.1,within_iff.1 hx.1.1.1.2,within_iff.1 hx.1.1.2,within_iff.1 hx.1.2⟩
 ·cases this
theorem Zga {h:Hal} {s:Stg} (g:Sit h s) {i:Int} (hi:SK h i):matS h s i∈h.ms:=by
 have h0:=Zsc g hi
 have h1:=Zbi (Zcl h s i) h.ms 0
 unfold matS matG
 have hl:(Ye (Zcl h s i) 0 h.ms).toNat<h.ms.length:=by omega
 rw [Qf hl]
 exact Qq hl
theorem Zrk {h:Hal} {s:Stg} (g:Sit h s) {b i:Int} (hi:SK h i):(0<=absB (matS h s i) b/\absB (matS h s i) b<=1000)/\0<=absK h s b i/\absK h s b i<=2000:=by
 have:=Zws g.fine (Zga g hi)
 have k:0<=absB (matS h s i) b/\absB (matS h s i) b<=1000:=by
  unfold absB
  repeat' split
  all_goals omega
 refine ⟨k,?_⟩
 unfold absK
 split<;>omega
end Go.Proofs.YtfkdpbklbegnlaaGreat
namespace Go.En
end Go.En
namespace Go.En
theorem div_le {q n b:Int} (hb:0<b) (h:n<=q*b):n / b<=q:=by
 have h1:=Kf hb h
 rwa [Fe q (by omega)] at h1
theorem up_le {q n b:Int} (hb:0<b) (h:n<=q*b):(n+b-1) / b<=q:=by
 have:(n+b-1) / b<q+1:=by
  refine Int.ediv_lt_of_lt_mul hb ?_
  rw [Int.add_mul]; omega
 omega
end Go.En
namespace Go.Proofs.YtfkdpbklbegnlaaGreat
open Go Go.Sx
def airE (b a v:Int):Int:=if within b 0 3 then (if within a 0 100000&&within v 30000 40000 then 0 else 2) else 6
theorem Zri {b a v:Int} (h:airE b a v=0):within b 0 3=true/\(0<=a/\a<=100000)/\30000<=v/\v<=40000:=by
 unfold airE at h
 split at h
 ·rename_i hb
  split at h
  ·rename_i hc
   simp only [Qc] at hc
   exact ⟨hb,within_iff.1 hc.1,within_iff.1 hc.2⟩
  ·cases h
 ·cases h
theorem d168 (a b:Int):PCall Tryz.prog 77 [I a,I b] ⟨P2 a b,[]⟩:=by
 refine bs.pv (sx:=nos) Zb Tryz.func77 (by kernel_rfl) (by kernel_rfl) rfl ?_
 repeat'(first|refine wk3 ?_|(refine wk2 ?_ ?_<;>intro _)|refine wk4 ?_|fail);all_goals(conv=>whnf)
 exact Zf rfl rfl
def r168:List AV->Option PRes
 | [.int .i64 a,.int .i64 b]=>some ⟨P2 a b,[]⟩
 | _=>none
def abvU (n b:Int):Int:=Qa Qb ((Qa Qb (Qa Qb (n+b)-1)).tdiv b)
theorem d135 {n b:Int} (hb:0<b):PCall Tryz.prog 63 [I n,I b] ⟨I (abvU n b),[]⟩:=by
 have hz:¬ b=0:=by omega
 refine bs.pv (sx:=nos) Zb Tryz.func63 (by kernel_rfl) (by kernel_rfl) rfl ?_
 repeat'(first|refine wk3 ?_|(refine wk2 ?_ ?_<;>intro _)|refine wk4 ?_|fail);all_goals(conv=>whnf)
 all_goals exact Za rfl
def rAbU:List AV->Option PRes
 | [.int .i64 n,.int .i64 b]=>asr (decide (0<b)) ⟨I (abvU n b),[]⟩
 | _=>none
theorem Yf5 {n b:Int} (h0:0<=n) (hb:0<b) : -((-n) / b)=(n+b-1) / b:=by
 have e1:=Int.mul_ediv_add_emod (n+b-1) b
 have e2:=Gh (n+b-1) (show b≠0 by omega)
 have e3:=Mw (n+b-1) hb
 have:(-n) / b = -((n+b-1) / b):=by
  refine ((Ma hb (r:=(-n)-b*(-((n+b-1) / b))) (q:=-((n+b-1) / b))).2 ⟨by omega,?_,?_⟩).1
  ·rw [Tc]; omega
  ·rw [Tc]; omega
 omega
theorem Yce:PCOK Tryz.prog (ins 63 rAbU pt0):=by
 refine Zh (fun a res h=>?_) Zb
 unfold rAbU at h; split at h
 ·obtain ⟨h1,h2⟩:=Vi h; subst h2; exact d135 (of_decide_eq_true h1)
 ·cases h
theorem Ybn {n b:Int} (h0:0<=n) (h1:n<=9000000000000000000) (hb:1<=b):Qa Qb (n.tdiv b)=n / b:=by
 have d1:=Tg h0 (show 0<=b by omega)
 have d2:=Kg b h0
 rw [Ol h0,W_eq (by omega) (by omega)]
theorem Zrj {n b:Int} (h0:0<=n) (h1:n<=8000000000000000000) (hb:1<=b) (hb2:b<=1000000000000000000):abvU n b=(n+b-1) / b:=by
 unfold abvU
 rw [W_eq (n:=n+b) (by omega) (by omega),W_eq (n:=n+b-1) (by omega) (by omega),Ybn (by omega) (by omega) hb]
structure EB (e:Int × Int):Prop where
 a:0<=e.1/\e.1<=1000000000000
 b:0<=e.2/\e.2<=1000000000000
def shr (s p:Int) (e:Int × Int):Int × Int:=(e.1*s / p,(e.2*s+p-1) / p)
theorem Znf {s p:Int} {e:Int × Int} (hp:1<=p/\p<=1000000) (hs:0<=s/\s<=p) (he:EB e) :
  EB (shr s p e)/\(Qa Qb ((Qa Qb (e.1*s)).tdiv p)=(shr s p e).1/\abvU (Qa Qb (e.2*s)) p=(shr s p e).2)/\(Qa Qb (e.1*s) / p=(shr s p e).1 /\ -((-(Qa Qb (e.2*s))) / p)=(shr s p e).2)/\(0<=Qa Qb (e.1*s)/\Qa Qb (e.1*s)<=1000000000000000000)/\0<=Qa Qb (e.2*s)/\Qa Qb (e.2*s)<=1000000000000000000:=by
 obtain ⟨⟨a1,a2⟩,b1,b2⟩:=he
 have m1:0<=e.1*s:=Qu a1 hs.1
 have m2:0<=e.2*s:=Qu b1 hs.1
 have m3:e.1*s<=1000000000000*p:=Ok a2 hs.2 hs.1 (by omega)
 have m4:e.2*s<=1000000000000*p:=Ok b2 hs.2 hs.1 (by omega)
 have w1:Qa Qb (e.1*s)=e.1*s:=W_eq (by omega) (by omega)
 have w2:Qa Qb (e.2*s)=e.2*s:=W_eq (by omega) (by omega)
 rw [w1,w2]
 unfold shr
 dsimp only
 refine ⟨⟨⟨Tg m1 (by omega),En.div_le (by omega) m3⟩,Tg (by omega) (by omega),En.up_le (by omega) m4⟩,⟨Ybn m1 (by omega) hp.1,Zrj m2 (by omega) hp.1 (by omega)⟩,⟨rfl,Yf5 m2 (by omega)⟩,⟨m1,by omega⟩,m2,by omega⟩
theorem d171 {p:Int} (hp:0<p) (a b s:Int):PCall Tryz.prog 80 [P2 a b,I s,I p] ⟨P2 (Qa Qb ((Qa Qb (a*s)).tdiv p)) (abvU (Qa Qb (b*s)) p),[]⟩:=by
 have hd:¬ p=0:=by omega
 have ha:rAbU [I (Qa Qb (b*s)),I p]=some ⟨I (abvU (Qa Qb (b*s)) p),[]⟩:=Zaa hp
 have hk:PCOK Tryz.prog (ins 77 r168 (ins 63 rAbU pt0)):=by
  refine Zh (fun a res h=>?_) Yce
  unfold r168 at h; split at h<;>cases h; exact d168 _ _
 refine bs.pv (sx:=nos) hk Tryz.func80 (by kernel_rfl) (by kernel_rfl) rfl ?_
 repeat'(first|refine wk3 ?_|(refine wk2 ?_ ?_<;>intro _)|refine wk4 ?_|fail);all_goals(conv=>whnf)
 all_goals exact Zf rfl rfl
def r171:List AV->Option PRes
 | [.agg [.int .i64 a,.int .i64 b],.int .i64 s,.int .i64 p]=>asr (decide (0<p)) ⟨P2 (Qa Qb ((Qa Qb (a*s)).tdiv p)) (abvU (Qa Qb (b*s)) p),[]⟩
 | _=>none
theorem Zxi {p:Int} (hp:0<p) (a b s:Int):r171 [P2 a b,I s,I p]=some ⟨P2 (Qa Qb ((Qa Qb (a*s)).tdiv p)) (abvU (Qa Qb (b*s)) p),[]⟩:=Zaa hp
def lft (m:Mat) (b:Int) (e:Int × Int):Int × Int:=shr (1000-m.sc) 1000 (shr (1000-absB m b) 1000 e)
def enL (h:Hal) (s:Stg) (b:Int):List Int->Int × Int->Int × Int
 | [],e=>e
 | n::l,e=>enL h s b l (lft (matS h s n) b e)
def itN (f:Int->Int):Nat->Int->Int
 | 0,x=>x
 | n+1,x=>itN f n (f x)
def enA (sq:Int):Int × Int:=(1000000000000 / sq,(1000000000000+sq-1) / sq)
noncomputable def farN (sq:Int):Nat:=(((lenV sq).2+1000000-1) / 1000000).toNat
noncomputable def Zwq (sq:Int):Nat:=((lenV sq).1 / 1000000).toNat
noncomputable def enZ (sq a:Int) (e:Int × Int):Int × Int:=(itN (fun x=>x*(1000000-a) / 1000000) (farN sq) e.1,itN (fun x=>(x*(1000000-a)+1000000-1) / 1000000) (Zwq sq) e.2)
noncomputable def enV (h:Hal) (s:Stg) (p:Pth) (b a:Int):Int × Int:=enZ p.sq a (enL h s b p.ss (enA p.sq))
theorem Zye {sq:Int} (h0:1<=sq) (h1:sq<=24300000000):EB (enA sq):=by
 unfold enA
 exact ⟨⟨Tg (by omega) (by omega),Kg _ (by omega)⟩,Tg (by omega) (by omega),En.up_le (by omega) (by omega)⟩
theorem Zwr {h:Hal} (g:h.fine) {m:Mat} (hm:m∈h.ms):0<=m.sc/\m.sc<=1000:=by
 have:=g.mats m hm
 unfold Vc at this
 split at this
 ·rename_i hx
  simp only [Qc] at hx
  exact within_iff.1 hx.2
 ·cases this
theorem Ycm {h:Hal} {s:Stg} (g:Sit h s) {i b:Int} (hi:SK h i) {e:Int × Int} (he:EB e):EB (lft (matS h s i) b e):=by
 have h1:=(Zrk g (b:=b) hi).1
 have h2:=Zwr g.fine (Zga g hi)
 exact (Znf ⟨by omega,by omega⟩ ⟨by omega,by omega⟩ (Znf ⟨by omega,by omega⟩ ⟨by omega,by omega⟩ he).1).1
noncomputable abbrev cAbs (h:Hal) (s:Stg):List AV->Option PRes:=famA (fun _:Int=>True) (fun i=>[h.av,s.av,I i]) (fun i=>⟨.tup [abs4 (matA h s i),I (surE h s i)],[]⟩)
noncomputable abbrev cSca (h:Hal) (s:Stg):List AV->Option PRes:=famA (fun _:Int=>True) (fun i=>[h.av,s.av,I i]) (fun i=>⟨.tup [I (matA h s i).sc,I (surE h s i)],[]⟩)
theorem Zw7 {h:Hal} {s:Stg} (r:Int->PRes) (i:Int):famA (fun _:Int=>True) (fun i=>[h.av,s.av,I i]) r [h.av,s.av,I i]=some (r i) :=
 Zm (p:=fun _:Int=>True) (g:=fun i=>[h.av,s.av,I i]) (r:=r) (k:=i) (fun j hj=>by
  simp only [Qs,Sn,true_and,and_true] at hj
  rw [hj]) trivial
noncomputable def kEn (h:Hal) (s:Stg) (p:Pth):PC:=ins 78 (cAbs h s) (ins 79 (cSca h s) (ins 80 r171 (ins 77 r168 (ins 57 (one [p.av] ⟨.tup [P2 (lenP p).1 (lenP p).2,I (pthE p)],[]⟩) (ins 63 rAbU pt0)))))
theorem Yhy {h:Hal} {s:Stg} (g:Sit h s) (p:Pth):PCOK Tryz.prog (kEn h s p):=by
 refine Ya (fun i _=>c60 g.ok g.sf i) (Ya (fun i _=>c61 g.ok g.sf i) (Zh (fun a res h=>?_) (Zh (fun a res h=>?_) (Ze (d85 p) Yce))))
 ·unfold r171 at h; split at h
  ·obtain ⟨h1,h2⟩:=Vi h; subst h2; exact d171 (of_decide_eq_true h1) _ _ _
  ·cases h
 ·unfold r168 at h; split at h<;>cases h; exact d168 _ _
theorem Yc3 {sq:Int} (h0:1<=sq) (h1:sq<=24300000000):abvU (lenV sq).2 1000000=((farN sq:Nat):Int)/\Qa Qb ((lenV sq).1.tdiv 1000000)=((Zwq sq:Nat):Int)/\Zwq sq<=farN sq/\farN sq<=3000:=by
 have b:=Zqk h0 h1
 unfold farN Zwq
 rw [Zrj (by omega) (by omega) (by omega) (by omega),Ybn (by omega) (by omega) (by omega)]
 omega
theorem Ye1 {h:Hal} {s:Stg} (g:Sit h s) {i b:Int} (hi:SK h i) {lo hi' : Int} (he:EB (lo,hi')) (c:Int) (hc:absB (matS h s i) b=c) :
  (Qa Qb ((Qa Qb (Qa Qb ((Qa Qb (lo*Qa Qb (1000-c))).tdiv 1000)*Qa Qb (1000-(matS h s i).sc))).tdiv 1000),abvU (Qa Qb (abvU (Qa Qb (hi'*Qa Qb (1000-c))) 1000*Qa Qb (1000-(matS h s i).sc))) 1000)=lft (matS h s i) b (lo,hi'):=by
 have h1:=(Zrk g (b:=b) hi).1
 have h2:=Zwr g.fine (Zga g hi)
 rw [hc] at h1
 obtain ⟨k1,⟨k2,k3⟩,_⟩:=Znf (s:=1000-c) (p:=1000) ⟨by omega,by omega⟩ ⟨by omega,by omega⟩ he
 obtain ⟨j1,⟨j2,j3⟩,_⟩:=Znf (s:=1000-(matS h s i).sc) (p:=1000) ⟨by omega,by omega⟩ ⟨by omega,by omega⟩ k1
 unfold lft
 rw [hc,W_eq (n:=1000-c) (by omega) (by omega),W_eq (n:=1000-(matS h s i).sc) (by omega) (by omega)]
 dsimp only at k2 k3
 rw [k2,k3,j2,j3]
theorem shrA {a lo hi:Int} (ha:0<=a/\a<=100000) (he:EB (lo,hi)):(Qa Qb ((Qa Qb (lo*Qa Qb (1000000-a))).tdiv 1000000)=lo*(1000000-a) / 1000000/\abvU (Qa Qb (hi*Qa Qb (1000000-a))) 1000000=(hi*(1000000-a)+1000000-1) / 1000000)/\EB (lo*(1000000-a) / 1000000,(hi*(1000000-a)+1000000-1) / 1000000):=by
 obtain ⟨k1,⟨k2,k3⟩,_⟩:=Znf (s:=1000000-a) (p:=1000000) ⟨by omega,by omega⟩ ⟨by omega,by omega⟩ he
 rw [W_eq (n:=1000000-a) (by omega) (by omega)]
 exact ⟨⟨k2,k3⟩,k1⟩
theorem d89 {h:Hal} {s:Stg} {p:Pth} {b a v:Int} (g:Sit h s) (z:serr h s=0) (hp:pthE p=0) (hw:suE h p.ss=0) (hair:airE b a v=0):PCall Tryz.prog 38 [.agg (stgL h s),p.av,P3 b a v] ⟨P2 (enV h s p b a).1 (enV h s p b a).2,[]⟩:=by
 have hk:=Yhy g p
 obtain ⟨⟨l4,_⟩,s1,s2⟩:=Zay hp
 obtain ⟨hb,⟨a1,a2⟩,_⟩:=Zri hair
 have hb4:b=0\/b=1\/b=2\/b=3:=by have:=within_iff.1 hb; omega
 have l2:=Zl p.ss
 have hsq:¬ p.sq=0:=by omega
 have e0:(Qa Qb ((1000000000000:Int).tdiv p.sq),abvU 1000000000000 p.sq)=enA p.sq:=by
  unfold enA
  rw [Ybn (by omega) (by omega) s1,Zrj (by omega) (by omega) s1 (by omega)]
 have t0:rAbU [I 1000000000000,I p.sq]=some ⟨I (abvU 1000000000000 p.sq),[]⟩:=Zaa (by omega)
 have hw:wkG (nsur h-1) none p.ss=0:=by unfold suE at hw; rwa [if_neg (by omega)] at hw
 have hin:=Zu2 hw
 have hL:lenP p=lenV p.sq:=by unfold lenP; rw [if_pos hp]
 unfold kEn at hk
 rw [hL,hp] at hk
 obtain ⟨f1,f2,f3,f4⟩:=Yc3 s1 s2
 have t5:rAbU [I (lenV p.sq).2,I 1000000]=some ⟨I (abvU (lenV p.sq).2 1000000),[]⟩:=Zaa (p:=(0:Int)<1000000) (by omega)
 unfold enV enZ
 generalize farN p.sq=FN at *
 generalize Zwq p.sq=NN at *
 generalize lenV p.sq=L at *
 refine bs.pv (sx:=nos) hk Tryz.func38 (by kernel_rfl) (by kernel_rfl) rfl ?_
 repeat'(first|refine wk3 ?_|(refine wk2 ?_ ?_<;>intro _)|refine wk4 ?_|fail);all_goals(conv=>whnf)
 refine Zt (S:=Nat × Int × Int × Int) (fun t=>p.ss.length-t.1) (fun t=>[(3,.ptr 0 0 0),(4,.ptr 1 0 0),(5,.ptr 2 0 0),(6,.ptr 3 0 0),(7,.ptr 11 0 0),(28,.isl 1 (nl p.ss)),(29,I (nl p.ss).length),(30,I t.2.1)])
  (fun t=>[(11,.row 2 [[I t.2.2.1,I t.2.2.2]] true false),(3,.row 2 [[I 0,I 0]] true false),(2,.row 3 [[I b,I a,I v]] true false),(1,.row 3 [[.isl 1 (nl p.ss),.isl 4 (p.ps.map hp4),I p.sq]] true false),(0,.row 11 [stgL h s] true false)]) 13 13
  (fun t=>t.2.1=t.1/\t.1<=p.ss.length/\EB t.2.2/\enL h s b (p.ss.drop t.1) t.2.2=enL h s b p.ss (enA p.sq)) (0,0,Qa Qb ((1000000000000:Int).tdiv p.sq),abvU 1000000000000 p.sq) ⟨rfl,Qm _,by show EB (Qa Qb ((1000000000000:Int).tdiv p.sq),abvU 1000000000000 p.sq); rw [e0]; exact Zye s1 s2,by show enL h s b p.ss (Qa Qb ((1000000000000:Int).tdiv p.sq),abvU 1000000000000 p.sq)=_; rw [e0]⟩ (Qd _) [] rfl (kps) (kps) ?_
 rintro ⟨k,i,lo,hi⟩ ⟨hi1,hk1,he,hS⟩
 dsimp only at hi1 hk1 he hS ⊢
 subst hi1
 clear e0 t0
 generalize enL h s b p.ss (enA p.sq)=R at *
 by_cases hlt:k<p.ss.length
 ·have e1:=Vo hlt
  have hx:=hin _ (Qq hlt)
  rw [Qi hlt,enL] at hS
  generalize p.ss[k]=x at *
  have hsk:SK h x:=Zi2 hx.1 (by omega)
  have hsu:surE h s x=0:=Yd3 z hx.1 (by omega)
  have hmA:matA h s x=matS h s x:=by unfold matA; rw [if_pos hsu]
  have g1:cAbs h s [h.av,s.av,I x]=some ⟨.tup [abs4 (matS h s x),I 0],[]⟩:=(Zw7 _ x).trans (by rw [hmA,hsu])
  have g2:cSca h s [h.av,s.av,I x]=some ⟨.tup [I (matS h s x).sc,I 0],[]⟩:=(Zw7 _ x).trans (by rw [hmA,hsu])
  have hf:=Ye1 g (b:=b) hsk he
  have hE:=Ycm g (b:=b) hsk he
  generalize matS h s x=m at *
  have go:∀ c,absB m b=c->EB (Qa Qb ((Qa Qb (Qa Qb ((Qa Qb (lo*Qa Qb (1000-c))).tdiv 1000)*Qa Qb (1000-m.sc))).tdiv 1000),abvU (Qa Qb (abvU (Qa Qb (hi*Qa Qb (1000-c))) 1000*Qa Qb (1000-m.sc))) 1000)/\enL h s b (p.ss.drop (k+1)) (Qa Qb ((Qa Qb (Qa Qb ((Qa Qb (lo*Qa Qb (1000-c))).tdiv 1000)*Qa Qb (1000-m.sc))).tdiv 1000),abvU (Qa Qb (abvU (Qa Qb (hi*Qa Qb (1000-c))) 1000*Qa Qb (1000-m.sc))) 1000)=R:=fun c hc=>by
   rw [hf c hc]; exact ⟨hE,hS⟩
  have uu:∀ c,r171 [P2 lo hi,I (Qa Qb (1000-c)),I 1000]=some ⟨P2 (Qa Qb ((Qa Qb (lo*Qa Qb (1000-c))).tdiv 1000)) (abvU (Qa Qb (hi*Qa Qb (1000-c))) 1000),[]⟩/\r171 [P2 (Qa Qb ((Qa Qb (lo*Qa Qb (1000-c))).tdiv 1000)) (abvU (Qa Qb (hi*Qa Qb (1000-c))) 1000),I (Qa Qb (1000-m.sc)),I 1000]=some ⟨P2 (Qa Qb ((Qa Qb (Qa Qb ((Qa Qb (lo*Qa Qb (1000-c))).tdiv 1000)*Qa Qb (1000-m.sc))).tdiv 1000)) (abvU (Qa Qb (abvU (Qa Qb (hi*Qa Qb (1000-c))) 1000*Qa Qb (1000-m.sc))) 1000),[]⟩:=fun c=>⟨Zxi (by omega) _ _ _,Zxi (by omega) _ _ _⟩
  clear hf hE hS he hmA hsu hsk hin
  rcases hb4 with rfl|rfl|rfl|rfl
  ·obtain ⟨u1,u2⟩:=uu m.a
   obtain ⟨q1,q2⟩:=go m.a rfl
   clear uu go
   refine bs.av (sx:=nos) hk ?_
   repeat'(first|refine wk3 ?_|(refine wk2 ?_ ?_<;>intro _)|refine wk4 ?_|fail);all_goals(conv=>whnf)
   exact Qo ⟨(k+1,_,_,_),[],rfl,kps,kps,⟨Zg (by omega),hlt,q1,q2⟩,by dsimp only; omega⟩
  ·obtain ⟨u1,u2⟩:=uu m.b
   obtain ⟨q1,q2⟩:=go m.b rfl
   clear uu go
   refine bs.av (sx:=nos) hk ?_
   repeat'(first|refine wk3 ?_|(refine wk2 ?_ ?_<;>intro _)|refine wk4 ?_|fail);all_goals(conv=>whnf)
   exact Qo ⟨(k+1,_,_,_),[],rfl,kps,kps,⟨Zg (by omega),hlt,q1,q2⟩,by dsimp only; omega⟩
  ·obtain ⟨u1,u2⟩:=uu m.c
   obtain ⟨q1,q2⟩:=go m.c rfl
   clear uu go
   refine bs.av (sx:=nos) hk ?_
   repeat'(first|refine wk3 ?_|(refine wk2 ?_ ?_<;>intro _)|refine wk4 ?_|fail);all_goals(conv=>whnf)
   exact Qo ⟨(k+1,_,_,_),[],rfl,kps,kps,⟨Zg (by omega),hlt,q1,q2⟩,by dsimp only; omega⟩
  ·obtain ⟨u1,u2⟩:=uu m.d
   obtain ⟨q1,q2⟩:=go m.d rfl
   clear uu go
   refine bs.av (sx:=nos) hk ?_
   repeat'(first|refine wk3 ?_|(refine wk2 ?_ ?_<;>intro _)|refine wk4 ?_|fail);all_goals(conv=>whnf)
   exact Qo ⟨(k+1,_,_,_),[],rfl,kps,kps,⟨Zg (by omega),hlt,q1,q2⟩,by dsimp only; omega⟩
 rw [Qk (by omega),enL] at hS
 subst hS
 refine bs.av (sx:=nos) hk ?_
 repeat'(first|refine wk3 ?_|(refine wk2 ?_ ?_<;>intro _)|refine wk4 ?_|fail);all_goals(conv=>whnf)
 clear hk1 hlt
 refine Zt (S:=Nat × Int × Int × Int) (fun t=>FN-t.1) (fun t=>[(5,.ptr 2 0 0),(6,.ptr 3 0 0),(7,.ptr 11 0 0),(17,I (Qa Qb (L.1.tdiv 1000000))),(75,I (abvU L.2 1000000)),(76,I t.2.1)])
  (fun t=>[(11,.row 2 [[I t.2.2.1,I t.2.2.2]] true false),(3,.row 2 [[I 0,I 0]] true false),(2,.row 3 [[I b,I a,I v]] true false)]) 22 22
  (fun t=>t.2.1=t.1/\t.1<=FN/\EB t.2.2/\itN (fun x=>x*(1000000-a) / 1000000) (FN-t.1) t.2.2.1=itN (fun x=>x*(1000000-a) / 1000000) FN lo/\itN (fun x=>(x*(1000000-a)+1000000-1) / 1000000) (NN-t.1) t.2.2.2=itN (fun x=>(x*(1000000-a)+1000000-1) / 1000000) NN hi) (0,0,lo,hi) ⟨rfl,Qm _,he,rfl,rfl⟩ (Qd _) [] rfl (kps) (kps) ?_
 clear he
 rintro ⟨k,i,lo2,hi2⟩ ⟨hi1,hk1,he,hA,hB⟩
 dsimp only at hi1 hk1 he hA hB ⊢
 subst hi1
 generalize itN (fun x=>x*(1000000-a) / 1000000) FN lo=R1 at *
 generalize itN (fun x=>(x*(1000000-a)+1000000-1) / 1000000) NN hi=R2 at *
 refine bs.av (sx:=nos) hk ?_
 by_cases hlt:k<FN
 ·obtain ⟨⟨q1,q2⟩,q3⟩:=shrA ⟨a1,a2⟩ he
  have u1:=Zxi (p:=1000000) (by omega) lo2 hi2 (Qa Qb (1000000-a))
  rw [show FN-k=(FN-(k+1))+1 by omega,itN,<-q1] at hA
  by_cases hn:NN<=k
  ·rw [show NN-k=NN-(k+1) by omega] at hB
   have e2:EB (Qa Qb ((Qa Qb (lo2*Qa Qb (1000000-a))).tdiv 1000000),hi2):=⟨by rw [q1]; exact q3.a,he.b⟩
   clear q1 q2 q3 he
   repeat'(first|refine wk3 ?_|(refine wk2 ?_ ?_<;>intro _)|refine wk4 ?_|fail);all_goals(conv=>whnf)
   exact Qo ⟨(k+1,_,_,_),[],rfl,kps,kps,⟨Zg (by omega),hlt,e2,hA,hB⟩,by dsimp only; omega⟩
  ·rw [show NN-k=(NN-(k+1))+1 by omega,itN,<-q2] at hB
   have e2:EB (Qa Qb ((Qa Qb (lo2*Qa Qb (1000000-a))).tdiv 1000000),abvU (Qa Qb (hi2*Qa Qb (1000000-a))) 1000000):=by rw [q1,q2]; exact q3
   clear q1 q2 q3 he
   repeat'(first|refine wk3 ?_|(refine wk2 ?_ ?_<;>intro _)|refine wk4 ?_|fail);all_goals(conv=>whnf)
   exact Qo ⟨(k+1,_,_,_),[],rfl,kps,kps,⟨Zg (by omega),hlt,e2,hA,hB⟩,by dsimp only; omega⟩
 ·rw [show FN-k=0 by omega,itN] at hA
  rw [show NN-k=0 by omega,itN] at hB
  subst hA hB
  repeat'(first|refine wk3 ?_|(refine wk2 ?_ ?_<;>intro _)|refine wk4 ?_|fail);all_goals(conv=>whnf)
  exact Zf rfl rfl
def cdv (n b:Int):Int:=-((-n) / b)
theorem Ydi {n b:Int} (hb:0<b):cdv n b=(n+b-1) / b:=by
 unfold cdv
 have h1:=Int.emod_add_mul_ediv (-n) b
 have h2:=Gh (-n) (b:=b) (by omega)
 have h3:=Mw (-n) hb
 refine (((Ma hb (r:=b-1-(-n)%b)).2 ⟨?_,by omega,by omega⟩).1).symm
 rw [Tc]
 omega
def scV (lo hi n b:Int):Int × Int:=(lo*n / b,cdv (hi*n) b)
structure ScOk (lo hi n b:Int):Prop where
 b:0<b/\b<=1000000
 l:0<=lo*n/\lo*n<=4000000000000000000
 h:0<=hi*n/\hi*n<=4000000000000000000
theorem d102 {lo hi n b:Int} (k:ScOk lo hi n b):PCall Tryz.prog 121 [P2 lo hi,I n,I b] ⟨P2 (scV lo hi n b).1 (scV lo hi n b).2,[]⟩:=by
 obtain ⟨⟨b0,b1⟩,⟨l0,l1⟩,⟨h0,h1⟩⟩:=k
 have hz:¬ b=0:=by omega
 have w1:Qa Qb (lo*n)=lo*n:=W_eq (by omega) (by omega)
 have w2:Qa Qb (hi*n)=hi*n:=W_eq (by omega) (by omega)
 have q1:=Kg b l0
 have q2:=Tg l0 (show 0<=b by omega)
 have q3:=Kg b (show 0<=hi*n+b-1 by omega)
 have q4:=Tg (show 0<=hi*n+b-1 by omega) (show 0<=b by omega)
 refine bs.pv (sx:=nos) Zb Tryz.func121 (by kernel_rfl) (by kernel_rfl) rfl ?_
 repeat'(first|refine wk3 ?_|(refine wk2 ?_ ?_<;>intro _)|refine wk4 ?_|fail);all_goals(conv=>whnf)
 refine Zf ?_ rfl
 unfold scV
 rw [Ydi b0,w1,w2,W_eq (n:=hi*n+b) (by omega) (by omega),W_eq (n:=hi*n+b-1) (by omega) (by omega),Ol l0,Ol (show 0<=hi*n+b-1 by omega),W_eq (n:=lo*n / b) (by omega) (by omega),W_eq (n:=(hi*n+b-1) / b) (by omega) (by omega)]
noncomputable def delV (sq v:Int):Int × Int:=scV (lenV sq).1 (lenV sq).2 100 v
theorem spE_iff {n:Int}:spE n=0↔30000<=n/\n<=40000:=by
 rw [<-within_iff]
 unfold spE
 cases within n 30000 40000<;>simp [unl]
theorem Yhl {sq v:Int} (h0:1<=sq) (h1:sq<=24300000000) (hv:spE v=0):ScOk (lenV sq).1 (lenV sq).2 100 v:=by
 obtain ⟨⟨g1,g2⟩,g3,g4⟩:=Zqk h0 h1
 have:=spE_iff.1 hv
 exact ⟨by omega,by omega,by omega⟩
theorem Yfz {sq v:Int} (h0:1<=sq) (h1:sq<=24300000000) (hv:spE v=0):0<=(delV sq v).1/\(delV sq v).1<=(delV sq v).2/\(delV sq v).2<=7200000:=by
 obtain ⟨⟨g1,g2⟩,g3,g4⟩:=Zqk h0 h1
 have hv:=spE_iff.1 hv
 unfold delV scV
 dsimp only
 generalize (lenV sq).1=lo at *
 generalize (lenV sq).2=hi at *
 rw [Ydi (by omega)]
 refine ⟨Tg (by omega) (by omega),Kf (by omega) (by omega),?_⟩
 have:hi*100+v-1<=7200000*v:=by omega
 have:=Kf (show 0<v by omega) this
 rw [Fe _ (by omega)] at this
 exact this
theorem d100 {p:Pth} {v:Int} (h:pthE p=0) (hv:spE v=0):PCall Tryz.prog 76 [p.av,I v] ⟨P2 (delV p.sq v).1 (delV p.sq v).2,[]⟩:=by
 obtain ⟨_,s1,s2⟩:=Zay h
 have h1:=Ze (d163 h) (Ze (d102 (Yhl s1 s2 hv)) Zb)
 unfold delV
 generalize scV (lenV p.sq).1 (lenV p.sq).2 100 v=D at *
 generalize lenV p.sq=L at *
 refine bs.pv (sx:=nos) h1 Tryz.func76 (by kernel_rfl) (by kernel_rfl) rfl ?_
 repeat'(first|refine wk3 ?_|(refine wk2 ?_ ?_<;>intro _)|refine wk4 ?_|fail);all_goals(conv=>whnf)
 exact Zf rfl rfl
def okP (e:Int) (v:Int × Int):Int × Int:=if e=0 then v else (0,0)
noncomputable def deE (p:Pth) (v:Int):Int:=fstL [pthE p,spE v]
theorem fst_two {a b:Int}:fstL [a,b]=0↔a=0/\b=0:=by
 simp only [fstL]
 by_cases ha:a=0<;>by_cases hb:b=0<;>simp [ha,hb]
theorem d38 (p:Pth) (v:Int):PCall Tryz.prog 36 [p.av,I v] ⟨.tup [P2 (okP (deE p v) (delV p.sq v)).1 (okP (deE p v) (delV p.sq v)).2,I (deE p v)],[]⟩:=by
 have h1:=d162 p
 have h2:=d99s v
 by_cases c:deE p v=0
 ·obtain ⟨c1,c2⟩:=fst_two.1 c
  have h3:=Ze (d100 c1 c2) (Ze h1 (Ze h2 Zsj))
  rw [show okP (deE p v) (delV p.sq v)=delV p.sq v from if_pos c]
  unfold deE at c ⊢
  generalize delV p.sq v=D at *
  generalize pthE p=E at *
  generalize spE v=F at *
  rw [c]
  subst c1 c2
  refine bs.pv (sx:=nos) h3 Tryz.func36 (by kernel_rfl) (by kernel_rfl) rfl ?_
  repeat'(first|refine wk3 ?_|(refine wk2 ?_ ?_<;>intro _)|refine wk4 ?_|fail);all_goals(conv=>whnf)
  all_goals first|exact Zf rfl rfl|(exfalso; simp_all [fstL,unl]; done)
 ·have h3:=Ze h1 (Ze h2 Zsj)
  rw [show okP (deE p v) (delV p.sq v)=(0,0) from if_neg c]
  unfold deE at c ⊢
  generalize pthE p=E at *
  generalize spE v=F at *
  refine bs.pv (sx:=nos) h3 Tryz.func36 (by kernel_rfl) (by kernel_rfl) rfl ?_
  repeat'(first|refine wk3 ?_|(refine wk2 ?_ ?_<;>intro _)|refine wk4 ?_|fail);all_goals(conv=>whnf)
  all_goals first|exact Zf rfl rfl|(exfalso; simp_all [fstL,unl]; done)
def eqN:List Int->List Int->Bool
 | [],[]=>true
 | x::a,y::b=>decide (x=y)&&eqN a b
 | _,_=>false
theorem eqN_iff:∀ {a b:List Int},eqN a b=true↔a=b
 | [],[]=>by simp [eqN]
 | x::a,y::b=>by rw [eqN,Qc,decide_eq_true_eq,eqN_iff]; simp
 | [],y::b=>by simp [eqN]
 | x::a,[]=>by simp [eqN]
theorem Yft {a b:List Int} (h:a.length≠b.length):eqN a b=false:=by
 rw [Bool.eq_false_iff,ne_eq,eqN_iff]
 intro e; exact h (by rw [e])
theorem c69 {a b:List Int} (hl:a.length<1000000) (hb:b.length<1000000):PCall Tryz.prog 21 [.isl 1 (nl a),.isl 1 (nl b)] ⟨Bo (eqN a b),[]⟩:=by
 have l1:=Zl a
 have l2:=Zl b
 refine bs.pv (sx:=nos) Zb Tryz.func21 (by kernel_rfl) (by kernel_rfl) rfl ?_
 by_cases hlen:a.length=b.length
 ·repeat'(first|refine wk1 ?_|(refine wk2 ?_ ?_<;>intro _)|refine wk4 ?_|fail);all_goals(conv=>whnf)
  refine Zt (S:=Nat × Int) (fun t=>a.length-t.1) (fun t=>[(0,.isl 1 (nl a)),(1,.isl 1 (nl b)),(5,I t.2)]) (fun _=>[]) 0 0 (fun t=>t.2=t.1/\t.1<=a.length/\eqN (a.drop t.1) (b.drop t.1)=eqN a b) (0,0) ⟨rfl,Qm _,rfl⟩ (Qd _) [] rfl (kps) (kps) ?_
  rintro ⟨k,i⟩ ⟨hi,hk,hh⟩
  dsimp only at hi hk hh ⊢
  subst hi
  refine bs.av (sx:=nos) Zb ?_
  by_cases hlt:k<a.length
  ·have e1:=Vo hlt
   have e2:=Vo (ns:=b) (k:=k) (by omega)
   rw [Qi hlt,Qi (show k<b.length by omega),eqN] at hh
   by_cases he:a[k]=b[k]'(by omega)
   ·rw [decide_eq_true he,Wg] at hh
    repeat'(first|refine wk1 ?_|(refine wk2 ?_ ?_<;>intro _)|refine wk4 ?_|fail);all_goals(conv=>whnf)
    exact Qo ⟨(k+1,_),[],rfl,kps,kps,⟨Zg (by omega),hlt,hh⟩,by dsimp only; omega⟩
   ·rw [decide_eq_false he,Ny] at hh
    rw [<-hh]
    repeat'(first|refine wk1 ?_|(refine wk2 ?_ ?_<;>intro _)|refine wk4 ?_|fail);all_goals(conv=>whnf)
    exact Zd rfl
  ·rw [Qk (by omega),Qk (by omega)] at hh
   rw [<-hh]
   repeat'(first|refine wk1 ?_|(refine wk2 ?_ ?_<;>intro _)|refine wk4 ?_|fail);all_goals(conv=>whnf)
   exact Zd rfl
 ·rw [Yft hlen]
  repeat'(first|refine wk1 ?_|(refine wk2 ?_ ?_<;>intro _)|refine wk4 ?_|fail);all_goals(conv=>whnf)
  exact Zd rfl
theorem d103 {ns:List Int} (h0:0<ns.length) (hl:ns.length<100000):PCall Tryz.prog 37 [.isl 1 (nl ns)] ⟨.asl 0 0 (nl ns).length,[(1,nl ns)]⟩:=by
 obtain ⟨x,l,rfl⟩:=Kh h0
 have h1:=Zny (x::l)
 have h2:=Zl (x::l)
 refine bs.pv (sx:=nos) Zb Tryz.func37 (by kernel_rfl) (by kernel_rfl) rfl ?_
 repeat'(first|refine wk3 ?_|(refine wk2 ?_ ?_<;>intro _)|refine wk4 ?_|fail);all_goals(conv=>whnf)
 refine Xj [1] rfl ?_ rfl
 show Fv 1 0 (0+(nl (x::l)).length)=Fv 1 0 (nl (x::l)).length
 rw [Ry]
theorem w103 (a:Option Addr) (cap:Nat) (w:World):Calls Tryz.prog 37 #[.slice a 0 cap] w fun e w'=>∃ a' cap',e = .returned (.slice a' 0 cap')/\RowKit.Below w.heap.size w w':=by
 have e:∀ w:World,Sem.run Tryz.prog (binOp BinOp.eql 29 (La a 0 cap) (La none 0 0)) w = .ok (.bool a.isNone) w:=by
  intro w
  cases a<;>rfl
 cases a with
 | none =>
  simp only [He] at e
  go_enter Tryz.func37,Tryz.ntmps37
  go_wp2
  go_ret
  exact ⟨_,_,rfl,Dl _ _⟩
 | some a =>
  simp only [He] at e
  go_enter Tryz.func37,Tryz.ntmps37
  go_wp2
  go_ret
  exact ⟨_,_,rfl,Zj9 _ _⟩
theorem Yio:PCall Tryz.prog 37 [.isl 1 []] ⟨.isl 1 [],[]⟩:=Znv (FnOK.of Tryz.func37 (by kernel_rfl) (by kernel_rfl)) w103
theorem Zwk (l:List (Int × Int × Int × Int)):Xx (l.map hp4)=true:=by simp [Xx,AV.one]
theorem d104 {ps:List (Int × Int × Int × Int)} (h0:0<ps.length) (hl:ps.length<100000):PCall Tryz.prog 114 [.isl 4 (ps.map hp4)] ⟨.asl 0 0 (ps.map hp4).length,[(4,ps.map hp4)]⟩:=by
 obtain ⟨x,l,rfl⟩:=Kh h0
 have h1:=Zwk (x::l)
 have h2:((x::l).map hp4).length=(x::l).length:=by simp
 refine bs.pv (sx:=nos) Zb Tryz.func114 (by kernel_rfl) (by kernel_rfl) rfl ?_
 repeat'(first|refine wk3 ?_|(refine wk2 ?_ ?_<;>intro _)|refine wk4 ?_|fail);all_goals(conv=>whnf)
 refine Xj [1] rfl ?_ rfl
 show Fv 1 0 (0+((x::l).map hp4).length)=Fv 1 0 ((x::l).map hp4).length
 rw [Ry]
theorem w104 (a:Option Addr) (cap:Nat) (w:World):Calls Tryz.prog 114 #[.slice a 0 cap] w fun e w'=>∃ a' cap',e = .returned (.slice a' 0 cap')/\RowKit.Below w.heap.size w w':=by
 have e:∀ w:World,Sem.run Tryz.prog (binOp BinOp.eql 73 (La a 0 cap) (La none 0 0)) w = .ok (.bool a.isNone) w:=by
  intro w
  cases a<;>rfl
 cases a with
 | none =>
  simp only [He] at e
  go_enter Tryz.func114,Tryz.ntmps114
  go_wp2
  go_ret
  exact ⟨_,_,rfl,Dl _ _⟩
 | some a =>
  simp only [He] at e
  go_enter Tryz.func114,Tryz.ntmps114
  go_wp2
  go_ret
  exact ⟨_,_,rfl,Zj9 _ _⟩
theorem Yjk:PCall Tryz.prog 114 [.isl 4 []] ⟨.isl 4 [],[]⟩:=Znv (FnOK.of Tryz.func114 (by kernel_rfl) (by kernel_rfl)) w104
def trV (p:Pth):Pth:=⟨p.ss.reverse,p.ps.reverse,p.sq⟩
abbrev Pl3:=Int × Int × Int
def plcB (x y z:Int):Bool:=within x (-5000) 5000&&within y (-5000) 5000&&within z (-5000) 5000
def plaE (h:Hal) (x y z:Int):Int:=if plcB x y z=true then unl (Zae h ⟨x,y,z,1⟩) 24 else 2
theorem d123 (x y z:Int):PCall Tryz.prog 107 [P3 x y z] ⟨P4 x y z 1,[]⟩:=by
 refine bs.pv (sx:=nos) Zb Tryz.func107 (by kernel_rfl) (by kernel_rfl) rfl ?_
 repeat'(first|refine wk3 ?_|(refine wk2 ?_ ?_<;>intro _)|refine wk4 ?_|fail);all_goals(conv=>whnf)
 all_goals exact Zf rfl rfl
theorem d83 (n:Int):PCall Tryz.prog 82 [I n] ⟨Bo (within n (-5000) 5000),[]⟩:=by
 refine bs.pv (sx:=nos) (Ze (c30 n (-5000) 5000) Zb) Tryz.func82 (by kernel_rfl) (by kernel_rfl) rfl ?_
 repeat'(first|refine wk3 ?_|(refine wk2 ?_ ?_<;>intro _)|refine wk4 ?_|fail);all_goals(conv=>whnf)
 exact Zd rfl
theorem d81 (n:Int):PCall Tryz.prog 67 [I n] ⟨I (unl (within n 0 4) 2),[]⟩:=by
 refine bs.pv (sx:=nos) (Ze (d210 n 0 4) (Ze (d209 (within n 0 4) 2) Zb)) Tryz.func67 (by kernel_rfl) (by kernel_rfl) rfl ?_
 repeat'(first|refine wk3 ?_|(refine wk2 ?_ ?_<;>intro _)|refine wk4 ?_|fail);all_goals(conv=>whnf)
 exact Za rfl
theorem d68 (n:Int):PCall Tryz.prog 43 [I n] ⟨I (unl (within n 0 4) 2),[]⟩:=by
 refine bs.pv (sx:=nos) (Ze (c30 n 0 4) Zb) Tryz.func43 (by kernel_rfl) (by kernel_rfl) rfl ?_
 repeat'(first|refine wk3 ?_|(refine wk2 ?_ ?_<;>intro _)|refine wk4 ?_|fail);all_goals(conv=>whnf)
 all_goals exact Za (by simp_all [unl])
theorem Zrx (n:Int):small n 5000=within n (-5000) 5000:=rfl
theorem Yhd {x y z:Int} (c:plcB x y z=true):Xp ⟨x,y,z,1⟩=0:=by
 simp only [plcB,Qc,within_iff] at c
 have hg:g4 ⟨x,y,z,1⟩=1:=by
  simp [g4]
 unfold Xp
 rw [if_neg (by simp [hg]),if_neg (by simp),if_pos]
 unfold ptIn
 simp only [Qc,within_iff]
 simp
 omega
def r86:List AV->Option PRes
 | [.int .i64 n,.int .i64 m]=>some ⟨Bo (small n m),[]⟩
 | _=>none
theorem Yg1 {pt:PC} (h:PCOK Tryz.prog pt):PCOK Tryz.prog (ins 105 r86 pt):=Zh (fun a res h=>by unfold r86 at h; split at h<;>cases h; exact d86 _ _) h
def r83:List AV->Option PRes
 | [.int .i64 n]=>some ⟨Bo (within n (-5000) 5000),[]⟩
 | _=>none
theorem Yg2 {pt:PC} (h:PCOK Tryz.prog pt):PCOK Tryz.prog (ins 82 r83 pt):=Zh (fun a res h=>by unfold r83 at h; split at h<;>cases h; exact d83 _) h
theorem d79 {h:Hal} (hk:h.ok) (he:h.err=0) (x y z:Int):PCall Tryz.prog 65 [h.av,P3 x y z] ⟨I (plaE h x y z),[]⟩:=by
 have hk0:=Yg1 (Ze (d123 x y z) Zb)
 by_cases c:plcB x y z=true
 ·have hp:=Yhd c
  have hi:insE h ⟨x,y,z,1⟩=0:=by unfold insE; rw [if_pos he,hp]
  have hw:Pt.wf ⟨x,y,z,1⟩:=by
   simp only [plcB,Qc,within_iff] at c
   refine ⟨⟨?_,?_⟩,⟨?_,?_⟩,⟨?_,?_⟩,⟨?_,?_⟩⟩<;>dsimp only<;>omega
  have h50:=c50 hk hw
  rw [hi] at h50
  unfold plaE
  rw [if_pos c]
  generalize Zae h ⟨x,y,z,1⟩=b at *
  have hk1:=Ze h50 (Ze (d209 b 24) hk0)
  simp only [plcB,Qc,<-Zrx] at c
  refine bs.pv (sx:=nos) hk1 Tryz.func65 (by kernel_rfl) (by kernel_rfl) rfl ?_
  repeat'(first|refine wk3 ?_|(refine wk2 ?_ ?_<;>intro _)|refine wk4 ?_|fail);all_goals(conv=>whnf)
  all_goals first
   | exact Za rfl
   | (exfalso; clear hk1 h50 hk0 hp hi; simp_all; done)
 ·unfold plaE
  rw [if_neg c]
  simp only [plcB,<-Zrx] at c
  refine bs.pv (sx:=nos) hk0 Tryz.func65 (by kernel_rfl) (by kernel_rfl) rfl ?_
  repeat'(first|refine wk3 ?_|(refine wk2 ?_ ?_<;>intro _)|refine wk4 ?_|fail);all_goals(conv=>whnf)
  all_goals first
   | exact Za rfl
   | (exfalso; clear hk0; simp_all; done)
theorem d27 {h:Hal} (hk:h.ok) (he:h.err=0) (x y z:Int):PCall Tryz.prog 42 [h.av,P3 x y z] ⟨I (plaE h x y z),[]⟩:=by
 have hf:=Zjx hk he
 have hk0:=Ze (c52 hk.f hf.le.2.2.1 (Yhg hf.st) ⟨x,y,z,1⟩) (Yg2 (Ze (c36 x y z) Zb))
 unfold plaE plcB
 generalize Zae h ⟨x,y,z,1⟩=b at *
 refine bs.pv (sx:=nos) hk0 Tryz.func42 (by kernel_rfl) (by kernel_rfl) rfl ?_
 repeat'(first|refine wk3 ?_|(refine wk2 ?_ ?_<;>intro _)|refine wk4 ?_|fail);all_goals(conv=>whnf)
 all_goals clear hk0
 all_goals exact Za (by simp_all [unl])
structure Ask where
 fx:Int
 fy:Int
 fz:Int
 tx:Int
 ty:Int
 tz:Int
 n:Int
abbrev Ask.av (a:Ask):AV:=.agg [I a.fx,I a.fy,I a.fz,I a.tx,I a.ty,I a.tz,I a.n]
def Ask.same (a:Ask):Bool:=decide (a.fx=a.tx)&&(decide (a.fy=a.ty)&&decide (a.fz=a.tz))
def askE (h:Hal) (s:Stg) (a:Ask):Int:=if serr h s=0 then fstL [plaE h a.fx a.fy a.fz,plaE h a.tx a.ty a.tz,unl (!a.same) 11,unl (within a.n 0 4) 2] else serr h s
theorem Zf0 {h:Hal} {s:Stg} (e:serr h s=0):h.err=0:=by
 unfold serr at e
 split at e
 ·assumption
 ·rename_i q; exact absurd e q
def r80:List AV->Option PRes
 | [.bool b,.int .i64 e]=>some ⟨I (unl b e),[]⟩
 | _=>none
theorem Yg3 {pt:PC} (h:PCOK Tryz.prog pt):PCOK Tryz.prog (ins 66 r80 pt):=Zh (fun a res h=>by unfold r80 at h; split at h<;>cases h; exact d209 _ _) h
noncomputable abbrev r79 (h:Hal):List AV->Option PRes:=famA (fun _:Pl3=>True) (fun p=>[h.av,P3 p.1 p.2.1 p.2.2]) (fun p=>⟨I (plaE h p.1 p.2.1 p.2.2),[]⟩)
theorem Yg4 {h:Hal} (hk:h.ok) (he:h.err=0) {pt:PC} (hp:PCOK Tryz.prog pt):PCOK Tryz.prog (ins 65 (r79 h) pt):=Ya (fun p _=>d79 hk he p.1 p.2.1 p.2.2) hp
theorem Zme (h:Hal) (x y z:Int):r79 h [h.av,P3 x y z]=some ⟨I (plaE h x y z),[]⟩ :=
 Zm (p:=fun _:Pl3=>True) (g:=fun p=>[h.av,P3 p.1 p.2.1 p.2.2]) (r:=fun p=>⟨I (plaE h p.1 p.2.1 p.2.2),[]⟩) (k:=(x,y,z)) (fun j hj=>by
  simp only [Qs,AV.agg.injEq,Sn,true_and,and_true] at hj
  obtain ⟨h1,h2,h3⟩:=hj
  rw [h1,h2,h3]) trivial
theorem Yg7 {h:Hal} (hk:h.ok) (he:h.err=0) {pt:PC} (hp:PCOK Tryz.prog pt):PCOK Tryz.prog (ins 42 (r79 h) pt):=Ya (fun p _=>d27 hk he p.1 p.2.1 p.2.2) hp
noncomputable abbrev rFst:List AV->Option PRes:=famA (fun l:List Int=>l.length<1000) (fun l=>[.isl 1 (nl l)]) (fun l=>⟨I (fstL l),[]⟩)
theorem Yeg {pt:PC} (hp:PCOK Tryz.prog pt):PCOK Tryz.prog (ins 64 rFst pt):=Ya (fun l hl=>d78 hl) hp
theorem Yaf {l:List Int} (h:l.length<1000):rFst [.isl 1 (nl l)]=some ⟨I (fstL l),[]⟩ :=
 Zm (p:=fun l:List Int=>l.length<1000) (g:=fun l=>[.isl 1 (nl l)]) (r:=fun l=>⟨I (fstL l),[]⟩) (fun j hj=>by
  simp only [Qs,AV.isl.injEq,true_and,and_true] at hj
  rw [Ze0 hj]) h
theorem d24 {h:Hal} (hk:h.ok) {s:Stg} (hs:s.few) (a:Ask):PCall Tryz.prog 33 [h.av,s.av,a.av] ⟨I (askE h s a),[]⟩:=by
 have hk0:=Ze (c47 hk hs) Zb
 by_cases e:serr h s=0
 ·have he:=Zf0 e
  obtain ⟨fx,fy,fz,tx,ty,tz,n⟩:=a
  unfold askE
  rw [if_pos e]
  rw [e] at hk0
  dsimp only
  have hk1:=Yg4 hk he (Yg3 (Ze (d81 n) (Yeg hk0)))
  have q1:=Zme h fx fy fz
  have q2:=Zme h tx ty tz
  refine bs.pv (sx:=nos) hk1 Tryz.func33 (by kernel_rfl) (by kernel_rfl) rfl ?_
  repeat'(first|refine wk3 ?_|(refine wk2 ?_ ?_<;>intro _)|refine wk4 ?_|fail);all_goals(conv=>whnf)
  refine wxG (Yaf (l:=[_,_,_,_]) (by simp)) ?_
  conv=>whnf
  repeat'(first|refine wk3 ?_|(refine wk2 ?_ ?_<;>intro _)|refine wk4 ?_|fail);all_goals(conv=>whnf)
  exact Za (by simp [Ask.same])
 ·rw [show askE h s a=serr h s by unfold askE; rw [if_neg e]]
  refine bs.pv (sx:=nos) hk0 Tryz.func33 (by kernel_rfl) (by kernel_rfl) rfl ?_
  repeat'(first|refine wk3 ?_|(refine wk2 ?_ ?_<;>intro _)|refine wk4 ?_|fail);all_goals(conv=>whnf)
  all_goals first
   | exact Za rfl
   | (exfalso; simp_all; done)
end Go.Proofs.YtfkdpbklbegnlaaGreat
