/- A part of the proof: lemmas. -/
import Derived.Test.YtdmidbkelinnjaaGreatA11
import Derived.Test.YtdmidbkelinnjaaGreatA7
import Derived.Test.YtdmidbkelinnjaaGreatA6
import Derived.Test.YtdmidbkelinnjaaGreatA10
import Derived.Test.YtdmidbkelinnjaaGreatA9
import Derived.Test.YtdmidbkelinnjaaGreatRows
set_option linter.unusedVariables false
set_option linter.unusedSimpArgs false
set_option maxRecDepth 100000
set_option maxHeartbeats 16000000
open Bool renaming and_eq_true->Qc,eq_iff_iff->Rz,not_eq_true'->Sq,or_eq_true->Qz
open Go.IntKind renaming i64->Qb,wrap->Qa,wrap_i64->Sy
open Go.Proofs.YtdmidbkelinnjaaGreat.Can renaming av->Ob
open Go.Proofs.YtdmidbkelinnjaaGreat.Wal renaming av->Sj
open Go.Sx.AV.int renaming injEq->Wh
open Go.Sx.Done renaming mk->Qo
open Go.Sx.LpM renaming start->Wp,succ->Rp
open Int renaming add_comm->Og,le_of_lt->Rk,le_total->Jr,max_eq_left->Dc,max_eq_right->Fk,min_eq_left->Da,min_eq_right->Fj,mul_comm->Jq,mul_eq_zero->Jx,mul_le_mul_of_nonneg_left->Rs,mul_le_mul_of_nonneg_right->Qn,mul_lt_mul_of_pos_right->Ol,mul_neg->Te,mul_nonneg->Tk,mul_one->Sb,mul_pos->Pc,natAbs_mul->Oe,natAbs_natCast->Nw,natAbs_tmod->Jw,ofNat_dvd_left->Nv,sub_mul->Ma,tmod_nonneg->Dd,toNat_of_nonneg->Lk,zero_mul->Tc
open List renaming drop_eq_getElem_cons->Qi,drop_of_length_le->Qj,getElem?_eq_getElem->Qh,map_congr_left->Oc,map_cons->Sz,mem_cons->Qx,not_mem_nil->Na
open List.cons renaming injEq->Rb
open Nat renaming beq->Ql,dvd_trans->Lb,gcd->Ta,gcd_dvd_left->Jg,gcd_dvd_right->Om,gcd_mul_right->Kq,gcd_zero_left->Kp,le_refl->Qd,zero_le->Qm
namespace Go.Proofs.YtdmidbkelinnjaaGreat
open Go Go.Sx
structure Sit (h:Hal) (s:Stg):Prop where
 ok:h.ok
 fine:h.fine
 sf:s.few
 set:SetOk h s
theorem Zih {h:Hal} (hk:h.ok) {s:Stg} (hs:s.few) (h0:serr h s=0):Sit h s:=by
 unfold serr at h0
 split at h0
 ·rename_i he
  exact ⟨hk,Zgz hk he,hs,Ya6 hk.f h0⟩
 ·rename_i he; exact absurd h0 he
inductive SK (h:Hal):Int->Prop
 | wall (k:Nat) (hk:k<h.ws.length):SK h k
 | floor:SK h h.ws.length
 | ceil:SK h ((h.ws.length:Int)+1)
 | can (j:Nat) (hj:j<h.ks.length):SK h ((h.ws.length:Int)+2+j)
theorem Zo3 {h:Hal} {i:Int} (h0:0<=i) (h1:i<nsur h):SK h i:=by
 unfold nsur at h1
 by_cases c1:i<h.ws.length
 ·have:=SK.wall (h:=h) i.toNat (by omega)
  rwa [Lk h0] at this
 by_cases c2:i=h.ws.length
 ·rw [c2]; exact .floor
 by_cases c3:i=(h.ws.length:Int)+1
 ·rw [c3]; exact .ceil
 have:=SK.can (h:=h) (i-h.ws.length-2).toNat (by omega)
 rwa [Lk (by omega),show (h.ws.length:Int)+2+(i-h.ws.length-2)=i by omega] at this
theorem Zme {h:Hal} {s:Stg} {i:Int} (h0:surE h s i=0):serr h s=0/\0<=i/\i<nsur h:=by
 unfold surE at h0
 split at h0
 ·rename_i he
  split at h0
  ·rename_i hw
   have:=within_iff.1 hw
   exact ⟨he,by omega,by omega⟩
  ·cases h0
 ·rename_i he; exact absurd h0 he
def kix (h:Hal) (i:Int):Nat:=(i-h.ws.length-2).toNat
def kat (h:Hal) (i:Int):Can:=(h.ks[kix h i]?).getD ⟨⟨#[]⟩,⟨#[]⟩,0,0,0,0,[]⟩
theorem Zqy {h:Hal} {j:Nat} (hj:j<h.ks.length):kat h ((h.ws.length:Int)+2+j)=h.ks[j]:=by
 unfold kat kix
 rw [show ((h.ws.length:Int)+2+j-h.ws.length-2).toNat=j by omega,Qh hj]; rfl
def isK (h:Hal) (i:Int):Bool:=decide ((h.ws.length:Int)+2<=i)
abbrev canZ:List AV:=[.str ⟨#[]⟩,.str ⟨#[]⟩,I 0,I 0,I 0,I 0,.nils]
def canV (h:Hal) (i:Int):AV:=.agg (match isK h i with
 | true=>(kat h i).av
 | false=>canZ)
theorem c87 {h:Hal} (hf:h.few) (s:Stg) {i:Int} (hi:SK h i):PCall Tryz.prog 185 [.agg (stgL h s),I i] ⟨.tup [canV h i,Bo (isK h i)],[]⟩:=by
 have l:=Ym h.ws
 have l2:=Xe h.ks
 obtain ⟨_,_,f3,f4,_⟩:=hf
 have low:∀ i:Int,0<=i->i<(h.ws.length:Int)+2->PCall Tryz.prog 185 [.agg (stgL h s),I i] ⟨.tup [.agg canZ,Bo false],[]⟩:=by
  intro i h0 h1
  have hv:Qa Qb (Qa Qb (i-((h.ws.map Sj).length:Int))-2)=i-h.ws.length-2:=by rw [W_eq (n:=i-((h.ws.map Sj).length:Int)) (by omega) (by omega),W_eq (by omega) (by omega)]; omega
  refine bs.pv (sx:=nos) Zd Tryz.func185 (by kernel_rfl) (by kernel_rfl) rfl ?_
  have hn:¬ (0<=Qa Qb (Qa Qb (i-((h.ws.map Sj).length:Int))-2)):=by rw [hv]; omega
  repeat'(first|refine wk0 ?_|(refine wk2 ?_ ?_<;>intro _)|refine wk4 ?_|fail);all_goals(conv=>whnf)
  all_goals first
   | exact Zf rfl rfl
   | (exfalso; rename_i hx; have:=of_decide_eq_true hx; rw [hv] at this; omega)
   | (exfalso; rename_i hx; have:=of_decide_eq_true hx; exact hn this)
 cases hi with
 | wall k hk =>
  have e1:isK h k=false:=decide_eq_false (by omega)
  unfold canV; rw [e1]; exact low _ (by omega) (by omega)
 | floor =>
  have e1:isK h h.ws.length=false:=decide_eq_false (by omega)
  unfold canV; rw [e1]; exact low _ (by omega) (by omega)
 | ceil =>
  have e1:isK h ((h.ws.length:Int)+1)=false:=decide_eq_false (by omega)
  unfold canV; rw [e1]; exact low _ (by omega) (by omega)
 | can j hj =>
  have e1:isK h ((h.ws.length:Int)+2+j)=true:=decide_eq_true (by omega)
  unfold canV
  rw [e1]
  dsimp only
  rw [Zqy hj]
  have hv:Qa Qb (Qa Qb ((h.ws.length:Int)+2+j-((h.ws.map Sj).length:Int))-2)=j:=by rw [W_eq (n:=(h.ws.length:Int)+2+j-((h.ws.map Sj).length:Int)) (by omega) (by omega),W_eq (by omega) (by omega)]; omega
  have e2:(h.ks.map Ob)[(Qa Qb (Qa Qb ((h.ws.length:Int)+2+j-((h.ws.map Sj).length:Int))-2)).toNat]?=some (Ob h.ks[j]):=by rw [hv]; exact Zdo hj
  have e3:0<=Qa Qb (Qa Qb ((h.ws.length:Int)+2+j-((h.ws.map Sj).length:Int))-2):=by omega
  have e4:decide (0<=Qa Qb (Qa Qb ((h.ws.length:Int)+2+j-((h.ws.map Sj).length:Int))-2))=true:=decide_eq_true e3
  refine bs.pv (sx:=nos) Zd Tryz.func185 (by kernel_rfl) (by kernel_rfl) rfl ?_
  repeat'(first|refine wk0 ?_|(refine wk2 ?_ ?_<;>intro _)|refine wk4 ?_|fail);all_goals(conv=>whnf)
  all_goals first
   | exact Zf rfl rfl
   | (exfalso; rename_i hx; rw [e4] at hx; cases hx)
def Zdk (h:Hal) (s:Stg) (j:Nat):Int:=match h.ks[j]?,s.hs[j]? with
 | some c,some n=>c.hs.getD n.toNat 0
 | _,_=>0
theorem Znk {h:Hal} {s:Stg} (g:SetOk h s) {j:Nat} (hj:j<h.ks.length):∃ n,(nl s.hs)[((j:Nat):Int).toNat]?=some [I n]/\0<=n/\n<h.ks[j].hs.length/\(nl h.ks[j].hs)[n.toNat]?=some [I (Zdk h s j)]:=by
 have h2:j<s.hs.length:=by rw [g.len]; exact hj
 obtain ⟨g1,g2⟩:=g.hs j hj h2
 refine ⟨s.hs[j],Uo h2,g1,g2,?_⟩
 have h3:s.hs[j].toNat<h.ks[j].hs.length:=by omega
 have e:Zdk h s j=h.ks[j].hs[s.hs[j].toNat]:=by unfold Zdk; rw [Qh hj,Qh h2]; simp [h3]
 rw [e]
 simp [nl,h3]
theorem c192 {h:Hal} {s:Stg} (g:Sit h s) {j:Nat} (hj:j<h.ks.length):PCall Tryz.prog 100 [.agg (stgL h s),I j] ⟨I (Zdk h s j),[]⟩:=by
 obtain ⟨n,e1,e2,e3,e4⟩:=Znk g.set hj
 have e5:=Zdo hj
 generalize h.ks[j]=c at *
 have e6:=Zl c.hs
 refine bs.pv (sx:=nos) Zd Tryz.func100 (by kernel_rfl) (by kernel_rfl) rfl ?_
 repeat'(first|refine wk1 ?_|(refine wk2 ?_ ?_<;>intro _)|refine wk4 ?_|fail);all_goals(conv=>whnf)
 exact Za rfl
def plW (w:Wl):Int × Int:=if w.dx=0 then (0,w.fx) else if w.dy=0 then (1,w.fy) else if w.dx=w.dy then (4,Qa Qb (w.fx-w.fy)) else (3,Qa Qb (w.fx+w.fy))
def Zh (h:Hal) (s:Stg) (i:Int):Int × Int:=if i<h.ws.length then plW (wlOf h.cs i.toNat) else if i=h.ws.length then (2,0) else if i=(h.ws.length:Int)+1 then (2,h.ht) else (2,Zdk h s (kix h i))
theorem Zaq {h:Hal} {s:Stg} {k:Nat} (hk:k<h.ws.length):Zh h s k=plW (wlOf h.cs k):=by unfold Zh; rw [if_pos (by omega)]; rfl
theorem Za9 {h:Hal} {s:Stg}:Zh h s h.ws.length=(2,0):=by unfold Zh; rw [if_neg (by omega),if_pos rfl]
theorem Zb9 {h:Hal} {s:Stg}:Zh h s ((h.ws.length:Int)+1)=(2,h.ht):=by unfold Zh; rw [if_neg (by omega),if_neg (by omega),if_pos rfl]
theorem Zdw {h:Hal} {s:Stg} {j:Nat}:Zh h s ((h.ws.length:Int)+2+j)=(2,Zdk h s j):=by
 unfold Zh kix
 rw [if_neg (by omega),if_neg (by omega),if_neg (by omega),show ((h.ws.length:Int)+2+j-h.ws.length-2).toNat=j by omega]
noncomputable def kP (h:Hal) (s:Stg):PC:=ins 183 (one [.agg (stgL h s)] ⟨I (h.ws.length:Int),[]⟩) (ins 184 (one [.agg (stgL h s)] ⟨I ((h.ws.length:Int)+1),[]⟩) kG4)
theorem Yd3 {h:Hal} {s:Stg} (g:Sit h s):PCOK Tryz.prog (kP h s):=Ze (c172 s) (Ze (c173 g.ok.f s) Ua)
theorem c112 {h:Hal} {s:Stg} (g:Sit h s) {i:Int} (hi:SK h i):PCall Tryz.prog 114 [.agg (stgL h s),I i] ⟨P2 (Zh h s i).1 (Zh h s i).2,[]⟩:=by
 have hk0:=Yd3 g
 have f3:=g.ok.f.2.2.1
 have f4:=g.ok.f.2.2.2.1
 cases hi with
 | wall k hk =>
  have hk2:k<h.cs.length:=by have:=g.fine.le; omega
  rw [Zaq hk]
  have hk1:=Ze (Ycs g.ok.f hk2) hk0
  refine bs.pv (sx:=nos) hk1 Tryz.func114 (by kernel_rfl) (by kernel_rfl) rfl ?_
  generalize wlOf h.cs k=w at *
  repeat'(first|refine wk1 ?_|(refine wk2 ?_ ?_<;>intro _)|refine wk4 ?_|fail);all_goals(conv=>whnf)
  all_goals exact Zf (by clear hk0 hk1; simp_all [plW]) rfl
 | floor =>
  rw [Za9]
  refine bs.pv (sx:=nos) hk0 Tryz.func114 (by kernel_rfl) (by kernel_rfl) rfl ?_
  repeat'(first|refine wk1 ?_|(refine wk2 ?_ ?_<;>intro _)|refine wk4 ?_|fail);all_goals(conv=>whnf)
  exact Zf rfl rfl
 | ceil =>
  rw [Zb9]
  refine bs.pv (sx:=nos) hk0 Tryz.func114 (by kernel_rfl) (by kernel_rfl) rfl ?_
  repeat'(first|refine wk1 ?_|(refine wk2 ?_ ?_<;>intro _)|refine wk4 ?_|fail);all_goals(conv=>whnf)
  exact Zf rfl rfl
 | can j hj =>
  rw [Zdw]
  have hv:Qa Qb (Qa Qb ((h.ws.length:Int)+2+j-((h.ws.length:Int)+1))-1)=j:=by rw [W_eq (n:=(h.ws.length:Int)+2+j-((h.ws.length:Int)+1)) (by omega) (by omega),W_eq (by omega) (by omega)]; omega
  have hc:=c192 g hj
  rw [<-hv] at hc
  have hk1:=Ze hc hk0
  refine bs.pv (sx:=nos) hk1 Tryz.func114 (by kernel_rfl) (by kernel_rfl) rfl ?_
  repeat'(first|refine wk1 ?_|(refine wk2 ?_ ?_<;>intro _)|refine wk4 ?_|fail);all_goals(conv=>whnf)
  exact Zf rfl rfl
def Zhd (h:Hal) (s:Stg) (i:Int):Int × Int:=if surE h s i=0 then Zh h s i else (0,0)
theorem c54 {h:Hal} (hk:h.ok) {s:Stg} (hs:s.few) (i:Int):PCall Tryz.prog 105 [h.av,s.av,I i] ⟨.tup [P2 (Zhd h s i).1 (Zhd h s i).2,I (surE h s i)],[]⟩:=by
 have hk0:=Ze (c109 hk hs i) Zd
 by_cases he:surE h s i=0
 ·have e:=Zme he
  have g:=Zih hk hs e.1
  have hk1:=Ze (c112 g (Zo3 e.2.1 e.2.2)) hk0
  have e2:Zhd h s i=Zh h s i:=by unfold Zhd; rw [if_pos he]
  rw [e2]
  rw [he] at hk1 ⊢
  refine bs.pv (sx:=nos) hk1 Tryz.func105 (by kernel_rfl) (by kernel_rfl) rfl ?_
  repeat'(first|refine wk1 ?_|(refine wk2 ?_ ?_<;>intro _)|refine wk4 ?_|fail);all_goals(conv=>whnf)
  exact Zf rfl rfl
 ·have e2:Zhd h s i=(0,0):=by unfold Zhd; rw [if_neg he]
  rw [e2]
  refine bs.pv (sx:=nos) hk0 Tryz.func105 (by kernel_rfl) (by kernel_rfl) rfl ?_
  repeat'(first|refine wk1 ?_|(refine wk2 ?_ ?_<;>intro _)|refine wk4 ?_|fail);all_goals(conv=>whnf)
  exact Zf rfl rfl
theorem Zl1 {h:Hal} {i:Int} (hi:i<(h.ws.length:Int)+2):canV h i = .agg canZ/\isK h i=false:=by
 have e1:isK h i=false:=decide_eq_false (by omega)
 unfold canV; rw [e1]; exact ⟨rfl,rfl⟩
theorem Zy3 {h:Hal} {j:Nat} (hj:j<h.ks.length):canV h ((h.ws.length:Int)+2+j) = .agg (Ob h.ks[j])/\isK h ((h.ws.length:Int)+2+j)=true:=by
 have e1:isK h ((h.ws.length:Int)+2+j)=true:=decide_eq_true (by omega)
 unfold canV; rw [e1,<-Zqy hj]; exact ⟨rfl,rfl⟩
structure Pl where
 nm:ByteArray
 ht:Int
 fl:ByteArray
 ce:ByteArray
 ms:List (List AV)
 ps:List (Int × Int)
 wa:List (List AV)
 ca:AV
 se:AV
abbrev Pl.c (p:Pl):List AV:=[.str p.nm,I p.ht,.str p.fl,.str p.ce,.isl 6 p.ms,.isl 2 (p.ps.map pt),.isl 3 p.wa,p.ca,p.se]
def bxP:Pl:=⟨⟨⟨[104]⟩⟩,600,⟨⟨[119]⟩⟩,⟨⟨[119]⟩⟩,[[.str ⟨⟨[119]⟩⟩,I 100,I 100,I 100,I 100,I 0]],[(0,0),(1000,0),(1000,2000),(0,2000)],
 [[.str ⟨⟨[97]⟩⟩,.str ⟨⟨[119]⟩⟩,.str ⟨⟨[]⟩⟩],[.str ⟨⟨[98]⟩⟩,.str ⟨⟨[119]⟩⟩,.str ⟨⟨[]⟩⟩],[.str ⟨⟨[99]⟩⟩,.str ⟨⟨[119]⟩⟩,.str ⟨⟨[]⟩⟩],[.str ⟨⟨[100]⟩⟩,.str ⟨⟨[119]⟩⟩,.str ⟨⟨[]⟩⟩]],.nils,.nils⟩
noncomputable def exT5 (xs:List Nat) (pt:PC):CF:=exG Tryz.prog (tget tbl) (memN eqs) itT (memN xs) pt 1000 60
theorem Zvp {xs:List Nat} {pt:PC} (hpt:PCOK Tryz.prog pt):CFOK Tryz.prog (exT5 xs pt):=Zjd Zxf eqOK Yab mixed hpt 60
theorem Xk {xs:List Nat} {pt:PC} (hpt:PCOK Tryz.prog pt) {f:FuncId} {a:List AV} {v:AV} (h:isR v (pcF (exT5 xs pt) f a)=true):PCall Tryz.prog f a ⟨v,[]⟩:=Zll (Zvp hpt) (Yac h)
mutual
def toFz (bl:List (Nat × List (List AV))):AV->Option AV
 | .asl id 0 len=>match bl[id]? with
  | some (es,els)=>cond (Ql len els.length) (some (.isl es els)) none
  | none=>none
 | .agg cs=>match Zrw bl cs with
  | some ds=>some (.agg ds)
  | none=>none
 | .tup cs=>match Zrw bl cs with
  | some ds=>some (.tup ds)
  | none=>none
 | .int k n=>some (.int k n)
 | .bool b=>some (.bool b)
 | .nils=>some .nils
 | _=>none
def Zrw (bl:List (Nat × List (List AV))):List AV->Option (List AV)
 | []=>some []
 | c::cs=>match toFz bl c,Zrw bl cs with
  | some d,some ds=>some (d::ds)
  | _,_=>none
end
mutual
theorem Ztf (bl:List (Nat × List (List AV))):∀ (v:AV) {v' : AV},toFz bl v=some v'->Frz bl v v'
 | .asl id 0 len,v',h=>by
  simp only [toFz] at h
  split at h
  ·rename_i es els hb
   obtain ⟨h1,h⟩:=Zb h
   cases h
   exact ⟨hb,rfl,Nat.eq_of_beq_eq_true h1⟩
  ·cases h
 | .agg cs,v',h=>by
  simp only [toFz] at h
  split at h
  ·rename_i ds hd
   cases h
   exact Zlb bl cs hd
  ·cases h
 | .tup cs,v',h=>by
  simp only [toFz] at h
  split at h
  ·rename_i ds hd
   cases h
   exact Zlb bl cs hd
  ·cases h
 | .int k n,v',h=>by simp only [toFz] at h; cases h; exact ⟨rfl,rfl⟩
 | .bool b,v',h=>by simp only [toFz] at h; cases h; exact ⟨rfl,rfl⟩
 | .nils,v',h=>by simp only [toFz] at h; cases h; exact ⟨rfl,rfl⟩
 | .any,_,h | .flt _ _,_,h | .cpx _ _ _,_,h | .str _,_,h | .ptr _ _ _,_,h | .ipt _,_,h | .nilp,_,h | .bsl _ _ _ _ _,_,h | .isl _ _,_,h | .amap _,_,h | .func _ _ _,_,h | .yld _,_,h | .asl _ (_+1) _,_,h=>by simp [toFz] at h
theorem Zlb (bl:List (Nat × List (List AV))):∀ (v:List AV) {v' : List AV},Zrw bl v=some v'->FrzL bl v v'
 | [],v',h=>by simp only [Zrw] at h; cases h; exact trivial
 | c::cs,v',h=>by
  simp only [Zrw] at h
  split at h
  ·rename_i d ds h1 h2
   cases h
   exact ⟨Ztf bl c h1,Zlb bl cs h2⟩
  ·cases h
end
def isRF (v0:AV):Option PRes->Bool
 | some ⟨v,bl⟩=>match toFz bl v with
  | some u=>eqA u v0
  | none=>false
 | _=>false
theorem Zmr {xs:List Nat} {pt:PC} (hpt:PCOK Tryz.prog pt) {f:FuncId} {a:List AV} {v:AV} (h:isRF v (pcF (exT5 xs pt) f a)=true):PCall Tryz.prog f a ⟨v,[]⟩:=by
 unfold isRF at h
 split at h
 ·rename_i u bl hu
  split at h
  ·rename_i d hd
   rw [<-Zvz _ _ h]
   exact (Zll (Zvp hpt) hu).freeze (Ztf bl u hd)
  ·cases h
 ·cases h
theorem awbox:isR (.tup [.agg [I 0,I 0],I 0]) (pcF (exT [] pt0) 73 [.agg bxP.c])=true:=by kernel_rfl
theorem Yez:PCall Tryz.prog 73 [.agg bxP.c] ⟨.tup [.agg [I 0,I 0],I 0],[]⟩:=Zxm Zd awbox
noncomputable def boxT:PC:=Zet 73 [.agg bxP.c] (.tup [.agg [I 0,I 0],I 0]) pt0
theorem Zwn:PCOK Tryz.prog boxT:=Xo Yez Zd
theorem awcs:isR (I 0) (pcF (exT5 [73] boxT) 55 [.agg bxP.c,.agg [.nils,.nils]])=true:=by kernel_rfl
noncomputable def tcs:PC:=Zet 55 [.agg bxP.c,.agg [.nils,.nils]] (I 0) boxT
theorem Zzq:PCOK Tryz.prog tcs:=Xo (Xk Zwn awcs) Zwn
theorem awca:isR (I 0) (pcF (exT5 [55,73] tcs) 28 [.agg bxP.c,.agg [.nils,.nils],.agg [I 300,I 700,I 150,I 300,I 800,I 50,I 2]])=true:=by kernel_rfl
noncomputable def tca:PC:=Zet 28 [.agg bxP.c,.agg [.nils,.nils],.agg [I 300,I 700,I 150,I 300,I 800,I 50,I 2]] (I 0) tcs
theorem Zzs:PCOK Tryz.prog tca:=Xo (Xk Zzq awca) Zzq
theorem awwe:isR (I 0) (pcF (exT5 [28,55,73] tca) 34 [.agg bxP.c,.isl 1 [[I 1]]])=true:=by kernel_rfl
noncomputable def twe:PC:=Zet 34 [.agg bxP.c,.isl 1 [[I 1]]] (I 0) tca
theorem Zzi:PCOK Tryz.prog twe:=Xo (Xk Zzs awwe) Zzs
theorem awcr:isR (.tup [.agg [I 1000,I 750,I 100,I 1],I 0]) (pcF (exT5 [28,34,55,73] twe) 62 [.agg bxP.c,.agg [.nils,.nils],.agg [I 1,I 1700,I 700,I 150,I 300,I 800,I 50,I 1]])=true:=by kernel_rfl
noncomputable def tcr:PC:=Zet 62 [.agg bxP.c,.agg [.nils,.nils],.agg [I 1,I 1700,I 700,I 150,I 300,I 800,I 50,I 1]] (.tup [.agg [I 1000,I 750,I 100,I 1],I 0]) twe
theorem Zzr:PCOK Tryz.prog tcr:=Xo (Xk Zzi awcr) Zzi
theorem awfa:isR (.tup [.bool true,I 0]) (pcF (exT5 [28,34,55,62,73] tcr) 63 [.agg bxP.c,.agg [.nils,.nils],.agg [I 300,I 700,I 150,I 1,I 1000,I 750,I 100,I 1]])=true:=by kernel_rfl
noncomputable def tfa:PC:=Zet 63 [.agg bxP.c,.agg [.nils,.nils],.agg [I 300,I 700,I 150,I 1,I 1000,I 750,I 100,I 1]] (.tup [.bool true,I 0]) tcr
theorem Zzp:PCOK Tryz.prog tfa:=Xo (Xk Zzr awfa) Zzr
theorem awfb:isR (.tup [.bool true,I 0]) (pcF (exT5 [28,34,55,62,63,73] tfa) 63 [.agg bxP.c,.agg [.nils,.nils],.agg [I 1000,I 750,I 100,I 1,I 300,I 800,I 50,I 1]])=true:=by kernel_rfl
noncomputable def tfb:PC:=Zet 63 [.agg bxP.c,.agg [.nils,.nils],.agg [I 1000,I 750,I 100,I 1,I 300,I 800,I 50,I 1]] (.tup [.bool true,I 0]) tfa
theorem Zzo:PCOK Tryz.prog tfb:=Xo (Xk Zzp awfb) Zzp
theorem awpl:isR (.tup [.agg [I 0,I 1000],I 0]) (pcF (exT5 [28,34,55,62,63,73] tfb) 105 [.agg bxP.c,.agg [.nils,.nils],I 1])=true:=by kernel_rfl
noncomputable def tpl:PC:=Zet 105 [.agg bxP.c,.agg [.nils,.nils],I 1] (.tup [.agg [I 0,I 1000],I 0]) tfb
theorem Zzn:PCOK Tryz.prog tpl:=Xo (Xk Zzo awpl) Zzo
theorem awpo:isRF (.tup [.agg [.isl 1 [[I 1]],.isl 4 [[I 1000,I 750,I 100,I 1]],I 1980000],I 0]) (pcF (exT5 [28,34,55,62,63,73,105] tpl) 12 [.agg bxP.c,.agg [.nils,.nils],.agg [I 300,I 700,I 150,I 300,I 800,I 50,I 2],.isl 1 [[I 1]]])=true:=by kernel_rfl
noncomputable def tpo:PC:=Zet 12 [.agg bxP.c,.agg [.nils,.nils],.agg [I 300,I 700,I 150,I 300,I 800,I 50,I 2],.isl 1 [[I 1]]] (.tup [.agg [.isl 1 [[I 1]],.isl 4 [[I 1000,I 750,I 100,I 1]],I 1980000],I 0]) tpl
theorem Zzm:PCOK Tryz.prog tpo:=Xo (Zmr Zzn awpo) Zzn
theorem awr0:isR (.tup [.agg [I 1000000,I 2000,I 1,.bool true],.bool true]) (pcF (exT5 [12,28,34,55,62,63,73,105] tpo) 41 [.agg bxP.c,.agg [I 500,I 1000,I 1,I 0,I (-1)]])=true:=by kernel_rfl
noncomputable def tr0:PC:=Zet 41 [.agg bxP.c,.agg [I 500,I 1000,I 1,I 0,I (-1)]] (.tup [.agg [I 1000000,I 2000,I 1,.bool true],.bool true]) tpo
theorem Zzl:PCOK Tryz.prog tr0:=Xo (Xk Zzm awr0) Zzm
theorem awr1:isR (.tup [.agg [I 3000000,I 2000,I 3,.bool true],.bool true]) (pcF (exT5 [12,28,34,41,55,62,63,73,105] tr0) 41 [.agg bxP.c,.agg [I 1500,I 1000,I (-1),I 0,I 1]])=true:=by kernel_rfl
noncomputable def tr1:PC:=Zet 41 [.agg bxP.c,.agg [I 1500,I 1000,I (-1),I 0,I 1]] (.tup [.agg [I 3000000,I 2000,I 3,.bool true],.bool true]) tr0
theorem Zzk:PCOK Tryz.prog tr1:=Xo (Xk Zzl awr1) Zzl
theorem awr2:isR (.tup [.agg [I 5000000,I 2000,I 1,.bool true],.bool true]) (pcF (exT5 [12,28,34,41,55,62,63,73,105] tr1) 41 [.agg bxP.c,.agg [I (-1500),I 1000,I 1,I 0,I 3]])=true:=by kernel_rfl
noncomputable def tr2:PC:=Zet 41 [.agg bxP.c,.agg [I (-1500),I 1000,I 1,I 0,I 3]] (.tup [.agg [I 5000000,I 2000,I 1,.bool true],.bool true]) tr1
theorem Zzj:PCOK Tryz.prog tr2:=Xo (Xk Zzk awr2) Zzk
theorem awfo:isRF (.tup [.isl 1 [[I 1],[I 3],[I 1]],I 0]) (pcF (exT5 [12,28,34,41,55,62,63,73,105] tr2) 15 [.agg bxP.c,.agg [I 500,I 1000],.agg [I 1,I 0],I 3])=true:=by kernel_rfl
noncomputable def tfo:PC:=Zet 15 [.agg bxP.c,.agg [I 500,I 1000],.agg [I 1,I 0],I 3] (.tup [.isl 1 [[I 1],[I 3],[I 1]],I 0]) tr2
theorem Yc4:PCOK Tryz.prog tfo:=Xo (Zmr Zzj awfo) Zzj
theorem awim:isR (.bool true) (pcF (exT5 [12,15,28,34,41,55,62,63,73,105] tfo) 4 [])=true:=by kernel_rfl
theorem Zu0:PCall Tryz.prog 4 [] ⟨.bool true,[]⟩:=Xk Yc4 awim
theorem own:ownKnob Tryz.prog.godebug=none:=by kernel_rfl
theorem Yby:laidOutB Tryz.prog=true:=by kernel_rfl
theorem Yfd:laidOutB Tryz.checked.prog=true:=by kernel_rfl
theorem Yfb:mapsRowed Tryz.checked.prog=true:=by kernel_rfl
theorem Yej:Tryz.checked.prog.plainKeys=Rows.topSeatsSeenRow.plainKeys:=by kernel_rfl
theorem Yem:Tryz.checked.prog.stopsHeard=true:=by kernel_rfl
theorem fMay:Tryz.checked.prog.mayEnter=true:=by kernel_rfl
theorem Yek:Tryz.checked.prog.liftsFinal=Rows.topSeatsSeenRow.lifted:=by kernel_rfl
theorem Yfc:Tryz.checked.prog.make=some Rows.topSeatsSeenRow.make:=by kernel_rfl
theorem Zz0 {a b c:Int} (hc:0<c):a*c<b*c↔a<b:=⟨fun h=>Int.lt_of_mul_lt_mul_right h (by omega),fun h=>Ol h hc⟩
theorem Ydy {a b c:Int} (hc:0<c):a*c<=b*c↔a<=b:=⟨fun h=>Int.le_of_mul_le_mul_right h hc,fun h=>Qn h (by omega)⟩
theorem Ydp {a c:Int} (hc:0<c):0<c*a↔0<a:=by rw [Jq]; have:=Zz0 (a:=0) (b:=a) hc; rwa [Tc] at this
theorem Ye8 {a c:Int} (hc:0<c):c*a<0↔a<0:=by rw [Jq]; have:=Zz0 (a:=a) (b:=0) hc; rwa [Tc] at this
theorem np_l {a c:Int} (hc:0<c):c*a<=0↔a<=0:=by rw [Jq]; have:=Ydy (a:=a) (b:=0) hc; rwa [Tc] at this
theorem Zgv (a b:Int):imin a b=min a b:=by
 unfold imin; by_cases h:b<a<;>simp [h]<;>omega
theorem Zgw (a b:Int):imax a b=max a b:=by
 unfold imax; by_cases h:a<b<;>simp [h]<;>omega
theorem Zde {a b d:Int} (hd:0<d):min a b*d=min (a*d) (b*d):=by
 rcases Jr a b with h|h
 ·rw [Da h,Da (Qn h (by omega))]
 ·rw [Fj h,Fj (Qn h (by omega))]
theorem Zdf {a b d:Int} (hd:0<d):max a b*d=max (a*d) (b*d):=by
 rcases Jr a b with h|h
 ·rw [Fk h,Fk (Qn h (by omega))]
 ·rw [Dc h,Dc (Qn h (by omega))]
structure P2d where
 x:Int
 y:Int
 d:Int
def bsP (w:Wl) (sx sy:Int) (p:P2d):Int:=bes w sx sy p.x p.y p.d
theorem Ye2 {r:Rc} (hr:RcOk r) {x y d:Int} (hd:0<d/\d<=1000000000000000):r.has x y d=true↔0<=x-r.xl*d/\0<=r.xh*d-x/\0<=y-r.yl*d/\0<=r.yh*d-y:=by
 obtain ⟨h1,h2,h3,h4,h5,h6⟩:=hr
 have c1:=Zk (f:=r.xl) (d:=d) (by omega) hd.1
 have c2:=Zk (f:=r.xh) (d:=d) (by omega) hd.1
 have c3:=Zk (f:=r.yl) (d:=d) (by omega) hd.1
 have c4:=Zk (f:=r.yh) (d:=d) (by omega) hd.1
 unfold Rc.has
 rw [W_eq (n:=r.xl*d) (by omega) (by omega),W_eq (n:=r.xh*d) (by omega) (by omega),W_eq (n:=r.yl*d) (by omega) (by omega),W_eq (n:=r.yh*d) (by omega) (by omega),Qc,within_iff,within_iff]
 omega
theorem Zkh {r:Rc} (hr:RcOk r) {x y d:Int} (hd:0<d/\d<=1000000000000000):r.holds x y d=true↔0<x-r.xl*d/\0<r.xh*d-x/\0<y-r.yl*d/\0<r.yh*d-y:=by
 obtain ⟨h1,h2,h3,h4,h5,h6⟩:=hr
 have c1:=Zk (f:=r.xl) (d:=d) (by omega) hd.1
 have c2:=Zk (f:=r.xh) (d:=d) (by omega) hd.1
 have c3:=Zk (f:=r.yl) (d:=d) (by omega) hd.1
 have c4:=Zk (f:=r.yh) (d:=d) (by omega) hd.1
 unfold Rc.holds
 rw [W_eq (n:=r.xl*d) (by omega) (by omega),W_eq (n:=r.xh*d) (by omega) (by omega),W_eq (n:=r.yl*d) (by omega) (by omega),W_eq (n:=r.yh*d) (by omega) (by omega)]
 simp only [Qc,decide_eq_true_eq]
 omega
def Zs6 (p q:Pt):Int:=Qa Qb (Qa Qb (q.x*p.d)-Qa Qb (p.x*q.d))
def Zs5 (p q:Pt):Int:=Qa Qb (Qa Qb (q.y*p.d)-Qa Qb (p.y*q.d))
def cmpP (a b c d:Int):Int:=sgn (a*b-c*d)
def Zk8 (p q:Pt) (x y:Int):Int:=cmpP (Zs6 p q) (Qa Qb (Qa Qb (y*p.d)-p.y)) (Zs5 p q) (Qa Qb (Qa Qb (x*p.d)-p.x))
def ovl (fr den to oth a b:Int):Bool:=decide (imin (Qa Qb (fr*oth)) (Qa Qb (to*den))<Qa Qb (Qa Qb (imax a b*den)*oth))&&decide (Qa Qb (Qa Qb (imin a b*den)*oth)<imax (Qa Qb (fr*oth)) (Qa Qb (to*den)))
def touP (p q:Pt) (w:Wl):Bool :=
 if Zs6 p q=0/\Zs5 p q=0 then w.has p.x p.y p.d
 else if w.side p.x p.y p.d=0/\w.side q.x q.y q.d=0 then (if w.fx=w.tx then ovl p.y p.d q.y q.d w.fy w.ty else ovl p.x p.d q.x q.d w.fx w.tx)
 else if 0<=Qa Qb (w.side p.x p.y p.d*w.side q.x q.y q.d) then false
 else decide (Qa Qb (Zk8 p q w.fx w.fy*Zk8 p q w.tx w.ty)<=0)
def crV (N M:P2d) (D x y:Int):Int:=(M.x-N.x)*(y*D-N.y)-(M.y-N.y)*(x*D-N.x)
def tch (N M:P2d) (D ax ay bx by' : Int):Prop:=∃ s t l m:Int,0<=s/\0<=t/\0<s+t/\0<=l/\0<=m/\0<l+m/\(l*N.x+m*M.x)*(s+t)=(l+m)*(D*(s*ax+t*bx))/\(l*N.y+m*M.y)*(s+t)=(l+m)*(D*(s*ay+t*by'))
theorem Zxc {N M:P2d} {D ax ay bx by' : Int} (h:tch N M D ax ay bx by'):tch N M D bx by' ax ay:=by
 obtain ⟨s,t,l,m,h1,h2,h3,h4,h5,h6,h7,h8⟩:=h
 exact ⟨t,s,l,m,h2,h1,by omega,h4,h5,h6,by rw [Og t s,Og (t*bx)]; exact h7,by rw [Og t s,Og (t*by')]; exact h8⟩
theorem Zxb {N M:P2d} {D ax ay bx by' : Int} (h:tch N M D ax ay bx by'):tch M N D ax ay bx by':=by
 obtain ⟨s,t,l,m,h1,h2,h3,h4,h5,h6,h7,h8⟩:=h
 exact ⟨s,t,m,l,h1,h2,h3,h5,h4,by omega,by rw [Og m l,Og (m*M.x)]; exact h7,by rw [Og m l,Og (m*M.y)]; exact h8⟩
theorem Yc5 {N M:P2d} {D ax ay bx by' : Int} (hy:N.y<M.y) {s t:Int} (hs:0<=s) (ht:0<=t) (hw:0<s+t) (h1:N.y*(s+t)<=D*(s*ay+t*by')) (h2:D*(s*ay+t*by')<=M.y*(s+t)) (h0:s*crV N M D ax ay+t*crV N M D bx by'=0):tch N M D ax ay bx by':=by
 refine ⟨s,t,M.y*(s+t)-D*(s*ay+t*by'),D*(s*ay+t*by')-N.y*(s+t),hs,ht,hw,by omega,by omega,?_,?_,?_⟩
 ·have:(M.y-N.y)*(s+t)=M.y*(s+t)-N.y*(s+t):=Ma _ _ _
  have:=Pc (show 0<M.y-N.y by omega) hw
  omega
 ·unfold crV at h0
  grind
 ·grind
theorem Ya3 {N M:P2d} {D ax ay bx by' : Int} (hy:N.y<M.y) {s t s' t' : Int} (hs:0<=s) (ht:0<=t) (hw:0<s+t) (hs' : 0<=s') (ht' : 0<=t') (hw' : 0<s'+t') (h1:N.y*(s+t)<=D*(s*ay+t*by')) (h2:D*(s*ay+t*by')<=M.y*(s+t))
  (h1' : N.y*(s'+t')<=D*(s'*ay+t'*by')) (h2' : D*(s'*ay+t'*by')<=M.y*(s'+t')) (c1:s*crV N M D ax ay+t*crV N M D bx by'<0) (c2:0<=s'*crV N M D ax ay+t'*crV N M D bx by'):tch N M D ax ay bx by':=by
 generalize hA:crV N M D ax ay=A at *
 generalize hB:crV N M D bx by'=B at *
 generalize hp:s*A+t*B=p at *
 generalize hq:s'*A+t'*B=q at *
 have k1:=Tk c2 hs
 have k2:=Tk c2 ht
 have k3:=Tk (show 0 <= -p by omega) hs'
 have k4:=Tk (show 0 <= -p by omega) ht'
 have k5:=Pc (show 0 < -p by omega) hw'
 have k6:=Tk c2 (Rk hw)
 have e0:q*s + -p*s'+(q*t + -p*t')=q*(s+t) + -p*(s'+t'):=by grind
 have eY:D*((q*s + -p*s')*ay+(q*t + -p*t')*by')=q*(D*(s*ay+t*by')) + -p*(D*(s'*ay+t'*by')):=by grind
 have i1:=Rs h1 c2
 have i2:=Rs h2 c2
 have i3:=Rs h1' (show 0 <= -p by omega)
 have i4:=Rs h2' (show 0 <= -p by omega)
 refine Yc5 hy (s:=q*s + -p*s') (t:=q*t + -p*t') (by omega) (by omega) (by omega) ?_ ?_ ?_
 ·rw [e0,eY]
  have:N.y*(q*(s+t) + -p*(s'+t'))=q*(N.y*(s+t)) + -p*(N.y*(s'+t')):=by grind
  omega
 ·rw [e0,eY]
  have:M.y*(q*(s+t) + -p*(s'+t'))=q*(M.y*(s+t)) + -p*(M.y*(s'+t')):=by grind
  omega
 ·rw [hA,hB]
  have:(q*s + -p*s')*A+(q*t + -p*t')*B=q*(s*A+t*B) + -p*(s'*A+t'*B):=by grind
  rw [this,hp,hq]; grind
def detE (p:P2d) (D ax ay bx by' : Int):Int:=(bx-ax)*(p.y-ay*D)-(by'-ay)*(p.x-ax*D)
def upE (p:P2d) (D ax ay bx by' : Int):Prop:=ay*D<=p.y/\p.y<by'*D/\0<detE p D ax ay bx by'
def rgE (N M:P2d) (D x y:Int):Prop:=N.y<y*D/\y*D<=M.y/\crV N M D x y<0
theorem Zv0 {N M:P2d} {D ax ay bx by' : Int} (hD:0<D) (hy:N.y<=M.y) (hab:ay<=by') (nt:¬ tch N M D ax ay bx by') :
  (upE N D ax ay bx by'↔upE M D ax ay bx by')↔(rgE N M D ax ay↔rgE N M D bx by'):=by
 have hm:ay*D<=by'*D:=Qn hab (Rk hD)
 by_cases hyy:N.y=M.y
 ·
  have r1:∀ x y,¬ rgE N M D x y:=by rintro x y ⟨a,b,_⟩; omega
  have key:upE N D ax ay bx by'↔upE M D ax ay bx by':=by
   by_cases hl:ay*D<=N.y/\N.y<by'*D
   ·have dd:detE N D ax ay bx by'-detE M D ax ay bx by'=(by'-ay)*(M.x-N.x):=by unfold detE; rw [hyy]; grind
    have hw:by'*D-ay*D=(by'-ay)*D:=by rw [Ma]
    have t1:∀ s,s=by'*D-N.y->∀ t,t=N.y-ay*D->D*(s*ax+t*bx)=N.x*((by'-ay)*D)+D*detE N D ax ay bx by':=by
     rintro s rfl t rfl; unfold detE; grind
    have t2:∀ s,s=by'*D-N.y->∀ t,t=N.y-ay*D->D*(s*ay+t*by')=N.y*((by'-ay)*D):=by
     rintro s rfl t rfl; grind
    unfold upE
    rw [<-hyy]
    constructor
    ·rintro ⟨h1,h2,h3⟩
     refine ⟨h1,h2,?_⟩
     by_cases h4:0<detE M D ax ay bx by'
     ·exact h4
     exfalso
     refine nt ⟨by'*D-N.y,N.y-ay*D,-detE M D ax ay bx by',detE N D ax ay bx by',by omega,by omega,by omega,by omega,by omega,by omega,?_,?_⟩
     ·rw [t1 _ rfl _ rfl,show by'*D-N.y+(N.y-ay*D)=(by'-ay)*D by omega]
      generalize detE N D ax ay bx by'=u at *
      generalize detE M D ax ay bx by'=v at *
      grind
     ·rw [t2 _ rfl _ rfl,show by'*D-N.y+(N.y-ay*D)=(by'-ay)*D by omega,<-hyy]
      generalize detE N D ax ay bx by'=u at *
      generalize detE M D ax ay bx by'=v at *
      grind
    ·rintro ⟨h1,h2,h3⟩
     refine ⟨h1,h2,?_⟩
     by_cases h4:0<detE N D ax ay bx by'
     ·exact h4
     exfalso
     refine nt ⟨by'*D-N.y,N.y-ay*D,detE M D ax ay bx by',-detE N D ax ay bx by',by omega,by omega,by omega,by omega,by omega,by omega,?_,?_⟩
     ·rw [t1 _ rfl _ rfl,show by'*D-N.y+(N.y-ay*D)=(by'-ay)*D by omega]
      generalize detE N D ax ay bx by'=u at *
      generalize detE M D ax ay bx by'=v at *
      grind
     ·rw [t2 _ rfl _ rfl,show by'*D-N.y+(N.y-ay*D)=(by'-ay)*D by omega,<-hyy]
      generalize detE N D ax ay bx by'=u at *
      generalize detE M D ax ay bx by'=v at *
      grind
   ·unfold upE
    rw [<-hyy]
    constructor<;>(rintro ⟨h1,h2,h3⟩; exact absurd ⟨h1,h2⟩ hl)
  exact ⟨fun _=>⟨fun h=>absurd h (r1 _ _),fun h=>absurd h (r1 _ _)⟩,fun _=>key⟩
 have hy:N.y<M.y:=by omega
 have lvl:∀ p:P2d,ay*D<=p.y->p.y<by'*D->0<=by'*D-p.y/\0<=p.y-ay*D/\0<(by'*D-p.y)+(p.y-ay*D)/\D*((by'*D-p.y)*ay+(p.y-ay*D)*by')=p.y*((by'*D-p.y)+(p.y-ay*D)):=by
  intro p h1 h2
  refine ⟨by omega,by omega,by omega,by grind⟩
 have crN:(by'*D-N.y)*crV N M D ax ay+(N.y-ay*D)*crV N M D bx by' = -((M.y-N.y)*D*detE N D ax ay bx by'):=by unfold crV detE; grind
 have crM:(by'*D-M.y)*crV N M D ax ay+(M.y-ay*D)*crV N M D bx by' = -((M.y-N.y)*D*detE M D ax ay bx by'):=by unfold crV detE; grind
 have hp:0<(M.y-N.y)*D:=Pc (by omega) hD
 have sN:∀ v,-((M.y-N.y)*D*v)<0↔0<v:=fun v=>by have:=Ydp (a:=v) hp; omega
 have sN2:∀ v,0 <= -((M.y-N.y)*D*v)↔v<=0:=fun v=>by have:=np_l (a:=v) hp; omega
 have one:D*(1*ay+0*by')=ay*D/\D*(0*ay+1*by')=by'*D:=by constructor<;>grind
 have cA:1*crV N M D ax ay+0*crV N M D bx by'=crV N M D ax ay:=by omega
 have cB:0*crV N M D ax ay+1*crV N M D bx by'=crV N M D bx by':=by omega
 have two:=fun {s t s' t' : Int}=>@Ya3 N M D ax ay bx by' hy s t s' t'
 by_cases a0:ay*D<=N.y
 ·by_cases b0:by'*D<=N.y
  ·unfold upE rgE; constructor<;>intro _<;>constructor<;>(rintro ⟨h1,h2,h3⟩; omega)
  obtain ⟨l1,l2,l3,l4⟩:=lvl N a0 (by omega)
  by_cases b1:by'*D<=M.y
  ·
   have key:0<detE N D ax ay bx by'↔crV N M D bx by'<0:=by
    constructor
    ·intro h
     by_cases hc:crV N M D bx by'<0
     ·exact hc
     exact absurd (two (s':=0) (t':=1) l1 l2 l3 (by omega) (by omega) (by omega) (by rw [l4]; omega) (by rw [l4]; exact Qn (Rk hy) (Rk l3)) (by rw [one.2]; omega) (by rw [one.2]; omega) (by rw [crN]; exact (sN _).2 h) (by rw [cB]; omega)) nt
    ·intro h
     by_cases hc:0<detE N D ax ay bx by'
     ·exact hc
     exact absurd (two (s:=0) (t:=1) (by omega) (by omega) (by omega) l1 l2 l3 (by rw [one.2]; omega) (by rw [one.2]; omega) (by rw [l4]; omega) (by rw [l4]; exact Qn (Rk hy) (Rk l3)) (by rw [cB]; exact h) (by rw [crN]; exact (sN2 _).2 (by omega))) nt
   unfold upE rgE
   rw [<-key]
   generalize detE N D ax ay bx by'=u at *
   constructor
   ·intro h
    constructor
    ·rintro ⟨h1,_,_⟩; omega
    ·rintro ⟨_,_,h3⟩
     have:=h.1 ⟨a0,by omega,h3⟩
     omega
   ·intro h
    constructor
    ·rintro ⟨_,_,h3⟩
     have:=h.2 ⟨by omega,b1,h3⟩
     omega
    ·rintro ⟨_,h2,_⟩; omega
  ·
   obtain ⟨m1,m2,m3,m4⟩:=lvl M (by omega) (by omega)
   have key:0<detE N D ax ay bx by'↔0<detE M D ax ay bx by':=by
    constructor
    ·intro h
     by_cases hc:0<detE M D ax ay bx by'
     ·exact hc
     exact absurd (two l1 l2 l3 m1 m2 m3 (by rw [l4]; omega) (by rw [l4]; exact Qn (Rk hy) (Rk l3)) (by rw [m4]; exact Qn (Rk hy) (Rk m3)) (by rw [m4]; omega) (by rw [crN]; exact (sN _).2 h) (by rw [crM]; exact (sN2 _).2 (by omega))) nt
    ·intro h
     by_cases hc:0<detE N D ax ay bx by'
     ·exact hc
     exact absurd (two m1 m2 m3 l1 l2 l3 (by rw [m4]; exact Qn (Rk hy) (Rk m3)) (by rw [m4]; omega) (by rw [l4]; omega) (by rw [l4]; exact Qn (Rk hy) (Rk l3)) (by rw [crM]; exact (sN _).2 h) (by rw [crN]; exact (sN2 _).2 (by omega))) nt
   unfold upE rgE
   rw [key]
   constructor
   ·intro _; constructor<;>(rintro ⟨h1,h2,h3⟩; omega)
   ·intro _
    constructor
    ·rintro ⟨_,_,h3⟩; exact ⟨by omega,by omega,h3⟩
    ·rintro ⟨_,_,h3⟩; exact ⟨by omega,by omega,h3⟩
 by_cases a1:ay*D<=M.y
 ·by_cases b1:by'*D<=M.y
  ·
   have key:crV N M D ax ay<0↔crV N M D bx by'<0:=by
    constructor
    ·intro h
     by_cases hc:crV N M D bx by'<0
     ·exact hc
     exact absurd (two (s:=1) (t:=0) (s':=0) (t':=1) (by omega) (by omega) (by omega) (by omega) (by omega) (by omega) (by rw [one.1]; omega) (by rw [one.1]; omega) (by rw [one.2]; omega) (by rw [one.2]; omega) (by rw [cA]; exact h) (by rw [cB]; omega)) nt
    ·intro h
     by_cases hc:crV N M D ax ay<0
     ·exact hc
     exact absurd (two (s:=0) (t:=1) (s':=1) (t':=0) (by omega) (by omega) (by omega) (by omega) (by omega) (by omega) (by rw [one.2]; omega) (by rw [one.2]; omega) (by rw [one.1]; omega) (by rw [one.1]; omega) (by rw [cB]; exact h) (by rw [cA]; omega)) nt
   unfold upE rgE
   rw [key]
   constructor
   ·intro _
    constructor
    ·rintro ⟨_,_,h3⟩; exact ⟨by omega,by omega,h3⟩
    ·rintro ⟨_,_,h3⟩; exact ⟨by omega,by omega,h3⟩
   ·intro _; constructor<;>(rintro ⟨h1,h2,h3⟩; omega)
  ·
   obtain ⟨m1,m2,m3,m4⟩:=lvl M a1 (by omega)
   have key:0<detE M D ax ay bx by'↔crV N M D ax ay<0:=by
    constructor
    ·intro h
     by_cases hc:crV N M D ax ay<0
     ·exact hc
     exact absurd (two (s':=1) (t':=0) m1 m2 m3 (by omega) (by omega) (by omega) (by rw [m4]; exact Qn (Rk hy) (Rk m3)) (by rw [m4]; omega) (by rw [one.1]; omega) (by rw [one.1]; omega) (by rw [crM]; exact (sN _).2 h) (by rw [cA]; omega)) nt
    ·intro h
     by_cases hc:0<detE M D ax ay bx by'
     ·exact hc
     exact absurd (two (s:=1) (t:=0) (by omega) (by omega) (by omega) m1 m2 m3 (by rw [one.1]; omega) (by rw [one.1]; omega) (by rw [m4]; exact Qn (Rk hy) (Rk m3)) (by rw [m4]; omega) (by rw [cA]; exact h) (by rw [crM]; exact (sN2 _).2 (by omega))) nt
   unfold upE rgE
   rw [<-key]
   generalize detE M D ax ay bx by'=u at *
   constructor
   ·intro h
    constructor
    ·rintro ⟨_,_,h3⟩
     have:=h.2 ⟨a1,by omega,h3⟩
     omega
    ·rintro ⟨_,h2,_⟩; omega
   ·intro h
    constructor
    ·rintro ⟨h1,_,_⟩; omega
    ·rintro ⟨_,_,h3⟩
     have:=h.1 ⟨by omega,a1,h3⟩
     omega
 ·unfold upE rgE; constructor<;>intro _<;>constructor<;>(rintro ⟨h1,h2,h3⟩; omega)
instance (p:P2d) (D ax ay bx by' : Int):Decidable (upE p D ax ay bx by'):=by unfold upE; exact inferInstance
instance (N M:P2d) (D x y:Int):Decidable (rgE N M D x y):=by unfold rgE; exact inferInstance
def flZ (p:P2d) (w:Wl):Bool:=if w.fy<=w.ty then decide (upE p p.d w.fx w.fy w.tx w.ty) else decide (upE p p.d w.tx w.ty w.fx w.fy)
theorem Ycn {w:Wl} {n sx sy:Int} (h:Str w n sx sy) (p:P2d):detE p p.d w.fx w.fy w.tx w.ty=n*bsP w sx sy p/\detE p p.d w.tx w.ty w.fx w.fy = -(n*bsP w sx sy p):=by
 unfold detE bsP bes
 rw [h.tx,h.ty]
 constructor<;>grind
theorem Yce {w:Wl} {n sx sy x y d:Int} (h:Str w n sx sy) (hp:PtOk x y d):flips x y d w=flZ ⟨x,y,d⟩ w:=by
 have a2:=Zk h.b2 hp.hd
 have a4:=Zk h.b4 hp.hd
 have hD:=hp.hD
 have hd:=hp.hd
 obtain ⟨e1,e2⟩:=Ycn h ⟨x,y,d⟩
 have hn:=h.hn
 unfold flips flZ
 rw [Xu h hp,W_eq (n:=w.fy*d) (by omega) (by omega),W_eq (n:=w.ty*d) (by omega) (by omega)]
 change detE ⟨x,y,d⟩ d w.fx w.fy w.tx w.ty=_ at e1
 change detE ⟨x,y,d⟩ d w.tx w.ty w.fx w.fy=_ at e2
 have p1:=Ydp (a:=bsP w sx sy ⟨x,y,d⟩) hn
 have p2:=Ye8 (a:=bsP w sx sy ⟨x,y,d⟩) hn
 have es:bes w sx sy x y d=bsP w sx sy ⟨x,y,d⟩:=rfl
 rw [es]
 have u1:upE ⟨x,y,d⟩ d w.fx w.fy w.tx w.ty↔w.fy*d<=y/\y<w.ty*d/\0<n*bsP w sx sy ⟨x,y,d⟩:=by rw [<-e1]; exact Iff.rfl
 have u2:upE ⟨x,y,d⟩ d w.tx w.ty w.fx w.fy↔w.ty*d<=y/\y<w.fy*d/\0 < -(n*bsP w sx sy ⟨x,y,d⟩):=by rw [<-e2]; exact Iff.rfl
 show _=if w.fy<=w.ty then decide (upE ⟨x,y,d⟩ d w.fx w.fy w.tx w.ty) else decide (upE ⟨x,y,d⟩ d w.tx w.ty w.fx w.fy)
 by_cases hc:w.fy<=w.ty
 ·have hm:w.fy*d<=w.ty*d:=Qn hc (Rk hd)
  rw [if_pos hc,Rz]
  simp only [Qz,Qc,decide_eq_true_eq,Zai,Zaj,u1]
  generalize bsP w sx sy ⟨x,y,d⟩=B at *
  omega
 ·have hm:w.ty*d<=w.fy*d:=Qn (by omega) (Rk hd)
  rw [if_neg hc,Rz]
  simp only [Qz,Qc,decide_eq_true_eq,Zai,Zaj,u2]
  generalize bsP w sx sy ⟨x,y,d⟩=B at *
  omega
theorem Zv1 {N M:P2d} {D:Int} (hN:N.d=D) (hM:M.d=D) (hD:0<D) (hy:N.y<=M.y) {w:Wl} (nt:¬ tch N M D w.fx w.fy w.tx w.ty):(flZ N w ^^ flZ M w)=(decide (rgE N M D w.fx w.fy) ^^ decide (rgE N M D w.tx w.ty)):=by
 unfold flZ
 rw [hN,hM]
 by_cases hc:w.fy<=w.ty
 ·rw [if_pos hc,if_pos hc]
  exact Zos (Zv0 hD hy hc nt)
 ·rw [if_neg hc,if_neg hc,Bool.xor_comm (decide (rgE N M D w.fx w.fy))]
  exact Zos (Zv0 hD hy (by omega) fun h=>nt (Zxc h))
theorem Zw3 {N M:P2d} {D:Int} (hN:N.d=D) (hM:M.d=D) (hD:0<D) {cs:List (Int × Int)} (nt:∀ w∈wls cs,¬ tch N M D w.fx w.fy w.tx w.ty):xorL ((wls cs).map (flZ N))=xorL ((wls cs).map (flZ M)):=by
 have key:∀ N M:P2d,N.d=D->M.d=D->N.y<=M.y->(∀ w∈wls cs,¬ tch N M D w.fx w.fy w.tx w.ty)->(xorL ((wls cs).map (flZ N)) ^^ xorL ((wls cs).map (flZ M)))=false:=by
  intro N M h1 h2 hy h3
  rw [Zh3,<-tele (fun x y=>decide (rgE N M D x y)) cs]
  congr 1
  refine Oc fun w hw=>?_
  exact Zv1 h1 h2 hD hy (h3 w hw)
 have fin:∀ a b:Bool,(a ^^ b)=false->a=b:=by decide
 rcases Jr N.y M.y with hy|hy
 ·exact fin _ _ (key N M hN hM hy nt)
 ·exact (fin _ _ (key M N hM hN hy fun w hw h=>nt w hw (Zxb h))).symm
theorem Zne {x y d:Int}:∀ (ws:List Wl) (b:Bool),inPl x y d b ws=true->(b ^^ xorL (ws.map (flips x y d)))=true
 | [],b,h=>by simpa [xorL,inPl] using h
 | w::ws,b,h=>by
  rw [inPl] at h
  split at h
  ·cases h
  ·have:=Zne ws _ h
   rw [Sz,show xorL (flips x y d w::ws.map (flips x y d))=(flips x y d w ^^ xorL (ws.map (flips x y d))) from rfl,<-Bool.xor_assoc]
   exact this
theorem Zj9 {α:Type} (f:α->Bool):∀ (l:List α),(∀ a∈l,f a=false)->xorL (l.map f)=false
 | [],_=>rfl
 | a::l,h=>by
  rw [Sz,show xorL (f a::l.map f)=(f a ^^ xorL (l.map f)) from rfl,h a (by simp),Zj9 f l fun b hb=>h b (by simp [hb])]
  rfl
theorem Ych {w:Wl} {p:P2d} (hd:0<p.d) (h1 : -5000<=w.fy/\w.fy<=5000) (h2 : -5000<=w.ty/\w.ty<=5000) (hy:p.y < -(5000*p.d)\/5000*p.d<p.y):flZ p w=false:=by
 have a1:=Qn h1.1 (Rk hd)
 have a2:=Qn h1.2 (Rk hd)
 have a3:=Qn h2.1 (Rk hd)
 have a4:=Qn h2.2 (Rk hd)
 unfold flZ
 split
 ·rw [decide_eq_false]
  rintro ⟨b1,b2,_⟩
  omega
 ·rw [decide_eq_false]
  rintro ⟨b1,b2,_⟩
  omega
theorem Ya4 {N M:P2d} {D ax ay bx by' : Int} (hD:0<D) (hM:M.x=N.x) (h1 : -5000<=ax/\ax<=5000) (h2 : -5000<=bx/\bx<=5000) (hx:N.x < -(5000*D)\/5000*D<N.x):¬ tch N M D ax ay bx by':=by
 rintro ⟨s,t,l,m,hs,ht,hst,hl,hm,hlm,e,_⟩
 rw [hM,<-Int.add_mul,Int.mul_assoc] at e
 have e:=Int.eq_of_mul_eq_mul_left (by omega) e
 have a1:=Rs h1.1 hs
 have a2:=Rs h1.2 hs
 have a3:=Rs h2.1 ht
 have a4:=Rs h2.2 ht
 have b1:=Rs (show s*ax+t*bx<=5000*(s+t) by omega) (Rk hD)
 have b2:=Rs (show -5000*(s+t)<=s*ax+t*bx by omega) (Rk hD)
 rw [<-e] at b1 b2
 have c1:D*(5000*(s+t))=5000*D*(s+t):=by grind
 have c2:D*(-5000*(s+t)) = -(5000*D)*(s+t):=by grind
 rw [c1] at b1
 rw [c2] at b2
 rcases hx with hx|hx
 ·have:=Ol hx hst
  omega
 ·have:=Ol hx hst
  omega
theorem Zkr {h:Hal} (hs:Ux h.cs) {x y d:Int} (hp:PtOk x y d) (hi:Ya h x y d=true):(-(5000*d)<=x/\x<=5000*d)/\(-(5000*d)<=y/\y<=5000*d):=by
 have hd:=hp.hd
 have h0:xorL ((wls h.cs).map (flZ ⟨x,y,d⟩))=true:=by
  have:=Zne _ _ hi
  rw [Bool.false_xor] at this
  rw [<-this]
  congr 1
  refine Oc fun w hw=>?_
  obtain ⟨n,sx,sy,g⟩:=Zae hs w hw
  exact (Yce g hp).symm
 have far:∀ p:P2d,0<p.d->(p.y < -(5000*p.d)\/5000*p.d<p.y)->xorL ((wls h.cs).map (flZ p))=false:=fun p hpd hy =>
  Zj9 _ _ fun w hw=>by
   obtain ⟨n,sx,sy,g⟩:=Zae hs w hw
   exact Ych hpd g.b2 g.b4 hy
 have hy:¬ (y < -(5000*d)\/5000*d<y):=fun hy=>by
  rw [far ⟨x,y,d⟩ hd hy] at h0; cases h0
 have hx:¬ (x < -(5000*d)\/5000*d<x):=fun hx=>by
  rw [Zw3 (N:=⟨x,y,d⟩) (M:=⟨x,5001*d,d⟩) (D:=d) rfl rfl hd (fun w hw=>by
   obtain ⟨n,sx,sy,g⟩:=Zae hs w hw
   exact Ya4 hd rfl g.b1 g.b3 hx),far ⟨x,5001*d,d⟩ hd (.inr (by dsimp only; omega))] at h0
  cases h0
 omega
def i64 (n:Int):Prop:=-9223372036854775808<=n/\n<=9223372036854775807
theorem Zzt {a:Int} (h:i64 a):size a=Qa Qb (a.natAbs:Int):=by
 unfold size imax
 obtain ⟨h1,h2⟩:=h
 by_cases h3:a = -9223372036854775808
 ·subst h3; decide
 ·rw [W_eq (n:=0-a) (by omega) (by omega),W_eq (by omega) (by omega)]
  by_cases h4:a<0-a
  ·rw [decide_eq_true h4]; simp only [cond_true]; omega
  ·rw [decide_eq_false h4]; simp only [cond_false]; omega
theorem Zsk (a:Int):i64 (Qa Qb a):=by unfold i64; simp only [Sy]; omega
theorem Zqr {g:Nat} (h:g<=9223372036854775808):(Qa Qb (g:Int)).natAbs=g:=by
 by_cases h3:g=9223372036854775808
 ·subst h3; decide
 ·rw [W_eq (by omega) (by omega)]; simp
theorem Zxa {a b:Int} (ha:i64 a) (hb:b≠0):i64 (a.tmod b):=by
 obtain ⟨h1,h2⟩:=ha
 have h3:(a.tmod b).natAbs<=a.natAbs:=by rw [Jw]; exact Nat.mod_le _ _
 have h4:0<=a->0<=a.tmod b:=fun h=>Dd b h
 have h5:a<=0->a.tmod b<=0:=fun h=>by have:=Dd b (a:=-a) (by omega); rw [Int.neg_tmod] at this; omega
 unfold i64
 omega
theorem Zyf {a b:Int}:Ta b.natAbs (a.tmod b).natAbs=Ta a.natAbs b.natAbs:=by
 rw [Jw,Nat.gcd_comm,<-Nat.gcd_rec,Nat.gcd_comm]
def g4 (p:Pt):Nat:=Ta (Ta p.x.natAbs p.y.natAbs) (Ta p.z.natAbs p.d.natAbs)
structure Pt.wf (p:Pt):Prop where
 x:i64 p.x
 y:i64 p.y
 z:i64 p.z
 d:i64 p.d
theorem Yae {a b:Int} (ha:i64 a) (hb:i64 b):Ta a.natAbs b.natAbs<=9223372036854775808:=by
 obtain ⟨a1,a2⟩:=ha
 obtain ⟨b1,b2⟩:=hb
 by_cases h:a.natAbs=0
 ·rw [h,Kp]; omega
 ·exact Nat.le_trans (Nat.gcd_le_left _ (by omega)) (by omega)
theorem Yeg {p:Pt} (hp:p.wf) (hd:0<p.d):0<g4 p/\(g4 p:Int)<=p.d:=by
 have h1:g4 p ∣ p.d.natAbs:=Lb (Om _ _) (Om _ _)
 have h2:=Nat.le_of_dvd (by omega) h1
 have h3:0<g4 p:=Nat.pos_of_dvd_of_pos h1 (by omega)
 omega
def ptIn (p:Pt):Bool:=within p.x (-(5000*p.d)) (5000*p.d)&&within p.y (-(5000*p.d)) (5000*p.d)&&within p.z (-(5000*p.d)) (5000*p.d)
def Xc (p:Pt):Int:=if p.d<=0\/g4 p≠1 then 3 else if 100000<p.d then 2 else if ptIn p then 0 else 2
theorem Zgo {p:Pt} (h:Xc p=0):0<p.d/\p.d<=100000/\g4 p=1/\ptIn p=true:=by
 unfold Xc at h
 split at h
 ·cases h
 ·rename_i h1
  split at h
  ·cases h
  ·split at h
   ·rename_i h3; exact ⟨by omega,by omega,by omega,h3⟩
   ·cases h
theorem Zkv (a b c d:Nat):Ta (Ta (Ta a b) c) d=Ta (Ta a b) (Ta c d):=by rw [Nat.gcd_assoc (Ta a b)]
def gl:Nat->List Int->Nat
 | g,[]=>g
 | g,n::l=>gl (Ta g n.natAbs) l
theorem c117 {ns:List Int} (hl:ns.length<1000) (hw:∀ n∈ns,i64 n):PCall Tryz.prog 118 [.isl 1 (nl ns)] ⟨I (Qa Qb ((gl 0 ns:Nat):Int)),[]⟩:=by
 have e3:=Zl ns
 refine bs.pv (sx:=nos) Zkq Tryz.func118 (by kernel_rfl) (by kernel_rfl) rfl ?_
 repeat'(first|refine wk1 ?_|(refine wk2 ?_ ?_<;>intro _)|refine wk4 ?_|fail);all_goals(conv=>whnf)
 refine Zz (S:=Nat × Int × Int) (fun t=>ns.length-t.1) (fun t=>[(3,I t.2.2),(6,.isl 1 (nl ns)),(7,I (nl ns).length),(8,I t.2.1)]) (fun _=>[]) 0 0 (fun t=>t.2.1=t.1/\t.1<=ns.length/\i64 t.2.2/\gl t.2.2.natAbs (ns.drop t.1)=gl 0 ns) (0,0,0) ⟨rfl,Qm _,(by unfold i64; decide),rfl⟩ (Qd _) [] rfl (kps) (kps) ?_
 rintro ⟨k,i,g⟩ ⟨hi,hk,hg,hh⟩
 dsimp only at hi hk hg hh ⊢
 subst hi
 refine bs.av (sx:=nos) Zkq ?_
 by_cases hlt:k<ns.length
 ·have e1:=Uo hlt
  have hn:=hw _ (List.getElem_mem hlt)
  rw [Qi hlt,gl] at hh
  repeat'(first|refine wk1 ?_|(refine wk2 ?_ ?_<;>intro _)|refine wk4 ?_|fail);all_goals(conv=>whnf)
  refine Zz (S:=Int × Int) (fun t=>t.2.natAbs) (fun t=>[(3,I t.1),(5,I t.2),(6,.isl 1 (nl ns)),(7,I (nl ns).length),(8,I k)]) (fun _=>[]) 0 0 (fun t=>(i64 t.1/\i64 t.2)/\Ta t.1.natAbs t.2.natAbs=Ta g.natAbs ns[k].natAbs) (g,ns[k]) ⟨⟨hg,hn⟩,rfl⟩ (Qd _) [] rfl (kps) (kps) ?_
  rintro ⟨a,b⟩ ⟨⟨ha,hb⟩,hG⟩
  dsimp only at ha hb hG ⊢
  refine bs.av (sx:=nos) Zkq ?_
  by_cases h0:b=0
  ·subst h0
   repeat'(first|refine wk1 ?_|(refine wk2 ?_ ?_<;>intro _)|refine wk4 ?_|fail);all_goals(conv=>whnf)
   exact Qo ⟨(k+1,_,a),[],rfl,kps,kps,⟨Zi (by omega),hlt,ha,by rw [<-hh,<-hG]; simp⟩,by dsimp only; omega⟩
  ·repeat'(first|refine wk1 ?_|(refine wk2 ?_ ?_<;>intro _)|refine wk4 ?_|fail);all_goals(conv=>whnf)
   exact Qo ⟨(b,a.tmod b),[],rfl,kps,kps,⟨⟨hb,Zxa ha h0⟩,by rw [<-hG]; exact Zyf⟩,by
    show (a.tmod b).natAbs<b.natAbs
    rw [Jw]; exact Nat.mod_lt _ (by omega)⟩
 rw [Qj (by omega)] at hh
 repeat'(first|refine wk1 ?_|(refine wk2 ?_ ?_<;>intro _)|refine wk4 ?_|fail);all_goals(conv=>whnf)
 exact Za (by show size g=_; rw [Zzt hg,<-hh]; rfl)
theorem Ybq {d:Int} (h0:0<d) (h1:d<=100000):Qa Qb (5000*d)=5000*d/\Qa Qb (0-Qa Qb (5000*d)) = -(5000*d):=by
 have e:Qa Qb (5000*d)=5000*d:=W_eq (by omega) (by omega)
 refine ⟨e,?_⟩
 rw [e,W_eq (by omega) (by omega)]; omega
theorem c99 {p:Pt} (hp:p.wf):PCall Tryz.prog 113 [p.av] ⟨I (Xc p),[]⟩:=by
 have hc:=c117 (ns:=[p.x,p.y,p.z,p.d]) (by simp) (by
  intro n hn
  simp only [Qx,Na,or_false] at hn
  rcases hn with rfl|rfl|rfl|rfl
  ·exact hp.x
  ·exact hp.y
  ·exact hp.z
  ·exact hp.d)
 have hg:gl 0 [p.x,p.y,p.z,p.d]=g4 p:=by
  simp only [gl,Kp]
  exact Zkv _ _ _ _
 rw [hg] at hc
 have hk:=Ze hc Ua
 by_cases h1:p.d<=0
 ·have e:Xc p=3:=by unfold Xc; rw [if_pos (.inl h1)]
  rw [e]
  refine bs.pv (sx:=nos) hk Tryz.func113 (by kernel_rfl) (by kernel_rfl) rfl ?_
  repeat'(first|refine wk1 ?_|(refine wk2 ?_ ?_<;>intro _)|refine wk4 ?_|fail);all_goals(conv=>whnf)
  exact Za rfl
 ·obtain ⟨g1,g2⟩:=Yeg hp (by omega)
  have hd:=hp.d
  unfold i64 at hd
  have hw:Qa Qb ((g4 p:Nat):Int)=(g4 p:Nat):=W_eq (by omega) (by omega)
  rw [hw] at hk
  by_cases h2:g4 p=1
  ·rw [h2] at hk
   by_cases h3:100000<p.d
   ·have e:Xc p=2:=by unfold Xc; rw [if_neg (by omega),if_pos h3]
    rw [e]
    refine bs.pv (sx:=nos) hk Tryz.func113 (by kernel_rfl) (by kernel_rfl) rfl ?_
    repeat'(first|refine wk1 ?_|(refine wk2 ?_ ?_<;>intro _)|refine wk4 ?_|fail);all_goals(conv=>whnf)
    exact Za rfl
   ·obtain ⟨m1,m2⟩:=Ybq (d:=p.d) (by omega) (by omega)
    have e:Xc p=if ptIn p then 0 else 2:=by unfold Xc; rw [if_neg (by omega),if_neg h3]
    have e2:∀ x,small x (Qa Qb (5000*p.d))=within x (-(5000*p.d)) (5000*p.d):=fun x=>by unfold small; rw [m2,m1]
    rw [e]
    unfold ptIn
    rw [<-e2,<-e2,<-e2]
    refine bs.pv (sx:=nos) hk Tryz.func113 (by kernel_rfl) (by kernel_rfl) rfl ?_
    repeat'(first|refine wk1 ?_|(refine wk2 ?_ ?_<;>intro _)|refine wk4 ?_|fail);all_goals(conv=>whnf)
    all_goals (clear hk hc m1 m2 e2)
    all_goals exact Za (by simp_all [unl])
  ·have e:Xc p=3:=by unfold Xc; rw [if_pos (.inr h2)]
   rw [e]
   have h4:(1:Int)<(g4 p:Nat):=by omega
   refine bs.pv (sx:=nos) hk Tryz.func113 (by kernel_rfl) (by kernel_rfl) rfl ?_
   repeat'(first|refine wk1 ?_|(refine wk2 ?_ ?_<;>intro _)|refine wk4 ?_|fail);all_goals(conv=>whnf)
   all_goals clear hk hc
   all_goals first
    | exact Za rfl
    | (exfalso; simp_all; done)
    | (exfalso; simp_all; omega)
noncomputable abbrev gcds:List AV->Option PRes:=famA (fun p:Int × Int=>i64 p.1/\i64 p.2) (fun p=>[I p.1,I p.2]) (fun p=>⟨I (Qa Qb ((Ta p.1.natAbs p.2.natAbs:Nat):Int)),[]⟩)
theorem Zlv {a b:Int} (ha:i64 a) (hb:i64 b):gcds [I a,I b]=some ⟨I (Qa Qb ((Ta a.natAbs b.natAbs:Nat):Int)),[]⟩ :=
 Yb (p:=fun p:Int × Int=>i64 p.1/\i64 p.2) (g:=fun p=>[I p.1,I p.2]) (r:=fun p=>⟨I (Qa Qb ((Ta p.1.natAbs p.2.natAbs:Nat):Int)),[]⟩) (k:=(a,b)) (fun j hj=>by
  simp only [Rb,Wh,true_and,and_true] at hj
  obtain ⟨h1,h2⟩:=hj
  dsimp only
  rw [h1,h2]) ⟨ha,hb⟩
def insE (h:Hal) (p:Pt):Int:=if h.err=0 then Xc p else h.err
theorem Ybh {p:Pt} (h:Xc p=0):PtOk p.x p.y p.d:=by
 obtain ⟨h1,h2,_,h4⟩:=Zgo h
 unfold ptIn at h4
 simp only [Qc,within_iff] at h4
 exact ⟨h1,by omega,by omega,by omega⟩
theorem c50 {h:Hal} (hk:h.ok) {p:Pt} (hp:p.wf):PCall Tryz.prog 104 [h.av,p.av] ⟨.tup [Bo (decide (insE h p=0)&&Ub h p),I (insE h p)],[]⟩:=by
 have hk0:=Ze (c76 hk) (Ze (c99 hp) Zd)
 by_cases he:h.err=0
 ·have hi:insE h p=Xc p:=by unfold insE; rw [if_pos he]
  rw [hi]
  by_cases hq:Xc p=0
  ·have hf:=Zgz hk he
   have e:Ub h p=Znl h p.x p.y p.z p.d:=by
    unfold Ub Znl
    rw [Vq hf.st p.z (Ybh hq)]
   have hk1:=Ze (c124 hk.f p.x p.y p.z p.d) hk0
   rw [hq,he] at hk1
   rw [hq,e]
   refine bs.pv (sx:=nos) hk1 Tryz.func104 (by kernel_rfl) (by kernel_rfl) rfl ?_
   repeat'(first|refine wk1 ?_|(refine wk2 ?_ ?_<;>intro _)|refine wk4 ?_|fail);all_goals(conv=>whnf)
   exact Zf (by simp) rfl
  ·rw [he] at hk0
   rw [decide_eq_false hq]
   refine bs.pv (sx:=nos) hk0 Tryz.func104 (by kernel_rfl) (by kernel_rfl) rfl ?_
   repeat'(first|refine wk1 ?_|(refine wk2 ?_ ?_<;>intro _)|refine wk4 ?_|fail);all_goals(conv=>whnf)
   exact Zf rfl rfl
 ·have hi:insE h p=h.err:=by unfold insE; rw [if_neg he]
  rw [hi,decide_eq_false he]
  refine bs.pv (sx:=nos) hk0 Tryz.func104 (by kernel_rfl) (by kernel_rfl) rfl ?_
  repeat'(first|refine wk1 ?_|(refine wk2 ?_ ?_<;>intro _)|refine wk4 ?_|fail);all_goals(conv=>whnf)
  exact Zf rfl rfl
theorem c113 (k:Int) (p:Pt):PCall Tryz.prog 115 [I k,p.av] ⟨I (offN k p.x p.y p.z),[]⟩:=by
 refine bs.pv (sx:=nos) Zd Tryz.func115 (by kernel_rfl) (by kernel_rfl) rfl ?_
 repeat'(first|refine wk0 ?_|(refine wk2 ?_ ?_<;>intro _)|refine wk4 ?_|fail);all_goals(conv=>whnf)
 all_goals exact Za (by simp_all [offN])
def Zl8 (h:Hal) (w:Wl) (p:Pt):Bool:=!(decide (p.z<=0)||decide (Qa Qb (h.ht*p.d)<=p.z))&&(if w.fx=w.tx then decide (Qa Qb (imin w.fy w.ty*p.d)<p.y)&&decide (p.y<Qa Qb (imax w.fy w.ty*p.d)) else decide (Qa Qb (imin w.fx w.tx*p.d)<p.x)&&decide (p.x<Qa Qb (imax w.fx w.tx*p.d)))
def Za1 (h:Hal) (i:Int) (p:Pt):Bool:=if i<h.ws.length then Zl8 h (wlOf h.cs i.toNat) p else if i<(h.ws.length:Int)+2 then Ya h p.x p.y p.d else (kat h i).rc.holds p.x p.y p.d
theorem Zge {h:Hal} {k:Nat} {p:Pt} (hk:k<h.ws.length):Za1 h k p=Zl8 h (wlOf h.cs k) p:=by unfold Za1; rw [if_pos (by omega)]; rfl
theorem Zeu {h:Hal} {p:Pt}:Za1 h h.ws.length p=Ya h p.x p.y p.d:=by unfold Za1; rw [if_neg (by omega),if_pos (by omega)]
theorem Zgf {h:Hal} {p:Pt}:Za1 h ((h.ws.length:Int)+1) p=Ya h p.x p.y p.d:=by unfold Za1; rw [if_neg (by omega),if_pos (by omega)]
theorem Zh6 {h:Hal} {j:Nat} {p:Pt} (hj:j<h.ks.length):Za1 h ((h.ws.length:Int)+2+j) p=h.ks[j].rc.holds p.x p.y p.d:=by unfold Za1; rw [if_neg (by omega),if_neg (by omega),Zqy hj]
theorem c118 {h:Hal} {s:Stg} (g:Sit h s) {i:Int} (hi:SK h i) (p:Pt):PCall Tryz.prog 119 [.agg (stgL h s),I i,p.av] ⟨Bo (Za1 h i p),[]⟩:=by
 have f3:=g.ok.f.2.2.1
 have f4:=g.ok.f.2.2.2.1
 have hk0:=Ze (c87 g.ok.f s hi) (Ze (c183 g.ok.f p.x p.y p.d) (Yd3 g))
 cases hi with
 | wall k hk =>
  have hk2:k<h.cs.length:=by have:=g.fine.le; omega
  rw [Zge hk]
  obtain ⟨v1,v2⟩:=Zl1 (h:=h) (i:=k) (by omega)
  rw [v1,v2] at hk0
  have hk1:=Ze (Ycs g.ok.f hk2) hk0
  generalize wlOf h.cs k=w at *
  refine bs.pv (sx:=nos) hk1 Tryz.func119 (by kernel_rfl) (by kernel_rfl) rfl ?_
  repeat'(first|refine wk0 ?_|(refine wk2 ?_ ?_<;>intro _)|refine wk4 ?_|fail);all_goals(conv=>whnf)
  all_goals clear hk0 hk1
  all_goals first
   | (exfalso; rename_i hx; have hx:=of_decide_eq_true (show decide ((k:Int)=(h.ws.length:Int)+1)=true from hx); omega)
   | (exfalso; rename_i hx; have hx:=of_decide_eq_true (show decide ((k:Int)=(h.ws.length:Int))=true from hx); omega)
   | (refine Zc ?_; simp_all [Zl8]; done)
   | (refine Zc ?_; simp_all [Zl8]; intro _; omega)
   | (exfalso; simp_all; omega)
 | floor =>
  rw [Zeu]
  obtain ⟨v1,v2⟩:=Zl1 (h:=h) (i:=h.ws.length) (by omega)
  rw [v1,v2] at hk0
  refine bs.pv (sx:=nos) hk0 Tryz.func119 (by kernel_rfl) (by kernel_rfl) rfl ?_
  repeat'(first|refine wk1 ?_|(refine wk2 ?_ ?_<;>intro _)|refine wk4 ?_|fail);all_goals(conv=>whnf)
  exact Zc rfl
 | ceil =>
  rw [Zgf]
  obtain ⟨v1,v2⟩:=Zl1 (h:=h) (i:=(h.ws.length:Int)+1) (by omega)
  rw [v1,v2] at hk0
  refine bs.pv (sx:=nos) hk0 Tryz.func119 (by kernel_rfl) (by kernel_rfl) rfl ?_
  repeat'(first|refine wk1 ?_|(refine wk2 ?_ ?_<;>intro _)|refine wk4 ?_|fail);all_goals(conv=>whnf)
  ·exact Zc rfl
  all_goals (exfalso; simp_all; done)
 | can j hj =>
  rw [Zh6 hj]
  obtain ⟨v1,v2⟩:=Zy3 hj
  rw [v1,v2] at hk0
  generalize h.ks[j]=c at *
  have hk1:=Ze (c193 c.rc p.x p.y p.d) hk0
  refine bs.pv (sx:=nos) hk1 Tryz.func119 (by kernel_rfl) (by kernel_rfl) rfl ?_
  repeat'(first|refine wk1 ?_|(refine wk2 ?_ ?_<;>intro _)|refine wk4 ?_|fail);all_goals(conv=>whnf)
  exact Zc rfl
def Yaz (c:Can) (p:Pt):Bool:=Zfu c p && !decide (p.x=Qa Qb (c.fx*p.d)) && !decide (p.x=Qa Qb (c.tx*p.d)) && !decide (p.y=Qa Qb (c.fy*p.d)) && !decide (p.y=Qa Qb (c.ty*p.d))
def Zw6 (h:Hal) (l:Ln) (p:Pt):Bool:=within (l.along p) 1 (Qa Qb (Qa Qb (l.full*p.d)-1))&&within p.z 1 (Qa Qb (Qa Qb (h.ht*p.d)-1))
def Zho (h:Hal) (i:Int) (p:Pt):Bool:=if i<h.ws.length then Zw6 h (lnOf h.cs i.toNat) p else if i<(h.ws.length:Int)+2 then Zv h p else Yaz (kat h i) p
theorem Zro {h:Hal} {k:Nat} {p:Pt} (hk:k<h.ws.length):Zho h k p=Zw6 h (lnOf h.cs k) p:=by unfold Zho; rw [if_pos (by omega)]; rfl
theorem Zov {h:Hal} {p:Pt}:Zho h h.ws.length p=Zv h p:=by unfold Zho; rw [if_neg (by omega),if_pos (by omega)]
theorem Zrp {h:Hal} {p:Pt}:Zho h ((h.ws.length:Int)+1) p=Zv h p:=by unfold Zho; rw [if_neg (by omega),if_pos (by omega)]
theorem Zs3 {h:Hal} {j:Nat} {p:Pt} (hj:j<h.ks.length):Zho h ((h.ws.length:Int)+2+j) p=Yaz h.ks[j] p:=by unfold Zho; rw [if_neg (by omega),if_neg (by omega),Zqy hj]
def valN (k x y z:Int):Int:=if k=0 then x else if k=1 then y else if k=2 then z else if k=3 then x+y else x-y
theorem Zlj {w:Wl} {n sx sy:Int} (h:Str w n sx sy):plW w=if sx=0 then (0,w.fx) else if sy=0 then (1,w.fy) else if sx=sy then (4,w.fx-w.fy) else (3,w.fx+w.fy):=by
 have hn:=h.hn
 have b1:=h.b1
 have b2:=h.b2
 have hxy:=h.hxy
 have w4:Qa Qb (w.fx-w.fy)=w.fx-w.fy:=W_eq (by omega) (by omega)
 have w3:Qa Qb (w.fx+w.fy)=w.fx+w.fy:=W_eq (by omega) (by omega)
 unfold plW
 rw [h.dx,h.dy,w3,w4]
 rcases h.hx with rfl|rfl|rfl<;>rcases h.hy with rfl|rfl|rfl<;>(try (exact absurd ⟨rfl,rfl⟩ hxy))<;>simp only [Int.mul_zero,Sb,Te]<;>(repeat' split)<;>first|rfl|(exfalso; omega)
theorem Zs8 {h:Hal} {w:Wl} {n sx sy:Int} (hs:Str w n sx sy) {p:Pt} (hp:PtOk p.x p.y p.d) (ht:2<=h.ht/\h.ht<=5000) (hpl:valN (plW w).1 p.x p.y p.z=(plW w).2*p.d):Zl8 h w p=Zw6 h w.ln p:=by
 obtain ⟨x,y,z,d⟩:=p
 dsimp only at hp hpl
 have hd:=hp.hd
 have hD:=hp.hD
 have nd:=Ybp hs.hn hs.nle hd
 have a1:=Zk hs.b1 hd
 have a2:=Zk hs.b2 hd
 have a3:=Zk hs.b3 hd
 have a4:=Zk hs.b4 hd
 have hz:Qa Qb (h.ht*d)=h.ht*d/\Qa Qb (h.ht*d-1)=h.ht*d-1/\0<h.ht*d:=by
  have:=Zk (f:=h.ht) (d:=d) (by omega) hd
  have:=Pc (a:=h.ht) (b:=d) (by omega) hd
  exact ⟨W_eq (by omega) (by omega),W_eq (by omega) (by omega),this⟩
 unfold Zl8 Zw6
 rw [Zrl hs hp,Zvd hs]
 rw [Zlj hs] at hpl
 unfold valN at hpl
 rw [Zgv,Zgv,Zgw,Zgw]
 dsimp only
 rw [hz.1,hz.2.1]
 rw [Zde hd,Zde hd,Zdf hd,Zdf hd]
 rw [W_eq (n:=min (w.fx*d) (w.tx*d)) (by omega) (by omega),W_eq (n:=max (w.fx*d) (w.tx*d)) (by omega) (by omega),W_eq (n:=min (w.fy*d) (w.ty*d)) (by omega) (by omega),W_eq (n:=max (w.fy*d) (w.ty*d)) (by omega) (by omega)]
 have etx:=hs.tx
 have ety:=hs.ty
 have b1:=hs.b1
 have b2:=hs.b2
 have hn:=hs.hn
 have cnd:(w.fx=w.tx)↔sx=0:=by
  rw [etx]
  constructor
  ·intro e
   have:n*sx=0:=by omega
   rcases Jx.1 this with h|h
   ·omega
   ·exact h
  ·intro e; rw [e]; omega
 have ex:w.tx*d=w.fx*d+sx*(n*d):=by rw [etx]; grind
 have ey:w.ty*d=w.fy*d+sy*(n*d):=by rw [ety]; grind
 have full:n*(sx*sx+sy*sy)*d=(sx*sx+sy*sy)*(n*d):=by grind
 have d3:(w.fx+w.fy)*d=w.fx*d+w.fy*d:=by grind
 have d4:(w.fx-w.fy)*d=w.fx*d-w.fy*d:=by grind
 rw [full,ex,ey]
 unfold alo
 simp only [cnd]
 have hx:=hs.hx
 have hy:=hs.hy
 have hxy:=hs.hxy
 clear full etx ety cnd hs hp hz
 generalize w.fx*d=A at *
 generalize w.fy*d=C at *
 generalize n*d=N at *
 generalize h.ht*d=H at *
 rcases hx with rfl|rfl|rfl<;>rcases hy with rfl|rfl|rfl<;>(try (exact absurd ⟨rfl,rfl⟩ hxy))<;>simp [Sy] at hpl ⊢ <;> rw [Rz]<;>simp [within_iff]
 all_goals omega
structure Crs where
 su:Int
 fx:Int
 fy:Int
 fz:Int
 to:Pt
abbrev Crs.av (c:Crs):AV:=.agg [I c.su,I c.fx,I c.fy,I c.fz,I c.to.x,I c.to.y,I c.to.z,I c.to.d]
def crF (pl:Int × Int) (c:Crs):Int:=valN pl.1 c.fx c.fy c.fz-pl.2
def crG (pl:Int × Int) (c:Crs):Int:=valN pl.1 c.to.x c.to.y c.to.z-pl.2*c.to.d
def crPt (c:Crs) (u v:Int):Pt:=⟨c.fx*u+c.to.x*v,c.fy*u+c.to.y*v,c.fz*u+c.to.z*v,u+c.to.d*v⟩
def redP (p:Pt):Pt:=⟨p.x / (g4 p:Int),p.y / (g4 p:Int),p.z / (g4 p:Int),p.d / (g4 p:Int)⟩
def iabs (n:Int):Int:=if n<0 then -n else n
def Vj (pl:Int × Int) (c:Crs):Pt:=redP (crPt c (iabs (crG pl c)) (iabs (crF pl c)))
def ptZ:Pt:=⟨0,0,0,0⟩
def Zaz (well:Pt->Bool) (pl:Int × Int) (c:Crs):Pt × Int :=
 if 0<=sgn (crF pl c)*sgn (crG pl c) then (ptZ,12)
 else if well (Vj pl c) then (if 100000<(Vj pl c).d then (ptZ,8) else (Vj pl c,0))
 else (ptZ,12)
structure CrOk (pl:Int × Int) (c:Crs):Prop where
 k0:0<=pl.1
 k4:pl.1<=4
 at' : -10000<=pl.2/\pl.2<=10000
 fx : -45000<=c.fx/\c.fx<=45000
 fy : -45000<=c.fy/\c.fy<=45000
 fz : -45000<=c.fz/\c.fz<=45000
 d0:0<c.to.d
 d1:c.to.d<=100000
 x : -(5000*c.to.d)<=c.to.x/\c.to.x<=5000*c.to.d
 y : -(5000*c.to.d)<=c.to.y/\c.to.y<=5000*c.to.d
 z : -(5000*c.to.d)<=c.to.z/\c.to.z<=5000*c.to.d
theorem Yao {pl:Int × Int} {c:Crs} (h:CrOk pl c):Qa Qb (offN pl.1 c.fx c.fy c.fz-pl.2)=crF pl c/\Qa Qb (offN pl.1 c.fx c.fy c.fz-Qa Qb (pl.2*1))=crF pl c /\ -100000<=crF pl c/\crF pl c<=100000:=by
 obtain ⟨h1,h2,h3,h4,h5,h6,_⟩:=h
 unfold crF valN offN
 rw [Sb,W_eq (n:=pl.2) (by omega) (by omega)]
 repeat' split
 all_goals (try rw [W_eq (n:=c.fx+c.fy) (by omega) (by omega)])
 all_goals (try rw [W_eq (n:=c.fx-c.fy) (by omega) (by omega)])
 all_goals (refine ⟨W_eq (by omega) (by omega),W_eq (by omega) (by omega),by omega,by omega⟩)
theorem Yan {pl:Int × Int} {c:Crs} (h:CrOk pl c):Qa Qb (offN pl.1 c.to.x c.to.y c.to.z-Qa Qb (pl.2*c.to.d))=crG pl c /\ -2000000000<=crG pl c/\crG pl c<=2000000000:=by
 obtain ⟨h1,h2,h3,h4,h5,h6,h7,h8,h9,h10,h11⟩:=h
 have m:=Up (a:=pl.2) (b:=c.to.d) (A:=10000) (B:=100000) (by omega) (by omega)
 unfold crG valN offN
 rw [W_eq (n:=pl.2*c.to.d) (by omega) (by omega)]
 generalize pl.2*c.to.d=m at *
 repeat' split
 all_goals (try rw [W_eq (n:=c.to.x+c.to.y) (by omega) (by omega)])
 all_goals (try rw [W_eq (n:=c.to.x-c.to.y) (by omega) (by omega)])
 all_goals (refine ⟨W_eq (by omega) (by omega),by omega,by omega⟩)
theorem Zwa {pl:Int × Int} {c:Crs} (h:CrOk pl c) {u v:Int} (hu:0<=u/\u<=2000000000) (hv:0<=v/\v<=100000) :
  (-90000000000000<=c.fx*u/\c.fx*u<=90000000000000)/\(-90000000000000<=c.fy*u/\c.fy*u<=90000000000000)/\(-90000000000000<=c.fz*u/\c.fz*u<=90000000000000) /\
  (-50000000000000<=c.to.x*v/\c.to.x*v<=50000000000000)/\(-50000000000000<=c.to.y*v/\c.to.y*v<=50000000000000)/\(-50000000000000<=c.to.z*v/\c.to.z*v<=50000000000000)/\(0<=c.to.d*v/\c.to.d*v<=10000000000):=by
 obtain ⟨h1,h2,h3,h4,h5,h6,h7,h8,h9,h10,h11⟩:=h
 have m1:=Up (a:=c.fx) (b:=u) (A:=45000) (B:=2000000000) (by omega) (by omega)
 have m2:=Up (a:=c.fy) (b:=u) (A:=45000) (B:=2000000000) (by omega) (by omega)
 have m3:=Up (a:=c.fz) (b:=u) (A:=45000) (B:=2000000000) (by omega) (by omega)
 have m4:=Up (a:=c.to.x) (b:=v) (A:=500000000) (B:=100000) (by omega) (by omega)
 have m5:=Up (a:=c.to.y) (b:=v) (A:=500000000) (B:=100000) (by omega) (by omega)
 have m6:=Up (a:=c.to.z) (b:=v) (A:=500000000) (B:=100000) (by omega) (by omega)
 have m7:=Up (a:=c.to.d) (b:=v) (A:=100000) (B:=100000) (by omega) (by omega)
 have m8:=Tk (Rk h7) hv.1
 refine ⟨by omega,by omega,by omega,by omega,by omega,by omega,by omega,by omega⟩
structure Big (p:Pt):Prop where
 x : -140000000000000<=p.x/\p.x<=140000000000000
 y : -140000000000000<=p.y/\p.y<=140000000000000
 z : -140000000000000<=p.z/\p.z<=140000000000000
 d:0<p.d/\p.d<=12000000000
theorem Big.wf {p:Pt} (h:Big p):p.wf:=by
 obtain ⟨h1,h2,h3,h4⟩:=h
 exact ⟨⟨by omega,by omega⟩,⟨by omega,by omega⟩,⟨by omega,by omega⟩,⟨by omega,by omega⟩⟩
theorem Zyw {pl:Int × Int} {c:Crs} (h:CrOk pl c) {u v:Int} (hu:0<u/\u<=2000000000) (hv:0<v/\v<=100000):Big (crPt c u v):=by
 have hb:=Zwa h (u:=u) (v:=v) (by omega) (by omega)
 unfold crPt
 refine ⟨?_,?_,?_,?_⟩<;>dsimp only<;>omega
theorem Yeh (p:Pt):((g4 p:Int) ∣ p.x/\(g4 p:Int) ∣ p.y)/\((g4 p:Int) ∣ p.z/\(g4 p:Int) ∣ p.d):=by
 unfold g4
 have a:=Jg (Ta p.x.natAbs p.y.natAbs) (Ta p.z.natAbs p.d.natAbs)
 have b:=Om (Ta p.x.natAbs p.y.natAbs) (Ta p.z.natAbs p.d.natAbs)
 exact ⟨⟨Nv.2 (Lb a (Jg _ _)),Nv.2 (Lb a (Om _ _))⟩,⟨Nv.2 (Lb b (Jg _ _)),Nv.2 (Lb b (Om _ _))⟩⟩
theorem Zb0 {a g:Int} (hg:0<g) (h:g ∣ a):a.tdiv g=a / g/\a / g*g=a/\(∀ B,-B<=a/\a<=B -> -B<=a / g/\a / g<=B):=by
 obtain ⟨k,rfl⟩:=h
 rw [Int.mul_tdiv_cancel_left _ (by omega),Int.mul_ediv_cancel_left _ (by omega)]
 refine ⟨rfl,Jq _ _,fun B hB=>?_⟩
 rcases Int.lt_or_le k 0 with hk|hk
 ·have:=Qn (show 1<=g by omega) (show 0 <= -k by omega)
  have e:g * -k = -(g*k):=Te _ _
  omega
 ·have:=Qn (show 1<=g by omega) hk
  omega
theorem Zb7 {p:Pt} (h:Big p):(0<(g4 p:Int)/\(g4 p:Int)<=12000000000)/\(Qa Qb (p.x.tdiv (g4 p))=(redP p).x/\Qa Qb (p.y.tdiv (g4 p))=(redP p).y/\Qa Qb (p.z.tdiv (g4 p))=(redP p).z/\Qa Qb (p.d.tdiv (g4 p))=(redP p).d)/\Big (redP p)/\((redP p).x*g4 p=p.x/\(redP p).y*g4 p=p.y/\(redP p).z*g4 p=p.z/\(redP p).d*g4 p=p.d):=by
 obtain ⟨g1,g2⟩:=Yeg h.wf h.d.1
 obtain ⟨⟨d1,d2⟩,d3,d4⟩:=Yeh p
 have hg:(0:Int)<g4 p:=by omega
 obtain ⟨x1,x2,x3⟩:=Zb0 hg d1
 obtain ⟨y1,y2,y3⟩:=Zb0 hg d2
 obtain ⟨z1,z2,z3⟩:=Zb0 hg d3
 obtain ⟨e1,e2,e3⟩:=Zb0 hg d4
 obtain ⟨h1,h2,h3,h4⟩:=h
 have x3:=x3 140000000000000 h1
 have y3:=y3 140000000000000 h2
 have z3:=z3 140000000000000 h3
 have e3:=e3 12000000000 (by omega)
 have hd:0<p.d / (g4 p:Int):=by
  rcases Int.lt_or_le 0 (p.d / (g4 p:Int)) with k|k
  ·exact k
  ·have:=Tk (show 0 <= -(p.d / (g4 p:Int)) by omega) (Rk hg)
   rw [Int.neg_mul] at this
   omega
 refine ⟨by omega,⟨?_,?_,?_,?_⟩,⟨x3,y3,z3,hd,e3.2⟩,x2,y2,z2,e2⟩
 ·rw [x1]; exact W_eq (by omega) (by omega)
 ·rw [y1]; exact W_eq (by omega) (by omega)
 ·rw [z1]; exact W_eq (by omega) (by omega)
 ·rw [e1]; exact W_eq (by omega) (by omega)
theorem Big.ok {p:Pt} (h:Big p):PtOk p.x p.y p.d:=by
 obtain ⟨h1,h2,h3,h4⟩:=h
 exact ⟨h4.1,by omega,by omega,by omega⟩
theorem Zp7 {pl:Int × Int} {c:Crs} (h:CrOk pl c) (hs:¬ 0<=sgn (crF pl c)*sgn (crG pl c)):(0<iabs (crG pl c)/\iabs (crG pl c)<=2000000000)/\(0<iabs (crF pl c)/\iabs (crF pl c)<=100000):=by
 have h1:=(Yao h).2.2
 have h2:=(Yan h).2
 have h3:=sgn_mul_neg.1 (show sgn (crF pl c)*sgn (crG pl c)<0 by omega)
 unfold iabs
 refine ⟨?_,?_⟩<;>split<;>omega
theorem Zbs {pl:Int × Int} {c:Crs} (h:CrOk pl c) (hs:¬ 0<=sgn (crF pl c)*sgn (crG pl c)):Big (crPt c (iabs (crG pl c)) (iabs (crF pl c))):=by
 obtain ⟨a,b⟩:=Zp7 h hs
 exact Zyw h a b
theorem Zqf (k a b c a' b' c' u v:Int):valN k (a*u+a'*v) (b*u+b'*v) (c*u+c'*v)=valN k a b c*u+valN k a' b' c'*v:=by
 unfold valN
 repeat' split
 all_goals grind
theorem Zqe (k a b c g:Int):valN k (a*g) (b*g) (c*g)=valN k a b c*g:=by
 unfold valN
 repeat' split
 all_goals grind
theorem Zfb {pl:Int × Int} {c:Crs} (h:CrOk pl c) (hs:¬ 0<=sgn (crF pl c)*sgn (crG pl c)):valN pl.1 (Vj pl c).x (Vj pl c).y (Vj pl c).z=pl.2*(Vj pl c).d:=by
 obtain ⟨⟨g1,_⟩,_,_,e1,e2,e3,e4⟩:=Zb7 (Zbs h hs)
 have h3:=sgn_mul_neg.1 (show sgn (crF pl c)*sgn (crG pl c)<0 by omega)
 have k:valN pl.1 (crPt c (iabs (crG pl c)) (iabs (crF pl c))).x (crPt c (iabs (crG pl c)) (iabs (crF pl c))).y (crPt c (iabs (crG pl c)) (iabs (crF pl c))).z=pl.2*(crPt c (iabs (crG pl c)) (iabs (crF pl c))).d:=by
  unfold crPt
  dsimp only
  rw [Zqf]
  have hF:valN pl.1 c.fx c.fy c.fz=crF pl c+pl.2:=by unfold crF; omega
  have hG:valN pl.1 c.to.x c.to.y c.to.z=crG pl c+pl.2*c.to.d:=by unfold crG; omega
  rw [hF,hG]
  have:crF pl c*iabs (crG pl c)+crG pl c*iabs (crF pl c)=0:=by
   unfold iabs
   rcases h3 with ⟨p1,p2⟩|⟨p1,p2⟩
   ·rw [if_neg (by omega),if_pos p1]; grind
   ·rw [if_pos p2,if_neg (by omega)]; grind
  grind
 unfold Vj
 rw [<-e1,<-e2,<-e3,<-e4,Zqe] at k
 generalize redP (crPt c (iabs (crG pl c)) (iabs (crF pl c)))=q at *
 have k2:(valN pl.1 q.x q.y q.z-pl.2*q.d)*(g4 (crPt c (iabs (crG pl c)) (iabs (crF pl c))):Int)=0:=by
  rw [Ma,k]; grind
 rcases Jx.1 k2 with k3|k3<;>omega
theorem Zjl {h:Hal} (g:h.fine) {j:Nat} (hj:j<h.ks.length):CanOk h.ks[j]/\Zcd h.ht none h.ks[j].hs=0:=by
 have:=g.can j hj
 unfold Zg5 at this
 split at this
 ·split at this
  ·cases this
  ·split at this
   ·cases this
   ·split at this
    ·cases this
    ·split at this
     ·cases this
     ·split at this
      ·split at this
       ·rename_i hz
        split at this
        ·rename_i hp
         split at this
         ·cases this
         ·rename_i hd
          simp only [Qc] at hp
          simp only [Qz,decide_eq_true_eq,not_or] at hd
          exact ⟨⟨within_iff.1 hp.1.1.1,within_iff.1 hp.1.1.2,within_iff.1 hp.1.2,within_iff.1 hp.2,hd.1,hd.2⟩,hz⟩
        ·cases this
       ·rename_i hx; exact absurd this hx
      ·cases this
 ·cases this
theorem ite9 {b:Bool} {x:Int} (h:(if b=true then 9 else x)=0):x=0:=by
 cases b
 ·exact h
 ·rw [if_pos rfl] at h; exact absurd h (by decide)
theorem Yec {ht:Int} (h0:2<=ht/\ht<=5000):∀ (l:List Int) (p:Option Int),Zcd ht p l=0->∀ n∈l,1<=n/\n<ht
 | [],_,_,n,hn=>by simp at hn
 | m::l,p,h,n,hn=>by
  rw [Zgx] at h
  split at h
  ·rename_i hw
   rw [W_eq (by omega) (by omega),within_iff] at hw
   have h2:=ite9 h
   rcases Qx.1 hn with rfl|hn
   ·omega
   ·exact Yec h0 l _ h2 n hn
  ·cases h
theorem Zu6 {h:Hal} {s:Stg} (g:Sit h s) {j:Nat} (hj:j<h.ks.length):1<=Zdk h s j/\Zdk h s j<h.ht:=by
 obtain ⟨n,e1,e2,e3,e4⟩:=Znk g.set hj
 have hm:Zdk h s j∈h.ks[j].hs:=by
  have:=List.mem_of_getElem? e4
  simp only [nl,List.mem_map,Rb,Wh,true_and,and_true] at this
  obtain ⟨m,hm,rfl⟩:=this
  exact hm
 exact Yec g.fine.ht _ _ (Zjl g.fine hj).2 _ hm
theorem Ztz {c:Can} (h:CanOk c):RcOk c.rc:=by
 obtain ⟨h1,h2,h3,h4,h5,h6⟩:=h
 obtain ⟨⟨e1,e2⟩,e3,e4⟩:=Zgm c
 refine ⟨?_,?_,?_,?_,?_,?_⟩<;>omega
theorem Zfo {h:Hal} {s:Stg} (g:Sit h s) {i:Int} (hi:SK h i):(0<=(Zh h s i).1/\(Zh h s i).1<=4)/\(-10000<=(Zh h s i).2/\(Zh h s i).2<=10000):=by
 have ht:=g.fine.ht
 cases hi with
 | wall k hk =>
  have hk2:k<h.cs.length:=by have:=g.fine.le; omega
  obtain ⟨n,sx,sy,hs⟩:=g.fine.st k hk2
  rw [Zaq hk,Zlj hs]
  have:=hs.b1
  have:=hs.b2
  repeat' split
  all_goals (dsimp only; omega)
 | floor=>rw [Za9]; dsimp only; omega
 | ceil=>rw [Zb9]; dsimp only; omega
 | can j hj =>
  rw [Zdw]
  have:=Zu6 g hj
  dsimp only; omega
theorem Yay {h:Hal} {s:Stg} (g:Sit h s) {i:Int} (hi:SK h i) {p:Pt} (hp:PtOk p.x p.y p.d) (hpl:valN (Zh h s i).1 p.x p.y p.z=(Zh h s i).2*p.d):Za1 h i p=Zho h i p:=by
 cases hi with
 | wall k hk =>
  have hk2:k<h.cs.length:=by have:=g.fine.le; omega
  obtain ⟨n,sx,sy,hs⟩:=g.fine.st k hk2
  rw [Zaq hk] at hpl
  rw [Zge hk,Zro hk,Ze5]
  exact Zs8 hs hp g.fine.ht hpl
 | floor =>
  rw [Zeu,Zov]
  exact Vq g.fine.st p.z hp
 | ceil =>
  rw [Zgf,Zrp]
  exact Vq g.fine.st p.z hp
 | can j hj =>
  rw [Zh6 hj,Zs3 hj]
  have hr:=Ztz (Zjl g.fine hj).1
  have hd:0<p.d/\p.d<=1000000000000000:=by have:=hp.hd; have:=hp.hD; omega
  have c0:=(Zjl g.fine hj).1
  generalize h.ks[j]=c at *
  obtain ⟨⟨e1,e2⟩,e3,e4⟩:=Zgm c
  have c1:=Zk c0.b1 hd.1
  have c2:=Zk c0.b2 hd.1
  have c3:=Zk c0.b3 hd.1
  have c4:=Zk c0.b4 hd.1
  rw [Rz,Zkh hr hd,e1,e2,e3,e4]
  unfold Yaz Zfu
  rw [Zgv,Zgv,Zgw,Zgw,Zde hd.1,Zdf hd.1,Zde hd.1,Zdf hd.1]
  rw [W_eq (n:=c.fx*p.d) (by omega) (by omega),W_eq (n:=c.tx*p.d) (by omega) (by omega),W_eq (n:=c.fy*p.d) (by omega) (by omega),W_eq (n:=c.ty*p.d) (by omega) (by omega)]
  rw [W_eq (n:=min (c.fx*p.d) (c.tx*p.d)) (by omega) (by omega),W_eq (n:=max (c.fx*p.d) (c.tx*p.d)) (by omega) (by omega),W_eq (n:=min (c.fy*p.d) (c.ty*p.d)) (by omega) (by omega),W_eq (n:=max (c.fy*p.d) (c.ty*p.d)) (by omega) (by omega)]
  simp only [Qc,Sq,decide_eq_false_iff_not,within_iff]
  omega
theorem Yer {p:Pt} (hb:Big p) {X Y Z D:Int} (hX:X=p.x) (hY:Y=p.y) (hZ:Z=p.z) (hD:D=p.d) :
  gcds [I X,I Y]=some ⟨I (Qa Qb ((Ta p.x.natAbs p.y.natAbs:Nat):Int)),[]⟩/\gcds [I Z,I D]=some ⟨I (Qa Qb ((Ta p.z.natAbs p.d.natAbs:Nat):Int)),[]⟩/\gcds [I (Qa Qb ((Ta p.x.natAbs p.y.natAbs:Nat):Int)),I (Qa Qb ((Ta p.z.natAbs p.d.natAbs:Nat):Int))]=some ⟨I (g4 p:Int),[]⟩ /\
  Qa Qb (X.tdiv (g4 p))=(redP p).x/\Qa Qb (Y.tdiv (g4 p))=(redP p).y/\Qa Qb (Z.tdiv (g4 p))=(redP p).z/\Qa Qb (D.tdiv (g4 p))=(redP p).d/\(0<(g4 p:Int)/\(g4 p:Int)<=12000000000):=by
 subst hX hY hZ hD
 have hw:=hb.wf
 have h3':=Zlv (Zsk ((Ta p.x.natAbs p.y.natAbs:Nat):Int)) (Zsk ((Ta p.z.natAbs p.d.natAbs:Nat):Int))
 rw [Zqr (Yae hw.x hw.y),Zqr (Yae hw.z hw.d)] at h3'
 change gcds _=some ⟨I (Qa Qb ((g4 p:Nat):Int)),[]⟩ at h3'
 obtain ⟨g1,⟨r1,r2,r3,r4⟩,_,_⟩:=Zb7 hb
 rw [W_eq (n:=((g4 p:Nat):Int)) (by omega) (by omega)] at h3'
 exact ⟨Zlv hw.x hw.y,Zlv hw.z hw.d,h3',r1,r2,r3,r4,g1⟩
theorem Yef {p:Pt} (h:Big p):g4 (redP p)=1:=by
 obtain ⟨⟨g1,_⟩,_,_,e1,e2,e3,e4⟩:=Zb7 h
 have key:g4 p=g4 (redP p)*g4 p:=by
  have hx:p.x.natAbs=(redP p).x.natAbs*g4 p:=by rw [<-e1,Oe,Nw]
  have hy:p.y.natAbs=(redP p).y.natAbs*g4 p:=by rw [<-e2,Oe,Nw]
  have hz:p.z.natAbs=(redP p).z.natAbs*g4 p:=by rw [<-e3,Oe,Nw]
  have hd:p.d.natAbs=(redP p).d.natAbs*g4 p:=by rw [<-e4,Oe,Nw]
  have:g4 p=Ta (Ta ((redP p).x.natAbs*g4 p) ((redP p).y.natAbs*g4 p)) (Ta ((redP p).z.natAbs*g4 p) ((redP p).d.natAbs*g4 p)):=by rw [<-hx,<-hy,<-hz,<-hd]; rfl
  rw [Kq,Kq,Kq] at this
  exact this
 have h0:0<g4 p:=by omega
 have:g4 (redP p)*g4 p=1*g4 p:=by omega
 exact Nat.eq_of_mul_eq_mul_right h0 this
def crsE (h:Hal) (s:Stg) (c:Crs):Int:=if surE h s c.su=0 then (if Vo c.fx c.fy c.fz=0 then Xc c.to else Vo c.fx c.fy c.fz) else surE h s c.su
theorem Zwb {h:Hal} {s:Stg} {c:Crs} (hk:h.ok) (hs:s.few) (h0:crsE h s c=0):Sit h s/\SK h c.su/\CrOk (Zh h s c.su) c/\surE h s c.su=0/\Vo c.fx c.fy c.fz=0/\Xc c.to=0:=by
 unfold crsE at h0
 split at h0
 ·rename_i h1
  split at h0
  ·rename_i h2
   have e:=Zme h1
   have g:=Zih hk hs e.1
   have hi:=Zo3 e.2.1 e.2.2
   obtain ⟨⟨b1,b2⟩,b3⟩:=Zfo g hi
   obtain ⟨p1,p2,_,p4⟩:=Zgo h0
   unfold ptIn at p4
   simp only [Qc,within_iff] at p4
   have h3:=h2
   unfold Vo img at h3
   split at h3
   ·rename_i h4
    simp only [Qc,within_iff] at h4
    exact ⟨g,hi,⟨b1,b2,b3,by omega,by omega,by omega,p1,p2,p4.1.1,p4.1.2,p4.2⟩,h1,h2,h0⟩
   ·cases h3
  ·rename_i h2; exact absurd h0 h2
 ·rename_i h1; exact absurd h0 h1
abbrev crAV (r:Pt × Int):AV:=.tup [r.1.av,I r.2]
theorem Zg1 {well:Pt->Bool} {pl:Int × Int} {c:Crs} (hs:0<=sgn (crF pl c)*sgn (crG pl c)):Zaz well pl c=(ptZ,12):=by unfold Zaz; rw [if_pos hs]
theorem Zyy {well:Pt->Bool} {pl:Int × Int} {c:Crs} (hw:well (Vj pl c)=false):Zaz well pl c=(ptZ,12):=by unfold Zaz; rw [hw]; split<;>rfl
theorem Zwc {well:Pt->Bool} {pl:Int × Int} {c:Crs} (hs:¬ 0<=sgn (crF pl c)*sgn (crG pl c)) (hw:well (Vj pl c)=true) (hd:100000<(Vj pl c).d):Zaz well pl c=(ptZ,8):=by unfold Zaz; rw [if_neg hs,hw,if_pos rfl,if_pos hd]
theorem Zyx {well:Pt->Bool} {pl:Int × Int} {c:Crs} (hs:¬ 0<=sgn (crF pl c)*sgn (crG pl c)) (hw:well (Vj pl c)=true) (hd:¬ 100000<(Vj pl c).d):Zaz well pl c=(Vj pl c,0):=by unfold Zaz; rw [if_neg hs,hw,if_pos rfl,if_neg hd]
abbrev sxC:FuncId->Bool:=fun f=>Ql f 108||Ql f 109||Ql f 112
def r113:List AV->Option PRes
 | [.int .i64 k,.agg [.int .i64 x,.int .i64 y,.int .i64 z,.int .i64 d]]=>some ⟨I (offN k x y z),[]⟩
 | _=>none
def crsA (h:Hal) (s:Stg) (c:Crs):Pt × Int:=if crsE h s c=0 then Zaz (Za1 h c.su) (Zh h s c.su) c else (ptZ,crsE h s c)
theorem Yad (x y z:Int):Vo x y z=if Xm x y z then 0 else 2:=by rw [Zgu]; rfl
theorem c40e {h:Hal} (hk:h.ok) {s:Stg} (hs:s.few) {c:Crs} (hw:c.to.wf) (he:crsE h s c≠0):PCall Tryz.prog 62 [h.av,s.av,c.av] ⟨crAV (ptZ,crsE h s c),[]⟩:=by
 have hk0:=Ze (c109 hk hs c.su) (Ze (c99 hw) Ua)
 by_cases h1:surE h s c.su=0
 ·have e1:crsE h s c=if Xm c.fx c.fy c.fz then Xc c.to else 2:=by
   unfold crsE; rw [if_pos h1,Yad]
   split
   ·rw [if_pos rfl]
   ·rw [if_neg (by decide)]
  rw [e1] at he ⊢
  rw [h1] at hk0
  cases h2:Xm c.fx c.fy c.fz with
  | false =>
   have hu:unl (Xm c.fx c.fy c.fz) 2=2:=by rw [h2]; rfl
   rw [if_neg (by decide)]
   refine bs.pv (sx:=sxC) hk0 Tryz.func62 (by kernel_rfl) (by kernel_rfl) rfl ?_
   repeat'(first|refine wk1 ?_|(refine wk2 ?_ ?_<;>intro _)|refine wk4 ?_|fail);all_goals(conv=>whnf)
   refine bs.sv (sx:=sxC) hk0 Tryz.func108 (by kernel_rfl) (by kernel_rfl) ?_
   refine Wp 3 ?_
   refine Rp (bs.av (sx:=sxC) hk0 ?_)
   repeat'(first|refine wk1 ?_|(refine wk2 ?_ ?_<;>intro _)|refine wk4 ?_|fail);all_goals(conv=>whnf)
   refine bs.sv (sx:=sxC) hk0 Tryz.func109 (by kernel_rfl) (by kernel_rfl) ?_
   repeat'(first|refine wk1 ?_|(refine wk2 ?_ ?_<;>intro _)|refine wk4 ?_|fail);all_goals(conv=>whnf)
   exact Zf (by rw [hu]; rfl) rfl
  | true =>
   have hu:unl (Xm c.fx c.fy c.fz) 2=0:=by rw [h2]; rfl
   rw [h2,if_pos rfl] at he
   rw [if_pos rfl]
   generalize Xc c.to=pe at *
   refine bs.pv (sx:=sxC) hk0 Tryz.func62 (by kernel_rfl) (by kernel_rfl) rfl ?_
   repeat'(first|refine wk1 ?_|(refine wk2 ?_ ?_<;>intro _)|refine wk4 ?_|fail);all_goals(conv=>whnf)
   refine bs.sv (sx:=sxC) hk0 Tryz.func108 (by kernel_rfl) (by kernel_rfl) ?_
   refine Wp 3 ?_
   refine Rp (bs.av (sx:=sxC) hk0 ?_)
   repeat'(first|refine wk1 ?_|(refine wk2 ?_ ?_<;>intro _)|refine wk4 ?_|fail);all_goals(conv=>whnf)
   refine bs.sv (sx:=sxC) hk0 Tryz.func109 (by kernel_rfl) (by kernel_rfl) ?_
   repeat'(first|refine wk1 ?_|(refine wk2 ?_ ?_<;>intro _)|refine wk4 ?_|fail);all_goals(conv=>whnf)
   refine Rp (bs.av (sx:=sxC) hk0 ?_)
   repeat'(first|refine wk1 ?_|(refine wk2 ?_ ?_<;>intro _)|refine wk4 ?_|fail);all_goals(conv=>whnf)
   refine bs.sv (sx:=sxC) hk0 Tryz.func112 (by kernel_rfl) (by kernel_rfl) ?_
   repeat'(first|refine wk1 ?_|(refine wk2 ?_ ?_<;>intro _)|refine wk4 ?_|fail);all_goals(conv=>whnf)
   exact Zf rfl rfl
 ·have e1:crsE h s c=surE h s c.su:=by unfold crsE; rw [if_neg h1]
  rw [e1]
  refine bs.pv (sx:=sxC) hk0 Tryz.func62 (by kernel_rfl) (by kernel_rfl) rfl ?_
  repeat'(first|refine wk1 ?_|(refine wk2 ?_ ?_<;>intro _)|refine wk4 ?_|fail);all_goals(conv=>whnf)
  exact Zf rfl rfl
theorem Zqh {n:Int} (h : -9000000000000000000<=n/\n<=9000000000000000000):size n=iabs n:=by rw [Zig h]; rfl
theorem c40o {h:Hal} (hk:h.ok) {s:Stg} (hs:s.few) {c:Crs} (hw:c.to.wf) (he:crsE h s c=0):PCall Tryz.prog 62 [h.av,s.av,c.av] ⟨crAV (Zaz (Za1 h c.su) (Zh h s c.su) c),[]⟩:=by
 obtain ⟨g,hi,ho,h1,h2,h3⟩:=Zwb hk hs he
 have h2' : Xm c.fx c.fy c.fz=true:=by
  rw [Yad] at h2
  cases hx:Xm c.fx c.fy c.fz
  ·rw [hx] at h2; exact absurd h2 (by decide)
  ·rfl
 have hu:unl (Xm c.fx c.fy c.fz) 2=0:=by rw [h2']; rfl
 obtain ⟨f1,f2,f3⟩:=Yao ho
 obtain ⟨g1,g2⟩:=Yan ho
 have hk0:=Ze (c109 hk hs c.su) (Ze (c99 hw) Ua)
 rw [h1,h3] at hk0
 have hk0:=Ze (c112 g hi) (Zj (f0:=115) (r:=r113) (fun a res h=>by unfold r113 at h; split at h<;>cases h; exact c113 _ ⟨_,_,_,_⟩) hk0)
 generalize hpl:Zh h s c.su=pl at *
 by_cases hsg:0<=sgn (crF pl c)*sgn (crG pl c)
 ·rw [Zg1 hsg]
  have hs2:0<=Qa Qb (sgn (Qa Qb (offN pl.1 c.fx c.fy c.fz-pl.2))*sgn (Qa Qb (offN pl.1 c.to.x c.to.y c.to.z-Qa Qb (pl.2*c.to.d)))):=by rw [f1,g1,Zl4]; exact hsg
  refine bs.pv (sx:=sxC) hk0 Tryz.func62 (by kernel_rfl) (by kernel_rfl) rfl ?_
  repeat'(first|refine wk1 ?_|(refine wk2 ?_ ?_<;>intro _)|refine wk4 ?_|fail);all_goals(conv=>whnf)
  refine bs.sv (sx:=sxC) hk0 Tryz.func108 (by kernel_rfl) (by kernel_rfl) ?_
  refine Wp 3 ?_
  refine Rp (bs.av (sx:=sxC) hk0 ?_)
  repeat'(first|refine wk1 ?_|(refine wk2 ?_ ?_<;>intro _)|refine wk4 ?_|fail);all_goals(conv=>whnf)
  refine bs.sv (sx:=sxC) hk0 Tryz.func109 (by kernel_rfl) (by kernel_rfl) ?_
  repeat'(first|refine wk1 ?_|(refine wk2 ?_ ?_<;>intro _)|refine wk4 ?_|fail);all_goals(conv=>whnf)
  refine Rp (bs.av (sx:=sxC) hk0 ?_)
  repeat'(first|refine wk1 ?_|(refine wk2 ?_ ?_<;>intro _)|refine wk4 ?_|fail);all_goals(conv=>whnf)
  refine bs.sv (sx:=sxC) hk0 Tryz.func112 (by kernel_rfl) (by kernel_rfl) ?_
  repeat'(first|refine wk1 ?_|(refine wk2 ?_ ?_<;>intro _)|refine wk4 ?_|fail);all_goals(conv=>whnf)
  refine Rp (bs.av (sx:=sxC) hk0 ?_)
  repeat'(first|refine wk1 ?_|(refine wk2 ?_ ?_<;>intro _)|refine wk4 ?_|fail);all_goals(conv=>whnf)
  exact Zf rfl rfl
 ·have hs2:¬ 0<=Qa Qb (sgn (Qa Qb (offN pl.1 c.fx c.fy c.fz-pl.2))*sgn (Qa Qb (offN pl.1 c.to.x c.to.y c.to.z-Qa Qb (pl.2*c.to.d)))):=by rw [f1,g1,Zl4]; exact hsg
  have hB:=Zbs ho hsg
  have hx:=Zwa ho (u:=iabs (crG pl c)) (v:=iabs (crF pl c)) (by have:=Zp7 ho hsg; omega) (by have:=Zp7 ho hsg; omega)
  have hcr:Vj pl c=redP (crPt c (iabs (crG pl c)) (iabs (crF pl c))):=rfl
  have hwl:=c118 g hi (Vj pl c)
  have A1:=Zyy (well:=Za1 h c.su) (pl:=pl) (c:=c)
  have A2:=Zwc (well:=Za1 h c.su) hsg
  have A3:=Zyx (well:=Za1 h c.su) hsg
  generalize Zaz (Za1 h c.su) pl c=ans at *
  generalize Za1 h c.su (Vj pl c)=wl at *
  generalize Vj pl c=Q at *
  have su:size (Qa Qb (offN pl.1 c.to.x c.to.y c.to.z-Qa Qb (pl.2*c.to.d)))=iabs (crG pl c):=by rw [g1]; exact Zqh (by omega)
  have sv:size (Qa Qb (offN pl.1 c.fx c.fy c.fz-pl.2))=iabs (crF pl c):=by rw [f1]; exact Zqh (by omega)
  generalize hp:crPt c (iabs (crG pl c)) (iabs (crF pl c))=p at *
  generalize iabs (crF pl c)=v at *
  generalize iabs (crG pl c)=u at *
  have px:c.fx*u+c.to.x*v=p.x:=by rw [<-hp]; rfl
  have py:c.fy*u+c.to.y*v=p.y:=by rw [<-hp]; rfl
  have pz:c.fz*u+c.to.z*v=p.z:=by rw [<-hp]; rfl
  have pd:u+c.to.d*v=p.d:=by rw [<-hp]; rfl
  obtain ⟨x1,x2,x3,x4,x5,x6,x7⟩:=hx
  have hDd:=hB.d
  generalize hA:Qa Qb (offN pl.1 c.fx c.fy c.fz-pl.2)=A at *
  generalize hBb:Qa Qb (offN pl.1 c.to.x c.to.y c.to.z-Qa Qb (pl.2*c.to.d))=B at *
  have q:∀ a b:Int,(-90000000000000<=a*u/\a*u<=90000000000000)->(-50000000000000<=b*v/\b*v<=50000000000000)->Qa Qb (Qa Qb (a*size B)+Qa Qb (b*size A))=a*u+b*v:=by
   intro a b k1 k2
   rw [su,sv]
   rw [W_eq (n:=a*u) (by omega) (by omega),W_eq (n:=b*v) (by omega) (by omega),W_eq (by omega) (by omega)]
  have qd:Qa Qb (size B+Qa Qb (c.to.d*size A))=p.d:=by
   rw [su,sv]
   rw [W_eq (n:=c.to.d*v) (by omega) (by omega),W_eq (by omega) (by omega)]; omega
  obtain ⟨k1,k2,k3,k4,k5,k6,k7,k8⟩:=Yer hB (X:=Qa Qb (Qa Qb (c.fx*size B)+Qa Qb (c.to.x*size A))) (Y:=Qa Qb (Qa Qb (c.fy*size B)+Qa Qb (c.to.y*size A))) (Z:=Qa Qb (Qa Qb (c.fz*size B)+Qa Qb (c.to.z*size A))) (D:=Qa Qb (size B+Qa Qb (c.to.d*size A))) (by rw [q _ _ x1 x4,px]) (by rw [q _ _ x2 x5,py]) (by rw [q _ _ x3 x6,pz]) qd
  rw [<-hcr] at k4 k5 k6 k7
  have hdv:PCall Tryz.prog 118 [.isl 1 (nl [Qa Qb (Qa Qb (c.fx*size B)+Qa Qb (c.to.x*size A)),Qa Qb (Qa Qb (c.fy*size B)+Qa Qb (c.to.y*size A)),Qa Qb (Qa Qb (c.fz*size B)+Qa Qb (c.to.z*size A)),Qa Qb (size B+Qa Qb (c.to.d*size A))])] ⟨I (g4 p:Int),[]⟩:=by
   rw [q _ _ x1 x4,q _ _ x2 x5,q _ _ x3 x6,qd,px,py,pz]
   have hwf:=hB.wf
   have hc:=c117 (ns:=[p.x,p.y,p.z,p.d]) (by simp) (by
    intro n hn
    simp only [Qx,Na,or_false] at hn
    rcases hn with rfl|rfl|rfl|rfl
    ·exact hwf.x
    ·exact hwf.y
    ·exact hwf.z
    ·exact hwf.d)
   have hg:gl 0 [p.x,p.y,p.z,p.d]=g4 p:=by
    simp only [gl,Kp]
    exact Zkv _ _ _ _
   rw [hg,W_eq (n:=((g4 p:Nat):Int)) (by omega) (by omega)] at hc
   exact hc
  have hw2:PCall Tryz.prog 119 [.agg (stgL h s),I c.su,P4 (Qa Qb ((Qa Qb (Qa Qb (c.fx*size B)+Qa Qb (c.to.x*size A))).tdiv (g4 p))) (Qa Qb ((Qa Qb (Qa Qb (c.fy*size B)+Qa Qb (c.to.y*size A))).tdiv (g4 p))) (Qa Qb ((Qa Qb (Qa Qb (c.fz*size B)+Qa Qb (c.to.z*size A))).tdiv (g4 p))) (Qa Qb ((Qa Qb (size B+Qa Qb (c.to.d*size A))).tdiv (g4 p)))] ⟨Bo wl,[]⟩:=by
   rw [k4,k5,k6,k7]; exact hwl
  rw [<-hA,<-hBb] at hw2 hdv
  have hk2:=Ze hw2 (Ze hdv hk0)
  clear hw2 hwl hk0 hdv q
  rw [<-hA,<-hBb] at k4 k5 k6 k7 hs2
  clear k1 k2 k3
  refine bs.pv (sx:=sxC) hk2 Tryz.func62 (by kernel_rfl) (by kernel_rfl) rfl ?_
  cases wl with
  | false =>
   rw [A1 rfl]
   repeat'(first|refine wk1 ?_|(refine wk2 ?_ ?_<;>intro _)|refine wk4 ?_|fail);all_goals(conv=>whnf)
   refine bs.sv (sx:=sxC) hk2 Tryz.func108 (by kernel_rfl) (by kernel_rfl) ?_
   refine Wp 3 ?_
   refine Rp (bs.av (sx:=sxC) hk2 ?_)
   repeat'(first|refine wk1 ?_|(refine wk2 ?_ ?_<;>intro _)|refine wk4 ?_|fail);all_goals(conv=>whnf)
   refine bs.sv (sx:=sxC) hk2 Tryz.func109 (by kernel_rfl) (by kernel_rfl) ?_
   repeat'(first|refine wk1 ?_|(refine wk2 ?_ ?_<;>intro _)|refine wk4 ?_|fail);all_goals(conv=>whnf)
   refine Rp (bs.av (sx:=sxC) hk2 ?_)
   repeat'(first|refine wk1 ?_|(refine wk2 ?_ ?_<;>intro _)|refine wk4 ?_|fail);all_goals(conv=>whnf)
   refine bs.sv (sx:=sxC) hk2 Tryz.func112 (by kernel_rfl) (by kernel_rfl) ?_
   repeat'(first|refine wk1 ?_|(refine wk2 ?_ ?_<;>intro _)|refine wk4 ?_|fail);all_goals(conv=>whnf)
   refine Rp (bs.av (sx:=sxC) hk2 ?_)
   repeat'(first|refine wk1 ?_|(refine wk2 ?_ ?_<;>intro _)|refine wk4 ?_|fail);all_goals(conv=>whnf)
   exact Zf rfl rfl
  | true =>
   by_cases hd:100000<Q.d
   ·rw [A2 rfl hd]
    repeat'(first|refine wk1 ?_|(refine wk2 ?_ ?_<;>intro _)|refine wk4 ?_|fail);all_goals(conv=>whnf)
    refine bs.sv (sx:=sxC) hk2 Tryz.func108 (by kernel_rfl) (by kernel_rfl) ?_
    refine Wp 3 ?_
    refine Rp (bs.av (sx:=sxC) hk2 ?_)
    repeat'(first|refine wk1 ?_|(refine wk2 ?_ ?_<;>intro _)|refine wk4 ?_|fail);all_goals(conv=>whnf)
    refine bs.sv (sx:=sxC) hk2 Tryz.func109 (by kernel_rfl) (by kernel_rfl) ?_
    repeat'(first|refine wk1 ?_|(refine wk2 ?_ ?_<;>intro _)|refine wk4 ?_|fail);all_goals(conv=>whnf)
    refine Rp (bs.av (sx:=sxC) hk2 ?_)
    repeat'(first|refine wk1 ?_|(refine wk2 ?_ ?_<;>intro _)|refine wk4 ?_|fail);all_goals(conv=>whnf)
    refine bs.sv (sx:=sxC) hk2 Tryz.func112 (by kernel_rfl) (by kernel_rfl) ?_
    repeat'(first|refine wk1 ?_|(refine wk2 ?_ ?_<;>intro _)|refine wk4 ?_|fail);all_goals(conv=>whnf)
    refine Rp (bs.av (sx:=sxC) hk2 ?_)
    repeat'(first|refine wk1 ?_|(refine wk2 ?_ ?_<;>intro _)|refine wk4 ?_|fail);all_goals(conv=>whnf)
    exact Zf rfl rfl
   ·rw [A3 rfl hd]
    repeat'(first|refine wk1 ?_|(refine wk2 ?_ ?_<;>intro _)|refine wk4 ?_|fail);all_goals(conv=>whnf)
    refine bs.sv (sx:=sxC) hk2 Tryz.func108 (by kernel_rfl) (by kernel_rfl) ?_
    refine Wp 3 ?_
    refine Rp (bs.av (sx:=sxC) hk2 ?_)
    repeat'(first|refine wk1 ?_|(refine wk2 ?_ ?_<;>intro _)|refine wk4 ?_|fail);all_goals(conv=>whnf)
    refine bs.sv (sx:=sxC) hk2 Tryz.func109 (by kernel_rfl) (by kernel_rfl) ?_
    repeat'(first|refine wk1 ?_|(refine wk2 ?_ ?_<;>intro _)|refine wk4 ?_|fail);all_goals(conv=>whnf)
    refine Rp (bs.av (sx:=sxC) hk2 ?_)
    repeat'(first|refine wk1 ?_|(refine wk2 ?_ ?_<;>intro _)|refine wk4 ?_|fail);all_goals(conv=>whnf)
    refine bs.sv (sx:=sxC) hk2 Tryz.func112 (by kernel_rfl) (by kernel_rfl) ?_
    repeat'(first|refine wk1 ?_|(refine wk2 ?_ ?_<;>intro _)|refine wk4 ?_|fail);all_goals(conv=>whnf)
    refine Rp (bs.av (sx:=sxC) hk2 ?_)
    repeat'(first|refine wk1 ?_|(refine wk2 ?_ ?_<;>intro _)|refine wk4 ?_|fail);all_goals(conv=>whnf)
    exact Zf (by rw [k4,k5,k6,k7]) rfl
theorem c40 {h:Hal} (hk:h.ok) {s:Stg} (hs:s.few) {c:Crs} (hw:c.to.wf):PCall Tryz.prog 62 [h.av,s.av,c.av] ⟨crAV (crsA h s c),[]⟩:=by
 unfold crsA
 by_cases he:crsE h s c=0
 ·rw [if_pos he]; exact c40o hk hs hw he
 ·rw [if_neg he]; exact c40e hk hs hw he
theorem Zyz {h:Hal} {s:Stg} {c:Crs} (g:Sit h s) (hi:SK h c.su) (ho:CrOk (Zh h s c.su) c):Zaz (Za1 h c.su) (Zh h s c.su) c=Zaz (Zho h c.su) (Zh h s c.su) c:=by
 by_cases hs:0<=sgn (crF (Zh h s c.su) c)*sgn (crG (Zh h s c.su) c)
 ·rw [Zg1 hs,Zg1 hs]
 ·have hb:=(Zb7 (Zbs ho hs)).2.2.1
  have e:=Yay g hi (p:=Vj (Zh h s c.su) c) hb.ok (Zfb ho hs)
  unfold Zaz
  rw [e]
def Ycw (p:Pt):Prop:=(-(5000*p.d)<=p.x/\p.x<=5000*p.d)/\(-(5000*p.d)<=p.y/\p.y<=5000*p.d)/\(-(5000*p.d)<=p.z/\p.z<=5000*p.d)
theorem Zs9 {h:Hal} {w:Wl} {n sx sy:Int} (hs:Str w n sx sy) {p:Pt} (hp:PtOk p.x p.y p.d) (ht:2<=h.ht/\h.ht<=5000) (hpl:valN (plW w).1 p.x p.y p.z=(plW w).2*p.d) (hw:Zl8 h w p=true):Ycw p:=by
 obtain ⟨x,y,z,d⟩:=p
 dsimp only at hp hpl
 have hd:=hp.hd
 have hD:=hp.hD
 have a1:=Zk hs.b1 hd
 have a2:=Zk hs.b2 hd
 have a3:=Zk hs.b3 hd
 have a4:=Zk hs.b4 hd
 have hz0:=Zk (f:=h.ht) (d:=d) (by omega) hd
 have hz:Qa Qb (h.ht*d)=h.ht*d:=W_eq (by omega) (by omega)
 unfold Zl8 at hw
 rw [Zlj hs] at hpl
 unfold valN at hpl
 rw [Zgv,Zgv,Zgw,Zgw] at hw
 dsimp only at hw
 rw [hz,Zde hd,Zde hd,Zdf hd,Zdf hd] at hw
 rw [W_eq (n:=min (w.fx*d) (w.tx*d)) (by omega) (by omega),W_eq (n:=max (w.fx*d) (w.tx*d)) (by omega) (by omega),W_eq (n:=min (w.fy*d) (w.ty*d)) (by omega) (by omega),W_eq (n:=max (w.fy*d) (w.ty*d)) (by omega) (by omega)] at hw
 have ex:w.tx*d=w.fx*d+sx*(n*d):=by rw [hs.tx]; grind
 have ey:w.ty*d=w.fy*d+sy*(n*d):=by rw [hs.ty]; grind
 have d3:(w.fx+w.fy)*d=w.fx*d+w.fy*d:=by grind
 have d4:(w.fx-w.fy)*d=w.fx*d-w.fy*d:=by grind
 have cnd:(w.fx=w.tx)->sx=0:=by
  intro e
  have:=hs.tx
  have hn:=hs.hn
  have:n*sx=0:=by omega
  rcases Jx.1 this with h|h
  ·omega
  ·exact h
 have nd:0<n*d:=Pc hs.hn hd
 unfold Ycw
 dsimp only
 simp only [Qc,Sq,Bool.or_eq_false_iff,decide_eq_false_iff_not] at hw
 obtain ⟨⟨z1,z2⟩,hw⟩:=hw
 have hxy:=hs.hxy
 split at hw
 ·rename_i c
  have c0:=cnd c
  subst c0
  simp only [Qc,decide_eq_true_eq] at hw
  simp at hpl
  omega
 ·rename_i c
  simp only [Qc,decide_eq_true_eq] at hw
  have hx0:sx≠0:=fun e=>c (by rw [hs.tx,e]; omega)
  rw [if_neg hx0] at hpl
  rcases hs.hy with rfl|rfl|rfl<;>rcases hs.hx with rfl|rfl|rfl
  all_goals simp at hpl hx0
  all_goals omega
theorem Zph {h:Hal} {d z n:Int} (hd:0<d) (hn:0<=n/\n<=5000) (e:z=n*d) : -(5000*d)<=z/\z<=5000*d:=by
 have:=Zk (f:=n) (d:=d) (by omega) hd
 omega
theorem Zs2 {h:Hal} {s:Stg} (g:Sit h s) {i:Int} (hi:SK h i) {p:Pt} (hp:PtOk p.x p.y p.d) (hpl:valN (Zh h s i).1 p.x p.y p.z=(Zh h s i).2*p.d) (hw:Za1 h i p=true):Ycw p:=by
 have ht:=g.fine.ht
 cases hi with
 | wall k hk =>
  have hk2:k<h.cs.length:=by have:=g.fine.le; omega
  obtain ⟨n,sx,sy,hs⟩:=g.fine.st k hk2
  rw [Zaq hk] at hpl
  rw [Zge hk] at hw
  exact Zs9 hs hp ht hpl hw
 | floor =>
  rw [Zeu] at hw
  rw [Za9] at hpl
  have hb:=Zkr g.fine.st hp hw
  have hpl:p.z=0*p.d:=hpl
  exact ⟨hb.1,hb.2,Zph (h:=h) hp.hd (by omega) hpl⟩
 | ceil =>
  rw [Zgf] at hw
  rw [Zb9] at hpl
  have hb:=Zkr g.fine.st hp hw
  have hpl:p.z=h.ht*p.d:=hpl
  exact ⟨hb.1,hb.2,Zph (h:=h) hp.hd (by omega) hpl⟩
 | can j hj =>
  rw [Zh6 hj] at hw
  rw [Zdw] at hpl
  have hpl:p.z=Zdk h s j*p.d:=hpl
  have hg:=Zu6 g hj
  have hr:=Ztz (Zjl g.fine hj).1
  have hd:0<p.d/\p.d<=1000000000000000:=by have:=hp.hd; have:=hp.hD; omega
  have c0:=(Zjl g.fine hj).1
  generalize h.ks[j]=c at *
  obtain ⟨⟨e1,e2⟩,e3,e4⟩:=Zgm c
  have c1:=Zk c0.b1 hd.1
  have c2:=Zk c0.b2 hd.1
  have c3:=Zk c0.b3 hd.1
  have c4:=Zk c0.b4 hd.1
  rw [Zkh hr hd,e1,e2,e3,e4,Zde hd.1,Zdf hd.1,Zde hd.1,Zdf hd.1] at hw
  exact ⟨by omega,by omega,Zph (h:=h) hp.hd (by omega) hpl⟩
theorem Zpz {h:Hal} {s:Stg} (g:Sit h s) {c:Crs} (hi:SK h c.su) (ho:CrOk (Zh h s c.su) c) (e:(Zaz (Za1 h c.su) (Zh h s c.su) c).2=0) :
  Xc (Zaz (Za1 h c.su) (Zh h s c.su) c).1=0:=by
 unfold Zaz at e ⊢
 split at e
 ·cases e
 ·rename_i hs
  split at e
  ·rename_i hw
   split at e
   ·cases e
   ·rename_i hd
    rw [if_neg hs,if_pos hw,if_neg hd]
    have hbig:=Zbs ho hs
    have hb:=(Zb7 hbig).2.2.1
    have hn:=Zs2 g hi (p:=Vj (Zh h s c.su) c) hb.ok (Zfb ho hs) hw
    have hg:=Yef hbig
    unfold Xc
    have hd0:=hb.d.1
    rw [if_neg (by
     intro q
     rcases q with q|q
     ·exact absurd hd0 (Int.not_lt.2 q)
     ·exact q hg),if_neg hd,if_pos]
    unfold ptIn
    obtain ⟨n1,n2,n3⟩:=hn
    simp only [Qc,within_iff]
    exact ⟨⟨n1,n2⟩,n3⟩
  ·cases e
structure Pth where
 ss:List Int
 ps:List (Int × Int × Int × Int)
 sq:Int
abbrev hp4 (p:Int × Int × Int × Int):List AV:=[I p.1,I p.2.1,I p.2.2.1,I p.2.2.2]
abbrev Pth.av (p:Pth):AV:=.agg [.isl 1 (nl p.ss),.isl 4 (p.ps.map hp4),I p.sq]
def pthE (p:Pth):Int:=if (p.ps.length:Int)=p.ss.length then (if 4<(p.ss.length:Int) then 8 else (if within p.sq 1 24300000000 then 0 else 2)) else 10
theorem d210 (n lo hi:Int):PCall Tryz.prog 72 [I n,I lo,I hi] ⟨Bo (within n lo hi),[]⟩:=by
 refine bs.pv (sx:=nos) Zd Tryz.func72 (by kernel_rfl) (by kernel_rfl) rfl ?_
 repeat'(first|refine wk3 ?_|(refine wk2 ?_ ?_<;>intro _)|refine wk4 ?_|fail);all_goals(conv=>whnf)
 all_goals exact Zc (by simp_all [within]<;>omega)
theorem d209 (b:Bool) (e:Int):PCall Tryz.prog 57 [Bo b,I e] ⟨I (unl b e),[]⟩:=by
 refine bs.pv (sx:=nos) Zd Tryz.func57 (by kernel_rfl) (by kernel_rfl) rfl ?_
 repeat'(first|refine wk3 ?_|(refine wk2 ?_ ?_<;>intro _)|refine wk4 ?_|fail);all_goals(conv=>whnf)
 all_goals exact Za (by simp_all [unl])
def fstL:List Int->Int
 | []=>0
 | x::l=>if x≠0 then x else fstL l
theorem Zve (x:Int) (l:List Int):fstL (x::l)=if x≠0 then x else fstL l:=rfl
theorem d78 {l:List Int} (hl:l.length<1000):PCall Tryz.prog 36 [.isl 1 (nl l)] ⟨I (fstL l),[]⟩:=by
 have l2:=Zl l
 refine bs.pv (sx:=nos) Zd Tryz.func36 (by kernel_rfl) (by kernel_rfl) rfl ?_
 repeat'(first|refine wk3 ?_|(refine wk2 ?_ ?_<;>intro _)|refine wk4 ?_|fail);all_goals(conv=>whnf)
 refine Zz (S:=Nat × Int) (fun t=>l.length-t.1) (fun t=>[(5,.isl 1 (nl l)),(6,I (nl l).length),(7,I t.2)]) (fun _=>[]) 0 0 (fun t=>t.2=t.1/\t.1<=l.length/\fstL (l.drop t.1)=fstL l) (0,0) ⟨rfl,Qm _,rfl⟩ (Qd _) [] rfl (kps) (kps) ?_
 rintro ⟨k,i⟩ ⟨hi,hk,hh⟩
 dsimp only at hi hk hh ⊢
 subst hi
 generalize fstL l=R at *
 refine bs.av (sx:=nos) Zd ?_
 by_cases hlt:k<l.length
 ·have e1:=Uo hlt
  rw [Qi hlt,Zve] at hh
  generalize l[k]=x at *
  by_cases hx:x=0
  ·rw [if_neg (fun c=>c hx)] at hh
   repeat'(first|refine wk3 ?_|(refine wk2 ?_ ?_<;>intro _)|refine wk4 ?_|fail);all_goals(conv=>whnf)
   exact Qo ⟨(k+1,_),[],rfl,kps,kps,⟨Zi (by omega),hlt,hh⟩,by dsimp only; omega⟩
  ·rw [if_pos hx] at hh
   subst hh
   repeat'(first|refine wk3 ?_|(refine wk2 ?_ ?_<;>intro _)|refine wk4 ?_|fail);all_goals(conv=>whnf)
   exact Za rfl
 ·rw [Qj (by omega)] at hh
  repeat'(first|refine wk3 ?_|(refine wk2 ?_ ?_<;>intro _)|refine wk4 ?_|fail);all_goals(conv=>whnf)
  exact Za hh
def r78f:List AV->Option PRes
 | [.isl 1 l]=>match numsOf l with
  | some ns=>asr (Nat.blt ns.length 1000) ⟨I (fstL ns),[]⟩
  | none=>none
 | _=>none
where
 numsOf:List (List AV)->Option (List Int)
  | []=>some []
  | [.int .i64 n]::l=>match numsOf l with
   | some ns=>some (n::ns)
   | none=>none
  | _=>none
theorem d86 (n m:Int):PCall Tryz.prog 75 [I n,I m] ⟨Bo (small n m),[]⟩:=by
 have hk:PCOK Tryz.prog (ins 72 (fun a=>match a with
  | [.int .i64 n,.int .i64 lo,.int .i64 hi]=>some ⟨Bo (within n lo hi),[]⟩
  | _=>none) pt0):=Zj (fun a res h=>by split at h<;>cases h; exact d210 _ _ _) Zd
 refine bs.pv (sx:=nos) hk Tryz.func75 (by kernel_rfl) (by kernel_rfl) rfl ?_
 repeat'(first|refine wk3 ?_|(refine wk2 ?_ ?_<;>intro _)|refine wk4 ?_|fail);all_goals(conv=>whnf)
 exact Zc rfl
end Go.Proofs.YtdmidbkelinnjaaGreat
