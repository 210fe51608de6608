/- A part of the proof: lemmas. -/
import Derived.Test.YtohjcchcladneaaGreatQ9
import Derived.Test.YtohjcchcladneaaGreatQ7
import Derived.Test.YtohjcchcladneaaGreatQ6
import Derived.Test.YtohjcchcladneaaGreatQ8
import Derived.Test.YtohjcchcladneaaGreatRows
set_option linter.unusedVariables false
set_option linter.unusedSimpArgs false
set_option maxRecDepth 100000
set_option maxHeartbeats 16000000
open Bool renaming and_eq_true->Qf,eq_iff_iff->Sf,or_eq_true->Qy
open Go.IntKind renaming i64->Qb,wrap->Qa,wrap_i64->Sr
open Go.Sx.AV.int renaming injEq->Wm
open Int renaming add_comm->Wb,ediv_emod_unique->Ou,le_of_lt->Qx,le_total->Mx,lt_or_le->My,lt_tmod_of_pos->Nk,max_eq_left->Gs,max_eq_right->Ge,min_eq_left->Gr,min_eq_right->Gd,mul_assoc->Sk,mul_comm->Rr,mul_eq_zero->Wp,mul_le_mul_of_nonneg_left->Rd,mul_le_mul_of_nonneg_right->Qk,mul_lt_mul_of_pos_right->Ru,mul_neg->Sj,mul_nonneg->Qu,mul_one->Rs,mul_pos->Ra,mul_zero->Sp,natAbs_mul->Tj,natAbs_natCast->Nm,natAbs_tmod->Mp,ofNat_dvd_left->Nl,one_mul->Sn,sub_mul->Oa,tmod_lt_of_pos->Lf,tmod_nonneg->Gu,toNat_of_nonneg->Ms,zero_mul->Rk
open List renaming getElem?_eq_getElem->Ql,map_congr_left->Pu,map_cons->Tg,mem_cons->Rp
open List.cons renaming injEq->Rw
open Nat renaming dvd_trans->Mg,gcd->Ti,gcd_dvd_left->Kj,gcd_dvd_right->Om,gcd_mul_right->Pp,gcd_zero_left->Lw,le_refl->Qm
namespace Go.Proofs.YtohjcchcladneaaGreat
open Go Go.Sx
structure Sit (h:Hal) (s:Stg):Prop where
 ok:h.ok
 fine:h.fine
 sf:s.few
 set:SetOk h s
theorem Zkf {h:Hal} (hk:h.ok) {s:Stg} (hs:s.few) (h0:serr h s=0):Sit h s:=by
 unfold serr at h0
 split at h0
 ·rename_i he
  exact ⟨hk,Znf hk he,hs,Zzh hk.f h0⟩
 ·rename_i he; exact absurd h0 he
inductive SK (h:Hal):Int->Prop
 | wall (k:Nat) (hk:k<h.ws.length):SK h k
 | floor:SK h h.ws.length
 | ceil:SK h ((h.ws.length:Int)+1)
 | can (j:Nat) (hj:j<h.ks.length):SK h ((h.ws.length:Int)+2+j)
theorem Zp3 {h:Hal} {i:Int} (h0:0<=i) (h1:i<nsur h):SK h i:=by
 unfold nsur at h1
 by_cases c1:i<h.ws.length
 ·have:=SK.wall (h:=h) i.toNat (by omega)
  rwa [Ms h0] at this
 by_cases c2:i=h.ws.length
 ·rw [c2]; exact .floor
 by_cases c3:i=(h.ws.length:Int)+1
 ·rw [c3]; exact .ceil
 have:=SK.can (h:=h) (i-h.ws.length-2).toNat (by omega)
 rwa [Ms (by omega),show (h.ws.length:Int)+2+(i-h.ws.length-2)=i by omega] at this
theorem Zke {h:Hal} {s:Stg} {i:Int} (h0:surE h s i=0):serr h s=0/\0<=i/\i<nsur h:=by
 unfold surE at h0
 split at h0
 ·rename_i he
  split at h0
  ·rename_i hw
   have:=within_iff.1 hw
   exact ⟨he,by omega,by omega⟩
  ·cases h0
 ·rename_i he; exact absurd h0 he
def kix (h:Hal) (i:Int):Nat:=(i-h.ws.length-2).toNat
def kat (h:Hal) (i:Int):Can:=(h.ks[kix h i]?).getD ⟨⟨#[]⟩,⟨#[]⟩,0,0,0,0,[]⟩
theorem Zor {h:Hal} {j:Nat} (hj:j<h.ks.length):kat h ((h.ws.length:Int)+2+j)=h.ks[j]:=by
 unfold kat kix
 rw [show ((h.ws.length:Int)+2+j-h.ws.length-2).toNat=j by omega,Ql hj]; rfl
def isK (h:Hal) (i:Int):Bool:=decide ((h.ws.length:Int)+2<=i)
abbrev canZ:List AV:=[.str ⟨#[]⟩,.str ⟨#[]⟩,I 0,I 0,I 0,I 0,.nils]
def canV (h:Hal) (i:Int):AV:=.agg (match isK h i with
 | true=>(kat h i).av
 | false=>canZ)
theorem c87 {h:Hal} (hf:h.few) (s:Stg) {i:Int} (hi:SK h i):PCall Tryz.prog 118 [.agg (stgL h s),I i] ⟨.tup [canV h i,Bo (isK h i)],[]⟩:=by
 have l:=Un h.ws
 have l2:=Zac h.ks
 obtain ⟨_,_,f3,f4,_⟩:=hf
 have low:∀ i:Int,0<=i->i<(h.ws.length:Int)+2->PCall Tryz.prog 118 [.agg (stgL h s),I i] ⟨.tup [.agg canZ,Bo false],[]⟩:=by
  intro i h0 h1
  have hv:Qa Qb (Qa Qb (i-((h.ws.map Wal.av).length:Int))-2)=i-h.ws.length-2:=by rw [W_eq (n:=i-((h.ws.map Wal.av).length:Int)) (by omega) (by omega),W_eq (by omega) (by omega)]; omega
  refine pn Zh Tryz.func118 ?_
  have hn:¬ (0<=Qa Qb (Qa Qb (i-((h.ws.map Wal.av).length:Int))-2)):=by rw [hv]; omega
  repeat'(first|refine wk0 ?_|(refine wk2 ?_ ?_<;>intro _)|fail)
  all_goals first
   | exact Zg rfl rfl
   | (exfalso; rename_i hx; have:=of_decide_eq_true hx; rw [hv] at this; omega)
   | (exfalso; rename_i hx; have:=of_decide_eq_true hx; exact hn this)
 cases hi with
 | wall k hk =>
  have e1:isK h k=false:=decide_eq_false (by omega)
  unfold canV; rw [e1]; exact low _ (by omega) (by omega)
 | floor =>
  have e1:isK h h.ws.length=false:=decide_eq_false (by omega)
  unfold canV; rw [e1]; exact low _ (by omega) (by omega)
 | ceil =>
  have e1:isK h ((h.ws.length:Int)+1)=false:=decide_eq_false (by omega)
  unfold canV; rw [e1]; exact low _ (by omega) (by omega)
 | can j hj =>
  have e1:isK h ((h.ws.length:Int)+2+j)=true:=decide_eq_true (by omega)
  unfold canV
  rw [e1]
  dsimp only
  rw [Zor hj]
  have hv:Qa Qb (Qa Qb ((h.ws.length:Int)+2+j-((h.ws.map Wal.av).length:Int))-2)=j:=by rw [W_eq (n:=(h.ws.length:Int)+2+j-((h.ws.map Wal.av).length:Int)) (by omega) (by omega),W_eq (by omega) (by omega)]; omega
  have e2:(h.ks.map Can.av)[(Qa Qb (Qa Qb ((h.ws.length:Int)+2+j-((h.ws.map Wal.av).length:Int))-2)).toNat]?=some (Can.av h.ks[j]):=by rw [hv]; exact Ziz hj
  have e3:0<=Qa Qb (Qa Qb ((h.ws.length:Int)+2+j-((h.ws.map Wal.av).length:Int))-2):=by omega
  have e4:decide (0<=Qa Qb (Qa Qb ((h.ws.length:Int)+2+j-((h.ws.map Wal.av).length:Int))-2))=true:=decide_eq_true e3
  refine pn Zh Tryz.func118 ?_
  repeat'(first|refine wk0 ?_|(refine wk2 ?_ ?_<;>intro _)|fail)
  all_goals first
   | exact Zg rfl rfl
   | (exfalso; rename_i hx; rw [e4] at hx; cases hx)
def Zbo (h:Hal) (s:Stg) (j:Nat):Int:=match h.ks[j]?,s.hs[j]? with
 | some c,some n=>c.hs.getD n.toNat 0
 | _,_=>0
theorem Zlk {h:Hal} {s:Stg} (g:SetOk h s) {j:Nat} (hj:j<h.ks.length):∃ n,(nl s.hs)[((j:Nat):Int).toNat]?=some [I n]/\0<=n/\n<h.ks[j].hs.length/\(nl h.ks[j].hs)[n.toNat]?=some [I (Zbo h s j)]:=by
 have h2:j<s.hs.length:=by rw [g.len]; exact hj
 obtain ⟨g1,g2⟩:=g.hs j hj h2
 refine ⟨s.hs[j],Zdc h2,g1,g2,?_⟩
 have h3:s.hs[j].toNat<h.ks[j].hs.length:=by omega
 have e:Zbo h s j=h.ks[j].hs[s.hs[j].toNat]:=by unfold Zbo; rw [Ql hj,Ql h2]; simp [h3]
 rw [e]
 simp [nl,h3]
theorem c192 {h:Hal} {s:Stg} (g:Sit h s) {j:Nat} (hj:j<h.ks.length):PCall Tryz.prog 116 [.agg (stgL h s),I j] ⟨I (Zbo h s j),[]⟩:=by
 obtain ⟨n,e1,e2,e3,e4⟩:=Zlk g.set hj
 have e5:=Ziz hj
 generalize h.ks[j]=c at *
 have e6:=Xa c.hs
 refine pn Zh Tryz.func116 ?_
 repeat'(first|refine wk1 ?_|(refine wk2 ?_ ?_<;>intro _)|fail)
 exact Zd rfl
def plW (w:Wl):Int × Int:=if w.dx=0 then (0,w.fx) else if w.dy=0 then (1,w.fy) else if w.dx=w.dy then (4,Qa Qb (w.fx-w.fy)) else (3,Qa Qb (w.fx+w.fy))
def Zc (h:Hal) (s:Stg) (i:Int):Int × Int:=if i<h.ws.length then plW (wlOf h.cs i.toNat) else if i=h.ws.length then (2,0) else if i=(h.ws.length:Int)+1 then (2,h.ht) else (2,Zbo h s (kix h i))
theorem Ut {h:Hal} {s:Stg} {k:Nat} (hk:k<h.ws.length):Zc h s k=plW (wlOf h.cs k):=by unfold Zc; rw [if_pos (by omega)]; rfl
theorem Zaj {h:Hal} {s:Stg}:Zc h s h.ws.length=(2,0):=by unfold Zc; rw [if_neg (by omega),if_pos rfl]
theorem Zbm {h:Hal} {s:Stg}:Zc h s ((h.ws.length:Int)+1)=(2,h.ht):=by unfold Zc; rw [if_neg (by omega),if_neg (by omega),if_pos rfl]
theorem Zct {h:Hal} {s:Stg} {j:Nat}:Zc h s ((h.ws.length:Int)+2+j)=(2,Zbo h s j):=by
 unfold Zc kix
 rw [if_neg (by omega),if_neg (by omega),if_neg (by omega),show ((h.ws.length:Int)+2+j-h.ws.length-2).toNat=j by omega]
noncomputable def kP (h:Hal) (s:Stg):PC:=ins 114 (one [.agg (stgL h s)] ⟨I (h.ws.length:Int),[]⟩) (ins 115 (one [.agg (stgL h s)] ⟨I ((h.ws.length:Int)+1),[]⟩) kG4)
theorem Ycn {h:Hal} {s:Stg} (g:Sit h s):PCOK Tryz.prog (kP h s):=Zi (c172 s) (Zi (c173 g.ok.f s) Vy)
theorem c112 {h:Hal} {s:Stg} (g:Sit h s) {i:Int} (hi:SK h i):PCall Tryz.prog 60 [.agg (stgL h s),I i] ⟨P2 (Zc h s i).1 (Zc h s i).2,[]⟩:=by
 have hk0:=Ycn g
 have f3:=g.ok.f.2.2.1
 have f4:=g.ok.f.2.2.2.1
 cases hi with
 | wall k hk =>
  have hk2:k<h.cs.length:=by have:=g.fine.le; omega
  rw [Ut hk]
  have hk1:=Zi (Yba g.ok.f hk2) hk0
  refine pn hk1 Tryz.func60 ?_
  generalize wlOf h.cs k=w at *
  repeat'(first|refine wk1 ?_|(refine wk2 ?_ ?_<;>intro _)|fail)
  all_goals exact Zg (by clear hk0 hk1; simp_all [plW]) rfl
 | floor =>
  rw [Zaj]
  refine pn hk0 Tryz.func60 ?_
  repeat'(first|refine wk1 ?_|(refine wk2 ?_ ?_<;>intro _)|fail)
  exact Zg rfl rfl
 | ceil =>
  rw [Zbm]
  refine pn hk0 Tryz.func60 ?_
  repeat'(first|refine wk1 ?_|(refine wk2 ?_ ?_<;>intro _)|fail)
  exact Zg rfl rfl
 | can j hj =>
  rw [Zct]
  have hv:Qa Qb (Qa Qb ((h.ws.length:Int)+2+j-((h.ws.length:Int)+1))-1)=j:=by rw [W_eq (n:=(h.ws.length:Int)+2+j-((h.ws.length:Int)+1)) (by omega) (by omega),W_eq (by omega) (by omega)]; omega
  have hc:=c192 g hj
  rw [<-hv] at hc
  have hk1:=Zi hc hk0
  refine pn hk1 Tryz.func60 ?_
  repeat'(first|refine wk1 ?_|(refine wk2 ?_ ?_<;>intro _)|fail)
  exact Zg rfl rfl
def Zfq (h:Hal) (s:Stg) (i:Int):Int × Int:=if surE h s i=0 then Zc h s i else (0,0)
theorem c54 {h:Hal} (hk:h.ok) {s:Stg} (hs:s.few) (i:Int):PCall Tryz.prog 51 [h.av,s.av,I i] ⟨.tup [P2 (Zfq h s i).1 (Zfq h s i).2,I (surE h s i)],[]⟩:=by
 have hk0:=Zi (c109 hk hs i) Zh
 by_cases he:surE h s i=0
 ·have e:=Zke he
  have g:=Zkf hk hs e.1
  have hk1:=Zi (c112 g (Zp3 e.2.1 e.2.2)) hk0
  have e2:Zfq h s i=Zc h s i:=by unfold Zfq; rw [if_pos he]
  rw [e2]
  rw [he] at hk1 ⊢
  refine pn hk1 Tryz.func51 ?_
  repeat'(first|refine wk1 ?_|(refine wk2 ?_ ?_<;>intro _)|fail)
  exact Zg rfl rfl
 ·have e2:Zfq h s i=(0,0):=by unfold Zfq; rw [if_neg he]
  rw [e2]
  refine pn hk0 Tryz.func51 ?_
  repeat'(first|refine wk1 ?_|(refine wk2 ?_ ?_<;>intro _)|fail)
  exact Zg rfl rfl
theorem Zj1 {h:Hal} {i:Int} (hi:i<(h.ws.length:Int)+2):canV h i = .agg canZ/\isK h i=false:=by
 have e1:isK h i=false:=decide_eq_false (by omega)
 unfold canV; rw [e1]; exact ⟨rfl,rfl⟩
theorem Zw0 {h:Hal} {j:Nat} (hj:j<h.ks.length):canV h ((h.ws.length:Int)+2+j) = .agg (Can.av h.ks[j])/\isK h ((h.ws.length:Int)+2+j)=true:=by
 have e1:isK h ((h.ws.length:Int)+2+j)=true:=decide_eq_true (by omega)
 unfold canV; rw [e1,<-Zor hj]; exact ⟨rfl,rfl⟩
theorem Zwj {n b:Int} (hb:0<b):(n.tmod b<0/\n / b=n.tdiv b-1)\/(¬ n.tmod b<0/\n / b=n.tdiv b):=by
 have e1:=Int.tmod_add_mul_tdiv n b
 have e2:=Lf n hb
 have e3:=Nk n hb
 by_cases h:n.tmod b<0
 ·exact .inl ⟨h,((Ou hb (r:=n.tmod b+b)).2 ⟨by rw [Int.mul_sub]; omega,by omega,by omega⟩).1⟩
 ·exact .inr ⟨h,((Ou hb (r:=n.tmod b)).2 ⟨by omega,by omega,by omega⟩).1⟩
theorem c90 {n b:Int} (hb:0<b) (h0 : -9223372036854775807<=n) (h1:n<=9223372036854775807):PCall Tryz.prog 20 [I n,I b] ⟨I (n / b),[]⟩:=by
 have hq:=Int.natAbs_tdiv_le_natAbs n b
 have e:Qa Qb (n.tdiv b)=n.tdiv b:=W_eq (by omega) (by omega)
 have hm:Qa Qb (n.tmod b)=n.tmod b:=by
  have:=Lf n hb
  have e3:=Nk n hb
  have e4:(n.tmod b).natAbs<=n.natAbs:=by rw [Mp]; exact Nat.mod_le _ _
  exact W_eq (by omega) (by omega)
 have hz:¬ b=0:=by omega
 refine pn Zh Tryz.func20 ?_
 rcases Zwj (n:=n) hb with ⟨c1,c2⟩|⟨c1,c2⟩
 ·have e5:Qa Qb (n.tdiv b-1)=n.tdiv b-1:=W_eq (by omega) (by omega)
  rw [c2]
  repeat'(first|refine wk1 ?_|(refine wk2 ?_ ?_<;>intro _)|fail)
  all_goals exact Zd (by rw [e,e5])
 ·rw [c2]
  repeat'(first|refine wk1 ?_|(refine wk2 ?_ ?_<;>intro _)|fail)
  all_goals exact Zd (by omega)
structure Pl where
 nm:ByteArray
 ht:Int
 fl:ByteArray
 ce:ByteArray
 ms:List (List AV)
 ps:List (Int × Int)
 wa:List (List AV)
 ca:AV
 se:AV
abbrev Pl.c (p:Pl):List AV:=[.str p.nm,I p.ht,.str p.fl,.str p.ce,.isl 6 p.ms,.isl 2 (p.ps.map pt),.isl 3 p.wa,p.ca,p.se]
def bxP:Pl:=⟨⟨⟨[104]⟩⟩,600,⟨⟨[119]⟩⟩,⟨⟨[119]⟩⟩,[[.str ⟨⟨[119]⟩⟩,I 100,I 100,I 100,I 100,I 0]],[(0,0),(1000,0),(1000,2000),(0,2000)],
 [[.str ⟨⟨[97]⟩⟩,.str ⟨⟨[119]⟩⟩,.str ⟨⟨[]⟩⟩],[.str ⟨⟨[98]⟩⟩,.str ⟨⟨[119]⟩⟩,.str ⟨⟨[]⟩⟩],[.str ⟨⟨[99]⟩⟩,.str ⟨⟨[119]⟩⟩,.str ⟨⟨[]⟩⟩],[.str ⟨⟨[100]⟩⟩,.str ⟨⟨[119]⟩⟩,.str ⟨⟨[]⟩⟩]],.nils,.nils⟩
noncomputable def exT5 (xs:List Nat) (pt:PC):CF:=exG Tryz.prog (tget tbl) (memN eqs) itT (memN xs) pt 1000 60
theorem Zte {xs:List Nat} {pt:PC} (hpt:PCOK Tryz.prog pt):CFOK Tryz.prog (exT5 xs pt):=Zhj Zvi eqOK Zyg mixed hpt 60
theorem Yy {xs:List Nat} {pt:PC} (hpt:PCOK Tryz.prog pt) {f:FuncId} {a:List AV} {v:AV} (h:isR v (pcF (exT5 xs pt) f a)=true):PCall Tryz.prog f a ⟨v,[]⟩:=Zjk (Zte hpt) (Zyh h)
mutual
def toFz (bl:List (Nat × List (List AV))):AV->Option AV
 | .asl id 0 len=>match bl[id]? with
  | some (es,els)=>cond (Nat.beq len els.length) (some (.isl es els)) none
  | none=>none
 | .agg cs=>match Zpx bl cs with
  | some ds=>some (.agg ds)
  | none=>none
 | .tup cs=>match Zpx bl cs with
  | some ds=>some (.tup ds)
  | none=>none
 | .int k n=>some (.int k n)
 | .bool b=>some (.bool b)
 | .nils=>some .nils
 | _=>none
def Zpx (bl:List (Nat × List (List AV))):List AV->Option (List AV)
 | []=>some []
 | c::cs=>match toFz bl c,Zpx bl cs with
  | some d,some ds=>some (d::ds)
  | _,_=>none
end
mutual
theorem Zrf (bl:List (Nat × List (List AV))):∀ (v:AV) {v' : AV},toFz bl v=some v'->Frz bl v v'
 | .asl id 0 len,v',h=>by
  simp only [toFz] at h
  split at h
  ·rename_i es els hb
   obtain ⟨h1,h⟩:=Za h
   cases h
   exact ⟨hb,rfl,Nat.eq_of_beq_eq_true h1⟩
  ·cases h
 | .agg cs,v',h=>by
  simp only [toFz] at h
  split at h
  ·rename_i ds hd
   cases h
   exact Zi8 bl cs hd
  ·cases h
 | .tup cs,v',h=>by
  simp only [toFz] at h
  split at h
  ·rename_i ds hd
   cases h
   exact Zi8 bl cs hd
  ·cases h
 | .int k n,v',h=>by simp only [toFz] at h; cases h; exact ⟨rfl,rfl⟩
 | .bool b,v',h=>by simp only [toFz] at h; cases h; exact ⟨rfl,rfl⟩
 | .nils,v',h=>by simp only [toFz] at h; cases h; exact ⟨rfl,rfl⟩
 | .any,_,h | .flt _ _,_,h | .cpx _ _ _,_,h | .str _,_,h | .ptr _ _ _,_,h | .ipt _,_,h | .nilp,_,h | .bsl _ _ _ _ _,_,h | .isl _ _,_,h | .amap _,_,h | .func _ _ _,_,h | .yld _,_,h | .asl _ (_+1) _,_,h=>by simp [toFz] at h
theorem Zi8 (bl:List (Nat × List (List AV))):∀ (v:List AV) {v' : List AV},Zpx bl v=some v'->FrzL bl v v'
 | [],v',h=>by simp only [Zpx] at h; cases h; exact trivial
 | c::cs,v',h=>by
  simp only [Zpx] at h
  split at h
  ·rename_i d ds h1 h2
   cases h
   exact ⟨Zrf bl c h1,Zi8 bl cs h2⟩
  ·cases h
end
def isRF (v0:AV):Option PRes->Bool
 | some ⟨v,bl⟩=>match toFz bl v with
  | some u=>eqA u v0
  | none=>false
 | _=>false
theorem Zks {xs:List Nat} {pt:PC} (hpt:PCOK Tryz.prog pt) {f:FuncId} {a:List AV} {v:AV} (h:isRF v (pcF (exT5 xs pt) f a)=true):PCall Tryz.prog f a ⟨v,[]⟩:=by
 unfold isRF at h
 split at h
 ·rename_i u bl hu
  split at h
  ·rename_i d hd
   rw [<-Ztl _ _ h]
   exact (Zjk (Zte hpt) hu).freeze (Zrf bl u hd)
  ·cases h
 ·cases h
theorem awbox:isR (.tup [.agg [I 0,I 0],I 0]) (pcF (exT [] pt0) 41 [.agg bxP.c])=true:=by kernel_rfl
theorem Yda:PCall Tryz.prog 41 [.agg bxP.c] ⟨.tup [.agg [I 0,I 0],I 0],[]⟩:=Zvo Zh awbox
noncomputable def boxT:PC:=Zdi 41 [.agg bxP.c] (.tup [.agg [I 0,I 0],I 0]) pt0
theorem Zul:PCOK Tryz.prog boxT:=Xd Yda Zh
theorem awcs:isR (I 0) (pcF (exT5 [41] boxT) 29 [.agg bxP.c,.agg [.nils,.nils]])=true:=by kernel_rfl
noncomputable def tcs:PC:=Zdi 29 [.agg bxP.c,.agg [.nils,.nils]] (I 0) boxT
theorem Zxu:PCOK Tryz.prog tcs:=Xd (Yy Zul awcs) Zul
theorem awca:isR (I 0) (pcF (exT5 [29,41] tcs) 17 [.agg bxP.c,.agg [.nils,.nils],.agg [I 300,I 700,I 150,I 300,I 800,I 50,I 2]])=true:=by kernel_rfl
noncomputable def tca:PC:=Zdi 17 [.agg bxP.c,.agg [.nils,.nils],.agg [I 300,I 700,I 150,I 300,I 800,I 50,I 2]] (I 0) tcs
theorem Zxw:PCOK Tryz.prog tca:=Xd (Yy Zxu awca) Zxu
theorem awwe:isR (I 0) (pcF (exT5 [17,29,41] tca) 18 [.agg bxP.c,.isl 1 [[I 1]]])=true:=by kernel_rfl
noncomputable def twe:PC:=Zdi 18 [.agg bxP.c,.isl 1 [[I 1]]] (I 0) tca
theorem Zxm:PCOK Tryz.prog twe:=Xd (Yy Zxw awwe) Zxw
theorem awcr:isR (.tup [.agg [I 1000,I 750,I 100,I 1],I 0]) (pcF (exT5 [17,18,29,41] twe) 36 [.agg bxP.c,.agg [.nils,.nils],.agg [I 1,I 1700,I 700,I 150,I 300,I 800,I 50,I 1]])=true:=by kernel_rfl
noncomputable def tcr:PC:=Zdi 36 [.agg bxP.c,.agg [.nils,.nils],.agg [I 1,I 1700,I 700,I 150,I 300,I 800,I 50,I 1]] (.tup [.agg [I 1000,I 750,I 100,I 1],I 0]) twe
theorem Zxv:PCOK Tryz.prog tcr:=Xd (Yy Zxm awcr) Zxm
theorem awfa:isR (.tup [.bool true,I 0]) (pcF (exT5 [17,18,29,36,41] tcr) 37 [.agg bxP.c,.agg [.nils,.nils],.agg [I 300,I 700,I 150,I 1,I 1000,I 750,I 100,I 1]])=true:=by kernel_rfl
noncomputable def tfa:PC:=Zdi 37 [.agg bxP.c,.agg [.nils,.nils],.agg [I 300,I 700,I 150,I 1,I 1000,I 750,I 100,I 1]] (.tup [.bool true,I 0]) tcr
theorem Zxt:PCOK Tryz.prog tfa:=Xd (Yy Zxv awfa) Zxv
theorem awfb:isR (.tup [.bool true,I 0]) (pcF (exT5 [17,18,29,36,37,41] tfa) 37 [.agg bxP.c,.agg [.nils,.nils],.agg [I 1000,I 750,I 100,I 1,I 300,I 800,I 50,I 1]])=true:=by kernel_rfl
noncomputable def tfb:PC:=Zdi 37 [.agg bxP.c,.agg [.nils,.nils],.agg [I 1000,I 750,I 100,I 1,I 300,I 800,I 50,I 1]] (.tup [.bool true,I 0]) tfa
theorem Zxs:PCOK Tryz.prog tfb:=Xd (Yy Zxt awfb) Zxt
theorem awpl:isR (.tup [.agg [I 0,I 1000],I 0]) (pcF (exT5 [17,18,29,36,37,41] tfb) 51 [.agg bxP.c,.agg [.nils,.nils],I 1])=true:=by kernel_rfl
noncomputable def tpl:PC:=Zdi 51 [.agg bxP.c,.agg [.nils,.nils],I 1] (.tup [.agg [I 0,I 1000],I 0]) tfb
theorem Zxr:PCOK Tryz.prog tpl:=Xd (Yy Zxs awpl) Zxs
theorem awpo:isRF (.tup [.agg [.isl 1 [[I 1]],.isl 4 [[I 1000,I 750,I 100,I 1]],I 1980000],I 0]) (pcF (exT5 [17,18,29,36,37,41,51] tpl) 8 [.agg bxP.c,.agg [.nils,.nils],.agg [I 300,I 700,I 150,I 300,I 800,I 50,I 2],.isl 1 [[I 1]]])=true:=by kernel_rfl
noncomputable def tpo:PC:=Zdi 8 [.agg bxP.c,.agg [.nils,.nils],.agg [I 300,I 700,I 150,I 300,I 800,I 50,I 2],.isl 1 [[I 1]]] (.tup [.agg [.isl 1 [[I 1]],.isl 4 [[I 1000,I 750,I 100,I 1]],I 1980000],I 0]) tpl
theorem Zxq:PCOK Tryz.prog tpo:=Xd (Zks Zxr awpo) Zxr
theorem awr0:isR (.tup [.agg [I 1000000,I 2000,I 1,.bool true],.bool true]) (pcF (exT5 [8,17,18,29,36,37,41,51] tpo) 27 [.agg bxP.c,.agg [I 500,I 1000,I 1,I 0,I (-1)]])=true:=by kernel_rfl
noncomputable def tr0:PC:=Zdi 27 [.agg bxP.c,.agg [I 500,I 1000,I 1,I 0,I (-1)]] (.tup [.agg [I 1000000,I 2000,I 1,.bool true],.bool true]) tpo
theorem Zxp:PCOK Tryz.prog tr0:=Xd (Yy Zxq awr0) Zxq
theorem awr1:isR (.tup [.agg [I 3000000,I 2000,I 3,.bool true],.bool true]) (pcF (exT5 [8,17,18,27,29,36,37,41,51] tr0) 27 [.agg bxP.c,.agg [I 1500,I 1000,I (-1),I 0,I 1]])=true:=by kernel_rfl
noncomputable def tr1:PC:=Zdi 27 [.agg bxP.c,.agg [I 1500,I 1000,I (-1),I 0,I 1]] (.tup [.agg [I 3000000,I 2000,I 3,.bool true],.bool true]) tr0
theorem Zxo:PCOK Tryz.prog tr1:=Xd (Yy Zxp awr1) Zxp
theorem awr2:isR (.tup [.agg [I 5000000,I 2000,I 1,.bool true],.bool true]) (pcF (exT5 [8,17,18,27,29,36,37,41,51] tr1) 27 [.agg bxP.c,.agg [I (-1500),I 1000,I 1,I 0,I 3]])=true:=by kernel_rfl
noncomputable def tr2:PC:=Zdi 27 [.agg bxP.c,.agg [I (-1500),I 1000,I 1,I 0,I 3]] (.tup [.agg [I 5000000,I 2000,I 1,.bool true],.bool true]) tr1
theorem Zxn:PCOK Tryz.prog tr2:=Xd (Yy Zxo awr2) Zxo
theorem awfo:isRF (.tup [.isl 1 [[I 1],[I 3],[I 1]],I 0]) (pcF (exT5 [8,17,18,27,29,36,37,41,51] tr2) 15 [.agg bxP.c,.agg [I 500,I 1000],.agg [I 1,I 0],I 3])=true:=by kernel_rfl
noncomputable def tfo:PC:=Zdi 15 [.agg bxP.c,.agg [I 500,I 1000],.agg [I 1,I 0],I 3] (.tup [.isl 1 [[I 1],[I 3],[I 1]],I 0]) tr2
theorem Ybu:PCOK Tryz.prog tfo:=Xd (Zks Zxn awfo) Zxn
theorem awim:isR (.bool true) (pcF (exT5 [8,15,17,18,27,29,36,37,41,51] tfo) 4 [])=true:=by kernel_rfl
theorem Zhc:PCall Tryz.prog 4 [] ⟨.bool true,[]⟩:=Yy Ybu awim
theorem own:ownKnob Tryz.prog.godebug=none:=by kernel_rfl
theorem Yaa:laidOutB Tryz.prog=true:=by kernel_rfl
theorem Yd2:laidOutB Tryz.checked.prog=true:=by kernel_rfl
theorem Yd0:mapsRowed Tryz.checked.prog=true:=by kernel_rfl
theorem Yc2:Tryz.checked.prog.plainKeys=Rows.topBoxLatticeRow.plainKeys:=by kernel_rfl
theorem Yc5:Tryz.checked.prog.stopsHeard=true:=by kernel_rfl
theorem fMay:Tryz.checked.prog.mayEnter=true:=by kernel_rfl
theorem Yc3:Tryz.checked.prog.liftsFinal=Rows.topBoxLatticeRow.lifted:=by kernel_rfl
theorem Yd1:Tryz.checked.prog.make=some Rows.topBoxLatticeRow.make:=by kernel_rfl
theorem Zx6 {a b c:Int} (hc:0<c):a*c<b*c↔a<b:=⟨fun h=>Int.lt_of_mul_lt_mul_right h (by omega),fun h=>Ru h hc⟩
theorem Zop {a b c:Int} (hc:0<c):a*c<=b*c↔a<=b:=⟨fun h=>Int.le_of_mul_le_mul_right h hc,fun h=>Qk h (by omega)⟩
theorem Zb9 {a c:Int} (hc:0<c):0<c*a↔0<a:=by rw [Rr]; have:=Zx6 (a:=0) (b:=a) hc; rwa [Rk] at this
theorem Zd9 {a c:Int} (hc:0<c):c*a<0↔a<0:=by rw [Rr]; have:=Zx6 (a:=a) (b:=0) hc; rwa [Rk] at this
theorem nn_l {a c:Int} (hc:0<c):0<=c*a↔0<=a:=by rw [Rr]; have:=Zop (a:=0) (b:=a) hc; rwa [Rk] at this
theorem np_l {a c:Int} (hc:0<c):c*a<=0↔a<=0:=by rw [Rr]; have:=Zop (a:=a) (b:=0) hc; rwa [Rk] at this
theorem Zch (a b:Int):imin a b=min a b:=by
 unfold imin; by_cases h:b<a<;>simp [h]<;>omega
theorem Zci (a b:Int):imax a b=max a b:=by
 unfold imax; by_cases h:a<b<;>simp [h]<;>omega
theorem Zas {a b d:Int} (hd:0<d):min a b*d=min (a*d) (b*d):=by
 rcases Mx a b with h|h
 ·rw [Gr h,Gr (Qk h (by omega))]
 ·rw [Gd h,Gd (Qk h (by omega))]
theorem Zat {a b d:Int} (hd:0<d):max a b*d=max (a*d) (b*d):=by
 rcases Mx a b with h|h
 ·rw [Ge h,Ge (Qk h (by omega))]
 ·rw [Gs h,Gs (Qk h (by omega))]
def spans (a b c d:Int):Prop:=∃ l m:Int,0<l/\0<m/\0<=l*a+m*b/\0<=l*c+m*d
theorem Zp1 {a b c d:Int}:spans a b c d↔spans b a d c :=
 ⟨fun ⟨l,m,h1,h2,h3,h4⟩=>⟨m,l,h2,h1,by rw [Wb]; exact h3,by rw [Wb]; exact h4⟩,fun ⟨l,m,h1,h2,h3,h4⟩=>⟨m,l,h2,h1,by rw [Wb]; exact h3,by rw [Wb]; exact h4⟩⟩
theorem Zvk {a b c d:Int} (h1:0<a+c) (h2:0<b+d) (he:a*d=b*c):spans a b c d↔0<=a/\0<=c:=by
 constructor
 ·rintro ⟨l,m,hl,hm,e1,e2⟩
  have hp:0<l*(a+c)+m*(b+d):=by have:=Ra hl h1; have:=Ra hm h2; omega
  have k1:(l*a+m*b)*(a+c)=(l*(a+c)+m*(b+d))*a:=by grind
  have k2:(l*c+m*d)*(a+c)=(l*(a+c)+m*(b+d))*c:=by grind
  have q1:=Qu e1 (Qx h1)
  have q2:=Qu e2 (Qx h1)
  rw [k1,nn_l hp] at q1
  rw [k2,nn_l hp] at q2
  exact ⟨q1,q2⟩
 ·rintro ⟨ha,hc⟩
  refine ⟨1,1,by omega,by omega,?_,?_⟩
  ·have k:(a+c)*b=a*(b+d):=by grind
   have q:=Qu ha (Qx h2)
   rw [<-k,nn_l h1] at q
   omega
  ·have k:(a+c)*d=c*(b+d):=by grind
   have q:=Qu hc (Qx h2)
   rw [<-k,nn_l h1] at q
   omega
theorem Zja {a b c d:Int} (h1:0<a+c) (h2:0<b+d) (he:b*c<a*d):spans a b c d↔0<a/\0<d:=by
 constructor
 ·rintro ⟨l,m,hl,hm,e1,e2⟩
  constructor
  ·by_cases ha:0<a
   ·exact ha
   exfalso
   have q:(b+d)*a<=0:=(np_l h2).2 (by omega)
   have q2:(a+c)*b<0:=by
    have:(a+c)*b=(b+d)*a+(b*c-a*d):=by grind
    omega
   have hb:=(Zd9 h1).1 q2
   have:=(Zd9 hm).2 hb
   have:=(np_l hl).2 (show a<=0 by omega)
   omega
  ·by_cases hd:0<d
   ·exact hd
   exfalso
   have q:(a+c)*d<=0:=(np_l h1).2 (by omega)
   have q2:(b+d)*c<0:=by
    have:(b+d)*c=(a+c)*d+(b*c-a*d):=by grind
    omega
   have hb:=(Zd9 h2).1 q2
   have:=(Zd9 hl).2 hb
   have:=(np_l hm).2 (show d<=0 by omega)
   omega
 ·rintro ⟨ha,hd⟩
  by_cases hb:0<=b
  ·refine ⟨1,c.natAbs+1,by omega,by omega,?_,?_⟩
   ·have:=Qu (show (0:Int)<=(c.natAbs:Int)+1 by omega) hb
    omega
   ·have:=Rd (show 1<=d by omega) (show (0:Int)<=(c.natAbs:Int)+1 by omega)
    omega
  by_cases hc:0<=c
  ·refine ⟨-b,1,by omega,by omega,?_,?_⟩
   ·have:=Rd (show 1<=a by omega) (show (0:Int) <= -b by omega)
    omega
   ·have:=Qu (show 0 <= -b by omega) hc
    omega
  ·refine ⟨-b,a,by omega,ha,?_,?_⟩
   ·have : -b*a+a*b=0:=by grind
    omega
   ·have : -b*c+a*d=a*d-b*c:=by grind
    omega
theorem Zoa {a b c d:Int} (h1:0<a+c) (h2:0<b+d) (he:a*d<b*c):spans a b c d↔0<b/\0<c:=by
 rw [Zp1]; exact Zja h2 h1 he
structure P2d where
 x:Int
 y:Int
 d:Int
def bsP (w:Wl) (sx sy:Int) (p:P2d):Int:=bes w sx sy p.x p.y p.d
def alP (w:Wl) (sx sy:Int) (p:P2d):Int:=alo w sx sy p.x p.y p.d
def ful (n sx sy:Int):Int:=n*(sx*sx+sy*sy)
def Vj (w:Wl) (n sx sy:Int) (p q:P2d):Prop:=∃ l m:Int,0<l/\0<m/\l*bsP w sx sy p+m*bsP w sx sy q=0/\0<=l*alP w sx sy p+m*alP w sx sy q/\l*alP w sx sy p+m*alP w sx sy q<=ful n sx sy*(l*p.d+m*q.d)
theorem Yaj {w:Wl} {n sx sy:Int} (h:Str w n sx sy):0<ful n sx sy:=by
 have hn:=h.hn
 have hxy:=h.hxy
 unfold ful
 rcases h.hx with rfl|rfl|rfl<;>rcases h.hy with rfl|rfl|rfl<;>(try (exact absurd ⟨rfl,rfl⟩ hxy))<;>simp<;>omega
theorem Zik {w:Wl} {n sx sy:Int} {p q:P2d}:Vj w n sx sy p q↔Vj w n sx sy q p:=by
 have key:∀ p q,Vj w n sx sy p q->Vj w n sx sy q p:=by
  rintro p q ⟨l,m,h1,h2,h3,h4,h5⟩
  refine ⟨m,l,h2,h1,by omega,by omega,?_⟩
  rw [Wb (m*q.d)]; omega
 exact ⟨key _ _,key _ _⟩
theorem Zim {w:Wl} {n sx sy:Int} (h:Str w n sx sy) {p q:P2d} (h1:bsP w sx sy p=0) (h2:bsP w sx sy q=0):Vj w n sx sy p q↔spans (alP w sx sy p) (alP w sx sy q) (ful n sx sy*p.d-alP w sx sy p) (ful n sx sy*q.d-alP w sx sy q):=by
 unfold Vj spans
 rw [h1,h2]
 constructor
 ·rintro ⟨l,m,hl,hm,_,e1,e2⟩
  exact ⟨l,m,hl,hm,e1,by grind⟩
 ·rintro ⟨l,m,hl,hm,e1,e2⟩
  exact ⟨l,m,hl,hm,by omega,e1,by grind⟩
theorem Zil {w:Wl} {n sx sy:Int} {p q:P2d} (h0:¬(bsP w sx sy p=0/\bsP w sx sy q=0)) (h1:0<=sgn (bsP w sx sy p)*sgn (bsP w sx sy q)):¬ Vj w n sx sy p q:=by
 rintro ⟨l,m,hl,hm,e,_⟩
 have hs:¬ (sgn (bsP w sx sy p)*sgn (bsP w sx sy q)<0):=by omega
 rw [sgn_mul_neg] at hs
 generalize bsP w sx sy p=a at *
 generalize bsP w sx sy q=b at *
 by_cases ha:0<a
 ·have:=(Zb9 hl).2 ha
  have:=(nn_l hm).2 (show 0<=b by omega)
  omega
 by_cases hb:a<0
 ·have:=(Zd9 hl).2 hb
  have:=(np_l hm).2 (show b<=0 by omega)
  omega
 have:a=0:=by omega
 subst this
 have:m*b≠0:=Int.mul_ne_zero (by omega) (by omega)
 omega
theorem Zbn {w:Wl} {n sx sy:Int} {p q:P2d} {f g:Int} (hf:bsP w sx sy p=f) (hg:bsP w sx sy q=g) (h1:f<0/\0<g):Vj w n sx sy p q↔0<=g*alP w sx sy p-f*alP w sx sy q/\g*alP w sx sy p-f*alP w sx sy q<=ful n sx sy*(g*p.d-f*q.d):=by
 unfold Vj
 rw [hf,hg]
 generalize alP w sx sy p=a
 generalize alP w sx sy q=b
 generalize ful n sx sy=F
 constructor
 ·rintro ⟨l,m,hl,hm,e,e1,e2⟩
  have k1:g*(l*a+m*b)=l*(g*a-f*b):=by grind
  have k2:g*(F*(l*p.d+m*q.d)-(l*a+m*b))=l*(F*(g*p.d-f*q.d)-(g*a-f*b)):=by grind
  have q1:=(nn_l h1.2).2 e1
  have q2:=(nn_l h1.2).2 (show 0<=F*(l*p.d+m*q.d)-(l*a+m*b) by omega)
  rw [k1,nn_l hl] at q1
  rw [k2,nn_l hl] at q2
  exact ⟨q1,by omega⟩
 ·rintro ⟨e1,e2⟩
  refine ⟨g,-f,h1.2,by omega,by grind,?_,?_⟩
  ·have:g*a + -f*b=g*a-f*b:=by grind
   omega
  ·have:g*a + -f*b=g*a-f*b:=by grind
   have:g*p.d + -f*q.d=g*p.d-f*q.d:=by grind
   rw [this]; omega
theorem Zp4 {a b:Int}:sgn a*sgn b<=0 ↔ ¬((0<a/\0<b)\/(a<0/\b<0)):=by
 unfold sgn
 split<;>split<;>(try split)<;>(try split)<;>simp<;>omega
theorem Zoe {r:Rc} (hr:RcOk r) {x y d:Int} (hd:0<d/\d<=1000000000000000):r.has x y d=true↔0<=x-r.xl*d/\0<=r.xh*d-x/\0<=y-r.yl*d/\0<=r.yh*d-y:=by
 obtain ⟨h1,h2,h3,h4,h5,h6⟩:=hr
 have c1:=Ze (f:=r.xl) (d:=d) (by omega) hd.1
 have c2:=Ze (f:=r.xh) (d:=d) (by omega) hd.1
 have c3:=Ze (f:=r.yl) (d:=d) (by omega) hd.1
 have c4:=Ze (f:=r.yh) (d:=d) (by omega) hd.1
 unfold Rc.has
 rw [W_eq (n:=r.xl*d) (by omega) (by omega),W_eq (n:=r.xh*d) (by omega) (by omega),W_eq (n:=r.yl*d) (by omega) (by omega),W_eq (n:=r.yh*d) (by omega) (by omega),Qf,within_iff,within_iff]
 omega
theorem Zcs {r:Rc} (hr:RcOk r) {x y d:Int} (hd:0<d/\d<=1000000000000000):r.holds x y d=true↔0<x-r.xl*d/\0<r.xh*d-x/\0<y-r.yl*d/\0<r.yh*d-y:=by
 obtain ⟨h1,h2,h3,h4,h5,h6⟩:=hr
 have c1:=Ze (f:=r.xl) (d:=d) (by omega) hd.1
 have c2:=Ze (f:=r.xh) (d:=d) (by omega) hd.1
 have c3:=Ze (f:=r.yl) (d:=d) (by omega) hd.1
 have c4:=Ze (f:=r.yh) (d:=d) (by omega) hd.1
 unfold Rc.holds
 rw [W_eq (n:=r.xl*d) (by omega) (by omega),W_eq (n:=r.xh*d) (by omega) (by omega),W_eq (n:=r.yl*d) (by omega) (by omega),W_eq (n:=r.yh*d) (by omega) (by omega)]
 simp only [Qf,decide_eq_true_eq]
 omega
structure PtR (p:Pt):Prop where
 d0:0<p.d
 d1:p.d<=100000
 x : -(5000*p.d)<=p.x/\p.x<=5000*p.d
 y : -(5000*p.d)<=p.y/\p.y<=5000*p.d
theorem PtR.ok {p:Pt} (h:PtR p):PtOk p.x p.y p.d:=by
 obtain ⟨h1,h2,h3,h4⟩:=h
 exact ⟨h1,by omega,by omega,by omega⟩
def Pt.pl (p:Pt):P2d:=⟨p.x,p.y,p.d⟩
def cmpQ (n d m k:Int):Int:=sgn (n*k-m*d)
def Zr8 (l:Ln) (a b:Pt):Bool :=
  if l.beside a=0/\l.beside b=0 then
    (if cmpQ (l.along a) a.d (l.along b) b.d=0 then within (l.along a) 0 (Qa Qb (l.full*a.d))
     else if cmpQ (l.along a) a.d (l.along b) b.d<0 then decide (0<l.along b)&&decide (l.along a<Qa Qb (l.full*a.d))
     else decide (0<l.along a)&&decide (l.along b<Qa Qb (l.full*b.d)))
  else if 0<=Qa Qb (sgn (l.beside a)*sgn (l.beside b)) then false
  else if IntKind.i64.wrap (Qa Qb (l.beside b*a.d)-Qa Qb (l.beside a*b.d))<0 then
    decide (0<=Qa Qb (0-Qa Qb (Qa Qb (l.along a*l.beside b)-Qa Qb (l.along b*l.beside a))))&&decide (cmpQ (Qa Qb (0-Qa Qb (Qa Qb (l.along a*l.beside b)-Qa Qb (l.along b*l.beside a)))) (Qa Qb (0-Qa Qb (Qa Qb (l.beside b*a.d)-Qa Qb (l.beside a*b.d)))) l.full 1<=0)
  else decide (0<=Qa Qb (Qa Qb (l.along a*l.beside b)-Qa Qb (l.along b*l.beside a)))&&decide (cmpQ (Qa Qb (Qa Qb (l.along a*l.beside b)-Qa Qb (l.along b*l.beside a))) (Qa Qb (Qa Qb (l.beside b*a.d)-Qa Qb (l.beside a*b.d))) l.full 1<=0)
theorem Zy0 {w:Wl} {n sx sy:Int} (h:Str w n sx sy) {p:Pt} (hp:PtR p):(-2000000000<=bsP w sx sy p.pl/\bsP w sx sy p.pl<=2000000000)/\(-2000000000<=alP w sx sy p.pl/\alP w sx sy p.pl<=2000000000):=by
 have a1:=Ze h.b1 hp.d0
 have a2:=Ze h.b2 hp.d0
 have a3:=hp.d1
 have a4:=hp.x
 have a5:=hp.y
 unfold bsP alP bes alo Pt.pl
 dsimp only
 generalize w.fx*p.d=A at *
 generalize w.fy*p.d=C at *
 rcases h.hx with rfl|rfl|rfl<;>rcases h.hy with rfl|rfl|rfl<;>omega
theorem Zym {w:Wl} {n sx sy:Int} (h:Str w n sx sy):0<ful n sx sy/\ful n sx sy<=20000:=by
 refine ⟨Yaj h,?_⟩
 have:=h.nle
 have:=h.hn
 unfold ful
 rcases h.hx with rfl|rfl|rfl<;>rcases h.hy with rfl|rfl|rfl<;>omega
theorem Zzw {w:Wl} {n sx sy:Int} (h:Str w n sx sy) {p q:Pt} (hp:PtR p) (hq:PtR q):Zr8 w.ln p q=true↔Vj w n sx sy p.pl q.pl:=by
 have ep:w.ln.beside p=bsP w sx sy p.pl:=Ud (z:=p.z) h hp.ok
 have eq:w.ln.beside q=bsP w sx sy q.pl:=Ud (z:=q.z) h hq.ok
 have ap:w.ln.along p=alP w sx sy p.pl:=Zew (z:=p.z) h hp.ok
 have aq:w.ln.along q=alP w sx sy q.pl:=Zew (z:=q.z) h hq.ok
 have ef:w.ln.full=ful n sx sy:=Zjv h
 obtain ⟨b1,b2⟩:=Zy0 h hp
 obtain ⟨b3,b4⟩:=Zy0 h hq
 obtain ⟨f1,f2⟩:=Zym h
 have dp:=hp.d0
 have dp1:=hp.d1
 have dq:=hq.d0
 have dq1:=hq.d1
 have F1:=Zm (a:=ful n sx sy) (b:=p.d) (A:=20000) (B:=100000) (by omega) (by omega)
 have F2:=Zm (a:=ful n sx sy) (b:=q.d) (A:=20000) (B:=100000) (by omega) (by omega)
 have P1:=Ra f1 dp
 have P2:=Ra f1 dq
 unfold Zr8
 rw [ep,eq,ap,aq,ef]
 by_cases h0:bsP w sx sy p.pl=0/\bsP w sx sy q.pl=0
 ·rw [if_pos h0,Zim h h0.1 h0.2]
  rw [W_eq (n:=ful n sx sy*p.d) (by omega) (by omega),W_eq (n:=ful n sx sy*q.d) (by omega) (by omega)]
  unfold cmpQ
  show _↔spans _ _ (ful n sx sy*p.d-_) (ful n sx sy*q.d-_)
  have key:alP w sx sy p.pl*(ful n sx sy*q.d-alP w sx sy q.pl)-alP w sx sy q.pl*(ful n sx sy*p.d-alP w sx sy p.pl)=ful n sx sy*(alP w sx sy p.pl*q.d-alP w sx sy q.pl*p.d):=by grind
  generalize alP w sx sy p.pl=a at *
  generalize alP w sx sy q.pl=b at *
  by_cases c1:sgn (a*q.d-b*p.d)=0
  ·rw [if_pos c1,within_iff]
   rw [Xt] at c1
   rw [c1] at key
   rw [Zvk (by omega) (by omega) (by omega)]
   omega
  ·rw [if_neg c1]
   by_cases c2:sgn (a*q.d-b*p.d)<0
   ·rw [if_pos c2,Qf,decide_eq_true_eq,decide_eq_true_eq]
    rw [sgn_neg_iff,<-Zd9 f1] at c2
    rw [Zoa (by omega) (by omega) (by omega)]
    omega
   ·rw [if_neg c2,Qf,decide_eq_true_eq,decide_eq_true_eq]
    have c3:0<a*q.d-b*p.d:=by
     rw [<-Yw]; omega
    rw [<-Zb9 f1] at c3
    rw [Zja (by omega) (by omega) (by omega)]
    omega
 ·rw [if_neg h0,Zfi]
  by_cases h1:0<=sgn (bsP w sx sy p.pl)*sgn (bsP w sx sy q.pl)
  ·rw [if_pos h1]
   exact ⟨fun h=>by simp at h,fun h=>absurd h (Zil h0 h1)⟩
  ·rw [if_neg h1]
   have h2:=sgn_mul_neg.1 (show sgn (bsP w sx sy p.pl)*sgn (bsP w sx sy q.pl)<0 by omega)
   generalize hf:bsP w sx sy p.pl=f at *
   generalize hg:bsP w sx sy q.pl=g at *
   have m1:=Zm (a:=alP w sx sy p.pl) (b:=g) (A:=2000000000) (B:=2000000000) (by omega) (by omega)
   have m2:=Zm (a:=alP w sx sy q.pl) (b:=f) (A:=2000000000) (B:=2000000000) (by omega) (by omega)
   have m3:=Zm (a:=g) (b:=p.d) (A:=2000000000) (B:=100000) (by omega) (by omega)
   have m4:=Zm (a:=f) (b:=q.d) (A:=2000000000) (B:=100000) (by omega) (by omega)
   rw [W_eq (n:=alP w sx sy p.pl*g) (by omega) (by omega),W_eq (n:=alP w sx sy q.pl*f) (by omega) (by omega),W_eq (n:=g*p.d) (by omega) (by omega),W_eq (n:=f*q.d) (by omega) (by omega)]
   rw [W_eq (n:=alP w sx sy p.pl*g-alP w sx sy q.pl*f) (by omega) (by omega),W_eq (n:=g*p.d-f*q.d) (by omega) (by omega)]
   rcases h2 with h2|h2
   ·have k1:=(Zb9 dp).2 h2.2
    have k2:=(Zd9 dq).2 h2.1
    rw [if_neg (by rw [Rr g,Rr f]; omega),Zbn hf hg h2,Qf,decide_eq_true_eq,decide_eq_true_eq]
    unfold cmpQ
    rw [Zrn,Rs,Rr (alP w sx sy p.pl),Rr (alP w sx sy q.pl)]
    show _↔_/\_<=ful n sx sy*(g*p.d-f*q.d)
    omega
   ·have k1:=(Zd9 dp).2 h2.2
    have k2:=(Zb9 dq).2 h2.1
    rw [if_pos (by rw [Rr g,Rr f]; omega),Zik,Zbn hg hf (by omega),Qf,decide_eq_true_eq,decide_eq_true_eq]
    rw [W_eq (n:=0-(alP w sx sy p.pl*g-alP w sx sy q.pl*f)) (by omega) (by omega),W_eq (n:=0-(g*p.d-f*q.d)) (by omega) (by omega)]
    unfold cmpQ
    rw [Zrn,Rs,Rr (alP w sx sy p.pl),Rr (alP w sx sy q.pl),Int.zero_sub (g*p.d-f*q.d),Int.neg_sub]
    show _↔_/\_<=ful n sx sy*(f*q.d-g*p.d)
    omega
def Zmo (p q:Pt):Int:=Qa Qb (Qa Qb (q.x*p.d)-Qa Qb (p.x*q.d))
def Zmn (p q:Pt):Int:=Qa Qb (Qa Qb (q.y*p.d)-Qa Qb (p.y*q.d))
def cmpP (a b c d:Int):Int:=sgn (a*b-c*d)
def Ze0 (p q:Pt) (x y:Int):Int:=cmpP (Zmo p q) (Qa Qb (Qa Qb (y*p.d)-p.y)) (Zmn p q) (Qa Qb (Qa Qb (x*p.d)-p.x))
def ovl (fr den to oth a b:Int):Bool:=decide (imin (Qa Qb (fr*oth)) (Qa Qb (to*den))<Qa Qb (Qa Qb (imax a b*den)*oth))&&decide (Qa Qb (Qa Qb (imin a b*den)*oth)<imax (Qa Qb (fr*oth)) (Qa Qb (to*den)))
def touP (p q:Pt) (w:Wl):Bool :=
 if Zmo p q=0/\Zmn p q=0 then w.has p.x p.y p.d
 else if w.side p.x p.y p.d=0/\w.side q.x q.y q.d=0 then (if w.fx=w.tx then ovl p.y p.d q.y q.d w.fy w.ty else ovl p.x p.d q.x q.d w.fx w.tx)
 else if 0<=Qa Qb (w.side p.x p.y p.d*w.side q.x q.y q.d) then false
 else decide (Qa Qb (Ze0 p q w.fx w.fy*Ze0 p q w.tx w.ty)<=0)
theorem Zxj {p q:Pt} (hp:PtR p) (hq:PtR q):Zmo p q=q.x*p.d-p.x*q.d/\Zmn p q=q.y*p.d-p.y*q.d:=by
 obtain ⟨a1,a2,a3,a4⟩:=hp
 obtain ⟨b1,b2,b3,b4⟩:=hq
 have m1:=Zm (a:=q.x) (b:=p.d) (A:=500000000) (B:=100000) (by omega) (by omega)
 have m2:=Zm (a:=p.x) (b:=q.d) (A:=500000000) (B:=100000) (by omega) (by omega)
 have m3:=Zm (a:=q.y) (b:=p.d) (A:=500000000) (B:=100000) (by omega) (by omega)
 have m4:=Zm (a:=p.y) (b:=q.d) (A:=500000000) (B:=100000) (by omega) (by omega)
 unfold Zmo Zmn
 rw [W_eq (n:=q.x*p.d) (by omega) (by omega),W_eq (n:=p.x*q.d) (by omega) (by omega),W_eq (n:=q.y*p.d) (by omega) (by omega),W_eq (n:=p.y*q.d) (by omega) (by omega)]
 exact ⟨W_eq (by omega) (by omega),W_eq (by omega) (by omega)⟩
theorem Zh7 {p q:Pt} (hp:PtR p) (hq:PtR q) {x y:Int} (hx : -5000<=x/\x<=5000) (hy : -5000<=y/\y<=5000):Ze0 p q x y=sgn ((q.x*p.d-p.x*q.d)*(y*p.d-p.y)-(q.y*p.d-p.y*q.d)*(x*p.d-p.x)):=by
 obtain ⟨e1,e2⟩:=Zxj hp hq
 obtain ⟨a1,a2,a3,a4⟩:=hp
 have c1:=Ze hx a1
 have c2:=Ze hy a1
 unfold Ze0 cmpP
 rw [e1,e2,W_eq (n:=y*p.d) (by omega) (by omega),W_eq (n:=x*p.d) (by omega) (by omega),W_eq (n:=y*p.d-p.y) (by omega) (by omega),W_eq (n:=x*p.d-p.x) (by omega) (by omega)]
theorem Zr3 {x d x' d' fx n e s:Int} (he:e=1\/e = -1) (hn:0<n/\n<=10000) (hs:0<s) (hd:0<d/\d<=100000) (hd' : 0<d'/\d'<=100000) (hx : -(5000*d)<=x/\x<=5000*d) (hx' : -(5000*d')<=x'/\x'<=5000*d') (hf : -5000<=fx/\fx<=5000) (ht : -5000<=fx+n*e/\fx+n*e<=5000) (hne:x'*d-x*d'≠0) :
  ovl x d x' d' fx (fx+n*e)=true↔spans (s*(e*(x-fx*d))) (s*(e*(x'-fx*d'))) (n*s*d-s*(e*(x-fx*d))) (n*s*d'-s*(e*(x'-fx*d'))):=by
 have m1:=Zm (a:=x) (b:=d') (A:=500000000) (B:=100000) (by omega) (by omega)
 have m2:=Zm (a:=x') (b:=d) (A:=500000000) (B:=100000) (by omega) (by omega)
 have c1:=Ze hf hd.1
 have c2:=Ze ht hd.1
 have m3:=Zm (a:=fx*d) (b:=d') (A:=500000000) (B:=100000) (by omega) (by omega)
 have m4:=Zm (a:=(fx+n*e)*d) (b:=d') (A:=500000000) (B:=100000) (by omega) (by omega)
 unfold ovl
 rw [Zch,Zch,Zci,Zci,Zas hd.1,Zat hd.1]
 rw [W_eq (n:=x*d') (by omega) (by omega),W_eq (n:=x'*d) (by omega) (by omega),W_eq (n:=min (fx*d) ((fx+n*e)*d)) (by omega) (by omega),W_eq (n:=max (fx*d) ((fx+n*e)*d)) (by omega) (by omega)]
 rw [Zas hd'.1,Zat hd'.1,W_eq (n:=min (fx*d*d') ((fx+n*e)*d*d')) (by omega) (by omega),W_eq (n:=max (fx*d*d') ((fx+n*e)*d*d')) (by omega) (by omega)]
 rw [Qf,decide_eq_true_eq,decide_eq_true_eq]
 have eT:(fx+n*e)*d*d'=fx*d*d'+e*(n*d*d'):=by grind
 rw [eT]
 have hT:0<n*d*d':=Ra (Ra hn.1 hd.1) hd'.1
 have hsn:0<s*n:=Ra hs hn.1
 have g1:0<s*(e*(x-fx*d))+(n*s*d-s*(e*(x-fx*d))):=by
  have:s*(e*(x-fx*d))+(n*s*d-s*(e*(x-fx*d)))=s*n*d:=by grind
  rw [this]; exact Ra hsn hd.1
 have g2:0<s*(e*(x'-fx*d'))+(n*s*d'-s*(e*(x'-fx*d'))):=by
  have:s*(e*(x'-fx*d'))+(n*s*d'-s*(e*(x'-fx*d')))=s*n*d':=by grind
  rw [this]; exact Ra hsn hd'.1
 have key:s*(e*(x-fx*d))*(n*s*d'-s*(e*(x'-fx*d')))-s*(e*(x'-fx*d'))*(n*s*d-s*(e*(x-fx*d)))=s*(s*n)*(e*(x*d'-x'*d)):=by grind
 have hss:0<s*(s*n):=Ra hs hsn
 have p1:∀ v:Int,0<v↔0<v*d':=fun v=>by rw [Rr]; exact (Zb9 hd'.1).symm
 have p2:∀ v:Int,0<v↔0<v*d:=fun v=>by rw [Rr]; exact (Zb9 hd.1).symm
 have q1:n*s*d-s*(e*(x-fx*d))=s*(n*d-e*(x-fx*d)):=by grind
 have q2:n*s*d'-s*(e*(x'-fx*d'))=s*(n*d'-e*(x'-fx*d')):=by grind
 have r1:(e*(x-fx*d))*d'=e*(x*d'-fx*d*d'):=by grind
 have r2:(e*(x'-fx*d'))*d=e*(x'*d-fx*d*d'):=by grind
 have r3:(n*d-e*(x-fx*d))*d'=n*d*d'-e*(x*d'-fx*d*d'):=by grind
 have r4:(n*d'-e*(x'-fx*d'))*d=n*d*d'-e*(x'*d-fx*d*d'):=by grind
 by_cases hc:0<e*(x*d'-x'*d)
 ·have:=(Zb9 hss).2 hc
  rw [Zja g1 g2 (by omega),Zb9 hs,q2,Zb9 hs,p1,p2 (n*d'-_),r1,r4]
  clear key g1 g2 q1 q2 r1 r2 r3 r4 eT
  generalize x*d'=U at *
  generalize x'*d=V at *
  generalize fx*d*d'=B at *
  generalize n*d*d'=T at *
  rcases he with rfl|rfl<;>omega
 ·have hc2:e*(x*d'-x'*d)<0:=by rcases he with rfl|rfl<;>omega
  have:=(Zd9 hss).2 hc2
  rw [Zoa g1 g2 (by omega),Zb9 hs,q1,Zb9 hs,p2,p1 (n*d-_),r2,r3]
  clear key g1 g2 q1 q2 r1 r2 r3 r4 eT
  generalize x*d'=U at *
  generalize x'*d=V at *
  generalize fx*d*d'=B at *
  generalize n*d*d'=T at *
  rcases he with rfl|rfl<;>omega
theorem Zcq {w:Wl} {n sx sy:Int} (h:Str w n sx sy) {p q:Pt} (hp:PtR p) (hq:PtR q):touP p q w=true↔Vj w n sx sy p.pl q.pl:=by
 obtain ⟨e1,e2⟩:=Zxj hp hq
 have s1:w.side p.x p.y p.d=sgn (bsP w sx sy p.pl):=Yj h hp.ok
 have s2:w.side q.x q.y q.d=sgn (bsP w sx sy q.pl):=Yj h hq.ok
 have t1:=Zh7 hp hq h.b1 h.b2
 have t2:=Zh7 hp hq h.b3 h.b4
 have dp:=hp.d0
 have dq:=hq.d0
 have hn:=h.hn
 have hxy:=h.hxy
 obtain ⟨f1,f2⟩:=Zym h
 have D1:bsP w sx sy q.pl*p.d-bsP w sx sy p.pl*q.d=sx*(q.y*p.d-p.y*q.d)-sy*(q.x*p.d-p.x*q.d):=by unfold bsP bes Pt.pl; dsimp only; grind
 have D2:alP w sx sy q.pl*p.d-alP w sx sy p.pl*q.d=sx*(q.x*p.d-p.x*q.d)+sy*(q.y*p.d-p.y*q.d):=by unfold alP alo Pt.pl; dsimp only; grind
 unfold touP
 rw [e1,e2]
 by_cases h0:q.x*p.d-p.x*q.d=0/\q.y*p.d-p.y*q.d=0
 ·rw [if_pos h0,Xe h hp.ok]
  rw [h0.1,h0.2] at D1 D2
  unfold onW Vj
  show bsP w sx sy p.pl=0/\0<=alP w sx sy p.pl/\alP w sx sy p.pl<=ful n sx sy*p.d↔_
  show _↔∃ l m:Int,0<l/\0<m/\_/\_/\_<=ful n sx sy*(l*p.d+m*q.d)
  generalize bsP w sx sy p.pl=f at *
  generalize bsP w sx sy q.pl=g at *
  generalize alP w sx sy p.pl=a at *
  generalize alP w sx sy q.pl=b at *
  generalize ful n sx sy=F at *
  have D1:g*p.d=f*q.d:=by omega
  have D2:b*p.d=a*q.d:=by omega
  constructor
  ·rintro ⟨h1,h2,h3⟩
   refine ⟨1,1,by omega,by omega,?_,?_,?_⟩
   ·rw [h1] at D1
    have:g*p.d=0:=by omega
    rcases Wp.1 this with k|k<;>omega
   ·have:0<=p.d*b:=by rw [Rr,D2]; exact Qu h2 (by omega)
    have:=(nn_l dp).1 this
    omega
   ·have:p.d*(F*q.d-b)=q.d*(F*p.d-a):=by grind
    have k:=Qu (show 0<=q.d by omega) (show 0<=F*p.d-a by omega)
    rw [<-this] at k
    have k:=(nn_l dp).1 k
    have:F*(1*p.d+1*q.d)=F*p.d+F*q.d:=by grind
    omega
  ·rintro ⟨l,m,hl,hm,k1,k2,k3⟩
   have hz:0<l*p.d+m*q.d:=by have:=Ra hl dp; have:=Ra hm dq; omega
   refine ⟨?_,?_,?_⟩
   ·have:(l*p.d+m*q.d)*f=p.d*(l*f+m*g):=by grind
    rw [k1,Sp] at this
    rcases Wp.1 this with k|k<;>omega
   ·have:(l*p.d+m*q.d)*a=p.d*(l*a+m*b):=by grind
    have k:=Qu (show 0<=p.d by omega) k2
    rw [<-this] at k
    exact (nn_l hz).1 k
   ·have:(l*p.d+m*q.d)*(F*p.d-a)=p.d*(F*(l*p.d+m*q.d)-(l*a+m*b)):=by grind
    have k:=Qu (show 0<=p.d by omega) (show 0<=F*(l*p.d+m*q.d)-(l*a+m*b) by omega)
    rw [<-this] at k
    have:=(nn_l hz).1 k
    omega
 ·rw [if_neg h0,s1,s2]
  by_cases h1:bsP w sx sy p.pl=0/\bsP w sx sy q.pl=0
  ·rw [if_pos (by rw [Xt,Xt]; exact h1),Zim h h1.1 h1.2]
   rw [h1.1,h1.2] at D1
   have hnn:=h.nle
   show _↔spans _ _ (ful n sx sy*p.d-_) (ful n sx sy*q.d-_)
   obtain ⟨z1,z2⟩:=h1
   have b1:=h.b1
   have b2:=h.b2
   have b3:=h.b3
   have b4:=h.b4
   have etx:=h.tx
   have ety:=h.ty
   rw [etx] at b3
   rw [ety] at b4
   by_cases hs:sx=0
   ·subst hs
    rw [if_pos (by rw [etx]; omega)]
    have hy:sy=1\/sy = -1:=by have:=h.hy; omega
    have k:=Zr3 (s:=1) (e:=sy) (x:=p.y) (d:=p.d) (x':=q.y) (d':=q.d) hy ⟨hn,hnn⟩ (by omega) ⟨dp,hp.d1⟩ ⟨dq,hq.d1⟩ hp.y hq.y b2 b4 (by
     rcases hy with rfl|rfl<;>omega)
    rw [<-ety] at k
    rw [k]
    have v1:alP w 0 sy p.pl=1*(sy*(p.y-w.fy*p.d)):=by unfold alP alo Pt.pl; dsimp only; grind
    have v2:alP w 0 sy q.pl=1*(sy*(q.y-w.fy*q.d)):=by unfold alP alo Pt.pl; dsimp only; grind
    have v3:ful n 0 sy=n*1:=by unfold ful; rcases hy with rfl|rfl<;>rfl
    rw [v1,v2,v3]
   ·have hx:sx=1\/sx = -1:=by have:=h.hx; omega
    rw [if_neg (by rw [etx]; rcases hx with rfl|rfl<;>omega)]
    have hsx:sx*sx=1:=by rcases hx with rfl|rfl<;>rfl
    have hS:0<1+sy*sy:=by rcases h.hy with rfl|rfl|rfl<;>decide
    have k:=Zr3 (s:=1+sy*sy) (e:=sx) (x:=p.x) (d:=p.d) (x':=q.x) (d':=q.d) hx ⟨hn,hnn⟩ hS ⟨dp,hp.d1⟩ ⟨dq,hq.d1⟩ hp.x hq.x b1 b3 (by
     intro hz
     refine h0 ⟨hz,?_⟩
     rw [hz] at D1
     rcases hx with rfl|rfl<;>omega)
    rw [<-etx] at k
    rw [k]
    have w1:sx*(p.y-w.fy*p.d)=sy*(p.x-w.fx*p.d):=by unfold bsP bes Pt.pl at z1; dsimp only at z1; omega
    have w2:sx*(q.y-w.fy*q.d)=sy*(q.x-w.fx*q.d):=by unfold bsP bes Pt.pl at z2; dsimp only at z2; omega
    have v1:alP w sx sy p.pl=(1+sy*sy)*(sx*(p.x-w.fx*p.d)):=by
     unfold alP alo Pt.pl; dsimp only
     generalize p.x-w.fx*p.d=u at *
     generalize p.y-w.fy*p.d=v at *
     have:v=sx*(sy*u):=by rw [<-w1,<-Sk,hsx,Sn]
     rw [this]; grind
    have v2:alP w sx sy q.pl=(1+sy*sy)*(sx*(q.x-w.fx*q.d)):=by
     unfold alP alo Pt.pl; dsimp only
     generalize q.x-w.fx*q.d=u at *
     generalize q.y-w.fy*q.d=v at *
     have:v=sx*(sy*u):=by rw [<-w2,<-Sk,hsx,Sn]
     rw [this]; grind
    have v3:ful n sx sy=n*(1+sy*sy):=by unfold ful; rw [hsx]
    rw [v1,v2,v3]
  ·rw [if_neg (by rw [Xt,Xt]; exact h1),Zfi]
   by_cases h2:0<=sgn (bsP w sx sy p.pl)*sgn (bsP w sx sy q.pl)
   ·rw [if_pos h2]
    exact ⟨fun h=>by simp at h,fun h=>absurd h (Zil h1 h2)⟩
   ·rw [if_neg h2,t1,t2,Zfi,decide_eq_true_eq]
    have h3:=sgn_mul_neg.1 (show sgn (bsP w sx sy p.pl)*sgn (bsP w sx sy q.pl)<0 by omega)
    have K1:(q.x*p.d-p.x*q.d)*(w.fy*p.d-p.y)-(q.y*p.d-p.y*q.d)*(w.fx*p.d-p.x)=p.d*((p.x-w.fx*p.d)*(q.y-w.fy*q.d)-(q.x-w.fx*q.d)*(p.y-w.fy*p.d)):=by grind
    have K2:(q.x*p.d-p.x*q.d)*(w.ty*p.d-p.y)-(q.y*p.d-p.y*q.d)*(w.tx*p.d-p.x)=p.d*((p.x-w.fx*p.d)*(q.y-w.fy*q.d)-(q.x-w.fx*q.d)*(p.y-w.fy*p.d)-n*(bsP w sx sy q.pl*p.d-bsP w sx sy p.pl*q.d)):=by
     rw [h.tx,h.ty]; unfold bsP bes Pt.pl; dsimp only; grind
    rw [K1,K2,Zmv dp,Zmv dp,Zp4]
    have K3:bsP w sx sy q.pl*alP w sx sy p.pl-bsP w sx sy p.pl*alP w sx sy q.pl=(sx*sx+sy*sy)*((p.x-w.fx*p.d)*(q.y-w.fy*q.d)-(q.x-w.fx*q.d)*(p.y-w.fy*p.d)):=by
     unfold bsP bes alP alo Pt.pl; dsimp only; grind
    have hS:0<sx*sx+sy*sy:=by rcases h.hx with rfl|rfl|rfl<;>rcases h.hy with rfl|rfl|rfl<;>(try (exact absurd ⟨rfl,rfl⟩ hxy))<;>decide
    generalize (p.x-w.fx*p.d)*(q.y-w.fy*q.d)-(q.x-w.fx*q.d)*(p.y-w.fy*p.d)=K at *
    have e3:ful n sx sy=(sx*sx+sy*sy)*n:=by unfold ful; rw [Rr]
    generalize sx*sx+sy*sy=S at *
    generalize hf:bsP w sx sy p.pl=f at *
    generalize hg:bsP w sx sy q.pl=g at *
    rcases h3 with h3|h3
    ·have k1:=(Zb9 dp).2 h3.2
     have k2:=(Zd9 dq).2 h3.1
     have hD:0<n*(g*p.d-f*q.d):=(Zb9 hn).2 (by rw [Rr g,Rr f]; omega)
     rw [Zbn hf hg h3,K3,e3]
     show _↔_/\_<=S*n*(g*p.d-f*q.d)
     rw [nn_l hS,Sk S n]
     have:S*K<=S*(n*(g*p.d-f*q.d))↔K<=n*(g*p.d-f*q.d):=by rw [Rr S,Rr S]; exact Zop hS
     rw [this]
     omega
    ·have k1:=(Zd9 dp).2 h3.2
     have k2:=(Zb9 dq).2 h3.1
     have hD:n*(g*p.d-f*q.d)<0:=(Zd9 hn).2 (by rw [Rr g,Rr f]; omega)
     have K4:f*alP w sx sy q.pl-g*alP w sx sy p.pl=S * -K:=by rw [Sj,<-K3]; omega
     rw [Zik,Zbn hg hf (by omega),K4,e3]
     show _↔_/\_<=S*n*(f*q.d-g*p.d)
     have e4:n*(f*q.d-g*p.d) = -(n*(g*p.d-f*q.d)):=by rw [<-Sj,Int.neg_sub]
     rw [nn_l hS,Sk S n,e4]
     have:S * -K<=S * -(n*(g*p.d-f*q.d)) ↔ -K <= -(n*(g*p.d-f*q.d)):=by rw [Rr S,Rr S]; exact Zop hS
     rw [this]
     omega
def crV (N M:P2d) (D x y:Int):Int:=(M.x-N.x)*(y*D-N.y)-(M.y-N.y)*(x*D-N.x)
def tch (N M:P2d) (D ax ay bx by' : Int):Prop:=∃ s t l m:Int,0<=s/\0<=t/\0<s+t/\0<=l/\0<=m/\0<l+m/\(l*N.x+m*M.x)*(s+t)=(l+m)*(D*(s*ax+t*bx))/\(l*N.y+m*M.y)*(s+t)=(l+m)*(D*(s*ay+t*by'))
theorem Zve {N M:P2d} {D ax ay bx by' : Int} (h:tch N M D ax ay bx by'):tch N M D bx by' ax ay:=by
 obtain ⟨s,t,l,m,h1,h2,h3,h4,h5,h6,h7,h8⟩:=h
 exact ⟨t,s,l,m,h2,h1,by omega,h4,h5,h6,by rw [Wb t s,Wb (t*bx)]; exact h7,by rw [Wb t s,Wb (t*by')]; exact h8⟩
theorem Zvd {N M:P2d} {D ax ay bx by' : Int} (h:tch N M D ax ay bx by'):tch M N D ax ay bx by':=by
 obtain ⟨s,t,l,m,h1,h2,h3,h4,h5,h6,h7,h8⟩:=h
 exact ⟨s,t,m,l,h1,h2,h3,h5,h4,by omega,by rw [Wb m l,Wb (m*M.x)]; exact h7,by rw [Wb m l,Wb (m*M.y)]; exact h8⟩
theorem Ybv {N M:P2d} {D ax ay bx by' : Int} (hy:N.y<M.y) {s t:Int} (hs:0<=s) (ht:0<=t) (hw:0<s+t) (h1:N.y*(s+t)<=D*(s*ay+t*by')) (h2:D*(s*ay+t*by')<=M.y*(s+t)) (h0:s*crV N M D ax ay+t*crV N M D bx by'=0):tch N M D ax ay bx by':=by
 refine ⟨s,t,M.y*(s+t)-D*(s*ay+t*by'),D*(s*ay+t*by')-N.y*(s+t),hs,ht,hw,by omega,by omega,?_,?_,?_⟩
 ·have:(M.y-N.y)*(s+t)=M.y*(s+t)-N.y*(s+t):=Oa _ _ _
  have:=Ra (show 0<M.y-N.y by omega) hw
  omega
 ·unfold crV at h0
  grind
 ·grind
theorem Zzd {N M:P2d} {D ax ay bx by' : Int} (hy:N.y<M.y) {s t s' t' : Int} (hs:0<=s) (ht:0<=t) (hw:0<s+t) (hs' : 0<=s') (ht' : 0<=t') (hw' : 0<s'+t') (h1:N.y*(s+t)<=D*(s*ay+t*by')) (h2:D*(s*ay+t*by')<=M.y*(s+t))
  (h1' : N.y*(s'+t')<=D*(s'*ay+t'*by')) (h2' : D*(s'*ay+t'*by')<=M.y*(s'+t')) (c1:s*crV N M D ax ay+t*crV N M D bx by'<0) (c2:0<=s'*crV N M D ax ay+t'*crV N M D bx by'):tch N M D ax ay bx by':=by
 generalize hA:crV N M D ax ay=A at *
 generalize hB:crV N M D bx by'=B at *
 generalize hp:s*A+t*B=p at *
 generalize hq:s'*A+t'*B=q at *
 have k1:=Qu c2 hs
 have k2:=Qu c2 ht
 have k3:=Qu (show 0 <= -p by omega) hs'
 have k4:=Qu (show 0 <= -p by omega) ht'
 have k5:=Ra (show 0 < -p by omega) hw'
 have k6:=Qu c2 (Qx hw)
 have e0:q*s + -p*s'+(q*t + -p*t')=q*(s+t) + -p*(s'+t'):=by grind
 have eY:D*((q*s + -p*s')*ay+(q*t + -p*t')*by')=q*(D*(s*ay+t*by')) + -p*(D*(s'*ay+t'*by')):=by grind
 have i1:=Rd h1 c2
 have i2:=Rd h2 c2
 have i3:=Rd h1' (show 0 <= -p by omega)
 have i4:=Rd h2' (show 0 <= -p by omega)
 refine Ybv hy (s:=q*s + -p*s') (t:=q*t + -p*t') (by omega) (by omega) (by omega) ?_ ?_ ?_
 ·rw [e0,eY]
  have:N.y*(q*(s+t) + -p*(s'+t'))=q*(N.y*(s+t)) + -p*(N.y*(s'+t')):=by grind
  omega
 ·rw [e0,eY]
  have:M.y*(q*(s+t) + -p*(s'+t'))=q*(M.y*(s+t)) + -p*(M.y*(s'+t')):=by grind
  omega
 ·rw [hA,hB]
  have:(q*s + -p*s')*A+(q*t + -p*t')*B=q*(s*A+t*B) + -p*(s'*A+t'*B):=by grind
  rw [this,hp,hq]; grind
def detE (p:P2d) (D ax ay bx by' : Int):Int:=(bx-ax)*(p.y-ay*D)-(by'-ay)*(p.x-ax*D)
def upE (p:P2d) (D ax ay bx by' : Int):Prop:=ay*D<=p.y/\p.y<by'*D/\0<detE p D ax ay bx by'
def rgE (N M:P2d) (D x y:Int):Prop:=N.y<y*D/\y*D<=M.y/\crV N M D x y<0
theorem Ztn {N M:P2d} {D ax ay bx by' : Int} (hD:0<D) (hy:N.y<=M.y) (hab:ay<=by') (nt:¬ tch N M D ax ay bx by') :
  (upE N D ax ay bx by'↔upE M D ax ay bx by')↔(rgE N M D ax ay↔rgE N M D bx by'):=by
 have hm:ay*D<=by'*D:=Qk hab (Qx hD)
 by_cases hyy:N.y=M.y
 ·
  have r1:∀ x y,¬ rgE N M D x y:=by rintro x y ⟨a,b,_⟩; omega
  have key:upE N D ax ay bx by'↔upE M D ax ay bx by':=by
   by_cases hl:ay*D<=N.y/\N.y<by'*D
   ·have dd:detE N D ax ay bx by'-detE M D ax ay bx by'=(by'-ay)*(M.x-N.x):=by unfold detE; rw [hyy]; grind
    have hw:by'*D-ay*D=(by'-ay)*D:=by rw [Oa]
    have t1:∀ s,s=by'*D-N.y->∀ t,t=N.y-ay*D->D*(s*ax+t*bx)=N.x*((by'-ay)*D)+D*detE N D ax ay bx by':=by
     rintro s rfl t rfl; unfold detE; grind
    have t2:∀ s,s=by'*D-N.y->∀ t,t=N.y-ay*D->D*(s*ay+t*by')=N.y*((by'-ay)*D):=by
     rintro s rfl t rfl; grind
    unfold upE
    rw [<-hyy]
    constructor
    ·rintro ⟨h1,h2,h3⟩
     refine ⟨h1,h2,?_⟩
     by_cases h4:0<detE M D ax ay bx by'
     ·exact h4
     exfalso
     refine nt ⟨by'*D-N.y,N.y-ay*D,-detE M D ax ay bx by',detE N D ax ay bx by',by omega,by omega,by omega,by omega,by omega,by omega,?_,?_⟩
     ·rw [t1 _ rfl _ rfl,show by'*D-N.y+(N.y-ay*D)=(by'-ay)*D by omega]
      generalize detE N D ax ay bx by'=u at *
      generalize detE M D ax ay bx by'=v at *
      grind
     ·rw [t2 _ rfl _ rfl,show by'*D-N.y+(N.y-ay*D)=(by'-ay)*D by omega,<-hyy]
      generalize detE N D ax ay bx by'=u at *
      generalize detE M D ax ay bx by'=v at *
      grind
    ·rintro ⟨h1,h2,h3⟩
     refine ⟨h1,h2,?_⟩
     by_cases h4:0<detE N D ax ay bx by'
     ·exact h4
     exfalso
     refine nt ⟨by'*D-N.y,N.y-ay*D,detE M D ax ay bx by',-detE N D ax ay bx by',by omega,by omega,by omega,by omega,by omega,by omega,?_,?_⟩
     ·rw [t1 _ rfl _ rfl,show by'*D-N.y+(N.y-ay*D)=(by'-ay)*D by omega]
      generalize detE N D ax ay bx by'=u at *
      generalize detE M D ax ay bx by'=v at *
      grind
     ·rw [t2 _ rfl _ rfl,show by'*D-N.y+(N.y-ay*D)=(by'-ay)*D by omega,<-hyy]
      generalize detE N D ax ay bx by'=u at *
      generalize detE M D ax ay bx by'=v at *
      grind
   ·unfold upE
    rw [<-hyy]
    constructor<;>(rintro ⟨h1,h2,h3⟩; exact absurd ⟨h1,h2⟩ hl)
  exact ⟨fun _=>⟨fun h=>absurd h (r1 _ _),fun h=>absurd h (r1 _ _)⟩,fun _=>key⟩
 have hy:N.y<M.y:=by omega
 have lvl:∀ p:P2d,ay*D<=p.y->p.y<by'*D->0<=by'*D-p.y/\0<=p.y-ay*D/\0<(by'*D-p.y)+(p.y-ay*D)/\D*((by'*D-p.y)*ay+(p.y-ay*D)*by')=p.y*((by'*D-p.y)+(p.y-ay*D)):=by
  intro p h1 h2
  refine ⟨by omega,by omega,by omega,by grind⟩
 have crN:(by'*D-N.y)*crV N M D ax ay+(N.y-ay*D)*crV N M D bx by' = -((M.y-N.y)*D*detE N D ax ay bx by'):=by unfold crV detE; grind
 have crM:(by'*D-M.y)*crV N M D ax ay+(M.y-ay*D)*crV N M D bx by' = -((M.y-N.y)*D*detE M D ax ay bx by'):=by unfold crV detE; grind
 have hp:0<(M.y-N.y)*D:=Ra (by omega) hD
 have sN:∀ v,-((M.y-N.y)*D*v)<0↔0<v:=fun v=>by have:=Zb9 (a:=v) hp; omega
 have sN2:∀ v,0 <= -((M.y-N.y)*D*v)↔v<=0:=fun v=>by have:=np_l (a:=v) hp; omega
 have one:D*(1*ay+0*by')=ay*D/\D*(0*ay+1*by')=by'*D:=by constructor<;>grind
 have cA:1*crV N M D ax ay+0*crV N M D bx by'=crV N M D ax ay:=by omega
 have cB:0*crV N M D ax ay+1*crV N M D bx by'=crV N M D bx by':=by omega
 have two:=fun {s t s' t' : Int}=>@Zzd N M D ax ay bx by' hy s t s' t'
 by_cases a0:ay*D<=N.y
 ·by_cases b0:by'*D<=N.y
  ·unfold upE rgE; constructor<;>intro _<;>constructor<;>(rintro ⟨h1,h2,h3⟩; omega)
  obtain ⟨l1,l2,l3,l4⟩:=lvl N a0 (by omega)
  by_cases b1:by'*D<=M.y
  ·
   have key:0<detE N D ax ay bx by'↔crV N M D bx by'<0:=by
    constructor
    ·intro h
     by_cases hc:crV N M D bx by'<0
     ·exact hc
     exact absurd (two (s':=0) (t':=1) l1 l2 l3 (by omega) (by omega) (by omega) (by rw [l4]; omega) (by rw [l4]; exact Qk (Qx hy) (Qx l3)) (by rw [one.2]; omega) (by rw [one.2]; omega) (by rw [crN]; exact (sN _).2 h) (by rw [cB]; omega)) nt
    ·intro h
     by_cases hc:0<detE N D ax ay bx by'
     ·exact hc
     exact absurd (two (s:=0) (t:=1) (by omega) (by omega) (by omega) l1 l2 l3 (by rw [one.2]; omega) (by rw [one.2]; omega) (by rw [l4]; omega) (by rw [l4]; exact Qk (Qx hy) (Qx l3)) (by rw [cB]; exact h) (by rw [crN]; exact (sN2 _).2 (by omega))) nt
   unfold upE rgE
   rw [<-key]
   generalize detE N D ax ay bx by'=u at *
   constructor
   ·intro h
    constructor
    ·rintro ⟨h1,_,_⟩; omega
    ·rintro ⟨_,_,h3⟩
     have:=h.1 ⟨a0,by omega,h3⟩
     omega
   ·intro h
    constructor
    ·rintro ⟨_,_,h3⟩
     have:=h.2 ⟨by omega,b1,h3⟩
     omega
    ·rintro ⟨_,h2,_⟩; omega
  ·
   obtain ⟨m1,m2,m3,m4⟩:=lvl M (by omega) (by omega)
   have key:0<detE N D ax ay bx by'↔0<detE M D ax ay bx by':=by
    constructor
    ·intro h
     by_cases hc:0<detE M D ax ay bx by'
     ·exact hc
     exact absurd (two l1 l2 l3 m1 m2 m3 (by rw [l4]; omega) (by rw [l4]; exact Qk (Qx hy) (Qx l3)) (by rw [m4]; exact Qk (Qx hy) (Qx m3)) (by rw [m4]; omega) (by rw [crN]; exact (sN _).2 h) (by rw [crM]; exact (sN2 _).2 (by omega))) nt
    ·intro h
     by_cases hc:0<detE N D ax ay bx by'
     ·exact hc
     exact absurd (two m1 m2 m3 l1 l2 l3 (by rw [m4]; exact Qk (Qx hy) (Qx m3)) (by rw [m4]; omega) (by rw [l4]; omega) (by rw [l4]; exact Qk (Qx hy) (Qx l3)) (by rw [crM]; exact (sN _).2 h) (by rw [crN]; exact (sN2 _).2 (by omega))) nt
   unfold upE rgE
   rw [key]
   constructor
   ·intro _; constructor<;>(rintro ⟨h1,h2,h3⟩; omega)
   ·intro _
    constructor
    ·rintro ⟨_,_,h3⟩; exact ⟨by omega,by omega,h3⟩
    ·rintro ⟨_,_,h3⟩; exact ⟨by omega,by omega,h3⟩
 by_cases a1:ay*D<=M.y
 ·by_cases b1:by'*D<=M.y
  ·
   have key:crV N M D ax ay<0↔crV N M D bx by'<0:=by
    constructor
    ·intro h
     by_cases hc:crV N M D bx by'<0
     ·exact hc
     exact absurd (two (s:=1) (t:=0) (s':=0) (t':=1) (by omega) (by omega) (by omega) (by omega) (by omega) (by omega) (by rw [one.1]; omega) (by rw [one.1]; omega) (by rw [one.2]; omega) (by rw [one.2]; omega) (by rw [cA]; exact h) (by rw [cB]; omega)) nt
    ·intro h
     by_cases hc:crV N M D ax ay<0
     ·exact hc
     exact absurd (two (s:=0) (t:=1) (s':=1) (t':=0) (by omega) (by omega) (by omega) (by omega) (by omega) (by omega) (by rw [one.2]; omega) (by rw [one.2]; omega) (by rw [one.1]; omega) (by rw [one.1]; omega) (by rw [cB]; exact h) (by rw [cA]; omega)) nt
   unfold upE rgE
   rw [key]
   constructor
   ·intro _
    constructor
    ·rintro ⟨_,_,h3⟩; exact ⟨by omega,by omega,h3⟩
    ·rintro ⟨_,_,h3⟩; exact ⟨by omega,by omega,h3⟩
   ·intro _; constructor<;>(rintro ⟨h1,h2,h3⟩; omega)
  ·
   obtain ⟨m1,m2,m3,m4⟩:=lvl M a1 (by omega)
   have key:0<detE M D ax ay bx by'↔crV N M D ax ay<0:=by
    constructor
    ·intro h
     by_cases hc:crV N M D ax ay<0
     ·exact hc
     exact absurd (two (s':=1) (t':=0) m1 m2 m3 (by omega) (by omega) (by omega) (by rw [m4]; exact Qk (Qx hy) (Qx m3)) (by rw [m4]; omega) (by rw [one.1]; omega) (by rw [one.1]; omega) (by rw [crM]; exact (sN _).2 h) (by rw [cA]; omega)) nt
    ·intro h
     by_cases hc:0<detE M D ax ay bx by'
     ·exact hc
     exact absurd (two (s:=1) (t:=0) (by omega) (by omega) (by omega) m1 m2 m3 (by rw [one.1]; omega) (by rw [one.1]; omega) (by rw [m4]; exact Qk (Qx hy) (Qx m3)) (by rw [m4]; omega) (by rw [cA]; exact h) (by rw [crM]; exact (sN2 _).2 (by omega))) nt
   unfold upE rgE
   rw [<-key]
   generalize detE M D ax ay bx by'=u at *
   constructor
   ·intro h
    constructor
    ·rintro ⟨_,_,h3⟩
     have:=h.2 ⟨a1,by omega,h3⟩
     omega
    ·rintro ⟨_,h2,_⟩; omega
   ·intro h
    constructor
    ·rintro ⟨h1,_,_⟩; omega
    ·rintro ⟨_,_,h3⟩
     have:=h.1 ⟨by omega,a1,h3⟩
     omega
 ·unfold upE rgE; constructor<;>intro _<;>constructor<;>(rintro ⟨h1,h2,h3⟩; omega)
instance (p:P2d) (D ax ay bx by' : Int):Decidable (upE p D ax ay bx by'):=by unfold upE; exact inferInstance
instance (N M:P2d) (D x y:Int):Decidable (rgE N M D x y):=by unfold rgE; exact inferInstance
def flZ (p:P2d) (w:Wl):Bool:=if w.fy<=w.ty then decide (upE p p.d w.fx w.fy w.tx w.ty) else decide (upE p p.d w.tx w.ty w.fx w.fy)
theorem Ya0 {w:Wl} {n sx sy:Int} (h:Str w n sx sy) (p:P2d):detE p p.d w.fx w.fy w.tx w.ty=n*bsP w sx sy p/\detE p p.d w.tx w.ty w.fx w.fy = -(n*bsP w sx sy p):=by
 unfold detE bsP bes
 rw [h.tx,h.ty]
 constructor<;>grind
theorem Yan {w:Wl} {n sx sy x y d:Int} (h:Str w n sx sy) (hp:PtOk x y d):flips x y d w=flZ ⟨x,y,d⟩ w:=by
 have a2:=Ze h.b2 hp.hd
 have a4:=Ze h.b4 hp.hd
 have hD:=hp.hD
 have hd:=hp.hd
 obtain ⟨e1,e2⟩:=Ya0 h ⟨x,y,d⟩
 have hn:=h.hn
 unfold flips flZ
 rw [Yj h hp,W_eq (n:=w.fy*d) (by omega) (by omega),W_eq (n:=w.ty*d) (by omega) (by omega)]
 change detE ⟨x,y,d⟩ d w.fx w.fy w.tx w.ty=_ at e1
 change detE ⟨x,y,d⟩ d w.tx w.ty w.fx w.fy=_ at e2
 have p1:=Zb9 (a:=bsP w sx sy ⟨x,y,d⟩) hn
 have p2:=Zd9 (a:=bsP w sx sy ⟨x,y,d⟩) hn
 have es:bes w sx sy x y d=bsP w sx sy ⟨x,y,d⟩:=rfl
 rw [es]
 have u1:upE ⟨x,y,d⟩ d w.fx w.fy w.tx w.ty↔w.fy*d<=y/\y<w.ty*d/\0<n*bsP w sx sy ⟨x,y,d⟩:=by rw [<-e1]; exact Iff.rfl
 have u2:upE ⟨x,y,d⟩ d w.tx w.ty w.fx w.fy↔w.ty*d<=y/\y<w.fy*d/\0 < -(n*bsP w sx sy ⟨x,y,d⟩):=by rw [<-e2]; exact Iff.rfl
 show _=if w.fy<=w.ty then decide (upE ⟨x,y,d⟩ d w.fx w.fy w.tx w.ty) else decide (upE ⟨x,y,d⟩ d w.tx w.ty w.fx w.fy)
 by_cases hc:w.fy<=w.ty
 ·have hm:w.fy*d<=w.ty*d:=Qk hc (Qx hd)
  rw [if_pos hc,Sf]
  simp only [Qy,Qf,decide_eq_true_eq,Yw,sgn_neg_iff,u1]
  generalize bsP w sx sy ⟨x,y,d⟩=B at *
  omega
 ·have hm:w.ty*d<=w.fy*d:=Qk (by omega) (Qx hd)
  rw [if_neg hc,Sf]
  simp only [Qy,Qf,decide_eq_true_eq,Yw,sgn_neg_iff,u2]
  generalize bsP w sx sy ⟨x,y,d⟩=B at *
  omega
theorem Ztp {N M:P2d} {D:Int} (hN:N.d=D) (hM:M.d=D) (hD:0<D) (hy:N.y<=M.y) {w:Wl} (nt:¬ tch N M D w.fx w.fy w.tx w.ty):(flZ N w ^^ flZ M w)=(decide (rgE N M D w.fx w.fy) ^^ decide (rgE N M D w.tx w.ty)):=by
 unfold flZ
 rw [hN,hM]
 by_cases hc:w.fy<=w.ty
 ·rw [if_pos hc,if_pos hc]
  exact Zmm (Ztn hD hy hc nt)
 ·rw [if_neg hc,if_neg hc,Bool.xor_comm (decide (rgE N M D w.fx w.fy))]
  exact Zmm (Ztn hD hy (by omega) fun h=>nt (Zve h))
theorem Zu3 {N M:P2d} {D:Int} (hN:N.d=D) (hM:M.d=D) (hD:0<D) {cs:List (Int × Int)} (nt:∀ w∈wls cs,¬ tch N M D w.fx w.fy w.tx w.ty):xorL ((wls cs).map (flZ N))=xorL ((wls cs).map (flZ M)):=by
 have key:∀ N M:P2d,N.d=D->M.d=D->N.y<=M.y->(∀ w∈wls cs,¬ tch N M D w.fx w.fy w.tx w.ty)->(xorL ((wls cs).map (flZ N)) ^^ xorL ((wls cs).map (flZ M)))=false:=by
  intro N M h1 h2 hy h3
  rw [Zgd,<-tele (fun x y=>decide (rgE N M D x y)) cs]
  congr 1
  refine Pu fun w hw=>?_
  exact Ztp h1 h2 hD hy (h3 w hw)
 have fin:∀ a b:Bool,(a ^^ b)=false->a=b:=by decide
 rcases Mx N.y M.y with hy|hy
 ·exact fin _ _ (key N M hN hM hy nt)
 ·exact (fin _ _ (key M N hM hN hy fun w hw h=>nt w hw (Zvd h))).symm
theorem Zld {x y d:Int}:∀ (ws:List Wl) (b:Bool),inPl x y d b ws=true->(b ^^ xorL (ws.map (flips x y d)))=true
 | [],b,h=>by simpa [xorL,inPl] using h
 | w::ws,b,h=>by
  rw [inPl] at h
  split at h
  ·cases h
  ·have:=Zld ws _ h
   rw [Tg,show xorL (flips x y d w::ws.map (flips x y d))=(flips x y d w ^^ xorL (ws.map (flips x y d))) from rfl,<-Bool.xor_assoc]
   exact this
theorem Zh5 {α:Type} (f:α->Bool):∀ (l:List α),(∀ a∈l,f a=false)->xorL (l.map f)=false
 | [],_=>rfl
 | a::l,h=>by
  rw [Tg,show xorL (f a::l.map f)=(f a ^^ xorL (l.map f)) from rfl,h a (by simp),Zh5 f l fun b hb=>h b (by simp [hb])]
  rfl
theorem Yaq {w:Wl} {p:P2d} (hd:0<p.d) (h1 : -5000<=w.fy/\w.fy<=5000) (h2 : -5000<=w.ty/\w.ty<=5000) (hy:p.y < -(5000*p.d)\/5000*p.d<p.y):flZ p w=false:=by
 have a1:=Qk h1.1 (Qx hd)
 have a2:=Qk h1.2 (Qx hd)
 have a3:=Qk h2.1 (Qx hd)
 have a4:=Qk h2.2 (Qx hd)
 unfold flZ
 split
 ·rw [decide_eq_false]
  rintro ⟨b1,b2,_⟩
  omega
 ·rw [decide_eq_false]
  rintro ⟨b1,b2,_⟩
  omega
theorem Zze {N M:P2d} {D ax ay bx by' : Int} (hD:0<D) (hM:M.x=N.x) (h1 : -5000<=ax/\ax<=5000) (h2 : -5000<=bx/\bx<=5000) (hx:N.x < -(5000*D)\/5000*D<N.x):¬ tch N M D ax ay bx by':=by
 rintro ⟨s,t,l,m,hs,ht,hst,hl,hm,hlm,e,_⟩
 rw [hM,<-Int.add_mul,Sk] at e
 have e:=Int.eq_of_mul_eq_mul_left (by omega) e
 have a1:=Rd h1.1 hs
 have a2:=Rd h1.2 hs
 have a3:=Rd h2.1 ht
 have a4:=Rd h2.2 ht
 have b1:=Rd (show s*ax+t*bx<=5000*(s+t) by omega) (Qx hD)
 have b2:=Rd (show -5000*(s+t)<=s*ax+t*bx by omega) (Qx hD)
 rw [<-e] at b1 b2
 have c1:D*(5000*(s+t))=5000*D*(s+t):=by grind
 have c2:D*(-5000*(s+t)) = -(5000*D)*(s+t):=by grind
 rw [c1] at b1
 rw [c2] at b2
 rcases hx with hx|hx
 ·have:=Ru hx hst
  omega
 ·have:=Ru hx hst
  omega
theorem Ziq {h:Hal} (hs:Zaq h.cs) {x y d:Int} (hp:PtOk x y d) (hi:Zu h x y d=true):(-(5000*d)<=x/\x<=5000*d)/\(-(5000*d)<=y/\y<=5000*d):=by
 have hd:=hp.hd
 have h0:xorL ((wls h.cs).map (flZ ⟨x,y,d⟩))=true:=by
  have:=Zld _ _ hi
  rw [Bool.false_xor] at this
  rw [<-this]
  congr 1
  refine Pu fun w hw=>?_
  obtain ⟨n,sx,sy,g⟩:=Ue hs w hw
  exact (Yan g hp).symm
 have far:∀ p:P2d,0<p.d->(p.y < -(5000*p.d)\/5000*p.d<p.y)->xorL ((wls h.cs).map (flZ p))=false:=fun p hpd hy =>
  Zh5 _ _ fun w hw=>by
   obtain ⟨n,sx,sy,g⟩:=Ue hs w hw
   exact Yaq hpd g.b2 g.b4 hy
 have hy:¬ (y < -(5000*d)\/5000*d<y):=fun hy=>by
  rw [far ⟨x,y,d⟩ hd hy] at h0; cases h0
 have hx:¬ (x < -(5000*d)\/5000*d<x):=fun hx=>by
  rw [Zu3 (N:=⟨x,y,d⟩) (M:=⟨x,5001*d,d⟩) (D:=d) rfl rfl hd (fun w hw=>by
   obtain ⟨n,sx,sy,g⟩:=Ue hs w hw
   exact Zze hd rfl g.b1 g.b3 hx),far ⟨x,5001*d,d⟩ hd (.inr (by dsimp only; omega))] at h0
  cases h0
 omega
def i64 (n:Int):Prop:=-9223372036854775808<=n/\n<=9223372036854775807
theorem Zxy {a:Int} (h:i64 a):size a=Qa Qb (a.natAbs:Int):=by
 unfold size imax
 obtain ⟨h1,h2⟩:=h
 by_cases h3:a = -9223372036854775808
 ·subst h3; decide
 ·rw [W_eq (n:=0-a) (by omega) (by omega),W_eq (by omega) (by omega)]
  by_cases h4:a<0-a
  ·rw [decide_eq_true h4]; simp only [cond_true]; omega
  ·rw [decide_eq_false h4]; simp only [cond_false]; omega
theorem Zqj (a:Int):i64 (Qa Qb a):=by unfold i64; simp only [Sr]; omega
theorem Zoj {g:Nat} (h:g<=9223372036854775808):(Qa Qb (g:Int)).natAbs=g:=by
 by_cases h3:g=9223372036854775808
 ·subst h3; decide
 ·rw [W_eq (by omega) (by omega)]; simp
theorem Zvc {a b:Int} (ha:i64 a) (hb:b≠0):i64 (a.tmod b):=by
 obtain ⟨h1,h2⟩:=ha
 have h3:(a.tmod b).natAbs<=a.natAbs:=by rw [Mp]; exact Nat.mod_le _ _
 have h4:0<=a->0<=a.tmod b:=fun h=>Gu b h
 have h5:a<=0->a.tmod b<=0:=fun h=>by have:=Gu b (a:=-a) (by omega); rw [Int.neg_tmod] at this; omega
 unfold i64
 omega
theorem Zwg {a b:Int}:Ti b.natAbs (a.tmod b).natAbs=Ti a.natAbs b.natAbs:=by
 rw [Mp,Nat.gcd_comm,<-Nat.gcd_rec,Nat.gcd_comm]
def g4 (p:Pt):Nat:=Ti (Ti p.x.natAbs p.y.natAbs) (Ti p.z.natAbs p.d.natAbs)
structure Pt.wf (p:Pt):Prop where
 x:i64 p.x
 y:i64 p.y
 z:i64 p.z
 d:i64 p.d
theorem Zyl {a b:Int} (ha:i64 a) (hb:i64 b):Ti a.natAbs b.natAbs<=9223372036854775808:=by
 obtain ⟨a1,a2⟩:=ha
 obtain ⟨b1,b2⟩:=hb
 by_cases h:a.natAbs=0
 ·rw [h,Lw]; omega
 ·exact Nat.le_trans (Nat.gcd_le_left _ (by omega)) (by omega)
theorem Ycz {p:Pt} (hp:p.wf) (hd:0<p.d):0<g4 p/\(g4 p:Int)<=p.d:=by
 have h1:g4 p ∣ p.d.natAbs:=Mg (Om _ _) (Om _ _)
 have h2:=Nat.le_of_dvd (by omega) h1
 have h3:0<g4 p:=Nat.pos_of_dvd_of_pos h1 (by omega)
 omega
def ptIn (p:Pt):Bool:=within p.x (-(5000*p.d)) (5000*p.d)&&within p.y (-(5000*p.d)) (5000*p.d)&&within p.z (-(5000*p.d)) (5000*p.d)
def Zy (p:Pt):Int:=if p.d<=0\/g4 p≠1 then 3 else if 100000<p.d then 2 else if ptIn p then 0 else 2
theorem Xv {p:Pt} (h:Zy p=0):0<p.d/\p.d<=100000/\g4 p=1/\ptIn p=true:=by
 unfold Zy at h
 split at h
 ·cases h
 ·rename_i h1
  split at h
  ·cases h
  ·split at h
   ·rename_i h3; exact ⟨by omega,by omega,by omega,h3⟩
   ·cases h
theorem Ziv (a b c d:Nat):Ti (Ti (Ti a b) c) d=Ti (Ti a b) (Ti c d):=by rw [Nat.gcd_assoc (Ti a b)]
def gl:Nat->List Int->Nat
 | g,[]=>g
 | g,n::l=>gl (Ti g n.natAbs) l
theorem c117 {ns:List Int} (hl:ns.length<1000) (hw:∀ n∈ns,i64 n):PCall Tryz.prog 65 [.isl 1 (nl ns)] ⟨I (Qa Qb ((gl 0 ns:Nat):Int)),[]⟩:=by
 have e3:=Xa ns
 refine pn Zio Tryz.func65 ?_
 repeat'(first|refine wk1 ?_|(refine wk2 ?_ ?_<;>intro _)|fail)
 refine Za3 (S:=Nat × Int × Int) (fun t=>ns.length-t.1) (fun t=>[(3,I t.2.2),(6,.isl 1 (nl ns)),(7,I (nl ns).length),(8,I t.2.1)]) (fun _=>[]) 0 0 (fun t=>t.2.1=t.1/\t.1<=ns.length/\i64 t.2.2/\gl t.2.2.natAbs (ns.drop t.1)=gl 0 ns) (0,0,0) ⟨rfl,Nat.zero_le _,(by unfold i64; decide),rfl⟩ (Qm _) [] rfl (kps) (kps) ?_
 rintro ⟨k,i,g⟩ ⟨hi,hk,hg,hh⟩
 dsimp only at hi hk hg hh ⊢
 subst hi
 refine bs.av (sx:=nos) Zio ?_
 by_cases hlt:k<ns.length
 ·have e1:=Zdc hlt
  have hn:=hw _ (List.getElem_mem hlt)
  rw [List.drop_eq_getElem_cons hlt,gl] at hh
  repeat'(first|refine wk1 ?_|(refine wk2 ?_ ?_<;>intro _)|fail)
  refine Za3 (S:=Int × Int) (fun t=>t.2.natAbs) (fun t=>[(3,I t.1),(5,I t.2),(6,.isl 1 (nl ns)),(7,I (nl ns).length),(8,I k)]) (fun _=>[]) 0 0 (fun t=>(i64 t.1/\i64 t.2)/\Ti t.1.natAbs t.2.natAbs=Ti g.natAbs ns[k].natAbs) (g,ns[k]) ⟨⟨hg,hn⟩,rfl⟩ (Qm _) [] rfl (kps) (kps) ?_
  rintro ⟨a,b⟩ ⟨⟨ha,hb⟩,hG⟩
  dsimp only at ha hb hG ⊢
  refine bs.av (sx:=nos) Zio ?_
  by_cases h0:b=0
  ·subst h0
   repeat'(first|refine wk1 ?_|(refine wk2 ?_ ?_<;>intro _)|fail)
   exact Done.mk ⟨(k+1,_,a),[],rfl,kps,kps,⟨Xh (by omega),hlt,ha,by rw [<-hh,<-hG]; simp⟩,by dsimp only; omega⟩
  ·repeat'(first|refine wk1 ?_|(refine wk2 ?_ ?_<;>intro _)|fail)
   exact Done.mk ⟨(b,a.tmod b),[],rfl,kps,kps,⟨⟨hb,Zvc ha h0⟩,by rw [<-hG]; exact Zwg⟩,by
    show (a.tmod b).natAbs<b.natAbs
    rw [Mp]; exact Nat.mod_lt _ (by omega)⟩
 rw [List.drop_of_length_le (by omega)] at hh
 repeat'(first|refine wk1 ?_|(refine wk2 ?_ ?_<;>intro _)|fail)
 exact Zd (by show size g=_; rw [Zxy hg,<-hh]; rfl)
theorem Zz1 {d:Int} (h0:0<d) (h1:d<=100000):Qa Qb (5000*d)=5000*d/\Qa Qb (0-Qa Qb (5000*d)) = -(5000*d):=by
 have e:Qa Qb (5000*d)=5000*d:=W_eq (by omega) (by omega)
 refine ⟨e,?_⟩
 rw [e,W_eq (by omega) (by omega)]; omega
theorem c99 {p:Pt} (hp:p.wf):PCall Tryz.prog 59 [p.av] ⟨I (Zy p),[]⟩:=by
 have hc:=c117 (ns:=[p.x,p.y,p.z,p.d]) (by simp) (by
  intro n hn
  simp only [Rp,List.not_mem_nil,or_false] at hn
  rcases hn with rfl|rfl|rfl|rfl
  ·exact hp.x
  ·exact hp.y
  ·exact hp.z
  ·exact hp.d)
 have hg:gl 0 [p.x,p.y,p.z,p.d]=g4 p:=by
  simp only [gl,Lw]
  exact Ziv _ _ _ _
 rw [hg] at hc
 have hk:=Zi hc Vy
 by_cases h1:p.d<=0
 ·have e:Zy p=3:=by unfold Zy; rw [if_pos (.inl h1)]
  rw [e]
  refine pn hk Tryz.func59 ?_
  repeat'(first|refine wk1 ?_|(refine wk2 ?_ ?_<;>intro _)|fail)
  exact Zd rfl
 ·obtain ⟨g1,g2⟩:=Ycz hp (by omega)
  have hd:=hp.d
  unfold i64 at hd
  have hw:Qa Qb ((g4 p:Nat):Int)=(g4 p:Nat):=W_eq (by omega) (by omega)
  rw [hw] at hk
  by_cases h2:g4 p=1
  ·rw [h2] at hk
   by_cases h3:100000<p.d
   ·have e:Zy p=2:=by unfold Zy; rw [if_neg (by omega),if_pos h3]
    rw [e]
    refine pn hk Tryz.func59 ?_
    repeat'(first|refine wk1 ?_|(refine wk2 ?_ ?_<;>intro _)|fail)
    exact Zd rfl
   ·obtain ⟨m1,m2⟩:=Zz1 (d:=p.d) (by omega) (by omega)
    have e:Zy p=if ptIn p then 0 else 2:=by unfold Zy; rw [if_neg (by omega),if_neg h3]
    have e2:∀ x,small x (Qa Qb (5000*p.d))=within x (-(5000*p.d)) (5000*p.d):=fun x=>by unfold small; rw [m2,m1]
    rw [e]
    unfold ptIn
    rw [<-e2,<-e2,<-e2]
    refine pn hk Tryz.func59 ?_
    repeat'(first|refine wk1 ?_|(refine wk2 ?_ ?_<;>intro _)|fail)
    all_goals (clear hk hc m1 m2 e2)
    all_goals exact Zd (by simp_all [unl])
  ·have e:Zy p=3:=by unfold Zy; rw [if_pos (.inr h2)]
   rw [e]
   have h4:(1:Int)<(g4 p:Nat):=by omega
   refine pn hk Tryz.func59 ?_
   repeat'(first|refine wk1 ?_|(refine wk2 ?_ ?_<;>intro _)|fail)
   all_goals clear hk hc
   all_goals first
    | exact Zd rfl
    | (exfalso; simp_all; done)
    | (exfalso; simp_all; omega)
noncomputable abbrev gcds:List AV->Option PRes:=famA (fun p:Int × Int=>i64 p.1/\i64 p.2) (fun p=>[I p.1,I p.2]) (fun p=>⟨I (Qa Qb ((Ti p.1.natAbs p.2.natAbs:Nat):Int)),[]⟩)
theorem Zju {a b:Int} (ha:i64 a) (hb:i64 b):gcds [I a,I b]=some ⟨I (Qa Qb ((Ti a.natAbs b.natAbs:Nat):Int)),[]⟩ :=
 Yr (p:=fun p:Int × Int=>i64 p.1/\i64 p.2) (g:=fun p=>[I p.1,I p.2]) (r:=fun p=>⟨I (Qa Qb ((Ti p.1.natAbs p.2.natAbs:Nat):Int)),[]⟩) (k:=(a,b)) (fun j hj=>by
  simp only [Rw,Wm,true_and,and_true] at hj
  obtain ⟨h1,h2⟩:=hj
  dsimp only
  rw [h1,h2]) ⟨ha,hb⟩
def insE (h:Hal) (p:Pt):Int:=if h.err=0 then Zy p else h.err
theorem Zzq {p:Pt} (h:Zy p=0):PtOk p.x p.y p.d:=by
 obtain ⟨h1,h2,_,h4⟩:=Xv h
 unfold ptIn at h4
 simp only [Qf,within_iff] at h4
 exact ⟨h1,by omega,by omega,by omega⟩
theorem c50 {h:Hal} (hk:h.ok) {p:Pt} (hp:p.wf):PCall Tryz.prog 50 [h.av,p.av] ⟨.tup [Bo (decide (insE h p=0)&&Zam h p),I (insE h p)],[]⟩:=by
 have hk0:=Zi (c76 hk) (Zi (c99 hp) Zh)
 by_cases he:h.err=0
 ·have hi:insE h p=Zy p:=by unfold insE; rw [if_pos he]
  rw [hi]
  by_cases hq:Zy p=0
  ·have hf:=Znf hk he
   have e:Zam h p=Zqk h p.x p.y p.z p.d:=by
    unfold Zam Zqk
    rw [Vd hf.st p.z (Zzq hq)]
   have hk1:=Zi (c124 hk.f p.x p.y p.z p.d) hk0
   rw [hq,he] at hk1
   rw [hq,e]
   refine pn hk1 Tryz.func50 ?_
   repeat'(first|refine wk1 ?_|(refine wk2 ?_ ?_<;>intro _)|fail)
   exact Zg (by simp) rfl
  ·rw [he] at hk0
   rw [decide_eq_false hq]
   refine pn hk0 Tryz.func50 ?_
   repeat'(first|refine wk1 ?_|(refine wk2 ?_ ?_<;>intro _)|fail)
   exact Zg rfl rfl
 ·have hi:insE h p=h.err:=by unfold insE; rw [if_neg he]
  rw [hi,decide_eq_false he]
  refine pn hk0 Tryz.func50 ?_
  repeat'(first|refine wk1 ?_|(refine wk2 ?_ ?_<;>intro _)|fail)
  exact Zg rfl rfl
theorem c113 (k:Int) (p:Pt):PCall Tryz.prog 61 [I k,p.av] ⟨I (offN k p.x p.y p.z),[]⟩:=by
 refine pn Zh Tryz.func61 ?_
 repeat'(first|refine wk0 ?_|(refine wk2 ?_ ?_<;>intro _)|fail)
 all_goals exact Zd (by simp_all [offN])
def Zj9 (h:Hal) (w:Wl) (p:Pt):Bool:=!(decide (p.z<=0)||decide (Qa Qb (h.ht*p.d)<=p.z))&&(if w.fx=w.tx then decide (Qa Qb (imin w.fy w.ty*p.d)<p.y)&&decide (p.y<Qa Qb (imax w.fy w.ty*p.d)) else decide (Qa Qb (imin w.fx w.tx*p.d)<p.x)&&decide (p.x<Qa Qb (imax w.fx w.tx*p.d)))
def Zae (h:Hal) (i:Int) (p:Pt):Bool:=if i<h.ws.length then Zj9 h (wlOf h.cs i.toNat) p else if i<(h.ws.length:Int)+2 then Zu h p.x p.y p.d else (kat h i).rc.holds p.x p.y p.d
theorem Zey {h:Hal} {k:Nat} {p:Pt} (hk:k<h.ws.length):Zae h k p=Zj9 h (wlOf h.cs k) p:=by unfold Zae; rw [if_pos (by omega)]; rfl
theorem Zdj {h:Hal} {p:Pt}:Zae h h.ws.length p=Zu h p.x p.y p.d:=by unfold Zae; rw [if_neg (by omega),if_pos (by omega)]
theorem Zez {h:Hal} {p:Pt}:Zae h ((h.ws.length:Int)+1) p=Zu h p.x p.y p.d:=by unfold Zae; rw [if_neg (by omega),if_pos (by omega)]
theorem Zgg {h:Hal} {j:Nat} {p:Pt} (hj:j<h.ks.length):Zae h ((h.ws.length:Int)+2+j) p=h.ks[j].rc.holds p.x p.y p.d:=by unfold Zae; rw [if_neg (by omega),if_neg (by omega),Zor hj]
theorem c118 {h:Hal} {s:Stg} (g:Sit h s) {i:Int} (hi:SK h i) (p:Pt):PCall Tryz.prog 66 [.agg (stgL h s),I i,p.av] ⟨Bo (Zae h i p),[]⟩:=by
 have f3:=g.ok.f.2.2.1
 have f4:=g.ok.f.2.2.2.1
 have hk0:=Zi (c87 g.ok.f s hi) (Zi (c183 g.ok.f p.x p.y p.d) (Ycn g))
 cases hi with
 | wall k hk =>
  have hk2:k<h.cs.length:=by have:=g.fine.le; omega
  rw [Zey hk]
  obtain ⟨v1,v2⟩:=Zj1 (h:=h) (i:=k) (by omega)
  rw [v1,v2] at hk0
  have hk1:=Zi (Yba g.ok.f hk2) hk0
  generalize wlOf h.cs k=w at *
  refine pn hk1 Tryz.func66 ?_
  repeat'(first|refine wk0 ?_|(refine wk2 ?_ ?_<;>intro _)|fail)
  all_goals clear hk0 hk1
  all_goals first
   | (exfalso; rename_i hx; have hx:=of_decide_eq_true (show decide ((k:Int)=(h.ws.length:Int)+1)=true from hx); omega)
   | (exfalso; rename_i hx; have hx:=of_decide_eq_true (show decide ((k:Int)=(h.ws.length:Int))=true from hx); omega)
   | (refine Zb ?_; simp_all [Zj9]; done)
   | (refine Zb ?_; simp_all [Zj9]; intro _; omega)
   | (exfalso; simp_all; omega)
 | floor =>
  rw [Zdj]
  obtain ⟨v1,v2⟩:=Zj1 (h:=h) (i:=h.ws.length) (by omega)
  rw [v1,v2] at hk0
  refine pn hk0 Tryz.func66 ?_
  repeat'(first|refine wk1 ?_|(refine wk2 ?_ ?_<;>intro _)|fail)
  exact Zb rfl
 | ceil =>
  rw [Zez]
  obtain ⟨v1,v2⟩:=Zj1 (h:=h) (i:=(h.ws.length:Int)+1) (by omega)
  rw [v1,v2] at hk0
  refine pn hk0 Tryz.func66 ?_
  repeat'(first|refine wk1 ?_|(refine wk2 ?_ ?_<;>intro _)|fail)
  ·exact Zb rfl
  all_goals (exfalso; simp_all; done)
 | can j hj =>
  rw [Zgg hj]
  obtain ⟨v1,v2⟩:=Zw0 hj
  rw [v1,v2] at hk0
  generalize h.ks[j]=c at *
  have hk1:=Zi (c193 c.rc p.x p.y p.d) hk0
  refine pn hk1 Tryz.func66 ?_
  repeat'(first|refine wk1 ?_|(refine wk2 ?_ ?_<;>intro _)|fail)
  exact Zb rfl
def Zy6 (c:Can) (p:Pt):Bool:=Zqf c p && !decide (p.x=Qa Qb (c.fx*p.d)) && !decide (p.x=Qa Qb (c.tx*p.d)) && !decide (p.y=Qa Qb (c.fy*p.d)) && !decide (p.y=Qa Qb (c.ty*p.d))
def Zpq (h:Hal) (l:Ln) (p:Pt):Bool:=within (l.along p) 1 (Qa Qb (Qa Qb (l.full*p.d)-1))&&within p.z 1 (Qa Qb (Qa Qb (h.ht*p.d)-1))
def Zaw (h:Hal) (i:Int) (p:Pt):Bool:=if i<h.ws.length then Zpq h (lnOf h.cs i.toNat) p else if i<(h.ws.length:Int)+2 then Ve h p else Zy6 (kat h i) p
theorem Zav {h:Hal} {k:Nat} {p:Pt} (hk:k<h.ws.length):Zaw h k p=Zpq h (lnOf h.cs k) p:=by unfold Zaw; rw [if_pos (by omega)]; rfl
theorem Zgf {h:Hal} {p:Pt}:Zaw h h.ws.length p=Ve h p:=by unfold Zaw; rw [if_neg (by omega),if_pos (by omega)]
theorem Zh6 {h:Hal} {p:Pt}:Zaw h ((h.ws.length:Int)+1) p=Ve h p:=by unfold Zaw; rw [if_neg (by omega),if_pos (by omega)]
theorem Zq8 {h:Hal} {j:Nat} {p:Pt} (hj:j<h.ks.length):Zaw h ((h.ws.length:Int)+2+j) p=Zy6 h.ks[j] p:=by unfold Zaw; rw [if_neg (by omega),if_neg (by omega),Zor hj]
def valN (k x y z:Int):Int:=if k=0 then x else if k=1 then y else if k=2 then z else if k=3 then x+y else x-y
theorem Zjh {w:Wl} {n sx sy:Int} (h:Str w n sx sy):plW w=if sx=0 then (0,w.fx) else if sy=0 then (1,w.fy) else if sx=sy then (4,w.fx-w.fy) else (3,w.fx+w.fy):=by
 have hn:=h.hn
 have b1:=h.b1
 have b2:=h.b2
 have hxy:=h.hxy
 have w4:Qa Qb (w.fx-w.fy)=w.fx-w.fy:=W_eq (by omega) (by omega)
 have w3:Qa Qb (w.fx+w.fy)=w.fx+w.fy:=W_eq (by omega) (by omega)
 unfold plW
 rw [h.dx,h.dy,w3,w4]
 rcases h.hx with rfl|rfl|rfl<;>rcases h.hy with rfl|rfl|rfl<;>(try (exact absurd ⟨rfl,rfl⟩ hxy))<;>simp only [Sp,Rs,Sj]<;>(repeat' split)<;>first|rfl|(exfalso; omega)
theorem Zra {h:Hal} {w:Wl} {n sx sy:Int} (hs:Str w n sx sy) {p:Pt} (hp:PtOk p.x p.y p.d) (ht:2<=h.ht/\h.ht<=5000) (hpl:valN (plW w).1 p.x p.y p.z=(plW w).2*p.d):Zj9 h w p=Zpq h w.ln p:=by
 obtain ⟨x,y,z,d⟩:=p
 dsimp only at hp hpl
 have hd:=hp.hd
 have hD:=hp.hD
 have nd:=Zz0 hs.hn hs.nle hd
 have a1:=Ze hs.b1 hd
 have a2:=Ze hs.b2 hd
 have a3:=Ze hs.b3 hd
 have a4:=Ze hs.b4 hd
 have hz:Qa Qb (h.ht*d)=h.ht*d/\Qa Qb (h.ht*d-1)=h.ht*d-1/\0<h.ht*d:=by
  have:=Ze (f:=h.ht) (d:=d) (by omega) hd
  have:=Ra (a:=h.ht) (b:=d) (by omega) hd
  exact ⟨W_eq (by omega) (by omega),W_eq (by omega) (by omega),this⟩
 unfold Zj9 Zpq
 rw [Zew hs hp,Zjv hs]
 rw [Zjh hs] at hpl
 unfold valN at hpl
 rw [Zch,Zch,Zci,Zci]
 dsimp only
 rw [hz.1,hz.2.1]
 rw [Zas hd,Zas hd,Zat hd,Zat hd]
 rw [W_eq (n:=min (w.fx*d) (w.tx*d)) (by omega) (by omega),W_eq (n:=max (w.fx*d) (w.tx*d)) (by omega) (by omega),W_eq (n:=min (w.fy*d) (w.ty*d)) (by omega) (by omega),W_eq (n:=max (w.fy*d) (w.ty*d)) (by omega) (by omega)]
 have etx:=hs.tx
 have ety:=hs.ty
 have b1:=hs.b1
 have b2:=hs.b2
 have hn:=hs.hn
 have cnd:(w.fx=w.tx)↔sx=0:=by
  rw [etx]
  constructor
  ·intro e
   have:n*sx=0:=by omega
   rcases Wp.1 this with h|h
   ·omega
   ·exact h
  ·intro e; rw [e]; omega
 have ex:w.tx*d=w.fx*d+sx*(n*d):=by rw [etx]; grind
 have ey:w.ty*d=w.fy*d+sy*(n*d):=by rw [ety]; grind
 have full:n*(sx*sx+sy*sy)*d=(sx*sx+sy*sy)*(n*d):=by grind
 have d3:(w.fx+w.fy)*d=w.fx*d+w.fy*d:=by grind
 have d4:(w.fx-w.fy)*d=w.fx*d-w.fy*d:=by grind
 rw [full,ex,ey]
 unfold alo
 simp only [cnd]
 have hx:=hs.hx
 have hy:=hs.hy
 have hxy:=hs.hxy
 clear full etx ety cnd hs hp hz
 generalize w.fx*d=A at *
 generalize w.fy*d=C at *
 generalize n*d=N at *
 generalize h.ht*d=H at *
 rcases hx with rfl|rfl|rfl<;>rcases hy with rfl|rfl|rfl<;>(try (exact absurd ⟨rfl,rfl⟩ hxy))<;>simp [Sr] at hpl ⊢ <;> rw [Sf]<;>simp [within_iff]
 all_goals omega
structure Crs where
 su:Int
 fx:Int
 fy:Int
 fz:Int
 to:Pt
abbrev Crs.av (c:Crs):AV:=.agg [I c.su,I c.fx,I c.fy,I c.fz,I c.to.x,I c.to.y,I c.to.z,I c.to.d]
def crF (pl:Int × Int) (c:Crs):Int:=valN pl.1 c.fx c.fy c.fz-pl.2
def crG (pl:Int × Int) (c:Crs):Int:=valN pl.1 c.to.x c.to.y c.to.z-pl.2*c.to.d
def crPt (c:Crs) (u v:Int):Pt:=⟨c.fx*u+c.to.x*v,c.fy*u+c.to.y*v,c.fz*u+c.to.z*v,u+c.to.d*v⟩
def redP (p:Pt):Pt:=⟨p.x / (g4 p:Int),p.y / (g4 p:Int),p.z / (g4 p:Int),p.d / (g4 p:Int)⟩
def iabs (n:Int):Int:=if n<0 then -n else n
def Xg (pl:Int × Int) (c:Crs):Pt:=redP (crPt c (iabs (crG pl c)) (iabs (crF pl c)))
def ptZ:Pt:=⟨0,0,0,0⟩
def Zaa (well:Pt->Bool) (pl:Int × Int) (c:Crs):Pt × Int :=
 if 0<=sgn (crF pl c)*sgn (crG pl c) then (ptZ,12)
 else if well (Xg pl c) then (if 100000<(Xg pl c).d then (ptZ,8) else (Xg pl c,0))
 else (ptZ,12)
structure CrOk (pl:Int × Int) (c:Crs):Prop where
 k0:0<=pl.1
 k4:pl.1<=4
 at' : -10000<=pl.2/\pl.2<=10000
 fx : -45000<=c.fx/\c.fx<=45000
 fy : -45000<=c.fy/\c.fy<=45000
 fz : -45000<=c.fz/\c.fz<=45000
 d0:0<c.to.d
 d1:c.to.d<=100000
 x : -(5000*c.to.d)<=c.to.x/\c.to.x<=5000*c.to.d
 y : -(5000*c.to.d)<=c.to.y/\c.to.y<=5000*c.to.d
 z : -(5000*c.to.d)<=c.to.z/\c.to.z<=5000*c.to.d
theorem Zyv {pl:Int × Int} {c:Crs} (h:CrOk pl c):Qa Qb (offN pl.1 c.fx c.fy c.fz-pl.2)=crF pl c/\Qa Qb (offN pl.1 c.fx c.fy c.fz-Qa Qb (pl.2*1))=crF pl c /\ -100000<=crF pl c/\crF pl c<=100000:=by
 obtain ⟨h1,h2,h3,h4,h5,h6,_⟩:=h
 unfold crF valN offN
 rw [Rs,W_eq (n:=pl.2) (by omega) (by omega)]
 repeat' split
 all_goals (try rw [W_eq (n:=c.fx+c.fy) (by omega) (by omega)])
 all_goals (try rw [W_eq (n:=c.fx-c.fy) (by omega) (by omega)])
 all_goals (refine ⟨W_eq (by omega) (by omega),W_eq (by omega) (by omega),by omega,by omega⟩)
theorem Zyu {pl:Int × Int} {c:Crs} (h:CrOk pl c):Qa Qb (offN pl.1 c.to.x c.to.y c.to.z-Qa Qb (pl.2*c.to.d))=crG pl c /\ -2000000000<=crG pl c/\crG pl c<=2000000000:=by
 obtain ⟨h1,h2,h3,h4,h5,h6,h7,h8,h9,h10,h11⟩:=h
 have m:=Zm (a:=pl.2) (b:=c.to.d) (A:=10000) (B:=100000) (by omega) (by omega)
 unfold crG valN offN
 rw [W_eq (n:=pl.2*c.to.d) (by omega) (by omega)]
 generalize pl.2*c.to.d=m at *
 repeat' split
 all_goals (try rw [W_eq (n:=c.to.x+c.to.y) (by omega) (by omega)])
 all_goals (try rw [W_eq (n:=c.to.x-c.to.y) (by omega) (by omega)])
 all_goals (refine ⟨W_eq (by omega) (by omega),by omega,by omega⟩)
theorem Ztw {pl:Int × Int} {c:Crs} (h:CrOk pl c) {u v:Int} (hu:0<=u/\u<=2000000000) (hv:0<=v/\v<=100000) :
  (-90000000000000<=c.fx*u/\c.fx*u<=90000000000000)/\(-90000000000000<=c.fy*u/\c.fy*u<=90000000000000)/\(-90000000000000<=c.fz*u/\c.fz*u<=90000000000000) /\
  (-50000000000000<=c.to.x*v/\c.to.x*v<=50000000000000)/\(-50000000000000<=c.to.y*v/\c.to.y*v<=50000000000000)/\(-50000000000000<=c.to.z*v/\c.to.z*v<=50000000000000)/\(0<=c.to.d*v/\c.to.d*v<=10000000000):=by
 obtain ⟨h1,h2,h3,h4,h5,h6,h7,h8,h9,h10,h11⟩:=h
 have m1:=Zm (a:=c.fx) (b:=u) (A:=45000) (B:=2000000000) (by omega) (by omega)
 have m2:=Zm (a:=c.fy) (b:=u) (A:=45000) (B:=2000000000) (by omega) (by omega)
 have m3:=Zm (a:=c.fz) (b:=u) (A:=45000) (B:=2000000000) (by omega) (by omega)
 have m4:=Zm (a:=c.to.x) (b:=v) (A:=500000000) (B:=100000) (by omega) (by omega)
 have m5:=Zm (a:=c.to.y) (b:=v) (A:=500000000) (B:=100000) (by omega) (by omega)
 have m6:=Zm (a:=c.to.z) (b:=v) (A:=500000000) (B:=100000) (by omega) (by omega)
 have m7:=Zm (a:=c.to.d) (b:=v) (A:=100000) (B:=100000) (by omega) (by omega)
 have m8:=Qu (Qx h7) hv.1
 refine ⟨by omega,by omega,by omega,by omega,by omega,by omega,by omega,by omega⟩
structure Big (p:Pt):Prop where
 x : -140000000000000<=p.x/\p.x<=140000000000000
 y : -140000000000000<=p.y/\p.y<=140000000000000
 z : -140000000000000<=p.z/\p.z<=140000000000000
 d:0<p.d/\p.d<=12000000000
theorem Big.wf {p:Pt} (h:Big p):p.wf:=by
 obtain ⟨h1,h2,h3,h4⟩:=h
 exact ⟨⟨by omega,by omega⟩,⟨by omega,by omega⟩,⟨by omega,by omega⟩,⟨by omega,by omega⟩⟩
theorem Zws {pl:Int × Int} {c:Crs} (h:CrOk pl c) {u v:Int} (hu:0<u/\u<=2000000000) (hv:0<v/\v<=100000):Big (crPt c u v):=by
 have hb:=Ztw h (u:=u) (v:=v) (by omega) (by omega)
 unfold crPt
 refine ⟨?_,?_,?_,?_⟩<;>dsimp only<;>omega
theorem Yc0 (p:Pt):((g4 p:Int) ∣ p.x/\(g4 p:Int) ∣ p.y)/\((g4 p:Int) ∣ p.z/\(g4 p:Int) ∣ p.d):=by
 unfold g4
 have a:=Kj (Ti p.x.natAbs p.y.natAbs) (Ti p.z.natAbs p.d.natAbs)
 have b:=Om (Ti p.x.natAbs p.y.natAbs) (Ti p.z.natAbs p.d.natAbs)
 exact ⟨⟨Nl.2 (Mg a (Kj _ _)),Nl.2 (Mg a (Om _ _))⟩,⟨Nl.2 (Mg b (Kj _ _)),Nl.2 (Mg b (Om _ _))⟩⟩
theorem Zbe {a g:Int} (hg:0<g) (h:g ∣ a):a.tdiv g=a / g/\a / g*g=a/\(∀ B,-B<=a/\a<=B -> -B<=a / g/\a / g<=B):=by
 obtain ⟨k,rfl⟩:=h
 rw [Int.mul_tdiv_cancel_left _ (by omega),Int.mul_ediv_cancel_left _ (by omega)]
 refine ⟨rfl,Rr _ _,fun B hB=>?_⟩
 rcases My k 0 with hk|hk
 ·have:=Qk (show 1<=g by omega) (show 0 <= -k by omega)
  have e:g * -k = -(g*k):=Sj _ _
  omega
 ·have:=Qk (show 1<=g by omega) hk
  omega
theorem Vv {p:Pt} (h:Big p):(0<(g4 p:Int)/\(g4 p:Int)<=12000000000)/\(Qa Qb (p.x.tdiv (g4 p))=(redP p).x/\Qa Qb (p.y.tdiv (g4 p))=(redP p).y/\Qa Qb (p.z.tdiv (g4 p))=(redP p).z/\Qa Qb (p.d.tdiv (g4 p))=(redP p).d)/\Big (redP p)/\((redP p).x*g4 p=p.x/\(redP p).y*g4 p=p.y/\(redP p).z*g4 p=p.z/\(redP p).d*g4 p=p.d):=by
 obtain ⟨g1,g2⟩:=Ycz h.wf h.d.1
 obtain ⟨⟨d1,d2⟩,d3,d4⟩:=Yc0 p
 have hg:(0:Int)<g4 p:=by omega
 obtain ⟨x1,x2,x3⟩:=Zbe hg d1
 obtain ⟨y1,y2,y3⟩:=Zbe hg d2
 obtain ⟨z1,z2,z3⟩:=Zbe hg d3
 obtain ⟨e1,e2,e3⟩:=Zbe hg d4
 obtain ⟨h1,h2,h3,h4⟩:=h
 have x3:=x3 140000000000000 h1
 have y3:=y3 140000000000000 h2
 have z3:=z3 140000000000000 h3
 have e3:=e3 12000000000 (by omega)
 have hd:0<p.d / (g4 p:Int):=by
  rcases My 0 (p.d / (g4 p:Int)) with k|k
  ·exact k
  ·have:=Qu (show 0 <= -(p.d / (g4 p:Int)) by omega) (Qx hg)
   rw [Int.neg_mul] at this
   omega
 refine ⟨by omega,⟨?_,?_,?_,?_⟩,⟨x3,y3,z3,hd,e3.2⟩,x2,y2,z2,e2⟩
 ·rw [x1]; exact W_eq (by omega) (by omega)
 ·rw [y1]; exact W_eq (by omega) (by omega)
 ·rw [z1]; exact W_eq (by omega) (by omega)
 ·rw [e1]; exact W_eq (by omega) (by omega)
theorem Big.ok {p:Pt} (h:Big p):PtOk p.x p.y p.d:=by
 obtain ⟨h1,h2,h3,h4⟩:=h
 exact ⟨h4.1,by omega,by omega,by omega⟩
theorem Zn1 {pl:Int × Int} {c:Crs} (h:CrOk pl c) (hs:¬ 0<=sgn (crF pl c)*sgn (crG pl c)):(0<iabs (crG pl c)/\iabs (crG pl c)<=2000000000)/\(0<iabs (crF pl c)/\iabs (crF pl c)<=100000):=by
 have h1:=(Zyv h).2.2
 have h2:=(Zyu h).2
 have h3:=sgn_mul_neg.1 (show sgn (crF pl c)*sgn (crG pl c)<0 by omega)
 unfold iabs
 refine ⟨?_,?_⟩<;>split<;>omega
theorem Uz {pl:Int × Int} {c:Crs} (h:CrOk pl c) (hs:¬ 0<=sgn (crF pl c)*sgn (crG pl c)):Big (crPt c (iabs (crG pl c)) (iabs (crF pl c))):=by
 obtain ⟨a,b⟩:=Zn1 h hs
 exact Zws h a b
theorem Zn6 (k a b c a' b' c' u v:Int):valN k (a*u+a'*v) (b*u+b'*v) (c*u+c'*v)=valN k a b c*u+valN k a' b' c'*v:=by
 unfold valN
 repeat' split
 all_goals grind
theorem Zn5 (k a b c g:Int):valN k (a*g) (b*g) (c*g)=valN k a b c*g:=by
 unfold valN
 repeat' split
 all_goals grind
theorem Zdy {pl:Int × Int} {c:Crs} (h:CrOk pl c) (hs:¬ 0<=sgn (crF pl c)*sgn (crG pl c)):valN pl.1 (Xg pl c).x (Xg pl c).y (Xg pl c).z=pl.2*(Xg pl c).d:=by
 obtain ⟨⟨g1,_⟩,_,_,e1,e2,e3,e4⟩:=Vv (Uz h hs)
 have h3:=sgn_mul_neg.1 (show sgn (crF pl c)*sgn (crG pl c)<0 by omega)
 have k:valN pl.1 (crPt c (iabs (crG pl c)) (iabs (crF pl c))).x (crPt c (iabs (crG pl c)) (iabs (crF pl c))).y (crPt c (iabs (crG pl c)) (iabs (crF pl c))).z=pl.2*(crPt c (iabs (crG pl c)) (iabs (crF pl c))).d:=by
  unfold crPt
  dsimp only
  rw [Zn6]
  have hF:valN pl.1 c.fx c.fy c.fz=crF pl c+pl.2:=by unfold crF; omega
  have hG:valN pl.1 c.to.x c.to.y c.to.z=crG pl c+pl.2*c.to.d:=by unfold crG; omega
  rw [hF,hG]
  have:crF pl c*iabs (crG pl c)+crG pl c*iabs (crF pl c)=0:=by
   unfold iabs
   rcases h3 with ⟨p1,p2⟩|⟨p1,p2⟩
   ·rw [if_neg (by omega),if_pos p1]; grind
   ·rw [if_pos p2,if_neg (by omega)]; grind
  grind
 unfold Xg
 rw [<-e1,<-e2,<-e3,<-e4,Zn5] at k
 generalize redP (crPt c (iabs (crG pl c)) (iabs (crF pl c)))=q at *
 have k2:(valN pl.1 q.x q.y q.z-pl.2*q.d)*(g4 (crPt c (iabs (crG pl c)) (iabs (crF pl c))):Int)=0:=by
  rw [Oa,k]; grind
 rcases Wp.1 k2 with k3|k3<;>omega
theorem Zfg {h:Hal} (g:h.fine) {j:Nat} (hj:j<h.ks.length):CanOk h.ks[j]/\Zee h.ht none h.ks[j].hs=0:=by
 have:=g.can j hj
 unfold Zqw at this
 split at this
 ·split at this
  ·cases this
  ·split at this
   ·cases this
   ·split at this
    ·cases this
    ·split at this
     ·cases this
     ·split at this
      ·split at this
       ·rename_i hz
        split at this
        ·rename_i hp
         split at this
         ·cases this
         ·rename_i hd
          simp only [Qf] at hp
          simp only [Qy,decide_eq_true_eq,not_or] at hd
          exact ⟨⟨within_iff.1 hp.1.1.1,within_iff.1 hp.1.1.2,within_iff.1 hp.1.2,within_iff.1 hp.2,hd.1,hd.2⟩,hz⟩
        ·cases this
       ·rename_i hx; exact absurd this hx
      ·cases this
 ·cases this
theorem ite9 {b:Bool} {x:Int} (h:(if b=true then 9 else x)=0):x=0:=by
 cases b
 ·exact h
 ·rw [if_pos rfl] at h; exact absurd h (by decide)
theorem Ycw {ht:Int} (h0:2<=ht/\ht<=5000):∀ (l:List Int) (p:Option Int),Zee ht p l=0->∀ n∈l,1<=n/\n<ht
 | [],_,_,n,hn=>by simp at hn
 | m::l,p,h,n,hn=>by
  rw [Zit] at h
  split at h
  ·rename_i hw
   rw [W_eq (by omega) (by omega),within_iff] at hw
   have h2:=ite9 h
   rcases Rp.1 hn with rfl|hn
   ·omega
   ·exact Ycw h0 l _ h2 n hn
  ·cases h
theorem Zoy {h:Hal} {s:Stg} (g:Sit h s) {j:Nat} (hj:j<h.ks.length):1<=Zbo h s j/\Zbo h s j<h.ht:=by
 obtain ⟨n,e1,e2,e3,e4⟩:=Zlk g.set hj
 have hm:Zbo h s j∈h.ks[j].hs:=by
  have:=List.mem_of_getElem? e4
  simp only [nl,List.mem_map,Rw,Wm,true_and,and_true] at this
  obtain ⟨m,hm,rfl⟩:=this
  exact hm
 exact Ycw g.fine.ht _ _ (Zfg g.fine hj).2 _ hm
theorem Zmx {c:Can} (h:CanOk c):RcOk c.rc:=by
 obtain ⟨h1,h2,h3,h4,h5,h6⟩:=h
 obtain ⟨⟨e1,e2⟩,e3,e4⟩:=Ze4 c
 refine ⟨?_,?_,?_,?_,?_,?_⟩<;>omega
theorem Zf8 {h:Hal} {s:Stg} (g:Sit h s) {i:Int} (hi:SK h i):(0<=(Zc h s i).1/\(Zc h s i).1<=4)/\(-10000<=(Zc h s i).2/\(Zc h s i).2<=10000):=by
 have ht:=g.fine.ht
 cases hi with
 | wall k hk =>
  have hk2:k<h.cs.length:=by have:=g.fine.le; omega
  obtain ⟨n,sx,sy,hs⟩:=g.fine.st k hk2
  rw [Ut hk,Zjh hs]
  have:=hs.b1
  have:=hs.b2
  repeat' split
  all_goals (dsimp only; omega)
 | floor=>rw [Zaj]; dsimp only; omega
 | ceil=>rw [Zbm]; dsimp only; omega
 | can j hj =>
  rw [Zct]
  have:=Zoy g hj
  dsimp only; omega
theorem Zy5 {h:Hal} {s:Stg} (g:Sit h s) {i:Int} (hi:SK h i) {p:Pt} (hp:PtOk p.x p.y p.d) (hpl:valN (Zc h s i).1 p.x p.y p.z=(Zc h s i).2*p.d):Zae h i p=Zaw h i p:=by
 cases hi with
 | wall k hk =>
  have hk2:k<h.cs.length:=by have:=g.fine.le; omega
  obtain ⟨n,sx,sy,hs⟩:=g.fine.st k hk2
  rw [Ut hk] at hpl
  rw [Zey hk,Zav hk,Zds]
  exact Zra hs hp g.fine.ht hpl
 | floor =>
  rw [Zdj,Zgf]
  exact Vd g.fine.st p.z hp
 | ceil =>
  rw [Zez,Zh6]
  exact Vd g.fine.st p.z hp
 | can j hj =>
  rw [Zgg hj,Zq8 hj]
  have hr:=Zmx (Zfg g.fine hj).1
  have hd:0<p.d/\p.d<=1000000000000000:=by have:=hp.hd; have:=hp.hD; omega
  have c0:=(Zfg g.fine hj).1
  generalize h.ks[j]=c at *
  obtain ⟨⟨e1,e2⟩,e3,e4⟩:=Ze4 c
  have c1:=Ze c0.b1 hd.1
  have c2:=Ze c0.b2 hd.1
  have c3:=Ze c0.b3 hd.1
  have c4:=Ze c0.b4 hd.1
  rw [Sf,Zcs hr hd,e1,e2,e3,e4]
  unfold Zy6 Zqf
  rw [Zch,Zch,Zci,Zci,Zas hd.1,Zat hd.1,Zas hd.1,Zat hd.1]
  rw [W_eq (n:=c.fx*p.d) (by omega) (by omega),W_eq (n:=c.tx*p.d) (by omega) (by omega),W_eq (n:=c.fy*p.d) (by omega) (by omega),W_eq (n:=c.ty*p.d) (by omega) (by omega)]
  rw [W_eq (n:=min (c.fx*p.d) (c.tx*p.d)) (by omega) (by omega),W_eq (n:=max (c.fx*p.d) (c.tx*p.d)) (by omega) (by omega),W_eq (n:=min (c.fy*p.d) (c.ty*p.d)) (by omega) (by omega),W_eq (n:=max (c.fy*p.d) (c.ty*p.d)) (by omega) (by omega)]
  simp only [Qf,Bool.not_eq_true',decide_eq_false_iff_not,within_iff]
  omega
theorem Ydd {p:Pt} (hb:Big p) {X Y Z D:Int} (hX:X=p.x) (hY:Y=p.y) (hZ:Z=p.z) (hD:D=p.d) :
  gcds [I X,I Y]=some ⟨I (Qa Qb ((Ti p.x.natAbs p.y.natAbs:Nat):Int)),[]⟩/\gcds [I Z,I D]=some ⟨I (Qa Qb ((Ti p.z.natAbs p.d.natAbs:Nat):Int)),[]⟩/\gcds [I (Qa Qb ((Ti p.x.natAbs p.y.natAbs:Nat):Int)),I (Qa Qb ((Ti p.z.natAbs p.d.natAbs:Nat):Int))]=some ⟨I (g4 p:Int),[]⟩ /\
  Qa Qb (X.tdiv (g4 p))=(redP p).x/\Qa Qb (Y.tdiv (g4 p))=(redP p).y/\Qa Qb (Z.tdiv (g4 p))=(redP p).z/\Qa Qb (D.tdiv (g4 p))=(redP p).d/\(0<(g4 p:Int)/\(g4 p:Int)<=12000000000):=by
 subst hX hY hZ hD
 have hw:=hb.wf
 have h3':=Zju (Zqj ((Ti p.x.natAbs p.y.natAbs:Nat):Int)) (Zqj ((Ti p.z.natAbs p.d.natAbs:Nat):Int))
 rw [Zoj (Zyl hw.x hw.y),Zoj (Zyl hw.z hw.d)] at h3'
 change gcds _=some ⟨I (Qa Qb ((g4 p:Nat):Int)),[]⟩ at h3'
 obtain ⟨g1,⟨r1,r2,r3,r4⟩,_,_⟩:=Vv hb
 rw [W_eq (n:=((g4 p:Nat):Int)) (by omega) (by omega)] at h3'
 exact ⟨Zju hw.x hw.y,Zju hw.z hw.d,h3',r1,r2,r3,r4,g1⟩
theorem Zo2 {p:Pt} (h:Big p):g4 (redP p)=1:=by
 obtain ⟨⟨g1,_⟩,_,_,e1,e2,e3,e4⟩:=Vv h
 have key:g4 p=g4 (redP p)*g4 p:=by
  have hx:p.x.natAbs=(redP p).x.natAbs*g4 p:=by rw [<-e1,Tj,Nm]
  have hy:p.y.natAbs=(redP p).y.natAbs*g4 p:=by rw [<-e2,Tj,Nm]
  have hz:p.z.natAbs=(redP p).z.natAbs*g4 p:=by rw [<-e3,Tj,Nm]
  have hd:p.d.natAbs=(redP p).d.natAbs*g4 p:=by rw [<-e4,Tj,Nm]
  have:g4 p=Ti (Ti ((redP p).x.natAbs*g4 p) ((redP p).y.natAbs*g4 p)) (Ti ((redP p).z.natAbs*g4 p) ((redP p).d.natAbs*g4 p)):=by rw [<-hx,<-hy,<-hz,<-hd]; rfl
  rw [Pp,Pp,Pp] at this
  exact this
 have h0:0<g4 p:=by omega
 have:g4 (redP p)*g4 p=1*g4 p:=by omega
 exact Nat.eq_of_mul_eq_mul_right h0 this
end Go.Proofs.YtohjcchcladneaaGreat
