/- A part of the proof: lemmas. -/
import Derived.Test.YtkmjliccopgocaaGreatZ8
set_option linter.unusedVariables false
set_option linter.unusedSimpArgs false
set_option maxRecDepth 100000
set_option maxHeartbeats 16000000
open Bool renaming and_eq_true->Qc,eq_false_iff->Qp,eq_iff_iff->Si,false_eq_true->Qz,not_eq_true'->Sf,or_eq_true->Qx,true_and->Td
open Classical renaming choose->Oe,choose_spec->Tv
open Function renaming comp->Fk
open Go.IntKind renaming i64->Qb,wrap->Qa,wrap_i64->Sy
open Go.Sx.AV.int renaming injEq->Mq
open Go.Sx.Done renaming mk->Qr
open Int renaming add_zero->Sp,mul_neg->Sm,mul_one->Rw,mul_pos->Nv,mul_tdiv_cancel_left->Lk,mul_zero->Sh,natAbs_mul->Gx,natCast_inj->Gl,neg_mul->Tn,neg_neg->Sr,one_mul->Wf,sub_mul->Ge,sub_self->Ke,toNat_natCast->Sk,zero_add->Sz,zero_mul->Tg
open List renaming all_eq_true->Qs,any_append->Mf,any_cons->Nr,any_eq_false->Ho,any_eq_true->Ws,drop_eq_getElem_cons->Qg,drop_of_length_le->Qj,getElem?_eq_getElem->Qi,getElem_mem->Qq,map_congr_left->Mj,map_cons->Wb,mem_cons->Qv,mem_map->Wa,mem_range->Ss,mem_take_iff_getElem->Oi,range->Tq,range'->Oy,range'_succ->Lu,take_of_length_le->Rr,take_succ_eq_append_getElem->Qu
open List.cons renaming injEq->Rl
open Nat renaming le_refl->Qd,mod_eq_of_lt->Ph,zero_le->Qk
namespace Go.Proofs.YtkmjliccopgocaaGreat
open Go Go.Sx
theorem Zbr (a b:ByteArray):(a==b)=decide (a=b):=by
 rw [Si]
 obtain ⟨a⟩:=a
 obtain ⟨b⟩:=b
 have:((⟨a⟩:ByteArray)==⟨b⟩)=(a==b):=rfl
 rw [this]
 simp
def Zw (s:ByteArray):Nat->List Mat->Int
 | _,[]=>-1
 | i,m::l=>if m.nm==s then i else Zw s (i+1) l
theorem c128 {h:Hal} (hf:h.few) (s:ByteArray):PCall Tryz.prog 40 [h.av,.str s] ⟨I (Zw s 0 h.ms),[]⟩:=by
 refine pn Zc4 Tryz.func40 ?_
 refine Zo (S:=Nat × Int) (fun t=>h.ms.length-t.1) (fun t=>[(2,.ptr 0 0 0),(1,.str s),(5,I t.2)]) (fun _=>[(0,.row 9 [h.cells] true false)]) 1 1 (fun t=>t.2=t.1/\t.1<=h.ms.length/\Zw s t.1 (h.ms.drop t.1)=Zw s 0 h.ms) (0,0) ⟨rfl,Qk _,rfl⟩ (Qd _) [] rfl (kps) (kps) ?_
 rintro ⟨k,i⟩ ⟨hi,hk,hh⟩
 dsimp only at hi hk hh ⊢
 subst hi
 refine bs.av (sx:=nos) Zc4 ?_
 have e3:=Un h.ms
 by_cases hlt:k<h.ms.length
 ·have e1:=Zku hlt
  rw [Qg hlt,Zw] at hh
  cases hb:(h.ms[k].nm==s) with
  | true =>
   rw [hb,if_pos rfl] at hh
   repeat'(first|refine wk1 ?_|(refine wk2 ?_ ?_<;>intro _)|fail)
   ·exact Zb hh
   ·rename_i hx; rw [hb] at hx; cases hx
  | false =>
   rw [hb,if_neg (by simp)] at hh
   repeat'(first|refine wk1 ?_|(refine wk2 ?_ ?_<;>intro _)|fail)
   ·rename_i hx; rw [hb] at hx; cases hx
   ·exact Qr ⟨(k+1,_),[],rfl,kps,kps,⟨Zg (by have:=hf.1; omega),hlt,hh⟩,by dsimp only; omega⟩
 ·rw [Qj (by omega)] at hh
  repeat'(first|refine wk1 ?_|(refine wk2 ?_ ?_<;>intro _)|fail)
  exact Zb hh
def Yt (s:ByteArray):Bool:=decide (1<=(s.size:Int))&&(decide ((s.size:Int)<=12)&&Zbm true s.data.toList)
theorem c161 {s:ByteArray} (hs:s.data.toList.length<100000):PCall Tryz.prog 38 [.str s] ⟨Bo (Yt s),[]⟩:=by
 have hz:s.size=s.data.toList.length:=by simp
 refine pn Zf Tryz.func38 ?_
 repeat'(first|refine wk0 ?_|(refine wk2 ?_ ?_<;>intro _)|fail)
 ·rename_i hx
  have hx:=of_decide_eq_true hx
  exact Zc (by rw [Yt,decide_eq_false (by omega)]; rfl)
 ·exact Zc (by clear hz hs; simp_all [Yt]<;>omega)
 ·rename_i hb1 hb2
  have hb:Yt s=Zbm true s.data.toList:=by clear hz; simp_all [Yt]
  rw [hb]
  refine Zo (S:=Nat × Int) (fun t=>s.data.toList.length-t.1) (fun t=>[(0,.str s),(3,I t.2)]) (fun _=>[]) 0 0 (fun t=>t.2=t.1/\t.1<=s.data.toList.length/\Zbm (decide (t.1=0)) (s.data.toList.drop t.1)=Zbm true s.data.toList) (0,0) ⟨rfl,Qk _,rfl⟩ (Qd _) [] rfl (kps) (kps) ?_
  rintro ⟨k,i⟩ ⟨hi,hk,hh⟩
  dsimp only at hi hk hh ⊢
  subst hi
  clear hb1 hb2 hb
  have hk9:k<9000000000:=by omega
  refine bs.av (sx:=nos) Zf ?_
  by_cases hlt:k<s.data.toList.length
  ·have e1:s.data.toList[((k:Nat):Int).toNat]?=some s.data.toList[k]:=by simp only [Sk]; exact Qi hlt
   rw [Qg hlt,Zgx] at hh
   generalize s.data.toList[k]=c0 at *
   repeat'(first|refine wk1 ?_|(refine wk2 ?_ ?_<;>intro _)|fail)
   all_goals (clear e1)
   all_goals (generalize c0.toNat=c at *)
   all_goals (clear hz hs)
   all_goals first
    | exact Zc (by
      have hg:Zhv (decide (k=0)) c=false:=by clear hh; simp_all [Zhv,Zg8]<;>omega
      rw [hg,Bool.false_and] at hh
      exact hh)
    | exact Qr ⟨(k+1,_),[],rfl,kps,trivial,⟨Zg hk9,hlt,by
      have hg:Zhv (decide (k=0)) c=true:=by clear hh; simp_all [Zhv,Zg8]<;>omega
      rw [hg,Td] at hh
      exact hh⟩,by dsimp only; omega⟩
  ·rw [Qj (by omega)] at hh
   repeat'(first|refine wk1 ?_|(refine wk2 ?_ ?_<;>intro _)|fail)
   exact Zc hh
theorem Zax (s:ByteArray):Yt s=Ve s:=by
 unfold Yt Ve
 have h1:(s==⟨#[]⟩)=decide (s.size=0):=by
  rw [Zbr,Si]
  simp only [decide_eq_true_eq]
  constructor
  ·rintro rfl; rfl
  ·intro h0
   obtain ⟨d⟩:=s
   have:d = #[]:=by simpa [ByteArray.size] using h0
   rw [this]
 rw [h1]
 have h2:decide (1<=(s.size:Int)) = !decide (s.size=0):=by
  rw [Si]; simp only [decide_eq_true_eq,Sf,decide_eq_false_iff_not]; omega
 rw [h2]
 cases Zbm true s.data.toList<;>cases decide (s.size=0)<;>simp
noncomputable def fam (g:Nat->List AV) (r:Nat->PRes) (n:Nat) (a:List AV):Option PRes:=by
 classical exact if hx:∃ k,k<n/\a=g k then some (r (Oe hx)) else none
theorem Zs9 {g:Nat->List AV} {r:Nat->PRes} {n k:Nat} (hi:∀ j,g j=g k->r j=r k) (hk:k<n):fam g r n (g k)=some (r k):=by
 classical
 unfold fam
 have hx:∃ j,j<n/\g k=g j:=⟨k,hk,rfl⟩
 rw [dif_pos hx,hi _ (Tv hx).2.symm]
theorem Zoz {f0:FuncId} {g:Nat->List AV} {r:Nat->PRes} {n:Nat} {pt:PC} (h0:∀ k,k<n->PCall Tryz.prog f0 (g k) (r k)) (h:PCOK Tryz.prog pt):PCOK Tryz.prog (ins f0 (fam g r n) pt):=by
 classical
 refine Zj (fun a res hr=>?_) h
 unfold fam at hr
 split at hr
 ·rename_i hx
  obtain ⟨h1,h2⟩:=Tv hx
  cases hr
  have:=h0 _ h1
  rw [<-h2] at this
  exact this
 ·cases hr
noncomputable abbrev lines (h:Hal):List AV->Option PRes:=fam (fun k=>[h.av,I (k:Int)]) (fun k=>⟨(lnOf h.cs k).av,[]⟩) h.cs.length
theorem Vw {h:Hal} {k:Nat} (hk:k<h.cs.length):lines h [h.av,I (k:Int)]=some ⟨(lnOf h.cs k).av,[]⟩ :=
 Zs9 (g:=fun k=>[h.av,I (k:Int)]) (r:=fun k=>⟨(lnOf h.cs k).av,[]⟩) (fun j hj=>by
  simp only [Rl,Mq,Gl,true_and,and_true] at hj
  rw [hj]) hk
noncomputable def kR5 (h:Hal):PC:=ins 62 (lines h) kR4
theorem Zse {h:Hal} (hf:h.few):PCOK Tryz.prog (kR5 h):=Zoz (fun k hk=>c105 hf hk) Zc4
def Zmb (n:Int) (w:Wl):Int:=Qa Qb (Qa Qb (n+Qa Qb (w.fx*w.ty))-Qa Qb (w.tx*w.fy))
def Zf8 (cs:List (Int × Int)):Int:=(wls cs).foldl Zmb 0
theorem Zal (cs:List (Int × Int)):(wls cs).length=cs.length:=by simp [wls]
theorem Zxp {cs:List (Int × Int)} {k:Nat} (h:k<cs.length):(wls cs)[k]'(by rw [Zal]; exact h)=wlOf cs k:=by simp [wls]
theorem Zuj {cs:List (Int × Int)} {k:Nat} (h:k<cs.length):(wls cs).drop k=wlOf cs k::(wls cs).drop (k+1):=by
 rw [Qg (by rw [Zal]; exact h),Zxp h]
theorem c46 {h:Hal} (hf:h.few):PCall Tryz.prog 44 [h.av] ⟨I (Zf8 h.cs),[]⟩:=by
 refine pn Zc4 Tryz.func44 ?_
 refine Zo (S:=Nat × Int × Int) (fun t=>h.cs.length-t.1) (fun t=>[(1,.ptr 0 0 0),(3,I t.2.2),(4,I t.2.1)]) (fun _=>[(0,.row 9 [h.cells] true false)]) 1 1 (fun t=>t.2.1=t.1/\t.1<=h.cs.length/\((wls h.cs).drop t.1).foldl Zmb t.2.2=Zf8 h.cs) (0,0,0) ⟨rfl,Qk _,rfl⟩ (Qd _) [] rfl (kps) (kps) ?_
 rintro ⟨k,i,n⟩ ⟨hi,hk,hh⟩
 dsimp only at hi hk hh ⊢
 subst hi
 refine bs.av (sx:=nos) Zc4 ?_
 have e3:=Zl5 h.cs
 have hl:=hf.2.1
 by_cases hlt:k<h.cs.length
 ·rw [Zuj hlt,List.foldl_cons] at hh
  have e1:=Zdb hlt
  have e2:=Zdb (ps:=h.cs) (i:=(k+1)%h.cs.length) (Nat.mod_lt _ (by omega))
  have hw:Qa Qb ((k:Int)+1)=((k+1:Nat):Int):=IntWalk.i64_in _ ⟨by omega,by omega⟩
  have hm:(Qa Qb ((k:Int)+1)).tmod ((h.cs.map pt).length:Int)=(((k+1)%h.cs.length:Nat):Int):=by rw [hw,e3]; rfl
  have e4:(h.cs.map pt)[((k:Nat):Int).toNat]?=some [I (cor h.cs k).1,I (cor h.cs k).2]:=by simpa using e1
  have e5:(h.cs.map pt)[((Qa Qb ((k:Int)+1)).tmod ((h.cs.map pt).length:Int)).toNat]?=some [I (cor h.cs ((k+1)%h.cs.length)).1,I (cor h.cs ((k+1)%h.cs.length)).2]:=by rw [hm,Sk]; exact e2
  repeat'(first|refine wk1 ?_|(refine wk2 ?_ ?_<;>intro _)|fail)
  exact Qr ⟨(k+1,_,_),[],rfl,kps,kps,⟨Zg (by omega),hlt,hh⟩,by dsimp only; omega⟩
 ·rw [Qj (by rw [Zal]; omega)] at hh
  repeat'(first|refine wk1 ?_|(refine wk2 ?_ ?_<;>intro _)|fail)
  exact Zb hh
def Hal.nz (h:Hal):Prop:=∀ k,k<h.cs.length->(lnOf h.cs k).n≠0
def Zlo (p:Pt) (l:Ln):Bool :=
 ((decide (Qa Qb (l.y*p.d)<=p.y) && !decide (Qa Qb (Qa Qb (l.y+l.dy)*p.d)<=p.y))&&decide (0<l.beside p))||((!decide (Qa Qb (l.y*p.d)<=p.y)&&decide (Qa Qb (Qa Qb (l.y+l.dy)*p.d)<=p.y))&&decide (l.beside p<0))
def Zhu (p:Pt):Bool->List Ln->Bool
 | b,[]=>b
 | b,l::r=>if l.has p then false else Zhu p (b ^^ Zlo p l) r
def lns (cs:List (Int × Int)):List Ln:=(Tq cs.length).map (lnOf cs)
theorem Uh (cs:List (Int × Int)):(lns cs).length=cs.length:=by simp [lns]
theorem Zd3 {cs:List (Int × Int)} {k:Nat} (h:k<cs.length):(lns cs).drop k=lnOf cs k::(lns cs).drop (k+1):=by
 rw [Qg (by rw [Uh]; exact h)]; simp [lns]
def Zz (h:Hal) (p:Pt):Bool:=Zhu p false (lns h.cs)
theorem Zp5 {p:Pt} {b:Bool} {l:Ln} {r:List Ln} (h:l.has p=false):Zhu p b (l::r)=Zhu p (b ^^ Zlo p l) r:=by rw [Zhu,if_neg (by simp [h])]
theorem Zsn {p:Pt} {b:Bool} {l:Ln} {r:List Ln} (h:l.has p=true):Zhu p b (l::r)=false:=by rw [Zhu,if_pos h]
theorem c106 {h:Hal} (hf:h.few) (hwc:h.ws.length=h.cs.length) (hz:h.nz) (p:Pt):PCall Tryz.prog 68 [h.av,p.av] ⟨Bo (Zz h p),[]⟩:=by
 obtain ⟨px,py,pz,pd⟩:=p
 refine pn (Zse hf) Tryz.func68 ?_
 refine Zo (S:=Nat × Int × Bool) (fun t=>h.ws.length-t.1) (fun t=>[(2,.ptr 0 0 0),(3,.ptr 1 0 0),(5,Bo t.2.2),(6,I t.2.1)]) (fun _=>[(1,.row 4 [[I px,I py,I pz,I pd]] true false),(0,.row 9 [h.cells] true false)]) 2 2 (fun t=>t.2.1=t.1/\t.1<=h.ws.length/\Zhu ⟨px,py,pz,pd⟩ t.2.2 ((lns h.cs).drop t.1)=Zz h ⟨px,py,pz,pd⟩) (0,0,false) ⟨rfl,Qk _,rfl⟩ (Qd _) [] rfl (kps) (kps) ?_
 rintro ⟨k,i,b⟩ ⟨hi,hk,hh⟩
 dsimp only at hi hk hh ⊢
 subst hi
 refine bs.av (sx:=nos) (Zse hf) ?_
 have e3:=Yn h.ws
 have hl:=hf.2.1
 by_cases hlt:k<h.ws.length
 ·have e1:=Vw (h:=h) (k:=k) (by omega)
  have hn:=hz k (by omega)
  rw [Zd3 (by omega)] at hh
  generalize lnOf h.cs k=L at *
  obtain ⟨lx,ly,ldx,ldy⟩:=L
  cases hb:(Ln.mk lx ly ldx ldy).has ⟨px,py,pz,pd⟩ with
  | true =>
   rw [Zsn hb] at hh
   repeat'(first|refine wk1 ?_|(refine wk2 ?_ ?_<;>intro _)|fail)
   ·exact Zc hh
   all_goals (exfalso; clear hh e1 hz hn; simp_all; done)
  | false =>
   rw [Zp5 hb] at hh
   repeat'(first|refine wk1 ?_|(refine wk2 ?_ ?_<;>intro _)|fail)
   ·exfalso; clear hh e1 hz hn; simp_all; done
   all_goals (clear e1 hz hn e3)
   all_goals exact Qr ⟨(k+1,_,_),[],rfl,kps,kps,⟨Zg (by omega),hlt,by rw [<-hh]; congr 1; clear hh hl hlt hk; cases b<;>simp_all [Zlo]<;>omega⟩,by dsimp only; omega⟩
 ·rw [Qj (by rw [Uh]; omega)] at hh
  repeat'(first|refine wk1 ?_|(refine wk2 ?_ ?_<;>intro _)|fail)
  exact Zc hh
def Zet (cs:List (Int × Int)) (n:Int) (i k:Nat):Bool :=
 !((!decide ((k:Int)=Qa Qb ((i:Int)+1)) && !(decide ((i:Int)=0)&&decide ((k:Int)=Qa Qb (n-1))))&&(lnOf cs i).touch (lnOf cs k)) &&
 !((decide ((k:Int)=Qa Qb ((i:Int)+1))&&((lnOf cs k).has (lnOf cs i).a||(lnOf cs i).has (lnOf cs k).b))||((decide ((i:Int)=0)&&decide ((k:Int)=Qa Qb (n-1)))&&((lnOf cs k).has (lnOf cs i).b||(lnOf cs i).has (lnOf cs k).a)))
def Zc6 (cs:List (Int × Int)) (n i k:Nat):Bool:=(Oy k (n-k)).all fun k=>Zet cs n i k
def Zc2 (cs:List (Int × Int)) (n i:Nat):Bool:=(Oy i (n-i)).all fun i=>Zc6 cs n i (i+1)
def Zb0 (cs:List (Int × Int)):Bool:=Zc2 cs cs.length 0
theorem Zm0 {cs:List (Int × Int)} {n i k:Nat} (h:k<n):Zc6 cs n i k=(Zet cs n i k&&Zc6 cs n i (k+1)):=by
 unfold Zc6
 rw [show n-k=(n-(k+1))+1 by omega,Lu]; rfl
theorem Zp4 {cs:List (Int × Int)} {n i k:Nat} (h:n<=k):Zc6 cs n i k=true:=by
 unfold Zc6; rw [show n-k=0 by omega]; rfl
theorem Zms {cs:List (Int × Int)} {n i:Nat} (h:i<n):Zc2 cs n i=(Zc6 cs n i (i+1)&&Zc2 cs n (i+1)):=by
 unfold Zc2
 rw [show n-i=(n-(i+1))+1 by omega,Lu]; rfl
theorem Zpw {cs:List (Int × Int)} {n i:Nat} (h:n<=i):Zc2 cs n i=true:=by
 unfold Zc2; rw [show n-i=0 by omega]; rfl
def r198:List AV->Option PRes
 | [.agg [.int .i64 x,.int .i64 y,.int .i64 dx,.int .i64 dy],.agg [.int .i64 u,.int .i64 v,.int .i64 du,.int .i64 dv]]=>asr (decide ((Ln.mk x y dx dy).n≠0/\(Ln.mk u v du dv).n≠0)) ⟨Bo ((Ln.mk x y dx dy).touch ⟨u,v,du,dv⟩),[]⟩
 | _=>none
noncomputable def kR6 (h:Hal):PC:=ins 64 r198 (kR5 h)
theorem Zw1 {h:Hal} (hf:h.few):PCOK Tryz.prog (kR6 h):=by
 refine Zj (fun a res h=>?_) (Zse hf)
 unfold r198 at h; split at h
 ·obtain ⟨h1,rfl⟩:=Xc h; exact c198 ⟨_,_,_,_⟩ ⟨_,_,_,_⟩ (of_decide_eq_true h1).1 (of_decide_eq_true h1).2
 ·cases h
theorem c165 {h:Hal} (hf:h.few) (hwc:h.ws.length=h.cs.length) (hz:h.nz):PCall Tryz.prog 43 [h.av] ⟨Bo (Zb0 h.cs),[]⟩:=by
 have hk6:=Zw1 hf
 have e3:(h.ws.map Wal.av).length=h.cs.length:=by simp [hwc]
 have hl:=hf.2.1
 refine pn hk6 Tryz.func43 ?_
 refine Zo (S:=Nat × Int) (fun t=>h.cs.length-t.1) (fun t=>[(1,.ptr 0 0 0),(3,I (h.ws.map Wal.av).length),(4,I t.2)]) (fun _=>[(0,.row 9 [h.cells] true false)]) 1 1 (fun t=>t.2=t.1/\t.1<=h.cs.length/\Zc2 h.cs h.cs.length t.1=Zb0 h.cs) (0,0) ⟨rfl,Qk _,rfl⟩ (Qd _) [] rfl (kps) (kps) ?_
 rintro ⟨i,i'⟩ ⟨hi,hk,hh⟩
 dsimp only at hi hk hh ⊢
 subst hi
 refine bs.av (sx:=nos) hk6 ?_
 by_cases hlt:i<h.cs.length
 ·rw [Zms hlt] at hh
  repeat'(first|refine wk1 ?_|(refine wk2 ?_ ?_<;>intro _)|fail)
  refine Zo (S:=Nat × Int) (fun t=>h.cs.length-t.1) (fun t=>[(1,.ptr 0 0 0),(3,I (h.ws.map Wal.av).length),(4,I i),(5,I t.2)]) (fun _=>[(0,.row 9 [h.cells] true false)]) 1 1 (fun t=>t.2=t.1/\t.1<=h.cs.length/\(Zc6 h.cs h.cs.length i t.1&&Zc2 h.cs h.cs.length (i+1))=Zb0 h.cs) (i+1,Qa Qb ((i:Int)+1)) ⟨Zg (by omega),hlt,hh⟩ (Qd _) [] rfl (kps) (kps) ?_
  rintro ⟨k,k'⟩ ⟨hi,hk2,h3⟩
  dsimp only at hi hk2 h3 ⊢
  subst hi
  refine bs.av (sx:=nos) hk6 ?_
  by_cases hlt2:k<h.cs.length
  ·rw [Zm0 hlt2,Zet] at h3
   have e1:=Vw (h:=h) hlt
   have e2:=Vw (h:=h) hlt2
   have hn1:=hz i hlt
   have hn2:=hz k hlt2
   generalize lnOf h.cs i=L at *
   generalize lnOf h.cs k=M at *
   obtain ⟨lx,ly,ldx,ldy⟩:=L
   obtain ⟨mx,my,mdx,mdy⟩:=M
   have hn3:(Ln.mk lx ly ldx ldy).n≠0/\(Ln.mk mx my mdx mdy).n≠0:=⟨hn1,hn2⟩
   have e3':=e3
   clear hz hh
   rw [Bool.and_assoc] at h3
   generalize hT:(Zc6 h.cs h.cs.length i (k+1)&&Zc2 h.cs h.cs.length (i+1))=T at *
   generalize hU:Zb0 h.cs=U at *
   rw [<-e3] at h3
   simp only [Ln.a,Ln.b] at h3
   clear e3
   repeat'(first|refine wk1 ?_|(refine wk2 ?_ ?_<;>intro _)|fail)
   all_goals (clear e1 e2 hn1 hn2 hn3)
   all_goals first
    | exact Zc (by rw [<-h3]; clear hT hU h3 hk hk2 hlt hlt2 hl hwc e3' hk6; simp_all; done)
    | exact Qr ⟨(k+1,_),[],rfl,kps,kps,⟨Zg (by omega),hlt2,by rw [hT,<-h3]; clear hT hU h3 hk hk2 hlt hlt2 hl hwc e3' hk6; simp_all; done⟩,by dsimp only; omega⟩
    | (exfalso; clear hT hU h3 hk hk2 hlt hlt2 hl hwc e3' hk6; simp_all; done)
  ·rw [Zp4 (by omega),Td] at h3
   repeat'(first|refine wk1 ?_|(refine wk2 ?_ ?_<;>intro _)|fail)
   exact Qr ⟨(i+1,_),[],rfl,kps,kps,⟨Zg (by omega),hlt,h3⟩,by dsimp only; omega⟩
 ·rw [Zpw (by omega)] at hh
  repeat'(first|refine wk1 ?_|(refine wk2 ?_ ?_<;>intro _)|fail)
  exact Zc hh
noncomputable def famA {α:Type} (p:α->Prop) (g:α->List AV) (r:α->PRes) (a:List AV):Option PRes:=by
 classical exact if hx:∃ k,p k/\a=g k then some (r (Oe hx)) else none
theorem Xb {α:Type} {p:α->Prop} {g:α->List AV} {r:α->PRes} {k:α} (hi:∀ j,g j=g k->r j=r k) (hk:p k):famA p g r (g k)=some (r k):=by
 classical
 unfold famA
 have hx:∃ j,p j/\g k=g j:=⟨k,hk,rfl⟩
 rw [dif_pos hx,hi _ (Tv hx).2.symm]
theorem Ya {f0:FuncId} {α:Type} {p:α->Prop} {g:α->List AV} {r:α->PRes} {pt:PC} (h0:∀ k,p k->PCall Tryz.prog f0 (g k) (r k)) (h:PCOK Tryz.prog pt):PCOK Tryz.prog (ins f0 (famA p g r) pt):=by
 classical
 refine Zj (fun a res hr=>?_) h
 unfold famA at hr
 split at hr
 ·rename_i hx
  obtain ⟨h1,h2⟩:=Tv hx
  cases hr
  have:=h0 _ h1
  rw [<-h2] at this
  exact this
 ·cases hr
noncomputable abbrev mats (h:Hal):List AV->Option PRes:=famA (fun _=>True) (fun s=>[h.av,.str s]) (fun s=>⟨I (Zw s 0 h.ms),[]⟩)
theorem Zcn (h:Hal) (s:ByteArray):mats h [h.av,.str s]=some ⟨I (Zw s 0 h.ms),[]⟩ :=
 Xb (g:=fun s=>[h.av,.str s]) (r:=fun s=>⟨I (Zw s 0 h.ms),[]⟩) (fun j hj=>by
  simp only [Rl,AV.str.injEq,true_and,and_true] at hj
  rw [hj]) trivial
def r161:List AV->Option PRes
 | [.str s]=>asr (decide (s.data.toList.length<100000)) ⟨Bo (Yt s),[]⟩
 | _=>none
noncomputable def kR7 (h:Hal):PC:=ins 38 r161 (ins 40 (mats h) (kR6 h))
theorem Zok {h:Hal} (hf:h.few):PCOK Tryz.prog (kR7 h):=by
 refine Zj (fun a res h=>?_) (Ya (fun s _=>c128 hf s) (Zw1 hf))
 unfold r161 at h; split at h
 ·obtain ⟨h1,rfl⟩:=Xc h; exact c161 (of_decide_eq_true h1)
 ·cases h
def Zio (h:Hal) (p:Pt):Bool:=(decide (0<p.z)&&decide (p.z<Qa Qb (h.ht*p.d)))&&Zz h p
theorem c52 {h:Hal} (hf:h.few) (hwc:h.ws.length=h.cs.length) (hz:h.nz) (p:Pt):PCall Tryz.prog 71 [h.av,p.av] ⟨Bo (Zio h p),[]⟩:=by
 obtain ⟨px,py,pz,pd⟩:=p
 have hk:=Zi (c106 hf hwc hz ⟨px,py,pz,pd⟩) Zc4
 refine pn hk Tryz.func71 ?_
 repeat'(first|refine wk0 ?_|(refine wk2 ?_ ?_<;>intro _)|fail)
 all_goals (clear hk hz)
 all_goals exact Zc (by simp_all [Zio]<;>omega)
def Zbd (l:Ln):Int:=if decide (l.dx=0)&&decide (l.dy=0) then 11 else if (!decide (l.dx=0) && !decide (l.dy=0)) && !decide (size l.dx=size l.dy) then 15 else 0
def Zdv (h:Hal) (i:Nat) (w:Wal):Int :=
 if Yt w.nm then (if (h.ws.take i).any (fun v=>v.nm==w.nm) then 5 else if (w.nm==Xy)||(w.nm==Za1) then 5 else if decide (Zw w.mt 0 h.ms<0)||(!(w.cu==⟨#[]⟩)&&decide (Zw w.cu 0 h.ms<0)) then 6 else Zbd (lnOf h.cs i)) else 4
theorem c164 {h:Hal} (hf:h.few) (ht:h.texts) (hwc:h.ws.length=h.cs.length) {i:Nat} (hi:i<h.ws.length):PCall Tryz.prog 42 [h.av,I i] ⟨I (Zdv h i h.ws[i]),[]⟩:=by
 have hk7:=Zok hf
 have e3:=Yn h.ws
 have e1:=Zf4 hi
 have hs:=ht.ws _ (Qq hi)
 have hl:=hf.2.2.1
 generalize hw:h.ws[i]=w at *
 refine pn hk7 Tryz.func42 ?_
 repeat'(first|refine wk1 ?_|(refine wk2 ?_ ?_<;>intro _)|fail)
 ·exact Zb (by clear e1 e3 hk7; simp_all [Zdv])
 ·rename_i hb
  have hnm:Yt w.nm=true:=by simpa using hb
  refine Zo (S:=Nat × Int) (fun t=>i-t.1) (fun t=>[(2,.ptr 0 0 0),(1,I i),(5,.ptr 1 0 0),(6,I t.2)]) (fun _=>[(1,.row 3 [w.av] true false),(0,.row 9 [h.cells] true false)]) 2 2 (fun t=>t.2=t.1/\t.1<=i/\(h.ws.take t.1).any (fun v=>v.nm==w.nm)=false) (0,0) ⟨rfl,Qk _,rfl⟩ (Qd _) [] rfl (kps) (kps) ?_
  rintro ⟨k,k'⟩ ⟨hk,hk2,hh⟩
  dsimp only at hk hk2 hh ⊢
  subst hk
  refine bs.av (sx:=nos) hk7 ?_
  by_cases hlt:k<i
  ·have e4:=Zf4 (l:=h.ws) (k:=k) (by omega)
   have e5:h.ws.take (k+1)=h.ws.take k++[h.ws[k]'(by omega)]:=by rw [Qu]
   cases hb2:((h.ws[k]'(by omega)).nm==w.nm) with
   | true =>
    repeat'(first|refine wk1 ?_|(refine wk2 ?_ ?_<;>intro _)|fail)
    ·exact Zb (by
      have:(h.ws.take i).any (fun v=>v.nm==w.nm)=true:=by
       rw [Ws]
       exact ⟨h.ws[k]'(by omega),Oi.2 ⟨k,by omega,rfl⟩,hb2⟩
      rw [Zdv,hnm,if_pos rfl,this,if_pos rfl])
    ·rename_i hx; rw [hb2] at hx; cases hx
   | false =>
    repeat'(first|refine wk1 ?_|(refine wk2 ?_ ?_<;>intro _)|fail)
    ·rename_i hx; rw [hb2] at hx; cases hx
    ·exact Qr ⟨(k+1,_),[],rfl,kps,kps,⟨Zg (by omega),hlt,by rw [e5,Mf,hh]; simp [hb2]⟩,by dsimp only; omega⟩
  ·have hki:k=i:=by omega
   subst hki
   have m1:=Zcn h w.mt
   have m2:=Zcn h w.cu
   have m3:=Vw (h:=h) (k:=k) (by omega)
   have e9:Zdv h k w=if (w.nm==Xy)||(w.nm==Za1) then 5 else if decide (Zw w.mt 0 h.ms<0)||(!(w.cu==⟨#[]⟩)&&decide (Zw w.cu 0 h.ms<0)) then 6 else Zbd (lnOf h.cs k):=by
    rw [Zdv,hnm,if_pos rfl,hh,if_neg (by simp)]
   rw [e9]
   generalize lnOf h.cs k=L at *
   obtain ⟨lx,ly,ldx,ldy⟩:=L
   repeat'(first|refine wk1 ?_|(refine wk2 ?_ ?_<;>intro _)|fail)
   all_goals (clear e9 m1 m2 m3 e1 e3 hk7 hh hs hw hb hi hk2 hlt hwc hf ht hl)
   all_goals exact Zb (by by_cases hx:ldx=0<;>by_cases hy:ldy=0<;>simp_all [Zbd,Xy,Za1])
def plc (n:Int):Bool:=within n (-5000) 5000
def Zgj (h:Hal) (i:Nat) (w:Sea):Int :=
 if Yt w.nm then (if (h.ss.take i).any (fun v=>v.nm==w.nm) then 5 else if plc w.x&&plc w.y&&plc w.z then (if Zio h ⟨w.x,w.y,w.z,1⟩ then 0 else 24) else 2) else 4
theorem c167 {h:Hal} (hf:h.few) (ht:h.texts) (hwc:h.ws.length=h.cs.length) (hz:h.nz) {i:Nat} (hi:i<h.ss.length):PCall Tryz.prog 46 [h.av,I i] ⟨I (Zgj h i h.ss[i]),[]⟩:=by
 have e3:=Zb1 h.ss
 have e1:=Zn2 hi
 have hs:=ht.ss _ (Qq hi)
 have hl:=hf.2.2.2.2.1
 generalize hw:h.ss[i]=w at *
 have hk7:=Zi (c52 hf hwc hz ⟨w.x,w.y,w.z,1⟩) (Zok hf)
 refine pn hk7 Tryz.func46 ?_
 repeat'(first|refine wk1 ?_|(refine wk2 ?_ ?_<;>intro _)|fail)
 ·exact Zb (by clear e1 e3 hk7; simp_all [Zgj])
 ·rename_i hb
  have hnm:Yt w.nm=true:=by simpa using hb
  refine Zo (S:=Nat × Int) (fun t=>i-t.1) (fun t=>[(2,.ptr 0 0 0),(1,I i),(5,.ptr 1 0 0),(6,I t.2)]) (fun _=>[(1,.row 4 [w.av] true false),(0,.row 9 [h.cells] true false)]) 2 2 (fun t=>t.2=t.1/\t.1<=i/\(h.ss.take t.1).any (fun v=>v.nm==w.nm)=false) (0,0) ⟨rfl,Qk _,rfl⟩ (Qd _) [] rfl (kps) (kps) ?_
  rintro ⟨k,k'⟩ ⟨hk,hk2,hh⟩
  dsimp only at hk hk2 hh ⊢
  subst hk
  refine bs.av (sx:=nos) hk7 ?_
  by_cases hlt:k<i
  ·have e4:=Zn2 (l:=h.ss) (k:=k) (by omega)
   have e5:h.ss.take (k+1)=h.ss.take k++[h.ss[k]'(by omega)]:=by rw [Qu]
   cases hb2:((h.ss[k]'(by omega)).nm==w.nm) with
   | true =>
    repeat'(first|refine wk1 ?_|(refine wk2 ?_ ?_<;>intro _)|fail)
    ·exact Zb (by
      have:(h.ss.take i).any (fun v=>v.nm==w.nm)=true:=by
       rw [Ws]
       exact ⟨h.ss[k]'(by omega),Oi.2 ⟨k,by omega,rfl⟩,hb2⟩
      rw [Zgj,hnm,if_pos rfl,this,if_pos rfl])
    ·rename_i hx; rw [hb2] at hx; cases hx
   | false =>
    repeat'(first|refine wk1 ?_|(refine wk2 ?_ ?_<;>intro _)|fail)
    ·rename_i hx; rw [hb2] at hx; cases hx
    ·exact Qr ⟨(k+1,_),[],rfl,kps,kps,⟨Zg (by omega),hlt,by rw [e5,Mf,hh]; simp [hb2]⟩,by dsimp only; omega⟩
  ·have hki:k=i:=by omega
   subst hki
   have e9:Zgj h k w=if plc w.x&&plc w.y&&plc w.z then (if Zio h ⟨w.x,w.y,w.z,1⟩ then 0 else 24) else 2:=by
    rw [Zgj,hnm,if_pos rfl,hh,if_neg (by simp)]
   rw [e9]
   repeat'(first|refine wk1 ?_|(refine wk2 ?_ ?_<;>intro _)|fail)
   all_goals (clear e9 e1 e3 hk7 hh hs hw hb hi hk2 hlt hwc hf ht hl hz)
   all_goals exact Zb (by simp_all [plc])
def edges (c:Can):List Ln:=[Zh3 c,Zh2 c,Zh1 c,Zh0 c]
def Xj (h:Hal) (l:Ln):Bool:=(lns h.cs).any fun m=>l.touch m
def Yo (h:Hal):List Ln->Bool
 | []=>true
 | l::r=>if Zz h l.a then (if Xj h l then false else Yo h r) else false
def Zb7 (h:Hal) (c:Can):Bool:=Yo h (edges c) && !(h.cs.any fun p=>Zfq c ⟨p.1,p.2,0,1⟩)
def Zds (h:Hal) (i:Nat) (c:Can):Int :=
 if Yt c.nm then (if (c.nm==Xy)||(c.nm==Za1) then 5 else if h.ws.any (fun v=>v.nm==c.nm) then 5 else if (h.ks.take i).any (fun v=>v.nm==c.nm) then 5 else
  if decide (Zw c.mt 0 h.ms<0) then 6 else if within c.hs.length 1 4 then (if Zce h.ht none c.hs=0 then (if plc c.fx&&plc c.fy&&plc c.tx&&plc c.ty then (if decide (c.fx=c.tx)||decide (c.fy=c.ty) then 11 else if Zb7 h c then 0 else 24) else 2) else Zce h.ht none c.hs) else 10) else 4
noncomputable abbrev plans (h:Hal):List AV->Option PRes:=famA (fun _=>True) (fun p:Pt=>[h.av,p.av]) (fun p=>⟨Bo (Zz h p),[]⟩)
theorem Zd0 (h:Hal) (p:Pt):plans h [h.av,p.av]=some ⟨Bo (Zz h p),[]⟩ :=
 Xb (g:=fun p:Pt=>[h.av,p.av]) (r:=fun p=>⟨Bo (Zz h p),[]⟩) (fun j hj=>by
  obtain ⟨a,b,u,d⟩:=j
  obtain ⟨a',b',u',d'⟩:=p
  simp_all [Pt.av]) trivial
noncomputable abbrev bnds (c:Can):List AV->Option PRes:=famA (fun _=>True) (fun p:Pt=>[.agg c.av,p.av]) (fun p=>⟨Bo (Zfq c p),[]⟩)
theorem Zwb (c:Can) (p:Pt):bnds c [.agg c.av,p.av]=some ⟨Bo (Zfq c p),[]⟩ :=
 Xb (g:=fun p:Pt=>[.agg c.av,p.av]) (r:=fun p=>⟨Bo (Zfq c p),[]⟩) (fun j hj=>by
  obtain ⟨a,b,u,d⟩:=j
  obtain ⟨a',b',u',d'⟩:=p
  simp_all [Pt.av]) trivial
noncomputable def kR8 (h:Hal) (c:Can):PC:=ins 68 (plans h) (ins 69 (bnds c) (kR7 h))
theorem Yag {h:Hal} (hf:h.few) (hwc:h.ws.length=h.cs.length) (hz:h.nz) (c:Can):PCOK Tryz.prog (kR8 h c) :=
 Ya (fun p _=>c106 hf hwc hz p) (Ya (fun p _=>c191 c p) (Zok hf))
theorem Zn1 {a b:Int} (ha:within a (-5000) 5000=true) (hb:within b (-5000) 5000=true) (h:decide (a=b)=false):imax (size (Qa Qb (b-a))) (size 0)≠0/\imax (size (Qa Qb (0-Qa Qb (b-a)))) (size 0)≠0/\imax (size 0) (size (Qa Qb (b-a)))≠0/\imax (size 0) (size (Qa Qb (0-Qa Qb (b-a))))≠0:=by
 simp only [within,Qc,decide_eq_true_eq] at ha hb
 have h':=of_decide_eq_false h
 have w1:Qa Qb (b-a)=b-a:=W_eq (by omega) (by omega)
 have w2:Qa Qb (0-(b-a))=0-(b-a):=W_eq (by omega) (by omega)
 have w3:Qa Qb (0-(0-(b-a)))=0-(0-(b-a)):=W_eq (by omega) (by omega)
 have w4:Qa Qb (0-0)=0:=W_eq (by omega) (by omega)
 rw [w1,w2]
 simp only [size]
 rw [w2,w3,w4]
 simp only [imax,Bool.cond_decide]
 refine ⟨?_,?_,?_,?_⟩<;>(repeat' split)<;>omega
theorem c166 {h:Hal} (hf:h.few) (ht:h.texts) (hwc:h.ws.length=h.cs.length) (hz:h.nz) {i:Nat} (hi:i<h.ks.length):PCall Tryz.prog 45 [h.av,I i] ⟨I (Zds h i h.ks[i]),[]⟩:=by
 have e3:=Xq h.ks
 have e1:=Zfi hi
 have hs:=ht.ks _ (Qq hi)
 have hl:=hf.2.2.2.1
 have hlw:=hf.2.2.1
 have ew:=Yn h.ws
 generalize hw:h.ks[i]=c at *
 have hk7:=Zi (c200 c) (Yag hf hwc hz c)
 refine pn hk7 Tryz.func45 ?_
 repeat'(first|refine wk1 ?_|(refine wk2 ?_ ?_<;>intro _)|fail)
 ·exact Zb (by clear e1 e3 hk7 hw; simp_all [Zds])
 ·exact Zb (by clear e1 e3 hk7 hw; simp_all [Zds,Xy,Za1])
 ·exact Zb (by clear e1 e3 hk7 hw; simp_all [Zds,Xy,Za1])
 rename_i hb1 hb2 hb3
 have r0:Zds h i c=if h.ws.any (fun v=>v.nm==c.nm) then 5 else if (h.ks.take i).any (fun v=>v.nm==c.nm) then 5 else
  if decide (Zw c.mt 0 h.ms<0) then 6 else if within c.hs.length 1 4 then (if Zce h.ht none c.hs=0 then (if plc c.fx&&plc c.fy&&plc c.tx&&plc c.ty then (if decide (c.fx=c.tx)||decide (c.fy=c.ty) then 11 else if Zb7 h c then 0 else 24) else 2) else Zce h.ht none c.hs) else 10:=by
  have q1:Yt c.nm=true:=by simpa using hb1
  have q2:((c.nm==Xy)||(c.nm==Za1))=false:=by
   have q3:(c.nm==Xy)=false:=by simpa [Xy] using hb2
   have q4:(c.nm==Za1)=false:=by simpa [Za1] using hb3
   rw [q3,q4]; rfl
  rw [Zds,q1,if_pos rfl,q2,if_neg (by simp)]
 rw [r0]
 clear r0 hb1 hb2 hb3
 refine Zo (S:=Nat × Int) (fun t=>h.ws.length-t.1) (fun t=>[(2,.ptr 0 0 0),(1,I i),(5,.ptr 1 0 0),(6,I t.2)]) (fun _=>[(1,.row 7 [c.av] true false),(0,.row 9 [h.cells] true false)]) 2 2 (fun t=>t.2=t.1/\t.1<=h.ws.length/\(h.ws.take t.1).any (fun v=>v.nm==c.nm)=false) (0,0) ⟨rfl,Qk _,rfl⟩ (Qd _) [] rfl (kps) (kps) ?_
 rintro ⟨k,k'⟩ ⟨hk,hk2,hh⟩
 dsimp only at hk hk2 hh ⊢
 subst hk
 refine bs.av (sx:=nos) hk7 ?_
 by_cases hlt:k<h.ws.length
 ·have e4:=Zf4 (l:=h.ws) hlt
  have e5:h.ws.take (k+1)=h.ws.take k++[h.ws[k]]:=by rw [Qu]
  cases hb2:(h.ws[k].nm==c.nm) with
  | true =>
   repeat'(first|refine wk1 ?_|(refine wk2 ?_ ?_<;>intro _)|fail)
   ·exact Zb (by
     have:h.ws.any (fun v=>v.nm==c.nm)=true:=Ws.2 ⟨h.ws[k],Qq hlt,hb2⟩
     rw [this,if_pos rfl])
   ·rename_i hx; rw [hb2] at hx; cases hx
  | false =>
   repeat'(first|refine wk1 ?_|(refine wk2 ?_ ?_<;>intro _)|fail)
   ·rename_i hx; rw [hb2] at hx; cases hx
   ·exact Qr ⟨(k+1,_),[],rfl,kps,kps,⟨Zg (by omega),hlt,by rw [e5,Mf,hh]; simp [hb2]⟩,by dsimp only; omega⟩
 have r1:h.ws.any (fun v=>v.nm==c.nm)=false:=by rwa [Rr (by omega)] at hh
 rw [r1,if_neg (by simp)]
 repeat'(first|refine wk1 ?_|(refine wk2 ?_ ?_<;>intro _)|fail)
 clear r1 hh hlt hk2
 refine Zo (S:=Nat × Int) (fun t=>i-t.1) (fun t=>[(2,.ptr 0 0 0),(1,I i),(5,.ptr 1 0 0),(7,I t.2)]) (fun _=>[(1,.row 7 [c.av] true false),(0,.row 9 [h.cells] true false)]) 2 2 (fun t=>t.2=t.1/\t.1<=i/\(h.ks.take t.1).any (fun v=>v.nm==c.nm)=false) (0,0) ⟨rfl,Qk _,rfl⟩ (Qd _) [] rfl (kps) (kps) ?_
 rintro ⟨q,q'⟩ ⟨hk,hk2,hh⟩
 dsimp only at hk hk2 hh ⊢
 subst hk
 refine bs.av (sx:=nos) hk7 ?_
 by_cases hlt:q<i
 ·have e4:=Zfi (l:=h.ks) (k:=q) (by omega)
  have e5:h.ks.take (q+1)=h.ks.take q++[h.ks[q]'(by omega)]:=by rw [Qu]
  cases hb2:((h.ks[q]'(by omega)).nm==c.nm) with
  | true =>
   repeat'(first|refine wk1 ?_|(refine wk2 ?_ ?_<;>intro _)|fail)
   ·exact Zb (by
     have:(h.ks.take i).any (fun v=>v.nm==c.nm)=true:=by
      rw [Ws]
      exact ⟨h.ks[q]'(by omega),Oi.2 ⟨q,by omega,rfl⟩,hb2⟩
     rw [this,if_pos rfl])
   ·rename_i hx; rw [hb2] at hx; cases hx
  | false =>
   repeat'(first|refine wk1 ?_|(refine wk2 ?_ ?_<;>intro _)|fail)
   ·rename_i hx; rw [hb2] at hx; cases hx
   ·exact Qr ⟨(q+1,_),[],rfl,kps,kps,⟨Zg (by omega),hlt,by rw [e5,Mf,hh]; simp [hb2]⟩,by dsimp only; omega⟩
 have hki:q=i:=by omega
 subst hki
 rw [hh,if_neg (by simp)]
 clear hlt hk2 hh
 have m1:=Zcn h c.mt
 have e7:=Ze c.hs
 have hlc:c.hs.length<1000:=by have:=hf.2.2.2.2.2 _ (Qq hi); rwa [hw] at this
 repeat'(first|refine wk1 ?_|(refine wk2 ?_ ?_<;>intro _)|fail)
 ·rename_i hx; exact Zb (by rw [hx,if_pos rfl])
 ·rename_i hx hy
  exact Zb (by
   rw [hx,if_neg (by simp)]
   have:within c.hs.length 1 4=false:=by rw [<-e7]; simpa using hy
   rw [this,if_neg (by simp)])
 rename_i hx hy
 have r2:within c.hs.length 1 4=true:=by rw [<-e7]; simpa using hy
 rw [hx,if_neg (by simp),r2,if_pos rfl]
 clear hx hy r2 m1
 refine Zo (S:=Nat × Int) (fun t=>c.hs.length-t.1) (fun t=>[(2,.ptr 0 0 0),(1,I q),(5,.ptr 1 0 0),(8,I t.2)]) (fun _=>[(1,.row 7 [c.av] true false),(0,.row 9 [h.cells] true false)]) 2 2
  (fun t=>t.2=t.1/\t.1<=c.hs.length/\Zce h.ht (Xg c.hs t.1) (c.hs.drop t.1)=Zce h.ht none c.hs) (0,0) ⟨rfl,Qk _,rfl⟩ (Qd _) [] rfl (kps) (kps) ?_
 rintro ⟨j,j'⟩ ⟨hj,hj2,hh⟩
 dsimp only at hj hj2 hh ⊢
 subst hj
 refine bs.av (sx:=nos) hk7 ?_
 by_cases hlt:j<c.hs.length
 ·have e8:=Yz hlt
  rw [Qg hlt,Zir] at hh
  have e4:Qa Qb ((j:Int)-1)=(j:Int)-1:=W_eq (by omega) (by omega)
  have hh:=hh.symm
  cases j with
  | zero =>
   repeat'(first|refine wk1 ?_|(refine wk2 ?_ ?_<;>intro _)|fail)
   all_goals (clear hk7 e1 e8 hw)
   ·exact Zb (by rw [hh]; simp_all [Xg])
   ·exact Qr ⟨(1,_),[],rfl,kps,kps,⟨by exact Zg (k:=0) (by omega),hlt,by rw [hh]; simp_all [Xg]⟩,by dsimp only; omega⟩
  | succ j =>
   have e5:(nl c.hs)[(Qa Qb (((j+1:Nat):Int)-1)).toNat]?=some [I c.hs[j]]:=by
    rw [e4,show ((j+1:Nat):Int)-1=(j:Int) by omega]; exact Yz (by omega)
   have e6:Xg c.hs (j+1)=some c.hs[j]:=by simp [Xg,show j<c.hs.length by omega]
   rw [e6] at hh
   repeat'(first|refine wk1 ?_|(refine wk2 ?_ ?_<;>intro _)|fail)
   all_goals (clear e8 e5 hk7 e1 hw)
   ·exact Zb (by rw [hh]; clear hh; simp_all)
   ·exact Zb (by rw [hh]; clear hh; simp_all)
   ·exact Qr ⟨(j+2,_),[],rfl,kps,kps,⟨by exact Zg (k:=j+1) (by omega),hlt,by rw [hh,if_pos (by clear hh; simp_all),if_neg (by clear hh; simp_all)]; simp [Xg,hlt]⟩,by dsimp only; omega⟩
 rw [Qj (by omega)] at hh
 have r3:Zce h.ht none c.hs=0:=by rw [<-hh]; cases Xg c.hs j<;>rfl
 rw [r3,if_pos rfl]
 clear hh r3
 repeat'(first|refine wk1 ?_|(refine wk2 ?_ ?_<;>intro _)|fail)
 ·exact Zb (by simp_all [plc])
 ·exact Zb (by simp_all [plc])
 ·exact Zb (by simp_all [plc])
 ·exact Zb (by simp_all [plc])
 ·exact Zb (by simp_all [plc])
 ·exact Zb (by simp_all [plc])
 rename_i g6 g5 g4 g3 g2 g1
 simp only [cond_false,Bool.not_eq_false'] at g1 g2 g3 g4 g5 g6
 have r4:(if plc c.fx&&plc c.fy&&plc c.tx&&plc c.ty then (if decide (c.fx=c.tx)||decide (c.fy=c.ty) then 11 else if Zb7 h c then 0 else 24) else 2)=if Zb7 h c then (0:Int) else 24:=by
  simp [plc, *]
 rw [r4]
 clear r4 hlt hj2 hlc e7
 have hn1:(Zh3 c).n≠0:=(Zn1 g6 g4 g2).1
 have hn3:(Zh1 c).n≠0:=(Zn1 g6 g4 g2).2.1
 have hn2:(Zh2 c).n≠0:=(Zn1 g5 g3 g1).2.2.1
 have hn4:(Zh0 c).n≠0:=(Zn1 g5 g3 g1).2.2.2
 have ew2:(h.ws.map Wal.av).length=h.cs.length:=by rw [ew,hwc]
 have hlc:=hf.2.1
 clear g1 g2 g3 g4 g5 g6
 have r5:Zb7 h c=(Yo h [Zh3 c,Zh2 c,Zh1 c,Zh0 c] && !(h.cs.any fun p=>Zfq c ⟨p.1,p.2,0,1⟩)):=rfl
 generalize Zh3 c=L1 at *
 generalize Zh2 c=L2 at *
 generalize Zh1 c=L3 at *
 generalize Zh0 c=L4 at *
 obtain ⟨x1,y1,u1,v1⟩:=L1
 obtain ⟨x2,y2,u2,v2⟩:=L2
 obtain ⟨x3,y3,u3,v3⟩:=L3
 obtain ⟨x4,y4,u4,v4⟩:=L4
 rw [r5]
 clear r5
 generalize hTL:(!(h.cs.any fun p=>Zfq c ⟨p.1,p.2,0,1⟩))=TL
 generalize hB:(Yo h [⟨x1,y1,u1,v1⟩,⟨x2,y2,u2,v2⟩,⟨x3,y3,u3,v3⟩,⟨x4,y4,u4,v4⟩]&&TL)=B
 refine Zo (S:=Nat × Int) (fun t=>4-t.1) (fun t=>[(2,.ptr 0 0 0),(1,I q),(5,.ptr 1 0 0),(9,.ptr 2 0 0),(10,I t.2)]) (fun _=>[(2,.row 16 [[I x1,I y1,I u1,I v1,I x2,I y2,I u2,I v2,I x3,I y3,I u3,I v3,I x4,I y4,I u4,I v4]] true false),(1,.row 7 [c.av] true false),(0,.row 9 [h.cells] true false)]) 3 3
  (fun t=>t.2=t.1/\t.1<=4/\(Yo h ([(Ln.mk x1 y1 u1 v1),(Ln.mk x2 y2 u2 v2),(Ln.mk x3 y3 u3 v3),(Ln.mk x4 y4 u4 v4)].drop t.1)&&TL)=B) (0,0) ⟨rfl,Qk _,hB⟩ (Qd _) [] rfl (kps) (kps) ?_
 clear hB
 rintro ⟨m,m'⟩ ⟨hm,hm2,hh⟩
 dsimp only at hm hm2 hh ⊢
 subst hm
 refine bs.av (sx:=nos) hk7 ?_
 have p1:=Zd0 h (Ln.mk x1 y1 u1 v1).a
 have p2:=Zd0 h (Ln.mk x2 y2 u2 v2).a
 have p3:=Zd0 h (Ln.mk x3 y3 u3 v3).a
 have p4:=Zd0 h (Ln.mk x4 y4 u4 v4).a
 by_cases h4:m<4
 rcases m with _|_|_|_|m
 ·have q1:(if Zz h (Ln.mk x1 y1 u1 v1).a then (if Xj h (Ln.mk x1 y1 u1 v1) then false else Yo h [(Ln.mk x2 y2 u2 v2),(Ln.mk x3 y3 u3 v3),(Ln.mk x4 y4 u4 v4)]) else false:Bool)=Yo h ([(Ln.mk x1 y1 u1 v1),(Ln.mk x2 y2 u2 v2),(Ln.mk x3 y3 u3 v3),(Ln.mk x4 y4 u4 v4)].drop 0):=rfl
  rw [<-q1] at hh
  clear q1
  generalize hT:Yo h [(Ln.mk x2 y2 u2 v2),(Ln.mk x3 y3 u3 v3),(Ln.mk x4 y4 u4 v4)]=T at hh
  repeat'(first|refine wk1 ?_|(refine wk2 ?_ ?_<;>intro _)|fail)
  ·rename_i hx; exact Zb (by rw [<-hh,show Zz h (Ln.mk x1 y1 u1 v1).a=false by simpa using hx]; rfl)
  rename_i hx
  have h3:(!(((lns h.cs).drop 0).any fun m=>(Ln.mk x1 y1 u1 v1).touch m)&&(T&&TL))=B:=by
   rw [<-hh,show Zz h (Ln.mk x1 y1 u1 v1).a=true by simpa using hx,if_pos rfl]
   cases hA:((lns h.cs).any fun m=>(Ln.mk x1 y1 u1 v1).touch m)<;>simp [Xj,hA]
  clear hh hx
  refine Zo (S:=Nat × Int) (fun t=>h.cs.length-t.1) (fun t=>[(2,.ptr 0 0 0),(1,I q),(5,.ptr 1 0 0),(9,.ptr 2 0 0),(10,I 0),(13,I t.2)]) (fun _=>[(2,.row 16 [[I x1,I y1,I u1,I v1,I x2,I y2,I u2,I v2,I x3,I y3,I u3,I v3,I x4,I y4,I u4,I v4]] true false),(1,.row 7 [c.av] true false),(0,.row 9 [h.cells] true false)]) 5 5 (fun t=>t.2=t.1/\t.1<=h.cs.length/\(!(((lns h.cs).drop t.1).any fun m=>(Ln.mk x1 y1 u1 v1).touch m)&&(T&&TL))=B) (0,0) ⟨rfl,Qk _,h3⟩ (Qd _) [] rfl (kps) (kps) ?_
  clear h3
  rintro ⟨r,r'⟩ ⟨hr,hr2,h3⟩
  dsimp only at hr hr2 h3 ⊢
  subst hr
  refine bs.av (sx:=nos) hk7 ?_
  by_cases hlt:r<h.cs.length
  ·rw [Zd3 hlt,Nr] at h3
   have e2:=Vw (h:=h) hlt
   have hn5:=hz r hlt
   generalize lnOf h.cs r=M at *
   obtain ⟨mx,my,mdx,mdy⟩:=M
   have hn6:(Ln.mk x1 y1 u1 v1).n≠0/\(Ln.mk mx my mdx mdy).n≠0:=⟨hn1,hn5⟩
   repeat'(first|refine wk1 ?_|(refine wk2 ?_ ?_<;>intro _)|fail)
   ·rename_i hx; exact Zb (by rw [<-h3,hx]; rfl)
   ·rename_i hx; exact Qr ⟨(r+1,_),[],rfl,kps,kps,⟨Zg (by omega),hlt,by rw [<-h3,hx]; rfl⟩,by dsimp only; omega⟩
  ·rw [Qj (by rw [Uh]; omega)] at h3
   repeat'(first|refine wk1 ?_|(refine wk2 ?_ ?_<;>intro _)|fail)
   exact Qr ⟨(1,_),[],rfl,kps,kps,⟨Zg (k:=0) (by omega),by omega,by rw [<-h3,<-hT]; rfl⟩,by dsimp only; omega⟩
 ·have q1:(if Zz h (Ln.mk x2 y2 u2 v2).a then (if Xj h (Ln.mk x2 y2 u2 v2) then false else Yo h [(Ln.mk x3 y3 u3 v3),(Ln.mk x4 y4 u4 v4)]) else false:Bool)=Yo h ([(Ln.mk x1 y1 u1 v1),(Ln.mk x2 y2 u2 v2),(Ln.mk x3 y3 u3 v3),(Ln.mk x4 y4 u4 v4)].drop 1):=rfl
  rw [<-q1] at hh
  clear q1
  generalize hT:Yo h [(Ln.mk x3 y3 u3 v3),(Ln.mk x4 y4 u4 v4)]=T at hh
  repeat'(first|refine wk1 ?_|(refine wk2 ?_ ?_<;>intro _)|fail)
  ·rename_i hx; exact Zb (by rw [<-hh,show Zz h (Ln.mk x2 y2 u2 v2).a=false by simpa using hx]; rfl)
  rename_i hx
  have h3:(!(((lns h.cs).drop 0).any fun m=>(Ln.mk x2 y2 u2 v2).touch m)&&(T&&TL))=B:=by
   rw [<-hh,show Zz h (Ln.mk x2 y2 u2 v2).a=true by simpa using hx,if_pos rfl]
   cases hA:((lns h.cs).any fun m=>(Ln.mk x2 y2 u2 v2).touch m)<;>simp [Xj,hA]
  clear hh hx
  refine Zo (S:=Nat × Int) (fun t=>h.cs.length-t.1) (fun t=>[(2,.ptr 0 0 0),(1,I q),(5,.ptr 1 0 0),(9,.ptr 2 0 0),(10,I 1),(13,I t.2)]) (fun _=>[(2,.row 16 [[I x1,I y1,I u1,I v1,I x2,I y2,I u2,I v2,I x3,I y3,I u3,I v3,I x4,I y4,I u4,I v4]] true false),(1,.row 7 [c.av] true false),(0,.row 9 [h.cells] true false)]) 5 5 (fun t=>t.2=t.1/\t.1<=h.cs.length/\(!(((lns h.cs).drop t.1).any fun m=>(Ln.mk x2 y2 u2 v2).touch m)&&(T&&TL))=B) (0,0) ⟨rfl,Qk _,h3⟩ (Qd _) [] rfl (kps) (kps) ?_
  clear h3
  rintro ⟨r,r'⟩ ⟨hr,hr2,h3⟩
  dsimp only at hr hr2 h3 ⊢
  subst hr
  refine bs.av (sx:=nos) hk7 ?_
  by_cases hlt:r<h.cs.length
  ·rw [Zd3 hlt,Nr] at h3
   have e2:=Vw (h:=h) hlt
   have hn5:=hz r hlt
   generalize lnOf h.cs r=M at *
   obtain ⟨mx,my,mdx,mdy⟩:=M
   have hn6:(Ln.mk x2 y2 u2 v2).n≠0/\(Ln.mk mx my mdx mdy).n≠0:=⟨hn2,hn5⟩
   repeat'(first|refine wk1 ?_|(refine wk2 ?_ ?_<;>intro _)|fail)
   ·rename_i hx; exact Zb (by rw [<-h3,hx]; rfl)
   ·rename_i hx; exact Qr ⟨(r+1,_),[],rfl,kps,kps,⟨Zg (by omega),hlt,by rw [<-h3,hx]; rfl⟩,by dsimp only; omega⟩
  ·rw [Qj (by rw [Uh]; omega)] at h3
   repeat'(first|refine wk1 ?_|(refine wk2 ?_ ?_<;>intro _)|fail)
   exact Qr ⟨(2,_),[],rfl,kps,kps,⟨Zg (k:=1) (by omega),by omega,by rw [<-h3,<-hT]; rfl⟩,by dsimp only; omega⟩
 ·have q1:(if Zz h (Ln.mk x3 y3 u3 v3).a then (if Xj h (Ln.mk x3 y3 u3 v3) then false else Yo h [(Ln.mk x4 y4 u4 v4)]) else false:Bool)=Yo h ([(Ln.mk x1 y1 u1 v1),(Ln.mk x2 y2 u2 v2),(Ln.mk x3 y3 u3 v3),(Ln.mk x4 y4 u4 v4)].drop 2):=rfl
  rw [<-q1] at hh
  clear q1
  generalize hT:Yo h [(Ln.mk x4 y4 u4 v4)]=T at hh
  repeat'(first|refine wk1 ?_|(refine wk2 ?_ ?_<;>intro _)|fail)
  ·rename_i hx; exact Zb (by rw [<-hh,show Zz h (Ln.mk x3 y3 u3 v3).a=false by simpa using hx]; rfl)
  rename_i hx
  have h3:(!(((lns h.cs).drop 0).any fun m=>(Ln.mk x3 y3 u3 v3).touch m)&&(T&&TL))=B:=by
   rw [<-hh,show Zz h (Ln.mk x3 y3 u3 v3).a=true by simpa using hx,if_pos rfl]
   cases hA:((lns h.cs).any fun m=>(Ln.mk x3 y3 u3 v3).touch m)<;>simp [Xj,hA]
  clear hh hx
  refine Zo (S:=Nat × Int) (fun t=>h.cs.length-t.1) (fun t=>[(2,.ptr 0 0 0),(1,I q),(5,.ptr 1 0 0),(9,.ptr 2 0 0),(10,I 2),(13,I t.2)]) (fun _=>[(2,.row 16 [[I x1,I y1,I u1,I v1,I x2,I y2,I u2,I v2,I x3,I y3,I u3,I v3,I x4,I y4,I u4,I v4]] true false),(1,.row 7 [c.av] true false),(0,.row 9 [h.cells] true false)]) 5 5 (fun t=>t.2=t.1/\t.1<=h.cs.length/\(!(((lns h.cs).drop t.1).any fun m=>(Ln.mk x3 y3 u3 v3).touch m)&&(T&&TL))=B) (0,0) ⟨rfl,Qk _,h3⟩ (Qd _) [] rfl (kps) (kps) ?_
  clear h3
  rintro ⟨r,r'⟩ ⟨hr,hr2,h3⟩
  dsimp only at hr hr2 h3 ⊢
  subst hr
  refine bs.av (sx:=nos) hk7 ?_
  by_cases hlt:r<h.cs.length
  ·rw [Zd3 hlt,Nr] at h3
   have e2:=Vw (h:=h) hlt
   have hn5:=hz r hlt
   generalize lnOf h.cs r=M at *
   obtain ⟨mx,my,mdx,mdy⟩:=M
   have hn6:(Ln.mk x3 y3 u3 v3).n≠0/\(Ln.mk mx my mdx mdy).n≠0:=⟨hn3,hn5⟩
   repeat'(first|refine wk1 ?_|(refine wk2 ?_ ?_<;>intro _)|fail)
   ·rename_i hx; exact Zb (by rw [<-h3,hx]; rfl)
   ·rename_i hx; exact Qr ⟨(r+1,_),[],rfl,kps,kps,⟨Zg (by omega),hlt,by rw [<-h3,hx]; rfl⟩,by dsimp only; omega⟩
  ·rw [Qj (by rw [Uh]; omega)] at h3
   repeat'(first|refine wk1 ?_|(refine wk2 ?_ ?_<;>intro _)|fail)
   exact Qr ⟨(3,_),[],rfl,kps,kps,⟨Zg (k:=2) (by omega),by omega,by rw [<-h3,<-hT]; rfl⟩,by dsimp only; omega⟩
 ·have q1:(if Zz h (Ln.mk x4 y4 u4 v4).a then (if Xj h (Ln.mk x4 y4 u4 v4) then false else Yo h []) else false:Bool)=Yo h ([(Ln.mk x1 y1 u1 v1),(Ln.mk x2 y2 u2 v2),(Ln.mk x3 y3 u3 v3),(Ln.mk x4 y4 u4 v4)].drop 3):=rfl
  rw [<-q1] at hh
  clear q1
  generalize hT:Yo h []=T at hh
  repeat'(first|refine wk1 ?_|(refine wk2 ?_ ?_<;>intro _)|fail)
  ·rename_i hx; exact Zb (by rw [<-hh,show Zz h (Ln.mk x4 y4 u4 v4).a=false by simpa using hx]; rfl)
  rename_i hx
  have h3:(!(((lns h.cs).drop 0).any fun m=>(Ln.mk x4 y4 u4 v4).touch m)&&(T&&TL))=B:=by
   rw [<-hh,show Zz h (Ln.mk x4 y4 u4 v4).a=true by simpa using hx,if_pos rfl]
   cases hA:((lns h.cs).any fun m=>(Ln.mk x4 y4 u4 v4).touch m)<;>simp [Xj,hA]
  clear hh hx
  refine Zo (S:=Nat × Int) (fun t=>h.cs.length-t.1) (fun t=>[(2,.ptr 0 0 0),(1,I q),(5,.ptr 1 0 0),(9,.ptr 2 0 0),(10,I 3),(13,I t.2)]) (fun _=>[(2,.row 16 [[I x1,I y1,I u1,I v1,I x2,I y2,I u2,I v2,I x3,I y3,I u3,I v3,I x4,I y4,I u4,I v4]] true false),(1,.row 7 [c.av] true false),(0,.row 9 [h.cells] true false)]) 5 5 (fun t=>t.2=t.1/\t.1<=h.cs.length/\(!(((lns h.cs).drop t.1).any fun m=>(Ln.mk x4 y4 u4 v4).touch m)&&(T&&TL))=B) (0,0) ⟨rfl,Qk _,h3⟩ (Qd _) [] rfl (kps) (kps) ?_
  clear h3
  rintro ⟨r,r'⟩ ⟨hr,hr2,h3⟩
  dsimp only at hr hr2 h3 ⊢
  subst hr
  refine bs.av (sx:=nos) hk7 ?_
  by_cases hlt:r<h.cs.length
  ·rw [Zd3 hlt,Nr] at h3
   have e2:=Vw (h:=h) hlt
   have hn5:=hz r hlt
   generalize lnOf h.cs r=M at *
   obtain ⟨mx,my,mdx,mdy⟩:=M
   have hn6:(Ln.mk x4 y4 u4 v4).n≠0/\(Ln.mk mx my mdx mdy).n≠0:=⟨hn4,hn5⟩
   repeat'(first|refine wk1 ?_|(refine wk2 ?_ ?_<;>intro _)|fail)
   ·rename_i hx; exact Zb (by rw [<-h3,hx]; rfl)
   ·rename_i hx; exact Qr ⟨(r+1,_),[],rfl,kps,kps,⟨Zg (by omega),hlt,by rw [<-h3,hx]; rfl⟩,by dsimp only; omega⟩
  ·rw [Qj (by rw [Uh]; omega)] at h3
   repeat'(first|refine wk1 ?_|(refine wk2 ?_ ?_<;>intro _)|fail)
   exact Qr ⟨(4,_),[],rfl,kps,kps,⟨Zg (k:=3) (by omega),by omega,by rw [<-h3,<-hT]; rfl⟩,by dsimp only; omega⟩
 ·omega
 have hm4:m=4:=by omega
 have hh:TL=B:=by rw [<-hh,hm4]; rfl
 repeat'(first|refine wk1 ?_|(refine wk2 ?_ ?_<;>intro _)|fail)
 subst hTL
 clear h4 hm2 hm4 p1 p2 p3 p4
 refine Zo (S:=Nat × Int) (fun t=>h.cs.length-t.1) (fun t=>[(2,.ptr 0 0 0),(5,.ptr 1 0 0),(14,I t.2)]) (fun _=>[(1,.row 7 [c.av] true false),(0,.row 9 [h.cells] true false)]) 3 3 (fun t=>t.2=t.1/\t.1<=h.cs.length/\(!((h.cs.drop t.1).any fun p=>Zfq c ⟨p.1,p.2,0,1⟩))=B) (0,0) ⟨rfl,Qk _,hh⟩ (Qd _) [] rfl (kps) (kps) ?_
 clear hh
 rintro ⟨r,r'⟩ ⟨hr,hr2,h3⟩
 dsimp only at hr hr2 h3 ⊢
 subst hr
 refine bs.av (sx:=nos) hk7 ?_
 have e8:(h.cs.map pt).length=h.cs.length:=by simp
 by_cases hlt:r<h.cs.length
 ·rw [Qg hlt,Nr] at h3
  have e4:=Zdb hlt
  have e9:cor h.cs r=h.cs[r]:=by simp [cor,hlt]
  have b1:=Zwb c ⟨(cor h.cs r).1,(cor h.cs r).2,0,1⟩
  rw [<-e9] at h3
  clear e9
  repeat'(first|refine wk1 ?_|(refine wk2 ?_ ?_<;>intro _)|fail)
  ·rename_i hx; exact Zb (by rw [<-h3,hx]; rfl)
  ·rename_i hx; exact Qr ⟨(r+1,_),[],rfl,kps,kps,⟨Zg (by omega),hlt,by rw [<-h3,hx]; rfl⟩,by dsimp only; omega⟩
 ·rw [Qj (by omega)] at h3
  repeat'(first|refine wk1 ?_|(refine wk2 ?_ ?_<;>intro _)|fail)
  exact Zb (by rw [<-h3]; rfl)
theorem Zij {a b A B:Int} (ha : -A<=a/\a<=A) (hb : -B<=b/\b<=B) : -(A*B)<=a*b/\a*b<=A*B:=by
 have h1:a.natAbs<=A.natAbs:=by omega
 have h2:b.natAbs<=B.natAbs:=by omega
 have h3:=Nat.mul_le_mul h1 h2
 rw [<-Gx,<-Gx] at h3
 have h4:0<=A*B:=Int.mul_nonneg (by omega) (by omega)
 omega
theorem Zxy {n v:Int} (hn:0<n):sgn (n*v)=sgn v:=by
 unfold sgn
 rcases Int.lt_trichotomy v 0 with h|h|h
 ·have:=Int.mul_neg_of_pos_of_neg hn h
  rw [if_neg (by omega),if_pos this,if_neg (by omega),if_pos h]
 ·subst h; simp
 ·have:=Nv hn h
  rw [if_pos this,if_pos h]
theorem Zdf {v:Int}:sgn v<0↔v<0:=by unfold sgn; split<;>(try split)<;>omega
theorem Zde {v:Int}:0<sgn v↔0<v:=by unfold sgn; split<;>(try split)<;>omega
theorem Zkf {v:Int}:sgn v=0↔v=0:=by unfold sgn; split<;>(try split)<;>omega
theorem Zwr (v:Int) : -1<=sgn v/\sgn v<=1:=by unfold sgn; split<;>(try split)<;>omega
structure Str (w:Wl) (n sx sy:Int):Prop where
 hn:0<n
 hx:sx=0\/sx=1\/sx = -1
 hy:sy=0\/sy=1\/sy = -1
 hxy:¬(sx=0/\sy=0)
 tx:w.tx=w.fx+n*sx
 ty:w.ty=w.fy+n*sy
 b1 : -5000<=w.fx/\w.fx<=5000
 b2 : -5000<=w.fy/\w.fy<=5000
 b3 : -5000<=w.tx/\w.tx<=5000
 b4 : -5000<=w.ty/\w.ty<=5000
theorem Str.nle {w:Wl} {n sx sy:Int} (h:Str w n sx sy):n<=10000:=by
 obtain ⟨hn,hx,hy,hxy,tx,ty,b1,b2,b3,b4⟩:=h
 rcases hx with rfl|rfl|rfl<;>rcases hy with rfl|rfl|rfl<;>simp at * <;> omega
theorem Str.dx {w:Wl} {n sx sy:Int} (h:Str w n sx sy):w.dx=n*sx:=by
 obtain ⟨hn,hx,hy,hxy,tx,ty,b1,b2,b3,b4⟩:=h
 unfold Wl.dx
 rw [W_eq (by omega) (by omega)]; omega
theorem Str.dy {w:Wl} {n sx sy:Int} (h:Str w n sx sy):w.dy=n*sy:=by
 obtain ⟨hn,hx,hy,hxy,tx,ty,b1,b2,b3,b4⟩:=h
 unfold Wl.dy
 rw [W_eq (by omega) (by omega)]; omega
def Wl.ln (w:Wl):Ln:=⟨w.fx,w.fy,Qa Qb (w.tx-w.fx),Qa Qb (w.ty-w.fy)⟩
theorem Zev (cs:List (Int × Int)) (i:Nat):lnOf cs i=(wlOf cs i).ln:=rfl
theorem Zi5 {n:Int} (h : -9000000000000000000<=n/\n<=9000000000000000000):size n=if n<0 then -n else n:=by
 unfold size imax
 rw [W_eq (by omega) (by omega)]
 split
 ·rw [decide_eq_true (by omega)]; simp
 ·by_cases h0:n=0
  ·subst h0; rfl
  ·rw [decide_eq_false (by omega)]; rfl
theorem Str.ln {w:Wl} {n sx sy:Int} (h:Str w n sx sy):w.ln.dx=n*sx/\w.ln.dy=n*sy/\w.ln.n=n/\w.ln.sx=sx/\w.ln.sy=sy:=by
 have h1:w.ln.dx=n*sx:=h.dx
 have h2:w.ln.dy=n*sy:=h.dy
 have hle:=h.nle
 have hn:=h.hn
 have h3:w.ln.n=n:=by
  unfold Ln.n
  rw [h1,h2]
  have hxy:=h.hxy
  have s0:size 0=0:=by rw [Zi5 (by omega)]; rfl
  have s1:size n=n:=by rw [Zi5 (by omega),if_neg (by omega)]
  have s2:size (-n)=n:=by rw [Zi5 (by omega),if_pos (by omega)]; omega
  have i1:imax n n=n:=by unfold imax; rw [decide_eq_false (by omega)]; rfl
  have i2:imax n 0=n:=by unfold imax; rw [decide_eq_false (by omega)]; rfl
  have i3:imax 0 n=n:=by unfold imax; rw [decide_eq_true (by omega)]; rfl
  rcases h.hx with rfl|rfl|rfl<;>rcases h.hy with rfl|rfl|rfl<;>(try (exact absurd ⟨rfl,rfl⟩ hxy))<;>simp only [Sh,Rw,Sm,s0,s1,s2,i1,i2,i3]
 refine ⟨h1,h2,h3,?_,?_⟩
 ·unfold Ln.sx
  rw [h1,h3,Lk _ (by omega)]
  rcases h.hx with rfl|rfl|rfl<;>rfl
 ·unfold Ln.sy
  rw [h2,h3,Lk _ (by omega)]
  rcases h.hy with rfl|rfl|rfl<;>rfl
structure PtOk (x y d:Int):Prop where
 hd:0<d
 hD:d<=20000000000
 hx : -200000000000000<=x/\x<=200000000000000
 hy : -200000000000000<=y/\y<=200000000000000
def bes (w:Wl) (sx sy x y d:Int):Int:=sx*(y-w.fy*d)-sy*(x-w.fx*d)
def alo (w:Wl) (sx sy x y d:Int):Int:=sx*(x-w.fx*d)+sy*(y-w.fy*d)
theorem Zae {f d:Int} (hf : -5000<=f/\f<=5000) (hd:0<d) : -(5000*d)<=f*d/\f*d<=5000*d:=Zij hf (by omega)
theorem Za2 {w:Wl} {n sx sy x y d z:Int} (h:Str w n sx sy) (hp:PtOk x y d):w.ln.beside ⟨x,y,z,d⟩=bes w sx sy x y d:=by
 obtain ⟨_,_,_,h4,h5⟩:=h.ln
 unfold Ln.beside bes
 rw [h4,h5]
 show Qa Qb (Qa Qb (sx*Qa Qb (y-Qa Qb (w.fy*d)))-Qa Qb (sy*Qa Qb (x-Qa Qb (w.fx*d))))=_
 have a1:=Zae h.b1 hp.hd
 have a2:=Zae h.b2 hp.hd
 have a3:=hp.hD
 have a4:=hp.hx
 have a5:=hp.hy
 have a6:=hp.hd
 generalize w.fx*d=A at *
 generalize w.fy*d=C at *
 rw [W_eq (n:=C) (by omega) (by omega),W_eq (n:=A) (by omega) (by omega),W_eq (n:=y-C) (by omega) (by omega),W_eq (n:=x-A) (by omega) (by omega)]
 have hx:=h.hx
 have hy:=h.hy
 rcases hx with rfl|rfl|rfl<;>rcases hy with rfl|rfl|rfl<;>simp only [Tg,Wf,Tn]<;>simp only [Sy]<;>omega
theorem Zwj {w:Wl} {n sx sy x y d z:Int} (h:Str w n sx sy) (hp:PtOk x y d):w.ln.along ⟨x,y,z,d⟩=alo w sx sy x y d:=by
 obtain ⟨_,_,_,h4,h5⟩:=h.ln
 unfold Ln.along alo
 rw [h4,h5]
 show Qa Qb (Qa Qb (sx*Qa Qb (x-Qa Qb (w.fx*d)))+Qa Qb (sy*Qa Qb (y-Qa Qb (w.fy*d))))=_
 have a1:=Zae h.b1 hp.hd
 have a2:=Zae h.b2 hp.hd
 have a3:=hp.hD
 have a4:=hp.hx
 have a5:=hp.hy
 have a6:=hp.hd
 generalize w.fx*d=A at *
 generalize w.fy*d=C at *
 rw [W_eq (n:=C) (by omega) (by omega),W_eq (n:=A) (by omega) (by omega),W_eq (n:=y-C) (by omega) (by omega),W_eq (n:=x-A) (by omega) (by omega)]
 have hx:=h.hx
 have hy:=h.hy
 rcases hx with rfl|rfl|rfl<;>rcases hy with rfl|rfl|rfl<;>simp only [Tg,Wf,Tn]<;>simp only [Sy]<;>omega
theorem Zyu {w:Wl} {n sx sy:Int} (h:Str w n sx sy):w.ln.full=n*(sx*sx+sy*sy):=by
 obtain ⟨_,_,h3,h4,h5⟩:=h.ln
 unfold Ln.full
 rw [h3,h4,h5]
 have hn:=h.hn
 have hle:=h.nle
 have hx:=h.hx
 have hy:=h.hy
 rcases hx with rfl|rfl|rfl<;>rcases hy with rfl|rfl|rfl<;>simp [Sy]<;>omega
theorem Xt {w:Wl} {n sx sy x y d:Int} (h:Str w n sx sy) (hp:PtOk x y d):w.side x y d=sgn (bes w sx sy x y d):=by
 unfold Wl.side bes
 rw [h.dx,h.dy]
 refine Eq.trans ?_ (Zxy h.hn)
 have a1:=Zae h.b1 hp.hd
 have a2:=Zae h.b2 hp.hd
 have a3:=hp.hD
 have a4:=hp.hx
 have a5:=hp.hy
 have a6:=hp.hd
 have hn:=h.hn
 have hle:=h.nle
 generalize w.fx*d=A at *
 generalize w.fy*d=C at *
 have b1 : -(10000*300000000000000)<=n*(y-C)/\n*(y-C)<=10000*300000000000000:=Zij (by omega) (by omega)
 have b2 : -(10000*300000000000000)<=n*(x-A)/\n*(x-A)<=10000*300000000000000:=Zij (by omega) (by omega)
 rw [W_eq (n:=C) (by omega) (by omega),W_eq (n:=A) (by omega) (by omega),W_eq (n:=y-C) (by omega) (by omega),W_eq (n:=x-A) (by omega) (by omega)]
 congr 1
 have hx:=h.hx
 have hy:=h.hy
 rw [show n*(sx*(y-C)-sy*(x-A))=sx*(n*(y-C))-sy*(n*(x-A)) by grind,show n*sx*(y-C)=sx*(n*(y-C)) by grind,show n*sy*(x-A)=sy*(n*(x-A)) by grind]
 generalize n*(y-C)=P at *
 generalize n*(x-A)=Q at *
 rcases hx with rfl|rfl|rfl<;>rcases hy with rfl|rfl|rfl<;>simp only [Tg,Wf,Tn]<;>simp only [Sy]<;>omega
def onW (w:Wl) (n sx sy x y d:Int):Prop:=bes w sx sy x y d=0/\0<=alo w sx sy x y d/\alo w sx sy x y d<=n*(sx*sx+sy*sy)*d
theorem Zz7 {n d:Int} (hn:0<n) (hle:n<=10000) (hd:0<d):0<n*d/\n*d<=10000*d:=by
 have:=Zij (a:=n) (b:=d) (A:=10000) (B:=d) (by omega) (by omega)
 exact ⟨Nv hn hd,this.2⟩
theorem Zva {w:Wl} {n sx sy x y d z:Int} (h:Str w n sx sy) (hp:PtOk x y d):w.ln.has ⟨x,y,z,d⟩=true↔onW w n sx sy x y d:=by
 unfold Ln.has onW
 rw [Za2 h hp,Zwj h hp,Zyu h,Qc,decide_eq_true_eq,within_iff]
 have hb:Qa Qb (n*(sx*sx+sy*sy)*d)=n*(sx*sx+sy*sy)*d:=by
  have:=Zz7 h.hn h.nle hp.hd
  have:=hp.hD
  rcases h.hx with rfl|rfl|rfl<;>rcases h.hy with rfl|rfl|rfl<;>simp only [Sh,Rw,Sm,Tg,Tn,Sr,Sz,Sp]<;>(try rw [show n*(1+1)*d=2*(n*d) by grind])<;>exact W_eq (by omega) (by omega)
 rw [hb]
theorem Uv {w:Wl} {n sx sy x y d:Int} (h:Str w n sx sy) (hp:PtOk x y d):w.has x y d=true↔onW w n sx sy x y d:=by
 unfold Wl.has onW
 rw [Xt h hp,Qc,Qc,decide_eq_true_eq,within_iff,within_iff,Zkf]
 have a1:=Zae h.b1 hp.hd
 have a2:=Zae h.b2 hp.hd
 have a3:=Zz7 h.hn h.nle hp.hd
 have a4:=hp.hD
 have hn:=h.hn
 unfold bes alo
 rw [h.tx,h.ty]
 have hxy:=h.hxy
 have f7:n*(1+1)*d=2*(n*d):=by grind
 have e1:imin w.fx (w.fx+n)=w.fx:=by unfold imin; rw [decide_eq_false (by omega)]; rfl
 have e2:imin w.fx (w.fx + -n)=w.fx + -n:=by unfold imin; rw [decide_eq_true (by omega)]; rfl
 have e3:imin w.fx w.fx=w.fx:=by unfold imin; rw [decide_eq_false (by omega)]; rfl
 have e4:imax w.fx (w.fx+n)=w.fx+n:=by unfold imax; rw [decide_eq_true (by omega)]; rfl
 have e5:imax w.fx (w.fx + -n)=w.fx:=by unfold imax; rw [decide_eq_false (by omega)]; rfl
 have e6:imax w.fx w.fx=w.fx:=by unfold imax; rw [decide_eq_false (by omega)]; rfl
 have f1:imin w.fy (w.fy+n)=w.fy:=by unfold imin; rw [decide_eq_false (by omega)]; rfl
 have f2:imin w.fy (w.fy + -n)=w.fy + -n:=by unfold imin; rw [decide_eq_true (by omega)]; rfl
 have f3:imin w.fy w.fy=w.fy:=by unfold imin; rw [decide_eq_false (by omega)]; rfl
 have f4:imax w.fy (w.fy+n)=w.fy+n:=by unfold imax; rw [decide_eq_true (by omega)]; rfl
 have f5:imax w.fy (w.fy + -n)=w.fy:=by unfold imax; rw [decide_eq_false (by omega)]; rfl
 have f6:imax w.fy w.fy=w.fy:=by unfold imax; rw [decide_eq_false (by omega)]; rfl
 rcases h.hx with rfl|rfl|rfl<;>rcases h.hy with rfl|rfl|rfl<;>simp only [Sh,Rw,Sm,Tg,Tn,Wf,Sr,Sz,Sp,Int.add_mul,f7,e1,e2,e3,e4,e5,e6,f1,f2,f3,f4,f5,f6]<;>(try (exact absurd ⟨rfl,rfl⟩ hxy))<;>generalize w.fx*d=A at * <;> generalize w.fy*d=C at * <;> generalize n*d=M at *
 all_goals repeat rw [W_eq (by omega) (by omega)]
 all_goals omega
theorem Zd6 {w:Wl} {n sx sy x y d z:Int} (h:Str w n sx sy) (hp:PtOk x y d):w.has x y d=w.ln.has ⟨x,y,z,d⟩:=by
 rw [Si,Uv h hp,Zva h hp]
theorem Yl {x y:Int} (h1 : -5000<=x/\x<=5000) (h2 : -5000<=y/\y<=5000):PtOk x y 1:=⟨by omega,by omega,by omega,by omega⟩
theorem ln_a (w:Wl):w.ln.a=⟨w.fx,w.fy,0,1⟩:=rfl
theorem ln_b {w:Wl} {n sx sy:Int} (h:Str w n sx sy):w.ln.b=⟨w.tx,w.ty,0,1⟩:=by
 obtain ⟨h1,h2,_⟩:=h.ln
 unfold Ln.b
 rw [h1,h2]
 have e1:Qa Qb (w.ln.x+n*sx)=w.tx:=by rw [h.tx]; exact W_eq (by have:=h.b3; have:=h.tx; show _<=w.fx+_; omega) (by have:=h.b3; have:=h.tx; show w.fx+_<=_; omega)
 have e2:Qa Qb (w.ln.y+n*sy)=w.ty:=by rw [h.ty]; exact W_eq (by have:=h.b4; have:=h.ty; show _<=w.fy+_; omega) (by have:=h.b4; have:=h.ty; show w.fy+_<=_; omega)
 rw [e1,e2]
theorem Ybn (a b:Int):Qa Qb (sgn a*sgn b)=sgn a*sgn b:=by
 have:=Zij (A:=1) (B:=1) (Zwr a) (Zwr b)
 exact W_eq (by omega) (by omega)
theorem Zgg {a b:Int}:sgn a*sgn b<0↔(a<0/\0<b)\/(0<a/\b<0):=by
 unfold sgn
 split<;>split<;>(try split)<;>(try split)<;>simp<;>omega
theorem Zep {w o:Wl} {n sx sy m tx ty:Int} (h:Str w n sx sy) (g:Str o m tx ty):w.touches o=w.ln.touch o.ln:=by
 have p1:=Yl g.b1 g.b2
 have p2:=Yl g.b3 g.b4
 have p3:=Yl h.b1 h.b2
 have p4:=Yl h.b3 h.b4
 unfold Wl.touches Ln.touch
 rw [ln_b h,ln_b g,ln_a,ln_a,<-Zd6 h p1,<-Zd6 h p2,<-Zd6 g p3,<-Zd6 g p4,Za2 h p1,Za2 h p2,Za2 g p3,Za2 g p4,Xt h p1,Xt h p2,Xt g p3,Xt g p4]
 exact Bool.or_comm _ _
theorem Zq2 {w o:Wl} {n sx sy m tx ty:Int} (h:Str w n sx sy) (g:Str o m tx ty):w.turnsBack o=true↔tx = -sx/\ty = -sy:=by
 unfold Wl.turnsBack
 rw [h.dx,h.dy,g.dx,g.dy]
 have a1:=h.nle
 have a2:=g.nle
 have hn:=h.hn
 have hm:=g.hn
 have hxy:=h.hxy
 have gxy:=g.hxy
 have b1:0<n*m:=Nv hn hm
 have b2:=(Zij (a:=n) (b:=m) (A:=10000) (B:=10000) (by omega) (by omega)).2
 have e1:∀ a b:Int,n*a*(m*b)=n*m*(a*b):=fun a b=>by grind
 rw [e1,e1,e1,e1]
 generalize n*m=K at *
 rcases h.hx with rfl|rfl|rfl<;>rcases h.hy with rfl|rfl|rfl<;>(try (exact absurd ⟨rfl,rfl⟩ hxy))<;>rcases g.hx with rfl|rfl|rfl<;>rcases g.hy with rfl|rfl|rfl<;>(try (exact absurd ⟨rfl,rfl⟩ gxy))<;>simp [Sy]<;>omega
theorem Zo9 {w o:Wl} {n sx sy m tx ty:Int} (h:Str w n sx sy) (g:Str o m tx ty) (hc:o.fx=w.tx/\o.fy=w.ty):(o.has w.fx w.fy 1||w.has o.tx o.ty 1)=w.turnsBack o:=by
 rw [Si,Zq2 h g,Qx,Uv g (Yl h.b1 h.b2),Uv h (Yl g.b3 g.b4)]
 unfold onW bes alo
 have hn:=h.hn
 have hm:=g.hn
 have hxy:=h.hxy
 have gxy:=g.hxy
 rw [g.tx,g.ty,hc.1,hc.2,h.tx,h.ty]
 rcases h.hx with rfl|rfl|rfl<;>rcases h.hy with rfl|rfl|rfl<;>(try (exact absurd ⟨rfl,rfl⟩ hxy))<;>rcases g.hx with rfl|rfl|rfl<;>rcases g.hy with rfl|rfl|rfl<;>(try (exact absurd ⟨rfl,rfl⟩ gxy))<;>simp only [Sh,Rw,Sm,Tg,Tn,Wf,Sr,Sz,Sp,and_self,and_true,true_and,iff_true]<;>omega
theorem Zvo {w:Wl} {n sx sy x y d z:Int} (h:Str w n sx sy) (hp:PtOk x y d):flips x y d w=Zlo ⟨x,y,z,d⟩ w.ln:=by
 unfold flips Zlo
 have e:Qa Qb (w.ln.y+w.ln.dy)=w.ty:=by
  have:=ln_b h
  unfold Ln.b at this
  simpa using congrArg Pt.y this
 rw [Za2 h hp,Xt h hp,e]
 have c1:∀ v,decide (0<sgn v)=decide (0<v):=fun v=>by rw [decide_eq_decide]; exact Zde
 have c2:∀ v,decide (sgn v<0)=decide (v<0):=fun v=>by rw [decide_eq_decide]; exact Zdf
 have c3:∀ a:Int,decide (y<a) = !decide (a<=y):=fun a=>by by_cases q:a<=y<;>simp [q]<;>omega
 rw [c1,c2,c3,c3]
 show _=(((decide (Qa Qb (w.fy*d)<=y) && !decide (Qa Qb (w.ty*d)<=y))&&decide (0<bes w sx sy x y d))||((!decide (Qa Qb (w.fy*d)<=y)&&decide (Qa Qb (w.ty*d)<=y))&&decide (bes w sx sy x y d<0)))
 cases decide (Qa Qb (w.fy*d)<=y)<;>cases decide (Qa Qb (w.ty*d)<=y)<;>rfl
def Uu (cs:List (Int × Int)):Prop:=∀ i,i<cs.length->∃ n sx sy,Str (wlOf cs i) n sx sy
theorem Zsm {x y d z:Int} (hp:PtOk x y d):∀ (l:List Wl) (b:Bool),(∀ w∈l,∃ n sx sy,Str w n sx sy)->inPl x y d b l=Zhu ⟨x,y,z,d⟩ b (l.map Wl.ln)
 | [],_,_=>rfl
 | w::l,b,h=>by
  obtain ⟨n,sx,sy,hw⟩:=h w (by simp)
  rw [Wb,inPl,Zhu,Zd6 (z:=z) hw hp,Zvo (z:=z) hw hp]
  split
  ·rfl
  ·exact Zsm hp l _ fun u hu=>h u (by simp [hu])
theorem Zwy (cs:List (Int × Int)):lns cs=(wls cs).map Wl.ln:=by simp [lns,wls,Zev]
theorem Zbu {cs:List (Int × Int)} (h:Uu cs):∀ w∈wls cs,∃ n sx sy,Str w n sx sy:=by
 intro w hw
 simp only [wls,Wa,Ss] at hw
 obtain ⟨i,hi,rfl⟩:=hw
 exact h i hi
theorem Zcd {h:Hal} (hs:Uu h.cs) {x y d:Int} (z:Int) (hp:PtOk x y d):Xa h x y d=Zz h ⟨x,y,z,d⟩:=by
 unfold Xa Zz
 rw [Zwy]
 exact Zsm hp _ _ (Zbu hs)
theorem Zwh (n:Int) (w:Wl):Zh6 n w=Zmb n w:=by
 unfold Zh6 Zmb
 generalize w.fx*w.ty=a
 generalize w.tx*w.fy=b
 simp only [Sy]; omega
theorem Zj9 (h:Hal):Ye h=Zf8 h.cs:=by
 unfold Ye Zf8
 rw [show Zh6=Zmb from funext fun n=>funext fun w=>Zwh n w]
theorem Znl {cs:List (Int × Int)} {i:Nat} (h:i<cs.length):cor cs i=cs[i]:=by simp [cor,h]
theorem Zkd {h:Hal} (hs:Uu h.cs) (h3:3<=h.cs.length) (hl:h.cs.length<1000):Xl h=Zb0 h.cs:=by
 have key:∀ i k,i<k->k<h.cs.length->Zc3 h.cs.length (wlOf h.cs i) (wlOf h.cs k)=Zet h.cs h.cs.length i k:=by
  intro i k hik hk
  obtain ⟨n,sx,sy,hi⟩:=hs i (by omega)
  obtain ⟨m,tx,ty,hm⟩:=hs k hk
  unfold Zc3 Zet
  show (decide ((k:Int)<=(i:Int))||(!((decide ((k:Int)=Qa Qb ((i:Int)+1))&&_)||((decide ((i:Int)=0)&&decide ((k:Int)=Qa Qb ((h.cs.length:Int)-1)))&&_))&&((decide ((k:Int)=Qa Qb ((i:Int)+1))||(decide ((i:Int)=0)&&decide ((k:Int)=Qa Qb ((h.cs.length:Int)-1))))||_)))=_
  rw [Zev,Zev,<-Zep hi hm,ln_a,ln_a,ln_b hi,ln_b hm,<-Zd6 hi (Yl hm.b3 hm.b4),<-Zd6 hm (Yl hi.b1 hi.b2),<-Zd6 hi (Yl hm.b1 hm.b2),<-Zd6 hm (Yl hi.b3 hi.b4)]
  have e1:Qa Qb ((i:Int)+1)=(i:Int)+1:=W_eq (by omega) (by omega)
  have e2:Qa Qb ((h.cs.length:Int)-1)=(h.cs.length:Int)-1:=W_eq (by omega) (by omega)
  rw [e1,e2,decide_eq_false (p:=(k:Int)<=(i:Int)) (by omega)]
  by_cases c1:(k:Int)=(i:Int)+1
  ·have hki:k=i+1:=by omega
   have c2:((decide ((i:Int)=0)&&decide ((k:Int)=(h.cs.length:Int)-1)))=false:=by
    by_cases q:(i:Int)=0
    ·rw [decide_eq_false (p:=(k:Int)=(h.cs.length:Int)-1) (by omega)]; simp
    ·rw [decide_eq_false q]; rfl
   have hb:=Zo9 hi hm (by
    subst hki
    simp only [wlOf,Ph hk,and_self])
   rw [c2,decide_eq_true c1,<-hb]
   simp
  ·rw [decide_eq_false c1]
   by_cases c2:(i:Int)=0/\(k:Int)=(h.cs.length:Int)-1
   ·have hb:=Zo9 hm hi (by
     have h1:i=0:=by omega
     have h2:k+1=h.cs.length:=by omega
     subst h1
     simp only [wlOf,h2,Nat.mod_self,and_self])
    rw [decide_eq_true c2.1,decide_eq_true c2.2,<-hb]
    simp [Bool.and_comm]
   ·have c3:((decide ((i:Int)=0)&&decide ((k:Int)=(h.cs.length:Int)-1)))=false:=by
     rw [Qp]; intro hq; simp only [Qc,decide_eq_true_eq] at hq; exact c2 hq
    rw [c3]
    simp
 have hR:Zb0 h.cs=true↔∀ i k,i<k->k<h.cs.length->Zet h.cs h.cs.length i k=true:=by
  simp only [Zb0,Zc2,Zc6,Qs,List.mem_range']
  constructor
  ·intro hq i k hik hk
   exact hq i ⟨i,by omega,by omega⟩ k ⟨k-(i+1),by omega,by omega⟩
  ·rintro hq i ⟨a,ha,rfl⟩ k ⟨b,hb,rfl⟩
   exact hq _ _ (by omega) (by omega)
 have hP:Xl h=true↔∀ i k,i<h.cs.length->k<h.cs.length->Zc3 h.cs.length (wlOf h.cs i) (wlOf h.cs k)=true:=by
  simp only [Xl,wls,Qs,Wa,Ss]
  constructor
  ·intro hq i k hi hk; exact hq _ ⟨i,hi,rfl⟩ _ ⟨k,hk,rfl⟩
  ·rintro hq a ⟨i,hi,rfl⟩ b ⟨k,hk,rfl⟩; exact hq i k hi hk
 rw [Si,hR,hP]
 constructor
 ·intro hq i k hik hk; rw [<-key i k hik hk]; exact hq i k (by omega) hk
 ·intro hq i k hi hk
  by_cases hik:i<k
  ·rw [key i k hik hk]; exact hq i k hik hk
  ·unfold Zc3
   rw [show decide ((wlOf h.cs k).n<=(wlOf h.cs i).n)=true from decide_eq_true (by show (k:Int)<=(i:Int); omega)]
   rfl
def hit (w:Wl) (n sx sy:Int) (q:Rc):Prop:=∃ t,0<=t/\t<=n/\q.xl<=w.fx+t*sx/\w.fx+t*sx<=q.xh/\q.yl<=w.fy+t*sy/\w.fy+t*sy<=q.yh
structure RcOk (q:Rc):Prop where
 x:q.xl<q.xh
 y:q.yl<q.yh
 b1 : -5000<=q.xl
 b2:q.xh<=5000
 b3 : -5000<=q.yl
 b4:q.yh<=5000
theorem Zyp {a b c:Int}:imin a b<=c↔a<=c\/b<=c:=by
 unfold imin; by_cases h:b<a<;>simp [h]<;>omega
theorem Zyq {a b c:Int}:c<=imax a b↔c<=a\/c<=b:=by
 unfold imax; by_cases h:a<b<;>simp [h]<;>omega
theorem Zso {a b c:Int}:c<imin a b↔c<a/\c<b:=by
 unfold imin; by_cases h:b<a<;>simp [h]<;>omega
theorem imax_lt {a b c:Int}:imax a b<c↔a<c/\b<c:=by
 unfold imax; by_cases h:a<b<;>simp [h]<;>omega
theorem Zzt {v:Int}:sgn v<=0↔v<=0:=by have:=@Zde v; omega
theorem Zzu {v:Int}:0<=sgn v↔0<=v:=by have:=@Zdf v; omega
theorem Zkx {w:Wl} {n sx sy:Int} {q:Rc} (h:Str w n sx sy) (hq:RcOk q):q.meets w=true↔hit w n sx sy q:=by
 have q1:=hq.x
 have q2:=hq.y
 have q3:=hq.b1
 have q4:=hq.b2
 have q5:=hq.b3
 have q6:=hq.b4
 have p1:PtOk q.xl q.yl 1:=Yl (by omega) (by omega)
 have p2:PtOk q.xl q.yh 1:=Yl (by omega) (by omega)
 have p3:PtOk q.xh q.yl 1:=Yl (by omega) (by omega)
 have p4:PtOk q.xh q.yh 1:=Yl (by omega) (by omega)
 have e:q.meets w=true ↔ ¬((w.fx<q.xl/\w.tx<q.xl)\/(q.xh<w.fx/\q.xh<w.tx)\/(w.fy<q.yl/\w.ty<q.yl)\/(q.yh<w.fy/\q.yh<w.ty))/\(bes w sx sy q.xl q.yl 1<=0\/bes w sx sy q.xl q.yh 1<=0\/bes w sx sy q.xh q.yl 1<=0\/bes w sx sy q.xh q.yh 1<=0)/\(0<=bes w sx sy q.xl q.yl 1\/0<=bes w sx sy q.xl q.yh 1\/0<=bes w sx sy q.xh q.yl 1\/0<=bes w sx sy q.xh q.yh 1):=by
  unfold Rc.meets
  rw [Xt h p1,Xt h p2,Xt h p3,Xt h p4]
  by_cases hb:(decide (imax w.fx w.tx<q.xl)||decide (q.xh<imin w.fx w.tx)||decide (imax w.fy w.ty<q.yl)||decide (q.yh<imin w.fy w.ty))=true
  ·rw [if_pos hb]
   simp only [Qx,decide_eq_true_eq,Zso,imax_lt] at hb
   constructor
   ·intro hf; cases hf
   ·rintro ⟨h1,_⟩; exact absurd (by rcases hb with ((hb|hb)|hb)|hb<;>simp [hb]) h1
  ·rw [if_neg hb]
   simp only [Qx,decide_eq_true_eq,Zso,imax_lt] at hb
   rw [Qc,decide_eq_true_eq,decide_eq_true_eq]
   simp only [Zyp,Zyq,Zzt,Zzu]
   omega
 rw [e]
 unfold hit bes
 rw [h.tx,h.ty]
 have hn:=h.hn
 have hxy:=h.hxy
 rcases h.hx with rfl|rfl|rfl<;>rcases h.hy with rfl|rfl|rfl<;>(try (exact absurd ⟨rfl,rfl⟩ hxy))<;>simp only [Sh,Rw,Sm,Tg,Tn,Wf,Sr,Sz,Sp]
 ·exact ⟨fun hh=>⟨max 0 (q.yl-w.fy),by omega,by omega,by omega,by omega,by omega,by omega⟩,fun ⟨t,h1,h2,h3,h4,h5,h6⟩=>by omega⟩
 ·exact ⟨fun hh=>⟨max 0 (w.fy-q.yh),by omega,by omega,by omega,by omega,by omega,by omega⟩,fun ⟨t,h1,h2,h3,h4,h5,h6⟩=>by omega⟩
 ·exact ⟨fun hh=>⟨max 0 (q.xl-w.fx),by omega,by omega,by omega,by omega,by omega,by omega⟩,fun ⟨t,h1,h2,h3,h4,h5,h6⟩=>by omega⟩
 ·exact ⟨fun hh=>⟨max (max 0 (q.xl-w.fx)) (q.yl-w.fy),by omega,by omega,by omega,by omega,by omega,by omega⟩,fun ⟨t,h1,h2,h3,h4,h5,h6⟩=>by omega⟩
 ·exact ⟨fun hh=>⟨max (max 0 (q.xl-w.fx)) (w.fy-q.yh),by omega,by omega,by omega,by omega,by omega,by omega⟩,fun ⟨t,h1,h2,h3,h4,h5,h6⟩=>by omega⟩
 ·exact ⟨fun hh=>⟨max 0 (w.fx-q.xh),by omega,by omega,by omega,by omega,by omega,by omega⟩,fun ⟨t,h1,h2,h3,h4,h5,h6⟩=>by omega⟩
 ·exact ⟨fun hh=>⟨max (max 0 (w.fx-q.xh)) (q.yl-w.fy),by omega,by omega,by omega,by omega,by omega,by omega⟩,fun ⟨t,h1,h2,h3,h4,h5,h6⟩=>by omega⟩
 ·exact ⟨fun hh=>⟨max (max 0 (w.fx-q.xh)) (w.fy-q.yh),by omega,by omega,by omega,by omega,by omega,by omega⟩,fun ⟨t,h1,h2,h3,h4,h5,h6⟩=>by omega⟩
def common (e:Wl) (m ex ey:Int) (w:Wl) (n sx sy:Int):Prop:=∃ t s,0<=t/\t<=n/\0<=s/\s<=m/\w.fx+t*sx=e.fx+s*ex/\w.fy+t*sy=e.fy+s*ey
theorem Zd1 {w:Wl} {n sx sy x y:Int} (h:Str w n sx sy):onW w n sx sy x y 1↔∃ t,0<=t/\t<=n/\x=w.fx+t*sx/\y=w.fy+t*sy:=by
 unfold onW bes alo
 have hn:=h.hn
 have hxy:=h.hxy
 rcases h.hx with rfl|rfl|rfl<;>rcases h.hy with rfl|rfl|rfl<;>(try (exact absurd ⟨rfl,rfl⟩ hxy))<;>simp only [Sh,Rw,Sm,Tg,Tn,Wf,Sr,Sz,Sp]
 ·exact ⟨fun hh=>⟨y-w.fy,by omega,by omega,by omega,by omega⟩,fun ⟨t,h1,h2,h3,h4⟩=>by omega⟩
 ·exact ⟨fun hh=>⟨w.fy-y,by omega,by omega,by omega,by omega⟩,fun ⟨t,h1,h2,h3,h4⟩=>by omega⟩
 ·exact ⟨fun hh=>⟨x-w.fx,by omega,by omega,by omega,by omega⟩,fun ⟨t,h1,h2,h3,h4⟩=>by omega⟩
 ·exact ⟨fun hh=>⟨x-w.fx,by omega,by omega,by omega,by omega⟩,fun ⟨t,h1,h2,h3,h4⟩=>by omega⟩
 ·exact ⟨fun hh=>⟨x-w.fx,by omega,by omega,by omega,by omega⟩,fun ⟨t,h1,h2,h3,h4⟩=>by omega⟩
 ·exact ⟨fun hh=>⟨w.fx-x,by omega,by omega,by omega,by omega⟩,fun ⟨t,h1,h2,h3,h4⟩=>by omega⟩
 ·exact ⟨fun hh=>⟨w.fx-x,by omega,by omega,by omega,by omega⟩,fun ⟨t,h1,h2,h3,h4⟩=>by omega⟩
 ·exact ⟨fun hh=>⟨w.fx-x,by omega,by omega,by omega,by omega⟩,fun ⟨t,h1,h2,h3,h4⟩=>by omega⟩
theorem Zq3 {e w:Wl} {m ex ey n sx sy:Int} (g:Str e m ex ey) (h:Str w n sx sy):e.touches w=true ↔
  (((bes e ex ey w.fx w.fy 1<0/\0<bes e ex ey w.tx w.ty 1)\/(0<bes e ex ey w.fx w.fy 1/\bes e ex ey w.tx w.ty 1<0))/\((bes w sx sy e.fx e.fy 1<0/\0<bes w sx sy e.tx e.ty 1)\/(0<bes w sx sy e.fx e.fy 1/\bes w sx sy e.tx e.ty 1<0))) \/
  onW e m ex ey w.fx w.fy 1\/onW e m ex ey w.tx w.ty 1\/onW w n sx sy e.fx e.fy 1\/onW w n sx sy e.tx e.ty 1:=by
 have p1:=Yl g.b1 g.b2
 have p2:=Yl g.b3 g.b4
 have p3:=Yl h.b1 h.b2
 have p4:=Yl h.b3 h.b4
 unfold Wl.touches
 rw [Qx,Qc,Qx,Qx,Qx,decide_eq_true_eq,decide_eq_true_eq,Uv g p3,Uv g p4,Uv h p1,Uv h p2,Xt g p3,Xt g p4,Xt h p1,Xt h p2,Ybn,Ybn,Zgg,Zgg]
 simp only [or_assoc]
theorem Uy {e w:Wl} {m ex ey n sx sy:Int} (g:Str e m ex ey) (h:Str w n sx sy) (hax:ex=0\/ey=0):e.touches w=true↔common e m ex ey w n sx sy := by
  rw [Zq3 g h]
  have hn := h.hn
  have hm := g.hn
  have hxy := h.hxy
  have gxy := g.hxy
  constructor
  · rintro (hc|hc|hc|hc|hc)
    · unfold bes at hc
      rw [h.tx, h.ty, g.tx, g.ty] at hc
      rcases g.hx with rfl|rfl|rfl<;>rcases g.hy with rfl|rfl|rfl<;>(try (exact absurd ⟨rfl, rfl⟩ gxy))<;>(try (exact absurd hax (by decide)))<;>rcases h.hx with rfl|rfl|rfl<;>rcases h.hy with rfl|rfl|rfl<;>(try (exact absurd ⟨rfl, rfl⟩ hxy))<;>simp only [Sh, Rw, Sm, Tg, Tn, Wf, Sr, Sz, Sp] at hc<;>first
        | (exfalso; omega)
        | (unfold common
           simp only [Sh, Rw, Sm, Tg, Tn, Wf, Sr, Sz, Sp]
           first
            | exact ⟨e.fy-w.fy, w.fx+(e.fy-w.fy)-e.fx, by omega, by omega, by omega, by omega, by omega, by omega⟩
            | exact ⟨e.fy-w.fy, e.fx-(w.fx+(e.fy-w.fy)), by omega, by omega, by omega, by omega, by omega, by omega⟩
            | exact ⟨e.fy-w.fy, w.fx-(e.fy-w.fy)-e.fx, by omega, by omega, by omega, by omega, by omega, by omega⟩
            | exact ⟨e.fy-w.fy, e.fx-(w.fx-(e.fy-w.fy)), by omega, by omega, by omega, by omega, by omega, by omega⟩
            | exact ⟨e.fy-w.fy, w.fx-e.fx, by omega, by omega, by omega, by omega, by omega, by omega⟩
            | exact ⟨e.fy-w.fy, e.fx-w.fx, by omega, by omega, by omega, by omega, by omega, by omega⟩
            | exact ⟨w.fy-e.fy, w.fx+(w.fy-e.fy)-e.fx, by omega, by omega, by omega, by omega, by omega, by omega⟩
            | exact ⟨w.fy-e.fy, e.fx-(w.fx+(w.fy-e.fy)), by omega, by omega, by omega, by omega, by omega, by omega⟩
            | exact ⟨w.fy-e.fy, w.fx-(w.fy-e.fy)-e.fx, by omega, by omega, by omega, by omega, by omega, by omega⟩
            | exact ⟨w.fy-e.fy, e.fx-(w.fx-(w.fy-e.fy)), by omega, by omega, by omega, by omega, by omega, by omega⟩
            | exact ⟨w.fy-e.fy, w.fx-e.fx, by omega, by omega, by omega, by omega, by omega, by omega⟩
            | exact ⟨w.fy-e.fy, e.fx-w.fx, by omega, by omega, by omega, by omega, by omega, by omega⟩
            | exact ⟨e.fx-w.fx, w.fy+(e.fx-w.fx)-e.fy, by omega, by omega, by omega, by omega, by omega, by omega⟩
            | exact ⟨e.fx-w.fx, e.fy-(w.fy+(e.fx-w.fx)), by omega, by omega, by omega, by omega, by omega, by omega⟩
            | exact ⟨e.fx-w.fx, w.fy-(e.fx-w.fx)-e.fy, by omega, by omega, by omega, by omega, by omega, by omega⟩
            | exact ⟨e.fx-w.fx, e.fy-(w.fy-(e.fx-w.fx)), by omega, by omega, by omega, by omega, by omega, by omega⟩
            | exact ⟨e.fx-w.fx, w.fy-e.fy, by omega, by omega, by omega, by omega, by omega, by omega⟩
            | exact ⟨e.fx-w.fx, e.fy-w.fy, by omega, by omega, by omega, by omega, by omega, by omega⟩
            | exact ⟨w.fx-e.fx, w.fy+(w.fx-e.fx)-e.fy, by omega, by omega, by omega, by omega, by omega, by omega⟩
            | exact ⟨w.fx-e.fx, e.fy-(w.fy+(w.fx-e.fx)), by omega, by omega, by omega, by omega, by omega, by omega⟩
            | exact ⟨w.fx-e.fx, w.fy-(w.fx-e.fx)-e.fy, by omega, by omega, by omega, by omega, by omega, by omega⟩
            | exact ⟨w.fx-e.fx, e.fy-(w.fy-(w.fx-e.fx)), by omega, by omega, by omega, by omega, by omega, by omega⟩
            | exact ⟨w.fx-e.fx, w.fy-e.fy, by omega, by omega, by omega, by omega, by omega, by omega⟩
            | exact ⟨w.fx-e.fx, e.fy-w.fy, by omega, by omega, by omega, by omega, by omega, by omega⟩)
    · obtain ⟨s, h1, h2, h3, h4⟩ := (Zd1 g).1 hc
      exact ⟨0, s, by omega, by omega, h1, h2, by simpa using h3, by simpa using h4⟩
    · obtain ⟨s, h1, h2, h3, h4⟩ := (Zd1 g).1 hc
      exact ⟨n, s, by omega, by omega, h1, h2, by rw [<-h.tx]; exact h3, by rw [<-h.ty]; exact h4⟩
    · obtain ⟨t, h1, h2, h3, h4⟩ := (Zd1 h).1 hc
      exact ⟨t, 0, h1, h2, by omega, by omega, by simpa using h3.symm, by simpa using h4.symm⟩
    · obtain ⟨t, h1, h2, h3, h4⟩ := (Zd1 h).1 hc
      exact ⟨t, m, h1, h2, by omega, by omega, by rw [<-g.tx]; exact h3.symm, by rw [<-g.ty]; exact h4.symm⟩
  · rintro ⟨t, s, t0, t1, s0, s1, c1, c2⟩
    by_cases z1:t=0
    · exact .inr (.inl ((Zd1 g).2 ⟨s, s0, s1, by subst z1; simpa using c1, by subst z1; simpa using c2⟩))
    by_cases z2:t=n
    · exact .inr (.inr (.inl ((Zd1 g).2 ⟨s, s0, s1, by subst z2; rw [h.tx]; exact c1, by subst z2; rw [h.ty]; exact c2⟩)))
    by_cases z3:s=0
    · exact .inr (.inr (.inr (.inl ((Zd1 h).2 ⟨t, t0, t1, by subst z3; simpa using c1.symm, by subst z3; simpa using c2.symm⟩))))
    by_cases z4:s=m
    · exact .inr (.inr (.inr (.inr ((Zd1 h).2 ⟨t, t0, t1, by subst z4; rw [g.tx]; exact c1.symm, by subst z4; rw [g.ty]; exact c2.symm⟩))))
    unfold onW bes alo
    rw [h.tx, h.ty, g.tx, g.ty]
    rcases g.hx with rfl|rfl|rfl<;>rcases g.hy with rfl|rfl|rfl<;>(try (exact absurd ⟨rfl, rfl⟩ gxy))<;>(try (exact absurd hax (by decide)))<;>rcases h.hx with rfl|rfl|rfl<;>rcases h.hy with rfl|rfl|rfl<;>(try (exact absurd ⟨rfl, rfl⟩ hxy))<;>simp only [Sh, Rw, Sm, Tg, Tn, Wf, Sr, Sz, Sp] at c1 c2 ⊢ <;> first
      | (refine .inl ?_; omega)
      | (refine .inr ?_; omega)
def xorL:List Bool->Bool
 | []=>false
 | b::l=>b ^^ xorL l
theorem Zf2:∀ (l m:List Bool),xorL (l++m)=(xorL l ^^ xorL m)
 | [],m=>by simp [xorL]
 | b::l,m=>by simp [xorL,Zf2 l m]
theorem Zj1 {α:Type} (a b:α->Bool):∀ l:List α,(xorL (l.map a) ^^ xorL (l.map b))=xorL (l.map fun x=>a x ^^ b x)
 | []=>rfl
 | x::l=>by
  simp only [Wb,xorL,<-Zj1 a b l]
  cases a x<;>cases b x<;>cases xorL (l.map a)<;>cases xorL (l.map b)<;>rfl
theorem Zoo {x y d:Int}:∀ (l:List Wl) (b:Bool),(∀ w∈l,w.has x y d=false)->inPl x y d b l=(b ^^ xorL (l.map (flips x y d)))
 | [],b,_=>by simp [inPl,xorL]
 | w::l,b,h=>by
  rw [Zk8 (h w (by simp)),Zoo l _ (fun u hu=>h u (by simp [hu]))]
  simp [xorL]
theorem Zj0 (G:Nat->Bool) (n:Nat):∀ k,k<=n->xorL ((Tq k).map fun i=>G i ^^ G ((i+1)%n))=(G 0 ^^ G (k%n))
 | 0,_=>by simp [xorL]
 | k+1,h=>by
  rw [List.range_succ,List.map_append,Zf2,Zj0 G n k (by omega),Ph (show k<n by omega)]
  simp only [Wb,List.map_nil,xorL]
  cases G 0<;>cases G k<;>cases G ((k+1)%n)<;>rfl
theorem tele (g:Int->Int->Bool) (cs:List (Int × Int)):xorL ((wls cs).map fun w=>g w.fx w.fy ^^ g w.tx w.ty)=false:=by
 have:=Zj0 (fun i=>g (cor cs i).1 (cor cs i).2) cs.length cs.length (Qd _)
 rw [Nat.mod_self] at this
 rw [wls,List.map_map]
 have e:((fun w:Wl=>g w.fx w.fy ^^ g w.tx w.ty) ∘ wlOf cs)=fun i=>g (cor cs i).1 (cor cs i).2 ^^ g (cor cs ((i+1)%cs.length)).1 (cor cs ((i+1)%cs.length)).2:=rfl
 rw [e,this]
 simp
theorem Zea {w:Wl} {n sx sy x y:Int} (h:Str w n sx sy) (hp:PtOk x y 1):flips x y 1 w=true↔(w.fy<=y/\y<w.ty/\0<bes w sx sy x y 1)\/(w.ty<=y/\y<w.fy/\bes w sx sy x y 1<0):=by
 have b2:=h.b2
 have b4:=h.b4
 unfold flips
 rw [Xt h hp,Rw,Rw,W_eq (n:=w.fy) (by omega) (by omega),W_eq (n:=w.ty) (by omega) (by omega)]
 simp only [Qx,Qc,decide_eq_true_eq,Zde,Zdf,and_assoc]
theorem Zyz {w:Wl} {n sx sy Y:Int} {q:Rc} (h:Str w n sx sy) (hq:RcOk q) (nh:¬hit w n sx sy q) (h1:q.yl<=Y) (h2:Y<=q.yh):flips q.xl Y 1 w=flips q.xh Y 1 w:=by
 have q1:=hq.x
 have q2:=hq.y
 have q3:=hq.b1
 have q4:=hq.b2
 have q5:=hq.b3
 have q6:=hq.b4
 rw [Si,Zea h (Yl (by omega) (by omega)),Zea h (Yl (by omega) (by omega))]
 have key:∀ t,¬(0<=t/\t<=n/\q.xl<=w.fx+t*sx/\w.fx+t*sx<=q.xh/\q.yl<=w.fy+t*sy/\w.fy+t*sy<=q.yh):=fun t ht=>nh ⟨t,ht⟩
 have hn:=h.hn
 have hxy:=h.hxy
 unfold bes
 rw [h.ty]
 have k:=key ((Y-w.fy)*sy)
 clear key nh
 rcases h.hx with rfl|rfl|rfl<;>rcases h.hy with rfl|rfl|rfl<;>(try (exact absurd ⟨rfl,rfl⟩ hxy))<;>simp only [Sh,Rw,Sm,Tg,Tn,Wf,Sr,Sz,Sp] at k ⊢ <;> omega
def inR (X Y1 Y2 x y:Int):Bool:=decide (Y1<y/\y<=Y2/\X<x)
theorem Zxn {A B C D:Prop} [Decidable A] [Decidable B] [Decidable C] [Decidable D] (h:(A↔B)↔(C↔D)):(decide A ^^ decide B)=(decide C ^^ decide D):=by
 by_cases a:A<;>by_cases b:B<;>by_cases c:C<;>by_cases d:D<;>simp_all
theorem Zxd {b:Bool} {p:Prop} [Decidable p] (h:b=true↔p):b=decide p:=by
 cases b
 ·exact (decide_eq_false (fun hp=>by simpa using h.2 hp)).symm
 ·exact (decide_eq_true (h.1 rfl)).symm
theorem Zyy {w:Wl} {n sx sy:Int} {q:Rc} (h:Str w n sx sy) (hq:RcOk q) (nh:¬hit w n sx sy q):(flips q.xl q.yl 1 w ^^ flips q.xl q.yh 1 w)=(inR q.xl q.yl q.yh w.fx w.fy ^^ inR q.xl q.yl q.yh w.tx w.ty):=by
 have q1:=hq.x
 have q2:=hq.y
 have q3:=hq.b1
 have q4:=hq.b2
 have q5:=hq.b3
 have q6:=hq.b4
 rw [Zxd (Zea h (Yl (x:=q.xl) (y:=q.yl) (by omega) (by omega))),Zxd (Zea h (Yl (x:=q.xl) (y:=q.yh) (by omega) (by omega)))]
 unfold inR
 refine Zxn ?_
 have key:∀ t,¬(0<=t/\t<=n/\q.xl<=w.fx+t*sx/\w.fx+t*sx<=q.xh/\q.yl<=w.fy+t*sy/\w.fy+t*sy<=q.yh):=fun t ht=>nh ⟨t,ht⟩
 have hn:=h.hn
 have hxy:=h.hxy
 unfold bes
 rw [h.tx,h.ty]
 have k:=key ((q.xl-w.fx)*sx)
 clear key nh
 rcases h.hx with rfl|rfl|rfl<;>rcases h.hy with rfl|rfl|rfl<;>(try (exact absurd ⟨rfl,rfl⟩ hxy))<;>simp only [Sh,Rw,Sm,Tg,Tn,Wf,Sr,Sz,Sp] at k ⊢ <;> omega
def Zug (cs:List (Int × Int)) (q:Rc):Prop:=∀ w∈wls cs,∀ n sx sy,Str w n sx sy -> ¬hit w n sx sy q
theorem Zr4 {w:Wl} {n sx sy x y:Int} {q:Rc} (h:Str w n sx sy) (hq:RcOk q) (nh:¬hit w n sx sy q) (h1:q.xl<=x) (h2:x<=q.xh) (h3:q.yl<=y) (h4:y<=q.yh):w.has x y 1=false:=by
 rw [Qp]
 intro hh
 rw [Uv h (Yl (by have:=hq.b1; have:=hq.b2; omega) (by have:=hq.b3; have:=hq.b4; omega)),Zd1 h] at hh
 obtain ⟨t,a,b,rfl,rfl⟩:=hh
 exact nh ⟨t,a,b,h1,h2,h3,h4⟩
theorem Zl4 {h:Hal} {q:Rc} (hs:Uu h.cs) (hq:RcOk q) (nh:Zug h.cs q):Xa h q.xh q.yl 1=Xa h q.xl q.yl 1/\Xa h q.xl q.yh 1=Xa h q.xl q.yl 1/\Xa h q.xh q.yh 1=Xa h q.xl q.yl 1:=by
 have q1:=hq.x
 have q2:=hq.y
 have e:∀ x y,q.xl<=x->x<=q.xh->q.yl<=y->y<=q.yh->Xa h x y 1=xorL ((wls h.cs).map (flips x y 1)):=by
  intro x y h1 h2 h3 h4
  unfold Xa
  rw [Zoo _ _ (fun w hw=>by
   obtain ⟨n,sx,sy,g⟩:=Zbu hs w hw
   exact Zr4 g hq (nh w hw _ _ _ g) h1 h2 h3 h4),Bool.false_xor]
 have hh:∀ Y,q.yl<=Y->Y<=q.yh->(wls h.cs).map (flips q.xh Y 1)=(wls h.cs).map (flips q.xl Y 1):=by
  intro Y h1 h2
  refine Mj fun w hw=>?_
  obtain ⟨n,sx,sy,g⟩:=Zbu hs w hw
  exact (Zyz g hq (nh w hw _ _ _ g) h1 h2).symm
 have hv:(xorL ((wls h.cs).map (flips q.xl q.yl 1)) ^^ xorL ((wls h.cs).map (flips q.xl q.yh 1)))=false:=by
  rw [Zj1,<-tele (inR q.xl q.yl q.yh) h.cs]
  congr 1
  refine Mj fun w hw=>?_
  obtain ⟨n,sx,sy,g⟩:=Zbu hs w hw
  exact Zyy g hq (nh w hw _ _ _ g)
 rw [e q.xh q.yl (by omega) (by omega) (by omega) (by omega),e q.xl q.yl (by omega) (by omega) (by omega) (by omega),e q.xl q.yh (by omega) (by omega) (by omega) (by omega),e q.xh q.yh (by omega) (by omega) (by omega) (by omega),hh q.yl (by omega) (by omega),hh q.yh (by omega) (by omega)]
 revert hv
 cases xorL ((wls h.cs).map (flips q.xl q.yl 1))<;>cases xorL ((wls h.cs).map (flips q.xl q.yh 1))<;>simp
def E1 (c:Can):Wl:=⟨0,c.fx,c.fy,c.tx,c.fy⟩
def E2 (c:Can):Wl:=⟨0,c.tx,c.fy,c.tx,c.ty⟩
def E3 (c:Can):Wl:=⟨0,c.tx,c.ty,c.fx,c.ty⟩
def E4 (c:Can):Wl:=⟨0,c.fx,c.ty,c.fx,c.fy⟩
theorem Zv0 (c:Can):Zh3 c=(E1 c).ln:=by unfold Zh3 Wl.ln E1; simp only [Ke]; rfl
theorem Zvz (c:Can):Zh2 c=(E2 c).ln:=by unfold Zh2 Wl.ln E2; simp only [Ke]; rfl
theorem Zvy (c:Can):Zh1 c=(E3 c).ln:=by
 unfold Zh1 Wl.ln E3; simp only [Ke]
 have:Qa Qb (0-Qa Qb (c.tx-c.fx))=Qa Qb (c.fx-c.tx):=by simp only [Sy]; omega
 rw [this]; rfl
theorem Zvx (c:Can):Zh0 c=(E4 c).ln:=by
 unfold Zh0 Wl.ln E4; simp only [Ke]
 have:Qa Qb (0-Qa Qb (c.ty-c.fy))=Qa Qb (c.fy-c.ty):=by simp only [Sy]; omega
 rw [this]; rfl
structure CanOk (c:Can):Prop where
 b1 : -5000<=c.fx/\c.fx<=5000
 b2 : -5000<=c.fy/\c.fy<=5000
 b3 : -5000<=c.tx/\c.tx<=5000
 b4 : -5000<=c.ty/\c.ty<=5000
 x:c.fx≠c.tx
 y:c.fy≠c.ty
abbrev Can.rc (c:Can):Rc:=rcOf c.fx c.fy c.tx c.ty
theorem Zja (c:Can):(c.rc.xl=min c.fx c.tx/\c.rc.xh=max c.fx c.tx)/\(c.rc.yl=min c.fy c.ty/\c.rc.yh=max c.fy c.ty):=by
 unfold Can.rc rcOf imin imax
 refine ⟨⟨?_,?_⟩,?_,?_⟩<;>dsimp only
 ·by_cases h:c.tx<c.fx<;>simp [h]<;>omega
 ·by_cases h:c.fx<c.tx<;>simp [h]<;>omega
 ·by_cases h:c.ty<c.fy<;>simp [h]<;>omega
 ·by_cases h:c.fy<c.ty<;>simp [h]<;>omega
theorem CanOk.rcOk {c:Can} (h:CanOk c):RcOk c.rc:=by
 obtain ⟨⟨e1,e2⟩,e3,e4⟩:=Zja c
 obtain ⟨b1,b2,b3,b4,hx,hy⟩:=h
 exact ⟨by omega,by omega,by omega,by omega,by omega,by omega⟩
theorem Zl1 {c:Can} (h:CanOk c):∃ m k sx sy,(sx=1\/sx = -1)/\(sy=1\/sy = -1)/\c.tx=c.fx+m*sx/\c.ty=c.fy+k*sy/\Str (E1 c) m sx 0/\Str (E2 c) k 0 sy/\Str (E3 c) m (-sx) 0/\Str (E4 c) k 0 (-sy):=by
 obtain ⟨b1,b2,b3,b4,hx,hy⟩:=h
 have hx' : c.fx<c.tx\/c.tx<c.fx:=by omega
 have hy' : c.fy<c.ty\/c.ty<c.fy:=by omega
 rcases hx' with hx' | hx'<;>rcases hy' with hy' | hy'
 ·refine ⟨c.tx-c.fx,c.ty-c.fy,1,1,.inl rfl,.inl rfl,by omega,by omega,?_,?_,?_,?_⟩<;>constructor<;>(try simp only [E1,E2,E3,E4])<;>first|omega|decide
 ·refine ⟨c.tx-c.fx,c.fy-c.ty,1,-1,.inl rfl,.inr rfl,by omega,by omega,?_,?_,?_,?_⟩<;>constructor<;>(try simp only [E1,E2,E3,E4])<;>first|omega|decide
 ·refine ⟨c.fx-c.tx,c.ty-c.fy,-1,1,.inr rfl,.inl rfl,by omega,by omega,?_,?_,?_,?_⟩<;>constructor<;>(try simp only [E1,E2,E3,E4])<;>first|omega|decide
 ·refine ⟨c.fx-c.tx,c.fy-c.ty,-1,-1,.inr rfl,.inr rfl,by omega,by omega,?_,?_,?_,?_⟩<;>constructor<;>(try simp only [E1,E2,E3,E4])<;>first|omega|decide
theorem Zox {P:Int->Prop} (hd:∀ t,P t \/ ¬P t):∀ (k:Nat),P k->P 0\/∃ t:Int,1<=t/\t<=k/\P t /\ ¬P (t-1)
 | 0,h=>.inl h
 | k+1,h=>by
  rcases hd (k:Int) with h0|h0
  ·rcases Zox hd k h0 with h1|⟨t,a,b,c,d⟩
   ·exact .inl h1
   ·exact .inr ⟨t,a,by omega,c,d⟩
  ·exact .inr ⟨(k:Int)+1,by omega,by omega,by simpa using h,by simpa using h0⟩
theorem Zsv {c:Can} (hc:CanOk c) {w:Wl} {n sx sy:Int} (h:Str w n sx sy):hit w n sx sy c.rc↔((E1 c).touches w=true\/(E2 c).touches w=true\/(E3 c).touches w=true\/(E4 c).touches w=true)\/(c.rc.xl<=w.fx/\w.fx<=c.rc.xh/\c.rc.yl<=w.fy/\w.fy<=c.rc.yh) := by
  obtain ⟨⟨e1, e2⟩, e3, e4⟩ := Zja c
  obtain ⟨m, k, ux, uy, hux, huy, hm, hk, s1, s2, s3, s4⟩ := Zl1 hc
  have hm0 := s1.hn
  have hk0 := s2.hn
  rw [Uy s1 h (.inr rfl), Uy s2 h (.inl rfl), Uy s3 h (.inr rfl), Uy s4 h (.inl rfl)]
  rw [e1, e2, e3, e4]
  constructor
  · rintro ⟨t, t0, t1, g1, g2, g3, g4⟩
    rw [e1] at g1; rw [e2] at g2; rw [e3] at g3; rw [e4] at g4
    have hf := Zox (P := fun t => min c.fx c.tx<=w.fx+t*sx/\w.fx+t*sx<=max c.fx c.tx/\min c.fy c.ty<=w.fy+t*sy/\w.fy+t*sy<=max c.fy c.ty) (fun t => Classical.em _) t.toNat (by rw [Int.toNat_of_nonneg t0]; exact ⟨g1, g2, g3, g4⟩)
    rcases hf with hf|⟨u, u1, u2, ⟨f1, f2, f3, f4⟩, hn⟩
    · refine .inr ?_
      simpa using hf
    · refine .inl ?_
      have hb:w.fx+u*sx=c.fx\/w.fx+u*sx=c.tx\/w.fy+u*sy=c.fy\/w.fy+u*sy=c.ty := by
        rw [Ge, Ge] at hn
        have hx := h.hx
        have hy := h.hy
        generalize u*sx=U at *
        generalize u*sy=V at *
        omega
      unfold common
      rcases hb with hb|hb|hb|hb
      · refine .inr (.inr (.inr ⟨u, (c.ty-(w.fy+u*sy))*uy, by omega, by omega, ?_, ?_, ?_, ?_⟩))<;>(try simp only [E4])<;>generalize u*sx=U at * <;> generalize u*sy=V at * <;> rcases huy with rfl|rfl<;>simp only [Sh, Rw, Sm, Sr, Sp] at * <;> omega
      · refine .inr (.inl ⟨u, ((w.fy+u*sy)-c.fy)*uy, by omega, by omega, ?_, ?_, ?_, ?_⟩)<;>(try simp only [E2])<;>generalize u*sx=U at * <;> generalize u*sy=V at * <;> rcases huy with rfl|rfl<;>simp only [Sh, Rw, Sm, Sr, Sp] at * <;> omega
      · refine .inl ⟨u, ((w.fx+u*sx)-c.fx)*ux, by omega, by omega, ?_, ?_, ?_, ?_⟩<;>(try simp only [E1])<;>generalize u*sx=U at * <;> generalize u*sy=V at * <;> rcases hux with rfl|rfl<;>simp only [Sh, Rw, Sm, Sr, Sp] at * <;> omega
      · refine .inr (.inr (.inl ⟨u, (c.tx-(w.fx+u*sx))*ux, by omega, by omega, ?_, ?_, ?_, ?_⟩))<;>(try simp only [E3])<;>generalize u*sx=U at * <;> generalize u*sy=V at * <;> rcases hux with rfl|rfl<;>simp only [Sh, Rw, Sm, Sr, Sp] at * <;> omega
  · rintro ((⟨t, s, t0, t1, s0, s1, c1, c2⟩|⟨t, s, t0, t1, s0, s1, c1, c2⟩|⟨t, s, t0, t1, s0, s1, c1, c2⟩|⟨t, s, t0, t1, s0, s1, c1, c2⟩)|hc)
    all_goals first
      | (refine ⟨t, t0, t1, ?_⟩
         rw [e1, e2, e3, e4]
         simp only [E1, E2, E3, E4] at c1 c2
         rw [c1, c2]
         rcases hux with rfl|rfl<;>rcases huy with rfl|rfl<;>simp only [Sh, Rw, Sm, Sr, Sp] at * <;> omega)
      | (refine ⟨0, by omega, by have := h.hn; omega, ?_⟩
         rw [e1, e2, e3, e4]
         simpa using hc)
theorem Zk9 {c:Can} (hc:CanOk c) (x y:Int):Zfq c ⟨x,y,0,1⟩=true↔(c.rc.xl<=x/\x<=c.rc.xh)/\(c.rc.yl<=y/\y<=c.rc.yh):=by
 have q:=hc.rcOk
 have q1:=q.x
 have q2:=q.y
 have q3:=q.b1
 have q4:=q.b2
 have q5:=q.b3
 have q6:=q.b4
 unfold Zfq
 show (within x (Qa Qb (c.rc.xl*1)) (Qa Qb (c.rc.xh*1))&&within y (Qa Qb (c.rc.yl*1)) (Qa Qb (c.rc.yh*1)))=true↔_
 rw [Rw,Rw,Rw,Rw,W_eq (n:=c.rc.xl) (by omega) (by omega),W_eq (n:=c.rc.xh) (by omega) (by omega),W_eq (n:=c.rc.yl) (by omega) (by omega),W_eq (n:=c.rc.yh) (by omega) (by omega),Qc,within_iff,within_iff]
theorem Zhk (h:Hal):∀ l:List Ln,Yo h l=true↔∀ e∈l,Zz h e.a=true/\Xj h e=false
 | []=>by simp [Yo]
 | e::l=>by
  rw [Yo]
  have ih:=Zhk h l
  cases h1:Zz h e.a<;>cases h2:Xj h e<;>simp [h1,h2,ih]
theorem Zx2 {h:Hal} {c:Can} (hs:Uu h.cs) (hc:CanOk c):Zdn h c.rc=Zb7 h c:=by
 have hq:=hc.rcOk
 have q1:=hq.x
 have q2:=hq.y
 have q3:=hq.b1
 have q4:=hq.b2
 have q5:=hq.b3
 have q6:=hq.b4
 obtain ⟨⟨e1,e2⟩,e3,e4⟩:=Zja c
 obtain ⟨m,k,ux,uy,hux,huy,hm,hk,s1,s2,s3,s4⟩:=Zl1 hc
 have hA:(Zdn h c.rc=true)↔Zug h.cs c.rc/\Xa h c.rc.xl c.rc.yl 1=true:=by
  unfold Zdn Zug
  rw [Qc,Qs]
  refine and_congr ⟨fun hh w hw n sx sy g hit=>?_,fun hh w hw=>?_⟩ Iff.rfl
  ·have:=hh w hw
   rw [(Zkx g hq).2 hit] at this
   cases this
  ·obtain ⟨n,sx,sy,g⟩:=Zbu hs w hw
   have:=hh w hw n sx sy g
   rw [<-Zkx g hq] at this
   simpa using this
 have tch:∀ (e:Wl) {m ex ey:Int},Str e m ex ey->(Xj h e.ln=false↔∀ w∈wls h.cs,e.touches w=false):=by
  intro e m ex ey g
  unfold Xj
  rw [Zwy,List.any_map,Ho]
  refine ⟨fun hh w hw=>?_,fun hh w hw=>?_⟩
  ·obtain ⟨n,sx,sy,gw⟩:=Zbu hs w hw
   have:=hh w hw
   rw [Fk,<-Zep g gw] at this
   simpa using this
  ·obtain ⟨n,sx,sy,gw⟩:=Zbu hs w hw
   rw [Fk,<-Zep g gw]
   simpa using hh w hw
 have bnd:((h.cs.any fun p=>Zfq c ⟨p.1,p.2,0,1⟩)=false)↔∀ w∈wls h.cs,¬(c.rc.xl<=w.fx/\w.fx<=c.rc.xh/\c.rc.yl<=w.fy/\w.fy<=c.rc.yh):=by
  rw [Ho]
  refine ⟨fun hh w hw hin=>?_,fun hh p hp hin=>?_⟩
  ·simp only [wls,Wa,Ss] at hw
   obtain ⟨i,hi,rfl⟩:=hw
   refine hh (cor h.cs i) (by rw [Znl hi]; exact Qq hi) ?_
   rw [Zk9 hc]
   exact ⟨⟨hin.1,hin.2.1⟩,hin.2.2.1,hin.2.2.2⟩
  ·rw [Zk9 hc] at hin
   obtain ⟨i,hi,rfl⟩:=List.mem_iff_getElem.1 hp
   refine hh (wlOf h.cs i) (by simp only [wls,Wa,Ss]; exact ⟨i,hi,rfl⟩) ?_
   simp only [wlOf,Znl hi]
   exact ⟨hin.1.1,hin.1.2,hin.2.1,hin.2.2⟩
 have hB:Zb7 h c=true↔Zug h.cs c.rc/\(Xa h c.fx c.fy 1=true/\Xa h c.tx c.fy 1=true/\Xa h c.tx c.ty 1=true/\Xa h c.fx c.ty 1=true):=by
  unfold Zb7 edges
  rw [Qc,Zhk,Sf,bnd,Zv0,Zvz,Zvy,Zvx]
  simp only [Qv,List.not_mem_nil,or_false,forall_eq_or_imp,forall_eq]
  rw [tch _ s1,tch _ s2,tch _ s3,tch _ s4]
  have p1:Zz h (E1 c).ln.a=Xa h c.fx c.fy 1:=(Zcd hs 0 (Yl hc.b1 hc.b2)).symm
  have p2:Zz h (E2 c).ln.a=Xa h c.tx c.fy 1:=(Zcd hs 0 (Yl hc.b3 hc.b2)).symm
  have p3:Zz h (E3 c).ln.a=Xa h c.tx c.ty 1:=(Zcd hs 0 (Yl hc.b3 hc.b4)).symm
  have p4:Zz h (E4 c).ln.a=Xa h c.fx c.ty 1:=(Zcd hs 0 (Yl hc.b1 hc.b4)).symm
  rw [p1,p2,p3,p4]
  unfold Zug
  constructor
  ·rintro ⟨⟨⟨a1,b1⟩,⟨a2,b2⟩,⟨a3,b3⟩,⟨a4,b4⟩⟩,b5⟩
   refine ⟨fun w hw n sx sy g hh=>?_,a1,a2,a3,a4⟩
   rw [Zsv hc g] at hh
   rcases hh with (hh|hh|hh|hh)|hh
   ·rw [b1 w hw] at hh; cases hh
   ·rw [b2 w hw] at hh; cases hh
   ·rw [b3 w hw] at hh; cases hh
   ·rw [b4 w hw] at hh; cases hh
   ·exact b5 w hw hh
  ·rintro ⟨nh,a1,a2,a3,a4⟩
   have key:∀ w∈wls h.cs,¬(((E1 c).touches w=true\/(E2 c).touches w=true\/(E3 c).touches w=true\/(E4 c).touches w=true)\/(c.rc.xl<=w.fx/\w.fx<=c.rc.xh/\c.rc.yl<=w.fy/\w.fy<=c.rc.yh)):=by
    intro w hw hh
    obtain ⟨n,sx,sy,g⟩:=Zbu hs w hw
    exact nh w hw n sx sy g ((Zsv hc g).2 hh)
   refine ⟨⟨⟨a1,fun w hw=>?_⟩,⟨a2,fun w hw=>?_⟩,⟨a3,fun w hw=>?_⟩,⟨a4,fun w hw=>?_⟩⟩,fun w hw hh=>key w hw (.inr hh)⟩
   ·rw [Qp]; exact fun hh=>key w hw (.inl (.inl hh))
   ·rw [Qp]; exact fun hh=>key w hw (.inl (.inr (.inl hh)))
   ·rw [Qp]; exact fun hh=>key w hw (.inl (.inr (.inr (.inl hh))))
   ·rw [Qp]; exact fun hh=>key w hw (.inl (.inr (.inr (.inr hh))))
 rw [Si,hA,hB]
 refine and_congr_right fun nh=>?_
 obtain ⟨g1,g2,g3⟩:=Zl4 hs hq nh
 have hx:(c.fx=c.rc.xl/\c.tx=c.rc.xh)\/(c.fx=c.rc.xh/\c.tx=c.rc.xl):=by omega
 have hy:(c.fy=c.rc.yl/\c.ty=c.rc.yh)\/(c.fy=c.rc.yh/\c.ty=c.rc.yl):=by omega
 rcases hx with ⟨x1,x2⟩|⟨x1,x2⟩<;>rcases hy with ⟨y1,y2⟩|⟨y1,y2⟩<;>rw [x1,x2,y1,y2]<;>simp only [g1,g2,g3,and_self]
def fIx (f:Nat->Int):Nat->Nat->Int × Int
 | _,0=>(0,0)
 | k,m+1=>if f k=0 then fIx f (k+1) m else (k,f k)
theorem Vg {f:Nat->Int} {k n:Nat} (h:k<n):fIx f k (n-k)=if f k=0 then fIx f (k+1) (n-(k+1)) else (k,f k):=by
 rw [show n-k=(n-(k+1))+1 by omega]; rfl
theorem Zaj {f:Nat->Int} {k n:Nat} (h:n<=k):fIx f k (n-k)=(0,0):=by rw [show n-k=0 by omega]; rfl
def mErr (h:Hal) (i:Nat) (m:Mat):Int:=if Yt m.nm then (if decide (Zw m.nm 0 h.ms<(i:Int)) then 5 else if (thou m.a&&(thou m.b&&(thou m.c&&thou m.d)))&&thou m.sc then 0 else 2) else 4
def Zje (h:Hal) (i:Nat):Int:=match h.ms[i]? with
 | some m=>mErr h i m
 | none=>0
def Zef (h:Hal) (i:Nat):Int:=if plc (cor h.cs i).1&&plc (cor h.cs i).2 then 0 else 2
def Uw (h:Hal) (i:Nat):Int:=match h.ws[i]? with
 | some w=>Zdv h i w
 | none=>0
def Zbq (h:Hal) (i:Nat):Int:=match h.ks[i]? with
 | some w=>Zds h i w
 | none=>0
def Zbl (h:Hal) (i:Nat):Int:=match h.ss[i]? with
 | some w=>Zgj h i w
 | none=>0
def Zc9 (h:Hal):Int:=if decide (Zw h.fl 0 h.ms<0)||decide (Zw h.ce 0 h.ms<0) then 6 else 0
def Zeg (h:Hal):List (Int × Int × Int) :=
  [(0, 0, unl (Yt h.nm) 4), (0, 0, unl (within h.ht 2 5000) 2), (0, 0, unl (decide ((h.ms.length:Int)<=10)) 8), (1, fIx (Zje h) 0 h.ms.length), (0, 0, Zc9 h), (0, 0, unl (decide (3<=(h.cs.length:Int))&&decide ((h.ws.length:Int)=h.cs.length)) 10),
   (0, 0, unl (decide ((h.ws.length:Int)<=12)) 8), (2, fIx (Zef h) 0 h.cs.length), (3, fIx (Uw h) 0 h.ws.length), (0, 0, unl (Zb0 h.cs) 24), (0, 0, unl (decide (0<Zf8 h.cs)) 9), (0, 0, unl (decide ((h.ks.length:Int)<=4)) 8), (4, fIx (Zbq h) 0 h.ks.length),
   (0, 0, unl (decide ((h.ss.length:Int)<=40)) 8), (5, fIx (Zbl h) 0 h.ss.length)]
def chkR (h:Hal):Int × Int × Int:=Zr (Zeg h)
theorem Zer {X x:Int × Int × Int} {l:List (Int × Int × Int)} {σ:St} {a b e:Int} (hE:X=Zr (x::l)) (hx:x=(a,b,e)) (he:e≠0):Ret ⟨chkV X,[]⟩ (.tup [.agg [I a,I b],I e]) σ:=by
 subst hx
 rw [hE,Zr,if_neg he]
 exact Zd rfl rfl
theorem Xi {X x:Int × Int × Int} {l:List (Int × Int × Int)} (hE:X=Zr (x::l)) (hx:x.2.2=0):X=Zr l:=by rw [hE,Zr,if_pos hx]
theorem Zdw {b:Bool} {e:Int} (h:b=true):unl b e=0:=by rw [h]; rfl
theorem Zhr {b:Bool} {e:Int} (h:b=false):unl b e=e:=by rw [h]; rfl
theorem Zjn {h:Hal} {r:Nat->PRes} {n k:Nat} (hk:k<n):fam (fun k=>[h.av,I (k:Int)]) r n [h.av,I (k:Int)]=some (r k) :=
 Zs9 (g:=fun k=>[h.av,I (k:Int)]) (r:=r) (fun j hj=>by
  simp only [Rl,Mq,Gl,true_and,and_true] at hj
  rw [hj]) hk
theorem Zbp {X:Int × Int × Int} {M T:Int × Int} {c k e:Int} {l:List (Int × Int × Int)} {σ:St} (hE:X=Zr ((c,M)::l)) (hh:(if e=0 then T else (k,e))=M) (he:e≠0):Ret ⟨chkV X,[]⟩ (.tup [.agg [I c,I k],I e]) σ:=by
 rw [if_neg he] at hh
 subst hh
 exact Zer hE rfl he
abbrev E65 (l:List (Nat × AV)):Env:=(1,.ptr 0 0 0)::(2,.ptr 1 0 0)::(3,I 0)::l
abbrev Z65 (h:Hal):List (Nat × ABlk):=[(1,.row 2 [[I 0,I 0]] true false),(0,.row 9 [h.cells] true false)]
def sx65:FuncId->Bool:=fun f=>Nat.beq f 43||Nat.beq f 44
theorem Ur (s:ByteArray):∀ l:List ByteArray,Va s l=true↔s∈l
 | []=>by simp [Va]
 | a::l=>by rw [Va,Qx,Ur s l,Zbr,decide_eq_true_eq,Qv]
theorem Zcu (s a:ByteArray) (l:List ByteArray):s∈addK a l↔s=a\/s∈l:=by
 unfold addK
 cases h:Va a l with
 | true =>
  have:=(Ur a l).1 h
  constructor
  ·exact .inr
  ·rintro (rfl|h)
   ·exact this
   ·exact h
 | false=>simp [or_comm]
theorem Zoc (s:ByteArray):∀ (l:List Mat) (i:Nat),Zw s i l = -1\/(i:Int)<=Zw s i l
 | [],i=>.inl rfl
 | m::l,i=>by
  rw [Zw]
  split
  ·exact .inr (by omega)
  ·rcases Zoc s l (i+1) with h|h
   ·exact .inl h
   ·exact .inr (by omega)
theorem Zas (s:ByteArray):∀ (l:List Mat) (i:Nat),Zw s i l<0 ↔ ¬∃ m∈l,m.nm=s
 | [],i=>by simp [Zw]
 | m::l,i=>by
  rw [Zw,Zbr]
  by_cases h:m.nm=s
  ·simp [h]
  ·simp only [h,decide_false,Qz,if_false]
   rw [Zas s l (i+1)]
   simp [h]
theorem Zob (s:ByteArray):∀ (l:List Mat) (i k:Nat),(∃ m∈l,m.nm=s)->(Zw s i l<((i+k:Nat):Int)↔∃ m∈l.take k,m.nm=s)
 | [],i,k,h=>by simp at h
 | m::l,i,0,h=>by
  rw [Zw]
  split
  ·simp
  ·rename_i hx
   rw [Zbr,decide_eq_true_eq] at hx
   have h1:∃ m∈l,m.nm=s:=by
    obtain ⟨u,hu,e⟩:=h
    rcases Qv.1 hu with rfl|hu
    ·exact absurd e hx
    ·exact ⟨u,hu,e⟩
   have h2:=mt (Zas s l (i+1)).1 (by simpa using h1)
   have h3:=Zoc s l (i+1)
   simp
   omega
 | m::l,i,k+1,h=>by
  rw [Zw,Zbr]
  by_cases hx:m.nm=s
  ·simp [hx]; omega
  ·have h1:∃ m∈l,m.nm=s:=by
    obtain ⟨u,hu,e⟩:=h
    rcases Qv.1 hu with rfl|hu
    ·exact absurd e hx
    ·exact ⟨u,hu,e⟩
   have:=Zob s l (i+1) k h1
   simp only [hx,decide_false,Qz,if_false]
   rw [show i+(k+1)=i+1+k by omega,this]
   simp [hx]
theorem Zky (h:Hal) (n:Nat) (hn:n=h.ms.length):∀ (m k:Nat) (ns:List ByteArray),m=n-k->k<=n->(∀ s,s∈ns↔∃ u∈h.ms.take k,u.nm=s) ->
  ((Yp k ns (h.ms.drop k)).1,(Yp k ns (h.ms.drop k)).2.1)=fIx (Zje h) k (n-k)/\((Yp k ns (h.ms.drop k)).2.1=0->∀ s,s∈(Yp k ns (h.ms.drop k)).2.2↔∃ u∈h.ms,u.nm=s)
 | 0,k,ns,hm,hk,hs=>by
  have:k=n:=by omega
  rw [Zaj (by omega),Qj (by omega)]
  refine ⟨rfl,fun _ s=>?_⟩
  rw [Yp,hs s,Rr (by omega)]
 | m+1,k,ns,hm,hk,hs=>by
  have hlt:k<h.ms.length:=by omega
  rw [Vg (by omega:k<n),Qg hlt,Yp]
  have e1:Zje h k=mErr h k h.ms[k]:=by unfold Zje; rw [Qi hlt]
  have e2:mErr h k h.ms[k]=if Zt h.ms[k].nm ns=0 then Xx h.ms[k] else Zt h.ms[k].nm ns:=by
   unfold mErr Zt
   rw [Zax]
   cases Ve h.ms[k].nm with
   | false=>simp
   | true =>
    have h1:(Zw h.ms[k].nm 0 h.ms<(k:Int))↔Va h.ms[k].nm ns=true:=by
     have:=Zob h.ms[k].nm h.ms 0 k ⟨h.ms[k],Qq hlt,rfl⟩
     rw [Nat.zero_add] at this
     rw [this,Ur,hs]
    rw [show decide (Zw h.ms[k].nm 0 h.ms<(k:Int))=Va h.ms[k].nm ns by rw [Si,decide_eq_true_eq,h1]]
    cases Va h.ms[k].nm ns with
    | true=>simp
    | false =>
     simp only [if_true,Qz,if_false,Xx]
     cases thou h.ms[k].a<;>cases thou h.ms[k].b<;>cases thou h.ms[k].c<;>cases thou h.ms[k].d<;>cases thou h.ms[k].sc<;>rfl
  rw [e1,e2]
  by_cases c1:Zt h.ms[k].nm ns=0
  ·rw [if_pos c1,if_pos c1]
   by_cases c2:Xx h.ms[k]=0
   ·rw [if_pos c2,if_pos c2]
    refine Zky h n hn m (k+1) _ (by omega) (by omega) fun s=>?_
    rw [Zcu,hs,Qu hlt]
    simp only [List.mem_append,List.mem_singleton]
    constructor
    ·rintro (rfl|⟨u,hu,e⟩)
     ·exact ⟨_,.inr rfl,rfl⟩
     ·exact ⟨u,.inl hu,e⟩
    ·rintro ⟨u,hu|rfl,e⟩
     ·exact .inr ⟨u,hu,e⟩
     ·exact .inl e.symm
   ·rw [if_neg c2,if_neg c2]
    exact ⟨rfl,fun hh=>absurd hh c2⟩
  ·rw [if_neg c1,if_neg c1,if_neg c1]
   exact ⟨rfl,fun hh=>absurd hh c1⟩
theorem Vb (x:Int):small x 5000=plc x:=by
 unfold small plc
 rw [show Qa Qb (0-5000) = -5000 by decide]
theorem Zl3 (h:Hal) (n:Nat) (hn:n=h.cs.length):∀ (m k:Nat),m=n-k->k<=n->Ze2 k (h.cs.drop k)=fIx (Zef h) k (n-k)
 | 0,k,hm,hk=>by
  rw [Zaj (by omega),Qj (by omega)]; rfl
 | m+1,k,hm,hk=>by
  have hlt:k<h.cs.length:=by omega
  rw [Vg (by omega:k<n),Qg hlt,Ze2]
  have e1:Zef h k=if Ze1 h.cs[k].1 h.cs[k].2 then 0 else 2:=by
   unfold Zef Ze1
   rw [Znl hlt,Vb,Vb]
  rw [e1]
  have ih:=Zl3 h n hn m (k+1) (by omega) (by omega)
  cases Ze1 h.cs[k].1 h.cs[k].2
  ·simp
  ·simpa using ih
end Go.Proofs.YtkmjliccopgocaaGreat
