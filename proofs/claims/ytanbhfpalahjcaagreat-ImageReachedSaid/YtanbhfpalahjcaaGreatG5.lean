/- A part of the proof: lemmas. -/
import Derived.Test.YtanbhfpalahjcaaGreatG4
import Derived.LoopNIn
import Derived.RangeFuncNested
set_option linter.unusedVariables false
set_option linter.unusedSimpArgs false
set_option maxRecDepth 100000
set_option maxHeartbeats 16000000
open Array renaming getD_eq_getD_getElem?->Qy,getElem?_append->Og,getElem?_eq_getElem->Sv,getElem?_eq_some_iff->Qt,getElem?_extract->Nd,getElem?_setIfInBounds->Sy,replicate->Pe
open Bool renaming and_eq_true->Qc,eq_false_iff->Qx,false_eq_true->Rs,or_eq_true->Ro
open Go.Code renaming wpIn_mono->Ru
open Go.Deferred renaming ofValue->Pz
open Go.Ending renaming returned->Jh
open Go.Exit renaming inBlock->Mg
open Go.Fence renaming wide->Ti
open Go.Instr renaming endRound->Kj
open Go.Oper renaming semAt_eq->Mm
open Go.Region renaming binds->Qaa,ready->Oc
open Go.RowKit.Below renaming refl->Kv
open Go.Sx.ABlk renaming live->Wi
open Go.Sx.AV renaming yld->Jj
open Go.Sx.Br renaming cases->Mv
open Go.Sx.Env renaming get_cons->Pg
open Go.Sx.Got renaming cases->Ol
open Go.Sx.St renaming get->Oh
open Go.Sx.Step renaming drew->Lz,refl->Pf
open Go.Target.collected renaming injEq->Nf
open Go.Value renaming func->Lx
open Go.World renaming cell?_of_block->Pa,putObj->Jp,size_alloc->Gb
open List renaming all_eq_true->Rf,append_nil->Pv,getElem?_cons_zero->Wj,getElem?_eq_getElem->Qe,getElem?_eq_some_iff->Qi,mem_cons->Ra
open Nat renaming add_comm->Gr,beq->Qs,ble->Su,blt->Pp,blt_eq->Th,eq_of_beq_eq_true->Qh,land->Dz,le_of_ble_eq_true->Qm,le_refl->Qd,le_succ->Ka,le_trans->Re,lor->Jc,lt_of_lt_of_le->Tc,shiftLeft->Lj,strongRecOn->Ji,sub_zero->Oo,testBit_one_eq_true_iff_self_eq_zero->Mo,testBit_or->Ki,testBit_shiftLeft->Ff,zero_le->Qp
open Option.some renaming inj->Sr,injEq->Qf
namespace Go.Sx
open Go Go.RowKit
variable {r r' : Locs} {D D' D0:Nat->Prop} {I I' : Imm} {w w' w0:World} {I0:Imm} {B n n' k N:Nat} {pr pr' : Nat->Obj->Prop} {h h' : Nat->ABlk} {P:Program}
def bits:List Nat->Nat
 | []=>0
 | a::l=>Jc (Lj 1 a) (bits l)
theorem bits_spec {l:List Nat} {i:Nat}:(bits l).testBit i=true↔i∈l:=by
 induction l with
 | nil=>simp [bits]
 | cons a l ih =>
  have e:(bits (a::l)).testBit i=((1 <<< a).testBit i||(bits l).testBit i):=Ki ..
  rw [e,Ro,ih,Ra]
  have:(1 <<< a).testBit i=true↔i=a:=by
   rw [Ff]
   simp only [ge_iff_le,Qc,decide_eq_true_eq,Mo]
   omega
  rw [this]
theorem Zcf {a b:Nat} (h:Qs (Dz a b) 0=true) {i:Nat} (ha:a.testBit i=true):¬ b.testBit i=true:=by
 intro hb
 have h0:=Qh h
 have:(a &&& b).testBit i=true:=by rw [Nat.testBit_and,ha,hb]; rfl
 have h1:(a &&& b)=0:=h0
 rw [h1] at this
 simp at this
structure Tr where
 puts:Nat
 rd:Nat
 dst:Nat
 sl:Nat
def trOf (ops:List Oper) (x:Rec):Tr:=⟨bits (x.puts.map (·.1)),bits x.rd,bits x.o.dst.toList,bits (slots ops x.o)⟩
def Zod (x y:Tr):Bool :=
 Qs (Dz x.puts (Jc y.puts y.rd)) 0&&Qs (Dz x.rd y.puts) 0&&Qs (Dz x.dst (Jc y.sl y.dst)) 0&&Qs (Dz y.dst x.sl) 0
theorem Ygs {a b i:Nat} (h:a.testBit i=true):(Jc a b).testBit i=true:=by
 have:(a ||| b).testBit i=true:=by rw [Ki,h]; rfl
 exact this
theorem Ygr {a b i:Nat} (h:b.testBit i=true):(Jc a b).testBit i=true:=by
 have:(a ||| b).testBit i=true:=by rw [Ki,h,Bool.or_true]
 exact this
theorem Yby {a b i:Nat} (h:(Jc a b).testBit i=true):a.testBit i=true\/b.testBit i=true:=by
 have:(a ||| b).testBit i=true:=h
 rw [Ki,Ro] at this
 exact this
theorem Zqh {ops:List Oper} {x y:Rec} (h:Zod (trOf ops x) (trOf ops y)=true):Indep ops x y:=by
 unfold Zod trOf at h
 simp only [Qc] at h
 obtain ⟨⟨⟨h1,h2⟩,h3⟩,h4⟩:=h
 refine ⟨fun i hi hj=>?_,fun i hi hj=>?_,fun i hi hj=>?_,fun d hd=>⟨fun hj=>?_,fun hj=>?_⟩,fun d hd hj=>?_⟩
 ·exact Zcf h1 (bits_spec.2 hi) (Ygs (bits_spec.2 hj))
 ·exact Zcf h1 (bits_spec.2 hi) (Ygr (bits_spec.2 hj))
 ·exact Zcf h2 (bits_spec.2 hi) (bits_spec.2 hj)
 ·exact Zcf (i:=d) h3 (bits_spec.2 (by simp [hd])) (Ygs (bits_spec.2 hj))
 ·exact Zcf (i:=d) h3 (bits_spec.2 (by simp [hd])) (Ygr (bits_spec.2 (by simp [hj])))
 ·exact Zcf (i:=d) h4 (bits_spec.2 (by simp [hd])) (bits_spec.2 hj)
def nth:List Nat->Nat->Nat
 | [],_=>0
 | a::_,0=>a
 | _::l,i+1=>nth l i
def Zbj:List Edge->List Nat
 | []=>[]
 | e::l=>cond (Qaa .any e) (e.on::Zbj l) (Zbj l)
def Zt2 (ms:List Nat):List Nat->Nat
 | []=>0
 | a::l=>Jc (Jc (Lj 1 a) (nth ms a)) (Zt2 ms l)
def Zzb (q:Nat):List Nat->Bool
 | []=>true
 | a::l=>Pp a q&&Zzb q l
def befs:List Oper->Nat->List Nat->Option (List Nat)
 | [],_,ms=>some ms
 | o::l,q,ms=>cond (Zzb q (Zbj o.after.toList)) (befs l (q+1) (ms++[Zt2 ms (Zbj o.after.toList)])) none
def Zgw (m:Nat) (y:Tr):List Tr->Nat->Bool
 | [],_=>true
 | x::l,p=>(Nat.testBit m p||Zod x y)&&Zgw m y l (p+1)
def Zil (ms:List Nat):List Tr->Nat->List Tr->Bool
 | _,_,[]=>true
 | pre,q,y::l=>Zgw (nth ms q) y pre 0&&Zil ms (pre++[y]) (q+1) l
def Zka (ops:List Oper) (recs:List Rec):Bool:=match befs ops 0 [] with
 | some ms=>Zil ms [] 0 (recs.map (trOf ops))
 | none=>false
theorem mem_bindsOn {l:List Edge} {p:Nat}:p∈Zbj l↔∃ e∈l,Qaa .any e=true/\e.on=p:=by
 induction l with
 | nil=>simp [Zbj]
 | cons a l ih =>
  simp only [Zbj,Ra]
  cases hb:Qaa .any a with
  | true =>
   simp only [cond_true,Ra,ih]
   constructor
   ·rintro (rfl|⟨e,h1,h2⟩)
    ·exact ⟨a,.inl rfl,hb,rfl⟩
    ·exact ⟨e,.inr h1,h2⟩
   ·rintro ⟨e,rfl|h1,h2⟩
    ·exact .inl h2.2.symm
    ·exact .inr ⟨e,h1,h2⟩
  | false =>
   simp only [cond_false,ih]
   constructor
   ·rintro ⟨e,h1,h2⟩; exact ⟨e,.inr h1,h2⟩
   ·rintro ⟨e,rfl|h1,h2⟩
    ·rw [hb] at h2; cases h2.1
    ·exact ⟨e,h1,h2⟩
theorem Zuy {q:Nat} {l:List Nat} (h:Zzb q l=true):∀ p∈l,p<q:=by
 induction l with
 | nil=>simp
 | cons a l ih =>
  simp only [Zzb,Qc,Th] at h
  intro p hp
  rcases Ra.1 hp with rfl|hp
  ·exact h.1
  ·exact ih h.2 p hp
theorem Zni {a i:Nat} (h:(Lj 1 a).testBit i=true):i=a:=by
 have:(1 <<< a).testBit i=true:=h
 rw [Ff] at this
 simp only [ge_iff_le,Qc,decide_eq_true_eq,Mo] at this
 omega
theorem Zk7 {ms:List Nat} {p:Nat}:∀ {l:List Nat},(Zt2 ms l).testBit p=true->∃ a∈l,p=a\/(nth ms a).testBit p=true
 | [],h=>by simp [Zt2] at h
 | a::l,h=>by
  rcases Yby h with h|h
  ·rcases Yby h with h|h
   ·exact ⟨a,by simp,.inl (Zni h)⟩
   ·exact ⟨a,by simp,.inr h⟩
  ·obtain ⟨b,hb,h⟩:=Zk7 h
   exact ⟨b,by simp [hb],h⟩
theorem Zhd {ms l:List Nat} {i:Nat} (h:i<ms.length):nth (ms++l) i=nth ms i:=by
 induction ms generalizing i with
 | nil=>simp at h
 | cons a ms ih =>
  cases i with
  | zero=>rfl
  | succ i=>simp only [List.cons_append,nth]; exact ih (by simpa using h)
theorem Zz3 {ms:List Nat} {a:Nat}:nth (ms++[a]) ms.length=a:=by
 induction ms with
 | nil=>rfl
 | cons b ms ih=>simpa [nth] using ih
theorem Ydy {ms:List Nat} {i:Nat} (h:ms.length<=i):nth ms i=0:=by
 induction ms generalizing i with
 | nil=>rfl
 | cons a ms ih =>
  cases i with
  | zero=>simp at h
  | succ i=>simp only [nth]; exact ih (by simpa using h)
def On (all:List Oper) (q p:Nat):Prop:=∃ o,all[q]?=some o/\p∈Zbj o.after.toList
theorem Zd5 {all:List Oper}:∀ (l:List Oper) (q:Nat) (ms ms' : List Nat),befs l q ms=some ms'->(∀ i,l[i]?=all[q+i]?)->ms.length=q->(∀ i p,On all i p->i<q->p<i) ->
  (∀ i p,i<q->(nth ms i).testBit p=true->∃ a,On all i a/\(p=a\/(nth ms a).testBit p=true)) ->
  (∀ i p,On all i p->p<i)/\(∀ i p,(nth ms' i).testBit p=true->∃ a,On all i a/\(p=a\/(nth ms' a).testBit p=true))
 | [],q,ms,ms',h,hl,hq,h1,h2=>by
  simp only [befs,Qf] at h
  subst h
  refine ⟨fun i p ho=>?_,fun i p hb=>?_⟩
  ·by_cases hi:i<q
   ·exact h1 i p ho hi
   ·obtain ⟨o,ho,_⟩:=ho
    have:=hl (i-q)
    rw [show q+(i-q)=i by omega,ho] at this
    simp at this
  ·by_cases hi:i<q
   ·exact h2 i p hi hb
   ·rw [Ydy (by omega)] at hb; simp at hb
 | o::l,q,ms,ms',h,hl,hq,h1,h2=>by
  simp only [befs] at h
  cases hlt:Zzb q (Zbj o.after.toList) with
  | false=>rw [hlt] at h; cases h
  | true =>
   rw [hlt] at h
   have hlt:=Zuy hlt
   have hoq:all[q]?=some o:=by simpa using (hl 0).symm
   refine Zd5 l (q+1) _ ms' h (fun i=>?_) (by simp [hq]) (fun i p ho hi=>?_) (fun i p hi hb=>?_)
   ·have:=hl (i+1)
    rw [show q+1+i=q+(i+1) by omega,<-this]; simp
   ·by_cases hiq:i=q
    ·subst hiq
     obtain ⟨o',ho',hp⟩:=ho
     rw [hoq,Qf] at ho'
     subst ho'
     exact hlt p hp
    ·exact h1 i p ho (by omega)
   ·by_cases hiq:i=q
    ·subst hiq
     have e:nth (ms++[Zt2 ms (Zbj o.after.toList)]) i=Zt2 ms (Zbj o.after.toList):=by rw [<-hq]; exact Zz3
     rw [e] at hb
     obtain ⟨a,ha,hor⟩:=Zk7 hb
     refine ⟨a,⟨o,hoq,ha⟩,?_⟩
     rw [Zhd (by rw [hq]; exact hlt a ha)]
     exact hor
    ·rw [Zhd (by omega)] at hb
     obtain ⟨a,ha,hor⟩:=h2 i p (by omega) hb
     refine ⟨a,ha,?_⟩
     rw [Zhd (by have:=h1 i a ha (by omega); omega)]
     exact hor
theorem Ze5 {m:Nat} {y:Tr}:∀ {l:List Tr} {p:Nat},Zgw m y l p=true->∀ i x,l[i]?=some x->m.testBit (p+i)=true\/Zod x y=true
 | [],p,_,i,x,hx=>by simp at hx
 | a::l,p,h,i,x,hx=>by
  simp only [Zgw,Qc,Ro] at h
  cases i with
  | zero=>simp at hx; subst hx; exact h.1
  | succ i =>
   have:=Ze5 h.2 i x (by simpa using hx)
   rwa [show p+1+i=p+(i+1) by omega] at this
theorem Zgx {ms:List Nat}:∀ {l pre:List Tr} {q:Nat},Zil ms pre q l=true->pre.length=q->∀ i j x y,i<j->q<=j->(pre++l)[i]?=some x->(pre++l)[j]?=some y->(nth ms j).testBit i=true\/Zod x y=true
 | [],pre,q,h,hq,i,j,x,y,hij,hqj,hx,hy=>by
  rw [Pv,List.getElem?_eq_none (by omega)] at hy
  cases hy
 | a::l,pre,q,h,hq,i,j,x,y,hij,hqj,hx,hy=>by
  simp only [Zil,Qc] at h
  by_cases hj:j=q
  ·subst hj
   rw [List.getElem?_append_right (by omega),hq,Nat.sub_self] at hy
   simp only [Wj,Qf] at hy
   subst hy
   rw [List.getElem?_append_left (by omega)] at hx
   have:=Ze5 h.1 i x hx
   rwa [Nat.zero_add] at this
  ·refine Zgx (pre:=pre++[a]) (l:=l) h.2 (by simp [hq]) i j x y hij (by omega) (by simpa using hx) (by simpa using hy)
def Zpn (all:List Oper) (S:Nat->Bool):Prop:=∀ q p,S q=true->On all q p->S p=true
theorem Zj9 {ops:List Oper} {recs:List Rec} (h:Zka ops recs=true):(∀ i p,On ops i p->p<i) /\
  ∀ S,Zpn ops S->∀ p q x y,p<q->recs[p]?=some x->recs[q]?=some y->(S p=false->(S q=true\/∀ a,On ops q a->S a=true)->Indep ops x y):=by
 unfold Zka at h
 split at h
 ·rename_i ms hms
  obtain ⟨h1,h2⟩:=Zd5 (all:=ops) ops 0 [] ms hms (fun i=>by simp) rfl (fun i p _ hi=>by omega) (fun i p hi=>by omega)
  refine ⟨h1,fun S hS p q x y hpq hx hy hSp hq=>?_⟩
  have up:∀ q,(nth ms q).testBit p=true->(∀ a,On ops q a->S a=true)->S p=true:=by
   intro q
   induction q using Ji with
   | ind q ih =>
    intro hb ha
    obtain ⟨a,hoa,hor⟩:=h2 q p hb
    have hsa:=ha a hoa
    rcases hor with rfl|hor
    ·exact hsa
    ·exact ih a (h1 q a hoa) hor (fun b hb=>hS a b hsa hb)
  have hedge:∀ a,On ops q a->S a=true:=by
   rcases hq with hq|hq
   ·exact fun a ha=>hS q a hq ha
   ·exact hq
  rcases Zgx h rfl p q (trOf ops x) (trOf ops y) hpq (Qp _) (by simp [hx]) (by simp [hy]) with h3|h3
  ·rw [up q h3 hedge] at hSp; cases hSp
  ·exact Zqh h3
 ·cases h
theorem DInv.congr {N:Nat} {recs:List Rec} {ef0:Nat->AV} {h0:Nat->ABlk} {nf:Nat} {rs:Locs} {Is:Imm} {ws:World} {ds:List Deferred} {S S' : Nat->Bool} {a:Act} (hs:∀ q x,recs[q]?=some x->S q=S' q) (h:DInv B w0 I0 pr N recs ef0 h0 D0 nf rs Is ws ds S a w):DInv B w0 I0 pr N recs ef0 h0 D0 nf rs Is ws ds S' a w:=by
 obtain ⟨⟨r,I,D,H,hD,hsz,htm,hst⟩,hdf⟩:=h
 have e1:hF recs S h0=hF recs S' h0:=funext fun i=>Yae i recs _ _ _ _ rfl fun q y hy=>.inl (hs q y hy)
 have e2:eF recs S ef0=eF recs S' ef0:=funext fun i=>Yan i recs _ _ _ _ rfl fun q y hy=>.inl (hs q y hy)
 refine ⟨⟨r,I,D,e1 ▸ H,fun id hd=>?_,hsz,e2 ▸ htm,hst⟩,hdf⟩
 rcases hD id hd with h|⟨q,x,hx,hq,h⟩
 ·exact .inl h
 ·exact .inr ⟨q,x,hx,(hs q x hx) ▸ hq,h⟩
theorem Zsy {cx:Cx} (hcx:CxOK P cx) {pc:PC} (hpc:PCOK P pc) {F:Fence} (hFo:FOK F) {ops:List Oper} {recs:List Rec} {ef0:Nat->AV} {h0:Nat->ABlk} {nf k0:Nat} {rs:Locs} {Is:Imm} {ws:World} {ds:List Deferred}
  (hops:recs.map (·.o)=ops) (hnd:Ya ops=true) (hok:Zka ops recs=true) (hrec:∀ (q:Nat) (x:Rec),recs[q]?=some x->RecAt cx pc N ops x (eF recs (fun p=>decide (p<q)) ef0) (hF recs (fun p=>decide (p<q)) h0))
  (hD0:∀ id,D0 id->id<k0) (hk:∀ (q:Nat) (x:Rec),recs[q]?=some x->k0<=x.k/\x.k+x.cnt<=nf/\1<=x.cnt) (hdis:∀ (p q:Nat) (x y:Rec),p<q->recs[p]?=some x->recs[q]?=some y->x.k+x.cnt<=y.k)
  (Q:Exit->Act->World->Prop) (hQ:∀ a w,DInv B w0 I0 pr N recs ef0 h0 D0 nf rs Is ws ds (fun _=>true) a w->Q .normal a w) :
  ∀ (fuel:Nat) (listed:Array Bool) (a:Act) (w:World),listed.size=ops.length->Zpn ops (fun q=>listed.getD q false)->listed.toList.countP (fun b=>!b)<=fuel ->
   DInv B w0 I0 pr N recs ef0 h0 D0 nf rs Is ws ds (fun q=>listed.getD q false) a w->wpAnyIn F 0 P .any ops.toArray Q fuel listed a w:=by
 obtain ⟨hlt,hind⟩:=Zj9 hok
 have hlen:recs.length=ops.length:=by rw [<-hops,List.length_map]
 have hready:∀ (listed:Array Bool),listed.size=ops.length->∀ q,q∈Oc .any ops.toArray listed↔(q<ops.length/\listed.getD q false=false/\∀ p,On ops q p->listed.getD p false=true):=by
  intro listed hsz q
  rw [mem_ready]
  constructor
  ·rintro ⟨h1,o,ho,h2⟩
   have ho:ops[q]?=some o:=by simpa using ho
   have hq:=(Qi.1 ho).1
   refine ⟨hq,?_,?_⟩
   ·simp only [Qy] at h1 ⊢
    rw [Sv (by omega)] at h1 ⊢
    exact h1
   ·rintro p ⟨o',ho',hp⟩
    rw [ho,Qf] at ho'
    subst ho'
    obtain ⟨e,he,hb,rfl⟩:=mem_bindsOn.1 hp
    exact h2 e (by simpa using he) hb
  ·rintro ⟨hq,h1,h2⟩
   refine ⟨?_,ops[q],by simp [hq],fun e he hb=>?_⟩
   ·simp only [Qy] at h1 ⊢
    rw [Sv (by omega)] at h1 ⊢
    exact h1
   ·exact h2 e.on ⟨ops[q],by simp [hq],mem_bindsOn.2 ⟨e,by simpa using he,hb,rfl⟩⟩
 have hall:∀ (listed:Array Bool),listed.size=ops.length->Oc .any ops.toArray listed=[]->∀ q,q<ops.length->listed.getD q false=true:=by
  intro listed hsz hr q
  induction q using Ji with
  | ind q ih =>
   intro hq
   cases hb:listed.getD q false with
   | true=>rfl
   | false =>
    have:q∈Oc .any ops.toArray listed:=(hready listed hsz q).2 ⟨hq,hb,fun p hp=>ih p (hlt q p hp) (Nat.lt_trans (hlt q p hp) hq)⟩
    rw [hr] at this; cases this
 have hdone:∀ (listed:Array Bool) (a:Act) (w:World),listed.size=ops.length->Oc .any ops.toArray listed=[]->DInv B w0 I0 pr N recs ef0 h0 D0 nf rs Is ws ds (fun q=>listed.getD q false) a w->Q .normal a w:=by
  intro listed a w hsz hr hi
  refine hQ a w (hi.congr fun q x hx=>?_)
  exact hall listed hsz hr q (by have:=(Qi.1 hx).1; omega)
 intro fuel
 induction fuel with
 | zero =>
  intro listed a w hsz hcl hcnt hi
  have hr:Oc .any ops.toArray listed=[]:=by
   cases hr:Oc .any ops.toArray listed with
   | nil=>rfl
   | cons q l =>
    obtain ⟨h1,h2,_⟩:=(hready listed hsz q).1 (by rw [hr]; simp)
    have h3:=List.countP_eq_zero.1 (Nat.le_zero.1 hcnt) (listed.getD q false) (by
     rw [Qy,Sv (by omega)]
     simp)
    rw [h2] at h3; simp at h3
  exact ⟨hr,hdone listed a w hsz hr hi⟩
 | succ fuel ih =>
  intro listed a w hsz hcl hcnt hi
  refine ⟨fun hr=>hdone listed a w hsz hr hi,fun q hq=>?_⟩
  obtain ⟨h1,h2,h3⟩:=(hready listed hsz q).1 hq
  have hqr:q<recs.length:=by omega
  have hx:recs[q]?=some recs[q]:=Qe hqr
  have ho:ops[q]?=some recs[q].o:=by rw [<-hops]; simp [hqr]
  have hset:∀ i,(listed.setIfInBounds q true).getD i false=setS (fun q=>listed.getD q false) q i:=by
   intro i
   simp only [setS,Qy,Sy]
   by_cases e:i=q
   ·subst e; rw [if_pos rfl,if_pos (by omega),if_pos rfl]; rfl
   ·rw [if_neg (fun h=>e h.symm),if_neg e]
  refine wpOpIn_mono (fun a' w' hi'=>?_) (Zo7 hcx hpc hFo hx ho ?_ h2 (hrec q _ hx) (fun p y hy hpq hs=>?_) (fun p y hpq hy hs=>?_) ?_ (hk q _ hx).2.1 (fun p y hy hne=>?_) hi Q)
  ·refine ih (listed.setIfInBounds q true) a' w' (by simpa using hsz) ?_ ?_ ?_
   ·intro i p hi2 hp
    dsimp only at hi2 ⊢
    rw [hset] at hi2 ⊢
    simp only [setS] at hi2 ⊢
    by_cases e:p=q
    ·simp [e]
    ·rw [if_neg e]
     by_cases e2:i=q
     ·subst e2; exact h3 p hp
     ·rw [if_neg e2] at hi2; exact hcl i p hi2 hp
   ·have:(listed.setIfInBounds q true).toList=listed.toList.set q true:=by simp
    rw [this,List.countP_set (by simpa using (show q<listed.size by omega))]
    have e:listed.toList[q]'(by simpa using (show q<listed.size by omega))=false:=by
     rw [Qy,Sv (by omega)] at h2
     simpa using h2
    rw [e]; simp only [Bool.not_false,if_true,Bool.not_true,Rs,if_false]; omega
   ·have:(fun q_1=>(listed.setIfInBounds q true).getD q_1 false)=setS (fun q=>listed.getD q false) q:=funext hset
    rw [this]; exact hi'
  ·intro c hc
   have:∀ (l:List Oper) (i:Nat) (o:Oper),Ya l=true->l[i]?=some o->∀ c,o.op ≠ .defer c:=by
    intro l
    induction l with
    | nil=>intro i o _ hio; simp at hio
    | cons b l ihl =>
     intro i o hn hio c hc
     simp only [Ya,Qc] at hn
     cases i with
     | zero=>simp at hio; subst hio; rw [hc] at hn; simp at hn
     | succ i=>exact ihl i o hn.2 (by simpa using hio) c hc
   exact this ops q _ hnd ho c hc
  ·exact hind _ hcl p q y recs[q] hpq hy hx hs (.inr h3)
  ·refine hind _ hcl q p recs[q] y hpq hx hy h2 (.inl hs)
  ·intro id hd; have:=hD0 id hd; have:=(hk q _ hx).1; omega
  ·rcases Nat.lt_or_gt_of_ne hne with h|h
   ·exact .inl (hdis p q y _ h hy hx)
   ·exact .inr (hdis q p _ y h hx hy)
theorem HR.next (H:HR B w0 I0 pr r I D h n w) (hn:n<=n'):HR B w0 I0 pr r I D h n' w :=
 ⟨H.below,H.base,H.imm,fun id hd=>⟨Tc (H.dom id hd).1 hn,(H.dom id hd).2⟩,H.live,H.blk,H.inj,H.prot,H.protK,H.immB⟩
def Zeo (cx:Cx) (pc:PC) (N:Nat) (ops:List Oper) (env:Env) (σ:St) (K:Env->St->Prop):Prop :=
 cond (Ya ops) (vcD cx pc N ops ops env σ σ.next [] fun recs env' σ'=>Dr (Zka ops recs=true) (K env' σ')) False
theorem Zqj {recs:List Rec} {S:Nat->Bool} (hS:∀ q,S q=false):∀ (l:List Rec) (h:Nat->ABlk),hF l S h=h:=by
 intro l
 induction l generalizing S with
 | nil=>intro h; rfl
 | cons x l ih=>intro h; simp only [hF,hS 0,Rs,if_false]; exact ih (fun q=>hS (q+1)) h
theorem Zqy {recs:List Rec} {S:Nat->Bool} (hS:∀ q,S q=false):∀ (l:List Rec) (h:Nat->AV),eF l S h=h:=by
 intro l
 induction l generalizing S with
 | nil=>intro h; rfl
 | cons x l ih=>intro h; simp only [eF,hS 0,Rs,if_false]; exact ih (fun q=>hS (q+1)) h
theorem Zbp {cx:Cx} (hcx:CxOK P cx) {pc:PC} (hpc:PCOK P pc) (hm:P.follows .mixedOrders=true) (id:Nat) (ops:Array Oper) (env:Env) (σ:St) (K:Env->St->Prop) (hv:Zeo cx pc N ops.toList env σ K) :
  Awp P N (.region id ops true) env σ (seqQ K fun _ _ _=>False):=by
 intro F B w0 I0 pr r I D a w hF hR S
 unfold Zeo at hv
 cases hnd:Ya ops.toList with
 | false=>rw [hnd] at hv; exact hv.elim
 | true =>
  rw [hnd] at hv
  obtain ⟨recs,env',σ',⟨hok,hK⟩,h2,h3,h4,h5,h6,h7,h8⟩:=Zie ops.toList env σ _ _ _ hv
  simp only [List.reverse_nil,List.nil_append] at hok
  refine wpIn_region_any hm ?_
  have hfalse:∀ q,(Pe ops.size false).getD q false=false:=by
   intro q
   rw [Qy,Array.getElem?_replicate]
   split<;>rfl
  have main:=Zsy (B:=B) (w0:=w0) (I0:=I0) (pr:=pr) (N:=N) (D0:=D) (k0:=σ.next) (nf:=σ'.next) (rs:=r) (Is:=I) (ws:=w) (ds:=a.defers) hcx hpc hF h2 hnd hok h3 (fun id hd=>(S.hr.dom id hd).1) h6 h7
   (Post B w0 I0 pr N r I D w a.defers (seqQ K fun _ _ _=>False)) (fun a' w' hi=>?_) ops.size (Pe ops.size false) a w.drew (by simp) (fun q p hq _=>by dsimp only at hq; rw [hfalse] at hq; cases hq) (by simpa using List.countP_le_length (l:=List.replicate ops.size false)) ?_
  ·simpa using main
  ·obtain ⟨⟨r2,I2,D2,H2,hD2,hsz,htm,hst⟩,hdf⟩:=hi
   rw [<-h5] at H2
   rw [<-h4] at htm
   refine ⟨pr,[],env',σ',r2,I2,D2,fun _ _ h=>h,fun d hd=>by simp at hd,.nil,by simpa using hdf,hK,⟨H2,hsz,htm⟩,hst,hst.size⟩
  ·refine ⟨⟨r,I,D,?_,fun id hd=>.inl hd,S.er.1,?_,Lz r D I w⟩,rfl⟩
   ·rw [Zqj (recs:=recs) hfalse]
    exact S.hr.drew.next h8
   ·rw [Zqy (recs:=recs) hfalse]
    exact fun t=>(S.er.2 t).mono (Lz r D I w)
variable {r r' : Locs} {D D' : Nat->Prop} {I I' : Imm} {w w' w0:World} {I0:Imm} {B n n' k N:Nat} {pr pr' : Nat->Obj->Prop} {h:Nat->ABlk} {P:Program}
mutual
theorem VR.reren {f:Nat->Nat} {D' : Nat->Prop} {m:Nat} (hf:∀ j,j<m->D (f j)->D' j/\r' j=r (f j)):∀ (v:AV) {x:Value},VR r I w D (Zi f v) x->Vj m v=true->VR r' I w D' v x
 | .any,x,hv,hm=>.any _ _
 | .bool _,x,hv,hm=>by simp only [Zi] at hv; cases hv; exact .bool _ _
 | .int _ _,x,hv,hm=>by simp only [Zi] at hv; cases hv; exact .int _ _ _
 | .flt _ _,x,hv,hm=>by simp only [Zi] at hv; cases hv; exact .flt _ _ _
 | .cpx _ _ _,x,hv,hm=>by simp only [Zi] at hv; cases hv; exact .cpx _ _ _ _
 | .val _ _ _,x,hv,hm=>by simp only [Zi] at hv; cases hv; exact .val _ _ _ _
 | .str _,x,hv,hm=>by simp only [Zi] at hv; cases hv; exact .str _ _
 | .ptr id idx sub,x,hv,hm=>by
  simp only [Vj,Th] at hm
  simp only [Zi] at hv
  cases hv with
  | ptr _ _ _ _ hd=>obtain ⟨h1,h2⟩:=hf id hm hd; rw [<-h2]; exact .ptr _ _ _ _ h1
 | .ipt cells,x,hv,hm=>by simp only [Zi] at hv; exact (hv.pure rfl).mono ⟨fun _ h=>h.elim,fun _ _ hi=>⟨hi,rfl⟩,Qd _⟩
 | .nilp,x,hv,hm=>by simp only [Zi] at hv; cases hv; exact .nilp _
 | .nils,x,hv,hm=>by simp only [Zi] at hv; cases hv; exact .nils _
 | .asl id idx len,x,hv,hm=>by
  simp only [Vj,Th] at hm
  simp only [Zi] at hv
  cases hv with
  | asl _ _ _ _ hd hc=>obtain ⟨h1,h2⟩:=hf id hm hd; rw [<-h2] at hc; rw [<-h2]; exact .asl _ _ _ _ h1 hc
 | .bsl id idx sub len cap,x,hv,hm=>by
  simp only [Vj,Th] at hm
  simp only [Zi] at hv
  cases hv with
  | bsl _ _ _ _ _ _ hd=>obtain ⟨h1,h2⟩:=hf id hm hd; rw [<-h2]; exact .bsl _ _ _ _ _ _ h1
 | .isl es elems,x,hv,hm=>by simp only [Zi] at hv; exact (hv.pure rfl).mono ⟨fun _ h=>h.elim,fun _ _ hi=>⟨hi,rfl⟩,Qd _⟩
 | .amap id,x,hv,hm=>by
  simp only [Vj,Th] at hm
  simp only [Zi] at hv
  cases hv with
  | amap _ _ hd=>obtain ⟨h1,h2⟩:=hf id hm hd; rw [<-h2]; exact .amap _ _ h1
 | .func g c0 c1,x,hv,hm=>by
  simp only [Vj,Qc] at hm
  simp only [Zi] at hv
  cases hv with
  | func _ _ _ _ v0 v1 h0 h1 g0 g1 =>
   exact .func _ _ _ _ _ _ (by rw [Ye] at h0; exact h0) (by rw [Ye] at h1; exact h1) (VR.rerenL hf c0 g0 hm.1) (VR.rerenL hf c1 g1 hm.2)
 | .yld _,x,hv,hm=>by simp only [Zi] at hv; cases hv; exact .yld _ _
 | .agg cs,x,hv,hm=>by
  simp only [Vj] at hm
  simp only [Zi] at hv
  cases hv with
  | agg _ _ vs h0 g=>exact .agg _ _ _ (by rw [Ye] at h0; exact h0) (VR.rerenL hf cs g hm)
 | .tup cs,x,hv,hm=>by
  simp only [Vj] at hm
  simp only [Zi] at hv
  cases hv with
  | tup _ _ vs h0 g=>exact .tup _ _ _ (by rw [Ye] at h0; exact h0) (VR.rerenL hf cs g hm)
theorem VR.rerenL {f:Nat->Nat} {D' : Nat->Prop} {m:Nat} (hf:∀ j,j<m->D (f j)->D' j/\r' j=r (f j)):∀ (cs:List AV) {vs:Array Value},(∀ (i:Nat) (c:AV) (v:Value),(renL f cs)[i]?=some c->vs[i]?=some v->VR r I w D c v)->Uc m cs=true ->
  ∀ (i:Nat) (c:AV) (v:Value),cs[i]?=some c->vs[i]?=some v->VR r' I w D' c v
 | [],vs,g,hm,i,c,v,hc,hv=>by simp at hc
 | a::cs,vs,g,hm,0,c,v,hc,hv=>by
  simp only [Uc,Qc] at hm
  simp only [Wj,Qf] at hc
  subst hc
  exact VR.reren hf a (g 0 _ v (by simp [renL]) hv) hm.1
 | a::cs,vs,g,hm,i+1,c,v,hc,hv=>by
  simp only [Uc,Qc] at hm
  refine VR.rerenL hf cs (vs:=vs.extract 1 vs.size) (fun j c' v' hc' hv'=>?_) hm.2 i c v (by simpa using hc) ?_
  ·refine g (j+1) c' v' (by simpa [renL] using hc') ?_
   rw [Nd] at hv'
   split at hv'
   ·rwa [Gr 1 j] at hv'
   ·cases hv'
  ·rw [Nd,if_pos]
   ·rwa [Gr 1 i]
   ·have:=(Qt.1 hv).1; omega
end
def Vg (f:Nat->Nat):List (List AV)->List (List AV)
 | []=>[]
 | e::l=>renL f e::Vg f l
def Zby (m:Nat):List (List AV)->Bool
 | []=>true
 | e::l=>Uc m e&&Zby m l
theorem Zcr (f:Nat->Nat):∀ (l:List (List AV)) (i:Nat),(Vg f l)[i]?=(l[i]?).map (renL f)
 | [],i=>by simp [Vg]
 | e::l,0=>by simp [Vg]
 | e::l,i+1=>by simp [Vg,Zcr f l i]
theorem Zeq (f:Nat->Nat):∀ (l:List (List AV)),(Vg f l).length=l.length
 | []=>rfl
 | e::l=>by simp [Vg,Zeq f l]
theorem Zlh {m:Nat}:∀ {l:List (List AV)},Zby m l=true->∀ {i:Nat} {e:List AV},l[i]?=some e->Uc m e=true
 | [],_,i,e,hi=>by simp at hi
 | a::l,h,0,e,hi=>by simp [Zby] at h hi; subst hi; exact h.1
 | a::l,h,i+1,e,hi=>by simp [Zby] at h hi; exact Zlh h.2 hi
theorem Zli {m:Nat}:∀ {l:List AV},Uc m l=true->∀ {i:Nat} {e:AV},l[i]?=some e->Vj m e=true
 | [],_,i,e,hi=>by simp at hi
 | a::l,h,0,e,hi=>by simp [Uc] at h hi; subst hi; exact h.1
 | a::l,h,i+1,e,hi=>by simp [Uc] at h hi; exact Zli h.2 hi
def RenB (f:Nat->Nat) (m:Nat) (b0:ABlk):ABlk->Prop
 | .row es elems mt pu=>match pu with
  | true=>b0 = .row es elems mt true
  | false=>∃ elems0,b0 = .row es elems0 mt false/\elems0=Vg f elems/\Zby m elems=true
 | .set keys=>b0 = .set keys
 | .dead=>True
 | .map _=>False
theorem BlkOK.ren {f:Nat->Nat} {m j:Nat} {b0 b:ABlk} (h:BlkOK r I w D B (f j) b0) (hb:RenB f m b0 b) (hr:b.live=true->r' j=r (f j)) (hf:∀ j,j<m->D (f j)->D' j/\r' j=r (f j)):BlkOK r' I w D' B j b:=by
 cases b with
 | dead=>trivial
 | map l=>exact hb.elim
 | set keys =>
  simp only [RenB] at hb
  subst hb
  have:=hr rfl
  simp only [BlkOK] at h ⊢
  rw [this]; exact h
 | row es elems mt pu =>
  have e:=hr rfl
  cases pu with
  | true =>
   simp only [RenB] at hb
   subst hb
   simp only [BlkOK] at h ⊢
   rw [e]
   obtain ⟨h1,h2,h3,cs,T,fz,h4,h5,h6,h7,h8⟩:=h
   refine ⟨h1,h2,h3,cs,T,fz,h4,h5,fun i e j c hi hj=>?_,h7,h8⟩
   obtain ⟨v,g1,g2⟩:=h6 i e j c hi hj
   exact ⟨v,g1,(g2.mono ⟨fun _ h=>by simp at h,fun _ _ h=>⟨h,rfl⟩,Qd _⟩:VR r0 I w (fun _=>False) c v).mono ⟨fun _ h=>h.elim,fun _ _ h=>⟨h,rfl⟩,Qd _⟩⟩
  | false =>
   obtain ⟨elems0,rfl,rfl,hids⟩:=hb
   simp only [BlkOK] at h ⊢
   rw [e]
   obtain ⟨h1,h2,h3,cs,T,fz,h4,h5,h6,h7,h8⟩:=h
   rw [Zeq] at h1 h2
   refine ⟨h1,h2,fun i e hi=>?_,cs,T,fz,h4,h5,fun i e j c hi hj=>?_,h7,fun hm i e j c hi hj=>?_⟩
   ·have:=h3 i (renL f e) (by rw [Zcr,hi]; rfl)
    rwa [Ye] at this
   ·obtain ⟨v,g1,g2⟩:=h6 i (renL f e) j (Zi f c) (by rw [Zcr,hi]; rfl) (by rw [Zcs,hj]; rfl)
    refine ⟨v,g1,VR.reren (D:=fun x=>True/\D x) (fun j' hj' hd=>?_) c g2 (Zli (Zlh hids hi) hj)⟩
    obtain ⟨q1,q2⟩:=hf j' hj' hd.2
    exact ⟨⟨trivial,q1⟩,q2⟩
   ·exact h8 hm i (renL f e) j (Zi f c) (by rw [Zcr,hi]; rfl) (by rw [Zcs,hj]; rfl)
structure Ren (n0:Nat) (env:Env) (σ:St) (env' : Env) (σ' : St):Prop where
 ex:∃ f:Nat->Nat,(∀ j,j<n0->f j=j)/\(∀ i,env'.get i = .any\/(env.get i=Zi f (env'.get i)/\Vj σ'.next (env'.get i)=true)) /\
  (∀ j,(σ'.get j).live=true->j<σ'.next/\(σ.get (f j)).live=true)/\(∀ j,RenB f σ'.next (σ.get (f j)) (σ'.get j))/\(∀ j j',(σ'.get j).live=true->(σ'.get j').live=true->f j=f j'->j=j')/\n0<=σ'.next
theorem HR.rename {n0:Nat} {env env' : Env} {σ σ' : St} (H:HR B w0 I0 pr r I D σ.get σ.next w) (hr:Ren n0 env σ env' σ') :
  ∃ r' D',HR B w0 I0 pr r' I D' σ'.get σ'.next w/\(∀ id,id<n0->D id->D' id/\r' id=r id)/\∀ tmps,ER r I w D N env tmps->ER r' I w D' N env' tmps:=by
 obtain ⟨f,f1,f2,f3,f4,f5,f6⟩:=hr.ex
 have hf:∀ j,j<σ'.next->D (f j)->(j<σ'.next/\D (f j))/\(fun j=>r (f j)) j=r (f j):=fun j h1 h2=>⟨⟨h1,h2⟩,rfl⟩
 refine ⟨fun j=>r (f j),fun j=>j<σ'.next/\D (f j),⟨H.below,H.base,H.imm,fun id hd=>⟨hd.1,(H.dom _ hd.2).2⟩,fun id hl=>⟨(f3 id hl).1,H.live _ (f3 id hl).2⟩,fun id=>?_,fun id id' h1 h2 hne=>?_,H.prot,fun b o hb=>⟨fun id hl=>(H.protK b o hb).1 _ (f3 id hl).2,(H.protK b o hb).2⟩,H.immB⟩,fun id h1 h2=>?_,fun tmps hE=>⟨hE.1,fun i=>?_⟩⟩
 ·exact BlkOK.ren (H.blk (f id)) (f4 id) (fun _=>rfl) hf
 ·exact H.inj _ _ (f3 id h1).2 (f3 id' h2).2 (fun e=>hne (f5 id id' h1 h2 e))
 ·have:=f1 id h1
  exact ⟨⟨by omega,by rw [this]; exact h2⟩,by show r (f id)=r id; rw [this]⟩
 ·rcases f2 i with e|⟨e1,e2⟩
  ·rw [e]; exact .any _ _
  ·have:=hE.2 i
   rw [e1] at this
   exact VR.reren hf _ this e2
theorem Step.rename {n0:Nat} {r1 r2 r3:Locs} {D1 D2 D3:Nat->Prop} {I1 I2:Imm} {w1 w2:World} (h:Step r1 D1 I1 w1 r2 D2 I2 w2) (hd:∀ id,D1 id->id<n0) (h3:∀ id,id<n0->D2 id->D3 id/\r3 id=r2 id):Step r1 D1 I1 w1 r3 D3 I2 w2 :=
 ⟨fun id h'=>by
  obtain ⟨a,b⟩:=h.ids id h'
  obtain ⟨c,d⟩:=h3 id (hd id h') a
  exact ⟨c,d.trans b⟩,h.imm,h.size⟩
def fOf:List (Nat × Nat)->Nat->Nat
 | [],j=>j
 | (a,b)::l,j=>cond (Qs j a) b (fOf l j)
def RenE (f:Nat->Nat) (m:Nat) (env:Env):Env->Prop
 | []=>True
 | (i,v)::l=>(env.get i=Zi f v/\Vj m v=true)/\RenE f m env l
def RenH (f:Nat->Nat) (m:Nat) (h:Nat->ABlk):List (Nat × ABlk)->Prop
 | []=>True
 | (j,b)::l=>(Pp j m=true/\(h (f j)).live=true/\RenB f m (h (f j)) b)/\RenH f m h l
theorem Zmt:∀ (l:List (Nat × ABlk)) (j:Nat),(hget l j).live=true->(j,hget l j)∈l
 | [],j,h=>by simp [hget,Wi] at h
 | (a,b)::l,j,h=>by
  simp only [hget] at h ⊢
  cases hb:Qs j a with
  | true=>rw [Qh hb]; simp
  | false=>rw [hb] at h; simp only [cond_false] at h ⊢; exact List.mem_cons_of_mem _ (Zmt l j h)
theorem RenH.mem {f:Nat->Nat} {m:Nat} {h:Nat->ABlk}:∀ {l:List (Nat × ABlk)},RenH f m h l->∀ {j:Nat} {b:ABlk},(j,b)∈l->Pp j m=true/\(h (f j)).live=true/\RenB f m (h (f j)) b
 | [],_,j,b,hm=>by simp at hm
 | (a,b0)::l,hl,j,b,hm=>by
  rcases Ra.1 hm with e|hm
  ·cases e; exact hl.1
  ·exact hl.2.mem hm
theorem RenE.get {f:Nat->Nat} {m:Nat} {env:Env}:∀ {l:Env},RenE f m env l->∀ i,l.get i = .any\/(env.get i=Zi f (l.get i)/\Vj m (l.get i)=true)
 | [],_,i=>.inl rfl
 | (a,v)::l,h,i=>by
  rw [Pg]
  by_cases e:i=a
  ·subst e; rw [if_pos rfl]; exact .inr h.1
  ·rw [if_neg e]; exact h.2.get i
def okF (n0:Nat):List (Nat × Nat)->Bool
 | []=>true
 | (a,b)::l=>Su n0 a&&l.all (fun p=>!Nat.beq p.1 a)&&l.all (fun p=>!Nat.beq p.2 b)&&okF n0 l
def Zf8 (n0:Nat) (fl:List (Nat × Nat)):List (Nat × ABlk)->Bool
 | []=>true
 | (j,_)::l=>(Pp j n0||fl.any (fun p=>Qs p.1 j))&&Zf8 n0 fl l
def imgF (n0:Nat) (fl:List (Nat × Nat)):Bool:=fl.all fun p=>Su n0 p.2
theorem Zbf {n0:Nat}:∀ {fl:List (Nat × Nat)},okF n0 fl=true->∀ j,j<n0->fOf fl j=j
 | [],_,j,_=>rfl
 | (a,b)::l,h,j,hj=>by
  simp only [okF,Qc] at h
  have ha:=Qm h.1.1.1
  have:Qs j a=false:=by rw [Qx]; intro e; have:=Qh e; omega
  simp only [fOf,this,cond_false]
  exact Zbf h.2 j hj
theorem Zcv {n0:Nat}:∀ {fl:List (Nat × Nat)} {a b:Nat},okF n0 fl=true->(a,b)∈fl->fOf fl a=b
 | (a,b)::l,x,y,h,hm=>by
  simp only [okF,Qc] at h
  rcases Ra.1 hm with e|hm
  ·cases e; simp [fOf]
  ·have:=Rf.1 h.1.1.2 (x,y) hm
   simp only [Bool.not_eq_true'] at this
   simp only [fOf,this,cond_false]
   exact Zcv h.2 hm
theorem Zp7 {n0:Nat}:∀ {fl:List (Nat × Nat)} {a b a' : Nat},okF n0 fl=true->(a,b)∈fl->(a',b)∈fl->a=a'
 | (x,y)::l,a,b,a',h,h1,h2=>by
  simp only [okF,Qc] at h
  rcases Ra.1 h1 with e|h1<;>rcases Ra.1 h2 with e' | h2
  ·cases e; cases e'; rfl
  ·cases e; have:=Rf.1 h.1.2 _ h2; simp at this
  ·cases e'; have:=Rf.1 h.1.2 _ h1; simp at this
  ·exact Zp7 h.2 h1 h2
theorem Zdx {n0:Nat} {fl:List (Nat × Nat)}:∀ {l:List (Nat × ABlk)},Zf8 n0 fl l=true->∀ {j:Nat} {b:ABlk},(j,b)∈l->j<n0\/∃ y,(j,y)∈fl
 | (a,_)::l,h,j,b,hm=>by
  simp only [Zf8,Qc,Ro,Th] at h
  rcases Ra.1 hm with e|hm
  ·cases e
   rcases h.1 with h1|h1
   ·exact .inl h1
   ·obtain ⟨p,hp,hpe⟩:=List.any_eq_true.1 h1
    have:=Qh hpe
    exact .inr ⟨p.2,by rw [<-this]; exact hp⟩
  ·exact Zdx h.2 hm
theorem Ren.of {n0:Nat} {env env' : Env} {σ:St} {heap' : List (Nat × ABlk)} {n1:Nat} (fl:List (Nat × Nat)) (h1:(okF n0 fl&&Zf8 n0 fl heap'&&imgF n0 fl&&Su n0 n1)=true) (h2:RenE (fOf fl) n1 env env') (h3:RenH (fOf fl) n1 σ.get heap'):Ren n0 env σ env' ⟨heap',n1⟩:=by
 simp only [Qc] at h1
 obtain ⟨⟨⟨o1,o2⟩,o3⟩,o4⟩:=h1
 have live:∀ j,(Oh ⟨heap',n1⟩ j).live=true->(j,hget heap' j)∈heap':=fun j hl=>Zmt heap' j hl
 refine ⟨fOf fl,Zbf o1,h2.get,fun j hl=>?_,fun j=>?_,fun j j' hl hl' e=>?_,Qm o4⟩
 ·have:=h3.mem (live j hl)
  exact ⟨by simpa [Th] using this.1,this.2.1⟩
 ·by_cases hl:(Oh ⟨heap',n1⟩ j).live=true
  ·exact (h3.mem (live j hl)).2.2
  ·have:Oh ⟨heap',n1⟩ j = .dead:=by cases hx:Oh ⟨heap',n1⟩ j<;>simp_all [Wi]
   rw [this]; trivial
 ·have img:∀ {a b:Nat},(a,b)∈fl->n0<=b:=fun hm=>Qm (Rf.1 o3 _ hm)
  rcases Zdx o2 (live j hl) with k1|⟨y,k1⟩<;>rcases Zdx o2 (live j' hl') with k2|⟨y',k2⟩
  ·rwa [Zbf o1 j k1,Zbf o1 j' k2] at e
  ·rw [Zbf o1 j k1,Zcv o1 k2] at e; have:=img k2; omega
  ·rw [Zcv o1 k1,Zbf o1 j' k2] at e; have:=img k1; omega
  ·rw [Zcv o1 k1,Zcv o1 k2] at e; subst e; exact Zp7 o1 k1 k2
variable {r r' : Locs} {D D' : Nat->Prop} {I I' : Imm} {w w' w0:World} {I0:Imm} {B n n' k N:Nat} {pr pr' pr2:Nat->Obj->Prop} {h:Nat->ABlk} {P:Program}
structure Chg (O:Nat->Prop) (w w' : World):Prop where
 os:w'.os=w.os
 tape:w'.tape=w.tape
 output:w'.output=w.output
 size:w.heap.size<=w'.heap.size
 block:∀ b,¬ O b->b<w.heap.size->w'.heap[b]?=w.heap[b]?
theorem HR.chg (H:HR B w0 I0 pr r I D h n w) {O:Nat->Prop} (hO:∀ b,O b->∃ o,pr b o) (hc:Chg O w w') (hp2:∀ b o,pr2 b o->(pr b o /\ ¬ O b)\/((O b\/w.heap.size<=b)/\w'.heap[b]?=some o)) :
  HR B w0 I0 pr2 r I D h n w'/\Step r D I w r D I w':=by
 have hst:Step r D I w r D I w':=⟨fun id hd=>⟨hd,rfl⟩,fun b o hi=>⟨hi,Pa (hc.block b (fun hb=>by
  obtain ⟨o',ho⟩:=hO b hb
  exact (H.protK b o' ho).2 o hi) (H.imm b o hi))⟩,hc.size⟩
 have hB:∀ b,O b->B<=b:=fun b hb=>by obtain ⟨o',ho⟩:=hO b hb; exact (H.prot b o' ho).2
 refine ⟨⟨H.below.trans ⟨hc.os,hc.tape,hc.output,hc.size,fun b hb=>hc.block b (fun ho=>by have:=hB b ho; omega) (by have:=H.base; omega)⟩,Re H.base hc.size,fun b o hi=>Tc (H.imm b o hi) hc.size,fun id hd=>⟨(H.dom id hd).1,Tc (H.dom id hd).2 hc.size⟩,H.live,fun id=>?_,H.inj,fun b o hp=>?_,fun b o hp=>?_,H.immB⟩,hst⟩
 ·by_cases hl:(h id).live=true
  ·refine (H.blk id).mono hst rfl (fun _=>hc.block _ (fun hb=>?_) (H.dom id (H.live id hl)).2) (fun _ _ _ _ _ hx=>hx)
   obtain ⟨o',ho⟩:=hO _ hb
   exact (H.protK _ o' ho).1 id hl rfl
  ·have:h id = .dead:=by cases hx:h id<;>simp_all [Wi]
   rw [this]; trivial
 ·rcases hp2 b o hp with ⟨h1,h2⟩|⟨h1,h2⟩
  ·have:=H.prot b o h1
   exact ⟨(hc.block b h2 (Qt.1 this.1).1).trans this.1,this.2⟩
  ·refine ⟨h2,?_⟩
   rcases h1 with h1|h1
   ·exact hB b h1
   ·exact Re H.base h1
 ·rcases hp2 b o hp with ⟨h1,h2⟩|⟨h1|h1,h2⟩
  ·exact H.protK b o h1
  ·obtain ⟨o',ho⟩:=hO b h1
   exact H.protK b o' ho
  ·exact ⟨fun id hl=>by have:=(H.dom id (H.live id hl)).2; omega,fun o' hi=>by have:=H.imm b o' hi; omega⟩
theorem Chg.putObj (w:World) (l:Nat) (o:Obj):Chg (fun b=>b=l) w (w.putObj l o) :=
 ⟨rfl,rfl,rfl,by simp [Jp],fun b hb _=>by
  show (w.heap.setIfInBounds l o)[b]?=_
  rw [Sy,if_neg (fun e=>hb e.symm)]⟩
theorem Zjf {l:Nat} {o o' : Obj} (h:w.heap[l]?=some o):(w.putObj l o').heap[l]?=some o':=by
 show (w.heap.setIfInBounds l o')[l]?=_
 rw [Sy,if_pos rfl,if_pos (Qt.1 h).1]
theorem Chg.alloc (w:World) (o:Obj):Chg (fun _=>False) w (w.alloc o):=⟨rfl,rfl,rfl,by simp,fun b _ hb=>Yc w o hb⟩
structure RoundsOK (P:Program) (W:World) (I:Imm) (l:Nat) (xs:List (List AV)) (J:Nat->(Nat->Prop)->World->Prop) (X:(Nat->Prop)->World->Prop):Prop where
 growX:∀ O w w',X O w->Chg O w w'->X (fun b=>O b\/(w.heap.size<=b/\b<w'.heap.size)) w'
 grow:∀ i O w w',J i O w->Chg O w w'->J i (fun b=>O b\/(w.heap.size<=b/\b<w'.heap.size)) w'
 fin:∀ i O w,J i O w->∀ b,O b->b<w.heap.size
 round:∀ i x O w ys,xs[i]?=some x->J i O w->VRs r0 I w (fun _=>False) x ys ->
  YieldAt Ti 0 P l ys w fun e w'=>∃ b,e = .returned (.bool b)/\(∀ q,O q->w'.heap[q]?=w.heap[q]?)/\(∀ q o,I q o->w'.cell? ⟨q,o,none⟩=w.cell? ⟨q,o,none⟩)/\w.heap.size<=w'.heap.size/\(b=true->J (i+1) O w')/\(b=false->X O w')
def ItOK (P:Program) (g:FuncId) (c0 c1:List AV) (xs:List (List AV)):Prop :=
 FnOK P g/\∀ (I:Imm) (W:World) (v0 v1:Array Value) (l:Nat) (J:Nat->(Nat->Prop)->World->Prop) (X:(Nat->Prop)->World->Prop),(∀ b o,I b o->b<W.heap.size)->VRs r0 I W (fun _=>False) c0 v0->VRs r0 I W (fun _=>False) c1 v1 ->
  RoundsOK P W I l xs J X->J 0 (fun _=>False) W->CallsIn Ti 0 P g ((v0 ++ #[.func (.yield l) #[] #[]])++v1) W fun e w'=>∃ v,e = .returned v/\((∃ O,J xs.length O w')\/∃ O,X O w')
def Zfx:List Tmp->List AV->Env->Env
 | p::ps,x::xs,env=>Zfx ps xs ((p,x)::env)
 | _,_,env=>env
def Zau (N:Nat):List Tmp->Bool
 | []=>true
 | p::ps=>Pp p N&&Zau N ps
def Zgz (P:Program) (N n0:Nat) (ps:List Tmp) (assign body:Code) (env:Env) (Q:Exit->Env->St->Prop):List (List AV)->St->Prop
 | [],σ=>Q .normal env σ
 | x::xs,σ=>x.length=ps.length/\Awp P N assign (Zfx ps x env) σ fun e env1 σ1=>e = .normal/\Awp P N body env1 σ1 fun e _ σ2=>match e with
  | .normal=>∃ σ3,(σ3=σ2\/Ren n0 [] σ2 [] σ3)/\Zgz P N n0 ps assign body env Q xs σ3
  | .ret=>Q .ret env σ2
  | .exit id=>Q (.exit id) env σ2
  | _=>False
theorem Znt {env:Env}:∀ {ps:List Tmp} {x:List AV} {ys:List Value} {env:Env} {tmps:Array Value},Zau N ps=true->x.length=ps.length->VRs r I w D x ys.toArray->ER r I w D N env tmps ->
  ER r I w D N (Zfx ps x env) ((ps.zip ys).foldl (fun t (p,v)=>t.setIfInBounds p v) tmps)
 | [],[],ys,env,tmps,_,_,_,E=>by simpa [Zfx] using E
 | [],_::_,ys,env,tmps,_,hl,_,E=>by simp at hl
 | _::_,[],ys,env,tmps,_,hl,_,E=>by simp at hl
 | p::ps,a::x,[],env,tmps,_,hl,hv,E=>by have:=hv.1; simp at this
 | p::ps,a::x,y::ys,env,tmps,hb,hl,hv,E=>by
  simp only [Zau,Qc,Th] at hb
  simp only [Zfx,List.zip_cons_cons,List.foldl_cons]
  exact Znt (env:=env) hb.2 (by simpa using hl) ⟨by simpa using hv.1,fun i c v hc hv'=>hv.2 (i+1) c v (by simpa using hc) (by simpa using hv')⟩ (E.put hb.1 (hv.2 0 a y rfl rfl))
variable {n0:Nat} {r r' : Locs} {D D' : Nat->Prop} {I I' : Imm} {w w' w0:World} {I0:Imm} {B n n' k N:Nat} {pr pr' pr2:Nat->Obj->Prop} {h:Nat->ABlk} {P:Program}
def prI (pr:Nat->Obj->Prop) (l:Nat) (rec:Loop) (O:Nat->Prop) (w:World):Nat->Obj->Prop:=fun b o=>pr b o\/(b=l/\o = .loop rec)\/(O b/\w.heap[b]?=some o)
def recS (rec:Loop) (s:LoopState) (c:Option Code):Loop:={ rec with state:=s,pending:=c }
structure Betw (P:Program) (N n0:Nat) (B:Nat) (w0:World) (I0:Imm) (pr:Nat->Obj->Prop) (l:Nat) (rec:Loop) (r:Locs) (I:Imm) (D:Nat->Prop) (w1:World) (ps:List Tmp) (assign body:Code) (env:Env) (Q:Exit->Env->St->Prop) (rest:List (List AV)) (O:Nat->Prop) (W:World):Prop where
 ex:∃ σ r' I' D',HR B w0 I0 (prI pr l (recS rec .ready none) O W) r' I' D' σ.get σ.next W/\Step r D I w1 r' D' I' W/\Zgz P N n0 ps assign body env Q rest σ
 own:∀ b,O b->w1.heap.size<=b/\b<W.heap.size
 low:∀ b o,pr b o->b<w1.heap.size/\b≠l
 lt:l<w1.heap.size
 dlt:∀ id,D id->id<n0
def Left (B:Nat) (w0:World) (I0:Imm) (pr:Nat->Obj->Prop) (l:Nat) (rec:Loop) (r:Locs) (I:Imm) (D:Nat->Prop) (w1:World) (env:Env) (Q:Exit->Env->St->Prop) (O:Nat->Prop) (W:World):Prop :=
 (∀ b,O b->w1.heap.size<=b/\b<W.heap.size)/\(∀ b o,pr b o->b<w1.heap.size/\b≠l)/\l<w1.heap.size/\∃ c e σ r' I' D',((c = .ret/\e = .ret)\/(∃ id,c = .exit id/\e = .exit id))/\HR B w0 I0 (prI pr l (recS rec .done (some c)) O W) r' I' D' σ.get σ.next W/\Step r D I w1 r' D' I' W/\Q e env σ
theorem Betw.grow {l:Nat} {rec:Loop} {w1:World} {ps:List Tmp} {assign body:Code} {env:Env} {Q:Exit->Env->St->Prop} {rest:List (List AV)} {O:Nat->Prop} (b:Betw P N n0 B w0 I0 pr l rec r I D w1 ps assign body env Q rest O w) (hc:Chg O w w') :
  Betw P N n0 B w0 I0 pr l rec r I D w1 ps assign body env Q rest (fun b=>O b\/(w.heap.size<=b/\b<w'.heap.size)) w':=by
 obtain ⟨⟨σ,r',I',D',H,S,hr⟩,hown,hlow,hrec,hdlt⟩:=b
 have hsz:w1.heap.size<=w.heap.size:=S.size
 obtain ⟨H',S'⟩:=H.chg (pr2:=prI pr l (recS rec .ready none) (fun b=>O b\/(w.heap.size<=b/\b<w'.heap.size)) w') (O:=O) (fun b hb=>by
   have hlt:=(hown b hb).2
   exact ⟨w.heap[b],.inr (.inr ⟨hb,by simp [hlt]⟩)⟩) hc (fun b o hp=>by
   rcases hp with h|⟨rfl,rfl⟩|⟨h|h,h2⟩
   ·refine .inl ⟨.inl h,fun hb=>?_⟩
    have:=hlow b o h; have:=hown b hb; omega
   ·refine .inl ⟨.inr (.inl ⟨rfl,rfl⟩),fun hb=>?_⟩
    have:=hown b hb; omega
   ·exact .inr ⟨.inl h,h2⟩
   ·exact .inr ⟨.inr h.1,h2⟩)
 refine ⟨⟨σ,r',I',D',H',S.trans S',hr⟩,fun b hb=>?_,hlow,hrec,hdlt⟩
 rcases hb with hb|hb
 ·have:=hown b hb; have:=hc.size; omega
 ·omega
theorem Left.grow {l:Nat} {rec:Loop} {w1:World} {env:Env} {Q:Exit->Env->St->Prop} {O:Nat->Prop} (b:Left B w0 I0 pr l rec r I D w1 env Q O w) (hc:Chg O w w') :
  Left B w0 I0 pr l rec r I D w1 env Q (fun b=>O b\/(w.heap.size<=b/\b<w'.heap.size)) w':=by
 obtain ⟨hown,hlow,hrec,c,e,σ,r',I',D',hce,H,S,hr⟩:=b
 have hsz:w1.heap.size<=w.heap.size:=S.size
 obtain ⟨H',S'⟩:=H.chg (pr2:=prI pr l (recS rec .done (some c)) (fun b=>O b\/(w.heap.size<=b/\b<w'.heap.size)) w') (O:=O) (fun b hb=>by
   have hlt:=(hown b hb).2
   exact ⟨w.heap[b],.inr (.inr ⟨hb,by simp [hlt]⟩)⟩) hc (fun b o hp=>by
   rcases hp with h|⟨rfl,rfl⟩|⟨h|h,h2⟩
   ·refine .inl ⟨.inl h,fun hb=>?_⟩
    have:=hlow b o h; have:=hown b hb; omega
   ·refine .inl ⟨.inr (.inl ⟨rfl,rfl⟩),fun hb=>?_⟩
    have:=hown b hb; omega
   ·exact .inr ⟨.inl h,h2⟩
   ·exact .inr ⟨.inr h.1,h2⟩)
 refine ⟨fun b hb=>?_,hlow,hrec,c,e,σ,r',I',D',hce,H',S.trans S',hr⟩
 rcases hb with hb|hb
 ·have:=hown b hb; have:=hc.size; omega
 ·omega
theorem FOK.round (l:Nat):FOK (Fence.wide.inRound l):=.inr ⟨l,rfl⟩
theorem Betw.round {l Db:Nat} {rec:Loop} {w1:World} {ps:List Tmp} {assign body:Code} {env:Env} {tmps:Array Value} {Q:Exit->Env->St->Prop} {x:List AV} {rest:List (List AV)} {O:Nat->Prop} {ys:Array Value}
  (b:Betw P N n0 B w0 I0 pr l rec r I D w1 ps assign body env Q (x::rest) O w) (hps:Zau N ps=true) (hrp:rec.params.toList=ps) (hrt:rec.tmps=tmps) (hra:rec.assign=assign) (hrb:rec.body=body) (hrd:rec.defers=Db) (hdb:pr Db (.deferred (some [])))
  (hE:ER r I w1 D N env tmps) (hI1:∀ q o,I0 q o->I0 q o) (hv:VRs r0 I w (fun _=>False) x ys) :
  YieldAt Ti 0 P l ys w fun e w'=>∃ b,e = .returned (.bool b)/\(∀ q,O q->w'.heap[q]?=w.heap[q]?)/\(∀ q o,I q o->w'.cell? ⟨q,o,none⟩=w.cell? ⟨q,o,none⟩)/\w.heap.size<=w'.heap.size /\
   (b=true->Betw P N n0 B w0 I0 pr l rec r I D w1 ps assign body env Q rest O w')/\(b=false->Left B w0 I0 pr l rec r I D w1 env Q O w'):=by
 obtain ⟨⟨σ,r',I',D',H,S,hlen,hass⟩,hown,hlow,hrec,hdlt⟩:=b
 have hl:w.heap[l]?=some (.loop (recS rec .ready none)):=(H.prot l _ (.inr (.inl ⟨rfl,rfl⟩))).1
 have hys:ys.size=rec.params.size:=by
  have:rec.params.size=ps.length:=by rw [<-hrp]; simp
  rw [hv.1,hlen,this]
 have hy:=run_yield (P:=P) (args:=ys) hl (by simpa [recS] using hys)
 refine ⟨_,_,_,_,hy,roundIn_of_wpIn trivial ?_⟩
 have hvx:VRs r' I' w D' x ys:=⟨hv.1,fun i c v hc hv'=>((hv.2 i c v hc hv').mono ⟨fun _ h=>h.elim,fun q o hi=>⟨(S.imm q o hi).1,rfl⟩,Qd _⟩:VR r0 I' w (fun _=>False) c v).mono ⟨fun _ h=>h.elim,fun q o hi=>⟨hi,rfl⟩,Qd _⟩⟩
 have hE1:ER r' I' w D' N (Zfx ps x env) (((recS rec .ready none).params.zip ys).foldl (fun t (p,v)=>t.setIfInBounds p v) (recS rec .ready none).tmps):=by
  have:=Znt (env:=env) (ps:=ps) (x:=x) (ys:=ys.toList) hps hlen (by simpa using hvx) (hE.mono S)
  subst hrp
  rw [<-hrt] at this
  rw [<-Array.foldl_toList,Array.toList_zip]
  exact this
 have hRd1:RdOK (Fence.wide.inRound l) (prI pr l (recS rec .ready none) O w):=by
  intro l' hl'
  cases hl'
  exact ⟨_,.inr (.inl ⟨rfl,rfl⟩),.inl (by simpa [recS,hrd] using hdb)⟩
 have h1:=hass (Fence.wide.inRound l) B w0 I0 (prI pr l (recS rec .ready none) O w) r' I' D' { tmps:=((recS rec .ready none).params.zip ys).foldl (fun t (p,v)=>t.setIfInBounds p v) (recS rec .ready none).tmps,defers:=[] } w (FOK.round l) hRd1 ⟨H,hE1⟩
 have ha:(recS rec .ready none).assign=assign:=hra
 have hb:(recS rec .ready none).body=body:=hrb
 rw [ha,hb]
 refine Ru (fun e a1 W1 hp=>?_) h1
 obtain ⟨pr1,ms1,env1,σ1,r1,I1,D1,p1,m1,n1,d1,⟨rfl,hbody⟩,s1,t1,z1⟩:=hp
 have hl1:W1.heap[l]?=some (.loop (recS rec .ready none)):=(s1.hr.prot l _ (p1 _ _ (.inr (.inl ⟨rfl,rfl⟩)))).1
 refine ⟨_,run_beginRound hl1 rfl,?_⟩
 have hbusy:({ recS rec .ready none with state:=.busy }:Loop)=recS rec .busy none:=rfl
 rw [hbusy]
 obtain ⟨H2,S2⟩:=s1.hr.chg (w':=W1.putObj l (.loop (recS rec .busy none))) (O:=fun b=>b=l) (pr2:=fun b o=>(pr1 b o/\b≠l)\/(b=l/\o = .loop (recS rec .busy none))) (fun b hb=>⟨_,hb ▸ p1 _ _ (.inr (.inl ⟨rfl,rfl⟩))⟩) (Chg.putObj _ _ _) (fun b o hp=>by
  rcases hp with h|⟨rfl,rfl⟩
  ·exact .inl h
  ·exact .inr ⟨.inl rfl,Zjf hl1⟩)
 have hRd2:RdOK (Fence.wide.inRound l) (fun b o=>(pr1 b o/\b≠l)\/(b=l/\o = .loop (recS rec .busy none))):=by
  intro l' hl'
  cases hl'
  refine ⟨_,.inr ⟨rfl,rfl⟩,.inl ⟨p1 _ _ (.inl (by simpa [recS,hrd] using hdb)),?_⟩⟩
  have:=(hlow _ _ hdb).2
  simpa [recS,hrd] using this
 have h2:=hbody (Fence.wide.inRound l) B w0 I0 _ r1 I1 D1 a1 (W1.putObj l (.loop (recS rec .busy none))) (FOK.round l) hRd2 ⟨H2,s1.er.mono S2⟩
 refine Ru (fun e a3 W3 hp=>?_) h2
 obtain ⟨pr3,ms3,env3,σ3,r3,I3,D3,p3,m3,n3,d3,q3,s3,t3,z3⟩:=hp
 have hl3:W3.heap[l]?=some (.loop (recS rec .busy none)):=(s3.hr.prot l _ (p3 _ _ (.inr ⟨rfl,rfl⟩))).1
 have hOl:∀ q,O q->q≠l:=fun q hq e=>by have:=(hown q hq).1; omega
 have hOw:∀ q,O q->W3.heap[q]?=w.heap[q]?:=by
  intro q hq
  have hlt:=(hown q hq).2
  have e1:w.heap[q]?=some w.heap[q]:=by simp [hlt]
  have:=(s3.hr.prot q _ (p3 _ _ (.inl ⟨p1 _ _ (.inr (.inr ⟨hq,e1⟩)),hOl q hq⟩))).1
  rw [this,e1]
 have hS3:Step r' D' I' w r3 D3 I3 W3:=(t1.trans S2).trans t3
 have fin:∀ (jump:Option Code) (st:LoopState),st=(if jump.isNone then .ready else .done)->∀ Ox:Nat->Prop,(∀ q,Ox q->O q) ->
   HR B w0 I0 (prI pr l (recS rec st jump) Ox (W3.putObj l (.loop (recS rec st jump)))) r3 I3 D3 σ3.get σ3.next (W3.putObj l (.loop (recS rec st jump)))/\Step r3 D3 I3 W3 r3 D3 I3 (W3.putObj l (.loop (recS rec st jump))):=by
  intro jump st hst Ox hOx
  refine s3.hr.chg (O:=fun b=>b=l) (fun b hb=>⟨_,hb ▸ p3 _ _ (.inr ⟨rfl,rfl⟩)⟩) (Chg.putObj _ _ _) (fun b o hp=>?_)
  rcases hp with h|⟨rfl,rfl⟩|⟨h,h2⟩
  ·have hbl:=(hlow b o h).2
   exact .inl ⟨p3 _ _ (.inl ⟨p1 _ _ (.inl h),hbl⟩),hbl⟩
  ·exact .inr ⟨.inl rfl,Zjf hl3⟩
  ·have hbl:=hOl b (hOx b h)
   have e1:=(Chg.putObj W3 l (.loop (recS rec st jump))).block b hbl (by have:=(hown b (hOx b h)).2; have:=hS3.size; omega)
   rw [e1,hOw b (hOx b h)] at h2
   exact .inl ⟨p3 _ _ (.inl ⟨p1 _ _ (.inr (.inr ⟨hOx b h,h2⟩)),hbl⟩),hbl⟩
 have done:∀ (jump:Option Code) (st:LoopState),st=(if jump.isNone then .ready else .done)->((Kj l jump).run P W3 = .ok (.bool jump.isNone) (W3.putObj l (.loop (recS rec st jump)))):=by
  intro jump st hst
  have:=run_endRound (P:=P) jump hl3
  rw [this,hst]
  rfl
 have keep:∀ (jump:Option Code) (st:LoopState),(∀ q,O q->(W3.putObj l (.loop (recS rec st jump))).heap[q]?=w.heap[q]?)/\(∀ q o,I q o->(W3.putObj l (.loop (recS rec st jump))).cell? ⟨q,o,none⟩=w.cell? ⟨q,o,none⟩)/\w.heap.size<=(W3.putObj l (.loop (recS rec st jump))).heap.size:=by
  intro jump st
  have hsz:(W3.putObj l (.loop (recS rec st jump))).heap.size=W3.heap.size:=by simp [Jp]
  refine ⟨fun q hq=>?_,fun q o hi=>?_,?_⟩
  ·rw [(Chg.putObj W3 l (.loop (recS rec st jump))).block q (hOl q hq) (by have:=(hown q hq).2; have:=hS3.size; omega),hOw q hq]
  ·have h1:=(S.imm q o hi).1
   have hx2:=hS3.imm q o h1
   have hne:q≠l:=fun e=>by
    subst e
    exact (s3.hr.protK q _ (p3 _ _ (.inr ⟨rfl,rfl⟩))).2 o hx2.1
   rw [Pa ((Chg.putObj W3 l (.loop (recS rec st jump))).block q hne (s3.hr.imm q o hx2.1))]
   exact hx2.2
  ·rw [hsz]; exact hS3.size
 have hown' : ∀ (jump:Option Code) (st:LoopState),∀ q,O q->w1.heap.size<=q/\q<(W3.putObj l (.loop (recS rec st jump))).heap.size:=by
  intro jump st q hq
  have:=hown q hq
  have:=(keep jump st).2.2
  omega
 have stop:∀ (c:Code) (e:Exit),((c = .ret/\e = .ret)\/(∃ id,c = .exit id/\e = .exit id))->Q e env σ3 ->
   ∃ v w',(Kj l (some c)).run P W3 = .ok v w'/\∃ b,Jh v = .returned (.bool b)/\(∀ q,O q->w'.heap[q]?=w.heap[q]?)/\(∀ q o,I q o->w'.cell? ⟨q,o,none⟩=w.cell? ⟨q,o,none⟩)/\w.heap.size<=w'.heap.size /\
    (b=true->Betw P N n0 B w0 I0 pr l rec r I D w1 ps assign body env Q rest O w')/\(b=false->Left B w0 I0 pr l rec r I D w1 env Q O w'):=by
  intro c e hce hq
  obtain ⟨H4,S4⟩:=fin (some c) .done rfl O (fun _ h=>h)
  exact ⟨_,_,done (some c) .done rfl,false,rfl,(keep _ _).1,(keep _ _).2.1,(keep _ _).2.2,(fun h=>by cases h),fun _=>⟨hown' _ _,hlow,hrec,c,e,σ3,r3,I3,D3,hce,H4,S.trans (hS3.trans S4),hq⟩⟩
 cases e with
 | normal =>
  obtain ⟨H4,S4⟩:=fin none .ready rfl O (fun _ h=>h)
  refine ⟨_,_,done none .ready rfl,true,rfl,(keep _ _).1,(keep _ _).2.1,(keep _ _).2.2,fun _=>?_,(fun h=>by cases h)⟩
  obtain ⟨σ5,h5,q5⟩:=q3
  rcases h5 with rfl|h5
  ·exact ⟨⟨σ5,r3,I3,D3,H4,S.trans (hS3.trans S4),q5⟩,hown' _ _,hlow,hrec,hdlt⟩
  ·obtain ⟨r5,D5,H5,k5,_⟩:=H4.rename (N:=0) h5
   exact ⟨⟨σ5,r5,I3,D5,H5,(S.trans (hS3.trans S4)).rename hdlt k5,q5⟩,hown' _ _,hlow,hrec,hdlt⟩
 | ret=>exact stop .ret .ret (.inl ⟨rfl,rfl⟩) q3
 | exit id=>exact stop (.exit id) (.exit id) (.inr ⟨id,rfl,rfl⟩) q3
 | goto t=>exact q3.elim
 | panic ch=>exact q3.elim
 | outgrown=>exact q3.elim
variable {r r' : Locs} {D D' : Nat->Prop} {I I' : Imm} {w w' w0:World} {I0:Imm} {B n n' k N:Nat} {pr pr' pr2:Nat->Obj->Prop} {h:Nat->ABlk} {P:Program}
abbrev ITab:=FuncId->List AV->List AV->Option (List (List AV))
def Zzl (P:Program) (N:Nat) (it:ITab) (f:Operand) (ps:Array Tmp) (assign body:Code) (env:Env) (σ:St) (Q:Exit->Env->St->Prop):Prop :=
 match evA env f with
 | .func g c0 c1=>Got (Zao σ.get c0) fun p0=>Got (Zao σ.get c1) fun p1=>Got (it g p0.1 p1.1) fun xs =>
  cond (Zau N ps.toList) (match p0.2++p1.2 with
   | []=>Zgz P N σ.next ps.toList assign body env Q xs σ
   | a::l=>cond (mutL σ.get (a::l)) (Zgz P N (Vo σ (a::l)).next ps.toList assign body env Q xs (Vo σ (a::l))) False) False
 | _=>False
theorem Zup {F:Fence} (hF:FOK F) (hR:RdOK F pr) (H:HR B w0 I0 pr r I D h n w) (fn:FuncId) (tmps:Array Value) (ps:Array Tmp) (assign body:Code) :
  ∃ l mark w1 Db pr',(Instr.enterLoop fn tmps ps assign body F.round).run P w = .ok (l,mark) w1 /\
   HR B w0 I0 (prI pr' l (recS { state:=.ready,pending:=none,fn,tmps,params:=ps,assign,body,defers:=Db } .ready none) (fun _=>False) w1) r I D h n w1/\Step r D I w r D I w1 /\
   (∀ b o,pr b o->pr' b o)/\pr' Db (.deferred (some []))/\(∀ b o,pr' b o->b<w1.heap.size/\b≠l)/\l<w1.heap.size/\Mk w pr' mark/\mark.Pairwise (fun a b=>a.target≠b.target):=by
 have hlow:∀ b o,pr b o->b<w.heap.size:=fun b o hp=>(Qt.1 (H.prot b o hp).1).1
 rcases hF with rfl|⟨l0,rfl⟩
 ·
  let rec0:Loop:={ state:=.ready,pending:=none,fn,tmps,params:=ps,assign,body,defers:=w.heap.size }
  have hrun:=run_enterLoop_outer (P:=P) (w:=w) fn tmps ps assign body
  have hc:Chg (fun _=>False) w ((w.alloc (.deferred (some []))).alloc (.loop rec0)):=⟨rfl,rfl,rfl,by simp; omega,fun b _ hb=>(Yc _ _ (by simp; omega)).trans (Yc w _ hb)⟩
  have hD:((w.alloc (.deferred (some []))).alloc (.loop rec0)).heap[w.heap.size]?=some (.deferred (some [])):=(Yc _ _ (by simp)).trans (Yu w _)
  have hL:((w.alloc (.deferred (some []))).alloc (.loop rec0)).heap[w.heap.size+1]?=some (.loop rec0):=by
   have:=Yu (w.alloc (.deferred (some []))) (.loop rec0)
   rwa [Gb] at this
  obtain ⟨H',S'⟩:=H.chg (pr2:=prI (fun b o=>pr b o\/(b=w.heap.size/\o = .deferred (some []))) (w.heap.size+1) (recS rec0 .ready none) (fun _=>False) ((w.alloc (.deferred (some []))).alloc (.loop rec0))) (fun b hb=>hb.elim) hc (fun b o hp=>by
   rcases hp with (hp|⟨rfl,rfl⟩)|⟨rfl,rfl⟩|⟨hp,_⟩
   ·exact .inl ⟨hp,id⟩
   ·exact .inr ⟨.inr (Qd _),hD⟩
   ·exact .inr ⟨.inr (Ka _),hL⟩
   ·exact hp.elim)
  refine ⟨_,_,_,w.heap.size,_,hrun,H',S',fun b o hp=>.inl hp,.inr ⟨rfl,rfl⟩,fun b o hp=>?_,by simp,fun d hd=>?_,by simp⟩
  ·rcases hp with hp|⟨rfl,rfl⟩
   ·have:=hlow b o hp; simp; omega
   ·simp only [Gb]; omega
  ·simp only [List.mem_singleton] at hd
   subst hd
   exact ⟨w.heap.size,rfl,.inr ⟨rfl,rfl⟩,Qd _⟩
 ·
  obtain ⟨rr,hp1,hp2⟩:=hR l0 rfl
  let rec0:Loop:={ state:=.ready,pending:=none,fn,tmps,params:=ps,assign,body,defers:=rr.defers }
  have hrun:=run_enterLoop_inner (P:=P) (w:=w) (H.prot l0 _ hp1).1 fn tmps ps assign body
  obtain ⟨H',S'⟩:=H.chg (pr2:=prI pr w.heap.size (recS rec0 .ready none) (fun _=>False) (w.alloc (.loop rec0))) (fun b hb=>hb.elim) (Chg.alloc w (.loop rec0)) (fun b o hp=>by
   rcases hp with hp|⟨rfl,rfl⟩|⟨hp,_⟩
   ·exact .inl ⟨hp,id⟩
   ·exact .inr ⟨.inr (Qd _),Yu w _⟩
   ·exact hp.elim)
  refine ⟨_,_,_,rr.defers,_,hrun,H',S',fun b o hp=>hp,hp2,fun b o hp=>?_,by simp,fun d hd=>by simp at hd,.nil⟩
  have:=hlow b o hp; simp; omega
theorem Zrz {it:ITab} (hit:∀ g c0 c1 xs,it g c0 c1=some xs->ItOK P g c0 c1 xs) {f:Operand} {ps:Array Tmp} {assign body:Code} {env:Env} {σ:St} {Q:Exit->Env->St->Prop} {g:FuncId} {c0 c1 d0 d1:List AV} {xs:List (List AV)}
  {F:Fence} (hF:FOK F) (hR:RdOK F pr) {a:Act} (hev:evA env f = .func g c0 c1) (hxs:it g d0 d1=some xs) (hps:Zau N ps.toList=true) (H:HR B w0 I0 pr r I D σ.get σ.next w) (E:ER r I w D N env a.tmps) (hr:Zgz P N σ.next ps.toList assign body env Q xs σ)
  (hd:∀ v0 v1,a.eval f = .func (.func g) v0 v1->VRs r0 I w (fun _=>False) d0 v0/\VRs r0 I w (fun _=>False) d1 v1):(Code.rangeFunc f ps assign body).wpIn F 0 P (Post B w0 I0 pr N r I D w a.defers Q) a w:=by
 obtain ⟨⟨fn,q1,q2,q3⟩,hcall⟩:=hit g d0 d1 xs hxs
 refine wpIn_rangeFunc ?_
 intro fid hfid
 obtain ⟨l,mark,w1,Db,pr',hrun,H1,S1,hpr,hdb,hlow,hlt,hmk,hpw⟩:=Zup (P:=P) hF hR H fid a.tmps ps assign body
 obtain ⟨rec,hrec⟩:∃ rec:Loop,rec = { state:=.ready,pending:=none,fn:=fid,tmps:=a.tmps,params:=ps,assign,body,defers:=Db }:=⟨_,rfl⟩
 rw [<-hrec] at H1
 have hfv:=Xy E f
 rw [hev] at hfv
 obtain ⟨v0,v1,hv,k0,k1⟩:∃ v0 v1,a.eval f = .func (.func g) v0 v1/\VRs r I w D c0 v0/\VRs r I w D c1 v1:=by
  generalize a.eval f=z at hfv
  cases hfv with
  | func _ _ _ _ v0 v1 h0 h1 g0 g1=>exact ⟨v0,v1,rfl,⟨h0,g0⟩,⟨h1,g1⟩⟩
 obtain ⟨m0,m1⟩:=hd v0 v1 hv
 have hst0:Step r0 (fun _=>False) I w r0 (fun _=>False) I w1:=⟨fun _ h=>h.elim,S1.imm,S1.size⟩
 have q2' : ¬ fn.name = "runtime.NumGoroutine" := by simpa using q2
 have q3' : ¬ fn.body=none:=by intro h; rw [h] at q3; simp at q3
 refine ⟨l,mark,w1,_,w1,g,_,w1,hrun,by simp only [resolve,rangeCall,hv]; simp [Pz,Act.eval]; rfl,fun f' _=>hF.fn f',by simp [invoke,callFunc,q1,q2',q3']; rfl,fun hdp=>by rw [hF.depth] at hdp; simp at hdp,?_⟩
 refine Zbh hF ?_
 have hE1:=E.mono S1
 have R:RoundsOK P w1 I l xs (fun i O W=>Betw P N σ.next B w0 I0 pr' l rec r I D w1 ps.toList assign body env Q (xs.drop i) O W) (Left B w0 I0 pr' l rec r I D w1 env Q):=by
  refine ⟨fun O u u' hb hc=>Left.grow hb hc,fun i O u u' hb hc=>hb.grow hc,fun i O u hb b hO=>(hb.own b hO).2,fun i x O u ys hx hb hvx=>?_⟩
  have hdrop:xs.drop i=x::xs.drop (i+1):=by
   have hil:=(Qi.1 hx).1
   rw [List.drop_eq_getElem_cons hil]
   congr 1
   rw [Qe hil] at hx
   exact Sr hx
  rw [hdrop] at hb
  exact hb.round (Db:=Db) (tmps:=a.tmps) hps (by rw [hrec]) (by rw [hrec]) (by rw [hrec]) (by rw [hrec]) (by rw [hrec]) hdb hE1 (fun _ _ h=>h) hvx
 have J0:Betw P N σ.next B w0 I0 pr' l rec r I D w1 ps.toList assign body env Q (xs.drop 0) (fun _=>False) w1 :=
  ⟨⟨σ,r,I,D,by rw [hrec] at H1 ⊢; exact H1,Pf _ _ _ _,by simpa using hr⟩,fun b hb=>hb.elim,hlow,hlt,fun id hd=>(H.dom id hd).1⟩
 have hc:=hcall I w1 v0 v1 l _ _ (fun b o hi=>H1.imm b o hi) (m0.mono hst0) (m1.mono hst0) R J0
 refine hc.mono ?_
 rintro e W ⟨v,rfl,hend⟩
 have close:∀ (st:LoopState) (c:Option Code) (O:Nat->Prop) (σ' : St) (r' : Locs) (I' : Imm) (D' : Nat->Prop),HR B w0 I0 (prI pr' l (recS rec st c) O W) r' I' D' σ'.get σ'.next W->Step r D I w1 r' D' I' W->∀ (e:Exit),Q e env σ' ->
   Post B w0 I0 pr N r I D w a.defers Q e { a with defers:=mark++a.defers } (W.putObj l (.loop { recS rec st c with state:=.exhausted })):=by
  intro st c O σ' r' I' D' H2 S2 e hq
  obtain ⟨H3,S3⟩:=H2.chg (pr2:=pr') (O:=fun b=>b=l) (fun b hb=>⟨.loop (recS rec st c),.inr (.inl ⟨hb,rfl⟩)⟩) (Chg.putObj W l (.loop { recS rec st c with state:=.exhausted })) (fun b o hp=>.inl ⟨.inl hp,(hlow b o hp).2⟩)
  exact ⟨pr',mark,env,σ',r',I',D',hpr,hmk,hpw,rfl,hq,⟨H3,(hE1.mono S2).mono S3⟩,(S1.trans S2).trans S3,Re S1.size (Re S2.size S3.size)⟩
 rcases hend with ⟨O,hb⟩|⟨O,hb⟩
 ·obtain ⟨⟨σ',r',I',D',H2,S2,hr2⟩,_,_,_,_⟩:=hb
  have hl:=(H2.prot l _ (.inr (.inl ⟨rfl,rfl⟩))).1
  refine ⟨none,_,run_endLoop hl (by simp [recS]),?_⟩
  have:xs.drop xs.length=[]:=by simp
  rw [this] at hr2
  exact close .ready none O σ' r' I' D' H2 S2 .normal hr2
 ·obtain ⟨_,_,_,c,e,σ',r',I',D',hce,H2,S2,hq⟩:=hb
  have hl:=(H2.prot l _ (.inr (.inl ⟨rfl,rfl⟩))).1
  refine ⟨some c,_,run_endLoop hl (by simp [recS]),?_⟩
  have hp:=close .done (some c) _ σ' r' I' D' H2 S2 e hq
  rcases hce with ⟨rfl,rfl⟩|⟨id,rfl,rfl⟩
  ·exact wpIn_ret hp
  ·exact wpIn_exit hp
theorem VRs.imm {cs:List AV} {vs:Array Value} (h:VRs Sx.r0 I w (fun _=>False) cs vs) (hi:∀ b o,I b o->I' b o):VRs Sx.r0 I' w (fun _=>False) cs vs:=h.mono ⟨fun _ h=>h.elim,fun b o h=>⟨hi b o h,rfl⟩,Qd _⟩
theorem Znq {it:ITab} (hit:∀ g c0 c1 xs,it g c0 c1=some xs->ItOK P g c0 c1 xs) {f:Operand} {ps:Array Tmp} {assign body:Code} {env:Env} {σ:St} {Q:Exit->Env->St->Prop} (hv:Zzl P N it f ps assign body env σ Q):Awp P N (.rangeFunc f ps assign body) env σ Q:=by
 intro F B w0 I0 pr r I D a w hF hR S
 unfold Zzl at hv
 split at hv
 ·rename_i g c0 c1 hev
  obtain ⟨⟨d0,l0⟩,h0,hv⟩:=Ol hv
  obtain ⟨⟨d1,l1⟩,h1,hv⟩:=Ol hv
  obtain ⟨xs,hxs,hv⟩:=Ol hv
  dsimp only at hv hxs
  cases hps:Zau N ps.toList with
  | false=>rw [hps] at hv; exact hv.elim
  | true =>
   rw [hps] at hv
   simp only [cond_true] at hv
   have hview:∀ v0 v1,a.eval f = .func (.func g) v0 v1->VRs r0 (Xe r I σ.get (l0++l1)) w (fun _=>False) d0 v0/\VRs r0 (Xe r I σ.get (l0++l1)) w (fun _=>False) d1 v1:=by
    intro v0 v1 hval
    have hfv:=Xy S.er f
    rw [hev,hval] at hfv
    obtain ⟨k0,k1⟩:VRs r I w D c0 v0/\VRs r I w D c1 v1:=by
     cases hfv with
     | func _ _ _ _ v0 v1 h0 h1 g0 g1=>exact ⟨⟨h0,g0⟩,⟨h1,g1⟩⟩
    have m0:=Zaz S.hr k0 h0
    have m1:=Zaz S.hr k1 h1
    refine ⟨m0.imm fun b o hi=>?_,m1.imm fun b o hi=>?_⟩
    ·rcases hi with hi|⟨id,hid,rest⟩
     ·exact .inl hi
     ·exact .inr ⟨id,by simp [hid],rest⟩
    ·rcases hi with hi|⟨id,hid,rest⟩
     ·exact .inl hi
     ·exact .inr ⟨id,by simp [hid],rest⟩
   cases hl:l0++l1 with
   | nil =>
    rw [hl] at hv hview
    rw [Zjw] at hview
    exact Zrz hit hF hR hev hxs hps S.hr S.er hv hview
   | cons b l =>
    rw [hl] at hv hview
    dsimp only at hv
    cases hm:mutL σ.get (b::l) with
    | false=>rw [hm] at hv; exact hv.elim
    | true =>
     rw [hm] at hv
     simp only [cond_true] at hv
     obtain ⟨H1,S1⟩:=S.hr.froz (Zca hm)
     have H1' : HR B w0 I0 pr r (Xe r I σ.get (b::l)) D (Vo σ (b::l)).get (Vo σ (b::l)).next w:=by
      rw [Zcj,Zbd]; exact H1
     refine Ru (fun e a' w' hp=>?_) (Zrz hit hF hR hev hxs hps H1' (S.er.mono S1) hv hview)
     obtain ⟨pr1,ms1,env1,σ1,r1,I1,D1,p1,m1,n1,d1,q1,s1,t1,z1⟩:=hp
     exact ⟨pr1,ms1,env1,σ1,r1,I1,D1,p1,m1,n1,d1,q1,s1,S1.trans t1,z1⟩
 ·exact hv.elim
variable {r r' : Locs} {D D' : Nat->Prop} {I I' : Imm} {w w' w0:World} {I0 Ig:Imm} {B n n' k N:Nat} {pr pr' pr2:Nat->Obj->Prop} {h:Nat->ABlk} {P:Program}
def Zrg (B:Nat) (w0:World) (I0:Imm) (pr:Nat->Obj->Prop) (N:Nat) (r:Locs) (I:Imm) (D:Nat->Prop) (w:World) (ds:List Deferred) (K:Env->St->Prop) (a' : Act) (w' : World):Prop :=
 ∃ env' σ' r' D',K env' σ'/\SR B w0 I0 pr N r' I D' env' σ' a' w'/\a'.defers=ds/\Step r D I w r' D' I w'
theorem Zfd {env:Env} {σ' : St} {a:Act} {dst:Option Nat} {v:AV} {x:Value} {K:Env->St->Prop} (hr:HR B w0 I0 pr r' I D' σ'.get σ'.next w') (he:ER r I w D N env a.tmps) (hs:Step r D I w r' D' I w') (hv:VR r' I w' D' v x)
  (hk:Zt N dst v env fun env'=>K env' σ'):Zrg B w0 I0 pr N r I D w a.defers K (a.put dst x) w':=by
 cases dst with
 | none=>exact ⟨env,σ',r',D',hk,⟨hr,he.mono hs⟩,rfl,hs⟩
 | some d =>
  simp only [Zt] at hk
  rcases Mv hk with ⟨h1,h2⟩|⟨_,h2⟩
  ·have hd:d<N:=by simpa [Th] using h1
   exact ⟨(d,v)::env,σ',r',D',h2,⟨hr,(he.mono hs).put hd hv⟩,rfl,hs⟩
  ·exact h2.elim
mutual
def Zhs:AV->Bool
 | .any | .bool _ | .int _ _ | .flt _ _ | .cpx _ _ _ | .val _ _ _ | .str _ | .nilp | .nils=>true
 | .asl _ _ _=>true
 | .agg cs=>Ztv cs
 | .tup cs=>Ztv cs
 | _=>false
def Ztv:List AV->Bool
 | []=>true
 | c::cs=>Zhs c&&Ztv cs
end
theorem Zi1:∀ {cs:List AV},Ztv cs=true->∀ {i:Nat} {c:AV},cs[i]?=some c->Zhs c=true
 | [],_,i,c,hi=>by simp at hi
 | a::cs,h,0,c,hi=>by simp [Ztv] at h hi; subst hi; exact h.1
 | a::cs,h,i+1,c,hi=>by simp [Ztv] at h hi; exact Zi1 h.2 hi
theorem VR.slim {v:AV} {x:Value} (hv:VR r I w D v x):Zhs v=true->∀ I',VR r I' w D v x:=by
 induction hv with
 | any=>intros; exact .any _ _
 | bool=>intros; exact .bool _ _
 | int=>intros; exact .int _ _ _
 | flt=>intros; exact .flt _ _ _
 | cpx=>intros; exact .cpx _ _ _ _
 | val=>intros; exact .val _ _ _ _
 | str=>intros; exact .str _ _
 | nilp=>intros; exact .nilp _
 | nils=>intros; exact .nils _
 | asl _ _ _ _ hd hc=>intros; exact .asl _ _ _ _ hd hc
 | agg D cs vs h0 g ih=>intro hs I'; simp only [Zhs] at hs; exact .agg _ _ _ h0 (fun i c v hc hv=>ih i c v hc hv (Zi1 hs hc) I')
 | tup D cs vs h0 g ih=>intro hs I'; simp only [Zhs] at hs; exact .tup _ _ _ h0 (fun i c v hc hv=>ih i c v hc hv (Zi1 hs hc) I')
 | _=>intro hs; simp [Zhs] at hs
def Zea:List (Nat × List (List AV))->Bool
 | []=>true
 | p::l=>p.2.all Za3&&Zea l
theorem Zhr:∀ {l:List (Nat × List (List AV))},Zea l=true->∀ {j:Nat} {p:Nat × List (List AV)},l[j]?=some p->p.2.all Za3=true
 | [],_,j,p,hj=>by simp at hj
 | a::l,h,0,p,hj=>by simp only [Zea,Qc] at h; simp at hj; subst hj; exact h.1
 | a::l,h,j+1,p,hj=>by simp only [Zea,Qc] at h; simp at hj; exact Zhr h.2 hj
theorem BlkOK.slim {m j es:Nat} {els:List (List AV)} (h:BlkOK r I' w D m j (.row es els true true)) (hs:els.all Za3=true) (hI:∀ b o,I b o->I' b o):BlkOK r I w D m j (.row es els true true):=by
 obtain ⟨h1,h2,h3,cs,T,fz,h4,h5,h6,h7,h8⟩:=h
 refine ⟨h1,h2,h3,cs,T,fz,h4,h5,fun i e j c hi hj=>?_,fun hm=>?_,fun hm=>by cases hm⟩
 ·obtain ⟨v,q1,q2⟩:=h6 i e j c hi hj
  exact ⟨v,q1,q2.scalar (Za2 (Rf.1 hs e (List.mem_of_getElem? hi)) hj) _ _ _ _⟩
 ·obtain ⟨q1,q2,q3⟩:=h7 hm
  exact ⟨q1,fun o ho=>q2 o (hI _ _ ho),q3⟩
def Yc3 (cx:Cx) (pc:PC) (N:Nat) (o:Oper) (env:Env) (σ:St) (K:Env->St->Prop):Prop :=
 match o.op with
 | .call { callee:=.value f,args,.. }=>match evA env f with
  | .func g c0 c1=>Got (Zao σ.get ((c0++Xg (evA env) args.toList)++c1)) fun p=>Got (pc g p.1) fun res =>
   match Vc res.v,res.blks with
   | true,[]=>Zt N o.dst res.v env fun env'=>K env' σ
   | _,_=>cond (Zhs res.v&&Zea res.blks) (Zt N o.dst (Zi (fun j=>σ.next+j) res.v) env fun env'=>K env' (Zem σ res.blks)) False
  | _=>False
 | op=>aopSK cx.T cx.ok σ.next (evA env) σ.get op fun p=>Zt N o.dst p.1 env fun env'=>K env' (p.2.st σ)
theorem Zpr {cx:Cx} (hcx:CxOK P cx) {pc:PC} (hpc:PCOK P pc) {F:Fence} (hF:FOK F) (o:Oper) (ho:∀ c,o.op ≠ .defer c) {env:Env} {σ:St} {a:Act} (S:SR B w0 I0 pr N r I D env σ a w) {K:Env->St->Prop} {Q:Exit->Act->World->Prop} {next:Act->World->Prop}
  (hvc:Yc3 cx pc N o env σ K) (hnext:∀ a' w',Zrg B w0 I0 pr N r I D w a.defers K a' w'->next a' w'):o.wpIn F 0 P a w next Q:=by
 refine ⟨Ux hF o a w,?_⟩
 rw [Mm _ _ _ ho]
 have hk:¬ D σ.next:=fun hd=>Nat.lt_irrefl _ (S.hr.dom _ hd).1
 have main:∀ p,aopA cx.T cx.ok σ.next (evA env) σ.get o.op=some p->(Zt N o.dst p.1 env fun env'=>K env' (p.2.st σ))->o.uponIn F 0 P a next Q ((execOp a.eval o).run P w):=by
  rintro ⟨v,e⟩ hp hput
  have H':=S.hr.more (Ka σ.next)
  obtain ⟨x,w',r',h1,h2,h3,h4⟩:=Zls hcx.tab hcx.eq H' hk (Nat.lt_succ_self _) o (Xy S.er) hp
  have h2' : HR B w0 I0 pr r' I (fun i=>D i\/(e.adds=true/\i=σ.next)) (e.st σ).get (e.st σ).next w':=by
   rw [Eff.st_get]
   refine h2.fewer (fun id hd=>?_)
   rw [Eff.st_next]
   rcases hd with hd|⟨ha,rfl⟩
   ·have:=(S.hr.dom id hd).1; omega
   ·simp [ha]
  have hl:=Zfd (a:=a) h2' S.er h3 h4 hput
  rcases h1 with h1|⟨h1,rfl⟩
  ·rw [h1]; exact hnext _ _ hl
  ·rw [h1]; exact hnext _ _ hl
 unfold Yc3 at hvc
 split at hvc
 ·rename_i f args ts hop
  split at hvc
  ·rename_i g c0 c1 hf
   obtain ⟨⟨aZ,lv⟩,hview0,hvc⟩:=Ol hvc
   obtain ⟨res,hres,hvc⟩:=Ol hvc
   dsimp only at hvc hres
   obtain ⟨⟨fn,q1,q2,q3⟩,hcall⟩:=hpc g aZ res hres
   have hfv:=Xy S.er f
   rw [hf] at hfv
   obtain ⟨v0,v1,hv,k0,k1⟩:∃ v0 v1,a.eval f = .func (.func g) v0 v1/\VRs r I w D c0 v0/\VRs r I w D c1 v1:=by
    generalize a.eval f=z at hfv
    cases hfv with
    | func _ _ _ _ v0 v1 h0 h1 g0 g1=>exact ⟨v0,v1,rfl,⟨h0,g0⟩,⟨h1,g1⟩⟩
   have hargs:=Xp (fun x=>Xy S.er x) args
   have hvs:=(k0.append hargs).append k1
   have hview:=Zaz S.hr hvs hview0
   have hc:=Zbh hF (hcall _ w _ (Zci S.hr lv) hview)
   have hrunE:(execOp a.eval o).run P w = .ok (.enter g ((v0++args.map a.eval)++v1)) w:=by
    have:execOp a.eval o=(do let d <-resolve a.eval { callee:=.value f,args:=args,argTypes:=ts } o.type; invoke d.target d.args):=by
     unfold execOp; rw [hop]
    rw [this]
    have q2' : ¬ fn.name = "runtime.NumGoroutine" := by simpa using q2
    have q3' : ¬ fn.body=none:=by intro h; rw [h] at q3; simp at q3
    simp [resolve,hv,Pz,invoke,callFunc,q1,q2',q3']
   rw [hrunE]
   refine ⟨fun hd=>by rw [hF.depth] at hd; simp at hd,?_⟩
   refine hc.mono fun e w' hh=>?_
   obtain ⟨y,r',I',rfl,hp⟩:=hh
   split at hvc
   ·rename_i hs hb
    have V:=hp.val.scalar hs r' I w' (fun i=>i<([]:List (Nat × List (List AV))).length)
    have hp2:PPost I w I w' r' ⟨res.v,[]⟩ y:=⟨hp.below,fun _ _ h=>h,fun _ _ h=>.inl h,fun b o hi=>Tc (S.hr.imm b o hi) hp.below.size,fun j p hj=>by simp at hj,fun j j' hj=>by simp at hj,V⟩
    obtain ⟨r2,D2,_,H2,S2,V2⟩:=S.hr.call (k:=σ.next) (n':=σ.next) hp2 (fun j hj=>by simp at hj) (Qd _) (by simp)
    have:Xr σ.get σ.next (PRes.mk res.v []).blks=σ.get:=by funext i; simp only [Xr,List.getElem?_nil]; split<;>rfl
    rw [this] at H2
    exact hnext _ _ (Zfd (a:=a) H2 S.er S2 (hp.val.scalar hs _ _ _ _) hvc)
   ·cases hc:(Zhs res.v&&Zea res.blks) with
    | false=>rw [hc] at hvc; exact hvc.elim
    | true =>
     rw [hc] at hvc
     simp only [cond_true] at hvc
     simp only [Qc] at hc
     have hII:∀ b o,I b o->I' b o:=fun b o h=>hp.immL b o (.inl h)
     have hp2:PPost I w I w' r' res y:=⟨hp.below,fun _ _ h=>h,fun _ _ h=>.inl h,fun b o hi=>Tc (S.hr.imm b o hi) hp.below.size,fun j p hj=>by
      obtain ⟨g1,g2,g3⟩:=hp.rows j p hj
      exact ⟨g1,g2,g3.slim (Zhr hc.2 hj) hII⟩,hp.inj,hp.val.slim hc.1 I⟩
     obtain ⟨r2,D2,_,H2,S2,V2⟩:=S.hr.call (k:=σ.next) (n':=σ.next+res.blks.length) hp2 (fun j _ hd=>by have:=(S.hr.dom _ hd).1; omega) (by omega) (Qd _)
     have H3:HR B w0 I0 pr r2 I D2 (Zem σ res.blks).get (Zem σ res.blks).next w':=by rw [Zki,Zhq]; exact H2
     exact hnext _ _ (Zfd (a:=a) H3 S.er S2 V2 hvc)
  ·exact hvc.elim
 ·obtain ⟨p,hp,hput⟩:=aopSK.cases hvc
  exact main p hp hput
abbrev Zs:=Option (List (List AV))
structure ItEnv (P:Program) (B:Nat) (Ig:Imm) (l:Nat) (JX:Zs->(Nat->Prop)->World->Prop):Prop where
 low:∀ b o,Ig b o->b<B
 grow:∀ z O w w',JX z O w->Chg O w w'->JX z (fun b=>O b\/(w.heap.size<=b/\b<w'.heap.size)) w'
 round:∀ x zs O w ys,JX (some (x::zs)) O w->VRs r0 Ig w (fun _=>False) x ys ->
  YieldAt Ti 0 P l ys w fun e w'=>∃ b,e = .returned (.bool b)/\(∀ q,O q->w'.heap[q]?=w.heap[q]?)/\(∀ q o,Ig q o->w'.cell? ⟨q,o,none⟩=w.cell? ⟨q,o,none⟩)/\w.heap.size<=w'.heap.size/\(b=true->JX (some zs) O w')/\(b=false->JX none O w')
def prO (B:Nat) (O:Nat->Prop) (w:World):Nat->Obj->Prop:=fun b o=>B<=b /\ ¬ O b/\w.heap[b]?=some o
structure IS (N:Nat) (B:Nat) (Ig:Imm) (JX:Zs->(Nat->Prop)->World->Prop) (z:Zs) (env:Env) (σ:St) (a:Act) (w:World):Prop where
 ex:∃ r D O,HR B w Ig (prO B O w) r Ig D σ.get σ.next w/\(∀ b,O b->B<=b/\b<w.heap.size)/\ER r Ig w D N env a.tmps/\JX z O w
 df:a.defers=[]
theorem HR.rebase (H:HR B w0 I0 pr r I D h n w) (hp:∀ b o,pr2 b o->w.heap[b]?=some o/\B<=b/\(∀ id,(h id).live=true->(r id).blk≠b)/\∀ o',¬ I b o'):HR B w I pr2 r I D h n w :=
 ⟨Kv _ _,H.base,H.imm,H.dom,H.live,H.blk,H.inj,fun b o h=>⟨(hp b o h).1,(hp b o h).2.1⟩,fun b o h=>(hp b o h).2.2,fun _ _ h=>.inl h⟩
theorem IS.step {JX:Zs->(Nat->Prop)->World->Prop} {l:Nat} (hI:ItEnv P B Ig l JX) {z:Zs} {r:Locs} {D:Nat->Prop} {O:Nat->Prop} (hB:B<=w.heap.size) (hO:∀ b,O b->B<=b/\b<w.heap.size) (hj:JX z O w) {K:Env->St->Prop} {a' : Act}
  (hl:Zrg B w Ig (prO B O w) N r Ig D w [] K a' w'):∃ env' σ',K env' σ'/\IS N B Ig JX z env' σ' a' w':=by
 obtain ⟨env',σ',r',D',hk,⟨H,E⟩,hd,S⟩:=hl
 have hc:Chg O w w':=⟨H.below.os,H.below.tape,H.below.output,H.below.size,fun b hb hlt=>by
  by_cases hbb:b<B
  ·exact H.below.block b hbb
  ·have e1:w.heap[b]?=some w.heap[b]:=by simp [hlt]
   rw [(H.prot b _ ⟨by omega,hb,e1⟩).1,e1]⟩
 refine ⟨env',σ',hk,⟨r',D',_,H.rebase (fun b o hp=>?_),fun b hb=>?_,E,hI.grow z O w w' hj hc⟩,hd⟩
 ·obtain ⟨h1,h2,h3⟩:=hp
  refine ⟨h3,h1,fun id hid e=>?_,fun o' hi=>by have:=hI.low b o' hi; omega⟩
  have hlt:=(H.dom id (H.live id hid)).2
  have hnO:¬ O b:=fun hb=>h2 (.inl hb)
  have hlt2:b<w.heap.size:=by
   rcases Nat.lt_or_ge b w.heap.size with h|h
   ·exact h
   ·exact (h2 (.inr ⟨h,by omega⟩)).elim
  have e1:w.heap[b]?=some w.heap[b]:=by simp [hlt2]
  exact (H.protK b _ ⟨h1,hnO,e1⟩).1 id hid e
 ·rcases hb with hb|hb
  ·have:=hO b hb; have:=H.below.size; omega
  ·omega
def Znz:List (Nat × ABlk)->Bool
 | []=>true
 | p::l=>(match p.2 with
  | .row _ _ mt _=>mt
  | _=>true)&&Znz l
theorem Zef:∀ {l:List (Nat × ABlk)},Znz l=true->∀ {i es elems mt pu},hget l i = .row es elems mt pu->mt=true
 | [],_,i,es,elems,mt,pu,hg=>by simp [hget] at hg
 | (j,b)::l,hm,i,es,elems,mt,pu,hg=>by
  simp only [Znz,Qc] at hm
  simp only [hget] at hg
  cases hb:Qs i j with
  | true=>rw [hb] at hg; simp at hg; subst hg; exact hm.1
  | false=>rw [hb] at hg; exact Zef hm.2 hg
variable {r r' : Locs} {D D' : Nat->Prop} {I I' : Imm} {w w' w0:World} {I0 Ig:Imm} {B n n' k N l:Nat} {pr pr' pr2:Nat->Obj->Prop} {h:Nat->ABlk} {P:Program} {JX:Zs->(Nat->Prop)->World->Prop}
theorem IS.behind {z z' : Zs} {env:Env} {σ:St} {a:Act} (hI:ItEnv P B Ig l JX) {r:Locs} {D:Nat->Prop} {O:Nat->Prop} (H:HR B w Ig (prO B O w) r Ig D σ.get σ.next w) (hO:∀ b,O b->B<=b/\b<w.heap.size) (E:ER r Ig w D N env a.tmps) (hd:a.defers=[]) (hm:Znz σ.heap=true)
  (k1:∀ q,O q->w'.heap[q]?=w.heap[q]?) (k2:∀ q o,Ig q o->w'.cell? ⟨q,o,none⟩=w.cell? ⟨q,o,none⟩) (k3:w.heap.size<=w'.heap.size) (hj:JX z' O w'):IS N B Ig JX z' env σ a w':=by
 have hlO:∀ id,(σ.get id).live=true->O (r id).blk:=by
  intro id hid
  have hB:B<=(r id).blk:=by
   have hb:=H.blk id
   cases hx:σ.get id with
   | row es elems mt pu =>
    have:=Zef hm hx
    subst this
    rw [hx] at hb
    obtain ⟨_,_,_,cs,T,fz,_,_,_,h7,_⟩:=hb
    exact (h7 rfl).1
   | map ents=>rw [hx] at hb; exact hb.1
   | set keys=>rw [hx] at hb; exact hb.1
   | dead=>rw [hx] at hid; simp [Wi] at hid
  by_cases ho:O (r id).blk
  ·exact ho
  ·have hlt:=(H.dom id (H.live id hid)).2
   have e1:w.heap[(r id).blk]?=some w.heap[(r id).blk]:=by simp [hlt]
   exact ((H.protK _ _ ⟨hB,ho,e1⟩).1 id hid rfl).elim
 have hst:Step r D Ig w r D Ig w':=⟨fun id h=>⟨h,rfl⟩,fun b o h=>⟨h,k2 b o h⟩,k3⟩
 refine ⟨⟨r,D,O,⟨Kv _ _,Re H.base k3,fun b o hi=>Tc (H.imm b o hi) k3,fun id hd=>⟨(H.dom id hd).1,Tc (H.dom id hd).2 k3⟩,H.live,fun id=>?_,H.inj,fun b o hp=>⟨hp.2.2,hp.1⟩,fun b o hp=>⟨fun id hid e=>hp.2.1 (e ▸ hlO id hid),fun o' hi=>by have:=hI.low b o' hi; have:=hp.1; omega⟩,fun _ _ h=>.inl h⟩,fun b hb=>by have:=hO b hb; omega,E.mono hst,hj⟩,hd⟩
 by_cases hid:(σ.get id).live=true
 ·exact (H.blk id).mono hst rfl (fun _=>k1 _ (hlO id hid)) (fun _ _ _ _ _ hx=>hx)
 ·have:σ.get id = .dead:=by cases hx:σ.get id<;>simp_all [Wi]
  rw [this]; trivial
def Zub (env:Env) (o:Oper):Option (Nat × List AV) :=
 match o.op with
 | .call { callee:=.value f,args,.. }=>match evA env f with
  | .yld l=>some (l,Xg (evA env) args.toList)
  | _=>none
 | _=>none
def Zkz (cx:Cx) (pc:PC) (N l:Nat):List Oper->Env->St->Zs->(Env->St->Zs->Prop)->Prop
 | [],env,σ,z,K=>K env σ z
 | o::rest,env,σ,z,K =>
  match o.guard with
  | some _=>False
  | none=>match Zub env o with
   | some (l',aZ)=>match z with
    | some (x::zs)=>l'=l/\x=aZ/\Yo aZ=true/\Znz σ.heap=true/\(Zt N o.dst (.bool true) env fun env'=>Zkz cx pc N l rest env' σ (some zs) K)/\(Zt N o.dst (.bool false) env fun env'=>Zkz cx pc N l rest env' σ none K)
    | _=>False
   | none=>Yc3 cx pc N o env σ fun env' σ'=>Zkz cx pc N l rest env' σ' z K
theorem Zzz {aZ:List AV} {ys:Array Value} (h:VRs r I w D aZ ys) (hp:Yo aZ=true):VRs r0 I w (fun _=>False) aZ ys :=
 ⟨h.1,fun i c v hc hv=>((h.2 i c v hc hv).pure (Uh hp hc)).mono ⟨fun _ h=>h.elim,fun _ _ h=>⟨h,rfl⟩,Qd _⟩⟩
theorem IS.put {z:Zs} {env:Env} {σ:St} {a:Act} (S:IS N B Ig JX z env σ a w) {dst:Option Nat} {v:AV} {x:Value} (hv:∀ r D,VR r Ig w D v x) {K:Env->Prop} (hk:Zt N dst v env K):∃ env',K env'/\IS N B Ig JX z env' σ (a.put dst x) w:=by
 obtain ⟨⟨r,D,O,H,hO,E,hj⟩,hd⟩:=S
 cases dst with
 | none=>exact ⟨env,hk,⟨r,D,O,H,hO,E,hj⟩,hd⟩
 | some d =>
  simp only [Zt] at hk
  rcases Mv hk with ⟨h1,h2⟩|⟨_,h2⟩
  ·have hdl:d<N:=by simpa [Th] using h1
   exact ⟨(d,v)::env,h2,⟨r,D,O,H,hO,E.put hdl (hv r D),hj⟩,hd⟩
  ·exact h2.elim
theorem Zbo {cx:Cx} (hcx:CxOK P cx) {pc:PC} (hpc:PCOK P pc) (hI:ItEnv P B Ig l JX) (ops:Array Oper) {Q:Exit->Act->World->Prop} {K:Env->St->Zs->Prop}:∀ (os:List Oper),Ya os=true->∀ {env:Env} {σ:St} {z:Zs} {a:Act} {w:World},
  IS N B Ig JX z env σ a w->Zkz cx pc N l os env σ z K->(∀ a' w' env' σ' z',K env' σ' z'->IS N B Ig JX z' env' σ' a' w'->Q .normal a' w')->wpListIn Ti 0 P ops Q os a w
 | [],_,env,σ,z,a,w,S,hv,hq=>hq _ _ _ _ _ hv S
 | o::rest,hnd,env,σ,z,a,w,S,hv,hq=>by
  simp only [Ya,Qc] at hnd
  obtain ⟨hd1,hd2⟩:=hnd
  have ho:∀ c,o.op ≠ .defer c:=fun c e=>by rw [e] at hd1; simp at hd1
  simp only [Zkz] at hv
  cases hg:o.guard with
  | some _=>rw [hg] at hv; exact hv.elim
  | none =>
   rw [hg] at hv
   dsimp only at hv
   unfold wpListIn
   rw [if_pos (by simp [Region.wanted,hg])]
   cases hy:Zub env o with
   | none =>
    rw [hy] at hv
    dsimp only at hv
    obtain ⟨⟨r,D,O,H,hO,E,hj⟩,hdf⟩:=S
    refine Zpr hcx hpc (.inl rfl) o ho ⟨H,E⟩ hv (fun a' w' hl=>?_)
    rw [hdf] at hl
    obtain ⟨env',σ',hk,S'⟩:=IS.step hI H.base hO hj hl
    exact Zbo hcx hpc hI ops rest hd2 S' hk hq
   | some la =>
    obtain ⟨l',aZ⟩:=la
    rw [hy] at hv
    dsimp only at hv
    split at hv
    ·rename_i x zs
     obtain ⟨e1,e2,hp,hm,ht,hf⟩:=hv
     rw [<-e2] at hp hy
     rw [e1] at hy
     clear e1 e2
     unfold Zub at hy
     split at hy
     ·rename_i f args ts hop
      split at hy
      ·rename_i l2 hf2
       simp only [Qf,Prod.mk.injEq] at hy
       obtain ⟨e3,hy⟩:=hy
       rw [e3] at hf2
       clear e3
       obtain ⟨⟨r,D,O,H,hO,E,hj⟩,hdf⟩:=S
       have hfv:=Xy E f
       rw [hf2] at hfv
       have hval:a.eval f = .func (.yield l) #[] #[]:=by generalize a.eval f=q at hfv; cases hfv; rfl
       have hargs:=Xp (fun x=>Xy E x) args
       rw [hy] at hargs
       obtain ⟨fn,tmps,assign,body,hrun,hR⟩:=hI.round x zs O w _ hj (Zzz hargs hp)
       refine ⟨Ux (.inl rfl) o a w,?_⟩
       rw [Mm _ _ _ ho]
       have hrunE:(execOp a.eval o).run P w = .ok (.round l fn tmps assign body) w:=by
        have:execOp a.eval o=(do let d <-resolve a.eval { callee:=.value f,args:=args,argTypes:=ts } o.type; invoke d.target d.args):=by
         unfold execOp; rw [hop]
        rw [this]
        simp [resolve,hval,Pz,invoke]
        simpa using hrun
       rw [hrunE]
       refine ⟨fun hd=>by simp [Ti] at hd,hR.mono fun e w' hh=>?_⟩
       obtain ⟨b,rfl,k1,k2,k3,hjt,hjf⟩:=hh
       cases b with
       | true =>
        have S2:=IS.behind (z:=some (x::zs)) (z':=some zs) (σ:=σ) hI H hO E hdf hm k1 k2 k3 (hjt rfl)
        obtain ⟨env',hk,S3⟩:=S2.put (fun r D=>.bool D true) ht
        exact Zbo hcx hpc hI ops rest hd2 S3 hk hq
       | false =>
        have S2:=IS.behind (z:=some (x::zs)) (z':=none) (σ:=σ) hI H hO E hdf hm k1 k2 k3 (hjf rfl)
        obtain ⟨env',hk,S3⟩:=S2.put (fun r D=>.bool D false) hf
        exact Zbo hcx hpc hI ops rest hd2 S3 hk hq
      ·cases hy
     ·cases hy
    ·exact hv.elim
variable {r r' : Locs} {D D' : Nat->Prop} {I I' : Imm} {w w' w0:World} {I0 Ig:Imm} {B n n' k N l:Nat} {pr pr' pr2:Nat->Obj->Prop} {h:Nat->ABlk} {P:Program} {JX:Zs->(Nat->Prop)->World->Prop}
abbrev IQ:=Exit->Env->St->Zs->Prop
def PI (N B:Nat) (Ig:Imm) (JX:Zs->(Nat->Prop)->World->Prop) (Q:IQ):Exit->Act->World->Prop:=fun e a' w'=>∃ env' σ' z',Q e env' σ' z'/\IS N B Ig JX z' env' σ' a' w'
def AwpI (P:Program) (N B:Nat) (Ig:Imm) (JX:Zs->(Nat->Prop)->World->Prop) (c:Code) (env:Env) (σ:St) (z:Zs) (Q:IQ):Prop :=
 ∀ a w,IS N B Ig JX z env σ a w->c.wpIn Ti 0 P (PI N B Ig JX Q) a w
def seqI (K:Env->St->Zs->Prop) (Q:IQ):IQ
 | .normal,env,σ,z=>K env σ z
 | e,env,σ,z=>Q e env σ z
def Zlq (id:Nat) (Q:IQ):IQ
 | .exit id',env,σ,z=>cond (Qs id' id) (Q .normal env σ z) (Q (.exit id') env σ z)
 | e,env,σ,z=>Q e env σ z
def Zir (cx:Cx) (pc:PC) (N l:Nat) (lp:Code->Env->St->Zs->IQ->Prop):Code->Env->St->Zs->IQ->Prop
 | .skip,env,σ,z,Q=>Q .normal env σ z
 | .region _ ops draw,env,σ,z,Q=>match draw with
  | false=>cond (Ya ops.toList) (Zkz cx pc N l ops.toList env σ z (Q .normal)) False
  | true=>False
 | .seq x y,env,σ,z,Q=>Zir cx pc N l lp x env σ z (seqI (fun env' σ' z'=>Zir cx pc N l lp y env' σ' z' Q) Q)
 | .cond c x y,env,σ,z,Q=>match evA env c with
  | .bool b=>Br b (fEnv (setC env c true) fun env=>Zir cx pc N l lp x env σ z Q) (fEnv (setC env c false) fun env=>Zir cx pc N l lp y env σ z Q)
  | _=>False
 | .block id c,env,σ,z,Q=>Zir cx pc N l lp c env σ z (Zlq id Q)
 | .loop c,env,σ,z,Q=>lp c env σ z Q
 | .exit id,env,σ,z,Q=>Q (.exit id) env σ z
 | .ret,env,σ,z,Q=>Q .ret env σ z
 | _,_,_,_,_=>False
theorem IS.setC {z:Zs} {env:Env} {σ:St} {a:Act} {c:Operand} {b:Bool} (S:IS N B Ig JX z env σ a w) (hc:evA env c = .bool b):IS N B Ig JX z (Sx.setC env c b) σ a w:=by
 obtain ⟨⟨r,D,O,H,hO,E,hj⟩,hd⟩:=S
 cases c with
 | tmp t =>
  refine ⟨⟨r,D,O,H,hO,⟨E.1,fun i=>?_⟩,hj⟩,hd⟩
  simp only [Sx.setC,Pg]
  by_cases e:i=t
  ·subst e; rw [if_pos rfl,<-hc]; exact E.2 i
  ·rw [if_neg e]; exact E.2 i
 | _=>exact ⟨⟨r,D,O,H,hO,E,hj⟩,hd⟩
theorem Up {cx:Cx} (hcx:CxOK P cx) {pc:PC} (hpc:PCOK P pc) (hI:ItEnv P B Ig l JX) {lp:Code->Env->St->Zs->IQ->Prop} (hlp:∀ c env σ z Q,lp c env σ z Q->AwpI P N B Ig JX (.loop c) env σ z Q) :
  ∀ (c:Code) (env:Env) (σ:St) (z:Zs) (Q:IQ),Zir cx pc N l lp c env σ z Q->AwpI P N B Ig JX c env σ z Q
 | .skip,env,σ,z,Q,hv=>fun a w S=>wpIn_skip ⟨env,σ,z,hv,S⟩
 | .region id ops draw,env,σ,z,Q,hv=>by
  cases draw with
  | true=>exact hv.elim
  | false =>
   intro a w S
   simp only [Zir] at hv
   cases hno:Ya ops.toList with
   | false=>rw [hno] at hv; exact hv.elim
   | true =>
    rw [hno] at hv
    refine wpIn_region_list ?_
    exact Zbo hcx hpc hI ops (Q:=PI N B Ig JX Q) ops.toList hno S hv (fun a' w' env' σ' z' hk S'=>⟨env',σ',z',hk,S'⟩)
 | .seq x y,env,σ,z,Q,hv=>by
  intro a w S
  simp only [Zir] at hv
  refine wpIn_seq (Ru (fun e a' w' h=>?_) (Up hcx hpc hI hlp x env σ z _ hv a w S))
  obtain ⟨env',σ',z',hq,S'⟩:=h
  cases e with
  | normal=>exact Up hcx hpc hI hlp y env' σ' z' Q hq a' w' S'
  | exit id=>exact ⟨env',σ',z',hq,S'⟩
  | goto l=>exact ⟨env',σ',z',hq,S'⟩
  | ret=>exact ⟨env',σ',z',hq,S'⟩
  | panic ch=>exact ⟨env',σ',z',hq,S'⟩
  | outgrown=>exact ⟨env',σ',z',hq,S'⟩
 | .cond c x y,env,σ,z,Q,hv=>by
  intro a w S
  simp only [Zir,Zqs] at hv
  split at hv
  ·rename_i b hb
   obtain ⟨⟨r,D,O,H,hO,E,hj⟩,hd⟩:=S
   have S:IS N B Ig JX z env σ a w:=⟨⟨r,D,O,H,hO,E,hj⟩,hd⟩
   have hc:=Xy E c
   rw [hb] at hc
   have hcv:a.eval c = .bool b:=by generalize a.eval c=z at hc; cases hc; rfl
   rcases Mv hv with ⟨rfl,h⟩|⟨rfl,h⟩
   ·exact wpIn_cond_true hcv (Up hcx hpc hI hlp x _ σ z Q h a w (S.setC hb))
   ·exact wpIn_cond_false hcv (Up hcx hpc hI hlp y _ σ z Q h a w (S.setC hb))
  ·exact hv.elim
 | .block id c,env,σ,z,Q,hv=>by
  intro a w S
  simp only [Zir] at hv
  refine wpIn_block (Ru (fun e a' w' h=>?_) (Up hcx hpc hI hlp c env σ z _ hv a w S))
  obtain ⟨env',σ',z',hq,S'⟩:=h
  cases e with
  | exit id' =>
   by_cases hid:id'=id
   ·subst hid
    simp only [Mg,if_true]
    exact ⟨env',σ',z',by simpa [Zlq] using hq,S'⟩
   ·simp only [Mg,hid,if_false]
    have:Qs id' id=false:=by rw [Qx]; intro hb; exact hid (Qh hb)
    exact ⟨env',σ',z',by simpa [Zlq,this] using hq,S'⟩
  | normal=>exact ⟨env',σ',z',hq,S'⟩
  | goto l=>exact ⟨env',σ',z',hq,S'⟩
  | ret=>exact ⟨env',σ',z',hq,S'⟩
  | panic ch=>exact ⟨env',σ',z',hq,S'⟩
  | outgrown=>exact ⟨env',σ',z',hq,S'⟩
 | .loop c,env,σ,z,Q,hv=>hlp c env σ z Q hv
 | .exit id,env,σ,z,Q,hv=>fun a w S=>wpIn_exit ⟨env,σ,z,hv,S⟩
 | .ret,env,σ,z,Q,hv=>fun a w S=>wpIn_ret ⟨env,σ,z,hv,S⟩
 | .rangeFunc _ _ _ _,_,_,_,_,hv=>hv.elim
 | .scope _,_,_,_,_,hv=>hv.elim
 | .label _,_,_,_,_,hv=>hv.elim
 | .goto _,_,_,_,_,hv=>hv.elim
 | .refuse _,_,_,_,_,hv=>hv.elim
def Ya0 (va:Code->Env->St->Zs->IQ->Prop) (c:Code) (Q:IQ):Nat->Env->St->Zs->Prop
 | 0,_,_,_=>False
 | m+1,env,σ,z=>va c env σ z (seqI (Ya0 va c Q m) Q)
theorem Zp9 {c:Code} {Q:IQ}:∀ (m:Nat) {env:Env} {σ:St} {z:Zs},Ya0 (AwpI P N B Ig JX) c Q m env σ z->AwpI P N B Ig JX (.loop c) env σ z Q:=by
 intro m env σ z hv a w S
 refine wpIn_loop_rounds m ?_
 induction m generalizing env σ z a w with
 | zero=>exact hv.elim
 | succ m ih =>
  refine Ru (fun e a' w' h=>?_) (hv a w S)
  obtain ⟨env',σ',z',hq,S'⟩:=h
  cases e with
  | normal=>exact ih hq a' w' S'
  | exit id=>exact ⟨env',σ',z',hq,S'⟩
  | goto l=>exact ⟨env',σ',z',hq,S'⟩
  | ret=>exact ⟨env',σ',z',hq,S'⟩
  | panic ch=>exact ⟨env',σ',z',hq,S'⟩
  | outgrown=>exact ⟨env',σ',z',hq,S'⟩
theorem Zt9 {T:Tab} (hT:TabOK P T) {g:FuncId} {fn:Func} {c:Code} (hf:P.funcs[g]?=some fn) (hfn:FnOK P g) (hb:fn.body=some c) {c0 c1:List AV} {xs:List (List AV)} (hle:c0.length+1+c1.length<=fn.ntmps)
  (hv:∀ (B:Nat) (Ig:Imm) (l:Nat) (JX:Zs->(Nat->Prop)->World->Prop),ItEnv P B Ig l JX->AwpI P fn.ntmps B Ig JX c (env0 0 ((c0++[Jj l])++c1)) ⟨[],0⟩ (some xs)
   (fun e env' σ' z=>(e = .normal\/e = .ret)/\(z=some []\/z=none)/\∃ vs,Zb7 T env' σ'.get fn.results.toList=some vs)):ItOK P g c0 c1 xs:=by
 refine ⟨hfn,fun I W v0 v1 l J X hlt hv0 hv1 R J0=>?_⟩
 let JX:Zs->(Nat->Prop)->World->Prop:=fun z O w=>match z with
  | some zs=>∃ i,i<=xs.length/\xs.drop i=zs/\J i O w
  | none=>X O w
 have hI:ItEnv P W.heap.size I l JX:=by
  refine ⟨hlt,fun z O w w' hj hc=>?_,fun x zs O w ys hj hvx=>?_⟩
  ·cases z with
   | none=>exact R.growX O w w' hj hc
   | some zs=>obtain ⟨i,h1,h2,h3⟩:=hj; exact ⟨i,h1,h2,R.grow i O w w' h3 hc⟩
  ·obtain ⟨i,h1,h2,h3⟩:=hj
   have hx:xs[i]?=some x:=by
    have:=congrArg (fun l=>l[0]?) h2
    simpa [List.getElem?_drop] using this
   have hil:=(Qi.1 hx).1
   obtain ⟨fn',tmps,assign,body,q1,q2⟩:=R.round i x O w ys hx h3 hvx
   refine ⟨fn',tmps,assign,body,q1,q2.mono fun e w' hh=>?_⟩
   obtain ⟨b,p1,p2,p3,p4,p5,p6⟩:=hh
   refine ⟨b,p1,p2,p3,p4,fun hb=>⟨i+1,hil,?_,p5 hb⟩,p6⟩
   have:=congrArg List.tail h2
   simpa using this
 have hargs:VRs r0 I W (fun _=>False) ((c0++[Jj l])++c1) ((v0 ++ #[Lx (.yield l) #[] #[]])++v1) :=
  (hv0.append ⟨rfl,fun i c v hc hv'=>by
   cases i with
   | zero=>simp at hc hv'; subst hc; subst hv'; exact .yld _ _
   | succ i=>simp at hc⟩).append hv1
 refine callsIn_of_wp_marks hf hb trivial ?_
 have hsz:((v0 ++ #[Lx (.yield l) #[] #[]])++v1).size=((c0++[Jj l])++c1).length:=hargs.1
 have hlen:((c0++[Jj l])++c1).length=c0.length+1+c1.length:=by simp; omega
 have S:IS fn.ntmps W.heap.size I JX (some xs) (env0 0 ((c0++[Jj l])++c1)) ⟨[],0⟩ { tmps:=((v0 ++ #[Lx (.yield l) #[] #[]])++v1)++Pe (fn.ntmps-((v0 ++ #[Lx (.yield l) #[] #[]])++v1).size) undef,defers:=[] } W:=by
  refine ⟨⟨r0,fun _=>False,fun _=>False,⟨Kv _ _,Qd _,hlt,fun _ h=>h.elim,fun id h=>by simp [Oh,hget,Wi] at h,fun id=>by simp [Oh,hget,BlkOK],fun id id' h=>by simp [Oh,hget,Wi] at h,fun b o hp=>?_,fun b o hp=>?_,fun _ _ h=>.inl h⟩,fun b hb=>hb.elim,⟨by simp at hsz ⊢; omega,fun i=>?_⟩,⟨0,Qp _,rfl,J0⟩⟩,rfl⟩
  ·obtain ⟨h1,_,h2⟩:=hp
   have:=(Qt.1 h2).1
   omega
  ·obtain ⟨h1,_,h2⟩:=hp
   have:=(Qt.1 h2).1
   omega
  ·rw [Zii]
   simp only [Qp,if_true,Oo]
   cases hi:((c0++[Jj l])++c1)[i]? with
   | none=>simp; exact .any _ _
   | some v =>
    have hlt:i<((v0 ++ #[Lx (.yield l) #[] #[]])++v1).size:=by rw [hsz]; exact (Qi.1 hi).1
    have hgo:=hargs.2 i v (((v0 ++ #[Lx (.yield l) #[] #[]])++v1)[i]'hlt) hi (by simp [hlt])
    generalize ((v0 ++ #[Lx (.yield l) #[] #[]])++v1)=vv at hlt hgo
    simpa [Qy,Og,hlt] using hgo
 refine Ru (fun e a' w' hp=>?_) (hv _ _ _ _ hI _ _ S)
 obtain ⟨env',σ',z',⟨he,hz,vs,hres⟩,⟨⟨r,D,O,H,hO,E,hj⟩,hd⟩⟩:=hp
 obtain ⟨x,h1,h2⟩:=Zfa hT H E hres
 have hfin:∃ x,(results fn a'.tmps).run P w' = .ok x w'/\(∃ v,Jh x = .returned v/\((∃ O,J xs.length O w')\/∃ O,X O w')):=by
  refine ⟨x,h1,x,rfl,?_⟩
  rcases hz with rfl|rfl
  ·obtain ⟨i,q1,q2,q3⟩:=hj
   have:i=xs.length:=by
    have:=congrArg List.length q2
    simp at this; omega
   subst this
   exact .inl ⟨O,q3⟩
  ·exact .inr ⟨O,hj⟩
 have hL:LeavesInM Ti 0 P fn a'.tmps (fun e w'=>∃ v,e = .returned v/\((∃ O,J xs.length O w')\/∃ O,X O w')) a'.defers .returning w':=by
  rw [hd]; exact hfin
 rcases he with rfl|rfl
 ·exact hL
 ·exact hL
variable {r r' : Locs} {D D' : Nat->Prop} {I I' : Imm} {w w' w0:World} {I0:Imm} {B n n' k N:Nat} {pr pr' : Nat->Obj->Prop} {h:Nat->ABlk} {P:Program}
theorem Zs7 {T:Tab} (hT:TabOK P T) {f:FuncId} {fn:Func} (hf:P.funcs[f]?=some fn) {c:Code} (hb:fn.body=some c) {args:List AV} (hle:args.length<=fn.ntmps) {σ:St} {K:AV->St->Prop} (hv:Awp P fn.ntmps c (env0 0 args) σ (retQ T fn.results.toList K)):SemCall P f args σ K:=by
 intro B w0 I0 pr r I D w vs H hargs
 refine callsIn_of_wp_marks hf hb trivial ?_
 have hsz:vs.size=args.length:=hargs.1
 have S:SR B w0 I0 pr fn.ntmps r I D (env0 0 args) σ { tmps:=vs++Pe (fn.ntmps-vs.size) undef,defers:=[] } w:=by
  refine ⟨H,by simp; omega,fun i=>?_⟩
  rw [Zii]
  simp only [Qp,if_true,Oo]
  cases hi:args[i]? with
  | none=>simp; exact .any _ _
  | some v =>
   have hlt:i<vs.size:=by rw [hsz]; exact (Qi.1 hi).1
   have:=hargs.2 i v vs[i] hi (by simp [hlt])
   simpa [Qy,Og,hlt] using this
 refine Ru (fun e a' w' hp=>?_) (hv Ti B w0 I0 pr r I D _ w (.inl rfl) (fun l hl=>by cases hl) S)
 have fin:∀ (pr' : Nat->Obj->Prop) (ms:List Deferred) (env' : Env) (σ' : St) (r' : Locs) (I' : Imm) (D' : Nat->Prop),(∀ b o,pr b o->pr' b o)->Mk w pr' ms->ms.Pairwise (fun a b=>a.target≠b.target)->a'.defers=ms++[] ->
   (Got (Zb7 T env' σ'.get fn.results.toList) fun vs=>K (resV vs) σ')->SR B w0 I0 pr' fn.ntmps r' I' D' env' σ' a' w'->Step r D I w r' D' I' w' ->
   LeavesInM Ti 0 P fn a'.tmps (fun e w'=>∃ x v σ' r' I' D',e = .returned x/\K v σ'/\HR B w0 I0 pr r' I' D' σ'.get σ'.next w'/\VR r' I' w' D' v x/\Step r D I w r' D' I' w') a'.defers .returning w':=by
  intro pr' ms env' σ' r' I' D' p1 m1 n1 d1 q1 s1 t1
  obtain ⟨us,hus,hk⟩:=Ol q1
  rw [d1,Pv]
  refine Zdw hT ms (pr:=pr) m1 n1 (fun x o hx=>⟨p1 x o hx,(Qt.1 (H.prot x o hx).1).1⟩) s1.hr s1.er hus (fun x w2 H2 S2 V2=>?_)
  exact ⟨x,resV us,σ',r',I',D',rfl,hk,H2,V2,t1.trans S2⟩
 obtain ⟨pr',ms,env',σ',r',I',D',p1,m1,n1,d1,q1,s1,t1,z1⟩:=hp
 cases e with
 | normal=>exact fin pr' ms env' σ' r' I' D' p1 m1 n1 d1 q1 s1 t1
 | ret=>exact fin pr' ms env' σ' r' I' D' p1 m1 n1 d1 q1 s1 t1
 | _=>exact q1.elim
theorem SemCall.mono {f:FuncId} {args:List AV} {σ:St} {K K' : AV->St->Prop} (h:SemCall P f args σ K) (hk:∀ v σ,K v σ->K' v σ):SemCall P f args σ K':=fun B w0 I0 pr r I D w vs H hv=>(h B w0 I0 pr r I D w vs H hv).mono fun e w' ⟨x,v,σ',r',I',D',h1,h2,h3⟩=>⟨x,v,σ',r',I',D',h1,hk _ _ h2,h3⟩
theorem Zbv {f:FuncId} (hfn:FnOK P f) {args:List AV} {res:PRes} (hids:Vj res.blks.length res.v=true) (hv:SemCall P f args ⟨[],0⟩ (Zc1 res)):PCall P f args res:=by
 refine ⟨hfn,fun I w vs hI hargs=>?_⟩
 have H:HR w.heap.size w I (fun _ _=>False) r0 I (fun _=>False) (Oh ⟨[],0⟩) 0 w :=
  ⟨Kv _ _,Qd _,hI,fun _ h=>h.elim,fun id h=>by simp [Oh,hget,Wi] at h,fun id=>by simp [Oh,hget,BlkOK],fun id id' h=>by simp [Oh,hget,Wi] at h,fun _ _ h=>h.elim,fun _ _ h=>h.elim,fun _ _ h=>.inl h⟩
 refine (hv w.heap.size w I (fun _ _=>False) r0 I (fun _=>False) w vs H hargs).mono fun e w' hh=>?_
 obtain ⟨x,v,σ',r',I',D',rfl,⟨ids,hnd,hlen,hren,hrows⟩,H',V',S'⟩:=hh
 refine ⟨x,fun j=>r' (listed ids j),I',rfl,H'.below,fun b o h=>(S'.imm b o h).1,H'.immB,H'.imm,fun j p hj=>?_,fun j j' h1 h2 hne=>?_,?_⟩
 ·have hr:=hrows j p hj
  have hB:=H'.blk (listed ids j)
  have hl:(σ'.get (listed ids j)).live=true:=by rw [hr]; rfl
  have hd:=H'.live _ hl
  rw [hr] at hB
  obtain ⟨g1,g2,g3,cs,T,fz,g4,g5,g6,g7,g8⟩:=hB
  refine ⟨(g7 rfl).1,(H'.dom _ hd).2,g1,g2,g3,cs,T,fz,g4,g5,fun i e j' c hi hj'=>?_,fun _=>g7 rfl,by simp⟩
  obtain ⟨u,a,b⟩:=g6 i e j' c hi hj'
  exact ⟨u,a,b.mono ⟨fun _ h=>by simp at h,fun _ _ h=>⟨h,rfl⟩,Qd _⟩⟩
 ·have h1' : j<ids.length:=by omega
  have h2' : j'<ids.length:=by omega
  have e1:=hrows j _ (Qe h1)
  have e2:=hrows j' _ (Qe h2)
  refine H'.inj _ _ (by rw [e1]; rfl) (by rw [e2]; rfl) (fun e=>hne ?_)
  have q1:=Zce ids j h1'
  have q2:=Zce ids j' h2'
  rw [e] at q1
  exact (List.getElem?_inj h1' hnd).1 (q1.trans q2.symm)
 ·rw [hren] at V'
  exact VR.unren (r:=r') (f:=listed ids) (D':=fun i=>i<res.blks.length) (fun j hj=>⟨hj,rfl⟩) res.v V' hids
def Zrf (P:Program) (N:Nat) (c:Code) (Q:Exit->Env->St->Prop):Nat->Env->St->Prop
 | 0,_,_=>False
 | m+1,env,σ=>Awp P N c env σ (seqQ (Zrf P N c Q m) Q)
theorem Zjs {c:Code} {Q:Exit->Env->St->Prop} {m:Nat} {env:Env} {σ:St} (hv:Zrf P N c Q m env σ):Awp P N (.loop c) env σ Q:=by
 intro F B w0 I0 pr r I D a w hF hR S
 refine wpIn_loop_rounds m ?_
 have key:∀ (m:Nat) (env:Env) (σ:St) (pr1:Nat->Obj->Prop) (r1:Locs) (I1:Imm) (D1:Nat->Prop) (a1:Act) (w1:World) (ms:List Deferred),(∀ b o,pr b o->pr1 b o)->Mk w pr1 ms->ms.Pairwise (fun a b=>a.target≠b.target)->a1.defers=ms++a.defers->Zrf P N c Q m env σ ->
   SR B w0 I0 pr1 N r1 I1 D1 env σ a1 w1->Step r D I w r1 D1 I1 w1->w.heap.size<=w1.heap.size->Code.roundsIn F 0 P c (Post B w0 I0 pr N r I D w a.defers Q) m a1 w1:=by
  intro m
  induction m with
  | zero=>intro env σ pr1 r1 I1 D1 a1 w1 ms _ _ _ _ hv; exact hv.elim
  | succ m ih =>
   intro env σ pr1 r1 I1 D1 a1 w1 ms p1 m1 n1 d1 hv s1 t1 z1
   refine Ru (fun e a2 w2 hp=>?_) (hv F B w0 I0 pr1 r1 I1 D1 a1 w1 hF (hR.le p1) s1)
   obtain ⟨pr2,ms2,env2,σ2,r2,I2,D2,p2,m2,n2,d2,q2,s2,t2,z2⟩:=hp
   have hM:Mk w pr2 (ms2++ms):=by
    intro d hd
    rcases List.mem_append.1 hd with h|h
    ·obtain ⟨b,g1,g2,g3⟩:=m2 d h
     exact ⟨b,g1,g2,Re z1 g3⟩
    ·obtain ⟨b,g1,g2,g3⟩:=m1 d h
     exact ⟨b,g1,p2 _ _ g2,g3⟩
   have hN:(ms2++ms).Pairwise (fun a b=>a.target≠b.target):=by
    refine List.pairwise_append.2 ⟨n2,n1,fun x hx y hy e=>?_⟩
    obtain ⟨b,g1,g2,g3⟩:=m2 x hx
    obtain ⟨b',g1',g2',g3'⟩:=m1 y hy
    have:=(Qt.1 (s1.hr.prot _ _ g2').1).1
    rw [g1,g1'] at e
    simp only [Nf] at e
    omega
   have hD:a2.defers=(ms2++ms)++a.defers:=by rw [d2,d1,List.append_assoc]
   have hout:∀ e',Q e' env2 σ2->Post B w0 I0 pr N r I D w a.defers Q e' a2 w2:=fun e' hq=>⟨pr2,ms2++ms,env2,σ2,r2,I2,D2,fun b o h=>p2 _ _ (p1 _ _ h),hM,hN,hD,hq,s2,t1.trans t2,Re z1 z2⟩
   cases e with
   | normal=>exact ih env2 σ2 pr2 r2 I2 D2 a2 w2 (ms2++ms) (fun b o h=>p2 _ _ (p1 _ _ h)) hM hN hD q2 s2 (t1.trans t2) (Re z1 z2)
   | exit id=>exact hout _ q2
   | goto l=>exact hout _ q2
   | ret=>exact hout _ q2
   | panic ch=>exact hout _ q2
   | outgrown=>exact hout _ q2
 exact key m env σ pr r I D a w [] (fun _ _ h=>h) (fun d hd=>by simp at hd) .nil (by simp) hv S (Pf _ _ _ _) (Qd _)
theorem Awp.mono {c:Code} {env:Env} {σ:St} {Q Q' : Exit->Env->St->Prop} (h:Awp P N c env σ Q) (hq:∀ e env σ,Q e env σ->Q' e env σ):Awp P N c env σ Q' :=
 fun F B w0 I0 pr r I D a w hF hR S=>Ru (fun e a' w' hp=>hp.mono fun _ _ q=>hq _ _ _ q) (h F B w0 I0 pr r I D a w hF hR S)
def Zg0 (env:Env) (σ:St) (env' : Env) (σ' : St):Prop:=(∀ i,env'.get i=env.get i\/env'.get i = .any)/\(∀ i,σ'.get i=σ.get i\/σ'.get i = .dead)/\σ'.next=σ.next
theorem HR.kills (H:HR B w0 I0 pr r I D h n w) {h' : Nat->ABlk} (hk:∀ i,h' i=h i\/h' i = .dead):HR B w0 I0 pr r I D h' n w:=by
 have hl:∀ i,(h' i).live=true->(h i).live=true:=by
  intro i hi
  rcases hk i with e|e
  ·rwa [e] at hi
  ·rw [e] at hi; simp [Wi] at hi
 refine ⟨H.below,H.base,H.imm,H.dom,fun i hi=>H.live i (hl i hi),fun i=>?_,fun i j hi hj=>H.inj i j (hl i hi) (hl j hj),H.prot,fun b o hp=>⟨fun i hi=>(H.protK b o hp).1 i (hl i hi),(H.protK b o hp).2⟩,H.immB⟩
 rcases hk i with e|e
 ·rw [e]; exact H.blk i
 ·rw [e]; trivial
theorem SR.forget {env env' : Env} {σ σ' : St} {a:Act} (S:SR B w0 I0 pr N r I D env σ a w) (h:Zg0 env σ env' σ'):SR B w0 I0 pr N r I D env' σ' a w :=
 ⟨by have:=S.hr.kills h.2.1; rw [h.2.2]; exact this,S.er.1,fun i=>by rcases h.1 i with e|e<;>rw [e]; exact S.er.2 i; exact .any _ _⟩
theorem Awp.forgets {c:Code} {env:Env} {σ:St} {Q Q' : Exit->Env->St->Prop} (h:Awp P N c env σ Q) (hq:∀ e env σ,Q e env σ->∃ env' σ',Zg0 env σ env' σ'/\Q' e env' σ'):Awp P N c env σ Q' :=
 fun F B w0 I0 pr r I D a w hF hR S=>Ru (fun e a' w' hp=>by
  obtain ⟨pr1,ms1,env1,σ1,r1,I1,D1,p1,m1,n1,d1,q1,s1,t1,z1⟩:=hp
  obtain ⟨env2,σ2,hf,q2⟩:=hq _ _ _ q1
  exact ⟨pr1,ms1,env2,σ2,r1,I1,D1,p1,m1,n1,d1,q2,s1.forget hf,t1,z1⟩) (h F B w0 I0 pr r I D a w hF hR S)
end Go.Sx
