/- A part of the proof: lemmas. -/
import Derived.Test.YtfkdpbklbegnlaaGreatZ7
import Derived.Test.YtfkdpbklbegnlaaGreatZ6
import Derived.Calls
import Derived.CallsIn
import Derived.Lib.QuietBelow
import Derived.RunT
import Derived.Shelf.SlSortCmp.InsertionK
import GoSem.Step
set_option linter.unusedVariables false
set_option linter.unusedSimpArgs false
set_option maxRecDepth 100000
set_option maxHeartbeats 16000000
open Array renaming eq_empty_of_size_eq_zero->Ku,getElem?_eq_getElem->Wb,getElem?_eq_some_iff->Qo,getElem?_modify->Fb,getElem?_toList->Fa
open Bool renaming and_eq_true->Qc
open Go renaming look->Qcw
open Go.Code renaming wpIn_mono->Rd
open Go.Deferred renaming ofValue->Wh
open Go.Exit renaming inBlock->Od
open Go.Fence renaming wide->Sh
open Go.Instr renaming endRound->Nk,takeDeferred->Lm
open Go.Kernel renaming perform->Qby
open Go.Sem renaming run->Jk
open Go.Sort renaming grow->Qar
open Go.Sx renaming froz->Hh
open Go.Sx.ABlk renaming live->Tm
open Go.Sx.AV renaming yld->Jc
open Go.Sx.Chg renaming putObj->Pw
open Go.Sx.FOK renaming round->Fs
open Go.Sx.St renaming get->Pu,get_set->Kl
open Go.Sx.Step renaming refl->Wa
open Go.Target.collected renaming injEq->Pp
open Go.World renaming cell?->Wj,cell?_of_block->Th,putObj->Mp
open List renaming all_eq_true->Rj,getElem?_eq_getElem->Qe,getElem?_eq_some_iff->Qj,getElem?_map->Rq,getElem?_range->Tv,getElem_mem->Qr,length_map->Ra,range->Si
open Nat renaming add_zero->Pm,ble->Se,le_of_ble_eq_true->Qm,le_refl->Qd,le_succ->Mi,le_trans->Qt,lt_of_lt_of_le->Rp,mul_comm->Wi,mul_le_mul_right->Ri,zero_le->Qn,zero_mul->Jj
open Option renaming map_some->Ob
open Option.some renaming inj->Sv,injEq->Qf
open Prod.mk renaming injEq->Rl
namespace Go.Sx
open Go Go.RowKit
variable {h' : Nat->ABlk} {n0:Nat} {r r' : Locs} {D D' : Nat->Prop} {I I' : Imm} {w w' w0:World} {I0:Imm} {B n n' k N:Nat} {pr pr' pr2:Nat->Obj->Prop} {h:Nat->ABlk} {P:Program}
structure RoundsOKT (P:Program) (W:World) (I:Imm) (l:Nat) (xs:List (List AV)) (J:Nat->(Nat->Prop)->World->Prop) (X:(Nat->Prop)->World->Prop):Prop where
 growX:∀ O w w',X O w->Chg O w w'->X (fun b=>O b\/(w.heap.size<=b/\b<w'.heap.size)) w'
 grow:∀ i O w w',J i O w->Chg O w w'->J i (fun b=>O b\/(w.heap.size<=b/\b<w'.heap.size)) w'
 fin:∀ i O w,J i O w->∀ b,O b->b<w.heap.size
 round:∀ i x O w ys I',xs[i]?=some x->J i O w->(∀ b o,I b o->I' b o)->(∀ b o,I' b o->I b o\/O b)->VRs r0 I' w (fun _=>False) x ys ->
  YieldAt Sh 0 P l ys w fun e w'=>∃ b,e = .returned (.bool b)/\(∀ q,O q->w'.heap[q]?=w.heap[q]?)/\(∀ q o,I q o->w'.cell? ⟨q,o,none⟩=w.cell? ⟨q,o,none⟩)/\w.heap.size<=w'.heap.size/\(b=true->J (i+1) O w')/\(b=false->X O w')
def Zrl (P:Program) (g:FuncId) (c0 c1:List AV) (xs:List (List AV)):Prop :=
 FnOK P g/\∀ (I:Imm) (W:World) (v0 v1:Array Value) (l:Nat) (J:Nat->(Nat->Prop)->World->Prop) (X:(Nat->Prop)->World->Prop),(∀ b o,I b o->b<W.heap.size)->VRs r0 I W (fun _=>False) c0 v0->VRs r0 I W (fun _=>False) c1 v1 ->
  RoundsOKT P W I l xs J X->J 0 (fun _=>False) W->CallsIn Sh 0 P g ((v0 ++ #[.func (.yield l) #[] #[]])++v1) W fun e w'=>∃ v,e = .returned v/\((∃ O,J xs.length O w')\/∃ O,X O w')
def val1:Value->AV
 | .slice a n c=>.val a n c
 | _=>.any
def valL (ys:Array Value):List AV:=ys.toList.map val1
theorem Yba (ys:Array Value):VRs r I w D (valL ys) ys:=⟨by simp [valL],fun i c v hc hv=>by
 simp only [valL,Rq,Fa,hv,Ob,Qf] at hc
 subst hc
 unfold val1
 split
 ·exact .val _ _ _ _
 ·exact .any _ _⟩
def Ygm:AV->Bool
 | .isl _ _=>true
 | _=>false
def SlV (ys:Array Value):Prop:=∀ (i:Nat) (y:Value),ys[i]?=some y->∃ a n c,y = .slice a n c
theorem Yhs {x:List AV} {ys:Array Value} (h:VRs r I w D x ys) (hx:x.all Ygm=true):SlV ys:=by
 intro i y hy
 have hi:i<x.length:=by rw [<-h.1]; exact (Qo.1 hy).1
 have hv:=h.2 i x[i] y (Qe hi) hy
 have hb:=Rj.1 hx _ (Qr hi)
 generalize x[i]=c at *
 cases hv with
 | isl0=>exact ⟨_,_,_,rfl⟩
 | isl=>exact ⟨_,_,_,rfl⟩
 | _=>cases hb
def TFr (pr:Nat->Obj->Prop) (I:Imm) (w:World) (x:List AV) (ys:Array Value):Prop :=
 ∃ T:Imm,(∀ b o,T b o->∃ ob,pr b ob)/\VRs r0 (fun b o=>I b o\/T b o) w (fun _=>False) x ys
theorem TFr.step {x:List AV} {ys:Array Value} (ht:TFr pr I w x ys) (H:HR B w0 I0 pr r I D h n w) (H' : HR B w0 I0 pr r' I' D' h' n' w') (S:Step r D I w r' D' I' w'):TFr pr I' w' x ys:=by
 obtain ⟨T,h1,h2⟩:=ht
 refine ⟨T,h1,h2.mono ⟨fun _ h=>h.elim,fun b o hi=>?_,S.size⟩⟩
 rcases hi with hi|hi
 ·have:=S.imm b o hi
  exact ⟨.inl this.1,this.2⟩
 ·obtain ⟨ob,hp⟩:=h1 b o hi
  exact ⟨.inr hi,Th ((H'.prot b ob hp).1.trans (H.prot b ob hp).1.symm)⟩
def AwpT (P:Program) (N:Nat) (x:List AV) (ys:Array Value) (c:Code) (env:Env) (σ:St) (Q:Exit->Env->St->Prop):Prop :=
 ∀ (F:Fence) (B:Nat) (w0:World) (I0:Imm) (pr:Nat->Obj->Prop) (r:Locs) (I:Imm) (D:Nat->Prop) (a:Act) (w:World),FOK F->RdOK F pr->SR B w0 I0 pr N r I D env σ a w->TFr pr I w x ys ->
  c.wpIn F 0 P (Post B w0 I0 pr N r I D w a.defers Q) a w
def Zlt (P:Program) (N n0:Nat) (ps:List Tmp) (assign body:Code) (env:Env) (Q:Exit->Env->St->Prop):List (List AV)->St->Prop
 | [],σ=>Q .normal env σ
 | x::xs,σ=>(x.length=ps.length/\x.all Ygm=true)/\∀ ys:Array Value,ys.size=x.length->SlV ys->Awp P N assign (Zem ps (valL ys) env) σ fun e env1 σ1=>e = .normal/\AwpT P N x ys body env1 σ1 fun e _ σ2=>match e with
  | .normal=>∃ σ3,(σ3=σ2\/Ren n0 [] σ2 [] σ3)/\Zlt P N n0 ps assign body env Q xs σ3
  | .ret=>Q .ret env σ2
  | .exit id=>Q (.exit id) env σ2
  | _=>False
structure BetwT (P:Program) (N n0:Nat) (B:Nat) (w0:World) (I0:Imm) (pr:Nat->Obj->Prop) (l:Nat) (rec:Loop) (r:Locs) (I:Imm) (D:Nat->Prop) (w1:World) (ps:List Tmp) (assign body:Code) (env:Env) (Q:Exit->Env->St->Prop) (rest:List (List AV)) (O:Nat->Prop) (W:World):Prop where
 ex:∃ σ r' I' D',HR B w0 I0 (prI pr l (recS rec .ready none) O W) r' I' D' σ.get σ.next W/\Step r D I w1 r' D' I' W/\Zlt P N n0 ps assign body env Q rest σ
 own:∀ b,O b->w1.heap.size<=b/\b<W.heap.size
 low:∀ b o,pr b o->b<w1.heap.size/\b≠l
 lt:l<w1.heap.size
 dlt:∀ id,D id->id<n0
theorem BetwT.grow {l:Nat} {rec:Loop} {w1:World} {ps:List Tmp} {assign body:Code} {env:Env} {Q:Exit->Env->St->Prop} {rest:List (List AV)} {O:Nat->Prop} (b:BetwT P N n0 B w0 I0 pr l rec r I D w1 ps assign body env Q rest O w) (hc:Chg O w w') :
  BetwT P N n0 B w0 I0 pr l rec r I D w1 ps assign body env Q rest (fun b=>O b\/(w.heap.size<=b/\b<w'.heap.size)) w':=by
 obtain ⟨⟨σ,r',I',D',H,S,hr⟩,hown,hlow,hrec,hdlt⟩:=b
 have hsz:w1.heap.size<=w.heap.size:=S.size
 obtain ⟨H',S'⟩:=H.chg (pr2:=prI pr l (recS rec .ready none) (fun b=>O b\/(w.heap.size<=b/\b<w'.heap.size)) w') (O:=O) (fun b hb=>by
   have hlt:=(hown b hb).2
   exact ⟨w.heap[b],.inr (.inr ⟨hb,by simp [hlt]⟩)⟩) hc (fun b o hp=>by
   rcases hp with h|⟨rfl,rfl⟩|⟨h|h,h2⟩
   ·refine .inl ⟨.inl h,fun hb=>?_⟩
    have:=hlow b o h; have:=hown b hb; omega
   ·refine .inl ⟨.inr (.inl ⟨rfl,rfl⟩),fun hb=>?_⟩
    have:=hown b hb; omega
   ·exact .inr ⟨.inl h,h2⟩
   ·exact .inr ⟨.inr h.1,h2⟩)
 refine ⟨⟨σ,r',I',D',H',S.trans S',hr⟩,fun b hb=>?_,hlow,hrec,hdlt⟩
 rcases hb with hb|hb
 ·have:=hown b hb; have:=hc.size; omega
 ·omega
theorem BetwT.round {l Db:Nat} {rec:Loop} {w1:World} {ps:List Tmp} {assign body:Code} {env:Env} {tmps:Array Value} {Q:Exit->Env->St->Prop} {x:List AV} {rest:List (List AV)} {O:Nat->Prop} {ys:Array Value}
  (b:BetwT P N n0 B w0 I0 pr l rec r I D w1 ps assign body env Q (x::rest) O w) (hps:Vu N ps=true) (hrp:rec.params.toList=ps) (hrt:rec.tmps=tmps) (hra:rec.assign=assign) (hrb:rec.body=body) (hrd:rec.defers=Db) (hdb:pr Db (.deferred (some [])))
  (hE:ER r I w1 D N env tmps) (hI1:∀ q o,I0 q o->I0 q o) {IT:Imm} (hlo:∀ q o,I q o->IT q o) (hup:∀ q o,IT q o->I q o\/O q) (hv:VRs r0 IT w (fun _=>False) x ys) :
  YieldAt Sh 0 P l ys w fun e w'=>∃ b,e = .returned (.bool b)/\(∀ q,O q->w'.heap[q]?=w.heap[q]?)/\(∀ q o,I q o->w'.cell? ⟨q,o,none⟩=w.cell? ⟨q,o,none⟩)/\w.heap.size<=w'.heap.size /\
   (b=true->BetwT P N n0 B w0 I0 pr l rec r I D w1 ps assign body env Q rest O w')/\(b=false->Left B w0 I0 pr l rec r I D w1 env Q O w'):=by
 obtain ⟨⟨σ,r',I',D',H,S,⟨hlen,hisl⟩,hass⟩,hown,hlow,hrec,hdlt⟩:=b
 have hl:w.heap[l]?=some (.loop (recS rec .ready none)):=(H.prot l _ (.inr (.inl ⟨rfl,rfl⟩))).1
 have hys:ys.size=rec.params.size:=by
  have:rec.params.size=ps.length:=by rw [<-hrp]; simp
  rw [hv.1,hlen,this]
 have hy:=run_yield (P:=P) (args:=ys) hl (by simpa [recS] using hys)
 refine ⟨_,_,_,_,hy,roundIn_of_wpIn trivial ?_⟩
 have hass:=hass ys hv.1 (Yhs hv hisl)
 have hlv:(valL ys).length=ps.length:=by simp [valL,hv.1,hlen]
 have hE1:ER r' I' w D' N (Zem ps (valL ys) env) (((recS rec .ready none).params.zip ys).foldl (fun t (p,v)=>t.setIfInBounds p v) (recS rec .ready none).tmps):=by
  have:=Zkj (env:=env) (ps:=ps) (x:=valL ys) (ys:=ys.toList) hps hlv (by simpa using Yba (r:=r') (I:=I') (w:=w) (D:=D') ys) (hE.mono S)
  subst hrp
  rw [<-hrt] at this
  rw [<-Array.foldl_toList,Array.toList_zip]
  exact this
 have hRd1:RdOK (Fence.wide.inRound l) (prI pr l (recS rec .ready none) O w):=by
  intro l' hl'
  cases hl'
  exact ⟨_,.inr (.inl ⟨rfl,rfl⟩),.inl (by simpa [recS,hrd] using hdb)⟩
 have h1:=hass (Fence.wide.inRound l) B w0 I0 (prI pr l (recS rec .ready none) O w) r' I' D' { tmps:=((recS rec .ready none).params.zip ys).foldl (fun t (p,v)=>t.setIfInBounds p v) (recS rec .ready none).tmps,defers:=[] } w (Fs l) hRd1 ⟨H,hE1⟩
 have ha:(recS rec .ready none).assign=assign:=hra
 have hb:(recS rec .ready none).body=body:=hrb
 rw [ha,hb]
 refine Rd (fun e a1 W1 hp=>?_) h1
 obtain ⟨pr1,ms1,env1,σ1,r1,I1,D1,p1,m1,n1,d1,⟨rfl,hbody⟩,s1,t1,z1⟩:=hp
 have hl1:W1.heap[l]?=some (.loop (recS rec .ready none)):=(s1.hr.prot l _ (p1 _ _ (.inr (.inl ⟨rfl,rfl⟩)))).1
 refine ⟨_,run_beginRound hl1 rfl,?_⟩
 have hbusy:({ recS rec .ready none with state:=.busy }:Loop)=recS rec .busy none:=rfl
 rw [hbusy]
 obtain ⟨H2,S2⟩:=s1.hr.chg (w':=W1.putObj l (.loop (recS rec .busy none))) (O:=fun b=>b=l) (pr2:=fun b o=>(pr1 b o/\b≠l)\/(b=l/\o = .loop (recS rec .busy none))) (fun b hb=>⟨_,hb ▸ p1 _ _ (.inr (.inl ⟨rfl,rfl⟩))⟩) (Pw _ _ _) (fun b o hp=>by
  rcases hp with h|⟨rfl,rfl⟩
  ·exact .inl h
  ·exact .inr ⟨.inl rfl,Zde hl1⟩)
 have hRd2:RdOK (Fence.wide.inRound l) (fun b o=>(pr1 b o/\b≠l)\/(b=l/\o = .loop (recS rec .busy none))):=by
  intro l' hl'
  cases hl'
  refine ⟨_,.inr ⟨rfl,rfl⟩,.inl ⟨p1 _ _ (.inl (by simpa [recS,hrd] using hdb)),?_⟩⟩
  have:=(hlow _ _ hdb).2
  simpa [recS,hrd] using this
 have hTF:TFr (fun b o=>(pr1 b o/\b≠l)\/(b=l/\o = .loop (recS rec .busy none))) I1 (W1.putObj l (.loop (recS rec .busy none))) x ys:=by
  have hOl' : ∀ q,O q->q≠l:=fun q hq e=>by have:=(hown q hq).1; omega
  have hob:∀ q,O q->(W1.putObj l (.loop (recS rec .busy none))).heap[q]?=w.heap[q]?/\pr1 q (w.heap.getD q default):=by
   intro q hq;have hlt:=(hown q hq).2;have e1:w.heap[q]?=some w.heap[q]:=by simp [hlt]
   have hp1:=p1 _ _ (.inr (.inr ⟨hq,e1⟩));have e2:=(s1.hr.prot q _ hp1).1;refine ⟨?_,by simpa [Array.getD,hlt] using hp1⟩;rw [(Pw W1 l (.loop (recS rec .busy none))).block q (hOl' q hq) (Qo.1 e2).1,e2,e1]
  refine ⟨fun q o=>O q,fun q o hq=>⟨_,.inl ⟨(hob q hq).2,hOl' q hq⟩⟩,hv.mono ⟨fun _ h=>h.elim,fun q o hi=>?_,Qt t1.size (by simp [Mp])⟩⟩
  rcases hup q o hi with h|h
  ·have h1:=S.imm q o h
   have h2:=(t1.trans S2).imm q o h1.1;exact ⟨.inl h2.1,h2.2⟩
  ·exact ⟨.inr h,Th (hob q h).1⟩
 have h2:=hbody (Fence.wide.inRound l) B w0 I0 _ r1 I1 D1 a1 (W1.putObj l (.loop (recS rec .busy none))) (Fs l) hRd2 ⟨H2,s1.er.mono S2⟩ hTF
 refine Rd (fun e a3 W3 hp=>?_) h2
 obtain ⟨pr3,ms3,env3,σ3,r3,I3,D3,p3,m3,n3,d3,q3,s3,t3,z3⟩:=hp
 have hl3:W3.heap[l]?=some (.loop (recS rec .busy none)):=(s3.hr.prot l _ (p3 _ _ (.inr ⟨rfl,rfl⟩))).1
 have hOl:∀ q,O q->q≠l:=fun q hq e=>by have:=(hown q hq).1; omega
 have hOw:∀ q,O q->W3.heap[q]?=w.heap[q]?:=by
  intro q hq
  have hlt:=(hown q hq).2
  have e1:w.heap[q]?=some w.heap[q]:=by simp [hlt]
  have:=(s3.hr.prot q _ (p3 _ _ (.inl ⟨p1 _ _ (.inr (.inr ⟨hq,e1⟩)),hOl q hq⟩))).1
  rw [this,e1]
 have hS3:Step r' D' I' w r3 D3 I3 W3:=(t1.trans S2).trans t3
 have fin:∀ (jump:Option Code) (st:LoopState),st=(if jump.isNone then .ready else .done)->∀ Ox:Nat->Prop,(∀ q,Ox q->O q) ->
   HR B w0 I0 (prI pr l (recS rec st jump) Ox (W3.putObj l (.loop (recS rec st jump)))) r3 I3 D3 σ3.get σ3.next (W3.putObj l (.loop (recS rec st jump)))/\Step r3 D3 I3 W3 r3 D3 I3 (W3.putObj l (.loop (recS rec st jump))):=by
  intro jump st hst Ox hOx
  refine s3.hr.chg (O:=fun b=>b=l) (fun b hb=>⟨_,hb ▸ p3 _ _ (.inr ⟨rfl,rfl⟩)⟩) (Pw _ _ _) (fun b o hp=>?_)
  rcases hp with h|⟨rfl,rfl⟩|⟨h,h2⟩
  ·have hbl:=(hlow b o h).2
   exact .inl ⟨p3 _ _ (.inl ⟨p1 _ _ (.inl h),hbl⟩),hbl⟩
  ·exact .inr ⟨.inl rfl,Zde hl3⟩
  ·have hbl:=hOl b (hOx b h)
   have e1:=(Pw W3 l (.loop (recS rec st jump))).block b hbl (by have:=(hown b (hOx b h)).2; have:=hS3.size; omega);rw [e1,hOw b (hOx b h)] at h2;exact .inl ⟨p3 _ _ (.inl ⟨p1 _ _ (.inr (.inr ⟨hOx b h,h2⟩)),hbl⟩),hbl⟩
 have done:∀ (jump:Option Code) (st:LoopState),st=(if jump.isNone then .ready else .done)->((Nk l jump).run P W3 = .ok (.bool jump.isNone) (W3.putObj l (.loop (recS rec st jump)))):=by
  intro jump st hst
  have:=run_endRound (P:=P) jump hl3
  rw [this,hst]
  rfl
 have keep:∀ (jump:Option Code) (st:LoopState),(∀ q,O q->(W3.putObj l (.loop (recS rec st jump))).heap[q]?=w.heap[q]?)/\(∀ q o,I q o->(W3.putObj l (.loop (recS rec st jump))).cell? ⟨q,o,none⟩=w.cell? ⟨q,o,none⟩)/\w.heap.size<=(W3.putObj l (.loop (recS rec st jump))).heap.size:=by
  intro jump st
  have hsz:(W3.putObj l (.loop (recS rec st jump))).heap.size=W3.heap.size:=by simp [Mp]
  refine ⟨fun q hq=>?_,fun q o hi=>?_,?_⟩
  ·rw [(Pw W3 l (.loop (recS rec st jump))).block q (hOl q hq) (by have:=(hown q hq).2; have:=hS3.size; omega),hOw q hq]
  ·have h1:=(S.imm q o hi).1
   have hx2:=hS3.imm q o h1
   have hne:q≠l:=fun e=>by
    subst e;exact (s3.hr.protK q _ (p3 _ _ (.inr ⟨rfl,rfl⟩))).2 o hx2.1
   rw [Th ((Pw W3 l (.loop (recS rec st jump))).block q hne (s3.hr.imm q o hx2.1))];exact hx2.2
  ·rw [hsz]; exact hS3.size
 have hown' : ∀ (jump:Option Code) (st:LoopState),∀ q,O q->w1.heap.size<=q/\q<(W3.putObj l (.loop (recS rec st jump))).heap.size:=by
  intro jump st q hq
  have:=hown q hq
  have:=(keep jump st).2.2
  omega
 have stop:∀ (c:Code) (e:Exit),((c = .ret/\e = .ret)\/(∃ id,c = .exit id/\e = .exit id))->Q e env σ3 ->
   ∃ v w',(Nk l (some c)).run P W3 = .ok v w'/\∃ b,Ending.returned v = .returned (.bool b)/\(∀ q,O q->w'.heap[q]?=w.heap[q]?)/\(∀ q o,I q o->w'.cell? ⟨q,o,none⟩=w.cell? ⟨q,o,none⟩)/\w.heap.size<=w'.heap.size /\
    (b=true->BetwT P N n0 B w0 I0 pr l rec r I D w1 ps assign body env Q rest O w')/\(b=false->Left B w0 I0 pr l rec r I D w1 env Q O w'):=by
  intro c e hce hq
  obtain ⟨H4,S4⟩:=fin (some c) .done rfl O (fun _ h=>h)
  exact ⟨_,_,done (some c) .done rfl,false,rfl,(keep _ _).1,(keep _ _).2.1,(keep _ _).2.2,(fun h=>by cases h),fun _=>⟨hown' _ _,hlow,hrec,c,e,σ3,r3,I3,D3,hce,H4,S.trans (hS3.trans S4),hq⟩⟩
 cases e with
 | normal =>
  obtain ⟨H4,S4⟩:=fin none .ready rfl O (fun _ h=>h)
  refine ⟨_,_,done none .ready rfl,true,rfl,(keep _ _).1,(keep _ _).2.1,(keep _ _).2.2,fun _=>?_,(fun h=>by cases h)⟩
  obtain ⟨σ5,h5,q5⟩:=q3
  rcases h5 with rfl|h5
  ·exact ⟨⟨σ5,r3,I3,D3,H4,S.trans (hS3.trans S4),q5⟩,hown' _ _,hlow,hrec,hdlt⟩
  ·obtain ⟨r5,D5,H5,k5,_⟩:=H4.rename (N:=0) h5
   exact ⟨⟨σ5,r5,I3,D5,H5,(S.trans (hS3.trans S4)).rename hdlt k5,q5⟩,hown' _ _,hlow,hrec,hdlt⟩
 | ret=>exact stop .ret .ret (.inl ⟨rfl,rfl⟩) q3
 | exit id=>exact stop (.exit id) (.exit id) (.inr ⟨id,rfl,rfl⟩) q3
 | goto t=>exact q3.elim
 | panic ch=>exact q3.elim
 | outgrown=>exact q3.elim
theorem Zxo {f:Operand} {ps:Array Tmp} {assign body:Code} {env:Env} {σ:St} {Q:Exit->Env->St->Prop} {g:FuncId} {c0 c1 d0 d1:List AV} {xs:List (List AV)}
  {F:Fence} (hF:FOK F) (hR:RdOK F pr) {a:Act} (hev:evA env f = .func g c0 c1) (hit:Zrl P g d0 d1 xs) (hps:Vu N ps.toList=true) (H:HR B w0 I0 pr r I D σ.get σ.next w) (E:ER r I w D N env a.tmps) (hr:Zlt P N σ.next ps.toList assign body env Q xs σ)
  (hd:∀ v0 v1,a.eval f = .func (.func g) v0 v1->VRs r0 I w (fun _=>False) d0 v0/\VRs r0 I w (fun _=>False) d1 v1):(Code.rangeFunc f ps assign body).wpIn F 0 P (Post B w0 I0 pr N r I D w a.defers Q) a w:=by
 obtain ⟨⟨fn,q1,q2,q3⟩,hcall⟩:=hit
 refine wpIn_rangeFunc ?_
 intro fid hfid
 obtain ⟨l,mark,w1,Db,pr',hrun,H1,S1,hpr,hdb,hlow,hlt,hmk,hpw⟩:=Zm5 (P:=P) hF hR H fid a.tmps ps assign body
 obtain ⟨rec,hrec⟩:∃ rec:Loop,rec = { state:=.ready,pending:=none,fn:=fid,tmps:=a.tmps,params:=ps,assign,body,defers:=Db }:=⟨_,rfl⟩
 rw [<-hrec] at H1
 have hfv:=Xk E f
 rw [hev] at hfv
 obtain ⟨v0,v1,hv,k0,k1⟩:∃ v0 v1,a.eval f = .func (.func g) v0 v1/\VRs r I w D c0 v0/\VRs r I w D c1 v1:=by
  generalize a.eval f=z at hfv
  cases hfv with
  | func _ _ _ _ v0 v1 h0 h1 g0 g1=>exact ⟨v0,v1,rfl,⟨h0,g0⟩,⟨h1,g1⟩⟩
 obtain ⟨m0,m1⟩:=hd v0 v1 hv
 have hst0:Step r0 (fun _=>False) I w r0 (fun _=>False) I w1:=⟨fun _ h=>h.elim,S1.imm,S1.size⟩
 have q2' : ¬ fn.name = "runtime.NumGoroutine" := by simpa using q2
 have q3' : ¬ fn.body=none:=by intro h; rw [h] at q3; simp at q3
 refine ⟨l,mark,w1,_,w1,g,_,w1,hrun,by simp only [resolve,rangeCall,hv]; simp [Wh,Act.eval]; rfl,fun f' _=>hF.fn f',by simp [invoke,callFunc,q1,q2',q3']; rfl,fun hdp=>by rw [hF.depth] at hdp; simp at hdp,?_⟩
 refine Vy hF ?_
 have hE1:=E.mono S1
 have R:RoundsOKT P w1 I l xs (fun i O W=>BetwT P N σ.next B w0 I0 pr' l rec r I D w1 ps.toList assign body env Q (xs.drop i) O W) (Left B w0 I0 pr' l rec r I D w1 env Q):=by
  refine ⟨fun O u u' hb hc=>Left.grow hb hc,fun i O u u' hb hc=>hb.grow hc,fun i O u hb b hO=>(hb.own b hO).2,fun i x O u ys I2 hx hb hlo hup hvx=>?_⟩
  have hdrop:xs.drop i=x::xs.drop (i+1):=by
   have hil:=(Qj.1 hx).1;rw [List.drop_eq_getElem_cons hil];congr 1
   rw [Qe hil] at hx;exact Sv hx
  rw [hdrop] at hb
  exact hb.round (Db:=Db) (tmps:=a.tmps) hps (by rw [hrec]) (by rw [hrec]) (by rw [hrec]) (by rw [hrec]) (by rw [hrec]) hdb hE1 (fun _ _ h=>h) hlo hup hvx
 have J0:BetwT P N σ.next B w0 I0 pr' l rec r I D w1 ps.toList assign body env Q (xs.drop 0) (fun _=>False) w1 :=
  ⟨⟨σ,r,I,D,by rw [hrec] at H1 ⊢; exact H1,Wa _ _ _ _,by simpa using hr⟩,fun b hb=>hb.elim,hlow,hlt,fun id hd=>(H.dom id hd).1⟩
 have hc:=hcall I w1 v0 v1 l _ _ (fun b o hi=>H1.imm b o hi) (m0.mono hst0) (m1.mono hst0) R J0
 refine hc.mono ?_
 rintro e W ⟨v,rfl,hend⟩
 have close:∀ (st:LoopState) (c:Option Code) (O:Nat->Prop) (σ' : St) (r' : Locs) (I' : Imm) (D' : Nat->Prop),HR B w0 I0 (prI pr' l (recS rec st c) O W) r' I' D' σ'.get σ'.next W->Step r D I w1 r' D' I' W->∀ (e:Exit),Q e env σ' ->
   Post B w0 I0 pr N r I D w a.defers Q e { a with defers:=mark++a.defers } (W.putObj l (.loop { recS rec st c with state:=.exhausted })):=by
  intro st c O σ' r' I' D' H2 S2 e hq
  obtain ⟨H3,S3⟩:=H2.chg (pr2:=pr') (O:=fun b=>b=l) (fun b hb=>⟨.loop (recS rec st c),.inr (.inl ⟨hb,rfl⟩)⟩) (Pw W l (.loop { recS rec st c with state:=.exhausted })) (fun b o hp=>.inl ⟨.inl hp,(hlow b o hp).2⟩)
  exact ⟨pr',mark,env,σ',r',I',D',hpr,hmk,hpw,rfl,hq,⟨H3,(hE1.mono S2).mono S3⟩,(S1.trans S2).trans S3,Qt S1.size (Qt S2.size S3.size)⟩
 rcases hend with ⟨O,hb⟩|⟨O,hb⟩
 ·obtain ⟨⟨σ',r',I',D',H2,S2,hr2⟩,_,_,_,_⟩:=hb
  have hl:=(H2.prot l _ (.inr (.inl ⟨rfl,rfl⟩))).1
  refine ⟨none,_,run_endLoop hl (by simp [recS]),?_⟩
  have:xs.drop xs.length=[]:=by simp
  rw [this] at hr2
  exact close .ready none O σ' r' I' D' H2 S2 .normal hr2
 ·obtain ⟨_,_,_,c,e,σ',r',I',D',hce,H2,S2,hq⟩:=hb
  have hl:=(H2.prot l _ (.inr (.inl ⟨rfl,rfl⟩))).1
  refine ⟨some c,_,run_endLoop hl (by simp [recS]),?_⟩
  have hp:=close .done (some c) _ σ' r' I' D' H2 S2 e hq
  rcases hce with ⟨rfl,rfl⟩|⟨id,rfl,rfl⟩
  ·exact wpIn_ret hp
  ·exact wpIn_exit hp
variable {n0:Nat} {r r' : Locs} {D D' : Nat->Prop} {I I' I2:Imm} {w w' w0:World} {I0:Imm} {B n n' k N:Nat} {pr pr' pr2:Nat->Obj->Prop} {h:Nat->ABlk} {P:Program}
def Zrk (P:Program) (g:FuncId) (args:List AV) (v' : AV):Prop :=
 FnOK P g/\∀ (I:Imm) (w:World) (vs:Array Value),(∀ b o,I b o->b<w.heap.size)->VRs r0 I w (fun _=>False) args vs ->
  CallsIn Sh 0 P g vs w fun e w'=>∃ x I2,e = .returned x/\Below w.heap.size w w'/\(∀ b o,I2 b o->w.heap.size<=b/\b<w'.heap.size)/\VR r0 I2 w' (fun _=>False) v' x
theorem Zxx {g:FuncId} {args:List AV} {res:PRes} {v' : AV} (h:PCall P g args res) (hs:Zfm res.v=true) (hr:Za5 res.blks=true) (hz:Frz res.blks res.v v'):Zrk P g args v':=by
 refine ⟨h.1,fun I w vs hI hv=>(h.2 I w vs hI hv).mono fun e w' hh=>?_⟩
 obtain ⟨x,r',I',rfl,hp⟩:=hh
 let I2:Imm:=fun b o=>∃ (j:Nat) (p:Nat × List (List AV)),res.blks[j]?=some p/\b=(r' j).blk/\∃ (i:Nat) (e:List AV) (jj:Nat) (c:AV),p.2[i]?=some e/\e[jj]?=some c/\o=(r' j).off+i*p.1+jj
 refine ⟨x,I2,rfl,hp.below,fun b o ⟨j,p,hj,hb,_⟩=>?_,?_⟩
 ·have:=hp.rows j p hj
  rw [hb]; exact ⟨this.1,this.2.1⟩
 ·have hv0:=hp.val.slim hs (fun _ _=>False)
  refine (Yei (I':=fun _ _=>False) (I2:=I2) (fun _ _ h=>h.elim) (fun j es els hj y hy=>?_) hv0 _ hz).mono ⟨fun _ h=>h.elim,fun _ _ h=>⟨h,rfl⟩,Qd _⟩
  obtain ⟨hb1,hb2,hrow⟩:=hp.rows j (es,els) hj
  have hsc:=Zeb hr hj
  obtain ⟨⟨he1,he2⟩,hcap,hlen,cs,T,fz,hcells,hsz,hel,hmt,_⟩:=hrow.slim (I:=fun _ _=>False) hsc (fun _ _ h=>h.elim)
  dsimp only at he1 he2 hcap hlen hsz hel
  cases els with
  | nil =>
   cases hy with
   | asl _ _ _ _ hd hc=>exact .isl0 _ _ _ _
  | cons e0 els =>
   cases hy with
   | asl _ _ _ _ hd hc =>
    rw [he1];simp only [Jj,Pm,Nat.sub_zero]
    have hcell:∀ (i:Nat) (e:List AV) (jj:Nat) (c:AV),(e0::els)[i]?=some e->e[jj]?=some c->∃ v,w'.cell? ⟨(r' j).blk,(r' j).off+i*es+jj,none⟩=some v/\VR r' I2 w' (fun _=>False) c v:=by
     intro i e jj c hi hjj;obtain ⟨v,hv1,hv2⟩:=hel i e jj c hi hjj;refine ⟨v,?_,hv2.mono ⟨fun _ h=>h.2.elim,fun b o h=>h.elim,Qd _⟩⟩;simp [Wj,hcells,hv1]
    refine .isl _ _ _ _ _ _ (fun i jj=>(w'.cell? ⟨(r' j).blk,(r' j).off+i*es+jj,none⟩).getD undef) hcap hlen (fun i e jj c hi hjj=>?_) (fun i e jj c hi hjj=>?_)
    ·obtain ⟨v,hv1,_⟩:=hcell i e jj c hi hjj
     exact ⟨⟨j,(es,e0::els),hj,rfl,i,e,jj,c,hi,hjj,rfl⟩,by rw [hv1]; rfl⟩
    ·obtain ⟨v,hv1,hv2⟩:=hcell i e jj c hi hjj
     rw [hv1];exact hv2
theorem AwpT.mono {x:List AV} {ys:Array Value} {c:Code} {env:Env} {σ:St} {Q Q' : Exit->Env->St->Prop} (h:AwpT P N x ys c env σ Q) (hq:∀ e env σ,Q e env σ->Q' e env σ):AwpT P N x ys c env σ Q' :=
 fun F B w0 I0 pr r I D a w hF hR S hT=>Rd (fun e a' w' hp=>by
  obtain ⟨pr1,ms1,env1,σ1,r1,I1,D1,p1,m1,n1,d1,q1,s1,t1,z1⟩:=hp
  exact ⟨pr1,ms1,env1,σ1,r1,I1,D1,p1,m1,n1,d1,hq _ _ _ q1,s1,t1,z1⟩) (h F B w0 I0 pr r I D a w hF hR S hT)
theorem Zjt {x:List AV} {ys:Array Value} {c1 c2:Code} {env:Env} {σ:St} {Q:Exit->Env->St->Prop} (h:AwpT P N x ys c1 env σ (seqQ (fun env' σ'=>Awp P N c2 env' σ' Q) (fun _ _ _=>False))):AwpT P N x ys (.seq c1 c2) env σ Q:=by
 intro F B w0 I0 pr r I D a w hF hR S hT
 refine wpIn_seq (Rd (fun e a' w' hp=>?_) (h F B w0 I0 pr r I D a w hF hR S hT))
 obtain ⟨pr1,ms1,env1,σ1,r1,I1,D1,p1,m1,n1,d1,q1,s1,t1,z1⟩:=hp
 cases e with
 | normal =>
  refine Rd (fun e2 a2 w2 h2=>?_) (q1 F B w0 I0 pr1 r1 I1 D1 a' w' hF (hR.le p1) s1)
  obtain ⟨pr2,ms2,env2,σ2,r2,I2,D2,p2,m2,n2,d2,q2,s2,t2,z2⟩:=h2
  refine ⟨pr2,ms2++ms1,env2,σ2,r2,I2,D2,fun b o h=>p2 _ _ (p1 _ _ h),?_,?_,by rw [d2,d1,List.append_assoc],q2,s2,t1.trans t2,Qt z1 z2⟩
  ·intro d hd
   rcases List.mem_append.1 hd with h|h
   ·obtain ⟨b,g1,g2,g3⟩:=m2 d h
    exact ⟨b,g1,g2,Qt z1 g3⟩
   ·obtain ⟨b,g1,g2,g3⟩:=m1 d h
    exact ⟨b,g1,p2 _ _ g2,g3⟩
  ·refine List.pairwise_append.2 ⟨n2,n1,fun x hx y hy e=>?_⟩
   obtain ⟨b,g1,g2,g3⟩:=m2 x hx;obtain ⟨b',g1',g2',g3'⟩:=m1 y hy;have:=(Qo.1 (s1.hr.prot _ _ g2').1).1;rw [g1,g1'] at e;simp only [Pp] at e;omega
 | _=>exact q1.elim
theorem Zff {x:List AV} {ys:Array Value} {id:Nat} {c:Code} {env:Env} {σ:St} {Q:Exit->Env->St->Prop} (h:AwpT P N x ys c env σ (Zew id Q)):AwpT P N x ys (.block id c) env σ Q:=by
 intro F B w0 I0 pr r I D a w hF hR S hT
 refine wpIn_block (Rd (fun e a' w' h=>?_) (h F B w0 I0 pr r I D a w hF hR S hT))
 cases e with
 | exit id' =>
  by_cases hid:id'=id
  ·subst hid
   simp only [Od,if_true];exact h.mono fun _ _ q=>by simpa [Zew] using q
  ·simp only [Od,hid,if_false]
   exact h.mono fun _ _ q=>by
    have:Nat.beq id' id=false:=by rw [Bool.eq_false_iff]; intro hb; exact hid (Nat.eq_of_beq_eq_true hb)
    simpa [Zew,this] using q
 | normal=>exact h.mono fun _ _ q=>q
 | goto l=>exact h.mono fun _ _ q=>q
 | ret=>exact h.mono fun _ _ q=>q
 | panic ch=>exact h.mono fun _ _ q=>q
 | outgrown=>exact h.mono fun _ _ q=>q
def SubV (x0:AV) (y:Value):List AV->List AV->Prop
 | [],[]=>True
 | a::l,b::m=>(a=b\/((∃ s n c,a = .val s n c/\y = .slice s n c)/\b=x0))/\SubV x0 y l m
 | _,_=>False
theorem SubV.get {x0:AV} {y:Value}:∀ {l m:List AV},SubV x0 y l m->l.length=m.length/\∀ (i:Nat) (b:AV),m[i]?=some b->∃ a,l[i]?=some a/\(a=b\/((∃ s n c,a = .val s n c/\y = .slice s n c)/\b=x0))
 | [],[],_=>⟨rfl,fun i b h=>by simp at h⟩
 | a::l,b::m,h=>by
  obtain ⟨h1,h2⟩:=SubV.get h.2
  refine ⟨by simp [h1],fun i b' hi=>?_⟩
  cases i with
  | zero=>simp at hi; subst hi; exact ⟨a,rfl,h.1⟩
  | succ i=>simpa using h2 i b' (by simpa using hi)
 | [],_::_,h=>h.elim
 | _::_,[],h=>h.elim
inductive CtT (p:Prop):Prop
 | mk (h:p):CtT p
instance {p:Prop}:Stop (CtT p):=⟨trivial⟩
def Yey:List AV->Bool
 | []=>false
 | .val _ _ _::_=>true
 | _::l=>Yey l
def Zoi (env:Env) (o:Oper):Option (FuncId × List AV) :=
 match o.op with
 | .call { callee:=.value f,args,.. }=>match evA env f with
  | .func g c0 c1=>cond (Yey (Xf (evA env) args.toList)) (some (g,(c0++Xf (evA env) args.toList)++c1)) none
  | _=>none
 | _=>none
def Zth (P:Program) (cx:Cx) (N:Nat) (ops:List Oper) (x0:AV) (y:Value):List Oper->Env->St->(Env->St->Prop)->Prop
 | [],env,σ,K=>K env σ
 | o::rest,env,σ,K =>
  match o.guard with
  | some _=>False
  | none=>match Zoi env o with
   | some (g,aZ)=>CtT (∃ aZ' v',SubV x0 y aZ aZ'/\Yk aZ'=true/\Zrk P g aZ' v'/\Zu N o.dst v' env fun env'=>Zc3 cx N ops rest env' σ K)
   | none=>vcOp cx N o env σ fun env' σ'=>Zth P cx N ops x0 y rest env' σ' K
theorem Zit {cx:Cx} (hcx:CxOK P cx) {F:Fence} (hF:FOK F) (ops:List Oper) {x0:AV} {y:Value} {Q:Exit->Act->World->Prop} {K:Env->St->Prop}:∀ (l:List Oper),Yl l=true->∀ {r:Locs} {I:Imm} {D:Nat->Prop} {w:World} {env:Env} {σ:St} {a:Act},
  SR B w0 I0 pr N r I D env σ a w->TFr pr I w [x0] #[y]->Zth P cx N ops x0 y l env σ K->(∀ a' w',Leaves B w0 I0 pr N r I D w a.defers K a' w'->Q .normal a' w')->wpListIn F 0 P ops.toArray Q l a w
 | [],_,r,I,D,w,env,σ,a,S,hT,hvc,hq=>hq _ _ ⟨env,σ,r,I,D,hvc,S,rfl,Wa _ _ _ _⟩
 | o::rest,hd,r,I,D,w,env,σ,a,S,hT,hvc,hq=>by
  simp only [Yl,Qc] at hd
  obtain ⟨hd1,hd2⟩:=hd
  have ho:∀ c,o.op ≠ .defer c:=fun c e=>by rw [e] at hd1; simp at hd1
  simp only [Zth] at hvc
  cases hg:o.guard with
  | some _=>rw [hg] at hvc; exact hvc.elim
  | none =>
   rw [hg] at hvc;dsimp only at hvc;refine wpListIn_step fun K0 hK=>?_
   simp only [Region.wanted,hg,if_true]
   cases hcv:Zoi env o with
   | none =>
    rw [hcv] at hvc
    have:=Zch (Q:=Q) hcx hF o ho S hvc (next:=wpListIn F 0 P ops.toArray Q rest) (fun a' w' hl=>by
     obtain ⟨env2,σ2,r2,I2,D2,h1,h2,h3,h4⟩:=hl;refine Zit hcx hF ops rest hd2 h2 (hT.step S.hr h2.hr h4) h1 (fun a3 w3 hl3=>hq _ _ ?_);obtain ⟨env3,σ3,r3,I3,D3,g1,g2,g3,g4⟩:=hl3
     exact ⟨env3,σ3,r3,I3,D3,g1,g2,g3.trans h3,h4.trans g4⟩)
    exact ⟨this.1,Zc4 hK this.2⟩
   | some ga =>
    obtain ⟨g,aZ⟩:=ga;rw [hcv] at hvc;obtain ⟨aZ',v',hsub,hpure,⟨⟨fn,q1,q2,q3⟩,hcall⟩,hput⟩:=hvc.1;unfold Zoi at hcv;split at hcv
    ·rename_i f args ts hop
     split at hcv
     ·rename_i g' c0 c1 hf
      obtain ⟨_,hcv⟩:=Zf hcv;simp only [Qf,Rl] at hcv;obtain ⟨e1,e2⟩:=hcv;subst e1 e2;have hfv:=Xk S.er f;rw [hf] at hfv
      obtain ⟨v0,v1,hv,k0,k1⟩:∃ v0 v1,a.eval f = .func (.func g') v0 v1/\VRs r I w D c0 v0/\VRs r I w D c1 v1:=by
       generalize a.eval f=z at hfv
       cases hfv with
       | func _ _ _ _ v0 v1 h0 h1 g0 g1=>exact ⟨v0,v1,rfl,⟨h0,g0⟩,⟨h1,g1⟩⟩
      have hargs:=Xj (fun x=>Xk S.er x) args;have hvs:=(k0.append hargs).append k1;obtain ⟨T,hT1,hT2⟩:=hT;obtain ⟨hl,hsub⟩:=hsub.get
      have hvs' : VRs r0 (fun b o=>I b o\/T b o) w (fun _=>False) aZ' ((v0++args.map a.eval)++v1):=by
       refine ⟨hvs.1.trans hl,fun i c v hc hv'=>?_⟩;obtain ⟨a0,ha0,hor⟩:=hsub i c hc;have hv0:=hvs.2 i a0 v ha0 hv'
       rcases hor with rfl|⟨⟨s,n,c',rfl,rfl⟩,rfl⟩
       ·exact (hv0.pure (Vn hpure hc)).mono ⟨fun _ h=>h.elim,fun b o h=>⟨.inl h,rfl⟩,Qd _⟩
       ·cases hv0
        exact hT2.2 0 _ _ rfl rfl
      have hc:=Vy hF (hcall _ w _ (fun b o hi=>by
       rcases hi with hi|hi
       ·exact S.hr.imm b o hi
       ·obtain ⟨ob,hp⟩:=hT1 b o hi
        exact (Qo.1 (S.hr.prot b ob hp).1).1) hvs')
      have main:o.wpIn F 0 P a w (wpListIn F 0 P ops.toArray Q rest) Q:=by
       refine ⟨Uu hF o a w,?_⟩;rw [Oper.semAt_eq _ _ _ ho]
       have hrunE:(execOp a.eval o).run P w = .ok (.enter g' ((v0++args.map a.eval)++v1)) w:=by
        have:execOp a.eval o=(do let d <-resolve a.eval { callee:=.value f,args:=args,argTypes:=ts } o.type; invoke d.target d.args):=by
         unfold execOp; rw [hop]
        rw [this]
        have q2' : ¬ fn.name = "runtime.NumGoroutine" := by simpa using q2
        have q3' : ¬ fn.body=none:=by intro h; rw [h] at q3; simp at q3
        simp [resolve,hv,Wh,invoke,callFunc,q1,q2',q3']
       rw [hrunE];refine ⟨fun hd=>by rw [hF.depth] at hd; simp at hd,?_⟩;refine hc.mono fun e w' hh=>?_
       obtain ⟨x,I2,rfl,hbel,hfr,hval⟩:=hh;have hpp:PPost I w (fun b o=>I b o\/I2 b o) w' r0 ⟨v',[]⟩ x:=⟨hbel,fun _ _ h=>.inl h,fun b o h=>h.elim .inl fun h=>.inr (hfr b o h).1,fun b o h=>h.elim (fun h=>Rp (S.hr.imm b o h) hbel.size) fun h=>(hfr b o h).2,fun j p hj=>by simp at hj,fun j j' hj=>by simp at hj,hval.mono ⟨fun _ h=>h.elim,fun b o h=>⟨.inr h,rfl⟩,Qd _⟩⟩;obtain ⟨r2,D2,_,H2,S2,_⟩:=S.hr.call (k:=σ.next) (n':=σ.next) hpp (fun j hj=>by simp at hj) (Qd _) (by simp);have:Xn σ.get σ.next (PRes.mk v' []).blks=σ.get:=by funext i; simp only [Xn,List.getElem?_nil]; split<;>rfl
       rw [this] at H2;have hval2:VR r2 (fun b o=>I b o\/I2 b o) w' D2 v' x:=hval.mono ⟨fun _ h=>h.elim,fun b o h=>⟨.inr h,rfl⟩,Qd _⟩;have hl:=Zck (a:=a) (dst:=o.dst) (K:=fun e s=>Zc3 cx N ops rest e s K) (σ':=σ) H2 S.er S2 hval2 hput;obtain ⟨env2,σ2,r3,I3,D3,h1,h2,h3,h4⟩:=hl;refine Zc2 hcx hF ops rest hd2 h2 h1 (fun a3 w3 hl3=>hq _ _ ?_);obtain ⟨env3,σ3,r4,I4,D4,g1,g2,g3,g4⟩:=hl3;exact ⟨env3,σ3,r4,I4,D4,g1,g2,g3.trans h3,h4.trans g4⟩
      exact ⟨main.1,Zc4 hK main.2⟩
     ·cases hcv
    ·cases hcv
theorem Zdt {cx:Cx} (hcx:CxOK P cx) {id:Nat} {ops:Array Oper} {env:Env} {σ:St} {x0:AV} {y:Value} {K:Env->St->Prop} (hn:Yl ops.toList=true) (h:Zth P cx N ops.toList x0 y ops.toList env σ K):AwpT P N [x0] #[y] (.region id ops false) env σ (seqQ K fun _ _ _=>False):=by
 intro F B w0 I0 pr r I D a w hF hR S hT
 refine wpIn_region_list ?_
 refine Zit hcx hF ops.toList (Q:=Post B w0 I0 pr N r I D w a.defers (seqQ K fun _ _ _=>False)) ops.toList hn S hT h (fun a' w' hl=>?_)
 obtain ⟨env',σ',r',I',D',hk,S',hd,st⟩:=hl
 exact ⟨pr,[],env',σ',r',I',D',fun _ _ h=>h,fun d hd=>by simp at hd,.nil,by simpa using hd,hk,S',st,st.size⟩
theorem Zxn {S:Type} (Z:S->List (Nat × ABlk)) (n0:Nat) (n1:S->Nat) (G:List (List AV)->S->Prop) {ps:List Tmp} {a b:Code} {env:Env} {Q:Exit->Env->St->Prop}
  (step:∀ x xs s,G (x::xs) s->(x.length=ps.length/\x.all Ygm=true)/\∀ ys:Array Value,ys.size=x.length->SlV ys->Awp P N a (Zem ps (valL ys) env) ⟨Z s,n1 s⟩ fun e env1 σ1=>e = .normal/\AwpT P N x ys b env1 σ1 fun e _ σ2=>match e with
   | .normal=>Done (∃ s' fl,(okF n0 fl&&Zg7 n0 fl (Z s')&&imgF n0 fl&&Se n0 (n1 s'))=true/\RenH (fOf fl) (n1 s') σ2.get (Z s')/\G xs s')
   | .ret=>Q .ret env σ2
   | .exit id=>Q (.exit id) env σ2
   | _=>False)
  (fin:∀ s,G [] s->Q .normal env ⟨Z s,n1 s⟩):∀ (xs:List (List AV)) (s:S),G xs s->Zlt P N n0 ps a b env Q xs ⟨Z s,n1 s⟩
 | [],s,g=>fin s g
 | x::xs,s,g=>by
  obtain ⟨h1,h2⟩:=step x xs s g
  refine ⟨h1,fun ys hys hsl=>(h2 ys hys hsl).mono fun e env1 σ1 h=>⟨h.1,h.2.mono fun e2 env2 σ2 h=>?_⟩⟩
  cases e2 with
  | normal =>
   obtain ⟨s',fl,k1,k2,g'⟩:=h.1;exact ⟨⟨Z s',n1 s'⟩,.inr (Ren.of (env':=[]) fl k1 trivial k2),Zxn Z n0 n1 G step fin xs s' g'⟩
  | exit id=>exact h
  | goto l=>exact h
  | ret=>exact h
  | panic ch=>exact h
  | outgrown=>exact h
theorem rngT {f:Operand} {ps:Array Tmp} {x y:Code} {env:Env} {σ:St} {Q:Exit->Env->St->Prop} {g:FuncId} {c0 c1 d0 d1:List AV} {xs:List (List AV)} (h:Zrl P g d0 d1 xs) (hf:evA env f = .func g c0 c1) (h0:Zal σ.get c0=some (d0,[])) (h1:Zal σ.get c1=some (d1,[]))
  (hp:Vu N ps.toList=true) (hr:Zlt P N σ.next ps.toList x y env Q xs σ):Rg P N f ps x y env σ Q:=by
 refine ⟨fun F B w0 I0 pr r I D a w hF hR S=>?_⟩
 refine Zxo hF hR hf h hp S.hr S.er hr (fun v0 v1 hval=>?_)
 have hfv:=Xk S.er f
 rw [hf,hval] at hfv
 obtain ⟨k0,k1⟩:VRs r I w D c0 v0/\VRs r I w D c1 v1:=by
  cases hfv with
  | func _ _ _ _ v0 v1 h0 h1 g0 g1=>exact ⟨⟨h0,g0⟩,⟨h1,g1⟩⟩
 have m0:=Uh S.hr k0 h0
 have m1:=Uh S.hr k1 h1
 rw [Zgd] at m0 m1
 exact ⟨m0,m1⟩
theorem Zsd {T:Tab} (hT:TabOK P T) {g:FuncId} {fn:Func} {c:Code} (hf:P.funcs[g]?=some fn) (hfn:FnOK P g) (hb:fn.body=some c) {c0 c1:List AV} {xs:List (List AV)} (hle:Se (c0.length+1+c1.length) fn.ntmps=true)
  (hv:∀ (B:Nat) (Ig:Imm) (l:Nat) (JX:Zs->(Nat->Prop)->World->Prop),YEnv P B Ig l false JX->AwpY P fn.ntmps B Ig JX c (env0 0 ((c0++[Jc l])++c1)) ⟨[],0⟩ (some xs)
   (retY T fn.results.toList fun _ _ z=>Done (z=some []\/z=none))):Zrl P g c0 c1 xs:=by
 refine ⟨hfn,fun I W v0 v1 l J X hlt hv0 hv1 R J0=>?_⟩
 let JX:Zs->(Nat->Prop)->World->Prop:=fun z O w=>match z with
  | some zs=>∃ i,i<=xs.length/\xs.drop i=zs/\J i O w
  | none=>X O w
 have hI:YEnv P W.heap.size I l false JX:=by
  refine ⟨hlt,fun z O w w' hj hc=>?_,fun x zs O w ys I' _ hj hlo hup hvx=>?_⟩
  ·cases z with
   | none=>exact R.growX O w w' hj hc
   | some zs=>obtain ⟨i,h1,h2,h3⟩:=hj; exact ⟨i,h1,h2,R.grow i O w w' h3 hc⟩
  ·obtain ⟨i,h1,h2,h3⟩:=hj
   have hx:xs[i]?=some x:=by
    have:=congrArg (fun l=>l[0]?) h2;simpa [List.getElem?_drop] using this
   have hil:=(Qj.1 hx).1;obtain ⟨fn',tmps,assign,body,q1,q2⟩:=R.round i x O w ys I' hx h3 hlo hup hvx;refine ⟨fn',tmps,assign,body,q1,q2.mono fun e w' hh=>?_⟩;obtain ⟨b,p1,p2,p3,p4,p5,p6⟩:=hh;refine ⟨b,p1,p2,p3,p4,fun hb=>⟨i+1,hil,?_,p5 hb⟩,p6⟩;have:=congrArg List.tail h2;simpa using this
 have hargs:VRs r0 I W (fun _=>False) ((c0++[Jc l])++c1) ((v0 ++ #[Value.func (.yield l) #[] #[]])++v1) :=
  (hv0.append ⟨rfl,fun i c v hc hv'=>by
   cases i with
   | zero=>simp at hc hv'; subst hc; subst hv'; exact .yld _ _
   | succ i=>simp at hc⟩).append hv1
 have H:HR W.heap.size W I (prO W.heap.size (fun _=>False) W) r0 I (fun _=>False) (Pu ⟨[],0⟩) 0 W:=by
  refine ⟨Below.refl _ _,Qd _,hlt,fun _ h=>h.elim,fun id h=>by simp [Pu,hget,Tm] at h,fun id=>by simp [Pu,hget,BlkOK],fun id id' h=>by simp [Pu,hget,Tm] at h,fun b o hp=>?_,fun b o hp=>?_,fun _ _ h=>.inl h⟩
  ·obtain ⟨h1,_,h2⟩:=hp
   have:=(Qo.1 h2).1;omega
  ·obtain ⟨h1,_,h2⟩:=hp
   have:=(Qo.1 h2).1;omega
 have hlen:((c0++[Jc l])++c1).length=c0.length+1+c1.length:=by simp; omega
 refine (Zra hT hf hb (by rw [hlen]; exact hle) (hv _ _ _ _ hI) r0 (fun _=>False) I (fun _=>False) W _ H (fun b hb=>hb.elim) (fun _ _ h=>h) (fun _ _ h=>.inl h) ⟨0,Qn _,rfl,J0⟩ hargs).mono fun e w' hh=>?_
 obtain ⟨x,v,σ',z',r',D',I',O',he,hk,_,_,_,_,hj,_,_⟩:=hh
 refine ⟨x,he,?_⟩
 rcases hk.1 with rfl|rfl
 ·obtain ⟨i,q1,q2,q3⟩:=hj
  have:i=xs.length:=by
   have:=congrArg List.length q2;simp at this; omega
  subst this
  exact .inl ⟨O',q3⟩
 ·exact .inr ⟨O',hj⟩
theorem Base.titer (Bs:Base P) {pc:PC} (hpc:PCOK P pc) {g:FuncId} {fn:Func} {c:Code} (hf:P.funcs[g]?=some fn) (h1:(fn.name == "runtime.NumGoroutine")=false) (hb:fn.body=some c) {c0 c1:List AV} {xs:List (List AV)} (hle:Se (c0.length+1+c1.length) fn.ntmps=true) {sx:FuncId->Bool}
  (hv:∀ (B:Nat) (Ig:Imm) (l:Nat) (JX:Zs->(Nat->Prop)->World->Prop),YEnv P B Ig l false JX->Bs.ycode pc fn.ntmps B l false sx Ig JX c (env0 0 ((c0++[Jc l])++c1)) ⟨[],0⟩ (some xs) (retY Bs.T fn.results.toList fun _ _ z=>Done (z=some []\/z=none))):Zrl P g c0 c1 xs :=
 Zsd Bs.hT hf (FnOK.of hf h1 (by rw [hb]; rfl)) hb hle (fun B Ig l JX hI=>Bs.yv hpc hI (hv B Ig l JX hI))
theorem Base.ysv (Bs:Base P) {Ig:Imm} {l:Nat} {sc:Bool} {JX:Zs->(Nat->Prop)->World->Prop} {pc:PC} (hpc:PCOK P pc) (hI:YEnv P B Ig l sc JX) {sx:FuncId->Bool} {f:FuncId} {fn:Func} {c:Code} (hf:P.funcs[f]?=some fn) (h1:(fn.name == "runtime.NumGoroutine")=false) (hb:fn.body=some c) {args:List AV} (hle:Se args.length fn.ntmps=true) {σ:St} {z:Zs} {K:AV->St->Zs->Prop}
  (hv:Bs.ycode pc fn.ntmps B l sc sx Ig JX c (env0 0 args) σ z (retY Bs.T fn.results.toList K)):YCt P B Ig JX f args σ z K :=
 ⟨FnOK.of hf h1 (by rw [hb]; rfl),Zra Bs.hT hf hb hle (Bs.yv hpc hI hv)⟩
variable {P:Program}
theorem PCall.frzFns {f:FuncId} {args:List AV} {g:FuncId} {rows:List (Nat × List AV)} {ks:List (Nat × List AV)} (hk:∀ q∈ks,∃ es,rows[q.1]?=some (es,q.2)) (h:PCall P f args ⟨.func g [] (ks.map fun q=>.ptr q.1 0 0),rows.map fun q=>(q.1,[q.2])⟩):PCall P f args ⟨.func g [] (ks.map fun q=>.ipt q.2),[]⟩:=by
 refine ⟨h.1,fun I w vs hI hv=>(h.2 I w vs hI hv).mono fun e w' hh=>?_⟩
 obtain ⟨x,r',I',rfl,hp⟩:=hh
 have hrow:∀ (k es:Nat) (cells:List AV),rows[k]?=some (es,cells)->(rows.map fun q=>(q.1,[q.2]))[k]?=some (es,[cells]):=fun k es cells h=>by simp [h]
 have hval:=hp.val
 cases hval with
 | func _ _ _ _ v0 v1 h0 h1 g0 g1 =>
  let I2:Imm:=fun b o=>I' b o\/∃ (k es:Nat) (cells:List AV),rows[k]?=some (es,cells)/\b=(r' k).blk/\∃ (j:Nat) (c:AV),cells[j]?=some c/\o=(r' k).off+j
  have himm:∀ b o,I' b o->I2 b o:=fun b o h=>.inl h
  refine ⟨_,r',I2,rfl,hp.below,fun b o h=>.inl (hp.immL b o h),fun b o h=>?_,fun b o h=>?_,fun j p hj=>by simp at hj,fun j j' h1=>by simp at h1,?_⟩
  ·rcases h with h|⟨k,es,cells,hr,rfl,_⟩
   ·exact hp.immN b o h
   ·exact .inr (hp.rows k (es,[cells]) (hrow _ _ _ hr)).1
  ·rcases h with h|⟨k,es,cells,hr,rfl,_⟩
   ·exact hp.immS b o h
   ·exact (hp.rows k (es,[cells]) (hrow _ _ _ hr)).2.1
  ·refine .func _ _ _ _ _ _ h0 (by rw [h1]; simp) (fun i c v hc _=>by simp at hc) (fun i c v hc hx=>?_)
   rw [Rq,Option.map_eq_some_iff] at hc;obtain ⟨⟨k,cells⟩,hq,rfl⟩:=hc;obtain ⟨es,hr⟩:=hk _ (List.mem_of_getElem? hq);obtain ⟨hb1,hb2,⟨he1,he2⟩,hcap,hlen,cs,T,fz,hcells,hsz,hel,hmt,_⟩:=hp.rows k (es,[cells]) (hrow _ _ _ hr);dsimp only at he1 he2 hcap hlen hsz hel;have hv1:=g1 i (.ptr k 0 0) v (by rw [Rq,hq]; rfl) hx
   cases hv1 with
   | ptr _ _ _ _ hd =>
    have e:(r' k).off+0*(r' k).es+0=(r' k).off:=by simp
    rw [e]
    have hcell:∀ (j:Nat) (c:AV),cells[j]?=some c->∃ v,w'.cell? ⟨(r' k).blk,(r' k).off+j,none⟩=some v/\VR r' I2 w' (fun _=>False) c v:=by
     intro j c hj;obtain ⟨v,hv1,hv2⟩:=hel 0 cells j c rfl hj;refine ⟨v,?_,hv2.mono ⟨fun _ h=>h.2.elim,fun b o h=>⟨himm b o h,rfl⟩,Qd _⟩⟩;simp only [Jj,Pm] at hv1;simp [Wj,hcells,hv1]
    refine .ipt _ _ _ _ (fun j=>(w'.cell? ⟨(r' k).blk,(r' k).off+j,none⟩).getD undef) (fun j c hj=>?_) (fun j c hj=>?_)
    ·obtain ⟨v,hv1,_⟩:=hcell j c hj
     exact ⟨.inr ⟨k,es,cells,hr,rfl,j,c,hj,rfl⟩,by rw [hv1]; rfl⟩
    ·obtain ⟨v,hv1,hv2⟩:=hcell j c hj
     rw [hv1];exact hv2
open Go
def Dn {α:Type} (d:Nat):Result α->Prop
 | .ok _ w=>d<=w.drawn
 | .halt _ w=>d<=w.drawn
theorem Zlo {α:Type}:∀ (a:Ask α) (w:World),w.drawn<=(w.ask a).2.drawn
 | .done a,w=>Qd _
 | .ask what range k,w=>by
  simp only [World.ask]
  split
  ·exact Zlo _ _
  ·exact Qt (Mi _) (Zlo _ { w with drawn:=w.drawn+1 })
theorem Zxa (w:World) (c:Sys):w.drawn<=(w.sys c).2.drawn:=by
 unfold World.sys
 have h:=Zlo (Qby c w.os) w
 generalize w.ask (Qby c w.os)=r at h ⊢
 obtain ⟨⟨r,os⟩,w'⟩:=r
 cases r<;>first|exact h|exact Qd _
theorem Zj1 {P:Program} {w w' : World} {at_ k:Addr} {u:TypeId} {v:Value} {b:Bool} {l:List Addr} (h:w.viewStore P at_ u k v b = .ok (w',l)):w'.drawn=w.drawn:=by
 unfold World.viewStore at h
 simp only [bind,Except.bind,pure,Except.pure,throw,throwThe,MonadExceptOf.throw] at h
 repeat' first
  | (cases h; done)
  | (cases h; rfl; done)
  | split at h
theorem Zl4 {P:Program} {w w' : World} {a:Addr} {v:Value} {b:Bool} {l:List Addr} (h:w.farStore P a v b = .ok (w',l)):w'.drawn=w.drawn:=by
 unfold World.farStore at h
 split at h
 ·split at h
  ·rename_i r hr
   cases h;exact Zj1 hr
  ·cases h
 ·cases h
theorem Dn.le {α:Type} {d d' : Nat} {r:Result α} (h:Dn d r) (hd:d'<=d):Dn d' r:=by
 cases r with
 | ok a w=>exact Qt hd h
 | halt a w=>exact Qt hd h
theorem Zbe {α:Type} (P:Program) (s:Sem α):∀ w:World,Dn w.drawn (s.run P w):=by
 induction s with
 | pure a=>intro w; exact Qd _
 | load m a k ih =>
  intro w
  simp only [Jk]
  split
  ·exact ih _ _
  ·split
   ·exact ih _ _
   ·exact Qd _
 | store m a v k ih =>
  intro w
  have key:Dn w.drawn (match w.cell? a with
   | some _=>if w.frozen? a then .halt (.unsupported (.unsafePointer "a write to bytes that a string shares")) w else k.run P (w.setCell a v)
   | none=>match w.farStore P a v (m == .atomic) with
    | .ok (w,_)=>k.run P w
    | .error h=>.halt h w):=by
   split
   ·split
    ·exact Qd _
    ·exact ih (w.setCell a v)
   ·split
    ·rename_i w2 _ hf
     exact (ih w2).le (by rw [Zl4 hf]; exact Qd _)
    ·exact Qd _
  cases v<;>first|exact key|exact Qd _
 | new o k ih=>intro w; exact ih _ { w with heap:=w.heap.push o }
 | shape r k ih=>intro w; exact ih _ _
 | freeze a n k ih =>
  intro w
  refine (ih (w.freeze a n)).le ?_
  unfold World.freeze
  split<;>exact Qd _
 | frozen a k ih=>intro w; exact ih _ _
 | getObj r k ih =>
  intro w
  simp only [Jk]
  split
  ·exact Qd _
  ·exact ih _ _
  ·exact Qd _
 | setObj r o k ih =>
  intro w
  simp only [Jk]
  split
  ·exact Qd _
  ·exact ih { w with heap:=w.heap.setIfInBounds r o }
  ·exact Qd _
 | choose q k ih =>
  intro w
  simp only [Jk]
  split
  ·exact ih _ _
  ·exact (ih _ { w with drawn:=w.drawn+1 }).le (Mi _)
 | sys c k ih=>intro w; exact (ih _ _).le (Zxa w c)
 | program k ih=>intro w; exact ih _ _
 | mark m k ih=>intro w; exact ih _
 | halt h=>intro w; exact Qd _
theorem Ua {α:Type} (P:Program) (s:Sem α) (w:World) (es:Array Event):Dn w.drawn (s.runT P w es).1:=by
 rw [Sem.runT_fst]; exact Zbe P s w
theorem Zr3 {α:Type} {P:Program} {s:Sem α} {w:World} {es:Array Event} {r:Result α} {es' : Array Event} (e:s.runT P w es=(r,es')):Dn w.drawn r:=by
 have:=Ua P s w es; rw [e] at this; exact this
theorem Ydu {α:Type} {P:Program} {s:Sem α} {w w' : World} {a:α} (e:s.run P w = .ok a w'):w.drawn<=w'.drawn:=by
 have:=Zbe P s w; rw [e] at this; exact this
theorem Yy {α:Type} {P:Program} {s:Sem α} {w:World} {r:Result α} (e:s.run P w=r):Dn w.drawn r:=by
 rw [<-e]; exact Zbe P s w
theorem Zke {α:Type} {P:Program} {s:Sem α} {w:World} {es:Array Event} {r:Result α} (e:(s.runT P w es).1=r):Dn w.drawn r:=by
 rw [<-e]; exact Ua P s w es
def GDn (d:Nat):GStep->Prop
 | .go _ w _=>d<=w.drawn
 | .comm _ _ _ _ w _=>d<=w.drawn
 | .spawn _ _ w _=>d<=w.drawn
 | .count _ w _=>d<=w.drawn
 | .timer _ _ w _=>d<=w.drawn
 | .alone _ _ w _=>d<=w.drawn
 | .newcoro _ _ _ w _=>d<=w.drawn
 | .coroswitch _ _ _ w _=>d<=w.drawn
 | .collect _ w _=>d<=w.drawn
 | .watch _ w _=>d<=w.drawn
 | .ended _ _ _=>True
theorem GDn.after {d:Nat} {s:GStep} (h:GDn d s) (es:Array Event):GDn d (s.after es):=by cases s<;>exact h
theorem GDn.le {d d' : Nat} {s:GStep} (h:GDn d s) (hd:d'<=d):GDn d' s:=by cases s<;>first|exact Qt hd h|trivial
theorem Zay {d:Nat} {c:Prop} [Decidable c] {a b:GStep} (ha:c->GDn d a) (hb:¬ c->GDn d b):GDn d (if c then a else b):=by
 split
 ·exact ha ‹_›
 ·exact hb ‹_›
theorem Zaj (fr:Frame) (m:String) (w:World):GDn w.drawn (endThrow fr m w):=Qd _
theorem Zcy (P:Program) (fr:Frame) (v:Value) (w:World):GDn w.drawn (endPrinting P fr v w):=by
 unfold endPrinting
 dsimp only
 split
 ·exact Zaj _ _ _
 ·trivial
theorem Zoc (w:World) (fd:Nat) (t:ByteArray) (o:Outcome) (d:Nat):GDn d (endWith w fd t o):=by
 unfold endWith
 dsimp only
 repeat' split
 all_goals trivial
theorem Zfy (P:Program) (fr:Frame) (cs:List Frame) (dy:Option Dying) (m:String) (w:World):GDn w.drawn (endFatal P fr cs dy m w):=by
 unfold endFatal
 extract_lets
 rename_i shown
 have h:=Zbe P shown w
 generalize shown.run P w=r at h ⊢
 cases r with
 | ok a w'=>exact h
 | halt a w'=>cases a<;>trivial
theorem Znf (P:Program) (fr:Frame) (d:Dying) (f:Fatal) (w:World):GDn w.drawn (writeOn P fr d f w):=by
 unfold writeOn
 extract_lets
 split
 ·trivial
 ·dsimp only
  split
  all_goals first
   | trivial
   | (rename_i e; exact Zr3 e)
theorem Zzz (P:Program) (fr:Frame) (d:Dying) (w:World):GDn w.drawn (die P fr d w):=by
 unfold die
 split
 ·exact Znf _ _ _ _ _
 ·split
  ·split
   ·exact Qd _
   ·exact Zoc _ _ _ _ _
  ·dsimp only
   split
   ·exact Qd _
   ·rename_i s _
    have h:=Zbe P (withAddress s) w;generalize (withAddress s).run P w=r at h ⊢
    cases r with
    | ok a w'=>exact h
    | halt a w'=>trivial
   ·rename_i t recv name _
    have h:=Ua P (invoke (.fn (.method name) #[]) #[.iface t recv]) w #[];generalize (invoke (.fn (.method name) #[]) #[.iface t recv]).runT P w #[]=r at h ⊢;obtain ⟨r,es⟩:=r;refine GDn.after ?_ _;dsimp only at h ⊢
    cases r with
    | ok a w' =>
     repeat' split
     all_goals first
      | (rename_i e; cases e; exact h)
      | trivial
      | (rename_i e; cases e)
    | halt a w' =>
     cases a
     all_goals first
      | trivial
      | exact (Zcy P fr _ w').le h
   ·trivial
theorem Zcf (P:Program) (main:Bool) (fr:Frame) (cs:List Frame) (dy:Option Dying) (v:Value) (w:World):GDn w.drawn (doReturn P main fr cs dy v w):=by
 unfold doReturn
 repeat' split
 all_goals first
  | exact Qd _
  | trivial
theorem Zhu (P:Program) (fr:Frame) (cs:List Frame) (dy:Option Dying) (d:Deferred) (w:World):GDn w.drawn (callDeferred P fr cs dy d w):=by
 unfold callDeferred
 refine Zay (fun _=>trivial) (fun _=>?_)
 ·have h:=Ua P (invoke d.target d.args) w #[]
  generalize (invoke d.target d.args).runT P w #[]=r at h ⊢
  obtain ⟨r,es⟩:=r
  refine GDn.after ?_ _
  dsimp only at h ⊢
  cases r with
  | ok a w' =>
   have h:w.drawn<=w'.drawn:=h
   cases a with
   | coroswitch c e=>cases e<;>first|exact h|trivial
   | alone e v=>cases e<;>first|exact h|trivial
   | recover =>
    dsimp only;split<;>exact h
   | _=>first|exact h|trivial
  | halt a w' =>
   have h:w.drawn<=w'.drawn:=h;cases a
   all_goals first
    | exact h
    | trivial
    | exact (Zfy P _ _ _ _ w').le h
    | exact (Zaj _ _ w').le h
theorem Zou (P:Program) (main:Bool) (fr:Frame) (cs:List Frame) (dy:Option Dying) (w:World):GDn w.drawn (unwind P main fr cs dy w):=by
 unfold unwind
 split
 ·rename_i block _ _ _
  have h:=Ua P (Lm block) w #[]
  generalize (Lm block).runT P w #[]=r at h ⊢
  obtain ⟨r,es⟩:=r
  refine GDn.after ?_ _
  cases r with
  | ok a w'=>exact h
  | halt a w'=>trivial
 ·exact Zhu _ _ _ _ _ _
 ·split
  ·trivial
  ·refine Zay (fun _=>trivial) (fun _=>?_)
   split
   ·exact Qd _
   ·split
    ·refine Zay (fun _=>Qd _) (fun _=>?_)
     split
     all_goals first
      | trivial
      | (rename_i e; exact Yy e)
    ·split
     ·exact Zcy _ _ _ _
     ·trivial
  ·split
   ·exact Zcf _ _ _ _ _ _ _
   ·rename_i fn _
    have h:=Ua P (results fn fr.tmps) w #[];generalize (results fn fr.tmps).runT P w #[]=r at h ⊢;obtain ⟨r,es⟩:=r;refine GDn.after ?_ _
    cases r with
    | ok a w'=>exact (Zcf _ _ _ _ _ _ w').le h
    | halt a w'=>cases a<;>trivial
theorem Zsv (P:Program) (fr:Frame) (cs:List Frame) (dy:Option Dying) (g:Nat) (w:World):GDn w.drawn (early P fr cs dy g w):=by
 have hn:∀ w' : World,w.drawn<=w'.drawn->GDn w.drawn (match w'.heap[g]? with
  | some (.pending c elem)=>.go { frame:=fr,callers:=cs,status:=.running,dying:=dy } { w' with heap:=w'.heap.setIfInBounds g (.cells c elem) }
  | _=>.ended (.stuck "early: the variable does not wait" (fr.pos P)) w'):=by
  intro w' h
  split
  ·exact h
  ·trivial
 unfold early
 dsimp only
 refine Zay (fun _=>hn w (Qd _)) (fun _=>?_)
 split
 ·trivial
 ·refine Zay (fun _=>hn w (Qd _)) (fun _=>?_)
  refine Zay (fun _=>hn w (Qd _)) (fun _=>?_)
  split
  ·trivial
  ·exact Qd _
  ·trivial
  ·exact hn w (Qd _)
  ·refine Zay (fun _=>Qd _) (fun _=>?_)
   refine Zay (fun _=>hn w (Qd _)) (fun _=>?_);have h:=Zbe P (choose (.early g)) w;generalize (choose (.early g)).run P w=r at h ⊢
   cases r with
   | ok a w' =>
    cases a with
    | zero=>exact hn w' h
    | succ a=>exact h
   | halt a w'=>trivial
theorem Zdu (P:Program) (listen:Bool) (fr:Frame) (cs:List Frame) (dy:Option Dying) (s:Sem Next) (w:World):GDn w.drawn (stepG.apply P listen fr cs dy s w):=by
 unfold stepG.apply
 have h:Dn w.drawn (if listen then s.runT P w #[] else (s.run P w,#[])).1:=by
  cases listen
  ·exact Zbe P s w
  ·exact Ua P s w #[]
 generalize (if listen then s.runT P w #[] else (s.run P w,#[]))=r at h ⊢
 obtain ⟨r,es⟩:=r
 refine GDn.after ?_ _
 cases r with
 | ok a w' =>
  have h:w.drawn<=w'.drawn:=h
  cases a with
  | callThen d resume saved wrapper=>dsimp only; split<;>exact h
  | row r args=>dsimp only; split<;>exact h
  | stack r saved=>dsimp only; split<;>exact h
  | recover=>dsimp only; split<;>exact h
  | spawn d=>exact Zay (fun _=>(Zaj _ _ w').le h) (fun _=>h)
  | _=>first|exact h|trivial
 | halt a w' =>
  have h:w.drawn<=w'.drawn:=h
  cases a with
  | unsupported u =>
   cases u<;>first|trivial|exact (Zsv P _ _ _ _ w').le h
  | fatal m=>exact (Zfy P _ _ _ _ w').le h
  | throw m=>exact (Zaj _ _ w').le h
  | _=>first|exact h|trivial
theorem Zv0 (P:Program) (listen:Bool) (fr:Frame) (cs:List Frame) (dy:Option Dying) (w:World):GDn w.drawn (stepG.oper P listen fr cs dy w):=by
 unfold stepG.oper
 split
 ·trivial
 ·split<;>exact Zdu _ _ _ _ _ _ _
theorem Zwj (P:Program) (main listen:Bool) (fr:Frame) (cs:List Frame) (dy:Option Dying) (w:World):GDn w.drawn (stepG.exec P main listen fr cs dy w):=by
 have hl:∀ (jump:Option Code),GDn w.drawn (match fr.roundOf with
   | none=>if jump matches none|some .ret then .go { frame:={ fr with mode:=.returning },callers:=cs,status:=.running,dying:=dy } w else .ended (.stuck "exit, goto: no such block or label" (fr.pos P)) w
   | some l =>
    let (r,es):=(Nk l jump).runT P w #[]
    GStep.after (seen P fr.fn es) <| match r with
    | .ok v w=>doReturn P main fr cs dy v w
    | .halt _ w=>.ended (.stuck "range over a function: no such loop" (fr.pos P)) w):=by
  intro jump
  split
  ·exact Zay (fun _=>Qd _) (fun _=>trivial)
  ·rename_i l _
   have h:=Ua P (Nk l jump) w #[];generalize (Nk l jump).runT P w #[]=r at h ⊢;obtain ⟨r,es⟩:=r;refine GDn.after ?_ _
   cases r with
   | ok a w'=>exact (Zcf _ _ _ _ _ _ w').le h
   | halt a w'=>trivial
 unfold stepG.exec
 dsimp only
 split
 all_goals first
  | exact hl none
  | exact hl (some .ret)
  | exact Qd _
  | trivial
  | exact Zdu _ _ _ _ _ _ _
  | skip
 ·split<;>first|exact Qd _|trivial
 ·rename_i id k _
  cases exitTo id k with
  | none=>exact hl (some (.exit id))
  | some k=>exact Qd _
 ·rename_i id k _
  cases gotoIn id k with
  | none=>exact hl (some (.goto id))
  | some k=>exact Qd _
 ·refine GDn.after ?_ _
  split
  ·rename_i e; exact (Zdu _ _ _ _ _ _ _).le (Zke e)
  ·trivial
 ·refine GDn.after ?_ _
  split
  all_goals first
   | trivial
   | (rename_i e; exact Zke e)
 ·rename_i row _ _ _
  cases Extern.next row with
  | none=>trivial
  | some e=>exact Zdu _ _ _ _ _ _ _
 ·refine Zay (fun _=>Qd _) (fun _=>?_)
  split
  ·rename_i e; exact Yy e
  ·trivial
 ·exact Zay (fun _=>Zv0 _ _ _ _ _ _) (fun _=>Qd _)
theorem Zry (P:Program) (main:Bool) (g:Goroutine) (w:World) (listen:Bool):GDn w.drawn (stepG P main g w listen):=by
 unfold stepG
 split
 rename_i fr cs _ dy _
 split
 ·exact Zzz _ _ _ _
 ·exact Zwj _ _ _ _ _ _ _
 ·exact Zou _ _ _ _ _ _
def MDn (d:Nat):Stepped->Prop
 | .next m=>d<=m.world.drawn
 | .ended _ _=>True
theorem Zip (P:Program) (rest:Rest) (gs:Array Goroutine) (i:Nat) (g:Goroutine) (cases_:Array CommCase) (blocking:Bool) (shape:CommShape) (w:World):MDn w.drawn (communicate P rest gs i g cases_ blocking shape w).1:=by
 unfold communicate
 dsimp only
 split
 ·trivial
 ·split
  ·split
   ·split
    ·rename_i w' e
     unfold waitingAt at e;split at e
     ·split at e
      ·cases e; exact Qd _
      ·cases e
     ·cases e; exact Qd _
    ·trivial
   ·exact Qd _
  ·split
   ·trivial
   ·rename_i k c way w' e
    have h:w.drawn<=w'.drawn:=Yy e;split
    ·split
     ·rename_i e2
      exact Qt h (Yy e2)
     ·trivial
    ·exact h
    ·exact h
    ·split
     ·exact h
     ·split
      ·rename_i e2
       exact Qt h (Yy e2)
      ·trivial
    ·exact h
    ·exact h
    ·trivial
theorem Zmu (P:Program) (gs:Array Goroutine) (rest:Rest) (w:World):MDn w.drawn (Qcw P gs rest w):=by
 unfold Qcw
 dsimp only
 split
 ·split
  ·trivial
  ·split
   ·trivial
   ·split
    ·rename_i e
     exact Yy e
    all_goals trivial
 ·trivial
theorem Zsz (w:World) (c:Nat):(drain w c).2.drawn=w.drawn:=by
 unfold drain
 split<;>rfl
theorem Ziy (m:Machine) (k:Nat) (t:Timer) (a b:Nat):(retime m k t a b).2.world.drawn=m.world.drawn:=by
 unfold retime
 dsimp only
 split
 ·exact Zsz _ _
 ·rfl
theorem Zkq {m:Machine} {var:Addr} {f:Nat->Timer->Value × Machine} {v:Value} {m' : Machine} (hf:∀ k t,(f k t).2.world.drawn=m.world.drawn) (e:timerOp.named m var f = .ok (v,m')):m'.world.drawn=m.world.drawn:=by
 unfold timerOp.named at e
 split at e
 ·rename_i k _
  have h:=hf k (m.rest.timers.getD k default)
  rw [Except.ok.inj e] at h
  exact h
 ·cases e
theorem Znk {m m' : Machine} {op:TimerOp} {v:Value} (e:timerOp m op = .ok (v,m')):m'.world.drawn=m.world.drawn:=by
 unfold timerOp at e
 split at e
 ·split at e
  ·cases e; rfl
  ·split at e
   ·split at e
    ·cases e
    ·cases e; rfl
   ·cases e
 ·exact Zkq (fun k t=>Ziy _ _ _ _ _) e
 ·split at e
  ·rename_i m2 hm
   have h2:m2.world.drawn=m.world.drawn:=by
    unfold timerOp.opened at hm;split at hm
    ·split at hm
     ·cases hm; rfl
     ·cases hm
    ·cases hm; rfl
   exact Zkq (fun k t=>(Ziy _ _ _ _ _).trans h2) e
  ·cases e
 ·cases e; rfl
theorem Zgw (P:Program) (m:Machine) (i:Nat) (b:Bool):MDn m.world.drawn (runT P m i b).1:=by
 unfold runT
 dsimp only
 generalize m.gs.swapAt! i { (default:Goroutine) with status:=.finished }=gg
 obtain ⟨g,gs⟩:=gg
 dsimp only
 have h:=Zry P (i==0) g m.world b
 generalize stepG P (i==0) g m.world b=s at h ⊢
 cases s with
 | ended o w es=>trivial
 | comm g2 c bl sh w es =>
  have h:m.world.drawn<=w.drawn:=h
  have:=Zip P m.rest gs i g2 c bl sh w
  dsimp only
  generalize communicate P m.rest gs i g2 c bl sh w=r at this ⊢
  obtain ⟨r,more⟩:=r
  cases r with
  | next m2=>exact Qt h this
  | ended o w=>trivial
 | go g2 w es=>exact h
 | spawn g2 c w es=>exact h
 | count g2 w es =>
  dsimp only
  split
  ·trivial
  ·exact h
 | alone g2 on w es=>exact h
 | collect g2 w es =>
  have h:m.world.drawn<=w.drawn:=h
  have:=Zmu P (gs.setIfInBounds i g2) m.rest w
  dsimp only
  generalize Qcw P (gs.setIfInBounds i g2) m.rest w=r at this ⊢
  cases r with
  | next m2=>exact Qt h this
  | ended o w=>trivial
 | watch g2 w es=>exact h
 | newcoro g2 c d w es=>exact h
 | coroswitch g2 c ex w es =>
  have h:m.world.drawn<=w.drawn:=h
  dsimp only
  split
  ·exact h
  ·exact h
  ·trivial
 | timer g2 op w es =>
  have h:m.world.drawn<=w.drawn:=h
  dsimp only
  split
  ·rename_i e
   have:=Znk e
   show m.world.drawn<=_
   rw [this];exact h
  ·exact h
  ·trivial
  ·trivial
theorem Zr2 (P:Program) (m:Machine) (k:Nat):MDn m.world.drawn (serve P m k):=by
 unfold serve
 split
 ·trivial
 ·exact Qd _
 ·dsimp only
  split
  ·trivial
  ·exact Qd _
def VDn (d:Nat):Move->Prop
 | .goroutine m _=>d<=m.world.drawn
 | .machine s _=>MDn d s
theorem MDn.le {d d' : Nat} {s:Stepped} (h:MDn d s) (hd:d'<=d):MDn d' s:=by cases s<;>first|exact Qt hd h|trivial
theorem VDn.le {d d' : Nat} {s:Move} (h:VDn d s) (hd:d'<=d):VDn d' s:=by cases s<;>first|exact Qt hd h|exact MDn.le h hd
theorem Zic (P:Program) (m:Machine) (rs:List Nat) (d:Nat) (hd:d<=m.world.drawn):VDn d (match (choose (.sched rs.length)).run P m.world with
   | .halt _ w=>.machine (.ended (.stuck "sched" "") w)
   | .ok k world =>
    if rs.length<=1 then .goroutine { m with world } (rs.getD k 0) else
    match (choose (.extern "sched.slice" 65536)).run P world with
    | .halt _ w=>.machine (.ended (.stuck "sched.slice" "") w)
    | .ok n world=>.goroutine { m with world,rest:={ m.rest with slice:=if n=0 then none else some (rs.getD k 0,n) } } (rs.getD k 0)):=by
 split
 ·trivial
 ·rename_i e
  have h:=Yy e
  split
  ·exact Qt hd h
  ·split
   ·trivial
   ·rename_i e2
    exact Qt hd (Qt h (Yy e2))
theorem Zgm (P:Program) (m:Machine):VDn m.world.drawn (askOn P m):=by
 unfold askOn
 dsimp only
 split
 ·trivial
 ·rename_i k w e
  have h:m.world.drawn<=w.drawn:=Yy e
  split
  ·exact (Zr2 P { m with world:=w } _).le h
  ·split
   ·split
    ·exact h
    ·split
     ·exact h
     ·split
      ·trivial
      ·trivial
   ·split
    ·exact Zic P { m with world:=w } _ _ h
    ·split
     ·trivial
     ·rename_i w2 e2
      exact Zic P { m with world:=w2 } _ _ (Qt h (Yy e2))
     ·rename_i w2 e2
      exact Qt h (Yy e2)
     ·rename_i w2 e2
      have q:w.drawn<=w2.drawn:=Ydu e2;exact Zic P ({ m with world:=w2 }.advanceTo _) _ _ (Qt h q)
theorem Zc1 (P:Program) (m:Machine):VDn m.world.drawn (ask P m):=by
 unfold ask
 split
 ·split
  ·trivial
  ·rename_i w e
   have h:m.world.drawn<=w.drawn:=Yy e;have h2:=Zmu P m.gs m.rest w;generalize Qcw P m.gs m.rest w=r at h2 ⊢
   cases r with
   | next m2=>exact (Zgm P m2).le (Qt h h2)
   | ended o w=>trivial
  ·exact (Zgm P _).le (Ydu (by assumption))
 ·exact Zgm P m
theorem Zv1 (P:Program) (m:Machine):VDn m.world.drawn (move P m):=by
 unfold move
 split
 ·split
  ·exact Qd _
  ·trivial
 ·split
  ·split
   ·exact Qd _
   ·exact Zc1 P { m with rest:={ m.rest with slice:=none } }
  ·exact Zc1 P m
theorem Zvo {P:Program} {m m' : Machine} (h:step P m = .next m'):m.world.drawn<=m'.world.drawn:=by
 unfold step stepT at h
 have hm:=Zv1 P m
 generalize move P m=v at h hm
 cases v with
 | goroutine m2 i =>
  dsimp only at h
  have h2:=Zgw P m2 i true
  rw [h] at h2
  exact Qt hm h2
 | machine s ops =>
  dsimp only at h
  subst h
  exact hm
theorem Zrx {P:Program} {m m' : Machine} (h:Steps P m m'):m.world.drawn<=m'.world.drawn:=by
 obtain ⟨n,h⟩:=h
 induction n generalizing m with
 | zero=>cases h; exact Qd _
 | succ n ih =>
  rw [runN] at h
  split at h
  ·rename_i m2 e
   exact Qt (Zvo e) (ih h)
  ·rename_i e
   exact absurd h (e _)
theorem Calls.drawn {P:Program} {f:FuncId} {args:Array Value} {w:World} {R:Ending->World->Prop} (h:Calls P f args w R) (hr:∀ e w',R e w'->∃ v,e = .returned v):Calls P f args w fun e w'=>R e w'/\w.drawn<=w'.drawn:=by
 intro cs
 obtain ⟨e,w',fr,r,c,x⟩:=h cs
 obtain ⟨v,rfl⟩:=hr e w' r
 exact ⟨_,w',fr,⟨r,Zrx (m:=lone _ _ w) (m':=lone fr cs w') c⟩,c,x⟩
open Go Go.RowKit Go.Sort Go.Proofs
variable {r r' : Locs} {D D' : Nat->Prop} {I I' : Imm} {w w' w0:World} {I0:Imm} {B n n' k:Nat} {pr:Nat->Obj->Prop} {h:Nat->ABlk} {P:Program}
theorem HR.grow (H:HR B w0 I0 pr r I D h n w) (os:Array Obj):HR B w0 I0 pr r I D h n (Qar w os)/\Step r D I w r D I (Qar w os):=by
 have st:Step r D I w r D I (Qar w os):=⟨fun _ hd=>⟨hd,rfl⟩,fun b o hi=>⟨hi,cell?_grow w os _ (H.imm b o hi)⟩,by simp⟩
 refine ⟨⟨H.below.trans ⟨rfl,rfl,rfl,by simp,fun b hb=>heap_grow_old w os (Rp hb H.base)⟩,?_,?_,?_,H.live,?_,H.inj,?_,H.protK,H.immB⟩,st⟩
 ·have:=H.base; simp; omega
 ·intro b o hi; have:=H.imm b o hi; simp; omega
 ·intro id hd; have:=H.dom id hd; simp; omega
 ·intro id
  by_cases hl:(h id).live=true
  ·exact (H.blk id).mono st rfl (fun _=>heap_grow_old w os (H.dom id (H.live id hl)).2) (fun _ _ _ _ _ hx=>hx)
  ·have:h id = .dead:=by cases hx:h id<;>simp_all [Tm]
   rw [this]; trivial
 ·intro b o hp
  have h1:=H.prot b o hp
  exact ⟨(heap_grow_old w os (Qo.1 h1.1).1).trans h1.1,h1.2⟩
theorem HR.ahead (H:HR B w0 I0 pr r I D h n w) (m:Nat):HR B w0 I0 pr r I D h n (Sort.ahead w m)/\Step r D I w r D I (Sort.ahead w m) :=
 ⟨⟨⟨H.below.os,H.below.tape,H.below.output,H.below.size,H.below.block⟩,H.base,H.imm,H.dom,H.live,fun id=>(H.blk id).mono ⟨fun _ hd=>⟨hd,rfl⟩,fun _ _ hi=>⟨hi,rfl⟩,Qd _⟩ rfl (fun _=>rfl) (fun _ _ _ _ _ hx=>hx),H.inj,H.prot,H.protK,H.immB⟩,⟨fun _ hd=>⟨hd,rfl⟩,fun _ _ hi=>⟨hi,rfl⟩,Qd _⟩⟩
theorem Zpc {α:Type} [Inhabited α] (enc:α->List Value) (es:Nat) (w:World) (blk off:Nat) (d:Array α) {cs:Array Value} {T:TypeId} {fz:Nat × Nat} (hc:w.heap[blk]?=some (.cells cs T fz)) :
  (putRowK enc es w blk off d).heap[blk]?=some (.cells (putCells id off (flatK enc es d) cs) T fz):=by
 simp [putRowK,putRow,mapBlock,Fb,hc,onCells]
theorem Zg0 {α:Type} [Inhabited α] (enc:α->List Value) (es:Nat) (w:World) (blk off:Nat) (d:Array α) {b:Nat} (hb:b≠blk):(putRowK enc es w blk off d).heap[b]?=w.heap[b]?:=by
 simp [putRowK,putRow,mapBlock,Fb,Ne.symm hb]
theorem HR.putRow (H:HR B w0 I0 pr r I D h n w) {id es:Nat} {elems elems' : List (List AV)} (hb:h id = .row es elems true true) {α:Type} [Inhabited α] (enc:α->List Value) (d:Array α) (hs:d.size=elems.length) (hl:elems'.length=elems.length)
  (he:∀ (i:Nat) (e:List AV),elems'[i]?=some e->e.length=es/\∀ (j:Nat) (c:AV),e[j]?=some c->VR r I w (fun _=>False) c ((enc d[i]!)[j]!)) :
  HR B w0 I0 pr r I D (hupd h id (.row es elems' true true)) n (putRowK enc es w (r id).blk (r id).off d)/\Step r D I w r D I (putRowK enc es w (r id).blk (r id).off d):=by
 have hB:=H.blk id
 rw [hb] at hB
 obtain ⟨h1,h2,h3,cs,T,fz,h4,h5,h6,h7,_⟩:=hB
 obtain ⟨g1,g2,rfl⟩:=h7 rfl
 have hh:=Zpc enc es w (r id).blk (r id).off d h4
 refine H.write (k:=id) (w':=putRowK enc es w (r id).blk (r id).off d) (by rw [hb]; rfl) ⟨rfl,rfl,rfl,by simp [putRowK],fun b hlt=>Zg0 enc es w _ _ d (by omega)⟩ g1 (fun o ho=>(g2 o ho).elim) (fun o ho=>?_) (by simp [putRowK]) (fun b hne=>Zg0 enc es w _ _ d hne) _ (fun st=>?_)
 ·rw [h4] at ho
  obtain rfl:=Sv ho
  exact ⟨fun l=>by simp,fun l=>by simp⟩
 ·refine ⟨⟨h1.1,by rw [hl]; exact h1.2⟩,by rw [hl]; exact h2,fun i e hi=>(he i e hi).1,_,T,(0,0),hh,by simpa [putCells] using h5,fun i e j c hi hj=>?_,fun _=>⟨g1,g2,rfl⟩,by simp⟩
  obtain ⟨e1,e2⟩:=he i e hi
  have hil:i<elems.length:=by rw [<-hl]; exact (Qj.1 hi).1
  have hjl:j<es:=by rw [<-e1]; exact (Qj.1 hj).1
  have m1:i*es+es<=elems.length*es:=by
   have:=Ri es (show i+1<=elems.length from hil); rwa [Nat.add_mul,Nat.one_mul] at this
  have m2:=Ri es h2
  refine ⟨(enc d[i]!)[j]!,?_,VR.weak ((e2 j c hj).mono ⟨fun _ h=>h.elim,st.imm,st.size⟩:VR r I _ (fun _=>False) c _) (fun _ h=>h.elim)⟩
  have q1:(r id).off+i*es+j<cs.size:=by omega
  have q2:(i*es+j) / es=i:=(blk_iff es i _ (by omega)).1 ⟨by omega,by omega⟩
  have q3:(i*es+j)%es=j:=by rw [Nat.mod_eq_sub_div_mul,q2]; omega
  have q4:i*es+j<d.size*es:=by rw [hs]; omega
  have q5:=get_flatK enc es d _ q4
  rw [q2,q3] at q5
  simp only [putCells,Array.getElem?_mapIdx,Wb q1,Ob]
  rw [if_pos ⟨by omega,by rw [size_flatK]; omega⟩,show (r id).off+i*es+j-(r id).off=i*es+j by omega,q5]
  rfl
structure SortsK (P:Program) (f:FuncId) (es:Nat):Prop where
 some:∀ (m:Nat) [Inhabited (Fin m)] (enc:Fin m->List Value) (_:∀ x,(enc x).length=es) (_:∀ x,∀ v∈enc x,v.oneCell'=true) (cf:Fin m->Fin m->Int) (_:SWO (ltOf cf)) (g:Nat) (blk off cap:Nat) (d:Array (Fin m)) (w:World)
  (_:∀ args w,(callFunc g args).run P w = .ok (.enter g args) w) (_:CmpLays P g #[] enc es cf blk off d.size w) (_:HoldsK enc es w blk off d) (_:blk<w.heap.size) (_:d.size<4611686018427387904),
  Calls P f #[.slice (some ⟨blk,off,none⟩) d.size cap,.func (.func g) #[] #[]] w fun e w' =>
   e = .returned (.tuple #[])/\∃ d' n os,PermIn 0 d.size d d'/\SortedIn (ltOf cf) 0 d.size d'/\w'=sortWorldK enc es w blk off n d' os
 none:∀ (p:Option Addr) (cap:Nat) (fv:Value) (w:World),Calls P f #[.slice p 0 cap,fv] w fun e w'=>e = .returned (.tuple #[])/\w'=w
def Ykb (P:Program) (g:FuncId) (args:List AV) (res:Int):Prop :=
 ∀ (I:Imm) (w:World) (vs:Array Value),(∀ b o,I b o->b<w.heap.size)->VRs r0 I w (fun _=>False) args vs ->
  Calls P g vs w fun e w'=>e = .returned (.int .i64 res)/\∃ q os,w'=Qar (w.drewN q) os
theorem Yb1 {g:FuncId} {args:List AV} {n:Int} (h:PCall P g args ⟨.int .i64 n,[]⟩):Ykb P g args n:=by
 intro I w vs hI hv
 have h1:=callsIn_wide.1 (h.2 I w vs hI hv)
 refine (Calls.drawn h1 (fun e w' ⟨x,_,_,hx,_⟩=>⟨x,hx⟩)).mono ?_
 rintro e w' ⟨⟨x,r',I',rfl,hp⟩,hd⟩
 have hx:x = .int .i64 n:=by
  have:=hp.val
  cases this
  rfl
 refine ⟨by rw [hx],?_⟩
 obtain ⟨⟨d,os⟩,rfl⟩:=regrown_of_below hp.below
 refine ⟨d-w.drawn,os,?_⟩
 have hd:w.drawn<=d:=hd
 have:redrawn w d=w.drewN (d-w.drawn):=by
  show ({ w with drawn:=d }:World) = { w with drawn:=w.drawn+(d-w.drawn) }
  congr 1; omega
 rw [this]
theorem Zle {α:Type} {a:Array α} {n:Nat} (h:a.size=n):a.extract 0 n=a:=by subst h; exact Array.extract_size
theorem arr2 {vs:Array Value} (h:vs.size=2):∃ a b,vs = #[a,b]:=by
 obtain ⟨l⟩:=vs
 match l,h with
 | [a,b],_=>exact ⟨a,b,rfl⟩
theorem Ybl {f gf es:Nat} (hf:FnOK P f) (hS:SortsK P f es) (hes:0<es) (eg:∀ args w,(callFunc gf args).run P w = .ok (.enter gf args) w) {β:Type} (gc:β->List AV) (hlen:∀ b,(gc b).length=es) (hone:∀ b,(gc b).all AV.one=true) (hpu:∀ b,Yk (gc b)=true)
  (cmp:β->β->Int) {xs:List β} (hq:∀ a∈xs,∀ b∈xs,Ykb P gf [.agg (gc a),.agg (gc b)] (cmp a b)) (hO:SWO (ltOf cmp)) (hn:xs.length<4611686018427387904) {σ:St} {id:Nat} (hrow:σ.get id = .row es (xs.map gc) true true)
  {K:AV->St->Prop} (hK:∀ ys:List β,ys.Perm xs->ys.Pairwise (fun a b=>¬ cmp b a<0)->K (.tup []) (σ.set id (.row es (ys.map gc) true true))):SCt P f [.asl id 0 xs.length,.func gf [] []] σ K:=by
 refine ⟨hf,fun B w0 I0 pr r I D w vs H hv=>?_⟩
 obtain ⟨v0,v1,rfl⟩:=arr2 hv.1
 have hv0:=hv.2 0 _ v0 rfl rfl
 have hv1:=hv.2 1 _ v1 rfl rfl
 have hget:∀ ys:List β,(σ.set id (.row es (ys.map gc) true true)).get=hupd σ.get id (.row es (ys.map gc) true true):=fun ys=>by
  funext i; rw [Kl]; rfl
 have hv1e:v1 = .func (.func gf) #[] #[]:=by
  cases hv1 with
  | func _ _ _ _ a b h0 h1 =>
   rw [Ku (show a.size=0 by simpa using h0),Ku (show b.size=0 by simpa using h1)]
 subst hv1e
 cases hv0 with
 | asl _ _ _ _ hd hc =>
  have hB:=H.blk id
  rw [hrow] at hB
  obtain ⟨h1,h2,h3,cs,T,fz,h4,h5,h6,h7,_⟩:=hB
  obtain ⟨g1,g2,rfl⟩:=h7 rfl
  rw [Ra] at h1 h2
  have hz0:(r id).off+0*(r id).es=(r id).off:=by omega
  rw [hz0]
  by_cases h0:xs=[]
  ·subst h0
   refine (callsIn_wide.2 (hS.none _ _ _ w)).mono fun e w' hh=>?_
   obtain ⟨rfl,rfl⟩:=hh;refine ⟨_,.tup [],σ.set id (.row es [] true true),r,I,D,rfl,hK [] (List.Perm.refl _) .nil,?_,.tup _ _ _ rfl (by simp),Wa _ _ _ _⟩
   have:(σ.set id (.row es [] true true)).get=σ.get:=funext fun i=>by
    rw [Kl];split
    ·rename_i e; subst e; exact hrow.symm
    ·rfl
   rw [this]; exact H
  ·have hpos:0<xs.length:=List.length_pos_iff.2 h0
   letI:Inhabited (Fin xs.length):=⟨⟨0,hpos⟩⟩
   obtain ⟨enc,henc⟩:∃ enc:Fin xs.length->List Value,enc=fun i=>(Si es).map fun j=>(cs[(r id).off+i.1*es+j]?).getD undef:=⟨_,rfl⟩
   obtain ⟨d,hd0⟩:∃ d:Array (Fin xs.length),d=Array.ofFn fun i=>i:=⟨_,rfl⟩
   have hds:d.size=xs.length:=by simp [hd0]
   have hdi:∀ (i:Nat) (hi:i<xs.length),d[i]! = ⟨i,hi⟩:=fun i hi=>by
    rw [getElem!_pos d i (by rw [hds]; exact hi)]; simp [hd0]
   have hk:∀ x,(enc x).length=es:=fun x=>by simp [henc]
   have hej:∀ (x:Fin xs.length) (j:Nat),j<es->(enc x)[j]! = (cs[(r id).off+x.1*es+j]?).getD undef:=fun x j hj=>by
    rw [getElem!_pos _ j (by rw [hk]; exact hj)]; simp [henc]
   have hcell:∀ (x:Fin xs.length) (j:Nat) (c:AV),(gc xs[x])[j]?=some c->j<es/\VR r I w (fun _=>False) c ((enc x)[j]!):=fun x j c hc=>by
    have hj:j<es:=by rw [<-hlen xs[x]]; exact (Qj.1 hc).1
    obtain ⟨v,a,b⟩:=h6 x.1 (gc xs[x]) j c (by simp) hc;refine ⟨hj,?_⟩;rw [hej x j hj,a];exact b.weak fun _ h=>by cases h.1
   have h1' : ∀ x,∀ v∈enc x,v.oneCell'=true:=fun x v hv=>by
    obtain ⟨j,hj,rfl⟩:=List.mem_iff_getElem.1 hv;have hj2:j<es:=by rw [<-hk x]; exact hj
    have hjl:j<(gc xs[x]).length:=by rw [hlen]; exact hj2
    have hv:=(hcell x j _ (Qe hjl)).2;rw [getElem!_pos _ j hj] at hv;exact hv.one (Rj.1 (hone xs[x]) _ (Qr hjl))
   have hH:HoldsK enc es w (r id).blk (r id).off d:=by
    intro q hq;rw [size_flatK,hds] at hq;have hdq:q / es<xs.length:=Nat.div_lt_of_lt_mul (by rw [Wi]; exact hq);have hmq:q%es<es:=Nat.mod_lt _ hes;have hF:=get_flatK enc es d q (by rw [hds]; exact hq);rw [hdi _ hdq,hej _ _ hmq] at hF;have e:(r id).off+q / es*es+q%es=(r id).off+q:=by have:=Nat.div_add_mod q es; rw [Wi] at this; omega
    dsimp only at hF;rw [e] at hF;have m2:=Ri es h2;have hle:(r id).off+q<cs.size:=by omega
    rw [Wb hle] at hF;refine ⟨?_,by simp [World.frozen?,h4]⟩;rw [hF];simp [Wj,h4,hle]
   have hblk:(r id).blk<w.heap.size:=(Qo.1 h4).1
   have hcmp:CmpLays P gf #[] enc es (fun i j=>cmp xs[i] xs[j]) (r id).blk (r id).off d.size w:=by
    intro m os dk hdk x y
    have hW:∀ b o,I b o->(sortWorldK enc es w (r id).blk (r id).off m dk os).cell? ⟨b,o,none⟩=w.cell? ⟨b,o,none⟩:=fun b o hi=>by
     have hb:b≠(r id).blk:=fun e=>g2 o (e ▸ hi)
     unfold sortWorldK;rw [cell?_grow _ _ _ (by rw [size_putRowK]; exact H.imm b o hi),cell?_putRowK_other _ _ _ _ _ _ _ hb]; rfl
    have hsz:=size_sortWorldK_c enc es w (r id).blk (r id).off m dk os
    have hagg:∀ z:Fin xs.length,VR r0 I (sortWorldK enc es w (r id).blk (r id).off m dk os) (fun _=>False) (.agg (gc xs[z])) (.agg (enc z).toArray):=fun z =>
     .agg _ _ _ (by simp [hk,hlen]) fun j c v hc hv=>by
      obtain ⟨hj,q⟩:=hcell z j c hc
      have:v=(enc z)[j]!:=by
       rw [getElem!_pos _ j (by rw [hk]; exact hj)];simpa [hk,hj] using hv.symm
      rw [this];exact q.mono ⟨fun _ h=>h.elim,fun b o hi=>⟨hi,hW b o hi⟩,hsz⟩
    refine hq _ (Qr _) _ (Qr _) I _ _ (fun b o hi=>Rp (H.imm b o hi) hsz) ⟨rfl,fun i c v hc hv=>?_⟩
    match i with
    | 0=>cases hc; cases hv; exact hagg x
    | 1=>cases hc; cases hv; exact hagg y
    | i+2=>simp at hc
   have hSW:SWO (ltOf fun i j:Fin xs.length=>cmp xs[i] xs[j]):=⟨fun x=>hO.irrefl _,fun x y z=>hO.trans _ _ _,fun x y z=>hO.ntrans _ _ _⟩;have hcall:=hS.some xs.length enc hk h1' _ hSW gf _ _ ((r id).cap-0) d w eg hcmp hH hblk (by rw [hds]; exact hn);rw [hds] at hcall;refine (callsIn_wide.2 hcall).mono fun e w' hh=>?_
   obtain ⟨rfl,d',m,os,hp,hs,rfl⟩:=hh;have hs' : d'.size=xs.length:=hp.1.trans hds
   have hdl:d.toList.map (fun i=>xs[i])=xs:=by
    refine List.ext_getElem (by simp [hds]) fun i a b=>?_
    simp [hd0]
   have hperm:(d'.toList.map fun i=>xs[i]).Perm xs:=by
    have:=hp.2.2;rw [Zle hs',Zle hds] at this;have:=this.map (fun i=>xs[i])
    rwa [hdl] at this
   have hpair:(d'.toList.map fun i=>xs[i]).Pairwise (fun a b=>¬ cmp b a<0):=by
    rw [List.pairwise_iff_getElem];intro i j hi hj hij;have hj' : j<xs.length:=by rw [<-hs']; simpa using hj
    have:=hs i j (Qn _) hij hj';rw [getElem!_pos d' j (by omega),getElem!_pos d' i (by omega)] at this;unfold ltOf at this;simpa using this
   obtain ⟨Ha,Sa⟩:=H.ahead m
   obtain ⟨Hp,Sp⟩:=Ha.putRow (elems':=(d'.toList.map fun i=>xs[i]).map gc) hrow enc d' (by rw [hs',Ra]) (by simp [hs']) (fun i e hi=>by
    have hil:i<xs.length:=by
     have:=(Qj.1 hi).1;simpa [hs'] using this
    have hi2:i<d'.size:=by omega
    have he:e=gc xs[d'[i]]:=by
     simp only [Rq,Fa,Wb hi2,Ob,Qf] at hi;exact hi.symm
    subst he;refine ⟨hlen _,fun j c hc=>?_⟩;rw [getElem!_pos d' i hi2]
    exact ((hcell d'[i] j c hc).2).mono ⟨fun _ h=>h.elim,fun b o hi=>⟨hi,rfl⟩,Qd _⟩)
   obtain ⟨Hg,Sg⟩:=Hp.grow os;refine ⟨_,.tup [],σ.set id (.row es ((d'.toList.map fun i=>xs[i]).map gc) true true),r,I,D,rfl,hK _ hperm hpair,?_,.tup _ _ _ rfl (by simp),(Sa.trans Sp).trans Sg⟩;rw [hget];exact Hg
theorem Ybm {f gf es:Nat} (hf:FnOK P f) (hS:SortsK P f es) {σ:St} {K:AV->St->Prop} (hK:K (.tup []) σ):SCt P f [.nils,.func gf [] []] σ K:=by
 refine ⟨hf,fun B w0 I0 pr r I D w vs H hv=>?_⟩
 obtain ⟨v0,v1,rfl⟩:=arr2 hv.1
 have hv0:=hv.2 0 _ v0 rfl rfl
 cases hv0
 refine (callsIn_wide.2 (hS.none _ _ _ w)).mono fun e w' hh=>?_
 obtain ⟨rfl,rfl⟩:=hh
 exact ⟨_,.tup [],σ,r,I,D,rfl,hK,H,.tup _ _ _ rfl (by simp),Wa _ _ _ _⟩
open Go Go.RowKit
variable {P:Program} {N:Nat}
def newF (n0:Nat) (fl:List (Nat × Nat)) (l:List (Nat × ABlk)):Bool:=fl.all fun p=>Se n0 p.2||l.all fun q=>!Nat.beq q.1 p.2
theorem Ren.of2 {n0:Nat} {env env' : Env} {σ:St} {heap' : List (Nat × ABlk)} {n1:Nat} (fl:List (Nat × Nat)) (h1:(okF n0 fl&&Zg7 n0 fl heap'&&newF n0 fl heap'&&Se n0 n1)=true) (h2:RenE (fOf fl) n1 env env') (h3:RenH (fOf fl) n1 σ.get heap'):Ren n0 env σ env' ⟨heap',n1⟩:=by
 simp only [Qc] at h1
 obtain ⟨⟨⟨o1,o2⟩,o3⟩,o4⟩:=h1
 have live:∀ j,(Pu ⟨heap',n1⟩ j).live=true->(j,hget heap' j)∈heap':=fun j hl=>Zn5 heap' j hl
 have img:∀ {a b j:Nat},(a,b)∈fl->(j,hget heap' j)∈heap'->j<n0->j=b->False:=fun {a b j} hm hk hj e=>by
  have:=Rj.1 o3 _ hm
  rw [Bool.or_eq_true] at this
  rcases this with h|h
  ·have:=Qm h; dsimp only at this; omega
  ·have:=Rj.1 h _ hk
   subst e;simp at this
 refine ⟨fOf fl,Zbs o1,h2.get,fun j hl=>?_,fun j=>?_,fun j j' hl hl' e=>?_,Qm o4⟩
 ·have:=h3.mem (live j hl)
  exact ⟨by simpa [Nat.blt_eq] using this.1,this.2.1⟩
 ·by_cases hl:(Pu ⟨heap',n1⟩ j).live=true
  ·exact (h3.mem (live j hl)).2.2
  ·have:Pu ⟨heap',n1⟩ j = .dead:=by cases hx:Pu ⟨heap',n1⟩ j<;>simp_all [Tm]
   rw [this]; trivial
 ·rcases Zeq o2 (live j hl) with k1|⟨y,k1⟩<;>rcases Zeq o2 (live j' hl') with k2|⟨y',k2⟩
  ·rwa [Zbs o1 j k1,Zbs o1 j' k2] at e
  ·rw [Zbs o1 j k1,Zdn o1 k2] at e; exact (img k2 (live j hl) k1 e).elim
  ·rw [Zdn o1 k1,Zbs o1 j' k2] at e; exact (img k1 (live j' hl') k2 e.symm).elim
  ·rw [Zdn o1 k1,Zdn o1 k2] at e; subst e; exact Zsa o1 k1 k2
theorem Zkz {S:Type} (μ:S->Nat) (E:S->Env) (Z:S->List (Nat × ABlk)) (n0 n1:Nat) (G:S->Prop) {c:Code} {Q:Exit->Env->St->Prop} (s:S) (hs:G s) {env:Env} {σ:St} (hn:σ.next<=n0) (fl0:List (Nat × Nat))
  (h1:(okF n0 fl0&&Zg7 n0 fl0 (Z s)&&newF n0 fl0 (Z s)&&Se n0 n1)=true) (h2:RenE (fOf fl0) n1 env (E s)) (h3:RenH (fOf fl0) n1 σ.get (Z s))
  (step:∀ s,G s->Awp P N c (E s) ⟨Z s,n1⟩ (seqQ (fun env' σ'=>Done (∃ s' fl,(okF n0 fl&&Zg7 n0 fl (Z s')&&newF n0 fl (Z s')&&Se n0 n1)=true/\RenE (fOf fl) n1 env' (E s')/\RenH (fOf fl) n1 σ'.get (Z s')/\G s'/\μ s'<μ s)) Q)):Lp P N c env σ Q:=by
 have key:∀ n s,μ s<n->G s->Ya0 P N n0 c Q n (E s) ⟨Z s,n1⟩:=by
  intro n
  induction n with
  | zero=>intro s h; omega
  | succ n ih =>
   intro s h hg;refine (step s hg).seqMono fun env' σ' hq=>?_
   obtain ⟨s',fl,k1,k2,k3,g',m'⟩:=hq.1;exact ⟨E s',⟨Z s',n1⟩,.inr (Ren.of2 fl k1 k2 k3),ih s' (by omega) g'⟩
 refine ⟨fun F B w0 I0 pr r I D a w hF hR S=>?_⟩
 have hr:=Ren.of2 (n1:=n1) fl0 h1 h2 h3
 obtain ⟨r2,D2,H2,k2,e2⟩:=S.hr.rename (N:=N) hr
 have hd0:∀ id,D id->id<n0:=fun id hd=>by have:=(S.hr.dom id hd).1; omega
 refine wpIn_loop_rounds (μ s+1) ?_
 exact Zg5 hF hR hd0 (μ s+1) (E s) ⟨Z s,n1⟩ pr r2 I D2 a w [] (fun _ _ h=>h) (fun d hd=>by simp at hd) .nil (by simp) (key (μ s+1) s (by omega) hs) ⟨H2,e2 _ S.er⟩ ((Wa _ _ _ _).rename hd0 k2) (Qd _)
variable {r r' : Locs} {D D' : Nat->Prop} {I I' : Imm} {w w' w0:World} {I0:Imm} {B n n' k N:Nat} {pr:Nat->Obj->Prop} {h:Nat->ABlk} {P:Program}
theorem Zo6 {rv:List AV->Option (List AV × List Nat)}:∀ {els els' : List (List AV)} {l:List Nat},Zbx rv els=some (els',l)->els'.length=els.length/\∀ (i:Nat) (e' : List AV),els'[i]?=some e'->∃ e le,els[i]?=some e/\rv e=some (e',le)/\∀ x∈le,x∈l
 | [],els',l,h=>by
  simp only [Zbx,Qf,Rl] at h
  obtain ⟨rfl,rfl⟩:=h
  exact ⟨rfl,fun i e' hi=>by simp at hi⟩
 | e::es,els',l,h=>by
  rw [Zbx] at h
  split at h
  ·rename_i e1 l1 es1 l2 h1 h2
   simp only [Qf,Rl] at h;obtain ⟨rfl,rfl⟩:=h;obtain ⟨q1,q2⟩:=Zo6 h2;refine ⟨by simp [q1],fun i e' hi=>?_⟩
   cases i with
   | zero =>
    simp only [List.getElem?_cons_zero,Qf] at hi;subst hi;exact ⟨e,l1,by simp,h1,fun x hx=>by simp [hx]⟩
   | succ i =>
    obtain ⟨a,b,c,d,f⟩:=q2 i e' (by simpa using hi);exact ⟨a,b,by simpa using c,d,fun x hx=>by simp [f x hx]⟩
  ·cases h
theorem Ziw {rv:List AV->Option (List AV × List Nat)}:∀ {a b a' b' : List (List AV)} {l m:List Nat},Zbx rv a=some (a',l)->Zbx rv b=some (b',m)->Zbx rv (a++b)=some (a'++b',l++m)
 | [],b,a',b',l,m,h1,h2=>by
  simp only [Zbx,Qf,Rl] at h1
  obtain ⟨rfl,rfl⟩:=h1
  simpa using h2
 | e::es,b,a',b',l,m,h1,h2=>by
  rw [Zbx] at h1
  split at h1
  ·rename_i e1 l1 es1 l2 g1 g2
   simp only [Qf,Rl] at h1;obtain ⟨rfl,rfl⟩:=h1;rw [List.cons_append,Zbx,g1,Ziw g2 h2];simp
  ·cases h1
theorem Zts {rv:List AV->Option (List AV × List Nat)}:∀ {a:List (List AV)},(∀ e∈a,rv e=some (e,[]))->Zbx rv a=some (a,[])
 | [],_=>rfl
 | e::es,h=>by rw [Zbx,h e (by simp),Zts fun x hx=>h x (by simp [hx])]; rfl
theorem HR.melt (H:HR B w0 I0 pr r I D h n w) {id es:Nat} {elems elems' : List (List AV)} {pu:Bool} {l:List Nat} (hrow:h id = .row es elems true pu) (hv:Zbx (Zal h) elems=some (elems',l)) (hm:mutL h l=true) (hid:id∉l) :
  HR B w0 I0 pr r (Xi r I h l) D (hupd (Hh h l) id (.row es elems' true true)) n w/\Step r D I w r D (Xi r I h l) w:=by
 obtain ⟨H1,S1⟩:=H.froz (Zcn hm)
 have hB:=H.blk id
 rw [hrow] at hB
 obtain ⟨h1,h2,h3,cs,T,fz,h4,h5,h6,h7,_⟩:=hB
 obtain ⟨g1,g2,g3⟩:=h7 rfl
 obtain ⟨q1,q2⟩:=Zo6 hv
 have hlive:∀ i,(hupd (Hh h l) id (.row es elems' true true) i).live=true->(Hh h l i).live=true:=fun i hi=>by
  by_cases e:i=id
  ·subst e; simp only [Hh,hrow]; rfl
  ·simpa [hupd,e] using hi
 refine ⟨⟨H1.below,H1.base,H1.imm,H1.dom,fun i hi=>H1.live i (hlive i hi),fun i=>?_,fun i j hi hj hne=>H1.inj i j (hlive i hi) (hlive j hj) hne,H1.prot,fun b o hp=>⟨fun i hi=>(H1.protK b o hp).1 i (hlive i hi),(H1.protK b o hp).2⟩,H1.immB⟩,S1⟩
 by_cases e:i=id
 rotate_left
 ·simp only [hupd,e,if_false]; exact H1.blk i
 subst e
 simp only [hupd,if_true]
 have hI:∀ b o,I b o->Xi r I h l b o:=fun b o hi=>.inl hi
 have cell:∀ (a:Nat) (e' : List AV),elems'[a]?=some e'->e'.length=es/\∀ (j:Nat) (c:AV),e'[j]?=some c->∃ v,cs[(r i).off+a*es+j]?=some v/\VR r0 (Xi r I h l) w (fun _=>False) c v:=by
  intro a e' ha
  obtain ⟨e0,le,b1,b2,b3⟩:=q2 a e' ha
  have hle:=h3 a e0 b1
  have hv2:∀ (j:Nat) (c:AV) (v:Value),e0[j]?=some c->((Si e0.length).map fun j=>(cs[(r i).off+a*es+j]?).getD undef)[j]?=some v->VR r I w D c v:=fun j c v hj hvv=>by
   obtain ⟨v',c1,c2⟩:=h6 a e0 j c b1 hj;have hjl:j<e0.length:=(Qj.1 hj).1;simp only [Rq,Tv hjl,Ob,Qf,c1,Option.getD_some] at hvv;rw [<-hvv];exact c2.weak fun _ hh=>hh.2
  obtain ⟨s1,s2⟩:=Zos H hI e0 (by simp) hv2 b2 (fun x hx es2 el2 mt2 pu2 hr2 i2 e2 j2 c2 hi2 hj2=>.inr ⟨x,b3 x hx,es2,el2,mt2,pu2,i2,e2,j2,c2,hr2,hi2,hj2,rfl,rfl⟩)
  have s3:e'.length=es:=by rw [s1]; simpa using hle
  refine ⟨s3,fun j c hj=>?_⟩
  have hjl:j<e0.length:=by rw [hle,<-s3]; exact (Qj.1 hj).1
  obtain ⟨v',c1,c2⟩:=h6 a e0 j _ b1 (Qe hjl)
  refine ⟨v',c1,s2 j c v' hj ?_⟩
  simp [Tv hjl,c1]
 refine ⟨⟨h1.1,by rw [q1]; exact h1.2⟩,by rw [q1]; exact h2,fun a e' ha=>(cell a e' ha).1,cs,T,fz,h4,h5,fun a e' j c ha hj=>?_,fun _=>⟨g1,fun o ho=>?_,g3⟩,by simp⟩
 ·obtain ⟨v,c1,c2⟩:=(cell a e' ha).2 j c hj
  exact ⟨v,c1,(c2.mono ⟨fun _ h=>h.elim,fun _ _ hi=>⟨hi,rfl⟩,Qd _⟩:VR r _ w (fun _=>False) c v).weak fun _ h=>h.elim⟩
 ·rcases ho with ho|⟨x,hx,es2,el2,mt2,pu2,i2,e2,j2,c2,hr2,hi2,hj2,hb,_⟩
  ·exact g2 o ho
  ·have hne:i≠x:=fun e=>hid (e ▸ hx)
   exact H.inj i x (by rw [hrow]; rfl) (by rw [hr2]; rfl) hne hb
theorem Awp.melt {c:Code} {env:Env} {σ:St} {Q:Exit->Env->St->Prop} (id:Nat) {es:Nat} {elems elems' : List (List AV)} {pu:Bool} {l:List Nat} (hrow:σ.get id = .row es elems true pu) (hv:Zbx (Zal σ.get) elems=some (elems',l)) (hm:mutL σ.get l=true) (hid:l.contains id=false)
  (h:Awp P N c env ((Vq σ l).set id (.row es elems' true true)) Q):Awp P N c env σ Q :=
 fun F B w0 I0 pr r I D a w hF hR S=>by
 obtain ⟨H1,S1⟩:=S.hr.melt hrow hv hm (by simpa using hid)
 have hg:((Vq σ l).set id (.row es elems' true true)).get=hupd (Hh σ.get l) id (.row es elems' true true):=by
  funext i; rw [Kl,Zcv]; rfl
 have S' : SR B w0 I0 pr N r (Xi r I σ.get l) D env ((Vq σ l).set id (.row es elems' true true)) a w:=⟨by rw [hg]; show HR B w0 I0 pr r _ D _ (Vq σ l).next w; rw [Zbq]; exact H1,S.er.mono S1⟩
 exact Rd (fun e a' w' hp=>by
  obtain ⟨pr1,ms1,env1,σ1,r1,I1,D1,p1,m1,n1,d1,q1,s1,t1,z1⟩:=hp
  exact ⟨pr1,ms1,env1,σ1,r1,I1,D1,p1,m1,n1,d1,q1,s1,S1.trans t1,z1⟩) (h F B w0 I0 pr r (Xi r I σ.get l) D a w hF hR S')
variable {P:Program} {N:Nat}
theorem Lp.go2 {c:Code} {Q:Exit->Env->St->Prop} (E:Env) (Z:List (Nat × ABlk)) (n0 n1:Nat) {env:Env} {σ:St} (hn:σ.next<=n0) (fl:List (Nat × Nat))
  (h1:(okF n0 fl&&Zg7 n0 fl Z&&newF n0 fl Z&&Se n0 n1)=true) (h2:RenE (fOf fl) n1 env E) (h3:RenH (fOf fl) n1 σ.get Z) (h:Lp P N c E ⟨Z,n1⟩ Q):Lp P N c env σ Q:=by
 refine ⟨fun F B w0 I0 pr r I D a w hF hR S=>?_⟩
 have hr:=Ren.of2 (n1:=n1) fl h1 h2 h3
 obtain ⟨r2,D2,H2,k2,e2⟩:=S.hr.rename (N:=N) hr
 refine Rd (fun e a' w' hp=>?_) (h.1 F B w0 I0 pr r2 I D2 a w hF hR ⟨H2,e2 _ S.er⟩)
 obtain ⟨pr1,ms1,env1,σ1,r1,I1,D1,p1,m1,n1',d1,q1,s1,t1,z1⟩:=hp
 exact ⟨pr1,ms1,env1,σ1,r1,I1,D1,p1,m1,n1',d1,q1,s1,⟨fun id hd=>by
  have hlt:=(S.hr.dom id hd).1
  obtain ⟨a1,a2⟩:=k2 id (by omega) hd
  obtain ⟨b1,b2⟩:=t1.ids id a1
  exact ⟨b1,b2.trans a2⟩,t1.imm,t1.size⟩,z1⟩
theorem Lp.join {α:Type} {c:Code} {Q:Exit->Env->St->Prop} {goal:Prop} (E:α->Env) (Z:α->St) (G:α->Prop) (main:(∀ a,G a->Lp P N c (E a) (Z a) Q)->goal) (kl:∀ a,G a->Lp P N c (E a) (Z a) Q):goal:=main kl
end Go.Sx
