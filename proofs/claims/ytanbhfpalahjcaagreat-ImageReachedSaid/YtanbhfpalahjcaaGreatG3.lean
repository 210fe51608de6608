/- A part of the proof: lemmas. -/
import Derived.Test.YtanbhfpalahjcaaGreatG2
import Derived.RangeFuncLeaves
set_option linter.unusedVariables false
set_option linter.unusedSimpArgs false
set_option maxRecDepth 100000
set_option maxHeartbeats 16000000
open Array renaming ext'->Oz,getD_eq_getD_getElem?->Qy,getElem?_append->Og,getElem?_eq_some_iff->Qt,getElem?_setIfInBounds->Sy
open Bool renaming and_eq_true->Qc,false_eq_true->Rs
open Go.Builtin renaming append_->Wk
open Go.Code renaming wpIn_mono->Ru
open Go.Exit renaming inBlock->Mg
open Go.Fence renaming wide->Ti
open Go.Instr renaming takeDeferred->Lw
open Go.Region renaming wanted->Pq
open Go.Result renaming andThen_ok->Rq
open Go.Sem renaming run_bind->Sn,run_pure->Pr
open Go.Sx.Eff renaming adds->Mr
open Go.Sx.Env renaming get_cons->Pg
open Go.Sx.St renaming get_add->Di,get_set->Kt
open Go.Sx.Step renaming refl->Pf
open Go.Target.collected renaming injEq->Nf
open List renaming all_eq_true->Rf,append_assoc->Wm,getElem?_eq_getElem->Qe,getElem_mem->Qn,length_nil->Rh,mapM_cons->Fm,mem_append->Sh,mem_cons_of_mem->Mw,pairwise_append->Ow,pairwise_cons->Pw
open Nat renaming beq->Qs,ble->Su,ble_eq->Do,blt->Pp,eq_of_beq_eq_true->Qh,le_of_ble_eq_true->Qm,le_refl->Qd,le_succ->Ka,le_trans->Re,lt_succ_self->Ku,not_lt->Nj
open Option.some renaming inj->Sr,injEq->Qf
namespace Go.Sx
open Go Go.RowKit
def Br (b:Bool) (A A' : Prop):Prop:=match b with
 | true=>A
 | false=>A'
theorem Br.cases {b:Bool} {A A' : Prop} (h:Br b A A'):(b=true/\A)\/(b=false/\A'):=by cases b; exact .inr ⟨rfl,h⟩; exact .inl ⟨rfl,h⟩
theorem Br.intro {b:Bool} {A A' : Prop} (h:b=true->A) (h' : b=false->A'):Br b A A':=by cases b; exact h' rfl; exact h rfl
theorem wkS {b:Bool} {A:Prop} (h:b=true) (k:A):match (generalizing:=false) b with
 | true=>A
 | false=>False:=by subst h; exact k
theorem wkY {p:Prop} [Decidable p] {A A' : Prop} (h:p) (k:A):match (generalizing:=false) decide p with
 | true=>A
 | false=>A':=by rw [decide_eq_true h]; exact k
theorem wkN {p:Prop} [Decidable p] {A A' : Prop} (h:¬p) (k:A'):match (generalizing:=false) decide p with
 | true=>A
 | false=>A':=by rw [decide_eq_false h]; exact k
theorem wkQ {p:Prop} [Decidable p] {A A' : Prop} (h:¬p) (k:A):match (generalizing:=false) !decide p with
 | true=>A
 | false=>A':=by rw [decide_eq_false h]; exact k
theorem wkR {p:Prop} [Decidable p] {A A' : Prop} (h:p) (k:A'):match (generalizing:=false) !decide p with
 | true=>A
 | false=>A':=by rw [decide_eq_true h]; exact k
theorem wkB {b:Bool} {A A' : Prop} (h:b=true->A) (k:b=false->A'):match (generalizing:=false) b with
 | true=>A
 | false=>A':=by cases b; exact k rfl; exact h rfl
theorem wkC {b c:Bool} {A A' : Prop} (k:match (generalizing:=false) b with
 | true=>A
 | false=>A'):match (generalizing:=false) cond true b c with
 | true=>A
 | false=>A':=k
theorem wkD {b c:Bool} {A A' : Prop} (k:match (generalizing:=false) b with
 | true=>A
 | false=>A'):match (generalizing:=false) cond false c b with
 | true=>A
 | false=>A':=k
theorem wxS {b:Bool} {A:Prop} (h:b=true):A->match (generalizing:=false) b with
 | true=>A
 | false=>False:=fun k=>wkS h k
theorem wxY {p:Prop} [Decidable p] {A A' : Prop} (h:p):A->match (generalizing:=false) decide p with
 | true=>A
 | false=>A':=fun k=>wkY h k
theorem wxN {p:Prop} [Decidable p] {A A' : Prop} (h:¬p):A'->match (generalizing:=false) decide p with
 | true=>A
 | false=>A':=fun k=>wkN h k
theorem wxQ {p:Prop} [Decidable p] {A A' : Prop} (h:¬p):A->match (generalizing:=false) !decide p with
 | true=>A
 | false=>A':=fun k=>wkQ h k
theorem wxR {p:Prop} [Decidable p] {A A' : Prop} (h:p):A'->match (generalizing:=false) !decide p with
 | true=>A
 | false=>A':=fun k=>wkR h k
def Got {α:Type} (o:Option α) (K:α->Prop):Prop:=match o with
 | some x=>K x
 | none=>False
theorem Got.cases {α:Type} {o:Option α} {K:α->Prop} (h:Got o K):∃ x,o=some x/\K x:=by cases o; exact h.elim; exact ⟨_,rfl,h⟩
theorem Got.intro {α:Type} {o:Option α} {K:α->Prop} {x:α} (h:o=some x) (k:K x):Got o K:=by subst h; exact k
def Dr (A A' : Prop):Prop:=A/\A'
theorem Dr.intro {A A' : Prop} (h:A) (k:A'):Dr A A':=⟨h,k⟩
def As (b:Bool) (A:Prop):Prop:=match b with
 | true=>A
 | false=>False
theorem As.cases {b:Bool} {A:Prop} (h:As b A):b=true/\A:=by cases b; exact h.elim; exact ⟨rfl,h⟩
theorem As.intro {b:Bool} {A:Prop} (h:b=true) (k:A):As b A:=by subst h; exact k
variable {T:Tab} {ok:TypeId->Bool} {k:Nat} {ev:Operand->AV} {h:Nat->ABlk}
def Ydu (a b:AV) (p:Bool) (K:AV × Eff->Prop):Prop:=match a,b with
 | .bool x,.bool y=>K (.bool (cond p x y),.none)
 | x,y=>Br p (K (x,.none)) (K (y,.none))
def Zxb (es:Nat) (h:Nat->ABlk) (v:AV) (i:Int) (K:AV × Eff->Prop):Prop:=match v with
 | .asl id idx len=>match h id with
  | .row es' _ _ _=>cond (Qs es es') (As (decide (0<=i/\i<(len:Int))) (K (.ptr id (idx+i.toNat) 0,.none))) False
  | _=>False
 | .isl es' elems=>cond (Qs es es') (As (decide (0<=i)) (Got (elems[i.toNat]?) fun e=>K (.ipt e,.none))) False
 | v=>Got (ret (Zbz es h v i)) K
def Yd9 (ti:TI) (h:Nat->ABlk) (v:AV) (K:AV × Eff->Prop):Prop:=match v with
 | .ptr id idx sub=>match h id with
  | .row _ elems _ _=>Got (elems[idx]?) fun cells=>Got (ret (Zc5 ti cells sub)) K
  | _=>False
 | .ipt cells=>Got (ret (Zc5 ti cells 0)) K
 | _=>False
def Zvf (ti:TI) (id idx sub:Nat) (xs:List AV) (es:Nat) (elems:List (List AV)) (mt pu:Bool) (K:AV × Eff->Prop):Prop :=
 cond (mt&&xs.all AV.one&&Qs xs.length ti.size) (Got (elems[idx]?) fun cells=>cond (Su (sub+xs.length) cells.length) (fL (splice cells sub xs) fun c=>K (.tup [],.put id (.row es (Ze7 elems idx c) true (pu&&Yo xs)))) False) False
def fSp (cs:List AV) (K:List AV->Prop):Prop:=List.rec (motive:=fun _=>(List AV->Prop)->Prop) (fun K=>K []) (fun c _ ih K=>ih fun cs=>K (c::cs)) cs K
theorem Ycj:∀ (cs:List AV) (K:List AV->Prop),fSp cs K=K cs
 | [],K=>rfl
 | c::cs,K=>Ycj cs fun cs=>K (c::cs)
def Zum (place:Nat->Option (Nat × Nat)) (cells:List AV) (ps:List (Nat × AV)) (K:List AV->Prop):Prop:=match ps with
 | []=>K cells
 | (i,v)::rest=>match place i,cellsOf v with
  | some (off,size),some cs=>cond (Qs cs.length size&&Su (off+cs.length) cells.length) (fSp (splice cells off cs) fun cells=>Zum place cells rest K) False
  | _,_=>False
theorem Zou {place:Nat->Option (Nat × Nat)}:∀ (ps:List (Nat × AV)) (cells:List AV) (K:List AV->Prop),Zum place cells ps K↔∃ out,Zb0 place cells ps=some out/\K out
 | [],cells,K=>⟨fun h=>⟨_,rfl,h⟩,fun ⟨q,hq,hk⟩=>by cases hq; exact hk⟩
 | (i,v)::rest,cells,K=>by
  unfold Zum Zb0
  cases place i with
  | none=>exact ⟨fun h=>h.elim,fun ⟨q,hq,_⟩=>by cases hq⟩
  | some p =>
   obtain ⟨off,size⟩:=p
   cases cellsOf v with
   | none=>exact ⟨fun h=>h.elim,fun ⟨q,hq,_⟩=>by cases hq⟩
   | some cs =>
    dsimp only
    cases (Qs cs.length size&&Su (off+cs.length) cells.length) with
    | false=>exact ⟨fun h=>h.elim,fun ⟨q,hq,_⟩=>by cases hq⟩
    | true=>simp only [cond_true,Ycj]; exact Zou rest _ K
def aopK (T:Tab) (ok:TypeId->Bool) (k:Nat) (ev:Operand->AV) (h:Nat->ABlk) (op:Op) (K:AV × Eff->Prop):Prop :=
 match op with
 | .pick c a b=>match ev c with
  | .bool p=>Ydu (ev a) (ev b) p K
  | _=>Got (aop T ok k ev h (.pick c a b)) K
 | .load t a=>match T t with
  | some ti=>Yd9 ti h (ev a) K
  | none=>Got (aop T ok k ev h (.load t a)) K
 | .indexAddr t x i=>match T t,Zei T t,ev i with
  | some ti,some te,.int _ n=>match ti.desc with
   | .slice _=>Zxb te.size h (ev x) n K
   | .array len _=>As (decide (0<=n/\n<(len:Int))) (Got (ret (faddr 0 (n.toNat * te.size) (ev x))) K)
   | _=>Got (aop T ok k ev h (.indexAddr t x i)) K
  | _,_,_=>Got (aop T ok k ev h (.indexAddr t x i)) K
 | .index t x i=>match T t,ev x,ev i with
  | some ti,.str s,.int _ n=>match ti.desc with
   | .string=>As (decide (0<=n)) (Got (s.data.toList[n.toNat]?) fun b=>K (.int .u8 b.toNat,.none))
   | _=>Got (aop T ok k ev h (.index t x i)) K
  | _,_,_=>Got (aop T ok k ev h (.index t x i)) K
 | .store t a x=>match T t,ev a,cellsOf (ev x) with
  | some ti,.ptr id idx sub,some xs=>match h id with
   | .row es elems mt pu=>Zvf ti id idx sub xs es elems mt pu K
   | _=>Got (aop T ok k ev h (.store t a x)) K
  | _,_,_=>Got (aop T ok k ev h (.store t a x)) K
 | .binOp .quo t x y ty=>match ev x,ev y with
  | .int k1 a,.int k2 b=>cond (decide (k1=k2)) (As (!decide (b=0)) (K (.int k1 (k1.wrap (a.tdiv b)),.none))) (Got (aop T ok k ev h (.binOp .quo t x y ty)) K)
  | _,_=>Got (aop T ok k ev h (.binOp .quo t x y ty)) K
 | .binOp .rem t x y ty=>match ev x,ev y with
  | .int k1 a,.int k2 b=>cond (decide (k1=k2)) (As (!decide (b=0)) (K (.int k1 (a.tmod b),.none))) (Got (aop T ok k ev h (.binOp .rem t x y ty)) K)
  | _,_=>Got (aop T ok k ev h (.binOp .rem t x y ty)) K
 | .build t ps=>match T t with
  | some ti=>match ti.desc with
   | .struct fs=>match Zap T fs.toList with
    | some l=>Zum (fun i=>l[i]?) ti.zero (Ur ev ps) fun out=>K (.agg out,.none)
    | none=>False
   | .array _ e=>match T e with
    | some te=>Zum (fun i=>some (i*te.size,te.size)) ti.zero (Ur ev ps) fun out=>K (.agg out,.none)
    | none=>False
   | _=>False
  | none=>False
 | .makeSlice t l c=>match T t with
  | some ti=>match ti.desc with
   | .slice e=>match T e with
    | some te=>cond (Znk l c&&Qs te.zero.length te.size&&Pp 0 te.size&&Yo te.zero&&Su (1000000*te.bytes) 140737488355328) (match ev l with
     | .int _ a=>As (decide (0<=a/\a.toNat<=1000000)) (K (.asl k 0 a.toNat,.add (.row te.size (List.replicate a.toNat te.zero) true true)))
     | _=>False) False
    | none=>False
   | _=>False
  | none=>False
 | op=>Got (aop T ok k ev h op) K
theorem Got.iff {α:Type} {o:Option α} {K:α->Prop}:Got o K↔∃ x,o=some x/\K x:=⟨Got.cases,fun ⟨_,h,k⟩=>Got.intro h k⟩
theorem Zgy {op:Op} {p:AV × Eff} (ha:aopA T ok k ev h op=some p):aop T ok k ev h op=some p:=by
 unfold aop; rw [ha]
theorem Zv8 {c a b:Operand} {p:Bool} {K:AV × Eff->Prop} (hc:ev c = .bool p):Ydu (ev a) (ev b) p K↔∃ q,aop T ok k ev h (.pick c a b)=some q/\K q:=by
 have e:aopA T ok k ev h (.pick c a b)=match ev a,ev b with
   | .bool x,.bool y=>some (.bool (cond p x y),.none)
   | x,y=>cond p (some (x,.none)) (some (y,.none)):=by simp only [aopA,hc]; cases ev a<;>cases ev b<;>rfl
 unfold Ydu
 split
 ·rename_i x y h1 h2
  rw [h1,h2] at e
  rw [Zgy e]
  exact ⟨fun h=>⟨_,rfl,h⟩,fun ⟨q,hq,hk⟩=>by cases hq; exact hk⟩
 ·rename_i h1
  have e2:aopA T ok k ev h (.pick c a b)=cond p (some (ev a,.none)) (some (ev b,.none)):=by
   rw [e]
   split
   ·rename_i x y g1 g2; exact (h1 x y g1 g2).elim
   ·rfl
  cases p with
  | true=>rw [Zgy (e2.trans rfl)]; exact ⟨fun h=>⟨_,rfl,h⟩,fun ⟨q,hq,hk⟩=>by cases hq; exact hk⟩
  | false=>rw [Zgy (e2.trans rfl)]; exact ⟨fun h=>⟨_,rfl,h⟩,fun ⟨q,hq,hk⟩=>by cases hq; exact hk⟩
theorem Zy9 (op:Op) (ho:match op with
  | .binOp .. | .convert .. | .lookup .. | .makeMap .. | .makeSlice .. | .mapUpdate .. | .insert .. | .slice .. | .call ..=>False
  | _=>True):aopB T k ev h op=none:=by
 cases op<;>first|rfl|exact ho.elim
theorem Zd6 (op:Op) (ho:match op with
  | .binOp .. | .convert .. | .lookup .. | .makeMap .. | .makeSlice .. | .mapUpdate .. | .insert .. | .slice .. | .call ..=>False
  | _=>True):aop T ok k ev h op=aopA T ok k ev h op:=by
 unfold aop
 cases aopA T ok k ev h op with
 | some x=>rfl
 | none=>exact Zy9 op ho
theorem Zwn {t:TypeId} {a:Operand} {ti:TI} {K:AV × Eff->Prop} (ht:T t=some ti):Yd9 ti h (ev a) K↔∃ q,aop T ok k ev h (.load t a)=some q/\K q:=by
 rw [Zd6 _ trivial]
 simp only [aopA,ht,Yd9]
 cases hv:ev a with
 | ptr id idx sub =>
  cases hb:h id with
  | row es elems mt pu =>
   simp only [hv,hb]
   cases elems[idx]? with
   | none=>exact ⟨fun h=>h.elim,fun ⟨q,hq,_⟩=>by cases hq⟩
   | some cells=>exact Got.iff (o:=ret (Zc5 ti cells sub))
  | _=>simp only [hv,hb]; exact ⟨fun h=>h.elim,fun ⟨q,hq,_⟩=>by cases hq⟩
 | ipt cells=>exact Got.iff
 | _=>exact ⟨fun h=>h.elim,fun ⟨q,hq,_⟩=>by cases hq⟩
theorem Zs2 {b:Bool} {α:Type} {o:Option α} {A:Prop} {K:α->Prop} (h:A↔∃ q,o=some q/\K q):As b A↔∃ q,cond b o none=some q/\K q:=by
 cases b with
 | true=>exact h
 | false=>exact ⟨fun h=>h.elim,fun ⟨q,hq,_⟩=>by cases hq⟩
theorem Zvt {v:AV} {K:AV × Eff->Prop}:K (v,.none)↔∃ q,ret (some v)=some q/\K q:=⟨fun h=>⟨_,rfl,h⟩,fun ⟨q,hq,hk⟩=>by cases hq; exact hk⟩
theorem Zug {es:Nat} {v:AV} {i:Int} {K:AV × Eff->Prop}:Zxb es h v i K↔∃ q,ret (Zbz es h v i)=some q/\K q:=by
 unfold Zxb
 split
 ·rename_i id idx len
  cases hb:h id with
  | row es' elems mt pu =>
   simp only [Zbz,hb]
   cases Qs es es' with
   | false=>exact ⟨fun h=>h.elim,fun ⟨q,hq,_⟩=>by cases hq⟩
   | true =>
    simp only [cond_true]
    cases decide (0<=i/\i<(len:Int)) with
    | false=>exact ⟨fun h=>h.elim,fun ⟨q,hq,_⟩=>by cases hq⟩
    | true=>exact Zvt
  | _=>simp only [Zbz,hb]; exact ⟨fun h=>h.elim,fun ⟨q,hq,_⟩=>by cases hq⟩
 ·rename_i es' elems
  simp only [Zbz]
  cases Qs es es' with
  | false=>exact ⟨fun h=>h.elim,fun ⟨q,hq,_⟩=>by cases hq⟩
  | true =>
   simp only [cond_true]
   cases decide (0<=i) with
   | false=>exact ⟨fun h=>h.elim,fun ⟨q,hq,_⟩=>by cases hq⟩
   | true =>
    simp only [cond_true]
    cases elems[i.toNat]? with
    | none=>exact ⟨fun h=>h.elim,fun ⟨q,hq,_⟩=>by cases hq⟩
    | some e=>exact Zvt
 ·exact Got.iff
theorem Zts {t:TypeId} {a x:Operand} {ti:TI} {id idx sub:Nat} {xs:List AV} {es:Nat} {elems:List (List AV)} {mt pu:Bool} {K:AV × Eff->Prop} (ht:T t=some ti) (ha:ev a = .ptr id idx sub) (hx:cellsOf (ev x)=some xs) (hb:h id = .row es elems mt pu) :
  Zvf ti id idx sub xs es elems mt pu K↔∃ q,aop T ok k ev h (.store t a x)=some q/\K q:=by
 rw [Zd6 _ trivial]
 simp only [aopA,ht,ha,hx,hb,Zvf]
 cases (mt&&xs.all AV.one&&Qs xs.length ti.size) with
 | false=>exact ⟨fun h=>h.elim,fun ⟨q,hq,_⟩=>by cases hq⟩
 | true =>
  simp only [cond_true]
  cases elems[idx]? with
  | none=>exact ⟨fun h=>h.elim,fun ⟨q,hq,_⟩=>by cases hq⟩
  | some cells =>
   simp only [Got]
   cases Su (sub+xs.length) cells.length with
   | false=>exact ⟨fun h=>h.elim,fun ⟨q,hq,_⟩=>by cases hq⟩
   | true =>
    simp only [cond_true,Yah,Zbs]
    exact ⟨fun h=>⟨_,rfl,h⟩,fun ⟨q,hq,hk⟩=>by cases hq; exact hk⟩
theorem Ztd (op:Op) {K:AV × Eff->Prop}:aopK T ok k ev h op K↔∃ q,aop T ok k ev h op=some q/\K q:=by
 unfold aopK
 split
 ·rename_i c a b
  split
  ·rename_i p hc; exact Zv8 hc
  ·exact Got.iff
 ·rename_i t a
  split
  ·rename_i ti ht; exact Zwn ht
  ·exact Got.iff
 ·rename_i t x i
  split
  ·rename_i ti te kk n h1 h2 h3
   split
   ·rename_i e hd
    rw [Zd6 _ trivial]
    simp only [aopA,h1,h2,h3,hd]
    exact Zug
   ·rename_i len e hd
    rw [Zd6 _ trivial]
    simp only [aopA,h1,h2,h3,hd,Zxc]
    cases decide (0<=n/\n<(len:Int)) with
    | false=>exact ⟨fun h=>h.elim,fun ⟨q,hq,_⟩=>by cases hq⟩
    | true=>exact Got.iff
   ·exact Got.iff
  ·exact Got.iff
 ·rename_i t x i
  split
  ·rename_i ti s kk n h1 h2 h3
   split
   ·rename_i hd
    rw [Zd6 _ trivial]
    simp only [aopA,h1,h2,h3,hd]
    refine Zs2 ?_
    cases s.data.toList[n.toNat]? with
    | none=>exact ⟨fun h=>h.elim,fun ⟨q,hq,_⟩=>by cases hq⟩
    | some e=>exact ⟨fun h=>⟨_,rfl,h⟩,fun ⟨q,hq,hk⟩=>by cases hq; exact hk⟩
   ·exact Got.iff
  ·exact Got.iff
 ·rename_i t a x
  split
  ·rename_i ti id idx sub xs h1 h2 h3
   split
   ·rename_i es elems mt pu hb; exact Zts h1 h2 h3 hb
   ·exact Got.iff
  ·exact Got.iff
 ·rename_i t x y ty
  split
  ·rename_i k1 a k2 b h1 h2
   cases hk:decide (k1=k2) with
   | false=>exact Got.iff
   | true =>
    simp only [cond_true]
    have e:aopA T ok k ev h (.binOp .quo t x y ty)=ret (cond (decide (b=0)) none (some (.int k1 (k1.wrap (a.tdiv b))))):=by
     simp only [aopA,h1,h2,Zy1,hk,cond_true,Zw0]
    cases hb:decide (b=0) with
    | true =>
     refine ⟨fun h=>h.elim,fun ⟨q,hq,_⟩=>?_⟩
     unfold aop at hq
     rw [e,hb] at hq
     simp only [cond_true,ret,aopB,h1,h2,Zpg] at hq
     cases hq
    | false =>
     rw [hb] at e
     rw [Zgy e]
     exact ⟨fun h=>⟨_,rfl,h⟩,fun ⟨q,hq,hk⟩=>by cases hq; exact hk⟩
  ·exact Got.iff
 ·rename_i t x y ty
  split
  ·rename_i k1 a k2 b h1 h2
   cases hk:decide (k1=k2) with
   | false=>exact Got.iff
   | true =>
    simp only [cond_true]
    have e:aopA T ok k ev h (.binOp .rem t x y ty)=ret (cond (decide (b=0)) none (some (.int k1 (a.tmod b)))):=by
     simp only [aopA,h1,h2,Zy1,hk,cond_true,Zw0]
    cases hb:decide (b=0) with
    | true =>
     refine ⟨fun h=>h.elim,fun ⟨q,hq,_⟩=>?_⟩
     unfold aop at hq
     rw [e,hb] at hq
     simp only [cond_true,ret,aopB,h1,h2,Zpg] at hq
     cases hq
    | false =>
     rw [hb] at e
     rw [Zgy e]
     exact ⟨fun h=>⟨_,rfl,h⟩,fun ⟨q,hq,hk⟩=>by cases hq; exact hk⟩
  ·exact Got.iff
 ·rename_i t ps
  rw [Zd6 _ trivial]
  simp only [aopA]
  have none_iff:False↔∃ q,(none:Option (AV × Eff))=some q/\K q:=⟨fun h=>h.elim,fun ⟨q,hq,_⟩=>by cases hq⟩
  have fill:∀ (place:Nat->Option (Nat × Nat)) (cells:List AV),Zum place cells (Ur ev ps) (fun out=>K (.agg out,.none))↔∃ q,(match Zb0 place cells (Ur ev ps) with
    | some out=>some (AV.agg out,Eff.none)
    | none=>none)=some q/\K q:=by
   intro place cells
   rw [Zou]
   cases Zb0 place cells (Ur ev ps) with
   | none=>exact ⟨fun ⟨q,hq,_⟩=>(by cases hq),fun ⟨q,hq,_⟩=>(by cases hq)⟩
   | some out=>exact ⟨fun ⟨q,hq,hk⟩=>by cases hq; exact ⟨_,rfl,hk⟩,fun ⟨q,hq,hk⟩=>by cases hq; exact ⟨_,rfl,hk⟩⟩
  cases T t with
  | none=>exact none_iff
  | some ti =>
   dsimp only
   cases ti.desc with
   | struct fs =>
    dsimp only
    cases Zap T fs.toList with
    | none=>exact none_iff
    | some l=>exact fill _ _
   | array n e =>
    dsimp only
    cases T e with
    | none=>exact none_iff
    | some te=>exact fill _ _
   | _=>exact none_iff
 ·rename_i t l c
  have none_iff:False↔∃ q,(none:Option (AV × Eff))=some q/\K q:=⟨fun h=>h.elim,fun ⟨q,hq,_⟩=>by cases hq⟩
  have ha:aop T ok k ev h (.makeSlice t l c)=aopB T k ev h (.makeSlice t l c):=rfl
  rw [ha]
  unfold aopB
  dsimp only
  cases T t with
  | none=>exact none_iff
  | some ti =>
   dsimp only
   cases ti.desc with
   | slice e =>
    dsimp only
    cases T e with
    | none=>exact none_iff
    | some te =>
     dsimp only
     cases (Znk l c&&Qs te.zero.length te.size&&Pp 0 te.size&&Yo te.zero&&Su (1000000*te.bytes) 140737488355328) with
     | false=>exact none_iff
     | true =>
      simp only [cond_true]
      cases ev l with
      | int kk a =>
       dsimp only
       exact Zs2 ⟨fun h=>⟨_,rfl,h⟩,fun ⟨q,hq,hk⟩=>by cases hq; exact hk⟩
      | _=>exact none_iff
   | _=>exact none_iff
 ·exact Got.iff
theorem aopK.cases {op:Op} {K:AV × Eff->Prop} (hk:aopK T ok k ev h op K):∃ q,aop T ok k ev h op=some q/\K q:=(Ztd op).1 hk
theorem aopK.of {op:Op} {K:AV × Eff->Prop} {q:AV × Eff} (ha:aop T ok k ev h op=some q) (hk:K q):aopK T ok k ev h op K:=(Ztd op).2 ⟨q,ha,hk⟩
def aopSK (T:Tab) (ok:TypeId->Bool) (k:Nat) (ev:Operand->AV) (h:Nat->ABlk) (op:Op) (K:AV × Eff->Prop):Prop :=
 match op with
 | .load t a=>aopK T ok k ev h (.load t a) K
 | .indexAddr t x i=>aopK T ok k ev h (.indexAddr t x i) K
 | op=>Got (aopA T ok k ev h op) K
theorem aopSK.cases {op:Op} {K:AV × Eff->Prop} (hk:aopSK T ok k ev h op K):∃ q,aopA T ok k ev h op=some q/\K q:=by
 unfold aopSK at hk
 split at hk
 ·obtain ⟨q,hq,hk⟩:=aopK.cases hk
  rw [Zd6 _ trivial] at hq
  exact ⟨q,hq,hk⟩
 ·obtain ⟨q,hq,hk⟩:=aopK.cases hk
  rw [Zd6 _ trivial] at hq
  exact ⟨q,hq,hk⟩
 ·exact Got.cases hk
def Zwx {α:Type}:List α->Bool
 | []=>true
 | _=>false
def limB (b:Nat):Nat:=cond (Su b 8) 17592186044416 (140737488355328 / b)
theorem Zwo {b n:Nat} (h:n<=limB b):n<=17592186044416/\n*b<=140737488355328:=by
 unfold limB at h
 cases hb:Su b 8 with
 | true =>
  rw [hb] at h
  have hb:=Qm hb
  have h:n<=17592186044416:=h
  exact ⟨h,Re (Nat.mul_le_mul h hb) (by omega)⟩
 | false =>
  rw [hb] at h
  have h:n<=140737488355328 / b:=h
  have hb:8<b:=by
   rcases Nat.lt_or_ge 8 b with q|q
   ·exact q
   ·rw [Nat.ble_eq_true_of_le q] at hb; cases hb
  have h2:=(Nat.le_div_iff_mul_le (by omega)).1 h
  have h3:n*8<=n*b:=Nat.mul_le_mul_left n (by omega)
  exact ⟨by omega,h2⟩
def appK (k:Nat) (h:Nat->ABlk) (te:TI) (x y:AV) (K:AV × Eff->Prop):Prop :=
 match Yv te.size h y with
 | none=>False
 | some (ys,py)=>match x with
  | .nils=>Br (Zwx ys) (K (.nils,.none)) (cond (Su (1000000*te.bytes) 140737488355328) (As (decide (ys.length<=limB te.bytes)) (K (.asl k 0 ys.length,.add (.row te.size ys true py)))) False)
  | .asl id idx len=>match h id with
   | .row es elems true px=>cond (Qs te.size es&&Su (1000000*te.bytes) 140737488355328) (cond (Qs idx 0)
     (As (decide (len=elems.length/\elems.length+ys.length<=limB te.bytes)) (As (Xs ys) (K (.asl k 0 (elems.length+ys.length),.app id (.row te.size (elems++ys) true (px&&py))))))
     (As (decide (len=(elems.drop idx).length/\(elems.drop idx).length+ys.length<=limB te.bytes)) (As (Xs ys) (As (decide (idx<=elems.length)) (K (.asl k 0 ((elems.drop idx).length+ys.length),.app id (.row te.size (elems.drop idx++ys) true (px&&py)))))))) False
   | _=>False
  | _=>Got (Zhp k h te x y) K
theorem Yaa {α:Type} {l:List α} (h:Zwx l=true):l=[]:=by cases l; rfl; cases h
theorem Yab {α:Type} {l:List α} (h:Zwx l=false):∃ a m,l=a::m:=by cases l; cases h; exact ⟨_,_,rfl⟩
theorem Zb1 {b:Bool} {A:Prop} (h:cond b A False):b=true/\A:=by cases b; exact h.elim; exact ⟨rfl,h⟩
section
variable {r r' : Locs} {D:Nat->Prop} {I:Imm} {w w0:World} {I0:Imm} {B n k:Nat} {pr:Nat->Obj->Prop} {h:Nat->ABlk} {P:Program} {ty:TypeId}
theorem Zel {T:Tab} (hT:TabOK P T) {t tx e e' : TypeId} (ht:P.underlying t=some (.slice e)) (htx:P.underlying tx=some (.slice e')) {te:TI} (hte:T e=some te) (H:HR B w0 I0 pr r I D h n w) (hk:¬ D k) (hkn:k<n)
  {y:AV} {u v:Value} {id idx len:Nat} {elems:List (List AV)} {px py:Bool} (hx:VR r I w D (.asl id idx len) u) (hy:VR r I w D y v) (hys:Yv te.size h y=some ([],py)) (hb:h id = .row te.size elems true px) (hl:idx+len=elems.length) :
  Gives P B w0 I0 pr r I D h n k (Wk #[t,tx] ty #[u,v]) w (.asl k 0 len) (.app id (.row te.size (elems.drop idx++[]) true (px&&py))):=by
 obtain ⟨i,hi,g1,g2,z,hz,g3,_⟩:=hT.info e te hte
 obtain ⟨a,c,news,rfl,Ey⟩:=Zab H hy hys
 have hB:=H.blk id
 rw [hb] at hB
 obtain ⟨⟨hb1,hb2⟩,hb3,_⟩:=hB
 obtain ⟨base,sCap,rfl,hbase,hcapv⟩:∃ base sCap,u = .slice base len sCap/\base=some ⟨(r id).blk,(r id).off+idx*te.size,none⟩/\sCap=(r id).cap-idx:=by
  cases hx with
  | asl _ _ _ _ hd hc=>exact ⟨_,_,rfl,by rw [hb1],rfl⟩
 subst hbase
 subst hcapv
 have hrun:=Za6 (P:=P) (w:=w) (ty:=ty) (base:=some ⟨(r id).blk,(r id).off+idx*te.size,none⟩) (a:=a) (sCap:=(r id).cap-idx) (c:=c) (m:=len) ht htx hi (by omega)
 obtain ⟨m1,m2⟩:=H.moveExt (k:=k) (pn:=py) (new:=[]) (idx:=idx) hk hkn hb (by omega) (by simpa using hb3) (fun i e hi=>by simp at hi) (fun i e j c hi=>by simp at hi)
 have hD:(fun i=>D i\/((Eff.app id (.row te.size (elems.drop idx++[]) true (px&&py))).adds=true/\i=k))=(fun i=>D i\/i=k):=funext fun i=>by simp [Mr]
 unfold Gives
 rw [hD]
 refine ⟨_,_,_,hrun,?_,m2,?_⟩
 ·simp only [Eff.go]; exact m1
 ·have:=VR.asl (r:=rupd r k ⟨(r id).blk,(r id).off+idx*te.size,(r id).cap-idx,te.size,elems.length-idx+([]:List (List AV)).length⟩) (I:=I) (w:=w) (fun i=>D i\/i=k) k 0 len (.inr rfl) (by simp only [rupd,if_true,Rh]; omega)
  simpa [rupd] using this
theorem Zuu {T:Tab} (hT:TabOK P T) {t tx e e' : TypeId} (ht:P.underlying t=some (.slice e)) (htx:P.underlying tx=some (.slice e')) {te:TI} (hte:T e=some te) (H:HR B w0 I0 pr r I D h n w) (hk:¬ D k) (hkn:k<n)
  {x y:AV} {u v:Value} (hx:VR r I w D x u) (hy:VR r I w D y v) {K:AV × Eff->Prop} (hK:appK k h te x y K):∃ res eff,Gives P B w0 I0 pr r I D h n k (Wk #[t,tx] ty #[u,v]) w res eff/\K (res,eff):=by
 have old:∀ res eff,Zhp k h te x y=some (res,eff)->K (res,eff)->∃ res eff,Gives P B w0 I0 pr r I D h n k (Wk #[t,tx] ty #[u,v]) w res eff/\K (res,eff) :=
  fun res eff ha hk2=>⟨res,eff,Zh1 hT ht htx hte H hk hkn hx hy ha,hk2⟩
 unfold appK at hK
 split at hK
 ·exact hK.elim
 ·rename_i ys py hys
  split at hK
  ·have hk0:=hK.cases
   clear hK
   rcases hk0 with ⟨hb,hK⟩|⟨hb,hK⟩
   ·have:=Yaa hb
    subst this
    refine old _ _ ?_ hK
    unfold Zhp; rw [hys]
   ·obtain ⟨y0,yt,rfl⟩:=Yab hb
    obtain ⟨c1,hK⟩:=Zb1 hK
    obtain ⟨c2,hK⟩:=hK.cases
    have c1:=Qm c1
    have c2:=of_decide_eq_true c2
    obtain ⟨c2,c3⟩:=Zwo c2
    refine old _ _ ?_ hK
    unfold Zhp
    rw [hys]
    dsimp only
    rw [show Yv te.size h .nils=some ([],true) from rfl]
    dsimp only
    rw [show (Su (([]:List (List AV)).length+(y0::yt).length) 17592186044416&&Su ((([]:List (List AV)).length+(y0::yt).length)*te.bytes) 140737488355328)=true by
     rw [Qc,Do,Do]
     simp only [Rh,Nat.zero_add]
     omega]
    simp
  ·rename_i id idx len
   split at hK
   ·rename_i es elems px hq
    obtain ⟨c1,hk0⟩:=Zb1 hK
    clear hK
    simp only [Qc] at c1
    obtain ⟨d1,d3⟩:=c1
    have d1:=Qh d1
    have d3:=Qm d3
    subst d1
    have key:∀ l:List (List AV),(elems.drop idx).take len=l->elems.drop idx=l->len=l.length->l.length+ys.length<=limB te.bytes->Xs ys=true->idx+len=elems.length->K (.asl k 0 (l.length+ys.length),.app id (.row te.size (l++ys) true (px&&py))) ->
      ∃ res eff,Gives P B w0 I0 pr r I D h n k (Wk #[t,tx] ty #[u,v]) w res eff/\K (res,eff):=by
     intro l hl hl2 hlen c5 c3 hix hK
     cases ys with
     | nil =>
      subst hl2
      have g:=Zel (ty:=ty) hT ht htx hte H hk hkn hx hy hys hq hix
      rw [hlen] at g
      exact ⟨_,_,g,hK⟩
     | cons y0 yt =>
      refine old _ _ ?_ hK
      unfold Zhp
      rw [hys]
      dsimp only
      obtain ⟨c5,c6⟩:=Zwo c5
      have hs:Yv te.size h (.asl id idx len)=some (l,px):=by
       unfold Yv
       dsimp only
       rw [hq]
       dsimp only
       rw [show Qs te.size te.size=true by simp,hl]
       rfl
      rw [hs]
      dsimp only
      rw [show (Su (l.length+(y0::yt).length) 17592186044416&&Su ((l.length+(y0::yt).length)*te.bytes) 140737488355328)=true by
       rw [Qc,Do,Do]
       omega,hq]
      dsimp only
      rw [show (Qs (idx+len) elems.length&&Xs (y0::yt))=true by rw [c3,hix]; simp]
      rfl
    cases d2:Qs idx 0 with
    | true =>
     rw [d2] at hk0
     obtain ⟨c2,hk2⟩:=hk0.cases
     obtain ⟨c3,hk3⟩:=hk2.cases
     obtain ⟨c4,c5⟩:=of_decide_eq_true c2
     have d2:=Qh d2
     exact key elems (by rw [d2,c4]; simp) (by rw [d2]; rfl) c4 c5 c3 (by omega) hk3
    | false =>
     rw [d2] at hk0
     obtain ⟨c2,hk2⟩:=hk0.cases
     obtain ⟨c3,hk3⟩:=hk2.cases
     obtain ⟨c7,hk4⟩:=hk3.cases
     obtain ⟨c4,c5⟩:=of_decide_eq_true c2
     have c7:=of_decide_eq_true c7
     exact key (elems.drop idx) (by rw [c4]; exact List.take_length) rfl c4 c5 c3 (by rw [List.length_drop] at c4; omega) hk4
   ·exact hK.elim
  ·obtain ⟨⟨res,eff⟩,h1,h2⟩:=Got.cases hK
   exact old _ _ h1 h2
end
inductive Ap (A A' A'' : Prop):Prop
 | old (h:A):Ap A A' A''
 | new (h:A'):Ap A A' A''
 | fit (h:A''):Ap A A' A''
def apG (T:Tab) (k:Nat) (ev:Operand->AV) (h:Nat->ABlk) (c:Call) (K:AV × Eff->Prop):Prop :=
 match c.argTypes.toList,c.args.toList with
 | [t,tx],[x,y]=>match T t,T tx with
  | some ti,some tj=>match ti.desc,tj.desc with
   | .slice e,.slice _=>match T e with
    | some te=>appK k h te (ev x) (ev y) K
    | none=>False
   | _,_=>False
  | _,_=>False
 | _,_=>False
theorem Zy6 {P:Program} {r:Locs} {D:Nat->Prop} {I:Imm} {w w0:World} {I0:Imm} {B n k:Nat} {pr:Nat->Obj->Prop} {h:Nat->ABlk} {T:Tab} (hT:TabOK P T) (H:HR B w0 I0 pr r I D h n w) (hk:¬ D k) (hkn:k<n) (o:Oper) {ρ:Operand->Value} {ev:Operand->AV}
  (hev:∀ x,VR r I w D (ev x) (ρ x)) {c:Call} (ho:o.op = .call c) (hc:c.callee = .builtin .append) {K:AV × Eff->Prop} (hK:apG T k ev h c K):∃ p,Uy P B w0 I0 pr r I D h n k (execOp ρ o) w p.1 p.2/\K p:=by
 obtain ⟨dst,op,type,pos,after,guard⟩:=o
 dsimp only at ho
 subst ho
 obtain ⟨callee,args,ats⟩:=c
 dsimp only at hc
 subst hc
 unfold apG at hK
 dsimp only at hK
 split at hK
 ·rename_i t tx x y ht hx
  split at hK
  ·rename_i ti tj hti htj
   split at hK
   ·rename_i e1 e2 d1 d2
    split at hK
    ·rename_i te hte
     have h1:=hT.und t ti hti
     have h2:=hT.und tx tj htj
     rw [d1] at h1; rw [d2] at h2
     have e3:ats = #[t,tx]:=by apply Oz; simpa using ht
     have e4:args = #[x,y]:=by apply Oz; simpa using hx
     subst e3
     subst e4
     obtain ⟨res,eff,g,hK2⟩:=Zuu (ty:=type) hT h1 h2 hte H hk hkn (hev x) (hev y) hK
     obtain ⟨x1,w1,r1,I1,q1,q2⟩:=g.op.toI
     refine ⟨(res,eff),⟨x1,w1,r1,I1,?_,q2⟩,hK2⟩
     simpa [execOp,resolve,invoke,builtin] using q1
    ·exact hK.elim
   ·exact hK.elim
  ·exact hK.elim
 ·exact hK.elim
variable {r r' : Locs} {D D' : Nat->Prop} {I I' : Imm} {w w' w0:World} {I0:Imm} {B n n' k:Nat} {pr:Nat->Obj->Prop} {h:Nat->ABlk} {P:Program} {ty:TypeId}
def Fits:Prop:=True
theorem Ap.fitF {A A' A'' : Prop} (_:Fits) (h:A''):Ap A A' A'':=.fit h
def fitK (h:Nat->ABlk) (te:TI) (x y:AV) (K:AV × Eff->Prop):Prop :=
 match Yv te.size h y with
 | none=>False
 | some (ys,py)=>match x with
  | .asl id idx len=>match h id with
   | .row es elems true px=>cond (Qs te.size es) (As (decide (idx+len+ys.length<=elems.length)) (As (Xs ys) (K (.asl id idx (len+ys.length),.put id (.row te.size (Zmk elems (idx+len) ys) true (px&&py)))))) False
   | _=>False
  | _=>False
theorem Zul {T:Tab} (hT:TabOK P T) {t tx e e' : TypeId} (ht:P.underlying t=some (.slice e)) (htx:P.underlying tx=some (.slice e')) {te:TI} (hte:T e=some te) (H:HR B w0 I0 pr r I D h n w)
  {x y:AV} {u v:Value} (hx:VR r I w D x u) (hy:VR r I w D y v) {K:AV × Eff->Prop} (hK:fitK h te x y K):∃ res eff,Gives P B w0 I0 pr r I D h n k (Wk #[t,tx] ty #[u,v]) w res eff/\K (res,eff):=by
 obtain ⟨i,hi,g1,g2,z,hz,g3,_⟩:=hT.info e te hte
 unfold fitK at hK
 split at hK
 ·exact hK.elim
 rename_i ys py hys
 split at hK
 ·rename_i id idx len
  split at hK
  ·rename_i es elems px hq
   obtain ⟨c1,hk0⟩:=Zb1 hK
   clear hK
   have c1:=Qh c1
   subst c1
   obtain ⟨c2,hk1⟩:=hk0.cases
   obtain ⟨c3,hk2⟩:=hk1.cases
   have c2:=of_decide_eq_true c2
   obtain ⟨a,c,news,rfl,Ey⟩:=Zab H hy hys
   have hB:=H.blk id
   rw [hq] at hB
   obtain ⟨⟨hb1,hb2⟩,hb3,_⟩:=hB
   obtain ⟨base,sCap,rfl,hbase,hcapv,hdd⟩:∃ base sCap,u = .slice base len sCap/\base=some ⟨(r id).blk,(r id).off+idx*te.size,none⟩/\sCap=(r id).cap-idx/\D id:=by
    cases hx with
    | asl _ _ _ _ hd hc=>exact ⟨_,_,rfl,by rw [hb1],rfl,hd⟩
   subst hbase
   subst hcapv
   have hnl:news.length=ys.length*te.size:=Ey.len
   obtain ⟨cs,T',k1,k2,k3,k4⟩:=H.overlay (ys:=ys) (py:=py) hq (vs:=news.toArray) (p:=idx+len) c2 (by simpa using hnl) Ey.each (fun i e j c hi hj=>by
    obtain ⟨v,a,b⟩:=Ey.cells i e j c hi hj
    exact ⟨v,by simpa using a,b⟩)
   have hone:∀ v∈news,v.oneCell'=true:=by
    intro v hv
    obtain ⟨q,hq,rfl⟩:=List.getElem_of_mem hv
    rw [hnl] at hq
    have hes:0<te.size:=by rcases Nat.eq_zero_or_pos te.size with e|e; rw [e] at hq; simp at hq; exact e
    have q1:q / te.size<ys.length:=(Nat.div_lt_iff_lt_mul hes).2 hq
    have q2:q%te.size<te.size:=Nat.mod_lt _ hes
    have q3:q / te.size*te.size+q%te.size=q:=by rw [Nat.mul_comm]; exact Nat.div_add_mod _ _
    have hi1:ys[q / te.size]?=some ys[q / te.size]:=Qe q1
    have hjl:q%te.size<(ys[q / te.size]).length:=by have:=Ey.each _ _ hi1; omega
    obtain ⟨v,a,b⟩:=Ey.cells _ _ _ _ hi1 (Qe hjl)
    rw [q3] at a
    have:news[q]=v:=by rw [Qe (by omega)] at a; exact Sr a
    rw [this]
    refine b.one ?_
    have h5:=Rf.1 c3 _ (Qn q1)
    exact Rf.1 h5 _ (Qn hjl)
   have hst:=run_storeCells_at P (r id).blk ((r id).off+(idx+len)*te.size) T' news 0 cs w k1 (by simpa using k2) hone
   have hadd:((⟨(r id).blk,(r id).off+idx*te.size,none⟩:Addr).add (len*i.size))=⟨(r id).blk,(r id).off+(idx+len)*te.size,none⟩:=by
    rw [Xu,g1]
    congr 1
    rw [Nat.add_assoc,<-Nat.add_mul]
   have hrun:=Zdl (ty:=ty) (c:=c) (a:=a) (b:=⟨(r id).blk,(r id).off+idx*te.size,none⟩) (m:=len) (sCap:=(r id).cap-idx) ht htx hi (by rw [g1]; exact Ey) (by omega) (by rw [hadd]; exact hst)
   have hD:(fun i=>D i\/((Eff.put id (.row te.size (Zmk elems (idx+len) ys) true (px&&py))).adds=true/\i=k))=D:=funext fun i=>by simp [Mr]
   refine ⟨_,_,?_,hk2⟩
   unfold Gives
   rw [hD]
   refine ⟨_,_,_,hrun,k3,k4,?_⟩
   have:=VR.asl (r:=r) (I:=I) (w:=w.setRow (r id).blk (cs.toList.take ((r id).off+(idx+len)*te.size)++news.toArray.toList++cs.toList.drop ((r id).off+(idx+len)*te.size+news.toArray.toList.length)).toArray) D id idx (len+ys.length) hdd (by omega)
   rw [hb1] at this
   exact this
  ·exact hK.elim
 ·exact hK.elim
def apF (T:Tab) (ev:Operand->AV) (h:Nat->ABlk) (c:Call) (K:AV × Eff->Prop):Prop :=
 match c.argTypes.toList,c.args.toList with
 | [t,tx],[x,y]=>match T t,T tx with
  | some ti,some tj=>match ti.desc,tj.desc with
   | .slice e,.slice _=>match T e with
    | some te=>fitK h te (ev x) (ev y) K
    | none=>False
   | _,_=>False
  | _,_=>False
 | _,_=>False
theorem Zy7 {T:Tab} (hT:TabOK P T) (H:HR B w0 I0 pr r I D h n w) (_hk:¬ D k) (_hkn:k<n) (o:Oper) {ρ:Operand->Value} {ev:Operand->AV}
  (hev:∀ x,VR r I w D (ev x) (ρ x)) {c:Call} (ho:o.op = .call c) (hc:c.callee = .builtin .append) {K:AV × Eff->Prop} (hK:apF T ev h c K):∃ p,Uy P B w0 I0 pr r I D h n k (execOp ρ o) w p.1 p.2/\K p:=by
 obtain ⟨dst,op,type,pos,after,guard⟩:=o
 dsimp only at ho
 subst ho
 obtain ⟨callee,args,ats⟩:=c
 dsimp only at hc
 subst hc
 unfold apF at hK
 dsimp only at hK
 split at hK
 ·rename_i t tx x y ht hx
  split at hK
  ·rename_i ti tj hti htj
   split at hK
   ·rename_i e1 e2 d1 d2
    split at hK
    ·rename_i te hte
     have h1:=hT.und t ti hti
     have h2:=hT.und tx tj htj
     rw [d1] at h1; rw [d2] at h2
     have e3:ats = #[t,tx]:=by apply Oz; simpa using ht
     have e4:args = #[x,y]:=by apply Oz; simpa using hx
     subst e3
     subst e4
     obtain ⟨res,eff,g,hK2⟩:=Zul (k:=k) (ty:=type) hT h1 h2 hte H (hev x) (hev y) hK
     obtain ⟨x1,w1,r1,I1,q1,q2⟩:=g.op.toI
     refine ⟨(res,eff),⟨x1,w1,r1,I1,?_,q2⟩,hK2⟩
     simpa [execOp,resolve,invoke,builtin] using q1
    ·exact hK.elim
   ·exact hK.elim
  ·exact hK.elim
 ·exact hK.elim
variable {r r' : Locs} {D D' : Nat->Prop} {I I' : Imm} {w w' w0:World} {I0:Imm} {B n n' k N:Nat} {pr pr' : Nat->Obj->Prop} {h:Nat->ABlk} {P:Program}
def Eff.st (σ:St):Eff->St
 | .none=>σ
 | .add b=>σ.add b
 | .put id b=>σ.set id b
 | .app id b=>(σ.set id .dead).add b
def evC:Operand->AV
 | .const (.bool b)=>.bool b
 | .const (.int k n)=>.int k n
 | .const (.float k n)=>.flt k n
 | .const (.complex k n m)=>.cpx k n m
 | .const (.string s)=>.str s
 | .const (.pointer none)=>.nilp
 | .const (.slice none 0 0)=>.nils
 | .func f=>.func f [] []
 | _=>.any
def evA (env:Env):Operand->AV
 | .tmp t=>env.get t
 | x=>evC x
theorem Xy {env:Env} {a:Act} (he:ER r I w D N env a.tmps) (x:Operand):VR r I w D (evA env x) (a.eval x):=by
 unfold evA
 split
 ·exact he.2 _
 unfold evC
 split
 ·exact .bool _ _
 ·exact .int _ _ _
 ·exact .flt _ _ _
 ·exact .cpx _ _ _ _
 ·exact .str _ _
 ·exact .nilp _
 ·exact .nils _
 ·exact .func _ _ _ _ _ _ rfl rfl (fun i c v hc=>by simp at hc) (fun i c v hc=>by simp at hc)
 ·exact .any _ _
structure Cx where
 T:Tab
 ok:TypeId->Bool
 call:FuncId->List AV->St->(AV->St->Prop)->Prop
def FnOK (P:Program) (f:FuncId):Prop:=∃ fn,P.funcs[f]?=some fn/\(fn.name == "runtime.NumGoroutine")=false/\fn.body.isNone=false
def SemCall (P:Program) (f:FuncId) (args:List AV) (σ:St) (K:AV->St->Prop):Prop :=
 ∀ (B:Nat) (w0:World) (I0:Imm) (pr:Nat->Obj->Prop) (r:Locs) (I:Imm) (D:Nat->Prop) (w:World) (vs:Array Value),HR B w0 I0 pr r I D σ.get σ.next w->VRs r I w D args vs ->
  CallsIn Ti 0 P f vs w fun e w'=>∃ x v σ' r' I' D',e = .returned x/\K v σ'/\HR B w0 I0 pr r' I' D' σ'.get σ'.next w'/\VR r' I' w' D' v x/\Step r D I w r' D' I' w'
structure CxOK (P:Program) (cx:Cx):Prop where
 tab:TabOK P cx.T
 eq:EqOK P cx.ok
 call:∀ f args σ K,cx.call f args σ K->FnOK P f/\SemCall P f args σ K
def Zt (N:Nat) (dst:Option Nat) (v:AV) (env:Env) (K:Env->Prop):Prop :=
 match dst with
 | none=>K env
 | some d=>Br (Pp d N) (K ((d,v)::env)) False
def Zq8 (cx:Cx) (fv:AV) (args:List AV) (σ:St) (K:AV->St->Prop):Prop :=
 match fv with
 | .func f c0 c1=>fL ((c0++args)++c1) fun aZ=>cx.call f aZ σ K
 | _=>False
theorem Zx0 (e:Eff) (σ:St) (K:St->Prop):fEff e σ K=K (e.st σ):=by
 obtain ⟨h,n⟩:=σ
 cases e<;>simp only [fEff,Yhd,Zov,Eff.st,St.add,St.set]
def vcOp (cx:Cx) (N:Nat) (o:Oper) (env:Env) (σ:St) (K:Env->St->Prop):Prop :=
 match o.op with
 | .call { callee:=.value f,args,.. }=>Zq8 cx (evA env f) (Xg (evA env) args.toList) σ fun v σ'=>fA v fun v=>Zt N o.dst v env fun env'=>fSt σ' fun σ'=>K env' σ'
 | .call { callee:=.builtin .append,args:=l,argTypes:=ts }=>Ap (aopK cx.T cx.ok σ.next (evA env) σ.get (.call { callee:=.builtin .append,args:=l,argTypes:=ts }) fun p=>fA p.1 fun v=>Zt N o.dst v env fun env'=>fEff p.2 σ fun σ'=>K env' σ')
   (apG cx.T σ.next (evA env) σ.get { callee:=.builtin .append,args:=l,argTypes:=ts } fun p=>fA p.1 fun v=>Zt N o.dst v env fun env'=>fEff p.2 σ fun σ'=>K env' σ')
   (apF cx.T (evA env) σ.get { callee:=.builtin .append,args:=l,argTypes:=ts } fun p=>fA p.1 fun v=>Zt N o.dst v env fun env'=>fEff p.2 σ fun σ'=>K env' σ')
 | op=>aopK cx.T cx.ok σ.next (evA env) σ.get op fun p=>fA p.1 fun v=>Zt N o.dst v env fun env'=>fEff p.2 σ fun σ'=>K env' σ'
def Yq (ops:List Oper) (j:Nat):Option Nat:=(ops[j]?).bind (·.dst)
def Zdb (cx:Cx) (N:Nat) (ops:List Oper):List Oper->Env->St->(Env->St->Prop)->Prop
 | [],env,σ,K=>K env σ
 | o::rest,env,σ,K =>
  match o.guard with
  | none=>vcOp cx N o env σ fun env' σ'=>Zdb cx N ops rest env' σ' K
  | some (j,want) =>
   match Yq ops j with
   | none=>False
   | some t=>match env.get t with
    | .bool b=>Br b
     (match want with
      | true=>vcOp cx N o ((t,.bool true)::env) σ fun env' σ'=>Zdb cx N ops rest env' σ' K
      | false=>Zt N o.dst (.tup []) ((t,.bool true)::env) fun env'=>Zdb cx N ops rest env' σ K)
     (match want with
      | false=>vcOp cx N o ((t,.bool false)::env) σ fun env' σ'=>Zdb cx N ops rest env' σ' K
      | true=>Zt N o.dst (.tup []) ((t,.bool false)::env) fun env'=>Zdb cx N ops rest env' σ K)
    | .tup []=>Zt N o.dst (.tup []) env fun env'=>Zdb cx N ops rest env' σ K
    | _=>False
structure SR (B:Nat) (w0:World) (I0:Imm) (pr:Nat->Obj->Prop) (N:Nat) (r:Locs) (I:Imm) (D:Nat->Prop) (env:Env) (σ:St) (a:Act) (w:World):Prop where
 hr:HR B w0 I0 pr r I D σ.get σ.next w
 er:ER r I w D N env a.tmps
def FOK (F:Fence):Prop:=F=Ti\/∃ l,F=Fence.wide.inRound l
theorem FOK.fn {F:Fence} (h:FOK F) (f:FuncId):F.fn f:=by rcases h with rfl|⟨l,rfl⟩<;>trivial
theorem FOK.depth {F:Fence} (h:FOK F):F.depth=none:=by rcases h with rfl|⟨l,rfl⟩<;>rfl
theorem Eff.st_get (σ:St) (e:Eff):(e.st σ).get=e.go σ.next σ.get:=by
 cases e<;>funext i<;>simp only [Eff.st,Eff.go]
 ·simp [Di,hupd]
 ·simp [Kt,hupd]
 ·rename_i id b
  simp only [Di,hupd,Kt]
  rfl
theorem Eff.st_next (σ:St) (e:Eff):(e.st σ).next=σ.next+if e.adds then 1 else 0:=by cases e<;>simp [Eff.st,Mr,St.add,St.set]
theorem HR.more (H:HR B w0 I0 pr r I D h n w) (hn:n<=n'):HR B w0 I0 pr r I D h n' w :=
 ⟨H.below,H.base,H.imm,fun id hd=>⟨Nat.lt_of_lt_of_le (H.dom id hd).1 hn,(H.dom id hd).2⟩,H.live,H.blk,H.inj,H.prot,H.protK,H.immB⟩
theorem HR.fewer (H:HR B w0 I0 pr r I D h n w) (hd:∀ id,D id->id<n'):HR B w0 I0 pr r I D h n' w :=
 ⟨H.below,H.base,H.imm,fun id h'=>⟨hd id h',(H.dom id h').2⟩,H.live,H.blk,H.inj,H.prot,H.protK,H.immB⟩
def Leaves (B:Nat) (w0:World) (I0:Imm) (pr:Nat->Obj->Prop) (N:Nat) (r:Locs) (I:Imm) (D:Nat->Prop) (w:World) (ds:List Deferred) (K:Env->St->Prop) (a' : Act) (w' : World):Prop :=
 ∃ env' σ' r' I' D',K env' σ'/\SR B w0 I0 pr N r' I' D' env' σ' a' w'/\a'.defers=ds/\Step r D I w r' D' I' w'
theorem Zed {env:Env} {σ' : St} {a:Act} {dst:Option Nat} {v:AV} {x:Value} {K:Env->St->Prop} (hr:HR B w0 I0 pr r' I' D' σ'.get σ'.next w') (he:ER r I w D N env a.tmps) (hs:Step r D I w r' D' I' w') (hv:VR r' I' w' D' v x)
  (hk:Zt N dst v env fun env'=>K env' σ'):Leaves B w0 I0 pr N r I D w a.defers K (a.put dst x) w':=by
 cases dst with
 | none=>exact ⟨env,σ',r',I',D',hk,⟨hr,he.mono hs⟩,rfl,hs⟩
 | some d =>
  simp only [Zt] at hk
  rcases Br.cases hk with ⟨h1,h2⟩|⟨_,h2⟩
  ·have hd:d<N:=by simpa [Nat.blt_eq] using h1
   exact ⟨(d,v)::env,σ',r',I',D',h2,⟨hr,(he.mono hs).put hd hv⟩,rfl,hs⟩
  ·exact h2.elim
theorem Ux {F:Fence} (hF:FOK F) (o:Oper) (a:Act) (w:World):∀ f,o.about P w a.eval=some f->F.fn f:=fun f _=>hF.fn f
theorem Zbh {F:Fence} (hF:FOK F) {f:FuncId} {args:Array Value} {w:World} {R:Ending->World->Prop} (h:CallsIn Ti 0 P f args w R):CallsIn F 0 P f args w R:=by
 rcases hF with rfl|⟨l,rfl⟩
 ·exact h
 ·exact CallsIn.inRound l h
theorem Zd8 {cx:Cx} (hcx:CxOK P cx) {F:Fence} (hF:FOK F) (o:Oper) (ho:∀ c,o.op ≠ .defer c) {env:Env} {σ:St} {a:Act} (S:SR B w0 I0 pr N r I D env σ a w) {K:Env->St->Prop} {Q:Exit->Act->World->Prop} {next:Act->World->Prop}
  (hvc:vcOp cx N o env σ K) (hnext:∀ a' w',Leaves B w0 I0 pr N r I D w a.defers K a' w'->next a' w'):o.wpIn F 0 P a w next Q:=by
 refine ⟨Ux hF o a w,?_⟩
 rw [Oper.semAt_eq _ _ _ ho]
 have hk:¬ D σ.next:=fun hd=>Nat.lt_irrefl _ (S.hr.dom _ hd).1
 have main0:∀ p:AV × Eff,Uy P B w0 I0 pr r I D σ.get (σ.next+1) σ.next (execOp a.eval o) w p.1 p.2->(Zt N o.dst p.1 env fun env'=>K env' (p.2.st σ))->o.uponIn F 0 P a next Q ((execOp a.eval o).run P w):=by
  rintro ⟨v,e⟩ hp hput
  obtain ⟨x,w',r',I',h1,h2,h3,h4⟩:=hp
  have h2' : HR B w0 I0 pr r' I' (fun i=>D i\/(e.adds=true/\i=σ.next)) (e.st σ).get (e.st σ).next w':=by
   rw [Eff.st_get]
   refine h2.fewer (fun id hd=>?_)
   rw [Eff.st_next]
   rcases hd with hd|⟨ha,rfl⟩
   ·have:=(S.hr.dom id hd).1; omega
   ·simp [ha]
  have hl:=Zed (a:=a) h2' S.er h3 h4 hput
  rcases h1 with h1|⟨h1,rfl⟩
  ·rw [h1]; exact hnext _ _ hl
  ·rw [h1]; exact hnext _ _ hl
 have main:∀ p,aop cx.T cx.ok σ.next (evA env) σ.get o.op=some p->(Zt N o.dst p.1 env fun env'=>K env' (p.2.st σ))->o.uponIn F 0 P a next Q ((execOp a.eval o).run P w):=fun p hp hput =>
  main0 p (Zpi hcx.tab hcx.eq (S.hr.more (Ka σ.next)) hk (Ku _) o (Xy S.er) hp) hput
 unfold vcOp at hvc
 simp only [Zow,Zxy,Zx0] at hvc
 split at hvc
 ·rename_i f args ts hop
  unfold Zq8 at hvc
  simp only [Yah] at hvc
  split at hvc
  ·rename_i g c0 c1 hf
   obtain ⟨⟨fn,e1,e2,e3⟩,hsem⟩:=hcx.call _ _ _ _ hvc
   have hfv:=Xy S.er f
   rw [hf] at hfv
   obtain ⟨v0,v1,hv,k0,k1⟩:∃ v0 v1,a.eval f = .func (.func g) v0 v1/\VRs r I w D c0 v0/\VRs r I w D c1 v1:=by
    generalize a.eval f=z at hfv
    cases hfv with
    | func _ _ _ _ v0 v1 h0 h1 g0 g1=>exact ⟨v0,v1,rfl,⟨h0,g0⟩,⟨h1,g1⟩⟩
   have hargs:=Xp (fun x=>Xy S.er x) args
   have happ:∀ {l m:List AV} {u v:Array Value},VRs r I w D l u->VRs r I w D m v->VRs r I w D (l++m) (u++v):=by
    intro l m u v hu hv
    refine ⟨by simp [hu.1,hv.1],fun i c x hi hx=>?_⟩
    rw [Og] at hx
    by_cases hlt:i<u.size
    ·rw [List.getElem?_append_left (by rw [<-hu.1]; exact hlt)] at hi
     simp only [hlt,if_true] at hx
     exact hu.2 _ _ _ hi hx
    ·rw [List.getElem?_append_right (by rw [<-hu.1]; omega),<-hu.1] at hi
     simp only [hlt,if_false] at hx
     exact hv.2 _ _ _ hi hx
   have hc:=Zbh hF (hsem B w0 I0 pr r I D w _ S.hr (happ (happ k0 hargs) k1))
   have hrun:(execOp a.eval o).run P w = .ok (.enter g ((v0++args.map a.eval)++v1)) w:=by
    have:execOp a.eval o=(do let d <-resolve a.eval { callee:=.value f,args:=args,argTypes:=ts } o.type; invoke d.target d.args):=by
     unfold execOp; rw [hop]
    rw [this]
    have e2' : ¬ fn.name = "runtime.NumGoroutine" := by simpa using e2
    have e3' : ¬ fn.body=none:=by intro h; rw [h] at e3; simp at e3
    simp [resolve,hv,Deferred.ofValue,invoke,callFunc,e1,e2',e3']
   rw [hrun]
   refine ⟨fun hd=>by rw [hF.depth] at hd; simp at hd,?_⟩
   refine hc.mono fun e w' hh=>?_
   obtain ⟨x,v,σ',r',I',D',rfl,hk',hr',hv',hs'⟩:=hh
   exact hnext _ _ (Zed (a:=a) hr' S.er hs' hv' hk')
  ·exact hvc.elim
 ·rename_i l ts hop
  rcases hvc with hvc|hvc|hvc
  ·obtain ⟨p,hp,hput⟩:=aopK.cases hvc
   exact main p (by rw [hop]; exact hp) hput
  ·obtain ⟨p,hp,hput⟩:=Zy6 hcx.tab (S.hr.more (Ka σ.next)) hk (Ku _) o (Xy S.er) hop rfl hvc
   exact main0 p hp hput
  ·obtain ⟨p,hp,hput⟩:=Zy7 hcx.tab (S.hr.more (Ka σ.next)) hk (Ku _) o (Xy S.er) hop rfl hvc
   exact main0 p hp hput
 ·obtain ⟨p,hp,hput⟩:=aopK.cases hvc
  exact main p hp hput
theorem Zis {F:Fence} {n0:Nat} {o:Oper} {a:Act} {next next' : Act->World->Prop} {Q:Exit->Act->World->Prop} {x:Result Next} (h:∀ a w,next a w->next' a w) (hu:o.uponIn F n0 P a next Q x):o.uponIn F n0 P a next' Q x:=by
 unfold Oper.uponIn at *
 split<;>simp_all
 ·exact hu.2.mono fun e w' hh=>by cases e<;>simp_all
 ·exact hu.2.mono fun v w' hh=>h _ _ hh
 ·exact hu.2.mono fun e w' hh=>by cases e<;>simp_all
theorem Zg1 {ops:List Oper} {j t:Nat} (hj:Yq ops j=some t) (a:Act) (ht:t<a.tmps.size):yielded ops.toArray a.tmps j=match a.tmps.getD t undef with
  | .bool b=>some b
  | _=>none:=by
 unfold yielded
 have:(ops.toArray[j]?).bind (·.dst)=some t:=by simpa [Yq] using hj
 rw [this]
 simp only [Option.bind_some]
 simp only [ht,getElem?_pos]
 simp only [Qy,ht,getElem?_pos,Option.getD_some]
 cases a.tmps[t]<;>rfl
def Ya:List Oper->Bool
 | []=>true
 | o::l=>(match o.op with
  | .defer _=>false
  | _=>true)&&Ya l
theorem Zco {cx:Cx} (hcx:CxOK P cx) {F:Fence} (hF:FOK F) (ops:List Oper) {Q:Exit->Act->World->Prop} {K:Env->St->Prop}:∀ (l:List Oper),Ya l=true->∀ {r:Locs} {I:Imm} {D:Nat->Prop} {w:World} {env:Env} {σ:St} {a:Act},
  SR B w0 I0 pr N r I D env σ a w->Zdb cx N ops l env σ K->(∀ a' w',Leaves B w0 I0 pr N r I D w a.defers K a' w'->Q .normal a' w')->wpListIn F 0 P ops.toArray Q l a w
 | [],_,r,I,D,w,env,σ,a,S,hvc,hq=>hq _ _ ⟨env,σ,r,I,D,hvc,S,rfl,Pf _ _ _ _⟩
 | o::rest,hd,r,I,D,w,env,σ,a,S,hvc,hq=>by
  simp only [Ya,Qc] at hd
  obtain ⟨hd1,hd2⟩:=hd
  have ho:∀ c,o.op ≠ .defer c:=fun c e=>by rw [e] at hd1; simp at hd1
  have run:∀ env',SR B w0 I0 pr N r I D env' σ a w->vcOp cx N o env' σ (fun env' σ'=>Zdb cx N ops rest env' σ' K)->o.wpIn F 0 P a w (wpListIn F 0 P ops.toArray Q rest) Q:=by
   intro env' S' hv
   refine Zd8 hcx hF o ho S' hv (fun a' w' hl=>?_)
   obtain ⟨env2,σ2,r2,I2,D2,h1,h2,h3,h4⟩:=hl
   refine Zco hcx hF ops rest hd2 h2 h1 (fun a3 w3 hl3=>hq _ _ ?_)
   obtain ⟨env3,σ3,r3,I3,D3,g1,g2,g3,g4⟩:=hl3
   exact ⟨env3,σ3,r3,I3,D3,g1,g2,g3.trans h3,h4.trans g4⟩
  have skip:∀ env',SR B w0 I0 pr N r I D env' σ a w->(Zt N o.dst (.tup []) env' fun env'=>Zdb cx N ops rest env' σ K)->(∀ f,o.about P w a.eval=some f->F.fn f)/\wpListIn F 0 P ops.toArray Q rest (a.put o.dst undef) w:=by
   intro env' S' hv
   refine ⟨Ux hF o a w,?_⟩
   have hl:=Zed (a:=a) (dst:=o.dst) (x:=undef) (K:=fun e s=>Zdb cx N ops rest e s K) S'.hr S'.er (Pf _ _ _ _) (VR.tup D [] #[] rfl (fun i c v hc=>by cases hc)) hv
   obtain ⟨env2,σ2,r2,I2,D2,h1,h2,h3,h4⟩:=hl
   refine Zco hcx hF ops rest hd2 h2 h1 (fun a3 w3 hl3=>hq _ _ ?_)
   obtain ⟨env3,σ3,r3,I3,D3,g1,g2,g3,g4⟩:=hl3
   exact ⟨env3,σ3,r3,I3,D3,g1,g2,g3.trans h3,h4.trans g4⟩
  simp only [Zdb] at hvc
  cases hg:o.guard with
  | none =>
   rw [hg] at hvc
   refine wpListIn_step fun K0 hK=>?_
   simp only [Pq,hg,if_true]
   have:=run env S hvc
   refine ⟨this.1,?_⟩
   exact Zis hK this.2
  | some jw =>
   obtain ⟨j,want⟩:=jw
   rw [hg] at hvc
   dsimp only at hvc
   cases ht:Yq ops j with
   | none=>rw [ht] at hvc; exact hvc.elim
   | some t =>
    rw [ht] at hvc
    dsimp only at hvc
    have htv:=S.er.2 t
    have hput:∀ b,env.get t = .bool b->SR B w0 I0 pr N r I D ((t,.bool b)::env) σ a w:=fun b hb=>⟨S.hr,S.er.1,fun i=>by
     rw [Pg]
     by_cases e:i=t
     ·subst e; rw [if_pos rfl,<-hb]; exact htv
     ·rw [if_neg e]; exact S.er.2 i⟩
    unfold wpListIn
    have hwant:Pq o (yielded ops.toArray a.tmps)=(yielded ops.toArray a.tmps j==some want):=by simp [Pq,hg]
    rw [hwant]
    by_cases hts:t<a.tmps.size
    ·rw [Zg1 ht a hts]
     split at hvc
     ·rename_i b hb
      have hval:a.tmps.getD t undef = .bool b:=by
       rw [hb] at htv
       generalize a.tmps.getD t undef=z at htv
       cases htv; rfl
      rw [hval]
      dsimp only
      rcases Br.cases hvc with ⟨rfl,hv⟩|⟨rfl,hv⟩
      ·cases want
       ·simp only [show (some true==some false)=false from rfl,Rs,if_false]
        exact skip _ (hput _ hb) hv
       ·simp only [show (some true==some true)=true from rfl,if_true]
        exact run _ (hput _ hb) hv
      ·cases want
       ·simp only [show (some false==some false)=true from rfl,if_true]
        exact run _ (hput _ hb) hv
       ·simp only [show (some false==some true)=false from rfl,Rs,if_false]
        exact skip _ (hput _ hb) hv
     ·rename_i hb
      have hval:∃ vs,a.tmps.getD t undef = .tuple vs:=by
       rw [hb] at htv
       generalize a.tmps.getD t undef=z at htv
       cases htv; exact ⟨_,rfl⟩
      obtain ⟨vs,hval⟩:=hval
      rw [hval]
      dsimp only
      rw [if_neg (by simp)]
      exact skip _ S hvc
     ·exact hvc.elim
    ·have hval:a.tmps.getD t undef=undef:=by simp [Qy,Nj.1 hts]
     rw [hval] at htv
     split at hvc
     ·rename_i b hb
      rw [hb] at htv
      cases htv
     ·have:yielded ops.toArray a.tmps j=none:=by
       unfold yielded
       have:(ops.toArray[j]?).bind (·.dst)=some t:=by simpa [Yq] using ht
       rw [this]
       simp [Nj.1 hts]
      rw [this,if_neg (by simp)]
      exact skip _ S hvc
     ·exact hvc.elim
variable {r r' : Locs} {D D' : Nat->Prop} {I I' : Imm} {w w' w0:World} {I0:Imm} {B n n' k N:Nat} {pr pr' : Nat->Obj->Prop} {h:Nat->ABlk} {P:Program}
def RdOK (F:Fence) (pr:Nat->Obj->Prop):Prop:=∀ l,F.round=some l->∃ r0,pr l (.loop r0)/\pr r0.defers (.deferred (some []))
def Mk (w:World) (pr:Nat->Obj->Prop) (ms:List Deferred):Prop:=∀ d∈ms,∃ b,d = { target:=.collected b,args:=#[] }/\pr b (.deferred (some []))/\w.heap.size<=b
def Post (B:Nat) (w0:World) (I0:Imm) (pr:Nat->Obj->Prop) (N:Nat) (r:Locs) (I:Imm) (D:Nat->Prop) (w:World) (ds:List Deferred) (Q:Exit->Env->St->Prop) (e:Exit) (a' : Act) (w' : World):Prop :=
 ∃ pr' ms env' σ' r' I' D',(∀ b o,pr b o->pr' b o)/\Mk w pr' ms/\ms.Pairwise (fun a b=>a.target≠b.target)/\a'.defers=ms++ds/\Q e env' σ'/\SR B w0 I0 pr' N r' I' D' env' σ' a' w'/\Step r D I w r' D' I' w'/\w.heap.size<=w'.heap.size
def Awp (P:Program) (N:Nat) (c:Code) (env:Env) (σ:St) (Q:Exit->Env->St->Prop):Prop :=
 ∀ (F:Fence) (B:Nat) (w0:World) (I0:Imm) (pr:Nat->Obj->Prop) (r:Locs) (I:Imm) (D:Nat->Prop) (a:Act) (w:World),FOK F->RdOK F pr->SR B w0 I0 pr N r I D env σ a w ->
  c.wpIn F 0 P (Post B w0 I0 pr N r I D w a.defers Q) a w
def setC (env:Env):Operand->Bool->Env
 | .tmp t,b=>(t,.bool b)::env
 | _,_=>env
def seqQ (K:Env->St->Prop) (Q:Exit->Env->St->Prop):Exit->Env->St->Prop
 | .normal,env,σ=>K env σ
 | e,env,σ=>Q e env σ
def Zh4 (id:Nat) (Q:Exit->Env->St->Prop):Exit->Env->St->Prop
 | .exit id',env,σ=>cond (Qs id' id) (Q .normal env σ) (Q (.exit id') env σ)
 | e,env,σ=>Q e env σ
structure Hd where
 loop:Code->Env->St->(Exit->Env->St->Prop)->Prop
 rng:Operand->Array Tmp->Code->Code->Env->St->(Exit->Env->St->Prop)->Prop
 draw:List Oper->Env->St->(Env->St->Prop)->Prop
def Zaa (cx:Cx) (N:Nat) (hd:Hd):Code->Env->St->(Exit->Env->St->Prop)->Prop
 | .skip,env,σ,Q=>Q .normal env σ
 | .region _ ops draw,env,σ,Q=>match draw with
  | false=>cond (Ya ops.toList) (Zdb cx N ops.toList ops.toList env σ (Q .normal)) False
  | true=>hd.draw ops.toList env σ (Q .normal)
 | .seq x y,env,σ,Q=>Zaa cx N hd x env σ (seqQ (fun env' σ'=>Zaa cx N hd y env' σ' Q) Q)
 | .cond c x y,env,σ,Q=>match evA env c with
  | .bool b=>Br b (fEnv (setC env c true) fun env=>Zaa cx N hd x env σ Q) (fEnv (setC env c false) fun env=>Zaa cx N hd y env σ Q)
  | _=>False
 | .block id c,env,σ,Q=>Zaa cx N hd c env σ (Zh4 id Q)
 | .loop c,env,σ,Q=>hd.loop c env σ Q
 | .rangeFunc f ps x y,env,σ,Q=>hd.rng f ps x y env σ Q
 | .exit id,env,σ,Q=>Q (.exit id) env σ
 | .ret,env,σ,Q=>Q .ret env σ
 | _,_,_,_=>False
theorem RdOK.le {F:Fence} (h:RdOK F pr) (hp:∀ b o,pr b o->pr' b o):RdOK F pr':=fun l hl=>let ⟨r0,h1,h2⟩:=h l hl; ⟨r0,hp _ _ h1,hp _ _ h2⟩
theorem Post.chain {ds:List Deferred} {Q:Exit->Env->St->Prop} {K:Exit->Env->St->Prop} {e e' : Exit} {a' a'' : Act} {w'' : World} (h1:Post B w0 I0 pr N r I D w ds K e a' w')
  (h2:∀ pr' r' I' D' env' σ',(∀ b o,pr b o->pr' b o)->K e env' σ'->SR B w0 I0 pr' N r' I' D' env' σ' a' w'->Post B w0 I0 pr' N r' I' D' w' a'.defers Q e' a'' w''):Post B w0 I0 pr N r I D w ds Q e' a'' w'':=by
 obtain ⟨pr1,ms1,env1,σ1,r1,I1,D1,p1,m1,n1,d1,q1,s1,t1,z1⟩:=h1
 obtain ⟨pr2,ms2,env2,σ2,r2,I2,D2,p2,m2,n2,d2,q2,s2,t2,z2⟩:=h2 pr1 r1 I1 D1 env1 σ1 p1 q1 s1
 refine ⟨pr2,ms2++ms1,env2,σ2,r2,I2,D2,fun b o h=>p2 _ _ (p1 _ _ h),?_,?_,by rw [d2,d1,Wm],q2,s2,t1.trans t2,Re z1 z2⟩
 ·intro d hd
  rcases Sh.1 hd with h|h
  ·obtain ⟨b,g1,g2,g3⟩:=m2 d h
   exact ⟨b,g1,g2,Re z1 g3⟩
  ·obtain ⟨b,g1,g2,g3⟩:=m1 d h
   exact ⟨b,g1,p2 _ _ g2,g3⟩
 ·refine Ow.2 ⟨n2,n1,fun x hx y hy e=>?_⟩
  obtain ⟨b,g1,g2,g3⟩:=m2 x hx
  obtain ⟨b',g1',g2',g3'⟩:=m1 y hy
  have:=(Qt.1 (s1.hr.prot _ _ g2').1).1
  rw [g1,g1'] at e
  simp only [Nf] at e
  omega
theorem Leaves.post {ds:List Deferred} {K:Env->St->Prop} {Q:Exit->Env->St->Prop} {e:Exit} {a' : Act} (h:Leaves B w0 I0 pr N r I D w ds K a' w') (hk:∀ env σ,K env σ->Q e env σ) :
  Post B w0 I0 pr N r I D w ds Q e a' w':=by
 obtain ⟨env',σ',r',I',D',h1,h2,h3,h4⟩:=h
 exact ⟨pr,[],env',σ',r',I',D',fun _ _ h=>h,fun d hd=>by simp at hd,.nil,by simpa using h3,hk _ _ h1,h2,h4,h4.size⟩
theorem Post.same {ds:List Deferred} {Q:Exit->Env->St->Prop} {e:Exit} {a:Act} {env:Env} {σ:St} (S:SR B w0 I0 pr N r I D env σ a w) (hq:Q e env σ) (hd:a.defers=ds):Post B w0 I0 pr N r I D w ds Q e a w :=
 ⟨pr,[],env,σ,r,I,D,fun _ _ h=>h,fun d hd=>by simp at hd,.nil,by simpa using hd,hq,S,Pf _ _ _ _,Qd _⟩
theorem Post.mono {ds:List Deferred} {Q Q' : Exit->Env->St->Prop} {e e' : Exit} {a' : Act} (h:Post B w0 I0 pr N r I D w ds Q e a' w') (hq:∀ env σ,Q e env σ->Q' e' env σ):Post B w0 I0 pr N r I D w ds Q' e' a' w':=by
 obtain ⟨pr1,ms1,env1,σ1,r1,I1,D1,p1,m1,n1,d1,q1,s1,t1,z1⟩:=h
 exact ⟨pr1,ms1,env1,σ1,r1,I1,D1,p1,m1,n1,d1,hq _ _ q1,s1,t1,z1⟩
theorem Zmb {env:Env} {σ:St} {a:Act} {c:Operand} {b:Bool} (S:SR B w0 I0 pr N r I D env σ a w) (hc:evA env c = .bool b):SR B w0 I0 pr N r I D (setC env c b) σ a w:=by
 cases c with
 | tmp t =>
  refine ⟨S.hr,S.er.1,fun i=>?_⟩
  simp only [setC,Pg]
  by_cases e:i=t
  ·subst e; rw [if_pos rfl,<-hc]; exact S.er.2 i
  ·rw [if_neg e]; exact S.er.2 i
 | _=>exact S
structure HdOK (P:Program) (N:Nat) (hd:Hd):Prop where
 loop:∀ c env σ Q,hd.loop c env σ Q->Awp P N (.loop c) env σ Q
 rng:∀ f ps x y env σ Q,hd.rng f ps x y env σ Q->Awp P N (.rangeFunc f ps x y) env σ Q
 draw:∀ id ops env σ K,hd.draw ops.toList env σ K->Awp P N (.region id ops true) env σ (seqQ K fun _ _ _=>False)
theorem Ys {cx:Cx} (hcx:CxOK P cx) {hd:Hd} (hhd:HdOK P N hd):∀ (c:Code) (env:Env) (σ:St) (Q:Exit->Env->St->Prop),Zaa cx N hd c env σ Q->Awp P N c env σ Q
 | .skip,env,σ,Q,hv=>fun F B w0 I0 pr r I D a w hF hR S=>wpIn_skip (Post.same S hv rfl)
 | .region id ops draw,env,σ,Q,hv=>by
  cases draw with
  | false =>
   intro F B w0 I0 pr r I D a w hF hR S
   simp only [Zaa] at hv
   cases hno:Ya ops.toList with
   | false=>rw [hno] at hv; exact hv.elim
   | true =>
    rw [hno] at hv
    refine wpIn_region_list ?_
    have:=Zco hcx hF ops.toList (Q:=Post B w0 I0 pr N r I D w a.defers Q) ops.toList hno S hv (fun a' w' hl=>hl.post fun _ _ q=>q)
    simpa using this
  | true =>
   intro F B w0 I0 pr r I D a w hF hR S
   simp only [Zaa] at hv
   refine Ru (fun e a' w' h=>?_) (hhd.draw id ops env σ _ hv F B w0 I0 pr r I D a w hF hR S)
   cases e with
   | normal=>exact h.mono fun _ _ q=>q
   | _=>obtain ⟨_,_,_,_,_,_,_,_,_,_,_,q,_⟩:=h; exact q.elim
 | .seq x y,env,σ,Q,hv=>by
  intro F B w0 I0 pr r I D a w hF hR S
  simp only [Zaa] at hv
  refine wpIn_seq (Ru (fun e a' w' h=>?_) (Ys hcx hhd x env σ _ hv F B w0 I0 pr r I D a w hF hR S))
  cases e with
  | normal =>
   obtain ⟨pr1,ms1,env1,σ1,r1,I1,D1,p1,m1,n1,d1,q1,s1,t1,z1⟩:=h
   refine Ru (fun e2 a2 w2 h2=>?_) (Ys hcx hhd y env1 σ1 Q q1 F B w0 I0 pr1 r1 I1 D1 a' w' hF (hR.le p1) s1)
   have h1:Post B w0 I0 pr N r I D w a.defers (fun _ env' σ'=>env'=env1/\σ'=σ1) .normal a' w':=⟨pr1,ms1,env1,σ1,r1,I1,D1,p1,m1,n1,d1,⟨rfl,rfl⟩,s1,t1,z1⟩
   obtain ⟨pr2,ms2,env2,σ2,r2,I2,D2,p2,m2,n2,d2,q2,s2,t2,z2⟩:=h2
   refine ⟨pr2,ms2++ms1,env2,σ2,r2,I2,D2,fun b o h=>p2 _ _ (p1 _ _ h),?_,?_,by rw [d2,d1,Wm],q2,s2,t1.trans t2,Re z1 z2⟩
   ·intro d hd
    rcases Sh.1 hd with h|h
    ·obtain ⟨b,g1,g2,g3⟩:=m2 d h
     exact ⟨b,g1,g2,Re z1 g3⟩
    ·obtain ⟨b,g1,g2,g3⟩:=m1 d h
     exact ⟨b,g1,p2 _ _ g2,g3⟩
   ·refine Ow.2 ⟨n2,n1,fun x hx y hy e=>?_⟩
    obtain ⟨b,g1,g2,g3⟩:=m2 x hx
    obtain ⟨b',g1',g2',g3'⟩:=m1 y hy
    have:=(Qt.1 (s1.hr.prot _ _ g2').1).1
    rw [g1,g1'] at e
    simp only [Nf] at e
    omega
  | exit id=>exact h.mono fun _ _ q=>q
  | goto l=>exact h.mono fun _ _ q=>q
  | ret=>exact h.mono fun _ _ q=>q
  | panic ch=>exact h.mono fun _ _ q=>q
  | outgrown=>exact h.mono fun _ _ q=>q
 | .cond c x y,env,σ,Q,hv=>by
  intro F B w0 I0 pr r I D a w hF hR S
  simp only [Zaa,Zqs] at hv
  split at hv
  ·rename_i b hb
   have hc:=Xy S.er c
   rw [hb] at hc
   have hcv:a.eval c = .bool b:=by generalize a.eval c=z at hc; cases hc; rfl
   rcases Br.cases hv with ⟨rfl,h⟩|⟨rfl,h⟩
   ·exact wpIn_cond_true hcv (Ys hcx hhd x _ σ Q h F B w0 I0 pr r I D a w hF hR (Zmb S hb))
   ·exact wpIn_cond_false hcv (Ys hcx hhd y _ σ Q h F B w0 I0 pr r I D a w hF hR (Zmb S hb))
  ·exact hv.elim
 | .block id c,env,σ,Q,hv=>by
  intro F B w0 I0 pr r I D a w hF hR S
  simp only [Zaa] at hv
  refine wpIn_block (Ru (fun e a' w' h=>?_) (Ys hcx hhd c env σ _ hv F B w0 I0 pr r I D a w hF hR S))
  cases e with
  | exit id' =>
   by_cases hid:id'=id
   ·subst hid
    simp only [Mg,if_true]
    exact h.mono fun _ _ q=>by simpa [Zh4] using q
   ·simp only [Mg,hid,if_false]
    exact h.mono fun _ _ q=>by
     have:Qs id' id=false:=by rw [Bool.eq_false_iff]; intro hb; exact hid (Qh hb)
     simpa [Zh4,this] using q
  | normal=>exact h.mono fun _ _ q=>q
  | goto l=>exact h.mono fun _ _ q=>q
  | ret=>exact h.mono fun _ _ q=>q
  | panic ch=>exact h.mono fun _ _ q=>q
  | outgrown=>exact h.mono fun _ _ q=>q
 | .loop c,env,σ,Q,hv=>hhd.loop c env σ Q hv
 | .rangeFunc f ps x y,env,σ,Q,hv=>hhd.rng f ps x y env σ Q hv
 | .exit id,env,σ,Q,hv=>fun F B w0 I0 pr r I D a w hF hR S=>wpIn_exit (Post.same S hv rfl)
 | .ret,env,σ,Q,hv=>fun F B w0 I0 pr r I D a w hF hR S=>wpIn_ret (Post.same S hv rfl)
 | .scope _,_,_,_,hv=>hv.elim
 | .label _,_,_,_,hv=>hv.elim
 | .goto _,_,_,_,hv=>hv.elim
 | .refuse _,_,_,_,hv=>hv.elim
variable {r r' : Locs} {D D' : Nat->Prop} {I I' : Imm} {w w' w0:World} {I0:Imm} {B n n' k N:Nat} {pr pr' : Nat->Obj->Prop} {h:Nat->ABlk} {P:Program}
def Zb7 (T:Tab) (env:Env) (h:Nat->ABlk):List ResultVar->Option (List AV)
 | []=>some []
 | .tmp t::l=>match Zb7 T env h l with
  | some vs=>some (env.get t::vs)
  | none=>none
 | .cell a t::l=>match Zb7 T env h l,T t,env.get a with
  | some vs,some ti,.ptr id idx sub=>match h id with
   | .row _ elems _ _=>match elems[idx]? with
    | some cells=>match Zc5 ti cells sub with
     | some v=>some (v::vs)
     | none=>none
    | none=>none
   | _=>none
  | _,_,_=>none
def resV:List AV->AV
 | [v]=>v
 | vs=>.tup vs
def Zk4 (tmps:Array Value):ResultVar->Sem Value
 | .tmp t=>pure (tmps.getD t undef)
 | .cell a t=>do loadVar t (<-asAddr (tmps.getD a undef))
theorem Ztx (fn:Func) (tmps:Array Value):results fn tmps=(do let vs <-fn.results.mapM (Zk4 tmps); pure (if h:vs.size=1 then vs[0] else .tuple vs)):=by
 unfold results
 congr 1
theorem Zp0 {T:Tab} (hT:TabOK P T) {env:Env} {tmps:Array Value} (H:HR B w0 I0 pr r I D h n w) (E:ER r I w D N env tmps):∀ (l:List ResultVar) (vs:List AV),Zb7 T env h l=some vs ->
  ∃ xs:List Value,(l.mapM (Zk4 tmps)).run P w = .ok xs w/\VRs r I w D vs xs.toArray
 | [],vs,hv=>by
  simp [Zb7] at hv
  subst hv
  exact ⟨[],by simp,rfl,fun i c v hc=>by simp at hc⟩
 | .tmp t::l,vs,hv=>by
  simp only [Zb7] at hv
  split at hv
  ·rename_i us hus
   simp only [Qf] at hv
   subst hv
   obtain ⟨xs,h1,h2⟩:=Zp0 hT H E l us hus
   refine ⟨tmps.getD t undef::xs,?_,by simpa using h2.1,fun i c v hc hx=>?_⟩
   ·simp only [Fm,Sn,Zk4,Pr,Rq]
    rw [h1]; rfl
   ·cases i with
    | zero=>simp at hc hx; subst hc; subst hx; simpa using E.2 t
    | succ i=>exact h2.2 i c v (by simpa using hc) (by simpa using hx)
  ·cases hv
 | .cell a t::l,vs,hv=>by
  simp only [Zb7] at hv
  split at hv
  ·rename_i us ti id idx sub hus hti hptr
   split at hv
   ·rename_i es elems mt pu hb
    split at hv
    ·rename_i cells hcells
     split at hv
     ·rename_i v hld
      simp only [Qf] at hv
      subst hv
      obtain ⟨xs,h1,h2⟩:=Zp0 hT H E l us hus
      have hx:=E.2 a
      rw [hptr] at hx
      obtain ⟨y,w1,r1,g1,_,_,g4⟩:=Zlk (k:=n) hT hti H hx hb hcells hld
      obtain ⟨ad,had⟩:∃ ad,tmps.getD a undef = .pointer (some ad):=by
       generalize tmps.getD a undef=z at hx
       cases hx; exact ⟨_,rfl⟩
      have hB:=H.blk id
      rw [hb] at hB
      obtain ⟨val,hc⟩:=Zjc hB hcells
      obtain ⟨y2,hy2,hr2⟩:=Zmo (D:=D) hT hti hld val hc
      have haddr:ad=⟨(r id).blk,(r id).off+idx*es+sub,none⟩:=by
       rw [had] at hx
       have he:(r id).es=es:=hB.1.1
       cases hx; rw [he]
      refine ⟨y2::xs,?_,by simpa using h2.1,fun i c v hc hx=>?_⟩
      ·have hone:(Zk4 tmps (.cell a t)).run P w = .ok y2 w:=by
        simp only [Zk4,had,asAddr,Sn,Pr,Rq,haddr]; exact hy2
       simp only [Fm,Sn,hone,Rq]
       rw [h1]; rfl
      ·cases i with
       | zero=>simp at hc hx; subst hc; subst hx; exact hr2
       | succ i=>exact h2.2 i c v (by simpa using hc) (by simpa using hx)
     ·cases hv
    ·cases hv
   ·cases hv
  ·cases hv
theorem Zfa {T:Tab} (hT:TabOK P T) {fn:Func} {env:Env} {tmps:Array Value} (H:HR B w0 I0 pr r I D h n w) (E:ER r I w D N env tmps) {vs:List AV} (hv:Zb7 T env h fn.results.toList=some vs) :
  ∃ x,(results fn tmps).run P w = .ok x w/\VR r I w D (resV vs) x:=by
 obtain ⟨xs,h1,h2⟩:=Zp0 hT H E _ vs hv
 have h3:(fn.results.mapM (Zk4 tmps)).run P w = .ok xs.toArray w:=by
  rw [Array.mapM_eq_mapM_toList,map_eq_pure_bind,Sn,h1]
  rfl
 rw [Ztx]
 simp only [Sn,h3,Rq,Pr]
 refine ⟨_,rfl,?_⟩
 have hl:xs.length=vs.length:=by simpa using h2.1
 match vs,xs,hl,h2 with
 | [],[],_,h2=>exact .tup _ _ _ rfl (fun i c v hc=>by simp at hc)
 | [v],[x],_,h2=>simpa [resV] using h2.2 0 v x rfl rfl
 | v::v'::vs,x::x'::xs,hl,h2=>simpa [resV] using VR.tup D (v::v'::vs) _ h2.1 h2.2
theorem HR.prLe (H:HR B w0 I0 pr' r I D h n w) (hp:∀ b o,pr b o->pr' b o):HR B w0 I0 pr r I D h n w :=
 ⟨H.below,H.base,H.imm,H.dom,H.live,H.blk,H.inj,fun b o h=>H.prot b o (hp _ _ h),fun b o h=>H.protK b o (hp _ _ h),H.immB⟩
theorem HR.putObj (H:HR B w0 I0 pr' r I D h n w) {b:Nat} {l:Option (List Deferred)} (hb:w.heap[b]?=some (.deferred l)) (hB:B<=b) (hp:∀ x o,pr x o->pr' x o/\x≠b) :
  HR B w0 I0 pr r I D h n (w.putObj b (.deferred none))/\Step r D I w r D I (w.putObj b (.deferred none)):=by
 have hoth:∀ x,x≠b->(w.putObj b (.deferred none)).heap[x]?=w.heap[x]?:=fun x hx=>by
  show (w.heap.setIfInBounds b _)[x]?=_
  rw [Sy,if_neg (fun e=>hx e.symm)]
 have hlt:b<w.heap.size:=(Qt.1 hb).1
 have hself:(w.putObj b (.deferred none)).heap[b]?=some (.deferred none):=by
  show (w.heap.setIfInBounds b _)[b]?=_
  rw [Sy,if_pos rfl,if_pos hlt]
 have hs:(w.putObj b (.deferred none)).heap.size=w.heap.size:=by simp [World.putObj]
 have hst:Step r D I w r D I (w.putObj b (.deferred none)):=by
  refine ⟨fun id hd=>⟨hd,rfl⟩,fun x o hi=>⟨hi,?_⟩,by rw [hs]; exact Qd _⟩
  by_cases e:x=b
  ·subst e; simp [World.cell?,hself,hb]
  ·exact World.cell?_of_block (hoth x e)
 refine ⟨⟨?_,by rw [hs]; exact H.base,fun x o hi=>by rw [hs]; exact H.imm x o hi,fun id hd=>by rw [hs]; exact H.dom id hd,H.live,fun id=>?_,H.inj,fun x o hx=>?_,fun x o hx=>H.protK x o (hp x o hx).1,H.immB⟩,hst⟩
 ·exact H.below.trans ⟨rfl,rfl,rfl,by rw [hs]; exact Qd _,fun x hx=>hoth x (by omega)⟩
 ·refine (H.blk id).mono hst rfl (fun hl=>hoth _ ?_) (fun _ _ _ _ _ hx=>hx)
  rintro rfl
  have hB:=H.blk id
  cases hid:h id with
  | row es elems mt pu =>
   rw [hid] at hB
   obtain ⟨_,_,_,cs,T,fz,h4,_⟩:=hB
   rw [hb] at h4; cases h4
  | map ents =>
   rw [hid] at hB
   obtain ⟨_,es,clock,h1,_⟩:=hB
   rw [hb] at h1; cases h1
  | set keys =>
   rw [hid] at hB
   obtain ⟨_,es,clock,h1,_⟩:=hB
   rw [hb] at h1; cases h1
  | dead=>rw [hid] at hl; simp [ABlk.live] at hl
 ·obtain ⟨h1,h2⟩:=hp x o hx
  exact ⟨(hoth x h2).trans (H.prot x o h1).1,(H.prot x o h1).2⟩
theorem Zh7 {b:Nat} {ds:List Deferred} (hb:w.heap[b]?=some (.deferred (some ds))):(Lw b).run P w = .ok ds (w.putObj b (.deferred none)):=by
 have hnc:∀ c T fz,w.heap[b]?≠some (.cells c T fz):=by intro c T fz e; rw [hb] at e; cases e
 simp [Lw,getObj,setObj,Sem.run,hb]
 rfl
theorem Zdw {fn:Func} {T:Tab} (hT:TabOK P T) {env:Env} {vs:List AV} {R:Ending->World->Prop} {tmps:Array Value}:∀ (ms:List Deferred) {pr' : Nat->Obj->Prop} {w w1:World},Mk w pr' ms->ms.Pairwise (fun a b=>a.target≠b.target) ->
  (∀ x o,pr x o->pr' x o/\x<w.heap.size)->HR B w0 I0 pr' r I D h n w1->ER r I w1 D N env tmps->Zb7 T env h fn.results.toList=some vs ->
  (∀ x w2,HR B w0 I0 pr r I D h n w2->Step r D I w1 r D I w2->VR r I w2 D (resV vs) x->R (.returned x) w2)->LeavesInM Ti 0 P fn tmps R ms .returning w1
 | [],pr',w,w1,_,_,hp,H,E,hv,hR=>by
  obtain ⟨x,h1,h2⟩:=Zfa hT H E hv
  exact ⟨x,h1,hR x w1 (H.prLe fun b o h=>(hp b o h).1) (Pf _ _ _ _) h2⟩
 | d::ms,pr',w,w1,hm,hpw,hp,H,E,hv,hR=>by
  obtain ⟨b,rfl,h2,h3⟩:=hm d (by simp)
  obtain ⟨hb,hB⟩:=H.prot _ _ h2
  obtain ⟨H2,S2⟩:=H.putObj (pr:=fun x o=>pr' x o/\x≠b) hb hB (fun x o h=>h)
  refine ⟨by simp,.inl ⟨b,_,rfl,Zh7 hb,?_⟩⟩
  refine Zdw hT ms (pr':=fun x o=>pr' x o/\x≠b) (w:=w) ?_ (Pw.1 hpw).2 ?_ H2 (E.mono S2) hv (fun x w2 H3 S3 V3=>hR x w2 H3 (S2.trans S3) V3)
  ·intro d' hd'
   obtain ⟨b',rfl,g2,g3⟩:=hm d' (by simp [hd'])
   refine ⟨b',rfl,⟨g2,fun e=>?_⟩,g3⟩
   have:=(Pw.1 hpw).1 _ hd'
   exact this (by rw [e])
  ·intro x o hx
   have h:=hp x o hx
   exact ⟨⟨h.1,by omega⟩,h.2⟩
def env0:Nat->List AV->Env
 | _,[]=>[]
 | k,a::l=>(k,a)::env0 (k+1) l
theorem Zii (l:List AV):∀ (k i:Nat),(env0 k l).get i=if k<=i then l[i-k]?.getD .any else .any:=by
 induction l with
 | nil=>intro k i; simp [env0,Env.get]
 | cons a l ih =>
  intro k i
  simp only [env0,Pg,ih]
  by_cases h1:i=k
  ·subst h1; simp
  ·by_cases h2:k<=i
   ·have h3:k+1<=i:=by omega
    rw [if_neg h1,if_pos h3,if_pos h2]
    rw [show i-k=(i-(k+1))+1 by omega]
    simp
   ·rw [if_neg h1,if_neg (by omega),if_neg h2]
def retQ (T:Tab) (rs:List ResultVar) (K:AV->St->Prop):Exit->Env->St->Prop
 | .normal,env,σ=>Got (Zb7 T env σ.get rs) fun vs=>K (resV vs) σ
 | .ret,env,σ=>Got (Zb7 T env σ.get rs) fun vs=>K (resV vs) σ
 | _,_,_=>False
def Zbq (cx:Cx) (hd:Nat->Hd) (fn:Func) (args:List AV) (σ:St) (K:AV->St->Prop):Prop :=
 match fn.body with
 | some c=>cond (Su args.length fn.ntmps) (Zaa cx fn.ntmps (hd fn.ntmps) c (env0 0 args) σ (retQ cx.T fn.results.toList K)) False
 | none=>False
theorem Zij {cx:Cx} (hcx:CxOK P cx) {hd:Nat->Hd} (hhd:∀ N,HdOK P N (hd N)) {f:FuncId} {fn:Func} (hf:P.funcs[f]?=some fn) {args:List AV} {σ:St} {K:AV->St->Prop} (hv:Zbq cx hd fn args σ K):SemCall P f args σ K:=by
 intro B w0 I0 pr r I D w vs H hargs
 unfold Zbq at hv
 split at hv
 ·rename_i c hb
  cases hle:Su args.length fn.ntmps with
  | false=>rw [hle] at hv; exact hv.elim
  | true =>
   rw [hle] at hv
   have hle:=Qm hle
   refine callsIn_of_wp_marks hf hb trivial ?_
   have hsz:vs.size=args.length:=hargs.1
   have S:SR B w0 I0 pr fn.ntmps r I D (env0 0 args) σ { tmps:=vs++Array.replicate (fn.ntmps-vs.size) undef,defers:=[] } w:=by
    refine ⟨H,by simp; omega,fun i=>?_⟩
    rw [Zii]
    simp only [Nat.zero_le,if_true,Nat.sub_zero]
    cases hi:args[i]? with
    | none=>simp; exact .any _ _
    | some v =>
     have hlt:i<vs.size:=by rw [hsz]; exact (List.getElem?_eq_some_iff.1 hi).1
     have:=hargs.2 i v vs[i] hi (by simp [hlt])
     simpa [Qy,Og,hlt] using this
   refine Ru (fun e a' w' hp=>?_) (Ys hcx (hhd _) c _ _ _ hv Ti B w0 I0 pr r I D _ w (.inl rfl) (fun l hl=>by cases hl) S)
   have fin:∀ (pr' : Nat->Obj->Prop) (ms:List Deferred) (env' : Env) (σ' : St) (r' : Locs) (I' : Imm) (D' : Nat->Prop),(∀ b o,pr b o->pr' b o)->Mk w pr' ms->ms.Pairwise (fun a b=>a.target≠b.target)->a'.defers=ms++[] ->
     (Got (Zb7 cx.T env' σ'.get fn.results.toList) fun vs=>K (resV vs) σ')->SR B w0 I0 pr' fn.ntmps r' I' D' env' σ' a' w'->Step r D I w r' D' I' w' ->
     LeavesInM Ti 0 P fn a'.tmps (fun e w'=>∃ x v σ' r' I' D',e = .returned x/\K v σ'/\HR B w0 I0 pr r' I' D' σ'.get σ'.next w'/\VR r' I' w' D' v x/\Step r D I w r' D' I' w') a'.defers .returning w':=by
    intro pr' ms env' σ' r' I' D' p1 m1 n1 d1 q1 s1 t1
    obtain ⟨us,hus,hk⟩:=Got.cases q1
    rw [d1,List.append_nil]
    refine Zdw hcx.tab ms (pr:=pr) m1 n1 (fun x o hx=>⟨p1 x o hx,(Qt.1 (H.prot x o hx).1).1⟩) s1.hr s1.er hus (fun x w2 H2 S2 V2=>?_)
    exact ⟨x,resV us,σ',r',I',D',rfl,hk,H2,V2,t1.trans S2⟩
   obtain ⟨pr',ms,env',σ',r',I',D',p1,m1,n1,d1,q1,s1,t1,z1⟩:=hp
   cases e with
   | normal=>exact fin pr' ms env' σ' r' I' D' p1 m1 n1 d1 q1 s1 t1
   | ret=>exact fin pr' ms env' σ' r' I' D' p1 m1 n1 d1 q1 s1 t1
   | _=>exact q1.elim
 ·exact hv.elim
variable {P:Program}
def Ydx:Value->AV
 | .bool b=>.bool b
 | .int k n=>.int k n
 | .float k n=>.flt k n
 | .complex k n m=>.cpx k n m
 | .string s=>.str s
 | .pointer none=>.nilp
 | .slice none 0 0=>.nils
 | _=>.any
theorem Zz2 (r:Locs) (I:Imm) (w:World) (D:Nat->Prop) (v:Value):VR r I w D (Ydx v) v:=by
 unfold Ydx
 split
 ·exact .bool _ _
 ·exact .int _ _ _
 ·exact .flt _ _ _
 ·exact .cpx _ _ _ _
 ·exact .str _ _
 ·exact .nilp _
 ·exact .nils _
 ·exact .any _ _
def Zwz:Value->Bool
 | .agg _=>true
 | _=>false
def mkTI (P:Program) (t:TypeId):Option TI :=
 match P.info? t,P.underlying t with
 | some i,some d=>match i.zero with
  | some z=>cond (Qs z.cells.size i.size&&(Zn8 d==Zwz z)) (some { desc:=d,size:=i.size,bytes:=i.bytes,agg:=Zn8 d,zero:=z.cells.toList.map Ydx }) none
  | none=>none
 | _,_=>none
theorem Zjm {t:TypeId} {ti:TI} (h:mkTI P t=some ti):P.underlying t=some ti.desc/\ti.agg=Zn8 ti.desc/\∃ i,P.info? t=some i/\i.size=ti.size/\i.bytes=ti.bytes /\
  ∃ z,i.zero=some z/\z.cells.size=ti.size/\(ti.agg=true->z = .agg z.cells)/\(∀ r I w D,VRs r I w D ti.zero z.cells)/\(ti.agg=false->z.cells = #[z]):=by
 unfold mkTI at h
 split at h
 ·rename_i i d hi hd
  split at h
  ·rename_i z hz
   obtain ⟨h1,h2⟩:=Zd h
   simp only [Qc,beq_iff_eq] at h1
   simp only [Qf] at h2
   subst h2
   refine ⟨hd,rfl,i,hi,rfl,rfl,z,hz,Qh h1.1,fun ha=>?_,fun r I w D=>⟨by simp,fun j c v hc hv=>?_⟩,fun ha=>?_⟩
   ·dsimp only at ha
    have h:=h1.2
    rw [ha] at h
    clear hz h1 ha
    cases z<;>first|rfl|(exact absurd h (by simp [Zwz]))
   ·simp only [List.getElem?_map,Option.map_eq_some_iff] at hc
    obtain ⟨x,hx,rfl⟩:=hc
    have:x=v:=by
     have:z.cells.toList[j]?=z.cells[j]?:=by simp
     rw [this,hv] at hx
     exact (Sr hx).symm
    subst this
    exact Zz2 r I w D x
   ·dsimp only at ha
    have h:=h1.2
    rw [ha] at h
    clear hz h1 ha
    cases z<;>first|rfl|(exact absurd h (by simp [Zwz]))
  ·cases h
 ·cases h
def tget:List (Nat × TI)->Tab
 | [],_=>none
 | (j,ti)::l,t=>cond (Qs t j) (some ti) (tget l t)
theorem Znf:∀ {l:List (Nat × TI)} {t:TypeId} {ti:TI},tget l t=some ti->(t,ti)∈l
 | [],_,_,h=>by simp [tget] at h
 | (j,tj)::l,t,ti,h=>by
  simp only [tget] at h
  cases hb:Qs t j with
  | true=>rw [hb] at h; simp at h; subst h; rw [Qh hb]; simp
  | false=>rw [hb] at h; exact Mw _ (Znf h)
theorem Zzp {l:List (Nat × TI)} (h:(l.map fun p=>mkTI P p.1)=l.map fun p=>some p.2):TabOK P (tget l):=by
 have key:∀ t ti,tget l t=some ti->mkTI P t=some ti:=by
  intro t ti ht
  have hm:=Znf ht
  have:=List.map_inj_left.1 h _ hm
  exact this
 exact ⟨fun t ti ht=>(Zjm (key t ti ht)).1,fun t ti ht=>(Zjm (key t ti ht)).2.1,fun t ti ht=>(Zjm (key t ti ht)).2.2⟩
def memN:List Nat->Nat->Bool
 | [],_=>false
 | a::l,t=>Qs t a||memN l t
theorem Zcb:∀ {l:List Nat} {t:Nat},memN l t=true->t∈l
 | [],_,h=>by simp [memN] at h
 | a::l,t,h=>by
  simp only [memN,Bool.or_eq_true] at h
  rcases h with h|h
  ·rw [Qh h]; simp
  ·exact Mw _ (Zcb h)
theorem Yez {l:List Nat} (h:(l.all fun t=>!P.stoodInHeld t && !P.eqGuardType P.depth t)=true):EqOK P (memN l):=by
 have key:∀ t,memN l t=true->P.stoodInHeld t=false/\P.eqGuardType P.depth t=false:=by
  intro t ht
  have:=Rf.1 h t (Zcb ht)
  simpa using this
 exact ⟨fun t ht=>(key t ht).1,fun t ht=>(key t ht).2⟩
end Go.Sx
