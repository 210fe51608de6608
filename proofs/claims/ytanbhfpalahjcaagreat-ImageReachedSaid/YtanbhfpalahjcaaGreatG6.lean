/- A part of the proof: lemmas. -/
import Derived.Test.YtanbhfpalahjcaaGreatG5
import Derived.Test.YtanbhfpalahjcaaGreatG3
import Derived.KernelRfl
import Derived.Laws.Externs
set_option linter.unusedVariables false
set_option linter.unusedSimpArgs false
set_option maxRecDepth 100000
set_option maxHeartbeats 16000000
open Array renaming getElem?_eq_some_iff->Qt
open Bool renaming and_eq_true->Qc,and_self->Qcd,eq_false_iff->Qx,false_eq_true->Rs
open Go.Code renaming wpIn_mono->Ru
open Go.Exit renaming inBlock->Mg
open Go.Sx.Env renaming get_cons->Pg
open Go.Sx.Got renaming intro->Wd
open Go.Sx.Post renaming same->Jv
open Go.Sx.Ren renaming of->Pn
open Go.Sx.Step renaming refl->Pf
open Go.Target.collected renaming injEq->Nf
open List renaming append_assoc->Wm,append_nil->Pv,length_append->Rb,length_cons->Qz,length_nil->Rh,mem_append->Sh,pairwise_append->Ow
open Nat renaming beq->Qs,ble->Su,blt->Pp,eq_of_beq_eq_true->Qh,le_of_ble_eq_true->Qm,le_refl->Qd,le_trans->Re,lor->Jc,shiftLeft->Lj,testBit->Hl
open Option.some renaming inj->Sr,injEq->Qf
open Prod.mk renaming injEq->Rk
namespace Go.Sx
open Go
def Zss {α:Type} (b:Bool) (k:Bool->α):α:=match b with
 | true=>k true
 | false=>k false
theorem Zop {α:Type} (b:Bool) (k:Bool->α):Zss b k=k b:=by cases b<;>rfl
def Xi {α:Type} (n:Nat) (k:Nat->α):α:=match n with
 | 0=>k 0
 | m+1=>k (m+1)
theorem Yz {α:Type} (n:Nat) (k:Nat->α):Xi n k=k n:=by cases n<;>rfl
def Zxt {α:Type} (n:Int) (k:Int->α):α:=match n with
 | .ofNat m=>Xi m fun m=>k (.ofNat m)
 | .negSucc m=>Xi m fun m=>k (.negSucc m)
theorem Zxs {α:Type} (n:Int) (k:Int->α):Zxt n k=k n:=by cases n<;>simp [Zxt,Yz]
mutual
def Zae {α:Type}:AV->(AV->α)->α
 | .any,k=>k .any
 | .bool b,k=>Zss b fun b=>k (.bool b)
 | .int d n,k=>Zxt n fun n=>k (.int d n)
 | .flt d n,k=>Xi n fun n=>k (.flt d n)
 | .cpx d n m,k=>Xi n fun n=>Xi m fun m=>k (.cpx d n m)
 | .val a n c,k=>k (.val a n c)
 | .str s,k=>k (.str s)
 | .ptr a b c,k=>Xi a fun a=>Xi b fun b=>Xi c fun c=>k (.ptr a b c)
 | .ipt cs,k=>Zgg cs fun cs=>k (.ipt cs)
 | .nilp,k=>k .nilp
 | .nils,k=>k .nils
 | .asl a b c,k=>Xi a fun a=>Xi b fun b=>Xi c fun c=>k (.asl a b c)
 | .bsl a b c d e,k=>Xi a fun a=>Xi b fun b=>Xi c fun c=>Xi d fun d=>Xi e fun e=>k (.bsl a b c d e)
 | .isl n els,k=>Xi n fun n=>Zj0 els fun els=>k (.isl n els)
 | .amap a,k=>Xi a fun a=>k (.amap a)
 | .func f c0 c1,k=>Xi f fun f=>Zgg c0 fun c0=>Zgg c1 fun c1=>k (.func f c0 c1)
 | .yld l,k=>Xi l fun l=>k (.yld l)
 | .agg cs,k=>Zgg cs fun cs=>k (.agg cs)
 | .tup cs,k=>Zgg cs fun cs=>k (.tup cs)
def Zgg {α:Type}:List AV->(List AV->α)->α
 | [],k=>k []
 | c::cs,k=>Zae c fun c=>Zgg cs fun cs=>k (c::cs)
def Zj0 {α:Type}:List (List AV)->(List (List AV)->α)->α
 | [],k=>k []
 | c::cs,k=>Zgg c fun c=>Zj0 cs fun cs=>k (c::cs)
end
mutual
theorem Zoq {α:Type}:∀ (v:AV) (k:AV->α),Zae v k=k v
 | .any,k=>rfl
 | .bool b,k=>by simp only [Zae,Zop]
 | .int d n,k=>by simp only [Zae,Zxs]
 | .flt d n,k=>by simp only [Zae,Yz]
 | .cpx d n m,k=>by simp only [Zae,Yz]
 | .val a n c,k=>rfl
 | .str s,k=>rfl
 | .ptr a b c,k=>by simp only [Zae,Yz]
 | .ipt cs,k=>by simp only [Zae,Zbe cs]
 | .nilp,k=>rfl
 | .nils,k=>rfl
 | .asl a b c,k=>by simp only [Zae,Yz]
 | .bsl a b c d e,k=>by simp only [Zae,Yz]
 | .isl n els,k=>by simp only [Zae,Yz,Zhf els]
 | .amap a,k=>by simp only [Zae,Yz]
 | .func f c0 c1,k=>by simp only [Zae,Yz,Zbe c0,Zbe c1]
 | .yld l,k=>by simp only [Zae,Yz]
 | .agg cs,k=>by simp only [Zae,Zbe cs]
 | .tup cs,k=>by simp only [Zae,Zbe cs]
theorem Zbe {α:Type}:∀ (cs:List AV) (k:List AV->α),Zgg cs k=k cs
 | [],k=>rfl
 | c::cs,k=>by simp only [Zgg,Zoq c,Zbe cs]
theorem Zhf {α:Type}:∀ (cs:List (List AV)) (k:List (List AV)->α),Zj0 cs k=k cs
 | [],k=>rfl
 | c::cs,k=>by simp only [Zj0,Zbe c,Zhf cs]
end
def Zoo {α:Type} (b:ABlk) (k:ABlk->α):α:=match b with
 | .row es elems mt pu=>Xi es fun es=>Zj0 elems fun elems=>Zss mt fun mt=>Zss pu fun pu=>k (.row es elems mt pu)
 | .map l=>k (.map l)
 | .set l=>k (.set l)
 | .dead=>k .dead
theorem Zxr {α:Type} (b:ABlk) (k:ABlk->α):Zoo b k=k b:=by cases b<;>simp only [Zoo,Yz,Zop,Zhf]
def Zxv {α:Type} (e:Eff) (k:Eff->α):α:=match e with
 | .none=>k .none
 | .add b=>Zoo b fun b=>k (.add b)
 | .put id b=>Xi id fun id=>Zoo b fun b=>k (.put id b)
 | .app id b=>Xi id fun id=>Zoo b fun b=>k (.app id b)
theorem Zxu {α:Type} (e:Eff) (k:Eff->α):Zxv e k=k e:=by cases e<;>simp only [Zxv,Yz,Zxr]
def Zsr {α:Type} (σ:St) (k:St->α):α:=match σ with
 | ⟨hp,nx⟩=>Xi nx fun nx=>match hp with
  | []=>k ⟨[],nx⟩
  | (i,b)::t=>Xi i fun i=>k ⟨(i,b)::t,nx⟩
theorem Zxq {α:Type} (σ:St) (k:St->α):Zsr σ k=k σ:=by
 obtain ⟨hp,nx⟩:=σ
 cases hp with
 | nil=>simp only [Zsr,Yz]
 | cons p t=>simp only [Zsr,Yz]
open Go Go.RowKit
variable {P:Program} {N:Nat}
abbrev CF:=FuncId->List AV->St->Option (AV × St)
def putE (N:Nat) (dst:Option Nat) (v:AV) (env:Env):Option Env:=match dst with
 | none=>some env
 | some d=>cond (Pp d N) (Zae v fun v=>some ((d,v)::env)) none
def exOp (T:Tab) (ok:TypeId->Bool) (cf:CF) (N:Nat) (o:Oper) (env:Env) (σ:St):Option (Env × St) :=
 match o.op with
 | .call { callee:=.value f,args,.. }=>match evA env f with
  | .func g c0 c1=>match cf g ((c0++Xg (evA env) args.toList)++c1) σ with
   | some (v,σ')=>match putE N o.dst v env with
    | some env'=>some (env',σ')
    | none=>none
   | none=>none
  | _=>none
 | op=>match aop T ok σ.next (evA env) σ.get op with
  | some (v,e)=>match putE N o.dst v env with
   | some env'=>Zxv e fun e=>Zsr (e.st σ) fun σ'=>some (env',σ')
   | none=>none
  | none=>none
def Zib (T:Tab) (ok:TypeId->Bool) (cf:CF) (N:Nat) (ops:List Oper):List Oper->Env->St->Option (Env × St)
 | [],env,σ=>some (env,σ)
 | o::rest,env,σ =>
  match o.guard with
  | none=>match exOp T ok cf N o env σ with
   | some (env',σ')=>Zib T ok cf N ops rest env' σ'
   | none=>none
  | some (j,want)=>match Yq ops j with
   | none=>none
   | some t=>match env.get t with
    | .bool b=>match b,want with
     | true,true=>match exOp T ok cf N o ((t,.bool true)::env) σ with
      | some (env',σ')=>Zib T ok cf N ops rest env' σ'
      | none=>none
     | false,false=>match exOp T ok cf N o ((t,.bool false)::env) σ with
      | some (env',σ')=>Zib T ok cf N ops rest env' σ'
      | none=>none
     | true,false=>match putE N o.dst (.tup []) ((t,.bool true)::env) with
      | some env'=>Zib T ok cf N ops rest env' σ
      | none=>none
     | false,true=>match putE N o.dst (.tup []) ((t,.bool false)::env) with
      | some env'=>Zib T ok cf N ops rest env' σ
      | none=>none
    | .tup []=>match putE N o.dst (.tup []) env with
     | some env'=>Zib T ok cf N ops rest env' σ
     | none=>none
    | _=>none
def cxS (P:Program) (T:Tab) (ok:TypeId->Bool):Cx:=⟨T,ok,fun f args σ K=>FnOK P f/\SemCall P f args σ K⟩
theorem Ycr {T:Tab} {ok:TypeId->Bool} (hT:TabOK P T) (hok:EqOK P ok):CxOK P (cxS P T ok):=⟨hT,hok,fun _ _ _ _ h=>h⟩
def CFOK (P:Program) (cf:CF):Prop:=∀ f args σ v σ',cf f args σ=some (v,σ')->FnOK P f/\SemCall P f args σ fun v2 σ2=>v2=v/\σ2=σ'
theorem Ua {dst:Option Nat} {v:AV} {env env' : Env} {K:Env->Prop} (h:putE N dst v env=some env') (hk:K env'):Zt N dst v env K:=by
 cases dst with
 | none=>simp only [putE,Qf] at h; subst h; exact hk
 | some d =>
  simp only [putE,Zoq] at h
  obtain ⟨h1,h2⟩:=Zd h
  simp only [Qf] at h2
  subst h2
  exact Br.intro (fun _=>hk) (fun h=>by rw [h] at h1; cases h1)
theorem Zuo {T:Tab} {ok:TypeId->Bool} {cf:CF} (hcf:CFOK P cf) {o:Oper} {env env' : Env} {σ σ' : St} (h:exOp T ok cf N o env σ=some (env',σ')) {K:Env->St->Prop} (hk:K env' σ'):vcOp (cxS P T ok) N o env σ K:=by
 unfold exOp at h
 unfold vcOp
 simp only [Zow,Zxy,Zx0]
 split at h
 ·rename_i f args ts hop
  unfold Zq8
  simp only [Yah]
  split at h
  ·rename_i g c0 c1 hf
   split at h
   ·rename_i v σ1 hc
    split at h
    ·rename_i env1 hp
     cases h
     obtain ⟨h1,h2⟩:=hcf _ _ _ _ _ hc
     rw [hop]
     dsimp only
     rw [hf]
     exact ⟨h1,h2.mono fun v2 σ2 ⟨e1,e2⟩=>by subst e1; subst e2; exact Ua hp hk⟩
    ·cases h
   ·cases h
  ·cases h
 ·rename_i hne
  split at h
  ·rename_i v e ha
   split at h
   ·rename_i env1 hp
    rw [Zxu,Zxq] at h
    cases h
    split
    ·rename_i f args ts hop
     exact (hne _ _ _ hop).elim
    ·rename_i l ts hop
     exact .old (aopK.of (by rw [<-hop]; exact ha) (Ua (K:=fun env'=>K env' (e.st σ)) hp hk))
    ·exact aopK.of ha (Ua (K:=fun env'=>K env' (e.st σ)) hp hk)
   ·cases h
  ·cases h
theorem Zfl {T:Tab} {ok:TypeId->Bool} {cf:CF} (hcf:CFOK P cf) {ops:List Oper}:∀ (l:List Oper) {env env' : Env} {σ σ' : St},Zib T ok cf N ops l env σ=some (env',σ')->∀ {K:Env->St->Prop},K env' σ'->Zdb (cxS P T ok) N ops l env σ K
 | [],env,env',σ,σ',h,K,hk=>by simp only [Zib,Qf,Rk] at h; obtain ⟨rfl,rfl⟩:=h; exact hk
 | o::rest,env,env',σ,σ',h,K,hk=>by
  simp only [Zib] at h
  simp only [Zdb]
  have go:∀ e0,(match exOp T ok cf N o e0 σ with
    | some (env',σ')=>Zib T ok cf N ops rest env' σ'
    | none=>none)=some (env',σ')->vcOp (cxS P T ok) N o e0 σ fun env' σ'=>Zdb (cxS P T ok) N ops rest env' σ' K:=by
   intro e0 h
   split at h
   ·rename_i env1 σ1 h1
    exact Zuo hcf h1 (Zfl hcf rest h hk)
   ·cases h
  have skip:∀ e0,(match putE N o.dst (.tup []) e0 with
    | some env'=>Zib T ok cf N ops rest env' σ
    | none=>none)=some (env',σ')->Zt N o.dst (.tup []) e0 fun env'=>Zdb (cxS P T ok) N ops rest env' σ K:=by
   intro e0 h
   split at h
   ·rename_i env1 h1
    exact Ua h1 (Zfl hcf rest h hk)
   ·cases h
  cases hg:o.guard with
  | none=>rw [hg] at h; exact go env h
  | some jw =>
   obtain ⟨j,want⟩:=jw
   rw [hg] at h
   dsimp only at h ⊢
   cases ht:Yq ops j with
   | none=>rw [ht] at h; cases h
   | some t =>
    rw [ht] at h
    dsimp only at h ⊢
    split at h
    ·rename_i b hb
     rw [hb]
     dsimp only
     split at h
     ·exact go _ h
     ·exact go _ h
     ·exact skip _ h
     ·exact skip _ h
    ·rename_i hb
     rw [hb]
     exact skip _ h
    ·cases h
variable {P:Program} {N:Nat}
def hdF:Hd:=⟨fun _ _ _ _=>False,fun _ _ _ _ _ _ _=>False,fun _ _ _ _=>False⟩
theorem Yg4:HdOK P N hdF:=⟨fun _ _ _ _ h=>h.elim,fun _ _ _ _ _ _ _ h=>h.elim,fun _ _ _ _ _ h=>h.elim⟩
theorem Yav {env:Env} {σ:St} {Q:Exit->Env->St->Prop} (h:Q .normal env σ):Awp P N .skip env σ Q:=fun F B w0 I0 pr r I D a w hF hR S=>wpIn_skip (Jv S h rfl)
theorem Yaw {id:Nat} {env:Env} {σ:St} {Q:Exit->Env->St->Prop} (h:Q (.exit id) env σ):Awp P N (.exit id) env σ Q:=fun F B w0 I0 pr r I D a w hF hR S=>wpIn_exit (Jv S h rfl)
theorem Zy3 {env:Env} {σ:St} {Q:Exit->Env->St->Prop} (h:Q .ret env σ):Awp P N .ret env σ Q:=fun F B w0 I0 pr r I D a w hF hR S=>wpIn_ret (Jv S h rfl)
theorem Zut {cx:Cx} (hcx:CxOK P cx) {id:Nat} {ops:Array Oper} {env:Env} {σ:St} {Q:Exit->Env->St->Prop} (hn:Ya ops.toList=true) (h:Zdb cx N ops.toList ops.toList env σ (Q .normal)):Awp P N (.region id ops false) env σ Q:=by
 refine Ys hcx (Yg4 (P:=P) (N:=N)) (.region id ops false) env σ Q ?_
 simp only [Zaa,hn,cond_true]
 exact h
theorem Zrb {x y:Code} {env:Env} {σ:St} {Q:Exit->Env->St->Prop} (h:Awp P N x env σ (seqQ (fun env' σ'=>Awp P N y env' σ' Q) Q)):Awp P N (.seq x y) env σ Q:=by
 intro F B w0 I0 pr r I D a w hF hR S
 refine wpIn_seq (Ru (fun e a' w' hp=>?_) (h F B w0 I0 pr r I D a w hF hR S))
 cases e with
 | normal =>
  obtain ⟨pr1,ms1,env1,σ1,r1,I1,D1,p1,m1,n1,d1,q1,s1,t1,z1⟩:=hp
  refine Ru (fun e2 a2 w2 h2=>?_) (q1 F B w0 I0 pr1 r1 I1 D1 a' w' hF (hR.le p1) s1)
  have h1:Post B w0 I0 pr N r I D w a.defers (fun _ env' σ'=>env'=env1/\σ'=σ1) .normal a' w':=⟨pr1,ms1,env1,σ1,r1,I1,D1,p1,m1,n1,d1,⟨rfl,rfl⟩,s1,t1,z1⟩
  obtain ⟨pr2,ms2,env2,σ2,r2,I2,D2,p2,m2,n2,d2,q2,s2,t2,z2⟩:=h2
  refine ⟨pr2,ms2++ms1,env2,σ2,r2,I2,D2,fun b o h=>p2 _ _ (p1 _ _ h),?_,?_,by rw [d2,d1,Wm],q2,s2,t1.trans t2,Re z1 z2⟩
  ·intro d hd
   rcases Sh.1 hd with h|h
   ·obtain ⟨b,g1,g2,g3⟩:=m2 d h
    exact ⟨b,g1,g2,Re z1 g3⟩
   ·obtain ⟨b,g1,g2,g3⟩:=m1 d h
    exact ⟨b,g1,p2 _ _ g2,g3⟩
  ·refine Ow.2 ⟨n2,n1,fun x hx y hy e=>?_⟩
   obtain ⟨b,g1,g2,g3⟩:=m2 x hx
   obtain ⟨b',g1',g2',g3'⟩:=m1 y hy
   have:=(Qt.1 (s1.hr.prot _ _ g2').1).1
   rw [g1,g1'] at e
   simp only [Nf] at e
   omega
 | exit id=>exact hp.mono fun _ _ q=>q
 | goto l=>exact hp.mono fun _ _ q=>q
 | ret=>exact hp.mono fun _ _ q=>q
 | panic ch=>exact hp.mono fun _ _ q=>q
 | outgrown=>exact hp.mono fun _ _ q=>q
theorem Zta {c:Operand} {x y:Code} {env:Env} {σ:St} {Q:Exit->Env->St->Prop} {b:Bool} (hb:evA env c = .bool b) (h:cond b (Awp P N x (setC env c true) σ Q) (Awp P N y (setC env c false) σ Q)):Awp P N (.cond c x y) env σ Q:=by
 intro F B w0 I0 pr r I D a w hF hR S
 have hc:=Xy S.er c
 rw [hb] at hc
 have hcv:a.eval c = .bool b:=by generalize a.eval c=z at hc; cases hc; rfl
 cases b with
 | true=>exact wpIn_cond_true hcv (h F B w0 I0 pr r I D a w hF hR (Zmb S hb))
 | false=>exact wpIn_cond_false hcv (h F B w0 I0 pr r I D a w hF hR (Zmb S hb))
theorem Zy4 {id:Nat} {c:Code} {env:Env} {σ:St} {Q:Exit->Env->St->Prop} (h:Awp P N c env σ (Zh4 id Q)):Awp P N (.block id c) env σ Q:=by
 intro F B w0 I0 pr r I D a w hF hR S
 refine wpIn_block (Ru (fun e a' w' h=>?_) (h F B w0 I0 pr r I D a w hF hR S))
 cases e with
 | exit id' =>
  by_cases hid:id'=id
  ·subst hid
   simp only [Mg,if_true]
   exact h.mono fun _ _ q=>by simpa [Zh4] using q
  ·simp only [Mg,hid,if_false]
   exact h.mono fun _ _ q=>by
    have:Qs id' id=false:=by rw [Qx]; intro hb; exact hid (Qh hb)
    simpa [Zh4,this] using q
 | normal=>exact h.mono fun _ _ q=>q
 | goto l=>exact h.mono fun _ _ q=>q
 | ret=>exact h.mono fun _ _ q=>q
 | panic ch=>exact h.mono fun _ _ q=>q
 | outgrown=>exact h.mono fun _ _ q=>q
def Zx2 (T:Tab) (ok:TypeId->Bool) (pc:PC) (N:Nat) (o:Oper) (env:Env) (σ:St) (k:Nat):Option (Rec × Env × St) :=
 match o.op with
 | .call { callee:=.value f,args,.. }=>match evA env f with
  | .func g c0 c1=>match Zao σ.get ((c0++Xg (evA env) args.toList)++c1) with
   | some p=>match pc g p.1 with
    | some res=>match p.2,Vc res.v,res.blks with
     | [],_,_=>match putE N o.dst (Zi (fun j=>k+j) res.v) env with
      | some env'=>some (⟨o,k,res.blks.length+1,Zi (fun j=>k+j) res.v,Xj k res.blks,Zak σ.get ((c0++Xg (evA env) args.toList)++c1)⟩,env',σ.putL (Xj k res.blks))
      | none=>none
     | _,true,[]=>match putE N o.dst (Zi (fun j=>k+j) res.v) env with
      | some env'=>some (⟨o,k,1,Zi (fun j=>k+j) res.v,[],Zak σ.get ((c0++Xg (evA env) args.toList)++c1)⟩,env',σ)
      | none=>none
     | _,_,_=>none
    | none=>none
   | none=>none
  | _=>none
 | op=>match aop T ok k (evA env) σ.get op with
  | some p=>match putE N o.dst p.1 env with
   | some env'=>some (⟨o,k,1,p.1,p.2.puts k,Ug (evA env) op⟩,env',σ.putL (p.2.puts k))
   | none=>none
  | none=>none
def Zj4 (N:Nat) (o:Oper) (env:Env) (σ:St) (k:Nat):Option (Rec × Env × St) :=
 match putE N o.dst (.tup []) env with
 | some env'=>some (⟨o,k,1,.tup [],[],[]⟩,env',σ)
 | none=>none
def exD (T:Tab) (ok:TypeId->Bool) (pc:PC) (N:Nat) (ops:List Oper):List Oper->Env->St->Nat->List Rec->Option (List Rec × Env × St)
 | [],env,σ,k,acc=>some (acc.reverse,env,{ σ with next:=k })
 | o::rest,env,σ,k,acc =>
  match (match o.guard with
   | none=>Zx2 T ok pc N o env σ k
   | some (j,want)=>match Yq ops j with
    | none=>none
    | some t=>match env.get t with
     | .bool b=>match b,want with
      | true,true=>Zx2 T ok pc N o ((t,.bool true)::env) σ k
      | false,false=>Zx2 T ok pc N o ((t,.bool false)::env) σ k
      | true,false=>Zj4 N o ((t,.bool true)::env) σ k
      | false,true=>Zj4 N o ((t,.bool false)::env) σ k
     | .tup []=>Zj4 N o env σ k
     | _=>none) with
  | some (x,env',σ')=>exD T ok pc N ops rest env' σ' (k+x.cnt) (x::acc)
  | none=>none
theorem Zfm {T:Tab} {ok:TypeId->Bool} {pc:PC} {o:Oper} {env:Env} {σ:St} {k:Nat} {x:Rec} {env' : Env} {σ' : St} (h:Zx2 T ok pc N o env σ k=some (x,env',σ')) {K:Rec->Env->St->Prop} (hk:K x env' σ'):Zpt (cxS P T ok) pc N o env σ k K:=by
 unfold Zx2 at h
 rw [Zrh]
 unfold Zri
 split at h
 ·rename_i f args ts hop
  rw [hop]
  dsimp only
  split at h
  ·rename_i g c0 c1 hf
   rw [hf]
   dsimp only
   split at h
   ·rename_i p hp
    rw [hp]
    show Got (pc g p.1) _
    split at h
    ·rename_i res hres
     rw [hres]
     dsimp only [Got]
     split at h
     ·rename_i hp2
      rw [hp2]
      dsimp only
      split at h
      ·rename_i env1 hput
       cases h
       exact Ua (K:=fun env'=>K _ env' _) hput hk
      ·cases h
     ·rename_i hp2 hs hb hne
      split at h
      ·rename_i env1 hput
       cases h
       rw [hs,hb]
       split
       ·rename_i e; exact (hne e).elim
       ·exact Ua (K:=fun env'=>K _ env' _) hput hk
       ·rename_i h1 h2
        exact (h2 rfl rfl).elim
      ·cases h
     ·cases h
    ·cases h
   ·cases h
  ·cases h
 ·rename_i hne
  split at h
  ·rename_i p ha
   split at h
   ·rename_i env1 hp
    cases h
    split
    ·rename_i f args ts hop
     exact (hne _ _ _ hop).elim
    ·exact aopK.of ha (Ua (K:=fun env'=>K _ env' _) hp hk)
   ·cases h
  ·cases h
theorem Zcy {o:Oper} {env:Env} {σ:St} {k:Nat} {x:Rec} {env' : Env} {σ' : St} (h:Zj4 N o env σ k=some (x,env',σ')) {K:Rec->Env->St->Prop} (hk:K x env' σ'):Zg4 N o env σ k K:=by
 unfold Zj4 at h
 split at h
 ·rename_i env1 hp
  cases h
  exact Ua (K:=fun env'=>K _ env' _) hp hk
 ·cases h
variable {P:Program} {N:Nat}
theorem Zo1 {T:Tab} {ok:TypeId->Bool} {pc:PC} {ops:List Oper}:∀ (l:List Oper) {env:Env} {σ:St} {k:Nat} {acc recs:List Rec} {env' : Env} {σ' : St},exD T ok pc N ops l env σ k acc=some (recs,env',σ') ->
  ∀ {K:List Rec->Env->St->Prop},K recs env' σ'->vcD (cxS P T ok) pc N ops l env σ k acc K
 | [],env,σ,k,acc,recs,env',σ',h,K,hk=>by simp only [exD,Qf,Rk] at h; obtain ⟨rfl,rfl,rfl⟩:=h; exact hk
 | o::rest,env,σ,k,acc,recs,env',σ',h,K,hk=>by
  simp only [exD] at h
  split at h
  ·rename_i x env1 σ1 h1
   have hrest:vcD (cxS P T ok) pc N ops rest env1 σ1 (k+x.cnt) (x::acc) K:=Zo1 rest h hk
   simp only [vcD,Zov]
   cases hg:o.guard with
   | none =>
    rw [hg] at h1
    exact Zfm (K:=fun x env' σ'=>vcD (cxS P T ok) pc N ops rest env' σ' (k+x.cnt) (x::acc) K) h1 hrest
   | some jw =>
    obtain ⟨j,want⟩:=jw
    rw [hg] at h1
    dsimp only at h1 ⊢
    cases ht:Yq ops j with
    | none=>rw [ht] at h1; cases h1
    | some t =>
     rw [ht] at h1
     dsimp only at h1 ⊢
     split at h1
     ·rename_i b hb
      rw [hb]
      dsimp only
      split at h1
      ·exact Zfm (K:=fun x env' σ'=>vcD (cxS P T ok) pc N ops rest env' σ' (k+x.cnt) (x::acc) K) h1 hrest
      ·exact Zfm (K:=fun x env' σ'=>vcD (cxS P T ok) pc N ops rest env' σ' (k+x.cnt) (x::acc) K) h1 hrest
      ·exact Zcy (K:=fun x env' σ'=>vcD (cxS P T ok) pc N ops rest env' σ' (k+x.cnt) (x::acc) K) h1 hrest
      ·exact Zcy (K:=fun x env' σ'=>vcD (cxS P T ok) pc N ops rest env' σ' (k+x.cnt) (x::acc) K) h1 hrest
     ·rename_i hb
      rw [hb]
      exact Zcy (K:=fun x env' σ'=>vcD (cxS P T ok) pc N ops rest env' σ' (k+x.cnt) (x::acc) K) h1 hrest
     ·cases h1
  ·cases h
def Zo0 (T:Tab) (ok:TypeId->Bool) (pc:PC) (N:Nat) (ops:List Oper) (env:Env) (σ:St):Option (Env × St) :=
 cond (Ya ops) (match exD T ok pc N ops ops env σ σ.next [] with
  | some (recs,env',σ')=>cond (Zka ops recs) (some (env',σ')) none
  | none=>none) none
theorem Zoz {T:Tab} {ok:TypeId->Bool} {pc:PC} {ops:List Oper} {env env' : Env} {σ σ' : St} (h:Zo0 T ok pc N ops env σ=some (env',σ')) {K:Env->St->Prop} (hk:K env' σ'):Zeo (cxS P T ok) pc N ops env σ K:=by
 unfold Zo0 at h
 obtain ⟨h1,h⟩:=Zd h
 split at h
 ·rename_i recs env1 σ1 hd
  obtain ⟨h2,h⟩:=Zd h
  cases h
  unfold Zeo
  rw [h1]
  exact Zo1 ops hd ⟨h2,hk⟩
 ·cases h
def dedA {α:Type}:Nat->List (Nat × α)->List (Nat × α)
 | _,[]=>[]
 | m,(j,v)::e=>cond (Hl m j) (dedA m e) ((j,v)::dedA (Jc m (Lj 1 j)) e)
theorem Zix {m j i:Nat} (hi:i≠j):(Jc m (Lj 1 j)).testBit i=m.testBit i:=by
 have h1:(m ||| 1 <<< j).testBit i=(m.testBit i||(1 <<< j).testBit i):=Nat.testBit_or ..
 have h2:(1 <<< j).testBit i=false:=by
  cases hb:(1 <<< j).testBit i with
  | false=>rfl
  | true=>exact (hi (Zni hb)).elim
 have:(Jc m (Lj 1 j)).testBit i=(m ||| 1 <<< j).testBit i:=rfl
 rw [this,h1,h2,Bool.or_false]
theorem Zm2:∀ (e:Env) (m i:Nat),m.testBit i=false->Env.get (dedA m e) i=Env.get e i
 | [],_,_,_=>rfl
 | (j,v)::e,m,i,h=>by
  simp only [dedA]
  cases hb:Hl m j with
  | true =>
   have hne:i≠j:=fun e=>by subst e; rw [hb] at h; cases h
   rw [Pg,if_neg hne]
   exact Zm2 e m i h
  | false =>
   simp only [cond_false,Pg]
   by_cases hij:i=j
   ·rw [if_pos hij,if_pos hij]
   ·rw [if_neg hij,if_neg hij]
    exact Zm2 e _ i (by rw [Zix hij]; exact h)
theorem Zbc (j:Nat) (b:ABlk) (e:List (Nat × ABlk)) (i:Nat):hget ((j,b)::e) i=if i=j then b else hget e i:=by
 simp only [hget]
 by_cases h:i=j
 ·subst h; simp
 ·have:Qs i j=false:=by rw [Qx]; intro hb; exact h (Qh hb)
  simp [this,h]
theorem Zgm:∀ (e:List (Nat × ABlk)) (m i:Nat),m.testBit i=false->hget (dedA m e) i=hget e i
 | [],_,_,_=>rfl
 | (j,v)::e,m,i,h=>by
  simp only [dedA]
  cases hb:Hl m j with
  | true =>
   have hne:i≠j:=fun e=>by subst e; rw [hb] at h; cases h
   rw [Zbc,if_neg hne]
   exact Zgm e m i h
  | false =>
   simp only [cond_false,Zbc]
   by_cases hij:i=j
   ·rw [if_pos hij,if_pos hij]
   ·rw [if_neg hij,if_neg hij]
    exact Zgm e _ i (by rw [Zix hij]; exact h)
def dedS (σ:St):St:={ σ with heap:=dedA 0 σ.heap }
theorem Zuq (env:Env) (σ:St):Zg0 env σ (dedA 0 env) (dedS σ):=⟨fun i=>.inl (Zm2 env 0 i (by simp)),fun i=>.inl (Zgm σ.heap 0 i (by simp)),rfl⟩
abbrev Out:=Option (Exit × Env × St)
def Zoy (ec:Env->St->Out):Nat->Env->St->Out
 | 0,_,_=>none
 | m+1,env,σ=>match ec env σ with
  | some (.normal,env',σ')=>Zoy ec m (dedA 0 env') (dedS σ')
  | some (.exit id,env',σ')=>some (.exit id,env',σ')
  | some (.ret,env',σ')=>some (.ret,env',σ')
  | _=>none
def Zeh (ea eb:Env->St->Out) (ps:List Tmp) (env:Env):List (List AV)->St->Out
 | [],σ=>some (.normal,env,σ)
 | x::xs,σ=>cond (Qs x.length ps.length) (match ea (Zfx ps x env) σ with
  | some (.normal,env1,σ1)=>match eb env1 σ1 with
   | some (.normal,_,σ2)=>Zeh ea eb ps env xs σ2
   | some (.ret,_,σ2)=>some (.ret,env,σ2)
   | some (.exit id,_,σ2)=>some (.exit id,env,σ2)
   | _=>none
  | _=>none) none
theorem Awp.froz {c:Code} {env:Env} {σ:St} {Q:Exit->Env->St->Prop} (l:List Nat) (hm:mutL σ.get l=true) (h:Awp P N c env (Vo σ l) Q):Awp P N c env σ Q :=
 fun F B w0 I0 pr r I D a w hF hR S=>by
 obtain ⟨H1,S1⟩:=S.hr.froz (Zca hm)
 have S' : SR B w0 I0 pr N r (Xe r I σ.get l) D env (Vo σ l) a w:=⟨by rw [Zcj,Zbd]; exact H1,S.er.mono S1⟩
 exact Ru (fun e a' w' hp=>by
  obtain ⟨pr1,ms1,env1,σ1,r1,I1,D1,p1,m1,n1,d1,q1,s1,t1,z1⟩:=hp
  exact ⟨pr1,ms1,env1,σ1,r1,I1,D1,p1,m1,n1,d1,q1,s1,S1.trans t1,z1⟩) (h F B w0 I0 pr r (Xe r I σ.get l) D a w hF hR S')
def Znp (h:Nat->ABlk):Env->List Nat->List Nat
 | [],l=>l
 | (_,.asl id _ _)::e,l=>cond (l.any (fun j=>Qs j id) || !mutL h [id]) (Znp h e l) (Znp h e (id::l))
 | _::e,l=>Znp h e l
def Zqu (T:Tab) (ok:TypeId->Bool) (pc:PC) (N:Nat) (ops:List Oper) (env:Env) (σ:St):Option (Env × St) :=
 match Zo0 T ok pc N ops env σ with
 | some r=>some r
 | none=>cond (mutL σ.get (Znp σ.get env [])) (Zo0 T ok pc N ops env (Vo σ (Znp σ.get env []))) none
theorem Zm0 {T:Tab} (hT:TabOK P T) {ok:TypeId->Bool} (hok:EqOK P ok) {pc:PC} (hpc:PCOK P pc) (hm:P.follows .mixedOrders=true) {id:Nat} {ops:Array Oper} {env env' : Env} {σ σ' : St} (h:Zqu T ok pc N ops.toList env σ=some (env',σ')) :
  Awp P N (.region id ops true) env σ fun e e2 s2=>e = .normal/\e2=env'/\s2=σ':=by
 have key:∀ σ1,Zo0 T ok pc N ops.toList env σ1=some (env',σ')->Awp P N (.region id ops true) env σ1 fun e e2 s2=>e = .normal/\e2=env'/\s2=σ':=fun σ1 h2 =>
  (Zbp (Ycr hT hok) hpc hm id ops env σ1 (fun e s=>e=env'/\s=σ') (Zoz h2 ⟨rfl,rfl⟩)).mono fun e2 env2 σ2 hq=>by
   cases e2 with
   | normal=>exact ⟨rfl,hq.1,hq.2⟩
   | _=>exact hq.elim
 unfold Zqu at h
 split at h
 ·rename_i r hr
  cases h
  exact key _ hr
 ·obtain ⟨h1,h⟩:=Zd h
  exact Awp.froz _ h1 (key _ h)
def Xb (T:Tab) (ok:TypeId->Bool) (cf:CF) (pc:PC) (it:ITab) (lim N:Nat):Code->Env->St->Out
 | .skip,env,σ=>some (.normal,env,σ)
 | .region _ ops draw,env,σ=>match draw with
  | false=>cond (Ya ops.toList) (match Zib T ok cf N ops.toList ops.toList env σ with
   | some (env',σ')=>some (.normal,env',σ')
   | none=>none) none
  | true=>match Zqu T ok pc N ops.toList env σ with
   | some (env',σ')=>some (.normal,env',σ')
   | none=>none
 | .seq x y,env,σ=>match Xb T ok cf pc it lim N x env σ with
  | some (.normal,env',σ')=>Xb T ok cf pc it lim N y env' σ'
  | some (.exit id,env',σ')=>some (.exit id,env',σ')
  | some (.ret,env',σ')=>some (.ret,env',σ')
  | _=>none
 | .cond c x y,env,σ=>match evA env c with
  | .bool true=>Xb T ok cf pc it lim N x (setC env c true) σ
  | .bool false=>Xb T ok cf pc it lim N y (setC env c false) σ
  | _=>none
 | .block id c,env,σ=>match Xb T ok cf pc it lim N c env σ with
  | some (.exit id',env',σ')=>some (cond (Qs id' id) .normal (.exit id'),env',σ')
  | some (.normal,env',σ')=>some (.normal,env',σ')
  | some (.ret,env',σ')=>some (.ret,env',σ')
  | _=>none
 | .loop c,env,σ=>Zoy (Xb T ok cf pc it lim N c) lim env σ
 | .rangeFunc f ps x y,env,σ=>match evA env f with
  | .func g c0 c1=>match Zao σ.get c0,Zao σ.get c1 with
   | some p0,some p1=>match it g p0.1 p1.1 with
    | some xs=>cond (Zau N ps.toList) (match p0.2++p1.2 with
     | []=>Zeh (Xb T ok cf pc it lim N x) (Xb T ok cf pc it lim N y) ps.toList env xs σ
     | a::l=>cond (mutL σ.get (a::l)) (Zeh (Xb T ok cf pc it lim N x) (Xb T ok cf pc it lim N y) ps.toList env xs (Vo σ (a::l))) none) none
    | none=>none
   | _,_=>none
  | _=>none
 | .exit id,env,σ=>some (.exit id,env,σ)
 | .ret,env,σ=>some (.ret,env,σ)
 | _,_,_=>none
def Is (e:Exit) (env:Env) (σ:St):Exit->Env->St->Prop:=fun e2 env2 σ2=>e2=e/\env2=env/\σ2=σ
theorem Zh2 {c:Code} {ec:Env->St->Out} (hc:∀ env σ e env' σ',ec env σ=some (e,env',σ')->Awp P N c env σ (Is e env' σ')):∀ (m:Nat) {env:Env} {σ:St} {e:Exit} {env' : Env} {σ' : St},Zoy ec m env σ=some (e,env',σ')->Zrf P N c (Is e env' σ') m env σ
 | 0,env,σ,e,env',σ',h=>by simp [Zoy] at h
 | m+1,env,σ,e,env',σ',h=>by
  simp only [Zoy] at h
  simp only [Zrf]
  split at h
  ·rename_i env1 σ1 h1
   refine (hc _ _ _ _ _ h1).forgets fun e2 env2 σ2 hq=>?_
   obtain ⟨rfl,rfl,rfl⟩:=hq
   exact ⟨_,_,Zuq _ _,Zh2 hc m h⟩
  ·rename_i id env1 σ1 h1
   cases h
   exact (hc _ _ _ _ _ h1).mono fun e2 env2 σ2 hq=>by obtain ⟨rfl,rfl,rfl⟩:=hq; exact ⟨rfl,rfl,rfl⟩
  ·rename_i env1 σ1 h1
   cases h
   exact (hc _ _ _ _ _ h1).mono fun e2 env2 σ2 hq=>by obtain ⟨rfl,rfl,rfl⟩:=hq; exact ⟨rfl,rfl,rfl⟩
  ·cases h
theorem Zb5 {n0:Nat} {assign body:Code} {ea eb:Env->St->Out} (ha:∀ env σ e env' σ',ea env σ=some (e,env',σ')->Awp P N assign env σ (Is e env' σ')) (hb:∀ env σ e env' σ',eb env σ=some (e,env',σ')->Awp P N body env σ (Is e env' σ')) {ps:List Tmp} {env:Env} :
  ∀ (xs:List (List AV)) {σ:St} {e:Exit} {env' : Env} {σ' : St},Zeh ea eb ps env xs σ=some (e,env',σ')->Zgz P N n0 ps assign body env (Is e env' σ') xs σ
 | [],σ,e,env',σ',h=>by simp only [Zeh,Qf,Rk] at h; obtain ⟨rfl,rfl,rfl⟩:=h; exact ⟨rfl,rfl,rfl⟩
 | x::xs,σ,e,env',σ',h=>by
  simp only [Zeh] at h
  obtain ⟨h1,h⟩:=Zd h
  refine ⟨Qh h1,?_⟩
  split at h
  ·rename_i env1 σ1 h2
   refine (ha _ _ _ _ _ h2).mono fun e2 env2 σ2 hq=>?_
   obtain ⟨rfl,rfl,rfl⟩:=hq
   refine ⟨rfl,?_⟩
   split at h
   ·rename_i env3 σ3 h3
    refine (hb _ _ _ _ _ h3).mono fun e4 env4 σ4 hq=>?_
    obtain ⟨rfl,rfl,rfl⟩:=hq
    exact ⟨_,.inl rfl,Zb5 ha hb xs h⟩
   ·rename_i env3 σ3 h3
    cases h
    refine (hb _ _ _ _ _ h3).mono fun e4 env4 σ4 hq=>?_
    obtain ⟨rfl,rfl,rfl⟩:=hq
    exact ⟨rfl,rfl,rfl⟩
   ·rename_i id env3 σ3 h3
    cases h
    refine (hb _ _ _ _ _ h3).mono fun e4 env4 σ4 hq=>?_
    obtain ⟨rfl,rfl,rfl⟩:=hq
    exact ⟨rfl,rfl,rfl⟩
   ·cases h
  ·cases h
theorem Zy {T:Tab} (hT:TabOK P T) {ok:TypeId->Bool} (hok:EqOK P ok) {cf:CF} (hcf:CFOK P cf) {pc:PC} (hpc:PCOK P pc) {it:ITab} (hit:∀ g c0 c1 xs,it g c0 c1=some xs->ItOK P g c0 c1 xs) (hm:P.follows .mixedOrders=true) {lim:Nat} :
  ∀ (c:Code) (env:Env) (σ:St) (e:Exit) (env' : Env) (σ' : St),Xb T ok cf pc it lim N c env σ=some (e,env',σ')->Awp P N c env σ (Is e env' σ')
 | .skip,env,σ,e,env',σ',h=>by simp only [Xb,Qf,Rk] at h; obtain ⟨rfl,rfl,rfl⟩:=h; exact Yav ⟨rfl,rfl,rfl⟩
 | .region id ops draw,env,σ,e,env',σ',h=>by
  cases draw with
  | false =>
   simp only [Xb] at h
   obtain ⟨h1,h⟩:=Zd h
   split at h
   ·rename_i env1 σ1 h2
    cases h
    exact Zut (Ycr hT hok) h1 (Zfl hcf _ h2 ⟨rfl,rfl,rfl⟩)
   ·cases h
  | true =>
   simp only [Xb] at h
   split at h
   ·rename_i env1 σ1 h2
    cases h
    exact Zm0 hT hok hpc hm h2
   ·cases h
 | .seq x y,env,σ,e,env',σ',h=>by
  simp only [Xb] at h
  refine Zrb ?_
  split at h
  ·rename_i env1 σ1 h1
   refine (Zy hT hok hcf hpc hit hm x _ _ _ _ _ h1).mono fun e2 env2 σ2 hq=>?_
   obtain ⟨rfl,rfl,rfl⟩:=hq
   exact Zy hT hok hcf hpc hit hm y _ _ _ _ _ h
  ·rename_i id env1 σ1 h1
   cases h
   refine (Zy hT hok hcf hpc hit hm x _ _ _ _ _ h1).mono fun e2 env2 σ2 hq=>?_
   obtain ⟨rfl,rfl,rfl⟩:=hq
   exact ⟨rfl,rfl,rfl⟩
  ·rename_i env1 σ1 h1
   cases h
   refine (Zy hT hok hcf hpc hit hm x _ _ _ _ _ h1).mono fun e2 env2 σ2 hq=>?_
   obtain ⟨rfl,rfl,rfl⟩:=hq
   exact ⟨rfl,rfl,rfl⟩
  ·cases h
 | .cond c x y,env,σ,e,env',σ',h=>by
  simp only [Xb] at h
  split at h
  ·rename_i hb; exact Zta hb (Zy hT hok hcf hpc hit hm x _ _ _ _ _ h)
  ·rename_i hb; exact Zta hb (Zy hT hok hcf hpc hit hm y _ _ _ _ _ h)
  ·cases h
 | .block id c,env,σ,e,env',σ',h=>by
  simp only [Xb] at h
  refine Zy4 ?_
  split at h
  ·rename_i id' env1 σ1 h1
   cases h
   refine (Zy hT hok hcf hpc hit hm c _ _ _ _ _ h1).mono fun e2 env2 σ2 hq=>?_
   obtain ⟨rfl,rfl,rfl⟩:=hq
   simp only [Zh4]
   cases Qs id' id<;>exact ⟨rfl,rfl,rfl⟩
  ·rename_i env1 σ1 h1
   cases h
   refine (Zy hT hok hcf hpc hit hm c _ _ _ _ _ h1).mono fun e2 env2 σ2 hq=>?_
   obtain ⟨rfl,rfl,rfl⟩:=hq
   exact ⟨rfl,rfl,rfl⟩
  ·rename_i env1 σ1 h1
   cases h
   refine (Zy hT hok hcf hpc hit hm c _ _ _ _ _ h1).mono fun e2 env2 σ2 hq=>?_
   obtain ⟨rfl,rfl,rfl⟩:=hq
   exact ⟨rfl,rfl,rfl⟩
  ·cases h
 | .loop c,env,σ,e,env',σ',h=>by
  simp only [Xb] at h
  exact Zjs (Zh2 (fun env σ e env' σ' h=>Zy hT hok hcf hpc hit hm c env σ e env' σ' h) lim h)
 | .rangeFunc f ps x y,env,σ,e,env',σ',h=>by
  simp only [Xb] at h
  refine Znq hit ?_
  unfold Zzl
  have hx:∀ env σ e env' σ',Xb T ok cf pc it lim N x env σ=some (e,env',σ')->Awp P N x env σ (Is e env' σ'):=fun env σ e env' σ' h=>Zy hT hok hcf hpc hit hm x env σ e env' σ' h
  have hy:∀ env σ e env' σ',Xb T ok cf pc it lim N y env σ=some (e,env',σ')->Awp P N y env σ (Is e env' σ'):=fun env σ e env' σ' h=>Zy hT hok hcf hpc hit hm y env σ e env' σ' h
  split at h
  ·rename_i g c0 c1 hev
   try rw [hev]
   try dsimp only
   split at h
   ·rename_i p0 p1 h0 h1
    try rw [h0,h1]
    try dsimp only [Got]
    split at h
    ·rename_i xs hxs
     try rw [hxs]
     try dsimp only [Got]
     obtain ⟨h2,h⟩:=Zd h
     try rw [h2]
     try simp only [cond_true]
     split at h
     ·rename_i hl
      try rw [hl]
      exact Zb5 hx hy xs h
     ·rename_i a l hl
      try rw [hl]
      obtain ⟨h3,h⟩:=Zd h
      try dsimp only
      try rw [h3]
      exact Zb5 hx hy xs h
    ·cases h
   ·cases h
  ·cases h
 | .exit id,env,σ,e,env',σ',h=>by simp only [Xb,Qf,Rk] at h; obtain ⟨rfl,rfl,rfl⟩:=h; exact Yaw ⟨rfl,rfl,rfl⟩
 | .ret,env,σ,e,env',σ',h=>by simp only [Xb,Qf,Rk] at h; obtain ⟨rfl,rfl,rfl⟩:=h; exact Zy3 ⟨rfl,rfl,rfl⟩
 | .scope _,_,_,_,_,_,h=>by simp [Xb] at h
 | .label _,_,_,_,_,_,h=>by simp [Xb] at h
 | .goto _,_,_,_,_,_,h=>by simp [Xb] at h
 | .refuse _,_,_,_,_,_,h=>by simp [Xb] at h
variable {P:Program} {N:Nat}
mutual
theorem Zty (f:Nat->Nat):∀ (v:AV),Yb v=true->Zi f v=v
 | .any,_=>rfl
 | .bool _,_=>rfl
 | .int _ _,_=>rfl
 | .flt _ _,_=>rfl
 | .cpx _ _ _,_=>rfl
 | .val _ _ _,_=>rfl
 | .str _,_=>rfl
 | .ptr _ _ _,h=>by simp [Yb] at h
 | .ipt _,_=>rfl
 | .nilp,_=>rfl
 | .nils,_=>rfl
 | .asl _ _ _,h=>by simp [Yb] at h
 | .bsl _ _ _ _ _,h=>by simp [Yb] at h
 | .isl _ _,_=>rfl
 | .amap _,h=>by simp [Yb] at h
 | .func g c0 c1,h=>by
  simp only [Yb,Qc] at h
  simp only [Zi,Zdo f c0 h.1,Zdo f c1 h.2]
 | .yld _,_=>rfl
 | .agg cs,h=>by simp only [Yb] at h; simp only [Zi,Zdo f cs h]
 | .tup cs,h=>by simp only [Yb] at h; simp only [Zi,Zdo f cs h]
theorem Zdo (f:Nat->Nat):∀ (cs:List AV),Yo cs=true->renL f cs=cs
 | [],_=>rfl
 | c::cs,h=>by
  simp only [Yo,Qc] at h
  simp only [renL,Zty f c h.1,Zdo f cs h.2]
end
mutual
theorem Zuf (m:Nat):∀ (v:AV),Yb v=true->Vj m v=true
 | .any,_=>rfl
 | .bool _,_=>rfl
 | .int _ _,_=>rfl
 | .flt _ _,_=>rfl
 | .cpx _ _ _,_=>rfl
 | .val _ _ _,_=>rfl
 | .str _,_=>rfl
 | .ptr _ _ _,h=>by simp [Yb] at h
 | .ipt _,_=>rfl
 | .nilp,_=>rfl
 | .nils,_=>rfl
 | .asl _ _ _,h=>by simp [Yb] at h
 | .bsl _ _ _ _ _,h=>by simp [Yb] at h
 | .isl _ _,_=>rfl
 | .amap _,h=>by simp [Yb] at h
 | .func g c0 c1,h=>by
  simp only [Yb,Qc] at h
  simp only [Vj,Zbb m c0 h.1,Zbb m c1 h.2,Qcd]
 | .yld _,_=>rfl
 | .agg cs,h=>by simp only [Yb] at h; simp only [Vj,Zbb m cs h]
 | .tup cs,h=>by simp only [Yb] at h; simp only [Vj,Zbb m cs h]
theorem Zbb (m:Nat):∀ (cs:List AV),Yo cs=true->Uc m cs=true
 | [],_=>rfl
 | c::cs,h=>by
  simp only [Yo,Qc] at h
  simp only [Uc,Zuf m c h.1,Zbb m cs h.2,Qcd]
end
def Yfp (n0:Nat):ABlk->Bool
 | .row _ elems _ pu=>pu||elems.all (Uc n0)
 | .map _=>false
 | _=>true
def Zf9 {α:Type} (n0:Nat):List (Nat × α)->List (Nat × α)
 | []=>[]
 | p::l=>cond (Pp p.1 n0) (p::Zf9 n0 l) (Zf9 n0 l)
theorem Zhe (n0:Nat):∀ (l:List (Nat × ABlk)) (i:Nat),hget (Zf9 n0 l) i=hget l i\/hget (Zf9 n0 l) i = .dead
 | [],i=>.inl rfl
 | (j,b)::l,i=>by
  simp only [Zf9]
  cases hb:Pp j n0 with
  | true =>
   simp only [cond_true,Zbc]
   by_cases h:i=j
   ·simp [h]
   ·simp only [h,if_false]; exact Zhe n0 l i
  | false =>
   simp only [cond_false,Zbc]
   by_cases h:i=j
   ·right
    have key:∀ (l:List (Nat × ABlk)),hget (Zf9 n0 l) i = .dead:=by
     intro l
     induction l with
     | nil=>rfl
     | cons p l ih =>
      obtain ⟨q,c⟩:=p
      simp only [Zf9]
      cases hq:Pp q n0 with
      | true =>
       simp only [cond_true,Zbc]
       have:i≠q:=fun e=>by subst e; rw [h] at hq; rw [hb] at hq; cases hq
       simp only [this,if_false]; exact ih
      | false=>exact ih
    exact key l
   ·simp only [h,if_false]; exact Zhe n0 l i
def gcS (n0:Nat) (v:AV) (σ:St):St :=
 let hp:=dedA 0 σ.heap
 let old:=Zf9 n0 hp
 cond (Yb v&&old.all (fun p=>Yfp n0 p.2)) { σ with heap:=old } { σ with heap:=hp }
theorem Zuk (n0:Nat) (v:AV) (σ:St):(∀ i,(gcS n0 v σ).get i=σ.get i\/(gcS n0 v σ).get i = .dead)/\(gcS n0 v σ).next=σ.next:=by
 unfold gcS
 dsimp only
 cases Yb v&&(Zf9 n0 (dedA 0 σ.heap)).all (fun p=>Yfp n0 p.2) with
 | true =>
  refine ⟨fun i=>?_,rfl⟩
  rcases Zhe n0 (dedA 0 σ.heap) i with h|h
  ·exact .inl (h.trans (Zgm σ.heap 0 i (by simp)))
  ·exact .inr h
 | false=>exact ⟨fun i=>.inl (Zgm σ.heap 0 i (by simp)),rfl⟩
theorem SemCall.forgets {f:FuncId} {args:List AV} {σ:St} {K K' : AV->St->Prop} (h:SemCall P f args σ K) (hk:∀ v σ,K v σ->∃ σ',((∀ i,σ'.get i=σ.get i\/σ'.get i = .dead)/\σ'.next=σ.next)/\K' v σ'):SemCall P f args σ K' :=
 fun B w0 I0 pr r I D w vs H hv=>(h B w0 I0 pr r I D w vs H hv).mono fun e w' ⟨x,v,σ',r',I',D',h1,h2,h3,h4⟩=>by
  obtain ⟨σ2,hf,h5⟩:=hk _ _ h2
  exact ⟨x,v,σ2,r',I',D',h1,h5,by have:=h3.kills hf.1; rw [hf.2]; exact this,h4⟩
def Ycm (T:Tab) (ok:TypeId->Bool) (cf:CF) (pc:PC) (it:ITab) (lim:Nat) (fn:Func) (args:List AV) (σ:St):Option (AV × St) :=
 match fn.body with
 | some c=>cond (Su args.length fn.ntmps) (match Xb T ok cf pc it lim fn.ntmps c (env0 0 args) σ with
  | some (.normal,env,σ')=>match Zb7 T env σ'.get fn.results.toList with
   | some vs=>some (resV vs,gcS σ.next (resV vs) σ')
   | none=>none
  | some (.ret,env,σ')=>match Zb7 T env σ'.get fn.results.toList with
   | some vs=>some (resV vs,gcS σ.next (resV vs) σ')
   | none=>none
  | _=>none) none
 | none=>none
def idxN:List Nat->Nat->Nat
 | [],_=>0
 | a::l,i=>cond (Qs i a) 0 (idxN l i+1)
theorem Zcd:∀ {ids:List Nat} {i:Nat},memN ids i=true->listed ids (idxN ids i)=i
 | [],_,h=>by simp [memN] at h
 | a::l,i,h=>by
  simp only [idxN]
  cases hb:Qs i a with
  | true=>rw [Qh hb]; rfl
  | false =>
   simp only [memN,hb,Bool.false_or] at h
   exact Zcd h
mutual
def Zey (ids:List Nat):AV->Bool
 | .ptr id _ _ | .asl id _ _ | .bsl id _ _ _ _ | .amap id=>memN ids id
 | .func _ c0 c1=>Zfk ids c0&&Zfk ids c1
 | .agg cs=>Zfk ids cs
 | .tup cs=>Zfk ids cs
 | _=>true
def Zfk (ids:List Nat):List AV->Bool
 | []=>true
 | c::cs=>Zey ids c&&Zfk ids cs
end
mutual
theorem Zr0 {ids:List Nat}:∀ (v:AV),Zey ids v=true->Zi (listed ids) (Zi (idxN ids) v)=v
 | .any,_=>rfl
 | .bool _,_=>rfl
 | .int _ _,_=>rfl
 | .flt _ _,_=>rfl
 | .cpx _ _ _,_=>rfl
 | .val _ _ _,_=>rfl
 | .str _,_=>rfl
 | .ptr _ _ _,h=>by simp only [Zey] at h; simp only [Zi,Zcd h]
 | .ipt _,_=>rfl
 | .nilp,_=>rfl
 | .nils,_=>rfl
 | .asl _ _ _,h=>by simp only [Zey] at h; simp only [Zi,Zcd h]
 | .bsl _ _ _ _ _,h=>by simp only [Zey] at h; simp only [Zi,Zcd h]
 | .isl _ _,_=>rfl
 | .amap _,h=>by simp only [Zey] at h; simp only [Zi,Zcd h]
 | .func g c0 c1,h=>by
  simp only [Zey,Qc] at h
  simp only [Zi,Zdn c0 h.1,Zdn c1 h.2]
 | .yld _,_=>rfl
 | .agg cs,h=>by simp only [Zey] at h; simp only [Zi,Zdn cs h]
 | .tup cs,h=>by simp only [Zey] at h; simp only [Zi,Zdn cs h]
theorem Zdn {ids:List Nat}:∀ (cs:List AV),Zfk ids cs=true->renL (listed ids) (renL (idxN ids) cs)=cs
 | [],_=>rfl
 | c::cs,h=>by
  simp only [Zfk,Qc] at h
  simp only [renL,Zr0 c h.1,Zdn cs h.2]
end
mutual
def Zue:AV->List Nat
 | .ptr id _ _ | .asl id _ _ | .bsl id _ _ _ _ | .amap id=>[id]
 | .func _ c0 c1=>Zog c0++Zog c1
 | .agg cs=>Zog cs
 | .tup cs=>Zog cs
 | _=>[]
def Zog:List AV->List Nat
 | []=>[]
 | c::cs=>Zue c++Zog cs
end
def uniq:List Nat->List Nat->List Nat
 | acc,[]=>acc.reverse
 | acc,a::l=>cond (memN acc a) (uniq acc l) (uniq (a::acc) l)
def Zny:List Nat->Bool
 | []=>true
 | a::l=>!memN l a&&Zny l
theorem Yd3 {l:List Nat} {t:Nat} (h:t∈l):memN l t=true:=by
 induction l with
 | nil=>simp at h
 | cons a l ih =>
  simp only [memN,Bool.or_eq_true]
  rcases List.mem_cons.1 h with rfl|h
  ·exact .inl (Nat.beq_refl _)
  ·exact .inr (ih h)
theorem Zfe:∀ {l:List Nat},Zny l=true->l.Nodup
 | [],_=>.nil
 | a::l,h=>by
  simp only [Zny,Qc,Bool.not_eq_true'] at h
  refine List.nodup_cons.2 ⟨fun hm=>?_,Zfe h.2⟩
  rw [Yd3 hm] at h; cases h.1
def tag1 (b:ABlk):ABlk:=match b with
 | .row es elems mt pu=>cond pu (.row es elems mt true) (cond (elems.all Yo) (.row es elems mt true) (.row es elems mt pu))
 | b=>b
def tagS (σ:St):St:={ σ with heap:=σ.heap.map fun p=>(p.1,tag1 p.2) }
theorem Zzo (σ:St) (i:Nat):(tagS σ).get i=tag1 (σ.get i):=by
 simp only [St.get,tagS]
 induction σ.heap with
 | nil=>rfl
 | cons p l ih =>
  obtain ⟨j,b⟩:=p
  simp only [List.map_cons,Zbc,ih]
  split<;>rfl
theorem HR.tag {B:Nat} {w0:World} {I0:Imm} {pr:Nat->Obj->Prop} {r:Locs} {I:Imm} {D:Nat->Prop} {h:Nat->ABlk} {n:Nat} {w:World} (H:HR B w0 I0 pr r I D h n w) {h' : Nat->ABlk} (hk:∀ i,h' i=tag1 (h i)):HR B w0 I0 pr r I D h' n w:=by
 have hl:∀ i,(h' i).live=(h i).live:=by
  intro i
  rw [hk]
  cases h i with
  | row es elems mt pu=>simp only [tag1]; cases pu<;>cases elems.all Yo<;>rfl
  | _=>rfl
 refine ⟨H.below,H.base,H.imm,H.dom,fun i hi=>H.live i (by rwa [hl] at hi),fun i=>?_,fun i j hi hj=>H.inj i j (by rwa [hl] at hi) (by rwa [hl] at hj),H.prot,fun b o hp=>⟨fun i hi=>(H.protK b o hp).1 i (by rwa [hl] at hi),(H.protK b o hp).2⟩,H.immB⟩
 rw [hk]
 have hB:=H.blk i
 cases hb:h i with
 | row es elems mt pu =>
  rw [hb] at hB
  simp only [tag1]
  cases hpu:pu with
  | true=>rw [hpu] at hB; exact hB
  | false =>
  rw [hpu] at hB
  cases hp:elems.all Yo with
  | false=>exact hB
  | true =>
   obtain ⟨h1,h2,h3,cs,T,fz,h4,h5,h6,h7,h8⟩:=hB
   refine ⟨h1,h2,h3,cs,T,fz,h4,h5,fun i e j c hi hj=>?_,h7,h8⟩
   obtain ⟨v,a,b⟩:=h6 i e j c hi hj
   have hpe:=List.all_eq_true.1 hp e (List.mem_of_getElem? hi)
   exact ⟨v,a,(b.pure (Uh hpe hj)).weak fun _ h=>h.elim⟩
 | _=>rw [hb] at hB; exact hB
theorem SemCall.tag {f:FuncId} {args:List AV} {σ:St} {K K' : AV->St->Prop} (h:SemCall P f args σ K) (hk:∀ v σ,K v σ->K' v (tagS σ)):SemCall P f args σ K' :=
 fun B w0 I0 pr r I D w vs H hv=>(h B w0 I0 pr r I D w vs H hv).mono fun e w' ⟨x,v,σ',r',I',D',h1,h2,h3,h4⟩ =>
  ⟨x,v,tagS σ',r',I',D',h1,hk _ _ h2,h3.tag (Zzo σ'),h4⟩
def Zk3 (σ:St):List Nat->Option (List (Nat × List (List AV)))
 | []=>some []
 | i::l=>match σ.get i,Zk3 σ l with
  | .row es elems true true,some rs=>some ((es,elems)::rs)
  | _,_=>none
theorem Ze9 {σ:St}:∀ {ids:List Nat} {rs:List (Nat × List (List AV))},Zk3 σ ids=some rs->ids.length=rs.length/\∀ (j:Nat) (p:Nat × List (List AV)),rs[j]?=some p->σ.get (listed ids j) = .row p.1 p.2 true true
 | [],rs,h=>by simp only [Zk3,Qf] at h; subst h; exact ⟨rfl,fun j p hj=>by simp at hj⟩
 | i::l,rs,h=>by
  simp only [Zk3] at h
  split at h
  ·rename_i es elems rs' h1 h2
   cases h
   obtain ⟨g1,g2⟩:=Ze9 h2
   refine ⟨by simp [g1],fun j p hj=>?_⟩
   cases j with
   | zero=>simp at hj; subst hj; exact h1
   | succ j=>exact g2 j p (by simpa using hj)
  ·cases h
def pcF (cf:CF):PC:=fun f args=>match cf f args ⟨[],0⟩ with
 | some (v,σ)=>match Zk3 (tagS σ) (uniq [] (Zue v)) with
  | some rs=>cond (Zny (uniq [] (Zue v))&&Zey (uniq [] (Zue v)) v&&Vj rs.length (Zi (idxN (uniq [] (Zue v))) v)) (some ⟨Zi (idxN (uniq [] (Zue v))) v,rs⟩) none
  | none=>none
 | none=>none
mutual
theorem Ztm {h:Nat->ABlk} {rv:List AV->Option (List AV × List Nat)}:∀ (v:AV),Yb v=true->Ve rv h v=some (v,[])
 | .any,_=>rfl
 | .bool _,_=>rfl
 | .int _ _,_=>rfl
 | .flt _ _,_=>rfl
 | .cpx _ _ _,_=>rfl
 | .val _ _ _,_=>rfl
 | .str _,_=>rfl
 | .ptr _ _ _,h=>by simp [Yb] at h
 | .ipt _,_=>rfl
 | .nilp,_=>rfl
 | .nils,_=>rfl
 | .asl _ _ _,h=>by simp [Yb] at h
 | .bsl _ _ _ _ _,h=>by simp [Yb] at h
 | .isl _ _,_=>rfl
 | .amap _,h=>by simp [Yb] at h
 | .func g c0 c1,hp=>by
  simp only [Yb,Qc] at hp
  simp only [Ve,Uo c0 hp.1,Uo c1 hp.2,Pv]
 | .yld _,_=>rfl
 | .agg cs,hp=>by simp only [Yb] at hp; simp only [Ve,Uo cs hp]
 | .tup cs,hp=>by simp only [Yb] at hp; simp only [Ve,Uo cs hp]
theorem Uo {h:Nat->ABlk} {rv:List AV->Option (List AV × List Nat)}:∀ (args:List AV),Yo args=true->Za0 rv h args=some (args,[])
 | [],_=>rfl
 | c::cs,hp=>by
  simp only [Yo,Qc] at hp
  simp only [Za0,Ztm c hp.1,Uo cs hp.2,Pv]
end
theorem Ztn {h:Nat->ABlk} (args:List AV) (hp:Yo args=true):Zao h args=some (args,[]):=Uo args hp
def Yco:IntKind->IntKind->Bool
 | .i8,.i8 | .i16,.i16 | .i32,.i32 | .i64,.i64 | .u8,.u8 | .u16,.u16 | .u32,.u32 | .u64,.u64=>true
 | _,_=>false
theorem Zx8 {a b:IntKind} (h:Yco a b=true):a=b:=by cases a<;>cases b<;>first|rfl|cases h
def Zqv:FloatKind->FloatKind->Bool
 | .f32,.f32 | .f64,.f64=>true
 | _,_=>false
theorem Zlm {a b:FloatKind} (h:Zqv a b=true):a=b:=by cases a<;>cases b<;>first|rfl|cases h
def eqI:Int->Int->Bool
 | .ofNat a,.ofNat b=>Qs a b
 | .negSucc a,.negSucc b=>Qs a b
 | _,_=>false
theorem Yhi {a b:Int} (h:eqI a b=true):a=b:=by
 cases a<;>cases b<;>simp only [eqI,Rs] at h
 ·rw [Qh h]
 ·rw [Qh h]
def eqU:List UInt8->List UInt8->Bool
 | [],[]=>true
 | a::l,b::m=>Qs a.toNat b.toNat&&eqU l m
 | _,_=>false
theorem Ycn:∀ {a b:List UInt8},eqU a b=true->a=b
 | [],[],_=>rfl
 | a::l,b::m,h=>by
  simp only [eqU,Qc] at h
  rw [UInt8.toNat_inj.1 (Qh h.1),Ycn h.2]
 | [],_::_,h=>by simp [eqU] at h
 | _::_,[],h=>by simp [eqU] at h
def eqS (a b:ByteArray):Bool:=eqU a.data.toList b.data.toList
theorem Yhh {a b:ByteArray} (h:eqS a b=true):a=b:=by
 obtain ⟨⟨a⟩⟩:=a
 obtain ⟨⟨b⟩⟩:=b
 have e:a=b:=Ycn h
 rw [e]
mutual
def eqA:AV->AV->Bool
 | .any,.any=>true
 | .bool a,.bool b=>cond a b (!b)
 | .int k a,.int l b=>Yco k l&&eqI a b
 | .flt k a,.flt l b=>Zqv k l&&Qs a b
 | .cpx k a a2,.cpx l b b2=>Zqv k l&&(Qs a b&&Qs a2 b2)
 | .str a,.str b=>eqS a b
 | .ipt a,.ipt b=>eqL a b
 | .nilp,.nilp=>true
 | .nils,.nils=>true
 | .isl n a,.isl m b=>Qs n m&&eqLL a b
 | .func f a b,.func g c d=>Qs f g&&(eqL a c&&eqL b d)
 | .agg a,.agg b=>eqL a b
 | .tup a,.tup b=>eqL a b
 | _,_=>false
def eqL:List AV->List AV->Bool
 | [],[]=>true
 | a::l,b::m=>eqA a b&&eqL l m
 | _,_=>false
def eqLL:List (List AV)->List (List AV)->Bool
 | [],[]=>true
 | a::l,b::m=>eqL a b&&eqLL l m
 | _,_=>false
end
mutual
theorem Zx9:∀ (a b:AV),eqA a b=true->a=b:=by
 intro a b h
 cases a<;>cases b<;>simp only [eqA,Rs,Qc] at h
 case any.any=>rfl
 case bool.bool a b=>cases a<;>cases b<;>first|rfl|cases h
 case int.int=>rw [Zx8 h.1,Yhi h.2]
 case flt.flt=>rw [Zlm h.1,Qh h.2]
 case cpx.cpx=>rw [Zlm h.1,Qh h.2.1,Qh h.2.2]
 case str.str=>rw [Yhh h]
 case ipt.ipt=>rw [Ze2 _ _ h]
 case nilp.nilp=>rfl
 case nils.nils=>rfl
 case isl.isl=>rw [Qh h.1,Zx7 _ _ h.2]
 case func.func=>rw [Qh h.1,Ze2 _ _ h.2.1,Ze2 _ _ h.2.2]
 case agg.agg=>rw [Ze2 _ _ h]
 case tup.tup=>rw [Ze2 _ _ h]
theorem Ze2:∀ (a b:List AV),eqL a b=true->a=b
 | [],[],_=>rfl
 | a::l,b::m,h=>by
  simp only [eqL,Qc] at h
  rw [Zx9 a b h.1,Ze2 l m h.2]
 | [],_::_,h=>by simp [eqL] at h
 | _::_,[],h=>by simp [eqL] at h
theorem Zx7:∀ (a b:List (List AV)),eqLL a b=true->a=b
 | [],[],_=>rfl
 | a::l,b::m,h=>by
  simp only [eqLL,Qc] at h
  rw [Ze2 a b h.1,Zx7 l m h.2]
 | [],_::_,h=>by simp [eqLL] at h
 | _::_,[],h=>by simp [eqLL] at h
end
variable {P:Program} {N:Nat}
def Zx3 (pt:PC) (f:FuncId) (args:List AV) (σ:St):Option (AV × St) :=
 match Zao σ.get args with
 | some (vas,l)=>match pt f vas with
  | some res=>match l with
   | []=>some (Zi (fun j=>σ.next+j) res.v,Zem σ res.blks)
   | a::l=>match Vc res.v,res.blks with
    | true,[]=>some (res.v,σ)
    | _,_=>cond (mutL σ.get (a::l)) (some (Zi (fun j=>σ.next+j) res.v,Zem (Vo σ (a::l)) res.blks)) none
  | none=>none
 | none=>none
theorem Zo2 {pt:PC} (hpt:PCOK P pt) {f:FuncId} {args:List AV} {σ:St} {v:AV} {σ' : St} (h:Zx3 pt f args σ=some (v,σ')):FnOK P f/\SemCall P f args σ fun v2 σ2=>v2=v/\σ2=σ':=by
 refine Zbt (pc:=pt f) (fun aZ res hr=>hpt f aZ res hr) ?_
 unfold Zx3 at h
 unfold Zys
 split at h
 ·rename_i vas l hv
  rw [hv]
  dsimp only [Got]
  split at h
  ·rename_i res hres
   rw [hres]
   dsimp only [Got]
   split at h
   ·cases h; exact ⟨rfl,rfl⟩
   ·split at h
    ·rename_i h1 h2
     cases h
     rw [h1,h2]
     exact ⟨rfl,rfl⟩
    ·rename_i h1
     obtain ⟨hm,h⟩:=Zd h
     cases h
     dsimp only
     split
     ·rename_i g1 g2
      exact (h1 g1 g2).elim
     ·rw [hm]; exact ⟨rfl,rfl⟩
  ·cases h
 ·cases h
def exG (P:Program) (T:Tab) (ok:TypeId->Bool) (it:ITab) (xs:FuncId->Bool) (pt:PC) (lim:Nat):Nat->CF
 | 0=>fun _ _ _=>none
 | d+1=>fun f args σ=>match cond (xs f) (Zx3 pt f args σ) none with
  | some r=>some r
  | none=>match P.funcs[f]? with
   | some fn=>cond (fn.name == "runtime.NumGoroutine") none
    (Ycm T ok (exG P T ok it xs pt lim d) (pcF (exG P T ok it xs pt lim d)) it lim fn args σ)
   | none=>none
theorem Ybw {cf:CF} (ih:CFOK P cf):PCOK P (pcF cf):=by
 intro f args res hr
 unfold pcF at hr
 split at hr
 ·rename_i v σ' hx
  split at hr
  ·rename_i rs hrs
   obtain ⟨hp,hr⟩:=Zd hr
   cases hr
   simp only [Qc] at hp
   obtain ⟨⟨hp1,hp2⟩,hp3⟩:=hp
   obtain ⟨h1,h2⟩:=ih _ _ _ _ _ hx
   obtain ⟨g1,g2⟩:=Ze9 hrs
   refine Zbv h1 hp3 (h2.tag fun v2 σ2 hq=>?_)
   obtain ⟨rfl,rfl⟩:=hq
   exact ⟨_,Zfe hp1,g1,(Zr0 _ hp2).symm,g2⟩
  ·cases hr
 ·cases hr
theorem Zj3 {T:Tab} (hT:TabOK P T) {ok:TypeId->Bool} (hok:EqOK P ok) {it:ITab} (hit:∀ g c0 c1 xs,it g c0 c1=some xs->ItOK P g c0 c1 xs) (hm:P.follows .mixedOrders=true) {xs:FuncId->Bool} {pt:PC} (hpt:PCOK P pt) {lim:Nat} :
  ∀ d,CFOK P (exG P T ok it xs pt lim d)
 | 0=>fun f args σ v σ' h=>by simp [exG] at h
 | d+1=>fun f args σ v σ' h=>by
  have ih:=Zj3 hT hok hit hm hpt (xs:=xs) (lim:=lim) d
  have hpc:PCOK P (pcF (exG P T ok it xs pt lim d)):=Ybw ih
  simp only [exG] at h
  split at h
  ·rename_i v1 hx
   cases h
   cases hxs:xs f with
   | false=>rw [hxs] at hx; cases hx
   | true=>rw [hxs] at hx; exact Zo2 hpt hx
  ·split at h
   ·rename_i fn hfn
    cases hn:fn.name == "runtime.NumGoroutine" with
    | true=>rw [hn] at h; cases h
    | false =>
     rw [hn] at h
     simp only [cond_false] at h
     unfold Ycm at h
     split at h
     ·rename_i c hb
      obtain ⟨hle,h⟩:=Zd h
      have hle:=Qm hle
      refine ⟨⟨fn,hfn,hn,by rw [hb]; rfl⟩,?_⟩
      have main:∀ e env1 σ1 vs,(e = .normal\/e = .ret)->Xb T ok (exG P T ok it xs pt lim d) (pcF (exG P T ok it xs pt lim d)) it lim fn.ntmps c (env0 0 args) σ=some (e,env1,σ1)->Zb7 T env1 σ1.get fn.results.toList=some vs->(resV vs,gcS σ.next (resV vs) σ1)=(v,σ') ->
        SemCall P f args σ fun v2 σ2=>v2=v/\σ2=σ':=by
       intro e env1 σ1 vs he hx hr heq
       cases heq
       refine SemCall.forgets (K:=fun v2 σ2=>v2=resV vs/\σ2=σ1) (Zs7 hT hfn hb hle ((Zy hT hok ih hpc hit hm c _ _ _ _ _ hx).mono fun e2 env2 σ2 hq=>?_)) (fun v2 σ2 hq=>?_)
       ·obtain ⟨rfl,rfl,rfl⟩:=hq
        rcases he with rfl|rfl
        ·exact Wd hr ⟨rfl,rfl⟩
        ·exact Wd hr ⟨rfl,rfl⟩
       ·obtain ⟨rfl,rfl⟩:=hq
        exact ⟨_,Zuk _ _ _,rfl,rfl⟩
      split at h
      ·rename_i env1 σ1 hx
       split at h
       ·rename_i vs hr
        exact main _ _ _ _ (.inl rfl) hx hr (Sr h)
       ·cases h
      ·rename_i env1 σ1 hx
       split at h
       ·rename_i vs hr
        exact main _ _ _ _ (.inr rfl) hx hr (Sr h)
       ·cases h
      ·cases h
     ·cases h
   ·cases h
theorem Zmi {cf:CF} (ih:CFOK P cf) {f:FuncId} {args:List AV} {res:PRes} (h:pcF cf f args=some res):PCall P f args res:=Ybw ih f args res h
variable {P:Program} {N:Nat}
def SC (P:Program) (f:FuncId) (args:List AV) (σ:St) (K:AV->St->Prop):Prop:=FnOK P f/\SemCall P f args σ K
def cxP (P:Program) (T:Tab) (ok:TypeId->Bool) (sx:FuncId->Bool) (pc:PC):Cx:=⟨T,ok,fun f args σ K=>cond (sx f) (SC P f args σ K) (Zys (pc f) args σ K)⟩
theorem Zln {T:Tab} {ok:TypeId->Bool} {sx:FuncId->Bool} {pc:PC} (hT:TabOK P T) (hok:EqOK P ok) (hpc:PCOK P pc):CxOK P (cxP P T ok sx pc) :=
 ⟨hT,hok,fun f args σ K h=>by
  simp only [cxP] at h
  cases hs:sx f with
  | true=>rw [hs] at h; exact h
  | false=>rw [hs] at h; exact Zbt (fun aZ res hr=>hpc f aZ res hr) h⟩
def hdP (P:Program) (T:Tab) (ok:TypeId->Bool) (sx:FuncId->Bool) (pc:PC) (N:Nat):Hd :=
 ⟨fun c env σ Q=>Awp P N (.loop c) env σ Q,fun f ps x y env σ Q=>Awp P N (.rangeFunc f ps x y) env σ Q,fun ops env σ K=>Zeo (cxP P T ok sx pc) pc N ops env σ K⟩
theorem Yci {T:Tab} {ok:TypeId->Bool} {sx:FuncId->Bool} {pc:PC} (hT:TabOK P T) (hok:EqOK P ok) (hpc:PCOK P pc) (hm:P.follows .mixedOrders=true) (N:Nat):HdOK P N (hdP P T ok sx pc N) :=
 ⟨fun _ _ _ _ h=>h,fun _ _ _ _ _ _ _ h=>h,fun id ops env σ K h=>Zbp (Zln hT hok hpc) hpc hm id ops env σ K h⟩
theorem FnOK.of {f:FuncId} {fn:Func} (hf:P.funcs[f]?=some fn) (h1:(fn.name == "runtime.NumGoroutine")=false) (h2:fn.body.isNone=false):FnOK P f:=⟨fn,hf,h1,h2⟩
structure Base (P:Program) where
 T:Tab
 ok:TypeId->Bool
 hT:TabOK P T
 hok:EqOK P ok
 hm:P.follows .mixedOrders=true
variable (Bs:Base P)
abbrev Base.body (sx:FuncId->Bool) (pc:PC) (fn:Func) (args:List AV) (σ:St) (K:AV->St->Prop):Prop:=Zbq (cxP P Bs.T Bs.ok sx pc) (hdP P Bs.T Bs.ok sx pc) fn args σ K
abbrev Base.code (sx:FuncId->Bool) (pc:PC) (N:Nat) (c:Code) (env:Env) (σ:St) (Q:Exit->Env->St->Prop):Prop:=Zaa (cxP P Bs.T Bs.ok sx pc) N (hdP P Bs.T Bs.ok sx pc N) c env σ Q
theorem Base.pcall {sx:FuncId->Bool} {pc:PC} (hpc:PCOK P pc) {f:FuncId} {fn:Func} (hf:P.funcs[f]?=some fn) (h1:(fn.name == "runtime.NumGoroutine")=false) (h2:fn.body.isNone=false)
  {args:List AV} {res:PRes} (hids:Vj res.blks.length res.v=true) (hv:Bs.body sx pc fn args ⟨[],0⟩ (Zc1 res)):PCall P f args res :=
 Zmh (Zln Bs.hT Bs.hok hpc) (fun N=>Yci Bs.hT Bs.hok hpc Bs.hm N) hf (FnOK.of hf h1 h2) hids hv
theorem Base.awp {sx:FuncId->Bool} {pc:PC} (hpc:PCOK P pc) {c:Code} {env:Env} {σ:St} {Q:Exit->Env->St->Prop} (hv:Bs.code sx pc N c env σ Q):Awp P N c env σ Q :=
 Ys (Zln Bs.hT Bs.hok hpc) (Yci Bs.hT Bs.hok hpc Bs.hm N) c env σ Q hv
def Zn6:List Nat->Env->Env
 | [],_=>[]
 | i::l,env=>(i,env.get i)::Zn6 l env
theorem Zn5 (env:Env):∀ (l:List Nat) (i:Nat),(Zn6 l env).get i=env.get i\/(Zn6 l env).get i = .any
 | [],i=>.inr rfl
 | j::l,i=>by
  simp only [Zn6,Pg]
  by_cases h:i=j
  ·subst h; simp
  ·simp only [h,if_false]; exact Zn5 env l i
def Zws:List Nat->(Nat->ABlk)->List (Nat × ABlk)
 | [],_=>[]
 | i::l,h=>(i,h i)::Zws l h
theorem Zn4 (h:Nat->ABlk):∀ (l:List Nat) (i:Nat),hget (Zws l h) i=h i\/hget (Zws l h) i = .dead
 | [],i=>.inr rfl
 | j::l,i=>by
  simp only [Zws,Zbc]
  by_cases e:i=j
  ·subst e; simp
  ·simp only [e,if_false]; exact Zn4 h l i
def Zz9 (l:List Nat) (σ:St):St:=⟨Zws l σ.get,σ.next⟩
theorem Zjv (l m:List Nat) (env:Env) (σ:St):Zg0 env σ (Zn6 l env) (Zz9 m σ):=⟨Zn5 env l,fun i=>Zn4 σ.get m i,rfl⟩
theorem As.p {p:Prop} [Decidable p] {A:Prop} (h:p) (k:A):As (decide p) A:=As.intro (decide_eq_true h) k
theorem As.np {p:Prop} [Decidable p] {A:Prop} (h:¬ p) (k:A):As (!decide p) A:=As.intro (by rw [decide_eq_false h]; rfl) k
theorem Br.dec {p:Prop} [Decidable p] {A A' : Prop} (h:p->A) (h' : ¬ p->A'):Br (decide p) A A':=Br.intro (fun e=>h (of_decide_eq_true e)) (fun e=>h' (of_decide_eq_false e))
theorem Zay {v:AV} {res:AV} {σ:St} (h:v=res) (hp:Zi (listed []) res=res):Zc1 ⟨res,[]⟩ v σ:=by subst h; exact Zox hp
theorem Zcx {k:IntKind} {n m:Int} {σ:St} (h:n=m):Zc1 ⟨.int k m,[]⟩ (.int k n) σ:=Zay (by rw [h]) rfl
theorem Xa {n m:Bool} {σ:St} (h:n=m):Zc1 ⟨.bool m,[]⟩ (.bool n) σ:=Zay (by rw [h]) rfl
variable {P:Program} {N B l:Nat} {Ig:Imm} {JX:Zs->(Nat->Prop)->World->Prop}
theorem IS.forget {z:Zs} {env env' : Env} {σ σ' : St} {a:Act} {w:World} (S:IS N B Ig JX z env σ a w) (h:Zg0 env σ env' σ'):IS N B Ig JX z env' σ' a w:=by
 obtain ⟨⟨r,D,O,H,hO,E,hj⟩,hd⟩:=S
 have S':=SR.forget (B:=B) (w0:=w) (I0:=Ig) (pr:=prO B O w) (a:=a) ⟨H,E⟩ h
 exact ⟨⟨r,D,O,S'.hr,hO,S'.er,hj⟩,hd⟩
theorem AwpI.pre {c:Code} {env env' : Env} {σ σ' : St} {z:Zs} {Q:IQ} (hf:Zg0 env σ env' σ') (h:AwpI P N B Ig JX c env' σ' z Q):AwpI P N B Ig JX c env σ z Q:=fun a w S=>h a w (S.forget hf)
theorem AwpI.forgets {c:Code} {env:Env} {σ:St} {z:Zs} {Q Q' : IQ} (h:AwpI P N B Ig JX c env σ z Q) (hq:∀ e env σ z,Q e env σ z->∃ env' σ',Zg0 env σ env' σ'/\Q' e env' σ' z):AwpI P N B Ig JX c env σ z Q' :=
 fun a w S=>Ru (fun e a' w' ⟨env1,σ1,z1,q1,s1⟩=>by
  obtain ⟨env2,σ2,hf,q2⟩:=hq _ _ _ _ q1
  exact ⟨env2,σ2,z1,q2,s1.forget hf⟩) (h a w S)
theorem Zw9 {S:Type} (μ:S->Nat) (E:S->Env) (Y:S->St) (Z:S->Zs) (ks ms:List Nat) {c:Code} {Q:IQ} (G:S->Prop)
  (step:∀ s,G s->AwpI P N B Ig JX c (E s) (Y s) (Z s) (seqI (fun env' σ' z'=>∃ s',G s'/\μ s'<μ s/\Zn6 ks env'=E s'/\Zz9 ms σ'=Y s'/\z'=Z s') Q))
  (s:S) (hs:G s) {env:Env} {σ:St} {z:Zs} (he:Zn6 ks env=E s) (hy:Zz9 ms σ=Y s) (hz:z=Z s):AwpI P N B Ig JX (.loop c) env σ z Q:=by
 have key:∀ n s,μ s<n->G s->Ya0 (AwpI P N B Ig JX) c Q n (E s) (Y s) (Z s):=by
  intro n
  induction n with
  | zero=>intro s h; omega
  | succ n ih =>
   intro s h hg
   simp only [Ya0]
   refine (step s hg).forgets fun e env' σ' z' hq=>?_
   cases e with
   | normal =>
    obtain ⟨s',g',m',e1,e2,e3⟩:=hq
    refine ⟨Zn6 ks env',Zz9 ms σ',Zjv _ _ _ _,?_⟩
    simp only [seqI]
    rw [e1,e2,e3]
    exact ih s' (by omega) g'
   | exit id=>exact ⟨env',σ',⟨fun _=>.inl rfl,fun _=>.inl rfl,rfl⟩,hq⟩
   | goto l=>exact ⟨env',σ',⟨fun _=>.inl rfl,fun _=>.inl rfl,rfl⟩,hq⟩
   | ret=>exact ⟨env',σ',⟨fun _=>.inl rfl,fun _=>.inl rfl,rfl⟩,hq⟩
   | panic ch=>exact ⟨env',σ',⟨fun _=>.inl rfl,fun _=>.inl rfl,rfl⟩,hq⟩
   | outgrown=>exact ⟨env',σ',⟨fun _=>.inl rfl,fun _=>.inl rfl,rfl⟩,hq⟩
 have:=Zp9 _ (key (μ s+1) s (by omega) hs)
 rw [<-he,<-hy,<-hz] at this
 exact AwpI.pre (Zjv ks ms env σ) this
def Yiy (T:Tab) (fn:Func):IQ:=fun e env' σ' z=>(e = .normal\/e = .ret)/\(z=some []\/z=none)/\∃ vs,Zb7 T env' σ'.get fn.results.toList=some vs
variable (Bs:Base P)
abbrev Base.icode (Bs:Base P) (pc:PC) (N B l:Nat) (Ig:Imm) (JX:Zs->(Nat->Prop)->World->Prop):Code->Env->St->Zs->IQ->Prop:=Zir (cxP P Bs.T Bs.ok (fun _=>false) pc) pc N l (fun c env σ z Q=>AwpI P N B Ig JX (.loop c) env σ z Q)
theorem Base.awpi {pc:PC} (hpc:PCOK P pc) (hI:ItEnv P B Ig l JX) {c:Code} {env:Env} {σ:St} {z:Zs} {Q:IQ} (hv:Bs.icode pc N B l Ig JX c env σ z Q):AwpI P N B Ig JX c env σ z Q :=
 Up (Zln Bs.hT Bs.hok hpc) hpc hI (fun _ _ _ _ _ h=>h) c env σ z Q hv
theorem Base.iter {pc:PC} (hpc:PCOK P pc) {g:FuncId} {fn:Func} {c:Code} (hf:P.funcs[g]?=some fn) (h1:(fn.name == "runtime.NumGoroutine")=false) (hb:fn.body=some c) {c0 c1:List AV} {xs:List (List AV)} (hle:Su (c0.length+1+c1.length) fn.ntmps=true)
  (hv:∀ (B:Nat) (Ig:Imm) (l:Nat) (JX:Zs->(Nat->Prop)->World->Prop),ItEnv P B Ig l JX->Bs.icode pc fn.ntmps B l Ig JX c (env0 0 ((c0++[AV.yld l])++c1)) ⟨[],0⟩ (some xs) (Yiy Bs.T fn)):ItOK P g c0 c1 xs :=
 Zt9 Bs.hT hf (FnOK.of hf h1 (by rw [hb]; rfl)) hb (Qm hle) (fun B Ig l JX hI=>Bs.awpi hpc hI (hv B Ig l JX hI))
variable {r r' : Locs} {D D' : Nat->Prop} {I I' : Imm} {w w' w0:World} {I0:Imm} {B n n' k N:Nat} {pr pr' : Nat->Obj->Prop} {h:Nat->ABlk} {P:Program}
theorem Ygc {F:Fence} (hF:FOK F) (o:Oper) {env:Env} {σ:St} {a:Act} (S:SR B w0 I0 pr N r I D env σ a w) {K:Env->St->Prop} {Q:Exit->Act->World->Prop} {next:Act->World->Prop}
  {f:Operand} {args:Array Operand} {ts:Array TypeId} (hop:o.op = .call { callee:=.value f,args:=args,argTypes:=ts }) {g:FuncId} (hf:evA env f = .func g [] []) {fn:Func} (hfn:P.funcs[g]?=some fn) (hname:(fn.name == "runtime.NumGoroutine")=false)
  (hb:fn.body.isNone=true) (hn:Extern.findNext fn=none) {e:Array Value->Sem Value} (he:Extern.find fn=some e) {v:AV}
  (hsem:∀ vs,VRs r I w D (Xg (evA env) args.toList) vs->∃ x,(e vs).run P w = .ok x w/\VR r I w D v x)
  (hput:Zt N o.dst v env fun env'=>K env' σ) (hnext:∀ a' w',Leaves B w0 I0 pr N r I D w a.defers K a' w'->next a' w'):o.wpIn F 0 P a w next Q:=by
 refine ⟨Ux hF o a w,?_⟩
 rw [Oper.semAt_eq _ _ _ (fun c e=>by rw [hop] at e; cases e)]
 have hfv:=Xy S.er f
 rw [hf] at hfv
 have hv:a.eval f = .func (.func g) #[] #[]:=by
  generalize a.eval f=z at hfv
  cases hfv with
  | func _ _ _ _ v0 v1 h0 h1 g0 g1 =>
   have e0:v0 = #[]:=by simpa using h0
   have e1:v1 = #[]:=by simpa using h1
   rw [e0,e1]
 have hargs:=Xp (fun x=>Xy S.er x) args
 obtain ⟨x,h1,h2⟩:=hsem _ hargs
 have hrun:(execOp a.eval o).run P w = .ok (.value x) w:=by
  have:execOp a.eval o=(do let d <-resolve a.eval { callee:=.value f,args:=args,argTypes:=ts } o.type; invoke d.target d.args):=by
   unfold execOp; rw [hop]
  rw [this]
  simp [resolve,hv,Deferred.ofValue,invoke,run_callFunc_extern hfn hname hb hn he,h1,Result.andThen]
 rw [hrun]
 exact hnext _ _ (Zed (a:=a) S.hr S.er (Pf _ _ _ _) h2 hput)
variable {P:Program} {N:Nat}
inductive Ret (res:PRes) (v:AV) (σ:St):Prop
 | mk (h:Zc1 res v (tagS σ)):Ret res v σ
inductive Lp (P:Program) (N:Nat) (c:Code) (env:Env) (σ:St) (Q:Exit->Env->St->Prop):Prop
 | mk (h:Awp P N (.loop c) env σ Q):Lp P N c env σ Q
inductive Rg (P:Program) (N:Nat) (f:Operand) (ps:Array Tmp) (x y:Code) (env:Env) (σ:St) (Q:Exit->Env->St->Prop):Prop
 | mk (h:Awp P N (.rangeFunc f ps x y) env σ Q):Rg P N f ps x y env σ Q
inductive SCt (P:Program) (f:FuncId) (args:List AV) (σ:St) (K:AV->St->Prop):Prop
 | mk (h:FnOK P f/\SemCall P f args σ K):SCt P f args σ K
inductive Bd (P:Program) (N:Nat) (c:Code) (env:Env) (σ:St) (Q:Exit->Env->St->Prop):Prop
 | mk (h:Awp P N c env σ Q):Bd P N c env σ Q
inductive Done (p:Prop):Prop
 | mk (h:p):Done p
def asr (b:Bool) (res:PRes):Option PRes:=match b with
 | true=>some res
 | false=>none
theorem Zat {b:Bool} {res r:PRes} (h:asr b res=some r):b=true/\res=r:=by cases b; cases h; cases h; exact ⟨rfl,rfl⟩
theorem limOk {k:Nat} (h:Su 1000000 (limB k)=true):1000000<=limB k:=Qm h
theorem Yiw {a b c k:Nat} (h1:a=b) (h2:b=a->b+c<=1000000) (h3:1000000<=limB k:=by exact limOk rfl):a=b/\b+c<=limB k:=⟨h1,Re (h2 h1.symm) h3⟩
theorem Yix {c k:Nat} (h2:c<=1000000) (h3:1000000<=limB k:=by exact limOk rfl):c<=limB k:=Re h2 h3
theorem Zcm {p:Prop} [Decidable p] {res:PRes} (h:p):asr (decide p) res=some res:=by rw [decide_eq_true h]; rfl
def cxV (P:Program) (T:Tab) (ok:TypeId->Bool) (sx:FuncId->Bool) (pc:PC):Cx:=⟨T,ok,fun f args σ K=>cond (sx f) (SCt P f args σ K) (Zys (pc f) args σ K)⟩
theorem Zgn {T:Tab} {ok:TypeId->Bool} {sx:FuncId->Bool} {pc:PC} (hT:TabOK P T) (hok:EqOK P ok) (hpc:PCOK P pc):CxOK P (cxV P T ok sx pc) :=
 ⟨hT,hok,fun f args σ K h=>by
  simp only [cxV] at h
  cases hs:sx f with
  | true=>rw [hs] at h; exact h.1
  | false=>rw [hs] at h; exact Zbt (fun aZ res hr=>hpc f aZ res hr) h⟩
def hdV (P:Program) (T:Tab) (ok:TypeId->Bool) (sx:FuncId->Bool) (pc:PC) (N:Nat):Hd :=
 ⟨fun c env σ Q=>Lp P N c env σ Q,fun f ps x y env σ Q=>Rg P N f ps x y env σ Q,fun ops env σ K=>Zeo (cxV P T ok sx pc) pc N ops env σ K⟩
theorem Zxi {T:Tab} {ok:TypeId->Bool} {sx:FuncId->Bool} {pc:PC} (hT:TabOK P T) (hok:EqOK P ok) (hpc:PCOK P pc) (hm:P.follows .mixedOrders=true) (N:Nat):HdOK P N (hdV P T ok sx pc N) :=
 ⟨fun _ _ _ _ h=>h.1,fun _ _ _ _ _ _ _ h=>h.1,fun id ops env σ K h=>Zbp (Zgn hT hok hpc) hpc hm id ops env σ K h⟩
variable (Bs:Base P)
abbrev Base.vcode (sx:FuncId->Bool) (pc:PC) (N:Nat) (c:Code) (env:Env) (σ:St) (Q:Exit->Env->St->Prop):Prop:=Zaa (cxV P Bs.T Bs.ok sx pc) N (hdV P Bs.T Bs.ok sx pc N) c env σ Q
theorem Base.pv {sx:FuncId->Bool} {pc:PC} (hpc:PCOK P pc) {f:FuncId} {fn:Func} (hf:P.funcs[f]?=some fn) (h1:(fn.name == "runtime.NumGoroutine")=false) (h2:fn.body.isNone=false)
  {args:List AV} {res:PRes} (hids:Vj res.blks.length res.v=true) (hv:Zbq (cxV P Bs.T Bs.ok sx pc) (hdV P Bs.T Bs.ok sx pc) fn args ⟨[],0⟩ (fun v σ=>fA v fun v=>Ret res v σ)):PCall P f args res:=by
 refine Zbv (FnOK.of hf h1 h2) hids (SemCall.tag (Zij (Zgn Bs.hT Bs.hok hpc) (fun N=>Zxi Bs.hT Bs.hok hpc Bs.hm N) hf hv) fun v σ h=>?_)
 rw [Zow] at h; exact h.1
theorem Base.sv {sx:FuncId->Bool} {pc:PC} (hpc:PCOK P pc) {f:FuncId} {fn:Func} (hf:P.funcs[f]?=some fn) (h1:(fn.name == "runtime.NumGoroutine")=false) (h2:fn.body.isNone=false)
  {args:List AV} {σ:St} {K:AV->St->Prop} (hv:Zbq (cxV P Bs.T Bs.ok sx pc) (hdV P Bs.T Bs.ok sx pc) fn args σ (fun v σ=>fA v fun v=>K v σ)):SCt P f args σ K :=
 ⟨FnOK.of hf h1 h2,SemCall.mono (Zij (Zgn Bs.hT Bs.hok hpc) (fun N=>Zxi Bs.hT Bs.hok hpc Bs.hm N) hf hv) fun v σ h=>by rw [Zow] at h; exact h⟩
theorem Base.av {sx:FuncId->Bool} {pc:PC} (hpc:PCOK P pc) {c:Code} {env:Env} {σ:St} {Q:Exit->Env->St->Prop} (hv:Zaa (cxV P Bs.T Bs.ok sx pc) N (hdV P Bs.T Bs.ok sx pc N) c env σ Q):Awp P N c env σ Q :=
 Ys (Zgn Bs.hT Bs.hok hpc) (Zxi Bs.hT Bs.hok hpc Bs.hm N) c env σ Q hv
theorem SCt.pc {f:FuncId} {args args' : List AV} {res:PRes} {σ:St} {K:AV->St->Prop} (h:PCall P f args' res) (ha:Zao σ.get args=some (args',[])) (hk:K (Zi (fun j=>σ.next+j) res.v) (Zem σ res.blks)):SCt P f args σ K:=by
 classical
 refine ⟨Zbt (pc:=fun a=>if a=args' then some res else none) (fun a r hr=>?_) ?_⟩
 ·split at hr
  ·rename_i e; cases hr; rw [e]; exact h
  ·cases hr
 ·unfold Zys
  rw [ha]
  show Got (if args'=args' then some res else none) _
  rw [if_pos rfl]
  exact hk
theorem Zg {v:AV} {res:AV} {σ:St} (h:v=res) (hp:Zi (listed []) res=res):Ret ⟨res,[]⟩ v σ:=⟨Zay h hp⟩
theorem Zc {k:IntKind} {n m:Int} {σ:St} (h:n=m):Ret ⟨.int k m,[]⟩ (.int k n) σ:=⟨Zcx h⟩
theorem Za {n m:Bool} {σ:St} (h:n=m):Ret ⟨.bool m,[]⟩ (.bool n) σ:=⟨Xa h⟩
theorem Yk {v:AV} {res:PRes} {σ:St} (ids:List Nat) (hn:Zny ids=true) (hv:v=Zi (listed ids) res.v) (hr:Zk3 (tagS σ) ids=some res.blks):Ret res v σ:=by
 obtain ⟨h1,h2⟩:=Ze9 hr
 exact ⟨ids,Zfe hn,h1,hv,h2⟩
def Zzg (P:Program) (N n0:Nat) (c:Code) (Q:Exit->Env->St->Prop):Nat->Env->St->Prop
 | 0,_,_=>False
 | m+1,env,σ=>Awp P N c env σ (seqQ (fun env' σ'=>∃ env2 σ2,(Zg0 env' σ' env2 σ2\/Ren n0 env' σ' env2 σ2)/\Zzg P N n0 c Q m env2 σ2) Q)
section
variable {r r' : Locs} {D D' : Nat->Prop} {I I' : Imm} {w w' w0:World} {I0:Imm} {B n n' k:Nat} {pr pr' : Nat->Obj->Prop} {h:Nat->ABlk}
theorem Zf6 {n0:Nat} {c:Code} {Q:Exit->Env->St->Prop} {F:Fence} {a:Act} (hF:FOK F) (hR:RdOK F pr) (hd0:∀ id,D id->id<n0) :
  ∀ (m:Nat) (env:Env) (σ:St) (pr1:Nat->Obj->Prop) (r1:Locs) (I1:Imm) (D1:Nat->Prop) (a1:Act) (w1:World) (ms:List Deferred),(∀ b o,pr b o->pr1 b o)->Mk w pr1 ms->ms.Pairwise (fun a b=>a.target≠b.target)->a1.defers=ms++a.defers->Zzg P N n0 c Q m env σ ->
   SR B w0 I0 pr1 N r1 I1 D1 env σ a1 w1->Step r D I w r1 D1 I1 w1->w.heap.size<=w1.heap.size->Code.roundsIn F 0 P c (Post B w0 I0 pr N r I D w a.defers Q) m a1 w1:=by
  intro m
  induction m with
  | zero=>intro env σ pr1 r1 I1 D1 a1 w1 ms _ _ _ _ hv; exact hv.elim
  | succ m ih =>
   intro env σ pr1 r1 I1 D1 a1 w1 ms p1 m1 n1 d1 hv s1 t1 z1
   refine Ru (fun e a2 w2 hp=>?_) (hv F B w0 I0 pr1 r1 I1 D1 a1 w1 hF (hR.le p1) s1)
   obtain ⟨pr2,ms2,env2,σ2,r2,I2,D2,p2,m2,n2,d2,q2,s2,t2,z2⟩:=hp
   have hM:Mk w pr2 (ms2++ms):=by
    intro d hd
    rcases Sh.1 hd with h|h
    ·obtain ⟨b,g1,g2,g3⟩:=m2 d h
     exact ⟨b,g1,g2,Re z1 g3⟩
    ·obtain ⟨b,g1,g2,g3⟩:=m1 d h
     exact ⟨b,g1,p2 _ _ g2,g3⟩
   have hN:(ms2++ms).Pairwise (fun a b=>a.target≠b.target):=by
    refine Ow.2 ⟨n2,n1,fun x hx y hy e=>?_⟩
    obtain ⟨b,g1,g2,g3⟩:=m2 x hx
    obtain ⟨b',g1',g2',g3'⟩:=m1 y hy
    have:=(Qt.1 (s1.hr.prot _ _ g2').1).1
    rw [g1,g1'] at e
    simp only [Nf] at e
    omega
   have hD:a2.defers=(ms2++ms)++a.defers:=by rw [d2,d1,Wm]
   have hout:∀ e',Q e' env2 σ2->Post B w0 I0 pr N r I D w a.defers Q e' a2 w2:=fun e' hq=>⟨pr2,ms2++ms,env2,σ2,r2,I2,D2,fun b o h=>p2 _ _ (p1 _ _ h),hM,hN,hD,hq,s2,t1.trans t2,Re z1 z2⟩
   cases e with
   | normal =>
    obtain ⟨env3,σ3,hfr,q3⟩:=q2
    rcases hfr with hfr|hfr
    ·exact ih env3 σ3 pr2 r2 I2 D2 a2 w2 (ms2++ms) (fun b o h=>p2 _ _ (p1 _ _ h)) hM hN hD q3 (s2.forget hfr) (t1.trans t2) (Re z1 z2)
    ·obtain ⟨r3,D3,H3,k3,e3⟩:=s2.hr.rename (N:=N) hfr
     exact ih env3 σ3 pr2 r3 I2 D3 a2 w2 (ms2++ms) (fun b o h=>p2 _ _ (p1 _ _ h)) hM hN hD q3 ⟨H3,e3 _ s2.er⟩ ((t1.trans t2).rename hd0 k3) (Re z1 z2)
   | exit id=>exact hout _ q2
   | goto l=>exact hout _ q2
   | ret=>exact hout _ q2
   | panic ch=>exact hout _ q2
   | outgrown=>exact hout _ q2
end
theorem Awp.seqMono {c:Code} {env:Env} {σ:St} {K K' : Env->St->Prop} {Q:Exit->Env->St->Prop} (h:Awp P N c env σ (seqQ K Q)) (hk:∀ env σ,K env σ->K' env σ):Awp P N c env σ (seqQ K' Q) :=
 h.mono fun e env σ hq=>by cases e<;>first|exact hk _ _ hq|exact hq
theorem Zm {S:Type} (μ:S->Nat) (E:S->Env) (Z:S->List (Nat × ABlk)) (n0 n1:Nat) (G:S->Prop) {c:Code} {Q:Exit->Env->St->Prop} (s:S) (hs:G s) {env:Env} {σ:St} (hn:σ.next<=n0) (fl0:List (Nat × Nat))
  (h1:(okF n0 fl0&&Zf8 n0 fl0 (Z s)&&imgF n0 fl0&&Su n0 n1)=true) (h2:RenE (fOf fl0) n1 env (E s)) (h3:RenH (fOf fl0) n1 σ.get (Z s))
  (step:∀ s,G s->Awp P N c (E s) ⟨Z s,n1⟩ (seqQ (fun env' σ'=>Done (∃ s' fl,(okF n0 fl&&Zf8 n0 fl (Z s')&&imgF n0 fl&&Su n0 n1)=true/\RenE (fOf fl) n1 env' (E s')/\RenH (fOf fl) n1 σ'.get (Z s')/\G s'/\μ s'<μ s)) Q)):Lp P N c env σ Q:=by
 have key:∀ n s,μ s<n->G s->Zzg P N n0 c Q n (E s) ⟨Z s,n1⟩:=by
  intro n
  induction n with
  | zero=>intro s h; omega
  | succ n ih =>
   intro s h hg
   refine (step s hg).seqMono fun env' σ' hq=>?_
   obtain ⟨s',fl,k1,k2,k3,g',m'⟩:=hq.1
   exact ⟨E s',⟨Z s',n1⟩,.inr (Pn fl k1 k2 k3),ih s' (by omega) g'⟩
 refine ⟨fun F B w0 I0 pr r I D a w hF hR S=>?_⟩
 have hr:=Pn (n1:=n1) fl0 h1 h2 h3
 obtain ⟨r2,D2,H2,k2,e2⟩:=S.hr.rename (N:=N) hr
 have hd0:∀ id,D id->id<n0:=fun id hd=>by have:=(S.hr.dom id hd).1; omega
 refine wpIn_loop_rounds (μ s+1) ?_
 exact Zf6 hF hR hd0 (μ s+1) (E s) ⟨Z s,n1⟩ pr r2 I D2 a w [] (fun _ _ h=>h) (fun d hd=>by simp at hd) .nil (by simp) (key (μ s+1) s (by omega) hs) ⟨H2,e2 _ S.er⟩ ((Pf _ _ _ _).rename hd0 k2) (Qd _)
theorem Awp.ren {c:Code} {env env2:Env} {σ σ2:St} {Q:Exit->Env->St->Prop} (hr:Ren σ.next env σ env2 σ2) (h:Awp P N c env2 σ2 Q):Awp P N c env σ Q:=by
 intro F B w0 I0 pr r I D a w hF hR S
 obtain ⟨r2,D2,H2,k2,e2⟩:=S.hr.rename (N:=N) hr
 refine Ru (fun e a' w' hp=>?_) (h F B w0 I0 pr r2 I D2 a w hF hR ⟨H2,e2 _ S.er⟩)
 obtain ⟨pr1,ms1,env1,σ1,r1,I1,D1,p1,m1,n1',d1,q1,s1,t1,z1⟩:=hp
 exact ⟨pr1,ms1,env1,σ1,r1,I1,D1,p1,m1,n1',d1,q1,s1,⟨fun id hd=>by
  obtain ⟨a1,a2⟩:=k2 id (S.hr.dom id hd).1 hd
  obtain ⟨b1,b2⟩:=t1.ids id a1
  exact ⟨b1,b2.trans a2⟩,t1.imm,t1.size⟩,z1⟩
theorem Lp.ren {c:Code} {env env2:Env} {σ σ2:St} {Q:Exit->Env->St->Prop} (hr:Ren σ.next env σ env2 σ2) (h:Lp P N c env2 σ2 Q):Lp P N c env σ Q:=⟨h.1.ren hr⟩
theorem Rg.ren {f:Operand} {ps:Array Tmp} {x y:Code} {env env2:Env} {σ σ2:St} {Q:Exit->Env->St->Prop} (hr:Ren σ.next env σ env2 σ2) (h:Rg P N f ps x y env2 σ2 Q):Rg P N f ps x y env σ Q:=⟨h.1.ren hr⟩
theorem Yid {c:Code} {Q:Exit->Env->St->Prop} (m:Nat) {env:Env} {σ:St} (h:Zrf P N c Q m env σ):Lp P N c env σ Q:=⟨Zjs h⟩
inductive LpM (P:Program) (N:Nat) (c:Code) (Q:Exit->Env->St->Prop) (m:Nat) (env:Env) (σ:St):Prop
 | mk (h:Zrf P N c Q m env σ):LpM P N c Q m env σ
theorem LpM.start (m:Nat) {c:Code} {Q:Exit->Env->St->Prop} {env:Env} {σ:St} (h:LpM P N c Q m env σ):Lp P N c env σ Q:=Yid m h.1
theorem LpM.succ {m:Nat} {c:Code} {Q:Exit->Env->St->Prop} {env:Env} {σ:St} (h:Awp P N c env σ (seqQ (fun env' σ'=>LpM P N c Q m env' σ') Q)):LpM P N c Q (m+1) env σ:=⟨h.seqMono fun _ _ k=>k.1⟩
inductive LpR (P:Program) (N n0:Nat) (c:Code) (Q:Exit->Env->St->Prop) (m:Nat) (env:Env) (σ:St):Prop
 | mk (h:∃ env2 σ2,(Zg0 env σ env2 σ2\/Ren n0 env σ env2 σ2)/\Zzg P N n0 c Q m env2 σ2):LpR P N n0 c Q m env σ
theorem LpR.go {n0 m:Nat} {c:Code} {Q:Exit->Env->St->Prop} {env env2:Env} {σ σ2:St} (hr:Ren n0 env σ env2 σ2) (h:Awp P N c env2 σ2 (seqQ (fun env' σ'=>LpR P N n0 c Q m env' σ') Q)):LpR P N n0 c Q (m+1) env σ :=
 ⟨⟨env2,σ2,.inr hr,h.seqMono fun _ _ k=>k.1⟩⟩
theorem LpR.start (m n0:Nat) {c:Code} {Q:Exit->Env->St->Prop} {env:Env} {σ:St} (hn:σ.next<=n0) (h:LpR P N n0 c Q m env σ):Lp P N c env σ Q:=by
 obtain ⟨⟨env2,σ2,hr,h⟩⟩:=h
 refine ⟨fun F B w0 I0 pr r I D a w hF hR S=>?_⟩
 have hd0:∀ id,D id->id<n0:=fun id hd=>by have:=(S.hr.dom id hd).1; omega
 refine wpIn_loop_rounds m ?_
 rcases hr with hr|hr
 ·exact Zf6 hF hR hd0 m env2 σ2 pr r I D a w [] (fun _ _ h=>h) (fun d hd=>by simp at hd) .nil (by simp) h (S.forget hr) (Pf _ _ _ _) (Qd _)
 ·obtain ⟨r2,D2,H2,k2,e2⟩:=S.hr.rename (N:=N) hr
  exact Zf6 hF hR hd0 m env2 σ2 pr r2 I D2 a w [] (fun _ _ h=>h) (fun d hd=>by simp at hd) .nil (by simp) h ⟨H2,e2 _ S.er⟩ ((Pf _ _ _ _).rename hd0 k2) (Qd _)
theorem Zg9 {S:Type} (Z:S->List (Nat × ABlk)) (n0 n1:Nat) (G:List (List AV)->S->Prop) {ps:List Tmp} {a b:Code} {env:Env} {Q:Exit->Env->St->Prop}
  (step:∀ x xs s,G (x::xs) s->x.length=ps.length/\Awp P N a (Zfx ps x env) ⟨Z s,n1⟩ fun e env1 σ1=>e = .normal/\Bd P N b env1 σ1 fun e _ σ2=>match e with
   | .normal=>Done (∃ s' fl,(okF n0 fl&&Zf8 n0 fl (Z s')&&imgF n0 fl&&Su n0 n1)=true/\RenH (fOf fl) n1 σ2.get (Z s')/\G xs s')
   | .ret=>Q .ret env σ2
   | .exit id=>Q (.exit id) env σ2
   | _=>False)
  (fin:∀ s,G [] s->Q .normal env ⟨Z s,n1⟩):∀ (xs:List (List AV)) (s:S),G xs s->Zgz P N n0 ps a b env Q xs ⟨Z s,n1⟩
 | [],s,g=>fin s g
 | x::xs,s,g=>by
  obtain ⟨h1,h2⟩:=step x xs s g
  refine ⟨h1,h2.mono fun e env1 σ1 h=>⟨h.1,h.2.1.mono fun e2 env2 σ2 h=>?_⟩⟩
  cases e2 with
  | normal =>
   obtain ⟨s',fl,k1,k2,g'⟩:=h.1
   exact ⟨⟨Z s',n1⟩,.inr (Pn (env':=[]) fl k1 trivial k2),Zg9 Z n0 n1 G step fin xs s' g'⟩
  | exit id=>exact h
  | goto l=>exact h
  | ret=>exact h
  | panic ch=>exact h
  | outgrown=>exact h
theorem rngV {f:Operand} {ps:Array Tmp} {x y:Code} {env:Env} {σ:St} {Q:Exit->Env->St->Prop} {g:FuncId} {c0 c1 d0 d1:List AV} {xs:List (List AV)} (h:ItOK P g d0 d1 xs) (hf:evA env f = .func g c0 c1) (h0:Zao σ.get c0=some (d0,[])) (h1:Zao σ.get c1=some (d1,[]))
  (hp:Zau N ps.toList=true) (hr:Zgz P N σ.next ps.toList x y env Q xs σ):Rg P N f ps x y env σ Q:=by
 classical
 refine ⟨Znq (it:=fun g' a b=>if g'=g/\a=d0/\b=d1 then some xs else none) (fun g' a b xs' he=>?_) ?_⟩
 ·split at he
  ·rename_i e; obtain ⟨rfl,rfl,rfl⟩:=e; cases he; exact h
  ·cases he
 ·unfold Zzl
  rw [hf]
  dsimp only
  rw [h0,h1]
  show Got (if g=g/\d0=d0/\d1=d1 then some xs else none) _
  rw [if_pos ⟨rfl,rfl,rfl⟩]
  show cond _ _ _
  rw [hp]
  exact hr
theorem Ycz {a b c k:Nat} (n:Nat) (h1:a=b) (hc:c=n) (h2:b+n<=1000000) (h3:1000000<=limB k:=by exact limOk rfl):a=b/\b+c<=limB k:=⟨h1,by rw [hc]; exact Re h2 h3⟩
class Stop (p:Prop):Prop where
 ok:True
theorem Stop.go {p:Prop} [Stop p] (h:p):p:=h
instance {res:PRes} {v:AV} {σ:St}:Stop (Ret res v σ):=⟨trivial⟩
instance {p:Prop}:Stop (Done p):=⟨trivial⟩
instance {c:Code} {env:Env} {σ:St} {Q:Exit->Env->St->Prop}:Stop (Lp P N c env σ Q):=⟨trivial⟩
instance {f:Operand} {ps:Array Tmp} {x y:Code} {env:Env} {σ:St} {Q:Exit->Env->St->Prop}:Stop (Rg P N f ps x y env σ Q):=⟨trivial⟩
instance {f:FuncId} {args:List AV} {σ:St} {K:AV->St->Prop}:Stop (SCt P f args σ K):=⟨trivial⟩
instance {c:Code} {env:Env} {σ:St} {Q:Exit->Env->St->Prop}:Stop (Bd P N c env σ Q):=⟨trivial⟩
instance {m:Nat} {c:Code} {env:Env} {σ:St} {Q:Exit->Env->St->Prop}:Stop (LpM P N c Q m env σ):=⟨trivial⟩
instance {m n0:Nat} {c:Code} {env:Env} {σ:St} {Q:Exit->Env->St->Prop}:Stop (LpR P N n0 c Q m env σ):=⟨trivial⟩
theorem wkU {b:Bool} (h:b=true:=by first|assumption|exact rfl|exact decide_eq_true (Yiw (by first|rfl|omega) (by intro _; first|omega|((try simp only [Qz,Rh,Rb]); omega)))|exact decide_eq_true (Ycz 1 (by first|rfl|assumption|omega) rfl (by omega))|exact decide_eq_true (Ycz 2 (by first|rfl|assumption|omega) rfl (by omega))|exact decide_eq_true (Yix (by first|omega|((try simp only [Qz,Rh,Rb]); omega)))|exact decide_eq_true (by first|omega|((try simp only [Qz,Rh,Rb]); omega))):b=true:=h
theorem wxA {a b:Prop} (h:a := by kernel_rfl):b->a/\b := fun k => ⟨h, k⟩
theorem wxG {α:Type} {o:Option α} {K:α->Prop} {x:α} (h:o=some x):K x->Got o K := fun k => Wd h k
theorem wcp {p q r:Prop} (s:r->p) (w:q->r):q->p := fun k => s (w k)
theorem wk0 {p q:Prop} (k:q) (h:q->p := by
  intro k
  fail_if_success with_reducible refine Stop.go ?_
  conv => whnf
  first
    | (with_reducible refine Stop.go ?_); exact k
    | revert k
      apply wcp
      · first
          | with_reducible exact wxA
          | (with_reducible refine wxS ?_); exact wkU
          | (fail_if_success with_reducible refine wkB ?_ ?_); first
            | exact wxG (by assumption)
            | exact wxG (Zcm (by assumption))
            | exact wxG (Vi _ _)
            | with_reducible exact Ap.fitF (by assumption)
            | with_reducible exact Ap.new
          | fail
      · intro k
        conv => whnf
        exact k
    | fail):p := h k
theorem wk1 {p q:Prop} (k:q) (h:q->p := by
  intro k
  fail_if_success with_reducible refine Stop.go ?_
  conv => whnf
  first
    | (with_reducible refine Stop.go ?_); exact k
    | revert k
      apply wcp
      · first
          | with_reducible exact wxA
          | (with_reducible refine wxS ?_); exact wkU
          | (with_reducible refine wxY ?_); omega
          | (with_reducible refine wxN ?_); omega
          | (with_reducible refine wxQ ?_); omega
          | (with_reducible refine wxR ?_); omega
          | (fail_if_success with_reducible refine wkB ?_ ?_); first
            | exact wxG (by assumption)
            | exact wxG (Zcm (by assumption))
            | exact wxG (Vi _ _)
            | with_reducible exact Ap.fitF (by assumption)
            | with_reducible exact Ap.new
          | fail
      · intro k
        conv => whnf
        exact k
    | fail):p := h k
theorem wk3 {p q:Prop} (k:q) (h:q->p := by
  intro k
  fail_if_success with_reducible refine Stop.go ?_
  conv => whnf
  first
    | (with_reducible refine Stop.go ?_); exact k
    | revert k
      apply wcp
      · first
          | with_reducible exact wxA
          | (with_reducible refine wxS ?_); exact wkU
          | (with_reducible refine wxY ?_); omega
          | (with_reducible refine wxN ?_); omega
          | (with_reducible refine wxQ ?_); omega
          | (with_reducible refine wxR ?_); omega
          | with_reducible exact wkC
          | with_reducible exact wkD
          | (fail_if_success with_reducible refine wkB ?_ ?_); first
            | exact wxG (by assumption)
            | exact wxG (Zcm (by assumption))
            | exact wxG (Vi _ _)
            | with_reducible exact Ap.fitF (by assumption)
            | with_reducible exact Ap.new
          | fail
      · intro k
        conv => whnf
        exact k
    | fail):p := h k
theorem wk2 {p q r:Prop} (k:q) (l:r) (h:q->r->p := by
  intro k l
  conv => whnf
  fail_if_success with_reducible refine Stop.go ?_
  with_reducible refine wkB ?_ ?_
  · intro e
    conv => whnf
    revert e
    exact k
  · intro e
    conv => whnf
    revert e
    exact l):p := h k l
theorem kps {p:Prop} (h:p := by repeat' (first|exact trivial|refine And.intro ?_ ?_|exact rfl|exact ⟨_, rfl, rfl, rfl⟩)):p := h
variable {r r' : Locs} {I I' I2:Imm} {w w' : World} {P:Program}
mutual
def Frz (bl:List (Nat × List (List AV))):AV->AV->Prop
 | .asl id idx len,.isl es els=>bl[id]?=some (es,els)/\idx=0/\len=els.length
 | .nils,.isl _ els=>els=[]
 | .agg cs,.agg ds=>FrzL bl cs ds
 | .tup cs,.tup ds=>FrzL bl cs ds
 | v,v'=>v=v'/\Yb v=true
def FrzL (bl:List (Nat × List (List AV))):List AV->List AV->Prop
 | [],[]=>True
 | c::cs,d::ds=>Frz bl c d/\FrzL bl cs ds
 | _,_=>False
end
theorem FrzL.get {bl:List (Nat × List (List AV))}:∀ {cs ds:List AV},FrzL bl cs ds->cs.length=ds.length/\∀ (i:Nat) (d:AV),ds[i]?=some d->∃ c,cs[i]?=some c/\Frz bl c d
 | [],[],_=>⟨rfl,fun i d h=>by simp at h⟩
 | c::cs,d::ds,h=>by
  simp only [FrzL] at h
  obtain ⟨h1,h2⟩:=FrzL.get h.2
  refine ⟨by simp [h1],fun i d' hi=>?_⟩
  cases i with
  | zero=>simp at hi; subst hi; exact ⟨c,rfl,h.1⟩
  | succ i=>simpa using h2 i d' (by simpa using hi)
 | [],_::_,h=>by simp [FrzL] at h
 | _::_,[],h=>by simp [FrzL] at h
theorem Yg9 {bl:List (Nat × List (List AV))} {D:Nat->Prop} (hst:∀ b o,I' b o->I2 b o)
  (hrow:∀ (j es:Nat) (els:List (List AV)),bl[j]?=some (es,els)->∀ (x:Value),VR r' I' w' D (.asl j 0 els.length) x->VR r' I2 w' (fun _=>False) (.isl es els) x) {v:AV} {x:Value} (hv:VR r' I' w' D v x):∀ v',Frz bl v v'->VR r' I2 w' (fun _=>False) v' x:=by
 have pure:∀ {v:AV} {x:Value},VR r' I' w' D v x->∀ v',(v=v'/\Yb v=true)->VR r' I2 w' (fun _=>False) v' x:=by
  rintro v x hv v' ⟨rfl,hp⟩
  exact (hv.pure hp).mono ⟨fun _ h=>h.elim,fun b o h=>⟨hst b o h,rfl⟩,Qd _⟩
 induction hv with
 | agg D cs vs h0 g ih =>
  intro v' h
  cases v' with
  | agg ds =>
   simp only [Frz] at h
   obtain ⟨h1,h2⟩:=FrzL.get h
   refine .agg _ _ _ (h0.trans h1) fun i c v hc hx=>?_
   obtain ⟨c',hc',hf⟩:=h2 i c hc
   exact ih i c' v hc' hx hrow pure _ hf
  | _=>simp [Frz] at h
 | tup D cs vs h0 g ih =>
  intro v' h
  cases v' with
  | tup ds =>
   simp only [Frz] at h
   obtain ⟨h1,h2⟩:=FrzL.get h
   refine .tup _ _ _ (h0.trans h1) fun i c v hc hx=>?_
   obtain ⟨c',hc',hf⟩:=h2 i c hc
   exact ih i c' v hc' hx hrow pure _ hf
  | _=>simp [Frz] at h
 | asl D id idx len hd hc =>
  intro v' h
  have hv:VR r' I' w' D (.asl id idx len) _:=.asl D id idx len hd hc
  cases v' with
  | isl es els =>
   simp only [Frz] at h
   obtain ⟨h1,rfl,rfl⟩:=h
   exact hrow _ _ _ h1 _ hv
  | _=>exact pure hv _ (by simpa only [Frz] using h)
 | any D v=>intro v' h; exact pure (.any D v) v' (by cases v'<;>simpa only [Frz] using h)
 | bool D b=>intro v' h; exact pure (.bool D b) v' (by cases v'<;>simpa only [Frz] using h)
 | int D k n=>intro v' h; exact pure (.int D k n) v' (by cases v'<;>simpa only [Frz] using h)
 | flt D k n=>intro v' h; exact pure (.flt D k n) v' (by cases v'<;>simpa only [Frz] using h)
 | cpx D k n m=>intro v' h; exact pure (.cpx D k n m) v' (by cases v'<;>simpa only [Frz] using h)
 | val D a n c=>intro v' h; exact pure (.val D a n c) v' (by cases v'<;>simpa only [Frz] using h)
 | str D s=>intro v' h; exact pure (.str D s) v' (by cases v'<;>simpa only [Frz] using h)
 | ptr D id idx sub hd=>intro v' h; exact pure (.ptr D id idx sub hd) v' (by cases v'<;>simpa only [Frz] using h)
 | ipt D cells b o val h1 h2 ih=>intro v' h; exact pure (.ipt D cells b o val h1 h2) v' (by cases v'<;>simpa only [Frz] using h)
 | nilp D=>intro v' h; exact pure (.nilp D) v' (by cases v'<;>simpa only [Frz] using h)
 | nils D =>
  intro v' h
  cases v' with
  | isl es els =>
   simp only [Frz] at h
   subst h
   exact .isl0 _ _ _ _
  | _=>exact pure (.nils D) _ (by simpa only [Frz] using h)
 | bsl D id idx sub len cap hd=>intro v' h; exact pure (.bsl D id idx sub len cap hd) v' (by cases v'<;>simpa only [Frz] using h)
 | isl0 D es a cap=>intro v' h; exact pure (.isl0 D es a cap) v' (by cases v'<;>simpa only [Frz] using h)
 | isl D es elems b o cap val hl h0 h1 h2 ih=>intro v' h; exact pure (.isl D es elems b o cap val hl h0 h1 h2) v' (by cases v'<;>simpa only [Frz] using h)
 | amap D id hd=>intro v' h; exact pure (.amap D id hd) v' (by cases v'<;>simpa only [Frz] using h)
 | func D f c0 c1 v0 v1 h0 h1 g0 g1 ih0 ih1=>intro v' h; exact pure (.func D f c0 c1 v0 v1 h0 h1 g0 g1) v' (by cases v'<;>simpa only [Frz] using h)
 | yld D l=>intro v' h; exact pure (.yld D l) v' (by cases v'<;>simpa only [Frz] using h)
theorem PCall.freeze {f:FuncId} {args:List AV} {res:PRes} {v' : AV} (h:PCall P f args res) (hz:Frz res.blks res.v v'):PCall P f args ⟨v',[]⟩:=by
 refine ⟨h.1,fun I w vs hI hv=>(h.2 I w vs hI hv).mono fun e w' hh=>?_⟩
 obtain ⟨x,r',I',rfl,hp⟩:=hh
 let I2:Imm:=fun b o=>I' b o\/∃ (j:Nat) (p:Nat × List (List AV)),res.blks[j]?=some p/\b=(r' j).blk/\∃ (i:Nat) (e:List AV) (jj:Nat) (c:AV),p.2[i]?=some e/\e[jj]?=some c/\o=(r' j).off+i*p.1+jj
 have himm:∀ b o,I' b o->I2 b o:=fun b o h=>.inl h
 refine ⟨x,r',I2,rfl,hp.below,fun b o h=>.inl (hp.immL b o h),fun b o h=>?_,fun b o h=>?_,fun j p hj=>by simp at hj,fun j j' h1=>by simp at h1,?_⟩
 ·rcases h with h|⟨j,p,hj,rfl,_⟩
  ·exact hp.immN b o h
  ·exact .inr (hp.rows j p hj).1
 ·rcases h with h|⟨j,p,hj,rfl,_⟩
  ·exact hp.immS b o h
  ·exact (hp.rows j p hj).2.1
 ·refine (Yg9 (I2:=I2) himm (fun j es els hj y hy=>?_) hp.val _ hz).mono ⟨fun _ h=>h.elim,fun _ _ h=>⟨h,rfl⟩,Qd _⟩
  obtain ⟨hb1,hb2,⟨he1,he2⟩,hcap,hlen,cs,T,fz,hcells,hsz,hel,hmt,_⟩:=hp.rows j (es,els) hj
  dsimp only at he1 he2 hcap hlen hsz hel
  cases els with
  | nil =>
   cases hy with
   | asl _ _ _ _ hd hc=>exact .isl0 _ _ _ _
  | cons e0 els =>
   cases hy with
   | asl _ _ _ _ hd hc =>
    rw [he1]
    simp only [Nat.zero_mul,Nat.add_zero,Nat.sub_zero]
    have hcell:∀ (i:Nat) (e:List AV) (jj:Nat) (c:AV),(e0::els)[i]?=some e->e[jj]?=some c->∃ v,w'.cell? ⟨(r' j).blk,(r' j).off+i*es+jj,none⟩=some v/\VR r' I2 w' (fun _=>False) c v:=by
     intro i e jj c hi hjj
     obtain ⟨v,hv1,hv2⟩:=hel i e jj c hi hjj
     refine ⟨v,?_,hv2.mono ⟨fun _ h=>h.2.elim,fun b o h=>⟨himm b o h,rfl⟩,Qd _⟩⟩
     simp [World.cell?,hcells,hv1]
    refine .isl _ _ _ _ _ _ (fun i jj=>(w'.cell? ⟨(r' j).blk,(r' j).off+i*es+jj,none⟩).getD undef) hcap hlen (fun i e jj c hi hjj=>?_) (fun i e jj c hi hjj=>?_)
    ·obtain ⟨v,hv1,_⟩:=hcell i e jj c hi hjj
     exact ⟨.inr ⟨j,(es,e0::els),hj,rfl,i,e,jj,c,hi,hjj,rfl⟩,by rw [hv1]; rfl⟩
    ·obtain ⟨v,hv1,hv2⟩:=hcell i e jj c hi hjj
     rw [hv1]
     exact hv2
end Go.Sx
