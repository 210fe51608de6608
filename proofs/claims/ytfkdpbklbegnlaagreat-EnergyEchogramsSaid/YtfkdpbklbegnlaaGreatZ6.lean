/- A part of the proof: lemmas. -/
import Derived.Test.YtfkdpbklbegnlaaGreatZ5
import Derived.Test.YtfkdpbklbegnlaaGreatZ3
import Derived.Below
import Derived.ChangeOld
import Derived.KernelRfl
import Derived.Laws.Externs
import Derived.OpenShut
import Derived.ProofKit
import Derived.ShutString
import Derived.WalkKit
set_option linter.unusedVariables false
set_option linter.unusedSimpArgs false
set_option maxRecDepth 100000
set_option maxHeartbeats 16000000
open Array renaming getElem?_eq_some_iff->Qo
open Bool renaming and_eq_true->Qc,and_self->Qcg,eq_false_iff->Qv,false_eq_true->Ro
open Go.Code renaming wpIn_mono->Rd
open Go.DataW renaming trod->Ok
open Go.Exit renaming inBlock->Od
open Go.Sx.Env renaming get_cons->Wr
open Go.Sx.Got renaming intro->Sw
open Go.Sx.Post renaming same->Jp
open Go.Sx.Ren renaming of->Wt
open Go.Sx.Step renaming refl->Wa
open Go.Target.collected renaming injEq->Pp
open List renaming all_eq_true->Rj,append_assoc->Rs,append_nil->Tx,drop_append->Qak,drop_of_length_le->Qk,drop_zero->Wg,flatMap_cons->Ta,getElem?_drop->Rx,getElem?_eq_some_iff->Qj,getElem?_take->Pb,length_append->Rr,length_cons->Ru,length_nil->Wp,length_range->Kc,mem_append->Tk,mem_cons->Rb,mem_range->Tz,nil_append->Wy,pairwise_append->Pg,range->Si,range'->Oy,take_left'->Gr
open Nat renaming add_mul->Sy,beq->Qp,ble->Se,blt->Ww,eq_of_beq_eq_true->Qh,le_of_ble_eq_true->Qm,le_refl->Qd,le_trans->Qt,lor->Kw,mul_comm->Wi,shiftLeft->Ld,testBit->Fo,zero_add->Ry
open Option renaming bind_eq_some_iff->Hz
open Option.some renaming inj->Sv,injEq->Qf
open Prod.mk renaming injEq->Rl
namespace Go.Sx
open Go
def Zuq {α:Type} (b:Bool) (k:Bool->α):α:=match b with
 | true=>k true
 | false=>k false
theorem Zqh {α:Type} (b:Bool) (k:Bool->α):Zuq b k=k b:=by cases b<;>rfl
def Xo {α:Type} (n:Nat) (k:Nat->α):α:=match n with
 | 0=>k 0
 | m+1=>k (m+1)
theorem Xa {α:Type} (n:Nat) (k:Nat->α):Xo n k=k n:=by cases n<;>rfl
def Zy8 {α:Type} (n:Int) (k:Int->α):α:=match n with
 | .ofNat m=>Xo m fun m=>k (.ofNat m)
 | .negSucc m=>Xo m fun m=>k (.negSucc m)
theorem Zy7 {α:Type} (n:Int) (k:Int->α):Zy8 n k=k n:=by cases n<;>simp [Zy8,Xa]
mutual
def Zas {α:Type}:AV->(AV->α)->α
 | .any,k=>k .any
 | .bool b,k=>Zuq b fun b=>k (.bool b)
 | .int d n,k=>Zy8 n fun n=>k (.int d n)
 | .flt d n,k=>Xo n fun n=>k (.flt d n)
 | .cpx d n m,k=>Xo n fun n=>Xo m fun m=>k (.cpx d n m)
 | .val a n c,k=>k (.val a n c)
 | .str s,k=>k (.str s)
 | .ptr a b c,k=>Xo a fun a=>Xo b fun b=>Xo c fun c=>k (.ptr a b c)
 | .ipt cs,k=>Zhe cs fun cs=>k (.ipt cs)
 | .nilp,k=>k .nilp
 | .nils,k=>k .nils
 | .asl a b c,k=>Xo a fun a=>Xo b fun b=>Xo c fun c=>k (.asl a b c)
 | .bsl a b c d e,k=>Xo a fun a=>Xo b fun b=>Xo c fun c=>Xo d fun d=>Xo e fun e=>k (.bsl a b c d e)
 | .isl n els,k=>Xo n fun n=>Zk8 els fun els=>k (.isl n els)
 | .amap a,k=>Xo a fun a=>k (.amap a)
 | .func f c0 c1,k=>Xo f fun f=>Zhe c0 fun c0=>Zhe c1 fun c1=>k (.func f c0 c1)
 | .yld l,k=>Xo l fun l=>k (.yld l)
 | .agg cs,k=>Zhe cs fun cs=>k (.agg cs)
 | .tup cs,k=>Zhe cs fun cs=>k (.tup cs)
def Zhe {α:Type}:List AV->(List AV->α)->α
 | [],k=>k []
 | c::cs,k=>Zas c fun c=>Zhe cs fun cs=>k (c::cs)
def Zk8 {α:Type}:List (List AV)->(List (List AV)->α)->α
 | [],k=>k []
 | c::cs,k=>Zhe c fun c=>Zk8 cs fun cs=>k (c::cs)
end
mutual
theorem Zqi {α:Type}:∀ (v:AV) (k:AV->α),Zas v k=k v
 | .any,k=>rfl
 | .bool b,k=>by simp only [Zas,Zqh]
 | .int d n,k=>by simp only [Zas,Zy7]
 | .flt d n,k=>by simp only [Zas,Xa]
 | .cpx d n m,k=>by simp only [Zas,Xa]
 | .val a n c,k=>rfl
 | .str s,k=>rfl
 | .ptr a b c,k=>by simp only [Zas,Xa]
 | .ipt cs,k=>by simp only [Zas,Zbr cs]
 | .nilp,k=>rfl
 | .nils,k=>rfl
 | .asl a b c,k=>by simp only [Zas,Xa]
 | .bsl a b c d e,k=>by simp only [Zas,Xa]
 | .isl n els,k=>by simp only [Zas,Xa,Zik els]
 | .amap a,k=>by simp only [Zas,Xa]
 | .func f c0 c1,k=>by simp only [Zas,Xa,Zbr c0,Zbr c1]
 | .yld l,k=>by simp only [Zas,Xa]
 | .agg cs,k=>by simp only [Zas,Zbr cs]
 | .tup cs,k=>by simp only [Zas,Zbr cs]
theorem Zbr {α:Type}:∀ (cs:List AV) (k:List AV->α),Zhe cs k=k cs
 | [],k=>rfl
 | c::cs,k=>by simp only [Zhe,Zqi c,Zbr cs]
theorem Zik {α:Type}:∀ (cs:List (List AV)) (k:List (List AV)->α),Zk8 cs k=k cs
 | [],k=>rfl
 | c::cs,k=>by simp only [Zk8,Zbr c,Zik cs]
end
def Zqg {α:Type} (b:ABlk) (k:ABlk->α):α:=match b with
 | .row es elems mt pu=>Xo es fun es=>Zk8 elems fun elems=>Zuq mt fun mt=>Zuq pu fun pu=>k (.row es elems mt pu)
 | .map l=>k (.map l)
 | .set l=>k (.set l)
 | .dead=>k .dead
theorem Zy6 {α:Type} (b:ABlk) (k:ABlk->α):Zqg b k=k b:=by cases b<;>simp only [Zqg,Xa,Zqh,Zik]
def Zza {α:Type} (e:Eff) (k:Eff->α):α:=match e with
 | .none=>k .none
 | .add b=>Zqg b fun b=>k (.add b)
 | .put id b=>Xo id fun id=>Zqg b fun b=>k (.put id b)
 | .app id b=>Xo id fun id=>Zqg b fun b=>k (.app id b)
theorem Zy9 {α:Type} (e:Eff) (k:Eff->α):Zza e k=k e:=by cases e<;>simp only [Zza,Xa,Zy6]
def Zup {α:Type} (σ:St) (k:St->α):α:=match σ with
 | ⟨hp,nx⟩=>Xo nx fun nx=>match hp with
  | []=>k ⟨[],nx⟩
  | (i,b)::t=>Xo i fun i=>k ⟨(i,b)::t,nx⟩
theorem Zy5 {α:Type} (σ:St) (k:St->α):Zup σ k=k σ:=by
 obtain ⟨hp,nx⟩:=σ
 cases hp with
 | nil=>simp only [Zup,Xa]
 | cons p t=>simp only [Zup,Xa]
open Go Go.RowKit
variable {P:Program} {N:Nat}
abbrev CF:=FuncId->List AV->St->Option (AV × St)
def putE (N:Nat) (dst:Option Nat) (v:AV) (env:Env):Option Env:=match dst with
 | none=>some env
 | some d=>cond (Ww d N) (Zas v fun v=>some ((d,v)::env)) none
def exOp (T:Tab) (ok:TypeId->Bool) (cf:CF) (N:Nat) (o:Oper) (env:Env) (σ:St):Option (Env × St) :=
 match o.op with
 | .call { callee:=.value f,args,.. }=>match evA env f with
  | .func g c0 c1=>match cf g ((c0++Xf (evA env) args.toList)++c1) σ with
   | some (v,σ')=>match putE N o.dst v env with
    | some env'=>some (env',σ')
    | none=>none
   | none=>none
  | _=>none
 | op=>match aop T ok σ.next (evA env) σ.get op with
  | some (v,e)=>match putE N o.dst v env with
   | some env'=>Zza e fun e=>Zup (e.st σ) fun σ'=>some (env',σ')
   | none=>none
  | none=>none
def Zji (T:Tab) (ok:TypeId->Bool) (cf:CF) (N:Nat) (ops:List Oper):List Oper->Env->St->Option (Env × St)
 | [],env,σ=>some (env,σ)
 | o::rest,env,σ =>
  match o.guard with
  | none=>match exOp T ok cf N o env σ with
   | some (env',σ')=>Zji T ok cf N ops rest env' σ'
   | none=>none
  | some (j,want)=>match Yp ops j with
   | none=>none
   | some t=>match env.get t with
    | .bool b=>match b,want with
     | true,true=>match exOp T ok cf N o ((t,.bool true)::env) σ with
      | some (env',σ')=>Zji T ok cf N ops rest env' σ'
      | none=>none
     | false,false=>match exOp T ok cf N o ((t,.bool false)::env) σ with
      | some (env',σ')=>Zji T ok cf N ops rest env' σ'
      | none=>none
     | true,false=>match putE N o.dst (.tup []) ((t,.bool true)::env) with
      | some env'=>Zji T ok cf N ops rest env' σ
      | none=>none
     | false,true=>match putE N o.dst (.tup []) ((t,.bool false)::env) with
      | some env'=>Zji T ok cf N ops rest env' σ
      | none=>none
    | .tup []=>match putE N o.dst (.tup []) env with
     | some env'=>Zji T ok cf N ops rest env' σ
     | none=>none
    | _=>none
def cxS (P:Program) (T:Tab) (ok:TypeId->Bool):Cx:=⟨T,ok,fun f args σ K=>FnOK P f/\SemCall P f args σ K⟩
theorem Yes {T:Tab} {ok:TypeId->Bool} (hT:TabOK P T) (hok:EqOK P ok):CxOK P (cxS P T ok):=⟨hT,hok,fun _ _ _ _ h=>h⟩
def CFOK (P:Program) (cf:CF):Prop:=∀ f args σ v σ',cf f args σ=some (v,σ')->FnOK P f/\SemCall P f args σ fun v2 σ2=>v2=v/\σ2=σ'
theorem Ub {dst:Option Nat} {v:AV} {env env' : Env} {K:Env->Prop} (h:putE N dst v env=some env') (hk:K env'):Zu N dst v env K:=by
 cases dst with
 | none=>simp only [putE,Qf] at h; subst h; exact hk
 | some d =>
  simp only [putE,Zqi] at h
  obtain ⟨h1,h2⟩:=Zf h
  simp only [Qf] at h2
  subst h2
  exact Br.intro (fun _=>hk) (fun h=>by rw [h] at h1; cases h1)
theorem Zwk {T:Tab} {ok:TypeId->Bool} {cf:CF} (hcf:CFOK P cf) {o:Oper} {env env' : Env} {σ σ' : St} (h:exOp T ok cf N o env σ=some (env',σ')) {K:Env->St->Prop} (hk:K env' σ'):vcOp (cxS P T ok) N o env σ K:=by
 unfold exOp at h
 unfold vcOp
 simp only [Zsr,Zzf,Zzh]
 split at h
 ·rename_i f args ts hop
  unfold Zs8
  simp only [Ycu]
  split at h
  ·rename_i g c0 c1 hf
   split at h
   ·rename_i v σ1 hc
    split at h
    ·rename_i env1 hp
     cases h;obtain ⟨h1,h2⟩:=hcf _ _ _ _ _ hc;rw [hop];dsimp only;rw [hf];exact ⟨h1,h2.mono fun v2 σ2 ⟨e1,e2⟩=>by subst e1; subst e2; exact Ub hp hk⟩
    ·cases h
   ·cases h
  ·cases h
 ·rename_i hne
  split at h
  ·rename_i v e ha
   split at h
   ·rename_i env1 hp
    rw [Zy9,Zy5] at h;cases h;split
    ·rename_i f args ts hop
     exact (hne _ _ _ hop).elim
    ·rename_i l ts hop
     exact .old (aopK.of (by rw [<-hop]; exact ha) (Ub (K:=fun env'=>K env' (e.st σ)) hp hk))
    ·exact aopK.of ha (Ub (K:=fun env'=>K env' (e.st σ)) hp hk)
   ·cases h
  ·cases h
theorem Zgf {T:Tab} {ok:TypeId->Bool} {cf:CF} (hcf:CFOK P cf) {ops:List Oper}:∀ (l:List Oper) {env env' : Env} {σ σ' : St},Zji T ok cf N ops l env σ=some (env',σ')->∀ {K:Env->St->Prop},K env' σ'->Zc3 (cxS P T ok) N ops l env σ K
 | [],env,env',σ,σ',h,K,hk=>by simp only [Zji,Qf,Rl] at h; obtain ⟨rfl,rfl⟩:=h; exact hk
 | o::rest,env,env',σ,σ',h,K,hk=>by
  simp only [Zji] at h
  simp only [Zc3]
  have go:∀ e0,(match exOp T ok cf N o e0 σ with
    | some (env',σ')=>Zji T ok cf N ops rest env' σ'
    | none=>none)=some (env',σ')->vcOp (cxS P T ok) N o e0 σ fun env' σ'=>Zc3 (cxS P T ok) N ops rest env' σ' K:=by
   intro e0 h;split at h
   ·rename_i env1 σ1 h1
    exact Zwk hcf h1 (Zgf hcf rest h hk)
   ·cases h
  have skip:∀ e0,(match putE N o.dst (.tup []) e0 with
    | some env'=>Zji T ok cf N ops rest env' σ
    | none=>none)=some (env',σ')->Zu N o.dst (.tup []) e0 fun env'=>Zc3 (cxS P T ok) N ops rest env' σ K:=by
   intro e0 h;split at h
   ·rename_i env1 h1
    exact Ub h1 (Zgf hcf rest h hk)
   ·cases h
  cases hg:o.guard with
  | none=>rw [hg] at h; exact go env h
  | some jw =>
   obtain ⟨j,want⟩:=jw;rw [hg] at h;dsimp only at h ⊢
   cases ht:Yp ops j with
   | none=>rw [ht] at h; cases h
   | some t =>
    rw [ht] at h;dsimp only at h ⊢;split at h
    ·rename_i b hb
     rw [hb];dsimp only;split at h
     ·exact go _ h
     ·exact go _ h
     ·exact skip _ h
     ·exact skip _ h
    ·rename_i hb
     rw [hb];exact skip _ h
    ·cases h
variable {P:Program} {N:Nat}
def hdF:Hd:=⟨fun _ _ _ _=>False,fun _ _ _ _ _ _ _=>False,fun _ _ _ _=>False⟩
theorem Yjd:HdOK P N hdF:=⟨fun _ _ _ _ h=>h.elim,fun _ _ _ _ _ _ _ h=>h.elim,fun _ _ _ _ _ h=>h.elim⟩
theorem Ydk {env:Env} {σ:St} {Q:Exit->Env->St->Prop} (h:Q .normal env σ):Awp P N .skip env σ Q:=fun F B w0 I0 pr r I D a w hF hR S=>wpIn_skip (Jp S h rfl)
theorem Ydl {id:Nat} {env:Env} {σ:St} {Q:Exit->Env->St->Prop} (h:Q (.exit id) env σ):Awp P N (.exit id) env σ Q:=fun F B w0 I0 pr r I D a w hF hR S=>wpIn_exit (Jp S h rfl)
theorem Yao {env:Env} {σ:St} {Q:Exit->Env->St->Prop} (h:Q .ret env σ):Awp P N .ret env σ Q:=fun F B w0 I0 pr r I D a w hF hR S=>wpIn_ret (Jp S h rfl)
theorem Zwo {cx:Cx} (hcx:CxOK P cx) {id:Nat} {ops:Array Oper} {env:Env} {σ:St} {Q:Exit->Env->St->Prop} (hn:Yl ops.toList=true) (h:Zc3 cx N ops.toList ops.toList env σ (Q .normal)):Awp P N (.region id ops false) env σ Q:=by
 refine Yz hcx (Yjd (P:=P) (N:=N)) (.region id ops false) env σ Q ?_
 simp only [Zaz,hn,cond_true]
 exact h
theorem Zs9 {x y:Code} {env:Env} {σ:St} {Q:Exit->Env->St->Prop} (h:Awp P N x env σ (seqQ (fun env' σ'=>Awp P N y env' σ' Q) Q)):Awp P N (.seq x y) env σ Q:=by
 intro F B w0 I0 pr r I D a w hF hR S
 refine wpIn_seq (Rd (fun e a' w' hp=>?_) (h F B w0 I0 pr r I D a w hF hR S))
 cases e with
 | normal =>
  obtain ⟨pr1,ms1,env1,σ1,r1,I1,D1,p1,m1,n1,d1,q1,s1,t1,z1⟩:=hp
  refine Rd (fun e2 a2 w2 h2=>?_) (q1 F B w0 I0 pr1 r1 I1 D1 a' w' hF (hR.le p1) s1)
  have h1:Post B w0 I0 pr N r I D w a.defers (fun _ env' σ'=>env'=env1/\σ'=σ1) .normal a' w':=⟨pr1,ms1,env1,σ1,r1,I1,D1,p1,m1,n1,d1,⟨rfl,rfl⟩,s1,t1,z1⟩
  obtain ⟨pr2,ms2,env2,σ2,r2,I2,D2,p2,m2,n2,d2,q2,s2,t2,z2⟩:=h2
  refine ⟨pr2,ms2++ms1,env2,σ2,r2,I2,D2,fun b o h=>p2 _ _ (p1 _ _ h),?_,?_,by rw [d2,d1,Rs],q2,s2,t1.trans t2,Qt z1 z2⟩
  ·intro d hd
   rcases Tk.1 hd with h|h
   ·obtain ⟨b,g1,g2,g3⟩:=m2 d h
    exact ⟨b,g1,g2,Qt z1 g3⟩
   ·obtain ⟨b,g1,g2,g3⟩:=m1 d h
    exact ⟨b,g1,p2 _ _ g2,g3⟩
  ·refine Pg.2 ⟨n2,n1,fun x hx y hy e=>?_⟩
   obtain ⟨b,g1,g2,g3⟩:=m2 x hx;obtain ⟨b',g1',g2',g3'⟩:=m1 y hy;have:=(Qo.1 (s1.hr.prot _ _ g2').1).1;rw [g1,g1'] at e;simp only [Pp] at e;omega
 | exit id=>exact hp.mono fun _ _ q=>q
 | goto l=>exact hp.mono fun _ _ q=>q
 | ret=>exact hp.mono fun _ _ q=>q
 | panic ch=>exact hp.mono fun _ _ q=>q
 | outgrown=>exact hp.mono fun _ _ q=>q
theorem Zva {c:Operand} {x y:Code} {env:Env} {σ:St} {Q:Exit->Env->St->Prop} {b:Bool} (hb:evA env c = .bool b) (h:cond b (Awp P N x (setC env c true) σ Q) (Awp P N y (setC env c false) σ Q)):Awp P N (.cond c x y) env σ Q:=by
 intro F B w0 I0 pr r I D a w hF hR S
 have hc:=Xk S.er c
 rw [hb] at hc
 have hcv:a.eval c = .bool b:=by generalize a.eval c=z at hc; cases hc; rfl
 cases b with
 | true=>exact wpIn_cond_true hcv (h F B w0 I0 pr r I D a w hF hR (Znp S hb))
 | false=>exact wpIn_cond_false hcv (h F B w0 I0 pr r I D a w hF hR (Znp S hb))
theorem Yap {id:Nat} {c:Code} {env:Env} {σ:St} {Q:Exit->Env->St->Prop} (h:Awp P N c env σ (Zew id Q)):Awp P N (.block id c) env σ Q:=by
 intro F B w0 I0 pr r I D a w hF hR S
 refine wpIn_block (Rd (fun e a' w' h=>?_) (h F B w0 I0 pr r I D a w hF hR S))
 cases e with
 | exit id' =>
  by_cases hid:id'=id
  ·subst hid
   simp only [Od,if_true];exact h.mono fun _ _ q=>by simpa [Zew] using q
  ·simp only [Od,hid,if_false]
   exact h.mono fun _ _ q=>by
    have:Qp id' id=false:=by rw [Qv]; intro hb; exact hid (Qh hb)
    simpa [Zew,this] using q
 | normal=>exact h.mono fun _ _ q=>q
 | goto l=>exact h.mono fun _ _ q=>q
 | ret=>exact h.mono fun _ _ q=>q
 | panic ch=>exact h.mono fun _ _ q=>q
 | outgrown=>exact h.mono fun _ _ q=>q
def Zzj (T:Tab) (ok:TypeId->Bool) (pc:PC) (N:Nat) (o:Oper) (env:Env) (σ:St) (k:Nat):Option (Rec × Env × St) :=
 match o.op with
 | .call { callee:=.value f,args,.. }=>match evA env f with
  | .func g c0 c1=>match Zal σ.get ((c0++Xf (evA env) args.toList)++c1) with
   | some p=>match pc g p.1 with
    | some res=>match p.2,Vh res.v,res.blks with
     | [],_,_=>match putE N o.dst (Zl (fun j=>k+j) res.v) env with
      | some env'=>some (⟨o,k,res.blks.length+1,Zl (fun j=>k+j) res.v,Xs k res.blks,Za0 σ.get ((c0++Xf (evA env) args.toList)++c1)⟩,env',σ.putL (Xs k res.blks))
      | none=>none
     | _,true,[]=>match putE N o.dst (Zl (fun j=>k+j) res.v) env with
      | some env'=>some (⟨o,k,1,Zl (fun j=>k+j) res.v,[],Za0 σ.get ((c0++Xf (evA env) args.toList)++c1)⟩,env',σ)
      | none=>none
     | _,_,_=>none
    | none=>none
   | none=>none
  | _=>none
 | op=>match aop T ok k (evA env) σ.get op with
  | some p=>match putE N o.dst p.1 env with
   | some env'=>some (⟨o,k,1,p.1,p.2.puts k,Uk (evA env) op⟩,env',σ.putL (p.2.puts k))
   | none=>none
  | none=>none
def Zlg (N:Nat) (o:Oper) (env:Env) (σ:St) (k:Nat):Option (Rec × Env × St) :=
 match putE N o.dst (.tup []) env with
 | some env'=>some (⟨o,k,1,.tup [],[],[]⟩,env',σ)
 | none=>none
def exD (T:Tab) (ok:TypeId->Bool) (pc:PC) (N:Nat) (ops:List Oper):List Oper->Env->St->Nat->List Rec->Option (List Rec × Env × St)
 | [],env,σ,k,acc=>some (acc.reverse,env,{ σ with next:=k })
 | o::rest,env,σ,k,acc =>
  match (match o.guard with
   | none=>Zzj T ok pc N o env σ k
   | some (j,want)=>match Yp ops j with
    | none=>none
    | some t=>match env.get t with
     | .bool b=>match b,want with
      | true,true=>Zzj T ok pc N o ((t,.bool true)::env) σ k
      | false,false=>Zzj T ok pc N o ((t,.bool false)::env) σ k
      | true,false=>Zlg N o ((t,.bool true)::env) σ k
      | false,true=>Zlg N o ((t,.bool false)::env) σ k
     | .tup []=>Zlg N o env σ k
     | _=>none) with
  | some (x,env',σ')=>exD T ok pc N ops rest env' σ' (k+x.cnt) (x::acc)
  | none=>none
theorem Zgg {T:Tab} {ok:TypeId->Bool} {pc:PC} {o:Oper} {env:Env} {σ:St} {k:Nat} {x:Rec} {env' : Env} {σ' : St} (h:Zzj T ok pc N o env σ k=some (x,env',σ')) {K:Rec->Env->St->Prop} (hk:K x env' σ'):Zrw (cxS P T ok) pc N o env σ k K:=by
 unfold Zzj at h
 rw [Zti]
 unfold Ztj
 split at h
 ·rename_i f args ts hop
  rw [hop]
  dsimp only
  split at h
  ·rename_i g c0 c1 hf
   rw [hf];dsimp only;split at h
   ·rename_i p hp
    rw [hp]
    show Got (pc g p.1) _
    split at h
    ·rename_i res hres
     rw [hres];dsimp only [Got];split at h
     ·rename_i hp2
      rw [hp2];dsimp only;split at h
      ·rename_i env1 hput
       cases h;exact Ub (K:=fun env'=>K _ env' _) hput hk
      ·cases h
     ·rename_i hp2 hs hb hne
      split at h
      ·rename_i env1 hput
       cases h;rw [hs,hb];split
       ·rename_i e; exact (hne e).elim
       ·exact Ub (K:=fun env'=>K _ env' _) hput hk
       ·rename_i h1 h2
        exact (h2 rfl rfl).elim
      ·cases h
     ·cases h
    ·cases h
   ·cases h
  ·cases h
 ·rename_i hne
  split at h
  ·rename_i p ha
   split at h
   ·rename_i env1 hp
    cases h;split
    ·rename_i f args ts hop
     exact (hne _ _ _ hop).elim
    ·exact aopK.of ha (Ub (K:=fun env'=>K _ env' _) hp hk)
   ·cases h
  ·cases h
theorem Zdq {o:Oper} {env:Env} {σ:St} {k:Nat} {x:Rec} {env' : Env} {σ' : St} (h:Zlg N o env σ k=some (x,env',σ')) {K:Rec->Env->St->Prop} (hk:K x env' σ'):Zh6 N o env σ k K:=by
 unfold Zlg at h
 split at h
 ·rename_i env1 hp
  cases h
  exact Ub (K:=fun env'=>K _ env' _) hp hk
 ·cases h
variable {P:Program} {N:Nat}
theorem Zqs {T:Tab} {ok:TypeId->Bool} {pc:PC} {ops:List Oper}:∀ (l:List Oper) {env:Env} {σ:St} {k:Nat} {acc recs:List Rec} {env' : Env} {σ' : St},exD T ok pc N ops l env σ k acc=some (recs,env',σ') ->
  ∀ {K:List Rec->Env->St->Prop},K recs env' σ'->vcD (cxS P T ok) pc N ops l env σ k acc K
 | [],env,σ,k,acc,recs,env',σ',h,K,hk=>by simp only [exD,Qf,Rl] at h; obtain ⟨rfl,rfl,rfl⟩:=h; exact hk
 | o::rest,env,σ,k,acc,recs,env',σ',h,K,hk=>by
  simp only [exD] at h
  split at h
  ·rename_i x env1 σ1 h1
   have hrest:vcD (cxS P T ok) pc N ops rest env1 σ1 (k+x.cnt) (x::acc) K:=Zqs rest h hk;simp only [vcD,Zqm]
   cases hg:o.guard with
   | none =>
    rw [hg] at h1;exact Zgg (K:=fun x env' σ'=>vcD (cxS P T ok) pc N ops rest env' σ' (k+x.cnt) (x::acc) K) h1 hrest
   | some jw =>
    obtain ⟨j,want⟩:=jw;rw [hg] at h1;dsimp only at h1 ⊢
    cases ht:Yp ops j with
    | none=>rw [ht] at h1; cases h1
    | some t =>
     rw [ht] at h1;dsimp only at h1 ⊢;split at h1
     ·rename_i b hb
      rw [hb];dsimp only;split at h1
      ·exact Zgg (K:=fun x env' σ'=>vcD (cxS P T ok) pc N ops rest env' σ' (k+x.cnt) (x::acc) K) h1 hrest
      ·exact Zgg (K:=fun x env' σ'=>vcD (cxS P T ok) pc N ops rest env' σ' (k+x.cnt) (x::acc) K) h1 hrest
      ·exact Zdq (K:=fun x env' σ'=>vcD (cxS P T ok) pc N ops rest env' σ' (k+x.cnt) (x::acc) K) h1 hrest
      ·exact Zdq (K:=fun x env' σ'=>vcD (cxS P T ok) pc N ops rest env' σ' (k+x.cnt) (x::acc) K) h1 hrest
     ·rename_i hb
      rw [hb];exact Zdq (K:=fun x env' σ'=>vcD (cxS P T ok) pc N ops rest env' σ' (k+x.cnt) (x::acc) K) h1 hrest
     ·cases h1
  ·cases h
def Zqr (T:Tab) (ok:TypeId->Bool) (pc:PC) (N:Nat) (ops:List Oper) (env:Env) (σ:St):Option (Env × St) :=
 cond (Yl ops) (match exD T ok pc N ops ops env σ σ.next [] with
  | some (recs,env',σ')=>cond (Zqx ops recs) (some (env',σ')) none
  | none=>none) none
theorem Zqq {T:Tab} {ok:TypeId->Bool} {pc:PC} {ops:List Oper} {env env' : Env} {σ σ' : St} (h:Zqr T ok pc N ops env σ=some (env',σ')) {K:Env->St->Prop} (hk:K env' σ'):Zgp (cxS P T ok) pc N ops env σ K:=by
 unfold Zqr at h
 obtain ⟨h1,h⟩:=Zf h
 split at h
 ·rename_i recs env1 σ1 hd
  obtain ⟨h2,h⟩:=Zf h
  cases h
  unfold Zgp
  rw [h1]
  exact Zqs ops hd ⟨h2,hk⟩
 ·cases h
def dedA {α:Type}:Nat->List (Nat × α)->List (Nat × α)
 | _,[]=>[]
 | m,(j,v)::e=>cond (Fo m j) (dedA m e) ((j,v)::dedA (Kw m (Ld 1 j)) e)
theorem Zj7 {m j i:Nat} (hi:i≠j):(Kw m (Ld 1 j)).testBit i=m.testBit i:=by
 have h1:(m ||| 1 <<< j).testBit i=(m.testBit i||(1 <<< j).testBit i):=Nat.testBit_or ..
 have h2:(1 <<< j).testBit i=false:=by
  cases hb:(1 <<< j).testBit i with
  | false=>rfl
  | true=>exact (hi (Zo0 hb)).elim
 have:(Kw m (Ld 1 j)).testBit i=(m ||| 1 <<< j).testBit i:=rfl
 rw [this,h1,h2,Bool.or_false]
theorem Zoe:∀ (e:Env) (m i:Nat),m.testBit i=false->Env.get (dedA m e) i=Env.get e i
 | [],_,_,_=>rfl
 | (j,v)::e,m,i,h=>by
  simp only [dedA]
  cases hb:Fo m j with
  | true =>
   have hne:i≠j:=fun e=>by subst e; rw [hb] at h; cases h
   rw [Wr,if_neg hne];exact Zoe e m i h
  | false =>
   simp only [cond_false,Wr]
   by_cases hij:i=j
   ·rw [if_pos hij,if_pos hij]
   ·rw [if_neg hij,if_neg hij]
    exact Zoe e _ i (by rw [Zj7 hij]; exact h)
theorem Zbp (j:Nat) (b:ABlk) (e:List (Nat × ABlk)) (i:Nat):hget ((j,b)::e) i=if i=j then b else hget e i:=by
 simp only [hget]
 by_cases h:i=j
 ·subst h; simp
 ·have:Qp i j=false:=by rw [Qv]; intro hb; exact h (Qh hb)
  simp [this,h]
theorem Zhj:∀ (e:List (Nat × ABlk)) (m i:Nat),m.testBit i=false->hget (dedA m e) i=hget e i
 | [],_,_,_=>rfl
 | (j,v)::e,m,i,h=>by
  simp only [dedA]
  cases hb:Fo m j with
  | true =>
   have hne:i≠j:=fun e=>by subst e; rw [hb] at h; cases h
   rw [Zbp,if_neg hne];exact Zhj e m i h
  | false =>
   simp only [cond_false,Zbp]
   by_cases hij:i=j
   ·rw [if_pos hij,if_pos hij]
   ·rw [if_neg hij,if_neg hij]
    exact Zhj e _ i (by rw [Zj7 hij]; exact h)
def dedS (σ:St):St:={ σ with heap:=dedA 0 σ.heap }
theorem Zwl (env:Env) (σ:St):Zhz env σ (dedA 0 env) (dedS σ):=⟨fun i=>.inl (Zoe env 0 i (by simp)),fun i=>.inl (Zhj σ.heap 0 i (by simp)),rfl⟩
abbrev Out:=Option (Exit × Env × St)
def Zqo (ec:Env->St->Out):Nat->Env->St->Out
 | 0,_,_=>none
 | m+1,env,σ=>match ec env σ with
  | some (.normal,env',σ')=>Zqo ec m (dedA 0 env') (dedS σ')
  | some (.exit id,env',σ')=>some (.exit id,env',σ')
  | some (.ret,env',σ')=>some (.ret,env',σ')
  | _=>none
def Ze9 (ea eb:Env->St->Out) (ps:List Tmp) (env:Env):List (List AV)->St->Out
 | [],σ=>some (.normal,env,σ)
 | x::xs,σ=>cond (Qp x.length ps.length) (match ea (Zem ps x env) σ with
  | some (.normal,env1,σ1)=>match eb env1 σ1 with
   | some (.normal,_,σ2)=>Ze9 ea eb ps env xs σ2
   | some (.ret,_,σ2)=>some (.ret,env,σ2)
   | some (.exit id,_,σ2)=>some (.exit id,env,σ2)
   | _=>none
  | _=>none) none
theorem Awp.froz {c:Code} {env:Env} {σ:St} {Q:Exit->Env->St->Prop} (l:List Nat) (hm:mutL σ.get l=true) (h:Awp P N c env (Vq σ l) Q):Awp P N c env σ Q :=
 fun F B w0 I0 pr r I D a w hF hR S=>by
 obtain ⟨H1,S1⟩:=S.hr.froz (Zcn hm)
 have S' : SR B w0 I0 pr N r (Xi r I σ.get l) D env (Vq σ l) a w:=⟨by rw [Zcv,Zbq]; exact H1,S.er.mono S1⟩
 exact Rd (fun e a' w' hp=>by
  obtain ⟨pr1,ms1,env1,σ1,r1,I1,D1,p1,m1,n1,d1,q1,s1,t1,z1⟩:=hp
  exact ⟨pr1,ms1,env1,σ1,r1,I1,D1,p1,m1,n1,d1,q1,s1,S1.trans t1,z1⟩) (h F B w0 I0 pr r (Xi r I σ.get l) D a w hF hR S')
def Zo8 (h:Nat->ABlk):Env->List Nat->List Nat
 | [],l=>l
 | (_,.asl id _ _)::e,l=>cond (l.any (fun j=>Qp j id) || !mutL h [id]) (Zo8 h e l) (Zo8 h e (id::l))
 | _::e,l=>Zo8 h e l
def Zst (T:Tab) (ok:TypeId->Bool) (pc:PC) (N:Nat) (ops:List Oper) (env:Env) (σ:St):Option (Env × St) :=
 match Zqr T ok pc N ops env σ with
 | some r=>some r
 | none=>cond (mutL σ.get (Zo8 σ.get env [])) (Zqr T ok pc N ops env (Vq σ (Zo8 σ.get env []))) none
theorem Zob {T:Tab} (hT:TabOK P T) {ok:TypeId->Bool} (hok:EqOK P ok) {pc:PC} (hpc:PCOK P pc) (hm:P.follows .mixedOrders=true) {id:Nat} {ops:Array Oper} {env env' : Env} {σ σ' : St} (h:Zst T ok pc N ops.toList env σ=some (env',σ')) :
  Awp P N (.region id ops true) env σ fun e e2 s2=>e = .normal/\e2=env'/\s2=σ':=by
 have key:∀ σ1,Zqr T ok pc N ops.toList env σ1=some (env',σ')->Awp P N (.region id ops true) env σ1 fun e e2 s2=>e = .normal/\e2=env'/\s2=σ':=fun σ1 h2 =>
  (Zd9 (Yes hT hok) hpc hm id ops env σ1 (fun e s=>e=env'/\s=σ') (Zqq h2 ⟨rfl,rfl⟩)).mono fun e2 env2 σ2 hq=>by
   cases e2 with
   | normal=>exact ⟨rfl,hq.1,hq.2⟩
   | _=>exact hq.elim
 unfold Zst at h
 split at h
 ·rename_i r hr
  cases h
  exact key _ hr
 ·obtain ⟨h1,h⟩:=Zf h
  exact Awp.froz _ h1 (key _ h)
def Xc (T:Tab) (ok:TypeId->Bool) (cf:CF) (pc:PC) (it:ITab) (lim N:Nat):Code->Env->St->Out
 | .skip,env,σ=>some (.normal,env,σ)
 | .region _ ops draw,env,σ=>match draw with
  | false=>cond (Yl ops.toList) (match Zji T ok cf N ops.toList ops.toList env σ with
   | some (env',σ')=>some (.normal,env',σ')
   | none=>none) none
  | true=>match Zst T ok pc N ops.toList env σ with
   | some (env',σ')=>some (.normal,env',σ')
   | none=>none
 | .seq x y,env,σ=>match Xc T ok cf pc it lim N x env σ with
  | some (.normal,env',σ')=>Xc T ok cf pc it lim N y env' σ'
  | some (.exit id,env',σ')=>some (.exit id,env',σ')
  | some (.ret,env',σ')=>some (.ret,env',σ')
  | _=>none
 | .cond c x y,env,σ=>match evA env c with
  | .bool true=>Xc T ok cf pc it lim N x (setC env c true) σ
  | .bool false=>Xc T ok cf pc it lim N y (setC env c false) σ
  | _=>none
 | .block id c,env,σ=>match Xc T ok cf pc it lim N c env σ with
  | some (.exit id',env',σ')=>some (cond (Qp id' id) .normal (.exit id'),env',σ')
  | some (.normal,env',σ')=>some (.normal,env',σ')
  | some (.ret,env',σ')=>some (.ret,env',σ')
  | _=>none
 | .loop c,env,σ=>Zqo (Xc T ok cf pc it lim N c) lim env σ
 | .rangeFunc f ps x y,env,σ=>match evA env f with
  | .func g c0 c1=>match Zal σ.get c0,Zal σ.get c1 with
   | some p0,some p1=>match it g p0.1 p1.1 with
    | some xs=>cond (Vu N ps.toList) (match p0.2++p1.2 with
     | []=>Ze9 (Xc T ok cf pc it lim N x) (Xc T ok cf pc it lim N y) ps.toList env xs σ
     | a::l=>cond (mutL σ.get (a::l)) (Ze9 (Xc T ok cf pc it lim N x) (Xc T ok cf pc it lim N y) ps.toList env xs (Vq σ (a::l))) none) none
    | none=>none
   | _,_=>none
  | _=>none
 | .exit id,env,σ=>some (.exit id,env,σ)
 | .ret,env,σ=>some (.ret,env,σ)
 | _,_,_=>none
def Is (e:Exit) (env:Env) (σ:St):Exit->Env->St->Prop:=fun e2 env2 σ2=>e2=e/\env2=env/\σ2=σ
theorem Zi8 {c:Code} {ec:Env->St->Out} (hc:∀ env σ e env' σ',ec env σ=some (e,env',σ')->Awp P N c env σ (Is e env' σ')):∀ (m:Nat) {env:Env} {σ:St} {e:Exit} {env' : Env} {σ' : St},Zqo ec m env σ=some (e,env',σ')->Ztc P N c (Is e env' σ') m env σ
 | 0,env,σ,e,env',σ',h=>by simp [Zqo] at h
 | m+1,env,σ,e,env',σ',h=>by
  simp only [Zqo] at h
  simp only [Ztc]
  split at h
  ·rename_i env1 σ1 h1
   refine (hc _ _ _ _ _ h1).forgets fun e2 env2 σ2 hq=>?_
   obtain ⟨rfl,rfl,rfl⟩:=hq;exact ⟨_,_,Zwl _ _,Zi8 hc m h⟩
  ·rename_i id env1 σ1 h1
   cases h;exact (hc _ _ _ _ _ h1).mono fun e2 env2 σ2 hq=>by obtain ⟨rfl,rfl,rfl⟩:=hq; exact ⟨rfl,rfl,rfl⟩
  ·rename_i env1 σ1 h1
   cases h;exact (hc _ _ _ _ _ h1).mono fun e2 env2 σ2 hq=>by obtain ⟨rfl,rfl,rfl⟩:=hq; exact ⟨rfl,rfl,rfl⟩
  ·cases h
theorem Zce {n0:Nat} {assign body:Code} {ea eb:Env->St->Out} (ha:∀ env σ e env' σ',ea env σ=some (e,env',σ')->Awp P N assign env σ (Is e env' σ')) (hb:∀ env σ e env' σ',eb env σ=some (e,env',σ')->Awp P N body env σ (Is e env' σ')) {ps:List Tmp} {env:Env} :
  ∀ (xs:List (List AV)) {σ:St} {e:Exit} {env' : Env} {σ' : St},Ze9 ea eb ps env xs σ=some (e,env',σ')->Zjc P N n0 ps assign body env (Is e env' σ') xs σ
 | [],σ,e,env',σ',h=>by simp only [Ze9,Qf,Rl] at h; obtain ⟨rfl,rfl,rfl⟩:=h; exact ⟨rfl,rfl,rfl⟩
 | x::xs,σ,e,env',σ',h=>by
  simp only [Ze9] at h
  obtain ⟨h1,h⟩:=Zf h
  refine ⟨Qh h1,?_⟩
  split at h
  ·rename_i env1 σ1 h2
   refine (ha _ _ _ _ _ h2).mono fun e2 env2 σ2 hq=>?_
   obtain ⟨rfl,rfl,rfl⟩:=hq;refine ⟨rfl,?_⟩;split at h
   ·rename_i env3 σ3 h3
    refine (hb _ _ _ _ _ h3).mono fun e4 env4 σ4 hq=>?_
    obtain ⟨rfl,rfl,rfl⟩:=hq;exact ⟨_,.inl rfl,Zce ha hb xs h⟩
   ·rename_i env3 σ3 h3
    cases h;refine (hb _ _ _ _ _ h3).mono fun e4 env4 σ4 hq=>?_
    obtain ⟨rfl,rfl,rfl⟩:=hq;exact ⟨rfl,rfl,rfl⟩
   ·rename_i id env3 σ3 h3
    cases h;refine (hb _ _ _ _ _ h3).mono fun e4 env4 σ4 hq=>?_
    obtain ⟨rfl,rfl,rfl⟩:=hq;exact ⟨rfl,rfl,rfl⟩
   ·cases h
  ·cases h
theorem Zz {T:Tab} (hT:TabOK P T) {ok:TypeId->Bool} (hok:EqOK P ok) {cf:CF} (hcf:CFOK P cf) {pc:PC} (hpc:PCOK P pc) {it:ITab} (hit:∀ g c0 c1 xs,it g c0 c1=some xs->ItOK P g c0 c1 xs) (hm:P.follows .mixedOrders=true) {lim:Nat} :
  ∀ (c:Code) (env:Env) (σ:St) (e:Exit) (env' : Env) (σ' : St),Xc T ok cf pc it lim N c env σ=some (e,env',σ')->Awp P N c env σ (Is e env' σ')
 | .skip,env,σ,e,env',σ',h=>by simp only [Xc,Qf,Rl] at h; obtain ⟨rfl,rfl,rfl⟩:=h; exact Ydk ⟨rfl,rfl,rfl⟩
 | .region id ops draw,env,σ,e,env',σ',h=>by
  cases draw with
  | false =>
   simp only [Xc] at h;obtain ⟨h1,h⟩:=Zf h;split at h
   ·rename_i env1 σ1 h2
    cases h;exact Zwo (Yes hT hok) h1 (Zgf hcf _ h2 ⟨rfl,rfl,rfl⟩)
   ·cases h
  | true =>
   simp only [Xc] at h;split at h
   ·rename_i env1 σ1 h2
    cases h;exact Zob hT hok hpc hm h2
   ·cases h
 | .seq x y,env,σ,e,env',σ',h=>by
  simp only [Xc] at h
  refine Zs9 ?_
  split at h
  ·rename_i env1 σ1 h1
   refine (Zz hT hok hcf hpc hit hm x _ _ _ _ _ h1).mono fun e2 env2 σ2 hq=>?_
   obtain ⟨rfl,rfl,rfl⟩:=hq;exact Zz hT hok hcf hpc hit hm y _ _ _ _ _ h
  ·rename_i id env1 σ1 h1
   cases h;refine (Zz hT hok hcf hpc hit hm x _ _ _ _ _ h1).mono fun e2 env2 σ2 hq=>?_
   obtain ⟨rfl,rfl,rfl⟩:=hq;exact ⟨rfl,rfl,rfl⟩
  ·rename_i env1 σ1 h1
   cases h;refine (Zz hT hok hcf hpc hit hm x _ _ _ _ _ h1).mono fun e2 env2 σ2 hq=>?_
   obtain ⟨rfl,rfl,rfl⟩:=hq;exact ⟨rfl,rfl,rfl⟩
  ·cases h
 | .cond c x y,env,σ,e,env',σ',h=>by
  simp only [Xc] at h
  split at h
  ·rename_i hb; exact Zva hb (Zz hT hok hcf hpc hit hm x _ _ _ _ _ h)
  ·rename_i hb; exact Zva hb (Zz hT hok hcf hpc hit hm y _ _ _ _ _ h)
  ·cases h
 | .block id c,env,σ,e,env',σ',h=>by
  simp only [Xc] at h
  refine Yap ?_
  split at h
  ·rename_i id' env1 σ1 h1
   cases h;refine (Zz hT hok hcf hpc hit hm c _ _ _ _ _ h1).mono fun e2 env2 σ2 hq=>?_
   obtain ⟨rfl,rfl,rfl⟩:=hq;simp only [Zew];cases Qp id' id<;>exact ⟨rfl,rfl,rfl⟩
  ·rename_i env1 σ1 h1
   cases h;refine (Zz hT hok hcf hpc hit hm c _ _ _ _ _ h1).mono fun e2 env2 σ2 hq=>?_
   obtain ⟨rfl,rfl,rfl⟩:=hq;exact ⟨rfl,rfl,rfl⟩
  ·rename_i env1 σ1 h1
   cases h;refine (Zz hT hok hcf hpc hit hm c _ _ _ _ _ h1).mono fun e2 env2 σ2 hq=>?_
   obtain ⟨rfl,rfl,rfl⟩:=hq;exact ⟨rfl,rfl,rfl⟩
  ·cases h
 | .loop c,env,σ,e,env',σ',h=>by
  simp only [Xc] at h
  exact Zk0 (Zi8 (fun env σ e env' σ' h=>Zz hT hok hcf hpc hit hm c env σ e env' σ' h) lim h)
 | .rangeFunc f ps x y,env,σ,e,env',σ',h=>by
  simp only [Xc] at h
  refine Zo9 hit ?_
  unfold Ya7
  have hx:∀ env σ e env' σ',Xc T ok cf pc it lim N x env σ=some (e,env',σ')->Awp P N x env σ (Is e env' σ'):=fun env σ e env' σ' h=>Zz hT hok hcf hpc hit hm x env σ e env' σ' h
  have hy:∀ env σ e env' σ',Xc T ok cf pc it lim N y env σ=some (e,env',σ')->Awp P N y env σ (Is e env' σ'):=fun env σ e env' σ' h=>Zz hT hok hcf hpc hit hm y env σ e env' σ' h
  split at h
  ·rename_i g c0 c1 hev
   try rw [hev]
   try dsimp only
   split at h
   ·rename_i p0 p1 h0 h1
    try rw [h0,h1]
    try dsimp only [Got]
    split at h
    ·rename_i xs hxs
     try rw [hxs]
     try dsimp only [Got]
     obtain ⟨h2,h⟩:=Zf h
     try rw [h2]
     try simp only [cond_true]
     split at h
     ·rename_i hl
      try rw [hl]
      exact Zce hx hy xs h
     ·rename_i a l hl
      try rw [hl]
      obtain ⟨h3,h⟩:=Zf h
      try dsimp only
      try rw [h3]
      exact Zce hx hy xs h
    ·cases h
   ·cases h
  ·cases h
 | .exit id,env,σ,e,env',σ',h=>by simp only [Xc,Qf,Rl] at h; obtain ⟨rfl,rfl,rfl⟩:=h; exact Ydl ⟨rfl,rfl,rfl⟩
 | .ret,env,σ,e,env',σ',h=>by simp only [Xc,Qf,Rl] at h; obtain ⟨rfl,rfl,rfl⟩:=h; exact Yao ⟨rfl,rfl,rfl⟩
 | .scope _,_,_,_,_,_,h=>by simp [Xc] at h
 | .label _,_,_,_,_,_,h=>by simp [Xc] at h
 | .goto _,_,_,_,_,_,h=>by simp [Xc] at h
 | .refuse _,_,_,_,_,_,h=>by simp [Xc] at h
variable {P:Program} {N:Nat}
mutual
theorem Zvv (f:Nat->Nat):∀ (v:AV),Yb v=true->Zl f v=v
 | .any,_=>rfl
 | .bool _,_=>rfl
 | .int _ _,_=>rfl
 | .flt _ _,_=>rfl
 | .cpx _ _ _,_=>rfl
 | .val _ _ _,_=>rfl
 | .str _,_=>rfl
 | .ptr _ _ _,h=>by simp [Yb] at h
 | .ipt _,_=>rfl
 | .nilp,_=>rfl
 | .nils,_=>rfl
 | .asl _ _ _,h=>by simp [Yb] at h
 | .bsl _ _ _ _ _,h=>by simp [Yb] at h
 | .isl _ _,_=>rfl
 | .amap _,h=>by simp [Yb] at h
 | .func g c0 c1,h=>by
  simp only [Yb,Qc] at h
  simp only [Zl,Zek f c0 h.1,Zek f c1 h.2]
 | .yld _,_=>rfl
 | .agg cs,h=>by simp only [Yb] at h; simp only [Zl,Zek f cs h]
 | .tup cs,h=>by simp only [Yb] at h; simp only [Zl,Zek f cs h]
theorem Zek (f:Nat->Nat):∀ (cs:List AV),Yk cs=true->renL f cs=cs
 | [],_=>rfl
 | c::cs,h=>by
  simp only [Yk,Qc] at h
  simp only [renL,Zvv f c h.1,Zek f cs h.2]
end
mutual
theorem Zwa (m:Nat):∀ (v:AV),Yb v=true->Vj m v=true
 | .any,_=>rfl
 | .bool _,_=>rfl
 | .int _ _,_=>rfl
 | .flt _ _,_=>rfl
 | .cpx _ _ _,_=>rfl
 | .val _ _ _,_=>rfl
 | .str _,_=>rfl
 | .ptr _ _ _,h=>by simp [Yb] at h
 | .ipt _,_=>rfl
 | .nilp,_=>rfl
 | .nils,_=>rfl
 | .asl _ _ _,h=>by simp [Yb] at h
 | .bsl _ _ _ _ _,h=>by simp [Yb] at h
 | .isl _ _,_=>rfl
 | .amap _,h=>by simp [Yb] at h
 | .func g c0 c1,h=>by
  simp only [Yb,Qc] at h
  simp only [Vj,Zbo m c0 h.1,Zbo m c1 h.2,Qcg]
 | .yld _,_=>rfl
 | .agg cs,h=>by simp only [Yb] at h; simp only [Vj,Zbo m cs h]
 | .tup cs,h=>by simp only [Yb] at h; simp only [Vj,Zbo m cs h]
theorem Zbo (m:Nat):∀ (cs:List AV),Yk cs=true->Up m cs=true
 | [],_=>rfl
 | c::cs,h=>by
  simp only [Yk,Qc] at h
  simp only [Up,Zwa m c h.1,Zbo m cs h.2,Qcg]
end
def Yhx (n0:Nat):ABlk->Bool
 | .row _ elems _ pu=>pu||elems.all (Up n0)
 | .map _=>false
 | _=>true
def Zg8 {α:Type} (n0:Nat):List (Nat × α)->List (Nat × α)
 | []=>[]
 | p::l=>cond (Ww p.1 n0) (p::Zg8 n0 l) (Zg8 n0 l)
theorem Zig (n0:Nat):∀ (l:List (Nat × ABlk)) (i:Nat),hget (Zg8 n0 l) i=hget l i\/hget (Zg8 n0 l) i = .dead
 | [],i=>.inl rfl
 | (j,b)::l,i=>by
  simp only [Zg8]
  cases hb:Ww j n0 with
  | true =>
   simp only [cond_true,Zbp]
   by_cases h:i=j
   ·simp [h]
   ·simp only [h,if_false]; exact Zig n0 l i
  | false =>
   simp only [cond_false,Zbp]
   by_cases h:i=j
   ·right
    have key:∀ (l:List (Nat × ABlk)),hget (Zg8 n0 l) i = .dead:=by
     intro l
     induction l with
     | nil=>rfl
     | cons p l ih =>
      obtain ⟨q,c⟩:=p;simp only [Zg8]
      cases hq:Ww q n0 with
      | true =>
       simp only [cond_true,Zbp];have:i≠q:=fun e=>by subst e; rw [h] at hq; rw [hb] at hq; cases hq
       simp only [this,if_false]; exact ih
      | false=>exact ih
    exact key l
   ·simp only [h,if_false]; exact Zig n0 l i
def gcS (n0:Nat) (v:AV) (σ:St):St :=
 let hp:=dedA 0 σ.heap
 let old:=Zg8 n0 hp
 cond (Yb v&&old.all (fun p=>Yhx n0 p.2)) { σ with heap:=old } { σ with heap:=hp }
theorem Zwf (n0:Nat) (v:AV) (σ:St):(∀ i,(gcS n0 v σ).get i=σ.get i\/(gcS n0 v σ).get i = .dead)/\(gcS n0 v σ).next=σ.next:=by
 unfold gcS
 dsimp only
 cases Yb v&&(Zg8 n0 (dedA 0 σ.heap)).all (fun p=>Yhx n0 p.2) with
 | true =>
  refine ⟨fun i=>?_,rfl⟩
  rcases Zig n0 (dedA 0 σ.heap) i with h|h
  ·exact .inl (h.trans (Zhj σ.heap 0 i (by simp)))
  ·exact .inr h
 | false=>exact ⟨fun i=>.inl (Zhj σ.heap 0 i (by simp)),rfl⟩
theorem SemCall.forgets {f:FuncId} {args:List AV} {σ:St} {K K' : AV->St->Prop} (h:SemCall P f args σ K) (hk:∀ v σ,K v σ->∃ σ',((∀ i,σ'.get i=σ.get i\/σ'.get i = .dead)/\σ'.next=σ.next)/\K' v σ'):SemCall P f args σ K' :=
 fun B w0 I0 pr r I D w vs H hv=>(h B w0 I0 pr r I D w vs H hv).mono fun e w' ⟨x,v,σ',r',I',D',h1,h2,h3,h4⟩=>by
  obtain ⟨σ2,hf,h5⟩:=hk _ _ h2
  exact ⟨x,v,σ2,r',I',D',h1,h5,by have:=h3.kills hf.1; rw [hf.2]; exact this,h4⟩
def Yem (T:Tab) (ok:TypeId->Bool) (cf:CF) (pc:PC) (it:ITab) (lim:Nat) (fn:Func) (args:List AV) (σ:St):Option (AV × St) :=
 match fn.body with
 | some c=>cond (Se args.length fn.ntmps) (match Xc T ok cf pc it lim fn.ntmps c (env0 0 args) σ with
  | some (.normal,env,σ')=>match Zcg T env σ'.get fn.results.toList with
   | some vs=>some (resV vs,gcS σ.next (resV vs) σ')
   | none=>none
  | some (.ret,env,σ')=>match Zcg T env σ'.get fn.results.toList with
   | some vs=>some (resV vs,gcS σ.next (resV vs) σ')
   | none=>none
  | _=>none) none
 | none=>none
def idxN:List Nat->Nat->Nat
 | [],_=>0
 | a::l,i=>cond (Qp i a) 0 (idxN l i+1)
theorem Zcq:∀ {ids:List Nat} {i:Nat},memN ids i=true->listed ids (idxN ids i)=i
 | [],_,h=>by simp [memN] at h
 | a::l,i,h=>by
  simp only [idxN]
  cases hb:Qp i a with
  | true=>rw [Qh hb]; rfl
  | false =>
   simp only [memN,hb,Bool.false_or] at h;exact Zcq h
mutual
def Zft (ids:List Nat):AV->Bool
 | .ptr id _ _ | .asl id _ _ | .bsl id _ _ _ _ | .amap id=>memN ids id
 | .func _ c0 c1=>Zge ids c0&&Zge ids c1
 | .agg cs=>Zge ids cs
 | .tup cs=>Zge ids cs
 | _=>true
def Zge (ids:List Nat):List AV->Bool
 | []=>true
 | c::cs=>Zft ids c&&Zge ids cs
end
mutual
theorem Ztw {ids:List Nat}:∀ (v:AV),Zft ids v=true->Zl (listed ids) (Zl (idxN ids) v)=v
 | .any,_=>rfl
 | .bool _,_=>rfl
 | .int _ _,_=>rfl
 | .flt _ _,_=>rfl
 | .cpx _ _ _,_=>rfl
 | .val _ _ _,_=>rfl
 | .str _,_=>rfl
 | .ptr _ _ _,h=>by simp only [Zft] at h; simp only [Zl,Zcq h]
 | .ipt _,_=>rfl
 | .nilp,_=>rfl
 | .nils,_=>rfl
 | .asl _ _ _,h=>by simp only [Zft] at h; simp only [Zl,Zcq h]
 | .bsl _ _ _ _ _,h=>by simp only [Zft] at h; simp only [Zl,Zcq h]
 | .isl _ _,_=>rfl
 | .amap _,h=>by simp only [Zft] at h; simp only [Zl,Zcq h]
 | .func g c0 c1,h=>by
  simp only [Zft,Qc] at h
  simp only [Zl,Zej c0 h.1,Zej c1 h.2]
 | .yld _,_=>rfl
 | .agg cs,h=>by simp only [Zft] at h; simp only [Zl,Zej cs h]
 | .tup cs,h=>by simp only [Zft] at h; simp only [Zl,Zej cs h]
theorem Zej {ids:List Nat}:∀ (cs:List AV),Zge ids cs=true->renL (listed ids) (renL (idxN ids) cs)=cs
 | [],_=>rfl
 | c::cs,h=>by
  simp only [Zge,Qc] at h
  simp only [renL,Ztw c h.1,Zej cs h.2]
end
mutual
def Zv9:AV->List Nat
 | .ptr id _ _ | .asl id _ _ | .bsl id _ _ _ _ | .amap id=>[id]
 | .func _ c0 c1=>Zp7 c0++Zp7 c1
 | .agg cs=>Zp7 cs
 | .tup cs=>Zp7 cs
 | _=>[]
def Zp7:List AV->List Nat
 | []=>[]
 | c::cs=>Zv9 c++Zp7 cs
end
def uniq:List Nat->List Nat->List Nat
 | acc,[]=>acc.reverse
 | acc,a::l=>cond (memN acc a) (uniq acc l) (uniq (a::acc) l)
def Zpn:List Nat->Bool
 | []=>true
 | a::l=>!memN l a&&Zpn l
theorem Yf4 {l:List Nat} {t:Nat} (h:t∈l):memN l t=true:=by
 induction l with
 | nil=>simp at h
 | cons a l ih =>
  simp only [memN,Bool.or_eq_true]
  rcases Rb.1 h with rfl|h
  ·exact .inl (Nat.beq_refl _)
  ·exact .inr (ih h)
theorem Zf9:∀ {l:List Nat},Zpn l=true->l.Nodup
 | [],_=>.nil
 | a::l,h=>by
  simp only [Zpn,Qc,Bool.not_eq_true'] at h
  refine List.nodup_cons.2 ⟨fun hm=>?_,Zf9 h.2⟩
  rw [Yf4 hm] at h; cases h.1
def tag1 (b:ABlk):ABlk:=match b with
 | .row es elems mt pu=>cond pu (.row es elems mt true) (cond (elems.all Yk) (.row es elems mt true) (.row es elems mt pu))
 | b=>b
def tagS (σ:St):St:={ σ with heap:=σ.heap.map fun p=>(p.1,tag1 p.2) }
theorem Ybe (σ:St) (i:Nat):(tagS σ).get i=tag1 (σ.get i):=by
 simp only [St.get,tagS]
 induction σ.heap with
 | nil=>rfl
 | cons p l ih =>
  obtain ⟨j,b⟩:=p
  simp only [List.map_cons,Zbp,ih]
  split<;>rfl
theorem HR.tag {B:Nat} {w0:World} {I0:Imm} {pr:Nat->Obj->Prop} {r:Locs} {I:Imm} {D:Nat->Prop} {h:Nat->ABlk} {n:Nat} {w:World} (H:HR B w0 I0 pr r I D h n w) {h' : Nat->ABlk} (hk:∀ i,h' i=tag1 (h i)):HR B w0 I0 pr r I D h' n w:=by
 have hl:∀ i,(h' i).live=(h i).live:=by
  intro i
  rw [hk]
  cases h i with
  | row es elems mt pu=>simp only [tag1]; cases pu<;>cases elems.all Yk<;>rfl
  | _=>rfl
 refine ⟨H.below,H.base,H.imm,H.dom,fun i hi=>H.live i (by rwa [hl] at hi),fun i=>?_,fun i j hi hj=>H.inj i j (by rwa [hl] at hi) (by rwa [hl] at hj),H.prot,fun b o hp=>⟨fun i hi=>(H.protK b o hp).1 i (by rwa [hl] at hi),(H.protK b o hp).2⟩,H.immB⟩
 rw [hk]
 have hB:=H.blk i
 cases hb:h i with
 | row es elems mt pu =>
  rw [hb] at hB
  simp only [tag1]
  cases hpu:pu with
  | true=>rw [hpu] at hB; exact hB
  | false =>
  rw [hpu] at hB
  cases hp:elems.all Yk with
  | false=>exact hB
  | true =>
   obtain ⟨h1,h2,h3,cs,T,fz,h4,h5,h6,h7,h8⟩:=hB;refine ⟨h1,h2,h3,cs,T,fz,h4,h5,fun i e j c hi hj=>?_,h7,h8⟩;obtain ⟨v,a,b⟩:=h6 i e j c hi hj;have hpe:=Rj.1 hp e (List.mem_of_getElem? hi);exact ⟨v,a,(b.pure (Vn hpe hj)).weak fun _ h=>h.elim⟩
 | _=>rw [hb] at hB; exact hB
theorem SemCall.tag {f:FuncId} {args:List AV} {σ:St} {K K' : AV->St->Prop} (h:SemCall P f args σ K) (hk:∀ v σ,K v σ->K' v (tagS σ)):SemCall P f args σ K' :=
 fun B w0 I0 pr r I D w vs H hv=>(h B w0 I0 pr r I D w vs H hv).mono fun e w' ⟨x,v,σ',r',I',D',h1,h2,h3,h4⟩ =>
  ⟨x,v,tagS σ',r',I',D',h1,hk _ _ h2,h3.tag (Ybe σ'),h4⟩
def Zmh (σ:St):List Nat->Option (List (Nat × List (List AV)))
 | []=>some []
 | i::l=>match σ.get i,Zmh σ l with
  | .row es elems true true,some rs=>some ((es,elems)::rs)
  | _,_=>none
theorem Zf3 {σ:St}:∀ {ids:List Nat} {rs:List (Nat × List (List AV))},Zmh σ ids=some rs->ids.length=rs.length/\∀ (j:Nat) (p:Nat × List (List AV)),rs[j]?=some p->σ.get (listed ids j) = .row p.1 p.2 true true
 | [],rs,h=>by simp only [Zmh,Qf] at h; subst h; exact ⟨rfl,fun j p hj=>by simp at hj⟩
 | i::l,rs,h=>by
  simp only [Zmh] at h
  split at h
  ·rename_i es elems rs' h1 h2
   cases h;obtain ⟨g1,g2⟩:=Zf3 h2;refine ⟨by simp [g1],fun j p hj=>?_⟩
   cases j with
   | zero=>simp at hj; subst hj; exact h1
   | succ j=>exact g2 j p (by simpa using hj)
  ·cases h
def pcF (cf:CF):PC:=fun f args=>match cf f args ⟨[],0⟩ with
 | some (v,σ)=>match Zmh (tagS σ) (uniq [] (Zv9 v)) with
  | some rs=>cond (Zpn (uniq [] (Zv9 v))&&Zft (uniq [] (Zv9 v)) v&&Vj rs.length (Zl (idxN (uniq [] (Zv9 v))) v)) (some ⟨Zl (idxN (uniq [] (Zv9 v))) v,rs⟩) none
  | none=>none
 | none=>none
mutual
theorem Zvj {h:Nat->ABlk} {rv:List AV->Option (List AV × List Nat)}:∀ (v:AV),Yb v=true->Vk rv h v=some (v,[])
 | .any,_=>rfl
 | .bool _,_=>rfl
 | .int _ _,_=>rfl
 | .flt _ _,_=>rfl
 | .cpx _ _ _,_=>rfl
 | .val _ _ _,_=>rfl
 | .str _,_=>rfl
 | .ptr _ _ _,h=>by simp [Yb] at h
 | .ipt _,_=>rfl
 | .nilp,_=>rfl
 | .nils,_=>rfl
 | .asl _ _ _,h=>by simp [Yb] at h
 | .bsl _ _ _ _ _,h=>by simp [Yb] at h
 | .isl _ _,_=>rfl
 | .amap _,h=>by simp [Yb] at h
 | .func g c0 c1,hp=>by
  simp only [Yb,Qc] at hp
  simp only [Vk,Ux c0 hp.1,Ux c1 hp.2,Tx]
 | .yld _,_=>rfl
 | .agg cs,hp=>by simp only [Yb] at hp; simp only [Vk,Ux cs hp]
 | .tup cs,hp=>by simp only [Yb] at hp; simp only [Vk,Ux cs hp]
theorem Ux {h:Nat->ABlk} {rv:List AV->Option (List AV × List Nat)}:∀ (args:List AV),Yk args=true->Zbc rv h args=some (args,[])
 | [],_=>rfl
 | c::cs,hp=>by
  simp only [Yk,Qc] at hp
  simp only [Zbc,Zvj c hp.1,Ux cs hp.2,Tx]
end
theorem Zvk {h:Nat->ABlk} (args:List AV) (hp:Yk args=true):Zal h args=some (args,[]):=Ux args hp
def Yeo:IntKind->IntKind->Bool
 | .i8,.i8 | .i16,.i16 | .i32,.i32 | .i64,.i64 | .u8,.u8 | .u16,.u16 | .u32,.u32 | .u64,.u64=>true
 | _,_=>false
theorem Zzq {a b:IntKind} (h:Yeo a b=true):a=b:=by cases a<;>cases b<;>first|rfl|cases h
def Zsu:FloatKind->FloatKind->Bool
 | .f32,.f32 | .f64,.f64=>true
 | _,_=>false
theorem Zm4 {a b:FloatKind} (h:Zsu a b=true):a=b:=by cases a<;>cases b<;>first|rfl|cases h
def eqI:Int->Int->Bool
 | .ofNat a,.ofNat b=>Qp a b
 | .negSucc a,.negSucc b=>Qp a b
 | _,_=>false
theorem Yjt {a b:Int} (h:eqI a b=true):a=b:=by
 cases a<;>cases b<;>simp only [eqI,Ro] at h
 ·rw [Qh h]
 ·rw [Qh h]
def eqU:List UInt8->List UInt8->Bool
 | [],[]=>true
 | a::l,b::m=>Qp a.toNat b.toNat&&eqU l m
 | _,_=>false
theorem Yen:∀ {a b:List UInt8},eqU a b=true->a=b
 | [],[],_=>rfl
 | a::l,b::m,h=>by
  simp only [eqU,Qc] at h
  rw [UInt8.toNat_inj.1 (Qh h.1),Yen h.2]
 | [],_::_,h=>by simp [eqU] at h
 | _::_,[],h=>by simp [eqU] at h
def eqS (a b:ByteArray):Bool:=eqU a.data.toList b.data.toList
theorem Yjs {a b:ByteArray} (h:eqS a b=true):a=b:=by
 obtain ⟨⟨a⟩⟩:=a
 obtain ⟨⟨b⟩⟩:=b
 have e:a=b:=Yen h
 rw [e]
mutual
def eqA:AV->AV->Bool
 | .any,.any=>true
 | .bool a,.bool b=>cond a b (!b)
 | .int k a,.int l b=>Yeo k l&&eqI a b
 | .flt k a,.flt l b=>Zsu k l&&Qp a b
 | .cpx k a a2,.cpx l b b2=>Zsu k l&&(Qp a b&&Qp a2 b2)
 | .str a,.str b=>eqS a b
 | .ipt a,.ipt b=>eqL a b
 | .nilp,.nilp=>true
 | .nils,.nils=>true
 | .isl n a,.isl m b=>Qp n m&&eqLL a b
 | .func f a b,.func g c d=>Qp f g&&(eqL a c&&eqL b d)
 | .agg a,.agg b=>eqL a b
 | .tup a,.tup b=>eqL a b
 | _,_=>false
def eqL:List AV->List AV->Bool
 | [],[]=>true
 | a::l,b::m=>eqA a b&&eqL l m
 | _,_=>false
def eqLL:List (List AV)->List (List AV)->Bool
 | [],[]=>true
 | a::l,b::m=>eqL a b&&eqLL l m
 | _,_=>false
end
mutual
theorem Yep:∀ (a b:AV),eqA a b=true->a=b:=by
 intro a b h
 cases a<;>cases b<;>simp only [eqA,Ro,Qc] at h
 case any.any=>rfl
 case bool.bool a b=>cases a<;>cases b<;>first|rfl|cases h
 case int.int=>rw [Zzq h.1,Yjt h.2]
 case flt.flt=>rw [Zm4 h.1,Qh h.2]
 case cpx.cpx=>rw [Zm4 h.1,Qh h.2.1,Qh h.2.2]
 case str.str=>rw [Yjs h]
 case ipt.ipt=>rw [Zi9 _ _ h]
 case nilp.nilp=>rfl
 case nils.nils=>rfl
 case isl.isl=>rw [Qh h.1,Zzp _ _ h.2]
 case func.func=>rw [Qh h.1,Zi9 _ _ h.2.1,Zi9 _ _ h.2.2]
 case agg.agg=>rw [Zi9 _ _ h]
 case tup.tup=>rw [Zi9 _ _ h]
theorem Zi9:∀ (a b:List AV),eqL a b=true->a=b
 | [],[],_=>rfl
 | a::l,b::m,h=>by
  simp only [eqL,Qc] at h
  rw [Yep a b h.1,Zi9 l m h.2]
 | [],_::_,h=>by simp [eqL] at h
 | _::_,[],h=>by simp [eqL] at h
theorem Zzp:∀ (a b:List (List AV)),eqLL a b=true->a=b
 | [],[],_=>rfl
 | a::l,b::m,h=>by
  simp only [eqLL,Qc] at h
  rw [Zi9 a b h.1,Zzp l m h.2]
 | [],_::_,h=>by simp [eqLL] at h
 | _::_,[],h=>by simp [eqLL] at h
end
variable {P:Program} {N:Nat}
def Zzk (pt:PC) (f:FuncId) (args:List AV) (σ:St):Option (AV × St) :=
 match Zal σ.get args with
 | some (vas,l)=>match pt f vas with
  | some res=>match l with
   | []=>some (Zl (fun j=>σ.next+j) res.v,Zfk σ res.blks)
   | a::l=>match Vh res.v,res.blks with
    | true,[]=>some (res.v,σ)
    | _,_=>cond (mutL σ.get (a::l)) (some (Zl (fun j=>σ.next+j) res.v,Zfk (Vq σ (a::l)) res.blks)) none
  | none=>none
 | none=>none
theorem Zqt {pt:PC} (hpt:PCOK P pt) {f:FuncId} {args:List AV} {σ:St} {v:AV} {σ' : St} (h:Zzk pt f args σ=some (v,σ')):FnOK P f/\SemCall P f args σ fun v2 σ2=>v2=v/\σ2=σ':=by
 refine Zb2 (pc:=pt f) (fun aZ res hr=>hpt f aZ res hr) ?_
 unfold Zzk at h
 unfold Yag
 split at h
 ·rename_i vas l hv
  rw [hv]
  dsimp only [Got]
  split at h
  ·rename_i res hres
   rw [hres];dsimp only [Got];split at h
   ·cases h; exact ⟨rfl,rfl⟩
   ·split at h
    ·rename_i h1 h2
     cases h;rw [h1,h2];exact ⟨rfl,rfl⟩
    ·rename_i h1
     obtain ⟨hm,h⟩:=Zf h;cases h;dsimp only;split
     ·rename_i g1 g2
      exact (h1 g1 g2).elim
     ·rw [hm]; exact ⟨rfl,rfl⟩
  ·cases h
 ·cases h
def exG (P:Program) (T:Tab) (ok:TypeId->Bool) (it:ITab) (xs:FuncId->Bool) (pt:PC) (lim:Nat):Nat->CF
 | 0=>fun _ _ _=>none
 | d+1=>fun f args σ=>match cond (xs f) (Zzk pt f args σ) none with
  | some r=>some r
  | none=>match P.funcs[f]? with
   | some fn=>cond (fn.name == "runtime.NumGoroutine") none
    (Yem T ok (exG P T ok it xs pt lim d) (pcF (exG P T ok it xs pt lim d)) it lim fn args σ)
   | none=>none
theorem Ydz {cf:CF} (ih:CFOK P cf):PCOK P (pcF cf):=by
 intro f args res hr
 unfold pcF at hr
 split at hr
 ·rename_i v σ' hx
  split at hr
  ·rename_i rs hrs
   obtain ⟨hp,hr⟩:=Zf hr;cases hr;simp only [Qc] at hp;obtain ⟨⟨hp1,hp2⟩,hp3⟩:=hp;obtain ⟨h1,h2⟩:=ih _ _ _ _ _ hx;obtain ⟨g1,g2⟩:=Zf3 hrs;refine Zen h1 hp3 (h2.tag fun v2 σ2 hq=>?_);obtain ⟨rfl,rfl⟩:=hq;exact ⟨_,Zf9 hp1,g1,(Ztw _ hp2).symm,g2⟩
  ·cases hr
 ·cases hr
theorem Zqp {T:Tab} (hT:TabOK P T) {ok:TypeId->Bool} (hok:EqOK P ok) {it:ITab} (hit:∀ g c0 c1 xs,it g c0 c1=some xs->ItOK P g c0 c1 xs) (hm:P.follows .mixedOrders=true) {xs:FuncId->Bool} {pt:PC} (hpt:PCOK P pt) {lim:Nat} :
  ∀ d,CFOK P (exG P T ok it xs pt lim d)
 | 0=>fun f args σ v σ' h=>by simp [exG] at h
 | d+1=>fun f args σ v σ' h=>by
  have ih:=Zqp hT hok hit hm hpt (xs:=xs) (lim:=lim) d
  have hpc:PCOK P (pcF (exG P T ok it xs pt lim d)):=Ydz ih
  simp only [exG] at h
  split at h
  ·rename_i v1 hx
   cases h
   cases hxs:xs f with
   | false=>rw [hxs] at hx; cases hx
   | true=>rw [hxs] at hx; exact Zqt hpt hx
  ·split at h
   ·rename_i fn hfn
    cases hn:fn.name == "runtime.NumGoroutine" with
    | true=>rw [hn] at h; cases h
    | false =>
     rw [hn] at h;simp only [cond_false] at h;unfold Yem at h;split at h
     ·rename_i c hb
      obtain ⟨hle,h⟩:=Zf h;have hle:=Qm hle;refine ⟨⟨fn,hfn,hn,by rw [hb]; rfl⟩,?_⟩
      have main:∀ e env1 σ1 vs,(e = .normal\/e = .ret)->Xc T ok (exG P T ok it xs pt lim d) (pcF (exG P T ok it xs pt lim d)) it lim fn.ntmps c (env0 0 args) σ=some (e,env1,σ1)->Zcg T env1 σ1.get fn.results.toList=some vs->(resV vs,gcS σ.next (resV vs) σ1)=(v,σ') ->
        SemCall P f args σ fun v2 σ2=>v2=v/\σ2=σ':=by
       intro e env1 σ1 vs he hx hr heq;cases heq;refine SemCall.forgets (K:=fun v2 σ2=>v2=resV vs/\σ2=σ1) (Zu6 hT hfn hb hle ((Zz hT hok ih hpc hit hm c _ _ _ _ _ hx).mono fun e2 env2 σ2 hq=>?_)) (fun v2 σ2 hq=>?_)
       ·obtain ⟨rfl,rfl,rfl⟩:=hq
        rcases he with rfl|rfl
        ·exact Sw hr ⟨rfl,rfl⟩
        ·exact Sw hr ⟨rfl,rfl⟩
       ·obtain ⟨rfl,rfl⟩:=hq
        exact ⟨_,Zwf _ _ _,rfl,rfl⟩
      split at h
      ·rename_i env1 σ1 hx
       split at h
       ·rename_i vs hr
        exact main _ _ _ _ (.inl rfl) hx hr (Sv h)
       ·cases h
      ·rename_i env1 σ1 hx
       split at h
       ·rename_i vs hr
        exact main _ _ _ _ (.inr rfl) hx hr (Sv h)
       ·cases h
      ·cases h
     ·cases h
   ·cases h
theorem Yb6 {cf:CF} (ih:CFOK P cf) {f:FuncId} {args:List AV} {res:PRes} (h:pcF cf f args=some res):PCall P f args res:=Ydz ih f args res h
variable {P:Program} {N:Nat}
def SC (P:Program) (f:FuncId) (args:List AV) (σ:St) (K:AV->St->Prop):Prop:=FnOK P f/\SemCall P f args σ K
def cxP (P:Program) (T:Tab) (ok:TypeId->Bool) (sx:FuncId->Bool) (pc:PC):Cx:=⟨T,ok,fun f args σ K=>cond (sx f) (SC P f args σ K) (Yag (pc f) args σ K)⟩
theorem Zm7 {T:Tab} {ok:TypeId->Bool} {sx:FuncId->Bool} {pc:PC} (hT:TabOK P T) (hok:EqOK P ok) (hpc:PCOK P pc):CxOK P (cxP P T ok sx pc) :=
 ⟨hT,hok,fun f args σ K h=>by
  simp only [cxP] at h
  cases hs:sx f with
  | true=>rw [hs] at h; exact h
  | false=>rw [hs] at h; exact Zb2 (fun aZ res hr=>hpc f aZ res hr) h⟩
def hdP (P:Program) (T:Tab) (ok:TypeId->Bool) (sx:FuncId->Bool) (pc:PC) (N:Nat):Hd :=
 ⟨fun c env σ Q=>Awp P N (.loop c) env σ Q,fun f ps x y env σ Q=>Awp P N (.rangeFunc f ps x y) env σ Q,fun ops env σ K=>Zgp (cxP P T ok sx pc) pc N ops env σ K⟩
theorem Yef {T:Tab} {ok:TypeId->Bool} {sx:FuncId->Bool} {pc:PC} (hT:TabOK P T) (hok:EqOK P ok) (hpc:PCOK P pc) (hm:P.follows .mixedOrders=true) (N:Nat):HdOK P N (hdP P T ok sx pc N) :=
 ⟨fun _ _ _ _ h=>h,fun _ _ _ _ _ _ _ h=>h,fun id ops env σ K h=>Zd9 (Zm7 hT hok hpc) hpc hm id ops env σ K h⟩
theorem FnOK.of {f:FuncId} {fn:Func} (hf:P.funcs[f]?=some fn) (h1:(fn.name == "runtime.NumGoroutine")=false) (h2:fn.body.isNone=false):FnOK P f:=⟨fn,hf,h1,h2⟩
structure Base (P:Program) where
 T:Tab
 ok:TypeId->Bool
 hT:TabOK P T
 hok:EqOK P ok
 hm:P.follows .mixedOrders=true
variable (Bs:Base P)
abbrev Base.body (sx:FuncId->Bool) (pc:PC) (fn:Func) (args:List AV) (σ:St) (K:AV->St->Prop):Prop:=Zci (cxP P Bs.T Bs.ok sx pc) (hdP P Bs.T Bs.ok sx pc) fn args σ K
abbrev Base.code (sx:FuncId->Bool) (pc:PC) (N:Nat) (c:Code) (env:Env) (σ:St) (Q:Exit->Env->St->Prop):Prop:=Zaz (cxP P Bs.T Bs.ok sx pc) N (hdP P Bs.T Bs.ok sx pc N) c env σ Q
theorem Base.pcall {sx:FuncId->Bool} {pc:PC} (hpc:PCOK P pc) {f:FuncId} {fn:Func} (hf:P.funcs[f]?=some fn) (h1:(fn.name == "runtime.NumGoroutine")=false) (h2:fn.body.isNone=false)
  {args:List AV} {res:PRes} (hids:Vj res.blks.length res.v=true) (hv:Bs.body sx pc fn args ⟨[],0⟩ (Zdv res)):PCall P f args res :=
 Znw (Zm7 Bs.hT Bs.hok hpc) (fun N=>Yef Bs.hT Bs.hok hpc Bs.hm N) hf (FnOK.of hf h1 h2) hids hv
theorem Base.awp {sx:FuncId->Bool} {pc:PC} (hpc:PCOK P pc) {c:Code} {env:Env} {σ:St} {Q:Exit->Env->St->Prop} (hv:Bs.code sx pc N c env σ Q):Awp P N c env σ Q :=
 Yz (Zm7 Bs.hT Bs.hok hpc) (Yef Bs.hT Bs.hok hpc Bs.hm N) c env σ Q hv
def Zpx:List Nat->Env->Env
 | [],_=>[]
 | i::l,env=>(i,env.get i)::Zpx l env
theorem Zpw (env:Env):∀ (l:List Nat) (i:Nat),(Zpx l env).get i=env.get i\/(Zpx l env).get i = .any
 | [],i=>.inr rfl
 | j::l,i=>by
  simp only [Zpx,Wr]
  by_cases h:i=j
  ·subst h; simp
  ·simp only [h,if_false]; exact Zpw env l i
def Zye:List Nat->(Nat->ABlk)->List (Nat × ABlk)
 | [],_=>[]
 | i::l,h=>(i,h i)::Zye l h
theorem Zpv (h:Nat->ABlk):∀ (l:List Nat) (i:Nat),hget (Zye l h) i=h i\/hget (Zye l h) i = .dead
 | [],i=>.inr rfl
 | j::l,i=>by
  simp only [Zye,Zbp]
  by_cases e:i=j
  ·subst e; simp
  ·simp only [e,if_false]; exact Zpv h l i
def Yci (l:List Nat) (σ:St):St:=⟨Zye l σ.get,σ.next⟩
theorem Zk3 (l m:List Nat) (env:Env) (σ:St):Zhz env σ (Zpx l env) (Yci m σ):=⟨Zpw env l,fun i=>Zpv σ.get m i,rfl⟩
theorem As.p {p:Prop} [Decidable p] {A:Prop} (h:p) (k:A):As (decide p) A:=As.intro (decide_eq_true h) k
theorem As.np {p:Prop} [Decidable p] {A:Prop} (h:¬ p) (k:A):As (!decide p) A:=As.intro (by rw [decide_eq_false h]; rfl) k
theorem Br.dec {p:Prop} [Decidable p] {A A' : Prop} (h:p->A) (h' : ¬ p->A'):Br (decide p) A A':=Br.intro (fun e=>h (of_decide_eq_true e)) (fun e=>h' (of_decide_eq_false e))
theorem Zba {v:AV} {res:AV} {σ:St} (h:v=res) (hp:Zl (listed []) res=res):Zdv ⟨res,[]⟩ v σ:=by subst h; exact Zqn hp
theorem Zdp {k:IntKind} {n m:Int} {σ:St} (h:n=m):Zdv ⟨.int k m,[]⟩ (.int k n) σ:=Zba (by rw [h]) rfl
theorem Xb {n m:Bool} {σ:St} (h:n=m):Zdv ⟨.bool m,[]⟩ (.bool n) σ:=Zba (by rw [h]) rfl
variable {P:Program} {N B l:Nat} {Ig:Imm} {JX:Zs->(Nat->Prop)->World->Prop}
theorem IS.forget {z:Zs} {env env' : Env} {σ σ' : St} {a:Act} {w:World} (S:IS N B Ig JX z env σ a w) (h:Zhz env σ env' σ'):IS N B Ig JX z env' σ' a w:=by
 obtain ⟨⟨r,D,O,H,hO,E,hj⟩,hd⟩:=S
 have S':=SR.forget (B:=B) (w0:=w) (I0:=Ig) (pr:=prO B O w) (a:=a) ⟨H,E⟩ h
 exact ⟨⟨r,D,O,S'.hr,hO,S'.er,hj⟩,hd⟩
theorem AwpI.pre {c:Code} {env env' : Env} {σ σ' : St} {z:Zs} {Q:IQ} (hf:Zhz env σ env' σ') (h:AwpI P N B Ig JX c env' σ' z Q):AwpI P N B Ig JX c env σ z Q:=fun a w S=>h a w (S.forget hf)
theorem AwpI.forgets {c:Code} {env:Env} {σ:St} {z:Zs} {Q Q' : IQ} (h:AwpI P N B Ig JX c env σ z Q) (hq:∀ e env σ z,Q e env σ z->∃ env' σ',Zhz env σ env' σ'/\Q' e env' σ' z):AwpI P N B Ig JX c env σ z Q' :=
 fun a w S=>Rd (fun e a' w' ⟨env1,σ1,z1,q1,s1⟩=>by
  obtain ⟨env2,σ2,hf,q2⟩:=hq _ _ _ _ q1
  exact ⟨env2,σ2,z1,q2,s1.forget hf⟩) (h a w S)
theorem Zys {S:Type} (μ:S->Nat) (E:S->Env) (Y:S->St) (Z:S->Zs) (ks ms:List Nat) {c:Code} {Q:IQ} (G:S->Prop)
  (step:∀ s,G s->AwpI P N B Ig JX c (E s) (Y s) (Z s) (seqI (fun env' σ' z'=>∃ s',G s'/\μ s'<μ s/\Zpx ks env'=E s'/\Yci ms σ'=Y s'/\z'=Z s') Q))
  (s:S) (hs:G s) {env:Env} {σ:St} {z:Zs} (he:Zpx ks env=E s) (hy:Yci ms σ=Y s) (hz:z=Z s):AwpI P N B Ig JX (.loop c) env σ z Q:=by
 have key:∀ n s,μ s<n->G s->Ydo (AwpI P N B Ig JX) c Q n (E s) (Y s) (Z s):=by
  intro n
  induction n with
  | zero=>intro s h; omega
  | succ n ih =>
   intro s h hg;simp only [Ydo];refine (step s hg).forgets fun e env' σ' z' hq=>?_
   cases e with
   | normal =>
    obtain ⟨s',g',m',e1,e2,e3⟩:=hq;refine ⟨Zpx ks env',Yci ms σ',Zk3 _ _ _ _,?_⟩;simp only [seqI];rw [e1,e2,e3];exact ih s' (by omega) g'
   | exit id=>exact ⟨env',σ',⟨fun _=>.inl rfl,fun _=>.inl rfl,rfl⟩,hq⟩
   | goto l=>exact ⟨env',σ',⟨fun _=>.inl rfl,fun _=>.inl rfl,rfl⟩,hq⟩
   | ret=>exact ⟨env',σ',⟨fun _=>.inl rfl,fun _=>.inl rfl,rfl⟩,hq⟩
   | panic ch=>exact ⟨env',σ',⟨fun _=>.inl rfl,fun _=>.inl rfl,rfl⟩,hq⟩
   | outgrown=>exact ⟨env',σ',⟨fun _=>.inl rfl,fun _=>.inl rfl,rfl⟩,hq⟩
 have:=Zsb _ (key (μ s+1) s (by omega) hs)
 rw [<-he,<-hy,<-hz] at this
 exact AwpI.pre (Zk3 ks ms env σ) this
def Yk2 (T:Tab) (fn:Func):IQ:=fun e env' σ' z=>(e = .normal\/e = .ret)/\(z=some []\/z=none)/\∃ vs,Zcg T env' σ'.get fn.results.toList=some vs
variable (Bs:Base P)
abbrev Base.icode (Bs:Base P) (pc:PC) (N B l:Nat) (Ig:Imm) (JX:Zs->(Nat->Prop)->World->Prop):Code->Env->St->Zs->IQ->Prop:=Zj3 (cxP P Bs.T Bs.ok (fun _=>false) pc) pc N l (fun c env σ z Q=>AwpI P N B Ig JX (.loop c) env σ z Q)
theorem Base.awpi {pc:PC} (hpc:PCOK P pc) (hI:ItEnv P B Ig l JX) {c:Code} {env:Env} {σ:St} {z:Zs} {Q:IQ} (hv:Bs.icode pc N B l Ig JX c env σ z Q):AwpI P N B Ig JX c env σ z Q :=
 Uy (Zm7 Bs.hT Bs.hok hpc) hpc hI (fun _ _ _ _ _ h=>h) c env σ z Q hv
theorem Base.iter {pc:PC} (hpc:PCOK P pc) {g:FuncId} {fn:Func} {c:Code} (hf:P.funcs[g]?=some fn) (h1:(fn.name == "runtime.NumGoroutine")=false) (hb:fn.body=some c) {c0 c1:List AV} {xs:List (List AV)} (hle:Se (c0.length+1+c1.length) fn.ntmps=true)
  (hv:∀ (B:Nat) (Ig:Imm) (l:Nat) (JX:Zs->(Nat->Prop)->World->Prop),ItEnv P B Ig l JX->Bs.icode pc fn.ntmps B l Ig JX c (env0 0 ((c0++[AV.yld l])++c1)) ⟨[],0⟩ (some xs) (Yk2 Bs.T fn)):ItOK P g c0 c1 xs :=
 Zv4 Bs.hT hf (FnOK.of hf h1 (by rw [hb]; rfl)) hb (Qm hle) (fun B Ig l JX hI=>Bs.awpi hpc hI (hv B Ig l JX hI))
variable {r r' : Locs} {D D' : Nat->Prop} {I I' : Imm} {w w' w0:World} {I0:Imm} {B n n' k N:Nat} {pr pr' : Nat->Obj->Prop} {h:Nat->ABlk} {P:Program}
theorem Yij {F:Fence} (hF:FOK F) (o:Oper) {env:Env} {σ:St} {a:Act} (S:SR B w0 I0 pr N r I D env σ a w) {K:Env->St->Prop} {Q:Exit->Act->World->Prop} {next:Act->World->Prop}
  {f:Operand} {args:Array Operand} {ts:Array TypeId} (hop:o.op = .call { callee:=.value f,args:=args,argTypes:=ts }) {g:FuncId} (hf:evA env f = .func g [] []) {fn:Func} (hfn:P.funcs[g]?=some fn) (hname:(fn.name == "runtime.NumGoroutine")=false)
  (hb:fn.body.isNone=true) (hn:Extern.findNext fn=none) {e:Array Value->Sem Value} (he:Extern.find fn=some e) {v:AV}
  (hsem:∀ vs,VRs r I w D (Xf (evA env) args.toList) vs->∃ x,(e vs).run P w = .ok x w/\VR r I w D v x)
  (hput:Zu N o.dst v env fun env'=>K env' σ) (hnext:∀ a' w',Leaves B w0 I0 pr N r I D w a.defers K a' w'->next a' w'):o.wpIn F 0 P a w next Q:=by
 refine ⟨Uu hF o a w,?_⟩
 rw [Oper.semAt_eq _ _ _ (fun c e=>by rw [hop] at e; cases e)]
 have hfv:=Xk S.er f
 rw [hf] at hfv
 have hv:a.eval f = .func (.func g) #[] #[]:=by
  generalize a.eval f=z at hfv
  cases hfv with
  | func _ _ _ _ v0 v1 h0 h1 g0 g1 =>
   have e0:v0 = #[]:=by simpa using h0
   have e1:v1 = #[]:=by simpa using h1
   rw [e0,e1]
 have hargs:=Xj (fun x=>Xk S.er x) args
 obtain ⟨x,h1,h2⟩:=hsem _ hargs
 have hrun:(execOp a.eval o).run P w = .ok (.value x) w:=by
  have:execOp a.eval o=(do let d <-resolve a.eval { callee:=.value f,args:=args,argTypes:=ts } o.type; invoke d.target d.args):=by
   unfold execOp; rw [hop]
  rw [this]
  simp [resolve,hv,Deferred.ofValue,invoke,run_callFunc_extern hfn hname hb hn he,h1,Result.andThen]
 rw [hrun]
 exact hnext _ _ (Zck (a:=a) S.hr S.er (Wa _ _ _ _) h2 hput)
def WT (T:Tab):Nat->TypeId->List AV->Prop
 | 0,_,_=>False
 | d+1,t,aZ=>match T t with
  | none=>False
  | some ti=>match ti.desc with
   | .bool=>∃ b,aZ=[.bool b]
   | .int k=>∃ n,aZ=[.int k n]/\(Lit.int k n).wf=true
   | .float k=>∃ b,aZ=[.flt k b]/\(Lit.float k b).wf=true
   | .string=>∃ s,aZ=[.str s]/\s.size<=maxLen
   | .slice e=>match T e with
    | some te=>∃ els,aZ=[.isl te.size els]/\els.length<=maxLen/\∀ x∈els,WT T d e x
    | none=>False
   | .struct fs=>aZ.length=ti.size/\∀ f∈fs.toList,match T f.type with
    | some tf=>WT T d f.type ((aZ.drop f.offset).take tf.size)
    | none=>False
   | .array n e=>match T e with
    | some te=>aZ.length=ti.size/\∀ i,i<n->WT T d e ((aZ.drop (i*te.size)).take te.size)
    | none=>False
   | _=>False
def contig (T:Tab):Nat->List Field->Option Nat
 | o,[]=>some o
 | o,f::fs=>match T f.type with
  | some tf=>cond (Qp f.offset o) (contig T (o+tf.size) fs) none
  | none=>none
def Zj8 (T:Tab) (S:List TypeId) (t:TypeId):Bool:=match T t with
 | none=>false
 | some ti=>match ti.desc with
  | .bool | .int _ | .float _ | .string=>Qp ti.size 1
  | .slice e=>memN S e&&(match T e with
   | some te=>Qp ti.size 1&&Ww 0 te.size
   | none=>false)
  | .struct fs=>fs.toList.all (fun f=>memN S f.type)&&(match contig T 0 fs.toList with
   | some n=>Qp n ti.size
   | none=>false)
  | .array n e=>memN S e&&(match T e with
   | some te=>Qp (n*te.size) ti.size
   | none=>false)
  | _=>false
theorem Zau {P:Program} {T:Tab} (hT:TabOK P T) {t:TypeId} {ti:TI} (h:T t=some ti):P.cellsOf t=ti.size:=by
 obtain ⟨i,h1,h2,_⟩:=hT.info t ti h
 simp [Program.cellsOf,h1,h2]
def Zje (T:Tab) (t:TypeId):Nat:=match T t with
 | some ti=>ti.size
 | none=>0
theorem Zur {T:Tab} {seg:Field->List AV}:∀ (fs:List Field) (o n:Nat),contig T o fs=some n->(∀ f∈fs,(seg f).length=Zje T f.type) ->
  (fs.flatMap seg).length=n-o/\o<=n/\∀ f∈fs,o<=f.offset/\((fs.flatMap seg).drop (f.offset-o)).take (Zje T f.type)=seg f
 | [],o,n,h,_=>by simp only [contig,Qf] at h; subst h; simp
 | f::fs,o,n,h,hs=>by
  simp only [contig] at h
  split at h
  ·rename_i tf htf
   cases hb:Qp f.offset o with
   | false=>rw [hb] at h; cases h
   | true =>
    rw [hb] at h;have ho:=Qh hb;simp only [cond_true] at h;obtain ⟨h1,h2,h3⟩:=Zur fs (o+tf.size) n h (fun g hg=>hs g (by simp [hg]));have hf:(seg f).length=tf.size:=by rw [hs f (by simp)]; simp [Zje,htf]
    refine ⟨by simp only [Ta,Rr,h1,hf]; omega,by omega,fun g hg=>?_⟩;simp only [Ta]
    rcases Rb.1 hg with rfl|hg
    ·refine ⟨by omega,?_⟩
     rw [ho,Nat.sub_self,Wg];have:Zje T g.type=(seg g).length:=by rw [hs g (by simp)]
     rw [this,Gr];rfl
    ·obtain ⟨a,b⟩:=h3 g hg
     refine ⟨by omega,?_⟩;rw [Qak,Qk (by omega),Wy,show g.offset-o-(seg f).length=g.offset-(o+tf.size) by omega];exact b
  ·cases h
theorem Zm8 {sz:Nat} {seg:Nat->List AV}:∀ (n k:Nat),(∀ i,(seg i).length=sz)->(((Oy k n).flatMap seg).length=n*sz/\∀ i,i<n->(((Oy k n).flatMap seg).drop (i*sz)).take sz=seg (k+i))
 | 0,k,_=>by simp
 | n+1,k,hs=>by
  obtain ⟨h1,h2⟩:=Zm8 n (k+1) hs
  have e:(Oy k (n+1)).flatMap seg=seg k++(Oy (k+1) n).flatMap seg:=by simp [List.range'_succ]
  rw [e]
  refine ⟨by rw [Rr,h1,hs k]; rw [Sy,Nat.one_mul]; omega,fun i hi=>?_⟩
  cases i with
  | zero=>simp only [Nat.zero_mul,Wg,Nat.add_zero]; rw [Gr (hs k)]
  | succ i =>
   rw [Qak,Qk (by rw [hs k,Sy]; omega),Wy,hs k,show (i+1)*sz-sz=i*sz by rw [Sy]; omega,h2 i (by omega)];congr 1; omega
section
variable {H:Type} {enc:TypeId × Value->H} {P:Program} {w:World} {spare:Nat->Bool} {held:Bool}
def Im0 (w:World):Imm:=fun b _=>b<w.heap.size
def Ykc (T:Tab) (w:World) (d:Nat) (t:TypeId) (cs:List Value):Prop :=
 ∃ aZ:List AV,aZ.length=cs.length/\(∀ (i:Nat) (c:AV) (v:Value),aZ[i]?=some c->cs[i]?=some v->VR r0 (Im0 w) w (fun _=>False) c v)/\WT T d t aZ
theorem Zbl {T:Tab} {d:Nat} {t:TypeId} {v:Value} {c:AV} (hv:VR r0 (Im0 w) w (fun _=>False) c v) (hw:WT T d t [c]):Ykc T w d t [v] :=
 ⟨[c],rfl,fun i c' v' hc hv'=>by cases i with
  | zero=>simp at hc hv'; subst hc; subst hv'; exact hv
  | succ i=>simp at hc,hw⟩
theorem Zkn {T:Tab} {S:List TypeId} (hS:S.all (Zj8 T S)=true) {d:Nat} {t:TypeId} {ti:TI} (ht:T t=some ti) (hm:memN S t=true) {aZ:List AV} (h:WT T d t aZ):aZ.length=ti.size:=by
 have hs:=Rj.1 hS t (Zco hm)
 unfold Zj8 at hs
 rw [ht] at hs
 cases d with
 | zero=>exact h.elim
 | succ d =>
  simp only [WT,ht] at h
  dsimp only at hs
  split at h
  ·rename_i hd; rw [hd] at hs; obtain ⟨b,rfl⟩:=h; simp at hs; simp [hs]
  ·rename_i hd; rw [hd] at hs; obtain ⟨b,rfl,_⟩:=h; simp at hs; simp [hs]
  ·rename_i hd; rw [hd] at hs; obtain ⟨b,rfl,_⟩:=h; simp at hs; simp [hs]
  ·rename_i hd; rw [hd] at hs; obtain ⟨b,rfl,_⟩:=h; simp at hs; simp [hs]
  ·rename_i e hd
   rw [hd] at hs;dsimp only at hs
   cases hte:T e with
   | none=>rw [hte] at h; exact h.elim
   | some te=>rw [hte] at h hs; obtain ⟨els,rfl,_⟩:=h; simp at hs; simp [hs]
  ·exact h.1
  ·rename_i n e hd
   cases hte:T e with
   | none=>rw [hte] at h; exact h.elim
   | some te=>rw [hte] at h; exact h.1
  ·exact h.elim
theorem Zko {α:Type} (l:List α) (P:α->List AV->Prop) (h:∀ x∈l,∃ aZ,P x aZ):∃ g:α->List AV,∀ x∈l,P x (g x):=by
 classical
 exact ⟨fun x=>if hx:x∈l then Classical.choose (h x hx) else [],fun x hx=>by dsimp only; rw [dif_pos hx]; exact Classical.choose_spec (h x hx)⟩
theorem Zlw {d:Nat} {t e:TypeId} {cs:List Value} {x:DataW H × List MemPlace} (hu:P.underlying t=some (.slice e)) (h:Ok enc P w 0 spare held (d+1) t cs=some x) :
  cs=[.slice none 0 0]\/∃ (a:Addr) (len cap:Nat),cs=[.slice (some a) len cap]/\len<=cap/\cap<=maxLen/\∀ i,i<len->∃ cells y,w.cells? 0 (a.add (i*P.cellsOf e)) (P.cellsOf e)=some cells/\Ok enc P w 0 spare held d e cells=some y:=by
 unfold Ok at h
 rw [hu] at h
 split at h<;>try (exfalso; simp_all; done)
 ·exact .inl rfl
 ·rename_i e2 a len cap he
  simp only [Qf,TypeDesc.slice.injEq] at he
  subst he
  dsimp only at h
  split at h
  ·rename_i hc
   rw [Hz] at h;obtain ⟨elems,hel,_⟩:=h;refine .inr ⟨a,len,cap,rfl,hc.2.1,hc.2.2,fun i hi=>?_⟩;have hg:=mapM_some_get hel i i (by simp [hi]);have hl:=mapM_some_length hel;simp only [Kc] at hl;have:elems[i]?=some (elems[i]'(by omega)):=by simp [hl,hi]
   rw [this,Hz] at hg;obtain ⟨cells,hcl,htr⟩:=hg;exact ⟨cells,_,hcl,htr⟩
  ·cases h
theorem Zq8 {a:Addr} {n:Nat} {cells:List Value} (h:w.cells? 0 a n=some cells):cells.length=n/\∀ (j:Nat) (v:Value),cells[j]?=some v->w.cell? (a.add j)=some v:=by
 unfold World.cells? at h
 rw [if_pos (Nat.zero_le _)] at h
 have hl:=mapM_some_length h
 simp only [Kc] at hl
 refine ⟨hl,fun j v hv=>?_⟩
 have hj:j<n:=by rw [<-hl]; exact (Qj.1 hv).1
 have:=mapM_some_get h j j (by simp [hj])
 rw [this,hv]
theorem Yhg {a:Addr} {v:Value} (h:w.cell? a=some v):a.block<w.heap.size:=by
 unfold World.cell? at h
 split at h
 ·rename_i hb; exact (Qo.1 hb).1
 ·cases h
theorem Zj5 {d:Nat} {t:TypeId} {fs:Array Field} {cs:List Value} {x:DataW H × List MemPlace} (hu:P.underlying t=some (.struct fs)) (h:Ok enc P w 0 spare held (d+1) t cs=some x) :
  cs.length=P.cellsOf t/\∀ f∈fs.toList,∃ y,Ok enc P w 0 spare held d f.type ((cs.drop f.offset).take (P.cellsOf f.type))=some y:=by
 unfold Ok at h
 rw [hu] at h
 split at h<;>try (exfalso; simp_all; done)
 rename_i fs2 he
 simp only [Qf,TypeDesc.struct.injEq] at he
 subst he
 split at h
 ·rename_i hc
  rw [Option.map_eq_some_iff] at h
  obtain ⟨xs,hx,_⟩:=h
  refine ⟨hc,fun f hf=>?_⟩
  obtain ⟨i,hi⟩:=List.getElem?_of_mem hf
  have:=mapM_some_get hx i f hi
  have hl:=mapM_some_length hx
  have hil:=(Qj.1 hi).1
  exact ⟨xs[i]'(by omega),by rw [this]; simp⟩
 ·cases h
theorem Ze0 {T:Tab} (hT:TabOK P T) {S:List TypeId} (hS:S.all (Zj8 T S)=true):∀ (d:Nat) (t:TypeId) (cs:List Value) (x:DataW H × List MemPlace), memN S t=true->Ok enc P w 0 spare held d t cs=some x->Ykc T w d t cs
  | 0, t, cs, x, _, h => by simp [Ok] at h
  | d+1, t, cs, x, hm, h => by
    have hs := Rj.1 hS t (Zco hm);unfold Zj8 at hs
    cases ht:T t with
    | none => rw [ht] at hs; cases hs
    | some ti =>
      rw [ht] at hs;dsimp only at hs;have hu := hT.und t ti ht
      have hwt:∀ aZ, WT T (d+1) t aZ=match ti.desc with
        | .bool => ∃ b, aZ=[.bool b]
        | .int k => ∃ n, aZ=[.int k n]/\(Lit.int k n).wf=true
        | .float k => ∃ b, aZ=[.flt k b]/\(Lit.float k b).wf=true
        | .string => ∃ s, aZ=[.str s]/\s.size<=maxLen
        | .slice e => match T e with
          | some te => ∃ els, aZ=[.isl te.size els]/\els.length<=maxLen/\∀ x∈els, WT T d e x
          | none => False
        | .struct fs => aZ.length=ti.size/\∀ f∈fs.toList, match T f.type with
          | some tf => WT T d f.type ((aZ.drop f.offset).take tf.size)
          | none => False
        | .array n e => match T e with
          | some te => aZ.length=ti.size/\∀ i, i<n->WT T d e ((aZ.drop (i*te.size)).take te.size)
          | none => False
        | _ => False := fun aZ => by simp only [WT, ht]
      cases hd:ti.desc with
      | bool =>
        unfold Ok at h;rw [hu] at h;rw [hd] at h hwt
        split at h<;>first
          | exact Zbl (.bool _ _) (by rw [hwt]; exact ⟨_, rfl⟩)
          | (exfalso; simp_all; done)
      | int k =>
        unfold Ok at h;rw [hu] at h;rw [hd] at h hwt
        split at h<;>first
          | (rename_i k1 k2 n he
             simp only [Qf, TypeDesc.int.injEq] at he;subst he;split at h
             · rename_i hk
               obtain ⟨rfl, hk⟩ := hk;exact Zbl (.int _ _ _) (by rw [hwt]; exact ⟨_, rfl, hk⟩)
             · cases h)
          | (exfalso; simp_all; done)
      | float k =>
        unfold Ok at h;rw [hu] at h;rw [hd] at h hwt
        split at h<;>first
          | (rename_i k1 k2 n he
             simp only [Qf, TypeDesc.float.injEq] at he;subst he;split at h
             · rename_i hk
               obtain ⟨rfl, hk⟩ := hk;exact Zbl (.flt _ _ _) (by rw [hwt]; exact ⟨_, rfl, hk⟩)
             · cases h)
          | (exfalso; simp_all; done)
      | string =>
        unfold Ok at h;rw [hu] at h;rw [hd] at h hwt
        split at h<;>first
          | (split at h
             · rename_i hk
               exact Zbl (.str _ _) (by rw [hwt]; exact ⟨_, rfl, hk⟩)
             · cases h)
          | (exfalso; simp_all; done)
      | slice e =>
        rw [hd] at hu hwt hs;dsimp only at hs;simp only [Qc] at hs;obtain ⟨hme, hs⟩ := hs
        cases hte:T e with
        | none => rw [hte] at hs; cases hs
        | some te =>
          have hsz := Zau hT hte
          rcases Zlw hu h with rfl|⟨a, len, cap, rfl, h1, h2, h3⟩
          · exact Zbl (c := .isl te.size []) (.isl0 _ _ _ _) (by rw [hwt]; simp only [hte]; exact ⟨_, rfl, by simp, fun x hx => by simp at hx⟩)
          · rw [hsz] at h3
            rw [hte] at hs;simp only [Qc, Nat.blt_eq] at hs;obtain ⟨hs1, hs2⟩ := hs
            cases len with
            | zero => exact Zbl (c := .isl te.size []) (.isl0 _ _ _ _) (by rw [hwt]; simp only [hte]; exact ⟨_, rfl, by simp, fun x hx => by simp at hx⟩)
            | succ len =>
              obtain ⟨b, o, sp⟩ := a
              have hsp:sp=none := by
                obtain ⟨cells, y, hcl, htr⟩ := h3 0 (by omega);obtain ⟨hl, hcg⟩ := Zq8 hcl;have hv:cells[0]?=some (cells[0]'(by omega)) := by simp
                have := hcg 0 _ hv;simpa [Addr.add] using World.cell?_spot this
              subst hsp
              obtain ⟨g, hg⟩ := Zko (Si (len+1)) (fun i aZ => aZ.length=te.size/\WT T d e aZ/\∀ (j:Nat) (c:AV), aZ[j]?=some c->∃ v, w.cell? ⟨b, o+i*te.size+j, none⟩=some v/\VR r0 (Im0 w) w (fun _ => False) c v) (fun i hi => by
                obtain ⟨cells, y, hcl, htr⟩ := h3 i (Tz.1 hi);obtain ⟨hl, hcg⟩ := Zq8 hcl;obtain ⟨aZ, q1, q2, q3⟩ := Ze0 hT hS d e cells _ hme htr;have q4 := Zkn hS hte hme q3;refine ⟨aZ, q4, q3, fun j c hc => ?_⟩;have hj:j<aZ.length := (Qj.1 hc).1;have hv:cells[j]?=some (cells[j]'(by omega)) := by simp
                refine ⟨_, ?_, q2 j c _ hc hv⟩;have := hcg j _ hv;rw [Va, Va] at this
                exact this)
              have hlen:((Si (len+1)).map g).length=len+1 := by simp
              have hget:∀ (i:Nat) (x:List AV), ((Si (len+1)).map g)[i]?=some x->i<len+1/\x=g i := by
                intro i x hx;have hi:i<len+1 := by rw [<-hlen]; exact (Qj.1 hx).1
                refine ⟨hi, ?_⟩;simp [hi] at hx;exact hx.symm
              have hcell:∀ i, i<len+1->∀ (j:Nat) (c:AV), (g i)[j]?=some c->∃ v, w.cell? ⟨b, o+i*te.size+j, none⟩=some v/\VR r0 (Im0 w) w (fun _ => False) c v := fun i hi => (hg i (Tz.2 hi)).2.2
              have hval := VR.isl (r := r0) (I := Im0 w) (w := w) (fun _ => False) te.size ((Si (len+1)).map g) b o cap (fun i j => (w.cell? ⟨b, o+i*te.size+j, none⟩).getD undef) (by rw [hlen]; exact h1)
                (fun i x hx => by obtain ⟨hi, rfl⟩ := hget i x hx; exact (hg i (Tz.2 hi)).1)
                (fun i x j c hx hc => by
                  obtain ⟨hi, rfl⟩ := hget i x hx;obtain ⟨v, hv, _⟩ := hcell i hi j c hc
                  exact ⟨Yhg hv, by rw [hv]; rfl⟩)
                (fun i x j c hx hc => by
                  obtain ⟨hi, rfl⟩ := hget i x hx;obtain ⟨v, hv, hr⟩ := hcell i hi j c hc
                  rw [hv]; exact hr)
              rw [hlen] at hval;refine Zbl hval ?_;rw [hwt];simp only [hte];refine ⟨_, rfl, by rw [hlen]; omega, fun x hx => ?_⟩;obtain ⟨i, hi, rfl⟩ := List.mem_map.1 hx;exact (hg i hi).2.1
      | «struct» fs =>
        rw [hd] at hu hwt hs;dsimp only at hs;simp only [Qc] at hs;obtain ⟨hmf, hs⟩ := hs;obtain ⟨hcl, hf⟩ := Zj5 hu h;rw [Zau hT ht] at hcl
        cases hcg:contig T 0 fs.toList with
        | none => rw [hcg] at hs; cases hs
        | some n =>
          rw [hcg] at hs;have hn := Qh hs
          have hsz:∀ f∈fs.toList, ∃ tf, T f.type=some tf := fun f hf => by
            have := Rj.1 hS _ (Zco (Rj.1 hmf f hf));unfold Zj8 at this
            cases hx:T f.type with
            | none => rw [hx] at this; cases this
            | some tf => exact ⟨tf, rfl⟩
          obtain ⟨seg, hseg⟩ := Zko fs.toList (fun f aZ => aZ.length=Zje T f.type/\WT T d f.type aZ/\∀ (j:Nat) (c:AV) (v:Value), aZ[j]?=some c->((cs.drop f.offset).take (Zje T f.type))[j]?=some v->VR r0 (Im0 w) w (fun _ => False) c v) (fun f hfm => by
            obtain ⟨y, hy⟩ := hf f hfm;obtain ⟨tf, htf⟩ := hsz f hfm;have hme := Rj.1 hmf f hfm;rw [Zau hT htf] at hy;obtain ⟨aZ, q1, q2, q3⟩ := Ze0 hT hS d f.type _ _ hme hy;refine ⟨aZ, ?_, q3, ?_⟩
            · rw [Zkn hS htf hme q3]; simp [Zje, htf]
            · simpa [Zje, htf] using q2)
          obtain ⟨h1, h2, h3⟩ := Zur (T := T) (seg := seg) fs.toList 0 n hcg (fun f hfm => (hseg f hfm).1);simp only [Nat.sub_zero] at h1 h3;refine ⟨fs.toList.flatMap seg, by rw [h1, hcl, hn], ?_, ?_⟩
          ·
            have key:∀ (l:List Field) (o:Nat), contig T o l=some n->(∀ f∈l, f∈fs.toList)->∀ (i:Nat) (c:AV) (v:Value), (l.flatMap seg)[i]?=some c->cs[o+i]?=some v->VR r0 (Im0 w) w (fun _ => False) c v := by
              intro l
              induction l with
              | nil => intro o _ _ i c v hc; simp at hc
              | cons f l ih =>
                intro o ho hin i c v hc hv;simp only [contig] at ho;have hfm := hin f (by simp);obtain ⟨tf, htf⟩ := hsz f hfm;rw [htf] at ho;dsimp only at ho
                cases hb:Qp f.offset o with
                | false => rw [hb] at ho; cases ho
                | true =>
                  rw [hb] at ho;have hoe := Qh hb;simp only [cond_true] at ho;have hsl:(seg f).length=tf.size := by rw [(hseg f hfm).1]; simp [Zje, htf]
                  simp only [Ta] at hc
                  by_cases hi:i<tf.size
                  · rw [List.getElem?_append_left (by omega)] at hc
                    refine (hseg f hfm).2.2 i c v hc ?_;rw [Pb, if_pos (by simpa [Zje, htf] using hi), Rx, hoe];exact hv
                  · rw [List.getElem?_append_right (by omega), hsl] at hc
                    refine ih (o+tf.size) ho (fun g hg => hin g (by simp [hg])) (i-tf.size) c v hc ?_;rw [show o+tf.size+(i-tf.size)=o+i by omega]; exact hv
            intro i c v hc hv;exact key fs.toList 0 hcg (fun f hf => hf) i c v hc (by simpa using hv)
          · rw [hwt]
            refine ⟨by rw [h1, hn], fun f hfm => ?_⟩;obtain ⟨tf, htf⟩ := hsz f hfm;rw [htf];have := (h3 f hfm).2;rw [show Zje T f.type=tf.size by simp [Zje, htf]] at this;dsimp only;rw [this];exact (hseg f hfm).2.1
      | array n e =>
        rw [hd] at hu hwt hs;dsimp only at hs;simp only [Qc] at hs;obtain ⟨hme, hs⟩ := hs
        cases hte:T e with
        | none => rw [hte] at hs; cases hs
        | some te =>
          rw [hte] at hs;have hn := Qh hs;have hsz := Zau hT hte;obtain ⟨xs, m, hm1, _, hcl, hxl, hf⟩ := DataW.trod_array hu h;cases hm1;rw [Zau hT ht] at hcl;rw [hsz] at hf
          obtain ⟨seg, hseg⟩ := Zko (Si n) (fun i aZ => aZ.length=te.size/\WT T d e aZ/\∀ (j:Nat) (c:AV) (v:Value), aZ[j]?=some c->((cs.drop (i*te.size)).take te.size)[j]?=some v->VR r0 (Im0 w) w (fun _ => False) c v) (fun i hi => by
            have hi := Tz.1 hi;have hy := hf i hi;rw [List.getElem?_eq_getElem (by omega)] at hy;obtain ⟨aZ, q1, q2, q3⟩ := Ze0 hT hS d e _ _ hme hy
            exact ⟨aZ, Zkn hS hte hme q3, q3, q2⟩)
          let sg:Nat->List AV := fun i => if i<n then seg i else List.replicate te.size .any
          have hsg:∀ i, (sg i).length=te.size := fun i => by
            by_cases hi:i<n
            · simp only [sg, hi, if_true]; exact (hseg i (Tz.2 hi)).1
            · simp only [sg, hi, if_false, List.length_replicate]
          obtain ⟨h1, h2⟩ := Zm8 (sz := te.size) (seg := sg) n 0 hsg;refine ⟨(Oy 0 n).flatMap sg, by rw [h1, hcl, hn], ?_, ?_⟩
          · intro i c v hc hv
            have hil:i<n*te.size := by rw [<-h1]; exact (Qj.1 hc).1
            have hp:0<te.size := by
              rcases Nat.eq_zero_or_pos te.size with h0|h0
              · rw [h0] at hil; omega
              · exact h0
            have hq:i / te.size<n := Nat.div_lt_of_lt_mul (by rw [Wi]; exact hil);have hr:i%te.size<te.size := Nat.mod_lt _ hp;have he:i / te.size*te.size+i%te.size=i := by rw [Wi]; exact Nat.div_add_mod i te.size
            have hs2 := h2 (i / te.size) hq;rw [Ry] at hs2;have hs3:sg (i / te.size)=seg (i / te.size) := by simp only [sg, hq, if_true]
            refine (hseg (i / te.size) (Tz.2 hq)).2.2 (i%te.size) c v ?_ ?_
            · rw [<-hs3, <-hs2, Pb, if_pos hr, Rx, he]; exact hc
            · rw [Pb, if_pos hr, Rx, he]; exact hv
          · rw [hwt]
            dsimp only;rw [hte];refine ⟨by rw [h1, hn], fun i hi => ?_⟩;rw [h2 i hi, Ry];simp only [sg, hi, if_true];exact (hseg i (Tz.2 hi)).2.1
      | _ => rw [hd] at hs; cases hs
end
variable {P:Program} {N:Nat}
inductive Ret (res:PRes) (v:AV) (σ:St):Prop
 | mk (h:Zdv res v (tagS σ)):Ret res v σ
inductive Lp (P:Program) (N:Nat) (c:Code) (env:Env) (σ:St) (Q:Exit->Env->St->Prop):Prop
 | mk (h:Awp P N (.loop c) env σ Q):Lp P N c env σ Q
inductive Rg (P:Program) (N:Nat) (f:Operand) (ps:Array Tmp) (x y:Code) (env:Env) (σ:St) (Q:Exit->Env->St->Prop):Prop
 | mk (h:Awp P N (.rangeFunc f ps x y) env σ Q):Rg P N f ps x y env σ Q
inductive SCt (P:Program) (f:FuncId) (args:List AV) (σ:St) (K:AV->St->Prop):Prop
 | mk (h:FnOK P f/\SemCall P f args σ K):SCt P f args σ K
inductive Bd (P:Program) (N:Nat) (c:Code) (env:Env) (σ:St) (Q:Exit->Env->St->Prop):Prop
 | mk (h:Awp P N c env σ Q):Bd P N c env σ Q
inductive Done (p:Prop):Prop
 | mk (h:p):Done p
def asr (b:Bool) (res:PRes):Option PRes:=match b with
 | true=>some res
 | false=>none
theorem Yx {b:Bool} {res r:PRes} (h:asr b res=some r):b=true/\res=r:=by cases b; cases h; cases h; exact ⟨rfl,rfl⟩
theorem Yk1 {a b c:Nat} (h1:a=b) (h2:b=a->b+c<=1000000):a=b/\b+c<=1000000:=⟨h1,h2 h1.symm⟩
theorem Yn {p:Prop} [Decidable p] {res:PRes} (h:p):asr (decide p) res=some res:=by rw [decide_eq_true h]; rfl
def cxV (P:Program) (T:Tab) (ok:TypeId->Bool) (sx:FuncId->Bool) (pc:PC):Cx:=⟨T,ok,fun f args σ K=>cond (sx f) (SCt P f args σ K) (Yag (pc f) args σ K)⟩
theorem Zhk {T:Tab} {ok:TypeId->Bool} {sx:FuncId->Bool} {pc:PC} (hT:TabOK P T) (hok:EqOK P ok) (hpc:PCOK P pc):CxOK P (cxV P T ok sx pc) :=
 ⟨hT,hok,fun f args σ K h=>by
  simp only [cxV] at h
  cases hs:sx f with
  | true=>rw [hs] at h; exact h.1
  | false=>rw [hs] at h; exact Zb2 (fun aZ res hr=>hpc f aZ res hr) h⟩
def hdV (P:Program) (T:Tab) (ok:TypeId->Bool) (sx:FuncId->Bool) (pc:PC) (N:Nat):Hd :=
 ⟨fun c env σ Q=>Lp P N c env σ Q,fun f ps x y env σ Q=>Rg P N f ps x y env σ Q,fun ops env σ K=>Zgp (cxV P T ok sx pc) pc N ops env σ K⟩
theorem Zyy {T:Tab} {ok:TypeId->Bool} {sx:FuncId->Bool} {pc:PC} (hT:TabOK P T) (hok:EqOK P ok) (hpc:PCOK P pc) (hm:P.follows .mixedOrders=true) (N:Nat):HdOK P N (hdV P T ok sx pc N) :=
 ⟨fun _ _ _ _ h=>h.1,fun _ _ _ _ _ _ _ h=>h.1,fun id ops env σ K h=>Zd9 (Zhk hT hok hpc) hpc hm id ops env σ K h⟩
variable (Bs:Base P)
abbrev Base.vcode (sx:FuncId->Bool) (pc:PC) (N:Nat) (c:Code) (env:Env) (σ:St) (Q:Exit->Env->St->Prop):Prop:=Zaz (cxV P Bs.T Bs.ok sx pc) N (hdV P Bs.T Bs.ok sx pc N) c env σ Q
theorem Base.pv {sx:FuncId->Bool} {pc:PC} (hpc:PCOK P pc) {f:FuncId} {fn:Func} (hf:P.funcs[f]?=some fn) (h1:(fn.name == "runtime.NumGoroutine")=false) (h2:fn.body.isNone=false)
  {args:List AV} {res:PRes} (hids:Vj res.blks.length res.v=true) (hv:Zci (cxV P Bs.T Bs.ok sx pc) (hdV P Bs.T Bs.ok sx pc) fn args ⟨[],0⟩ (fun v σ=>fA v fun v=>Ret res v σ)):PCall P f args res:=by
 refine Zen (FnOK.of hf h1 h2) hids (SemCall.tag (Zoj (Zhk Bs.hT Bs.hok hpc) (fun N=>Zyy Bs.hT Bs.hok hpc Bs.hm N) hf hv) fun v σ h=>?_)
 rw [Zsr] at h; exact h.1
theorem Base.sv {sx:FuncId->Bool} {pc:PC} (hpc:PCOK P pc) {f:FuncId} {fn:Func} (hf:P.funcs[f]?=some fn) (h1:(fn.name == "runtime.NumGoroutine")=false) (h2:fn.body.isNone=false)
  {args:List AV} {σ:St} {K:AV->St->Prop} (hv:Zci (cxV P Bs.T Bs.ok sx pc) (hdV P Bs.T Bs.ok sx pc) fn args σ (fun v σ=>fA v fun v=>K v σ)):SCt P f args σ K :=
 ⟨FnOK.of hf h1 h2,SemCall.mono (Zoj (Zhk Bs.hT Bs.hok hpc) (fun N=>Zyy Bs.hT Bs.hok hpc Bs.hm N) hf hv) fun v σ h=>by rw [Zsr] at h; exact h⟩
theorem Base.av {sx:FuncId->Bool} {pc:PC} (hpc:PCOK P pc) {c:Code} {env:Env} {σ:St} {Q:Exit->Env->St->Prop} (hv:Zaz (cxV P Bs.T Bs.ok sx pc) N (hdV P Bs.T Bs.ok sx pc N) c env σ Q):Awp P N c env σ Q :=
 Yz (Zhk Bs.hT Bs.hok hpc) (Zyy Bs.hT Bs.hok hpc Bs.hm N) c env σ Q hv
theorem SCt.pc {f:FuncId} {args args' : List AV} {res:PRes} {σ:St} {K:AV->St->Prop} (h:PCall P f args' res) (ha:Zal σ.get args=some (args',[])) (hk:K (Zl (fun j=>σ.next+j) res.v) (Zfk σ res.blks)):SCt P f args σ K:=by
 classical
 refine ⟨Zb2 (pc:=fun a=>if a=args' then some res else none) (fun a r hr=>?_) ?_⟩
 ·split at hr
  ·rename_i e; cases hr; rw [e]; exact h
  ·cases hr
 ·unfold Yag
  rw [ha]
  show Got (if args'=args' then some res else none) _
  rw [if_pos rfl]
  exact hk
theorem Ze {v:AV} {res:AV} {σ:St} (h:v=res) (hp:Zl (listed []) res=res):Ret ⟨res,[]⟩ v σ:=⟨Zba h hp⟩
theorem Za {k:IntKind} {n m:Int} {σ:St} (h:n=m):Ret ⟨.int k m,[]⟩ (.int k n) σ:=⟨Zdp h⟩
theorem Zb {n m:Bool} {σ:St} (h:n=m):Ret ⟨.bool m,[]⟩ (.bool n) σ:=⟨Xb h⟩
theorem Yg {v:AV} {res:PRes} {σ:St} (ids:List Nat) (hn:Zpn ids=true) (hv:v=Zl (listed ids) res.v) (hr:Zmh (tagS σ) ids=some res.blks):Ret res v σ:=by
 obtain ⟨h1,h2⟩:=Zf3 hr
 exact ⟨ids,Zf9 hn,h1,hv,h2⟩
def Ya0 (P:Program) (N n0:Nat) (c:Code) (Q:Exit->Env->St->Prop):Nat->Env->St->Prop
 | 0,_,_=>False
 | m+1,env,σ=>Awp P N c env σ (seqQ (fun env' σ'=>∃ env2 σ2,(Zhz env' σ' env2 σ2\/Ren n0 env' σ' env2 σ2)/\Ya0 P N n0 c Q m env2 σ2) Q)
section
variable {r r' : Locs} {D D' : Nat->Prop} {I I' : Imm} {w w' w0:World} {I0:Imm} {B n n' k:Nat} {pr pr' : Nat->Obj->Prop} {h:Nat->ABlk}
theorem Zg5 {n0:Nat} {c:Code} {Q:Exit->Env->St->Prop} {F:Fence} {a:Act} (hF:FOK F) (hR:RdOK F pr) (hd0:∀ id,D id->id<n0) :
  ∀ (m:Nat) (env:Env) (σ:St) (pr1:Nat->Obj->Prop) (r1:Locs) (I1:Imm) (D1:Nat->Prop) (a1:Act) (w1:World) (ms:List Deferred),(∀ b o,pr b o->pr1 b o)->Mk w pr1 ms->ms.Pairwise (fun a b=>a.target≠b.target)->a1.defers=ms++a.defers->Ya0 P N n0 c Q m env σ ->
   SR B w0 I0 pr1 N r1 I1 D1 env σ a1 w1->Step r D I w r1 D1 I1 w1->w.heap.size<=w1.heap.size->Code.roundsIn F 0 P c (Post B w0 I0 pr N r I D w a.defers Q) m a1 w1:=by
  intro m
  induction m with
  | zero=>intro env σ pr1 r1 I1 D1 a1 w1 ms _ _ _ _ hv; exact hv.elim
  | succ m ih =>
   intro env σ pr1 r1 I1 D1 a1 w1 ms p1 m1 n1 d1 hv s1 t1 z1;refine Rd (fun e a2 w2 hp=>?_) (hv F B w0 I0 pr1 r1 I1 D1 a1 w1 hF (hR.le p1) s1);obtain ⟨pr2,ms2,env2,σ2,r2,I2,D2,p2,m2,n2,d2,q2,s2,t2,z2⟩:=hp
   have hM:Mk w pr2 (ms2++ms):=by
    intro d hd
    rcases Tk.1 hd with h|h
    ·obtain ⟨b,g1,g2,g3⟩:=m2 d h
     exact ⟨b,g1,g2,Qt z1 g3⟩
    ·obtain ⟨b,g1,g2,g3⟩:=m1 d h
     exact ⟨b,g1,p2 _ _ g2,g3⟩
   have hN:(ms2++ms).Pairwise (fun a b=>a.target≠b.target):=by
    refine Pg.2 ⟨n2,n1,fun x hx y hy e=>?_⟩;obtain ⟨b,g1,g2,g3⟩:=m2 x hx;obtain ⟨b',g1',g2',g3'⟩:=m1 y hy;have:=(Qo.1 (s1.hr.prot _ _ g2').1).1;rw [g1,g1'] at e;simp only [Pp] at e;omega
   have hD:a2.defers=(ms2++ms)++a.defers:=by rw [d2,d1,Rs]
   have hout:∀ e',Q e' env2 σ2->Post B w0 I0 pr N r I D w a.defers Q e' a2 w2:=fun e' hq=>⟨pr2,ms2++ms,env2,σ2,r2,I2,D2,fun b o h=>p2 _ _ (p1 _ _ h),hM,hN,hD,hq,s2,t1.trans t2,Qt z1 z2⟩
   cases e with
   | normal =>
    obtain ⟨env3,σ3,hfr,q3⟩:=q2
    rcases hfr with hfr|hfr
    ·exact ih env3 σ3 pr2 r2 I2 D2 a2 w2 (ms2++ms) (fun b o h=>p2 _ _ (p1 _ _ h)) hM hN hD q3 (s2.forget hfr) (t1.trans t2) (Qt z1 z2)
    ·obtain ⟨r3,D3,H3,k3,e3⟩:=s2.hr.rename (N:=N) hfr
     exact ih env3 σ3 pr2 r3 I2 D3 a2 w2 (ms2++ms) (fun b o h=>p2 _ _ (p1 _ _ h)) hM hN hD q3 ⟨H3,e3 _ s2.er⟩ ((t1.trans t2).rename hd0 k3) (Qt z1 z2)
   | exit id=>exact hout _ q2
   | goto l=>exact hout _ q2
   | ret=>exact hout _ q2
   | panic ch=>exact hout _ q2
   | outgrown=>exact hout _ q2
end
theorem Awp.seqMono {c:Code} {env:Env} {σ:St} {K K' : Env->St->Prop} {Q:Exit->Env->St->Prop} (h:Awp P N c env σ (seqQ K Q)) (hk:∀ env σ,K env σ->K' env σ):Awp P N c env σ (seqQ K' Q) :=
 h.mono fun e env σ hq=>by cases e<;>first|exact hk _ _ hq|exact hq
theorem Zr {S:Type} (μ:S->Nat) (E:S->Env) (Z:S->List (Nat × ABlk)) (n0 n1:Nat) (G:S->Prop) {c:Code} {Q:Exit->Env->St->Prop} (s:S) (hs:G s) {env:Env} {σ:St} (hn:σ.next<=n0) (fl0:List (Nat × Nat))
  (h1:(okF n0 fl0&&Zg7 n0 fl0 (Z s)&&imgF n0 fl0&&Se n0 n1)=true) (h2:RenE (fOf fl0) n1 env (E s)) (h3:RenH (fOf fl0) n1 σ.get (Z s))
  (step:∀ s,G s->Awp P N c (E s) ⟨Z s,n1⟩ (seqQ (fun env' σ'=>Done (∃ s' fl,(okF n0 fl&&Zg7 n0 fl (Z s')&&imgF n0 fl&&Se n0 n1)=true/\RenE (fOf fl) n1 env' (E s')/\RenH (fOf fl) n1 σ'.get (Z s')/\G s'/\μ s'<μ s)) Q)):Lp P N c env σ Q:=by
 have key:∀ n s,μ s<n->G s->Ya0 P N n0 c Q n (E s) ⟨Z s,n1⟩:=by
  intro n
  induction n with
  | zero=>intro s h; omega
  | succ n ih =>
   intro s h hg;refine (step s hg).seqMono fun env' σ' hq=>?_
   obtain ⟨s',fl,k1,k2,k3,g',m'⟩:=hq.1;exact ⟨E s',⟨Z s',n1⟩,.inr (Wt fl k1 k2 k3),ih s' (by omega) g'⟩
 refine ⟨fun F B w0 I0 pr r I D a w hF hR S=>?_⟩
 have hr:=Wt (n1:=n1) fl0 h1 h2 h3
 obtain ⟨r2,D2,H2,k2,e2⟩:=S.hr.rename (N:=N) hr
 have hd0:∀ id,D id->id<n0:=fun id hd=>by have:=(S.hr.dom id hd).1; omega
 refine wpIn_loop_rounds (μ s+1) ?_
 exact Zg5 hF hR hd0 (μ s+1) (E s) ⟨Z s,n1⟩ pr r2 I D2 a w [] (fun _ _ h=>h) (fun d hd=>by simp at hd) .nil (by simp) (key (μ s+1) s (by omega) hs) ⟨H2,e2 _ S.er⟩ ((Wa _ _ _ _).rename hd0 k2) (Qd _)
theorem Awp.ren {c:Code} {env env2:Env} {σ σ2:St} {Q:Exit->Env->St->Prop} (hr:Ren σ.next env σ env2 σ2) (h:Awp P N c env2 σ2 Q):Awp P N c env σ Q:=by
 intro F B w0 I0 pr r I D a w hF hR S
 obtain ⟨r2,D2,H2,k2,e2⟩:=S.hr.rename (N:=N) hr
 refine Rd (fun e a' w' hp=>?_) (h F B w0 I0 pr r2 I D2 a w hF hR ⟨H2,e2 _ S.er⟩)
 obtain ⟨pr1,ms1,env1,σ1,r1,I1,D1,p1,m1,n1',d1,q1,s1,t1,z1⟩:=hp
 exact ⟨pr1,ms1,env1,σ1,r1,I1,D1,p1,m1,n1',d1,q1,s1,⟨fun id hd=>by
  obtain ⟨a1,a2⟩:=k2 id (S.hr.dom id hd).1 hd
  obtain ⟨b1,b2⟩:=t1.ids id a1
  exact ⟨b1,b2.trans a2⟩,t1.imm,t1.size⟩,z1⟩
theorem Lp.ren {c:Code} {env env2:Env} {σ σ2:St} {Q:Exit->Env->St->Prop} (hr:Ren σ.next env σ env2 σ2) (h:Lp P N c env2 σ2 Q):Lp P N c env σ Q:=⟨h.1.ren hr⟩
theorem Rg.ren {f:Operand} {ps:Array Tmp} {x y:Code} {env env2:Env} {σ σ2:St} {Q:Exit->Env->St->Prop} (hr:Ren σ.next env σ env2 σ2) (h:Rg P N f ps x y env2 σ2 Q):Rg P N f ps x y env σ Q:=⟨h.1.ren hr⟩
theorem Ykj {c:Code} {Q:Exit->Env->St->Prop} (m:Nat) {env:Env} {σ:St} (h:Ztc P N c Q m env σ):Lp P N c env σ Q:=⟨Zk0 h⟩
inductive LpM (P:Program) (N:Nat) (c:Code) (Q:Exit->Env->St->Prop) (m:Nat) (env:Env) (σ:St):Prop
 | mk (h:Ztc P N c Q m env σ):LpM P N c Q m env σ
theorem LpM.start (m:Nat) {c:Code} {Q:Exit->Env->St->Prop} {env:Env} {σ:St} (h:LpM P N c Q m env σ):Lp P N c env σ Q:=Ykj m h.1
theorem LpM.succ {m:Nat} {c:Code} {Q:Exit->Env->St->Prop} {env:Env} {σ:St} (h:Awp P N c env σ (seqQ (fun env' σ'=>LpM P N c Q m env' σ') Q)):LpM P N c Q (m+1) env σ:=⟨h.seqMono fun _ _ k=>k.1⟩
inductive LpR (P:Program) (N n0:Nat) (c:Code) (Q:Exit->Env->St->Prop) (m:Nat) (env:Env) (σ:St):Prop
 | mk (h:∃ env2 σ2,(Zhz env σ env2 σ2\/Ren n0 env σ env2 σ2)/\Ya0 P N n0 c Q m env2 σ2):LpR P N n0 c Q m env σ
theorem LpR.go {n0 m:Nat} {c:Code} {Q:Exit->Env->St->Prop} {env env2:Env} {σ σ2:St} (hr:Ren n0 env σ env2 σ2) (h:Awp P N c env2 σ2 (seqQ (fun env' σ'=>LpR P N n0 c Q m env' σ') Q)):LpR P N n0 c Q (m+1) env σ :=
 ⟨⟨env2,σ2,.inr hr,h.seqMono fun _ _ k=>k.1⟩⟩
theorem LpR.start (m n0:Nat) {c:Code} {Q:Exit->Env->St->Prop} {env:Env} {σ:St} (hn:σ.next<=n0) (h:LpR P N n0 c Q m env σ):Lp P N c env σ Q:=by
 obtain ⟨⟨env2,σ2,hr,h⟩⟩:=h
 refine ⟨fun F B w0 I0 pr r I D a w hF hR S=>?_⟩
 have hd0:∀ id,D id->id<n0:=fun id hd=>by have:=(S.hr.dom id hd).1; omega
 refine wpIn_loop_rounds m ?_
 rcases hr with hr|hr
 ·exact Zg5 hF hR hd0 m env2 σ2 pr r I D a w [] (fun _ _ h=>h) (fun d hd=>by simp at hd) .nil (by simp) h (S.forget hr) (Wa _ _ _ _) (Qd _)
 ·obtain ⟨r2,D2,H2,k2,e2⟩:=S.hr.rename (N:=N) hr
  exact Zg5 hF hR hd0 m env2 σ2 pr r2 I D2 a w [] (fun _ _ h=>h) (fun d hd=>by simp at hd) .nil (by simp) h ⟨H2,e2 _ S.er⟩ ((Wa _ _ _ _).rename hd0 k2) (Qd _)
theorem Zf4 {S:Type} (Z:S->List (Nat × ABlk)) (n0 n1:Nat) (G:List (List AV)->S->Prop) {ps:List Tmp} {a b:Code} {env:Env} {Q:Exit->Env->St->Prop}
  (step:∀ x xs s,G (x::xs) s->x.length=ps.length/\Awp P N a (Zem ps x env) ⟨Z s,n1⟩ fun e env1 σ1=>e = .normal/\Bd P N b env1 σ1 fun e _ σ2=>match e with
   | .normal=>Done (∃ s' fl,(okF n0 fl&&Zg7 n0 fl (Z s')&&imgF n0 fl&&Se n0 n1)=true/\RenH (fOf fl) n1 σ2.get (Z s')/\G xs s')
   | .ret=>Q .ret env σ2
   | .exit id=>Q (.exit id) env σ2
   | _=>False)
  (fin:∀ s,G [] s->Q .normal env ⟨Z s,n1⟩):∀ (xs:List (List AV)) (s:S),G xs s->Zjc P N n0 ps a b env Q xs ⟨Z s,n1⟩
 | [],s,g=>fin s g
 | x::xs,s,g=>by
  obtain ⟨h1,h2⟩:=step x xs s g
  refine ⟨h1,h2.mono fun e env1 σ1 h=>⟨h.1,h.2.1.mono fun e2 env2 σ2 h=>?_⟩⟩
  cases e2 with
  | normal =>
   obtain ⟨s',fl,k1,k2,g'⟩:=h.1;exact ⟨⟨Z s',n1⟩,.inr (Wt (env':=[]) fl k1 trivial k2),Zf4 Z n0 n1 G step fin xs s' g'⟩
  | exit id=>exact h
  | goto l=>exact h
  | ret=>exact h
  | panic ch=>exact h
  | outgrown=>exact h
theorem rngV {f:Operand} {ps:Array Tmp} {x y:Code} {env:Env} {σ:St} {Q:Exit->Env->St->Prop} {g:FuncId} {c0 c1 d0 d1:List AV} {xs:List (List AV)} (h:ItOK P g d0 d1 xs) (hf:evA env f = .func g c0 c1) (h0:Zal σ.get c0=some (d0,[])) (h1:Zal σ.get c1=some (d1,[]))
  (hp:Vu N ps.toList=true) (hr:Zjc P N σ.next ps.toList x y env Q xs σ):Rg P N f ps x y env σ Q:=by
 classical
 refine ⟨Zo9 (it:=fun g' a b=>if g'=g/\a=d0/\b=d1 then some xs else none) (fun g' a b xs' he=>?_) ?_⟩
 ·split at he
  ·rename_i e; obtain ⟨rfl,rfl,rfl⟩:=e; cases he; exact h
  ·cases he
 ·unfold Ya7
  rw [hf]
  dsimp only
  rw [h0,h1]
  show Got (if g=g/\d0=d0/\d1=d1 then some xs else none) _
  rw [if_pos ⟨rfl,rfl,rfl⟩]
  show cond _ _ _
  rw [hp]
  exact hr
theorem Yex {a b c:Nat} (n:Nat) (h1:a=b) (hc:c=n) (h2:b+n<=1000000):a=b/\b+c<=1000000:=⟨h1,by rw [hc]; exact h2⟩
class Stop (p:Prop):Prop where
 ok:True
theorem Stop.go {p:Prop} [Stop p] (h:p):p:=h
instance {res:PRes} {v:AV} {σ:St}:Stop (Ret res v σ):=⟨trivial⟩
instance {p:Prop}:Stop (Done p):=⟨trivial⟩
instance {c:Code} {env:Env} {σ:St} {Q:Exit->Env->St->Prop}:Stop (Lp P N c env σ Q):=⟨trivial⟩
instance {f:Operand} {ps:Array Tmp} {x y:Code} {env:Env} {σ:St} {Q:Exit->Env->St->Prop}:Stop (Rg P N f ps x y env σ Q):=⟨trivial⟩
instance {f:FuncId} {args:List AV} {σ:St} {K:AV->St->Prop}:Stop (SCt P f args σ K):=⟨trivial⟩
instance {c:Code} {env:Env} {σ:St} {Q:Exit->Env->St->Prop}:Stop (Bd P N c env σ Q):=⟨trivial⟩
instance {m:Nat} {c:Code} {env:Env} {σ:St} {Q:Exit->Env->St->Prop}:Stop (LpM P N c Q m env σ):=⟨trivial⟩
instance {m n0:Nat} {c:Code} {env:Env} {σ:St} {Q:Exit->Env->St->Prop}:Stop (LpR P N n0 c Q m env σ):=⟨trivial⟩
theorem wkU {b:Bool} (h:b=true:=by first|assumption|exact rfl|exact decide_eq_true (Yk1 (by first|rfl|omega) (by intro _; first|omega|((try simp only [Ru,Wp,Rr]); omega)))|exact decide_eq_true (Yex 1 (by first|rfl|assumption|omega) rfl (by omega))|exact decide_eq_true (Yex 2 (by first|rfl|assumption|omega) rfl (by omega))|exact decide_eq_true (by first|omega|((try simp only [Ru,Wp,Rr]); omega))):b=true:=h
end Go.Sx
