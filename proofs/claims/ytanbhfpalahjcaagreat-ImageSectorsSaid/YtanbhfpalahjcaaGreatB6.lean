/- A part of the proof: lemmas. -/
import Derived.Test.YtanbhfpalahjcaaGreatB5
import Derived.Test.YtanbhfpalahjcaaGreatB3
import Derived.KernelRfl
import Derived.Laws.Externs
set_option linter.unusedVariables false
set_option linter.unusedSimpArgs false
set_option maxRecDepth 100000
set_option maxHeartbeats 16000000
open Array renaming getElem?_eq_some_iff->Qr
open Bool renaming and_eq_true->Qc,and_self->Qbm,eq_false_iff->Qw,false_eq_true->Rn
open Go.Code renaming wpIn_mono->Rt
open Go.Exit renaming inBlock->Nu
open Go.Sx.Env renaming get_cons->Ww
open Go.Sx.Got renaming intro->Tt
open Go.Sx.Post renaming same->Ji
open Go.Sx.Ren renaming of->Pa
open Go.Sx.Step renaming refl->Wv
open Go.Target.collected renaming injEq->Ow
open List renaming append_assoc->Oo,append_nil->Pw,length_append->Ro,length_cons->Ra,length_nil->Rx,mem_append->Sc,pairwise_append->Ol
open Nat renaming beq->Qs,ble->Sn,blt->Pq,eq_of_beq_eq_true->Qh,le_of_ble_eq_true->Qk,le_refl->Qd,le_trans->Qy,lor->Kr,shiftLeft->Lc,testBit->Gz
open Option.some renaming inj->Sl,injEq->Qg
open Prod.mk renaming injEq->Rj
namespace Go.Sx
open Go
def Zrn {α:Type} (b:Bool) (k:Bool->α):α:=match b with
 | true=>k true
 | false=>k false
theorem Znq {α:Type} (b:Bool) (k:Bool->α):Zrn b k=k b:=by cases b<;>rfl
def Xg {α:Type} (n:Nat) (k:Nat->α):α:=match n with
 | 0=>k 0
 | m+1=>k (m+1)
theorem Yx {α:Type} (n:Nat) (k:Nat->α):Xg n k=k n:=by cases n<;>rfl
def Zwh {α:Type} (n:Int) (k:Int->α):α:=match n with
 | .ofNat m=>Xg m fun m=>k (.ofNat m)
 | .negSucc m=>Xg m fun m=>k (.negSucc m)
theorem Zwg {α:Type} (n:Int) (k:Int->α):Zwh n k=k n:=by cases n<;>simp [Zwh,Yx]
mutual
def Uy {α:Type}:AV->(AV->α)->α
 | .any,k=>k .any
 | .bool b,k=>Zrn b fun b=>k (.bool b)
 | .int d n,k=>Zwh n fun n=>k (.int d n)
 | .flt d n,k=>Xg n fun n=>k (.flt d n)
 | .cpx d n m,k=>Xg n fun n=>Xg m fun m=>k (.cpx d n m)
 | .val a n c,k=>k (.val a n c)
 | .str s,k=>k (.str s)
 | .ptr a b c,k=>Xg a fun a=>Xg b fun b=>Xg c fun c=>k (.ptr a b c)
 | .ipt cs,k=>Zfy cs fun cs=>k (.ipt cs)
 | .nilp,k=>k .nilp
 | .nils,k=>k .nils
 | .asl a b c,k=>Xg a fun a=>Xg b fun b=>Xg c fun c=>k (.asl a b c)
 | .bsl a b c d e,k=>Xg a fun a=>Xg b fun b=>Xg c fun c=>Xg d fun d=>Xg e fun e=>k (.bsl a b c d e)
 | .isl n els,k=>Xg n fun n=>Zi7 els fun els=>k (.isl n els)
 | .amap a,k=>Xg a fun a=>k (.amap a)
 | .func f c0 c1,k=>Xg f fun f=>Zfy c0 fun c0=>Zfy c1 fun c1=>k (.func f c0 c1)
 | .yld l,k=>Xg l fun l=>k (.yld l)
 | .agg cs,k=>Zfy cs fun cs=>k (.agg cs)
 | .tup cs,k=>Zfy cs fun cs=>k (.tup cs)
def Zfy {α:Type}:List AV->(List AV->α)->α
 | [],k=>k []
 | c::cs,k=>Uy c fun c=>Zfy cs fun cs=>k (c::cs)
def Zi7 {α:Type}:List (List AV)->(List (List AV)->α)->α
 | [],k=>k []
 | c::cs,k=>Zfy c fun c=>Zi7 cs fun cs=>k (c::cs)
end
mutual
theorem Znr {α:Type}:∀ (v:AV) (k:AV->α),Uy v k=k v
 | .any,k=>rfl
 | .bool b,k=>by simp only [Uy,Znq]
 | .int d n,k=>by simp only [Uy,Zwg]
 | .flt d n,k=>by simp only [Uy,Yx]
 | .cpx d n m,k=>by simp only [Uy,Yx]
 | .val a n c,k=>rfl
 | .str s,k=>rfl
 | .ptr a b c,k=>by simp only [Uy,Yx]
 | .ipt cs,k=>by simp only [Uy,Za4 cs]
 | .nilp,k=>rfl
 | .nils,k=>rfl
 | .asl a b c,k=>by simp only [Uy,Yx]
 | .bsl a b c d e,k=>by simp only [Uy,Yx]
 | .isl n els,k=>by simp only [Uy,Yx,Zgw els]
 | .amap a,k=>by simp only [Uy,Yx]
 | .func f c0 c1,k=>by simp only [Uy,Yx,Za4 c0,Za4 c1]
 | .yld l,k=>by simp only [Uy,Yx]
 | .agg cs,k=>by simp only [Uy,Za4 cs]
 | .tup cs,k=>by simp only [Uy,Za4 cs]
theorem Za4 {α:Type}:∀ (cs:List AV) (k:List AV->α),Zfy cs k=k cs
 | [],k=>rfl
 | c::cs,k=>by simp only [Zfy,Znr c,Za4 cs]
theorem Zgw {α:Type}:∀ (cs:List (List AV)) (k:List (List AV)->α),Zi7 cs k=k cs
 | [],k=>rfl
 | c::cs,k=>by simp only [Zi7,Za4 c,Zgw cs]
end
def Znp {α:Type} (b:ABlk) (k:ABlk->α):α:=match b with
 | .row es elems mt pu=>Xg es fun es=>Zi7 elems fun elems=>Zrn mt fun mt=>Zrn pu fun pu=>k (.row es elems mt pu)
 | .map l=>k (.map l)
 | .set l=>k (.set l)
 | .dead=>k .dead
theorem Zwf {α:Type} (b:ABlk) (k:ABlk->α):Znp b k=k b:=by cases b<;>simp only [Znp,Yx,Znq,Zgw]
def Zwj {α:Type} (e:Eff) (k:Eff->α):α:=match e with
 | .none=>k .none
 | .add b=>Znp b fun b=>k (.add b)
 | .put id b=>Xg id fun id=>Znp b fun b=>k (.put id b)
 | .app id b=>Xg id fun id=>Znp b fun b=>k (.app id b)
theorem Zwi {α:Type} (e:Eff) (k:Eff->α):Zwj e k=k e:=by cases e<;>simp only [Zwj,Yx,Zwf]
def Zrm {α:Type} (σ:St) (k:St->α):α:=match σ with
 | ⟨hp,nx⟩=>Xg nx fun nx=>match hp with
  | []=>k ⟨[],nx⟩
  | (i,b)::t=>Xg i fun i=>k ⟨(i,b)::t,nx⟩
theorem Zwe {α:Type} (σ:St) (k:St->α):Zrm σ k=k σ:=by
 obtain ⟨hp,nx⟩:=σ
 cases hp with
 | nil=>simp only [Zrm,Yx]
 | cons p t=>simp only [Zrm,Yx]
open Go Go.RowKit
variable {P:Program} {N:Nat}
abbrev CF:=FuncId->List AV->St->Option (AV × St)
def putE (N:Nat) (dst:Option Nat) (v:AV) (env:Env):Option Env:=match dst with
 | none=>some env
 | some d=>cond (Pq d N) (Uy v fun v=>some ((d,v)::env)) none
def exOp (T:Tab) (ok:TypeId->Bool) (cf:CF) (N:Nat) (o:Oper) (env:Env) (σ:St):Option (Env × St) :=
 match o.op with
 | .call { callee:=.value f,args,.. }=>match evA env f with
  | .func g c0 c1=>match cf g ((c0++Xf (evA env) args.toList)++c1) σ with
   | some (v,σ')=>match putE N o.dst v env with
    | some env'=>some (env',σ')
    | none=>none
   | none=>none
  | _=>none
 | op=>match aop T ok σ.next (evA env) σ.get op with
  | some (v,e)=>match putE N o.dst v env with
   | some env'=>Zwj e fun e=>Zrm (e.st σ) fun σ'=>some (env',σ')
   | none=>none
  | none=>none
def Zhp (T:Tab) (ok:TypeId->Bool) (cf:CF) (N:Nat) (ops:List Oper):List Oper->Env->St->Option (Env × St)
 | [],env,σ=>some (env,σ)
 | o::rest,env,σ =>
  match o.guard with
  | none=>match exOp T ok cf N o env σ with
   | some (env',σ')=>Zhp T ok cf N ops rest env' σ'
   | none=>none
  | some (j,want)=>match Yn ops j with
   | none=>none
   | some t=>match env.get t with
    | .bool b=>match b,want with
     | true,true=>match exOp T ok cf N o ((t,.bool true)::env) σ with
      | some (env',σ')=>Zhp T ok cf N ops rest env' σ'
      | none=>none
     | false,false=>match exOp T ok cf N o ((t,.bool false)::env) σ with
      | some (env',σ')=>Zhp T ok cf N ops rest env' σ'
      | none=>none
     | true,false=>match putE N o.dst (.tup []) ((t,.bool true)::env) with
      | some env'=>Zhp T ok cf N ops rest env' σ
      | none=>none
     | false,true=>match putE N o.dst (.tup []) ((t,.bool false)::env) with
      | some env'=>Zhp T ok cf N ops rest env' σ
      | none=>none
    | .tup []=>match putE N o.dst (.tup []) env with
     | some env'=>Zhp T ok cf N ops rest env' σ
     | none=>none
    | _=>none
def cxS (P:Program) (T:Tab) (ok:TypeId->Bool):Cx:=⟨T,ok,fun f args σ K=>FnOK P f/\SemCall P f args σ K⟩
theorem Ya6 {T:Tab} {ok:TypeId->Bool} (hT:TabOK P T) (hok:EqOK P ok):CxOK P (cxS P T ok):=⟨hT,hok,fun _ _ _ _ h=>h⟩
def CFOK (P:Program) (cf:CF):Prop:=∀ f args σ v σ',cf f args σ=some (v,σ')->FnOK P f/\SemCall P f args σ fun v2 σ2=>v2=v/\σ2=σ'
theorem Vl {dst:Option Nat} {v:AV} {env env' : Env} {K:Env->Prop} (h:putE N dst v env=some env') (hk:K env'):Zo N dst v env K:=by
 cases dst with
 | none=>simp only [putE,Qg] at h; subst h; exact hk
 | some d =>
  simp only [putE,Znr] at h
  obtain ⟨h1,h2⟩:=Zb h
  simp only [Qg] at h2
  subst h2
  exact Br.intro (fun _=>hk) (fun h=>by rw [h] at h1; cases h1)
theorem Ztm {T:Tab} {ok:TypeId->Bool} {cf:CF} (hcf:CFOK P cf) {o:Oper} {env env' : Env} {σ σ' : St} (h:exOp T ok cf N o env σ=some (env',σ')) {K:Env->St->Prop} (hk:K env' σ'):vcOp (cxS P T ok) N o env σ K:=by
 unfold exOp at h
 unfold vcOp
 simp only [Zps,Zwn,Zwp]
 split at h
 ·rename_i f args ts hop
  unfold Zqa
  simp only [Zy6]
  split at h
  ·rename_i g c0 c1 hf
   split at h
   ·rename_i v σ1 hc
    split at h
    ·rename_i env1 hp
     cases h
     obtain ⟨h1,h2⟩:=hcf _ _ _ _ _ hc
     rw [hop]
     dsimp only
     rw [hf]
     exact ⟨h1,h2.mono fun v2 σ2 ⟨e1,e2⟩=>by subst e1; subst e2; exact Vl hp hk⟩
    ·cases h
   ·cases h
  ·cases h
 ·rename_i hne
  split at h
  ·rename_i v e ha
   split at h
   ·rename_i env1 hp
    rw [Zwi,Zwe] at h
    cases h
    split
    ·rename_i f args ts hop
     exact (hne _ _ _ hop).elim
    ·rename_i l ts hop
     exact .old (aopK.of (by rw [<-hop]; exact ha) (Vl (K:=fun env'=>K env' (e.st σ)) hp hk))
    ·exact aopK.of ha (Vl (K:=fun env'=>K env' (e.st σ)) hp hk)
   ·cases h
  ·cases h
theorem Ze5 {T:Tab} {ok:TypeId->Bool} {cf:CF} (hcf:CFOK P cf) {ops:List Oper}:∀ (l:List Oper) {env env' : Env} {σ σ' : St},Zhp T ok cf N ops l env σ=some (env',σ')->∀ {K:Env->St->Prop},K env' σ'->Zcv (cxS P T ok) N ops l env σ K
 | [],env,env',σ,σ',h,K,hk=>by simp only [Zhp,Qg,Rj] at h; obtain ⟨rfl,rfl⟩:=h; exact hk
 | o::rest,env,env',σ,σ',h,K,hk=>by
  simp only [Zhp] at h
  simp only [Zcv]
  have go:∀ e0,(match exOp T ok cf N o e0 σ with
    | some (env',σ')=>Zhp T ok cf N ops rest env' σ'
    | none=>none)=some (env',σ')->vcOp (cxS P T ok) N o e0 σ fun env' σ'=>Zcv (cxS P T ok) N ops rest env' σ' K:=by
   intro e0 h
   split at h
   ·rename_i env1 σ1 h1
    exact Ztm hcf h1 (Ze5 hcf rest h hk)
   ·cases h
  have skip:∀ e0,(match putE N o.dst (.tup []) e0 with
    | some env'=>Zhp T ok cf N ops rest env' σ
    | none=>none)=some (env',σ')->Zo N o.dst (.tup []) e0 fun env'=>Zcv (cxS P T ok) N ops rest env' σ K:=by
   intro e0 h
   split at h
   ·rename_i env1 h1
    exact Vl h1 (Ze5 hcf rest h hk)
   ·cases h
  cases hg:o.guard with
  | none=>rw [hg] at h; exact go env h
  | some jw =>
   obtain ⟨j,want⟩:=jw
   rw [hg] at h
   dsimp only at h ⊢
   cases ht:Yn ops j with
   | none=>rw [ht] at h; cases h
   | some t =>
    rw [ht] at h
    dsimp only at h ⊢
    split at h
    ·rename_i b hb
     rw [hb]
     dsimp only
     split at h
     ·exact go _ h
     ·exact go _ h
     ·exact skip _ h
     ·exact skip _ h
    ·rename_i hb
     rw [hb]
     exact skip _ h
    ·cases h
variable {P:Program} {N:Nat}
def hdF:Hd:=⟨fun _ _ _ _=>False,fun _ _ _ _ _ _ _=>False,fun _ _ _ _=>False⟩
theorem Yfb:HdOK P N hdF:=⟨fun _ _ _ _ h=>h.elim,fun _ _ _ _ _ _ _ h=>h.elim,fun _ _ _ _ _ h=>h.elim⟩
theorem Zzl {env:Env} {σ:St} {Q:Exit->Env->St->Prop} (h:Q .normal env σ):Awp P N .skip env σ Q:=fun F B w0 I0 pr r I D a w hF hR S=>wpIn_skip (Ji S h rfl)
theorem Zzm {id:Nat} {env:Env} {σ:St} {Q:Exit->Env->St->Prop} (h:Q (.exit id) env σ):Awp P N (.exit id) env σ Q:=fun F B w0 I0 pr r I D a w hF hR S=>wpIn_exit (Ji S h rfl)
theorem Zxs {env:Env} {σ:St} {Q:Exit->Env->St->Prop} (h:Q .ret env σ):Awp P N .ret env σ Q:=fun F B w0 I0 pr r I D a w hF hR S=>wpIn_ret (Ji S h rfl)
theorem Ztq {cx:Cx} (hcx:CxOK P cx) {id:Nat} {ops:Array Oper} {env:Env} {σ:St} {Q:Exit->Env->St->Prop} (hn:Yt ops.toList=true) (h:Zcv cx N ops.toList ops.toList env σ (Q .normal)):Awp P N (.region id ops false) env σ Q:=by
 refine Yv hcx (Yfb (P:=P) (N:=N)) (.region id ops false) env σ Q ?_
 simp only [Zae,hn,cond_true]
 exact h
theorem Zqd {x y:Code} {env:Env} {σ:St} {Q:Exit->Env->St->Prop} (h:Awp P N x env σ (seqQ (fun env' σ'=>Awp P N y env' σ' Q) Q)):Awp P N (.seq x y) env σ Q:=by
 intro F B w0 I0 pr r I D a w hF hR S
 refine wpIn_seq (Rt (fun e a' w' hp=>?_) (h F B w0 I0 pr r I D a w hF hR S))
 cases e with
 | normal =>
  obtain ⟨pr1,ms1,env1,σ1,r1,I1,D1,p1,m1,n1,d1,q1,s1,t1,z1⟩:=hp
  refine Rt (fun e2 a2 w2 h2=>?_) (q1 F B w0 I0 pr1 r1 I1 D1 a' w' hF (hR.le p1) s1)
  have h1:Post B w0 I0 pr N r I D w a.defers (fun _ env' σ'=>env'=env1/\σ'=σ1) .normal a' w':=⟨pr1,ms1,env1,σ1,r1,I1,D1,p1,m1,n1,d1,⟨rfl,rfl⟩,s1,t1,z1⟩
  obtain ⟨pr2,ms2,env2,σ2,r2,I2,D2,p2,m2,n2,d2,q2,s2,t2,z2⟩:=h2
  refine ⟨pr2,ms2++ms1,env2,σ2,r2,I2,D2,fun b o h=>p2 _ _ (p1 _ _ h),?_,?_,by rw [d2,d1,Oo],q2,s2,t1.trans t2,Qy z1 z2⟩
  ·intro d hd
   rcases Sc.1 hd with h|h
   ·obtain ⟨b,g1,g2,g3⟩:=m2 d h
    exact ⟨b,g1,g2,Qy z1 g3⟩
   ·obtain ⟨b,g1,g2,g3⟩:=m1 d h
    exact ⟨b,g1,p2 _ _ g2,g3⟩
  ·refine Ol.2 ⟨n2,n1,fun x hx y hy e=>?_⟩
   obtain ⟨b,g1,g2,g3⟩:=m2 x hx
   obtain ⟨b',g1',g2',g3'⟩:=m1 y hy
   have:=(Qr.1 (s1.hr.prot _ _ g2').1).1
   rw [g1,g1'] at e
   simp only [Ow] at e
   omega
 | exit id=>exact hp.mono fun _ _ q=>q
 | goto l=>exact hp.mono fun _ _ q=>q
 | ret=>exact hp.mono fun _ _ q=>q
 | panic ch=>exact hp.mono fun _ _ q=>q
 | outgrown=>exact hp.mono fun _ _ q=>q
theorem Zr9 {c:Operand} {x y:Code} {env:Env} {σ:St} {Q:Exit->Env->St->Prop} {b:Bool} (hb:evA env c = .bool b) (h:cond b (Awp P N x (setC env c true) σ Q) (Awp P N y (setC env c false) σ Q)):Awp P N (.cond c x y) env σ Q:=by
 intro F B w0 I0 pr r I D a w hF hR S
 have hc:=Xt S.er c
 rw [hb] at hc
 have hcv:a.eval c = .bool b:=by generalize a.eval c=z at hc; cases hc; rfl
 cases b with
 | true=>exact wpIn_cond_true hcv (h F B w0 I0 pr r I D a w hF hR (Zlc S hb))
 | false=>exact wpIn_cond_false hcv (h F B w0 I0 pr r I D a w hF hR (Zlc S hb))
theorem Zxt {id:Nat} {c:Code} {env:Env} {σ:St} {Q:Exit->Env->St->Prop} (h:Awp P N c env σ (Zhi id Q)):Awp P N (.block id c) env σ Q:=by
 intro F B w0 I0 pr r I D a w hF hR S
 refine wpIn_block (Rt (fun e a' w' h=>?_) (h F B w0 I0 pr r I D a w hF hR S))
 cases e with
 | exit id' =>
  by_cases hid:id'=id
  ·subst hid
   simp only [Nu,if_true]
   exact h.mono fun _ _ q=>by simpa [Zhi] using q
  ·simp only [Nu,hid,if_false]
   exact h.mono fun _ _ q=>by
    have:Qs id' id=false:=by rw [Qw]; intro hb; exact hid (Qh hb)
    simpa [Zhi,this] using q
 | normal=>exact h.mono fun _ _ q=>q
 | goto l=>exact h.mono fun _ _ q=>q
 | ret=>exact h.mono fun _ _ q=>q
 | panic ch=>exact h.mono fun _ _ q=>q
 | outgrown=>exact h.mono fun _ _ q=>q
def Zwr (T:Tab) (ok:TypeId->Bool) (pc:PC) (N:Nat) (o:Oper) (env:Env) (σ:St) (k:Nat):Option (Rec × Env × St) :=
 match o.op with
 | .call { callee:=.value f,args,.. }=>match evA env f with
  | .func g c0 c1=>match Zbb σ.get ((c0++Xf (evA env) args.toList)++c1) with
   | some p=>match pc g p.1 with
    | some res=>match p.2,Xw res.v,res.blks with
     | [],_,_=>match putE N o.dst (Zi (fun j=>k+j) res.v) env with
      | some env'=>some (⟨o,k,res.blks.length+1,Zi (fun j=>k+j) res.v,Xh k res.blks,Zaf σ.get ((c0++Xf (evA env) args.toList)++c1)⟩,env',σ.putL (Xh k res.blks))
      | none=>none
     | _,true,[]=>match putE N o.dst (Zi (fun j=>k+j) res.v) env with
      | some env'=>some (⟨o,k,1,Zi (fun j=>k+j) res.v,[],Zaf σ.get ((c0++Xf (evA env) args.toList)++c1)⟩,env',σ)
      | none=>none
     | _,_,_=>none
    | none=>none
   | none=>none
  | _=>none
 | op=>match aop T ok k (evA env) σ.get op with
  | some p=>match putE N o.dst p.1 env with
   | some env'=>some (⟨o,k,1,p.1,p.2.puts k,Vr (evA env) op⟩,env',σ.putL (p.2.puts k))
   | none=>none
  | none=>none
def Zjc (N:Nat) (o:Oper) (env:Env) (σ:St) (k:Nat):Option (Rec × Env × St) :=
 match putE N o.dst (.tup []) env with
 | some env'=>some (⟨o,k,1,.tup [],[],[]⟩,env',σ)
 | none=>none
def exD (T:Tab) (ok:TypeId->Bool) (pc:PC) (N:Nat) (ops:List Oper):List Oper->Env->St->Nat->List Rec->Option (List Rec × Env × St)
 | [],env,σ,k,acc=>some (acc.reverse,env,{ σ with next:=k })
 | o::rest,env,σ,k,acc =>
  match (match o.guard with
   | none=>Zwr T ok pc N o env σ k
   | some (j,want)=>match Yn ops j with
    | none=>none
    | some t=>match env.get t with
     | .bool b=>match b,want with
      | true,true=>Zwr T ok pc N o ((t,.bool true)::env) σ k
      | false,false=>Zwr T ok pc N o ((t,.bool false)::env) σ k
      | true,false=>Zjc N o ((t,.bool true)::env) σ k
      | false,true=>Zjc N o ((t,.bool false)::env) σ k
     | .tup []=>Zjc N o env σ k
     | _=>none) with
  | some (x,env',σ')=>exD T ok pc N ops rest env' σ' (k+x.cnt) (x::acc)
  | none=>none
theorem Ze6 {T:Tab} {ok:TypeId->Bool} {pc:PC} {o:Oper} {env:Env} {σ:St} {k:Nat} {x:Rec} {env' : Env} {σ' : St} (h:Zwr T ok pc N o env σ k=some (x,env',σ')) {K:Rec->Env->St->Prop} (hk:K x env' σ'):Zoz (cxS P T ok) pc N o env σ k K:=by
 unfold Zwr at h
 rw [Zqk]
 unfold Zql
 split at h
 ·rename_i f args ts hop
  rw [hop]
  dsimp only
  split at h
  ·rename_i g c0 c1 hf
   rw [hf]
   dsimp only
   split at h
   ·rename_i p hp
    rw [hp]
    show Got (pc g p.1) _
    split at h
    ·rename_i res hres
     rw [hres]
     dsimp only [Got]
     split at h
     ·rename_i hp2
      rw [hp2]
      dsimp only
      split at h
      ·rename_i env1 hput
       cases h
       exact Vl (K:=fun env'=>K _ env' _) hput hk
      ·cases h
     ·rename_i hp2 hs hb hne
      split at h
      ·rename_i env1 hput
       cases h
       rw [hs,hb]
       split
       ·rename_i e; exact (hne e).elim
       ·exact Vl (K:=fun env'=>K _ env' _) hput hk
       ·rename_i h1 h2
        exact (h2 rfl rfl).elim
      ·cases h
     ·cases h
    ·cases h
   ·cases h
  ·cases h
 ·rename_i hne
  split at h
  ·rename_i p ha
   split at h
   ·rename_i env1 hp
    cases h
    split
    ·rename_i f args ts hop
     exact (hne _ _ _ hop).elim
    ·exact aopK.of ha (Vl (K:=fun env'=>K _ env' _) hp hk)
   ·cases h
  ·cases h
theorem Zch {o:Oper} {env:Env} {σ:St} {k:Nat} {x:Rec} {env' : Env} {σ' : St} (h:Zjc N o env σ k=some (x,env',σ')) {K:Rec->Env->St->Prop} (hk:K x env' σ'):Zgi N o env σ k K:=by
 unfold Zjc at h
 split at h
 ·rename_i env1 hp
  cases h
  exact Vl (K:=fun env'=>K _ env' _) hp hk
 ·cases h
variable {P:Program} {N:Nat}
theorem Zn1 {T:Tab} {ok:TypeId->Bool} {pc:PC} {ops:List Oper}:∀ (l:List Oper) {env:Env} {σ:St} {k:Nat} {acc recs:List Rec} {env' : Env} {σ' : St},exD T ok pc N ops l env σ k acc=some (recs,env',σ') ->
  ∀ {K:List Rec->Env->St->Prop},K recs env' σ'->vcD (cxS P T ok) pc N ops l env σ k acc K
 | [],env,σ,k,acc,recs,env',σ',h,K,hk=>by simp only [exD,Qg,Rj] at h; obtain ⟨rfl,rfl,rfl⟩:=h; exact hk
 | o::rest,env,σ,k,acc,recs,env',σ',h,K,hk=>by
  simp only [exD] at h
  split at h
  ·rename_i x env1 σ1 h1
   have hrest:vcD (cxS P T ok) pc N ops rest env1 σ1 (k+x.cnt) (x::acc) K:=Zn1 rest h hk
   simp only [vcD,Znw]
   cases hg:o.guard with
   | none =>
    rw [hg] at h1
    exact Ze6 (K:=fun x env' σ'=>vcD (cxS P T ok) pc N ops rest env' σ' (k+x.cnt) (x::acc) K) h1 hrest
   | some jw =>
    obtain ⟨j,want⟩:=jw
    rw [hg] at h1
    dsimp only at h1 ⊢
    cases ht:Yn ops j with
    | none=>rw [ht] at h1; cases h1
    | some t =>
     rw [ht] at h1
     dsimp only at h1 ⊢
     split at h1
     ·rename_i b hb
      rw [hb]
      dsimp only
      split at h1
      ·exact Ze6 (K:=fun x env' σ'=>vcD (cxS P T ok) pc N ops rest env' σ' (k+x.cnt) (x::acc) K) h1 hrest
      ·exact Ze6 (K:=fun x env' σ'=>vcD (cxS P T ok) pc N ops rest env' σ' (k+x.cnt) (x::acc) K) h1 hrest
      ·exact Zch (K:=fun x env' σ'=>vcD (cxS P T ok) pc N ops rest env' σ' (k+x.cnt) (x::acc) K) h1 hrest
      ·exact Zch (K:=fun x env' σ'=>vcD (cxS P T ok) pc N ops rest env' σ' (k+x.cnt) (x::acc) K) h1 hrest
     ·rename_i hb
      rw [hb]
      exact Zch (K:=fun x env' σ'=>vcD (cxS P T ok) pc N ops rest env' σ' (k+x.cnt) (x::acc) K) h1 hrest
     ·cases h1
  ·cases h
def Zn0 (T:Tab) (ok:TypeId->Bool) (pc:PC) (N:Nat) (ops:List Oper) (env:Env) (σ:St):Option (Env × St) :=
 cond (Yt ops) (match exD T ok pc N ops ops env σ σ.next [] with
  | some (recs,env',σ')=>cond (Zn7 ops recs) (some (env',σ')) none
  | none=>none) none
theorem Znz {T:Tab} {ok:TypeId->Bool} {pc:PC} {ops:List Oper} {env env' : Env} {σ σ' : St} (h:Zn0 T ok pc N ops env σ=some (env',σ')) {K:Env->St->Prop} (hk:K env' σ'):Ze9 (cxS P T ok) pc N ops env σ K:=by
 unfold Zn0 at h
 obtain ⟨h1,h⟩:=Zb h
 split at h
 ·rename_i recs env1 σ1 hd
  obtain ⟨h2,h⟩:=Zb h
  cases h
  unfold Ze9
  rw [h1]
  exact Zn1 ops hd ⟨h2,hk⟩
 ·cases h
def dedA {α:Type}:Nat->List (Nat × α)->List (Nat × α)
 | _,[]=>[]
 | m,(j,v)::e=>cond (Gz m j) (dedA m e) ((j,v)::dedA (Kr m (Lc 1 j)) e)
theorem Zh9 {m j i:Nat} (hi:i≠j):(Kr m (Lc 1 j)).testBit i=m.testBit i:=by
 have h1:(m ||| 1 <<< j).testBit i=(m.testBit i||(1 <<< j).testBit i):=Nat.testBit_or ..
 have h2:(1 <<< j).testBit i=false:=by
  cases hb:(1 <<< j).testBit i with
  | false=>rfl
  | true=>exact (hi (Zml hb)).elim
 have:(Kr m (Lc 1 j)).testBit i=(m ||| 1 <<< j).testBit i:=rfl
 rw [this,h1,h2,Bool.or_false]
theorem Zl4:∀ (e:Env) (m i:Nat),m.testBit i=false->Env.get (dedA m e) i=Env.get e i
 | [],_,_,_=>rfl
 | (j,v)::e,m,i,h=>by
  simp only [dedA]
  cases hb:Gz m j with
  | true =>
   have hne:i≠j:=fun e=>by subst e; rw [hb] at h; cases h
   rw [Ww,if_neg hne]
   exact Zl4 e m i h
  | false =>
   simp only [cond_false,Ww]
   by_cases hij:i=j
   ·rw [if_pos hij,if_pos hij]
   ·rw [if_neg hij,if_neg hij]
    exact Zl4 e _ i (by rw [Zh9 hij]; exact h)
theorem Za3 (j:Nat) (b:ABlk) (e:List (Nat × ABlk)) (i:Nat):hget ((j,b)::e) i=if i=j then b else hget e i:=by
 simp only [hget]
 by_cases h:i=j
 ·subst h; simp
 ·have:Qs i j=false:=by rw [Qw]; intro hb; exact h (Qh hb)
  simp [this,h]
theorem Zf4:∀ (e:List (Nat × ABlk)) (m i:Nat),m.testBit i=false->hget (dedA m e) i=hget e i
 | [],_,_,_=>rfl
 | (j,v)::e,m,i,h=>by
  simp only [dedA]
  cases hb:Gz m j with
  | true =>
   have hne:i≠j:=fun e=>by subst e; rw [hb] at h; cases h
   rw [Za3,if_neg hne]
   exact Zf4 e m i h
  | false =>
   simp only [cond_false,Za3]
   by_cases hij:i=j
   ·rw [if_pos hij,if_pos hij]
   ·rw [if_neg hij,if_neg hij]
    exact Zf4 e _ i (by rw [Zh9 hij]; exact h)
def dedS (σ:St):St:={ σ with heap:=dedA 0 σ.heap }
theorem Zto (env:Env) (σ:St):Zge env σ (dedA 0 env) (dedS σ):=⟨fun i=>.inl (Zl4 env 0 i (by simp)),fun i=>.inl (Zf4 σ.heap 0 i (by simp)),rfl⟩
abbrev Out:=Option (Exit × Env × St)
def Zny (ec:Env->St->Out):Nat->Env->St->Out
 | 0,_,_=>none
 | m+1,env,σ=>match ec env σ with
  | some (.normal,env',σ')=>Zny ec m (dedA 0 env') (dedS σ')
  | some (.exit id,env',σ')=>some (.exit id,env',σ')
  | some (.ret,env',σ')=>some (.ret,env',σ')
  | _=>none
def Zd4 (ea eb:Env->St->Out) (ps:List Tmp) (env:Env):List (List AV)->St->Out
 | [],σ=>some (.normal,env,σ)
 | x::xs,σ=>cond (Qs x.length ps.length) (match ea (Zfh ps x env) σ with
  | some (.normal,env1,σ1)=>match eb env1 σ1 with
   | some (.normal,_,σ2)=>Zd4 ea eb ps env xs σ2
   | some (.ret,_,σ2)=>some (.ret,env,σ2)
   | some (.exit id,_,σ2)=>some (.exit id,env,σ2)
   | _=>none
  | _=>none) none
theorem Awp.froz {c:Code} {env:Env} {σ:St} {Q:Exit->Env->St->Prop} (l:List Nat) (hm:mutL σ.get l=true) (h:Awp P N c env (Ux σ l) Q):Awp P N c env σ Q :=
 fun F B w0 I0 pr r I D a w hF hR S=>by
 obtain ⟨H1,S1⟩:=S.hr.froz (Zde hm)
 have S' : SR B w0 I0 pr N r (Vy r I σ.get l) D env (Ux σ l) a w:=⟨by rw [Zd3,Zcd]; exact H1,S.er.mono S1⟩
 exact Rt (fun e a' w' hp=>by
  obtain ⟨pr1,ms1,env1,σ1,r1,I1,D1,p1,m1,n1,d1,q1,s1,t1,z1⟩:=hp
  exact ⟨pr1,ms1,env1,σ1,r1,I1,D1,p1,m1,n1,d1,q1,s1,S1.trans t1,z1⟩) (h F B w0 I0 pr r (Vy r I σ.get l) D a w hF hR S')
def Zms (h:Nat->ABlk):Env->List Nat->List Nat
 | [],l=>l
 | (_,.asl id _ _)::e,l=>cond (l.any (fun j=>Qs j id) || !mutL h [id]) (Zms h e l) (Zms h e (id::l))
 | _::e,l=>Zms h e l
def Zpu (T:Tab) (ok:TypeId->Bool) (pc:PC) (N:Nat) (ops:List Oper) (env:Env) (σ:St):Option (Env × St) :=
 match Zn0 T ok pc N ops env σ with
 | some r=>some r
 | none=>cond (mutL σ.get (Zms σ.get env [])) (Zn0 T ok pc N ops env (Ux σ (Zms σ.get env []))) none
theorem Zl2 {T:Tab} (hT:TabOK P T) {ok:TypeId->Bool} (hok:EqOK P ok) {pc:PC} (hpc:PCOK P pc) (hm:P.follows .mixedOrders=true) {id:Nat} {ops:Array Oper} {env env' : Env} {σ σ' : St} (h:Zpu T ok pc N ops.toList env σ=some (env',σ')) :
  Awp P N (.region id ops true) env σ fun e e2 s2=>e = .normal/\e2=env'/\s2=σ':=by
 have key:∀ σ1,Zn0 T ok pc N ops.toList env σ1=some (env',σ')->Awp P N (.region id ops true) env σ1 fun e e2 s2=>e = .normal/\e2=env'/\s2=σ':=fun σ1 h2 =>
  (Zcx (Ya6 hT hok) hpc hm id ops env σ1 (fun e s=>e=env'/\s=σ') (Znz h2 ⟨rfl,rfl⟩)).mono fun e2 env2 σ2 hq=>by
   cases e2 with
   | normal=>exact ⟨rfl,hq.1,hq.2⟩
   | _=>exact hq.elim
 unfold Zpu at h
 split at h
 ·rename_i r hr
  cases h
  exact key _ hr
 ·obtain ⟨h1,h⟩:=Zb h
  exact Awp.froz _ h1 (key _ h)
def Yz (T:Tab) (ok:TypeId->Bool) (cf:CF) (pc:PC) (it:ITab) (lim N:Nat):Code->Env->St->Out
 | .skip,env,σ=>some (.normal,env,σ)
 | .region _ ops draw,env,σ=>match draw with
  | false=>cond (Yt ops.toList) (match Zhp T ok cf N ops.toList ops.toList env σ with
   | some (env',σ')=>some (.normal,env',σ')
   | none=>none) none
  | true=>match Zpu T ok pc N ops.toList env σ with
   | some (env',σ')=>some (.normal,env',σ')
   | none=>none
 | .seq x y,env,σ=>match Yz T ok cf pc it lim N x env σ with
  | some (.normal,env',σ')=>Yz T ok cf pc it lim N y env' σ'
  | some (.exit id,env',σ')=>some (.exit id,env',σ')
  | some (.ret,env',σ')=>some (.ret,env',σ')
  | _=>none
 | .cond c x y,env,σ=>match evA env c with
  | .bool true=>Yz T ok cf pc it lim N x (setC env c true) σ
  | .bool false=>Yz T ok cf pc it lim N y (setC env c false) σ
  | _=>none
 | .block id c,env,σ=>match Yz T ok cf pc it lim N c env σ with
  | some (.exit id',env',σ')=>some (cond (Qs id' id) .normal (.exit id'),env',σ')
  | some (.normal,env',σ')=>some (.normal,env',σ')
  | some (.ret,env',σ')=>some (.ret,env',σ')
  | _=>none
 | .loop c,env,σ=>Zny (Yz T ok cf pc it lim N c) lim env σ
 | .rangeFunc f ps x y,env,σ=>match evA env f with
  | .func g c0 c1=>match Zbb σ.get c0,Zbb σ.get c1 with
   | some p0,some p1=>match it g p0.1 p1.1 with
    | some xs=>cond (Zal N ps.toList) (match p0.2++p1.2 with
     | []=>Zd4 (Yz T ok cf pc it lim N x) (Yz T ok cf pc it lim N y) ps.toList env xs σ
     | a::l=>cond (mutL σ.get (a::l)) (Zd4 (Yz T ok cf pc it lim N x) (Yz T ok cf pc it lim N y) ps.toList env xs (Ux σ (a::l))) none) none
    | none=>none
   | _,_=>none
  | _=>none
 | .exit id,env,σ=>some (.exit id,env,σ)
 | .ret,env,σ=>some (.ret,env,σ)
 | _,_,_=>none
def Is (e:Exit) (env:Env) (σ:St):Exit->Env->St->Prop:=fun e2 env2 σ2=>e2=e/\env2=env/\σ2=σ
theorem Zhg {c:Code} {ec:Env->St->Out} (hc:∀ env σ e env' σ',ec env σ=some (e,env',σ')->Awp P N c env σ (Is e env' σ')):∀ (m:Nat) {env:Env} {σ:St} {e:Exit} {env' : Env} {σ' : St},Zny ec m env σ=some (e,env',σ')->Zqh P N c (Is e env' σ') m env σ
 | 0,env,σ,e,env',σ',h=>by simp [Zny] at h
 | m+1,env,σ,e,env',σ',h=>by
  simp only [Zny] at h
  simp only [Zqh]
  split at h
  ·rename_i env1 σ1 h1
   refine (hc _ _ _ _ _ h1).forgets fun e2 env2 σ2 hq=>?_
   obtain ⟨rfl,rfl,rfl⟩:=hq
   exact ⟨_,_,Zto _ _,Zhg hc m h⟩
  ·rename_i id env1 σ1 h1
   cases h
   exact (hc _ _ _ _ _ h1).mono fun e2 env2 σ2 hq=>by obtain ⟨rfl,rfl,rfl⟩:=hq; exact ⟨rfl,rfl,rfl⟩
  ·rename_i env1 σ1 h1
   cases h
   exact (hc _ _ _ _ _ h1).mono fun e2 env2 σ2 hq=>by obtain ⟨rfl,rfl,rfl⟩:=hq; exact ⟨rfl,rfl,rfl⟩
  ·cases h
theorem Zbp {n0:Nat} {assign body:Code} {ea eb:Env->St->Out} (ha:∀ env σ e env' σ',ea env σ=some (e,env',σ')->Awp P N assign env σ (Is e env' σ')) (hb:∀ env σ e env' σ',eb env σ=some (e,env',σ')->Awp P N body env σ (Is e env' σ')) {ps:List Tmp} {env:Env} :
  ∀ (xs:List (List AV)) {σ:St} {e:Exit} {env' : Env} {σ' : St},Zd4 ea eb ps env xs σ=some (e,env',σ')->Zgd P N n0 ps assign body env (Is e env' σ') xs σ
 | [],σ,e,env',σ',h=>by simp only [Zd4,Qg,Rj] at h; obtain ⟨rfl,rfl,rfl⟩:=h; exact ⟨rfl,rfl,rfl⟩
 | x::xs,σ,e,env',σ',h=>by
  simp only [Zd4] at h
  obtain ⟨h1,h⟩:=Zb h
  refine ⟨Qh h1,?_⟩
  split at h
  ·rename_i env1 σ1 h2
   refine (ha _ _ _ _ _ h2).mono fun e2 env2 σ2 hq=>?_
   obtain ⟨rfl,rfl,rfl⟩:=hq
   refine ⟨rfl,?_⟩
   split at h
   ·rename_i env3 σ3 h3
    refine (hb _ _ _ _ _ h3).mono fun e4 env4 σ4 hq=>?_
    obtain ⟨rfl,rfl,rfl⟩:=hq
    exact ⟨_,.inl rfl,Zbp ha hb xs h⟩
   ·rename_i env3 σ3 h3
    cases h
    refine (hb _ _ _ _ _ h3).mono fun e4 env4 σ4 hq=>?_
    obtain ⟨rfl,rfl,rfl⟩:=hq
    exact ⟨rfl,rfl,rfl⟩
   ·rename_i id env3 σ3 h3
    cases h
    refine (hb _ _ _ _ _ h3).mono fun e4 env4 σ4 hq=>?_
    obtain ⟨rfl,rfl,rfl⟩:=hq
    exact ⟨rfl,rfl,rfl⟩
   ·cases h
  ·cases h
theorem Zt {T:Tab} (hT:TabOK P T) {ok:TypeId->Bool} (hok:EqOK P ok) {cf:CF} (hcf:CFOK P cf) {pc:PC} (hpc:PCOK P pc) {it:ITab} (hit:∀ g c0 c1 xs,it g c0 c1=some xs->ItOK P g c0 c1 xs) (hm:P.follows .mixedOrders=true) {lim:Nat} :
  ∀ (c:Code) (env:Env) (σ:St) (e:Exit) (env' : Env) (σ' : St),Yz T ok cf pc it lim N c env σ=some (e,env',σ')->Awp P N c env σ (Is e env' σ')
 | .skip,env,σ,e,env',σ',h=>by simp only [Yz,Qg,Rj] at h; obtain ⟨rfl,rfl,rfl⟩:=h; exact Zzl ⟨rfl,rfl,rfl⟩
 | .region id ops draw,env,σ,e,env',σ',h=>by
  cases draw with
  | false =>
   simp only [Yz] at h
   obtain ⟨h1,h⟩:=Zb h
   split at h
   ·rename_i env1 σ1 h2
    cases h
    exact Ztq (Ya6 hT hok) h1 (Ze5 hcf _ h2 ⟨rfl,rfl,rfl⟩)
   ·cases h
  | true =>
   simp only [Yz] at h
   split at h
   ·rename_i env1 σ1 h2
    cases h
    exact Zl2 hT hok hpc hm h2
   ·cases h
 | .seq x y,env,σ,e,env',σ',h=>by
  simp only [Yz] at h
  refine Zqd ?_
  split at h
  ·rename_i env1 σ1 h1
   refine (Zt hT hok hcf hpc hit hm x _ _ _ _ _ h1).mono fun e2 env2 σ2 hq=>?_
   obtain ⟨rfl,rfl,rfl⟩:=hq
   exact Zt hT hok hcf hpc hit hm y _ _ _ _ _ h
  ·rename_i id env1 σ1 h1
   cases h
   refine (Zt hT hok hcf hpc hit hm x _ _ _ _ _ h1).mono fun e2 env2 σ2 hq=>?_
   obtain ⟨rfl,rfl,rfl⟩:=hq
   exact ⟨rfl,rfl,rfl⟩
  ·rename_i env1 σ1 h1
   cases h
   refine (Zt hT hok hcf hpc hit hm x _ _ _ _ _ h1).mono fun e2 env2 σ2 hq=>?_
   obtain ⟨rfl,rfl,rfl⟩:=hq
   exact ⟨rfl,rfl,rfl⟩
  ·cases h
 | .cond c x y,env,σ,e,env',σ',h=>by
  simp only [Yz] at h
  split at h
  ·rename_i hb; exact Zr9 hb (Zt hT hok hcf hpc hit hm x _ _ _ _ _ h)
  ·rename_i hb; exact Zr9 hb (Zt hT hok hcf hpc hit hm y _ _ _ _ _ h)
  ·cases h
 | .block id c,env,σ,e,env',σ',h=>by
  simp only [Yz] at h
  refine Zxt ?_
  split at h
  ·rename_i id' env1 σ1 h1
   cases h
   refine (Zt hT hok hcf hpc hit hm c _ _ _ _ _ h1).mono fun e2 env2 σ2 hq=>?_
   obtain ⟨rfl,rfl,rfl⟩:=hq
   simp only [Zhi]
   cases Qs id' id<;>exact ⟨rfl,rfl,rfl⟩
  ·rename_i env1 σ1 h1
   cases h
   refine (Zt hT hok hcf hpc hit hm c _ _ _ _ _ h1).mono fun e2 env2 σ2 hq=>?_
   obtain ⟨rfl,rfl,rfl⟩:=hq
   exact ⟨rfl,rfl,rfl⟩
  ·rename_i env1 σ1 h1
   cases h
   refine (Zt hT hok hcf hpc hit hm c _ _ _ _ _ h1).mono fun e2 env2 σ2 hq=>?_
   obtain ⟨rfl,rfl,rfl⟩:=hq
   exact ⟨rfl,rfl,rfl⟩
  ·cases h
 | .loop c,env,σ,e,env',σ',h=>by
  simp only [Yz] at h
  exact Zi1 (Zhg (fun env σ e env' σ' h=>Zt hT hok hcf hpc hit hm c env σ e env' σ' h) lim h)
 | .rangeFunc f ps x y,env,σ,e,env',σ',h=>by
  simp only [Yz] at h
  refine Zmt hit ?_
  unfold Zya
  have hx:∀ env σ e env' σ',Yz T ok cf pc it lim N x env σ=some (e,env',σ')->Awp P N x env σ (Is e env' σ'):=fun env σ e env' σ' h=>Zt hT hok hcf hpc hit hm x env σ e env' σ' h
  have hy:∀ env σ e env' σ',Yz T ok cf pc it lim N y env σ=some (e,env',σ')->Awp P N y env σ (Is e env' σ'):=fun env σ e env' σ' h=>Zt hT hok hcf hpc hit hm y env σ e env' σ' h
  split at h
  ·rename_i g c0 c1 hev
   try rw [hev]
   try dsimp only
   split at h
   ·rename_i p0 p1 h0 h1
    try rw [h0,h1]
    try dsimp only [Got]
    split at h
    ·rename_i xs hxs
     try rw [hxs]
     try dsimp only [Got]
     obtain ⟨h2,h⟩:=Zb h
     try rw [h2]
     try simp only [cond_true]
     split at h
     ·rename_i hl
      try rw [hl]
      exact Zbp hx hy xs h
     ·rename_i a l hl
      try rw [hl]
      obtain ⟨h3,h⟩:=Zb h
      try dsimp only
      try rw [h3]
      exact Zbp hx hy xs h
    ·cases h
   ·cases h
  ·cases h
 | .exit id,env,σ,e,env',σ',h=>by simp only [Yz,Qg,Rj] at h; obtain ⟨rfl,rfl,rfl⟩:=h; exact Zzm ⟨rfl,rfl,rfl⟩
 | .ret,env,σ,e,env',σ',h=>by simp only [Yz,Qg,Rj] at h; obtain ⟨rfl,rfl,rfl⟩:=h; exact Zxs ⟨rfl,rfl,rfl⟩
 | .scope _,_,_,_,_,_,h=>by simp [Yz] at h
 | .label _,_,_,_,_,_,h=>by simp [Yz] at h
 | .goto _,_,_,_,_,_,h=>by simp [Yz] at h
 | .refuse _,_,_,_,_,_,h=>by simp [Yz] at h
variable {P:Program} {N:Nat}
mutual
theorem Zsx (f:Nat->Nat):∀ (v:AV),Zw v=true->Zi f v=v
 | .any,_=>rfl
 | .bool _,_=>rfl
 | .int _ _,_=>rfl
 | .flt _ _,_=>rfl
 | .cpx _ _ _,_=>rfl
 | .val _ _ _,_=>rfl
 | .str _,_=>rfl
 | .ptr _ _ _,h=>by simp [Zw] at h
 | .ipt _,_=>rfl
 | .nilp,_=>rfl
 | .nils,_=>rfl
 | .asl _ _ _,h=>by simp [Zw] at h
 | .bsl _ _ _ _ _,h=>by simp [Zw] at h
 | .isl _ _,_=>rfl
 | .amap _,h=>by simp [Zw] at h
 | .func g c0 c1,h=>by
  simp only [Zw,Qc] at h
  simp only [Zi,Zc8 f c0 h.1,Zc8 f c1 h.2]
 | .yld _,_=>rfl
 | .agg cs,h=>by simp only [Zw] at h; simp only [Zi,Zc8 f cs h]
 | .tup cs,h=>by simp only [Zw] at h; simp only [Zi,Zc8 f cs h]
theorem Zc8 (f:Nat->Nat):∀ (cs:List AV),Yk cs=true->renL f cs=cs
 | [],_=>rfl
 | c::cs,h=>by
  simp only [Yk,Qc] at h
  simp only [renL,Zsx f c h.1,Zc8 f cs h.2]
end
mutual
theorem Ztd (m:Nat):∀ (v:AV),Zw v=true->Ve m v=true
 | .any,_=>rfl
 | .bool _,_=>rfl
 | .int _ _,_=>rfl
 | .flt _ _,_=>rfl
 | .cpx _ _ _,_=>rfl
 | .val _ _ _,_=>rfl
 | .str _,_=>rfl
 | .ptr _ _ _,h=>by simp [Zw] at h
 | .ipt _,_=>rfl
 | .nilp,_=>rfl
 | .nils,_=>rfl
 | .asl _ _ _,h=>by simp [Zw] at h
 | .bsl _ _ _ _ _,h=>by simp [Zw] at h
 | .isl _ _,_=>rfl
 | .amap _,h=>by simp [Zw] at h
 | .func g c0 c1,h=>by
  simp only [Zw,Qc] at h
  simp only [Ve,Za2 m c0 h.1,Za2 m c1 h.2,Qbm]
 | .yld _,_=>rfl
 | .agg cs,h=>by simp only [Zw] at h; simp only [Ve,Za2 m cs h]
 | .tup cs,h=>by simp only [Zw] at h; simp only [Ve,Za2 m cs h]
theorem Za2 (m:Nat):∀ (cs:List AV),Yk cs=true->Vz m cs=true
 | [],_=>rfl
 | c::cs,h=>by
  simp only [Yk,Qc] at h
  simp only [Vz,Ztd m c h.1,Za2 m cs h.2,Qbm]
end
def Yd3 (n0:Nat):ABlk->Bool
 | .row _ elems _ pu=>pu||elems.all (Vz n0)
 | .map _=>false
 | _=>true
def Zfs {α:Type} (n0:Nat):List (Nat × α)->List (Nat × α)
 | []=>[]
 | p::l=>cond (Pq p.1 n0) (p::Zfs n0 l) (Zfs n0 l)
theorem Zgv (n0:Nat):∀ (l:List (Nat × ABlk)) (i:Nat),hget (Zfs n0 l) i=hget l i\/hget (Zfs n0 l) i = .dead
 | [],i=>.inl rfl
 | (j,b)::l,i=>by
  simp only [Zfs]
  cases hb:Pq j n0 with
  | true =>
   simp only [cond_true,Za3]
   by_cases h:i=j
   ·simp [h]
   ·simp only [h,if_false]; exact Zgv n0 l i
  | false =>
   simp only [cond_false,Za3]
   by_cases h:i=j
   ·right
    have key:∀ (l:List (Nat × ABlk)),hget (Zfs n0 l) i = .dead:=by
     intro l
     induction l with
     | nil=>rfl
     | cons p l ih =>
      obtain ⟨q,c⟩:=p
      simp only [Zfs]
      cases hq:Pq q n0 with
      | true =>
       simp only [cond_true,Za3]
       have:i≠q:=fun e=>by subst e; rw [h] at hq; rw [hb] at hq; cases hq
       simp only [this,if_false]; exact ih
      | false=>exact ih
    exact key l
   ·simp only [h,if_false]; exact Zgv n0 l i
def gcS (n0:Nat) (v:AV) (σ:St):St :=
 let hp:=dedA 0 σ.heap
 let old:=Zfs n0 hp
 cond (Zw v&&old.all (fun p=>Yd3 n0 p.2)) { σ with heap:=old } { σ with heap:=hp }
theorem Zti (n0:Nat) (v:AV) (σ:St):(∀ i,(gcS n0 v σ).get i=σ.get i\/(gcS n0 v σ).get i = .dead)/\(gcS n0 v σ).next=σ.next:=by
 unfold gcS
 dsimp only
 cases Zw v&&(Zfs n0 (dedA 0 σ.heap)).all (fun p=>Yd3 n0 p.2) with
 | true =>
  refine ⟨fun i=>?_,rfl⟩
  rcases Zgv n0 (dedA 0 σ.heap) i with h|h
  ·exact .inl (h.trans (Zf4 σ.heap 0 i (by simp)))
  ·exact .inr h
 | false=>exact ⟨fun i=>.inl (Zf4 σ.heap 0 i (by simp)),rfl⟩
theorem SemCall.forgets {f:FuncId} {args:List AV} {σ:St} {K K' : AV->St->Prop} (h:SemCall P f args σ K) (hk:∀ v σ,K v σ->∃ σ',((∀ i,σ'.get i=σ.get i\/σ'.get i = .dead)/\σ'.next=σ.next)/\K' v σ'):SemCall P f args σ K' :=
 fun B w0 I0 pr r I D w vs H hv=>(h B w0 I0 pr r I D w vs H hv).mono fun e w' ⟨x,v,σ',r',I',D',h1,h2,h3,h4⟩=>by
  obtain ⟨σ2,hf,h5⟩:=hk _ _ h2
  exact ⟨x,v,σ2,r',I',D',h1,h5,by have:=h3.kills hf.1; rw [hf.2]; exact this,h4⟩
def Ya1 (T:Tab) (ok:TypeId->Bool) (cf:CF) (pc:PC) (it:ITab) (lim:Nat) (fn:Func) (args:List AV) (σ:St):Option (AV × St) :=
 match fn.body with
 | some c=>cond (Sn args.length fn.ntmps) (match Yz T ok cf pc it lim fn.ntmps c (env0 0 args) σ with
  | some (.normal,env,σ')=>match Zbs T env σ'.get fn.results.toList with
   | some vs=>some (resV vs,gcS σ.next (resV vs) σ')
   | none=>none
  | some (.ret,env,σ')=>match Zbs T env σ'.get fn.results.toList with
   | some vs=>some (resV vs,gcS σ.next (resV vs) σ')
   | none=>none
  | _=>none) none
 | none=>none
def idxN:List Nat->Nat->Nat
 | [],_=>0
 | a::l,i=>cond (Qs i a) 0 (idxN l i+1)
theorem Zbx:∀ {ids:List Nat} {i:Nat},memN ids i=true->listed ids (idxN ids i)=i
 | [],_,h=>by simp [memN] at h
 | a::l,i,h=>by
  simp only [idxN]
  cases hb:Qs i a with
  | true=>rw [Qh hb]; rfl
  | false =>
   simp only [memN,hb,Bool.false_or] at h
   exact Zbx h
mutual
def Zek (ids:List Nat):AV->Bool
 | .ptr id _ _ | .asl id _ _ | .bsl id _ _ _ _ | .amap id=>memN ids id
 | .func _ c0 c1=>Ze4 ids c0&&Ze4 ids c1
 | .agg cs=>Ze4 ids cs
 | .tup cs=>Ze4 ids cs
 | _=>true
def Ze4 (ids:List Nat):List AV->Bool
 | []=>true
 | c::cs=>Zek ids c&&Ze4 ids cs
end
mutual
theorem Zqz {ids:List Nat}:∀ (v:AV),Zek ids v=true->Zi (listed ids) (Zi (idxN ids) v)=v
 | .any,_=>rfl
 | .bool _,_=>rfl
 | .int _ _,_=>rfl
 | .flt _ _,_=>rfl
 | .cpx _ _ _,_=>rfl
 | .val _ _ _,_=>rfl
 | .str _,_=>rfl
 | .ptr _ _ _,h=>by simp only [Zek] at h; simp only [Zi,Zbx h]
 | .ipt _,_=>rfl
 | .nilp,_=>rfl
 | .nils,_=>rfl
 | .asl _ _ _,h=>by simp only [Zek] at h; simp only [Zi,Zbx h]
 | .bsl _ _ _ _ _,h=>by simp only [Zek] at h; simp only [Zi,Zbx h]
 | .isl _ _,_=>rfl
 | .amap _,h=>by simp only [Zek] at h; simp only [Zi,Zbx h]
 | .func g c0 c1,h=>by
  simp only [Zek,Qc] at h
  simp only [Zi,Zc6 c0 h.1,Zc6 c1 h.2]
 | .yld _,_=>rfl
 | .agg cs,h=>by simp only [Zek] at h; simp only [Zi,Zc6 cs h]
 | .tup cs,h=>by simp only [Zek] at h; simp only [Zi,Zc6 cs h]
theorem Zc6 {ids:List Nat}:∀ (cs:List AV),Ze4 ids cs=true->renL (listed ids) (renL (idxN ids) cs)=cs
 | [],_=>rfl
 | c::cs,h=>by
  simp only [Ze4,Qc] at h
  simp only [renL,Zqz c h.1,Zc6 cs h.2]
end
mutual
def Ztc:AV->List Nat
 | .ptr id _ _ | .asl id _ _ | .bsl id _ _ _ _ | .amap id=>[id]
 | .func _ c0 c1=>Zne c0++Zne c1
 | .agg cs=>Zne cs
 | .tup cs=>Zne cs
 | _=>[]
def Zne:List AV->List Nat
 | []=>[]
 | c::cs=>Ztc c++Zne cs
end
def uniq:List Nat->List Nat->List Nat
 | acc,[]=>acc.reverse
 | acc,a::l=>cond (memN acc a) (uniq acc l) (uniq (a::acc) l)
def Zm1:List Nat->Bool
 | []=>true
 | a::l=>!memN l a&&Zm1 l
theorem Ycg {l:List Nat} {t:Nat} (h:t∈l):memN l t=true:=by
 induction l with
 | nil=>simp at h
 | cons a l ih =>
  simp only [memN,Bool.or_eq_true]
  rcases List.mem_cons.1 h with rfl|h
  ·exact .inl (Nat.beq_refl _)
  ·exact .inr (ih h)
theorem Zey:∀ {l:List Nat},Zm1 l=true->l.Nodup
 | [],_=>.nil
 | a::l,h=>by
  simp only [Zm1,Qc,Bool.not_eq_true'] at h
  refine List.nodup_cons.2 ⟨fun hm=>?_,Zey h.2⟩
  rw [Ycg hm] at h; cases h.1
def tag1 (b:ABlk):ABlk:=match b with
 | .row es elems mt pu=>cond pu (.row es elems mt true) (cond (elems.all Yk) (.row es elems mt true) (.row es elems mt pu))
 | b=>b
def tagS (σ:St):St:={ σ with heap:=σ.heap.map fun p=>(p.1,tag1 p.2) }
theorem Zyd (σ:St) (i:Nat):(tagS σ).get i=tag1 (σ.get i):=by
 simp only [St.get,tagS]
 induction σ.heap with
 | nil=>rfl
 | cons p l ih =>
  obtain ⟨j,b⟩:=p
  simp only [List.map_cons,Za3,ih]
  split<;>rfl
theorem HR.tag {B:Nat} {w0:World} {I0:Imm} {pr:Nat->Obj->Prop} {r:Locs} {I:Imm} {D:Nat->Prop} {h:Nat->ABlk} {n:Nat} {w:World} (H:HR B w0 I0 pr r I D h n w) {h' : Nat->ABlk} (hk:∀ i,h' i=tag1 (h i)):HR B w0 I0 pr r I D h' n w:=by
 have hl:∀ i,(h' i).live=(h i).live:=by
  intro i
  rw [hk]
  cases h i with
  | row es elems mt pu=>simp only [tag1]; cases pu<;>cases elems.all Yk<;>rfl
  | _=>rfl
 refine ⟨H.below,H.base,H.imm,H.dom,fun i hi=>H.live i (by rwa [hl] at hi),fun i=>?_,fun i j hi hj=>H.inj i j (by rwa [hl] at hi) (by rwa [hl] at hj),H.prot,fun b o hp=>⟨fun i hi=>(H.protK b o hp).1 i (by rwa [hl] at hi),(H.protK b o hp).2⟩,H.immB⟩
 rw [hk]
 have hB:=H.blk i
 cases hb:h i with
 | row es elems mt pu =>
  rw [hb] at hB
  simp only [tag1]
  cases hpu:pu with
  | true=>rw [hpu] at hB; exact hB
  | false =>
  rw [hpu] at hB
  cases hp:elems.all Yk with
  | false=>exact hB
  | true =>
   obtain ⟨h1,h2,h3,cs,T,fz,h4,h5,h6,h7,h8⟩:=hB
   refine ⟨h1,h2,h3,cs,T,fz,h4,h5,fun i e j c hi hj=>?_,h7,h8⟩
   obtain ⟨v,a,b⟩:=h6 i e j c hi hj
   have hpe:=List.all_eq_true.1 hp e (List.mem_of_getElem? hi)
   exact ⟨v,a,(b.pure (Vs hpe hj)).weak fun _ h=>h.elim⟩
 | _=>rw [hb] at hB; exact hB
theorem SemCall.tag {f:FuncId} {args:List AV} {σ:St} {K K' : AV->St->Prop} (h:SemCall P f args σ K) (hk:∀ v σ,K v σ->K' v (tagS σ)):SemCall P f args σ K' :=
 fun B w0 I0 pr r I D w vs H hv=>(h B w0 I0 pr r I D w vs H hv).mono fun e w' ⟨x,v,σ',r',I',D',h1,h2,h3,h4⟩ =>
  ⟨x,v,tagS σ',r',I',D',h1,hk _ _ h2,h3.tag (Zyd σ'),h4⟩
def Zj9 (σ:St):List Nat->Option (List (Nat × List (List AV)))
 | []=>some []
 | i::l=>match σ.get i,Zj9 σ l with
  | .row es elems true true,some rs=>some ((es,elems)::rs)
  | _,_=>none
theorem Zeu {σ:St}:∀ {ids:List Nat} {rs:List (Nat × List (List AV))},Zj9 σ ids=some rs->ids.length=rs.length/\∀ (j:Nat) (p:Nat × List (List AV)),rs[j]?=some p->σ.get (listed ids j) = .row p.1 p.2 true true
 | [],rs,h=>by simp only [Zj9,Qg] at h; subst h; exact ⟨rfl,fun j p hj=>by simp at hj⟩
 | i::l,rs,h=>by
  simp only [Zj9] at h
  split at h
  ·rename_i es elems rs' h1 h2
   cases h
   obtain ⟨g1,g2⟩:=Zeu h2
   refine ⟨by simp [g1],fun j p hj=>?_⟩
   cases j with
   | zero=>simp at hj; subst hj; exact h1
   | succ j=>exact g2 j p (by simpa using hj)
  ·cases h
def pcF (cf:CF):PC:=fun f args=>match cf f args ⟨[],0⟩ with
 | some (v,σ)=>match Zj9 (tagS σ) (uniq [] (Ztc v)) with
  | some rs=>cond (Zm1 (uniq [] (Ztc v))&&Zek (uniq [] (Ztc v)) v&&Ve rs.length (Zi (idxN (uniq [] (Ztc v))) v)) (some ⟨Zi (idxN (uniq [] (Ztc v))) v,rs⟩) none
  | none=>none
 | none=>none
mutual
theorem Zsl {h:Nat->ABlk} {rv:List AV->Option (List AV × List Nat)}:∀ (v:AV),Zw v=true->Xz rv h v=some (v,[])
 | .any,_=>rfl
 | .bool _,_=>rfl
 | .int _ _,_=>rfl
 | .flt _ _,_=>rfl
 | .cpx _ _ _,_=>rfl
 | .val _ _ _,_=>rfl
 | .str _,_=>rfl
 | .ptr _ _ _,h=>by simp [Zw] at h
 | .ipt _,_=>rfl
 | .nilp,_=>rfl
 | .nils,_=>rfl
 | .asl _ _ _,h=>by simp [Zw] at h
 | .bsl _ _ _ _ _,h=>by simp [Zw] at h
 | .isl _ _,_=>rfl
 | .amap _,h=>by simp [Zw] at h
 | .func g c0 c1,hp=>by
  simp only [Zw,Qc] at hp
  simp only [Xz,Ug c0 hp.1,Ug c1 hp.2,Pw]
 | .yld _,_=>rfl
 | .agg cs,hp=>by simp only [Zw] at hp; simp only [Xz,Ug cs hp]
 | .tup cs,hp=>by simp only [Zw] at hp; simp only [Xz,Ug cs hp]
theorem Ug {h:Nat->ABlk} {rv:List AV->Option (List AV × List Nat)}:∀ (args:List AV),Yk args=true->Zar rv h args=some (args,[])
 | [],_=>rfl
 | c::cs,hp=>by
  simp only [Yk,Qc] at hp
  simp only [Zar,Zsl c hp.1,Ug cs hp.2,Pw]
end
theorem Zsm {h:Nat->ABlk} (args:List AV) (hp:Yk args=true):Zbb h args=some (args,[]):=Ug args hp
def Ya3:IntKind->IntKind->Bool
 | .i8,.i8 | .i16,.i16 | .i32,.i32 | .i64,.i64 | .u8,.u8 | .u16,.u16 | .u32,.u32 | .u64,.u64=>true
 | _,_=>false
theorem Zww {a b:IntKind} (h:Ya3 a b=true):a=b:=by cases a<;>cases b<;>first|rfl|cases h
def Zpv:FloatKind->FloatKind->Bool
 | .f32,.f32 | .f64,.f64=>true
 | _,_=>false
theorem Zkr {a b:FloatKind} (h:Zpv a b=true):a=b:=by cases a<;>cases b<;>first|rfl|cases h
def eqI:Int->Int->Bool
 | .ofNat a,.ofNat b=>Qs a b
 | .negSucc a,.negSucc b=>Qs a b
 | _,_=>false
theorem Yfp {a b:Int} (h:eqI a b=true):a=b:=by
 cases a<;>cases b<;>simp only [eqI,Rn] at h
 ·rw [Qh h]
 ·rw [Qh h]
def eqU:List UInt8->List UInt8->Bool
 | [],[]=>true
 | a::l,b::m=>Qs a.toNat b.toNat&&eqU l m
 | _,_=>false
theorem Ya2:∀ {a b:List UInt8},eqU a b=true->a=b
 | [],[],_=>rfl
 | a::l,b::m,h=>by
  simp only [eqU,Qc] at h
  rw [UInt8.toNat_inj.1 (Qh h.1),Ya2 h.2]
 | [],_::_,h=>by simp [eqU] at h
 | _::_,[],h=>by simp [eqU] at h
def eqS (a b:ByteArray):Bool:=eqU a.data.toList b.data.toList
theorem Yfo {a b:ByteArray} (h:eqS a b=true):a=b:=by
 obtain ⟨⟨a⟩⟩:=a
 obtain ⟨⟨b⟩⟩:=b
 have e:a=b:=Ya2 h
 rw [e]
mutual
def eqA:AV->AV->Bool
 | .any,.any=>true
 | .bool a,.bool b=>cond a b (!b)
 | .int k a,.int l b=>Ya3 k l&&eqI a b
 | .flt k a,.flt l b=>Zpv k l&&Qs a b
 | .cpx k a a2,.cpx l b b2=>Zpv k l&&(Qs a b&&Qs a2 b2)
 | .str a,.str b=>eqS a b
 | .ipt a,.ipt b=>eqL a b
 | .nilp,.nilp=>true
 | .nils,.nils=>true
 | .isl n a,.isl m b=>Qs n m&&eqLL a b
 | .func f a b,.func g c d=>Qs f g&&(eqL a c&&eqL b d)
 | .agg a,.agg b=>eqL a b
 | .tup a,.tup b=>eqL a b
 | _,_=>false
def eqL:List AV->List AV->Bool
 | [],[]=>true
 | a::l,b::m=>eqA a b&&eqL l m
 | _,_=>false
def eqLL:List (List AV)->List (List AV)->Bool
 | [],[]=>true
 | a::l,b::m=>eqL a b&&eqLL l m
 | _,_=>false
end
mutual
theorem Zwx:∀ (a b:AV),eqA a b=true->a=b:=by
 intro a b h
 cases a<;>cases b<;>simp only [eqA,Rn,Qc] at h
 case any.any=>rfl
 case bool.bool a b=>cases a<;>cases b<;>first|rfl|cases h
 case int.int=>rw [Zww h.1,Yfp h.2]
 case flt.flt=>rw [Zkr h.1,Qh h.2]
 case cpx.cpx=>rw [Zkr h.1,Qh h.2.1,Qh h.2.2]
 case str.str=>rw [Yfo h]
 case ipt.ipt=>rw [Zeo _ _ h]
 case nilp.nilp=>rfl
 case nils.nils=>rfl
 case isl.isl=>rw [Qh h.1,Zwv _ _ h.2]
 case func.func=>rw [Qh h.1,Zeo _ _ h.2.1,Zeo _ _ h.2.2]
 case agg.agg=>rw [Zeo _ _ h]
 case tup.tup=>rw [Zeo _ _ h]
theorem Zeo:∀ (a b:List AV),eqL a b=true->a=b
 | [],[],_=>rfl
 | a::l,b::m,h=>by
  simp only [eqL,Qc] at h
  rw [Zwx a b h.1,Zeo l m h.2]
 | [],_::_,h=>by simp [eqL] at h
 | _::_,[],h=>by simp [eqL] at h
theorem Zwv:∀ (a b:List (List AV)),eqLL a b=true->a=b
 | [],[],_=>rfl
 | a::l,b::m,h=>by
  simp only [eqLL,Qc] at h
  rw [Zeo a b h.1,Zwv l m h.2]
 | [],_::_,h=>by simp [eqLL] at h
 | _::_,[],h=>by simp [eqLL] at h
end
variable {P:Program} {N:Nat}
def Zws (pt:PC) (f:FuncId) (args:List AV) (σ:St):Option (AV × St) :=
 match Zbb σ.get args with
 | some (vas,l)=>match pt f vas with
  | some res=>match l with
   | []=>some (Zi (fun j=>σ.next+j) res.v,Zd9 σ res.blks)
   | a::l=>match Xw res.v,res.blks with
    | true,[]=>some (res.v,σ)
    | _,_=>cond (mutL σ.get (a::l)) (some (Zi (fun j=>σ.next+j) res.v,Zd9 (Ux σ (a::l)) res.blks)) none
  | none=>none
 | none=>none
theorem Zn2 {pt:PC} (hpt:PCOK P pt) {f:FuncId} {args:List AV} {σ:St} {v:AV} {σ' : St} (h:Zws pt f args σ=some (v,σ')):FnOK P f/\SemCall P f args σ fun v2 σ2=>v2=v/\σ2=σ':=by
 refine Zbg (pc:=pt f) (fun aZ res hr=>hpt f aZ res hr) ?_
 unfold Zws at h
 unfold Zxi
 split at h
 ·rename_i vas l hv
  rw [hv]
  dsimp only [Got]
  split at h
  ·rename_i res hres
   rw [hres]
   dsimp only [Got]
   split at h
   ·cases h; exact ⟨rfl,rfl⟩
   ·split at h
    ·rename_i h1 h2
     cases h
     rw [h1,h2]
     exact ⟨rfl,rfl⟩
    ·rename_i h1
     obtain ⟨hm,h⟩:=Zb h
     cases h
     dsimp only
     split
     ·rename_i g1 g2
      exact (h1 g1 g2).elim
     ·rw [hm]; exact ⟨rfl,rfl⟩
  ·cases h
 ·cases h
def exG (P:Program) (T:Tab) (ok:TypeId->Bool) (it:ITab) (xs:FuncId->Bool) (pt:PC) (lim:Nat):Nat->CF
 | 0=>fun _ _ _=>none
 | d+1=>fun f args σ=>match cond (xs f) (Zws pt f args σ) none with
  | some r=>some r
  | none=>match P.funcs[f]? with
   | some fn=>cond (fn.name == "runtime.NumGoroutine") none
    (Ya1 T ok (exG P T ok it xs pt lim d) (pcF (exG P T ok it xs pt lim d)) it lim fn args σ)
   | none=>none
theorem Yad {cf:CF} (ih:CFOK P cf):PCOK P (pcF cf):=by
 intro f args res hr
 unfold pcF at hr
 split at hr
 ·rename_i v σ' hx
  split at hr
  ·rename_i rs hrs
   obtain ⟨hp,hr⟩:=Zb hr
   cases hr
   simp only [Qc] at hp
   obtain ⟨⟨hp1,hp2⟩,hp3⟩:=hp
   obtain ⟨h1,h2⟩:=ih _ _ _ _ _ hx
   obtain ⟨g1,g2⟩:=Zeu hrs
   refine Zdb h1 hp3 (h2.tag fun v2 σ2 hq=>?_)
   obtain ⟨rfl,rfl⟩:=hq
   exact ⟨_,Zey hp1,g1,(Zqz _ hp2).symm,g2⟩
  ·cases hr
 ·cases hr
theorem Zjb {T:Tab} (hT:TabOK P T) {ok:TypeId->Bool} (hok:EqOK P ok) {it:ITab} (hit:∀ g c0 c1 xs,it g c0 c1=some xs->ItOK P g c0 c1 xs) (hm:P.follows .mixedOrders=true) {xs:FuncId->Bool} {pt:PC} (hpt:PCOK P pt) {lim:Nat} :
  ∀ d,CFOK P (exG P T ok it xs pt lim d)
 | 0=>fun f args σ v σ' h=>by simp [exG] at h
 | d+1=>fun f args σ v σ' h=>by
  have ih:=Zjb hT hok hit hm hpt (xs:=xs) (lim:=lim) d
  have hpc:PCOK P (pcF (exG P T ok it xs pt lim d)):=Yad ih
  simp only [exG] at h
  split at h
  ·rename_i v1 hx
   cases h
   cases hxs:xs f with
   | false=>rw [hxs] at hx; cases hx
   | true=>rw [hxs] at hx; exact Zn2 hpt hx
  ·split at h
   ·rename_i fn hfn
    cases hn:fn.name == "runtime.NumGoroutine" with
    | true=>rw [hn] at h; cases h
    | false =>
     rw [hn] at h
     simp only [cond_false] at h
     unfold Ya1 at h
     split at h
     ·rename_i c hb
      obtain ⟨hle,h⟩:=Zb h
      have hle:=Qk hle
      refine ⟨⟨fn,hfn,hn,by rw [hb]; rfl⟩,?_⟩
      have main:∀ e env1 σ1 vs,(e = .normal\/e = .ret)->Yz T ok (exG P T ok it xs pt lim d) (pcF (exG P T ok it xs pt lim d)) it lim fn.ntmps c (env0 0 args) σ=some (e,env1,σ1)->Zbs T env1 σ1.get fn.results.toList=some vs->(resV vs,gcS σ.next (resV vs) σ1)=(v,σ') ->
        SemCall P f args σ fun v2 σ2=>v2=v/\σ2=σ':=by
       intro e env1 σ1 vs he hx hr heq
       cases heq
       refine SemCall.forgets (K:=fun v2 σ2=>v2=resV vs/\σ2=σ1) (Zr6 hT hfn hb hle ((Zt hT hok ih hpc hit hm c _ _ _ _ _ hx).mono fun e2 env2 σ2 hq=>?_)) (fun v2 σ2 hq=>?_)
       ·obtain ⟨rfl,rfl,rfl⟩:=hq
        rcases he with rfl|rfl
        ·exact Tt hr ⟨rfl,rfl⟩
        ·exact Tt hr ⟨rfl,rfl⟩
       ·obtain ⟨rfl,rfl⟩:=hq
        exact ⟨_,Zti _ _ _,rfl,rfl⟩
      split at h
      ·rename_i env1 σ1 hx
       split at h
       ·rename_i vs hr
        exact main _ _ _ _ (.inl rfl) hx hr (Sl h)
       ·cases h
      ·rename_i env1 σ1 hx
       split at h
       ·rename_i vs hr
        exact main _ _ _ _ (.inr rfl) hx hr (Sl h)
       ·cases h
      ·cases h
     ·cases h
   ·cases h
theorem Zlj {cf:CF} (ih:CFOK P cf) {f:FuncId} {args:List AV} {res:PRes} (h:pcF cf f args=some res):PCall P f args res:=Yad ih f args res h
variable {P:Program} {N:Nat}
def SC (P:Program) (f:FuncId) (args:List AV) (σ:St) (K:AV->St->Prop):Prop:=FnOK P f/\SemCall P f args σ K
def cxP (P:Program) (T:Tab) (ok:TypeId->Bool) (sx:FuncId->Bool) (pc:PC):Cx:=⟨T,ok,fun f args σ K=>cond (sx f) (SC P f args σ K) (Zxi (pc f) args σ K)⟩
theorem Zks {T:Tab} {ok:TypeId->Bool} {sx:FuncId->Bool} {pc:PC} (hT:TabOK P T) (hok:EqOK P ok) (hpc:PCOK P pc):CxOK P (cxP P T ok sx pc) :=
 ⟨hT,hok,fun f args σ K h=>by
  simp only [cxP] at h
  cases hs:sx f with
  | true=>rw [hs] at h; exact h
  | false=>rw [hs] at h; exact Zbg (fun aZ res hr=>hpc f aZ res hr) h⟩
def hdP (P:Program) (T:Tab) (ok:TypeId->Bool) (sx:FuncId->Bool) (pc:PC) (N:Nat):Hd :=
 ⟨fun c env σ Q=>Awp P N (.loop c) env σ Q,fun f ps x y env σ Q=>Awp P N (.rangeFunc f ps x y) env σ Q,fun ops env σ K=>Ze9 (cxP P T ok sx pc) pc N ops env σ K⟩
theorem Yax {T:Tab} {ok:TypeId->Bool} {sx:FuncId->Bool} {pc:PC} (hT:TabOK P T) (hok:EqOK P ok) (hpc:PCOK P pc) (hm:P.follows .mixedOrders=true) (N:Nat):HdOK P N (hdP P T ok sx pc N) :=
 ⟨fun _ _ _ _ h=>h,fun _ _ _ _ _ _ _ h=>h,fun id ops env σ K h=>Zcx (Zks hT hok hpc) hpc hm id ops env σ K h⟩
theorem FnOK.of {f:FuncId} {fn:Func} (hf:P.funcs[f]?=some fn) (h1:(fn.name == "runtime.NumGoroutine")=false) (h2:fn.body.isNone=false):FnOK P f:=⟨fn,hf,h1,h2⟩
structure Base (P:Program) where
 T:Tab
 ok:TypeId->Bool
 hT:TabOK P T
 hok:EqOK P ok
 hm:P.follows .mixedOrders=true
variable (Bs:Base P)
abbrev Base.body (sx:FuncId->Bool) (pc:PC) (fn:Func) (args:List AV) (σ:St) (K:AV->St->Prop):Prop:=Zeb (cxP P Bs.T Bs.ok sx pc) (hdP P Bs.T Bs.ok sx pc) fn args σ K
abbrev Base.code (sx:FuncId->Bool) (pc:PC) (N:Nat) (c:Code) (env:Env) (σ:St) (Q:Exit->Env->St->Prop):Prop:=Zae (cxP P Bs.T Bs.ok sx pc) N (hdP P Bs.T Bs.ok sx pc N) c env σ Q
theorem Base.pcall {sx:FuncId->Bool} {pc:PC} (hpc:PCOK P pc) {f:FuncId} {fn:Func} (hf:P.funcs[f]?=some fn) (h1:(fn.name == "runtime.NumGoroutine")=false) (h2:fn.body.isNone=false)
  {args:List AV} {res:PRes} (hids:Ve res.blks.length res.v=true) (hv:Bs.body sx pc fn args ⟨[],0⟩ (Zck res)):PCall P f args res :=
 Zli (Zks Bs.hT Bs.hok hpc) (fun N=>Yax Bs.hT Bs.hok hpc Bs.hm N) hf (FnOK.of hf h1 h2) hids hv
theorem Base.awp {sx:FuncId->Bool} {pc:PC} (hpc:PCOK P pc) {c:Code} {env:Env} {σ:St} {Q:Exit->Env->St->Prop} (hv:Bs.code sx pc N c env σ Q):Awp P N c env σ Q :=
 Yv (Zks Bs.hT Bs.hok hpc) (Yax Bs.hT Bs.hok hpc Bs.hm N) c env σ Q hv
def Zm8:List Nat->Env->Env
 | [],_=>[]
 | i::l,env=>(i,env.get i)::Zm8 l env
theorem Zm7 (env:Env):∀ (l:List Nat) (i:Nat),(Zm8 l env).get i=env.get i\/(Zm8 l env).get i = .any
 | [],i=>.inr rfl
 | j::l,i=>by
  simp only [Zm8,Ww]
  by_cases h:i=j
  ·subst h; simp
  ·simp only [h,if_false]; exact Zm7 env l i
def Zvk:List Nat->(Nat->ABlk)->List (Nat × ABlk)
 | [],_=>[]
 | i::l,h=>(i,h i)::Zvk l h
theorem Zm6 (h:Nat->ABlk):∀ (l:List Nat) (i:Nat),hget (Zvk l h) i=h i\/hget (Zvk l h) i = .dead
 | [],i=>.inr rfl
 | j::l,i=>by
  simp only [Zvk,Za3]
  by_cases e:i=j
  ·subst e; simp
  ·simp only [e,if_false]; exact Zm6 h l i
def Zyy (l:List Nat) (σ:St):St:=⟨Zvk l σ.get,σ.next⟩
theorem Zi4 (l m:List Nat) (env:Env) (σ:St):Zge env σ (Zm8 l env) (Zyy m σ):=⟨Zm7 env l,fun i=>Zm6 σ.get m i,rfl⟩
theorem As.p {p:Prop} [Decidable p] {A:Prop} (h:p) (k:A):As (decide p) A:=As.intro (decide_eq_true h) k
theorem As.np {p:Prop} [Decidable p] {A:Prop} (h:¬ p) (k:A):As (!decide p) A:=As.intro (by rw [decide_eq_false h]; rfl) k
theorem Br.dec {p:Prop} [Decidable p] {A A' : Prop} (h:p->A) (h' : ¬ p->A'):Br (decide p) A A':=Br.intro (fun e=>h (of_decide_eq_true e)) (fun e=>h' (of_decide_eq_false e))
theorem Zao {v:AV} {res:AV} {σ:St} (h:v=res) (hp:Zi (listed []) res=res):Zck ⟨res,[]⟩ v σ:=by subst h; exact Znx hp
theorem Zcg {k:IntKind} {n m:Int} {σ:St} (h:n=m):Zck ⟨.int k m,[]⟩ (.int k n) σ:=Zao (by rw [h]) rfl
theorem Yy {n m:Bool} {σ:St} (h:n=m):Zck ⟨.bool m,[]⟩ (.bool n) σ:=Zao (by rw [h]) rfl
variable {P:Program} {N B l:Nat} {Ig:Imm} {JX:Zs->(Nat->Prop)->World->Prop}
theorem IS.forget {z:Zs} {env env' : Env} {σ σ' : St} {a:Act} {w:World} (S:IS N B Ig JX z env σ a w) (h:Zge env σ env' σ'):IS N B Ig JX z env' σ' a w:=by
 obtain ⟨⟨r,D,O,H,hO,E,hj⟩,hd⟩:=S
 have S':=SR.forget (B:=B) (w0:=w) (I0:=Ig) (pr:=prO B O w) (a:=a) ⟨H,E⟩ h
 exact ⟨⟨r,D,O,S'.hr,hO,S'.er,hj⟩,hd⟩
theorem AwpI.pre {c:Code} {env env' : Env} {σ σ' : St} {z:Zs} {Q:IQ} (hf:Zge env σ env' σ') (h:AwpI P N B Ig JX c env' σ' z Q):AwpI P N B Ig JX c env σ z Q:=fun a w S=>h a w (S.forget hf)
theorem AwpI.forgets {c:Code} {env:Env} {σ:St} {z:Zs} {Q Q' : IQ} (h:AwpI P N B Ig JX c env σ z Q) (hq:∀ e env σ z,Q e env σ z->∃ env' σ',Zge env σ env' σ'/\Q' e env' σ' z):AwpI P N B Ig JX c env σ z Q' :=
 fun a w S=>Rt (fun e a' w' ⟨env1,σ1,z1,q1,s1⟩=>by
  obtain ⟨env2,σ2,hf,q2⟩:=hq _ _ _ _ q1
  exact ⟨env2,σ2,z1,q2,s1.forget hf⟩) (h a w S)
theorem Zvz {S:Type} (μ:S->Nat) (E:S->Env) (Y:S->St) (Z:S->Zs) (ks ms:List Nat) {c:Code} {Q:IQ} (G:S->Prop)
  (step:∀ s,G s->AwpI P N B Ig JX c (E s) (Y s) (Z s) (seqI (fun env' σ' z'=>∃ s',G s'/\μ s'<μ s/\Zm8 ks env'=E s'/\Zyy ms σ'=Y s'/\z'=Z s') Q))
  (s:S) (hs:G s) {env:Env} {σ:St} {z:Zs} (he:Zm8 ks env=E s) (hy:Zyy ms σ=Y s) (hz:z=Z s):AwpI P N B Ig JX (.loop c) env σ z Q:=by
 have key:∀ n s,μ s<n->G s->Zzo (AwpI P N B Ig JX) c Q n (E s) (Y s) (Z s):=by
  intro n
  induction n with
  | zero=>intro s h; omega
  | succ n ih =>
   intro s h hg
   simp only [Zzo]
   refine (step s hg).forgets fun e env' σ' z' hq=>?_
   cases e with
   | normal =>
    obtain ⟨s',g',m',e1,e2,e3⟩:=hq
    refine ⟨Zm8 ks env',Zyy ms σ',Zi4 _ _ _ _,?_⟩
    simp only [seqI]
    rw [e1,e2,e3]
    exact ih s' (by omega) g'
   | exit id=>exact ⟨env',σ',⟨fun _=>.inl rfl,fun _=>.inl rfl,rfl⟩,hq⟩
   | goto l=>exact ⟨env',σ',⟨fun _=>.inl rfl,fun _=>.inl rfl,rfl⟩,hq⟩
   | ret=>exact ⟨env',σ',⟨fun _=>.inl rfl,fun _=>.inl rfl,rfl⟩,hq⟩
   | panic ch=>exact ⟨env',σ',⟨fun _=>.inl rfl,fun _=>.inl rfl,rfl⟩,hq⟩
   | outgrown=>exact ⟨env',σ',⟨fun _=>.inl rfl,fun _=>.inl rfl,rfl⟩,hq⟩
 have:=Zpc _ (key (μ s+1) s (by omega) hs)
 rw [<-he,<-hy,<-hz] at this
 exact AwpI.pre (Zi4 ks ms env σ) this
def Yg5 (T:Tab) (fn:Func):IQ:=fun e env' σ' z=>(e = .normal\/e = .ret)/\(z=some []\/z=none)/\∃ vs,Zbs T env' σ'.get fn.results.toList=some vs
variable (Bs:Base P)
abbrev Base.icode (Bs:Base P) (pc:PC) (N B l:Nat) (Ig:Imm) (JX:Zs->(Nat->Prop)->World->Prop):Code->Env->St->Zs->IQ->Prop:=Zh3 (cxP P Bs.T Bs.ok (fun _=>false) pc) pc N l (fun c env σ z Q=>AwpI P N B Ig JX (.loop c) env σ z Q)
theorem Base.awpi {pc:PC} (hpc:PCOK P pc) (hI:ItEnv P B Ig l JX) {c:Code} {env:Env} {σ:St} {z:Zs} {Q:IQ} (hv:Bs.icode pc N B l Ig JX c env σ z Q):AwpI P N B Ig JX c env σ z Q :=
 Uh (Zks Bs.hT Bs.hok hpc) hpc hI (fun _ _ _ _ _ h=>h) c env σ z Q hv
theorem Base.iter {pc:PC} (hpc:PCOK P pc) {g:FuncId} {fn:Func} {c:Code} (hf:P.funcs[g]?=some fn) (h1:(fn.name == "runtime.NumGoroutine")=false) (hb:fn.body=some c) {c0 c1:List AV} {xs:List (List AV)} (hle:Sn (c0.length+1+c1.length) fn.ntmps=true)
  (hv:∀ (B:Nat) (Ig:Imm) (l:Nat) (JX:Zs->(Nat->Prop)->World->Prop),ItEnv P B Ig l JX->Bs.icode pc fn.ntmps B l Ig JX c (env0 0 ((c0++[AV.yld l])++c1)) ⟨[],0⟩ (some xs) (Yg5 Bs.T fn)):ItOK P g c0 c1 xs :=
 Zs7 Bs.hT hf (FnOK.of hf h1 (by rw [hb]; rfl)) hb (Qk hle) (fun B Ig l JX hI=>Bs.awpi hpc hI (hv B Ig l JX hI))
variable {r r' : Locs} {D D' : Nat->Prop} {I I' : Imm} {w w' w0:World} {I0:Imm} {B n n' k N:Nat} {pr pr' : Nat->Obj->Prop} {h:Nat->ABlk} {P:Program}
theorem Yel {F:Fence} (hF:FOK F) (o:Oper) {env:Env} {σ:St} {a:Act} (S:SR B w0 I0 pr N r I D env σ a w) {K:Env->St->Prop} {Q:Exit->Act->World->Prop} {next:Act->World->Prop}
  {f:Operand} {args:Array Operand} {ts:Array TypeId} (hop:o.op = .call { callee:=.value f,args:=args,argTypes:=ts }) {g:FuncId} (hf:evA env f = .func g [] []) {fn:Func} (hfn:P.funcs[g]?=some fn) (hname:(fn.name == "runtime.NumGoroutine")=false)
  (hb:fn.body.isNone=true) (hn:Extern.findNext fn=none) {e:Array Value->Sem Value} (he:Extern.find fn=some e) {v:AV}
  (hsem:∀ vs,VRs r I w D (Xf (evA env) args.toList) vs->∃ x,(e vs).run P w = .ok x w/\VR r I w D v x)
  (hput:Zo N o.dst v env fun env'=>K env' σ) (hnext:∀ a' w',Leaves B w0 I0 pr N r I D w a.defers K a' w'->next a' w'):o.wpIn F 0 P a w next Q:=by
 refine ⟨Us hF o a w,?_⟩
 rw [Oper.semAt_eq _ _ _ (fun c e=>by rw [hop] at e; cases e)]
 have hfv:=Xt S.er f
 rw [hf] at hfv
 have hv:a.eval f = .func (.func g) #[] #[]:=by
  generalize a.eval f=z at hfv
  cases hfv with
  | func _ _ _ _ v0 v1 h0 h1 g0 g1 =>
   have e0:v0 = #[]:=by simpa using h0
   have e1:v1 = #[]:=by simpa using h1
   rw [e0,e1]
 have hargs:=Xm (fun x=>Xt S.er x) args
 obtain ⟨x,h1,h2⟩:=hsem _ hargs
 have hrun:(execOp a.eval o).run P w = .ok (.value x) w:=by
  have:execOp a.eval o=(do let d <-resolve a.eval { callee:=.value f,args:=args,argTypes:=ts } o.type; invoke d.target d.args):=by
   unfold execOp; rw [hop]
  rw [this]
  simp [resolve,hv,Deferred.ofValue,invoke,run_callFunc_extern hfn hname hb hn he,h1,Result.andThen]
 rw [hrun]
 exact hnext _ _ (Zdz (a:=a) S.hr S.er (Wv _ _ _ _) h2 hput)
variable {P:Program} {N:Nat}
inductive Ret (res:PRes) (v:AV) (σ:St):Prop
 | mk (h:Zck res v (tagS σ)):Ret res v σ
inductive Lp (P:Program) (N:Nat) (c:Code) (env:Env) (σ:St) (Q:Exit->Env->St->Prop):Prop
 | mk (h:Awp P N (.loop c) env σ Q):Lp P N c env σ Q
inductive Rg (P:Program) (N:Nat) (f:Operand) (ps:Array Tmp) (x y:Code) (env:Env) (σ:St) (Q:Exit->Env->St->Prop):Prop
 | mk (h:Awp P N (.rangeFunc f ps x y) env σ Q):Rg P N f ps x y env σ Q
inductive SCt (P:Program) (f:FuncId) (args:List AV) (σ:St) (K:AV->St->Prop):Prop
 | mk (h:FnOK P f/\SemCall P f args σ K):SCt P f args σ K
inductive Bd (P:Program) (N:Nat) (c:Code) (env:Env) (σ:St) (Q:Exit->Env->St->Prop):Prop
 | mk (h:Awp P N c env σ Q):Bd P N c env σ Q
inductive Done (p:Prop):Prop
 | mk (h:p):Done p
def asr (b:Bool) (res:PRes):Option PRes:=match b with
 | true=>some res
 | false=>none
theorem Zak {b:Bool} {res r:PRes} (h:asr b res=some r):b=true/\res=r:=by cases b; cases h; cases h; exact ⟨rfl,rfl⟩
theorem limOk {k:Nat} (h:Sn 1000000 (limB k)=true):1000000<=limB k:=Qk h
theorem Yg3 {a b c k:Nat} (h1:a=b) (h2:b=a->b+c<=1000000) (h3:1000000<=limB k:=by exact limOk rfl):a=b/\b+c<=limB k:=⟨h1,Qy (h2 h1.symm) h3⟩
theorem Yg4 {c k:Nat} (h2:c<=1000000) (h3:1000000<=limB k:=by exact limOk rfl):c<=limB k:=Qy h2 h3
theorem Zb5 {p:Prop} [Decidable p] {res:PRes} (h:p):asr (decide p) res=some res:=by rw [decide_eq_true h]; rfl
def cxV (P:Program) (T:Tab) (ok:TypeId->Bool) (sx:FuncId->Bool) (pc:PC):Cx:=⟨T,ok,fun f args σ K=>cond (sx f) (SCt P f args σ K) (Zxi (pc f) args σ K)⟩
theorem Zn8 {T:Tab} {ok:TypeId->Bool} {sx:FuncId->Bool} {pc:PC} (hT:TabOK P T) (hok:EqOK P ok) (hpc:PCOK P pc):CxOK P (cxV P T ok sx pc) :=
 ⟨hT,hok,fun f args σ K h=>by
  simp only [cxV] at h
  cases hs:sx f with
  | true=>rw [hs] at h; exact h.1
  | false=>rw [hs] at h; exact Zbg (fun aZ res hr=>hpc f aZ res hr) h⟩
def hdV (P:Program) (T:Tab) (ok:TypeId->Bool) (sx:FuncId->Bool) (pc:PC) (N:Nat):Hd :=
 ⟨fun c env σ Q=>Lp P N c env σ Q,fun f ps x y env σ Q=>Rg P N f ps x y env σ Q,fun ops env σ K=>Ze9 (cxV P T ok sx pc) pc N ops env σ K⟩
theorem Zv7 {T:Tab} {ok:TypeId->Bool} {sx:FuncId->Bool} {pc:PC} (hT:TabOK P T) (hok:EqOK P ok) (hpc:PCOK P pc) (hm:P.follows .mixedOrders=true) (N:Nat):HdOK P N (hdV P T ok sx pc N) :=
 ⟨fun _ _ _ _ h=>h.1,fun _ _ _ _ _ _ _ h=>h.1,fun id ops env σ K h=>Zcx (Zn8 hT hok hpc) hpc hm id ops env σ K h⟩
variable (Bs:Base P)
abbrev Base.vcode (sx:FuncId->Bool) (pc:PC) (N:Nat) (c:Code) (env:Env) (σ:St) (Q:Exit->Env->St->Prop):Prop:=Zae (cxV P Bs.T Bs.ok sx pc) N (hdV P Bs.T Bs.ok sx pc N) c env σ Q
theorem Base.pv {sx:FuncId->Bool} {pc:PC} (hpc:PCOK P pc) {f:FuncId} {fn:Func} (hf:P.funcs[f]?=some fn) (h1:(fn.name == "runtime.NumGoroutine")=false) (h2:fn.body.isNone=false)
  {args:List AV} {res:PRes} (hids:Ve res.blks.length res.v=true) (hv:Zeb (cxV P Bs.T Bs.ok sx pc) (hdV P Bs.T Bs.ok sx pc) fn args ⟨[],0⟩ (fun v σ=>fA v fun v=>Ret res v σ)):PCall P f args res:=by
 refine Zdb (FnOK.of hf h1 h2) hids (SemCall.tag (Zl8 (Zn8 Bs.hT Bs.hok hpc) (fun N=>Zv7 Bs.hT Bs.hok hpc Bs.hm N) hf hv) fun v σ h=>?_)
 rw [Zps] at h; exact h.1
theorem Base.sv {sx:FuncId->Bool} {pc:PC} (hpc:PCOK P pc) {f:FuncId} {fn:Func} (hf:P.funcs[f]?=some fn) (h1:(fn.name == "runtime.NumGoroutine")=false) (h2:fn.body.isNone=false)
  {args:List AV} {σ:St} {K:AV->St->Prop} (hv:Zeb (cxV P Bs.T Bs.ok sx pc) (hdV P Bs.T Bs.ok sx pc) fn args σ (fun v σ=>fA v fun v=>K v σ)):SCt P f args σ K :=
 ⟨FnOK.of hf h1 h2,SemCall.mono (Zl8 (Zn8 Bs.hT Bs.hok hpc) (fun N=>Zv7 Bs.hT Bs.hok hpc Bs.hm N) hf hv) fun v σ h=>by rw [Zps] at h; exact h⟩
theorem Base.av {sx:FuncId->Bool} {pc:PC} (hpc:PCOK P pc) {c:Code} {env:Env} {σ:St} {Q:Exit->Env->St->Prop} (hv:Zae (cxV P Bs.T Bs.ok sx pc) N (hdV P Bs.T Bs.ok sx pc N) c env σ Q):Awp P N c env σ Q :=
 Yv (Zn8 Bs.hT Bs.hok hpc) (Zv7 Bs.hT Bs.hok hpc Bs.hm N) c env σ Q hv
theorem SCt.pc {f:FuncId} {args args' : List AV} {res:PRes} {σ:St} {K:AV->St->Prop} (h:PCall P f args' res) (ha:Zbb σ.get args=some (args',[])) (hk:K (Zi (fun j=>σ.next+j) res.v) (Zd9 σ res.blks)):SCt P f args σ K:=by
 classical
 refine ⟨Zbg (pc:=fun a=>if a=args' then some res else none) (fun a r hr=>?_) ?_⟩
 ·split at hr
  ·rename_i e; cases hr; rw [e]; exact h
  ·cases hr
 ·unfold Zxi
  rw [ha]
  show Got (if args'=args' then some res else none) _
  rw [if_pos rfl]
  exact hk
theorem Zg {v:AV} {res:AV} {σ:St} (h:v=res) (hp:Zi (listed []) res=res):Ret ⟨res,[]⟩ v σ:=⟨Zao h hp⟩
theorem Zc {k:IntKind} {n m:Int} {σ:St} (h:n=m):Ret ⟨.int k m,[]⟩ (.int k n) σ:=⟨Zcg h⟩
theorem Zf {n m:Bool} {σ:St} (h:n=m):Ret ⟨.bool m,[]⟩ (.bool n) σ:=⟨Yy h⟩
theorem Ym {v:AV} {res:PRes} {σ:St} (ids:List Nat) (hn:Zm1 ids=true) (hv:v=Zi (listed ids) res.v) (hr:Zj9 (tagS σ) ids=some res.blks):Ret res v σ:=by
 obtain ⟨h1,h2⟩:=Zeu hr
 exact ⟨ids,Zey hn,h1,hv,h2⟩
def Zx5 (P:Program) (N n0:Nat) (c:Code) (Q:Exit->Env->St->Prop):Nat->Env->St->Prop
 | 0,_,_=>False
 | m+1,env,σ=>Awp P N c env σ (seqQ (fun env' σ'=>∃ env2 σ2,(Zge env' σ' env2 σ2\/Ren n0 env' σ' env2 σ2)/\Zx5 P N n0 c Q m env2 σ2) Q)
section
variable {r r' : Locs} {D D' : Nat->Prop} {I I' : Imm} {w w' w0:World} {I0:Imm} {B n n' k:Nat} {pr pr' : Nat->Obj->Prop} {h:Nat->ABlk}
theorem Zfq {n0:Nat} {c:Code} {Q:Exit->Env->St->Prop} {F:Fence} {a:Act} (hF:FOK F) (hR:RdOK F pr) (hd0:∀ id,D id->id<n0) :
  ∀ (m:Nat) (env:Env) (σ:St) (pr1:Nat->Obj->Prop) (r1:Locs) (I1:Imm) (D1:Nat->Prop) (a1:Act) (w1:World) (ms:List Deferred),(∀ b o,pr b o->pr1 b o)->Mk w pr1 ms->ms.Pairwise (fun a b=>a.target≠b.target)->a1.defers=ms++a.defers->Zx5 P N n0 c Q m env σ ->
   SR B w0 I0 pr1 N r1 I1 D1 env σ a1 w1->Step r D I w r1 D1 I1 w1->w.heap.size<=w1.heap.size->Code.roundsIn F 0 P c (Post B w0 I0 pr N r I D w a.defers Q) m a1 w1:=by
  intro m
  induction m with
  | zero=>intro env σ pr1 r1 I1 D1 a1 w1 ms _ _ _ _ hv; exact hv.elim
  | succ m ih =>
   intro env σ pr1 r1 I1 D1 a1 w1 ms p1 m1 n1 d1 hv s1 t1 z1
   refine Rt (fun e a2 w2 hp=>?_) (hv F B w0 I0 pr1 r1 I1 D1 a1 w1 hF (hR.le p1) s1)
   obtain ⟨pr2,ms2,env2,σ2,r2,I2,D2,p2,m2,n2,d2,q2,s2,t2,z2⟩:=hp
   have hM:Mk w pr2 (ms2++ms):=by
    intro d hd
    rcases Sc.1 hd with h|h
    ·obtain ⟨b,g1,g2,g3⟩:=m2 d h
     exact ⟨b,g1,g2,Qy z1 g3⟩
    ·obtain ⟨b,g1,g2,g3⟩:=m1 d h
     exact ⟨b,g1,p2 _ _ g2,g3⟩
   have hN:(ms2++ms).Pairwise (fun a b=>a.target≠b.target):=by
    refine Ol.2 ⟨n2,n1,fun x hx y hy e=>?_⟩
    obtain ⟨b,g1,g2,g3⟩:=m2 x hx
    obtain ⟨b',g1',g2',g3'⟩:=m1 y hy
    have:=(Qr.1 (s1.hr.prot _ _ g2').1).1
    rw [g1,g1'] at e
    simp only [Ow] at e
    omega
   have hD:a2.defers=(ms2++ms)++a.defers:=by rw [d2,d1,Oo]
   have hout:∀ e',Q e' env2 σ2->Post B w0 I0 pr N r I D w a.defers Q e' a2 w2:=fun e' hq=>⟨pr2,ms2++ms,env2,σ2,r2,I2,D2,fun b o h=>p2 _ _ (p1 _ _ h),hM,hN,hD,hq,s2,t1.trans t2,Qy z1 z2⟩
   cases e with
   | normal =>
    obtain ⟨env3,σ3,hfr,q3⟩:=q2
    rcases hfr with hfr|hfr
    ·exact ih env3 σ3 pr2 r2 I2 D2 a2 w2 (ms2++ms) (fun b o h=>p2 _ _ (p1 _ _ h)) hM hN hD q3 (s2.forget hfr) (t1.trans t2) (Qy z1 z2)
    ·obtain ⟨r3,D3,H3,k3,e3⟩:=s2.hr.rename (N:=N) hfr
     exact ih env3 σ3 pr2 r3 I2 D3 a2 w2 (ms2++ms) (fun b o h=>p2 _ _ (p1 _ _ h)) hM hN hD q3 ⟨H3,e3 _ s2.er⟩ ((t1.trans t2).rename hd0 k3) (Qy z1 z2)
   | exit id=>exact hout _ q2
   | goto l=>exact hout _ q2
   | ret=>exact hout _ q2
   | panic ch=>exact hout _ q2
   | outgrown=>exact hout _ q2
end
theorem Awp.seqMono {c:Code} {env:Env} {σ:St} {K K' : Env->St->Prop} {Q:Exit->Env->St->Prop} (h:Awp P N c env σ (seqQ K Q)) (hk:∀ env σ,K env σ->K' env σ):Awp P N c env σ (seqQ K' Q) :=
 h.mono fun e env σ hq=>by cases e<;>first|exact hk _ _ hq|exact hq
theorem Zq {S:Type} (μ:S->Nat) (E:S->Env) (Z:S->List (Nat × ABlk)) (n0 n1:Nat) (G:S->Prop) {c:Code} {Q:Exit->Env->St->Prop} (s:S) (hs:G s) {env:Env} {σ:St} (hn:σ.next<=n0) (fl0:List (Nat × Nat))
  (h1:(okF n0 fl0&&Zgu n0 fl0 (Z s)&&imgF n0 fl0&&Sn n0 n1)=true) (h2:RenE (fOf fl0) n1 env (E s)) (h3:RenH (fOf fl0) n1 σ.get (Z s))
  (step:∀ s,G s->Awp P N c (E s) ⟨Z s,n1⟩ (seqQ (fun env' σ'=>Done (∃ s' fl,(okF n0 fl&&Zgu n0 fl (Z s')&&imgF n0 fl&&Sn n0 n1)=true/\RenE (fOf fl) n1 env' (E s')/\RenH (fOf fl) n1 σ'.get (Z s')/\G s'/\μ s'<μ s)) Q)):Lp P N c env σ Q:=by
 have key:∀ n s,μ s<n->G s->Zx5 P N n0 c Q n (E s) ⟨Z s,n1⟩:=by
  intro n
  induction n with
  | zero=>intro s h; omega
  | succ n ih =>
   intro s h hg
   refine (step s hg).seqMono fun env' σ' hq=>?_
   obtain ⟨s',fl,k1,k2,k3,g',m'⟩:=hq.1
   exact ⟨E s',⟨Z s',n1⟩,.inr (Pa fl k1 k2 k3),ih s' (by omega) g'⟩
 refine ⟨fun F B w0 I0 pr r I D a w hF hR S=>?_⟩
 have hr:=Pa (n1:=n1) fl0 h1 h2 h3
 obtain ⟨r2,D2,H2,k2,e2⟩:=S.hr.rename (N:=N) hr
 have hd0:∀ id,D id->id<n0:=fun id hd=>by have:=(S.hr.dom id hd).1; omega
 refine wpIn_loop_rounds (μ s+1) ?_
 exact Zfq hF hR hd0 (μ s+1) (E s) ⟨Z s,n1⟩ pr r2 I D2 a w [] (fun _ _ h=>h) (fun d hd=>by simp at hd) .nil (by simp) (key (μ s+1) s (by omega) hs) ⟨H2,e2 _ S.er⟩ ((Wv _ _ _ _).rename hd0 k2) (Qd _)
theorem Awp.ren {c:Code} {env env2:Env} {σ σ2:St} {Q:Exit->Env->St->Prop} (hr:Ren σ.next env σ env2 σ2) (h:Awp P N c env2 σ2 Q):Awp P N c env σ Q:=by
 intro F B w0 I0 pr r I D a w hF hR S
 obtain ⟨r2,D2,H2,k2,e2⟩:=S.hr.rename (N:=N) hr
 refine Rt (fun e a' w' hp=>?_) (h F B w0 I0 pr r2 I D2 a w hF hR ⟨H2,e2 _ S.er⟩)
 obtain ⟨pr1,ms1,env1,σ1,r1,I1,D1,p1,m1,n1',d1,q1,s1,t1,z1⟩:=hp
 exact ⟨pr1,ms1,env1,σ1,r1,I1,D1,p1,m1,n1',d1,q1,s1,⟨fun id hd=>by
  obtain ⟨a1,a2⟩:=k2 id (S.hr.dom id hd).1 hd
  obtain ⟨b1,b2⟩:=t1.ids id a1
  exact ⟨b1,b2.trans a2⟩,t1.imm,t1.size⟩,z1⟩
theorem Lp.ren {c:Code} {env env2:Env} {σ σ2:St} {Q:Exit->Env->St->Prop} (hr:Ren σ.next env σ env2 σ2) (h:Lp P N c env2 σ2 Q):Lp P N c env σ Q:=⟨h.1.ren hr⟩
theorem Rg.ren {f:Operand} {ps:Array Tmp} {x y:Code} {env env2:Env} {σ σ2:St} {Q:Exit->Env->St->Prop} (hr:Ren σ.next env σ env2 σ2) (h:Rg P N f ps x y env2 σ2 Q):Rg P N f ps x y env σ Q:=⟨h.1.ren hr⟩
theorem Ygk {c:Code} {Q:Exit->Env->St->Prop} (m:Nat) {env:Env} {σ:St} (h:Zqh P N c Q m env σ):Lp P N c env σ Q:=⟨Zi1 h⟩
inductive LpM (P:Program) (N:Nat) (c:Code) (Q:Exit->Env->St->Prop) (m:Nat) (env:Env) (σ:St):Prop
 | mk (h:Zqh P N c Q m env σ):LpM P N c Q m env σ
theorem LpM.start (m:Nat) {c:Code} {Q:Exit->Env->St->Prop} {env:Env} {σ:St} (h:LpM P N c Q m env σ):Lp P N c env σ Q:=Ygk m h.1
theorem LpM.succ {m:Nat} {c:Code} {Q:Exit->Env->St->Prop} {env:Env} {σ:St} (h:Awp P N c env σ (seqQ (fun env' σ'=>LpM P N c Q m env' σ') Q)):LpM P N c Q (m+1) env σ:=⟨h.seqMono fun _ _ k=>k.1⟩
inductive LpR (P:Program) (N n0:Nat) (c:Code) (Q:Exit->Env->St->Prop) (m:Nat) (env:Env) (σ:St):Prop
 | mk (h:∃ env2 σ2,(Zge env σ env2 σ2\/Ren n0 env σ env2 σ2)/\Zx5 P N n0 c Q m env2 σ2):LpR P N n0 c Q m env σ
theorem LpR.go {n0 m:Nat} {c:Code} {Q:Exit->Env->St->Prop} {env env2:Env} {σ σ2:St} (hr:Ren n0 env σ env2 σ2) (h:Awp P N c env2 σ2 (seqQ (fun env' σ'=>LpR P N n0 c Q m env' σ') Q)):LpR P N n0 c Q (m+1) env σ :=
 ⟨⟨env2,σ2,.inr hr,h.seqMono fun _ _ k=>k.1⟩⟩
theorem LpR.start (m n0:Nat) {c:Code} {Q:Exit->Env->St->Prop} {env:Env} {σ:St} (hn:σ.next<=n0) (h:LpR P N n0 c Q m env σ):Lp P N c env σ Q:=by
 obtain ⟨⟨env2,σ2,hr,h⟩⟩:=h
 refine ⟨fun F B w0 I0 pr r I D a w hF hR S=>?_⟩
 have hd0:∀ id,D id->id<n0:=fun id hd=>by have:=(S.hr.dom id hd).1; omega
 refine wpIn_loop_rounds m ?_
 rcases hr with hr|hr
 ·exact Zfq hF hR hd0 m env2 σ2 pr r I D a w [] (fun _ _ h=>h) (fun d hd=>by simp at hd) .nil (by simp) h (S.forget hr) (Wv _ _ _ _) (Qd _)
 ·obtain ⟨r2,D2,H2,k2,e2⟩:=S.hr.rename (N:=N) hr
  exact Zfq hF hR hd0 m env2 σ2 pr r2 I D2 a w [] (fun _ _ h=>h) (fun d hd=>by simp at hd) .nil (by simp) h ⟨H2,e2 _ S.er⟩ ((Wv _ _ _ _).rename hd0 k2) (Qd _)
theorem Zgo {S:Type} (Z:S->List (Nat × ABlk)) (n0 n1:Nat) (G:List (List AV)->S->Prop) {ps:List Tmp} {a b:Code} {env:Env} {Q:Exit->Env->St->Prop}
  (step:∀ x xs s,G (x::xs) s->x.length=ps.length/\Awp P N a (Zfh ps x env) ⟨Z s,n1⟩ fun e env1 σ1=>e = .normal/\Bd P N b env1 σ1 fun e _ σ2=>match e with
   | .normal=>Done (∃ s' fl,(okF n0 fl&&Zgu n0 fl (Z s')&&imgF n0 fl&&Sn n0 n1)=true/\RenH (fOf fl) n1 σ2.get (Z s')/\G xs s')
   | .ret=>Q .ret env σ2
   | .exit id=>Q (.exit id) env σ2
   | _=>False)
  (fin:∀ s,G [] s->Q .normal env ⟨Z s,n1⟩):∀ (xs:List (List AV)) (s:S),G xs s->Zgd P N n0 ps a b env Q xs ⟨Z s,n1⟩
 | [],s,g=>fin s g
 | x::xs,s,g=>by
  obtain ⟨h1,h2⟩:=step x xs s g
  refine ⟨h1,h2.mono fun e env1 σ1 h=>⟨h.1,h.2.1.mono fun e2 env2 σ2 h=>?_⟩⟩
  cases e2 with
  | normal =>
   obtain ⟨s',fl,k1,k2,g'⟩:=h.1
   exact ⟨⟨Z s',n1⟩,.inr (Pa (env':=[]) fl k1 trivial k2),Zgo Z n0 n1 G step fin xs s' g'⟩
  | exit id=>exact h
  | goto l=>exact h
  | ret=>exact h
  | panic ch=>exact h
  | outgrown=>exact h
theorem rngV {f:Operand} {ps:Array Tmp} {x y:Code} {env:Env} {σ:St} {Q:Exit->Env->St->Prop} {g:FuncId} {c0 c1 d0 d1:List AV} {xs:List (List AV)} (h:ItOK P g d0 d1 xs) (hf:evA env f = .func g c0 c1) (h0:Zbb σ.get c0=some (d0,[])) (h1:Zbb σ.get c1=some (d1,[]))
  (hp:Zal N ps.toList=true) (hr:Zgd P N σ.next ps.toList x y env Q xs σ):Rg P N f ps x y env σ Q:=by
 classical
 refine ⟨Zmt (it:=fun g' a b=>if g'=g/\a=d0/\b=d1 then some xs else none) (fun g' a b xs' he=>?_) ?_⟩
 ·split at he
  ·rename_i e; obtain ⟨rfl,rfl,rfl⟩:=e; cases he; exact h
  ·cases he
 ·unfold Zya
  rw [hf]
  dsimp only
  rw [h0,h1]
  show Got (if g=g/\d0=d0/\d1=d1 then some xs else none) _
  rw [if_pos ⟨rfl,rfl,rfl⟩]
  show cond _ _ _
  rw [hp]
  exact hr
theorem Ybd {a b c k:Nat} (n:Nat) (h1:a=b) (hc:c=n) (h2:b+n<=1000000) (h3:1000000<=limB k:=by exact limOk rfl):a=b/\b+c<=limB k:=⟨h1,by rw [hc]; exact Qy h2 h3⟩
class Stop (p:Prop):Prop where
 ok:True
theorem Stop.go {p:Prop} [Stop p] (h:p):p:=h
instance {res:PRes} {v:AV} {σ:St}:Stop (Ret res v σ):=⟨trivial⟩
instance {p:Prop}:Stop (Done p):=⟨trivial⟩
instance {c:Code} {env:Env} {σ:St} {Q:Exit->Env->St->Prop}:Stop (Lp P N c env σ Q):=⟨trivial⟩
instance {f:Operand} {ps:Array Tmp} {x y:Code} {env:Env} {σ:St} {Q:Exit->Env->St->Prop}:Stop (Rg P N f ps x y env σ Q):=⟨trivial⟩
instance {f:FuncId} {args:List AV} {σ:St} {K:AV->St->Prop}:Stop (SCt P f args σ K):=⟨trivial⟩
instance {c:Code} {env:Env} {σ:St} {Q:Exit->Env->St->Prop}:Stop (Bd P N c env σ Q):=⟨trivial⟩
instance {m:Nat} {c:Code} {env:Env} {σ:St} {Q:Exit->Env->St->Prop}:Stop (LpM P N c Q m env σ):=⟨trivial⟩
instance {m n0:Nat} {c:Code} {env:Env} {σ:St} {Q:Exit->Env->St->Prop}:Stop (LpR P N n0 c Q m env σ):=⟨trivial⟩
theorem wkU {b:Bool} (h:b=true:=by first|assumption|exact rfl|exact decide_eq_true (Yg3 (by first|rfl|omega) (by intro _; first|omega|((try simp only [Ra,Rx,Ro]); omega)))|exact decide_eq_true (Ybd 1 (by first|rfl|assumption|omega) rfl (by omega))|exact decide_eq_true (Ybd 2 (by first|rfl|assumption|omega) rfl (by omega))|exact decide_eq_true (Yg4 (by first|omega|((try simp only [Ra,Rx,Ro]); omega)))|exact decide_eq_true (by first|omega|((try simp only [Ra,Rx,Ro]); omega))):b=true:=h
theorem wxA {a b:Prop} (h:a := by kernel_rfl):b->a/\b := fun k => ⟨h, k⟩
theorem wxG {α:Type} {o:Option α} {K:α->Prop} {x:α} (h:o=some x):K x->Got o K := fun k => Tt h k
theorem wcp {p q r:Prop} (s:r->p) (w:q->r):q->p := fun k => s (w k)
theorem wk0 {p q:Prop} (k:q) (h:q->p := by
  intro k
  fail_if_success with_reducible refine Stop.go ?_
  conv => whnf
  first
    | (with_reducible refine Stop.go ?_); exact k
    | revert k
      apply wcp
      · first
          | with_reducible exact wxA
          | (with_reducible refine wxS ?_); exact wkU
          | (fail_if_success with_reducible refine wkB ?_ ?_); first
            | exact wxG (by assumption)
            | exact wxG (Zb5 (by assumption))
            | exact wxG (Zdc _ _)
            | with_reducible exact Ap.fitF (by assumption)
            | with_reducible exact Ap.new
          | fail
      · intro k
        conv => whnf
        exact k
    | fail):p := h k
theorem wk1 {p q:Prop} (k:q) (h:q->p := by
  intro k
  fail_if_success with_reducible refine Stop.go ?_
  conv => whnf
  first
    | (with_reducible refine Stop.go ?_); exact k
    | revert k
      apply wcp
      · first
          | with_reducible exact wxA
          | (with_reducible refine wxS ?_); exact wkU
          | (with_reducible refine wxY ?_); omega
          | (with_reducible refine wxN ?_); omega
          | (with_reducible refine wxQ ?_); omega
          | (with_reducible refine wxR ?_); omega
          | (fail_if_success with_reducible refine wkB ?_ ?_); first
            | exact wxG (by assumption)
            | exact wxG (Zb5 (by assumption))
            | exact wxG (Zdc _ _)
            | with_reducible exact Ap.fitF (by assumption)
            | with_reducible exact Ap.new
          | fail
      · intro k
        conv => whnf
        exact k
    | fail):p := h k
theorem wk3 {p q:Prop} (k:q) (h:q->p := by
  intro k
  fail_if_success with_reducible refine Stop.go ?_
  conv => whnf
  first
    | (with_reducible refine Stop.go ?_); exact k
    | revert k
      apply wcp
      · first
          | with_reducible exact wxA
          | (with_reducible refine wxS ?_); exact wkU
          | (with_reducible refine wxY ?_); omega
          | (with_reducible refine wxN ?_); omega
          | (with_reducible refine wxQ ?_); omega
          | (with_reducible refine wxR ?_); omega
          | with_reducible exact wkC
          | with_reducible exact wkD
          | (fail_if_success with_reducible refine wkB ?_ ?_); first
            | exact wxG (by assumption)
            | exact wxG (Zb5 (by assumption))
            | exact wxG (Zdc _ _)
            | with_reducible exact Ap.fitF (by assumption)
            | with_reducible exact Ap.new
          | fail
      · intro k
        conv => whnf
        exact k
    | fail):p := h k
theorem wk2 {p q r:Prop} (k:q) (l:r) (h:q->r->p := by
  intro k l
  conv => whnf
  fail_if_success with_reducible refine Stop.go ?_
  with_reducible refine wkB ?_ ?_
  · intro e
    conv => whnf
    revert e
    exact k
  · intro e
    conv => whnf
    revert e
    exact l):p := h k l
theorem kps {p:Prop} (h:p := by repeat' (first|exact trivial|refine And.intro ?_ ?_|exact rfl|exact ⟨_, rfl, rfl, rfl⟩)):p := h
variable {r r' : Locs} {I I' I2:Imm} {w w' : World} {P:Program}
mutual
def Frz (bl:List (Nat × List (List AV))):AV->AV->Prop
 | .asl id idx len,.isl es els=>bl[id]?=some (es,els)/\idx=0/\len=els.length
 | .nils,.isl _ els=>els=[]
 | .agg cs,.agg ds=>FrzL bl cs ds
 | .tup cs,.tup ds=>FrzL bl cs ds
 | v,v'=>v=v'/\Zw v=true
def FrzL (bl:List (Nat × List (List AV))):List AV->List AV->Prop
 | [],[]=>True
 | c::cs,d::ds=>Frz bl c d/\FrzL bl cs ds
 | _,_=>False
end
theorem FrzL.get {bl:List (Nat × List (List AV))}:∀ {cs ds:List AV},FrzL bl cs ds->cs.length=ds.length/\∀ (i:Nat) (d:AV),ds[i]?=some d->∃ c,cs[i]?=some c/\Frz bl c d
 | [],[],_=>⟨rfl,fun i d h=>by simp at h⟩
 | c::cs,d::ds,h=>by
  simp only [FrzL] at h
  obtain ⟨h1,h2⟩:=FrzL.get h.2
  refine ⟨by simp [h1],fun i d' hi=>?_⟩
  cases i with
  | zero=>simp at hi; subst hi; exact ⟨c,rfl,h.1⟩
  | succ i=>simpa using h2 i d' (by simpa using hi)
 | [],_::_,h=>by simp [FrzL] at h
 | _::_,[],h=>by simp [FrzL] at h
theorem Yfg {bl:List (Nat × List (List AV))} {D:Nat->Prop} (hst:∀ b o,I' b o->I2 b o)
  (hrow:∀ (j es:Nat) (els:List (List AV)),bl[j]?=some (es,els)->∀ (x:Value),VR r' I' w' D (.asl j 0 els.length) x->VR r' I2 w' (fun _=>False) (.isl es els) x) {v:AV} {x:Value} (hv:VR r' I' w' D v x):∀ v',Frz bl v v'->VR r' I2 w' (fun _=>False) v' x:=by
 have pure:∀ {v:AV} {x:Value},VR r' I' w' D v x->∀ v',(v=v'/\Zw v=true)->VR r' I2 w' (fun _=>False) v' x:=by
  rintro v x hv v' ⟨rfl,hp⟩
  exact (hv.pure hp).mono ⟨fun _ h=>h.elim,fun b o h=>⟨hst b o h,rfl⟩,Qd _⟩
 induction hv with
 | agg D cs vs h0 g ih =>
  intro v' h
  cases v' with
  | agg ds =>
   simp only [Frz] at h
   obtain ⟨h1,h2⟩:=FrzL.get h
   refine .agg _ _ _ (h0.trans h1) fun i c v hc hx=>?_
   obtain ⟨c',hc',hf⟩:=h2 i c hc
   exact ih i c' v hc' hx hrow pure _ hf
  | _=>simp [Frz] at h
 | tup D cs vs h0 g ih =>
  intro v' h
  cases v' with
  | tup ds =>
   simp only [Frz] at h
   obtain ⟨h1,h2⟩:=FrzL.get h
   refine .tup _ _ _ (h0.trans h1) fun i c v hc hx=>?_
   obtain ⟨c',hc',hf⟩:=h2 i c hc
   exact ih i c' v hc' hx hrow pure _ hf
  | _=>simp [Frz] at h
 | asl D id idx len hd hc =>
  intro v' h
  have hv:VR r' I' w' D (.asl id idx len) _:=.asl D id idx len hd hc
  cases v' with
  | isl es els =>
   simp only [Frz] at h
   obtain ⟨h1,rfl,rfl⟩:=h
   exact hrow _ _ _ h1 _ hv
  | _=>exact pure hv _ (by simpa only [Frz] using h)
 | any D v=>intro v' h; exact pure (.any D v) v' (by cases v'<;>simpa only [Frz] using h)
 | bool D b=>intro v' h; exact pure (.bool D b) v' (by cases v'<;>simpa only [Frz] using h)
 | int D k n=>intro v' h; exact pure (.int D k n) v' (by cases v'<;>simpa only [Frz] using h)
 | flt D k n=>intro v' h; exact pure (.flt D k n) v' (by cases v'<;>simpa only [Frz] using h)
 | cpx D k n m=>intro v' h; exact pure (.cpx D k n m) v' (by cases v'<;>simpa only [Frz] using h)
 | val D a n c=>intro v' h; exact pure (.val D a n c) v' (by cases v'<;>simpa only [Frz] using h)
 | str D s=>intro v' h; exact pure (.str D s) v' (by cases v'<;>simpa only [Frz] using h)
 | ptr D id idx sub hd=>intro v' h; exact pure (.ptr D id idx sub hd) v' (by cases v'<;>simpa only [Frz] using h)
 | ipt D cells b o val h1 h2 ih=>intro v' h; exact pure (.ipt D cells b o val h1 h2) v' (by cases v'<;>simpa only [Frz] using h)
 | nilp D=>intro v' h; exact pure (.nilp D) v' (by cases v'<;>simpa only [Frz] using h)
 | nils D =>
  intro v' h
  cases v' with
  | isl es els =>
   simp only [Frz] at h
   subst h
   exact .isl0 _ _ _ _
  | _=>exact pure (.nils D) _ (by simpa only [Frz] using h)
 | bsl D id idx sub len cap hd=>intro v' h; exact pure (.bsl D id idx sub len cap hd) v' (by cases v'<;>simpa only [Frz] using h)
 | isl0 D es a cap=>intro v' h; exact pure (.isl0 D es a cap) v' (by cases v'<;>simpa only [Frz] using h)
 | isl D es elems b o cap val hl h0 h1 h2 ih=>intro v' h; exact pure (.isl D es elems b o cap val hl h0 h1 h2) v' (by cases v'<;>simpa only [Frz] using h)
 | amap D id hd=>intro v' h; exact pure (.amap D id hd) v' (by cases v'<;>simpa only [Frz] using h)
 | func D f c0 c1 v0 v1 h0 h1 g0 g1 ih0 ih1=>intro v' h; exact pure (.func D f c0 c1 v0 v1 h0 h1 g0 g1) v' (by cases v'<;>simpa only [Frz] using h)
 | yld D l=>intro v' h; exact pure (.yld D l) v' (by cases v'<;>simpa only [Frz] using h)
theorem PCall.freeze {f:FuncId} {args:List AV} {res:PRes} {v' : AV} (h:PCall P f args res) (hz:Frz res.blks res.v v'):PCall P f args ⟨v',[]⟩:=by
 refine ⟨h.1,fun I w vs hI hv=>(h.2 I w vs hI hv).mono fun e w' hh=>?_⟩
 obtain ⟨x,r',I',rfl,hp⟩:=hh
 let I2:Imm:=fun b o=>I' b o\/∃ (j:Nat) (p:Nat × List (List AV)),res.blks[j]?=some p/\b=(r' j).blk/\∃ (i:Nat) (e:List AV) (jj:Nat) (c:AV),p.2[i]?=some e/\e[jj]?=some c/\o=(r' j).off+i*p.1+jj
 have himm:∀ b o,I' b o->I2 b o:=fun b o h=>.inl h
 refine ⟨x,r',I2,rfl,hp.below,fun b o h=>.inl (hp.immL b o h),fun b o h=>?_,fun b o h=>?_,fun j p hj=>by simp at hj,fun j j' h1=>by simp at h1,?_⟩
 ·rcases h with h|⟨j,p,hj,rfl,_⟩
  ·exact hp.immN b o h
  ·exact .inr (hp.rows j p hj).1
 ·rcases h with h|⟨j,p,hj,rfl,_⟩
  ·exact hp.immS b o h
  ·exact (hp.rows j p hj).2.1
 ·refine (Yfg (I2:=I2) himm (fun j es els hj y hy=>?_) hp.val _ hz).mono ⟨fun _ h=>h.elim,fun _ _ h=>⟨h,rfl⟩,Qd _⟩
  obtain ⟨hb1,hb2,⟨he1,he2⟩,hcap,hlen,cs,T,fz,hcells,hsz,hel,hmt,_⟩:=hp.rows j (es,els) hj
  dsimp only at he1 he2 hcap hlen hsz hel
  cases els with
  | nil =>
   cases hy with
   | asl _ _ _ _ hd hc=>exact .isl0 _ _ _ _
  | cons e0 els =>
   cases hy with
   | asl _ _ _ _ hd hc =>
    rw [he1]
    simp only [Nat.zero_mul,Nat.add_zero,Nat.sub_zero]
    have hcell:∀ (i:Nat) (e:List AV) (jj:Nat) (c:AV),(e0::els)[i]?=some e->e[jj]?=some c->∃ v,w'.cell? ⟨(r' j).blk,(r' j).off+i*es+jj,none⟩=some v/\VR r' I2 w' (fun _=>False) c v:=by
     intro i e jj c hi hjj
     obtain ⟨v,hv1,hv2⟩:=hel i e jj c hi hjj
     refine ⟨v,?_,hv2.mono ⟨fun _ h=>h.2.elim,fun b o h=>⟨himm b o h,rfl⟩,Qd _⟩⟩
     simp [World.cell?,hcells,hv1]
    refine .isl _ _ _ _ _ _ (fun i jj=>(w'.cell? ⟨(r' j).blk,(r' j).off+i*es+jj,none⟩).getD undef) hcap hlen (fun i e jj c hi hjj=>?_) (fun i e jj c hi hjj=>?_)
    ·obtain ⟨v,hv1,_⟩:=hcell i e jj c hi hjj
     exact ⟨.inr ⟨j,(es,e0::els),hj,rfl,i,e,jj,c,hi,hjj,rfl⟩,by rw [hv1]; rfl⟩
    ·obtain ⟨v,hv1,hv2⟩:=hcell i e jj c hi hjj
     rw [hv1]
     exact hv2
end Go.Sx
