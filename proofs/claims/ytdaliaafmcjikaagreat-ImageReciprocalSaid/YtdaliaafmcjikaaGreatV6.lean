/- A part of the proof: lemmas. -/
import Derived.Test.YtdaliaafmcjikaaGreatV5
import Derived.Below
import Derived.ChangeOld
import Derived.JoinedOf
import Derived.KernelRfl
import Derived.Laws.Externs
import Derived.Laws.FloatArith
import Derived.OpenShut
import Derived.ProofKit
import Derived.ShutString
import Derived.WalkKit
set_option linter.unusedVariables false
set_option linter.unusedSimpArgs false
namespace Go.Sx
open Go Go.RowKit
variable {P : Program} {N B l : Nat} {Ig : Imm} {JX : Zs -> (Nat -> Prop) -> World -> Prop}
theorem IS.forget {z : Zs} {env env' : Env} {σ σ' : St} {a : Act} {w : World} (S : IS N B Ig JX z env σ a w) (h : Zgu env σ env' σ') : IS N B Ig JX z env' σ' a w := by
 obtain ⟨⟨r,D,O,H,hO,E,hj⟩,hd⟩ := S
 have S' := SR.forget (B := B) (w0 := w) (I0 := Ig) (pr := prO B O w) (a := a) ⟨H,E⟩ h
 exact ⟨⟨r,D,O,S'.hr,hO,S'.er,hj⟩,hd⟩
theorem AwpI.pre {c : Code} {env env' : Env} {σ σ' : St} {z : Zs} {Q : IQ} (hf : Zgu env σ env' σ') (h : AwpI P N B Ig JX c env' σ' z Q) : AwpI P N B Ig JX c env σ z Q := fun a w S => h a w (S.forget hf)
theorem AwpI.forgets {c : Code} {env : Env} {σ : St} {z : Zs} {Q Q' : IQ} (h : AwpI P N B Ig JX c env σ z Q) (hq : ∀ e env σ z,Q e env σ z -> ∃ env' σ',Zgu env σ env' σ' /\ Q' e env' σ' z) : AwpI P N B Ig JX c env σ z Q' :=
 fun a w S => Code.wpIn_mono (fun e a' w' ⟨env1,σ1,z1,q1,s1⟩ => by
  obtain ⟨env2,σ2,hf,q2⟩ := hq _ _ _ _ q1
  exact ⟨env2,σ2,z1,q2,s1.forget hf⟩) (h a w S)
theorem Zw4 {S : Type} (μ : S -> Nat) (E : S -> Env) (Y : S -> St) (Z : S -> Zs) (ks ms : List Nat) {c : Code} {Q : IQ} (G : S -> Prop)
  (step : ∀ s,G s -> AwpI P N B Ig JX c (E s) (Y s) (Z s) (seqI (fun env' σ' z' => ∃ s',G s' /\ μ s' < μ s /\ Zn8 ks env' = E s' /\ Yaa ms σ' = Y s' /\ z' = Z s') Q))
  (s : S) (hs : G s) {env : Env} {σ : St} {z : Zs} (he : Zn8 ks env = E s) (hy : Yaa ms σ = Y s) (hz : z = Z s) : AwpI P N B Ig JX (.loop c) env σ z Q := by
 have key : ∀ n s,μ s < n -> G s -> Ybg (AwpI P N B Ig JX) c Q n (E s) (Y s) (Z s) := by
  intro n
  induction n with
  | zero => intro s h; omega
  | succ n ih =>
   intro s h hg
   simp only [Ybg]
   refine (step s hg).forgets fun e env' σ' z' hq => ?_
   cases e with
   | normal =>
    obtain ⟨s',g',m',e1,e2,e3⟩ := hq
    refine ⟨Zn8 ks env',Yaa ms σ',Zjn _ _ _ _,?_⟩
    simp only [seqI]
    rw [e1,e2,e3]
    exact ih s' (by omega) g'
   | exit id => exact ⟨env',σ',⟨fun _ => .inl rfl,fun _ => .inl rfl,rfl⟩,hq⟩
   | goto l => exact ⟨env',σ',⟨fun _ => .inl rfl,fun _ => .inl rfl,rfl⟩,hq⟩
   | ret => exact ⟨env',σ',⟨fun _ => .inl rfl,fun _ => .inl rfl,rfl⟩,hq⟩
   | panic ch => exact ⟨env',σ',⟨fun _ => .inl rfl,fun _ => .inl rfl,rfl⟩,hq⟩
   | outgrown => exact ⟨env',σ',⟨fun _ => .inl rfl,fun _ => .inl rfl,rfl⟩,hq⟩
 have := Zqa _ (key (μ s + 1) s (by omega) hs)
 rw [<-he,<-hy,<-hz] at this
 exact AwpI.pre (Zjn ks ms env σ) this
def Yib (T : Tab) (fn : Func) : IQ := fun e env' σ' z => (e = .normal \/ e = .ret) /\ (z = some [] \/ z = none) /\ ∃ vs,Zbu T env' σ'.get fn.results.toList = some vs
variable (Bs : Base P)
abbrev Base.icode (Bs : Base P) (pc : PC) (N B l : Nat) (Ig : Imm) (JX : Zs -> (Nat -> Prop) -> World -> Prop) : Code -> Env -> St -> Zs -> IQ -> Prop := Ziq (cxP P Bs.T Bs.ok (fun _ => false) pc) pc N l (fun c env σ z Q => AwpI P N B Ig JX (.loop c) env σ z Q)
theorem Base.awpi {pc : PC} (hpc : PCOK P pc) (hI : ItEnv P B Ig l JX) {c : Code} {env : Env} {σ : St} {z : Zs} {Q : IQ} (hv : Bs.icode pc N B l Ig JX c env σ z Q) : AwpI P N B Ig JX c env σ z Q :=
 Uh (Zlo Bs.hT Bs.hok hpc) hpc hI (fun _ _ _ _ _ h => h) c env σ z Q hv
theorem Base.iter {pc : PC} (hpc : PCOK P pc) {g : FuncId} {fn : Func} {c : Code} (hf : P.funcs[g]? = some fn) (h1 : (fn.name == "runtime.NumGoroutine") = false) (hb : fn.body = some c) {c0 c1 : List AV} {xs : List (List AV)} (hle : Nat.ble (c0.length + 1 + c1.length) fn.ntmps = true)
  (hv : ∀ (B : Nat) (Ig : Imm) (l : Nat) (JX : Zs -> (Nat -> Prop) -> World -> Prop),ItEnv P B Ig l JX -> Bs.icode pc fn.ntmps B l Ig JX c (env0 0 ((c0 ++ [AV.yld l]) ++ c1)) ⟨[],0⟩ (some xs) (Yib Bs.T fn)) : ItOK P g c0 c1 xs :=
 Zt6 Bs.hT hf (FnOK.of hf h1 (by rw [hb]; rfl)) hb (Nat.le_of_ble_eq_true hle) (fun B Ig l JX hI => Bs.awpi hpc hI (hv B Ig l JX hI))
variable {r r' : Locs} {D D' : Nat -> Prop} {I I' : Imm} {w w' w0 : World} {I0 : Imm} {B n n' k N : Nat} {pr pr' : Nat -> Obj -> Prop} {h : Nat -> ABlk} {P : Program}
theorem Yf6 {F : Fence} (hF : FOK F) (o : Oper) {env : Env} {σ : St} {a : Act} (S : SR B w0 I0 pr N r I D env σ a w) {K : Env -> St -> Prop} {Q : Exit -> Act -> World -> Prop} {next : Act -> World -> Prop}
  {f : Operand} {args : Array Operand} {ts : Array TypeId} (hop : o.op = .call { callee := .value f,args := args,argTypes := ts }) {g : FuncId} (hf : evA env f = .func g [] []) {fn : Func} (hfn : P.funcs[g]? = some fn) (hname : (fn.name == "runtime.NumGoroutine") = false)
  (hb : fn.body.isNone = true) (hn : Extern.findNext fn = none) {e : Array Value -> Sem Value} (he : Extern.find fn = some e) {v : AV}
  (hsem : ∀ vs,VRs r I w D (Xt (evA env) args.toList) vs -> ∃ x,(e vs).run P w = .ok x w /\ VR r I w D v x)
  (hput : Zq N o.dst v env fun env' => K env' σ) (hnext : ∀ a' w',Leaves B w0 I0 pr N r I D w a.defers K a' w' -> next a' w') : o.wpIn F 0 P a w next Q := by
 refine ⟨Ub hF o a w,?_⟩
 rw [Oper.semAt_eq _ _ _ (fun c e => by rw [hop] at e; cases e)]
 have hfv := Xc S.er f
 rw [hf] at hfv
 have hv : a.eval f = .func (.func g) #[] #[] := by
  generalize a.eval f = z at hfv
  cases hfv with
  | func _ _ _ _ v0 v1 h0 h1 g0 g1 =>
   have e0 : v0 = #[] := by simpa using h0
   have e1 : v1 = #[] := by simpa using h1
   rw [e0,e1]
 have hargs := Xl (fun x => Xc S.er x) args
 obtain ⟨x,h1,h2⟩ := hsem _ hargs
 have hrun : (execOp a.eval o).run P w = .ok (.value x) w := by
  have : execOp a.eval o = (do let d <-resolve a.eval { callee := .value f,args := args,argTypes := ts } o.type; invoke d.target d.args) := by
   unfold execOp; rw [hop]
  rw [this]
  simp [resolve,hv,Deferred.ofValue,invoke,run_callFunc_extern hfn hname hb hn he,h1,Result.andThen]
 rw [hrun]
 exact hnext _ _ (Zbx (a := a) S.hr S.er (Step.refl _ _ _ _) h2 hput)
variable {P : Program} {N : Nat}
inductive Ret (res : PRes) (v : AV) (σ : St) : Prop
 | mk (h : Zc0 res v (tagS σ)) : Ret res v σ
inductive Lp (P : Program) (N : Nat) (c : Code) (env : Env) (σ : St) (Q : Exit -> Env -> St -> Prop) : Prop
 | mk (h : Awp P N (.loop c) env σ Q) : Lp P N c env σ Q
inductive Rg (P : Program) (N : Nat) (f : Operand) (ps : Array Tmp) (x y : Code) (env : Env) (σ : St) (Q : Exit -> Env -> St -> Prop) : Prop
 | mk (h : Awp P N (.rangeFunc f ps x y) env σ Q) : Rg P N f ps x y env σ Q
inductive SCt (P : Program) (f : FuncId) (args : List AV) (σ : St) (K : AV -> St -> Prop) : Prop
 | mk (h : FnOK P f /\ SemCall P f args σ K) : SCt P f args σ K
inductive Bd (P : Program) (N : Nat) (c : Code) (env : Env) (σ : St) (Q : Exit -> Env -> St -> Prop) : Prop
 | mk (h : Awp P N c env σ Q) : Bd P N c env σ Q
inductive Done (p : Prop) : Prop
 | mk (h : p) : Done p
def asr (b : Bool) (res : PRes) : Option PRes := match b with
 | true => some res
 | false => none
theorem Uq {b : Bool} {res r : PRes} (h : asr b res = some r) : b = true /\ res = r := by cases b; cases h; cases h; exact ⟨rfl,rfl⟩
theorem Yia {a b c : Nat} (h1 : a = b) (h2 : b = a -> b + c <= 1000000) : a = b /\ b + c <= 1000000 := ⟨h1,h2 h1.symm⟩
theorem Zb8 {p : Prop} [Decidable p] {res : PRes} (h : p) : asr (decide p) res = some res := by rw [decide_eq_true h]; rfl
def cxV (P : Program) (T : Tab) (ok : TypeId -> Bool) (sx : FuncId -> Bool) (pc : PC) : Cx := ⟨T,ok,fun f args σ K => cond (sx f) (SCt P f args σ K) (Zyg (pc f) args σ K)⟩
theorem Zgl {T : Tab} {ok : TypeId -> Bool} {sx : FuncId -> Bool} {pc : PC} (hT : TabOK P T) (hok : EqOK P ok) (hpc : PCOK P pc) : CxOK P (cxV P T ok sx pc) :=
 ⟨hT,hok,fun f args σ K h => by
  simp only [cxV] at h
  cases hs : sx f with
  | true => rw [hs] at h; exact h.1
  | false => rw [hs] at h; exact Zbg (fun aZ res hr => hpc f aZ res hr) h⟩
def hdV (P : Program) (T : Tab) (ok : TypeId -> Bool) (sx : FuncId -> Bool) (pc : PC) (N : Nat) : Hd :=
 ⟨fun c env σ Q => Lp P N c env σ Q,fun f ps x y env σ Q => Rg P N f ps x y env σ Q,fun ops env σ K => Zfw (cxV P T ok sx pc) pc N ops env σ K⟩
theorem Zw9 {T : Tab} {ok : TypeId -> Bool} {sx : FuncId -> Bool} {pc : PC} (hT : TabOK P T) (hok : EqOK P ok) (hpc : PCOK P pc) (hm : P.follows .mixedOrders = true) (N : Nat) : HdOK P N (hdV P T ok sx pc N) :=
 ⟨fun _ _ _ _ h => h.1,fun _ _ _ _ _ _ _ h => h.1,fun id ops env σ K h => Zde (Zgl hT hok hpc) hpc hm id ops env σ K h⟩
variable (Bs : Base P)
abbrev Base.vcode (sx : FuncId -> Bool) (pc : PC) (N : Nat) (c : Code) (env : Env) (σ : St) (Q : Exit -> Env -> St -> Prop) : Prop := Zaf (cxV P Bs.T Bs.ok sx pc) N (hdV P Bs.T Bs.ok sx pc N) c env σ Q
theorem Base.pv {sx : FuncId -> Bool} {pc : PC} (hpc : PCOK P pc) {f : FuncId} {fn : Func} (hf : P.funcs[f]? = some fn) (h1 : (fn.name == "runtime.NumGoroutine") = false) (h2 : fn.body.isNone = false)
  {args : List AV} {res : PRes} (hids : Vf res.blks.length res.v = true) (hv : Zhs (cxV P Bs.T Bs.ok sx pc) (hdV P Bs.T Bs.ok sx pc) fn args ⟨[],0⟩ (fun v σ => fA v fun v => Ret res v σ)) : PCall P f args res := by
 refine Zdt (FnOK.of hf h1 h2) hids (SemCall.tag (Zm2 (Zgl Bs.hT Bs.hok hpc) (fun N => Zw9 Bs.hT Bs.hok hpc Bs.hm N) hf hv) fun v σ h => ?_)
 rw [Zqs] at h; exact h.1
theorem Base.sv {sx : FuncId -> Bool} {pc : PC} (hpc : PCOK P pc) {f : FuncId} {fn : Func} (hf : P.funcs[f]? = some fn) (h1 : (fn.name == "runtime.NumGoroutine") = false) (h2 : fn.body.isNone = false)
  {args : List AV} {σ : St} {K : AV -> St -> Prop} (hv : Zhs (cxV P Bs.T Bs.ok sx pc) (hdV P Bs.T Bs.ok sx pc) fn args σ (fun v σ => fA v fun v => K v σ)) : SCt P f args σ K :=
 ⟨FnOK.of hf h1 h2,SemCall.mono (Zm2 (Zgl Bs.hT Bs.hok hpc) (fun N => Zw9 Bs.hT Bs.hok hpc Bs.hm N) hf hv) fun v σ h => by rw [Zqs] at h; exact h⟩
theorem Base.av {sx : FuncId -> Bool} {pc : PC} (hpc : PCOK P pc) {c : Code} {env : Env} {σ : St} {Q : Exit -> Env -> St -> Prop} (hv : Zaf (cxV P Bs.T Bs.ok sx pc) N (hdV P Bs.T Bs.ok sx pc N) c env σ Q) : Awp P N c env σ Q :=
 Yt (Zgl Bs.hT Bs.hok hpc) (Zw9 Bs.hT Bs.hok hpc Bs.hm N) c env σ Q hv
theorem SCt.pc {f : FuncId} {args args' : List AV} {res : PRes} {σ : St} {K : AV -> St -> Prop} (h : PCall P f args' res) (ha : Zar σ.get args = some (args',[])) (hk : K (Zi (fun j => σ.next + j) res.v) (Zeu σ res.blks)) : SCt P f args σ K := by
 classical
 refine ⟨Zbg (pc := fun a => if a = args' then some res else none) (fun a r hr => ?_) ?_⟩
 ·split at hr
  ·rename_i e; cases hr; rw [e]; exact h
  ·cases hr
 ·unfold Zyg
  rw [ha]
  show Got (if args' = args' then some res else none) _
  rw [if_pos rfl]
  exact hk
theorem Zg {v : AV} {res : AV} {σ : St} (h : v = res) (hp : Zi (listed []) res = res) : Ret ⟨res,[]⟩ v σ := ⟨Zap h hp⟩
theorem Za {k : IntKind} {n m : Int} {σ : St} (h : n = m) : Ret ⟨.int k m,[]⟩ (.int k n) σ := ⟨Zcu h⟩
theorem Zc {n m : Bool} {σ : St} (h : n = m) : Ret ⟨.bool m,[]⟩ (.bool n) σ := ⟨Yx h⟩
theorem Xb {v : AV} {res : PRes} {σ : St} (ids : List Nat) (hn : Zn0 ids = true) (hv : v = Zi (listed ids) res.v) (hr : Zk3 (tagS σ) ids = some res.blks) : Ret res v σ := by
 obtain ⟨h1,h2⟩ := Zfe hr
 exact ⟨ids,Zfl hn,h1,hv,h2⟩
def Ybf (P : Program) (N n0 : Nat) (c : Code) (Q : Exit -> Env -> St -> Prop) : Nat -> Env -> St -> Prop
 | 0,_,_ => False
 | m + 1,env,σ => Awp P N c env σ (seqQ (fun env' σ' => ∃ env2 σ2,(Zgu env' σ' env2 σ2 \/ Ren n0 env' σ' env2 σ2) /\ Ybf P N n0 c Q m env2 σ2) Q)
section
variable {r r' : Locs} {D D' : Nat -> Prop} {I I' : Imm} {w w' w0 : World} {I0 : Imm} {B n n' k : Nat} {pr pr' : Nat -> Obj -> Prop} {h : Nat -> ABlk}
theorem Zjk {n0 : Nat} {c : Code} {Q : Exit -> Env -> St -> Prop} {F : Fence} {a : Act} (hF : FOK F) (hR : RdOK F pr) (hd0 : ∀ id,D id -> id < n0) :
  ∀ (m : Nat) (env : Env) (σ : St) (pr1 : Nat -> Obj -> Prop) (r1 : Locs) (I1 : Imm) (D1 : Nat -> Prop) (a1 : Act) (w1 : World) (ms : List Deferred),(∀ b o,pr b o -> pr1 b o) -> Mk w pr1 ms -> ms.Pairwise (fun a b => a.target ≠ b.target) -> a1.defers = ms ++ a.defers -> Ybf P N n0 c Q m env σ ->
   SR B w0 I0 pr1 N r1 I1 D1 env σ a1 w1 -> Step r D I w r1 D1 I1 w1 -> w.heap.size <= w1.heap.size -> Code.roundsIn F 0 P c (Post B w0 I0 pr N r I D w a.defers Q) m a1 w1 := by
  intro m
  induction m with
  | zero => intro env σ pr1 r1 I1 D1 a1 w1 ms _ _ _ _ hv; exact hv.elim
  | succ m ih =>
   intro env σ pr1 r1 I1 D1 a1 w1 ms p1 m1 n1 d1 hv s1 t1 z1
   refine Code.wpIn_mono (fun e a2 w2 hp => ?_) (hv F B w0 I0 pr1 r1 I1 D1 a1 w1 hF (hR.le p1) s1)
   obtain ⟨pr2,ms2,env2,σ2,r2,I2,D2,p2,m2,n2,d2,q2,s2,t2,z2⟩ := hp
   have hM : Mk w pr2 (ms2 ++ ms) := by
    intro d hd
    rcases List.mem_append.1 hd with h | h
    ·obtain ⟨b,g1,g2,g3⟩ := m2 d h
     exact ⟨b,g1,g2,Nat.le_trans z1 g3⟩
    ·obtain ⟨b,g1,g2,g3⟩ := m1 d h
     exact ⟨b,g1,p2 _ _ g2,g3⟩
   have hN : (ms2 ++ ms).Pairwise (fun a b => a.target ≠ b.target) := by
    refine List.pairwise_append.2 ⟨n2,n1,fun x hx y hy e => ?_⟩
    obtain ⟨b,g1,g2,g3⟩ := m2 x hx
    obtain ⟨b',g1',g2',g3'⟩ := m1 y hy
    have := (Array.getElem?_eq_some_iff.1 (s1.hr.prot _ _ g2').1).1
    rw [g1,g1'] at e
    simp only [Target.collected.injEq] at e
    omega
   have hD : a2.defers = (ms2 ++ ms) ++ a.defers := by rw [d2,d1,List.append_assoc]
   have hout : ∀ e',Q e' env2 σ2 -> Post B w0 I0 pr N r I D w a.defers Q e' a2 w2 := fun e' hq => ⟨pr2,ms2 ++ ms,env2,σ2,r2,I2,D2,fun b o h => p2 _ _ (p1 _ _ h),hM,hN,hD,hq,s2,t1.trans t2,Nat.le_trans z1 z2⟩
   cases e with
   | normal =>
    obtain ⟨env3,σ3,hfr,q3⟩ := q2
    rcases hfr with hfr | hfr
    ·exact ih env3 σ3 pr2 r2 I2 D2 a2 w2 (ms2 ++ ms) (fun b o h => p2 _ _ (p1 _ _ h)) hM hN hD q3 (s2.forget hfr) (t1.trans t2) (Nat.le_trans z1 z2)
    ·obtain ⟨r3,D3,H3,k3,e3⟩ := s2.hr.rename (N := N) hfr
     exact ih env3 σ3 pr2 r3 I2 D3 a2 w2 (ms2 ++ ms) (fun b o h => p2 _ _ (p1 _ _ h)) hM hN hD q3 ⟨H3,e3 _ s2.er⟩ ((t1.trans t2).rename hd0 k3) (Nat.le_trans z1 z2)
   | exit id => exact hout _ q2
   | goto l => exact hout _ q2
   | ret => exact hout _ q2
   | panic ch => exact hout _ q2
   | outgrown => exact hout _ q2
end
theorem Awp.seqMono {c : Code} {env : Env} {σ : St} {K K' : Env -> St -> Prop} {Q : Exit -> Env -> St -> Prop} (h : Awp P N c env σ (seqQ K Q)) (hk : ∀ env σ,K env σ -> K' env σ) : Awp P N c env σ (seqQ K' Q) :=
 h.mono fun e env σ hq => by cases e <;> first | exact hk _ _ hq | exact hq
theorem Yc {S : Type} (μ : S -> Nat) (E : S -> Env) (Z : S -> List (Nat × ABlk)) (n0 n1 : Nat) (G : S -> Prop) {c : Code} {Q : Exit -> Env -> St -> Prop} (s : S) (hs : G s) {env : Env} {σ : St} (hn : σ.next <= n0) (fl0 : List (Nat × Nat))
  (h1 : (okF n0 fl0 && Zkk n0 fl0 (Z s) && imgF n0 fl0 && Nat.ble n0 n1) = true) (h2 : RenE (fOf fl0) n1 env (E s)) (h3 : RenH (fOf fl0) n1 σ.get (Z s))
  (step : ∀ s,G s -> Awp P N c (E s) ⟨Z s,n1⟩ (seqQ (fun env' σ' => Done (∃ s' fl,(okF n0 fl && Zkk n0 fl (Z s') && imgF n0 fl && Nat.ble n0 n1) = true /\ RenE (fOf fl) n1 env' (E s') /\ RenH (fOf fl) n1 σ'.get (Z s') /\ G s' /\ μ s' < μ s)) Q)) : Lp P N c env σ Q := by
 have key : ∀ n s,μ s < n -> G s -> Ybf P N n0 c Q n (E s) ⟨Z s,n1⟩ := by
  intro n
  induction n with
  | zero => intro s h; omega
  | succ n ih =>
   intro s h hg
   refine (step s hg).seqMono fun env' σ' hq => ?_
   obtain ⟨s',fl,k1,k2,k3,g',m'⟩ := hq.1
   exact ⟨E s',⟨Z s',n1⟩,.inr (Ren.of fl k1 k2 k3),ih s' (by omega) g'⟩
 refine ⟨fun F B w0 I0 pr r I D a w hF hR S => ?_⟩
 have hr := Ren.of (n1 := n1) fl0 h1 h2 h3
 obtain ⟨r2,D2,H2,k2,e2⟩ := S.hr.rename (N := N) hr
 have hd0 : ∀ id,D id -> id < n0 := fun id hd => by have := (S.hr.dom id hd).1; omega
 refine wpIn_loop_rounds (μ s + 1) ?_
 exact Zjk hF hR hd0 (μ s + 1) (E s) ⟨Z s,n1⟩ pr r2 I D2 a w [] (fun _ _ h => h) (fun d hd => by simp at hd) .nil (by simp) (key (μ s + 1) s (by omega) hs) ⟨H2,e2 _ S.er⟩ ((Step.refl _ _ _ _).rename hd0 k2) (Nat.le_refl _)
theorem Awp.ren {c : Code} {env env2 : Env} {σ σ2 : St} {Q : Exit -> Env -> St -> Prop} (hr : Ren σ.next env σ env2 σ2) (h : Awp P N c env2 σ2 Q) : Awp P N c env σ Q := by
 intro F B w0 I0 pr r I D a w hF hR S
 obtain ⟨r2,D2,H2,k2,e2⟩ := S.hr.rename (N := N) hr
 refine Code.wpIn_mono (fun e a' w' hp => ?_) (h F B w0 I0 pr r2 I D2 a w hF hR ⟨H2,e2 _ S.er⟩)
 obtain ⟨pr1,ms1,env1,σ1,r1,I1,D1,p1,m1,n1',d1,q1,s1,t1,z1⟩ := hp
 exact ⟨pr1,ms1,env1,σ1,r1,I1,D1,p1,m1,n1',d1,q1,s1,⟨fun id hd => by
  obtain ⟨a1,a2⟩ := k2 id (S.hr.dom id hd).1 hd
  obtain ⟨b1,b2⟩ := t1.ids id a1
  exact ⟨b1,b2.trans a2⟩,t1.imm,t1.size⟩,z1⟩
theorem Lp.ren {c : Code} {env env2 : Env} {σ σ2 : St} {Q : Exit -> Env -> St -> Prop} (hr : Ren σ.next env σ env2 σ2) (h : Lp P N c env2 σ2 Q) : Lp P N c env σ Q := ⟨h.1.ren hr⟩
theorem Rg.ren {f : Operand} {ps : Array Tmp} {x y : Code} {env env2 : Env} {σ σ2 : St} {Q : Exit -> Env -> St -> Prop} (hr : Ren σ.next env σ env2 σ2) (h : Rg P N f ps x y env2 σ2 Q) : Rg P N f ps x y env σ Q := ⟨h.1.ren hr⟩
theorem Yhs {c : Code} {Q : Exit -> Env -> St -> Prop} (m : Nat) {env : Env} {σ : St} (h : Zrc P N c Q m env σ) : Lp P N c env σ Q := ⟨Zjj h⟩
inductive LpM (P : Program) (N : Nat) (c : Code) (Q : Exit -> Env -> St -> Prop) (m : Nat) (env : Env) (σ : St) : Prop
 | mk (h : Zrc P N c Q m env σ) : LpM P N c Q m env σ
theorem LpM.start (m : Nat) {c : Code} {Q : Exit -> Env -> St -> Prop} {env : Env} {σ : St} (h : LpM P N c Q m env σ) : Lp P N c env σ Q := Yhs m h.1
theorem LpM.succ {m : Nat} {c : Code} {Q : Exit -> Env -> St -> Prop} {env : Env} {σ : St} (h : Awp P N c env σ (seqQ (fun env' σ' => LpM P N c Q m env' σ') Q)) : LpM P N c Q (m + 1) env σ := ⟨h.seqMono fun _ _ k => k.1⟩
inductive LpR (P : Program) (N n0 : Nat) (c : Code) (Q : Exit -> Env -> St -> Prop) (m : Nat) (env : Env) (σ : St) : Prop
 | mk (h : ∃ env2 σ2,(Zgu env σ env2 σ2 \/ Ren n0 env σ env2 σ2) /\ Ybf P N n0 c Q m env2 σ2) : LpR P N n0 c Q m env σ
theorem LpR.go {n0 m : Nat} {c : Code} {Q : Exit -> Env -> St -> Prop} {env env2 : Env} {σ σ2 : St} (hr : Ren n0 env σ env2 σ2) (h : Awp P N c env2 σ2 (seqQ (fun env' σ' => LpR P N n0 c Q m env' σ') Q)) : LpR P N n0 c Q (m + 1) env σ :=
 ⟨⟨env2,σ2,.inr hr,h.seqMono fun _ _ k => k.1⟩⟩
theorem LpR.start (m n0 : Nat) {c : Code} {Q : Exit -> Env -> St -> Prop} {env : Env} {σ : St} (hn : σ.next <= n0) (h : LpR P N n0 c Q m env σ) : Lp P N c env σ Q := by
 obtain ⟨⟨env2,σ2,hr,h⟩⟩ := h
 refine ⟨fun F B w0 I0 pr r I D a w hF hR S => ?_⟩
 have hd0 : ∀ id,D id -> id < n0 := fun id hd => by have := (S.hr.dom id hd).1; omega
 refine wpIn_loop_rounds m ?_
 rcases hr with hr | hr
 ·exact Zjk hF hR hd0 m env2 σ2 pr r I D a w [] (fun _ _ h => h) (fun d hd => by simp at hd) .nil (by simp) h (S.forget hr) (Step.refl _ _ _ _) (Nat.le_refl _)
 ·obtain ⟨r2,D2,H2,k2,e2⟩ := S.hr.rename (N := N) hr
  exact Zjk hF hR hd0 m env2 σ2 pr r2 I D2 a w [] (fun _ _ h => h) (fun d hd => by simp at hd) .nil (by simp) h ⟨H2,e2 _ S.er⟩ ((Step.refl _ _ _ _).rename hd0 k2) (Nat.le_refl _)
theorem Zff {S : Type} (Z : S -> List (Nat × ABlk)) (n0 n1 : Nat) (G : List (List AV) -> S -> Prop) {ps : List Tmp} {a b : Code} {env : Env} {Q : Exit -> Env -> St -> Prop}
  (step : ∀ x xs s,G (x :: xs) s -> x.length = ps.length /\ Awp P N a (Zdq ps x env) ⟨Z s,n1⟩ fun e env1 σ1 => e = .normal /\ Bd P N b env1 σ1 fun e _ σ2 => match e with
   | .normal => Done (∃ s' fl,(okF n0 fl && Zkk n0 fl (Z s') && imgF n0 fl && Nat.ble n0 n1) = true /\ RenH (fOf fl) n1 σ2.get (Z s') /\ G xs s')
   | .ret => Q .ret env σ2
   | .exit id => Q (.exit id) env σ2
   | _ => False)
  (fin : ∀ s,G [] s -> Q .normal env ⟨Z s,n1⟩) : ∀ (xs : List (List AV)) (s : S),G xs s -> Zh5 P N n0 ps a b env Q xs ⟨Z s,n1⟩
 | [],s,g => fin s g
 | x :: xs,s,g => by
  obtain ⟨h1,h2⟩ := step x xs s g
  refine ⟨h1,h2.mono fun e env1 σ1 h => ⟨h.1,h.2.1.mono fun e2 env2 σ2 h => ?_⟩⟩
  cases e2 with
  | normal =>
   obtain ⟨s',fl,k1,k2,g'⟩ := h.1
   exact ⟨⟨Z s',n1⟩,.inr (Ren.of (env' := []) fl k1 trivial k2),Zff Z n0 n1 G step fin xs s' g'⟩
  | exit id => exact h
  | goto l => exact h
  | ret => exact h
  | panic ch => exact h
  | outgrown => exact h
theorem rngV {f : Operand} {ps : Array Tmp} {x y : Code} {env : Env} {σ : St} {Q : Exit -> Env -> St -> Prop} {g : FuncId} {c0 c1 d0 d1 : List AV} {xs : List (List AV)} (h : ItOK P g d0 d1 xs) (hf : evA env f = .func g c0 c1) (h0 : Zar σ.get c0 = some (d0,[])) (h1 : Zar σ.get c1 = some (d1,[]))
  (hp : Vh N ps.toList = true) (hr : Zh5 P N σ.next ps.toList x y env Q xs σ) : Rg P N f ps x y env σ Q := by
 classical
 refine ⟨Znq (it := fun g' a b => if g' = g /\ a = d0 /\ b = d1 then some xs else none) (fun g' a b xs' he => ?_) ?_⟩
 ·split at he
  ·rename_i e; obtain ⟨rfl,rfl,rfl⟩ := e; cases he; exact h
  ·cases he
 ·unfold Zy8
  rw [hf]
  dsimp only
  rw [h0,h1]
  show Got (if g = g /\ d0 = d0 /\ d1 = d1 then some xs else none) _
  rw [if_pos ⟨rfl,rfl,rfl⟩]
  show cond _ _ _
  rw [hp]
  exact hr
theorem Yc2 {a b c : Nat} (n : Nat) (h1 : a = b) (hc : c = n) (h2 : b + n <= 1000000) : a = b /\ b + c <= 1000000 := ⟨h1,by rw [hc]; exact h2⟩
class Stop (p : Prop) : Prop where
 ok : True
theorem Stop.go {p : Prop} [Stop p] (h : p) : p := h
instance {res : PRes} {v : AV} {σ : St} : Stop (Ret res v σ) := ⟨trivial⟩
instance {p : Prop} : Stop (Done p) := ⟨trivial⟩
instance {c : Code} {env : Env} {σ : St} {Q : Exit -> Env -> St -> Prop} : Stop (Lp P N c env σ Q) := ⟨trivial⟩
instance {f : Operand} {ps : Array Tmp} {x y : Code} {env : Env} {σ : St} {Q : Exit -> Env -> St -> Prop} : Stop (Rg P N f ps x y env σ Q) := ⟨trivial⟩
instance {f : FuncId} {args : List AV} {σ : St} {K : AV -> St -> Prop} : Stop (SCt P f args σ K) := ⟨trivial⟩
instance {c : Code} {env : Env} {σ : St} {Q : Exit -> Env -> St -> Prop} : Stop (Bd P N c env σ Q) := ⟨trivial⟩
instance {m : Nat} {c : Code} {env : Env} {σ : St} {Q : Exit -> Env -> St -> Prop} : Stop (LpM P N c Q m env σ) := ⟨trivial⟩
instance {m n0 : Nat} {c : Code} {env : Env} {σ : St} {Q : Exit -> Env -> St -> Prop} : Stop (LpR P N n0 c Q m env σ) := ⟨trivial⟩
theorem wkU {b : Bool} (h : b = true := by first | assumption | exact rfl | exact decide_eq_true (Yia (by first | rfl | omega) (by intro _; first | omega | ((try simp only [List.length_cons,List.length_nil,List.length_append]); omega))) | exact decide_eq_true (Yc2 1 (by first | rfl | assumption | omega) rfl (by omega)) | exact decide_eq_true (Yc2 2 (by first | rfl | assumption | omega) rfl (by omega)) | exact decide_eq_true (by first | omega | ((try simp only [List.length_cons,List.length_nil,List.length_append]); omega))) : b = true := h
theorem wxA {a b : Prop} (h : a := by kernel_rfl) : b -> a /\ b := fun k => ⟨h,k⟩
theorem wxG {α : Type} {o : Option α} {K : α -> Prop} {x : α} (h : o = some x) : K x -> Got o K := fun k => Got.intro h k
theorem wk0 {p q : Prop} (k : q) (h : q -> p := by
 intro k
 conv => whnf
 fail_if_success with_reducible refine Stop.go ?_
 revert k
 first
  | with_reducible exact wxA
  | (with_reducible refine wxS ?_); exact wkU
  | fail) : p := h k
theorem wk1 {p q : Prop} (k : q) (h : q -> p := by
 intro k
 conv => whnf
 fail_if_success with_reducible refine Stop.go ?_
 revert k
 first
  | with_reducible exact wxA
  | (with_reducible refine wxS ?_); exact wkU
  | (with_reducible refine wxY ?_); omega
  | (with_reducible refine wxN ?_); omega
  | (with_reducible refine wxQ ?_); omega
  | (with_reducible refine wxR ?_); omega
  | fail) : p := h k
theorem wk3 {p q : Prop} (k : q) (h : q -> p := by
 intro k
 conv => whnf
 fail_if_success with_reducible refine Stop.go ?_
 revert k
 first
  | with_reducible exact wxA
  | (with_reducible refine wxS ?_); exact wkU
  | (with_reducible refine wxY ?_); omega
  | (with_reducible refine wxN ?_); omega
  | (with_reducible refine wxQ ?_); omega
  | (with_reducible refine wxR ?_); omega
  | with_reducible exact wkC
  | with_reducible exact wkD
  | fail) : p := h k
theorem wk2 {p q r : Prop} (k : q) (l : r) (h : q -> r -> p := by
 intro k l
 conv => whnf
 fail_if_success with_reducible refine Stop.go ?_
 first
  | with_reducible exact wkB k l
  | fail) : p := h k l
theorem wk4 {p q : Prop} (k : q) (h : q -> p := by
 intro k
 conv => whnf
 fail_if_success with_reducible refine Stop.go ?_
 revert k
 first
  | exact wxG (by assumption)
  | exact wxG (Zb8 (by assumption))
  | exact wxG (Ydy _ _)
  | with_reducible exact Ap.fitF (by assumption)
  | with_reducible exact Ap.new
  | fail) : p := h k
theorem kps {p : Prop} (h : p := by repeat' (first | exact trivial | refine And.intro ?_ ?_ | exact rfl | exact ⟨_,rfl,rfl,rfl⟩)) : p := h
variable {r r' : Locs} {I I' I2 : Imm} {w w' : World} {P : Program}
mutual
def Frz (bl : List (Nat × List (List AV))) : AV -> AV -> Prop
 | .asl id idx len,.isl es els => bl[id]? = some (es,els) /\ idx = 0 /\ len = els.length
 | .nils,.isl _ els => els = []
 | .agg cs,.agg ds => FrzL bl cs ds
 | .tup cs,.tup ds => FrzL bl cs ds
 | v,v' => v = v' /\ Zy v = true
def FrzL (bl : List (Nat × List (List AV))) : List AV -> List AV -> Prop
 | [],[] => True
 | c :: cs,d :: ds => Frz bl c d /\ FrzL bl cs ds
 | _,_ => False
end
theorem FrzL.get {bl : List (Nat × List (List AV))} : ∀ {cs ds : List AV},FrzL bl cs ds -> cs.length = ds.length /\ ∀ (i : Nat) (d : AV),ds[i]? = some d -> ∃ c,cs[i]? = some c /\ Frz bl c d
 | [],[],_ => ⟨rfl,fun i d h => by simp at h⟩
 | c :: cs,d :: ds,h => by
  simp only [FrzL] at h
  obtain ⟨h1,h2⟩ := FrzL.get h.2
  refine ⟨by simp [h1],fun i d' hi => ?_⟩
  cases i with
  | zero => simp at hi; subst hi; exact ⟨c,rfl,h.1⟩
  | succ i => simpa using h2 i d' (by simpa using hi)
 | [],_ :: _,h => by simp [FrzL] at h
 | _ :: _,[],h => by simp [FrzL] at h
theorem Ycp {bl : List (Nat × List (List AV))} {D : Nat -> Prop} (hst : ∀ b o,I' b o -> I2 b o)
  (hrow : ∀ (j es : Nat) (els : List (List AV)),bl[j]? = some (es,els) -> ∀ (x : Value),VR r' I' w' D (.asl j 0 els.length) x -> VR r' I2 w' (fun _ => False) (.isl es els) x) {v : AV} {x : Value} (hv : VR r' I' w' D v x) : ∀ v',Frz bl v v' -> VR r' I2 w' (fun _ => False) v' x := by
 have pure : ∀ {v : AV} {x : Value},VR r' I' w' D v x -> ∀ v',(v = v' /\ Zy v = true) -> VR r' I2 w' (fun _ => False) v' x := by
  rintro v x hv v' ⟨rfl,hp⟩
  exact (hv.pure hp).mono ⟨fun _ h => h.elim,fun b o h => ⟨hst b o h,rfl⟩,Nat.le_refl _⟩
 induction hv with
 | agg D cs vs h0 g ih =>
  intro v' h
  cases v' with
  | agg ds =>
   simp only [Frz] at h
   obtain ⟨h1,h2⟩ := FrzL.get h
   refine .agg _ _ _ (h0.trans h1) fun i c v hc hx => ?_
   obtain ⟨c',hc',hf⟩ := h2 i c hc
   exact ih i c' v hc' hx hrow pure _ hf
  | _ => simp [Frz] at h
 | tup D cs vs h0 g ih =>
  intro v' h
  cases v' with
  | tup ds =>
   simp only [Frz] at h
   obtain ⟨h1,h2⟩ := FrzL.get h
   refine .tup _ _ _ (h0.trans h1) fun i c v hc hx => ?_
   obtain ⟨c',hc',hf⟩ := h2 i c hc
   exact ih i c' v hc' hx hrow pure _ hf
  | _ => simp [Frz] at h
 | asl D id idx len hd hc =>
  intro v' h
  have hv : VR r' I' w' D (.asl id idx len) _ := .asl D id idx len hd hc
  cases v' with
  | isl es els =>
   simp only [Frz] at h
   obtain ⟨h1,rfl,rfl⟩ := h
   exact hrow _ _ _ h1 _ hv
  | _ => exact pure hv _ (by simpa only [Frz] using h)
 | any D v => intro v' h; exact pure (.any D v) v' (by cases v' <;> simpa only [Frz] using h)
 | bool D b => intro v' h; exact pure (.bool D b) v' (by cases v' <;> simpa only [Frz] using h)
 | int D k n => intro v' h; exact pure (.int D k n) v' (by cases v' <;> simpa only [Frz] using h)
 | flt D k n => intro v' h; exact pure (.flt D k n) v' (by cases v' <;> simpa only [Frz] using h)
 | cpx D k n m => intro v' h; exact pure (.cpx D k n m) v' (by cases v' <;> simpa only [Frz] using h)
 | val D a n c => intro v' h; exact pure (.val D a n c) v' (by cases v' <;> simpa only [Frz] using h)
 | str D s => intro v' h; exact pure (.str D s) v' (by cases v' <;> simpa only [Frz] using h)
 | ptr D id idx sub hd => intro v' h; exact pure (.ptr D id idx sub hd) v' (by cases v' <;> simpa only [Frz] using h)
 | ipt D cells b o val h1 h2 ih => intro v' h; exact pure (.ipt D cells b o val h1 h2) v' (by cases v' <;> simpa only [Frz] using h)
 | nilp D => intro v' h; exact pure (.nilp D) v' (by cases v' <;> simpa only [Frz] using h)
 | nils D =>
  intro v' h
  cases v' with
  | isl es els =>
   simp only [Frz] at h
   subst h
   exact .isl0 _ _ _ _
  | _ => exact pure (.nils D) _ (by simpa only [Frz] using h)
 | bsl D id idx sub len cap hd => intro v' h; exact pure (.bsl D id idx sub len cap hd) v' (by cases v' <;> simpa only [Frz] using h)
 | isl0 D es a cap => intro v' h; exact pure (.isl0 D es a cap) v' (by cases v' <;> simpa only [Frz] using h)
 | isl D es elems b o cap val hl h0 h1 h2 ih => intro v' h; exact pure (.isl D es elems b o cap val hl h0 h1 h2) v' (by cases v' <;> simpa only [Frz] using h)
 | amap D id hd => intro v' h; exact pure (.amap D id hd) v' (by cases v' <;> simpa only [Frz] using h)
 | func D f c0 c1 v0 v1 h0 h1 g0 g1 ih0 ih1 => intro v' h; exact pure (.func D f c0 c1 v0 v1 h0 h1 g0 g1) v' (by cases v' <;> simpa only [Frz] using h)
 | yld D l => intro v' h; exact pure (.yld D l) v' (by cases v' <;> simpa only [Frz] using h)
theorem PCall.freeze {f : FuncId} {args : List AV} {res : PRes} {v' : AV} (h : PCall P f args res) (hz : Frz res.blks res.v v') : PCall P f args ⟨v',[]⟩ := by
 refine ⟨h.1,fun I w vs hI hv => (h.2 I w vs hI hv).mono fun e w' hh => ?_⟩
 obtain ⟨x,r',I',rfl,hp⟩ := hh
 let I2 : Imm := fun b o => I' b o \/ ∃ (j : Nat) (p : Nat × List (List AV)),res.blks[j]? = some p /\ b = (r' j).blk /\ ∃ (i : Nat) (e : List AV) (jj : Nat) (c : AV),p.2[i]? = some e /\ e[jj]? = some c /\ o = (r' j).off + i * p.1 + jj
 have himm : ∀ b o,I' b o -> I2 b o := fun b o h => .inl h
 refine ⟨x,r',I2,rfl,hp.below,fun b o h => .inl (hp.immL b o h),fun b o h => ?_,fun b o h => ?_,fun j p hj => by simp at hj,fun j j' h1 => by simp at h1,?_⟩
 ·rcases h with h | ⟨j,p,hj,rfl,_⟩
  ·exact hp.immN b o h
  ·exact .inr (hp.rows j p hj).1
 ·rcases h with h | ⟨j,p,hj,rfl,_⟩
  ·exact hp.immS b o h
  ·exact (hp.rows j p hj).2.1
 ·refine (Ycp (I2 := I2) himm (fun j es els hj y hy => ?_) hp.val _ hz).mono ⟨fun _ h => h.elim,fun _ _ h => ⟨h,rfl⟩,Nat.le_refl _⟩
  obtain ⟨hb1,hb2,⟨he1,he2⟩,hcap,hlen,cs,T,fz,hcells,hsz,hel,hmt,_⟩ := hp.rows j (es,els) hj
  dsimp only at he1 he2 hcap hlen hsz hel
  cases els with
  | nil =>
   cases hy with
   | asl _ _ _ _ hd hc => exact .isl0 _ _ _ _
  | cons e0 els =>
   cases hy with
   | asl _ _ _ _ hd hc =>
    rw [he1]
    simp only [Nat.zero_mul,Nat.add_zero,Nat.sub_zero]
    have hcell : ∀ (i : Nat) (e : List AV) (jj : Nat) (c : AV),(e0 :: els)[i]? = some e -> e[jj]? = some c -> ∃ v,w'.cell? ⟨(r' j).blk,(r' j).off + i * es + jj,none⟩ = some v /\ VR r' I2 w' (fun _ => False) c v := by
     intro i e jj c hi hjj
     obtain ⟨v,hv1,hv2⟩ := hel i e jj c hi hjj
     refine ⟨v,?_,hv2.mono ⟨fun _ h => h.2.elim,fun b o h => ⟨himm b o h,rfl⟩,Nat.le_refl _⟩⟩
     simp [World.cell?,hcells,hv1]
    refine .isl _ _ _ _ _ _ (fun i jj => (w'.cell? ⟨(r' j).blk,(r' j).off + i * es + jj,none⟩).getD undef) hcap hlen (fun i e jj c hi hjj => ?_) (fun i e jj c hi hjj => ?_)
    ·obtain ⟨v,hv1,_⟩ := hcell i e jj c hi hjj
     exact ⟨.inr ⟨j,(es,e0 :: els),hj,rfl,i,e,jj,c,hi,hjj,rfl⟩,by rw [hv1]; rfl⟩
    ·obtain ⟨v,hv1,hv2⟩ := hcell i e jj c hi hjj
     rw [hv1]
     exact hv2
def WT (T : Tab) : Nat -> TypeId -> List AV -> Prop
 | 0,_,_ => False
 | d + 1,t,aZ => match T t with
  | none => False
  | some ti => match ti.desc with
   | .bool => ∃ b,aZ = [.bool b]
   | .int k => ∃ n,aZ = [.int k n] /\ (Lit.int k n).wf = true
   | .float k => ∃ b,aZ = [.flt k b] /\ (Lit.float k b).wf = true
   | .string => ∃ s,aZ = [.str s] /\ s.size <= maxLen
   | .slice e => match T e with
    | some te => ∃ els,aZ = [.isl te.size els] /\ els.length <= maxLen /\ ∀ x ∈ els,WT T d e x
    | none => False
   | .struct fs => aZ.length = ti.size /\ ∀ f ∈ fs.toList,match T f.type with
    | some tf => WT T d f.type ((aZ.drop f.offset).take tf.size)
    | none => False
   | .array n e => match T e with
    | some te => aZ.length = ti.size /\ ∀ i,i < n -> WT T d e ((aZ.drop (i * te.size)).take te.size)
    | none => False
   | _ => False
def contig (T : Tab) : Nat -> List Field -> Option Nat
 | o,[] => some o
 | o,f :: fs => match T f.type with
  | some tf => cond (Nat.beq f.offset o) (contig T (o + tf.size) fs) none
  | none => none
def Ziv (T : Tab) (S : List TypeId) (t : TypeId) : Bool := match T t with
 | none => false
 | some ti => match ti.desc with
  | .bool | .int _ | .float _ | .string => Nat.beq ti.size 1
  | .slice e => memN S e && (match T e with
   | some te => Nat.beq ti.size 1 && Nat.blt 0 te.size
   | none => false)
  | .struct fs => fs.toList.all (fun f => memN S f.type) && (match contig T 0 fs.toList with
   | some n => Nat.beq n ti.size
   | none => false)
  | .array n e => memN S e && (match T e with
   | some te => Nat.beq (n * te.size) ti.size
   | none => false)
  | _ => false
theorem Uz {P : Program} {T : Tab} (hT : TabOK P T) {t : TypeId} {ti : TI} (h : T t = some ti) : P.cellsOf t = ti.size := by
 obtain ⟨i,h1,h2,_⟩ := hT.info t ti h
 simp [Program.cellsOf,h1,h2]
def Zh7 (T : Tab) (t : TypeId) : Nat := match T t with
 | some ti => ti.size
 | none => 0
theorem Zss {T : Tab} {seg : Field -> List AV} : ∀ (fs : List Field) (o n : Nat),contig T o fs = some n -> (∀ f ∈ fs,(seg f).length = Zh7 T f.type) ->
  (fs.flatMap seg).length = n - o /\ o <= n /\ ∀ f ∈ fs,o <= f.offset /\ ((fs.flatMap seg).drop (f.offset - o)).take (Zh7 T f.type) = seg f
 | [],o,n,h,_ => by simp only [contig,Option.some.injEq] at h; subst h; simp
 | f :: fs,o,n,h,hs => by
  simp only [contig] at h
  split at h
  ·rename_i tf htf
   cases hb : Nat.beq f.offset o with
   | false => rw [hb] at h; cases h
   | true =>
    rw [hb] at h
    have ho := Nat.eq_of_beq_eq_true hb
    simp only [cond_true] at h
    obtain ⟨h1,h2,h3⟩ := Zss fs (o + tf.size) n h (fun g hg => hs g (by simp [hg]))
    have hf : (seg f).length = tf.size := by rw [hs f (by simp)]; simp [Zh7,htf]
    refine ⟨by simp only [List.flatMap_cons,List.length_append,h1,hf]; omega,by omega,fun g hg => ?_⟩
    simp only [List.flatMap_cons]
    rcases List.mem_cons.1 hg with rfl | hg
    ·refine ⟨by omega,?_⟩
     rw [ho,Nat.sub_self,List.drop_zero]
     have : Zh7 T g.type = (seg g).length := by rw [hs g (by simp)]
     rw [this,List.take_left']
     rfl
    ·obtain ⟨a,b⟩ := h3 g hg
     refine ⟨by omega,?_⟩
     rw [List.drop_append,List.drop_of_length_le (by omega),List.nil_append,show g.offset - o - (seg f).length = g.offset - (o + tf.size) by omega]
     exact b
  ·cases h
theorem Zlp {sz : Nat} {seg : Nat -> List AV} : ∀ (n k : Nat),(∀ i,(seg i).length = sz) -> (((List.range' k n).flatMap seg).length = n * sz /\ ∀ i,i < n -> (((List.range' k n).flatMap seg).drop (i * sz)).take sz = seg (k + i))
 | 0,k,_ => by simp
 | n + 1,k,hs => by
  obtain ⟨h1,h2⟩ := Zlp n (k + 1) hs
  have e : (List.range' k (n + 1)).flatMap seg = seg k ++ (List.range' (k + 1) n).flatMap seg := by simp [List.range'_succ]
  rw [e]
  refine ⟨by rw [List.length_append,h1,hs k]; rw [Nat.add_mul,Nat.one_mul]; omega,fun i hi => ?_⟩
  cases i with
  | zero => simp only [Nat.zero_mul,List.drop_zero,Nat.add_zero]; rw [List.take_left' (hs k)]
  | succ i =>
   rw [List.drop_append,List.drop_of_length_le (by rw [hs k,Nat.add_mul]; omega),List.nil_append,hs k,show (i + 1) * sz - sz = i * sz by rw [Nat.add_mul]; omega,h2 i (by omega)]
   congr 1; omega
section
variable {H : Type} {enc : TypeId × Value -> H} {P : Program} {w : World} {spare : Nat -> Bool} {held : Bool}
def Im0 (w : World) : Imm := fun b _ => b < w.heap.size
def Yhl (T : Tab) (w : World) (d : Nat) (t : TypeId) (cs : List Value) : Prop :=
 ∃ aZ : List AV,aZ.length = cs.length /\ (∀ (i : Nat) (c : AV) (v : Value),aZ[i]? = some c -> cs[i]? = some v -> VR r0 (Im0 w) w (fun _ => False) c v) /\ WT T d t aZ
theorem Za1 {T : Tab} {d : Nat} {t : TypeId} {v : Value} {c : AV} (hv : VR r0 (Im0 w) w (fun _ => False) c v) (hw : WT T d t [c]) : Yhl T w d t [v] :=
 ⟨[c],rfl,fun i c' v' hc hv' => by cases i with
  | zero => simp at hc hv'; subst hc; subst hv'; exact hv
  | succ i => simp at hc,hw⟩
theorem Zi8 {T : Tab} {S : List TypeId} (hS : S.all (Ziv T S) = true) {d : Nat} {t : TypeId} {ti : TI} (ht : T t = some ti) (hm : memN S t = true) {aZ : List AV} (h : WT T d t aZ) : aZ.length = ti.size := by
 have hs := List.all_eq_true.1 hS t (Zbz hm)
 unfold Ziv at hs
 rw [ht] at hs
 cases d with
 | zero => exact h.elim
 | succ d =>
  simp only [WT,ht] at h
  dsimp only at hs
  split at h
  ·rename_i hd; rw [hd] at hs; obtain ⟨b,rfl⟩ := h; simp at hs; simp [hs]
  ·rename_i hd; rw [hd] at hs; obtain ⟨b,rfl,_⟩ := h; simp at hs; simp [hs]
  ·rename_i hd; rw [hd] at hs; obtain ⟨b,rfl,_⟩ := h; simp at hs; simp [hs]
  ·rename_i hd; rw [hd] at hs; obtain ⟨b,rfl,_⟩ := h; simp at hs; simp [hs]
  ·rename_i e hd
   rw [hd] at hs
   dsimp only at hs
   cases hte : T e with
   | none => rw [hte] at h; exact h.elim
   | some te => rw [hte] at h hs; obtain ⟨els,rfl,_⟩ := h; simp at hs; simp [hs]
  ·exact h.1
  ·rename_i n e hd
   cases hte : T e with
   | none => rw [hte] at h; exact h.elim
   | some te => rw [hte] at h; exact h.1
  ·exact h.elim
theorem Zi9 {α : Type} (l : List α) (P : α -> List AV -> Prop) (h : ∀ x ∈ l,∃ aZ,P x aZ) : ∃ g : α -> List AV,∀ x ∈ l,P x (g x) := by
 classical
 exact ⟨fun x => if hx : x ∈ l then Classical.choose (h x hx) else [],fun x hx => by dsimp only; rw [dif_pos hx]; exact Classical.choose_spec (h x hx)⟩
theorem Zkf {d : Nat} {t e : TypeId} {cs : List Value} {x : DataW H × List MemPlace} (hu : P.underlying t = some (.slice e)) (h : DataW.trod enc P w 0 spare held (d + 1) t cs = some x) :
  cs = [.slice none 0 0] \/ ∃ (a : Addr) (len cap : Nat),cs = [.slice (some a) len cap] /\ len <= cap /\ cap <= maxLen /\ ∀ i,i < len -> ∃ cells y,w.cells? 0 (a.add (i * P.cellsOf e)) (P.cellsOf e) = some cells /\ DataW.trod enc P w 0 spare held d e cells = some y := by
 unfold DataW.trod at h
 rw [hu] at h
 split at h <;> try (exfalso; simp_all; done)
 ·exact .inl rfl
 ·rename_i e2 a len cap he
  simp only [Option.some.injEq,TypeDesc.slice.injEq] at he
  subst he
  dsimp only at h
  split at h
  ·rename_i hc
   rw [Option.bind_eq_some_iff] at h
   obtain ⟨elems,hel,_⟩ := h
   refine .inr ⟨a,len,cap,rfl,hc.2.1,hc.2.2,fun i hi => ?_⟩
   have hg := mapM_some_get hel i i (by simp [hi])
   have hl := mapM_some_length hel
   simp only [List.length_range] at hl
   have : elems[i]? = some (elems[i]'(by omega)) := by simp [hl,hi]
   rw [this,Option.bind_eq_some_iff] at hg
   obtain ⟨cells,hcl,htr⟩ := hg
   exact ⟨cells,_,hcl,htr⟩
  ·cases h
theorem Zpe {a : Addr} {n : Nat} {cells : List Value} (h : w.cells? 0 a n = some cells) : cells.length = n /\ ∀ (j : Nat) (v : Value),cells[j]? = some v -> w.cell? (a.add j) = some v := by
 unfold World.cells? at h
 rw [if_pos (Nat.zero_le _)] at h
 have hl := mapM_some_length h
 simp only [List.length_range] at hl
 refine ⟨hl,fun j v hv => ?_⟩
 have hj : j < n := by rw [<-hl]; exact (List.getElem?_eq_some_iff.1 hv).1
 have := mapM_some_get h j j (by simp [hj])
 rw [this,hv]
theorem Ye8 {a : Addr} {v : Value} (h : w.cell? a = some v) : a.block < w.heap.size := by
 unfold World.cell? at h
 split at h
 ·rename_i hb; exact (Array.getElem?_eq_some_iff.1 hb).1
 ·cases h
theorem Zis {d : Nat} {t : TypeId} {fs : Array Field} {cs : List Value} {x : DataW H × List MemPlace} (hu : P.underlying t = some (.struct fs)) (h : DataW.trod enc P w 0 spare held (d + 1) t cs = some x) :
  cs.length = P.cellsOf t /\ ∀ f ∈ fs.toList,∃ y,DataW.trod enc P w 0 spare held d f.type ((cs.drop f.offset).take (P.cellsOf f.type)) = some y := by
 unfold DataW.trod at h
 rw [hu] at h
 split at h <;> try (exfalso; simp_all; done)
 rename_i fs2 he
 simp only [Option.some.injEq,TypeDesc.struct.injEq] at he
 subst he
 split at h
 ·rename_i hc
  rw [Option.map_eq_some_iff] at h
  obtain ⟨xs,hx,_⟩ := h
  refine ⟨hc,fun f hf => ?_⟩
  obtain ⟨i,hi⟩ := List.getElem?_of_mem hf
  have := mapM_some_get hx i f hi
  have hl := mapM_some_length hx
  have hil := (List.getElem?_eq_some_iff.1 hi).1
  exact ⟨xs[i]'(by omega),by rw [this]; simp⟩
 ·cases h
theorem Zeb {T : Tab} (hT : TabOK P T) {S : List TypeId} (hS : S.all (Ziv T S) = true) : ∀ (d : Nat) (t : TypeId) (cs : List Value) (x : DataW H × List MemPlace), memN S t = true -> DataW.trod enc P w 0 spare held d t cs = some x -> Yhl T w d t cs
  | 0, t, cs, x, _, h => by simp [DataW.trod] at h
  | d + 1, t, cs, x, hm, h => by
    have hs := List.all_eq_true.1 hS t (Zbz hm)
    unfold Ziv at hs
    cases ht : T t with
    | none => rw [ht] at hs; cases hs
    | some ti =>
      rw [ht] at hs
      dsimp only at hs
      have hu := hT.und t ti ht
      have hwt : ∀ aZ, WT T (d + 1) t aZ = match ti.desc with
        | .bool => ∃ b, aZ = [.bool b]
        | .int k => ∃ n, aZ = [.int k n] /\ (Lit.int k n).wf = true
        | .float k => ∃ b, aZ = [.flt k b] /\ (Lit.float k b).wf = true
        | .string => ∃ s, aZ = [.str s] /\ s.size <= maxLen
        | .slice e => match T e with
          | some te => ∃ els, aZ = [.isl te.size els] /\ els.length <= maxLen /\ ∀ x ∈ els, WT T d e x
          | none => False
        | .struct fs => aZ.length = ti.size /\ ∀ f ∈ fs.toList, match T f.type with
          | some tf => WT T d f.type ((aZ.drop f.offset).take tf.size)
          | none => False
        | .array n e => match T e with
          | some te => aZ.length = ti.size /\ ∀ i, i < n -> WT T d e ((aZ.drop (i * te.size)).take te.size)
          | none => False
        | _ => False := fun aZ => by simp only [WT, ht]
      cases hd : ti.desc with
      | bool =>
        unfold DataW.trod at h
        rw [hu] at h
        rw [hd] at h hwt
        split at h <;> first
          | exact Za1 (.bool _ _) (by rw [hwt]; exact ⟨_, rfl⟩)
          | (exfalso; simp_all; done)
      | int k =>
        unfold DataW.trod at h
        rw [hu] at h
        rw [hd] at h hwt
        split at h <;> first
          | (rename_i k1 k2 n he
             simp only [Option.some.injEq, TypeDesc.int.injEq] at he
             subst he
             split at h
             · rename_i hk
               obtain ⟨rfl, hk⟩ := hk
               exact Za1 (.int _ _ _) (by rw [hwt]; exact ⟨_, rfl, hk⟩)
             · cases h)
          | (exfalso; simp_all; done)
      | float k =>
        unfold DataW.trod at h
        rw [hu] at h
        rw [hd] at h hwt
        split at h <;> first
          | (rename_i k1 k2 n he
             simp only [Option.some.injEq, TypeDesc.float.injEq] at he
             subst he
             split at h
             · rename_i hk
               obtain ⟨rfl, hk⟩ := hk
               exact Za1 (.flt _ _ _) (by rw [hwt]; exact ⟨_, rfl, hk⟩)
             · cases h)
          | (exfalso; simp_all; done)
      | string =>
        unfold DataW.trod at h
        rw [hu] at h
        rw [hd] at h hwt
        split at h <;> first
          | (split at h
             · rename_i hk
               exact Za1 (.str _ _) (by rw [hwt]; exact ⟨_, rfl, hk⟩)
             · cases h)
          | (exfalso; simp_all; done)
      | slice e =>
        rw [hd] at hu hwt hs
        dsimp only at hs
        simp only [Bool.and_eq_true] at hs
        obtain ⟨hme, hs⟩ := hs
        cases hte : T e with
        | none => rw [hte] at hs; cases hs
        | some te =>
          have hsz := Uz hT hte
          rcases Zkf hu h with rfl | ⟨a, len, cap, rfl, h1, h2, h3⟩
          · exact Za1 (c := .isl te.size []) (.isl0 _ _ _ _) (by rw [hwt]; simp only [hte]; exact ⟨_, rfl, by simp, fun x hx => by simp at hx⟩)
          · rw [hsz] at h3
            rw [hte] at hs
            simp only [Bool.and_eq_true, Nat.blt_eq] at hs
            obtain ⟨hs1, hs2⟩ := hs
            cases len with
            | zero => exact Za1 (c := .isl te.size []) (.isl0 _ _ _ _) (by rw [hwt]; simp only [hte]; exact ⟨_, rfl, by simp, fun x hx => by simp at hx⟩)
            | succ len =>
              obtain ⟨b, o, sp⟩ := a
              have hsp : sp = none := by
                obtain ⟨cells, y, hcl, htr⟩ := h3 0 (by omega)
                obtain ⟨hl, hcg⟩ := Zpe hcl
                have hv : cells[0]? = some (cells[0]'(by omega)) := by simp
                have := hcg 0 _ hv
                simpa [Addr.add] using World.cell?_spot this
              subst hsp
              obtain ⟨g, hg⟩ := Zi9 (List.range (len + 1)) (fun i aZ => aZ.length = te.size /\ WT T d e aZ /\ ∀ (j : Nat) (c : AV), aZ[j]? = some c -> ∃ v, w.cell? ⟨b, o + i * te.size + j, none⟩ = some v /\ VR r0 (Im0 w) w (fun _ => False) c v) (fun i hi => by
                obtain ⟨cells, y, hcl, htr⟩ := h3 i (List.mem_range.1 hi)
                obtain ⟨hl, hcg⟩ := Zpe hcl
                obtain ⟨aZ, q1, q2, q3⟩ := Zeb hT hS d e cells _ hme htr
                have q4 := Zi8 hS hte hme q3
                refine ⟨aZ, q4, q3, fun j c hc => ?_⟩
                have hj : j < aZ.length := (List.getElem?_eq_some_iff.1 hc).1
                have hv : cells[j]? = some (cells[j]'(by omega)) := by simp
                refine ⟨_, ?_, q2 j c _ hc hv⟩
                have := hcg j _ hv
                rw [Xo, Xo] at this
                exact this)
              have hlen : ((List.range (len + 1)).map g).length = len + 1 := by simp
              have hget : ∀ (i : Nat) (x : List AV), ((List.range (len + 1)).map g)[i]? = some x -> i < len + 1 /\ x = g i := by
                intro i x hx
                have hi : i < len + 1 := by rw [<-hlen]; exact (List.getElem?_eq_some_iff.1 hx).1
                refine ⟨hi, ?_⟩
                simp [hi] at hx
                exact hx.symm
              have hcell : ∀ i, i < len + 1 -> ∀ (j : Nat) (c : AV), (g i)[j]? = some c -> ∃ v, w.cell? ⟨b, o + i * te.size + j, none⟩ = some v /\ VR r0 (Im0 w) w (fun _ => False) c v := fun i hi => (hg i (List.mem_range.2 hi)).2.2
              have hval := VR.isl (r := r0) (I := Im0 w) (w := w) (fun _ => False) te.size ((List.range (len + 1)).map g) b o cap (fun i j => (w.cell? ⟨b, o + i * te.size + j, none⟩).getD undef) (by rw [hlen]; exact h1)
                (fun i x hx => by obtain ⟨hi, rfl⟩ := hget i x hx; exact (hg i (List.mem_range.2 hi)).1)
                (fun i x j c hx hc => by
                  obtain ⟨hi, rfl⟩ := hget i x hx
                  obtain ⟨v, hv, _⟩ := hcell i hi j c hc
                  exact ⟨Ye8 hv, by rw [hv]; rfl⟩)
                (fun i x j c hx hc => by
                  obtain ⟨hi, rfl⟩ := hget i x hx
                  obtain ⟨v, hv, hr⟩ := hcell i hi j c hc
                  rw [hv]; exact hr)
              rw [hlen] at hval
              refine Za1 hval ?_
              rw [hwt]
              simp only [hte]
              refine ⟨_, rfl, by rw [hlen]; omega, fun x hx => ?_⟩
              obtain ⟨i, hi, rfl⟩ := List.mem_map.1 hx
              exact (hg i hi).2.1
      | «struct» fs =>
        rw [hd] at hu hwt hs
        dsimp only at hs
        simp only [Bool.and_eq_true] at hs
        obtain ⟨hmf, hs⟩ := hs
        obtain ⟨hcl, hf⟩ := Zis hu h
        rw [Uz hT ht] at hcl
        cases hcg : contig T 0 fs.toList with
        | none => rw [hcg] at hs; cases hs
        | some n =>
          rw [hcg] at hs
          have hn := Nat.eq_of_beq_eq_true hs
          have hsz : ∀ f ∈ fs.toList, ∃ tf, T f.type = some tf := fun f hf => by
            have := List.all_eq_true.1 hS _ (Zbz (List.all_eq_true.1 hmf f hf))
            unfold Ziv at this
            cases hx : T f.type with
            | none => rw [hx] at this; cases this
            | some tf => exact ⟨tf, rfl⟩
          obtain ⟨seg, hseg⟩ := Zi9 fs.toList (fun f aZ => aZ.length = Zh7 T f.type /\ WT T d f.type aZ /\ ∀ (j : Nat) (c : AV) (v : Value), aZ[j]? = some c -> ((cs.drop f.offset).take (Zh7 T f.type))[j]? = some v -> VR r0 (Im0 w) w (fun _ => False) c v) (fun f hfm => by
            obtain ⟨y, hy⟩ := hf f hfm
            obtain ⟨tf, htf⟩ := hsz f hfm
            have hme := List.all_eq_true.1 hmf f hfm
            rw [Uz hT htf] at hy
            obtain ⟨aZ, q1, q2, q3⟩ := Zeb hT hS d f.type _ _ hme hy
            refine ⟨aZ, ?_, q3, ?_⟩
            · rw [Zi8 hS htf hme q3]; simp [Zh7, htf]
            · simpa [Zh7, htf] using q2)
          obtain ⟨h1, h2, h3⟩ := Zss (T := T) (seg := seg) fs.toList 0 n hcg (fun f hfm => (hseg f hfm).1)
          simp only [Nat.sub_zero] at h1 h3
          refine ⟨fs.toList.flatMap seg, by rw [h1, hcl, hn], ?_, ?_⟩
          ·
            have key : ∀ (l : List Field) (o : Nat), contig T o l = some n -> (∀ f ∈ l, f ∈ fs.toList) -> ∀ (i : Nat) (c : AV) (v : Value), (l.flatMap seg)[i]? = some c -> cs[o + i]? = some v -> VR r0 (Im0 w) w (fun _ => False) c v := by
              intro l
              induction l with
              | nil => intro o _ _ i c v hc; simp at hc
              | cons f l ih =>
                intro o ho hin i c v hc hv
                simp only [contig] at ho
                have hfm := hin f (by simp)
                obtain ⟨tf, htf⟩ := hsz f hfm
                rw [htf] at ho
                dsimp only at ho
                cases hb : Nat.beq f.offset o with
                | false => rw [hb] at ho; cases ho
                | true =>
                  rw [hb] at ho
                  have hoe := Nat.eq_of_beq_eq_true hb
                  simp only [cond_true] at ho
                  have hsl : (seg f).length = tf.size := by rw [(hseg f hfm).1]; simp [Zh7, htf]
                  simp only [List.flatMap_cons] at hc
                  by_cases hi : i < tf.size
                  · rw [List.getElem?_append_left (by omega)] at hc
                    refine (hseg f hfm).2.2 i c v hc ?_
                    rw [List.getElem?_take, if_pos (by simpa [Zh7, htf] using hi), List.getElem?_drop, hoe]
                    exact hv
                  · rw [List.getElem?_append_right (by omega), hsl] at hc
                    refine ih (o + tf.size) ho (fun g hg => hin g (by simp [hg])) (i - tf.size) c v hc ?_
                    rw [show o + tf.size + (i - tf.size) = o + i by omega]; exact hv
            intro i c v hc hv
            exact key fs.toList 0 hcg (fun f hf => hf) i c v hc (by simpa using hv)
          · rw [hwt]
            refine ⟨by rw [h1, hn], fun f hfm => ?_⟩
            obtain ⟨tf, htf⟩ := hsz f hfm
            rw [htf]
            have := (h3 f hfm).2
            rw [show Zh7 T f.type = tf.size by simp [Zh7, htf]] at this
            dsimp only
            rw [this]
            exact (hseg f hfm).2.1
      | array n e =>
        rw [hd] at hu hwt hs
        dsimp only at hs
        simp only [Bool.and_eq_true] at hs
        obtain ⟨hme, hs⟩ := hs
        cases hte : T e with
        | none => rw [hte] at hs; cases hs
        | some te =>
          rw [hte] at hs
          have hn := Nat.eq_of_beq_eq_true hs
          have hsz := Uz hT hte
          obtain ⟨xs, m, hm1, _, hcl, hxl, hf⟩ := DataW.trod_array hu h
          cases hm1
          rw [Uz hT ht] at hcl
          rw [hsz] at hf
          obtain ⟨seg, hseg⟩ := Zi9 (List.range n) (fun i aZ => aZ.length = te.size /\ WT T d e aZ /\ ∀ (j : Nat) (c : AV) (v : Value), aZ[j]? = some c -> ((cs.drop (i * te.size)).take te.size)[j]? = some v -> VR r0 (Im0 w) w (fun _ => False) c v) (fun i hi => by
            have hi := List.mem_range.1 hi
            have hy := hf i hi
            rw [List.getElem?_eq_getElem (by omega)] at hy
            obtain ⟨aZ, q1, q2, q3⟩ := Zeb hT hS d e _ _ hme hy
            exact ⟨aZ, Zi8 hS hte hme q3, q3, q2⟩)
          let sg : Nat -> List AV := fun i => if i < n then seg i else List.replicate te.size .any
          have hsg : ∀ i, (sg i).length = te.size := fun i => by
            by_cases hi : i < n
            · simp only [sg, hi, if_true]; exact (hseg i (List.mem_range.2 hi)).1
            · simp only [sg, hi, if_false, List.length_replicate]
          obtain ⟨h1, h2⟩ := Zlp (sz := te.size) (seg := sg) n 0 hsg
          refine ⟨(List.range' 0 n).flatMap sg, by rw [h1, hcl, hn], ?_, ?_⟩
          · intro i c v hc hv
            have hil : i < n * te.size := by rw [<-h1]; exact (List.getElem?_eq_some_iff.1 hc).1
            have hp : 0 < te.size := by
              rcases Nat.eq_zero_or_pos te.size with h0 | h0
              · rw [h0] at hil; omega
              · exact h0
            have hq : i / te.size < n := Nat.div_lt_of_lt_mul (by rw [Nat.mul_comm]; exact hil)
            have hr : i % te.size < te.size := Nat.mod_lt _ hp
            have he : i / te.size * te.size + i % te.size = i := by rw [Nat.mul_comm]; exact Nat.div_add_mod i te.size
            have hs2 := h2 (i / te.size) hq
            rw [Nat.zero_add] at hs2
            have hs3 : sg (i / te.size) = seg (i / te.size) := by simp only [sg, hq, if_true]
            refine (hseg (i / te.size) (List.mem_range.2 hq)).2.2 (i % te.size) c v ?_ ?_
            · rw [<-hs3, <-hs2, List.getElem?_take, if_pos hr, List.getElem?_drop, he]; exact hc
            · rw [List.getElem?_take, if_pos hr, List.getElem?_drop, he]; exact hv
          · rw [hwt]
            dsimp only
            rw [hte]
            refine ⟨by rw [h1, hn], fun i hi => ?_⟩
            rw [h2 i hi, Nat.zero_add]
            simp only [sg, hi, if_true]
            exact (hseg i (List.mem_range.2 hi)).2.1
      | _ => rw [hd] at hs; cases hs
end
open Go Go.RowKit Go.ChangeShapes
def WTA (T : Tab) (t : TypeId) (a : AV) : Prop := ∀ n,∃ m aZ,WT T (m + n) t aZ /\ match T t with
 | some ti => match ti.desc with
  | .struct _ => a = .agg aZ
  | .array _ _ => a = .agg aZ
  | _ => aZ = [a]
 | none => False
def WTs (T : Tab) : List TypeId -> List AV -> Prop
 | [],[] => True
 | t :: ts,a :: aZ => WTA T t a /\ WTs T ts aZ
 | _,_ => False
section
variable {H : Type} {enc : TypeId × Value -> H} {P : Program} {w : World} {spare : Nat -> Bool} {held : Bool}
theorem Zlx {T : Tab} : ∀ (d : Nat) {t : TypeId} {aZ : List AV},WT T d t aZ -> WT T (d + 1) t aZ
 | 0,t,aZ,h => h.elim
 | d + 1,t,aZ,h => by
  unfold WT at h ⊢
  cases ht : T t with
  | none => rw [ht] at h; exact h.elim
  | some ti =>
   rw [ht] at h
   dsimp only at h ⊢
   cases hd : ti.desc with
   | bool => rw [hd] at h; exact h
   | int k => rw [hd] at h; exact h
   | float k => rw [hd] at h; exact h
   | string => rw [hd] at h; exact h
   | slice e =>
    rw [hd] at h
    dsimp only at h ⊢
    cases he : T e with
    | none => rw [he] at h; exact h.elim
    | some te => rw [he] at h; obtain ⟨els,e1,e2,e3⟩ := h; exact ⟨els,e1,e2,fun x hx => Zlx d (e3 x hx)⟩
   | struct fs =>
    rw [hd] at h
    dsimp only at h ⊢
    refine ⟨h.1,fun f hf => ?_⟩
    have := h.2 f hf
    cases he : T f.type with
    | none => rw [he] at this; exact this.elim
    | some tf => rw [he] at this; exact Zlx d this
   | array n e =>
    rw [hd] at h
    dsimp only at h ⊢
    cases he : T e with
    | none => rw [he] at h; exact h.elim
    | some te => rw [he] at h; exact ⟨h.1,fun i hi => Zlx d (h.2 i hi)⟩
   | _ => rw [hd] at h; exact h.elim
theorem Zwa {T : Tab} (hT : TabOK P T) {S : List TypeId} (hS : S.all (Ziv T S) = true) {t : TypeId} {v : Value} {d : DataW H} {p : List MemPlace} {r : Reach} {b0 : Nat} (hm : memN S t = true) (hv : Value.okWide P w r b0 t v)
  (h : DataW.Trod enc P w 0 spare held t v d p) : ∃ a : AV,VR r0 (Im0 w) w (fun _ => False) a v /\ WTA T t a := by
 have hs := List.all_eq_true.1 hS t (Zbz hm)
 unfold Ziv at hs
 cases ht : T t with
 | none => rw [ht] at hs; cases hs
 | some ti =>
  rw [ht] at hs
  dsimp only at hs
  have hu := hT.und t ti ht
  obtain ⟨fuel,hf⟩ := h
  have hop := fun n => Zeb hT hS (fuel + n) t _ _ hm (DataW.trod_le (Nat.le_add_right fuel n) hf)
  obtain ⟨aZ,h1,h2,h3⟩ := hop 0
  have hwt : ∀ n,WT T (fuel + n) t aZ := by
   intro n
   induction n with
   | zero => exact h3
   | succ n ih => exact Zlx _ ih
  clear hop hf
  have agg : (∃ cs,v = .agg cs) -> ∃ a : AV,VR r0 (Im0 w) w (fun _ => False) a v /\ a = .agg aZ := by
   rintro ⟨cs,rfl⟩
   exact ⟨.agg aZ,.agg _ _ _ (by simpa [Value.cells] using h1.symm) (fun i c x hc hx => h2 i c x hc (by simpa [Value.cells] using hx)),rfl⟩
  have one : (∀ cs,v ≠ .agg cs) -> ∃ a : AV,VR r0 (Im0 w) w (fun _ => False) a v /\ aZ = [a] := by
   intro hn
   have e : v.cells.toList = [v] := by cases v <;> first | rfl | (rename_i cs; exact (hn cs rfl).elim)
   rw [e] at h1 h2
   simp only [List.length_cons,List.length_nil] at h1
   obtain ⟨c,rfl⟩ := List.length_eq_one_iff.1 h1
   exact ⟨c,h2 0 c v rfl rfl,rfl⟩
  unfold Value.okWide at hv
  rw [hu] at hv
  cases hd : ti.desc with
  | bool =>
   rw [hd] at hv hu
   obtain ⟨a,h4,h5⟩ := one (fun cs e => by subst e; simp [Cell.okWide,Cell.ok,hu] at hv)
   exact ⟨a,h4,fun n => ⟨fuel,aZ,hwt n,by rw [ht]; dsimp only; rw [hd]; exact h5⟩⟩
  | int k =>
   rw [hd] at hv hu
   obtain ⟨a,h4,h5⟩ := one (fun cs e => by subst e; simp [Cell.okWide,Cell.ok,hu] at hv)
   exact ⟨a,h4,fun n => ⟨fuel,aZ,hwt n,by rw [ht]; dsimp only; rw [hd]; exact h5⟩⟩
  | float k =>
   rw [hd] at hv hu
   obtain ⟨a,h4,h5⟩ := one (fun cs e => by subst e; simp [Cell.okWide,Cell.ok,hu] at hv)
   exact ⟨a,h4,fun n => ⟨fuel,aZ,hwt n,by rw [ht]; dsimp only; rw [hd]; exact h5⟩⟩
  | string =>
   rw [hd] at hv hu
   obtain ⟨a,h4,h5⟩ := one (fun cs e => by subst e; simp [Cell.okWide,Cell.ok,hu] at hv)
   exact ⟨a,h4,fun n => ⟨fuel,aZ,hwt n,by rw [ht]; dsimp only; rw [hd]; exact h5⟩⟩
  | slice e =>
   rw [hd] at hv hu
   obtain ⟨a,h4,h5⟩ := one (fun cs e => by subst e; simp [Cell.okWide,Cell.ok,hu] at hv)
   exact ⟨a,h4,fun n => ⟨fuel,aZ,hwt n,by rw [ht]; dsimp only; rw [hd]; exact h5⟩⟩
  | struct fs =>
   rw [hd] at hv hu
   obtain ⟨cs,hcs,_⟩ := hv
   obtain ⟨a,h4,h5⟩ := agg ⟨cs,hcs⟩
   exact ⟨a,h4,fun n => ⟨fuel,aZ,hwt n,by rw [ht]; dsimp only; rw [hd]; exact h5⟩⟩
  | array n e =>
   rw [hd] at hv hu
   obtain ⟨cs,hcs,_⟩ := hv
   obtain ⟨a,h4,h5⟩ := agg ⟨cs,hcs⟩
   exact ⟨a,h4,fun n => ⟨fuel,aZ,hwt n,by rw [ht]; dsimp only; rw [hd]; exact h5⟩⟩
  | _ => rw [hd] at hs; cases hs
theorem Zk8 {T : Tab} (hT : TabOK P T) {S : List TypeId} (hS : S.all (Ziv T S) = true) {r : Reach} {b0 : Nat} : ∀ (ts : List TypeId) (vs : List Value) (ds : List (DataW H)) (p : List MemPlace),(∀ t ∈ ts,memN S t = true) -> (∀ (j : Nat) t v,ts[j]? = some t -> vs[j]? = some v -> Value.okWide P w r b0 t v) ->
  DataW.TrodAll enc P w 0 spare held ts vs ds p -> ∃ aZ : List AV,VRs r0 (Im0 w) w (fun _ => False) aZ vs.toArray /\ WTs T ts aZ
 | [],vs,ds,p,_,_,h => by
  obtain ⟨rfl,rfl,rfl⟩ := trodAll_nil h
  exact ⟨[],⟨rfl,fun i c v hc => by simp at hc⟩,trivial⟩
 | t :: ts,vs,ds,p,hm,hv,h => by
  obtain ⟨v,vs',d,ds',q,q',rfl,rfl,rfl,hd,hr⟩ := trodAll_cons h
  obtain ⟨a,ha,hw⟩ := Zwa hT hS (hm t (by simp)) (hv 0 t v rfl rfl) hd
  obtain ⟨aZ,hs,hws⟩ := Zk8 hT hS ts vs' ds' q' (fun t' ht' => hm t' (by simp [ht'])) (fun j t' v' h1 h2 => hv (j + 1) t' v' (by simpa using h1) (by simpa using h2)) hr
  refine ⟨a :: aZ,⟨by simpa using hs.1,fun i c x hc hx => ?_⟩,hw,hws⟩
  cases i with
  | zero => simp at hc hx; subst hc; subst hx; exact ha
  | succ i => exact hs.2 i c x (by simpa using hc) (by simpa using hx)
theorem Zz9 {T : Tab} (hT : TabOK P T) {S : List TypeId} (hS : S.all (Ziv T S) = true) {f : FuncId} {ts : List TypeId} (hm : ts.all (memN S) = true) (hlaw : ∀ aZ,WTs T ts aZ -> PCall P f aZ ⟨.bool true,[]⟩) {r : Reach} {b0 : Nat} {vs : Array Value} {ds : List (DataW H)} {p : List MemPlace}
  (hv : ∀ (j : Nat) t v,ts[j]? = some t -> vs[j]? = some v -> Value.okWide P w r b0 t v) (h : DataW.TrodAll enc P w 0 spare held ts vs.toList ds p) : Calls P f vs w fun e w' => e = .returned (.bool true) /\ Below w.heap.size w w' := by
 obtain ⟨aZ,h1,h2⟩ := Zk8 hT hS ts vs.toList ds p (fun t ht => List.all_eq_true.1 hm t ht) (fun j t v a b => hv j t v a (by simpa using b)) h
 refine callsIn_wide.1 (((hlaw aZ h2).2 (Im0 w) w vs (fun b o h => h) (by simpa using h1)).mono fun e w' hh => ?_)
 obtain ⟨x,r',I',rfl,hp⟩ := hh
 have hval := hp.val
 cases hval
 exact ⟨rfl,hp.below⟩
theorem Zsd (hl : laidOutB P = true) {w' : World} (bel : Below w.heap.size w w') : ∀ (ts : List TypeId) (vs : List Value) (ds : List (DataW H)) (p : List MemPlace),ts.all (fun t => P.readableRec t && decide (t < P.types.size)) = true ->
  DataW.TrodAll enc P w 0 (fun _ => true) true ts vs ds p -> (∀ x ∈ p,x.block < w.heap.size) -> ∃ q,DataW.TrodAll enc P w' 0 (fun b => decide (b < w.heap.size)) true ts vs ds q
 | [],vs,ds,p,_,h,_ => by
  obtain ⟨rfl,rfl,rfl⟩ := trodAll_nil h
  exact ⟨[],trodAll_mk0⟩
 | t :: ts,vs,ds,p,ht,h,hlt => by
  obtain ⟨v,vs',d,ds',q,q',rfl,rfl,rfl,hd,hr⟩ := trodAll_cons h
  simp only [List.all_cons,Bool.and_eq_true,decide_eq_true_eq] at ht
  obtain ⟨q2,h2⟩ := Zsd hl bel ts vs' ds' q' ht.2 hr (fun x hx => hlt x (by simp [hx]))
  exact ⟨_,trodAll_cons_mk (Below.trod hl ht.1.1 ht.1.2 hd bel (fun x hx => hlt x (by simp [hx]))) h2⟩
theorem Zkz : ∀ (ts : List TypeId) (vs : List Value) (ds : List (DataW H)) (p : List MemPlace),DataW.TrodAll enc P w 0 spare held ts vs ds p -> ∀ x ∈ p,x.block < w.heap.size
 | [],vs,ds,p,h,x,hx => by obtain ⟨rfl,rfl,rfl⟩ := trodAll_nil h; simp at hx
 | t :: ts,vs,ds,p,h,x,hx => by
  obtain ⟨v,vs',d,ds',q,q',rfl,rfl,rfl,hd,hr⟩ := trodAll_cons h
  rcases List.mem_append.1 hx with hx | hx
  ·obtain ⟨m,hm⟩ := hd; exact DataW.trod_lt m _ _ _ hm x hx
  ·exact Zkz ts vs' ds' q' hr x hx
theorem Zt5 {C : Checked} {os : Os} (started : os.Started) {f : FuncId} {fn : Func} {s : ChangeSpec} {bt : TypeId}
  (own : ownKnob C.prog.godebug = none) (laid : laidOutB C.prog = true) (noInit : C.prog.inits.idxOf? f = none) (hfn : C.prog.funcs[f]? = some fn)
  {T : Tab} (hT : TabOK C.prog T) {S : List TypeId} (hS : S.all (Ziv T S) = true) (hm : fn.params.toList.all (memN S) = true) (hread : fn.params.toList.all (fun t => C.prog.readableRec t && decide (t < C.prog.types.size)) = true)
  (hvars : s.vars = []) (hres : fn.resultTypes = #[bt]) (hbt : C.prog.underlying bt = some .bool)
  (hsp : ∀ ds : List (DataW H),ds.length = fn.params.toList.length -> s.fn H ds = { results := [.lit (.bool true)],args := ds,vars := [] })
  (hlaw : ∀ aZ,WTs T fn.params.toList aZ -> PCall C.prog f aZ ⟨.bool true,[]⟩) {conds : List PathCond}
  (witness : ∃ (w : World) (tape : Tape) (i : Input),w.os = os /\ (w.forCall tape i).Shaped C.prog /\ i.vars = [] /\ Input.okWide C.prog (w.forCall tape i) .any w.heap.size f i /\
   s.pre6 enc C.prog fn conds false (w.forCall tape i).memory i.args /\ ({} : Assume).holds C.prog (lone (Frame.enter C.prog f i.args .normal) [] (w.forCall tape i))) :
  ReturnsInHanded {} C os f .any (s.pre6 enc C.prog fn conds false) (s.post enc C.prog fn false true false false) := by
 refine returnsInHanded_of_change own started noInit hfn witness ?_
 intro W base args ds gs before hval0 hW hcnd _
 have hval : ∀ (j : Nat) t v,fn.params.toList[j]? = some t -> args[j]? = some v -> Value.okWide C.prog W .any base t v := fun j t v a b => hval0 j t v (by simpa using a) b
 have hW' := hW
 obtain ⟨p,q,hA,hV,rfl,hfz,hnd⟩ := hW
 rw [hvars] at hV
 obtain ⟨rfl,rfl⟩ := trodVars_none hV
 have hlen : ∀ (ts : List TypeId) (vs : List Value) (ds : List (DataW H)) (p : List MemPlace),DataW.TrodAll enc C.prog W 0 (fun _ => true) true ts vs ds p -> ds.length = ts.length := by
  intro ts
  induction ts with
  | nil => intro vs ds p h; obtain ⟨rfl,rfl,rfl⟩ := trodAll_nil h; rfl
  | cons t ts ih => intro vs ds p h; obtain ⟨v,vs',d,ds',q,q',rfl,rfl,rfl,hd,hr⟩ := trodAll_cons h; simp [ih _ _ _ hr]
 refine (Zz9 hT hS hm hlaw hval hA).mono fun e W' hh => ?_
 obtain ⟨he,bel⟩ := hh
 subst he
 obtain ⟨q2,hq2⟩ := Zsd laid bel _ _ _ _ hread hA (Zkz _ _ _ _ hA)
 have hsp' := hsp (ds ++ []) (by rw [List.append_nil]; exact hlen _ _ _ _ hA)
 refine ⟨_,rfl,ds,[],_,[],q2,[],hW',?_,?_,?_,bel.frame _,fun h => by cases h⟩
 ·rw [hsp',hres]; exact trodAll_mk1 (shut_bool hbt _)
 ·rw [hsp']; simpa using hq2
 ·rw [hsp',hvars]; rfl
end
open Go Go.RowKit
variable {T : Tab} {d : Nat} {t : TypeId} {aZ : List AV}
theorem Ybh {ti : TI} {k : IntKind} (ht : T t = some ti) (hd : ti.desc = .int k) (h : WT T (d + 1) t aZ) : ∃ n,aZ = [.int k n] /\ (Lit.int k n).wf = true := by
 unfold WT at h; rw [ht] at h; dsimp only at h; rw [hd] at h; exact h
theorem Yfc {ti : TI} (ht : T t = some ti) (hd : ti.desc = .string) (h : WT T (d + 1) t aZ) : ∃ s,aZ = [.str s] /\ s.size <= maxLen := by
 unfold WT at h; rw [ht] at h; dsimp only at h; rw [hd] at h; exact h
theorem Zea {ti te : TI} {e : TypeId} (ht : T t = some ti) (hd : ti.desc = .slice e) (he : T e = some te) (h : WT T (d + 1) t aZ) : ∃ els,aZ = [.isl te.size els] /\ els.length <= maxLen /\ ∀ x ∈ els,WT T d e x := by
 unfold WT at h; rw [ht] at h; dsimp only at h; rw [hd] at h; dsimp only at h; rw [he] at h; exact h
theorem Va {ti : TI} {fs : Array Field} (ht : T t = some ti) (hd : ti.desc = .struct fs) (h : WT T (d + 1) t aZ) : aZ.length = ti.size /\ ∀ f ∈ fs.toList,∃ tf,T f.type = some tf /\ WT T d f.type ((aZ.drop f.offset).take tf.size) := by
 unfold WT at h; rw [ht] at h; dsimp only at h; rw [hd] at h; dsimp only at h
 refine ⟨h.1,fun f hf => ?_⟩
 have := h.2 f hf
 cases hq : T f.type with
 | none => rw [hq] at this; exact this.elim
 | some tf => rw [hq] at this; exact ⟨tf,rfl,this⟩
theorem Zy4 {ti te : TI} {n : Nat} {e : TypeId} (ht : T t = some ti) (hd : ti.desc = .array n e) (he : T e = some te) (h : WT T (d + 1) t aZ) : aZ.length = ti.size /\ ∀ i,i < n -> WT T d e ((aZ.drop (i * te.size)).take te.size) := by
 unfold WT at h; rw [ht] at h; dsimp only at h; rw [hd] at h; dsimp only at h; rw [he] at h; exact h
theorem Zuv {a : AV} {ti : TI} (h : WTA T t a) (ht : T t = some ti) {fs : Array Field} (hd : ti.desc = .struct fs) (n : Nat) : ∃ aZ m,a = .agg aZ /\ WT T (m + n + 1) t aZ := by
 obtain ⟨m,aZ,hm,ha⟩ := h (n + 1)
 rw [ht] at ha; dsimp only at ha; rw [hd] at ha
 exact ⟨aZ,m,ha,by rw [Nat.add_assoc]; exact hm⟩
def Yag (T : Tab) (n : Nat) : Nat -> List Field -> Bool
 | i,[] => Nat.beq i n
 | i,f :: fs => Nat.beq f.offset i && (match T f.type with
  | some tf => Nat.beq tf.size 1 && (match tf.desc with
   | .int .i64 => true
   | _ => false)
  | none => false) && Yag T n (i + 1) fs
theorem Zin {n : Nat} (hl : aZ.length = n) : ∀ (fs : List Field) (i : Nat),Yag T n i fs = true -> (∀ f ∈ fs,∃ tf,T f.type = some tf /\ WT T (d + 1) f.type ((aZ.drop f.offset).take tf.size)) -> ∃ ns : List Int,aZ.drop i = ns.map (AV.int .i64) /\ ns.length + i = n /\ ∀ x ∈ ns,(Lit.int .i64 x).wf = true
 | [],i,h,hf => by
  have hi := Nat.eq_of_beq_eq_true h
  exact ⟨[],by simp [List.drop_eq_nil_iff]; omega,by simpa using hi,by simp⟩
 | f :: fs,i,h,hf => by
  simp only [Yag,Bool.and_eq_true] at h
  obtain ⟨⟨h1,h2⟩,h3⟩ := h
  obtain ⟨ns,g1,g2,g3⟩ := Zin hl fs (i + 1) h3 (fun g hg => hf g (by simp [hg]))
  obtain ⟨tf,e1,e2⟩ := hf f (by simp)
  rw [e1] at h2
  simp only [Bool.and_eq_true] at h2
  obtain ⟨h4,h5⟩ := h2
  have hk : tf.desc = .int .i64 := by split at h5 <;> first | assumption | cases h5
  obtain ⟨x,q1,q2⟩ := Ybh e1 hk e2
  rw [Nat.eq_of_beq_eq_true h4,Nat.eq_of_beq_eq_true h1] at q1
  have hi : i < aZ.length := by
   rcases Nat.lt_or_ge i aZ.length with hi | hi
   ·exact hi
   ·rw [List.drop_of_length_le hi] at q1; simp at q1
  refine ⟨x :: ns,?_,by simp; omega,fun y hy => ?_⟩
  ·rw [List.drop_eq_getElem_cons hi] at q1 ⊢
   simp only [List.take_succ_cons,List.take_zero,List.cons.injEq,and_true] at q1
   rw [g1,q1]; rfl
  ·rcases List.mem_cons.1 hy with rfl | hy
   ·exact q2
   ·exact g3 y hy
theorem Zly {ti : TI} {fs : Array Field} (ht : T t = some ti) (hd : ti.desc = .struct fs) (hi : Yag T ti.size 0 fs.toList = true) (h : WT T (d + 2) t aZ) : ∃ ns : List Int,aZ = ns.map (AV.int .i64) /\ ns.length = ti.size /\ ∀ x ∈ ns,(Lit.int .i64 x).wf = true := by
 obtain ⟨h1,h2⟩ := Va ht hd h
 obtain ⟨ns,g1,g2,g3⟩ := Zin h1 fs.toList 0 hi h2
 exact ⟨ns,by simpa using g1,by omega,g3⟩
end Go.Sx
set_option maxRecDepth 20000
namespace Go.Sx
open Go Ieee
open Go Go.RowKit
variable {P : Program} {N B l : Nat} {Ig : Imm} {JX : Zs -> (Nat -> Prop) -> World -> Prop}
section
variable {P : Program} {r : Locs} {I : Imm} {w : World} {D : Nat -> Prop}
def NS (a b : AV) : Prop := a = b \/ (a = .nils /\ ∃ es,b = .isl es [])
theorem NS.vr {a b : AV} (h : NS a b) {v : Value} (hv : VR r I w D a v) : VR r I w D b v := by
 rcases h with rfl | ⟨rfl,es,rfl⟩
 ·exact hv
 ·cases hv; exact .isl0 _ _ _ _
def NSL : List AV -> List AV -> Prop
 | [],[] => True
 | a :: l,b :: m => NS a b /\ NSL l m
 | _,_ => False
theorem NSL.get : ∀ {l m : List AV},NSL l m -> l.length = m.length /\ ∀ (i : Nat) (b : AV),m[i]? = some b -> ∃ a,l[i]? = some a /\ NS a b
 | [],[],_ => ⟨rfl,fun i b h => by simp at h⟩
 | a :: l,b :: m,h => by
  simp only [NSL] at h
  obtain ⟨h1,h2⟩ := NSL.get h.2
  refine ⟨by simp [h1],fun i b' hi => ?_⟩
  cases i with
  | zero => simp at hi; subst hi; exact ⟨a,rfl,h.1⟩
  | succ i => simpa using h2 i b' (by simpa using hi)
 | [],_ :: _,h => by simp [NSL] at h
 | _ :: _,[],h => by simp [NSL] at h
theorem NSL.vr {l m : List AV} (h : NSL l m) {v : Value} (hv : VR r I w D (.agg l) v) : VR r I w D (.agg m) v := by
 obtain ⟨h1,h2⟩ := h.get
 cases hv with
 | agg _ _ vs h0 g =>
  refine .agg _ _ _ (h0.trans h1) fun i c x hc hx => ?_
  obtain ⟨a,ha,hn⟩ := h2 i c hc
  exact hn.vr (g i a x ha hx)
def NA (a b : AV) : Prop := NS a b \/ ∃ l m,a = .agg l /\ b = .agg m /\ NSL l m
theorem NA.vr {a b : AV} (h : NA a b) {v : Value} (hv : VR r I w D a v) : VR r I w D b v := by
 rcases h with h | ⟨l,m,rfl,rfl,h⟩
 ·exact h.vr hv
 ·exact h.vr hv
theorem NA.rfl {a : AV} : NA a a := .inl (.inl _root_.rfl)
def NAL : List AV -> List AV -> Prop
 | [],[] => True
 | a :: l,b :: m => NA a b /\ NAL l m
 | _,_ => False
theorem NAL.get : ∀ {l m : List AV},NAL l m -> l.length = m.length /\ ∀ (i : Nat) (b : AV),m[i]? = some b -> ∃ a,l[i]? = some a /\ NA a b
 | [],[],_ => ⟨_root_.rfl,fun i b h => by simp at h⟩
 | a :: l,b :: m,h => by
  simp only [NAL] at h
  obtain ⟨h1,h2⟩ := NAL.get h.2
  refine ⟨by simp [h1],fun i b' hi => ?_⟩
  cases i with
  | zero => simp at hi; subst hi; exact ⟨a,_root_.rfl,h.1⟩
  | succ i => simpa using h2 i b' (by simpa using hi)
 | [],_ :: _,h => by simp [NAL] at h
 | _ :: _,[],h => by simp [NAL] at h
theorem PCall.nilArgs {f : FuncId} {l m : List AV} {res : PRes} (h : PCall P f m res) (hn : NAL l m) : PCall P f l res := by
 obtain ⟨h1,h2⟩ := hn.get
 refine ⟨h.1,fun I w vs hI hv => h.2 I w vs hI ⟨hv.1.trans h1,fun i c v hc hv' => ?_⟩⟩
 obtain ⟨a,ha,hn⟩ := h2 i c hc
 exact hn.vr (hv.2 i a v ha hv')
end
variable {r r' : Locs} {D D' : Nat -> Prop} {I I' : Imm} {w w' w0 : World} {I0 Ig : Imm} {B n n' k N l : Nat} {pr pr' pr2 : Nat -> Obj -> Prop} {h : Nat -> ABlk} {P : Program} {JX : Zs -> (Nat -> Prop) -> World -> Prop} {O : Nat -> Prop}
theorem Zl2 {cx : Cx} (hcx : CxOK P cx) {pc : PC} (hpc : PCOK P pc) (hm : P.follows .mixedOrders = true) {F : Fence} (hF : FOK F) (id : Nat) (ops : Array Oper) {env : Env} {σ : St} {K : Env -> St -> Prop} (hv : Zfw cx pc N ops.toList env σ K) {a : Act} (S : SR B w0 I0 pr N r I D env σ a w)
  {Q : Exit -> Act -> World -> Prop} (hq : ∀ a' w',Leaves B w0 I0 pr N r I D w a.defers K a' w' -> Q .normal a' w') : (Code.region id ops true).wpIn F 0 P Q a w := by
 unfold Zfw at hv
 cases hnd : Yi ops.toList with
 | false => rw [hnd] at hv; exact hv.elim
 | true =>
  rw [hnd] at hv
  obtain ⟨recs,env',σ',⟨hok,hK⟩,h2,h3,h4,h5,h6,h7,h8⟩ := Zl3 ops.toList env σ _ _ _ hv
  simp only [List.reverse_nil,List.nil_append] at hok
  refine wpIn_region_any hm ?_
  have hfalse : ∀ q,(Array.replicate ops.size false).getD q false = false := by
   intro q
   rw [Array.getD_eq_getD_getElem?,Array.getElem?_replicate]
   split <;> rfl
  have main := Zsw (B := B) (w0 := w0) (I0 := I0) (pr := pr) (N := N) (D0 := D) (k0 := σ.next) (nf := σ'.next) (rs := r) (Is := I) (ws := w) (ds := a.defers) hcx hpc hF h2 hnd hok h3 (fun id hd => (S.hr.dom id hd).1) h6 h7
   Q (fun a' w' hi => ?_) ops.size (Array.replicate ops.size false) a w.drew (by simp) (fun q p hq _ => by dsimp only at hq; rw [hfalse] at hq; cases hq) (by simpa using List.countP_le_length (l := List.replicate ops.size false)) ?_
  ·simpa using main
  ·obtain ⟨⟨r2,I2,D2,H2,hD2,hsz,htm,hst⟩,hdf⟩ := hi
   rw [<-h5] at H2
   rw [<-h4] at htm
   exact hq _ _ ⟨env',σ',r2,I2,D2,hK,⟨H2,hsz,htm⟩,by simpa using hdf,hst⟩
  ·refine ⟨⟨r,I,D,?_,fun id hd => .inl hd,S.er.1,?_,Step.drew r D I w⟩,rfl⟩
   ·rw [Zxa (recs := recs) hfalse]
    exact S.hr.drew.next h8
   ·rw [Zx0 (recs := recs) hfalse]
    exact fun t => (S.er.2 t).mono (Step.drew r D I w)
structure YEnv (P : Program) (B : Nat) (Ig : Imm) (l : Nat) (sc : Bool) (JX : Zs -> (Nat -> Prop) -> World -> Prop) : Prop where
 low : ∀ b o,Ig b o -> b < B
 grow : ∀ z O w w',JX z O w -> Chg O w w' -> JX z (fun b => O b \/ (w.heap.size <= b /\ b < w'.heap.size)) w'
 round : ∀ x zs O w ys I',(sc = true -> Zat x = true) -> JX (some (x :: zs)) O w -> (∀ b o,Ig b o -> I' b o) -> (∀ b o,I' b o -> Ig b o \/ O b) -> VRs r0 I' w (fun _ => False) x ys ->
  YieldAt Fence.wide 0 P l ys w fun e w' => ∃ b,e = .returned (.bool b) /\ (∀ q,O q -> w'.heap[q]? = w.heap[q]?) /\ (∀ q o,Ig q o -> w'.cell? ⟨q,o,none⟩ = w.cell? ⟨q,o,none⟩) /\ w.heap.size <= w'.heap.size /\ (b = true -> JX (some zs) O w') /\ (b = false -> JX none O w')
theorem ItEnv.toY (h : ItEnv P B Ig l JX) : YEnv P B Ig l true JX :=
 ⟨h.low,h.grow,fun x zs O w ys I' hs hj _ _ hv => h.round x zs O w ys hj ⟨hv.1,fun i c v hc hv' => (hv.2 i c v hc hv').scalar (Zas (hs rfl) hc) _ _ _ _⟩⟩
structure YSx (N : Nat) (B : Nat) (Ig : Imm) (JX : Zs -> (Nat -> Prop) -> World -> Prop) (z : Zs) (r : Locs) (D : Nat -> Prop) (I : Imm) (O : Nat -> Prop) (env : Env) (σ : St) (a : Act) (w : World) : Prop where
 hr : HR B w I (prO B O w) r I D σ.get σ.next w
 ho : ∀ b,O b -> B <= b /\ b < w.heap.size
 lo : ∀ b o,Ig b o -> I b o
 up : ∀ b o,I b o -> Ig b o \/ O b
 er : ER r I w D N env a.tmps
 jx : JX z O w
 df : a.defers = []
def PY (N B : Nat) (Ig : Imm) (JX : Zs -> (Nat -> Prop) -> World -> Prop) (r : Locs) (D : Nat -> Prop) (I : Imm) (w : World) (Q : IQ) : Exit -> Act -> World -> Prop := fun e a' w' => ∃ env' σ' z' r' D' I' O',Q e env' σ' z' /\ YSx N B Ig JX z' r' D' I' O' env' σ' a' w' /\ Step r D I w r' D' I' w'
def AwpY (P : Program) (N B : Nat) (Ig : Imm) (JX : Zs -> (Nat -> Prop) -> World -> Prop) (c : Code) (env : Env) (σ : St) (z : Zs) (Q : IQ) : Prop :=
 ∀ r D I O a w,YSx N B Ig JX z r D I O env σ a w -> c.wpIn Fence.wide 0 P (PY N B Ig JX r D I w Q) a w
theorem YSx.own {z : Zs} {env : Env} {σ : St} {a : Act} (S : YSx N B Ig JX z r D I O env σ a w) {h' : Nat -> ABlk} {n' : Nat} (H : HR B w I (prO B O w) r' I' D' h' n' w') :
  Chg O w w' /\ HR B w' I' (prO B (fun b => O b \/ (w.heap.size <= b /\ b < w'.heap.size)) w') r' I' D' h' n' w' /\ (∀ b,(O b \/ (w.heap.size <= b /\ b < w'.heap.size)) -> B <= b /\ b < w'.heap.size) /\ (∀ b o,I' b o -> Ig b o \/ (O b \/ (w.heap.size <= b /\ b < w'.heap.size))) := by
 have old : ∀ b,¬ (O b \/ (w.heap.size <= b /\ b < w'.heap.size)) -> B <= b -> b < w'.heap.size -> prO B O w b (w.heap.getD b default) := by
  intro b hn hb hlt
  have hnO : ¬ O b := fun h => hn (.inl h)
  have hlt2 : b < w.heap.size := by
   rcases Nat.lt_or_ge b w.heap.size with h | h
   ·exact h
   ·exact (hn (.inr ⟨h,hlt⟩)).elim
  exact ⟨hb,hnO,by simp [Array.getD,hlt2]⟩
 have hc : Chg O w w' := ⟨H.below.os,H.below.tape,H.below.output,H.below.size,fun b hb hlt => by
  by_cases hbb : b < B
  ·exact H.below.block b hbb
  ·have e1 : w.heap[b]? = some w.heap[b] := by simp [hlt]
   rw [(H.prot b _ ⟨by omega,hb,e1⟩).1,e1]⟩
 refine ⟨hc,H.rebase (fun b o hp => ?_),fun b hb => ?_,fun b o hi => ?_⟩
 ·obtain ⟨h1,h2,h3⟩ := hp
  have hlt := (Array.getElem?_eq_some_iff.1 h3).1
  have hp := old b h2 h1 hlt
  exact ⟨h3,h1,(H.protK b _ hp).1,(H.protK b _ hp).2⟩
 ·rcases hb with hb | hb
  ·have := S.ho b hb; have := H.below.size; omega
  ·have := S.hr.base; omega
 ·rcases H.immB b o hi with h | h
  ·rcases S.up b o h with h | h
   ·exact .inl h
   ·exact .inr (.inl h)
  ·refine .inr (Classical.byContradiction fun hn => ?_)
   exact (H.protK b _ (old b hn h (H.imm b o hi))).2 o hi
theorem YSx.step {sc : Bool} (hI : YEnv P B Ig l sc JX) {z : Zs} {env : Env} {σ : St} {a : Act} (S : YSx N B Ig JX z r D I O env σ a w) {K : Env -> St -> Prop} {a' : Act} (hl : Leaves B w I (prO B O w) N r I D w a.defers K a' w') :
  ∃ env' σ' r' D' I' O',K env' σ' /\ YSx N B Ig JX z r' D' I' O' env' σ' a' w' /\ Step r D I w r' D' I' w' := by
 obtain ⟨env',σ',r',I',D',hk,⟨H,E⟩,hd,St⟩ := hl
 obtain ⟨hc,H',ho',up'⟩ := S.own H
 exact ⟨env',σ',r',D',I',_,hk,⟨H',ho',fun b o hi => (St.imm b o (S.lo b o hi)).1,up',E,hI.grow z O w w' S.jx hc,hd.trans S.df⟩,St⟩
theorem YSx.behind {sc : Bool} (hI : YEnv P B Ig l sc JX) {z z' : Zs} {env : Env} {σ : St} {a : Act} (S : YSx N B Ig JX z r D I O env σ a w) (hm : Zn1 σ.heap = true)
  (k1 : ∀ q,O q -> w'.heap[q]? = w.heap[q]?) (k2 : ∀ q o,Ig q o -> w'.cell? ⟨q,o,none⟩ = w.cell? ⟨q,o,none⟩) (k3 : w.heap.size <= w'.heap.size) (hj : JX z' O w') : YSx N B Ig JX z' r D I O env σ a w' /\ Step r D I w r D I w' := by
 have H := S.hr
 have hlO : ∀ id,(σ.get id).live = true -> O (r id).blk := by
  intro id hid
  have hB : B <= (r id).blk := by
   have hb := H.blk id
   cases hx : σ.get id with
   | row es elems mt pu =>
    have := Zej hm hx
    subst this
    rw [hx] at hb
    obtain ⟨_,_,_,cs,T,fz,_,_,_,h7,_⟩ := hb
    exact (h7 rfl).1
   | map ents => rw [hx] at hb; exact hb.1
   | set keys => rw [hx] at hb; exact hb.1
   | dead => rw [hx] at hid; simp [ABlk.live] at hid
  by_cases ho : O (r id).blk
  ·exact ho
  ·have hlt := (H.dom id (H.live id hid)).2
   have e1 : w.heap[(r id).blk]? = some w.heap[(r id).blk] := by simp [hlt]
   exact ((H.protK _ _ ⟨hB,ho,e1⟩).1 id hid rfl).elim
 have hst : Step r D I w r D I w' := ⟨fun id h => ⟨h,rfl⟩,fun b o h => ⟨h,by
  rcases S.up b o h with h1 | h1
  ·exact k2 b o h1
  ·exact World.cell?_of_block (k1 b h1)⟩,k3⟩
 refine ⟨⟨⟨Below.refl _ _,Nat.le_trans H.base k3,fun b o hi => Nat.lt_of_lt_of_le (H.imm b o hi) k3,fun id hd => ⟨(H.dom id hd).1,Nat.lt_of_lt_of_le (H.dom id hd).2 k3⟩,H.live,fun id => ?_,H.inj,fun b o hp => ⟨hp.2.2,hp.1⟩,fun b o hp => ⟨fun id hid e => hp.2.1 (e ▸ hlO id hid),fun o' hi => ?_⟩,fun _ _ h => .inl h⟩,fun b hb => by have := S.ho b hb; omega,S.lo,S.up,S.er.mono hst,hj,S.df⟩,hst⟩
 ·by_cases hid : (σ.get id).live = true
  ·exact (H.blk id).mono hst rfl (fun _ => k1 _ (hlO id hid)) (fun _ _ _ _ _ hx => hx)
  ·have : σ.get id = .dead := by cases hx : σ.get id <;> simp_all [ABlk.live]
   rw [this]; trivial
 ·rcases S.up b o' hi with h1 | h1
  ·have := hI.low b o' h1; have := hp.1; omega
  ·exact hp.2.1 h1
theorem YSx.put {z : Zs} {env : Env} {σ : St} {a : Act} (S : YSx N B Ig JX z r D I O env σ a w) {dst : Option Nat} {v : AV} {x : Value} (hv : VR r I w D v x) {K : Env -> Prop} (hk : Zq N dst v env K) : ∃ env',K env' /\ YSx N B Ig JX z r D I O env' σ (a.put dst x) w := by
 cases dst with
 | none => exact ⟨env,hk,⟨S.hr,S.ho,S.lo,S.up,S.er,S.jx,S.df⟩⟩
 | some d =>
  simp only [Zq] at hk
  rcases Br.cases hk with ⟨h1,h2⟩ | ⟨_,h2⟩
  ·have hdl : d < N := by simpa [Nat.blt_eq] using h1
   exact ⟨(d,v) :: env,h2,⟨S.hr,S.ho,S.lo,S.up,S.er.put hdl hv,S.jx,S.df⟩⟩
  ·exact h2.elim
def Zs9 (P : Program) (B : Nat) (Ig : Imm) (JX : Zs -> (Nat -> Prop) -> World -> Prop) (f : FuncId) (args : List AV) (σ : St) (z : Zs) (K : AV -> St -> Zs -> Prop) : Prop :=
 ∀ r D I O w vs,HR B w I (prO B O w) r I D σ.get σ.next w -> (∀ b,O b -> B <= b /\ b < w.heap.size) -> (∀ b o,Ig b o -> I b o) -> (∀ b o,I b o -> Ig b o \/ O b) -> JX z O w -> VRs r I w D args vs ->
  CallsIn Fence.wide 0 P f vs w fun e w' => ∃ x v σ' z' r' D' I' O',e = .returned x /\ K v σ' z' /\ HR B w' I' (prO B O' w') r' I' D' σ'.get σ'.next w' /\ (∀ b,O' b -> B <= b /\ b < w'.heap.size) /\ (∀ b o,Ig b o -> I' b o) /\ (∀ b o,I' b o -> Ig b o \/ O' b) /\ JX z' O' w' /\ VR r' I' w' D' v x /\ Step r D I w r' D' I' w'
inductive YCt (P : Program) (B : Nat) (Ig : Imm) (JX : Zs -> (Nat -> Prop) -> World -> Prop) (f : FuncId) (args : List AV) (σ : St) (z : Zs) (K : AV -> St -> Zs -> Prop) : Prop
 | mk (h : FnOK P f /\ Zs9 P B Ig JX f args σ z K) : YCt P B Ig JX f args σ z K
def Vw (h : Nat -> ABlk) (aZ x : List AV) : Prop := ∃ x' lv,Zar h aZ = some (x',lv) /\ NSL x' x
theorem NSL.refl : ∀ (l : List AV),NSL l l
 | [] => trivial
 | _ :: l => ⟨.inl rfl,NSL.refl l⟩
theorem Vw.same {h : Nat -> ABlk} {aZ x : List AV} {lv : List Nat} (e : Zar h aZ = some (x,lv)) : Vw h aZ x := ⟨x,lv,e,NSL.refl x⟩
theorem NSL.vrs {l m : List AV} (h : NSL l m) {vs : Array Value} (hv : VRs r I w D l vs) : VRs r I w D m vs := by
 obtain ⟨h1,h2⟩ := h.get
 refine ⟨hv.1.trans h1,fun i c x hc hx => ?_⟩
 obtain ⟨a,ha,hn⟩ := h2 i c hc
 exact hn.vr (hv.2 i a x ha hx)
inductive Yd (p : Prop) : Prop
 | mk (h : p) : Yd p
def isSx (sx : FuncId -> Bool) (env : Env) (o : Oper) : Option (FuncId × List AV) :=
 match o.op with
 | .call { callee := .value f,args,.. } => match evA env f with
  | .func g c0 c1 => cond (sx g) (some (g,(c0 ++ Xt (evA env) args.toList) ++ c1)) none
  | _ => none
 | _ => none
def vcY1 (P : Program) (cx : Cx) (N B l : Nat) (sc : Bool) (sx : FuncId -> Bool) (Ig : Imm) (JX : Zs -> (Nat -> Prop) -> World -> Prop) (o : Oper) (env : Env) (σ : St) (z : Zs) (K : Env -> St -> Zs -> Prop) : Prop :=
 match Zt8 env o with
 | some (l',aZ) => match z with
  | some (x :: zs) => Yd (l' = l /\ Zn1 σ.heap = true /\ Vw σ.get aZ x /\ (sc = true -> Zat x = true) /\ (Zq N o.dst (.bool true) env fun env' => K env' σ (some zs)) /\ (Zq N o.dst (.bool false) env fun env' => K env' σ none))
  | _ => False
 | none => match isSx sx env o with
  | some (g,aZ) => YCt P B Ig JX g aZ σ z fun v σ' z' => Zq N o.dst v env fun env' => K env' σ' z'
  | none => vcOp cx N o env σ fun env' σ' => K env' σ' z
def Zdc (P : Program) (cx : Cx) (N B l : Nat) (sc : Bool) (sx : FuncId -> Bool) (Ig : Imm) (JX : Zs -> (Nat -> Prop) -> World -> Prop) (ops : List Oper) : List Oper -> Env -> St -> Zs -> (Env -> St -> Zs -> Prop) -> Prop
 | [],env,σ,z,K => K env σ z
 | o :: rest,env,σ,z,K =>
  match o.guard with
  | none => vcY1 P cx N B l sc sx Ig JX o env σ z fun env' σ' z' => Zdc P cx N B l sc sx Ig JX ops rest env' σ' z' K
  | some (j,want) =>
   match Yl ops j with
   | none => False
   | some t => match env.get t with
    | .bool b => Br b
     (match want with
      | true => vcY1 P cx N B l sc sx Ig JX o ((t,.bool true) :: env) σ z fun env' σ' z' => Zdc P cx N B l sc sx Ig JX ops rest env' σ' z' K
      | false => Zq N o.dst (.tup []) ((t,.bool true) :: env) fun env' => Zdc P cx N B l sc sx Ig JX ops rest env' σ z K)
     (match want with
      | false => vcY1 P cx N B l sc sx Ig JX o ((t,.bool false) :: env) σ z fun env' σ' z' => Zdc P cx N B l sc sx Ig JX ops rest env' σ' z' K
      | true => Zq N o.dst (.tup []) ((t,.bool false) :: env) fun env' => Zdc P cx N B l sc sx Ig JX ops rest env' σ z K)
    | .tup [] => Zq N o.dst (.tup []) env fun env' => Zdc P cx N B l sc sx Ig JX ops rest env' σ z K
    | _ => False
variable {r r' : Locs} {D D' : Nat -> Prop} {I I' : Imm} {w w' w0 : World} {I0 Ig : Imm} {B n n' k N l : Nat} {pr pr' pr2 : Nat -> Obj -> Prop} {h : Nat -> ABlk} {P : Program} {JX : Zs -> (Nat -> Prop) -> World -> Prop} {O : Nat -> Prop} {sc : Bool}
theorem YSx.liveO {z : Zs} {env : Env} {σ : St} {a : Act} (S : YSx N B Ig JX z r D I O env σ a w) (hm : Zn1 σ.heap = true) : ∀ id,(σ.get id).live = true -> O (r id).blk := by
 have H := S.hr
 intro id hid
 have hB : B <= (r id).blk := by
  have hb := H.blk id
  cases hx : σ.get id with
  | row es elems mt pu =>
   have := Zej hm hx
   subst this
   rw [hx] at hb
   obtain ⟨_,_,_,cs,T,fz,_,_,_,h7,_⟩ := hb
   exact (h7 rfl).1
  | map ents => rw [hx] at hb; exact hb.1
  | set keys => rw [hx] at hb; exact hb.1
  | dead => rw [hx] at hid; simp [ABlk.live] at hid
 by_cases ho : O (r id).blk
 ·exact ho
 ·have hlt := (H.dom id (H.live id hid)).2
  have e1 : w.heap[(r id).blk]? = some w.heap[(r id).blk] := by simp [hlt]
  exact ((H.protK _ _ ⟨hB,ho,e1⟩).1 id hid rfl).elim
def LvY (N B : Nat) (Ig : Imm) (JX : Zs -> (Nat -> Prop) -> World -> Prop) (r : Locs) (D : Nat -> Prop) (I : Imm) (w : World) (K : Env -> St -> Zs -> Prop) (a' : Act) (w' : World) : Prop :=
 ∃ env' σ' z' r' D' I' O',K env' σ' z' /\ YSx N B Ig JX z' r' D' I' O' env' σ' a' w' /\ Step r D I w r' D' I' w'
theorem Zti {cx : Cx} (hcx : CxOK P cx) (hI : YEnv P B Ig l sc JX) {sx : FuncId -> Bool} (o : Oper) (ho : ∀ c,o.op ≠ .defer c) {env : Env} {σ : St} {z : Zs} {a : Act} (S : YSx N B Ig JX z r D I O env σ a w) {K : Env -> St -> Zs -> Prop} {Q : Exit -> Act -> World -> Prop} {next : Act -> World -> Prop}
  (hv : vcY1 P cx N B l sc sx Ig JX o env σ z K) (hnext : ∀ a' w',LvY N B Ig JX r D I w K a' w' -> next a' w') : o.wpIn Fence.wide 0 P a w next Q := by
 unfold vcY1 at hv
 cases hy : Zt8 env o with
 | some la =>
  obtain ⟨l',aZ⟩ := la
  rw [hy] at hv
  dsimp only at hv
  split at hv
  ·rename_i x zs
   obtain ⟨e1,hm,⟨x',lv,hview,hns⟩,hs,ht,hf⟩ := hv.1
   subst e1
   unfold Zt8 at hy
   split at hy
   ·rename_i f args ts hop
    split at hy
    ·rename_i l2 hf2
     simp only [Option.some.injEq,Prod.mk.injEq] at hy
     obtain ⟨e3,hy⟩ := hy
     subst e3
     have hfv := Xc S.er f
     rw [hf2] at hfv
     have hval : a.eval f = .func (.yield l2) #[] #[] := by generalize a.eval f = q at hfv; cases hfv; rfl
     have hargs := Xl (fun x => Xc S.er x) args
     rw [hy] at hargs
     have hvw := hns.vrs (Us S.hr hargs hview)
     have hup : ∀ b o,Vv r I σ.get lv b o -> Ig b o \/ O b := by
      rintro b o (hi | ⟨id,_,es,elems,mt,pu,i,e,j,c,hid,_,_,rfl,_⟩)
      ·exact S.up b o hi
      ·exact .inr (S.liveO hm id (by rw [hid]; rfl))
     obtain ⟨fn,tmps,assign,body,hrun,hR⟩ := hI.round x zs O w _ _ hs S.jx (fun b o hi => .inl (S.lo b o hi)) hup hvw
     refine ⟨Ub (.inl rfl) o a w,?_⟩
     rw [Oper.semAt_eq _ _ _ ho]
     have hrunE : (execOp a.eval o).run P w = .ok (.round l2 fn tmps assign body) w := by
      have : execOp a.eval o = (do let d <-resolve a.eval { callee := .value f,args := args,argTypes := ts } o.type; invoke d.target d.args) := by
       unfold execOp; rw [hop]
      rw [this]
      simp [resolve,hval,Deferred.ofValue,invoke]
      simpa using hrun
     rw [hrunE]
     refine ⟨fun hd => by simp [Fence.wide] at hd,hR.mono fun e w' hh => ?_⟩
     obtain ⟨b,rfl,k1,k2,k3,hjt,hjf⟩ := hh
     cases b with
     | true =>
      obtain ⟨S2,st⟩ := S.behind hI hm k1 k2 k3 (hjt rfl)
      obtain ⟨env',hk,S3⟩ := S2.put (.bool D true) ht
      exact hnext _ _ ⟨env',σ,_,r,D,I,O,hk,S3,st⟩
     | false =>
      obtain ⟨S2,st⟩ := S.behind hI hm k1 k2 k3 (hjf rfl)
      obtain ⟨env',hk,S3⟩ := S2.put (.bool D false) hf
      exact hnext _ _ ⟨env',σ,_,r,D,I,O,hk,S3,st⟩
    ·cases hy
   ·cases hy
  ·exact hv.elim
 | none =>
  rw [hy] at hv
  dsimp only at hv
  cases hs : isSx sx env o with
  | some ga =>
   obtain ⟨g,aZ⟩ := ga
   rw [hs] at hv
   obtain ⟨⟨fn,q1,q2,q3⟩,hcall⟩ := hv.1
   unfold isSx at hs
   split at hs
   ·rename_i f args ts hop
    split at hs
    ·rename_i g' c0 c1 hf
     obtain ⟨_,hs⟩ := Zb hs
     simp only [Option.some.injEq,Prod.mk.injEq] at hs
     obtain ⟨e1,e2⟩ := hs
     subst e1 e2
     have hfv := Xc S.er f
     rw [hf] at hfv
     obtain ⟨v0,v1,hv,k0,k1⟩ : ∃ v0 v1,a.eval f = .func (.func g') v0 v1 /\ VRs r I w D c0 v0 /\ VRs r I w D c1 v1 := by
      generalize a.eval f = z at hfv
      cases hfv with
      | func _ _ _ _ v0 v1 h0 h1 g0 g1 => exact ⟨v0,v1,rfl,⟨h0,g0⟩,⟨h1,g1⟩⟩
     have hargs := Xl (fun x => Xc S.er x) args
     have hvs := (k0.append hargs).append k1
     refine ⟨Ub (.inl rfl) o a w,?_⟩
     rw [Oper.semAt_eq _ _ _ ho]
     have hrunE : (execOp a.eval o).run P w = .ok (.enter g' ((v0 ++ args.map a.eval) ++ v1)) w := by
      have : execOp a.eval o = (do let d <-resolve a.eval { callee := .value f,args := args,argTypes := ts } o.type; invoke d.target d.args) := by
       unfold execOp; rw [hop]
      rw [this]
      have q2' : ¬ fn.name = "runtime.NumGoroutine" := by simpa using q2
      have q3' : ¬ fn.body = none := by intro h; rw [h] at q3; simp at q3
      simp [resolve,hv,Deferred.ofValue,invoke,callFunc,q1,q2',q3']
     rw [hrunE]
     refine ⟨fun hd => by simp [Fence.wide] at hd,?_⟩
     refine (hcall r D I O w _ S.hr S.ho S.lo S.up S.jx hvs).mono fun e w' hh => ?_
     obtain ⟨x,v,σ',z',r',D',I',O',rfl,hk,H',ho',lo',up',jx',V',st⟩ := hh
     have S2 : YSx N B Ig JX z' r' D' I' O' env σ' a w' := ⟨H',ho',lo',up',S.er.mono st,jx',S.df⟩
     obtain ⟨env',hk',S3⟩ := S2.put V' hk
     exact hnext _ _ ⟨env',σ',z',r',D',I',O',hk',S3,st⟩
    ·cases hs
   ·cases hs
  | none =>
   rw [hs] at hv
   refine Zbv hcx (.inl rfl) o ho (pr := prO B O w) (w0 := w) (I0 := I) ⟨S.hr,S.er⟩ hv (fun a' w' hl => ?_)
   obtain ⟨env',σ',r',D',I',O',hk,S',st⟩ := S.step hI hl
   exact hnext _ _ ⟨env',σ',z,r',D',I',O',hk,S',st⟩
theorem Zdb {cx : Cx} (hcx : CxOK P cx) (hI : YEnv P B Ig l sc JX) {sx : FuncId -> Bool} (ops : List Oper) {Q : Exit -> Act -> World -> Prop} {K : Env -> St -> Zs -> Prop} : ∀ (os : List Oper),Yi os = true -> ∀ {r : Locs} {D : Nat -> Prop} {I : Imm} {O : Nat -> Prop} {w : World} {env : Env} {σ : St} {z : Zs} {a : Act},
  YSx N B Ig JX z r D I O env σ a w -> Zdc P cx N B l sc sx Ig JX ops os env σ z K -> (∀ a' w',LvY N B Ig JX r D I w K a' w' -> Q .normal a' w') -> wpListIn Fence.wide 0 P ops.toArray Q os a w
 | [],_,r,D,I,O,w,env,σ,z,a,S,hvc,hq => hq _ _ ⟨env,σ,z,r,D,I,O,hvc,S,Step.refl _ _ _ _⟩
 | o :: rest,hd,r,D,I,O,w,env,σ,z,a,S,hvc,hq => by
  simp only [Yi,Bool.and_eq_true] at hd
  obtain ⟨hd1,hd2⟩ := hd
  have ho : ∀ c,o.op ≠ .defer c := fun c e => by rw [e] at hd1; simp at hd1
  have run : ∀ env',YSx N B Ig JX z r D I O env' σ a w -> vcY1 P cx N B l sc sx Ig JX o env' σ z (fun env' σ' z' => Zdc P cx N B l sc sx Ig JX ops rest env' σ' z' K) -> o.wpIn Fence.wide 0 P a w (wpListIn Fence.wide 0 P ops.toArray Q rest) Q := by
   intro env' S' hv
   refine Zti hcx hI o ho S' hv (fun a' w' hl => ?_)
   obtain ⟨env2,σ2,z2,r2,D2,I2,O2,h1,h2,h3⟩ := hl
   refine Zdb hcx hI ops rest hd2 h2 h1 (fun a3 w3 hl3 => hq _ _ ?_)
   obtain ⟨env3,σ3,z3,r3,D3,I3,O3,g1,g2,g3⟩ := hl3
   exact ⟨env3,σ3,z3,r3,D3,I3,O3,g1,g2,h3.trans g3⟩
  have skip : ∀ env',YSx N B Ig JX z r D I O env' σ a w -> (Zq N o.dst (.tup []) env' fun env' => Zdc P cx N B l sc sx Ig JX ops rest env' σ z K) -> (∀ f,o.about P w a.eval = some f -> Fence.wide.fn f) /\ wpListIn Fence.wide 0 P ops.toArray Q rest (a.put o.dst undef) w := by
   intro env' S' hv
   refine ⟨Ub (.inl rfl) o a w,?_⟩
   obtain ⟨env2,h1,h2⟩ := S'.put (x := undef) (VR.tup D [] #[] rfl (fun i c v hc => by cases hc)) hv
   exact Zdb hcx hI ops rest hd2 h2 h1 hq
  simp only [Zdc] at hvc
  cases hg : o.guard with
  | none =>
   rw [hg] at hvc
   refine wpListIn_step fun K0 hK => ?_
   simp only [Region.wanted,hg,if_true]
   have := run env S hvc
   refine ⟨this.1,?_⟩
   exact Zcc hK this.2
  | some jw =>
   obtain ⟨j,want⟩ := jw
   rw [hg] at hvc
   dsimp only at hvc
   cases ht : Yl ops j with
   | none => rw [ht] at hvc; exact hvc.elim
   | some t =>
    rw [ht] at hvc
    dsimp only at hvc
    have htv := S.er.2 t
    have hput : ∀ b,env.get t = .bool b -> YSx N B Ig JX z r D I O ((t,.bool b) :: env) σ a w := fun b hb => ⟨S.hr,S.ho,S.lo,S.up,⟨S.er.1,fun i => by
     rw [Env.get_cons]
     by_cases e : i = t
     ·subst e; rw [if_pos rfl,<-hb]; exact htv
     ·rw [if_neg e]; exact S.er.2 i⟩,S.jx,S.df⟩
    unfold wpListIn
    have hwant : Region.wanted o (yielded ops.toArray a.tmps) = (yielded ops.toArray a.tmps j == some want) := by simp [Region.wanted,hg]
    rw [hwant]
    by_cases hts : t < a.tmps.size
    ·rw [Zgv ht a hts]
     split at hvc
     ·rename_i b hb
      have hval : a.tmps.getD t undef = .bool b := by
       rw [hb] at htv
       generalize a.tmps.getD t undef = z at htv
       cases htv; rfl
      rw [hval]
      dsimp only
      rcases Br.cases hvc with ⟨rfl,hv⟩ | ⟨rfl,hv⟩
      ·cases want
       ·simp only [show (some true == some false) = false from rfl,Bool.false_eq_true,if_false]
        exact skip _ (hput _ hb) hv
       ·simp only [show (some true == some true) = true from rfl,if_true]
        exact run _ (hput _ hb) hv
      ·cases want
       ·simp only [show (some false == some false) = true from rfl,if_true]
        exact run _ (hput _ hb) hv
       ·simp only [show (some false == some true) = false from rfl,Bool.false_eq_true,if_false]
        exact skip _ (hput _ hb) hv
     ·rename_i hb
      have hval : ∃ vs,a.tmps.getD t undef = .tuple vs := by
       rw [hb] at htv
       generalize a.tmps.getD t undef = z at htv
       cases htv; exact ⟨_,rfl⟩
      obtain ⟨vs,hval⟩ := hval
      rw [hval]
      dsimp only
      rw [if_neg (by simp)]
      exact skip _ S hvc
     ·exact hvc.elim
    ·have hval : a.tmps.getD t undef = undef := by simp [Array.getD_eq_getD_getElem?,Nat.not_lt.1 hts]
     rw [hval] at htv
     split at hvc
     ·rename_i b hb
      rw [hb] at htv
      cases htv
     ·have : yielded ops.toArray a.tmps j = none := by
       unfold yielded
       have : (ops.toArray[j]?).bind (·.dst) = some t := by simpa [Yl] using ht
       rw [this]
       simp [Nat.not_lt.1 hts]
      rw [this,if_neg (by simp)]
      exact skip _ S hvc
     ·exact hvc.elim
def vcYC (P : Program) (cx : Cx) (pc : PC) (N B l : Nat) (sc : Bool) (sx : FuncId -> Bool) (Ig : Imm) (JX : Zs -> (Nat -> Prop) -> World -> Prop) (lp : Code -> Env -> St -> Zs -> IQ -> Prop) : Code -> Env -> St -> Zs -> IQ -> Prop
 | .skip,env,σ,z,Q => Q .normal env σ z
 | .region _ ops draw,env,σ,z,Q => match draw with
  | false => cond (Yi ops.toList) (Zdc P cx N B l sc sx Ig JX ops.toList ops.toList env σ z (Q .normal)) False
  | true => Zfw cx pc N ops.toList env σ fun env' σ' => Q .normal env' σ' z
 | .seq x y,env,σ,z,Q => vcYC P cx pc N B l sc sx Ig JX lp x env σ z (seqI (fun env' σ' z' => vcYC P cx pc N B l sc sx Ig JX lp y env' σ' z' Q) Q)
 | .cond c x y,env,σ,z,Q => match evA env c with
  | .bool b => Br b (fEnv (setC env c true) fun env => vcYC P cx pc N B l sc sx Ig JX lp x env σ z Q) (fEnv (setC env c false) fun env => vcYC P cx pc N B l sc sx Ig JX lp y env σ z Q)
  | _ => False
 | .block id c,env,σ,z,Q => vcYC P cx pc N B l sc sx Ig JX lp c env σ z (Zlr id Q)
 | .loop c,env,σ,z,Q => lp c env σ z Q
 | .exit id,env,σ,z,Q => Q (.exit id) env σ z
 | .ret,env,σ,z,Q => Q .ret env σ z
 | _,_,_,_,_ => False
theorem YSx.setC {z : Zs} {env : Env} {σ : St} {a : Act} {c : Operand} {b : Bool} (S : YSx N B Ig JX z r D I O env σ a w) (hc : evA env c = .bool b) : YSx N B Ig JX z r D I O (Sx.setC env c b) σ a w := by
 cases c with
 | tmp t =>
  refine ⟨S.hr,S.ho,S.lo,S.up,⟨S.er.1,fun i => ?_⟩,S.jx,S.df⟩
  simp only [Sx.setC,Env.get_cons]
  by_cases e : i = t
  ·subst e; rw [if_pos rfl,<-hc]; exact S.er.2 i
  ·rw [if_neg e]; exact S.er.2 i
 | _ => exact S
theorem Zam {cx : Cx} (hcx : CxOK P cx) {pc : PC} (hpc : PCOK P pc) (hm : P.follows .mixedOrders = true) (hI : YEnv P B Ig l sc JX) {sx : FuncId -> Bool} {lp : Code -> Env -> St -> Zs -> IQ -> Prop} (hlp : ∀ c env σ z Q,lp c env σ z Q -> AwpY P N B Ig JX (.loop c) env σ z Q) :
  ∀ (c : Code) (env : Env) (σ : St) (z : Zs) (Q : IQ),vcYC P cx pc N B l sc sx Ig JX lp c env σ z Q -> AwpY P N B Ig JX c env σ z Q
 | .skip,env,σ,z,Q,hv => fun r D I O a w S => wpIn_skip ⟨env,σ,z,r,D,I,O,hv,S,Step.refl _ _ _ _⟩
 | .region id ops draw,env,σ,z,Q,hv => by
  cases draw with
  | true =>
   intro r D I O a w S
   simp only [vcYC] at hv
   refine Zl2 hcx hpc hm (.inl rfl) id ops (pr := prO B O w) (w0 := w) (I0 := I) hv ⟨S.hr,S.er⟩ (fun a' w' hl => ?_)
   obtain ⟨env',σ',r',D',I',O',hk,S',st⟩ := S.step hI hl
   exact ⟨env',σ',z,r',D',I',O',hk,S',st⟩
  | false =>
   intro r D I O a w S
   simp only [vcYC] at hv
   cases hno : Yi ops.toList with
   | false => rw [hno] at hv; exact hv.elim
   | true =>
    rw [hno] at hv
    refine wpIn_region_list ?_
    exact Zdb hcx hI ops.toList (Q := PY N B Ig JX r D I w Q) ops.toList hno S hv (fun a' w' hl => hl)
 | .seq x y,env,σ,z,Q,hv => by
  intro r D I O a w S
  simp only [vcYC] at hv
  refine wpIn_seq (Code.wpIn_mono (fun e a' w' h => ?_) (Zam hcx hpc hm hI hlp x env σ z _ hv r D I O a w S))
  obtain ⟨env',σ',z',r',D',I',O',hq,S',st⟩ := h
  cases e with
  | normal => exact Code.wpIn_mono (fun e a2 w2 ⟨env2,σ2,z2,r2,D2,I2,O2,q2,S2,st2⟩ => ⟨env2,σ2,z2,r2,D2,I2,O2,q2,S2,st.trans st2⟩) (Zam hcx hpc hm hI hlp y env' σ' z' Q hq r' D' I' O' a' w' S')
  | exit id => exact ⟨env',σ',z',r',D',I',O',hq,S',st⟩
  | goto l => exact ⟨env',σ',z',r',D',I',O',hq,S',st⟩
  | ret => exact ⟨env',σ',z',r',D',I',O',hq,S',st⟩
  | panic ch => exact ⟨env',σ',z',r',D',I',O',hq,S',st⟩
  | outgrown => exact ⟨env',σ',z',r',D',I',O',hq,S',st⟩
 | .cond c x y,env,σ,z,Q,hv => by
  intro r D I O a w S
  simp only [vcYC,Zqr] at hv
  split at hv
  ·rename_i b hb
   have hc := Xc S.er c
   rw [hb] at hc
   have hcv : a.eval c = .bool b := by generalize a.eval c = z at hc; cases hc; rfl
   rcases Br.cases hv with ⟨rfl,h⟩ | ⟨rfl,h⟩
   ·exact wpIn_cond_true hcv (Zam hcx hpc hm hI hlp x _ σ z Q h r D I O a w (S.setC hb))
   ·exact wpIn_cond_false hcv (Zam hcx hpc hm hI hlp y _ σ z Q h r D I O a w (S.setC hb))
  ·exact hv.elim
 | .block id c,env,σ,z,Q,hv => by
  intro r D I O a w S
  simp only [vcYC] at hv
  refine wpIn_block (Code.wpIn_mono (fun e a' w' h => ?_) (Zam hcx hpc hm hI hlp c env σ z _ hv r D I O a w S))
  obtain ⟨env',σ',z',r',D',I',O',hq,S',st⟩ := h
  cases e with
  | exit id' =>
   by_cases hid : id' = id
   ·subst hid
    simp only [Exit.inBlock,if_true]
    exact ⟨env',σ',z',r',D',I',O',by simpa [Zlr] using hq,S',st⟩
   ·simp only [Exit.inBlock,hid,if_false]
    have : Nat.beq id' id = false := by rw [Bool.eq_false_iff]; intro hb; exact hid (Nat.eq_of_beq_eq_true hb)
    exact ⟨env',σ',z',r',D',I',O',by simpa [Zlr,this] using hq,S',st⟩
  | normal => exact ⟨env',σ',z',r',D',I',O',hq,S',st⟩
  | goto l => exact ⟨env',σ',z',r',D',I',O',hq,S',st⟩
  | ret => exact ⟨env',σ',z',r',D',I',O',hq,S',st⟩
  | panic ch => exact ⟨env',σ',z',r',D',I',O',hq,S',st⟩
  | outgrown => exact ⟨env',σ',z',r',D',I',O',hq,S',st⟩
 | .loop c,env,σ,z,Q,hv => hlp c env σ z Q hv
 | .exit id,env,σ,z,Q,hv => fun r D I O a w S => wpIn_exit ⟨env,σ,z,r,D,I,O,hv,S,Step.refl _ _ _ _⟩
 | .ret,env,σ,z,Q,hv => fun r D I O a w S => wpIn_ret ⟨env,σ,z,r,D,I,O,hv,S,Step.refl _ _ _ _⟩
 | .rangeFunc _ _ _ _,_,_,_,_,hv => hv.elim
 | .scope _,_,_,_,_,hv => hv.elim
 | .label _,_,_,_,_,hv => hv.elim
 | .goto _,_,_,_,_,hv => hv.elim
 | .refuse _,_,_,_,_,hv => hv.elim
end Go.Sx
