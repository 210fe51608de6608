/- A part of the proof: lemmas. -/
import Derived.Test.YtdaliaafmcjikaaGreatV2
import Derived.RangeFuncLeaves
set_option linter.unusedVariables false
set_option linter.unusedSimpArgs false
namespace Go.Sx
open Go Go.RowKit
variable {r r' : Locs} {D D' : Nat -> Prop} {I I' : Imm} {w w' w0 : World} {I0 : Imm} {B n n' k : Nat} {pr : Nat -> Obj -> Prop} {h : Nat -> ABlk} {P : Program} {ty : TypeId}
def Zp8 (elems : List (List AV)) (p : Nat) (ys : List (List AV)) : List (List AV) := elems.take p ++ ys ++ elems.drop (p + ys.length)
theorem Znv {elems ys : List (List AV)} {p : Nat} (h : p + ys.length <= elems.length) (i : Nat) : (Zp8 elems p ys)[i]? = if i < p then elems[i]? else if i < p + ys.length then ys[i - p]? else elems[i]? := Yj elems ys p i h
theorem Zv7 {elems ys : List (List AV)} {p : Nat} (h : p + ys.length <= elems.length) : (Zp8 elems p ys).length = elems.length := by simp [Zp8]; omega
theorem HR.overlay (H : HR B w0 I0 pr r I D h n w) {es : Nat} {elems ys : List (List AV)} {pu py : Bool} (hb : h k = .row es elems true pu) {vs : Array Value} {p : Nat} (hp : p + ys.length <= elems.length) (hm : vs.size = ys.length * es)
  (y3 : ∀ (i : Nat) (e : List AV),ys[i]? = some e -> e.length = es) (y6 : ∀ (i : Nat) (e : List AV) (j : Nat) (c : AV),ys[i]? = some e -> e[j]? = some c -> ∃ v,vs[i * es + j]? = some v /\ VR r I w (fun x => py = false /\ D x) c v) :
  ∃ cs : Array Value,∃ T,w.heap[(r k).blk]? = some (.cells cs T (0,0)) /\ (r k).off + p * es + vs.size <= cs.size /\
   let w' := w.setRow (r k).blk (cs.toList.take ((r k).off + p * es) ++ vs.toList ++ cs.toList.drop ((r k).off + p * es + vs.toList.length)).toArray
   HR B w0 I0 pr r I D (hupd h k (.row es (Zp8 elems p ys) true (pu && py))) n w' /\ Step r D I w r D I w' := by
 have hB := H.blk k
 rw [hb] at hB
 obtain ⟨h1,h2,h3,cs,T,fz,h4,h5,h6,h7,_⟩ := hB
 obtain ⟨g1,g2,rfl⟩ := h7 rfl
 have hpe : (p + ys.length) * es = p * es + ys.length * es := Nat.add_mul _ _ _
 have hb1 : (r k).off + p * es + vs.size <= cs.size := by
  have : (p + ys.length) * es <= (r k).cap * es := Nat.mul_le_mul_right _ (by omega)
  omega
 refine ⟨cs,T,h4,hb1,?_⟩
 intro w'
 have hh : w'.heap[(r k).blk]? = some (.cells (cs.toList.take ((r k).off + p * es) ++ vs.toList ++ cs.toList.drop ((r k).off + p * es + vs.toList.length)).toArray T (0,0)) := setRow_heap w _ cs _ T _ h4
 have hoth : ∀ b,b ≠ (r k).blk -> w'.heap[b]? = w.heap[b]? := fun b hne => setRow_other w _ _ _ hne
 have hget : ∀ q,(cs.toList.take ((r k).off + p * es) ++ vs.toList ++ cs.toList.drop ((r k).off + p * es + vs.toList.length)).toArray[q]? =
   if q < (r k).off + p * es then cs[q]? else if q < (r k).off + p * es + vs.toList.length then vs[q - ((r k).off + p * es)]? else cs[q]? := by
  intro q
  have := Yj cs.toList vs.toList ((r k).off + p * es) q (by simpa using hb1)
  simp only [List.getElem?_toArray]
  rw [this]
  simp
 refine H.write (k := k) (w' := w') (by rw [hb]; rfl) ⟨rfl,rfl,rfl,by simp [w'],fun b hlt => hoth b (by omega)⟩ g1 (fun o ho => (g2 o ho).elim) (fun o ho => by
  rw [h4] at ho
  obtain rfl := Option.some.inj ho
  exact ⟨fun l => by simp,fun l => by simp⟩) (size_setRow _ _ _) hoth (.row es (Zp8 elems p ys) true (pu && py)) (fun st => ?_)
 have hlen := Zv7 (ys := ys) hp
 refine ⟨⟨h1.1,by rw [hlen]; exact h1.2⟩,by rw [hlen]; exact h2,fun i e he => ?_,_,T,(0,0),hh,by simp; omega,fun i e j c he hj => ?_,fun _ => ⟨g1,g2,rfl⟩,by simp⟩
 ·rw [Znv hp] at he
  split at he
  ·exact h3 i e he
  ·split at he
   ·exact y3 _ e he
   ·exact h3 i e he
 ·rw [Znv hp] at he
  have hsz : vs.toList.length = ys.length * es := by simpa using hm
  split at he
  ·rename_i hi
   obtain ⟨v,a,b⟩ := h6 i e j c he hj
   refine ⟨v,?_,b.mono ⟨fun id h => ⟨⟨by simp [h.1],h.2⟩,rfl⟩,st.imm,st.size⟩⟩
   have hjl : j < es := by have := h3 i e he; have := (List.getElem?_eq_some_iff.1 hj).1; omega
   have : (i + 1) * es <= p * es := Nat.mul_le_mul_right _ hi
   have : (i + 1) * es = i * es + es := Nat.succ_mul _ _
   rw [hget,if_pos (by omega)]; exact a
  ·split at he
   ·rename_i hi1 hi2
    obtain ⟨v,a,b⟩ := y6 (i - p) e j c he hj
    refine ⟨v,?_,b.mono ⟨fun id h => ⟨⟨by simp [h.1],h.2⟩,rfl⟩,st.imm,st.size⟩⟩
    have hjl : j < es := by have := y3 _ e he; have := (List.getElem?_eq_some_iff.1 hj).1; omega
    have e1 : (i - p) * es + p * es = i * es := by rw [<-Nat.add_mul]; congr 1; omega
    have e2 : (i - p + 1) * es <= ys.length * es := Nat.mul_le_mul_right _ (by omega)
    have e3 : (i - p + 1) * es = (i - p) * es + es := Nat.succ_mul _ _
    rw [hget,if_neg (by omega),if_pos (by omega),<-a]
    congr 1; omega
   ·rename_i hi1 hi2
    obtain ⟨v,a,b⟩ := h6 i e j c he hj
    refine ⟨v,?_,b.mono ⟨fun id h => ⟨⟨by simp [h.1],h.2⟩,rfl⟩,st.imm,st.size⟩⟩
    have e1 : (p + ys.length) * es <= i * es := Nat.mul_le_mul_right _ (by omega)
    rw [hget,if_neg (by omega),if_neg (by omega)]; exact a
def Fits : Prop := True
theorem Fits.here : Fits := trivial
theorem Ap.fitF {A A' A'' : Prop} (_ : Fits) (h : A'') : Ap A A' A'' := .fit h
def fitK (h : Nat -> ABlk) (te : TI) (x y : AV) (K : AV × Eff -> Prop) : Prop :=
 match Yu te.size h y with
 | none => False
 | some (ys,py) => match x with
  | .asl id idx len => match h id with
   | .row es elems true px => cond (Nat.beq te.size es) (As (decide (idx + len + ys.length <= elems.length)) (As (Vc ys) (K (.asl id idx (len + ys.length),.put id (.row te.size (Zp8 elems (idx + len) ys) true (px && py)))))) False
   | _ => False
  | _ => False
theorem Zuh {T : Tab} (hT : TabOK P T) {t tx e e' : TypeId} (ht : P.underlying t = some (.slice e)) (htx : P.underlying tx = some (.slice e')) {te : TI} (hte : T e = some te) (H : HR B w0 I0 pr r I D h n w)
  {x y : AV} {u v : Value} (hx : VR r I w D x u) (hy : VR r I w D y v) {K : AV × Eff -> Prop} (hK : fitK h te x y K) : ∃ res eff,Gives P B w0 I0 pr r I D h n k (Builtin.append_ #[t,tx] ty #[u,v]) w res eff /\ K (res,eff) := by
 obtain ⟨i,hi,g1,g2,z,hz,g3,_⟩ := hT.info e te hte
 unfold fitK at hK
 split at hK
 ·exact hK.elim
 rename_i ys py hys
 split at hK
 ·rename_i id idx len
  split at hK
  ·rename_i es elems px hq
   obtain ⟨c1,hk0⟩ := Zd5 hK
   clear hK
   have c1 := Nat.eq_of_beq_eq_true c1
   subst c1
   obtain ⟨c2,hk1⟩ := hk0.cases
   obtain ⟨c3,hk2⟩ := hk1.cases
   have c2 := of_decide_eq_true c2
   obtain ⟨a,c,news,rfl,Ey⟩ := Zbf H hy hys
   have hB := H.blk id
   rw [hq] at hB
   obtain ⟨⟨hb1,hb2⟩,hb3,_⟩ := hB
   obtain ⟨base,sCap,rfl,hbase,hcapv,hdd⟩ : ∃ base sCap,u = .slice base len sCap /\ base = some ⟨(r id).blk,(r id).off + idx * te.size,none⟩ /\ sCap = (r id).cap - idx /\ D id := by
    cases hx with
    | asl _ _ _ _ hd hc => exact ⟨_,_,rfl,by rw [hb1],rfl,hd⟩
   subst hbase
   subst hcapv
   have hnl : news.length = ys.length * te.size := Ey.len
   obtain ⟨cs,T',k1,k2,k3,k4⟩ := H.overlay (ys := ys) (py := py) hq (vs := news.toArray) (p := idx + len) c2 (by simpa using hnl) Ey.each (fun i e j c hi hj => by
    obtain ⟨v,a,b⟩ := Ey.cells i e j c hi hj
    exact ⟨v,by simpa using a,b⟩)
   have hone : ∀ v ∈ news,v.oneCell' = true := by
    intro v hv
    obtain ⟨q,hq,rfl⟩ := List.getElem_of_mem hv
    rw [hnl] at hq
    have hes : 0 < te.size := by rcases Nat.eq_zero_or_pos te.size with e | e; rw [e] at hq; simp at hq; exact e
    have q1 : q / te.size < ys.length := (Nat.div_lt_iff_lt_mul hes).2 hq
    have q2 : q % te.size < te.size := Nat.mod_lt _ hes
    have q3 : q / te.size * te.size + q % te.size = q := by rw [Nat.mul_comm]; exact Nat.div_add_mod _ _
    have hi1 : ys[q / te.size]? = some ys[q / te.size] := List.getElem?_eq_getElem q1
    have hjl : q % te.size < (ys[q / te.size]).length := by have := Ey.each _ _ hi1; omega
    obtain ⟨v,a,b⟩ := Ey.cells _ _ _ _ hi1 (List.getElem?_eq_getElem hjl)
    rw [q3] at a
    have : news[q] = v := by rw [List.getElem?_eq_getElem (by omega)] at a; exact Option.some.inj a
    rw [this]
    refine b.one ?_
    have h5 := List.all_eq_true.1 c3 _ (List.getElem_mem q1)
    exact List.all_eq_true.1 h5 _ (List.getElem_mem hjl)
   have hst := run_storeCells_at P (r id).blk ((r id).off + (idx + len) * te.size) T' news 0 cs w k1 (by simpa using k2) hone
   have hadd : ((⟨(r id).blk,(r id).off + idx * te.size,none⟩ : Addr).add (len * i.size)) = ⟨(r id).blk,(r id).off + (idx + len) * te.size,none⟩ := by
    rw [Xo,g1]
    congr 1
    rw [Nat.add_assoc,<-Nat.add_mul]
   have hrun := Zdj (ty := ty) (c := c) (a := a) (b := ⟨(r id).blk,(r id).off + idx * te.size,none⟩) (m := len) (sCap := (r id).cap - idx) ht htx hi (by rw [g1]; exact Ey) (by omega) (by rw [hadd]; exact hst)
   have hD : (fun i => D i \/ ((Eff.put id (.row te.size (Zp8 elems (idx + len) ys) true (px && py))).adds = true /\ i = k)) = D := funext fun i => by simp [Eff.adds]
   refine ⟨_,_,?_,hk2⟩
   unfold Gives
   rw [hD]
   refine ⟨_,_,_,hrun,k3,k4,?_⟩
   have := VR.asl (r := r) (I := I) (w := w.setRow (r id).blk (cs.toList.take ((r id).off + (idx + len) * te.size) ++ news.toArray.toList ++ cs.toList.drop ((r id).off + (idx + len) * te.size + news.toArray.toList.length)).toArray) D id idx (len + ys.length) hdd (by omega)
   rw [hb1] at this
   exact this
  ·exact hK.elim
 ·exact hK.elim
def apF (T : Tab) (ev : Operand -> AV) (h : Nat -> ABlk) (c : Call) (K : AV × Eff -> Prop) : Prop :=
 match c.argTypes.toList,c.args.toList with
 | [t,tx],[x,y] => match T t,T tx with
  | some ti,some tj => match ti.desc,tj.desc with
   | .slice e,.slice _ => match T e with
    | some te => fitK h te (ev x) (ev y) K
    | none => False
   | _,_ => False
  | _,_ => False
 | _,_ => False
theorem Zyu {T : Tab} (hT : TabOK P T) (H : HR B w0 I0 pr r I D h n w) (_hk : ¬ D k) (_hkn : k < n) (o : Oper) {ρ : Operand -> Value} {ev : Operand -> AV}
  (hev : ∀ x,VR r I w D (ev x) (ρ x)) {c : Call} (ho : o.op = .call c) (hc : c.callee = .builtin .append) {K : AV × Eff -> Prop} (hK : apF T ev h c K) : ∃ p,Ur P B w0 I0 pr r I D h n k (execOp ρ o) w p.1 p.2 /\ K p := by
 obtain ⟨dst,op,type,pos,after,guard⟩ := o
 dsimp only at ho
 subst ho
 obtain ⟨callee,args,ats⟩ := c
 dsimp only at hc
 subst hc
 unfold apF at hK
 dsimp only at hK
 split at hK
 ·rename_i t tx x y ht hx
  split at hK
  ·rename_i ti tj hti htj
   split at hK
   ·rename_i e1 e2 d1 d2
    split at hK
    ·rename_i te hte
     have h1 := hT.und t ti hti
     have h2 := hT.und tx tj htj
     rw [d1] at h1; rw [d2] at h2
     have e3 : ats = #[t,tx] := by apply Array.ext'; simpa using ht
     have e4 : args = #[x,y] := by apply Array.ext'; simpa using hx
     subst e3
     subst e4
     obtain ⟨res,eff,g,hK2⟩ := Zuh (k := k) (ty := type) hT h1 h2 hte H (hev x) (hev y) hK
     obtain ⟨x1,w1,r1,I1,q1,q2⟩ := g.op.toI
     refine ⟨(res,eff),⟨x1,w1,r1,I1,?_,q2⟩,hK2⟩
     simpa [execOp,resolve,invoke,builtin] using q1
    ·exact hK.elim
   ·exact hK.elim
  ·exact hK.elim
 ·exact hK.elim
variable {r r' : Locs} {D D' : Nat -> Prop} {I I' : Imm} {w w' w0 : World} {I0 : Imm} {B n n' k N : Nat} {pr pr' : Nat -> Obj -> Prop} {h : Nat -> ABlk} {P : Program}
def Eff.st (σ : St) : Eff -> St
 | .none => σ
 | .add b => σ.add b
 | .put id b => σ.set id b
 | .app id b => (σ.set id .dead).add b
def evC : Operand -> AV
 | .const (.bool b) => .bool b
 | .const (.int k n) => .int k n
 | .const (.float k n) => .flt k n
 | .const (.complex k n m) => .cpx k n m
 | .const (.string s) => .str s
 | .const (.pointer none) => .nilp
 | .const (.slice none 0 0) => .nils
 | .func f => .func f [] []
 | _ => .any
def evA (env : Env) : Operand -> AV
 | .tmp t => env.get t
 | x => evC x
theorem Xc {env : Env} {a : Act} (he : ER r I w D N env a.tmps) (x : Operand) : VR r I w D (evA env x) (a.eval x) := by
 unfold evA
 split
 ·exact he.2 _
 unfold evC
 split
 ·exact .bool _ _
 ·exact .int _ _ _
 ·exact .flt _ _ _
 ·exact .cpx _ _ _ _
 ·exact .str _ _
 ·exact .nilp _
 ·exact .nils _
 ·exact .func _ _ _ _ _ _ rfl rfl (fun i c v hc => by simp at hc) (fun i c v hc => by simp at hc)
 ·exact .any _ _
structure Cx where
 T : Tab
 ok : TypeId -> Bool
 call : FuncId -> List AV -> St -> (AV -> St -> Prop) -> Prop
def FnOK (P : Program) (f : FuncId) : Prop := ∃ fn,P.funcs[f]? = some fn /\ (fn.name == "runtime.NumGoroutine") = false /\ fn.body.isNone = false
def SemCall (P : Program) (f : FuncId) (args : List AV) (σ : St) (K : AV -> St -> Prop) : Prop :=
 ∀ (B : Nat) (w0 : World) (I0 : Imm) (pr : Nat -> Obj -> Prop) (r : Locs) (I : Imm) (D : Nat -> Prop) (w : World) (vs : Array Value),HR B w0 I0 pr r I D σ.get σ.next w -> VRs r I w D args vs ->
  CallsIn Fence.wide 0 P f vs w fun e w' => ∃ x v σ' r' I' D',e = .returned x /\ K v σ' /\ HR B w0 I0 pr r' I' D' σ'.get σ'.next w' /\ VR r' I' w' D' v x /\ Step r D I w r' D' I' w'
structure CxOK (P : Program) (cx : Cx) : Prop where
 tab : TabOK P cx.T
 eq : EqOK P cx.ok
 call : ∀ f args σ K,cx.call f args σ K -> FnOK P f /\ SemCall P f args σ K
def Zq (N : Nat) (dst : Option Nat) (v : AV) (env : Env) (K : Env -> Prop) : Prop :=
 match dst with
 | none => K env
 | some d => Br (Nat.blt d N) (K ((d,v) :: env)) False
def Zq9 (cx : Cx) (fv : AV) (args : List AV) (σ : St) (K : AV -> St -> Prop) : Prop :=
 match fv with
 | .func f c0 c1 => fL ((c0 ++ args) ++ c1) fun aZ => cx.call f aZ σ K
 | _ => False
theorem Zxn (e : Eff) (σ : St) (K : St -> Prop) : fEff e σ K = K (e.st σ) := by
 obtain ⟨h,n⟩ := σ
 cases e <;> simp only [fEff,Yg0,Zow,Eff.st,St.add,St.set]
def vcOp (cx : Cx) (N : Nat) (o : Oper) (env : Env) (σ : St) (K : Env -> St -> Prop) : Prop :=
 match o.op with
 | .call { callee := .value f,args,.. } => Zq9 cx (evA env f) (Xt (evA env) args.toList) σ fun v σ' => fA v fun v => Zq N o.dst v env fun env' => fSt σ' fun σ' => K env' σ'
 | .call { callee := .builtin .append,args := l,argTypes := ts } => Ap (aopK cx.T cx.ok σ.next (evA env) σ.get (.call { callee := .builtin .append,args := l,argTypes := ts }) fun p => fA p.1 fun v => Zq N o.dst v env fun env' => fEff p.2 σ fun σ' => K env' σ')
   (apG cx.T σ.next (evA env) σ.get { callee := .builtin .append,args := l,argTypes := ts } fun p => fA p.1 fun v => Zq N o.dst v env fun env' => fEff p.2 σ fun σ' => K env' σ')
   (apF cx.T (evA env) σ.get { callee := .builtin .append,args := l,argTypes := ts } fun p => fA p.1 fun v => Zq N o.dst v env fun env' => fEff p.2 σ fun σ' => K env' σ')
 | op => aopK cx.T cx.ok σ.next (evA env) σ.get op fun p => fA p.1 fun v => Zq N o.dst v env fun env' => fEff p.2 σ fun σ' => K env' σ'
def Yl (ops : List Oper) (j : Nat) : Option Nat := (ops[j]?).bind (·.dst)
def Zcb (cx : Cx) (N : Nat) (ops : List Oper) : List Oper -> Env -> St -> (Env -> St -> Prop) -> Prop
 | [],env,σ,K => K env σ
 | o :: rest,env,σ,K =>
  match o.guard with
  | none => vcOp cx N o env σ fun env' σ' => Zcb cx N ops rest env' σ' K
  | some (j,want) =>
   match Yl ops j with
   | none => False
   | some t => match env.get t with
    | .bool b => Br b
     (match want with
      | true => vcOp cx N o ((t,.bool true) :: env) σ fun env' σ' => Zcb cx N ops rest env' σ' K
      | false => Zq N o.dst (.tup []) ((t,.bool true) :: env) fun env' => Zcb cx N ops rest env' σ K)
     (match want with
      | false => vcOp cx N o ((t,.bool false) :: env) σ fun env' σ' => Zcb cx N ops rest env' σ' K
      | true => Zq N o.dst (.tup []) ((t,.bool false) :: env) fun env' => Zcb cx N ops rest env' σ K)
    | .tup [] => Zq N o.dst (.tup []) env fun env' => Zcb cx N ops rest env' σ K
    | _ => False
structure SR (B : Nat) (w0 : World) (I0 : Imm) (pr : Nat -> Obj -> Prop) (N : Nat) (r : Locs) (I : Imm) (D : Nat -> Prop) (env : Env) (σ : St) (a : Act) (w : World) : Prop where
 hr : HR B w0 I0 pr r I D σ.get σ.next w
 er : ER r I w D N env a.tmps
def FOK (F : Fence) : Prop := F = Fence.wide \/ ∃ l,F = Fence.wide.inRound l
theorem FOK.fn {F : Fence} (h : FOK F) (f : FuncId) : F.fn f := by rcases h with rfl | ⟨l,rfl⟩ <;> trivial
theorem FOK.depth {F : Fence} (h : FOK F) : F.depth = none := by rcases h with rfl | ⟨l,rfl⟩ <;> rfl
theorem Eff.st_get (σ : St) (e : Eff) : (e.st σ).get = e.go σ.next σ.get := by
 cases e <;> funext i <;> simp only [Eff.st,Eff.go]
 ·simp [St.get_add,hupd]
 ·simp [St.get_set,hupd]
 ·rename_i id b
  simp only [St.get_add,hupd,St.get_set]
  rfl
theorem Eff.st_next (σ : St) (e : Eff) : (e.st σ).next = σ.next + if e.adds then 1 else 0 := by cases e <;> simp [Eff.st,Eff.adds,St.add,St.set]
theorem HR.more (H : HR B w0 I0 pr r I D h n w) (hn : n <= n') : HR B w0 I0 pr r I D h n' w :=
 ⟨H.below,H.base,H.imm,fun id hd => ⟨Nat.lt_of_lt_of_le (H.dom id hd).1 hn,(H.dom id hd).2⟩,H.live,H.blk,H.inj,H.prot,H.protK,H.immB⟩
theorem HR.fewer (H : HR B w0 I0 pr r I D h n w) (hd : ∀ id,D id -> id < n') : HR B w0 I0 pr r I D h n' w :=
 ⟨H.below,H.base,H.imm,fun id h' => ⟨hd id h',(H.dom id h').2⟩,H.live,H.blk,H.inj,H.prot,H.protK,H.immB⟩
def Leaves (B : Nat) (w0 : World) (I0 : Imm) (pr : Nat -> Obj -> Prop) (N : Nat) (r : Locs) (I : Imm) (D : Nat -> Prop) (w : World) (ds : List Deferred) (K : Env -> St -> Prop) (a' : Act) (w' : World) : Prop :=
 ∃ env' σ' r' I' D',K env' σ' /\ SR B w0 I0 pr N r' I' D' env' σ' a' w' /\ a'.defers = ds /\ Step r D I w r' D' I' w'
theorem Zbx {env : Env} {σ' : St} {a : Act} {dst : Option Nat} {v : AV} {x : Value} {K : Env -> St -> Prop} (hr : HR B w0 I0 pr r' I' D' σ'.get σ'.next w') (he : ER r I w D N env a.tmps) (hs : Step r D I w r' D' I' w') (hv : VR r' I' w' D' v x)
  (hk : Zq N dst v env fun env' => K env' σ') : Leaves B w0 I0 pr N r I D w a.defers K (a.put dst x) w' := by
 cases dst with
 | none => exact ⟨env,σ',r',I',D',hk,⟨hr,he.mono hs⟩,rfl,hs⟩
 | some d =>
  simp only [Zq] at hk
  rcases Br.cases hk with ⟨h1,h2⟩ | ⟨_,h2⟩
  ·have hd : d < N := by simpa [Nat.blt_eq] using h1
   exact ⟨(d,v) :: env,σ',r',I',D',h2,⟨hr,(he.mono hs).put hd hv⟩,rfl,hs⟩
  ·exact h2.elim
theorem Ub {F : Fence} (hF : FOK F) (o : Oper) (a : Act) (w : World) : ∀ f,o.about P w a.eval = some f -> F.fn f := fun f _ => hF.fn f
theorem Um {F : Fence} (hF : FOK F) {f : FuncId} {args : Array Value} {w : World} {R : Ending -> World -> Prop} (h : CallsIn Fence.wide 0 P f args w R) : CallsIn F 0 P f args w R := by
 rcases hF with rfl | ⟨l,rfl⟩
 ·exact h
 ·exact CallsIn.inRound l h
theorem Zbv {cx : Cx} (hcx : CxOK P cx) {F : Fence} (hF : FOK F) (o : Oper) (ho : ∀ c,o.op ≠ .defer c) {env : Env} {σ : St} {a : Act} (S : SR B w0 I0 pr N r I D env σ a w) {K : Env -> St -> Prop} {Q : Exit -> Act -> World -> Prop} {next : Act -> World -> Prop}
  (hvc : vcOp cx N o env σ K) (hnext : ∀ a' w',Leaves B w0 I0 pr N r I D w a.defers K a' w' -> next a' w') : o.wpIn F 0 P a w next Q := by
 refine ⟨Ub hF o a w,?_⟩
 rw [Oper.semAt_eq _ _ _ ho]
 have hk : ¬ D σ.next := fun hd => Nat.lt_irrefl _ (S.hr.dom _ hd).1
 have main0 : ∀ p : AV × Eff,Ur P B w0 I0 pr r I D σ.get (σ.next + 1) σ.next (execOp a.eval o) w p.1 p.2 -> (Zq N o.dst p.1 env fun env' => K env' (p.2.st σ)) -> o.uponIn F 0 P a next Q ((execOp a.eval o).run P w) := by
  rintro ⟨v,e⟩ hp hput
  obtain ⟨x,w',r',I',h1,h2,h3,h4⟩ := hp
  have h2' : HR B w0 I0 pr r' I' (fun i => D i \/ (e.adds = true /\ i = σ.next)) (e.st σ).get (e.st σ).next w' := by
   rw [Eff.st_get]
   refine h2.fewer (fun id hd => ?_)
   rw [Eff.st_next]
   rcases hd with hd | ⟨ha,rfl⟩
   ·have := (S.hr.dom id hd).1; omega
   ·simp [ha]
  have hl := Zbx (a := a) h2' S.er h3 h4 hput
  rcases h1 with h1 | ⟨h1,rfl⟩
  ·rw [h1]; exact hnext _ _ hl
  ·rw [h1]; exact hnext _ _ hl
 have main : ∀ p,aop cx.T cx.ok σ.next (evA env) σ.get o.op = some p -> (Zq N o.dst p.1 env fun env' => K env' (p.2.st σ)) -> o.uponIn F 0 P a next Q ((execOp a.eval o).run P w) := fun p hp hput =>
  main0 p (Zpj hcx.tab hcx.eq (S.hr.more (Nat.le_succ σ.next)) hk (Nat.lt_succ_self _) o (Xc S.er) hp) hput
 unfold vcOp at hvc
 simp only [Zqs,Zxm,Zxn] at hvc
 split at hvc
 ·rename_i f args ts hop
  unfold Zq9 at hvc
  simp only [Yap] at hvc
  split at hvc
  ·rename_i g c0 c1 hf
   obtain ⟨⟨fn,e1,e2,e3⟩,hsem⟩ := hcx.call _ _ _ _ hvc
   have hfv := Xc S.er f
   rw [hf] at hfv
   obtain ⟨v0,v1,hv,k0,k1⟩ : ∃ v0 v1,a.eval f = .func (.func g) v0 v1 /\ VRs r I w D c0 v0 /\ VRs r I w D c1 v1 := by
    generalize a.eval f = z at hfv
    cases hfv with
    | func _ _ _ _ v0 v1 h0 h1 g0 g1 => exact ⟨v0,v1,rfl,⟨h0,g0⟩,⟨h1,g1⟩⟩
   have hargs := Xl (fun x => Xc S.er x) args
   have happ : ∀ {l m : List AV} {u v : Array Value},VRs r I w D l u -> VRs r I w D m v -> VRs r I w D (l ++ m) (u ++ v) := by
    intro l m u v hu hv
    refine ⟨by simp [hu.1,hv.1],fun i c x hi hx => ?_⟩
    rw [Array.getElem?_append] at hx
    by_cases hlt : i < u.size
    ·rw [List.getElem?_append_left (by rw [<-hu.1]; exact hlt)] at hi
     simp only [hlt,if_true] at hx
     exact hu.2 _ _ _ hi hx
    ·rw [List.getElem?_append_right (by rw [<-hu.1]; omega),<-hu.1] at hi
     simp only [hlt,if_false] at hx
     exact hv.2 _ _ _ hi hx
   have hc := Um hF (hsem B w0 I0 pr r I D w _ S.hr (happ (happ k0 hargs) k1))
   have hrun : (execOp a.eval o).run P w = .ok (.enter g ((v0 ++ args.map a.eval) ++ v1)) w := by
    have : execOp a.eval o = (do let d <-resolve a.eval { callee := .value f,args := args,argTypes := ts } o.type; invoke d.target d.args) := by
     unfold execOp; rw [hop]
    rw [this]
    have e2' : ¬ fn.name = "runtime.NumGoroutine" := by simpa using e2
    have e3' : ¬ fn.body = none := by intro h; rw [h] at e3; simp at e3
    simp [resolve,hv,Deferred.ofValue,invoke,callFunc,e1,e2',e3']
   rw [hrun]
   refine ⟨fun hd => by rw [hF.depth] at hd; simp at hd,?_⟩
   refine hc.mono fun e w' hh => ?_
   obtain ⟨x,v,σ',r',I',D',rfl,hk',hr',hv',hs'⟩ := hh
   exact hnext _ _ (Zbx (a := a) hr' S.er hs' hv' hk')
  ·exact hvc.elim
 ·rename_i l ts hop
  rcases hvc with hvc | hvc | hvc
  ·obtain ⟨p,hp,hput⟩ := aopK.cases hvc
   exact main p (by rw [hop]; exact hp) hput
  ·obtain ⟨p,hp,hput⟩ := Zyt hcx.tab (S.hr.more (Nat.le_succ σ.next)) hk (Nat.lt_succ_self _) o (Xc S.er) hop rfl hvc
   exact main0 p hp hput
  ·obtain ⟨p,hp,hput⟩ := Zyu hcx.tab (S.hr.more (Nat.le_succ σ.next)) hk (Nat.lt_succ_self _) o (Xc S.er) hop rfl hvc
   exact main0 p hp hput
 ·obtain ⟨p,hp,hput⟩ := aopK.cases hvc
  exact main p hp hput
theorem Zcc {F : Fence} {n0 : Nat} {o : Oper} {a : Act} {next next' : Act -> World -> Prop} {Q : Exit -> Act -> World -> Prop} {x : Result Next} (h : ∀ a w,next a w -> next' a w) (hu : o.uponIn F n0 P a next Q x) : o.uponIn F n0 P a next' Q x := by
 unfold Oper.uponIn at *
 split <;> simp_all
 ·exact hu.2.mono fun e w' hh => by cases e <;> simp_all
 ·exact hu.2.mono fun v w' hh => h _ _ hh
 ·exact hu.2.mono fun e w' hh => by cases e <;> simp_all
theorem Zgv {ops : List Oper} {j t : Nat} (hj : Yl ops j = some t) (a : Act) (ht : t < a.tmps.size) : yielded ops.toArray a.tmps j = match a.tmps.getD t undef with
  | .bool b => some b
  | _ => none := by
 unfold yielded
 have : (ops.toArray[j]?).bind (·.dst) = some t := by simpa [Yl] using hj
 rw [this]
 simp only [Option.bind_some]
 simp only [ht,getElem?_pos]
 simp only [Array.getD_eq_getD_getElem?,ht,getElem?_pos,Option.getD_some]
 cases a.tmps[t] <;> rfl
def Yi : List Oper -> Bool
 | [] => true
 | o :: l => (match o.op with
  | .defer _ => false
  | _ => true) && Yi l
set_option maxHeartbeats 1000000 in
theorem Zca {cx : Cx} (hcx : CxOK P cx) {F : Fence} (hF : FOK F) (ops : List Oper) {Q : Exit -> Act -> World -> Prop} {K : Env -> St -> Prop} : ∀ (l : List Oper),Yi l = true -> ∀ {r : Locs} {I : Imm} {D : Nat -> Prop} {w : World} {env : Env} {σ : St} {a : Act},
  SR B w0 I0 pr N r I D env σ a w -> Zcb cx N ops l env σ K -> (∀ a' w',Leaves B w0 I0 pr N r I D w a.defers K a' w' -> Q .normal a' w') -> wpListIn F 0 P ops.toArray Q l a w
 | [],_,r,I,D,w,env,σ,a,S,hvc,hq => hq _ _ ⟨env,σ,r,I,D,hvc,S,rfl,Step.refl _ _ _ _⟩
 | o :: rest,hd,r,I,D,w,env,σ,a,S,hvc,hq => by
  simp only [Yi,Bool.and_eq_true] at hd
  obtain ⟨hd1,hd2⟩ := hd
  have ho : ∀ c,o.op ≠ .defer c := fun c e => by rw [e] at hd1; simp at hd1
  have run : ∀ env',SR B w0 I0 pr N r I D env' σ a w -> vcOp cx N o env' σ (fun env' σ' => Zcb cx N ops rest env' σ' K) -> o.wpIn F 0 P a w (wpListIn F 0 P ops.toArray Q rest) Q := by
   intro env' S' hv
   refine Zbv hcx hF o ho S' hv (fun a' w' hl => ?_)
   obtain ⟨env2,σ2,r2,I2,D2,h1,h2,h3,h4⟩ := hl
   refine Zca hcx hF ops rest hd2 h2 h1 (fun a3 w3 hl3 => hq _ _ ?_)
   obtain ⟨env3,σ3,r3,I3,D3,g1,g2,g3,g4⟩ := hl3
   exact ⟨env3,σ3,r3,I3,D3,g1,g2,g3.trans h3,h4.trans g4⟩
  have skip : ∀ env',SR B w0 I0 pr N r I D env' σ a w -> (Zq N o.dst (.tup []) env' fun env' => Zcb cx N ops rest env' σ K) -> (∀ f,o.about P w a.eval = some f -> F.fn f) /\ wpListIn F 0 P ops.toArray Q rest (a.put o.dst undef) w := by
   intro env' S' hv
   refine ⟨Ub hF o a w,?_⟩
   have hl := Zbx (a := a) (dst := o.dst) (x := undef) (K := fun e s => Zcb cx N ops rest e s K) S'.hr S'.er (Step.refl _ _ _ _) (VR.tup D [] #[] rfl (fun i c v hc => by cases hc)) hv
   obtain ⟨env2,σ2,r2,I2,D2,h1,h2,h3,h4⟩ := hl
   refine Zca hcx hF ops rest hd2 h2 h1 (fun a3 w3 hl3 => hq _ _ ?_)
   obtain ⟨env3,σ3,r3,I3,D3,g1,g2,g3,g4⟩ := hl3
   exact ⟨env3,σ3,r3,I3,D3,g1,g2,g3.trans h3,h4.trans g4⟩
  simp only [Zcb] at hvc
  cases hg : o.guard with
  | none =>
   rw [hg] at hvc
   refine wpListIn_step fun K0 hK => ?_
   simp only [Region.wanted,hg,if_true]
   have := run env S hvc
   refine ⟨this.1,?_⟩
   exact Zcc hK this.2
  | some jw =>
   obtain ⟨j,want⟩ := jw
   rw [hg] at hvc
   dsimp only at hvc
   cases ht : Yl ops j with
   | none => rw [ht] at hvc; exact hvc.elim
   | some t =>
    rw [ht] at hvc
    dsimp only at hvc
    have htv := S.er.2 t
    have hput : ∀ b,env.get t = .bool b -> SR B w0 I0 pr N r I D ((t,.bool b) :: env) σ a w := fun b hb => ⟨S.hr,S.er.1,fun i => by
     rw [Env.get_cons]
     by_cases e : i = t
     ·subst e; rw [if_pos rfl,<-hb]; exact htv
     ·rw [if_neg e]; exact S.er.2 i⟩
    unfold wpListIn
    have hwant : Region.wanted o (yielded ops.toArray a.tmps) = (yielded ops.toArray a.tmps j == some want) := by simp [Region.wanted,hg]
    rw [hwant]
    by_cases hts : t < a.tmps.size
    ·rw [Zgv ht a hts]
     split at hvc
     ·rename_i b hb
      have hval : a.tmps.getD t undef = .bool b := by
       rw [hb] at htv
       generalize a.tmps.getD t undef = z at htv
       cases htv; rfl
      rw [hval]
      dsimp only
      rcases Br.cases hvc with ⟨rfl,hv⟩ | ⟨rfl,hv⟩
      ·cases want
       ·simp only [show (some true == some false) = false from rfl,Bool.false_eq_true,if_false]
        exact skip _ (hput _ hb) hv
       ·simp only [show (some true == some true) = true from rfl,if_true]
        exact run _ (hput _ hb) hv
      ·cases want
       ·simp only [show (some false == some false) = true from rfl,if_true]
        exact run _ (hput _ hb) hv
       ·simp only [show (some false == some true) = false from rfl,Bool.false_eq_true,if_false]
        exact skip _ (hput _ hb) hv
     ·rename_i hb
      have hval : ∃ vs,a.tmps.getD t undef = .tuple vs := by
       rw [hb] at htv
       generalize a.tmps.getD t undef = z at htv
       cases htv; exact ⟨_,rfl⟩
      obtain ⟨vs,hval⟩ := hval
      rw [hval]
      dsimp only
      rw [if_neg (by simp)]
      exact skip _ S hvc
     ·exact hvc.elim
    ·have hval : a.tmps.getD t undef = undef := by simp [Array.getD_eq_getD_getElem?,Nat.not_lt.1 hts]
     rw [hval] at htv
     split at hvc
     ·rename_i b hb
      rw [hb] at htv
      cases htv
     ·have : yielded ops.toArray a.tmps j = none := by
       unfold yielded
       have : (ops.toArray[j]?).bind (·.dst) = some t := by simpa [Yl] using ht
       rw [this]
       simp [Nat.not_lt.1 hts]
      rw [this,if_neg (by simp)]
      exact skip _ S hvc
     ·exact hvc.elim
variable {r r' : Locs} {D D' : Nat -> Prop} {I I' : Imm} {w w' w0 : World} {I0 : Imm} {B n n' k N : Nat} {pr pr' : Nat -> Obj -> Prop} {h : Nat -> ABlk} {P : Program}
def RdOK (F : Fence) (pr : Nat -> Obj -> Prop) : Prop := ∀ l,F.round = some l -> ∃ r0,pr l (.loop r0) /\ pr r0.defers (.deferred (some []))
def Mk (w : World) (pr : Nat -> Obj -> Prop) (ms : List Deferred) : Prop := ∀ d ∈ ms,∃ b,d = { target := .collected b,args := #[] } /\ pr b (.deferred (some [])) /\ w.heap.size <= b
def Post (B : Nat) (w0 : World) (I0 : Imm) (pr : Nat -> Obj -> Prop) (N : Nat) (r : Locs) (I : Imm) (D : Nat -> Prop) (w : World) (ds : List Deferred) (Q : Exit -> Env -> St -> Prop) (e : Exit) (a' : Act) (w' : World) : Prop :=
 ∃ pr' ms env' σ' r' I' D',(∀ b o,pr b o -> pr' b o) /\ Mk w pr' ms /\ ms.Pairwise (fun a b => a.target ≠ b.target) /\ a'.defers = ms ++ ds /\ Q e env' σ' /\ SR B w0 I0 pr' N r' I' D' env' σ' a' w' /\ Step r D I w r' D' I' w' /\ w.heap.size <= w'.heap.size
def Awp (P : Program) (N : Nat) (c : Code) (env : Env) (σ : St) (Q : Exit -> Env -> St -> Prop) : Prop :=
 ∀ (F : Fence) (B : Nat) (w0 : World) (I0 : Imm) (pr : Nat -> Obj -> Prop) (r : Locs) (I : Imm) (D : Nat -> Prop) (a : Act) (w : World),FOK F -> RdOK F pr -> SR B w0 I0 pr N r I D env σ a w ->
  c.wpIn F 0 P (Post B w0 I0 pr N r I D w a.defers Q) a w
def setC (env : Env) : Operand -> Bool -> Env
 | .tmp t,b => (t,.bool b) :: env
 | _,_ => env
def seqQ (K : Env -> St -> Prop) (Q : Exit -> Env -> St -> Prop) : Exit -> Env -> St -> Prop
 | .normal,env,σ => K env σ
 | e,env,σ => Q e env σ
def Zd7 (id : Nat) (Q : Exit -> Env -> St -> Prop) : Exit -> Env -> St -> Prop
 | .exit id',env,σ => cond (Nat.beq id' id) (Q .normal env σ) (Q (.exit id') env σ)
 | e,env,σ => Q e env σ
structure Hd where
 loop : Code -> Env -> St -> (Exit -> Env -> St -> Prop) -> Prop
 rng : Operand -> Array Tmp -> Code -> Code -> Env -> St -> (Exit -> Env -> St -> Prop) -> Prop
 draw : List Oper -> Env -> St -> (Env -> St -> Prop) -> Prop
def Zaf (cx : Cx) (N : Nat) (hd : Hd) : Code -> Env -> St -> (Exit -> Env -> St -> Prop) -> Prop
 | .skip,env,σ,Q => Q .normal env σ
 | .region _ ops draw,env,σ,Q => match draw with
  | false => cond (Yi ops.toList) (Zcb cx N ops.toList ops.toList env σ (Q .normal)) False
  | true => hd.draw ops.toList env σ (Q .normal)
 | .seq x y,env,σ,Q => Zaf cx N hd x env σ (seqQ (fun env' σ' => Zaf cx N hd y env' σ' Q) Q)
 | .cond c x y,env,σ,Q => match evA env c with
  | .bool b => Br b (fEnv (setC env c true) fun env => Zaf cx N hd x env σ Q) (fEnv (setC env c false) fun env => Zaf cx N hd y env σ Q)
  | _ => False
 | .block id c,env,σ,Q => Zaf cx N hd c env σ (Zd7 id Q)
 | .loop c,env,σ,Q => hd.loop c env σ Q
 | .rangeFunc f ps x y,env,σ,Q => hd.rng f ps x y env σ Q
 | .exit id,env,σ,Q => Q (.exit id) env σ
 | .ret,env,σ,Q => Q .ret env σ
 | _,_,_,_ => False
theorem RdOK.le {F : Fence} (h : RdOK F pr) (hp : ∀ b o,pr b o -> pr' b o) : RdOK F pr' := fun l hl => let ⟨r0,h1,h2⟩ := h l hl; ⟨r0,hp _ _ h1,hp _ _ h2⟩
theorem Post.chain {ds : List Deferred} {Q : Exit -> Env -> St -> Prop} {K : Exit -> Env -> St -> Prop} {e e' : Exit} {a' a'' : Act} {w'' : World} (h1 : Post B w0 I0 pr N r I D w ds K e a' w')
  (h2 : ∀ pr' r' I' D' env' σ',(∀ b o,pr b o -> pr' b o) -> K e env' σ' -> SR B w0 I0 pr' N r' I' D' env' σ' a' w' -> Post B w0 I0 pr' N r' I' D' w' a'.defers Q e' a'' w'') : Post B w0 I0 pr N r I D w ds Q e' a'' w'' := by
 obtain ⟨pr1,ms1,env1,σ1,r1,I1,D1,p1,m1,n1,d1,q1,s1,t1,z1⟩ := h1
 obtain ⟨pr2,ms2,env2,σ2,r2,I2,D2,p2,m2,n2,d2,q2,s2,t2,z2⟩ := h2 pr1 r1 I1 D1 env1 σ1 p1 q1 s1
 refine ⟨pr2,ms2 ++ ms1,env2,σ2,r2,I2,D2,fun b o h => p2 _ _ (p1 _ _ h),?_,?_,by rw [d2,d1,List.append_assoc],q2,s2,t1.trans t2,Nat.le_trans z1 z2⟩
 ·intro d hd
  rcases List.mem_append.1 hd with h | h
  ·obtain ⟨b,g1,g2,g3⟩ := m2 d h
   exact ⟨b,g1,g2,Nat.le_trans z1 g3⟩
  ·obtain ⟨b,g1,g2,g3⟩ := m1 d h
   exact ⟨b,g1,p2 _ _ g2,g3⟩
 ·refine List.pairwise_append.2 ⟨n2,n1,fun x hx y hy e => ?_⟩
  obtain ⟨b,g1,g2,g3⟩ := m2 x hx
  obtain ⟨b',g1',g2',g3'⟩ := m1 y hy
  have := (Array.getElem?_eq_some_iff.1 (s1.hr.prot _ _ g2').1).1
  rw [g1,g1'] at e
  simp only [Target.collected.injEq] at e
  omega
theorem Leaves.post {ds : List Deferred} {K : Env -> St -> Prop} {Q : Exit -> Env -> St -> Prop} {e : Exit} {a' : Act} (h : Leaves B w0 I0 pr N r I D w ds K a' w') (hk : ∀ env σ,K env σ -> Q e env σ) :
  Post B w0 I0 pr N r I D w ds Q e a' w' := by
 obtain ⟨env',σ',r',I',D',h1,h2,h3,h4⟩ := h
 exact ⟨pr,[],env',σ',r',I',D',fun _ _ h => h,fun d hd => by simp at hd,.nil,by simpa using h3,hk _ _ h1,h2,h4,h4.size⟩
theorem Post.same {ds : List Deferred} {Q : Exit -> Env -> St -> Prop} {e : Exit} {a : Act} {env : Env} {σ : St} (S : SR B w0 I0 pr N r I D env σ a w) (hq : Q e env σ) (hd : a.defers = ds) : Post B w0 I0 pr N r I D w ds Q e a w :=
 ⟨pr,[],env,σ,r,I,D,fun _ _ h => h,fun d hd => by simp at hd,.nil,by simpa using hd,hq,S,Step.refl _ _ _ _,Nat.le_refl _⟩
theorem Post.mono {ds : List Deferred} {Q Q' : Exit -> Env -> St -> Prop} {e e' : Exit} {a' : Act} (h : Post B w0 I0 pr N r I D w ds Q e a' w') (hq : ∀ env σ,Q e env σ -> Q' e' env σ) : Post B w0 I0 pr N r I D w ds Q' e' a' w' := by
 obtain ⟨pr1,ms1,env1,σ1,r1,I1,D1,p1,m1,n1,d1,q1,s1,t1,z1⟩ := h
 exact ⟨pr1,ms1,env1,σ1,r1,I1,D1,p1,m1,n1,d1,hq _ _ q1,s1,t1,z1⟩
theorem Zmc {env : Env} {σ : St} {a : Act} {c : Operand} {b : Bool} (S : SR B w0 I0 pr N r I D env σ a w) (hc : evA env c = .bool b) : SR B w0 I0 pr N r I D (setC env c b) σ a w := by
 cases c with
 | tmp t =>
  refine ⟨S.hr,S.er.1,fun i => ?_⟩
  simp only [setC,Env.get_cons]
  by_cases e : i = t
  ·subst e; rw [if_pos rfl,<-hc]; exact S.er.2 i
  ·rw [if_neg e]; exact S.er.2 i
 | _ => exact S
structure HdOK (P : Program) (N : Nat) (hd : Hd) : Prop where
 loop : ∀ c env σ Q,hd.loop c env σ Q -> Awp P N (.loop c) env σ Q
 rng : ∀ f ps x y env σ Q,hd.rng f ps x y env σ Q -> Awp P N (.rangeFunc f ps x y) env σ Q
 draw : ∀ id ops env σ K,hd.draw ops.toList env σ K -> Awp P N (.region id ops true) env σ (seqQ K fun _ _ _ => False)
theorem Yt {cx : Cx} (hcx : CxOK P cx) {hd : Hd} (hhd : HdOK P N hd) : ∀ (c : Code) (env : Env) (σ : St) (Q : Exit -> Env -> St -> Prop),Zaf cx N hd c env σ Q -> Awp P N c env σ Q
 | .skip,env,σ,Q,hv => fun F B w0 I0 pr r I D a w hF hR S => wpIn_skip (Post.same S hv rfl)
 | .region id ops draw,env,σ,Q,hv => by
  cases draw with
  | false =>
   intro F B w0 I0 pr r I D a w hF hR S
   simp only [Zaf] at hv
   cases hno : Yi ops.toList with
   | false => rw [hno] at hv; exact hv.elim
   | true =>
    rw [hno] at hv
    refine wpIn_region_list ?_
    have := Zca hcx hF ops.toList (Q := Post B w0 I0 pr N r I D w a.defers Q) ops.toList hno S hv (fun a' w' hl => hl.post fun _ _ q => q)
    simpa using this
  | true =>
   intro F B w0 I0 pr r I D a w hF hR S
   simp only [Zaf] at hv
   refine Code.wpIn_mono (fun e a' w' h => ?_) (hhd.draw id ops env σ _ hv F B w0 I0 pr r I D a w hF hR S)
   cases e with
   | normal => exact h.mono fun _ _ q => q
   | _ => obtain ⟨_,_,_,_,_,_,_,_,_,_,_,q,_⟩ := h; exact q.elim
 | .seq x y,env,σ,Q,hv => by
  intro F B w0 I0 pr r I D a w hF hR S
  simp only [Zaf] at hv
  refine wpIn_seq (Code.wpIn_mono (fun e a' w' h => ?_) (Yt hcx hhd x env σ _ hv F B w0 I0 pr r I D a w hF hR S))
  cases e with
  | normal =>
   obtain ⟨pr1,ms1,env1,σ1,r1,I1,D1,p1,m1,n1,d1,q1,s1,t1,z1⟩ := h
   refine Code.wpIn_mono (fun e2 a2 w2 h2 => ?_) (Yt hcx hhd y env1 σ1 Q q1 F B w0 I0 pr1 r1 I1 D1 a' w' hF (hR.le p1) s1)
   have h1 : Post B w0 I0 pr N r I D w a.defers (fun _ env' σ' => env' = env1 /\ σ' = σ1) .normal a' w' := ⟨pr1,ms1,env1,σ1,r1,I1,D1,p1,m1,n1,d1,⟨rfl,rfl⟩,s1,t1,z1⟩
   obtain ⟨pr2,ms2,env2,σ2,r2,I2,D2,p2,m2,n2,d2,q2,s2,t2,z2⟩ := h2
   refine ⟨pr2,ms2 ++ ms1,env2,σ2,r2,I2,D2,fun b o h => p2 _ _ (p1 _ _ h),?_,?_,by rw [d2,d1,List.append_assoc],q2,s2,t1.trans t2,Nat.le_trans z1 z2⟩
   ·intro d hd
    rcases List.mem_append.1 hd with h | h
    ·obtain ⟨b,g1,g2,g3⟩ := m2 d h
     exact ⟨b,g1,g2,Nat.le_trans z1 g3⟩
    ·obtain ⟨b,g1,g2,g3⟩ := m1 d h
     exact ⟨b,g1,p2 _ _ g2,g3⟩
   ·refine List.pairwise_append.2 ⟨n2,n1,fun x hx y hy e => ?_⟩
    obtain ⟨b,g1,g2,g3⟩ := m2 x hx
    obtain ⟨b',g1',g2',g3'⟩ := m1 y hy
    have := (Array.getElem?_eq_some_iff.1 (s1.hr.prot _ _ g2').1).1
    rw [g1,g1'] at e
    simp only [Target.collected.injEq] at e
    omega
  | exit id => exact h.mono fun _ _ q => q
  | goto l => exact h.mono fun _ _ q => q
  | ret => exact h.mono fun _ _ q => q
  | panic ch => exact h.mono fun _ _ q => q
  | outgrown => exact h.mono fun _ _ q => q
 | .cond c x y,env,σ,Q,hv => by
  intro F B w0 I0 pr r I D a w hF hR S
  simp only [Zaf,Zqr] at hv
  split at hv
  ·rename_i b hb
   have hc := Xc S.er c
   rw [hb] at hc
   have hcv : a.eval c = .bool b := by generalize a.eval c = z at hc; cases hc; rfl
   rcases Br.cases hv with ⟨rfl,h⟩ | ⟨rfl,h⟩
   ·exact wpIn_cond_true hcv (Yt hcx hhd x _ σ Q h F B w0 I0 pr r I D a w hF hR (Zmc S hb))
   ·exact wpIn_cond_false hcv (Yt hcx hhd y _ σ Q h F B w0 I0 pr r I D a w hF hR (Zmc S hb))
  ·exact hv.elim
 | .block id c,env,σ,Q,hv => by
  intro F B w0 I0 pr r I D a w hF hR S
  simp only [Zaf] at hv
  refine wpIn_block (Code.wpIn_mono (fun e a' w' h => ?_) (Yt hcx hhd c env σ _ hv F B w0 I0 pr r I D a w hF hR S))
  cases e with
  | exit id' =>
   by_cases hid : id' = id
   ·subst hid
    simp only [Exit.inBlock,if_true]
    exact h.mono fun _ _ q => by simpa [Zd7] using q
   ·simp only [Exit.inBlock,hid,if_false]
    exact h.mono fun _ _ q => by
     have : Nat.beq id' id = false := by rw [Bool.eq_false_iff]; intro hb; exact hid (Nat.eq_of_beq_eq_true hb)
     simpa [Zd7,this] using q
  | normal => exact h.mono fun _ _ q => q
  | goto l => exact h.mono fun _ _ q => q
  | ret => exact h.mono fun _ _ q => q
  | panic ch => exact h.mono fun _ _ q => q
  | outgrown => exact h.mono fun _ _ q => q
 | .loop c,env,σ,Q,hv => hhd.loop c env σ Q hv
 | .rangeFunc f ps x y,env,σ,Q,hv => hhd.rng f ps x y env σ Q hv
 | .exit id,env,σ,Q,hv => fun F B w0 I0 pr r I D a w hF hR S => wpIn_exit (Post.same S hv rfl)
 | .ret,env,σ,Q,hv => fun F B w0 I0 pr r I D a w hF hR S => wpIn_ret (Post.same S hv rfl)
 | .scope _,_,_,_,hv => hv.elim
 | .label _,_,_,_,hv => hv.elim
 | .goto _,_,_,_,hv => hv.elim
 | .refuse _,_,_,_,hv => hv.elim
variable {r r' : Locs} {D D' : Nat -> Prop} {I I' : Imm} {w w' w0 : World} {I0 : Imm} {B n n' k N : Nat} {pr pr' : Nat -> Obj -> Prop} {h : Nat -> ABlk} {P : Program}
def Zbu (T : Tab) (env : Env) (h : Nat -> ABlk) : List ResultVar -> Option (List AV)
 | [] => some []
 | .tmp t :: l => match Zbu T env h l with
  | some vs => some (env.get t :: vs)
  | none => none
 | .cell a t :: l => match Zbu T env h l,T t,env.get a with
  | some vs,some ti,.ptr id idx sub => match h id with
   | .row _ elems _ _ => match elems[idx]? with
    | some cells => match Zc4 ti cells sub with
     | some v => some (v :: vs)
     | none => none
    | none => none
   | _ => none
  | _,_,_ => none
def resV : List AV -> AV
 | [v] => v
 | vs => .tup vs
def Zk4 (tmps : Array Value) : ResultVar -> Sem Value
 | .tmp t => pure (tmps.getD t undef)
 | .cell a t => do loadVar t (<-asAddr (tmps.getD a undef))
theorem Ztu (fn : Func) (tmps : Array Value) : results fn tmps = (do let vs <-fn.results.mapM (Zk4 tmps); pure (if h : vs.size = 1 then vs[0] else .tuple vs)) := by
 unfold results
 congr 1
theorem Zp4 {T : Tab} (hT : TabOK P T) {env : Env} {tmps : Array Value} (H : HR B w0 I0 pr r I D h n w) (E : ER r I w D N env tmps) : ∀ (l : List ResultVar) (vs : List AV),Zbu T env h l = some vs ->
  ∃ xs : List Value,(l.mapM (Zk4 tmps)).run P w = .ok xs w /\ VRs r I w D vs xs.toArray
 | [],vs,hv => by
  simp [Zbu] at hv
  subst hv
  exact ⟨[],by simp,rfl,fun i c v hc => by simp at hc⟩
 | .tmp t :: l,vs,hv => by
  simp only [Zbu] at hv
  split at hv
  ·rename_i us hus
   simp only [Option.some.injEq] at hv
   subst hv
   obtain ⟨xs,h1,h2⟩ := Zp4 hT H E l us hus
   refine ⟨tmps.getD t undef :: xs,?_,by simpa using h2.1,fun i c v hc hx => ?_⟩
   ·simp only [List.mapM_cons,Sem.run_bind,Zk4,Sem.run_pure,Result.andThen_ok]
    rw [h1]; rfl
   ·cases i with
    | zero => simp at hc hx; subst hc; subst hx; simpa using E.2 t
    | succ i => exact h2.2 i c v (by simpa using hc) (by simpa using hx)
  ·cases hv
 | .cell a t :: l,vs,hv => by
  simp only [Zbu] at hv
  split at hv
  ·rename_i us ti id idx sub hus hti hptr
   split at hv
   ·rename_i es elems mt pu hb
    split at hv
    ·rename_i cells hcells
     split at hv
     ·rename_i v hld
      simp only [Option.some.injEq] at hv
      subst hv
      obtain ⟨xs,h1,h2⟩ := Zp4 hT H E l us hus
      have hx := E.2 a
      rw [hptr] at hx
      obtain ⟨y,w1,r1,g1,_,_,g4⟩ := Zli (k := n) hT hti H hx hb hcells hld
      obtain ⟨ad,had⟩ : ∃ ad,tmps.getD a undef = .pointer (some ad) := by
       generalize tmps.getD a undef = z at hx
       cases hx; exact ⟨_,rfl⟩
      have hB := H.blk id
      rw [hb] at hB
      obtain ⟨val,hc⟩ := Zi3 hB hcells
      obtain ⟨y2,hy2,hr2⟩ := Zmn (D := D) hT hti hld val hc
      have haddr : ad = ⟨(r id).blk,(r id).off + idx * es + sub,none⟩ := by
       rw [had] at hx
       have he : (r id).es = es := hB.1.1
       cases hx; rw [he]
      refine ⟨y2 :: xs,?_,by simpa using h2.1,fun i c v hc hx => ?_⟩
      ·have hone : (Zk4 tmps (.cell a t)).run P w = .ok y2 w := by
        simp only [Zk4,had,asAddr,Sem.run_bind,Sem.run_pure,Result.andThen_ok,haddr]; exact hy2
       simp only [List.mapM_cons,Sem.run_bind,hone,Result.andThen_ok]
       rw [h1]; rfl
      ·cases i with
       | zero => simp at hc hx; subst hc; subst hx; exact hr2
       | succ i => exact h2.2 i c v (by simpa using hc) (by simpa using hx)
     ·cases hv
    ·cases hv
   ·cases hv
  ·cases hv
theorem Zfh {T : Tab} (hT : TabOK P T) {fn : Func} {env : Env} {tmps : Array Value} (H : HR B w0 I0 pr r I D h n w) (E : ER r I w D N env tmps) {vs : List AV} (hv : Zbu T env h fn.results.toList = some vs) :
  ∃ x,(results fn tmps).run P w = .ok x w /\ VR r I w D (resV vs) x := by
 obtain ⟨xs,h1,h2⟩ := Zp4 hT H E _ vs hv
 have h3 : (fn.results.mapM (Zk4 tmps)).run P w = .ok xs.toArray w := by
  rw [Array.mapM_eq_mapM_toList,map_eq_pure_bind,Sem.run_bind,h1]
  rfl
 rw [Ztu]
 simp only [Sem.run_bind,h3,Result.andThen_ok,Sem.run_pure]
 refine ⟨_,rfl,?_⟩
 have hl : xs.length = vs.length := by simpa using h2.1
 match vs,xs,hl,h2 with
 | [],[],_,h2 => exact .tup _ _ _ rfl (fun i c v hc => by simp at hc)
 | [v],[x],_,h2 => simpa [resV] using h2.2 0 v x rfl rfl
 | v :: v' :: vs,x :: x' :: xs,hl,h2 => simpa [resV] using VR.tup D (v :: v' :: vs) _ h2.1 h2.2
theorem HR.prLe (H : HR B w0 I0 pr' r I D h n w) (hp : ∀ b o,pr b o -> pr' b o) : HR B w0 I0 pr r I D h n w :=
 ⟨H.below,H.base,H.imm,H.dom,H.live,H.blk,H.inj,fun b o h => H.prot b o (hp _ _ h),fun b o h => H.protK b o (hp _ _ h),H.immB⟩
theorem HR.putObj (H : HR B w0 I0 pr' r I D h n w) {b : Nat} {l : Option (List Deferred)} (hb : w.heap[b]? = some (.deferred l)) (hB : B <= b) (hp : ∀ x o,pr x o -> pr' x o /\ x ≠ b) :
  HR B w0 I0 pr r I D h n (w.putObj b (.deferred none)) /\ Step r D I w r D I (w.putObj b (.deferred none)) := by
 have hoth : ∀ x,x ≠ b -> (w.putObj b (.deferred none)).heap[x]? = w.heap[x]? := fun x hx => by
  show (w.heap.setIfInBounds b _)[x]? = _
  rw [Array.getElem?_setIfInBounds,if_neg (fun e => hx e.symm)]
 have hlt : b < w.heap.size := (Array.getElem?_eq_some_iff.1 hb).1
 have hself : (w.putObj b (.deferred none)).heap[b]? = some (.deferred none) := by
  show (w.heap.setIfInBounds b _)[b]? = _
  rw [Array.getElem?_setIfInBounds,if_pos rfl,if_pos hlt]
 have hs : (w.putObj b (.deferred none)).heap.size = w.heap.size := by simp [World.putObj]
 have hst : Step r D I w r D I (w.putObj b (.deferred none)) := by
  refine ⟨fun id hd => ⟨hd,rfl⟩,fun x o hi => ⟨hi,?_⟩,by rw [hs]; exact Nat.le_refl _⟩
  by_cases e : x = b
  ·subst e; simp [World.cell?,hself,hb]
  ·exact World.cell?_of_block (hoth x e)
 refine ⟨⟨?_,by rw [hs]; exact H.base,fun x o hi => by rw [hs]; exact H.imm x o hi,fun id hd => by rw [hs]; exact H.dom id hd,H.live,fun id => ?_,H.inj,fun x o hx => ?_,fun x o hx => H.protK x o (hp x o hx).1,H.immB⟩,hst⟩
 ·exact H.below.trans ⟨rfl,rfl,rfl,by rw [hs]; exact Nat.le_refl _,fun x hx => hoth x (by omega)⟩
 ·refine (H.blk id).mono hst rfl (fun hl => hoth _ ?_) (fun _ _ _ _ _ hx => hx)
  rintro rfl
  have hB := H.blk id
  cases hid : h id with
  | row es elems mt pu =>
   rw [hid] at hB
   obtain ⟨_,_,_,cs,T,fz,h4,_⟩ := hB
   rw [hb] at h4; cases h4
  | map ents =>
   rw [hid] at hB
   obtain ⟨_,es,clock,h1,_⟩ := hB
   rw [hb] at h1; cases h1
  | set keys =>
   rw [hid] at hB
   obtain ⟨_,es,clock,h1,_⟩ := hB
   rw [hb] at h1; cases h1
  | dead => rw [hid] at hl; simp [ABlk.live] at hl
 ·obtain ⟨h1,h2⟩ := hp x o hx
  exact ⟨(hoth x h2).trans (H.prot x o h1).1,(H.prot x o h1).2⟩
theorem Zh8 {b : Nat} {ds : List Deferred} (hb : w.heap[b]? = some (.deferred (some ds))) : (Instr.takeDeferred b).run P w = .ok ds (w.putObj b (.deferred none)) := by
 have hnc : ∀ c T fz,w.heap[b]? ≠ some (.cells c T fz) := by intro c T fz e; rw [hb] at e; cases e
 simp [Instr.takeDeferred,getObj,setObj,Sem.run,hb]
 rfl
theorem Zdy {fn : Func} {T : Tab} (hT : TabOK P T) {env : Env} {vs : List AV} {R : Ending -> World -> Prop} {tmps : Array Value} : ∀ (ms : List Deferred) {pr' : Nat -> Obj -> Prop} {w w1 : World},Mk w pr' ms -> ms.Pairwise (fun a b => a.target ≠ b.target) ->
  (∀ x o,pr x o -> pr' x o /\ x < w.heap.size) -> HR B w0 I0 pr' r I D h n w1 -> ER r I w1 D N env tmps -> Zbu T env h fn.results.toList = some vs ->
  (∀ x w2,HR B w0 I0 pr r I D h n w2 -> Step r D I w1 r D I w2 -> VR r I w2 D (resV vs) x -> R (.returned x) w2) -> LeavesInM Fence.wide 0 P fn tmps R ms .returning w1
 | [],pr',w,w1,_,_,hp,H,E,hv,hR => by
  obtain ⟨x,h1,h2⟩ := Zfh hT H E hv
  exact ⟨x,h1,hR x w1 (H.prLe fun b o h => (hp b o h).1) (Step.refl _ _ _ _) h2⟩
 | d :: ms,pr',w,w1,hm,hpw,hp,H,E,hv,hR => by
  obtain ⟨b,rfl,h2,h3⟩ := hm d (by simp)
  obtain ⟨hb,hB⟩ := H.prot _ _ h2
  obtain ⟨H2,S2⟩ := H.putObj (pr := fun x o => pr' x o /\ x ≠ b) hb hB (fun x o h => h)
  refine ⟨by simp,.inl ⟨b,_,rfl,Zh8 hb,?_⟩⟩
  refine Zdy hT ms (pr' := fun x o => pr' x o /\ x ≠ b) (w := w) ?_ (List.pairwise_cons.1 hpw).2 ?_ H2 (E.mono S2) hv (fun x w2 H3 S3 V3 => hR x w2 H3 (S2.trans S3) V3)
  ·intro d' hd'
   obtain ⟨b',rfl,g2,g3⟩ := hm d' (by simp [hd'])
   refine ⟨b',rfl,⟨g2,fun e => ?_⟩,g3⟩
   have := (List.pairwise_cons.1 hpw).1 _ hd'
   exact this (by rw [e])
  ·intro x o hx
   have h := hp x o hx
   exact ⟨⟨h.1,by omega⟩,h.2⟩
def env0 : Nat -> List AV -> Env
 | _,[] => []
 | k,a :: l => (k,a) :: env0 (k + 1) l
theorem Zig (l : List AV) : ∀ (k i : Nat),(env0 k l).get i = if k <= i then l[i - k]?.getD .any else .any := by
 induction l with
 | nil => intro k i; simp [env0,Env.get]
 | cons a l ih =>
  intro k i
  simp only [env0,Env.get_cons,ih]
  by_cases h1 : i = k
  ·subst h1; simp
  ·by_cases h2 : k <= i
   ·have h3 : k + 1 <= i := by omega
    rw [if_neg h1,if_pos h3,if_pos h2]
    rw [show i - k = (i - (k + 1)) + 1 by omega]
    simp
   ·rw [if_neg h1,if_neg (by omega),if_neg h2]
def retQ (T : Tab) (rs : List ResultVar) (K : AV -> St -> Prop) : Exit -> Env -> St -> Prop
 | .normal,env,σ => Got (Zbu T env σ.get rs) fun vs => K (resV vs) σ
 | .ret,env,σ => Got (Zbu T env σ.get rs) fun vs => K (resV vs) σ
 | _,_,_ => False
def Zhs (cx : Cx) (hd : Nat -> Hd) (fn : Func) (args : List AV) (σ : St) (K : AV -> St -> Prop) : Prop :=
 match fn.body with
 | some c => cond (Nat.ble args.length fn.ntmps) (Zaf cx fn.ntmps (hd fn.ntmps) c (env0 0 args) σ (retQ cx.T fn.results.toList K)) False
 | none => False
theorem Zm2 {cx : Cx} (hcx : CxOK P cx) {hd : Nat -> Hd} (hhd : ∀ N,HdOK P N (hd N)) {f : FuncId} {fn : Func} (hf : P.funcs[f]? = some fn) {args : List AV} {σ : St} {K : AV -> St -> Prop} (hv : Zhs cx hd fn args σ K) : SemCall P f args σ K := by
 intro B w0 I0 pr r I D w vs H hargs
 unfold Zhs at hv
 split at hv
 ·rename_i c hb
  cases hle : Nat.ble args.length fn.ntmps with
  | false => rw [hle] at hv; exact hv.elim
  | true =>
   rw [hle] at hv
   have hle := Nat.le_of_ble_eq_true hle
   refine callsIn_of_wp_marks hf hb trivial ?_
   have hsz : vs.size = args.length := hargs.1
   have S : SR B w0 I0 pr fn.ntmps r I D (env0 0 args) σ { tmps := vs ++ Array.replicate (fn.ntmps - vs.size) undef,defers := [] } w := by
    refine ⟨H,by simp; omega,fun i => ?_⟩
    rw [Zig]
    simp only [Nat.zero_le,if_true,Nat.sub_zero]
    cases hi : args[i]? with
    | none => simp; exact .any _ _
    | some v =>
     have hlt : i < vs.size := by rw [hsz]; exact (List.getElem?_eq_some_iff.1 hi).1
     have := hargs.2 i v vs[i] hi (by simp [hlt])
     simpa [Array.getD_eq_getD_getElem?,Array.getElem?_append,hlt] using this
   refine Code.wpIn_mono (fun e a' w' hp => ?_) (Yt hcx (hhd _) c _ _ _ hv Fence.wide B w0 I0 pr r I D _ w (.inl rfl) (fun l hl => by cases hl) S)
   have fin : ∀ (pr' : Nat -> Obj -> Prop) (ms : List Deferred) (env' : Env) (σ' : St) (r' : Locs) (I' : Imm) (D' : Nat -> Prop),(∀ b o,pr b o -> pr' b o) -> Mk w pr' ms -> ms.Pairwise (fun a b => a.target ≠ b.target) -> a'.defers = ms ++ [] ->
     (Got (Zbu cx.T env' σ'.get fn.results.toList) fun vs => K (resV vs) σ') -> SR B w0 I0 pr' fn.ntmps r' I' D' env' σ' a' w' -> Step r D I w r' D' I' w' ->
     LeavesInM Fence.wide 0 P fn a'.tmps (fun e w' => ∃ x v σ' r' I' D',e = .returned x /\ K v σ' /\ HR B w0 I0 pr r' I' D' σ'.get σ'.next w' /\ VR r' I' w' D' v x /\ Step r D I w r' D' I' w') a'.defers .returning w' := by
    intro pr' ms env' σ' r' I' D' p1 m1 n1 d1 q1 s1 t1
    obtain ⟨us,hus,hk⟩ := Got.cases q1
    rw [d1,List.append_nil]
    refine Zdy hcx.tab ms (pr := pr) m1 n1 (fun x o hx => ⟨p1 x o hx,(Array.getElem?_eq_some_iff.1 (H.prot x o hx).1).1⟩) s1.hr s1.er hus (fun x w2 H2 S2 V2 => ?_)
    exact ⟨x,resV us,σ',r',I',D',rfl,hk,H2,V2,t1.trans S2⟩
   obtain ⟨pr',ms,env',σ',r',I',D',p1,m1,n1,d1,q1,s1,t1,z1⟩ := hp
   cases e with
   | normal => exact fin pr' ms env' σ' r' I' D' p1 m1 n1 d1 q1 s1 t1
   | ret => exact fin pr' ms env' σ' r' I' D' p1 m1 n1 d1 q1 s1 t1
   | _ => exact q1.elim
 ·exact hv.elim
variable {P : Program}
def Yd0 : Value -> AV
 | .bool b => .bool b
 | .int k n => .int k n
 | .float k n => .flt k n
 | .complex k n m => .cpx k n m
 | .string s => .str s
 | .pointer none => .nilp
 | .slice none 0 0 => .nils
 | _ => .any
theorem Zz1 (r : Locs) (I : Imm) (w : World) (D : Nat -> Prop) (v : Value) : VR r I w D (Yd0 v) v := by
 unfold Yd0
 split
 ·exact .bool _ _
 ·exact .int _ _ _
 ·exact .flt _ _ _
 ·exact .cpx _ _ _ _
 ·exact .str _ _
 ·exact .nilp _
 ·exact .nils _
 ·exact .any _ _
def Zwy : Value -> Bool
 | .agg _ => true
 | _ => false
def mkTI (P : Program) (t : TypeId) : Option TI :=
 match P.info? t,P.underlying t with
 | some i,some d => match i.zero with
  | some z => cond (Nat.beq z.cells.size i.size && (Zoa d == Zwy z)) (some { desc := d,size := i.size,bytes := i.bytes,agg := Zoa d,zero := z.cells.toList.map Yd0 }) none
  | none => none
 | _,_ => none
theorem Zjd {t : TypeId} {ti : TI} (h : mkTI P t = some ti) : P.underlying t = some ti.desc /\ ti.agg = Zoa ti.desc /\ ∃ i,P.info? t = some i /\ i.size = ti.size /\ i.bytes = ti.bytes /\
  ∃ z,i.zero = some z /\ z.cells.size = ti.size /\ (ti.agg = true -> z = .agg z.cells) /\ (∀ r I w D,VRs r I w D ti.zero z.cells) /\ (ti.agg = false -> z.cells = #[z]) := by
 unfold mkTI at h
 split at h
 ·rename_i i d hi hd
  split at h
  ·rename_i z hz
   obtain ⟨h1,h2⟩ := Zb h
   simp only [Bool.and_eq_true,beq_iff_eq] at h1
   simp only [Option.some.injEq] at h2
   subst h2
   refine ⟨hd,rfl,i,hi,rfl,rfl,z,hz,Nat.eq_of_beq_eq_true h1.1,fun ha => ?_,fun r I w D => ⟨by simp,fun j c v hc hv => ?_⟩,fun ha => ?_⟩
   ·dsimp only at ha
    have h := h1.2
    rw [ha] at h
    clear hz h1 ha
    cases z <;> first | rfl | (exact absurd h (by simp [Zwy]))
   ·simp only [List.getElem?_map,Option.map_eq_some_iff] at hc
    obtain ⟨x,hx,rfl⟩ := hc
    have : x = v := by
     have : z.cells.toList[j]? = z.cells[j]? := by simp
     rw [this,hv] at hx
     exact (Option.some.inj hx).symm
    subst this
    exact Zz1 r I w D x
   ·dsimp only at ha
    have h := h1.2
    rw [ha] at h
    clear hz h1 ha
    cases z <;> first | rfl | (exact absurd h (by simp [Zwy]))
  ·cases h
 ·cases h
def tget : List (Nat × TI) -> Tab
 | [],_ => none
 | (j,ti) :: l,t => cond (Nat.beq t j) (some ti) (tget l t)
theorem Znc : ∀ {l : List (Nat × TI)} {t : TypeId} {ti : TI},tget l t = some ti -> (t,ti) ∈ l
 | [],_,_,h => by simp [tget] at h
 | (j,tj) :: l,t,ti,h => by
  simp only [tget] at h
  cases hb : Nat.beq t j with
  | true => rw [hb] at h; simp at h; subst h; rw [Nat.eq_of_beq_eq_true hb]; simp
  | false => rw [hb] at h; exact List.mem_cons_of_mem _ (Znc h)
theorem Zze {l : List (Nat × TI)} (h : (l.map fun p => mkTI P p.1) = l.map fun p => some p.2) : TabOK P (tget l) := by
 have key : ∀ t ti,tget l t = some ti -> mkTI P t = some ti := by
  intro t ti ht
  have hm := Znc ht
  have := List.map_inj_left.1 h _ hm
  exact this
 exact ⟨fun t ti ht => (Zjd (key t ti ht)).1,fun t ti ht => (Zjd (key t ti ht)).2.1,fun t ti ht => (Zjd (key t ti ht)).2.2⟩
def memN : List Nat -> Nat -> Bool
 | [],_ => false
 | a :: l,t => Nat.beq t a || memN l t
theorem Zbz : ∀ {l : List Nat} {t : Nat},memN l t = true -> t ∈ l
 | [],_,h => by simp [memN] at h
 | a :: l,t,h => by
  simp only [memN,Bool.or_eq_true] at h
  rcases h with h | h
  ·rw [Nat.eq_of_beq_eq_true h]; simp
  ·exact List.mem_cons_of_mem _ (Zbz h)
theorem Yez {l : List Nat} (h : (l.all fun t => !P.stoodInHeld t && !P.eqGuardType P.depth t) = true) : EqOK P (memN l) := by
 have key : ∀ t,memN l t = true -> P.stoodInHeld t = false /\ P.eqGuardType P.depth t = false := by
  intro t ht
  have := List.all_eq_true.1 h t (Zbz ht)
  simpa using this
 exact ⟨fun t ht => (key t ht).1,fun t ht => (key t ht).2⟩
variable {r r' : Locs} {D D' : Nat -> Prop} {I I' : Imm} {w w' w0 : World} {I0 : Imm} {B n n' k N : Nat} {pr pr' : Nat -> Obj -> Prop} {h : Nat -> ABlk} {P : Program}
mutual
def Zi (f : Nat -> Nat) : AV -> AV
 | .ptr id idx sub => .ptr (f id) idx sub
 | .asl id idx len => .asl (f id) idx len
 | .bsl id idx sub len cap => .bsl (f id) idx sub len cap
 | .amap id => .amap (f id)
 | .func g c0 c1 => .func g (renL f c0) (renL f c1)
 | .agg cs => .agg (renL f cs)
 | .tup cs => .tup (renL f cs)
 | v => v
def renL (f : Nat -> Nat) : List AV -> List AV
 | [] => []
 | c :: cs => Zi f c :: renL f cs
end
theorem Zcj (f : Nat -> Nat) : ∀ (cs : List AV) (i : Nat),(renL f cs)[i]? = (cs[i]?).map (Zi f)
 | [],i => by simp [renL]
 | c :: cs,0 => by simp [renL]
 | c :: cs,i + 1 => by simp [renL,Zcj f cs i]
theorem Zz (f : Nat -> Nat) : ∀ (cs : List AV),(renL f cs).length = cs.length
 | [] => rfl
 | c :: cs => by simp [renL,Zz f cs]
theorem VR.ren {f : Nat -> Nat} {v : AV} {x : Value} (hv : VR r I w D v x) : ∀ {r' : Locs} {D' : Nat -> Prop},(∀ id,D id -> D' (f id) /\ r' (f id) = r id) -> VR r' I w D' (Zi f v) x := by
 induction hv with
 | any => intros; simp only [Zi]; exact .any _ _
 | bool => intros; simp only [Zi]; exact .bool _ _
 | int => intros; simp only [Zi]; exact .int _ _ _
 | flt => intros; simp only [Zi]; exact .flt _ _ _
 | cpx => intros; simp only [Zi]; exact .cpx _ _ _ _
 | val => intros; simp only [Zi]; exact .val _ _ _ _
 | str => intros; simp only [Zi]; exact .str _ _
 | ptr D id idx sub hd => intro r' D' h; have := (h id hd).2; rw [<-this]; simp only [Zi]; exact .ptr _ _ _ _ (h id hd).1
 | ipt D cells b o val h1 h2 ih => intro r' D' h; simp only [Zi]; exact (VR.ipt (r := r) D cells b o val h1 h2).mono ⟨fun _ hd => ⟨trivial,rfl⟩,fun _ _ hi => ⟨hi,rfl⟩,Nat.le_refl _⟩ |>.pure rfl |>.mono ⟨fun _ hf => hf.elim,fun _ _ hi => ⟨hi,rfl⟩,Nat.le_refl _⟩
 | nilp => intros; simp only [Zi]; exact .nilp _
 | nils => intros; simp only [Zi]; exact .nils _
 | asl D id idx len hd hc => intro r' D' h; have e := (h id hd).2; rw [<-e] at hc; rw [<-e]; simp only [Zi]; exact .asl _ _ _ _ (h id hd).1 hc
 | bsl D id idx sub len cap hd => intro r' D' h; have e := (h id hd).2; rw [<-e]; simp only [Zi]; exact .bsl _ _ _ _ _ _ (h id hd).1
 | isl0 => intros; simp only [Zi]; exact .isl0 _ _ _ _
 | isl D es elems b o cap val hl h0 h1 h2 ih => intro r' D' h; simp only [Zi]; exact (VR.isl (r := r) D es elems b o cap val hl h0 h1 h2).pure rfl |>.mono ⟨fun _ hf => hf.elim,fun _ _ hi => ⟨hi,rfl⟩,Nat.le_refl _⟩
 | amap D id hd => intro r' D' h; have e := (h id hd).2; rw [<-e]; simp only [Zi]; exact .amap _ _ (h id hd).1
 | func D g c0 c1 v0 v1 h0 h1 g0 g1 ih0 ih1 =>
  intro r' D' h
  simp only [Zi]
  refine .func _ _ _ _ _ _ (by rw [Zz]; exact h0) (by rw [Zz]; exact h1) (fun i c v hc hv => ?_) (fun i c v hc hv => ?_)
  ·rw [Zcj,Option.map_eq_some_iff] at hc
   obtain ⟨c',hc',rfl⟩ := hc
   exact ih0 i c' v hc' hv h
  ·rw [Zcj,Option.map_eq_some_iff] at hc
   obtain ⟨c',hc',rfl⟩ := hc
   exact ih1 i c' v hc' hv h
 | yld => intros; simp only [Zi]; exact .yld _ _
 | agg D cs vs h0 g ih =>
  intro r' D' h
  simp only [Zi]
  refine .agg _ _ _ (by rw [Zz]; exact h0) (fun i c v hc hv => ?_)
  rw [Zcj,Option.map_eq_some_iff] at hc
  obtain ⟨c',hc',rfl⟩ := hc
  exact ih i c' v hc' hv h
 | tup D cs vs h0 g ih =>
  intro r' D' h
  simp only [Zi]
  refine .tup _ _ _ (by rw [Zz]; exact h0) (fun i c v hc hv => ?_)
  rw [Zcj,Option.map_eq_some_iff] at hc
  obtain ⟨c',hc',rfl⟩ := hc
  exact ih i c' v hc' hv h
structure PRes where
 v : AV
 blks : List (Nat × List (List AV)) := []
def r0 : Locs := fun _ => ⟨0,0,0,0,0⟩
structure PPost (I : Imm) (w : World) (I' : Imm) (w' : World) (r' : Locs) (res : PRes) (x : Value) : Prop where
 below : Below w.heap.size w w'
 immL : ∀ b o,I b o -> I' b o
 immN : ∀ b o,I' b o -> I b o \/ w.heap.size <= b
 immS : ∀ b o,I' b o -> b < w'.heap.size
 rows : ∀ (j : Nat) (p : Nat × List (List AV)),res.blks[j]? = some p -> w.heap.size <= (r' j).blk /\ (r' j).blk < w'.heap.size /\ BlkOK r' I' w' (fun _ => False) w.heap.size j (.row p.1 p.2 true true)
 inj : ∀ j j',j < res.blks.length -> j' < res.blks.length -> j ≠ j' -> (r' j).blk ≠ (r' j').blk
 val : VR r' I' w' (fun i => i < res.blks.length) res.v x
def PCall (P : Program) (f : FuncId) (args : List AV) (res : PRes) : Prop :=
 FnOK P f /\ ∀ (I : Imm) (w : World) (vs : Array Value),(∀ b o,I b o -> b < w.heap.size) -> VRs r0 I w (fun _ => False) args vs ->
  CallsIn Fence.wide 0 P f vs w fun e w' => ∃ x r' I',e = .returned x /\ PPost I w I' w' r' res x
def Xk (h : Nat -> ABlk) (k : Nat) (l : List (Nat × List (List AV))) : Nat -> ABlk := fun i =>
 if k <= i then match l[i - k]? with
  | some p => .row p.1 p.2 true true
  | none => h i
 else h i
theorem HR.call (H : HR B w0 I0 pr r I D h n w) {res : PRes} {x : Value} (hp : PPost I w I' w' r' res x) (hk : ∀ j,j < res.blks.length -> ¬ D (k + j)) (hn : n <= n') (hkn : k + res.blks.length <= n') :
  ∃ r2 D2,(∀ i,D2 i ↔ D i \/ (k <= i /\ i < k + res.blks.length)) /\ HR B w0 I0 pr r2 I' D2 (Xk h k res.blks) n' w' /\ Step r D I w r2 D2 I' w' /\ VR r2 I' w' D2 (Zi (fun j => k + j) res.v) x := by
 let m := res.blks.length
 let r2 : Locs := fun i => if k <= i /\ i < k + m then r' (i - k) else r i
 let D2 : Nat -> Prop := fun i => D i \/ (k <= i /\ i < k + m)
 have hrD : ∀ id,D id -> r2 id = r id := by
  intro id hd
  have : ¬ (k <= id /\ id < k + m) := fun ⟨h1,h2⟩ => hk (id - k) (by omega) (by rwa [show k + (id - k) = id by omega])
  simp only [r2,this,if_false]
 have hrN : ∀ j,j < m -> r2 (k + j) = r' j := by
  intro j hj
  have h1 : k <= k + j /\ k + j < k + m := by omega
  simp only [r2,h1,and_self,if_true]
  congr 1; omega
 have hst : Step r D I w r2 D2 I' w' := by
  refine ⟨fun id hd => ⟨.inl hd,hrD id hd⟩,fun b o hi => ⟨hp.immL b o hi,?_⟩,hp.below.size⟩
  exact World.cell?_of_block (hp.below.block b (H.imm b o hi))
 have hlive : ∀ id,(Xk h k res.blks id).live = true -> (∃ j,j < m /\ id = k + j /\ ∃ p,res.blks[j]? = some p /\ Xk h k res.blks id = .row p.1 p.2 true true) \/ ((h id).live = true /\ Xk h k res.blks id = h id) := by
  intro id hl
  simp only [Xk] at hl ⊢
  by_cases h1 : k <= id
  ·simp only [h1,if_true] at hl ⊢
   cases hq : res.blks[id - k]? with
   | none => simp only [hq] at hl ⊢; exact .inr ⟨hl,trivial⟩
   | some p =>
    simp only [hq] at hl ⊢
    have := (List.getElem?_eq_some_iff.1 hq).1
    exact .inl ⟨id - k,this,by omega,p,hq,rfl⟩
  ·simp only [h1,if_false] at hl ⊢; exact .inr ⟨hl,trivial⟩
 refine ⟨r2,D2,fun i => Iff.rfl,⟨H.below.trans (hp.below.mono H.base),Nat.le_trans H.base hp.below.size,hp.immS,?_,?_,?_,?_,?_,fun b o hb => ⟨fun id hl => ?_,fun o' hi => ?_⟩,?_⟩,hst,?_⟩
 ·rintro id (hd | ⟨h1,h2⟩)
  ·rw [hrD id hd]
   exact ⟨Nat.lt_of_lt_of_le (H.dom id hd).1 hn,Nat.lt_of_lt_of_le (H.dom id hd).2 hp.below.size⟩
  ·have e : id = k + (id - k) := by omega
   rw [e,hrN _ (by omega)]
   have hq : id - k < res.blks.length := by omega
   exact ⟨by omega,(hp.rows (id - k) _ (List.getElem?_eq_getElem hq)).2.1⟩
 ·intro id hl
  rcases hlive id hl with ⟨j,hj,rfl,_⟩ | ⟨h1,_⟩
  ·exact .inr (by omega)
  ·exact .inl (H.live id h1)
 ·intro id
  by_cases hl : (Xk h k res.blks id).live = true
  ·rcases hlive id hl with ⟨j,hj,rfl,p,hq,e⟩ | ⟨h1,e⟩
   ·rw [e]
    obtain ⟨g1,g2,g3⟩ := hp.rows j p hq
    obtain ⟨⟨a1,a1'⟩,a2,a3,cs,T,fz,a4,a5,a6,a7,a8⟩ := g3
    refine ⟨by rw [hrN j hj]; exact ⟨a1,a1'⟩,by rw [hrN j hj]; exact a2,a3,cs,T,fz,by rw [hrN j hj]; exact a4,by rw [hrN j hj]; exact a5,?_,?_,by simp⟩
    ·intro i e' j' c hi hj'
     obtain ⟨v,b1,b2⟩ := a6 i e' j' c hi hj'
     exact ⟨v,by rw [hrN j hj]; exact b1,b2.mono ⟨fun _ h => by simp at h,fun _ _ hi => ⟨hi,rfl⟩,Nat.le_refl _⟩⟩
    ·intro _
     rw [hrN j hj]
     exact ⟨Nat.le_trans H.base g1,(a7 rfl).2.1,(a7 rfl).2.2⟩
   ·rw [e]
    have hd := H.live id h1
    have hlt := (H.dom id hd).2
    refine (H.blk id).mono hst (hrD id hd) (fun _ => hp.below.block _ hlt) (fun _ _ _ _ o ho => ?_)
    rcases hp.immN _ _ ho with h | h
    ·exact h
    ·omega
  ·have : Xk h k res.blks id = .dead := by cases hx : Xk h k res.blks id <;> simp_all [ABlk.live]
   rw [this]; trivial
 ·intro id id' h1 h2 hne
  rcases hlive id h1 with ⟨j,hj,rfl,p,hq,_⟩ | ⟨g1,_⟩ <;> rcases hlive id' h2 with ⟨j',hj',rfl,p',hq',_⟩ | ⟨g1',_⟩
  ·rw [hrN j hj,hrN j' hj']; exact hp.inj j j' hj hj' (fun e => hne (by rw [e]))
  ·have hd := H.live id' g1'
   have := (H.dom id' hd).2
   have := (hp.rows j p hq).1
   rw [hrN j hj,hrD id' hd]; omega
  ·have hd := H.live id g1
   have := (H.dom id hd).2
   have := (hp.rows j' p' hq').1
   rw [hrN j' hj',hrD id hd]; omega
  ·have hd := H.live id g1
   have hd' := H.live id' g1'
   rw [hrD id hd,hrD id' hd']
   exact H.inj id id' g1 g1' hne
 ·intro b o hb
  have := H.prot b o hb
  have hlt := (Array.getElem?_eq_some_iff.1 this.1).1
  exact ⟨(hp.below.block b hlt).trans this.1,this.2⟩
 ·have hlt := (Array.getElem?_eq_some_iff.1 (H.prot b o hb).1).1
  rcases hlive id hl with ⟨j,hj,rfl,p,hq,_⟩ | ⟨g1,_⟩
  ·rw [hrN j hj]
   have := (hp.rows j p hq).1
   omega
  ·rw [hrD id (H.live id g1)]
   exact (H.protK b o hb).1 id g1
 ·have hlt := (Array.getElem?_eq_some_iff.1 (H.prot b o hb).1).1
  rcases hp.immN _ _ hi with h | h
  ·exact (H.protK b o hb).2 o' h
  ·omega
 ·intro b o hb
  rcases hp.immN b o hb with h | h
  ·exact H.immB b o h
  ·exact .inr (Nat.le_trans H.base h)
 ·exact hp.val.ren fun id hd => ⟨.inr (by omega),hrN id hd⟩
def Zmd (rv : List AV -> Option (List AV × List Nat)) : List (List AV) -> Option (List (List AV) × List Nat)
 | [] => some ([],[])
 | e :: es => match rv e,Zmd rv es with
  | some (e',l),some (es',l') => some (e' :: es',l ++ l')
  | _,_ => none
mutual
def Xz (rv : List AV -> Option (List AV × List Nat)) (h : Nat -> ABlk) : AV -> Option (AV × List Nat)
 | .ptr id idx sub => match sub with
  | 0 => match h id with
   | .row _ elems mt pu => match elems[idx]? with
    | some cells => match pu with
     | true => some (.ipt cells,cond mt [id] [])
     | false => match rv cells with
      | some (cs',l) => some (.ipt cs',cond mt [id] [] ++ l)
      | none => none
    | none => none
   | _ => none
  | _ => none
 | .bsl _ _ _ _ _ => none
 | .amap _ => none
 | .asl id idx len => match h id with
  | .row es elems mt true => some (.isl es ((elems.drop idx).take len),cond mt [id] [])
  | .row es elems mt false => match Zmd rv ((elems.drop idx).take len) with
   | some (els,l) => some (.isl es els,cond mt [id] [] ++ l)
   | none => none
  | _ => none
 | .func f c0 c1 => match Zaq rv h c0,Zaq rv h c1 with
  | some (c0',l0),some (c1',l1) => some (.func f c0' c1',l0 ++ l1)
  | _,_ => none
 | .agg cs => match Zaq rv h cs with
  | some (cs',l) => some (.agg cs',l)
  | none => none
 | .tup cs => match Zaq rv h cs with
  | some (cs',l) => some (.tup cs',l)
  | none => none
 | v => some (v,[])
def Zaq (rv : List AV -> Option (List AV × List Nat)) (h : Nat -> ABlk) : List AV -> Option (List AV × List Nat)
 | [] => some ([],[])
 | c :: cs => match Xz rv h c,Zaq rv h cs with
  | some (c',l),some (cs',l') => some (c' :: cs',l ++ l')
  | _,_ => none
end
def rvN (h : Nat -> ABlk) : Nat -> List AV -> Option (List AV × List Nat)
 | 0 => fun _ => none
 | d + 1 => Zaq (rvN h d) h
def view (h : Nat -> ABlk) (a : AV) : Option (AV × List Nat) := Xz (rvN h 3) h a
def Zar (h : Nat -> ABlk) (cs : List AV) : Option (List AV × List Nat) := Zaq (rvN h 3) h cs
def Vv (r : Locs) (I : Imm) (h : Nat -> ABlk) (l : List Nat) : Imm := fun b o => I b o \/ ∃ id ∈ l,∃ (es : Nat) (elems : List (List AV)) (mt pu : Bool) (i : Nat) (e : List AV) (j : Nat) (c : AV),h id = .row es elems mt pu /\ elems[i]? = some e /\ e[j]? = some c /\ b = (r id).blk /\ o = (r id).off + i * es + j
theorem Zt7 {id es idx len : Nat} {elems : List (List AV)} {mt : Bool} (hb : BlkOK r I w D B id (.row es elems mt true)) (hc : idx + len <= (r id).len) {cap : Nat} (hcap : len <= cap) {J : Imm} (hI : ∀ b o,I b o -> J b o)
  (hJ : ∀ (i : Nat) (e : List AV) (j : Nat) (c : AV),elems[i]? = some e -> e[j]? = some c -> J (r id).blk ((r id).off + i * es + j)) :
  VR r0 J w (fun _ => False) (.isl es ((elems.drop idx).take len)) (.slice (some ⟨(r id).blk,(r id).off + idx * (r id).es,none⟩) len cap) := by
 obtain ⟨⟨h1,h1'⟩,h2,h3,cs,T,fz,h4,h5,h6,_⟩ := hb
 have hlen : ((elems.drop idx).take len).length = len := by simp; omega
 rw [h1]
 have hget : ∀ (i : Nat) (e : List AV),((elems.drop idx).take len)[i]? = some e -> elems[idx + i]? = some e := by
  intro i e hi
  have : i < len := by have := (List.getElem?_eq_some_iff.1 hi).1; omega
  simpa [this,List.getElem?_drop] using hi
 have key := VR.isl (r := r0) (I := J) (w := w) (fun _ => False) es ((elems.drop idx).take len) (r id).blk ((r id).off + idx * es) cap (fun i j => cs.getD ((r id).off + (idx + i) * es + j) undef) (by rw [hlen]; exact hcap)
  (fun i e hi => h3 _ _ (hget i e hi)) (fun i e j c hi hj => ?_) (fun i e j c hi hj => ?_)
 ·rw [hlen] at key; exact key
 ·obtain ⟨v,g1,g2⟩ := h6 (idx + i) e j c (hget i e hi) hj
  have e1 : (r id).off + idx * es + i * es + j = (r id).off + (idx + i) * es + j := by rw [Nat.add_mul]; omega
  rw [e1]
  refine ⟨hJ _ _ _ _ (hget i e hi) hj,?_⟩
  simp [World.cell?,h4,g1]
 ·obtain ⟨v,g1,g2⟩ := h6 (idx + i) e j c (hget i e hi) hj
  have : cs.getD ((r id).off + (idx + i) * es + j) undef = v := by simp [g1]
  simp only [this]
  exact g2.mono ⟨fun _ hf => by simp at hf,fun b o hi => ⟨hI b o hi,rfl⟩,Nat.le_refl _⟩
def Zy0 (r : Locs) (I : Imm) (w : World) (D : Nat -> Prop) (h : Nat -> ABlk) (J : Imm) (rv : List AV -> Option (List AV × List Nat)) : Prop :=
 ∀ (cs cs' : List AV) (l : List Nat) (vs : List Value),vs.length = cs.length -> (∀ (i : Nat) (c : AV) (v : Value),cs[i]? = some c -> vs[i]? = some v -> VR r I w D c v) -> rv cs = some (cs',l) ->
  (∀ id ∈ l,∀ (es : Nat) (elems : List (List AV)) (mt pu : Bool),h id = .row es elems mt pu -> ∀ (i : Nat) (e : List AV) (j : Nat) (c : AV),elems[i]? = some e -> e[j]? = some c -> J (r id).blk ((r id).off + i * es + j)) -> cs'.length = vs.length /\ ∀ (i : Nat) (c : AV) (v : Value),cs'[i]? = some c -> vs[i]? = some v -> VR r0 J w (fun _ => False) c v
theorem Znn {J : Imm} {rv : List AV -> Option (List AV × List Nat)} (hrv : Zy0 r I w D h J rv) : ∀ (els : List (List AV)) {els' : List (List AV)} {l : List Nat} (vals : Nat -> List Value),
  (∀ (i : Nat) (e : List AV),els[i]? = some e -> (vals i).length = e.length /\ ∀ (j : Nat) (c : AV) (v : Value),e[j]? = some c -> (vals i)[j]? = some v -> VR r I w D c v) -> Zmd rv els = some (els',l) ->
  (∀ id ∈ l,∀ (es : Nat) (elems : List (List AV)) (mt pu : Bool),h id = .row es elems mt pu -> ∀ (i : Nat) (e : List AV) (j : Nat) (c : AV),elems[i]? = some e -> e[j]? = some c -> J (r id).blk ((r id).off + i * es + j)) ->
  els'.length = els.length /\ ∀ (i : Nat) (e' : List AV),els'[i]? = some e' -> e'.length = (vals i).length /\ ∀ (j : Nat) (c : AV) (v : Value),e'[j]? = some c -> (vals i)[j]? = some v -> VR r0 J w (fun _ => False) c v
 | [],els',l,vals,hv,hb,hl => by simp [Zmd] at hb; obtain ⟨rfl,rfl⟩ := hb; exact ⟨rfl,fun i e' hi => by simp at hi⟩
 | e :: els,els',l,vals,hv,hb,hl => by
  simp only [Zmd] at hb
  split at hb
  ·rename_i e1 l1 es1 l2 h1 h2
   cases hb
   obtain ⟨g1,g2⟩ := hv 0 e rfl
   obtain ⟨k1,k2⟩ := hrv e e1 l1 (vals 0) g1 g2 h1 (fun id hid => hl id (by simp [hid]))
   obtain ⟨m1,m2⟩ := Znn hrv els (fun i => vals (i + 1)) (fun i e hi => hv (i + 1) e (by simpa using hi)) h2 (fun id hid => hl id (by simp [hid]))
   refine ⟨by simp [m1],fun i e' hi => ?_⟩
   cases i with
   | zero => simp at hi; subst hi; exact ⟨k1,k2⟩
   | succ i => exact m2 i e' (by simpa using hi)
  ·cases hb
theorem Zqd {id es idx len : Nat} {elems : List (List AV)} {mt : Bool} (hb : BlkOK r I w D B id (.row es elems mt false)) (hc : idx + len <= (r id).len) {cap : Nat} (hcap : len <= cap) {J : Imm} {rv : List AV -> Option (List AV × List Nat)} (hrv : Zy0 r I w D h J rv) {els : List (List AV)} {l : List Nat} (hrows : Zmd rv ((elems.drop idx).take len) = some (els,l))
  (hl : ∀ id ∈ l,∀ (es : Nat) (elems : List (List AV)) (mt pu : Bool),h id = .row es elems mt pu -> ∀ (i : Nat) (e : List AV) (j : Nat) (c : AV),elems[i]? = some e -> e[j]? = some c -> J (r id).blk ((r id).off + i * es + j))
  (hJ : ∀ (i : Nat) (e : List AV) (j : Nat) (c : AV),elems[i]? = some e -> e[j]? = some c -> J (r id).blk ((r id).off + i * es + j)) :
  VR r0 J w (fun _ => False) (.isl es els) (.slice (some ⟨(r id).blk,(r id).off + idx * (r id).es,none⟩) len cap) := by
 obtain ⟨⟨h1,h1'⟩,h2,h3,cs,T,fz,h4,h5,h6,_⟩ := hb
 have hlen : ((elems.drop idx).take len).length = len := by simp; omega
 rw [h1]
 have hget : ∀ (i : Nat) (e : List AV),((elems.drop idx).take len)[i]? = some e -> elems[idx + i]? = some e := by
  intro i e hi
  have : i < len := by have := (List.getElem?_eq_some_iff.1 hi).1; omega
  simpa [this,List.getElem?_drop] using hi
 obtain ⟨m1,m2⟩ := Znn hrv ((elems.drop idx).take len) (fun i => (List.range es).map fun j => cs.getD ((r id).off + (idx + i) * es + j) undef) (fun i e hi => by
  have he := h3 _ _ (hget i e hi)
  refine ⟨by simp [he],fun j c v hj hv => ?_⟩
  have hjl : j < es := by have := (List.getElem?_eq_some_iff.1 hj).1; omega
  rw [List.getElem?_map,List.getElem?_range hjl] at hv
  simp only [Option.map_some,Option.some.injEq] at hv
  obtain ⟨u,g1,g2⟩ := h6 (idx + i) e j c (hget i e hi) hj
  have : cs.getD ((r id).off + (idx + i) * es + j) undef = u := by simp [g1]
  rw [this] at hv
  subst hv
  exact g2.weak fun _ h => h.2) hrows hl
 rw [hlen] at m1
 have key := VR.isl (r := r0) (I := J) (w := w) (fun _ => False) es els (r id).blk ((r id).off + idx * es) cap (fun i j => cs.getD ((r id).off + (idx + i) * es + j) undef) (by rw [m1]; exact hcap)
  (fun i e hi => by have := (m2 i e hi).1; simpa using this) (fun i e j c hi hj => ?_) (fun i e j c hi hj => ?_)
 ·rw [m1] at key; exact key
 ·have hil := (List.getElem?_eq_some_iff.1 hi).1
  have hjl : j < es := by have h7 := (m2 i e hi).1; have := (List.getElem?_eq_some_iff.1 hj).1; simp at h7; omega
  have he0 : ((elems.drop idx).take len)[i]? = some ((elems.drop idx).take len)[i] := List.getElem?_eq_getElem (by omega)
  have he1 := hget i _ he0
  have hel := h3 _ _ he1
  have hc0 : (((elems.drop idx).take len)[i])[j]? = some (((elems.drop idx).take len)[i])[j] := List.getElem?_eq_getElem (by omega)
  obtain ⟨v,g1,g2⟩ := h6 (idx + i) _ j _ he1 hc0
  have e1 : (r id).off + idx * es + i * es + j = (r id).off + (idx + i) * es + j := by rw [Nat.add_mul]; omega
  rw [e1]
  refine ⟨hJ _ _ _ _ he1 hc0,?_⟩
  simp [World.cell?,h4,g1]
 ·have hjl : j < es := by have h7 := (m2 i e hi).1; have := (List.getElem?_eq_some_iff.1 hj).1; simp at h7; omega
  exact (m2 i e hi).2 j c _ hj (by rw [List.getElem?_map,List.getElem?_range hjl]; rfl)
mutual
theorem Zu9 (H : HR B w0 I0 pr r I D h n w) {J : Imm} (hI : ∀ b o,I b o -> J b o) {rv : List AV -> Option (List AV × List Nat)} (hrv : Zy0 r I w D h J rv) : ∀ (a : AV) {b : AV} {l : List Nat} {x : Value},VR r I w D a x -> Xz rv h a = some (b,l) ->
  (∀ id ∈ l,∀ (es : Nat) (elems : List (List AV)) (mt pu : Bool),h id = .row es elems mt pu -> ∀ (i : Nat) (e : List AV) (j : Nat) (c : AV),elems[i]? = some e -> e[j]? = some c -> J (r id).blk ((r id).off + i * es + j)) -> VR r0 J w (fun _ => False) b x
 | .any,b,l,x,hv,hb,_ => by simp [Xz] at hb; obtain ⟨rfl,rfl⟩ := hb; exact .any _ _
 | .bool _,b,l,x,hv,hb,_ => by simp [Xz] at hb; obtain ⟨rfl,rfl⟩ := hb; cases hv; exact .bool _ _
 | .int _ _,b,l,x,hv,hb,_ => by simp [Xz] at hb; obtain ⟨rfl,rfl⟩ := hb; cases hv; exact .int _ _ _
 | .flt _ _,b,l,x,hv,hb,_ => by simp [Xz] at hb; obtain ⟨rfl,rfl⟩ := hb; cases hv; exact .flt _ _ _
 | .cpx _ _ _,b,l,x,hv,hb,_ => by simp [Xz] at hb; obtain ⟨rfl,rfl⟩ := hb; cases hv; exact .cpx _ _ _ _
 | .val _ _ _,b,l,x,hv,hb,_ => by simp [Xz] at hb; obtain ⟨rfl,rfl⟩ := hb; cases hv; exact .val _ _ _ _
 | .str _,b,l,x,hv,hb,_ => by simp [Xz] at hb; obtain ⟨rfl,rfl⟩ := hb; cases hv; exact .str _ _
 | .ptr id idx sub,b,l,x,hv,hb,hl => by
  simp only [Xz] at hb
  split at hb
  ·split at hb
   ·rename_i es elems mt pu hid
    split at hb
    ·rename_i cells hcells
     have hB := H.blk id
     rw [hid] at hB
     obtain ⟨val,hval⟩ := Zi3 hB hcells
     have hes := hB.1.1
     have hJ : ∀ ids : List Nat,(mt = true -> id ∈ ids) -> (∀ i ∈ ids,i ∈ l) -> ∀ (j : Nat) (c : AV),cells[j]? = some c -> J (r id).blk ((r id).off + idx * es + j) := by
      intro ids h1 h2 j c hj
      cases mt with
      | true => exact hl id (h2 id (h1 rfl)) _ _ _ _ hid _ _ _ _ hcells hj
      | false =>
       obtain ⟨_,_,_,cs,T,fz,_,_,_,_,h8⟩ := hB
       exact hI _ _ (h8 rfl idx cells j c hcells hj)
     split at hb
     ·cases hb
      cases hv with
      | ptr _ _ _ _ hd =>
       rw [hes]
       obtain ⟨_,_,_,cs,T,fz,h4,_,h6,_⟩ := hB
       refine .ipt _ _ _ _ val (fun j c hj => ⟨hJ (cond mt [id] []) (fun e => by rw [e]; simp) (fun i hi => hi) j c hj,(hval j c hj).1⟩) (fun j c hj => ?_)
       obtain ⟨v,a,b⟩ := h6 idx cells j c hcells hj
       have e1 := (hval j c hj).1
       have e2 : w.cell? ⟨(r id).blk,(r id).off + idx * es + j,none⟩ = some v := by simp [World.cell?,h4,a]
       rw [e1] at e2
       have e3 := Option.some.inj e2
       rw [e3]
       exact b.mono ⟨fun _ h => by simp at h,fun b o hi => ⟨hI b o hi,rfl⟩,Nat.le_refl _⟩
     ·split at hb
      ·rename_i cs' l' hrc
       cases hb
       cases hv with
       | ptr _ _ _ _ hd =>
        rw [hes]
        have hlen := hB.2.2.1 idx cells hcells
        obtain ⟨k1,k2⟩ := hrv cells cs' l' ((List.range cells.length).map val) (by simp) (fun i c v hc hv => by
         have hlt := (List.getElem?_eq_some_iff.1 hc).1
         rw [List.getElem?_map,List.getElem?_range hlt] at hv
         simp at hv; subst hv
         exact (hval i c hc).2) hrc (fun i hi => hl i (by simp [hi]))
        simp only [List.length_map,List.length_range] at k1
        refine .ipt _ _ _ _ val (fun j c hj => ?_) (fun j c hj => ?_)
        ·have hlt := (List.getElem?_eq_some_iff.1 hj).1
         have hc0 : cells[j]? = some cells[j] := List.getElem?_eq_getElem (by omega)
         exact ⟨hJ (cond mt [id] []) (fun e => by rw [e]; simp) (fun i hi => by simp [hi]) j _ hc0,(hval j _ hc0).1⟩
        ·have hlt := (List.getElem?_eq_some_iff.1 hj).1
         exact k2 j c (val j) hj (by rw [List.getElem?_map,List.getElem?_range (by omega)]; rfl)
      ·cases hb
    ·cases hb
   ·cases hb
  ·cases hb
 | .ipt _,b,l,x,hv,hb,_ => by simp [Xz] at hb; obtain ⟨rfl,rfl⟩ := hb; exact (hv.pure rfl).mono ⟨fun _ h => h.elim,fun b o hi => ⟨hI b o hi,rfl⟩,Nat.le_refl _⟩
 | .nilp,b,l,x,hv,hb,_ => by simp [Xz] at hb; obtain ⟨rfl,rfl⟩ := hb; cases hv; exact .nilp _
 | .nils,b,l,x,hv,hb,_ => by simp [Xz] at hb; obtain ⟨rfl,rfl⟩ := hb; cases hv; exact .nils _
 | .asl id idx len,b,l,x,hv,hb,hl => by
  simp only [Xz] at hb
  split at hb
  ·rename_i es elems mt hid
   simp only [Option.some.injEq,Prod.mk.injEq] at hb
   obtain ⟨rfl,rfl⟩ := hb
   have hB := H.blk id
   rw [hid] at hB
   cases hv with
   | asl _ _ _ _ hd hc =>
    refine Zt7 hB hc ?_ hI ?_
    rotate_left
    ·cases mt with
     | true => exact hl id (by simp) _ _ _ _ hid
     | false =>
      obtain ⟨_,_,_,cs,T,fz,_,_,_,_,h8⟩ := hB
      exact fun i e j c hi hj => hI _ _ (h8 rfl i e j c hi hj)
    have h2 := hB.2.1
    have h1 := hB.1.2
    omega
  ·rename_i es elems mt hid
   split at hb
   ·rename_i els l' hrows
    cases hb
    have hB := H.blk id
    rw [hid] at hB
    cases hv with
    | asl _ _ _ _ hd hc =>
     refine Zqd hB hc ?_ hrv hrows (fun i hi => hl i (by simp [hi])) ?_
     rotate_left
     ·cases mt with
      | true => exact hl id (by simp) _ _ _ _ hid
      | false =>
       obtain ⟨_,_,_,cs,T,fz,_,_,_,_,h8⟩ := hB
       exact fun i e j c hi hj => hI _ _ (h8 rfl i e j c hi hj)
     have h2 := hB.2.1
     have h1 := hB.1.2
     omega
   ·cases hb
  ·cases hb
 | .bsl _ _ _ _ _,b,l,x,hv,hb,_ => by simp [Xz] at hb
 | .isl _ _,b,l,x,hv,hb,_ => by simp [Xz] at hb; obtain ⟨rfl,rfl⟩ := hb; exact (hv.pure rfl).mono ⟨fun _ h => h.elim,fun b o hi => ⟨hI b o hi,rfl⟩,Nat.le_refl _⟩
 | .amap _,b,l,x,hv,hb,_ => by simp [Xz] at hb
 | .func f c0 c1,b,l,x,hv,hb,hl => by
  simp only [Xz] at hb
  split at hb
  ·rename_i d0 l0 d1 l1 h0 h1
   cases hb
   cases hv with
   | func _ _ _ _ v0 v1 k0 k1 g0 g1 =>
    have a0 := Uf H hI hrv c0 (vs := v0.toList) (by simpa using k0) (fun i c v hc hv => g0 i c v hc (by simpa using hv)) h0 (fun i hi => hl i (by simp [hi]))
    have a1 := Uf H hI hrv c1 (vs := v1.toList) (by simpa using k1) (fun i c v hc hv => g1 i c v hc (by simpa using hv)) h1 (fun i hi => hl i (by simp [hi]))
    exact .func _ _ _ _ _ _ (by rw [a0.1]; simp) (by rw [a1.1]; simp) (fun i c v hc hv => a0.2 i c v hc (by simpa using hv)) (fun i c v hc hv => a1.2 i c v hc (by simpa using hv))
  ·cases hb
 | .yld _,b,l,x,hv,hb,_ => by simp [Xz] at hb; obtain ⟨rfl,rfl⟩ := hb; cases hv; exact .yld _ _
 | .agg cs,b,l,x,hv,hb,hl => by
  simp only [Xz] at hb
  split at hb
  ·rename_i cs' l' hcs
   simp only [Option.some.injEq,Prod.mk.injEq] at hb
   obtain ⟨rfl,rfl⟩ := hb
   cases hv with
   | agg _ _ vs h0 g =>
    have := Uf H hI hrv cs (vs := vs.toList) (by simpa using h0) (fun i c v hc hv => g i c v hc (by simpa using hv)) hcs hl
    exact .agg _ _ _ (by rw [this.1]; simp) (fun i c v hc hv => this.2 i c v hc (by simpa using hv))
  ·cases hb
 | .tup cs,b,l,x,hv,hb,hl => by
  simp only [Xz] at hb
  split at hb
  ·rename_i cs' l' hcs
   simp only [Option.some.injEq,Prod.mk.injEq] at hb
   obtain ⟨rfl,rfl⟩ := hb
   cases hv with
   | tup _ _ vs h0 g =>
    have := Uf H hI hrv cs (vs := vs.toList) (by simpa using h0) (fun i c v hc hv => g i c v hc (by simpa using hv)) hcs hl
    exact .tup _ _ _ (by rw [this.1]; simp) (fun i c v hc hv => this.2 i c v hc (by simpa using hv))
  ·cases hb
theorem Uf (H : HR B w0 I0 pr r I D h n w) {J : Imm} (hI : ∀ b o,I b o -> J b o) {rv : List AV -> Option (List AV × List Nat)} (hrv : Zy0 r I w D h J rv) : ∀ (cs : List AV) {cs' : List AV} {l : List Nat} {vs : List Value},vs.length = cs.length -> (∀ (i : Nat) (c : AV) (v : Value),cs[i]? = some c -> vs[i]? = some v -> VR r I w D c v) -> Zaq rv h cs = some (cs',l) ->
  (∀ id ∈ l,∀ (es : Nat) (elems : List (List AV)) (mt pu : Bool),h id = .row es elems mt pu -> ∀ (i : Nat) (e : List AV) (j : Nat) (c : AV),elems[i]? = some e -> e[j]? = some c -> J (r id).blk ((r id).off + i * es + j)) -> cs'.length = vs.length /\ ∀ (i : Nat) (c : AV) (v : Value),cs'[i]? = some c -> vs[i]? = some v -> VR r0 J w (fun _ => False) c v
 | [],cs',l,vs,hle,hv,hb,_ => by
  simp [Zaq] at hb
  obtain ⟨rfl,rfl⟩ := hb
  exact ⟨by simpa using hle.symm,fun i c v hc => by simp at hc⟩
 | c :: cs,cs',l,[],hle,hv,hb,hl => by simp at hle
 | c :: cs,cs',l,v :: vs,hle,hv,hb,hl => by
  simp only [Zaq] at hb
  split at hb
  ·rename_i c' l1 ds l2 h1 h2
   simp only [Option.some.injEq,Prod.mk.injEq] at hb
   obtain ⟨rfl,rfl⟩ := hb
   have g1 := Zu9 H hI hrv c (hv 0 c v rfl rfl) h1 (fun id hid => hl id (List.mem_append_left _ hid))
   have g2 := Uf H hI hrv cs (vs := vs) (by simpa using hle) (fun i c v hc hv' => hv (i + 1) c v (by simpa using hc) (by simpa using hv')) h2 (fun id hid => hl id (List.mem_append_right _ hid))
   refine ⟨by simp [g2.1],fun i c2 v2 hc hv2 => ?_⟩
   cases i with
   | zero => simp at hc hv2; subst hc; subst hv2; exact g1
   | succ i => exact g2.2 i c2 v2 (by simpa using hc) (by simpa using hv2)
  ·cases hb
end
theorem Zvp (H : HR B w0 I0 pr r I D h n w) {J : Imm} (hI : ∀ b o,I b o -> J b o) : ∀ d,Zy0 r I w D h J (rvN h d)
 | 0 => fun cs cs' l vs _ _ hb _ => by simp [rvN] at hb
 | d + 1 => fun cs cs' l vs h1 h2 hb hl => Uf H hI (Zvp H hI d) cs h1 h2 hb hl
theorem Zva (H : HR B w0 I0 pr r I D h n w) {J : Imm} (hI : ∀ b o,I b o -> J b o) : ∀ (cs : List AV) {cs' : List AV} {l : List Nat} {vs : List Value},vs.length = cs.length -> (∀ (i : Nat) (c : AV) (v : Value),cs[i]? = some c -> vs[i]? = some v -> VR r I w D c v) -> Zar h cs = some (cs',l) ->
  (∀ id ∈ l,∀ (es : Nat) (elems : List (List AV)) (mt pu : Bool),h id = .row es elems mt pu -> ∀ (i : Nat) (e : List AV) (j : Nat) (c : AV),elems[i]? = some e -> e[j]? = some c -> J (r id).blk ((r id).off + i * es + j)) -> cs'.length = vs.length /\ ∀ (i : Nat) (c : AV) (v : Value),cs'[i]? = some c -> vs[i]? = some v -> VR r0 J w (fun _ => False) c v :=
 fun cs cs' l vs h1 h2 hb hl => Uf H hI (Zvp H hI 3) cs h1 h2 hb hl
theorem Zel (H : HR B w0 I0 pr r I D h n w) (l : List Nat) : ∀ b o,Vv r I h l b o -> b < w.heap.size := by
 rintro b o (hi | ⟨id,_,es,elems,mt,pu,i,e,j,c,hid,_,_,rfl,_⟩)
 ·exact H.imm b o hi
 ·exact (H.dom id (H.live id (by rw [hid]; rfl))).2
mutual
def Xw : AV -> Bool
 | .any | .bool _ | .int _ _ | .flt _ _ | .cpx _ _ _ | .val _ _ _ | .str _ | .nilp | .nils => true
 | .agg cs => Zat cs
 | .tup cs => Zat cs
 | _ => false
def Zat : List AV -> Bool
 | [] => true
 | c :: cs => Xw c && Zat cs
end
theorem Zas : ∀ {cs : List AV},Zat cs = true -> ∀ {i : Nat} {c : AV},cs[i]? = some c -> Xw c = true
 | [],_,i,c,hi => by simp at hi
 | a :: cs,h,0,c,hi => by simp [Zat] at h hi; subst hi; exact h.1
 | a :: cs,h,i + 1,c,hi => by simp [Zat] at h hi; exact Zas h.2 hi
theorem VR.scalar {v : AV} {x : Value} (hv : VR r I w D v x) : Xw v = true -> ∀ r' I' w' D',VR r' I' w' D' v x := by
 induction hv with
 | any => intros; exact .any _ _
 | bool => intros; exact .bool _ _
 | int => intros; exact .int _ _ _
 | flt => intros; exact .flt _ _ _
 | cpx => intros; exact .cpx _ _ _ _
 | val => intros; exact .val _ _ _ _
 | str => intros; exact .str _ _
 | nilp => intros; exact .nilp _
 | nils => intros; exact .nils _
 | agg D cs vs h0 g ih => intro hs r' I' w' D'; simp only [Xw] at hs; exact .agg _ _ _ h0 (fun i c v hc hv => ih i c v hc hv (Zas hs hc) r' I' w' D')
 | tup D cs vs h0 g ih => intro hs r' I' w' D'; simp only [Xw] at hs; exact .tup _ _ _ h0 (fun i c v hc hv => ih i c v hc hv (Zas hs hc) r' I' w' D')
 | _ => intro hs; simp [Xw] at hs
def froz (h : Nat -> ABlk) (l : List Nat) : Nat -> ABlk := fun i =>
 match h i with
 | .row es elems mt pu => .row es elems (mt && !memL l i) pu
 | b => b
where
 memL : List Nat -> Nat -> Bool
 | [],_ => false
 | a :: l,t => Nat.beq t a || memL l t
theorem memL_iff : ∀ {l : List Nat} {t : Nat},froz.memL l t = true ↔ t ∈ l
 | [],t => by simp [froz.memL]
 | a :: l,t => by
  simp only [froz.memL,Bool.or_eq_true,memL_iff,List.mem_cons]
  constructor
  ·rintro (h | h)
   ·exact .inl (Nat.eq_of_beq_eq_true h)
   ·exact .inr h
  ·rintro (rfl | h)
   ·exact .inl (Nat.beq_refl _)
   ·exact .inr h
theorem HR.froz (H : HR B w0 I0 pr r I D h n w) {l : List Nat} (hl : ∀ id ∈ l,∃ es elems pu,h id = .row es elems true pu) : HR B w0 I0 pr r (Vv r I h l) D (Sx.froz h l) n w /\ Step r D I w r D (Vv r I h l) w := by
 have hst : Step r D I w r D (Vv r I h l) w := ⟨fun id hd => ⟨hd,rfl⟩,fun b o hi => ⟨.inl hi,rfl⟩,Nat.le_refl _⟩
 have hlive : ∀ id,(Sx.froz h l id).live = (h id).live := by intro id; simp only [Sx.froz]; cases h id <;> rfl
 refine ⟨⟨H.below,H.base,Zel H l,H.dom,fun id hd => H.live id (by rwa [hlive] at hd),fun id => ?_,fun id id' h1 h2 => H.inj id id' (by rwa [hlive] at h1) (by rwa [hlive] at h2),H.prot,fun b o hp => ⟨fun id hd => (H.protK b o hp).1 id (by rwa [hlive] at hd),fun o' ho => ?_⟩,?_⟩,hst⟩
 ·have hB := H.blk id
  simp only [Sx.froz]
  cases hid : h id with
  | row es elems mt pu =>
   rw [hid] at hB
   obtain ⟨g1,g2,g3,cs,T,fz,g4,g5,g6,g7,g8⟩ := hB
   dsimp only
   refine ⟨g1,g2,g3,cs,T,fz,g4,g5,fun i e j c hi hj => ?_,fun hm => ?_,fun hm i e j c hi hj => ?_⟩
   ·obtain ⟨v,a,b⟩ := g6 i e j c hi hj
    exact ⟨v,a,b.mono ⟨fun id h => ⟨h,rfl⟩,hst.imm,Nat.le_refl _⟩⟩
   ·simp only [Bool.and_eq_true,Bool.not_eq_true'] at hm
    obtain ⟨a,b,c⟩ := g7 hm.1
    refine ⟨a,fun o ho => ?_,c⟩
    rcases ho with ho | ⟨id',hid',es',elems',mt',pu',i,e,j,c',hr,_,_,hbk,_⟩
    ·exact b o ho
    ·have hne : id ≠ id' := by
      rintro rfl
      have := memL_iff.2 hid'
      rw [this] at hm; simp at hm
     exact H.inj id id' (by rw [hid]; rfl) (by rw [hr]; rfl) hne hbk
   ·cases mt with
    | false => exact .inl (g8 rfl i e j c hi hj)
    | true =>
     simp only [Bool.true_and,Bool.not_eq_false'] at hm
     exact .inr ⟨id,memL_iff.1 hm,es,elems,true,pu,i,e,j,c,hid,hi,hj,rfl,rfl⟩
  | map ents =>
   rw [hid] at hB
   obtain ⟨g0,es,clock,g1,g2,g3⟩ := hB
   exact ⟨g0,es,clock,g1,g2,fun i e k v he hv => ⟨(g3 i e k v he hv).1.mono hst,(g3 i e k v he hv).2.mono hst⟩⟩
  | set keys =>
   rw [hid] at hB
   exact hB
  | dead => trivial
 ·rcases ho with ho | ⟨id',hid',es',elems',mt',pu',i,e,j,c',hr,_,_,hbk,_⟩
  ·exact (H.protK b o hp).2 o' ho
  ·exact (H.protK b o hp).1 id' (by rw [hr]; rfl) hbk.symm
 ·rintro b o (hi | ⟨id,hid',es,elems,mt,pu,i,e,j,c,hid,_,_,rfl,_⟩)
  ·exact H.immB b o hi
  ·obtain ⟨es',elems',pu',h2⟩ := hl id hid'
   have hB := H.blk id
   rw [h2] at hB
   obtain ⟨_,_,_,cs,T,fz,_,_,_,g7,_⟩ := hB
   exact .inr (g7 rfl).1
def mutL (h : Nat -> ABlk) : List Nat -> Bool
 | [] => true
 | a :: l => (match h a with
  | .row _ _ true _ => true
  | _ => false) && mutL h l
theorem Zf8 {h : Nat -> ABlk} : ∀ {l : List Nat},mutL h l = true -> ∀ id ∈ l,∃ es elems pu,h id = .row es elems true pu
 | [],_,id,hid => by simp at hid
 | a :: l,hm,id,hid => by
  simp only [mutL,Bool.and_eq_true] at hm
  rcases List.mem_cons.1 hid with rfl | hid
  ·have h1 := hm.1
   split at h1
   ·rename_i es elems pu hx; exact ⟨es,elems,pu,hx⟩
   ·cases h1
  ·exact Zf8 hm.2 id hid
def Zeu (σ : St) (l : List (Nat × List (List AV))) : St :=
 match l with
 | [] => σ
 | p :: l => Zeu (σ.add (.row p.1 p.2 true true)) l
def Uw (σ : St) : List Nat -> St
 | [] => σ
 | a :: l => Uw (match σ.get a with
  | .row es elems _ pu => σ.set a (.row es elems false pu)
  | _ => σ) l
variable {r r' : Locs} {D D' : Nat -> Prop} {I I' : Imm} {w w' w0 : World} {I0 : Imm} {B n n' k N : Nat} {pr pr' : Nat -> Obj -> Prop} {h : Nat -> ABlk} {P : Program}
theorem Zhp : ∀ (l : List (Nat × List (List AV))) (σ : St),(Zeu σ l).next = σ.next + l.length
 | [],σ => rfl
 | p :: l,σ => by simp only [Zeu,Zhp l,St.add,List.length_cons]; omega
theorem Zkb : ∀ (l : List (Nat × List (List AV))) (σ : St),(Zeu σ l).get = Xk σ.get σ.next l
 | [],σ => by funext i; simp only [Zeu,Xk,List.getElem?_nil]; split <;> rfl
 | p :: l,σ => by
  funext i
  simp only [Zeu]
  rw [Zkb l]
  simp only [Xk,St.get_add,show (σ.add (.row p.1 p.2 true true)).next = σ.next + 1 from rfl]
  by_cases h1 : σ.next + 1 <= i
  ·have h2 : σ.next <= i := by omega
   have e : i - σ.next = (i - (σ.next + 1)) + 1 := by omega
   simp only [h1,h2,if_true,e,List.getElem?_cons_succ]
   rw [if_neg (by omega)]
  ·by_cases h2 : i = σ.next
   ·subst h2; rw [if_neg h1]; simp
   ·have h3 : ¬ σ.next <= i := by omega
    simp [h1,h2,h3]
theorem Zcs : ∀ (l : List Nat) (σ : St),(Uw σ l).next = σ.next
 | [],σ => rfl
 | a :: l,σ => by
  simp only [Uw]
  rw [Zcs l]
  split <;> rfl
theorem Zem : ∀ (l : List Nat) (σ : St),(Uw σ l).get = froz σ.get l
 | [],σ => by funext i; simp only [Uw,froz,froz.memL,Bool.not_false,Bool.and_true]; cases σ.get i <;> rfl
 | a :: l,σ => by
  simp only [Uw]
  rw [Zem l]
  funext i
  simp only [froz,froz.memL]
  cases ha : σ.get a with
  | row es elems mt pu =>
   dsimp only
   rw [St.get_set]
   by_cases e : i = a
   ·subst e; simp [ha]
   ·have : Nat.beq i a = false := by rw [Bool.eq_false_iff]; intro hb; exact e (Nat.eq_of_beq_eq_true hb)
    rw [if_neg e,this,Bool.false_or]
  | map ents =>
   dsimp only
   by_cases e : i = a
   ·subst e; rw [ha]
   ·have : Nat.beq i a = false := by rw [Bool.eq_false_iff]; intro hb; exact e (Nat.eq_of_beq_eq_true hb)
    rw [this,Bool.false_or]
  | set keys =>
   dsimp only
   by_cases e : i = a
   ·subst e; rw [ha]
   ·have : Nat.beq i a = false := by rw [Bool.eq_false_iff]; intro hb; exact e (Nat.eq_of_beq_eq_true hb)
    rw [this,Bool.false_or]
  | dead =>
   dsimp only
   by_cases e : i = a
   ·subst e; rw [ha]
   ·have : Nat.beq i a = false := by rw [Bool.eq_false_iff]; intro hb; exact e (Nat.eq_of_beq_eq_true hb)
    rw [this,Bool.false_or]
def Zyg (pc : List AV -> Option PRes) (args : List AV) (σ : St) (K : AV -> St -> Prop) : Prop :=
 Got (Zar σ.get args) fun p => Got (pc p.1) fun res =>
  match p.2 with
  | [] => K (Zi (fun j => σ.next + j) res.v) (Zeu σ res.blks)
  | a :: l => match Xw res.v,res.blks with
   | true,[] => K res.v σ
   | _,_ => cond (mutL σ.get (a :: l)) (K (Zi (fun j => σ.next + j) res.v) (Zeu (Uw σ (a :: l)) res.blks)) False
theorem Us (H : HR B w0 I0 pr r I D h n w) {args args' : List AV} {l : List Nat} {vs : Array Value} (hv : VRs r I w D args vs) (ha : Zar h args = some (args',l)) : VRs r0 (Vv r I h l) w (fun _ => False) args' vs := by
 have := Zva H (J := Vv r I h l) (fun b o hi => .inl hi) args (vs := vs.toList) (by simpa using hv.1) (fun i c v hc hv' => hv.2 i c v hc (by simpa using hv')) ha
  (fun id hid es elems mt pu hr i e j c hi hj => .inr ⟨id,hid,es,elems,mt,pu,i,e,j,c,hr,hi,hj,rfl,rfl⟩)
 exact ⟨by rw [this.1]; simp,fun i c v hc hv' => this.2 i c v hc (by simpa using hv')⟩
theorem Zfp (r : Locs) (I : Imm) (h : Nat -> ABlk) : Vv r I h [] = I := by
 funext b o
 simp [Vv]
theorem Zbg {pc : List AV -> Option PRes} {f : FuncId} (hpc : ∀ args res,pc args = some res -> PCall P f args res) {args : List AV} {σ : St} {K : AV -> St -> Prop} (hc : Zyg pc args σ K) : FnOK P f /\ SemCall P f args σ K := by
 obtain ⟨⟨args',l⟩,ha,hc⟩ := Got.cases hc
 obtain ⟨res,hres,hc⟩ := Got.cases hc
 obtain ⟨hfn,hcall⟩ := hpc args' res hres
 refine ⟨hfn,fun B w0 I0 pr r I D w vs H hv => ?_⟩
 have hargs := Us H hv ha
 refine (hcall _ w vs (Zel H l) hargs).mono fun e w' hh => ?_
 obtain ⟨x,r',I',rfl,hp⟩ := hh
 have hfresh : ∀ j,¬ D (σ.next + j) := fun j hd => by have := (H.dom _ hd).1; omega
 have gen : ∀ (hm : ∀ id ∈ l,∃ es elems pu,σ.get id = .row es elems true pu) (σ2 : St),σ2.get = froz σ.get l -> σ2.next = σ.next -> K (Zi (fun j => σ.next + j) res.v) (Zeu σ2 res.blks) ->
   ∃ x_1 v σ' r' I' D',Ending.returned x = .returned x_1 /\ K v σ' /\ HR B w0 I0 pr r' I' D' σ'.get σ'.next w' /\ VR r' I' w' D' v x_1 /\ Step r D I w r' D' I' w' := by
  intro hm σ2 h2 h3 hk
  obtain ⟨H1,S1⟩ := H.froz hm
  obtain ⟨r2,D2,_,H2,S2,V2⟩ := H1.call (k := σ.next) (n' := σ.next + res.blks.length) hp (fun j _ => hfresh j) (by omega) (Nat.le_refl _)
  refine ⟨x,_,_,r2,I',D2,rfl,hk,?_,V2,S1.trans S2⟩
  rw [Zkb,Zhp,h2,h3]
  exact H2
 dsimp only at hc
 cases l with
 | nil =>
  refine gen (fun id hid => by simp at hid) σ ?_ rfl hc
  funext i; simp only [froz,froz.memL,Bool.not_false,Bool.and_true]; cases σ.get i <;> rfl
 | cons a l =>
  dsimp only at hc
  have frozen : (cond (mutL σ.get (a :: l)) (K (Zi (fun j => σ.next + j) res.v) (Zeu (Uw σ (a :: l)) res.blks)) False) ->
   ∃ x_1 v σ' r' I' D',Ending.returned x = .returned x_1 /\ K v σ' /\ HR B w0 I0 pr r' I' D' σ'.get σ'.next w' /\ VR r' I' w' D' v x_1 /\ Step r D I w r' D' I' w' := by
   intro hk
   cases hm : mutL σ.get (a :: l) with
   | false => rw [hm] at hk; exact hk.elim
   | true =>
    rw [hm] at hk
    exact gen (Zf8 hm) _ (Zem _ _) (Zcs _ _) hk
  split at hc
  ·rename_i hs hb
   have V := hp.val.scalar hs r' I w' (fun i => i < ([] : List (Nat × List (List AV))).length)
   have hp2 : PPost I w I w' r' ⟨res.v,[]⟩ x := ⟨hp.below,fun _ _ h => h,fun _ _ h => .inl h,fun b o hi => Nat.lt_of_lt_of_le (H.imm b o hi) hp.below.size,fun j p hj => by simp at hj,fun j j' hj => by simp at hj,V⟩
   obtain ⟨r2,D2,_,H2,S2,V2⟩ := H.call (k := σ.next) (n' := σ.next) hp2 (fun j hj => by simp at hj) (Nat.le_refl _) (by simp)
   refine ⟨x,res.v,σ,r2,I,D2,rfl,hc,?_,hp.val.scalar hs _ _ _ _,S2⟩
   have : Xk σ.get σ.next (PRes.mk res.v []).blks = σ.get := by funext i; simp only [Xk,List.getElem?_nil]; split <;> rfl
   rwa [this] at H2
  ·exact frozen hc
def listed : List Nat -> Nat -> Nat
 | [],_ => 0
 | a :: _,0 => a
 | _ :: l,j + 1 => listed l j
def Zc0 (res : PRes) (v : AV) (σ : St) : Prop :=
 ∃ ids : List Nat,ids.Nodup /\ ids.length = res.blks.length /\ v = Zi (listed ids) res.v /\ ∀ j p,res.blks[j]? = some p -> σ.get (listed ids j) = .row p.1 p.2 true true
theorem Zox {v : AV} {σ : St} (h : Zi (listed []) v = v) : Zc0 ⟨v,[]⟩ v σ := ⟨[],.nil,rfl,h.symm,fun j p hj => by simp at hj⟩
theorem Zb2 : ∀ (l : List Nat) (j : Nat),j < l.length -> l[j]? = some (listed l j)
 | [],j,h => by simp at h
 | a :: l,0,_ => rfl
 | a :: l,j + 1,h => by simp [listed,Zb2 l j (by simpa using h)]
mutual
def Vf (m : Nat) : AV -> Bool
 | .ptr id _ _ | .asl id _ _ | .bsl id _ _ _ _ | .amap id => Nat.blt id m
 | .func _ c0 c1 => Vx m c0 && Vx m c1
 | .agg cs => Vx m cs
 | .tup cs => Vx m cs
 | _ => true
def Vx (m : Nat) : List AV -> Bool
 | [] => true
 | c :: cs => Vf m c && Vx m cs
end
mutual
theorem VR.unren {f : Nat -> Nat} {D' : Nat -> Prop} {m : Nat} (hf : ∀ j,j < m -> D' j /\ r' j = r (f j)) : ∀ (v : AV) {x : Value},VR r I w D (Zi f v) x -> Vf m v = true -> VR r' I w D' v x
 | .any,x,hv,hm => .any _ _
 | .bool _,x,hv,hm => by simp only [Zi] at hv; cases hv; exact .bool _ _
 | .int _ _,x,hv,hm => by simp only [Zi] at hv; cases hv; exact .int _ _ _
 | .flt _ _,x,hv,hm => by simp only [Zi] at hv; cases hv; exact .flt _ _ _
 | .cpx _ _ _,x,hv,hm => by simp only [Zi] at hv; cases hv; exact .cpx _ _ _ _
 | .val _ _ _,x,hv,hm => by simp only [Zi] at hv; cases hv; exact .val _ _ _ _
 | .str _,x,hv,hm => by simp only [Zi] at hv; cases hv; exact .str _ _
 | .ptr id idx sub,x,hv,hm => by
  simp only [Vf,Nat.blt_eq] at hm
  obtain ⟨h1,h2⟩ := hf id hm
  simp only [Zi] at hv; cases hv; rw [<-h2]; exact .ptr _ _ _ _ h1
 | .ipt cells,x,hv,hm => by simp only [Zi] at hv; exact (hv.pure rfl).mono ⟨fun _ h => h.elim,fun _ _ hi => ⟨hi,rfl⟩,Nat.le_refl _⟩
 | .nilp,x,hv,hm => by simp only [Zi] at hv; cases hv; exact .nilp _
 | .nils,x,hv,hm => by simp only [Zi] at hv; cases hv; exact .nils _
 | .asl id idx len,x,hv,hm => by
  simp only [Vf,Nat.blt_eq] at hm
  obtain ⟨h1,h2⟩ := hf id hm
  simp only [Zi] at hv
  cases hv with
  | asl _ _ _ _ hd hc => rw [<-h2] at hc; rw [<-h2]; exact .asl _ _ _ _ h1 hc
 | .bsl id idx sub len cap,x,hv,hm => by
  simp only [Vf,Nat.blt_eq] at hm
  obtain ⟨h1,h2⟩ := hf id hm
  simp only [Zi] at hv; cases hv; rw [<-h2]; exact .bsl _ _ _ _ _ _ h1
 | .isl es elems,x,hv,hm => by simp only [Zi] at hv; exact (hv.pure rfl).mono ⟨fun _ h => h.elim,fun _ _ hi => ⟨hi,rfl⟩,Nat.le_refl _⟩
 | .amap id,x,hv,hm => by
  simp only [Vf,Nat.blt_eq] at hm
  obtain ⟨h1,h2⟩ := hf id hm
  simp only [Zi] at hv; cases hv; rw [<-h2]; exact .amap _ _ h1
 | .func g c0 c1,x,hv,hm => by
  simp only [Vf,Bool.and_eq_true] at hm
  simp only [Zi] at hv
  cases hv with
  | func _ _ _ _ v0 v1 h0 h1 g0 g1 =>
   exact .func _ _ _ _ _ _ (by rw [Zz] at h0; exact h0) (by rw [Zz] at h1; exact h1) (VR.unrenL hf c0 g0 hm.1) (VR.unrenL hf c1 g1 hm.2)
 | .yld _,x,hv,hm => by simp only [Zi] at hv; cases hv; exact .yld _ _
 | .agg cs,x,hv,hm => by
  simp only [Vf] at hm
  simp only [Zi] at hv
  cases hv with
  | agg _ _ vs h0 g => exact .agg _ _ _ (by rw [Zz] at h0; exact h0) (VR.unrenL hf cs g hm)
 | .tup cs,x,hv,hm => by
  simp only [Vf] at hm
  simp only [Zi] at hv
  cases hv with
  | tup _ _ vs h0 g => exact .tup _ _ _ (by rw [Zz] at h0; exact h0) (VR.unrenL hf cs g hm)
theorem VR.unrenL {f : Nat -> Nat} {D' : Nat -> Prop} {m : Nat} (hf : ∀ j,j < m -> D' j /\ r' j = r (f j)) : ∀ (cs : List AV) {vs : Array Value},(∀ (i : Nat) (c : AV) (v : Value),(renL f cs)[i]? = some c -> vs[i]? = some v -> VR r I w D c v) -> Vx m cs = true ->
  ∀ (i : Nat) (c : AV) (v : Value),cs[i]? = some c -> vs[i]? = some v -> VR r' I w D' c v
 | [],vs,g,hm,i,c,v,hc,hv => by simp at hc
 | a :: cs,vs,g,hm,0,c,v,hc,hv => by
  simp only [Vx,Bool.and_eq_true] at hm
  simp only [List.getElem?_cons_zero,Option.some.injEq] at hc
  subst hc
  exact VR.unren hf a (g 0 _ v (by simp [renL]) hv) hm.1
 | a :: cs,vs,g,hm,i + 1,c,v,hc,hv => by
  simp only [Vx,Bool.and_eq_true] at hm
  refine VR.unrenL hf cs (vs := vs.extract 1 vs.size) (fun j c' v' hc' hv' => ?_) hm.2 i c v (by simpa using hc) ?_
  ·refine g (j + 1) c' v' (by simpa [renL] using hc') ?_
   rw [Array.getElem?_extract] at hv'
   split at hv'
   ·rwa [Nat.add_comm 1 j] at hv'
   ·cases hv'
  ·rw [Array.getElem?_extract,if_pos]
   ·rwa [Nat.add_comm 1 i]
   ·have := (Array.getElem?_eq_some_iff.1 hv).1; omega
end
theorem Zmj {cx : Cx} (hcx : CxOK P cx) {hd : Nat -> Hd} (hhd : ∀ N,HdOK P N (hd N)) {f : FuncId} {fn : Func} (hf : P.funcs[f]? = some fn) (hfn : FnOK P f) {args : List AV} {res : PRes} (hids : Vf res.blks.length res.v = true)
  (hv : Zhs cx hd fn args ⟨[],0⟩ (Zc0 res)) : PCall P f args res := by
 refine ⟨hfn,fun I w vs hI hargs => ?_⟩
 have H : HR w.heap.size w I (fun _ _ => False) r0 I (fun _ => False) (St.get ⟨[],0⟩) 0 w :=
  ⟨Below.refl _ _,Nat.le_refl _,hI,fun _ h => h.elim,fun id h => by simp [St.get,hget,ABlk.live] at h,fun id => by simp [St.get,hget,BlkOK],fun id id' h => by simp [St.get,hget,ABlk.live] at h,fun _ _ h => h.elim,fun _ _ h => h.elim,fun _ _ h => .inl h⟩
 refine (Zm2 hcx hhd hf hv w.heap.size w I (fun _ _ => False) r0 I (fun _ => False) w vs H hargs).mono fun e w' hh => ?_
 obtain ⟨x,v,σ',r',I',D',rfl,⟨ids,hnd,hlen,hren,hrows⟩,H',V',S'⟩ := hh
 refine ⟨x,fun j => r' (listed ids j),I',rfl,H'.below,fun b o h => (S'.imm b o h).1,H'.immB,H'.imm,fun j p hj => ?_,fun j j' h1 h2 hne => ?_,?_⟩
 ·have hr := hrows j p hj
  have hB := H'.blk (listed ids j)
  have hl : (σ'.get (listed ids j)).live = true := by rw [hr]; rfl
  have hd := H'.live _ hl
  rw [hr] at hB
  obtain ⟨g1,g2,g3,cs,T,fz,g4,g5,g6,g7,g8⟩ := hB
  refine ⟨(g7 rfl).1,(H'.dom _ hd).2,g1,g2,g3,cs,T,fz,g4,g5,fun i e j' c hi hj' => ?_,fun _ => g7 rfl,by simp⟩
  obtain ⟨u,a,b⟩ := g6 i e j' c hi hj'
  exact ⟨u,a,b.mono ⟨fun _ h => by simp at h,fun _ _ h => ⟨h,rfl⟩,Nat.le_refl _⟩⟩
 ·have h1' : j < ids.length := by omega
  have h2' : j' < ids.length := by omega
  have e1 := hrows j _ (List.getElem?_eq_getElem h1)
  have e2 := hrows j' _ (List.getElem?_eq_getElem h2)
  refine H'.inj _ _ (by rw [e1]; rfl) (by rw [e2]; rfl) (fun e => hne ?_)
  have q1 := Zb2 ids j h1'
  have q2 := Zb2 ids j' h2'
  rw [e] at q1
  exact (List.getElem?_inj h1' hnd).1 (q1.trans q2.symm)
 ·rw [hren] at V'
  exact VR.unren (r := r') (f := listed ids) (D' := fun i => i < res.blks.length) (fun j hj => ⟨hj,rfl⟩) res.v V' hids
end Go.Sx
