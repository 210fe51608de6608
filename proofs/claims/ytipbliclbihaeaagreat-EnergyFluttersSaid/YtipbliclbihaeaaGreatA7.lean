/- A part of the proof: lemmas. -/
import Derived.Test.YtipbliclbihaeaaGreatA6
import Derived.JoinedOf
import Derived.Laws.FloatArith
import Derived.TacticsIn
set_option linter.unusedVariables false
set_option linter.unusedSimpArgs false
set_option maxRecDepth 100000
set_option maxHeartbeats 16000000
open Bool renaming and_eq_true->Qc,false_eq_true->Rh,toNat_false->Fl
open Go.Cell renaming ok->Di,okWide->Km
open Go.DataW renaming TrodAll->Nn
open Go.Lit renaming int->Dh
open Go.Sx.Got renaming intro->Sl
open Go.Sx.St renaming get->Po
open Go.Value renaming okWide->Lt
open List renaming all_eq_true->Rb
open Nat renaming add_zero->Pc,beq->Qm,beq_refl->Ls,ble->Sa,ble_eq_true_of_le->Ot,blt_eq->Sf,div_eq_of_lt->Wm,div_le_div_left->Ni,div_lt_of_lt_mul->Wn,eq_of_beq_eq_true->Qe,le_div_iff_mul_le->Mm,le_log2->Fu,le_of_ble_eq_true->Qk,le_refl->Qf,le_trans->Rt,log2_self_le->Je,lt_of_lt_of_le->Rp,lt_or_ge->Ok,min_eq_left->Wd,min_eq_right->Jd,mod_eq_of_lt->Pl,mod_lt->Wu,mul_add_div->Ju,mul_comm->Wb,mul_le_mul->Tz,mul_le_mul_left->Hs,mul_le_mul_right->Rf,mul_lt_mul_of_pos_right->Wp,one_shiftLeft->Mj,pow_add->Na,pow_le_pow_right->Rz,pow_pos->Ma,shiftLeft_eq->Pn,shiftLeft_zero->Wj
namespace Go.Sx
open Go Go.RowKit Go.ChangeShapes
def WTA (T:Tab) (t:TypeId) (a:AV):Prop:=∀ n,∃ m aZ,WT T (m+n) t aZ/\match T t with
 | some ti=>match ti.desc with
  | .struct _=>a = .agg aZ
  | .array _ _=>a = .agg aZ
  | _=>aZ=[a]
 | none=>False
def WTs (T:Tab):List TypeId->List AV->Prop
 | [],[]=>True
 | t::ts,a::aZ=>WTA T t a/\WTs T ts aZ
 | _,_=>False
section
variable {H:Type} {enc:TypeId × Value->H} {P:Program} {w:World} {spare:Nat->Bool} {held:Bool}
theorem Zky {T:Tab}:∀ (d:Nat) {t:TypeId} {aZ:List AV},WT T d t aZ->WT T (d+1) t aZ
 | 0,t,aZ,h=>h.elim
 | d+1,t,aZ,h=>by
  unfold WT at h ⊢
  cases ht:T t with
  | none=>rw [ht] at h; exact h.elim
  | some ti =>
   rw [ht] at h
   dsimp only at h ⊢
   cases hd:ti.desc with
   | bool=>rw [hd] at h; exact h
   | int k=>rw [hd] at h; exact h
   | float k=>rw [hd] at h; exact h
   | string=>rw [hd] at h; exact h
   | slice e =>
    rw [hd] at h
    dsimp only at h ⊢
    cases he:T e with
    | none=>rw [he] at h; exact h.elim
    | some te=>rw [he] at h; obtain ⟨els,e1,e2,e3⟩:=h; exact ⟨els,e1,e2,fun x hx=>Zky d (e3 x hx)⟩
   | struct fs =>
    rw [hd] at h
    dsimp only at h ⊢
    refine ⟨h.1,fun f hf=>?_⟩
    have:=h.2 f hf
    cases he:T f.type with
    | none=>rw [he] at this; exact this.elim
    | some tf=>rw [he] at this; exact Zky d this
   | array n e =>
    rw [hd] at h
    dsimp only at h ⊢
    cases he:T e with
    | none=>rw [he] at h; exact h.elim
    | some te=>rw [he] at h; exact ⟨h.1,fun i hi=>Zky d (h.2 i hi)⟩
   | _=>rw [hd] at h; exact h.elim
theorem Zts {T:Tab} (hT:TabOK P T) {S:List TypeId} (hS:S.all (Zh7 T S)=true) {t:TypeId} {v:Value} {d:DataW H} {p:List MemPlace} {r:Reach} {b0:Nat} (hm:memN S t=true) (hv:Lt P w r b0 t v)
  (h:DataW.Trod enc P w 0 spare held t v d p):∃ a:AV,VR r0 (Im0 w) w (fun _=>False) a v/\WTA T t a:=by
 have hs:=Rb.1 hS t (Zbn hm)
 unfold Zh7 at hs
 cases ht:T t with
 | none=>rw [ht] at hs; cases hs
 | some ti =>
  rw [ht] at hs
  dsimp only at hs
  have hu:=hT.und t ti ht
  obtain ⟨fuel,hf⟩:=h
  have hop:=fun n=>Zdo hT hS (fuel+n) t _ _ hm (DataW.trod_le (Nat.le_add_right fuel n) hf)
  obtain ⟨aZ,h1,h2,h3⟩:=hop 0
  have hwt:∀ n,WT T (fuel+n) t aZ:=by
   intro n
   induction n with
   | zero=>exact h3
   | succ n ih=>exact Zky _ ih
  clear hop hf
  have agg:(∃ cs,v = .agg cs)->∃ a:AV,VR r0 (Im0 w) w (fun _=>False) a v/\a = .agg aZ:=by
   rintro ⟨cs,rfl⟩
   exact ⟨.agg aZ,.agg _ _ _ (by simpa [Value.cells] using h1.symm) (fun i c x hc hx=>h2 i c x hc (by simpa [Value.cells] using hx)),rfl⟩
  have one:(∀ cs,v ≠ .agg cs)->∃ a:AV,VR r0 (Im0 w) w (fun _=>False) a v/\aZ=[a]:=by
   intro hn
   have e:v.cells.toList=[v]:=by cases v<;>first|rfl|(rename_i cs; exact (hn cs rfl).elim)
   rw [e] at h1 h2
   simp only [List.length_cons,List.length_nil] at h1
   obtain ⟨c,rfl⟩:=List.length_eq_one_iff.1 h1
   exact ⟨c,h2 0 c v rfl rfl,rfl⟩
  unfold Lt at hv
  rw [hu] at hv
  cases hd:ti.desc with
  | bool =>
   rw [hd] at hv hu
   obtain ⟨a,h4,h5⟩:=one (fun cs e=>by subst e; simp [Km,Di,hu] at hv)
   exact ⟨a,h4,fun n=>⟨fuel,aZ,hwt n,by rw [ht]; dsimp only; rw [hd]; exact h5⟩⟩
  | int k =>
   rw [hd] at hv hu
   obtain ⟨a,h4,h5⟩:=one (fun cs e=>by subst e; simp [Km,Di,hu] at hv)
   exact ⟨a,h4,fun n=>⟨fuel,aZ,hwt n,by rw [ht]; dsimp only; rw [hd]; exact h5⟩⟩
  | float k =>
   rw [hd] at hv hu
   obtain ⟨a,h4,h5⟩:=one (fun cs e=>by subst e; simp [Km,Di,hu] at hv)
   exact ⟨a,h4,fun n=>⟨fuel,aZ,hwt n,by rw [ht]; dsimp only; rw [hd]; exact h5⟩⟩
  | string =>
   rw [hd] at hv hu
   obtain ⟨a,h4,h5⟩:=one (fun cs e=>by subst e; simp [Km,Di,hu] at hv)
   exact ⟨a,h4,fun n=>⟨fuel,aZ,hwt n,by rw [ht]; dsimp only; rw [hd]; exact h5⟩⟩
  | slice e =>
   rw [hd] at hv hu
   obtain ⟨a,h4,h5⟩:=one (fun cs e=>by subst e; simp [Km,Di,hu] at hv)
   exact ⟨a,h4,fun n=>⟨fuel,aZ,hwt n,by rw [ht]; dsimp only; rw [hd]; exact h5⟩⟩
  | struct fs =>
   rw [hd] at hv hu
   obtain ⟨cs,hcs,_⟩:=hv
   obtain ⟨a,h4,h5⟩:=agg ⟨cs,hcs⟩
   exact ⟨a,h4,fun n=>⟨fuel,aZ,hwt n,by rw [ht]; dsimp only; rw [hd]; exact h5⟩⟩
  | array n e =>
   rw [hd] at hv hu
   obtain ⟨cs,hcs,_⟩:=hv
   obtain ⟨a,h4,h5⟩:=agg ⟨cs,hcs⟩
   exact ⟨a,h4,fun n=>⟨fuel,aZ,hwt n,by rw [ht]; dsimp only; rw [hd]; exact h5⟩⟩
  | _=>rw [hd] at hs; cases hs
theorem Zkc {T:Tab} (hT:TabOK P T) {S:List TypeId} (hS:S.all (Zh7 T S)=true) {r:Reach} {b0:Nat}:∀ (ts:List TypeId) (vs:List Value) (ds:List (DataW H)) (p:List MemPlace),(∀ t∈ts,memN S t=true)->(∀ (j:Nat) t v,ts[j]?=some t->vs[j]?=some v->Lt P w r b0 t v) ->
  Nn enc P w 0 spare held ts vs ds p->∃ aZ:List AV,VRs r0 (Im0 w) w (fun _=>False) aZ vs.toArray/\WTs T ts aZ
 | [],vs,ds,p,_,_,h=>by
  obtain ⟨rfl,rfl,rfl⟩:=trodAll_nil h
  exact ⟨[],⟨rfl,fun i c v hc=>by simp at hc⟩,trivial⟩
 | t::ts,vs,ds,p,hm,hv,h=>by
  obtain ⟨v,vs',d,ds',q,q',rfl,rfl,rfl,hd,hr⟩:=trodAll_cons h
  obtain ⟨a,ha,hw⟩:=Zts hT hS (hm t (by simp)) (hv 0 t v rfl rfl) hd
  obtain ⟨aZ,hs,hws⟩:=Zkc hT hS ts vs' ds' q' (fun t' ht'=>hm t' (by simp [ht'])) (fun j t' v' h1 h2=>hv (j+1) t' v' (by simpa using h1) (by simpa using h2)) hr
  refine ⟨a::aZ,⟨by simpa using hs.1,fun i c x hc hx=>?_⟩,hw,hws⟩
  cases i with
  | zero=>simp at hc hx; subst hc; subst hx; exact ha
  | succ i=>exact hs.2 i c x (by simpa using hc) (by simpa using hx)
theorem Zxi {T:Tab} (hT:TabOK P T) {S:List TypeId} (hS:S.all (Zh7 T S)=true) {f:FuncId} {ts:List TypeId} (hm:ts.all (memN S)=true) (hlaw:∀ aZ,WTs T ts aZ->PCall P f aZ ⟨.bool true,[]⟩) {r:Reach} {b0:Nat} {vs:Array Value} {ds:List (DataW H)} {p:List MemPlace}
  (hv:∀ (j:Nat) t v,ts[j]?=some t->vs[j]?=some v->Lt P w r b0 t v) (h:Nn enc P w 0 spare held ts vs.toList ds p):Calls P f vs w fun e w'=>e = .returned (.bool true)/\Below w.heap.size w w':=by
 obtain ⟨aZ,h1,h2⟩:=Zkc hT hS ts vs.toList ds p (fun t ht=>Rb.1 hm t ht) (fun j t v a b=>hv j t v a (by simpa using b)) h
 refine callsIn_wide.1 (((hlaw aZ h2).2 (Im0 w) w vs (fun b o h=>h) (by simpa using h1)).mono fun e w' hh=>?_)
 obtain ⟨x,r',I',rfl,hp⟩:=hh
 have hval:=hp.val
 cases hval
 exact ⟨rfl,hp.below⟩
theorem Zqn (hl:laidOutB P=true) {w' : World} (bel:Below w.heap.size w w'):∀ (ts:List TypeId) (vs:List Value) (ds:List (DataW H)) (p:List MemPlace),ts.all (fun t=>P.readableRec t&&decide (t<P.types.size))=true ->
  Nn enc P w 0 (fun _=>true) true ts vs ds p->(∀ x∈p,x.block<w.heap.size)->∃ q,Nn enc P w' 0 (fun b=>decide (b<w.heap.size)) true ts vs ds q
 | [],vs,ds,p,_,h,_=>by
  obtain ⟨rfl,rfl,rfl⟩:=trodAll_nil h
  exact ⟨[],trodAll_mk0⟩
 | t::ts,vs,ds,p,ht,h,hlt=>by
  obtain ⟨v,vs',d,ds',q,q',rfl,rfl,rfl,hd,hr⟩:=trodAll_cons h
  simp only [List.all_cons,Qc,decide_eq_true_eq] at ht
  obtain ⟨q2,h2⟩:=Zqn hl bel ts vs' ds' q' ht.2 hr (fun x hx=>hlt x (by simp [hx]))
  exact ⟨_,trodAll_cons_mk (Below.trod hl ht.1.1 ht.1.2 hd bel (fun x hx=>hlt x (by simp [hx]))) h2⟩
theorem Zj5:∀ (ts:List TypeId) (vs:List Value) (ds:List (DataW H)) (p:List MemPlace),Nn enc P w 0 spare held ts vs ds p->∀ x∈p,x.block<w.heap.size
 | [],vs,ds,p,h,x,hx=>by obtain ⟨rfl,rfl,rfl⟩:=trodAll_nil h; simp at hx
 | t::ts,vs,ds,p,h,x,hx=>by
  obtain ⟨v,vs',d,ds',q,q',rfl,rfl,rfl,hd,hr⟩:=trodAll_cons h
  rcases List.mem_append.1 hx with hx|hx
  ·obtain ⟨m,hm⟩:=hd; exact DataW.trod_lt m _ _ _ hm x hx
  ·exact Zj5 ts vs' ds' q' hr x hx
theorem Zr4 {C:Checked} {os:Os} (started:os.Started) {f:FuncId} {fn:Func} {s:ChangeSpec} {bt:TypeId}
  (own:ownKnob C.prog.godebug=none) (laid:laidOutB C.prog=true) (noInit:C.prog.inits.idxOf? f=none) (hfn:C.prog.funcs[f]?=some fn)
  {T:Tab} (hT:TabOK C.prog T) {S:List TypeId} (hS:S.all (Zh7 T S)=true) (hm:fn.params.toList.all (memN S)=true) (hread:fn.params.toList.all (fun t=>C.prog.readableRec t&&decide (t<C.prog.types.size))=true)
  (hvars:s.vars=[]) (hres:fn.resultTypes = #[bt]) (hbt:C.prog.underlying bt=some .bool)
  (hsp:∀ ds:List (DataW H),ds.length=fn.params.toList.length->s.fn H ds = { results:=[.lit (.bool true)],args:=ds,vars:=[] })
  (hlaw:∀ aZ,WTs T fn.params.toList aZ->PCall C.prog f aZ ⟨.bool true,[]⟩) {conds:List PathCond}
  (witness:∃ (w:World) (tape:Tape) (i:Input),w.os=os/\(w.forCall tape i).Shaped C.prog/\i.vars=[]/\Input.okWide C.prog (w.forCall tape i) .any w.heap.size f i /\
   s.pre6 enc C.prog fn conds false (w.forCall tape i).memory i.args/\({}:Assume).holds C.prog (lone (Frame.enter C.prog f i.args .normal) [] (w.forCall tape i))) :
  ReturnsInHanded {} C os f .any (s.pre6 enc C.prog fn conds false) (s.post enc C.prog fn false true false false):=by
 refine returnsInHanded_of_change own started noInit hfn witness ?_
 intro W base args ds gs before hval0 hW hcnd _
 have hval:∀ (j:Nat) t v,fn.params.toList[j]?=some t->args[j]?=some v->Lt C.prog W .any base t v:=fun j t v a b=>hval0 j t v (by simpa using a) b
 have hW':=hW
 obtain ⟨p,q,hA,hV,rfl,hfz,hnd⟩:=hW
 rw [hvars] at hV
 obtain ⟨rfl,rfl⟩:=trodVars_none hV
 have hlen:∀ (ts:List TypeId) (vs:List Value) (ds:List (DataW H)) (p:List MemPlace),Nn enc C.prog W 0 (fun _=>true) true ts vs ds p->ds.length=ts.length:=by
  intro ts
  induction ts with
  | nil=>intro vs ds p h; obtain ⟨rfl,rfl,rfl⟩:=trodAll_nil h; rfl
  | cons t ts ih=>intro vs ds p h; obtain ⟨v,vs',d,ds',q,q',rfl,rfl,rfl,hd,hr⟩:=trodAll_cons h; simp [ih _ _ _ hr]
 refine (Zxi hT hS hm hlaw hval hA).mono fun e W' hh=>?_
 obtain ⟨he,bel⟩:=hh
 subst he
 obtain ⟨q2,hq2⟩:=Zqn laid bel _ _ _ _ hread hA (Zj5 _ _ _ _ hA)
 have hsp':=hsp (ds++[]) (by rw [List.append_nil]; exact hlen _ _ _ _ hA)
 refine ⟨_,rfl,ds,[],_,[],q2,[],hW',?_,?_,?_,bel.frame _,fun h=>by cases h⟩
 ·rw [hsp',hres]; exact trodAll_mk1 (shut_bool hbt _)
 ·rw [hsp']; simpa using hq2
 ·rw [hsp',hvars]; rfl
end
open Go Go.RowKit
variable {T:Tab} {d:Nat} {t:TypeId} {aZ:List AV}
theorem Zyk {ti:TI} {k:IntKind} (ht:T t=some ti) (hd:ti.desc = .int k) (h:WT T (d+1) t aZ):∃ n,aZ=[.int k n]/\(Dh k n).wf=true:=by
 unfold WT at h; rw [ht] at h; dsimp only at h; rw [hd] at h; exact h
theorem Ybt {ti:TI} (ht:T t=some ti) (hd:ti.desc = .string) (h:WT T (d+1) t aZ):∃ s,aZ=[.str s]/\s.size<=maxLen:=by
 unfold WT at h; rw [ht] at h; dsimp only at h; rw [hd] at h; exact h
theorem Zdn {ti te:TI} {e:TypeId} (ht:T t=some ti) (hd:ti.desc = .slice e) (he:T e=some te) (h:WT T (d+1) t aZ):∃ els,aZ=[.isl te.size els]/\els.length<=maxLen/\∀ x∈els,WT T d e x:=by
 unfold WT at h; rw [ht] at h; dsimp only at h; rw [hd] at h; dsimp only at h; rw [he] at h; exact h
theorem Xz {ti:TI} {fs:Array Field} (ht:T t=some ti) (hd:ti.desc = .struct fs) (h:WT T (d+1) t aZ):aZ.length=ti.size/\∀ f∈fs.toList,∃ tf,T f.type=some tf/\WT T d f.type ((aZ.drop f.offset).take tf.size):=by
 unfold WT at h; rw [ht] at h; dsimp only at h; rw [hd] at h; dsimp only at h
 refine ⟨h.1,fun f hf=>?_⟩
 have:=h.2 f hf
 cases hq:T f.type with
 | none=>rw [hq] at this; exact this.elim
 | some tf=>rw [hq] at this; exact ⟨tf,rfl,this⟩
theorem Zwe {ti te:TI} {n:Nat} {e:TypeId} (ht:T t=some ti) (hd:ti.desc = .array n e) (he:T e=some te) (h:WT T (d+1) t aZ):aZ.length=ti.size/\∀ i,i<n->WT T d e ((aZ.drop (i*te.size)).take te.size):=by
 unfold WT at h; rw [ht] at h; dsimp only at h; rw [hd] at h; dsimp only at h; rw [he] at h; exact h
theorem Zok {a:AV} {ti:TI} (h:WTA T t a) (ht:T t=some ti) {fs:Array Field} (hd:ti.desc = .struct fs) (n:Nat):∃ aZ m,a = .agg aZ/\WT T (m+n+1) t aZ:=by
 obtain ⟨m,aZ,hm,ha⟩:=h (n+1)
 rw [ht] at ha; dsimp only at ha; rw [hd] at ha
 exact ⟨aZ,m,ha,by rw [Nat.add_assoc]; exact hm⟩
def Zxm (T:Tab) (n:Nat):Nat->List Field->Bool
 | i,[]=>Qm i n
 | i,f::fs=>Qm f.offset i&&(match T f.type with
  | some tf=>Qm tf.size 1&&(match tf.desc with
   | .int .i64=>true
   | _=>false)
  | none=>false)&&Zxm T n (i+1) fs
theorem Zhx {n:Nat} (hl:aZ.length=n):∀ (fs:List Field) (i:Nat),Zxm T n i fs=true->(∀ f∈fs,∃ tf,T f.type=some tf/\WT T (d+1) f.type ((aZ.drop f.offset).take tf.size))->∃ ns:List Int,aZ.drop i=ns.map (AV.int .i64)/\ns.length+i=n/\∀ x∈ns,(Dh .i64 x).wf=true
 | [],i,h,hf=>by
  have hi:=Qe h
  exact ⟨[],by simp [List.drop_eq_nil_iff]; omega,by simpa using hi,by simp⟩
 | f::fs,i,h,hf=>by
  simp only [Zxm,Qc] at h
  obtain ⟨⟨h1,h2⟩,h3⟩:=h
  obtain ⟨ns,g1,g2,g3⟩:=Zhx hl fs (i+1) h3 (fun g hg=>hf g (by simp [hg]))
  obtain ⟨tf,e1,e2⟩:=hf f (by simp)
  rw [e1] at h2
  simp only [Qc] at h2
  obtain ⟨h4,h5⟩:=h2
  have hk:tf.desc = .int .i64:=by split at h5<;>first|assumption|cases h5
  obtain ⟨x,q1,q2⟩:=Zyk e1 hk e2
  rw [Qe h4,Qe h1] at q1
  have hi:i<aZ.length:=by
   rcases Ok i aZ.length with hi|hi
   ·exact hi
   ·rw [List.drop_of_length_le hi] at q1; simp at q1
  refine ⟨x::ns,?_,by simp; omega,fun y hy=>?_⟩
  ·rw [List.drop_eq_getElem_cons hi] at q1 ⊢
   simp only [List.take_succ_cons,List.take_zero,List.cons.injEq,and_true] at q1
   rw [g1,q1]; rfl
  ·rcases List.mem_cons.1 hy with rfl|hy
   ·exact q2
   ·exact g3 y hy
theorem Zhy {ti:TI} {fs:Array Field} (ht:T t=some ti) (hd:ti.desc = .struct fs) (hi:Zxm T ti.size 0 fs.toList=true) (h:WT T (d+2) t aZ):∃ ns:List Int,aZ=ns.map (AV.int .i64)/\ns.length=ti.size/\∀ x∈ns,(Dh .i64 x).wf=true:=by
 obtain ⟨h1,h2⟩:=Xz ht hd h
 obtain ⟨ns,g1,g2,g3⟩:=Zhx h1 fs.toList 0 hi h2
 exact ⟨ns,by simpa using g1,by omega,g3⟩
variable {r r' : Locs} {I I' I2:Imm} {w w' : World} {P:Program}
mutual
def Frz (bl:List (Nat × List (List AV))):AV->AV->Prop
 | .asl id idx len,.isl es els=>bl[id]?=some (es,els)/\idx=0/\len=els.length
 | .nils,.isl _ els=>els=[]
 | .agg cs,.agg ds=>FrzL bl cs ds
 | .tup cs,.tup ds=>FrzL bl cs ds
 | v,v'=>v=v'/\Zz v=true
def FrzL (bl:List (Nat × List (List AV))):List AV->List AV->Prop
 | [],[]=>True
 | c::cs,d::ds=>Frz bl c d/\FrzL bl cs ds
 | _,_=>False
end
theorem FrzL.get {bl:List (Nat × List (List AV))}:∀ {cs ds:List AV},FrzL bl cs ds->cs.length=ds.length/\∀ (i:Nat) (d:AV),ds[i]?=some d->∃ c,cs[i]?=some c/\Frz bl c d
 | [],[],_=>⟨rfl,fun i d h=>by simp at h⟩
 | c::cs,d::ds,h=>by
  simp only [FrzL] at h
  obtain ⟨h1,h2⟩:=FrzL.get h.2
  refine ⟨by simp [h1],fun i d' hi=>?_⟩
  cases i with
  | zero=>simp at hi; subst hi; exact ⟨c,rfl,h.1⟩
  | succ i=>simpa using h2 i d' (by simpa using hi)
 | [],_::_,h=>by simp [FrzL] at h
 | _::_,[],h=>by simp [FrzL] at h
theorem Yc6 {bl:List (Nat × List (List AV))} {D:Nat->Prop} (hst:∀ b o,I' b o->I2 b o)
  (hrow:∀ (j es:Nat) (els:List (List AV)),bl[j]?=some (es,els)->∀ (x:Value),VR r' I' w' D (.asl j 0 els.length) x->VR r' I2 w' (fun _=>False) (.isl es els) x) {v:AV} {x:Value} (hv:VR r' I' w' D v x):∀ v',Frz bl v v'->VR r' I2 w' (fun _=>False) v' x:=by
 have pure:∀ {v:AV} {x:Value},VR r' I' w' D v x->∀ v',(v=v'/\Zz v=true)->VR r' I2 w' (fun _=>False) v' x:=by
  rintro v x hv v' ⟨rfl,hp⟩
  exact (hv.pure hp).mono ⟨fun _ h=>h.elim,fun b o h=>⟨hst b o h,rfl⟩,Qf _⟩
 induction hv with
 | agg D cs vs h0 g ih =>
  intro v' h
  cases v' with
  | agg ds =>
   simp only [Frz] at h
   obtain ⟨h1,h2⟩:=FrzL.get h
   refine .agg _ _ _ (h0.trans h1) fun i c v hc hx=>?_
   obtain ⟨c',hc',hf⟩:=h2 i c hc
   exact ih i c' v hc' hx hrow pure _ hf
  | _=>simp [Frz] at h
 | tup D cs vs h0 g ih =>
  intro v' h
  cases v' with
  | tup ds =>
   simp only [Frz] at h
   obtain ⟨h1,h2⟩:=FrzL.get h
   refine .tup _ _ _ (h0.trans h1) fun i c v hc hx=>?_
   obtain ⟨c',hc',hf⟩:=h2 i c hc
   exact ih i c' v hc' hx hrow pure _ hf
  | _=>simp [Frz] at h
 | asl D id idx len hd hc =>
  intro v' h
  have hv:VR r' I' w' D (.asl id idx len) _:=.asl D id idx len hd hc
  cases v' with
  | isl es els =>
   simp only [Frz] at h
   obtain ⟨h1,rfl,rfl⟩:=h
   exact hrow _ _ _ h1 _ hv
  | _=>exact pure hv _ (by simpa only [Frz] using h)
 | any D v=>intro v' h; exact pure (.any D v) v' (by cases v'<;>simpa only [Frz] using h)
 | bool D b=>intro v' h; exact pure (.bool D b) v' (by cases v'<;>simpa only [Frz] using h)
 | int D k n=>intro v' h; exact pure (.int D k n) v' (by cases v'<;>simpa only [Frz] using h)
 | flt D k n=>intro v' h; exact pure (.flt D k n) v' (by cases v'<;>simpa only [Frz] using h)
 | cpx D k n m=>intro v' h; exact pure (.cpx D k n m) v' (by cases v'<;>simpa only [Frz] using h)
 | val D a n c=>intro v' h; exact pure (.val D a n c) v' (by cases v'<;>simpa only [Frz] using h)
 | str D s=>intro v' h; exact pure (.str D s) v' (by cases v'<;>simpa only [Frz] using h)
 | ptr D id idx sub hd=>intro v' h; exact pure (.ptr D id idx sub hd) v' (by cases v'<;>simpa only [Frz] using h)
 | ipt D cells b o val h1 h2 ih=>intro v' h; exact pure (.ipt D cells b o val h1 h2) v' (by cases v'<;>simpa only [Frz] using h)
 | nilp D=>intro v' h; exact pure (.nilp D) v' (by cases v'<;>simpa only [Frz] using h)
 | nils D =>
  intro v' h
  cases v' with
  | isl es els =>
   simp only [Frz] at h
   subst h
   exact .isl0 _ _ _ _
  | _=>exact pure (.nils D) _ (by simpa only [Frz] using h)
 | bsl D id idx sub len cap hd=>intro v' h; exact pure (.bsl D id idx sub len cap hd) v' (by cases v'<;>simpa only [Frz] using h)
 | isl0 D es a cap=>intro v' h; exact pure (.isl0 D es a cap) v' (by cases v'<;>simpa only [Frz] using h)
 | isl D es elems b o cap val hl h0 h1 h2 ih=>intro v' h; exact pure (.isl D es elems b o cap val hl h0 h1 h2) v' (by cases v'<;>simpa only [Frz] using h)
 | amap D id hd=>intro v' h; exact pure (.amap D id hd) v' (by cases v'<;>simpa only [Frz] using h)
 | func D f c0 c1 v0 v1 h0 h1 g0 g1 ih0 ih1=>intro v' h; exact pure (.func D f c0 c1 v0 v1 h0 h1 g0 g1) v' (by cases v'<;>simpa only [Frz] using h)
 | yld D l=>intro v' h; exact pure (.yld D l) v' (by cases v'<;>simpa only [Frz] using h)
theorem PCall.freeze {f:FuncId} {args:List AV} {res:PRes} {v' : AV} (h:PCall P f args res) (hz:Frz res.blks res.v v'):PCall P f args ⟨v',[]⟩:=by
 refine ⟨h.1,fun I w vs hI hv=>(h.2 I w vs hI hv).mono fun e w' hh=>?_⟩
 obtain ⟨x,r',I',rfl,hp⟩:=hh
 let I2:Imm:=fun b o=>I' b o\/∃ (j:Nat) (p:Nat × List (List AV)),res.blks[j]?=some p/\b=(r' j).blk/\∃ (i:Nat) (e:List AV) (jj:Nat) (c:AV),p.2[i]?=some e/\e[jj]?=some c/\o=(r' j).off+i*p.1+jj
 have himm:∀ b o,I' b o->I2 b o:=fun b o h=>.inl h
 refine ⟨x,r',I2,rfl,hp.below,fun b o h=>.inl (hp.immL b o h),fun b o h=>?_,fun b o h=>?_,fun j p hj=>by simp at hj,fun j j' h1=>by simp at h1,?_⟩
 ·rcases h with h|⟨j,p,hj,rfl,_⟩
  ·exact hp.immN b o h
  ·exact .inr (hp.rows j p hj).1
 ·rcases h with h|⟨j,p,hj,rfl,_⟩
  ·exact hp.immS b o h
  ·exact (hp.rows j p hj).2.1
 ·refine (Yc6 (I2:=I2) himm (fun j es els hj y hy=>?_) hp.val _ hz).mono ⟨fun _ h=>h.elim,fun _ _ h=>⟨h,rfl⟩,Qf _⟩
  obtain ⟨hb1,hb2,⟨he1,he2⟩,hcap,hlen,cs,T,fz,hcells,hsz,hel,hmt,_⟩:=hp.rows j (es,els) hj
  dsimp only at he1 he2 hcap hlen hsz hel
  cases els with
  | nil =>
   cases hy with
   | asl _ _ _ _ hd hc=>exact .isl0 _ _ _ _
  | cons e0 els =>
   cases hy with
   | asl _ _ _ _ hd hc =>
    rw [he1]
    simp only [Nat.zero_mul,Pc,Nat.sub_zero]
    have hcell:∀ (i:Nat) (e:List AV) (jj:Nat) (c:AV),(e0::els)[i]?=some e->e[jj]?=some c->∃ v,w'.cell? ⟨(r' j).blk,(r' j).off+i*es+jj,none⟩=some v/\VR r' I2 w' (fun _=>False) c v:=by
     intro i e jj c hi hjj
     obtain ⟨v,hv1,hv2⟩:=hel i e jj c hi hjj
     refine ⟨v,?_,hv2.mono ⟨fun _ h=>h.2.elim,fun b o h=>⟨himm b o h,rfl⟩,Qf _⟩⟩
     simp [World.cell?,hcells,hv1]
    refine .isl _ _ _ _ _ _ (fun i jj=>(w'.cell? ⟨(r' j).blk,(r' j).off+i*es+jj,none⟩).getD undef) hcap hlen (fun i e jj c hi hjj=>?_) (fun i e jj c hi hjj=>?_)
    ·obtain ⟨v,hv1,_⟩:=hcell i e jj c hi hjj
     exact ⟨.inr ⟨j,(es,e0::els),hj,rfl,i,e,jj,c,hi,hjj,rfl⟩,by rw [hv1]; rfl⟩
    ·obtain ⟨v,hv1,hv2⟩:=hcell i e jj c hi hjj
     rw [hv1]
     exact hv2
end Go.Sx
set_option maxRecDepth 20000
namespace Go.Sx
open Go Ieee
theorem Zb2 {n:Nat}:∀ (todo root:Nat),root*root<=n->Datum.rootFrom n todo root*Datum.rootFrom n todo root<=n
 | 0,root,h=>h
 | todo+1,root,h=>by
  unfold Datum.rootFrom
  dsimp only
  split
  ·rename_i h2; exact Zb2 todo _ h2
  ·exact Zb2 todo _ h
theorem Zks:double.signWeight=2 ^ 63:=rfl
theorem Ze4:double.binade=2 ^ 52:=rfl
theorem Zjb:double.leastPlace = -1074:=rfl
theorem Ze3:double.infRung=2047*2 ^ 52:=rfl
theorem log2_lt {m k:Nat} (h:m<2 ^ k) (h0:0<m):m.log2<k:=(Nat.log2_lt (by omega)).2 h
theorem Zgo (m:Nat):m<2 ^ (m.log2+1):=by
 by_cases h:m=0
 ·subst h; decide
 ·exact (Nat.log2_lt h).1 (by omega)
theorem Zj9 {R:Nat} (h:R<2047*2 ^ 52):∃ m i,double.read R = .number false m i/\m<2 ^ 53/\(i = -1074\/(i:Int)=(R / 2 ^ 52:Nat)-1075):=by
 unfold Format.read
 have e1:(R / double.signWeight%2==1)=false:=by rw [Zks,Wm (by omega)]; rfl
 have e2:R%double.signWeight=R:=by rw [Zks]; exact Pl (by omega)
 rw [e1,e2,Ze4,Ze3,Zjb]
 dsimp only
 by_cases h1:R<2 ^ 52
 ·rw [if_pos h1]; exact ⟨R,-1074,rfl,by omega,.inl rfl⟩
 ·rw [if_neg h1,if_pos h]
  refine ⟨_,_,rfl,?_,.inr ?_⟩
  ·have:=Wu R (show 0<2 ^ 52 by decide); omega
  ·have:1<=R / 2 ^ 52:=(Mm (by decide)).2 (by omega)
   omega
theorem Zpm {m:Nat} {i:Int} (hm:m<2 ^ 53) (hi:i <= -25):Toward.cut .zero false (m <<< i.toNat) (-i).toNat<=2 ^ 28:=by
 have e0:i.toNat=0:=by omega
 rw [e0,Wj]
 unfold Toward.cut
 dsimp only
 rw [Fl,Pc,Mj]
 have hl:=Zgo m
 by_cases h:(-i).toNat<=m.log2+2
 ·rw [Wd h]
  have h25:2 ^ 25<=2 ^ (-i).toNat:=Rz (by decide) (by omega)
  have:m / 2 ^ (-i).toNat<=m / 2 ^ 25:=Ni h25 (by decide)
  have:m / 2 ^ 25<2 ^ 28:=Wn (by omega)
  omega
 ·rw [Jd (by omega)]
  have:m<2 ^ (m.log2+2):=Rp hl (Rz (by decide) (by omega))
  rw [Wm this]
  omega
theorem Zwo {m:Nat} {i:Int} (hm:m<2 ^ 53) (hi:i <= -25):∃ r:Nat,(Datum.number false m i).toInt .zero=some (r:Int)/\r<=2 ^ 28:=by
 refine ⟨Toward.cut .zero false (m <<< i.toNat) (-i).toNat,?_,Zpm hm hi⟩
 simp only [Datum.toInt,Datum.integral,signed,Rh,if_false,Wj]
theorem Ze5 {mag:Nat} {place last:Int} (hlast:last=place+mag.log2-52\/(place+mag.log2-52<=last)):Toward.cut .even false (mag <<< (place-last).toNat) (last-place).toNat<=2 ^ 53:=by
 have hle:place+mag.log2-52<=last:=by omega
 have hl:=Zgo mag
 unfold Toward.cut
 dsimp only
 by_cases h:place<=last
 ·have e0:(place-last).toNat=0:=by omega
  rw [e0,Wj,Mj]
  have hlow:mag / 2 ^ min (last-place).toNat (mag.log2+2)<2 ^ 53:=by
   by_cases h2:(last-place).toNat<=mag.log2+2
   ·rw [Wd h2]
    refine Wn (Rp hl ?_)
    rw [<-Na]
    exact Rz (by decide) (by omega)
   ·rw [Jd (by omega),Wm (Rp hl (Rz (by decide) (by omega)))]
    decide
  have:∀ b:Bool,b.toNat<=1:=fun b=>by cases b<;>decide
  have:=this (decide (2 ^ min (last-place).toNat (mag.log2+2)<2*(mag%2 ^ min (last-place).toNat (mag.log2+2)))||2 ^ min (last-place).toNat (mag.log2+2)==2*(mag%2 ^ min (last-place).toNat (mag.log2+2))&&mag / 2 ^ min (last-place).toNat (mag.log2+2)%2==1)
  omega
 ·have e0:(last-place).toNat=0:=by omega
  rw [e0,Nat.zero_min,Wj,Nat.div_one,Nat.mod_one,Pn]
  have:mag*2 ^ (place-last).toNat<2 ^ 53:=by
   refine Rp (Wp hl (Ma (by decide))) ?_
   rw [<-Na]
   exact Rz (by decide) (by omega)
  simp
  omega
theorem Zsw {mag:Nat} {place:Int} (h1:place+mag.log2<=26):∃ r:Nat,(double.read (double.nearest false mag place)).toInt .zero=some (r:Int)/\r<=2 ^ 28:=by
 by_cases h0:mag=0
 ·subst h0
  have e0:double.nearest false 0 place=0:=by unfold Format.nearest; rw [if_pos rfl]; rfl
  rw [e0]
  exact ⟨0,rfl,by decide⟩
 ·unfold Format.nearest
  rw [if_neg h0]
  have e:max (place+mag.log2-double.fractionBits) double.leastPlace=max (place+mag.log2-52) (-1074):=rfl
  dsimp only
  rw [e,Zjb,Ze4,Ze3]
  have hk:=Ze5 (mag:=mag) (place:=place) (last:=max (place+mag.log2-52) (-1074)) (.inr (by omega))
  generalize hK:Toward.cut .even false (mag <<< (place-max (place + ↑mag.log2-52) (-1074)).toNat) (max (place + ↑mag.log2-52) (-1074)-place).toNat=K at *
  have hlast:max (place+(mag.log2:Int)-52) (-1074) <= -26:=by omega
  generalize max (place+(mag.log2:Int)-52) (-1074)=last at *
  have hlast2:(last - -1074).toNat<=1048:=by omega
  have hR:(last - -1074).toNat * 2 ^ 52+K<2047*2 ^ 52:=by omega
  rw [Wd (by omega)]
  show ∃ r:Nat,(double.read ((last - -1074).toNat * 2 ^ 52+K)).toInt .zero=some (r:Int)/\r<=2 ^ 28
  obtain ⟨m,i,hr,hm,hi⟩:=Zj9 hR
  rw [hr]
  refine Zwo hm ?_
  have:((last - -1074).toNat * 2 ^ 52+K) / 2 ^ 52<=(last - -1074).toNat+2:=by
   rw [Wb,Ju (by decide)]
   have:K / 2 ^ 52<=2:=by
    have:K / 2 ^ 52<=2 ^ 53 / 2 ^ 52:=Nat.div_le_div_right hk
    simpa using this
   omega
  omega
theorem Zr0 {n:Nat} (h0:0<n) (h1:n<2 ^ 53):double.read (double.nearest false n 0) = .number false (n <<< (52-n.log2)) ((n.log2:Int)-52):=by
 have hL:=log2_lt h1 h0
 have hlo:2 ^ n.log2<=n:=Je (by omega)
 have hhi:=Zgo n
 unfold Format.nearest
 rw [if_neg (by omega)]
 have e:max ((0:Int)+n.log2-double.fractionBits) double.leastPlace=(n.log2:Int)-52:=by
  show max ((0:Int)+n.log2-52) (-1074)=_
  omega
 dsimp only
 rw [e,Zjb,Ze4,Ze3]
 have hc:Toward.cut .even false (n <<< ((0:Int)-((n.log2:Int)-52)).toNat) (((n.log2:Int)-52)-0).toNat=n <<< (52-n.log2):=by
  rw [show ((0:Int)-((n.log2:Int)-52)).toNat=52-n.log2 by omega,show (((n.log2:Int)-52)-0).toNat=0 by omega]
  unfold Toward.cut
  dsimp only
  rw [Nat.zero_min,Wj,Nat.div_one,Nat.mod_one]
  simp
 rw [hc]
 have hm1:2 ^ 52<=n <<< (52-n.log2):=by
  rw [Pn]
  calc 2 ^ 52=2 ^ n.log2*2 ^ (52-n.log2):=by rw [<-Na]; congr 1; omega
   _<=n*2 ^ (52-n.log2):=Rf _ hlo
 have hm2:n <<< (52-n.log2)<2 ^ 53:=by
  rw [Pn]
  calc n*2 ^ (52-n.log2)<2 ^ (n.log2+1)*2 ^ (52-n.log2):=Wp hhi (Ma (by decide))
   _=2 ^ 53:=by rw [<-Na]; congr 1; omega
 generalize n <<< (52-n.log2)=m at *
 rw [Wd (by omega)]
 have eT:(((n.log2:Int)-52) - -1074).toNat=n.log2+1022:=by omega
 rw [eT]
 show double.read ((n.log2+1022)*2 ^ 52+m)=_
 unfold Format.read
 have hA:¬ (n.log2+1022)*2 ^ 52+m<2 ^ 52:=by omega
 have hB:(n.log2+1022)*2 ^ 52+m<2047*2 ^ 52:=by omega
 have e3:((n.log2+1022)*2 ^ 52+m)%2 ^ 52=m-2 ^ 52:=by omega
 have e4:((n.log2+1022)*2 ^ 52+m) / 2 ^ 52=n.log2+1023:=by omega
 have e5:(n.log2+1022)*2 ^ 52+m<2 ^ 63:=by omega
 generalize (n.log2+1022)*2 ^ 52+m=R at *
 have e1:(R / double.signWeight%2==1)=false:=by rw [Zks,Wm e5]; rfl
 have e2:R%double.signWeight=R:=by rw [Zks]; exact Pl e5
 rw [e1,e2,Ze4,Ze3,Zjb]
 dsimp only
 rw [if_neg hA,if_pos hB,e3,e4]
 have f1:2 ^ 52+(m-2 ^ 52)=m:=by omega
 have f2:(-1074:Int)+((n.log2+1023-1:Nat):Int)=(n.log2:Int)-52:=by omega
 rw [f1,f2]
theorem Zwt {n:Int} (h0:0<=n) (h1:n<9007199254740992):∃ (y:Nat) (r:Int),FloatKind.f64.format.sqrt (floatOfInt .f64 n)=some y/\floatToIntVal .f64 y .i64=some r/\0<=r/\r<=268435456:=by
 have key:∃ (d:Datum),(double.read (double.nearest false n.natAbs 0)).root 54=some d/\∃ r:Nat,(double.read (double.write d)).toInt .zero=some (r:Int)/\r<=2 ^ 28:=by
  by_cases hz:n=0
  ·subst hz
   exact ⟨.number false 0 (-1074),rfl,0,rfl,by decide⟩
  ·have hn0:0<n.natAbs:=by omega
   have hn1:n.natAbs<2 ^ 53:=by omega
   rw [Zr0 hn0 hn1]
   have hL:=log2_lt hn1 hn0
   generalize hm:n.natAbs <<< (52-n.natAbs.log2)=m
   have hm2:m<2 ^ 53:=by
    have hhi:=Zgo n.natAbs
    rw [<-hm,Pn]
    calc n.natAbs*2 ^ (52-n.natAbs.log2)<2 ^ (n.natAbs.log2+1)*2 ^ (52-n.natAbs.log2):=Wp hhi (Ma (by decide))
     _=2 ^ 53:=by rw [<-Na]; congr 1; omega
   have hm1:2 ^ 52<=m:=by
    have hlo:2 ^ n.natAbs.log2<=n.natAbs:=Je (by omega)
    rw [<-hm,Pn]
    calc 2 ^ 52=2 ^ n.natAbs.log2*2 ^ (52-n.natAbs.log2):=by rw [<-Na]; congr 1; omega
     _<=n.natAbs*2 ^ (52-n.natAbs.log2):=Rf _ hlo
   have hlog:m.log2=52:=by
    have a1:=log2_lt hm2 (by omega)
    have a2:52<=m.log2:=(Fu (by omega)).2 hm1
    omega
   unfold Datum.root
   dsimp only
   rw [if_neg (by omega),if_neg (by decide),hlog]
   refine ⟨_,rfl,?_⟩
   unfold Format.write
   dsimp only
   generalize hmore:2*54-52+(((n.natAbs.log2:Int)-52-((2*54-52:Nat):Int))%2).toNat=more
   have hmore2:56<=more/\more<=57:=by omega
   generalize hw:Datum.rootFrom (m <<< more) ((m <<< more).log2 / 2+1) 0=whole
   have hwle:whole*whole<=m <<< more:=by rw [<-hw]; exact Zb2 _ _ (by simp)
   have hsm:m <<< more<2 ^ 110:=by
    rw [Pn]
    calc m*2 ^ more<2 ^ 53*2 ^ more:=Wp hm2 (Ma (by decide))
     _<=2 ^ 53*2 ^ 57:=Hs _ (Rz (by decide) hmore2.2)
     _=2 ^ 110:=by decide
   have hwl:whole<2 ^ 55:=by
    rcases Ok whole (2 ^ 55) with h|h
    ·exact h
    ·have:=Tz h h
     omega
   refine Zsw ?_
   have hb:∀ b:Bool,b.toNat<=1:=fun b=>by cases b<;>decide
   have hb:=hb (whole*whole != m <<< more)
   generalize (whole*whole != m <<< more).toNat=c at *
   by_cases hz:2*whole+c=0
   ·rw [hz]; have:Nat.log2 0=0:=by decide
    rw [this]; omega
   ·have:=log2_lt (m:=2*whole+c) (k:=56) (by omega) (by omega)
    omega
 obtain ⟨d,hd,r,hr,hrb⟩:=key
 refine ⟨double.write d,(r:Int),?_,?_,by omega,by omega⟩
 ·show ((double.read (double.write (.number (decide (n<0)) n.natAbs 0))).root 54).map double.write=_
  rw [decide_eq_false (by omega)]
  show ((double.read (double.nearest false n.natAbs 0)).root 54).map double.write=_
  rw [hd]; rfl
 ·unfold floatToIntVal
  show (match (double.read (double.write d)).toInt .zero with
   | some n=>if IntKind.i64.min<=n/\n<=IntKind.i64.max then some n else none
   | none=>none)=_
  rw [hr]
  dsimp only
  rw [if_pos (by
   have e1:IntKind.i64.min = -9223372036854775808:=by decide
   have e2:IntKind.i64.max=9223372036854775807:=by decide
   rw [e1,e2]; omega)]
end Go.Sx
set_option maxRecDepth 20000
namespace Go.Sx
open Go Ieee
theorem Zpl {m:Nat} {i:Int} (hi:i<=0):Toward.cut .zero false (m <<< i.toNat) (-i).toNat<=m / 2 ^ (-i).toNat:=by
 have e0:i.toNat=0:=by omega
 rw [e0,Wj]
 unfold Toward.cut
 dsimp only
 rw [Fl,Pc,Mj]
 by_cases h:(-i).toNat<=m.log2+2
 ·rw [Wd h]; exact Qf _
 ·rw [Jd (by omega)]
  have:m<2 ^ (m.log2+2):=Rp (Zgo m) (Rz (by decide) (by omega))
  rw [Wm this]
  exact Nat.zero_le _
theorem Zk0 {m:Nat} {i:Int} {B:Nat} (hi:i<=0) (hB:m / 2 ^ (-i).toNat<=B):∃ r:Nat,(Datum.number false m i).toInt .zero=some (r:Int)/\r<=B:=by
 refine ⟨Toward.cut .zero false (m <<< i.toNat) (-i).toNat,?_,Rt (Zpl hi) hB⟩
 simp only [Datum.toInt,Datum.integral,signed,Rh,if_false,Wj]
theorem Zmk {R:Nat} (h0:2 ^ 52<=R) (h:R<2047*2 ^ 52):double.read R = .number false (2 ^ 52+R%2 ^ 52) ((R / 2 ^ 52:Nat)-1075):=by
 unfold Format.read
 have e1:(R / double.signWeight%2==1)=false:=by rw [Zks,Wm (by omega)]; rfl
 have e2:R%double.signWeight=R:=by rw [Zks]; exact Pl (by omega)
 rw [e1,e2,Ze4,Ze3,Zjb]
 dsimp only
 rw [if_neg (by omega),if_pos h]
 have:1<=R / 2 ^ 52:=(Mm (by decide)).2 (by omega)
 congr 1
 omega
theorem Zol {mag:Nat} {place:Int} (h1:place+mag.log2<=30):∃ r:Nat,(double.read (double.nearest false mag place)).toInt .zero=some (r:Int)/\r<=2 ^ 31:=by
 by_cases h0:mag=0
 ·subst h0
  have e0:double.nearest false 0 place=0:=by unfold Format.nearest; rw [if_pos rfl]; rfl
  rw [e0]
  exact ⟨0,rfl,by decide⟩
 ·unfold Format.nearest
  rw [if_neg h0]
  have e:max (place+mag.log2-double.fractionBits) double.leastPlace=max (place+mag.log2-52) (-1074):=rfl
  dsimp only
  rw [e,Zjb,Ze4,Ze3]
  have hk:=Ze5 (mag:=mag) (place:=place) (last:=max (place+mag.log2-52) (-1074)) (.inr (by omega))
  generalize hK:Toward.cut .even false (mag <<< (place-max (place + ↑mag.log2-52) (-1074)).toNat) (max (place + ↑mag.log2-52) (-1074)-place).toNat=K at *
  have hlast:max (place+(mag.log2:Int)-52) (-1074) <= -22:=by omega
  have hlast3 : -1074<=max (place+(mag.log2:Int)-52) (-1074):=by omega
  generalize max (place+(mag.log2:Int)-52) (-1074)=last at *
  have hlast2:(last - -1074).toNat<=1052:=by omega
  have hR:(last - -1074).toNat * 2 ^ 52+K<2047*2 ^ 52:=by omega
  rw [Wd (by omega)]
  show ∃ r:Nat,(double.read ((last - -1074).toNat * 2 ^ 52+K)).toInt .zero=some (r:Int)/\r<=2 ^ 31
  by_cases hs:(last - -1074).toNat * 2 ^ 52+K<2 ^ 52
  ·obtain ⟨m,i,hr,hm,hi⟩:=Zj9 hR
   rw [hr]
   have hi2:i <= -1074:=by
    rcases hi with rfl|hi
    ·omega
    ·rw [Wm hs] at hi; omega
   refine Zk0 (by omega) ?_
   have h25:2 ^ 53<=2 ^ (-i).toNat:=Rz (by decide) (by omega)
   have:m / 2 ^ (-i).toNat<=m / 2 ^ 53:=Ni h25 (by decide)
   have:m / 2 ^ 53=0:=Wm hm
   omega
  rw [Zmk (by omega) hR]
  generalize hL:(last - -1074).toNat=L at *
  by_cases hK3:K=2 ^ 53
  ·subst hK3
   have e1:(L*2 ^ 52+2 ^ 53) / 2 ^ 52=L+2:=by omega
   have e2:(L*2 ^ 52+2 ^ 53)%2 ^ 52=0:=by omega
   rw [e1,e2]
   refine Zk0 (by omega) ?_
   have h25:2 ^ 21<=2 ^ (-(((L+2:Nat):Int)-1075)).toNat:=Rz (by decide) (by omega)
   have:(2 ^ 52+0) / 2 ^ (-(((L+2:Nat):Int)-1075)).toNat<=(2 ^ 52+0) / 2 ^ 21:=Ni h25 (by decide)
   have:(2 ^ 52+0) / 2 ^ 21=2 ^ 31:=by decide
   omega
  ·have hq:(L*2 ^ 52+K) / 2 ^ 52<=L+1:=by
    rw [Wb,Ju (by decide)]
    have:K / 2 ^ 52<2:=Wn (by omega)
    omega
   generalize (L*2 ^ 52+K) / 2 ^ 52=q at *
   have hmod:=Wu (L*2 ^ 52+K) (show 0<2 ^ 52 by decide)
   generalize (L*2 ^ 52+K)%2 ^ 52=f at *
   refine Zk0 (by omega) ?_
   have h25:2 ^ 22<=2 ^ (-((q:Int)-1075)).toNat:=Rz (by decide) (by omega)
   have:(2 ^ 52+f) / 2 ^ (-((q:Int)-1075)).toNat<=(2 ^ 52+f) / 2 ^ 22:=Ni h25 (by decide)
   have:(2 ^ 52+f) / 2 ^ 22<2 ^ 31:=Wn (by omega)
   omega
theorem Zw2 {n:Nat} (h0:2 ^ 53<=n) (h1:n<4611686018427387000):∃ m i,double.read (double.nearest false n 0) = .number false m i/\2 ^ 52<=m/\m<2 ^ 53/\i<=9/\0<=i:=by
 have hL:=log2_lt (m:=n) (k:=62) (by omega) (by omega)
 have hL0:53<=n.log2:=(Fu (by omega)).2 h0
 have hlo:2 ^ n.log2<=n:=Je (by omega)
 have hhi:=Zgo n
 unfold Format.nearest
 rw [if_neg (by omega)]
 have e:max ((0:Int)+n.log2-double.fractionBits) double.leastPlace=(n.log2:Int)-52:=by
  show max ((0:Int)+n.log2-52) (-1074)=_
  omega
 dsimp only
 rw [e,Zjb,Ze4,Ze3]
 have hk:=Ze5 (mag:=n) (place:=0) (last:=(n.log2:Int)-52) (.inr (by omega))
 have hk2:Toward.cut .even false (n <<< ((0:Int)-((n.log2:Int)-52)).toNat) (((n.log2:Int)-52)-0).toNat<=n / 2 ^ (n.log2-52)+1/\n / 2 ^ (n.log2-52)<=Toward.cut .even false (n <<< ((0:Int)-((n.log2:Int)-52)).toNat) (((n.log2:Int)-52)-0).toNat:=by
  rw [show ((0:Int)-((n.log2:Int)-52)).toNat=0 by omega,show (((n.log2:Int)-52)-0).toNat=n.log2-52 by omega,Wj]
  unfold Toward.cut
  dsimp only
  rw [Wd (by omega),Mj]
  have:∀ b:Bool,b.toNat<=1:=fun b=>by cases b<;>decide
  have:=this (decide (2 ^ (n.log2-52)<2*(n%2 ^ (n.log2-52)))||2 ^ (n.log2-52)==2*(n%2 ^ (n.log2-52))&&n / 2 ^ (n.log2-52)%2==1)
  omega
 have hq1:2 ^ 52<=n / 2 ^ (n.log2-52):=by
  refine (Mm (Ma (by decide))).2 ?_
  rw [<-Na,show 52+(n.log2-52)=n.log2 by omega]
  exact hlo
 have hq2:n / 2 ^ (n.log2-52)<2 ^ 53:=by
  refine Wn (Rp hhi ?_)
  rw [<-Na]
  exact Rz (by decide) (by omega)
 have hq3:n.log2=61->n / 2 ^ (n.log2-52)<=9007199254740990:=by
  intro h; rw [h]
  have:n / 2 ^ (61-52)<9007199254740991:=Wn (by simp; omega)
  omega
 generalize n / 2 ^ (n.log2-52)=q at *
 generalize Toward.cut .even false (n <<< ((0:Int)-((n.log2:Int)-52)).toNat) (((n.log2:Int)-52)-0).toNat=K at *
 generalize n.log2=L at *
 rw [show (((L:Int)-52) - -1074).toNat=L+1022 by omega,Wd (by omega)]
 show ∃ m i,double.read ((L+1022)*2 ^ 52+K) = .number false m i/\2 ^ 52<=m/\m<2 ^ 53/\i<=9/\0<=i
 rw [Zmk (by omega) (by omega)]
 refine ⟨_,_,rfl,by omega,by omega,?_,?_⟩
 ·have:((L+1022)*2 ^ 52+K) / 2 ^ 52<=1084:=by omega
  omega
 ·have:1075<=((L+1022)*2 ^ 52+K) / 2 ^ 52:=by omega
  omega
theorem Zz2 {m:Nat} {i:Int} (hm1:2 ^ 52<=m) (hm2:m<2 ^ 53) (hi:i<=9):∃ d,(Datum.number false m i).root 54=some d/\∃ r:Nat,(double.read (double.write d)).toInt .zero=some (r:Int)/\r<=2 ^ 31:=by
 have hlog:m.log2=52:=by
  have a1:=log2_lt hm2 (by omega)
  have a2:52<=m.log2:=(Fu (by omega)).2 hm1
  omega
 unfold Datum.root
 dsimp only
 rw [if_neg (by omega),if_neg (by decide),hlog]
 refine ⟨_,rfl,?_⟩
 unfold Format.write
 dsimp only
 generalize hmore:2*54-52+((i-((2*54-52:Nat):Int))%2).toNat=more
 have hmore2:56<=more/\more<=57:=by omega
 generalize hw:Datum.rootFrom (m <<< more) ((m <<< more).log2 / 2+1) 0=whole
 have hwle:whole*whole<=m <<< more:=by rw [<-hw]; exact Zb2 _ _ (by simp)
 have hsm:m <<< more<2 ^ 110:=by
  rw [Pn]
  calc m*2 ^ more<2 ^ 53*2 ^ more:=Wp hm2 (Ma (by decide))
   _<=2 ^ 53*2 ^ 57:=Hs _ (Rz (by decide) hmore2.2)
   _=2 ^ 110:=by decide
 have hwl:whole<2 ^ 55:=by
  rcases Ok whole (2 ^ 55) with h|h
  ·exact h
  ·have:=Tz h h
   omega
 refine Zol ?_
 have hb:∀ b:Bool,b.toNat<=1:=fun b=>by cases b<;>decide
 have hb:=hb (whole*whole != m <<< more)
 generalize (whole*whole != m <<< more).toNat=c at *
 by_cases hz:2*whole+c=0
 ·rw [hz]; have:Nat.log2 0=0:=by decide
  rw [this]; omega
 ·have:=log2_lt (m:=2*whole+c) (k:=56) (by omega) (by omega)
  omega
theorem Zwu {n:Int} (h0:0<=n) (h1:n<4611686018427387000):∃ (y:Nat) (r:Int),FloatKind.f64.format.sqrt (floatOfInt .f64 n)=some y/\floatToIntVal .f64 y .i64=some r/\0<=r/\r<=2147483648:=by
 by_cases hsm:n<9007199254740992
 ·obtain ⟨y,r,a,b,c,d⟩:=Zwt h0 hsm
  exact ⟨y,r,a,b,c,by omega⟩
 have key:∃ (d:Datum),(double.read (double.nearest false n.natAbs 0)).root 54=some d/\∃ r:Nat,(double.read (double.write d)).toInt .zero=some (r:Int)/\r<=2 ^ 31:=by
  obtain ⟨m,i,hr,hm1,hm2,hi,_⟩:=Zw2 (n:=n.natAbs) (by omega) (by omega)
  rw [hr]
  exact Zz2 hm1 hm2 hi
 obtain ⟨d,hd,r,hr,hrb⟩:=key
 refine ⟨double.write d,(r:Int),?_,?_,by omega,by omega⟩
 ·show ((double.read (double.write (.number (decide (n<0)) n.natAbs 0))).root 54).map double.write=_
  rw [decide_eq_false (by omega)]
  show ((double.read (double.nearest false n.natAbs 0)).root 54).map double.write=_
  rw [hd]; rfl
 ·unfold floatToIntVal
  show (match (double.read (double.write d)).toInt .zero with
   | some n=>if IntKind.i64.min<=n/\n<=IntKind.i64.max then some n else none
   | none=>none)=_
  rw [hr]
  dsimp only
  rw [if_pos (by
   have e1:IntKind.i64.min = -9223372036854775808:=by decide
   have e2:IntKind.i64.max=9223372036854775807:=by decide
   rw [e1,e2]; omega)]
open Go Go.RowKit
variable {P:Program} {N:Nat}
theorem Zl8 {h:Nat->ABlk} {id len es:Nat} {elems:List (List AV)} {mt pu:Bool} (hb:h id = .row es elems mt pu) (hl:len=elems.length):Ym es h (.asl id 0 len)=some (elems,pu):=by
 unfold Ym
 dsimp only
 rw [hb]
 dsimp only
 rw [Ls,List.drop_zero,hl,List.take_length]
 rfl
theorem Zpv {T:Tab} {ok:TypeId->Bool} {k:Nat} {ev:Operand->AV} {h:Nat->ABlk} {x y:Operand} {t tx e e' : TypeId} {ti tj te:TI} {id len:Nat} {elems ys:List (List AV)} {pu py:Bool} {K:AV × Eff->Prop}
  (h1:T t=some ti) (h2:T tx=some tj) (h3:ti.desc = .slice e) (h4:tj.desc = .slice e') (h5:T e=some te) (hx:ev x = .asl id 0 len) (hb:h id = .row te.size elems true pu)
  (hy:Ym te.size h (ev y)=some (ys,py)) (hbt:Sa (1000000*te.bytes) 140737488355328=true) (ho:Vl ys=true) (hne:ys≠[]) (hl:len=elems.length) (hbd:elems.length+ys.length<=1000000)
  (hk:K (.asl k 0 (elems.length+ys.length),.app id (.row te.size (elems++ys) true (pu&&py)))):Got (aop T ok k ev h (.call { callee:=.builtin .append,args:=#[x,y],argTypes:=#[t,tx] })) K:=by
 have ha:aopA T ok k ev h (.call { callee:=.builtin .append,args:=#[x,y],argTypes:=#[t,tx] })=none:=rfl
 have hbb:aopB T k ev h (.call { callee:=.builtin .append,args:=#[x,y],argTypes:=#[t,tx] })=Zgy k h te (ev x) (ev y):=by
  unfold aopB
  dsimp only
  rw [h1,h2]
  dsimp only
  rw [h3,h4]
  dsimp only
  rw [h5]
 refine Sl (x:=(.asl k 0 (elems.length+ys.length),.app id (.row te.size (elems++ys) true (pu&&py)))) ?_ hk
 unfold aop
 rw [ha]
 dsimp only
 rw [hbb,hx]
 unfold Zgy
 rw [hy]
 cases ys with
 | nil=>exact absurd rfl hne
 | cons y0 ys =>
  dsimp only
  rw [Zl8 hb hl]
  dsimp only
  have b1:Sa (elems.length+(y0::ys).length) 1000000000000=true:=Ot (Rt hbd (by decide))
  have b2:Sa ((elems.length+(y0::ys).length)*te.bytes) 140737488355328=true:=Ot (Rt (Rf _ hbd) (Qk hbt))
  have b3:Qm (0+len) elems.length=true:=by rw [hl,Nat.zero_add]; exact Ls _
  rw [b1,b2,hb]
  dsimp only
  rw [b3,ho]
  rfl
variable {r r' : Locs} {I I' I2:Imm} {w w' : World} {P:Program}
mutual
def Frk (bl:List (Nat × List (List AV))):AV->AV->Prop
 | .asl id idx len,.isl es els=>(bl[id]?=some (es,els)/\id≠0)/\idx=0/\len=els.length
 | .asl id idx len,.asl id' idx' len'=>id=0/\id'=0/\idx=idx'/\len=len'
 | .nils,.isl _ els=>els=[]
 | .agg cs,.agg ds=>FrkL bl cs ds
 | .tup cs,.tup ds=>FrkL bl cs ds
 | v,v'=>v=v'/\Zz v=true
def FrkL (bl:List (Nat × List (List AV))):List AV->List AV->Prop
 | [],[]=>True
 | c::cs,d::ds=>Frk bl c d/\FrkL bl cs ds
 | _,_=>False
end
variable {P:Program}
theorem Zje (w:World) (o:Obj):Below w.heap.size w (w.alloc o):=⟨rfl,rfl,rfl,by simp,fun _ hk=>Zt w o hk⟩
theorem Zmo {f:FuncId} {es:Nat} (hfn:FnOK P f) (h:∀ (a:Option Addr) (cap:Nat) (w:World),Calls P f #[.slice a 0 cap] w fun e w'=>∃ a' cap',e = .returned (.slice a' 0 cap')/\Below w.heap.size w w'):PCall P f [.isl es []] ⟨.isl es [],[]⟩:=by
 refine ⟨hfn,fun I w vs hI hv=>?_⟩
 obtain ⟨hs,hc⟩:=hv
 have hs:vs.size=1:=hs
 obtain ⟨v0,rfl⟩:∃ v0,vs = #[v0]:=⟨vs[0],by
  apply Array.ext
  ·simp [hs]
  ·intro i h1 h2
   have:i=0:=by omega
   subst this; rfl⟩
 have h0:=hc 0 _ v0 rfl rfl
 obtain ⟨a,cap,rfl⟩:∃ a cap,v0 = .slice a 0 cap:=by
  cases h0 with
  | isl0=>exact ⟨_,_,rfl⟩
  | isl=>exact ⟨_,_,rfl⟩
 refine (callsIn_wide.2 (h a cap w)).mono fun e w' ⟨a',cap',he,hb⟩=>⟨_,r0,I,he,hb,fun _ _ h=>h,fun _ _ h=>.inl h,fun b o h=>Rp (hI b o h) hb.size,fun j p hj=>by simp at hj,fun j j' h1=>by simp at h1,.isl0 _ _ _ _⟩
variable {P:Program} {N:Nat}
def newF (n0:Nat) (fl:List (Nat × Nat)) (l:List (Nat × ABlk)):Bool:=fl.all fun p=>Sa n0 p.2||l.all fun q=>!Nat.beq q.1 p.2
theorem Ren.of2 {n0:Nat} {env env' : Env} {σ:St} {heap' : List (Nat × ABlk)} {n1:Nat} (fl:List (Nat × Nat)) (h1:(okF n0 fl&&Zjm n0 fl heap'&&newF n0 fl heap'&&Sa n0 n1)=true) (h2:RenE (fOf fl) n1 env env') (h3:RenH (fOf fl) n1 σ.get heap'):Ren n0 env σ env' ⟨heap',n1⟩:=by
 simp only [Qc] at h1
 obtain ⟨⟨⟨o1,o2⟩,o3⟩,o4⟩:=h1
 have live:∀ j,(Po ⟨heap',n1⟩ j).live=true->(j,hget heap' j)∈heap':=fun j hl=>Zlj heap' j hl
 have img:∀ {a b j:Nat},(a,b)∈fl->(j,hget heap' j)∈heap'->j<n0->j=b->False:=fun {a b j} hm hk hj e=>by
  have:=Rb.1 o3 _ hm
  rw [Bool.or_eq_true] at this
  rcases this with h|h
  ·have:=Qk h; dsimp only at this; omega
  ·have:=Rb.1 h _ hk
   subst e
   simp at this
 refine ⟨fOf fl,Zav o1,h2.get,fun j hl=>?_,fun j=>?_,fun j j' hl hl' e=>?_,Qk o4⟩
 ·have:=h3.mem (live j hl)
  exact ⟨by simpa [Sf] using this.1,this.2.1⟩
 ·by_cases hl:(Po ⟨heap',n1⟩ j).live=true
  ·exact (h3.mem (live j hl)).2.2
  ·have:Po ⟨heap',n1⟩ j = .dead:=by cases hx:Po ⟨heap',n1⟩ j<;>simp_all [ABlk.live]
   rw [this]; trivial
 ·rcases Zde o2 (live j hl) with k1|⟨y,k1⟩<;>rcases Zde o2 (live j' hl') with k2|⟨y',k2⟩
  ·rwa [Zav o1 j k1,Zav o1 j' k2] at e
  ·rw [Zav o1 j k1,Zce o1 k2] at e; exact (img k2 (live j hl) k1 e).elim
  ·rw [Zce o1 k1,Zav o1 j' k2] at e; exact (img k1 (live j' hl') k2 e.symm).elim
  ·rw [Zce o1 k1,Zce o1 k2] at e; subst e; exact Zoz o1 k1 k2
theorem Ziv {S:Type} (μ:S->Nat) (E:S->Env) (Z:S->List (Nat × ABlk)) (n0 n1:Nat) (G:S->Prop) {c:Code} {Q:Exit->Env->St->Prop} (s:S) (hs:G s) {env:Env} {σ:St} (hn:σ.next<=n0) (fl0:List (Nat × Nat))
  (h1:(okF n0 fl0&&Zjm n0 fl0 (Z s)&&newF n0 fl0 (Z s)&&Sa n0 n1)=true) (h2:RenE (fOf fl0) n1 env (E s)) (h3:RenH (fOf fl0) n1 σ.get (Z s))
  (step:∀ s,G s->Awp P N c (E s) ⟨Z s,n1⟩ (seqQ (fun env' σ'=>Done (∃ s' fl,(okF n0 fl&&Zjm n0 fl (Z s')&&newF n0 fl (Z s')&&Sa n0 n1)=true/\RenE (fOf fl) n1 env' (E s')/\RenH (fOf fl) n1 σ'.get (Z s')/\G s'/\μ s'<μ s)) Q)):Lp P N c env σ Q:=by
 have key:∀ n s,μ s<n->G s->Zwc P N n0 c Q n (E s) ⟨Z s,n1⟩:=by
  intro n
  induction n with
  | zero=>intro s h; omega
  | succ n ih =>
   intro s h hg
   refine (step s hg).seqMono fun env' σ' hq=>?_
   obtain ⟨s',fl,k1,k2,k3,g',m'⟩:=hq.1
   exact ⟨E s',⟨Z s',n1⟩,.inr (Ren.of2 fl k1 k2 k3),ih s' (by omega) g'⟩
 refine ⟨fun F B w0 I0 pr r I D a w hF hR S=>?_⟩
 have hr:=Ren.of2 (n1:=n1) fl0 h1 h2 h3
 obtain ⟨r2,D2,H2,k2,e2⟩:=S.hr.rename (N:=N) hr
 have hd0:∀ id,D id->id<n0:=fun id hd=>by have:=(S.hr.dom id hd).1; omega
 refine wpIn_loop_rounds (μ s+1) ?_
 exact Zfj hF hR hd0 (μ s+1) (E s) ⟨Z s,n1⟩ pr r2 I D2 a w [] (fun _ _ h=>h) (fun d hd=>by simp at hd) .nil (by simp) (key (μ s+1) s (by omega) hs) ⟨H2,e2 _ S.er⟩ ((Step.refl _ _ _ _).rename hd0 k2) (Qf _)
theorem Zkw {T:Tab} {ok:TypeId->Bool} {k:Nat} {ev:Operand->AV} {h:Nat->ABlk} {x lo hi:Operand} {t e:TypeId} {ti te:TI} {id len ll hh:Nat} {elems:List (List AV)} {mt pu:Bool} {K:AV × Eff->Prop}
  (h1:T t=some ti) (h3:ti.desc = .slice e) (h5:T e=some te) (hx:ev x = .asl id 0 len) (hb:h id = .row te.size elems mt pu) (hlo:Zd8 (some (ev lo)) 0=some ll) (hhi:Zd8 (some (ev hi)) len=some hh) (hl:ll<=hh) (hl2:hh<=len) (hl3:ll<len)
  (hk:K (.asl id (0+ll) (hh-ll),.none)):Got (aop T ok k ev h (.slice t x (some lo) (some hi) none)) K:=by
 have ha:aopA T ok k ev h (.slice t x (some lo) (some hi) none)=none:=rfl
 have hs:Zbx T h t (ev x) (some (ev lo)) (some (ev hi))=some (.asl id (0+ll) (hh-ll)):=by
  unfold Zbx
  rw [h1]
  dsimp only
  rw [h3]
  dsimp only
  rw [h5]
  dsimp only
  rw [hx]
  dsimp only
  rw [hb]
  dsimp only
  rw [hlo,hhi]
  show cond _ _ _=_
  have b1:Sa ll hh=true:=Ot hl
  have b2:Sa hh len=true:=Ot hl2
  have b3:Nat.blt ll len=true:=by rw [Sf]; exact hl3
  rw [Ls,b1,b2,b3,Bool.or_true]
  rfl
 refine Sl (x:=(.asl id (0+ll) (hh-ll),.none)) ?_ hk
 unfold aop
 rw [ha]
 dsimp only
 show ret (Zbx T h t (ev x) (some (ev lo)) (some (ev hi)))=_
 rw [hs]
 rfl
section
variable {P:Program} {r:Locs} {I:Imm} {w:World} {D:Nat->Prop}
def NS (a b:AV):Prop:=a=b\/(a = .nils/\∃ es,b = .isl es [])
theorem NS.vr {a b:AV} (h:NS a b) {v:Value} (hv:VR r I w D a v):VR r I w D b v:=by
 rcases h with rfl|⟨rfl,es,rfl⟩
 ·exact hv
 ·cases hv; exact .isl0 _ _ _ _
def NSL:List AV->List AV->Prop
 | [],[]=>True
 | a::l,b::m=>NS a b/\NSL l m
 | _,_=>False
theorem NSL.get:∀ {l m:List AV},NSL l m->l.length=m.length/\∀ (i:Nat) (b:AV),m[i]?=some b->∃ a,l[i]?=some a/\NS a b
 | [],[],_=>⟨rfl,fun i b h=>by simp at h⟩
 | a::l,b::m,h=>by
  simp only [NSL] at h
  obtain ⟨h1,h2⟩:=NSL.get h.2
  refine ⟨by simp [h1],fun i b' hi=>?_⟩
  cases i with
  | zero=>simp at hi; subst hi; exact ⟨a,rfl,h.1⟩
  | succ i=>simpa using h2 i b' (by simpa using hi)
 | [],_::_,h=>by simp [NSL] at h
 | _::_,[],h=>by simp [NSL] at h
theorem NSL.vr {l m:List AV} (h:NSL l m) {v:Value} (hv:VR r I w D (.agg l) v):VR r I w D (.agg m) v:=by
 obtain ⟨h1,h2⟩:=h.get
 cases hv with
 | agg _ _ vs h0 g =>
  refine .agg _ _ _ (h0.trans h1) fun i c x hc hx=>?_
  obtain ⟨a,ha,hn⟩:=h2 i c hc
  exact hn.vr (g i a x ha hx)
def NA (a b:AV):Prop:=NS a b\/∃ l m,a = .agg l/\b = .agg m/\NSL l m
theorem NA.vr {a b:AV} (h:NA a b) {v:Value} (hv:VR r I w D a v):VR r I w D b v:=by
 rcases h with h|⟨l,m,rfl,rfl,h⟩
 ·exact h.vr hv
 ·exact h.vr hv
theorem NA.rfl {a:AV}:NA a a:=.inl (.inl _root_.rfl)
def NAL:List AV->List AV->Prop
 | [],[]=>True
 | a::l,b::m=>NA a b/\NAL l m
 | _,_=>False
theorem NAL.get:∀ {l m:List AV},NAL l m->l.length=m.length/\∀ (i:Nat) (b:AV),m[i]?=some b->∃ a,l[i]?=some a/\NA a b
 | [],[],_=>⟨_root_.rfl,fun i b h=>by simp at h⟩
 | a::l,b::m,h=>by
  simp only [NAL] at h
  obtain ⟨h1,h2⟩:=NAL.get h.2
  refine ⟨by simp [h1],fun i b' hi=>?_⟩
  cases i with
  | zero=>simp at hi; subst hi; exact ⟨a,_root_.rfl,h.1⟩
  | succ i=>simpa using h2 i b' (by simpa using hi)
 | [],_::_,h=>by simp [NAL] at h
 | _::_,[],h=>by simp [NAL] at h
theorem PCall.nilArgs {f:FuncId} {l m:List AV} {res:PRes} (h:PCall P f m res) (hn:NAL l m):PCall P f l res:=by
 obtain ⟨h1,h2⟩:=hn.get
 refine ⟨h.1,fun I w vs hI hv=>h.2 I w vs hI ⟨hv.1.trans h1,fun i c v hc hv'=>?_⟩⟩
 obtain ⟨a,ha,hn⟩:=h2 i c hc
 exact hn.vr (hv.2 i a v ha hv')
end
end Go.Sx
