/- A part of the proof: lemmas. -/
import Derived.Test.YtfkdpbklbegnlaaGreatZ6
import Derived.JoinedOf
import Derived.Laws.FloatArith
import Derived.TacticsIn
set_option linter.unusedVariables false
set_option linter.unusedSimpArgs false
set_option maxRecDepth 100000
set_option maxHeartbeats 16000000
open Array renaming getD_eq_getD_getElem?->Rh,replicate->Pq
open Bool renaming and_eq_true->Qc,false_eq_true->Ro,toNat_false->Qam
open Go.Cell renaming ok->Qbl,okWide->Hj
open Go.Code renaming wpIn_mono->Rd
open Go.DataW renaming TrodAll->Le
open Go.Deferred renaming ofValue->Wh
open Go.Exit renaming inBlock->Od
open Go.Fence renaming wide->Sh
open Go.Oper renaming semAt_eq->Nf
open Go.Region renaming wanted->Wq
open Go.Sx.ABlk renaming live->Tm
open Go.Sx.Br renaming cases->Mh
open Go.Sx.Env renaming get_cons->Wr
open Go.Sx.Got renaming intro->Sw
open Go.Sx.Step renaming drew->Jn,refl->Wa
open Go.Sx.Stop renaming go->Gk
open Go.Value renaming okWide->Jm
open List renaming all_eq_true->Rj
open Nat renaming add_zero->Pm,beq->Qp,beq_refl->Jl,ble->Se,ble_eq_true_of_le->Nx,blt_eq->Sm,div_eq_of_lt->Pe,div_le_div_left->Mz,div_lt_of_lt_mul->Wm,eq_of_beq_eq_true->Qh,le_div_iff_mul_le->Kj,le_log2->Qax,le_of_ble_eq_true->Qm,le_refl->Qd,le_trans->Qt,log2_self_le->Gb,lt_of_lt_of_le->Rp,lt_or_ge->Ou,min_eq_left->Wx,min_eq_right->Ga,mod_eq_of_lt->Of,mod_lt->Pn,mul_add_div->Gq,mul_comm->Wi,mul_le_mul->Kh,mul_le_mul_left->Ft,mul_le_mul_right->Ri,mul_lt_mul_of_pos_right->Pj,not_lt->Oi,one_shiftLeft->Ki,pow_add->Ml,pow_le_pow_right->Sk,pow_pos->Ly,shiftLeft_eq->Oh,shiftLeft_zero->Pd,sub_zero->Ws,zero_le->Qn
open Option.some renaming injEq->Qf
open Prod.mk renaming injEq->Rl
namespace Go.Sx
open Go Go.RowKit
theorem wxA {a b:Prop} (h:a := by kernel_rfl):b->a/\b := fun k => ⟨h, k⟩
theorem wxG {α:Type} {o:Option α} {K:α->Prop} {x:α} (h:o=some x):K x->Got o K := fun k => Sw h k
theorem wcp {p q r:Prop} (s:r->p) (w:q->r):q->p := fun k => s (w k)
theorem wk0 {p q:Prop} (k:q) (h:q->p := by
  intro k
  fail_if_success with_reducible refine Gk ?_
  conv => whnf
  first
    | (with_reducible refine Gk ?_); exact k
    | revert k
      apply wcp
      · first
          | with_reducible exact wxA
          | (with_reducible refine wxS ?_); exact wkU
          | (fail_if_success with_reducible refine wkB ?_ ?_); first
            | exact wxG (by assumption)
            | exact wxG (Yn (by assumption))
            | exact wxG (Zr8 _ _)
            | with_reducible exact Ap.fitF (by assumption)
            | with_reducible exact Ap.new
          | fail
      · intro k
        conv => whnf
        exact k
    | fail):p := h k
theorem wk1 {p q:Prop} (k:q) (h:q->p := by
  intro k
  fail_if_success with_reducible refine Gk ?_
  conv => whnf
  first
    | (with_reducible refine Gk ?_); exact k
    | revert k
      apply wcp
      · first
          | with_reducible exact wxA
          | (with_reducible refine wxS ?_); exact wkU
          | (with_reducible refine wxY ?_); omega
          | (with_reducible refine wxN ?_); omega
          | (with_reducible refine wxQ ?_); omega
          | (with_reducible refine wxR ?_); omega
          | (fail_if_success with_reducible refine wkB ?_ ?_); first
            | exact wxG (by assumption)
            | exact wxG (Yn (by assumption))
            | exact wxG (Zr8 _ _)
            | with_reducible exact Ap.fitF (by assumption)
            | with_reducible exact Ap.new
          | fail
      · intro k
        conv => whnf
        exact k
    | fail):p := h k
theorem wk3 {p q:Prop} (k:q) (h:q->p := by
  intro k
  fail_if_success with_reducible refine Gk ?_
  conv => whnf
  first
    | (with_reducible refine Gk ?_); exact k
    | revert k
      apply wcp
      · first
          | with_reducible exact wxA
          | (with_reducible refine wxS ?_); exact wkU
          | (with_reducible refine wxY ?_); omega
          | (with_reducible refine wxN ?_); omega
          | (with_reducible refine wxQ ?_); omega
          | (with_reducible refine wxR ?_); omega
          | with_reducible exact wkC
          | with_reducible exact wkD
          | (fail_if_success with_reducible refine wkB ?_ ?_); first
            | exact wxG (by assumption)
            | exact wxG (Yn (by assumption))
            | exact wxG (Zr8 _ _)
            | with_reducible exact Ap.fitF (by assumption)
            | with_reducible exact Ap.new
          | fail
      · intro k
        conv => whnf
        exact k
    | fail):p := h k
theorem wk2 {p q r:Prop} (k:q) (l:r) (h:q->r->p := by
  intro k l
  conv => whnf
  fail_if_success with_reducible refine Gk ?_
  with_reducible refine wkB ?_ ?_
  · intro e
    conv => whnf
    revert e;exact k
  · intro e
    conv => whnf
    revert e
    exact l):p := h k l
theorem kps {p:Prop} (h:p := by repeat' (first|exact trivial|refine And.intro ?_ ?_|exact rfl|exact ⟨_, rfl, rfl, rfl⟩)):p := h
open Go Go.RowKit Go.ChangeShapes
def WTA (T:Tab) (t:TypeId) (a:AV):Prop:=∀ n,∃ m aZ,WT T (m+n) t aZ/\match T t with
 | some ti=>match ti.desc with
  | .struct _=>a = .agg aZ
  | .array _ _=>a = .agg aZ
  | _=>aZ=[a]
 | none=>False
def WTs (T:Tab):List TypeId->List AV->Prop
 | [],[]=>True
 | t::ts,a::aZ=>WTA T t a/\WTs T ts aZ
 | _,_=>False
section
variable {H:Type} {enc:TypeId × Value->H} {P:Program} {w:World} {spare:Nat->Bool} {held:Bool}
theorem Zne {T:Tab}:∀ (d:Nat) {t:TypeId} {aZ:List AV},WT T d t aZ->WT T (d+1) t aZ
 | 0,t,aZ,h=>h.elim
 | d+1,t,aZ,h=>by
  unfold WT at h ⊢
  cases ht:T t with
  | none=>rw [ht] at h; exact h.elim
  | some ti =>
   rw [ht] at h;dsimp only at h ⊢
   cases hd:ti.desc with
   | bool=>rw [hd] at h; exact h
   | int k=>rw [hd] at h; exact h
   | float k=>rw [hd] at h; exact h
   | string=>rw [hd] at h; exact h
   | slice e =>
    rw [hd] at h;dsimp only at h ⊢
    cases he:T e with
    | none=>rw [he] at h; exact h.elim
    | some te=>rw [he] at h; obtain ⟨els,e1,e2,e3⟩:=h; exact ⟨els,e1,e2,fun x hx=>Zne d (e3 x hx)⟩
   | struct fs =>
    rw [hd] at h;dsimp only at h ⊢;refine ⟨h.1,fun f hf=>?_⟩;have:=h.2 f hf
    cases he:T f.type with
    | none=>rw [he] at this; exact this.elim
    | some tf=>rw [he] at this; exact Zne d this
   | array n e =>
    rw [hd] at h;dsimp only at h ⊢
    cases he:T e with
    | none=>rw [he] at h; exact h.elim
    | some te=>rw [he] at h; exact ⟨h.1,fun i hi=>Zne d (h.2 i hi)⟩
   | _=>rw [hd] at h; exact h.elim
theorem Zx1 {T:Tab} (hT:TabOK P T) {S:List TypeId} (hS:S.all (Zj8 T S)=true) {t:TypeId} {v:Value} {d:DataW H} {p:List MemPlace} {r:Reach} {b0:Nat} (hm:memN S t=true) (hv:Jm P w r b0 t v)
  (h:DataW.Trod enc P w 0 spare held t v d p):∃ a:AV,VR r0 (Im0 w) w (fun _=>False) a v/\WTA T t a:=by
 have hs:=Rj.1 hS t (Zco hm)
 unfold Zj8 at hs
 cases ht:T t with
 | none=>rw [ht] at hs; cases hs
 | some ti =>
  rw [ht] at hs
  dsimp only at hs
  have hu:=hT.und t ti ht
  obtain ⟨fuel,hf⟩:=h
  have hop:=fun n=>Ze0 hT hS (fuel+n) t _ _ hm (DataW.trod_le (Nat.le_add_right fuel n) hf)
  obtain ⟨aZ,h1,h2,h3⟩:=hop 0
  have hwt:∀ n,WT T (fuel+n) t aZ:=by
   intro n
   induction n with
   | zero=>exact h3
   | succ n ih=>exact Zne _ ih
  clear hop hf
  have agg:(∃ cs,v = .agg cs)->∃ a:AV,VR r0 (Im0 w) w (fun _=>False) a v/\a = .agg aZ:=by
   rintro ⟨cs,rfl⟩;exact ⟨.agg aZ,.agg _ _ _ (by simpa [Value.cells] using h1.symm) (fun i c x hc hx=>h2 i c x hc (by simpa [Value.cells] using hx)),rfl⟩
  have one:(∀ cs,v ≠ .agg cs)->∃ a:AV,VR r0 (Im0 w) w (fun _=>False) a v/\aZ=[a]:=by
   intro hn;have e:v.cells.toList=[v]:=by cases v<;>first|rfl|(rename_i cs; exact (hn cs rfl).elim)
   rw [e] at h1 h2;simp only [List.length_cons,List.length_nil] at h1;obtain ⟨c,rfl⟩:=List.length_eq_one_iff.1 h1;exact ⟨c,h2 0 c v rfl rfl,rfl⟩
  unfold Jm at hv
  rw [hu] at hv
  cases hd:ti.desc with
  | bool =>
   rw [hd] at hv hu;obtain ⟨a,h4,h5⟩:=one (fun cs e=>by subst e; simp [Hj,Qbl,hu] at hv);exact ⟨a,h4,fun n=>⟨fuel,aZ,hwt n,by rw [ht]; dsimp only; rw [hd]; exact h5⟩⟩
  | int k =>
   rw [hd] at hv hu;obtain ⟨a,h4,h5⟩:=one (fun cs e=>by subst e; simp [Hj,Qbl,hu] at hv);exact ⟨a,h4,fun n=>⟨fuel,aZ,hwt n,by rw [ht]; dsimp only; rw [hd]; exact h5⟩⟩
  | float k =>
   rw [hd] at hv hu;obtain ⟨a,h4,h5⟩:=one (fun cs e=>by subst e; simp [Hj,Qbl,hu] at hv);exact ⟨a,h4,fun n=>⟨fuel,aZ,hwt n,by rw [ht]; dsimp only; rw [hd]; exact h5⟩⟩
  | string =>
   rw [hd] at hv hu;obtain ⟨a,h4,h5⟩:=one (fun cs e=>by subst e; simp [Hj,Qbl,hu] at hv);exact ⟨a,h4,fun n=>⟨fuel,aZ,hwt n,by rw [ht]; dsimp only; rw [hd]; exact h5⟩⟩
  | slice e =>
   rw [hd] at hv hu;obtain ⟨a,h4,h5⟩:=one (fun cs e=>by subst e; simp [Hj,Qbl,hu] at hv);exact ⟨a,h4,fun n=>⟨fuel,aZ,hwt n,by rw [ht]; dsimp only; rw [hd]; exact h5⟩⟩
  | struct fs =>
   rw [hd] at hv hu;obtain ⟨cs,hcs,_⟩:=hv;obtain ⟨a,h4,h5⟩:=agg ⟨cs,hcs⟩;exact ⟨a,h4,fun n=>⟨fuel,aZ,hwt n,by rw [ht]; dsimp only; rw [hd]; exact h5⟩⟩
  | array n e =>
   rw [hd] at hv hu;obtain ⟨cs,hcs,_⟩:=hv;obtain ⟨a,h4,h5⟩:=agg ⟨cs,hcs⟩;exact ⟨a,h4,fun n=>⟨fuel,aZ,hwt n,by rw [ht]; dsimp only; rw [hd]; exact h5⟩⟩
  | _=>rw [hd] at hs; cases hs
theorem Zmm {T:Tab} (hT:TabOK P T) {S:List TypeId} (hS:S.all (Zj8 T S)=true) {r:Reach} {b0:Nat}:∀ (ts:List TypeId) (vs:List Value) (ds:List (DataW H)) (p:List MemPlace),(∀ t∈ts,memN S t=true)->(∀ (j:Nat) t v,ts[j]?=some t->vs[j]?=some v->Jm P w r b0 t v) ->
  Le enc P w 0 spare held ts vs ds p->∃ aZ:List AV,VRs r0 (Im0 w) w (fun _=>False) aZ vs.toArray/\WTs T ts aZ
 | [],vs,ds,p,_,_,h=>by
  obtain ⟨rfl,rfl,rfl⟩:=trodAll_nil h
  exact ⟨[],⟨rfl,fun i c v hc=>by simp at hc⟩,trivial⟩
 | t::ts,vs,ds,p,hm,hv,h=>by
  obtain ⟨v,vs',d,ds',q,q',rfl,rfl,rfl,hd,hr⟩:=trodAll_cons h
  obtain ⟨a,ha,hw⟩:=Zx1 hT hS (hm t (by simp)) (hv 0 t v rfl rfl) hd
  obtain ⟨aZ,hs,hws⟩:=Zmm hT hS ts vs' ds' q' (fun t' ht'=>hm t' (by simp [ht'])) (fun j t' v' h1 h2=>hv (j+1) t' v' (by simpa using h1) (by simpa using h2)) hr
  refine ⟨a::aZ,⟨by simpa using hs.1,fun i c x hc hx=>?_⟩,hw,hws⟩
  cases i with
  | zero=>simp at hc hx; subst hc; subst hx; exact ha
  | succ i=>exact hs.2 i c x (by simpa using hc) (by simpa using hx)
theorem Ych {T:Tab} (hT:TabOK P T) {S:List TypeId} (hS:S.all (Zj8 T S)=true) {f:FuncId} {ts:List TypeId} (hm:ts.all (memN S)=true) (hlaw:∀ aZ,WTs T ts aZ->PCall P f aZ ⟨.bool true,[]⟩) {r:Reach} {b0:Nat} {vs:Array Value} {ds:List (DataW H)} {p:List MemPlace}
  (hv:∀ (j:Nat) t v,ts[j]?=some t->vs[j]?=some v->Jm P w r b0 t v) (h:Le enc P w 0 spare held ts vs.toList ds p):Calls P f vs w fun e w'=>e = .returned (.bool true)/\Below w.heap.size w w':=by
 obtain ⟨aZ,h1,h2⟩:=Zmm hT hS ts vs.toList ds p (fun t ht=>Rj.1 hm t ht) (fun j t v a b=>hv j t v a (by simpa using b)) h
 refine callsIn_wide.1 (((hlaw aZ h2).2 (Im0 w) w vs (fun b o h=>h) (by simpa using h1)).mono fun e w' hh=>?_)
 obtain ⟨x,r',I',rfl,hp⟩:=hh
 have hval:=hp.val
 cases hval
 exact ⟨rfl,hp.below⟩
theorem Zub (hl:laidOutB P=true) {w' : World} (bel:Below w.heap.size w w'):∀ (ts:List TypeId) (vs:List Value) (ds:List (DataW H)) (p:List MemPlace),ts.all (fun t=>P.readableRec t&&decide (t<P.types.size))=true ->
  Le enc P w 0 (fun _=>true) true ts vs ds p->(∀ x∈p,x.block<w.heap.size)->∃ q,Le enc P w' 0 (fun b=>decide (b<w.heap.size)) true ts vs ds q
 | [],vs,ds,p,_,h,_=>by
  obtain ⟨rfl,rfl,rfl⟩:=trodAll_nil h
  exact ⟨[],trodAll_mk0⟩
 | t::ts,vs,ds,p,ht,h,hlt=>by
  obtain ⟨v,vs',d,ds',q,q',rfl,rfl,rfl,hd,hr⟩:=trodAll_cons h
  simp only [List.all_cons,Qc,decide_eq_true_eq] at ht
  obtain ⟨q2,h2⟩:=Zub hl bel ts vs' ds' q' ht.2 hr (fun x hx=>hlt x (by simp [hx]))
  exact ⟨_,trodAll_cons_mk (Below.trod hl ht.1.1 ht.1.2 hd bel (fun x hx=>hlt x (by simp [hx]))) h2⟩
theorem Zme:∀ (ts:List TypeId) (vs:List Value) (ds:List (DataW H)) (p:List MemPlace),Le enc P w 0 spare held ts vs ds p->∀ x∈p,x.block<w.heap.size
 | [],vs,ds,p,h,x,hx=>by obtain ⟨rfl,rfl,rfl⟩:=trodAll_nil h; simp at hx
 | t::ts,vs,ds,p,h,x,hx=>by
  obtain ⟨v,vs',d,ds',q,q',rfl,rfl,rfl,hd,hr⟩:=trodAll_cons h
  rcases List.mem_append.1 hx with hx|hx
  ·obtain ⟨m,hm⟩:=hd; exact DataW.trod_lt m _ _ _ hm x hx
  ·exact Zme ts vs' ds' q' hr x hx
theorem Zv3 {C:Checked} {os:Os} (started:os.Started) {f:FuncId} {fn:Func} {s:ChangeSpec} {bt:TypeId}
  (own:ownKnob C.prog.godebug=none) (laid:laidOutB C.prog=true) (noInit:C.prog.inits.idxOf? f=none) (hfn:C.prog.funcs[f]?=some fn)
  {T:Tab} (hT:TabOK C.prog T) {S:List TypeId} (hS:S.all (Zj8 T S)=true) (hm:fn.params.toList.all (memN S)=true) (hread:fn.params.toList.all (fun t=>C.prog.readableRec t&&decide (t<C.prog.types.size))=true)
  (hvars:s.vars=[]) (hres:fn.resultTypes = #[bt]) (hbt:C.prog.underlying bt=some .bool)
  (hsp:∀ ds:List (DataW H),ds.length=fn.params.toList.length->s.fn H ds = { results:=[.lit (.bool true)],args:=ds,vars:=[] })
  (hlaw:∀ aZ,WTs T fn.params.toList aZ->PCall C.prog f aZ ⟨.bool true,[]⟩) {conds:List PathCond}
  (witness:∃ (w:World) (tape:Tape) (i:Input),w.os=os/\(w.forCall tape i).Shaped C.prog/\i.vars=[]/\Input.okWide C.prog (w.forCall tape i) .any w.heap.size f i /\
   s.pre6 enc C.prog fn conds false (w.forCall tape i).memory i.args/\({}:Assume).holds C.prog (lone (Frame.enter C.prog f i.args .normal) [] (w.forCall tape i))) :
  ReturnsInHanded {} C os f .any (s.pre6 enc C.prog fn conds false) (s.post enc C.prog fn false true false false):=by
 refine returnsInHanded_of_change own started noInit hfn witness ?_
 intro W base args ds gs before hval0 hW hcnd _
 have hval:∀ (j:Nat) t v,fn.params.toList[j]?=some t->args[j]?=some v->Jm C.prog W .any base t v:=fun j t v a b=>hval0 j t v (by simpa using a) b
 have hW':=hW
 obtain ⟨p,q,hA,hV,rfl,hfz,hnd⟩:=hW
 rw [hvars] at hV
 obtain ⟨rfl,rfl⟩:=trodVars_none hV
 have hlen:∀ (ts:List TypeId) (vs:List Value) (ds:List (DataW H)) (p:List MemPlace),Le enc C.prog W 0 (fun _=>true) true ts vs ds p->ds.length=ts.length:=by
  intro ts
  induction ts with
  | nil=>intro vs ds p h; obtain ⟨rfl,rfl,rfl⟩:=trodAll_nil h; rfl
  | cons t ts ih=>intro vs ds p h; obtain ⟨v,vs',d,ds',q,q',rfl,rfl,rfl,hd,hr⟩:=trodAll_cons h; simp [ih _ _ _ hr]
 refine (Ych hT hS hm hlaw hval hA).mono fun e W' hh=>?_
 obtain ⟨he,bel⟩:=hh
 subst he
 obtain ⟨q2,hq2⟩:=Zub laid bel _ _ _ _ hread hA (Zme _ _ _ _ hA)
 have hsp':=hsp (ds++[]) (by rw [List.append_nil]; exact hlen _ _ _ _ hA)
 refine ⟨_,rfl,ds,[],_,[],q2,[],hW',?_,?_,?_,bel.frame _,fun h=>by cases h⟩
 ·rw [hsp',hres]; exact trodAll_mk1 (shut_bool hbt _)
 ·rw [hsp']; simpa using hq2
 ·rw [hsp',hvars]; rfl
end
open Go Go.RowKit
variable {T:Tab} {d:Nat} {t:TypeId} {aZ:List AV}
theorem Ydp {ti:TI} {k:IntKind} (ht:T t=some ti) (hd:ti.desc = .int k) (h:WT T (d+1) t aZ):∃ n,aZ=[.int k n]/\(Lit.int k n).wf=true:=by
 unfold WT at h; rw [ht] at h; dsimp only at h; rw [hd] at h; exact h
theorem Yhm {ti:TI} (ht:T t=some ti) (hd:ti.desc = .string) (h:WT T (d+1) t aZ):∃ s,aZ=[.str s]/\s.size<=maxLen:=by
 unfold WT at h; rw [ht] at h; dsimp only at h; rw [hd] at h; exact h
theorem Zez {ti te:TI} {e:TypeId} (ht:T t=some ti) (hd:ti.desc = .slice e) (he:T e=some te) (h:WT T (d+1) t aZ):∃ els,aZ=[.isl te.size els]/\els.length<=maxLen/\∀ x∈els,WT T d e x:=by
 unfold WT at h; rw [ht] at h; dsimp only at h; rw [hd] at h; dsimp only at h; rw [he] at h; exact h
theorem Vl {ti:TI} {fs:Array Field} (ht:T t=some ti) (hd:ti.desc = .struct fs) (h:WT T (d+1) t aZ):aZ.length=ti.size/\∀ f∈fs.toList,∃ tf,T f.type=some tf/\WT T d f.type ((aZ.drop f.offset).take tf.size):=by
 unfold WT at h; rw [ht] at h; dsimp only at h; rw [hd] at h; dsimp only at h
 refine ⟨h.1,fun f hf=>?_⟩
 have:=h.2 f hf
 cases hq:T f.type with
 | none=>rw [hq] at this; exact this.elim
 | some tf=>rw [hq] at this; exact ⟨tf,rfl,this⟩
theorem Ya2 {ti te:TI} {n:Nat} {e:TypeId} (ht:T t=some ti) (hd:ti.desc = .array n e) (he:T e=some te) (h:WT T (d+1) t aZ):aZ.length=ti.size/\∀ i,i<n->WT T d e ((aZ.drop (i*te.size)).take te.size):=by
 unfold WT at h; rw [ht] at h; dsimp only at h; rw [hd] at h; dsimp only at h; rw [he] at h; exact h
theorem Zro {a:AV} {ti:TI} (h:WTA T t a) (ht:T t=some ti) {fs:Array Field} (hd:ti.desc = .struct fs) (n:Nat):∃ aZ m,a = .agg aZ/\WT T (m+n+1) t aZ:=by
 obtain ⟨m,aZ,hm,ha⟩:=h (n+1)
 rw [ht] at ha; dsimp only at ha; rw [hd] at ha
 exact ⟨aZ,m,ha,by rw [Nat.add_assoc]; exact hm⟩
def Ycn (T:Tab) (n:Nat):Nat->List Field->Bool
 | i,[]=>Qp i n
 | i,f::fs=>Qp f.offset i&&(match T f.type with
  | some tf=>Qp tf.size 1&&(match tf.desc with
   | .int .i64=>true
   | _=>false)
  | none=>false)&&Ycn T n (i+1) fs
theorem Zjx {n:Nat} (hl:aZ.length=n):∀ (fs:List Field) (i:Nat),Ycn T n i fs=true->(∀ f∈fs,∃ tf,T f.type=some tf/\WT T (d+1) f.type ((aZ.drop f.offset).take tf.size))->∃ ns:List Int,aZ.drop i=ns.map (AV.int .i64)/\ns.length+i=n/\∀ x∈ns,(Lit.int .i64 x).wf=true
 | [],i,h,hf=>by
  have hi:=Qh h
  exact ⟨[],by simp [List.drop_eq_nil_iff]; omega,by simpa using hi,by simp⟩
 | f::fs,i,h,hf=>by
  simp only [Ycn,Qc] at h
  obtain ⟨⟨h1,h2⟩,h3⟩:=h
  obtain ⟨ns,g1,g2,g3⟩:=Zjx hl fs (i+1) h3 (fun g hg=>hf g (by simp [hg]))
  obtain ⟨tf,e1,e2⟩:=hf f (by simp)
  rw [e1] at h2
  simp only [Qc] at h2
  obtain ⟨h4,h5⟩:=h2
  have hk:tf.desc = .int .i64:=by split at h5<;>first|assumption|cases h5
  obtain ⟨x,q1,q2⟩:=Ydp e1 hk e2
  rw [Qh h4,Qh h1] at q1
  have hi:i<aZ.length:=by
   rcases Ou i aZ.length with hi|hi
   ·exact hi
   ·rw [List.drop_of_length_le hi] at q1; simp at q1
  refine ⟨x::ns,?_,by simp; omega,fun y hy=>?_⟩
  ·rw [List.drop_eq_getElem_cons hi] at q1 ⊢
   simp only [List.take_succ_cons,List.take_zero,List.cons.injEq,and_true] at q1;rw [g1,q1]; rfl
  ·rcases List.mem_cons.1 hy with rfl|hy
   ·exact q2
   ·exact g3 y hy
theorem Zjy {ti:TI} {fs:Array Field} (ht:T t=some ti) (hd:ti.desc = .struct fs) (hi:Ycn T ti.size 0 fs.toList=true) (h:WT T (d+2) t aZ):∃ ns:List Int,aZ=ns.map (AV.int .i64)/\ns.length=ti.size/\∀ x∈ns,(Lit.int .i64 x).wf=true:=by
 obtain ⟨h1,h2⟩:=Vl ht hd h
 obtain ⟨ns,g1,g2,g3⟩:=Zjx h1 fs.toList 0 hi h2
 exact ⟨ns,by simpa using g1,by omega,g3⟩
variable {r r' : Locs} {I I' I2:Imm} {w w' : World} {P:Program}
mutual
def Frz (bl:List (Nat × List (List AV))):AV->AV->Prop
 | .asl id idx len,.isl es els=>bl[id]?=some (es,els)/\idx=0/\len=els.length
 | .nils,.isl _ els=>els=[]
 | .agg cs,.agg ds=>FrzL bl cs ds
 | .tup cs,.tup ds=>FrzL bl cs ds
 | v,v'=>v=v'/\Yb v=true
def FrzL (bl:List (Nat × List (List AV))):List AV->List AV->Prop
 | [],[]=>True
 | c::cs,d::ds=>Frz bl c d/\FrzL bl cs ds
 | _,_=>False
end
theorem FrzL.get {bl:List (Nat × List (List AV))}:∀ {cs ds:List AV},FrzL bl cs ds->cs.length=ds.length/\∀ (i:Nat) (d:AV),ds[i]?=some d->∃ c,cs[i]?=some c/\Frz bl c d
 | [],[],_=>⟨rfl,fun i d h=>by simp at h⟩
 | c::cs,d::ds,h=>by
  simp only [FrzL] at h
  obtain ⟨h1,h2⟩:=FrzL.get h.2
  refine ⟨by simp [h1],fun i d' hi=>?_⟩
  cases i with
  | zero=>simp at hi; subst hi; exact ⟨c,rfl,h.1⟩
  | succ i=>simpa using h2 i d' (by simpa using hi)
 | [],_::_,h=>by simp [FrzL] at h
 | _::_,[],h=>by simp [FrzL] at h
theorem Yei {bl:List (Nat × List (List AV))} {D:Nat->Prop} (hst:∀ b o,I' b o->I2 b o)
  (hrow:∀ (j es:Nat) (els:List (List AV)),bl[j]?=some (es,els)->∀ (x:Value),VR r' I' w' D (.asl j 0 els.length) x->VR r' I2 w' (fun _=>False) (.isl es els) x) {v:AV} {x:Value} (hv:VR r' I' w' D v x):∀ v',Frz bl v v'->VR r' I2 w' (fun _=>False) v' x:=by
 have pure:∀ {v:AV} {x:Value},VR r' I' w' D v x->∀ v',(v=v'/\Yb v=true)->VR r' I2 w' (fun _=>False) v' x:=by
  rintro v x hv v' ⟨rfl,hp⟩
  exact (hv.pure hp).mono ⟨fun _ h=>h.elim,fun b o h=>⟨hst b o h,rfl⟩,Qd _⟩
 induction hv with
 | agg D cs vs h0 g ih =>
  intro v' h
  cases v' with
  | agg ds =>
   simp only [Frz] at h;obtain ⟨h1,h2⟩:=FrzL.get h;refine .agg _ _ _ (h0.trans h1) fun i c v hc hx=>?_
   obtain ⟨c',hc',hf⟩:=h2 i c hc;exact ih i c' v hc' hx hrow pure _ hf
  | _=>simp [Frz] at h
 | tup D cs vs h0 g ih =>
  intro v' h
  cases v' with
  | tup ds =>
   simp only [Frz] at h;obtain ⟨h1,h2⟩:=FrzL.get h;refine .tup _ _ _ (h0.trans h1) fun i c v hc hx=>?_
   obtain ⟨c',hc',hf⟩:=h2 i c hc;exact ih i c' v hc' hx hrow pure _ hf
  | _=>simp [Frz] at h
 | asl D id idx len hd hc =>
  intro v' h
  have hv:VR r' I' w' D (.asl id idx len) _:=.asl D id idx len hd hc
  cases v' with
  | isl es els =>
   simp only [Frz] at h;obtain ⟨h1,rfl,rfl⟩:=h;exact hrow _ _ _ h1 _ hv
  | _=>exact pure hv _ (by simpa only [Frz] using h)
 | any D v=>intro v' h; exact pure (.any D v) v' (by cases v'<;>simpa only [Frz] using h)
 | bool D b=>intro v' h; exact pure (.bool D b) v' (by cases v'<;>simpa only [Frz] using h)
 | int D k n=>intro v' h; exact pure (.int D k n) v' (by cases v'<;>simpa only [Frz] using h)
 | flt D k n=>intro v' h; exact pure (.flt D k n) v' (by cases v'<;>simpa only [Frz] using h)
 | cpx D k n m=>intro v' h; exact pure (.cpx D k n m) v' (by cases v'<;>simpa only [Frz] using h)
 | val D a n c=>intro v' h; exact pure (.val D a n c) v' (by cases v'<;>simpa only [Frz] using h)
 | str D s=>intro v' h; exact pure (.str D s) v' (by cases v'<;>simpa only [Frz] using h)
 | ptr D id idx sub hd=>intro v' h; exact pure (.ptr D id idx sub hd) v' (by cases v'<;>simpa only [Frz] using h)
 | ipt D cells b o val h1 h2 ih=>intro v' h; exact pure (.ipt D cells b o val h1 h2) v' (by cases v'<;>simpa only [Frz] using h)
 | nilp D=>intro v' h; exact pure (.nilp D) v' (by cases v'<;>simpa only [Frz] using h)
 | nils D =>
  intro v' h
  cases v' with
  | isl es els =>
   simp only [Frz] at h;subst h;exact .isl0 _ _ _ _
  | _=>exact pure (.nils D) _ (by simpa only [Frz] using h)
 | bsl D id idx sub len cap hd=>intro v' h; exact pure (.bsl D id idx sub len cap hd) v' (by cases v'<;>simpa only [Frz] using h)
 | isl0 D es a cap=>intro v' h; exact pure (.isl0 D es a cap) v' (by cases v'<;>simpa only [Frz] using h)
 | isl D es elems b o cap val hl h0 h1 h2 ih=>intro v' h; exact pure (.isl D es elems b o cap val hl h0 h1 h2) v' (by cases v'<;>simpa only [Frz] using h)
 | amap D id hd=>intro v' h; exact pure (.amap D id hd) v' (by cases v'<;>simpa only [Frz] using h)
 | func D f c0 c1 v0 v1 h0 h1 g0 g1 ih0 ih1=>intro v' h; exact pure (.func D f c0 c1 v0 v1 h0 h1 g0 g1) v' (by cases v'<;>simpa only [Frz] using h)
 | yld D l=>intro v' h; exact pure (.yld D l) v' (by cases v'<;>simpa only [Frz] using h)
theorem PCall.freeze {f:FuncId} {args:List AV} {res:PRes} {v' : AV} (h:PCall P f args res) (hz:Frz res.blks res.v v'):PCall P f args ⟨v',[]⟩:=by
 refine ⟨h.1,fun I w vs hI hv=>(h.2 I w vs hI hv).mono fun e w' hh=>?_⟩
 obtain ⟨x,r',I',rfl,hp⟩:=hh
 let I2:Imm:=fun b o=>I' b o\/∃ (j:Nat) (p:Nat × List (List AV)),res.blks[j]?=some p/\b=(r' j).blk/\∃ (i:Nat) (e:List AV) (jj:Nat) (c:AV),p.2[i]?=some e/\e[jj]?=some c/\o=(r' j).off+i*p.1+jj
 have himm:∀ b o,I' b o->I2 b o:=fun b o h=>.inl h
 refine ⟨x,r',I2,rfl,hp.below,fun b o h=>.inl (hp.immL b o h),fun b o h=>?_,fun b o h=>?_,fun j p hj=>by simp at hj,fun j j' h1=>by simp at h1,?_⟩
 ·rcases h with h|⟨j,p,hj,rfl,_⟩
  ·exact hp.immN b o h
  ·exact .inr (hp.rows j p hj).1
 ·rcases h with h|⟨j,p,hj,rfl,_⟩
  ·exact hp.immS b o h
  ·exact (hp.rows j p hj).2.1
 ·refine (Yei (I2:=I2) himm (fun j es els hj y hy=>?_) hp.val _ hz).mono ⟨fun _ h=>h.elim,fun _ _ h=>⟨h,rfl⟩,Qd _⟩
  obtain ⟨hb1,hb2,⟨he1,he2⟩,hcap,hlen,cs,T,fz,hcells,hsz,hel,hmt,_⟩:=hp.rows j (es,els) hj
  dsimp only at he1 he2 hcap hlen hsz hel
  cases els with
  | nil =>
   cases hy with
   | asl _ _ _ _ hd hc=>exact .isl0 _ _ _ _
  | cons e0 els =>
   cases hy with
   | asl _ _ _ _ hd hc =>
    rw [he1];simp only [Nat.zero_mul,Pm,Ws]
    have hcell:∀ (i:Nat) (e:List AV) (jj:Nat) (c:AV),(e0::els)[i]?=some e->e[jj]?=some c->∃ v,w'.cell? ⟨(r' j).blk,(r' j).off+i*es+jj,none⟩=some v/\VR r' I2 w' (fun _=>False) c v:=by
     intro i e jj c hi hjj;obtain ⟨v,hv1,hv2⟩:=hel i e jj c hi hjj;refine ⟨v,?_,hv2.mono ⟨fun _ h=>h.2.elim,fun b o h=>⟨himm b o h,rfl⟩,Qd _⟩⟩;simp [World.cell?,hcells,hv1]
    refine .isl _ _ _ _ _ _ (fun i jj=>(w'.cell? ⟨(r' j).blk,(r' j).off+i*es+jj,none⟩).getD undef) hcap hlen (fun i e jj c hi hjj=>?_) (fun i e jj c hi hjj=>?_)
    ·obtain ⟨v,hv1,_⟩:=hcell i e jj c hi hjj
     exact ⟨.inr ⟨j,(es,e0::els),hj,rfl,i,e,jj,c,hi,hjj,rfl⟩,by rw [hv1]; rfl⟩
    ·obtain ⟨v,hv1,hv2⟩:=hcell i e jj c hi hjj
     rw [hv1];exact hv2
end Go.Sx
set_option maxRecDepth 20000
namespace Go.Sx
open Go Ieee
theorem Zda {n:Nat}:∀ (todo root:Nat),root*root<=n->Datum.rootFrom n todo root*Datum.rootFrom n todo root<=n
 | 0,root,h=>h
 | todo+1,root,h=>by
  unfold Datum.rootFrom
  dsimp only
  split
  ·rename_i h2; exact Zda todo _ h2
  ·exact Zda todo _ h
theorem Zm6:double.signWeight=2 ^ 63:=rfl
theorem Zgi:double.binade=2 ^ 52:=rfl
theorem Zlk:double.leastPlace = -1074:=rfl
theorem Zgh:double.infRung=2047*2 ^ 52:=rfl
theorem log2_lt {m k:Nat} (h:m<2 ^ k) (h0:0<m):m.log2<k:=(Nat.log2_lt (by omega)).2 h
theorem Zif (m:Nat):m<2 ^ (m.log2+1):=by
 by_cases h:m=0
 ·subst h; decide
 ·exact (Nat.log2_lt h).1 (by omega)
theorem Zmj {R:Nat} (h:R<2047*2 ^ 52):∃ m i,double.read R = .number false m i/\m<2 ^ 53/\(i = -1074\/(i:Int)=(R / 2 ^ 52:Nat)-1075):=by
 unfold Format.read
 have e1:(R / double.signWeight%2==1)=false:=by rw [Zm6,Pe (by omega)]; rfl
 have e2:R%double.signWeight=R:=by rw [Zm6]; exact Of (by omega)
 rw [e1,e2,Zgi,Zgh,Zlk]
 dsimp only
 by_cases h1:R<2 ^ 52
 ·rw [if_pos h1]; exact ⟨R,-1074,rfl,by omega,.inl rfl⟩
 ·rw [if_neg h1,if_pos h]
  refine ⟨_,_,rfl,?_,.inr ?_⟩
  ·have:=Pn R (show 0<2 ^ 52 by decide); omega
  ·have:1<=R / 2 ^ 52:=(Kj (by decide)).2 (by omega)
   omega
theorem Zs1 {m:Nat} {i:Int} (hm:m<2 ^ 53) (hi:i <= -25):Toward.cut .zero false (m <<< i.toNat) (-i).toNat<=2 ^ 28:=by
 have e0:i.toNat=0:=by omega
 rw [e0,Pd]
 unfold Toward.cut
 dsimp only
 rw [Qam,Pm,Ki]
 have hl:=Zif m
 by_cases h:(-i).toNat<=m.log2+2
 ·rw [Wx h]
  have h25:2 ^ 25<=2 ^ (-i).toNat:=Sk (by decide) (by omega)
  have:m / 2 ^ (-i).toNat<=m / 2 ^ 25:=Mz h25 (by decide)
  have:m / 2 ^ 25<2 ^ 28:=Wm (by omega)
  omega
 ·rw [Ga (by omega)]
  have:m<2 ^ (m.log2+2):=Rp hl (Sk (by decide) (by omega))
  rw [Pe this]
  omega
theorem Ybb {m:Nat} {i:Int} (hm:m<2 ^ 53) (hi:i <= -25):∃ r:Nat,(Datum.number false m i).toInt .zero=some (r:Int)/\r<=2 ^ 28:=by
 refine ⟨Toward.cut .zero false (m <<< i.toNat) (-i).toNat,?_,Zs1 hm hi⟩
 simp only [Datum.toInt,Datum.integral,signed,Ro,if_false,Pd]
theorem Zgj {mag:Nat} {place last:Int} (hlast:last=place+mag.log2-52\/(place+mag.log2-52<=last)):Toward.cut .even false (mag <<< (place-last).toNat) (last-place).toNat<=2 ^ 53:=by
 have hle:place+mag.log2-52<=last:=by omega
 have hl:=Zif mag
 unfold Toward.cut
 dsimp only
 by_cases h:place<=last
 ·have e0:(place-last).toNat=0:=by omega
  rw [e0,Pd,Ki]
  have hlow:mag / 2 ^ min (last-place).toNat (mag.log2+2)<2 ^ 53:=by
   by_cases h2:(last-place).toNat<=mag.log2+2
   ·rw [Wx h2]
    refine Wm (Rp hl ?_);rw [<-Ml];exact Sk (by decide) (by omega)
   ·rw [Ga (by omega),Pe (Rp hl (Sk (by decide) (by omega)))]
    decide
  have:∀ b:Bool,b.toNat<=1:=fun b=>by cases b<;>decide
  have:=this (decide (2 ^ min (last-place).toNat (mag.log2+2)<2*(mag%2 ^ min (last-place).toNat (mag.log2+2)))||2 ^ min (last-place).toNat (mag.log2+2)==2*(mag%2 ^ min (last-place).toNat (mag.log2+2))&&mag / 2 ^ min (last-place).toNat (mag.log2+2)%2==1)
  omega
 ·have e0:(last-place).toNat=0:=by omega
  rw [e0,Nat.zero_min,Pd,Nat.div_one,Nat.mod_one,Oh]
  have:mag*2 ^ (place-last).toNat<2 ^ 53:=by
   refine Rp (Pj hl (Ly (by decide))) ?_;rw [<-Ml];exact Sk (by decide) (by omega)
  simp
  omega
theorem Zwv {mag:Nat} {place:Int} (h1:place+mag.log2<=26):∃ r:Nat,(double.read (double.nearest false mag place)).toInt .zero=some (r:Int)/\r<=2 ^ 28:=by
 by_cases h0:mag=0
 ·subst h0
  have e0:double.nearest false 0 place=0:=by unfold Format.nearest; rw [if_pos rfl]; rfl
  rw [e0]
  exact ⟨0,rfl,by decide⟩
 ·unfold Format.nearest
  rw [if_neg h0]
  have e:max (place+mag.log2-double.fractionBits) double.leastPlace=max (place+mag.log2-52) (-1074):=rfl
  dsimp only
  rw [e,Zlk,Zgi,Zgh]
  have hk:=Zgj (mag:=mag) (place:=place) (last:=max (place+mag.log2-52) (-1074)) (.inr (by omega))
  generalize hK:Toward.cut .even false (mag <<< (place-max (place + ↑mag.log2-52) (-1074)).toNat) (max (place + ↑mag.log2-52) (-1074)-place).toNat=K at *
  have hlast:max (place+(mag.log2:Int)-52) (-1074) <= -26:=by omega
  generalize max (place+(mag.log2:Int)-52) (-1074)=last at *
  have hlast2:(last - -1074).toNat<=1048:=by omega
  have hR:(last - -1074).toNat * 2 ^ 52+K<2047*2 ^ 52:=by omega
  rw [Wx (by omega)]
  show ∃ r:Nat,(double.read ((last - -1074).toNat * 2 ^ 52+K)).toInt .zero=some (r:Int)/\r<=2 ^ 28
  obtain ⟨m,i,hr,hm,hi⟩:=Zmj hR
  rw [hr]
  refine Ybb hm ?_
  have:((last - -1074).toNat * 2 ^ 52+K) / 2 ^ 52<=(last - -1074).toNat+2:=by
   rw [Wi,Gq (by decide)]
   have:K / 2 ^ 52<=2:=by
    have:K / 2 ^ 52<=2 ^ 53 / 2 ^ 52:=Nat.div_le_div_right hk;simpa using this
   omega
  omega
theorem Zvw {n:Nat} (h0:0<n) (h1:n<2 ^ 53):double.read (double.nearest false n 0) = .number false (n <<< (52-n.log2)) ((n.log2:Int)-52):=by
 have hL:=log2_lt h1 h0
 have hlo:2 ^ n.log2<=n:=Gb (by omega)
 have hhi:=Zif n
 unfold Format.nearest
 rw [if_neg (by omega)]
 have e:max ((0:Int)+n.log2-double.fractionBits) double.leastPlace=(n.log2:Int)-52:=by
  show max ((0:Int)+n.log2-52) (-1074)=_
  omega
 dsimp only
 rw [e,Zlk,Zgi,Zgh]
 have hc:Toward.cut .even false (n <<< ((0:Int)-((n.log2:Int)-52)).toNat) (((n.log2:Int)-52)-0).toNat=n <<< (52-n.log2):=by
  rw [show ((0:Int)-((n.log2:Int)-52)).toNat=52-n.log2 by omega,show (((n.log2:Int)-52)-0).toNat=0 by omega]
  unfold Toward.cut
  dsimp only
  rw [Nat.zero_min,Pd,Nat.div_one,Nat.mod_one]
  simp
 rw [hc]
 have hm1:2 ^ 52<=n <<< (52-n.log2):=by
  rw [Oh]
  calc 2 ^ 52=2 ^ n.log2*2 ^ (52-n.log2):=by rw [<-Ml]; congr 1; omega
   _<=n*2 ^ (52-n.log2):=Ri _ hlo
 have hm2:n <<< (52-n.log2)<2 ^ 53:=by
  rw [Oh]
  calc n*2 ^ (52-n.log2)<2 ^ (n.log2+1)*2 ^ (52-n.log2):=Pj hhi (Ly (by decide))
   _=2 ^ 53:=by rw [<-Ml]; congr 1; omega
 generalize n <<< (52-n.log2)=m at *
 rw [Wx (by omega)]
 have eT:(((n.log2:Int)-52) - -1074).toNat=n.log2+1022:=by omega
 rw [eT]
 show double.read ((n.log2+1022)*2 ^ 52+m)=_
 unfold Format.read
 have hA:¬ (n.log2+1022)*2 ^ 52+m<2 ^ 52:=by omega
 have hB:(n.log2+1022)*2 ^ 52+m<2047*2 ^ 52:=by omega
 have e3:((n.log2+1022)*2 ^ 52+m)%2 ^ 52=m-2 ^ 52:=by omega
 have e4:((n.log2+1022)*2 ^ 52+m) / 2 ^ 52=n.log2+1023:=by omega
 have e5:(n.log2+1022)*2 ^ 52+m<2 ^ 63:=by omega
 generalize (n.log2+1022)*2 ^ 52+m=R at *
 have e1:(R / double.signWeight%2==1)=false:=by rw [Zm6,Pe e5]; rfl
 have e2:R%double.signWeight=R:=by rw [Zm6]; exact Of e5
 rw [e1,e2,Zgi,Zgh,Zlk]
 dsimp only
 rw [if_neg hA,if_pos hB,e3,e4]
 have f1:2 ^ 52+(m-2 ^ 52)=m:=by omega
 have f2:(-1074:Int)+((n.log2+1023-1:Nat):Int)=(n.log2:Int)-52:=by omega
 rw [f1,f2]
theorem Ybh {n:Int} (h0:0<=n) (h1:n<9007199254740992):∃ (y:Nat) (r:Int),FloatKind.f64.format.sqrt (floatOfInt .f64 n)=some y/\floatToIntVal .f64 y .i64=some r/\0<=r/\r<=268435456:=by
 have key:∃ (d:Datum),(double.read (double.nearest false n.natAbs 0)).root 54=some d/\∃ r:Nat,(double.read (double.write d)).toInt .zero=some (r:Int)/\r<=2 ^ 28:=by
  by_cases hz:n=0
  ·subst hz
   exact ⟨.number false 0 (-1074),rfl,0,rfl,by decide⟩
  ·have hn0:0<n.natAbs:=by omega
   have hn1:n.natAbs<2 ^ 53:=by omega
   rw [Zvw hn0 hn1];have hL:=log2_lt hn1 hn0;generalize hm:n.natAbs <<< (52-n.natAbs.log2)=m
   have hm2:m<2 ^ 53:=by
    have hhi:=Zif n.natAbs;rw [<-hm,Oh]
    calc n.natAbs*2 ^ (52-n.natAbs.log2)<2 ^ (n.natAbs.log2+1)*2 ^ (52-n.natAbs.log2):=Pj hhi (Ly (by decide))
     _=2 ^ 53:=by rw [<-Ml]; congr 1; omega
   have hm1:2 ^ 52<=m:=by
    have hlo:2 ^ n.natAbs.log2<=n.natAbs:=Gb (by omega);rw [<-hm,Oh]
    calc 2 ^ 52=2 ^ n.natAbs.log2*2 ^ (52-n.natAbs.log2):=by rw [<-Ml]; congr 1; omega
     _<=n.natAbs*2 ^ (52-n.natAbs.log2):=Ri _ hlo
   have hlog:m.log2=52:=by
    have a1:=log2_lt hm2 (by omega);have a2:52<=m.log2:=(Qax (by omega)).2 hm1;omega
   unfold Datum.root;dsimp only;rw [if_neg (by omega),if_neg (by decide),hlog];refine ⟨_,rfl,?_⟩;unfold Format.write;dsimp only;generalize hmore:2*54-52+(((n.natAbs.log2:Int)-52-((2*54-52:Nat):Int))%2).toNat=more;have hmore2:56<=more/\more<=57:=by omega
   generalize hw:Datum.rootFrom (m <<< more) ((m <<< more).log2 / 2+1) 0=whole;have hwle:whole*whole<=m <<< more:=by rw [<-hw]; exact Zda _ _ (by simp)
   have hsm:m <<< more<2 ^ 110:=by
    rw [Oh]
    calc m*2 ^ more<2 ^ 53*2 ^ more:=Pj hm2 (Ly (by decide))
     _<=2 ^ 53*2 ^ 57:=Ft _ (Sk (by decide) hmore2.2)
     _=2 ^ 110:=by decide
   have hwl:whole<2 ^ 55:=by
    rcases Ou whole (2 ^ 55) with h|h
    ·exact h
    ·have:=Kh h h
     omega
   refine Zwv ?_;have hb:∀ b:Bool,b.toNat<=1:=fun b=>by cases b<;>decide
   have hb:=hb (whole*whole != m <<< more);generalize (whole*whole != m <<< more).toNat=c at *
   by_cases hz:2*whole+c=0
   ·rw [hz]; have:Nat.log2 0=0:=by decide
    rw [this]; omega
   ·have:=log2_lt (m:=2*whole+c) (k:=56) (by omega) (by omega)
    omega
 obtain ⟨d,hd,r,hr,hrb⟩:=key
 refine ⟨double.write d,(r:Int),?_,?_,by omega,by omega⟩
 ·show ((double.read (double.write (.number (decide (n<0)) n.natAbs 0))).root 54).map double.write=_
  rw [decide_eq_false (by omega)]
  show ((double.read (double.nearest false n.natAbs 0)).root 54).map double.write=_
  rw [hd]; rfl
 ·unfold floatToIntVal
  show (match (double.read (double.write d)).toInt .zero with
   | some n=>if IntKind.i64.min<=n/\n<=IntKind.i64.max then some n else none
   | none=>none)=_
  rw [hr]
  dsimp only
  rw [if_pos (by
   have e1:IntKind.i64.min = -9223372036854775808:=by decide
   have e2:IntKind.i64.max=9223372036854775807:=by decide
   rw [e1,e2]; omega)]
end Go.Sx
set_option maxRecDepth 20000
namespace Go.Sx
open Go Ieee
theorem Zs0 {m:Nat} {i:Int} (hi:i<=0):Toward.cut .zero false (m <<< i.toNat) (-i).toNat<=m / 2 ^ (-i).toNat:=by
 have e0:i.toNat=0:=by omega
 rw [e0,Pd]
 unfold Toward.cut
 dsimp only
 rw [Qam,Pm,Ki]
 by_cases h:(-i).toNat<=m.log2+2
 ·rw [Wx h]; exact Qd _
 ·rw [Ga (by omega)]
  have:m<2 ^ (m.log2+2):=Rp (Zif m) (Sk (by decide) (by omega))
  rw [Pe this]
  exact Qn _
theorem Znj {m:Nat} {i:Int} {B:Nat} (hi:i<=0) (hB:m / 2 ^ (-i).toNat<=B):∃ r:Nat,(Datum.number false m i).toInt .zero=some (r:Int)/\r<=B:=by
 refine ⟨Toward.cut .zero false (m <<< i.toNat) (-i).toNat,?_,Qt (Zs0 hi) hB⟩
 simp only [Datum.toInt,Datum.integral,signed,Ro,if_false,Pd]
theorem Zpb {R:Nat} (h0:2 ^ 52<=R) (h:R<2047*2 ^ 52):double.read R = .number false (2 ^ 52+R%2 ^ 52) ((R / 2 ^ 52:Nat)-1075):=by
 unfold Format.read
 have e1:(R / double.signWeight%2==1)=false:=by rw [Zm6,Pe (by omega)]; rfl
 have e2:R%double.signWeight=R:=by rw [Zm6]; exact Of (by omega)
 rw [e1,e2,Zgi,Zgh,Zlk]
 dsimp only
 rw [if_neg (by omega),if_pos h]
 have:1<=R / 2 ^ 52:=(Kj (by decide)).2 (by omega)
 congr 1
 omega
theorem Zrp {mag:Nat} {place:Int} (h1:place+mag.log2<=30):∃ r:Nat,(double.read (double.nearest false mag place)).toInt .zero=some (r:Int)/\r<=2 ^ 31:=by
 by_cases h0:mag=0
 ·subst h0
  have e0:double.nearest false 0 place=0:=by unfold Format.nearest; rw [if_pos rfl]; rfl
  rw [e0]
  exact ⟨0,rfl,by decide⟩
 ·unfold Format.nearest
  rw [if_neg h0]
  have e:max (place+mag.log2-double.fractionBits) double.leastPlace=max (place+mag.log2-52) (-1074):=rfl
  dsimp only
  rw [e,Zlk,Zgi,Zgh]
  have hk:=Zgj (mag:=mag) (place:=place) (last:=max (place+mag.log2-52) (-1074)) (.inr (by omega))
  generalize hK:Toward.cut .even false (mag <<< (place-max (place + ↑mag.log2-52) (-1074)).toNat) (max (place + ↑mag.log2-52) (-1074)-place).toNat=K at *
  have hlast:max (place+(mag.log2:Int)-52) (-1074) <= -22:=by omega
  have hlast3 : -1074<=max (place+(mag.log2:Int)-52) (-1074):=by omega
  generalize max (place+(mag.log2:Int)-52) (-1074)=last at *
  have hlast2:(last - -1074).toNat<=1052:=by omega
  have hR:(last - -1074).toNat * 2 ^ 52+K<2047*2 ^ 52:=by omega
  rw [Wx (by omega)]
  show ∃ r:Nat,(double.read ((last - -1074).toNat * 2 ^ 52+K)).toInt .zero=some (r:Int)/\r<=2 ^ 31
  by_cases hs:(last - -1074).toNat * 2 ^ 52+K<2 ^ 52
  ·obtain ⟨m,i,hr,hm,hi⟩:=Zmj hR
   rw [hr]
   have hi2:i <= -1074:=by
    rcases hi with rfl|hi
    ·omega
    ·rw [Pe hs] at hi; omega
   refine Znj (by omega) ?_;have h25:2 ^ 53<=2 ^ (-i).toNat:=Sk (by decide) (by omega);have:m / 2 ^ (-i).toNat<=m / 2 ^ 53:=Mz h25 (by decide);have:m / 2 ^ 53=0:=Pe hm;omega
  rw [Zpb (by omega) hR]
  generalize hL:(last - -1074).toNat=L at *
  by_cases hK3:K=2 ^ 53
  ·subst hK3
   have e1:(L*2 ^ 52+2 ^ 53) / 2 ^ 52=L+2:=by omega
   have e2:(L*2 ^ 52+2 ^ 53)%2 ^ 52=0:=by omega
   rw [e1,e2];refine Znj (by omega) ?_;have h25:2 ^ 21<=2 ^ (-(((L+2:Nat):Int)-1075)).toNat:=Sk (by decide) (by omega);have:(2 ^ 52+0) / 2 ^ (-(((L+2:Nat):Int)-1075)).toNat<=(2 ^ 52+0) / 2 ^ 21:=Mz h25 (by decide);have:(2 ^ 52+0) / 2 ^ 21=2 ^ 31:=by decide
   omega
  ·have hq:(L*2 ^ 52+K) / 2 ^ 52<=L+1:=by
    rw [Wi,Gq (by decide)];have:K / 2 ^ 52<2:=Wm (by omega);omega
   generalize (L*2 ^ 52+K) / 2 ^ 52=q at *;have hmod:=Pn (L*2 ^ 52+K) (show 0<2 ^ 52 by decide);generalize (L*2 ^ 52+K)%2 ^ 52=f at *;refine Znj (by omega) ?_;have h25:2 ^ 22<=2 ^ (-((q:Int)-1075)).toNat:=Sk (by decide) (by omega);have:(2 ^ 52+f) / 2 ^ (-((q:Int)-1075)).toNat<=(2 ^ 52+f) / 2 ^ 22:=Mz h25 (by decide);have:(2 ^ 52+f) / 2 ^ 22<2 ^ 31:=Wm (by omega);omega
theorem Ybt {n:Nat} (h0:2 ^ 53<=n) (h1:n<4611686018427387000):∃ m i,double.read (double.nearest false n 0) = .number false m i/\2 ^ 52<=m/\m<2 ^ 53/\i<=9/\0<=i:=by
 have hL:=log2_lt (m:=n) (k:=62) (by omega) (by omega)
 have hL0:53<=n.log2:=(Qax (by omega)).2 h0
 have hlo:2 ^ n.log2<=n:=Gb (by omega)
 have hhi:=Zif n
 unfold Format.nearest
 rw [if_neg (by omega)]
 have e:max ((0:Int)+n.log2-double.fractionBits) double.leastPlace=(n.log2:Int)-52:=by
  show max ((0:Int)+n.log2-52) (-1074)=_
  omega
 dsimp only
 rw [e,Zlk,Zgi,Zgh]
 have hk:=Zgj (mag:=n) (place:=0) (last:=(n.log2:Int)-52) (.inr (by omega))
 have hk2:Toward.cut .even false (n <<< ((0:Int)-((n.log2:Int)-52)).toNat) (((n.log2:Int)-52)-0).toNat<=n / 2 ^ (n.log2-52)+1/\n / 2 ^ (n.log2-52)<=Toward.cut .even false (n <<< ((0:Int)-((n.log2:Int)-52)).toNat) (((n.log2:Int)-52)-0).toNat:=by
  rw [show ((0:Int)-((n.log2:Int)-52)).toNat=0 by omega,show (((n.log2:Int)-52)-0).toNat=n.log2-52 by omega,Pd]
  unfold Toward.cut
  dsimp only
  rw [Wx (by omega),Ki]
  have:∀ b:Bool,b.toNat<=1:=fun b=>by cases b<;>decide
  have:=this (decide (2 ^ (n.log2-52)<2*(n%2 ^ (n.log2-52)))||2 ^ (n.log2-52)==2*(n%2 ^ (n.log2-52))&&n / 2 ^ (n.log2-52)%2==1)
  omega
 have hq1:2 ^ 52<=n / 2 ^ (n.log2-52):=by
  refine (Kj (Ly (by decide))).2 ?_
  rw [<-Ml,show 52+(n.log2-52)=n.log2 by omega]
  exact hlo
 have hq2:n / 2 ^ (n.log2-52)<2 ^ 53:=by
  refine Wm (Rp hhi ?_)
  rw [<-Ml]
  exact Sk (by decide) (by omega)
 have hq3:n.log2=61->n / 2 ^ (n.log2-52)<=9007199254740990:=by
  intro h; rw [h]
  have:n / 2 ^ (61-52)<9007199254740991:=Wm (by simp; omega)
  omega
 generalize n / 2 ^ (n.log2-52)=q at *
 generalize Toward.cut .even false (n <<< ((0:Int)-((n.log2:Int)-52)).toNat) (((n.log2:Int)-52)-0).toNat=K at *
 generalize n.log2=L at *
 rw [show (((L:Int)-52) - -1074).toNat=L+1022 by omega,Wx (by omega)]
 show ∃ m i,double.read ((L+1022)*2 ^ 52+K) = .number false m i/\2 ^ 52<=m/\m<2 ^ 53/\i<=9/\0<=i
 rw [Zpb (by omega) (by omega)]
 refine ⟨_,_,rfl,by omega,by omega,?_,?_⟩
 ·have:((L+1022)*2 ^ 52+K) / 2 ^ 52<=1084:=by omega
  omega
 ·have:1075<=((L+1022)*2 ^ 52+K) / 2 ^ 52:=by omega
  omega
theorem Yfg {m:Nat} {i:Int} (hm1:2 ^ 52<=m) (hm2:m<2 ^ 53) (hi:i<=9):∃ d,(Datum.number false m i).root 54=some d/\∃ r:Nat,(double.read (double.write d)).toInt .zero=some (r:Int)/\r<=2 ^ 31:=by
 have hlog:m.log2=52:=by
  have a1:=log2_lt hm2 (by omega)
  have a2:52<=m.log2:=(Qax (by omega)).2 hm1
  omega
 unfold Datum.root
 dsimp only
 rw [if_neg (by omega),if_neg (by decide),hlog]
 refine ⟨_,rfl,?_⟩
 unfold Format.write
 dsimp only
 generalize hmore:2*54-52+((i-((2*54-52:Nat):Int))%2).toNat=more
 have hmore2:56<=more/\more<=57:=by omega
 generalize hw:Datum.rootFrom (m <<< more) ((m <<< more).log2 / 2+1) 0=whole
 have hwle:whole*whole<=m <<< more:=by rw [<-hw]; exact Zda _ _ (by simp)
 have hsm:m <<< more<2 ^ 110:=by
  rw [Oh]
  calc m*2 ^ more<2 ^ 53*2 ^ more:=Pj hm2 (Ly (by decide))
   _<=2 ^ 53*2 ^ 57:=Ft _ (Sk (by decide) hmore2.2)
   _=2 ^ 110:=by decide
 have hwl:whole<2 ^ 55:=by
  rcases Ou whole (2 ^ 55) with h|h
  ·exact h
  ·have:=Kh h h
   omega
 refine Zrp ?_
 have hb:∀ b:Bool,b.toNat<=1:=fun b=>by cases b<;>decide
 have hb:=hb (whole*whole != m <<< more)
 generalize (whole*whole != m <<< more).toNat=c at *
 by_cases hz:2*whole+c=0
 ·rw [hz]; have:Nat.log2 0=0:=by decide
  rw [this]; omega
 ·have:=log2_lt (m:=2*whole+c) (k:=56) (by omega) (by omega)
  omega
theorem Ybi {n:Int} (h0:0<=n) (h1:n<4611686018427387000):∃ (y:Nat) (r:Int),FloatKind.f64.format.sqrt (floatOfInt .f64 n)=some y/\floatToIntVal .f64 y .i64=some r/\0<=r/\r<=2147483648:=by
 by_cases hsm:n<9007199254740992
 ·obtain ⟨y,r,a,b,c,d⟩:=Ybh h0 hsm
  exact ⟨y,r,a,b,c,by omega⟩
 have key:∃ (d:Datum),(double.read (double.nearest false n.natAbs 0)).root 54=some d/\∃ r:Nat,(double.read (double.write d)).toInt .zero=some (r:Int)/\r<=2 ^ 31:=by
  obtain ⟨m,i,hr,hm1,hm2,hi,_⟩:=Ybt (n:=n.natAbs) (by omega) (by omega)
  rw [hr]
  exact Yfg hm1 hm2 hi
 obtain ⟨d,hd,r,hr,hrb⟩:=key
 refine ⟨double.write d,(r:Int),?_,?_,by omega,by omega⟩
 ·show ((double.read (double.write (.number (decide (n<0)) n.natAbs 0))).root 54).map double.write=_
  rw [decide_eq_false (by omega)]
  show ((double.read (double.nearest false n.natAbs 0)).root 54).map double.write=_
  rw [hd]; rfl
 ·unfold floatToIntVal
  show (match (double.read (double.write d)).toInt .zero with
   | some n=>if IntKind.i64.min<=n/\n<=IntKind.i64.max then some n else none
   | none=>none)=_
  rw [hr]
  dsimp only
  rw [if_pos (by
   have e1:IntKind.i64.min = -9223372036854775808:=by decide
   have e2:IntKind.i64.max=9223372036854775807:=by decide
   rw [e1,e2]; omega)]
open Go Go.RowKit
variable {P:Program} {N:Nat}
theorem Zoy {h:Nat->ABlk} {id len es:Nat} {elems:List (List AV)} {mt pu:Bool} (hb:h id = .row es elems mt pu) (hl:len=elems.length):Yv es h (.asl id 0 len)=some (elems,pu):=by
 unfold Yv
 dsimp only
 rw [hb]
 dsimp only
 rw [Jl,List.drop_zero,hl,List.take_length]
 rfl
theorem Zlp {T:Tab} {ok:TypeId->Bool} {k:Nat} {ev:Operand->AV} {h:Nat->ABlk} {x y:Operand} {t tx e e' : TypeId} {ti tj te:TI} {id len:Nat} {elems ys:List (List AV)} {pu py:Bool} {K:AV × Eff->Prop}
  (h1:T t=some ti) (h2:T tx=some tj) (h3:ti.desc = .slice e) (h4:tj.desc = .slice e') (h5:T e=some te) (hx:ev x = .asl id 0 len) (hb:h id = .row te.size elems true pu)
  (hy:Yv te.size h (ev y)=some (ys,py)) (hbt:Se (1000000*te.bytes) 140737488355328=true) (ho:Uc ys=true) (hne:ys≠[]) (hl:len=elems.length) (hbd:elems.length+ys.length<=1000000)
  (hk:K (.asl k 0 (elems.length+ys.length),.app id (.row te.size (elems++ys) true (pu&&py)))):Got (aop T ok k ev h (.call { callee:=.builtin .append,args:=#[x,y],argTypes:=#[t,tx] })) K:=by
 have ha:aopA T ok k ev h (.call { callee:=.builtin .append,args:=#[x,y],argTypes:=#[t,tx] })=none:=rfl
 have hbb:aopB T k ev h (.call { callee:=.builtin .append,args:=#[x,y],argTypes:=#[t,tx] })=Ziq k h te (ev x) (ev y):=by
  unfold aopB
  dsimp only
  rw [h1,h2]
  dsimp only
  rw [h3,h4]
  dsimp only
  rw [h5]
 refine Sw (x:=(.asl k 0 (elems.length+ys.length),.app id (.row te.size (elems++ys) true (pu&&py)))) ?_ hk
 unfold aop
 rw [ha]
 dsimp only
 rw [hbb,hx]
 unfold Ziq
 rw [hy]
 cases ys with
 | nil=>exact absurd rfl hne
 | cons y0 ys =>
  dsimp only
  rw [Zoy hb hl]
  dsimp only
  have b1:Se (elems.length+(y0::ys).length) 1000000000000=true:=Nx (Qt hbd (by decide))
  have b2:Se ((elems.length+(y0::ys).length)*te.bytes) 140737488355328=true:=Nx (Qt (Ri _ hbd) (Qm hbt))
  have b3:Qp (0+len) elems.length=true:=by rw [hl,Nat.zero_add]; exact Jl _
  rw [b1,b2,hb]
  dsimp only
  rw [b3,ho]
  rfl
variable {r r' : Locs} {I I' I2:Imm} {w w' : World} {P:Program}
mutual
def Frk (bl:List (Nat × List (List AV))):AV->AV->Prop
 | .asl id idx len,.isl es els=>(bl[id]?=some (es,els)/\id≠0)/\idx=0/\len=els.length
 | .asl id idx len,.asl id' idx' len'=>id=0/\id'=0/\idx=idx'/\len=len'
 | .nils,.isl _ els=>els=[]
 | .agg cs,.agg ds=>FrkL bl cs ds
 | .tup cs,.tup ds=>FrkL bl cs ds
 | v,v'=>v=v'/\Yb v=true
def FrkL (bl:List (Nat × List (List AV))):List AV->List AV->Prop
 | [],[]=>True
 | c::cs,d::ds=>Frk bl c d/\FrkL bl cs ds
 | _,_=>False
end
variable {P:Program}
theorem Zln (w:World) (o:Obj):Below w.heap.size w (w.alloc o):=⟨rfl,rfl,rfl,by simp,fun _ hk=>Zx w o hk⟩
theorem Zpf {f:FuncId} {es:Nat} (hfn:FnOK P f) (h:∀ (a:Option Addr) (cap:Nat) (w:World),Calls P f #[.slice a 0 cap] w fun e w'=>∃ a' cap',e = .returned (.slice a' 0 cap')/\Below w.heap.size w w'):PCall P f [.isl es []] ⟨.isl es [],[]⟩:=by
 refine ⟨hfn,fun I w vs hI hv=>?_⟩
 obtain ⟨hs,hc⟩:=hv
 have hs:vs.size=1:=hs
 obtain ⟨v0,rfl⟩:∃ v0,vs = #[v0]:=⟨vs[0],by
  apply Array.ext
  ·simp [hs]
  ·intro i h1 h2
   have:i=0:=by omega
   subst this; rfl⟩
 have h0:=hc 0 _ v0 rfl rfl
 obtain ⟨a,cap,rfl⟩:∃ a cap,v0 = .slice a 0 cap:=by
  cases h0 with
  | isl0=>exact ⟨_,_,rfl⟩
  | isl=>exact ⟨_,_,rfl⟩
 refine (callsIn_wide.2 (h a cap w)).mono fun e w' ⟨a',cap',he,hb⟩=>⟨_,r0,I,he,hb,fun _ _ h=>h,fun _ _ h=>.inl h,fun b o h=>Rp (hI b o h) hb.size,fun j p hj=>by simp at hj,fun j j' h1=>by simp at h1,.isl0 _ _ _ _⟩
theorem Znc {T:Tab} {ok:TypeId->Bool} {k:Nat} {ev:Operand->AV} {h:Nat->ABlk} {x lo hi:Operand} {t e:TypeId} {ti te:TI} {id len ll hh:Nat} {elems:List (List AV)} {mt pu:Bool} {K:AV × Eff->Prop}
  (h1:T t=some ti) (h3:ti.desc = .slice e) (h5:T e=some te) (hx:ev x = .asl id 0 len) (hb:h id = .row te.size elems mt pu) (hlo:Zfj (some (ev lo)) 0=some ll) (hhi:Zfj (some (ev hi)) len=some hh) (hl:ll<=hh) (hl2:hh<=len) (hl3:ll<len)
  (hk:K (.asl id (0+ll) (hh-ll),.none)):Got (aop T ok k ev h (.slice t x (some lo) (some hi) none)) K:=by
 have ha:aopA T ok k ev h (.slice t x (some lo) (some hi) none)=none:=rfl
 have hs:Zc6 T h t (ev x) (some (ev lo)) (some (ev hi))=some (.asl id (0+ll) (hh-ll)):=by
  unfold Zc6
  rw [h1]
  dsimp only
  rw [h3]
  dsimp only
  rw [h5]
  dsimp only
  rw [hx]
  dsimp only
  rw [hb]
  dsimp only
  rw [hlo,hhi]
  show cond _ _ _=_
  have b1:Se ll hh=true:=Nx hl
  have b2:Se hh len=true:=Nx hl2
  have b3:Nat.blt ll len=true:=by rw [Sm]; exact hl3
  rw [Jl,b1,b2,b3,Bool.or_true]
  rfl
 refine Sw (x:=(.asl id (0+ll) (hh-ll),.none)) ?_ hk
 unfold aop
 rw [ha]
 dsimp only
 show ret (Zc6 T h t (ev x) (some (ev lo)) (some (ev hi)))=_
 rw [hs]
 rfl
section
variable {P:Program} {r:Locs} {I:Imm} {w:World} {D:Nat->Prop}
def NS (a b:AV):Prop:=a=b\/(a = .nils/\∃ es,b = .isl es [])
theorem NS.vr {a b:AV} (h:NS a b) {v:Value} (hv:VR r I w D a v):VR r I w D b v:=by
 rcases h with rfl|⟨rfl,es,rfl⟩
 ·exact hv
 ·cases hv; exact .isl0 _ _ _ _
def NSL:List AV->List AV->Prop
 | [],[]=>True
 | a::l,b::m=>NS a b/\NSL l m
 | _,_=>False
theorem NSL.get:∀ {l m:List AV},NSL l m->l.length=m.length/\∀ (i:Nat) (b:AV),m[i]?=some b->∃ a,l[i]?=some a/\NS a b
 | [],[],_=>⟨rfl,fun i b h=>by simp at h⟩
 | a::l,b::m,h=>by
  simp only [NSL] at h
  obtain ⟨h1,h2⟩:=NSL.get h.2
  refine ⟨by simp [h1],fun i b' hi=>?_⟩
  cases i with
  | zero=>simp at hi; subst hi; exact ⟨a,rfl,h.1⟩
  | succ i=>simpa using h2 i b' (by simpa using hi)
 | [],_::_,h=>by simp [NSL] at h
 | _::_,[],h=>by simp [NSL] at h
theorem NSL.vr {l m:List AV} (h:NSL l m) {v:Value} (hv:VR r I w D (.agg l) v):VR r I w D (.agg m) v:=by
 obtain ⟨h1,h2⟩:=h.get
 cases hv with
 | agg _ _ vs h0 g =>
  refine .agg _ _ _ (h0.trans h1) fun i c x hc hx=>?_
  obtain ⟨a,ha,hn⟩:=h2 i c hc
  exact hn.vr (g i a x ha hx)
def NA (a b:AV):Prop:=NS a b\/∃ l m,a = .agg l/\b = .agg m/\NSL l m
theorem NA.vr {a b:AV} (h:NA a b) {v:Value} (hv:VR r I w D a v):VR r I w D b v:=by
 rcases h with h|⟨l,m,rfl,rfl,h⟩
 ·exact h.vr hv
 ·exact h.vr hv
def NAL:List AV->List AV->Prop
 | [],[]=>True
 | a::l,b::m=>NA a b/\NAL l m
 | _,_=>False
theorem NAL.get:∀ {l m:List AV},NAL l m->l.length=m.length/\∀ (i:Nat) (b:AV),m[i]?=some b->∃ a,l[i]?=some a/\NA a b
 | [],[],_=>⟨_root_.rfl,fun i b h=>by simp at h⟩
 | a::l,b::m,h=>by
  simp only [NAL] at h
  obtain ⟨h1,h2⟩:=NAL.get h.2
  refine ⟨by simp [h1],fun i b' hi=>?_⟩
  cases i with
  | zero=>simp at hi; subst hi; exact ⟨a,_root_.rfl,h.1⟩
  | succ i=>simpa using h2 i b' (by simpa using hi)
 | [],_::_,h=>by simp [NAL] at h
 | _::_,[],h=>by simp [NAL] at h
theorem PCall.nilArgs {f:FuncId} {l m:List AV} {res:PRes} (h:PCall P f m res) (hn:NAL l m):PCall P f l res:=by
 obtain ⟨h1,h2⟩:=hn.get
 refine ⟨h.1,fun I w vs hI hv=>h.2 I w vs hI ⟨hv.1.trans h1,fun i c v hc hv'=>?_⟩⟩
 obtain ⟨a,ha,hn⟩:=h2 i c hc
 exact hn.vr (hv.2 i a v ha hv')
end
variable {P:Program} {N B l:Nat} {Ig:Imm} {JX:Zs->(Nat->Prop)->World->Prop}
variable {r r' : Locs} {D D' : Nat->Prop} {I I' : Imm} {w w' w0:World} {I0 Ig:Imm} {B n n' k N l:Nat} {pr pr' pr2:Nat->Obj->Prop} {h:Nat->ABlk} {P:Program} {JX:Zs->(Nat->Prop)->World->Prop} {O:Nat->Prop}
theorem Znh {cx:Cx} (hcx:CxOK P cx) {pc:PC} (hpc:PCOK P pc) (hm:P.follows .mixedOrders=true) {F:Fence} (hF:FOK F) (id:Nat) (ops:Array Oper) {env:Env} {σ:St} {K:Env->St->Prop} (hv:Zgp cx pc N ops.toList env σ K) {a:Act} (S:SR B w0 I0 pr N r I D env σ a w)
  {Q:Exit->Act->World->Prop} (hq:∀ a' w',Leaves B w0 I0 pr N r I D w a.defers K a' w'->Q .normal a' w'):(Code.region id ops true).wpIn F 0 P Q a w:=by
 unfold Zgp at hv
 cases hnd:Yl ops.toList with
 | false=>rw [hnd] at hv; exact hv.elim
 | true =>
  rw [hnd] at hv
  obtain ⟨recs,env',σ',⟨hok,hK⟩,h2,h3,h4,h5,h6,h7,h8⟩:=Zni ops.toList env σ _ _ _ hv
  simp only [List.reverse_nil,List.nil_append] at hok
  refine wpIn_region_any hm ?_
  have hfalse:∀ q,(Pq ops.size false).getD q false=false:=by
   intro q;rw [Rh,Array.getElem?_replicate];split<;>rfl
  have main:=Zux (B:=B) (w0:=w0) (I0:=I0) (pr:=pr) (N:=N) (D0:=D) (k0:=σ.next) (nf:=σ'.next) (rs:=r) (Is:=I) (ws:=w) (ds:=a.defers) hcx hpc hF h2 hnd hok h3 (fun id hd=>(S.hr.dom id hd).1) h6 h7
   Q (fun a' w' hi=>?_) ops.size (Pq ops.size false) a w.drew (by simp) (fun q p hq _=>by dsimp only at hq; rw [hfalse] at hq; cases hq) (by simpa using List.countP_le_length (l:=List.replicate ops.size false)) ?_
  ·simpa using main
  ·obtain ⟨⟨r2,I2,D2,H2,hD2,hsz,htm,hst⟩,hdf⟩:=hi
   rw [<-h5] at H2;rw [<-h4] at htm;exact hq _ _ ⟨env',σ',r2,I2,D2,hK,⟨H2,hsz,htm⟩,by simpa using hdf,hst⟩
  ·refine ⟨⟨r,I,D,?_,fun id hd=>.inl hd,S.er.1,?_,Jn r D I w⟩,rfl⟩
   ·rw [Zyz (recs:=recs) hfalse]
    exact S.hr.drew.next h8
   ·rw [Zzw (recs:=recs) hfalse]
    exact fun t=>(S.er.2 t).mono (Jn r D I w)
structure YEnv (P:Program) (B:Nat) (Ig:Imm) (l:Nat) (sc:Bool) (JX:Zs->(Nat->Prop)->World->Prop):Prop where
 low:∀ b o,Ig b o->b<B
 grow:∀ z O w w',JX z O w->Chg O w w'->JX z (fun b=>O b\/(w.heap.size<=b/\b<w'.heap.size)) w'
 round:∀ x zs O w ys I',(sc=true->Zbd x=true)->JX (some (x::zs)) O w->(∀ b o,Ig b o->I' b o)->(∀ b o,I' b o->Ig b o\/O b)->VRs r0 I' w (fun _=>False) x ys ->
  YieldAt Sh 0 P l ys w fun e w'=>∃ b,e = .returned (.bool b)/\(∀ q,O q->w'.heap[q]?=w.heap[q]?)/\(∀ q o,Ig q o->w'.cell? ⟨q,o,none⟩=w.cell? ⟨q,o,none⟩)/\w.heap.size<=w'.heap.size/\(b=true->JX (some zs) O w')/\(b=false->JX none O w')
structure YSx (N:Nat) (B:Nat) (Ig:Imm) (JX:Zs->(Nat->Prop)->World->Prop) (z:Zs) (r:Locs) (D:Nat->Prop) (I:Imm) (O:Nat->Prop) (env:Env) (σ:St) (a:Act) (w:World):Prop where
 hr:HR B w I (prO B O w) r I D σ.get σ.next w
 ho:∀ b,O b->B<=b/\b<w.heap.size
 lo:∀ b o,Ig b o->I b o
 up:∀ b o,I b o->Ig b o\/O b
 er:ER r I w D N env a.tmps
 jx:JX z O w
 df:a.defers=[]
def PY (N B:Nat) (Ig:Imm) (JX:Zs->(Nat->Prop)->World->Prop) (r:Locs) (D:Nat->Prop) (I:Imm) (w:World) (Q:IQ):Exit->Act->World->Prop:=fun e a' w'=>∃ env' σ' z' r' D' I' O',Q e env' σ' z'/\YSx N B Ig JX z' r' D' I' O' env' σ' a' w'/\Step r D I w r' D' I' w'
def AwpY (P:Program) (N B:Nat) (Ig:Imm) (JX:Zs->(Nat->Prop)->World->Prop) (c:Code) (env:Env) (σ:St) (z:Zs) (Q:IQ):Prop :=
 ∀ r D I O a w,YSx N B Ig JX z r D I O env σ a w->c.wpIn Sh 0 P (PY N B Ig JX r D I w Q) a w
theorem YSx.own {z:Zs} {env:Env} {σ:St} {a:Act} (S:YSx N B Ig JX z r D I O env σ a w) {h' : Nat->ABlk} {n' : Nat} (H:HR B w I (prO B O w) r' I' D' h' n' w') :
  Chg O w w'/\HR B w' I' (prO B (fun b=>O b\/(w.heap.size<=b/\b<w'.heap.size)) w') r' I' D' h' n' w'/\(∀ b,(O b\/(w.heap.size<=b/\b<w'.heap.size))->B<=b/\b<w'.heap.size)/\(∀ b o,I' b o->Ig b o\/(O b\/(w.heap.size<=b/\b<w'.heap.size))):=by
 have old:∀ b,¬ (O b\/(w.heap.size<=b/\b<w'.heap.size))->B<=b->b<w'.heap.size->prO B O w b (w.heap.getD b default):=by
  intro b hn hb hlt
  have hnO:¬ O b:=fun h=>hn (.inl h)
  have hlt2:b<w.heap.size:=by
   rcases Ou b w.heap.size with h|h
   ·exact h
   ·exact (hn (.inr ⟨h,hlt⟩)).elim
  exact ⟨hb,hnO,by simp [Array.getD,hlt2]⟩
 have hc:Chg O w w':=⟨H.below.os,H.below.tape,H.below.output,H.below.size,fun b hb hlt=>by
  by_cases hbb:b<B
  ·exact H.below.block b hbb
  ·have e1:w.heap[b]?=some w.heap[b]:=by simp [hlt]
   rw [(H.prot b _ ⟨by omega,hb,e1⟩).1,e1]⟩
 refine ⟨hc,H.rebase (fun b o hp=>?_),fun b hb=>?_,fun b o hi=>?_⟩
 ·obtain ⟨h1,h2,h3⟩:=hp
  have hlt:=(Array.getElem?_eq_some_iff.1 h3).1
  have hp:=old b h2 h1 hlt
  exact ⟨h3,h1,(H.protK b _ hp).1,(H.protK b _ hp).2⟩
 ·rcases hb with hb|hb
  ·have:=S.ho b hb; have:=H.below.size; omega
  ·have:=S.hr.base; omega
 ·rcases H.immB b o hi with h|h
  ·rcases S.up b o h with h|h
   ·exact .inl h
   ·exact .inr (.inl h)
  ·refine .inr (Classical.byContradiction fun hn=>?_)
   exact (H.protK b _ (old b hn h (H.imm b o hi))).2 o hi
theorem YSx.step {sc:Bool} (hI:YEnv P B Ig l sc JX) {z:Zs} {env:Env} {σ:St} {a:Act} (S:YSx N B Ig JX z r D I O env σ a w) {K:Env->St->Prop} {a' : Act} (hl:Leaves B w I (prO B O w) N r I D w a.defers K a' w') :
  ∃ env' σ' r' D' I' O',K env' σ'/\YSx N B Ig JX z r' D' I' O' env' σ' a' w'/\Step r D I w r' D' I' w':=by
 obtain ⟨env',σ',r',I',D',hk,⟨H,E⟩,hd,St⟩:=hl
 obtain ⟨hc,H',ho',up'⟩:=S.own H
 exact ⟨env',σ',r',D',I',_,hk,⟨H',ho',fun b o hi=>(St.imm b o (S.lo b o hi)).1,up',E,hI.grow z O w w' S.jx hc,hd.trans S.df⟩,St⟩
theorem YSx.behind {sc:Bool} (hI:YEnv P B Ig l sc JX) {z z' : Zs} {env:Env} {σ:St} {a:Act} (S:YSx N B Ig JX z r D I O env σ a w) (hm:Zpp σ.heap=true)
  (k1:∀ q,O q->w'.heap[q]?=w.heap[q]?) (k2:∀ q o,Ig q o->w'.cell? ⟨q,o,none⟩=w.cell? ⟨q,o,none⟩) (k3:w.heap.size<=w'.heap.size) (hj:JX z' O w'):YSx N B Ig JX z' r D I O env σ a w'/\Step r D I w r D I w':=by
 have H:=S.hr
 have hlO:∀ id,(σ.get id).live=true->O (r id).blk:=by
  intro id hid
  have hB:B<=(r id).blk:=by
   have hb:=H.blk id
   cases hx:σ.get id with
   | row es elems mt pu =>
    have:=Ze7 hm hx;subst this;rw [hx] at hb;obtain ⟨_,_,_,cs,T,fz,_,_,_,h7,_⟩:=hb;exact (h7 rfl).1
   | map ents=>rw [hx] at hb; exact hb.1
   | set keys=>rw [hx] at hb; exact hb.1
   | dead=>rw [hx] at hid; simp [Tm] at hid
  by_cases ho:O (r id).blk
  ·exact ho
  ·have hlt:=(H.dom id (H.live id hid)).2
   have e1:w.heap[(r id).blk]?=some w.heap[(r id).blk]:=by simp [hlt]
   exact ((H.protK _ _ ⟨hB,ho,e1⟩).1 id hid rfl).elim
 have hst:Step r D I w r D I w':=⟨fun id h=>⟨h,rfl⟩,fun b o h=>⟨h,by
  rcases S.up b o h with h1|h1
  ·exact k2 b o h1
  ·exact World.cell?_of_block (k1 b h1)⟩,k3⟩
 refine ⟨⟨⟨Below.refl _ _,Qt H.base k3,fun b o hi=>Rp (H.imm b o hi) k3,fun id hd=>⟨(H.dom id hd).1,Rp (H.dom id hd).2 k3⟩,H.live,fun id=>?_,H.inj,fun b o hp=>⟨hp.2.2,hp.1⟩,fun b o hp=>⟨fun id hid e=>hp.2.1 (e ▸ hlO id hid),fun o' hi=>?_⟩,fun _ _ h=>.inl h⟩,fun b hb=>by have:=S.ho b hb; omega,S.lo,S.up,S.er.mono hst,hj,S.df⟩,hst⟩
 ·by_cases hid:(σ.get id).live=true
  ·exact (H.blk id).mono hst rfl (fun _=>k1 _ (hlO id hid)) (fun _ _ _ _ _ hx=>hx)
  ·have:σ.get id = .dead:=by cases hx:σ.get id<;>simp_all [Tm]
   rw [this]; trivial
 ·rcases S.up b o' hi with h1|h1
  ·have:=hI.low b o' h1; have:=hp.1; omega
  ·exact hp.2.1 h1
theorem YSx.put {z:Zs} {env:Env} {σ:St} {a:Act} (S:YSx N B Ig JX z r D I O env σ a w) {dst:Option Nat} {v:AV} {x:Value} (hv:VR r I w D v x) {K:Env->Prop} (hk:Zu N dst v env K):∃ env',K env'/\YSx N B Ig JX z r D I O env' σ (a.put dst x) w:=by
 cases dst with
 | none=>exact ⟨env,hk,⟨S.hr,S.ho,S.lo,S.up,S.er,S.jx,S.df⟩⟩
 | some d =>
  simp only [Zu] at hk
  rcases Mh hk with ⟨h1,h2⟩|⟨_,h2⟩
  ·have hdl:d<N:=by simpa [Sm] using h1
   exact ⟨(d,v)::env,h2,⟨S.hr,S.ho,S.lo,S.up,S.er.put hdl hv,S.jx,S.df⟩⟩
  ·exact h2.elim
def Zve (P:Program) (B:Nat) (Ig:Imm) (JX:Zs->(Nat->Prop)->World->Prop) (f:FuncId) (args:List AV) (σ:St) (z:Zs) (K:AV->St->Zs->Prop):Prop :=
 ∀ r D I O w vs,HR B w I (prO B O w) r I D σ.get σ.next w->(∀ b,O b->B<=b/\b<w.heap.size)->(∀ b o,Ig b o->I b o)->(∀ b o,I b o->Ig b o\/O b)->JX z O w->VRs r I w D args vs ->
  CallsIn Sh 0 P f vs w fun e w'=>∃ x v σ' z' r' D' I' O',e = .returned x/\K v σ' z'/\HR B w' I' (prO B O' w') r' I' D' σ'.get σ'.next w'/\(∀ b,O' b->B<=b/\b<w'.heap.size)/\(∀ b o,Ig b o->I' b o)/\(∀ b o,I' b o->Ig b o\/O' b)/\JX z' O' w'/\VR r' I' w' D' v x/\Step r D I w r' D' I' w'
inductive YCt (P:Program) (B:Nat) (Ig:Imm) (JX:Zs->(Nat->Prop)->World->Prop) (f:FuncId) (args:List AV) (σ:St) (z:Zs) (K:AV->St->Zs->Prop):Prop
 | mk (h:FnOK P f/\Zve P B Ig JX f args σ z K):YCt P B Ig JX f args σ z K
def Vw (h:Nat->ABlk) (aZ x:List AV):Prop:=∃ x' lv,Zal h aZ=some (x',lv)/\NSL x' x
theorem NSL.refl:∀ (l:List AV),NSL l l
 | []=>trivial
 | _::l=>⟨.inl rfl,NSL.refl l⟩
theorem Vw.same {h:Nat->ABlk} {aZ x:List AV} {lv:List Nat} (e:Zal h aZ=some (x,lv)):Vw h aZ x:=⟨x,lv,e,NSL.refl x⟩
theorem NSL.vrs {l m:List AV} (h:NSL l m) {vs:Array Value} (hv:VRs r I w D l vs):VRs r I w D m vs:=by
 obtain ⟨h1,h2⟩:=h.get
 refine ⟨hv.1.trans h1,fun i c x hc hx=>?_⟩
 obtain ⟨a,ha,hn⟩:=h2 i c hc
 exact hn.vr (hv.2 i a x ha hx)
inductive Yd (p:Prop):Prop
 | mk (h:p):Yd p
def isSx (sx:FuncId->Bool) (env:Env) (o:Oper):Option (FuncId × List AV) :=
 match o.op with
 | .call { callee:=.value f,args,.. }=>match evA env f with
  | .func g c0 c1=>cond (sx g) (some (g,(c0++Xf (evA env) args.toList)++c1)) none
  | _=>none
 | _=>none
def vcY1 (P:Program) (cx:Cx) (N B l:Nat) (sc:Bool) (sx:FuncId->Bool) (Ig:Imm) (JX:Zs->(Nat->Prop)->World->Prop) (o:Oper) (env:Env) (σ:St) (z:Zs) (K:Env->St->Zs->Prop):Prop :=
 match Zv6 env o with
 | some (l',aZ)=>match z with
  | some (x::zs)=>Yd (l'=l/\Zpp σ.heap=true/\Vw σ.get aZ x/\(sc=true->Zbd x=true)/\(Zu N o.dst (.bool true) env fun env'=>K env' σ (some zs))/\(Zu N o.dst (.bool false) env fun env'=>K env' σ none))
  | _=>False
 | none=>match isSx sx env o with
  | some (g,aZ)=>YCt P B Ig JX g aZ σ z fun v σ' z'=>Zu N o.dst v env fun env'=>K env' σ' z'
  | none=>vcOp cx N o env σ fun env' σ'=>K env' σ' z
def Zd7 (P:Program) (cx:Cx) (N B l:Nat) (sc:Bool) (sx:FuncId->Bool) (Ig:Imm) (JX:Zs->(Nat->Prop)->World->Prop) (ops:List Oper):List Oper->Env->St->Zs->(Env->St->Zs->Prop)->Prop
 | [],env,σ,z,K=>K env σ z
 | o::rest,env,σ,z,K =>
  match o.guard with
  | none=>vcY1 P cx N B l sc sx Ig JX o env σ z fun env' σ' z'=>Zd7 P cx N B l sc sx Ig JX ops rest env' σ' z' K
  | some (j,want) =>
   match Yp ops j with
   | none=>False
   | some t=>match env.get t with
    | .bool b=>Br b
     (match want with
      | true=>vcY1 P cx N B l sc sx Ig JX o ((t,.bool true)::env) σ z fun env' σ' z'=>Zd7 P cx N B l sc sx Ig JX ops rest env' σ' z' K
      | false=>Zu N o.dst (.tup []) ((t,.bool true)::env) fun env'=>Zd7 P cx N B l sc sx Ig JX ops rest env' σ z K)
     (match want with
      | false=>vcY1 P cx N B l sc sx Ig JX o ((t,.bool false)::env) σ z fun env' σ' z'=>Zd7 P cx N B l sc sx Ig JX ops rest env' σ' z' K
      | true=>Zu N o.dst (.tup []) ((t,.bool false)::env) fun env'=>Zd7 P cx N B l sc sx Ig JX ops rest env' σ z K)
    | .tup []=>Zu N o.dst (.tup []) env fun env'=>Zd7 P cx N B l sc sx Ig JX ops rest env' σ z K
    | _=>False
variable {r r' : Locs} {D D' : Nat->Prop} {I I' : Imm} {w w' w0:World} {I0 Ig:Imm} {B n n' k N l:Nat} {pr pr' pr2:Nat->Obj->Prop} {h:Nat->ABlk} {P:Program} {JX:Zs->(Nat->Prop)->World->Prop} {O:Nat->Prop} {sc:Bool}
theorem YSx.liveO {z:Zs} {env:Env} {σ:St} {a:Act} (S:YSx N B Ig JX z r D I O env σ a w) (hm:Zpp σ.heap=true):∀ id,(σ.get id).live=true->O (r id).blk:=by
 have H:=S.hr
 intro id hid
 have hB:B<=(r id).blk:=by
  have hb:=H.blk id
  cases hx:σ.get id with
  | row es elems mt pu =>
   have:=Ze7 hm hx;subst this;rw [hx] at hb;obtain ⟨_,_,_,cs,T,fz,_,_,_,h7,_⟩:=hb;exact (h7 rfl).1
  | map ents=>rw [hx] at hb; exact hb.1
  | set keys=>rw [hx] at hb; exact hb.1
  | dead=>rw [hx] at hid; simp [Tm] at hid
 by_cases ho:O (r id).blk
 ·exact ho
 ·have hlt:=(H.dom id (H.live id hid)).2
  have e1:w.heap[(r id).blk]?=some w.heap[(r id).blk]:=by simp [hlt]
  exact ((H.protK _ _ ⟨hB,ho,e1⟩).1 id hid rfl).elim
def LvY (N B:Nat) (Ig:Imm) (JX:Zs->(Nat->Prop)->World->Prop) (r:Locs) (D:Nat->Prop) (I:Imm) (w:World) (K:Env->St->Zs->Prop) (a' : Act) (w' : World):Prop :=
 ∃ env' σ' z' r' D' I' O',K env' σ' z'/\YSx N B Ig JX z' r' D' I' O' env' σ' a' w'/\Step r D I w r' D' I' w'
theorem Zvl {cx:Cx} (hcx:CxOK P cx) (hI:YEnv P B Ig l sc JX) {sx:FuncId->Bool} (o:Oper) (ho:∀ c,o.op ≠ .defer c) {env:Env} {σ:St} {z:Zs} {a:Act} (S:YSx N B Ig JX z r D I O env σ a w) {K:Env->St->Zs->Prop} {Q:Exit->Act->World->Prop} {next:Act->World->Prop}
  (hv:vcY1 P cx N B l sc sx Ig JX o env σ z K) (hnext:∀ a' w',LvY N B Ig JX r D I w K a' w'->next a' w'):o.wpIn Sh 0 P a w next Q:=by
 unfold vcY1 at hv
 cases hy:Zv6 env o with
 | some la =>
  obtain ⟨l',aZ⟩:=la
  rw [hy] at hv
  dsimp only at hv
  split at hv
  ·rename_i x zs
   obtain ⟨e1,hm,⟨x',lv,hview,hns⟩,hs,ht,hf⟩:=hv.1;subst e1;unfold Zv6 at hy;split at hy
   ·rename_i f args ts hop
    split at hy
    ·rename_i l2 hf2
     simp only [Qf,Rl] at hy;obtain ⟨e3,hy⟩:=hy;subst e3;have hfv:=Xk S.er f;rw [hf2] at hfv;have hval:a.eval f = .func (.yield l2) #[] #[]:=by generalize a.eval f=q at hfv; cases hfv; rfl
     have hargs:=Xj (fun x=>Xk S.er x) args;rw [hy] at hargs;have hvw:=hns.vrs (Uh S.hr hargs hview)
     have hup:∀ b o,Xi r I σ.get lv b o->Ig b o\/O b:=by
      rintro b o (hi|⟨id,_,es,elems,mt,pu,i,e,j,c,hid,_,_,rfl,_⟩)
      ·exact S.up b o hi
      ·exact .inr (S.liveO hm id (by rw [hid]; rfl))
     obtain ⟨fn,tmps,assign,body,hrun,hR⟩:=hI.round x zs O w _ _ hs S.jx (fun b o hi=>.inl (S.lo b o hi)) hup hvw;refine ⟨Uu (.inl rfl) o a w,?_⟩;rw [Nf _ _ _ ho]
     have hrunE:(execOp a.eval o).run P w = .ok (.round l2 fn tmps assign body) w:=by
      have:execOp a.eval o=(do let d <-resolve a.eval { callee:=.value f,args:=args,argTypes:=ts } o.type; invoke d.target d.args):=by
       unfold execOp; rw [hop]
      rw [this];simp [resolve,hval,Wh,invoke];simpa using hrun
     rw [hrunE];refine ⟨fun hd=>by simp [Sh] at hd,hR.mono fun e w' hh=>?_⟩;obtain ⟨b,rfl,k1,k2,k3,hjt,hjf⟩:=hh
     cases b with
     | true =>
      obtain ⟨S2,st⟩:=S.behind hI hm k1 k2 k3 (hjt rfl);obtain ⟨env',hk,S3⟩:=S2.put (.bool D true) ht;exact hnext _ _ ⟨env',σ,_,r,D,I,O,hk,S3,st⟩
     | false =>
      obtain ⟨S2,st⟩:=S.behind hI hm k1 k2 k3 (hjf rfl);obtain ⟨env',hk,S3⟩:=S2.put (.bool D false) hf;exact hnext _ _ ⟨env',σ,_,r,D,I,O,hk,S3,st⟩
    ·cases hy
   ·cases hy
  ·exact hv.elim
 | none =>
  rw [hy] at hv
  dsimp only at hv
  cases hs:isSx sx env o with
  | some ga =>
   obtain ⟨g,aZ⟩:=ga;rw [hs] at hv;obtain ⟨⟨fn,q1,q2,q3⟩,hcall⟩:=hv.1;unfold isSx at hs;split at hs
   ·rename_i f args ts hop
    split at hs
    ·rename_i g' c0 c1 hf
     obtain ⟨_,hs⟩:=Zf hs;simp only [Qf,Rl] at hs;obtain ⟨e1,e2⟩:=hs;subst e1 e2;have hfv:=Xk S.er f;rw [hf] at hfv
     obtain ⟨v0,v1,hv,k0,k1⟩:∃ v0 v1,a.eval f = .func (.func g') v0 v1/\VRs r I w D c0 v0/\VRs r I w D c1 v1:=by
      generalize a.eval f=z at hfv
      cases hfv with
      | func _ _ _ _ v0 v1 h0 h1 g0 g1=>exact ⟨v0,v1,rfl,⟨h0,g0⟩,⟨h1,g1⟩⟩
     have hargs:=Xj (fun x=>Xk S.er x) args;have hvs:=(k0.append hargs).append k1;refine ⟨Uu (.inl rfl) o a w,?_⟩;rw [Nf _ _ _ ho]
     have hrunE:(execOp a.eval o).run P w = .ok (.enter g' ((v0++args.map a.eval)++v1)) w:=by
      have:execOp a.eval o=(do let d <-resolve a.eval { callee:=.value f,args:=args,argTypes:=ts } o.type; invoke d.target d.args):=by
       unfold execOp; rw [hop]
      rw [this]
      have q2' : ¬ fn.name = "runtime.NumGoroutine" := by simpa using q2
      have q3' : ¬ fn.body=none:=by intro h; rw [h] at q3; simp at q3
      simp [resolve,hv,Wh,invoke,callFunc,q1,q2',q3']
     rw [hrunE];refine ⟨fun hd=>by simp [Sh] at hd,?_⟩;refine (hcall r D I O w _ S.hr S.ho S.lo S.up S.jx hvs).mono fun e w' hh=>?_
     obtain ⟨x,v,σ',z',r',D',I',O',rfl,hk,H',ho',lo',up',jx',V',st⟩:=hh;have S2:YSx N B Ig JX z' r' D' I' O' env σ' a w':=⟨H',ho',lo',up',S.er.mono st,jx',S.df⟩;obtain ⟨env',hk',S3⟩:=S2.put V' hk;exact hnext _ _ ⟨env',σ',z',r',D',I',O',hk',S3,st⟩
    ·cases hs
   ·cases hs
  | none =>
   rw [hs] at hv;refine Zch hcx (.inl rfl) o ho (pr:=prO B O w) (w0:=w) (I0:=I) ⟨S.hr,S.er⟩ hv (fun a' w' hl=>?_);obtain ⟨env',σ',r',D',I',O',hk,S',st⟩:=S.step hI hl;exact hnext _ _ ⟨env',σ',z,r',D',I',O',hk,S',st⟩
theorem Zd6 {cx:Cx} (hcx:CxOK P cx) (hI:YEnv P B Ig l sc JX) {sx:FuncId->Bool} (ops:List Oper) {Q:Exit->Act->World->Prop} {K:Env->St->Zs->Prop}:∀ (os:List Oper),Yl os=true->∀ {r:Locs} {D:Nat->Prop} {I:Imm} {O:Nat->Prop} {w:World} {env:Env} {σ:St} {z:Zs} {a:Act},
  YSx N B Ig JX z r D I O env σ a w->Zd7 P cx N B l sc sx Ig JX ops os env σ z K->(∀ a' w',LvY N B Ig JX r D I w K a' w'->Q .normal a' w')->wpListIn Sh 0 P ops.toArray Q os a w
 | [],_,r,D,I,O,w,env,σ,z,a,S,hvc,hq=>hq _ _ ⟨env,σ,z,r,D,I,O,hvc,S,Wa _ _ _ _⟩
 | o::rest,hd,r,D,I,O,w,env,σ,z,a,S,hvc,hq=>by
  simp only [Yl,Qc] at hd
  obtain ⟨hd1,hd2⟩:=hd
  have ho:∀ c,o.op ≠ .defer c:=fun c e=>by rw [e] at hd1; simp at hd1
  have run:∀ env',YSx N B Ig JX z r D I O env' σ a w->vcY1 P cx N B l sc sx Ig JX o env' σ z (fun env' σ' z'=>Zd7 P cx N B l sc sx Ig JX ops rest env' σ' z' K)->o.wpIn Sh 0 P a w (wpListIn Sh 0 P ops.toArray Q rest) Q:=by
   intro env' S' hv;refine Zvl hcx hI o ho S' hv (fun a' w' hl=>?_);obtain ⟨env2,σ2,z2,r2,D2,I2,O2,h1,h2,h3⟩:=hl;refine Zd6 hcx hI ops rest hd2 h2 h1 (fun a3 w3 hl3=>hq _ _ ?_);obtain ⟨env3,σ3,z3,r3,D3,I3,O3,g1,g2,g3⟩:=hl3;exact ⟨env3,σ3,z3,r3,D3,I3,O3,g1,g2,h3.trans g3⟩
  have skip:∀ env',YSx N B Ig JX z r D I O env' σ a w->(Zu N o.dst (.tup []) env' fun env'=>Zd7 P cx N B l sc sx Ig JX ops rest env' σ z K)->(∀ f,o.about P w a.eval=some f->Fence.wide.fn f)/\wpListIn Sh 0 P ops.toArray Q rest (a.put o.dst undef) w:=by
   intro env' S' hv;refine ⟨Uu (.inl rfl) o a w,?_⟩;obtain ⟨env2,h1,h2⟩:=S'.put (x:=undef) (VR.tup D [] #[] rfl (fun i c v hc=>by cases hc)) hv;exact Zd6 hcx hI ops rest hd2 h2 h1 hq
  simp only [Zd7] at hvc
  cases hg:o.guard with
  | none =>
   rw [hg] at hvc;refine wpListIn_step fun K0 hK=>?_
   simp only [Wq,hg,if_true];have:=run env S hvc;refine ⟨this.1,?_⟩;exact Zc4 hK this.2
  | some jw =>
   obtain ⟨j,want⟩:=jw;rw [hg] at hvc;dsimp only at hvc
   cases ht:Yp ops j with
   | none=>rw [ht] at hvc; exact hvc.elim
   | some t =>
    rw [ht] at hvc;dsimp only at hvc;have htv:=S.er.2 t
    have hput:∀ b,env.get t = .bool b->YSx N B Ig JX z r D I O ((t,.bool b)::env) σ a w:=fun b hb=>⟨S.hr,S.ho,S.lo,S.up,⟨S.er.1,fun i=>by
     rw [Wr]
     by_cases e:i=t
     ·subst e; rw [if_pos rfl,<-hb]; exact htv
     ·rw [if_neg e]; exact S.er.2 i⟩,S.jx,S.df⟩
    unfold wpListIn;have hwant:Wq o (yielded ops.toArray a.tmps)=(yielded ops.toArray a.tmps j==some want):=by simp [Wq,hg]
    rw [hwant]
    by_cases hts:t<a.tmps.size
    ·rw [Zh1 ht a hts]
     split at hvc
     ·rename_i b hb
      have hval:a.tmps.getD t undef = .bool b:=by
       rw [hb] at htv;generalize a.tmps.getD t undef=z at htv;cases htv; rfl
      rw [hval];dsimp only
      rcases Mh hvc with ⟨rfl,hv⟩|⟨rfl,hv⟩
      ·cases want
       ·simp only [show (some true==some false)=false from rfl,Ro,if_false]
        exact skip _ (hput _ hb) hv
       ·simp only [show (some true==some true)=true from rfl,if_true]
        exact run _ (hput _ hb) hv
      ·cases want
       ·simp only [show (some false==some false)=true from rfl,if_true]
        exact run _ (hput _ hb) hv
       ·simp only [show (some false==some true)=false from rfl,Ro,if_false]
        exact skip _ (hput _ hb) hv
     ·rename_i hb
      have hval:∃ vs,a.tmps.getD t undef = .tuple vs:=by
       rw [hb] at htv;generalize a.tmps.getD t undef=z at htv;cases htv; exact ⟨_,rfl⟩
      obtain ⟨vs,hval⟩:=hval;rw [hval];dsimp only;rw [if_neg (by simp)];exact skip _ S hvc
     ·exact hvc.elim
    ·have hval:a.tmps.getD t undef=undef:=by simp [Rh,Oi.1 hts]
     rw [hval] at htv;split at hvc
     ·rename_i b hb
      rw [hb] at htv;cases htv
     ·have:yielded ops.toArray a.tmps j=none:=by
       unfold yielded;have:(ops.toArray[j]?).bind (·.dst)=some t:=by simpa [Yp] using ht
       rw [this];simp [Oi.1 hts]
      rw [this,if_neg (by simp)];exact skip _ S hvc
     ·exact hvc.elim
def vcYC (P:Program) (cx:Cx) (pc:PC) (N B l:Nat) (sc:Bool) (sx:FuncId->Bool) (Ig:Imm) (JX:Zs->(Nat->Prop)->World->Prop) (lp:Code->Env->St->Zs->IQ->Prop):Code->Env->St->Zs->IQ->Prop
 | .skip,env,σ,z,Q=>Q .normal env σ z
 | .region _ ops draw,env,σ,z,Q=>match draw with
  | false=>cond (Yl ops.toList) (Zd7 P cx N B l sc sx Ig JX ops.toList ops.toList env σ z (Q .normal)) False
  | true=>Zgp cx pc N ops.toList env σ fun env' σ'=>Q .normal env' σ' z
 | .seq x y,env,σ,z,Q=>vcYC P cx pc N B l sc sx Ig JX lp x env σ z (seqI (fun env' σ' z'=>vcYC P cx pc N B l sc sx Ig JX lp y env' σ' z' Q) Q)
 | .cond c x y,env,σ,z,Q=>match evA env c with
  | .bool b=>Br b (fEnv (setC env c true) fun env=>vcYC P cx pc N B l sc sx Ig JX lp x env σ z Q) (fEnv (setC env c false) fun env=>vcYC P cx pc N B l sc sx Ig JX lp y env σ z Q)
  | _=>False
 | .block id c,env,σ,z,Q=>vcYC P cx pc N B l sc sx Ig JX lp c env σ z (Zna id Q)
 | .loop c,env,σ,z,Q=>lp c env σ z Q
 | .exit id,env,σ,z,Q=>Q (.exit id) env σ z
 | .ret,env,σ,z,Q=>Q .ret env σ z
 | _,_,_,_,_=>False
theorem YSx.setC {z:Zs} {env:Env} {σ:St} {a:Act} {c:Operand} {b:Bool} (S:YSx N B Ig JX z r D I O env σ a w) (hc:evA env c = .bool b):YSx N B Ig JX z r D I O (Sx.setC env c b) σ a w:=by
 cases c with
 | tmp t =>
  refine ⟨S.hr,S.ho,S.lo,S.up,⟨S.er.1,fun i=>?_⟩,S.jx,S.df⟩
  simp only [Sx.setC,Wr]
  by_cases e:i=t
  ·subst e; rw [if_pos rfl,<-hc]; exact S.er.2 i
  ·rw [if_neg e]; exact S.er.2 i
 | _=>exact S
theorem Za7 {cx:Cx} (hcx:CxOK P cx) {pc:PC} (hpc:PCOK P pc) (hm:P.follows .mixedOrders=true) (hI:YEnv P B Ig l sc JX) {sx:FuncId->Bool} {lp:Code->Env->St->Zs->IQ->Prop} (hlp:∀ c env σ z Q,lp c env σ z Q->AwpY P N B Ig JX (.loop c) env σ z Q) :
  ∀ (c:Code) (env:Env) (σ:St) (z:Zs) (Q:IQ),vcYC P cx pc N B l sc sx Ig JX lp c env σ z Q->AwpY P N B Ig JX c env σ z Q
 | .skip,env,σ,z,Q,hv=>fun r D I O a w S=>wpIn_skip ⟨env,σ,z,r,D,I,O,hv,S,Wa _ _ _ _⟩
 | .region id ops draw,env,σ,z,Q,hv=>by
  cases draw with
  | true =>
   intro r D I O a w S;simp only [vcYC] at hv;refine Znh hcx hpc hm (.inl rfl) id ops (pr:=prO B O w) (w0:=w) (I0:=I) hv ⟨S.hr,S.er⟩ (fun a' w' hl=>?_);obtain ⟨env',σ',r',D',I',O',hk,S',st⟩:=S.step hI hl;exact ⟨env',σ',z,r',D',I',O',hk,S',st⟩
  | false =>
   intro r D I O a w S;simp only [vcYC] at hv
   cases hno:Yl ops.toList with
   | false=>rw [hno] at hv; exact hv.elim
   | true =>
    rw [hno] at hv;refine wpIn_region_list ?_;exact Zd6 hcx hI ops.toList (Q:=PY N B Ig JX r D I w Q) ops.toList hno S hv (fun a' w' hl=>hl)
 | .seq x y,env,σ,z,Q,hv=>by
  intro r D I O a w S
  simp only [vcYC] at hv
  refine wpIn_seq (Rd (fun e a' w' h=>?_) (Za7 hcx hpc hm hI hlp x env σ z _ hv r D I O a w S))
  obtain ⟨env',σ',z',r',D',I',O',hq,S',st⟩:=h
  cases e with
  | normal=>exact Rd (fun e a2 w2 ⟨env2,σ2,z2,r2,D2,I2,O2,q2,S2,st2⟩=>⟨env2,σ2,z2,r2,D2,I2,O2,q2,S2,st.trans st2⟩) (Za7 hcx hpc hm hI hlp y env' σ' z' Q hq r' D' I' O' a' w' S')
  | exit id=>exact ⟨env',σ',z',r',D',I',O',hq,S',st⟩
  | goto l=>exact ⟨env',σ',z',r',D',I',O',hq,S',st⟩
  | ret=>exact ⟨env',σ',z',r',D',I',O',hq,S',st⟩
  | panic ch=>exact ⟨env',σ',z',r',D',I',O',hq,S',st⟩
  | outgrown=>exact ⟨env',σ',z',r',D',I',O',hq,S',st⟩
 | .cond c x y,env,σ,z,Q,hv=>by
  intro r D I O a w S
  simp only [vcYC,Zsq] at hv
  split at hv
  ·rename_i b hb
   have hc:=Xk S.er c;rw [hb] at hc;have hcv:a.eval c = .bool b:=by generalize a.eval c=z at hc; cases hc; rfl
   rcases Mh hv with ⟨rfl,h⟩|⟨rfl,h⟩
   ·exact wpIn_cond_true hcv (Za7 hcx hpc hm hI hlp x _ σ z Q h r D I O a w (S.setC hb))
   ·exact wpIn_cond_false hcv (Za7 hcx hpc hm hI hlp y _ σ z Q h r D I O a w (S.setC hb))
  ·exact hv.elim
 | .block id c,env,σ,z,Q,hv=>by
  intro r D I O a w S
  simp only [vcYC] at hv
  refine wpIn_block (Rd (fun e a' w' h=>?_) (Za7 hcx hpc hm hI hlp c env σ z _ hv r D I O a w S))
  obtain ⟨env',σ',z',r',D',I',O',hq,S',st⟩:=h
  cases e with
  | exit id' =>
   by_cases hid:id'=id
   ·subst hid
    simp only [Od,if_true];exact ⟨env',σ',z',r',D',I',O',by simpa [Zna] using hq,S',st⟩
   ·simp only [Od,hid,if_false]
    have:Qp id' id=false:=by rw [Bool.eq_false_iff]; intro hb; exact hid (Qh hb)
    exact ⟨env',σ',z',r',D',I',O',by simpa [Zna,this] using hq,S',st⟩
  | normal=>exact ⟨env',σ',z',r',D',I',O',hq,S',st⟩
  | goto l=>exact ⟨env',σ',z',r',D',I',O',hq,S',st⟩
  | ret=>exact ⟨env',σ',z',r',D',I',O',hq,S',st⟩
  | panic ch=>exact ⟨env',σ',z',r',D',I',O',hq,S',st⟩
  | outgrown=>exact ⟨env',σ',z',r',D',I',O',hq,S',st⟩
 | .loop c,env,σ,z,Q,hv=>hlp c env σ z Q hv
 | .exit id,env,σ,z,Q,hv=>fun r D I O a w S=>wpIn_exit ⟨env,σ,z,r,D,I,O,hv,S,Wa _ _ _ _⟩
 | .ret,env,σ,z,Q,hv=>fun r D I O a w S=>wpIn_ret ⟨env,σ,z,r,D,I,O,hv,S,Wa _ _ _ _⟩
 | .rangeFunc _ _ _ _,_,_,_,_,hv=>hv.elim
 | .scope _,_,_,_,_,hv=>hv.elim
 | .label _,_,_,_,_,hv=>hv.elim
 | .goto _,_,_,_,_,hv=>hv.elim
 | .refuse _,_,_,_,_,hv=>hv.elim
variable {r r' : Locs} {D D' : Nat->Prop} {I I' : Imm} {w w' w0:World} {I0 Ig:Imm} {B n n' k N l:Nat} {pr pr' pr2:Nat->Obj->Prop} {h:Nat->ABlk} {P:Program} {JX:Zs->(Nat->Prop)->World->Prop} {O:Nat->Prop} {sc:Bool}
theorem YSx.rename {n0:Nat} {z:Zs} {env env' : Env} {σ σ' : St} {a:Act} (S:YSx N B Ig JX z r D I O env σ a w) (hr:Ren n0 env σ env' σ') :
  ∃ r2 D2,YSx N B Ig JX z r2 D2 I O env' σ' a w/\∀ id,id<n0->D id->D2 id/\r2 id=r id:=by
 obtain ⟨r2,D2,H2,k2,e2⟩:=S.hr.rename (N:=N) hr
 exact ⟨r2,D2,⟨H2,S.ho,S.lo,S.up,e2 _ S.er,S.jx,S.df⟩,k2⟩
def Yaz (P:Program) (N B:Nat) (Ig:Imm) (JX:Zs->(Nat->Prop)->World->Prop) (n0:Nat) (c:Code) (Q:IQ):Nat->Env->St->Zs->Prop
 | 0,_,_,_=>False
 | m+1,env,σ,z=>AwpY P N B Ig JX c env σ z (seqI (fun env' σ' z'=>∃ env2 σ2,Ren n0 env' σ' env2 σ2/\Yaz P N B Ig JX n0 c Q m env2 σ2 z') Q)
theorem Zv2 {n0:Nat} {c:Code} {Q:IQ} (hd0:∀ id,D id->id<n0):∀ (m:Nat) (env:Env) (σ:St) (z:Zs) (r1:Locs) (D1:Nat->Prop) (I1:Imm) (O1:Nat->Prop) (a1:Act) (w1:World),Yaz P N B Ig JX n0 c Q m env σ z ->
  YSx N B Ig JX z r1 D1 I1 O1 env σ a1 w1->Step r D I w r1 D1 I1 w1->Code.roundsIn Sh 0 P c (PY N B Ig JX r D I w Q) m a1 w1:=by
 intro m
 induction m with
 | zero=>intro env σ z r1 D1 I1 O1 a1 w1 hv; exact hv.elim
 | succ m ih =>
  intro env σ z r1 D1 I1 O1 a1 w1 hv S st
  refine Rd (fun e a2 w2 hp=>?_) (hv r1 D1 I1 O1 a1 w1 S)
  obtain ⟨env2,σ2,z2,r2,D2,I2,O2,q2,s2,t2⟩:=hp
  have hout:∀ e',Q e' env2 σ2 z2->PY N B Ig JX r D I w Q e' a2 w2:=fun e' hq=>⟨env2,σ2,z2,r2,D2,I2,O2,hq,s2,st.trans t2⟩
  cases e with
  | normal =>
   obtain ⟨env3,σ3,hfr,q3⟩:=q2;obtain ⟨r3,D3,s3,k3⟩:=s2.rename hfr;exact ih env3 σ3 z2 r3 D3 I2 O2 a2 w2 q3 s3 ((st.trans t2).rename hd0 k3)
  | exit id=>exact hout _ q2
  | goto l=>exact hout _ q2
  | ret=>exact hout _ q2
  | panic ch=>exact hout _ q2
  | outgrown=>exact hout _ q2
inductive YLp (P:Program) (N B:Nat) (Ig:Imm) (JX:Zs->(Nat->Prop)->World->Prop) (c:Code) (env:Env) (σ:St) (z:Zs) (Q:IQ):Prop
 | mk (h:AwpY P N B Ig JX (.loop c) env σ z Q):YLp P N B Ig JX c env σ z Q
instance {c:Code} {env:Env} {σ:St} {z:Zs} {Q:IQ}:Stop (YLp P N B Ig JX c env σ z Q):=⟨trivial⟩
instance {f:FuncId} {args:List AV} {σ:St} {z:Zs} {K:AV->St->Zs->Prop}:Stop (YCt P B Ig JX f args σ z K):=⟨trivial⟩
instance {p:Prop}:Stop (Yd p):=⟨trivial⟩
theorem AwpY.mono {c:Code} {env:Env} {σ:St} {z:Zs} {Q1 Q2:IQ} (hq:∀ e env σ z,Q1 e env σ z->Q2 e env σ z) (h:AwpY P N B Ig JX c env σ z Q1):AwpY P N B Ig JX c env σ z Q2 :=
 fun r D I O a w S=>Rd (fun e a' w' ⟨env',σ',z',r',D',I',O',q,S',st⟩=>⟨env',σ',z',r',D',I',O',hq _ _ _ _ q,S',st⟩) (h r D I O a w S)
theorem Zx9 {S:Type} (μ:S->Nat) (E:S->Env) (Z:S->List (Nat × ABlk)) (zf:S->Zs) (n0:Nat) (n1:S->Nat) (G:S->Prop) {c:Code} {Q:IQ} (s:S) (hs:G s) {env:Env} {σ:St} {z:Zs} (hn:σ.next<=n0) (hz:z=zf s) (fl0:List (Nat × Nat))
  (h1:(okF n0 fl0&&Zg7 n0 fl0 (Z s)&&imgF n0 fl0&&Se n0 (n1 s))=true) (h2:RenE (fOf fl0) (n1 s) env (E s)) (h3:RenH (fOf fl0) (n1 s) σ.get (Z s))
  (step:∀ s,G s->AwpY P N B Ig JX c (E s) ⟨Z s,n1 s⟩ (zf s) (seqI (fun env' σ' z'=>Done (∃ s' fl,(okF n0 fl&&Zg7 n0 fl (Z s')&&imgF n0 fl&&Se n0 (n1 s'))=true/\RenE (fOf fl) (n1 s') env' (E s')/\RenH (fOf fl) (n1 s') σ'.get (Z s')/\z'=zf s'/\G s'/\μ s'<μ s)) Q)):YLp P N B Ig JX c env σ z Q:=by
 subst hz
 have key:∀ n s,μ s<n->G s->Yaz P N B Ig JX n0 c Q n (E s) ⟨Z s,n1 s⟩ (zf s):=by
  intro n
  induction n with
  | zero=>intro s h; omega
  | succ n ih =>
   intro s h hg;refine (step s hg).mono fun e env' σ' z' hq=>?_
   cases e with
   | normal =>
    obtain ⟨s',fl,k1,k2,k3,rfl,g',m'⟩:=hq.1;exact ⟨E s',⟨Z s',n1 s'⟩,Ren.of fl k1 k2 k3,ih s' (by omega) g'⟩
   | exit id=>exact hq
   | goto l=>exact hq
   | ret=>exact hq
   | panic ch=>exact hq
   | outgrown=>exact hq
 refine ⟨fun r D I O a w S=>?_⟩
 have hr:=Ren.of (n1:=n1 s) fl0 h1 h2 h3
 obtain ⟨r2,D2,S2,k2⟩:=S.rename hr
 have hd0:∀ id,D id->id<n0:=fun id hd=>by have:=(S.hr.dom id hd).1; omega
 refine wpIn_loop_rounds (μ s+1) ?_
 exact Zv2 hd0 (μ s+1) (E s) ⟨Z s,n1 s⟩ (zf s) r2 D2 I O a w (key (μ s+1) s (by omega) hs) S2 ((Wa _ _ _ _).rename hd0 k2)
variable (Bs:Base P)
abbrev Base.ycode (Bs:Base P) (pc:PC) (N B l:Nat) (sc:Bool) (sx:FuncId->Bool) (Ig:Imm) (JX:Zs->(Nat->Prop)->World->Prop):Code->Env->St->Zs->IQ->Prop:=vcYC P (cxV P Bs.T Bs.ok (fun _=>false) pc) pc N B l sc sx Ig JX (fun c env σ z Q=>YLp P N B Ig JX c env σ z Q)
theorem Base.yv {pc:PC} (hpc:PCOK P pc) (hI:YEnv P B Ig l sc JX) {sx:FuncId->Bool} {c:Code} {env:Env} {σ:St} {z:Zs} {Q:IQ} (hv:Bs.ycode pc N B l sc sx Ig JX c env σ z Q):AwpY P N B Ig JX c env σ z Q :=
 Za7 (Zhk Bs.hT Bs.hok hpc) hpc Bs.hm hI (fun _ _ _ _ _ h=>h.1) c env σ z Q hv
def retY (T:Tab) (rs:List ResultVar) (K:AV->St->Zs->Prop):IQ
 | .normal,env,σ,z=>Got (Zcg T env σ.get rs) fun vs=>fA (resV vs) fun v=>K v σ z
 | .ret,env,σ,z=>Got (Zcg T env σ.get rs) fun vs=>fA (resV vs) fun v=>K v σ z
 | _,_,_,_=>False
theorem Yg5 {fn:Func} {args:List AV} {vs:Array Value} (hargs:VRs r I w D args vs) (hle:args.length<=fn.ntmps):ER r I w D fn.ntmps (env0 0 args) (vs++Pq (fn.ntmps-vs.size) undef):=by
 have hsz:vs.size=args.length:=hargs.1
 refine ⟨by simp; omega,fun i=>?_⟩
 rw [Zjp]
 simp only [Qn,if_true,Ws]
 cases hi:args[i]? with
 | none=>simp; exact .any _ _
 | some v =>
  have hlt:i<vs.size:=by rw [hsz]; exact (List.getElem?_eq_some_iff.1 hi).1
  have:=hargs.2 i v vs[i] hi (by simp [hlt])
  simpa [Rh,Array.getElem?_append,hlt] using this
theorem Zra {T:Tab} (hT:TabOK P T) {f:FuncId} {fn:Func} {c:Code} (hf:P.funcs[f]?=some fn) (hb:fn.body=some c) {args:List AV} (hle:Se args.length fn.ntmps=true) {σ:St} {z:Zs} {K:AV->St->Zs->Prop}
  (hv:AwpY P fn.ntmps B Ig JX c (env0 0 args) σ z (retY T fn.results.toList K)):Zve P B Ig JX f args σ z K:=by
 intro r D I O w vs H ho lo up jx hargs
 have hle:=Qm hle
 refine callsIn_of_wp_marks hf hb trivial ?_
 have S:YSx fn.ntmps B Ig JX z r D I O (env0 0 args) σ { tmps:=vs++Pq (fn.ntmps-vs.size) undef,defers:=[] } w:=⟨H,ho,lo,up,Yg5 hargs hle,jx,rfl⟩
 refine Rd (fun e a' w' hp=>?_) (hv r D I O _ w S)
 obtain ⟨env',σ',z',r',D',I',O',hq,S',st⟩:=hp
 have fin:(Got (Zcg T env' σ'.get fn.results.toList) fun vs=>fA (resV vs) fun v=>K v σ' z')->LeavesInM Sh 0 P fn a'.tmps (fun e w'=>∃ x v σ' z' r' D' I' O',e = .returned x/\K v σ' z'/\HR B w' I' (prO B O' w') r' I' D' σ'.get σ'.next w'/\(∀ b,O' b->B<=b/\b<w'.heap.size)/\(∀ b o,Ig b o->I' b o)/\(∀ b o,I' b o->Ig b o\/O' b)/\JX z' O' w'/\VR r' I' w' D' v x/\Step r D I w r' D' I' w') a'.defers .returning w':=by
  intro hg
  obtain ⟨us,hus,hk⟩:=Got.cases hg
  rw [Zsr] at hk
  obtain ⟨x,h1,h2⟩:=Zf6 hT S'.hr S'.er hus
  rw [S'.df]
  exact ⟨x,h1,x,resV us,σ',z',r',D',I',O',rfl,hk,S'.hr,S'.ho,S'.lo,S'.up,S'.jx,h2,st⟩
 cases e with
 | normal=>exact fin hq
 | ret=>exact fin hq
 | _=>exact hq.elim
end Go.Sx
