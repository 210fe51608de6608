/- A part of the proof: lemmas. -/
import Derived.ChangeKeysEq
import Derived.Laws.Cells
import Derived.Laws.CopyRow
import Derived.Laws.StructEq
import Derived.OrdersIn
import Derived.RangeFuncNested
import Derived.TacticsIn
import Derived.WalkKit
set_option linter.unusedVariables false
set_option linter.unusedSimpArgs false
set_option maxRecDepth 100000
set_option maxHeartbeats 16000000
open Array renaming getElem?_eq_some_iff->Qt,range->Hh,toList_inj->Qak
open Bool renaming and_eq_true->Qc,eq_false_iff->Qx,false_eq_true->Rs,not_true->Hw,true_and->Tv
open Go.Instr renaming build->Fo,buildSlice->Qai,extract->Qbz,fieldAt->Qby,fill->Dj,index->Fk,indexAt->Hv,loadAt->Gm,storeAt->Qbx,sureAddr->Ms
open Go.Op renaming eqFields->Qar,eqItems->Qbg,equalIn->Jw,intArith->Fl,intCmp->Ju,unary->Qcu
open Go.Result renaming andThen_ok->Rq
open Go.Sem renaming run_bind->Sn,run_pure->Pr
open Go.World renaming cell?_of_block->Pa
open List renaming foldlM_cons->Qaj,getElem?_append_left->Sl,getElem?_append_right->Sf,getElem?_drop->Rz,getElem?_eq_some_iff->Qi,getElem?_set_ne->Mt,getElem?_take->Pb,getElem?_toArray->Np,length_cons->Qz,range->Rv,replicate->Tg
open Nat renaming add_assoc->Nz,add_zero->Nt,beq->Qs,ble->Su,blt_eq->Th,eq_of_beq_eq_true->Qh,le_of_ble_eq_true->Qm,le_refl->Qd,lt_or_ge->Wh,mul_comm->Pu,mul_le_mul_right->Rt,not_lt->Nj,succ_mul->Ps
open Option.some renaming inj->Sr,injEq->Qf
open Prod.mk renaming injEq->Rk
namespace Go.Sx
open Go
inductive AV where
 | any
 | bool (b:Bool)
 | int (k:IntKind) (n:Int)
 | flt (k:FloatKind) (bits:Nat)
 | cpx (k:FloatKind) (re im:Nat)
 | val (a:Option Addr) (n c:Nat)
 | str (s:ByteArray)
 | ptr (id idx sub:Nat)
 | ipt (cells:List AV)
 | nilp
 | nils
 | asl (id idx len:Nat)
 | bsl (id idx sub len cap:Nat)
 | isl (es:Nat) (elems:List (List AV))
 | amap (id:Nat)
 | func (f:Nat) (caps0 caps:List AV)
 | yld (l:Nat)
 | agg (cells:List AV)
 | tup (vs:List AV)
structure Loc where
 blk:Nat
 off:Nat
 cap:Nat
 es:Nat
 len:Nat
abbrev Locs:=Nat->Loc
abbrev Imm:=Nat->Nat->Prop
inductive VR (r:Locs) (I:Imm) (w:World):(Nat->Prop)->AV->Value->Prop
 | any (D:Nat->Prop) (v:Value):VR r I w D .any v
 | bool (D:Nat->Prop) (b:Bool):VR r I w D (.bool b) (.bool b)
 | int (D:Nat->Prop) (k:IntKind) (n:Int):VR r I w D (.int k n) (.int k n)
 | flt (D:Nat->Prop) (k:FloatKind) (n:Nat):VR r I w D (.flt k n) (.float k n)
 | cpx (D:Nat->Prop) (k:FloatKind) (n m:Nat):VR r I w D (.cpx k n m) (.complex k n m)
 | val (D:Nat->Prop) (a:Option Addr) (n c:Nat):VR r I w D (.val a n c) (.slice a n c)
 | str (D:Nat->Prop) (s:ByteArray):VR r I w D (.str s) (.string s)
 | ptr (D:Nat->Prop) (id idx sub:Nat) (h:D id):VR r I w D (.ptr id idx sub) (.pointer (some ⟨(r id).blk,(r id).off+idx*(r id).es+sub,none⟩))
 | ipt (D:Nat->Prop) (cells:List AV) (b o:Nat) (val:Nat->Value) (h1:∀ (j:Nat) (c:AV),cells[j]?=some c->I b (o+j)/\w.cell? ⟨b,o+j,none⟩=some (val j))
   (h2:∀ (j:Nat) (c:AV),cells[j]?=some c->VR r I w (fun _=>False) c (val j)):VR r I w D (.ipt cells) (.pointer (some ⟨b,o,none⟩))
 | nilp (D:Nat->Prop):VR r I w D .nilp (.pointer none)
 | nils (D:Nat->Prop):VR r I w D .nils (.slice none 0 0)
 | asl (D:Nat->Prop) (id idx len:Nat) (h:D id) (hc:idx+len<=(r id).len):VR r I w D (.asl id idx len) (.slice (some ⟨(r id).blk,(r id).off+idx*(r id).es,none⟩) len ((r id).cap-idx))
 | bsl (D:Nat->Prop) (id idx sub len cap:Nat) (h:D id):VR r I w D (.bsl id idx sub len cap) (.slice (some ⟨(r id).blk,(r id).off+idx*(r id).es+sub,none⟩) len cap)
 | isl0 (D:Nat->Prop) (es:Nat) (a:Option Addr) (cap:Nat):VR r I w D (.isl es []) (.slice a 0 cap)
 | isl (D:Nat->Prop) (es:Nat) (elems:List (List AV)) (b o cap:Nat) (val:Nat->Nat->Value) (hl:elems.length<=cap)
   (h0:∀ (i:Nat) (e:List AV),elems[i]?=some e->e.length=es)
   (h1:∀ (i:Nat) (e:List AV) (j:Nat) (c:AV),elems[i]?=some e->e[j]?=some c->I b (o+i*es+j)/\w.cell? ⟨b,o+i*es+j,none⟩=some (val i j))
   (h2:∀ (i:Nat) (e:List AV) (j:Nat) (c:AV),elems[i]?=some e->e[j]?=some c->VR r I w (fun _=>False) c (val i j)) :
   VR r I w D (.isl es elems) (.slice (some ⟨b,o,none⟩) elems.length cap)
 | amap (D:Nat->Prop) (id:Nat) (h:D id):VR r I w D (.amap id) (.map (some (r id).blk))
 | func (D:Nat->Prop) (f:Nat) (c0 c1:List AV) (v0 v1:Array Value) (h0:v0.size=c0.length) (h1:v1.size=c1.length)
   (g0:∀ (i:Nat) (c:AV) (v:Value),c0[i]?=some c->v0[i]?=some v->VR r I w D c v) (g1:∀ (i:Nat) (c:AV) (v:Value),c1[i]?=some c->v1[i]?=some v->VR r I w D c v) :
   VR r I w D (.func f c0 c1) (.func (.func f) v0 v1)
 | yld (D:Nat->Prop) (l:Nat):VR r I w D (.yld l) (.func (.yield l) #[] #[])
 | agg (D:Nat->Prop) (cs:List AV) (vs:Array Value) (h0:vs.size=cs.length) (g:∀ (i:Nat) (c:AV) (v:Value),cs[i]?=some c->vs[i]?=some v->VR r I w D c v):VR r I w D (.agg cs) (.agg vs)
 | tup (D:Nat->Prop) (cs:List AV) (vs:Array Value) (h0:vs.size=cs.length) (g:∀ (i:Nat) (c:AV) (v:Value),cs[i]?=some c->vs[i]?=some v->VR r I w D c v):VR r I w D (.tup cs) (.tuple vs)
structure Step (r:Locs) (D:Nat->Prop) (I:Imm) (w:World) (r' : Locs) (D' : Nat->Prop) (I' : Imm) (w' : World):Prop where
 ids:∀ id,D id->D' id/\r' id=r id
 imm:∀ b o,I b o->I' b o/\w'.cell? ⟨b,o,none⟩=w.cell? ⟨b,o,none⟩
 size:w.heap.size<=w'.heap.size
theorem Step.refl (r:Locs) (D:Nat->Prop) (I:Imm) (w:World):Step r D I w r D I w:=⟨fun _ h=>⟨h,rfl⟩,fun _ _ h=>⟨h,rfl⟩,Qd _⟩
theorem Step.trans {r1 r2 r3:Locs} {D1 D2 D3:Nat->Prop} {I1 I2 I3:Imm} {w1 w2 w3:World} (h:Step r1 D1 I1 w1 r2 D2 I2 w2) (k:Step r2 D2 I2 w2 r3 D3 I3 w3):Step r1 D1 I1 w1 r3 D3 I3 w3 :=
  ⟨fun id hd => ⟨(k.ids id (h.ids id hd).1).1, (k.ids id (h.ids id hd).1).2.trans (h.ids id hd).2⟩,
   fun b o hi => ⟨(k.imm b o (h.imm b o hi).1).1, (k.imm b o (h.imm b o hi).1).2.trans (h.imm b o hi).2⟩, Nat.le_trans h.size k.size⟩
variable {r r' : Locs} {D D' : Nat->Prop} {I I' : Imm} {w w' : World}
theorem VR.mono {v:AV} {x:Value} (h:VR r I w D v x):∀ {r' : Locs} {D' : Nat->Prop} {I' : Imm} {w' : World},Step r D I w r' D' I' w'->VR r' I' w' D' v x:=by
 induction h with
 | any D v=>intros; exact .any _ _
 | bool=>intros; exact .bool _ _
 | int=>intros; exact .int _ _ _
 | flt=>intros; exact .flt _ _ _
 | cpx=>intros; exact .cpx _ _ _ _
 | val=>intros; exact .val _ _ _ _
 | str=>intros; exact .str _ _
 | ptr D id idx sub hd=>intro r' D' I' w' s; have:=(s.ids id hd).2; rw [<-this]; exact .ptr _ _ _ _ (s.ids id hd).1
 | ipt D cells b o val h1 h2 ih =>
  intro r' D' I' w' s
  refine .ipt _ _ _ _ val (fun j c hj=>?_) (fun j c hj=>ih j c hj ⟨fun _ h=>h.elim,s.imm,s.size⟩)
  obtain ⟨a,b'⟩:=h1 j c hj
  obtain ⟨a',b''⟩:=s.imm _ _ a
  exact ⟨a',b''.trans b'⟩
 | nilp=>intros; exact .nilp _
 | nils=>intros; exact .nils _
 | asl D id idx len hd hc=>intro r' D' I' w' s; have e:=(s.ids id hd).2; rw [<-e] at hc; rw [<-e]; exact .asl _ _ _ _ (s.ids id hd).1 hc
 | bsl D id idx sub len cap hd=>intro r' D' I' w' s; have e:=(s.ids id hd).2; rw [<-e]; exact .bsl _ _ _ _ _ _ (s.ids id hd).1
 | isl0=>intros; exact .isl0 _ _ _ _
 | isl D es elems b o cap val hl h0 h1 h2 ih =>
  intro r' D' I' w' s
  refine .isl _ _ _ _ _ _ val hl h0 (fun i e j c hi hj=>?_) (fun i e j c hi hj=>?_)
  ·obtain ⟨a,b'⟩:=h1 i e j c hi hj
   obtain ⟨a',b''⟩:=s.imm _ _ a
   exact ⟨a',b''.trans b'⟩
  ·exact ih i e j c hi hj ⟨fun _ h=>h.elim,s.imm,s.size⟩
 | amap D id hd=>intro r' D' I' w' s; have e:=(s.ids id hd).2; rw [<-e]; exact .amap _ _ (s.ids id hd).1
 | func D f c0 c1 v0 v1 h0 h1 g0 g1 ih0 ih1=>intro r' D' I' w' s; exact .func _ _ _ _ _ _ h0 h1 (fun i c v hc hv=>ih0 i c v hc hv s) (fun i c v hc hv=>ih1 i c v hc hv s)
 | yld=>intros; exact .yld _ _
 | agg D cs vs h0 g ih=>intro r' D' I' w' s; exact .agg _ _ _ h0 (fun i c v hc hv=>ih i c v hc hv s)
 | tup D cs vs h0 g ih=>intro r' D' I' w' s; exact .tup _ _ _ h0 (fun i c v hc hv=>ih i c v hc hv s)
def VRs (r:Locs) (I:Imm) (w:World) (D:Nat->Prop) (cs:List AV) (vs:Array Value):Prop :=
 vs.size=cs.length/\∀ (i:Nat) (c:AV) (v:Value),cs[i]?=some c->vs[i]?=some v->VR r I w D c v
theorem VRs.mono {cs:List AV} {vs:Array Value} (h:VRs r I w D cs vs) (s:Step r D I w r' D' I' w'):VRs r' I' w' D' cs vs :=
 ⟨h.1,fun i c v hc hv=>(h.2 i c v hc hv).mono s⟩
theorem VR.weak {v:AV} {x:Value} (h:VR r I w D v x) (hd:∀ id,D id->D' id):VR r I w D' v x:=h.mono ⟨fun id h=>⟨hd id h,rfl⟩,fun _ _ h=>⟨h,rfl⟩,Qd _⟩
mutual
def Yb:AV->Bool
 | .ptr _ _ _ | .asl _ _ _ | .bsl _ _ _ _ _ | .amap _=>false
 | .func _ c0 c1=>Yo c0&&Yo c1
 | .agg cs=>Yo cs
 | .tup cs=>Yo cs
 | _=>true
def Yo:List AV->Bool
 | []=>true
 | c::cs=>Yb c&&Yo cs
end
theorem Uh:∀ {cs:List AV},Yo cs=true->∀ {i:Nat} {c:AV},cs[i]?=some c->Yb c=true
 | [],_,i,c,hi=>by simp at hi
 | a::cs,h,0,c,hi=>by simp [Yo] at h hi; subst hi; exact h.1
 | a::cs,h,i+1,c,hi=>by simp [Yo] at h hi; exact Uh h.2 hi
theorem VR.pure {v:AV} {x:Value} (h:VR r I w D v x):Yb v=true->VR r I w (fun _=>False) v x:=by
 induction h with
 | any=>intro _; exact .any _ _
 | bool=>intro _; exact .bool _ _
 | int=>intro _; exact .int _ _ _
 | flt=>intro _; exact .flt _ _ _
 | cpx=>intro _; exact .cpx _ _ _ _
 | val=>intro _; exact .val _ _ _ _
 | str=>intro _; exact .str _ _
 | ptr=>intro hp; simp [Yb] at hp
 | ipt D cells b o val h1 h2 ih=>intro _; exact .ipt _ _ _ _ val h1 h2
 | nilp=>intro _; exact .nilp _
 | nils=>intro _; exact .nils _
 | asl=>intro hp; simp [Yb] at hp
 | bsl=>intro hp; simp [Yb] at hp
 | isl0=>intro _; exact .isl0 _ _ _ _
 | isl D es elems b o cap val hl h0 h1 h2 ih=>intro _; exact .isl _ _ _ _ _ _ val hl h0 h1 h2
 | amap=>intro hp; simp [Yb] at hp
 | func D f c0 c1 v0 v1 h0 h1 g0 g1 ih0 ih1 =>
  intro hp
  simp only [Yb,Qc] at hp
  exact .func _ _ _ _ _ _ h0 h1 (fun i c v hc hv=>ih0 i c v hc hv (Uh hp.1 hc)) (fun i c v hc hv=>ih1 i c v hc hv (Uh hp.2 hc))
 | yld=>intro _; exact .yld _ _
 | agg D cs vs h0 g ih=>intro hp; simp only [Yb] at hp; exact .agg _ _ _ h0 (fun i c v hc hv=>ih i c v hc hv (Uh hp hc))
 | tup D cs vs h0 g ih=>intro hp; simp only [Yb] at hp; exact .tup _ _ _ h0 (fun i c v hc hv=>ih i c v hc hv (Uh hp hc))
abbrev Env:=List (Nat × AV)
def Env.get:Env->Nat->AV
 | [],_=>.any
 | (j,v)::e,i=>cond (Qs i j) v (Env.get e i)
inductive ABlk where
 | row (es:Nat) (elems:List (List AV)) (mt pu:Bool)
 | map (ents:List (AV × AV))
 | set (keys:List ByteArray)
 | dead
structure St where
 heap:List (Nat × ABlk)
 next:Nat
def hget:List (Nat × ABlk)->Nat->ABlk
 | [],_=>.dead
 | (j,b)::h,i=>cond (Qs i j) b (hget h i)
def St.get (σ:St) (i:Nat):ABlk:=hget σ.heap i
def St.set (σ:St) (i:Nat) (b:ABlk):St:={ σ with heap:=(i,b)::σ.heap }
def St.add (σ:St) (b:ABlk):St:={ heap:=(σ.next,b)::σ.heap,next:=σ.next+1 }
theorem Env.get_cons (j:Nat) (v:AV) (e:Env) (i:Nat):Env.get ((j,v)::e) i=if i=j then v else Env.get e i:=by
 simp only [Env.get]
 by_cases h:i=j
 ·subst h; simp
 ·have:Qs i j=false:=by rw [Qx]; intro hb; exact h (Qh hb)
  simp [this,h]
theorem St.get_set (σ:St) (i:Nat) (b:ABlk) (j:Nat):(σ.set i b).get j=if j=i then b else σ.get j:=by
 simp only [St.get,St.set,hget]
 by_cases h:j=i
 ·subst h; simp
 ·have:Qs j i=false:=by rw [Qx]; intro hb; exact h (Qh hb)
  simp [this,h]
theorem St.get_add (σ:St) (b:ABlk) (j:Nat):(σ.add b).get j=if j=σ.next then b else σ.get j:=by
 simp only [St.get,St.add,hget]
 by_cases h:j=σ.next
 ·subst h; simp
 ·have:Qs j σ.next=false:=by rw [Qx]; intro hb; exact h (Qh hb)
  simp [this,h]
def BlkOK (r:Locs) (I:Imm) (w:World) (D:Nat->Prop) (B:Nat) (id:Nat):ABlk->Prop
 | .row es elems mt pu =>
  ((r id).es=es/\(r id).len=elems.length)/\elems.length<=(r id).cap/\(∀ (i:Nat) (e:List AV),elems[i]?=some e->e.length=es) /\
  ∃ (cs:Array Value) (T:TypeId) (fz:Nat × Nat),w.heap[(r id).blk]?=some (.cells cs T fz)/\(r id).off+(r id).cap*es<=cs.size /\
   (∀ (i:Nat) (e:List AV) (j:Nat) (c:AV),elems[i]?=some e->e[j]?=some c->∃ v,cs[(r id).off+i*es+j]?=some v/\VR r I w (fun x=>pu=false/\D x) c v) /\
   (mt=true->B<=(r id).blk/\(∀ o,¬ I (r id).blk o)/\fz=(0,0)) /\
   (mt=false->∀ (i:Nat) (e:List AV) (j:Nat) (c:AV),elems[i]?=some e->e[j]?=some c->I (r id).blk ((r id).off+i*es+j))
 | .map ents =>
  B<=(r id).blk/\∃ (es:Array MapEntry) (clock:Nat),w.heap[(r id).blk]?=some (.map es clock)/\es.size=ents.length /\
   ∀ (i:Nat) (e:MapEntry) (k v:AV),es[i]?=some e->ents[i]?=some (k,v)->VR r I w D k e.key/\VR r I w D v e.val
 | .set keys =>
  B<=(r id).blk/\∃ (es:Array MapEntry) (clock:Nat),w.heap[(r id).blk]?=some (.map es clock)/\es.size=keys.length /\
   ∀ (i:Nat) (e:MapEntry) (k:ByteArray),es[i]?=some e->keys[i]?=some k->e.key = .string k/\e.val = .bool true
 | .dead=>True
def ABlk.live:ABlk->Bool
 | .dead=>false
 | _=>true
structure HR (B:Nat) (w0:World) (I0:Imm) (pr:Nat->Obj->Prop) (r:Locs) (I:Imm) (D:Nat->Prop) (h:Nat->ABlk) (n:Nat) (w:World):Prop where
 below:Go.RowKit.Below B w0 w
 base:B<=w.heap.size
 imm:∀ b o,I b o->b<w.heap.size
 dom:∀ id,D id->id<n/\(r id).blk<w.heap.size
 live:∀ id,(h id).live=true->D id
 blk:∀ id,BlkOK r I w D B id (h id)
 inj:∀ id id',(h id).live=true->(h id').live=true->id≠id'->(r id).blk≠(r id').blk
 prot:∀ b o,pr b o->w.heap[b]?=some o/\B<=b
 protK:∀ b o,pr b o->(∀ id,(h id).live=true->(r id).blk≠b)/\∀ o',¬ I b o'
 immB:∀ b o,I b o->I0 b o\/B<=b
def hupd (h:Nat->ABlk) (k:Nat) (b:ABlk):Nat->ABlk:=fun i=>if i=k then b else h i
def rupd (r:Locs) (k:Nat) (l:Loc):Locs:=fun i=>if i=k then l else r i
def ER (r:Locs) (I:Imm) (w:World) (D:Nat->Prop) (N:Nat) (env:Env) (tmps:Array Value):Prop :=
 tmps.size=N/\∀ i,VR r I w D (env.get i) (tmps.getD i undef)
theorem ER.mono {N:Nat} {env:Env} {tmps:Array Value} (h:ER r I w D N env tmps) (s:Step r D I w r' D' I' w'):ER r' I' w' D' N env tmps :=
 ⟨h.1,fun i=>(h.2 i).mono s⟩
theorem ER.put {N:Nat} {env:Env} {tmps:Array Value} (h:ER r I w D N env tmps) {d:Nat} (hd:d<N) {v:AV} {x:Value} (hv:VR r I w D v x) :
  ER r I w D N ((d,v)::env) (tmps.setIfInBounds d x):=by
 refine ⟨by simp [h.1],fun i=>?_⟩
 rw [Env.get_cons]
 by_cases e:i=d
 ·subst e; simp [h.1,hd,hv]
 ·have:=h.2 i
  have e' : ¬ d=i:=fun x=>e x.symm
  simp only [e,if_false,Array.getD_eq_getD_getElem?,Array.getElem?_setIfInBounds,e',if_false] at *
  exact this
open Go Go.RowKit
variable {r r' : Locs} {D D' : Nat->Prop} {I I' : Imm} {w w' w0:World} {I0:Imm} {B n n' k:Nat} {pr:Nat->Obj->Prop} {h:Nat->ABlk}
theorem BlkOK.mono {id:Nat} {b:ABlk} (hb:BlkOK r I w D B id b) (s:Step r D I w r' D' I' w') (hr:r' id=r id)
  (hh:b.live=true->w'.heap[(r id).blk]?=w.heap[(r id).blk]?) (hI:∀ es elems pu,b = .row es elems true pu->∀ o,I' (r id).blk o->I (r id).blk o):BlkOK r' I' w' D' B id b:=by
 cases b with
 | dead=>trivial
 | row es elems mt pu =>
  obtain ⟨h1,h2,h3,cs,T,fz,h4,h5,h6,h7,h8⟩:=hb
  refine ⟨by rw [hr]; exact h1,by rw [hr]; exact h2,h3,cs,T,fz,by rw [hr,hh rfl]; exact h4,by rw [hr]; exact h5,?_,?_,?_⟩
  ·intro i e j c hi hj
   obtain ⟨v,a,b⟩:=h6 i e j c hi hj
   exact ⟨v,by rw [hr]; exact a,b.mono ⟨fun id h=>⟨⟨h.1,(s.ids id h.2).1⟩,(s.ids id h.2).2⟩,s.imm,s.size⟩⟩
  ·intro hm
   obtain ⟨a,b,c⟩:=h7 hm
   subst hm
   rw [hr]
   exact ⟨a,fun o ho=>b o (hI _ _ _ rfl o ho),c⟩
  ·intro hm i e j c hi hj
   rw [hr]
   exact (s.imm _ _ (h8 hm i e j c hi hj)).1
 | map ents =>
  obtain ⟨h0,es,clock,h1,h2,h3⟩:=hb
  refine ⟨by rw [hr]; exact h0,es,clock,by rw [hr,hh rfl]; exact h1,h2,fun i e k v he hv=>?_⟩
  exact ⟨(h3 i e k v he hv).1.mono s,(h3 i e k v he hv).2.mono s⟩
 | set keys =>
  obtain ⟨h0,es,clock,h1,h2,h3⟩:=hb
  exact ⟨by rw [hr]; exact h0,es,clock,by rw [hr,hh rfl]; exact h1,h2,h3⟩
theorem Yc (w:World) (o:Obj) {b:Nat} (hb:b<w.heap.size):(w.alloc o).heap[b]?=w.heap[b]?:=Below.heap_alloc w o b hb
theorem Yu (w:World) (o:Obj):(w.alloc o).heap[w.heap.size]?=some o:=by show (w.heap.push o)[_]?=_; simp
theorem HR.alloc (H:HR B w0 I0 pr r I D h n w) (hk:¬ D k) (hkn:k<n') (hn:n<=n') (o:Obj) (l:Loc) (hl:l.blk=w.heap.size) (b:ABlk)
  (hb:∀ r' D',Step r D I w r' D' I (w.alloc o)->r' k=l->BlkOK r' I (w.alloc o) D' B k b) :
  HR B w0 I0 pr (rupd r k l) I (fun i=>D i\/i=k) (hupd h k b) n' (w.alloc o)/\Step r D I w (rupd r k l) (fun i=>D i\/i=k) I (w.alloc o):=by
 have hs:Step r D I w (rupd r k l) (fun i=>D i\/i=k) I (w.alloc o):=by
  refine ⟨fun id hd=>⟨.inl hd,?_⟩,fun b o' hi=>⟨hi,?_⟩,by simp⟩
  ·have:id≠k:=fun e=>hk (e ▸ hd)
   simp [rupd,this]
  ·exact Pa (Yc w o (H.imm _ _ hi))
 refine ⟨⟨H.below.alloc H.base o,?_,?_,?_,?_,?_,?_,?_,?_,H.immB⟩,hs⟩
 ·have:=H.base; simp; omega
 ·intro b o' hi; have:=H.imm b o' hi; simp; omega
 ·rintro id (hd|rfl)
  ·have h1:=H.dom id hd
   have e:id≠k:=fun e=>hk (e ▸ hd)
   simp only [rupd,e,if_false,World.size_alloc]
   exact ⟨by omega,by omega⟩
  ·simp [rupd,hkn,hl]
 ·intro id hd
  by_cases e:id=k
  ·exact .inr e
  ·simp only [hupd,e,if_false] at hd; exact .inl (H.live id hd)
 ·intro id
  by_cases e:id=k
  ·subst e
   simp only [hupd,if_true]
   exact hb _ _ hs (by simp [rupd])
  ·simp only [hupd,e,if_false]
   have e1:rupd r k l id=r id:=by simp [rupd,e]
   by_cases hd:(h id).live=true
   ·exact (H.blk id).mono hs e1 (fun _=>Yc w o (H.dom id (H.live id hd)).2) (fun _ _ _ _ _ hx=>hx)
   ·have:h id = .dead:=by cases hx:h id<;>simp_all [ABlk.live]
    rw [this]; trivial
 ·intro id id' h1 h2 hne
  by_cases e:id=k<;>by_cases e' : id'=k
  ·omega
  ·simp only [hupd,e',if_false] at h2
   have:=(H.dom id' (H.live id' h2)).2
   simp only [rupd,e,e',if_true,if_false,hl]; omega
  ·simp only [hupd,e,if_false] at h1
   have:=(H.dom id (H.live id h1)).2
   simp only [rupd,e,e',if_true,if_false,hl]; omega
  ·simp only [hupd,e,e',if_false] at h1 h2
   simp only [rupd,e,e',if_false]
   exact H.inj id id' h1 h2 hne
 ·intro b o' hp
  have h1:=H.prot b o' hp
  have h2:b<w.heap.size:=(Qt.1 h1.1).1
  exact ⟨(Yc w o h2).trans h1.1,h1.2⟩
 ·intro b o' hp
  have h1:=H.prot b o' hp
  have h2:b<w.heap.size:=(Qt.1 h1.1).1
  refine ⟨fun id hd=>?_,(H.protK b o' hp).2⟩
  by_cases e:id=k
  ·simp only [rupd,e,if_true,hl]; omega
  ·simp only [hupd,e,if_false] at hd
   simp only [rupd,e,if_false]
   exact (H.protK b o' hp).1 id hd
theorem HR.write (H:HR B w0 I0 pr r I D h n w) (hb:(h k).live=true) (hbelow:Below B w w') (hB:B<=(r k).blk) (hI:∀ o,I (r k).blk o->w'.cell? ⟨(r k).blk,o,none⟩=w.cell? ⟨(r k).blk,o,none⟩) (hK:∀ o,w.heap[(r k).blk]?=some o->(∀ l,o ≠ .loop l)/\(∀ l,o ≠ .deferred l))
  (hs:w'.heap.size=w.heap.size) (ho:∀ b,b≠(r k).blk->w'.heap[b]?=w.heap[b]?) (b:ABlk)
  (hnew:Step r D I w r D I w'->BlkOK r I w' D B k b) :
  HR B w0 I0 pr r I D (hupd h k b) n w'/\Step r D I w r D I w':=by
 have hst:Step r D I w r D I w':=⟨fun id hd=>⟨hd,rfl⟩,fun b' o hi=>⟨hi,if e:b'=(r k).blk then e ▸ hI o (e ▸ hi) else Pa (ho b' e)⟩,by rw [hs]; exact Qd _⟩
 refine ⟨⟨H.below.trans hbelow,by rw [hs]; exact H.base,fun b o hi=>by rw [hs]; exact H.imm b o hi,fun id hd=>by rw [hs]; exact H.dom id hd,?_,?_,?_,?_,?_,H.immB⟩,hst⟩
 ·intro id hd
  by_cases e:id=k
  ·subst e; exact H.live id hb
  ·simp only [hupd,e,if_false] at hd; exact H.live id hd
 ·intro id
  by_cases e:id=k
  ·subst e; simp only [hupd,if_true]; exact hnew hst
  ·simp only [hupd,e,if_false]
   by_cases hd:(h id).live=true
   ·exact (H.blk id).mono hst rfl (fun _=>ho _ (H.inj id k hd hb e)) (fun _ _ _ _ _ hx=>hx)
   ·have:h id = .dead:=by cases hx:h id<;>simp_all [ABlk.live]
    rw [this]; trivial
 ·intro id id' h1 h2 hne
  refine H.inj id id' ?_ ?_ hne
  ·by_cases e:id=k
   ·subst e; exact hb
   ·simp only [hupd,e,if_false] at h1; exact h1
  ·by_cases e:id'=k
   ·subst e; exact hb
   ·simp only [hupd,e,if_false] at h2; exact h2
 ·intro b' o hp
  obtain ⟨h1,h2⟩:=H.prot b' o hp
  refine ⟨(ho b' ?_).trans h1,h2⟩
  exact fun e=>(H.protK _ _ hp).1 k hb e.symm
 ·intro b' o hp
  refine ⟨fun id hd=>?_,(H.protK b' o hp).2⟩
  by_cases e:id=k
  ·subst e; exact (H.protK b' o hp).1 id hb
  ·simp only [hupd,e,if_false] at hd
   exact (H.protK b' o hp).1 id hd
theorem HR.drew (H:HR B w0 I0 pr r I D h n w):HR B w0 I0 pr r I D h n w.drew :=
 ⟨H.below.drew,H.base,H.imm,H.dom,H.live,fun id=>(H.blk id).mono ⟨fun _ hd=>⟨hd,rfl⟩,fun _ _ hi=>⟨hi,rfl⟩,Qd _⟩ rfl (fun _=>rfl) (fun _ _ _ _ _ hx=>hx),H.inj,H.prot,H.protK,H.immB⟩
theorem Step.drew (r:Locs) (D:Nat->Prop) (I:Imm) (w:World):Step r D I w r D I w.drew:=⟨fun _ hd=>⟨hd,rfl⟩,fun _ _ hi=>⟨hi,rfl⟩,Qd _⟩
variable {r r' : Locs} {D D' : Nat->Prop} {I I' : Imm} {w w' w0:World} {I0:Imm} {B n n' k:Nat} {pr:Nat->Obj->Prop} {h:Nat->ABlk} {P:Program}
structure TI where
 desc:TypeDesc
 size:Nat
 bytes:Nat
 agg:Bool
 zero:List AV
abbrev Tab:=TypeId->Option TI
def Zn8:TypeDesc->Bool
 | .struct _ | .array _ _=>true
 | _=>false
structure TabOK (P:Program) (T:Tab):Prop where
 und:∀ t ti,T t=some ti->P.underlying t=some ti.desc
 agg:∀ t ti,T t=some ti->ti.agg=Zn8 ti.desc
 info:∀ t ti,T t=some ti->∃ i,P.info? t=some i/\i.size=ti.size/\i.bytes=ti.bytes /\
  ∃ z,i.zero=some z/\z.cells.size=ti.size/\(ti.agg=true->z = .agg z.cells)/\(∀ r I w D,VRs r I w D ti.zero z.cells)/\(ti.agg=false->z.cells = #[z])
def AV.one:AV->Bool
 | .any | .agg _ | .tup _=>false
 | _=>true
def cellsOf:AV->Option (List AV)
 | .any | .tup _=>none
 | .agg cs=>some cs
 | v=>some [v]
theorem VR.one {v:AV} {x:Value} (hv:VR r I w D v x) (h:v.one=true):x.oneCell'=true:=by
 cases hv<;>simp_all [AV.one,Value.oneCell']
theorem VR.cells {v:AV} {x:Value} (hv:VR r I w D v x) {cs:List AV} (hc:cellsOf v=some cs):VRs r I w D cs x.cells:=by
 cases v with
 | any=>simp [cellsOf] at hc
 | tup=>simp [cellsOf] at hc
 | agg c0 =>
  simp only [cellsOf,Qf] at hc
  subst hc
  cases hv with
  | agg _ _ vs h0 g=>exact ⟨h0,g⟩
 | _ =>
  simp only [cellsOf,Qf] at hc
  subst hc
  have hx:x.cells = #[x]:=by cases hv<;>rfl
  rw [hx]
  refine ⟨rfl,fun i c v' hi hv'=>?_⟩
  cases i with
  | zero=>simp at hi hv'; subst hi; subst hv'; exact hv
  | succ i=>simp at hi
theorem Xu (b o j:Nat):(⟨b,o,none⟩:Addr).add j=⟨b,o+j,none⟩:=by unfold Addr.add; split<;>simp_all
theorem Znl {T:Tab} (hT:TabOK P T) {t:TypeId} {ti:TI} (ht:T t=some ti):(isAgg t).run P w = .ok ti.agg w:=by
 rw [hT.agg t ti ht]
 have:=hT.und t ti ht
 unfold isAgg Zn8
 cases hd:ti.desc<;>simp [run_underlying this,hd]
theorem Vp {T:Tab} (hT:TabOK P T) {t:TypeId} {ti:TI} (ht:T t=some ti):(sizeOf t).run P w = .ok ti.size w:=by
 obtain ⟨i,h1,h2,_⟩:=hT.info t ti ht
 simp [sizeOf,typeInfo,h1,h2]
theorem Zvr {T:Tab} (hT:TabOK P T) {t:TypeId} {ti:TI} (ht:T t=some ti):∃ i,(typeInfo t).run P w = .ok i w/\P.info? t=some i/\i.size=ti.size/\i.bytes=ti.bytes:=by
 obtain ⟨i,h1,h2,h3,_⟩:=hT.info t ti ht
 exact ⟨i,by simp [typeInfo,h1],h1,h2,h3⟩
theorem Zft {T:Tab} (hT:TabOK P T) {t:TypeId} {ti:TI} (ht:T t=some ti):∃ z,(∀ w,(zeroValue t).run P w = .ok z w)/\z.cells.size=ti.size/\(ti.agg=true->z = .agg z.cells)/\∀ r I w D,VRs r I w D ti.zero z.cells:=by
 obtain ⟨i,h1,h2,h3,z,h4,h5,h6,h7,_⟩:=hT.info t ti ht
 exact ⟨z,fun w=>by simp [zeroValue,typeInfo,h1,h4],h5,h6,h7⟩
inductive Eff where
 | none
 | add (b:ABlk)
 | put (id:Nat) (b:ABlk)
 | app (id:Nat) (b:ABlk)
def Eff.go (k:Nat) (h:Nat->ABlk):Eff->Nat->ABlk
 | .none=>h
 | .add b=>hupd h k b
 | .put id b=>hupd h id b
 | .app id b=>hupd (hupd h id .dead) k b
def Eff.adds:Eff->Bool
 | .add _ | .app _ _=>true
 | _=>false
def Gives (P:Program) (B:Nat) (w0:World) (I0:Imm) (pr:Nat->Obj->Prop) (r:Locs) (I:Imm) (D:Nat->Prop) (h:Nat->ABlk) (n k:Nat) (s:Sem Value) (w:World) (v:AV) (e:Eff):Prop :=
 ∃ x w' r',s.run P w = .ok x w'/\HR B w0 I0 pr r' I (fun i=>D i\/(e.adds=true/\i=k)) (e.go k h) n w' /\
  Step r D I w r' (fun i=>D i\/(e.adds=true/\i=k)) I w'/\VR r' I w' (fun i=>D i\/(e.adds=true/\i=k)) v x
theorem Gives.same {s:Sem Value} {x:Value} {v:AV} (H:HR B w0 I0 pr r I D h n w) (hs:s.run P w = .ok x w) (hv:VR r I w D v x) :
  Gives P B w0 I0 pr r I D h n k s w v .none:=by
 have hD:(fun i=>D i\/(Eff.none.adds=true/\i=k))=D:=funext fun i=>by simp [Eff.adds]
 unfold Gives
 rw [hD]
 exact ⟨x,w,r,hs,H,Step.refl _ _ _ _,hv⟩
theorem Zkn {T:Tab} (hT:TabOK P T) {t:TypeId} {ti:TI} (ht:T t=some ti) {b o:Nat} {cs:List Value} (hl:cs.length=ti.size) (hc:∀ j v,cs[j]?=some v->w.cell? ⟨b,o+j,none⟩=some v) (hn:ti.agg=false->cs.length=1) :
  (loadVar t ⟨b,o,none⟩).run P w = .ok (if ti.agg then .agg cs.toArray else cs.getD 0 undef) w:=by
 unfold loadVar
 simp only [Sn,Znl hT ht,Rq]
 cases hg:ti.agg with
 | true =>
  simp only [if_true,Sn,Vp hT ht,Rq]
  rw [<-hl,run_loadCells_list w ⟨b,o,none⟩ cs (fun j v hv=>by rw [Xu]; exact hc j v hv)]
  simp
 | false =>
  have h1:=hn hg
  obtain ⟨c,rfl⟩:∃ c,cs=[c]:=by
   match cs,h1 with
   | [c],_=>exact ⟨c,rfl⟩
  have:=hc 0 c rfl
  simp only [Nt] at this
  simp [this]
def seg (cells:List AV) (sub size:Nat):List AV:=(cells.drop sub).take size
def Zc5 (ti:TI) (cells:List AV) (sub:Nat):Option AV :=
 cond (Su (sub+ti.size) cells.length)
  (cond ti.agg (some (.agg (seg cells sub ti.size))) (cond (Qs ti.size 1) (cells[sub]?) none)) none
theorem Zd {α:Type} {c:Bool} {a:Option α} {x:α} (h:cond c a none=some x):c=true/\a=some x:=by cases c<;>simp_all
theorem Zmo {T:Tab} (hT:TabOK P T) {t:TypeId} {ti:TI} (ht:T t=some ti) {cells:List AV} {sub:Nat} {v:AV} (hv:Zc5 ti cells sub=some v) {b o:Nat} (val:Nat->Value)
  (hc:∀ j c,cells[j]?=some c->w.cell? ⟨b,o+j,none⟩=some (val j)/\VR r I w D c (val j)) :
  ∃ x,(loadVar t ⟨b,o+sub,none⟩).run P w = .ok x w/\VR r I w D v x:=by
 unfold Zc5 at hv
 obtain ⟨hle,hv⟩:=Zd hv
 have hle:sub+ti.size<=cells.length:=Qm hle
 have hl:=Zkn (w:=w) hT ht (b:=b) (o:=o+sub) (cs:=(Rv ti.size).map fun j=>val (sub+j)) (by simp) (fun j u hj=>by
  by_cases hjs:j<ti.size
  ·simp [hjs] at hj
   subst hj
   have:=(hc (sub+j) cells[sub+j] (by rw [List.getElem?_eq_getElem])).1
   rw [Nz]; exact this
  ·simp [hjs] at hj)
 cases hg:ti.agg with
 | true =>
  rw [hg] at hv
  simp only [cond_true,Qf] at hv
  subst hv
  refine ⟨_,hl (by simp [hg]),?_⟩
  simp only [hg,if_true]
  refine .agg _ _ _ (by simp [seg]; omega) (fun i c u hi hu=>?_)
  simp only [seg] at hi
  have hi' : i<ti.size:=by
   rcases Wh i ti.size with h|h
   ·exact h
   ·simp [Pb,Nj.2 h] at hi
  simp [hi',Rz] at hi
  simp [hi'] at hu
  subst hu
  exact (hc _ _ hi).2
 | false =>
  rw [hg] at hv
  simp only [cond_false] at hv
  obtain ⟨h1,hv⟩:=Zd hv
  have h1:ti.size=1:=Qh h1
  refine ⟨_,hl (by simp [h1]),?_⟩
  simp [hg,h1]
  exact (hc _ _ hv).2
theorem Zjc {id:Nat} {es:Nat} {elems:List (List AV)} {mt pu:Bool} (hb:BlkOK r I w D B id (.row es elems mt pu)) {idx:Nat} {cells:List AV} (hi:elems[idx]?=some cells) :
  ∃ val:Nat->Value,∀ j c,cells[j]?=some c->w.cell? ⟨(r id).blk,(r id).off+idx*es+j,none⟩=some (val j)/\VR r I w D c (val j):=by
 obtain ⟨h1,h2,h3,cs,T,fz,h4,h5,h6,_⟩:=hb
 refine ⟨fun j=>cs.getD ((r id).off+idx*es+j) undef,fun j c hj=>?_⟩
 obtain ⟨v,hv,hr⟩:=h6 idx cells j c hi hj
 have:cs.getD ((r id).off+idx*es+j) undef=v:=by simp [hv]
 simp only [this]
 exact ⟨by simp [World.cell?,h4,hv],hr.weak fun _ h=>h.2⟩
theorem Zlk {T:Tab} (hT:TabOK P T) {t:TypeId} {ti:TI} (ht:T t=some ti) (H:HR B w0 I0 pr r I D h n w) {id idx sub es:Nat} {elems:List (List AV)} {mt pu:Bool} {cells:List AV} {v:AV} {x:Value}
  (hx:VR r I w D (.ptr id idx sub) x) (hb:h id = .row es elems mt pu) (hi:elems[idx]?=some cells) (hv:Zc5 ti cells sub=some v) :
  Gives P B w0 I0 pr r I D h n k (Gm t x) w v .none:=by
 cases hx with
 | ptr _ _ _ _ hd =>
  have hB:=H.blk id
  rw [hb] at hB
  obtain ⟨val,hc⟩:=Zjc hB hi
  have he:(r id).es=es:=hB.1.1
  obtain ⟨y,hy,hr⟩:=Zmo hT ht hv val hc
  refine Gives.same H (x:=y) ?_ hr
  simp only [Gm,Ms,Sn,Pr,Rq,he]
  exact hy
theorem Zkq {T:Tab} (hT:TabOK P T) {t:TypeId} {ti:TI} (ht:T t=some ti) (H:HR B w0 I0 pr r I D h n w) {cells:List AV} {v:AV} {x:Value}
  (hx:VR r I w D (.ipt cells) x) (hv:Zc5 ti cells 0=some v) :
  Gives P B w0 I0 pr r I D h n k (Gm t x) w v .none:=by
 cases hx with
 | ipt _ _ b o val h1 h2 =>
  obtain ⟨y,hy,hr⟩:=Zmo (D:=D) (r:=r) (I:=I) hT ht hv (b:=b) (o:=o) val (fun j c hj=>⟨(h1 j c hj).2,(h2 j c hj).mono ⟨fun _ hf=>hf.elim,fun _ _ hi=>⟨hi,rfl⟩,Qd _⟩⟩)
  refine Gives.same H (x:=y) ?_ hr
  simp only [Gm,Ms,Sn,Pr,Rq]
  exact hy
theorem Zoj {T:Tab} (_hT:TabOK P T) (H:HR B w0 I0 pr r I D h n w) (hk:¬ D k) (hkn:k<n) {t:TypeId} {cs:List AV} {xs:Array Value} (hxs:VRs r I w D cs xs) {s:Sem Value}
  (hs:s.run P w = .ok (.pointer (some ⟨w.heap.size,0,none⟩)) (w.alloc (.cells xs t))) :
  Gives P B w0 I0 pr r I D h n k s w (.ptr k 0 0) (.add (.row cs.length [cs] true false)):=by
 obtain ⟨H',S'⟩:=H.alloc (n':=n) hk hkn (Qd _) (.cells xs t) ⟨w.heap.size,0,1,cs.length,1⟩ rfl (.row cs.length [cs] true false) (fun r' D' st hr=>by
  refine ⟨by rw [hr]; exact ⟨rfl,rfl⟩,by rw [hr]; simp,?_,xs,t,(0,0),by rw [hr]; exact Yu _ _,by rw [hr]; simp [hxs.1],?_,fun _=>⟨by rw [hr]; exact H.base,?_,rfl⟩,by simp⟩
  ·intro i e hi; cases i with
   | zero=>simp at hi; subst hi; rfl
   | succ i=>simp at hi
  ·intro i e j c hi hj
   cases i with
   | zero =>
    simp at hi; subst hi
    have hlt:j<xs.size:=by rw [hxs.1]; exact (Qi.1 hj).1
    refine ⟨xs[j],by rw [hr]; simp [hlt],((hxs.2 j c _ hj (by simp [hlt])).mono st).weak fun _ h=>⟨rfl,h⟩⟩
   | succ i=>simp at hi
  ·intro o hi
   rw [hr] at hi
   have:=H.imm _ _ hi
   simp at this)
 have hD:(fun i=>D i\/((Eff.add (.row cs.length [cs] true false)).adds=true/\i=k))=(fun i=>D i\/i=k):=funext fun i=>by simp [Eff.adds]
 unfold Gives
 rw [hD]
 refine ⟨_,_,_,hs,H',S',?_⟩
 have:=VR.ptr (r:=rupd r k ⟨w.heap.size,0,1,cs.length,1⟩) (I:=I) (w:=w.alloc (.cells xs t)) (fun i=>D i\/i=k) k 0 0 (.inr rfl)
 simpa [rupd] using this
theorem Zqq {T:Tab} (hT:TabOK P T) {t:TypeId} {ti:TI} (ht:T t=some ti) (H:HR B w0 I0 pr r I D h n w) (hk:¬ D k) (hkn:k<n) :
  Gives P B w0 I0 pr r I D h n k (Instr.alloc t true (.tuple #[])) w (.ptr k 0 0) (.add (.row ti.zero.length [ti.zero] true false)):=by
 obtain ⟨z,hz,h1,h2,h3⟩:=Zft hT ht
 refine Zoj hT H hk hkn (t:=t) (h3 r I w D) ?_
 simp [Instr.alloc,newVar,newRow,hz]
theorem Zxm {T:Tab} (hT:TabOK P T) {t:TypeId} (H:HR B w0 I0 pr r I D h n w) (hk:¬ D k) (hkn:k<n) {v:AV} {x:Value} {cs:List AV} (hv:VR r I w D v x) (hc:cellsOf v=some cs) :
  Gives P B w0 I0 pr r I D h n k (Instr.box t x) w (.ptr k 0 0) (.add (.row cs.length [cs] true false)):=by
 refine Zoj hT H hk hkn (t:=t) (hv.cells hc) ?_
 simp [Instr.box,newVar,newRow]
variable {r r' : Locs} {D D' : Nat->Prop} {I I' : Imm} {w w' w0:World} {I0:Imm} {B n n' k:Nat} {pr:Nat->Obj->Prop} {h:Nat->ABlk} {P:Program}
theorem Yn {α:Type} (a b:List α) (s:Nat) (i:Nat) (hs:s+b.length<=a.length) :
  (a.take s++b++a.drop (s+b.length))[i]?=if i<s then a[i]? else if i<s+b.length then b[i-s]? else a[i]?:=by
 have e1:(a.take s).length=s:=by simp; omega
 by_cases h1:i<s
 ·simp [h1,List.getElem?_append,e1]
 ·by_cases h2:i<s+b.length
  ·rw [Sl (by simp; omega),Sf (by omega),e1]
   simp [h1,h2]
  ·rw [Sf (by simp; omega),Rz]
   simp [h1,h2]
   congr 1
   omega
def splice (a:List AV) (s:Nat) (b:List AV):List AV:=a.take s++b++a.drop (s+b.length)
theorem Zl7 (a b:List AV) (s:Nat) (h:s+b.length<=a.length):(splice a s b).length=a.length:=by simp [splice]; omega
theorem HR.splice (H:HR B w0 I0 pr r I D h n w) {es:Nat} {elems:List (List AV)} {pu:Bool} (hb:h k = .row es elems true pu) {idx sub:Nat} {cells xs:List AV} (hi:elems[idx]?=some cells)
  (hle:sub+xs.length<=cells.length) {vs:Array Value} (hv:VRs r I w D xs vs) :
  ∃ cs:Array Value,∃ T,w.heap[(r k).blk]?=some (.cells cs T (0,0))/\(r k).off+idx*es+sub+vs.size<=cs.size /\
   let w':=w.setRow (r k).blk (cs.toList.take ((r k).off+idx*es+sub)++vs.toList++cs.toList.drop ((r k).off+idx*es+sub+vs.toList.length)).toArray
   HR B w0 I0 pr r I D (hupd h k (.row es (elems.set idx (Sx.splice cells sub xs)) true (pu&&Yo xs))) n w'/\Step r D I w r D I w':=by
 have hB:=H.blk k
 rw [hb] at hB
 obtain ⟨h1,h2,h3,cs,T,fz,h4,h5,h6,h7,_⟩:=hB
 obtain ⟨g1,g2,rfl⟩:=h7 rfl
 have hil:idx<elems.length:=(Qi.1 hi).1
 have hcl:cells.length=es:=h3 idx cells hi
 have hsz:vs.size=xs.length:=hv.1
 have hb1:(r k).off+idx*es+sub+vs.size<=cs.size:=by
  have:(idx+1)*es<=(r k).cap*es:=Rt _ (by omega)
  have:(idx+1)*es=idx*es+es:=Ps _ _
  omega
 refine ⟨cs,T,h4,hb1,?_⟩
 intro w'
 have hh:w'.heap[(r k).blk]?=some (.cells (cs.toList.take ((r k).off+idx*es+sub)++vs.toList++cs.toList.drop ((r k).off+idx*es+sub+vs.toList.length)).toArray T (0,0)):=setRow_heap w _ cs _ T _ h4
 have hoth:∀ b,b≠(r k).blk->w'.heap[b]?=w.heap[b]?:=fun b hne=>setRow_other w _ _ _ hne
 refine H.write (k:=k) (by rw [hb]; rfl) ?_ g1 ?_ ?_ (size_setRow _ _ _) hoth _ (fun st=>?_)
 ·exact ⟨rfl,rfl,rfl,by simp [w'],fun b hlt=>hoth b (by omega)⟩
 ·exact fun o ho=>(g2 o ho).elim
 ·intro o ho
  rw [h4] at ho
  obtain rfl:=Sr ho
  exact ⟨fun l=>by simp,fun l=>by simp⟩
 ·have low:∀ {c:AV} {v:Value},VR r I w (fun x=>pu=false/\D x) c v->VR r I w' (fun x=>(pu&&Yo xs)=false/\D x) c v:=fun hv=>(hv.mono ⟨fun id h=>⟨⟨by simp [h.1],h.2⟩,rfl⟩,st.imm,st.size⟩)
  have new:∀ {q:Nat} {c:AV} {v:Value},xs[q]?=some c->VR r I w' D c v->VR r I w' (fun x=>(pu&&Yo xs)=false/\D x) c v:=fun {q c v} hq hv=>by
   by_cases hp:Yo xs=true
   ·exact (hv.pure (Uh hp hq)).weak fun _ h=>h.elim
   ·exact hv.weak fun _ h=>⟨by simp [Qx.2 hp],h⟩
  refine ⟨⟨h1.1,by simpa using h1.2⟩,by simpa using h2,?_,_,T,(0,0),hh,?_,?_,fun _=>⟨g1,g2,rfl⟩,by simp⟩
  ·intro i e he
   by_cases hx:idx=i
   ·subst hx
    simp [hil] at he
    subst he
    rw [Zl7 _ _ _ hle]; exact hcl
   ·rw [Mt hx] at he; exact h3 i e he
  ·simp; omega
  ·intro i e j c he hj
   have hget:∀ q,(cs.toList.take ((r k).off+idx*es+sub)++vs.toList++cs.toList.drop ((r k).off+idx*es+sub+vs.toList.length)).toArray[q]? =
     if q<(r k).off+idx*es+sub then cs[q]? else if q<(r k).off+idx*es+sub+vs.toList.length then vs[q-((r k).off+idx*es+sub)]? else cs[q]?:=by
    intro q
    have:=Yn cs.toList vs.toList ((r k).off+idx*es+sub) q (by simpa using hb1)
    simp only [Np]
    rw [this]
    simp
   have hvl:vs.toList.length=xs.length:=by simpa using hsz
   by_cases hx:idx=i
   ·subst hx
    simp [hil] at he
    subst he
    rw [Sx.splice,Yn cells xs sub j hle] at hj
    by_cases q1:j<sub
    ·simp only [q1,if_true] at hj
     obtain ⟨v,hv1,hv2⟩:=h6 idx cells j c hi hj
     exact ⟨v,by rw [hget]; rw [if_pos (by omega)]; exact hv1,low hv2⟩
    ·by_cases q2:j<sub+xs.length
     ·simp only [q1,q2,if_true,if_false] at hj
      have hlt:j-sub<vs.size:=by omega
      refine ⟨vs[j-sub],?_,new hj ((hv.2 (j-sub) c _ hj (by simp [hlt])).mono st)⟩
      rw [hget,if_neg (by omega),if_pos (by omega)]
      rw [show (r k).off+idx*es+j-((r k).off+idx*es+sub)=j-sub by omega]
      simp [hlt]
     ·simp only [q1,q2,if_false] at hj
      obtain ⟨v,hv1,hv2⟩:=h6 idx cells j c hi hj
      exact ⟨v,by rw [hget]; rw [if_neg (by omega),if_neg (by omega)]; exact hv1,low hv2⟩
   ·rw [Mt hx] at he
    obtain ⟨v,hv1,hv2⟩:=h6 i e j c he hj
    have hjl:j<es:=by have:=h3 i e he; have:=(Qi.1 hj).1; omega
    refine ⟨v,?_,low hv2⟩
    rw [hget]
    rcases Nat.lt_or_gt_of_ne hx with hlt|hgt
    ·have:(idx+1)*es<=i*es:=Rt _ hlt
     have:(idx+1)*es=idx*es+es:=Ps _ _
     rw [if_neg (by omega),if_neg (by omega)]; exact hv1
    ·have:(i+1)*es<=idx*es:=Rt _ hgt
     have:(i+1)*es=i*es+es:=Ps _ _
     rw [if_pos (by omega)]; exact hv1
theorem VRs.one {xs:List AV} {vs:Array Value} (hv:VRs r I w D xs vs) (h1:xs.all AV.one=true):∀ u∈vs.toList,u.oneCell'=true:=by
 intro u hu
 obtain ⟨i,hi,rfl⟩:=List.getElem_of_mem hu
 have hi' : i<xs.length:=by rw [<-hv.1]; simpa using hi
 have:=hv.2 i xs[i] vs[i] (by simp [hi']) (by simp)
 have h2:=List.all_eq_true.1 h1 xs[i] (List.getElem_mem hi')
 simpa using this.one h2
theorem Zql {T:Tab} (hT:TabOK P T) {t:TypeId} {ti:TI} (ht:T t=some ti) (H:HR B w0 I0 pr r I D h n w) {id idx sub es:Nat} {elems:List (List AV)} {pu:Bool} {cells xs:List AV} {v:AV} {p x:Value}
  (hp:VR r I w D (.ptr id idx sub) p) (hv:VR r I w D v x) (hb:h id = .row es elems true pu) (hi:elems[idx]?=some cells) (hc:cellsOf v=some xs) (hl:xs.length=ti.size) (h1:xs.all AV.one=true)
  (hle:sub+xs.length<=cells.length) :
  ∃ w',(Qbx t p x).run P w = .ok () w'/\HR B w0 I0 pr r I D (hupd h id (.row es (elems.set idx (Sx.splice cells sub xs)) true (pu&&Yo xs))) n w'/\Step r D I w r D I w':=by
 cases hp with
 | ptr _ _ _ _ hd =>
  have hvs:=hv.cells hc
  obtain ⟨cs,T',g1,g2,g3⟩:=H.splice hb hi hle hvs
  have he:(r id).es=es:=by have:=H.blk id; rw [hb] at this; exact this.1.1
  refine ⟨_,?_,g3⟩
  have hsz:x.cells.size=ti.size:=by rw [hvs.1,hl]
  simp only [Qbx,Ms,Sn,Pr,Rq,storeVar,Vp hT ht,he]
  simp only [hsz,ne_eq,not_true,if_false,Pr]
  have:=run_storeCells_at (P:=P) (r id).blk ((r id).off+idx*es+sub) T' x.cells.toList 0 cs w g1 (by simpa using g2) (hvs.one h1)
  simpa using this
variable {r r' : Locs} {D D' : Nat->Prop} {I I' : Imm} {w w' w0:World} {I0:Imm} {B n n' k:Nat} {pr:Nat->Obj->Prop} {h:Nat->ABlk} {P:Program}
def faddr (sub off:Nat):AV->Option AV
 | .ptr id idx s=>some (.ptr id idx (s+off))
 | .ipt cells=>some (.ipt (cells.drop off))
 | _=>none
theorem VR.off {v v' : AV} {x:Value} (hv:VR r I w D v x) {s off:Nat} (hf:faddr s off v=some v'):∃ b o,x = .pointer (some ⟨b,o,none⟩)/\VR r I w D v' (.pointer (some ⟨b,o+off,none⟩)):=by
 cases hv<;>simp only [faddr,reduceCtorEq,Qf] at hf
 case ptr id idx sub hd =>
  subst hf
  refine ⟨_,_,rfl,?_⟩
  have:=VR.ptr (r:=r) (I:=I) (w:=w) D id idx (sub+off) hd
  rwa [<-Nz] at this
 case ipt cells b o val h1 h2 =>
  subst hf
  refine ⟨_,_,rfl,?_⟩
  refine .ipt _ _ _ _ (fun j=>val (off+j)) (fun j c hj=>?_) (fun j c hj=>?_)
  ·rw [Rz] at hj
   rw [Nz]
   exact h1 _ _ hj
  ·rw [Rz] at hj
   exact h2 _ _ hj
theorem Zmv {T:Tab} (hT:TabOK P T) {t f:TypeId} {ti tf:TI} (ht:T t=some ti) {fs:Array Field} (hd:ti.desc = .struct fs) {fd:Field} (hf:fs[f]?=some fd) (htf:T fd.type=some tf) (hz:tf.size≠0)
  (H:HR B w0 I0 pr r I D h n w) {v v' : AV} {x:Value} (hv:VR r I w D v x) (ha:faddr 0 fd.offset v=some v') :
  Gives P B w0 I0 pr r I D h n k (Qby t x f) w v' .none:=by
 obtain ⟨b,o,rfl,hv'⟩:=hv.off ha
 refine Gives.same H (x:=.pointer (some ⟨b,o+fd.offset,none⟩)) ?_ hv'
 have hu:=hT.und t ti ht
 rw [hd] at hu
 simp only [Qby,Sn,run_underlying hu,Rq,hf]
 simp [Ms,fieldPlace,Vp hT htf,hz,Xu]
def Zbz (es:Nat) (h:Nat->ABlk) (v:AV) (i:Int):Option AV :=
 match v with
 | .asl id idx len=>match h id with
  | .row es' _ _ _=>cond (Qs es es') (cond (decide (0<=i/\i<(len:Int))) (some (.ptr id (idx+i.toNat) 0)) none) none
  | _=>none
 | .bsl id idx sub len _=>cond (decide (0<=i/\i<(len:Int))) (some (.ptr id idx (sub+i.toNat * es))) none
 | .isl es' elems=>cond (Qs es es') (cond (decide (0<=i)) (match elems[i.toNat]? with
  | some e=>some (.ipt e)
  | none=>none) none) none
 | _=>none
theorem VR.elem {v v' : AV} {x:Value} (hv:VR r I w D v x) {i:Int} {es:Nat} (H:HR B w0 I0 pr r I D h n w) (hi:Zbz es h v i=some v') :
  ∃ (b o len cap:Nat),x = .slice (some ⟨b,o,none⟩) len cap/\0<=i/\i<(len:Int)/\VR r I w D v' (.pointer (some ⟨b,o+i.toNat * es,none⟩)):=by
 cases hv<;>simp only [Zbz,reduceCtorEq] at hi
 case asl id idx len hc hd =>
  split at hi
  ·rename_i es' elems mt pu hb
   obtain ⟨h1,hi⟩:=Zd hi
   obtain ⟨h2,hi⟩:=Zd hi
   simp only [decide_eq_true_eq] at h2
   simp only [Qf] at hi
   subst hi
   obtain rfl:=Qh h1
   refine ⟨_,_,_,_,rfl,h2.1,h2.2,?_⟩
   have he:(r id).es=es:=by have:=H.blk id; rw [hb] at this; exact this.1.1
   have:=VR.ptr (r:=r) (I:=I) (w:=w) D id (idx+i.toNat) 0 hd
   rw [he,Nat.add_mul,Nt,<-Nz] at this
   rw [he]; exact this
  ·cases hi
 case bsl id idx sub len cap hd =>
  obtain ⟨h2,hi⟩:=Zd hi
  simp only [decide_eq_true_eq] at h2
  simp only [Qf] at hi
  subst hi
  refine ⟨_,_,_,_,rfl,h2.1,h2.2,?_⟩
  have:=VR.ptr (r:=r) (I:=I) (w:=w) D id idx (sub+i.toNat * es) hd
  rwa [<-Nz] at this
 case isl0 =>
  obtain ⟨h1,hi⟩:=Zd hi
  obtain ⟨h2,hi⟩:=Zd hi
  simp at hi
 case isl es' elems b o cap val hl g0 g1 g2 =>
  obtain ⟨h1,hi1⟩:=Zd hi
  obtain ⟨h2,hi2⟩:=Zd hi1
  simp only [decide_eq_true_eq] at h2
  have h1:=Qh h1
  cases he:elems[i.toNat]? with
  | none=>rw [he] at hi2; cases hi2
  | some e =>
   rw [he] at hi2
   simp only [Qf] at hi2
   subst hi2
   subst h1
   have hlt:=(Qi.1 he).1
   refine ⟨_,_,_,_,rfl,h2,by omega,?_⟩
   exact .ipt _ _ _ _ (val i.toNat) (fun j c hj=>g1 _ _ _ _ he hj) (fun j c hj=>g2 _ _ _ _ he hj)
theorem Zok {T:Tab} (hT:TabOK P T) {t e:TypeId} {ti te:TI} (ht:T t=some ti) (hd:ti.desc = .slice e) (hte:T e=some te)
  (H:HR B w0 I0 pr r I D h n w) {v v' : AV} {x:Value} (hv:VR r I w D v x) {ik:IntKind} {i:Int} (ha:Zbz te.size h v i=some v') :
  Gives P B w0 I0 pr r I D h n k (Hv t x (.int ik i)) w v' .none:=by
 obtain ⟨b,o,len,cap,rfl,h1,h2,hv'⟩:=hv.elem H ha
 refine Gives.same H ?_ hv'
 have hu:=hT.und t ti ht
 rw [hd] at hu
 simp [Hv,asIntOf,run_underlying hu,h1,h2,Vp hT hte,Xu]
def Zxc (es len:Nat) (v:AV) (i:Int):Option AV:=cond (decide (0<=i/\i<(len:Int))) (faddr 0 (i.toNat * es) v) none
theorem Zol {T:Tab} (hT:TabOK P T) {t e:TypeId} {ti te:TI} (ht:T t=some ti) {len:Nat} (hd:ti.desc = .array len e) (hte:T e=some te)
  (H:HR B w0 I0 pr r I D h n w) {v v' : AV} {x:Value} (hv:VR r I w D v x) {ik:IntKind} {i:Int} (ha:Zxc te.size len v i=some v') :
  Gives P B w0 I0 pr r I D h n k (Hv t x (.int ik i)) w v' .none:=by
 obtain ⟨h0,ha⟩:=Zd ha
 simp only [decide_eq_true_eq] at h0
 obtain ⟨b,o,rfl,hv'⟩:=hv.off ha
 refine Gives.same H ?_ hv'
 have hu:=hT.und t ti ht
 rw [hd] at hu
 simp [Hv,asIntOf,run_underlying hu,h0.1,h0.2,Ms,Vp hT hte,Xu]
def Zet (te:TI) (cells:List AV) (off:Nat):Option AV:=Zc5 te cells off
theorem Zee {T:Tab} (hT:TabOK P T) {t:TypeId} {ti:TI} (ht:T t=some ti) {cells:List AV} {xs:Array Value} (hx:VRs r I w D cells xs) {off:Nat} {v:AV} (hv:Zet ti cells off=some v) :
  ∃ y,(part t xs off).run P w = .ok y w/\VR r I w D v y:=by
 unfold Zet Zc5 at hv
 obtain ⟨hle,hv⟩:=Zd hv
 have hle:off+ti.size<=cells.length:=Qm hle
 unfold part
 simp only [Sn,Znl hT ht,Rq]
 cases hg:ti.agg with
 | true =>
  rw [hg] at hv
  simp only [cond_true,Qf] at hv
  subst hv
  refine ⟨.agg (xs.extract off (off+ti.size)),by simp [Vp hT ht],.agg _ _ _ (by simp [seg,hx.1]; omega) (fun i c u hi hu=>?_)⟩
  simp only [seg] at hi
  have hi' : i<ti.size:=by
   rcases Wh i ti.size with h|h
   ·exact h
   ·simp [Pb,Nj.2 h] at hi
  simp [hi',Rz] at hi
  rw [Array.getElem?_extract] at hu
  split at hu
  ·exact hx.2 _ _ _ hi hu
  ·cases hu
 | false =>
  rw [hg] at hv
  simp only [cond_false] at hv
  obtain ⟨h1,hv⟩:=Zd hv
  have hlt:off<xs.size:=by rw [hx.1]; exact (Qi.1 hv).1
  refine ⟨xs[off],by simp [hlt],hx.2 _ _ _ hv (by simp [hlt])⟩
theorem Zqo {T:Tab} (hT:TabOK P T) {t f:TypeId} {ti tf:TI} (ht:T t=some ti) {fs:Array Field} (hd:ti.desc = .struct fs) {fd:Field} (hf:fs[f]?=some fd) (htf:T fd.type=some tf)
  (H:HR B w0 I0 pr r I D h n w) {cells:List AV} {v' : AV} {x:Value} (hv:VR r I w D (.agg cells) x) (ha:Zet tf cells fd.offset=some v') :
  Gives P B w0 I0 pr r I D h n k (Instr.field t x f) w v' .none:=by
 cases hv with
 | agg _ _ vs h0 g =>
  obtain ⟨y,hy,hr⟩:=Zee hT htf (xs:=vs) ⟨h0,g⟩ ha
  refine Gives.same H ?_ hr
  have hu:=hT.und t ti ht
  rw [hd] at hu
  simp [Instr.field,run_underlying hu,hf,asAgg,hy]
theorem Zqm {T:Tab} (hT:TabOK P T) {t e:TypeId} {ti te:TI} (ht:T t=some ti) {len:Nat} (hd:ti.desc = .array len e) (hte:T e=some te)
  (H:HR B w0 I0 pr r I D h n w) {cells:List AV} {v' : AV} {x:Value} (hv:VR r I w D (.agg cells) x) {ik:IntKind} {i:Int} (hi:0<=i/\i<(len:Int)) (ha:Zet te cells (i.toNat * te.size)=some v') :
  Gives P B w0 I0 pr r I D h n k (Fk t x (.int ik i)) w v' .none:=by
 cases hv with
 | agg _ _ vs h0 g =>
  obtain ⟨y,hy,hr⟩:=Zee hT hte (xs:=vs) ⟨h0,g⟩ ha
  refine Gives.same H ?_ hr
  have hu:=hT.und t ti ht
  rw [hd] at hu
  simp [Fk,asIntOf,run_underlying hu,hi.1,hi.2,Vp hT hte,hy]
theorem Zkr {T:Tab} (hT:TabOK P T) {t:TypeId} {ti:TI} (ht:T t=some ti) (hd:ti.desc = .string)
  (H:HR B w0 I0 pr r I D h n w) {s:ByteArray} {x:Value} (hv:VR r I w D (.str s) x) {ik:IntKind} {i:Int} (hi:0<=i) {b:UInt8} (hb:s.data.toList[i.toNat]?=some b) :
  Gives P B w0 I0 pr r I D h n k (Fk t x (.int ik i)) w (.int .u8 b.toNat) .none:=by
 cases hv with
 | str =>
  refine Gives.same H (x:=.int .u8 b.toNat) ?_ (.int _ _ _)
  have hu:=hT.und t ti ht
  rw [hd] at hu
  have hlt:i.toNat<s.size:=by have:=(Qi.1 hb).1; simpa using this
  have hg:s[i.toNat]?=some b:=by
   rw [getElem?_pos s i.toNat hlt]
   have h2:=(Qi.1 hb).2
   rw [<-h2]; rfl
  simp [Fk,asIntOf,run_underlying hu,hi,hg]
def Zw0 (op:BinOp) (k:IntKind) (x y:Int):Option AV :=
 match op with
 | .add=>some (.int k (k.wrap (x+y)))
 | .sub=>some (.int k (k.wrap (x-y)))
 | .mul=>some (.int k (k.wrap (x*y)))
 | .quo=>cond (decide (y=0)) none (some (.int k (k.wrap (x.tdiv y))))
 | .rem=>cond (decide (y=0)) none (some (.int k (x.tmod y)))
 | .eql=>some (.bool (decide (x=y)))
 | .neq=>some (.bool (!decide (x=y)))
 | .lss=>some (.bool (decide (x<y)))
 | .leq=>some (.bool (decide (x<=y)))
 | .gtr=>some (.bool (decide (y<x)))
 | .geq=>some (.bool (decide (y<=x)))
 | _=>none
theorem Zvq {op:BinOp} {ki:IntKind} {x y:Int} {v:AV} (hv:Zw0 op ki x y=some v) (t:TypeId) :
  ∃ u,(binOp op t (.int ki x) (.int ki y)).run P w = .ok u w/\VR r I w D v u:=by
 cases op<;>simp only [Zw0,reduceCtorEq,Qf] at hv<;>simp only [binOp,ne_eq,not_true_eq_false,if_false]
 case quo =>
  by_cases hy:y=0
  ·simp [hy] at hv
  ·simp [hy] at hv; subst hv; exact ⟨_,by simp [Op.intDiv,hy],.int _ _ _⟩
 case rem =>
  by_cases hy:y=0
  ·simp [hy] at hv
  ·simp [hy] at hv; subst hv; exact ⟨_,by simp [Op.intDiv,hy],.int _ _ _⟩
 case add=>subst hv; exact ⟨_,by simp [Fl],.int _ _ _⟩
 case sub=>subst hv; exact ⟨_,by simp [Fl],.int _ _ _⟩
 case mul=>subst hv; exact ⟨_,by simp [Fl],.int _ _ _⟩
 case eql=>subst hv; exact ⟨.bool (decide (x=y)),by simp [Ju]; rfl,.bool _ _⟩
 case neq=>subst hv; exact ⟨.bool (!decide (x=y)),by simp [Ju,bne]; rfl,.bool _ _⟩
 case lss=>subst hv; exact ⟨_,by simp [Ju],.bool _ _⟩
 case leq=>subst hv; exact ⟨_,by simp [Ju],.bool _ _⟩
 case gtr=>subst hv; exact ⟨_,by simp [Ju],.bool _ _⟩
 case geq=>subst hv; exact ⟨_,by simp [Ju],.bool _ _⟩
variable {r r' : Locs} {D D' : Nat->Prop} {I I' : Imm} {w w' w0:World} {I0:Imm} {B n n' k:Nat} {pr:Nat->Obj->Prop} {h:Nat->ABlk} {P:Program}
def Zck (eq:TypeId->AV->AV->Option Bool) (T:Tab) (xs ys:List AV):List Field->Option Bool
 | []=>some true
 | f::fs =>
  match T f.type with
  | none=>none
  | some tf=>match Zet tf xs f.offset,Zet tf ys f.offset with
   | some a,some b=>match eq f.type a b with
    | some p=>match Zck eq T xs ys fs with
     | some q=>some (p&&q)
     | none=>none
    | none=>none
   | _,_=>none
def Zd2 (eq:TypeId->AV->AV->Option Bool) (te:TI) (e:TypeId) (xs ys:List AV):List Nat->Option Bool
 | []=>some true
 | i::is=>match Zet te xs (i*te.size),Zet te ys (i*te.size) with
  | some a,some b=>match eq e a b with
   | some p=>match Zd2 eq te e xs ys is with
    | some q=>some (p&&q)
    | none=>none
   | none=>none
  | _,_=>none
def eqAV (T:Tab) (ok:TypeId->Bool):Nat->TypeId->AV->AV->Option Bool
 | 0,_,_,_=>none
 | d+1,t,x,y =>
  match T t with
  | none=>none
  | some ti=>match ti.desc,x,y with
   | .int _,.int k a,.int k' b=>cond (decide (k=k')) (some (decide (a=b))) none
   | .bool,.bool a,.bool b=>some (a==b)
   | .string,.str a,.str b=>some (a==b)
   | .struct fs,.agg xs,.agg ys=>cond (ok t&&fs.toList.all (fun f=>f.name != "_")) (Zck (eqAV T ok d) T xs ys fs.toList) none
   | .array n e,.agg xs,.agg ys=>match T e with
    | some te=>cond (ok t) (Zd2 (eqAV T ok d) te e xs ys (Rv n)) none
    | none=>none
   | .slice _,.asl _ _ _,.nils=>some false
   | .slice _,.nils,.nils=>some true
   | .slice _,.isl _ (_::_),.nils=>some false
   | _,_,_=>none
theorem Zh3 {T:Tab} (hT:TabOK P T) (D0:Nat) (eq:TypeId->AV->AV->Option Bool) {xs ys:List AV} {us vs:Array Value} (hx:VRs r I w D xs us) (hy:VRs r I w D ys vs)
  (heq:∀ t a b p u v,eq t a b=some p->VR r I w D a u->VR r I w D b v->(Jw D0 t u v).run P w = .ok p w) :
  ∀ (fs:List Field) (p:Bool),(fs.all (fun f=>f.name != "_"))=true->Zck eq T xs ys fs=some p->(Qar D0 us vs fs).run P w = .ok p w
 | [],p,_,hp=>by simp [Zck] at hp; subst hp; simp [Qar]
 | f::fs,p,hn,hp=>by
  simp only [List.all_cons,Qc] at hn
  have hn1:f.name ≠ "_" := by simpa using hn.1
  simp only [Zck] at hp
  split at hp
  ·cases hp
  ·rename_i tf htf
   split at hp
   ·rename_i a b ha hb
    split at hp
    ·rename_i p1 hp1
     split at hp
     ·rename_i q hq
      simp only [Qf] at hp
      obtain ⟨u,hu,ru⟩:=Zee hT htf hx ha
      obtain ⟨v,hv,rv⟩:=Zee hT htf hy hb
      have h1:=heq _ _ _ _ _ _ hp1 ru rv
      have ih:=Zh3 hT D0 eq hx hy heq fs q hn.2 hq
      simp only [Qar,hn1,ne_eq,not_false_eq_true,if_true,Sn,hu,hv,h1,Rq]
      cases p1
      ·subst hp; simp
      ·simp only [Hw,Rs,if_false,ih,<-hp,Tv]
     ·cases hp
    ·cases hp
   ·cases hp
theorem Zj6 {T:Tab} (hT:TabOK P T) (D0:Nat) (eq:TypeId->AV->AV->Option Bool) {te:TI} {e:TypeId} (hte:T e=some te) {xs ys:List AV} {us vs:Array Value} (hx:VRs r I w D xs us) (hy:VRs r I w D ys vs)
  (heq:∀ t a b p u v,eq t a b=some p->VR r I w D a u->VR r I w D b v->(Jw D0 t u v).run P w = .ok p w) :
  ∀ (is:List Nat) (p:Bool),Zd2 eq te e xs ys is=some p->(Qbg D0 e te.size us vs is).run P w = .ok p w
 | [],p,hp=>by simp [Zd2] at hp; subst hp; simp [Qbg]
 | i::is,p,hp=>by
  simp only [Zd2] at hp
  split at hp
  ·rename_i a b ha hb
   split at hp
   ·rename_i p1 hp1
    split at hp
    ·rename_i q hq
     simp only [Qf] at hp
     obtain ⟨u,hu,ru⟩:=Zee hT hte hx ha
     obtain ⟨v,hv,rv⟩:=Zee hT hte hy hb
     have h1:=heq _ _ _ _ _ _ hp1 ru rv
     have ih:=Zj6 hT D0 eq hte hx hy heq is q hq
     simp only [Qbg,Sn,hu,hv,h1,Rq]
     cases p1
     ·subst hp; simp
     ·simp only [Hw,Rs,if_false,ih,<-hp,Tv]
    ·cases hp
   ·cases hp
  ·cases hp
theorem Zx5 {T:Tab} (hT:TabOK P T) {ok:TypeId->Bool} (hok:∀ t,ok t=true->P.stoodInHeld t=false):∀ (d:Nat) (D0:Nat) (t:TypeId) (a b:AV) (p:Bool) (u v:Value),d<=D0 ->
  eqAV T ok d t a b=some p->VR r I w D a u->VR r I w D b v->(Jw D0 t u v).run P w = .ok p w
 | 0,_,_,_,_,_,_,_,_,hp,_,_=>by simp [eqAV] at hp
 | d+1,0,_,_,_,_,_,_,hd,_,_,_=>by omega
 | d+1,D0+1,t,a,b,p,u,v,hd,hp,hu,hv=>by
  simp only [eqAV] at hp
  split at hp
  ·cases hp
  ·rename_i ti hti
   have hund:=hT.und t ti hti
   split at hp
   ·rename_i hdesc
    cases hu; cases hv
    obtain ⟨h1,hp2⟩:=Zd hp
    simp only [decide_eq_true_eq] at h1
    subst h1
    simp only [Qf] at hp2
    subst hp2
    rw [hdesc] at hund
    rw [run_equalIn_int w D0 t _ _ _ _ hund]
    congr 1
   ·rename_i hdesc
    cases hu; cases hv
    simp only [Qf] at hp
    subst hp
    rw [hdesc] at hund
    rw [run_equalIn_bool' w D0 t _ _ hund]
   ·rename_i hdesc
    cases hu; cases hv
    simp only [Qf] at hp
    subst hp
    rw [hdesc] at hund
    rw [run_equalIn_string w D0 t _ _ hund,<-beq_toListBytes]
   ·rename_i fs xs ys hdesc
    cases hu with
    | agg _ _ us h0 g0 =>
    cases hv with
    | agg _ _ vs h1 g1 =>
    obtain ⟨hc,hp⟩:=Zd hp
    simp only [Qc] at hc
    rw [hdesc] at hund
    have hf:P.fieldsOf t=fs:=by simp [Program.fieldsOf,hund]
    rw [run_equalIn_struct w D0 t us vs (by rw [hf]; exact hund) (hok t hc.1),hf]
    exact Zh3 hT D0 _ ⟨h0,g0⟩ ⟨h1,g1⟩ (fun t a b p u v hp hu hv=>Zx5 hT hok d D0 t a b p u v (by omega) hp hu hv) _ _ hc.2 hp
   ·rename_i m e xs ys hdesc
    cases hu with
    | agg _ _ us h0 g0 =>
    cases hv with
    | agg _ _ vs h1 g1 =>
    split at hp
    ·rename_i te hte
     obtain ⟨hc,hp⟩:=Zd hp
     obtain ⟨i,hi,e1,_⟩:=hT.info e te hte
     rw [hdesc] at hund
     rw [run_equalIn_array w D0 us vs hund hi]
     have hcell:P.cellsOf e=te.size:=by simp [Program.cellsOf,hi,e1]
     rw [hcell]
     exact Zj6 hT D0 _ hte ⟨h0,g0⟩ ⟨h1,g1⟩ (fun t a b p u v hp hu hv=>Zx5 hT hok d D0 t a b p u v (by omega) hp hu hv) _ _ hp
    ·cases hp
   ·rename_i hdesc
    cases hu; cases hv
    simp only [Qf] at hp
    subst hp
    rw [hdesc] at hund
    simp [Jw,run_underlying hund]
   ·rename_i hdesc
    cases hu; cases hv
    simp only [Qf] at hp
    subst hp
    rw [hdesc] at hund
    simp [Jw,run_underlying hund]
   ·rename_i hdesc
    cases hu; cases hv
    simp only [Qf] at hp
    subst hp
    rw [hdesc] at hund
    simp [Jw,run_underlying hund]
   ·cases hp
structure EqOK (P:Program) (ok:TypeId->Bool):Prop where
 held:∀ t,ok t=true->P.stoodInHeld t=false
 guard:∀ t,ok t=true->P.eqGuardType P.depth t=false
theorem Zso {T:Tab} (hT:TabOK P T) {ok:TypeId->Bool} (hok:EqOK P ok) (H:HR B w0 I0 pr r I D h n w) {neg:Bool} {t:TypeId} {a b:AV} {p:Bool} {u v:Value} {x y:Operand}
  (hp:eqAV T ok 20 t a b=some p) (hu:VR r I w D a u) (hv:VR r I w D b v) :
  Gives P B w0 I0 pr r I D h n k (do eqGuard (if neg then .neq else .eql) t x y u v; binOp (if neg then .neq else .eql) t u v) w (.bool (neg ^^ p)) .none:=by
 refine Gives.same H (x:=.bool (neg ^^ p)) ?_ (.bool _ _)
 have hq:(Op.equal t u v).run P w = .ok p w:=Zx5 hT hok.held 20 10000 t a b p u v (by omega) hp hu hv
 have hp0:=hp
 simp only [eqAV] at hp
 split at hp
 ·cases hp
 ·rename_i ti hti
  have hund:=hT.und t ti hti
  split at hp
  ·rename_i hdesc
   cases hu; cases hv
   obtain ⟨h1,hp2⟩:=Zd hp
   simp only [decide_eq_true_eq] at h1
   subst h1
   simp only [Qf] at hp2
   subst hp2
   cases neg<;>simp [eqGuard,binOp,Ju,bne]
   all_goals (congr 1)
  ·rename_i hdesc
   cases hu; cases hv
   cases neg<;>simp [eqGuard,binOp,hq]
  ·rename_i hdesc
   cases hu; cases hv
   simp only [Qf] at hp
   subst hp
   cases neg<;>simp [eqGuard,binOp,Op.stringOp,beq_toListBytes,bne]
  ·rename_i fs xs ys hdesc
   cases hu with
   | agg _ _ us h0 g0 =>
   cases hv with
   | agg _ _ vs h1 g1 =>
   obtain ⟨hc,hp⟩:=Zd hp
   simp only [Qc] at hc
   have hg:=hok.guard t hc.1
   cases neg<;>simp [eqGuard,binOp,hq,hg]
  ·rename_i m e xs ys hdesc
   cases hu with
   | agg _ _ us h0 g0 =>
   cases hv with
   | agg _ _ vs h1 g1 =>
   split at hp
   ·obtain ⟨hc,hp⟩:=Zd hp
    have hg:=hok.guard t hc
    cases neg<;>simp [eqGuard,binOp,hq,hg]
   ·cases hp
  ·rename_i hdesc
   cases hu; cases hv
   cases neg<;>simp [eqGuard,binOp,hq]
  ·rename_i hdesc
   cases hu; cases hv
   cases neg<;>simp [eqGuard,binOp,hq]
  ·rename_i hdesc
   cases hu; cases hv
   rw [Qz] at hq
   cases neg<;>simp [eqGuard,binOp,hq]
  ·cases hp
variable {r r' : Locs} {D D' : Nat->Prop} {I I' : Imm} {w w' w0:World} {I0:Imm} {B n n' k:Nat} {pr:Nat->Obj->Prop} {h:Nat->ABlk} {P:Program}
theorem Zor (off:Nat):∀ (l:List Value) (k:Nat) (cur:Array Value),off+k+l.length<=cur.size ->
  (l.zipIdx k).foldl (fun (cs:Array Value) (p:Value × Nat)=>cs.setIfInBounds (off+p.2) p.1) cur=(cur.toList.take (off+k)++l++cur.toList.drop (off+k+l.length)).toArray
 | [],k,cur,_=>by simp
 | v::l,k,cur,hle=>by
  simp only [List.zipIdx_cons,List.foldl_cons]
  rw [Zor off l (k+1) _ (by simp at hle ⊢; omega)]
  have e:=list_seg_step cur.toList (off+k) v l (by simp at hle ⊢; omega)
  have e2:off+(k+1)=off+k+1:=rfl
  simp only [Array.toList_setIfInBounds,Qz,e2]
  rw [e]
theorem VRs.splice {cells xs:List AV} {us vs:Array Value} (hc:VRs r I w D cells us) (hx:VRs r I w D xs vs) {off:Nat} (hle:off+xs.length<=cells.length) :
  VRs r I w D (Sx.splice cells off xs) (us.toList.take off++vs.toList++us.toList.drop (off+vs.toList.length)).toArray:=by
 have h1:=hc.1
 have h2:vs.toList.length=xs.length:=by simpa using hx.1
 have h3:vs.size=xs.length:=hx.1
 have h4:us.size=cells.length:=hc.1
 refine ⟨by simp [Sx.splice,h3,h4],fun i c v hi hv=>?_⟩
 rw [Sx.splice,Yn cells xs off i hle] at hi
 rw [Np,Yn us.toList vs.toList off i (by simp [h3,h4]; omega)] at hv
 rw [h2] at hv
 by_cases q1:i<off
 ·simp only [q1,if_true] at hi hv
  exact hc.2 _ _ _ hi (by simpa using hv)
 ·by_cases q2:i<off+xs.length
  ·simp only [q1,q2,if_true,if_false] at hi hv
   exact hx.2 _ _ _ hi (by simpa using hv)
  ·simp only [q1,q2,if_false] at hi hv
   exact hc.2 _ _ _ hi (by simpa using hv)
def Zb0 (place:Nat->Option (Nat × Nat)) (cells:List AV):List (Nat × AV)->Option (List AV)
 | []=>some cells
 | (i,v)::rest =>
  match place i,cellsOf v with
  | some (off,size),some cs=>cond (Qs cs.length size&&Su (off+cs.length) cells.length) (Zb0 place (splice cells off cs) rest) none
  | _,_=>none
inductive PartsR (r:Locs) (I:Imm) (w:World) (D:Nat->Prop):List (Nat × AV)->List (Nat × Value)->Prop
 | nil:PartsR r I w D [] []
 | cons {a:Nat × AV} {b:Nat × Value} {l:List (Nat × AV)} {m:List (Nat × Value)} (h:a.1=b.1/\VR r I w D a.2 b.2) (t:PartsR r I w D l m):PartsR r I w D (a::l) (b::m)
theorem Zih {place:Nat->Option (Nat × Nat)}:∀ (ps:List (Nat × AV)) (qs:List (Nat × Value)) (cells:List AV) (us:Array Value) (out:List AV),
  PartsR r I w D ps qs->VRs r I w D cells us->Zb0 place cells ps=some out->∃ vs,Dj place us qs=some vs/\VRs r I w D out vs
 | [],_,cells,us,out,.nil,hc,ho=>by
  simp only [Zb0,Qf] at ho
  subst ho
  exact ⟨us,rfl,hc⟩
 | (i,v)::ps,(i',x)::qs,cells,us,out,.cons ⟨he,hv⟩ ht,hc,ho=>by
  obtain rfl:i=i':=he
  simp only [Zb0] at ho
  split at ho
  ·rename_i off size cs hp hcs
   obtain ⟨h1,h2⟩:=Zd ho
   simp only [Qc] at h1
   have g1:=Qh h1.1
   have g2:=Qm h1.2
   have hx:=hv.cells hcs
   obtain ⟨vs,e1,e2⟩:=Zih ps qs _ _ out ht (hc.splice hx g2) h2
   refine ⟨vs,?_,e2⟩
   have g3:x.cells.size=size:=by rw [hx.1,g1]
   have g4:off+x.cells.size<=us.size:=by rw [hx.1,hc.1]; exact g2
   simp only [Dj,hp]
   rw [if_neg (by simp; omega)]
   have:=Zor off x.cells.toList 0 us (by simpa using g4)
   simp only [Nt] at this
   rw [<-e1]
   congr 1
   rw [<-this]
   rw [<-Array.foldl_toList]
   simp
  ·cases ho
def Zap (T:Tab):List Field->Option (List (Nat × Nat))
 | []=>some []
 | f::fs=>match T f.type,Zap T fs with
  | some tf,some l=>some ((f.offset,tf.size)::l)
  | _,_=>none
theorem Ztw {T:Tab} (hT:TabOK P T) (fs:Array Field) {l:List (Nat × Nat)} (hl:Zap T fs.toList=some l) :
  (fs.mapM fun f=>(do pure (f.offset,<-sizeOf f.type):Sem (Nat × Nat))).run P w = .ok l.toArray w:=by
 rw [Array.mapM_eq_mapM_toList]
 have:∀ (gs:List Field) (l:List (Nat × Nat)),Zap T gs=some l->(gs.mapM fun f=>(do pure (f.offset,<-sizeOf f.type):Sem (Nat × Nat))).run P w = .ok l w:=by
  intro gs
  induction gs with
  | nil=>intro l h; simp [Zap] at h; subst h; simp
  | cons f gs ih =>
   intro l h
   simp only [Zap] at h
   split at h
   ·rename_i tf l' htf hl'
    simp only [Qf] at h
    subst h
    simp only [List.mapM_cons,Sn,Vp hT htf,Rq,Pr,ih l' hl']
   ·cases h
 have h2:=this _ _ hl
 show ((List.toArray <$> List.mapM _ fs.toList:Sem (Array (Nat × Nat)))).run P w=_
 rw [map_eq_pure_bind,Sn,h2]
 rfl
theorem Zom {T:Tab} (hT:TabOK P T) {t:TypeId} {ti:TI} (ht:T t=some ti) {fs:Array Field} (hd:ti.desc = .struct fs) {l:List (Nat × Nat)} (hl:Zap T fs.toList=some l)
  (H:HR B w0 I0 pr r I D h n w) {ps:List (Nat × AV)} {qs:Array (Nat × Value)} (hp:PartsR r I w D ps qs.toList) {out:List AV}
  (ho:Zb0 (fun i=>l[i]?) ti.zero ps=some out):Gives P B w0 I0 pr r I D h n k (Fo t qs) w (.agg out) .none:=by
 obtain ⟨z,hz,h1,h2,h3⟩:=Zft hT ht
 obtain ⟨vs,e1,e2⟩:=Zih ps qs.toList ti.zero z.cells out hp (h3 r I w D) ho
 refine Gives.same H (x:=.agg vs) ?_ (.agg _ _ _ e2.1 e2.2)
 have hu:=hT.und t ti ht
 rw [hd] at hu
 have e1' : Dj (fun x=>l.toArray[x]?) z.cells qs.toList=some vs:=by simpa using e1
 simp only [Fo,Sn,hz,Rq,run_underlying hu,Ztw hT fs hl,e1']
 simp
theorem Zon {T:Tab} (hT:TabOK P T) {t e:TypeId} {ti te:TI} (ht:T t=some ti) {len:Nat} (hd:ti.desc = .array len e) (hte:T e=some te)
  (H:HR B w0 I0 pr r I D h n w) {ps:List (Nat × AV)} {qs:Array (Nat × Value)} (hp:PartsR r I w D ps qs.toList) {out:List AV}
  (ho:Zb0 (fun i=>some (i*te.size,te.size)) ti.zero ps=some out):Gives P B w0 I0 pr r I D h n k (Fo t qs) w (.agg out) .none:=by
 obtain ⟨z,hz,h1,h2,h3⟩:=Zft hT ht
 obtain ⟨vs,e1,e2⟩:=Zih ps qs.toList ti.zero z.cells out hp (h3 r I w D) ho
 refine Gives.same H (x:=.agg vs) ?_ (.agg _ _ _ e2.1 e2.2)
 have hu:=hT.und t ti ht
 rw [hd] at hu
 simp only [Fo,Sn,hz,Rq,run_underlying hu,Vp hT hte,e1]
 simp
def chunks (es:Nat):Nat->List AV->List (List AV)
 | 0,_=>[]
 | m+1,l=>l.take es::chunks es m (l.drop es)
theorem Ul (es:Nat):∀ m l,(chunks es m l).length=m
 | 0,_=>rfl
 | m+1,l=>by simp [chunks,Ul es m]
theorem Zej (es:Nat):∀ (m:Nat) (l:List AV) (i:Nat) (e:List AV),(chunks es m l)[i]?=some e->e=(l.drop (i*es)).take es
 | 0,_,_,_,h=>by simp [chunks] at h
 | m+1,l,0,e,h=>by simp [chunks] at h; simp [h]
 | m+1,l,i+1,e,h=>by
  simp [chunks] at h
  rw [Zej es m _ i e h,List.drop_drop]
  congr 2
  rw [Ps]; omega
def Zo (m:Nat) (l:List AV):List AV:=(Tg m l).flatten
theorem Zoi {T:Tab} (_hT:TabOK P T) (H:HR B w0 I0 pr r I D h n w) (hk:¬ D k) (hkn:k<n) {e:TypeId} {es m:Nat} {cells:List AV} {xs:Array Value} (hl:cells.length=m*es) (hxs:VRs r I w D cells xs) {s:Sem Value}
  (hs:s.run P w = .ok (.slice (some ⟨w.heap.size,0,none⟩) m m) (w.alloc (.cells xs e))) :
  Gives P B w0 I0 pr r I D h n k s w (.asl k 0 m) (.add (.row es (chunks es m cells) true (Yo cells))):=by
 have hget:∀ (i:Nat) (e:List AV) (j:Nat) (c:AV),(chunks es m cells)[i]?=some e->e[j]?=some c->cells[i*es+j]?=some c/\j<es:=by
  intro i e j c hi hj
  have:=Zej es m cells i e hi
  subst this
  have hj' : j<es:=by
   rcases Wh j es with h|h
   ·exact h
   ·simp [Pb,Nj.2 h] at hj
  simp [hj',Rz] at hj
  exact ⟨hj,hj'⟩
 obtain ⟨H',S'⟩:=H.alloc (n':=n) hk hkn (Qd _) (.cells xs e) ⟨w.heap.size,0,m,es,m⟩ rfl (.row es (chunks es m cells) true (Yo cells)) (fun r' D' st hr=>by
  refine ⟨by rw [hr]; exact ⟨rfl,by simp [Ul]⟩,by rw [hr]; simp [Ul],?_,xs,e,(0,0),by rw [hr]; exact Yu _ _,by rw [hr]; simp [hxs.1,hl],?_,fun _=>⟨by rw [hr]; exact H.base,?_,rfl⟩,by simp⟩
  ·intro i e' hi
   have hlt:i<m:=by have:=(Qi.1 hi).1; rwa [Ul] at this
   rw [Zej es m cells i e' hi]
   have:(i+1)*es<=m*es:=Rt _ hlt
   have:(i+1)*es=i*es+es:=Ps _ _
   simp; omega
  ·intro i e' j c hi hj
   obtain ⟨h1,h2⟩:=hget i e' j c hi hj
   have hlt:i*es+j<xs.size:=by rw [hxs.1]; exact (Qi.1 h1).1
   refine ⟨xs[i*es+j],(by rw [hr]; simp [hlt]:xs[(r' k).off+i*es+j]?=some xs[i*es+j]),?_⟩
   have hv:=(hxs.2 _ c _ h1 (by simp [hlt]:xs[i*es+j]?=some xs[i*es+j])).mono st
   by_cases hp:Yo cells=true
   ·exact (hv.pure (Uh hp h1)).weak fun _ h=>h.elim
   ·exact hv.weak fun _ h=>⟨Qx.2 hp,h⟩
  ·intro o hi
   rw [hr] at hi
   have:=H.imm _ _ hi
   simp at this)
 have hD:(fun i=>D i\/((Eff.add (.row es (chunks es m cells) true (Yo cells))).adds=true/\i=k))=(fun i=>D i\/i=k):=funext fun i=>by simp [Eff.adds]
 unfold Gives
 rw [hD]
 refine ⟨_,_,_,hs,H',S',?_⟩
 have:=VR.asl (r:=rupd r k ⟨w.heap.size,0,m,es,m⟩) (I:=I) (w:=w.alloc (.cells xs e)) (fun i=>D i\/i=k) k 0 m (.inr rfl) (by simp [rupd])
 simpa [rupd] using this
theorem Zdm (z:Array Value) (m:Nat):((Hh (m*z.size)).map (z[· % z.size]!)).toList=(Tg m z.toList).flatten:=by
 induction m with
 | zero=>simp
 | succ m ih =>
  apply List.ext_getElem?
  intro i
  have hl:∀ q,((Tg q z.toList).flatten).length=q*z.size:=by intro q; simp
  rw [List.replicate_succ',List.flatten_append]
  by_cases hi:i<m*z.size
  ·have h1:=congrArg (fun (x:List Value)=>x[i]?) ih
   rw [Sl (by rw [hl]; exact hi),<-h1]
   have:(m+1)*z.size=m*z.size+z.size:=Ps _ _
   simp [hi,show i<(m+1)*z.size by omega]
  ·rw [Sf (by rw [hl]; omega),hl]
   have:(m+1)*z.size=m*z.size+z.size:=Ps _ _
   by_cases h2:i<(m+1)*z.size
   ·have h3:i%z.size=i-m*z.size:=by
     have:i=(i-m*z.size)+z.size*m:=by rw [Pu z.size m]; omega
     rw [this,Nat.add_mul_mod_self_left,Nat.mod_eq_of_lt (by omega)]
     rw [Pu z.size m]; omega
    have h4:i-m*z.size<z.size:=by omega
    simp [h2,h3,h4]
   ·simp [h2]; omega
theorem VRs.repl {cells:List AV} {us:Array Value} (hc:VRs r I w D cells us) (m:Nat):VRs r I w D (Zo m cells) ((Tg m us.toList).flatten).toArray:=by
 unfold Zo
 have h1:=hc.1
 induction m with
 | zero=>exact ⟨by simp,fun i c v hi=>by simp at hi⟩
 | succ m ih =>
  refine ⟨by simp [h1],fun i c v hi hv=>?_⟩
  simp only [List.replicate_succ,List.flatten_cons] at hi hv
  rw [Np] at hv
  by_cases hq:i<cells.length
  ·rw [Sl hq] at hi
   rw [Sl (by simpa [h1] using hq)] at hv
   exact hc.2 i c v hi (by simpa using hv)
  ·rw [Sf (by omega)] at hi
   rw [Sf (by simp [h1]; omega)] at hv
   refine ih.2 (i-cells.length) c v hi ?_
   simpa [h1] using hv
theorem Zia {T:Tab} (hT:TabOK P T) {t e:TypeId} {ti te:TI} (ht:T t=some ti) (hd:ti.desc = .slice e) (hte:T e=some te) {len:Nat} (hz0:te.zero.length=te.size) (hsz:te.size≠0) (hlim:len*te.size<=1000)
  (H:HR B w0 I0 pr r I D h n w) (hk:¬ D k) (hkn:k<n) {ps:List (Nat × AV)} {qs:Array (Nat × Value)} (hp:PartsR r I w D ps qs.toList) {out:List AV}
  (ho:Zb0 (fun i=>some (i*te.size,te.size)) (Zo len te.zero) ps=some out) (hlo:out.length=len*te.size) :
  Gives P B w0 I0 pr r I D h n k (Qai t len qs) w (.asl k 0 len) (.add (.row te.size (chunks te.size len out) true (Yo out))):=by
 obtain ⟨z,hz,h1,h2,h3⟩:=Zft hT hte
 have hrep:=(h3 r I w D).repl len
 obtain ⟨vs,e1,e2⟩:=Zih ps qs.toList _ _ out hp hrep ho
 refine Zoi hT H hk hkn (e:=e) hlo e2 ?_
 have hu:=hT.und t ti ht
 rw [hd] at hu
 have hlim' : ¬ (len*te.size>2 ^ 24):=by omega
 simp only [Qai,Sn,run_underlying hu,Rq,Vp hT hte]
 rw [if_neg hlim']
 by_cases hl0:len=0
 ·subst hl0
  have:((Tg 0 z.cells.toList).flatten).toArray=(#[]:Array Value):=by simp
  rw [this] at e1
  simp only [Nat.zero_mul,if_true,Pr,Rq,Sn]
  have e0:(Array.map (fun x=>(#[]:Array Value)[x%(#[]:Array Value).size]!) (Hh 0)) = #[]:=by simp
  rw [e0,e1]
  simp [newRow]
 ·have hne:len*te.size≠0:=Nat.mul_ne_zero hl0 hsz
  have hcell:=Zdm z.cells len
  rw [h1] at hcell
  have e1' : Dj (fun i=>some (i*te.size,te.size)) (Array.map (fun x=>z.cells[x%z.cells.size]!) (Hh (len*te.size))) qs.toList=some vs:=by
   rw [<-e1]
   congr 1
   rw [<-hcell,h1]
  rw [if_neg hne]
  simp only [Sn,hz,Rq,Pr,e1']
  simp [newRow]
variable {r r' : Locs} {D D' : Nat->Prop} {I I' : Imm} {w w' w0:World} {I0:Imm} {B n n' k:Nat} {pr:Nat->Obj->Prop} {h:Nat->ABlk} {P:Program}
def unAV:UnOp->AV->Option AV
 | .neg,.int k n=>some (.int k (k.wrap (0-n)))
 | .not,.bool b=>some (.bool (!b))
 | _,_=>none
theorem Yfe {op:UnOp} {a v:AV} {u:Value} (ha:VR r I w D a u) (hv:unAV op a=some v):∃ x,(Qcu op u).run P w = .ok x w/\VR r I w D v x:=by
 cases op<;>cases ha<;>simp only [unAV,reduceCtorEq,Qf] at hv
 ·subst hv; exact ⟨_,by simp [Qcu,Fl],.int _ _ _⟩
 ·subst hv; exact ⟨_,by simp [Qcu],.bool _ _⟩
def Zyk (T:Tab) (src dst:TypeId) (a:AV):Option AV :=
 match T src,T dst with
 | some _,some td=>match td.desc,a with
  | .int k,.int _ n=>some (.int k (k.wrap n))
  | .string,.str s=>some (.str s)
  | _,_=>none
 | _,_=>none
theorem Yao {T:Tab} (hT:TabOK P T) {src dst:TypeId} {a v:AV} {u:Value} (ha:VR r I w D a u) (hv:Zyk T src dst a=some v):∃ x,(convert src dst u).run P w = .ok x w/\VR r I w D v x:=by
 unfold Zyk at hv
 split at hv
 ·rename_i ts td hs hd
  have h1:=hT.und src ts hs
  have h2:=hT.und dst td hd
  split at hv
  ·rename_i kk _ nn hdd
   cases ha
   simp only [Qf] at hv
   subst hv
   rw [hdd] at h2
   refine ⟨.int kk (kk.wrap nn),?_,.int _ _ _⟩
   simp [convert,run_underlying h1,run_underlying h2,Conv.intToInt]
  ·rename_i ss hdd
   cases ha
   simp only [Qf] at hv
   subst hv
   rw [hdd] at h2
   refine ⟨.string ss,?_,.str _ _⟩
   simp [convert,run_underlying h1,run_underlying h2]
  ·cases hv
 ·cases hv
def Yed:AV->Option AV
 | .str s=>some (.int .i64 s.size)
 | .asl _ _ len=>some (.int .i64 len)
 | .bsl _ _ _ len _=>some (.int .i64 len)
 | .isl _ elems=>some (.int .i64 elems.length)
 | .nils=>some (.int .i64 0)
 | _=>none
def Zwy:TypeDesc->AV->Bool
 | .string,.str _=>true
 | .slice _,.asl _ _ _=>true
 | .slice _,.bsl _ _ _ _ _=>true
 | .slice _,.isl _ _=>true
 | .slice _,.nils=>true
 | _,_=>false
theorem Yec {T:Tab} (hT:TabOK P T) {t ty:TypeId} {ti:TI} (ht:T t=some ti) {a v:AV} {u:Value} (ha:VR r I w D a u) (hd:Zwy ti.desc a=true) (hv:Yed a=some v) :
  ∃ x,(Builtin.len_ #[t] ty #[u]).run P w = .ok x w/\VR r I w D v x:=by
 have hu:=hT.und t ti ht
 cases ha<;>simp only [Yed,reduceCtorEq,Qf] at hv<;>subst hv<;>(cases hdd:ti.desc<;>simp only [hdd,Zwy,reduceCtorEq] at hd)<;>rw [hdd] at hu <;>
  exact ⟨_,by simp [Builtin.len_,run_underlying hu,goInt],.int _ _ _⟩
def imax (x y:Int):Int:=cond (decide (x<y)) y x
def imin (x y:Int):Int:=cond (decide (y<x)) y x
def Zjq:IntKind->Int->List AV->Option AV
 | k,x,[]=>some (.int k x)
 | k,x,.int _ y::rest=>Zjq k (imax x y) rest
 | _,_,_=>none
def Zjo:IntKind->Int->List AV->Option AV
 | k,x,[]=>some (.int k x)
 | k,x,.int _ y::rest=>Zjo k (imin x y) rest
 | _,_,_=>none
def Zz6:List AV->Option AV
 | .int k x::rest=>Zjq k x rest
 | _=>none
def Zz5:List AV->Option AV
 | .int k x::rest=>Zjo k x rest
 | _=>none
theorem Zjp:∀ (cs:List AV) (vs:List Value) (kk:IntKind) (x:Int) (v:AV),(∀ (i:Nat) (c:AV) (u:Value),cs[i]?=some c->vs[i]?=some u->VR r I w D c u)->vs.length=cs.length->Zjq kk x cs=some v ->
  ∃ y,(vs.foldlM Builtin.max2 (.int kk x)).run P w = .ok y w/\VR r I w D v y
 | [],[],kk,x,v,_,_,hv=>by simp [Zjq] at hv; subst hv; exact ⟨_,rfl,.int _ _ _⟩
 | c::cs,u::vs,kk,x,v,hc,hl,hv=>by
  have h0:=hc 0 c u rfl rfl
  cases h0<;>simp only [Zjq,reduceCtorEq] at hv
  rename_i k2 y
  obtain ⟨z,h1,h2⟩:=Zjp cs vs kk _ v (fun i c u hi hu=>hc (i+1) c u hi hu) (by simpa using hl) hv
  refine ⟨z,?_,h2⟩
  rw [<-h1]
  simp only [Qaj,Builtin.max2,pure_bind]
  by_cases hxy:x<y<;>simp [imax,hxy]
 | [],_::_,_,_,_,_,hl,_=>by simp at hl
 | _::_,[],_,_,_,_,hl,_=>by simp at hl
theorem Zjn:∀ (cs:List AV) (vs:List Value) (kk:IntKind) (x:Int) (v:AV),(∀ (i:Nat) (c:AV) (u:Value),cs[i]?=some c->vs[i]?=some u->VR r I w D c u)->vs.length=cs.length->Zjo kk x cs=some v ->
  ∃ y,(vs.foldlM Builtin.min2 (.int kk x)).run P w = .ok y w/\VR r I w D v y
 | [],[],kk,x,v,_,_,hv=>by simp [Zjo] at hv; subst hv; exact ⟨_,rfl,.int _ _ _⟩
 | c::cs,u::vs,kk,x,v,hc,hl,hv=>by
  have h0:=hc 0 c u rfl rfl
  cases h0<;>simp only [Zjo,reduceCtorEq] at hv
  rename_i k2 y
  obtain ⟨z,h1,h2⟩:=Zjn cs vs kk _ v (fun i c u hi hu=>hc (i+1) c u hi hu) (by simpa using hl) hv
  refine ⟨z,?_,h2⟩
  rw [<-h1]
  simp only [Qaj,Builtin.min2,pure_bind]
  by_cases hxy:y<x<;>simp [imin,hxy]
 | [],_::_,_,_,_,_,hl,_=>by simp at hl
 | _::_,[],_,_,_,_,hl,_=>by simp at hl
theorem Yd4 {cs:List AV} {vs:Array Value} (hc:VRs r I w D cs vs) {v:AV} (hv:Zz6 cs=some v) (ts:Array TypeId) (t:TypeId):∃ y,(Builtin.max_ ts t vs).run P w = .ok y w/\VR r I w D v y:=by
 obtain ⟨vs⟩:=vs
 cases cs with
 | nil=>simp [Zz6] at hv
 | cons c cs =>
  cases vs with
  | nil=>simp [VRs] at hc
  | cons u vs =>
   have h0:=hc.2 0 c u rfl rfl
   cases h0<;>simp only [Zz6,reduceCtorEq] at hv
   simp only [Builtin.max_]
   exact Zjp cs vs _ _ v (fun i c u hi hu=>hc.2 (i+1) c u hi (by simpa using hu)) (by simpa using hc.1) hv
theorem Yd1 {cs:List AV} {vs:Array Value} (hc:VRs r I w D cs vs) {v:AV} (hv:Zz5 cs=some v) (ts:Array TypeId) (t:TypeId):∃ y,(Builtin.min_ ts t vs).run P w = .ok y w/\VR r I w D v y:=by
 obtain ⟨vs⟩:=vs
 cases cs with
 | nil=>simp [Zz5] at hv
 | cons c cs =>
  cases vs with
  | nil=>simp [VRs] at hc
  | cons u vs =>
   have h0:=hc.2 0 c u rfl rfl
   cases h0<;>simp only [Zz5,reduceCtorEq] at hv
   simp only [Builtin.min_]
   exact Zjn cs vs _ _ v (fun i c u hi hu=>hc.2 (i+1) c u hi (by simpa using hu)) (by simpa using hc.1) hv
def Zj2 (a:AV) (i:Nat):Option AV :=
 match a with
 | .tup vs=>vs[i]?
 | _=>none
theorem Zqt {a v:AV} {u:Value} {i:Nat} (ha:VR r I w D a u) (hv:Zj2 a i=some v):∃ y,(Qbz u i).run P w = .ok y w/\VR r I w D v y:=by
 cases ha<;>simp only [Zj2,reduceCtorEq] at hv
 rename_i cs vs h0 g
 have hlt:i<vs.size:=by rw [h0]; exact (Qi.1 hv).1
 exact ⟨vs[i],by simp [Qbz,hlt],g _ _ _ hv (by simp [hlt])⟩
def ret (v:Option AV):Option (AV × Eff) :=
 match v with
 | some v=>some (v,.none)
 | none=>none
def Zgi (T:Tab) (t:TypeId) (f:Nat):Option (Nat × TI) :=
 match T t with
 | some ti=>match ti.desc with
  | .struct fs=>match fs[f]? with
   | some fd=>match T fd.type with
    | some tf=>some (fd.offset,tf)
    | none=>none
   | none=>none
  | _=>none
 | none=>none
def Zei (T:Tab) (t:TypeId):Option TI :=
 match T t with
 | some ti=>match ti.desc with
  | .slice e=>T e
  | .array _ e=>T e
  | _=>none
 | none=>none
def Ur (ev:Operand->AV) (ps:Array (Nat × Operand)):List (Nat × AV):=ps.toList.map fun p=>(p.1,ev p.2)
def Xg (ev:Operand->AV):List Operand->List AV
 | []=>[]
 | x::xs=>ev x::Xg ev xs
def Zy1 (T:Tab) (ok:TypeId->Bool) (op:BinOp) (t:TypeId) (a b:AV):Option AV :=
 match a,b with
 | .int k x,.int k' y=>cond (decide (k=k')) (Zw0 op k x y) none
 | a,b=>match op with
  | .eql=>match eqAV T ok 20 t a b with
   | some p=>some (.bool (false ^^ p))
   | none=>none
  | .neq=>match eqAV T ok 20 t a b with
   | some p=>some (.bool (true ^^ p))
   | none=>none
  | _=>none
def aopA (T:Tab) (ok:TypeId->Bool) (k:Nat) (ev:Operand->AV) (h:Nat->ABlk):Op->Option (AV × Eff)
 | .move x=>some (ev x,.none)
 | .assign x=>some (ev x,.none)
 | .pick c a b=>match ev c with
  | .bool p=>match ev a,ev b with
   | .bool x,.bool y=>some (.bool (cond p x y),.none)
   | x,y=>cond p (some (x,.none)) (some (y,.none))
  | _=>none
 | .alloc t=>match T t with
  | some ti=>some (.ptr k 0 0,.add (.row ti.zero.length [ti.zero] true false))
  | none=>none
 | .box _ x=>match cellsOf (ev x) with
  | some cs=>some (.ptr k 0 0,.add (.row cs.length [cs] true false))
  | none=>none
 | .build t ps=>match T t with
  | some ti=>match ti.desc with
   | .struct fs=>match Zap T fs.toList with
    | some l=>match Zb0 (fun i=>l[i]?) ti.zero (Ur ev ps) with
     | some out=>some (.agg out,.none)
     | none=>none
    | none=>none
   | .array _ e=>match T e with
    | some te=>match Zb0 (fun i=>some (i*te.size,te.size)) ti.zero (Ur ev ps) with
     | some out=>some (.agg out,.none)
     | none=>none
    | none=>none
   | _=>none
  | none=>none
 | .buildSlice t len ps=>match T t with
  | some ti=>match ti.desc with
   | .slice e=>match T e with
    | some te=>cond (Qs te.zero.length te.size&&Nat.blt 0 te.size&&Su (len*te.size) 1000)
     (match Zb0 (fun i=>some (i*te.size,te.size)) (Zo len te.zero) (Ur ev ps) with
     | some out=>cond (Qs out.length (len*te.size)) (some (.asl k 0 len,.add (.row te.size (chunks te.size len out) true (Yo out)))) none
     | none=>none) none
    | none=>none
   | _=>none
  | none=>none
 | .load t a=>match T t with
  | some ti=>match ev a with
   | .ptr id idx sub=>match h id with
    | .row _ elems _ _=>match elems[idx]? with
     | some cells=>ret (Zc5 ti cells sub)
     | none=>none
    | _=>none
   | .ipt cells=>ret (Zc5 ti cells 0)
   | _=>none
  | none=>none
 | .store t a x=>match T t with
  | some ti=>match ev a,cellsOf (ev x) with
   | .ptr id idx sub,some xs=>match h id with
    | .row es elems mt pu=>cond (mt&&xs.all AV.one&&Qs xs.length ti.size) (match elems[idx]? with
     | some cells=>cond (Su (sub+xs.length) cells.length) (some (.tup [],.put id (.row es (elems.set idx (splice cells sub xs)) true (pu&&Yo xs)))) none
     | none=>none) none
    | _=>none
   | _,_=>none
  | none=>none
 | .fieldAddr t x f=>match Zgi T t f with
  | some (off,tf)=>cond (Nat.blt 0 tf.size) (ret (faddr 0 off (ev x))) none
  | none=>none
 | .field t x f=>match Zgi T t f,ev x with
  | some (off,tf),.agg cells=>ret (Zet tf cells off)
  | _,_=>none
 | .indexAddr t x i=>match T t,Zei T t,ev i with
  | some ti,some te,.int _ i=>match ti.desc with
   | .slice _=>ret (Zbz te.size h (ev x) i)
   | .array len _=>ret (Zxc te.size len (ev x) i)
   | _=>none
  | _,_,_=>none
 | .index t x i=>match T t,ev x,ev i with
  | some ti,.agg cells,.int _ i=>match ti.desc,Zei T t with
   | .array len _,some te=>cond (decide (0<=i/\i<(len:Int))) (ret (Zet te cells (i.toNat * te.size))) none
   | _,_=>none
  | some ti,.str s,.int _ i=>match ti.desc with
   | .string=>cond (decide (0<=i)) (match s.data.toList[i.toNat]? with
    | some b=>some (.int .u8 b.toNat,.none)
    | none=>none) none
   | _=>none
  | _,_,_=>none
 | .binOp op t x y _=>ret (Zy1 T ok op t (ev x) (ev y))
 | .unOp op _ x=>ret (unAV op (ev x))
 | .convert s d x=>ret (Zyk T s d (ev x))
 | .makeFunc (.func f) a b=>some (.func f (Xg ev a.toList) (Xg ev b.toList),.none)
 | .extract t i=>ret (Zj2 (ev t) i)
 | .nilCheck x=>match ev x with
  | .ptr id idx sub=>some (.ptr id idx sub,.none)
  | .ipt cells=>some (.ipt cells,.none)
  | _=>none
 | .call c=>match c.callee with
  | .builtin .len=>match c.argTypes.toList,c.args.toList with
   | [t],[x]=>match T t with
    | some ti=>cond (Zwy ti.desc (ev x)) (ret (Yed (ev x))) none
    | none=>none
   | _,_=>none
  | .builtin .max=>ret (Zz6 (Xg ev c.args.toList))
  | .builtin .min=>ret (Zz5 (Xg ev c.args.toList))
  | _=>none
 | _=>none
variable {r r' : Locs} {D D' : Nat->Prop} {I I' : Imm} {w w' w0:World} {I0:Imm} {B n n' k:Nat} {pr:Nat->Obj->Prop} {h:Nat->ABlk} {P:Program}
def OpGives (P:Program) (B:Nat) (w0:World) (I0:Imm) (pr:Nat->Obj->Prop) (r:Locs) (I:Imm) (D:Nat->Prop) (h:Nat->ABlk) (n k:Nat) (s:Sem Next) (w:World) (v:AV) (e:Eff):Prop :=
 ∃ x w' r',(s.run P w = .ok (.value x) w'\/(s.run P w = .ok .skip w'/\x=undef))/\HR B w0 I0 pr r' I (fun i=>D i\/(e.adds=true/\i=k)) (e.go k h) n w' /\
  Step r D I w r' (fun i=>D i\/(e.adds=true/\i=k)) I w'/\VR r' I w' (fun i=>D i\/(e.adds=true/\i=k)) v x
theorem Gives.op {s:Sem Value} {v:AV} {e:Eff} (g:Gives P B w0 I0 pr r I D h n k s w v e):OpGives P B w0 I0 pr r I D h n k (do pure (.value (<-s))) w v e:=by
 obtain ⟨x,w',r',h1,h2,h3,h4⟩:=g
 refine ⟨x,w',r',.inl ?_,h2,h3,h4⟩
 simp [h1]
theorem Gives.of_sim {s:Sem Value} {v:AV} (H:HR B w0 I0 pr r I D h n w) (hs:∃ x,s.run P w = .ok x w/\VR r I w D v x):Gives P B w0 I0 pr r I D h n k s w v .none:=by
 obtain ⟨x,h1,h2⟩:=hs
 exact Gives.same H h1 h2
theorem Xp {ev:Operand->AV} {ρ:Operand->Value} (hev:∀ x,VR r I w D (ev x) (ρ x)) (l:Array Operand):VRs r I w D (Xg ev l.toList) (l.map ρ):=by
 have:∀ m:List Operand,(Xg ev m).length=m.length/\∀ i:Nat,(Xg ev m)[i]?=(m[i]?).map ev:=by
  intro m
  induction m with
  | nil=>exact ⟨rfl,fun i=>rfl⟩
  | cons a m ih=>exact ⟨by simp [Xg,ih.1],fun i=>by cases i<;>simp [Xg,ih.2]⟩
 refine ⟨by simp [(this _).1],fun i c v hi hv=>?_⟩
 rw [(this _).2] at hi
 simp only [Array.getElem?_map] at hv
 have e:l.toList[i]?=l[i]?:=by simp
 rw [e] at hi
 cases hx:l[i]? with
 | none=>simp [hx] at hi
 | some x =>
  simp [hx] at hi hv
  subst hi; subst hv
  exact hev x
theorem Zj5 {ev:Operand->AV} {ρ:Operand->Value} (hev:∀ x,VR r I w D (ev x) (ρ x)) (ps:Array (Nat × Operand)):PartsR r I w D (Ur ev ps) (ps.map fun (i,x)=>(i,ρ x)).toList:=by
 simp only [Ur,Array.toList_map]
 induction ps.toList with
 | nil=>exact .nil
 | cons a m ih=>exact .cons ⟨rfl,hev a.2⟩ ih
theorem Ze1 {T:Tab} {t f:TypeId} {off:Nat} {tf:TI} (hf:Zgi T t f=some (off,tf)) :
  ∃ ti fs fd,T t=some ti/\ti.desc = .struct fs/\fs[f]?=some fd/\T fd.type=some tf/\fd.offset=off:=by
 unfold Zgi at hf
 split at hf
 ·rename_i ti hti
  split at hf
  ·rename_i fs hfs
   split at hf
   ·rename_i fd hfd
    split at hf
    ·rename_i tf' htf
     simp only [Qf,Rk] at hf
     exact ⟨ti,fs,fd,hti,hfs,hfd,by rw [htf,hf.2],hf.1⟩
    ·cases hf
   ·cases hf
  ·cases hf
 ·cases hf
theorem Yw {v:Option AV} {p:AV × Eff} (h:ret v=some p):v=some p.1/\p.2 = .none:=by
 cases v with
 | none=>simp [ret] at h
 | some v=>simp only [ret,Qf] at h; subst h; exact ⟨rfl,rfl⟩
theorem Zy0 {T:Tab} (hT:TabOK P T) {ok:TypeId->Bool} (hok:EqOK P ok) (H:HR B w0 I0 pr r I D h n w) {op:BinOp} {t:TypeId} {a b v:AV} {u u' : Value} {x y:Operand} (ha:VR r I w D a u) (hb:VR r I w D b u')
  (hv:Zy1 T ok op t a b=some v):Gives P B w0 I0 pr r I D h n k (do eqGuard op t x y u u'; binOp op t u u') w v .none:=by
 unfold Zy1 at hv
 split at hv
 ·rename_i k1 x1 k2 x2
  obtain ⟨h1,h2⟩:=Zd hv
  simp only [decide_eq_true_eq] at h1
  subst h1
  cases ha; cases hb
  obtain ⟨z,h3,h4⟩:=Zvq (r:=r) (I:=I) (w:=w) (D:=D) (P:=P) h2 t
  refine Gives.same H (x:=z) ?_ h4
  simp only [Sn]
  have:(eqGuard op t x y (.int k1 x1) (.int k1 x2)).run P w = .ok () w:=by
   unfold eqGuard
   cases op<;>simp
  rw [this]
  exact h3
 ·split at hv
  ·split at hv
   ·rename_i p hp
    simp only [Qf] at hv
    subst hv
    exact Zso hT hok H (neg:=false) hp ha hb
   ·cases hv
  ·split at hv
   ·rename_i p hp
    simp only [Qf] at hv
    subst hv
    exact Zso hT hok H (neg:=true) hp ha hb
   ·cases hv
  ·cases hv
theorem Zls {T:Tab} (hT:TabOK P T) {ok:TypeId->Bool} (hok:EqOK P ok) (H:HR B w0 I0 pr r I D h n w) (hk:¬ D k) (hkn:k<n) (o:Oper) {ρ:Operand->Value} {ev:Operand->AV}
  (hev:∀ x,VR r I w D (ev x) (ρ x)) {v:AV} {e:Eff} (ha:aopA T ok k ev h o.op=some (v,e)):OpGives P B w0 I0 pr r I D h n k (execOp ρ o) w v e:=by
 obtain ⟨dst,op,type,pos,after,guard⟩:=o
 dsimp only at ha
 unfold aopA at ha
 unfold execOp
 split at ha<;>dsimp only
 ·
  rename_i x
  simp only [Qf,Rk] at ha
  obtain ⟨rfl,rfl⟩:=ha
  exact Gives.op (s:=pure (ρ x)) (Gives.same H rfl (hev x))
 ·rename_i x
  simp only [Qf,Rk] at ha
  obtain ⟨rfl,rfl⟩:=ha
  exact Gives.op (s:=pure (ρ x)) (Gives.same H rfl (hev x))
 ·
  rename_i c a b
  have hc:=hev c
  split at ha
  ·rename_i p hp
   rw [hp] at hc
   have hcv:ρ c = .bool p:=by generalize ρ c=z at hc; cases hc; rfl
   have key:∃ x,(do pure (if <-asBool (ρ c) then ρ a else ρ b):Sem Value).run P w = .ok x w/\VR r I w D v x/\e = .none:=by
    refine ⟨if p then ρ a else ρ b,by simp [hcv,asBool],?_⟩
    split at ha
    ·rename_i x y hx hy
     simp only [Qf,Rk] at ha
     obtain ⟨rfl,rfl⟩:=ha
     have h1:=hev a
     have h2:=hev b
     rw [hx] at h1; rw [hy] at h2
     cases p
     ·exact ⟨h2,rfl⟩
     ·exact ⟨h1,rfl⟩
    ·cases p
     ·simp only [cond_false,Qf,Rk] at ha
      obtain ⟨rfl,rfl⟩:=ha
      exact ⟨hev b,rfl⟩
     ·simp only [cond_true,Qf,Rk] at ha
      obtain ⟨rfl,rfl⟩:=ha
      exact ⟨hev a,rfl⟩
   obtain ⟨x,h1,h2,rfl⟩:=key
   have:=Gives.op (Gives.same (k:=k) H h1 h2)
   simpa using this
  ·cases ha
 ·
  rename_i t
  split at ha
  ·rename_i ti hti
   simp only [Qf,Rk] at ha
   obtain ⟨rfl,rfl⟩:=ha
   exact (Zqq hT hti H hk hkn).op
  ·cases ha
 ·
  rename_i t x
  split at ha
  ·rename_i cs hcs
   simp only [Qf,Rk] at ha
   obtain ⟨rfl,rfl⟩:=ha
   exact (Zxm hT H hk hkn (hev x) hcs).op
  ·cases ha
 ·
  rename_i t ps
  split at ha
  ·rename_i ti hti
   split at ha
   ·rename_i fs hfs
    split at ha
    ·rename_i l hl
     split at ha
     ·rename_i out hout
      simp only [Qf,Rk] at ha
      obtain ⟨rfl,rfl⟩:=ha
      exact (Zom hT hti hfs hl H (Zj5 hev ps) hout).op
     ·cases ha
    ·cases ha
   ·rename_i len e' hfs
    split at ha
    ·rename_i te hte
     split at ha
     ·rename_i out hout
      simp only [Qf,Rk] at ha
      obtain ⟨rfl,rfl⟩:=ha
      exact (Zon hT hti hfs hte H (Zj5 hev ps) hout).op
     ·cases ha
    ·cases ha
   ·cases ha
  ·cases ha
 ·
  rename_i t len ps
  split at ha
  ·rename_i ti hti
   split at ha
   ·rename_i e' he'
    split at ha
    ·rename_i te hte
     obtain ⟨h1,ha1⟩:=Zd ha
     simp only [Qc] at h1
     obtain ⟨⟨g1,g2⟩,g3⟩:=h1
     have g1:=Qh g1
     have g3:=Qm g3
     have g2:0<te.size:=by simpa [Th] using g2
     split at ha1
     ·rename_i out hout
      obtain ⟨q1,q2⟩:=Zd ha1
      have q1:=Qh q1
      simp only [Qf,Rk] at q2
      obtain ⟨rfl,rfl⟩:=q2
      exact (Zia hT hti he' hte g1 (by omega) g3 H hk hkn (Zj5 hev ps) hout q1).op
     ·cases ha1
    ·cases ha
   ·cases ha
  ·cases ha
 ·
  rename_i t a
  have hx:=hev a
  split at ha
  ·rename_i ti hti
   split at ha
   ·rename_i id idx sub hp
    rw [hp] at hx
    split at ha
    ·rename_i es elems mt pu hb
     split at ha
     ·rename_i cells hcells
      obtain ⟨h1,h2⟩:=Yw ha
      dsimp only at h1 h2
      subst h2
      exact (Zlk hT hti H hx hb hcells h1).op
     ·cases ha
    ·cases ha
   ·rename_i cells hp
    rw [hp] at hx
    obtain ⟨h1,h2⟩:=Yw ha
    dsimp only at h1 h2
    subst h2
    exact (Zkq hT hti H hx h1).op
   ·cases ha
  ·cases ha
 ·
  rename_i t a x
  have hp:=hev a
  have hx:=hev x
  split at ha
  ·rename_i ti hti
   split at ha
   ·rename_i id idx sub xs hpa hxs
    rw [hpa] at hp
    split at ha
    ·rename_i es elems mt pu hb
     obtain ⟨h1,ha1⟩:=Zd ha
     simp only [Qc] at h1
     obtain ⟨⟨g1,g2⟩,g3⟩:=h1
     have g3:=Qh g3
     subst g1
     split at ha1
     ·rename_i cells hcells
      obtain ⟨q1,q2⟩:=Zd ha1
      have q1:=Qm q1
      simp only [Qf,Rk] at q2
      obtain ⟨rfl,rfl⟩:=q2
      obtain ⟨w',e1,e2,e3⟩:=Zql hT hti H hp hx hb hcells hxs g3 g2 q1
      have hD:(fun i=>D i\/((Eff.put id (.row es (elems.set idx (splice cells sub xs)) true (pu&&Yo xs))).adds=true/\i=k))=D:=funext fun i=>by simp [Eff.adds]
      unfold OpGives
      rw [hD]
      exact ⟨undef,w',r,.inr ⟨by simp [e1],rfl⟩,e2,e3,.tup _ _ _ rfl (fun i c v hc=>by simp at hc)⟩
     ·cases ha1
    ·cases ha
   ·cases ha
  ·cases ha
 ·
  rename_i t x f
  split at ha
  ·rename_i off tf hfi
   obtain ⟨h1,ha1⟩:=Zd ha
   obtain ⟨h2,h3⟩:=Yw ha1
   dsimp only at h2 h3
   subst h3
   obtain ⟨ti,fs,fd,g1,g2,g3,g4,rfl⟩:=Ze1 hfi
   have h1:0<tf.size:=by simpa [Th] using h1
   exact (Zmv hT g1 g2 g3 g4 (by omega) H (hev x) h2).op
  ·cases ha
 ·
  rename_i t x f
  split at ha
  ·rename_i off tf cells hfi hxc
   obtain ⟨h2,h3⟩:=Yw ha
   dsimp only at h2 h3
   subst h3
   obtain ⟨ti,fs,fd,g1,g2,g3,g4,rfl⟩:=Ze1 hfi
   have hx:=hev x
   rw [hxc] at hx
   exact (Zqo hT g1 g2 g3 g4 H hx h2).op
  ·cases ha
 ·
  rename_i t x i
  split at ha
  ·rename_i ti te ki ii hti hte hi
   have hii:=hev i
   rw [hi] at hii
   have hiv:ρ i = .int ki ii:=by generalize ρ i=z at hii; cases hii; rfl
   rw [hiv]
   unfold Zei at hte
   rw [hti] at hte
   split at ha
   ·rename_i e' hd
    obtain ⟨h2,h3⟩:=Yw ha
    dsimp only at h2 h3
    subst h3
    simp only [hd] at hte
    exact (Zok hT hti hd hte H (hev x) h2).op
   ·rename_i len e' hd
    obtain ⟨h2,h3⟩:=Yw ha
    dsimp only at h2 h3
    subst h3
    simp only [hd] at hte
    exact (Zol hT hti hd hte H (hev x) h2).op
   ·cases ha
  ·cases ha
 ·
  rename_i t x i
  split at ha
  ·rename_i ti cells ki ii hti hx hi
   have hii:=hev i
   rw [hi] at hii
   have hiv:ρ i = .int ki ii:=by generalize ρ i=z at hii; cases hii; rfl
   rw [hiv]
   have hxx:=hev x
   rw [hx] at hxx
   split at ha
   ·rename_i len e' te hd hte
    obtain ⟨h1,ha1⟩:=Zd ha
    simp only [decide_eq_true_eq] at h1
    obtain ⟨h2,h3⟩:=Yw ha1
    dsimp only at h2 h3
    subst h3
    unfold Zei at hte
    rw [hti] at hte
    simp only [hd] at hte
    exact (Zqm hT hti hd hte H hxx h1 h2).op
   ·cases ha
  ·rename_i ti s ki ii hti hx hi
   have hii:=hev i
   rw [hi] at hii
   have hiv:ρ i = .int ki ii:=by generalize ρ i=z at hii; cases hii; rfl
   rw [hiv]
   have hxx:=hev x
   rw [hx] at hxx
   split at ha
   ·rename_i hd
    obtain ⟨h1,ha1⟩:=Zd ha
    simp only [decide_eq_true_eq] at h1
    split at ha1
    ·rename_i b hb
     simp only [Qf,Rk] at ha1
     obtain ⟨rfl,rfl⟩:=ha1
     exact (Zkr hT hti hd H hxx h1 hb).op
    ·cases ha1
   ·cases ha
  ·cases ha
 ·
  rename_i op t x y ty
  obtain ⟨h2,h3⟩:=Yw ha
  dsimp only at h2 h3
  subst h3
  exact (Zy0 hT hok H (hev x) (hev y) h2).op
 ·
  rename_i op t x
  obtain ⟨h2,h3⟩:=Yw ha
  dsimp only at h2 h3
  subst h3
  exact (Gives.of_sim H (Yfe (hev x) h2)).op
 ·
  rename_i s d x
  obtain ⟨h2,h3⟩:=Yw ha
  dsimp only at h2 h3
  subst h3
  exact (Gives.of_sim H (Yao hT (hev x) h2)).op
 ·
  rename_i f a b
  simp only [Qf,Rk] at ha
  obtain ⟨rfl,rfl⟩:=ha
  have h1:=Xp hev a
  have h2:=Xp hev b
  refine Gives.op (Gives.same H (x:=.func (.func f) (a.map ρ) (b.map ρ)) rfl ?_)
  exact .func _ _ _ _ _ _ h1.1 h2.1 h1.2 h2.2
 ·
  rename_i t i
  obtain ⟨h2,h3⟩:=Yw ha
  dsimp only at h2 h3
  subst h3
  exact (Gives.of_sim H (Zqt (hev t) h2)).op
 ·
  rename_i x
  have hx:=hev x
  split at ha
  ·rename_i id idx sub hp
   simp only [Qf,Rk] at ha
   obtain ⟨rfl,rfl⟩:=ha
   rw [hp] at hx
   generalize ρ x=z at *
   cases hx with
   | ptr _ _ _ _ hd=>simpa using Gives.op (s:=pure _) (Gives.same H rfl (.ptr _ _ _ _ hd))
  ·rename_i cells hp
   simp only [Qf,Rk] at ha
   obtain ⟨rfl,rfl⟩:=ha
   rw [hp] at hx
   generalize ρ x=z at *
   cases hx with
   | ipt _ _ b o val h1 h2=>simpa using Gives.op (s:=pure _) (Gives.same H rfl (.ipt _ _ b o val h1 h2))
  ·cases ha
 ·
  rename_i c
  obtain ⟨callee,args,argTypes⟩:=c
  dsimp only at ha
  split at ha
  ·
   split at ha
   ·rename_i t x ht hx
    split at ha
    ·rename_i ti hti
     obtain ⟨h1,ha1⟩:=Zd ha
     obtain ⟨h2,h3⟩:=Yw ha1
     dsimp only at h2 h3
     subst h3
     obtain ⟨y,e1,e2⟩:=Yec (ty:=type) hT hti (hev x) h1 h2
     have ha' : args = #[x]:=by rw [<-Qak]; simpa using hx
     have hat:argTypes = #[t]:=by rw [<-Qak]; simpa using ht
     subst ha' hat
     have:=Gives.op (Gives.same (k:=k) H e1 e2)
     simpa [resolve,invoke,builtin] using this
    ·cases ha
   ·cases ha
  ·
   obtain ⟨h2,h3⟩:=Yw ha
   dsimp only at h2 h3
   subst h3
   obtain ⟨y,e1,e2⟩:=Yd4 (P:=P) (Xp hev args) h2 argTypes type
   have:=Gives.op (Gives.same (k:=k) H e1 e2)
   simpa [resolve,invoke,builtin] using this
  ·
   obtain ⟨h2,h3⟩:=Yw ha
   dsimp only at h2 h3
   subst h3
   obtain ⟨y,e1,e2⟩:=Yd1 (P:=P) (Xp hev args) h2 argTypes type
   have:=Gives.op (Gives.same (k:=k) H e1 e2)
   simpa [resolve,invoke,builtin] using this
  ·cases ha
 ·cases ha
end Go.Sx
