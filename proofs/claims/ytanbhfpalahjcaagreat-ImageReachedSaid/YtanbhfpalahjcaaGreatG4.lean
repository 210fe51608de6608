/- A part of the proof: lemmas. -/
import Derived.Test.YtanbhfpalahjcaaGreatG3
set_option linter.unusedVariables false
set_option linter.unusedSimpArgs false
set_option maxRecDepth 100000
set_option maxHeartbeats 16000000
open Array renaming getD_eq_getD_getElem?->Qy,getElem?_eq_some_iff->Qt,getElem?_extract->Nd,toList_append->Jl
open Bool renaming and_eq_true->Qc,and_true->Oq,eq_false_iff->Qx,false_eq_true->Rs,false_or->Wr,not_false->Mx
open Go.Call renaming operands->Jb
open Go.Deferred renaming ofValue->Pz
open Go.Ending renaming returned->Jh
open Go.Op renaming operands->Rj
open Go.Region renaming wanted->Pq
open Go.Sx.ABlk renaming live->Wi
open Go.Sx.Env renaming get_cons->Pg
open Go.Sx.Got renaming cases->Ol
open Go.Sx.St renaming get->Oh
open Go.World renaming cell?->Po
open List renaming cons_append->Ok,getElem?_cons_succ->Gd,getElem?_cons_zero->Wj,getElem?_drop->Rz,getElem?_eq_getElem->Qe,getElem?_eq_some_iff->Qi,getElem?_map->Rr,getElem?_nil->Hk,getElem?_range->Pm,mem_append->Sh,mem_append_left->Fq,mem_append_right->Fe,mem_cons->Ra,range->Rv
open Nat renaming add_comm->Gr,add_mul->Tp,beq->Qs,blt_eq->Th,eq_of_beq_eq_true->Qh,le_refl->Qd,le_trans->Re,lt_of_lt_of_le->Tc,lt_trichotomy->Kh,not_lt->Nj
open Option renaming map_eq_some_iff->Wa
open Option.some renaming inj->Sr,injEq->Qf
open Prod.mk renaming injEq->Rk
namespace Go.Sx
open Go Go.RowKit
variable {r r' : Locs} {D D' : Nat->Prop} {I I' : Imm} {w w' w0:World} {I0:Imm} {B n n' k N:Nat} {pr pr' : Nat->Obj->Prop} {h:Nat->ABlk} {P:Program}
mutual
def Zi (f:Nat->Nat):AV->AV
 | .ptr id idx sub=>.ptr (f id) idx sub
 | .asl id idx len=>.asl (f id) idx len
 | .bsl id idx sub len cap=>.bsl (f id) idx sub len cap
 | .amap id=>.amap (f id)
 | .func g c0 c1=>.func g (renL f c0) (renL f c1)
 | .agg cs=>.agg (renL f cs)
 | .tup cs=>.tup (renL f cs)
 | v=>v
def renL (f:Nat->Nat):List AV->List AV
 | []=>[]
 | c::cs=>Zi f c::renL f cs
end
theorem Zcs (f:Nat->Nat):∀ (cs:List AV) (i:Nat),(renL f cs)[i]?=(cs[i]?).map (Zi f)
 | [],i=>by simp [renL]
 | c::cs,0=>by simp [renL]
 | c::cs,i+1=>by simp [renL,Zcs f cs i]
theorem Ye (f:Nat->Nat):∀ (cs:List AV),(renL f cs).length=cs.length
 | []=>rfl
 | c::cs=>by simp [renL,Ye f cs]
theorem VR.ren {f:Nat->Nat} {v:AV} {x:Value} (hv:VR r I w D v x):∀ {r' : Locs} {D' : Nat->Prop},(∀ id,D id->D' (f id)/\r' (f id)=r id)->VR r' I w D' (Zi f v) x:=by
 induction hv with
 | any=>intros; simp only [Zi]; exact .any _ _
 | bool=>intros; simp only [Zi]; exact .bool _ _
 | int=>intros; simp only [Zi]; exact .int _ _ _
 | flt=>intros; simp only [Zi]; exact .flt _ _ _
 | cpx=>intros; simp only [Zi]; exact .cpx _ _ _ _
 | val=>intros; simp only [Zi]; exact .val _ _ _ _
 | str=>intros; simp only [Zi]; exact .str _ _
 | ptr D id idx sub hd=>intro r' D' h; have:=(h id hd).2; rw [<-this]; simp only [Zi]; exact .ptr _ _ _ _ (h id hd).1
 | ipt D cells b o val h1 h2 ih=>intro r' D' h; simp only [Zi]; exact (VR.ipt (r:=r) D cells b o val h1 h2).mono ⟨fun _ hd=>⟨trivial,rfl⟩,fun _ _ hi=>⟨hi,rfl⟩,Qd _⟩ |>.pure rfl |>.mono ⟨fun _ hf=>hf.elim,fun _ _ hi=>⟨hi,rfl⟩,Qd _⟩
 | nilp=>intros; simp only [Zi]; exact .nilp _
 | nils=>intros; simp only [Zi]; exact .nils _
 | asl D id idx len hd hc=>intro r' D' h; have e:=(h id hd).2; rw [<-e] at hc; rw [<-e]; simp only [Zi]; exact .asl _ _ _ _ (h id hd).1 hc
 | bsl D id idx sub len cap hd=>intro r' D' h; have e:=(h id hd).2; rw [<-e]; simp only [Zi]; exact .bsl _ _ _ _ _ _ (h id hd).1
 | isl0=>intros; simp only [Zi]; exact .isl0 _ _ _ _
 | isl D es elems b o cap val hl h0 h1 h2 ih=>intro r' D' h; simp only [Zi]; exact (VR.isl (r:=r) D es elems b o cap val hl h0 h1 h2).pure rfl |>.mono ⟨fun _ hf=>hf.elim,fun _ _ hi=>⟨hi,rfl⟩,Qd _⟩
 | amap D id hd=>intro r' D' h; have e:=(h id hd).2; rw [<-e]; simp only [Zi]; exact .amap _ _ (h id hd).1
 | func D g c0 c1 v0 v1 h0 h1 g0 g1 ih0 ih1 =>
  intro r' D' h
  simp only [Zi]
  refine .func _ _ _ _ _ _ (by rw [Ye]; exact h0) (by rw [Ye]; exact h1) (fun i c v hc hv=>?_) (fun i c v hc hv=>?_)
  ·rw [Zcs,Wa] at hc
   obtain ⟨c',hc',rfl⟩:=hc
   exact ih0 i c' v hc' hv h
  ·rw [Zcs,Wa] at hc
   obtain ⟨c',hc',rfl⟩:=hc
   exact ih1 i c' v hc' hv h
 | yld=>intros; simp only [Zi]; exact .yld _ _
 | agg D cs vs h0 g ih =>
  intro r' D' h
  simp only [Zi]
  refine .agg _ _ _ (by rw [Ye]; exact h0) (fun i c v hc hv=>?_)
  rw [Zcs,Wa] at hc
  obtain ⟨c',hc',rfl⟩:=hc
  exact ih i c' v hc' hv h
 | tup D cs vs h0 g ih =>
  intro r' D' h
  simp only [Zi]
  refine .tup _ _ _ (by rw [Ye]; exact h0) (fun i c v hc hv=>?_)
  rw [Zcs,Wa] at hc
  obtain ⟨c',hc',rfl⟩:=hc
  exact ih i c' v hc' hv h
structure PRes where
 v:AV
 blks:List (Nat × List (List AV)):=[]
def r0:Locs:=fun _=>⟨0,0,0,0,0⟩
structure PPost (I:Imm) (w:World) (I' : Imm) (w' : World) (r' : Locs) (res:PRes) (x:Value):Prop where
 below:Below w.heap.size w w'
 immL:∀ b o,I b o->I' b o
 immN:∀ b o,I' b o->I b o\/w.heap.size<=b
 immS:∀ b o,I' b o->b<w'.heap.size
 rows:∀ (j:Nat) (p:Nat × List (List AV)),res.blks[j]?=some p->w.heap.size<=(r' j).blk/\(r' j).blk<w'.heap.size/\BlkOK r' I' w' (fun _=>False) w.heap.size j (.row p.1 p.2 true true)
 inj:∀ j j',j<res.blks.length->j'<res.blks.length->j≠j'->(r' j).blk≠(r' j').blk
 val:VR r' I' w' (fun i=>i<res.blks.length) res.v x
def PCall (P:Program) (f:FuncId) (args:List AV) (res:PRes):Prop :=
 FnOK P f/\∀ (I:Imm) (w:World) (vs:Array Value),(∀ b o,I b o->b<w.heap.size)->VRs r0 I w (fun _=>False) args vs ->
  CallsIn Fence.wide 0 P f vs w fun e w'=>∃ x r' I',e = .returned x/\PPost I w I' w' r' res x
def Xr (h:Nat->ABlk) (k:Nat) (l:List (Nat × List (List AV))):Nat->ABlk:=fun i =>
 if k<=i then match l[i-k]? with
  | some p=>.row p.1 p.2 true true
  | none=>h i
 else h i
theorem HR.call (H:HR B w0 I0 pr r I D h n w) {res:PRes} {x:Value} (hp:PPost I w I' w' r' res x) (hk:∀ j,j<res.blks.length -> ¬ D (k+j)) (hn:n<=n') (hkn:k+res.blks.length<=n') :
  ∃ r2 D2,(∀ i,D2 i↔D i\/(k<=i/\i<k+res.blks.length))/\HR B w0 I0 pr r2 I' D2 (Xr h k res.blks) n' w'/\Step r D I w r2 D2 I' w'/\VR r2 I' w' D2 (Zi (fun j=>k+j) res.v) x:=by
 let m:=res.blks.length
 let r2:Locs:=fun i=>if k<=i/\i<k+m then r' (i-k) else r i
 let D2:Nat->Prop:=fun i=>D i\/(k<=i/\i<k+m)
 have hrD:∀ id,D id->r2 id=r id:=by
  intro id hd
  have:¬ (k<=id/\id<k+m):=fun ⟨h1,h2⟩=>hk (id-k) (by omega) (by rwa [show k+(id-k)=id by omega])
  simp only [r2,this,if_false]
 have hrN:∀ j,j<m->r2 (k+j)=r' j:=by
  intro j hj
  have h1:k<=k+j/\k+j<k+m:=by omega
  simp only [r2,h1,and_self,if_true]
  congr 1; omega
 have hst:Step r D I w r2 D2 I' w':=by
  refine ⟨fun id hd=>⟨.inl hd,hrD id hd⟩,fun b o hi=>⟨hp.immL b o hi,?_⟩,hp.below.size⟩
  exact World.cell?_of_block (hp.below.block b (H.imm b o hi))
 have hlive:∀ id,(Xr h k res.blks id).live=true->(∃ j,j<m/\id=k+j/\∃ p,res.blks[j]?=some p/\Xr h k res.blks id = .row p.1 p.2 true true)\/((h id).live=true/\Xr h k res.blks id=h id):=by
  intro id hl
  simp only [Xr] at hl ⊢
  by_cases h1:k<=id
  ·simp only [h1,if_true] at hl ⊢
   cases hq:res.blks[id-k]? with
   | none=>simp only [hq] at hl ⊢; exact .inr ⟨hl,trivial⟩
   | some p =>
    simp only [hq] at hl ⊢
    have:=(Qi.1 hq).1
    exact .inl ⟨id-k,this,by omega,p,hq,rfl⟩
  ·simp only [h1,if_false] at hl ⊢; exact .inr ⟨hl,trivial⟩
 refine ⟨r2,D2,fun i=>Iff.rfl,⟨H.below.trans (hp.below.mono H.base),Re H.base hp.below.size,hp.immS,?_,?_,?_,?_,?_,fun b o hb=>⟨fun id hl=>?_,fun o' hi=>?_⟩,?_⟩,hst,?_⟩
 ·rintro id (hd|⟨h1,h2⟩)
  ·rw [hrD id hd]
   exact ⟨Tc (H.dom id hd).1 hn,Tc (H.dom id hd).2 hp.below.size⟩
  ·have e:id=k+(id-k):=by omega
   rw [e,hrN _ (by omega)]
   have hq:id-k<res.blks.length:=by omega
   exact ⟨by omega,(hp.rows (id-k) _ (Qe hq)).2.1⟩
 ·intro id hl
  rcases hlive id hl with ⟨j,hj,rfl,_⟩|⟨h1,_⟩
  ·exact .inr (by omega)
  ·exact .inl (H.live id h1)
 ·intro id
  by_cases hl:(Xr h k res.blks id).live=true
  ·rcases hlive id hl with ⟨j,hj,rfl,p,hq,e⟩|⟨h1,e⟩
   ·rw [e]
    obtain ⟨g1,g2,g3⟩:=hp.rows j p hq
    obtain ⟨⟨a1,a1'⟩,a2,a3,cs,T,fz,a4,a5,a6,a7,a8⟩:=g3
    refine ⟨by rw [hrN j hj]; exact ⟨a1,a1'⟩,by rw [hrN j hj]; exact a2,a3,cs,T,fz,by rw [hrN j hj]; exact a4,by rw [hrN j hj]; exact a5,?_,?_,by simp⟩
    ·intro i e' j' c hi hj'
     obtain ⟨v,b1,b2⟩:=a6 i e' j' c hi hj'
     exact ⟨v,by rw [hrN j hj]; exact b1,b2.mono ⟨fun _ h=>by simp at h,fun _ _ hi=>⟨hi,rfl⟩,Qd _⟩⟩
    ·intro _
     rw [hrN j hj]
     exact ⟨Re H.base g1,(a7 rfl).2.1,(a7 rfl).2.2⟩
   ·rw [e]
    have hd:=H.live id h1
    have hlt:=(H.dom id hd).2
    refine (H.blk id).mono hst (hrD id hd) (fun _=>hp.below.block _ hlt) (fun _ _ _ _ o ho=>?_)
    rcases hp.immN _ _ ho with h|h
    ·exact h
    ·omega
  ·have:Xr h k res.blks id = .dead:=by cases hx:Xr h k res.blks id<;>simp_all [Wi]
   rw [this]; trivial
 ·intro id id' h1 h2 hne
  rcases hlive id h1 with ⟨j,hj,rfl,p,hq,_⟩|⟨g1,_⟩<;>rcases hlive id' h2 with ⟨j',hj',rfl,p',hq',_⟩|⟨g1',_⟩
  ·rw [hrN j hj,hrN j' hj']; exact hp.inj j j' hj hj' (fun e=>hne (by rw [e]))
  ·have hd:=H.live id' g1'
   have:=(H.dom id' hd).2
   have:=(hp.rows j p hq).1
   rw [hrN j hj,hrD id' hd]; omega
  ·have hd:=H.live id g1
   have:=(H.dom id hd).2
   have:=(hp.rows j' p' hq').1
   rw [hrN j' hj',hrD id hd]; omega
  ·have hd:=H.live id g1
   have hd':=H.live id' g1'
   rw [hrD id hd,hrD id' hd']
   exact H.inj id id' g1 g1' hne
 ·intro b o hb
  have:=H.prot b o hb
  have hlt:=(Qt.1 this.1).1
  exact ⟨(hp.below.block b hlt).trans this.1,this.2⟩
 ·have hlt:=(Qt.1 (H.prot b o hb).1).1
  rcases hlive id hl with ⟨j,hj,rfl,p,hq,_⟩|⟨g1,_⟩
  ·rw [hrN j hj]
   have:=(hp.rows j p hq).1
   omega
  ·rw [hrD id (H.live id g1)]
   exact (H.protK b o hb).1 id g1
 ·have hlt:=(Qt.1 (H.prot b o hb).1).1
  rcases hp.immN _ _ hi with h|h
  ·exact (H.protK b o hb).2 o' h
  ·omega
 ·intro b o hb
  rcases hp.immN b o hb with h|h
  ·exact H.immB b o h
  ·exact .inr (Re H.base h)
 ·exact hp.val.ren fun id hd=>⟨.inr (by omega),hrN id hd⟩
def Zbm (rv:List AV->Option (List AV × List Nat)):List (List AV)->Option (List (List AV) × List Nat)
 | []=>some ([],[])
 | e::es=>match rv e,Zbm rv es with
  | some (e',l),some (es',l')=>some (e'::es',l++l')
  | _,_=>none
mutual
def Ve (rv:List AV->Option (List AV × List Nat)) (h:Nat->ABlk):AV->Option (AV × List Nat)
 | .ptr id idx sub=>match sub with
  | 0=>match h id with
   | .row _ elems mt pu=>match elems[idx]? with
    | some cells=>match pu with
     | true=>some (.ipt cells,cond mt [id] [])
     | false=>match rv cells with
      | some (cs',l)=>some (.ipt cs',cond mt [id] []++l)
      | none=>none
    | none=>none
   | _=>none
  | _=>none
 | .bsl _ _ _ _ _=>none
 | .amap _=>none
 | .asl id idx len=>match h id with
  | .row es elems mt true=>some (.isl es ((elems.drop idx).take len),cond mt [id] [])
  | .row es elems mt false=>match Zbm rv ((elems.drop idx).take len) with
   | some (els,l)=>some (.isl es els,cond mt [id] []++l)
   | none=>none
  | _=>none
 | .func f c0 c1=>match Za0 rv h c0,Za0 rv h c1 with
  | some (c0',l0),some (c1',l1)=>some (.func f c0' c1',l0++l1)
  | _,_=>none
 | .agg cs=>match Za0 rv h cs with
  | some (cs',l)=>some (.agg cs',l)
  | none=>none
 | .tup cs=>match Za0 rv h cs with
  | some (cs',l)=>some (.tup cs',l)
  | none=>none
 | v=>some (v,[])
def Za0 (rv:List AV->Option (List AV × List Nat)) (h:Nat->ABlk):List AV->Option (List AV × List Nat)
 | []=>some ([],[])
 | c::cs=>match Ve rv h c,Za0 rv h cs with
  | some (c',l),some (cs',l')=>some (c'::cs',l++l')
  | _,_=>none
end
def rvN (h:Nat->ABlk):Nat->List AV->Option (List AV × List Nat)
 | 0=>fun _=>none
 | d+1=>Za0 (rvN h d) h
def view (h:Nat->ABlk) (a:AV):Option (AV × List Nat):=Ve (rvN h 3) h a
def Zao (h:Nat->ABlk) (cs:List AV):Option (List AV × List Nat):=Za0 (rvN h 3) h cs
def Xe (r:Locs) (I:Imm) (h:Nat->ABlk) (l:List Nat):Imm:=fun b o=>I b o\/∃ id∈l,∃ (es:Nat) (elems:List (List AV)) (mt pu:Bool) (i:Nat) (e:List AV) (j:Nat) (c:AV),h id = .row es elems mt pu/\elems[i]?=some e/\e[j]?=some c/\b=(r id).blk/\o=(r id).off+i*es+j
theorem Zua {id es idx len:Nat} {elems:List (List AV)} {mt:Bool} (hb:BlkOK r I w D B id (.row es elems mt true)) (hc:idx+len<=(r id).len) {cap:Nat} (hcap:len<=cap) {J:Imm} (hI:∀ b o,I b o->J b o)
  (hJ:∀ (i:Nat) (e:List AV) (j:Nat) (c:AV),elems[i]?=some e->e[j]?=some c->J (r id).blk ((r id).off+i*es+j)) :
  VR r0 J w (fun _=>False) (.isl es ((elems.drop idx).take len)) (.slice (some ⟨(r id).blk,(r id).off+idx*(r id).es,none⟩) len cap):=by
 obtain ⟨⟨h1,h1'⟩,h2,h3,cs,T,fz,h4,h5,h6,_⟩:=hb
 have hlen:((elems.drop idx).take len).length=len:=by simp; omega
 rw [h1]
 have hget:∀ (i:Nat) (e:List AV),((elems.drop idx).take len)[i]?=some e->elems[idx+i]?=some e:=by
  intro i e hi
  have:i<len:=by have:=(Qi.1 hi).1; omega
  simpa [this,Rz] using hi
 have key:=VR.isl (r:=r0) (I:=J) (w:=w) (fun _=>False) es ((elems.drop idx).take len) (r id).blk ((r id).off+idx*es) cap (fun i j=>cs.getD ((r id).off+(idx+i)*es+j) undef) (by rw [hlen]; exact hcap)
  (fun i e hi=>h3 _ _ (hget i e hi)) (fun i e j c hi hj=>?_) (fun i e j c hi hj=>?_)
 ·rw [hlen] at key; exact key
 ·obtain ⟨v,g1,g2⟩:=h6 (idx+i) e j c (hget i e hi) hj
  have e1:(r id).off+idx*es+i*es+j=(r id).off+(idx+i)*es+j:=by rw [Tp]; omega
  rw [e1]
  refine ⟨hJ _ _ _ _ (hget i e hi) hj,?_⟩
  simp [Po,h4,g1]
 ·obtain ⟨v,g1,g2⟩:=h6 (idx+i) e j c (hget i e hi) hj
  have:cs.getD ((r id).off+(idx+i)*es+j) undef=v:=by simp [g1]
  simp only [this]
  exact g2.mono ⟨fun _ hf=>by simp at hf,fun b o hi=>⟨hI b o hi,rfl⟩,Qd _⟩
def Zzd (r:Locs) (I:Imm) (w:World) (D:Nat->Prop) (h:Nat->ABlk) (J:Imm) (rv:List AV->Option (List AV × List Nat)):Prop :=
 ∀ (cs cs' : List AV) (l:List Nat) (vs:List Value),vs.length=cs.length->(∀ (i:Nat) (c:AV) (v:Value),cs[i]?=some c->vs[i]?=some v->VR r I w D c v)->rv cs=some (cs',l) ->
  (∀ id∈l,∀ (es:Nat) (elems:List (List AV)) (mt pu:Bool),h id = .row es elems mt pu->∀ (i:Nat) (e:List AV) (j:Nat) (c:AV),elems[i]?=some e->e[j]?=some c->J (r id).blk ((r id).off+i*es+j))->cs'.length=vs.length/\∀ (i:Nat) (c:AV) (v:Value),cs'[i]?=some c->vs[i]?=some v->VR r0 J w (fun _=>False) c v
theorem Znm {J:Imm} {rv:List AV->Option (List AV × List Nat)} (hrv:Zzd r I w D h J rv):∀ (els:List (List AV)) {els' : List (List AV)} {l:List Nat} (vals:Nat->List Value),
  (∀ (i:Nat) (e:List AV),els[i]?=some e->(vals i).length=e.length/\∀ (j:Nat) (c:AV) (v:Value),e[j]?=some c->(vals i)[j]?=some v->VR r I w D c v)->Zbm rv els=some (els',l) ->
  (∀ id∈l,∀ (es:Nat) (elems:List (List AV)) (mt pu:Bool),h id = .row es elems mt pu->∀ (i:Nat) (e:List AV) (j:Nat) (c:AV),elems[i]?=some e->e[j]?=some c->J (r id).blk ((r id).off+i*es+j)) ->
  els'.length=els.length/\∀ (i:Nat) (e' : List AV),els'[i]?=some e'->e'.length=(vals i).length/\∀ (j:Nat) (c:AV) (v:Value),e'[j]?=some c->(vals i)[j]?=some v->VR r0 J w (fun _=>False) c v
 | [],els',l,vals,hv,hb,hl=>by simp [Zbm] at hb; obtain ⟨rfl,rfl⟩:=hb; exact ⟨rfl,fun i e' hi=>by simp at hi⟩
 | e::els,els',l,vals,hv,hb,hl=>by
  simp only [Zbm] at hb
  split at hb
  ·rename_i e1 l1 es1 l2 h1 h2
   cases hb
   obtain ⟨g1,g2⟩:=hv 0 e rfl
   obtain ⟨k1,k2⟩:=hrv e e1 l1 (vals 0) g1 g2 h1 (fun id hid=>hl id (by simp [hid]))
   obtain ⟨m1,m2⟩:=Znm hrv els (fun i=>vals (i+1)) (fun i e hi=>hv (i+1) e (by simpa using hi)) h2 (fun id hid=>hl id (by simp [hid]))
   refine ⟨by simp [m1],fun i e' hi=>?_⟩
   cases i with
   | zero=>simp at hi; subst hi; exact ⟨k1,k2⟩
   | succ i=>exact m2 i e' (by simpa using hi)
  ·cases hb
theorem Zqc {id es idx len:Nat} {elems:List (List AV)} {mt:Bool} (hb:BlkOK r I w D B id (.row es elems mt false)) (hc:idx+len<=(r id).len) {cap:Nat} (hcap:len<=cap) {J:Imm} {rv:List AV->Option (List AV × List Nat)} (hrv:Zzd r I w D h J rv) {els:List (List AV)} {l:List Nat} (hrows:Zbm rv ((elems.drop idx).take len)=some (els,l))
  (hl:∀ id∈l,∀ (es:Nat) (elems:List (List AV)) (mt pu:Bool),h id = .row es elems mt pu->∀ (i:Nat) (e:List AV) (j:Nat) (c:AV),elems[i]?=some e->e[j]?=some c->J (r id).blk ((r id).off+i*es+j))
  (hJ:∀ (i:Nat) (e:List AV) (j:Nat) (c:AV),elems[i]?=some e->e[j]?=some c->J (r id).blk ((r id).off+i*es+j)) :
  VR r0 J w (fun _=>False) (.isl es els) (.slice (some ⟨(r id).blk,(r id).off+idx*(r id).es,none⟩) len cap):=by
 obtain ⟨⟨h1,h1'⟩,h2,h3,cs,T,fz,h4,h5,h6,_⟩:=hb
 have hlen:((elems.drop idx).take len).length=len:=by simp; omega
 rw [h1]
 have hget:∀ (i:Nat) (e:List AV),((elems.drop idx).take len)[i]?=some e->elems[idx+i]?=some e:=by
  intro i e hi
  have:i<len:=by have:=(Qi.1 hi).1; omega
  simpa [this,Rz] using hi
 obtain ⟨m1,m2⟩:=Znm hrv ((elems.drop idx).take len) (fun i=>(Rv es).map fun j=>cs.getD ((r id).off+(idx+i)*es+j) undef) (fun i e hi=>by
  have he:=h3 _ _ (hget i e hi)
  refine ⟨by simp [he],fun j c v hj hv=>?_⟩
  have hjl:j<es:=by have:=(Qi.1 hj).1; omega
  rw [Rr,Pm hjl] at hv
  simp only [Option.map_some,Qf] at hv
  obtain ⟨u,g1,g2⟩:=h6 (idx+i) e j c (hget i e hi) hj
  have:cs.getD ((r id).off+(idx+i)*es+j) undef=u:=by simp [g1]
  rw [this] at hv
  subst hv
  exact g2.weak fun _ h=>h.2) hrows hl
 rw [hlen] at m1
 have key:=VR.isl (r:=r0) (I:=J) (w:=w) (fun _=>False) es els (r id).blk ((r id).off+idx*es) cap (fun i j=>cs.getD ((r id).off+(idx+i)*es+j) undef) (by rw [m1]; exact hcap)
  (fun i e hi=>by have:=(m2 i e hi).1; simpa using this) (fun i e j c hi hj=>?_) (fun i e j c hi hj=>?_)
 ·rw [m1] at key; exact key
 ·have hil:=(Qi.1 hi).1
  have hjl:j<es:=by have h7:=(m2 i e hi).1; have:=(Qi.1 hj).1; simp at h7; omega
  have he0:((elems.drop idx).take len)[i]?=some ((elems.drop idx).take len)[i]:=Qe (by omega)
  have he1:=hget i _ he0
  have hel:=h3 _ _ he1
  have hc0:(((elems.drop idx).take len)[i])[j]?=some (((elems.drop idx).take len)[i])[j]:=Qe (by omega)
  obtain ⟨v,g1,g2⟩:=h6 (idx+i) _ j _ he1 hc0
  have e1:(r id).off+idx*es+i*es+j=(r id).off+(idx+i)*es+j:=by rw [Tp]; omega
  rw [e1]
  refine ⟨hJ _ _ _ _ he1 hc0,?_⟩
  simp [Po,h4,g1]
 ·have hjl:j<es:=by have h7:=(m2 i e hi).1; have:=(Qi.1 hj).1; simp at h7; omega
  exact (m2 i e hi).2 j c _ hj (by rw [Rr,Pm hjl]; rfl)
mutual
theorem Zu6 (H:HR B w0 I0 pr r I D h n w) {J:Imm} (hI:∀ b o,I b o->J b o) {rv:List AV->Option (List AV × List Nat)} (hrv:Zzd r I w D h J rv):∀ (a:AV) {b:AV} {l:List Nat} {x:Value},VR r I w D a x->Ve rv h a=some (b,l) ->
  (∀ id∈l,∀ (es:Nat) (elems:List (List AV)) (mt pu:Bool),h id = .row es elems mt pu->∀ (i:Nat) (e:List AV) (j:Nat) (c:AV),elems[i]?=some e->e[j]?=some c->J (r id).blk ((r id).off+i*es+j))->VR r0 J w (fun _=>False) b x
 | .any,b,l,x,hv,hb,_=>by simp [Ve] at hb; obtain ⟨rfl,rfl⟩:=hb; exact .any _ _
 | .bool _,b,l,x,hv,hb,_=>by simp [Ve] at hb; obtain ⟨rfl,rfl⟩:=hb; cases hv; exact .bool _ _
 | .int _ _,b,l,x,hv,hb,_=>by simp [Ve] at hb; obtain ⟨rfl,rfl⟩:=hb; cases hv; exact .int _ _ _
 | .flt _ _,b,l,x,hv,hb,_=>by simp [Ve] at hb; obtain ⟨rfl,rfl⟩:=hb; cases hv; exact .flt _ _ _
 | .cpx _ _ _,b,l,x,hv,hb,_=>by simp [Ve] at hb; obtain ⟨rfl,rfl⟩:=hb; cases hv; exact .cpx _ _ _ _
 | .val _ _ _,b,l,x,hv,hb,_=>by simp [Ve] at hb; obtain ⟨rfl,rfl⟩:=hb; cases hv; exact .val _ _ _ _
 | .str _,b,l,x,hv,hb,_=>by simp [Ve] at hb; obtain ⟨rfl,rfl⟩:=hb; cases hv; exact .str _ _
 | .ptr id idx sub,b,l,x,hv,hb,hl=>by
  simp only [Ve] at hb
  split at hb
  ·split at hb
   ·rename_i es elems mt pu hid
    split at hb
    ·rename_i cells hcells
     have hB:=H.blk id
     rw [hid] at hB
     obtain ⟨val,hval⟩:=Zjc hB hcells
     have hes:=hB.1.1
     have hJ:∀ ids:List Nat,(mt=true->id∈ids)->(∀ i∈ids,i∈l)->∀ (j:Nat) (c:AV),cells[j]?=some c->J (r id).blk ((r id).off+idx*es+j):=by
      intro ids h1 h2 j c hj
      cases mt with
      | true=>exact hl id (h2 id (h1 rfl)) _ _ _ _ hid _ _ _ _ hcells hj
      | false =>
       obtain ⟨_,_,_,cs,T,fz,_,_,_,_,h8⟩:=hB
       exact hI _ _ (h8 rfl idx cells j c hcells hj)
     split at hb
     ·cases hb
      cases hv with
      | ptr _ _ _ _ hd =>
       rw [hes]
       obtain ⟨_,_,_,cs,T,fz,h4,_,h6,_⟩:=hB
       refine .ipt _ _ _ _ val (fun j c hj=>⟨hJ (cond mt [id] []) (fun e=>by rw [e]; simp) (fun i hi=>hi) j c hj,(hval j c hj).1⟩) (fun j c hj=>?_)
       obtain ⟨v,a,b⟩:=h6 idx cells j c hcells hj
       have e1:=(hval j c hj).1
       have e2:w.cell? ⟨(r id).blk,(r id).off+idx*es+j,none⟩=some v:=by simp [Po,h4,a]
       rw [e1] at e2
       have e3:=Sr e2
       rw [e3]
       exact b.mono ⟨fun _ h=>by simp at h,fun b o hi=>⟨hI b o hi,rfl⟩,Qd _⟩
     ·split at hb
      ·rename_i cs' l' hrc
       cases hb
       cases hv with
       | ptr _ _ _ _ hd =>
        rw [hes]
        have hlen:=hB.2.2.1 idx cells hcells
        obtain ⟨k1,k2⟩:=hrv cells cs' l' ((Rv cells.length).map val) (by simp) (fun i c v hc hv=>by
         have hlt:=(Qi.1 hc).1
         rw [Rr,Pm hlt] at hv
         simp at hv; subst hv
         exact (hval i c hc).2) hrc (fun i hi=>hl i (by simp [hi]))
        simp only [List.length_map,List.length_range] at k1
        refine .ipt _ _ _ _ val (fun j c hj=>?_) (fun j c hj=>?_)
        ·have hlt:=(Qi.1 hj).1
         have hc0:cells[j]?=some cells[j]:=Qe (by omega)
         exact ⟨hJ (cond mt [id] []) (fun e=>by rw [e]; simp) (fun i hi=>by simp [hi]) j _ hc0,(hval j _ hc0).1⟩
        ·have hlt:=(Qi.1 hj).1
         exact k2 j c (val j) hj (by rw [Rr,Pm (by omega)]; rfl)
      ·cases hb
    ·cases hb
   ·cases hb
  ·cases hb
 | .ipt _,b,l,x,hv,hb,_=>by simp [Ve] at hb; obtain ⟨rfl,rfl⟩:=hb; exact (hv.pure rfl).mono ⟨fun _ h=>h.elim,fun b o hi=>⟨hI b o hi,rfl⟩,Qd _⟩
 | .nilp,b,l,x,hv,hb,_=>by simp [Ve] at hb; obtain ⟨rfl,rfl⟩:=hb; cases hv; exact .nilp _
 | .nils,b,l,x,hv,hb,_=>by simp [Ve] at hb; obtain ⟨rfl,rfl⟩:=hb; cases hv; exact .nils _
 | .asl id idx len,b,l,x,hv,hb,hl=>by
  simp only [Ve] at hb
  split at hb
  ·rename_i es elems mt hid
   simp only [Qf,Rk] at hb
   obtain ⟨rfl,rfl⟩:=hb
   have hB:=H.blk id
   rw [hid] at hB
   cases hv with
   | asl _ _ _ _ hd hc =>
    refine Zua hB hc ?_ hI ?_
    rotate_left
    ·cases mt with
     | true=>exact hl id (by simp) _ _ _ _ hid
     | false =>
      obtain ⟨_,_,_,cs,T,fz,_,_,_,_,h8⟩:=hB
      exact fun i e j c hi hj=>hI _ _ (h8 rfl i e j c hi hj)
    have h2:=hB.2.1
    have h1:=hB.1.2
    omega
  ·rename_i es elems mt hid
   split at hb
   ·rename_i els l' hrows
    cases hb
    have hB:=H.blk id
    rw [hid] at hB
    cases hv with
    | asl _ _ _ _ hd hc =>
     refine Zqc hB hc ?_ hrv hrows (fun i hi=>hl i (by simp [hi])) ?_
     rotate_left
     ·cases mt with
      | true=>exact hl id (by simp) _ _ _ _ hid
      | false =>
       obtain ⟨_,_,_,cs,T,fz,_,_,_,_,h8⟩:=hB
       exact fun i e j c hi hj=>hI _ _ (h8 rfl i e j c hi hj)
     have h2:=hB.2.1
     have h1:=hB.1.2
     omega
   ·cases hb
  ·cases hb
 | .bsl _ _ _ _ _,b,l,x,hv,hb,_=>by simp [Ve] at hb
 | .isl _ _,b,l,x,hv,hb,_=>by simp [Ve] at hb; obtain ⟨rfl,rfl⟩:=hb; exact (hv.pure rfl).mono ⟨fun _ h=>h.elim,fun b o hi=>⟨hI b o hi,rfl⟩,Qd _⟩
 | .amap _,b,l,x,hv,hb,_=>by simp [Ve] at hb
 | .func f c0 c1,b,l,x,hv,hb,hl=>by
  simp only [Ve] at hb
  split at hb
  ·rename_i d0 l0 d1 l1 h0 h1
   cases hb
   cases hv with
   | func _ _ _ _ v0 v1 k0 k1 g0 g1 =>
    have a0:=Un H hI hrv c0 (vs:=v0.toList) (by simpa using k0) (fun i c v hc hv=>g0 i c v hc (by simpa using hv)) h0 (fun i hi=>hl i (by simp [hi]))
    have a1:=Un H hI hrv c1 (vs:=v1.toList) (by simpa using k1) (fun i c v hc hv=>g1 i c v hc (by simpa using hv)) h1 (fun i hi=>hl i (by simp [hi]))
    exact .func _ _ _ _ _ _ (by rw [a0.1]; simp) (by rw [a1.1]; simp) (fun i c v hc hv=>a0.2 i c v hc (by simpa using hv)) (fun i c v hc hv=>a1.2 i c v hc (by simpa using hv))
  ·cases hb
 | .yld _,b,l,x,hv,hb,_=>by simp [Ve] at hb; obtain ⟨rfl,rfl⟩:=hb; cases hv; exact .yld _ _
 | .agg cs,b,l,x,hv,hb,hl=>by
  simp only [Ve] at hb
  split at hb
  ·rename_i cs' l' hcs
   simp only [Qf,Rk] at hb
   obtain ⟨rfl,rfl⟩:=hb
   cases hv with
   | agg _ _ vs h0 g =>
    have:=Un H hI hrv cs (vs:=vs.toList) (by simpa using h0) (fun i c v hc hv=>g i c v hc (by simpa using hv)) hcs hl
    exact .agg _ _ _ (by rw [this.1]; simp) (fun i c v hc hv=>this.2 i c v hc (by simpa using hv))
  ·cases hb
 | .tup cs,b,l,x,hv,hb,hl=>by
  simp only [Ve] at hb
  split at hb
  ·rename_i cs' l' hcs
   simp only [Qf,Rk] at hb
   obtain ⟨rfl,rfl⟩:=hb
   cases hv with
   | tup _ _ vs h0 g =>
    have:=Un H hI hrv cs (vs:=vs.toList) (by simpa using h0) (fun i c v hc hv=>g i c v hc (by simpa using hv)) hcs hl
    exact .tup _ _ _ (by rw [this.1]; simp) (fun i c v hc hv=>this.2 i c v hc (by simpa using hv))
  ·cases hb
theorem Un (H:HR B w0 I0 pr r I D h n w) {J:Imm} (hI:∀ b o,I b o->J b o) {rv:List AV->Option (List AV × List Nat)} (hrv:Zzd r I w D h J rv):∀ (cs:List AV) {cs' : List AV} {l:List Nat} {vs:List Value},vs.length=cs.length->(∀ (i:Nat) (c:AV) (v:Value),cs[i]?=some c->vs[i]?=some v->VR r I w D c v)->Za0 rv h cs=some (cs',l) ->
  (∀ id∈l,∀ (es:Nat) (elems:List (List AV)) (mt pu:Bool),h id = .row es elems mt pu->∀ (i:Nat) (e:List AV) (j:Nat) (c:AV),elems[i]?=some e->e[j]?=some c->J (r id).blk ((r id).off+i*es+j))->cs'.length=vs.length/\∀ (i:Nat) (c:AV) (v:Value),cs'[i]?=some c->vs[i]?=some v->VR r0 J w (fun _=>False) c v
 | [],cs',l,vs,hle,hv,hb,_=>by
  simp [Za0] at hb
  obtain ⟨rfl,rfl⟩:=hb
  exact ⟨by simpa using hle.symm,fun i c v hc=>by simp at hc⟩
 | c::cs,cs',l,[],hle,hv,hb,hl=>by simp at hle
 | c::cs,cs',l,v::vs,hle,hv,hb,hl=>by
  simp only [Za0] at hb
  split at hb
  ·rename_i c' l1 ds l2 h1 h2
   simp only [Qf,Rk] at hb
   obtain ⟨rfl,rfl⟩:=hb
   have g1:=Zu6 H hI hrv c (hv 0 c v rfl rfl) h1 (fun id hid=>hl id (Fq _ hid))
   have g2:=Un H hI hrv cs (vs:=vs) (by simpa using hle) (fun i c v hc hv'=>hv (i+1) c v (by simpa using hc) (by simpa using hv')) h2 (fun id hid=>hl id (Fe _ hid))
   refine ⟨by simp [g2.1],fun i c2 v2 hc hv2=>?_⟩
   cases i with
   | zero=>simp at hc hv2; subst hc; subst hv2; exact g1
   | succ i=>exact g2.2 i c2 v2 (by simpa using hc) (by simpa using hv2)
  ·cases hb
end
theorem Zvp (H:HR B w0 I0 pr r I D h n w) {J:Imm} (hI:∀ b o,I b o->J b o):∀ d,Zzd r I w D h J (rvN h d)
 | 0=>fun cs cs' l vs _ _ hb _=>by simp [rvN] at hb
 | d+1=>fun cs cs' l vs h1 h2 hb hl=>Un H hI (Zvp H hI d) cs h1 h2 hb hl
theorem Zna (H:HR B w0 I0 pr r I D h n w) {J:Imm} (hI:∀ b o,I b o->J b o):∀ (cs:List AV) {cs' : List AV} {l:List Nat} {vs:List Value},vs.length=cs.length->(∀ (i:Nat) (c:AV) (v:Value),cs[i]?=some c->vs[i]?=some v->VR r I w D c v)->Zao h cs=some (cs',l) ->
  (∀ id∈l,∀ (es:Nat) (elems:List (List AV)) (mt pu:Bool),h id = .row es elems mt pu->∀ (i:Nat) (e:List AV) (j:Nat) (c:AV),elems[i]?=some e->e[j]?=some c->J (r id).blk ((r id).off+i*es+j))->cs'.length=vs.length/\∀ (i:Nat) (c:AV) (v:Value),cs'[i]?=some c->vs[i]?=some v->VR r0 J w (fun _=>False) c v :=
 fun cs cs' l vs h1 h2 hb hl=>Un H hI (Zvp H hI 3) cs h1 h2 hb hl
theorem Zci (H:HR B w0 I0 pr r I D h n w) (l:List Nat):∀ b o,Xe r I h l b o->b<w.heap.size:=by
 rintro b o (hi|⟨id,_,es,elems,mt,pu,i,e,j,c,hid,_,_,rfl,_⟩)
 ·exact H.imm b o hi
 ·exact (H.dom id (H.live id (by rw [hid]; rfl))).2
mutual
def Vc:AV->Bool
 | .any | .bool _ | .int _ _ | .flt _ _ | .cpx _ _ _ | .val _ _ _ | .str _ | .nilp | .nils=>true
 | .agg cs=>Za3 cs
 | .tup cs=>Za3 cs
 | _=>false
def Za3:List AV->Bool
 | []=>true
 | c::cs=>Vc c&&Za3 cs
end
theorem Za2:∀ {cs:List AV},Za3 cs=true->∀ {i:Nat} {c:AV},cs[i]?=some c->Vc c=true
 | [],_,i,c,hi=>by simp at hi
 | a::cs,h,0,c,hi=>by simp [Za3] at h hi; subst hi; exact h.1
 | a::cs,h,i+1,c,hi=>by simp [Za3] at h hi; exact Za2 h.2 hi
theorem VR.scalar {v:AV} {x:Value} (hv:VR r I w D v x):Vc v=true->∀ r' I' w' D',VR r' I' w' D' v x:=by
 induction hv with
 | any=>intros; exact .any _ _
 | bool=>intros; exact .bool _ _
 | int=>intros; exact .int _ _ _
 | flt=>intros; exact .flt _ _ _
 | cpx=>intros; exact .cpx _ _ _ _
 | val=>intros; exact .val _ _ _ _
 | str=>intros; exact .str _ _
 | nilp=>intros; exact .nilp _
 | nils=>intros; exact .nils _
 | agg D cs vs h0 g ih=>intro hs r' I' w' D'; simp only [Vc] at hs; exact .agg _ _ _ h0 (fun i c v hc hv=>ih i c v hc hv (Za2 hs hc) r' I' w' D')
 | tup D cs vs h0 g ih=>intro hs r' I' w' D'; simp only [Vc] at hs; exact .tup _ _ _ h0 (fun i c v hc hv=>ih i c v hc hv (Za2 hs hc) r' I' w' D')
 | _=>intro hs; simp [Vc] at hs
def froz (h:Nat->ABlk) (l:List Nat):Nat->ABlk:=fun i =>
 match h i with
 | .row es elems mt pu=>.row es elems (mt && !memL l i) pu
 | b=>b
where
 memL:List Nat->Nat->Bool
 | [],_=>false
 | a::l,t=>Qs t a||memL l t
theorem memL_iff:∀ {l:List Nat} {t:Nat},froz.memL l t=true↔t∈l
 | [],t=>by simp [froz.memL]
 | a::l,t=>by
  simp only [froz.memL,Bool.or_eq_true,memL_iff,Ra]
  constructor
  ·rintro (h|h)
   ·exact .inl (Qh h)
   ·exact .inr h
  ·rintro (rfl|h)
   ·exact .inl (Nat.beq_refl _)
   ·exact .inr h
theorem HR.froz (H:HR B w0 I0 pr r I D h n w) {l:List Nat} (hl:∀ id∈l,∃ es elems pu,h id = .row es elems true pu):HR B w0 I0 pr r (Xe r I h l) D (Sx.froz h l) n w/\Step r D I w r D (Xe r I h l) w:=by
 have hst:Step r D I w r D (Xe r I h l) w:=⟨fun id hd=>⟨hd,rfl⟩,fun b o hi=>⟨.inl hi,rfl⟩,Qd _⟩
 have hlive:∀ id,(Sx.froz h l id).live=(h id).live:=by intro id; simp only [Sx.froz]; cases h id<;>rfl
 refine ⟨⟨H.below,H.base,Zci H l,H.dom,fun id hd=>H.live id (by rwa [hlive] at hd),fun id=>?_,fun id id' h1 h2=>H.inj id id' (by rwa [hlive] at h1) (by rwa [hlive] at h2),H.prot,fun b o hp=>⟨fun id hd=>(H.protK b o hp).1 id (by rwa [hlive] at hd),fun o' ho=>?_⟩,?_⟩,hst⟩
 ·have hB:=H.blk id
  simp only [Sx.froz]
  cases hid:h id with
  | row es elems mt pu =>
   rw [hid] at hB
   obtain ⟨g1,g2,g3,cs,T,fz,g4,g5,g6,g7,g8⟩:=hB
   dsimp only
   refine ⟨g1,g2,g3,cs,T,fz,g4,g5,fun i e j c hi hj=>?_,fun hm=>?_,fun hm i e j c hi hj=>?_⟩
   ·obtain ⟨v,a,b⟩:=g6 i e j c hi hj
    exact ⟨v,a,b.mono ⟨fun id h=>⟨h,rfl⟩,hst.imm,Qd _⟩⟩
   ·simp only [Qc,Bool.not_eq_true'] at hm
    obtain ⟨a,b,c⟩:=g7 hm.1
    refine ⟨a,fun o ho=>?_,c⟩
    rcases ho with ho|⟨id',hid',es',elems',mt',pu',i,e,j,c',hr,_,_,hbk,_⟩
    ·exact b o ho
    ·have hne:id≠id':=by
      rintro rfl
      have:=memL_iff.2 hid'
      rw [this] at hm; simp at hm
     exact H.inj id id' (by rw [hid]; rfl) (by rw [hr]; rfl) hne hbk
   ·cases mt with
    | false=>exact .inl (g8 rfl i e j c hi hj)
    | true =>
     simp only [Bool.true_and,Bool.not_eq_false'] at hm
     exact .inr ⟨id,memL_iff.1 hm,es,elems,true,pu,i,e,j,c,hid,hi,hj,rfl,rfl⟩
  | map ents =>
   rw [hid] at hB
   obtain ⟨g0,es,clock,g1,g2,g3⟩:=hB
   exact ⟨g0,es,clock,g1,g2,fun i e k v he hv=>⟨(g3 i e k v he hv).1.mono hst,(g3 i e k v he hv).2.mono hst⟩⟩
  | set keys =>
   rw [hid] at hB
   exact hB
  | dead=>trivial
 ·rcases ho with ho|⟨id',hid',es',elems',mt',pu',i,e,j,c',hr,_,_,hbk,_⟩
  ·exact (H.protK b o hp).2 o' ho
  ·exact (H.protK b o hp).1 id' (by rw [hr]; rfl) hbk.symm
 ·rintro b o (hi|⟨id,hid',es,elems,mt,pu,i,e,j,c,hid,_,_,rfl,_⟩)
  ·exact H.immB b o hi
  ·obtain ⟨es',elems',pu',h2⟩:=hl id hid'
   have hB:=H.blk id
   rw [h2] at hB
   obtain ⟨_,_,_,cs,T,fz,_,_,_,g7,_⟩:=hB
   exact .inr (g7 rfl).1
def mutL (h:Nat->ABlk):List Nat->Bool
 | []=>true
 | a::l=>(match h a with
  | .row _ _ true _=>true
  | _=>false)&&mutL h l
theorem Zca {h:Nat->ABlk}:∀ {l:List Nat},mutL h l=true->∀ id∈l,∃ es elems pu,h id = .row es elems true pu
 | [],_,id,hid=>by simp at hid
 | a::l,hm,id,hid=>by
  simp only [mutL,Qc] at hm
  rcases Ra.1 hid with rfl|hid
  ·have h1:=hm.1
   split at h1
   ·rename_i es elems pu hx; exact ⟨es,elems,pu,hx⟩
   ·cases h1
  ·exact Zca hm.2 id hid
def Zem (σ:St) (l:List (Nat × List (List AV))):St :=
 match l with
 | []=>σ
 | p::l=>Zem (σ.add (.row p.1 p.2 true true)) l
def Vo (σ:St):List Nat->St
 | []=>σ
 | a::l=>Vo (match σ.get a with
  | .row es elems _ pu=>σ.set a (.row es elems false pu)
  | _=>σ) l
variable {r r' : Locs} {D D' : Nat->Prop} {I I' : Imm} {w w' w0:World} {I0:Imm} {B n n' k N:Nat} {pr pr' : Nat->Obj->Prop} {h:Nat->ABlk} {P:Program}
theorem Zhq:∀ (l:List (Nat × List (List AV))) (σ:St),(Zem σ l).next=σ.next+l.length
 | [],σ=>rfl
 | p::l,σ=>by simp only [Zem,Zhq l,St.add,List.length_cons]; omega
theorem Zki:∀ (l:List (Nat × List (List AV))) (σ:St),(Zem σ l).get=Xr σ.get σ.next l
 | [],σ=>by funext i; simp only [Zem,Xr,Hk]; split<;>rfl
 | p::l,σ=>by
  funext i
  simp only [Zem]
  rw [Zki l]
  simp only [Xr,St.get_add,show (σ.add (.row p.1 p.2 true true)).next=σ.next+1 from rfl]
  by_cases h1:σ.next+1<=i
  ·have h2:σ.next<=i:=by omega
   have e:i-σ.next=(i-(σ.next+1))+1:=by omega
   simp only [h1,h2,if_true,e,Gd]
   rw [if_neg (by omega)]
  ·by_cases h2:i=σ.next
   ·subst h2; rw [if_neg h1]; simp
   ·have h3:¬ σ.next<=i:=by omega
    simp [h1,h2,h3]
theorem Zbd:∀ (l:List Nat) (σ:St),(Vo σ l).next=σ.next
 | [],σ=>rfl
 | a::l,σ=>by
  simp only [Vo]
  rw [Zbd l]
  split<;>rfl
theorem Zcj:∀ (l:List Nat) (σ:St),(Vo σ l).get=froz σ.get l
 | [],σ=>by funext i; simp only [Vo,froz,froz.memL,Mx,Oq]; cases σ.get i<;>rfl
 | a::l,σ=>by
  simp only [Vo]
  rw [Zcj l]
  funext i
  simp only [froz,froz.memL]
  cases ha:σ.get a with
  | row es elems mt pu =>
   dsimp only
   rw [St.get_set]
   by_cases e:i=a
   ·subst e; simp [ha]
   ·have:Qs i a=false:=by rw [Qx]; intro hb; exact e (Qh hb)
    rw [if_neg e,this,Wr]
  | map ents =>
   dsimp only
   by_cases e:i=a
   ·subst e; rw [ha]
   ·have:Qs i a=false:=by rw [Qx]; intro hb; exact e (Qh hb)
    rw [this,Wr]
  | set keys =>
   dsimp only
   by_cases e:i=a
   ·subst e; rw [ha]
   ·have:Qs i a=false:=by rw [Qx]; intro hb; exact e (Qh hb)
    rw [this,Wr]
  | dead =>
   dsimp only
   by_cases e:i=a
   ·subst e; rw [ha]
   ·have:Qs i a=false:=by rw [Qx]; intro hb; exact e (Qh hb)
    rw [this,Wr]
def Zys (pc:List AV->Option PRes) (args:List AV) (σ:St) (K:AV->St->Prop):Prop :=
 Got (Zao σ.get args) fun p=>Got (pc p.1) fun res =>
  match p.2 with
  | []=>K (Zi (fun j=>σ.next+j) res.v) (Zem σ res.blks)
  | a::l=>match Vc res.v,res.blks with
   | true,[]=>K res.v σ
   | _,_=>cond (mutL σ.get (a::l)) (K (Zi (fun j=>σ.next+j) res.v) (Zem (Vo σ (a::l)) res.blks)) False
theorem Zaz (H:HR B w0 I0 pr r I D h n w) {args args' : List AV} {l:List Nat} {vs:Array Value} (hv:VRs r I w D args vs) (ha:Zao h args=some (args',l)):VRs r0 (Xe r I h l) w (fun _=>False) args' vs:=by
 have:=Zna H (J:=Xe r I h l) (fun b o hi=>.inl hi) args (vs:=vs.toList) (by simpa using hv.1) (fun i c v hc hv'=>hv.2 i c v hc (by simpa using hv')) ha
  (fun id hid es elems mt pu hr i e j c hi hj=>.inr ⟨id,hid,es,elems,mt,pu,i,e,j,c,hr,hi,hj,rfl,rfl⟩)
 exact ⟨by rw [this.1]; simp,fun i c v hc hv'=>this.2 i c v hc (by simpa using hv')⟩
theorem Zjw (r:Locs) (I:Imm) (h:Nat->ABlk):Xe r I h []=I:=by
 funext b o
 simp [Xe]
theorem Zbt {pc:List AV->Option PRes} {f:FuncId} (hpc:∀ args res,pc args=some res->PCall P f args res) {args:List AV} {σ:St} {K:AV->St->Prop} (hc:Zys pc args σ K):FnOK P f/\SemCall P f args σ K:=by
 obtain ⟨⟨args',l⟩,ha,hc⟩:=Ol hc
 obtain ⟨res,hres,hc⟩:=Ol hc
 obtain ⟨hfn,hcall⟩:=hpc args' res hres
 refine ⟨hfn,fun B w0 I0 pr r I D w vs H hv=>?_⟩
 have hargs:=Zaz H hv ha
 refine (hcall _ w vs (Zci H l) hargs).mono fun e w' hh=>?_
 obtain ⟨x,r',I',rfl,hp⟩:=hh
 have hfresh:∀ j,¬ D (σ.next+j):=fun j hd=>by have:=(H.dom _ hd).1; omega
 have gen:∀ (hm:∀ id∈l,∃ es elems pu,σ.get id = .row es elems true pu) (σ2:St),σ2.get=froz σ.get l->σ2.next=σ.next->K (Zi (fun j=>σ.next+j) res.v) (Zem σ2 res.blks) ->
   ∃ x_1 v σ' r' I' D',Jh x = .returned x_1/\K v σ'/\HR B w0 I0 pr r' I' D' σ'.get σ'.next w'/\VR r' I' w' D' v x_1/\Step r D I w r' D' I' w':=by
  intro hm σ2 h2 h3 hk
  obtain ⟨H1,S1⟩:=H.froz hm
  obtain ⟨r2,D2,_,H2,S2,V2⟩:=H1.call (k:=σ.next) (n':=σ.next+res.blks.length) hp (fun j _=>hfresh j) (by omega) (Qd _)
  refine ⟨x,_,_,r2,I',D2,rfl,hk,?_,V2,S1.trans S2⟩
  rw [Zki,Zhq,h2,h3]
  exact H2
 dsimp only at hc
 cases l with
 | nil =>
  refine gen (fun id hid=>by simp at hid) σ ?_ rfl hc
  funext i; simp only [froz,froz.memL,Mx,Oq]; cases σ.get i<;>rfl
 | cons a l =>
  dsimp only at hc
  have frozen:(cond (mutL σ.get (a::l)) (K (Zi (fun j=>σ.next+j) res.v) (Zem (Vo σ (a::l)) res.blks)) False) ->
   ∃ x_1 v σ' r' I' D',Jh x = .returned x_1/\K v σ'/\HR B w0 I0 pr r' I' D' σ'.get σ'.next w'/\VR r' I' w' D' v x_1/\Step r D I w r' D' I' w':=by
   intro hk
   cases hm:mutL σ.get (a::l) with
   | false=>rw [hm] at hk; exact hk.elim
   | true =>
    rw [hm] at hk
    exact gen (Zca hm) _ (Zcj _ _) (Zbd _ _) hk
  split at hc
  ·rename_i hs hb
   have V:=hp.val.scalar hs r' I w' (fun i=>i<([]:List (Nat × List (List AV))).length)
   have hp2:PPost I w I w' r' ⟨res.v,[]⟩ x:=⟨hp.below,fun _ _ h=>h,fun _ _ h=>.inl h,fun b o hi=>Tc (H.imm b o hi) hp.below.size,fun j p hj=>by simp at hj,fun j j' hj=>by simp at hj,V⟩
   obtain ⟨r2,D2,_,H2,S2,V2⟩:=H.call (k:=σ.next) (n':=σ.next) hp2 (fun j hj=>by simp at hj) (Qd _) (by simp)
   refine ⟨x,res.v,σ,r2,I,D2,rfl,hc,?_,hp.val.scalar hs _ _ _ _,S2⟩
   have:Xr σ.get σ.next (PRes.mk res.v []).blks=σ.get:=by funext i; simp only [Xr,Hk]; split<;>rfl
   rwa [this] at H2
  ·exact frozen hc
def listed:List Nat->Nat->Nat
 | [],_=>0
 | a::_,0=>a
 | _::l,j+1=>listed l j
def Zc1 (res:PRes) (v:AV) (σ:St):Prop :=
 ∃ ids:List Nat,ids.Nodup/\ids.length=res.blks.length/\v=Zi (listed ids) res.v/\∀ j p,res.blks[j]?=some p->σ.get (listed ids j) = .row p.1 p.2 true true
theorem Zox {v:AV} {σ:St} (h:Zi (listed []) v=v):Zc1 ⟨v,[]⟩ v σ:=⟨[],.nil,rfl,h.symm,fun j p hj=>by simp at hj⟩
theorem Zce:∀ (l:List Nat) (j:Nat),j<l.length->l[j]?=some (listed l j)
 | [],j,h=>by simp at h
 | a::l,0,_=>rfl
 | a::l,j+1,h=>by simp [listed,Zce l j (by simpa using h)]
mutual
def Vj (m:Nat):AV->Bool
 | .ptr id _ _ | .asl id _ _ | .bsl id _ _ _ _ | .amap id=>Nat.blt id m
 | .func _ c0 c1=>Uc m c0&&Uc m c1
 | .agg cs=>Uc m cs
 | .tup cs=>Uc m cs
 | _=>true
def Uc (m:Nat):List AV->Bool
 | []=>true
 | c::cs=>Vj m c&&Uc m cs
end
mutual
theorem VR.unren {f:Nat->Nat} {D' : Nat->Prop} {m:Nat} (hf:∀ j,j<m->D' j/\r' j=r (f j)):∀ (v:AV) {x:Value},VR r I w D (Zi f v) x->Vj m v=true->VR r' I w D' v x
 | .any,x,hv,hm=>.any _ _
 | .bool _,x,hv,hm=>by simp only [Zi] at hv; cases hv; exact .bool _ _
 | .int _ _,x,hv,hm=>by simp only [Zi] at hv; cases hv; exact .int _ _ _
 | .flt _ _,x,hv,hm=>by simp only [Zi] at hv; cases hv; exact .flt _ _ _
 | .cpx _ _ _,x,hv,hm=>by simp only [Zi] at hv; cases hv; exact .cpx _ _ _ _
 | .val _ _ _,x,hv,hm=>by simp only [Zi] at hv; cases hv; exact .val _ _ _ _
 | .str _,x,hv,hm=>by simp only [Zi] at hv; cases hv; exact .str _ _
 | .ptr id idx sub,x,hv,hm=>by
  simp only [Vj,Th] at hm
  obtain ⟨h1,h2⟩:=hf id hm
  simp only [Zi] at hv; cases hv; rw [<-h2]; exact .ptr _ _ _ _ h1
 | .ipt cells,x,hv,hm=>by simp only [Zi] at hv; exact (hv.pure rfl).mono ⟨fun _ h=>h.elim,fun _ _ hi=>⟨hi,rfl⟩,Qd _⟩
 | .nilp,x,hv,hm=>by simp only [Zi] at hv; cases hv; exact .nilp _
 | .nils,x,hv,hm=>by simp only [Zi] at hv; cases hv; exact .nils _
 | .asl id idx len,x,hv,hm=>by
  simp only [Vj,Th] at hm
  obtain ⟨h1,h2⟩:=hf id hm
  simp only [Zi] at hv
  cases hv with
  | asl _ _ _ _ hd hc=>rw [<-h2] at hc; rw [<-h2]; exact .asl _ _ _ _ h1 hc
 | .bsl id idx sub len cap,x,hv,hm=>by
  simp only [Vj,Th] at hm
  obtain ⟨h1,h2⟩:=hf id hm
  simp only [Zi] at hv; cases hv; rw [<-h2]; exact .bsl _ _ _ _ _ _ h1
 | .isl es elems,x,hv,hm=>by simp only [Zi] at hv; exact (hv.pure rfl).mono ⟨fun _ h=>h.elim,fun _ _ hi=>⟨hi,rfl⟩,Qd _⟩
 | .amap id,x,hv,hm=>by
  simp only [Vj,Th] at hm
  obtain ⟨h1,h2⟩:=hf id hm
  simp only [Zi] at hv; cases hv; rw [<-h2]; exact .amap _ _ h1
 | .func g c0 c1,x,hv,hm=>by
  simp only [Vj,Qc] at hm
  simp only [Zi] at hv
  cases hv with
  | func _ _ _ _ v0 v1 h0 h1 g0 g1 =>
   exact .func _ _ _ _ _ _ (by rw [Ye] at h0; exact h0) (by rw [Ye] at h1; exact h1) (VR.unrenL hf c0 g0 hm.1) (VR.unrenL hf c1 g1 hm.2)
 | .yld _,x,hv,hm=>by simp only [Zi] at hv; cases hv; exact .yld _ _
 | .agg cs,x,hv,hm=>by
  simp only [Vj] at hm
  simp only [Zi] at hv
  cases hv with
  | agg _ _ vs h0 g=>exact .agg _ _ _ (by rw [Ye] at h0; exact h0) (VR.unrenL hf cs g hm)
 | .tup cs,x,hv,hm=>by
  simp only [Vj] at hm
  simp only [Zi] at hv
  cases hv with
  | tup _ _ vs h0 g=>exact .tup _ _ _ (by rw [Ye] at h0; exact h0) (VR.unrenL hf cs g hm)
theorem VR.unrenL {f:Nat->Nat} {D' : Nat->Prop} {m:Nat} (hf:∀ j,j<m->D' j/\r' j=r (f j)):∀ (cs:List AV) {vs:Array Value},(∀ (i:Nat) (c:AV) (v:Value),(renL f cs)[i]?=some c->vs[i]?=some v->VR r I w D c v)->Uc m cs=true ->
  ∀ (i:Nat) (c:AV) (v:Value),cs[i]?=some c->vs[i]?=some v->VR r' I w D' c v
 | [],vs,g,hm,i,c,v,hc,hv=>by simp at hc
 | a::cs,vs,g,hm,0,c,v,hc,hv=>by
  simp only [Uc,Qc] at hm
  simp only [Wj,Qf] at hc
  subst hc
  exact VR.unren hf a (g 0 _ v (by simp [renL]) hv) hm.1
 | a::cs,vs,g,hm,i+1,c,v,hc,hv=>by
  simp only [Uc,Qc] at hm
  refine VR.unrenL hf cs (vs:=vs.extract 1 vs.size) (fun j c' v' hc' hv'=>?_) hm.2 i c v (by simpa using hc) ?_
  ·refine g (j+1) c' v' (by simpa [renL] using hc') ?_
   rw [Nd] at hv'
   split at hv'
   ·rwa [Gr 1 j] at hv'
   ·cases hv'
  ·rw [Nd,if_pos]
   ·rwa [Gr 1 i]
   ·have:=(Qt.1 hv).1; omega
end
theorem Zmh {cx:Cx} (hcx:CxOK P cx) {hd:Nat->Hd} (hhd:∀ N,HdOK P N (hd N)) {f:FuncId} {fn:Func} (hf:P.funcs[f]?=some fn) (hfn:FnOK P f) {args:List AV} {res:PRes} (hids:Vj res.blks.length res.v=true)
  (hv:Zbq cx hd fn args ⟨[],0⟩ (Zc1 res)):PCall P f args res:=by
 refine ⟨hfn,fun I w vs hI hargs=>?_⟩
 have H:HR w.heap.size w I (fun _ _=>False) r0 I (fun _=>False) (Oh ⟨[],0⟩) 0 w :=
  ⟨Below.refl _ _,Qd _,hI,fun _ h=>h.elim,fun id h=>by simp [Oh,hget,Wi] at h,fun id=>by simp [Oh,hget,BlkOK],fun id id' h=>by simp [Oh,hget,Wi] at h,fun _ _ h=>h.elim,fun _ _ h=>h.elim,fun _ _ h=>.inl h⟩
 refine (Zij hcx hhd hf hv w.heap.size w I (fun _ _=>False) r0 I (fun _=>False) w vs H hargs).mono fun e w' hh=>?_
 obtain ⟨x,v,σ',r',I',D',rfl,⟨ids,hnd,hlen,hren,hrows⟩,H',V',S'⟩:=hh
 refine ⟨x,fun j=>r' (listed ids j),I',rfl,H'.below,fun b o h=>(S'.imm b o h).1,H'.immB,H'.imm,fun j p hj=>?_,fun j j' h1 h2 hne=>?_,?_⟩
 ·have hr:=hrows j p hj
  have hB:=H'.blk (listed ids j)
  have hl:(σ'.get (listed ids j)).live=true:=by rw [hr]; rfl
  have hd:=H'.live _ hl
  rw [hr] at hB
  obtain ⟨g1,g2,g3,cs,T,fz,g4,g5,g6,g7,g8⟩:=hB
  refine ⟨(g7 rfl).1,(H'.dom _ hd).2,g1,g2,g3,cs,T,fz,g4,g5,fun i e j' c hi hj'=>?_,fun _=>g7 rfl,by simp⟩
  obtain ⟨u,a,b⟩:=g6 i e j' c hi hj'
  exact ⟨u,a,b.mono ⟨fun _ h=>by simp at h,fun _ _ h=>⟨h,rfl⟩,Qd _⟩⟩
 ·have h1' : j<ids.length:=by omega
  have h2' : j'<ids.length:=by omega
  have e1:=hrows j _ (Qe h1)
  have e2:=hrows j' _ (Qe h2)
  refine H'.inj _ _ (by rw [e1]; rfl) (by rw [e2]; rfl) (fun e=>hne ?_)
  have q1:=Zce ids j h1'
  have q2:=Zce ids j' h2'
  rw [e] at q1
  exact (List.getElem?_inj h1' hnd).1 (q1.trans q2.symm)
 ·rw [hren] at V'
  exact VR.unren (r:=r') (f:=listed ids) (D':=fun i=>i<res.blks.length) (fun j hj=>⟨hj,rfl⟩) res.v V' hids
variable {r r' : Locs} {D D' : Nat->Prop} {I I' : Imm} {w w' w0:World} {I0:Imm} {B n n' k N:Nat} {pr pr' : Nat->Obj->Prop} {h h' : Nat->ABlk} {P:Program}
def Zr4:AV->List Nat
 | .ptr id _ _=>[id]
 | _=>[]
def Zlr:AV->List Nat
 | .asl id _ _=>[id]
 | _=>[]
def Zlb:AV->List Nat
 | .amap id=>[id]
 | _=>[]
def Zdg:AV->List Nat
 | .asl id _ _=>[id]
 | .bsl id _ _ _ _=>[id]
 | _=>[]
def Ztc (ev:Operand->AV) (c:Call):List Nat:=match c.callee with
 | .builtin .append=>match c.args.toList with
  | [x,y]=>Zdg (ev x)++Zdg (ev y)
  | _=>[]
 | .builtin .copy=>match c.args.toList with
  | [x,y]=>Zdg (ev x)++Zdg (ev y)
  | _=>[]
 | _=>[]
def Ug (ev:Operand->AV):Op->List Nat
 | .lookup _ x _ _=>Zlb (ev x)
 | .mapUpdate _ m _ _=>Zlb (ev m)
 | .insert _ m _ _=>Zlb (ev m)
 | .slice _ x _ _ _=>Zlr (ev x)
 | .call c=>Ztc ev c
 | .load _ a=>Zr4 (ev a)
 | .store _ a _=>Zr4 (ev a)
 | .indexAddr _ x _=>Zlr (ev x)
 | _=>[]
theorem Ut {ev ev' : Operand->AV}:∀ (l:List Operand),(∀ x∈l,ev x=ev' x)->Xg ev l=Xg ev' l
 | [],_=>rfl
 | a::l,h=>by simp only [Xg]; rw [h a (by simp),Ut l (fun x hx=>h x (by simp [hx]))]
theorem Zgj {ev ev' : Operand->AV} (ps:Array (Nat × Operand)) (h:∀ x∈ps.toList.map (·.2),ev x=ev' x):Ur ev ps=Ur ev' ps:=by
 unfold Ur
 refine List.map_congr_left fun p hp=>?_
 rw [h p.2 (List.mem_map.2 ⟨p,hp,rfl⟩)]
theorem Zoh {es:Nat} {v:AV} {i:Int} (hr:∀ id∈Zlr v,h id=h' id):Zbz es h v i=Zbz es h' v i:=by
 cases v<;>simp only [Zbz]
 rename_i id _ _
 rw [hr id (by simp [Zlr])]
theorem Zux {T:Tab} {ok:TypeId->Bool} {ev ev' : Operand->AV} (op:Op) (he:∀ x∈op.operands.toList,ev x=ev' x) (hr:∀ id∈Ug ev op,h id=h' id):aopA T ok k ev h op=aopA T ok k ev' h' op:=by
 cases op<;>simp only [aopA]
 case move x=>rw [he x (by simp [Rj])]
 case assign x=>rw [he x (by simp [Rj])]
 case pick c a b=>rw [he c (by simp [Rj]),he a (by simp [Rj]),he b (by simp [Rj])]
 case box t x=>rw [he x (by simp [Rj])]
 case build t ps=>rw [Zgj ps (fun x hx=>he x (by simpa [Rj] using hx))]
 case buildSlice t len ps=>rw [Zgj ps (fun x hx=>he x (by simpa [Rj] using hx))]
 case load t a =>
  have e:=he a (by simp [Rj])
  rw [<-e]
  cases T t with
  | none=>rfl
  | some ti =>
   cases hx:ev a<;>dsimp only
   rename_i id idx sub
   rw [hr id (by simp [Ug,hx,Zr4])]
 case store t a x =>
  have e:=he a (by simp [Rj])
  rw [<-e,<-he x (by simp [Rj])]
  cases T t with
  | none=>rfl
  | some ti =>
   cases hx:ev a<;>dsimp only
   rename_i id idx sub
   cases cellsOf (ev x)<;>dsimp only
   rw [hr id (by simp [Ug,hx,Zr4])]
 case binOp op t x y ty=>rw [he x (by simp [Rj]),he y (by simp [Rj])]
 case unOp op t x=>rw [he x (by simp [Rj])]
 case convert s d x=>rw [he x (by simp [Rj])]
 case makeFunc fn a b =>
  cases fn<;>simp only
  rw [Ut a.toList (fun x hx=>he x (by simp [Rj]; exact .inl (by simpa using hx))),Ut b.toList (fun x hx=>he x (by simp [Rj]; exact .inr (by simpa using hx)))]
 case fieldAddr t x f=>rw [he x (by simp [Rj])]
 case field t x f=>rw [he x (by simp [Rj])]
 case indexAddr t x i =>
  have e:=he x (by simp [Rj])
  rw [<-e,<-he i (by simp [Rj])]
  have hs:∀ es (j:Int),Zbz es h (ev x) j=Zbz es h' (ev x) j:=fun es j=>Zoh (fun id hid=>hr id (by simpa [Ug] using hid))
  cases T t<;>cases Zei T t<;>cases ev i<;>simp only
  split<;>simp only [hs]
 case index t x i=>rw [he x (by simp [Rj]),he i (by simp [Rj])]
 case extract t i=>rw [he t (by simp [Rj])]
 case nilCheck x=>rw [he x (by simp [Rj])]
 case call c =>
  obtain ⟨callee,args,ts⟩:=c
  have ha:∀ x∈args.toList,ev x=ev' x:=fun x hx=>he x (by
   simp only [Rj,Jb,Jl,Sh]
   exact .inr hx)
  dsimp only
  cases callee with
  | builtin b =>
   cases b<;>simp only [Ut args.toList ha]
   split
   ·rename_i t x ht hx
    rw [ha x (by rw [hx]; simp)]
   ·rfl
  | _=>rfl
theorem Zb3 {es:Nat} {v:AV} (hr:∀ id∈Zdg v,h id=h' id):Yv es h v=Yv es h' v:=by
 cases v<;>simp only [Yv]
 ·rename_i id _ _; rw [hr id (by simp [Zdg])]
 ·rename_i id _ _ _ _; rw [hr id (by simp [Zdg])]
theorem Zre {te:TI} {x y:AV} (hx:∀ id∈Zdg x,h id=h' id) (hy:∀ id∈Zdg y,h id=h' id):Zhp k h te x y=Zhp k h' te x y:=by
 unfold Zhp
 rw [Zb3 hy,Zb3 hx]
 have key:∀ id idx len,x = .asl id idx len->h id=h' id:=fun id idx len e=>hx id (by rw [e]; simp [Zdg])
 cases x<;>first|rfl|skip
 rename_i id idx len
 have e:=key id idx len rfl
 dsimp only
 rw [e]
theorem Zq3 {te:TI} {x y:AV} (hx:∀ id∈Zdg x,h id=h' id) (hy:∀ id∈Zdg y,h id=h' id):Zur h te x y=Zur h' te x y:=by
 unfold Zur
 rw [Zb3 hy]
 have key:∀ id idx len,x = .asl id idx len->h id=h' id:=fun id idx len e=>hx id (by rw [e]; simp [Zdg])
 cases x<;>first|rfl|skip
 rename_i id idx len
 have e:=key id idx len rfl
 dsimp only
 rw [e]
theorem Zl8 {T:Tab} {t:TypeId} {x:AV} {lo hi:Option AV} (hr:∀ id∈Zlr x,h id=h' id):Zg7 T h t x lo hi=Zg7 T h' t x lo hi:=by
 unfold Zg7
 cases x<;>first|rfl|skip
 rename_i id idx len
 have e:=hr id (by simp [Zlr])
 dsimp only
 rw [e]
theorem Zhz {ev ev' : Operand->AV} (o:Option Operand) (ho:∀ x∈o.toList,ev x=ev' x):o.map ev=o.map ev':=by
 cases o with
 | none=>rfl
 | some x=>simp [ho x (by simp)]
theorem Zuw {T:Tab} {ev ev' : Operand->AV} (op:Op) (he:∀ x∈op.operands.toList,ev x=ev' x) (hr:∀ id∈Ug ev op,h id=h' id):aopB T k ev h op=aopB T k ev' h' op:=by
 cases op<;>first|rfl|(unfold aopB; try dsimp only)
 case makeMap t q=>cases q<;>rfl
 case makeSlice t l c=>rw [he l (by simp [Rj])]
 case binOp op t x y ty=>rw [he x (by simp [Rj]),he y (by simp [Rj])]
 case convert s d x=>rw [he x (by simp [Rj])]
 case lookup t x i c =>
  have e:=he x (by simp [Rj])
  rw [<-e,<-he i (by simp [Rj])]
  cases hx:ev x<;>first|rfl|skip
  rename_i id
  have e2:=hr id (by simp [Ug,hx,Zlb])
  cases ev i<;>first|rfl|(dsimp only; rw [e2])
 case mapUpdate t m x v =>
  have e:=he m (by simp [Rj])
  rw [<-e,<-he x (by simp [Rj]),<-he v (by simp [Rj])]
  cases hx:ev m<;>first|rfl|skip
  rename_i id
  have e2:=hr id (by simp [Ug,hx,Zlb])
  cases ev x<;>first|rfl|skip
  cases ev v<;>first|rfl|skip
  rename_i b
  cases b<;>first|rfl|(dsimp only; rw [e2])
 case insert t m x v =>
  have e:=he m (by simp [Rj])
  rw [<-e,<-he x (by simp [Rj]),<-he v (by simp [Rj])]
  cases hx:ev m<;>first|rfl|skip
  rename_i id
  have e2:=hr id (by simp [Ug,hx,Zlb])
  cases ev x<;>first|rfl|skip
  cases ev v<;>first|rfl|skip
  rename_i b
  cases b<;>first|rfl|(dsimp only; rw [e2])
 case slice t x lo hi mx =>
  cases mx with
  | some _=>rfl
  | none =>
   dsimp only
   rw [<-he x (by simp [Rj]),<-Zhz lo (fun y hy=>he y (by simp [Rj] at *; simp [hy])),<-Zhz hi (fun y hy=>he y (by simp [Rj] at *; simp [hy])),Zl8 hr]
 case call c =>
  obtain ⟨callee,args,ts⟩:=c
  dsimp only
  have ha:∀ x∈args.toList,ev x=ev' x:=fun x hx=>he x (by
   simp only [Rj,Jb,Jl,Sh]
   exact .inr hx)
  cases callee with
  | builtin b =>
   cases b<;>first|rfl|skip
   case copy =>
    dsimp only
    simp only [Ug,Ztc] at hr
    split
    ·rename_i t tx x y ht hx
     rw [hx] at hr ha
     have hr1:∀ id∈Zdg (ev x)++Zdg (ev y),h id=h' id:=hr
     rw [<-ha x (by simp),<-ha y (by simp)]
     have:=fun te=>Zq3 (te:=te) (x:=ev x) (y:=ev y) (fun id hid=>hr1 id (by simp [hid])) (fun id hid=>hr1 id (by simp [hid]))
     simp only [this]
    ·rfl
   case complex =>
    dsimp only
    split
    ·rename_i x y hx
     rw [hx] at ha
     rw [<-ha x (by simp),<-ha y (by simp)]
    ·rfl
   case real =>
    dsimp only
    split
    ·rename_i x hx
     rw [hx] at ha
     rw [<-ha x (by simp)]
    ·rfl
   case imag =>
    dsimp only
    split
    ·rename_i x hx
     rw [hx] at ha
     rw [<-ha x (by simp)]
    ·rfl
   dsimp only
   simp only [Ug,Ztc] at hr
   split
   ·rename_i t tx x y ht hx
    rw [hx] at hr ha
    have hr1:∀ id∈Zdg (ev x)++Zdg (ev y),h id=h' id:=hr
    rw [<-ha x (by simp),<-ha y (by simp)]
    have:=fun te=>Zre (k:=k) (te:=te) (x:=ev x) (y:=ev y) (fun id hid=>hr1 id (by simp [hid])) (fun id hid=>hr1 id (by simp [hid]))
    simp only [this]
   ·rfl
  | _=>rfl
theorem Zy8 {T:Tab} {ok:TypeId->Bool} {ev ev' : Operand->AV} (op:Op) (he:∀ x∈op.operands.toList,ev x=ev' x) (hr:∀ id∈Ug ev op,h id=h' id):aop T ok k ev h op=aop T ok k ev' h' op:=by
 unfold aop
 rw [Zux op he hr,Zuw op he hr]
theorem Znr {ev ev' : Operand->AV} (op:Op) (he:∀ x∈op.operands.toList,ev x=ev' x):Ug ev op=Ug ev' op:=by
 cases op<;>simp only [Ug]
 case load=>rw [he _ (by simp [Rj])]
 case store=>rw [he _ (by simp [Rj])]
 case indexAddr=>rw [he _ (by simp [Rj])]
 case lookup=>rw [he _ (by simp [Rj])]
 case mapUpdate=>rw [he _ (by simp [Rj])]
 case insert=>rw [he _ (by simp [Rj])]
 case slice=>rw [he _ (by simp [Rj])]
 case call c =>
  obtain ⟨callee,args,ts⟩:=c
  unfold Ztc
  dsimp only
  have ha:∀ x∈args.toList,ev x=ev' x:=fun x hx=>he x (by
   simp only [Rj,Jb,Jl,Sh]
   exact .inr hx)
  split
  ·split
   ·rename_i x y hx
    rw [hx] at ha
    rw [ha x (by simp),ha y (by simp)]
   ·rfl
  ·split
   ·rename_i x y hx
    rw [hx] at ha
    rw [ha x (by simp),ha y (by simp)]
   ·rfl
  ·rfl
def Zno (rr:List AV->List Nat):List (List AV)->List Nat
 | []=>[]
 | e::es=>rr e++Zno rr es
mutual
def Za7 (rr:List AV->List Nat) (h:Nat->ABlk):AV->List Nat
 | .asl id idx len=>id::(match h id with
  | .row _ elems _ false=>Zno rr ((elems.drop idx).take len)
  | _=>[])
 | .ptr id idx _=>id::(match h id with
  | .row _ elems _ false=>match elems[idx]? with
   | some cells=>rr cells
   | none=>[]
  | _=>[])
 | .func _ c0 c1=>Uq rr h c0++Uq rr h c1
 | .agg cs=>Uq rr h cs
 | .tup cs=>Uq rr h cs
 | _=>[]
def Uq (rr:List AV->List Nat) (h:Nat->ABlk):List AV->List Nat
 | []=>[]
 | c::cs=>Za7 rr h c++Uq rr h cs
end
def rrN (h:Nat->ABlk):Nat->List AV->List Nat
 | 0=>fun _=>[]
 | d+1=>Uq (rrN h d) h
def Zak (h:Nat->ABlk) (cs:List AV):List Nat:=Uq (rrN h 3) h cs
def RC (rv rv' : List AV->Option (List AV × List Nat)) (rr rr' : List AV->List Nat) (h h' : Nat->ABlk):Prop:=∀ cs,(∀ id∈rr cs,h id=h' id)->rv cs=rv' cs/\rr cs=rr' cs
theorem Zjb {rv rv' : List AV->Option (List AV × List Nat)} {rr rr' : List AV->List Nat} (hc:RC rv rv' rr rr' h h'):∀ (es:List (List AV)),(∀ id∈Zno rr es,h id=h' id)->Zbm rv es=Zbm rv' es/\Zno rr es=Zno rr' es
 | [],_=>⟨rfl,rfl⟩
 | e::es,hr=>by
  obtain ⟨a1,a2⟩:=hc e (fun id hid=>hr id (by simp [Zno,hid]))
  obtain ⟨b1,b2⟩:=Zjb hc es (fun id hid=>hr id (by simp [Zno,hid]))
  simp only [Zbm,Zno,a1,a2,b1,b2,and_self]
mutual
theorem Zpq {rv rv' : List AV->Option (List AV × List Nat)} {rr rr' : List AV->List Nat} (hc:RC rv rv' rr rr' h h'):∀ (a:AV),(∀ id∈Za7 rr h a,h id=h' id)->Ve rv h a=Ve rv' h' a/\Za7 rr h a=Za7 rr' h' a
 | .asl id idx len,hr=>by
  have e:=hr id (by simp [Za7])
  simp only [Ve,Za7] at hr ⊢
  rw [<-e]
  cases hb:h id with
  | row es elems mt pu =>
   cases pu with
   | true=>exact ⟨rfl,rfl⟩
   | false =>
    rw [hb] at hr
    obtain ⟨a1,a2⟩:=Zjb hc ((elems.drop idx).take len) (fun q hq=>hr q (by simp [hq]))
    simp only [a1,a2,and_self]
  | _=>exact ⟨rfl,rfl⟩
 | .ptr id idx sub,hr=>by
  have e:=hr id (by simp [Za7])
  simp only [Ve,Za7] at hr ⊢
  rw [<-e]
  cases hb:h id with
  | row es elems mt pu =>
   cases pu with
   | true=>exact ⟨rfl,rfl⟩
   | false =>
    rw [hb] at hr
    cases hx:elems[idx]? with
    | none=>exact ⟨by cases sub<;>simp only [hx],by simp only [hx]⟩
    | some cells =>
     obtain ⟨a1,a2⟩:=hc cells (fun q hq=>hr q (by simp [hx,hq]))
     simp only [hx,a1,a2,and_self]
  | _=>exact ⟨by cases sub<;>rfl,rfl⟩
 | .agg cs,hr=>by
  obtain ⟨a1,a2⟩:=Xv hc cs (by simpa [Za7] using hr)
  simp only [Ve,Za7,a1,a2,and_self]
 | .tup cs,hr=>by
  obtain ⟨a1,a2⟩:=Xv hc cs (by simpa [Za7] using hr)
  simp only [Ve,Za7,a1,a2,and_self]
 | .any,_=>⟨rfl,rfl⟩
 | .bool _,_=>⟨rfl,rfl⟩
 | .int _ _,_=>⟨rfl,rfl⟩
 | .flt _ _,_=>⟨rfl,rfl⟩
 | .cpx _ _ _,_=>⟨rfl,rfl⟩
 | .val _ _ _,_=>⟨rfl,rfl⟩
 | .str _,_=>⟨rfl,rfl⟩
 | .ipt _,_=>⟨rfl,rfl⟩
 | .nilp,_=>⟨rfl,rfl⟩
 | .nils,_=>⟨rfl,rfl⟩
 | .bsl _ _ _ _ _,_=>⟨rfl,rfl⟩
 | .isl _ _,_=>⟨rfl,rfl⟩
 | .amap _,_=>⟨rfl,rfl⟩
 | .func _ c0 c1,hr=>by
  obtain ⟨a1,a2⟩:=Xv hc c0 (fun id hid=>hr id (by simp [Za7,hid]))
  obtain ⟨b1,b2⟩:=Xv hc c1 (fun id hid=>hr id (by simp [Za7,hid]))
  simp only [Ve,Za7,a1,a2,b1,b2,and_self]
 | .yld _,_=>⟨rfl,rfl⟩
theorem Xv {rv rv' : List AV->Option (List AV × List Nat)} {rr rr' : List AV->List Nat} (hc:RC rv rv' rr rr' h h'):∀ (cs:List AV),(∀ id∈Uq rr h cs,h id=h' id)->Za0 rv h cs=Za0 rv' h' cs/\Uq rr h cs=Uq rr' h' cs
 | [],_=>⟨rfl,rfl⟩
 | c::cs,hr=>by
  obtain ⟨a1,a2⟩:=Zpq hc c (fun id hid=>hr id (by simp [Uq,hid]))
  obtain ⟨b1,b2⟩:=Xv hc cs (fun id hid=>hr id (by simp [Uq,hid]))
  simp only [Za0,Uq,a1,a2,b1,b2,and_self]
end
theorem rcN:∀ d,RC (rvN h d) (rvN h' d) (rrN h d) (rrN h' d) h h'
 | 0=>fun cs _=>⟨rfl,rfl⟩
 | d+1=>fun cs hr=>Xv (rcN d) cs hr
theorem Ziq (cs:List AV) (hr:∀ id∈Zak h cs,h id=h' id):Zao h cs=Zao h' cs/\Zak h cs=Zak h' cs:=Xv (rcN 3) cs hr
structure Rec where
 o:Oper
 k:Nat
 cnt:Nat
 v:AV
 puts:List (Nat × ABlk)
 rd:List Nat
def Eff.puts (k:Nat):Eff->List (Nat × ABlk)
 | .none=>[]
 | .add b=>[(k,b)]
 | .put id b=>[(id,b)]
 | .app id b=>[(k,b),(id,.dead)]
def Xj:Nat->List (Nat × List (List AV))->List (Nat × ABlk)
 | _,[]=>[]
 | k,p::l=>(k,.row p.1 p.2 true true)::Xj (k+1) l
def look:List (Nat × ABlk)->Nat->Option ABlk
 | [],_=>none
 | (j,b)::l,i=>cond (Qs i j) (some b) (look l i)
def hput (h:Nat->ABlk) (l:List (Nat × ABlk)):Nat->ABlk:=fun i=>match look l i with
 | some b=>b
 | none=>h i
theorem look_none {l:List (Nat × ABlk)} {i:Nat}:look l i=none↔i∉l.map (·.1):=by
 induction l with
 | nil=>simp [look]
 | cons a l ih =>
  obtain ⟨j,b⟩:=a
  simp only [look,List.map_cons,Ra]
  by_cases e:i=j
  ·subst e; simp
  ·have:Qs i j=false:=by rw [Qx]; intro hb; exact e (Qh hb)
   rw [this]; simp [e,ih]
theorem Eff.go_puts (k:Nat) (h:Nat->ABlk) (e:Eff):e.go k h=hput h (e.puts k):=by
 cases e<;>funext i<;>simp only [Eff.go,Eff.puts,hput,look,hupd]
 ·by_cases e:i=k
  ·subst e; simp
  ·have:Qs i k=false:=by rw [Qx]; intro hb; exact e (Qh hb)
   simp [this,e]
 ·rename_i id b
  by_cases e:i=id
  ·subst e; simp
  ·have:Qs i id=false:=by rw [Qx]; intro hb; exact e (Qh hb)
   simp [this,e]
 ·rename_i id b
  by_cases e:i=k
  ·subst e; simp
  ·have h1:Qs i k=false:=by rw [Qx]; intro hb; exact e (Qh hb)
   by_cases e2:i=id
   ·subst e2; simp [h1,e]
   ·have h2:Qs i id=false:=by rw [Qx]; intro hb; exact e2 (Qh hb)
    simp [h1,h2,e,e2]
theorem Zhv:∀ (l:List (Nat × List (List AV))) (k i:Nat),look (Xj k l) i=if k<=i then (l[i-k]?).map (fun p=>.row p.1 p.2 true true) else none
 | [],k,i=>by simp [Xj,look]
 | p::l,k,i=>by
  simp only [Xj,look]
  by_cases e:i=k
  ·subst e; simp
  ·have h1:Qs i k=false:=by rw [Qx]; intro hb; exact e (Qh hb)
   rw [h1,cond_false,Zhv l]
   by_cases h2:k+1<=i
   ·rw [if_pos h2,if_pos (by omega),show i-k=(i-(k+1))+1 by omega]; simp
   ·rw [if_neg h2,if_neg (by omega)]
theorem Zh5 (l:List (Nat × List (List AV))) (k:Nat) (h:Nat->ABlk):Xr h k l=hput h (Xj k l):=by
 funext i
 simp only [Xr,hput,Zhv]
 by_cases h1:k<=i
 ·rw [if_pos h1,if_pos h1]; cases l[i-k]?<;>rfl
 ·rw [if_neg h1,if_neg h1]
def Yeq:ABlk->ABlk
 | .row es elems _ pu=>.row es elems false pu
 | b=>b
def Vr (h:Nat->ABlk):List Nat->List (Nat × ABlk)
 | []=>[]
 | a::l=>(a,Yeq (h a))::Vr h l
theorem Zqa (l m:List (Nat × ABlk)) (i:Nat):look (l++m) i=match look l i with
  | some b=>some b
  | none=>look m i:=by
 induction l with
 | nil=>rfl
 | cons a l ih =>
  obtain ⟨j,b⟩:=a
  simp only [Ok,look]
  cases Qs i j
  ·simpa using ih
  ·rfl
theorem Zgf (h:Nat->ABlk) (i:Nat):∀ l:List Nat,look (Vr h l) i=cond (froz.memL l i) (some (Yeq (h i))) none
 | []=>rfl
 | a::l=>by
  simp only [Vr,look,froz.memL]
  cases e:Qs i a with
  | true=>rw [Qh e]; rfl
  | false=>simpa using Zgf h i l
theorem Zez {h h' : Nat->ABlk}:∀ {l:List Nat},(∀ id∈l,h id=h' id)->Vr h l=Vr h' l/\mutL h l=mutL h' l
 | [],_=>⟨rfl,rfl⟩
 | a::l,hl=>by
  obtain ⟨e1,e2⟩:=Zez (h:=h) (h':=h') (l:=l) (fun id hid=>hl id (by simp [hid]))
  exact ⟨by simp only [Vr,e1,hl a (by simp)],by simp only [mutL,e2,hl a (by simp)]⟩
theorem Zpk (l:List (Nat × List (List AV))) (k:Nat) (h:Nat->ABlk) (m:List Nat):Xr (froz h m) k l=hput h (Xj k l++Vr h m):=by
 rw [Zh5]
 funext i
 simp only [hput,Zqa,Zgf]
 cases look (Xj k l) i with
 | some b=>rfl
 | none =>
  dsimp only
  simp only [froz]
  cases froz.memL m i with
  | true=>cases h i<;>simp [Yeq]
  | false=>cases h i<;>simp
def evF (ef:Nat->AV):Operand->AV
 | .tmp t=>ef t
 | x=>evC x
theorem Yhg (env:Env) (x:Operand):evA env x=evF env.get x:=by cases x<;>rfl
def Ziw:List Operand->List Nat
 | []=>[]
 | .tmp t::l=>t::Ziw l
 | _::l=>Ziw l
theorem Zk1 {t:Nat}:∀ {l:List Operand},Operand.tmp t∈l->t∈Ziw l
 | a::l,h=>by
  rcases Ra.1 h with rfl|h2
  ·simp [Ziw]
  ·have ih:=Zk1 h2
   cases a<;>simp only [Ziw,Ra]
   ·exact .inr ih
   all_goals exact ih
def slots (ops:List Oper) (o:Oper):List Nat:=Ziw o.op.operands.toList++(match o.guard with
 | some (j,_)=>(Yq ops j).toList
 | none=>[])
theorem Zx4 {ef ef' : Nat->AV} {l:List Operand} (he:∀ t∈Ziw l,ef t=ef' t):∀ x∈l,evF ef x=evF ef' x:=by
 intro x hx
 cases x with
 | tmp t=>exact he t (Zk1 hx)
 | _=>rfl
def Zkj (ops:List Oper) (o:Oper) (ef:Nat->AV):Option Bool :=
 match o.guard with
 | none=>some true
 | some (j,want)=>match Yq ops j with
  | none=>none
  | some t=>match ef t with
   | .bool b=>some (b==want)
   | .tup []=>some false
   | _=>none
abbrev PC:=FuncId->List AV->Option PRes
def Runs (cx:Cx) (pc:PC) (x:Rec) (ef:Nat->AV) (h:Nat->ABlk):Prop :=
 (∃ e,aop cx.T cx.ok x.k (evF ef) h x.o.op=some (x.v,e)/\x.puts=e.puts x.k/\x.cnt=1/\x.rd=Ug (evF ef) x.o.op) \/
 (∃ f args ts g c0 c1 aZ l res,x.o.op = .call { callee:=.value f,args:=args,argTypes:=ts }/\evF ef f = .func g c0 c1/\Zao h ((c0++Xg (evF ef) args.toList)++c1)=some (aZ,l)/\pc g aZ=some res /\
  (l=[]\/(Vc res.v=true/\res.blks=[]))/\x.v=Zi (fun j=>x.k+j) res.v/\x.puts=Xj x.k res.blks/\x.cnt=res.blks.length+1/\x.rd=Zak h ((c0++Xg (evF ef) args.toList)++c1)) \/
 (∃ f args ts g c0 c1 aZ l res,x.o.op = .call { callee:=.value f,args:=args,argTypes:=ts }/\evF ef f = .func g c0 c1/\Zao h ((c0++Xg (evF ef) args.toList)++c1)=some (aZ,l)/\pc g aZ=some res /\
  mutL h l=true/\x.v=Zi (fun j=>x.k+j) res.v/\x.puts=Xj x.k res.blks++Vr h l/\x.cnt=res.blks.length+1/\x.rd=Zak h ((c0++Xg (evF ef) args.toList)++c1)++l)
structure RecAt (cx:Cx) (pc:PC) (N:Nat) (ops:List Oper) (x:Rec) (ef:Nat->AV) (h:Nat->ABlk):Prop where
 dst:∀ d,x.o.dst=some d->d<N
 run:∃ b,Zkj ops x.o ef=some b/\(b=true->Runs cx pc x ef h)/\(b=false->x.v = .tup []/\x.puts=[]/\x.cnt=1)
theorem RecAt.congr {cx:Cx} {pc:PC} {ops:List Oper} {x:Rec} {ef ef' : Nat->AV} (hx:RecAt cx pc N ops x ef h) (he:∀ t∈slots ops x.o,ef t=ef' t) (hh:∀ id∈x.rd,h id=h' id):RecAt cx pc N ops x ef' h':=by
 obtain ⟨hd,b,h1,h2,h3⟩:=hx
 refine ⟨hd,b,?_,fun hb=>?_,h3⟩
 ·rw [<-h1]
  unfold Zkj
  cases hg:x.o.guard with
  | none=>rfl
  | some jw =>
   obtain ⟨j,want⟩:=jw
   dsimp only
   cases ht:Yq ops j with
   | none=>rfl
   | some t=>dsimp only; rw [he t (by simp [slots,hg,ht])]
 ·have hops:∀ y∈x.o.op.operands.toList,evF ef y=evF ef' y:=Zx4 (fun t ht=>he t (by simp [slots,ht]))
  rcases h2 hb with ⟨e,g1,g2,g3,g4⟩|⟨f,args,ts,g,c0,c1,aZ,l,res,g1,g2,g3,g4,g5,g6,g7,g8,g9⟩|⟨f,args,ts,g,c0,c1,aZ,l,res,g1,g2,g3,g4,g5,g6,g7,g8,g9⟩
  ·refine .inl ⟨e,?_,g2,g3,?_⟩
   ·rw [<-g1]
    exact (Zy8 x.o.op hops (fun id hid=>hh id (by rw [g4]; exact hid))).symm
   ·rw [g4]
    exact Znr x.o.op hops
  ·have ho:x.o.op.operands.toList=f::args.toList:=by rw [g1]; simp [Rj,Jb]
   rw [ho] at hops
   have e1:evF ef' f=evF ef f:=(hops f (by simp)).symm
   have e2:Xg (evF ef') args.toList=Xg (evF ef) args.toList:=(Ut _ (fun y hy=>hops y (by simp [hy]))).symm
   have hvc:=Ziq ((c0++Xg (evF ef) args.toList)++c1) (fun id hid=>hh id (by rw [g9]; exact hid))
   refine .inr (.inl ⟨f,args,ts,g,c0,c1,aZ,l,res,g1,by rw [e1]; exact g2,?_,g4,g5,g6,g7,g8,by rw [e2,<-hvc.2]; exact g9⟩)
   rw [e2,<-g3]
   exact hvc.1.symm
  ·have ho:x.o.op.operands.toList=f::args.toList:=by rw [g1]; simp [Rj,Jb]
   rw [ho] at hops
   have e1:evF ef' f=evF ef f:=(hops f (by simp)).symm
   have e2:Xg (evF ef') args.toList=Xg (evF ef) args.toList:=(Ut _ (fun y hy=>hops y (by simp [hy]))).symm
   have hvc:=Ziq ((c0++Xg (evF ef) args.toList)++c1) (fun id hid=>hh id (by rw [g9]; exact Fq _ hid))
   obtain ⟨e3,e4⟩:=Zez (h:=h) (h':=h') (l:=l) (fun id hid=>hh id (by rw [g9]; exact Fe _ hid))
   refine .inr (.inr ⟨f,args,ts,g,c0,c1,aZ,l,res,g1,by rw [e1]; exact g2,?_,g4,by rw [<-e4]; exact g5,g6,by rw [<-e3]; exact g7,g8,by rw [e2,<-hvc.2]; exact g9⟩)
   rw [e2,<-g3]
   exact hvc.1.symm
def eput (ef:Nat->AV) (x:Rec):Nat->AV:=fun t=>match x.o.dst with
 | some d=>if t=d then x.v else ef t
 | none=>ef t
def hF:List Rec->(Nat->Bool)->(Nat->ABlk)->Nat->ABlk
 | [],_,h=>h
 | x::l,S,h=>hF l (fun i=>S (i+1)) (if S 0 then hput h x.puts else h)
def eF:List Rec->(Nat->Bool)->(Nat->AV)->Nat->AV
 | [],_,e=>e
 | x::l,S,e=>eF l (fun i=>S (i+1)) (if S 0 then eput e x else e)
theorem Yae (id:Nat):∀ (l:List Rec) (S S' : Nat->Bool) (h h' : Nat->ABlk),h id=h' id->(∀ q y,l[q]?=some y->S q=S' q\/id∉y.puts.map (·.1))->hF l S h id=hF l S' h' id
 | [],S,S',h,h',e,_=>e
 | x::l,S,S',h,h',e,hq=>by
  simp only [hF]
  refine Yae id l _ _ _ _ ?_ (fun q y hy=>hq (q+1) y (by simpa using hy))
  have hp:∀ g:Nat->ABlk,id∉x.puts.map (·.1)->hput g x.puts id=g id:=fun g hn=>by simp [hput,look_none.2 hn]
  rcases hq 0 x rfl with h0|h0
  ·rw [h0]
   by_cases hs:S' 0=true
   ·simp only [hs,if_true,hput,e]
   ·simp only [hs,if_false,Rs]; exact e
  ·split<;>split<;>simp only [hp _ h0,e]
theorem Yan (t:Nat):∀ (l:List Rec) (S S' : Nat->Bool) (e e' : Nat->AV),e t=e' t->(∀ q y,l[q]?=some y->S q=S' q\/y.o.dst≠some t)->eF l S e t=eF l S' e' t
 | [],S,S',e,e',h,_=>h
 | x::l,S,S',e,e',h,hq=>by
  simp only [eF]
  refine Yan t l _ _ _ _ ?_ (fun q y hy=>hq (q+1) y (by simpa using hy))
  have hp:∀ g:Nat->AV,x.o.dst≠some t->eput g x t=g t:=fun g hn=>by
   unfold eput
   split
   ·rename_i d hd
    have:t≠d:=fun e=>hn (by rw [hd,e])
    simp [this]
   ·rfl
  rcases hq 0 x rfl with h0|h0
  ·rw [h0]
   by_cases hs:S' 0=true
   ·simp only [hs,if_true,eput,h]
   ·simp only [hs,if_false,Rs]; exact h
  ·split<;>split<;>simp only [hp _ h0,h]
def setS (S:Nat->Bool) (p:Nat):Nat->Bool:=fun i=>if i=p then true else S i
theorem Zxf {h:Nat->ABlk} {l m:List (Nat × ABlk)} (hd:∀ i∈l.map (·.1),i∉m.map (·.1)):hput (hput h l) m=hput (hput h m) l:=by
 funext i
 by_cases h1:i∈l.map (·.1)
 ·have:=look_none.2 (hd i h1)
  simp only [hput,this]
 ·have:=look_none.2 h1
  simp only [hput,this]
theorem Zqk (x:Rec):∀ (l:List Rec) (S:Nat->Bool) (h:Nat->ABlk),(∀ q y,l[q]?=some y->S q=true->∀ i∈x.puts.map (·.1),i∉y.puts.map (·.1))->hF l S (hput h x.puts)=hput (hF l S h) x.puts
 | [],S,h,_=>rfl
 | y::l,S,h,hq=>by
  simp only [hF]
  by_cases hs:S 0=true
  ·simp only [hs,if_true]
   rw [Zxf (hq 0 y rfl hs)]
   exact Zqk x l _ _ (fun q z hz hsz=>hq (q+1) z (by simpa using hz) hsz)
  ·simp only [hs,if_false,Rs]
   exact Zqk x l _ _ (fun q z hz hsz=>hq (q+1) z (by simpa using hz) hsz)
theorem Zqz (x:Rec):∀ (l:List Rec) (S:Nat->Bool) (e:Nat->AV),(∀ q y,l[q]?=some y->S q=true->∀ d,x.o.dst=some d->y.o.dst≠some d)->eF l S (eput e x)=eput (eF l S e) x
 | [],S,h,_=>rfl
 | y::l,S,h,hq=>by
  simp only [eF]
  have hc:S 0=true->eput (eput h x) y=eput (eput h y) x:=fun hs=>by
   funext t
   have:=hq 0 y rfl hs
   unfold eput
   cases hx:x.o.dst with
   | none=>rfl
   | some d =>
    cases hy:y.o.dst with
    | none=>rfl
    | some d' =>
     have h2:=this d hx
     rw [hy] at h2
     have h3:d'≠d:=fun e=>h2 (by rw [e])
     dsimp only
     by_cases e1:t=d'
     ·subst e1; rw [if_pos rfl,if_neg h3]; rw [if_pos rfl]
     ·rw [if_neg e1]; by_cases e2:t=d<;>simp [e2,e1]
  by_cases hs:S 0=true
  ·simp only [hs,if_true]
   rw [hc hs]
   exact Zqz x l _ _ (fun q z hz hsz=>hq (q+1) z (by simpa using hz) hsz)
  ·simp only [hs,if_false,Rs]
   exact Zqz x l _ _ (fun q z hz hsz=>hq (q+1) z (by simpa using hz) hsz)
theorem Zxj (l:List Rec):∀ (S:Nat->Bool) (h:Nat->ABlk) (p:Nat) (x:Rec),l[p]?=some x->S p=false->(∀ q y,p<q->l[q]?=some y->S q=true->∀ i∈x.puts.map (·.1),i∉y.puts.map (·.1))->hF l (setS S p) h=hput (hF l S h) x.puts:=by
 induction l with
 | nil=>intro S h p x hx; simp at hx
 | cons y l ih =>
  intro S h p x hx hs hq
  cases p with
  | zero =>
   simp only [Wj,Qf] at hx
   subst hx
   have e1:(fun i=>setS S 0 (i+1))=fun i=>S (i+1):=by funext i; simp [setS]
   have e2:setS S 0 0=true:=by simp [setS]
   simp only [hF,e1,e2,hs,if_true,Rs,if_false]
   exact Zqk y l _ h (fun q z hz hsz=>hq (q+1) z (by omega) (by simpa using hz) hsz)
  | succ p =>
   have e1:(fun i=>setS S (p+1) (i+1))=setS (fun i=>S (i+1)) p:=by funext i; simp [setS]
   have e2:setS S (p+1) 0=S 0:=by simp [setS]
   simp only [hF,e1,e2]
   exact ih _ _ p x (by simpa using hx) hs (fun q z hlt hz hsz=>hq (q+1) z (by omega) (by simpa using hz) hsz)
theorem Zyd (l:List Rec):∀ (S:Nat->Bool) (h:Nat->AV) (p:Nat) (x:Rec),l[p]?=some x->S p=false->(∀ q y,p<q->l[q]?=some y->S q=true->∀ d,x.o.dst=some d->y.o.dst≠some d)->eF l (setS S p) h=eput (eF l S h) x:=by
 induction l with
 | nil=>intro S h p x hx; simp at hx
 | cons y l ih =>
  intro S h p x hx hs hq
  cases p with
  | zero =>
   simp only [Wj,Qf] at hx
   subst hx
   have e1:(fun i=>setS S 0 (i+1))=fun i=>S (i+1):=by funext i; simp [setS]
   have e2:setS S 0 0=true:=by simp [setS]
   simp only [eF,e1,e2,hs,if_true,Rs,if_false]
   exact Zqz y l _ h (fun q z hz hsz=>hq (q+1) z (by omega) (by simpa using hz) hsz)
  | succ p =>
   have e1:(fun i=>setS S (p+1) (i+1))=setS (fun i=>S (i+1)) p:=by funext i; simp [setS]
   have e2:setS S (p+1) 0=S 0:=by simp [setS]
   simp only [eF,e1,e2]
   exact ih _ _ p x (by simpa using hx) hs (fun q z hlt hz hsz=>hq (q+1) z (by omega) (by simpa using hz) hsz)
variable {r r' : Locs} {D D' D0:Nat->Prop} {I I' : Imm} {w w' w0:World} {I0:Imm} {B n n' k N:Nat} {pr pr' : Nat->Obj->Prop} {h h' : Nat->ABlk} {P:Program}
structure Indep (ops:List Oper) (x y:Rec):Prop where
 tt:∀ i∈x.puts.map (·.1),i∉y.puts.map (·.1)
 tr:∀ i∈x.puts.map (·.1),i∉y.rd
 rt:∀ i∈x.rd,i∉y.puts.map (·.1)
 ds:∀ d,x.o.dst=some d->d∉slots ops y.o/\y.o.dst≠some d
 sd:∀ d,y.o.dst=some d->d∉slots ops x.o
structure DInv (B:Nat) (w0:World) (I0:Imm) (pr:Nat->Obj->Prop) (N:Nat) (recs:List Rec) (ef0:Nat->AV) (h0:Nat->ABlk) (D0:Nat->Prop) (nf:Nat) (r0:Locs) (Is:Imm) (ws:World) (ds:List Deferred) (S:Nat->Bool) (a:Act) (w:World):Prop where
 ex:∃ r I D,HR B w0 I0 pr r I D (hF recs S h0) nf w/\(∀ id,D id->D0 id\/∃ q x,recs[q]?=some x/\S q=true/\x.k<=id/\id<x.k+x.cnt)/\a.tmps.size=N /\
  (∀ t,VR r I w D (eF recs S ef0 t) (a.tmps.getD t undef))/\Step r0 D0 Is ws r D I w
 df:a.defers=ds
theorem Ztj {ops:List Oper} {o:Oper} {ef:Nat->AV} {b:Bool} {tmps:Array Value} (hw:Zkj ops o ef=some b) (ht:∀ t,VR r I w D (ef t) (tmps.getD t undef)):Pq o (yielded ops.toArray tmps)=b:=by
 unfold Zkj at hw
 cases hg:o.guard with
 | none=>rw [hg] at hw; simp only [Qf] at hw; subst hw; simp [Pq,hg]
 | some jw =>
  obtain ⟨j,want⟩:=jw
  rw [hg] at hw
  dsimp only at hw
  have hwant:Pq o (yielded ops.toArray tmps)=(yielded ops.toArray tmps j==some want):=by simp [Pq,hg]
  rw [hwant]
  cases hj:Yq ops j with
  | none=>rw [hj] at hw; cases hw
  | some t =>
   rw [hj] at hw
   dsimp only at hw
   have htv:=ht t
   by_cases hts:t<tmps.size
   ·rw [Zg1 hj ⟨tmps,[]⟩ hts]
    dsimp only
    split at hw
    ·rename_i c hc
     simp only [Qf] at hw
     subst hw
     rw [hc] at htv
     have hval:tmps.getD t undef = .bool c:=by generalize tmps.getD t undef=z at htv; cases htv; rfl
     rw [hval]
     cases c<;>cases want<;>rfl
    ·rename_i hc
     simp only [Qf] at hw
     subst hw
     rw [hc] at htv
     obtain ⟨vs,hval⟩:∃ vs,tmps.getD t undef = .tuple vs:=by generalize tmps.getD t undef=z at htv; cases htv; exact ⟨_,rfl⟩
     rw [hval]
     cases want<;>rfl
    ·cases hw
   ·have hval:tmps.getD t undef=undef:=by simp [Qy,Nj.1 hts]
    rw [hval] at htv
    have hy:yielded ops.toArray tmps j=none:=by
     unfold yielded
     have:(ops.toArray[j]?).bind (·.dst)=some t:=by simpa [Yq] using hj
     rw [this]
     simp [Nj.1 hts]
    split at hw
    ·rename_i c hc
     rw [hc] at htv; cases htv
    ·simp only [Qf] at hw
     subst hw
     rw [hy]; cases want<;>rfl
    ·cases hw
theorem Zo3 {ef:Nat->AV} {a:Act} (ht:∀ t,VR r I w D (ef t) (a.tmps.getD t undef)) (x:Operand):VR r I w D (evF ef x) (a.eval x):=by
 cases x with
 | tmp t=>exact ht t
 | const v =>
  simp only [evF]
  exact Xy (N:=0) (env:=[]) (a:=⟨#[],[]⟩) ⟨rfl,fun i=>.any _ _⟩ (.const v)
 | global g=>exact .any _ _
 | func f=>exact .func _ _ _ _ _ _ rfl rfl (fun i c v hc=>by simp at hc) (fun i c v hc=>by simp at hc)
theorem VRs.append {l m:List AV} {u v:Array Value} (hu:VRs r I w D l u) (hv:VRs r I w D m v):VRs r I w D (l++m) (u++v):=by
 refine ⟨by simp [hu.1,hv.1],fun i c x hi hx=>?_⟩
 rw [Array.getElem?_append] at hx
 by_cases hlt:i<u.size
 ·rw [List.getElem?_append_left (by rw [<-hu.1]; exact hlt)] at hi
  simp only [hlt,if_true] at hx
  exact hu.2 _ _ _ hi hx
 ·rw [List.getElem?_append_right (by rw [<-hu.1]; omega),<-hu.1] at hi
  simp only [hlt,if_false] at hx
  exact hv.2 _ _ _ hi hx
def PCOK (P:Program) (pc:PC):Prop:=∀ f args res,pc f args=some res->PCall P f args res
theorem Zo7 {cx:Cx} (hcx:CxOK P cx) {pc:PC} (hpc:PCOK P pc) {F:Fence} (hFo:FOK F) {ops:List Oper} {recs:List Rec} {ef0:Nat->AV} {h0:Nat->ABlk} {nf:Nat} {rs:Locs} {Is:Imm} {ws:World} {ds:List Deferred} {S:Nat->Bool} {q:Nat} {x:Rec}
  (hx:recs[q]?=some x) (ho:ops[q]?=some x.o) (hnd:∀ c,x.o.op ≠ .defer c) (hs:S q=false) (hrec:RecAt cx pc N ops x (eF recs (fun p=>decide (p<q)) ef0) (hF recs (fun p=>decide (p<q)) h0))
  (c1:∀ p y,recs[p]?=some y->p<q->S p=false->Indep ops y x) (c2:∀ p y,q<p->recs[p]?=some y->S p=true->Indep ops x y)
  (hD0:∀ id,D0 id->id<x.k) (hkf:x.k+x.cnt<=nf) (hdis:∀ p y,recs[p]?=some y->p≠q->y.k+y.cnt<=x.k\/x.k+x.cnt<=y.k) {a:Act} (hi:DInv B w0 I0 pr N recs ef0 h0 D0 nf rs Is ws ds S a w) (Q:Exit->Act->World->Prop) :
  wpOpIn F 0 P ops.toArray Q q (fun a' w'=>DInv B w0 I0 pr N recs ef0 h0 D0 nf rs Is ws ds (setS S q) a' w') a w:=by
 obtain ⟨⟨r,I,D,H,hD,hsz,htm,hst⟩,hdf⟩:=hi
 have hlt:q<recs.length:=(Qi.1 hx).1
 have R:=hrec.congr (ef':=eF recs S ef0) (h':=hF recs S h0) (fun t ht=>by
   refine Yan t recs _ _ _ _ rfl (fun p y hy=>?_)
   rcases Kh p q with hp|hp|hp
   ·by_cases hsp:S p=true
    ·exact .inl (by simp [hp,hsp])
    ·exact .inr fun hd=>(c1 p y hy hp (Qx.2 hsp)).ds t hd |>.1 ht
   ·subst hp; exact .inl (by simp [hs])
   ·by_cases hsp:S p=true
    ·exact .inr fun hd=>(c2 p y hp hy hsp).sd t hd ht
    ·exact .inl (by simp [Qx.2 hsp]; omega)) (fun id hid=>by
   refine Yae id recs _ _ _ _ rfl (fun p y hy=>?_)
   rcases Kh p q with hp|hp|hp
   ·by_cases hsp:S p=true
    ·exact .inl (by simp [hp,hsp])
    ·exact .inr fun hd=>(c1 p y hy hp (Qx.2 hsp)).tr id hd hid
   ·subst hp; exact .inl (by simp [hs])
   ·by_cases hsp:S p=true
    ·exact .inr fun hd=>(c2 p y hp hy hsp).rt id hid hd
    ·exact .inl (by simp [Qx.2 hsp]; omega))
 have hins:=Zxj recs S h0 q x hx hs (fun p y hp hy hsp=>(c2 p y hp hy hsp).tt)
 have eins:=Zyd recs S ef0 q x hx hs (fun p y hp hy hsp d hd=>((c2 p y hp hy hsp).ds d hd).2)
 have hfresh:∀ j,j<x.cnt -> ¬ D (x.k+j):=by
  intro j hj hd
  rcases hD _ hd with h1|⟨p,y,hy,hsp,h1,h2⟩
  ·have:=hD0 _ h1; omega
  ·have hne:p≠q:=fun e=>by rw [e,hs] at hsp; cases hsp
   rcases hdis p y hy hne with h3|h3<;>omega
 have fin:∀ (r' : Locs) (I' : Imm) (D' : Nat->Prop) (w' : World) (v:Value),HR B w0 I0 pr r' I' D' (hF recs (setS S q) h0) nf w'->(∀ id,D' id->D id\/(x.k<=id/\id<x.k+x.cnt))->VR r' I' w' D' x.v v->Step r D I w r' D' I' w' ->
   DInv B w0 I0 pr N recs ef0 h0 D0 nf rs Is ws ds (setS S q) (a.put x.o.dst v) w':=by
  intro r' I' D' w' v H' hD' V' S'
  refine ⟨⟨r',I',D',H',fun id hd=>?_,?_,fun t=>?_,hst.trans S'⟩,?_⟩
  ·rcases hD' id hd with h1|h1
   ·rcases hD id h1 with h2|⟨p,y,hy,hsp,h2⟩
    ·exact .inl h2
    ·exact .inr ⟨p,y,hy,by simp [setS,hsp],h2⟩
   ·exact .inr ⟨q,x,hx,by simp [setS],h1⟩
  ·cases hd:x.o.dst<;>simp [Act.put,hsz]
  ·rw [eins]
   unfold eput
   cases hd:x.o.dst with
   | none=>exact (htm t).mono S'
   | some d =>
    have hdN:=R.dst d hd
    simp only [Act.put]
    by_cases e:t=d
    ·subst e; simp [hsz,hdN,V']
    ·have e' : ¬ d=t:=fun x=>e x.symm
     have:=(htm t).mono S'
     simp only [e,if_false,Qy,Array.getElem?_setIfInBounds,e',if_false] at *
     exact this
  ·cases hd:x.o.dst<;>simp [Act.put,hdf]
 unfold wpOpIn
 have ho' : ops.toArray[q]?=some x.o:=by simpa using ho
 rw [ho']
 dsimp only
 obtain ⟨b,hw,hrun,hskip⟩:=R.run
 rw [Ztj hw htm]
 cases b with
 | false =>
  obtain ⟨g1,g2,g3⟩:=hskip rfl
  simp only [Rs,if_false]
  refine ⟨Ux hFo _ _ _,fin r I D w undef ?_ (fun id hd=>.inl hd) (by rw [g1]; exact .tup _ _ _ rfl (fun i c v hc=>by cases hc)) (Step.refl _ _ _ _)⟩
  rw [hins,g2]
  have:hput (hF recs S h0) []=hF recs S h0:=by funext i; simp [hput,look]
  rw [this]; exact H
 | true =>
  simp only [if_true]
  refine ⟨Ux hFo _ _ _,?_⟩
  rw [Oper.semAt_eq _ _ _ hnd]
  rcases hrun rfl with ⟨e,g1,g2,g3,g4⟩|⟨f,args,ts,g,c0,cc1,aZ,l,res,g1,g2,g3,g4,g5,g6,g7,g8,g9⟩|⟨f,args,ts,g,c0,cc1,aZ,l,res,g1,g2,g3,g4,g5,g6,g7,g8,g9⟩
  ·have hk:¬ D x.k:=hfresh 0 (by omega)
   obtain ⟨v,w',r',I',e1,e2,e3,e4⟩:=Zpi hcx.tab hcx.eq H hk (by omega) x.o (ρ:=a.eval) (ev:=evF (eF recs S ef0)) (Zo3 htm) g1
   have hn:=fin r' I' _ w' v (by rw [hins,g2,<-Eff.go_puts]; exact e2) (fun id hd=>by
    rcases hd with hd|⟨_,rfl⟩
    ·exact .inl hd
    ·exact .inr ⟨Qd _,by omega⟩) e4 e3
   rcases e1 with e1|⟨e1,rfl⟩
   ·rw [e1]; exact hn
   ·rw [e1]; exact hn
  ·obtain ⟨⟨fn,q1,q2,q3⟩,hcall⟩:=hpc g aZ res g4
   have hfv:=Zo3 htm f
   rw [g2] at hfv
   obtain ⟨v0,v1,hv,k0,k1⟩:∃ v0 v1,a.eval f = .func (.func g) v0 v1/\VRs r I w D c0 v0/\VRs r I w D cc1 v1:=by
    generalize a.eval f=z at hfv
    cases hfv with
    | func _ _ _ _ v0 v1 h0 h1 g0 g1=>exact ⟨v0,v1,rfl,⟨h0,g0⟩,⟨h1,g1⟩⟩
   have hargs:=Xp (fun x=>Zo3 htm x) args
   have hvs:=(k0.append hargs).append k1
   have hview:=Zaz H hvs g3
   have hc:=Zbh hFo (hcall _ w _ (Zci H l) hview)
   have hrunE:(execOp a.eval x.o).run P w = .ok (.enter g ((v0++args.map a.eval)++v1)) w:=by
    have:execOp a.eval x.o=(do let d <-resolve a.eval { callee:=.value f,args:=args,argTypes:=ts } x.o.type; invoke d.target d.args):=by
     unfold execOp; rw [g1]
    rw [this]
    have q2' : ¬ fn.name = "runtime.NumGoroutine" := by simpa using q2
    have q3' : ¬ fn.body=none:=by intro h; rw [h] at q3; simp at q3
    simp [resolve,hv,Pz,invoke,callFunc,q1,q2',q3']
   rw [hrunE]
   refine ⟨fun hd=>by rw [hFo.depth] at hd; simp at hd,?_⟩
   refine hc.mono fun e w' hh=>?_
   obtain ⟨y,r',I',rfl,hp⟩:=hh
   have use:∀ (I2:Imm),PPost I w I2 w' r' res y->DInv B w0 I0 pr N recs ef0 h0 D0 nf rs Is ws ds (setS S q) (a.put x.o.dst y) w':=by
    intro I2 hp2
    obtain ⟨r2,D2,hD2,H2,S2,V2⟩:=H.call (k:=x.k) (n':=nf) hp2 (fun j hj=>hfresh j (by omega)) (Qd _) (by omega)
    refine fin r2 I2 D2 w' y (by rw [hins,g7,<-Zh5]; exact H2) (fun id hd=>?_) (by rw [g6]; exact V2) S2
    rcases (hD2 id).1 hd with h1|h1
    ·exact .inl h1
    ·exact .inr ⟨h1.1,by omega⟩
   rcases g5 with rfl|⟨hsc,hbl⟩
   ·rw [Zjw] at hp
    exact use I' hp
   ·have V:=hp.val.scalar hsc r' I w' (fun i=>i<res.blks.length)
    exact use I ⟨hp.below,fun _ _ h=>h,fun _ _ h=>.inl h,fun b o hi=>Tc (H.imm b o hi) hp.below.size,fun j p hj=>by rw [hbl] at hj; simp at hj,fun j j' hj=>by rw [hbl] at hj; simp at hj,V⟩
  ·obtain ⟨⟨fn,q1,q2,q3⟩,hcall⟩:=hpc g aZ res g4
   have hfv:=Zo3 htm f
   rw [g2] at hfv
   obtain ⟨v0,v1,hv,k0,k1⟩:∃ v0 v1,a.eval f = .func (.func g) v0 v1/\VRs r I w D c0 v0/\VRs r I w D cc1 v1:=by
    generalize a.eval f=z at hfv
    cases hfv with
    | func _ _ _ _ v0 v1 h0 h1 g0 g1=>exact ⟨v0,v1,rfl,⟨h0,g0⟩,⟨h1,g1⟩⟩
   have hargs:=Xp (fun x=>Zo3 htm x) args
   have hvs:=(k0.append hargs).append k1
   have hview:=Zaz H hvs g3
   have hc:=Zbh hFo (hcall _ w _ (Zci H l) hview)
   have hrunE:(execOp a.eval x.o).run P w = .ok (.enter g ((v0++args.map a.eval)++v1)) w:=by
    have:execOp a.eval x.o=(do let d <-resolve a.eval { callee:=.value f,args:=args,argTypes:=ts } x.o.type; invoke d.target d.args):=by
     unfold execOp; rw [g1]
    rw [this]
    have q2' : ¬ fn.name = "runtime.NumGoroutine" := by simpa using q2
    have q3' : ¬ fn.body=none:=by intro h; rw [h] at q3; simp at q3
    simp [resolve,hv,Pz,invoke,callFunc,q1,q2',q3']
   rw [hrunE]
   refine ⟨fun hd=>by rw [hFo.depth] at hd; simp at hd,?_⟩
   refine hc.mono fun e w' hh=>?_
   obtain ⟨y,r',I',rfl,hp⟩:=hh
   obtain ⟨H1,S1⟩:=H.froz (Zca g5)
   obtain ⟨r2,D2,hD2,H2,S2,V2⟩:=H1.call (k:=x.k) (n':=nf) hp (fun j hj=>hfresh j (by omega)) (Qd _) (by omega)
   refine fin r2 I' D2 w' y (by rw [hins,g7,<-Zpk]; exact H2) (fun id hd=>?_) (by rw [g6]; exact V2) (S1.trans S2)
   rcases (hD2 id).1 hd with h1|h1
   ·exact .inl h1
   ·exact .inr ⟨h1.1,by omega⟩
variable {r r' : Locs} {D D' D0:Nat->Prop} {I I' : Imm} {w w' w0:World} {I0:Imm} {B n n' k N:Nat} {pr pr' : Nat->Obj->Prop} {h h' : Nat->ABlk} {P:Program}
def St.putL (σ:St) (l:List (Nat × ABlk)):St:={ σ with heap:=l++σ.heap }
theorem St.get_putL (σ:St) (l:List (Nat × ABlk)):(σ.putL l).get=hput σ.get l:=by
 funext i
 simp only [Oh,St.putL,hput]
 induction l with
 | nil=>rfl
 | cons a l ih =>
  obtain ⟨j,b⟩:=a
  simp only [Ok,hget,look]
  cases Qs i j<;>simp [ih]
def Zri (cx:Cx) (pc:PC) (N:Nat) (o:Oper) (env:Env) (σ:St) (k:Nat) (K:Rec->Env->St->Prop):Prop :=
 match o.op with
 | .call { callee:=.value f,args,.. }=>match evA env f with
  | .func g c0 c1=>Got (Zao σ.get ((c0++Xg (evA env) args.toList)++c1)) fun p=>Got (pc g p.1) fun res =>
   match p.2,Vc res.v,res.blks with
   | [],_,_=>Zt N o.dst (Zi (fun j=>k+j) res.v) env fun env'=>K ⟨o,k,res.blks.length+1,Zi (fun j=>k+j) res.v,Xj k res.blks,Zak σ.get ((c0++Xg (evA env) args.toList)++c1)⟩ env' (σ.putL (Xj k res.blks))
   | _,true,[]=>Zt N o.dst (Zi (fun j=>k+j) res.v) env fun env'=>K ⟨o,k,1,Zi (fun j=>k+j) res.v,[],Zak σ.get ((c0++Xg (evA env) args.toList)++c1)⟩ env' σ
   | l,_,_=>cond (mutL σ.get l) (Zt N o.dst (Zi (fun j=>k+j) res.v) env fun env'=>K ⟨o,k,res.blks.length+1,Zi (fun j=>k+j) res.v,Xj k res.blks++Vr σ.get l,Zak σ.get ((c0++Xg (evA env) args.toList)++c1)++l⟩ env' (σ.putL (Xj k res.blks++Vr σ.get l))) False
  | _=>False
 | op=>aopK cx.T cx.ok k (evA env) σ.get op fun p=>Zt N o.dst p.1 env fun env'=>K ⟨o,k,1,p.1,p.2.puts k,Ug (evA env) op⟩ env' (σ.putL (p.2.puts k))
def Zpt (cx:Cx) (pc:PC) (N:Nat) (o:Oper) (env:Env) (σ:St) (k:Nat) (K:Rec->Env->St->Prop):Prop :=
 match o.op with
 | .call { callee:=.value f,args,.. }=>match evA env f with
  | .func g c0 c1=>fL ((c0++Xg (evA env) args.toList)++c1) fun aZ=>Got (Zao σ.get aZ) fun p=>Got (pc g p.1) fun res =>
   match p.2,Vc res.v,res.blks with
   | [],_,_=>fA (Zi (fun j=>k+j) res.v) fun v=>Zt N o.dst v env fun env'=>Zxz (Xj k res.blks) fun ps=>fSt (σ.putL ps) fun σ'=>fNs (Zak σ.get aZ) fun rd=>K ⟨o,k,res.blks.length+1,v,ps,rd⟩ env' σ'
   | _,true,[]=>fA (Zi (fun j=>k+j) res.v) fun v=>Zt N o.dst v env fun env'=>fNs (Zak σ.get aZ) fun rd=>K ⟨o,k,1,v,[],rd⟩ env' σ
   | l,_,_=>cond (mutL σ.get l) (fA (Zi (fun j=>k+j) res.v) fun v=>Zt N o.dst v env fun env'=>Zxz (Xj k res.blks++Vr σ.get l) fun ps=>fSt (σ.putL ps) fun σ'=>fNs (Zak σ.get aZ++l) fun rd=>K ⟨o,k,res.blks.length+1,v,ps,rd⟩ env' σ') False
  | _=>False
 | op=>aopK cx.T cx.ok k (evA env) σ.get op fun p=>fA p.1 fun v=>Zt N o.dst v env fun env'=>Zxz (p.2.puts k) fun ps=>fSt (σ.putL ps) fun σ'=>fNs (Ug (evA env) op) fun rd=>K ⟨o,k,1,v,ps,rd⟩ env' σ'
theorem Zrh (cx:Cx) (pc:PC) (N:Nat) (o:Oper) (env:Env) (σ:St) (k:Nat) (K:Rec->Env->St->Prop):Zpt cx pc N o env σ k K=Zri cx pc N o env σ k K:=by
 unfold Zpt Zri
 simp only [Zow,Zxy,Yah,Yck,Zsw]
def Zg4 (N:Nat) (o:Oper) (env:Env) (σ:St) (k:Nat) (K:Rec->Env->St->Prop):Prop :=
 Zt N o.dst (.tup []) env fun env'=>K ⟨o,k,1,.tup [],[],[]⟩ env' σ
def vcD (cx:Cx) (pc:PC) (N:Nat) (ops:List Oper):List Oper->Env->St->Nat->List Rec->(List Rec->Env->St->Prop)->Prop
 | [],env,σ,k,acc,K=>K acc.reverse env { σ with next:=k }
 | o::rest,env,σ,k,acc,K =>
  match o.guard with
  | none=>Zpt cx pc N o env σ k fun x env' σ'=>fN (k+x.cnt) fun k'=>vcD cx pc N ops rest env' σ' k' (x::acc) K
  | some (j,want) =>
   match Yq ops j with
   | none=>False
   | some t=>match env.get t with
    | .bool b=>Br b
     (match want with
      | true=>Zpt cx pc N o ((t,.bool true)::env) σ k fun x env' σ'=>fN (k+x.cnt) fun k'=>vcD cx pc N ops rest env' σ' k' (x::acc) K
      | false=>Zg4 N o ((t,.bool true)::env) σ k fun x env' σ'=>fN (k+x.cnt) fun k'=>vcD cx pc N ops rest env' σ' k' (x::acc) K)
     (match want with
      | false=>Zpt cx pc N o ((t,.bool false)::env) σ k fun x env' σ'=>fN (k+x.cnt) fun k'=>vcD cx pc N ops rest env' σ' k' (x::acc) K
      | true=>Zg4 N o ((t,.bool false)::env) σ k fun x env' σ'=>fN (k+x.cnt) fun k'=>vcD cx pc N ops rest env' σ' k' (x::acc) K)
    | .tup []=>Zg4 N o env σ k fun x env' σ'=>fN (k+x.cnt) fun k'=>vcD cx pc N ops rest env' σ' k' (x::acc) K
    | _=>False
theorem Zhh (env:Env):evA env=evF env.get:=funext (Yhg env)
theorem Zgk {o:Oper} {v:AV} {env env' : Env} {N k cnt:Nat} {puts rd} {K:Env->Prop} (hp:Zt N o.dst v env K):∃ env',K env'/\env'.get=eput env.get ⟨o,k,cnt,v,puts,rd⟩/\∀ d,o.dst=some d->d<N:=by
 unfold Zt at hp
 cases hd:o.dst with
 | none=>rw [hd] at hp; exact ⟨env,hp,by funext t; simp [eput,hd],fun d h=>by cases h⟩
 | some d =>
  rw [hd] at hp
  rcases Br.cases hp with ⟨h1,h2⟩|⟨_,h2⟩
  ·refine ⟨_,h2,by funext t; simp [eput,hd,Pg],fun d' h=>?_⟩
   cases h; simpa [Th] using h1
  ·exact h2.elim
theorem Zg5 {cx:Cx} {pc:PC} {ops:List Oper} {o:Oper} {env:Env} {σ:St} {k:Nat} {K:Rec->Env->St->Prop} (hw:Zkj ops o env.get=some true) (hv:Zpt cx pc N o env σ k K) :
  ∃ x env' σ',K x env' σ'/\x.o=o/\x.k=k/\1<=x.cnt/\RecAt cx pc N ops x env.get σ.get/\env'.get=eput env.get x/\σ'.get=hput σ.get x.puts:=by
 rw [Zrh] at hv
 unfold Zri at hv
 split at hv
 ·rename_i f args ts hop
  split at hv
  ·rename_i g c0 c1 hf
   obtain ⟨⟨aZ,l⟩,hview,hv⟩:=Ol hv
   obtain ⟨res,hres,hv⟩:=Ol hv
   rw [Zhh] at hview hf
   dsimp only at hv hres
   split at hv
   ·obtain ⟨env',h1,h2,h3⟩:=Zgk (env':=env) (k:=k) (cnt:=res.blks.length+1) (puts:=Xj k res.blks) (rd:=Zak σ.get ((c0++Xg (evA env) args.toList)++c1)) hv
    refine ⟨_,env',_,h1,rfl,rfl,by simp,⟨h3,true,hw,fun _=>.inr (.inl ⟨f,args,ts,g,c0,c1,aZ,[],res,hop,hf,hview,hres,.inl rfl,rfl,rfl,rfl,?_⟩),fun h=>by cases h⟩,h2,St.get_putL _ _⟩
    dsimp only; rw [Zhh]
   ·rename_i hs hb _
    obtain ⟨env',h1,h2,h3⟩:=Zgk (env':=env) (k:=k) (cnt:=1) (puts:=[]) (rd:=Zak σ.get ((c0++Xg (evA env) args.toList)++c1)) hv
    refine ⟨_,env',_,h1,rfl,rfl,by simp,⟨h3,true,hw,fun _=>.inr (.inl ⟨f,args,ts,g,c0,c1,aZ,_,res,hop,hf,hview,hres,.inr ⟨hs,hb⟩,rfl,?_,?_,?_⟩),fun h=>by cases h⟩,h2,?_⟩
    ·dsimp only; rw [hb]; rfl
    ·dsimp only; rw [hb]; rfl
    ·dsimp only; rw [Zhh]
    ·funext i; simp [hput,look]
   ·rename_i l _ _ _ _ _ _
    obtain ⟨hm,hv⟩:=Zb1 hv
    obtain ⟨env',h1,h2,h3⟩:=Zgk (env':=env) (k:=k) (cnt:=res.blks.length+1) (puts:=Xj k res.blks++Vr σ.get l) (rd:=Zak σ.get ((c0++Xg (evA env) args.toList)++c1)++l) hv
    refine ⟨_,env',_,h1,rfl,rfl,by simp,⟨h3,true,hw,fun _=>.inr (.inr ⟨f,args,ts,g,c0,c1,aZ,l,res,hop,hf,hview,hres,hm,rfl,rfl,rfl,?_⟩),fun h=>by cases h⟩,h2,St.get_putL _ _⟩
    dsimp only; rw [Zhh]
  ·exact hv.elim
 ·obtain ⟨⟨v,e⟩,hp,hv⟩:=aopK.cases hv
  rw [Zhh] at hp
  dsimp only at hv
  obtain ⟨env',h1,h2,h3⟩:=Zgk (env':=env) (k:=k) (cnt:=1) (puts:=e.puts k) (rd:=Ug (evA env) o.op) hv
  refine ⟨_,env',_,h1,rfl,rfl,by simp,⟨h3,true,hw,fun _=>.inl ⟨e,hp,rfl,rfl,?_⟩,fun h=>by cases h⟩,h2,St.get_putL _ _⟩
  dsimp only; rw [Zhh]
theorem Zde {cx:Cx} {pc:PC} {ops:List Oper} {o:Oper} {env:Env} {σ:St} {k:Nat} {K:Rec->Env->St->Prop} (hw:Zkj ops o env.get=some false) (hv:Zg4 N o env σ k K) :
  ∃ x env' σ',K x env' σ'/\x.o=o/\x.k=k/\1<=x.cnt/\RecAt cx pc N ops x env.get σ.get/\env'.get=eput env.get x/\σ'.get=hput σ.get x.puts:=by
 unfold Zg4 at hv
 obtain ⟨env',h1,h2,h3⟩:=Zgk (env':=env) (k:=k) (cnt:=1) (puts:=[]) (rd:=[]) hv
 refine ⟨_,env',_,h1,rfl,rfl,by simp,⟨h3,false,hw,(fun h=>by cases h),fun _=>⟨rfl,rfl,rfl⟩⟩,h2,?_⟩
 funext i; simp [hput,look]
theorem Zge {env:Env} {t:Nat} {b:Bool} (h:env.get t = .bool b):Env.get ((t,.bool b)::env)=env.get:=by
 funext i
 rw [Pg]
 by_cases e:i=t
 ·subst e; rw [if_pos rfl,h]
 ·rw [if_neg e]
theorem Zie {cx:Cx} {pc:PC} {ops:List Oper}:∀ (l:List Oper) (env:Env) (σ:St) (k:Nat) (acc:List Rec) (K:List Rec->Env->St->Prop),vcD cx pc N ops l env σ k acc K ->
  ∃ recs env' σ',K (acc.reverse++recs) env' σ'/\recs.map (·.o)=l/\(∀ (q:Nat) (x:Rec),recs[q]?=some x->RecAt cx pc N ops x (eF recs (fun p=>decide (p<q)) env.get) (hF recs (fun p=>decide (p<q)) σ.get)) /\
   env'.get=eF recs (fun _=>true) env.get/\σ'.get=hF recs (fun _=>true) σ.get/\(∀ (q:Nat) (x:Rec),recs[q]?=some x->k<=x.k/\x.k+x.cnt<=σ'.next/\1<=x.cnt)/\(∀ (p q:Nat) (x y:Rec),p<q->recs[p]?=some x->recs[q]?=some y->x.k+x.cnt<=y.k)/\k<=σ'.next
 | [],env,σ,k,acc,K,hv=>⟨[],env,{ σ with next:=k },by simpa [vcD] using hv,rfl,fun q x hx=>by simp at hx,rfl,rfl,fun q x hx=>by simp at hx,fun p q x y _ hx=>by simp at hx,Qd _⟩
 | o::rest,env,σ,k,acc,K,hv=>by
  have go:∀ (env1:Env),env1.get=env.get->(∃ x env' σ',vcD cx pc N ops rest env' σ' (k+x.cnt) (x::acc) K/\x.o=o/\x.k=k/\1<=x.cnt/\RecAt cx pc N ops x env1.get σ.get/\env'.get=eput env1.get x/\σ'.get=hput σ.get x.puts) ->
   ∃ recs env' σ',K (acc.reverse++recs) env' σ'/\recs.map (·.o)=o::rest/\(∀ (q:Nat) (x:Rec),recs[q]?=some x->RecAt cx pc N ops x (eF recs (fun p=>decide (p<q)) env.get) (hF recs (fun p=>decide (p<q)) σ.get)) /\
   env'.get=eF recs (fun _=>true) env.get/\σ'.get=hF recs (fun _=>true) σ.get/\(∀ (q:Nat) (x:Rec),recs[q]?=some x->k<=x.k/\x.k+x.cnt<=σ'.next/\1<=x.cnt)/\(∀ (p q:Nat) (x y:Rec),p<q->recs[p]?=some x->recs[q]?=some y->x.k+x.cnt<=y.k)/\k<=σ'.next:=by
   rintro env1 hee ⟨x,env2,σ2,hv2,g1,g2,g3,g4,g5,g6⟩
   obtain ⟨recs,env',σ',k1,k2,k3,k4,k5,k6,k7,k8⟩:=Zie rest env2 σ2 _ _ K hv2
   rw [hee] at g4 g5
   refine ⟨x::recs,env',σ',by simpa using k1,by simp [g1,k2],?_,?_,?_,?_,?_,by omega⟩
   ·intro q y hy
    cases q with
    | zero =>
     simp only [Wj,Qf] at hy
     subst hy
     have e1:eF (x::recs) (fun p=>decide (p<0)) env.get=env.get:=by
      funext t
      have:=Yan t (x::recs) (fun p=>decide (p<0)) (fun _=>false) env.get env.get rfl (fun q y _=>.inl (by simp))
      rw [this]
      clear this k3 k2 k1 k6 k7
      generalize x::recs=l
      induction l with
      | nil=>rfl
      | cons a l ih=>simpa [eF] using ih
     have e2:hF (x::recs) (fun p=>decide (p<0)) σ.get=σ.get:=by
      funext t
      have:=Yae t (x::recs) (fun p=>decide (p<0)) (fun _=>false) σ.get σ.get rfl (fun q y _=>.inl (by simp))
      rw [this]
      clear this k3 k2 k1 k6 k7
      generalize x::recs=l
      induction l with
      | nil=>rfl
      | cons a l ih=>simpa [hF] using ih
     rw [e1,e2]; exact g4
    | succ q =>
     simp only [Gd] at hy
     have:=k3 q y hy
     rw [g5,g6] at this
     simpa [eF,hF] using this
   ·rw [k4,g5]; simp [eF]
   ·rw [k5,g6]; simp [hF]
   ·intro q y hy
    cases q with
    | zero =>
     simp only [Wj,Qf] at hy
     subst hy
     exact ⟨by omega,by omega,g3⟩
    | succ q =>
     have:=k6 q y (by simpa using hy)
     exact ⟨by omega,this.2⟩
   ·intro p q y z hpq hy hz
    cases q with
    | zero=>omega
    | succ q =>
     cases p with
     | zero =>
      simp only [Wj,Qf] at hy
      subst hy
      have:=k6 q z (by simpa using hz)
      omega
     | succ p=>exact k7 p q y z (by omega) (by simpa using hy) (by simpa using hz)
  simp only [vcD,Zov] at hv
  cases hg:o.guard with
  | none =>
   rw [hg] at hv
   exact go env rfl (Zg5 (by simp [Zkj,hg]) hv)
  | some jw =>
   obtain ⟨j,want⟩:=jw
   rw [hg] at hv
   dsimp only at hv
   cases ht:Yq ops j with
   | none=>rw [ht] at hv; exact hv.elim
   | some t =>
    rw [ht] at hv
    dsimp only at hv
    split at hv
    ·rename_i b hb
     have hwant:∀ c:Bool,b=c->Zkj ops o (Env.get ((t,.bool c)::env))=some (c==want):=by
      rintro c rfl
      simp only [Zkj,hg,ht]
      rw [Zge hb,hb]
     rcases Br.cases hv with ⟨rfl,hv⟩|⟨rfl,hv⟩
     ·cases want with
      | true=>exact go _ (Zge hb) (Zg5 (hwant true rfl) hv)
      | false=>exact go _ (Zge hb) (Zde (hwant true rfl) hv)
     ·cases want with
      | false=>exact go _ (Zge hb) (Zg5 (hwant false rfl) hv)
      | true=>exact go _ (Zge hb) (Zde (hwant false rfl) hv)
    ·rename_i hb
     exact go env rfl (Zde (by simp only [Zkj,hg,ht,hb]) hv)
    ·exact hv.elim
end Go.Sx
