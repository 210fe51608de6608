/- A part of the proof: lemmas. -/
import Derived.Test.YtanbhfpalahjcaaGreatG1
import Derived.Laws.AppendOwn
import Derived.Laws.CopyRow
import Derived.Laws.FloatArith
import Derived.Laws.IdiomStrings
set_option linter.unusedVariables false
set_option linter.unusedSimpArgs false
set_option maxRecDepth 100000
set_option maxHeartbeats 16000000
open Array renaming ext'->Oz,getElem?_append_left->Nk,getElem?_eq_some_iff->Qt,getElem?_setIfInBounds->Sy,range->Hh
open BitVec renaming ofInt->Kg
open Bool renaming and_eq_true->Qc,or_eq_true->Ro
open Go.Builtin renaming append_->Wk,copy_->De,firstCells->Dm,lenOf->Hx,zeroCells->Mq
open Go.Instr renaming checkKey->Qbh,findKey->Qca,findNow->Lh,keyThatStays->Dl,lookup->Dv,makeMap->Qcb,makeSlice->Jg,mapUpdate->Gx,sameBits->Qbi,slice->Fp,sliceAt->Li,sliceBound->Qal,sliceBounds->Dw
open Go.IntKind renaming wrap_i64->Ww
open Go.Result renaming andThen_ok->Rq
open Go.Sem renaming run->Gp,run_bind->Sn,run_pure->Pr
open Go.Sx.ABlk renaming live->Wi
open Go.Sx.Eff renaming adds->Mr
open Go.Sx.Gives renaming of_sim->Om,same->Tw
open Go.Sx.Step renaming drew->Lz
open Go.Value renaming slice->Qas
open Go.World renaming cell?->Po,putObj->Jp
open Int renaming not_lt->Mu
open List renaming all_eq_true->Rf,getElem?_append->Nu,getElem?_append_left->Sl,getElem?_append_right->Sf,getElem?_drop->Rz,getElem?_eq_getElem->Qe,getElem?_eq_some_iff->Qi,getElem?_map->Rr,getElem?_range->Pm,getElem?_take->Pb,getElem?_toArray->Np,getElem_mem->Qn,getElem_of_mem->Wo,length_cons->Qz,length_drop->Ni,rec->Qbj,replicate->Tg,replicate_succ->Jk
open Nat renaming add_mul->Tp,add_zero->Nt,beq->Qs,ble->Su,blt->Pp,blt_eq->Th,div_add_mod->Mj,div_lt_iff_lt_mul->Mn,eq_of_beq_eq_true->Qh,eq_zero_or_pos->Oj,le_of_ble_eq_true->Qm,le_refl->Qd,min_eq_left->Ns,mod_lt->Tx,mul_comm->Pu,mul_le_mul_right->Rt,not_lt->Nj,succ_mul->Ps,zero_add->Sk
open Option renaming map_eq_some_iff->Wa,map_some->Nr
open Option.some renaming inj->Sr,injEq->Qf
namespace Go.Sx
open Go Go.RowKit
variable {r r' : Locs} {D D' : Nat->Prop} {I I' : Imm} {w w' w0:World} {I0:Imm} {B n n' k:Nat} {pr:Nat->Obj->Prop} {h:Nat->ABlk} {P:Program}
def Ud (s:ByteArray):List ByteArray->Bool
 | []=>false
 | a::l=>(s==a)||Ud s l
def addK (s:ByteArray) (l:List ByteArray):List ByteArray:=cond (Ud s l) l (l++[s])
def Zuz (es:List MapEntry) (keys:List ByteArray):Prop:=es.length=keys.length/\∀ (i:Nat) (e:MapEntry) (k:ByteArray),es[i]?=some e->keys[i]?=some k->e.key = .string k/\e.val = .bool true
theorem Yaq {s a:ByteArray} (h:(s==a)=true):s=a:=by
 cases s with
 | mk s=>cases a with
  | mk a =>
   have:(s==a)=true:=h
   simpa using this
theorem Zyt (s:ByteArray):(s==s)=true:=by
 cases s with
 | mk s =>
  have:(s==s)=true:=by simp
  exact this
theorem Zd1 (s:ByteArray):∀ (es:List MapEntry) (keys:List ByteArray) (i:Nat),Zuz es keys ->
  (Ud s keys=true->∃ j e,es[j]?=some e/\e.key = .string s/\Lh .string (.string s) es i=some (some (i+j,.bool true)))/\(Ud s keys=false->Lh .string (.string s) es i=some none)
 | [],[],i,_=>⟨fun h=>by simp [Ud] at h,fun _=>rfl⟩
 | [],_::_,i,h=>by simp [Zuz] at h
 | _::_,[],i,h=>by simp [Zuz] at h
 | e::es,a::keys,i,h=>by
  obtain ⟨h1,h2⟩:=h
  obtain ⟨k1,k2⟩:=h2 0 e a rfl rfl
  have ih:=Zd1 s es keys (i+1) ⟨by simpa using h1,fun j e k he hk=>h2 (j+1) e k (by simpa using he) (by simpa using hk)⟩
  have hs:Instr.sameNow .string (.string s) e.key=some (s==a):=by rw [k1]; rfl
  constructor
  ·intro he
   cases hsa:s==a with
   | true =>
    have hsa' : s=a:=Yaq hsa
    subst hsa'
    refine ⟨0,e,rfl,k1,?_⟩
    simp only [Lh,hs,hsa,k2,Nt]
   | false =>
    simp only [Ud,hsa,Bool.false_or] at he
    obtain ⟨j,e',g1,g2,g3⟩:=ih.1 he
    refine ⟨j+1,e',by simpa using g1,g2,?_⟩
    simp only [Lh,hs,hsa,g3]
    congr 3; omega
  ·intro he
   simp only [Ud,Bool.or_eq_false_iff] at he
   simp only [Lh,hs,he.1]
   exact ih.2 he.2
theorem Za5 {t:TypeId} (ht:P.underlying t=some .string) (b:Bool) (m:Nat) (s:ByteArray):(Qbh b (m+1) t (.string s)).run P w = .ok () w:=by
 simp [Qbh,run_underlying ht]
theorem Zcp {t:TypeId} (ht:P.underlying t=some .string) {s:ByteArray} {es:List MapEntry} {x:Option (Nat × Value)} (h:Lh .string (.string s) es 0=some x):(Qca t (.string s) es).run P w = .ok x w:=by
 simp [Qca,run_underlying ht,h]
def Zff (T:Tab) (t:TypeId):Bool :=
 match T t with
 | some ti=>match ti.desc with
  | .map kt et=>match T kt,T et with
   | some tk,some te=>match tk.desc,te.desc,te.agg,te.zero with
    | .string,.bool,false,[.bool false]=>true
    | _,_,_,_=>false
   | _,_=>false
  | _=>false
 | none=>false
theorem Zh0 {T:Tab} (hT:TabOK P T) {t:TypeId} (h:Zff T t=true):∃ kt et,P.underlying t=some (.map kt et)/\P.underlying kt=some .string/\∀ w:World,(zeroValue et).run P w = .ok (.bool false) w:=by
 unfold Zff at h
 split at h
 ·rename_i ti hti
  split at h
  ·rename_i kt et hd
   split at h
   ·rename_i tk te hk he
    split at h
    ·rename_i d1 d2 d3 d4
     refine ⟨kt,et,by rw [hT.und t ti hti,hd],by rw [hT.und kt tk hk,d1],fun w=>?_⟩
     obtain ⟨i,hi,g1,g2,z,hz,g3,g4,g5,g6⟩:=hT.info et te he
     have h4:=g5 (fun _=>⟨0,0,0,0,0⟩) (fun _ _=>False) w (fun _=>False)
     rw [d4,g6 d3] at h4
     have h5:=h4.2 0 (.bool false) z rfl rfl
     have h6:z = .bool false:=by cases h5; rfl
     simp [zeroValue,typeInfo,hi,hz,h6]
    ·cases h
   ·cases h
  ·cases h
 ·cases h
theorem Zkm {T:Tab} (hT:TabOK P T) {t:TypeId} (ht:Zff T t=true) (H:HR B w0 I0 pr r I D h n w) {id:Nat} {keys:List ByteArray} {s:ByteArray} {x y:Value} (hx:VR r I w D (.amap id) x) (hy:VR r I w D (.str s) y) (hb:h id = .set keys) :
  Gives P B w0 I0 pr r I D h n k (Dv t x y false) w (.bool (Ud s keys)) .none:=by
 obtain ⟨kt,et,h1,h2,h3⟩:=Zh0 hT ht
 have hB:=H.blk id
 rw [hb] at hB
 obtain ⟨_,es,clock,g1,g2,g3⟩:=hB
 cases hx
 cases hy
 have hK:Zuz es.toList keys:=⟨by simpa using g2,fun i e k he hk=>g3 i e k (by simpa using he) hk⟩
 obtain ⟨f1,f2⟩:=Zd1 s es.toList keys 0 hK
 refine Tw H (x:=.bool (Ud s keys)) ?_ (.bool _ _)
 have hget:(getObj (r id).blk).run P w = .ok (.map es clock) w:=by simp [getObj,Gp,g1]
 have hck:=Za5 (P:=P) (w:=w) h2 es.isEmpty 9999 s
 cases he:Ud s keys with
 | true =>
  obtain ⟨j,e,q1,q2,q3⟩:=f1 he
  have:=Zcp (w:=w) h2 q3
  simp [Dv,run_underlying h1,hget,hck,this]
 | false =>
  have:=Zcp (w:=w) h2 (f2 he)
  simp [Dv,run_underlying h1,hget,hck,this,h3]
theorem Zi9 (H:HR B w0 I0 pr r I D h n w) (hk:¬ D k) (hkn:k<n) (t:TypeId):Gives P B w0 I0 pr r I D h n k (Qcb t none) w (.amap k) (.add (.set [])):=by
 obtain ⟨H',S'⟩:=H.alloc (n':=n) hk hkn (Qd _) (.map #[] 0) ⟨w.heap.size,0,0,0,0⟩ rfl (.set []) (fun r' D' st hr=>by
  refine ⟨by rw [hr]; exact H.base,#[],0,by rw [hr]; exact Yu _ _,rfl,fun i e k he=>by simp at he⟩)
 have hD:(fun i=>D i\/((Eff.add (.set [])).adds=true/\i=k))=(fun i=>D i\/i=k):=funext fun i=>by simp [Mr]
 unfold Gives
 rw [hD]
 refine ⟨_,_,_,by simp [Qcb,newObj]; rfl,H',S',?_⟩
 have:=VR.amap (r:=rupd r k ⟨w.heap.size,0,0,0,0⟩) (I:=I) (w:=w.alloc (.map #[] 0)) (fun i=>D i\/i=k) k (.inr rfl)
 simpa [rupd] using this
theorem Zi6 (m:Nat) (s:ByteArray):Qbi m (.string s) (.string s)=true:=by
 cases m<;>simp only [Qbi]<;>exact Zyt s
theorem Zep {T:Tab} (hT:TabOK P T) {t:TypeId} (ht:Zff T t=true) (H:HR B w0 I0 pr r I D h n w) {id:Nat} {keys:List ByteArray} {s:ByteArray} {x y z:Value} (hx:VR r I w D (.amap id) x) (hy:VR r I w D (.str s) y) (hz:VR r I w D (.bool true) z) (hb:h id = .set keys) :
  ∃ w',(Gx t x y z).run P w = .ok () w'/\HR B w0 I0 pr r I D (hupd h id (.set (addK s keys))) n w'/\Step r D I w r D I w':=by
 obtain ⟨kt,et,h1,h2,h3⟩:=Zh0 hT ht
 have hB:=H.blk id
 rw [hb] at hB
 obtain ⟨g0,es,clock,g1,g2,g3⟩:=hB
 cases hx
 cases hy
 cases hz
 have hlive:(h id).live=true:=by rw [hb]; rfl
 have hK:Zuz es.toList keys:=⟨by simpa using g2,fun i e k he hk=>g3 i e k (by simpa using he) hk⟩
 obtain ⟨f1,f2⟩:=Zd1 s es.toList keys 0 hK
 have hget:(getObj (r id).blk).run P w = .ok (.map es clock) w:=by simp [getObj,Gp,g1]
 have hck:=Za5 (P:=P) (w:=w) h2 false 9999 s
 have hnc:∀ c T fz,w.heap[(r id).blk]?≠some (.cells c T fz):=by intro c T fz e; rw [g1] at e; cases e
 have hset:∀ (es' : Array MapEntry) (c' : Nat),(setObj (r id).blk (.map es' c')).run P w = .ok () (w.putObj (r id).blk (.map es' c')):=by
  intro es' c'
  simp [setObj,Gp,g1]
  rfl
 have hlt:(r id).blk<w.heap.size:=(Qt.1 g1).1
 have fin:∀ (es' : Array MapEntry) (c' : Nat),Zuz es'.toList (addK s keys)->HR B w0 I0 pr r I D (hupd h id (.set (addK s keys))) n (w.putObj (r id).blk (.map es' c'))/\Step r D I w r D I (w.putObj (r id).blk (.map es' c')):=by
  intro es' c' hk'
  have hoth:∀ x,x≠(r id).blk->(w.putObj (r id).blk (.map es' c')).heap[x]?=w.heap[x]?:=fun x hx=>by
   show (w.heap.setIfInBounds _ _)[x]?=_
   rw [Sy,if_neg (fun e=>hx e.symm)]
  have hself:(w.putObj (r id).blk (.map es' c')).heap[(r id).blk]?=some (.map es' c'):=by
   show (w.heap.setIfInBounds _ _)[_]?=_
   rw [Sy,if_pos rfl,if_pos hlt]
  refine H.write (k:=id) (w':=w.putObj (r id).blk (.map es' c')) hlive ⟨rfl,rfl,rfl,by simp [Jp],fun b hlt=>by rw [hoth b (by omega)]⟩ g0 ?_ ?_ (by simp [Jp]) hoth _ (fun st=>?_)
  ·intro o _
   simp [Po,hself,g1]
  ·intro o ho
   rw [g1] at ho
   obtain rfl:=Sr ho
   exact ⟨fun l=>by simp,fun l=>by simp⟩
  ·exact ⟨g0,es',c',hself,by simpa using hk'.1,fun i e k he hk=>hk'.2 i e k (by simpa using he) hk⟩
 cases he:Ud s keys with
 | true =>
  obtain ⟨j,e,q1,q2,q3⟩:=f1 he
  have hf:=Zcp (w:=w) h2 q3
  rw [Sk] at hf
  have hj:es[j]?=some e:=by simpa using q1
  have hkey:(Dl (((es[j]?).map (·.key)).getD (.string s)) (.string s)).run P w = .ok (.string s) w:=by
   simp [hj,Dl,q2,Zi6]
  refine ⟨_,by simp only [Gx,Sn,run_underlying h1,Rq,hget,hck,hf,hkey,hset]; rfl,?_⟩
  refine fin _ _ ?_
  have ha:addK s keys=keys:=by simp [addK,he]
  rw [ha]
  refine ⟨by simpa using g2,fun i e' k' hi hk'=>?_⟩
  simp only [Array.toList_modify,List.getElem?_modify] at hi
  by_cases hij:j=i
  ·subst hij
   simp [hj] at hi
   subst hi
   have:=g3 j e k' hj hk'
   rw [q2] at this
   exact ⟨this.1,rfl⟩
  ·simp [hij] at hi
   exact g3 i e' k' (by simpa using hi) hk'
 | false =>
  have hf:=Zcp (w:=w) h2 (f2 he)
  refine ⟨_,by simp only [Gx,Sn,run_underlying h1,Rq,hget,hck,hf,hset]; rfl,?_⟩
  refine fin _ _ ?_
  have ha:addK s keys=keys++[s]:=by simp [addK,he]
  rw [ha]
  refine ⟨by simpa using g2,fun i e' k' hi hk'=>?_⟩
  rw [Array.toList_push] at hi
  by_cases hil:i<keys.length
  ·rw [Sl (by simpa [g2] using hil)] at hi
   rw [Sl hil] at hk'
   exact g3 i e' k' (by simpa using hi) hk'
  ·rw [Sf (by simpa [g2] using Nj.1 hil)] at hi
   rw [Sf (Nj.1 hil)] at hk'
   have e1:es.toList.length=keys.length:=by simpa using g2
   rw [e1] at hi
   generalize i-keys.length=m at hi hk'
   cases m with
   | zero=>simp at hi hk'; subst hi; subst hk'; exact ⟨rfl,rfl⟩
   | succ m=>simp at hi
variable {r r' : Locs} {D D' : Nat->Prop} {I I' : Imm} {w w' w0:World} {I0:Imm} {B n n' k:Nat} {pr:Nat->Obj->Prop} {h:Nat->ABlk} {P:Program}
theorem HR.kill (H:HR B w0 I0 pr r I D h n w) (id:Nat):HR B w0 I0 pr r I D (hupd h id .dead) n w:=by
 have hl:∀ i,(hupd h id .dead i).live=true->i≠id/\(h i).live=true:=by
  intro i hi
  by_cases e:i=id
  ·subst e; simp [hupd,Wi] at hi
  ·simp only [hupd,e,if_false] at hi; exact ⟨e,hi⟩
 refine ⟨H.below,H.base,H.imm,H.dom,fun i hi=>H.live i (hl i hi).2,fun i=>?_,fun i j hi hj=>H.inj i j (hl i hi).2 (hl j hj).2,H.prot,fun b o hp=>⟨fun i hi=>(H.protK b o hp).1 i (hl i hi).2,(H.protK b o hp).2⟩,H.immB⟩
 by_cases e:i=id
 ·subst e; simp [hupd,BlkOK]
 ·simp only [hupd,e,if_false]; exact H.blk i
theorem HR.newRow (H:HR B w0 I0 pr r I D h n w) (hk:¬ D k) (hkn:k<n) {es cap:Nat} {elems:List (List AV)} {pu:Bool} (xs:Array Value) (e:TypeId) (h3:∀ (i:Nat) (e:List AV),elems[i]?=some e->e.length=es) (hcap:elems.length<=cap) (hsz:cap*es<=xs.size)
  (h6:∀ (i:Nat) (e:List AV) (j:Nat) (c:AV),elems[i]?=some e->e[j]?=some c->∃ v,xs[i*es+j]?=some v/\VR r I w (fun x=>pu=false/\D x) c v) :
  ∃ r',HR B w0 I0 pr r' I (fun i=>D i\/i=k) (hupd h k (.row es elems true pu)) n (w.alloc (.cells xs e))/\Step r D I w r' (fun i=>D i\/i=k) I (w.alloc (.cells xs e))/\r' k=⟨w.heap.size,0,cap,es,elems.length⟩:=by
 obtain ⟨H',S'⟩:=H.alloc (n':=n) hk hkn (Qd _) (.cells xs e) ⟨w.heap.size,0,cap,es,elems.length⟩ rfl (.row es elems true pu) (fun r' D' st hr=>by
  refine ⟨by rw [hr]; exact ⟨rfl,rfl⟩,by rw [hr]; exact hcap,h3,xs,e,(0,0),by rw [hr]; exact Yu _ _,by rw [hr]; simpa using hsz,?_,fun _=>⟨by rw [hr]; exact H.base,?_,rfl⟩,by simp⟩
  ·intro i e' j c hi hj
   obtain ⟨v,a,b⟩:=h6 i e' j c hi hj
   exact ⟨v,by rw [hr]; simpa using a,b.mono ⟨fun id h=>⟨⟨h.1,(st.ids id h.2).1⟩,(st.ids id h.2).2⟩,st.imm,st.size⟩⟩
  ·intro o hi
   rw [hr] at hi
   have:=H.imm _ _ hi
   simp at this)
 exact ⟨_,H',S',by simp [rupd]⟩
theorem HR.scribble (H:HR B w0 I0 pr r I D h n w) {es:Nat} {elems:List (List AV)} {pu:Bool} (hb:h k = .row es elems true pu) {vs:Array Value} {m:Nat} (hm:vs.size=m*es) (hc:elems.length+m<=(r k).cap) :
  ∃ cs:Array Value,∃ T,w.heap[(r k).blk]?=some (.cells cs T (0,0))/\(r k).off+elems.length*es+vs.size<=cs.size /\
   let w':=w.setRow (r k).blk (cs.toList.take ((r k).off+elems.length*es)++vs.toList++cs.toList.drop ((r k).off+elems.length*es+vs.toList.length)).toArray
   HR B w0 I0 pr r I D h n w'/\Step r D I w r D I w'/\∀ j,j<vs.size->w'.cell? ⟨(r k).blk,(r k).off+elems.length*es+j,none⟩=vs[j]?:=by
 have hB:=H.blk k
 rw [hb] at hB
 obtain ⟨h1,h2,h3,cs,T,fz,h4,h5,h6,h7,_⟩:=hB
 obtain ⟨g1,g2,rfl⟩:=h7 rfl
 have hb1:(r k).off+elems.length*es+vs.size<=cs.size:=by
  have:(elems.length+m)*es<=(r k).cap*es:=Rt _ hc
  have:(elems.length+m)*es=elems.length*es+m*es:=Tp _ _ _
  omega
 refine ⟨cs,T,h4,hb1,?_⟩
 intro w'
 have hh:w'.heap[(r k).blk]?=some (.cells (cs.toList.take ((r k).off+elems.length*es)++vs.toList++cs.toList.drop ((r k).off+elems.length*es+vs.toList.length)).toArray T (0,0)):=setRow_heap w _ cs _ T _ h4
 have hoth:∀ b,b≠(r k).blk->w'.heap[b]?=w.heap[b]?:=fun b hne=>setRow_other w _ _ _ hne
 have hget:∀ q,(cs.toList.take ((r k).off+elems.length*es)++vs.toList++cs.toList.drop ((r k).off+elems.length*es+vs.toList.length)).toArray[q]? =
   if q<(r k).off+elems.length*es then cs[q]? else if q<(r k).off+elems.length*es+vs.toList.length then vs[q-((r k).off+elems.length*es)]? else cs[q]?:=by
  intro q
  have:=Yn cs.toList vs.toList ((r k).off+elems.length*es) q (by simpa using hb1)
  simp only [Np]
  rw [this]
  simp
 have hsame:hupd h k (.row es elems true pu)=h:=by
  funext i
  by_cases e:i=k
  ·subst e; simp [hupd,hb]
  ·simp [hupd,e]
 have:=H.write (k:=k) (w':=w') (by rw [hb]; rfl) ⟨rfl,rfl,rfl,by simp [w'],fun b hlt=>hoth b (by omega)⟩ g1 (fun o ho=>(g2 o ho).elim) (fun o ho=>by
  rw [h4] at ho
  obtain rfl:=Sr ho
  exact ⟨fun l=>by simp,fun l=>by simp⟩) (size_setRow _ _ _) hoth (.row es elems true pu) (fun st=>by
  refine ⟨h1,h2,h3,_,T,(0,0),hh,by simp; omega,fun i e j c he hj=>?_,fun _=>⟨g1,g2,rfl⟩,by simp⟩
  obtain ⟨v,a,b⟩:=h6 i e j c he hj
  refine ⟨v,?_,b.mono ⟨fun id h=>⟨h,rfl⟩,st.imm,st.size⟩⟩
  have hil:i<elems.length:=(Qi.1 he).1
  have hjl:j<es:=by have:=h3 i e he; have:=(Qi.1 hj).1; omega
  have:(i+1)*es<=elems.length*es:=Rt _ hil
  have:(i+1)*es=i*es+es:=Ps _ _
  rw [hget,if_pos (by omega)]; exact a)
 rw [hsame] at this
 refine ⟨this.1,this.2,fun j hj=>?_⟩
 have e:w'.cell? ⟨(r k).blk,(r k).off+elems.length*es+j,none⟩=(cs.toList.take ((r k).off+elems.length*es)++vs.toList++cs.toList.drop ((r k).off+elems.length*es+vs.toList.length)).toArray[(r k).off+elems.length*es+j]?:=by
  unfold Po
  simp only [hh]
  rfl
 rw [e,hget,if_neg (by omega),if_pos (by simpa using hj)]
 congr 1; omega
theorem HR.moveExt (H:HR B w0 I0 pr r I D h n w) (hk:¬ D k) (hkn:k<n) {id es:Nat} {elems new:List (List AV)} {pu pn:Bool} (hb:h id = .row es elems true pu) {idx:Nat} (hx:idx<=elems.length) (hcap:elems.length+new.length<=(r id).cap)
  (hn3:∀ (i:Nat) (e:List AV),new[i]?=some e->e.length=es)
  (hn6:∀ (i:Nat) (e:List AV) (j:Nat) (c:AV),new[i]?=some e->e[j]?=some c->∃ v,w.cell? ⟨(r id).blk,(r id).off+elems.length*es+(i*es+j),none⟩=some v/\VR r I w (fun x=>pn=false/\D x) c v) :
  HR B w0 I0 pr (rupd r k ⟨(r id).blk,(r id).off+idx*es,(r id).cap-idx,es,elems.length-idx+new.length⟩) I (fun i=>D i\/i=k) (hupd (hupd h id .dead) k (.row es (elems.drop idx++new) true (pu&&pn))) n w /\
   Step r D I w (rupd r k ⟨(r id).blk,(r id).off+idx*es,(r id).cap-idx,es,elems.length-idx+new.length⟩) (fun i=>D i\/i=k) I w:=by
 have hlive:(h id).live=true:=by rw [hb]; rfl
 have hid:=H.live id hlive
 have hne:id≠k:=fun e=>hk (e ▸ hid)
 have hst:Step r D I w (rupd r k ⟨(r id).blk,(r id).off+idx*es,(r id).cap-idx,es,elems.length-idx+new.length⟩) (fun i=>D i\/i=k) I w:=by
  refine ⟨fun i hd=>⟨.inl hd,?_⟩,fun b o hi=>⟨hi,rfl⟩,Qd _⟩
  have:i≠k:=fun e=>hk (e ▸ hd)
  simp [rupd,this]
 have hl:∀ i,i≠k->(hupd (hupd h id .dead) k (.row es (elems.drop idx++new) true (pu&&pn)) i).live=true->i≠id/\(h i).live=true:=by
  intro i hik hi
  simp only [hupd,hik,if_false] at hi
  by_cases e:i=id
  ·subst e; simp [Wi] at hi
  ·simp only [e,if_false] at hi; exact ⟨e,hi⟩
 have hB:=H.blk id
 rw [hb] at hB
 obtain ⟨h1,h2,h3,cs,T,fz,h4,h5,h6,h7,_⟩:=hB
 obtain ⟨g1,g2,rfl⟩:=h7 rfl
 refine ⟨⟨H.below,H.base,H.imm,?_,?_,?_,?_,H.prot,fun b o hp=>⟨fun i hi=>?_,(H.protK b o hp).2⟩,H.immB⟩,hst⟩
 ·rintro i (hd|rfl)
  ·have e:i≠k:=fun e=>hk (e ▸ hd)
   simp only [rupd,e,if_false]; exact H.dom i hd
  ·simp only [rupd,if_true]; exact ⟨hkn,(H.dom id hid).2⟩
 ·intro i hi
  by_cases e:i=k
  ·exact .inr e
  ·exact .inl (H.live i (hl i e hi).2)
 ·intro i
  by_cases e:i=k
  ·subst e
   simp only [hupd,if_true]
   refine ⟨by simp [rupd],by simp [rupd]; omega,?_,cs,T,(0,0),by simp only [rupd,if_true]; exact h4,?_,?_,fun _=>⟨by simp only [rupd,if_true]; exact g1,fun o=>by simp only [rupd,if_true]; exact g2 o,rfl⟩,by simp⟩
   ·intro i e he
    rw [Nu] at he
    split at he
    ·rw [Rz] at he; exact h3 _ e he
    ·exact hn3 _ e he
   ·simp only [rupd,if_true]
    have:((r id).cap-idx)*es+idx*es=(r id).cap*es:=by rw [<-Tp]; congr 1; omega
    omega
   ·intro q e j c he hj
    simp only [rupd,if_true]
    rw [Nu] at he
    split at he
    ·rw [Rz] at he
     obtain ⟨v,a,b⟩:=h6 _ e j c he hj
     refine ⟨v,?_,b.mono ⟨fun i hd=>⟨⟨by simp [hd.1],.inl hd.2⟩,(hst.ids i hd.2).2⟩,fun _ _ h=>⟨h,rfl⟩,Qd _⟩⟩
     rw [<-a]
     congr 1
     rw [Tp]; omega
    ·rename_i hq
     simp only [Ni] at he hq
     obtain ⟨v,a,b⟩:=hn6 _ e j c he hj
     refine ⟨v,?_,b.mono ⟨fun i hd=>⟨⟨by simp [hd.1],.inl hd.2⟩,(hst.ids i hd.2).2⟩,fun _ _ h=>⟨h,rfl⟩,Qd _⟩⟩
     simp only [Po,h4] at a
     rw [<-a]
     congr 1
     have e1:q=(elems.length-idx)+(q-(elems.length-idx)):=by omega
     have e2:q*es=(elems.length-idx)*es+(q-(elems.length-idx))*es:=by rw [<-Tp,<-e1]
     have e3:(elems.length-idx)*es+idx*es=elems.length*es:=by rw [<-Tp]; congr 1; omega
     omega
  ·simp only [hupd,e,if_false]
   by_cases e2:i=id
   ·simp [e2,BlkOK]
   ·simp only [e2,if_false]
    exact (H.blk i).mono hst (by simp [rupd,e]) (fun _=>rfl) (fun _ _ _ _ _ hx=>hx)
 ·intro i j hi hj hij
  by_cases e:i=k<;>by_cases e' : j=k
  ·omega
  ·obtain ⟨q1,q2⟩:=hl j e' hj
   simp only [rupd,e,e',if_true,if_false]
   exact H.inj id j hlive q2 (fun x=>q1 x.symm)
  ·obtain ⟨q1,q2⟩:=hl i e hi
   simp only [rupd,e,e',if_true,if_false]
   exact H.inj i id q2 hlive q1
  ·simp only [rupd,e,e',if_false]
   exact H.inj i j (hl i e hi).2 (hl j e' hj).2 hij
 ·by_cases e:i=k
  ·simp only [rupd,e,if_true]; exact (H.protK b o hp).1 id hlive
  ·simp only [rupd,e,if_false]; exact (H.protK b o hp).1 i (hl i e hi).2
variable {r r' : Locs} {D D' : Nat->Prop} {I I' : Imm} {w w' w0:World} {I0:Imm} {B n n' k:Nat} {pr:Nat->Obj->Prop} {h:Nat->ABlk} {P:Program}
def Yv (es:Nat) (h:Nat->ABlk):AV->Option (List (List AV) × Bool)
 | .nils=>some ([],true)
 | .isl es' elems=>cond (Qs es es') (some (elems,true)) none
 | .asl id idx len=>match h id with
  | .row es' elems _ pu=>cond (Qs es es') (some ((elems.drop idx).take len,pu)) none
  | _=>none
 | .bsl id idx sub len _=>match h id with
  | .row _ elems _ pu=>match elems[idx]? with
   | some cells=>cond (Su (sub+len*es) cells.length) (some (chunks es len (cells.drop sub),pu)) none
   | none=>none
  | _=>none
 | _=>none
theorem Zik {α:Type} {a b:Nat} {x y:α} (h:cond (Qs a b) (some x) none=some y):a=b/\x=y:=by
 cases hq:Qs a b with
 | true=>rw [hq] at h; exact ⟨Qh hq,Sr h⟩
 | false=>rw [hq] at h; cases h
theorem Yas {α:Type} {a b:Nat} {x y:α} (h:cond (Su a b) (some x) none=some y):a<=b/\x=y:=by
 cases hq:Su a b with
 | true=>rw [hq] at h; exact ⟨Qm hq,Sr h⟩
 | false=>rw [hq] at h; cases h
structure ElsR (r:Locs) (I:Imm) (w:World) (D:Nat->Prop) (es:Nat) (els:List (List AV)) (pu:Bool) (a:Option Addr) (vs:List Value):Prop where
 len:vs.length=els.length*es
 each:∀ (i:Nat) (e:List AV),els[i]?=some e->e.length=es
 none:a=none->els=[]
 read:∀ b,a=some b->∀ (j:Nat) (v:Value),vs[j]?=some v->w.cell? (b.add j)=some v
 cells:∀ (i:Nat) (e:List AV) (j:Nat) (c:AV),els[i]?=some e->e[j]?=some c->∃ v,vs[i*es+j]?=some v/\VR r I w (fun x=>pu=false/\D x) c v
theorem Zab (H:HR B w0 I0 pr r I D h n w) {es:Nat} {v:AV} {x:Value} (hv:VR r I w D v x) {els:List (List AV)} {pu:Bool} (he:Yv es h v=some (els,pu)) :
  ∃ a c vs,x = .slice a els.length c/\ElsR r I w D es els pu a vs:=by
 have mk:∀ (a:Addr) (val:Nat->Value) (els:List (List AV)) (pu:Bool),(∀ (i:Nat) (e:List AV),els[i]?=some e->e.length=es) ->
   (∀ j,j<els.length*es->w.cell? (a.add j)=some (val j))->(∀ (i:Nat) (e:List AV) (j:Nat) (c:AV),els[i]?=some e->e[j]?=some c->VR r I w (fun x=>pu=false/\D x) c (val (i*es+j))) ->
   ElsR r I w D es els pu (some a) ((List.range (els.length*es)).map val):=by
  intro a val els pu h1 h2 h3
  refine ⟨by simp,h1,(fun h=>by cases h),fun b hb j v hj=>?_,fun i e j c hi hj=>⟨val (i*es+j),?_,h3 i e j c hi hj⟩⟩
  ·cases hb
   simp only [Rr,Wa] at hj
   obtain ⟨q,hq,rfl⟩:=hj
   have hlt:j<els.length*es:=by have:=(Qi.1 hq).1; simpa using this
   have:q=j:=by rw [Pm hlt] at hq; exact (Sr hq).symm
   subst this
   exact h2 q hlt
  ·have hil:=(Qi.1 hi).1
   have hjl:j<es:=by have:=h1 i e hi; have:=(Qi.1 hj).1; omega
   have:(i+1)*es<=els.length*es:=Rt _ hil
   have:(i+1)*es=i*es+es:=Ps _ _
   rw [Rr,Pm (by omega)]; rfl
 have rowdiv:∀ j m:Nat,j<m*es->j / es<m/\j%es<es/\j / es*es+j%es=j:=by
  intro j m hj
  have hes:0<es:=by rcases Oj es with e|e; subst e; simp at hj; exact e
  exact ⟨(Mn hes).2 hj,Tx _ hes,by rw [Pu]; exact Mj _ _⟩
 cases hv<;>simp only [Yv,reduceCtorEq] at he
 case nils =>
  simp only [Qf,Prod.mk.injEq] at he
  obtain ⟨rfl,rfl⟩:=he
  exact ⟨_,_,[],rfl,⟨by simp,fun i e hi=>by simp at hi,fun _=>rfl,fun b hb=>(by cases hb),fun i e j c hi=>by simp at hi⟩⟩
 case isl0 es' a cap =>
  obtain ⟨q,he2⟩:=Zik (x:=(([]:List (List AV)),true)) (y:=(els,pu)) he
  clear he
  cases he2
  exact ⟨_,_,[],rfl,⟨by simp,fun i e hi=>by simp at hi,fun _=>rfl,fun b hb j v hj=>by simp at hj,fun i e j c hi=>by simp at hi⟩⟩
 case isl es' elems b o cap val hl h0 h1 h2 =>
  obtain ⟨q,he2⟩:=Zik (x:=(elems,true)) (y:=(els,pu)) he
  clear he
  subst q
  cases he2
  refine ⟨_,_,_,rfl,mk ⟨b,o,none⟩ (fun j=>val (j / es) (j%es)) els true h0 (fun j hj=>?_) (fun i e j c hi hj=>?_)⟩
  ·obtain ⟨q1,q2,q3⟩:=rowdiv j _ hj
   have hi:els[j / es]?=some els[j / es]:=Qe q1
   have hjl:j%es<(els[j / es]).length:=by have:=h0 _ _ hi; omega
   have:=(h1 _ _ _ _ hi (Qe hjl)).2
   have e1:(⟨b,o,none⟩:Addr).add j=⟨b,o+j / es*es+j%es,none⟩:=by
    rw [Xu]; congr 1; omega
   rw [e1]; exact this
  ·have hjl:j<es:=by have:=h0 i e hi; have:=(Qi.1 hj).1; omega
   have e1:(i*es+j) / es=i:=by rw [Pu,Nat.mul_add_div (by omega),Nat.div_eq_of_lt hjl]; rfl
   have e2:(i*es+j)%es=j:=by rw [Pu,Nat.mul_add_mod,Nat.mod_eq_of_lt hjl]
   rw [e1,e2]
   exact (h2 i e j c hi hj).weak fun _ h=>h.elim
 case asl id idx len hd hc =>
  split at he
  ·rename_i es' elems mt pu' hb
   obtain ⟨q,he2⟩:=Zik (x:=((elems.drop idx).take len,pu')) (y:=(els,pu)) he
   clear he
   subst q
   cases he2
   have hB:=H.blk id
   rw [hb] at hB
   obtain ⟨h1,h2,h3,cs,T,fz,h4,h5,h6,_⟩:=hB
   rw [h1.2] at hd
   have hlen:((elems.drop idx).take len).length=len:=by simp; omega
   have hgetE:∀ (i:Nat) (e:List AV),((elems.drop idx).take len)[i]?=some e->i<len/\elems[idx+i]?=some e:=by
    intro i e hi
    rw [Pb] at hi
    split at hi
    ·rename_i hlt; rw [Rz] at hi; exact ⟨hlt,hi⟩
    ·cases hi
   have key:=mk ⟨(r id).blk,(r id).off+idx*es,none⟩ (fun j=>cs.getD ((r id).off+idx*es+j) undef) ((elems.drop idx).take len) pu (fun i e hi=>h3 _ e (hgetE i e hi).2) (fun j hj=>?_) (fun i e j c hi hj=>?_)
   ·rw [hlen] at key ⊢
    have he1:(r id).es=es:=h1.1
    refine ⟨_,_,_,by rw [he1],key⟩
   ·rw [hlen] at hj
    have:(idx+len)*es<=(r id).cap*es:=Rt _ (by omega)
    have:(idx+len)*es=idx*es+len*es:=Tp _ _ _
    have hlt:(r id).off+idx*es+j<cs.size:=by omega
    rw [Xu]; simp [Po,h4,hlt]
   ·obtain ⟨q1,q2⟩:=hgetE i e hi
    obtain ⟨v,a,b⟩:=h6 _ e j c q2 hj
    have e1:(r id).off+(idx+i)*es+j=(r id).off+idx*es+(i*es+j):=by rw [Tp]; omega
    rw [e1] at a
    have:cs.getD ((r id).off+idx*es+(i*es+j)) undef=v:=by simp [a]
    rw [this]; exact b
  ·cases he
 case bsl id idx sub len cap hd =>
  split at he
  ·rename_i es' elems mt pu' hb
   split at he
   ·rename_i cells hcells
    obtain ⟨q,he2⟩:=Yas (x:=(chunks es len (cells.drop sub),pu')) (y:=(els,pu)) he
    clear he
    cases he2
    have hB:=H.blk id
    rw [hb] at hB
    obtain ⟨h1,h2,h3,cs,T,fz,h4,h5,h6,_⟩:=hB
    have he1:(r id).es=es':=h1.1
    have hcl:=h3 idx cells hcells
    have hil:=(Qi.1 hcells).1
    have hlen:(chunks es len (cells.drop sub)).length=len:=Ul _ _ _
    have hget:∀ (i:Nat) (e:List AV),(chunks es len (cells.drop sub))[i]?=some e->i<len/\e.length=es/\∀ (j:Nat) (c:AV),e[j]?=some c->cells[sub+i*es+j]?=some c:=by
     intro i e hi
     have hlt:i<len:=by have:=(Qi.1 hi).1; omega
     have hmul:(i+1)*es<=len*es:=Rt _ hlt
     have hs:(i+1)*es=i*es+es:=Ps _ _
     have:=Zej es len _ i e hi
     subst this
     refine ⟨hlt,by simp; omega,fun j c hj=>?_⟩
     rw [Pb] at hj
     split at hj
     ·rw [Rz,Rz] at hj
      rw [<-hj]; congr 1; omega
     ·cases hj
    have key:=mk ⟨(r id).blk,(r id).off+idx*(r id).es+sub,none⟩ (fun j=>cs.getD ((r id).off+idx*(r id).es+sub+j) undef) (chunks es len (cells.drop sub)) pu (fun i e hi=>(hget i e hi).2.1) (fun j hj=>?_) (fun i e j c hi hj=>?_)
    ·rw [hlen] at key ⊢
     exact ⟨_,_,_,rfl,key⟩
    ·rw [hlen] at hj
     have:(idx+1)*es'<=(r id).cap*es':=Rt _ (by omega)
     have:(idx+1)*es'=idx*es'+es':=Ps _ _
     have hlt:(r id).off+idx*(r id).es+sub+j<cs.size:=by rw [he1]; omega
     rw [Xu]; simp [Po,h4,hlt]
    ·obtain ⟨q1,q2,q3⟩:=hget i e hi
     obtain ⟨v,a,b⟩:=h6 idx cells (sub+i*es+j) c hcells (q3 j c hj)
     have e1:(r id).off+idx*es'+(sub+i*es+j)=(r id).off+idx*(r id).es+sub+(i*es+j):=by rw [he1]; omega
     rw [e1] at a
     have:cs.getD ((r id).off+idx*(r id).es+sub+(i*es+j)) undef=v:=by simp [a]
     rw [this]; exact b
   ·cases he
  ·cases he
variable {r r' : Locs} {D D' : Nat->Prop} {I I' : Imm} {w w' w0:World} {I0:Imm} {B n n' k:Nat} {pr:Nat->Obj->Prop} {h:Nat->ABlk} {P:Program}
theorem ElsR.first {es:Nat} {els:List (List AV)} {pu:Bool} {a:Option Addr} {vs:List Value} (E:ElsR r I w D es els pu a vs) {w' : World} (hw:∀ x,w'.cell? x=w.cell? x) (c:Nat) :
  (Dm es els.length (.slice a els.length c)).run P w' = .ok vs.toArray w':=by
 cases a with
 | none =>
  have:=E.none rfl
  subst this
  have h0:vs=[]:=by have:=E.len; simpa using this
  subst h0
  exact run_firstCells_none w' es _ _ _
 | some b=>exact run_firstCells_some w' es els.length b _ c vs E.len (fun j v hj=>by rw [hw]; exact E.read b rfl j v hj)
theorem Zh8 {t tx ty e e' : TypeId} (ht:P.underlying t=some (.slice e)) (htx:P.underlying tx=some (.slice e')) {i:TypeInfo} (hi:P.info? e=some i) {z:Value} (hz:i.zero=some z) {base a:Option Addr} {sCap c:Nat}
  {xs ys:List (List AV)} {px py:Bool} {olds news:List Value} (Ex:ElsR r I w D i.size xs px base olds) (Ey:ElsR r' I' w D' i.size ys py a news)
  (hg:sCap<xs.length+ys.length) (h63:xs.length+ys.length<=17592186044416) (h48:(xs.length+ys.length)*i.bytes<=140737488355328) :
  (Wk #[t,tx] ty #[.slice base xs.length sCap,.slice a ys.length c]).run P w =
   .ok (.slice (some ⟨w.heap.size,0,none⟩) (xs.length+ys.length) (grownCap w (xs.length+ys.length) sCap e))
    (w.drew.alloc (.cells (olds.toArray++news.toArray++Mq z.cells (grownCap w (xs.length+ys.length) sCap e-(xs.length+ys.length))) e)):=by
 have hn:¬ (xs.length+ys.length<=sCap):=by omega
 have h63' : ¬ (9223372036854775807<((xs.length:Int)+(ys.length:Int))):=by omega
 have h48' : ¬ (281474976710656<Builtin.nextslicecap (xs.length+ys.length) sCap*i.bytes):=by
  have:=growslice_fits hg h48; omega
 have hf:=Ey.first (P:=P) (w':=w.drew) (fun _=>rfl) c
 have hfo:=Ex.first (P:=P) (w':=w.drew) (fun _=>rfl) sCap
 simp [Wk,run_underlying ht,run_underlying htx,sizeOf,typeInfo,zeroValue,hi,hz,Hx,hn,h63',h48',Question.forced,hf,hfo,newRow,grownCap]
 congr 2
 apply Oz
 simp [List.append_assoc]
theorem Zdl {t tx ty e e' : TypeId} (ht:P.underlying t=some (.slice e)) (htx:P.underlying tx=some (.slice e')) {i:TypeInfo} (hi:P.info? e=some i) {b:Addr} {a:Option Addr} {sCap c m:Nat}
  {ys:List (List AV)} {py:Bool} {news:List Value} (Ey:ElsR r' I' w D' i.size ys py a news) (hg:m+ys.length<=sCap) {w' : World} (hst:(storeCells (b.add (m*i.size)) news 0).run P w = .ok () w') :
  (Wk #[t,tx] ty #[.slice (some b) m sCap,.slice a ys.length c]).run P w = .ok (.slice (some b) (m+ys.length) sCap) w':=by
 have hf:=Ey.first (P:=P) (w':=w) (fun _=>rfl) c
 simp [Wk,run_underlying ht,run_underlying htx,sizeOf,typeInfo,hi,Hx,hg,hf,hst]
theorem Za6 {t tx ty e e' : TypeId} (ht:P.underlying t=some (.slice e)) (htx:P.underlying tx=some (.slice e')) {i:TypeInfo} (hi:P.info? e=some i) {base a:Option Addr} {sCap c m:Nat} (hm:m<=sCap) :
  (Wk #[t,tx] ty #[.slice base m sCap,.slice a 0 c]).run P w = .ok (.slice base m sCap) w:=by
 have hf:(Dm i.size 0 (.slice a 0 c)).run P w = .ok #[] w:=by
  cases a with
  | none=>exact run_firstCells_none w _ _ _ _
  | some b=>simpa using run_firstCells_some (P:=P) w i.size 0 b 0 c [] (by simp) (fun j v hj=>by simp at hj)
 cases base<;>simp [Wk,run_underlying ht,run_underlying htx,sizeOf,typeInfo,hi,Hx,hm,hf,storeCells]
def Xs (ys:List (List AV)):Bool:=ys.all fun e=>e.all AV.one
def Zhp (k:Nat) (h:Nat->ABlk) (te:TI) (x y:AV):Option (AV × Eff) :=
 match Yv te.size h y with
 | some (ys,py)=>match ys with
  | []=>match x with
   | .nils=>some (.nils,.none)
   | .asl id idx len=>match h id with
    | .row _ _ _ _=>some (.asl id idx len,.none)
    | _=>none
   | _=>none
  | y0::ys=>match Yv te.size h x with
   | some (xs,px)=>cond (Su (xs.length+(y0::ys).length) 17592186044416&&Su ((xs.length+(y0::ys).length)*te.bytes) 140737488355328) (match x with
    | .nils=>some (.asl k 0 (xs.length+(y0::ys).length),.add (.row te.size (xs++(y0::ys)) true (px&&py)))
    | .asl id idx len=>match h id with
     | .row _ elems true _=>cond (Qs (idx+len) elems.length&&Xs (y0::ys)) (some (.asl k 0 (xs.length+(y0::ys).length),.app id (.row te.size (xs++(y0::ys)) true (px&&py)))) none
     | _=>none
    | .bsl _ _ _ len cap=>cond (Qs len cap) (some (.asl k 0 (xs.length+(y0::ys).length),.add (.row te.size (xs++(y0::ys)) true (px&&py)))) none
    | _=>none) none
   | none=>none
 | none=>none
theorem Zqn {T:Tab} (hT:TabOK P T) {t tx ty e e' : TypeId} (ht:P.underlying t=some (.slice e)) (htx:P.underlying tx=some (.slice e')) {te:TI} (hte:T e=some te) {h0:Nat->ABlk} (H:HR B w0 I0 pr r I D h0 n w) (hk:¬ D k) (hkn:k<n) {base a:Option Addr} {sCap c:Nat}
  {xs ys:List (List AV)} {px py:Bool} {olds news:List Value} (Ex:ElsR r I w D te.size xs px base olds) (Ey:ElsR r I w D te.size ys py a news)
  (hg:sCap<xs.length+ys.length) (h63:xs.length+ys.length<=17592186044416) (h48:(xs.length+ys.length)*te.bytes<=140737488355328) :
  ∃ x w' r',(Wk #[t,tx] ty #[.slice base xs.length sCap,.slice a ys.length c]).run P w = .ok x w'/\HR B w0 I0 pr r' I (fun i=>D i\/i=k) (hupd h0 k (.row te.size (xs++ys) true (px&&py))) n w' /\
   Step r D I w r' (fun i=>D i\/i=k) I w'/\VR r' I w' (fun i=>D i\/i=k) (.asl k 0 (xs.length+ys.length)) x:=by
 obtain ⟨i,hi,g1,g2,z,hz,g3,_⟩:=hT.info e te hte
 rw [<-g1] at Ex Ey
 rw [<-g2] at h48
 have hrun:=Zh8 (ty:=ty) ht htx hi hz Ex Ey (c:=c) hg h63 h48
 have hcap:=grownCap_ge w (xs.length+ys.length) sCap e
 rw [g1] at Ex Ey
 obtain ⟨r',H',S',hr⟩:=H.drew.newRow (k:=k) (es:=te.size) (cap:=grownCap w (xs.length+ys.length) sCap e) (elems:=xs++ys) (pu:=px&&py) hk hkn
  (olds.toArray++news.toArray++Mq z.cells (grownCap w (xs.length+ys.length) sCap e-(xs.length+ys.length))) e (fun i e he=>by
   rw [Nu] at he
   split at he
   ·exact Ex.each _ _ he
   ·exact Ey.each _ _ he) (by simpa using hcap) (by
   have hz' : (Mq z.cells (grownCap w (xs.length+ys.length) sCap e-(xs.length+ys.length))).size=(grownCap w (xs.length+ys.length) sCap e-(xs.length+ys.length))*te.size:=by
    simp [Mq,g3]
   have e1:(grownCap w (xs.length+ys.length) sCap e)*te.size=xs.length*te.size+ys.length*te.size+(grownCap w (xs.length+ys.length) sCap e-(xs.length+ys.length))*te.size:=by
    rw [<-Tp,<-Tp]; congr 1; omega
   simp only [Array.size_append,hz',List.size_toArray,Ex.len,Ey.len]
   omega) (fun i e j c hi hj=>by
   rw [Nu] at hi
   split at hi
   ·rename_i hlt
    obtain ⟨v,a,b⟩:=Ex.cells i e j c hi hj
    have hl:=(Qi.1 a).1
    refine ⟨v,?_,b.mono ⟨fun id h=>⟨⟨by simp [h.1],h.2⟩,rfl⟩,fun _ _ h=>⟨h,rfl⟩,Qd _⟩⟩
    rw [Nk (by simp; omega),Nk (by simpa using hl)]
    simpa using a
   ·rename_i hge
    obtain ⟨v,a,b⟩:=Ey.cells (i-xs.length) e j c hi hj
    have hl:=(Qi.1 a).1
    have e1:i*te.size=xs.length*te.size+(i-xs.length)*te.size:=by rw [<-Tp]; congr 1; omega
    have e2:=Ex.len
    refine ⟨v,?_,b.mono ⟨fun id h=>⟨⟨by simp [h.1],h.2⟩,rfl⟩,fun _ _ h=>⟨h,rfl⟩,Qd _⟩⟩
    rw [Nk (by simp; omega),Array.getElem?_append_right (by simp; omega)]
    rw [show i*te.size+j-olds.toArray.size=(i-xs.length)*te.size+j by simp; omega]
    simpa using a)
 refine ⟨_,_,r',hrun,H',(Lz r D I w).trans S',?_⟩
 have:=VR.asl (r:=r') (I:=I) (w:=w.drew.alloc (.cells (olds.toArray++news.toArray++Mq z.cells (grownCap w (xs.length+ys.length) sCap e-(xs.length+ys.length))) e)) (fun i=>D i\/i=k) k 0 (xs.length+ys.length) (.inr rfl) (by rw [hr]; simp)
 rw [hr] at this
 simpa using this
theorem Zh1 {T:Tab} (hT:TabOK P T) {t tx ty e e' : TypeId} (ht:P.underlying t=some (.slice e)) (htx:P.underlying tx=some (.slice e')) {te:TI} (hte:T e=some te) (H:HR B w0 I0 pr r I D h n w) (hk:¬ D k) (hkn:k<n)
  {x y res:AV} {u v:Value} (hx:VR r I w D x u) (hy:VR r I w D y v) {eff:Eff} (ha:Zhp k h te x y=some (res,eff)):Gives P B w0 I0 pr r I D h n k (Wk #[t,tx] ty #[u,v]) w res eff:=by
 obtain ⟨i,hi,g1,g2,z,hz,g3,_⟩:=hT.info e te hte
 unfold Zhp at ha
 split at ha
 ·rename_i ys py hys
  obtain ⟨a,c,news,rfl,Ey⟩:=Zab H hy hys
  split at ha
  ·
   split at ha
   ·cases ha
    cases hx
    exact Tw H (Za6 ht htx hi (Qd _)) (.nils _)
   ·rename_i id idx len
    split at ha
    ·rename_i es' elems mt pu hb
     cases ha
     have hB:=H.blk id
     rw [hb] at hB
     have hc1:=hB.1.2
     have hc2:=hB.2.1
     have hx':=hx
     cases hx with
     | asl _ _ _ _ hd hc=>exact Tw H (Za6 ht htx hi (by omega)) hx'
    ·cases ha
   ·cases ha
  ·rename_i y0 ys
   split at ha
   ·rename_i xs px hxs
    obtain ⟨base,sCap,olds,rfl,Ex⟩:=Zab H hx hxs
    obtain ⟨hb,ha2⟩:=Zd ha
    clear ha
    have ha:=ha2
    clear ha2
    simp only [Qc] at hb
    have h63:=Qm hb.1
    have h48:=Qm hb.2
    have grow:sCap<xs.length+(y0::ys).length->∀ (h0:Nat->ABlk),HR B w0 I0 pr r I D h0 n w->∀ eff:Eff,eff.adds=true->eff.go k h=hupd h0 k (.row te.size (xs++(y0::ys)) true (px&&py)) ->
      Gives P B w0 I0 pr r I D h n k (Wk #[t,tx] ty #[.slice base xs.length sCap,.slice a (y0::ys).length c]) w (.asl k 0 (xs.length+(y0::ys).length)) eff:=by
     intro hg h0 H0 eff he1 he2
     obtain ⟨x,w',r',q1,q2,q3,q4⟩:=Zqn (ty:=ty) (c:=c) hT ht htx hte H0 hk hkn Ex Ey hg h63 h48
     have hD:(fun i=>D i\/(eff.adds=true/\i=k))=(fun i=>D i\/i=k):=funext fun i=>by simp [he1]
     unfold Gives
     rw [hD,he2]
     exact ⟨x,w',r',q1,q2,q3,q4⟩
    split at ha
    ·cases ha
     have:sCap=0:=by
      generalize hq:(Qas base xs.length sCap)=q at hx
      cases hx
      injection hq
     subst this
     exact grow (by simp only [Qz]; omega) h H _ rfl rfl
    ·rename_i id idx len
     split at ha
     ·rename_i es' elems pu hbk
      obtain ⟨hc1,ha2⟩:=Zd ha
      clear ha
      have ha:=ha2
      clear ha2
      simp only [Qc] at hc1
      have hc2:=Qh hc1.1
      cases ha
      by_cases hg:sCap<xs.length+(y0::ys).length
      ·exact grow hg _ (H.kill id) _ rfl rfl
      ·have hx0:=hx
       simp only [Yv,hbk] at hxs
       obtain ⟨e1,e2⟩:=Zik (x:=((elems.drop idx).take len,pu)) (y:=(xs,px)) hxs
       injection e2 with e2 e3
       have e4:(elems.drop idx).take len=elems.drop idx:=by rw [List.take_of_length_le]; simp; omega
       rw [e4] at e2
       subst e1
       subst e3
       have hlx:xs.length=len:=by rw [<-e2]; simp; omega
       have hB:=H.blk id
       rw [hbk] at hB
       have hB1:=hB.1
       have hpos:1<=(y0::ys).length:=by simp
       obtain ⟨hbase,hcapv,hd,hlen⟩:base=some ⟨(r id).blk,(r id).off+idx*te.size,none⟩/\sCap=(r id).cap-idx/\D id/\idx+len<=(r id).len:=by
        generalize hq:(Qas base xs.length sCap)=q at hx
        cases hx with
        | asl _ _ _ _ hd hc=>injection hq with q1 q2 q3; exact ⟨by rw [q1,hB1.1],q3,hd,hc⟩
       subst hbase
       subst hcapv
       have hnl:news.length=(y0::ys).length*te.size:=Ey.len
       obtain ⟨cs,T',k1,k2,k3⟩:=H.scribble hbk (vs:=news.toArray) (m:=(y0::ys).length) (by simpa using hnl) (by omega)
       dsimp only at k3
       obtain ⟨k3,k4,k5⟩:=k3
       have hone:∀ v∈news,v.oneCell'=true:=by
        intro v hv
        obtain ⟨q,hq,rfl⟩:=Wo hv
        rw [hnl] at hq
        have hes:0<te.size:=by rcases Oj te.size with e|e; rw [e] at hq; simp at hq; exact e
        have q1:q / te.size<(y0::ys).length:=(Mn hes).2 hq
        have q2:q%te.size<te.size:=Tx _ hes
        have q3:q / te.size*te.size+q%te.size=q:=by rw [Pu]; exact Mj _ _
        have hi1:(y0::ys)[q / te.size]?=some (y0::ys)[q / te.size]:=Qe q1
        have hjl:q%te.size<((y0::ys)[q / te.size]).length:=by have:=Ey.each _ _ hi1; omega
        obtain ⟨v,a,b⟩:=Ey.cells _ _ _ _ hi1 (Qe hjl)
        rw [q3] at a
        have:news[q]=v:=by rw [Qe (by omega)] at a; exact Sr a
        rw [this]
        refine b.one ?_
        have h5:=Rf.1 hc1.2 _ (Qn q1)
        exact Rf.1 h5 _ (Qn hjl)
       have hst:=run_storeCells_at P (r id).blk ((r id).off+elems.length*te.size) T' news 0 cs w k1 (by simpa using k2) hone
       have hadd:((⟨(r id).blk,(r id).off+idx*te.size,none⟩:Addr).add (xs.length*i.size))=⟨(r id).blk,(r id).off+elems.length*te.size,none⟩:=by
        rw [Xu,g1]
        congr 1
        rw [Nat.add_assoc,<-Tp]; congr 2; omega
       have hrun:=Zdl (ty:=ty) (c:=c) (a:=a) (b:=⟨(r id).blk,(r id).off+idx*te.size,none⟩) (m:=xs.length) ht htx hi (by rw [g1]; exact Ey) (Nj.1 hg) (by rw [hadd]; exact hst)
       obtain ⟨m1,m2⟩:=k3.moveExt (k:=k) (pn:=py) (new:=y0::ys) (idx:=idx) hk hkn hbk (by omega) (by omega) Ey.each (fun i e j c hi hj=>by
        obtain ⟨v,a,b⟩:=Ey.cells i e j c hi hj
        have hlt:=(Qi.1 a).1
        refine ⟨v,?_,b.mono ⟨fun id h=>⟨h,rfl⟩,k4.imm,k4.size⟩⟩
        have:=k5 (i*te.size+j) (by simpa using hlt)
        rw [this]; simpa using a)
       have hD:(fun i=>D i\/((Eff.app id (.row te.size (xs++(y0::ys)) true (pu&&py))).adds=true/\i=k))=(fun i=>D i\/i=k):=funext fun i=>by simp [Mr]
       unfold Gives
       rw [hD]
       refine ⟨_,_,_,hrun,?_,k4.trans m2,?_⟩
       ·simp only [Eff.go]
        rw [<-e2]
        simpa using m1
       ·have:=VR.asl (r:=rupd r k ⟨(r id).blk,(r id).off+idx*te.size,(r id).cap-idx,te.size,elems.length-idx+(y0::ys).length⟩) (I:=I)
         (w:=w.setRow (r id).blk (cs.toList.take ((r id).off+elems.length*te.size)++news.toArray.toList++cs.toList.drop ((r id).off+elems.length*te.size+news.toArray.toList.length)).toArray) (fun i=>D i\/i=k) k 0 (xs.length+(y0::ys).length) (.inr rfl) (by simp only [rupd,if_true]; omega)
        simpa [rupd] using this
     ·cases ha
    ·rename_i id idx sub len cap
     obtain ⟨hc1,ha2⟩:=Zd ha
     clear ha
     have ha:=ha2
     clear ha2
     have hc1:=Qh hc1
     cases ha
     have:sCap=xs.length:=by
      generalize hq:(Qas base xs.length sCap)=q at hx
      cases hx
      injection hq with _ q1 q2
      omega
     subst this
     exact grow (by simp only [Qz]; omega) h H _ rfl rfl
    ·cases ha
   ·cases ha
 ·cases ha
variable {r r' : Locs} {D D' : Nat->Prop} {I I' : Imm} {w w' w0:World} {I0:Imm} {B n n' k:Nat} {pr:Nat->Obj->Prop} {h:Nat->ABlk} {P:Program}
def Zid:Option AV->Nat->Option Nat
 | none,d=>some d
 | some (.int _ i),_=>cond (decide (0<=i)) (some i.toNat) none
 | _,_=>none
def BndR (o:Option Value) (d v:Nat):Prop:=(o=none/\v=d)\/(∃ k i,o=some (.int k i)/\0<=i/\v=i.toNat)
theorem Zcz {ev:Operand->AV} {ρ:Operand->Value} (hev:∀ x,VR r I w D (ev x) (ρ x)) {o:Option Operand} {d v:Nat} (h:Zid (o.map ev) d=some v):BndR (o.map ρ) d v:=by
 cases o with
 | none=>simp only [Option.map_none,Zid,Qf] at h; exact .inl ⟨rfl,h.symm⟩
 | some x =>
  simp only [Nr] at h
  have hx:=hev x
  unfold Zid at h
  split at h
  ·rename_i h'; cases h'
  ·rename_i k i h'
   rw [Qf] at h'
   rw [h'] at hx
   obtain ⟨q1,q2⟩:=Zd h
   simp only [decide_eq_true_eq] at q1
   simp only [Qf] at q2
   refine .inr ⟨k,i,?_,q1,q2.symm⟩
   have:ρ x = .int k i:=by generalize ρ x=z at hx; cases hx; rfl
   simp [this]
  ·cases h
theorem Uu {k:IntKind} {i:Int} {y:Nat} (h0:0<=i) (h1:i.toNat<=y) (c:BoundsCode):(Qal (.int k i) y c).run P w = .ok i.toNat w:=by
 have:0<=i/\i<=(y:Int):=⟨h0,by omega⟩
 simp [Qal,asIntOf,this]
theorem Xw (s:Bool) {len cap ll hh:Nat} {lo hi:Option Value} (h1:BndR hi len hh) (h2:BndR lo 0 ll) (hle:ll<=hh) (hc:hh<=cap):(Dw s len cap lo hi none).run P w = .ok (ll,hh,cap) w:=by
 unfold Dw
 rcases h1 with ⟨rfl,rfl⟩|⟨k1,i1,rfl,q1,rfl⟩<;>rcases h2 with ⟨rfl,rfl⟩|⟨k2,i2,rfl,q2,rfl⟩
 ·simp
 ·simp [Uu (P:=P) (w:=w) (k:=k2) q2 hle]
 ·simp [Uu (P:=P) (w:=w) (k:=k1) q1 hc]
 ·simp [Uu (P:=P) (w:=w) (k:=k1) q1 hc,Uu (P:=P) (w:=w) (k:=k2) q2 hle]
def Zg7 (T:Tab) (h:Nat->ABlk) (t:TypeId) (x:AV) (lo hi:Option AV):Option AV :=
 match T t with
 | some ti=>match ti.desc with
  | .slice e=>match T e with
   | some te=>match x with
    | .nils=>match Zid hi 0,Zid lo 0 with
     | some 0,some 0=>some .nils
     | _,_=>none
    | .asl id idx len=>match h id with
     | .row es _ _ _=>match Zid hi len,Zid lo 0 with
      | some hh,some ll=>cond (Qs es te.size&&Su ll hh&&Su hh len&&(Qs ll 0||Pp ll len)) (some (.asl id (idx+ll) (hh-ll))) none
      | _,_=>none
     | _=>none
    | .isl es els=>match hi,Zid lo 0 with
     | none,some ll=>cond (Qs es te.size&&Pp ll els.length) (some (.isl es (els.drop ll))) none
     | _,_=>none
    | _=>none
   | none=>none
  | .string=>match x with
   | .str s=>match Zid hi s.size,Zid lo 0 with
    | some hh,some ll=>cond (Su ll hh&&Su hh s.size) (some (.str (s.extract ll hh))) none
    | _,_=>none
   | _=>none
  | .array m e=>match T e with
   | some te=>match x with
    | .ptr id idx sub=>match Zid hi m,Zid lo 0 with
     | some hh,some ll=>cond (Su ll hh&&Su hh m&&(Qs ll 0||Pp ll m)) (some (.bsl id idx (sub+ll*te.size) (hh-ll) (m-ll))) none
     | _,_=>none
    | _=>none
   | none=>none
  | _=>none
 | none=>none
theorem Zvj {T:Tab} (hT:TabOK P T) (H:HR B w0 I0 pr r I D h n w) {ev:Operand->AV} {ρ:Operand->Value} (hev:∀ x,VR r I w D (ev x) (ρ x)) {t:TypeId} {x:AV} {u:Value} {lo hi:Option Operand} {v:AV} (hx:VR r I w D x u)
  (hv:Zg7 T h t x (lo.map ev) (hi.map ev)=some v):∃ y,(Li t u (lo.map ρ) (hi.map ρ) none).run P w = .ok y w/\VR r I w D v y:=by
 unfold Zg7 at hv
 split at hv
 ·rename_i ti hti
  have hu:=hT.und t ti hti
  split at hv
  ·rename_i e hd
   rw [hd] at hu
   split at hv
   ·rename_i te hte
    have hs:=Vp (P:=P) (w:=w) hT hte
    split at hv
    ·split at hv
     ·rename_i q1 q2
      cases hv
      have b1:=Zcz hev q1
      have b2:=Zcz hev q2
      cases hx
      have hb:=Xw (P:=P) (w:=w) true (cap:=0) b1 b2 (Qd _) (Qd _)
      exact ⟨_,by simp [Li,run_underlying hu,Fp,hb,hs],.nils _⟩
     ·cases hv
    ·rename_i id idx len
     split at hv
     ·rename_i es elems mt pu hb
      split at hv
      ·rename_i hh ll q1 q2
       obtain ⟨c1,hv2⟩:=Zd hv
       clear hv
       simp only [Qc,Ro] at c1
       obtain ⟨⟨⟨c1,c2⟩,c3⟩,c4⟩:=c1
       have c1:=Qh c1
       have c2:=Qm c2
       have c3:=Qm c3
       simp only [Th] at c4
       cases hv2
       have b1:=Zcz hev q1
       have b2:=Zcz hev q2
       have hB:=H.blk id
       rw [hb] at hB
       have hB1:=hB.1
       have hB2:=hB.2.1
       cases hx with
       | asl _ _ _ _ hdd hc =>
        have hbs:=Xw (P:=P) (w:=w) true (cap:=(r id).cap-idx) b1 b2 c2 (by omega)
        have hval:VR r I w D (.asl id (idx+ll) (hh-ll)) (.slice (some ⟨(r id).blk,(r id).off+(idx+ll)*(r id).es,none⟩) (hh-ll) ((r id).cap-(idx+ll))):=.asl _ _ _ _ hdd (by omega)
        refine ⟨_,?_,hval⟩
        simp only [Li,Sn,run_underlying hu,Rq,Fp,hbs,hs,Pr]
        have e1:(r id).cap-idx-ll=(r id).cap-(idx+ll):=by omega
        have e2:(if (r id).cap-idx=ll then some (⟨(r id).blk,(r id).off+idx*(r id).es,none⟩:Addr) else Option.map (fun x:Addr=>x.add (ll*te.size)) (some ⟨(r id).blk,(r id).off+idx*(r id).es,none⟩))=some ⟨(r id).blk,(r id).off+(idx+ll)*(r id).es,none⟩:=by
         have:(idx+ll)*(r id).es=idx*(r id).es+ll*(r id).es:=Tp _ _ _
         have e3:te.size=(r id).es:=by rw [hB1.1,c1]
         split
         ·rename_i h0
          have:ll=0:=by
           rcases c4 with c4|c4
           ·exact Qh c4
           ·omega
          subst this
          simp
         ·rw [Nr,Xu,e3]; congr 2; omega
        rw [e1,e2]
      ·cases hv
     ·cases hv
    ·rename_i es els
     split at hv
     ·rename_i ll q0 q2
      obtain ⟨c1,hv2⟩:=Zd hv
      clear hv
      simp only [Qc,Th] at c1
      obtain ⟨c1,c2⟩:=c1
      have c1:=Qh c1
      cases hv2
      have b1:BndR (hi.map ρ) els.length els.length:=by
       cases hi with
       | none=>exact .inl ⟨rfl,rfl⟩
       | some z=>cases q0
      have b2:=Zcz hev q2
      cases hx with
      | isl0=>simp at c2
      | isl _ _ _ b o cap val hl g0 g1 g2 =>
       have hbs:=Xw (P:=P) (w:=w) true (cap:=cap) b1 b2 (Nat.le_of_lt c2) hl
       have hlen:(els.drop ll).length=els.length-ll:=Ni
       have hval:VR r I w D (.isl es (els.drop ll)) (.slice (some ⟨b,o+ll*es,none⟩) (els.drop ll).length (cap-ll)):=by
        refine .isl _ _ _ _ _ _ (fun i j=>val (ll+i) j) (by omega) (fun i e he=>g0 (ll+i) e (by rw [<-Rz]; exact he)) (fun i e j c he hc=>?_) (fun i e j c he hc=>g2 (ll+i) e j c (by rw [<-Rz]; exact he) hc)
        have:=g1 (ll+i) e j c (by rw [<-Rz]; exact he) hc
        have ea:o+(ll+i)*es+j=o+ll*es+i*es+j:=by rw [Tp]; omega
        rw [ea] at this
        exact this
       rw [hlen] at hval
       refine ⟨_,?_,hval⟩
       simp only [Li,Sn,run_underlying hu,Rq,Fp,hbs,hs,Pr]
       have e2:(if cap=ll then some (⟨b,o,none⟩:Addr) else Option.map (fun x:Addr=>x.add (ll*te.size)) (some ⟨b,o,none⟩))=some ⟨b,o+ll*es,none⟩:=by
        split
        ·omega
        ·rw [Nr,Xu,c1]
       rw [e2]
     ·cases hv
    ·cases hv
   ·cases hv
  ·rename_i hd
   rw [hd] at hu
   split at hv
   ·rename_i s
    split at hv
    ·rename_i hh ll q1 q2
     obtain ⟨c1,hv2⟩:=Zd hv
     clear hv
     simp only [Qc] at c1
     have c2:=Qm c1.1
     have c3:=Qm c1.2
     cases hv2
     have b1:=Zcz hev q1
     have b2:=Zcz hev q2
     cases hx
     have hbs:=Xw (P:=P) (w:=w) false (cap:=s.size) b1 b2 c2 c3
     exact ⟨_,by simp [Li,run_underlying hu,Fp,hbs],.str _ _⟩
    ·cases hv
   ·cases hv
  ·rename_i m e hd
   rw [hd] at hu
   split at hv
   ·rename_i te hte
    have hs:=Vp (P:=P) (w:=w) hT hte
    split at hv
    ·rename_i id idx sub
     split at hv
     ·rename_i hh ll q1 q2
      obtain ⟨c1,hv2⟩:=Zd hv
      clear hv
      simp only [Qc,Ro] at c1
      obtain ⟨⟨c1,c2⟩,c4⟩:=c1
      have c1:=Qm c1
      have c2:=Qm c2
      simp only [Th] at c4
      cases hv2
      have b1:=Zcz hev q1
      have b2:=Zcz hev q2
      cases hx with
      | ptr _ _ _ _ hdd =>
       have hbs:=Xw (P:=P) (w:=w) false (cap:=m) b1 b2 c1 c2
       have hval:VR r I w D (.bsl id idx (sub+ll*te.size) (hh-ll) (m-ll)) (.slice (some ⟨(r id).blk,(r id).off+idx*(r id).es+(sub+ll*te.size),none⟩) (hh-ll) (m-ll)):=.bsl _ _ _ _ _ _ hdd
       refine ⟨_,?_,hval⟩
       simp only [Li,Instr.sureAddr,Sn,run_underlying hu,Rq,hbs,hs,Pr]
       congr 3
       split
       ·rename_i h0
        have:ll=0:=by
         rcases c4 with c4|c4
         ·exact Qh c4
         ·omega
        subst this
        simp
       ·rw [Xu]; congr 1; omega
     ·cases hv
    ·cases hv
   ·cases hv
  ·cases hv
 ·cases hv
def Zpg (op:BinOp) (k:IntKind) (x:Int) (k' : IntKind) (y:Int):Option AV :=
 match op with
 | .shl=>cond (decide (0<=y)) (some (.int k (k.wrap (x*2 ^ (min y.toNat k.bits))))) none
 | .shr=>cond (decide (0<=y)) (some (.int k (x.fdiv (2 ^ (min y.toNat k.bits))))) none
 | .and=>cond (decide (k=k')) (some (.int k (k.wrap (Kg k.bits x &&& Kg k.bits y).toNat))) none
 | .or=>cond (decide (k=k')) (some (.int k (k.wrap (Kg k.bits x ||| Kg k.bits y).toNat))) none
 | .xor=>cond (decide (k=k')) (some (.int k (k.wrap (Kg k.bits x ^^^ Kg k.bits y).toNat))) none
 | _=>none
theorem Yat {op:BinOp} {k1 k2:IntKind} {x y:Int} {v:AV} (hv:Zpg op k1 x k2 y=some v) (t:TypeId) (a b:Operand):∃ u,(do eqGuard op t a b (.int k1 x) (.int k2 y); binOp op t (.int k1 x) (.int k2 y):Sem Value).run P w = .ok u w/\VR r I w D v u:=by
 have hg:(eqGuard op t a b (.int k1 x) (.int k2 y)).run P w = .ok () w:=by
  unfold eqGuard
  cases op<;>simp
 have:∃ u,(binOp op t (.int k1 x) (.int k2 y)).run P w = .ok u w/\VR r I w D v u:=by
  cases op<;>simp only [Zpg,reduceCtorEq] at hv<;>obtain ⟨c,hv2⟩:=Zd hv<;>cases hv2<;>simp only [decide_eq_true_eq] at c
  case shl=>exact ⟨_,by simp [binOp,Op.shift,Mu.2 c],.int _ _ _⟩
  case shr=>exact ⟨_,by simp [binOp,Op.shift,Mu.2 c],.int _ _ _⟩
  all_goals subst c; exact ⟨_,by simp [binOp,Op.intBits],.int _ _ _⟩
 obtain ⟨u,h1,h2⟩:=this
 exact ⟨u,by simp only [Sn,hg,Rq]; exact h1,h2⟩
def Yes (op:BinOp) (k:FloatKind) (x:Nat) (k' : FloatKind) (y:Nat):Option AV :=
 match op with
 | .add | .sub | .mul | .quo=>cond (decide (k=k')) (match floatBits op k x y with
  | some r=>some (.flt k r)
  | none=>none) none
 | .eql=>cond (decide (k=k')) (some (.bool (k.format.order x y==some .eq))) none
 | .neq=>cond (decide (k=k')) (some (.bool (k.format.order x y != some .eq))) none
 | .lss=>cond (decide (k=k')) (some (.bool (k.format.order x y==some .lt))) none
 | .leq=>cond (decide (k=k')) (some (.bool (k.format.order x y==some .lt||k.format.order x y==some .eq))) none
 | .gtr=>cond (decide (k=k')) (some (.bool (k.format.order x y==some .gt))) none
 | .geq=>cond (decide (k=k')) (some (.bool (k.format.order x y==some .gt||k.format.order x y==some .eq))) none
 | _=>none
theorem Yer {op:BinOp} {k1 k2:FloatKind} {x y:Nat} {v:AV} (hv:Yes op k1 x k2 y=some v) (t:TypeId) (a b:Operand):∃ u,(do eqGuard op t a b (.float k1 x) (.float k2 y); binOp op t (.float k1 x) (.float k2 y):Sem Value).run P w = .ok u w/\VR r I w D v u:=by
 have hg:(eqGuard op t a b (.float k1 x) (.float k2 y)).run P w = .ok () w:=by
  unfold eqGuard
  cases op<;>simp
 have:∃ u,(binOp op t (.float k1 x) (.float k2 y)).run P w = .ok u w/\VR r I w D v u:=by
  cases op<;>simp only [Yes,reduceCtorEq] at hv<;>obtain ⟨c,hv2⟩:=Zd hv<;>simp only [decide_eq_true_eq] at c<;>subst c
  case add|sub|mul|quo =>
   split at hv2
   ·rename_i r hr; cases hv2; exact ⟨_,run_float_arith w _ t k1 x y r hr,.flt _ _ _⟩
   ·cases hv2
  all_goals cases hv2; exact ⟨_,by simp only [binOp_float_cmp_eql,binOp_float_cmp_neq,binOp_float_cmp_lss,binOp_float_cmp_leq,binOp_float_cmp_gtr,binOp_float_cmp_geq]; rfl,.bool _ _⟩
 obtain ⟨u,h1,h2⟩:=this
 exact ⟨u,by simp only [Sn,hg,Rq]; exact h1,h2⟩
def Zq4 (T:Tab) (src dst:TypeId) (a:AV):Option AV :=
 match T src,T dst with
 | some _,some td=>match td.desc,a with
  | .float k,.int _ n=>some (.flt k (k.nearest n))
  | .int k,.flt s b=>match (s.decode b).toInt .zero with
   | some n=>cond (decide (k.min<=n/\n<=k.max)) (some (.int k n)) none
   | none=>none
  | _,_=>none
 | _,_=>none
theorem Zyj {T:Tab} (hT:TabOK P T) {src dst:TypeId} {a v:AV} {u:Value} (ha:VR r I w D a u) (hv:Zq4 T src dst a=some v):∃ x,(convert src dst u).run P w = .ok x w/\VR r I w D v x:=by
 unfold Zq4 at hv
 split at hv
 ·rename_i ts td hs hd
  have h1:=hT.und src ts hs
  have h2:=hT.und dst td hd
  split at hv
  ·rename_i kk _ nn hdd
   cases ha
   cases hv
   rw [hdd] at h2
   exact ⟨_,by simp [convert,run_underlying h1,run_underlying h2,Conv.intToFloat],.flt _ _ _⟩
  ·rename_i kk ss bb hdd
   cases ha
   rw [hdd] at h2
   split at hv
   ·rename_i m hm
    obtain ⟨c,hv2⟩:=Zd hv
    cases hv2
    simp only [decide_eq_true_eq] at c
    refine ⟨.int kk m,?_,.int _ _ _⟩
    simp [convert,run_underlying h1,run_underlying h2,Conv.floatToInt,hm,c]
   ·cases hv
  ·cases hv
 ·cases hv
variable {r r' : Locs} {D D' : Nat->Prop} {I I' : Imm} {w w' w0:World} {I0:Imm} {B n n' k:Nat} {pr:Nat->Obj->Prop} {h:Nat->ABlk} {P:Program}
def Znk:Operand->Operand->Bool
 | .tmp a,.tmp b=>Qs a b
 | .const (.int k a),.const (.int k' b)=>decide (k=k')&&decide (a=b)
 | _,_=>false
theorem Zvo {x y:Operand} (h:Znk x y=true):x=y:=by
 unfold Znk at h
 split at h
 ·rw [Qh h]
 ·simp only [Qc,decide_eq_true_eq] at h
  rw [h.1,h.2]
 ·cases h
theorem Zkc {es:Nat} {z:List AV} (hz:z.length=es):∀ m,chunks es m (Zo m z)=Tg m z
 | 0=>rfl
 | m+1=>by
  have e:Zo (m+1) z=z++Zo m z:=by simp [Zo,Jk]
  rw [e,chunks,List.take_left' hz,List.drop_left' hz,Zkc hz m]; rfl
theorem Zhy:∀ (a b:List AV),Yo (a++b)=(Yo a&&Yo b)
 | [],b=>by simp [Yo]
 | c::a,b=>by simp only [List.cons_append,Yo]; rw [Zhy a b,Bool.and_assoc]
theorem Zk6 {z:List AV} (hz:Yo z=true):∀ m,Yo (Zo m z)=true
 | 0=>rfl
 | m+1=>by
  have e:Zo (m+1) z=z++Zo m z:=by simp [Zo,Jk]
  rw [e,Zhy,hz,Zk6 hz m]; rfl
theorem Zjz {T:Tab} (hT:TabOK P T) {t e:TypeId} {ti te:TI} (ht:T t=some ti) (hd:ti.desc = .slice e) (hte:T e=some te) {m:Nat} {kk:IntKind} (hz0:te.zero.length=te.size) (hsz:te.size≠0) (hp:Yo te.zero=true) (hm:m<=1000000) (hb:1000000*te.bytes<=140737488355328)
  (H:HR B w0 I0 pr r I D h n w) (hk:¬ D k) (hkn:k<n) :
  Gives P B w0 I0 pr r I D h n k (Jg t (.int kk m) (.int kk m)) w (.asl k 0 m) (.add (.row te.size (Tg m te.zero) true true)):=by
 obtain ⟨z,hz,h1,h2,h3⟩:=Zft hT hte
 obtain ⟨i,i1,i2,i3,i4⟩:=Zvr (w:=w) hT hte
 have hrep:=(h3 r I w D).repl m
 have hu:=hT.und t ti ht
 rw [hd] at hu
 have hcell:=Zdm z.cells m
 rw [h1] at hcell
 have g:=Zoi (w:=w) (s:=Jg t (.int kk m) (.int kk m)) hT H hk hkn (e:=e) (es:=te.size) (m:=m) (cells:=Zo m te.zero) (xs:=((Tg m z.cells.toList).flatten).toArray) (by simp [Zo,hz0]) hrep ?_
 ·rw [Zkc hz0,Zk6 hp] at g
  exact g
 ·have wl:IntKind.wrap IntKind.i64 (m:Int)=(m:Int):=by rw [Ww]; omega
  have hbm:m*i.bytes<=140737488355328:=by rw [i4]; exact Nat.le_trans (Rt _ hm) hb
  have n2:¬ (281474976710656<(i.bytes:Int)*(m:Int)):=by
   have:((i.bytes*m:Nat):Int)<=140737488355328:=by rw [Pu]; omega
   rw [Int.natCast_mul] at this; omega
  have n3:¬ (roomBytes<m*i.bytes):=by unfold roomBytes; omega
  have n1:¬ ((m:Int)<0):=by omega
  have hi:P.info? e=some i:=i2
  have hr:(Hh (m*te.size)).map (fun x=>(if m*te.size=0 then #[] else z.cells)[x%(if m*te.size=0 then (#[]:Array Value) else z.cells).size]!)=((Tg m z.cells.toList).flatten).toArray:=by
   by_cases hm0:m=0
   ·subst hm0; simp
   ·have hne:m*te.size≠0:=Nat.mul_ne_zero hm0 hsz
    rw [if_neg hne,<-hcell,h1]
  by_cases hm0:m*te.size=0
  ·have hm1:m=0:=by
    rcases Nat.mul_eq_zero.1 hm0 with h|h
    ·exact h
    ·exact absurd h hsz
   subst hm1
   simp [Jg,run_underlying hu,asInt,asIntOf,typeInfo,sizeOf,hi,i3,askRoom,roomBytes,newRow,Ww]
   rw [show ∀ f:Nat->Value,Array.map f (Hh 0) = #[] from fun f=>by apply Oz; simp]
  ·simp only [if_neg hm0] at hr
   simp [Jg,run_underlying hu,asInt,asIntOf,typeInfo,sizeOf,hi,i3,wl,n1,n2,askRoom,n3,hm0,newRow,hr,hz]
variable {r r' : Locs} {D D' : Nat->Prop} {I I' : Imm} {w w' w0:World} {I0:Imm} {B n n' k:Nat} {pr:Nat->Obj->Prop} {h:Nat->ABlk} {P:Program} {ty:TypeId}
def Zmk (elems:List (List AV)) (p:Nat) (ys:List (List AV)):List (List AV):=elems.take p++ys++elems.drop (p+ys.length)
theorem Znv {elems ys:List (List AV)} {p:Nat} (h:p+ys.length<=elems.length) (i:Nat):(Zmk elems p ys)[i]?=if i<p then elems[i]? else if i<p+ys.length then ys[i-p]? else elems[i]?:=Yn elems ys p i h
theorem Zv9 {elems ys:List (List AV)} {p:Nat} (h:p+ys.length<=elems.length):(Zmk elems p ys).length=elems.length:=by simp [Zmk]; omega
theorem HR.overlay (H:HR B w0 I0 pr r I D h n w) {es:Nat} {elems ys:List (List AV)} {pu py:Bool} (hb:h k = .row es elems true pu) {vs:Array Value} {p:Nat} (hp:p+ys.length<=elems.length) (hm:vs.size=ys.length*es)
  (y3:∀ (i:Nat) (e:List AV),ys[i]?=some e->e.length=es) (y6:∀ (i:Nat) (e:List AV) (j:Nat) (c:AV),ys[i]?=some e->e[j]?=some c->∃ v,vs[i*es+j]?=some v/\VR r I w (fun x=>py=false/\D x) c v) :
  ∃ cs:Array Value,∃ T,w.heap[(r k).blk]?=some (.cells cs T (0,0))/\(r k).off+p*es+vs.size<=cs.size /\
   let w':=w.setRow (r k).blk (cs.toList.take ((r k).off+p*es)++vs.toList++cs.toList.drop ((r k).off+p*es+vs.toList.length)).toArray
   HR B w0 I0 pr r I D (hupd h k (.row es (Zmk elems p ys) true (pu&&py))) n w'/\Step r D I w r D I w':=by
 have hB:=H.blk k
 rw [hb] at hB
 obtain ⟨h1,h2,h3,cs,T,fz,h4,h5,h6,h7,_⟩:=hB
 obtain ⟨g1,g2,rfl⟩:=h7 rfl
 have hpe:(p+ys.length)*es=p*es+ys.length*es:=Tp _ _ _
 have hb1:(r k).off+p*es+vs.size<=cs.size:=by
  have:(p+ys.length)*es<=(r k).cap*es:=Rt _ (by omega)
  omega
 refine ⟨cs,T,h4,hb1,?_⟩
 intro w'
 have hh:w'.heap[(r k).blk]?=some (.cells (cs.toList.take ((r k).off+p*es)++vs.toList++cs.toList.drop ((r k).off+p*es+vs.toList.length)).toArray T (0,0)):=setRow_heap w _ cs _ T _ h4
 have hoth:∀ b,b≠(r k).blk->w'.heap[b]?=w.heap[b]?:=fun b hne=>setRow_other w _ _ _ hne
 have hget:∀ q,(cs.toList.take ((r k).off+p*es)++vs.toList++cs.toList.drop ((r k).off+p*es+vs.toList.length)).toArray[q]? =
   if q<(r k).off+p*es then cs[q]? else if q<(r k).off+p*es+vs.toList.length then vs[q-((r k).off+p*es)]? else cs[q]?:=by
  intro q
  have:=Yn cs.toList vs.toList ((r k).off+p*es) q (by simpa using hb1)
  simp only [Np]
  rw [this]
  simp
 refine H.write (k:=k) (w':=w') (by rw [hb]; rfl) ⟨rfl,rfl,rfl,by simp [w'],fun b hlt=>hoth b (by omega)⟩ g1 (fun o ho=>(g2 o ho).elim) (fun o ho=>by
  rw [h4] at ho
  obtain rfl:=Sr ho
  exact ⟨fun l=>by simp,fun l=>by simp⟩) (size_setRow _ _ _) hoth (.row es (Zmk elems p ys) true (pu&&py)) (fun st=>?_)
 have hlen:=Zv9 (ys:=ys) hp
 refine ⟨⟨h1.1,by rw [hlen]; exact h1.2⟩,by rw [hlen]; exact h2,fun i e he=>?_,_,T,(0,0),hh,by simp; omega,fun i e j c he hj=>?_,fun _=>⟨g1,g2,rfl⟩,by simp⟩
 ·rw [Znv hp] at he
  split at he
  ·exact h3 i e he
  ·split at he
   ·exact y3 _ e he
   ·exact h3 i e he
 ·rw [Znv hp] at he
  have hsz:vs.toList.length=ys.length*es:=by simpa using hm
  split at he
  ·rename_i hi
   obtain ⟨v,a,b⟩:=h6 i e j c he hj
   refine ⟨v,?_,b.mono ⟨fun id h=>⟨⟨by simp [h.1],h.2⟩,rfl⟩,st.imm,st.size⟩⟩
   have hjl:j<es:=by have:=h3 i e he; have:=(Qi.1 hj).1; omega
   have:(i+1)*es<=p*es:=Rt _ hi
   have:(i+1)*es=i*es+es:=Ps _ _
   rw [hget,if_pos (by omega)]; exact a
  ·split at he
   ·rename_i hi1 hi2
    obtain ⟨v,a,b⟩:=y6 (i-p) e j c he hj
    refine ⟨v,?_,b.mono ⟨fun id h=>⟨⟨by simp [h.1],h.2⟩,rfl⟩,st.imm,st.size⟩⟩
    have hjl:j<es:=by have:=y3 _ e he; have:=(Qi.1 hj).1; omega
    have e1:(i-p)*es+p*es=i*es:=by rw [<-Tp]; congr 1; omega
    have e2:(i-p+1)*es<=ys.length*es:=Rt _ (by omega)
    have e3:(i-p+1)*es=(i-p)*es+es:=Ps _ _
    rw [hget,if_neg (by omega),if_pos (by omega),<-a]
    congr 1; omega
   ·rename_i hi1 hi2
    obtain ⟨v,a,b⟩:=h6 i e j c he hj
    refine ⟨v,?_,b.mono ⟨fun id h=>⟨⟨by simp [h.1],h.2⟩,rfl⟩,st.imm,st.size⟩⟩
    have e1:(p+ys.length)*es<=i*es:=Rt _ (by omega)
    rw [hget,if_neg (by omega),if_neg (by omega)]; exact a
variable {r r' : Locs} {D D' : Nat->Prop} {I I' : Imm} {w w' w0:World} {I0:Imm} {B n n' k:Nat} {pr:Nat->Obj->Prop} {h:Nat->ABlk} {P:Program} {ty:TypeId}
def Zur (h:Nat->ABlk) (te:TI) (x y:AV):Option (AV × Eff) :=
 match Yv te.size h y with
 | none=>none
 | some (ys,py)=>match x with
  | .asl id idx len=>match h id with
   | .row es elems true px=>cond (Qs te.size es&&(Su ys.length len&&(Su (idx+ys.length) elems.length&&Xs ys))) (some (.int .i64 ys.length,.put id (.row te.size (Zmk elems idx ys) true (px&&py)))) none
   | _=>none
  | _=>none
theorem Zmc {t tx ty e e' : TypeId} (ht:P.underlying t=some (.slice e)) (htx:P.underlying tx=some (.slice e')) {i:TypeInfo} (hi:P.info? e=some i) {b:Addr} {a:Option Addr} {sCap c m:Nat}
  {ys:List (List AV)} {py:Bool} {news:List Value} (Ey:ElsR r' I' w D' i.size ys py a news) (hg:ys.length<=m) {w' : World} (hst:(storeCells b news 0).run P w = .ok () w') :
  (De #[t,tx] ty #[.slice (some b) m sCap,.slice a ys.length c]).run P w = .ok (goInt ys.length) w':=by
 have hf:=Ey.first (P:=P) (w':=w) (fun _=>rfl) c
 have hm:Nat.min ys.length m=ys.length:=Ns hg
 have hm2:min ys.length m=ys.length:=Ns hg
 simp [De,run_underlying ht,run_underlying htx,sizeOf,typeInfo,hi,Hx,hm,hm2,hf,hst]
theorem Zui {T:Tab} (hT:TabOK P T) {t tx e e' : TypeId} (ht:P.underlying t=some (.slice e)) (htx:P.underlying tx=some (.slice e')) {te:TI} (hte:T e=some te) (H:HR B w0 I0 pr r I D h n w)
  {x y res:AV} {u v:Value} (hx:VR r I w D x u) (hy:VR r I w D y v) {eff:Eff} (ha:Zur h te x y=some (res,eff)):Gives P B w0 I0 pr r I D h n k (De #[t,tx] ty #[u,v]) w res eff:=by
 obtain ⟨i,hi,g1,g2,z,hz,g3,_⟩:=hT.info e te hte
 unfold Zur at ha
 split at ha
 ·cases ha
 rename_i ys py hys
 split at ha
 ·rename_i id idx len
  split at ha
  ·rename_i es elems px hq
   obtain ⟨c1,ha⟩:=Zd ha
   cases ha
   simp only [Qc] at c1
   obtain ⟨c1,c0,c2,c3⟩:=c1
   have c1:=Qh c1
   subst c1
   have c0:=Qm c0
   have c2:=Qm c2
   obtain ⟨a,c,news,rfl,Ey⟩:=Zab H hy hys
   have hB:=H.blk id
   rw [hq] at hB
   obtain ⟨⟨hb1,hb2⟩,hb3,_⟩:=hB
   obtain ⟨base,sCap,rfl,hbase,hcapv,hdd⟩:∃ base sCap,u = .slice base len sCap/\base=some ⟨(r id).blk,(r id).off+idx*te.size,none⟩/\sCap=(r id).cap-idx/\D id:=by
    cases hx with
    | asl _ _ _ _ hd hc=>exact ⟨_,_,rfl,by rw [hb1],rfl,hd⟩
   subst hbase
   subst hcapv
   have hnl:news.length=ys.length*te.size:=Ey.len
   obtain ⟨cs,T',k1,k2,k3,k4⟩:=H.overlay (ys:=ys) (py:=py) hq (vs:=news.toArray) (p:=idx) c2 (by simpa using hnl) Ey.each (fun i e j c hi hj=>by
    obtain ⟨v,a,b⟩:=Ey.cells i e j c hi hj
    exact ⟨v,by simpa using a,b⟩)
   have hone:∀ v∈news,v.oneCell'=true:=by
    intro v hv
    obtain ⟨q,hq,rfl⟩:=Wo hv
    rw [hnl] at hq
    have hes:0<te.size:=by rcases Oj te.size with e|e; rw [e] at hq; simp at hq; exact e
    have q1:q / te.size<ys.length:=(Mn hes).2 hq
    have q2:q%te.size<te.size:=Tx _ hes
    have q3:q / te.size*te.size+q%te.size=q:=by rw [Pu]; exact Mj _ _
    have hi1:ys[q / te.size]?=some ys[q / te.size]:=Qe q1
    have hjl:q%te.size<(ys[q / te.size]).length:=by have:=Ey.each _ _ hi1; omega
    obtain ⟨v,a,b⟩:=Ey.cells _ _ _ _ hi1 (Qe hjl)
    rw [q3] at a
    have:news[q]=v:=by rw [Qe (by omega)] at a; exact Sr a
    rw [this]
    refine b.one ?_
    have h5:=Rf.1 c3 _ (Qn q1)
    exact Rf.1 h5 _ (Qn hjl)
   have hst:=run_storeCells_at P (r id).blk ((r id).off+idx*te.size) T' news 0 cs w k1 (by simpa using k2) hone
   have hrun:=Zmc (ty:=ty) (c:=c) (a:=a) (b:=⟨(r id).blk,(r id).off+idx*te.size,none⟩) (m:=len) (sCap:=(r id).cap-idx) ht htx hi (by rw [g1]; exact Ey) c0 hst
   have hD:(fun i=>D i\/((Eff.put id (.row te.size (Zmk elems idx ys) true (px&&py))).adds=true/\i=k))=D:=funext fun i=>by simp [Mr]
   unfold Gives
   rw [hD]
   exact ⟨_,_,_,hrun,k3,k4,.int _ _ _⟩
  ·cases ha
 ·cases ha
variable {r r' : Locs} {D D' : Nat->Prop} {I I' : Imm} {w w' w0:World} {I0:Imm} {B n n' k:Nat} {pr:Nat->Obj->Prop} {h:Nat->ABlk} {P:Program}
def Uy (P:Program) (B:Nat) (w0:World) (I0:Imm) (pr:Nat->Obj->Prop) (r:Locs) (I:Imm) (D:Nat->Prop) (h:Nat->ABlk) (n k:Nat) (s:Sem Next) (w:World) (v:AV) (e:Eff):Prop :=
 ∃ x w' r' I',(s.run P w = .ok (.value x) w'\/(s.run P w = .ok .skip w'/\x=undef))/\HR B w0 I0 pr r' I' (fun i=>D i\/(e.adds=true/\i=k)) (e.go k h) n w' /\
  Step r D I w r' (fun i=>D i\/(e.adds=true/\i=k)) I' w'/\VR r' I' w' (fun i=>D i\/(e.adds=true/\i=k)) v x
theorem OpGives.toI {s:Sem Next} {v:AV} {e:Eff} (g:OpGives P B w0 I0 pr r I D h n k s w v e):Uy P B w0 I0 pr r I D h n k s w v e:=by
 obtain ⟨x,w',r',h1,h2,h3,h4⟩:=g
 exact ⟨x,w',r',I,h1,h2,h3,h4⟩
theorem HR.allocI (H:HR B w0 I0 pr r I D h n w) (o:Obj) (hI1:∀ b p,I b p->I' b p) (hI2:∀ b p,I' b p->I b p\/b=w.heap.size):HR B w0 I0 pr r I' D h n (w.alloc o)/\Step r D I w r D I' (w.alloc o):=by
 have hst:Step r D I w r D I' (w.alloc o):=⟨fun id hd=>⟨hd,rfl⟩,fun b p hi=>⟨hI1 b p hi,World.cell?_of_block (Yc w o (H.imm _ _ hi))⟩,by simp⟩
 refine ⟨⟨H.below.alloc H.base o,by have:=H.base; simp; omega,fun b p hi=>?_,fun id hd=>⟨(H.dom id hd).1,by have:=(H.dom id hd).2; simp; omega⟩,H.live,fun id=>?_,H.inj,fun b o' hp=>?_,fun b o' hp=>⟨(H.protK b o' hp).1,fun p hi=>?_⟩,fun b p hi=>?_⟩,hst⟩
 ·rcases hI2 b p hi with h|h
  ·have:=H.imm b p h; simp; omega
  ·simp; omega
 ·by_cases hd:(h id).live=true
  ·have hlt:=(H.dom id (H.live id hd)).2
   refine (H.blk id).mono hst rfl (fun _=>Yc w o hlt) (fun _ _ _ _ p hp=>?_)
   rcases hI2 _ p hp with h|h
   ·exact h
   ·omega
  ·have:h id = .dead:=by cases hx:h id<;>simp_all [Wi]
   rw [this]; trivial
 ·have h1:=H.prot b o' hp
  have h2:b<w.heap.size:=(Qt.1 h1.1).1
  exact ⟨(Yc w o h2).trans h1.1,h1.2⟩
 ·have h1:=H.prot b o' hp
  have h2:b<w.heap.size:=(Qt.1 h1.1).1
  rcases hI2 b p hi with h|h
  ·exact (H.protK b o' hp).2 p h
  ·omega
 ·rcases hI2 b p hi with h|h
  ·exact H.immB b p h
  ·rw [h]; exact .inr H.base
def Um (s:ByteArray):List (List AV):=s.data.toList.map fun b=>[.int .u8 b.toNat]
def Zqd (T:Tab) (src dst:TypeId):Bool :=
 match T src,T dst with
 | some ts,some td=>match ts.desc,td.desc with
  | .string,.slice e=>match T e with
   | some te=>match te.desc with
    | .int .u8=>true
    | _=>false
   | none=>false
  | _,_=>false
 | _,_=>false
theorem Zqp {T:Tab} (hT:TabOK P T) {src dst:TypeId} (hb:Zqd T src dst=true) (H:HR B w0 I0 pr r I D h n w) {s:ByteArray} {u:Value} (hu:VR r I w D (.str s) u) :
  Uy P B w0 I0 pr r I D h n k (do pure (.value (<-convert src dst u))) w (.isl 1 (Um s)) .none:=by
 unfold Zqd at hb
 split at hb
 ·rename_i ts td hs hd
  split at hb
  ·rename_i e d1 d2
   split at hb
   ·rename_i te hte
    split at hb
    ·rename_i d3
     have h1:=hT.und src ts hs
     have h2:=hT.und dst td hd
     have h3:=hT.und e te hte
     rw [d1] at h1; rw [d2] at h2; rw [d3] at h3
     cases hu
     have hrun:=run_bytes_of_string w src dst e s h1 h2 h3
     have hD:(fun i=>D i\/(Eff.none.adds=true/\i=k))=D:=funext fun i=>by simp [Mr]
     have hsz:s.data.size=s.size:=rfl
     obtain ⟨H',S'⟩:=H.drew.allocI (I':=fun b o=>I b o\/(b=w.heap.size/\o<s.size)) (.cells (bytesRow s (grownCap w s.size 0 e)) e ((bytesRow s (grownCap w s.size 0 e)).size,(bytesRow s (grownCap w s.size 0 e)).size+1)) (fun b p h=>.inl h) (fun b p h=>by
      rcases h with h|h
      ·exact .inl h
      ·exact .inr h.1)
     unfold Uy
     rw [hD]
     refine ⟨_,_,r,_,.inl (by simp [hrun]; rfl),H',(Lz r D I w).trans S',?_⟩
     have hlen:(Um s).length=s.size:=by simp [Um,hsz]
     have hget:∀ (i:Nat) (e:List AV) (j:Nat) (c:AV),(Um s)[i]?=some e->e[j]?=some c->j=0/\∃ b:UInt8,s.data[i]?=some b/\c = .int .u8 b.toNat:=by
      intro i e j c hi hj
      simp only [Um,Rr,Wa] at hi
      obtain ⟨b,hb,rfl⟩:=hi
      cases j with
      | zero=>simp at hj; exact ⟨rfl,b,by simpa using hb,hj.symm⟩
      | succ j=>simp at hj
     have:=VR.isl (r:=r) (I:=fun b o=>I b o\/(b=w.heap.size/\o<s.size)) (w:=w.drew.alloc (.cells (bytesRow s (grownCap w s.size 0 e)) e ((bytesRow s (grownCap w s.size 0 e)).size,(bytesRow s (grownCap w s.size 0 e)).size+1))) D 1 (Um s) w.heap.size 0 (grownCap w s.size 0 e) (fun i _=>(bytesRow s (grownCap w s.size 0 e)).getD i undef)
      (by rw [hlen]; exact grownCap_ge _ _ _ _) (fun i e hi=>by
       simp only [Um,Rr,Wa] at hi
       obtain ⟨b,hb,rfl⟩:=hi; rfl) (fun i e' j c hi hj=>by
       obtain ⟨rfl,b,q1,rfl⟩:=hget i e' j c hi hj
       have hlt:=(Qt.1 q1).1
       refine ⟨.inr ⟨rfl,by omega⟩,?_⟩
       have hlt2:i<(bytesRow s (grownCap w s.size 0 e)).size:=by simp [bytesRow]; omega
       have hh:(w.drew.alloc (.cells (bytesRow s (grownCap w s.size 0 e)) e ((bytesRow s (grownCap w s.size 0 e)).size,(bytesRow s (grownCap w s.size 0 e)).size+1))).heap[w.heap.size]?=some (.cells (bytesRow s (grownCap w s.size 0 e)) e ((bytesRow s (grownCap w s.size 0 e)).size,(bytesRow s (grownCap w s.size 0 e)).size+1)):=Yu w.drew _
       unfold Po
       dsimp only
       rw [Sk,Nat.mul_one,Nt,hh]
       simp [hlt2]) (fun i e' j c hi hj=>by
       obtain ⟨rfl,b,q1,rfl⟩:=hget i e' j c hi hj
       have hlt:=(Qt.1 q1).1
       have hv:(bytesRow s (grownCap w s.size 0 e))[i]?=some (.int .u8 b.toNat):=by
        unfold bytesRow
        rw [Nk (by simpa using hlt)]
        simp [q1]
       have:(bytesRow s (grownCap w s.size 0 e)).getD i undef = .int .u8 b.toNat:=by simp [hv]
       rw [this]
       exact .int _ _ _)
     rw [hlen] at this
     exact this
    ·cases hb
   ·cases hb
  ·cases hb
 ·cases hb
def aopB (T:Tab) (k:Nat) (ev:Operand->AV) (h:Nat->ABlk):Op->Option (AV × Eff)
 | .binOp op _ x y _=>match ev x,ev y with
  | .int k1 a,.int k2 b=>ret (Zpg op k1 a k2 b)
  | .flt k1 a,.flt k2 b=>ret (Yes op k1 a k2 b)
  | _,_=>none
 | .convert s d x=>match ev x with
  | .str t=>cond (Zqd T s d) (some (.isl 1 (Um t),.none)) none
  | x=>ret (Zq4 T s d x)
 | .lookup t x i c=>match ev x,ev i with
  | .amap id,.str s=>match h id with
   | .set keys=>cond (Zff T t && !c) (some (.bool (Ud s keys),.none)) none
   | _=>none
  | _,_=>none
 | .makeMap _ none=>some (.amap k,.add (.set []))
 | .mapUpdate t m x v=>match ev m,ev x,ev v with
  | .amap id,.str s,.bool true=>match h id with
   | .set keys=>cond (Zff T t) (some (.tup [],.put id (.set (addK s keys)))) none
   | _=>none
  | _,_,_=>none
 | .insert t m x v=>match ev m,ev x,ev v with
  | .amap id,.str s,.bool true=>match h id with
   | .set keys=>cond (Zff T t) (some (.tup [],.put id (.set (addK s keys)))) none
   | _=>none
  | _,_,_=>none
 | .slice t x lo hi none=>ret (Zg7 T h t (ev x) (lo.map ev) (hi.map ev))
 | .makeSlice t l c=>match T t with
  | some ti=>match ti.desc with
   | .slice e=>match T e with
    | some te=>cond (Znk l c&&Qs te.zero.length te.size&&Pp 0 te.size&&Yo te.zero&&Su (1000000*te.bytes) 140737488355328) (match ev l with
     | .int _ a=>cond (decide (0<=a/\a.toNat<=1000000)) (some (.asl k 0 a.toNat,.add (.row te.size (Tg a.toNat te.zero) true true))) none
     | _=>none) none
    | none=>none
   | _=>none
  | none=>none
 | .call c=>match c.callee with
  | .builtin .append=>match c.argTypes.toList,c.args.toList with
   | [t,tx],[x,y]=>match T t,T tx with
    | some ti,some tj=>match ti.desc,tj.desc with
     | .slice e,.slice _=>match T e with
      | some te=>Zhp k h te (ev x) (ev y)
      | none=>none
     | _,_=>none
    | _,_=>none
   | _,_=>none
  | .builtin .copy=>match c.argTypes.toList,c.args.toList with
   | [t,tx],[x,y]=>match T t,T tx with
    | some ti,some tj=>match ti.desc,tj.desc with
     | .slice e,.slice _=>match T e with
      | some te=>Zur h te (ev x) (ev y)
      | none=>none
     | _,_=>none
    | _,_=>none
   | _,_=>none
  | .builtin .complex=>match c.args.toList with
   | [x,y]=>match ev x,ev y with
    | .flt k1 a,.flt k2 b=>cond (decide (k1=k2)) (some (.cpx k1 a b,.none)) none
    | _,_=>none
   | _=>none
  | .builtin .real=>match c.args.toList with
   | [x]=>match ev x with
    | .cpx k1 a _=>some (.flt k1 a,.none)
    | _=>none
   | _=>none
  | .builtin .imag=>match c.args.toList with
   | [x]=>match ev x with
    | .cpx k1 _ b=>some (.flt k1 b,.none)
    | _=>none
   | _=>none
  | _=>none
 | _=>none
def aop (T:Tab) (ok:TypeId->Bool) (k:Nat) (ev:Operand->AV) (h:Nat->ABlk) (op:Op):Option (AV × Eff) :=
 match aopA T ok k ev h op with
 | some x=>some x
 | none=>aopB T k ev h op
theorem Znb {s:Sem Unit} {e:Eff} (he:e.adds=false) (hs:∃ w',s.run P w = .ok () w'/\HR B w0 I0 pr r I D (e.go k h) n w'/\Step r D I w r D I w') :
  Uy P B w0 I0 pr r I D h n k (do s; pure .skip) w (.tup []) e:=by
 obtain ⟨w',e1,e2,e3⟩:=hs
 have hD:(fun i=>D i\/(e.adds=true/\i=k))=D:=funext fun i=>by simp [he]
 unfold Uy
 rw [hD]
 exact ⟨undef,w',r,I,.inr ⟨by simp [e1],rfl⟩,e2,e3,.tup _ _ _ rfl (fun i c v hc=>by simp at hc)⟩
theorem Zq5 (ats:Array TypeId) (ty:TypeId) (k:FloatKind) (a b:Nat):Builtin.complex_ ats ty #[.float k a,.float k b]=pure (.complex k a b):=by
 show (if k=k then pure (.complex k a b) else _:Sem Value)=_
 rw [if_pos rfl]
theorem Zzx (ats:Array TypeId) (ty:TypeId) (k:FloatKind) (a b:Nat):Builtin.real_ ats ty #[.complex k a b]=pure (.float k a):=rfl
theorem Yad (ats:Array TypeId) (ty:TypeId) (k:FloatKind) (a b:Nat):Builtin.imag_ ats ty #[.complex k a b]=pure (.float k b):=rfl
theorem Zuv {T:Tab} (hT:TabOK P T) (H:HR B w0 I0 pr r I D h n w) (hk:¬ D k) (hkn:k<n) (o:Oper) {ρ:Operand->Value} {ev:Operand->AV}
  (hev:∀ x,VR r I w D (ev x) (ρ x)) {v:AV} {e:Eff} (ha:aopB T k ev h o.op=some (v,e)):Uy P B w0 I0 pr r I D h n k (execOp ρ o) w v e:=by
 obtain ⟨dst,op,type,pos,after,guard⟩:=o
 dsimp only at ha
 unfold aopB at ha
 unfold execOp
 split at ha<;>dsimp only
 ·
  rename_i op t x y ty
  split at ha
  ·rename_i k1 a k2 b hx hy
   obtain ⟨h1,h2⟩:=Yw ha
   dsimp only at h1 h2
   subst h2
   have hxv:=hev x
   have hyv:=hev y
   rw [hx] at hxv; rw [hy] at hyv
   have e1:ρ x = .int k1 a:=by generalize ρ x=z at hxv; cases hxv; rfl
   have e2:ρ y = .int k2 b:=by generalize ρ y=z at hyv; cases hyv; rfl
   rw [e1,e2]
   exact (Om H (Yat h1 t x y)).op.toI
  ·rename_i k1 a k2 b hx hy
   obtain ⟨h1,h2⟩:=Yw ha
   dsimp only at h1 h2
   subst h2
   have hxv:=hev x
   have hyv:=hev y
   rw [hx] at hxv; rw [hy] at hyv
   have e1:ρ x = .float k1 a:=by generalize ρ x=z at hxv; cases hxv; rfl
   have e2:ρ y = .float k2 b:=by generalize ρ y=z at hyv; cases hyv; rfl
   rw [e1,e2]
   exact (Om H (Yer h1 t x y)).op.toI
  ·cases ha
 ·
  rename_i s d x
  have hx:=hev x
  split at ha
  ·rename_i t ht
   rw [ht] at hx
   obtain ⟨c,ha2⟩:=Zd ha
   cases ha2
   exact Zqp hT c H hx
  ·obtain ⟨h1,h2⟩:=Yw ha
   dsimp only at h1 h2
   subst h2
   exact (Om H (Zyj hT hx h1)).op.toI
 ·
  rename_i t x i c
  split at ha
  ·rename_i id s hx hi
   split at ha
   ·rename_i keys hb
    obtain ⟨c1,ha2⟩:=Zd ha
    cases ha2
    simp only [Qc,Bool.not_eq_true'] at c1
    obtain ⟨c1,rfl⟩:=c1
    have hxv:=hev x
    have hiv:=hev i
    rw [hx] at hxv; rw [hi] at hiv
    exact (Zkm hT c1 H hxv hiv hb).op.toI
   ·cases ha
  ·cases ha
 ·
  cases ha
  exact (Zi9 H hk hkn _).op.toI
 ·
  rename_i t m x v'
  split at ha
  ·rename_i id s hm hx hv
   split at ha
   ·rename_i keys hb
    obtain ⟨c1,ha2⟩:=Zd ha
    cases ha2
    have h1:=hev m
    have h2:=hev x
    have h3:=hev v'
    rw [hm] at h1; rw [hx] at h2; rw [hv] at h3
    exact Znb rfl (Zep hT c1 H h1 h2 h3 hb)
   ·cases ha
  ·cases ha
 ·
  rename_i t m x v'
  split at ha
  ·rename_i id s hm hx hv
   split at ha
   ·rename_i keys hb
    obtain ⟨c1,ha2⟩:=Zd ha
    cases ha2
    have h1:=hev m
    have h2:=hev x
    have h3:=hev v'
    rw [hm] at h1; rw [hx] at h2; rw [hv] at h3
    exact Znb rfl (Zep hT c1 H h1 h2 h3 hb)
   ·cases ha
  ·cases ha
 ·
  rename_i t x lo hi
  obtain ⟨h1,h2⟩:=Yw ha
  dsimp only at h1 h2
  subst h2
  exact (Om H (Zvj hT H hev (hev x) h1)).op.toI
 ·
  rename_i t l c
  split at ha
  ·rename_i ti hti
   split at ha
   ·rename_i e1 d1
    split at ha
    ·rename_i te hte
     obtain ⟨c1,ha2⟩:=Zd ha
     simp only [Qc] at c1
     obtain ⟨⟨⟨⟨q1,q2⟩,q3⟩,q4⟩,q5⟩:=c1
     have q1:=Zvo q1
     subst q1
     split at ha2
     ·rename_i kk a hl
      obtain ⟨c2,ha3⟩:=Zd ha2
      obtain ⟨g1,g2⟩:=of_decide_eq_true c2
      cases ha3
      have hv:=hev l
      rw [hl] at hv
      have e2:ρ l = .int kk a:=by generalize ρ l=z at hv; cases hv; rfl
      obtain ⟨m,rfl⟩:∃ m:Nat,a=(m:Int):=⟨a.toNat,by omega⟩
      rw [e2,Int.toNat_natCast]
      have q3:0<te.size:=by simpa [Th] using q3
      exact (Zjz hT hti d1 hte (Qh q2) (by omega) q4 (by omega) (Qm q5) H hk hkn).op.toI
     ·cases ha2
    ·cases ha
   ·cases ha
  ·cases ha
 ·
  rename_i c
  obtain ⟨callee,args,ats⟩:=c
  dsimp only at ha
  split at ha
  ·split at ha
   ·rename_i t tx x y ht hx
    split at ha
    ·rename_i ti tj hti htj
     split at ha
     ·rename_i e1 e2 d1 d2
      split at ha
      ·rename_i te hte
       have h1:=hT.und t ti hti
       have h2:=hT.und tx tj htj
       rw [d1] at h1; rw [d2] at h2
       have e3:ats = #[t,tx]:=by apply Oz; simpa using ht
       have e4:args = #[x,y]:=by apply Oz; simpa using hx
       subst e3
       subst e4
       have g:=(Zh1 (ty:=type) hT h1 h2 hte H hk hkn (hev x) (hev y) ha).op.toI
       obtain ⟨x1,w1,r1,I1,q1,q2⟩:=g
       refine ⟨x1,w1,r1,I1,?_,q2⟩
       simpa [resolve,invoke,builtin] using q1
      ·cases ha
     ·cases ha
    ·cases ha
   ·cases ha
  ·split at ha
   ·rename_i t tx x y ht hx
    split at ha
    ·rename_i ti tj hti htj
     split at ha
     ·rename_i e1 e2 d1 d2
      split at ha
      ·rename_i te hte
       have h1:=hT.und t ti hti
       have h2:=hT.und tx tj htj
       rw [d1] at h1; rw [d2] at h2
       have e3:ats = #[t,tx]:=by apply Oz; simpa using ht
       have e4:args = #[x,y]:=by apply Oz; simpa using hx
       subst e3
       subst e4
       have g:=(Zui (k:=k) (ty:=type) hT h1 h2 hte H (hev x) (hev y) ha).op.toI
       obtain ⟨x1,w1,r1,I1,q1,q2⟩:=g
       refine ⟨x1,w1,r1,I1,?_,q2⟩
       simpa [resolve,invoke,builtin] using q1
      ·cases ha
     ·cases ha
    ·cases ha
   ·cases ha
  ·split at ha
   ·rename_i x y hx
    have e4:args = #[x,y]:=by apply Oz; simpa using hx
    subst e4
    split at ha
    ·rename_i k1 a k2 b h1 h2
     obtain ⟨c,ha2⟩:=Zd ha
     cases ha2
     simp only [decide_eq_true_eq] at c
     subst c
     have hxv:=hev x
     have hyv:=hev y
     rw [h1] at hxv; rw [h2] at hyv
     have e1:ρ x = .float k1 a:=by generalize ρ x=z at hxv; cases hxv; rfl
     have e2:ρ y = .float k1 b:=by generalize ρ y=z at hyv; cases hyv; rfl
     obtain ⟨x1,w1,r1,I1,q1,q2⟩:=(Om (P:=P) (s:=(pure (.complex k1 a b):Sem Value)) H ⟨.complex k1 a b,by simp,.cpx _ _ _ _⟩).op.toI
     refine ⟨x1,w1,r1,I1,?_,q2⟩
     simpa [resolve,invoke,builtin,Zq5,e1,e2] using q1
    ·cases ha
   ·cases ha
  ·split at ha
   ·rename_i x hx
    have e4:args = #[x]:=by apply Oz; simpa using hx
    subst e4
    split at ha
    ·rename_i k1 a b h1
     cases ha
     have hxv:=hev x
     rw [h1] at hxv
     have e1:ρ x = .complex k1 a b:=by generalize ρ x=z at hxv; cases hxv; rfl
     obtain ⟨x1,w1,r1,I1,q1,q2⟩:=(Om (P:=P) (s:=(pure (.float k1 a):Sem Value)) H ⟨.float k1 a,by simp,.flt _ _ _⟩).op.toI
     refine ⟨x1,w1,r1,I1,?_,q2⟩
     simpa [resolve,invoke,builtin,Zzx,e1] using q1
    ·cases ha
   ·cases ha
  ·split at ha
   ·rename_i x hx
    have e4:args = #[x]:=by apply Oz; simpa using hx
    subst e4
    split at ha
    ·rename_i k1 a b h1
     cases ha
     have hxv:=hev x
     rw [h1] at hxv
     have e1:ρ x = .complex k1 a b:=by generalize ρ x=z at hxv; cases hxv; rfl
     obtain ⟨x1,w1,r1,I1,q1,q2⟩:=(Om (P:=P) (s:=(pure (.float k1 b):Sem Value)) H ⟨.float k1 b,by simp,.flt _ _ _⟩).op.toI
     refine ⟨x1,w1,r1,I1,?_,q2⟩
     simpa [resolve,invoke,builtin,Yad,e1] using q1
    ·cases ha
   ·cases ha
  ·cases ha
 ·cases ha
theorem Zpi {T:Tab} (hT:TabOK P T) {ok:TypeId->Bool} (hok:EqOK P ok) (H:HR B w0 I0 pr r I D h n w) (hk:¬ D k) (hkn:k<n) (o:Oper) {ρ:Operand->Value} {ev:Operand->AV}
  (hev:∀ x,VR r I w D (ev x) (ρ x)) {v:AV} {e:Eff} (ha:aop T ok k ev h o.op=some (v,e)):Uy P B w0 I0 pr r I D h n k (execOp ρ o) w v e:=by
 unfold aop at ha
 split at ha
 ·rename_i x hx
  cases ha
  exact (Zls hT hok H hk hkn o hev hx).toI
 ·exact Zuv hT H hk hkn o hev ha
open Go
def fN (n:Nat) (K:Nat->Prop):Prop:=match n with
 | 0=>K 0
 | m+1=>K (m+1)
theorem Zov (n:Nat) (K:Nat->Prop):fN n K=K n:=by cases n<;>rfl
def fB (b:Bool) (K:Bool->Prop):Prop:=match b with
 | true=>K true
 | false=>K false
theorem Yil (b:Bool) (K:Bool->Prop):fB b K=K b:=by cases b<;>rfl
def tA (v:AV) (K:AV->Prop):Prop:=match v with
 | .any=>K .any
 | .bool b=>K (.bool b)
 | .int d n=>K (.int d n)
 | .flt d n=>K (.flt d n)
 | .cpx d n m=>K (.cpx d n m)
 | .val a n c=>K (.val a n c)
 | .str s=>K (.str s)
 | .ptr a b c=>fN a fun a=>fN c fun c=>K (.ptr a b c)
 | .ipt cs=>K (.ipt cs)
 | .nilp=>K .nilp
 | .nils=>K .nils
 | .asl a b c=>fN a fun a=>K (.asl a b c)
 | .bsl a b c d e=>fN a fun a=>K (.bsl a b c d e)
 | .isl n els=>fN n fun n=>K (.isl n els)
 | .amap a=>fN a fun a=>K (.amap a)
 | .func f c0 c1=>K (.func f c0 c1)
 | .yld l=>K (.yld l)
 | .agg cs=>K (.agg cs)
 | .tup cs=>K (.tup cs)
theorem Ztr (v:AV) (K:AV->Prop):tA v K=K v:=by cases v<;>simp only [tA,Zov]
def hL (el:AV->(AV->Prop)->Prop) (cs:List AV):(List AV->Prop)->Prop:=Qbj (motive:=fun _=>(List AV->Prop)->Prop) (fun K=>K []) (fun c _ ih K=>el c fun c=>ih fun cs=>K (c::cs)) cs
theorem Zmu {el:AV->(AV->Prop)->Prop} (h:∀ v K,el v K=K v):∀ (cs:List AV) (K:List AV->Prop),hL el cs K=K cs
 | [],K=>rfl
 | c::cs,K=>by
  show el c (fun c=>hL el cs fun cs=>K (c::cs))=_
  rw [h,Zmu h cs]
def sA (v:AV) (K:AV->Prop):Prop:=match v with
 | .ipt cs=>hL tA cs fun cs=>K (.ipt cs)
 | .agg cs=>hL tA cs fun cs=>K (.agg cs)
 | v=>tA v K
theorem Ydb (v:AV) (K:AV->Prop):sA v K=K v:=by
 unfold sA; split
 ·exact Zmu Ztr _ _
 ·exact Zmu Ztr _ _
 ·exact Ztr _ _
def fA (v:AV) (K:AV->Prop):Prop:=match v with
 | .ipt cs=>hL tA cs fun cs=>K (.ipt cs)
 | .agg cs=>hL tA cs fun cs=>K (.agg cs)
 | .func f c0 c1=>hL sA c0 fun c0=>hL sA c1 fun c1=>K (.func f c0 c1)
 | .tup cs=>hL sA cs fun cs=>K (.tup cs)
 | v=>tA v K
theorem Zow (v:AV) (K:AV->Prop):fA v K=K v:=by
 unfold fA; split
 ·exact Zmu Ztr _ _
 ·exact Zmu Ztr _ _
 ·rw [Zmu Ydb,Zmu Ydb]
 ·exact Zmu Ydb _ _
 ·exact Ztr _ _
def fL (cs:List AV) (K:List AV->Prop):Prop:=hL fA cs K
theorem Yah (cs:List AV) (K:List AV->Prop):fL cs K=K cs:=Zmu Zow cs K
def fK (b:ABlk) (K:ABlk->Prop):Prop:=match b with
 | .row es elems mt pu=>fN es fun es=>fB mt fun mt=>K (.row es elems mt pu)
 | .map l=>K (.map l)
 | .set l=>K (.set l)
 | .dead=>K .dead
theorem Yhd (b:ABlk) (K:ABlk->Prop):fK b K=K b:=by cases b<;>simp only [fK,Zov,Yil]
def Ze7 (l:List (List AV)) (i:Nat) (c:List AV):List (List AV):=match l,i with
 | [_],0=>[c]
 | l,i=>l.set i c
theorem Zbs (l:List (List AV)) (i:Nat) (c:List AV):Ze7 l i c=l.set i c:=by
 unfold Ze7; split<;>rfl
def fEff (e:Eff) (σ:St) (K:St->Prop):Prop:=match e with
 | .none=>K σ
 | .add b=>match σ with
  | ⟨h,n⟩=>fK b fun b=>fN n fun n=>K ⟨(n,b)::h,n+1⟩
 | .put id b=>match σ with
  | ⟨h,n⟩=>fK b fun b=>fN id fun id=>K ⟨(id,b)::h,n⟩
 | .app id b=>match σ with
  | ⟨h,n⟩=>fK b fun b=>fN id fun id=>fN n fun n=>K ⟨(n,b)::(id,.dead)::h,n+1⟩
def fSt (σ:St) (K:St->Prop):Prop:=match σ with
 | ⟨h,n⟩=>fN n fun n=>match h with
  | []=>K ⟨[],n⟩
  | p::h=>K ⟨p::h,n⟩
theorem Zxy (σ:St) (K:St->Prop):fSt σ K=K σ:=by
 obtain ⟨h,n⟩:=σ
 cases h<;>simp only [fSt,Zov]
def fEnv (env:Env) (K:Env->Prop):Prop:=match env with
 | []=>K []
 | p::env=>K (p::env)
theorem Zqs (env:Env) (K:Env->Prop):fEnv env K=K env:=by cases env<;>rfl
def fNs (l:List Nat):(List Nat->Prop)->Prop:=Qbj (motive:=fun _=>(List Nat->Prop)->Prop) (fun K=>K []) (fun c _ ih K=>fN c fun c=>ih fun cs=>K (c::cs)) l
theorem Yck:∀ (l:List Nat) (K:List Nat->Prop),fNs l K=K l
 | [],K=>rfl
 | c::cs,K=>by
  show fN c (fun c=>fNs cs fun cs=>K (c::cs))=_
  rw [Zov,Yck cs]
def fPut (p:Nat × ABlk) (K:Nat × ABlk->Prop):Prop:=match p with
 | (i,b)=>fN i fun i=>fK b fun b=>K (i,b)
theorem Yey (p:Nat × ABlk) (K:Nat × ABlk->Prop):fPut p K=K p:=by obtain ⟨i,b⟩:=p; simp only [fPut,Zov,Yhd]
def Zxz (l:List (Nat × ABlk)):(List (Nat × ABlk)->Prop)->Prop:=Qbj (motive:=fun _=>(List (Nat × ABlk)->Prop)->Prop) (fun K=>K []) (fun c _ ih K=>fPut c fun c=>ih fun cs=>K (c::cs)) l
theorem Zsw:∀ (l:List (Nat × ABlk)) (K:List (Nat × ABlk)->Prop),Zxz l K=K l
 | [],K=>rfl
 | c::cs,K=>by
  show fPut c (fun c=>Zxz cs fun cs=>K (c::cs))=_
  rw [Yey,Zsw cs]
end Go.Sx
