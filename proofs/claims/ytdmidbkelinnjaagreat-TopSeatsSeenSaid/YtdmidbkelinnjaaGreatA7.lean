/- A part of the proof: lemmas. -/
import Derived.Test.YtdmidbkelinnjaaGreatA6
import Derived.Below
import Derived.ChangeOld
import Derived.JoinedOf
import Derived.Laws.FloatArith
import Derived.OpenShut
import Derived.ProofKit
import Derived.ShutString
import Derived.TacticsIn
import Derived.WalkKit
set_option linter.unusedVariables false
set_option linter.unusedSimpArgs false
set_option maxRecDepth 100000
set_option maxHeartbeats 16000000
open Array renaming getD_eq_getD_getElem?->Qu,getElem?_eq_some_iff->Qk,replicate->Wu
open Bool renaming and_eq_true->Qc,false_eq_true->Ra
open Go.Cell renaming ok->Dh,okWide->Ko
open Go.Code renaming wpIn_mono->Qv
open Go.DataW renaming TrodAll->Nn,trod->Pp
open Go.Deferred renaming ofValue->Wm
open Go.Exit renaming inBlock->Pg
open Go.Fence renaming wide->Ru
open Go.Instr renaming endRound->Od
open Go.Lit renaming int->Dg
open Go.Oper renaming semAt_eq->Oi
open Go.Region renaming wanted->Wb
open Go.Sx.ABlk renaming live->Sv
open Go.Sx.Br renaming cases->Oq
open Go.Sx.Chg renaming putObj->Wy
open Go.Sx.Env renaming get_cons->Tu
open Go.Sx.FOK renaming round->Hs
open Go.Sx.Step renaming drew->Lw,refl->Tm
open Go.Value renaming okWide->Lu
open Go.World renaming cell?_of_block->Sn,putObj->Oy
open List renaming all_eq_true->Rf,drop_append->Fh,drop_eq_getElem_cons->Qi,drop_of_length_le->Qj,drop_zero->Ts,flatMap_cons->Su,getElem?_drop->Ri,getElem?_eq_getElem->Qh,getElem?_eq_some_iff->Qg,getElem?_take->Wi,length_append->Ti,length_range->Kk,mem_cons->Qx,mem_range->Wc,nil_append->Tt,range->Tg,range'->Ov,replicate->Rn,take_left'->Ju
open Nat renaming add_mul->Se,beq->Ql,ble->Rx,ble_eq_true_of_le->Hc,blt_eq->Sd,eq_of_beq_eq_true->Qf,le_trans->Qr,lt_of_lt_of_le->Ro,lt_or_ge->Md,mul_comm->Wr,not_lt->Pn,sub_zero->Wt,zero_add->Rv,zero_le->Qm
open Option renaming bind_eq_some_iff->Jf
open Option.some renaming inj->Si,injEq->Qe
open Prod.mk renaming injEq->Re
namespace Go.Sx
open Go Go.RowKit
def WT (T:Tab):Nat->TypeId->List AV->Prop
 | 0,_,_=>False
 | d+1,t,aZ=>match T t with
  | none=>False
  | some ti=>match ti.desc with
   | .bool=>∃ b,aZ=[.bool b]
   | .int k=>∃ n,aZ=[.int k n]/\(Dg k n).wf=true
   | .float k=>∃ b,aZ=[.flt k b]/\(Lit.float k b).wf=true
   | .string=>∃ s,aZ=[.str s]/\s.size<=maxLen
   | .slice e=>match T e with
    | some te=>∃ els,aZ=[.isl te.size els]/\els.length<=maxLen/\∀ x∈els,WT T d e x
    | none=>False
   | .struct fs=>aZ.length=ti.size/\∀ f∈fs.toList,match T f.type with
    | some tf=>WT T d f.type ((aZ.drop f.offset).take tf.size)
    | none=>False
   | .array n e=>match T e with
    | some te=>aZ.length=ti.size/\∀ i,i<n->WT T d e ((aZ.drop (i*te.size)).take te.size)
    | none=>False
   | _=>False
def contig (T:Tab):Nat->List Field->Option Nat
 | o,[]=>some o
 | o,f::fs=>match T f.type with
  | some tf=>cond (Ql f.offset o) (contig T (o+tf.size) fs) none
  | none=>none
def Zid (T:Tab) (S:List TypeId) (t:TypeId):Bool:=match T t with
 | none=>false
 | some ti=>match ti.desc with
  | .bool | .int _ | .float _ | .string=>Ql ti.size 1
  | .slice e=>memN S e&&(match T e with
   | some te=>Ql ti.size 1&&Nat.blt 0 te.size
   | none=>false)
  | .struct fs=>fs.toList.all (fun f=>memN S f.type)&&(match contig T 0 fs.toList with
   | some n=>Ql n ti.size
   | none=>false)
  | .array n e=>memN S e&&(match T e with
   | some te=>Ql (n*te.size) ti.size
   | none=>false)
  | _=>false
theorem Uu {P:Program} {T:Tab} (hT:TabOK P T) {t:TypeId} {ti:TI} (h:T t=some ti):P.cellsOf t=ti.size:=by
 obtain ⟨i,h1,h2,_⟩:=hT.info t ti h
 simp [Program.cellsOf,h1,h2]
def Zhp (T:Tab) (t:TypeId):Nat:=match T t with
 | some ti=>ti.size
 | none=>0
theorem Zq9 {T:Tab} {seg:Field->List AV}:∀ (fs:List Field) (o n:Nat),contig T o fs=some n->(∀ f∈fs,(seg f).length=Zhp T f.type) ->
  (fs.flatMap seg).length=n-o/\o<=n/\∀ f∈fs,o<=f.offset/\((fs.flatMap seg).drop (f.offset-o)).take (Zhp T f.type)=seg f
 | [],o,n,h,_=>by simp only [contig,Qe] at h; subst h; simp
 | f::fs,o,n,h,hs=>by
  simp only [contig] at h
  split at h
  ·rename_i tf htf
   cases hb:Ql f.offset o with
   | false=>rw [hb] at h; cases h
   | true =>
    rw [hb] at h
    have ho:=Qf hb
    simp only [cond_true] at h
    obtain ⟨h1,h2,h3⟩:=Zq9 fs (o+tf.size) n h (fun g hg=>hs g (by simp [hg]))
    have hf:(seg f).length=tf.size:=by rw [hs f (by simp)]; simp [Zhp,htf]
    refine ⟨by simp only [Su,Ti,h1,hf]; omega,by omega,fun g hg=>?_⟩
    simp only [Su]
    rcases Qx.1 hg with rfl|hg
    ·refine ⟨by omega,?_⟩
     rw [ho,Nat.sub_self,Ts]
     have:Zhp T g.type=(seg g).length:=by rw [hs g (by simp)]
     rw [this,Ju]
     rfl
    ·obtain ⟨a,b⟩:=h3 g hg
     refine ⟨by omega,?_⟩
     rw [Fh,Qj (by omega),Tt,show g.offset-o-(seg f).length=g.offset-(o+tf.size) by omega]
     exact b
  ·cases h
theorem Zkz {sz:Nat} {seg:Nat->List AV}:∀ (n k:Nat),(∀ i,(seg i).length=sz)->(((Ov k n).flatMap seg).length=n*sz/\∀ i,i<n->(((Ov k n).flatMap seg).drop (i*sz)).take sz=seg (k+i))
 | 0,k,_=>by simp
 | n+1,k,hs=>by
  obtain ⟨h1,h2⟩:=Zkz n (k+1) hs
  have e:(Ov k (n+1)).flatMap seg=seg k++(Ov (k+1) n).flatMap seg:=by simp [List.range'_succ]
  rw [e]
  refine ⟨by rw [Ti,h1,hs k]; rw [Se,Nat.one_mul]; omega,fun i hi=>?_⟩
  cases i with
  | zero=>simp only [Nat.zero_mul,Ts,Nat.add_zero]; rw [Ju (hs k)]
  | succ i =>
   rw [Fh,Qj (by rw [hs k,Se]; omega),Tt,hs k,show (i+1)*sz-sz=i*sz by rw [Se]; omega,h2 i (by omega)]
   congr 1; omega
section
variable {H:Type} {enc:TypeId × Value->H} {P:Program} {w:World} {spare:Nat->Bool} {held:Bool}
def Im0 (w:World):Imm:=fun b _=>b<w.heap.size
def Ye1 (T:Tab) (w:World) (d:Nat) (t:TypeId) (cs:List Value):Prop :=
 ∃ aZ:List AV,aZ.length=cs.length/\(∀ (i:Nat) (c:AV) (v:Value),aZ[i]?=some c->cs[i]?=some v->VR r0 (Im0 w) w (fun _=>False) c v)/\WT T d t aZ
theorem Zas {T:Tab} {d:Nat} {t:TypeId} {v:Value} {c:AV} (hv:VR r0 (Im0 w) w (fun _=>False) c v) (hw:WT T d t [c]):Ye1 T w d t [v] :=
 ⟨[c],rfl,fun i c' v' hc hv'=>by cases i with
  | zero=>simp at hc hv'; subst hc; subst hv'; exact hv
  | succ i=>simp at hc,hw⟩
theorem Ziq {T:Tab} {S:List TypeId} (hS:S.all (Zid T S)=true) {d:Nat} {t:TypeId} {ti:TI} (ht:T t=some ti) (hm:memN S t=true) {aZ:List AV} (h:WT T d t aZ):aZ.length=ti.size:=by
 have hs:=Rf.1 hS t (Zbj hm)
 unfold Zid at hs
 rw [ht] at hs
 cases d with
 | zero=>exact h.elim
 | succ d =>
  simp only [WT,ht] at h
  dsimp only at hs
  split at h
  ·rename_i hd; rw [hd] at hs; obtain ⟨b,rfl⟩:=h; simp at hs; simp [hs]
  ·rename_i hd; rw [hd] at hs; obtain ⟨b,rfl,_⟩:=h; simp at hs; simp [hs]
  ·rename_i hd; rw [hd] at hs; obtain ⟨b,rfl,_⟩:=h; simp at hs; simp [hs]
  ·rename_i hd; rw [hd] at hs; obtain ⟨b,rfl,_⟩:=h; simp at hs; simp [hs]
  ·rename_i e hd
   rw [hd] at hs
   dsimp only at hs
   cases hte:T e with
   | none=>rw [hte] at h; exact h.elim
   | some te=>rw [hte] at h hs; obtain ⟨els,rfl,_⟩:=h; simp at hs; simp [hs]
  ·exact h.1
  ·rename_i n e hd
   cases hte:T e with
   | none=>rw [hte] at h; exact h.elim
   | some te=>rw [hte] at h; exact h.1
  ·exact h.elim
theorem Zir {α:Type} (l:List α) (P:α->List AV->Prop) (h:∀ x∈l,∃ aZ,P x aZ):∃ g:α->List AV,∀ x∈l,P x (g x):=by
 classical
 exact ⟨fun x=>if hx:x∈l then Classical.choose (h x hx) else [],fun x hx=>by dsimp only; rw [dif_pos hx]; exact Classical.choose_spec (h x hx)⟩
theorem Zju {d:Nat} {t e:TypeId} {cs:List Value} {x:DataW H × List MemPlace} (hu:P.underlying t=some (.slice e)) (h:Pp enc P w 0 spare held (d+1) t cs=some x) :
  cs=[.slice none 0 0]\/∃ (a:Addr) (len cap:Nat),cs=[.slice (some a) len cap]/\len<=cap/\cap<=maxLen/\∀ i,i<len->∃ cells y,w.cells? 0 (a.add (i*P.cellsOf e)) (P.cellsOf e)=some cells/\Pp enc P w 0 spare held d e cells=some y:=by
 unfold Pp at h
 rw [hu] at h
 split at h<;>try (exfalso; simp_all; done)
 ·exact .inl rfl
 ·rename_i e2 a len cap he
  simp only [Qe,TypeDesc.slice.injEq] at he
  subst he
  dsimp only at h
  split at h
  ·rename_i hc
   rw [Jf] at h
   obtain ⟨elems,hel,_⟩:=h
   refine .inr ⟨a,len,cap,rfl,hc.2.1,hc.2.2,fun i hi=>?_⟩
   have hg:=mapM_some_get hel i i (by simp [hi])
   have hl:=mapM_some_length hel
   simp only [Kk] at hl
   have:elems[i]?=some (elems[i]'(by omega)):=by simp [hl,hi]
   rw [this,Jf] at hg
   obtain ⟨cells,hcl,htr⟩:=hg
   exact ⟨cells,_,hcl,htr⟩
  ·cases h
theorem Zoh {a:Addr} {n:Nat} {cells:List Value} (h:w.cells? 0 a n=some cells):cells.length=n/\∀ (j:Nat) (v:Value),cells[j]?=some v->w.cell? (a.add j)=some v:=by
 unfold World.cells? at h
 rw [if_pos (Qm _)] at h
 have hl:=mapM_some_length h
 simp only [Kk] at hl
 refine ⟨hl,fun j v hv=>?_⟩
 have hj:j<n:=by rw [<-hl]; exact (Qg.1 hv).1
 have:=mapM_some_get h j j (by simp [hj])
 rw [this,hv]
theorem Ycr {a:Addr} {v:Value} (h:w.cell? a=some v):a.block<w.heap.size:=by
 unfold World.cell? at h
 split at h
 ·rename_i hb; exact (Qk.1 hb).1
 ·cases h
theorem Zia {d:Nat} {t:TypeId} {fs:Array Field} {cs:List Value} {x:DataW H × List MemPlace} (hu:P.underlying t=some (.struct fs)) (h:Pp enc P w 0 spare held (d+1) t cs=some x) :
  cs.length=P.cellsOf t/\∀ f∈fs.toList,∃ y,Pp enc P w 0 spare held d f.type ((cs.drop f.offset).take (P.cellsOf f.type))=some y:=by
 unfold Pp at h
 rw [hu] at h
 split at h<;>try (exfalso; simp_all; done)
 rename_i fs2 he
 simp only [Qe,TypeDesc.struct.injEq] at he
 subst he
 split at h
 ·rename_i hc
  rw [Option.map_eq_some_iff] at h
  obtain ⟨xs,hx,_⟩:=h
  refine ⟨hc,fun f hf=>?_⟩
  obtain ⟨i,hi⟩:=List.getElem?_of_mem hf
  have:=mapM_some_get hx i f hi
  have hl:=mapM_some_length hx
  have hil:=(Qg.1 hi).1
  exact ⟨xs[i]'(by omega),by rw [this]; simp⟩
 ·cases h
theorem Zdt {T:Tab} (hT:TabOK P T) {S:List TypeId} (hS:S.all (Zid T S)=true):∀ (d:Nat) (t:TypeId) (cs:List Value) (x:DataW H × List MemPlace), memN S t=true->Pp enc P w 0 spare held d t cs=some x->Ye1 T w d t cs
  | 0, t, cs, x, _, h => by simp [Pp] at h
  | d+1, t, cs, x, hm, h => by
    have hs := Rf.1 hS t (Zbj hm)
    unfold Zid at hs
    cases ht:T t with
    | none => rw [ht] at hs; cases hs
    | some ti =>
      rw [ht] at hs
      dsimp only at hs
      have hu := hT.und t ti ht
      have hwt:∀ aZ, WT T (d+1) t aZ=match ti.desc with
        | .bool => ∃ b, aZ=[.bool b]
        | .int k => ∃ n, aZ=[.int k n]/\(Dg k n).wf=true
        | .float k => ∃ b, aZ=[.flt k b]/\(Lit.float k b).wf=true
        | .string => ∃ s, aZ=[.str s]/\s.size<=maxLen
        | .slice e => match T e with
          | some te => ∃ els, aZ=[.isl te.size els]/\els.length<=maxLen/\∀ x∈els, WT T d e x
          | none => False
        | .struct fs => aZ.length=ti.size/\∀ f∈fs.toList, match T f.type with
          | some tf => WT T d f.type ((aZ.drop f.offset).take tf.size)
          | none => False
        | .array n e => match T e with
          | some te => aZ.length=ti.size/\∀ i, i<n->WT T d e ((aZ.drop (i*te.size)).take te.size)
          | none => False
        | _ => False := fun aZ => by simp only [WT, ht]
      cases hd:ti.desc with
      | bool =>
        unfold Pp at h
        rw [hu] at h
        rw [hd] at h hwt
        split at h<;>first
          | exact Zas (.bool _ _) (by rw [hwt]; exact ⟨_, rfl⟩)
          | (exfalso; simp_all; done)
      | int k =>
        unfold Pp at h
        rw [hu] at h
        rw [hd] at h hwt
        split at h<;>first
          | (rename_i k1 k2 n he
             simp only [Qe, TypeDesc.int.injEq] at he
             subst he
             split at h
             · rename_i hk
               obtain ⟨rfl, hk⟩ := hk
               exact Zas (.int _ _ _) (by rw [hwt]; exact ⟨_, rfl, hk⟩)
             · cases h)
          | (exfalso; simp_all; done)
      | float k =>
        unfold Pp at h
        rw [hu] at h
        rw [hd] at h hwt
        split at h<;>first
          | (rename_i k1 k2 n he
             simp only [Qe, TypeDesc.float.injEq] at he
             subst he
             split at h
             · rename_i hk
               obtain ⟨rfl, hk⟩ := hk
               exact Zas (.flt _ _ _) (by rw [hwt]; exact ⟨_, rfl, hk⟩)
             · cases h)
          | (exfalso; simp_all; done)
      | string =>
        unfold Pp at h
        rw [hu] at h
        rw [hd] at h hwt
        split at h<;>first
          | (split at h
             · rename_i hk
               exact Zas (.str _ _) (by rw [hwt]; exact ⟨_, rfl, hk⟩)
             · cases h)
          | (exfalso; simp_all; done)
      | slice e =>
        rw [hd] at hu hwt hs
        dsimp only at hs
        simp only [Qc] at hs
        obtain ⟨hme, hs⟩ := hs
        cases hte:T e with
        | none => rw [hte] at hs; cases hs
        | some te =>
          have hsz := Uu hT hte
          rcases Zju hu h with rfl|⟨a, len, cap, rfl, h1, h2, h3⟩
          · exact Zas (c := .isl te.size []) (.isl0 _ _ _ _) (by rw [hwt]; simp only [hte]; exact ⟨_, rfl, by simp, fun x hx => by simp at hx⟩)
          · rw [hsz] at h3
            rw [hte] at hs
            simp only [Qc, Sd] at hs
            obtain ⟨hs1, hs2⟩ := hs
            cases len with
            | zero => exact Zas (c := .isl te.size []) (.isl0 _ _ _ _) (by rw [hwt]; simp only [hte]; exact ⟨_, rfl, by simp, fun x hx => by simp at hx⟩)
            | succ len =>
              obtain ⟨b, o, sp⟩ := a
              have hsp:sp=none := by
                obtain ⟨cells, y, hcl, htr⟩ := h3 0 (by omega)
                obtain ⟨hl, hcg⟩ := Zoh hcl
                have hv:cells[0]?=some (cells[0]'(by omega)) := by simp
                have := hcg 0 _ hv
                simpa [Addr.add] using World.cell?_spot this
              subst hsp
              obtain ⟨g, hg⟩ := Zir (Tg (len+1)) (fun i aZ => aZ.length=te.size/\WT T d e aZ/\∀ (j:Nat) (c:AV), aZ[j]?=some c->∃ v, w.cell? ⟨b, o+i*te.size+j, none⟩=some v/\VR r0 (Im0 w) w (fun _ => False) c v) (fun i hi => by
                obtain ⟨cells, y, hcl, htr⟩ := h3 i (Wc.1 hi)
                obtain ⟨hl, hcg⟩ := Zoh hcl
                obtain ⟨aZ, q1, q2, q3⟩ := Zdt hT hS d e cells _ hme htr
                have q4 := Ziq hS hte hme q3
                refine ⟨aZ, q4, q3, fun j c hc => ?_⟩
                have hj:j<aZ.length := (Qg.1 hc).1
                have hv:cells[j]?=some (cells[j]'(by omega)) := by simp
                refine ⟨_, ?_, q2 j c _ hc hv⟩
                have := hcg j _ hv
                rw [Xh, Xh] at this
                exact this)
              have hlen:((Tg (len+1)).map g).length=len+1 := by simp
              have hget:∀ (i:Nat) (x:List AV), ((Tg (len+1)).map g)[i]?=some x->i<len+1/\x=g i := by
                intro i x hx
                have hi:i<len+1 := by rw [<-hlen]; exact (Qg.1 hx).1
                refine ⟨hi, ?_⟩
                simp [hi] at hx
                exact hx.symm
              have hcell:∀ i, i<len+1->∀ (j:Nat) (c:AV), (g i)[j]?=some c->∃ v, w.cell? ⟨b, o+i*te.size+j, none⟩=some v/\VR r0 (Im0 w) w (fun _ => False) c v := fun i hi => (hg i (Wc.2 hi)).2.2
              have hval := VR.isl (r := r0) (I := Im0 w) (w := w) (fun _ => False) te.size ((Tg (len+1)).map g) b o cap (fun i j => (w.cell? ⟨b, o+i*te.size+j, none⟩).getD undef) (by rw [hlen]; exact h1)
                (fun i x hx => by obtain ⟨hi, rfl⟩ := hget i x hx; exact (hg i (Wc.2 hi)).1)
                (fun i x j c hx hc => by
                  obtain ⟨hi, rfl⟩ := hget i x hx
                  obtain ⟨v, hv, _⟩ := hcell i hi j c hc
                  exact ⟨Ycr hv, by rw [hv]; rfl⟩)
                (fun i x j c hx hc => by
                  obtain ⟨hi, rfl⟩ := hget i x hx
                  obtain ⟨v, hv, hr⟩ := hcell i hi j c hc
                  rw [hv]; exact hr)
              rw [hlen] at hval
              refine Zas hval ?_
              rw [hwt]
              simp only [hte]
              refine ⟨_, rfl, by rw [hlen]; omega, fun x hx => ?_⟩
              obtain ⟨i, hi, rfl⟩ := List.mem_map.1 hx
              exact (hg i hi).2.1
      | «struct» fs =>
        rw [hd] at hu hwt hs
        dsimp only at hs
        simp only [Qc] at hs
        obtain ⟨hmf, hs⟩ := hs
        obtain ⟨hcl, hf⟩ := Zia hu h
        rw [Uu hT ht] at hcl
        cases hcg:contig T 0 fs.toList with
        | none => rw [hcg] at hs; cases hs
        | some n =>
          rw [hcg] at hs
          have hn := Qf hs
          have hsz:∀ f∈fs.toList, ∃ tf, T f.type=some tf := fun f hf => by
            have := Rf.1 hS _ (Zbj (Rf.1 hmf f hf))
            unfold Zid at this
            cases hx:T f.type with
            | none => rw [hx] at this; cases this
            | some tf => exact ⟨tf, rfl⟩
          obtain ⟨seg, hseg⟩ := Zir fs.toList (fun f aZ => aZ.length=Zhp T f.type/\WT T d f.type aZ/\∀ (j:Nat) (c:AV) (v:Value), aZ[j]?=some c->((cs.drop f.offset).take (Zhp T f.type))[j]?=some v->VR r0 (Im0 w) w (fun _ => False) c v) (fun f hfm => by
            obtain ⟨y, hy⟩ := hf f hfm
            obtain ⟨tf, htf⟩ := hsz f hfm
            have hme := Rf.1 hmf f hfm
            rw [Uu hT htf] at hy
            obtain ⟨aZ, q1, q2, q3⟩ := Zdt hT hS d f.type _ _ hme hy
            refine ⟨aZ, ?_, q3, ?_⟩
            · rw [Ziq hS htf hme q3]; simp [Zhp, htf]
            · simpa [Zhp, htf] using q2)
          obtain ⟨h1, h2, h3⟩ := Zq9 (T := T) (seg := seg) fs.toList 0 n hcg (fun f hfm => (hseg f hfm).1)
          simp only [Wt] at h1 h3
          refine ⟨fs.toList.flatMap seg, by rw [h1, hcl, hn], ?_, ?_⟩
          ·
            have key:∀ (l:List Field) (o:Nat), contig T o l=some n->(∀ f∈l, f∈fs.toList)->∀ (i:Nat) (c:AV) (v:Value), (l.flatMap seg)[i]?=some c->cs[o+i]?=some v->VR r0 (Im0 w) w (fun _ => False) c v := by
              intro l
              induction l with
              | nil => intro o _ _ i c v hc; simp at hc
              | cons f l ih =>
                intro o ho hin i c v hc hv
                simp only [contig] at ho
                have hfm := hin f (by simp)
                obtain ⟨tf, htf⟩ := hsz f hfm
                rw [htf] at ho
                dsimp only at ho
                cases hb:Ql f.offset o with
                | false => rw [hb] at ho; cases ho
                | true =>
                  rw [hb] at ho
                  have hoe := Qf hb
                  simp only [cond_true] at ho
                  have hsl:(seg f).length=tf.size := by rw [(hseg f hfm).1]; simp [Zhp, htf]
                  simp only [Su] at hc
                  by_cases hi:i<tf.size
                  · rw [List.getElem?_append_left (by omega)] at hc
                    refine (hseg f hfm).2.2 i c v hc ?_
                    rw [Wi, if_pos (by simpa [Zhp, htf] using hi), Ri, hoe]
                    exact hv
                  · rw [List.getElem?_append_right (by omega), hsl] at hc
                    refine ih (o+tf.size) ho (fun g hg => hin g (by simp [hg])) (i-tf.size) c v hc ?_
                    rw [show o+tf.size+(i-tf.size)=o+i by omega]; exact hv
            intro i c v hc hv
            exact key fs.toList 0 hcg (fun f hf => hf) i c v hc (by simpa using hv)
          · rw [hwt]
            refine ⟨by rw [h1, hn], fun f hfm => ?_⟩
            obtain ⟨tf, htf⟩ := hsz f hfm
            rw [htf]
            have := (h3 f hfm).2
            rw [show Zhp T f.type=tf.size by simp [Zhp, htf]] at this
            dsimp only
            rw [this]
            exact (hseg f hfm).2.1
      | array n e =>
        rw [hd] at hu hwt hs
        dsimp only at hs
        simp only [Qc] at hs
        obtain ⟨hme, hs⟩ := hs
        cases hte:T e with
        | none => rw [hte] at hs; cases hs
        | some te =>
          rw [hte] at hs
          have hn := Qf hs
          have hsz := Uu hT hte
          obtain ⟨xs, m, hm1, _, hcl, hxl, hf⟩ := DataW.trod_array hu h
          cases hm1
          rw [Uu hT ht] at hcl
          rw [hsz] at hf
          obtain ⟨seg, hseg⟩ := Zir (Tg n) (fun i aZ => aZ.length=te.size/\WT T d e aZ/\∀ (j:Nat) (c:AV) (v:Value), aZ[j]?=some c->((cs.drop (i*te.size)).take te.size)[j]?=some v->VR r0 (Im0 w) w (fun _ => False) c v) (fun i hi => by
            have hi := Wc.1 hi
            have hy := hf i hi
            rw [Qh (by omega)] at hy
            obtain ⟨aZ, q1, q2, q3⟩ := Zdt hT hS d e _ _ hme hy
            exact ⟨aZ, Ziq hS hte hme q3, q3, q2⟩)
          let sg:Nat->List AV := fun i => if i<n then seg i else Rn te.size .any
          have hsg:∀ i, (sg i).length=te.size := fun i => by
            by_cases hi:i<n
            · simp only [sg, hi, if_true]; exact (hseg i (Wc.2 hi)).1
            · simp only [sg, hi, if_false, List.length_replicate]
          obtain ⟨h1, h2⟩ := Zkz (sz := te.size) (seg := sg) n 0 hsg
          refine ⟨(Ov 0 n).flatMap sg, by rw [h1, hcl, hn], ?_, ?_⟩
          · intro i c v hc hv
            have hil:i<n*te.size := by rw [<-h1]; exact (Qg.1 hc).1
            have hp:0<te.size := by
              rcases Nat.eq_zero_or_pos te.size with h0|h0
              · rw [h0] at hil; omega
              · exact h0
            have hq:i / te.size<n := Nat.div_lt_of_lt_mul (by rw [Wr]; exact hil)
            have hr:i%te.size<te.size := Nat.mod_lt _ hp
            have he:i / te.size*te.size+i%te.size=i := by rw [Wr]; exact Nat.div_add_mod i te.size
            have hs2 := h2 (i / te.size) hq
            rw [Rv] at hs2
            have hs3:sg (i / te.size)=seg (i / te.size) := by simp only [sg, hq, if_true]
            refine (hseg (i / te.size) (Wc.2 hq)).2.2 (i%te.size) c v ?_ ?_
            · rw [<-hs3, <-hs2, Wi, if_pos hr, Ri, he]; exact hc
            · rw [Wi, if_pos hr, Ri, he]; exact hv
          · rw [hwt]
            dsimp only
            rw [hte]
            refine ⟨by rw [h1, hn], fun i hi => ?_⟩
            rw [h2 i hi, Rv]
            simp only [sg, hi, if_true]
            exact (hseg i (Wc.2 hi)).2.1
      | _ => rw [hd] at hs; cases hs
end
open Go Go.RowKit Go.ChangeShapes
def WTA (T:Tab) (t:TypeId) (a:AV):Prop:=∀ n,∃ m aZ,WT T (m+n) t aZ/\match T t with
 | some ti=>match ti.desc with
  | .struct _=>a = .agg aZ
  | .array _ _=>a = .agg aZ
  | _=>aZ=[a]
 | none=>False
def WTs (T:Tab):List TypeId->List AV->Prop
 | [],[]=>True
 | t::ts,a::aZ=>WTA T t a/\WTs T ts aZ
 | _,_=>False
section
variable {H:Type} {enc:TypeId × Value->H} {P:Program} {w:World} {spare:Nat->Bool} {held:Bool}
theorem Zk5 {T:Tab}:∀ (d:Nat) {t:TypeId} {aZ:List AV},WT T d t aZ->WT T (d+1) t aZ
 | 0,t,aZ,h=>h.elim
 | d+1,t,aZ,h=>by
  unfold WT at h ⊢
  cases ht:T t with
  | none=>rw [ht] at h; exact h.elim
  | some ti =>
   rw [ht] at h
   dsimp only at h ⊢
   cases hd:ti.desc with
   | bool=>rw [hd] at h; exact h
   | int k=>rw [hd] at h; exact h
   | float k=>rw [hd] at h; exact h
   | string=>rw [hd] at h; exact h
   | slice e =>
    rw [hd] at h
    dsimp only at h ⊢
    cases he:T e with
    | none=>rw [he] at h; exact h.elim
    | some te=>rw [he] at h; obtain ⟨els,e1,e2,e3⟩:=h; exact ⟨els,e1,e2,fun x hx=>Zk5 d (e3 x hx)⟩
   | struct fs =>
    rw [hd] at h
    dsimp only at h ⊢
    refine ⟨h.1,fun f hf=>?_⟩
    have:=h.2 f hf
    cases he:T f.type with
    | none=>rw [he] at this; exact this.elim
    | some tf=>rw [he] at this; exact Zk5 d this
   | array n e =>
    rw [hd] at h
    dsimp only at h ⊢
    cases he:T e with
    | none=>rw [he] at h; exact h.elim
    | some te=>rw [he] at h; exact ⟨h.1,fun i hi=>Zk5 d (h.2 i hi)⟩
   | _=>rw [hd] at h; exact h.elim
theorem Zua {T:Tab} (hT:TabOK P T) {S:List TypeId} (hS:S.all (Zid T S)=true) {t:TypeId} {v:Value} {d:DataW H} {p:List MemPlace} {r:Reach} {b0:Nat} (hm:memN S t=true) (hv:Lu P w r b0 t v)
  (h:DataW.Trod enc P w 0 spare held t v d p):∃ a:AV,VR r0 (Im0 w) w (fun _=>False) a v/\WTA T t a:=by
 have hs:=Rf.1 hS t (Zbj hm)
 unfold Zid at hs
 cases ht:T t with
 | none=>rw [ht] at hs; cases hs
 | some ti =>
  rw [ht] at hs
  dsimp only at hs
  have hu:=hT.und t ti ht
  obtain ⟨fuel,hf⟩:=h
  have hop:=fun n=>Zdt hT hS (fuel+n) t _ _ hm (DataW.trod_le (Nat.le_add_right fuel n) hf)
  obtain ⟨aZ,h1,h2,h3⟩:=hop 0
  have hwt:∀ n,WT T (fuel+n) t aZ:=by
   intro n
   induction n with
   | zero=>exact h3
   | succ n ih=>exact Zk5 _ ih
  clear hop hf
  have agg:(∃ cs,v = .agg cs)->∃ a:AV,VR r0 (Im0 w) w (fun _=>False) a v/\a = .agg aZ:=by
   rintro ⟨cs,rfl⟩
   exact ⟨.agg aZ,.agg _ _ _ (by simpa [Value.cells] using h1.symm) (fun i c x hc hx=>h2 i c x hc (by simpa [Value.cells] using hx)),rfl⟩
  have one:(∀ cs,v ≠ .agg cs)->∃ a:AV,VR r0 (Im0 w) w (fun _=>False) a v/\aZ=[a]:=by
   intro hn
   have e:v.cells.toList=[v]:=by cases v<;>first|rfl|(rename_i cs; exact (hn cs rfl).elim)
   rw [e] at h1 h2
   simp only [List.length_cons,List.length_nil] at h1
   obtain ⟨c,rfl⟩:=List.length_eq_one_iff.1 h1
   exact ⟨c,h2 0 c v rfl rfl,rfl⟩
  unfold Lu at hv
  rw [hu] at hv
  cases hd:ti.desc with
  | bool =>
   rw [hd] at hv hu
   obtain ⟨a,h4,h5⟩:=one (fun cs e=>by subst e; simp [Ko,Dh,hu] at hv)
   exact ⟨a,h4,fun n=>⟨fuel,aZ,hwt n,by rw [ht]; dsimp only; rw [hd]; exact h5⟩⟩
  | int k =>
   rw [hd] at hv hu
   obtain ⟨a,h4,h5⟩:=one (fun cs e=>by subst e; simp [Ko,Dh,hu] at hv)
   exact ⟨a,h4,fun n=>⟨fuel,aZ,hwt n,by rw [ht]; dsimp only; rw [hd]; exact h5⟩⟩
  | float k =>
   rw [hd] at hv hu
   obtain ⟨a,h4,h5⟩:=one (fun cs e=>by subst e; simp [Ko,Dh,hu] at hv)
   exact ⟨a,h4,fun n=>⟨fuel,aZ,hwt n,by rw [ht]; dsimp only; rw [hd]; exact h5⟩⟩
  | string =>
   rw [hd] at hv hu
   obtain ⟨a,h4,h5⟩:=one (fun cs e=>by subst e; simp [Ko,Dh,hu] at hv)
   exact ⟨a,h4,fun n=>⟨fuel,aZ,hwt n,by rw [ht]; dsimp only; rw [hd]; exact h5⟩⟩
  | slice e =>
   rw [hd] at hv hu
   obtain ⟨a,h4,h5⟩:=one (fun cs e=>by subst e; simp [Ko,Dh,hu] at hv)
   exact ⟨a,h4,fun n=>⟨fuel,aZ,hwt n,by rw [ht]; dsimp only; rw [hd]; exact h5⟩⟩
  | struct fs =>
   rw [hd] at hv hu
   obtain ⟨cs,hcs,_⟩:=hv
   obtain ⟨a,h4,h5⟩:=agg ⟨cs,hcs⟩
   exact ⟨a,h4,fun n=>⟨fuel,aZ,hwt n,by rw [ht]; dsimp only; rw [hd]; exact h5⟩⟩
  | array n e =>
   rw [hd] at hv hu
   obtain ⟨cs,hcs,_⟩:=hv
   obtain ⟨a,h4,h5⟩:=agg ⟨cs,hcs⟩
   exact ⟨a,h4,fun n=>⟨fuel,aZ,hwt n,by rw [ht]; dsimp only; rw [hd]; exact h5⟩⟩
  | _=>rw [hd] at hs; cases hs
theorem Zkm {T:Tab} (hT:TabOK P T) {S:List TypeId} (hS:S.all (Zid T S)=true) {r:Reach} {b0:Nat}:∀ (ts:List TypeId) (vs:List Value) (ds:List (DataW H)) (p:List MemPlace),(∀ t∈ts,memN S t=true)->(∀ (j:Nat) t v,ts[j]?=some t->vs[j]?=some v->Lu P w r b0 t v) ->
  Nn enc P w 0 spare held ts vs ds p->∃ aZ:List AV,VRs r0 (Im0 w) w (fun _=>False) aZ vs.toArray/\WTs T ts aZ
 | [],vs,ds,p,_,_,h=>by
  obtain ⟨rfl,rfl,rfl⟩:=trodAll_nil h
  exact ⟨[],⟨rfl,fun i c v hc=>by simp at hc⟩,trivial⟩
 | t::ts,vs,ds,p,hm,hv,h=>by
  obtain ⟨v,vs',d,ds',q,q',rfl,rfl,rfl,hd,hr⟩:=trodAll_cons h
  obtain ⟨a,ha,hw⟩:=Zua hT hS (hm t (by simp)) (hv 0 t v rfl rfl) hd
  obtain ⟨aZ,hs,hws⟩:=Zkm hT hS ts vs' ds' q' (fun t' ht'=>hm t' (by simp [ht'])) (fun j t' v' h1 h2=>hv (j+1) t' v' (by simpa using h1) (by simpa using h2)) hr
  refine ⟨a::aZ,⟨by simpa using hs.1,fun i c x hc hx=>?_⟩,hw,hws⟩
  cases i with
  | zero=>simp at hc hx; subst hc; subst hx; exact ha
  | succ i=>exact hs.2 i c x (by simpa using hc) (by simpa using hx)
theorem Zx4 {T:Tab} (hT:TabOK P T) {S:List TypeId} (hS:S.all (Zid T S)=true) {f:FuncId} {ts:List TypeId} (hm:ts.all (memN S)=true) (hlaw:∀ aZ,WTs T ts aZ->PCall P f aZ ⟨.bool true,[]⟩) {r:Reach} {b0:Nat} {vs:Array Value} {ds:List (DataW H)} {p:List MemPlace}
  (hv:∀ (j:Nat) t v,ts[j]?=some t->vs[j]?=some v->Lu P w r b0 t v) (h:Nn enc P w 0 spare held ts vs.toList ds p):Calls P f vs w fun e w'=>e = .returned (.bool true)/\Below w.heap.size w w':=by
 obtain ⟨aZ,h1,h2⟩:=Zkm hT hS ts vs.toList ds p (fun t ht=>Rf.1 hm t ht) (fun j t v a b=>hv j t v a (by simpa using b)) h
 refine callsIn_wide.1 (((hlaw aZ h2).2 (Im0 w) w vs (fun b o h=>h) (by simpa using h1)).mono fun e w' hh=>?_)
 obtain ⟨x,r',I',rfl,hp⟩:=hh
 have hval:=hp.val
 cases hval
 exact ⟨rfl,hp.below⟩
theorem Zqx (hl:laidOutB P=true) {w' : World} (bel:Below w.heap.size w w'):∀ (ts:List TypeId) (vs:List Value) (ds:List (DataW H)) (p:List MemPlace),ts.all (fun t=>P.readableRec t&&decide (t<P.types.size))=true ->
  Nn enc P w 0 (fun _=>true) true ts vs ds p->(∀ x∈p,x.block<w.heap.size)->∃ q,Nn enc P w' 0 (fun b=>decide (b<w.heap.size)) true ts vs ds q
 | [],vs,ds,p,_,h,_=>by
  obtain ⟨rfl,rfl,rfl⟩:=trodAll_nil h
  exact ⟨[],trodAll_mk0⟩
 | t::ts,vs,ds,p,ht,h,hlt=>by
  obtain ⟨v,vs',d,ds',q,q',rfl,rfl,rfl,hd,hr⟩:=trodAll_cons h
  simp only [List.all_cons,Qc,decide_eq_true_eq] at ht
  obtain ⟨q2,h2⟩:=Zqx hl bel ts vs' ds' q' ht.2 hr (fun x hx=>hlt x (by simp [hx]))
  exact ⟨_,trodAll_cons_mk (Below.trod hl ht.1.1 ht.1.2 hd bel (fun x hx=>hlt x (by simp [hx]))) h2⟩
theorem Zkc:∀ (ts:List TypeId) (vs:List Value) (ds:List (DataW H)) (p:List MemPlace),Nn enc P w 0 spare held ts vs ds p->∀ x∈p,x.block<w.heap.size
 | [],vs,ds,p,h,x,hx=>by obtain ⟨rfl,rfl,rfl⟩:=trodAll_nil h; simp at hx
 | t::ts,vs,ds,p,h,x,hx=>by
  obtain ⟨v,vs',d,ds',q,q',rfl,rfl,rfl,hd,hr⟩:=trodAll_cons h
  rcases List.mem_append.1 hx with hx|hx
  ·obtain ⟨m,hm⟩:=hd; exact DataW.trod_lt m _ _ _ hm x hx
  ·exact Zkc ts vs' ds' q' hr x hx
theorem Zsb {C:Checked} {os:Os} (started:os.Started) {f:FuncId} {fn:Func} {s:ChangeSpec} {bt:TypeId}
  (own:ownKnob C.prog.godebug=none) (laid:laidOutB C.prog=true) (noInit:C.prog.inits.idxOf? f=none) (hfn:C.prog.funcs[f]?=some fn)
  {T:Tab} (hT:TabOK C.prog T) {S:List TypeId} (hS:S.all (Zid T S)=true) (hm:fn.params.toList.all (memN S)=true) (hread:fn.params.toList.all (fun t=>C.prog.readableRec t&&decide (t<C.prog.types.size))=true)
  (hvars:s.vars=[]) (hres:fn.resultTypes = #[bt]) (hbt:C.prog.underlying bt=some .bool)
  (hsp:∀ ds:List (DataW H),ds.length=fn.params.toList.length->s.fn H ds = { results:=[.lit (.bool true)],args:=ds,vars:=[] })
  (hlaw:∀ aZ,WTs T fn.params.toList aZ->PCall C.prog f aZ ⟨.bool true,[]⟩) {conds:List PathCond}
  (witness:∃ (w:World) (tape:Tape) (i:Input),w.os=os/\(w.forCall tape i).Shaped C.prog/\i.vars=[]/\Input.okWide C.prog (w.forCall tape i) .any w.heap.size f i /\
   s.pre6 enc C.prog fn conds false (w.forCall tape i).memory i.args/\({}:Assume).holds C.prog (lone (Frame.enter C.prog f i.args .normal) [] (w.forCall tape i))) :
  ReturnsInHanded {} C os f .any (s.pre6 enc C.prog fn conds false) (s.post enc C.prog fn false true false false):=by
 refine returnsInHanded_of_change own started noInit hfn witness ?_
 intro W base args ds gs before hval0 hW hcnd _
 have hval:∀ (j:Nat) t v,fn.params.toList[j]?=some t->args[j]?=some v->Lu C.prog W .any base t v:=fun j t v a b=>hval0 j t v (by simpa using a) b
 have hW':=hW
 obtain ⟨p,q,hA,hV,rfl,hfz,hnd⟩:=hW
 rw [hvars] at hV
 obtain ⟨rfl,rfl⟩:=trodVars_none hV
 have hlen:∀ (ts:List TypeId) (vs:List Value) (ds:List (DataW H)) (p:List MemPlace),Nn enc C.prog W 0 (fun _=>true) true ts vs ds p->ds.length=ts.length:=by
  intro ts
  induction ts with
  | nil=>intro vs ds p h; obtain ⟨rfl,rfl,rfl⟩:=trodAll_nil h; rfl
  | cons t ts ih=>intro vs ds p h; obtain ⟨v,vs',d,ds',q,q',rfl,rfl,rfl,hd,hr⟩:=trodAll_cons h; simp [ih _ _ _ hr]
 refine (Zx4 hT hS hm hlaw hval hA).mono fun e W' hh=>?_
 obtain ⟨he,bel⟩:=hh
 subst he
 obtain ⟨q2,hq2⟩:=Zqx laid bel _ _ _ _ hread hA (Zkc _ _ _ _ hA)
 have hsp':=hsp (ds++[]) (by rw [List.append_nil]; exact hlen _ _ _ _ hA)
 refine ⟨_,rfl,ds,[],_,[],q2,[],hW',?_,?_,?_,bel.frame _,fun h=>by cases h⟩
 ·rw [hsp',hres]; exact trodAll_mk1 (shut_bool hbt _)
 ·rw [hsp']; simpa using hq2
 ·rw [hsp',hvars]; rfl
end
open Go Go.RowKit
variable {T:Tab} {d:Nat} {t:TypeId} {aZ:List AV}
theorem Zzf {ti:TI} {k:IntKind} (ht:T t=some ti) (hd:ti.desc = .int k) (h:WT T (d+1) t aZ):∃ n,aZ=[.int k n]/\(Dg k n).wf=true:=by
 unfold WT at h; rw [ht] at h; dsimp only at h; rw [hd] at h; exact h
theorem Ycx {ti:TI} (ht:T t=some ti) (hd:ti.desc = .string) (h:WT T (d+1) t aZ):∃ s,aZ=[.str s]/\s.size<=maxLen:=by
 unfold WT at h; rw [ht] at h; dsimp only at h; rw [hd] at h; exact h
theorem Zds {ti te:TI} {e:TypeId} (ht:T t=some ti) (hd:ti.desc = .slice e) (he:T e=some te) (h:WT T (d+1) t aZ):∃ els,aZ=[.isl te.size els]/\els.length<=maxLen/\∀ x∈els,WT T d e x:=by
 unfold WT at h; rw [ht] at h; dsimp only at h; rw [hd] at h; dsimp only at h; rw [he] at h; exact h
theorem Vm {ti:TI} {fs:Array Field} (ht:T t=some ti) (hd:ti.desc = .struct fs) (h:WT T (d+1) t aZ):aZ.length=ti.size/\∀ f∈fs.toList,∃ tf,T f.type=some tf/\WT T d f.type ((aZ.drop f.offset).take tf.size):=by
 unfold WT at h; rw [ht] at h; dsimp only at h; rw [hd] at h; dsimp only at h
 refine ⟨h.1,fun f hf=>?_⟩
 have:=h.2 f hf
 cases hq:T f.type with
 | none=>rw [hq] at this; exact this.elim
 | some tf=>rw [hq] at this; exact ⟨tf,rfl,this⟩
theorem Zw4 {ti te:TI} {n:Nat} {e:TypeId} (ht:T t=some ti) (hd:ti.desc = .array n e) (he:T e=some te) (h:WT T (d+1) t aZ):aZ.length=ti.size/\∀ i,i<n->WT T d e ((aZ.drop (i*te.size)).take te.size):=by
 unfold WT at h; rw [ht] at h; dsimp only at h; rw [hd] at h; dsimp only at h; rw [he] at h; exact h
theorem Zsy {a:AV} {ti:TI} (h:WTA T t a) (ht:T t=some ti) {fs:Array Field} (hd:ti.desc = .struct fs) (n:Nat):∃ aZ m,a = .agg aZ/\WT T (m+n+1) t aZ:=by
 obtain ⟨m,aZ,hm,ha⟩:=h (n+1)
 rw [ht] at ha; dsimp only at ha; rw [hd] at ha
 exact ⟨aZ,m,ha,by rw [Nat.add_assoc]; exact hm⟩
def Zx9 (T:Tab) (n:Nat):Nat->List Field->Bool
 | i,[]=>Ql i n
 | i,f::fs=>Ql f.offset i&&(match T f.type with
  | some tf=>Ql tf.size 1&&(match tf.desc with
   | .int .i64=>true
   | _=>false)
  | none=>false)&&Zx9 T n (i+1) fs
theorem Zh5 {n:Nat} (hl:aZ.length=n):∀ (fs:List Field) (i:Nat),Zx9 T n i fs=true->(∀ f∈fs,∃ tf,T f.type=some tf/\WT T (d+1) f.type ((aZ.drop f.offset).take tf.size))->∃ ns:List Int,aZ.drop i=ns.map (AV.int .i64)/\ns.length+i=n/\∀ x∈ns,(Dg .i64 x).wf=true
 | [],i,h,hf=>by
  have hi:=Qf h
  exact ⟨[],by simp [List.drop_eq_nil_iff]; omega,by simpa using hi,by simp⟩
 | f::fs,i,h,hf=>by
  simp only [Zx9,Qc] at h
  obtain ⟨⟨h1,h2⟩,h3⟩:=h
  obtain ⟨ns,g1,g2,g3⟩:=Zh5 hl fs (i+1) h3 (fun g hg=>hf g (by simp [hg]))
  obtain ⟨tf,e1,e2⟩:=hf f (by simp)
  rw [e1] at h2
  simp only [Qc] at h2
  obtain ⟨h4,h5⟩:=h2
  have hk:tf.desc = .int .i64:=by split at h5<;>first|assumption|cases h5
  obtain ⟨x,q1,q2⟩:=Zzf e1 hk e2
  rw [Qf h4,Qf h1] at q1
  have hi:i<aZ.length:=by
   rcases Md i aZ.length with hi|hi
   ·exact hi
   ·rw [Qj hi] at q1; simp at q1
  refine ⟨x::ns,?_,by simp; omega,fun y hy=>?_⟩
  ·rw [Qi hi] at q1 ⊢
   simp only [List.take_succ_cons,List.take_zero,List.cons.injEq,and_true] at q1
   rw [g1,q1]; rfl
  ·rcases Qx.1 hy with rfl|hy
   ·exact q2
   ·exact g3 y hy
theorem Zot {ti:TI} {fs:Array Field} (ht:T t=some ti) (hd:ti.desc = .struct fs) (hi:Zx9 T ti.size 0 fs.toList=true) (h:WT T (d+2) t aZ):∃ ns:List Int,aZ=ns.map (AV.int .i64)/\ns.length=ti.size/\∀ x∈ns,(Dg .i64 x).wf=true:=by
 obtain ⟨h1,h2⟩:=Vm ht hd h
 obtain ⟨ns,g1,g2,g3⟩:=Zh5 h1 fs.toList 0 hi h2
 exact ⟨ns,by simpa using g1,by omega,g3⟩
end Go.Sx
set_option maxRecDepth 20000
namespace Go.Sx
open Go Ieee
open Go Go.RowKit
variable {P:Program} {N B l:Nat} {Ig:Imm} {JX:Zs->(Nat->Prop)->World->Prop}
section
variable {P:Program} {r:Locs} {I:Imm} {w:World} {D:Nat->Prop}
def NS (a b:AV):Prop:=a=b\/(a = .nils/\∃ es,b = .isl es [])
theorem NS.vr {a b:AV} (h:NS a b) {v:Value} (hv:VR r I w D a v):VR r I w D b v:=by
 rcases h with rfl|⟨rfl,es,rfl⟩
 ·exact hv
 ·cases hv; exact .isl0 _ _ _ _
def NSL:List AV->List AV->Prop
 | [],[]=>True
 | a::l,b::m=>NS a b/\NSL l m
 | _,_=>False
theorem NSL.get:∀ {l m:List AV},NSL l m->l.length=m.length/\∀ (i:Nat) (b:AV),m[i]?=some b->∃ a,l[i]?=some a/\NS a b
 | [],[],_=>⟨rfl,fun i b h=>by simp at h⟩
 | a::l,b::m,h=>by
  simp only [NSL] at h
  obtain ⟨h1,h2⟩:=NSL.get h.2
  refine ⟨by simp [h1],fun i b' hi=>?_⟩
  cases i with
  | zero=>simp at hi; subst hi; exact ⟨a,rfl,h.1⟩
  | succ i=>simpa using h2 i b' (by simpa using hi)
 | [],_::_,h=>by simp [NSL] at h
 | _::_,[],h=>by simp [NSL] at h
end
variable {r r' : Locs} {D D' : Nat->Prop} {I I' : Imm} {w w' w0:World} {I0 Ig:Imm} {B n n' k N l:Nat} {pr pr' pr2:Nat->Obj->Prop} {h:Nat->ABlk} {P:Program} {JX:Zs->(Nat->Prop)->World->Prop} {O:Nat->Prop}
theorem Zk9 {cx:Cx} (hcx:CxOK P cx) {pc:PC} (hpc:PCOK P pc) (hm:P.follows .mixedOrders=true) {F:Fence} (hF:FOK F) (id:Nat) (ops:Array Oper) {env:Env} {σ:St} {K:Env->St->Prop} (hv:Zfe cx pc N ops.toList env σ K) {a:Act} (S:SR B w0 I0 pr N r I D env σ a w)
  {Q:Exit->Act->World->Prop} (hq:∀ a' w',Leaves B w0 I0 pr N r I D w a.defers K a' w'->Q .normal a' w'):(Code.region id ops true).wpIn F 0 P Q a w:=by
 unfold Zfe at hv
 cases hnd:Ye ops.toList with
 | false=>rw [hnd] at hv; exact hv.elim
 | true =>
  rw [hnd] at hv
  obtain ⟨recs,env',σ',⟨hok,hK⟩,h2,h3,h4,h5,h6,h7,h8⟩:=Zla ops.toList env σ _ _ _ hv
  simp only [List.reverse_nil,Tt] at hok
  refine wpIn_region_any hm ?_
  have hfalse:∀ q,(Wu ops.size false).getD q false=false:=by
   intro q
   rw [Qu,Array.getElem?_replicate]
   split<;>rfl
  have main:=Zrd (B:=B) (w0:=w0) (I0:=I0) (pr:=pr) (N:=N) (D0:=D) (k0:=σ.next) (nf:=σ'.next) (rs:=r) (Is:=I) (ws:=w) (ds:=a.defers) hcx hpc hF h2 hnd hok h3 (fun id hd=>(S.hr.dom id hd).1) h6 h7
   Q (fun a' w' hi=>?_) ops.size (Wu ops.size false) a w.drew (by simp) (fun q p hq _=>by dsimp only at hq; rw [hfalse] at hq; cases hq) (by simpa using List.countP_le_length (l:=Rn ops.size false)) ?_
  ·simpa using main
  ·obtain ⟨⟨r2,I2,D2,H2,hD2,hsz,htm,hst⟩,hdf⟩:=hi
   rw [<-h5] at H2
   rw [<-h4] at htm
   exact hq _ _ ⟨env',σ',r2,I2,D2,hK,⟨H2,hsz,htm⟩,by simpa using hdf,hst⟩
  ·refine ⟨⟨r,I,D,?_,fun id hd=>.inl hd,S.er.1,?_,Lw r D I w⟩,rfl⟩
   ·rw [Zu9 (recs:=recs) hfalse]
    exact S.hr.drew.next h8
   ·rw [Zv2 (recs:=recs) hfalse]
    exact fun t=>(S.er.2 t).mono (Lw r D I w)
structure YEnv (P:Program) (B:Nat) (Ig:Imm) (l:Nat) (sc:Bool) (JX:Zs->(Nat->Prop)->World->Prop):Prop where
 low:∀ b o,Ig b o->b<B
 grow:∀ z O w w',JX z O w->Chg O w w'->JX z (fun b=>O b\/(w.heap.size<=b/\b<w'.heap.size)) w'
 round:∀ x zs O w ys I',(sc=true->Zal x=true)->JX (some (x::zs)) O w->(∀ b o,Ig b o->I' b o)->(∀ b o,I' b o->Ig b o\/O b)->VRs r0 I' w (fun _=>False) x ys ->
  YieldAt Ru 0 P l ys w fun e w'=>∃ b,e = .returned (.bool b)/\(∀ q,O q->w'.heap[q]?=w.heap[q]?)/\(∀ q o,Ig q o->w'.cell? ⟨q,o,none⟩=w.cell? ⟨q,o,none⟩)/\w.heap.size<=w'.heap.size/\(b=true->JX (some zs) O w')/\(b=false->JX none O w')
structure YSx (N:Nat) (B:Nat) (Ig:Imm) (JX:Zs->(Nat->Prop)->World->Prop) (z:Zs) (r:Locs) (D:Nat->Prop) (I:Imm) (O:Nat->Prop) (env:Env) (σ:St) (a:Act) (w:World):Prop where
 hr:HR B w I (prO B O w) r I D σ.get σ.next w
 ho:∀ b,O b->B<=b/\b<w.heap.size
 lo:∀ b o,Ig b o->I b o
 up:∀ b o,I b o->Ig b o\/O b
 er:ER r I w D N env a.tmps
 jx:JX z O w
 df:a.defers=[]
def PY (N B:Nat) (Ig:Imm) (JX:Zs->(Nat->Prop)->World->Prop) (r:Locs) (D:Nat->Prop) (I:Imm) (w:World) (Q:IQ):Exit->Act->World->Prop:=fun e a' w'=>∃ env' σ' z' r' D' I' O',Q e env' σ' z'/\YSx N B Ig JX z' r' D' I' O' env' σ' a' w'/\Step r D I w r' D' I' w'
def AwpY (P:Program) (N B:Nat) (Ig:Imm) (JX:Zs->(Nat->Prop)->World->Prop) (c:Code) (env:Env) (σ:St) (z:Zs) (Q:IQ):Prop :=
 ∀ r D I O a w,YSx N B Ig JX z r D I O env σ a w->c.wpIn Ru 0 P (PY N B Ig JX r D I w Q) a w
theorem YSx.own {z:Zs} {env:Env} {σ:St} {a:Act} (S:YSx N B Ig JX z r D I O env σ a w) {h' : Nat->ABlk} {n' : Nat} (H:HR B w I (prO B O w) r' I' D' h' n' w') :
  Chg O w w'/\HR B w' I' (prO B (fun b=>O b\/(w.heap.size<=b/\b<w'.heap.size)) w') r' I' D' h' n' w'/\(∀ b,(O b\/(w.heap.size<=b/\b<w'.heap.size))->B<=b/\b<w'.heap.size)/\(∀ b o,I' b o->Ig b o\/(O b\/(w.heap.size<=b/\b<w'.heap.size))):=by
 have old:∀ b,¬ (O b\/(w.heap.size<=b/\b<w'.heap.size))->B<=b->b<w'.heap.size->prO B O w b (w.heap.getD b default):=by
  intro b hn hb hlt
  have hnO:¬ O b:=fun h=>hn (.inl h)
  have hlt2:b<w.heap.size:=by
   rcases Md b w.heap.size with h|h
   ·exact h
   ·exact (hn (.inr ⟨h,hlt⟩)).elim
  exact ⟨hb,hnO,by simp [Array.getD,hlt2]⟩
 have hc:Chg O w w':=⟨H.below.os,H.below.tape,H.below.output,H.below.size,fun b hb hlt=>by
  by_cases hbb:b<B
  ·exact H.below.block b hbb
  ·have e1:w.heap[b]?=some w.heap[b]:=by simp [hlt]
   rw [(H.prot b _ ⟨by omega,hb,e1⟩).1,e1]⟩
 refine ⟨hc,H.rebase (fun b o hp=>?_),fun b hb=>?_,fun b o hi=>?_⟩
 ·obtain ⟨h1,h2,h3⟩:=hp
  have hlt:=(Qk.1 h3).1
  have hp:=old b h2 h1 hlt
  exact ⟨h3,h1,(H.protK b _ hp).1,(H.protK b _ hp).2⟩
 ·rcases hb with hb|hb
  ·have:=S.ho b hb; have:=H.below.size; omega
  ·have:=S.hr.base; omega
 ·rcases H.immB b o hi with h|h
  ·rcases S.up b o h with h|h
   ·exact .inl h
   ·exact .inr (.inl h)
  ·refine .inr (Classical.byContradiction fun hn=>?_)
   exact (H.protK b _ (old b hn h (H.imm b o hi))).2 o hi
theorem YSx.step {sc:Bool} (hI:YEnv P B Ig l sc JX) {z:Zs} {env:Env} {σ:St} {a:Act} (S:YSx N B Ig JX z r D I O env σ a w) {K:Env->St->Prop} {a' : Act} (hl:Leaves B w I (prO B O w) N r I D w a.defers K a' w') :
  ∃ env' σ' r' D' I' O',K env' σ'/\YSx N B Ig JX z r' D' I' O' env' σ' a' w'/\Step r D I w r' D' I' w':=by
 obtain ⟨env',σ',r',I',D',hk,⟨H,E⟩,hd,St⟩:=hl
 obtain ⟨hc,H',ho',up'⟩:=S.own H
 exact ⟨env',σ',r',D',I',_,hk,⟨H',ho',fun b o hi=>(St.imm b o (S.lo b o hi)).1,up',E,hI.grow z O w w' S.jx hc,hd.trans S.df⟩,St⟩
theorem YSx.behind {sc:Bool} (hI:YEnv P B Ig l sc JX) {z z' : Zs} {env:Env} {σ:St} {a:Act} (S:YSx N B Ig JX z r D I O env σ a w) (hm:Zm3 σ.heap=true)
  (k1:∀ q,O q->w'.heap[q]?=w.heap[q]?) (k2:∀ q o,Ig q o->w'.cell? ⟨q,o,none⟩=w.cell? ⟨q,o,none⟩) (k3:w.heap.size<=w'.heap.size) (hj:JX z' O w'):YSx N B Ig JX z' r D I O env σ a w'/\Step r D I w r D I w':=by
 have H:=S.hr
 have hlO:∀ id,(σ.get id).live=true->O (r id).blk:=by
  intro id hid
  have hB:B<=(r id).blk:=by
   have hb:=H.blk id
   cases hx:σ.get id with
   | row es elems mt pu =>
    have:=Zd1 hm hx
    subst this
    rw [hx] at hb
    obtain ⟨_,_,_,cs,T,fz,_,_,_,h7,_⟩:=hb
    exact (h7 rfl).1
   | map ents=>rw [hx] at hb; exact hb.1
   | set keys=>rw [hx] at hb; exact hb.1
   | dead=>rw [hx] at hid; simp [Sv] at hid
  by_cases ho:O (r id).blk
  ·exact ho
  ·have hlt:=(H.dom id (H.live id hid)).2
   have e1:w.heap[(r id).blk]?=some w.heap[(r id).blk]:=by simp [hlt]
   exact ((H.protK _ _ ⟨hB,ho,e1⟩).1 id hid rfl).elim
 have hst:Step r D I w r D I w':=⟨fun id h=>⟨h,rfl⟩,fun b o h=>⟨h,by
  rcases S.up b o h with h1|h1
  ·exact k2 b o h1
  ·exact Sn (k1 b h1)⟩,k3⟩
 refine ⟨⟨⟨Below.refl _ _,Qr H.base k3,fun b o hi=>Ro (H.imm b o hi) k3,fun id hd=>⟨(H.dom id hd).1,Ro (H.dom id hd).2 k3⟩,H.live,fun id=>?_,H.inj,fun b o hp=>⟨hp.2.2,hp.1⟩,fun b o hp=>⟨fun id hid e=>hp.2.1 (e ▸ hlO id hid),fun o' hi=>?_⟩,fun _ _ h=>.inl h⟩,fun b hb=>by have:=S.ho b hb; omega,S.lo,S.up,S.er.mono hst,hj,S.df⟩,hst⟩
 ·by_cases hid:(σ.get id).live=true
  ·exact (H.blk id).mono hst rfl (fun _=>k1 _ (hlO id hid)) (fun _ _ _ _ _ hx=>hx)
  ·have:σ.get id = .dead:=by cases hx:σ.get id<;>simp_all [Sv]
   rw [this]; trivial
 ·rcases S.up b o' hi with h1|h1
  ·have:=hI.low b o' h1; have:=hp.1; omega
  ·exact hp.2.1 h1
theorem YSx.put {z:Zs} {env:Env} {σ:St} {a:Act} (S:YSx N B Ig JX z r D I O env σ a w) {dst:Option Nat} {v:AV} {x:Value} (hv:VR r I w D v x) {K:Env->Prop} (hk:Zp N dst v env K):∃ env',K env'/\YSx N B Ig JX z r D I O env' σ (a.put dst x) w:=by
 cases dst with
 | none=>exact ⟨env,hk,⟨S.hr,S.ho,S.lo,S.up,S.er,S.jx,S.df⟩⟩
 | some d =>
  simp only [Zp] at hk
  rcases Oq hk with ⟨h1,h2⟩|⟨_,h2⟩
  ·have hdl:d<N:=by simpa [Sd] using h1
   exact ⟨(d,v)::env,h2,⟨S.hr,S.ho,S.lo,S.up,S.er.put hdl hv,S.jx,S.df⟩⟩
  ·exact h2.elim
def Zrm (P:Program) (B:Nat) (Ig:Imm) (JX:Zs->(Nat->Prop)->World->Prop) (f:FuncId) (args:List AV) (σ:St) (z:Zs) (K:AV->St->Zs->Prop):Prop :=
 ∀ r D I O w vs,HR B w I (prO B O w) r I D σ.get σ.next w->(∀ b,O b->B<=b/\b<w.heap.size)->(∀ b o,Ig b o->I b o)->(∀ b o,I b o->Ig b o\/O b)->JX z O w->VRs r I w D args vs ->
  CallsIn Ru 0 P f vs w fun e w'=>∃ x v σ' z' r' D' I' O',e = .returned x/\K v σ' z'/\HR B w' I' (prO B O' w') r' I' D' σ'.get σ'.next w'/\(∀ b,O' b->B<=b/\b<w'.heap.size)/\(∀ b o,Ig b o->I' b o)/\(∀ b o,I' b o->Ig b o\/O' b)/\JX z' O' w'/\VR r' I' w' D' v x/\Step r D I w r' D' I' w'
inductive YCt (P:Program) (B:Nat) (Ig:Imm) (JX:Zs->(Nat->Prop)->World->Prop) (f:FuncId) (args:List AV) (σ:St) (z:Zs) (K:AV->St->Zs->Prop):Prop
 | mk (h:FnOK P f/\Zrm P B Ig JX f args σ z K):YCt P B Ig JX f args σ z K
def Vw (h:Nat->ABlk) (aZ x:List AV):Prop:=∃ x' lv,Zag h aZ=some (x',lv)/\NSL x' x
theorem NSL.refl:∀ (l:List AV),NSL l l
 | []=>trivial
 | _::l=>⟨.inl rfl,NSL.refl l⟩
theorem Vw.same {h:Nat->ABlk} {aZ x:List AV} {lv:List Nat} (e:Zag h aZ=some (x,lv)):Vw h aZ x:=⟨x,lv,e,NSL.refl x⟩
theorem NSL.vrs {l m:List AV} (h:NSL l m) {vs:Array Value} (hv:VRs r I w D l vs):VRs r I w D m vs:=by
 obtain ⟨h1,h2⟩:=h.get
 refine ⟨hv.1.trans h1,fun i c x hc hx=>?_⟩
 obtain ⟨a,ha,hn⟩:=h2 i c hc
 exact hn.vr (hv.2 i a x ha hx)
inductive Yd (p:Prop):Prop
 | mk (h:p):Yd p
def isSx (sx:FuncId->Bool) (env:Env) (o:Oper):Option (FuncId × List AV) :=
 match o.op with
 | .call { callee:=.value f,args,.. }=>match evA env f with
  | .func g c0 c1=>cond (sx g) (some (g,(c0++Xs (evA env) args.toList)++c1)) none
  | _=>none
 | _=>none
def vcY1 (P:Program) (cx:Cx) (N B l:Nat) (sc:Bool) (sx:FuncId->Bool) (Ig:Imm) (JX:Zs->(Nat->Prop)->World->Prop) (o:Oper) (env:Env) (σ:St) (z:Zs) (K:Env->St->Zs->Prop):Prop :=
 match Zse env o with
 | some (l',aZ)=>match z with
  | some (x::zs)=>Yd (l'=l/\Zm3 σ.heap=true/\Vw σ.get aZ x/\(sc=true->Zal x=true)/\(Zp N o.dst (.bool true) env fun env'=>K env' σ (some zs))/\(Zp N o.dst (.bool false) env fun env'=>K env' σ none))
  | _=>False
 | none=>match isSx sx env o with
  | some (g,aZ)=>YCt P B Ig JX g aZ σ z fun v σ' z'=>Zp N o.dst v env fun env'=>K env' σ' z'
  | none=>vcOp cx N o env σ fun env' σ'=>K env' σ' z
def Zcw (P:Program) (cx:Cx) (N B l:Nat) (sc:Bool) (sx:FuncId->Bool) (Ig:Imm) (JX:Zs->(Nat->Prop)->World->Prop) (ops:List Oper):List Oper->Env->St->Zs->(Env->St->Zs->Prop)->Prop
 | [],env,σ,z,K=>K env σ z
 | o::rest,env,σ,z,K =>
  match o.guard with
  | none=>vcY1 P cx N B l sc sx Ig JX o env σ z fun env' σ' z'=>Zcw P cx N B l sc sx Ig JX ops rest env' σ' z' K
  | some (j,want) =>
   match Yh ops j with
   | none=>False
   | some t=>match env.get t with
    | .bool b=>Br b
     (match want with
      | true=>vcY1 P cx N B l sc sx Ig JX o ((t,.bool true)::env) σ z fun env' σ' z'=>Zcw P cx N B l sc sx Ig JX ops rest env' σ' z' K
      | false=>Zp N o.dst (.tup []) ((t,.bool true)::env) fun env'=>Zcw P cx N B l sc sx Ig JX ops rest env' σ z K)
     (match want with
      | false=>vcY1 P cx N B l sc sx Ig JX o ((t,.bool false)::env) σ z fun env' σ' z'=>Zcw P cx N B l sc sx Ig JX ops rest env' σ' z' K
      | true=>Zp N o.dst (.tup []) ((t,.bool false)::env) fun env'=>Zcw P cx N B l sc sx Ig JX ops rest env' σ z K)
    | .tup []=>Zp N o.dst (.tup []) env fun env'=>Zcw P cx N B l sc sx Ig JX ops rest env' σ z K
    | _=>False
variable {r r' : Locs} {D D' : Nat->Prop} {I I' : Imm} {w w' w0:World} {I0 Ig:Imm} {B n n' k N l:Nat} {pr pr' pr2:Nat->Obj->Prop} {h:Nat->ABlk} {P:Program} {JX:Zs->(Nat->Prop)->World->Prop} {O:Nat->Prop} {sc:Bool}
theorem YSx.liveO {z:Zs} {env:Env} {σ:St} {a:Act} (S:YSx N B Ig JX z r D I O env σ a w) (hm:Zm3 σ.heap=true):∀ id,(σ.get id).live=true->O (r id).blk:=by
 have H:=S.hr
 intro id hid
 have hB:B<=(r id).blk:=by
  have hb:=H.blk id
  cases hx:σ.get id with
  | row es elems mt pu =>
   have:=Zd1 hm hx
   subst this
   rw [hx] at hb
   obtain ⟨_,_,_,cs,T,fz,_,_,_,h7,_⟩:=hb
   exact (h7 rfl).1
  | map ents=>rw [hx] at hb; exact hb.1
  | set keys=>rw [hx] at hb; exact hb.1
  | dead=>rw [hx] at hid; simp [Sv] at hid
 by_cases ho:O (r id).blk
 ·exact ho
 ·have hlt:=(H.dom id (H.live id hid)).2
  have e1:w.heap[(r id).blk]?=some w.heap[(r id).blk]:=by simp [hlt]
  exact ((H.protK _ _ ⟨hB,ho,e1⟩).1 id hid rfl).elim
def LvY (N B:Nat) (Ig:Imm) (JX:Zs->(Nat->Prop)->World->Prop) (r:Locs) (D:Nat->Prop) (I:Imm) (w:World) (K:Env->St->Zs->Prop) (a' : Act) (w' : World):Prop :=
 ∃ env' σ' z' r' D' I' O',K env' σ' z'/\YSx N B Ig JX z' r' D' I' O' env' σ' a' w'/\Step r D I w r' D' I' w'
theorem Zrv {cx:Cx} (hcx:CxOK P cx) (hI:YEnv P B Ig l sc JX) {sx:FuncId->Bool} (o:Oper) (ho:∀ c,o.op ≠ .defer c) {env:Env} {σ:St} {z:Zs} {a:Act} (S:YSx N B Ig JX z r D I O env σ a w) {K:Env->St->Zs->Prop} {Q:Exit->Act->World->Prop} {next:Act->World->Prop}
  (hv:vcY1 P cx N B l sc sx Ig JX o env σ z K) (hnext:∀ a' w',LvY N B Ig JX r D I w K a' w'->next a' w'):o.wpIn Ru 0 P a w next Q:=by
 unfold vcY1 at hv
 cases hy:Zse env o with
 | some la =>
  obtain ⟨l',aZ⟩:=la
  rw [hy] at hv
  dsimp only at hv
  split at hv
  ·rename_i x zs
   obtain ⟨e1,hm,⟨x',lv,hview,hns⟩,hs,ht,hf⟩:=hv.1
   subst e1
   unfold Zse at hy
   split at hy
   ·rename_i f args ts hop
    split at hy
    ·rename_i l2 hf2
     simp only [Qe,Re] at hy
     obtain ⟨e3,hy⟩:=hy
     subst e3
     have hfv:=Xd S.er f
     rw [hf2] at hfv
     have hval:a.eval f = .func (.yield l2) #[] #[]:=by generalize a.eval f=q at hfv; cases hfv; rfl
     have hargs:=Xn (fun x=>Xd S.er x) args
     rw [hy] at hargs
     have hvw:=hns.vrs (Un S.hr hargs hview)
     have hup:∀ b o,Vr r I σ.get lv b o->Ig b o\/O b:=by
      rintro b o (hi|⟨id,_,es,elems,mt,pu,i,e,j,c,hid,_,_,rfl,_⟩)
      ·exact S.up b o hi
      ·exact .inr (S.liveO hm id (by rw [hid]; rfl))
     obtain ⟨fn,tmps,assign,body,hrun,hR⟩:=hI.round x zs O w _ _ hs S.jx (fun b o hi=>.inl (S.lo b o hi)) hup hvw
     refine ⟨Ul (.inl rfl) o a w,?_⟩
     rw [Oi _ _ _ ho]
     have hrunE:(execOp a.eval o).run P w = .ok (.round l2 fn tmps assign body) w:=by
      have:execOp a.eval o=(do let d <-resolve a.eval { callee:=.value f,args:=args,argTypes:=ts } o.type; invoke d.target d.args):=by
       unfold execOp; rw [hop]
      rw [this]
      simp [resolve,hval,Wm,invoke]
      simpa using hrun
     rw [hrunE]
     refine ⟨fun hd=>by simp [Ru] at hd,hR.mono fun e w' hh=>?_⟩
     obtain ⟨b,rfl,k1,k2,k3,hjt,hjf⟩:=hh
     cases b with
     | true =>
      obtain ⟨S2,st⟩:=S.behind hI hm k1 k2 k3 (hjt rfl)
      obtain ⟨env',hk,S3⟩:=S2.put (.bool D true) ht
      exact hnext _ _ ⟨env',σ,_,r,D,I,O,hk,S3,st⟩
     | false =>
      obtain ⟨S2,st⟩:=S.behind hI hm k1 k2 k3 (hjf rfl)
      obtain ⟨env',hk,S3⟩:=S2.put (.bool D false) hf
      exact hnext _ _ ⟨env',σ,_,r,D,I,O,hk,S3,st⟩
    ·cases hy
   ·cases hy
  ·exact hv.elim
 | none =>
  rw [hy] at hv
  dsimp only at hv
  cases hs:isSx sx env o with
  | some ga =>
   obtain ⟨g,aZ⟩:=ga
   rw [hs] at hv
   obtain ⟨⟨fn,q1,q2,q3⟩,hcall⟩:=hv.1
   unfold isSx at hs
   split at hs
   ·rename_i f args ts hop
    split at hs
    ·rename_i g' c0 c1 hf
     obtain ⟨_,hs⟩:=Zb hs
     simp only [Qe,Re] at hs
     obtain ⟨e1,e2⟩:=hs
     subst e1 e2
     have hfv:=Xd S.er f
     rw [hf] at hfv
     obtain ⟨v0,v1,hv,k0,k1⟩:∃ v0 v1,a.eval f = .func (.func g') v0 v1/\VRs r I w D c0 v0/\VRs r I w D c1 v1:=by
      generalize a.eval f=z at hfv
      cases hfv with
      | func _ _ _ _ v0 v1 h0 h1 g0 g1=>exact ⟨v0,v1,rfl,⟨h0,g0⟩,⟨h1,g1⟩⟩
     have hargs:=Xn (fun x=>Xd S.er x) args
     have hvs:=(k0.append hargs).append k1
     refine ⟨Ul (.inl rfl) o a w,?_⟩
     rw [Oi _ _ _ ho]
     have hrunE:(execOp a.eval o).run P w = .ok (.enter g' ((v0++args.map a.eval)++v1)) w:=by
      have:execOp a.eval o=(do let d <-resolve a.eval { callee:=.value f,args:=args,argTypes:=ts } o.type; invoke d.target d.args):=by
       unfold execOp; rw [hop]
      rw [this]
      have q2' : ¬ fn.name = "runtime.NumGoroutine" := by simpa using q2
      have q3' : ¬ fn.body=none:=by intro h; rw [h] at q3; simp at q3
      simp [resolve,hv,Wm,invoke,callFunc,q1,q2',q3']
     rw [hrunE]
     refine ⟨fun hd=>by simp [Ru] at hd,?_⟩
     refine (hcall r D I O w _ S.hr S.ho S.lo S.up S.jx hvs).mono fun e w' hh=>?_
     obtain ⟨x,v,σ',z',r',D',I',O',rfl,hk,H',ho',lo',up',jx',V',st⟩:=hh
     have S2:YSx N B Ig JX z' r' D' I' O' env σ' a w':=⟨H',ho',lo',up',S.er.mono st,jx',S.df⟩
     obtain ⟨env',hk',S3⟩:=S2.put V' hk
     exact hnext _ _ ⟨env',σ',z',r',D',I',O',hk',S3,st⟩
    ·cases hs
   ·cases hs
  | none =>
   rw [hs] at hv
   refine Zgh hcx (.inl rfl) o ho (pr:=prO B O w) (w0:=w) (I0:=I) ⟨S.hr,S.er⟩ hv (fun a' w' hl=>?_)
   obtain ⟨env',σ',r',D',I',O',hk,S',st⟩:=S.step hI hl
   exact hnext _ _ ⟨env',σ',z,r',D',I',O',hk,S',st⟩
theorem Zcv {cx:Cx} (hcx:CxOK P cx) (hI:YEnv P B Ig l sc JX) {sx:FuncId->Bool} (ops:List Oper) {Q:Exit->Act->World->Prop} {K:Env->St->Zs->Prop}:∀ (os:List Oper),Ye os=true->∀ {r:Locs} {D:Nat->Prop} {I:Imm} {O:Nat->Prop} {w:World} {env:Env} {σ:St} {z:Zs} {a:Act},
  YSx N B Ig JX z r D I O env σ a w->Zcw P cx N B l sc sx Ig JX ops os env σ z K->(∀ a' w',LvY N B Ig JX r D I w K a' w'->Q .normal a' w')->wpListIn Ru 0 P ops.toArray Q os a w
 | [],_,r,D,I,O,w,env,σ,z,a,S,hvc,hq=>hq _ _ ⟨env,σ,z,r,D,I,O,hvc,S,Tm _ _ _ _⟩
 | o::rest,hd,r,D,I,O,w,env,σ,z,a,S,hvc,hq=>by
  simp only [Ye,Qc] at hd
  obtain ⟨hd1,hd2⟩:=hd
  have ho:∀ c,o.op ≠ .defer c:=fun c e=>by rw [e] at hd1; simp at hd1
  have run:∀ env',YSx N B Ig JX z r D I O env' σ a w->vcY1 P cx N B l sc sx Ig JX o env' σ z (fun env' σ' z'=>Zcw P cx N B l sc sx Ig JX ops rest env' σ' z' K)->o.wpIn Ru 0 P a w (wpListIn Ru 0 P ops.toArray Q rest) Q:=by
   intro env' S' hv
   refine Zrv hcx hI o ho S' hv (fun a' w' hl=>?_)
   obtain ⟨env2,σ2,z2,r2,D2,I2,O2,h1,h2,h3⟩:=hl
   refine Zcv hcx hI ops rest hd2 h2 h1 (fun a3 w3 hl3=>hq _ _ ?_)
   obtain ⟨env3,σ3,z3,r3,D3,I3,O3,g1,g2,g3⟩:=hl3
   exact ⟨env3,σ3,z3,r3,D3,I3,O3,g1,g2,h3.trans g3⟩
  have skip:∀ env',YSx N B Ig JX z r D I O env' σ a w->(Zp N o.dst (.tup []) env' fun env'=>Zcw P cx N B l sc sx Ig JX ops rest env' σ z K)->(∀ f,o.about P w a.eval=some f->Fence.wide.fn f)/\wpListIn Ru 0 P ops.toArray Q rest (a.put o.dst undef) w:=by
   intro env' S' hv
   refine ⟨Ul (.inl rfl) o a w,?_⟩
   obtain ⟨env2,h1,h2⟩:=S'.put (x:=undef) (VR.tup D [] #[] rfl (fun i c v hc=>by cases hc)) hv
   exact Zcv hcx hI ops rest hd2 h2 h1 hq
  simp only [Zcw] at hvc
  cases hg:o.guard with
  | none =>
   rw [hg] at hvc
   refine wpListIn_step fun K0 hK=>?_
   simp only [Wb,hg,if_true]
   have:=run env S hvc
   refine ⟨this.1,?_⟩
   exact Zbz hK this.2
  | some jw =>
   obtain ⟨j,want⟩:=jw
   rw [hg] at hvc
   dsimp only at hvc
   cases ht:Yh ops j with
   | none=>rw [ht] at hvc; exact hvc.elim
   | some t =>
    rw [ht] at hvc
    dsimp only at hvc
    have htv:=S.er.2 t
    have hput:∀ b,env.get t = .bool b->YSx N B Ig JX z r D I O ((t,.bool b)::env) σ a w:=fun b hb=>⟨S.hr,S.ho,S.lo,S.up,⟨S.er.1,fun i=>by
     rw [Tu]
     by_cases e:i=t
     ·subst e; rw [if_pos rfl,<-hb]; exact htv
     ·rw [if_neg e]; exact S.er.2 i⟩,S.jx,S.df⟩
    unfold wpListIn
    have hwant:Wb o (yielded ops.toArray a.tmps)=(yielded ops.toArray a.tmps j==some want):=by simp [Wb,hg]
    rw [hwant]
    by_cases hts:t<a.tmps.size
    ·rw [Zgc ht a hts]
     split at hvc
     ·rename_i b hb
      have hval:a.tmps.getD t undef = .bool b:=by
       rw [hb] at htv
       generalize a.tmps.getD t undef=z at htv
       cases htv; rfl
      rw [hval]
      dsimp only
      rcases Oq hvc with ⟨rfl,hv⟩|⟨rfl,hv⟩
      ·cases want
       ·simp only [show (some true==some false)=false from rfl,Ra,if_false]
        exact skip _ (hput _ hb) hv
       ·simp only [show (some true==some true)=true from rfl,if_true]
        exact run _ (hput _ hb) hv
      ·cases want
       ·simp only [show (some false==some false)=true from rfl,if_true]
        exact run _ (hput _ hb) hv
       ·simp only [show (some false==some true)=false from rfl,Ra,if_false]
        exact skip _ (hput _ hb) hv
     ·rename_i hb
      have hval:∃ vs,a.tmps.getD t undef = .tuple vs:=by
       rw [hb] at htv
       generalize a.tmps.getD t undef=z at htv
       cases htv; exact ⟨_,rfl⟩
      obtain ⟨vs,hval⟩:=hval
      rw [hval]
      dsimp only
      rw [if_neg (by simp)]
      exact skip _ S hvc
     ·exact hvc.elim
    ·have hval:a.tmps.getD t undef=undef:=by simp [Qu,Pn.1 hts]
     rw [hval] at htv
     split at hvc
     ·rename_i b hb
      rw [hb] at htv
      cases htv
     ·have:yielded ops.toArray a.tmps j=none:=by
       unfold yielded
       have:(ops.toArray[j]?).bind (·.dst)=some t:=by simpa [Yh] using ht
       rw [this]
       simp [Pn.1 hts]
      rw [this,if_neg (by simp)]
      exact skip _ S hvc
     ·exact hvc.elim
def vcYC (P:Program) (cx:Cx) (pc:PC) (N B l:Nat) (sc:Bool) (sx:FuncId->Bool) (Ig:Imm) (JX:Zs->(Nat->Prop)->World->Prop) (lp:Code->Env->St->Zs->IQ->Prop):Code->Env->St->Zs->IQ->Prop
 | .skip,env,σ,z,Q=>Q .normal env σ z
 | .region _ ops draw,env,σ,z,Q=>match draw with
  | false=>cond (Ye ops.toList) (Zcw P cx N B l sc sx Ig JX ops.toList ops.toList env σ z (Q .normal)) False
  | true=>Zfe cx pc N ops.toList env σ fun env' σ'=>Q .normal env' σ' z
 | .seq x y,env,σ,z,Q=>vcYC P cx pc N B l sc sx Ig JX lp x env σ z (seqI (fun env' σ' z'=>vcYC P cx pc N B l sc sx Ig JX lp y env' σ' z' Q) Q)
 | .cond c x y,env,σ,z,Q=>match evA env c with
  | .bool b=>Br b (fEnv (setC env c true) fun env=>vcYC P cx pc N B l sc sx Ig JX lp x env σ z Q) (fEnv (setC env c false) fun env=>vcYC P cx pc N B l sc sx Ig JX lp y env σ z Q)
  | _=>False
 | .block id c,env,σ,z,Q=>vcYC P cx pc N B l sc sx Ig JX lp c env σ z (Zk1 id Q)
 | .loop c,env,σ,z,Q=>lp c env σ z Q
 | .exit id,env,σ,z,Q=>Q (.exit id) env σ z
 | .ret,env,σ,z,Q=>Q .ret env σ z
 | _,_,_,_,_=>False
theorem YSx.setC {z:Zs} {env:Env} {σ:St} {a:Act} {c:Operand} {b:Bool} (S:YSx N B Ig JX z r D I O env σ a w) (hc:evA env c = .bool b):YSx N B Ig JX z r D I O (Sx.setC env c b) σ a w:=by
 cases c with
 | tmp t =>
  refine ⟨S.hr,S.ho,S.lo,S.up,⟨S.er.1,fun i=>?_⟩,S.jx,S.df⟩
  simp only [Sx.setC,Tu]
  by_cases e:i=t
  ·subst e; rw [if_pos rfl,<-hc]; exact S.er.2 i
  ·rw [if_neg e]; exact S.er.2 i
 | _=>exact S
theorem Zab {cx:Cx} (hcx:CxOK P cx) {pc:PC} (hpc:PCOK P pc) (hm:P.follows .mixedOrders=true) (hI:YEnv P B Ig l sc JX) {sx:FuncId->Bool} {lp:Code->Env->St->Zs->IQ->Prop} (hlp:∀ c env σ z Q,lp c env σ z Q->AwpY P N B Ig JX (.loop c) env σ z Q) :
  ∀ (c:Code) (env:Env) (σ:St) (z:Zs) (Q:IQ),vcYC P cx pc N B l sc sx Ig JX lp c env σ z Q->AwpY P N B Ig JX c env σ z Q
 | .skip,env,σ,z,Q,hv=>fun r D I O a w S=>wpIn_skip ⟨env,σ,z,r,D,I,O,hv,S,Tm _ _ _ _⟩
 | .region id ops draw,env,σ,z,Q,hv=>by
  cases draw with
  | true =>
   intro r D I O a w S
   simp only [vcYC] at hv
   refine Zk9 hcx hpc hm (.inl rfl) id ops (pr:=prO B O w) (w0:=w) (I0:=I) hv ⟨S.hr,S.er⟩ (fun a' w' hl=>?_)
   obtain ⟨env',σ',r',D',I',O',hk,S',st⟩:=S.step hI hl
   exact ⟨env',σ',z,r',D',I',O',hk,S',st⟩
  | false =>
   intro r D I O a w S
   simp only [vcYC] at hv
   cases hno:Ye ops.toList with
   | false=>rw [hno] at hv; exact hv.elim
   | true =>
    rw [hno] at hv
    refine wpIn_region_list ?_
    exact Zcv hcx hI ops.toList (Q:=PY N B Ig JX r D I w Q) ops.toList hno S hv (fun a' w' hl=>hl)
 | .seq x y,env,σ,z,Q,hv=>by
  intro r D I O a w S
  simp only [vcYC] at hv
  refine wpIn_seq (Qv (fun e a' w' h=>?_) (Zab hcx hpc hm hI hlp x env σ z _ hv r D I O a w S))
  obtain ⟨env',σ',z',r',D',I',O',hq,S',st⟩:=h
  cases e with
  | normal=>exact Qv (fun e a2 w2 ⟨env2,σ2,z2,r2,D2,I2,O2,q2,S2,st2⟩=>⟨env2,σ2,z2,r2,D2,I2,O2,q2,S2,st.trans st2⟩) (Zab hcx hpc hm hI hlp y env' σ' z' Q hq r' D' I' O' a' w' S')
  | exit id=>exact ⟨env',σ',z',r',D',I',O',hq,S',st⟩
  | goto l=>exact ⟨env',σ',z',r',D',I',O',hq,S',st⟩
  | ret=>exact ⟨env',σ',z',r',D',I',O',hq,S',st⟩
  | panic ch=>exact ⟨env',σ',z',r',D',I',O',hq,S',st⟩
  | outgrown=>exact ⟨env',σ',z',r',D',I',O',hq,S',st⟩
 | .cond c x y,env,σ,z,Q,hv=>by
  intro r D I O a w S
  simp only [vcYC,Zpp] at hv
  split at hv
  ·rename_i b hb
   have hc:=Xd S.er c
   rw [hb] at hc
   have hcv:a.eval c = .bool b:=by generalize a.eval c=z at hc; cases hc; rfl
   rcases Oq hv with ⟨rfl,h⟩|⟨rfl,h⟩
   ·exact wpIn_cond_true hcv (Zab hcx hpc hm hI hlp x _ σ z Q h r D I O a w (S.setC hb))
   ·exact wpIn_cond_false hcv (Zab hcx hpc hm hI hlp y _ σ z Q h r D I O a w (S.setC hb))
  ·exact hv.elim
 | .block id c,env,σ,z,Q,hv=>by
  intro r D I O a w S
  simp only [vcYC] at hv
  refine wpIn_block (Qv (fun e a' w' h=>?_) (Zab hcx hpc hm hI hlp c env σ z _ hv r D I O a w S))
  obtain ⟨env',σ',z',r',D',I',O',hq,S',st⟩:=h
  cases e with
  | exit id' =>
   by_cases hid:id'=id
   ·subst hid
    simp only [Pg,if_true]
    exact ⟨env',σ',z',r',D',I',O',by simpa [Zk1] using hq,S',st⟩
   ·simp only [Pg,hid,if_false]
    have:Ql id' id=false:=by rw [Bool.eq_false_iff]; intro hb; exact hid (Qf hb)
    exact ⟨env',σ',z',r',D',I',O',by simpa [Zk1,this] using hq,S',st⟩
  | normal=>exact ⟨env',σ',z',r',D',I',O',hq,S',st⟩
  | goto l=>exact ⟨env',σ',z',r',D',I',O',hq,S',st⟩
  | ret=>exact ⟨env',σ',z',r',D',I',O',hq,S',st⟩
  | panic ch=>exact ⟨env',σ',z',r',D',I',O',hq,S',st⟩
  | outgrown=>exact ⟨env',σ',z',r',D',I',O',hq,S',st⟩
 | .loop c,env,σ,z,Q,hv=>hlp c env σ z Q hv
 | .exit id,env,σ,z,Q,hv=>fun r D I O a w S=>wpIn_exit ⟨env,σ,z,r,D,I,O,hv,S,Tm _ _ _ _⟩
 | .ret,env,σ,z,Q,hv=>fun r D I O a w S=>wpIn_ret ⟨env,σ,z,r,D,I,O,hv,S,Tm _ _ _ _⟩
 | .rangeFunc _ _ _ _,_,_,_,_,hv=>hv.elim
 | .scope _,_,_,_,_,hv=>hv.elim
 | .label _,_,_,_,_,hv=>hv.elim
 | .goto _,_,_,_,_,hv=>hv.elim
 | .refuse _,_,_,_,_,hv=>hv.elim
variable {r r' : Locs} {D D' : Nat->Prop} {I I' : Imm} {w w' w0:World} {I0 Ig:Imm} {B n n' k N l:Nat} {pr pr' pr2:Nat->Obj->Prop} {h:Nat->ABlk} {P:Program} {JX:Zs->(Nat->Prop)->World->Prop} {O:Nat->Prop} {sc:Bool}
theorem YSx.rename {n0:Nat} {z:Zs} {env env' : Env} {σ σ' : St} {a:Act} (S:YSx N B Ig JX z r D I O env σ a w) (hr:Ren n0 env σ env' σ') :
  ∃ r2 D2,YSx N B Ig JX z r2 D2 I O env' σ' a w/\∀ id,id<n0->D id->D2 id/\r2 id=r id:=by
 obtain ⟨r2,D2,H2,k2,e2⟩:=S.hr.rename (N:=N) hr
 exact ⟨r2,D2,⟨H2,S.ho,S.lo,S.up,e2 _ S.er,S.jx,S.df⟩,k2⟩
def Zw2 (P:Program) (N B:Nat) (Ig:Imm) (JX:Zs->(Nat->Prop)->World->Prop) (n0:Nat) (c:Code) (Q:IQ):Nat->Env->St->Zs->Prop
 | 0,_,_,_=>False
 | m+1,env,σ,z=>AwpY P N B Ig JX c env σ z (seqI (fun env' σ' z'=>∃ env2 σ2,Ren n0 env' σ' env2 σ2/\Zw2 P N B Ig JX n0 c Q m env2 σ2 z') Q)
theorem Zsa {n0:Nat} {c:Code} {Q:IQ} (hd0:∀ id,D id->id<n0):∀ (m:Nat) (env:Env) (σ:St) (z:Zs) (r1:Locs) (D1:Nat->Prop) (I1:Imm) (O1:Nat->Prop) (a1:Act) (w1:World),Zw2 P N B Ig JX n0 c Q m env σ z ->
  YSx N B Ig JX z r1 D1 I1 O1 env σ a1 w1->Step r D I w r1 D1 I1 w1->Code.roundsIn Ru 0 P c (PY N B Ig JX r D I w Q) m a1 w1:=by
 intro m
 induction m with
 | zero=>intro env σ z r1 D1 I1 O1 a1 w1 hv; exact hv.elim
 | succ m ih =>
  intro env σ z r1 D1 I1 O1 a1 w1 hv S st
  refine Qv (fun e a2 w2 hp=>?_) (hv r1 D1 I1 O1 a1 w1 S)
  obtain ⟨env2,σ2,z2,r2,D2,I2,O2,q2,s2,t2⟩:=hp
  have hout:∀ e',Q e' env2 σ2 z2->PY N B Ig JX r D I w Q e' a2 w2:=fun e' hq=>⟨env2,σ2,z2,r2,D2,I2,O2,hq,s2,st.trans t2⟩
  cases e with
  | normal =>
   obtain ⟨env3,σ3,hfr,q3⟩:=q2
   obtain ⟨r3,D3,s3,k3⟩:=s2.rename hfr
   exact ih env3 σ3 z2 r3 D3 I2 O2 a2 w2 q3 s3 ((st.trans t2).rename hd0 k3)
  | exit id=>exact hout _ q2
  | goto l=>exact hout _ q2
  | ret=>exact hout _ q2
  | panic ch=>exact hout _ q2
  | outgrown=>exact hout _ q2
inductive YLp (P:Program) (N B:Nat) (Ig:Imm) (JX:Zs->(Nat->Prop)->World->Prop) (c:Code) (env:Env) (σ:St) (z:Zs) (Q:IQ):Prop
 | mk (h:AwpY P N B Ig JX (.loop c) env σ z Q):YLp P N B Ig JX c env σ z Q
instance {c:Code} {env:Env} {σ:St} {z:Zs} {Q:IQ}:Stop (YLp P N B Ig JX c env σ z Q):=⟨trivial⟩
instance {f:FuncId} {args:List AV} {σ:St} {z:Zs} {K:AV->St->Zs->Prop}:Stop (YCt P B Ig JX f args σ z K):=⟨trivial⟩
instance {p:Prop}:Stop (Yd p):=⟨trivial⟩
theorem AwpY.mono {c:Code} {env:Env} {σ:St} {z:Zs} {Q1 Q2:IQ} (hq:∀ e env σ z,Q1 e env σ z->Q2 e env σ z) (h:AwpY P N B Ig JX c env σ z Q1):AwpY P N B Ig JX c env σ z Q2 :=
 fun r D I O a w S=>Qv (fun e a' w' ⟨env',σ',z',r',D',I',O',q,S',st⟩=>⟨env',σ',z',r',D',I',O',hq _ _ _ _ q,S',st⟩) (h r D I O a w S)
theorem Zuj {S:Type} (μ:S->Nat) (E:S->Env) (Z:S->List (Nat × ABlk)) (zf:S->Zs) (n0:Nat) (n1:S->Nat) (G:S->Prop) {c:Code} {Q:IQ} (s:S) (hs:G s) {env:Env} {σ:St} {z:Zs} (hn:σ.next<=n0) (hz:z=zf s) (fl0:List (Nat × Nat))
  (h1:(okF n0 fl0&&Zjy n0 fl0 (Z s)&&imgF n0 fl0&&Rx n0 (n1 s))=true) (h2:RenE (fOf fl0) (n1 s) env (E s)) (h3:RenH (fOf fl0) (n1 s) σ.get (Z s))
  (step:∀ s,G s->AwpY P N B Ig JX c (E s) ⟨Z s,n1 s⟩ (zf s) (seqI (fun env' σ' z'=>Done (∃ s' fl,(okF n0 fl&&Zjy n0 fl (Z s')&&imgF n0 fl&&Rx n0 (n1 s'))=true/\RenE (fOf fl) (n1 s') env' (E s')/\RenH (fOf fl) (n1 s') σ'.get (Z s')/\z'=zf s'/\G s'/\μ s'<μ s)) Q)):YLp P N B Ig JX c env σ z Q:=by
 subst hz
 have key:∀ n s,μ s<n->G s->Zw2 P N B Ig JX n0 c Q n (E s) ⟨Z s,n1 s⟩ (zf s):=by
  intro n
  induction n with
  | zero=>intro s h; omega
  | succ n ih =>
   intro s h hg
   refine (step s hg).mono fun e env' σ' z' hq=>?_
   cases e with
   | normal =>
    obtain ⟨s',fl,k1,k2,k3,rfl,g',m'⟩:=hq.1
    exact ⟨E s',⟨Z s',n1 s'⟩,Ren.of fl k1 k2 k3,ih s' (by omega) g'⟩
   | exit id=>exact hq
   | goto l=>exact hq
   | ret=>exact hq
   | panic ch=>exact hq
   | outgrown=>exact hq
 refine ⟨fun r D I O a w S=>?_⟩
 have hr:=Ren.of (n1:=n1 s) fl0 h1 h2 h3
 obtain ⟨r2,D2,S2,k2⟩:=S.rename hr
 have hd0:∀ id,D id->id<n0:=fun id hd=>by have:=(S.hr.dom id hd).1; omega
 refine wpIn_loop_rounds (μ s+1) ?_
 exact Zsa hd0 (μ s+1) (E s) ⟨Z s,n1 s⟩ (zf s) r2 D2 I O a w (key (μ s+1) s (by omega) hs) S2 ((Tm _ _ _ _).rename hd0 k2)
variable (Bs:Base P)
abbrev Base.ycode (Bs:Base P) (pc:PC) (N B l:Nat) (sc:Bool) (sx:FuncId->Bool) (Ig:Imm) (JX:Zs->(Nat->Prop)->World->Prop):Code->Env->St->Zs->IQ->Prop:=vcYC P (cxV P Bs.T Bs.ok (fun _=>false) pc) pc N B l sc sx Ig JX (fun c env σ z Q=>YLp P N B Ig JX c env σ z Q)
theorem Base.yv {pc:PC} (hpc:PCOK P pc) (hI:YEnv P B Ig l sc JX) {sx:FuncId->Bool} {c:Code} {env:Env} {σ:St} {z:Zs} {Q:IQ} (hv:Bs.ycode pc N B l sc sx Ig JX c env σ z Q):AwpY P N B Ig JX c env σ z Q :=
 Zab (Zf2 Bs.hT Bs.hok hpc) hpc Bs.hm hI (fun _ _ _ _ _ h=>h.1) c env σ z Q hv
def retY (T:Tab) (rs:List ResultVar) (K:AV->St->Zs->Prop):IQ
 | .normal,env,σ,z=>Got (Zbh T env σ.get rs) fun vs=>fA (resV vs) fun v=>K v σ z
 | .ret,env,σ,z=>Got (Zbh T env σ.get rs) fun vs=>fA (resV vs) fun v=>K v σ z
 | _,_,_,_=>False
theorem Ycl {fn:Func} {args:List AV} {vs:Array Value} (hargs:VRs r I w D args vs) (hle:args.length<=fn.ntmps):ER r I w D fn.ntmps (env0 0 args) (vs++Wu (fn.ntmps-vs.size) undef):=by
 have hsz:vs.size=args.length:=hargs.1
 refine ⟨by simp; omega,fun i=>?_⟩
 rw [Zhz]
 simp only [Qm,if_true,Wt]
 cases hi:args[i]? with
 | none=>simp; exact .any _ _
 | some v =>
  have hlt:i<vs.size:=by rw [hsz]; exact (Qg.1 hi).1
  have:=hargs.2 i v vs[i] hi (by simp [hlt])
  simpa [Qu,Array.getElem?_append,hlt] using this
theorem Zoj {T:Tab} (hT:TabOK P T) {f:FuncId} {fn:Func} {c:Code} (hf:P.funcs[f]?=some fn) (hb:fn.body=some c) {args:List AV} (hle:Rx args.length fn.ntmps=true) {σ:St} {z:Zs} {K:AV->St->Zs->Prop}
  (hv:AwpY P fn.ntmps B Ig JX c (env0 0 args) σ z (retY T fn.results.toList K)):Zrm P B Ig JX f args σ z K:=by
 intro r D I O w vs H ho lo up jx hargs
 have hle:=Nat.le_of_ble_eq_true hle
 refine callsIn_of_wp_marks hf hb trivial ?_
 have S:YSx fn.ntmps B Ig JX z r D I O (env0 0 args) σ { tmps:=vs++Wu (fn.ntmps-vs.size) undef,defers:=[] } w:=⟨H,ho,lo,up,Ycl hargs hle,jx,rfl⟩
 refine Qv (fun e a' w' hp=>?_) (hv r D I O _ w S)
 obtain ⟨env',σ',z',r',D',I',O',hq,S',st⟩:=hp
 have fin:(Got (Zbh T env' σ'.get fn.results.toList) fun vs=>fA (resV vs) fun v=>K v σ' z')->LeavesInM Ru 0 P fn a'.tmps (fun e w'=>∃ x v σ' z' r' D' I' O',e = .returned x/\K v σ' z'/\HR B w' I' (prO B O' w') r' I' D' σ'.get σ'.next w'/\(∀ b,O' b->B<=b/\b<w'.heap.size)/\(∀ b o,Ig b o->I' b o)/\(∀ b o,I' b o->Ig b o\/O' b)/\JX z' O' w'/\VR r' I' w' D' v x/\Step r D I w r' D' I' w') a'.defers .returning w':=by
  intro hg
  obtain ⟨us,hus,hk⟩:=Got.cases hg
  rw [Zpq] at hk
  obtain ⟨x,h1,h2⟩:=Ze0 hT S'.hr S'.er hus
  rw [S'.df]
  exact ⟨x,h1,x,resV us,σ',z',r',D',I',O',rfl,hk,S'.hr,S'.ho,S'.lo,S'.up,S'.jx,h2,st⟩
 cases e with
 | normal=>exact fin hq
 | ret=>exact fin hq
 | _=>exact hq.elim
end Go.Sx
set_option maxRecDepth 20000
namespace Go.Sx
open Go Ieee
open Go Go.RowKit
variable {P:Program} {N:Nat}
variable {r r' : Locs} {I I' I2:Imm} {w w' : World} {P:Program}
mutual
def Frk (bl:List (Nat × List (List AV))):AV->AV->Prop
 | .asl id idx len,.isl es els=>(bl[id]?=some (es,els)/\id≠0)/\idx=0/\len=els.length
 | .asl id idx len,.asl id' idx' len'=>id=0/\id'=0/\idx=idx'/\len=len'
 | .nils,.isl _ els=>els=[]
 | .agg cs,.agg ds=>FrkL bl cs ds
 | .tup cs,.tup ds=>FrkL bl cs ds
 | v,v'=>v=v'/\Zw v=true
def FrkL (bl:List (Nat × List (List AV))):List AV->List AV->Prop
 | [],[]=>True
 | c::cs,d::ds=>Frk bl c d/\FrkL bl cs ds
 | _,_=>False
end
variable {P:Program}
theorem Zjm (w:World) (o:Obj):Below w.heap.size w (w.alloc o):=⟨rfl,rfl,rfl,by simp,fun _ hk=>Zq w o hk⟩
theorem Zmw {f:FuncId} {es:Nat} (hfn:FnOK P f) (h:∀ (a:Option Addr) (cap:Nat) (w:World),Calls P f #[.slice a 0 cap] w fun e w'=>∃ a' cap',e = .returned (.slice a' 0 cap')/\Below w.heap.size w w'):PCall P f [.isl es []] ⟨.isl es [],[]⟩:=by
 refine ⟨hfn,fun I w vs hI hv=>?_⟩
 obtain ⟨hs,hc⟩:=hv
 have hs:vs.size=1:=hs
 obtain ⟨v0,rfl⟩:∃ v0,vs = #[v0]:=⟨vs[0],by
  apply Array.ext
  ·simp [hs]
  ·intro i h1 h2
   have:i=0:=by omega
   subst this; rfl⟩
 have h0:=hc 0 _ v0 rfl rfl
 obtain ⟨a,cap,rfl⟩:∃ a cap,v0 = .slice a 0 cap:=by
  cases h0 with
  | isl0=>exact ⟨_,_,rfl⟩
  | isl=>exact ⟨_,_,rfl⟩
 refine (callsIn_wide.2 (h a cap w)).mono fun e w' ⟨a',cap',he,hb⟩=>⟨_,r0,I,he,hb,fun _ _ h=>h,fun _ _ h=>.inl h,fun b o h=>Ro (hI b o h) hb.size,fun j p hj=>by simp at hj,fun j j' h1=>by simp at h1,.isl0 _ _ _ _⟩
theorem Zk3 {T:Tab} {ok:TypeId->Bool} {k:Nat} {ev:Operand->AV} {h:Nat->ABlk} {x lo hi:Operand} {t e:TypeId} {ti te:TI} {id len ll hh:Nat} {elems:List (List AV)} {mt pu:Bool} {K:AV × Eff->Prop}
  (h1:T t=some ti) (h3:ti.desc = .slice e) (h5:T e=some te) (hx:ev x = .asl id 0 len) (hb:h id = .row te.size elems mt pu) (hlo:Zeb (some (ev lo)) 0=some ll) (hhi:Zeb (some (ev hi)) len=some hh) (hl:ll<=hh) (hl2:hh<=len) (hl3:ll<len)
  (hk:K (.asl id (0+ll) (hh-ll),.none)):Got (aop T ok k ev h (.slice t x (some lo) (some hi) none)) K:=by
 have ha:aopA T ok k ev h (.slice t x (some lo) (some hi) none)=none:=rfl
 have hs:Zb1 T h t (ev x) (some (ev lo)) (some (ev hi))=some (.asl id (0+ll) (hh-ll)):=by
  unfold Zb1
  rw [h1]
  dsimp only
  rw [h3]
  dsimp only
  rw [h5]
  dsimp only
  rw [hx]
  dsimp only
  rw [hb]
  dsimp only
  rw [hlo,hhi]
  show cond _ _ _=_
  have b1:Rx ll hh=true:=Hc hl
  have b2:Rx hh len=true:=Hc hl2
  have b3:Nat.blt ll len=true:=by rw [Sd]; exact hl3
  rw [Nat.beq_refl,b1,b2,b3,Bool.or_true]
  rfl
 refine Got.intro (x:=(.asl id (0+ll) (hh-ll),.none)) ?_ hk
 unfold aop
 rw [ha]
 dsimp only
 show ret (Zb1 T h t (ev x) (some (ev lo)) (some (ev hi)))=_
 rw [hs]
 rfl
variable {h' : Nat->ABlk} {n0:Nat} {r r' : Locs} {D D' : Nat->Prop} {I I' : Imm} {w w' w0:World} {I0:Imm} {B n n' k N:Nat} {pr pr' pr2:Nat->Obj->Prop} {h:Nat->ABlk} {P:Program}
structure RoundsOKT (P:Program) (W:World) (I:Imm) (l:Nat) (xs:List (List AV)) (J:Nat->(Nat->Prop)->World->Prop) (X:(Nat->Prop)->World->Prop):Prop where
 growX:∀ O w w',X O w->Chg O w w'->X (fun b=>O b\/(w.heap.size<=b/\b<w'.heap.size)) w'
 grow:∀ i O w w',J i O w->Chg O w w'->J i (fun b=>O b\/(w.heap.size<=b/\b<w'.heap.size)) w'
 fin:∀ i O w,J i O w->∀ b,O b->b<w.heap.size
 round:∀ i x O w ys I',xs[i]?=some x->J i O w->(∀ b o,I b o->I' b o)->(∀ b o,I' b o->I b o\/O b)->VRs r0 I' w (fun _=>False) x ys ->
  YieldAt Ru 0 P l ys w fun e w'=>∃ b,e = .returned (.bool b)/\(∀ q,O q->w'.heap[q]?=w.heap[q]?)/\(∀ q o,I q o->w'.cell? ⟨q,o,none⟩=w.cell? ⟨q,o,none⟩)/\w.heap.size<=w'.heap.size/\(b=true->J (i+1) O w')/\(b=false->X O w')
def Zoq (P:Program) (g:FuncId) (c0 c1:List AV) (xs:List (List AV)):Prop :=
 FnOK P g/\∀ (I:Imm) (W:World) (v0 v1:Array Value) (l:Nat) (J:Nat->(Nat->Prop)->World->Prop) (X:(Nat->Prop)->World->Prop),(∀ b o,I b o->b<W.heap.size)->VRs r0 I W (fun _=>False) c0 v0->VRs r0 I W (fun _=>False) c1 v1 ->
  RoundsOKT P W I l xs J X->J 0 (fun _=>False) W->CallsIn Ru 0 P g ((v0 ++ #[.func (.yield l) #[] #[]])++v1) W fun e w'=>∃ v,e = .returned v/\((∃ O,J xs.length O w')\/∃ O,X O w')
def val1:Value->AV
 | .slice a n c=>.val a n c
 | _=>.any
def valL (ys:Array Value):List AV:=ys.toList.map val1
theorem Zw9 (ys:Array Value):VRs r I w D (valL ys) ys:=⟨by simp [valL],fun i c v hc hv=>by
 simp only [valL,List.getElem?_map,Array.getElem?_toList,hv,Option.map_some,Qe] at hc
 subst hc
 unfold val1
 split
 ·exact .val _ _ _ _
 ·exact .any _ _⟩
def Yb5:AV->Bool
 | .isl _ _=>true
 | _=>false
def SlV (ys:Array Value):Prop:=∀ (i:Nat) (y:Value),ys[i]?=some y->∃ a n c,y = .slice a n c
theorem Yc8 {x:List AV} {ys:Array Value} (h:VRs r I w D x ys) (hx:x.all Yb5=true):SlV ys:=by
 intro i y hy
 have hi:i<x.length:=by rw [<-h.1]; exact (Qk.1 hy).1
 have hv:=h.2 i x[i] y (Qh hi) hy
 have hb:=Rf.1 hx _ (List.getElem_mem hi)
 generalize x[i]=c at *
 cases hv with
 | isl0=>exact ⟨_,_,_,rfl⟩
 | isl=>exact ⟨_,_,_,rfl⟩
 | _=>cases hb
def TFr (pr:Nat->Obj->Prop) (I:Imm) (w:World) (x:List AV) (ys:Array Value):Prop :=
 ∃ T:Imm,(∀ b o,T b o->∃ ob,pr b ob)/\VRs r0 (fun b o=>I b o\/T b o) w (fun _=>False) x ys
theorem TFr.step {x:List AV} {ys:Array Value} (ht:TFr pr I w x ys) (H:HR B w0 I0 pr r I D h n w) (H' : HR B w0 I0 pr r' I' D' h' n' w') (S:Step r D I w r' D' I' w'):TFr pr I' w' x ys:=by
 obtain ⟨T,h1,h2⟩:=ht
 refine ⟨T,h1,h2.mono ⟨fun _ h=>h.elim,fun b o hi=>?_,S.size⟩⟩
 rcases hi with hi|hi
 ·have:=S.imm b o hi
  exact ⟨.inl this.1,this.2⟩
 ·obtain ⟨ob,hp⟩:=h1 b o hi
  exact ⟨.inr hi,Sn ((H'.prot b ob hp).1.trans (H.prot b ob hp).1.symm)⟩
def AwpT (P:Program) (N:Nat) (x:List AV) (ys:Array Value) (c:Code) (env:Env) (σ:St) (Q:Exit->Env->St->Prop):Prop :=
 ∀ (F:Fence) (B:Nat) (w0:World) (I0:Imm) (pr:Nat->Obj->Prop) (r:Locs) (I:Imm) (D:Nat->Prop) (a:Act) (w:World),FOK F->RdOK F pr->SR B w0 I0 pr N r I D env σ a w->TFr pr I w x ys ->
  c.wpIn F 0 P (Post B w0 I0 pr N r I D w a.defers Q) a w
def Zjr (P:Program) (N n0:Nat) (ps:List Tmp) (assign body:Code) (env:Env) (Q:Exit->Env->St->Prop):List (List AV)->St->Prop
 | [],σ=>Q .normal env σ
 | x::xs,σ=>(x.length=ps.length/\x.all Yb5=true)/\∀ ys:Array Value,ys.size=x.length->SlV ys->Awp P N assign (Zda ps (valL ys) env) σ fun e env1 σ1=>e = .normal/\AwpT P N x ys body env1 σ1 fun e _ σ2=>match e with
  | .normal=>∃ σ3,(σ3=σ2\/Ren n0 [] σ2 [] σ3)/\Zjr P N n0 ps assign body env Q xs σ3
  | .ret=>Q .ret env σ2
  | .exit id=>Q (.exit id) env σ2
  | _=>False
structure BetwT (P:Program) (N n0:Nat) (B:Nat) (w0:World) (I0:Imm) (pr:Nat->Obj->Prop) (l:Nat) (rec:Loop) (r:Locs) (I:Imm) (D:Nat->Prop) (w1:World) (ps:List Tmp) (assign body:Code) (env:Env) (Q:Exit->Env->St->Prop) (rest:List (List AV)) (O:Nat->Prop) (W:World):Prop where
 ex:∃ σ r' I' D',HR B w0 I0 (prI pr l (recS rec .ready none) O W) r' I' D' σ.get σ.next W/\Step r D I w1 r' D' I' W/\Zjr P N n0 ps assign body env Q rest σ
 own:∀ b,O b->w1.heap.size<=b/\b<W.heap.size
 low:∀ b o,pr b o->b<w1.heap.size/\b≠l
 lt:l<w1.heap.size
 dlt:∀ id,D id->id<n0
theorem BetwT.grow {l:Nat} {rec:Loop} {w1:World} {ps:List Tmp} {assign body:Code} {env:Env} {Q:Exit->Env->St->Prop} {rest:List (List AV)} {O:Nat->Prop} (b:BetwT P N n0 B w0 I0 pr l rec r I D w1 ps assign body env Q rest O w) (hc:Chg O w w') :
  BetwT P N n0 B w0 I0 pr l rec r I D w1 ps assign body env Q rest (fun b=>O b\/(w.heap.size<=b/\b<w'.heap.size)) w':=by
 obtain ⟨⟨σ,r',I',D',H,S,hr⟩,hown,hlow,hrec,hdlt⟩:=b
 have hsz:w1.heap.size<=w.heap.size:=S.size
 obtain ⟨H',S'⟩:=H.chg (pr2:=prI pr l (recS rec .ready none) (fun b=>O b\/(w.heap.size<=b/\b<w'.heap.size)) w') (O:=O) (fun b hb=>by
   have hlt:=(hown b hb).2
   exact ⟨w.heap[b],.inr (.inr ⟨hb,by simp [hlt]⟩)⟩) hc (fun b o hp=>by
   rcases hp with h|⟨rfl,rfl⟩|⟨h|h,h2⟩
   ·refine .inl ⟨.inl h,fun hb=>?_⟩
    have:=hlow b o h; have:=hown b hb; omega
   ·refine .inl ⟨.inr (.inl ⟨rfl,rfl⟩),fun hb=>?_⟩
    have:=hown b hb; omega
   ·exact .inr ⟨.inl h,h2⟩
   ·exact .inr ⟨.inr h.1,h2⟩)
 refine ⟨⟨σ,r',I',D',H',S.trans S',hr⟩,fun b hb=>?_,hlow,hrec,hdlt⟩
 rcases hb with hb|hb
 ·have:=hown b hb; have:=hc.size; omega
 ·omega
theorem BetwT.round {l Db:Nat} {rec:Loop} {w1:World} {ps:List Tmp} {assign body:Code} {env:Env} {tmps:Array Value} {Q:Exit->Env->St->Prop} {x:List AV} {rest:List (List AV)} {O:Nat->Prop} {ys:Array Value}
  (b:BetwT P N n0 B w0 I0 pr l rec r I D w1 ps assign body env Q (x::rest) O w) (hps:Vb N ps=true) (hrp:rec.params.toList=ps) (hrt:rec.tmps=tmps) (hra:rec.assign=assign) (hrb:rec.body=body) (hrd:rec.defers=Db) (hdb:pr Db (.deferred (some [])))
  (hE:ER r I w1 D N env tmps) (hI1:∀ q o,I0 q o->I0 q o) {IT:Imm} (hlo:∀ q o,I q o->IT q o) (hup:∀ q o,IT q o->I q o\/O q) (hv:VRs r0 IT w (fun _=>False) x ys) :
  YieldAt Ru 0 P l ys w fun e w'=>∃ b,e = .returned (.bool b)/\(∀ q,O q->w'.heap[q]?=w.heap[q]?)/\(∀ q o,I q o->w'.cell? ⟨q,o,none⟩=w.cell? ⟨q,o,none⟩)/\w.heap.size<=w'.heap.size /\
   (b=true->BetwT P N n0 B w0 I0 pr l rec r I D w1 ps assign body env Q rest O w')/\(b=false->Left B w0 I0 pr l rec r I D w1 env Q O w'):=by
 obtain ⟨⟨σ,r',I',D',H,S,⟨hlen,hisl⟩,hass⟩,hown,hlow,hrec,hdlt⟩:=b
 have hl:w.heap[l]?=some (.loop (recS rec .ready none)):=(H.prot l _ (.inr (.inl ⟨rfl,rfl⟩))).1
 have hys:ys.size=rec.params.size:=by
  have:rec.params.size=ps.length:=by rw [<-hrp]; simp
  rw [hv.1,hlen,this]
 have hy:=run_yield (P:=P) (args:=ys) hl (by simpa [recS] using hys)
 refine ⟨_,_,_,_,hy,roundIn_of_wpIn trivial ?_⟩
 have hass:=hass ys hv.1 (Yc8 hv hisl)
 have hlv:(valL ys).length=ps.length:=by simp [valL,hv.1,hlen]
 have hE1:ER r' I' w D' N (Zda ps (valL ys) env) (((recS rec .ready none).params.zip ys).foldl (fun t (p,v)=>t.setIfInBounds p v) (recS rec .ready none).tmps):=by
  have:=Zio (env:=env) (ps:=ps) (x:=valL ys) (ys:=ys.toList) hps hlv (by simpa using Zw9 (r:=r') (I:=I') (w:=w) (D:=D') ys) (hE.mono S)
  subst hrp
  rw [<-hrt] at this
  rw [<-Array.foldl_toList,Array.toList_zip]
  exact this
 have hRd1:RdOK (Fence.wide.inRound l) (prI pr l (recS rec .ready none) O w):=by
  intro l' hl'
  cases hl'
  exact ⟨_,.inr (.inl ⟨rfl,rfl⟩),.inl (by simpa [recS,hrd] using hdb)⟩
 have h1:=hass (Fence.wide.inRound l) B w0 I0 (prI pr l (recS rec .ready none) O w) r' I' D' { tmps:=((recS rec .ready none).params.zip ys).foldl (fun t (p,v)=>t.setIfInBounds p v) (recS rec .ready none).tmps,defers:=[] } w (Hs l) hRd1 ⟨H,hE1⟩
 have ha:(recS rec .ready none).assign=assign:=hra
 have hb:(recS rec .ready none).body=body:=hrb
 rw [ha,hb]
 refine Qv (fun e a1 W1 hp=>?_) h1
 obtain ⟨pr1,ms1,env1,σ1,r1,I1,D1,p1,m1,n1,d1,⟨rfl,hbody⟩,s1,t1,z1⟩:=hp
 have hl1:W1.heap[l]?=some (.loop (recS rec .ready none)):=(s1.hr.prot l _ (p1 _ _ (.inr (.inl ⟨rfl,rfl⟩)))).1
 refine ⟨_,run_beginRound hl1 rfl,?_⟩
 have hbusy:({ recS rec .ready none with state:=.busy }:Loop)=recS rec .busy none:=rfl
 rw [hbusy]
 obtain ⟨H2,S2⟩:=s1.hr.chg (w':=W1.putObj l (.loop (recS rec .busy none))) (O:=fun b=>b=l) (pr2:=fun b o=>(pr1 b o/\b≠l)\/(b=l/\o = .loop (recS rec .busy none))) (fun b hb=>⟨_,hb ▸ p1 _ _ (.inr (.inl ⟨rfl,rfl⟩))⟩) (Wy _ _ _) (fun b o hp=>by
  rcases hp with h|⟨rfl,rfl⟩
  ·exact .inl h
  ·exact .inr ⟨.inl rfl,Zb8 hl1⟩)
 have hRd2:RdOK (Fence.wide.inRound l) (fun b o=>(pr1 b o/\b≠l)\/(b=l/\o = .loop (recS rec .busy none))):=by
  intro l' hl'
  cases hl'
  refine ⟨_,.inr ⟨rfl,rfl⟩,.inl ⟨p1 _ _ (.inl (by simpa [recS,hrd] using hdb)),?_⟩⟩
  have:=(hlow _ _ hdb).2
  simpa [recS,hrd] using this
 have hTF:TFr (fun b o=>(pr1 b o/\b≠l)\/(b=l/\o = .loop (recS rec .busy none))) I1 (W1.putObj l (.loop (recS rec .busy none))) x ys:=by
  have hOl' : ∀ q,O q->q≠l:=fun q hq e=>by have:=(hown q hq).1; omega
  have hob:∀ q,O q->(W1.putObj l (.loop (recS rec .busy none))).heap[q]?=w.heap[q]?/\pr1 q (w.heap.getD q default):=by
   intro q hq
   have hlt:=(hown q hq).2
   have e1:w.heap[q]?=some w.heap[q]:=by simp [hlt]
   have hp1:=p1 _ _ (.inr (.inr ⟨hq,e1⟩))
   have e2:=(s1.hr.prot q _ hp1).1
   refine ⟨?_,by simpa [Array.getD,hlt] using hp1⟩
   rw [(Wy W1 l (.loop (recS rec .busy none))).block q (hOl' q hq) (Qk.1 e2).1,e2,e1]
  refine ⟨fun q o=>O q,fun q o hq=>⟨_,.inl ⟨(hob q hq).2,hOl' q hq⟩⟩,hv.mono ⟨fun _ h=>h.elim,fun q o hi=>?_,Qr t1.size (by simp [Oy])⟩⟩
  rcases hup q o hi with h|h
  ·have h1:=S.imm q o h
   have h2:=(t1.trans S2).imm q o h1.1
   exact ⟨.inl h2.1,h2.2⟩
  ·exact ⟨.inr h,Sn (hob q h).1⟩
 have h2:=hbody (Fence.wide.inRound l) B w0 I0 _ r1 I1 D1 a1 (W1.putObj l (.loop (recS rec .busy none))) (Hs l) hRd2 ⟨H2,s1.er.mono S2⟩ hTF
 refine Qv (fun e a3 W3 hp=>?_) h2
 obtain ⟨pr3,ms3,env3,σ3,r3,I3,D3,p3,m3,n3,d3,q3,s3,t3,z3⟩:=hp
 have hl3:W3.heap[l]?=some (.loop (recS rec .busy none)):=(s3.hr.prot l _ (p3 _ _ (.inr ⟨rfl,rfl⟩))).1
 have hOl:∀ q,O q->q≠l:=fun q hq e=>by have:=(hown q hq).1; omega
 have hOw:∀ q,O q->W3.heap[q]?=w.heap[q]?:=by
  intro q hq
  have hlt:=(hown q hq).2
  have e1:w.heap[q]?=some w.heap[q]:=by simp [hlt]
  have:=(s3.hr.prot q _ (p3 _ _ (.inl ⟨p1 _ _ (.inr (.inr ⟨hq,e1⟩)),hOl q hq⟩))).1
  rw [this,e1]
 have hS3:Step r' D' I' w r3 D3 I3 W3:=(t1.trans S2).trans t3
 have fin:∀ (jump:Option Code) (st:LoopState),st=(if jump.isNone then .ready else .done)->∀ Ox:Nat->Prop,(∀ q,Ox q->O q) ->
   HR B w0 I0 (prI pr l (recS rec st jump) Ox (W3.putObj l (.loop (recS rec st jump)))) r3 I3 D3 σ3.get σ3.next (W3.putObj l (.loop (recS rec st jump)))/\Step r3 D3 I3 W3 r3 D3 I3 (W3.putObj l (.loop (recS rec st jump))):=by
  intro jump st hst Ox hOx
  refine s3.hr.chg (O:=fun b=>b=l) (fun b hb=>⟨_,hb ▸ p3 _ _ (.inr ⟨rfl,rfl⟩)⟩) (Wy _ _ _) (fun b o hp=>?_)
  rcases hp with h|⟨rfl,rfl⟩|⟨h,h2⟩
  ·have hbl:=(hlow b o h).2
   exact .inl ⟨p3 _ _ (.inl ⟨p1 _ _ (.inl h),hbl⟩),hbl⟩
  ·exact .inr ⟨.inl rfl,Zb8 hl3⟩
  ·have hbl:=hOl b (hOx b h)
   have e1:=(Wy W3 l (.loop (recS rec st jump))).block b hbl (by have:=(hown b (hOx b h)).2; have:=hS3.size; omega)
   rw [e1,hOw b (hOx b h)] at h2
   exact .inl ⟨p3 _ _ (.inl ⟨p1 _ _ (.inr (.inr ⟨hOx b h,h2⟩)),hbl⟩),hbl⟩
 have done:∀ (jump:Option Code) (st:LoopState),st=(if jump.isNone then .ready else .done)->((Od l jump).run P W3 = .ok (.bool jump.isNone) (W3.putObj l (.loop (recS rec st jump)))):=by
  intro jump st hst
  have:=run_endRound (P:=P) jump hl3
  rw [this,hst]
  rfl
 have keep:∀ (jump:Option Code) (st:LoopState),(∀ q,O q->(W3.putObj l (.loop (recS rec st jump))).heap[q]?=w.heap[q]?)/\(∀ q o,I q o->(W3.putObj l (.loop (recS rec st jump))).cell? ⟨q,o,none⟩=w.cell? ⟨q,o,none⟩)/\w.heap.size<=(W3.putObj l (.loop (recS rec st jump))).heap.size:=by
  intro jump st
  have hsz:(W3.putObj l (.loop (recS rec st jump))).heap.size=W3.heap.size:=by simp [Oy]
  refine ⟨fun q hq=>?_,fun q o hi=>?_,?_⟩
  ·rw [(Wy W3 l (.loop (recS rec st jump))).block q (hOl q hq) (by have:=(hown q hq).2; have:=hS3.size; omega),hOw q hq]
  ·have h1:=(S.imm q o hi).1
   have hx2:=hS3.imm q o h1
   have hne:q≠l:=fun e=>by
    subst e
    exact (s3.hr.protK q _ (p3 _ _ (.inr ⟨rfl,rfl⟩))).2 o hx2.1
   rw [Sn ((Wy W3 l (.loop (recS rec st jump))).block q hne (s3.hr.imm q o hx2.1))]
   exact hx2.2
  ·rw [hsz]; exact hS3.size
 have hown' : ∀ (jump:Option Code) (st:LoopState),∀ q,O q->w1.heap.size<=q/\q<(W3.putObj l (.loop (recS rec st jump))).heap.size:=by
  intro jump st q hq
  have:=hown q hq
  have:=(keep jump st).2.2
  omega
 have stop:∀ (c:Code) (e:Exit),((c = .ret/\e = .ret)\/(∃ id,c = .exit id/\e = .exit id))->Q e env σ3 ->
   ∃ v w',(Od l (some c)).run P W3 = .ok v w'/\∃ b,Ending.returned v = .returned (.bool b)/\(∀ q,O q->w'.heap[q]?=w.heap[q]?)/\(∀ q o,I q o->w'.cell? ⟨q,o,none⟩=w.cell? ⟨q,o,none⟩)/\w.heap.size<=w'.heap.size /\
    (b=true->BetwT P N n0 B w0 I0 pr l rec r I D w1 ps assign body env Q rest O w')/\(b=false->Left B w0 I0 pr l rec r I D w1 env Q O w'):=by
  intro c e hce hq
  obtain ⟨H4,S4⟩:=fin (some c) .done rfl O (fun _ h=>h)
  exact ⟨_,_,done (some c) .done rfl,false,rfl,(keep _ _).1,(keep _ _).2.1,(keep _ _).2.2,(fun h=>by cases h),fun _=>⟨hown' _ _,hlow,hrec,c,e,σ3,r3,I3,D3,hce,H4,S.trans (hS3.trans S4),hq⟩⟩
 cases e with
 | normal =>
  obtain ⟨H4,S4⟩:=fin none .ready rfl O (fun _ h=>h)
  refine ⟨_,_,done none .ready rfl,true,rfl,(keep _ _).1,(keep _ _).2.1,(keep _ _).2.2,fun _=>?_,(fun h=>by cases h)⟩
  obtain ⟨σ5,h5,q5⟩:=q3
  rcases h5 with rfl|h5
  ·exact ⟨⟨σ5,r3,I3,D3,H4,S.trans (hS3.trans S4),q5⟩,hown' _ _,hlow,hrec,hdlt⟩
  ·obtain ⟨r5,D5,H5,k5,_⟩:=H4.rename (N:=0) h5
   exact ⟨⟨σ5,r5,I3,D5,H5,(S.trans (hS3.trans S4)).rename hdlt k5,q5⟩,hown' _ _,hlow,hrec,hdlt⟩
 | ret=>exact stop .ret .ret (.inl ⟨rfl,rfl⟩) q3
 | exit id=>exact stop (.exit id) (.exit id) (.inr ⟨id,rfl,rfl⟩) q3
 | goto t=>exact q3.elim
 | panic ch=>exact q3.elim
 | outgrown=>exact q3.elim
theorem Ztv {f:Operand} {ps:Array Tmp} {assign body:Code} {env:Env} {σ:St} {Q:Exit->Env->St->Prop} {g:FuncId} {c0 c1 d0 d1:List AV} {xs:List (List AV)}
  {F:Fence} (hF:FOK F) (hR:RdOK F pr) {a:Act} (hev:evA env f = .func g c0 c1) (hit:Zoq P g d0 d1 xs) (hps:Vb N ps.toList=true) (H:HR B w0 I0 pr r I D σ.get σ.next w) (E:ER r I w D N env a.tmps) (hr:Zjr P N σ.next ps.toList assign body env Q xs σ)
  (hd:∀ v0 v1,a.eval f = .func (.func g) v0 v1->VRs r0 I w (fun _=>False) d0 v0/\VRs r0 I w (fun _=>False) d1 v1):(Code.rangeFunc f ps assign body).wpIn F 0 P (Post B w0 I0 pr N r I D w a.defers Q) a w:=by
 obtain ⟨⟨fn,q1,q2,q3⟩,hcall⟩:=hit
 refine wpIn_rangeFunc ?_
 intro fid hfid
 obtain ⟨l,mark,w1,Db,pr',hrun,H1,S1,hpr,hdb,hlow,hlt,hmk,hpw⟩:=Zky (P:=P) hF hR H fid a.tmps ps assign body
 obtain ⟨rec,hrec⟩:∃ rec:Loop,rec = { state:=.ready,pending:=none,fn:=fid,tmps:=a.tmps,params:=ps,assign,body,defers:=Db }:=⟨_,rfl⟩
 rw [<-hrec] at H1
 have hfv:=Xd E f
 rw [hev] at hfv
 obtain ⟨v0,v1,hv,k0,k1⟩:∃ v0 v1,a.eval f = .func (.func g) v0 v1/\VRs r I w D c0 v0/\VRs r I w D c1 v1:=by
  generalize a.eval f=z at hfv
  cases hfv with
  | func _ _ _ _ v0 v1 h0 h1 g0 g1=>exact ⟨v0,v1,rfl,⟨h0,g0⟩,⟨h1,g1⟩⟩
 obtain ⟨m0,m1⟩:=hd v0 v1 hv
 have hst0:Step r0 (fun _=>False) I w r0 (fun _=>False) I w1:=⟨fun _ h=>h.elim,S1.imm,S1.size⟩
 have q2' : ¬ fn.name = "runtime.NumGoroutine" := by simpa using q2
 have q3' : ¬ fn.body=none:=by intro h; rw [h] at q3; simp at q3
 refine ⟨l,mark,w1,_,w1,g,_,w1,hrun,by simp only [resolve,rangeCall,hv]; simp [Wm,Act.eval]; rfl,fun f' _=>hF.fn f',by simp [invoke,callFunc,q1,q2',q3']; rfl,fun hdp=>by rw [hF.depth] at hdp; simp at hdp,?_⟩
 refine Uh hF ?_
 have hE1:=E.mono S1
 have R:RoundsOKT P w1 I l xs (fun i O W=>BetwT P N σ.next B w0 I0 pr' l rec r I D w1 ps.toList assign body env Q (xs.drop i) O W) (Left B w0 I0 pr' l rec r I D w1 env Q):=by
  refine ⟨fun O u u' hb hc=>Left.grow hb hc,fun i O u u' hb hc=>hb.grow hc,fun i O u hb b hO=>(hb.own b hO).2,fun i x O u ys I2 hx hb hlo hup hvx=>?_⟩
  have hdrop:xs.drop i=x::xs.drop (i+1):=by
   have hil:=(Qg.1 hx).1
   rw [Qi hil]
   congr 1
   rw [Qh hil] at hx
   exact Si hx
  rw [hdrop] at hb
  exact hb.round (Db:=Db) (tmps:=a.tmps) hps (by rw [hrec]) (by rw [hrec]) (by rw [hrec]) (by rw [hrec]) (by rw [hrec]) hdb hE1 (fun _ _ h=>h) hlo hup hvx
 have J0:BetwT P N σ.next B w0 I0 pr' l rec r I D w1 ps.toList assign body env Q (xs.drop 0) (fun _=>False) w1 :=
  ⟨⟨σ,r,I,D,by rw [hrec] at H1 ⊢; exact H1,Tm _ _ _ _,by simpa using hr⟩,fun b hb=>hb.elim,hlow,hlt,fun id hd=>(H.dom id hd).1⟩
 have hc:=hcall I w1 v0 v1 l _ _ (fun b o hi=>H1.imm b o hi) (m0.mono hst0) (m1.mono hst0) R J0
 refine hc.mono ?_
 rintro e W ⟨v,rfl,hend⟩
 have close:∀ (st:LoopState) (c:Option Code) (O:Nat->Prop) (σ' : St) (r' : Locs) (I' : Imm) (D' : Nat->Prop),HR B w0 I0 (prI pr' l (recS rec st c) O W) r' I' D' σ'.get σ'.next W->Step r D I w1 r' D' I' W->∀ (e:Exit),Q e env σ' ->
   Post B w0 I0 pr N r I D w a.defers Q e { a with defers:=mark++a.defers } (W.putObj l (.loop { recS rec st c with state:=.exhausted })):=by
  intro st c O σ' r' I' D' H2 S2 e hq
  obtain ⟨H3,S3⟩:=H2.chg (pr2:=pr') (O:=fun b=>b=l) (fun b hb=>⟨.loop (recS rec st c),.inr (.inl ⟨hb,rfl⟩)⟩) (Wy W l (.loop { recS rec st c with state:=.exhausted })) (fun b o hp=>.inl ⟨.inl hp,(hlow b o hp).2⟩)
  exact ⟨pr',mark,env,σ',r',I',D',hpr,hmk,hpw,rfl,hq,⟨H3,(hE1.mono S2).mono S3⟩,(S1.trans S2).trans S3,Qr S1.size (Qr S2.size S3.size)⟩
 rcases hend with ⟨O,hb⟩|⟨O,hb⟩
 ·obtain ⟨⟨σ',r',I',D',H2,S2,hr2⟩,_,_,_,_⟩:=hb
  have hl:=(H2.prot l _ (.inr (.inl ⟨rfl,rfl⟩))).1
  refine ⟨none,_,run_endLoop hl (by simp [recS]),?_⟩
  have:xs.drop xs.length=[]:=by simp
  rw [this] at hr2
  exact close .ready none O σ' r' I' D' H2 S2 .normal hr2
 ·obtain ⟨_,_,_,c,e,σ',r',I',D',hce,H2,S2,hq⟩:=hb
  have hl:=(H2.prot l _ (.inr (.inl ⟨rfl,rfl⟩))).1
  refine ⟨some c,_,run_endLoop hl (by simp [recS]),?_⟩
  have hp:=close .done (some c) _ σ' r' I' D' H2 S2 e hq
  rcases hce with ⟨rfl,rfl⟩|⟨id,rfl,rfl⟩
  ·exact wpIn_ret hp
  ·exact wpIn_exit hp
end Go.Sx
