/- A part of the proof: lemmas. -/
import Derived.Test.YtanbhfpalahjcaaGreatG6
import Derived.Below
import Derived.ChangeOld
import Derived.JoinedOf
import Derived.Laws.FloatArith
import Derived.OpenShut
import Derived.ProofKit
import Derived.ShutString
import Derived.WalkKit
set_option linter.unusedVariables false
set_option linter.unusedSimpArgs false
set_option maxRecDepth 100000
set_option maxHeartbeats 16000000
open Array renaming getD_eq_getD_getElem?->Qy,getElem?_eq_some_iff->Qt,replicate->Pe
open Bool renaming and_eq_true->Qc,false_eq_true->Rs
open Go.Cell renaming ok->Qbf,okWide->Hq
open Go.Code renaming wpIn_mono->Ru
open Go.DataW renaming TrodAll->Lq,trod->Nn
open Go.Deferred renaming ofValue->Pz
open Go.Exit renaming inBlock->Mg
open Go.Fence renaming wide->Ti
open Go.Lit renaming int->Qbe
open Go.Oper renaming semAt_eq->Mm
open Go.Region renaming wanted->Pq
open Go.RowKit.Below renaming refl->Kv
open Go.Sx.ABlk renaming live->Wi
open Go.Sx.AV renaming yld->Jj
open Go.Sx.Br renaming cases->Mv
open Go.Sx.Env renaming get_cons->Pg
open Go.Sx.Ren renaming of->Pn
open Go.Sx.St renaming get->Oh
open Go.Sx.Step renaming drew->Lz,refl->Pf
open Go.Value renaming okWide->Js
open Go.World renaming cell?->Po
open List renaming all_eq_true->Rf,drop_append->Qan,drop_of_length_le->Qo,drop_zero->Tz,flatMap_cons->Nx,getElem?_drop->Rz,getElem?_eq_some_iff->Qi,getElem?_map->Rr,getElem?_take->Pb,length_append->Rb,length_range->Tf,mem_cons->Ra,mem_range->Rx,nil_append->Lt,range->Rv,range'->Kb,replicate->Tg,take_left'->Gy
open Nat renaming add_mul->Tp,add_zero->Nt,beq->Qs,beq_refl->Gq,ble->Su,ble_eq_true_of_le->Km,blt_eq->Th,eq_of_beq_eq_true->Qh,le_of_ble_eq_true->Qm,le_refl->Qd,le_trans->Re,lt_of_lt_of_le->Tc,lt_or_ge->Wh,mul_comm->Pu,not_lt->Nj,sub_zero->Oo,zero_add->Sk,zero_le->Qp,zero_mul->Gn
open Option renaming bind_eq_some_iff->Gk,map_eq_some_iff->Wa
open Option.some renaming injEq->Qf
open Prod.mk renaming injEq->Rk
namespace Go.Sx
open Go Go.RowKit
def WT (T:Tab):Nat->TypeId->List AV->Prop
 | 0,_,_=>False
 | d+1,t,aZ=>match T t with
  | none=>False
  | some ti=>match ti.desc with
   | .bool=>∃ b,aZ=[.bool b]
   | .int k=>∃ n,aZ=[.int k n]/\(Qbe k n).wf=true
   | .float k=>∃ b,aZ=[.flt k b]/\(Lit.float k b).wf=true
   | .string=>∃ s,aZ=[.str s]/\s.size<=maxLen
   | .slice e=>match T e with
    | some te=>∃ els,aZ=[.isl te.size els]/\els.length<=maxLen/\∀ x∈els,WT T d e x
    | none=>False
   | .struct fs=>aZ.length=ti.size/\∀ f∈fs.toList,match T f.type with
    | some tf=>WT T d f.type ((aZ.drop f.offset).take tf.size)
    | none=>False
   | .array n e=>match T e with
    | some te=>aZ.length=ti.size/\∀ i,i<n->WT T d e ((aZ.drop (i*te.size)).take te.size)
    | none=>False
   | _=>False
def contig (T:Tab):Nat->List Field->Option Nat
 | o,[]=>some o
 | o,f::fs=>match T f.type with
  | some tf=>cond (Qs f.offset o) (contig T (o+tf.size) fs) none
  | none=>none
def Zi0 (T:Tab) (S:List TypeId) (t:TypeId):Bool:=match T t with
 | none=>false
 | some ti=>match ti.desc with
  | .bool | .int _ | .float _ | .string=>Qs ti.size 1
  | .slice e=>memN S e&&(match T e with
   | some te=>Qs ti.size 1&&Nat.blt 0 te.size
   | none=>false)
  | .struct fs=>fs.toList.all (fun f=>memN S f.type)&&(match contig T 0 fs.toList with
   | some n=>Qs n ti.size
   | none=>false)
  | .array n e=>memN S e&&(match T e with
   | some te=>Qs (n*te.size) ti.size
   | none=>false)
  | _=>false
theorem Zah {P:Program} {T:Tab} (hT:TabOK P T) {t:TypeId} {ti:TI} (h:T t=some ti):P.cellsOf t=ti.size:=by
 obtain ⟨i,h1,h2,_⟩:=hT.info t ti h
 simp [Program.cellsOf,h1,h2]
def Zh6 (T:Tab) (t:TypeId):Nat:=match T t with
 | some ti=>ti.size
 | none=>0
theorem Zst {T:Tab} {seg:Field->List AV}:∀ (fs:List Field) (o n:Nat),contig T o fs=some n->(∀ f∈fs,(seg f).length=Zh6 T f.type) ->
  (fs.flatMap seg).length=n-o/\o<=n/\∀ f∈fs,o<=f.offset/\((fs.flatMap seg).drop (f.offset-o)).take (Zh6 T f.type)=seg f
 | [],o,n,h,_=>by simp only [contig,Qf] at h; subst h; simp
 | f::fs,o,n,h,hs=>by
  simp only [contig] at h
  split at h
  ·rename_i tf htf
   cases hb:Qs f.offset o with
   | false=>rw [hb] at h; cases h
   | true =>
    rw [hb] at h
    have ho:=Qh hb
    simp only [cond_true] at h
    obtain ⟨h1,h2,h3⟩:=Zst fs (o+tf.size) n h (fun g hg=>hs g (by simp [hg]))
    have hf:(seg f).length=tf.size:=by rw [hs f (by simp)]; simp [Zh6,htf]
    refine ⟨by simp only [Nx,Rb,h1,hf]; omega,by omega,fun g hg=>?_⟩
    simp only [Nx]
    rcases Ra.1 hg with rfl|hg
    ·refine ⟨by omega,?_⟩
     rw [ho,Nat.sub_self,Tz]
     have:Zh6 T g.type=(seg g).length:=by rw [hs g (by simp)]
     rw [this,Gy]
     rfl
    ·obtain ⟨a,b⟩:=h3 g hg
     refine ⟨by omega,?_⟩
     rw [Qan,Qo (by omega),Lt,show g.offset-o-(seg f).length=g.offset-(o+tf.size) by omega]
     exact b
  ·cases h
theorem Zlp {sz:Nat} {seg:Nat->List AV}:∀ (n k:Nat),(∀ i,(seg i).length=sz)->(((Kb k n).flatMap seg).length=n*sz/\∀ i,i<n->(((Kb k n).flatMap seg).drop (i*sz)).take sz=seg (k+i))
 | 0,k,_=>by simp
 | n+1,k,hs=>by
  obtain ⟨h1,h2⟩:=Zlp n (k+1) hs
  have e:(Kb k (n+1)).flatMap seg=seg k++(Kb (k+1) n).flatMap seg:=by simp [List.range'_succ]
  rw [e]
  refine ⟨by rw [Rb,h1,hs k]; rw [Tp,Nat.one_mul]; omega,fun i hi=>?_⟩
  cases i with
  | zero=>simp only [Gn,Tz,Nt]; rw [Gy (hs k)]
  | succ i =>
   rw [Qan,Qo (by rw [hs k,Tp]; omega),Lt,hs k,show (i+1)*sz-sz=i*sz by rw [Tp]; omega,h2 i (by omega)]
   congr 1; omega
section
variable {H:Type} {enc:TypeId × Value->H} {P:Program} {w:World} {spare:Nat->Bool} {held:Bool}
def Im0 (w:World):Imm:=fun b _=>b<w.heap.size
def Yh3 (T:Tab) (w:World) (d:Nat) (t:TypeId) (cs:List Value):Prop :=
 ∃ aZ:List AV,aZ.length=cs.length/\(∀ (i:Nat) (c:AV) (v:Value),aZ[i]?=some c->cs[i]?=some v->VR r0 (Im0 w) w (fun _=>False) c v)/\WT T d t aZ
theorem Za8 {T:Tab} {d:Nat} {t:TypeId} {v:Value} {c:AV} (hv:VR r0 (Im0 w) w (fun _=>False) c v) (hw:WT T d t [c]):Yh3 T w d t [v] :=
 ⟨[c],rfl,fun i c' v' hc hv'=>by cases i with
  | zero=>simp at hc hv'; subst hc; subst hv'; exact hv
  | succ i=>simp at hc,hw⟩
theorem Zji {T:Tab} {S:List TypeId} (hS:S.all (Zi0 T S)=true) {d:Nat} {t:TypeId} {ti:TI} (ht:T t=some ti) (hm:memN S t=true) {aZ:List AV} (h:WT T d t aZ):aZ.length=ti.size:=by
 have hs:=Rf.1 hS t (Zcb hm)
 unfold Zi0 at hs
 rw [ht] at hs
 cases d with
 | zero=>exact h.elim
 | succ d =>
  simp only [WT,ht] at h
  dsimp only at hs
  split at h
  ·rename_i hd; rw [hd] at hs; obtain ⟨b,rfl⟩:=h; simp at hs; simp [hs]
  ·rename_i hd; rw [hd] at hs; obtain ⟨b,rfl,_⟩:=h; simp at hs; simp [hs]
  ·rename_i hd; rw [hd] at hs; obtain ⟨b,rfl,_⟩:=h; simp at hs; simp [hs]
  ·rename_i hd; rw [hd] at hs; obtain ⟨b,rfl,_⟩:=h; simp at hs; simp [hs]
  ·rename_i e hd
   rw [hd] at hs
   dsimp only at hs
   cases hte:T e with
   | none=>rw [hte] at h; exact h.elim
   | some te=>rw [hte] at h hs; obtain ⟨els,rfl,_⟩:=h; simp at hs; simp [hs]
  ·exact h.1
  ·rename_i n e hd
   cases hte:T e with
   | none=>rw [hte] at h; exact h.elim
   | some te=>rw [hte] at h; exact h.1
  ·exact h.elim
theorem Zjj {α:Type} (l:List α) (P:α->List AV->Prop) (h:∀ x∈l,∃ aZ,P x aZ):∃ g:α->List AV,∀ x∈l,P x (g x):=by
 classical
 exact ⟨fun x=>if hx:x∈l then Classical.choose (h x hx) else [],fun x hx=>by dsimp only; rw [dif_pos hx]; exact Classical.choose_spec (h x hx)⟩
theorem Zkl {d:Nat} {t e:TypeId} {cs:List Value} {x:DataW H × List MemPlace} (hu:P.underlying t=some (.slice e)) (h:Nn enc P w 0 spare held (d+1) t cs=some x) :
  cs=[.slice none 0 0]\/∃ (a:Addr) (len cap:Nat),cs=[.slice (some a) len cap]/\len<=cap/\cap<=maxLen/\∀ i,i<len->∃ cells y,w.cells? 0 (a.add (i*P.cellsOf e)) (P.cellsOf e)=some cells/\Nn enc P w 0 spare held d e cells=some y:=by
 unfold Nn at h
 rw [hu] at h
 split at h<;>try (exfalso; simp_all; done)
 ·exact .inl rfl
 ·rename_i e2 a len cap he
  simp only [Qf,TypeDesc.slice.injEq] at he
  subst he
  dsimp only at h
  split at h
  ·rename_i hc
   rw [Gk] at h
   obtain ⟨elems,hel,_⟩:=h
   refine .inr ⟨a,len,cap,rfl,hc.2.1,hc.2.2,fun i hi=>?_⟩
   have hg:=mapM_some_get hel i i (by simp [hi])
   have hl:=mapM_some_length hel
   simp only [Tf] at hl
   have:elems[i]?=some (elems[i]'(by omega)):=by simp [hl,hi]
   rw [this,Gk] at hg
   obtain ⟨cells,hcl,htr⟩:=hg
   exact ⟨cells,_,hcl,htr⟩
  ·cases h
theorem Zpc {a:Addr} {n:Nat} {cells:List Value} (h:w.cells? 0 a n=some cells):cells.length=n/\∀ (j:Nat) (v:Value),cells[j]?=some v->w.cell? (a.add j)=some v:=by
 unfold World.cells? at h
 rw [if_pos (Qp _)] at h
 have hl:=mapM_some_length h
 simp only [Tf] at hl
 refine ⟨hl,fun j v hv=>?_⟩
 have hj:j<n:=by rw [<-hl]; exact (Qi.1 hv).1
 have:=mapM_some_get h j j (by simp [hj])
 rw [this,hv]
theorem Ye5 {a:Addr} {v:Value} (h:w.cell? a=some v):a.block<w.heap.size:=by
 unfold Po at h
 split at h
 ·rename_i hb; exact (Qt.1 hb).1
 ·cases h
theorem Ziv {d:Nat} {t:TypeId} {fs:Array Field} {cs:List Value} {x:DataW H × List MemPlace} (hu:P.underlying t=some (.struct fs)) (h:Nn enc P w 0 spare held (d+1) t cs=some x) :
  cs.length=P.cellsOf t/\∀ f∈fs.toList,∃ y,Nn enc P w 0 spare held d f.type ((cs.drop f.offset).take (P.cellsOf f.type))=some y:=by
 unfold Nn at h
 rw [hu] at h
 split at h<;>try (exfalso; simp_all; done)
 rename_i fs2 he
 simp only [Qf,TypeDesc.struct.injEq] at he
 subst he
 split at h
 ·rename_i hc
  rw [Wa] at h
  obtain ⟨xs,hx,_⟩:=h
  refine ⟨hc,fun f hf=>?_⟩
  obtain ⟨i,hi⟩:=List.getElem?_of_mem hf
  have:=mapM_some_get hx i f hi
  have hl:=mapM_some_length hx
  have hil:=(Qi.1 hi).1
  exact ⟨xs[i]'(by omega),by rw [this]; simp⟩
 ·cases h
theorem Zd9 {T:Tab} (hT:TabOK P T) {S:List TypeId} (hS:S.all (Zi0 T S)=true):∀ (d:Nat) (t:TypeId) (cs:List Value) (x:DataW H × List MemPlace), memN S t=true->Nn enc P w 0 spare held d t cs=some x->Yh3 T w d t cs
  | 0, t, cs, x, _, h => by simp [Nn] at h
  | d+1, t, cs, x, hm, h => by
    have hs := Rf.1 hS t (Zcb hm)
    unfold Zi0 at hs
    cases ht:T t with
    | none => rw [ht] at hs; cases hs
    | some ti =>
      rw [ht] at hs
      dsimp only at hs
      have hu := hT.und t ti ht
      have hwt:∀ aZ, WT T (d+1) t aZ=match ti.desc with
        | .bool => ∃ b, aZ=[.bool b]
        | .int k => ∃ n, aZ=[.int k n]/\(Qbe k n).wf=true
        | .float k => ∃ b, aZ=[.flt k b]/\(Lit.float k b).wf=true
        | .string => ∃ s, aZ=[.str s]/\s.size<=maxLen
        | .slice e => match T e with
          | some te => ∃ els, aZ=[.isl te.size els]/\els.length<=maxLen/\∀ x∈els, WT T d e x
          | none => False
        | .struct fs => aZ.length=ti.size/\∀ f∈fs.toList, match T f.type with
          | some tf => WT T d f.type ((aZ.drop f.offset).take tf.size)
          | none => False
        | .array n e => match T e with
          | some te => aZ.length=ti.size/\∀ i, i<n->WT T d e ((aZ.drop (i*te.size)).take te.size)
          | none => False
        | _ => False := fun aZ => by simp only [WT, ht]
      cases hd:ti.desc with
      | bool =>
        unfold Nn at h
        rw [hu] at h
        rw [hd] at h hwt
        split at h<;>first
          | exact Za8 (.bool _ _) (by rw [hwt]; exact ⟨_, rfl⟩)
          | (exfalso; simp_all; done)
      | int k =>
        unfold Nn at h
        rw [hu] at h
        rw [hd] at h hwt
        split at h<;>first
          | (rename_i k1 k2 n he
             simp only [Qf, TypeDesc.int.injEq] at he
             subst he
             split at h
             · rename_i hk
               obtain ⟨rfl, hk⟩ := hk
               exact Za8 (.int _ _ _) (by rw [hwt]; exact ⟨_, rfl, hk⟩)
             · cases h)
          | (exfalso; simp_all; done)
      | float k =>
        unfold Nn at h
        rw [hu] at h
        rw [hd] at h hwt
        split at h<;>first
          | (rename_i k1 k2 n he
             simp only [Qf, TypeDesc.float.injEq] at he
             subst he
             split at h
             · rename_i hk
               obtain ⟨rfl, hk⟩ := hk
               exact Za8 (.flt _ _ _) (by rw [hwt]; exact ⟨_, rfl, hk⟩)
             · cases h)
          | (exfalso; simp_all; done)
      | string =>
        unfold Nn at h
        rw [hu] at h
        rw [hd] at h hwt
        split at h<;>first
          | (split at h
             · rename_i hk
               exact Za8 (.str _ _) (by rw [hwt]; exact ⟨_, rfl, hk⟩)
             · cases h)
          | (exfalso; simp_all; done)
      | slice e =>
        rw [hd] at hu hwt hs
        dsimp only at hs
        simp only [Qc] at hs
        obtain ⟨hme, hs⟩ := hs
        cases hte:T e with
        | none => rw [hte] at hs; cases hs
        | some te =>
          have hsz := Zah hT hte
          rcases Zkl hu h with rfl|⟨a, len, cap, rfl, h1, h2, h3⟩
          · exact Za8 (c := .isl te.size []) (.isl0 _ _ _ _) (by rw [hwt]; simp only [hte]; exact ⟨_, rfl, by simp, fun x hx => by simp at hx⟩)
          · rw [hsz] at h3
            rw [hte] at hs
            simp only [Qc, Th] at hs
            obtain ⟨hs1, hs2⟩ := hs
            cases len with
            | zero => exact Za8 (c := .isl te.size []) (.isl0 _ _ _ _) (by rw [hwt]; simp only [hte]; exact ⟨_, rfl, by simp, fun x hx => by simp at hx⟩)
            | succ len =>
              obtain ⟨b, o, sp⟩ := a
              have hsp:sp=none := by
                obtain ⟨cells, y, hcl, htr⟩ := h3 0 (by omega)
                obtain ⟨hl, hcg⟩ := Zpc hcl
                have hv:cells[0]?=some (cells[0]'(by omega)) := by simp
                have := hcg 0 _ hv
                simpa [Addr.add] using World.cell?_spot this
              subst hsp
              obtain ⟨g, hg⟩ := Zjj (Rv (len+1)) (fun i aZ => aZ.length=te.size/\WT T d e aZ/\∀ (j:Nat) (c:AV), aZ[j]?=some c->∃ v, w.cell? ⟨b, o+i*te.size+j, none⟩=some v/\VR r0 (Im0 w) w (fun _ => False) c v) (fun i hi => by
                obtain ⟨cells, y, hcl, htr⟩ := h3 i (Rx.1 hi)
                obtain ⟨hl, hcg⟩ := Zpc hcl
                obtain ⟨aZ, q1, q2, q3⟩ := Zd9 hT hS d e cells _ hme htr
                have q4 := Zji hS hte hme q3
                refine ⟨aZ, q4, q3, fun j c hc => ?_⟩
                have hj:j<aZ.length := (Qi.1 hc).1
                have hv:cells[j]?=some (cells[j]'(by omega)) := by simp
                refine ⟨_, ?_, q2 j c _ hc hv⟩
                have := hcg j _ hv
                rw [Xu, Xu] at this
                exact this)
              have hlen:((Rv (len+1)).map g).length=len+1 := by simp
              have hget:∀ (i:Nat) (x:List AV), ((Rv (len+1)).map g)[i]?=some x->i<len+1/\x=g i := by
                intro i x hx
                have hi:i<len+1 := by rw [<-hlen]; exact (Qi.1 hx).1
                refine ⟨hi, ?_⟩
                simp [hi] at hx
                exact hx.symm
              have hcell:∀ i, i<len+1->∀ (j:Nat) (c:AV), (g i)[j]?=some c->∃ v, w.cell? ⟨b, o+i*te.size+j, none⟩=some v/\VR r0 (Im0 w) w (fun _ => False) c v := fun i hi => (hg i (Rx.2 hi)).2.2
              have hval := VR.isl (r := r0) (I := Im0 w) (w := w) (fun _ => False) te.size ((Rv (len+1)).map g) b o cap (fun i j => (w.cell? ⟨b, o+i*te.size+j, none⟩).getD undef) (by rw [hlen]; exact h1)
                (fun i x hx => by obtain ⟨hi, rfl⟩ := hget i x hx; exact (hg i (Rx.2 hi)).1)
                (fun i x j c hx hc => by
                  obtain ⟨hi, rfl⟩ := hget i x hx
                  obtain ⟨v, hv, _⟩ := hcell i hi j c hc
                  exact ⟨Ye5 hv, by rw [hv]; rfl⟩)
                (fun i x j c hx hc => by
                  obtain ⟨hi, rfl⟩ := hget i x hx
                  obtain ⟨v, hv, hr⟩ := hcell i hi j c hc
                  rw [hv]; exact hr)
              rw [hlen] at hval
              refine Za8 hval ?_
              rw [hwt]
              simp only [hte]
              refine ⟨_, rfl, by rw [hlen]; omega, fun x hx => ?_⟩
              obtain ⟨i, hi, rfl⟩ := List.mem_map.1 hx
              exact (hg i hi).2.1
      | «struct» fs =>
        rw [hd] at hu hwt hs
        dsimp only at hs
        simp only [Qc] at hs
        obtain ⟨hmf, hs⟩ := hs
        obtain ⟨hcl, hf⟩ := Ziv hu h
        rw [Zah hT ht] at hcl
        cases hcg:contig T 0 fs.toList with
        | none => rw [hcg] at hs; cases hs
        | some n =>
          rw [hcg] at hs
          have hn := Qh hs
          have hsz:∀ f∈fs.toList, ∃ tf, T f.type=some tf := fun f hf => by
            have := Rf.1 hS _ (Zcb (Rf.1 hmf f hf))
            unfold Zi0 at this
            cases hx:T f.type with
            | none => rw [hx] at this; cases this
            | some tf => exact ⟨tf, rfl⟩
          obtain ⟨seg, hseg⟩ := Zjj fs.toList (fun f aZ => aZ.length=Zh6 T f.type/\WT T d f.type aZ/\∀ (j:Nat) (c:AV) (v:Value), aZ[j]?=some c->((cs.drop f.offset).take (Zh6 T f.type))[j]?=some v->VR r0 (Im0 w) w (fun _ => False) c v) (fun f hfm => by
            obtain ⟨y, hy⟩ := hf f hfm
            obtain ⟨tf, htf⟩ := hsz f hfm
            have hme := Rf.1 hmf f hfm
            rw [Zah hT htf] at hy
            obtain ⟨aZ, q1, q2, q3⟩ := Zd9 hT hS d f.type _ _ hme hy
            refine ⟨aZ, ?_, q3, ?_⟩
            · rw [Zji hS htf hme q3]; simp [Zh6, htf]
            · simpa [Zh6, htf] using q2)
          obtain ⟨h1, h2, h3⟩ := Zst (T := T) (seg := seg) fs.toList 0 n hcg (fun f hfm => (hseg f hfm).1)
          simp only [Oo] at h1 h3
          refine ⟨fs.toList.flatMap seg, by rw [h1, hcl, hn], ?_, ?_⟩
          ·
            have key:∀ (l:List Field) (o:Nat), contig T o l=some n->(∀ f∈l, f∈fs.toList)->∀ (i:Nat) (c:AV) (v:Value), (l.flatMap seg)[i]?=some c->cs[o+i]?=some v->VR r0 (Im0 w) w (fun _ => False) c v := by
              intro l
              induction l with
              | nil => intro o _ _ i c v hc; simp at hc
              | cons f l ih =>
                intro o ho hin i c v hc hv
                simp only [contig] at ho
                have hfm := hin f (by simp)
                obtain ⟨tf, htf⟩ := hsz f hfm
                rw [htf] at ho
                dsimp only at ho
                cases hb:Qs f.offset o with
                | false => rw [hb] at ho; cases ho
                | true =>
                  rw [hb] at ho
                  have hoe := Qh hb
                  simp only [cond_true] at ho
                  have hsl:(seg f).length=tf.size := by rw [(hseg f hfm).1]; simp [Zh6, htf]
                  simp only [Nx] at hc
                  by_cases hi:i<tf.size
                  · rw [List.getElem?_append_left (by omega)] at hc
                    refine (hseg f hfm).2.2 i c v hc ?_
                    rw [Pb, if_pos (by simpa [Zh6, htf] using hi), Rz, hoe]
                    exact hv
                  · rw [List.getElem?_append_right (by omega), hsl] at hc
                    refine ih (o+tf.size) ho (fun g hg => hin g (by simp [hg])) (i-tf.size) c v hc ?_
                    rw [show o+tf.size+(i-tf.size)=o+i by omega]; exact hv
            intro i c v hc hv
            exact key fs.toList 0 hcg (fun f hf => hf) i c v hc (by simpa using hv)
          · rw [hwt]
            refine ⟨by rw [h1, hn], fun f hfm => ?_⟩
            obtain ⟨tf, htf⟩ := hsz f hfm
            rw [htf]
            have := (h3 f hfm).2
            rw [show Zh6 T f.type=tf.size by simp [Zh6, htf]] at this
            dsimp only
            rw [this]
            exact (hseg f hfm).2.1
      | array n e =>
        rw [hd] at hu hwt hs
        dsimp only at hs
        simp only [Qc] at hs
        obtain ⟨hme, hs⟩ := hs
        cases hte:T e with
        | none => rw [hte] at hs; cases hs
        | some te =>
          rw [hte] at hs
          have hn := Qh hs
          have hsz := Zah hT hte
          obtain ⟨xs, m, hm1, _, hcl, hxl, hf⟩ := DataW.trod_array hu h
          cases hm1
          rw [Zah hT ht] at hcl
          rw [hsz] at hf
          obtain ⟨seg, hseg⟩ := Zjj (Rv n) (fun i aZ => aZ.length=te.size/\WT T d e aZ/\∀ (j:Nat) (c:AV) (v:Value), aZ[j]?=some c->((cs.drop (i*te.size)).take te.size)[j]?=some v->VR r0 (Im0 w) w (fun _ => False) c v) (fun i hi => by
            have hi := Rx.1 hi
            have hy := hf i hi
            rw [List.getElem?_eq_getElem (by omega)] at hy
            obtain ⟨aZ, q1, q2, q3⟩ := Zd9 hT hS d e _ _ hme hy
            exact ⟨aZ, Zji hS hte hme q3, q3, q2⟩)
          let sg:Nat->List AV := fun i => if i<n then seg i else Tg te.size .any
          have hsg:∀ i, (sg i).length=te.size := fun i => by
            by_cases hi:i<n
            · simp only [sg, hi, if_true]; exact (hseg i (Rx.2 hi)).1
            · simp only [sg, hi, if_false, List.length_replicate]
          obtain ⟨h1, h2⟩ := Zlp (sz := te.size) (seg := sg) n 0 hsg
          refine ⟨(Kb 0 n).flatMap sg, by rw [h1, hcl, hn], ?_, ?_⟩
          · intro i c v hc hv
            have hil:i<n*te.size := by rw [<-h1]; exact (Qi.1 hc).1
            have hp:0<te.size := by
              rcases Nat.eq_zero_or_pos te.size with h0|h0
              · rw [h0] at hil; omega
              · exact h0
            have hq:i / te.size<n := Nat.div_lt_of_lt_mul (by rw [Pu]; exact hil)
            have hr:i%te.size<te.size := Nat.mod_lt _ hp
            have he:i / te.size*te.size+i%te.size=i := by rw [Pu]; exact Nat.div_add_mod i te.size
            have hs2 := h2 (i / te.size) hq
            rw [Sk] at hs2
            have hs3:sg (i / te.size)=seg (i / te.size) := by simp only [sg, hq, if_true]
            refine (hseg (i / te.size) (Rx.2 hq)).2.2 (i%te.size) c v ?_ ?_
            · rw [<-hs3, <-hs2, Pb, if_pos hr, Rz, he]; exact hc
            · rw [Pb, if_pos hr, Rz, he]; exact hv
          · rw [hwt]
            dsimp only
            rw [hte]
            refine ⟨by rw [h1, hn], fun i hi => ?_⟩
            rw [h2 i hi, Sk]
            simp only [sg, hi, if_true]
            exact (hseg i (Rx.2 hi)).2.1
      | _ => rw [hd] at hs; cases hs
end
open Go Go.RowKit Go.ChangeShapes
def WTA (T:Tab) (t:TypeId) (a:AV):Prop:=∀ n,∃ m aZ,WT T (m+n) t aZ/\match T t with
 | some ti=>match ti.desc with
  | .struct _=>a = .agg aZ
  | .array _ _=>a = .agg aZ
  | _=>aZ=[a]
 | none=>False
def WTs (T:Tab):List TypeId->List AV->Prop
 | [],[]=>True
 | t::ts,a::aZ=>WTA T t a/\WTs T ts aZ
 | _,_=>False
section
variable {H:Type} {enc:TypeId × Value->H} {P:Program} {w:World} {spare:Nat->Bool} {held:Bool}
theorem Zlu {T:Tab}:∀ (d:Nat) {t:TypeId} {aZ:List AV},WT T d t aZ->WT T (d+1) t aZ
 | 0,t,aZ,h=>h.elim
 | d+1,t,aZ,h=>by
  unfold WT at h ⊢
  cases ht:T t with
  | none=>rw [ht] at h; exact h.elim
  | some ti =>
   rw [ht] at h
   dsimp only at h ⊢
   cases hd:ti.desc with
   | bool=>rw [hd] at h; exact h
   | int k=>rw [hd] at h; exact h
   | float k=>rw [hd] at h; exact h
   | string=>rw [hd] at h; exact h
   | slice e =>
    rw [hd] at h
    dsimp only at h ⊢
    cases he:T e with
    | none=>rw [he] at h; exact h.elim
    | some te=>rw [he] at h; obtain ⟨els,e1,e2,e3⟩:=h; exact ⟨els,e1,e2,fun x hx=>Zlu d (e3 x hx)⟩
   | struct fs =>
    rw [hd] at h
    dsimp only at h ⊢
    refine ⟨h.1,fun f hf=>?_⟩
    have:=h.2 f hf
    cases he:T f.type with
    | none=>rw [he] at this; exact this.elim
    | some tf=>rw [he] at this; exact Zlu d this
   | array n e =>
    rw [hd] at h
    dsimp only at h ⊢
    cases he:T e with
    | none=>rw [he] at h; exact h.elim
    | some te=>rw [he] at h; exact ⟨h.1,fun i hi=>Zlu d (h.2 i hi)⟩
   | _=>rw [hd] at h; exact h.elim
theorem Zwa {T:Tab} (hT:TabOK P T) {S:List TypeId} (hS:S.all (Zi0 T S)=true) {t:TypeId} {v:Value} {d:DataW H} {p:List MemPlace} {r:Reach} {b0:Nat} (hm:memN S t=true) (hv:Js P w r b0 t v)
  (h:DataW.Trod enc P w 0 spare held t v d p):∃ a:AV,VR r0 (Im0 w) w (fun _=>False) a v/\WTA T t a:=by
 have hs:=Rf.1 hS t (Zcb hm)
 unfold Zi0 at hs
 cases ht:T t with
 | none=>rw [ht] at hs; cases hs
 | some ti =>
  rw [ht] at hs
  dsimp only at hs
  have hu:=hT.und t ti ht
  obtain ⟨fuel,hf⟩:=h
  have hop:=fun n=>Zd9 hT hS (fuel+n) t _ _ hm (DataW.trod_le (Nat.le_add_right fuel n) hf)
  obtain ⟨aZ,h1,h2,h3⟩:=hop 0
  have hwt:∀ n,WT T (fuel+n) t aZ:=by
   intro n
   induction n with
   | zero=>exact h3
   | succ n ih=>exact Zlu _ ih
  clear hop hf
  have agg:(∃ cs,v = .agg cs)->∃ a:AV,VR r0 (Im0 w) w (fun _=>False) a v/\a = .agg aZ:=by
   rintro ⟨cs,rfl⟩
   exact ⟨.agg aZ,.agg _ _ _ (by simpa [Value.cells] using h1.symm) (fun i c x hc hx=>h2 i c x hc (by simpa [Value.cells] using hx)),rfl⟩
  have one:(∀ cs,v ≠ .agg cs)->∃ a:AV,VR r0 (Im0 w) w (fun _=>False) a v/\aZ=[a]:=by
   intro hn
   have e:v.cells.toList=[v]:=by cases v<;>first|rfl|(rename_i cs; exact (hn cs rfl).elim)
   rw [e] at h1 h2
   simp only [List.length_cons,List.length_nil] at h1
   obtain ⟨c,rfl⟩:=List.length_eq_one_iff.1 h1
   exact ⟨c,h2 0 c v rfl rfl,rfl⟩
  unfold Js at hv
  rw [hu] at hv
  cases hd:ti.desc with
  | bool =>
   rw [hd] at hv hu
   obtain ⟨a,h4,h5⟩:=one (fun cs e=>by subst e; simp [Hq,Qbf,hu] at hv)
   exact ⟨a,h4,fun n=>⟨fuel,aZ,hwt n,by rw [ht]; dsimp only; rw [hd]; exact h5⟩⟩
  | int k =>
   rw [hd] at hv hu
   obtain ⟨a,h4,h5⟩:=one (fun cs e=>by subst e; simp [Hq,Qbf,hu] at hv)
   exact ⟨a,h4,fun n=>⟨fuel,aZ,hwt n,by rw [ht]; dsimp only; rw [hd]; exact h5⟩⟩
  | float k =>
   rw [hd] at hv hu
   obtain ⟨a,h4,h5⟩:=one (fun cs e=>by subst e; simp [Hq,Qbf,hu] at hv)
   exact ⟨a,h4,fun n=>⟨fuel,aZ,hwt n,by rw [ht]; dsimp only; rw [hd]; exact h5⟩⟩
  | string =>
   rw [hd] at hv hu
   obtain ⟨a,h4,h5⟩:=one (fun cs e=>by subst e; simp [Hq,Qbf,hu] at hv)
   exact ⟨a,h4,fun n=>⟨fuel,aZ,hwt n,by rw [ht]; dsimp only; rw [hd]; exact h5⟩⟩
  | slice e =>
   rw [hd] at hv hu
   obtain ⟨a,h4,h5⟩:=one (fun cs e=>by subst e; simp [Hq,Qbf,hu] at hv)
   exact ⟨a,h4,fun n=>⟨fuel,aZ,hwt n,by rw [ht]; dsimp only; rw [hd]; exact h5⟩⟩
  | struct fs =>
   rw [hd] at hv hu
   obtain ⟨cs,hcs,_⟩:=hv
   obtain ⟨a,h4,h5⟩:=agg ⟨cs,hcs⟩
   exact ⟨a,h4,fun n=>⟨fuel,aZ,hwt n,by rw [ht]; dsimp only; rw [hd]; exact h5⟩⟩
  | array n e =>
   rw [hd] at hv hu
   obtain ⟨cs,hcs,_⟩:=hv
   obtain ⟨a,h4,h5⟩:=agg ⟨cs,hcs⟩
   exact ⟨a,h4,fun n=>⟨fuel,aZ,hwt n,by rw [ht]; dsimp only; rw [hd]; exact h5⟩⟩
  | _=>rw [hd] at hs; cases hs
theorem Zk8 {T:Tab} (hT:TabOK P T) {S:List TypeId} (hS:S.all (Zi0 T S)=true) {r:Reach} {b0:Nat}:∀ (ts:List TypeId) (vs:List Value) (ds:List (DataW H)) (p:List MemPlace),(∀ t∈ts,memN S t=true)->(∀ (j:Nat) t v,ts[j]?=some t->vs[j]?=some v->Js P w r b0 t v) ->
  Lq enc P w 0 spare held ts vs ds p->∃ aZ:List AV,VRs r0 (Im0 w) w (fun _=>False) aZ vs.toArray/\WTs T ts aZ
 | [],vs,ds,p,_,_,h=>by
  obtain ⟨rfl,rfl,rfl⟩:=trodAll_nil h
  exact ⟨[],⟨rfl,fun i c v hc=>by simp at hc⟩,trivial⟩
 | t::ts,vs,ds,p,hm,hv,h=>by
  obtain ⟨v,vs',d,ds',q,q',rfl,rfl,rfl,hd,hr⟩:=trodAll_cons h
  obtain ⟨a,ha,hw⟩:=Zwa hT hS (hm t (by simp)) (hv 0 t v rfl rfl) hd
  obtain ⟨aZ,hs,hws⟩:=Zk8 hT hS ts vs' ds' q' (fun t' ht'=>hm t' (by simp [ht'])) (fun j t' v' h1 h2=>hv (j+1) t' v' (by simpa using h1) (by simpa using h2)) hr
  refine ⟨a::aZ,⟨by simpa using hs.1,fun i c x hc hx=>?_⟩,hw,hws⟩
  cases i with
  | zero=>simp at hc hx; subst hc; subst hx; exact ha
  | succ i=>exact hs.2 i c x (by simpa using hc) (by simpa using hx)
theorem Zz8 {T:Tab} (hT:TabOK P T) {S:List TypeId} (hS:S.all (Zi0 T S)=true) {f:FuncId} {ts:List TypeId} (hm:ts.all (memN S)=true) (hlaw:∀ aZ,WTs T ts aZ->PCall P f aZ ⟨.bool true,[]⟩) {r:Reach} {b0:Nat} {vs:Array Value} {ds:List (DataW H)} {p:List MemPlace}
  (hv:∀ (j:Nat) t v,ts[j]?=some t->vs[j]?=some v->Js P w r b0 t v) (h:Lq enc P w 0 spare held ts vs.toList ds p):Calls P f vs w fun e w'=>e = .returned (.bool true)/\Below w.heap.size w w':=by
 obtain ⟨aZ,h1,h2⟩:=Zk8 hT hS ts vs.toList ds p (fun t ht=>Rf.1 hm t ht) (fun j t v a b=>hv j t v a (by simpa using b)) h
 refine callsIn_wide.1 (((hlaw aZ h2).2 (Im0 w) w vs (fun b o h=>h) (by simpa using h1)).mono fun e w' hh=>?_)
 obtain ⟨x,r',I',rfl,hp⟩:=hh
 have hval:=hp.val
 cases hval
 exact ⟨rfl,hp.below⟩
theorem Zsb (hl:laidOutB P=true) {w' : World} (bel:Below w.heap.size w w'):∀ (ts:List TypeId) (vs:List Value) (ds:List (DataW H)) (p:List MemPlace),ts.all (fun t=>P.readableRec t&&decide (t<P.types.size))=true ->
  Lq enc P w 0 (fun _=>true) true ts vs ds p->(∀ x∈p,x.block<w.heap.size)->∃ q,Lq enc P w' 0 (fun b=>decide (b<w.heap.size)) true ts vs ds q
 | [],vs,ds,p,_,h,_=>by
  obtain ⟨rfl,rfl,rfl⟩:=trodAll_nil h
  exact ⟨[],trodAll_mk0⟩
 | t::ts,vs,ds,p,ht,h,hlt=>by
  obtain ⟨v,vs',d,ds',q,q',rfl,rfl,rfl,hd,hr⟩:=trodAll_cons h
  simp only [List.all_cons,Qc,decide_eq_true_eq] at ht
  obtain ⟨q2,h2⟩:=Zsb hl bel ts vs' ds' q' ht.2 hr (fun x hx=>hlt x (by simp [hx]))
  exact ⟨_,trodAll_cons_mk (Below.trod hl ht.1.1 ht.1.2 hd bel (fun x hx=>hlt x (by simp [hx]))) h2⟩
theorem Zk0:∀ (ts:List TypeId) (vs:List Value) (ds:List (DataW H)) (p:List MemPlace),Lq enc P w 0 spare held ts vs ds p->∀ x∈p,x.block<w.heap.size
 | [],vs,ds,p,h,x,hx=>by obtain ⟨rfl,rfl,rfl⟩:=trodAll_nil h; simp at hx
 | t::ts,vs,ds,p,h,x,hx=>by
  obtain ⟨v,vs',d,ds',q,q',rfl,rfl,rfl,hd,hr⟩:=trodAll_cons h
  rcases List.mem_append.1 hx with hx|hx
  ·obtain ⟨m,hm⟩:=hd; exact DataW.trod_lt m _ _ _ hm x hx
  ·exact Zk0 ts vs' ds' q' hr x hx
theorem Zt8 {C:Checked} {os:Os} (started:os.Started) {f:FuncId} {fn:Func} {s:ChangeSpec} {bt:TypeId}
  (own:ownKnob C.prog.godebug=none) (laid:laidOutB C.prog=true) (noInit:C.prog.inits.idxOf? f=none) (hfn:C.prog.funcs[f]?=some fn)
  {T:Tab} (hT:TabOK C.prog T) {S:List TypeId} (hS:S.all (Zi0 T S)=true) (hm:fn.params.toList.all (memN S)=true) (hread:fn.params.toList.all (fun t=>C.prog.readableRec t&&decide (t<C.prog.types.size))=true)
  (hvars:s.vars=[]) (hres:fn.resultTypes = #[bt]) (hbt:C.prog.underlying bt=some .bool)
  (hsp:∀ ds:List (DataW H),ds.length=fn.params.toList.length->s.fn H ds = { results:=[.lit (.bool true)],args:=ds,vars:=[] })
  (hlaw:∀ aZ,WTs T fn.params.toList aZ->PCall C.prog f aZ ⟨.bool true,[]⟩) {conds:List PathCond}
  (witness:∃ (w:World) (tape:Tape) (i:Input),w.os=os/\(w.forCall tape i).Shaped C.prog/\i.vars=[]/\Input.okWide C.prog (w.forCall tape i) .any w.heap.size f i /\
   s.pre6 enc C.prog fn conds false (w.forCall tape i).memory i.args/\({}:Assume).holds C.prog (lone (Frame.enter C.prog f i.args .normal) [] (w.forCall tape i))) :
  ReturnsInHanded {} C os f .any (s.pre6 enc C.prog fn conds false) (s.post enc C.prog fn false true false false):=by
 refine returnsInHanded_of_change own started noInit hfn witness ?_
 intro W base args ds gs before hval0 hW hcnd _
 have hval:∀ (j:Nat) t v,fn.params.toList[j]?=some t->args[j]?=some v->Js C.prog W .any base t v:=fun j t v a b=>hval0 j t v (by simpa using a) b
 have hW':=hW
 obtain ⟨p,q,hA,hV,rfl,hfz,hnd⟩:=hW
 rw [hvars] at hV
 obtain ⟨rfl,rfl⟩:=trodVars_none hV
 have hlen:∀ (ts:List TypeId) (vs:List Value) (ds:List (DataW H)) (p:List MemPlace),Lq enc C.prog W 0 (fun _=>true) true ts vs ds p->ds.length=ts.length:=by
  intro ts
  induction ts with
  | nil=>intro vs ds p h; obtain ⟨rfl,rfl,rfl⟩:=trodAll_nil h; rfl
  | cons t ts ih=>intro vs ds p h; obtain ⟨v,vs',d,ds',q,q',rfl,rfl,rfl,hd,hr⟩:=trodAll_cons h; simp [ih _ _ _ hr]
 refine (Zz8 hT hS hm hlaw hval hA).mono fun e W' hh=>?_
 obtain ⟨he,bel⟩:=hh
 subst he
 obtain ⟨q2,hq2⟩:=Zsb laid bel _ _ _ _ hread hA (Zk0 _ _ _ _ hA)
 have hsp':=hsp (ds++[]) (by rw [List.append_nil]; exact hlen _ _ _ _ hA)
 refine ⟨_,rfl,ds,[],_,[],q2,[],hW',?_,?_,?_,bel.frame _,fun h=>by cases h⟩
 ·rw [hsp',hres]; exact trodAll_mk1 (shut_bool hbt _)
 ·rw [hsp']; simpa using hq2
 ·rw [hsp',hvars]; rfl
end
open Go Go.RowKit
variable {T:Tab} {d:Nat} {t:TypeId} {aZ:List AV}
theorem Ya2 {ti:TI} {k:IntKind} (ht:T t=some ti) (hd:ti.desc = .int k) (h:WT T (d+1) t aZ):∃ n,aZ=[.int k n]/\(Qbe k n).wf=true:=by
 unfold WT at h; rw [ht] at h; dsimp only at h; rw [hd] at h; exact h
theorem Yfc {ti:TI} (ht:T t=some ti) (hd:ti.desc = .string) (h:WT T (d+1) t aZ):∃ s,aZ=[.str s]/\s.size<=maxLen:=by
 unfold WT at h; rw [ht] at h; dsimp only at h; rw [hd] at h; exact h
theorem Zd7 {ti te:TI} {e:TypeId} (ht:T t=some ti) (hd:ti.desc = .slice e) (he:T e=some te) (h:WT T (d+1) t aZ):∃ els,aZ=[.isl te.size els]/\els.length<=maxLen/\∀ x∈els,WT T d e x:=by
 unfold WT at h; rw [ht] at h; dsimp only at h; rw [hd] at h; dsimp only at h; rw [he] at h; exact h
theorem Uz {ti:TI} {fs:Array Field} (ht:T t=some ti) (hd:ti.desc = .struct fs) (h:WT T (d+1) t aZ):aZ.length=ti.size/\∀ f∈fs.toList,∃ tf,T f.type=some tf/\WT T d f.type ((aZ.drop f.offset).take tf.size):=by
 unfold WT at h; rw [ht] at h; dsimp only at h; rw [hd] at h; dsimp only at h
 refine ⟨h.1,fun f hf=>?_⟩
 have:=h.2 f hf
 cases hq:T f.type with
 | none=>rw [hq] at this; exact this.elim
 | some tf=>rw [hq] at this; exact ⟨tf,rfl,this⟩
theorem Zzi {ti te:TI} {n:Nat} {e:TypeId} (ht:T t=some ti) (hd:ti.desc = .array n e) (he:T e=some te) (h:WT T (d+1) t aZ):aZ.length=ti.size/\∀ i,i<n->WT T d e ((aZ.drop (i*te.size)).take te.size):=by
 unfold WT at h; rw [ht] at h; dsimp only at h; rw [hd] at h; dsimp only at h; rw [he] at h; exact h
theorem Zu1 {a:AV} {ti:TI} (h:WTA T t a) (ht:T t=some ti) {fs:Array Field} (hd:ti.desc = .struct fs) (n:Nat):∃ aZ m,a = .agg aZ/\WT T (m+n+1) t aZ:=by
 obtain ⟨m,aZ,hm,ha⟩:=h (n+1)
 rw [ht] at ha; dsimp only at ha; rw [hd] at ha
 exact ⟨aZ,m,ha,by rw [Nat.add_assoc]; exact hm⟩
def Yac (T:Tab) (n:Nat):Nat->List Field->Bool
 | i,[]=>Qs i n
 | i,f::fs=>Qs f.offset i&&(match T f.type with
  | some tf=>Qs tf.size 1&&(match tf.desc with
   | .int .i64=>true
   | _=>false)
  | none=>false)&&Yac T n (i+1) fs
theorem Zio {n:Nat} (hl:aZ.length=n):∀ (fs:List Field) (i:Nat),Yac T n i fs=true->(∀ f∈fs,∃ tf,T f.type=some tf/\WT T (d+1) f.type ((aZ.drop f.offset).take tf.size))->∃ ns:List Int,aZ.drop i=ns.map (AV.int .i64)/\ns.length+i=n/\∀ x∈ns,(Qbe .i64 x).wf=true
 | [],i,h,hf=>by
  have hi:=Qh h
  exact ⟨[],by simp [List.drop_eq_nil_iff]; omega,by simpa using hi,by simp⟩
 | f::fs,i,h,hf=>by
  simp only [Yac,Qc] at h
  obtain ⟨⟨h1,h2⟩,h3⟩:=h
  obtain ⟨ns,g1,g2,g3⟩:=Zio hl fs (i+1) h3 (fun g hg=>hf g (by simp [hg]))
  obtain ⟨tf,e1,e2⟩:=hf f (by simp)
  rw [e1] at h2
  simp only [Qc] at h2
  obtain ⟨h4,h5⟩:=h2
  have hk:tf.desc = .int .i64:=by split at h5<;>first|assumption|cases h5
  obtain ⟨x,q1,q2⟩:=Ya2 e1 hk e2
  rw [Qh h4,Qh h1] at q1
  have hi:i<aZ.length:=by
   rcases Wh i aZ.length with hi|hi
   ·exact hi
   ·rw [Qo hi] at q1; simp at q1
  refine ⟨x::ns,?_,by simp; omega,fun y hy=>?_⟩
  ·rw [List.drop_eq_getElem_cons hi] at q1 ⊢
   simp only [List.take_succ_cons,List.take_zero,List.cons.injEq,and_true] at q1
   rw [g1,q1]; rfl
  ·rcases Ra.1 hy with rfl|hy
   ·exact q2
   ·exact g3 y hy
theorem Zu2 {ti:TI} {fs:Array Field} (ht:T t=some ti) (hd:ti.desc = .struct fs) (hi:Yac T ti.size 0 fs.toList=true) (h:WT T (d+2) t aZ):∃ ns:List Int,aZ=ns.map (AV.int .i64)/\ns.length=ti.size/\∀ x∈ns,(Qbe .i64 x).wf=true:=by
 obtain ⟨h1,h2⟩:=Uz ht hd h
 obtain ⟨ns,g1,g2,g3⟩:=Zio h1 fs.toList 0 hi h2
 exact ⟨ns,by simpa using g1,by omega,g3⟩
end Go.Sx
set_option maxRecDepth 20000
namespace Go.Sx
open Go Ieee
open Go Go.RowKit
variable {P:Program} {N B l:Nat} {Ig:Imm} {JX:Zs->(Nat->Prop)->World->Prop}
section
variable {P:Program} {r:Locs} {I:Imm} {w:World} {D:Nat->Prop}
def NS (a b:AV):Prop:=a=b\/(a = .nils/\∃ es,b = .isl es [])
theorem NS.vr {a b:AV} (h:NS a b) {v:Value} (hv:VR r I w D a v):VR r I w D b v:=by
 rcases h with rfl|⟨rfl,es,rfl⟩
 ·exact hv
 ·cases hv; exact .isl0 _ _ _ _
def NSL:List AV->List AV->Prop
 | [],[]=>True
 | a::l,b::m=>NS a b/\NSL l m
 | _,_=>False
theorem NSL.get:∀ {l m:List AV},NSL l m->l.length=m.length/\∀ (i:Nat) (b:AV),m[i]?=some b->∃ a,l[i]?=some a/\NS a b
 | [],[],_=>⟨rfl,fun i b h=>by simp at h⟩
 | a::l,b::m,h=>by
  simp only [NSL] at h
  obtain ⟨h1,h2⟩:=NSL.get h.2
  refine ⟨by simp [h1],fun i b' hi=>?_⟩
  cases i with
  | zero=>simp at hi; subst hi; exact ⟨a,rfl,h.1⟩
  | succ i=>simpa using h2 i b' (by simpa using hi)
 | [],_::_,h=>by simp [NSL] at h
 | _::_,[],h=>by simp [NSL] at h
theorem NSL.vr {l m:List AV} (h:NSL l m) {v:Value} (hv:VR r I w D (.agg l) v):VR r I w D (.agg m) v:=by
 obtain ⟨h1,h2⟩:=h.get
 cases hv with
 | agg _ _ vs h0 g =>
  refine .agg _ _ _ (h0.trans h1) fun i c x hc hx=>?_
  obtain ⟨a,ha,hn⟩:=h2 i c hc
  exact hn.vr (g i a x ha hx)
def NA (a b:AV):Prop:=NS a b\/∃ l m,a = .agg l/\b = .agg m/\NSL l m
theorem NA.vr {a b:AV} (h:NA a b) {v:Value} (hv:VR r I w D a v):VR r I w D b v:=by
 rcases h with h|⟨l,m,rfl,rfl,h⟩
 ·exact h.vr hv
 ·exact h.vr hv
theorem NA.rfl {a:AV}:NA a a:=.inl (.inl _root_.rfl)
def NAL:List AV->List AV->Prop
 | [],[]=>True
 | a::l,b::m=>NA a b/\NAL l m
 | _,_=>False
theorem NAL.get:∀ {l m:List AV},NAL l m->l.length=m.length/\∀ (i:Nat) (b:AV),m[i]?=some b->∃ a,l[i]?=some a/\NA a b
 | [],[],_=>⟨_root_.rfl,fun i b h=>by simp at h⟩
 | a::l,b::m,h=>by
  simp only [NAL] at h
  obtain ⟨h1,h2⟩:=NAL.get h.2
  refine ⟨by simp [h1],fun i b' hi=>?_⟩
  cases i with
  | zero=>simp at hi; subst hi; exact ⟨a,_root_.rfl,h.1⟩
  | succ i=>simpa using h2 i b' (by simpa using hi)
 | [],_::_,h=>by simp [NAL] at h
 | _::_,[],h=>by simp [NAL] at h
theorem PCall.nilArgs {f:FuncId} {l m:List AV} {res:PRes} (h:PCall P f m res) (hn:NAL l m):PCall P f l res:=by
 obtain ⟨h1,h2⟩:=hn.get
 refine ⟨h.1,fun I w vs hI hv=>h.2 I w vs hI ⟨hv.1.trans h1,fun i c v hc hv'=>?_⟩⟩
 obtain ⟨a,ha,hn⟩:=h2 i c hc
 exact hn.vr (hv.2 i a v ha hv')
end
variable {r r' : Locs} {D D' : Nat->Prop} {I I' : Imm} {w w' w0:World} {I0 Ig:Imm} {B n n' k N l:Nat} {pr pr' pr2:Nat->Obj->Prop} {h:Nat->ABlk} {P:Program} {JX:Zs->(Nat->Prop)->World->Prop} {O:Nat->Prop}
theorem Zly {cx:Cx} (hcx:CxOK P cx) {pc:PC} (hpc:PCOK P pc) (hm:P.follows .mixedOrders=true) {F:Fence} (hF:FOK F) (id:Nat) (ops:Array Oper) {env:Env} {σ:St} {K:Env->St->Prop} (hv:Zeo cx pc N ops.toList env σ K) {a:Act} (S:SR B w0 I0 pr N r I D env σ a w)
  {Q:Exit->Act->World->Prop} (hq:∀ a' w',Leaves B w0 I0 pr N r I D w a.defers K a' w'->Q .normal a' w'):(Code.region id ops true).wpIn F 0 P Q a w:=by
 unfold Zeo at hv
 cases hnd:Ya ops.toList with
 | false=>rw [hnd] at hv; exact hv.elim
 | true =>
  rw [hnd] at hv
  obtain ⟨recs,env',σ',⟨hok,hK⟩,h2,h3,h4,h5,h6,h7,h8⟩:=Zie ops.toList env σ _ _ _ hv
  simp only [List.reverse_nil,Lt] at hok
  refine wpIn_region_any hm ?_
  have hfalse:∀ q,(Pe ops.size false).getD q false=false:=by
   intro q
   rw [Qy,Array.getElem?_replicate]
   split<;>rfl
  have main:=Zsy (B:=B) (w0:=w0) (I0:=I0) (pr:=pr) (N:=N) (D0:=D) (k0:=σ.next) (nf:=σ'.next) (rs:=r) (Is:=I) (ws:=w) (ds:=a.defers) hcx hpc hF h2 hnd hok h3 (fun id hd=>(S.hr.dom id hd).1) h6 h7
   Q (fun a' w' hi=>?_) ops.size (Pe ops.size false) a w.drew (by simp) (fun q p hq _=>by dsimp only at hq; rw [hfalse] at hq; cases hq) (by simpa using List.countP_le_length (l:=Tg ops.size false)) ?_
  ·simpa using main
  ·obtain ⟨⟨r2,I2,D2,H2,hD2,hsz,htm,hst⟩,hdf⟩:=hi
   rw [<-h5] at H2
   rw [<-h4] at htm
   exact hq _ _ ⟨env',σ',r2,I2,D2,hK,⟨H2,hsz,htm⟩,by simpa using hdf,hst⟩
  ·refine ⟨⟨r,I,D,?_,fun id hd=>.inl hd,S.er.1,?_,Lz r D I w⟩,rfl⟩
   ·rw [Zqj (recs:=recs) hfalse]
    exact S.hr.drew.next h8
   ·rw [Zqy (recs:=recs) hfalse]
    exact fun t=>(S.er.2 t).mono (Lz r D I w)
structure YEnv (P:Program) (B:Nat) (Ig:Imm) (l:Nat) (sc:Bool) (JX:Zs->(Nat->Prop)->World->Prop):Prop where
 low:∀ b o,Ig b o->b<B
 grow:∀ z O w w',JX z O w->Chg O w w'->JX z (fun b=>O b\/(w.heap.size<=b/\b<w'.heap.size)) w'
 round:∀ x zs O w ys I',(sc=true->Za3 x=true)->JX (some (x::zs)) O w->(∀ b o,Ig b o->I' b o)->(∀ b o,I' b o->Ig b o\/O b)->VRs r0 I' w (fun _=>False) x ys ->
  YieldAt Ti 0 P l ys w fun e w'=>∃ b,e = .returned (.bool b)/\(∀ q,O q->w'.heap[q]?=w.heap[q]?)/\(∀ q o,Ig q o->w'.cell? ⟨q,o,none⟩=w.cell? ⟨q,o,none⟩)/\w.heap.size<=w'.heap.size/\(b=true->JX (some zs) O w')/\(b=false->JX none O w')
theorem ItEnv.toY (h:ItEnv P B Ig l JX):YEnv P B Ig l true JX :=
 ⟨h.low,h.grow,fun x zs O w ys I' hs hj _ _ hv=>h.round x zs O w ys hj ⟨hv.1,fun i c v hc hv'=>(hv.2 i c v hc hv').scalar (Za2 (hs rfl) hc) _ _ _ _⟩⟩
structure YSx (N:Nat) (B:Nat) (Ig:Imm) (JX:Zs->(Nat->Prop)->World->Prop) (z:Zs) (r:Locs) (D:Nat->Prop) (I:Imm) (O:Nat->Prop) (env:Env) (σ:St) (a:Act) (w:World):Prop where
 hr:HR B w I (prO B O w) r I D σ.get σ.next w
 ho:∀ b,O b->B<=b/\b<w.heap.size
 lo:∀ b o,Ig b o->I b o
 up:∀ b o,I b o->Ig b o\/O b
 er:ER r I w D N env a.tmps
 jx:JX z O w
 df:a.defers=[]
def PY (N B:Nat) (Ig:Imm) (JX:Zs->(Nat->Prop)->World->Prop) (r:Locs) (D:Nat->Prop) (I:Imm) (w:World) (Q:IQ):Exit->Act->World->Prop:=fun e a' w'=>∃ env' σ' z' r' D' I' O',Q e env' σ' z'/\YSx N B Ig JX z' r' D' I' O' env' σ' a' w'/\Step r D I w r' D' I' w'
def AwpY (P:Program) (N B:Nat) (Ig:Imm) (JX:Zs->(Nat->Prop)->World->Prop) (c:Code) (env:Env) (σ:St) (z:Zs) (Q:IQ):Prop :=
 ∀ r D I O a w,YSx N B Ig JX z r D I O env σ a w->c.wpIn Ti 0 P (PY N B Ig JX r D I w Q) a w
theorem YSx.own {z:Zs} {env:Env} {σ:St} {a:Act} (S:YSx N B Ig JX z r D I O env σ a w) {h' : Nat->ABlk} {n' : Nat} (H:HR B w I (prO B O w) r' I' D' h' n' w') :
  Chg O w w'/\HR B w' I' (prO B (fun b=>O b\/(w.heap.size<=b/\b<w'.heap.size)) w') r' I' D' h' n' w'/\(∀ b,(O b\/(w.heap.size<=b/\b<w'.heap.size))->B<=b/\b<w'.heap.size)/\(∀ b o,I' b o->Ig b o\/(O b\/(w.heap.size<=b/\b<w'.heap.size))):=by
 have old:∀ b,¬ (O b\/(w.heap.size<=b/\b<w'.heap.size))->B<=b->b<w'.heap.size->prO B O w b (w.heap.getD b default):=by
  intro b hn hb hlt
  have hnO:¬ O b:=fun h=>hn (.inl h)
  have hlt2:b<w.heap.size:=by
   rcases Wh b w.heap.size with h|h
   ·exact h
   ·exact (hn (.inr ⟨h,hlt⟩)).elim
  exact ⟨hb,hnO,by simp [Array.getD,hlt2]⟩
 have hc:Chg O w w':=⟨H.below.os,H.below.tape,H.below.output,H.below.size,fun b hb hlt=>by
  by_cases hbb:b<B
  ·exact H.below.block b hbb
  ·have e1:w.heap[b]?=some w.heap[b]:=by simp [hlt]
   rw [(H.prot b _ ⟨by omega,hb,e1⟩).1,e1]⟩
 refine ⟨hc,H.rebase (fun b o hp=>?_),fun b hb=>?_,fun b o hi=>?_⟩
 ·obtain ⟨h1,h2,h3⟩:=hp
  have hlt:=(Qt.1 h3).1
  have hp:=old b h2 h1 hlt
  exact ⟨h3,h1,(H.protK b _ hp).1,(H.protK b _ hp).2⟩
 ·rcases hb with hb|hb
  ·have:=S.ho b hb; have:=H.below.size; omega
  ·have:=S.hr.base; omega
 ·rcases H.immB b o hi with h|h
  ·rcases S.up b o h with h|h
   ·exact .inl h
   ·exact .inr (.inl h)
  ·refine .inr (Classical.byContradiction fun hn=>?_)
   exact (H.protK b _ (old b hn h (H.imm b o hi))).2 o hi
theorem YSx.step {sc:Bool} (hI:YEnv P B Ig l sc JX) {z:Zs} {env:Env} {σ:St} {a:Act} (S:YSx N B Ig JX z r D I O env σ a w) {K:Env->St->Prop} {a' : Act} (hl:Leaves B w I (prO B O w) N r I D w a.defers K a' w') :
  ∃ env' σ' r' D' I' O',K env' σ'/\YSx N B Ig JX z r' D' I' O' env' σ' a' w'/\Step r D I w r' D' I' w':=by
 obtain ⟨env',σ',r',I',D',hk,⟨H,E⟩,hd,St⟩:=hl
 obtain ⟨hc,H',ho',up'⟩:=S.own H
 exact ⟨env',σ',r',D',I',_,hk,⟨H',ho',fun b o hi=>(St.imm b o (S.lo b o hi)).1,up',E,hI.grow z O w w' S.jx hc,hd.trans S.df⟩,St⟩
theorem YSx.behind {sc:Bool} (hI:YEnv P B Ig l sc JX) {z z' : Zs} {env:Env} {σ:St} {a:Act} (S:YSx N B Ig JX z r D I O env σ a w) (hm:Znz σ.heap=true)
  (k1:∀ q,O q->w'.heap[q]?=w.heap[q]?) (k2:∀ q o,Ig q o->w'.cell? ⟨q,o,none⟩=w.cell? ⟨q,o,none⟩) (k3:w.heap.size<=w'.heap.size) (hj:JX z' O w'):YSx N B Ig JX z' r D I O env σ a w'/\Step r D I w r D I w':=by
 have H:=S.hr
 have hlO:∀ id,(σ.get id).live=true->O (r id).blk:=by
  intro id hid
  have hB:B<=(r id).blk:=by
   have hb:=H.blk id
   cases hx:σ.get id with
   | row es elems mt pu =>
    have:=Zef hm hx
    subst this
    rw [hx] at hb
    obtain ⟨_,_,_,cs,T,fz,_,_,_,h7,_⟩:=hb
    exact (h7 rfl).1
   | map ents=>rw [hx] at hb; exact hb.1
   | set keys=>rw [hx] at hb; exact hb.1
   | dead=>rw [hx] at hid; simp [Wi] at hid
  by_cases ho:O (r id).blk
  ·exact ho
  ·have hlt:=(H.dom id (H.live id hid)).2
   have e1:w.heap[(r id).blk]?=some w.heap[(r id).blk]:=by simp [hlt]
   exact ((H.protK _ _ ⟨hB,ho,e1⟩).1 id hid rfl).elim
 have hst:Step r D I w r D I w':=⟨fun id h=>⟨h,rfl⟩,fun b o h=>⟨h,by
  rcases S.up b o h with h1|h1
  ·exact k2 b o h1
  ·exact World.cell?_of_block (k1 b h1)⟩,k3⟩
 refine ⟨⟨⟨Kv _ _,Re H.base k3,fun b o hi=>Tc (H.imm b o hi) k3,fun id hd=>⟨(H.dom id hd).1,Tc (H.dom id hd).2 k3⟩,H.live,fun id=>?_,H.inj,fun b o hp=>⟨hp.2.2,hp.1⟩,fun b o hp=>⟨fun id hid e=>hp.2.1 (e ▸ hlO id hid),fun o' hi=>?_⟩,fun _ _ h=>.inl h⟩,fun b hb=>by have:=S.ho b hb; omega,S.lo,S.up,S.er.mono hst,hj,S.df⟩,hst⟩
 ·by_cases hid:(σ.get id).live=true
  ·exact (H.blk id).mono hst rfl (fun _=>k1 _ (hlO id hid)) (fun _ _ _ _ _ hx=>hx)
  ·have:σ.get id = .dead:=by cases hx:σ.get id<;>simp_all [Wi]
   rw [this]; trivial
 ·rcases S.up b o' hi with h1|h1
  ·have:=hI.low b o' h1; have:=hp.1; omega
  ·exact hp.2.1 h1
theorem YSx.put {z:Zs} {env:Env} {σ:St} {a:Act} (S:YSx N B Ig JX z r D I O env σ a w) {dst:Option Nat} {v:AV} {x:Value} (hv:VR r I w D v x) {K:Env->Prop} (hk:Zt N dst v env K):∃ env',K env'/\YSx N B Ig JX z r D I O env' σ (a.put dst x) w:=by
 cases dst with
 | none=>exact ⟨env,hk,⟨S.hr,S.ho,S.lo,S.up,S.er,S.jx,S.df⟩⟩
 | some d =>
  simp only [Zt] at hk
  rcases Mv hk with ⟨h1,h2⟩|⟨_,h2⟩
  ·have hdl:d<N:=by simpa [Th] using h1
   exact ⟨(d,v)::env,h2,⟨S.hr,S.ho,S.lo,S.up,S.er.put hdl hv,S.jx,S.df⟩⟩
  ·exact h2.elim
def Zth (P:Program) (B:Nat) (Ig:Imm) (JX:Zs->(Nat->Prop)->World->Prop) (f:FuncId) (args:List AV) (σ:St) (z:Zs) (K:AV->St->Zs->Prop):Prop :=
 ∀ r D I O w vs,HR B w I (prO B O w) r I D σ.get σ.next w->(∀ b,O b->B<=b/\b<w.heap.size)->(∀ b o,Ig b o->I b o)->(∀ b o,I b o->Ig b o\/O b)->JX z O w->VRs r I w D args vs ->
  CallsIn Ti 0 P f vs w fun e w'=>∃ x v σ' z' r' D' I' O',e = .returned x/\K v σ' z'/\HR B w' I' (prO B O' w') r' I' D' σ'.get σ'.next w'/\(∀ b,O' b->B<=b/\b<w'.heap.size)/\(∀ b o,Ig b o->I' b o)/\(∀ b o,I' b o->Ig b o\/O' b)/\JX z' O' w'/\VR r' I' w' D' v x/\Step r D I w r' D' I' w'
inductive YCt (P:Program) (B:Nat) (Ig:Imm) (JX:Zs->(Nat->Prop)->World->Prop) (f:FuncId) (args:List AV) (σ:St) (z:Zs) (K:AV->St->Zs->Prop):Prop
 | mk (h:FnOK P f/\Zth P B Ig JX f args σ z K):YCt P B Ig JX f args σ z K
def Vw (h:Nat->ABlk) (aZ x:List AV):Prop:=∃ x' lv,Zao h aZ=some (x',lv)/\NSL x' x
theorem NSL.refl:∀ (l:List AV),NSL l l
 | []=>trivial
 | _::l=>⟨.inl rfl,NSL.refl l⟩
theorem Vw.same {h:Nat->ABlk} {aZ x:List AV} {lv:List Nat} (e:Zao h aZ=some (x,lv)):Vw h aZ x:=⟨x,lv,e,NSL.refl x⟩
theorem NSL.vrs {l m:List AV} (h:NSL l m) {vs:Array Value} (hv:VRs r I w D l vs):VRs r I w D m vs:=by
 obtain ⟨h1,h2⟩:=h.get
 refine ⟨hv.1.trans h1,fun i c x hc hx=>?_⟩
 obtain ⟨a,ha,hn⟩:=h2 i c hc
 exact hn.vr (hv.2 i a x ha hx)
inductive Yd (p:Prop):Prop
 | mk (h:p):Yd p
def isSx (sx:FuncId->Bool) (env:Env) (o:Oper):Option (FuncId × List AV) :=
 match o.op with
 | .call { callee:=.value f,args,.. }=>match evA env f with
  | .func g c0 c1=>cond (sx g) (some (g,(c0++Xg (evA env) args.toList)++c1)) none
  | _=>none
 | _=>none
def vcY1 (P:Program) (cx:Cx) (N B l:Nat) (sc:Bool) (sx:FuncId->Bool) (Ig:Imm) (JX:Zs->(Nat->Prop)->World->Prop) (o:Oper) (env:Env) (σ:St) (z:Zs) (K:Env->St->Zs->Prop):Prop :=
 match Zub env o with
 | some (l',aZ)=>match z with
  | some (x::zs)=>Yd (l'=l/\Znz σ.heap=true/\Vw σ.get aZ x/\(sc=true->Za3 x=true)/\(Zt N o.dst (.bool true) env fun env'=>K env' σ (some zs))/\(Zt N o.dst (.bool false) env fun env'=>K env' σ none))
  | _=>False
 | none=>match isSx sx env o with
  | some (g,aZ)=>YCt P B Ig JX g aZ σ z fun v σ' z'=>Zt N o.dst v env fun env'=>K env' σ' z'
  | none=>vcOp cx N o env σ fun env' σ'=>K env' σ' z
def Zdd (P:Program) (cx:Cx) (N B l:Nat) (sc:Bool) (sx:FuncId->Bool) (Ig:Imm) (JX:Zs->(Nat->Prop)->World->Prop) (ops:List Oper):List Oper->Env->St->Zs->(Env->St->Zs->Prop)->Prop
 | [],env,σ,z,K=>K env σ z
 | o::rest,env,σ,z,K =>
  match o.guard with
  | none=>vcY1 P cx N B l sc sx Ig JX o env σ z fun env' σ' z'=>Zdd P cx N B l sc sx Ig JX ops rest env' σ' z' K
  | some (j,want) =>
   match Yq ops j with
   | none=>False
   | some t=>match env.get t with
    | .bool b=>Br b
     (match want with
      | true=>vcY1 P cx N B l sc sx Ig JX o ((t,.bool true)::env) σ z fun env' σ' z'=>Zdd P cx N B l sc sx Ig JX ops rest env' σ' z' K
      | false=>Zt N o.dst (.tup []) ((t,.bool true)::env) fun env'=>Zdd P cx N B l sc sx Ig JX ops rest env' σ z K)
     (match want with
      | false=>vcY1 P cx N B l sc sx Ig JX o ((t,.bool false)::env) σ z fun env' σ' z'=>Zdd P cx N B l sc sx Ig JX ops rest env' σ' z' K
      | true=>Zt N o.dst (.tup []) ((t,.bool false)::env) fun env'=>Zdd P cx N B l sc sx Ig JX ops rest env' σ z K)
    | .tup []=>Zt N o.dst (.tup []) env fun env'=>Zdd P cx N B l sc sx Ig JX ops rest env' σ z K
    | _=>False
variable {r r' : Locs} {D D' : Nat->Prop} {I I' : Imm} {w w' w0:World} {I0 Ig:Imm} {B n n' k N l:Nat} {pr pr' pr2:Nat->Obj->Prop} {h:Nat->ABlk} {P:Program} {JX:Zs->(Nat->Prop)->World->Prop} {O:Nat->Prop} {sc:Bool}
theorem YSx.liveO {z:Zs} {env:Env} {σ:St} {a:Act} (S:YSx N B Ig JX z r D I O env σ a w) (hm:Znz σ.heap=true):∀ id,(σ.get id).live=true->O (r id).blk:=by
 have H:=S.hr
 intro id hid
 have hB:B<=(r id).blk:=by
  have hb:=H.blk id
  cases hx:σ.get id with
  | row es elems mt pu =>
   have:=Zef hm hx
   subst this
   rw [hx] at hb
   obtain ⟨_,_,_,cs,T,fz,_,_,_,h7,_⟩:=hb
   exact (h7 rfl).1
  | map ents=>rw [hx] at hb; exact hb.1
  | set keys=>rw [hx] at hb; exact hb.1
  | dead=>rw [hx] at hid; simp [Wi] at hid
 by_cases ho:O (r id).blk
 ·exact ho
 ·have hlt:=(H.dom id (H.live id hid)).2
  have e1:w.heap[(r id).blk]?=some w.heap[(r id).blk]:=by simp [hlt]
  exact ((H.protK _ _ ⟨hB,ho,e1⟩).1 id hid rfl).elim
def LvY (N B:Nat) (Ig:Imm) (JX:Zs->(Nat->Prop)->World->Prop) (r:Locs) (D:Nat->Prop) (I:Imm) (w:World) (K:Env->St->Zs->Prop) (a' : Act) (w' : World):Prop :=
 ∃ env' σ' z' r' D' I' O',K env' σ' z'/\YSx N B Ig JX z' r' D' I' O' env' σ' a' w'/\Step r D I w r' D' I' w'
theorem Zto {cx:Cx} (hcx:CxOK P cx) (hI:YEnv P B Ig l sc JX) {sx:FuncId->Bool} (o:Oper) (ho:∀ c,o.op ≠ .defer c) {env:Env} {σ:St} {z:Zs} {a:Act} (S:YSx N B Ig JX z r D I O env σ a w) {K:Env->St->Zs->Prop} {Q:Exit->Act->World->Prop} {next:Act->World->Prop}
  (hv:vcY1 P cx N B l sc sx Ig JX o env σ z K) (hnext:∀ a' w',LvY N B Ig JX r D I w K a' w'->next a' w'):o.wpIn Ti 0 P a w next Q:=by
 unfold vcY1 at hv
 cases hy:Zub env o with
 | some la =>
  obtain ⟨l',aZ⟩:=la
  rw [hy] at hv
  dsimp only at hv
  split at hv
  ·rename_i x zs
   obtain ⟨e1,hm,⟨x',lv,hview,hns⟩,hs,ht,hf⟩:=hv.1
   subst e1
   unfold Zub at hy
   split at hy
   ·rename_i f args ts hop
    split at hy
    ·rename_i l2 hf2
     simp only [Qf,Rk] at hy
     obtain ⟨e3,hy⟩:=hy
     subst e3
     have hfv:=Xy S.er f
     rw [hf2] at hfv
     have hval:a.eval f = .func (.yield l2) #[] #[]:=by generalize a.eval f=q at hfv; cases hfv; rfl
     have hargs:=Xp (fun x=>Xy S.er x) args
     rw [hy] at hargs
     have hvw:=hns.vrs (Zaz S.hr hargs hview)
     have hup:∀ b o,Xe r I σ.get lv b o->Ig b o\/O b:=by
      rintro b o (hi|⟨id,_,es,elems,mt,pu,i,e,j,c,hid,_,_,rfl,_⟩)
      ·exact S.up b o hi
      ·exact .inr (S.liveO hm id (by rw [hid]; rfl))
     obtain ⟨fn,tmps,assign,body,hrun,hR⟩:=hI.round x zs O w _ _ hs S.jx (fun b o hi=>.inl (S.lo b o hi)) hup hvw
     refine ⟨Ux (.inl rfl) o a w,?_⟩
     rw [Mm _ _ _ ho]
     have hrunE:(execOp a.eval o).run P w = .ok (.round l2 fn tmps assign body) w:=by
      have:execOp a.eval o=(do let d <-resolve a.eval { callee:=.value f,args:=args,argTypes:=ts } o.type; invoke d.target d.args):=by
       unfold execOp; rw [hop]
      rw [this]
      simp [resolve,hval,Pz,invoke]
      simpa using hrun
     rw [hrunE]
     refine ⟨fun hd=>by simp [Ti] at hd,hR.mono fun e w' hh=>?_⟩
     obtain ⟨b,rfl,k1,k2,k3,hjt,hjf⟩:=hh
     cases b with
     | true =>
      obtain ⟨S2,st⟩:=S.behind hI hm k1 k2 k3 (hjt rfl)
      obtain ⟨env',hk,S3⟩:=S2.put (.bool D true) ht
      exact hnext _ _ ⟨env',σ,_,r,D,I,O,hk,S3,st⟩
     | false =>
      obtain ⟨S2,st⟩:=S.behind hI hm k1 k2 k3 (hjf rfl)
      obtain ⟨env',hk,S3⟩:=S2.put (.bool D false) hf
      exact hnext _ _ ⟨env',σ,_,r,D,I,O,hk,S3,st⟩
    ·cases hy
   ·cases hy
  ·exact hv.elim
 | none =>
  rw [hy] at hv
  dsimp only at hv
  cases hs:isSx sx env o with
  | some ga =>
   obtain ⟨g,aZ⟩:=ga
   rw [hs] at hv
   obtain ⟨⟨fn,q1,q2,q3⟩,hcall⟩:=hv.1
   unfold isSx at hs
   split at hs
   ·rename_i f args ts hop
    split at hs
    ·rename_i g' c0 c1 hf
     obtain ⟨_,hs⟩:=Zd hs
     simp only [Qf,Rk] at hs
     obtain ⟨e1,e2⟩:=hs
     subst e1 e2
     have hfv:=Xy S.er f
     rw [hf] at hfv
     obtain ⟨v0,v1,hv,k0,k1⟩:∃ v0 v1,a.eval f = .func (.func g') v0 v1/\VRs r I w D c0 v0/\VRs r I w D c1 v1:=by
      generalize a.eval f=z at hfv
      cases hfv with
      | func _ _ _ _ v0 v1 h0 h1 g0 g1=>exact ⟨v0,v1,rfl,⟨h0,g0⟩,⟨h1,g1⟩⟩
     have hargs:=Xp (fun x=>Xy S.er x) args
     have hvs:=(k0.append hargs).append k1
     refine ⟨Ux (.inl rfl) o a w,?_⟩
     rw [Mm _ _ _ ho]
     have hrunE:(execOp a.eval o).run P w = .ok (.enter g' ((v0++args.map a.eval)++v1)) w:=by
      have:execOp a.eval o=(do let d <-resolve a.eval { callee:=.value f,args:=args,argTypes:=ts } o.type; invoke d.target d.args):=by
       unfold execOp; rw [hop]
      rw [this]
      have q2' : ¬ fn.name = "runtime.NumGoroutine" := by simpa using q2
      have q3' : ¬ fn.body=none:=by intro h; rw [h] at q3; simp at q3
      simp [resolve,hv,Pz,invoke,callFunc,q1,q2',q3']
     rw [hrunE]
     refine ⟨fun hd=>by simp [Ti] at hd,?_⟩
     refine (hcall r D I O w _ S.hr S.ho S.lo S.up S.jx hvs).mono fun e w' hh=>?_
     obtain ⟨x,v,σ',z',r',D',I',O',rfl,hk,H',ho',lo',up',jx',V',st⟩:=hh
     have S2:YSx N B Ig JX z' r' D' I' O' env σ' a w':=⟨H',ho',lo',up',S.er.mono st,jx',S.df⟩
     obtain ⟨env',hk',S3⟩:=S2.put V' hk
     exact hnext _ _ ⟨env',σ',z',r',D',I',O',hk',S3,st⟩
    ·cases hs
   ·cases hs
  | none =>
   rw [hs] at hv
   refine Zd8 hcx (.inl rfl) o ho (pr:=prO B O w) (w0:=w) (I0:=I) ⟨S.hr,S.er⟩ hv (fun a' w' hl=>?_)
   obtain ⟨env',σ',r',D',I',O',hk,S',st⟩:=S.step hI hl
   exact hnext _ _ ⟨env',σ',z,r',D',I',O',hk,S',st⟩
theorem Zdc {cx:Cx} (hcx:CxOK P cx) (hI:YEnv P B Ig l sc JX) {sx:FuncId->Bool} (ops:List Oper) {Q:Exit->Act->World->Prop} {K:Env->St->Zs->Prop}:∀ (os:List Oper),Ya os=true->∀ {r:Locs} {D:Nat->Prop} {I:Imm} {O:Nat->Prop} {w:World} {env:Env} {σ:St} {z:Zs} {a:Act},
  YSx N B Ig JX z r D I O env σ a w->Zdd P cx N B l sc sx Ig JX ops os env σ z K->(∀ a' w',LvY N B Ig JX r D I w K a' w'->Q .normal a' w')->wpListIn Ti 0 P ops.toArray Q os a w
 | [],_,r,D,I,O,w,env,σ,z,a,S,hvc,hq=>hq _ _ ⟨env,σ,z,r,D,I,O,hvc,S,Pf _ _ _ _⟩
 | o::rest,hd,r,D,I,O,w,env,σ,z,a,S,hvc,hq=>by
  simp only [Ya,Qc] at hd
  obtain ⟨hd1,hd2⟩:=hd
  have ho:∀ c,o.op ≠ .defer c:=fun c e=>by rw [e] at hd1; simp at hd1
  have run:∀ env',YSx N B Ig JX z r D I O env' σ a w->vcY1 P cx N B l sc sx Ig JX o env' σ z (fun env' σ' z'=>Zdd P cx N B l sc sx Ig JX ops rest env' σ' z' K)->o.wpIn Ti 0 P a w (wpListIn Ti 0 P ops.toArray Q rest) Q:=by
   intro env' S' hv
   refine Zto hcx hI o ho S' hv (fun a' w' hl=>?_)
   obtain ⟨env2,σ2,z2,r2,D2,I2,O2,h1,h2,h3⟩:=hl
   refine Zdc hcx hI ops rest hd2 h2 h1 (fun a3 w3 hl3=>hq _ _ ?_)
   obtain ⟨env3,σ3,z3,r3,D3,I3,O3,g1,g2,g3⟩:=hl3
   exact ⟨env3,σ3,z3,r3,D3,I3,O3,g1,g2,h3.trans g3⟩
  have skip:∀ env',YSx N B Ig JX z r D I O env' σ a w->(Zt N o.dst (.tup []) env' fun env'=>Zdd P cx N B l sc sx Ig JX ops rest env' σ z K)->(∀ f,o.about P w a.eval=some f->Fence.wide.fn f)/\wpListIn Ti 0 P ops.toArray Q rest (a.put o.dst undef) w:=by
   intro env' S' hv
   refine ⟨Ux (.inl rfl) o a w,?_⟩
   obtain ⟨env2,h1,h2⟩:=S'.put (x:=undef) (VR.tup D [] #[] rfl (fun i c v hc=>by cases hc)) hv
   exact Zdc hcx hI ops rest hd2 h2 h1 hq
  simp only [Zdd] at hvc
  cases hg:o.guard with
  | none =>
   rw [hg] at hvc
   refine wpListIn_step fun K0 hK=>?_
   simp only [Pq,hg,if_true]
   have:=run env S hvc
   refine ⟨this.1,?_⟩
   exact Zis hK this.2
  | some jw =>
   obtain ⟨j,want⟩:=jw
   rw [hg] at hvc
   dsimp only at hvc
   cases ht:Yq ops j with
   | none=>rw [ht] at hvc; exact hvc.elim
   | some t =>
    rw [ht] at hvc
    dsimp only at hvc
    have htv:=S.er.2 t
    have hput:∀ b,env.get t = .bool b->YSx N B Ig JX z r D I O ((t,.bool b)::env) σ a w:=fun b hb=>⟨S.hr,S.ho,S.lo,S.up,⟨S.er.1,fun i=>by
     rw [Pg]
     by_cases e:i=t
     ·subst e; rw [if_pos rfl,<-hb]; exact htv
     ·rw [if_neg e]; exact S.er.2 i⟩,S.jx,S.df⟩
    unfold wpListIn
    have hwant:Pq o (yielded ops.toArray a.tmps)=(yielded ops.toArray a.tmps j==some want):=by simp [Pq,hg]
    rw [hwant]
    by_cases hts:t<a.tmps.size
    ·rw [Zg1 ht a hts]
     split at hvc
     ·rename_i b hb
      have hval:a.tmps.getD t undef = .bool b:=by
       rw [hb] at htv
       generalize a.tmps.getD t undef=z at htv
       cases htv; rfl
      rw [hval]
      dsimp only
      rcases Mv hvc with ⟨rfl,hv⟩|⟨rfl,hv⟩
      ·cases want
       ·simp only [show (some true==some false)=false from rfl,Rs,if_false]
        exact skip _ (hput _ hb) hv
       ·simp only [show (some true==some true)=true from rfl,if_true]
        exact run _ (hput _ hb) hv
      ·cases want
       ·simp only [show (some false==some false)=true from rfl,if_true]
        exact run _ (hput _ hb) hv
       ·simp only [show (some false==some true)=false from rfl,Rs,if_false]
        exact skip _ (hput _ hb) hv
     ·rename_i hb
      have hval:∃ vs,a.tmps.getD t undef = .tuple vs:=by
       rw [hb] at htv
       generalize a.tmps.getD t undef=z at htv
       cases htv; exact ⟨_,rfl⟩
      obtain ⟨vs,hval⟩:=hval
      rw [hval]
      dsimp only
      rw [if_neg (by simp)]
      exact skip _ S hvc
     ·exact hvc.elim
    ·have hval:a.tmps.getD t undef=undef:=by simp [Qy,Nj.1 hts]
     rw [hval] at htv
     split at hvc
     ·rename_i b hb
      rw [hb] at htv
      cases htv
     ·have:yielded ops.toArray a.tmps j=none:=by
       unfold yielded
       have:(ops.toArray[j]?).bind (·.dst)=some t:=by simpa [Yq] using ht
       rw [this]
       simp [Nj.1 hts]
      rw [this,if_neg (by simp)]
      exact skip _ S hvc
     ·exact hvc.elim
def vcYC (P:Program) (cx:Cx) (pc:PC) (N B l:Nat) (sc:Bool) (sx:FuncId->Bool) (Ig:Imm) (JX:Zs->(Nat->Prop)->World->Prop) (lp:Code->Env->St->Zs->IQ->Prop):Code->Env->St->Zs->IQ->Prop
 | .skip,env,σ,z,Q=>Q .normal env σ z
 | .region _ ops draw,env,σ,z,Q=>match draw with
  | false=>cond (Ya ops.toList) (Zdd P cx N B l sc sx Ig JX ops.toList ops.toList env σ z (Q .normal)) False
  | true=>Zeo cx pc N ops.toList env σ fun env' σ'=>Q .normal env' σ' z
 | .seq x y,env,σ,z,Q=>vcYC P cx pc N B l sc sx Ig JX lp x env σ z (seqI (fun env' σ' z'=>vcYC P cx pc N B l sc sx Ig JX lp y env' σ' z' Q) Q)
 | .cond c x y,env,σ,z,Q=>match evA env c with
  | .bool b=>Br b (fEnv (setC env c true) fun env=>vcYC P cx pc N B l sc sx Ig JX lp x env σ z Q) (fEnv (setC env c false) fun env=>vcYC P cx pc N B l sc sx Ig JX lp y env σ z Q)
  | _=>False
 | .block id c,env,σ,z,Q=>vcYC P cx pc N B l sc sx Ig JX lp c env σ z (Zlq id Q)
 | .loop c,env,σ,z,Q=>lp c env σ z Q
 | .exit id,env,σ,z,Q=>Q (.exit id) env σ z
 | .ret,env,σ,z,Q=>Q .ret env σ z
 | _,_,_,_,_=>False
theorem YSx.setC {z:Zs} {env:Env} {σ:St} {a:Act} {c:Operand} {b:Bool} (S:YSx N B Ig JX z r D I O env σ a w) (hc:evA env c = .bool b):YSx N B Ig JX z r D I O (Sx.setC env c b) σ a w:=by
 cases c with
 | tmp t =>
  refine ⟨S.hr,S.ho,S.lo,S.up,⟨S.er.1,fun i=>?_⟩,S.jx,S.df⟩
  simp only [Sx.setC,Pg]
  by_cases e:i=t
  ·subst e; rw [if_pos rfl,<-hc]; exact S.er.2 i
  ·rw [if_neg e]; exact S.er.2 i
 | _=>exact S
theorem Zaw {cx:Cx} (hcx:CxOK P cx) {pc:PC} (hpc:PCOK P pc) (hm:P.follows .mixedOrders=true) (hI:YEnv P B Ig l sc JX) {sx:FuncId->Bool} {lp:Code->Env->St->Zs->IQ->Prop} (hlp:∀ c env σ z Q,lp c env σ z Q->AwpY P N B Ig JX (.loop c) env σ z Q) :
  ∀ (c:Code) (env:Env) (σ:St) (z:Zs) (Q:IQ),vcYC P cx pc N B l sc sx Ig JX lp c env σ z Q->AwpY P N B Ig JX c env σ z Q
 | .skip,env,σ,z,Q,hv=>fun r D I O a w S=>wpIn_skip ⟨env,σ,z,r,D,I,O,hv,S,Pf _ _ _ _⟩
 | .region id ops draw,env,σ,z,Q,hv=>by
  cases draw with
  | true =>
   intro r D I O a w S
   simp only [vcYC] at hv
   refine Zly hcx hpc hm (.inl rfl) id ops (pr:=prO B O w) (w0:=w) (I0:=I) hv ⟨S.hr,S.er⟩ (fun a' w' hl=>?_)
   obtain ⟨env',σ',r',D',I',O',hk,S',st⟩:=S.step hI hl
   exact ⟨env',σ',z,r',D',I',O',hk,S',st⟩
  | false =>
   intro r D I O a w S
   simp only [vcYC] at hv
   cases hno:Ya ops.toList with
   | false=>rw [hno] at hv; exact hv.elim
   | true =>
    rw [hno] at hv
    refine wpIn_region_list ?_
    exact Zdc hcx hI ops.toList (Q:=PY N B Ig JX r D I w Q) ops.toList hno S hv (fun a' w' hl=>hl)
 | .seq x y,env,σ,z,Q,hv=>by
  intro r D I O a w S
  simp only [vcYC] at hv
  refine wpIn_seq (Ru (fun e a' w' h=>?_) (Zaw hcx hpc hm hI hlp x env σ z _ hv r D I O a w S))
  obtain ⟨env',σ',z',r',D',I',O',hq,S',st⟩:=h
  cases e with
  | normal=>exact Ru (fun e a2 w2 ⟨env2,σ2,z2,r2,D2,I2,O2,q2,S2,st2⟩=>⟨env2,σ2,z2,r2,D2,I2,O2,q2,S2,st.trans st2⟩) (Zaw hcx hpc hm hI hlp y env' σ' z' Q hq r' D' I' O' a' w' S')
  | exit id=>exact ⟨env',σ',z',r',D',I',O',hq,S',st⟩
  | goto l=>exact ⟨env',σ',z',r',D',I',O',hq,S',st⟩
  | ret=>exact ⟨env',σ',z',r',D',I',O',hq,S',st⟩
  | panic ch=>exact ⟨env',σ',z',r',D',I',O',hq,S',st⟩
  | outgrown=>exact ⟨env',σ',z',r',D',I',O',hq,S',st⟩
 | .cond c x y,env,σ,z,Q,hv=>by
  intro r D I O a w S
  simp only [vcYC,Zqs] at hv
  split at hv
  ·rename_i b hb
   have hc:=Xy S.er c
   rw [hb] at hc
   have hcv:a.eval c = .bool b:=by generalize a.eval c=z at hc; cases hc; rfl
   rcases Mv hv with ⟨rfl,h⟩|⟨rfl,h⟩
   ·exact wpIn_cond_true hcv (Zaw hcx hpc hm hI hlp x _ σ z Q h r D I O a w (S.setC hb))
   ·exact wpIn_cond_false hcv (Zaw hcx hpc hm hI hlp y _ σ z Q h r D I O a w (S.setC hb))
  ·exact hv.elim
 | .block id c,env,σ,z,Q,hv=>by
  intro r D I O a w S
  simp only [vcYC] at hv
  refine wpIn_block (Ru (fun e a' w' h=>?_) (Zaw hcx hpc hm hI hlp c env σ z _ hv r D I O a w S))
  obtain ⟨env',σ',z',r',D',I',O',hq,S',st⟩:=h
  cases e with
  | exit id' =>
   by_cases hid:id'=id
   ·subst hid
    simp only [Mg,if_true]
    exact ⟨env',σ',z',r',D',I',O',by simpa [Zlq] using hq,S',st⟩
   ·simp only [Mg,hid,if_false]
    have:Qs id' id=false:=by rw [Bool.eq_false_iff]; intro hb; exact hid (Qh hb)
    exact ⟨env',σ',z',r',D',I',O',by simpa [Zlq,this] using hq,S',st⟩
  | normal=>exact ⟨env',σ',z',r',D',I',O',hq,S',st⟩
  | goto l=>exact ⟨env',σ',z',r',D',I',O',hq,S',st⟩
  | ret=>exact ⟨env',σ',z',r',D',I',O',hq,S',st⟩
  | panic ch=>exact ⟨env',σ',z',r',D',I',O',hq,S',st⟩
  | outgrown=>exact ⟨env',σ',z',r',D',I',O',hq,S',st⟩
 | .loop c,env,σ,z,Q,hv=>hlp c env σ z Q hv
 | .exit id,env,σ,z,Q,hv=>fun r D I O a w S=>wpIn_exit ⟨env,σ,z,r,D,I,O,hv,S,Pf _ _ _ _⟩
 | .ret,env,σ,z,Q,hv=>fun r D I O a w S=>wpIn_ret ⟨env,σ,z,r,D,I,O,hv,S,Pf _ _ _ _⟩
 | .rangeFunc _ _ _ _,_,_,_,_,hv=>hv.elim
 | .scope _,_,_,_,_,hv=>hv.elim
 | .label _,_,_,_,_,hv=>hv.elim
 | .goto _,_,_,_,_,hv=>hv.elim
 | .refuse _,_,_,_,_,hv=>hv.elim
variable {r r' : Locs} {D D' : Nat->Prop} {I I' : Imm} {w w' w0:World} {I0 Ig:Imm} {B n n' k N l:Nat} {pr pr' pr2:Nat->Obj->Prop} {h:Nat->ABlk} {P:Program} {JX:Zs->(Nat->Prop)->World->Prop} {O:Nat->Prop} {sc:Bool}
theorem YSx.rename {n0:Nat} {z:Zs} {env env' : Env} {σ σ' : St} {a:Act} (S:YSx N B Ig JX z r D I O env σ a w) (hr:Ren n0 env σ env' σ') :
  ∃ r2 D2,YSx N B Ig JX z r2 D2 I O env' σ' a w/\∀ id,id<n0->D id->D2 id/\r2 id=r id:=by
 obtain ⟨r2,D2,H2,k2,e2⟩:=S.hr.rename (N:=N) hr
 exact ⟨r2,D2,⟨H2,S.ho,S.lo,S.up,e2 _ S.er,S.jx,S.df⟩,k2⟩
def Zzf (P:Program) (N B:Nat) (Ig:Imm) (JX:Zs->(Nat->Prop)->World->Prop) (n0:Nat) (c:Code) (Q:IQ):Nat->Env->St->Zs->Prop
 | 0,_,_,_=>False
 | m+1,env,σ,z=>AwpY P N B Ig JX c env σ z (seqI (fun env' σ' z'=>∃ env2 σ2,Ren n0 env' σ' env2 σ2/\Zzf P N B Ig JX n0 c Q m env2 σ2 z') Q)
theorem Zt7 {n0:Nat} {c:Code} {Q:IQ} (hd0:∀ id,D id->id<n0):∀ (m:Nat) (env:Env) (σ:St) (z:Zs) (r1:Locs) (D1:Nat->Prop) (I1:Imm) (O1:Nat->Prop) (a1:Act) (w1:World),Zzf P N B Ig JX n0 c Q m env σ z ->
  YSx N B Ig JX z r1 D1 I1 O1 env σ a1 w1->Step r D I w r1 D1 I1 w1->Code.roundsIn Ti 0 P c (PY N B Ig JX r D I w Q) m a1 w1:=by
 intro m
 induction m with
 | zero=>intro env σ z r1 D1 I1 O1 a1 w1 hv; exact hv.elim
 | succ m ih =>
  intro env σ z r1 D1 I1 O1 a1 w1 hv S st
  refine Ru (fun e a2 w2 hp=>?_) (hv r1 D1 I1 O1 a1 w1 S)
  obtain ⟨env2,σ2,z2,r2,D2,I2,O2,q2,s2,t2⟩:=hp
  have hout:∀ e',Q e' env2 σ2 z2->PY N B Ig JX r D I w Q e' a2 w2:=fun e' hq=>⟨env2,σ2,z2,r2,D2,I2,O2,hq,s2,st.trans t2⟩
  cases e with
  | normal =>
   obtain ⟨env3,σ3,hfr,q3⟩:=q2
   obtain ⟨r3,D3,s3,k3⟩:=s2.rename hfr
   exact ih env3 σ3 z2 r3 D3 I2 O2 a2 w2 q3 s3 ((st.trans t2).rename hd0 k3)
  | exit id=>exact hout _ q2
  | goto l=>exact hout _ q2
  | ret=>exact hout _ q2
  | panic ch=>exact hout _ q2
  | outgrown=>exact hout _ q2
inductive YLp (P:Program) (N B:Nat) (Ig:Imm) (JX:Zs->(Nat->Prop)->World->Prop) (c:Code) (env:Env) (σ:St) (z:Zs) (Q:IQ):Prop
 | mk (h:AwpY P N B Ig JX (.loop c) env σ z Q):YLp P N B Ig JX c env σ z Q
instance {c:Code} {env:Env} {σ:St} {z:Zs} {Q:IQ}:Stop (YLp P N B Ig JX c env σ z Q):=⟨trivial⟩
instance {f:FuncId} {args:List AV} {σ:St} {z:Zs} {K:AV->St->Zs->Prop}:Stop (YCt P B Ig JX f args σ z K):=⟨trivial⟩
instance {p:Prop}:Stop (Yd p):=⟨trivial⟩
theorem AwpY.mono {c:Code} {env:Env} {σ:St} {z:Zs} {Q1 Q2:IQ} (hq:∀ e env σ z,Q1 e env σ z->Q2 e env σ z) (h:AwpY P N B Ig JX c env σ z Q1):AwpY P N B Ig JX c env σ z Q2 :=
 fun r D I O a w S=>Ru (fun e a' w' ⟨env',σ',z',r',D',I',O',q,S',st⟩=>⟨env',σ',z',r',D',I',O',hq _ _ _ _ q,S',st⟩) (h r D I O a w S)
theorem Ygt {S:Type} (μ:S->Nat) (E:S->Env) (Z:S->List (Nat × ABlk)) (zf:S->Zs) (n0:Nat) (n1:S->Nat) (G:S->Prop) {c:Code} {Q:IQ} (s:S) (hs:G s) {env:Env} {σ:St} {z:Zs} (hn:σ.next<=n0) (hz:z=zf s) (fl0:List (Nat × Nat))
  (h1:(okF n0 fl0&&Zf8 n0 fl0 (Z s)&&imgF n0 fl0&&Su n0 (n1 s))=true) (h2:RenE (fOf fl0) (n1 s) env (E s)) (h3:RenH (fOf fl0) (n1 s) σ.get (Z s))
  (step:∀ s,G s->AwpY P N B Ig JX c (E s) ⟨Z s,n1 s⟩ (zf s) (seqI (fun env' σ' z'=>Done (∃ s' fl,(okF n0 fl&&Zf8 n0 fl (Z s')&&imgF n0 fl&&Su n0 (n1 s'))=true/\RenE (fOf fl) (n1 s') env' (E s')/\RenH (fOf fl) (n1 s') σ'.get (Z s')/\z'=zf s'/\G s'/\μ s'<μ s)) Q)):YLp P N B Ig JX c env σ z Q:=by
 subst hz
 have key:∀ n s,μ s<n->G s->Zzf P N B Ig JX n0 c Q n (E s) ⟨Z s,n1 s⟩ (zf s):=by
  intro n
  induction n with
  | zero=>intro s h; omega
  | succ n ih =>
   intro s h hg
   refine (step s hg).mono fun e env' σ' z' hq=>?_
   cases e with
   | normal =>
    obtain ⟨s',fl,k1,k2,k3,rfl,g',m'⟩:=hq.1
    exact ⟨E s',⟨Z s',n1 s'⟩,Pn fl k1 k2 k3,ih s' (by omega) g'⟩
   | exit id=>exact hq
   | goto l=>exact hq
   | ret=>exact hq
   | panic ch=>exact hq
   | outgrown=>exact hq
 refine ⟨fun r D I O a w S=>?_⟩
 have hr:=Pn (n1:=n1 s) fl0 h1 h2 h3
 obtain ⟨r2,D2,S2,k2⟩:=S.rename hr
 have hd0:∀ id,D id->id<n0:=fun id hd=>by have:=(S.hr.dom id hd).1; omega
 refine wpIn_loop_rounds (μ s+1) ?_
 exact Zt7 hd0 (μ s+1) (E s) ⟨Z s,n1 s⟩ (zf s) r2 D2 I O a w (key (μ s+1) s (by omega) hs) S2 ((Pf _ _ _ _).rename hd0 k2)
variable (Bs:Base P)
abbrev Base.ycode (Bs:Base P) (pc:PC) (N B l:Nat) (sc:Bool) (sx:FuncId->Bool) (Ig:Imm) (JX:Zs->(Nat->Prop)->World->Prop):Code->Env->St->Zs->IQ->Prop:=vcYC P (cxV P Bs.T Bs.ok (fun _=>false) pc) pc N B l sc sx Ig JX (fun c env σ z Q=>YLp P N B Ig JX c env σ z Q)
theorem Base.yv {pc:PC} (hpc:PCOK P pc) (hI:YEnv P B Ig l sc JX) {sx:FuncId->Bool} {c:Code} {env:Env} {σ:St} {z:Zs} {Q:IQ} (hv:Bs.ycode pc N B l sc sx Ig JX c env σ z Q):AwpY P N B Ig JX c env σ z Q :=
 Zaw (Zgn Bs.hT Bs.hok hpc) hpc Bs.hm hI (fun _ _ _ _ _ h=>h.1) c env σ z Q hv
def retY (T:Tab) (rs:List ResultVar) (K:AV->St->Zs->Prop):IQ
 | .normal,env,σ,z=>Got (Zb7 T env σ.get rs) fun vs=>fA (resV vs) fun v=>K v σ z
 | .ret,env,σ,z=>Got (Zb7 T env σ.get rs) fun vs=>fA (resV vs) fun v=>K v σ z
 | _,_,_,_=>False
theorem Ye0 {fn:Func} {args:List AV} {vs:Array Value} (hargs:VRs r I w D args vs) (hle:args.length<=fn.ntmps):ER r I w D fn.ntmps (env0 0 args) (vs++Pe (fn.ntmps-vs.size) undef):=by
 have hsz:vs.size=args.length:=hargs.1
 refine ⟨by simp; omega,fun i=>?_⟩
 rw [Zii]
 simp only [Qp,if_true,Oo]
 cases hi:args[i]? with
 | none=>simp; exact .any _ _
 | some v =>
  have hlt:i<vs.size:=by rw [hsz]; exact (Qi.1 hi).1
  have:=hargs.2 i v vs[i] hi (by simp [hlt])
  simpa [Qy,Array.getElem?_append,hlt] using this
theorem Zyy {T:Tab} (hT:TabOK P T) {f:FuncId} {fn:Func} {c:Code} (hf:P.funcs[f]?=some fn) (hb:fn.body=some c) {args:List AV} (hle:Su args.length fn.ntmps=true) {σ:St} {z:Zs} {K:AV->St->Zs->Prop}
  (hv:AwpY P fn.ntmps B Ig JX c (env0 0 args) σ z (retY T fn.results.toList K)):Zth P B Ig JX f args σ z K:=by
 intro r D I O w vs H ho lo up jx hargs
 have hle:=Qm hle
 refine callsIn_of_wp_marks hf hb trivial ?_
 have S:YSx fn.ntmps B Ig JX z r D I O (env0 0 args) σ { tmps:=vs++Pe (fn.ntmps-vs.size) undef,defers:=[] } w:=⟨H,ho,lo,up,Ye0 hargs hle,jx,rfl⟩
 refine Ru (fun e a' w' hp=>?_) (hv r D I O _ w S)
 obtain ⟨env',σ',z',r',D',I',O',hq,S',st⟩:=hp
 have fin:(Got (Zb7 T env' σ'.get fn.results.toList) fun vs=>fA (resV vs) fun v=>K v σ' z')->LeavesInM Ti 0 P fn a'.tmps (fun e w'=>∃ x v σ' z' r' D' I' O',e = .returned x/\K v σ' z'/\HR B w' I' (prO B O' w') r' I' D' σ'.get σ'.next w'/\(∀ b,O' b->B<=b/\b<w'.heap.size)/\(∀ b o,Ig b o->I' b o)/\(∀ b o,I' b o->Ig b o\/O' b)/\JX z' O' w'/\VR r' I' w' D' v x/\Step r D I w r' D' I' w') a'.defers .returning w':=by
  intro hg
  obtain ⟨us,hus,hk⟩:=Got.cases hg
  rw [Zow] at hk
  obtain ⟨x,h1,h2⟩:=Zfa hT S'.hr S'.er hus
  rw [S'.df]
  exact ⟨x,h1,x,resV us,σ',z',r',D',I',O',rfl,hk,S'.hr,S'.ho,S'.lo,S'.up,S'.jx,h2,st⟩
 cases e with
 | normal=>exact fin hq
 | ret=>exact fin hq
 | _=>exact hq.elim
theorem Zqb {T:Tab} (hT:TabOK P T) {g:FuncId} {fn:Func} {c:Code} (hf:P.funcs[g]?=some fn) (hfn:FnOK P g) (hb:fn.body=some c) {c0 c1:List AV} {xs:List (List AV)} (hle:Su (c0.length+1+c1.length) fn.ntmps=true)
  (hv:∀ (B:Nat) (Ig:Imm) (l:Nat) (JX:Zs->(Nat->Prop)->World->Prop),YEnv P B Ig l true JX->AwpY P fn.ntmps B Ig JX c (env0 0 ((c0++[Jj l])++c1)) ⟨[],0⟩ (some xs)
   (retY T fn.results.toList fun _ _ z=>Done (z=some []\/z=none))):ItOK P g c0 c1 xs:=by
 refine ⟨hfn,fun I W v0 v1 l J X hlt hv0 hv1 R J0=>?_⟩
 let JX:Zs->(Nat->Prop)->World->Prop:=fun z O w=>match z with
  | some zs=>∃ i,i<=xs.length/\xs.drop i=zs/\J i O w
  | none=>X O w
 have hI:ItEnv P W.heap.size I l JX:=by
  refine ⟨hlt,fun z O w w' hj hc=>?_,fun x zs O w ys hj hvx=>?_⟩
  ·cases z with
   | none=>exact R.growX O w w' hj hc
   | some zs=>obtain ⟨i,h1,h2,h3⟩:=hj; exact ⟨i,h1,h2,R.grow i O w w' h3 hc⟩
  ·obtain ⟨i,h1,h2,h3⟩:=hj
   have hx:xs[i]?=some x:=by
    have:=congrArg (fun l=>l[0]?) h2
    simpa [Rz] using this
   have hil:=(Qi.1 hx).1
   obtain ⟨fn',tmps,assign,body,q1,q2⟩:=R.round i x O w ys hx h3 hvx
   refine ⟨fn',tmps,assign,body,q1,q2.mono fun e w' hh=>?_⟩
   obtain ⟨b,p1,p2,p3,p4,p5,p6⟩:=hh
   refine ⟨b,p1,p2,p3,p4,fun hb=>⟨i+1,hil,?_,p5 hb⟩,p6⟩
   have:=congrArg List.tail h2
   simpa using this
 have hargs:VRs r0 I W (fun _=>False) ((c0++[Jj l])++c1) ((v0 ++ #[Value.func (.yield l) #[] #[]])++v1) :=
  (hv0.append ⟨rfl,fun i c v hc hv'=>by
   cases i with
   | zero=>simp at hc hv'; subst hc; subst hv'; exact .yld _ _
   | succ i=>simp at hc⟩).append hv1
 have H:HR W.heap.size W I (prO W.heap.size (fun _=>False) W) r0 I (fun _=>False) (Oh ⟨[],0⟩) 0 W:=by
  refine ⟨Kv _ _,Qd _,hlt,fun _ h=>h.elim,fun id h=>by simp [Oh,hget,Wi] at h,fun id=>by simp [Oh,hget,BlkOK],fun id id' h=>by simp [Oh,hget,Wi] at h,fun b o hp=>?_,fun b o hp=>?_,fun _ _ h=>.inl h⟩
  ·obtain ⟨h1,_,h2⟩:=hp
   have:=(Qt.1 h2).1
   omega
  ·obtain ⟨h1,_,h2⟩:=hp
   have:=(Qt.1 h2).1
   omega
 have hlen:((c0++[Jj l])++c1).length=c0.length+1+c1.length:=by simp; omega
 refine (Zyy hT hf hb (by rw [hlen]; exact hle) (hv _ _ _ _ hI.toY) r0 (fun _=>False) I (fun _=>False) W _ H (fun b hb=>hb.elim) (fun _ _ h=>h) (fun _ _ h=>.inl h) ⟨0,Qp _,rfl,J0⟩ hargs).mono fun e w' hh=>?_
 obtain ⟨x,v,σ',z',r',D',I',O',he,hk,_,_,_,_,hj,_,_⟩:=hh
 refine ⟨x,he,?_⟩
 rcases hk.1 with rfl|rfl
 ·obtain ⟨i,q1,q2,q3⟩:=hj
  have:i=xs.length:=by
   have:=congrArg List.length q2
   simp at this; omega
  subst this
  exact .inl ⟨O',q3⟩
 ·exact .inr ⟨O',hj⟩
theorem Base.yiter {pc:PC} (hpc:PCOK P pc) {g:FuncId} {fn:Func} {c:Code} (hf:P.funcs[g]?=some fn) (h1:(fn.name == "runtime.NumGoroutine")=false) (hb:fn.body=some c) {c0 c1:List AV} {xs:List (List AV)} (hle:Su (c0.length+1+c1.length) fn.ntmps=true) {sx:FuncId->Bool}
  (hv:∀ (B:Nat) (Ig:Imm) (l:Nat) (JX:Zs->(Nat->Prop)->World->Prop),YEnv P B Ig l true JX->Bs.ycode pc fn.ntmps B l true sx Ig JX c (env0 0 ((c0++[Jj l])++c1)) ⟨[],0⟩ (some xs) (retY Bs.T fn.results.toList fun _ _ z=>Done (z=some []\/z=none))):ItOK P g c0 c1 xs :=
 Zqb Bs.hT hf (FnOK.of hf h1 (by rw [hb]; rfl)) hb hle (fun B Ig l JX hI=>Bs.yv hpc hI (hv B Ig l JX hI))
end Go.Sx
set_option maxRecDepth 20000
namespace Go.Sx
open Go Ieee
open Go Go.RowKit
variable {P:Program} {N:Nat}
theorem Zmd {S:Type} (Z:S->List (Nat × ABlk)) (n0:Nat) (n1:S->Nat) (G:List (List AV)->S->Prop) {ps:List Tmp} {a b:Code} {env:Env} {Q:Exit->Env->St->Prop}
  (step:∀ x xs s,G (x::xs) s->x.length=ps.length/\Awp P N a (Zfx ps x env) ⟨Z s,n1 s⟩ fun e env1 σ1=>e = .normal/\Bd P N b env1 σ1 fun e _ σ2=>match e with
   | .normal=>Done (∃ s' fl,(okF n0 fl&&Zf8 n0 fl (Z s')&&imgF n0 fl&&Su n0 (n1 s'))=true/\RenH (fOf fl) (n1 s') σ2.get (Z s')/\G xs s')
   | .ret=>Q .ret env σ2
   | .exit id=>Q (.exit id) env σ2
   | _=>False)
  (fin:∀ s,G [] s->Q .normal env ⟨Z s,n1 s⟩):∀ (xs:List (List AV)) (s:S),G xs s->Zgz P N n0 ps a b env Q xs ⟨Z s,n1 s⟩
 | [],s,g=>fin s g
 | x::xs,s,g=>by
  obtain ⟨h1,h2⟩:=step x xs s g
  refine ⟨h1,h2.mono fun e env1 σ1 h=>⟨h.1,h.2.1.mono fun e2 env2 σ2 h=>?_⟩⟩
  cases e2 with
  | normal =>
   obtain ⟨s',fl,k1,k2,g'⟩:=h.1
   exact ⟨⟨Z s',n1 s'⟩,.inr (Pn (env':=[]) fl k1 trivial k2),Zmd Z n0 n1 G step fin xs s' g'⟩
  | exit id=>exact h
  | goto l=>exact h
  | ret=>exact h
  | panic ch=>exact h
  | outgrown=>exact h
theorem Zng {h:Nat->ABlk} {id len es:Nat} {elems:List (List AV)} {mt pu:Bool} (hb:h id = .row es elems mt pu) (hl:len=elems.length):Yv es h (.asl id 0 len)=some (elems,pu):=by
 unfold Yv
 dsimp only
 rw [hb]
 dsimp only
 rw [Gq,Tz,hl,List.take_length]
 rfl
theorem Xz {T:Tab} {ok:TypeId->Bool} {k:Nat} {ev:Operand->AV} {h:Nat->ABlk} {x y:Operand} {t tx e e' : TypeId} {ti tj te:TI} {id len:Nat} {elems ys:List (List AV)} {pu py:Bool} {K:AV × Eff->Prop}
  (h1:T t=some ti) (h2:T tx=some tj) (h3:ti.desc = .slice e) (h4:tj.desc = .slice e') (h5:T e=some te) (hx:ev x = .asl id 0 len) (hb:h id = .row te.size elems true pu)
  (hy:Yv te.size h (ev y)=some (ys,py)) (hbt:Su (1000000*te.bytes) 140737488355328=true) (ho:Xs ys=true) (hne:ys≠[]) (hl:len=elems.length) (hbd:elems.length+ys.length<=1000000)
  (hk:K (.asl k 0 (elems.length+ys.length),.app id (.row te.size (elems++ys) true (pu&&py)))):Got (aop T ok k ev h (.call { callee:=.builtin .append,args:=#[x,y],argTypes:=#[t,tx] })) K:=by
 have ha:aopA T ok k ev h (.call { callee:=.builtin .append,args:=#[x,y],argTypes:=#[t,tx] })=none:=rfl
 have hbb:aopB T k ev h (.call { callee:=.builtin .append,args:=#[x,y],argTypes:=#[t,tx] })=Zhp k h te (ev x) (ev y):=by
  unfold aopB
  dsimp only
  rw [h1,h2]
  dsimp only
  rw [h3,h4]
  dsimp only
  rw [h5]
 refine Got.intro (x:=(.asl k 0 (elems.length+ys.length),.app id (.row te.size (elems++ys) true (pu&&py)))) ?_ hk
 unfold aop
 rw [ha]
 dsimp only
 rw [hbb,hx]
 unfold Zhp
 rw [hy]
 cases ys with
 | nil=>exact absurd rfl hne
 | cons y0 ys =>
  dsimp only
  rw [Zng hb hl]
  dsimp only
  have b1:Su (elems.length+(y0::ys).length) 17592186044416=true:=Km (Re hbd (by decide))
  have b2:Su ((elems.length+(y0::ys).length)*te.bytes) 140737488355328=true:=Km (Re (Nat.mul_le_mul_right _ hbd) (Qm hbt))
  have b3:Qs (0+len) elems.length=true:=by rw [hl,Sk]; exact Gq _
  rw [b1,b2,hb]
  dsimp only
  rw [b3,ho]
  rfl
variable {r r' : Locs} {I I' I2:Imm} {w w' : World} {P:Program}
mutual
def Frk (bl:List (Nat × List (List AV))):AV->AV->Prop
 | .asl id idx len,.isl es els=>(bl[id]?=some (es,els)/\id≠0)/\idx=0/\len=els.length
 | .asl id idx len,.asl id' idx' len'=>id=0/\id'=0/\idx=idx'/\len=len'
 | .nils,.isl _ els=>els=[]
 | .agg cs,.agg ds=>FrkL bl cs ds
 | .tup cs,.tup ds=>FrkL bl cs ds
 | v,v'=>v=v'/\Yb v=true
def FrkL (bl:List (Nat × List (List AV))):List AV->List AV->Prop
 | [],[]=>True
 | c::cs,d::ds=>Frk bl c d/\FrkL bl cs ds
 | _,_=>False
end
variable {P:Program} {N:Nat}
def newF (n0:Nat) (fl:List (Nat × Nat)) (l:List (Nat × ABlk)):Bool:=fl.all fun p=>Su n0 p.2||l.all fun q=>!Nat.beq q.1 p.2
theorem Ren.of2 {n0:Nat} {env env' : Env} {σ:St} {heap' : List (Nat × ABlk)} {n1:Nat} (fl:List (Nat × Nat)) (h1:(okF n0 fl&&Zf8 n0 fl heap'&&newF n0 fl heap'&&Su n0 n1)=true) (h2:RenE (fOf fl) n1 env env') (h3:RenH (fOf fl) n1 σ.get heap'):Ren n0 env σ env' ⟨heap',n1⟩:=by
 simp only [Qc] at h1
 obtain ⟨⟨⟨o1,o2⟩,o3⟩,o4⟩:=h1
 have live:∀ j,(Oh ⟨heap',n1⟩ j).live=true->(j,hget heap' j)∈heap':=fun j hl=>Zmt heap' j hl
 have img:∀ {a b j:Nat},(a,b)∈fl->(j,hget heap' j)∈heap'->j<n0->j=b->False:=fun {a b j} hm hk hj e=>by
  have:=Rf.1 o3 _ hm
  rw [Bool.or_eq_true] at this
  rcases this with h|h
  ·have:=Qm h; dsimp only at this; omega
  ·have:=Rf.1 h _ hk
   subst e
   simp at this
 refine ⟨fOf fl,Zbf o1,h2.get,fun j hl=>?_,fun j=>?_,fun j j' hl hl' e=>?_,Qm o4⟩
 ·have:=h3.mem (live j hl)
  exact ⟨by simpa [Th] using this.1,this.2.1⟩
 ·by_cases hl:(Oh ⟨heap',n1⟩ j).live=true
  ·exact (h3.mem (live j hl)).2.2
  ·have:Oh ⟨heap',n1⟩ j = .dead:=by cases hx:Oh ⟨heap',n1⟩ j<;>simp_all [Wi]
   rw [this]; trivial
 ·rcases Zdx o2 (live j hl) with k1|⟨y,k1⟩<;>rcases Zdx o2 (live j' hl') with k2|⟨y',k2⟩
  ·rwa [Zbf o1 j k1,Zbf o1 j' k2] at e
  ·rw [Zbf o1 j k1,Zcv o1 k2] at e; exact (img k2 (live j hl) k1 e).elim
  ·rw [Zcv o1 k1,Zbf o1 j' k2] at e; exact (img k1 (live j' hl') k2 e.symm).elim
  ·rw [Zcv o1 k1,Zcv o1 k2] at e; subst e; exact Zp7 o1 k1 k2
theorem Ybz {S:Type} (μ:S->Nat) (E:S->Env) (Z:S->List (Nat × ABlk)) (n0 n1:Nat) (G:S->Prop) {c:Code} {Q:Exit->Env->St->Prop} (s:S) (hs:G s) {env:Env} {σ:St} (hn:σ.next<=n0) (fl0:List (Nat × Nat))
  (h1:(okF n0 fl0&&Zf8 n0 fl0 (Z s)&&newF n0 fl0 (Z s)&&Su n0 n1)=true) (h2:RenE (fOf fl0) n1 env (E s)) (h3:RenH (fOf fl0) n1 σ.get (Z s))
  (step:∀ s,G s->Awp P N c (E s) ⟨Z s,n1⟩ (seqQ (fun env' σ'=>Done (∃ s' fl,(okF n0 fl&&Zf8 n0 fl (Z s')&&newF n0 fl (Z s')&&Su n0 n1)=true/\RenE (fOf fl) n1 env' (E s')/\RenH (fOf fl) n1 σ'.get (Z s')/\G s'/\μ s'<μ s)) Q)):Lp P N c env σ Q:=by
 have key:∀ n s,μ s<n->G s->Zzg P N n0 c Q n (E s) ⟨Z s,n1⟩:=by
  intro n
  induction n with
  | zero=>intro s h; omega
  | succ n ih =>
   intro s h hg
   refine (step s hg).seqMono fun env' σ' hq=>?_
   obtain ⟨s',fl,k1,k2,k3,g',m'⟩:=hq.1
   exact ⟨E s',⟨Z s',n1⟩,.inr (Ren.of2 fl k1 k2 k3),ih s' (by omega) g'⟩
 refine ⟨fun F B w0 I0 pr r I D a w hF hR S=>?_⟩
 have hr:=Ren.of2 (n1:=n1) fl0 h1 h2 h3
 obtain ⟨r2,D2,H2,k2,e2⟩:=S.hr.rename (N:=N) hr
 have hd0:∀ id,D id->id<n0:=fun id hd=>by have:=(S.hr.dom id hd).1; omega
 refine wpIn_loop_rounds (μ s+1) ?_
 exact Zf6 hF hR hd0 (μ s+1) (E s) ⟨Z s,n1⟩ pr r2 I D2 a w [] (fun _ _ h=>h) (fun d hd=>by simp at hd) .nil (by simp) (key (μ s+1) s (by omega) hs) ⟨H2,e2 _ S.er⟩ ((Pf _ _ _ _).rename hd0 k2) (Qd _)
variable {P:Program}
theorem PCall.frzFns {f:FuncId} {args:List AV} {g:FuncId} {rows:List (Nat × List AV)} {ks:List (Nat × List AV)} (hk:∀ q∈ks,∃ es,rows[q.1]?=some (es,q.2)) (h:PCall P f args ⟨.func g [] (ks.map fun q=>.ptr q.1 0 0),rows.map fun q=>(q.1,[q.2])⟩):PCall P f args ⟨.func g [] (ks.map fun q=>.ipt q.2),[]⟩:=by
 refine ⟨h.1,fun I w vs hI hv=>(h.2 I w vs hI hv).mono fun e w' hh=>?_⟩
 obtain ⟨x,r',I',rfl,hp⟩:=hh
 have hrow:∀ (k es:Nat) (cells:List AV),rows[k]?=some (es,cells)->(rows.map fun q=>(q.1,[q.2]))[k]?=some (es,[cells]):=fun k es cells h=>by simp [h]
 have hval:=hp.val
 cases hval with
 | func _ _ _ _ v0 v1 h0 h1 g0 g1 =>
  let I2:Imm:=fun b o=>I' b o\/∃ (k es:Nat) (cells:List AV),rows[k]?=some (es,cells)/\b=(r' k).blk/\∃ (j:Nat) (c:AV),cells[j]?=some c/\o=(r' k).off+j
  have himm:∀ b o,I' b o->I2 b o:=fun b o h=>.inl h
  refine ⟨_,r',I2,rfl,hp.below,fun b o h=>.inl (hp.immL b o h),fun b o h=>?_,fun b o h=>?_,fun j p hj=>by simp at hj,fun j j' h1=>by simp at h1,?_⟩
  ·rcases h with h|⟨k,es,cells,hr,rfl,_⟩
   ·exact hp.immN b o h
   ·exact .inr (hp.rows k (es,[cells]) (hrow _ _ _ hr)).1
  ·rcases h with h|⟨k,es,cells,hr,rfl,_⟩
   ·exact hp.immS b o h
   ·exact (hp.rows k (es,[cells]) (hrow _ _ _ hr)).2.1
  ·refine .func _ _ _ _ _ _ h0 (by rw [h1]; simp) (fun i c v hc _=>by simp at hc) (fun i c v hc hx=>?_)
   rw [Rr,Wa] at hc
   obtain ⟨⟨k,cells⟩,hq,rfl⟩:=hc
   obtain ⟨es,hr⟩:=hk _ (List.mem_of_getElem? hq)
   obtain ⟨hb1,hb2,⟨he1,he2⟩,hcap,hlen,cs,T,fz,hcells,hsz,hel,hmt,_⟩:=hp.rows k (es,[cells]) (hrow _ _ _ hr)
   dsimp only at he1 he2 hcap hlen hsz hel
   have hv1:=g1 i (.ptr k 0 0) v (by rw [Rr,hq]; rfl) hx
   cases hv1 with
   | ptr _ _ _ _ hd =>
    have e:(r' k).off+0*(r' k).es+0=(r' k).off:=by simp
    rw [e]
    have hcell:∀ (j:Nat) (c:AV),cells[j]?=some c->∃ v,w'.cell? ⟨(r' k).blk,(r' k).off+j,none⟩=some v/\VR r' I2 w' (fun _=>False) c v:=by
     intro j c hj
     obtain ⟨v,hv1,hv2⟩:=hel 0 cells j c rfl hj
     refine ⟨v,?_,hv2.mono ⟨fun _ h=>h.2.elim,fun b o h=>⟨himm b o h,rfl⟩,Qd _⟩⟩
     simp only [Gn,Nt] at hv1
     simp [Po,hcells,hv1]
    refine .ipt _ _ _ _ (fun j=>(w'.cell? ⟨(r' k).blk,(r' k).off+j,none⟩).getD undef) (fun j c hj=>?_) (fun j c hj=>?_)
    ·obtain ⟨v,hv1,_⟩:=hcell j c hj
     exact ⟨.inr ⟨k,es,cells,hr,rfl,j,c,hj,rfl⟩,by rw [hv1]; rfl⟩
    ·obtain ⟨v,hv1,hv2⟩:=hcell j c hj
     rw [hv1]
     exact hv2
end Go.Sx
