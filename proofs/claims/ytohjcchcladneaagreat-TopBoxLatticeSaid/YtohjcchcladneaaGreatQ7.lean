/- A part of the proof: lemmas. -/
import Derived.Test.YtohjcchcladneaaGreatQ6
import Derived.Below
import Derived.ChangeOld
import Derived.JoinedOf
import Derived.Laws.FloatArith
import Derived.OpenShut
import Derived.ProofKit
import Derived.ShutString
import Derived.TacticsIn
import Derived.WalkKit
set_option linter.unusedVariables false
set_option linter.unusedSimpArgs false
set_option maxRecDepth 100000
set_option maxHeartbeats 16000000
open Array renaming getElem?_eq_some_iff->Qq
open Bool renaming and_eq_true->Qf
open Go.Cell renaming ok->Gw,okWide->Lv
open Go.Code renaming wpIn_mono->Rq
open Go.DataW renaming TrodAll->Nh,trod->Pf
open Go.Fence renaming wide->Td
open Go.Lit renaming int->Dn
open Go.Target.collected renaming injEq->Wi
open Go.Value renaming okWide->Mw
open List renaming all_eq_true->Rh,append_nil->Pj,drop_append->Gb,drop_of_length_le->Rb,drop_zero->Wk,flatMap_cons->Lu,getElem?_drop->Rm,getElem?_eq_some_iff->Qj,getElem?_take->Wd,length_append->Ws,length_range->Lr,mem_append->Sy,mem_range->Tx,nil_append->Kx,range->Wc,range'->Nq,take_left'->Kw
open Nat renaming add_mul->Sq,beq->Qp,ble->Sa,ble_eq_true_of_le->Nw,blt_eq->Si,eq_of_beq_eq_true->Qh,le_trans->Rt,mul_comm->Wt,sub_zero->Wv,zero_add->Tm,zero_le->Rl
open Option renaming bind_eq_some_iff->Ki
open Option.some renaming injEq->Qg
namespace Go.Sx
open Go Go.RowKit
def WT (T:Tab):Nat->TypeId->List AV->Prop
 | 0,_,_=>False
 | d+1,t,aZ=>match T t with
  | none=>False
  | some ti=>match ti.desc with
   | .bool=>∃ b,aZ=[.bool b]
   | .int k=>∃ n,aZ=[.int k n]/\(Dn k n).wf=true
   | .float k=>∃ b,aZ=[.flt k b]/\(Lit.float k b).wf=true
   | .string=>∃ s,aZ=[.str s]/\s.size<=maxLen
   | .slice e=>match T e with
    | some te=>∃ els,aZ=[.isl te.size els]/\els.length<=maxLen/\∀ x∈els,WT T d e x
    | none=>False
   | .struct fs=>aZ.length=ti.size/\∀ f∈fs.toList,match T f.type with
    | some tf=>WT T d f.type ((aZ.drop f.offset).take tf.size)
    | none=>False
   | .array n e=>match T e with
    | some te=>aZ.length=ti.size/\∀ i,i<n->WT T d e ((aZ.drop (i*te.size)).take te.size)
    | none=>False
   | _=>False
def contig (T:Tab):Nat->List Field->Option Nat
 | o,[]=>some o
 | o,f::fs=>match T f.type with
  | some tf=>cond (Qp f.offset o) (contig T (o+tf.size) fs) none
  | none=>none
def Zgo (T:Tab) (S:List TypeId) (t:TypeId):Bool:=match T t with
 | none=>false
 | some ti=>match ti.desc with
  | .bool | .int _ | .float _ | .string=>Qp ti.size 1
  | .slice e=>memN S e&&(match T e with
   | some te=>Qp ti.size 1&&Nat.blt 0 te.size
   | none=>false)
  | .struct fs=>fs.toList.all (fun f=>memN S f.type)&&(match contig T 0 fs.toList with
   | some n=>Qp n ti.size
   | none=>false)
  | .array n e=>memN S e&&(match T e with
   | some te=>Qp (n*te.size) ti.size
   | none=>false)
  | _=>false
theorem Uc {P:Program} {T:Tab} (hT:TabOK P T) {t:TypeId} {ti:TI} (h:T t=some ti):P.cellsOf t=ti.size:=by
 obtain ⟨i,h1,h2,_⟩:=hT.info t ti h
 simp [Program.cellsOf,h1,h2]
def Zf1 (T:Tab) (t:TypeId):Nat:=match T t with
 | some ti=>ti.size
 | none=>0
theorem Zo5 {T:Tab} {seg:Field->List AV}:∀ (fs:List Field) (o n:Nat),contig T o fs=some n->(∀ f∈fs,(seg f).length=Zf1 T f.type) ->
  (fs.flatMap seg).length=n-o/\o<=n/\∀ f∈fs,o<=f.offset/\((fs.flatMap seg).drop (f.offset-o)).take (Zf1 T f.type)=seg f
 | [],o,n,h,_=>by simp only [contig,Qg] at h; subst h; simp
 | f::fs,o,n,h,hs=>by
  simp only [contig] at h
  split at h
  ·rename_i tf htf
   cases hb:Qp f.offset o with
   | false=>rw [hb] at h; cases h
   | true =>
    rw [hb] at h
    have ho:=Qh hb
    simp only [cond_true] at h
    obtain ⟨h1,h2,h3⟩:=Zo5 fs (o+tf.size) n h (fun g hg=>hs g (by simp [hg]))
    have hf:(seg f).length=tf.size:=by rw [hs f (by simp)]; simp [Zf1,htf]
    refine ⟨by simp only [Lu,Ws,h1,hf]; omega,by omega,fun g hg=>?_⟩
    simp only [Lu]
    rcases List.mem_cons.1 hg with rfl|hg
    ·refine ⟨by omega,?_⟩
     rw [ho,Nat.sub_self,Wk]
     have:Zf1 T g.type=(seg g).length:=by rw [hs g (by simp)]
     rw [this,Kw]
     rfl
    ·obtain ⟨a,b⟩:=h3 g hg
     refine ⟨by omega,?_⟩
     rw [Gb,Rb (by omega),Kx,show g.offset-o-(seg f).length=g.offset-(o+tf.size) by omega]
     exact b
  ·cases h
theorem Zix {sz:Nat} {seg:Nat->List AV}:∀ (n k:Nat),(∀ i,(seg i).length=sz)->(((Nq k n).flatMap seg).length=n*sz/\∀ i,i<n->(((Nq k n).flatMap seg).drop (i*sz)).take sz=seg (k+i))
 | 0,k,_=>by simp
 | n+1,k,hs=>by
  obtain ⟨h1,h2⟩:=Zix n (k+1) hs
  have e:(Nq k (n+1)).flatMap seg=seg k++(Nq (k+1) n).flatMap seg:=by simp [List.range'_succ]
  rw [e]
  refine ⟨by rw [Ws,h1,hs k]; rw [Sq,Nat.one_mul]; omega,fun i hi=>?_⟩
  cases i with
  | zero=>simp only [Nat.zero_mul,Wk,Nat.add_zero]; rw [Kw (hs k)]
  | succ i =>
   rw [Gb,Rb (by rw [hs k,Sq]; omega),Kx,hs k,show (i+1)*sz-sz=i*sz by rw [Sq]; omega,h2 i (by omega)]
   congr 1; omega
section
variable {H:Type} {enc:TypeId × Value->H} {P:Program} {w:World} {spare:Nat->Bool} {held:Bool}
def Im0 (w:World):Imm:=fun b _=>b<w.heap.size
def Ydq (T:Tab) (w:World) (d:Nat) (t:TypeId) (cs:List Value):Prop :=
 ∃ aZ:List AV,aZ.length=cs.length/\(∀ (i:Nat) (c:AV) (v:Value),aZ[i]?=some c->cs[i]?=some v->VR r0 (Im0 w) w (fun _=>False) c v)/\WT T d t aZ
theorem Uu {T:Tab} {d:Nat} {t:TypeId} {v:Value} {c:AV} (hv:VR r0 (Im0 w) w (fun _=>False) c v) (hw:WT T d t [c]):Ydq T w d t [v] :=
 ⟨[c],rfl,fun i c' v' hc hv'=>by cases i with
  | zero=>simp at hc hv'; subst hc; subst hv'; exact hv
  | succ i=>simp at hc,hw⟩
theorem Zgz {T:Tab} {S:List TypeId} (hS:S.all (Zgo T S)=true) {d:Nat} {t:TypeId} {ti:TI} (ht:T t=some ti) (hm:memN S t=true) {aZ:List AV} (h:WT T d t aZ):aZ.length=ti.size:=by
 have hs:=Rh.1 hS t (Za1 hm)
 unfold Zgo at hs
 rw [ht] at hs
 cases d with
 | zero=>exact h.elim
 | succ d =>
  simp only [WT,ht] at h
  dsimp only at hs
  split at h
  ·rename_i hd; rw [hd] at hs; obtain ⟨b,rfl⟩:=h; simp at hs; simp [hs]
  ·rename_i hd; rw [hd] at hs; obtain ⟨b,rfl,_⟩:=h; simp at hs; simp [hs]
  ·rename_i hd; rw [hd] at hs; obtain ⟨b,rfl,_⟩:=h; simp at hs; simp [hs]
  ·rename_i hd; rw [hd] at hs; obtain ⟨b,rfl,_⟩:=h; simp at hs; simp [hs]
  ·rename_i e hd
   rw [hd] at hs
   dsimp only at hs
   cases hte:T e with
   | none=>rw [hte] at h; exact h.elim
   | some te=>rw [hte] at h hs; obtain ⟨els,rfl,_⟩:=h; simp at hs; simp [hs]
  ·exact h.1
  ·rename_i n e hd
   cases hte:T e with
   | none=>rw [hte] at h; exact h.elim
   | some te=>rw [hte] at h; exact h.1
  ·exact h.elim
theorem Zg0 {α:Type} (l:List α) (P:α->List AV->Prop) (h:∀ x∈l,∃ aZ,P x aZ):∃ g:α->List AV,∀ x∈l,P x (g x):=by
 classical
 exact ⟨fun x=>if hx:x∈l then Classical.choose (h x hx) else [],fun x hx=>by dsimp only; rw [dif_pos hx]; exact Classical.choose_spec (h x hx)⟩
theorem Zhz {d:Nat} {t e:TypeId} {cs:List Value} {x:DataW H × List MemPlace} (hu:P.underlying t=some (.slice e)) (h:Pf enc P w 0 spare held (d+1) t cs=some x) :
  cs=[.slice none 0 0]\/∃ (a:Addr) (len cap:Nat),cs=[.slice (some a) len cap]/\len<=cap/\cap<=maxLen/\∀ i,i<len->∃ cells y,w.cells? 0 (a.add (i*P.cellsOf e)) (P.cellsOf e)=some cells/\Pf enc P w 0 spare held d e cells=some y:=by
 unfold Pf at h
 rw [hu] at h
 split at h<;>try (exfalso; simp_all; done)
 ·exact .inl rfl
 ·rename_i e2 a len cap he
  simp only [Qg,TypeDesc.slice.injEq] at he
  subst he
  dsimp only at h
  split at h
  ·rename_i hc
   rw [Ki] at h
   obtain ⟨elems,hel,_⟩:=h
   refine .inr ⟨a,len,cap,rfl,hc.2.1,hc.2.2,fun i hi=>?_⟩
   have hg:=mapM_some_get hel i i (by simp [hi])
   have hl:=mapM_some_length hel
   simp only [Lr] at hl
   have:elems[i]?=some (elems[i]'(by omega)):=by simp [hl,hi]
   rw [this,Ki] at hg
   obtain ⟨cells,hcl,htr⟩:=hg
   exact ⟨cells,_,hcl,htr⟩
  ·cases h
theorem Zmb {a:Addr} {n:Nat} {cells:List Value} (h:w.cells? 0 a n=some cells):cells.length=n/\∀ (j:Nat) (v:Value),cells[j]?=some v->w.cell? (a.add j)=some v:=by
 unfold World.cells? at h
 rw [if_pos (Rl _)] at h
 have hl:=mapM_some_length h
 simp only [Lr] at hl
 refine ⟨hl,fun j v hv=>?_⟩
 have hj:j<n:=by rw [<-hl]; exact (Qj.1 hv).1
 have:=mapM_some_get h j j (by simp [hj])
 rw [this,hv]
theorem Ya9 {a:Addr} {v:Value} (h:w.cell? a=some v):a.block<w.heap.size:=by
 unfold World.cell? at h
 split at h
 ·rename_i hb; exact (Qq.1 hb).1
 ·cases h
theorem Zgk {d:Nat} {t:TypeId} {fs:Array Field} {cs:List Value} {x:DataW H × List MemPlace} (hu:P.underlying t=some (.struct fs)) (h:Pf enc P w 0 spare held (d+1) t cs=some x) :
  cs.length=P.cellsOf t/\∀ f∈fs.toList,∃ y,Pf enc P w 0 spare held d f.type ((cs.drop f.offset).take (P.cellsOf f.type))=some y:=by
 unfold Pf at h
 rw [hu] at h
 split at h<;>try (exfalso; simp_all; done)
 rename_i fs2 he
 simp only [Qg,TypeDesc.struct.injEq] at he
 subst he
 split at h
 ·rename_i hc
  rw [Option.map_eq_some_iff] at h
  obtain ⟨xs,hx,_⟩:=h
  refine ⟨hc,fun f hf=>?_⟩
  obtain ⟨i,hi⟩:=List.getElem?_of_mem hf
  have:=mapM_some_get hx i f hi
  have hl:=mapM_some_length hx
  have hil:=(Qj.1 hi).1
  exact ⟨xs[i]'(by omega),by rw [this]; simp⟩
 ·cases h
theorem Zcp {T:Tab} (hT:TabOK P T) {S:List TypeId} (hS:S.all (Zgo T S)=true):∀ (d:Nat) (t:TypeId) (cs:List Value) (x:DataW H × List MemPlace), memN S t=true->Pf enc P w 0 spare held d t cs=some x->Ydq T w d t cs
  | 0, t, cs, x, _, h => by simp [Pf] at h
  | d+1, t, cs, x, hm, h => by
    have hs := Rh.1 hS t (Za1 hm)
    unfold Zgo at hs
    cases ht:T t with
    | none => rw [ht] at hs; cases hs
    | some ti =>
      rw [ht] at hs
      dsimp only at hs
      have hu := hT.und t ti ht
      have hwt:∀ aZ, WT T (d+1) t aZ=match ti.desc with
        | .bool => ∃ b, aZ=[.bool b]
        | .int k => ∃ n, aZ=[.int k n]/\(Dn k n).wf=true
        | .float k => ∃ b, aZ=[.flt k b]/\(Lit.float k b).wf=true
        | .string => ∃ s, aZ=[.str s]/\s.size<=maxLen
        | .slice e => match T e with
          | some te => ∃ els, aZ=[.isl te.size els]/\els.length<=maxLen/\∀ x∈els, WT T d e x
          | none => False
        | .struct fs => aZ.length=ti.size/\∀ f∈fs.toList, match T f.type with
          | some tf => WT T d f.type ((aZ.drop f.offset).take tf.size)
          | none => False
        | .array n e => match T e with
          | some te => aZ.length=ti.size/\∀ i, i<n->WT T d e ((aZ.drop (i*te.size)).take te.size)
          | none => False
        | _ => False := fun aZ => by simp only [WT, ht]
      cases hd:ti.desc with
      | bool =>
        unfold Pf at h
        rw [hu] at h
        rw [hd] at h hwt
        split at h<;>first
          | exact Uu (.bool _ _) (by rw [hwt]; exact ⟨_, rfl⟩)
          | (exfalso; simp_all; done)
      | int k =>
        unfold Pf at h
        rw [hu] at h
        rw [hd] at h hwt
        split at h<;>first
          | (rename_i k1 k2 n he
             simp only [Qg, TypeDesc.int.injEq] at he
             subst he
             split at h
             · rename_i hk
               obtain ⟨rfl, hk⟩ := hk
               exact Uu (.int _ _ _) (by rw [hwt]; exact ⟨_, rfl, hk⟩)
             · cases h)
          | (exfalso; simp_all; done)
      | float k =>
        unfold Pf at h
        rw [hu] at h
        rw [hd] at h hwt
        split at h<;>first
          | (rename_i k1 k2 n he
             simp only [Qg, TypeDesc.float.injEq] at he
             subst he
             split at h
             · rename_i hk
               obtain ⟨rfl, hk⟩ := hk
               exact Uu (.flt _ _ _) (by rw [hwt]; exact ⟨_, rfl, hk⟩)
             · cases h)
          | (exfalso; simp_all; done)
      | string =>
        unfold Pf at h
        rw [hu] at h
        rw [hd] at h hwt
        split at h<;>first
          | (split at h
             · rename_i hk
               exact Uu (.str _ _) (by rw [hwt]; exact ⟨_, rfl, hk⟩)
             · cases h)
          | (exfalso; simp_all; done)
      | slice e =>
        rw [hd] at hu hwt hs
        dsimp only at hs
        simp only [Qf] at hs
        obtain ⟨hme, hs⟩ := hs
        cases hte:T e with
        | none => rw [hte] at hs; cases hs
        | some te =>
          have hsz := Uc hT hte
          rcases Zhz hu h with rfl|⟨a, len, cap, rfl, h1, h2, h3⟩
          · exact Uu (c := .isl te.size []) (.isl0 _ _ _ _) (by rw [hwt]; simp only [hte]; exact ⟨_, rfl, by simp, fun x hx => by simp at hx⟩)
          · rw [hsz] at h3
            rw [hte] at hs
            simp only [Qf, Si] at hs
            obtain ⟨hs1, hs2⟩ := hs
            cases len with
            | zero => exact Uu (c := .isl te.size []) (.isl0 _ _ _ _) (by rw [hwt]; simp only [hte]; exact ⟨_, rfl, by simp, fun x hx => by simp at hx⟩)
            | succ len =>
              obtain ⟨b, o, sp⟩ := a
              have hsp:sp=none := by
                obtain ⟨cells, y, hcl, htr⟩ := h3 0 (by omega)
                obtain ⟨hl, hcg⟩ := Zmb hcl
                have hv:cells[0]?=some (cells[0]'(by omega)) := by simp
                have := hcg 0 _ hv
                simpa [Addr.add] using World.cell?_spot this
              subst hsp
              obtain ⟨g, hg⟩ := Zg0 (Wc (len+1)) (fun i aZ => aZ.length=te.size/\WT T d e aZ/\∀ (j:Nat) (c:AV), aZ[j]?=some c->∃ v, w.cell? ⟨b, o+i*te.size+j, none⟩=some v/\VR r0 (Im0 w) w (fun _ => False) c v) (fun i hi => by
                obtain ⟨cells, y, hcl, htr⟩ := h3 i (Tx.1 hi)
                obtain ⟨hl, hcg⟩ := Zmb hcl
                obtain ⟨aZ, q1, q2, q3⟩ := Zcp hT hS d e cells _ hme htr
                have q4 := Zgz hS hte hme q3
                refine ⟨aZ, q4, q3, fun j c hc => ?_⟩
                have hj:j<aZ.length := (Qj.1 hc).1
                have hv:cells[j]?=some (cells[j]'(by omega)) := by simp
                refine ⟨_, ?_, q2 j c _ hc hv⟩
                have := hcg j _ hv
                rw [Yu, Yu] at this
                exact this)
              have hlen:((Wc (len+1)).map g).length=len+1 := by simp
              have hget:∀ (i:Nat) (x:List AV), ((Wc (len+1)).map g)[i]?=some x->i<len+1/\x=g i := by
                intro i x hx
                have hi:i<len+1 := by rw [<-hlen]; exact (Qj.1 hx).1
                refine ⟨hi, ?_⟩
                simp [hi] at hx
                exact hx.symm
              have hcell:∀ i, i<len+1->∀ (j:Nat) (c:AV), (g i)[j]?=some c->∃ v, w.cell? ⟨b, o+i*te.size+j, none⟩=some v/\VR r0 (Im0 w) w (fun _ => False) c v := fun i hi => (hg i (Tx.2 hi)).2.2
              have hval := VR.isl (r := r0) (I := Im0 w) (w := w) (fun _ => False) te.size ((Wc (len+1)).map g) b o cap (fun i j => (w.cell? ⟨b, o+i*te.size+j, none⟩).getD undef) (by rw [hlen]; exact h1)
                (fun i x hx => by obtain ⟨hi, rfl⟩ := hget i x hx; exact (hg i (Tx.2 hi)).1)
                (fun i x j c hx hc => by
                  obtain ⟨hi, rfl⟩ := hget i x hx
                  obtain ⟨v, hv, _⟩ := hcell i hi j c hc
                  exact ⟨Ya9 hv, by rw [hv]; rfl⟩)
                (fun i x j c hx hc => by
                  obtain ⟨hi, rfl⟩ := hget i x hx
                  obtain ⟨v, hv, hr⟩ := hcell i hi j c hc
                  rw [hv]; exact hr)
              rw [hlen] at hval
              refine Uu hval ?_
              rw [hwt]
              simp only [hte]
              refine ⟨_, rfl, by rw [hlen]; omega, fun x hx => ?_⟩
              obtain ⟨i, hi, rfl⟩ := List.mem_map.1 hx
              exact (hg i hi).2.1
      | «struct» fs =>
        rw [hd] at hu hwt hs
        dsimp only at hs
        simp only [Qf] at hs
        obtain ⟨hmf, hs⟩ := hs
        obtain ⟨hcl, hf⟩ := Zgk hu h
        rw [Uc hT ht] at hcl
        cases hcg:contig T 0 fs.toList with
        | none => rw [hcg] at hs; cases hs
        | some n =>
          rw [hcg] at hs
          have hn := Qh hs
          have hsz:∀ f∈fs.toList, ∃ tf, T f.type=some tf := fun f hf => by
            have := Rh.1 hS _ (Za1 (Rh.1 hmf f hf))
            unfold Zgo at this
            cases hx:T f.type with
            | none => rw [hx] at this; cases this
            | some tf => exact ⟨tf, rfl⟩
          obtain ⟨seg, hseg⟩ := Zg0 fs.toList (fun f aZ => aZ.length=Zf1 T f.type/\WT T d f.type aZ/\∀ (j:Nat) (c:AV) (v:Value), aZ[j]?=some c->((cs.drop f.offset).take (Zf1 T f.type))[j]?=some v->VR r0 (Im0 w) w (fun _ => False) c v) (fun f hfm => by
            obtain ⟨y, hy⟩ := hf f hfm
            obtain ⟨tf, htf⟩ := hsz f hfm
            have hme := Rh.1 hmf f hfm
            rw [Uc hT htf] at hy
            obtain ⟨aZ, q1, q2, q3⟩ := Zcp hT hS d f.type _ _ hme hy
            refine ⟨aZ, ?_, q3, ?_⟩
            · rw [Zgz hS htf hme q3]; simp [Zf1, htf]
            · simpa [Zf1, htf] using q2)
          obtain ⟨h1, h2, h3⟩ := Zo5 (T := T) (seg := seg) fs.toList 0 n hcg (fun f hfm => (hseg f hfm).1)
          simp only [Wv] at h1 h3
          refine ⟨fs.toList.flatMap seg, by rw [h1, hcl, hn], ?_, ?_⟩
          ·
            have key:∀ (l:List Field) (o:Nat), contig T o l=some n->(∀ f∈l, f∈fs.toList)->∀ (i:Nat) (c:AV) (v:Value), (l.flatMap seg)[i]?=some c->cs[o+i]?=some v->VR r0 (Im0 w) w (fun _ => False) c v := by
              intro l
              induction l with
              | nil => intro o _ _ i c v hc; simp at hc
              | cons f l ih =>
                intro o ho hin i c v hc hv
                simp only [contig] at ho
                have hfm := hin f (by simp)
                obtain ⟨tf, htf⟩ := hsz f hfm
                rw [htf] at ho
                dsimp only at ho
                cases hb:Qp f.offset o with
                | false => rw [hb] at ho; cases ho
                | true =>
                  rw [hb] at ho
                  have hoe := Qh hb
                  simp only [cond_true] at ho
                  have hsl:(seg f).length=tf.size := by rw [(hseg f hfm).1]; simp [Zf1, htf]
                  simp only [Lu] at hc
                  by_cases hi:i<tf.size
                  · rw [List.getElem?_append_left (by omega)] at hc
                    refine (hseg f hfm).2.2 i c v hc ?_
                    rw [Wd, if_pos (by simpa [Zf1, htf] using hi), Rm, hoe]
                    exact hv
                  · rw [List.getElem?_append_right (by omega), hsl] at hc
                    refine ih (o+tf.size) ho (fun g hg => hin g (by simp [hg])) (i-tf.size) c v hc ?_
                    rw [show o+tf.size+(i-tf.size)=o+i by omega]; exact hv
            intro i c v hc hv
            exact key fs.toList 0 hcg (fun f hf => hf) i c v hc (by simpa using hv)
          · rw [hwt]
            refine ⟨by rw [h1, hn], fun f hfm => ?_⟩
            obtain ⟨tf, htf⟩ := hsz f hfm
            rw [htf]
            have := (h3 f hfm).2
            rw [show Zf1 T f.type=tf.size by simp [Zf1, htf]] at this
            dsimp only
            rw [this]
            exact (hseg f hfm).2.1
      | array n e =>
        rw [hd] at hu hwt hs
        dsimp only at hs
        simp only [Qf] at hs
        obtain ⟨hme, hs⟩ := hs
        cases hte:T e with
        | none => rw [hte] at hs; cases hs
        | some te =>
          rw [hte] at hs
          have hn := Qh hs
          have hsz := Uc hT hte
          obtain ⟨xs, m, hm1, _, hcl, hxl, hf⟩ := DataW.trod_array hu h
          cases hm1
          rw [Uc hT ht] at hcl
          rw [hsz] at hf
          obtain ⟨seg, hseg⟩ := Zg0 (Wc n) (fun i aZ => aZ.length=te.size/\WT T d e aZ/\∀ (j:Nat) (c:AV) (v:Value), aZ[j]?=some c->((cs.drop (i*te.size)).take te.size)[j]?=some v->VR r0 (Im0 w) w (fun _ => False) c v) (fun i hi => by
            have hi := Tx.1 hi
            have hy := hf i hi
            rw [List.getElem?_eq_getElem (by omega)] at hy
            obtain ⟨aZ, q1, q2, q3⟩ := Zcp hT hS d e _ _ hme hy
            exact ⟨aZ, Zgz hS hte hme q3, q3, q2⟩)
          let sg:Nat->List AV := fun i => if i<n then seg i else List.replicate te.size .any
          have hsg:∀ i, (sg i).length=te.size := fun i => by
            by_cases hi:i<n
            · simp only [sg, hi, if_true]; exact (hseg i (Tx.2 hi)).1
            · simp only [sg, hi, if_false, List.length_replicate]
          obtain ⟨h1, h2⟩ := Zix (sz := te.size) (seg := sg) n 0 hsg
          refine ⟨(Nq 0 n).flatMap sg, by rw [h1, hcl, hn], ?_, ?_⟩
          · intro i c v hc hv
            have hil:i<n*te.size := by rw [<-h1]; exact (Qj.1 hc).1
            have hp:0<te.size := by
              rcases Nat.eq_zero_or_pos te.size with h0|h0
              · rw [h0] at hil; omega
              · exact h0
            have hq:i / te.size<n := Nat.div_lt_of_lt_mul (by rw [Wt]; exact hil)
            have hr:i%te.size<te.size := Nat.mod_lt _ hp
            have he:i / te.size*te.size+i%te.size=i := by rw [Wt]; exact Nat.div_add_mod i te.size
            have hs2 := h2 (i / te.size) hq
            rw [Tm] at hs2
            have hs3:sg (i / te.size)=seg (i / te.size) := by simp only [sg, hq, if_true]
            refine (hseg (i / te.size) (Tx.2 hq)).2.2 (i%te.size) c v ?_ ?_
            · rw [<-hs3, <-hs2, Wd, if_pos hr, Rm, he]; exact hc
            · rw [Wd, if_pos hr, Rm, he]; exact hv
          · rw [hwt]
            dsimp only
            rw [hte]
            refine ⟨by rw [h1, hn], fun i hi => ?_⟩
            rw [h2 i hi, Tm]
            simp only [sg, hi, if_true]
            exact (hseg i (Tx.2 hi)).2.1
      | _ => rw [hd] at hs; cases hs
end
open Go Go.RowKit Go.ChangeShapes
def WTA (T:Tab) (t:TypeId) (a:AV):Prop:=∀ n,∃ m aZ,WT T (m+n) t aZ/\match T t with
 | some ti=>match ti.desc with
  | .struct _=>a = .agg aZ
  | .array _ _=>a = .agg aZ
  | _=>aZ=[a]
 | none=>False
def WTs (T:Tab):List TypeId->List AV->Prop
 | [],[]=>True
 | t::ts,a::aZ=>WTA T t a/\WTs T ts aZ
 | _,_=>False
section
variable {H:Type} {enc:TypeId × Value->H} {P:Program} {w:World} {spare:Nat->Bool} {held:Bool}
theorem Zi5 {T:Tab}:∀ (d:Nat) {t:TypeId} {aZ:List AV},WT T d t aZ->WT T (d+1) t aZ
 | 0,t,aZ,h=>h.elim
 | d+1,t,aZ,h=>by
  unfold WT at h ⊢
  cases ht:T t with
  | none=>rw [ht] at h; exact h.elim
  | some ti =>
   rw [ht] at h
   dsimp only at h ⊢
   cases hd:ti.desc with
   | bool=>rw [hd] at h; exact h
   | int k=>rw [hd] at h; exact h
   | float k=>rw [hd] at h; exact h
   | string=>rw [hd] at h; exact h
   | slice e =>
    rw [hd] at h
    dsimp only at h ⊢
    cases he:T e with
    | none=>rw [he] at h; exact h.elim
    | some te=>rw [he] at h; obtain ⟨els,e1,e2,e3⟩:=h; exact ⟨els,e1,e2,fun x hx=>Zi5 d (e3 x hx)⟩
   | struct fs =>
    rw [hd] at h
    dsimp only at h ⊢
    refine ⟨h.1,fun f hf=>?_⟩
    have:=h.2 f hf
    cases he:T f.type with
    | none=>rw [he] at this; exact this.elim
    | some tf=>rw [he] at this; exact Zi5 d this
   | array n e =>
    rw [hd] at h
    dsimp only at h ⊢
    cases he:T e with
    | none=>rw [he] at h; exact h.elim
    | some te=>rw [he] at h; exact ⟨h.1,fun i hi=>Zi5 d (h.2 i hi)⟩
   | _=>rw [hd] at h; exact h.elim
theorem Zr5 {T:Tab} (hT:TabOK P T) {S:List TypeId} (hS:S.all (Zgo T S)=true) {t:TypeId} {v:Value} {d:DataW H} {p:List MemPlace} {r:Reach} {b0:Nat} (hm:memN S t=true) (hv:Mw P w r b0 t v)
  (h:DataW.Trod enc P w 0 spare held t v d p):∃ a:AV,VR r0 (Im0 w) w (fun _=>False) a v/\WTA T t a:=by
 have hs:=Rh.1 hS t (Za1 hm)
 unfold Zgo at hs
 cases ht:T t with
 | none=>rw [ht] at hs; cases hs
 | some ti =>
  rw [ht] at hs
  dsimp only at hs
  have hu:=hT.und t ti ht
  obtain ⟨fuel,hf⟩:=h
  have hop:=fun n=>Zcp hT hS (fuel+n) t _ _ hm (DataW.trod_le (Nat.le_add_right fuel n) hf)
  obtain ⟨aZ,h1,h2,h3⟩:=hop 0
  have hwt:∀ n,WT T (fuel+n) t aZ:=by
   intro n
   induction n with
   | zero=>exact h3
   | succ n ih=>exact Zi5 _ ih
  clear hop hf
  have agg:(∃ cs,v = .agg cs)->∃ a:AV,VR r0 (Im0 w) w (fun _=>False) a v/\a = .agg aZ:=by
   rintro ⟨cs,rfl⟩
   exact ⟨.agg aZ,.agg _ _ _ (by simpa [Value.cells] using h1.symm) (fun i c x hc hx=>h2 i c x hc (by simpa [Value.cells] using hx)),rfl⟩
  have one:(∀ cs,v ≠ .agg cs)->∃ a:AV,VR r0 (Im0 w) w (fun _=>False) a v/\aZ=[a]:=by
   intro hn
   have e:v.cells.toList=[v]:=by cases v<;>first|rfl|(rename_i cs; exact (hn cs rfl).elim)
   rw [e] at h1 h2
   simp only [List.length_cons,List.length_nil] at h1
   obtain ⟨c,rfl⟩:=List.length_eq_one_iff.1 h1
   exact ⟨c,h2 0 c v rfl rfl,rfl⟩
  unfold Mw at hv
  rw [hu] at hv
  cases hd:ti.desc with
  | bool =>
   rw [hd] at hv hu
   obtain ⟨a,h4,h5⟩:=one (fun cs e=>by subst e; simp [Lv,Gw,hu] at hv)
   exact ⟨a,h4,fun n=>⟨fuel,aZ,hwt n,by rw [ht]; dsimp only; rw [hd]; exact h5⟩⟩
  | int k =>
   rw [hd] at hv hu
   obtain ⟨a,h4,h5⟩:=one (fun cs e=>by subst e; simp [Lv,Gw,hu] at hv)
   exact ⟨a,h4,fun n=>⟨fuel,aZ,hwt n,by rw [ht]; dsimp only; rw [hd]; exact h5⟩⟩
  | float k =>
   rw [hd] at hv hu
   obtain ⟨a,h4,h5⟩:=one (fun cs e=>by subst e; simp [Lv,Gw,hu] at hv)
   exact ⟨a,h4,fun n=>⟨fuel,aZ,hwt n,by rw [ht]; dsimp only; rw [hd]; exact h5⟩⟩
  | string =>
   rw [hd] at hv hu
   obtain ⟨a,h4,h5⟩:=one (fun cs e=>by subst e; simp [Lv,Gw,hu] at hv)
   exact ⟨a,h4,fun n=>⟨fuel,aZ,hwt n,by rw [ht]; dsimp only; rw [hd]; exact h5⟩⟩
  | slice e =>
   rw [hd] at hv hu
   obtain ⟨a,h4,h5⟩:=one (fun cs e=>by subst e; simp [Lv,Gw,hu] at hv)
   exact ⟨a,h4,fun n=>⟨fuel,aZ,hwt n,by rw [ht]; dsimp only; rw [hd]; exact h5⟩⟩
  | struct fs =>
   rw [hd] at hv hu
   obtain ⟨cs,hcs,_⟩:=hv
   obtain ⟨a,h4,h5⟩:=agg ⟨cs,hcs⟩
   exact ⟨a,h4,fun n=>⟨fuel,aZ,hwt n,by rw [ht]; dsimp only; rw [hd]; exact h5⟩⟩
  | array n e =>
   rw [hd] at hv hu
   obtain ⟨cs,hcs,_⟩:=hv
   obtain ⟨a,h4,h5⟩:=agg ⟨cs,hcs⟩
   exact ⟨a,h4,fun n=>⟨fuel,aZ,hwt n,by rw [ht]; dsimp only; rw [hd]; exact h5⟩⟩
  | _=>rw [hd] at hs; cases hs
theorem Zii {T:Tab} (hT:TabOK P T) {S:List TypeId} (hS:S.all (Zgo T S)=true) {r:Reach} {b0:Nat}:∀ (ts:List TypeId) (vs:List Value) (ds:List (DataW H)) (p:List MemPlace),(∀ t∈ts,memN S t=true)->(∀ (j:Nat) t v,ts[j]?=some t->vs[j]?=some v->Mw P w r b0 t v) ->
  Nh enc P w 0 spare held ts vs ds p->∃ aZ:List AV,VRs r0 (Im0 w) w (fun _=>False) aZ vs.toArray/\WTs T ts aZ
 | [],vs,ds,p,_,_,h=>by
  obtain ⟨rfl,rfl,rfl⟩:=trodAll_nil h
  exact ⟨[],⟨rfl,fun i c v hc=>by simp at hc⟩,trivial⟩
 | t::ts,vs,ds,p,hm,hv,h=>by
  obtain ⟨v,vs',d,ds',q,q',rfl,rfl,rfl,hd,hr⟩:=trodAll_cons h
  obtain ⟨a,ha,hw⟩:=Zr5 hT hS (hm t (by simp)) (hv 0 t v rfl rfl) hd
  obtain ⟨aZ,hs,hws⟩:=Zii hT hS ts vs' ds' q' (fun t' ht'=>hm t' (by simp [ht'])) (fun j t' v' h1 h2=>hv (j+1) t' v' (by simpa using h1) (by simpa using h2)) hr
  refine ⟨a::aZ,⟨by simpa using hs.1,fun i c x hc hx=>?_⟩,hw,hws⟩
  cases i with
  | zero=>simp at hc hx; subst hc; subst hx; exact ha
  | succ i=>exact hs.2 i c x (by simpa using hc) (by simpa using hx)
theorem Zv4 {T:Tab} (hT:TabOK P T) {S:List TypeId} (hS:S.all (Zgo T S)=true) {f:FuncId} {ts:List TypeId} (hm:ts.all (memN S)=true) (hlaw:∀ aZ,WTs T ts aZ->PCall P f aZ ⟨.bool true,[]⟩) {r:Reach} {b0:Nat} {vs:Array Value} {ds:List (DataW H)} {p:List MemPlace}
  (hv:∀ (j:Nat) t v,ts[j]?=some t->vs[j]?=some v->Mw P w r b0 t v) (h:Nh enc P w 0 spare held ts vs.toList ds p):Calls P f vs w fun e w'=>e = .returned (.bool true)/\Below w.heap.size w w':=by
 obtain ⟨aZ,h1,h2⟩:=Zii hT hS ts vs.toList ds p (fun t ht=>Rh.1 hm t ht) (fun j t v a b=>hv j t v a (by simpa using b)) h
 refine callsIn_wide.1 (((hlaw aZ h2).2 (Im0 w) w vs (fun b o h=>h) (by simpa using h1)).mono fun e w' hh=>?_)
 obtain ⟨x,r',I',rfl,hp⟩:=hh
 have hval:=hp.val
 cases hval
 exact ⟨rfl,hp.below⟩
theorem Zoq (hl:laidOutB P=true) {w' : World} (bel:Below w.heap.size w w'):∀ (ts:List TypeId) (vs:List Value) (ds:List (DataW H)) (p:List MemPlace),ts.all (fun t=>P.readableRec t&&decide (t<P.types.size))=true ->
  Nh enc P w 0 (fun _=>true) true ts vs ds p->(∀ x∈p,x.block<w.heap.size)->∃ q,Nh enc P w' 0 (fun b=>decide (b<w.heap.size)) true ts vs ds q
 | [],vs,ds,p,_,h,_=>by
  obtain ⟨rfl,rfl,rfl⟩:=trodAll_nil h
  exact ⟨[],trodAll_mk0⟩
 | t::ts,vs,ds,p,ht,h,hlt=>by
  obtain ⟨v,vs',d,ds',q,q',rfl,rfl,rfl,hd,hr⟩:=trodAll_cons h
  simp only [List.all_cons,Qf,decide_eq_true_eq] at ht
  obtain ⟨q2,h2⟩:=Zoq hl bel ts vs' ds' q' ht.2 hr (fun x hx=>hlt x (by simp [hx]))
  exact ⟨_,trodAll_cons_mk (Below.trod hl ht.1.1 ht.1.2 hd bel (fun x hx=>hlt x (by simp [hx]))) h2⟩
theorem Zia:∀ (ts:List TypeId) (vs:List Value) (ds:List (DataW H)) (p:List MemPlace),Nh enc P w 0 spare held ts vs ds p->∀ x∈p,x.block<w.heap.size
 | [],vs,ds,p,h,x,hx=>by obtain ⟨rfl,rfl,rfl⟩:=trodAll_nil h; simp at hx
 | t::ts,vs,ds,p,h,x,hx=>by
  obtain ⟨v,vs',d,ds',q,q',rfl,rfl,rfl,hd,hr⟩:=trodAll_cons h
  rcases Sy.1 hx with hx|hx
  ·obtain ⟨m,hm⟩:=hd; exact DataW.trod_lt m _ _ _ hm x hx
  ·exact Zia ts vs' ds' q' hr x hx
theorem Zqc {C:Checked} {os:Os} (started:os.Started) {f:FuncId} {fn:Func} {s:ChangeSpec} {bt:TypeId}
  (own:ownKnob C.prog.godebug=none) (laid:laidOutB C.prog=true) (noInit:C.prog.inits.idxOf? f=none) (hfn:C.prog.funcs[f]?=some fn)
  {T:Tab} (hT:TabOK C.prog T) {S:List TypeId} (hS:S.all (Zgo T S)=true) (hm:fn.params.toList.all (memN S)=true) (hread:fn.params.toList.all (fun t=>C.prog.readableRec t&&decide (t<C.prog.types.size))=true)
  (hvars:s.vars=[]) (hres:fn.resultTypes = #[bt]) (hbt:C.prog.underlying bt=some .bool)
  (hsp:∀ ds:List (DataW H),ds.length=fn.params.toList.length->s.fn H ds = { results:=[.lit (.bool true)],args:=ds,vars:=[] })
  (hlaw:∀ aZ,WTs T fn.params.toList aZ->PCall C.prog f aZ ⟨.bool true,[]⟩) {conds:List PathCond}
  (witness:∃ (w:World) (tape:Tape) (i:Input),w.os=os/\(w.forCall tape i).Shaped C.prog/\i.vars=[]/\Input.okWide C.prog (w.forCall tape i) .any w.heap.size f i /\
   s.pre6 enc C.prog fn conds false (w.forCall tape i).memory i.args/\({}:Assume).holds C.prog (lone (Frame.enter C.prog f i.args .normal) [] (w.forCall tape i))) :
  ReturnsInHanded {} C os f .any (s.pre6 enc C.prog fn conds false) (s.post enc C.prog fn false true false false):=by
 refine returnsInHanded_of_change own started noInit hfn witness ?_
 intro W base args ds gs before hval0 hW hcnd _
 have hval:∀ (j:Nat) t v,fn.params.toList[j]?=some t->args[j]?=some v->Mw C.prog W .any base t v:=fun j t v a b=>hval0 j t v (by simpa using a) b
 have hW':=hW
 obtain ⟨p,q,hA,hV,rfl,hfz,hnd⟩:=hW
 rw [hvars] at hV
 obtain ⟨rfl,rfl⟩:=trodVars_none hV
 have hlen:∀ (ts:List TypeId) (vs:List Value) (ds:List (DataW H)) (p:List MemPlace),Nh enc C.prog W 0 (fun _=>true) true ts vs ds p->ds.length=ts.length:=by
  intro ts
  induction ts with
  | nil=>intro vs ds p h; obtain ⟨rfl,rfl,rfl⟩:=trodAll_nil h; rfl
  | cons t ts ih=>intro vs ds p h; obtain ⟨v,vs',d,ds',q,q',rfl,rfl,rfl,hd,hr⟩:=trodAll_cons h; simp [ih _ _ _ hr]
 refine (Zv4 hT hS hm hlaw hval hA).mono fun e W' hh=>?_
 obtain ⟨he,bel⟩:=hh
 subst he
 obtain ⟨q2,hq2⟩:=Zoq laid bel _ _ _ _ hread hA (Zia _ _ _ _ hA)
 have hsp':=hsp (ds++[]) (by rw [Pj]; exact hlen _ _ _ _ hA)
 refine ⟨_,rfl,ds,[],_,[],q2,[],hW',?_,?_,?_,bel.frame _,fun h=>by cases h⟩
 ·rw [hsp',hres]; exact trodAll_mk1 (shut_bool hbt _)
 ·rw [hsp']; simpa using hq2
 ·rw [hsp',hvars]; rfl
end
open Go Go.RowKit
variable {T:Tab} {d:Nat} {t:TypeId} {aZ:List AV}
theorem Zxh {ti:TI} {k:IntKind} (ht:T t=some ti) (hd:ti.desc = .int k) (h:WT T (d+1) t aZ):∃ n,aZ=[.int k n]/\(Dn k n).wf=true:=by
 unfold WT at h; rw [ht] at h; dsimp only at h; rw [hd] at h; exact h
theorem Zj7 {ti:TI} {fs:Array Field} (ht:T t=some ti) (hd:ti.desc = .struct fs) (h:WT T (d+1) t aZ):aZ.length=ti.size/\∀ f∈fs.toList,∃ tf,T f.type=some tf/\WT T d f.type ((aZ.drop f.offset).take tf.size):=by
 unfold WT at h; rw [ht] at h; dsimp only at h; rw [hd] at h; dsimp only at h
 refine ⟨h.1,fun f hf=>?_⟩
 have:=h.2 f hf
 cases hq:T f.type with
 | none=>rw [hq] at this; exact this.elim
 | some tf=>rw [hq] at this; exact ⟨tf,rfl,this⟩
theorem Zu4 {ti te:TI} {n:Nat} {e:TypeId} (ht:T t=some ti) (hd:ti.desc = .array n e) (he:T e=some te) (h:WT T (d+1) t aZ):aZ.length=ti.size/\∀ i,i<n->WT T d e ((aZ.drop (i*te.size)).take te.size):=by
 unfold WT at h; rw [ht] at h; dsimp only at h; rw [hd] at h; dsimp only at h; rw [he] at h; exact h
theorem Zy4 {a:AV} {ti:TI} (h:WTA T t a) (ht:T t=some ti) {fs:Array Field} (hd:ti.desc = .struct fs) (n:Nat):∃ aZ m,a = .agg aZ/\WT T (m+n+1) t aZ:=by
 obtain ⟨m,aZ,hm,ha⟩:=h (n+1)
 rw [ht] at ha; dsimp only at ha; rw [hd] at ha
 exact ⟨aZ,m,ha,by rw [Nat.add_assoc]; exact hm⟩
theorem Zy3 {a:AV} {ti:TI} (h:WTA T t a) {k:IntKind} (ht:T t=some ti) (hd:ti.desc = .int k):∃ n,a = .int k n/\(Dn k n).wf=true:=by
 obtain ⟨m,aZ,hm,ha⟩:=h 1
 rw [ht] at ha; dsimp only at ha; rw [hd] at ha
 obtain ⟨n,h1,h2⟩:=Zxh ht hd hm
 rw [h1] at ha
 exact ⟨n,by simpa using ha.symm,h2⟩
end Go.Sx
set_option maxRecDepth 20000
namespace Go.Sx
open Go Ieee
open Go Go.RowKit
variable {P:Program} {N B l:Nat} {Ig:Imm} {JX:Zs->(Nat->Prop)->World->Prop}
section
variable {P:Program} {r:Locs} {I:Imm} {w:World} {D:Nat->Prop}
def NS (a b:AV):Prop:=a=b\/(a = .nils/\∃ es,b = .isl es [])
theorem NS.vr {a b:AV} (h:NS a b) {v:Value} (hv:VR r I w D a v):VR r I w D b v:=by
 rcases h with rfl|⟨rfl,es,rfl⟩
 ·exact hv
 ·cases hv; exact .isl0 _ _ _ _
def NSL:List AV->List AV->Prop
 | [],[]=>True
 | a::l,b::m=>NS a b/\NSL l m
 | _,_=>False
theorem NSL.get:∀ {l m:List AV},NSL l m->l.length=m.length/\∀ (i:Nat) (b:AV),m[i]?=some b->∃ a,l[i]?=some a/\NS a b
 | [],[],_=>⟨rfl,fun i b h=>by simp at h⟩
 | a::l,b::m,h=>by
  simp only [NSL] at h
  obtain ⟨h1,h2⟩:=NSL.get h.2
  refine ⟨by simp [h1],fun i b' hi=>?_⟩
  cases i with
  | zero=>simp at hi; subst hi; exact ⟨a,rfl,h.1⟩
  | succ i=>simpa using h2 i b' (by simpa using hi)
 | [],_::_,h=>by simp [NSL] at h
 | _::_,[],h=>by simp [NSL] at h
theorem NSL.vr {l m:List AV} (h:NSL l m) {v:Value} (hv:VR r I w D (.agg l) v):VR r I w D (.agg m) v:=by
 obtain ⟨h1,h2⟩:=h.get
 cases hv with
 | agg _ _ vs h0 g =>
  refine .agg _ _ _ (h0.trans h1) fun i c x hc hx=>?_
  obtain ⟨a,ha,hn⟩:=h2 i c hc
  exact hn.vr (g i a x ha hx)
def NA (a b:AV):Prop:=NS a b\/∃ l m,a = .agg l/\b = .agg m/\NSL l m
theorem NA.vr {a b:AV} (h:NA a b) {v:Value} (hv:VR r I w D a v):VR r I w D b v:=by
 rcases h with h|⟨l,m,rfl,rfl,h⟩
 ·exact h.vr hv
 ·exact h.vr hv
theorem NA.rfl {a:AV}:NA a a:=.inl (.inl _root_.rfl)
def NAL:List AV->List AV->Prop
 | [],[]=>True
 | a::l,b::m=>NA a b/\NAL l m
 | _,_=>False
theorem NAL.get:∀ {l m:List AV},NAL l m->l.length=m.length/\∀ (i:Nat) (b:AV),m[i]?=some b->∃ a,l[i]?=some a/\NA a b
 | [],[],_=>⟨_root_.rfl,fun i b h=>by simp at h⟩
 | a::l,b::m,h=>by
  simp only [NAL] at h
  obtain ⟨h1,h2⟩:=NAL.get h.2
  refine ⟨by simp [h1],fun i b' hi=>?_⟩
  cases i with
  | zero=>simp at hi; subst hi; exact ⟨a,_root_.rfl,h.1⟩
  | succ i=>simpa using h2 i b' (by simpa using hi)
 | [],_::_,h=>by simp [NAL] at h
 | _::_,[],h=>by simp [NAL] at h
theorem PCall.nilArgs {f:FuncId} {l m:List AV} {res:PRes} (h:PCall P f m res) (hn:NAL l m):PCall P f l res:=by
 obtain ⟨h1,h2⟩:=hn.get
 refine ⟨h.1,fun I w vs hI hv=>h.2 I w vs hI ⟨hv.1.trans h1,fun i c v hc hv'=>?_⟩⟩
 obtain ⟨a,ha,hn⟩:=h2 i c hc
 exact hn.vr (hv.2 i a v ha hv')
end
variable {r r' : Locs} {D D' : Nat->Prop} {I I' : Imm} {w w' w0:World} {I0 Ig:Imm} {B n n' k N l:Nat} {pr pr' pr2:Nat->Obj->Prop} {h:Nat->ABlk} {P:Program} {JX:Zs->(Nat->Prop)->World->Prop} {O:Nat->Prop}
structure YSx (N:Nat) (B:Nat) (Ig:Imm) (JX:Zs->(Nat->Prop)->World->Prop) (z:Zs) (r:Locs) (D:Nat->Prop) (I:Imm) (O:Nat->Prop) (env:Env) (σ:St) (a:Act) (w:World):Prop where
 hr:HR B w I (prO B O w) r I D σ.get σ.next w
 ho:∀ b,O b->B<=b/\b<w.heap.size
 lo:∀ b o,Ig b o->I b o
 up:∀ b o,I b o->Ig b o\/O b
 er:ER r I w D N env a.tmps
 jx:JX z O w
 df:a.defers=[]
def PY (N B:Nat) (Ig:Imm) (JX:Zs->(Nat->Prop)->World->Prop) (r:Locs) (D:Nat->Prop) (I:Imm) (w:World) (Q:IQ):Exit->Act->World->Prop:=fun e a' w'=>∃ env' σ' z' r' D' I' O',Q e env' σ' z'/\YSx N B Ig JX z' r' D' I' O' env' σ' a' w'/\Step r D I w r' D' I' w'
def AwpY (P:Program) (N B:Nat) (Ig:Imm) (JX:Zs->(Nat->Prop)->World->Prop) (c:Code) (env:Env) (σ:St) (z:Zs) (Q:IQ):Prop :=
 ∀ r D I O a w,YSx N B Ig JX z r D I O env σ a w->c.wpIn Td 0 P (PY N B Ig JX r D I w Q) a w
def Zxe (P:Program) (B:Nat) (Ig:Imm) (JX:Zs->(Nat->Prop)->World->Prop) (f:FuncId) (args:List AV) (σ:St) (z:Zs) (K:AV->St->Zs->Prop):Prop :=
 ∀ r D I O w vs,HR B w I (prO B O w) r I D σ.get σ.next w->(∀ b,O b->B<=b/\b<w.heap.size)->(∀ b o,Ig b o->I b o)->(∀ b o,I b o->Ig b o\/O b)->JX z O w->VRs r I w D args vs ->
  CallsIn Td 0 P f vs w fun e w'=>∃ x v σ' z' r' D' I' O',e = .returned x/\K v σ' z'/\HR B w' I' (prO B O' w') r' I' D' σ'.get σ'.next w'/\(∀ b,O' b->B<=b/\b<w'.heap.size)/\(∀ b o,Ig b o->I' b o)/\(∀ b o,I' b o->Ig b o\/O' b)/\JX z' O' w'/\VR r' I' w' D' v x/\Step r D I w r' D' I' w'
inductive YCt (P:Program) (B:Nat) (Ig:Imm) (JX:Zs->(Nat->Prop)->World->Prop) (f:FuncId) (args:List AV) (σ:St) (z:Zs) (K:AV->St->Zs->Prop):Prop
 | mk (h:FnOK P f/\Zxe P B Ig JX f args σ z K):YCt P B Ig JX f args σ z K
inductive Yd (p:Prop):Prop
 | mk (h:p):Yd p
variable {r r' : Locs} {D D' : Nat->Prop} {I I' : Imm} {w w' w0:World} {I0 Ig:Imm} {B n n' k N l:Nat} {pr pr' pr2:Nat->Obj->Prop} {h:Nat->ABlk} {P:Program} {JX:Zs->(Nat->Prop)->World->Prop} {O:Nat->Prop} {sc:Bool}
variable {r r' : Locs} {D D' : Nat->Prop} {I I' : Imm} {w w' w0:World} {I0 Ig:Imm} {B n n' k N l:Nat} {pr pr' pr2:Nat->Obj->Prop} {h:Nat->ABlk} {P:Program} {JX:Zs->(Nat->Prop)->World->Prop} {O:Nat->Prop} {sc:Bool}
inductive YLp (P:Program) (N B:Nat) (Ig:Imm) (JX:Zs->(Nat->Prop)->World->Prop) (c:Code) (env:Env) (σ:St) (z:Zs) (Q:IQ):Prop
 | mk (h:AwpY P N B Ig JX (.loop c) env σ z Q):YLp P N B Ig JX c env σ z Q
instance {c:Code} {env:Env} {σ:St} {z:Zs} {Q:IQ}:Stop (YLp P N B Ig JX c env σ z Q):=⟨trivial⟩
instance {f:FuncId} {args:List AV} {σ:St} {z:Zs} {K:AV->St->Zs->Prop}:Stop (YCt P B Ig JX f args σ z K):=⟨trivial⟩
instance {p:Prop}:Stop (Yd p):=⟨trivial⟩
variable (Bs:Base P)
end Go.Sx
set_option maxRecDepth 20000
namespace Go.Sx
open Go Ieee
open Go Go.RowKit
variable {P:Program} {N:Nat}
variable {r r' : Locs} {I I' I2:Imm} {w w' : World} {P:Program}
mutual
def Frk (bl:List (Nat × List (List AV))):AV->AV->Prop
 | .asl id idx len,.isl es els=>(bl[id]?=some (es,els)/\id≠0)/\idx=0/\len=els.length
 | .asl id idx len,.asl id' idx' len'=>id=0/\id'=0/\idx=idx'/\len=len'
 | .nils,.isl _ els=>els=[]
 | .agg cs,.agg ds=>FrkL bl cs ds
 | .tup cs,.tup ds=>FrkL bl cs ds
 | v,v'=>v=v'/\Zr v=true
def FrkL (bl:List (Nat × List (List AV))):List AV->List AV->Prop
 | [],[]=>True
 | c::cs,d::ds=>Frk bl c d/\FrkL bl cs ds
 | _,_=>False
end
variable {P:Program}
theorem Zhv (w:World) (o:Obj):Below w.heap.size w (w.alloc o):=⟨rfl,rfl,rfl,by simp,fun _ hk=>Zn w o hk⟩
theorem Zky {f:FuncId} {es:Nat} (hfn:FnOK P f) (h:∀ (a:Option Addr) (cap:Nat) (w:World),Calls P f #[.slice a 0 cap] w fun e w'=>∃ a' cap',e = .returned (.slice a' 0 cap')/\Below w.heap.size w w'):PCall P f [.isl es []] ⟨.isl es [],[]⟩:=by
 refine ⟨hfn,fun I w vs hI hv=>?_⟩
 obtain ⟨hs,hc⟩:=hv
 have hs:vs.size=1:=hs
 obtain ⟨v0,rfl⟩:∃ v0,vs = #[v0]:=⟨vs[0],by
  apply Array.ext
  ·simp [hs]
  ·intro i h1 h2
   have:i=0:=by omega
   subst this; rfl⟩
 have h0:=hc 0 _ v0 rfl rfl
 obtain ⟨a,cap,rfl⟩:∃ a cap,v0 = .slice a 0 cap:=by
  cases h0 with
  | isl0=>exact ⟨_,_,rfl⟩
  | isl=>exact ⟨_,_,rfl⟩
 refine (callsIn_wide.2 (h a cap w)).mono fun e w' ⟨a',cap',he,hb⟩=>⟨_,r0,I,he,hb,fun _ _ h=>h,fun _ _ h=>.inl h,fun b o h=>Nat.lt_of_lt_of_le (hI b o h) hb.size,fun j p hj=>by simp at hj,fun j j' h1=>by simp at h1,.isl0 _ _ _ _⟩
theorem Zq1 {T:Tab} {ok:TypeId->Bool} {k:Nat} {ev:Operand->AV} {h:Nat->ABlk} {x lo hi:Operand} {t e:TypeId} {ti te:TI} {id len ll hh:Nat} {elems:List (List AV)} {mt pu:Bool} {K:AV × Eff->Prop}
  (h1:T t=some ti) (h3:ti.desc = .slice e) (h5:T e=some te) (hx:ev x = .asl id 0 len) (hb:h id = .row te.size elems mt pu) (hlo:Zd1 (some (ev lo)) 0=some ll) (hhi:Zd1 (some (ev hi)) len=some hh) (hl:ll<=hh) (hl2:hh<=len) (hl3:ll<len)
  (hk:K (.asl id (0+ll) (hh-ll),.none)):Got (aop T ok k ev h (.slice t x (some lo) (some hi) none)) K:=by
 have ha:aopA T ok k ev h (.slice t x (some lo) (some hi) none)=none:=rfl
 have hs:Zbf T h t (ev x) (some (ev lo)) (some (ev hi))=some (.asl id (0+ll) (hh-ll)):=by
  unfold Zbf
  rw [h1]
  dsimp only
  rw [h3]
  dsimp only
  rw [h5]
  dsimp only
  rw [hx]
  dsimp only
  rw [hb]
  dsimp only
  rw [hlo,hhi]
  show cond _ _ _=_
  have b1:Sa ll hh=true:=Nw hl
  have b2:Sa hh len=true:=Nw hl2
  have b3:Nat.blt ll len=true:=by rw [Si]; exact hl3
  rw [Nat.beq_refl,b1,b2,b3,Bool.or_true]
  rfl
 refine Got.intro (x:=(.asl id (0+ll) (hh-ll),.none)) ?_ hk
 unfold aop
 rw [ha]
 dsimp only
 show ret (Zbf T h t (ev x) (some (ev lo)) (some (ev hi)))=_
 rw [hs]
 rfl
variable {h' : Nat->ABlk} {n0:Nat} {r r' : Locs} {D D' : Nat->Prop} {I I' : Imm} {w w' w0:World} {I0:Imm} {B n n' k N:Nat} {pr pr' pr2:Nat->Obj->Prop} {h:Nat->ABlk} {P:Program}
variable {n0:Nat} {r r' : Locs} {D D' : Nat->Prop} {I I' I2:Imm} {w w' w0:World} {I0:Imm} {B n n' k N:Nat} {pr pr' pr2:Nat->Obj->Prop} {h:Nat->ABlk} {P:Program}
inductive CtT (p:Prop):Prop
 | mk (h:p):CtT p
instance {p:Prop}:Stop (CtT p):=⟨trivial⟩
variable {P:Program} {N:Nat}
theorem Awp.seq {x y:Code} {env:Env} {σ:St} {Q:Exit->Env->St->Prop} (hv:Awp P N x env σ (seqQ (fun env1 σ1=>Awp P N y env1 σ1 Q) Q)):Awp P N (.seq x y) env σ Q:=by
  intro F B w0 I0 pr r I D a w hF hR S
  refine wpIn_seq (Rq (fun e a' w' h=>?_) (hv F B w0 I0 pr r I D a w hF hR S))
  cases e with
  | normal =>
   obtain ⟨pr1,ms1,env1,σ1,r1,I1,D1,p1,m1,n1,d1,q1,s1,t1,z1⟩:=h
   refine Rq (fun e2 a2 w2 h2=>?_) (q1 F B w0 I0 pr1 r1 I1 D1 a' w' hF (hR.le p1) s1)
   have h1:Post B w0 I0 pr N r I D w a.defers (fun _ env' σ'=>env'=env1/\σ'=σ1) .normal a' w':=⟨pr1,ms1,env1,σ1,r1,I1,D1,p1,m1,n1,d1,⟨rfl,rfl⟩,s1,t1,z1⟩
   obtain ⟨pr2,ms2,env2,σ2,r2,I2,D2,p2,m2,n2,d2,q2,s2,t2,z2⟩:=h2
   refine ⟨pr2,ms2++ms1,env2,σ2,r2,I2,D2,fun b o h=>p2 _ _ (p1 _ _ h),?_,?_,by rw [d2,d1,List.append_assoc],q2,s2,t1.trans t2,Rt z1 z2⟩
   ·intro d hd
    rcases Sy.1 hd with h|h
    ·obtain ⟨b,g1,g2,g3⟩:=m2 d h
     exact ⟨b,g1,g2,Rt z1 g3⟩
    ·obtain ⟨b,g1,g2,g3⟩:=m1 d h
     exact ⟨b,g1,p2 _ _ g2,g3⟩
   ·refine List.pairwise_append.2 ⟨n2,n1,fun x hx y hy e=>?_⟩
    obtain ⟨b,g1,g2,g3⟩:=m2 x hx
    obtain ⟨b',g1',g2',g3'⟩:=m1 y hy
    have:=(Qq.1 (s1.hr.prot _ _ g2').1).1
    rw [g1,g1'] at e
    simp only [Wi] at e
    omega
  | exit id=>exact h.mono fun _ _ q=>q
  | goto l=>exact h.mono fun _ _ q=>q
  | ret=>exact h.mono fun _ _ q=>q
  | panic ch=>exact h.mono fun _ _ q=>q
  | outgrown=>exact h.mono fun _ _ q=>q
theorem Zum {cx:Cx} (hcx:CxOK P cx) {f:FuncId} {fn:Func} (hf:P.funcs[f]?=some fn) {args:List AV} {σ:St} {K:AV->St->Prop} (hv:match fn.body with
 | some c=>Sa args.length fn.ntmps=true/\Awp P fn.ntmps c (env0 0 args) σ (retQ cx.T fn.results.toList K)
 | none=>False):SemCall P f args σ K:=by
 intro B w0 I0 pr r I D w vs H hargs
 split at hv
 ·rename_i c hb
  obtain ⟨hle,hv⟩:=hv
  ·have hle:=Nat.le_of_ble_eq_true hle
   refine callsIn_of_wp_marks hf hb trivial ?_
   have hsz:vs.size=args.length:=hargs.1
   have S:SR B w0 I0 pr fn.ntmps r I D (env0 0 args) σ { tmps:=vs++Array.replicate (fn.ntmps-vs.size) undef,defers:=[] } w:=by
    refine ⟨H,by simp; omega,fun i=>?_⟩
    rw [Zga]
    simp only [Rl,if_true,Wv]
    cases hi:args[i]? with
    | none=>simp; exact .any _ _
    | some v =>
     have hlt:i<vs.size:=by rw [hsz]; exact (Qj.1 hi).1
     have:=hargs.2 i v vs[i] hi (by simp [hlt])
     simpa [Array.getD_eq_getD_getElem?,Array.getElem?_append,hlt] using this
   refine Rq (fun e a' w' hp=>?_) (hv Td B w0 I0 pr r I D _ w (.inl rfl) (fun l hl=>by cases hl) S)
   have fin:∀ (pr' : Nat->Obj->Prop) (ms:List Deferred) (env' : Env) (σ' : St) (r' : Locs) (I' : Imm) (D' : Nat->Prop),(∀ b o,pr b o->pr' b o)->Mk w pr' ms->ms.Pairwise (fun a b=>a.target≠b.target)->a'.defers=ms++[] ->
     (Got (Zbz cx.T env' σ'.get fn.results.toList) fun vs=>K (resV vs) σ')->SR B w0 I0 pr' fn.ntmps r' I' D' env' σ' a' w'->Step r D I w r' D' I' w' ->
     LeavesInM Td 0 P fn a'.tmps (fun e w'=>∃ x v σ' r' I' D',e = .returned x/\K v σ'/\HR B w0 I0 pr r' I' D' σ'.get σ'.next w'/\VR r' I' w' D' v x/\Step r D I w r' D' I' w') a'.defers .returning w':=by
    intro pr' ms env' σ' r' I' D' p1 m1 n1 d1 q1 s1 t1
    obtain ⟨us,hus,hk⟩:=Got.cases q1
    rw [d1,Pj]
    refine Zal hcx.tab ms (pr:=pr) m1 n1 (fun x o hx=>⟨p1 x o hx,(Qq.1 (H.prot x o hx).1).1⟩) s1.hr s1.er hus (fun x w2 H2 S2 V2=>?_)
    exact ⟨x,resV us,σ',r',I',D',rfl,hk,H2,V2,t1.trans S2⟩
   obtain ⟨pr',ms,env',σ',r',I',D',p1,m1,n1,d1,q1,s1,t1,z1⟩:=hp
   cases e with
   | normal=>exact fin pr' ms env' σ' r' I' D' p1 m1 n1 d1 q1 s1 t1
   | ret=>exact fin pr' ms env' σ' r' I' D' p1 m1 n1 d1 q1 s1 t1
   | _=>exact q1.elim
 ·exact hv.elim
def Zvf:Nat->Code->Code
 | n+1,.seq x y=>.seq x (Zvf n y)
 | 0,_=>.skip
 | _,_=>.refuse ""
def Zqs:Nat->Code->Code
 | n+1,.seq _ y=>Zqs n y
 | 0,c=>c
 | _,_=>.skip
inductive Cut (P:Program) (N:Nat) (c:Code) (env:Env) (σ:St) (Q:Exit->Env->St->Prop):Prop
 | mk (h:Awp P N c env σ Q):Cut P N c env σ Q
instance {c:Code} {env:Env} {σ:St} {Q:Exit->Env->St->Prop}:Stop (Cut P N c env σ Q):=⟨trivial⟩
theorem cutV {cx:Cx} (hcx:CxOK P cx) {hd:Hd} (hhd:HdOK P N hd):∀ (n:Nat) (c:Code) (env:Env) (σ:St) (Q:Exit->Env->St->Prop),Vk cx N hd (Zvf n c) env σ (seqQ (fun e s=>Cut P N (Zqs n c) e s Q) Q)->Awp P N c env σ Q
 | 0,c,env,σ,Q,hv=>by
  have hv:Cut P N (Zqs 0 c) env σ Q:=by cases c<;>exact hv
  have e:Zqs 0 c=c:=by cases c<;>rfl
  rw [e] at hv
  exact hv.1
 | n+1,.seq x y,env,σ,Q,hv=>by
  refine Awp.seq ((Yb hcx hhd x env σ _ hv).mono fun e env1 σ1 h=>?_)
  cases e with
  | normal=>exact cutV hcx hhd n y env1 σ1 Q h
  | _=>exact h
 | n+1,.skip,_,_,_,hv=>hv.elim
 | n+1,.region ..,_,_,_,hv=>hv.elim
 | n+1,.cond ..,_,_,_,hv=>hv.elim
 | n+1,.block ..,_,_,_,hv=>hv.elim
 | n+1,.loop ..,_,_,_,hv=>hv.elim
 | n+1,.rangeFunc ..,_,_,_,hv=>hv.elim
 | n+1,.exit ..,_,_,_,hv=>hv.elim
 | n+1,.ret ..,_,_,_,hv=>hv.elim
 | n+1,.scope ..,_,_,_,hv=>hv.elim
 | n+1,.label ..,_,_,_,hv=>hv.elim
 | n+1,.goto ..,_,_,_,hv=>hv.elim
 | n+1,.refuse ..,_,_,_,hv=>hv.elim
variable (Bs:Base P)
theorem Base.pvc (n:Nat) {sx:FuncId->Bool} {pc:PC} (hpc:PCOK P pc) {f:FuncId} {fn:Func} (hf:P.funcs[f]?=some fn) (h1:(fn.name == "runtime.NumGoroutine")=false) (h2:fn.body.isNone=false)
  {args:List AV} {res:PRes} (hids:Xj res.blks.length res.v=true) (hv:match fn.body with
   | some c=>cond (Sa args.length fn.ntmps) (Vk (cxV P Bs.T Bs.ok sx pc) fn.ntmps (hdV P Bs.T Bs.ok sx pc fn.ntmps) (Zvf n c) (env0 0 args) ⟨[],0⟩ (seqQ (fun e s=>Cut P fn.ntmps (Zqs n c) e s (retQ Bs.T fn.results.toList (fun v σ=>fA v fun v=>Ret res v σ))) (retQ Bs.T fn.results.toList (fun v σ=>fA v fun v=>Ret res v σ)))) False
   | none=>False):PCall P f args res:=by
 have hb:match fn.body with
   | some c=>Sa args.length fn.ntmps=true/\Awp P fn.ntmps c (env0 0 args) ⟨[],0⟩ (retQ Bs.T fn.results.toList (fun v σ=>fA v fun v=>Ret res v σ))
   | none=>False:=by
  revert hv
  generalize fn.body=bd
  intro hv
  cases bd with
  | none=>exact hv.elim
  | some c =>
   dsimp only at hv ⊢
   cases hle:Sa args.length fn.ntmps with
   | false=>rw [hle] at hv; exact hv.elim
   | true=>rw [hle] at hv; exact ⟨rfl,cutV (Zhq Bs.hT Bs.hok hpc) (Zll Bs.hT Bs.hok hpc Bs.hm _) n c _ _ _ hv⟩
 refine Zca (FnOK.of hf h1 h2) hids (SemCall.tag (Zum (Zhq (sx:=sx) Bs.hT Bs.hok hpc) hf hb) fun v σ h=>?_)
 rw [Zng] at h; exact h.1
theorem Base.cut (n:Nat) {sx:FuncId->Bool} {pc:PC} (hpc:PCOK P pc) {c:Code} {env:Env} {σ:St} {Q:Exit->Env->St->Prop} (hv:Vk (cxV P Bs.T Bs.ok sx pc) N (hdV P Bs.T Bs.ok sx pc N) (Zvf n c) env σ (seqQ (fun e s=>Cut P N (Zqs n c) e s Q) Q)):Awp P N c env σ Q :=
 cutV (Zhq Bs.hT Bs.hok hpc) (Zll Bs.hT Bs.hok hpc Bs.hm _) n c env σ Q hv
theorem Cut.go {c:Code} {env:Env} {σ:St} {Q:Exit->Env->St->Prop} (h:Awp P N c env σ Q):Cut P N c env σ Q:=⟨h⟩
theorem Cut.of {c:Code} {env env2:Env} {σ σ2:St} {Q:Exit->Env->St->Prop} (hr:Ren σ.next env σ env2 σ2) (h:Awp P N c env2 σ2 Q):Cut P N c env σ Q:=⟨h.ren hr⟩
end Go.Sx
