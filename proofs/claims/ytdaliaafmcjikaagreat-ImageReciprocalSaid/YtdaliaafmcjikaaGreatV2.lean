/- A part of the proof: lemmas. -/
import Derived.Test.YtdaliaafmcjikaaGreatV1
import Derived.Laws.FloatArith
set_option linter.unusedVariables false
set_option linter.unusedSimpArgs false
namespace Go.Sx
open Go Go.RowKit
variable {r r' : Locs} {D D' : Nat -> Prop} {I I' : Imm} {w w' w0 : World} {I0 : Imm} {B n n' k : Nat} {pr : Nat -> Obj -> Prop} {h : Nat -> ABlk} {P : Program}
theorem HR.kill (H : HR B w0 I0 pr r I D h n w) (id : Nat) : HR B w0 I0 pr r I D (hupd h id .dead) n w := by
 have hl : ∀ i,(hupd h id .dead i).live = true -> i ≠ id /\ (h i).live = true := by
  intro i hi
  by_cases e : i = id
  ·subst e; simp [hupd,ABlk.live] at hi
  ·simp only [hupd,e,if_false] at hi; exact ⟨e,hi⟩
 refine ⟨H.below,H.base,H.imm,H.dom,fun i hi => H.live i (hl i hi).2,fun i => ?_,fun i j hi hj => H.inj i j (hl i hi).2 (hl j hj).2,H.prot,fun b o hp => ⟨fun i hi => (H.protK b o hp).1 i (hl i hi).2,(H.protK b o hp).2⟩,H.immB⟩
 by_cases e : i = id
 ·subst e; simp [hupd,BlkOK]
 ·simp only [hupd,e,if_false]; exact H.blk i
theorem HR.newRow (H : HR B w0 I0 pr r I D h n w) (hk : ¬ D k) (hkn : k < n) {es cap : Nat} {elems : List (List AV)} {pu : Bool} (xs : Array Value) (e : TypeId) (h3 : ∀ (i : Nat) (e : List AV),elems[i]? = some e -> e.length = es) (hcap : elems.length <= cap) (hsz : cap * es <= xs.size)
  (h6 : ∀ (i : Nat) (e : List AV) (j : Nat) (c : AV),elems[i]? = some e -> e[j]? = some c -> ∃ v,xs[i * es + j]? = some v /\ VR r I w (fun x => pu = false /\ D x) c v) :
  ∃ r',HR B w0 I0 pr r' I (fun i => D i \/ i = k) (hupd h k (.row es elems true pu)) n (w.alloc (.cells xs e)) /\ Step r D I w r' (fun i => D i \/ i = k) I (w.alloc (.cells xs e)) /\ r' k = ⟨w.heap.size,0,cap,es,elems.length⟩ := by
 obtain ⟨H',S'⟩ := H.alloc (n' := n) hk hkn (Nat.le_refl _) (.cells xs e) ⟨w.heap.size,0,cap,es,elems.length⟩ rfl (.row es elems true pu) (fun r' D' st hr => by
  refine ⟨by rw [hr]; exact ⟨rfl,rfl⟩,by rw [hr]; exact hcap,h3,xs,e,(0,0),by rw [hr]; exact Yn _ _,by rw [hr]; simpa using hsz,?_,fun _ => ⟨by rw [hr]; exact H.base,?_,rfl⟩,by simp⟩
  ·intro i e' j c hi hj
   obtain ⟨v,a,b⟩ := h6 i e' j c hi hj
   exact ⟨v,by rw [hr]; simpa using a,b.mono ⟨fun id h => ⟨⟨h.1,(st.ids id h.2).1⟩,(st.ids id h.2).2⟩,st.imm,st.size⟩⟩
  ·intro o hi
   rw [hr] at hi
   have := H.imm _ _ hi
   simp at this)
 exact ⟨_,H',S',by simp [rupd]⟩
theorem HR.scribble (H : HR B w0 I0 pr r I D h n w) {es : Nat} {elems : List (List AV)} {pu : Bool} (hb : h k = .row es elems true pu) {vs : Array Value} {m : Nat} (hm : vs.size = m * es) (hc : elems.length + m <= (r k).cap) :
  ∃ cs : Array Value,∃ T,w.heap[(r k).blk]? = some (.cells cs T (0,0)) /\ (r k).off + elems.length * es + vs.size <= cs.size /\
   let w' := w.setRow (r k).blk (cs.toList.take ((r k).off + elems.length * es) ++ vs.toList ++ cs.toList.drop ((r k).off + elems.length * es + vs.toList.length)).toArray
   HR B w0 I0 pr r I D h n w' /\ Step r D I w r D I w' /\ ∀ j,j < vs.size -> w'.cell? ⟨(r k).blk,(r k).off + elems.length * es + j,none⟩ = vs[j]? := by
 have hB := H.blk k
 rw [hb] at hB
 obtain ⟨h1,h2,h3,cs,T,fz,h4,h5,h6,h7,_⟩ := hB
 obtain ⟨g1,g2,rfl⟩ := h7 rfl
 have hb1 : (r k).off + elems.length * es + vs.size <= cs.size := by
  have : (elems.length + m) * es <= (r k).cap * es := Nat.mul_le_mul_right _ hc
  have : (elems.length + m) * es = elems.length * es + m * es := Nat.add_mul _ _ _
  omega
 refine ⟨cs,T,h4,hb1,?_⟩
 intro w'
 have hh : w'.heap[(r k).blk]? = some (.cells (cs.toList.take ((r k).off + elems.length * es) ++ vs.toList ++ cs.toList.drop ((r k).off + elems.length * es + vs.toList.length)).toArray T (0,0)) := setRow_heap w _ cs _ T _ h4
 have hoth : ∀ b,b ≠ (r k).blk -> w'.heap[b]? = w.heap[b]? := fun b hne => setRow_other w _ _ _ hne
 have hget : ∀ q,(cs.toList.take ((r k).off + elems.length * es) ++ vs.toList ++ cs.toList.drop ((r k).off + elems.length * es + vs.toList.length)).toArray[q]? =
   if q < (r k).off + elems.length * es then cs[q]? else if q < (r k).off + elems.length * es + vs.toList.length then vs[q - ((r k).off + elems.length * es)]? else cs[q]? := by
  intro q
  have := Yj cs.toList vs.toList ((r k).off + elems.length * es) q (by simpa using hb1)
  simp only [List.getElem?_toArray]
  rw [this]
  simp
 have hsame : hupd h k (.row es elems true pu) = h := by
  funext i
  by_cases e : i = k
  ·subst e; simp [hupd,hb]
  ·simp [hupd,e]
 have := H.write (k := k) (w' := w') (by rw [hb]; rfl) ⟨rfl,rfl,rfl,by simp [w'],fun b hlt => hoth b (by omega)⟩ g1 (fun o ho => (g2 o ho).elim) (fun o ho => by
  rw [h4] at ho
  obtain rfl := Option.some.inj ho
  exact ⟨fun l => by simp,fun l => by simp⟩) (size_setRow _ _ _) hoth (.row es elems true pu) (fun st => by
  refine ⟨h1,h2,h3,_,T,(0,0),hh,by simp; omega,fun i e j c he hj => ?_,fun _ => ⟨g1,g2,rfl⟩,by simp⟩
  obtain ⟨v,a,b⟩ := h6 i e j c he hj
  refine ⟨v,?_,b.mono ⟨fun id h => ⟨h,rfl⟩,st.imm,st.size⟩⟩
  have hil : i < elems.length := (List.getElem?_eq_some_iff.1 he).1
  have hjl : j < es := by have := h3 i e he; have := (List.getElem?_eq_some_iff.1 hj).1; omega
  have : (i + 1) * es <= elems.length * es := Nat.mul_le_mul_right _ hil
  have : (i + 1) * es = i * es + es := Nat.succ_mul _ _
  rw [hget,if_pos (by omega)]; exact a)
 rw [hsame] at this
 refine ⟨this.1,this.2,fun j hj => ?_⟩
 have e : w'.cell? ⟨(r k).blk,(r k).off + elems.length * es + j,none⟩ = (cs.toList.take ((r k).off + elems.length * es) ++ vs.toList ++ cs.toList.drop ((r k).off + elems.length * es + vs.toList.length)).toArray[(r k).off + elems.length * es + j]? := by
  unfold World.cell?
  simp only [hh]
  rfl
 rw [e,hget,if_neg (by omega),if_pos (by simpa using hj)]
 congr 1; omega
theorem HR.moveExt (H : HR B w0 I0 pr r I D h n w) (hk : ¬ D k) (hkn : k < n) {id es : Nat} {elems new : List (List AV)} {pu pn : Bool} (hb : h id = .row es elems true pu) {idx : Nat} (hx : idx <= elems.length) (hcap : elems.length + new.length <= (r id).cap)
  (hn3 : ∀ (i : Nat) (e : List AV),new[i]? = some e -> e.length = es)
  (hn6 : ∀ (i : Nat) (e : List AV) (j : Nat) (c : AV),new[i]? = some e -> e[j]? = some c -> ∃ v,w.cell? ⟨(r id).blk,(r id).off + elems.length * es + (i * es + j),none⟩ = some v /\ VR r I w (fun x => pn = false /\ D x) c v) :
  HR B w0 I0 pr (rupd r k ⟨(r id).blk,(r id).off + idx * es,(r id).cap - idx,es,elems.length - idx + new.length⟩) I (fun i => D i \/ i = k) (hupd (hupd h id .dead) k (.row es (elems.drop idx ++ new) true (pu && pn))) n w /\
   Step r D I w (rupd r k ⟨(r id).blk,(r id).off + idx * es,(r id).cap - idx,es,elems.length - idx + new.length⟩) (fun i => D i \/ i = k) I w := by
 have hlive : (h id).live = true := by rw [hb]; rfl
 have hid := H.live id hlive
 have hne : id ≠ k := fun e => hk (e ▸ hid)
 have hst : Step r D I w (rupd r k ⟨(r id).blk,(r id).off + idx * es,(r id).cap - idx,es,elems.length - idx + new.length⟩) (fun i => D i \/ i = k) I w := by
  refine ⟨fun i hd => ⟨.inl hd,?_⟩,fun b o hi => ⟨hi,rfl⟩,Nat.le_refl _⟩
  have : i ≠ k := fun e => hk (e ▸ hd)
  simp [rupd,this]
 have hl : ∀ i,i ≠ k -> (hupd (hupd h id .dead) k (.row es (elems.drop idx ++ new) true (pu && pn)) i).live = true -> i ≠ id /\ (h i).live = true := by
  intro i hik hi
  simp only [hupd,hik,if_false] at hi
  by_cases e : i = id
  ·subst e; simp [ABlk.live] at hi
  ·simp only [e,if_false] at hi; exact ⟨e,hi⟩
 have hB := H.blk id
 rw [hb] at hB
 obtain ⟨h1,h2,h3,cs,T,fz,h4,h5,h6,h7,_⟩ := hB
 obtain ⟨g1,g2,rfl⟩ := h7 rfl
 refine ⟨⟨H.below,H.base,H.imm,?_,?_,?_,?_,H.prot,fun b o hp => ⟨fun i hi => ?_,(H.protK b o hp).2⟩,H.immB⟩,hst⟩
 ·rintro i (hd | rfl)
  ·have e : i ≠ k := fun e => hk (e ▸ hd)
   simp only [rupd,e,if_false]; exact H.dom i hd
  ·simp only [rupd,if_true]; exact ⟨hkn,(H.dom id hid).2⟩
 ·intro i hi
  by_cases e : i = k
  ·exact .inr e
  ·exact .inl (H.live i (hl i e hi).2)
 ·intro i
  by_cases e : i = k
  ·subst e
   simp only [hupd,if_true]
   refine ⟨by simp [rupd],by simp [rupd]; omega,?_,cs,T,(0,0),by simp only [rupd,if_true]; exact h4,?_,?_,fun _ => ⟨by simp only [rupd,if_true]; exact g1,fun o => by simp only [rupd,if_true]; exact g2 o,rfl⟩,by simp⟩
   ·intro i e he
    rw [List.getElem?_append] at he
    split at he
    ·rw [List.getElem?_drop] at he; exact h3 _ e he
    ·exact hn3 _ e he
   ·simp only [rupd,if_true]
    have : ((r id).cap - idx) * es + idx * es = (r id).cap * es := by rw [<-Nat.add_mul]; congr 1; omega
    omega
   ·intro q e j c he hj
    simp only [rupd,if_true]
    rw [List.getElem?_append] at he
    split at he
    ·rw [List.getElem?_drop] at he
     obtain ⟨v,a,b⟩ := h6 _ e j c he hj
     refine ⟨v,?_,b.mono ⟨fun i hd => ⟨⟨by simp [hd.1],.inl hd.2⟩,(hst.ids i hd.2).2⟩,fun _ _ h => ⟨h,rfl⟩,Nat.le_refl _⟩⟩
     rw [<-a]
     congr 1
     rw [Nat.add_mul]; omega
    ·rename_i hq
     simp only [List.length_drop] at he hq
     obtain ⟨v,a,b⟩ := hn6 _ e j c he hj
     refine ⟨v,?_,b.mono ⟨fun i hd => ⟨⟨by simp [hd.1],.inl hd.2⟩,(hst.ids i hd.2).2⟩,fun _ _ h => ⟨h,rfl⟩,Nat.le_refl _⟩⟩
     simp only [World.cell?,h4] at a
     rw [<-a]
     congr 1
     have e1 : q = (elems.length - idx) + (q - (elems.length - idx)) := by omega
     have e2 : q * es = (elems.length - idx) * es + (q - (elems.length - idx)) * es := by rw [<-Nat.add_mul,<-e1]
     have e3 : (elems.length - idx) * es + idx * es = elems.length * es := by rw [<-Nat.add_mul]; congr 1; omega
     omega
  ·simp only [hupd,e,if_false]
   by_cases e2 : i = id
   ·simp [e2,BlkOK]
   ·simp only [e2,if_false]
    exact (H.blk i).mono hst (by simp [rupd,e]) (fun _ => rfl) (fun _ _ _ _ _ hx => hx)
 ·intro i j hi hj hij
  by_cases e : i = k <;> by_cases e' : j = k
  ·omega
  ·obtain ⟨q1,q2⟩ := hl j e' hj
   simp only [rupd,e,e',if_true,if_false]
   exact H.inj id j hlive q2 (fun x => q1 x.symm)
  ·obtain ⟨q1,q2⟩ := hl i e hi
   simp only [rupd,e,e',if_true,if_false]
   exact H.inj i id q2 hlive q1
  ·simp only [rupd,e,e',if_false]
   exact H.inj i j (hl i e hi).2 (hl j e' hj).2 hij
 ·by_cases e : i = k
  ·simp only [rupd,e,if_true]; exact (H.protK b o hp).1 id hlive
  ·simp only [rupd,e,if_false]; exact (H.protK b o hp).1 i (hl i e hi).2
variable {r r' : Locs} {D D' : Nat -> Prop} {I I' : Imm} {w w' w0 : World} {I0 : Imm} {B n n' k : Nat} {pr : Nat -> Obj -> Prop} {h : Nat -> ABlk} {P : Program}
def Yu (es : Nat) (h : Nat -> ABlk) : AV -> Option (List (List AV) × Bool)
 | .nils => some ([],true)
 | .isl es' elems => cond (Nat.beq es es') (some (elems,true)) none
 | .asl id idx len => match h id with
  | .row es' elems _ pu => cond (Nat.beq es es') (some ((elems.drop idx).take len,pu)) none
  | _ => none
 | .bsl id idx sub len _ => match h id with
  | .row _ elems _ pu => match elems[idx]? with
   | some cells => cond (Nat.ble (sub + len * es) cells.length) (some (chunks es len (cells.drop sub),pu)) none
   | none => none
  | _ => none
 | _ => none
theorem Zih {α : Type} {a b : Nat} {x y : α} (h : cond (Nat.beq a b) (some x) none = some y) : a = b /\ x = y := by
 cases hq : Nat.beq a b with
 | true => rw [hq] at h; exact ⟨Nat.eq_of_beq_eq_true hq,Option.some.inj h⟩
 | false => rw [hq] at h; cases h
theorem Ya9 {α : Type} {a b : Nat} {x y : α} (h : cond (Nat.ble a b) (some x) none = some y) : a <= b /\ x = y := by
 cases hq : Nat.ble a b with
 | true => rw [hq] at h; exact ⟨Nat.le_of_ble_eq_true hq,Option.some.inj h⟩
 | false => rw [hq] at h; cases h
structure ElsR (r : Locs) (I : Imm) (w : World) (D : Nat -> Prop) (es : Nat) (els : List (List AV)) (pu : Bool) (a : Option Addr) (vs : List Value) : Prop where
 len : vs.length = els.length * es
 each : ∀ (i : Nat) (e : List AV),els[i]? = some e -> e.length = es
 none : a = none -> els = []
 read : ∀ b,a = some b -> ∀ (j : Nat) (v : Value),vs[j]? = some v -> w.cell? (b.add j) = some v
 cells : ∀ (i : Nat) (e : List AV) (j : Nat) (c : AV),els[i]? = some e -> e[j]? = some c -> ∃ v,vs[i * es + j]? = some v /\ VR r I w (fun x => pu = false /\ D x) c v
theorem Zbf (H : HR B w0 I0 pr r I D h n w) {es : Nat} {v : AV} {x : Value} (hv : VR r I w D v x) {els : List (List AV)} {pu : Bool} (he : Yu es h v = some (els,pu)) :
  ∃ a c vs,x = .slice a els.length c /\ ElsR r I w D es els pu a vs := by
 have mk : ∀ (a : Addr) (val : Nat -> Value) (els : List (List AV)) (pu : Bool),(∀ (i : Nat) (e : List AV),els[i]? = some e -> e.length = es) ->
   (∀ j,j < els.length * es -> w.cell? (a.add j) = some (val j)) -> (∀ (i : Nat) (e : List AV) (j : Nat) (c : AV),els[i]? = some e -> e[j]? = some c -> VR r I w (fun x => pu = false /\ D x) c (val (i * es + j))) ->
   ElsR r I w D es els pu (some a) ((List.range (els.length * es)).map val) := by
  intro a val els pu h1 h2 h3
  refine ⟨by simp,h1,(fun h => by cases h),fun b hb j v hj => ?_,fun i e j c hi hj => ⟨val (i * es + j),?_,h3 i e j c hi hj⟩⟩
  ·cases hb
   simp only [List.getElem?_map,Option.map_eq_some_iff] at hj
   obtain ⟨q,hq,rfl⟩ := hj
   have hlt : j < els.length * es := by have := (List.getElem?_eq_some_iff.1 hq).1; simpa using this
   have : q = j := by rw [List.getElem?_range hlt] at hq; exact (Option.some.inj hq).symm
   subst this
   exact h2 q hlt
  ·have hil := (List.getElem?_eq_some_iff.1 hi).1
   have hjl : j < es := by have := h1 i e hi; have := (List.getElem?_eq_some_iff.1 hj).1; omega
   have : (i + 1) * es <= els.length * es := Nat.mul_le_mul_right _ hil
   have : (i + 1) * es = i * es + es := Nat.succ_mul _ _
   rw [List.getElem?_map,List.getElem?_range (by omega)]; rfl
 have rowdiv : ∀ j m : Nat,j < m * es -> j / es < m /\ j % es < es /\ j / es * es + j % es = j := by
  intro j m hj
  have hes : 0 < es := by rcases Nat.eq_zero_or_pos es with e | e; subst e; simp at hj; exact e
  exact ⟨(Nat.div_lt_iff_lt_mul hes).2 hj,Nat.mod_lt _ hes,by rw [Nat.mul_comm]; exact Nat.div_add_mod _ _⟩
 cases hv <;> simp only [Yu,reduceCtorEq] at he
 case nils =>
  simp only [Option.some.injEq,Prod.mk.injEq] at he
  obtain ⟨rfl,rfl⟩ := he
  exact ⟨_,_,[],rfl,⟨by simp,fun i e hi => by simp at hi,fun _ => rfl,fun b hb => (by cases hb),fun i e j c hi => by simp at hi⟩⟩
 case isl0 es' a cap =>
  obtain ⟨q,he2⟩ := Zih (x := (([] : List (List AV)),true)) (y := (els,pu)) he
  clear he
  cases he2
  exact ⟨_,_,[],rfl,⟨by simp,fun i e hi => by simp at hi,fun _ => rfl,fun b hb j v hj => by simp at hj,fun i e j c hi => by simp at hi⟩⟩
 case isl es' elems b o cap val hl h0 h1 h2 =>
  obtain ⟨q,he2⟩ := Zih (x := (elems,true)) (y := (els,pu)) he
  clear he
  subst q
  cases he2
  refine ⟨_,_,_,rfl,mk ⟨b,o,none⟩ (fun j => val (j / es) (j % es)) els true h0 (fun j hj => ?_) (fun i e j c hi hj => ?_)⟩
  ·obtain ⟨q1,q2,q3⟩ := rowdiv j _ hj
   have hi : els[j / es]? = some els[j / es] := List.getElem?_eq_getElem q1
   have hjl : j % es < (els[j / es]).length := by have := h0 _ _ hi; omega
   have := (h1 _ _ _ _ hi (List.getElem?_eq_getElem hjl)).2
   have e1 : (⟨b,o,none⟩ : Addr).add j = ⟨b,o + j / es * es + j % es,none⟩ := by
    rw [Xo]; congr 1; omega
   rw [e1]; exact this
  ·have hjl : j < es := by have := h0 i e hi; have := (List.getElem?_eq_some_iff.1 hj).1; omega
   have e1 : (i * es + j) / es = i := by rw [Nat.mul_comm,Nat.mul_add_div (by omega),Nat.div_eq_of_lt hjl]; rfl
   have e2 : (i * es + j) % es = j := by rw [Nat.mul_comm,Nat.mul_add_mod,Nat.mod_eq_of_lt hjl]
   rw [e1,e2]
   exact (h2 i e j c hi hj).weak fun _ h => h.elim
 case asl id idx len hd hc =>
  split at he
  ·rename_i es' elems mt pu' hb
   obtain ⟨q,he2⟩ := Zih (x := ((elems.drop idx).take len,pu')) (y := (els,pu)) he
   clear he
   subst q
   cases he2
   have hB := H.blk id
   rw [hb] at hB
   obtain ⟨h1,h2,h3,cs,T,fz,h4,h5,h6,_⟩ := hB
   rw [h1.2] at hd
   have hlen : ((elems.drop idx).take len).length = len := by simp; omega
   have hgetE : ∀ (i : Nat) (e : List AV),((elems.drop idx).take len)[i]? = some e -> i < len /\ elems[idx + i]? = some e := by
    intro i e hi
    rw [List.getElem?_take] at hi
    split at hi
    ·rename_i hlt; rw [List.getElem?_drop] at hi; exact ⟨hlt,hi⟩
    ·cases hi
   have key := mk ⟨(r id).blk,(r id).off + idx * es,none⟩ (fun j => cs.getD ((r id).off + idx * es + j) undef) ((elems.drop idx).take len) pu (fun i e hi => h3 _ e (hgetE i e hi).2) (fun j hj => ?_) (fun i e j c hi hj => ?_)
   ·rw [hlen] at key ⊢
    have he1 : (r id).es = es := h1.1
    refine ⟨_,_,_,by rw [he1],key⟩
   ·rw [hlen] at hj
    have : (idx + len) * es <= (r id).cap * es := Nat.mul_le_mul_right _ (by omega)
    have : (idx + len) * es = idx * es + len * es := Nat.add_mul _ _ _
    have hlt : (r id).off + idx * es + j < cs.size := by omega
    rw [Xo]; simp [World.cell?,h4,hlt]
   ·obtain ⟨q1,q2⟩ := hgetE i e hi
    obtain ⟨v,a,b⟩ := h6 _ e j c q2 hj
    have e1 : (r id).off + (idx + i) * es + j = (r id).off + idx * es + (i * es + j) := by rw [Nat.add_mul]; omega
    rw [e1] at a
    have : cs.getD ((r id).off + idx * es + (i * es + j)) undef = v := by simp [a]
    rw [this]; exact b
  ·cases he
 case bsl id idx sub len cap hd =>
  split at he
  ·rename_i es' elems mt pu' hb
   split at he
   ·rename_i cells hcells
    obtain ⟨q,he2⟩ := Ya9 (x := (chunks es len (cells.drop sub),pu')) (y := (els,pu)) he
    clear he
    cases he2
    have hB := H.blk id
    rw [hb] at hB
    obtain ⟨h1,h2,h3,cs,T,fz,h4,h5,h6,_⟩ := hB
    have he1 : (r id).es = es' := h1.1
    have hcl := h3 idx cells hcells
    have hil := (List.getElem?_eq_some_iff.1 hcells).1
    have hlen : (chunks es len (cells.drop sub)).length = len := Vz _ _ _
    have hget : ∀ (i : Nat) (e : List AV),(chunks es len (cells.drop sub))[i]? = some e -> i < len /\ e.length = es /\ ∀ (j : Nat) (c : AV),e[j]? = some c -> cells[sub + i * es + j]? = some c := by
     intro i e hi
     have hlt : i < len := by have := (List.getElem?_eq_some_iff.1 hi).1; omega
     have hmul : (i + 1) * es <= len * es := Nat.mul_le_mul_right _ hlt
     have hs : (i + 1) * es = i * es + es := Nat.succ_mul _ _
     have := Zep es len _ i e hi
     subst this
     refine ⟨hlt,by simp; omega,fun j c hj => ?_⟩
     rw [List.getElem?_take] at hj
     split at hj
     ·rw [List.getElem?_drop,List.getElem?_drop] at hj
      rw [<-hj]; congr 1; omega
     ·cases hj
    have key := mk ⟨(r id).blk,(r id).off + idx * (r id).es + sub,none⟩ (fun j => cs.getD ((r id).off + idx * (r id).es + sub + j) undef) (chunks es len (cells.drop sub)) pu (fun i e hi => (hget i e hi).2.1) (fun j hj => ?_) (fun i e j c hi hj => ?_)
    ·rw [hlen] at key ⊢
     exact ⟨_,_,_,rfl,key⟩
    ·rw [hlen] at hj
     have : (idx + 1) * es' <= (r id).cap * es' := Nat.mul_le_mul_right _ (by omega)
     have : (idx + 1) * es' = idx * es' + es' := Nat.succ_mul _ _
     have hlt : (r id).off + idx * (r id).es + sub + j < cs.size := by rw [he1]; omega
     rw [Xo]; simp [World.cell?,h4,hlt]
    ·obtain ⟨q1,q2,q3⟩ := hget i e hi
     obtain ⟨v,a,b⟩ := h6 idx cells (sub + i * es + j) c hcells (q3 j c hj)
     have e1 : (r id).off + idx * es' + (sub + i * es + j) = (r id).off + idx * (r id).es + sub + (i * es + j) := by rw [he1]; omega
     rw [e1] at a
     have : cs.getD ((r id).off + idx * (r id).es + sub + (i * es + j)) undef = v := by simp [a]
     rw [this]; exact b
   ·cases he
  ·cases he
variable {r r' : Locs} {D D' : Nat -> Prop} {I I' : Imm} {w w' w0 : World} {I0 : Imm} {B n n' k : Nat} {pr : Nat -> Obj -> Prop} {h : Nat -> ABlk} {P : Program}
theorem ElsR.first {es : Nat} {els : List (List AV)} {pu : Bool} {a : Option Addr} {vs : List Value} (E : ElsR r I w D es els pu a vs) {w' : World} (hw : ∀ x,w'.cell? x = w.cell? x) (c : Nat) :
  (Builtin.firstCells es els.length (.slice a els.length c)).run P w' = .ok vs.toArray w' := by
 cases a with
 | none =>
  have := E.none rfl
  subst this
  have h0 : vs = [] := by have := E.len; simpa using this
  subst h0
  exact run_firstCells_none w' es _ _ _
 | some b => exact run_firstCells_some w' es els.length b _ c vs E.len (fun j v hj => by rw [hw]; exact E.read b rfl j v hj)
theorem Zh9 {t tx ty e e' : TypeId} (ht : P.underlying t = some (.slice e)) (htx : P.underlying tx = some (.slice e')) {i : TypeInfo} (hi : P.info? e = some i) {z : Value} (hz : i.zero = some z) {base a : Option Addr} {sCap c : Nat}
  {xs ys : List (List AV)} {px py : Bool} {olds news : List Value} (Ex : ElsR r I w D i.size xs px base olds) (Ey : ElsR r' I' w D' i.size ys py a news)
  (hg : sCap < xs.length + ys.length) (h63 : xs.length + ys.length <= 1000000000000) (h48 : (xs.length + ys.length) * i.bytes <= 140737488355328) :
  (Builtin.append_ #[t,tx] ty #[.slice base xs.length sCap,.slice a ys.length c]).run P w =
   .ok (.slice (some ⟨w.heap.size,0,none⟩) (xs.length + ys.length) (grownCap w (xs.length + ys.length) sCap e))
    (w.drew.alloc (.cells (olds.toArray ++ news.toArray ++ Builtin.zeroCells z.cells (grownCap w (xs.length + ys.length) sCap e - (xs.length + ys.length))) e)) := by
 have hn : ¬ (xs.length + ys.length <= sCap) := by omega
 have h63' : ¬ (9223372036854775807 < ((xs.length : Int) + (ys.length : Int))) := by omega
 have h48' : ¬ (281474976710656 < Builtin.nextslicecap (xs.length + ys.length) sCap * i.bytes) := by
  have := growslice_fits hg h48; omega
 have hf := Ey.first (P := P) (w' := w.drew) (fun _ => rfl) c
 have hfo := Ex.first (P := P) (w' := w.drew) (fun _ => rfl) sCap
 simp [Builtin.append_,run_underlying ht,run_underlying htx,sizeOf,typeInfo,zeroValue,hi,hz,Builtin.lenOf,hn,h63',h48',Question.forced,hf,hfo,newRow,grownCap]
 congr 2
 apply Array.ext'
 simp [List.append_assoc]
theorem Zdj {t tx ty e e' : TypeId} (ht : P.underlying t = some (.slice e)) (htx : P.underlying tx = some (.slice e')) {i : TypeInfo} (hi : P.info? e = some i) {b : Addr} {a : Option Addr} {sCap c m : Nat}
  {ys : List (List AV)} {py : Bool} {news : List Value} (Ey : ElsR r' I' w D' i.size ys py a news) (hg : m + ys.length <= sCap) {w' : World} (hst : (storeCells (b.add (m * i.size)) news 0).run P w = .ok () w') :
  (Builtin.append_ #[t,tx] ty #[.slice (some b) m sCap,.slice a ys.length c]).run P w = .ok (.slice (some b) (m + ys.length) sCap) w' := by
 have hf := Ey.first (P := P) (w' := w) (fun _ => rfl) c
 simp [Builtin.append_,run_underlying ht,run_underlying htx,sizeOf,typeInfo,hi,Builtin.lenOf,hg,hf,hst]
theorem Zaw {t tx ty e e' : TypeId} (ht : P.underlying t = some (.slice e)) (htx : P.underlying tx = some (.slice e')) {i : TypeInfo} (hi : P.info? e = some i) {base a : Option Addr} {sCap c m : Nat} (hm : m <= sCap) :
  (Builtin.append_ #[t,tx] ty #[.slice base m sCap,.slice a 0 c]).run P w = .ok (.slice base m sCap) w := by
 have hf : (Builtin.firstCells i.size 0 (.slice a 0 c)).run P w = .ok #[] w := by
  cases a with
  | none => exact run_firstCells_none w _ _ _ _
  | some b => simpa using run_firstCells_some (P := P) w i.size 0 b 0 c [] (by simp) (fun j v hj => by simp at hj)
 cases base <;> simp [Builtin.append_,run_underlying ht,run_underlying htx,sizeOf,typeInfo,hi,Builtin.lenOf,hm,hf,storeCells]
def Vc (ys : List (List AV)) : Bool := ys.all fun e => e.all AV.one
def Zho (k : Nat) (h : Nat -> ABlk) (te : TI) (x y : AV) : Option (AV × Eff) :=
 match Yu te.size h y with
 | some (ys,py) => match ys with
  | [] => match x with
   | .nils => some (.nils,.none)
   | .asl id idx len => match h id with
    | .row _ _ _ _ => some (.asl id idx len,.none)
    | _ => none
   | _ => none
  | y0 :: ys => match Yu te.size h x with
   | some (xs,px) => cond (Nat.ble (xs.length + (y0 :: ys).length) 1000000000000 && Nat.ble ((xs.length + (y0 :: ys).length) * te.bytes) 140737488355328) (match x with
    | .nils => some (.asl k 0 (xs.length + (y0 :: ys).length),.add (.row te.size (xs ++ (y0 :: ys)) true (px && py)))
    | .asl id idx len => match h id with
     | .row _ elems true _ => cond (Nat.beq (idx + len) elems.length && Vc (y0 :: ys)) (some (.asl k 0 (xs.length + (y0 :: ys).length),.app id (.row te.size (xs ++ (y0 :: ys)) true (px && py)))) none
     | _ => none
    | .bsl _ _ _ len cap => cond (Nat.beq len cap) (some (.asl k 0 (xs.length + (y0 :: ys).length),.add (.row te.size (xs ++ (y0 :: ys)) true (px && py)))) none
    | _ => none) none
   | none => none
 | none => none
theorem Zql {T : Tab} (hT : TabOK P T) {t tx ty e e' : TypeId} (ht : P.underlying t = some (.slice e)) (htx : P.underlying tx = some (.slice e')) {te : TI} (hte : T e = some te) {h0 : Nat -> ABlk} (H : HR B w0 I0 pr r I D h0 n w) (hk : ¬ D k) (hkn : k < n) {base a : Option Addr} {sCap c : Nat}
  {xs ys : List (List AV)} {px py : Bool} {olds news : List Value} (Ex : ElsR r I w D te.size xs px base olds) (Ey : ElsR r I w D te.size ys py a news)
  (hg : sCap < xs.length + ys.length) (h63 : xs.length + ys.length <= 1000000000000) (h48 : (xs.length + ys.length) * te.bytes <= 140737488355328) :
  ∃ x w' r',(Builtin.append_ #[t,tx] ty #[.slice base xs.length sCap,.slice a ys.length c]).run P w = .ok x w' /\ HR B w0 I0 pr r' I (fun i => D i \/ i = k) (hupd h0 k (.row te.size (xs ++ ys) true (px && py))) n w' /\
   Step r D I w r' (fun i => D i \/ i = k) I w' /\ VR r' I w' (fun i => D i \/ i = k) (.asl k 0 (xs.length + ys.length)) x := by
 obtain ⟨i,hi,g1,g2,z,hz,g3,_⟩ := hT.info e te hte
 rw [<-g1] at Ex Ey
 rw [<-g2] at h48
 have hrun := Zh9 (ty := ty) ht htx hi hz Ex Ey (c := c) hg h63 h48
 have hcap := grownCap_ge w (xs.length + ys.length) sCap e
 rw [g1] at Ex Ey
 obtain ⟨r',H',S',hr⟩ := H.drew.newRow (k := k) (es := te.size) (cap := grownCap w (xs.length + ys.length) sCap e) (elems := xs ++ ys) (pu := px && py) hk hkn
  (olds.toArray ++ news.toArray ++ Builtin.zeroCells z.cells (grownCap w (xs.length + ys.length) sCap e - (xs.length + ys.length))) e (fun i e he => by
   rw [List.getElem?_append] at he
   split at he
   ·exact Ex.each _ _ he
   ·exact Ey.each _ _ he) (by simpa using hcap) (by
   have hz' : (Builtin.zeroCells z.cells (grownCap w (xs.length + ys.length) sCap e - (xs.length + ys.length))).size = (grownCap w (xs.length + ys.length) sCap e - (xs.length + ys.length)) * te.size := by
    simp [Builtin.zeroCells,g3]
   have e1 : (grownCap w (xs.length + ys.length) sCap e) * te.size = xs.length * te.size + ys.length * te.size + (grownCap w (xs.length + ys.length) sCap e - (xs.length + ys.length)) * te.size := by
    rw [<-Nat.add_mul,<-Nat.add_mul]; congr 1; omega
   simp only [Array.size_append,hz',List.size_toArray,Ex.len,Ey.len]
   omega) (fun i e j c hi hj => by
   rw [List.getElem?_append] at hi
   split at hi
   ·rename_i hlt
    obtain ⟨v,a,b⟩ := Ex.cells i e j c hi hj
    have hl := (List.getElem?_eq_some_iff.1 a).1
    refine ⟨v,?_,b.mono ⟨fun id h => ⟨⟨by simp [h.1],h.2⟩,rfl⟩,fun _ _ h => ⟨h,rfl⟩,Nat.le_refl _⟩⟩
    rw [Array.getElem?_append_left (by simp; omega),Array.getElem?_append_left (by simpa using hl)]
    simpa using a
   ·rename_i hge
    obtain ⟨v,a,b⟩ := Ey.cells (i - xs.length) e j c hi hj
    have hl := (List.getElem?_eq_some_iff.1 a).1
    have e1 : i * te.size = xs.length * te.size + (i - xs.length) * te.size := by rw [<-Nat.add_mul]; congr 1; omega
    have e2 := Ex.len
    refine ⟨v,?_,b.mono ⟨fun id h => ⟨⟨by simp [h.1],h.2⟩,rfl⟩,fun _ _ h => ⟨h,rfl⟩,Nat.le_refl _⟩⟩
    rw [Array.getElem?_append_left (by simp; omega),Array.getElem?_append_right (by simp; omega)]
    rw [show i * te.size + j - olds.toArray.size = (i - xs.length) * te.size + j by simp; omega]
    simpa using a)
 refine ⟨_,_,r',hrun,H',(Step.drew r D I w).trans S',?_⟩
 have := VR.asl (r := r') (I := I) (w := w.drew.alloc (.cells (olds.toArray ++ news.toArray ++ Builtin.zeroCells z.cells (grownCap w (xs.length + ys.length) sCap e - (xs.length + ys.length))) e)) (fun i => D i \/ i = k) k 0 (xs.length + ys.length) (.inr rfl) (by rw [hr]; simp)
 rw [hr] at this
 simpa using this
theorem Zh0 {T : Tab} (hT : TabOK P T) {t tx ty e e' : TypeId} (ht : P.underlying t = some (.slice e)) (htx : P.underlying tx = some (.slice e')) {te : TI} (hte : T e = some te) (H : HR B w0 I0 pr r I D h n w) (hk : ¬ D k) (hkn : k < n)
  {x y res : AV} {u v : Value} (hx : VR r I w D x u) (hy : VR r I w D y v) {eff : Eff} (ha : Zho k h te x y = some (res,eff)) : Gives P B w0 I0 pr r I D h n k (Builtin.append_ #[t,tx] ty #[u,v]) w res eff := by
 obtain ⟨i,hi,g1,g2,z,hz,g3,_⟩ := hT.info e te hte
 unfold Zho at ha
 split at ha
 ·rename_i ys py hys
  obtain ⟨a,c,news,rfl,Ey⟩ := Zbf H hy hys
  split at ha
  ·
   split at ha
   ·cases ha
    cases hx
    exact Gives.same H (Zaw ht htx hi (Nat.le_refl _)) (.nils _)
   ·rename_i id idx len
    split at ha
    ·rename_i es' elems mt pu hb
     cases ha
     have hB := H.blk id
     rw [hb] at hB
     have hc1 := hB.1.2
     have hc2 := hB.2.1
     have hx' := hx
     cases hx with
     | asl _ _ _ _ hd hc => exact Gives.same H (Zaw ht htx hi (by omega)) hx'
    ·cases ha
   ·cases ha
  ·rename_i y0 ys
   split at ha
   ·rename_i xs px hxs
    obtain ⟨base,sCap,olds,rfl,Ex⟩ := Zbf H hx hxs
    obtain ⟨hb,ha2⟩ := Zb ha
    clear ha
    have ha := ha2
    clear ha2
    simp only [Bool.and_eq_true] at hb
    have h63 := Nat.le_of_ble_eq_true hb.1
    have h48 := Nat.le_of_ble_eq_true hb.2
    have grow : sCap < xs.length + (y0 :: ys).length -> ∀ (h0 : Nat -> ABlk),HR B w0 I0 pr r I D h0 n w -> ∀ eff : Eff,eff.adds = true -> eff.go k h = hupd h0 k (.row te.size (xs ++ (y0 :: ys)) true (px && py)) ->
      Gives P B w0 I0 pr r I D h n k (Builtin.append_ #[t,tx] ty #[.slice base xs.length sCap,.slice a (y0 :: ys).length c]) w (.asl k 0 (xs.length + (y0 :: ys).length)) eff := by
     intro hg h0 H0 eff he1 he2
     obtain ⟨x,w',r',q1,q2,q3,q4⟩ := Zql (ty := ty) (c := c) hT ht htx hte H0 hk hkn Ex Ey hg h63 h48
     have hD : (fun i => D i \/ (eff.adds = true /\ i = k)) = (fun i => D i \/ i = k) := funext fun i => by simp [he1]
     unfold Gives
     rw [hD,he2]
     exact ⟨x,w',r',q1,q2,q3,q4⟩
    split at ha
    ·cases ha
     have : sCap = 0 := by
      generalize hq : (Value.slice base xs.length sCap) = q at hx
      cases hx
      injection hq
     subst this
     exact grow (by simp only [List.length_cons]; omega) h H _ rfl rfl
    ·rename_i id idx len
     split at ha
     ·rename_i es' elems pu hbk
      obtain ⟨hc1,ha2⟩ := Zb ha
      clear ha
      have ha := ha2
      clear ha2
      simp only [Bool.and_eq_true] at hc1
      have hc2 := Nat.eq_of_beq_eq_true hc1.1
      cases ha
      by_cases hg : sCap < xs.length + (y0 :: ys).length
      ·exact grow hg _ (H.kill id) _ rfl rfl
      ·have hx0 := hx
       simp only [Yu,hbk] at hxs
       obtain ⟨e1,e2⟩ := Zih (x := ((elems.drop idx).take len,pu)) (y := (xs,px)) hxs
       injection e2 with e2 e3
       have e4 : (elems.drop idx).take len = elems.drop idx := by rw [List.take_of_length_le]; simp; omega
       rw [e4] at e2
       subst e1
       subst e3
       have hlx : xs.length = len := by rw [<-e2]; simp; omega
       have hB := H.blk id
       rw [hbk] at hB
       have hB1 := hB.1
       have hpos : 1 <= (y0 :: ys).length := by simp
       obtain ⟨hbase,hcapv,hd,hlen⟩ : base = some ⟨(r id).blk,(r id).off + idx * te.size,none⟩ /\ sCap = (r id).cap - idx /\ D id /\ idx + len <= (r id).len := by
        generalize hq : (Value.slice base xs.length sCap) = q at hx
        cases hx with
        | asl _ _ _ _ hd hc => injection hq with q1 q2 q3; exact ⟨by rw [q1,hB1.1],q3,hd,hc⟩
       subst hbase
       subst hcapv
       have hnl : news.length = (y0 :: ys).length * te.size := Ey.len
       obtain ⟨cs,T',k1,k2,k3⟩ := H.scribble hbk (vs := news.toArray) (m := (y0 :: ys).length) (by simpa using hnl) (by omega)
       dsimp only at k3
       obtain ⟨k3,k4,k5⟩ := k3
       have hone : ∀ v ∈ news,v.oneCell' = true := by
        intro v hv
        obtain ⟨q,hq,rfl⟩ := List.getElem_of_mem hv
        rw [hnl] at hq
        have hes : 0 < te.size := by rcases Nat.eq_zero_or_pos te.size with e | e; rw [e] at hq; simp at hq; exact e
        have q1 : q / te.size < (y0 :: ys).length := (Nat.div_lt_iff_lt_mul hes).2 hq
        have q2 : q % te.size < te.size := Nat.mod_lt _ hes
        have q3 : q / te.size * te.size + q % te.size = q := by rw [Nat.mul_comm]; exact Nat.div_add_mod _ _
        have hi1 : (y0 :: ys)[q / te.size]? = some (y0 :: ys)[q / te.size] := List.getElem?_eq_getElem q1
        have hjl : q % te.size < ((y0 :: ys)[q / te.size]).length := by have := Ey.each _ _ hi1; omega
        obtain ⟨v,a,b⟩ := Ey.cells _ _ _ _ hi1 (List.getElem?_eq_getElem hjl)
        rw [q3] at a
        have : news[q] = v := by rw [List.getElem?_eq_getElem (by omega)] at a; exact Option.some.inj a
        rw [this]
        refine b.one ?_
        have h5 := List.all_eq_true.1 hc1.2 _ (List.getElem_mem q1)
        exact List.all_eq_true.1 h5 _ (List.getElem_mem hjl)
       have hst := run_storeCells_at P (r id).blk ((r id).off + elems.length * te.size) T' news 0 cs w k1 (by simpa using k2) hone
       have hadd : ((⟨(r id).blk,(r id).off + idx * te.size,none⟩ : Addr).add (xs.length * i.size)) = ⟨(r id).blk,(r id).off + elems.length * te.size,none⟩ := by
        rw [Xo,g1]
        congr 1
        rw [Nat.add_assoc,<-Nat.add_mul]; congr 2; omega
       have hrun := Zdj (ty := ty) (c := c) (a := a) (b := ⟨(r id).blk,(r id).off + idx * te.size,none⟩) (m := xs.length) ht htx hi (by rw [g1]; exact Ey) (Nat.not_lt.1 hg) (by rw [hadd]; exact hst)
       obtain ⟨m1,m2⟩ := k3.moveExt (k := k) (pn := py) (new := y0 :: ys) (idx := idx) hk hkn hbk (by omega) (by omega) Ey.each (fun i e j c hi hj => by
        obtain ⟨v,a,b⟩ := Ey.cells i e j c hi hj
        have hlt := (List.getElem?_eq_some_iff.1 a).1
        refine ⟨v,?_,b.mono ⟨fun id h => ⟨h,rfl⟩,k4.imm,k4.size⟩⟩
        have := k5 (i * te.size + j) (by simpa using hlt)
        rw [this]; simpa using a)
       have hD : (fun i => D i \/ ((Eff.app id (.row te.size (xs ++ (y0 :: ys)) true (pu && py))).adds = true /\ i = k)) = (fun i => D i \/ i = k) := funext fun i => by simp [Eff.adds]
       unfold Gives
       rw [hD]
       refine ⟨_,_,_,hrun,?_,k4.trans m2,?_⟩
       ·simp only [Eff.go]
        rw [<-e2]
        simpa using m1
       ·have := VR.asl (r := rupd r k ⟨(r id).blk,(r id).off + idx * te.size,(r id).cap - idx,te.size,elems.length - idx + (y0 :: ys).length⟩) (I := I)
         (w := w.setRow (r id).blk (cs.toList.take ((r id).off + elems.length * te.size) ++ news.toArray.toList ++ cs.toList.drop ((r id).off + elems.length * te.size + news.toArray.toList.length)).toArray) (fun i => D i \/ i = k) k 0 (xs.length + (y0 :: ys).length) (.inr rfl) (by simp only [rupd,if_true]; omega)
        simpa [rupd] using this
     ·cases ha
    ·rename_i id idx sub len cap
     obtain ⟨hc1,ha2⟩ := Zb ha
     clear ha
     have ha := ha2
     clear ha2
     have hc1 := Nat.eq_of_beq_eq_true hc1
     cases ha
     have : sCap = xs.length := by
      generalize hq : (Value.slice base xs.length sCap) = q at hx
      cases hx
      injection hq with _ q1 q2
      omega
     subst this
     exact grow (by simp only [List.length_cons]; omega) h H _ rfl rfl
    ·cases ha
   ·cases ha
 ·cases ha
variable {r r' : Locs} {D D' : Nat -> Prop} {I I' : Imm} {w w' w0 : World} {I0 : Imm} {B n n' k : Nat} {pr : Nat -> Obj -> Prop} {h : Nat -> ABlk} {P : Program}
def Zet : Option AV -> Nat -> Option Nat
 | none,d => some d
 | some (.int _ i),_ => cond (decide (0 <= i)) (some i.toNat) none
 | _,_ => none
def BndR (o : Option Value) (d v : Nat) : Prop := (o = none /\ v = d) \/ (∃ k i,o = some (.int k i) /\ 0 <= i /\ v = i.toNat)
theorem Zcx {ev : Operand -> AV} {ρ : Operand -> Value} (hev : ∀ x,VR r I w D (ev x) (ρ x)) {o : Option Operand} {d v : Nat} (h : Zet (o.map ev) d = some v) : BndR (o.map ρ) d v := by
 cases o with
 | none => simp only [Option.map_none,Zet,Option.some.injEq] at h; exact .inl ⟨rfl,h.symm⟩
 | some x =>
  simp only [Option.map_some] at h
  have hx := hev x
  unfold Zet at h
  split at h
  ·rename_i h'; cases h'
  ·rename_i k i h'
   rw [Option.some.injEq] at h'
   rw [h'] at hx
   obtain ⟨q1,q2⟩ := Zb h
   simp only [decide_eq_true_eq] at q1
   simp only [Option.some.injEq] at q2
   refine .inr ⟨k,i,?_,q1,q2.symm⟩
   have : ρ x = .int k i := by generalize ρ x = z at hx; cases hx; rfl
   simp [this]
  ·cases h
theorem Uo {k : IntKind} {i : Int} {y : Nat} (h0 : 0 <= i) (h1 : i.toNat <= y) (c : BoundsCode) : (Instr.sliceBound (.int k i) y c).run P w = .ok i.toNat w := by
 have : 0 <= i /\ i <= (y : Int) := ⟨h0,by omega⟩
 simp [Instr.sliceBound,asIntOf,this]
theorem Xq (s : Bool) {len cap ll hh : Nat} {lo hi : Option Value} (h1 : BndR hi len hh) (h2 : BndR lo 0 ll) (hle : ll <= hh) (hc : hh <= cap) : (Instr.sliceBounds s len cap lo hi none).run P w = .ok (ll,hh,cap) w := by
 unfold Instr.sliceBounds
 rcases h1 with ⟨rfl,rfl⟩ | ⟨k1,i1,rfl,q1,rfl⟩ <;> rcases h2 with ⟨rfl,rfl⟩ | ⟨k2,i2,rfl,q2,rfl⟩
 ·simp
 ·simp [Uo (P := P) (w := w) (k := k2) q2 hle]
 ·simp [Uo (P := P) (w := w) (k := k1) q1 hc]
 ·simp [Uo (P := P) (w := w) (k := k1) q1 hc,Uo (P := P) (w := w) (k := k2) q2 hle]
def Zce (T : Tab) (h : Nat -> ABlk) (t : TypeId) (x : AV) (lo hi : Option AV) : Option AV :=
 match T t with
 | some ti => match ti.desc with
  | .slice e => match T e with
   | some te => match x with
    | .nils => match Zet hi 0,Zet lo 0 with
     | some 0,some 0 => some .nils
     | _,_ => none
    | .asl id idx len => match h id with
     | .row es _ _ _ => match Zet hi len,Zet lo 0 with
      | some hh,some ll => cond (Nat.beq es te.size && Nat.ble ll hh && Nat.ble hh len && (Nat.beq ll 0 || Nat.blt ll len)) (some (.asl id (idx + ll) (hh - ll))) none
      | _,_ => none
     | _ => none
    | .isl es els => match hi,Zet lo 0 with
     | none,some ll => cond (Nat.beq es te.size && Nat.blt ll els.length) (some (.isl es (els.drop ll))) none
     | _,_ => none
    | _ => none
   | none => none
  | .string => match x with
   | .str s => match Zet hi s.size,Zet lo 0 with
    | some hh,some ll => cond (Nat.ble ll hh && Nat.ble hh s.size) (some (.str (s.extract ll hh))) none
    | _,_ => none
   | _ => none
  | .array m e => match T e with
   | some te => match x with
    | .ptr id idx sub => match Zet hi m,Zet lo 0 with
     | some hh,some ll => cond (Nat.ble ll hh && Nat.ble hh m && (Nat.beq ll 0 || Nat.blt ll m)) (some (.bsl id idx (sub + ll * te.size) (hh - ll) (m - ll))) none
     | _,_ => none
    | _ => none
   | none => none
  | _ => none
 | none => none
theorem Zvl {T : Tab} (hT : TabOK P T) (H : HR B w0 I0 pr r I D h n w) {ev : Operand -> AV} {ρ : Operand -> Value} (hev : ∀ x,VR r I w D (ev x) (ρ x)) {t : TypeId} {x : AV} {u : Value} {lo hi : Option Operand} {v : AV} (hx : VR r I w D x u)
  (hv : Zce T h t x (lo.map ev) (hi.map ev) = some v) : ∃ y,(Instr.sliceAt t u (lo.map ρ) (hi.map ρ) none).run P w = .ok y w /\ VR r I w D v y := by
 unfold Zce at hv
 split at hv
 ·rename_i ti hti
  have hu := hT.und t ti hti
  split at hv
  ·rename_i e hd
   rw [hd] at hu
   split at hv
   ·rename_i te hte
    have hs := Vg (P := P) (w := w) hT hte
    split at hv
    ·split at hv
     ·rename_i q1 q2
      cases hv
      have b1 := Zcx hev q1
      have b2 := Zcx hev q2
      cases hx
      have hb := Xq (P := P) (w := w) true (cap := 0) b1 b2 (Nat.le_refl _) (Nat.le_refl _)
      exact ⟨_,by simp [Instr.sliceAt,run_underlying hu,Instr.slice,hb,hs],.nils _⟩
     ·cases hv
    ·rename_i id idx len
     split at hv
     ·rename_i es elems mt pu hb
      split at hv
      ·rename_i hh ll q1 q2
       obtain ⟨c1,hv2⟩ := Zb hv
       clear hv
       simp only [Bool.and_eq_true,Bool.or_eq_true] at c1
       obtain ⟨⟨⟨c1,c2⟩,c3⟩,c4⟩ := c1
       have c1 := Nat.eq_of_beq_eq_true c1
       have c2 := Nat.le_of_ble_eq_true c2
       have c3 := Nat.le_of_ble_eq_true c3
       simp only [Nat.blt_eq] at c4
       cases hv2
       have b1 := Zcx hev q1
       have b2 := Zcx hev q2
       have hB := H.blk id
       rw [hb] at hB
       have hB1 := hB.1
       have hB2 := hB.2.1
       cases hx with
       | asl _ _ _ _ hdd hc =>
        have hbs := Xq (P := P) (w := w) true (cap := (r id).cap - idx) b1 b2 c2 (by omega)
        have hval : VR r I w D (.asl id (idx + ll) (hh - ll)) (.slice (some ⟨(r id).blk,(r id).off + (idx + ll) * (r id).es,none⟩) (hh - ll) ((r id).cap - (idx + ll))) := .asl _ _ _ _ hdd (by omega)
        refine ⟨_,?_,hval⟩
        simp only [Instr.sliceAt,Sem.run_bind,run_underlying hu,Result.andThen_ok,Instr.slice,hbs,hs,Sem.run_pure]
        have e1 : (r id).cap - idx - ll = (r id).cap - (idx + ll) := by omega
        have e2 : (if (r id).cap - idx = ll then some (⟨(r id).blk,(r id).off + idx * (r id).es,none⟩ : Addr) else Option.map (fun x : Addr => x.add (ll * te.size)) (some ⟨(r id).blk,(r id).off + idx * (r id).es,none⟩)) = some ⟨(r id).blk,(r id).off + (idx + ll) * (r id).es,none⟩ := by
         have : (idx + ll) * (r id).es = idx * (r id).es + ll * (r id).es := Nat.add_mul _ _ _
         have e3 : te.size = (r id).es := by rw [hB1.1,c1]
         split
         ·rename_i h0
          have : ll = 0 := by
           rcases c4 with c4 | c4
           ·exact Nat.eq_of_beq_eq_true c4
           ·omega
          subst this
          simp
         ·rw [Option.map_some,Xo,e3]; congr 2; omega
        rw [e1,e2]
      ·cases hv
     ·cases hv
    ·rename_i es els
     split at hv
     ·rename_i ll q0 q2
      obtain ⟨c1,hv2⟩ := Zb hv
      clear hv
      simp only [Bool.and_eq_true,Nat.blt_eq] at c1
      obtain ⟨c1,c2⟩ := c1
      have c1 := Nat.eq_of_beq_eq_true c1
      cases hv2
      have b1 : BndR (hi.map ρ) els.length els.length := by
       cases hi with
       | none => exact .inl ⟨rfl,rfl⟩
       | some z => cases q0
      have b2 := Zcx hev q2
      cases hx with
      | isl0 => simp at c2
      | isl _ _ _ b o cap val hl g0 g1 g2 =>
       have hbs := Xq (P := P) (w := w) true (cap := cap) b1 b2 (Nat.le_of_lt c2) hl
       have hlen : (els.drop ll).length = els.length - ll := List.length_drop
       have hval : VR r I w D (.isl es (els.drop ll)) (.slice (some ⟨b,o + ll * es,none⟩) (els.drop ll).length (cap - ll)) := by
        refine .isl _ _ _ _ _ _ (fun i j => val (ll + i) j) (by omega) (fun i e he => g0 (ll + i) e (by rw [<-List.getElem?_drop]; exact he)) (fun i e j c he hc => ?_) (fun i e j c he hc => g2 (ll + i) e j c (by rw [<-List.getElem?_drop]; exact he) hc)
        have := g1 (ll + i) e j c (by rw [<-List.getElem?_drop]; exact he) hc
        have ea : o + (ll + i) * es + j = o + ll * es + i * es + j := by rw [Nat.add_mul]; omega
        rw [ea] at this
        exact this
       rw [hlen] at hval
       refine ⟨_,?_,hval⟩
       simp only [Instr.sliceAt,Sem.run_bind,run_underlying hu,Result.andThen_ok,Instr.slice,hbs,hs,Sem.run_pure]
       have e2 : (if cap = ll then some (⟨b,o,none⟩ : Addr) else Option.map (fun x : Addr => x.add (ll * te.size)) (some ⟨b,o,none⟩)) = some ⟨b,o + ll * es,none⟩ := by
        split
        ·omega
        ·rw [Option.map_some,Xo,c1]
       rw [e2]
     ·cases hv
    ·cases hv
   ·cases hv
  ·rename_i hd
   rw [hd] at hu
   split at hv
   ·rename_i s
    split at hv
    ·rename_i hh ll q1 q2
     obtain ⟨c1,hv2⟩ := Zb hv
     clear hv
     simp only [Bool.and_eq_true] at c1
     have c2 := Nat.le_of_ble_eq_true c1.1
     have c3 := Nat.le_of_ble_eq_true c1.2
     cases hv2
     have b1 := Zcx hev q1
     have b2 := Zcx hev q2
     cases hx
     have hbs := Xq (P := P) (w := w) false (cap := s.size) b1 b2 c2 c3
     exact ⟨_,by simp [Instr.sliceAt,run_underlying hu,Instr.slice,hbs],.str _ _⟩
    ·cases hv
   ·cases hv
  ·rename_i m e hd
   rw [hd] at hu
   split at hv
   ·rename_i te hte
    have hs := Vg (P := P) (w := w) hT hte
    split at hv
    ·rename_i id idx sub
     split at hv
     ·rename_i hh ll q1 q2
      obtain ⟨c1,hv2⟩ := Zb hv
      clear hv
      simp only [Bool.and_eq_true,Bool.or_eq_true] at c1
      obtain ⟨⟨c1,c2⟩,c4⟩ := c1
      have c1 := Nat.le_of_ble_eq_true c1
      have c2 := Nat.le_of_ble_eq_true c2
      simp only [Nat.blt_eq] at c4
      cases hv2
      have b1 := Zcx hev q1
      have b2 := Zcx hev q2
      cases hx with
      | ptr _ _ _ _ hdd =>
       have hbs := Xq (P := P) (w := w) false (cap := m) b1 b2 c1 c2
       have hval : VR r I w D (.bsl id idx (sub + ll * te.size) (hh - ll) (m - ll)) (.slice (some ⟨(r id).blk,(r id).off + idx * (r id).es + (sub + ll * te.size),none⟩) (hh - ll) (m - ll)) := .bsl _ _ _ _ _ _ hdd
       refine ⟨_,?_,hval⟩
       simp only [Instr.sliceAt,Instr.sureAddr,Sem.run_bind,run_underlying hu,Result.andThen_ok,hbs,hs,Sem.run_pure]
       congr 3
       split
       ·rename_i h0
        have : ll = 0 := by
         rcases c4 with c4 | c4
         ·exact Nat.eq_of_beq_eq_true c4
         ·omega
        subst this
        simp
       ·rw [Xo]; congr 1; omega
     ·cases hv
    ·cases hv
   ·cases hv
  ·cases hv
 ·cases hv
def Zpg (op : BinOp) (k : IntKind) (x : Int) (k' : IntKind) (y : Int) : Option AV :=
 match op with
 | .shl => cond (decide (0 <= y)) (some (.int k (k.wrap (x * 2 ^ (min y.toNat k.bits))))) none
 | .shr => cond (decide (0 <= y)) (some (.int k (x.fdiv (2 ^ (min y.toNat k.bits))))) none
 | .and => cond (decide (k = k')) (some (.int k (k.wrap (BitVec.ofInt k.bits x &&& BitVec.ofInt k.bits y).toNat))) none
 | .or => cond (decide (k = k')) (some (.int k (k.wrap (BitVec.ofInt k.bits x ||| BitVec.ofInt k.bits y).toNat))) none
 | .xor => cond (decide (k = k')) (some (.int k (k.wrap (BitVec.ofInt k.bits x ^^^ BitVec.ofInt k.bits y).toNat))) none
 | _ => none
theorem Yba {op : BinOp} {k1 k2 : IntKind} {x y : Int} {v : AV} (hv : Zpg op k1 x k2 y = some v) (t : TypeId) (a b : Operand) : ∃ u,(do eqGuard op t a b (.int k1 x) (.int k2 y); binOp op t (.int k1 x) (.int k2 y) : Sem Value).run P w = .ok u w /\ VR r I w D v u := by
 have hg : (eqGuard op t a b (.int k1 x) (.int k2 y)).run P w = .ok () w := by
  unfold eqGuard
  cases op <;> simp
 have : ∃ u,(binOp op t (.int k1 x) (.int k2 y)).run P w = .ok u w /\ VR r I w D v u := by
  cases op <;> simp only [Zpg,reduceCtorEq] at hv <;> obtain ⟨c,hv2⟩ := Zb hv <;> cases hv2 <;> simp only [decide_eq_true_eq] at c
  case shl => exact ⟨_,by simp [binOp,Op.shift,Int.not_lt.2 c],.int _ _ _⟩
  case shr => exact ⟨_,by simp [binOp,Op.shift,Int.not_lt.2 c],.int _ _ _⟩
  all_goals subst c; exact ⟨_,by simp [binOp,Op.intBits],.int _ _ _⟩
 obtain ⟨u,h1,h2⟩ := this
 exact ⟨u,by simp only [Sem.run_bind,hg,Result.andThen_ok]; exact h1,h2⟩
def Yeq (op : BinOp) (k : FloatKind) (x : Nat) (k' : FloatKind) (y : Nat) : Option AV :=
 match op with
 | .add | .sub | .mul | .quo => cond (decide (k = k')) (match floatBits op k x y with
  | some r => some (.flt k r)
  | none => none) none
 | .eql => cond (decide (k = k')) (some (.bool (k.format.order x y == some .eq))) none
 | .neq => cond (decide (k = k')) (some (.bool (k.format.order x y != some .eq))) none
 | .lss => cond (decide (k = k')) (some (.bool (k.format.order x y == some .lt))) none
 | .leq => cond (decide (k = k')) (some (.bool (k.format.order x y == some .lt || k.format.order x y == some .eq))) none
 | .gtr => cond (decide (k = k')) (some (.bool (k.format.order x y == some .gt))) none
 | .geq => cond (decide (k = k')) (some (.bool (k.format.order x y == some .gt || k.format.order x y == some .eq))) none
 | _ => none
theorem Yep {op : BinOp} {k1 k2 : FloatKind} {x y : Nat} {v : AV} (hv : Yeq op k1 x k2 y = some v) (t : TypeId) (a b : Operand) : ∃ u,(do eqGuard op t a b (.float k1 x) (.float k2 y); binOp op t (.float k1 x) (.float k2 y) : Sem Value).run P w = .ok u w /\ VR r I w D v u := by
 have hg : (eqGuard op t a b (.float k1 x) (.float k2 y)).run P w = .ok () w := by
  unfold eqGuard
  cases op <;> simp
 have : ∃ u,(binOp op t (.float k1 x) (.float k2 y)).run P w = .ok u w /\ VR r I w D v u := by
  cases op <;> simp only [Yeq,reduceCtorEq] at hv <;> obtain ⟨c,hv2⟩ := Zb hv <;> simp only [decide_eq_true_eq] at c <;> subst c
  case add | sub | mul | quo =>
   split at hv2
   ·rename_i r hr; cases hv2; exact ⟨_,run_float_arith w _ t k1 x y r hr,.flt _ _ _⟩
   ·cases hv2
  all_goals cases hv2; exact ⟨_,by simp only [binOp_float_cmp_eql,binOp_float_cmp_neq,binOp_float_cmp_lss,binOp_float_cmp_leq,binOp_float_cmp_gtr,binOp_float_cmp_geq]; rfl,.bool _ _⟩
 obtain ⟨u,h1,h2⟩ := this
 exact ⟨u,by simp only [Sem.run_bind,hg,Result.andThen_ok]; exact h1,h2⟩
def Zq7 (T : Tab) (src dst : TypeId) (a : AV) : Option AV :=
 match T src,T dst with
 | some _,some td => match td.desc,a with
  | .float k,.int _ n => some (.flt k (k.nearest n))
  | .int k,.flt s b => match (s.decode b).toInt .zero with
   | some n => cond (decide (k.min <= n /\ n <= k.max)) (some (.int k n)) none
   | none => none
  | _,_ => none
 | _,_ => none
theorem Zyb {T : Tab} (hT : TabOK P T) {src dst : TypeId} {a v : AV} {u : Value} (ha : VR r I w D a u) (hv : Zq7 T src dst a = some v) : ∃ x,(convert src dst u).run P w = .ok x w /\ VR r I w D v x := by
 unfold Zq7 at hv
 split at hv
 ·rename_i ts td hs hd
  have h1 := hT.und src ts hs
  have h2 := hT.und dst td hd
  split at hv
  ·rename_i kk _ nn hdd
   cases ha
   cases hv
   rw [hdd] at h2
   exact ⟨_,by simp [convert,run_underlying h1,run_underlying h2,Conv.intToFloat],.flt _ _ _⟩
  ·rename_i kk ss bb hdd
   cases ha
   rw [hdd] at h2
   split at hv
   ·rename_i m hm
    obtain ⟨c,hv2⟩ := Zb hv
    cases hv2
    simp only [decide_eq_true_eq] at c
    refine ⟨.int kk m,?_,.int _ _ _⟩
    simp [convert,run_underlying h1,run_underlying h2,Conv.floatToInt,hm,c]
   ·cases hv
  ·cases hv
 ·cases hv
variable {r r' : Locs} {D D' : Nat -> Prop} {I I' : Imm} {w w' w0 : World} {I0 : Imm} {B n n' k : Nat} {pr : Nat -> Obj -> Prop} {h : Nat -> ABlk} {P : Program}
def Znl : Operand -> Operand -> Bool
 | .tmp a,.tmp b => Nat.beq a b
 | .const (.int k a),.const (.int k' b) => decide (k = k') && decide (a = b)
 | _,_ => false
theorem Zvo {x y : Operand} (h : Znl x y = true) : x = y := by
 unfold Znl at h
 split at h
 ·rw [Nat.eq_of_beq_eq_true h]
 ·simp only [Bool.and_eq_true,decide_eq_true_eq] at h
  rw [h.1,h.2]
 ·cases h
theorem Zj6 {es : Nat} {z : List AV} (hz : z.length = es) : ∀ m,chunks es m (Zn m z) = List.replicate m z
 | 0 => rfl
 | m + 1 => by
  have e : Zn (m + 1) z = z ++ Zn m z := by simp [Zn,List.replicate_succ]
  rw [e,chunks,List.take_left' hz,List.drop_left' hz,Zj6 hz m]; rfl
theorem Zhw : ∀ (a b : List AV),Yh (a ++ b) = (Yh a && Yh b)
 | [],b => by simp [Yh]
 | c :: a,b => by simp only [List.cons_append,Yh]; rw [Zhw a b,Bool.and_assoc]
theorem Zk5 {z : List AV} (hz : Yh z = true) : ∀ m,Yh (Zn m z) = true
 | 0 => rfl
 | m + 1 => by
  have e : Zn (m + 1) z = z ++ Zn m z := by simp [Zn,List.replicate_succ]
  rw [e,Zhw,hz,Zk5 hz m]; rfl
theorem Zjp {T : Tab} (hT : TabOK P T) {t e : TypeId} {ti te : TI} (ht : T t = some ti) (hd : ti.desc = .slice e) (hte : T e = some te) {m : Nat} {kk : IntKind} (hz0 : te.zero.length = te.size) (hsz : te.size ≠ 0) (hp : Yh te.zero = true) (hm : m <= 1000000) (hb : 1000000 * te.bytes <= 140737488355328)
  (H : HR B w0 I0 pr r I D h n w) (hk : ¬ D k) (hkn : k < n) :
  Gives P B w0 I0 pr r I D h n k (Instr.makeSlice t (.int kk m) (.int kk m)) w (.asl k 0 m) (.add (.row te.size (List.replicate m te.zero) true true)) := by
 obtain ⟨z,hz,h1,h2,h3⟩ := Zf0 hT hte
 obtain ⟨i,i1,i2,i3,i4⟩ := Zvr (w := w) hT hte
 have hrep := (h3 r I w D).repl m
 have hu := hT.und t ti ht
 rw [hd] at hu
 have hcell := Zdl z.cells m
 rw [h1] at hcell
 have g := Zok (w := w) (s := Instr.makeSlice t (.int kk m) (.int kk m)) hT H hk hkn (e := e) (es := te.size) (m := m) (cells := Zn m te.zero) (xs := ((List.replicate m z.cells.toList).flatten).toArray) (by simp [Zn,hz0]) hrep ?_
 ·rw [Zj6 hz0,Zk5 hp] at g
  exact g
 ·have wl : IntKind.i64.wrap (m : Int) = (m : Int) := by rw [IntKind.wrap_i64]; omega
  have hbm : m * i.bytes <= 140737488355328 := by rw [i4]; exact Nat.le_trans (Nat.mul_le_mul_right _ hm) hb
  have n2 : ¬ (281474976710656 < (i.bytes : Int) * (m : Int)) := by
   have : ((i.bytes * m : Nat) : Int) <= 140737488355328 := by rw [Nat.mul_comm]; omega
   rw [Int.natCast_mul] at this; omega
  have n3 : ¬ (roomBytes < m * i.bytes) := by unfold roomBytes; omega
  have n1 : ¬ ((m : Int) < 0) := by omega
  have hi : P.info? e = some i := i2
  have hr : (Array.range (m * te.size)).map (fun x => (if m * te.size = 0 then #[] else z.cells)[x % (if m * te.size = 0 then (#[] : Array Value) else z.cells).size]!) = ((List.replicate m z.cells.toList).flatten).toArray := by
   by_cases hm0 : m = 0
   ·subst hm0; simp
   ·have hne : m * te.size ≠ 0 := Nat.mul_ne_zero hm0 hsz
    rw [if_neg hne,<-hcell,h1]
  by_cases hm0 : m * te.size = 0
  ·have hm1 : m = 0 := by
    rcases Nat.mul_eq_zero.1 hm0 with h | h
    ·exact h
    ·exact absurd h hsz
   subst hm1
   simp [Instr.makeSlice,run_underlying hu,asInt,asIntOf,typeInfo,sizeOf,hi,i3,askRoom,roomBytes,newRow,IntKind.wrap_i64]
   rw [show ∀ f : Nat -> Value,Array.map f (Array.range 0) = #[] from fun f => by apply Array.ext'; simp]
  ·simp only [if_neg hm0] at hr
   simp [Instr.makeSlice,run_underlying hu,asInt,asIntOf,typeInfo,sizeOf,hi,i3,wl,n1,n2,askRoom,n3,hm0,newRow,hr,hz]
variable {r r' : Locs} {D D' : Nat -> Prop} {I I' : Imm} {w w' w0 : World} {I0 : Imm} {B n n' k : Nat} {pr : Nat -> Obj -> Prop} {h : Nat -> ABlk} {P : Program}
def Ur (P : Program) (B : Nat) (w0 : World) (I0 : Imm) (pr : Nat -> Obj -> Prop) (r : Locs) (I : Imm) (D : Nat -> Prop) (h : Nat -> ABlk) (n k : Nat) (s : Sem Next) (w : World) (v : AV) (e : Eff) : Prop :=
 ∃ x w' r' I',(s.run P w = .ok (.value x) w' \/ (s.run P w = .ok .skip w' /\ x = undef)) /\ HR B w0 I0 pr r' I' (fun i => D i \/ (e.adds = true /\ i = k)) (e.go k h) n w' /\
  Step r D I w r' (fun i => D i \/ (e.adds = true /\ i = k)) I' w' /\ VR r' I' w' (fun i => D i \/ (e.adds = true /\ i = k)) v x
theorem OpGives.toI {s : Sem Next} {v : AV} {e : Eff} (g : OpGives P B w0 I0 pr r I D h n k s w v e) : Ur P B w0 I0 pr r I D h n k s w v e := by
 obtain ⟨x,w',r',h1,h2,h3,h4⟩ := g
 exact ⟨x,w',r',I,h1,h2,h3,h4⟩
theorem HR.allocI (H : HR B w0 I0 pr r I D h n w) (o : Obj) (hI1 : ∀ b p,I b p -> I' b p) (hI2 : ∀ b p,I' b p -> I b p \/ b = w.heap.size) : HR B w0 I0 pr r I' D h n (w.alloc o) /\ Step r D I w r D I' (w.alloc o) := by
 have hst : Step r D I w r D I' (w.alloc o) := ⟨fun id hd => ⟨hd,rfl⟩,fun b p hi => ⟨hI1 b p hi,World.cell?_of_block (Zr w o (H.imm _ _ hi))⟩,by simp⟩
 refine ⟨⟨H.below.alloc H.base o,by have := H.base; simp; omega,fun b p hi => ?_,fun id hd => ⟨(H.dom id hd).1,by have := (H.dom id hd).2; simp; omega⟩,H.live,fun id => ?_,H.inj,fun b o' hp => ?_,fun b o' hp => ⟨(H.protK b o' hp).1,fun p hi => ?_⟩,fun b p hi => ?_⟩,hst⟩
 ·rcases hI2 b p hi with h | h
  ·have := H.imm b p h; simp; omega
  ·simp; omega
 ·by_cases hd : (h id).live = true
  ·have hlt := (H.dom id (H.live id hd)).2
   refine (H.blk id).mono hst rfl (fun _ => Zr w o hlt) (fun _ _ _ _ p hp => ?_)
   rcases hI2 _ p hp with h | h
   ·exact h
   ·omega
  ·have : h id = .dead := by cases hx : h id <;> simp_all [ABlk.live]
   rw [this]; trivial
 ·have h1 := H.prot b o' hp
  have h2 : b < w.heap.size := (Array.getElem?_eq_some_iff.1 h1.1).1
  exact ⟨(Zr w o h2).trans h1.1,h1.2⟩
 ·have h1 := H.prot b o' hp
  have h2 : b < w.heap.size := (Array.getElem?_eq_some_iff.1 h1.1).1
  rcases hI2 b p hi with h | h
  ·exact (H.protK b o' hp).2 p h
  ·omega
 ·rcases hI2 b p hi with h | h
  ·exact H.immB b p h
  ·rw [h]; exact .inr H.base
def Ua (s : ByteArray) : List (List AV) := s.data.toList.map fun b => [.int .u8 b.toNat]
def Zqe (T : Tab) (src dst : TypeId) : Bool :=
 match T src,T dst with
 | some ts,some td => match ts.desc,td.desc with
  | .string,.slice e => match T e with
   | some te => match te.desc with
    | .int .u8 => true
    | _ => false
   | none => false
  | _,_ => false
 | _,_ => false
theorem Zqn {T : Tab} (hT : TabOK P T) {src dst : TypeId} (hb : Zqe T src dst = true) (H : HR B w0 I0 pr r I D h n w) {s : ByteArray} {u : Value} (hu : VR r I w D (.str s) u) :
  Ur P B w0 I0 pr r I D h n k (do pure (.value (<-convert src dst u))) w (.isl 1 (Ua s)) .none := by
 unfold Zqe at hb
 split at hb
 ·rename_i ts td hs hd
  split at hb
  ·rename_i e d1 d2
   split at hb
   ·rename_i te hte
    split at hb
    ·rename_i d3
     have h1 := hT.und src ts hs
     have h2 := hT.und dst td hd
     have h3 := hT.und e te hte
     rw [d1] at h1; rw [d2] at h2; rw [d3] at h3
     cases hu
     have hrun := run_bytes_of_string w src dst e s h1 h2 h3
     have hD : (fun i => D i \/ (Eff.none.adds = true /\ i = k)) = D := funext fun i => by simp [Eff.adds]
     have hsz : s.data.size = s.size := rfl
     obtain ⟨H',S'⟩ := H.drew.allocI (I' := fun b o => I b o \/ (b = w.heap.size /\ o < s.size)) (.cells (bytesRow s (grownCap w s.size 0 e)) e ((bytesRow s (grownCap w s.size 0 e)).size,(bytesRow s (grownCap w s.size 0 e)).size + 1)) (fun b p h => .inl h) (fun b p h => by
      rcases h with h | h
      ·exact .inl h
      ·exact .inr h.1)
     unfold Ur
     rw [hD]
     refine ⟨_,_,r,_,.inl (by simp [hrun]; rfl),H',(Step.drew r D I w).trans S',?_⟩
     have hlen : (Ua s).length = s.size := by simp [Ua,hsz]
     have hget : ∀ (i : Nat) (e : List AV) (j : Nat) (c : AV),(Ua s)[i]? = some e -> e[j]? = some c -> j = 0 /\ ∃ b : UInt8,s.data[i]? = some b /\ c = .int .u8 b.toNat := by
      intro i e j c hi hj
      simp only [Ua,List.getElem?_map,Option.map_eq_some_iff] at hi
      obtain ⟨b,hb,rfl⟩ := hi
      cases j with
      | zero => simp at hj; exact ⟨rfl,b,by simpa using hb,hj.symm⟩
      | succ j => simp at hj
     have := VR.isl (r := r) (I := fun b o => I b o \/ (b = w.heap.size /\ o < s.size)) (w := w.drew.alloc (.cells (bytesRow s (grownCap w s.size 0 e)) e ((bytesRow s (grownCap w s.size 0 e)).size,(bytesRow s (grownCap w s.size 0 e)).size + 1))) D 1 (Ua s) w.heap.size 0 (grownCap w s.size 0 e) (fun i _ => (bytesRow s (grownCap w s.size 0 e)).getD i undef)
      (by rw [hlen]; exact grownCap_ge _ _ _ _) (fun i e hi => by
       simp only [Ua,List.getElem?_map,Option.map_eq_some_iff] at hi
       obtain ⟨b,hb,rfl⟩ := hi; rfl) (fun i e' j c hi hj => by
       obtain ⟨rfl,b,q1,rfl⟩ := hget i e' j c hi hj
       have hlt := (Array.getElem?_eq_some_iff.1 q1).1
       refine ⟨.inr ⟨rfl,by omega⟩,?_⟩
       have hlt2 : i < (bytesRow s (grownCap w s.size 0 e)).size := by simp [bytesRow]; omega
       have hh : (w.drew.alloc (.cells (bytesRow s (grownCap w s.size 0 e)) e ((bytesRow s (grownCap w s.size 0 e)).size,(bytesRow s (grownCap w s.size 0 e)).size + 1))).heap[w.heap.size]? = some (.cells (bytesRow s (grownCap w s.size 0 e)) e ((bytesRow s (grownCap w s.size 0 e)).size,(bytesRow s (grownCap w s.size 0 e)).size + 1)) := Yn w.drew _
       unfold World.cell?
       dsimp only
       rw [Nat.zero_add,Nat.mul_one,Nat.add_zero,hh]
       simp [hlt2]) (fun i e' j c hi hj => by
       obtain ⟨rfl,b,q1,rfl⟩ := hget i e' j c hi hj
       have hlt := (Array.getElem?_eq_some_iff.1 q1).1
       have hv : (bytesRow s (grownCap w s.size 0 e))[i]? = some (.int .u8 b.toNat) := by
        unfold bytesRow
        rw [Array.getElem?_append_left (by simpa using hlt)]
        simp [q1]
       have : (bytesRow s (grownCap w s.size 0 e)).getD i undef = .int .u8 b.toNat := by simp [hv]
       rw [this]
       exact .int _ _ _)
     rw [hlen] at this
     exact this
    ·cases hb
   ·cases hb
  ·cases hb
 ·cases hb
def aopB (T : Tab) (k : Nat) (ev : Operand -> AV) (h : Nat -> ABlk) : Op -> Option (AV × Eff)
 | .binOp op _ x y _ => match ev x,ev y with
  | .int k1 a,.int k2 b => ret (Zpg op k1 a k2 b)
  | .flt k1 a,.flt k2 b => ret (Yeq op k1 a k2 b)
  | _,_ => none
 | .convert s d x => match ev x with
  | .str t => cond (Zqe T s d) (some (.isl 1 (Ua t),.none)) none
  | x => ret (Zq7 T s d x)
 | .lookup t x i c => match ev x,ev i with
  | .amap id,.str s => match h id with
   | .set keys => cond (Zfm T t && !c) (some (.bool (Vr s keys),.none)) none
   | _ => none
  | _,_ => none
 | .makeMap _ none => some (.amap k,.add (.set []))
 | .mapUpdate t m x v => match ev m,ev x,ev v with
  | .amap id,.str s,.bool true => match h id with
   | .set keys => cond (Zfm T t) (some (.tup [],.put id (.set (addK s keys)))) none
   | _ => none
  | _,_,_ => none
 | .insert t m x v => match ev m,ev x,ev v with
  | .amap id,.str s,.bool true => match h id with
   | .set keys => cond (Zfm T t) (some (.tup [],.put id (.set (addK s keys)))) none
   | _ => none
  | _,_,_ => none
 | .slice t x lo hi none => ret (Zce T h t (ev x) (lo.map ev) (hi.map ev))
 | .makeSlice t l c => match T t with
  | some ti => match ti.desc with
   | .slice e => match T e with
    | some te => cond (Znl l c && Nat.beq te.zero.length te.size && Nat.blt 0 te.size && Yh te.zero && Nat.ble (1000000 * te.bytes) 140737488355328) (match ev l with
     | .int _ a => cond (decide (0 <= a /\ a.toNat <= 1000000)) (some (.asl k 0 a.toNat,.add (.row te.size (List.replicate a.toNat te.zero) true true))) none
     | _ => none) none
    | none => none
   | _ => none
  | none => none
 | .call c => match c.callee with
  | .builtin .append => match c.argTypes.toList,c.args.toList with
   | [t,tx],[x,y] => match T t,T tx with
    | some ti,some tj => match ti.desc,tj.desc with
     | .slice e,.slice _ => match T e with
      | some te => Zho k h te (ev x) (ev y)
      | none => none
     | _,_ => none
    | _,_ => none
   | _,_ => none
  | .builtin .complex => match c.args.toList with
   | [x,y] => match ev x,ev y with
    | .flt k1 a,.flt k2 b => cond (decide (k1 = k2)) (some (.cpx k1 a b,.none)) none
    | _,_ => none
   | _ => none
  | .builtin .real => match c.args.toList with
   | [x] => match ev x with
    | .cpx k1 a _ => some (.flt k1 a,.none)
    | _ => none
   | _ => none
  | .builtin .imag => match c.args.toList with
   | [x] => match ev x with
    | .cpx k1 _ b => some (.flt k1 b,.none)
    | _ => none
   | _ => none
  | _ => none
 | _ => none
def aop (T : Tab) (ok : TypeId -> Bool) (k : Nat) (ev : Operand -> AV) (h : Nat -> ABlk) (op : Op) : Option (AV × Eff) :=
 match aopA T ok k ev h op with
 | some x => some x
 | none => aopB T k ev h op
theorem Zm9 {s : Sem Unit} {e : Eff} (he : e.adds = false) (hs : ∃ w',s.run P w = .ok () w' /\ HR B w0 I0 pr r I D (e.go k h) n w' /\ Step r D I w r D I w') :
  Ur P B w0 I0 pr r I D h n k (do s; pure .skip) w (.tup []) e := by
 obtain ⟨w',e1,e2,e3⟩ := hs
 have hD : (fun i => D i \/ (e.adds = true /\ i = k)) = D := funext fun i => by simp [he]
 unfold Ur
 rw [hD]
 exact ⟨undef,w',r,I,.inr ⟨by simp [e1],rfl⟩,e2,e3,.tup _ _ _ rfl (fun i c v hc => by simp at hc)⟩
theorem Zq8 (ats : Array TypeId) (ty : TypeId) (k : FloatKind) (a b : Nat) : Builtin.complex_ ats ty #[.float k a,.float k b] = pure (.complex k a b) := by
 show (if k = k then pure (.complex k a b) else _ : Sem Value) = _
 rw [if_pos rfl]
theorem Zzp (ats : Array TypeId) (ty : TypeId) (k : FloatKind) (a b : Nat) : Builtin.real_ ats ty #[.complex k a b] = pure (.float k a) := rfl
theorem Yah (ats : Array TypeId) (ty : TypeId) (k : FloatKind) (a b : Nat) : Builtin.imag_ ats ty #[.complex k a b] = pure (.float k b) := rfl
set_option maxHeartbeats 1000000 in
theorem Zup {T : Tab} (hT : TabOK P T) (H : HR B w0 I0 pr r I D h n w) (hk : ¬ D k) (hkn : k < n) (o : Oper) {ρ : Operand -> Value} {ev : Operand -> AV}
  (hev : ∀ x,VR r I w D (ev x) (ρ x)) {v : AV} {e : Eff} (ha : aopB T k ev h o.op = some (v,e)) : Ur P B w0 I0 pr r I D h n k (execOp ρ o) w v e := by
 obtain ⟨dst,op,type,pos,after,guard⟩ := o
 dsimp only at ha
 unfold aopB at ha
 unfold execOp
 split at ha <;> dsimp only
 ·
  rename_i op t x y ty
  split at ha
  ·rename_i k1 a k2 b hx hy
   obtain ⟨h1,h2⟩ := Yp ha
   dsimp only at h1 h2
   subst h2
   have hxv := hev x
   have hyv := hev y
   rw [hx] at hxv; rw [hy] at hyv
   have e1 : ρ x = .int k1 a := by generalize ρ x = z at hxv; cases hxv; rfl
   have e2 : ρ y = .int k2 b := by generalize ρ y = z at hyv; cases hyv; rfl
   rw [e1,e2]
   exact (Gives.of_sim H (Yba h1 t x y)).op.toI
  ·rename_i k1 a k2 b hx hy
   obtain ⟨h1,h2⟩ := Yp ha
   dsimp only at h1 h2
   subst h2
   have hxv := hev x
   have hyv := hev y
   rw [hx] at hxv; rw [hy] at hyv
   have e1 : ρ x = .float k1 a := by generalize ρ x = z at hxv; cases hxv; rfl
   have e2 : ρ y = .float k2 b := by generalize ρ y = z at hyv; cases hyv; rfl
   rw [e1,e2]
   exact (Gives.of_sim H (Yep h1 t x y)).op.toI
  ·cases ha
 ·
  rename_i s d x
  have hx := hev x
  split at ha
  ·rename_i t ht
   rw [ht] at hx
   obtain ⟨c,ha2⟩ := Zb ha
   cases ha2
   exact Zqn hT c H hx
  ·obtain ⟨h1,h2⟩ := Yp ha
   dsimp only at h1 h2
   subst h2
   exact (Gives.of_sim H (Zyb hT hx h1)).op.toI
 ·
  rename_i t x i c
  split at ha
  ·rename_i id s hx hi
   split at ha
   ·rename_i keys hb
    obtain ⟨c1,ha2⟩ := Zb ha
    cases ha2
    simp only [Bool.and_eq_true,Bool.not_eq_true'] at c1
    obtain ⟨c1,rfl⟩ := c1
    have hxv := hev x
    have hiv := hev i
    rw [hx] at hxv; rw [hi] at hiv
    exact (Zki hT c1 H hxv hiv hb).op.toI
   ·cases ha
  ·cases ha
 ·
  cases ha
  exact (Zi0 H hk hkn _).op.toI
 ·
  rename_i t m x v'
  split at ha
  ·rename_i id s hm hx hv
   split at ha
   ·rename_i keys hb
    obtain ⟨c1,ha2⟩ := Zb ha
    cases ha2
    have h1 := hev m
    have h2 := hev x
    have h3 := hev v'
    rw [hm] at h1; rw [hx] at h2; rw [hv] at h3
    exact Zm9 rfl (Zey hT c1 H h1 h2 h3 hb)
   ·cases ha
  ·cases ha
 ·
  rename_i t m x v'
  split at ha
  ·rename_i id s hm hx hv
   split at ha
   ·rename_i keys hb
    obtain ⟨c1,ha2⟩ := Zb ha
    cases ha2
    have h1 := hev m
    have h2 := hev x
    have h3 := hev v'
    rw [hm] at h1; rw [hx] at h2; rw [hv] at h3
    exact Zm9 rfl (Zey hT c1 H h1 h2 h3 hb)
   ·cases ha
  ·cases ha
 ·
  rename_i t x lo hi
  obtain ⟨h1,h2⟩ := Yp ha
  dsimp only at h1 h2
  subst h2
  exact (Gives.of_sim H (Zvl hT H hev (hev x) h1)).op.toI
 ·
  rename_i t l c
  split at ha
  ·rename_i ti hti
   split at ha
   ·rename_i e1 d1
    split at ha
    ·rename_i te hte
     obtain ⟨c1,ha2⟩ := Zb ha
     simp only [Bool.and_eq_true] at c1
     obtain ⟨⟨⟨⟨q1,q2⟩,q3⟩,q4⟩,q5⟩ := c1
     have q1 := Zvo q1
     subst q1
     split at ha2
     ·rename_i kk a hl
      obtain ⟨c2,ha3⟩ := Zb ha2
      obtain ⟨g1,g2⟩ := of_decide_eq_true c2
      cases ha3
      have hv := hev l
      rw [hl] at hv
      have e2 : ρ l = .int kk a := by generalize ρ l = z at hv; cases hv; rfl
      obtain ⟨m,rfl⟩ : ∃ m : Nat,a = (m : Int) := ⟨a.toNat,by omega⟩
      rw [e2,Int.toNat_natCast]
      have q3 : 0 < te.size := by simpa [Nat.blt_eq] using q3
      exact (Zjp hT hti d1 hte (Nat.eq_of_beq_eq_true q2) (by omega) q4 (by omega) (Nat.le_of_ble_eq_true q5) H hk hkn).op.toI
     ·cases ha2
    ·cases ha
   ·cases ha
  ·cases ha
 ·
  rename_i c
  obtain ⟨callee,args,ats⟩ := c
  dsimp only at ha
  split at ha
  ·split at ha
   ·rename_i t tx x y ht hx
    split at ha
    ·rename_i ti tj hti htj
     split at ha
     ·rename_i e1 e2 d1 d2
      split at ha
      ·rename_i te hte
       have h1 := hT.und t ti hti
       have h2 := hT.und tx tj htj
       rw [d1] at h1; rw [d2] at h2
       have e3 : ats = #[t,tx] := by apply Array.ext'; simpa using ht
       have e4 : args = #[x,y] := by apply Array.ext'; simpa using hx
       subst e3
       subst e4
       have g := (Zh0 (ty := type) hT h1 h2 hte H hk hkn (hev x) (hev y) ha).op.toI
       obtain ⟨x1,w1,r1,I1,q1,q2⟩ := g
       refine ⟨x1,w1,r1,I1,?_,q2⟩
       simpa [resolve,invoke,builtin] using q1
      ·cases ha
     ·cases ha
    ·cases ha
   ·cases ha
  ·split at ha
   ·rename_i x y hx
    have e4 : args = #[x,y] := by apply Array.ext'; simpa using hx
    subst e4
    split at ha
    ·rename_i k1 a k2 b h1 h2
     obtain ⟨c,ha2⟩ := Zb ha
     cases ha2
     simp only [decide_eq_true_eq] at c
     subst c
     have hxv := hev x
     have hyv := hev y
     rw [h1] at hxv; rw [h2] at hyv
     have e1 : ρ x = .float k1 a := by generalize ρ x = z at hxv; cases hxv; rfl
     have e2 : ρ y = .float k1 b := by generalize ρ y = z at hyv; cases hyv; rfl
     obtain ⟨x1,w1,r1,I1,q1,q2⟩ := (Gives.of_sim (P := P) (s := (pure (.complex k1 a b) : Sem Value)) H ⟨.complex k1 a b,by simp,.cpx _ _ _ _⟩).op.toI
     refine ⟨x1,w1,r1,I1,?_,q2⟩
     simpa [resolve,invoke,builtin,Zq8,e1,e2] using q1
    ·cases ha
   ·cases ha
  ·split at ha
   ·rename_i x hx
    have e4 : args = #[x] := by apply Array.ext'; simpa using hx
    subst e4
    split at ha
    ·rename_i k1 a b h1
     cases ha
     have hxv := hev x
     rw [h1] at hxv
     have e1 : ρ x = .complex k1 a b := by generalize ρ x = z at hxv; cases hxv; rfl
     obtain ⟨x1,w1,r1,I1,q1,q2⟩ := (Gives.of_sim (P := P) (s := (pure (.float k1 a) : Sem Value)) H ⟨.float k1 a,by simp,.flt _ _ _⟩).op.toI
     refine ⟨x1,w1,r1,I1,?_,q2⟩
     simpa [resolve,invoke,builtin,Zzp,e1] using q1
    ·cases ha
   ·cases ha
  ·split at ha
   ·rename_i x hx
    have e4 : args = #[x] := by apply Array.ext'; simpa using hx
    subst e4
    split at ha
    ·rename_i k1 a b h1
     cases ha
     have hxv := hev x
     rw [h1] at hxv
     have e1 : ρ x = .complex k1 a b := by generalize ρ x = z at hxv; cases hxv; rfl
     obtain ⟨x1,w1,r1,I1,q1,q2⟩ := (Gives.of_sim (P := P) (s := (pure (.float k1 b) : Sem Value)) H ⟨.float k1 b,by simp,.flt _ _ _⟩).op.toI
     refine ⟨x1,w1,r1,I1,?_,q2⟩
     simpa [resolve,invoke,builtin,Yah,e1] using q1
    ·cases ha
   ·cases ha
  ·cases ha
 ·cases ha
theorem Zpj {T : Tab} (hT : TabOK P T) {ok : TypeId -> Bool} (hok : EqOK P ok) (H : HR B w0 I0 pr r I D h n w) (hk : ¬ D k) (hkn : k < n) (o : Oper) {ρ : Operand -> Value} {ev : Operand -> AV}
  (hev : ∀ x,VR r I w D (ev x) (ρ x)) {v : AV} {e : Eff} (ha : aop T ok k ev h o.op = some (v,e)) : Ur P B w0 I0 pr r I D h n k (execOp ρ o) w v e := by
 unfold aop at ha
 split at ha
 ·rename_i x hx
  cases ha
  exact (Zlv hT hok H hk hkn o hev hx).toI
 ·exact Zup hT H hk hkn o hev ha
open Go
def fN (n : Nat) (K : Nat -> Prop) : Prop := match n with
 | 0 => K 0
 | m + 1 => K (m + 1)
theorem Zow (n : Nat) (K : Nat -> Prop) : fN n K = K n := by cases n <;> rfl
def fB (b : Bool) (K : Bool -> Prop) : Prop := match b with
 | true => K true
 | false => K false
theorem Yhz (b : Bool) (K : Bool -> Prop) : fB b K = K b := by cases b <;> rfl
def tA (v : AV) (K : AV -> Prop) : Prop := match v with
 | .any => K .any
 | .bool b => K (.bool b)
 | .int d n => K (.int d n)
 | .flt d n => K (.flt d n)
 | .cpx d n m => K (.cpx d n m)
 | .val a n c => K (.val a n c)
 | .str s => K (.str s)
 | .ptr a b c => fN a fun a => fN c fun c => K (.ptr a b c)
 | .ipt cs => K (.ipt cs)
 | .nilp => K .nilp
 | .nils => K .nils
 | .asl a b c => fN a fun a => K (.asl a b c)
 | .bsl a b c d e => fN a fun a => K (.bsl a b c d e)
 | .isl n els => fN n fun n => K (.isl n els)
 | .amap a => fN a fun a => K (.amap a)
 | .func f c0 c1 => K (.func f c0 c1)
 | .yld l => K (.yld l)
 | .agg cs => K (.agg cs)
 | .tup cs => K (.tup cs)
theorem Ztk (v : AV) (K : AV -> Prop) : tA v K = K v := by cases v <;> simp only [tA,Zow]
def hL (el : AV -> (AV -> Prop) -> Prop) (cs : List AV) : (List AV -> Prop) -> Prop := List.rec (motive := fun _ => (List AV -> Prop) -> Prop) (fun K => K []) (fun c _ ih K => el c fun c => ih fun cs => K (c :: cs)) cs
theorem Zmr {el : AV -> (AV -> Prop) -> Prop} (h : ∀ v K,el v K = K v) : ∀ (cs : List AV) (K : List AV -> Prop),hL el cs K = K cs
 | [],K => rfl
 | c :: cs,K => by
  show el c (fun c => hL el cs fun cs => K (c :: cs)) = _
  rw [h,Zmr h cs]
def sA (v : AV) (K : AV -> Prop) : Prop := match v with
 | .ipt cs => hL tA cs fun cs => K (.ipt cs)
 | .agg cs => hL tA cs fun cs => K (.agg cs)
 | v => tA v K
theorem Ydl (v : AV) (K : AV -> Prop) : sA v K = K v := by
 unfold sA; split
 ·exact Zmr Ztk _ _
 ·exact Zmr Ztk _ _
 ·exact Ztk _ _
def fA (v : AV) (K : AV -> Prop) : Prop := match v with
 | .ipt cs => hL tA cs fun cs => K (.ipt cs)
 | .agg cs => hL tA cs fun cs => K (.agg cs)
 | .func f c0 c1 => hL sA c0 fun c0 => hL sA c1 fun c1 => K (.func f c0 c1)
 | .tup cs => hL sA cs fun cs => K (.tup cs)
 | v => tA v K
theorem Zqs (v : AV) (K : AV -> Prop) : fA v K = K v := by
 unfold fA; split
 ·exact Zmr Ztk _ _
 ·exact Zmr Ztk _ _
 ·rw [Zmr Ydl,Zmr Ydl]
 ·exact Zmr Ydl _ _
 ·exact Ztk _ _
def fL (cs : List AV) (K : List AV -> Prop) : Prop := hL fA cs K
theorem Yap (cs : List AV) (K : List AV -> Prop) : fL cs K = K cs := Zmr Zqs cs K
def fK (b : ABlk) (K : ABlk -> Prop) : Prop := match b with
 | .row es elems mt pu => fN es fun es => fB mt fun mt => K (.row es elems mt pu)
 | .map l => K (.map l)
 | .set l => K (.set l)
 | .dead => K .dead
theorem Yg0 (b : ABlk) (K : ABlk -> Prop) : fK b K = K b := by cases b <;> simp only [fK,Zow,Yhz]
def Zc9 (l : List (List AV)) (i : Nat) (c : List AV) : List (List AV) := match l,i with
 | [_],0 => [c]
 | l,i => l.set i c
theorem Xn (l : List (List AV)) (i : Nat) (c : List AV) : Zc9 l i c = l.set i c := by
 unfold Zc9; split <;> rfl
def fEff (e : Eff) (σ : St) (K : St -> Prop) : Prop := match e with
 | .none => K σ
 | .add b => match σ with
  | ⟨h,n⟩ => fK b fun b => fN n fun n => K ⟨(n,b) :: h,n + 1⟩
 | .put id b => match σ with
  | ⟨h,n⟩ => fK b fun b => fN id fun id => K ⟨(id,b) :: h,n⟩
 | .app id b => match σ with
  | ⟨h,n⟩ => fK b fun b => fN id fun id => fN n fun n => K ⟨(n,b) :: (id,.dead) :: h,n + 1⟩
def fSt (σ : St) (K : St -> Prop) : Prop := match σ with
 | ⟨h,n⟩ => fN n fun n => match h with
  | [] => K ⟨[],n⟩
  | p :: h => K ⟨p :: h,n⟩
theorem Zxm (σ : St) (K : St -> Prop) : fSt σ K = K σ := by
 obtain ⟨h,n⟩ := σ
 cases h <;> simp only [fSt,Zow]
def fEnv (env : Env) (K : Env -> Prop) : Prop := match env with
 | [] => K []
 | p :: env => K (p :: env)
theorem Zqr (env : Env) (K : Env -> Prop) : fEnv env K = K env := by cases env <;> rfl
def fNs (l : List Nat) : (List Nat -> Prop) -> Prop := List.rec (motive := fun _ => (List Nat -> Prop) -> Prop) (fun K => K []) (fun c _ ih K => fN c fun c => ih fun cs => K (c :: cs)) l
theorem Ycr : ∀ (l : List Nat) (K : List Nat -> Prop),fNs l K = K l
 | [],K => rfl
 | c :: cs,K => by
  show fN c (fun c => fNs cs fun cs => K (c :: cs)) = _
  rw [Zow,Ycr cs]
def fPut (p : Nat × ABlk) (K : Nat × ABlk -> Prop) : Prop := match p with
 | (i,b) => fN i fun i => fK b fun b => K (i,b)
theorem Yex (p : Nat × ABlk) (K : Nat × ABlk -> Prop) : fPut p K = K p := by obtain ⟨i,b⟩ := p; simp only [fPut,Zow,Yg0]
def Yao (l : List (Nat × ABlk)) : (List (Nat × ABlk) -> Prop) -> Prop := List.rec (motive := fun _ => (List (Nat × ABlk) -> Prop) -> Prop) (fun K => K []) (fun c _ ih K => fPut c fun c => ih fun cs => K (c :: cs)) l
theorem Zsv : ∀ (l : List (Nat × ABlk)) (K : List (Nat × ABlk) -> Prop),Yao l K = K l
 | [],K => rfl
 | c :: cs,K => by
  show fPut c (fun c => Yao cs fun cs => K (c :: cs)) = _
  rw [Yex,Zsv cs]
open Go Go.RowKit
def Br (b : Bool) (A A' : Prop) : Prop := match b with
 | true => A
 | false => A'
theorem Br.cases {b : Bool} {A A' : Prop} (h : Br b A A') : (b = true /\ A) \/ (b = false /\ A') := by cases b; exact .inr ⟨rfl,h⟩; exact .inl ⟨rfl,h⟩
theorem Br.intro {b : Bool} {A A' : Prop} (h : b = true -> A) (h' : b = false -> A') : Br b A A' := by cases b; exact h' rfl; exact h rfl
theorem wkS {b : Bool} {A : Prop} (h : b = true) (k : A) : match (generalizing := false) b with
 | true => A
 | false => False := by subst h; exact k
theorem wkY {p : Prop} [Decidable p] {A A' : Prop} (h : p) (k : A) : match (generalizing := false) decide p with
 | true => A
 | false => A' := by rw [decide_eq_true h]; exact k
theorem wkN {p : Prop} [Decidable p] {A A' : Prop} (h : ¬p) (k : A') : match (generalizing := false) decide p with
 | true => A
 | false => A' := by rw [decide_eq_false h]; exact k
theorem wkQ {p : Prop} [Decidable p] {A A' : Prop} (h : ¬p) (k : A) : match (generalizing := false) !decide p with
 | true => A
 | false => A' := by rw [decide_eq_false h]; exact k
theorem wkR {p : Prop} [Decidable p] {A A' : Prop} (h : p) (k : A') : match (generalizing := false) !decide p with
 | true => A
 | false => A' := by rw [decide_eq_true h]; exact k
theorem wkB {b : Bool} {A A' : Prop} (h : b = true -> A) (k : b = false -> A') : match (generalizing := false) b with
 | true => A
 | false => A' := by cases b; exact k rfl; exact h rfl
theorem wkC {b c : Bool} {A A' : Prop} (k : match (generalizing := false) b with
 | true => A
 | false => A') : match (generalizing := false) cond true b c with
 | true => A
 | false => A' := k
theorem wkD {b c : Bool} {A A' : Prop} (k : match (generalizing := false) b with
 | true => A
 | false => A') : match (generalizing := false) cond false c b with
 | true => A
 | false => A' := k
theorem wxS {b : Bool} {A : Prop} (h : b = true) : A -> match (generalizing := false) b with
 | true => A
 | false => False := fun k => wkS h k
theorem wxY {p : Prop} [Decidable p] {A A' : Prop} (h : p) : A -> match (generalizing := false) decide p with
 | true => A
 | false => A' := fun k => wkY h k
theorem wxN {p : Prop} [Decidable p] {A A' : Prop} (h : ¬p) : A' -> match (generalizing := false) decide p with
 | true => A
 | false => A' := fun k => wkN h k
theorem wxQ {p : Prop} [Decidable p] {A A' : Prop} (h : ¬p) : A -> match (generalizing := false) !decide p with
 | true => A
 | false => A' := fun k => wkQ h k
theorem wxR {p : Prop} [Decidable p] {A A' : Prop} (h : p) : A' -> match (generalizing := false) !decide p with
 | true => A
 | false => A' := fun k => wkR h k
def Got {α : Type} (o : Option α) (K : α -> Prop) : Prop := match o with
 | some x => K x
 | none => False
theorem Got.cases {α : Type} {o : Option α} {K : α -> Prop} (h : Got o K) : ∃ x,o = some x /\ K x := by cases o; exact h.elim; exact ⟨_,rfl,h⟩
theorem Got.intro {α : Type} {o : Option α} {K : α -> Prop} {x : α} (h : o = some x) (k : K x) : Got o K := by subst h; exact k
def Dr (A A' : Prop) : Prop := A /\ A'
theorem Dr.intro {A A' : Prop} (h : A) (k : A') : Dr A A' := ⟨h,k⟩
def As (b : Bool) (A : Prop) : Prop := match b with
 | true => A
 | false => False
theorem As.cases {b : Bool} {A : Prop} (h : As b A) : b = true /\ A := by cases b; exact h.elim; exact ⟨rfl,h⟩
theorem As.intro {b : Bool} {A : Prop} (h : b = true) (k : A) : As b A := by subst h; exact k
variable {T : Tab} {ok : TypeId -> Bool} {k : Nat} {ev : Operand -> AV} {h : Nat -> ABlk}
def Ydx (a b : AV) (p : Bool) (K : AV × Eff -> Prop) : Prop := match a,b with
 | .bool x,.bool y => K (.bool (cond p x y),.none)
 | x,y => Br p (K (x,.none)) (K (y,.none))
def Zw5 (es : Nat) (h : Nat -> ABlk) (v : AV) (i : Int) (K : AV × Eff -> Prop) : Prop := match v with
 | .asl id idx len => match h id with
  | .row es' _ _ _ => cond (Nat.beq es es') (As (decide (0 <= i /\ i < (len : Int))) (K (.ptr id (idx + i.toNat) 0,.none))) False
  | _ => False
 | .isl es' elems => cond (Nat.beq es es') (As (decide (0 <= i)) (Got (elems[i.toNat]?) fun e => K (.ipt e,.none))) False
 | v => Got (ret (Zbn es h v i)) K
def Yd8 (ti : TI) (h : Nat -> ABlk) (v : AV) (K : AV × Eff -> Prop) : Prop := match v with
 | .ptr id idx sub => match h id with
  | .row _ elems _ _ => Got (elems[idx]?) fun cells => Got (ret (Zc4 ti cells sub)) K
  | _ => False
 | .ipt cells => Got (ret (Zc4 ti cells 0)) K
 | _ => False
def Zvi (ti : TI) (id idx sub : Nat) (xs : List AV) (es : Nat) (elems : List (List AV)) (mt pu : Bool) (K : AV × Eff -> Prop) : Prop :=
 cond (mt && xs.all AV.one && Nat.beq xs.length ti.size) (Got (elems[idx]?) fun cells => cond (Nat.ble (sub + xs.length) cells.length) (fL (splice cells sub xs) fun c => K (.tup [],.put id (.row es (Zc9 elems idx c) true (pu && Yh xs)))) False) False
def fSp (cs : List AV) (K : List AV -> Prop) : Prop := List.rec (motive := fun _ => (List AV -> Prop) -> Prop) (fun K => K []) (fun c _ ih K => ih fun cs => K (c :: cs)) cs K
theorem Ycq : ∀ (cs : List AV) (K : List AV -> Prop),fSp cs K = K cs
 | [],K => rfl
 | c :: cs,K => Ycq cs fun cs => K (c :: cs)
def Zui (place : Nat -> Option (Nat × Nat)) (cells : List AV) (ps : List (Nat × AV)) (K : List AV -> Prop) : Prop := match ps with
 | [] => K cells
 | (i,v) :: rest => match place i,cellsOf v with
  | some (off,size),some cs => cond (Nat.beq cs.length size && Nat.ble (off + cs.length) cells.length) (fSp (splice cells off cs) fun cells => Zui place cells rest K) False
  | _,_ => False
theorem Zov {place : Nat -> Option (Nat × Nat)} : ∀ (ps : List (Nat × AV)) (cells : List AV) (K : List AV -> Prop),Zui place cells ps K ↔ ∃ out,Zbo place cells ps = some out /\ K out
 | [],cells,K => ⟨fun h => ⟨_,rfl,h⟩,fun ⟨q,hq,hk⟩ => by cases hq; exact hk⟩
 | (i,v) :: rest,cells,K => by
  unfold Zui Zbo
  cases place i with
  | none => exact ⟨fun h => h.elim,fun ⟨q,hq,_⟩ => by cases hq⟩
  | some p =>
   obtain ⟨off,size⟩ := p
   cases cellsOf v with
   | none => exact ⟨fun h => h.elim,fun ⟨q,hq,_⟩ => by cases hq⟩
   | some cs =>
    dsimp only
    cases (Nat.beq cs.length size && Nat.ble (off + cs.length) cells.length) with
    | false => exact ⟨fun h => h.elim,fun ⟨q,hq,_⟩ => by cases hq⟩
    | true => simp only [cond_true,Ycq]; exact Zov rest _ K
def aopK (T : Tab) (ok : TypeId -> Bool) (k : Nat) (ev : Operand -> AV) (h : Nat -> ABlk) (op : Op) (K : AV × Eff -> Prop) : Prop :=
 match op with
 | .pick c a b => match ev c with
  | .bool p => Ydx (ev a) (ev b) p K
  | _ => Got (aop T ok k ev h (.pick c a b)) K
 | .load t a => match T t with
  | some ti => Yd8 ti h (ev a) K
  | none => Got (aop T ok k ev h (.load t a)) K
 | .indexAddr t x i => match T t,Zeo T t,ev i with
  | some ti,some te,.int _ n => match ti.desc with
   | .slice _ => Zw5 te.size h (ev x) n K
   | .array len _ => As (decide (0 <= n /\ n < (len : Int))) (Got (ret (faddr 0 (n.toNat * te.size) (ev x))) K)
   | _ => Got (aop T ok k ev h (.indexAddr t x i)) K
  | _,_,_ => Got (aop T ok k ev h (.indexAddr t x i)) K
 | .index t x i => match T t,ev x,ev i with
  | some ti,.str s,.int _ n => match ti.desc with
   | .string => As (decide (0 <= n)) (Got (s.data.toList[n.toNat]?) fun b => K (.int .u8 b.toNat,.none))
   | _ => Got (aop T ok k ev h (.index t x i)) K
  | _,_,_ => Got (aop T ok k ev h (.index t x i)) K
 | .store t a x => match T t,ev a,cellsOf (ev x) with
  | some ti,.ptr id idx sub,some xs => match h id with
   | .row es elems mt pu => Zvi ti id idx sub xs es elems mt pu K
   | _ => Got (aop T ok k ev h (.store t a x)) K
  | _,_,_ => Got (aop T ok k ev h (.store t a x)) K
 | .binOp .quo t x y ty => match ev x,ev y with
  | .int k1 a,.int k2 b => cond (decide (k1 = k2)) (As (!decide (b = 0)) (K (.int k1 (k1.wrap (a.tdiv b)),.none))) (Got (aop T ok k ev h (.binOp .quo t x y ty)) K)
  | _,_ => Got (aop T ok k ev h (.binOp .quo t x y ty)) K
 | .binOp .rem t x y ty => match ev x,ev y with
  | .int k1 a,.int k2 b => cond (decide (k1 = k2)) (As (!decide (b = 0)) (K (.int k1 (a.tmod b),.none))) (Got (aop T ok k ev h (.binOp .rem t x y ty)) K)
  | _,_ => Got (aop T ok k ev h (.binOp .rem t x y ty)) K
 | .build t ps => match T t with
  | some ti => match ti.desc with
   | .struct fs => match Zak T fs.toList with
    | some l => Zui (fun i => l[i]?) ti.zero (Ul ev ps) fun out => K (.agg out,.none)
    | none => False
   | .array _ e => match T e with
    | some te => Zui (fun i => some (i * te.size,te.size)) ti.zero (Ul ev ps) fun out => K (.agg out,.none)
    | none => False
   | _ => False
  | none => False
 | .makeSlice t l c => match T t with
  | some ti => match ti.desc with
   | .slice e => match T e with
    | some te => cond (Znl l c && Nat.beq te.zero.length te.size && Nat.blt 0 te.size && Yh te.zero && Nat.ble (1000000 * te.bytes) 140737488355328) (match ev l with
     | .int _ a => As (decide (0 <= a /\ a.toNat <= 1000000)) (K (.asl k 0 a.toNat,.add (.row te.size (List.replicate a.toNat te.zero) true true)))
     | _ => False) False
    | none => False
   | _ => False
  | none => False
 | op => Got (aop T ok k ev h op) K
theorem Got.iff {α : Type} {o : Option α} {K : α -> Prop} : Got o K ↔ ∃ x,o = some x /\ K x := ⟨Got.cases,fun ⟨_,h,k⟩ => Got.intro h k⟩
theorem Zgt {op : Op} {p : AV × Eff} (ha : aopA T ok k ev h op = some p) : aop T ok k ev h op = some p := by
 unfold aop; rw [ha]
theorem Zv3 {c a b : Operand} {p : Bool} {K : AV × Eff -> Prop} (hc : ev c = .bool p) : Ydx (ev a) (ev b) p K ↔ ∃ q,aop T ok k ev h (.pick c a b) = some q /\ K q := by
 have e : aopA T ok k ev h (.pick c a b) = match ev a,ev b with
   | .bool x,.bool y => some (.bool (cond p x y),.none)
   | x,y => cond p (some (x,.none)) (some (y,.none)) := by simp only [aopA,hc]; cases ev a <;> cases ev b <;> rfl
 unfold Ydx
 split
 ·rename_i x y h1 h2
  rw [h1,h2] at e
  rw [Zgt e]
  exact ⟨fun h => ⟨_,rfl,h⟩,fun ⟨q,hq,hk⟩ => by cases hq; exact hk⟩
 ·rename_i h1
  have e2 : aopA T ok k ev h (.pick c a b) = cond p (some (ev a,.none)) (some (ev b,.none)) := by
   rw [e]
   split
   ·rename_i x y g1 g2; exact (h1 x y g1 g2).elim
   ·rfl
  cases p with
  | true => rw [Zgt (e2.trans rfl)]; exact ⟨fun h => ⟨_,rfl,h⟩,fun ⟨q,hq,hk⟩ => by cases hq; exact hk⟩
  | false => rw [Zgt (e2.trans rfl)]; exact ⟨fun h => ⟨_,rfl,h⟩,fun ⟨q,hq,hk⟩ => by cases hq; exact hk⟩
theorem Zyw (op : Op) (ho : match op with
  | .binOp .. | .convert .. | .lookup .. | .makeMap .. | .makeSlice .. | .mapUpdate .. | .insert .. | .slice .. | .call .. => False
  | _ => True) : aopB T k ev h op = none := by
 cases op <;> first | rfl | exact ho.elim
theorem Zd9 (op : Op) (ho : match op with
  | .binOp .. | .convert .. | .lookup .. | .makeMap .. | .makeSlice .. | .mapUpdate .. | .insert .. | .slice .. | .call .. => False
  | _ => True) : aop T ok k ev h op = aopA T ok k ev h op := by
 unfold aop
 cases aopA T ok k ev h op with
 | some x => rfl
 | none => exact Zyw op ho
theorem Zwn {t : TypeId} {a : Operand} {ti : TI} {K : AV × Eff -> Prop} (ht : T t = some ti) : Yd8 ti h (ev a) K ↔ ∃ q,aop T ok k ev h (.load t a) = some q /\ K q := by
 rw [Zd9 _ trivial]
 simp only [aopA,ht,Yd8]
 cases hv : ev a with
 | ptr id idx sub =>
  cases hb : h id with
  | row es elems mt pu =>
   simp only [hv,hb]
   cases elems[idx]? with
   | none => exact ⟨fun h => h.elim,fun ⟨q,hq,_⟩ => by cases hq⟩
   | some cells => exact Got.iff (o := ret (Zc4 ti cells sub))
  | _ => simp only [hv,hb]; exact ⟨fun h => h.elim,fun ⟨q,hq,_⟩ => by cases hq⟩
 | ipt cells => exact Got.iff
 | _ => exact ⟨fun h => h.elim,fun ⟨q,hq,_⟩ => by cases hq⟩
theorem Zs1 {b : Bool} {α : Type} {o : Option α} {A : Prop} {K : α -> Prop} (h : A ↔ ∃ q,o = some q /\ K q) : As b A ↔ ∃ q,cond b o none = some q /\ K q := by
 cases b with
 | true => exact h
 | false => exact ⟨fun h => h.elim,fun ⟨q,hq,_⟩ => by cases hq⟩
theorem Zvu {v : AV} {K : AV × Eff -> Prop} : K (v,.none) ↔ ∃ q,ret (some v) = some q /\ K q := ⟨fun h => ⟨_,rfl,h⟩,fun ⟨q,hq,hk⟩ => by cases hq; exact hk⟩
theorem Zud {es : Nat} {v : AV} {i : Int} {K : AV × Eff -> Prop} : Zw5 es h v i K ↔ ∃ q,ret (Zbn es h v i) = some q /\ K q := by
 unfold Zw5
 split
 ·rename_i id idx len
  cases hb : h id with
  | row es' elems mt pu =>
   simp only [Zbn,hb]
   cases Nat.beq es es' with
   | false => exact ⟨fun h => h.elim,fun ⟨q,hq,_⟩ => by cases hq⟩
   | true =>
    simp only [cond_true]
    cases decide (0 <= i /\ i < (len : Int)) with
    | false => exact ⟨fun h => h.elim,fun ⟨q,hq,_⟩ => by cases hq⟩
    | true => exact Zvu
  | _ => simp only [Zbn,hb]; exact ⟨fun h => h.elim,fun ⟨q,hq,_⟩ => by cases hq⟩
 ·rename_i es' elems
  simp only [Zbn]
  cases Nat.beq es es' with
  | false => exact ⟨fun h => h.elim,fun ⟨q,hq,_⟩ => by cases hq⟩
  | true =>
   simp only [cond_true]
   cases decide (0 <= i) with
   | false => exact ⟨fun h => h.elim,fun ⟨q,hq,_⟩ => by cases hq⟩
   | true =>
    simp only [cond_true]
    cases elems[i.toNat]? with
    | none => exact ⟨fun h => h.elim,fun ⟨q,hq,_⟩ => by cases hq⟩
    | some e => exact Zvu
 ·exact Got.iff
theorem Ztm {t : TypeId} {a x : Operand} {ti : TI} {id idx sub : Nat} {xs : List AV} {es : Nat} {elems : List (List AV)} {mt pu : Bool} {K : AV × Eff -> Prop} (ht : T t = some ti) (ha : ev a = .ptr id idx sub) (hx : cellsOf (ev x) = some xs) (hb : h id = .row es elems mt pu) :
  Zvi ti id idx sub xs es elems mt pu K ↔ ∃ q,aop T ok k ev h (.store t a x) = some q /\ K q := by
 rw [Zd9 _ trivial]
 simp only [aopA,ht,ha,hx,hb,Zvi]
 cases (mt && xs.all AV.one && Nat.beq xs.length ti.size) with
 | false => exact ⟨fun h => h.elim,fun ⟨q,hq,_⟩ => by cases hq⟩
 | true =>
  simp only [cond_true]
  cases elems[idx]? with
  | none => exact ⟨fun h => h.elim,fun ⟨q,hq,_⟩ => by cases hq⟩
  | some cells =>
   simp only [Got]
   cases Nat.ble (sub + xs.length) cells.length with
   | false => exact ⟨fun h => h.elim,fun ⟨q,hq,_⟩ => by cases hq⟩
   | true =>
    simp only [cond_true,Yap,Xn]
    exact ⟨fun h => ⟨_,rfl,h⟩,fun ⟨q,hq,hk⟩ => by cases hq; exact hk⟩
theorem Zs6 (op : Op) {K : AV × Eff -> Prop} : aopK T ok k ev h op K ↔ ∃ q,aop T ok k ev h op = some q /\ K q := by
 unfold aopK
 split
 ·rename_i c a b
  split
  ·rename_i p hc; exact Zv3 hc
  ·exact Got.iff
 ·rename_i t a
  split
  ·rename_i ti ht; exact Zwn ht
  ·exact Got.iff
 ·rename_i t x i
  split
  ·rename_i ti te kk n h1 h2 h3
   split
   ·rename_i e hd
    rw [Zd9 _ trivial]
    simp only [aopA,h1,h2,h3,hd]
    exact Zud
   ·rename_i len e hd
    rw [Zd9 _ trivial]
    simp only [aopA,h1,h2,h3,hd,Zw6]
    cases decide (0 <= n /\ n < (len : Int)) with
    | false => exact ⟨fun h => h.elim,fun ⟨q,hq,_⟩ => by cases hq⟩
    | true => exact Got.iff
   ·exact Got.iff
  ·exact Got.iff
 ·rename_i t x i
  split
  ·rename_i ti s kk n h1 h2 h3
   split
   ·rename_i hd
    rw [Zd9 _ trivial]
    simp only [aopA,h1,h2,h3,hd]
    refine Zs1 ?_
    cases s.data.toList[n.toNat]? with
    | none => exact ⟨fun h => h.elim,fun ⟨q,hq,_⟩ => by cases hq⟩
    | some e => exact ⟨fun h => ⟨_,rfl,h⟩,fun ⟨q,hq,hk⟩ => by cases hq; exact hk⟩
   ·exact Got.iff
  ·exact Got.iff
 ·rename_i t a x
  split
  ·rename_i ti id idx sub xs h1 h2 h3
   split
   ·rename_i es elems mt pu hb; exact Ztm h1 h2 h3 hb
   ·exact Got.iff
  ·exact Got.iff
 ·rename_i t x y ty
  split
  ·rename_i k1 a k2 b h1 h2
   cases hk : decide (k1 = k2) with
   | false => exact Got.iff
   | true =>
    simp only [cond_true]
    have e : aopA T ok k ev h (.binOp .quo t x y ty) = ret (cond (decide (b = 0)) none (some (.int k1 (k1.wrap (a.tdiv b))))) := by
     simp only [aopA,h1,h2,Zyn,hk,cond_true,Zwz]
    cases hb : decide (b = 0) with
    | true =>
     refine ⟨fun h => h.elim,fun ⟨q,hq,_⟩ => ?_⟩
     unfold aop at hq
     rw [e,hb] at hq
     simp only [cond_true,ret,aopB,h1,h2,Zpg] at hq
     cases hq
    | false =>
     rw [hb] at e
     rw [Zgt e]
     exact ⟨fun h => ⟨_,rfl,h⟩,fun ⟨q,hq,hk⟩ => by cases hq; exact hk⟩
  ·exact Got.iff
 ·rename_i t x y ty
  split
  ·rename_i k1 a k2 b h1 h2
   cases hk : decide (k1 = k2) with
   | false => exact Got.iff
   | true =>
    simp only [cond_true]
    have e : aopA T ok k ev h (.binOp .rem t x y ty) = ret (cond (decide (b = 0)) none (some (.int k1 (a.tmod b)))) := by
     simp only [aopA,h1,h2,Zyn,hk,cond_true,Zwz]
    cases hb : decide (b = 0) with
    | true =>
     refine ⟨fun h => h.elim,fun ⟨q,hq,_⟩ => ?_⟩
     unfold aop at hq
     rw [e,hb] at hq
     simp only [cond_true,ret,aopB,h1,h2,Zpg] at hq
     cases hq
    | false =>
     rw [hb] at e
     rw [Zgt e]
     exact ⟨fun h => ⟨_,rfl,h⟩,fun ⟨q,hq,hk⟩ => by cases hq; exact hk⟩
  ·exact Got.iff
 ·rename_i t ps
  rw [Zd9 _ trivial]
  simp only [aopA]
  have none_iff : False ↔ ∃ q,(none : Option (AV × Eff)) = some q /\ K q := ⟨fun h => h.elim,fun ⟨q,hq,_⟩ => by cases hq⟩
  have fill : ∀ (place : Nat -> Option (Nat × Nat)) (cells : List AV),Zui place cells (Ul ev ps) (fun out => K (.agg out,.none)) ↔ ∃ q,(match Zbo place cells (Ul ev ps) with
    | some out => some (AV.agg out,Eff.none)
    | none => none) = some q /\ K q := by
   intro place cells
   rw [Zov]
   cases Zbo place cells (Ul ev ps) with
   | none => exact ⟨fun ⟨q,hq,_⟩ => (by cases hq),fun ⟨q,hq,_⟩ => (by cases hq)⟩
   | some out => exact ⟨fun ⟨q,hq,hk⟩ => by cases hq; exact ⟨_,rfl,hk⟩,fun ⟨q,hq,hk⟩ => by cases hq; exact ⟨_,rfl,hk⟩⟩
  cases T t with
  | none => exact none_iff
  | some ti =>
   dsimp only
   cases ti.desc with
   | struct fs =>
    dsimp only
    cases Zak T fs.toList with
    | none => exact none_iff
    | some l => exact fill _ _
   | array n e =>
    dsimp only
    cases T e with
    | none => exact none_iff
    | some te => exact fill _ _
   | _ => exact none_iff
 ·rename_i t l c
  have none_iff : False ↔ ∃ q,(none : Option (AV × Eff)) = some q /\ K q := ⟨fun h => h.elim,fun ⟨q,hq,_⟩ => by cases hq⟩
  have ha : aop T ok k ev h (.makeSlice t l c) = aopB T k ev h (.makeSlice t l c) := rfl
  rw [ha]
  unfold aopB
  dsimp only
  cases T t with
  | none => exact none_iff
  | some ti =>
   dsimp only
   cases ti.desc with
   | slice e =>
    dsimp only
    cases T e with
    | none => exact none_iff
    | some te =>
     dsimp only
     cases (Znl l c && Nat.beq te.zero.length te.size && Nat.blt 0 te.size && Yh te.zero && Nat.ble (1000000 * te.bytes) 140737488355328) with
     | false => exact none_iff
     | true =>
      simp only [cond_true]
      cases ev l with
      | int kk a =>
       dsimp only
       exact Zs1 ⟨fun h => ⟨_,rfl,h⟩,fun ⟨q,hq,hk⟩ => by cases hq; exact hk⟩
      | _ => exact none_iff
   | _ => exact none_iff
 ·exact Got.iff
theorem aopK.cases {op : Op} {K : AV × Eff -> Prop} (hk : aopK T ok k ev h op K) : ∃ q,aop T ok k ev h op = some q /\ K q := (Zs6 op).1 hk
theorem aopK.of {op : Op} {K : AV × Eff -> Prop} {q : AV × Eff} (ha : aop T ok k ev h op = some q) (hk : K q) : aopK T ok k ev h op K := (Zs6 op).2 ⟨q,ha,hk⟩
def aopSK (T : Tab) (ok : TypeId -> Bool) (k : Nat) (ev : Operand -> AV) (h : Nat -> ABlk) (op : Op) (K : AV × Eff -> Prop) : Prop :=
 match op with
 | .load t a => aopK T ok k ev h (.load t a) K
 | .indexAddr t x i => aopK T ok k ev h (.indexAddr t x i) K
 | op => Got (aopA T ok k ev h op) K
theorem aopSK.cases {op : Op} {K : AV × Eff -> Prop} (hk : aopSK T ok k ev h op K) : ∃ q,aopA T ok k ev h op = some q /\ K q := by
 unfold aopSK at hk
 split at hk
 ·obtain ⟨q,hq,hk⟩ := aopK.cases hk
  rw [Zd9 _ trivial] at hq
  exact ⟨q,hq,hk⟩
 ·obtain ⟨q,hq,hk⟩ := aopK.cases hk
  rw [Zd9 _ trivial] at hq
  exact ⟨q,hq,hk⟩
 ·exact Got.cases hk
def Zww {α : Type} : List α -> Bool
 | [] => true
 | _ => false
def appK (k : Nat) (h : Nat -> ABlk) (te : TI) (x y : AV) (K : AV × Eff -> Prop) : Prop :=
 match Yu te.size h y with
 | none => False
 | some (ys,py) => match x with
  | .nils => Br (Zww ys) (K (.nils,.none)) (cond (Nat.ble (1000000 * te.bytes) 140737488355328) (As (decide (ys.length <= 1000000)) (K (.asl k 0 ys.length,.add (.row te.size ys true py)))) False)
  | .asl id idx len => match h id with
   | .row es elems true px => cond (Nat.beq te.size es && Nat.ble (1000000 * te.bytes) 140737488355328) (cond (Nat.beq idx 0)
     (As (decide (len = elems.length /\ elems.length + ys.length <= 1000000)) (As (Vc ys) (K (.asl k 0 (elems.length + ys.length),.app id (.row te.size (elems ++ ys) true (px && py))))))
     (As (decide (len = (elems.drop idx).length /\ (elems.drop idx).length + ys.length <= 1000000)) (As (Vc ys) (As (decide (idx <= elems.length)) (K (.asl k 0 ((elems.drop idx).length + ys.length),.app id (.row te.size (elems.drop idx ++ ys) true (px && py)))))))) False
   | _ => False
  | _ => Got (Zho k h te x y) K
theorem Yac {α : Type} {l : List α} (h : Zww l = true) : l = [] := by cases l; rfl; cases h
theorem Yad {α : Type} {l : List α} (h : Zww l = false) : ∃ a m,l = a :: m := by cases l; cases h; exact ⟨_,_,rfl⟩
theorem Zd5 {b : Bool} {A : Prop} (h : cond b A False) : b = true /\ A := by cases b; exact h.elim; exact ⟨rfl,h⟩
section
variable {r r' : Locs} {D : Nat -> Prop} {I : Imm} {w w0 : World} {I0 : Imm} {B n k : Nat} {pr : Nat -> Obj -> Prop} {h : Nat -> ABlk} {P : Program} {ty : TypeId}
theorem Zes {T : Tab} (hT : TabOK P T) {t tx e e' : TypeId} (ht : P.underlying t = some (.slice e)) (htx : P.underlying tx = some (.slice e')) {te : TI} (hte : T e = some te) (H : HR B w0 I0 pr r I D h n w) (hk : ¬ D k) (hkn : k < n)
  {y : AV} {u v : Value} {id idx len : Nat} {elems : List (List AV)} {px py : Bool} (hx : VR r I w D (.asl id idx len) u) (hy : VR r I w D y v) (hys : Yu te.size h y = some ([],py)) (hb : h id = .row te.size elems true px) (hl : idx + len = elems.length) :
  Gives P B w0 I0 pr r I D h n k (Builtin.append_ #[t,tx] ty #[u,v]) w (.asl k 0 len) (.app id (.row te.size (elems.drop idx ++ []) true (px && py))) := by
 obtain ⟨i,hi,g1,g2,z,hz,g3,_⟩ := hT.info e te hte
 obtain ⟨a,c,news,rfl,Ey⟩ := Zbf H hy hys
 have hB := H.blk id
 rw [hb] at hB
 obtain ⟨⟨hb1,hb2⟩,hb3,_⟩ := hB
 obtain ⟨base,sCap,rfl,hbase,hcapv⟩ : ∃ base sCap,u = .slice base len sCap /\ base = some ⟨(r id).blk,(r id).off + idx * te.size,none⟩ /\ sCap = (r id).cap - idx := by
  cases hx with
  | asl _ _ _ _ hd hc => exact ⟨_,_,rfl,by rw [hb1],rfl⟩
 subst hbase
 subst hcapv
 have hrun := Zaw (P := P) (w := w) (ty := ty) (base := some ⟨(r id).blk,(r id).off + idx * te.size,none⟩) (a := a) (sCap := (r id).cap - idx) (c := c) (m := len) ht htx hi (by omega)
 obtain ⟨m1,m2⟩ := H.moveExt (k := k) (pn := py) (new := []) (idx := idx) hk hkn hb (by omega) (by simpa using hb3) (fun i e hi => by simp at hi) (fun i e j c hi => by simp at hi)
 have hD : (fun i => D i \/ ((Eff.app id (.row te.size (elems.drop idx ++ []) true (px && py))).adds = true /\ i = k)) = (fun i => D i \/ i = k) := funext fun i => by simp [Eff.adds]
 unfold Gives
 rw [hD]
 refine ⟨_,_,_,hrun,?_,m2,?_⟩
 ·simp only [Eff.go]; exact m1
 ·have := VR.asl (r := rupd r k ⟨(r id).blk,(r id).off + idx * te.size,(r id).cap - idx,te.size,elems.length - idx + ([] : List (List AV)).length⟩) (I := I) (w := w) (fun i => D i \/ i = k) k 0 len (.inr rfl) (by simp only [rupd,if_true,List.length_nil]; omega)
  simpa [rupd] using this
theorem Zuo {T : Tab} (hT : TabOK P T) {t tx e e' : TypeId} (ht : P.underlying t = some (.slice e)) (htx : P.underlying tx = some (.slice e')) {te : TI} (hte : T e = some te) (H : HR B w0 I0 pr r I D h n w) (hk : ¬ D k) (hkn : k < n)
  {x y : AV} {u v : Value} (hx : VR r I w D x u) (hy : VR r I w D y v) {K : AV × Eff -> Prop} (hK : appK k h te x y K) : ∃ res eff,Gives P B w0 I0 pr r I D h n k (Builtin.append_ #[t,tx] ty #[u,v]) w res eff /\ K (res,eff) := by
 have old : ∀ res eff,Zho k h te x y = some (res,eff) -> K (res,eff) -> ∃ res eff,Gives P B w0 I0 pr r I D h n k (Builtin.append_ #[t,tx] ty #[u,v]) w res eff /\ K (res,eff) :=
  fun res eff ha hk2 => ⟨res,eff,Zh0 hT ht htx hte H hk hkn hx hy ha,hk2⟩
 unfold appK at hK
 split at hK
 ·exact hK.elim
 ·rename_i ys py hys
  split at hK
  ·have hk0 := hK.cases
   clear hK
   rcases hk0 with ⟨hb,hK⟩ | ⟨hb,hK⟩
   ·have := Yac hb
    subst this
    refine old _ _ ?_ hK
    unfold Zho; rw [hys]
   ·obtain ⟨y0,yt,rfl⟩ := Yad hb
    obtain ⟨c1,hK⟩ := Zd5 hK
    obtain ⟨c2,hK⟩ := hK.cases
    have c1 := Nat.le_of_ble_eq_true c1
    have c2 := of_decide_eq_true c2
    have c3 := Nat.mul_le_mul_right te.bytes c2
    refine old _ _ ?_ hK
    unfold Zho
    rw [hys]
    dsimp only
    rw [show Yu te.size h .nils = some ([],true) from rfl]
    dsimp only
    rw [show (Nat.ble (([] : List (List AV)).length + (y0 :: yt).length) 1000000000000 && Nat.ble ((([] : List (List AV)).length + (y0 :: yt).length) * te.bytes) 140737488355328) = true by
     rw [Bool.and_eq_true,Nat.ble_eq,Nat.ble_eq]
     simp only [List.length_nil,Nat.zero_add]
     omega]
    simp
  ·rename_i id idx len
   split at hK
   ·rename_i es elems px hq
    obtain ⟨c1,hk0⟩ := Zd5 hK
    clear hK
    simp only [Bool.and_eq_true] at c1
    obtain ⟨d1,d3⟩ := c1
    have d1 := Nat.eq_of_beq_eq_true d1
    have d3 := Nat.le_of_ble_eq_true d3
    subst d1
    have key : ∀ l : List (List AV),(elems.drop idx).take len = l -> elems.drop idx = l -> len = l.length -> l.length + ys.length <= 1000000 -> Vc ys = true -> idx + len = elems.length -> K (.asl k 0 (l.length + ys.length),.app id (.row te.size (l ++ ys) true (px && py))) ->
      ∃ res eff,Gives P B w0 I0 pr r I D h n k (Builtin.append_ #[t,tx] ty #[u,v]) w res eff /\ K (res,eff) := by
     intro l hl hl2 hlen c5 c3 hix hK
     cases ys with
     | nil =>
      subst hl2
      have g := Zes (ty := ty) hT ht htx hte H hk hkn hx hy hys hq hix
      rw [hlen] at g
      exact ⟨_,_,g,hK⟩
     | cons y0 yt =>
      refine old _ _ ?_ hK
      unfold Zho
      rw [hys]
      dsimp only
      have c6 := Nat.mul_le_mul_right te.bytes c5
      have hs : Yu te.size h (.asl id idx len) = some (l,px) := by
       unfold Yu
       dsimp only
       rw [hq]
       dsimp only
       rw [show Nat.beq te.size te.size = true by simp,hl]
       rfl
      rw [hs]
      dsimp only
      rw [show (Nat.ble (l.length + (y0 :: yt).length) 1000000000000 && Nat.ble ((l.length + (y0 :: yt).length) * te.bytes) 140737488355328) = true by
       rw [Bool.and_eq_true,Nat.ble_eq,Nat.ble_eq]
       omega,hq]
      dsimp only
      rw [show (Nat.beq (idx + len) elems.length && Vc (y0 :: yt)) = true by rw [c3,hix]; simp]
      rfl
    cases d2 : Nat.beq idx 0 with
    | true =>
     rw [d2] at hk0
     obtain ⟨c2,hk2⟩ := hk0.cases
     obtain ⟨c3,hk3⟩ := hk2.cases
     obtain ⟨c4,c5⟩ := of_decide_eq_true c2
     have d2 := Nat.eq_of_beq_eq_true d2
     exact key elems (by rw [d2,c4]; simp) (by rw [d2]; rfl) c4 c5 c3 (by omega) hk3
    | false =>
     rw [d2] at hk0
     obtain ⟨c2,hk2⟩ := hk0.cases
     obtain ⟨c3,hk3⟩ := hk2.cases
     obtain ⟨c7,hk4⟩ := hk3.cases
     obtain ⟨c4,c5⟩ := of_decide_eq_true c2
     have c7 := of_decide_eq_true c7
     exact key (elems.drop idx) (by rw [c4]; exact List.take_length) rfl c4 c5 c3 (by rw [List.length_drop] at c4; omega) hk4
   ·exact hK.elim
  ·obtain ⟨⟨res,eff⟩,h1,h2⟩ := Got.cases hK
   exact old _ _ h1 h2
end
inductive Ap (A A' A'' : Prop) : Prop
 | old (h : A) : Ap A A' A''
 | new (h : A') : Ap A A' A''
 | fit (h : A'') : Ap A A' A''
def apG (T : Tab) (k : Nat) (ev : Operand -> AV) (h : Nat -> ABlk) (c : Call) (K : AV × Eff -> Prop) : Prop :=
 match c.argTypes.toList,c.args.toList with
 | [t,tx],[x,y] => match T t,T tx with
  | some ti,some tj => match ti.desc,tj.desc with
   | .slice e,.slice _ => match T e with
    | some te => appK k h te (ev x) (ev y) K
    | none => False
   | _,_ => False
  | _,_ => False
 | _,_ => False
theorem Zyt {P : Program} {r : Locs} {D : Nat -> Prop} {I : Imm} {w w0 : World} {I0 : Imm} {B n k : Nat} {pr : Nat -> Obj -> Prop} {h : Nat -> ABlk} {T : Tab} (hT : TabOK P T) (H : HR B w0 I0 pr r I D h n w) (hk : ¬ D k) (hkn : k < n) (o : Oper) {ρ : Operand -> Value} {ev : Operand -> AV}
  (hev : ∀ x,VR r I w D (ev x) (ρ x)) {c : Call} (ho : o.op = .call c) (hc : c.callee = .builtin .append) {K : AV × Eff -> Prop} (hK : apG T k ev h c K) : ∃ p,Ur P B w0 I0 pr r I D h n k (execOp ρ o) w p.1 p.2 /\ K p := by
 obtain ⟨dst,op,type,pos,after,guard⟩ := o
 dsimp only at ho
 subst ho
 obtain ⟨callee,args,ats⟩ := c
 dsimp only at hc
 subst hc
 unfold apG at hK
 dsimp only at hK
 split at hK
 ·rename_i t tx x y ht hx
  split at hK
  ·rename_i ti tj hti htj
   split at hK
   ·rename_i e1 e2 d1 d2
    split at hK
    ·rename_i te hte
     have h1 := hT.und t ti hti
     have h2 := hT.und tx tj htj
     rw [d1] at h1; rw [d2] at h2
     have e3 : ats = #[t,tx] := by apply Array.ext'; simpa using ht
     have e4 : args = #[x,y] := by apply Array.ext'; simpa using hx
     subst e3
     subst e4
     obtain ⟨res,eff,g,hK2⟩ := Zuo (ty := type) hT h1 h2 hte H hk hkn (hev x) (hev y) hK
     obtain ⟨x1,w1,r1,I1,q1,q2⟩ := g.op.toI
     refine ⟨(res,eff),⟨x1,w1,r1,I1,?_,q2⟩,hK2⟩
     simpa [execOp,resolve,invoke,builtin] using q1
    ·exact hK.elim
   ·exact hK.elim
  ·exact hK.elim
 ·exact hK.elim
end Go.Sx
