/- A part of the proof: lemmas. -/
import Derived.Test.YtdaliaafmcjikaaGreatV3
import Derived.RangeFuncNested
set_option linter.unusedVariables false
set_option linter.unusedSimpArgs false
namespace Go.Sx
open Go Go.RowKit
variable {r r' : Locs} {D D' : Nat -> Prop} {I I' : Imm} {w w' w0 : World} {I0 : Imm} {B n n' k N : Nat} {pr pr' : Nat -> Obj -> Prop} {h h' : Nat -> ABlk} {P : Program}
def Zr0 : AV -> List Nat
 | .ptr id _ _ => [id]
 | _ => []
def Zlt : AV -> List Nat
 | .asl id _ _ => [id]
 | _ => []
def Zlc : AV -> List Nat
 | .amap id => [id]
 | _ => []
def Zkg : AV -> List Nat
 | .asl id _ _ => [id]
 | .bsl id _ _ _ _ => [id]
 | _ => []
def Zys (ev : Operand -> AV) (c : Call) : List Nat := match c.callee with
 | .builtin .append => match c.args.toList with
  | [x,y] => Zkg (ev x) ++ Zkg (ev y)
  | _ => []
 | _ => []
def Ud (ev : Operand -> AV) : Op -> List Nat
 | .lookup _ x _ _ => Zlc (ev x)
 | .mapUpdate _ m _ _ => Zlc (ev m)
 | .insert _ m _ _ => Zlc (ev m)
 | .slice _ x _ _ _ => Zlt (ev x)
 | .call c => Zys ev c
 | .load _ a => Zr0 (ev a)
 | .store _ a _ => Zr0 (ev a)
 | .indexAddr _ x _ => Zlt (ev x)
 | _ => []
theorem Za6 {ev ev' : Operand -> AV} : ∀ (l : List Operand),(∀ x ∈ l,ev x = ev' x) -> Xt ev l = Xt ev' l
 | [],_ => rfl
 | a :: l,h => by simp only [Xt]; rw [h a (by simp),Za6 l (fun x hx => h x (by simp [hx]))]
theorem Zgj {ev ev' : Operand -> AV} (ps : Array (Nat × Operand)) (h : ∀ x ∈ ps.toList.map (·.2),ev x = ev' x) : Ul ev ps = Ul ev' ps := by
 unfold Ul
 refine List.map_congr_left fun p hp => ?_
 rw [h p.2 (List.mem_map.2 ⟨p,hp,rfl⟩)]
theorem Zoi {es : Nat} {v : AV} {i : Int} (hr : ∀ id ∈ Zlt v,h id = h' id) : Zbn es h v i = Zbn es h' v i := by
 cases v <;> simp only [Zbn]
 rename_i id _ _
 rw [hr id (by simp [Zlt])]
theorem Zur {T : Tab} {ok : TypeId -> Bool} {ev ev' : Operand -> AV} (op : Op) (he : ∀ x ∈ op.operands.toList,ev x = ev' x) (hr : ∀ id ∈ Ud ev op,h id = h' id) : aopA T ok k ev h op = aopA T ok k ev' h' op := by
 cases op <;> simp only [aopA]
 case move x => rw [he x (by simp [Op.operands])]
 case assign x => rw [he x (by simp [Op.operands])]
 case pick c a b => rw [he c (by simp [Op.operands]),he a (by simp [Op.operands]),he b (by simp [Op.operands])]
 case box t x => rw [he x (by simp [Op.operands])]
 case build t ps => rw [Zgj ps (fun x hx => he x (by simpa [Op.operands] using hx))]
 case buildSlice t len ps => rw [Zgj ps (fun x hx => he x (by simpa [Op.operands] using hx))]
 case load t a =>
  have e := he a (by simp [Op.operands])
  rw [<-e]
  cases T t with
  | none => rfl
  | some ti =>
   cases hx : ev a <;> dsimp only
   rename_i id idx sub
   rw [hr id (by simp [Ud,hx,Zr0])]
 case store t a x =>
  have e := he a (by simp [Op.operands])
  rw [<-e,<-he x (by simp [Op.operands])]
  cases T t with
  | none => rfl
  | some ti =>
   cases hx : ev a <;> dsimp only
   rename_i id idx sub
   cases cellsOf (ev x) <;> dsimp only
   rw [hr id (by simp [Ud,hx,Zr0])]
 case binOp op t x y ty => rw [he x (by simp [Op.operands]),he y (by simp [Op.operands])]
 case unOp op t x => rw [he x (by simp [Op.operands])]
 case convert s d x => rw [he x (by simp [Op.operands])]
 case makeFunc fn a b =>
  cases fn <;> simp only
  rw [Za6 a.toList (fun x hx => he x (by simp [Op.operands]; exact .inl (by simpa using hx))),Za6 b.toList (fun x hx => he x (by simp [Op.operands]; exact .inr (by simpa using hx)))]
 case fieldAddr t x f => rw [he x (by simp [Op.operands])]
 case field t x f => rw [he x (by simp [Op.operands])]
 case indexAddr t x i =>
  have e := he x (by simp [Op.operands])
  rw [<-e,<-he i (by simp [Op.operands])]
  have hs : ∀ es (j : Int),Zbn es h (ev x) j = Zbn es h' (ev x) j := fun es j => Zoi (fun id hid => hr id (by simpa [Ud] using hid))
  cases T t <;> cases Zeo T t <;> cases ev i <;> simp only
  split <;> simp only [hs]
 case index t x i => rw [he x (by simp [Op.operands]),he i (by simp [Op.operands])]
 case extract t i => rw [he t (by simp [Op.operands])]
 case nilCheck x => rw [he x (by simp [Op.operands])]
 case call c =>
  obtain ⟨callee,args,ts⟩ := c
  have ha : ∀ x ∈ args.toList,ev x = ev' x := fun x hx => he x (by
   simp only [Op.operands,Call.operands,Array.toList_append,List.mem_append]
   exact .inr hx)
  dsimp only
  cases callee with
  | builtin b =>
   cases b <;> simp only [Za6 args.toList ha]
   split
   ·rename_i t x ht hx
    rw [ha x (by rw [hx]; simp)]
   ·rfl
  | _ => rfl
theorem Zex {es : Nat} {v : AV} (hr : ∀ id ∈ Zkg v,h id = h' id) : Yu es h v = Yu es h' v := by
 cases v <;> simp only [Yu]
 ·rename_i id _ _; rw [hr id (by simp [Zkg])]
 ·rename_i id _ _ _ _; rw [hr id (by simp [Zkg])]
theorem Zrb {te : TI} {x y : AV} (hx : ∀ id ∈ Zkg x,h id = h' id) (hy : ∀ id ∈ Zkg y,h id = h' id) : Zho k h te x y = Zho k h' te x y := by
 unfold Zho
 rw [Zex hy,Zex hx]
 have key : ∀ id idx len,x = .asl id idx len -> h id = h' id := fun id idx len e => hx id (by rw [e]; simp [Zkg])
 cases x <;> first | rfl | skip
 rename_i id idx len
 have e := key id idx len rfl
 dsimp only
 rw [e]
theorem Zma {T : Tab} {t : TypeId} {x : AV} {lo hi : Option AV} (hr : ∀ id ∈ Zlt x,h id = h' id) : Zce T h t x lo hi = Zce T h' t x lo hi := by
 unfold Zce
 cases x <;> first | rfl | skip
 rename_i id idx len
 have e := hr id (by simp [Zlt])
 dsimp only
 rw [e]
theorem Zhy {ev ev' : Operand -> AV} (o : Option Operand) (ho : ∀ x ∈ o.toList,ev x = ev' x) : o.map ev = o.map ev' := by
 cases o with
 | none => rfl
 | some x => simp [ho x (by simp)]
theorem Zuq {T : Tab} {ev ev' : Operand -> AV} (op : Op) (he : ∀ x ∈ op.operands.toList,ev x = ev' x) (hr : ∀ id ∈ Ud ev op,h id = h' id) : aopB T k ev h op = aopB T k ev' h' op := by
 cases op <;> first | rfl | (unfold aopB; try dsimp only)
 case makeMap t q => cases q <;> rfl
 case makeSlice t l c => rw [he l (by simp [Op.operands])]
 case binOp op t x y ty => rw [he x (by simp [Op.operands]),he y (by simp [Op.operands])]
 case convert s d x => rw [he x (by simp [Op.operands])]
 case lookup t x i c =>
  have e := he x (by simp [Op.operands])
  rw [<-e,<-he i (by simp [Op.operands])]
  cases hx : ev x <;> first | rfl | skip
  rename_i id
  have e2 := hr id (by simp [Ud,hx,Zlc])
  cases ev i <;> first | rfl | (dsimp only; rw [e2])
 case mapUpdate t m x v =>
  have e := he m (by simp [Op.operands])
  rw [<-e,<-he x (by simp [Op.operands]),<-he v (by simp [Op.operands])]
  cases hx : ev m <;> first | rfl | skip
  rename_i id
  have e2 := hr id (by simp [Ud,hx,Zlc])
  cases ev x <;> first | rfl | skip
  cases ev v <;> first | rfl | skip
  rename_i b
  cases b <;> first | rfl | (dsimp only; rw [e2])
 case insert t m x v =>
  have e := he m (by simp [Op.operands])
  rw [<-e,<-he x (by simp [Op.operands]),<-he v (by simp [Op.operands])]
  cases hx : ev m <;> first | rfl | skip
  rename_i id
  have e2 := hr id (by simp [Ud,hx,Zlc])
  cases ev x <;> first | rfl | skip
  cases ev v <;> first | rfl | skip
  rename_i b
  cases b <;> first | rfl | (dsimp only; rw [e2])
 case slice t x lo hi mx =>
  cases mx with
  | some _ => rfl
  | none =>
   dsimp only
   rw [<-he x (by simp [Op.operands]),<-Zhy lo (fun y hy => he y (by simp [Op.operands] at *; simp [hy])),<-Zhy hi (fun y hy => he y (by simp [Op.operands] at *; simp [hy])),Zma hr]
 case call c =>
  obtain ⟨callee,args,ts⟩ := c
  dsimp only
  have ha : ∀ x ∈ args.toList,ev x = ev' x := fun x hx => he x (by
   simp only [Op.operands,Call.operands,Array.toList_append,List.mem_append]
   exact .inr hx)
  cases callee with
  | builtin b =>
   cases b <;> first | rfl | skip
   case complex =>
    dsimp only
    split
    ·rename_i x y hx
     rw [hx] at ha
     rw [<-ha x (by simp),<-ha y (by simp)]
    ·rfl
   case real =>
    dsimp only
    split
    ·rename_i x hx
     rw [hx] at ha
     rw [<-ha x (by simp)]
    ·rfl
   case imag =>
    dsimp only
    split
    ·rename_i x hx
     rw [hx] at ha
     rw [<-ha x (by simp)]
    ·rfl
   dsimp only
   simp only [Ud,Zys] at hr
   split
   ·rename_i t tx x y ht hx
    rw [hx] at hr ha
    have hr1 : ∀ id ∈ Zkg (ev x) ++ Zkg (ev y),h id = h' id := hr
    rw [<-ha x (by simp),<-ha y (by simp)]
    have := fun te => Zrb (k := k) (te := te) (x := ev x) (y := ev y) (fun id hid => hr1 id (by simp [hid])) (fun id hid => hr1 id (by simp [hid]))
    simp only [this]
   ·rfl
  | _ => rfl
theorem Zyv {T : Tab} {ok : TypeId -> Bool} {ev ev' : Operand -> AV} (op : Op) (he : ∀ x ∈ op.operands.toList,ev x = ev' x) (hr : ∀ id ∈ Ud ev op,h id = h' id) : aop T ok k ev h op = aop T ok k ev' h' op := by
 unfold aop
 rw [Zur op he hr,Zuq op he hr]
theorem Znr {ev ev' : Operand -> AV} (op : Op) (he : ∀ x ∈ op.operands.toList,ev x = ev' x) : Ud ev op = Ud ev' op := by
 cases op <;> simp only [Ud]
 case load => rw [he _ (by simp [Op.operands])]
 case store => rw [he _ (by simp [Op.operands])]
 case indexAddr => rw [he _ (by simp [Op.operands])]
 case lookup => rw [he _ (by simp [Op.operands])]
 case mapUpdate => rw [he _ (by simp [Op.operands])]
 case insert => rw [he _ (by simp [Op.operands])]
 case slice => rw [he _ (by simp [Op.operands])]
 case call c =>
  obtain ⟨callee,args,ts⟩ := c
  unfold Zys
  dsimp only
  have ha : ∀ x ∈ args.toList,ev x = ev' x := fun x hx => he x (by
   simp only [Op.operands,Call.operands,Array.toList_append,List.mem_append]
   exact .inr hx)
  split
  ·split
   ·rename_i x y hx
    rw [hx] at ha
    rw [ha x (by simp),ha y (by simp)]
   ·rfl
  ·rfl
def Zno (rr : List AV -> List Nat) : List (List AV) -> List Nat
 | [] => []
 | e :: es => rr e ++ Zno rr es
mutual
def Zay (rr : List AV -> List Nat) (h : Nat -> ABlk) : AV -> List Nat
 | .asl id idx len => id :: (match h id with
  | .row _ elems _ false => Zno rr ((elems.drop idx).take len)
  | _ => [])
 | .ptr id idx _ => id :: (match h id with
  | .row _ elems _ false => match elems[idx]? with
   | some cells => rr cells
   | none => []
  | _ => [])
 | .func _ c0 c1 => Uk rr h c0 ++ Uk rr h c1
 | .agg cs => Uk rr h cs
 | .tup cs => Uk rr h cs
 | _ => []
def Uk (rr : List AV -> List Nat) (h : Nat -> ABlk) : List AV -> List Nat
 | [] => []
 | c :: cs => Zay rr h c ++ Uk rr h cs
end
def rrN (h : Nat -> ABlk) : Nat -> List AV -> List Nat
 | 0 => fun _ => []
 | d + 1 => Uk (rrN h d) h
def Zc2 (h : Nat -> ABlk) (cs : List AV) : List Nat := Uk (rrN h 3) h cs
def RC (rv rv' : List AV -> Option (List AV × List Nat)) (rr rr' : List AV -> List Nat) (h h' : Nat -> ABlk) : Prop := ∀ cs,(∀ id ∈ rr cs,h id = h' id) -> rv cs = rv' cs /\ rr cs = rr' cs
theorem Zi2 {rv rv' : List AV -> Option (List AV × List Nat)} {rr rr' : List AV -> List Nat} (hc : RC rv rv' rr rr' h h') : ∀ (es : List (List AV)),(∀ id ∈ Zno rr es,h id = h' id) -> Zmd rv es = Zmd rv' es /\ Zno rr es = Zno rr' es
 | [],_ => ⟨rfl,rfl⟩
 | e :: es,hr => by
  obtain ⟨a1,a2⟩ := hc e (fun id hid => hr id (by simp [Zno,hid]))
  obtain ⟨b1,b2⟩ := Zi2 hc es (fun id hid => hr id (by simp [Zno,hid]))
  simp only [Zmd,Zno,a1,a2,b1,b2,and_self]
mutual
theorem Zpt {rv rv' : List AV -> Option (List AV × List Nat)} {rr rr' : List AV -> List Nat} (hc : RC rv rv' rr rr' h h') : ∀ (a : AV),(∀ id ∈ Zay rr h a,h id = h' id) -> Xz rv h a = Xz rv' h' a /\ Zay rr h a = Zay rr' h' a
 | .asl id idx len,hr => by
  have e := hr id (by simp [Zay])
  simp only [Xz,Zay] at hr ⊢
  rw [<-e]
  cases hb : h id with
  | row es elems mt pu =>
   cases pu with
   | true => exact ⟨rfl,rfl⟩
   | false =>
    rw [hb] at hr
    obtain ⟨a1,a2⟩ := Zi2 hc ((elems.drop idx).take len) (fun q hq => hr q (by simp [hq]))
    simp only [a1,a2,and_self]
  | _ => exact ⟨rfl,rfl⟩
 | .ptr id idx sub,hr => by
  have e := hr id (by simp [Zay])
  simp only [Xz,Zay] at hr ⊢
  rw [<-e]
  cases hb : h id with
  | row es elems mt pu =>
   cases pu with
   | true => exact ⟨rfl,rfl⟩
   | false =>
    rw [hb] at hr
    cases hx : elems[idx]? with
    | none => exact ⟨by cases sub <;> simp only [hx],by simp only [hx]⟩
    | some cells =>
     obtain ⟨a1,a2⟩ := hc cells (fun q hq => hr q (by simp [hx,hq]))
     simp only [hx,a1,a2,and_self]
  | _ => exact ⟨by cases sub <;> rfl,rfl⟩
 | .agg cs,hr => by
  obtain ⟨a1,a2⟩ := Xp hc cs (by simpa [Zay] using hr)
  simp only [Xz,Zay,a1,a2,and_self]
 | .tup cs,hr => by
  obtain ⟨a1,a2⟩ := Xp hc cs (by simpa [Zay] using hr)
  simp only [Xz,Zay,a1,a2,and_self]
 | .any,_ => ⟨rfl,rfl⟩
 | .bool _,_ => ⟨rfl,rfl⟩
 | .int _ _,_ => ⟨rfl,rfl⟩
 | .flt _ _,_ => ⟨rfl,rfl⟩
 | .cpx _ _ _,_ => ⟨rfl,rfl⟩
 | .val _ _ _,_ => ⟨rfl,rfl⟩
 | .str _,_ => ⟨rfl,rfl⟩
 | .ipt _,_ => ⟨rfl,rfl⟩
 | .nilp,_ => ⟨rfl,rfl⟩
 | .nils,_ => ⟨rfl,rfl⟩
 | .bsl _ _ _ _ _,_ => ⟨rfl,rfl⟩
 | .isl _ _,_ => ⟨rfl,rfl⟩
 | .amap _,_ => ⟨rfl,rfl⟩
 | .func _ c0 c1,hr => by
  obtain ⟨a1,a2⟩ := Xp hc c0 (fun id hid => hr id (by simp [Zay,hid]))
  obtain ⟨b1,b2⟩ := Xp hc c1 (fun id hid => hr id (by simp [Zay,hid]))
  simp only [Xz,Zay,a1,a2,b1,b2,and_self]
 | .yld _,_ => ⟨rfl,rfl⟩
theorem Xp {rv rv' : List AV -> Option (List AV × List Nat)} {rr rr' : List AV -> List Nat} (hc : RC rv rv' rr rr' h h') : ∀ (cs : List AV),(∀ id ∈ Uk rr h cs,h id = h' id) -> Zaq rv h cs = Zaq rv' h' cs /\ Uk rr h cs = Uk rr' h' cs
 | [],_ => ⟨rfl,rfl⟩
 | c :: cs,hr => by
  obtain ⟨a1,a2⟩ := Zpt hc c (fun id hid => hr id (by simp [Uk,hid]))
  obtain ⟨b1,b2⟩ := Xp hc cs (fun id hid => hr id (by simp [Uk,hid]))
  simp only [Zaq,Uk,a1,a2,b1,b2,and_self]
end
theorem rcN : ∀ d,RC (rvN h d) (rvN h' d) (rrN h d) (rrN h' d) h h'
 | 0 => fun cs _ => ⟨rfl,rfl⟩
 | d + 1 => fun cs hr => Xp (rcN d) cs hr
theorem Zpu (cs : List AV) (hr : ∀ id ∈ Zc2 h cs,h id = h' id) : Zar h cs = Zar h' cs /\ Zc2 h cs = Zc2 h' cs := Xp (rcN 3) cs hr
structure Rec where
 o : Oper
 k : Nat
 cnt : Nat
 v : AV
 puts : List (Nat × ABlk)
 rd : List Nat
def Eff.puts (k : Nat) : Eff -> List (Nat × ABlk)
 | .none => []
 | .add b => [(k,b)]
 | .put id b => [(id,b)]
 | .app id b => [(k,b),(id,.dead)]
def Zac : Nat -> List (Nat × List (List AV)) -> List (Nat × ABlk)
 | _,[] => []
 | k,p :: l => (k,.row p.1 p.2 true true) :: Zac (k + 1) l
def look : List (Nat × ABlk) -> Nat -> Option ABlk
 | [],_ => none
 | (j,b) :: l,i => cond (Nat.beq i j) (some b) (look l i)
def hput (h : Nat -> ABlk) (l : List (Nat × ABlk)) : Nat -> ABlk := fun i => match look l i with
 | some b => b
 | none => h i
theorem look_none {l : List (Nat × ABlk)} {i : Nat} : look l i = none ↔ i ∉ l.map (·.1) := by
 induction l with
 | nil => simp [look]
 | cons a l ih =>
  obtain ⟨j,b⟩ := a
  simp only [look,List.map_cons,List.mem_cons]
  by_cases e : i = j
  ·subst e; simp
  ·have : Nat.beq i j = false := by rw [Bool.eq_false_iff]; intro hb; exact e (Nat.eq_of_beq_eq_true hb)
   rw [this]; simp [e,ih]
theorem Eff.go_puts (k : Nat) (h : Nat -> ABlk) (e : Eff) : e.go k h = hput h (e.puts k) := by
 cases e <;> funext i <;> simp only [Eff.go,Eff.puts,hput,look,hupd]
 ·by_cases e : i = k
  ·subst e; simp
  ·have : Nat.beq i k = false := by rw [Bool.eq_false_iff]; intro hb; exact e (Nat.eq_of_beq_eq_true hb)
   simp [this,e]
 ·rename_i id b
  by_cases e : i = id
  ·subst e; simp
  ·have : Nat.beq i id = false := by rw [Bool.eq_false_iff]; intro hb; exact e (Nat.eq_of_beq_eq_true hb)
   simp [this,e]
 ·rename_i id b
  by_cases e : i = k
  ·subst e; simp
  ·have h1 : Nat.beq i k = false := by rw [Bool.eq_false_iff]; intro hb; exact e (Nat.eq_of_beq_eq_true hb)
   by_cases e2 : i = id
   ·subst e2; simp [h1,e]
   ·have h2 : Nat.beq i id = false := by rw [Bool.eq_false_iff]; intro hb; exact e2 (Nat.eq_of_beq_eq_true hb)
    simp [h1,h2,e,e2]
theorem Zhu : ∀ (l : List (Nat × List (List AV))) (k i : Nat),look (Zac k l) i = if k <= i then (l[i - k]?).map (fun p => .row p.1 p.2 true true) else none
 | [],k,i => by simp [Zac,look]
 | p :: l,k,i => by
  simp only [Zac,look]
  by_cases e : i = k
  ·subst e; simp
  ·have h1 : Nat.beq i k = false := by rw [Bool.eq_false_iff]; intro hb; exact e (Nat.eq_of_beq_eq_true hb)
   rw [h1,cond_false,Zhu l]
   by_cases h2 : k + 1 <= i
   ·rw [if_pos h2,if_pos (by omega),show i - k = (i - (k + 1)) + 1 by omega]; simp
   ·rw [if_neg h2,if_neg (by omega)]
theorem Zpk (l : List (Nat × List (List AV))) (k : Nat) (h : Nat -> ABlk) : Xk h k l = hput h (Zac k l) := by
 funext i
 simp only [Xk,hput,Zhu]
 by_cases h1 : k <= i
 ·rw [if_pos h1,if_pos h1]; cases l[i - k]? <;> rfl
 ·rw [if_neg h1,if_neg h1]
def evF (ef : Nat -> AV) : Operand -> AV
 | .tmp t => ef t
 | x => evC x
theorem Yg3 (env : Env) (x : Operand) : evA env x = evF env.get x := by cases x <;> rfl
def Zit : List Operand -> List Nat
 | [] => []
 | .tmp t :: l => t :: Zit l
 | _ :: l => Zit l
theorem Zk0 {t : Nat} : ∀ {l : List Operand},Operand.tmp t ∈ l -> t ∈ Zit l
 | a :: l,h => by
  rcases List.mem_cons.1 h with rfl | h2
  ·simp [Zit]
  ·have ih := Zk0 h2
   cases a <;> simp only [Zit,List.mem_cons]
   ·exact .inr ih
   all_goals exact ih
def slots (ops : List Oper) (o : Oper) : List Nat := Zit o.op.operands.toList ++ (match o.guard with
 | some (j,_) => (Yl ops j).toList
 | none => [])
theorem Zxr {ef ef' : Nat -> AV} {l : List Operand} (he : ∀ t ∈ Zit l,ef t = ef' t) : ∀ x ∈ l,evF ef x = evF ef' x := by
 intro x hx
 cases x with
 | tmp t => exact he t (Zk0 hx)
 | _ => rfl
def Zkd (ops : List Oper) (o : Oper) (ef : Nat -> AV) : Option Bool :=
 match o.guard with
 | none => some true
 | some (j,want) => match Yl ops j with
  | none => none
  | some t => match ef t with
   | .bool b => some (b == want)
   | .tup [] => some false
   | _ => none
abbrev PC := FuncId -> List AV -> Option PRes
def Runs (cx : Cx) (pc : PC) (x : Rec) (ef : Nat -> AV) (h : Nat -> ABlk) : Prop :=
 (∃ e,aop cx.T cx.ok x.k (evF ef) h x.o.op = some (x.v,e) /\ x.puts = e.puts x.k /\ x.cnt = 1 /\ x.rd = Ud (evF ef) x.o.op) \/
 (∃ f args ts g c0 c1 aZ l res,x.o.op = .call { callee := .value f,args := args,argTypes := ts } /\ evF ef f = .func g c0 c1 /\ Zar h ((c0 ++ Xt (evF ef) args.toList) ++ c1) = some (aZ,l) /\ pc g aZ = some res /\
  (l = [] \/ (Xw res.v = true /\ res.blks = [])) /\ x.v = Zi (fun j => x.k + j) res.v /\ x.puts = Zac x.k res.blks /\ x.cnt = res.blks.length + 1 /\ x.rd = Zc2 h ((c0 ++ Xt (evF ef) args.toList) ++ c1))
structure RecAt (cx : Cx) (pc : PC) (N : Nat) (ops : List Oper) (x : Rec) (ef : Nat -> AV) (h : Nat -> ABlk) : Prop where
 dst : ∀ d,x.o.dst = some d -> d < N
 run : ∃ b,Zkd ops x.o ef = some b /\ (b = true -> Runs cx pc x ef h) /\ (b = false -> x.v = .tup [] /\ x.puts = [] /\ x.cnt = 1)
theorem RecAt.congr {cx : Cx} {pc : PC} {ops : List Oper} {x : Rec} {ef ef' : Nat -> AV} (hx : RecAt cx pc N ops x ef h) (he : ∀ t ∈ slots ops x.o,ef t = ef' t) (hh : ∀ id ∈ x.rd,h id = h' id) : RecAt cx pc N ops x ef' h' := by
 obtain ⟨hd,b,h1,h2,h3⟩ := hx
 refine ⟨hd,b,?_,fun hb => ?_,h3⟩
 ·rw [<-h1]
  unfold Zkd
  cases hg : x.o.guard with
  | none => rfl
  | some jw =>
   obtain ⟨j,want⟩ := jw
   dsimp only
   cases ht : Yl ops j with
   | none => rfl
   | some t => dsimp only; rw [he t (by simp [slots,hg,ht])]
 ·have hops : ∀ y ∈ x.o.op.operands.toList,evF ef y = evF ef' y := Zxr (fun t ht => he t (by simp [slots,ht]))
  rcases h2 hb with ⟨e,g1,g2,g3,g4⟩ | ⟨f,args,ts,g,c0,c1,aZ,l,res,g1,g2,g3,g4,g5,g6,g7,g8,g9⟩
  ·refine .inl ⟨e,?_,g2,g3,?_⟩
   ·rw [<-g1]
    exact (Zyv x.o.op hops (fun id hid => hh id (by rw [g4]; exact hid))).symm
   ·rw [g4]
    exact Znr x.o.op hops
  ·have ho : x.o.op.operands.toList = f :: args.toList := by rw [g1]; simp [Op.operands,Call.operands]
   rw [ho] at hops
   have e1 : evF ef' f = evF ef f := (hops f (by simp)).symm
   have e2 : Xt (evF ef') args.toList = Xt (evF ef) args.toList := (Za6 _ (fun y hy => hops y (by simp [hy]))).symm
   have hvc := Zpu ((c0 ++ Xt (evF ef) args.toList) ++ c1) (fun id hid => hh id (by rw [g9]; exact hid))
   refine .inr ⟨f,args,ts,g,c0,c1,aZ,l,res,g1,by rw [e1]; exact g2,?_,g4,g5,g6,g7,g8,by rw [e2,<-hvc.2]; exact g9⟩
   rw [e2,<-g3]
   exact hvc.1.symm
def eput (ef : Nat -> AV) (x : Rec) : Nat -> AV := fun t => match x.o.dst with
 | some d => if t = d then x.v else ef t
 | none => ef t
def hF : List Rec -> (Nat -> Bool) -> (Nat -> ABlk) -> Nat -> ABlk
 | [],_,h => h
 | x :: l,S,h => hF l (fun i => S (i + 1)) (if S 0 then hput h x.puts else h)
def eF : List Rec -> (Nat -> Bool) -> (Nat -> AV) -> Nat -> AV
 | [],_,e => e
 | x :: l,S,e => eF l (fun i => S (i + 1)) (if S 0 then eput e x else e)
theorem Yak (id : Nat) : ∀ (l : List Rec) (S S' : Nat -> Bool) (h h' : Nat -> ABlk),h id = h' id -> (∀ q y,l[q]? = some y -> S q = S' q \/ id ∉ y.puts.map (·.1)) -> hF l S h id = hF l S' h' id
 | [],S,S',h,h',e,_ => e
 | x :: l,S,S',h,h',e,hq => by
  simp only [hF]
  refine Yak id l _ _ _ _ ?_ (fun q y hy => hq (q + 1) y (by simpa using hy))
  have hp : ∀ g : Nat -> ABlk,id ∉ x.puts.map (·.1) -> hput g x.puts id = g id := fun g hn => by simp [hput,look_none.2 hn]
  rcases hq 0 x rfl with h0 | h0
  ·rw [h0]
   by_cases hs : S' 0 = true
   ·simp only [hs,if_true,hput,e]
   ·simp only [hs,if_false,Bool.false_eq_true]; exact e
  ·split <;> split <;> simp only [hp _ h0,e]
theorem Yaw (t : Nat) : ∀ (l : List Rec) (S S' : Nat -> Bool) (e e' : Nat -> AV),e t = e' t -> (∀ q y,l[q]? = some y -> S q = S' q \/ y.o.dst ≠ some t) -> eF l S e t = eF l S' e' t
 | [],S,S',e,e',h,_ => h
 | x :: l,S,S',e,e',h,hq => by
  simp only [eF]
  refine Yaw t l _ _ _ _ ?_ (fun q y hy => hq (q + 1) y (by simpa using hy))
  have hp : ∀ g : Nat -> AV,x.o.dst ≠ some t -> eput g x t = g t := fun g hn => by
   unfold eput
   split
   ·rename_i d hd
    have : t ≠ d := fun e => hn (by rw [hd,e])
    simp [this]
   ·rfl
  rcases hq 0 x rfl with h0 | h0
  ·rw [h0]
   by_cases hs : S' 0 = true
   ·simp only [hs,if_true,eput,h]
   ·simp only [hs,if_false,Bool.false_eq_true]; exact h
  ·split <;> split <;> simp only [hp _ h0,h]
def setS (S : Nat -> Bool) (p : Nat) : Nat -> Bool := fun i => if i = p then true else S i
theorem Zw7 {h : Nat -> ABlk} {l m : List (Nat × ABlk)} (hd : ∀ i ∈ l.map (·.1),i ∉ m.map (·.1)) : hput (hput h l) m = hput (hput h m) l := by
 funext i
 by_cases h1 : i ∈ l.map (·.1)
 ·have := look_none.2 (hd i h1)
  simp only [hput,this]
 ·have := look_none.2 h1
  simp only [hput,this]
theorem Zqi (x : Rec) : ∀ (l : List Rec) (S : Nat -> Bool) (h : Nat -> ABlk),(∀ q y,l[q]? = some y -> S q = true -> ∀ i ∈ x.puts.map (·.1),i ∉ y.puts.map (·.1)) -> hF l S (hput h x.puts) = hput (hF l S h) x.puts
 | [],S,h,_ => rfl
 | y :: l,S,h,hq => by
  simp only [hF]
  by_cases hs : S 0 = true
  ·simp only [hs,if_true]
   rw [Zw7 (hq 0 y rfl hs)]
   exact Zqi x l _ _ (fun q z hz hsz => hq (q + 1) z (by simpa using hz) hsz)
  ·simp only [hs,if_false,Bool.false_eq_true]
   exact Zqi x l _ _ (fun q z hz hsz => hq (q + 1) z (by simpa using hz) hsz)
theorem Zqz (x : Rec) : ∀ (l : List Rec) (S : Nat -> Bool) (e : Nat -> AV),(∀ q y,l[q]? = some y -> S q = true -> ∀ d,x.o.dst = some d -> y.o.dst ≠ some d) -> eF l S (eput e x) = eput (eF l S e) x
 | [],S,h,_ => rfl
 | y :: l,S,h,hq => by
  simp only [eF]
  have hc : S 0 = true -> eput (eput h x) y = eput (eput h y) x := fun hs => by
   funext t
   have := hq 0 y rfl hs
   unfold eput
   cases hx : x.o.dst with
   | none => rfl
   | some d =>
    cases hy : y.o.dst with
    | none => rfl
    | some d' =>
     have h2 := this d hx
     rw [hy] at h2
     have h3 : d' ≠ d := fun e => h2 (by rw [e])
     dsimp only
     by_cases e1 : t = d'
     ·subst e1; rw [if_pos rfl,if_neg h3]; rw [if_pos rfl]
     ·rw [if_neg e1]; by_cases e2 : t = d <;> simp [e2,e1]
  by_cases hs : S 0 = true
  ·simp only [hs,if_true]
   rw [hc hs]
   exact Zqz x l _ _ (fun q z hz hsz => hq (q + 1) z (by simpa using hz) hsz)
  ·simp only [hs,if_false,Bool.false_eq_true]
   exact Zqz x l _ _ (fun q z hz hsz => hq (q + 1) z (by simpa using hz) hsz)
theorem Zxb (l : List Rec) : ∀ (S : Nat -> Bool) (h : Nat -> ABlk) (p : Nat) (x : Rec),l[p]? = some x -> S p = false -> (∀ q y,p < q -> l[q]? = some y -> S q = true -> ∀ i ∈ x.puts.map (·.1),i ∉ y.puts.map (·.1)) -> hF l (setS S p) h = hput (hF l S h) x.puts := by
 induction l with
 | nil => intro S h p x hx; simp at hx
 | cons y l ih =>
  intro S h p x hx hs hq
  cases p with
  | zero =>
   simp only [List.getElem?_cons_zero,Option.some.injEq] at hx
   subst hx
   have e1 : (fun i => setS S 0 (i + 1)) = fun i => S (i + 1) := by funext i; simp [setS]
   have e2 : setS S 0 0 = true := by simp [setS]
   simp only [hF,e1,e2,hs,if_true,Bool.false_eq_true,if_false]
   exact Zqi y l _ h (fun q z hz hsz => hq (q + 1) z (by omega) (by simpa using hz) hsz)
  | succ p =>
   have e1 : (fun i => setS S (p + 1) (i + 1)) = setS (fun i => S (i + 1)) p := by funext i; simp [setS]
   have e2 : setS S (p + 1) 0 = S 0 := by simp [setS]
   simp only [hF,e1,e2]
   exact ih _ _ p x (by simpa using hx) hs (fun q z hlt hz hsz => hq (q + 1) z (by omega) (by simpa using hz) hsz)
theorem Zx1 (l : List Rec) : ∀ (S : Nat -> Bool) (h : Nat -> AV) (p : Nat) (x : Rec),l[p]? = some x -> S p = false -> (∀ q y,p < q -> l[q]? = some y -> S q = true -> ∀ d,x.o.dst = some d -> y.o.dst ≠ some d) -> eF l (setS S p) h = eput (eF l S h) x := by
 induction l with
 | nil => intro S h p x hx; simp at hx
 | cons y l ih =>
  intro S h p x hx hs hq
  cases p with
  | zero =>
   simp only [List.getElem?_cons_zero,Option.some.injEq] at hx
   subst hx
   have e1 : (fun i => setS S 0 (i + 1)) = fun i => S (i + 1) := by funext i; simp [setS]
   have e2 : setS S 0 0 = true := by simp [setS]
   simp only [eF,e1,e2,hs,if_true,Bool.false_eq_true,if_false]
   exact Zqz y l _ h (fun q z hz hsz => hq (q + 1) z (by omega) (by simpa using hz) hsz)
  | succ p =>
   have e1 : (fun i => setS S (p + 1) (i + 1)) = setS (fun i => S (i + 1)) p := by funext i; simp [setS]
   have e2 : setS S (p + 1) 0 = S 0 := by simp [setS]
   simp only [eF,e1,e2]
   exact ih _ _ p x (by simpa using hx) hs (fun q z hlt hz hsz => hq (q + 1) z (by omega) (by simpa using hz) hsz)
variable {r r' : Locs} {D D' D0 : Nat -> Prop} {I I' : Imm} {w w' w0 : World} {I0 : Imm} {B n n' k N : Nat} {pr pr' : Nat -> Obj -> Prop} {h h' : Nat -> ABlk} {P : Program}
structure Indep (ops : List Oper) (x y : Rec) : Prop where
 tt : ∀ i ∈ x.puts.map (·.1),i ∉ y.puts.map (·.1)
 tr : ∀ i ∈ x.puts.map (·.1),i ∉ y.rd
 rt : ∀ i ∈ x.rd,i ∉ y.puts.map (·.1)
 ds : ∀ d,x.o.dst = some d -> d ∉ slots ops y.o /\ y.o.dst ≠ some d
 sd : ∀ d,y.o.dst = some d -> d ∉ slots ops x.o
structure DInv (B : Nat) (w0 : World) (I0 : Imm) (pr : Nat -> Obj -> Prop) (N : Nat) (recs : List Rec) (ef0 : Nat -> AV) (h0 : Nat -> ABlk) (D0 : Nat -> Prop) (nf : Nat) (r0 : Locs) (Is : Imm) (ws : World) (ds : List Deferred) (S : Nat -> Bool) (a : Act) (w : World) : Prop where
 ex : ∃ r I D,HR B w0 I0 pr r I D (hF recs S h0) nf w /\ (∀ id,D id -> D0 id \/ ∃ q x,recs[q]? = some x /\ S q = true /\ x.k <= id /\ id < x.k + x.cnt) /\ a.tmps.size = N /\
  (∀ t,VR r I w D (eF recs S ef0 t) (a.tmps.getD t undef)) /\ Step r0 D0 Is ws r D I w
 df : a.defers = ds
theorem Ztd {ops : List Oper} {o : Oper} {ef : Nat -> AV} {b : Bool} {tmps : Array Value} (hw : Zkd ops o ef = some b) (ht : ∀ t,VR r I w D (ef t) (tmps.getD t undef)) : Region.wanted o (yielded ops.toArray tmps) = b := by
 unfold Zkd at hw
 cases hg : o.guard with
 | none => rw [hg] at hw; simp only [Option.some.injEq] at hw; subst hw; simp [Region.wanted,hg]
 | some jw =>
  obtain ⟨j,want⟩ := jw
  rw [hg] at hw
  dsimp only at hw
  have hwant : Region.wanted o (yielded ops.toArray tmps) = (yielded ops.toArray tmps j == some want) := by simp [Region.wanted,hg]
  rw [hwant]
  cases hj : Yl ops j with
  | none => rw [hj] at hw; cases hw
  | some t =>
   rw [hj] at hw
   dsimp only at hw
   have htv := ht t
   by_cases hts : t < tmps.size
   ·rw [Zgv hj ⟨tmps,[]⟩ hts]
    dsimp only
    split at hw
    ·rename_i c hc
     simp only [Option.some.injEq] at hw
     subst hw
     rw [hc] at htv
     have hval : tmps.getD t undef = .bool c := by generalize tmps.getD t undef = z at htv; cases htv; rfl
     rw [hval]
     cases c <;> cases want <;> rfl
    ·rename_i hc
     simp only [Option.some.injEq] at hw
     subst hw
     rw [hc] at htv
     obtain ⟨vs,hval⟩ : ∃ vs,tmps.getD t undef = .tuple vs := by generalize tmps.getD t undef = z at htv; cases htv; exact ⟨_,rfl⟩
     rw [hval]
     cases want <;> rfl
    ·cases hw
   ·have hval : tmps.getD t undef = undef := by simp [Array.getD_eq_getD_getElem?,Nat.not_lt.1 hts]
    rw [hval] at htv
    have hy : yielded ops.toArray tmps j = none := by
     unfold yielded
     have : (ops.toArray[j]?).bind (·.dst) = some t := by simpa [Yl] using hj
     rw [this]
     simp [Nat.not_lt.1 hts]
    split at hw
    ·rename_i c hc
     rw [hc] at htv; cases htv
    ·simp only [Option.some.injEq] at hw
     subst hw
     rw [hy]; cases want <;> rfl
    ·cases hw
theorem Zxs {ef : Nat -> AV} {a : Act} (ht : ∀ t,VR r I w D (ef t) (a.tmps.getD t undef)) (x : Operand) : VR r I w D (evF ef x) (a.eval x) := by
 cases x with
 | tmp t => exact ht t
 | const v =>
  simp only [evF]
  exact Xc (N := 0) (env := []) (a := ⟨#[],[]⟩) ⟨rfl,fun i => .any _ _⟩ (.const v)
 | global g => exact .any _ _
 | func f => exact .func _ _ _ _ _ _ rfl rfl (fun i c v hc => by simp at hc) (fun i c v hc => by simp at hc)
theorem VRs.append {l m : List AV} {u v : Array Value} (hu : VRs r I w D l u) (hv : VRs r I w D m v) : VRs r I w D (l ++ m) (u ++ v) := by
 refine ⟨by simp [hu.1,hv.1],fun i c x hi hx => ?_⟩
 rw [Array.getElem?_append] at hx
 by_cases hlt : i < u.size
 ·rw [List.getElem?_append_left (by rw [<-hu.1]; exact hlt)] at hi
  simp only [hlt,if_true] at hx
  exact hu.2 _ _ _ hi hx
 ·rw [List.getElem?_append_right (by rw [<-hu.1]; omega),<-hu.1] at hi
  simp only [hlt,if_false] at hx
  exact hv.2 _ _ _ hi hx
def PCOK (P : Program) (pc : PC) : Prop := ∀ f args res,pc f args = some res -> PCall P f args res
theorem Zx2 {cx : Cx} (hcx : CxOK P cx) {pc : PC} (hpc : PCOK P pc) {F : Fence} (hFo : FOK F) {ops : List Oper} {recs : List Rec} {ef0 : Nat -> AV} {h0 : Nat -> ABlk} {nf : Nat} {rs : Locs} {Is : Imm} {ws : World} {ds : List Deferred} {S : Nat -> Bool} {q : Nat} {x : Rec}
  (hx : recs[q]? = some x) (ho : ops[q]? = some x.o) (hnd : ∀ c,x.o.op ≠ .defer c) (hs : S q = false) (hrec : RecAt cx pc N ops x (eF recs (fun p => decide (p < q)) ef0) (hF recs (fun p => decide (p < q)) h0))
  (c1 : ∀ p y,recs[p]? = some y -> p < q -> S p = false -> Indep ops y x) (c2 : ∀ p y,q < p -> recs[p]? = some y -> S p = true -> Indep ops x y)
  (hD0 : ∀ id,D0 id -> id < x.k) (hkf : x.k + x.cnt <= nf) (hdis : ∀ p y,recs[p]? = some y -> p ≠ q -> y.k + y.cnt <= x.k \/ x.k + x.cnt <= y.k) {a : Act} (hi : DInv B w0 I0 pr N recs ef0 h0 D0 nf rs Is ws ds S a w) (Q : Exit -> Act -> World -> Prop) :
  wpOpIn F 0 P ops.toArray Q q (fun a' w' => DInv B w0 I0 pr N recs ef0 h0 D0 nf rs Is ws ds (setS S q) a' w') a w := by
 obtain ⟨⟨r,I,D,H,hD,hsz,htm,hst⟩,hdf⟩ := hi
 have hlt : q < recs.length := (List.getElem?_eq_some_iff.1 hx).1
 have R := hrec.congr (ef' := eF recs S ef0) (h' := hF recs S h0) (fun t ht => by
   refine Yaw t recs _ _ _ _ rfl (fun p y hy => ?_)
   rcases Nat.lt_trichotomy p q with hp | hp | hp
   ·by_cases hsp : S p = true
    ·exact .inl (by simp [hp,hsp])
    ·exact .inr fun hd => (c1 p y hy hp (Bool.eq_false_iff.2 hsp)).ds t hd |>.1 ht
   ·subst hp; exact .inl (by simp [hs])
   ·by_cases hsp : S p = true
    ·exact .inr fun hd => (c2 p y hp hy hsp).sd t hd ht
    ·exact .inl (by simp [Bool.eq_false_iff.2 hsp]; omega)) (fun id hid => by
   refine Yak id recs _ _ _ _ rfl (fun p y hy => ?_)
   rcases Nat.lt_trichotomy p q with hp | hp | hp
   ·by_cases hsp : S p = true
    ·exact .inl (by simp [hp,hsp])
    ·exact .inr fun hd => (c1 p y hy hp (Bool.eq_false_iff.2 hsp)).tr id hd hid
   ·subst hp; exact .inl (by simp [hs])
   ·by_cases hsp : S p = true
    ·exact .inr fun hd => (c2 p y hp hy hsp).rt id hid hd
    ·exact .inl (by simp [Bool.eq_false_iff.2 hsp]; omega))
 have hins := Zxb recs S h0 q x hx hs (fun p y hp hy hsp => (c2 p y hp hy hsp).tt)
 have eins := Zx1 recs S ef0 q x hx hs (fun p y hp hy hsp d hd => ((c2 p y hp hy hsp).ds d hd).2)
 have hfresh : ∀ j,j < x.cnt -> ¬ D (x.k + j) := by
  intro j hj hd
  rcases hD _ hd with h1 | ⟨p,y,hy,hsp,h1,h2⟩
  ·have := hD0 _ h1; omega
  ·have hne : p ≠ q := fun e => by rw [e,hs] at hsp; cases hsp
   rcases hdis p y hy hne with h3 | h3 <;> omega
 have fin : ∀ (r' : Locs) (I' : Imm) (D' : Nat -> Prop) (w' : World) (v : Value),HR B w0 I0 pr r' I' D' (hF recs (setS S q) h0) nf w' -> (∀ id,D' id -> D id \/ (x.k <= id /\ id < x.k + x.cnt)) -> VR r' I' w' D' x.v v -> Step r D I w r' D' I' w' ->
   DInv B w0 I0 pr N recs ef0 h0 D0 nf rs Is ws ds (setS S q) (a.put x.o.dst v) w' := by
  intro r' I' D' w' v H' hD' V' S'
  refine ⟨⟨r',I',D',H',fun id hd => ?_,?_,fun t => ?_,hst.trans S'⟩,?_⟩
  ·rcases hD' id hd with h1 | h1
   ·rcases hD id h1 with h2 | ⟨p,y,hy,hsp,h2⟩
    ·exact .inl h2
    ·exact .inr ⟨p,y,hy,by simp [setS,hsp],h2⟩
   ·exact .inr ⟨q,x,hx,by simp [setS],h1⟩
  ·cases hd : x.o.dst <;> simp [Act.put,hsz]
  ·rw [eins]
   unfold eput
   cases hd : x.o.dst with
   | none => exact (htm t).mono S'
   | some d =>
    have hdN := R.dst d hd
    simp only [Act.put]
    by_cases e : t = d
    ·subst e; simp [hsz,hdN,V']
    ·have e' : ¬ d = t := fun x => e x.symm
     have := (htm t).mono S'
     simp only [e,if_false,Array.getD_eq_getD_getElem?,Array.getElem?_setIfInBounds,e',if_false] at *
     exact this
  ·cases hd : x.o.dst <;> simp [Act.put,hdf]
 unfold wpOpIn
 have ho' : ops.toArray[q]? = some x.o := by simpa using ho
 rw [ho']
 dsimp only
 obtain ⟨b,hw,hrun,hskip⟩ := R.run
 rw [Ztd hw htm]
 cases b with
 | false =>
  obtain ⟨g1,g2,g3⟩ := hskip rfl
  simp only [Bool.false_eq_true,if_false]
  refine ⟨Ub hFo _ _ _,fin r I D w undef ?_ (fun id hd => .inl hd) (by rw [g1]; exact .tup _ _ _ rfl (fun i c v hc => by cases hc)) (Step.refl _ _ _ _)⟩
  rw [hins,g2]
  have : hput (hF recs S h0) [] = hF recs S h0 := by funext i; simp [hput,look]
  rw [this]; exact H
 | true =>
  simp only [if_true]
  refine ⟨Ub hFo _ _ _,?_⟩
  rw [Oper.semAt_eq _ _ _ hnd]
  rcases hrun rfl with ⟨e,g1,g2,g3,g4⟩ | ⟨f,args,ts,g,c0,cc1,aZ,l,res,g1,g2,g3,g4,g5,g6,g7,g8,g9⟩
  ·have hk : ¬ D x.k := hfresh 0 (by omega)
   obtain ⟨v,w',r',I',e1,e2,e3,e4⟩ := Zpj hcx.tab hcx.eq H hk (by omega) x.o (ρ := a.eval) (ev := evF (eF recs S ef0)) (Zxs htm) g1
   have hn := fin r' I' _ w' v (by rw [hins,g2,<-Eff.go_puts]; exact e2) (fun id hd => by
    rcases hd with hd | ⟨_,rfl⟩
    ·exact .inl hd
    ·exact .inr ⟨Nat.le_refl _,by omega⟩) e4 e3
   rcases e1 with e1 | ⟨e1,rfl⟩
   ·rw [e1]; exact hn
   ·rw [e1]; exact hn
  ·obtain ⟨⟨fn,q1,q2,q3⟩,hcall⟩ := hpc g aZ res g4
   have hfv := Zxs htm f
   rw [g2] at hfv
   obtain ⟨v0,v1,hv,k0,k1⟩ : ∃ v0 v1,a.eval f = .func (.func g) v0 v1 /\ VRs r I w D c0 v0 /\ VRs r I w D cc1 v1 := by
    generalize a.eval f = z at hfv
    cases hfv with
    | func _ _ _ _ v0 v1 h0 h1 g0 g1 => exact ⟨v0,v1,rfl,⟨h0,g0⟩,⟨h1,g1⟩⟩
   have hargs := Xl (fun x => Zxs htm x) args
   have hvs := (k0.append hargs).append k1
   have hview := Us H hvs g3
   have hc := Um hFo (hcall _ w _ (Zel H l) hview)
   have hrunE : (execOp a.eval x.o).run P w = .ok (.enter g ((v0 ++ args.map a.eval) ++ v1)) w := by
    have : execOp a.eval x.o = (do let d <-resolve a.eval { callee := .value f,args := args,argTypes := ts } x.o.type; invoke d.target d.args) := by
     unfold execOp; rw [g1]
    rw [this]
    have q2' : ¬ fn.name = "runtime.NumGoroutine" := by simpa using q2
    have q3' : ¬ fn.body = none := by intro h; rw [h] at q3; simp at q3
    simp [resolve,hv,Deferred.ofValue,invoke,callFunc,q1,q2',q3']
   rw [hrunE]
   refine ⟨fun hd => by rw [hFo.depth] at hd; simp at hd,?_⟩
   refine hc.mono fun e w' hh => ?_
   obtain ⟨y,r',I',rfl,hp⟩ := hh
   have use : ∀ (I2 : Imm),PPost I w I2 w' r' res y -> DInv B w0 I0 pr N recs ef0 h0 D0 nf rs Is ws ds (setS S q) (a.put x.o.dst y) w' := by
    intro I2 hp2
    obtain ⟨r2,D2,hD2,H2,S2,V2⟩ := H.call (k := x.k) (n' := nf) hp2 (fun j hj => hfresh j (by omega)) (Nat.le_refl _) (by omega)
    refine fin r2 I2 D2 w' y (by rw [hins,g7,<-Zpk]; exact H2) (fun id hd => ?_) (by rw [g6]; exact V2) S2
    rcases (hD2 id).1 hd with h1 | h1
    ·exact .inl h1
    ·exact .inr ⟨h1.1,by omega⟩
   rcases g5 with rfl | ⟨hsc,hbl⟩
   ·rw [Zfp] at hp
    exact use I' hp
   ·have V := hp.val.scalar hsc r' I w' (fun i => i < res.blks.length)
    exact use I ⟨hp.below,fun _ _ h => h,fun _ _ h => .inl h,fun b o hi => Nat.lt_of_lt_of_le (H.imm b o hi) hp.below.size,fun j p hj => by rw [hbl] at hj; simp at hj,fun j j' hj => by rw [hbl] at hj; simp at hj,V⟩
variable {r r' : Locs} {D D' D0 : Nat -> Prop} {I I' : Imm} {w w' w0 : World} {I0 : Imm} {B n n' k N : Nat} {pr pr' : Nat -> Obj -> Prop} {h h' : Nat -> ABlk} {P : Program}
def St.putL (σ : St) (l : List (Nat × ABlk)) : St := { σ with heap := l ++ σ.heap }
theorem St.get_putL (σ : St) (l : List (Nat × ABlk)) : (σ.putL l).get = hput σ.get l := by
 funext i
 simp only [St.get,St.putL,hput]
 induction l with
 | nil => rfl
 | cons a l ih =>
  obtain ⟨j,b⟩ := a
  simp only [List.cons_append,hget,look]
  cases Nat.beq i j <;> simp [ih]
def Zrk (cx : Cx) (pc : PC) (N : Nat) (o : Oper) (env : Env) (σ : St) (k : Nat) (K : Rec -> Env -> St -> Prop) : Prop :=
 match o.op with
 | .call { callee := .value f,args,.. } => match evA env f with
  | .func g c0 c1 => Got (Zar σ.get ((c0 ++ Xt (evA env) args.toList) ++ c1)) fun p => Got (pc g p.1) fun res =>
   match p.2,Xw res.v,res.blks with
   | [],_,_ => Zq N o.dst (Zi (fun j => k + j) res.v) env fun env' => K ⟨o,k,res.blks.length + 1,Zi (fun j => k + j) res.v,Zac k res.blks,Zc2 σ.get ((c0 ++ Xt (evA env) args.toList) ++ c1)⟩ env' (σ.putL (Zac k res.blks))
   | _,true,[] => Zq N o.dst (Zi (fun j => k + j) res.v) env fun env' => K ⟨o,k,1,Zi (fun j => k + j) res.v,[],Zc2 σ.get ((c0 ++ Xt (evA env) args.toList) ++ c1)⟩ env' σ
   | _,_,_ => False
  | _ => False
 | op => aopK cx.T cx.ok k (evA env) σ.get op fun p => Zq N o.dst p.1 env fun env' => K ⟨o,k,1,p.1,p.2.puts k,Ud (evA env) op⟩ env' (σ.putL (p.2.puts k))
def Zpw (cx : Cx) (pc : PC) (N : Nat) (o : Oper) (env : Env) (σ : St) (k : Nat) (K : Rec -> Env -> St -> Prop) : Prop :=
 match o.op with
 | .call { callee := .value f,args,.. } => match evA env f with
  | .func g c0 c1 => fL ((c0 ++ Xt (evA env) args.toList) ++ c1) fun aZ => Got (Zar σ.get aZ) fun p => Got (pc g p.1) fun res =>
   match p.2,Xw res.v,res.blks with
   | [],_,_ => fA (Zi (fun j => k + j) res.v) fun v => Zq N o.dst v env fun env' => Yao (Zac k res.blks) fun ps => fSt (σ.putL ps) fun σ' => fNs (Zc2 σ.get aZ) fun rd => K ⟨o,k,res.blks.length + 1,v,ps,rd⟩ env' σ'
   | _,true,[] => fA (Zi (fun j => k + j) res.v) fun v => Zq N o.dst v env fun env' => fNs (Zc2 σ.get aZ) fun rd => K ⟨o,k,1,v,[],rd⟩ env' σ
   | _,_,_ => False
  | _ => False
 | op => aopK cx.T cx.ok k (evA env) σ.get op fun p => fA p.1 fun v => Zq N o.dst v env fun env' => Yao (p.2.puts k) fun ps => fSt (σ.putL ps) fun σ' => fNs (Ud (evA env) op) fun rd => K ⟨o,k,1,v,ps,rd⟩ env' σ'
theorem Zrj (cx : Cx) (pc : PC) (N : Nat) (o : Oper) (env : Env) (σ : St) (k : Nat) (K : Rec -> Env -> St -> Prop) : Zpw cx pc N o env σ k K = Zrk cx pc N o env σ k K := by
 unfold Zpw Zrk
 simp only [Zqs,Zxm,Yap,Ycr,Zsv]
def Zg2 (N : Nat) (o : Oper) (env : Env) (σ : St) (k : Nat) (K : Rec -> Env -> St -> Prop) : Prop :=
 Zq N o.dst (.tup []) env fun env' => K ⟨o,k,1,.tup [],[],[]⟩ env' σ
def vcD (cx : Cx) (pc : PC) (N : Nat) (ops : List Oper) : List Oper -> Env -> St -> Nat -> List Rec -> (List Rec -> Env -> St -> Prop) -> Prop
 | [],env,σ,k,acc,K => K acc.reverse env { σ with next := k }
 | o :: rest,env,σ,k,acc,K =>
  match o.guard with
  | none => Zpw cx pc N o env σ k fun x env' σ' => fN (k + x.cnt) fun k' => vcD cx pc N ops rest env' σ' k' (x :: acc) K
  | some (j,want) =>
   match Yl ops j with
   | none => False
   | some t => match env.get t with
    | .bool b => Br b
     (match want with
      | true => Zpw cx pc N o ((t,.bool true) :: env) σ k fun x env' σ' => fN (k + x.cnt) fun k' => vcD cx pc N ops rest env' σ' k' (x :: acc) K
      | false => Zg2 N o ((t,.bool true) :: env) σ k fun x env' σ' => fN (k + x.cnt) fun k' => vcD cx pc N ops rest env' σ' k' (x :: acc) K)
     (match want with
      | false => Zpw cx pc N o ((t,.bool false) :: env) σ k fun x env' σ' => fN (k + x.cnt) fun k' => vcD cx pc N ops rest env' σ' k' (x :: acc) K
      | true => Zg2 N o ((t,.bool false) :: env) σ k fun x env' σ' => fN (k + x.cnt) fun k' => vcD cx pc N ops rest env' σ' k' (x :: acc) K)
    | .tup [] => Zg2 N o env σ k fun x env' σ' => fN (k + x.cnt) fun k' => vcD cx pc N ops rest env' σ' k' (x :: acc) K
    | _ => False
theorem Zj0 (env : Env) : evA env = evF env.get := funext (Yg3 env)
theorem Zif {o : Oper} {v : AV} {env env' : Env} {N k cnt : Nat} {puts rd} {K : Env -> Prop} (hp : Zq N o.dst v env K) : ∃ env',K env' /\ env'.get = eput env.get ⟨o,k,cnt,v,puts,rd⟩ /\ ∀ d,o.dst = some d -> d < N := by
 unfold Zq at hp
 cases hd : o.dst with
 | none => rw [hd] at hp; exact ⟨env,hp,by funext t; simp [eput,hd],fun d h => by cases h⟩
 | some d =>
  rw [hd] at hp
  rcases Br.cases hp with ⟨h1,h2⟩ | ⟨_,h2⟩
  ·refine ⟨_,h2,by funext t; simp [eput,hd,Env.get_cons],fun d' h => ?_⟩
   cases h; simpa [Nat.blt_eq] using h1
  ·exact h2.elim
theorem Zg3 {cx : Cx} {pc : PC} {ops : List Oper} {o : Oper} {env : Env} {σ : St} {k : Nat} {K : Rec -> Env -> St -> Prop} (hw : Zkd ops o env.get = some true) (hv : Zpw cx pc N o env σ k K) :
  ∃ x env' σ',K x env' σ' /\ x.o = o /\ x.k = k /\ 1 <= x.cnt /\ RecAt cx pc N ops x env.get σ.get /\ env'.get = eput env.get x /\ σ'.get = hput σ.get x.puts := by
 rw [Zrj] at hv
 unfold Zrk at hv
 split at hv
 ·rename_i f args ts hop
  split at hv
  ·rename_i g c0 c1 hf
   obtain ⟨⟨aZ,l⟩,hview,hv⟩ := Got.cases hv
   obtain ⟨res,hres,hv⟩ := Got.cases hv
   rw [Zj0] at hview hf
   dsimp only at hv hres
   split at hv
   ·obtain ⟨env',h1,h2,h3⟩ := Zif (env' := env) (k := k) (cnt := res.blks.length + 1) (puts := Zac k res.blks) (rd := Zc2 σ.get ((c0 ++ Xt (evA env) args.toList) ++ c1)) hv
    refine ⟨_,env',_,h1,rfl,rfl,by simp,⟨h3,true,hw,fun _ => .inr ⟨f,args,ts,g,c0,c1,aZ,[],res,hop,hf,hview,hres,.inl rfl,rfl,rfl,rfl,?_⟩,fun h => by cases h⟩,h2,St.get_putL _ _⟩
    dsimp only; rw [Zj0]
   ·rename_i hs hb _
    obtain ⟨env',h1,h2,h3⟩ := Zif (env' := env) (k := k) (cnt := 1) (puts := []) (rd := Zc2 σ.get ((c0 ++ Xt (evA env) args.toList) ++ c1)) hv
    refine ⟨_,env',_,h1,rfl,rfl,by simp,⟨h3,true,hw,fun _ => .inr ⟨f,args,ts,g,c0,c1,aZ,_,res,hop,hf,hview,hres,.inr ⟨hs,hb⟩,rfl,?_,?_,?_⟩,fun h => by cases h⟩,h2,?_⟩
    ·dsimp only; rw [hb]; rfl
    ·dsimp only; rw [hb]; rfl
    ·dsimp only; rw [Zj0]
    ·funext i; simp [hput,look]
   ·exact hv.elim
  ·exact hv.elim
 ·obtain ⟨⟨v,e⟩,hp,hv⟩ := aopK.cases hv
  rw [Zj0] at hp
  dsimp only at hv
  obtain ⟨env',h1,h2,h3⟩ := Zif (env' := env) (k := k) (cnt := 1) (puts := e.puts k) (rd := Ud (evA env) o.op) hv
  refine ⟨_,env',_,h1,rfl,rfl,by simp,⟨h3,true,hw,fun _ => .inl ⟨e,hp,rfl,rfl,?_⟩,fun h => by cases h⟩,h2,St.get_putL _ _⟩
  dsimp only; rw [Zj0]
theorem Zdd {cx : Cx} {pc : PC} {ops : List Oper} {o : Oper} {env : Env} {σ : St} {k : Nat} {K : Rec -> Env -> St -> Prop} (hw : Zkd ops o env.get = some false) (hv : Zg2 N o env σ k K) :
  ∃ x env' σ',K x env' σ' /\ x.o = o /\ x.k = k /\ 1 <= x.cnt /\ RecAt cx pc N ops x env.get σ.get /\ env'.get = eput env.get x /\ σ'.get = hput σ.get x.puts := by
 unfold Zg2 at hv
 obtain ⟨env',h1,h2,h3⟩ := Zif (env' := env) (k := k) (cnt := 1) (puts := []) (rd := []) hv
 refine ⟨_,env',_,h1,rfl,rfl,by simp,⟨h3,false,hw,(fun h => by cases h),fun _ => ⟨rfl,rfl,rfl⟩⟩,h2,?_⟩
 funext i; simp [hput,look]
theorem Zgf {env : Env} {t : Nat} {b : Bool} (h : env.get t = .bool b) : Env.get ((t,.bool b) :: env) = env.get := by
 funext i
 rw [Env.get_cons]
 by_cases e : i = t
 ·subst e; rw [if_pos rfl,h]
 ·rw [if_neg e]
theorem Zl3 {cx : Cx} {pc : PC} {ops : List Oper} : ∀ (l : List Oper) (env : Env) (σ : St) (k : Nat) (acc : List Rec) (K : List Rec -> Env -> St -> Prop),vcD cx pc N ops l env σ k acc K ->
  ∃ recs env' σ',K (acc.reverse ++ recs) env' σ' /\ recs.map (·.o) = l /\ (∀ (q : Nat) (x : Rec),recs[q]? = some x -> RecAt cx pc N ops x (eF recs (fun p => decide (p < q)) env.get) (hF recs (fun p => decide (p < q)) σ.get)) /\
   env'.get = eF recs (fun _ => true) env.get /\ σ'.get = hF recs (fun _ => true) σ.get /\ (∀ (q : Nat) (x : Rec),recs[q]? = some x -> k <= x.k /\ x.k + x.cnt <= σ'.next /\ 1 <= x.cnt) /\ (∀ (p q : Nat) (x y : Rec),p < q -> recs[p]? = some x -> recs[q]? = some y -> x.k + x.cnt <= y.k) /\ k <= σ'.next
 | [],env,σ,k,acc,K,hv => ⟨[],env,{ σ with next := k },by simpa [vcD] using hv,rfl,fun q x hx => by simp at hx,rfl,rfl,fun q x hx => by simp at hx,fun p q x y _ hx => by simp at hx,Nat.le_refl _⟩
 | o :: rest,env,σ,k,acc,K,hv => by
  have go : ∀ (env1 : Env),env1.get = env.get -> (∃ x env' σ',vcD cx pc N ops rest env' σ' (k + x.cnt) (x :: acc) K /\ x.o = o /\ x.k = k /\ 1 <= x.cnt /\ RecAt cx pc N ops x env1.get σ.get /\ env'.get = eput env1.get x /\ σ'.get = hput σ.get x.puts) ->
   ∃ recs env' σ',K (acc.reverse ++ recs) env' σ' /\ recs.map (·.o) = o :: rest /\ (∀ (q : Nat) (x : Rec),recs[q]? = some x -> RecAt cx pc N ops x (eF recs (fun p => decide (p < q)) env.get) (hF recs (fun p => decide (p < q)) σ.get)) /\
   env'.get = eF recs (fun _ => true) env.get /\ σ'.get = hF recs (fun _ => true) σ.get /\ (∀ (q : Nat) (x : Rec),recs[q]? = some x -> k <= x.k /\ x.k + x.cnt <= σ'.next /\ 1 <= x.cnt) /\ (∀ (p q : Nat) (x y : Rec),p < q -> recs[p]? = some x -> recs[q]? = some y -> x.k + x.cnt <= y.k) /\ k <= σ'.next := by
   rintro env1 hee ⟨x,env2,σ2,hv2,g1,g2,g3,g4,g5,g6⟩
   obtain ⟨recs,env',σ',k1,k2,k3,k4,k5,k6,k7,k8⟩ := Zl3 rest env2 σ2 _ _ K hv2
   rw [hee] at g4 g5
   refine ⟨x :: recs,env',σ',by simpa using k1,by simp [g1,k2],?_,?_,?_,?_,?_,by omega⟩
   ·intro q y hy
    cases q with
    | zero =>
     simp only [List.getElem?_cons_zero,Option.some.injEq] at hy
     subst hy
     have e1 : eF (x :: recs) (fun p => decide (p < 0)) env.get = env.get := by
      funext t
      have := Yaw t (x :: recs) (fun p => decide (p < 0)) (fun _ => false) env.get env.get rfl (fun q y _ => .inl (by simp))
      rw [this]
      clear this k3 k2 k1 k6 k7
      generalize x :: recs = l
      induction l with
      | nil => rfl
      | cons a l ih => simpa [eF] using ih
     have e2 : hF (x :: recs) (fun p => decide (p < 0)) σ.get = σ.get := by
      funext t
      have := Yak t (x :: recs) (fun p => decide (p < 0)) (fun _ => false) σ.get σ.get rfl (fun q y _ => .inl (by simp))
      rw [this]
      clear this k3 k2 k1 k6 k7
      generalize x :: recs = l
      induction l with
      | nil => rfl
      | cons a l ih => simpa [hF] using ih
     rw [e1,e2]; exact g4
    | succ q =>
     simp only [List.getElem?_cons_succ] at hy
     have := k3 q y hy
     rw [g5,g6] at this
     simpa [eF,hF] using this
   ·rw [k4,g5]; simp [eF]
   ·rw [k5,g6]; simp [hF]
   ·intro q y hy
    cases q with
    | zero =>
     simp only [List.getElem?_cons_zero,Option.some.injEq] at hy
     subst hy
     exact ⟨by omega,by omega,g3⟩
    | succ q =>
     have := k6 q y (by simpa using hy)
     exact ⟨by omega,this.2⟩
   ·intro p q y z hpq hy hz
    cases q with
    | zero => omega
    | succ q =>
     cases p with
     | zero =>
      simp only [List.getElem?_cons_zero,Option.some.injEq] at hy
      subst hy
      have := k6 q z (by simpa using hz)
      omega
     | succ p => exact k7 p q y z (by omega) (by simpa using hy) (by simpa using hz)
  simp only [vcD,Zow] at hv
  cases hg : o.guard with
  | none =>
   rw [hg] at hv
   exact go env rfl (Zg3 (by simp [Zkd,hg]) hv)
  | some jw =>
   obtain ⟨j,want⟩ := jw
   rw [hg] at hv
   dsimp only at hv
   cases ht : Yl ops j with
   | none => rw [ht] at hv; exact hv.elim
   | some t =>
    rw [ht] at hv
    dsimp only at hv
    split at hv
    ·rename_i b hb
     have hwant : ∀ c : Bool,b = c -> Zkd ops o (Env.get ((t,.bool c) :: env)) = some (c == want) := by
      rintro c rfl
      simp only [Zkd,hg,ht]
      rw [Zgf hb,hb]
     rcases Br.cases hv with ⟨rfl,hv⟩ | ⟨rfl,hv⟩
     ·cases want with
      | true => exact go _ (Zgf hb) (Zg3 (hwant true rfl) hv)
      | false => exact go _ (Zgf hb) (Zdd (hwant true rfl) hv)
     ·cases want with
      | false => exact go _ (Zgf hb) (Zg3 (hwant false rfl) hv)
      | true => exact go _ (Zgf hb) (Zdd (hwant false rfl) hv)
    ·rename_i hb
     exact go env rfl (Zdd (by simp only [Zkd,hg,ht,hb]) hv)
    ·exact hv.elim
variable {r r' : Locs} {D D' D0 : Nat -> Prop} {I I' : Imm} {w w' w0 : World} {I0 : Imm} {B n n' k N : Nat} {pr pr' : Nat -> Obj -> Prop} {h h' : Nat -> ABlk} {P : Program}
def bits : List Nat -> Nat
 | [] => 0
 | a :: l => Nat.lor (Nat.shiftLeft 1 a) (bits l)
theorem bits_spec {l : List Nat} {i : Nat} : (bits l).testBit i = true ↔ i ∈ l := by
 induction l with
 | nil => simp [bits]
 | cons a l ih =>
  have e : (bits (a :: l)).testBit i = ((1 <<< a).testBit i || (bits l).testBit i) := Nat.testBit_or ..
  rw [e,Bool.or_eq_true,ih,List.mem_cons]
  have : (1 <<< a).testBit i = true ↔ i = a := by
   rw [Nat.testBit_shiftLeft]
   simp only [ge_iff_le,Bool.and_eq_true,decide_eq_true_eq,Nat.testBit_one_eq_true_iff_self_eq_zero]
   omega
  rw [this]
theorem Zb3 {a b : Nat} (h : Nat.beq (Nat.land a b) 0 = true) {i : Nat} (ha : a.testBit i = true) : ¬ b.testBit i = true := by
 intro hb
 have h0 := Nat.eq_of_beq_eq_true h
 have : (a &&& b).testBit i = true := by rw [Nat.testBit_and,ha,hb]; rfl
 have h1 : (a &&& b) = 0 := h0
 rw [h1] at this
 simp at this
structure Tr where
 puts : Nat
 rd : Nat
 dst : Nat
 sl : Nat
def trOf (ops : List Oper) (x : Rec) : Tr := ⟨bits (x.puts.map (·.1)),bits x.rd,bits x.o.dst.toList,bits (slots ops x.o)⟩
def Zob (x y : Tr) : Bool :=
 Nat.beq (Nat.land x.puts (Nat.lor y.puts y.rd)) 0 && Nat.beq (Nat.land x.rd y.puts) 0 && Nat.beq (Nat.land x.dst (Nat.lor y.sl y.dst)) 0 && Nat.beq (Nat.land y.dst x.sl) 0
theorem Ygd {a b i : Nat} (h : a.testBit i = true) : (Nat.lor a b).testBit i = true := by
 have : (a ||| b).testBit i = true := by rw [Nat.testBit_or,h]; rfl
 exact this
theorem Ygc {a b i : Nat} (h : b.testBit i = true) : (Nat.lor a b).testBit i = true := by
 have : (a ||| b).testBit i = true := by rw [Nat.testBit_or,h,Bool.or_true]
 exact this
theorem Yb7 {a b i : Nat} (h : (Nat.lor a b).testBit i = true) : a.testBit i = true \/ b.testBit i = true := by
 have : (a ||| b).testBit i = true := h
 rw [Nat.testBit_or,Bool.or_eq_true] at this
 exact this
theorem Zqg {ops : List Oper} {x y : Rec} (h : Zob (trOf ops x) (trOf ops y) = true) : Indep ops x y := by
 unfold Zob trOf at h
 simp only [Bool.and_eq_true] at h
 obtain ⟨⟨⟨h1,h2⟩,h3⟩,h4⟩ := h
 refine ⟨fun i hi hj => ?_,fun i hi hj => ?_,fun i hi hj => ?_,fun d hd => ⟨fun hj => ?_,fun hj => ?_⟩,fun d hd hj => ?_⟩
 ·exact Zb3 h1 (bits_spec.2 hi) (Ygd (bits_spec.2 hj))
 ·exact Zb3 h1 (bits_spec.2 hi) (Ygc (bits_spec.2 hj))
 ·exact Zb3 h2 (bits_spec.2 hi) (bits_spec.2 hj)
 ·exact Zb3 (i := d) h3 (bits_spec.2 (by simp [hd])) (Ygd (bits_spec.2 hj))
 ·exact Zb3 (i := d) h3 (bits_spec.2 (by simp [hd])) (Ygc (bits_spec.2 (by simp [hj])))
 ·exact Zb3 (i := d) h4 (bits_spec.2 (by simp [hd])) (bits_spec.2 hj)
def nth : List Nat -> Nat -> Nat
 | [],_ => 0
 | a :: _,0 => a
 | _ :: l,i + 1 => nth l i
def Za9 : List Edge -> List Nat
 | [] => []
 | e :: l => cond (Region.binds .any e) (e.on :: Za9 l) (Za9 l)
def Ztz (ms : List Nat) : List Nat -> Nat
 | [] => 0
 | a :: l => Nat.lor (Nat.lor (Nat.shiftLeft 1 a) (nth ms a)) (Ztz ms l)
def Zyy (q : Nat) : List Nat -> Bool
 | [] => true
 | a :: l => Nat.blt a q && Zyy q l
def befs : List Oper -> Nat -> List Nat -> Option (List Nat)
 | [],_,ms => some ms
 | o :: l,q,ms => cond (Zyy q (Za9 o.after.toList)) (befs l (q + 1) (ms ++ [Ztz ms (Za9 o.after.toList)])) none
def Zgr (m : Nat) (y : Tr) : List Tr -> Nat -> Bool
 | [],_ => true
 | x :: l,p => (Nat.testBit m p || Zob x y) && Zgr m y l (p + 1)
def Zij (ms : List Nat) : List Tr -> Nat -> List Tr -> Bool
 | _,_,[] => true
 | pre,q,y :: l => Zgr (nth ms q) y pre 0 && Zij ms (pre ++ [y]) (q + 1) l
def Zo4 (ops : List Oper) (recs : List Rec) : Bool := match befs ops 0 [] with
 | some ms => Zij ms [] 0 (recs.map (trOf ops))
 | none => false
theorem mem_bindsOn {l : List Edge} {p : Nat} : p ∈ Za9 l ↔ ∃ e ∈ l,Region.binds .any e = true /\ e.on = p := by
 induction l with
 | nil => simp [Za9]
 | cons a l ih =>
  simp only [Za9,List.mem_cons]
  cases hb : Region.binds .any a with
  | true =>
   simp only [cond_true,List.mem_cons,ih]
   constructor
   ·rintro (rfl | ⟨e,h1,h2⟩)
    ·exact ⟨a,.inl rfl,hb,rfl⟩
    ·exact ⟨e,.inr h1,h2⟩
   ·rintro ⟨e,rfl | h1,h2⟩
    ·exact .inl h2.2.symm
    ·exact .inr ⟨e,h1,h2⟩
  | false =>
   simp only [cond_false,ih]
   constructor
   ·rintro ⟨e,h1,h2⟩; exact ⟨e,.inr h1,h2⟩
   ·rintro ⟨e,rfl | h1,h2⟩
    ·rw [hb] at h2; cases h2.1
    ·exact ⟨e,h1,h2⟩
theorem Zus {q : Nat} {l : List Nat} (h : Zyy q l = true) : ∀ p ∈ l,p < q := by
 induction l with
 | nil => simp
 | cons a l ih =>
  simp only [Zyy,Bool.and_eq_true,Nat.blt_eq] at h
  intro p hp
  rcases List.mem_cons.1 hp with rfl | hp
  ·exact h.1
  ·exact ih h.2 p hp
theorem Znh {a i : Nat} (h : (Nat.shiftLeft 1 a).testBit i = true) : i = a := by
 have : (1 <<< a).testBit i = true := h
 rw [Nat.testBit_shiftLeft] at this
 simp only [ge_iff_le,Bool.and_eq_true,decide_eq_true_eq,Nat.testBit_one_eq_true_iff_self_eq_zero] at this
 omega
theorem Zk7 {ms : List Nat} {p : Nat} : ∀ {l : List Nat},(Ztz ms l).testBit p = true -> ∃ a ∈ l,p = a \/ (nth ms a).testBit p = true
 | [],h => by simp [Ztz] at h
 | a :: l,h => by
  rcases Yb7 h with h | h
  ·rcases Yb7 h with h | h
   ·exact ⟨a,by simp,.inl (Znh h)⟩
   ·exact ⟨a,by simp,.inr h⟩
  ·obtain ⟨b,hb,h⟩ := Zk7 h
   exact ⟨b,by simp [hb],h⟩
theorem Zhc {ms l : List Nat} {i : Nat} (h : i < ms.length) : nth (ms ++ l) i = nth ms i := by
 induction ms generalizing i with
 | nil => simp at h
 | cons a ms ih =>
  cases i with
  | zero => rfl
  | succ i => simp only [List.cons_append,nth]; exact ih (by simpa using h)
theorem Zz2 {ms : List Nat} {a : Nat} : nth (ms ++ [a]) ms.length = a := by
 induction ms with
 | nil => rfl
 | cons b ms ih => simpa [nth] using ih
theorem Yd1 {ms : List Nat} {i : Nat} (h : ms.length <= i) : nth ms i = 0 := by
 induction ms generalizing i with
 | nil => rfl
 | cons a ms ih =>
  cases i with
  | zero => simp at h
  | succ i => simp only [nth]; exact ih (by simpa using h)
def On (all : List Oper) (q p : Nat) : Prop := ∃ o,all[q]? = some o /\ p ∈ Za9 o.after.toList
theorem Zph {all : List Oper} : ∀ (l : List Oper) (q : Nat) (ms ms' : List Nat),befs l q ms = some ms' -> (∀ i,l[i]? = all[q + i]?) -> ms.length = q -> (∀ i p,On all i p -> i < q -> p < i) ->
  (∀ i p,i < q -> (nth ms i).testBit p = true -> ∃ a,On all i a /\ (p = a \/ (nth ms a).testBit p = true)) ->
  (∀ i p,On all i p -> p < i) /\ (∀ i p,(nth ms' i).testBit p = true -> ∃ a,On all i a /\ (p = a \/ (nth ms' a).testBit p = true))
 | [],q,ms,ms',h,hl,hq,h1,h2 => by
  simp only [befs,Option.some.injEq] at h
  subst h
  refine ⟨fun i p ho => ?_,fun i p hb => ?_⟩
  ·by_cases hi : i < q
   ·exact h1 i p ho hi
   ·obtain ⟨o,ho,_⟩ := ho
    have := hl (i - q)
    rw [show q + (i - q) = i by omega,ho] at this
    simp at this
  ·by_cases hi : i < q
   ·exact h2 i p hi hb
   ·rw [Yd1 (by omega)] at hb; simp at hb
 | o :: l,q,ms,ms',h,hl,hq,h1,h2 => by
  simp only [befs] at h
  cases hlt : Zyy q (Za9 o.after.toList) with
  | false => rw [hlt] at h; cases h
  | true =>
   rw [hlt] at h
   have hlt := Zus hlt
   have hoq : all[q]? = some o := by simpa using (hl 0).symm
   refine Zph l (q + 1) _ ms' h (fun i => ?_) (by simp [hq]) (fun i p ho hi => ?_) (fun i p hi hb => ?_)
   ·have := hl (i + 1)
    rw [show q + 1 + i = q + (i + 1) by omega,<-this]; simp
   ·by_cases hiq : i = q
    ·subst hiq
     obtain ⟨o',ho',hp⟩ := ho
     rw [hoq,Option.some.injEq] at ho'
     subst ho'
     exact hlt p hp
    ·exact h1 i p ho (by omega)
   ·by_cases hiq : i = q
    ·subst hiq
     have e : nth (ms ++ [Ztz ms (Za9 o.after.toList)]) i = Ztz ms (Za9 o.after.toList) := by rw [<-hq]; exact Zz2
     rw [e] at hb
     obtain ⟨a,ha,hor⟩ := Zk7 hb
     refine ⟨a,⟨o,hoq,ha⟩,?_⟩
     rw [Zhc (by rw [hq]; exact hlt a ha)]
     exact hor
    ·rw [Zhc (by omega)] at hb
     obtain ⟨a,ha,hor⟩ := h2 i p (by omega) hb
     refine ⟨a,ha,?_⟩
     rw [Zhc (by have := h1 i a ha (by omega); omega)]
     exact hor
theorem Zfb {m : Nat} {y : Tr} : ∀ {l : List Tr} {p : Nat},Zgr m y l p = true -> ∀ i x,l[i]? = some x -> m.testBit (p + i) = true \/ Zob x y = true
 | [],p,_,i,x,hx => by simp at hx
 | a :: l,p,h,i,x,hx => by
  simp only [Zgr,Bool.and_eq_true,Bool.or_eq_true] at h
  cases i with
  | zero => simp at hx; subst hx; exact h.1
  | succ i =>
   have := Zfb h.2 i x (by simpa using hx)
   rwa [show p + 1 + i = p + (i + 1) by omega] at this
theorem Zgs {ms : List Nat} : ∀ {l pre : List Tr} {q : Nat},Zij ms pre q l = true -> pre.length = q -> ∀ i j x y,i < j -> q <= j -> (pre ++ l)[i]? = some x -> (pre ++ l)[j]? = some y -> (nth ms j).testBit i = true \/ Zob x y = true
 | [],pre,q,h,hq,i,j,x,y,hij,hqj,hx,hy => by
  rw [List.append_nil,List.getElem?_eq_none (by omega)] at hy
  cases hy
 | a :: l,pre,q,h,hq,i,j,x,y,hij,hqj,hx,hy => by
  simp only [Zij,Bool.and_eq_true] at h
  by_cases hj : j = q
  ·subst hj
   rw [List.getElem?_append_right (by omega),hq,Nat.sub_self] at hy
   simp only [List.getElem?_cons_zero,Option.some.injEq] at hy
   subst hy
   rw [List.getElem?_append_left (by omega)] at hx
   have := Zfb h.1 i x hx
   rwa [Nat.zero_add] at this
  ·refine Zgs (pre := pre ++ [a]) (l := l) h.2 (by simp [hq]) i j x y hij (by omega) (by simpa using hx) (by simpa using hy)
def Yc4 (all : List Oper) (S : Nat -> Bool) : Prop := ∀ q p,S q = true -> On all q p -> S p = true
theorem Zq2 {ops : List Oper} {recs : List Rec} (h : Zo4 ops recs = true) : (∀ i p,On ops i p -> p < i) /\
  ∀ S,Yc4 ops S -> ∀ p q x y,p < q -> recs[p]? = some x -> recs[q]? = some y -> (S p = false -> (S q = true \/ ∀ a,On ops q a -> S a = true) -> Indep ops x y) := by
 unfold Zo4 at h
 split at h
 ·rename_i ms hms
  obtain ⟨h1,h2⟩ := Zph (all := ops) ops 0 [] ms hms (fun i => by simp) rfl (fun i p _ hi => by omega) (fun i p hi => by omega)
  refine ⟨h1,fun S hS p q x y hpq hx hy hSp hq => ?_⟩
  have up : ∀ q,(nth ms q).testBit p = true -> (∀ a,On ops q a -> S a = true) -> S p = true := by
   intro q
   induction q using Nat.strongRecOn with
   | ind q ih =>
    intro hb ha
    obtain ⟨a,hoa,hor⟩ := h2 q p hb
    have hsa := ha a hoa
    rcases hor with rfl | hor
    ·exact hsa
    ·exact ih a (h1 q a hoa) hor (fun b hb => hS a b hsa hb)
  have hedge : ∀ a,On ops q a -> S a = true := by
   rcases hq with hq | hq
   ·exact fun a ha => hS q a hq ha
   ·exact hq
  rcases Zgs h rfl p q (trOf ops x) (trOf ops y) hpq (Nat.zero_le _) (by simp [hx]) (by simp [hy]) with h3 | h3
  ·rw [up q h3 hedge] at hSp; cases hSp
  ·exact Zqg h3
 ·cases h
theorem DInv.congr {N : Nat} {recs : List Rec} {ef0 : Nat -> AV} {h0 : Nat -> ABlk} {nf : Nat} {rs : Locs} {Is : Imm} {ws : World} {ds : List Deferred} {S S' : Nat -> Bool} {a : Act} (hs : ∀ q x,recs[q]? = some x -> S q = S' q) (h : DInv B w0 I0 pr N recs ef0 h0 D0 nf rs Is ws ds S a w) : DInv B w0 I0 pr N recs ef0 h0 D0 nf rs Is ws ds S' a w := by
 obtain ⟨⟨r,I,D,H,hD,hsz,htm,hst⟩,hdf⟩ := h
 have e1 : hF recs S h0 = hF recs S' h0 := funext fun i => Yak i recs _ _ _ _ rfl fun q y hy => .inl (hs q y hy)
 have e2 : eF recs S ef0 = eF recs S' ef0 := funext fun i => Yaw i recs _ _ _ _ rfl fun q y hy => .inl (hs q y hy)
 refine ⟨⟨r,I,D,e1 ▸ H,fun id hd => ?_,hsz,e2 ▸ htm,hst⟩,hdf⟩
 rcases hD id hd with h | ⟨q,x,hx,hq,h⟩
 ·exact .inl h
 ·exact .inr ⟨q,x,hx,(hs q x hx) ▸ hq,h⟩
theorem Zsw {cx : Cx} (hcx : CxOK P cx) {pc : PC} (hpc : PCOK P pc) {F : Fence} (hFo : FOK F) {ops : List Oper} {recs : List Rec} {ef0 : Nat -> AV} {h0 : Nat -> ABlk} {nf k0 : Nat} {rs : Locs} {Is : Imm} {ws : World} {ds : List Deferred}
  (hops : recs.map (·.o) = ops) (hnd : Yi ops = true) (hok : Zo4 ops recs = true) (hrec : ∀ (q : Nat) (x : Rec),recs[q]? = some x -> RecAt cx pc N ops x (eF recs (fun p => decide (p < q)) ef0) (hF recs (fun p => decide (p < q)) h0))
  (hD0 : ∀ id,D0 id -> id < k0) (hk : ∀ (q : Nat) (x : Rec),recs[q]? = some x -> k0 <= x.k /\ x.k + x.cnt <= nf /\ 1 <= x.cnt) (hdis : ∀ (p q : Nat) (x y : Rec),p < q -> recs[p]? = some x -> recs[q]? = some y -> x.k + x.cnt <= y.k)
  (Q : Exit -> Act -> World -> Prop) (hQ : ∀ a w,DInv B w0 I0 pr N recs ef0 h0 D0 nf rs Is ws ds (fun _ => true) a w -> Q .normal a w) :
  ∀ (fuel : Nat) (listed : Array Bool) (a : Act) (w : World),listed.size = ops.length -> Yc4 ops (fun q => listed.getD q false) -> listed.toList.countP (fun b => !b) <= fuel ->
   DInv B w0 I0 pr N recs ef0 h0 D0 nf rs Is ws ds (fun q => listed.getD q false) a w -> wpAnyIn F 0 P .any ops.toArray Q fuel listed a w := by
 obtain ⟨hlt,hind⟩ := Zq2 hok
 have hlen : recs.length = ops.length := by rw [<-hops,List.length_map]
 have hready : ∀ (listed : Array Bool),listed.size = ops.length -> ∀ q,q ∈ Region.ready .any ops.toArray listed ↔ (q < ops.length /\ listed.getD q false = false /\ ∀ p,On ops q p -> listed.getD p false = true) := by
  intro listed hsz q
  rw [mem_ready]
  constructor
  ·rintro ⟨h1,o,ho,h2⟩
   have ho : ops[q]? = some o := by simpa using ho
   have hq := (List.getElem?_eq_some_iff.1 ho).1
   refine ⟨hq,?_,?_⟩
   ·simp only [Array.getD_eq_getD_getElem?] at h1 ⊢
    rw [Array.getElem?_eq_getElem (by omega)] at h1 ⊢
    exact h1
   ·rintro p ⟨o',ho',hp⟩
    rw [ho,Option.some.injEq] at ho'
    subst ho'
    obtain ⟨e,he,hb,rfl⟩ := mem_bindsOn.1 hp
    exact h2 e (by simpa using he) hb
  ·rintro ⟨hq,h1,h2⟩
   refine ⟨?_,ops[q],by simp [hq],fun e he hb => ?_⟩
   ·simp only [Array.getD_eq_getD_getElem?] at h1 ⊢
    rw [Array.getElem?_eq_getElem (by omega)] at h1 ⊢
    exact h1
   ·exact h2 e.on ⟨ops[q],by simp [hq],mem_bindsOn.2 ⟨e,by simpa using he,hb,rfl⟩⟩
 have hall : ∀ (listed : Array Bool),listed.size = ops.length -> Region.ready .any ops.toArray listed = [] -> ∀ q,q < ops.length -> listed.getD q false = true := by
  intro listed hsz hr q
  induction q using Nat.strongRecOn with
  | ind q ih =>
   intro hq
   cases hb : listed.getD q false with
   | true => rfl
   | false =>
    have : q ∈ Region.ready .any ops.toArray listed := (hready listed hsz q).2 ⟨hq,hb,fun p hp => ih p (hlt q p hp) (Nat.lt_trans (hlt q p hp) hq)⟩
    rw [hr] at this; cases this
 have hdone : ∀ (listed : Array Bool) (a : Act) (w : World),listed.size = ops.length -> Region.ready .any ops.toArray listed = [] -> DInv B w0 I0 pr N recs ef0 h0 D0 nf rs Is ws ds (fun q => listed.getD q false) a w -> Q .normal a w := by
  intro listed a w hsz hr hi
  refine hQ a w (hi.congr fun q x hx => ?_)
  exact hall listed hsz hr q (by have := (List.getElem?_eq_some_iff.1 hx).1; omega)
 intro fuel
 induction fuel with
 | zero =>
  intro listed a w hsz hcl hcnt hi
  have hr : Region.ready .any ops.toArray listed = [] := by
   cases hr : Region.ready .any ops.toArray listed with
   | nil => rfl
   | cons q l =>
    obtain ⟨h1,h2,_⟩ := (hready listed hsz q).1 (by rw [hr]; simp)
    have h3 := List.countP_eq_zero.1 (Nat.le_zero.1 hcnt) (listed.getD q false) (by
     rw [Array.getD_eq_getD_getElem?,Array.getElem?_eq_getElem (by omega)]
     simp)
    rw [h2] at h3; simp at h3
  exact ⟨hr,hdone listed a w hsz hr hi⟩
 | succ fuel ih =>
  intro listed a w hsz hcl hcnt hi
  refine ⟨fun hr => hdone listed a w hsz hr hi,fun q hq => ?_⟩
  obtain ⟨h1,h2,h3⟩ := (hready listed hsz q).1 hq
  have hqr : q < recs.length := by omega
  have hx : recs[q]? = some recs[q] := List.getElem?_eq_getElem hqr
  have ho : ops[q]? = some recs[q].o := by rw [<-hops]; simp [hqr]
  have hset : ∀ i,(listed.setIfInBounds q true).getD i false = setS (fun q => listed.getD q false) q i := by
   intro i
   simp only [setS,Array.getD_eq_getD_getElem?,Array.getElem?_setIfInBounds]
   by_cases e : i = q
   ·subst e; rw [if_pos rfl,if_pos (by omega),if_pos rfl]; rfl
   ·rw [if_neg (fun h => e h.symm),if_neg e]
  refine wpOpIn_mono (fun a' w' hi' => ?_) (Zx2 hcx hpc hFo hx ho ?_ h2 (hrec q _ hx) (fun p y hy hpq hs => ?_) (fun p y hpq hy hs => ?_) ?_ (hk q _ hx).2.1 (fun p y hy hne => ?_) hi Q)
  ·refine ih (listed.setIfInBounds q true) a' w' (by simpa using hsz) ?_ ?_ ?_
   ·intro i p hi2 hp
    dsimp only at hi2 ⊢
    rw [hset] at hi2 ⊢
    simp only [setS] at hi2 ⊢
    by_cases e : p = q
    ·simp [e]
    ·rw [if_neg e]
     by_cases e2 : i = q
     ·subst e2; exact h3 p hp
     ·rw [if_neg e2] at hi2; exact hcl i p hi2 hp
   ·have : (listed.setIfInBounds q true).toList = listed.toList.set q true := by simp
    rw [this,List.countP_set (by simpa using (show q < listed.size by omega))]
    have e : listed.toList[q]'(by simpa using (show q < listed.size by omega)) = false := by
     rw [Array.getD_eq_getD_getElem?,Array.getElem?_eq_getElem (by omega)] at h2
     simpa using h2
    rw [e]; simp only [Bool.not_false,if_true,Bool.not_true,Bool.false_eq_true,if_false]; omega
   ·have : (fun q_1 => (listed.setIfInBounds q true).getD q_1 false) = setS (fun q => listed.getD q false) q := funext hset
    rw [this]; exact hi'
  ·intro c hc
   have : ∀ (l : List Oper) (i : Nat) (o : Oper),Yi l = true -> l[i]? = some o -> ∀ c,o.op ≠ .defer c := by
    intro l
    induction l with
    | nil => intro i o _ hio; simp at hio
    | cons b l ihl =>
     intro i o hn hio c hc
     simp only [Yi,Bool.and_eq_true] at hn
     cases i with
     | zero => simp at hio; subst hio; rw [hc] at hn; simp at hn
     | succ i => exact ihl i o hn.2 (by simpa using hio) c hc
   exact this ops q _ hnd ho c hc
  ·exact hind _ hcl p q y recs[q] hpq hy hx hs (.inr h3)
  ·refine hind _ hcl q p recs[q] y hpq hx hy h2 (.inl hs)
  ·intro id hd; have := hD0 id hd; have := (hk q _ hx).1; omega
  ·rcases Nat.lt_or_gt_of_ne hne with h | h
   ·exact .inl (hdis p q y _ h hy hx)
   ·exact .inr (hdis q p _ y h hx hy)
theorem HR.next (H : HR B w0 I0 pr r I D h n w) (hn : n <= n') : HR B w0 I0 pr r I D h n' w :=
 ⟨H.below,H.base,H.imm,fun id hd => ⟨Nat.lt_of_lt_of_le (H.dom id hd).1 hn,(H.dom id hd).2⟩,H.live,H.blk,H.inj,H.prot,H.protK,H.immB⟩
def Zfw (cx : Cx) (pc : PC) (N : Nat) (ops : List Oper) (env : Env) (σ : St) (K : Env -> St -> Prop) : Prop :=
 cond (Yi ops) (vcD cx pc N ops ops env σ σ.next [] fun recs env' σ' => Dr (Zo4 ops recs = true) (K env' σ')) False
theorem Zxa {recs : List Rec} {S : Nat -> Bool} (hS : ∀ q,S q = false) : ∀ (l : List Rec) (h : Nat -> ABlk),hF l S h = h := by
 intro l
 induction l generalizing S with
 | nil => intro h; rfl
 | cons x l ih => intro h; simp only [hF,hS 0,Bool.false_eq_true,if_false]; exact ih (fun q => hS (q + 1)) h
theorem Zx0 {recs : List Rec} {S : Nat -> Bool} (hS : ∀ q,S q = false) : ∀ (l : List Rec) (h : Nat -> AV),eF l S h = h := by
 intro l
 induction l generalizing S with
 | nil => intro h; rfl
 | cons x l ih => intro h; simp only [eF,hS 0,Bool.false_eq_true,if_false]; exact ih (fun q => hS (q + 1)) h
theorem Zde {cx : Cx} (hcx : CxOK P cx) {pc : PC} (hpc : PCOK P pc) (hm : P.follows .mixedOrders = true) (id : Nat) (ops : Array Oper) (env : Env) (σ : St) (K : Env -> St -> Prop) (hv : Zfw cx pc N ops.toList env σ K) :
  Awp P N (.region id ops true) env σ (seqQ K fun _ _ _ => False) := by
 intro F B w0 I0 pr r I D a w hF hR S
 unfold Zfw at hv
 cases hnd : Yi ops.toList with
 | false => rw [hnd] at hv; exact hv.elim
 | true =>
  rw [hnd] at hv
  obtain ⟨recs,env',σ',⟨hok,hK⟩,h2,h3,h4,h5,h6,h7,h8⟩ := Zl3 ops.toList env σ _ _ _ hv
  simp only [List.reverse_nil,List.nil_append] at hok
  refine wpIn_region_any hm ?_
  have hfalse : ∀ q,(Array.replicate ops.size false).getD q false = false := by
   intro q
   rw [Array.getD_eq_getD_getElem?,Array.getElem?_replicate]
   split <;> rfl
  have main := Zsw (B := B) (w0 := w0) (I0 := I0) (pr := pr) (N := N) (D0 := D) (k0 := σ.next) (nf := σ'.next) (rs := r) (Is := I) (ws := w) (ds := a.defers) hcx hpc hF h2 hnd hok h3 (fun id hd => (S.hr.dom id hd).1) h6 h7
   (Post B w0 I0 pr N r I D w a.defers (seqQ K fun _ _ _ => False)) (fun a' w' hi => ?_) ops.size (Array.replicate ops.size false) a w.drew (by simp) (fun q p hq _ => by dsimp only at hq; rw [hfalse] at hq; cases hq) (by simpa using List.countP_le_length (l := List.replicate ops.size false)) ?_
  ·simpa using main
  ·obtain ⟨⟨r2,I2,D2,H2,hD2,hsz,htm,hst⟩,hdf⟩ := hi
   rw [<-h5] at H2
   rw [<-h4] at htm
   refine ⟨pr,[],env',σ',r2,I2,D2,fun _ _ h => h,fun d hd => by simp at hd,.nil,by simpa using hdf,hK,⟨H2,hsz,htm⟩,hst,hst.size⟩
  ·refine ⟨⟨r,I,D,?_,fun id hd => .inl hd,S.er.1,?_,Step.drew r D I w⟩,rfl⟩
   ·rw [Zxa (recs := recs) hfalse]
    exact S.hr.drew.next h8
   ·rw [Zx0 (recs := recs) hfalse]
    exact fun t => (S.er.2 t).mono (Step.drew r D I w)
variable {r r' : Locs} {D D' : Nat -> Prop} {I I' : Imm} {w w' w0 : World} {I0 : Imm} {B n n' k N : Nat} {pr pr' : Nat -> Obj -> Prop} {h : Nat -> ABlk} {P : Program}
mutual
theorem VR.reren {f : Nat -> Nat} {D' : Nat -> Prop} {m : Nat} (hf : ∀ j,j < m -> D (f j) -> D' j /\ r' j = r (f j)) : ∀ (v : AV) {x : Value},VR r I w D (Zi f v) x -> Vf m v = true -> VR r' I w D' v x
 | .any,x,hv,hm => .any _ _
 | .bool _,x,hv,hm => by simp only [Zi] at hv; cases hv; exact .bool _ _
 | .int _ _,x,hv,hm => by simp only [Zi] at hv; cases hv; exact .int _ _ _
 | .flt _ _,x,hv,hm => by simp only [Zi] at hv; cases hv; exact .flt _ _ _
 | .cpx _ _ _,x,hv,hm => by simp only [Zi] at hv; cases hv; exact .cpx _ _ _ _
 | .val _ _ _,x,hv,hm => by simp only [Zi] at hv; cases hv; exact .val _ _ _ _
 | .str _,x,hv,hm => by simp only [Zi] at hv; cases hv; exact .str _ _
 | .ptr id idx sub,x,hv,hm => by
  simp only [Vf,Nat.blt_eq] at hm
  simp only [Zi] at hv
  cases hv with
  | ptr _ _ _ _ hd => obtain ⟨h1,h2⟩ := hf id hm hd; rw [<-h2]; exact .ptr _ _ _ _ h1
 | .ipt cells,x,hv,hm => by simp only [Zi] at hv; exact (hv.pure rfl).mono ⟨fun _ h => h.elim,fun _ _ hi => ⟨hi,rfl⟩,Nat.le_refl _⟩
 | .nilp,x,hv,hm => by simp only [Zi] at hv; cases hv; exact .nilp _
 | .nils,x,hv,hm => by simp only [Zi] at hv; cases hv; exact .nils _
 | .asl id idx len,x,hv,hm => by
  simp only [Vf,Nat.blt_eq] at hm
  simp only [Zi] at hv
  cases hv with
  | asl _ _ _ _ hd hc => obtain ⟨h1,h2⟩ := hf id hm hd; rw [<-h2] at hc; rw [<-h2]; exact .asl _ _ _ _ h1 hc
 | .bsl id idx sub len cap,x,hv,hm => by
  simp only [Vf,Nat.blt_eq] at hm
  simp only [Zi] at hv
  cases hv with
  | bsl _ _ _ _ _ _ hd => obtain ⟨h1,h2⟩ := hf id hm hd; rw [<-h2]; exact .bsl _ _ _ _ _ _ h1
 | .isl es elems,x,hv,hm => by simp only [Zi] at hv; exact (hv.pure rfl).mono ⟨fun _ h => h.elim,fun _ _ hi => ⟨hi,rfl⟩,Nat.le_refl _⟩
 | .amap id,x,hv,hm => by
  simp only [Vf,Nat.blt_eq] at hm
  simp only [Zi] at hv
  cases hv with
  | amap _ _ hd => obtain ⟨h1,h2⟩ := hf id hm hd; rw [<-h2]; exact .amap _ _ h1
 | .func g c0 c1,x,hv,hm => by
  simp only [Vf,Bool.and_eq_true] at hm
  simp only [Zi] at hv
  cases hv with
  | func _ _ _ _ v0 v1 h0 h1 g0 g1 =>
   exact .func _ _ _ _ _ _ (by rw [Zz] at h0; exact h0) (by rw [Zz] at h1; exact h1) (VR.rerenL hf c0 g0 hm.1) (VR.rerenL hf c1 g1 hm.2)
 | .yld _,x,hv,hm => by simp only [Zi] at hv; cases hv; exact .yld _ _
 | .agg cs,x,hv,hm => by
  simp only [Vf] at hm
  simp only [Zi] at hv
  cases hv with
  | agg _ _ vs h0 g => exact .agg _ _ _ (by rw [Zz] at h0; exact h0) (VR.rerenL hf cs g hm)
 | .tup cs,x,hv,hm => by
  simp only [Vf] at hm
  simp only [Zi] at hv
  cases hv with
  | tup _ _ vs h0 g => exact .tup _ _ _ (by rw [Zz] at h0; exact h0) (VR.rerenL hf cs g hm)
theorem VR.rerenL {f : Nat -> Nat} {D' : Nat -> Prop} {m : Nat} (hf : ∀ j,j < m -> D (f j) -> D' j /\ r' j = r (f j)) : ∀ (cs : List AV) {vs : Array Value},(∀ (i : Nat) (c : AV) (v : Value),(renL f cs)[i]? = some c -> vs[i]? = some v -> VR r I w D c v) -> Vx m cs = true ->
  ∀ (i : Nat) (c : AV) (v : Value),cs[i]? = some c -> vs[i]? = some v -> VR r' I w D' c v
 | [],vs,g,hm,i,c,v,hc,hv => by simp at hc
 | a :: cs,vs,g,hm,0,c,v,hc,hv => by
  simp only [Vx,Bool.and_eq_true] at hm
  simp only [List.getElem?_cons_zero,Option.some.injEq] at hc
  subst hc
  exact VR.reren hf a (g 0 _ v (by simp [renL]) hv) hm.1
 | a :: cs,vs,g,hm,i + 1,c,v,hc,hv => by
  simp only [Vx,Bool.and_eq_true] at hm
  refine VR.rerenL hf cs (vs := vs.extract 1 vs.size) (fun j c' v' hc' hv' => ?_) hm.2 i c v (by simpa using hc) ?_
  ·refine g (j + 1) c' v' (by simpa [renL] using hc') ?_
   rw [Array.getElem?_extract] at hv'
   split at hv'
   ·rwa [Nat.add_comm 1 j] at hv'
   ·cases hv'
  ·rw [Array.getElem?_extract,if_pos]
   ·rwa [Nat.add_comm 1 i]
   ·have := (Array.getElem?_eq_some_iff.1 hv).1; omega
end
def Zdn (f : Nat -> Nat) : List (List AV) -> List (List AV)
 | [] => []
 | e :: l => renL f e :: Zdn f l
def Zoh (m : Nat) : List (List AV) -> Bool
 | [] => true
 | e :: l => Vx m e && Zoh m l
theorem Zci (f : Nat -> Nat) : ∀ (l : List (List AV)) (i : Nat),(Zdn f l)[i]? = (l[i]?).map (renL f)
 | [],i => by simp [Zdn]
 | e :: l,0 => by simp [Zdn]
 | e :: l,i + 1 => by simp [Zdn,Zci f l i]
theorem Zez (f : Nat -> Nat) : ∀ (l : List (List AV)),(Zdn f l).length = l.length
 | [] => rfl
 | e :: l => by simp [Zdn,Zez f l]
theorem Zlg {m : Nat} : ∀ {l : List (List AV)},Zoh m l = true -> ∀ {i : Nat} {e : List AV},l[i]? = some e -> Vx m e = true
 | [],_,i,e,hi => by simp at hi
 | a :: l,h,0,e,hi => by simp [Zoh] at h hi; subst hi; exact h.1
 | a :: l,h,i + 1,e,hi => by simp [Zoh] at h hi; exact Zlg h.2 hi
theorem Zlh {m : Nat} : ∀ {l : List AV},Vx m l = true -> ∀ {i : Nat} {e : AV},l[i]? = some e -> Vf m e = true
 | [],_,i,e,hi => by simp at hi
 | a :: l,h,0,e,hi => by simp [Vx] at h hi; subst hi; exact h.1
 | a :: l,h,i + 1,e,hi => by simp [Vx] at h hi; exact Zlh h.2 hi
def RenB (f : Nat -> Nat) (m : Nat) (b0 : ABlk) : ABlk -> Prop
 | .row es elems mt pu => match pu with
  | true => b0 = .row es elems mt true
  | false => ∃ elems0,b0 = .row es elems0 mt false /\ elems0 = Zdn f elems /\ Zoh m elems = true
 | .set keys => b0 = .set keys
 | .dead => True
 | .map _ => False
theorem BlkOK.ren {f : Nat -> Nat} {m j : Nat} {b0 b : ABlk} (h : BlkOK r I w D B (f j) b0) (hb : RenB f m b0 b) (hr : b.live = true -> r' j = r (f j)) (hf : ∀ j,j < m -> D (f j) -> D' j /\ r' j = r (f j)) : BlkOK r' I w D' B j b := by
 cases b with
 | dead => trivial
 | map l => exact hb.elim
 | set keys =>
  simp only [RenB] at hb
  subst hb
  have := hr rfl
  simp only [BlkOK] at h ⊢
  rw [this]; exact h
 | row es elems mt pu =>
  have e := hr rfl
  cases pu with
  | true =>
   simp only [RenB] at hb
   subst hb
   simp only [BlkOK] at h ⊢
   rw [e]
   obtain ⟨h1,h2,h3,cs,T,fz,h4,h5,h6,h7,h8⟩ := h
   refine ⟨h1,h2,h3,cs,T,fz,h4,h5,fun i e j c hi hj => ?_,h7,h8⟩
   obtain ⟨v,g1,g2⟩ := h6 i e j c hi hj
   exact ⟨v,g1,(g2.mono ⟨fun _ h => by simp at h,fun _ _ h => ⟨h,rfl⟩,Nat.le_refl _⟩ : VR r0 I w (fun _ => False) c v).mono ⟨fun _ h => h.elim,fun _ _ h => ⟨h,rfl⟩,Nat.le_refl _⟩⟩
  | false =>
   obtain ⟨elems0,rfl,rfl,hids⟩ := hb
   simp only [BlkOK] at h ⊢
   rw [e]
   obtain ⟨h1,h2,h3,cs,T,fz,h4,h5,h6,h7,h8⟩ := h
   rw [Zez] at h1 h2
   refine ⟨h1,h2,fun i e hi => ?_,cs,T,fz,h4,h5,fun i e j c hi hj => ?_,h7,fun hm i e j c hi hj => ?_⟩
   ·have := h3 i (renL f e) (by rw [Zci,hi]; rfl)
    rwa [Zz] at this
   ·obtain ⟨v,g1,g2⟩ := h6 i (renL f e) j (Zi f c) (by rw [Zci,hi]; rfl) (by rw [Zcj,hj]; rfl)
    refine ⟨v,g1,VR.reren (D := fun x => True /\ D x) (fun j' hj' hd => ?_) c g2 (Zlh (Zlg hids hi) hj)⟩
    obtain ⟨q1,q2⟩ := hf j' hj' hd.2
    exact ⟨⟨trivial,q1⟩,q2⟩
   ·exact h8 hm i (renL f e) j (Zi f c) (by rw [Zci,hi]; rfl) (by rw [Zcj,hj]; rfl)
structure Ren (n0 : Nat) (env : Env) (σ : St) (env' : Env) (σ' : St) : Prop where
 ex : ∃ f : Nat -> Nat,(∀ j,j < n0 -> f j = j) /\ (∀ i,env'.get i = .any \/ (env.get i = Zi f (env'.get i) /\ Vf σ'.next (env'.get i) = true)) /\
  (∀ j,(σ'.get j).live = true -> j < σ'.next /\ (σ.get (f j)).live = true) /\ (∀ j,RenB f σ'.next (σ.get (f j)) (σ'.get j)) /\ (∀ j j',(σ'.get j).live = true -> (σ'.get j').live = true -> f j = f j' -> j = j') /\ n0 <= σ'.next
theorem HR.rename {n0 : Nat} {env env' : Env} {σ σ' : St} (H : HR B w0 I0 pr r I D σ.get σ.next w) (hr : Ren n0 env σ env' σ') :
  ∃ r' D',HR B w0 I0 pr r' I D' σ'.get σ'.next w /\ (∀ id,id < n0 -> D id -> D' id /\ r' id = r id) /\ ∀ tmps,ER r I w D N env tmps -> ER r' I w D' N env' tmps := by
 obtain ⟨f,f1,f2,f3,f4,f5,f6⟩ := hr.ex
 have hf : ∀ j,j < σ'.next -> D (f j) -> (j < σ'.next /\ D (f j)) /\ (fun j => r (f j)) j = r (f j) := fun j h1 h2 => ⟨⟨h1,h2⟩,rfl⟩
 refine ⟨fun j => r (f j),fun j => j < σ'.next /\ D (f j),⟨H.below,H.base,H.imm,fun id hd => ⟨hd.1,(H.dom _ hd.2).2⟩,fun id hl => ⟨(f3 id hl).1,H.live _ (f3 id hl).2⟩,fun id => ?_,fun id id' h1 h2 hne => ?_,H.prot,fun b o hb => ⟨fun id hl => (H.protK b o hb).1 _ (f3 id hl).2,(H.protK b o hb).2⟩,H.immB⟩,fun id h1 h2 => ?_,fun tmps hE => ⟨hE.1,fun i => ?_⟩⟩
 ·exact BlkOK.ren (H.blk (f id)) (f4 id) (fun _ => rfl) hf
 ·exact H.inj _ _ (f3 id h1).2 (f3 id' h2).2 (fun e => hne (f5 id id' h1 h2 e))
 ·have := f1 id h1
  exact ⟨⟨by omega,by rw [this]; exact h2⟩,by show r (f id) = r id; rw [this]⟩
 ·rcases f2 i with e | ⟨e1,e2⟩
  ·rw [e]; exact .any _ _
  ·have := hE.2 i
   rw [e1] at this
   exact VR.reren hf _ this e2
theorem Step.rename {n0 : Nat} {r1 r2 r3 : Locs} {D1 D2 D3 : Nat -> Prop} {I1 I2 : Imm} {w1 w2 : World} (h : Step r1 D1 I1 w1 r2 D2 I2 w2) (hd : ∀ id,D1 id -> id < n0) (h3 : ∀ id,id < n0 -> D2 id -> D3 id /\ r3 id = r2 id) : Step r1 D1 I1 w1 r3 D3 I2 w2 :=
 ⟨fun id h' => by
  obtain ⟨a,b⟩ := h.ids id h'
  obtain ⟨c,d⟩ := h3 id (hd id h') a
  exact ⟨c,d.trans b⟩,h.imm,h.size⟩
def fOf : List (Nat × Nat) -> Nat -> Nat
 | [],j => j
 | (a,b) :: l,j => cond (Nat.beq j a) b (fOf l j)
def RenE (f : Nat -> Nat) (m : Nat) (env : Env) : Env -> Prop
 | [] => True
 | (i,v) :: l => (env.get i = Zi f v /\ Vf m v = true) /\ RenE f m env l
def RenH (f : Nat -> Nat) (m : Nat) (h : Nat -> ABlk) : List (Nat × ABlk) -> Prop
 | [] => True
 | (j,b) :: l => (Nat.blt j m = true /\ (h (f j)).live = true /\ RenB f m (h (f j)) b) /\ RenH f m h l
theorem Zsl : ∀ (l : List (Nat × ABlk)) (j : Nat),(hget l j).live = true -> (j,hget l j) ∈ l
 | [],j,h => by simp [hget,ABlk.live] at h
 | (a,b) :: l,j,h => by
  simp only [hget] at h ⊢
  cases hb : Nat.beq j a with
  | true => rw [Nat.eq_of_beq_eq_true hb]; simp
  | false => rw [hb] at h; simp only [cond_false] at h ⊢; exact List.mem_cons_of_mem _ (Zsl l j h)
theorem RenH.mem {f : Nat -> Nat} {m : Nat} {h : Nat -> ABlk} : ∀ {l : List (Nat × ABlk)},RenH f m h l -> ∀ {j : Nat} {b : ABlk},(j,b) ∈ l -> Nat.blt j m = true /\ (h (f j)).live = true /\ RenB f m (h (f j)) b
 | [],_,j,b,hm => by simp at hm
 | (a,b0) :: l,hl,j,b,hm => by
  rcases List.mem_cons.1 hm with e | hm
  ·cases e; exact hl.1
  ·exact hl.2.mem hm
theorem RenE.get {f : Nat -> Nat} {m : Nat} {env : Env} : ∀ {l : Env},RenE f m env l -> ∀ i,l.get i = .any \/ (env.get i = Zi f (l.get i) /\ Vf m (l.get i) = true)
 | [],_,i => .inl rfl
 | (a,v) :: l,h,i => by
  rw [Env.get_cons]
  by_cases e : i = a
  ·subst e; rw [if_pos rfl]; exact .inr h.1
  ·rw [if_neg e]; exact h.2.get i
def okF (n0 : Nat) : List (Nat × Nat) -> Bool
 | [] => true
 | (a,b) :: l => Nat.ble n0 a && l.all (fun p => !Nat.beq p.1 a) && l.all (fun p => !Nat.beq p.2 b) && okF n0 l
def Zkk (n0 : Nat) (fl : List (Nat × Nat)) : List (Nat × ABlk) -> Bool
 | [] => true
 | (j,_) :: l => (Nat.blt j n0 || fl.any (fun p => Nat.beq p.1 j)) && Zkk n0 fl l
def imgF (n0 : Nat) (fl : List (Nat × Nat)) : Bool := fl.all fun p => Nat.ble n0 p.2
theorem Zhh {n0 : Nat} : ∀ {fl : List (Nat × Nat)},okF n0 fl = true -> ∀ j,j < n0 -> fOf fl j = j
 | [],_,j,_ => rfl
 | (a,b) :: l,h,j,hj => by
  simp only [okF,Bool.and_eq_true] at h
  have ha := Nat.le_of_ble_eq_true h.1.1.1
  have : Nat.beq j a = false := by rw [Bool.eq_false_iff]; intro e; have := Nat.eq_of_beq_eq_true e; omega
  simp only [fOf,this,cond_false]
  exact Zhh h.2 j hj
theorem Zju {n0 : Nat} : ∀ {fl : List (Nat × Nat)} {a b : Nat},okF n0 fl = true -> (a,b) ∈ fl -> fOf fl a = b
 | (a,b) :: l,x,y,h,hm => by
  simp only [okF,Bool.and_eq_true] at h
  rcases List.mem_cons.1 hm with e | hm
  ·cases e; simp [fOf]
  ·have := List.all_eq_true.1 h.1.1.2 (x,y) hm
   simp only [Bool.not_eq_true'] at this
   simp only [fOf,this,cond_false]
   exact Zju h.2 hm
theorem Zwh {n0 : Nat} : ∀ {fl : List (Nat × Nat)} {a b a' : Nat},okF n0 fl = true -> (a,b) ∈ fl -> (a',b) ∈ fl -> a = a'
 | (x,y) :: l,a,b,a',h,h1,h2 => by
  simp only [okF,Bool.and_eq_true] at h
  rcases List.mem_cons.1 h1 with e | h1 <;> rcases List.mem_cons.1 h2 with e' | h2
  ·cases e; cases e'; rfl
  ·cases e; have := List.all_eq_true.1 h.1.2 _ h2; simp at this
  ·cases e'; have := List.all_eq_true.1 h.1.2 _ h1; simp at this
  ·exact Zwh h.2 h1 h2
theorem Zjm {n0 : Nat} {fl : List (Nat × Nat)} : ∀ {l : List (Nat × ABlk)},Zkk n0 fl l = true -> ∀ {j : Nat} {b : ABlk},(j,b) ∈ l -> j < n0 \/ ∃ y,(j,y) ∈ fl
 | (a,_) :: l,h,j,b,hm => by
  simp only [Zkk,Bool.and_eq_true,Bool.or_eq_true,Nat.blt_eq] at h
  rcases List.mem_cons.1 hm with e | hm
  ·cases e
   rcases h.1 with h1 | h1
   ·exact .inl h1
   ·obtain ⟨p,hp,hpe⟩ := List.any_eq_true.1 h1
    have := Nat.eq_of_beq_eq_true hpe
    exact .inr ⟨p.2,by rw [<-this]; exact hp⟩
  ·exact Zjm h.2 hm
theorem Ren.of {n0 : Nat} {env env' : Env} {σ : St} {heap' : List (Nat × ABlk)} {n1 : Nat} (fl : List (Nat × Nat)) (h1 : (okF n0 fl && Zkk n0 fl heap' && imgF n0 fl && Nat.ble n0 n1) = true) (h2 : RenE (fOf fl) n1 env env') (h3 : RenH (fOf fl) n1 σ.get heap') : Ren n0 env σ env' ⟨heap',n1⟩ := by
 simp only [Bool.and_eq_true] at h1
 obtain ⟨⟨⟨o1,o2⟩,o3⟩,o4⟩ := h1
 have live : ∀ j,(St.get ⟨heap',n1⟩ j).live = true -> (j,hget heap' j) ∈ heap' := fun j hl => Zsl heap' j hl
 refine ⟨fOf fl,Zhh o1,h2.get,fun j hl => ?_,fun j => ?_,fun j j' hl hl' e => ?_,Nat.le_of_ble_eq_true o4⟩
 ·have := h3.mem (live j hl)
  exact ⟨by simpa [Nat.blt_eq] using this.1,this.2.1⟩
 ·by_cases hl : (St.get ⟨heap',n1⟩ j).live = true
  ·exact (h3.mem (live j hl)).2.2
  ·have : St.get ⟨heap',n1⟩ j = .dead := by cases hx : St.get ⟨heap',n1⟩ j <;> simp_all [ABlk.live]
   rw [this]; trivial
 ·have img : ∀ {a b : Nat},(a,b) ∈ fl -> n0 <= b := fun hm => Nat.le_of_ble_eq_true (List.all_eq_true.1 o3 _ hm)
  rcases Zjm o2 (live j hl) with k1 | ⟨y,k1⟩ <;> rcases Zjm o2 (live j' hl') with k2 | ⟨y',k2⟩
  ·rwa [Zhh o1 j k1,Zhh o1 j' k2] at e
  ·rw [Zhh o1 j k1,Zju o1 k2] at e; have := img k2; omega
  ·rw [Zju o1 k1,Zhh o1 j' k2] at e; have := img k1; omega
  ·rw [Zju o1 k1,Zju o1 k2] at e; subst e; exact Zwh o1 k1 k2
variable {r r' : Locs} {D D' : Nat -> Prop} {I I' : Imm} {w w' w0 : World} {I0 : Imm} {B n n' k N : Nat} {pr pr' pr2 : Nat -> Obj -> Prop} {h : Nat -> ABlk} {P : Program}
structure Chg (O : Nat -> Prop) (w w' : World) : Prop where
 os : w'.os = w.os
 tape : w'.tape = w.tape
 output : w'.output = w.output
 size : w.heap.size <= w'.heap.size
 block : ∀ b,¬ O b -> b < w.heap.size -> w'.heap[b]? = w.heap[b]?
theorem HR.chg (H : HR B w0 I0 pr r I D h n w) {O : Nat -> Prop} (hO : ∀ b,O b -> ∃ o,pr b o) (hc : Chg O w w') (hp2 : ∀ b o,pr2 b o -> (pr b o /\ ¬ O b) \/ ((O b \/ w.heap.size <= b) /\ w'.heap[b]? = some o)) :
  HR B w0 I0 pr2 r I D h n w' /\ Step r D I w r D I w' := by
 have hst : Step r D I w r D I w' := ⟨fun id hd => ⟨hd,rfl⟩,fun b o hi => ⟨hi,World.cell?_of_block (hc.block b (fun hb => by
  obtain ⟨o',ho⟩ := hO b hb
  exact (H.protK b o' ho).2 o hi) (H.imm b o hi))⟩,hc.size⟩
 have hB : ∀ b,O b -> B <= b := fun b hb => by obtain ⟨o',ho⟩ := hO b hb; exact (H.prot b o' ho).2
 refine ⟨⟨H.below.trans ⟨hc.os,hc.tape,hc.output,hc.size,fun b hb => hc.block b (fun ho => by have := hB b ho; omega) (by have := H.base; omega)⟩,Nat.le_trans H.base hc.size,fun b o hi => Nat.lt_of_lt_of_le (H.imm b o hi) hc.size,fun id hd => ⟨(H.dom id hd).1,Nat.lt_of_lt_of_le (H.dom id hd).2 hc.size⟩,H.live,fun id => ?_,H.inj,fun b o hp => ?_,fun b o hp => ?_,H.immB⟩,hst⟩
 ·by_cases hl : (h id).live = true
  ·refine (H.blk id).mono hst rfl (fun _ => hc.block _ (fun hb => ?_) (H.dom id (H.live id hl)).2) (fun _ _ _ _ _ hx => hx)
   obtain ⟨o',ho⟩ := hO _ hb
   exact (H.protK _ o' ho).1 id hl rfl
  ·have : h id = .dead := by cases hx : h id <;> simp_all [ABlk.live]
   rw [this]; trivial
 ·rcases hp2 b o hp with ⟨h1,h2⟩ | ⟨h1,h2⟩
  ·have := H.prot b o h1
   exact ⟨(hc.block b h2 (Array.getElem?_eq_some_iff.1 this.1).1).trans this.1,this.2⟩
  ·refine ⟨h2,?_⟩
   rcases h1 with h1 | h1
   ·exact hB b h1
   ·exact Nat.le_trans H.base h1
 ·rcases hp2 b o hp with ⟨h1,h2⟩ | ⟨h1 | h1,h2⟩
  ·exact H.protK b o h1
  ·obtain ⟨o',ho⟩ := hO b h1
   exact H.protK b o' ho
  ·exact ⟨fun id hl => by have := (H.dom id (H.live id hl)).2; omega,fun o' hi => by have := H.imm b o' hi; omega⟩
theorem Chg.putObj (w : World) (l : Nat) (o : Obj) : Chg (fun b => b = l) w (w.putObj l o) :=
 ⟨rfl,rfl,rfl,by simp [World.putObj],fun b hb _ => by
  show (w.heap.setIfInBounds l o)[b]? = _
  rw [Array.getElem?_setIfInBounds,if_neg (fun e => hb e.symm)]⟩
theorem Zck {l : Nat} {o o' : Obj} (h : w.heap[l]? = some o) : (w.putObj l o').heap[l]? = some o' := by
 show (w.heap.setIfInBounds l o')[l]? = _
 rw [Array.getElem?_setIfInBounds,if_pos rfl,if_pos (Array.getElem?_eq_some_iff.1 h).1]
theorem Chg.alloc (w : World) (o : Obj) : Chg (fun _ => False) w (w.alloc o) := ⟨rfl,rfl,rfl,by simp,fun b _ hb => Zr w o hb⟩
structure RoundsOK (P : Program) (W : World) (I : Imm) (l : Nat) (xs : List (List AV)) (J : Nat -> (Nat -> Prop) -> World -> Prop) (X : (Nat -> Prop) -> World -> Prop) : Prop where
 growX : ∀ O w w',X O w -> Chg O w w' -> X (fun b => O b \/ (w.heap.size <= b /\ b < w'.heap.size)) w'
 grow : ∀ i O w w',J i O w -> Chg O w w' -> J i (fun b => O b \/ (w.heap.size <= b /\ b < w'.heap.size)) w'
 fin : ∀ i O w,J i O w -> ∀ b,O b -> b < w.heap.size
 round : ∀ i x O w ys,xs[i]? = some x -> J i O w -> VRs r0 I w (fun _ => False) x ys ->
  YieldAt Fence.wide 0 P l ys w fun e w' => ∃ b,e = .returned (.bool b) /\ (∀ q,O q -> w'.heap[q]? = w.heap[q]?) /\ (∀ q o,I q o -> w'.cell? ⟨q,o,none⟩ = w.cell? ⟨q,o,none⟩) /\ w.heap.size <= w'.heap.size /\ (b = true -> J (i + 1) O w') /\ (b = false -> X O w')
def ItOK (P : Program) (g : FuncId) (c0 c1 : List AV) (xs : List (List AV)) : Prop :=
 FnOK P g /\ ∀ (I : Imm) (W : World) (v0 v1 : Array Value) (l : Nat) (J : Nat -> (Nat -> Prop) -> World -> Prop) (X : (Nat -> Prop) -> World -> Prop),(∀ b o,I b o -> b < W.heap.size) -> VRs r0 I W (fun _ => False) c0 v0 -> VRs r0 I W (fun _ => False) c1 v1 ->
  RoundsOK P W I l xs J X -> J 0 (fun _ => False) W -> CallsIn Fence.wide 0 P g ((v0 ++ #[.func (.yield l) #[] #[]]) ++ v1) W fun e w' => ∃ v,e = .returned v /\ ((∃ O,J xs.length O w') \/ ∃ O,X O w')
def Zdq : List Tmp -> List AV -> Env -> Env
 | p :: ps,x :: xs,env => Zdq ps xs ((p,x) :: env)
 | _,_,env => env
def Vh (N : Nat) : List Tmp -> Bool
 | [] => true
 | p :: ps => Nat.blt p N && Vh N ps
def Zh5 (P : Program) (N n0 : Nat) (ps : List Tmp) (assign body : Code) (env : Env) (Q : Exit -> Env -> St -> Prop) : List (List AV) -> St -> Prop
 | [],σ => Q .normal env σ
 | x :: xs,σ => x.length = ps.length /\ Awp P N assign (Zdq ps x env) σ fun e env1 σ1 => e = .normal /\ Awp P N body env1 σ1 fun e _ σ2 => match e with
  | .normal => ∃ σ3,(σ3 = σ2 \/ Ren n0 [] σ2 [] σ3) /\ Zh5 P N n0 ps assign body env Q xs σ3
  | .ret => Q .ret env σ2
  | .exit id => Q (.exit id) env σ2
  | _ => False
theorem Zi6 {env : Env} : ∀ {ps : List Tmp} {x : List AV} {ys : List Value} {env : Env} {tmps : Array Value},Vh N ps = true -> x.length = ps.length -> VRs r I w D x ys.toArray -> ER r I w D N env tmps ->
  ER r I w D N (Zdq ps x env) ((ps.zip ys).foldl (fun t (p,v) => t.setIfInBounds p v) tmps)
 | [],[],ys,env,tmps,_,_,_,E => by simpa [Zdq] using E
 | [],_ :: _,ys,env,tmps,_,hl,_,E => by simp at hl
 | _ :: _,[],ys,env,tmps,_,hl,_,E => by simp at hl
 | p :: ps,a :: x,[],env,tmps,_,hl,hv,E => by have := hv.1; simp at this
 | p :: ps,a :: x,y :: ys,env,tmps,hb,hl,hv,E => by
  simp only [Vh,Bool.and_eq_true,Nat.blt_eq] at hb
  simp only [Zdq,List.zip_cons_cons,List.foldl_cons]
  exact Zi6 (env := env) hb.2 (by simpa using hl) ⟨by simpa using hv.1,fun i c v hc hv' => hv.2 (i + 1) c v (by simpa using hc) (by simpa using hv')⟩ (E.put hb.1 (hv.2 0 a y rfl rfl))
variable {n0 : Nat} {r r' : Locs} {D D' : Nat -> Prop} {I I' : Imm} {w w' w0 : World} {I0 : Imm} {B n n' k N : Nat} {pr pr' pr2 : Nat -> Obj -> Prop} {h : Nat -> ABlk} {P : Program}
def prI (pr : Nat -> Obj -> Prop) (l : Nat) (rec : Loop) (O : Nat -> Prop) (w : World) : Nat -> Obj -> Prop := fun b o => pr b o \/ (b = l /\ o = .loop rec) \/ (O b /\ w.heap[b]? = some o)
def recS (rec : Loop) (s : LoopState) (c : Option Code) : Loop := { rec with state := s,pending := c }
structure Betw (P : Program) (N n0 : Nat) (B : Nat) (w0 : World) (I0 : Imm) (pr : Nat -> Obj -> Prop) (l : Nat) (rec : Loop) (r : Locs) (I : Imm) (D : Nat -> Prop) (w1 : World) (ps : List Tmp) (assign body : Code) (env : Env) (Q : Exit -> Env -> St -> Prop) (rest : List (List AV)) (O : Nat -> Prop) (W : World) : Prop where
 ex : ∃ σ r' I' D',HR B w0 I0 (prI pr l (recS rec .ready none) O W) r' I' D' σ.get σ.next W /\ Step r D I w1 r' D' I' W /\ Zh5 P N n0 ps assign body env Q rest σ
 own : ∀ b,O b -> w1.heap.size <= b /\ b < W.heap.size
 low : ∀ b o,pr b o -> b < w1.heap.size /\ b ≠ l
 lt : l < w1.heap.size
 dlt : ∀ id,D id -> id < n0
def Left (B : Nat) (w0 : World) (I0 : Imm) (pr : Nat -> Obj -> Prop) (l : Nat) (rec : Loop) (r : Locs) (I : Imm) (D : Nat -> Prop) (w1 : World) (env : Env) (Q : Exit -> Env -> St -> Prop) (O : Nat -> Prop) (W : World) : Prop :=
 (∀ b,O b -> w1.heap.size <= b /\ b < W.heap.size) /\ (∀ b o,pr b o -> b < w1.heap.size /\ b ≠ l) /\ l < w1.heap.size /\ ∃ c e σ r' I' D',((c = .ret /\ e = .ret) \/ (∃ id,c = .exit id /\ e = .exit id)) /\ HR B w0 I0 (prI pr l (recS rec .done (some c)) O W) r' I' D' σ.get σ.next W /\ Step r D I w1 r' D' I' W /\ Q e env σ
theorem Betw.grow {l : Nat} {rec : Loop} {w1 : World} {ps : List Tmp} {assign body : Code} {env : Env} {Q : Exit -> Env -> St -> Prop} {rest : List (List AV)} {O : Nat -> Prop} (b : Betw P N n0 B w0 I0 pr l rec r I D w1 ps assign body env Q rest O w) (hc : Chg O w w') :
  Betw P N n0 B w0 I0 pr l rec r I D w1 ps assign body env Q rest (fun b => O b \/ (w.heap.size <= b /\ b < w'.heap.size)) w' := by
 obtain ⟨⟨σ,r',I',D',H,S,hr⟩,hown,hlow,hrec,hdlt⟩ := b
 have hsz : w1.heap.size <= w.heap.size := S.size
 obtain ⟨H',S'⟩ := H.chg (pr2 := prI pr l (recS rec .ready none) (fun b => O b \/ (w.heap.size <= b /\ b < w'.heap.size)) w') (O := O) (fun b hb => by
   have hlt := (hown b hb).2
   exact ⟨w.heap[b],.inr (.inr ⟨hb,by simp [hlt]⟩)⟩) hc (fun b o hp => by
   rcases hp with h | ⟨rfl,rfl⟩ | ⟨h | h,h2⟩
   ·refine .inl ⟨.inl h,fun hb => ?_⟩
    have := hlow b o h; have := hown b hb; omega
   ·refine .inl ⟨.inr (.inl ⟨rfl,rfl⟩),fun hb => ?_⟩
    have := hown b hb; omega
   ·exact .inr ⟨.inl h,h2⟩
   ·exact .inr ⟨.inr h.1,h2⟩)
 refine ⟨⟨σ,r',I',D',H',S.trans S',hr⟩,fun b hb => ?_,hlow,hrec,hdlt⟩
 rcases hb with hb | hb
 ·have := hown b hb; have := hc.size; omega
 ·omega
theorem Left.grow {l : Nat} {rec : Loop} {w1 : World} {env : Env} {Q : Exit -> Env -> St -> Prop} {O : Nat -> Prop} (b : Left B w0 I0 pr l rec r I D w1 env Q O w) (hc : Chg O w w') :
  Left B w0 I0 pr l rec r I D w1 env Q (fun b => O b \/ (w.heap.size <= b /\ b < w'.heap.size)) w' := by
 obtain ⟨hown,hlow,hrec,c,e,σ,r',I',D',hce,H,S,hr⟩ := b
 have hsz : w1.heap.size <= w.heap.size := S.size
 obtain ⟨H',S'⟩ := H.chg (pr2 := prI pr l (recS rec .done (some c)) (fun b => O b \/ (w.heap.size <= b /\ b < w'.heap.size)) w') (O := O) (fun b hb => by
   have hlt := (hown b hb).2
   exact ⟨w.heap[b],.inr (.inr ⟨hb,by simp [hlt]⟩)⟩) hc (fun b o hp => by
   rcases hp with h | ⟨rfl,rfl⟩ | ⟨h | h,h2⟩
   ·refine .inl ⟨.inl h,fun hb => ?_⟩
    have := hlow b o h; have := hown b hb; omega
   ·refine .inl ⟨.inr (.inl ⟨rfl,rfl⟩),fun hb => ?_⟩
    have := hown b hb; omega
   ·exact .inr ⟨.inl h,h2⟩
   ·exact .inr ⟨.inr h.1,h2⟩)
 refine ⟨fun b hb => ?_,hlow,hrec,c,e,σ,r',I',D',hce,H',S.trans S',hr⟩
 rcases hb with hb | hb
 ·have := hown b hb; have := hc.size; omega
 ·omega
theorem FOK.round (l : Nat) : FOK (Fence.wide.inRound l) := .inr ⟨l,rfl⟩
set_option maxHeartbeats 1000000 in
theorem Betw.round {l Db : Nat} {rec : Loop} {w1 : World} {ps : List Tmp} {assign body : Code} {env : Env} {tmps : Array Value} {Q : Exit -> Env -> St -> Prop} {x : List AV} {rest : List (List AV)} {O : Nat -> Prop} {ys : Array Value}
  (b : Betw P N n0 B w0 I0 pr l rec r I D w1 ps assign body env Q (x :: rest) O w) (hps : Vh N ps = true) (hrp : rec.params.toList = ps) (hrt : rec.tmps = tmps) (hra : rec.assign = assign) (hrb : rec.body = body) (hrd : rec.defers = Db) (hdb : pr Db (.deferred (some [])))
  (hE : ER r I w1 D N env tmps) (hI1 : ∀ q o,I0 q o -> I0 q o) (hv : VRs r0 I w (fun _ => False) x ys) :
  YieldAt Fence.wide 0 P l ys w fun e w' => ∃ b,e = .returned (.bool b) /\ (∀ q,O q -> w'.heap[q]? = w.heap[q]?) /\ (∀ q o,I q o -> w'.cell? ⟨q,o,none⟩ = w.cell? ⟨q,o,none⟩) /\ w.heap.size <= w'.heap.size /\
   (b = true -> Betw P N n0 B w0 I0 pr l rec r I D w1 ps assign body env Q rest O w') /\ (b = false -> Left B w0 I0 pr l rec r I D w1 env Q O w') := by
 obtain ⟨⟨σ,r',I',D',H,S,hlen,hass⟩,hown,hlow,hrec,hdlt⟩ := b
 have hl : w.heap[l]? = some (.loop (recS rec .ready none)) := (H.prot l _ (.inr (.inl ⟨rfl,rfl⟩))).1
 have hys : ys.size = rec.params.size := by
  have : rec.params.size = ps.length := by rw [<-hrp]; simp
  rw [hv.1,hlen,this]
 have hy := run_yield (P := P) (args := ys) hl (by simpa [recS] using hys)
 refine ⟨_,_,_,_,hy,roundIn_of_wpIn trivial ?_⟩
 have hvx : VRs r' I' w D' x ys := ⟨hv.1,fun i c v hc hv' => ((hv.2 i c v hc hv').mono ⟨fun _ h => h.elim,fun q o hi => ⟨(S.imm q o hi).1,rfl⟩,Nat.le_refl _⟩ : VR r0 I' w (fun _ => False) c v).mono ⟨fun _ h => h.elim,fun q o hi => ⟨hi,rfl⟩,Nat.le_refl _⟩⟩
 have hE1 : ER r' I' w D' N (Zdq ps x env) (((recS rec .ready none).params.zip ys).foldl (fun t (p,v) => t.setIfInBounds p v) (recS rec .ready none).tmps) := by
  have := Zi6 (env := env) (ps := ps) (x := x) (ys := ys.toList) hps hlen (by simpa using hvx) (hE.mono S)
  subst hrp
  rw [<-hrt] at this
  rw [<-Array.foldl_toList,Array.toList_zip]
  exact this
 have hRd1 : RdOK (Fence.wide.inRound l) (prI pr l (recS rec .ready none) O w) := by
  intro l' hl'
  cases hl'
  exact ⟨_,.inr (.inl ⟨rfl,rfl⟩),.inl (by simpa [recS,hrd] using hdb)⟩
 have h1 := hass (Fence.wide.inRound l) B w0 I0 (prI pr l (recS rec .ready none) O w) r' I' D' { tmps := ((recS rec .ready none).params.zip ys).foldl (fun t (p,v) => t.setIfInBounds p v) (recS rec .ready none).tmps,defers := [] } w (FOK.round l) hRd1 ⟨H,hE1⟩
 have ha : (recS rec .ready none).assign = assign := hra
 have hb : (recS rec .ready none).body = body := hrb
 rw [ha,hb]
 refine Code.wpIn_mono (fun e a1 W1 hp => ?_) h1
 obtain ⟨pr1,ms1,env1,σ1,r1,I1,D1,p1,m1,n1,d1,⟨rfl,hbody⟩,s1,t1,z1⟩ := hp
 have hl1 : W1.heap[l]? = some (.loop (recS rec .ready none)) := (s1.hr.prot l _ (p1 _ _ (.inr (.inl ⟨rfl,rfl⟩)))).1
 refine ⟨_,run_beginRound hl1 rfl,?_⟩
 have hbusy : ({ recS rec .ready none with state := .busy } : Loop) = recS rec .busy none := rfl
 rw [hbusy]
 obtain ⟨H2,S2⟩ := s1.hr.chg (w' := W1.putObj l (.loop (recS rec .busy none))) (O := fun b => b = l) (pr2 := fun b o => (pr1 b o /\ b ≠ l) \/ (b = l /\ o = .loop (recS rec .busy none))) (fun b hb => ⟨_,hb ▸ p1 _ _ (.inr (.inl ⟨rfl,rfl⟩))⟩) (Chg.putObj _ _ _) (fun b o hp => by
  rcases hp with h | ⟨rfl,rfl⟩
  ·exact .inl h
  ·exact .inr ⟨.inl rfl,Zck hl1⟩)
 have hRd2 : RdOK (Fence.wide.inRound l) (fun b o => (pr1 b o /\ b ≠ l) \/ (b = l /\ o = .loop (recS rec .busy none))) := by
  intro l' hl'
  cases hl'
  refine ⟨_,.inr ⟨rfl,rfl⟩,.inl ⟨p1 _ _ (.inl (by simpa [recS,hrd] using hdb)),?_⟩⟩
  have := (hlow _ _ hdb).2
  simpa [recS,hrd] using this
 have h2 := hbody (Fence.wide.inRound l) B w0 I0 _ r1 I1 D1 a1 (W1.putObj l (.loop (recS rec .busy none))) (FOK.round l) hRd2 ⟨H2,s1.er.mono S2⟩
 refine Code.wpIn_mono (fun e a3 W3 hp => ?_) h2
 obtain ⟨pr3,ms3,env3,σ3,r3,I3,D3,p3,m3,n3,d3,q3,s3,t3,z3⟩ := hp
 have hl3 : W3.heap[l]? = some (.loop (recS rec .busy none)) := (s3.hr.prot l _ (p3 _ _ (.inr ⟨rfl,rfl⟩))).1
 have hOl : ∀ q,O q -> q ≠ l := fun q hq e => by have := (hown q hq).1; omega
 have hOw : ∀ q,O q -> W3.heap[q]? = w.heap[q]? := by
  intro q hq
  have hlt := (hown q hq).2
  have e1 : w.heap[q]? = some w.heap[q] := by simp [hlt]
  have := (s3.hr.prot q _ (p3 _ _ (.inl ⟨p1 _ _ (.inr (.inr ⟨hq,e1⟩)),hOl q hq⟩))).1
  rw [this,e1]
 have hS3 : Step r' D' I' w r3 D3 I3 W3 := (t1.trans S2).trans t3
 have fin : ∀ (jump : Option Code) (st : LoopState),st = (if jump.isNone then .ready else .done) -> ∀ Ox : Nat -> Prop,(∀ q,Ox q -> O q) ->
   HR B w0 I0 (prI pr l (recS rec st jump) Ox (W3.putObj l (.loop (recS rec st jump)))) r3 I3 D3 σ3.get σ3.next (W3.putObj l (.loop (recS rec st jump))) /\ Step r3 D3 I3 W3 r3 D3 I3 (W3.putObj l (.loop (recS rec st jump))) := by
  intro jump st hst Ox hOx
  refine s3.hr.chg (O := fun b => b = l) (fun b hb => ⟨_,hb ▸ p3 _ _ (.inr ⟨rfl,rfl⟩)⟩) (Chg.putObj _ _ _) (fun b o hp => ?_)
  rcases hp with h | ⟨rfl,rfl⟩ | ⟨h,h2⟩
  ·have hbl := (hlow b o h).2
   exact .inl ⟨p3 _ _ (.inl ⟨p1 _ _ (.inl h),hbl⟩),hbl⟩
  ·exact .inr ⟨.inl rfl,Zck hl3⟩
  ·have hbl := hOl b (hOx b h)
   have e1 := (Chg.putObj W3 l (.loop (recS rec st jump))).block b hbl (by have := (hown b (hOx b h)).2; have := hS3.size; omega)
   rw [e1,hOw b (hOx b h)] at h2
   exact .inl ⟨p3 _ _ (.inl ⟨p1 _ _ (.inr (.inr ⟨hOx b h,h2⟩)),hbl⟩),hbl⟩
 have done : ∀ (jump : Option Code) (st : LoopState),st = (if jump.isNone then .ready else .done) -> ((Instr.endRound l jump).run P W3 = .ok (.bool jump.isNone) (W3.putObj l (.loop (recS rec st jump)))) := by
  intro jump st hst
  have := run_endRound (P := P) jump hl3
  rw [this,hst]
  rfl
 have keep : ∀ (jump : Option Code) (st : LoopState),(∀ q,O q -> (W3.putObj l (.loop (recS rec st jump))).heap[q]? = w.heap[q]?) /\ (∀ q o,I q o -> (W3.putObj l (.loop (recS rec st jump))).cell? ⟨q,o,none⟩ = w.cell? ⟨q,o,none⟩) /\ w.heap.size <= (W3.putObj l (.loop (recS rec st jump))).heap.size := by
  intro jump st
  have hsz : (W3.putObj l (.loop (recS rec st jump))).heap.size = W3.heap.size := by simp [World.putObj]
  refine ⟨fun q hq => ?_,fun q o hi => ?_,?_⟩
  ·rw [(Chg.putObj W3 l (.loop (recS rec st jump))).block q (hOl q hq) (by have := (hown q hq).2; have := hS3.size; omega),hOw q hq]
  ·have h1 := (S.imm q o hi).1
   have hx2 := hS3.imm q o h1
   have hne : q ≠ l := fun e => by
    subst e
    exact (s3.hr.protK q _ (p3 _ _ (.inr ⟨rfl,rfl⟩))).2 o hx2.1
   rw [World.cell?_of_block ((Chg.putObj W3 l (.loop (recS rec st jump))).block q hne (s3.hr.imm q o hx2.1))]
   exact hx2.2
  ·rw [hsz]; exact hS3.size
 have hown' : ∀ (jump : Option Code) (st : LoopState),∀ q,O q -> w1.heap.size <= q /\ q < (W3.putObj l (.loop (recS rec st jump))).heap.size := by
  intro jump st q hq
  have := hown q hq
  have := (keep jump st).2.2
  omega
 have stop : ∀ (c : Code) (e : Exit),((c = .ret /\ e = .ret) \/ (∃ id,c = .exit id /\ e = .exit id)) -> Q e env σ3 ->
   ∃ v w',(Instr.endRound l (some c)).run P W3 = .ok v w' /\ ∃ b,Ending.returned v = .returned (.bool b) /\ (∀ q,O q -> w'.heap[q]? = w.heap[q]?) /\ (∀ q o,I q o -> w'.cell? ⟨q,o,none⟩ = w.cell? ⟨q,o,none⟩) /\ w.heap.size <= w'.heap.size /\
    (b = true -> Betw P N n0 B w0 I0 pr l rec r I D w1 ps assign body env Q rest O w') /\ (b = false -> Left B w0 I0 pr l rec r I D w1 env Q O w') := by
  intro c e hce hq
  obtain ⟨H4,S4⟩ := fin (some c) .done rfl O (fun _ h => h)
  exact ⟨_,_,done (some c) .done rfl,false,rfl,(keep _ _).1,(keep _ _).2.1,(keep _ _).2.2,(fun h => by cases h),fun _ => ⟨hown' _ _,hlow,hrec,c,e,σ3,r3,I3,D3,hce,H4,S.trans (hS3.trans S4),hq⟩⟩
 cases e with
 | normal =>
  obtain ⟨H4,S4⟩ := fin none .ready rfl O (fun _ h => h)
  refine ⟨_,_,done none .ready rfl,true,rfl,(keep _ _).1,(keep _ _).2.1,(keep _ _).2.2,fun _ => ?_,(fun h => by cases h)⟩
  obtain ⟨σ5,h5,q5⟩ := q3
  rcases h5 with rfl | h5
  ·exact ⟨⟨σ5,r3,I3,D3,H4,S.trans (hS3.trans S4),q5⟩,hown' _ _,hlow,hrec,hdlt⟩
  ·obtain ⟨r5,D5,H5,k5,_⟩ := H4.rename (N := 0) h5
   exact ⟨⟨σ5,r5,I3,D5,H5,(S.trans (hS3.trans S4)).rename hdlt k5,q5⟩,hown' _ _,hlow,hrec,hdlt⟩
 | ret => exact stop .ret .ret (.inl ⟨rfl,rfl⟩) q3
 | exit id => exact stop (.exit id) (.exit id) (.inr ⟨id,rfl,rfl⟩) q3
 | goto t => exact q3.elim
 | panic ch => exact q3.elim
 | outgrown => exact q3.elim
end Go.Sx
