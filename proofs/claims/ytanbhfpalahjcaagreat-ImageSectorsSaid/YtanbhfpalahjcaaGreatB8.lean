/- A part of the proof: lemmas. -/
import Derived.Test.YtanbhfpalahjcaaGreatB6
import Derived.Calls
import Derived.CallsIn
import Derived.Lib.QuietBelow
import Derived.RunT
import Derived.Shelf.SlSortCmp.InsertionK
import GoSem.Step
set_option linter.unusedVariables false
set_option linter.unusedSimpArgs false
set_option maxRecDepth 100000
set_option maxHeartbeats 16000000
open Array renaming eq_empty_of_size_eq_zero->Ko,getElem?_eq_getElem->Wi,getElem?_eq_some_iff->Qr,getElem?_modify->Gp
open Go renaming look->Qcb
open Go.Instr renaming endRound->Ka,takeDeferred->Lh
open Go.Kernel renaming perform->Qbe
open Go.Sem renaming run->Hy
open Go.Sort renaming grow->Qaa
open Go.Sx.St renaming get_set->Jk
open List renaming getElem?_eq_some_iff->Qi,getElem_mem->Qo,length_map->Qn
open Nat renaming le_refl->Qd,le_succ->Ll,le_trans->Qy,lt_of_lt_of_le->Sr,mul_comm->Pg,mul_le_mul_right->Rl
open Option renaming map_some->Ma
open Option.some renaming inj->Sl,injEq->Qg
namespace Go.Sx
open Go
def Dn {α:Type} (d:Nat):Result α->Prop
 | .ok _ w=>d<=w.drawn
 | .halt _ w=>d<=w.drawn
theorem Zjm {α:Type}:∀ (a:Ask α) (w:World),w.drawn<=(w.ask a).2.drawn
 | .done a,w=>Qd _
 | .ask what range k,w=>by
  simp only [World.ask]
  split
  ·exact Zjm _ _
  ·exact Qy (Ll _) (Zjm _ { w with drawn:=w.drawn+1 })
theorem Zud (w:World) (c:Sys):w.drawn<=(w.sys c).2.drawn:=by
 unfold World.sys
 have h:=Zjm (Qbe c w.os) w
 generalize w.ask (Qbe c w.os)=r at h ⊢
 obtain ⟨⟨r,os⟩,w'⟩:=r
 cases r<;>first|exact h|exact Qd _
theorem Zh1 {P:Program} {w w' : World} {at_ k:Addr} {u:TypeId} {v:Value} {b:Bool} {l:List Addr} (h:w.viewStore P at_ u k v b = .ok (w',l)):w'.drawn=w.drawn:=by
 unfold World.viewStore at h
 simp only [bind,Except.bind,pure,Except.pure,throw,throwThe,MonadExceptOf.throw] at h
 repeat' first
  | (cases h; done)
  | (cases h; rfl; done)
  | split at h
theorem Zjz {P:Program} {w w' : World} {a:Addr} {v:Value} {b:Bool} {l:List Addr} (h:w.farStore P a v b = .ok (w',l)):w'.drawn=w.drawn:=by
 unfold World.farStore at h
 split at h
 ·split at h
  ·rename_i r hr
   cases h
   exact Zh1 hr
  ·cases h
 ·cases h
theorem Dn.le {α:Type} {d d' : Nat} {r:Result α} (h:Dn d r) (hd:d'<=d):Dn d' r:=by
 cases r with
 | ok a w=>exact Qy hd h
 | halt a w=>exact Qy hd h
theorem Zav {α:Type} (P:Program) (s:Sem α):∀ w:World,Dn w.drawn (s.run P w):=by
 induction s with
 | pure a=>intro w; exact Qd _
 | load m a k ih =>
  intro w
  simp only [Hy]
  split
  ·exact ih _ _
  ·split
   ·exact ih _ _
   ·exact Qd _
 | store m a v k ih =>
  intro w
  have key:Dn w.drawn (match w.cell? a with
   | some _=>if w.frozen? a then .halt (.unsupported (.unsafePointer "a write to bytes that a string shares")) w else k.run P (w.setCell a v)
   | none=>match w.farStore P a v (m == .atomic) with
    | .ok (w,_)=>k.run P w
    | .error h=>.halt h w):=by
   split
   ·split
    ·exact Qd _
    ·exact ih (w.setCell a v)
   ·split
    ·rename_i w2 _ hf
     exact (ih w2).le (by rw [Zjz hf]; exact Qd _)
    ·exact Qd _
  cases v<;>first|exact key|exact Qd _
 | new o k ih=>intro w; exact ih _ { w with heap:=w.heap.push o }
 | shape r k ih=>intro w; exact ih _ _
 | freeze a n k ih =>
  intro w
  refine (ih (w.freeze a n)).le ?_
  unfold World.freeze
  split<;>exact Qd _
 | frozen a k ih=>intro w; exact ih _ _
 | getObj r k ih =>
  intro w
  simp only [Hy]
  split
  ·exact Qd _
  ·exact ih _ _
  ·exact Qd _
 | setObj r o k ih =>
  intro w
  simp only [Hy]
  split
  ·exact Qd _
  ·exact ih { w with heap:=w.heap.setIfInBounds r o }
  ·exact Qd _
 | choose q k ih =>
  intro w
  simp only [Hy]
  split
  ·exact ih _ _
  ·exact (ih _ { w with drawn:=w.drawn+1 }).le (Ll _)
 | sys c k ih=>intro w; exact (ih _ _).le (Zud w c)
 | program k ih=>intro w; exact ih _ _
 | mark m k ih=>intro w; exact ih _
 | halt h=>intro w; exact Qd _
theorem Vk {α:Type} (P:Program) (s:Sem α) (w:World) (es:Array Event):Dn w.drawn (s.runT P w es).1:=by
 rw [Sem.runT_fst]; exact Zav P s w
theorem Zo6 {α:Type} {P:Program} {s:Sem α} {w:World} {es:Array Event} {r:Result α} {es' : Array Event} (e:s.runT P w es=(r,es')):Dn w.drawn r:=by
 have:=Vk P s w es; rw [e] at this; exact this
theorem Zz6 {α:Type} {P:Program} {s:Sem α} {w w' : World} {a:α} (e:s.run P w = .ok a w'):w.drawn<=w'.drawn:=by
 have:=Zav P s w; rw [e] at this; exact this
theorem Yu {α:Type} {P:Program} {s:Sem α} {w:World} {r:Result α} (e:s.run P w=r):Dn w.drawn r:=by
 rw [<-e]; exact Zav P s w
theorem Zii {α:Type} {P:Program} {s:Sem α} {w:World} {es:Array Event} {r:Result α} (e:(s.runT P w es).1=r):Dn w.drawn r:=by
 rw [<-e]; exact Vk P s w es
def GDn (d:Nat):GStep->Prop
 | .go _ w _=>d<=w.drawn
 | .comm _ _ _ _ w _=>d<=w.drawn
 | .spawn _ _ w _=>d<=w.drawn
 | .count _ w _=>d<=w.drawn
 | .timer _ _ w _=>d<=w.drawn
 | .alone _ _ w _=>d<=w.drawn
 | .newcoro _ _ _ w _=>d<=w.drawn
 | .coroswitch _ _ _ w _=>d<=w.drawn
 | .collect _ w _=>d<=w.drawn
 | .watch _ w _=>d<=w.drawn
 | .ended _ _ _=>True
theorem GDn.after {d:Nat} {s:GStep} (h:GDn d s) (es:Array Event):GDn d (s.after es):=by cases s<;>exact h
theorem GDn.le {d d' : Nat} {s:GStep} (h:GDn d s) (hd:d'<=d):GDn d' s:=by cases s<;>first|exact Qy hd h|trivial
theorem Zad {d:Nat} {c:Prop} [Decidable c] {a b:GStep} (ha:c->GDn d a) (hb:¬ c->GDn d b):GDn d (if c then a else b):=by
 split
 ·exact ha ‹_›
 ·exact hb ‹_›
theorem Up (fr:Frame) (m:String) (w:World):GDn w.drawn (endThrow fr m w):=Qd _
theorem Zb4 (P:Program) (fr:Frame) (v:Value) (w:World):GDn w.drawn (endPrinting P fr v w):=by
 unfold endPrinting
 dsimp only
 split
 ·exact Up _ _ _
 ·trivial
theorem Zl3 (w:World) (fd:Nat) (t:ByteArray) (o:Outcome) (d:Nat):GDn d (endWith w fd t o):=by
 unfold endWith
 dsimp only
 repeat' split
 all_goals trivial
theorem Zep (P:Program) (fr:Frame) (cs:List Frame) (dy:Option Dying) (m:String) (w:World):GDn w.drawn (endFatal P fr cs dy m w):=by
 unfold endFatal
 extract_lets
 rename_i shown
 have h:=Zav P shown w
 generalize shown.run P w=r at h ⊢
 cases r with
 | ok a w'=>exact h
 | halt a w'=>cases a<;>trivial
theorem Zky (P:Program) (fr:Frame) (d:Dying) (f:Fatal) (w:World):GDn w.drawn (writeOn P fr d f w):=by
 unfold writeOn
 extract_lets
 split
 ·trivial
 ·dsimp only
  split
  all_goals first
   | trivial
   | (rename_i e; exact Zo6 e)
theorem Zw5 (P:Program) (fr:Frame) (d:Dying) (w:World):GDn w.drawn (die P fr d w):=by
 unfold die
 split
 ·exact Zky _ _ _ _ _
 ·split
  ·split
   ·exact Qd _
   ·exact Zl3 _ _ _ _ _
  ·dsimp only
   split
   ·exact Qd _
   ·rename_i s _
    have h:=Zav P (withAddress s) w
    generalize (withAddress s).run P w=r at h ⊢
    cases r with
    | ok a w'=>exact h
    | halt a w'=>trivial
   ·rename_i t recv name _
    have h:=Vk P (invoke (.fn (.method name) #[]) #[.iface t recv]) w #[]
    generalize (invoke (.fn (.method name) #[]) #[.iface t recv]).runT P w #[]=r at h ⊢
    obtain ⟨r,es⟩:=r
    refine GDn.after ?_ _
    dsimp only at h ⊢
    cases r with
    | ok a w' =>
     repeat' split
     all_goals first
      | (rename_i e; cases e; exact h)
      | trivial
      | (rename_i e; cases e)
    | halt a w' =>
     cases a
     all_goals first
      | trivial
      | exact (Zb4 P fr _ w').le h
   ·trivial
theorem Zbq (P:Program) (main:Bool) (fr:Frame) (cs:List Frame) (dy:Option Dying) (v:Value) (w:World):GDn w.drawn (doReturn P main fr cs dy v w):=by
 unfold doReturn
 repeat' split
 all_goals first
  | exact Qd _
  | trivial
theorem Zf9 (P:Program) (fr:Frame) (cs:List Frame) (dy:Option Dying) (d:Deferred) (w:World):GDn w.drawn (callDeferred P fr cs dy d w):=by
 unfold callDeferred
 refine Zad (fun _=>trivial) (fun _=>?_)
 ·have h:=Vk P (invoke d.target d.args) w #[]
  generalize (invoke d.target d.args).runT P w #[]=r at h ⊢
  obtain ⟨r,es⟩:=r
  refine GDn.after ?_ _
  dsimp only at h ⊢
  cases r with
  | ok a w' =>
   have h:w.drawn<=w'.drawn:=h
   cases a with
   | coroswitch c e=>cases e<;>first|exact h|trivial
   | alone e v=>cases e<;>first|exact h|trivial
   | recover =>
    dsimp only
    split<;>exact h
   | _=>first|exact h|trivial
  | halt a w' =>
   have h:w.drawn<=w'.drawn:=h
   cases a
   all_goals first
    | exact h
    | trivial
    | exact (Zep P _ _ _ _ w').le h
    | exact (Up _ _ w').le h
theorem Zmf (P:Program) (main:Bool) (fr:Frame) (cs:List Frame) (dy:Option Dying) (w:World):GDn w.drawn (unwind P main fr cs dy w):=by
 unfold unwind
 split
 ·rename_i block _ _ _
  have h:=Vk P (Lh block) w #[]
  generalize (Lh block).runT P w #[]=r at h ⊢
  obtain ⟨r,es⟩:=r
  refine GDn.after ?_ _
  cases r with
  | ok a w'=>exact h
  | halt a w'=>trivial
 ·exact Zf9 _ _ _ _ _ _
 ·split
  ·trivial
  ·refine Zad (fun _=>trivial) (fun _=>?_)
   split
   ·exact Qd _
   ·split
    ·refine Zad (fun _=>Qd _) (fun _=>?_)
     split
     all_goals first
      | trivial
      | (rename_i e; exact Yu e)
    ·split
     ·exact Zb4 _ _ _ _
     ·trivial
  ·split
   ·exact Zbq _ _ _ _ _ _ _
   ·rename_i fn _
    have h:=Vk P (results fn fr.tmps) w #[]
    generalize (results fn fr.tmps).runT P w #[]=r at h ⊢
    obtain ⟨r,es⟩:=r
    refine GDn.after ?_ _
    cases r with
    | ok a w'=>exact (Zbq _ _ _ _ _ _ w').le h
    | halt a w'=>cases a<;>trivial
theorem Zpx (P:Program) (fr:Frame) (cs:List Frame) (dy:Option Dying) (g:Nat) (w:World):GDn w.drawn (early P fr cs dy g w):=by
 have hn:∀ w' : World,w.drawn<=w'.drawn->GDn w.drawn (match w'.heap[g]? with
  | some (.pending c elem)=>.go { frame:=fr,callers:=cs,status:=.running,dying:=dy } { w' with heap:=w'.heap.setIfInBounds g (.cells c elem) }
  | _=>.ended (.stuck "early: the variable does not wait" (fr.pos P)) w'):=by
  intro w' h
  split
  ·exact h
  ·trivial
 unfold early
 dsimp only
 refine Zad (fun _=>hn w (Qd _)) (fun _=>?_)
 split
 ·trivial
 ·refine Zad (fun _=>hn w (Qd _)) (fun _=>?_)
  refine Zad (fun _=>hn w (Qd _)) (fun _=>?_)
  split
  ·trivial
  ·exact Qd _
  ·trivial
  ·exact hn w (Qd _)
  ·refine Zad (fun _=>Qd _) (fun _=>?_)
   refine Zad (fun _=>hn w (Qd _)) (fun _=>?_)
   have h:=Zav P (choose (.early g)) w
   generalize (choose (.early g)).run P w=r at h ⊢
   cases r with
   | ok a w' =>
    cases a with
    | zero=>exact hn w' h
    | succ a=>exact h
   | halt a w'=>trivial
theorem Zcj (P:Program) (listen:Bool) (fr:Frame) (cs:List Frame) (dy:Option Dying) (s:Sem Next) (w:World):GDn w.drawn (stepG.apply P listen fr cs dy s w):=by
 unfold stepG.apply
 have h:Dn w.drawn (if listen then s.runT P w #[] else (s.run P w,#[])).1:=by
  cases listen
  ·exact Zav P s w
  ·exact Vk P s w #[]
 generalize (if listen then s.runT P w #[] else (s.run P w,#[]))=r at h ⊢
 obtain ⟨r,es⟩:=r
 refine GDn.after ?_ _
 cases r with
 | ok a w' =>
  have h:w.drawn<=w'.drawn:=h
  cases a with
  | callThen d resume saved wrapper=>dsimp only; split<;>exact h
  | row r args=>dsimp only; split<;>exact h
  | stack r saved=>dsimp only; split<;>exact h
  | recover=>dsimp only; split<;>exact h
  | spawn d=>exact Zad (fun _=>(Up _ _ w').le h) (fun _=>h)
  | _=>first|exact h|trivial
 | halt a w' =>
  have h:w.drawn<=w'.drawn:=h
  cases a with
  | unsupported u =>
   cases u<;>first|trivial|exact (Zpx P _ _ _ _ w').le h
  | fatal m=>exact (Zep P _ _ _ _ w').le h
  | throw m=>exact (Up _ _ w').le h
  | _=>first|exact h|trivial
theorem Zs2 (P:Program) (listen:Bool) (fr:Frame) (cs:List Frame) (dy:Option Dying) (w:World):GDn w.drawn (stepG.oper P listen fr cs dy w):=by
 unfold stepG.oper
 split
 ·trivial
 ·split<;>exact Zcj _ _ _ _ _ _ _
theorem Ztl (P:Program) (main listen:Bool) (fr:Frame) (cs:List Frame) (dy:Option Dying) (w:World):GDn w.drawn (stepG.exec P main listen fr cs dy w):=by
 have hl:∀ (jump:Option Code),GDn w.drawn (match fr.roundOf with
   | none=>if jump matches none|some .ret then .go { frame:={ fr with mode:=.returning },callers:=cs,status:=.running,dying:=dy } w else .ended (.stuck "exit, goto: no such block or label" (fr.pos P)) w
   | some l =>
    let (r,es):=(Ka l jump).runT P w #[]
    GStep.after (seen P fr.fn es) <| match r with
    | .ok v w=>doReturn P main fr cs dy v w
    | .halt _ w=>.ended (.stuck "range over a function: no such loop" (fr.pos P)) w):=by
  intro jump
  split
  ·exact Zad (fun _=>Qd _) (fun _=>trivial)
  ·rename_i l _
   have h:=Vk P (Ka l jump) w #[]
   generalize (Ka l jump).runT P w #[]=r at h ⊢
   obtain ⟨r,es⟩:=r
   refine GDn.after ?_ _
   cases r with
   | ok a w'=>exact (Zbq _ _ _ _ _ _ w').le h
   | halt a w'=>trivial
 unfold stepG.exec
 dsimp only
 split
 all_goals first
  | exact hl none
  | exact hl (some .ret)
  | exact Qd _
  | trivial
  | exact Zcj _ _ _ _ _ _ _
  | skip
 ·split<;>first|exact Qd _|trivial
 ·rename_i id k _
  cases exitTo id k with
  | none=>exact hl (some (.exit id))
  | some k=>exact Qd _
 ·rename_i id k _
  cases gotoIn id k with
  | none=>exact hl (some (.goto id))
  | some k=>exact Qd _
 ·refine GDn.after ?_ _
  split
  ·rename_i e; exact (Zcj _ _ _ _ _ _ _).le (Zii e)
  ·trivial
 ·refine GDn.after ?_ _
  split
  all_goals first
   | trivial
   | (rename_i e; exact Zii e)
 ·rename_i row _ _ _
  cases Extern.next row with
  | none=>trivial
  | some e=>exact Zcj _ _ _ _ _ _ _
 ·refine Zad (fun _=>Qd _) (fun _=>?_)
  split
  ·rename_i e; exact Yu e
  ·trivial
 ·exact Zad (fun _=>Zs2 _ _ _ _ _ _) (fun _=>Qd _)
theorem Zo2 (P:Program) (main:Bool) (g:Goroutine) (w:World) (listen:Bool):GDn w.drawn (stepG P main g w listen):=by
 unfold stepG
 split
 rename_i fr cs _ dy _
 split
 ·exact Zw5 _ _ _ _
 ·exact Ztl _ _ _ _ _ _ _
 ·exact Zmf _ _ _ _ _ _
def MDn (d:Nat):Stepped->Prop
 | .next m=>d<=m.world.drawn
 | .ended _ _=>True
theorem Zg0 (P:Program) (rest:Rest) (gs:Array Goroutine) (i:Nat) (g:Goroutine) (cases_:Array CommCase) (blocking:Bool) (shape:CommShape) (w:World):MDn w.drawn (communicate P rest gs i g cases_ blocking shape w).1:=by
 unfold communicate
 dsimp only
 split
 ·trivial
 ·split
  ·split
   ·split
    ·rename_i w' e
     unfold waitingAt at e
     split at e
     ·split at e
      ·cases e; exact Qd _
      ·cases e
     ·cases e; exact Qd _
    ·trivial
   ·exact Qd _
  ·split
   ·trivial
   ·rename_i k c way w' e
    have h:w.drawn<=w'.drawn:=Yu e
    split
    ·split
     ·rename_i e2
      exact Qy h (Yu e2)
     ·trivial
    ·exact h
    ·exact h
    ·split
     ·exact h
     ·split
      ·rename_i e2
       exact Qy h (Yu e2)
      ·trivial
    ·exact h
    ·exact h
    ·trivial
theorem Zkj (P:Program) (gs:Array Goroutine) (rest:Rest) (w:World):MDn w.drawn (Qcb P gs rest w):=by
 unfold Qcb
 dsimp only
 split
 ·split
  ·trivial
  ·split
   ·trivial
   ·split
    ·rename_i e
     exact Yu e
    all_goals trivial
 ·trivial
theorem Zp1 (w:World) (c:Nat):(drain w c).2.drawn=w.drawn:=by
 unfold drain
 split<;>rfl
theorem Zha (m:Machine) (k:Nat) (t:Timer) (a b:Nat):(retime m k t a b).2.world.drawn=m.world.drawn:=by
 unfold retime
 dsimp only
 split
 ·exact Zp1 _ _
 ·rfl
theorem Zit {m:Machine} {var:Addr} {f:Nat->Timer->Value × Machine} {v:Value} {m' : Machine} (hf:∀ k t,(f k t).2.world.drawn=m.world.drawn) (e:timerOp.named m var f = .ok (v,m')):m'.world.drawn=m.world.drawn:=by
 unfold timerOp.named at e
 split at e
 ·rename_i k _
  have h:=hf k (m.rest.timers.getD k default)
  rw [Except.ok.inj e] at h
  exact h
 ·cases e
theorem Zk5 {m m' : Machine} {op:TimerOp} {v:Value} (e:timerOp m op = .ok (v,m')):m'.world.drawn=m.world.drawn:=by
 unfold timerOp at e
 split at e
 ·split at e
  ·cases e; rfl
  ·split at e
   ·split at e
    ·cases e
    ·cases e; rfl
   ·cases e
 ·exact Zit (fun k t=>Zha _ _ _ _ _) e
 ·split at e
  ·rename_i m2 hm
   have h2:m2.world.drawn=m.world.drawn:=by
    unfold timerOp.opened at hm
    split at hm
    ·split at hm
     ·cases hm; rfl
     ·cases hm
    ·cases hm; rfl
   exact Zit (fun k t=>(Zha _ _ _ _ _).trans h2) e
  ·cases e
 ·cases e; rfl
theorem Zfe (P:Program) (m:Machine) (i:Nat) (b:Bool):MDn m.world.drawn (runT P m i b).1:=by
 unfold runT
 dsimp only
 generalize m.gs.swapAt! i { (default:Goroutine) with status:=.finished }=gg
 obtain ⟨g,gs⟩:=gg
 dsimp only
 have h:=Zo2 P (i==0) g m.world b
 generalize stepG P (i==0) g m.world b=s at h ⊢
 cases s with
 | ended o w es=>trivial
 | comm g2 c bl sh w es =>
  have h:m.world.drawn<=w.drawn:=h
  have:=Zg0 P m.rest gs i g2 c bl sh w
  dsimp only
  generalize communicate P m.rest gs i g2 c bl sh w=r at this ⊢
  obtain ⟨r,more⟩:=r
  cases r with
  | next m2=>exact Qy h this
  | ended o w=>trivial
 | go g2 w es=>exact h
 | spawn g2 c w es=>exact h
 | count g2 w es =>
  dsimp only
  split
  ·trivial
  ·exact h
 | alone g2 on w es=>exact h
 | collect g2 w es =>
  have h:m.world.drawn<=w.drawn:=h
  have:=Zkj P (gs.setIfInBounds i g2) m.rest w
  dsimp only
  generalize Qcb P (gs.setIfInBounds i g2) m.rest w=r at this ⊢
  cases r with
  | next m2=>exact Qy h this
  | ended o w=>trivial
 | watch g2 w es=>exact h
 | newcoro g2 c d w es=>exact h
 | coroswitch g2 c ex w es =>
  have h:m.world.drawn<=w.drawn:=h
  dsimp only
  split
  ·exact h
  ·exact h
  ·trivial
 | timer g2 op w es =>
  have h:m.world.drawn<=w.drawn:=h
  dsimp only
  split
  ·rename_i e
   have:=Zk5 e
   show m.world.drawn<=_
   rw [this]
   exact h
  ·exact h
  ·trivial
  ·trivial
theorem Zo4 (P:Program) (m:Machine) (k:Nat):MDn m.world.drawn (serve P m k):=by
 unfold serve
 split
 ·trivial
 ·exact Qd _
 ·dsimp only
  split
  ·trivial
  ·exact Qd _
def VDn (d:Nat):Move->Prop
 | .goroutine m _=>d<=m.world.drawn
 | .machine s _=>MDn d s
theorem MDn.le {d d' : Nat} {s:Stepped} (h:MDn d s) (hd:d'<=d):MDn d' s:=by cases s<;>first|exact Qy hd h|trivial
theorem VDn.le {d d' : Nat} {s:Move} (h:VDn d s) (hd:d'<=d):VDn d' s:=by cases s<;>first|exact Qy hd h|exact MDn.le h hd
theorem Zgr (P:Program) (m:Machine) (rs:List Nat) (d:Nat) (hd:d<=m.world.drawn):VDn d (match (choose (.sched rs.length)).run P m.world with
   | .halt _ w=>.machine (.ended (.stuck "sched" "") w)
   | .ok k world =>
    if rs.length<=1 then .goroutine { m with world } (rs.getD k 0) else
    match (choose (.extern "sched.slice" 65536)).run P world with
    | .halt _ w=>.machine (.ended (.stuck "sched.slice" "") w)
    | .ok n world=>.goroutine { m with world,rest:={ m.rest with slice:=if n=0 then none else some (rs.getD k 0,n) } } (rs.getD k 0)):=by
 split
 ·trivial
 ·rename_i e
  have h:=Yu e
  split
  ·exact Qy hd h
  ·split
   ·trivial
   ·rename_i e2
    exact Qy hd (Qy h (Yu e2))
theorem Ze8 (P:Program) (m:Machine):VDn m.world.drawn (askOn P m):=by
 unfold askOn
 dsimp only
 split
 ·trivial
 ·rename_i k w e
  have h:m.world.drawn<=w.drawn:=Yu e
  split
  ·exact (Zo4 P { m with world:=w } _).le h
  ·split
   ·split
    ·exact h
    ·split
     ·exact h
     ·split
      ·trivial
      ·trivial
   ·split
    ·exact Zgr P { m with world:=w } _ _ h
    ·split
     ·trivial
     ·rename_i w2 e2
      exact Zgr P { m with world:=w2 } _ _ (Qy h (Yu e2))
     ·rename_i w2 e2
      exact Qy h (Yu e2)
     ·rename_i w2 e2
      have q:w.drawn<=w2.drawn:=Zz6 e2
      exact Zgr P ({ m with world:=w2 }.advanceTo _) _ _ (Qy h q)
theorem Zb6 (P:Program) (m:Machine):VDn m.world.drawn (ask P m):=by
 unfold ask
 split
 ·split
  ·trivial
  ·rename_i w e
   have h:m.world.drawn<=w.drawn:=Yu e
   have h2:=Zkj P m.gs m.rest w
   generalize Qcb P m.gs m.rest w=r at h2 ⊢
   cases r with
   | next m2=>exact (Ze8 P m2).le (Qy h h2)
   | ended o w=>trivial
  ·exact (Ze8 P _).le (Zz6 (by assumption))
 ·exact Ze8 P m
theorem Zs4 (P:Program) (m:Machine):VDn m.world.drawn (move P m):=by
 unfold move
 split
 ·split
  ·exact Qd _
  ·trivial
 ·split
  ·split
   ·exact Qd _
   ·exact Zb6 P { m with rest:={ m.rest with slice:=none } }
  ·exact Zb6 P m
theorem Zsr {P:Program} {m m' : Machine} (h:step P m = .next m'):m.world.drawn<=m'.world.drawn:=by
 unfold step stepT at h
 have hm:=Zs4 P m
 generalize move P m=v at h hm
 cases v with
 | goroutine m2 i =>
  dsimp only at h
  have h2:=Zfe P m2 i true
  rw [h] at h2
  exact Qy hm h2
 | machine s ops =>
  dsimp only at h
  subst h
  exact hm
theorem Zo1 {P:Program} {m m' : Machine} (h:Steps P m m'):m.world.drawn<=m'.world.drawn:=by
 obtain ⟨n,h⟩:=h
 induction n generalizing m with
 | zero=>cases h; exact Qd _
 | succ n ih =>
  rw [runN] at h
  split at h
  ·rename_i m2 e
   exact Qy (Zsr e) (ih h)
  ·rename_i e
   exact absurd h (e _)
theorem Calls.drawn {P:Program} {f:FuncId} {args:Array Value} {w:World} {R:Ending->World->Prop} (h:Calls P f args w R) (hr:∀ e w',R e w'->∃ v,e = .returned v):Calls P f args w fun e w'=>R e w'/\w.drawn<=w'.drawn:=by
 intro cs
 obtain ⟨e,w',fr,r,c,x⟩:=h cs
 obtain ⟨v,rfl⟩:=hr e w' r
 exact ⟨_,w',fr,⟨r,Zo1 (m:=lone _ _ w) (m':=lone fr cs w') c⟩,c,x⟩
open Go Go.RowKit Go.Sort Go.Proofs
variable {r r' : Locs} {D D' : Nat->Prop} {I I' : Imm} {w w' w0:World} {I0:Imm} {B n n' k:Nat} {pr:Nat->Obj->Prop} {h:Nat->ABlk} {P:Program}
theorem HR.grow (H:HR B w0 I0 pr r I D h n w) (os:Array Obj):HR B w0 I0 pr r I D h n (Qaa w os)/\Step r D I w r D I (Qaa w os):=by
 have st:Step r D I w r D I (Qaa w os):=⟨fun _ hd=>⟨hd,rfl⟩,fun b o hi=>⟨hi,cell?_grow w os _ (H.imm b o hi)⟩,by simp⟩
 refine ⟨⟨H.below.trans ⟨rfl,rfl,rfl,by simp,fun b hb=>heap_grow_old w os (Sr hb H.base)⟩,?_,?_,?_,H.live,?_,H.inj,?_,H.protK,H.immB⟩,st⟩
 ·have:=H.base; simp; omega
 ·intro b o hi; have:=H.imm b o hi; simp; omega
 ·intro id hd; have:=H.dom id hd; simp; omega
 ·intro id
  by_cases hl:(h id).live=true
  ·exact (H.blk id).mono st rfl (fun _=>heap_grow_old w os (H.dom id (H.live id hl)).2) (fun _ _ _ _ _ hx=>hx)
  ·have:h id = .dead:=by cases hx:h id<;>simp_all [ABlk.live]
   rw [this]; trivial
 ·intro b o hp
  have h1:=H.prot b o hp
  exact ⟨(heap_grow_old w os (Qr.1 h1.1).1).trans h1.1,h1.2⟩
theorem HR.ahead (H:HR B w0 I0 pr r I D h n w) (m:Nat):HR B w0 I0 pr r I D h n (Sort.ahead w m)/\Step r D I w r D I (Sort.ahead w m) :=
 ⟨⟨⟨H.below.os,H.below.tape,H.below.output,H.below.size,H.below.block⟩,H.base,H.imm,H.dom,H.live,fun id=>(H.blk id).mono ⟨fun _ hd=>⟨hd,rfl⟩,fun _ _ hi=>⟨hi,rfl⟩,Qd _⟩ rfl (fun _=>rfl) (fun _ _ _ _ _ hx=>hx),H.inj,H.prot,H.protK,H.immB⟩,⟨fun _ hd=>⟨hd,rfl⟩,fun _ _ hi=>⟨hi,rfl⟩,Qd _⟩⟩
theorem Zmv {α:Type} [Inhabited α] (enc:α->List Value) (es:Nat) (w:World) (blk off:Nat) (d:Array α) {cs:Array Value} {T:TypeId} {fz:Nat × Nat} (hc:w.heap[blk]?=some (.cells cs T fz)) :
  (putRowK enc es w blk off d).heap[blk]?=some (.cells (putCells id off (flatK enc es d) cs) T fz):=by
 simp [putRowK,putRow,mapBlock,Gp,hc,onCells]
theorem Zfg {α:Type} [Inhabited α] (enc:α->List Value) (es:Nat) (w:World) (blk off:Nat) (d:Array α) {b:Nat} (hb:b≠blk):(putRowK enc es w blk off d).heap[b]?=w.heap[b]?:=by
 simp [putRowK,putRow,mapBlock,Gp,Ne.symm hb]
theorem HR.putRow (H:HR B w0 I0 pr r I D h n w) {id es:Nat} {elems elems' : List (List AV)} (hb:h id = .row es elems true true) {α:Type} [Inhabited α] (enc:α->List Value) (d:Array α) (hs:d.size=elems.length) (hl:elems'.length=elems.length)
  (he:∀ (i:Nat) (e:List AV),elems'[i]?=some e->e.length=es/\∀ (j:Nat) (c:AV),e[j]?=some c->VR r I w (fun _=>False) c ((enc d[i]!)[j]!)) :
  HR B w0 I0 pr r I D (hupd h id (.row es elems' true true)) n (putRowK enc es w (r id).blk (r id).off d)/\Step r D I w r D I (putRowK enc es w (r id).blk (r id).off d):=by
 have hB:=H.blk id
 rw [hb] at hB
 obtain ⟨h1,h2,h3,cs,T,fz,h4,h5,h6,h7,_⟩:=hB
 obtain ⟨g1,g2,rfl⟩:=h7 rfl
 have hh:=Zmv enc es w (r id).blk (r id).off d h4
 refine H.write (k:=id) (w':=putRowK enc es w (r id).blk (r id).off d) (by rw [hb]; rfl) ⟨rfl,rfl,rfl,by simp [putRowK],fun b hlt=>Zfg enc es w _ _ d (by omega)⟩ g1 (fun o ho=>(g2 o ho).elim) (fun o ho=>?_) (by simp [putRowK]) (fun b hne=>Zfg enc es w _ _ d hne) _ (fun st=>?_)
 ·rw [h4] at ho
  obtain rfl:=Sl ho
  exact ⟨fun l=>by simp,fun l=>by simp⟩
 ·refine ⟨⟨h1.1,by rw [hl]; exact h1.2⟩,by rw [hl]; exact h2,fun i e hi=>(he i e hi).1,_,T,(0,0),hh,by simpa [putCells] using h5,fun i e j c hi hj=>?_,fun _=>⟨g1,g2,rfl⟩,by simp⟩
  obtain ⟨e1,e2⟩:=he i e hi
  have hil:i<elems.length:=by rw [<-hl]; exact (Qi.1 hi).1
  have hjl:j<es:=by rw [<-e1]; exact (Qi.1 hj).1
  have m1:i*es+es<=elems.length*es:=by
   have:=Rl es (show i+1<=elems.length from hil); rwa [Nat.add_mul,Nat.one_mul] at this
  have m2:=Rl es h2
  refine ⟨(enc d[i]!)[j]!,?_,VR.weak ((e2 j c hj).mono ⟨fun _ h=>h.elim,st.imm,st.size⟩:VR r I _ (fun _=>False) c _) (fun _ h=>h.elim)⟩
  have q1:(r id).off+i*es+j<cs.size:=by omega
  have q2:(i*es+j) / es=i:=(blk_iff es i _ (by omega)).1 ⟨by omega,by omega⟩
  have q3:(i*es+j)%es=j:=by rw [Nat.mod_eq_sub_div_mul,q2]; omega
  have q4:i*es+j<d.size*es:=by rw [hs]; omega
  have q5:=get_flatK enc es d _ q4
  rw [q2,q3] at q5
  simp only [putCells,Array.getElem?_mapIdx,Wi q1,Ma]
  rw [if_pos ⟨by omega,by rw [size_flatK]; omega⟩,show (r id).off+i*es+j-(r id).off=i*es+j by omega,q5]
  rfl
structure SortsK (P:Program) (f:FuncId) (es:Nat):Prop where
 some:∀ (m:Nat) [Inhabited (Fin m)] (enc:Fin m->List Value) (_:∀ x,(enc x).length=es) (_:∀ x,∀ v∈enc x,v.oneCell'=true) (cf:Fin m->Fin m->Int) (_:SWO (ltOf cf)) (g:Nat) (blk off cap:Nat) (d:Array (Fin m)) (w:World)
  (_:∀ args w,(callFunc g args).run P w = .ok (.enter g args) w) (_:CmpLays P g #[] enc es cf blk off d.size w) (_:HoldsK enc es w blk off d) (_:blk<w.heap.size) (_:d.size<4611686018427387904),
  Calls P f #[.slice (some ⟨blk,off,none⟩) d.size cap,.func (.func g) #[] #[]] w fun e w' =>
   e = .returned (.tuple #[])/\∃ d' n os,PermIn 0 d.size d d'/\SortedIn (ltOf cf) 0 d.size d'/\w'=sortWorldK enc es w blk off n d' os
 none:∀ (p:Option Addr) (cap:Nat) (fv:Value) (w:World),Calls P f #[.slice p 0 cap,fv] w fun e w'=>e = .returned (.tuple #[])/\w'=w
def Yf8 (P:Program) (g:FuncId) (args:List AV) (res:Int):Prop :=
 ∀ (I:Imm) (w:World) (vs:Array Value),(∀ b o,I b o->b<w.heap.size)->VRs r0 I w (fun _=>False) args vs ->
  Calls P g vs w fun e w'=>e = .returned (.int .i64 res)/\∃ q os,w'=Qaa (w.drewN q) os
theorem Zff {g:FuncId} {args:List AV} {n:Int} (h:PCall P g args ⟨.int .i64 n,[]⟩):Yf8 P g args n:=by
 intro I w vs hI hv
 have h1:=callsIn_wide.1 (h.2 I w vs hI hv)
 refine (Calls.drawn h1 (fun e w' ⟨x,_,_,hx,_⟩=>⟨x,hx⟩)).mono ?_
 rintro e w' ⟨⟨x,r',I',rfl,hp⟩,hd⟩
 have hx:x = .int .i64 n:=by
  have:=hp.val
  cases this
  rfl
 refine ⟨by rw [hx],?_⟩
 obtain ⟨⟨d,os⟩,rfl⟩:=regrown_of_below hp.below
 refine ⟨d-w.drawn,os,?_⟩
 have hd:w.drawn<=d:=hd
 have:redrawn w d=w.drewN (d-w.drawn):=by
  show ({ w with drawn:=d }:World) = { w with drawn:=w.drawn+(d-w.drawn) }
  congr 1; omega
 rw [this]
theorem Zi9 {α:Type} {a:Array α} {n:Nat} (h:a.size=n):a.extract 0 n=a:=by subst h; exact Array.extract_size
theorem arr2 {vs:Array Value} (h:vs.size=2):∃ a b,vs = #[a,b]:=by
 obtain ⟨l⟩:=vs
 match l,h with
 | [a,b],_=>exact ⟨a,b,rfl⟩
theorem Zfb {f gf es:Nat} (hf:FnOK P f) (hS:SortsK P f es) (hes:0<es) (eg:∀ args w,(callFunc gf args).run P w = .ok (.enter gf args) w) {β:Type} (gc:β->List AV) (hlen:∀ b,(gc b).length=es) (hone:∀ b,(gc b).all AV.one=true) (hpu:∀ b,Yk (gc b)=true)
  (cmp:β->β->Int) {xs:List β} (hq:∀ a∈xs,∀ b∈xs,Yf8 P gf [.agg (gc a),.agg (gc b)] (cmp a b)) (hO:SWO (ltOf cmp)) (hn:xs.length<4611686018427387904) {σ:St} {id:Nat} (hrow:σ.get id = .row es (xs.map gc) true true)
  {K:AV->St->Prop} (hK:∀ ys:List β,ys.Perm xs->ys.Pairwise (fun a b=>¬ cmp b a<0)->K (.tup []) (σ.set id (.row es (ys.map gc) true true))):SCt P f [.asl id 0 xs.length,.func gf [] []] σ K:=by
 refine ⟨hf,fun B w0 I0 pr r I D w vs H hv=>?_⟩
 obtain ⟨v0,v1,rfl⟩:=arr2 hv.1
 have hv0:=hv.2 0 _ v0 rfl rfl
 have hv1:=hv.2 1 _ v1 rfl rfl
 have hget:∀ ys:List β,(σ.set id (.row es (ys.map gc) true true)).get=hupd σ.get id (.row es (ys.map gc) true true):=fun ys=>by
  funext i; rw [Jk]; rfl
 have hv1e:v1 = .func (.func gf) #[] #[]:=by
  cases hv1 with
  | func _ _ _ _ a b h0 h1 =>
   rw [Ko (show a.size=0 by simpa using h0),Ko (show b.size=0 by simpa using h1)]
 subst hv1e
 cases hv0 with
 | asl _ _ _ _ hd hc =>
  have hB:=H.blk id
  rw [hrow] at hB
  obtain ⟨h1,h2,h3,cs,T,fz,h4,h5,h6,h7,_⟩:=hB
  obtain ⟨g1,g2,rfl⟩:=h7 rfl
  rw [Qn] at h1 h2
  have hz0:(r id).off+0*(r id).es=(r id).off:=by omega
  rw [hz0]
  by_cases h0:xs=[]
  ·subst h0
   refine (callsIn_wide.2 (hS.none _ _ _ w)).mono fun e w' hh=>?_
   obtain ⟨rfl,rfl⟩:=hh
   refine ⟨_,.tup [],σ.set id (.row es [] true true),r,I,D,rfl,hK [] (List.Perm.refl _) .nil,?_,.tup _ _ _ rfl (by simp),Step.refl _ _ _ _⟩
   have:(σ.set id (.row es [] true true)).get=σ.get:=funext fun i=>by
    rw [Jk]
    split
    ·rename_i e; subst e; exact hrow.symm
    ·rfl
   rw [this]; exact H
  ·have hpos:0<xs.length:=List.length_pos_iff.2 h0
   letI:Inhabited (Fin xs.length):=⟨⟨0,hpos⟩⟩
   obtain ⟨enc,henc⟩:∃ enc:Fin xs.length->List Value,enc=fun i=>(List.range es).map fun j=>(cs[(r id).off+i.1*es+j]?).getD undef:=⟨_,rfl⟩
   obtain ⟨d,hd0⟩:∃ d:Array (Fin xs.length),d=Array.ofFn fun i=>i:=⟨_,rfl⟩
   have hds:d.size=xs.length:=by simp [hd0]
   have hdi:∀ (i:Nat) (hi:i<xs.length),d[i]! = ⟨i,hi⟩:=fun i hi=>by
    rw [getElem!_pos d i (by rw [hds]; exact hi)]; simp [hd0]
   have hk:∀ x,(enc x).length=es:=fun x=>by simp [henc]
   have hej:∀ (x:Fin xs.length) (j:Nat),j<es->(enc x)[j]! = (cs[(r id).off+x.1*es+j]?).getD undef:=fun x j hj=>by
    rw [getElem!_pos _ j (by rw [hk]; exact hj)]; simp [henc]
   have hcell:∀ (x:Fin xs.length) (j:Nat) (c:AV),(gc xs[x])[j]?=some c->j<es/\VR r I w (fun _=>False) c ((enc x)[j]!):=fun x j c hc=>by
    have hj:j<es:=by rw [<-hlen xs[x]]; exact (Qi.1 hc).1
    obtain ⟨v,a,b⟩:=h6 x.1 (gc xs[x]) j c (by simp) hc
    refine ⟨hj,?_⟩
    rw [hej x j hj,a]
    exact b.weak fun _ h=>by cases h.1
   have h1' : ∀ x,∀ v∈enc x,v.oneCell'=true:=fun x v hv=>by
    obtain ⟨j,hj,rfl⟩:=List.mem_iff_getElem.1 hv
    have hj2:j<es:=by rw [<-hk x]; exact hj
    have hjl:j<(gc xs[x]).length:=by rw [hlen]; exact hj2
    have hv:=(hcell x j _ (List.getElem?_eq_getElem hjl)).2
    rw [getElem!_pos _ j hj] at hv
    exact hv.one (List.all_eq_true.1 (hone xs[x]) _ (Qo hjl))
   have hH:HoldsK enc es w (r id).blk (r id).off d:=by
    intro q hq
    rw [size_flatK,hds] at hq
    have hdq:q / es<xs.length:=Nat.div_lt_of_lt_mul (by rw [Pg]; exact hq)
    have hmq:q%es<es:=Nat.mod_lt _ hes
    have hF:=get_flatK enc es d q (by rw [hds]; exact hq)
    rw [hdi _ hdq,hej _ _ hmq] at hF
    have e:(r id).off+q / es*es+q%es=(r id).off+q:=by have:=Nat.div_add_mod q es; rw [Pg] at this; omega
    dsimp only at hF
    rw [e] at hF
    have m2:=Rl es h2
    have hle:(r id).off+q<cs.size:=by omega
    rw [Wi hle] at hF
    refine ⟨?_,by simp [World.frozen?,h4]⟩
    rw [hF]
    simp [World.cell?,h4,hle]
   have hblk:(r id).blk<w.heap.size:=(Qr.1 h4).1
   have hcmp:CmpLays P gf #[] enc es (fun i j=>cmp xs[i] xs[j]) (r id).blk (r id).off d.size w:=by
    intro m os dk hdk x y
    have hW:∀ b o,I b o->(sortWorldK enc es w (r id).blk (r id).off m dk os).cell? ⟨b,o,none⟩=w.cell? ⟨b,o,none⟩:=fun b o hi=>by
     have hb:b≠(r id).blk:=fun e=>g2 o (e ▸ hi)
     unfold sortWorldK
     rw [cell?_grow _ _ _ (by rw [size_putRowK]; exact H.imm b o hi),cell?_putRowK_other _ _ _ _ _ _ _ hb]; rfl
    have hsz:=size_sortWorldK_c enc es w (r id).blk (r id).off m dk os
    have hagg:∀ z:Fin xs.length,VR r0 I (sortWorldK enc es w (r id).blk (r id).off m dk os) (fun _=>False) (.agg (gc xs[z])) (.agg (enc z).toArray):=fun z =>
     .agg _ _ _ (by simp [hk,hlen]) fun j c v hc hv=>by
      obtain ⟨hj,q⟩:=hcell z j c hc
      have:v=(enc z)[j]!:=by
       rw [getElem!_pos _ j (by rw [hk]; exact hj)]
       simpa [hk,hj] using hv.symm
      rw [this]
      exact q.mono ⟨fun _ h=>h.elim,fun b o hi=>⟨hi,hW b o hi⟩,hsz⟩
    refine hq _ (Qo _) _ (Qo _) I _ _ (fun b o hi=>Sr (H.imm b o hi) hsz) ⟨rfl,fun i c v hc hv=>?_⟩
    match i with
    | 0=>cases hc; cases hv; exact hagg x
    | 1=>cases hc; cases hv; exact hagg y
    | i+2=>simp at hc
   have hSW:SWO (ltOf fun i j:Fin xs.length=>cmp xs[i] xs[j]):=⟨fun x=>hO.irrefl _,fun x y z=>hO.trans _ _ _,fun x y z=>hO.ntrans _ _ _⟩
   have hcall:=hS.some xs.length enc hk h1' _ hSW gf _ _ ((r id).cap-0) d w eg hcmp hH hblk (by rw [hds]; exact hn)
   rw [hds] at hcall
   refine (callsIn_wide.2 hcall).mono fun e w' hh=>?_
   obtain ⟨rfl,d',m,os,hp,hs,rfl⟩:=hh
   have hs' : d'.size=xs.length:=hp.1.trans hds
   have hdl:d.toList.map (fun i=>xs[i])=xs:=by
    refine List.ext_getElem (by simp [hds]) fun i a b=>?_
    simp [hd0]
   have hperm:(d'.toList.map fun i=>xs[i]).Perm xs:=by
    have:=hp.2.2
    rw [Zi9 hs',Zi9 hds] at this
    have:=this.map (fun i=>xs[i])
    rwa [hdl] at this
   have hpair:(d'.toList.map fun i=>xs[i]).Pairwise (fun a b=>¬ cmp b a<0):=by
    rw [List.pairwise_iff_getElem]
    intro i j hi hj hij
    have hj' : j<xs.length:=by rw [<-hs']; simpa using hj
    have:=hs i j (Nat.zero_le _) hij hj'
    rw [getElem!_pos d' j (by omega),getElem!_pos d' i (by omega)] at this
    unfold ltOf at this
    simpa using this
   obtain ⟨Ha,Sa⟩:=H.ahead m
   obtain ⟨Hp,Sp⟩:=Ha.putRow (elems':=(d'.toList.map fun i=>xs[i]).map gc) hrow enc d' (by rw [hs',Qn]) (by simp [hs']) (fun i e hi=>by
    have hil:i<xs.length:=by
     have:=(Qi.1 hi).1
     simpa [hs'] using this
    have hi2:i<d'.size:=by omega
    have he:e=gc xs[d'[i]]:=by
     simp only [List.getElem?_map,Array.getElem?_toList,Wi hi2,Ma,Qg] at hi
     exact hi.symm
    subst he
    refine ⟨hlen _,fun j c hc=>?_⟩
    rw [getElem!_pos d' i hi2]
    exact ((hcell d'[i] j c hc).2).mono ⟨fun _ h=>h.elim,fun b o hi=>⟨hi,rfl⟩,Qd _⟩)
   obtain ⟨Hg,Sg⟩:=Hp.grow os
   refine ⟨_,.tup [],σ.set id (.row es ((d'.toList.map fun i=>xs[i]).map gc) true true),r,I,D,rfl,hK _ hperm hpair,?_,.tup _ _ _ rfl (by simp),(Sa.trans Sp).trans Sg⟩
   rw [hget]
   exact Hg
end Go.Sx
