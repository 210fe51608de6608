/- A part of the proof: lemmas. -/
import Derived.Test.YtanbhfpalahjcaaGreatG6
import Derived.Test.YtanbhfpalahjcaaGreatG7
import Derived.Calls
import Derived.CallsIn
import Derived.Lib.QuietBelow
import Derived.RunT
import Derived.Shelf.SlSortCmp.InsertionK
import GoSem.Step
set_option linter.unusedVariables false
set_option linter.unusedSimpArgs false
set_option maxRecDepth 100000
set_option maxHeartbeats 16000000
open Array renaming eq_empty_of_size_eq_zero->Ja,getD_eq_getD_getElem?->Qy,getElem?_eq_getElem->Sv,getElem?_eq_some_iff->Qt,getElem?_modify->Fh,replicate->Pe
open Bool renaming and_eq_true->Qc
open Go renaming look->Qct
open Go.Code renaming wpIn_mono->Ru
open Go.Instr renaming endRound->Kj,takeDeferred->Lw
open Go.Kernel renaming perform->Qbt
open Go.Region renaming ready->Oc
open Go.Sem renaming run->Gp
open Go.Sort renaming grow->Qap
open Go.Sx renaming froz->Hj
open Go.Sx.St renaming get_set->Kt
open Go.Sx.Step renaming drew->Lz
open List renaming all_eq_true->Rf,cons_append->Ok,countP_replicate->Fj,ext_getElem->Qaq,getElem?_eq_getElem->Qe,getElem?_eq_some_iff->Qi,getElem?_map->Rr,getElem?_range->Pm,getElem_mem->Qn,getElem_replicate->Gw,length->Oa,length_drop->Ni,length_map->Qj,length_nil->Rh,length_pos_iff->Jn,length_replicate->Ko,mem_range->Rx,range->Rv,replicate->Tg,take_append_drop->Ks
open Nat renaming blt_eq->Th,le_refl->Qd,le_succ->Ka,le_trans->Re,lt_of_lt_of_le->Tc,lt_or_ge->Wh,mul_comm->Pu,mul_le_mul_right->Rt,strongRecOn->Ji
open Option renaming map_some->Nr
open Option.some renaming inj->Sr,injEq->Qf
open Prod.mk renaming injEq->Rk
namespace Go.Sx
open Go
def Dn {α:Type} (d:Nat):Result α->Prop
 | .ok _ w=>d<=w.drawn
 | .halt _ w=>d<=w.drawn
theorem Zkg {α:Type}:∀ (a:Ask α) (w:World),w.drawn<=(w.ask a).2.drawn
 | .done a,w=>Qd _
 | .ask what range k,w=>by
  simp only [World.ask]
  split
  ·exact Zkg _ _
  ·exact Re (Ka _) (Zkg _ { w with drawn:=w.drawn+1 })
theorem Zve (w:World) (c:Sys):w.drawn<=(w.sys c).2.drawn:=by
 unfold World.sys
 have h:=Zkg (Qbt c w.os) w
 generalize w.ask (Qbt c w.os)=r at h ⊢
 obtain ⟨⟨r,os⟩,w'⟩:=r
 cases r<;>first|exact h|exact Qd _
theorem Zip {P:Program} {w w' : World} {at_ k:Addr} {u:TypeId} {v:Value} {b:Bool} {l:List Addr} (h:w.viewStore P at_ u k v b = .ok (w',l)):w'.drawn=w.drawn:=by
 unfold World.viewStore at h
 simp only [bind,Except.bind,pure,Except.pure,throw,throwThe,MonadExceptOf.throw] at h
 repeat' first
  | (cases h; done)
  | (cases h; rfl; done)
  | split at h
theorem Zkt {P:Program} {w w' : World} {a:Addr} {v:Value} {b:Bool} {l:List Addr} (h:w.farStore P a v b = .ok (w',l)):w'.drawn=w.drawn:=by
 unfold World.farStore at h
 split at h
 ·split at h
  ·rename_i r hr
   cases h
   exact Zip hr
  ·cases h
 ·cases h
theorem Dn.le {α:Type} {d d' : Nat} {r:Result α} (h:Dn d r) (hd:d'<=d):Dn d' r:=by
 cases r with
 | ok a w=>exact Re hd h
 | halt a w=>exact Re hd h
theorem Za4 {α:Type} (P:Program) (s:Sem α):∀ w:World,Dn w.drawn (s.run P w):=by
 induction s with
 | pure a=>intro w; exact Qd _
 | load m a k ih =>
  intro w
  simp only [Gp]
  split
  ·exact ih _ _
  ·split
   ·exact ih _ _
   ·exact Qd _
 | store m a v k ih =>
  intro w
  have key:Dn w.drawn (match w.cell? a with
   | some _=>if w.frozen? a then .halt (.unsupported (.unsafePointer "a write to bytes that a string shares")) w else k.run P (w.setCell a v)
   | none=>match w.farStore P a v (m == .atomic) with
    | .ok (w,_)=>k.run P w
    | .error h=>.halt h w):=by
   split
   ·split
    ·exact Qd _
    ·exact ih (w.setCell a v)
   ·split
    ·rename_i w2 _ hf
     exact (ih w2).le (by rw [Zkt hf]; exact Qd _)
    ·exact Qd _
  cases v<;>first|exact key|exact Qd _
 | new o k ih=>intro w; exact ih _ { w with heap:=w.heap.push o }
 | shape r k ih=>intro w; exact ih _ _
 | freeze a n k ih =>
  intro w
  refine (ih (w.freeze a n)).le ?_
  unfold World.freeze
  split<;>exact Qd _
 | frozen a k ih=>intro w; exact ih _ _
 | getObj r k ih =>
  intro w
  simp only [Gp]
  split
  ·exact Qd _
  ·exact ih _ _
  ·exact Qd _
 | setObj r o k ih =>
  intro w
  simp only [Gp]
  split
  ·exact Qd _
  ·exact ih { w with heap:=w.heap.setIfInBounds r o }
  ·exact Qd _
 | choose q k ih =>
  intro w
  simp only [Gp]
  split
  ·exact ih _ _
  ·exact (ih _ { w with drawn:=w.drawn+1 }).le (Ka _)
 | sys c k ih=>intro w; exact (ih _ _).le (Zve w c)
 | program k ih=>intro w; exact ih _ _
 | mark m k ih=>intro w; exact ih _
 | halt h=>intro w; exact Qd _
theorem Vz {α:Type} (P:Program) (s:Sem α) (w:World) (es:Array Event):Dn w.drawn (s.runT P w es).1:=by
 rw [Sem.runT_fst]; exact Za4 P s w
theorem Zpz {α:Type} {P:Program} {s:Sem α} {w:World} {es:Array Event} {r:Result α} {es' : Array Event} (e:s.runT P w es=(r,es')):Dn w.drawn r:=by
 have:=Vz P s w es; rw [e] at this; exact this
theorem Ybk {α:Type} {P:Program} {s:Sem α} {w w' : World} {a:α} (e:s.run P w = .ok a w'):w.drawn<=w'.drawn:=by
 have:=Za4 P s w; rw [e] at this; exact this
theorem Yx {α:Type} {P:Program} {s:Sem α} {w:World} {r:Result α} (e:s.run P w=r):Dn w.drawn r:=by
 rw [<-e]; exact Za4 P s w
theorem Zja {α:Type} {P:Program} {s:Sem α} {w:World} {es:Array Event} {r:Result α} (e:(s.runT P w es).1=r):Dn w.drawn r:=by
 rw [<-e]; exact Vz P s w es
def GDn (d:Nat):GStep->Prop
 | .go _ w _=>d<=w.drawn
 | .comm _ _ _ _ w _=>d<=w.drawn
 | .spawn _ _ w _=>d<=w.drawn
 | .count _ w _=>d<=w.drawn
 | .timer _ _ w _=>d<=w.drawn
 | .alone _ _ w _=>d<=w.drawn
 | .newcoro _ _ _ w _=>d<=w.drawn
 | .coroswitch _ _ _ w _=>d<=w.drawn
 | .collect _ w _=>d<=w.drawn
 | .watch _ w _=>d<=w.drawn
 | .ended _ _ _=>True
theorem GDn.after {d:Nat} {s:GStep} (h:GDn d s) (es:Array Event):GDn d (s.after es):=by cases s<;>exact h
theorem GDn.le {d d' : Nat} {s:GStep} (h:GDn d s) (hd:d'<=d):GDn d' s:=by cases s<;>first|exact Re hd h|trivial
theorem Zaj {d:Nat} {c:Prop} [Decidable c] {a b:GStep} (ha:c->GDn d a) (hb:¬ c->GDn d b):GDn d (if c then a else b):=by
 split
 ·exact ha ‹_›
 ·exact hb ‹_›
theorem Uv (fr:Frame) (m:String) (w:World):GDn w.drawn (endThrow fr m w):=Qd _
theorem Zcl (P:Program) (fr:Frame) (v:Value) (w:World):GDn w.drawn (endPrinting P fr v w):=by
 unfold endPrinting
 dsimp only
 split
 ·exact Uv _ _ _
 ·trivial
theorem Zm1 (w:World) (fd:Nat) (t:ByteArray) (o:Outcome) (d:Nat):GDn d (endWith w fd t o):=by
 unfold endWith
 dsimp only
 repeat' split
 all_goals trivial
theorem Ze3 (P:Program) (fr:Frame) (cs:List Frame) (dy:Option Dying) (m:String) (w:World):GDn w.drawn (endFatal P fr cs dy m w):=by
 unfold endFatal
 extract_lets
 rename_i shown
 have h:=Za4 P shown w
 generalize shown.run P w=r at h ⊢
 cases r with
 | ok a w'=>exact h
 | halt a w'=>cases a<;>trivial
theorem Zlv (P:Program) (fr:Frame) (d:Dying) (f:Fatal) (w:World):GDn w.drawn (writeOn P fr d f w):=by
 unfold writeOn
 extract_lets
 split
 ·trivial
 ·dsimp only
  split
  all_goals first
   | trivial
   | (rename_i e; exact Zpz e)
theorem Zyf (P:Program) (fr:Frame) (d:Dying) (w:World):GDn w.drawn (die P fr d w):=by
 unfold die
 split
 ·exact Zlv _ _ _ _ _
 ·split
  ·split
   ·exact Qd _
   ·exact Zm1 _ _ _ _ _
  ·dsimp only
   split
   ·exact Qd _
   ·rename_i s _
    have h:=Za4 P (withAddress s) w
    generalize (withAddress s).run P w=r at h ⊢
    cases r with
    | ok a w'=>exact h
    | halt a w'=>trivial
   ·rename_i t recv name _
    have h:=Vz P (invoke (.fn (.method name) #[]) #[.iface t recv]) w #[]
    generalize (invoke (.fn (.method name) #[]) #[.iface t recv]).runT P w #[]=r at h ⊢
    obtain ⟨r,es⟩:=r
    refine GDn.after ?_ _
    dsimp only at h ⊢
    cases r with
    | ok a w' =>
     repeat' split
     all_goals first
      | (rename_i e; cases e; exact h)
      | trivial
      | (rename_i e; cases e)
    | halt a w' =>
     cases a
     all_goals first
      | trivial
      | exact (Zcl P fr _ w').le h
   ·trivial
theorem Zb6 (P:Program) (main:Bool) (fr:Frame) (cs:List Frame) (dy:Option Dying) (v:Value) (w:World):GDn w.drawn (doReturn P main fr cs dy v w):=by
 unfold doReturn
 repeat' split
 all_goals first
  | exact Qd _
  | trivial
theorem Zgu (P:Program) (fr:Frame) (cs:List Frame) (dy:Option Dying) (d:Deferred) (w:World):GDn w.drawn (callDeferred P fr cs dy d w):=by
 unfold callDeferred
 refine Zaj (fun _=>trivial) (fun _=>?_)
 ·have h:=Vz P (invoke d.target d.args) w #[]
  generalize (invoke d.target d.args).runT P w #[]=r at h ⊢
  obtain ⟨r,es⟩:=r
  refine GDn.after ?_ _
  dsimp only at h ⊢
  cases r with
  | ok a w' =>
   have h:w.drawn<=w'.drawn:=h
   cases a with
   | coroswitch c e=>cases e<;>first|exact h|trivial
   | alone e v=>cases e<;>first|exact h|trivial
   | recover =>
    dsimp only
    split<;>exact h
   | _=>first|exact h|trivial
  | halt a w' =>
   have h:w.drawn<=w'.drawn:=h
   cases a
   all_goals first
    | exact h
    | trivial
    | exact (Ze3 P _ _ _ _ w').le h
    | exact (Uv _ _ w').le h
theorem Znc (P:Program) (main:Bool) (fr:Frame) (cs:List Frame) (dy:Option Dying) (w:World):GDn w.drawn (unwind P main fr cs dy w):=by
 unfold unwind
 split
 ·rename_i block _ _ _
  have h:=Vz P (Lw block) w #[]
  generalize (Lw block).runT P w #[]=r at h ⊢
  obtain ⟨r,es⟩:=r
  refine GDn.after ?_ _
  cases r with
  | ok a w'=>exact h
  | halt a w'=>trivial
 ·exact Zgu _ _ _ _ _ _
 ·split
  ·trivial
  ·refine Zaj (fun _=>trivial) (fun _=>?_)
   split
   ·exact Qd _
   ·split
    ·refine Zaj (fun _=>Qd _) (fun _=>?_)
     split
     all_goals first
      | trivial
      | (rename_i e; exact Yx e)
    ·split
     ·exact Zcl _ _ _ _
     ·trivial
  ·split
   ·exact Zb6 _ _ _ _ _ _ _
   ·rename_i fn _
    have h:=Vz P (results fn fr.tmps) w #[]
    generalize (results fn fr.tmps).runT P w #[]=r at h ⊢
    obtain ⟨r,es⟩:=r
    refine GDn.after ?_ _
    cases r with
    | ok a w'=>exact (Zb6 _ _ _ _ _ _ w').le h
    | halt a w'=>cases a<;>trivial
theorem Zqx (P:Program) (fr:Frame) (cs:List Frame) (dy:Option Dying) (g:Nat) (w:World):GDn w.drawn (early P fr cs dy g w):=by
 have hn:∀ w' : World,w.drawn<=w'.drawn->GDn w.drawn (match w'.heap[g]? with
  | some (.pending c elem)=>.go { frame:=fr,callers:=cs,status:=.running,dying:=dy } { w' with heap:=w'.heap.setIfInBounds g (.cells c elem) }
  | _=>.ended (.stuck "early: the variable does not wait" (fr.pos P)) w'):=by
  intro w' h
  split
  ·exact h
  ·trivial
 unfold early
 dsimp only
 refine Zaj (fun _=>hn w (Qd _)) (fun _=>?_)
 split
 ·trivial
 ·refine Zaj (fun _=>hn w (Qd _)) (fun _=>?_)
  refine Zaj (fun _=>hn w (Qd _)) (fun _=>?_)
  split
  ·trivial
  ·exact Qd _
  ·trivial
  ·exact hn w (Qd _)
  ·refine Zaj (fun _=>Qd _) (fun _=>?_)
   refine Zaj (fun _=>hn w (Qd _)) (fun _=>?_)
   have h:=Za4 P (choose (.early g)) w
   generalize (choose (.early g)).run P w=r at h ⊢
   cases r with
   | ok a w' =>
    cases a with
    | zero=>exact hn w' h
    | succ a=>exact h
   | halt a w'=>trivial
theorem Zc0 (P:Program) (listen:Bool) (fr:Frame) (cs:List Frame) (dy:Option Dying) (s:Sem Next) (w:World):GDn w.drawn (stepG.apply P listen fr cs dy s w):=by
 unfold stepG.apply
 have h:Dn w.drawn (if listen then s.runT P w #[] else (s.run P w,#[])).1:=by
  cases listen
  ·exact Za4 P s w
  ·exact Vz P s w #[]
 generalize (if listen then s.runT P w #[] else (s.run P w,#[]))=r at h ⊢
 obtain ⟨r,es⟩:=r
 refine GDn.after ?_ _
 cases r with
 | ok a w' =>
  have h:w.drawn<=w'.drawn:=h
  cases a with
  | callThen d resume saved wrapper=>dsimp only; split<;>exact h
  | row r args=>dsimp only; split<;>exact h
  | stack r saved=>dsimp only; split<;>exact h
  | recover=>dsimp only; split<;>exact h
  | spawn d=>exact Zaj (fun _=>(Uv _ _ w').le h) (fun _=>h)
  | _=>first|exact h|trivial
 | halt a w' =>
  have h:w.drawn<=w'.drawn:=h
  cases a with
  | unsupported u =>
   cases u<;>first|trivial|exact (Zqx P _ _ _ _ w').le h
  | fatal m=>exact (Ze3 P _ _ _ _ w').le h
  | throw m=>exact (Uv _ _ w').le h
  | _=>first|exact h|trivial
theorem Zt3 (P:Program) (listen:Bool) (fr:Frame) (cs:List Frame) (dy:Option Dying) (w:World):GDn w.drawn (stepG.oper P listen fr cs dy w):=by
 unfold stepG.oper
 split
 ·trivial
 ·split<;>exact Zc0 _ _ _ _ _ _ _
theorem Zun (P:Program) (main listen:Bool) (fr:Frame) (cs:List Frame) (dy:Option Dying) (w:World):GDn w.drawn (stepG.exec P main listen fr cs dy w):=by
 have hl:∀ (jump:Option Code),GDn w.drawn (match fr.roundOf with
   | none=>if jump matches none|some .ret then .go { frame:={ fr with mode:=.returning },callers:=cs,status:=.running,dying:=dy } w else .ended (.stuck "exit, goto: no such block or label" (fr.pos P)) w
   | some l =>
    let (r,es):=(Kj l jump).runT P w #[]
    GStep.after (seen P fr.fn es) <| match r with
    | .ok v w=>doReturn P main fr cs dy v w
    | .halt _ w=>.ended (.stuck "range over a function: no such loop" (fr.pos P)) w):=by
  intro jump
  split
  ·exact Zaj (fun _=>Qd _) (fun _=>trivial)
  ·rename_i l _
   have h:=Vz P (Kj l jump) w #[]
   generalize (Kj l jump).runT P w #[]=r at h ⊢
   obtain ⟨r,es⟩:=r
   refine GDn.after ?_ _
   cases r with
   | ok a w'=>exact (Zb6 _ _ _ _ _ _ w').le h
   | halt a w'=>trivial
 unfold stepG.exec
 dsimp only
 split
 all_goals first
  | exact hl none
  | exact hl (some .ret)
  | exact Qd _
  | trivial
  | exact Zc0 _ _ _ _ _ _ _
  | skip
 ·split<;>first|exact Qd _|trivial
 ·rename_i id k _
  cases exitTo id k with
  | none=>exact hl (some (.exit id))
  | some k=>exact Qd _
 ·rename_i id k _
  cases gotoIn id k with
  | none=>exact hl (some (.goto id))
  | some k=>exact Qd _
 ·refine GDn.after ?_ _
  split
  ·rename_i e; exact (Zc0 _ _ _ _ _ _ _).le (Zja e)
  ·trivial
 ·refine GDn.after ?_ _
  split
  all_goals first
   | trivial
   | (rename_i e; exact Zja e)
 ·rename_i row _ _ _
  cases Extern.next row with
  | none=>trivial
  | some e=>exact Zc0 _ _ _ _ _ _ _
 ·refine Zaj (fun _=>Qd _) (fun _=>?_)
  split
  ·rename_i e; exact Yx e
  ·trivial
 ·exact Zaj (fun _=>Zt3 _ _ _ _ _ _) (fun _=>Qd _)
theorem Zpw (P:Program) (main:Bool) (g:Goroutine) (w:World) (listen:Bool):GDn w.drawn (stepG P main g w listen):=by
 unfold stepG
 split
 rename_i fr cs _ dy _
 split
 ·exact Zyf _ _ _ _
 ·exact Zun _ _ _ _ _ _ _
 ·exact Znc _ _ _ _ _ _
def MDn (d:Nat):Stepped->Prop
 | .next m=>d<=m.world.drawn
 | .ended _ _=>True
theorem Zhk (P:Program) (rest:Rest) (gs:Array Goroutine) (i:Nat) (g:Goroutine) (cases_:Array CommCase) (blocking:Bool) (shape:CommShape) (w:World):MDn w.drawn (communicate P rest gs i g cases_ blocking shape w).1:=by
 unfold communicate
 dsimp only
 split
 ·trivial
 ·split
  ·split
   ·split
    ·rename_i w' e
     unfold waitingAt at e
     split at e
     ·split at e
      ·cases e; exact Qd _
      ·cases e
     ·cases e; exact Qd _
    ·trivial
   ·exact Qd _
  ·split
   ·trivial
   ·rename_i k c way w' e
    have h:w.drawn<=w'.drawn:=Yx e
    split
    ·split
     ·rename_i e2
      exact Re h (Yx e2)
     ·trivial
    ·exact h
    ·exact h
    ·split
     ·exact h
     ·split
      ·rename_i e2
       exact Re h (Yx e2)
      ·trivial
    ·exact h
    ·exact h
    ·trivial
theorem Zlc (P:Program) (gs:Array Goroutine) (rest:Rest) (w:World):MDn w.drawn (Qct P gs rest w):=by
 unfold Qct
 dsimp only
 split
 ·split
  ·trivial
  ·split
   ·trivial
   ·split
    ·rename_i e
     exact Yx e
    all_goals trivial
 ·trivial
theorem Zq1 (w:World) (c:Nat):(drain w c).2.drawn=w.drawn:=by
 unfold drain
 split<;>rfl
theorem Zhw (m:Machine) (k:Nat) (t:Timer) (a b:Nat):(retime m k t a b).2.world.drawn=m.world.drawn:=by
 unfold retime
 dsimp only
 split
 ·exact Zq1 _ _
 ·rfl
theorem Zjk {m:Machine} {var:Addr} {f:Nat->Timer->Value × Machine} {v:Value} {m' : Machine} (hf:∀ k t,(f k t).2.world.drawn=m.world.drawn) (e:timerOp.named m var f = .ok (v,m')):m'.world.drawn=m.world.drawn:=by
 unfold timerOp.named at e
 split at e
 ·rename_i k _
  have h:=hf k (m.rest.timers.getD k default)
  rw [Except.ok.inj e] at h
  exact h
 ·cases e
theorem Zl2 {m m' : Machine} {op:TimerOp} {v:Value} (e:timerOp m op = .ok (v,m')):m'.world.drawn=m.world.drawn:=by
 unfold timerOp at e
 split at e
 ·split at e
  ·cases e; rfl
  ·split at e
   ·split at e
    ·cases e
    ·cases e; rfl
   ·cases e
 ·exact Zjk (fun k t=>Zhw _ _ _ _ _) e
 ·split at e
  ·rename_i m2 hm
   have h2:m2.world.drawn=m.world.drawn:=by
    unfold timerOp.opened at hm
    split at hm
    ·split at hm
     ·cases hm; rfl
     ·cases hm
    ·cases hm; rfl
   exact Zjk (fun k t=>(Zhw _ _ _ _ _).trans h2) e
  ·cases e
 ·cases e; rfl
theorem Zfu (P:Program) (m:Machine) (i:Nat) (b:Bool):MDn m.world.drawn (runT P m i b).1:=by
 unfold runT
 dsimp only
 generalize m.gs.swapAt! i { (default:Goroutine) with status:=.finished }=gg
 obtain ⟨g,gs⟩:=gg
 dsimp only
 have h:=Zpw P (i==0) g m.world b
 generalize stepG P (i==0) g m.world b=s at h ⊢
 cases s with
 | ended o w es=>trivial
 | comm g2 c bl sh w es =>
  have h:m.world.drawn<=w.drawn:=h
  have:=Zhk P m.rest gs i g2 c bl sh w
  dsimp only
  generalize communicate P m.rest gs i g2 c bl sh w=r at this ⊢
  obtain ⟨r,more⟩:=r
  cases r with
  | next m2=>exact Re h this
  | ended o w=>trivial
 | go g2 w es=>exact h
 | spawn g2 c w es=>exact h
 | count g2 w es =>
  dsimp only
  split
  ·trivial
  ·exact h
 | alone g2 on w es=>exact h
 | collect g2 w es =>
  have h:m.world.drawn<=w.drawn:=h
  have:=Zlc P (gs.setIfInBounds i g2) m.rest w
  dsimp only
  generalize Qct P (gs.setIfInBounds i g2) m.rest w=r at this ⊢
  cases r with
  | next m2=>exact Re h this
  | ended o w=>trivial
 | watch g2 w es=>exact h
 | newcoro g2 c d w es=>exact h
 | coroswitch g2 c ex w es =>
  have h:m.world.drawn<=w.drawn:=h
  dsimp only
  split
  ·exact h
  ·exact h
  ·trivial
 | timer g2 op w es =>
  have h:m.world.drawn<=w.drawn:=h
  dsimp only
  split
  ·rename_i e
   have:=Zl2 e
   show m.world.drawn<=_
   rw [this]
   exact h
  ·exact h
  ·trivial
  ·trivial
theorem Zpy (P:Program) (m:Machine) (k:Nat):MDn m.world.drawn (serve P m k):=by
 unfold serve
 split
 ·trivial
 ·exact Qd _
 ·dsimp only
  split
  ·trivial
  ·exact Qd _
def VDn (d:Nat):Move->Prop
 | .goroutine m _=>d<=m.world.drawn
 | .machine s _=>MDn d s
theorem MDn.le {d d' : Nat} {s:Stepped} (h:MDn d s) (hd:d'<=d):MDn d' s:=by cases s<;>first|exact Re hd h|trivial
theorem VDn.le {d d' : Nat} {s:Move} (h:VDn d s) (hd:d'<=d):VDn d' s:=by cases s<;>first|exact Re hd h|exact MDn.le h hd
theorem Zhb (P:Program) (m:Machine) (rs:List Nat) (d:Nat) (hd:d<=m.world.drawn):VDn d (match (choose (.sched rs.length)).run P m.world with
   | .halt _ w=>.machine (.ended (.stuck "sched" "") w)
   | .ok k world =>
    if rs.length<=1 then .goroutine { m with world } (rs.getD k 0) else
    match (choose (.extern "sched.slice" 65536)).run P world with
    | .halt _ w=>.machine (.ended (.stuck "sched.slice" "") w)
    | .ok n world=>.goroutine { m with world,rest:={ m.rest with slice:=if n=0 then none else some (rs.getD k 0,n) } } (rs.getD k 0)):=by
 split
 ·trivial
 ·rename_i e
  have h:=Yx e
  split
  ·exact Re hd h
  ·split
   ·trivial
   ·rename_i e2
    exact Re hd (Re h (Yx e2))
theorem Zfp (P:Program) (m:Machine):VDn m.world.drawn (askOn P m):=by
 unfold askOn
 dsimp only
 split
 ·trivial
 ·rename_i k w e
  have h:m.world.drawn<=w.drawn:=Yx e
  split
  ·exact (Zpy P { m with world:=w } _).le h
  ·split
   ·split
    ·exact h
    ·split
     ·exact h
     ·split
      ·trivial
      ·trivial
   ·split
    ·exact Zhb P { m with world:=w } _ _ h
    ·split
     ·trivial
     ·rename_i w2 e2
      exact Zhb P { m with world:=w2 } _ _ (Re h (Yx e2))
     ·rename_i w2 e2
      exact Re h (Yx e2)
     ·rename_i w2 e2
      have q:w.drawn<=w2.drawn:=Ybk e2
      exact Zhb P ({ m with world:=w2 }.advanceTo _) _ _ (Re h q)
theorem Zcn (P:Program) (m:Machine):VDn m.world.drawn (ask P m):=by
 unfold ask
 split
 ·split
  ·trivial
  ·rename_i w e
   have h:m.world.drawn<=w.drawn:=Yx e
   have h2:=Zlc P m.gs m.rest w
   generalize Qct P m.gs m.rest w=r at h2 ⊢
   cases r with
   | next m2=>exact (Zfp P m2).le (Re h h2)
   | ended o w=>trivial
  ·exact (Zfp P _).le (Ybk (by assumption))
 ·exact Zfp P m
theorem Zt6 (P:Program) (m:Machine):VDn m.world.drawn (move P m):=by
 unfold move
 split
 ·split
  ·exact Qd _
  ·trivial
 ·split
  ·split
   ·exact Qd _
   ·exact Zcn P { m with rest:={ m.rest with slice:=none } }
  ·exact Zcn P m
theorem Ztt {P:Program} {m m' : Machine} (h:step P m = .next m'):m.world.drawn<=m'.world.drawn:=by
 unfold step stepT at h
 have hm:=Zt6 P m
 generalize move P m=v at h hm
 cases v with
 | goroutine m2 i =>
  dsimp only at h
  have h2:=Zfu P m2 i true
  rw [h] at h2
  exact Re hm h2
 | machine s ops =>
  dsimp only at h
  subst h
  exact hm
theorem Zpv {P:Program} {m m' : Machine} (h:Steps P m m'):m.world.drawn<=m'.world.drawn:=by
 obtain ⟨n,h⟩:=h
 induction n generalizing m with
 | zero=>cases h; exact Qd _
 | succ n ih =>
  rw [runN] at h
  split at h
  ·rename_i m2 e
   exact Re (Ztt e) (ih h)
  ·rename_i e
   exact absurd h (e _)
theorem Calls.drawn {P:Program} {f:FuncId} {args:Array Value} {w:World} {R:Ending->World->Prop} (h:Calls P f args w R) (hr:∀ e w',R e w'->∃ v,e = .returned v):Calls P f args w fun e w'=>R e w'/\w.drawn<=w'.drawn:=by
 intro cs
 obtain ⟨e,w',fr,r,c,x⟩:=h cs
 obtain ⟨v,rfl⟩:=hr e w' r
 exact ⟨_,w',fr,⟨r,Zpv (m:=lone _ _ w) (m':=lone fr cs w') c⟩,c,x⟩
open Go Go.RowKit Go.Sort Go.Proofs
variable {r r' : Locs} {D D' : Nat->Prop} {I I' : Imm} {w w' w0:World} {I0:Imm} {B n n' k:Nat} {pr:Nat->Obj->Prop} {h:Nat->ABlk} {P:Program}
theorem HR.grow (H:HR B w0 I0 pr r I D h n w) (os:Array Obj):HR B w0 I0 pr r I D h n (Qap w os)/\Step r D I w r D I (Qap w os):=by
 have st:Step r D I w r D I (Qap w os):=⟨fun _ hd=>⟨hd,rfl⟩,fun b o hi=>⟨hi,cell?_grow w os _ (H.imm b o hi)⟩,by simp⟩
 refine ⟨⟨H.below.trans ⟨rfl,rfl,rfl,by simp,fun b hb=>heap_grow_old w os (Tc hb H.base)⟩,?_,?_,?_,H.live,?_,H.inj,?_,H.protK,H.immB⟩,st⟩
 ·have:=H.base; simp; omega
 ·intro b o hi; have:=H.imm b o hi; simp; omega
 ·intro id hd; have:=H.dom id hd; simp; omega
 ·intro id
  by_cases hl:(h id).live=true
  ·exact (H.blk id).mono st rfl (fun _=>heap_grow_old w os (H.dom id (H.live id hl)).2) (fun _ _ _ _ _ hx=>hx)
  ·have:h id = .dead:=by cases hx:h id<;>simp_all [ABlk.live]
   rw [this]; trivial
 ·intro b o hp
  have h1:=H.prot b o hp
  exact ⟨(heap_grow_old w os (Qt.1 h1.1).1).trans h1.1,h1.2⟩
theorem HR.ahead (H:HR B w0 I0 pr r I D h n w) (m:Nat):HR B w0 I0 pr r I D h n (Sort.ahead w m)/\Step r D I w r D I (Sort.ahead w m) :=
 ⟨⟨⟨H.below.os,H.below.tape,H.below.output,H.below.size,H.below.block⟩,H.base,H.imm,H.dom,H.live,fun id=>(H.blk id).mono ⟨fun _ hd=>⟨hd,rfl⟩,fun _ _ hi=>⟨hi,rfl⟩,Qd _⟩ rfl (fun _=>rfl) (fun _ _ _ _ _ hx=>hx),H.inj,H.prot,H.protK,H.immB⟩,⟨fun _ hd=>⟨hd,rfl⟩,fun _ _ hi=>⟨hi,rfl⟩,Qd _⟩⟩
theorem Zns {α:Type} [Inhabited α] (enc:α->List Value) (es:Nat) (w:World) (blk off:Nat) (d:Array α) {cs:Array Value} {T:TypeId} {fz:Nat × Nat} (hc:w.heap[blk]?=some (.cells cs T fz)) :
  (putRowK enc es w blk off d).heap[blk]?=some (.cells (putCells id off (flatK enc es d) cs) T fz):=by
 simp [putRowK,putRow,mapBlock,Fh,hc,onCells]
theorem Zfw {α:Type} [Inhabited α] (enc:α->List Value) (es:Nat) (w:World) (blk off:Nat) (d:Array α) {b:Nat} (hb:b≠blk):(putRowK enc es w blk off d).heap[b]?=w.heap[b]?:=by
 simp [putRowK,putRow,mapBlock,Fh,Ne.symm hb]
theorem HR.putRow (H:HR B w0 I0 pr r I D h n w) {id es:Nat} {elems elems' : List (List AV)} (hb:h id = .row es elems true true) {α:Type} [Inhabited α] (enc:α->List Value) (d:Array α) (hs:d.size=elems.length) (hl:elems'.length=elems.length)
  (he:∀ (i:Nat) (e:List AV),elems'[i]?=some e->e.length=es/\∀ (j:Nat) (c:AV),e[j]?=some c->VR r I w (fun _=>False) c ((enc d[i]!)[j]!)) :
  HR B w0 I0 pr r I D (hupd h id (.row es elems' true true)) n (putRowK enc es w (r id).blk (r id).off d)/\Step r D I w r D I (putRowK enc es w (r id).blk (r id).off d):=by
 have hB:=H.blk id
 rw [hb] at hB
 obtain ⟨h1,h2,h3,cs,T,fz,h4,h5,h6,h7,_⟩:=hB
 obtain ⟨g1,g2,rfl⟩:=h7 rfl
 have hh:=Zns enc es w (r id).blk (r id).off d h4
 refine H.write (k:=id) (w':=putRowK enc es w (r id).blk (r id).off d) (by rw [hb]; rfl) ⟨rfl,rfl,rfl,by simp [putRowK],fun b hlt=>Zfw enc es w _ _ d (by omega)⟩ g1 (fun o ho=>(g2 o ho).elim) (fun o ho=>?_) (by simp [putRowK]) (fun b hne=>Zfw enc es w _ _ d hne) _ (fun st=>?_)
 ·rw [h4] at ho
  obtain rfl:=Sr ho
  exact ⟨fun l=>by simp,fun l=>by simp⟩
 ·refine ⟨⟨h1.1,by rw [hl]; exact h1.2⟩,by rw [hl]; exact h2,fun i e hi=>(he i e hi).1,_,T,(0,0),hh,by simpa [putCells] using h5,fun i e j c hi hj=>?_,fun _=>⟨g1,g2,rfl⟩,by simp⟩
  obtain ⟨e1,e2⟩:=he i e hi
  have hil:i<elems.length:=by rw [<-hl]; exact (Qi.1 hi).1
  have hjl:j<es:=by rw [<-e1]; exact (Qi.1 hj).1
  have m1:i*es+es<=elems.length*es:=by
   have:=Rt es (show i+1<=elems.length from hil); rwa [Nat.add_mul,Nat.one_mul] at this
  have m2:=Rt es h2
  refine ⟨(enc d[i]!)[j]!,?_,VR.weak ((e2 j c hj).mono ⟨fun _ h=>h.elim,st.imm,st.size⟩:VR r I _ (fun _=>False) c _) (fun _ h=>h.elim)⟩
  have q1:(r id).off+i*es+j<cs.size:=by omega
  have q2:(i*es+j) / es=i:=(blk_iff es i _ (by omega)).1 ⟨by omega,by omega⟩
  have q3:(i*es+j)%es=j:=by rw [Nat.mod_eq_sub_div_mul,q2]; omega
  have q4:i*es+j<d.size*es:=by rw [hs]; omega
  have q5:=get_flatK enc es d _ q4
  rw [q2,q3] at q5
  simp only [putCells,Array.getElem?_mapIdx,Sv q1,Nr]
  rw [if_pos ⟨by omega,by rw [size_flatK]; omega⟩,show (r id).off+i*es+j-(r id).off=i*es+j by omega,q5]
  rfl
structure SortsK (P:Program) (f:FuncId) (es:Nat):Prop where
 some:∀ (m:Nat) [Inhabited (Fin m)] (enc:Fin m->List Value) (_:∀ x,(enc x).length=es) (_:∀ x,∀ v∈enc x,v.oneCell'=true) (cf:Fin m->Fin m->Int) (_:SWO (ltOf cf)) (g:Nat) (blk off cap:Nat) (d:Array (Fin m)) (w:World)
  (_:∀ args w,(callFunc g args).run P w = .ok (.enter g args) w) (_:CmpLays P g #[] enc es cf blk off d.size w) (_:HoldsK enc es w blk off d) (_:blk<w.heap.size) (_:d.size<4611686018427387904),
  Calls P f #[.slice (some ⟨blk,off,none⟩) d.size cap,.func (.func g) #[] #[]] w fun e w' =>
   e = .returned (.tuple #[])/\∃ d' n os,PermIn 0 d.size d d'/\SortedIn (ltOf cf) 0 d.size d'/\w'=sortWorldK enc es w blk off n d' os
 none:∀ (p:Option Addr) (cap:Nat) (fv:Value) (w:World),Calls P f #[.slice p 0 cap,fv] w fun e w'=>e = .returned (.tuple #[])/\w'=w
def Yh2 (P:Program) (g:FuncId) (args:List AV) (res:Int):Prop :=
 ∀ (I:Imm) (w:World) (vs:Array Value),(∀ b o,I b o->b<w.heap.size)->VRs r0 I w (fun _=>False) args vs ->
  Calls P g vs w fun e w'=>e = .returned (.int .i64 res)/\∃ q os,w'=Qap (w.drewN q) os
theorem Zfv {g:FuncId} {args:List AV} {n:Int} (h:PCall P g args ⟨.int .i64 n,[]⟩):Yh2 P g args n:=by
 intro I w vs hI hv
 have h1:=callsIn_wide.1 (h.2 I w vs hI hv)
 refine (Calls.drawn h1 (fun e w' ⟨x,_,_,hx,_⟩=>⟨x,hx⟩)).mono ?_
 rintro e w' ⟨⟨x,r',I',rfl,hp⟩,hd⟩
 have hx:x = .int .i64 n:=by
  have:=hp.val
  cases this
  rfl
 refine ⟨by rw [hx],?_⟩
 obtain ⟨⟨d,os⟩,rfl⟩:=regrown_of_below hp.below
 refine ⟨d-w.drawn,os,?_⟩
 have hd:w.drawn<=d:=hd
 have:redrawn w d=w.drewN (d-w.drawn):=by
  show ({ w with drawn:=d }:World) = { w with drawn:=w.drawn+(d-w.drawn) }
  congr 1; omega
 rw [this]
theorem Zj1 {α:Type} {a:Array α} {n:Nat} (h:a.size=n):a.extract 0 n=a:=by subst h; exact Array.extract_size
theorem arr2 {vs:Array Value} (h:vs.size=2):∃ a b,vs = #[a,b]:=by
 obtain ⟨l⟩:=vs
 match l,h with
 | [a,b],_=>exact ⟨a,b,rfl⟩
theorem Zfr {f gf es:Nat} (hf:FnOK P f) (hS:SortsK P f es) (hes:0<es) (eg:∀ args w,(callFunc gf args).run P w = .ok (.enter gf args) w) {β:Type} (gc:β->List AV) (hlen:∀ b,(gc b).length=es) (hone:∀ b,(gc b).all AV.one=true) (hpu:∀ b,Yo (gc b)=true)
  (cmp:β->β->Int) {xs:List β} (hq:∀ a∈xs,∀ b∈xs,Yh2 P gf [.agg (gc a),.agg (gc b)] (cmp a b)) (hO:SWO (ltOf cmp)) (hn:xs.length<4611686018427387904) {σ:St} {id:Nat} (hrow:σ.get id = .row es (xs.map gc) true true)
  {K:AV->St->Prop} (hK:∀ ys:List β,ys.Perm xs->ys.Pairwise (fun a b=>¬ cmp b a<0)->K (.tup []) (σ.set id (.row es (ys.map gc) true true))):SCt P f [.asl id 0 xs.length,.func gf [] []] σ K:=by
 refine ⟨hf,fun B w0 I0 pr r I D w vs H hv=>?_⟩
 obtain ⟨v0,v1,rfl⟩:=arr2 hv.1
 have hv0:=hv.2 0 _ v0 rfl rfl
 have hv1:=hv.2 1 _ v1 rfl rfl
 have hget:∀ ys:List β,(σ.set id (.row es (ys.map gc) true true)).get=hupd σ.get id (.row es (ys.map gc) true true):=fun ys=>by
  funext i; rw [Kt]; rfl
 have hv1e:v1 = .func (.func gf) #[] #[]:=by
  cases hv1 with
  | func _ _ _ _ a b h0 h1 =>
   rw [Ja (show a.size=0 by simpa using h0),Ja (show b.size=0 by simpa using h1)]
 subst hv1e
 cases hv0 with
 | asl _ _ _ _ hd hc =>
  have hB:=H.blk id
  rw [hrow] at hB
  obtain ⟨h1,h2,h3,cs,T,fz,h4,h5,h6,h7,_⟩:=hB
  obtain ⟨g1,g2,rfl⟩:=h7 rfl
  rw [Qj] at h1 h2
  have hz0:(r id).off+0*(r id).es=(r id).off:=by omega
  rw [hz0]
  by_cases h0:xs=[]
  ·subst h0
   refine (callsIn_wide.2 (hS.none _ _ _ w)).mono fun e w' hh=>?_
   obtain ⟨rfl,rfl⟩:=hh
   refine ⟨_,.tup [],σ.set id (.row es [] true true),r,I,D,rfl,hK [] (List.Perm.refl _) .nil,?_,.tup _ _ _ rfl (by simp),Step.refl _ _ _ _⟩
   have:(σ.set id (.row es [] true true)).get=σ.get:=funext fun i=>by
    rw [Kt]
    split
    ·rename_i e; subst e; exact hrow.symm
    ·rfl
   rw [this]; exact H
  ·have hpos:0<xs.length:=Jn.2 h0
   letI:Inhabited (Fin xs.length):=⟨⟨0,hpos⟩⟩
   obtain ⟨enc,henc⟩:∃ enc:Fin xs.length->List Value,enc=fun i=>(Rv es).map fun j=>(cs[(r id).off+i.1*es+j]?).getD undef:=⟨_,rfl⟩
   obtain ⟨d,hd0⟩:∃ d:Array (Fin xs.length),d=Array.ofFn fun i=>i:=⟨_,rfl⟩
   have hds:d.size=xs.length:=by simp [hd0]
   have hdi:∀ (i:Nat) (hi:i<xs.length),d[i]! = ⟨i,hi⟩:=fun i hi=>by
    rw [getElem!_pos d i (by rw [hds]; exact hi)]; simp [hd0]
   have hk:∀ x,(enc x).length=es:=fun x=>by simp [henc]
   have hej:∀ (x:Fin xs.length) (j:Nat),j<es->(enc x)[j]! = (cs[(r id).off+x.1*es+j]?).getD undef:=fun x j hj=>by
    rw [getElem!_pos _ j (by rw [hk]; exact hj)]; simp [henc]
   have hcell:∀ (x:Fin xs.length) (j:Nat) (c:AV),(gc xs[x])[j]?=some c->j<es/\VR r I w (fun _=>False) c ((enc x)[j]!):=fun x j c hc=>by
    have hj:j<es:=by rw [<-hlen xs[x]]; exact (Qi.1 hc).1
    obtain ⟨v,a,b⟩:=h6 x.1 (gc xs[x]) j c (by simp) hc
    refine ⟨hj,?_⟩
    rw [hej x j hj,a]
    exact b.weak fun _ h=>by cases h.1
   have h1' : ∀ x,∀ v∈enc x,v.oneCell'=true:=fun x v hv=>by
    obtain ⟨j,hj,rfl⟩:=List.mem_iff_getElem.1 hv
    have hj2:j<es:=by rw [<-hk x]; exact hj
    have hjl:j<(gc xs[x]).length:=by rw [hlen]; exact hj2
    have hv:=(hcell x j _ (Qe hjl)).2
    rw [getElem!_pos _ j hj] at hv
    exact hv.one (Rf.1 (hone xs[x]) _ (Qn hjl))
   have hH:HoldsK enc es w (r id).blk (r id).off d:=by
    intro q hq
    rw [size_flatK,hds] at hq
    have hdq:q / es<xs.length:=Nat.div_lt_of_lt_mul (by rw [Pu]; exact hq)
    have hmq:q%es<es:=Nat.mod_lt _ hes
    have hF:=get_flatK enc es d q (by rw [hds]; exact hq)
    rw [hdi _ hdq,hej _ _ hmq] at hF
    have e:(r id).off+q / es*es+q%es=(r id).off+q:=by have:=Nat.div_add_mod q es; rw [Pu] at this; omega
    dsimp only at hF
    rw [e] at hF
    have m2:=Rt es h2
    have hle:(r id).off+q<cs.size:=by omega
    rw [Sv hle] at hF
    refine ⟨?_,by simp [World.frozen?,h4]⟩
    rw [hF]
    simp [World.cell?,h4,hle]
   have hblk:(r id).blk<w.heap.size:=(Qt.1 h4).1
   have hcmp:CmpLays P gf #[] enc es (fun i j=>cmp xs[i] xs[j]) (r id).blk (r id).off d.size w:=by
    intro m os dk hdk x y
    have hW:∀ b o,I b o->(sortWorldK enc es w (r id).blk (r id).off m dk os).cell? ⟨b,o,none⟩=w.cell? ⟨b,o,none⟩:=fun b o hi=>by
     have hb:b≠(r id).blk:=fun e=>g2 o (e ▸ hi)
     unfold sortWorldK
     rw [cell?_grow _ _ _ (by rw [size_putRowK]; exact H.imm b o hi),cell?_putRowK_other _ _ _ _ _ _ _ hb]; rfl
    have hsz:=size_sortWorldK_c enc es w (r id).blk (r id).off m dk os
    have hagg:∀ z:Fin xs.length,VR r0 I (sortWorldK enc es w (r id).blk (r id).off m dk os) (fun _=>False) (.agg (gc xs[z])) (.agg (enc z).toArray):=fun z =>
     .agg _ _ _ (by simp [hk,hlen]) fun j c v hc hv=>by
      obtain ⟨hj,q⟩:=hcell z j c hc
      have:v=(enc z)[j]!:=by
       rw [getElem!_pos _ j (by rw [hk]; exact hj)]
       simpa [hk,hj] using hv.symm
      rw [this]
      exact q.mono ⟨fun _ h=>h.elim,fun b o hi=>⟨hi,hW b o hi⟩,hsz⟩
    refine hq _ (Qn _) _ (Qn _) I _ _ (fun b o hi=>Tc (H.imm b o hi) hsz) ⟨rfl,fun i c v hc hv=>?_⟩
    match i with
    | 0=>cases hc; cases hv; exact hagg x
    | 1=>cases hc; cases hv; exact hagg y
    | i+2=>simp at hc
   have hSW:SWO (ltOf fun i j:Fin xs.length=>cmp xs[i] xs[j]):=⟨fun x=>hO.irrefl _,fun x y z=>hO.trans _ _ _,fun x y z=>hO.ntrans _ _ _⟩
   have hcall:=hS.some xs.length enc hk h1' _ hSW gf _ _ ((r id).cap-0) d w eg hcmp hH hblk (by rw [hds]; exact hn)
   rw [hds] at hcall
   refine (callsIn_wide.2 hcall).mono fun e w' hh=>?_
   obtain ⟨rfl,d',m,os,hp,hs,rfl⟩:=hh
   have hs' : d'.size=xs.length:=hp.1.trans hds
   have hdl:d.toList.map (fun i=>xs[i])=xs:=by
    refine Qaq (by simp [hds]) fun i a b=>?_
    simp [hd0]
   have hperm:(d'.toList.map fun i=>xs[i]).Perm xs:=by
    have:=hp.2.2
    rw [Zj1 hs',Zj1 hds] at this
    have:=this.map (fun i=>xs[i])
    rwa [hdl] at this
   have hpair:(d'.toList.map fun i=>xs[i]).Pairwise (fun a b=>¬ cmp b a<0):=by
    rw [List.pairwise_iff_getElem]
    intro i j hi hj hij
    have hj' : j<xs.length:=by rw [<-hs']; simpa using hj
    have:=hs i j (Nat.zero_le _) hij hj'
    rw [getElem!_pos d' j (by omega),getElem!_pos d' i (by omega)] at this
    unfold ltOf at this
    simpa using this
   obtain ⟨Ha,Sa⟩:=H.ahead m
   obtain ⟨Hp,Sp⟩:=Ha.putRow (elems':=(d'.toList.map fun i=>xs[i]).map gc) hrow enc d' (by rw [hs',Qj]) (by simp [hs']) (fun i e hi=>by
    have hil:i<xs.length:=by
     have:=(Qi.1 hi).1
     simpa [hs'] using this
    have hi2:i<d'.size:=by omega
    have he:e=gc xs[d'[i]]:=by
     simp only [Rr,Array.getElem?_toList,Sv hi2,Nr,Qf] at hi
     exact hi.symm
    subst he
    refine ⟨hlen _,fun j c hc=>?_⟩
    rw [getElem!_pos d' i hi2]
    exact ((hcell d'[i] j c hc).2).mono ⟨fun _ h=>h.elim,fun b o hi=>⟨hi,rfl⟩,Qd _⟩)
   obtain ⟨Hg,Sg⟩:=Hp.grow os
   refine ⟨_,.tup [],σ.set id (.row es ((d'.toList.map fun i=>xs[i]).map gc) true true),r,I,D,rfl,hK _ hperm hpair,?_,.tup _ _ _ rfl (by simp),(Sa.trans Sp).trans Sg⟩
   rw [hget]
   exact Hg
open Go Go.RowKit
variable {r r' : Locs} {D D' D0:Nat->Prop} {I I' : Imm} {w w' w0:World} {I0:Imm} {B n n' k N:Nat} {pr pr' : Nat->Obj->Prop} {h h' : Nat->ABlk} {P:Program}
def Ziz (ops:List Oper) (n:Nat):Bool:=match befs ops 0 [] with
 | some ms=>(Rv ops.length).all fun q=>Nat.blt q n||(Rv q).all fun p=>Nat.testBit (nth ms q) p
 | none=>false
theorem Ziy {ops:List Oper} {n:Nat} (h:Ziz ops n=true):∀ S,Zpn ops S->∀ p q,n<=q->q<ops.length->p<q->(S q=true\/∀ a,On ops q a->S a=true)->S p=true:=by
 unfold Ziz at h
 split at h
 ·rename_i ms hms
  obtain ⟨h1,h2⟩:=Zd5 (all:=ops) ops 0 [] ms hms (fun i=>by simp) rfl (fun i p _ hi=>by omega) (fun i p hi=>by omega)
  intro S hS p q hq hql hp hor
  have up:∀ q,(nth ms q).testBit p=true->(∀ a,On ops q a->S a=true)->S p=true:=by
   intro q
   induction q using Ji with
   | ind q ih =>
    intro hb ha
    obtain ⟨a,hoa,hor⟩:=h2 q p hb
    have hsa:=ha a hoa
    rcases hor with rfl|hor
    ·exact hsa
    ·exact ih a (h1 q a hoa) hor (fun b hb=>hS a b hsa hb)
  have hedge:∀ a,On ops q a->S a=true:=by
   rcases hor with hs|hs
   ·exact fun a ha=>hS q a hs ha
   ·exact hs
  have e:=Rf.1 h q (Rx.2 hql)
  rw [Bool.or_eq_true] at e
  rcases e with e|e
  ·rw [Th] at e; omega
  ·exact up q (Rf.1 e p (Rx.2 hp)) hedge
 ·cases h
theorem Zdq {ops:List Oper} {listed:Array Bool} (hsz:listed.size=ops.length) (q:Nat):q∈Oc .any ops.toArray listed↔(q<ops.length/\listed.getD q false=false/\∀ p,On ops q p->listed.getD p false=true):=by
 rw [mem_ready]
 constructor
 ·rintro ⟨h1,o,ho,h2⟩
  have ho:ops[q]?=some o:=by simpa using ho
  have hq:=(Qi.1 ho).1
  refine ⟨hq,?_,?_⟩
  ·simp only [Qy] at h1 ⊢
   rw [Sv (by omega)] at h1 ⊢
   exact h1
  ·rintro p ⟨o',ho',hp⟩
   rw [ho,Qf] at ho'
   subst ho'
   obtain ⟨e,he,hb,rfl⟩:=mem_bindsOn.1 hp
   exact h2 e (by simpa using he) hb
 ·rintro ⟨hq,h1,h2⟩
  refine ⟨?_,ops[q],by simp [hq],fun e he hb=>?_⟩
  ·simp only [Qy] at h1 ⊢
   rw [Sv (by omega)] at h1 ⊢
   exact h1
  ·exact h2 e.on ⟨ops[q],by simp [hq],mem_bindsOn.2 ⟨e,by simpa using he,hb,rfl⟩⟩
theorem Zsp {listed:Array Bool} {q:Nat} (hq:q<listed.size) (i:Nat):(listed.setIfInBounds q true).getD i false=setS (fun q=>listed.getD q false) q i:=by
 simp only [setS,Qy,Array.getElem?_setIfInBounds]
 by_cases e:i=q
 ·subst e; rw [if_pos rfl,if_pos hq,if_pos rfl]; rfl
 ·rw [if_neg (fun h=>e h.symm),if_neg e]
theorem Zrk {F:Fence} {ops:List Oper} {n:Nat} (ht:Ziz ops n=true) {Q:Exit->Act->World->Prop}:∀ (l:List Oper) (i fuel:Nat) (listed:Array Bool) (a:Act) (w:World),ops.drop i=l->n<=i->i<=ops.length->listed.size=ops.length->Zpn ops (fun q=>listed.getD q false) ->
  (∀ p,p<ops.length->(listed.getD p false=true↔p<i))->l.length<=fuel->wpListIn F 0 P ops.toArray Q l a w->wpAnyIn F 0 P .any ops.toArray Q fuel listed a w
 | [],i,fuel,listed,a,w,hl,hn,hil,hsz,hcl,hall,hf,hw=>by
  have hi:i=ops.length:=by
   have:=congrArg Oa hl
   rw [Ni,Rh] at this
   omega
  refine wpAnyIn_done ?_ hw fuel
  cases hr:Oc .any ops.toArray listed with
  | nil=>rfl
  | cons q l =>
   obtain ⟨h1,h2,_⟩:=(Zdq hsz q).1 (by rw [hr]; simp)
   rw [(hall q h1).2 (by omega)] at h2
   cases h2
 | o::l,i,0,listed,a,w,hl,hn,hil,hsz,hcl,hall,hf,hw=>by simp at hf
 | o::l,i,fuel+1,listed,a,w,hl,hn,hil,hsz,hcl,hall,hf,hw=>by
  have hlt:i<ops.length:=by
   rcases Wh i ops.length with c|c
   ·exact c
   ·rw [List.drop_of_length_le c] at hl; cases hl
  rw [List.drop_eq_getElem_cons hlt,List.cons.injEq] at hl
  obtain ⟨ho,hl⟩:=hl
  have hio:ops.toArray[i]?=some o:=by simp [hlt,ho]
  have only:∀ q,q∈Oc .any ops.toArray listed->q=i:=fun q hq=>by
   obtain ⟨h1,h2,h3⟩:=(Zdq hsz q).1 hq
   have hqi:i<=q:=by
    rcases Wh q i with c|c
    ·rw [(hall q h1).2 c] at h2; cases h2
    ·exact c
   rcases Wh i q with c|c
   ·have:=Ziy ht _ hcl i q (by omega) h1 c (.inr h3)
    have:=(hall i hlt).1 this
    omega
   ·omega
  have step:wpOpIn F 0 P ops.toArray Q i (wpAnyIn F 0 P .any ops.toArray Q fuel (listed.setIfInBounds i true)) a w:=by
   have h0:wpOpIn F 0 P ops.toArray Q i (wpListIn F 0 P ops.toArray Q l) a w:=by
    unfold wpOpIn
    rw [hio]
    exact hw
   refine wpOpIn_mono (fun a' w' h1=>?_) h0
   have hset:=fun j=>Zsp (listed:=listed) (q:=i) (by omega) j
   refine Zrk ht l (i+1) fuel _ a' w' hl (by omega) (by omega) (by simpa using hsz) ?_ (fun p hp=>?_) (by simp only [List.length_cons] at hf; omega) h1
   ·intro q p hq hp
    dsimp only at hq ⊢
    rw [hset] at hq ⊢
    simp only [setS] at hq ⊢
    by_cases e:p=i
    ·simp [e]
    ·rw [if_neg e]
     by_cases e2:q=i
     ·subst e2
      obtain ⟨o',ho',_⟩:=id hp
      have hpq:p<q:=by
       have hb:=hp
       unfold Ziz at ht
       split at ht
       ·rename_i ms hms
        obtain ⟨k1,_⟩:=Zd5 (all:=ops) ops 0 [] ms hms (fun i=>by simp) rfl (fun i p _ hi=>by omega) (fun i p hi=>by omega)
        exact k1 q p hb
       ·cases ht
      exact (hall p (by omega)).2 hpq
     ·rw [if_neg e2] at hq; exact hcl q p hq hp
   ·rw [hset]
    simp only [setS]
    by_cases e:p=i
    ·rw [if_pos e]; simp; omega
    ·rw [if_neg e,hall p hp]; omega
  have hin:i∈Oc .any ops.toArray listed:=by
   refine (Zdq hsz i).2 ⟨hlt,?_,fun p hp=>?_⟩
   ·cases hb:listed.getD i false
    ·rfl
    ·have:=(hall i hlt).1 hb; omega
   ·unfold Ziz at ht
    split at ht
    ·rename_i ms hms
     obtain ⟨k1,_⟩:=Zd5 (all:=ops) ops 0 [] ms hms (fun i=>by simp) rfl (fun i p _ hi=>by omega) (fun i p hi=>by omega)
     have:=k1 i p hp
     exact (hall p (by omega)).2 this
    ·cases ht
  refine ⟨fun hr=>?_,fun q hq=>?_⟩
  ·rw [hr] at hin; cases hin
  ·have e:=only q hq
   subst e
   exact step
theorem Zye {cx:Cx} (hcx:CxOK P cx) {pc:PC} (hpc:PCOK P pc) {F:Fence} (hFo:FOK F) {ops tl:List Oper} {recs:List Rec} {ef0:Nat->AV} {h0:Nat->ABlk} {nf k0:Nat} {rs:Locs} {Is:Imm} {ws:World} {ds:List Deferred}
  (hops:recs.map (·.o)++tl=ops) (hne:tl≠[]) (ht:Ziz ops recs.length=true) (hnd:Ya ops=true) (hok:Zka ops recs=true) (hrec:∀ (q:Nat) (x:Rec),recs[q]?=some x->RecAt cx pc N ops x (eF recs (fun p=>decide (p<q)) ef0) (hF recs (fun p=>decide (p<q)) h0))
  (hD0:∀ id,D0 id->id<k0) (hk:∀ (q:Nat) (x:Rec),recs[q]?=some x->k0<=x.k/\x.k+x.cnt<=nf/\1<=x.cnt) (hdis:∀ (p q:Nat) (x y:Rec),p<q->recs[p]?=some x->recs[q]?=some y->x.k+x.cnt<=y.k)
  (Q:Exit->Act->World->Prop) (hQ:∀ a w,DInv B w0 I0 pr N recs ef0 h0 D0 nf rs Is ws ds (fun _=>true) a w->wpListIn F 0 P ops.toArray Q tl a w) :
  ∀ (fuel:Nat) (listed:Array Bool) (a:Act) (w:World),listed.size=ops.length->Zpn ops (fun q=>listed.getD q false)->(∀ q,recs.length<=q->listed.getD q false=false)->listed.toList.countP (fun b=>!b)<=fuel ->
   DInv B w0 I0 pr N recs ef0 h0 D0 nf rs Is ws ds (fun q=>listed.getD q false) a w->wpAnyIn F 0 P .any ops.toArray Q fuel listed a w:=by
 obtain ⟨hlt,hind⟩:=Zj9 hok
 have hlen:recs.length+tl.length=ops.length:=by rw [<-hops,List.length_append,Qj]
 have htl:0<tl.length:=Jn.2 hne
 have hsome:∀ (listed:Array Bool),listed.size=ops.length->(∀ q,recs.length<=q->listed.getD q false=false)->Oc .any ops.toArray listed≠[]:=by
  intro listed hsz hno hr
  have hall:∀ q,q<ops.length->listed.getD q false=true:=by
   intro q
   induction q using Ji with
   | ind q ih =>
    intro hq
    cases hb:listed.getD q false with
    | true=>rfl
    | false =>
     have:q∈Oc .any ops.toArray listed:=(Zdq hsz q).2 ⟨hq,hb,fun p hp=>ih p (hlt q p hp) (Nat.lt_trans (hlt q p hp) hq)⟩
     rw [hr] at this; cases this
  have:=hall recs.length (by omega)
  rw [hno _ (Qd _)] at this
  cases this
 intro fuel
 induction fuel with
 | zero =>
  intro listed a w hsz hcl hno hcnt hi
  exfalso
  have h3:=List.countP_eq_zero.1 (Nat.le_zero.1 hcnt) (listed.getD recs.length false) (by
   rw [Qy,Sv (by omega)]
   simp)
  rw [hno _ (Qd _)] at h3; simp at h3
 | succ fuel ih =>
  intro listed a w hsz hcl hno hcnt hi
  by_cases hdn:∀ q,q<recs.length->listed.getD q false=true
  ·
   have hi2:DInv B w0 I0 pr N recs ef0 h0 D0 nf rs Is ws ds (fun _=>true) a w:=hi.congr fun q x hx=>hdn q (Qi.1 hx).1
   refine Zrk ht tl recs.length (fuel+1) listed a w ?_ (Qd _) (by omega) hsz hcl (fun p hp=>⟨fun hb=>?_,fun hp=>hdn p hp⟩) ?_ (hQ a w hi2)
   ·rw [<-hops,List.drop_left' (by rw [Qj])]
   ·rcases Wh p recs.length with c|c
    ·exact c
    ·rw [hno p c] at hb; cases hb
   ·have e:listed.toList.countP (fun b=>!b)=tl.length:=by
     have e1:listed.toList=(Tg recs.length true)++(Tg tl.length false):=by
      refine Qaq (by simp; omega) fun j h1 h2=>?_
      have hj:j<listed.size:=by simpa using h1
      have e2:listed.toList[j]=listed.getD j false:=by rw [Qy,Sv hj]; simp
      refine e2.trans ?_
      have f1:=hdn j
      have f2:=hno j
      generalize listed.getD j false=gb at f1 f2
      rw [List.getElem_append]
      split
      ·rename_i c; rw [Ko] at c; rw [Gw]; exact f1 c
      ·rename_i c; rw [Ko] at c; rw [Gw]; exact f2 (by omega)
     rw [e1,List.countP_append,Fj,Fj]
     simp
    omega
  refine ⟨fun hr=>absurd hr (hsome listed hsz hno),fun q hq=>?_⟩
  obtain ⟨h1,h2,h3⟩:=(Zdq hsz q).1 hq
  have hqr:q<recs.length:=by
   rcases Wh q recs.length with c|c
   ·exact c
   ·exfalso
    refine hdn fun p hp=>?_
    exact Ziy ht _ hcl p q c h1 (by omega) (.inr h3)
  have hx:recs[q]?=some recs[q]:=Qe hqr
  have ho:ops[q]?=some recs[q].o:=by rw [<-hops,List.getElem?_append_left (by rw [Qj]; exact hqr)]; simp [hqr]
  have hset:=fun j=>Zsp (listed:=listed) (q:=q) (by omega) j
  refine wpOpIn_mono (fun a' w' hi'=>?_) (Zo7 hcx hpc hFo hx ho ?_ h2 (hrec q _ hx) (fun p y hy hpq hs=>?_) (fun p y hpq hy hs=>?_) ?_ (hk q _ hx).2.1 (fun p y hy hne=>?_) hi Q)
  ·refine ih (listed.setIfInBounds q true) a' w' (by simpa using hsz) ?_ (fun p hp=>?_) ?_ ?_
   ·intro i p hi2 hp
    dsimp only at hi2 ⊢
    rw [hset] at hi2 ⊢
    simp only [setS] at hi2 ⊢
    by_cases e:p=q
    ·simp [e]
    ·rw [if_neg e]
     by_cases e2:i=q
     ·subst e2; exact h3 p hp
     ·rw [if_neg e2] at hi2; exact hcl i p hi2 hp
   ·rw [hset]
    simp only [setS]
    rw [if_neg (by omega)]
    exact hno p hp
   ·have:(listed.setIfInBounds q true).toList=listed.toList.set q true:=by simp
    rw [this,List.countP_set (by simpa using (show q<listed.size by omega))]
    have e:listed.toList[q]'(by simpa using (show q<listed.size by omega))=false:=by
     rw [Qy,Sv (by omega)] at h2
     simpa using h2
    rw [e]; simp only [Bool.not_false,if_true,Bool.not_true,Bool.false_eq_true,if_false]; omega
   ·have:(fun q_1=>(listed.setIfInBounds q true).getD q_1 false)=setS (fun q=>listed.getD q false) q:=funext hset
    rw [this]; exact hi'
  ·intro c hc
   have:∀ (l:List Oper) (i:Nat) (o:Oper),Ya l=true->l[i]?=some o->∀ c,o.op ≠ .defer c:=by
    intro l
    induction l with
    | nil=>intro i o _ hio; simp at hio
    | cons b l ihl =>
     intro i o hn hio c hc
     simp only [Ya,Qc] at hn
     cases i with
     | zero=>simp at hio; subst hio; rw [hc] at hn; simp at hn
     | succ i=>exact ihl i o hn.2 (by simpa using hio) c hc
   exact this ops q _ hnd ho c hc
  ·exact hind _ hcl p q y recs[q] hpq hy hx hs (.inr h3)
  ·refine hind _ hcl q p recs[q] y hpq hx hy h2 (.inl hs)
  ·intro id hd; have:=hD0 id hd; have:=(hk q _ hx).1; omega
  ·rcases Nat.lt_or_gt_of_ne hne with h|h
   ·exact .inl (hdis p q y _ h hy hx)
   ·exact .inr (hdis q p _ y h hx hy)
theorem Zev:∀ {a b:List Oper},Ya (a++b)=true->Ya b=true
 | [],b,h=>h
 | o::a,b,h=>by
  simp only [Ok,Ya,Qc] at h
  exact Zev h.2
def Zps (cx:Cx) (pc:PC) (N:Nat) (ops:List Oper) (n:Nat) (env:Env) (σ:St) (K:Env->St->Prop):Prop :=
 cond (Ya ops) (vcD cx pc N ops (ops.take n) env σ σ.next [] fun recs env' σ'=>Dr ((Zka ops recs&&(Ziz ops n&&Nat.blt n ops.length))=true) (Zdb cx N ops (ops.drop n) env' σ' K)) False
theorem Zlz {cx:Cx} (hcx:CxOK P cx) {pc:PC} (hpc:PCOK P pc) (hm:P.follows .mixedOrders=true) (id:Nat) (ops:Array Oper) (n:Nat) (env:Env) (σ:St) (K:Env->St->Prop) (hv:Zps cx pc N ops.toList n env σ K) :
  Awp P N (.region id ops true) env σ (seqQ K fun _ _ _=>False):=by
 intro F B w0 I0 pr r I D a w hF hR S
 unfold Zps at hv
 cases hnd:Ya ops.toList with
 | false=>rw [hnd] at hv; exact hv.elim
 | true =>
  rw [hnd] at hv
  obtain ⟨recs,env',σ',⟨hok,hK⟩,h2,h3,h4,h5,h6,h7,h8⟩:=Zie _ env σ _ _ _ hv
  simp only [List.reverse_nil,List.nil_append,Qc,Th] at hok
  obtain ⟨hok,htk,hnl⟩:=hok
  have hrl:recs.length=n:=by
   have:=congrArg Oa h2
   rw [Qj,List.length_take] at this
   omega
  refine wpIn_region_any hm ?_
  have hfalse:∀ q,(Pe ops.size false).getD q false=false:=by
   intro q
   rw [Qy,Array.getElem?_replicate]
   split<;>rfl
  have main:=Zye (B:=B) (w0:=w0) (I0:=I0) (pr:=pr) (N:=N) (D0:=D) (k0:=σ.next) (nf:=σ'.next) (rs:=r) (Is:=I) (ws:=w) (ds:=a.defers) (ops:=ops.toList) (tl:=ops.toList.drop n) hcx hpc hF (by rw [h2,Ks]) (by
    intro q
    have:=congrArg Oa q
    rw [Ni,Rh] at this
    omega) (by rw [hrl]; exact htk) hnd hok h3 (fun id hd=>(S.hr.dom id hd).1) h6 h7
   (Post B w0 I0 pr N r I D w a.defers (seqQ K fun _ _ _=>False)) (fun a' w' hi=>?_) ops.size (Pe ops.size false) a w.drew (by simp) (fun q p hq _=>by dsimp only at hq; rw [hfalse] at hq; cases hq) (fun q _=>hfalse q) (by simpa using List.countP_le_length (l:=Tg ops.size false)) ?_
  ·simpa using main
  ·obtain ⟨⟨r2,I2,D2,H2,hD2,hsz,htm,hst⟩,hdf⟩:=hi
   rw [<-h5] at H2
   rw [<-h4] at htm
   have S2:SR B w0 I0 pr N r2 I2 D2 env' σ' a' w':=⟨H2,hsz,htm⟩
   refine Zco hcx hF ops.toList (ops.toList.drop n) (Zev (a:=ops.toList.take n) (by rw [Ks]; exact hnd)) S2 hK fun a3 w3 hl=>?_
   obtain ⟨env3,σ3,r3,I3,D3,g1,g2,g3,g4⟩:=hl
   exact ⟨pr,[],env3,σ3,r3,I3,D3,fun _ _ h=>h,fun d hd=>by simp at hd,.nil,by rw [g3,hdf]; simp,g1,g2,hst.trans g4,(hst.trans g4).size⟩
  ·refine ⟨⟨r,I,D,?_,fun id hd=>.inl hd,S.er.1,?_,Lz r D I w⟩,rfl⟩
   ·rw [Zqj (recs:=recs) hfalse]
    exact S.hr.drew.next h8
   ·rw [Zqy (recs:=recs) hfalse]
    exact fun t=>(S.er.2 t).mono (Lz r D I w)
def Yhp (sx:FuncId->Bool) (o:Oper):Bool:=match o.op with
 | .call { callee:=.value (.func f),.. }=>sx f
 | _=>false
def Ybc (sx:FuncId->Bool):List Oper->Nat->Option Nat
 | [],_=>none
 | o::l,i=>match Yhp sx o with
  | true=>some i
  | false=>Ybc sx l (i+1)
def Ye1 (cx:Cx) (pc:PC) (N:Nat) (sx:FuncId->Bool) (ops:List Oper) (env:Env) (σ:St) (K:Env->St->Prop):Prop:=match Ybc sx ops 0 with
 | none=>Zeo cx pc N ops env σ K
 | some n=>Zps cx pc N ops n env σ K
def hdT (P:Program) (T:Tab) (ok:TypeId->Bool) (sx:FuncId->Bool) (pc:PC) (N:Nat):Hd :=
 ⟨fun c env σ Q=>Lp P N c env σ Q,fun f ps x y env σ Q=>Rg P N f ps x y env σ Q,fun ops env σ K=>Ye1 (cxV P T ok sx pc) pc N sx ops env σ K⟩
theorem Ych {T:Tab} {ok:TypeId->Bool} {sx:FuncId->Bool} {pc:PC} (hT:TabOK P T) (hok:EqOK P ok) (hpc:PCOK P pc) (hm:P.follows .mixedOrders=true) (N:Nat):HdOK P N (hdT P T ok sx pc N) :=
 ⟨fun _ _ _ _ h=>h.1,fun _ _ _ _ _ _ _ h=>h.1,fun id ops env σ K h=>by
  change Ye1 (cxV P T ok sx pc) pc N sx ops.toList env σ K at h
  unfold Ye1 at h
  split at h
  ·exact Zbp (Zgn hT hok hpc) hpc hm id ops env σ K h
  ·exact Zlz (Zgn hT hok hpc) hpc hm id ops _ env σ K h⟩
variable (Bs:Base P)
theorem Base.pvT {sx:FuncId->Bool} {pc:PC} (hpc:PCOK P pc) {f:FuncId} {fn:Func} (hf:P.funcs[f]?=some fn) (h1:(fn.name == "runtime.NumGoroutine")=false) (h2:fn.body.isNone=false)
  {args:List AV} {res:PRes} (hids:Vj res.blks.length res.v=true) (hv:Zbq (cxV P Bs.T Bs.ok sx pc) (hdT P Bs.T Bs.ok sx pc) fn args ⟨[],0⟩ (fun v σ=>fA v fun v=>Ret res v σ)):PCall P f args res:=by
 refine Zbv (FnOK.of hf h1 h2) hids (SemCall.tag (Zij (Zgn Bs.hT Bs.hok hpc) (fun N=>Ych Bs.hT Bs.hok hpc Bs.hm N) hf hv) fun v σ h=>?_)
 rw [Zow] at h; exact h.1
theorem Base.avT {sx:FuncId->Bool} {pc:PC} (hpc:PCOK P pc) {c:Code} {env:Env} {σ:St} {Q:Exit->Env->St->Prop} (hv:Zaa (cxV P Bs.T Bs.ok sx pc) N (hdT P Bs.T Bs.ok sx pc N) c env σ Q):Awp P N c env σ Q :=
 Ys (Zgn Bs.hT Bs.hok hpc) (Ych Bs.hT Bs.hok hpc Bs.hm N) c env σ Q hv
variable {r r' : Locs} {D D' : Nat->Prop} {I I' : Imm} {w w' w0:World} {I0:Imm} {B n n' k N:Nat} {pr:Nat->Obj->Prop} {h:Nat->ABlk} {P:Program}
theorem Znn {rv:List AV->Option (List AV × List Nat)}:∀ {els els' : List (List AV)} {l:List Nat},Zbm rv els=some (els',l)->els'.length=els.length/\∀ (i:Nat) (e' : List AV),els'[i]?=some e'->∃ e le,els[i]?=some e/\rv e=some (e',le)/\∀ x∈le,x∈l
 | [],els',l,h=>by
  simp only [Zbm,Qf,Rk] at h
  obtain ⟨rfl,rfl⟩:=h
  exact ⟨rfl,fun i e' hi=>by simp at hi⟩
 | e::es,els',l,h=>by
  rw [Zbm] at h
  split at h
  ·rename_i e1 l1 es1 l2 h1 h2
   simp only [Qf,Rk] at h
   obtain ⟨rfl,rfl⟩:=h
   obtain ⟨q1,q2⟩:=Znn h2
   refine ⟨by simp [q1],fun i e' hi=>?_⟩
   cases i with
   | zero =>
    simp only [List.getElem?_cons_zero,Qf] at hi
    subst hi
    exact ⟨e,l1,by simp,h1,fun x hx=>by simp [hx]⟩
   | succ i =>
    obtain ⟨a,b,c,d,f⟩:=q2 i e' (by simpa using hi)
    exact ⟨a,b,by simpa using c,d,fun x hx=>by simp [f x hx]⟩
  ·cases h
theorem Zhu {rv:List AV->Option (List AV × List Nat)}:∀ {a b a' b' : List (List AV)} {l m:List Nat},Zbm rv a=some (a',l)->Zbm rv b=some (b',m)->Zbm rv (a++b)=some (a'++b',l++m)
 | [],b,a',b',l,m,h1,h2=>by
  simp only [Zbm,Qf,Rk] at h1
  obtain ⟨rfl,rfl⟩:=h1
  simpa using h2
 | e::es,b,a',b',l,m,h1,h2=>by
  rw [Zbm] at h1
  split at h1
  ·rename_i e1 l1 es1 l2 g1 g2
   simp only [Qf,Rk] at h1
   obtain ⟨rfl,rfl⟩:=h1
   rw [Ok,Zbm,g1,Zhu g2 h2]
   simp
  ·cases h1
theorem Zrx {rv:List AV->Option (List AV × List Nat)}:∀ {a:List (List AV)},(∀ e∈a,rv e=some (e,[]))->Zbm rv a=some (a,[])
 | [],_=>rfl
 | e::es,h=>by rw [Zbm,h e (by simp),Zrx fun x hx=>h x (by simp [hx])]; rfl
theorem HR.melt (H:HR B w0 I0 pr r I D h n w) {id es:Nat} {elems elems' : List (List AV)} {pu:Bool} {l:List Nat} (hrow:h id = .row es elems true pu) (hv:Zbm (Zao h) elems=some (elems',l)) (hm:mutL h l=true) (hid:id∉l) :
  HR B w0 I0 pr r (Xe r I h l) D (hupd (Hj h l) id (.row es elems' true true)) n w/\Step r D I w r D (Xe r I h l) w:=by
 obtain ⟨H1,S1⟩:=H.froz (Zca hm)
 have hB:=H.blk id
 rw [hrow] at hB
 obtain ⟨h1,h2,h3,cs,T,fz,h4,h5,h6,h7,_⟩:=hB
 obtain ⟨g1,g2,g3⟩:=h7 rfl
 obtain ⟨q1,q2⟩:=Znn hv
 have hlive:∀ i,(hupd (Hj h l) id (.row es elems' true true) i).live=true->(Hj h l i).live=true:=fun i hi=>by
  by_cases e:i=id
  ·subst e; simp only [Hj,hrow]; rfl
  ·simpa [hupd,e] using hi
 refine ⟨⟨H1.below,H1.base,H1.imm,H1.dom,fun i hi=>H1.live i (hlive i hi),fun i=>?_,fun i j hi hj hne=>H1.inj i j (hlive i hi) (hlive j hj) hne,H1.prot,fun b o hp=>⟨fun i hi=>(H1.protK b o hp).1 i (hlive i hi),(H1.protK b o hp).2⟩,H1.immB⟩,S1⟩
 by_cases e:i=id
 rotate_left
 ·simp only [hupd,e,if_false]; exact H1.blk i
 subst e
 simp only [hupd,if_true]
 have hI:∀ b o,I b o->Xe r I h l b o:=fun b o hi=>.inl hi
 have cell:∀ (a:Nat) (e' : List AV),elems'[a]?=some e'->e'.length=es/\∀ (j:Nat) (c:AV),e'[j]?=some c->∃ v,cs[(r i).off+a*es+j]?=some v/\VR r0 (Xe r I h l) w (fun _=>False) c v:=by
  intro a e' ha
  obtain ⟨e0,le,b1,b2,b3⟩:=q2 a e' ha
  have hle:=h3 a e0 b1
  have hv2:∀ (j:Nat) (c:AV) (v:Value),e0[j]?=some c->((Rv e0.length).map fun j=>(cs[(r i).off+a*es+j]?).getD undef)[j]?=some v->VR r I w D c v:=fun j c v hj hvv=>by
   obtain ⟨v',c1,c2⟩:=h6 a e0 j c b1 hj
   have hjl:j<e0.length:=(Qi.1 hj).1
   simp only [Rr,Pm hjl,Nr,Qf,c1,Option.getD_some] at hvv
   rw [<-hvv]
   exact c2.weak fun _ hh=>hh.2
  obtain ⟨s1,s2⟩:=Zna H hI e0 (by simp) hv2 b2 (fun x hx es2 el2 mt2 pu2 hr2 i2 e2 j2 c2 hi2 hj2=>.inr ⟨x,b3 x hx,es2,el2,mt2,pu2,i2,e2,j2,c2,hr2,hi2,hj2,rfl,rfl⟩)
  have s3:e'.length=es:=by rw [s1]; simpa using hle
  refine ⟨s3,fun j c hj=>?_⟩
  have hjl:j<e0.length:=by rw [hle,<-s3]; exact (Qi.1 hj).1
  obtain ⟨v',c1,c2⟩:=h6 a e0 j _ b1 (Qe hjl)
  refine ⟨v',c1,s2 j c v' hj ?_⟩
  simp [Pm hjl,c1]
 refine ⟨⟨h1.1,by rw [q1]; exact h1.2⟩,by rw [q1]; exact h2,fun a e' ha=>(cell a e' ha).1,cs,T,fz,h4,h5,fun a e' j c ha hj=>?_,fun _=>⟨g1,fun o ho=>?_,g3⟩,by simp⟩
 ·obtain ⟨v,c1,c2⟩:=(cell a e' ha).2 j c hj
  exact ⟨v,c1,(c2.mono ⟨fun _ h=>h.elim,fun _ _ hi=>⟨hi,rfl⟩,Qd _⟩:VR r _ w (fun _=>False) c v).weak fun _ h=>h.elim⟩
 ·rcases ho with ho|⟨x,hx,es2,el2,mt2,pu2,i2,e2,j2,c2,hr2,hi2,hj2,hb,_⟩
  ·exact g2 o ho
  ·have hne:i≠x:=fun e=>hid (e ▸ hx)
   exact H.inj i x (by rw [hrow]; rfl) (by rw [hr2]; rfl) hne hb
theorem Awp.melt {c:Code} {env:Env} {σ:St} {Q:Exit->Env->St->Prop} (id:Nat) {es:Nat} {elems elems' : List (List AV)} {pu:Bool} {l:List Nat} (hrow:σ.get id = .row es elems true pu) (hv:Zbm (Zao σ.get) elems=some (elems',l)) (hm:mutL σ.get l=true) (hid:l.contains id=false)
  (h:Awp P N c env ((Vo σ l).set id (.row es elems' true true)) Q):Awp P N c env σ Q :=
 fun F B w0 I0 pr r I D a w hF hR S=>by
 obtain ⟨H1,S1⟩:=S.hr.melt hrow hv hm (by simpa using hid)
 have hg:((Vo σ l).set id (.row es elems' true true)).get=hupd (Hj σ.get l) id (.row es elems' true true):=by
  funext i; rw [Kt,Zcj]; rfl
 have S' : SR B w0 I0 pr N r (Xe r I σ.get l) D env ((Vo σ l).set id (.row es elems' true true)) a w:=⟨by rw [hg]; show HR B w0 I0 pr r _ D _ (Vo σ l).next w; rw [Zbd]; exact H1,S.er.mono S1⟩
 exact Ru (fun e a' w' hp=>by
  obtain ⟨pr1,ms1,env1,σ1,r1,I1,D1,p1,m1,n1,d1,q1,s1,t1,z1⟩:=hp
  exact ⟨pr1,ms1,env1,σ1,r1,I1,D1,p1,m1,n1,d1,q1,s1,S1.trans t1,z1⟩) (h F B w0 I0 pr r (Xe r I σ.get l) D a w hF hR S')
variable {P:Program} {N:Nat}
theorem Lp.go2 {c:Code} {Q:Exit->Env->St->Prop} (E:Env) (Z:List (Nat × ABlk)) (n0 n1:Nat) {env:Env} {σ:St} (hn:σ.next<=n0) (fl:List (Nat × Nat))
  (h1:(okF n0 fl&&Zf8 n0 fl Z&&newF n0 fl Z&&Nat.ble n0 n1)=true) (h2:RenE (fOf fl) n1 env E) (h3:RenH (fOf fl) n1 σ.get Z) (h:Lp P N c E ⟨Z,n1⟩ Q):Lp P N c env σ Q:=by
 refine ⟨fun F B w0 I0 pr r I D a w hF hR S=>?_⟩
 have hr:=Ren.of2 (n1:=n1) fl h1 h2 h3
 obtain ⟨r2,D2,H2,k2,e2⟩:=S.hr.rename (N:=N) hr
 refine Ru (fun e a' w' hp=>?_) (h.1 F B w0 I0 pr r2 I D2 a w hF hR ⟨H2,e2 _ S.er⟩)
 obtain ⟨pr1,ms1,env1,σ1,r1,I1,D1,p1,m1,n1',d1,q1,s1,t1,z1⟩:=hp
 exact ⟨pr1,ms1,env1,σ1,r1,I1,D1,p1,m1,n1',d1,q1,s1,⟨fun id hd=>by
  have hlt:=(S.hr.dom id hd).1
  obtain ⟨a1,a2⟩:=k2 id (by omega) hd
  obtain ⟨b1,b2⟩:=t1.ids id a1
  exact ⟨b1,b2.trans a2⟩,t1.imm,t1.size⟩,z1⟩
end Go.Sx
