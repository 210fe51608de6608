/- A part of the proof: lemmas. -/
import Derived.Test.YtdaliaafmcjikaaGreatV4
import Derived.Test.YtdaliaafmcjikaaGreatV3
import Derived.LoopNIn
set_option linter.unusedVariables false
set_option linter.unusedSimpArgs false
namespace Go.Sx
open Go Go.RowKit
variable {r r' : Locs} {D D' : Nat -> Prop} {I I' : Imm} {w w' w0 : World} {I0 : Imm} {B n n' k N : Nat} {pr pr' pr2 : Nat -> Obj -> Prop} {h : Nat -> ABlk} {P : Program}
abbrev ITab := FuncId -> List AV -> List AV -> Option (List (List AV))
def Zy8 (P : Program) (N : Nat) (it : ITab) (f : Operand) (ps : Array Tmp) (assign body : Code) (env : Env) (σ : St) (Q : Exit -> Env -> St -> Prop) : Prop :=
 match evA env f with
 | .func g c0 c1 => Got (Zar σ.get c0) fun p0 => Got (Zar σ.get c1) fun p1 => Got (it g p0.1 p1.1) fun xs =>
  cond (Vh N ps.toList) (match p0.2 ++ p1.2 with
   | [] => Zh5 P N σ.next ps.toList assign body env Q xs σ
   | a :: l => cond (mutL σ.get (a :: l)) (Zh5 P N (Uw σ (a :: l)).next ps.toList assign body env Q xs (Uw σ (a :: l))) False) False
 | _ => False
theorem Zln {F : Fence} (hF : FOK F) (hR : RdOK F pr) (H : HR B w0 I0 pr r I D h n w) (fn : FuncId) (tmps : Array Value) (ps : Array Tmp) (assign body : Code) :
  ∃ l mark w1 Db pr',(Instr.enterLoop fn tmps ps assign body F.round).run P w = .ok (l,mark) w1 /\
   HR B w0 I0 (prI pr' l (recS { state := .ready,pending := none,fn,tmps,params := ps,assign,body,defers := Db } .ready none) (fun _ => False) w1) r I D h n w1 /\ Step r D I w r D I w1 /\
   (∀ b o,pr b o -> pr' b o) /\ pr' Db (.deferred (some [])) /\ (∀ b o,pr' b o -> b < w1.heap.size /\ b ≠ l) /\ l < w1.heap.size /\ Mk w pr' mark /\ mark.Pairwise (fun a b => a.target ≠ b.target) := by
 have hlow : ∀ b o,pr b o -> b < w.heap.size := fun b o hp => (Array.getElem?_eq_some_iff.1 (H.prot b o hp).1).1
 rcases hF with rfl | ⟨l0,rfl⟩
 ·
  let rec0 : Loop := { state := .ready,pending := none,fn,tmps,params := ps,assign,body,defers := w.heap.size }
  have hrun := run_enterLoop_outer (P := P) (w := w) fn tmps ps assign body
  have hc : Chg (fun _ => False) w ((w.alloc (.deferred (some []))).alloc (.loop rec0)) := ⟨rfl,rfl,rfl,by simp; omega,fun b _ hb => (Zr _ _ (by simp; omega)).trans (Zr w _ hb)⟩
  have hD : ((w.alloc (.deferred (some []))).alloc (.loop rec0)).heap[w.heap.size]? = some (.deferred (some [])) := (Zr _ _ (by simp)).trans (Yn w _)
  have hL : ((w.alloc (.deferred (some []))).alloc (.loop rec0)).heap[w.heap.size + 1]? = some (.loop rec0) := by
   have := Yn (w.alloc (.deferred (some []))) (.loop rec0)
   rwa [World.size_alloc] at this
  obtain ⟨H',S'⟩ := H.chg (pr2 := prI (fun b o => pr b o \/ (b = w.heap.size /\ o = .deferred (some []))) (w.heap.size + 1) (recS rec0 .ready none) (fun _ => False) ((w.alloc (.deferred (some []))).alloc (.loop rec0))) (fun b hb => hb.elim) hc (fun b o hp => by
   rcases hp with (hp | ⟨rfl,rfl⟩) | ⟨rfl,rfl⟩ | ⟨hp,_⟩
   ·exact .inl ⟨hp,id⟩
   ·exact .inr ⟨.inr (Nat.le_refl _),hD⟩
   ·exact .inr ⟨.inr (Nat.le_succ _),hL⟩
   ·exact hp.elim)
  refine ⟨_,_,_,w.heap.size,_,hrun,H',S',fun b o hp => .inl hp,.inr ⟨rfl,rfl⟩,fun b o hp => ?_,by simp,fun d hd => ?_,by simp⟩
  ·rcases hp with hp | ⟨rfl,rfl⟩
   ·have := hlow b o hp; simp; omega
   ·simp only [World.size_alloc]; omega
  ·simp only [List.mem_singleton] at hd
   subst hd
   exact ⟨w.heap.size,rfl,.inr ⟨rfl,rfl⟩,Nat.le_refl _⟩
 ·
  obtain ⟨rr,hp1,hp2⟩ := hR l0 rfl
  let rec0 : Loop := { state := .ready,pending := none,fn,tmps,params := ps,assign,body,defers := rr.defers }
  have hrun := run_enterLoop_inner (P := P) (w := w) (H.prot l0 _ hp1).1 fn tmps ps assign body
  obtain ⟨H',S'⟩ := H.chg (pr2 := prI pr w.heap.size (recS rec0 .ready none) (fun _ => False) (w.alloc (.loop rec0))) (fun b hb => hb.elim) (Chg.alloc w (.loop rec0)) (fun b o hp => by
   rcases hp with hp | ⟨rfl,rfl⟩ | ⟨hp,_⟩
   ·exact .inl ⟨hp,id⟩
   ·exact .inr ⟨.inr (Nat.le_refl _),Yn w _⟩
   ·exact hp.elim)
  refine ⟨_,_,_,rr.defers,_,hrun,H',S',fun b o hp => hp,hp2,fun b o hp => ?_,by simp,fun d hd => by simp at hd,.nil⟩
  have := hlow b o hp; simp; omega
set_option maxHeartbeats 1000000 in
theorem Zrv {it : ITab} (hit : ∀ g c0 c1 xs,it g c0 c1 = some xs -> ItOK P g c0 c1 xs) {f : Operand} {ps : Array Tmp} {assign body : Code} {env : Env} {σ : St} {Q : Exit -> Env -> St -> Prop} {g : FuncId} {c0 c1 d0 d1 : List AV} {xs : List (List AV)}
  {F : Fence} (hF : FOK F) (hR : RdOK F pr) {a : Act} (hev : evA env f = .func g c0 c1) (hxs : it g d0 d1 = some xs) (hps : Vh N ps.toList = true) (H : HR B w0 I0 pr r I D σ.get σ.next w) (E : ER r I w D N env a.tmps) (hr : Zh5 P N σ.next ps.toList assign body env Q xs σ)
  (hd : ∀ v0 v1,a.eval f = .func (.func g) v0 v1 -> VRs r0 I w (fun _ => False) d0 v0 /\ VRs r0 I w (fun _ => False) d1 v1) : (Code.rangeFunc f ps assign body).wpIn F 0 P (Post B w0 I0 pr N r I D w a.defers Q) a w := by
 obtain ⟨⟨fn,q1,q2,q3⟩,hcall⟩ := hit g d0 d1 xs hxs
 refine wpIn_rangeFunc ?_
 intro fid hfid
 obtain ⟨l,mark,w1,Db,pr',hrun,H1,S1,hpr,hdb,hlow,hlt,hmk,hpw⟩ := Zln (P := P) hF hR H fid a.tmps ps assign body
 obtain ⟨rec,hrec⟩ : ∃ rec : Loop,rec = { state := .ready,pending := none,fn := fid,tmps := a.tmps,params := ps,assign,body,defers := Db } := ⟨_,rfl⟩
 rw [<-hrec] at H1
 have hfv := Xc E f
 rw [hev] at hfv
 obtain ⟨v0,v1,hv,k0,k1⟩ : ∃ v0 v1,a.eval f = .func (.func g) v0 v1 /\ VRs r I w D c0 v0 /\ VRs r I w D c1 v1 := by
  generalize a.eval f = z at hfv
  cases hfv with
  | func _ _ _ _ v0 v1 h0 h1 g0 g1 => exact ⟨v0,v1,rfl,⟨h0,g0⟩,⟨h1,g1⟩⟩
 obtain ⟨m0,m1⟩ := hd v0 v1 hv
 have hst0 : Step r0 (fun _ => False) I w r0 (fun _ => False) I w1 := ⟨fun _ h => h.elim,S1.imm,S1.size⟩
 have q2' : ¬ fn.name = "runtime.NumGoroutine" := by simpa using q2
 have q3' : ¬ fn.body = none := by intro h; rw [h] at q3; simp at q3
 refine ⟨l,mark,w1,_,w1,g,_,w1,hrun,by simp only [resolve,rangeCall,hv]; simp [Deferred.ofValue,Act.eval]; rfl,fun f' _ => hF.fn f',by simp [invoke,callFunc,q1,q2',q3']; rfl,fun hdp => by rw [hF.depth] at hdp; simp at hdp,?_⟩
 refine Um hF ?_
 have hE1 := E.mono S1
 have R : RoundsOK P w1 I l xs (fun i O W => Betw P N σ.next B w0 I0 pr' l rec r I D w1 ps.toList assign body env Q (xs.drop i) O W) (Left B w0 I0 pr' l rec r I D w1 env Q) := by
  refine ⟨fun O u u' hb hc => Left.grow hb hc,fun i O u u' hb hc => hb.grow hc,fun i O u hb b hO => (hb.own b hO).2,fun i x O u ys hx hb hvx => ?_⟩
  have hdrop : xs.drop i = x :: xs.drop (i + 1) := by
   have hil := (List.getElem?_eq_some_iff.1 hx).1
   rw [List.drop_eq_getElem_cons hil]
   congr 1
   rw [List.getElem?_eq_getElem hil] at hx
   exact Option.some.inj hx
  rw [hdrop] at hb
  exact hb.round (Db := Db) (tmps := a.tmps) hps (by rw [hrec]) (by rw [hrec]) (by rw [hrec]) (by rw [hrec]) (by rw [hrec]) hdb hE1 (fun _ _ h => h) hvx
 have J0 : Betw P N σ.next B w0 I0 pr' l rec r I D w1 ps.toList assign body env Q (xs.drop 0) (fun _ => False) w1 :=
  ⟨⟨σ,r,I,D,by rw [hrec] at H1 ⊢; exact H1,Step.refl _ _ _ _,by simpa using hr⟩,fun b hb => hb.elim,hlow,hlt,fun id hd => (H.dom id hd).1⟩
 have hc := hcall I w1 v0 v1 l _ _ (fun b o hi => H1.imm b o hi) (m0.mono hst0) (m1.mono hst0) R J0
 refine hc.mono ?_
 rintro e W ⟨v,rfl,hend⟩
 have close : ∀ (st : LoopState) (c : Option Code) (O : Nat -> Prop) (σ' : St) (r' : Locs) (I' : Imm) (D' : Nat -> Prop),HR B w0 I0 (prI pr' l (recS rec st c) O W) r' I' D' σ'.get σ'.next W -> Step r D I w1 r' D' I' W -> ∀ (e : Exit),Q e env σ' ->
   Post B w0 I0 pr N r I D w a.defers Q e { a with defers := mark ++ a.defers } (W.putObj l (.loop { recS rec st c with state := .exhausted })) := by
  intro st c O σ' r' I' D' H2 S2 e hq
  obtain ⟨H3,S3⟩ := H2.chg (pr2 := pr') (O := fun b => b = l) (fun b hb => ⟨.loop (recS rec st c),.inr (.inl ⟨hb,rfl⟩)⟩) (Chg.putObj W l (.loop { recS rec st c with state := .exhausted })) (fun b o hp => .inl ⟨.inl hp,(hlow b o hp).2⟩)
  exact ⟨pr',mark,env,σ',r',I',D',hpr,hmk,hpw,rfl,hq,⟨H3,(hE1.mono S2).mono S3⟩,(S1.trans S2).trans S3,Nat.le_trans S1.size (Nat.le_trans S2.size S3.size)⟩
 rcases hend with ⟨O,hb⟩ | ⟨O,hb⟩
 ·obtain ⟨⟨σ',r',I',D',H2,S2,hr2⟩,_,_,_,_⟩ := hb
  have hl := (H2.prot l _ (.inr (.inl ⟨rfl,rfl⟩))).1
  refine ⟨none,_,run_endLoop hl (by simp [recS]),?_⟩
  have : xs.drop xs.length = [] := by simp
  rw [this] at hr2
  exact close .ready none O σ' r' I' D' H2 S2 .normal hr2
 ·obtain ⟨_,_,_,c,e,σ',r',I',D',hce,H2,S2,hq⟩ := hb
  have hl := (H2.prot l _ (.inr (.inl ⟨rfl,rfl⟩))).1
  refine ⟨some c,_,run_endLoop hl (by simp [recS]),?_⟩
  have hp := close .done (some c) _ σ' r' I' D' H2 S2 e hq
  rcases hce with ⟨rfl,rfl⟩ | ⟨id,rfl,rfl⟩
  ·exact wpIn_ret hp
  ·exact wpIn_exit hp
theorem VRs.imm {cs : List AV} {vs : Array Value} (h : VRs Sx.r0 I w (fun _ => False) cs vs) (hi : ∀ b o,I b o -> I' b o) : VRs Sx.r0 I' w (fun _ => False) cs vs := h.mono ⟨fun _ h => h.elim,fun b o h => ⟨hi b o h,rfl⟩,Nat.le_refl _⟩
theorem Znq {it : ITab} (hit : ∀ g c0 c1 xs,it g c0 c1 = some xs -> ItOK P g c0 c1 xs) {f : Operand} {ps : Array Tmp} {assign body : Code} {env : Env} {σ : St} {Q : Exit -> Env -> St -> Prop} (hv : Zy8 P N it f ps assign body env σ Q) : Awp P N (.rangeFunc f ps assign body) env σ Q := by
 intro F B w0 I0 pr r I D a w hF hR S
 unfold Zy8 at hv
 split at hv
 ·rename_i g c0 c1 hev
  obtain ⟨⟨d0,l0⟩,h0,hv⟩ := Got.cases hv
  obtain ⟨⟨d1,l1⟩,h1,hv⟩ := Got.cases hv
  obtain ⟨xs,hxs,hv⟩ := Got.cases hv
  dsimp only at hv hxs
  cases hps : Vh N ps.toList with
  | false => rw [hps] at hv; exact hv.elim
  | true =>
   rw [hps] at hv
   simp only [cond_true] at hv
   have hview : ∀ v0 v1,a.eval f = .func (.func g) v0 v1 -> VRs r0 (Vv r I σ.get (l0 ++ l1)) w (fun _ => False) d0 v0 /\ VRs r0 (Vv r I σ.get (l0 ++ l1)) w (fun _ => False) d1 v1 := by
    intro v0 v1 hval
    have hfv := Xc S.er f
    rw [hev,hval] at hfv
    obtain ⟨k0,k1⟩ : VRs r I w D c0 v0 /\ VRs r I w D c1 v1 := by
     cases hfv with
     | func _ _ _ _ v0 v1 h0 h1 g0 g1 => exact ⟨⟨h0,g0⟩,⟨h1,g1⟩⟩
    have m0 := Us S.hr k0 h0
    have m1 := Us S.hr k1 h1
    refine ⟨m0.imm fun b o hi => ?_,m1.imm fun b o hi => ?_⟩
    ·rcases hi with hi | ⟨id,hid,rest⟩
     ·exact .inl hi
     ·exact .inr ⟨id,by simp [hid],rest⟩
    ·rcases hi with hi | ⟨id,hid,rest⟩
     ·exact .inl hi
     ·exact .inr ⟨id,by simp [hid],rest⟩
   cases hl : l0 ++ l1 with
   | nil =>
    rw [hl] at hv hview
    rw [Zfp] at hview
    exact Zrv hit hF hR hev hxs hps S.hr S.er hv hview
   | cons b l =>
    rw [hl] at hv hview
    dsimp only at hv
    cases hm : mutL σ.get (b :: l) with
    | false => rw [hm] at hv; exact hv.elim
    | true =>
     rw [hm] at hv
     simp only [cond_true] at hv
     obtain ⟨H1,S1⟩ := S.hr.froz (Zf8 hm)
     have H1' : HR B w0 I0 pr r (Vv r I σ.get (b :: l)) D (Uw σ (b :: l)).get (Uw σ (b :: l)).next w := by
      rw [Zem,Zcs]; exact H1
     refine Code.wpIn_mono (fun e a' w' hp => ?_) (Zrv hit hF hR hev hxs hps H1' (S.er.mono S1) hv hview)
     obtain ⟨pr1,ms1,env1,σ1,r1,I1,D1,p1,m1,n1,d1,q1,s1,t1,z1⟩ := hp
     exact ⟨pr1,ms1,env1,σ1,r1,I1,D1,p1,m1,n1,d1,q1,s1,S1.trans t1,z1⟩
 ·exact hv.elim
variable {r r' : Locs} {D D' : Nat -> Prop} {I I' : Imm} {w w' w0 : World} {I0 Ig : Imm} {B n n' k N : Nat} {pr pr' pr2 : Nat -> Obj -> Prop} {h : Nat -> ABlk} {P : Program}
def Zrd (B : Nat) (w0 : World) (I0 : Imm) (pr : Nat -> Obj -> Prop) (N : Nat) (r : Locs) (I : Imm) (D : Nat -> Prop) (w : World) (ds : List Deferred) (K : Env -> St -> Prop) (a' : Act) (w' : World) : Prop :=
 ∃ env' σ' r' D',K env' σ' /\ SR B w0 I0 pr N r' I D' env' σ' a' w' /\ a'.defers = ds /\ Step r D I w r' D' I w'
theorem Zfj {env : Env} {σ' : St} {a : Act} {dst : Option Nat} {v : AV} {x : Value} {K : Env -> St -> Prop} (hr : HR B w0 I0 pr r' I D' σ'.get σ'.next w') (he : ER r I w D N env a.tmps) (hs : Step r D I w r' D' I w') (hv : VR r' I w' D' v x)
  (hk : Zq N dst v env fun env' => K env' σ') : Zrd B w0 I0 pr N r I D w a.defers K (a.put dst x) w' := by
 cases dst with
 | none => exact ⟨env,σ',r',D',hk,⟨hr,he.mono hs⟩,rfl,hs⟩
 | some d =>
  simp only [Zq] at hk
  rcases Br.cases hk with ⟨h1,h2⟩ | ⟨_,h2⟩
  ·have hd : d < N := by simpa [Nat.blt_eq] using h1
   exact ⟨(d,v) :: env,σ',r',D',h2,⟨hr,(he.mono hs).put hd hv⟩,rfl,hs⟩
  ·exact h2.elim
mutual
def Zew : AV -> Bool
 | .any | .bool _ | .int _ _ | .flt _ _ | .cpx _ _ _ | .val _ _ _ | .str _ | .nilp | .nils => true
 | .asl _ _ _ => true
 | .agg cs => Zp0 cs
 | .tup cs => Zp0 cs
 | _ => false
def Zp0 : List AV -> Bool
 | [] => true
 | c :: cs => Zew c && Zp0 cs
end
theorem Ziw : ∀ {cs : List AV},Zp0 cs = true -> ∀ {i : Nat} {c : AV},cs[i]? = some c -> Zew c = true
 | [],_,i,c,hi => by simp at hi
 | a :: cs,h,0,c,hi => by simp [Zp0] at h hi; subst hi; exact h.1
 | a :: cs,h,i + 1,c,hi => by simp [Zp0] at h hi; exact Ziw h.2 hi
theorem VR.slim {v : AV} {x : Value} (hv : VR r I w D v x) : Zew v = true -> ∀ I',VR r I' w D v x := by
 induction hv with
 | any => intros; exact .any _ _
 | bool => intros; exact .bool _ _
 | int => intros; exact .int _ _ _
 | flt => intros; exact .flt _ _ _
 | cpx => intros; exact .cpx _ _ _ _
 | val => intros; exact .val _ _ _ _
 | str => intros; exact .str _ _
 | nilp => intros; exact .nilp _
 | nils => intros; exact .nils _
 | asl _ _ _ _ hd hc => intros; exact .asl _ _ _ _ hd hc
 | agg D cs vs h0 g ih => intro hs I'; simp only [Zew] at hs; exact .agg _ _ _ h0 (fun i c v hc hv => ih i c v hc hv (Ziw hs hc) I')
 | tup D cs vs h0 g ih => intro hs I'; simp only [Zew] at hs; exact .tup _ _ _ h0 (fun i c v hc hv => ih i c v hc hv (Ziw hs hc) I')
 | _ => intro hs; simp [Zew] at hs
def Zaj : List (Nat × List (List AV)) -> Bool
 | [] => true
 | p :: l => p.2.all Zat && Zaj l
theorem Zdg : ∀ {l : List (Nat × List (List AV))},Zaj l = true -> ∀ {j : Nat} {p : Nat × List (List AV)},l[j]? = some p -> p.2.all Zat = true
 | [],_,j,p,hj => by simp at hj
 | a :: l,h,0,p,hj => by simp only [Zaj,Bool.and_eq_true] at h; simp at hj; subst hj; exact h.1
 | a :: l,h,j + 1,p,hj => by simp only [Zaj,Bool.and_eq_true] at h; simp at hj; exact Zdg h.2 hj
theorem BlkOK.slim {m j es : Nat} {els : List (List AV)} (h : BlkOK r I' w D m j (.row es els true true)) (hs : els.all Zat = true) (hI : ∀ b o,I b o -> I' b o) : BlkOK r I w D m j (.row es els true true) := by
 obtain ⟨h1,h2,h3,cs,T,fz,h4,h5,h6,h7,h8⟩ := h
 refine ⟨h1,h2,h3,cs,T,fz,h4,h5,fun i e j c hi hj => ?_,fun hm => ?_,fun hm => by cases hm⟩
 ·obtain ⟨v,q1,q2⟩ := h6 i e j c hi hj
  exact ⟨v,q1,q2.scalar (Zas (List.all_eq_true.1 hs e (List.mem_of_getElem? hi)) hj) _ _ _ _⟩
 ·obtain ⟨q1,q2,q3⟩ := h7 hm
  exact ⟨q1,fun o ho => q2 o (hI _ _ ho),q3⟩
def Ydf (cx : Cx) (pc : PC) (N : Nat) (o : Oper) (env : Env) (σ : St) (K : Env -> St -> Prop) : Prop :=
 match o.op with
 | .call { callee := .value f,args,.. } => match evA env f with
  | .func g c0 c1 => Got (Zar σ.get ((c0 ++ Xt (evA env) args.toList) ++ c1)) fun p => Got (pc g p.1) fun res =>
   match Xw res.v,res.blks with
   | true,[] => Zq N o.dst res.v env fun env' => K env' σ
   | _,_ => cond (Zew res.v && Zaj res.blks) (Zq N o.dst (Zi (fun j => σ.next + j) res.v) env fun env' => K env' (Zeu σ res.blks)) False
  | _ => False
 | op => aopSK cx.T cx.ok σ.next (evA env) σ.get op fun p => Zq N o.dst p.1 env fun env' => K env' (p.2.st σ)
theorem Zpv {cx : Cx} (hcx : CxOK P cx) {pc : PC} (hpc : PCOK P pc) {F : Fence} (hF : FOK F) (o : Oper) (ho : ∀ c,o.op ≠ .defer c) {env : Env} {σ : St} {a : Act} (S : SR B w0 I0 pr N r I D env σ a w) {K : Env -> St -> Prop} {Q : Exit -> Act -> World -> Prop} {next : Act -> World -> Prop}
  (hvc : Ydf cx pc N o env σ K) (hnext : ∀ a' w',Zrd B w0 I0 pr N r I D w a.defers K a' w' -> next a' w') : o.wpIn F 0 P a w next Q := by
 refine ⟨Ub hF o a w,?_⟩
 rw [Oper.semAt_eq _ _ _ ho]
 have hk : ¬ D σ.next := fun hd => Nat.lt_irrefl _ (S.hr.dom _ hd).1
 have main : ∀ p,aopA cx.T cx.ok σ.next (evA env) σ.get o.op = some p -> (Zq N o.dst p.1 env fun env' => K env' (p.2.st σ)) -> o.uponIn F 0 P a next Q ((execOp a.eval o).run P w) := by
  rintro ⟨v,e⟩ hp hput
  have H' := S.hr.more (Nat.le_succ σ.next)
  obtain ⟨x,w',r',h1,h2,h3,h4⟩ := Zlv hcx.tab hcx.eq H' hk (Nat.lt_succ_self _) o (Xc S.er) hp
  have h2' : HR B w0 I0 pr r' I (fun i => D i \/ (e.adds = true /\ i = σ.next)) (e.st σ).get (e.st σ).next w' := by
   rw [Eff.st_get]
   refine h2.fewer (fun id hd => ?_)
   rw [Eff.st_next]
   rcases hd with hd | ⟨ha,rfl⟩
   ·have := (S.hr.dom id hd).1; omega
   ·simp [ha]
  have hl := Zfj (a := a) h2' S.er h3 h4 hput
  rcases h1 with h1 | ⟨h1,rfl⟩
  ·rw [h1]; exact hnext _ _ hl
  ·rw [h1]; exact hnext _ _ hl
 unfold Ydf at hvc
 split at hvc
 ·rename_i f args ts hop
  split at hvc
  ·rename_i g c0 c1 hf
   obtain ⟨⟨aZ,lv⟩,hview0,hvc⟩ := Got.cases hvc
   obtain ⟨res,hres,hvc⟩ := Got.cases hvc
   dsimp only at hvc hres
   obtain ⟨⟨fn,q1,q2,q3⟩,hcall⟩ := hpc g aZ res hres
   have hfv := Xc S.er f
   rw [hf] at hfv
   obtain ⟨v0,v1,hv,k0,k1⟩ : ∃ v0 v1,a.eval f = .func (.func g) v0 v1 /\ VRs r I w D c0 v0 /\ VRs r I w D c1 v1 := by
    generalize a.eval f = z at hfv
    cases hfv with
    | func _ _ _ _ v0 v1 h0 h1 g0 g1 => exact ⟨v0,v1,rfl,⟨h0,g0⟩,⟨h1,g1⟩⟩
   have hargs := Xl (fun x => Xc S.er x) args
   have hvs := (k0.append hargs).append k1
   have hview := Us S.hr hvs hview0
   have hc := Um hF (hcall _ w _ (Zel S.hr lv) hview)
   have hrunE : (execOp a.eval o).run P w = .ok (.enter g ((v0 ++ args.map a.eval) ++ v1)) w := by
    have : execOp a.eval o = (do let d <-resolve a.eval { callee := .value f,args := args,argTypes := ts } o.type; invoke d.target d.args) := by
     unfold execOp; rw [hop]
    rw [this]
    have q2' : ¬ fn.name = "runtime.NumGoroutine" := by simpa using q2
    have q3' : ¬ fn.body = none := by intro h; rw [h] at q3; simp at q3
    simp [resolve,hv,Deferred.ofValue,invoke,callFunc,q1,q2',q3']
   rw [hrunE]
   refine ⟨fun hd => by rw [hF.depth] at hd; simp at hd,?_⟩
   refine hc.mono fun e w' hh => ?_
   obtain ⟨y,r',I',rfl,hp⟩ := hh
   split at hvc
   ·rename_i hs hb
    have V := hp.val.scalar hs r' I w' (fun i => i < ([] : List (Nat × List (List AV))).length)
    have hp2 : PPost I w I w' r' ⟨res.v,[]⟩ y := ⟨hp.below,fun _ _ h => h,fun _ _ h => .inl h,fun b o hi => Nat.lt_of_lt_of_le (S.hr.imm b o hi) hp.below.size,fun j p hj => by simp at hj,fun j j' hj => by simp at hj,V⟩
    obtain ⟨r2,D2,_,H2,S2,V2⟩ := S.hr.call (k := σ.next) (n' := σ.next) hp2 (fun j hj => by simp at hj) (Nat.le_refl _) (by simp)
    have : Xk σ.get σ.next (PRes.mk res.v []).blks = σ.get := by funext i; simp only [Xk,List.getElem?_nil]; split <;> rfl
    rw [this] at H2
    exact hnext _ _ (Zfj (a := a) H2 S.er S2 (hp.val.scalar hs _ _ _ _) hvc)
   ·cases hc : (Zew res.v && Zaj res.blks) with
    | false => rw [hc] at hvc; exact hvc.elim
    | true =>
     rw [hc] at hvc
     simp only [cond_true] at hvc
     simp only [Bool.and_eq_true] at hc
     have hII : ∀ b o,I b o -> I' b o := fun b o h => hp.immL b o (.inl h)
     have hp2 : PPost I w I w' r' res y := ⟨hp.below,fun _ _ h => h,fun _ _ h => .inl h,fun b o hi => Nat.lt_of_lt_of_le (S.hr.imm b o hi) hp.below.size,fun j p hj => by
      obtain ⟨g1,g2,g3⟩ := hp.rows j p hj
      exact ⟨g1,g2,g3.slim (Zdg hc.2 hj) hII⟩,hp.inj,hp.val.slim hc.1 I⟩
     obtain ⟨r2,D2,_,H2,S2,V2⟩ := S.hr.call (k := σ.next) (n' := σ.next + res.blks.length) hp2 (fun j _ hd => by have := (S.hr.dom _ hd).1; omega) (by omega) (Nat.le_refl _)
     have H3 : HR B w0 I0 pr r2 I D2 (Zeu σ res.blks).get (Zeu σ res.blks).next w' := by rw [Zkb,Zhp]; exact H2
     exact hnext _ _ (Zfj (a := a) H3 S.er S2 V2 hvc)
  ·exact hvc.elim
 ·obtain ⟨p,hp,hput⟩ := aopSK.cases hvc
  exact main p hp hput
abbrev Zs := Option (List (List AV))
structure ItEnv (P : Program) (B : Nat) (Ig : Imm) (l : Nat) (JX : Zs -> (Nat -> Prop) -> World -> Prop) : Prop where
 low : ∀ b o,Ig b o -> b < B
 grow : ∀ z O w w',JX z O w -> Chg O w w' -> JX z (fun b => O b \/ (w.heap.size <= b /\ b < w'.heap.size)) w'
 round : ∀ x zs O w ys,JX (some (x :: zs)) O w -> VRs r0 Ig w (fun _ => False) x ys ->
  YieldAt Fence.wide 0 P l ys w fun e w' => ∃ b,e = .returned (.bool b) /\ (∀ q,O q -> w'.heap[q]? = w.heap[q]?) /\ (∀ q o,Ig q o -> w'.cell? ⟨q,o,none⟩ = w.cell? ⟨q,o,none⟩) /\ w.heap.size <= w'.heap.size /\ (b = true -> JX (some zs) O w') /\ (b = false -> JX none O w')
def prO (B : Nat) (O : Nat -> Prop) (w : World) : Nat -> Obj -> Prop := fun b o => B <= b /\ ¬ O b /\ w.heap[b]? = some o
structure IS (N : Nat) (B : Nat) (Ig : Imm) (JX : Zs -> (Nat -> Prop) -> World -> Prop) (z : Zs) (env : Env) (σ : St) (a : Act) (w : World) : Prop where
 ex : ∃ r D O,HR B w Ig (prO B O w) r Ig D σ.get σ.next w /\ (∀ b,O b -> B <= b /\ b < w.heap.size) /\ ER r Ig w D N env a.tmps /\ JX z O w
 df : a.defers = []
theorem HR.rebase (H : HR B w0 I0 pr r I D h n w) (hp : ∀ b o,pr2 b o -> w.heap[b]? = some o /\ B <= b /\ (∀ id,(h id).live = true -> (r id).blk ≠ b) /\ ∀ o',¬ I b o') : HR B w I pr2 r I D h n w :=
 ⟨Below.refl _ _,H.base,H.imm,H.dom,H.live,H.blk,H.inj,fun b o h => ⟨(hp b o h).1,(hp b o h).2.1⟩,fun b o h => (hp b o h).2.2,fun _ _ h => .inl h⟩
theorem IS.step {JX : Zs -> (Nat -> Prop) -> World -> Prop} {l : Nat} (hI : ItEnv P B Ig l JX) {z : Zs} {r : Locs} {D : Nat -> Prop} {O : Nat -> Prop} (hB : B <= w.heap.size) (hO : ∀ b,O b -> B <= b /\ b < w.heap.size) (hj : JX z O w) {K : Env -> St -> Prop} {a' : Act}
  (hl : Zrd B w Ig (prO B O w) N r Ig D w [] K a' w') : ∃ env' σ',K env' σ' /\ IS N B Ig JX z env' σ' a' w' := by
 obtain ⟨env',σ',r',D',hk,⟨H,E⟩,hd,S⟩ := hl
 have hc : Chg O w w' := ⟨H.below.os,H.below.tape,H.below.output,H.below.size,fun b hb hlt => by
  by_cases hbb : b < B
  ·exact H.below.block b hbb
  ·have e1 : w.heap[b]? = some w.heap[b] := by simp [hlt]
   rw [(H.prot b _ ⟨by omega,hb,e1⟩).1,e1]⟩
 refine ⟨env',σ',hk,⟨r',D',_,H.rebase (fun b o hp => ?_),fun b hb => ?_,E,hI.grow z O w w' hj hc⟩,hd⟩
 ·obtain ⟨h1,h2,h3⟩ := hp
  refine ⟨h3,h1,fun id hid e => ?_,fun o' hi => by have := hI.low b o' hi; omega⟩
  have hlt := (H.dom id (H.live id hid)).2
  have hnO : ¬ O b := fun hb => h2 (.inl hb)
  have hlt2 : b < w.heap.size := by
   rcases Nat.lt_or_ge b w.heap.size with h | h
   ·exact h
   ·exact (h2 (.inr ⟨h,by omega⟩)).elim
  have e1 : w.heap[b]? = some w.heap[b] := by simp [hlt2]
  exact (H.protK b _ ⟨h1,hnO,e1⟩).1 id hid e
 ·rcases hb with hb | hb
  ·have := hO b hb; have := H.below.size; omega
  ·omega
def Zn1 : List (Nat × ABlk) -> Bool
 | [] => true
 | p :: l => (match p.2 with
  | .row _ _ mt _ => mt
  | _ => true) && Zn1 l
theorem Zej : ∀ {l : List (Nat × ABlk)},Zn1 l = true -> ∀ {i es elems mt pu},hget l i = .row es elems mt pu -> mt = true
 | [],_,i,es,elems,mt,pu,hg => by simp [hget] at hg
 | (j,b) :: l,hm,i,es,elems,mt,pu,hg => by
  simp only [Zn1,Bool.and_eq_true] at hm
  simp only [hget] at hg
  cases hb : Nat.beq i j with
  | true => rw [hb] at hg; simp at hg; subst hg; exact hm.1
  | false => rw [hb] at hg; exact Zej hm.2 hg
variable {r r' : Locs} {D D' : Nat -> Prop} {I I' : Imm} {w w' w0 : World} {I0 Ig : Imm} {B n n' k N l : Nat} {pr pr' pr2 : Nat -> Obj -> Prop} {h : Nat -> ABlk} {P : Program} {JX : Zs -> (Nat -> Prop) -> World -> Prop}
theorem IS.behind {z z' : Zs} {env : Env} {σ : St} {a : Act} (hI : ItEnv P B Ig l JX) {r : Locs} {D : Nat -> Prop} {O : Nat -> Prop} (H : HR B w Ig (prO B O w) r Ig D σ.get σ.next w) (hO : ∀ b,O b -> B <= b /\ b < w.heap.size) (E : ER r Ig w D N env a.tmps) (hd : a.defers = []) (hm : Zn1 σ.heap = true)
  (k1 : ∀ q,O q -> w'.heap[q]? = w.heap[q]?) (k2 : ∀ q o,Ig q o -> w'.cell? ⟨q,o,none⟩ = w.cell? ⟨q,o,none⟩) (k3 : w.heap.size <= w'.heap.size) (hj : JX z' O w') : IS N B Ig JX z' env σ a w' := by
 have hlO : ∀ id,(σ.get id).live = true -> O (r id).blk := by
  intro id hid
  have hB : B <= (r id).blk := by
   have hb := H.blk id
   cases hx : σ.get id with
   | row es elems mt pu =>
    have := Zej hm hx
    subst this
    rw [hx] at hb
    obtain ⟨_,_,_,cs,T,fz,_,_,_,h7,_⟩ := hb
    exact (h7 rfl).1
   | map ents => rw [hx] at hb; exact hb.1
   | set keys => rw [hx] at hb; exact hb.1
   | dead => rw [hx] at hid; simp [ABlk.live] at hid
  by_cases ho : O (r id).blk
  ·exact ho
  ·have hlt := (H.dom id (H.live id hid)).2
   have e1 : w.heap[(r id).blk]? = some w.heap[(r id).blk] := by simp [hlt]
   exact ((H.protK _ _ ⟨hB,ho,e1⟩).1 id hid rfl).elim
 have hst : Step r D Ig w r D Ig w' := ⟨fun id h => ⟨h,rfl⟩,fun b o h => ⟨h,k2 b o h⟩,k3⟩
 refine ⟨⟨r,D,O,⟨Below.refl _ _,Nat.le_trans H.base k3,fun b o hi => Nat.lt_of_lt_of_le (H.imm b o hi) k3,fun id hd => ⟨(H.dom id hd).1,Nat.lt_of_lt_of_le (H.dom id hd).2 k3⟩,H.live,fun id => ?_,H.inj,fun b o hp => ⟨hp.2.2,hp.1⟩,fun b o hp => ⟨fun id hid e => hp.2.1 (e ▸ hlO id hid),fun o' hi => by have := hI.low b o' hi; have := hp.1; omega⟩,fun _ _ h => .inl h⟩,fun b hb => by have := hO b hb; omega,E.mono hst,hj⟩,hd⟩
 by_cases hid : (σ.get id).live = true
 ·exact (H.blk id).mono hst rfl (fun _ => k1 _ (hlO id hid)) (fun _ _ _ _ _ hx => hx)
 ·have : σ.get id = .dead := by cases hx : σ.get id <;> simp_all [ABlk.live]
  rw [this]; trivial
def Zt8 (env : Env) (o : Oper) : Option (Nat × List AV) :=
 match o.op with
 | .call { callee := .value f,args,.. } => match evA env f with
  | .yld l => some (l,Xt (evA env) args.toList)
  | _ => none
 | _ => none
def Zky (cx : Cx) (pc : PC) (N l : Nat) : List Oper -> Env -> St -> Zs -> (Env -> St -> Zs -> Prop) -> Prop
 | [],env,σ,z,K => K env σ z
 | o :: rest,env,σ,z,K =>
  match o.guard with
  | some _ => False
  | none => match Zt8 env o with
   | some (l',aZ) => match z with
    | some (x :: zs) => l' = l /\ x = aZ /\ Yh aZ = true /\ Zn1 σ.heap = true /\ (Zq N o.dst (.bool true) env fun env' => Zky cx pc N l rest env' σ (some zs) K) /\ (Zq N o.dst (.bool false) env fun env' => Zky cx pc N l rest env' σ none K)
    | _ => False
   | none => Ydf cx pc N o env σ fun env' σ' => Zky cx pc N l rest env' σ' z K
theorem Zzw {aZ : List AV} {ys : Array Value} (h : VRs r I w D aZ ys) (hp : Yh aZ = true) : VRs r0 I w (fun _ => False) aZ ys :=
 ⟨h.1,fun i c v hc hv => ((h.2 i c v hc hv).pure (Vb hp hc)).mono ⟨fun _ h => h.elim,fun _ _ h => ⟨h,rfl⟩,Nat.le_refl _⟩⟩
theorem IS.put {z : Zs} {env : Env} {σ : St} {a : Act} (S : IS N B Ig JX z env σ a w) {dst : Option Nat} {v : AV} {x : Value} (hv : ∀ r D,VR r Ig w D v x) {K : Env -> Prop} (hk : Zq N dst v env K) : ∃ env',K env' /\ IS N B Ig JX z env' σ (a.put dst x) w := by
 obtain ⟨⟨r,D,O,H,hO,E,hj⟩,hd⟩ := S
 cases dst with
 | none => exact ⟨env,hk,⟨r,D,O,H,hO,E,hj⟩,hd⟩
 | some d =>
  simp only [Zq] at hk
  rcases Br.cases hk with ⟨h1,h2⟩ | ⟨_,h2⟩
  ·have hdl : d < N := by simpa [Nat.blt_eq] using h1
   exact ⟨(d,v) :: env,h2,⟨r,D,O,H,hO,E.put hdl (hv r D),hj⟩,hd⟩
  ·exact h2.elim
theorem Zbd {cx : Cx} (hcx : CxOK P cx) {pc : PC} (hpc : PCOK P pc) (hI : ItEnv P B Ig l JX) (ops : Array Oper) {Q : Exit -> Act -> World -> Prop} {K : Env -> St -> Zs -> Prop} : ∀ (os : List Oper),Yi os = true -> ∀ {env : Env} {σ : St} {z : Zs} {a : Act} {w : World},
  IS N B Ig JX z env σ a w -> Zky cx pc N l os env σ z K -> (∀ a' w' env' σ' z',K env' σ' z' -> IS N B Ig JX z' env' σ' a' w' -> Q .normal a' w') -> wpListIn Fence.wide 0 P ops Q os a w
 | [],_,env,σ,z,a,w,S,hv,hq => hq _ _ _ _ _ hv S
 | o :: rest,hnd,env,σ,z,a,w,S,hv,hq => by
  simp only [Yi,Bool.and_eq_true] at hnd
  obtain ⟨hd1,hd2⟩ := hnd
  have ho : ∀ c,o.op ≠ .defer c := fun c e => by rw [e] at hd1; simp at hd1
  simp only [Zky] at hv
  cases hg : o.guard with
  | some _ => rw [hg] at hv; exact hv.elim
  | none =>
   rw [hg] at hv
   dsimp only at hv
   unfold wpListIn
   rw [if_pos (by simp [Region.wanted,hg])]
   cases hy : Zt8 env o with
   | none =>
    rw [hy] at hv
    dsimp only at hv
    obtain ⟨⟨r,D,O,H,hO,E,hj⟩,hdf⟩ := S
    refine Zpv hcx hpc (.inl rfl) o ho ⟨H,E⟩ hv (fun a' w' hl => ?_)
    rw [hdf] at hl
    obtain ⟨env',σ',hk,S'⟩ := IS.step hI H.base hO hj hl
    exact Zbd hcx hpc hI ops rest hd2 S' hk hq
   | some la =>
    obtain ⟨l',aZ⟩ := la
    rw [hy] at hv
    dsimp only at hv
    split at hv
    ·rename_i x zs
     obtain ⟨e1,e2,hp,hm,ht,hf⟩ := hv
     rw [<-e2] at hp hy
     rw [e1] at hy
     clear e1 e2
     unfold Zt8 at hy
     split at hy
     ·rename_i f args ts hop
      split at hy
      ·rename_i l2 hf2
       simp only [Option.some.injEq,Prod.mk.injEq] at hy
       obtain ⟨e3,hy⟩ := hy
       rw [e3] at hf2
       clear e3
       obtain ⟨⟨r,D,O,H,hO,E,hj⟩,hdf⟩ := S
       have hfv := Xc E f
       rw [hf2] at hfv
       have hval : a.eval f = .func (.yield l) #[] #[] := by generalize a.eval f = q at hfv; cases hfv; rfl
       have hargs := Xl (fun x => Xc E x) args
       rw [hy] at hargs
       obtain ⟨fn,tmps,assign,body,hrun,hR⟩ := hI.round x zs O w _ hj (Zzw hargs hp)
       refine ⟨Ub (.inl rfl) o a w,?_⟩
       rw [Oper.semAt_eq _ _ _ ho]
       have hrunE : (execOp a.eval o).run P w = .ok (.round l fn tmps assign body) w := by
        have : execOp a.eval o = (do let d <-resolve a.eval { callee := .value f,args := args,argTypes := ts } o.type; invoke d.target d.args) := by
         unfold execOp; rw [hop]
        rw [this]
        simp [resolve,hval,Deferred.ofValue,invoke]
        simpa using hrun
       rw [hrunE]
       refine ⟨fun hd => by simp [Fence.wide] at hd,hR.mono fun e w' hh => ?_⟩
       obtain ⟨b,rfl,k1,k2,k3,hjt,hjf⟩ := hh
       cases b with
       | true =>
        have S2 := IS.behind (z := some (x :: zs)) (z' := some zs) (σ := σ) hI H hO E hdf hm k1 k2 k3 (hjt rfl)
        obtain ⟨env',hk,S3⟩ := S2.put (fun r D => .bool D true) ht
        exact Zbd hcx hpc hI ops rest hd2 S3 hk hq
       | false =>
        have S2 := IS.behind (z := some (x :: zs)) (z' := none) (σ := σ) hI H hO E hdf hm k1 k2 k3 (hjf rfl)
        obtain ⟨env',hk,S3⟩ := S2.put (fun r D => .bool D false) hf
        exact Zbd hcx hpc hI ops rest hd2 S3 hk hq
      ·cases hy
     ·cases hy
    ·exact hv.elim
variable {r r' : Locs} {D D' : Nat -> Prop} {I I' : Imm} {w w' w0 : World} {I0 Ig : Imm} {B n n' k N l : Nat} {pr pr' pr2 : Nat -> Obj -> Prop} {h : Nat -> ABlk} {P : Program} {JX : Zs -> (Nat -> Prop) -> World -> Prop}
abbrev IQ := Exit -> Env -> St -> Zs -> Prop
def PI (N B : Nat) (Ig : Imm) (JX : Zs -> (Nat -> Prop) -> World -> Prop) (Q : IQ) : Exit -> Act -> World -> Prop := fun e a' w' => ∃ env' σ' z',Q e env' σ' z' /\ IS N B Ig JX z' env' σ' a' w'
def AwpI (P : Program) (N B : Nat) (Ig : Imm) (JX : Zs -> (Nat -> Prop) -> World -> Prop) (c : Code) (env : Env) (σ : St) (z : Zs) (Q : IQ) : Prop :=
 ∀ a w,IS N B Ig JX z env σ a w -> c.wpIn Fence.wide 0 P (PI N B Ig JX Q) a w
def seqI (K : Env -> St -> Zs -> Prop) (Q : IQ) : IQ
 | .normal,env,σ,z => K env σ z
 | e,env,σ,z => Q e env σ z
def Zlr (id : Nat) (Q : IQ) : IQ
 | .exit id',env,σ,z => cond (Nat.beq id' id) (Q .normal env σ z) (Q (.exit id') env σ z)
 | e,env,σ,z => Q e env σ z
def Ziq (cx : Cx) (pc : PC) (N l : Nat) (lp : Code -> Env -> St -> Zs -> IQ -> Prop) : Code -> Env -> St -> Zs -> IQ -> Prop
 | .skip,env,σ,z,Q => Q .normal env σ z
 | .region _ ops draw,env,σ,z,Q => match draw with
  | false => cond (Yi ops.toList) (Zky cx pc N l ops.toList env σ z (Q .normal)) False
  | true => False
 | .seq x y,env,σ,z,Q => Ziq cx pc N l lp x env σ z (seqI (fun env' σ' z' => Ziq cx pc N l lp y env' σ' z' Q) Q)
 | .cond c x y,env,σ,z,Q => match evA env c with
  | .bool b => Br b (fEnv (setC env c true) fun env => Ziq cx pc N l lp x env σ z Q) (fEnv (setC env c false) fun env => Ziq cx pc N l lp y env σ z Q)
  | _ => False
 | .block id c,env,σ,z,Q => Ziq cx pc N l lp c env σ z (Zlr id Q)
 | .loop c,env,σ,z,Q => lp c env σ z Q
 | .exit id,env,σ,z,Q => Q (.exit id) env σ z
 | .ret,env,σ,z,Q => Q .ret env σ z
 | _,_,_,_,_ => False
theorem IS.setC {z : Zs} {env : Env} {σ : St} {a : Act} {c : Operand} {b : Bool} (S : IS N B Ig JX z env σ a w) (hc : evA env c = .bool b) : IS N B Ig JX z (Sx.setC env c b) σ a w := by
 obtain ⟨⟨r,D,O,H,hO,E,hj⟩,hd⟩ := S
 cases c with
 | tmp t =>
  refine ⟨⟨r,D,O,H,hO,⟨E.1,fun i => ?_⟩,hj⟩,hd⟩
  simp only [Sx.setC,Env.get_cons]
  by_cases e : i = t
  ·subst e; rw [if_pos rfl,<-hc]; exact E.2 i
  ·rw [if_neg e]; exact E.2 i
 | _ => exact ⟨⟨r,D,O,H,hO,E,hj⟩,hd⟩
theorem Uh {cx : Cx} (hcx : CxOK P cx) {pc : PC} (hpc : PCOK P pc) (hI : ItEnv P B Ig l JX) {lp : Code -> Env -> St -> Zs -> IQ -> Prop} (hlp : ∀ c env σ z Q,lp c env σ z Q -> AwpI P N B Ig JX (.loop c) env σ z Q) :
  ∀ (c : Code) (env : Env) (σ : St) (z : Zs) (Q : IQ),Ziq cx pc N l lp c env σ z Q -> AwpI P N B Ig JX c env σ z Q
 | .skip,env,σ,z,Q,hv => fun a w S => wpIn_skip ⟨env,σ,z,hv,S⟩
 | .region id ops draw,env,σ,z,Q,hv => by
  cases draw with
  | true => exact hv.elim
  | false =>
   intro a w S
   simp only [Ziq] at hv
   cases hno : Yi ops.toList with
   | false => rw [hno] at hv; exact hv.elim
   | true =>
    rw [hno] at hv
    refine wpIn_region_list ?_
    exact Zbd hcx hpc hI ops (Q := PI N B Ig JX Q) ops.toList hno S hv (fun a' w' env' σ' z' hk S' => ⟨env',σ',z',hk,S'⟩)
 | .seq x y,env,σ,z,Q,hv => by
  intro a w S
  simp only [Ziq] at hv
  refine wpIn_seq (Code.wpIn_mono (fun e a' w' h => ?_) (Uh hcx hpc hI hlp x env σ z _ hv a w S))
  obtain ⟨env',σ',z',hq,S'⟩ := h
  cases e with
  | normal => exact Uh hcx hpc hI hlp y env' σ' z' Q hq a' w' S'
  | exit id => exact ⟨env',σ',z',hq,S'⟩
  | goto l => exact ⟨env',σ',z',hq,S'⟩
  | ret => exact ⟨env',σ',z',hq,S'⟩
  | panic ch => exact ⟨env',σ',z',hq,S'⟩
  | outgrown => exact ⟨env',σ',z',hq,S'⟩
 | .cond c x y,env,σ,z,Q,hv => by
  intro a w S
  simp only [Ziq,Zqr] at hv
  split at hv
  ·rename_i b hb
   obtain ⟨⟨r,D,O,H,hO,E,hj⟩,hd⟩ := S
   have S : IS N B Ig JX z env σ a w := ⟨⟨r,D,O,H,hO,E,hj⟩,hd⟩
   have hc := Xc E c
   rw [hb] at hc
   have hcv : a.eval c = .bool b := by generalize a.eval c = z at hc; cases hc; rfl
   rcases Br.cases hv with ⟨rfl,h⟩ | ⟨rfl,h⟩
   ·exact wpIn_cond_true hcv (Uh hcx hpc hI hlp x _ σ z Q h a w (S.setC hb))
   ·exact wpIn_cond_false hcv (Uh hcx hpc hI hlp y _ σ z Q h a w (S.setC hb))
  ·exact hv.elim
 | .block id c,env,σ,z,Q,hv => by
  intro a w S
  simp only [Ziq] at hv
  refine wpIn_block (Code.wpIn_mono (fun e a' w' h => ?_) (Uh hcx hpc hI hlp c env σ z _ hv a w S))
  obtain ⟨env',σ',z',hq,S'⟩ := h
  cases e with
  | exit id' =>
   by_cases hid : id' = id
   ·subst hid
    simp only [Exit.inBlock,if_true]
    exact ⟨env',σ',z',by simpa [Zlr] using hq,S'⟩
   ·simp only [Exit.inBlock,hid,if_false]
    have : Nat.beq id' id = false := by rw [Bool.eq_false_iff]; intro hb; exact hid (Nat.eq_of_beq_eq_true hb)
    exact ⟨env',σ',z',by simpa [Zlr,this] using hq,S'⟩
  | normal => exact ⟨env',σ',z',hq,S'⟩
  | goto l => exact ⟨env',σ',z',hq,S'⟩
  | ret => exact ⟨env',σ',z',hq,S'⟩
  | panic ch => exact ⟨env',σ',z',hq,S'⟩
  | outgrown => exact ⟨env',σ',z',hq,S'⟩
 | .loop c,env,σ,z,Q,hv => hlp c env σ z Q hv
 | .exit id,env,σ,z,Q,hv => fun a w S => wpIn_exit ⟨env,σ,z,hv,S⟩
 | .ret,env,σ,z,Q,hv => fun a w S => wpIn_ret ⟨env,σ,z,hv,S⟩
 | .rangeFunc _ _ _ _,_,_,_,_,hv => hv.elim
 | .scope _,_,_,_,_,hv => hv.elim
 | .label _,_,_,_,_,hv => hv.elim
 | .goto _,_,_,_,_,hv => hv.elim
 | .refuse _,_,_,_,_,hv => hv.elim
def Ybg (va : Code -> Env -> St -> Zs -> IQ -> Prop) (c : Code) (Q : IQ) : Nat -> Env -> St -> Zs -> Prop
 | 0,_,_,_ => False
 | m + 1,env,σ,z => va c env σ z (seqI (Ybg va c Q m) Q)
theorem Zqa {c : Code} {Q : IQ} : ∀ (m : Nat) {env : Env} {σ : St} {z : Zs},Ybg (AwpI P N B Ig JX) c Q m env σ z -> AwpI P N B Ig JX (.loop c) env σ z Q := by
 intro m env σ z hv a w S
 refine wpIn_loop_rounds m ?_
 induction m generalizing env σ z a w with
 | zero => exact hv.elim
 | succ m ih =>
  refine Code.wpIn_mono (fun e a' w' h => ?_) (hv a w S)
  obtain ⟨env',σ',z',hq,S'⟩ := h
  cases e with
  | normal => exact ih hq a' w' S'
  | exit id => exact ⟨env',σ',z',hq,S'⟩
  | goto l => exact ⟨env',σ',z',hq,S'⟩
  | ret => exact ⟨env',σ',z',hq,S'⟩
  | panic ch => exact ⟨env',σ',z',hq,S'⟩
  | outgrown => exact ⟨env',σ',z',hq,S'⟩
theorem Zt6 {T : Tab} (hT : TabOK P T) {g : FuncId} {fn : Func} {c : Code} (hf : P.funcs[g]? = some fn) (hfn : FnOK P g) (hb : fn.body = some c) {c0 c1 : List AV} {xs : List (List AV)} (hle : c0.length + 1 + c1.length <= fn.ntmps)
  (hv : ∀ (B : Nat) (Ig : Imm) (l : Nat) (JX : Zs -> (Nat -> Prop) -> World -> Prop),ItEnv P B Ig l JX -> AwpI P fn.ntmps B Ig JX c (env0 0 ((c0 ++ [AV.yld l]) ++ c1)) ⟨[],0⟩ (some xs)
   (fun e env' σ' z => (e = .normal \/ e = .ret) /\ (z = some [] \/ z = none) /\ ∃ vs,Zbu T env' σ'.get fn.results.toList = some vs)) : ItOK P g c0 c1 xs := by
 refine ⟨hfn,fun I W v0 v1 l J X hlt hv0 hv1 R J0 => ?_⟩
 let JX : Zs -> (Nat -> Prop) -> World -> Prop := fun z O w => match z with
  | some zs => ∃ i,i <= xs.length /\ xs.drop i = zs /\ J i O w
  | none => X O w
 have hI : ItEnv P W.heap.size I l JX := by
  refine ⟨hlt,fun z O w w' hj hc => ?_,fun x zs O w ys hj hvx => ?_⟩
  ·cases z with
   | none => exact R.growX O w w' hj hc
   | some zs => obtain ⟨i,h1,h2,h3⟩ := hj; exact ⟨i,h1,h2,R.grow i O w w' h3 hc⟩
  ·obtain ⟨i,h1,h2,h3⟩ := hj
   have hx : xs[i]? = some x := by
    have := congrArg (fun l => l[0]?) h2
    simpa [List.getElem?_drop] using this
   have hil := (List.getElem?_eq_some_iff.1 hx).1
   obtain ⟨fn',tmps,assign,body,q1,q2⟩ := R.round i x O w ys hx h3 hvx
   refine ⟨fn',tmps,assign,body,q1,q2.mono fun e w' hh => ?_⟩
   obtain ⟨b,p1,p2,p3,p4,p5,p6⟩ := hh
   refine ⟨b,p1,p2,p3,p4,fun hb => ⟨i + 1,hil,?_,p5 hb⟩,p6⟩
   have := congrArg List.tail h2
   simpa using this
 have hargs : VRs r0 I W (fun _ => False) ((c0 ++ [AV.yld l]) ++ c1) ((v0 ++ #[Value.func (.yield l) #[] #[]]) ++ v1) :=
  (hv0.append ⟨rfl,fun i c v hc hv' => by
   cases i with
   | zero => simp at hc hv'; subst hc; subst hv'; exact .yld _ _
   | succ i => simp at hc⟩).append hv1
 refine callsIn_of_wp_marks hf hb trivial ?_
 have hsz : ((v0 ++ #[Value.func (.yield l) #[] #[]]) ++ v1).size = ((c0 ++ [AV.yld l]) ++ c1).length := hargs.1
 have hlen : ((c0 ++ [AV.yld l]) ++ c1).length = c0.length + 1 + c1.length := by simp; omega
 have S : IS fn.ntmps W.heap.size I JX (some xs) (env0 0 ((c0 ++ [AV.yld l]) ++ c1)) ⟨[],0⟩ { tmps := ((v0 ++ #[Value.func (.yield l) #[] #[]]) ++ v1) ++ Array.replicate (fn.ntmps - ((v0 ++ #[Value.func (.yield l) #[] #[]]) ++ v1).size) undef,defers := [] } W := by
  refine ⟨⟨r0,fun _ => False,fun _ => False,⟨Below.refl _ _,Nat.le_refl _,hlt,fun _ h => h.elim,fun id h => by simp [St.get,hget,ABlk.live] at h,fun id => by simp [St.get,hget,BlkOK],fun id id' h => by simp [St.get,hget,ABlk.live] at h,fun b o hp => ?_,fun b o hp => ?_,fun _ _ h => .inl h⟩,fun b hb => hb.elim,⟨by simp at hsz ⊢; omega,fun i => ?_⟩,⟨0,Nat.zero_le _,rfl,J0⟩⟩,rfl⟩
  ·obtain ⟨h1,_,h2⟩ := hp
   have := (Array.getElem?_eq_some_iff.1 h2).1
   omega
  ·obtain ⟨h1,_,h2⟩ := hp
   have := (Array.getElem?_eq_some_iff.1 h2).1
   omega
  ·rw [Zig]
   simp only [Nat.zero_le,if_true,Nat.sub_zero]
   cases hi : ((c0 ++ [AV.yld l]) ++ c1)[i]? with
   | none => simp; exact .any _ _
   | some v =>
    have hlt : i < ((v0 ++ #[Value.func (.yield l) #[] #[]]) ++ v1).size := by rw [hsz]; exact (List.getElem?_eq_some_iff.1 hi).1
    have hgo := hargs.2 i v (((v0 ++ #[Value.func (.yield l) #[] #[]]) ++ v1)[i]'hlt) hi (by simp [hlt])
    generalize ((v0 ++ #[Value.func (.yield l) #[] #[]]) ++ v1) = vv at hlt hgo
    simpa [Array.getD_eq_getD_getElem?,Array.getElem?_append,hlt] using hgo
 refine Code.wpIn_mono (fun e a' w' hp => ?_) (hv _ _ _ _ hI _ _ S)
 obtain ⟨env',σ',z',⟨he,hz,vs,hres⟩,⟨⟨r,D,O,H,hO,E,hj⟩,hd⟩⟩ := hp
 obtain ⟨x,h1,h2⟩ := Zfh hT H E hres
 have hfin : ∃ x,(results fn a'.tmps).run P w' = .ok x w' /\ (∃ v,Ending.returned x = .returned v /\ ((∃ O,J xs.length O w') \/ ∃ O,X O w')) := by
  refine ⟨x,h1,x,rfl,?_⟩
  rcases hz with rfl | rfl
  ·obtain ⟨i,q1,q2,q3⟩ := hj
   have : i = xs.length := by
    have := congrArg List.length q2
    simp at this; omega
   subst this
   exact .inl ⟨O,q3⟩
  ·exact .inr ⟨O,hj⟩
 have hL : LeavesInM Fence.wide 0 P fn a'.tmps (fun e w' => ∃ v,e = .returned v /\ ((∃ O,J xs.length O w') \/ ∃ O,X O w')) a'.defers .returning w' := by
  rw [hd]; exact hfin
 rcases he with rfl | rfl
 ·exact hL
 ·exact hL
variable {r r' : Locs} {D D' : Nat -> Prop} {I I' : Imm} {w w' w0 : World} {I0 : Imm} {B n n' k N : Nat} {pr pr' : Nat -> Obj -> Prop} {h : Nat -> ABlk} {P : Program}
theorem Zs2 {T : Tab} (hT : TabOK P T) {f : FuncId} {fn : Func} (hf : P.funcs[f]? = some fn) {c : Code} (hb : fn.body = some c) {args : List AV} (hle : args.length <= fn.ntmps) {σ : St} {K : AV -> St -> Prop} (hv : Awp P fn.ntmps c (env0 0 args) σ (retQ T fn.results.toList K)) : SemCall P f args σ K := by
 intro B w0 I0 pr r I D w vs H hargs
 refine callsIn_of_wp_marks hf hb trivial ?_
 have hsz : vs.size = args.length := hargs.1
 have S : SR B w0 I0 pr fn.ntmps r I D (env0 0 args) σ { tmps := vs ++ Array.replicate (fn.ntmps - vs.size) undef,defers := [] } w := by
  refine ⟨H,by simp; omega,fun i => ?_⟩
  rw [Zig]
  simp only [Nat.zero_le,if_true,Nat.sub_zero]
  cases hi : args[i]? with
  | none => simp; exact .any _ _
  | some v =>
   have hlt : i < vs.size := by rw [hsz]; exact (List.getElem?_eq_some_iff.1 hi).1
   have := hargs.2 i v vs[i] hi (by simp [hlt])
   simpa [Array.getD_eq_getD_getElem?,Array.getElem?_append,hlt] using this
 refine Code.wpIn_mono (fun e a' w' hp => ?_) (hv Fence.wide B w0 I0 pr r I D _ w (.inl rfl) (fun l hl => by cases hl) S)
 have fin : ∀ (pr' : Nat -> Obj -> Prop) (ms : List Deferred) (env' : Env) (σ' : St) (r' : Locs) (I' : Imm) (D' : Nat -> Prop),(∀ b o,pr b o -> pr' b o) -> Mk w pr' ms -> ms.Pairwise (fun a b => a.target ≠ b.target) -> a'.defers = ms ++ [] ->
   (Got (Zbu T env' σ'.get fn.results.toList) fun vs => K (resV vs) σ') -> SR B w0 I0 pr' fn.ntmps r' I' D' env' σ' a' w' -> Step r D I w r' D' I' w' ->
   LeavesInM Fence.wide 0 P fn a'.tmps (fun e w' => ∃ x v σ' r' I' D',e = .returned x /\ K v σ' /\ HR B w0 I0 pr r' I' D' σ'.get σ'.next w' /\ VR r' I' w' D' v x /\ Step r D I w r' D' I' w') a'.defers .returning w' := by
  intro pr' ms env' σ' r' I' D' p1 m1 n1 d1 q1 s1 t1
  obtain ⟨us,hus,hk⟩ := Got.cases q1
  rw [d1,List.append_nil]
  refine Zdy hT ms (pr := pr) m1 n1 (fun x o hx => ⟨p1 x o hx,(Array.getElem?_eq_some_iff.1 (H.prot x o hx).1).1⟩) s1.hr s1.er hus (fun x w2 H2 S2 V2 => ?_)
  exact ⟨x,resV us,σ',r',I',D',rfl,hk,H2,V2,t1.trans S2⟩
 obtain ⟨pr',ms,env',σ',r',I',D',p1,m1,n1,d1,q1,s1,t1,z1⟩ := hp
 cases e with
 | normal => exact fin pr' ms env' σ' r' I' D' p1 m1 n1 d1 q1 s1 t1
 | ret => exact fin pr' ms env' σ' r' I' D' p1 m1 n1 d1 q1 s1 t1
 | _ => exact q1.elim
theorem SemCall.mono {f : FuncId} {args : List AV} {σ : St} {K K' : AV -> St -> Prop} (h : SemCall P f args σ K) (hk : ∀ v σ,K v σ -> K' v σ) : SemCall P f args σ K' := fun B w0 I0 pr r I D w vs H hv => (h B w0 I0 pr r I D w vs H hv).mono fun e w' ⟨x,v,σ',r',I',D',h1,h2,h3⟩ => ⟨x,v,σ',r',I',D',h1,hk _ _ h2,h3⟩
theorem Zdt {f : FuncId} (hfn : FnOK P f) {args : List AV} {res : PRes} (hids : Vf res.blks.length res.v = true) (hv : SemCall P f args ⟨[],0⟩ (Zc0 res)) : PCall P f args res := by
 refine ⟨hfn,fun I w vs hI hargs => ?_⟩
 have H : HR w.heap.size w I (fun _ _ => False) r0 I (fun _ => False) (St.get ⟨[],0⟩) 0 w :=
  ⟨Below.refl _ _,Nat.le_refl _,hI,fun _ h => h.elim,fun id h => by simp [St.get,hget,ABlk.live] at h,fun id => by simp [St.get,hget,BlkOK],fun id id' h => by simp [St.get,hget,ABlk.live] at h,fun _ _ h => h.elim,fun _ _ h => h.elim,fun _ _ h => .inl h⟩
 refine (hv w.heap.size w I (fun _ _ => False) r0 I (fun _ => False) w vs H hargs).mono fun e w' hh => ?_
 obtain ⟨x,v,σ',r',I',D',rfl,⟨ids,hnd,hlen,hren,hrows⟩,H',V',S'⟩ := hh
 refine ⟨x,fun j => r' (listed ids j),I',rfl,H'.below,fun b o h => (S'.imm b o h).1,H'.immB,H'.imm,fun j p hj => ?_,fun j j' h1 h2 hne => ?_,?_⟩
 ·have hr := hrows j p hj
  have hB := H'.blk (listed ids j)
  have hl : (σ'.get (listed ids j)).live = true := by rw [hr]; rfl
  have hd := H'.live _ hl
  rw [hr] at hB
  obtain ⟨g1,g2,g3,cs,T,fz,g4,g5,g6,g7,g8⟩ := hB
  refine ⟨(g7 rfl).1,(H'.dom _ hd).2,g1,g2,g3,cs,T,fz,g4,g5,fun i e j' c hi hj' => ?_,fun _ => g7 rfl,by simp⟩
  obtain ⟨u,a,b⟩ := g6 i e j' c hi hj'
  exact ⟨u,a,b.mono ⟨fun _ h => by simp at h,fun _ _ h => ⟨h,rfl⟩,Nat.le_refl _⟩⟩
 ·have h1' : j < ids.length := by omega
  have h2' : j' < ids.length := by omega
  have e1 := hrows j _ (List.getElem?_eq_getElem h1)
  have e2 := hrows j' _ (List.getElem?_eq_getElem h2)
  refine H'.inj _ _ (by rw [e1]; rfl) (by rw [e2]; rfl) (fun e => hne ?_)
  have q1 := Zb2 ids j h1'
  have q2 := Zb2 ids j' h2'
  rw [e] at q1
  exact (List.getElem?_inj h1' hnd).1 (q1.trans q2.symm)
 ·rw [hren] at V'
  exact VR.unren (r := r') (f := listed ids) (D' := fun i => i < res.blks.length) (fun j hj => ⟨hj,rfl⟩) res.v V' hids
def Zrc (P : Program) (N : Nat) (c : Code) (Q : Exit -> Env -> St -> Prop) : Nat -> Env -> St -> Prop
 | 0,_,_ => False
 | m + 1,env,σ => Awp P N c env σ (seqQ (Zrc P N c Q m) Q)
theorem Zjj {c : Code} {Q : Exit -> Env -> St -> Prop} {m : Nat} {env : Env} {σ : St} (hv : Zrc P N c Q m env σ) : Awp P N (.loop c) env σ Q := by
 intro F B w0 I0 pr r I D a w hF hR S
 refine wpIn_loop_rounds m ?_
 have key : ∀ (m : Nat) (env : Env) (σ : St) (pr1 : Nat -> Obj -> Prop) (r1 : Locs) (I1 : Imm) (D1 : Nat -> Prop) (a1 : Act) (w1 : World) (ms : List Deferred),(∀ b o,pr b o -> pr1 b o) -> Mk w pr1 ms -> ms.Pairwise (fun a b => a.target ≠ b.target) -> a1.defers = ms ++ a.defers -> Zrc P N c Q m env σ ->
   SR B w0 I0 pr1 N r1 I1 D1 env σ a1 w1 -> Step r D I w r1 D1 I1 w1 -> w.heap.size <= w1.heap.size -> Code.roundsIn F 0 P c (Post B w0 I0 pr N r I D w a.defers Q) m a1 w1 := by
  intro m
  induction m with
  | zero => intro env σ pr1 r1 I1 D1 a1 w1 ms _ _ _ _ hv; exact hv.elim
  | succ m ih =>
   intro env σ pr1 r1 I1 D1 a1 w1 ms p1 m1 n1 d1 hv s1 t1 z1
   refine Code.wpIn_mono (fun e a2 w2 hp => ?_) (hv F B w0 I0 pr1 r1 I1 D1 a1 w1 hF (hR.le p1) s1)
   obtain ⟨pr2,ms2,env2,σ2,r2,I2,D2,p2,m2,n2,d2,q2,s2,t2,z2⟩ := hp
   have hM : Mk w pr2 (ms2 ++ ms) := by
    intro d hd
    rcases List.mem_append.1 hd with h | h
    ·obtain ⟨b,g1,g2,g3⟩ := m2 d h
     exact ⟨b,g1,g2,Nat.le_trans z1 g3⟩
    ·obtain ⟨b,g1,g2,g3⟩ := m1 d h
     exact ⟨b,g1,p2 _ _ g2,g3⟩
   have hN : (ms2 ++ ms).Pairwise (fun a b => a.target ≠ b.target) := by
    refine List.pairwise_append.2 ⟨n2,n1,fun x hx y hy e => ?_⟩
    obtain ⟨b,g1,g2,g3⟩ := m2 x hx
    obtain ⟨b',g1',g2',g3'⟩ := m1 y hy
    have := (Array.getElem?_eq_some_iff.1 (s1.hr.prot _ _ g2').1).1
    rw [g1,g1'] at e
    simp only [Target.collected.injEq] at e
    omega
   have hD : a2.defers = (ms2 ++ ms) ++ a.defers := by rw [d2,d1,List.append_assoc]
   have hout : ∀ e',Q e' env2 σ2 -> Post B w0 I0 pr N r I D w a.defers Q e' a2 w2 := fun e' hq => ⟨pr2,ms2 ++ ms,env2,σ2,r2,I2,D2,fun b o h => p2 _ _ (p1 _ _ h),hM,hN,hD,hq,s2,t1.trans t2,Nat.le_trans z1 z2⟩
   cases e with
   | normal => exact ih env2 σ2 pr2 r2 I2 D2 a2 w2 (ms2 ++ ms) (fun b o h => p2 _ _ (p1 _ _ h)) hM hN hD q2 s2 (t1.trans t2) (Nat.le_trans z1 z2)
   | exit id => exact hout _ q2
   | goto l => exact hout _ q2
   | ret => exact hout _ q2
   | panic ch => exact hout _ q2
   | outgrown => exact hout _ q2
 exact key m env σ pr r I D a w [] (fun _ _ h => h) (fun d hd => by simp at hd) .nil (by simp) hv S (Step.refl _ _ _ _) (Nat.le_refl _)
theorem Awp.mono {c : Code} {env : Env} {σ : St} {Q Q' : Exit -> Env -> St -> Prop} (h : Awp P N c env σ Q) (hq : ∀ e env σ,Q e env σ -> Q' e env σ) : Awp P N c env σ Q' :=
 fun F B w0 I0 pr r I D a w hF hR S => Code.wpIn_mono (fun e a' w' hp => hp.mono fun _ _ q => hq _ _ _ q) (h F B w0 I0 pr r I D a w hF hR S)
def Zgu (env : Env) (σ : St) (env' : Env) (σ' : St) : Prop := (∀ i,env'.get i = env.get i \/ env'.get i = .any) /\ (∀ i,σ'.get i = σ.get i \/ σ'.get i = .dead) /\ σ'.next = σ.next
theorem HR.kills (H : HR B w0 I0 pr r I D h n w) {h' : Nat -> ABlk} (hk : ∀ i,h' i = h i \/ h' i = .dead) : HR B w0 I0 pr r I D h' n w := by
 have hl : ∀ i,(h' i).live = true -> (h i).live = true := by
  intro i hi
  rcases hk i with e | e
  ·rwa [e] at hi
  ·rw [e] at hi; simp [ABlk.live] at hi
 refine ⟨H.below,H.base,H.imm,H.dom,fun i hi => H.live i (hl i hi),fun i => ?_,fun i j hi hj => H.inj i j (hl i hi) (hl j hj),H.prot,fun b o hp => ⟨fun i hi => (H.protK b o hp).1 i (hl i hi),(H.protK b o hp).2⟩,H.immB⟩
 rcases hk i with e | e
 ·rw [e]; exact H.blk i
 ·rw [e]; trivial
theorem SR.forget {env env' : Env} {σ σ' : St} {a : Act} (S : SR B w0 I0 pr N r I D env σ a w) (h : Zgu env σ env' σ') : SR B w0 I0 pr N r I D env' σ' a w :=
 ⟨by have := S.hr.kills h.2.1; rw [h.2.2]; exact this,S.er.1,fun i => by rcases h.1 i with e | e <;> rw [e]; exact S.er.2 i; exact .any _ _⟩
theorem Awp.forgets {c : Code} {env : Env} {σ : St} {Q Q' : Exit -> Env -> St -> Prop} (h : Awp P N c env σ Q) (hq : ∀ e env σ,Q e env σ -> ∃ env' σ',Zgu env σ env' σ' /\ Q' e env' σ') : Awp P N c env σ Q' :=
 fun F B w0 I0 pr r I D a w hF hR S => Code.wpIn_mono (fun e a' w' hp => by
  obtain ⟨pr1,ms1,env1,σ1,r1,I1,D1,p1,m1,n1,d1,q1,s1,t1,z1⟩ := hp
  obtain ⟨env2,σ2,hf,q2⟩ := hq _ _ _ q1
  exact ⟨pr1,ms1,env2,σ2,r1,I1,D1,p1,m1,n1,d1,q2,s1.forget hf,t1,z1⟩) (h F B w0 I0 pr r I D a w hF hR S)
open Go
def Zsr {α : Type} (b : Bool) (k : Bool -> α) : α := match b with
 | true => k true
 | false => k false
theorem Zor {α : Type} (b : Bool) (k : Bool -> α) : Zsr b k = k b := by cases b <;> rfl
def Xf {α : Type} (n : Nat) (k : Nat -> α) : α := match n with
 | 0 => k 0
 | m + 1 => k (m + 1)
theorem Yw {α : Type} (n : Nat) (k : Nat -> α) : Xf n k = k n := by cases n <;> rfl
def Zxi {α : Type} (n : Int) (k : Int -> α) : α := match n with
 | .ofNat m => Xf m fun m => k (.ofNat m)
 | .negSucc m => Xf m fun m => k (.negSucc m)
theorem Zxh {α : Type} (n : Int) (k : Int -> α) : Zxi n k = k n := by cases n <;> simp [Zxi,Yw]
mutual
def Ux {α : Type} : AV -> (AV -> α) -> α
 | .any,k => k .any
 | .bool b,k => Zsr b fun b => k (.bool b)
 | .int d n,k => Zxi n fun n => k (.int d n)
 | .flt d n,k => Xf n fun n => k (.flt d n)
 | .cpx d n m,k => Xf n fun n => Xf m fun m => k (.cpx d n m)
 | .val a n c,k => k (.val a n c)
 | .str s,k => k (.str s)
 | .ptr a b c,k => Xf a fun a => Xf b fun b => Xf c fun c => k (.ptr a b c)
 | .ipt cs,k => Zgg cs fun cs => k (.ipt cs)
 | .nilp,k => k .nilp
 | .nils,k => k .nils
 | .asl a b c,k => Xf a fun a => Xf b fun b => Xf c fun c => k (.asl a b c)
 | .bsl a b c d e,k => Xf a fun a => Xf b fun b => Xf c fun c => Xf d fun d => Xf e fun e => k (.bsl a b c d e)
 | .isl n els,k => Xf n fun n => Zjq els fun els => k (.isl n els)
 | .amap a,k => Xf a fun a => k (.amap a)
 | .func f c0 c1,k => Xf f fun f => Zgg c0 fun c0 => Zgg c1 fun c1 => k (.func f c0 c1)
 | .yld l,k => Xf l fun l => k (.yld l)
 | .agg cs,k => Zgg cs fun cs => k (.agg cs)
 | .tup cs,k => Zgg cs fun cs => k (.tup cs)
def Zgg {α : Type} : List AV -> (List AV -> α) -> α
 | [],k => k []
 | c :: cs,k => Ux c fun c => Zgg cs fun cs => k (c :: cs)
def Zjq {α : Type} : List (List AV) -> (List (List AV) -> α) -> α
 | [],k => k []
 | c :: cs,k => Zgg c fun c => Zjq cs fun cs => k (c :: cs)
end
mutual
theorem Zos {α : Type} : ∀ (v : AV) (k : AV -> α),Ux v k = k v
 | .any,k => rfl
 | .bool b,k => by simp only [Ux,Zor]
 | .int d n,k => by simp only [Ux,Zxh]
 | .flt d n,k => by simp only [Ux,Yw]
 | .cpx d n m,k => by simp only [Ux,Yw]
 | .val a n c,k => rfl
 | .str s,k => rfl
 | .ptr a b c,k => by simp only [Ux,Yw]
 | .ipt cs,k => by simp only [Ux,Za5 cs]
 | .nilp,k => rfl
 | .nils,k => rfl
 | .asl a b c,k => by simp only [Ux,Yw]
 | .bsl a b c d e,k => by simp only [Ux,Yw]
 | .isl n els,k => by simp only [Ux,Yw,Zhg els]
 | .amap a,k => by simp only [Ux,Yw]
 | .func f c0 c1,k => by simp only [Ux,Yw,Za5 c0,Za5 c1]
 | .yld l,k => by simp only [Ux,Yw]
 | .agg cs,k => by simp only [Ux,Za5 cs]
 | .tup cs,k => by simp only [Ux,Za5 cs]
theorem Za5 {α : Type} : ∀ (cs : List AV) (k : List AV -> α),Zgg cs k = k cs
 | [],k => rfl
 | c :: cs,k => by simp only [Zgg,Zos c,Za5 cs]
theorem Zhg {α : Type} : ∀ (cs : List (List AV)) (k : List (List AV) -> α),Zjq cs k = k cs
 | [],k => rfl
 | c :: cs,k => by simp only [Zjq,Za5 c,Zhg cs]
end
def Zoq {α : Type} (b : ABlk) (k : ABlk -> α) : α := match b with
 | .row es elems mt pu => Xf es fun es => Zjq elems fun elems => Zsr mt fun mt => Zsr pu fun pu => k (.row es elems mt pu)
 | .map l => k (.map l)
 | .set l => k (.set l)
 | .dead => k .dead
theorem Zxg {α : Type} (b : ABlk) (k : ABlk -> α) : Zoq b k = k b := by cases b <;> simp only [Zoq,Yw,Zor,Zhg]
def Zxk {α : Type} (e : Eff) (k : Eff -> α) : α := match e with
 | .none => k .none
 | .add b => Zoq b fun b => k (.add b)
 | .put id b => Xf id fun id => Zoq b fun b => k (.put id b)
 | .app id b => Xf id fun id => Zoq b fun b => k (.app id b)
theorem Zxj {α : Type} (e : Eff) (k : Eff -> α) : Zxk e k = k e := by cases e <;> simp only [Zxk,Yw,Zxg]
def Zsq {α : Type} (σ : St) (k : St -> α) : α := match σ with
 | ⟨hp,nx⟩ => Xf nx fun nx => match hp with
  | [] => k ⟨[],nx⟩
  | (i,b) :: t => Xf i fun i => k ⟨(i,b) :: t,nx⟩
theorem Zxf {α : Type} (σ : St) (k : St -> α) : Zsq σ k = k σ := by
 obtain ⟨hp,nx⟩ := σ
 cases hp with
 | nil => simp only [Zsq,Yw]
 | cons p t => simp only [Zsq,Yw]
open Go Go.RowKit
variable {P : Program} {N : Nat}
abbrev CF := FuncId -> List AV -> St -> Option (AV × St)
def putE (N : Nat) (dst : Option Nat) (v : AV) (env : Env) : Option Env := match dst with
 | none => some env
 | some d => cond (Nat.blt d N) (Ux v fun v => some ((d,v) :: env)) none
def exOp (T : Tab) (ok : TypeId -> Bool) (cf : CF) (N : Nat) (o : Oper) (env : Env) (σ : St) : Option (Env × St) :=
 match o.op with
 | .call { callee := .value f,args,.. } => match evA env f with
  | .func g c0 c1 => match cf g ((c0 ++ Xt (evA env) args.toList) ++ c1) σ with
   | some (v,σ') => match putE N o.dst v env with
    | some env' => some (env',σ')
    | none => none
   | none => none
  | _ => none
 | op => match aop T ok σ.next (evA env) σ.get op with
  | some (v,e) => match putE N o.dst v env with
   | some env' => Zxk e fun e => Zsq (e.st σ) fun σ' => some (env',σ')
   | none => none
  | none => none
def Zib (T : Tab) (ok : TypeId -> Bool) (cf : CF) (N : Nat) (ops : List Oper) : List Oper -> Env -> St -> Option (Env × St)
 | [],env,σ => some (env,σ)
 | o :: rest,env,σ =>
  match o.guard with
  | none => match exOp T ok cf N o env σ with
   | some (env',σ') => Zib T ok cf N ops rest env' σ'
   | none => none
  | some (j,want) => match Yl ops j with
   | none => none
   | some t => match env.get t with
    | .bool b => match b,want with
     | true,true => match exOp T ok cf N o ((t,.bool true) :: env) σ with
      | some (env',σ') => Zib T ok cf N ops rest env' σ'
      | none => none
     | false,false => match exOp T ok cf N o ((t,.bool false) :: env) σ with
      | some (env',σ') => Zib T ok cf N ops rest env' σ'
      | none => none
     | true,false => match putE N o.dst (.tup []) ((t,.bool true) :: env) with
      | some env' => Zib T ok cf N ops rest env' σ
      | none => none
     | false,true => match putE N o.dst (.tup []) ((t,.bool false) :: env) with
      | some env' => Zib T ok cf N ops rest env' σ
      | none => none
    | .tup [] => match putE N o.dst (.tup []) env with
     | some env' => Zib T ok cf N ops rest env' σ
     | none => none
    | _ => none
def cxS (P : Program) (T : Tab) (ok : TypeId -> Bool) : Cx := ⟨T,ok,fun f args σ K => FnOK P f /\ SemCall P f args σ K⟩
theorem Ycw {T : Tab} {ok : TypeId -> Bool} (hT : TabOK P T) (hok : EqOK P ok) : CxOK P (cxS P T ok) := ⟨hT,hok,fun _ _ _ _ h => h⟩
def CFOK (P : Program) (cf : CF) : Prop := ∀ f args σ v σ',cf f args σ = some (v,σ') -> FnOK P f /\ SemCall P f args σ fun v2 σ2 => v2 = v /\ σ2 = σ'
theorem Vm {dst : Option Nat} {v : AV} {env env' : Env} {K : Env -> Prop} (h : putE N dst v env = some env') (hk : K env') : Zq N dst v env K := by
 cases dst with
 | none => simp only [putE,Option.some.injEq] at h; subst h; exact hk
 | some d =>
  simp only [putE,Zos] at h
  obtain ⟨h1,h2⟩ := Zb h
  simp only [Option.some.injEq] at h2
  subst h2
  exact Br.intro (fun _ => hk) (fun h => by rw [h] at h1; cases h1)
theorem Zuk {T : Tab} {ok : TypeId -> Bool} {cf : CF} (hcf : CFOK P cf) {o : Oper} {env env' : Env} {σ σ' : St} (h : exOp T ok cf N o env σ = some (env',σ')) {K : Env -> St -> Prop} (hk : K env' σ') : vcOp (cxS P T ok) N o env σ K := by
 unfold exOp at h
 unfold vcOp
 simp only [Zqs,Zxm,Zxn]
 split at h
 ·rename_i f args ts hop
  unfold Zq9
  simp only [Yap]
  split at h
  ·rename_i g c0 c1 hf
   split at h
   ·rename_i v σ1 hc
    split at h
    ·rename_i env1 hp
     cases h
     obtain ⟨h1,h2⟩ := hcf _ _ _ _ _ hc
     rw [hop]
     dsimp only
     rw [hf]
     exact ⟨h1,h2.mono fun v2 σ2 ⟨e1,e2⟩ => by subst e1; subst e2; exact Vm hp hk⟩
    ·cases h
   ·cases h
  ·cases h
 ·rename_i hne
  split at h
  ·rename_i v e ha
   split at h
   ·rename_i env1 hp
    rw [Zxj,Zxf] at h
    cases h
    split
    ·rename_i f args ts hop
     exact (hne _ _ _ hop).elim
    ·rename_i l ts hop
     exact .old (aopK.of (by rw [<-hop]; exact ha) (Vm (K := fun env' => K env' (e.st σ)) hp hk))
    ·exact aopK.of ha (Vm (K := fun env' => K env' (e.st σ)) hp hk)
   ·cases h
  ·cases h
theorem Zfr {T : Tab} {ok : TypeId -> Bool} {cf : CF} (hcf : CFOK P cf) {ops : List Oper} : ∀ (l : List Oper) {env env' : Env} {σ σ' : St},Zib T ok cf N ops l env σ = some (env',σ') -> ∀ {K : Env -> St -> Prop},K env' σ' -> Zcb (cxS P T ok) N ops l env σ K
 | [],env,env',σ,σ',h,K,hk => by simp only [Zib,Option.some.injEq,Prod.mk.injEq] at h; obtain ⟨rfl,rfl⟩ := h; exact hk
 | o :: rest,env,env',σ,σ',h,K,hk => by
  simp only [Zib] at h
  simp only [Zcb]
  have go : ∀ e0,(match exOp T ok cf N o e0 σ with
    | some (env',σ') => Zib T ok cf N ops rest env' σ'
    | none => none) = some (env',σ') -> vcOp (cxS P T ok) N o e0 σ fun env' σ' => Zcb (cxS P T ok) N ops rest env' σ' K := by
   intro e0 h
   split at h
   ·rename_i env1 σ1 h1
    exact Zuk hcf h1 (Zfr hcf rest h hk)
   ·cases h
  have skip : ∀ e0,(match putE N o.dst (.tup []) e0 with
    | some env' => Zib T ok cf N ops rest env' σ
    | none => none) = some (env',σ') -> Zq N o.dst (.tup []) e0 fun env' => Zcb (cxS P T ok) N ops rest env' σ K := by
   intro e0 h
   split at h
   ·rename_i env1 h1
    exact Vm h1 (Zfr hcf rest h hk)
   ·cases h
  cases hg : o.guard with
  | none => rw [hg] at h; exact go env h
  | some jw =>
   obtain ⟨j,want⟩ := jw
   rw [hg] at h
   dsimp only at h ⊢
   cases ht : Yl ops j with
   | none => rw [ht] at h; cases h
   | some t =>
    rw [ht] at h
    dsimp only at h ⊢
    split at h
    ·rename_i b hb
     rw [hb]
     dsimp only
     split at h
     ·exact go _ h
     ·exact go _ h
     ·exact skip _ h
     ·exact skip _ h
    ·rename_i hb
     rw [hb]
     exact skip _ h
    ·cases h
variable {P : Program} {N : Nat}
def hdF : Hd := ⟨fun _ _ _ _ => False,fun _ _ _ _ _ _ _ => False,fun _ _ _ _ => False⟩
theorem Ygu : HdOK P N hdF := ⟨fun _ _ _ _ h => h.elim,fun _ _ _ _ _ _ _ h => h.elim,fun _ _ _ _ _ h => h.elim⟩
theorem Ybb {env : Env} {σ : St} {Q : Exit -> Env -> St -> Prop} (h : Q .normal env σ) : Awp P N .skip env σ Q := fun F B w0 I0 pr r I D a w hF hR S => wpIn_skip (Post.same S h rfl)
theorem Ybc {id : Nat} {env : Env} {σ : St} {Q : Exit -> Env -> St -> Prop} (h : Q (.exit id) env σ) : Awp P N (.exit id) env σ Q := fun F B w0 I0 pr r I D a w hF hR S => wpIn_exit (Post.same S h rfl)
theorem Zyp {env : Env} {σ : St} {Q : Exit -> Env -> St -> Prop} (h : Q .ret env σ) : Awp P N .ret env σ Q := fun F B w0 I0 pr r I D a w hF hR S => wpIn_ret (Post.same S h rfl)
theorem Zun {cx : Cx} (hcx : CxOK P cx) {id : Nat} {ops : Array Oper} {env : Env} {σ : St} {Q : Exit -> Env -> St -> Prop} (hn : Yi ops.toList = true) (h : Zcb cx N ops.toList ops.toList env σ (Q .normal)) : Awp P N (.region id ops false) env σ Q := by
 refine Yt hcx (Ygu (P := P) (N := N)) (.region id ops false) env σ Q ?_
 simp only [Zaf,hn,cond_true]
 exact h
theorem Zra {x y : Code} {env : Env} {σ : St} {Q : Exit -> Env -> St -> Prop} (h : Awp P N x env σ (seqQ (fun env' σ' => Awp P N y env' σ' Q) Q)) : Awp P N (.seq x y) env σ Q := by
 intro F B w0 I0 pr r I D a w hF hR S
 refine wpIn_seq (Code.wpIn_mono (fun e a' w' hp => ?_) (h F B w0 I0 pr r I D a w hF hR S))
 cases e with
 | normal =>
  obtain ⟨pr1,ms1,env1,σ1,r1,I1,D1,p1,m1,n1,d1,q1,s1,t1,z1⟩ := hp
  refine Code.wpIn_mono (fun e2 a2 w2 h2 => ?_) (q1 F B w0 I0 pr1 r1 I1 D1 a' w' hF (hR.le p1) s1)
  have h1 : Post B w0 I0 pr N r I D w a.defers (fun _ env' σ' => env' = env1 /\ σ' = σ1) .normal a' w' := ⟨pr1,ms1,env1,σ1,r1,I1,D1,p1,m1,n1,d1,⟨rfl,rfl⟩,s1,t1,z1⟩
  obtain ⟨pr2,ms2,env2,σ2,r2,I2,D2,p2,m2,n2,d2,q2,s2,t2,z2⟩ := h2
  refine ⟨pr2,ms2 ++ ms1,env2,σ2,r2,I2,D2,fun b o h => p2 _ _ (p1 _ _ h),?_,?_,by rw [d2,d1,List.append_assoc],q2,s2,t1.trans t2,Nat.le_trans z1 z2⟩
  ·intro d hd
   rcases List.mem_append.1 hd with h | h
   ·obtain ⟨b,g1,g2,g3⟩ := m2 d h
    exact ⟨b,g1,g2,Nat.le_trans z1 g3⟩
   ·obtain ⟨b,g1,g2,g3⟩ := m1 d h
    exact ⟨b,g1,p2 _ _ g2,g3⟩
  ·refine List.pairwise_append.2 ⟨n2,n1,fun x hx y hy e => ?_⟩
   obtain ⟨b,g1,g2,g3⟩ := m2 x hx
   obtain ⟨b',g1',g2',g3'⟩ := m1 y hy
   have := (Array.getElem?_eq_some_iff.1 (s1.hr.prot _ _ g2').1).1
   rw [g1,g1'] at e
   simp only [Target.collected.injEq] at e
   omega
 | exit id => exact hp.mono fun _ _ q => q
 | goto l => exact hp.mono fun _ _ q => q
 | ret => exact hp.mono fun _ _ q => q
 | panic ch => exact hp.mono fun _ _ q => q
 | outgrown => exact hp.mono fun _ _ q => q
theorem Zs4 {c : Operand} {x y : Code} {env : Env} {σ : St} {Q : Exit -> Env -> St -> Prop} {b : Bool} (hb : evA env c = .bool b) (h : cond b (Awp P N x (setC env c true) σ Q) (Awp P N y (setC env c false) σ Q)) : Awp P N (.cond c x y) env σ Q := by
 intro F B w0 I0 pr r I D a w hF hR S
 have hc := Xc S.er c
 rw [hb] at hc
 have hcv : a.eval c = .bool b := by generalize a.eval c = z at hc; cases hc; rfl
 cases b with
 | true => exact wpIn_cond_true hcv (h F B w0 I0 pr r I D a w hF hR (Zmc S hb))
 | false => exact wpIn_cond_false hcv (h F B w0 I0 pr r I D a w hF hR (Zmc S hb))
theorem Zyq {id : Nat} {c : Code} {env : Env} {σ : St} {Q : Exit -> Env -> St -> Prop} (h : Awp P N c env σ (Zd7 id Q)) : Awp P N (.block id c) env σ Q := by
 intro F B w0 I0 pr r I D a w hF hR S
 refine wpIn_block (Code.wpIn_mono (fun e a' w' h => ?_) (h F B w0 I0 pr r I D a w hF hR S))
 cases e with
 | exit id' =>
  by_cases hid : id' = id
  ·subst hid
   simp only [Exit.inBlock,if_true]
   exact h.mono fun _ _ q => by simpa [Zd7] using q
  ·simp only [Exit.inBlock,hid,if_false]
   exact h.mono fun _ _ q => by
    have : Nat.beq id' id = false := by rw [Bool.eq_false_iff]; intro hb; exact hid (Nat.eq_of_beq_eq_true hb)
    simpa [Zd7,this] using q
 | normal => exact h.mono fun _ _ q => q
 | goto l => exact h.mono fun _ _ q => q
 | ret => exact h.mono fun _ _ q => q
 | panic ch => exact h.mono fun _ _ q => q
 | outgrown => exact h.mono fun _ _ q => q
def Zxp (T : Tab) (ok : TypeId -> Bool) (pc : PC) (N : Nat) (o : Oper) (env : Env) (σ : St) (k : Nat) : Option (Rec × Env × St) :=
 match o.op with
 | .call { callee := .value f,args,.. } => match evA env f with
  | .func g c0 c1 => match Zar σ.get ((c0 ++ Xt (evA env) args.toList) ++ c1) with
   | some p => match pc g p.1 with
    | some res => match p.2,Xw res.v,res.blks with
     | [],_,_ => match putE N o.dst (Zi (fun j => k + j) res.v) env with
      | some env' => some (⟨o,k,res.blks.length + 1,Zi (fun j => k + j) res.v,Zac k res.blks,Zc2 σ.get ((c0 ++ Xt (evA env) args.toList) ++ c1)⟩,env',σ.putL (Zac k res.blks))
      | none => none
     | _,true,[] => match putE N o.dst (Zi (fun j => k + j) res.v) env with
      | some env' => some (⟨o,k,1,Zi (fun j => k + j) res.v,[],Zc2 σ.get ((c0 ++ Xt (evA env) args.toList) ++ c1)⟩,env',σ)
      | none => none
     | _,_,_ => none
    | none => none
   | none => none
  | _ => none
 | op => match aop T ok k (evA env) σ.get op with
  | some p => match putE N o.dst p.1 env with
   | some env' => some (⟨o,k,1,p.1,p.2.puts k,Ud (evA env) op⟩,env',σ.putL (p.2.puts k))
   | none => none
  | none => none
def Zjy (N : Nat) (o : Oper) (env : Env) (σ : St) (k : Nat) : Option (Rec × Env × St) :=
 match putE N o.dst (.tup []) env with
 | some env' => some (⟨o,k,1,.tup [],[],[]⟩,env',σ)
 | none => none
def exD (T : Tab) (ok : TypeId -> Bool) (pc : PC) (N : Nat) (ops : List Oper) : List Oper -> Env -> St -> Nat -> List Rec -> Option (List Rec × Env × St)
 | [],env,σ,k,acc => some (acc.reverse,env,{ σ with next := k })
 | o :: rest,env,σ,k,acc =>
  match (match o.guard with
   | none => Zxp T ok pc N o env σ k
   | some (j,want) => match Yl ops j with
    | none => none
    | some t => match env.get t with
     | .bool b => match b,want with
      | true,true => Zxp T ok pc N o ((t,.bool true) :: env) σ k
      | false,false => Zxp T ok pc N o ((t,.bool false) :: env) σ k
      | true,false => Zjy N o ((t,.bool true) :: env) σ k
      | false,true => Zjy N o ((t,.bool false) :: env) σ k
     | .tup [] => Zjy N o env σ k
     | _ => none) with
  | some (x,env',σ') => exD T ok pc N ops rest env' σ' (k + x.cnt) (x :: acc)
  | none => none
theorem Zfs {T : Tab} {ok : TypeId -> Bool} {pc : PC} {o : Oper} {env : Env} {σ : St} {k : Nat} {x : Rec} {env' : Env} {σ' : St} (h : Zxp T ok pc N o env σ k = some (x,env',σ')) {K : Rec -> Env -> St -> Prop} (hk : K x env' σ') : Zpw (cxS P T ok) pc N o env σ k K := by
 unfold Zxp at h
 rw [Zrj]
 unfold Zrk
 split at h
 ·rename_i f args ts hop
  rw [hop]
  dsimp only
  split at h
  ·rename_i g c0 c1 hf
   rw [hf]
   dsimp only
   split at h
   ·rename_i p hp
    rw [hp]
    show Got (pc g p.1) _
    split at h
    ·rename_i res hres
     rw [hres]
     dsimp only [Got]
     split at h
     ·rename_i hp2
      rw [hp2]
      dsimp only
      split at h
      ·rename_i env1 hput
       cases h
       exact Vm (K := fun env' => K _ env' _) hput hk
      ·cases h
     ·rename_i hp2 hs hb hne
      split at h
      ·rename_i env1 hput
       cases h
       rw [hs,hb]
       split
       ·rename_i e; exact (hne e).elim
       ·exact Vm (K := fun env' => K _ env' _) hput hk
       ·rename_i h1 h2
        exact (h2 rfl rfl).elim
      ·cases h
     ·cases h
    ·cases h
   ·cases h
  ·cases h
 ·rename_i hne
  split at h
  ·rename_i p ha
   split at h
   ·rename_i env1 hp
    cases h
    split
    ·rename_i f args ts hop
     exact (hne _ _ _ hop).elim
    ·exact aopK.of ha (Vm (K := fun env' => K _ env' _) hp hk)
   ·cases h
  ·cases h
theorem Zcv {o : Oper} {env : Env} {σ : St} {k : Nat} {x : Rec} {env' : Env} {σ' : St} (h : Zjy N o env σ k = some (x,env',σ')) {K : Rec -> Env -> St -> Prop} (hk : K x env' σ') : Zg2 N o env σ k K := by
 unfold Zjy at h
 split at h
 ·rename_i env1 hp
  cases h
  exact Vm (K := fun env' => K _ env' _) hp hk
 ·cases h
variable {P : Program} {N : Nat}
theorem Zo1 {T : Tab} {ok : TypeId -> Bool} {pc : PC} {ops : List Oper} : ∀ (l : List Oper) {env : Env} {σ : St} {k : Nat} {acc recs : List Rec} {env' : Env} {σ' : St},exD T ok pc N ops l env σ k acc = some (recs,env',σ') ->
  ∀ {K : List Rec -> Env -> St -> Prop},K recs env' σ' -> vcD (cxS P T ok) pc N ops l env σ k acc K
 | [],env,σ,k,acc,recs,env',σ',h,K,hk => by simp only [exD,Option.some.injEq,Prod.mk.injEq] at h; obtain ⟨rfl,rfl,rfl⟩ := h; exact hk
 | o :: rest,env,σ,k,acc,recs,env',σ',h,K,hk => by
  simp only [exD] at h
  split at h
  ·rename_i x env1 σ1 h1
   have hrest : vcD (cxS P T ok) pc N ops rest env1 σ1 (k + x.cnt) (x :: acc) K := Zo1 rest h hk
   simp only [vcD,Zow]
   cases hg : o.guard with
   | none =>
    rw [hg] at h1
    exact Zfs (K := fun x env' σ' => vcD (cxS P T ok) pc N ops rest env' σ' (k + x.cnt) (x :: acc) K) h1 hrest
   | some jw =>
    obtain ⟨j,want⟩ := jw
    rw [hg] at h1
    dsimp only at h1 ⊢
    cases ht : Yl ops j with
    | none => rw [ht] at h1; cases h1
    | some t =>
     rw [ht] at h1
     dsimp only at h1 ⊢
     split at h1
     ·rename_i b hb
      rw [hb]
      dsimp only
      split at h1
      ·exact Zfs (K := fun x env' σ' => vcD (cxS P T ok) pc N ops rest env' σ' (k + x.cnt) (x :: acc) K) h1 hrest
      ·exact Zfs (K := fun x env' σ' => vcD (cxS P T ok) pc N ops rest env' σ' (k + x.cnt) (x :: acc) K) h1 hrest
      ·exact Zcv (K := fun x env' σ' => vcD (cxS P T ok) pc N ops rest env' σ' (k + x.cnt) (x :: acc) K) h1 hrest
      ·exact Zcv (K := fun x env' σ' => vcD (cxS P T ok) pc N ops rest env' σ' (k + x.cnt) (x :: acc) K) h1 hrest
     ·rename_i hb
      rw [hb]
      exact Zcv (K := fun x env' σ' => vcD (cxS P T ok) pc N ops rest env' σ' (k + x.cnt) (x :: acc) K) h1 hrest
     ·cases h1
  ·cases h
def Zo0 (T : Tab) (ok : TypeId -> Bool) (pc : PC) (N : Nat) (ops : List Oper) (env : Env) (σ : St) : Option (Env × St) :=
 cond (Yi ops) (match exD T ok pc N ops ops env σ σ.next [] with
  | some (recs,env',σ') => cond (Zo4 ops recs) (some (env',σ')) none
  | none => none) none
theorem Zoz {T : Tab} {ok : TypeId -> Bool} {pc : PC} {ops : List Oper} {env env' : Env} {σ σ' : St} (h : Zo0 T ok pc N ops env σ = some (env',σ')) {K : Env -> St -> Prop} (hk : K env' σ') : Zfw (cxS P T ok) pc N ops env σ K := by
 unfold Zo0 at h
 obtain ⟨h1,h⟩ := Zb h
 split at h
 ·rename_i recs env1 σ1 hd
  obtain ⟨h2,h⟩ := Zb h
  cases h
  unfold Zfw
  rw [h1]
  exact Zo1 ops hd ⟨h2,hk⟩
 ·cases h
def dedA {α : Type} : Nat -> List (Nat × α) -> List (Nat × α)
 | _,[] => []
 | m,(j,v) :: e => cond (Nat.testBit m j) (dedA m e) ((j,v) :: dedA (Nat.lor m (Nat.shiftLeft 1 j)) e)
theorem Ziu {m j i : Nat} (hi : i ≠ j) : (Nat.lor m (Nat.shiftLeft 1 j)).testBit i = m.testBit i := by
 have h1 : (m ||| 1 <<< j).testBit i = (m.testBit i || (1 <<< j).testBit i) := Nat.testBit_or ..
 have h2 : (1 <<< j).testBit i = false := by
  cases hb : (1 <<< j).testBit i with
  | false => rfl
  | true => exact (hi (Znh hb)).elim
 have : (Nat.lor m (Nat.shiftLeft 1 j)).testBit i = (m ||| 1 <<< j).testBit i := rfl
 rw [this,h1,h2,Bool.or_false]
theorem Zmx : ∀ (e : Env) (m i : Nat),m.testBit i = false -> Env.get (dedA m e) i = Env.get e i
 | [],_,_,_ => rfl
 | (j,v) :: e,m,i,h => by
  simp only [dedA]
  cases hb : Nat.testBit m j with
  | true =>
   have hne : i ≠ j := fun e => by subst e; rw [hb] at h; cases h
   rw [Env.get_cons,if_neg hne]
   exact Zmx e m i h
  | false =>
   simp only [cond_false,Env.get_cons]
   by_cases hij : i = j
   ·rw [if_pos hij,if_pos hij]
   ·rw [if_neg hij,if_neg hij]
    exact Zmx e _ i (by rw [Ziu hij]; exact h)
theorem Za4 (j : Nat) (b : ABlk) (e : List (Nat × ABlk)) (i : Nat) : hget ((j,b) :: e) i = if i = j then b else hget e i := by
 simp only [hget]
 by_cases h : i = j
 ·subst h; simp
 ·have : Nat.beq i j = false := by rw [Bool.eq_false_iff]; intro hb; exact h (Nat.eq_of_beq_eq_true hb)
  simp [this,h]
theorem Zgk : ∀ (e : List (Nat × ABlk)) (m i : Nat),m.testBit i = false -> hget (dedA m e) i = hget e i
 | [],_,_,_ => rfl
 | (j,v) :: e,m,i,h => by
  simp only [dedA]
  cases hb : Nat.testBit m j with
  | true =>
   have hne : i ≠ j := fun e => by subst e; rw [hb] at h; cases h
   rw [Za4,if_neg hne]
   exact Zgk e m i h
  | false =>
   simp only [cond_false,Za4]
   by_cases hij : i = j
   ·rw [if_pos hij,if_pos hij]
   ·rw [if_neg hij,if_neg hij]
    exact Zgk e _ i (by rw [Ziu hij]; exact h)
def dedS (σ : St) : St := { σ with heap := dedA 0 σ.heap }
theorem Zul (env : Env) (σ : St) : Zgu env σ (dedA 0 env) (dedS σ) := ⟨fun i => .inl (Zmx env 0 i (by simp)),fun i => .inl (Zgk σ.heap 0 i (by simp)),rfl⟩
abbrev Out := Option (Exit × Env × St)
def Zoy (ec : Env -> St -> Out) : Nat -> Env -> St -> Out
 | 0,_,_ => none
 | m + 1,env,σ => match ec env σ with
  | some (.normal,env',σ') => Zoy ec m (dedA 0 env') (dedS σ')
  | some (.exit id,env',σ') => some (.exit id,env',σ')
  | some (.ret,env',σ') => some (.ret,env',σ')
  | _ => none
def Zen (ea eb : Env -> St -> Out) (ps : List Tmp) (env : Env) : List (List AV) -> St -> Out
 | [],σ => some (.normal,env,σ)
 | x :: xs,σ => cond (Nat.beq x.length ps.length) (match ea (Zdq ps x env) σ with
  | some (.normal,env1,σ1) => match eb env1 σ1 with
   | some (.normal,_,σ2) => Zen ea eb ps env xs σ2
   | some (.ret,_,σ2) => some (.ret,env,σ2)
   | some (.exit id,_,σ2) => some (.exit id,env,σ2)
   | _ => none
  | _ => none) none
theorem Awp.froz {c : Code} {env : Env} {σ : St} {Q : Exit -> Env -> St -> Prop} (l : List Nat) (hm : mutL σ.get l = true) (h : Awp P N c env (Uw σ l) Q) : Awp P N c env σ Q :=
 fun F B w0 I0 pr r I D a w hF hR S => by
 obtain ⟨H1,S1⟩ := S.hr.froz (Zf8 hm)
 have S' : SR B w0 I0 pr N r (Vv r I σ.get l) D env (Uw σ l) a w := ⟨by rw [Zem,Zcs]; exact H1,S.er.mono S1⟩
 exact Code.wpIn_mono (fun e a' w' hp => by
  obtain ⟨pr1,ms1,env1,σ1,r1,I1,D1,p1,m1,n1,d1,q1,s1,t1,z1⟩ := hp
  exact ⟨pr1,ms1,env1,σ1,r1,I1,D1,p1,m1,n1,d1,q1,s1,S1.trans t1,z1⟩) (h F B w0 I0 pr r (Vv r I σ.get l) D a w hF hR S')
def Znp (h : Nat -> ABlk) : Env -> List Nat -> List Nat
 | [],l => l
 | (_,.asl id _ _) :: e,l => cond (l.any (fun j => Nat.beq j id) || !mutL h [id]) (Znp h e l) (Znp h e (id :: l))
 | _ :: e,l => Znp h e l
def Zqu (T : Tab) (ok : TypeId -> Bool) (pc : PC) (N : Nat) (ops : List Oper) (env : Env) (σ : St) : Option (Env × St) :=
 match Zo0 T ok pc N ops env σ with
 | some r => some r
 | none => cond (mutL σ.get (Znp σ.get env [])) (Zo0 T ok pc N ops env (Uw σ (Znp σ.get env []))) none
theorem Zmv {T : Tab} (hT : TabOK P T) {ok : TypeId -> Bool} (hok : EqOK P ok) {pc : PC} (hpc : PCOK P pc) (hm : P.follows .mixedOrders = true) {id : Nat} {ops : Array Oper} {env env' : Env} {σ σ' : St} (h : Zqu T ok pc N ops.toList env σ = some (env',σ')) :
  Awp P N (.region id ops true) env σ fun e e2 s2 => e = .normal /\ e2 = env' /\ s2 = σ' := by
 have key : ∀ σ1,Zo0 T ok pc N ops.toList env σ1 = some (env',σ') -> Awp P N (.region id ops true) env σ1 fun e e2 s2 => e = .normal /\ e2 = env' /\ s2 = σ' := fun σ1 h2 =>
  (Zde (Ycw hT hok) hpc hm id ops env σ1 (fun e s => e = env' /\ s = σ') (Zoz h2 ⟨rfl,rfl⟩)).mono fun e2 env2 σ2 hq => by
   cases e2 with
   | normal => exact ⟨rfl,hq.1,hq.2⟩
   | _ => exact hq.elim
 unfold Zqu at h
 split at h
 ·rename_i r hr
  cases h
  exact key _ hr
 ·obtain ⟨h1,h⟩ := Zb h
  exact Awp.froz _ h1 (key _ h)
def Yy (T : Tab) (ok : TypeId -> Bool) (cf : CF) (pc : PC) (it : ITab) (lim N : Nat) : Code -> Env -> St -> Out
 | .skip,env,σ => some (.normal,env,σ)
 | .region _ ops draw,env,σ => match draw with
  | false => cond (Yi ops.toList) (match Zib T ok cf N ops.toList ops.toList env σ with
   | some (env',σ') => some (.normal,env',σ')
   | none => none) none
  | true => match Zqu T ok pc N ops.toList env σ with
   | some (env',σ') => some (.normal,env',σ')
   | none => none
 | .seq x y,env,σ => match Yy T ok cf pc it lim N x env σ with
  | some (.normal,env',σ') => Yy T ok cf pc it lim N y env' σ'
  | some (.exit id,env',σ') => some (.exit id,env',σ')
  | some (.ret,env',σ') => some (.ret,env',σ')
  | _ => none
 | .cond c x y,env,σ => match evA env c with
  | .bool true => Yy T ok cf pc it lim N x (setC env c true) σ
  | .bool false => Yy T ok cf pc it lim N y (setC env c false) σ
  | _ => none
 | .block id c,env,σ => match Yy T ok cf pc it lim N c env σ with
  | some (.exit id',env',σ') => some (cond (Nat.beq id' id) .normal (.exit id'),env',σ')
  | some (.normal,env',σ') => some (.normal,env',σ')
  | some (.ret,env',σ') => some (.ret,env',σ')
  | _ => none
 | .loop c,env,σ => Zoy (Yy T ok cf pc it lim N c) lim env σ
 | .rangeFunc f ps x y,env,σ => match evA env f with
  | .func g c0 c1 => match Zar σ.get c0,Zar σ.get c1 with
   | some p0,some p1 => match it g p0.1 p1.1 with
    | some xs => cond (Vh N ps.toList) (match p0.2 ++ p1.2 with
     | [] => Zen (Yy T ok cf pc it lim N x) (Yy T ok cf pc it lim N y) ps.toList env xs σ
     | a :: l => cond (mutL σ.get (a :: l)) (Zen (Yy T ok cf pc it lim N x) (Yy T ok cf pc it lim N y) ps.toList env xs (Uw σ (a :: l))) none) none
    | none => none
   | _,_ => none
  | _ => none
 | .exit id,env,σ => some (.exit id,env,σ)
 | .ret,env,σ => some (.ret,env,σ)
 | _,_,_ => none
def Is (e : Exit) (env : Env) (σ : St) : Exit -> Env -> St -> Prop := fun e2 env2 σ2 => e2 = e /\ env2 = env /\ σ2 = σ
theorem Zh3 {c : Code} {ec : Env -> St -> Out} (hc : ∀ env σ e env' σ',ec env σ = some (e,env',σ') -> Awp P N c env σ (Is e env' σ')) : ∀ (m : Nat) {env : Env} {σ : St} {e : Exit} {env' : Env} {σ' : St},Zoy ec m env σ = some (e,env',σ') -> Zrc P N c (Is e env' σ') m env σ
 | 0,env,σ,e,env',σ',h => by simp [Zoy] at h
 | m + 1,env,σ,e,env',σ',h => by
  simp only [Zoy] at h
  simp only [Zrc]
  split at h
  ·rename_i env1 σ1 h1
   refine (hc _ _ _ _ _ h1).forgets fun e2 env2 σ2 hq => ?_
   obtain ⟨rfl,rfl,rfl⟩ := hq
   exact ⟨_,_,Zul _ _,Zh3 hc m h⟩
  ·rename_i id env1 σ1 h1
   cases h
   exact (hc _ _ _ _ _ h1).mono fun e2 env2 σ2 hq => by obtain ⟨rfl,rfl,rfl⟩ := hq; exact ⟨rfl,rfl,rfl⟩
  ·rename_i env1 σ1 h1
   cases h
   exact (hc _ _ _ _ _ h1).mono fun e2 env2 σ2 hq => by obtain ⟨rfl,rfl,rfl⟩ := hq; exact ⟨rfl,rfl,rfl⟩
  ·cases h
theorem Zbs {n0 : Nat} {assign body : Code} {ea eb : Env -> St -> Out} (ha : ∀ env σ e env' σ',ea env σ = some (e,env',σ') -> Awp P N assign env σ (Is e env' σ')) (hb : ∀ env σ e env' σ',eb env σ = some (e,env',σ') -> Awp P N body env σ (Is e env' σ')) {ps : List Tmp} {env : Env} :
  ∀ (xs : List (List AV)) {σ : St} {e : Exit} {env' : Env} {σ' : St},Zen ea eb ps env xs σ = some (e,env',σ') -> Zh5 P N n0 ps assign body env (Is e env' σ') xs σ
 | [],σ,e,env',σ',h => by simp only [Zen,Option.some.injEq,Prod.mk.injEq] at h; obtain ⟨rfl,rfl,rfl⟩ := h; exact ⟨rfl,rfl,rfl⟩
 | x :: xs,σ,e,env',σ',h => by
  simp only [Zen] at h
  obtain ⟨h1,h⟩ := Zb h
  refine ⟨Nat.eq_of_beq_eq_true h1,?_⟩
  split at h
  ·rename_i env1 σ1 h2
   refine (ha _ _ _ _ _ h2).mono fun e2 env2 σ2 hq => ?_
   obtain ⟨rfl,rfl,rfl⟩ := hq
   refine ⟨rfl,?_⟩
   split at h
   ·rename_i env3 σ3 h3
    refine (hb _ _ _ _ _ h3).mono fun e4 env4 σ4 hq => ?_
    obtain ⟨rfl,rfl,rfl⟩ := hq
    exact ⟨_,.inl rfl,Zbs ha hb xs h⟩
   ·rename_i env3 σ3 h3
    cases h
    refine (hb _ _ _ _ _ h3).mono fun e4 env4 σ4 hq => ?_
    obtain ⟨rfl,rfl,rfl⟩ := hq
    exact ⟨rfl,rfl,rfl⟩
   ·rename_i id env3 σ3 h3
    cases h
    refine (hb _ _ _ _ _ h3).mono fun e4 env4 σ4 hq => ?_
    obtain ⟨rfl,rfl,rfl⟩ := hq
    exact ⟨rfl,rfl,rfl⟩
   ·cases h
  ·cases h
theorem Zv {T : Tab} (hT : TabOK P T) {ok : TypeId -> Bool} (hok : EqOK P ok) {cf : CF} (hcf : CFOK P cf) {pc : PC} (hpc : PCOK P pc) {it : ITab} (hit : ∀ g c0 c1 xs,it g c0 c1 = some xs -> ItOK P g c0 c1 xs) (hm : P.follows .mixedOrders = true) {lim : Nat} :
  ∀ (c : Code) (env : Env) (σ : St) (e : Exit) (env' : Env) (σ' : St),Yy T ok cf pc it lim N c env σ = some (e,env',σ') -> Awp P N c env σ (Is e env' σ')
 | .skip,env,σ,e,env',σ',h => by simp only [Yy,Option.some.injEq,Prod.mk.injEq] at h; obtain ⟨rfl,rfl,rfl⟩ := h; exact Ybb ⟨rfl,rfl,rfl⟩
 | .region id ops draw,env,σ,e,env',σ',h => by
  cases draw with
  | false =>
   simp only [Yy] at h
   obtain ⟨h1,h⟩ := Zb h
   split at h
   ·rename_i env1 σ1 h2
    cases h
    exact Zun (Ycw hT hok) h1 (Zfr hcf _ h2 ⟨rfl,rfl,rfl⟩)
   ·cases h
  | true =>
   simp only [Yy] at h
   split at h
   ·rename_i env1 σ1 h2
    cases h
    exact Zmv hT hok hpc hm h2
   ·cases h
 | .seq x y,env,σ,e,env',σ',h => by
  simp only [Yy] at h
  refine Zra ?_
  split at h
  ·rename_i env1 σ1 h1
   refine (Zv hT hok hcf hpc hit hm x _ _ _ _ _ h1).mono fun e2 env2 σ2 hq => ?_
   obtain ⟨rfl,rfl,rfl⟩ := hq
   exact Zv hT hok hcf hpc hit hm y _ _ _ _ _ h
  ·rename_i id env1 σ1 h1
   cases h
   refine (Zv hT hok hcf hpc hit hm x _ _ _ _ _ h1).mono fun e2 env2 σ2 hq => ?_
   obtain ⟨rfl,rfl,rfl⟩ := hq
   exact ⟨rfl,rfl,rfl⟩
  ·rename_i env1 σ1 h1
   cases h
   refine (Zv hT hok hcf hpc hit hm x _ _ _ _ _ h1).mono fun e2 env2 σ2 hq => ?_
   obtain ⟨rfl,rfl,rfl⟩ := hq
   exact ⟨rfl,rfl,rfl⟩
  ·cases h
 | .cond c x y,env,σ,e,env',σ',h => by
  simp only [Yy] at h
  split at h
  ·rename_i hb; exact Zs4 hb (Zv hT hok hcf hpc hit hm x _ _ _ _ _ h)
  ·rename_i hb; exact Zs4 hb (Zv hT hok hcf hpc hit hm y _ _ _ _ _ h)
  ·cases h
 | .block id c,env,σ,e,env',σ',h => by
  simp only [Yy] at h
  refine Zyq ?_
  split at h
  ·rename_i id' env1 σ1 h1
   cases h
   refine (Zv hT hok hcf hpc hit hm c _ _ _ _ _ h1).mono fun e2 env2 σ2 hq => ?_
   obtain ⟨rfl,rfl,rfl⟩ := hq
   simp only [Zd7]
   cases Nat.beq id' id <;> exact ⟨rfl,rfl,rfl⟩
  ·rename_i env1 σ1 h1
   cases h
   refine (Zv hT hok hcf hpc hit hm c _ _ _ _ _ h1).mono fun e2 env2 σ2 hq => ?_
   obtain ⟨rfl,rfl,rfl⟩ := hq
   exact ⟨rfl,rfl,rfl⟩
  ·rename_i env1 σ1 h1
   cases h
   refine (Zv hT hok hcf hpc hit hm c _ _ _ _ _ h1).mono fun e2 env2 σ2 hq => ?_
   obtain ⟨rfl,rfl,rfl⟩ := hq
   exact ⟨rfl,rfl,rfl⟩
  ·cases h
 | .loop c,env,σ,e,env',σ',h => by
  simp only [Yy] at h
  exact Zjj (Zh3 (fun env σ e env' σ' h => Zv hT hok hcf hpc hit hm c env σ e env' σ' h) lim h)
 | .rangeFunc f ps x y,env,σ,e,env',σ',h => by
  simp only [Yy] at h
  refine Znq hit ?_
  unfold Zy8
  have hx : ∀ env σ e env' σ',Yy T ok cf pc it lim N x env σ = some (e,env',σ') -> Awp P N x env σ (Is e env' σ') := fun env σ e env' σ' h => Zv hT hok hcf hpc hit hm x env σ e env' σ' h
  have hy : ∀ env σ e env' σ',Yy T ok cf pc it lim N y env σ = some (e,env',σ') -> Awp P N y env σ (Is e env' σ') := fun env σ e env' σ' h => Zv hT hok hcf hpc hit hm y env σ e env' σ' h
  split at h
  ·rename_i g c0 c1 hev
   try rw [hev]
   try dsimp only
   split at h
   ·rename_i p0 p1 h0 h1
    try rw [h0,h1]
    try dsimp only [Got]
    split at h
    ·rename_i xs hxs
     try rw [hxs]
     try dsimp only [Got]
     obtain ⟨h2,h⟩ := Zb h
     try rw [h2]
     try simp only [cond_true]
     split at h
     ·rename_i hl
      try rw [hl]
      exact Zbs hx hy xs h
     ·rename_i a l hl
      try rw [hl]
      obtain ⟨h3,h⟩ := Zb h
      try dsimp only
      try rw [h3]
      exact Zbs hx hy xs h
    ·cases h
   ·cases h
  ·cases h
 | .exit id,env,σ,e,env',σ',h => by simp only [Yy,Option.some.injEq,Prod.mk.injEq] at h; obtain ⟨rfl,rfl,rfl⟩ := h; exact Ybc ⟨rfl,rfl,rfl⟩
 | .ret,env,σ,e,env',σ',h => by simp only [Yy,Option.some.injEq,Prod.mk.injEq] at h; obtain ⟨rfl,rfl,rfl⟩ := h; exact Zyp ⟨rfl,rfl,rfl⟩
 | .scope _,_,_,_,_,_,h => by simp [Yy] at h
 | .label _,_,_,_,_,_,h => by simp [Yy] at h
 | .goto _,_,_,_,_,_,h => by simp [Yy] at h
 | .refuse _,_,_,_,_,_,h => by simp [Yy] at h
variable {P : Program} {N : Nat}
mutual
theorem Ztv (f : Nat -> Nat) : ∀ (v : AV),Zy v = true -> Zi f v = v
 | .any,_ => rfl
 | .bool _,_ => rfl
 | .int _ _,_ => rfl
 | .flt _ _,_ => rfl
 | .cpx _ _ _,_ => rfl
 | .val _ _ _,_ => rfl
 | .str _,_ => rfl
 | .ptr _ _ _,h => by simp [Zy] at h
 | .ipt _,_ => rfl
 | .nilp,_ => rfl
 | .nils,_ => rfl
 | .asl _ _ _,h => by simp [Zy] at h
 | .bsl _ _ _ _ _,h => by simp [Zy] at h
 | .isl _ _,_ => rfl
 | .amap _,h => by simp [Zy] at h
 | .func g c0 c1,h => by
  simp only [Zy,Bool.and_eq_true] at h
  simp only [Zi,Zdo f c0 h.1,Zdo f c1 h.2]
 | .yld _,_ => rfl
 | .agg cs,h => by simp only [Zy] at h; simp only [Zi,Zdo f cs h]
 | .tup cs,h => by simp only [Zy] at h; simp only [Zi,Zdo f cs h]
theorem Zdo (f : Nat -> Nat) : ∀ (cs : List AV),Yh cs = true -> renL f cs = cs
 | [],_ => rfl
 | c :: cs,h => by
  simp only [Yh,Bool.and_eq_true] at h
  simp only [renL,Ztv f c h.1,Zdo f cs h.2]
end
mutual
theorem Zuc (m : Nat) : ∀ (v : AV),Zy v = true -> Vf m v = true
 | .any,_ => rfl
 | .bool _,_ => rfl
 | .int _ _,_ => rfl
 | .flt _ _,_ => rfl
 | .cpx _ _ _,_ => rfl
 | .val _ _ _,_ => rfl
 | .str _,_ => rfl
 | .ptr _ _ _,h => by simp [Zy] at h
 | .ipt _,_ => rfl
 | .nilp,_ => rfl
 | .nils,_ => rfl
 | .asl _ _ _,h => by simp [Zy] at h
 | .bsl _ _ _ _ _,h => by simp [Zy] at h
 | .isl _ _,_ => rfl
 | .amap _,h => by simp [Zy] at h
 | .func g c0 c1,h => by
  simp only [Zy,Bool.and_eq_true] at h
  simp only [Vf,Za3 m c0 h.1,Za3 m c1 h.2,Bool.and_self]
 | .yld _,_ => rfl
 | .agg cs,h => by simp only [Zy] at h; simp only [Vf,Za3 m cs h]
 | .tup cs,h => by simp only [Zy] at h; simp only [Vf,Za3 m cs h]
theorem Za3 (m : Nat) : ∀ (cs : List AV),Yh cs = true -> Vx m cs = true
 | [],_ => rfl
 | c :: cs,h => by
  simp only [Yh,Bool.and_eq_true] at h
  simp only [Vx,Zuc m c h.1,Za3 m cs h.2,Bool.and_self]
end
def Yfr (n0 : Nat) : ABlk -> Bool
 | .row _ elems _ pu => pu || elems.all (Vx n0)
 | .map _ => false
 | _ => true
def Zga {α : Type} (n0 : Nat) : List (Nat × α) -> List (Nat × α)
 | [] => []
 | p :: l => cond (Nat.blt p.1 n0) (p :: Zga n0 l) (Zga n0 l)
theorem Zhd (n0 : Nat) : ∀ (l : List (Nat × ABlk)) (i : Nat),hget (Zga n0 l) i = hget l i \/ hget (Zga n0 l) i = .dead
 | [],i => .inl rfl
 | (j,b) :: l,i => by
  simp only [Zga]
  cases hb : Nat.blt j n0 with
  | true =>
   simp only [cond_true,Za4]
   by_cases h : i = j
   ·simp [h]
   ·simp only [h,if_false]; exact Zhd n0 l i
  | false =>
   simp only [cond_false,Za4]
   by_cases h : i = j
   ·right
    have key : ∀ (l : List (Nat × ABlk)),hget (Zga n0 l) i = .dead := by
     intro l
     induction l with
     | nil => rfl
     | cons p l ih =>
      obtain ⟨q,c⟩ := p
      simp only [Zga]
      cases hq : Nat.blt q n0 with
      | true =>
       simp only [cond_true,Za4]
       have : i ≠ q := fun e => by subst e; rw [h] at hq; rw [hb] at hq; cases hq
       simp only [this,if_false]; exact ih
      | false => exact ih
    exact key l
   ·simp only [h,if_false]; exact Zhd n0 l i
def gcS (n0 : Nat) (v : AV) (σ : St) : St :=
 let hp := dedA 0 σ.heap
 let old := Zga n0 hp
 cond (Zy v && old.all (fun p => Yfr n0 p.2)) { σ with heap := old } { σ with heap := hp }
theorem Zug (n0 : Nat) (v : AV) (σ : St) : (∀ i,(gcS n0 v σ).get i = σ.get i \/ (gcS n0 v σ).get i = .dead) /\ (gcS n0 v σ).next = σ.next := by
 unfold gcS
 dsimp only
 cases Zy v && (Zga n0 (dedA 0 σ.heap)).all (fun p => Yfr n0 p.2) with
 | true =>
  refine ⟨fun i => ?_,rfl⟩
  rcases Zhd n0 (dedA 0 σ.heap) i with h | h
  ·exact .inl (h.trans (Zgk σ.heap 0 i (by simp)))
  ·exact .inr h
 | false => exact ⟨fun i => .inl (Zgk σ.heap 0 i (by simp)),rfl⟩
theorem SemCall.forgets {f : FuncId} {args : List AV} {σ : St} {K K' : AV -> St -> Prop} (h : SemCall P f args σ K) (hk : ∀ v σ,K v σ -> ∃ σ',((∀ i,σ'.get i = σ.get i \/ σ'.get i = .dead) /\ σ'.next = σ.next) /\ K' v σ') : SemCall P f args σ K' :=
 fun B w0 I0 pr r I D w vs H hv => (h B w0 I0 pr r I D w vs H hv).mono fun e w' ⟨x,v,σ',r',I',D',h1,h2,h3,h4⟩ => by
  obtain ⟨σ2,hf,h5⟩ := hk _ _ h2
  exact ⟨x,v,σ2,r',I',D',h1,h5,by have := h3.kills hf.1; rw [hf.2]; exact this,h4⟩
def Ycs (T : Tab) (ok : TypeId -> Bool) (cf : CF) (pc : PC) (it : ITab) (lim : Nat) (fn : Func) (args : List AV) (σ : St) : Option (AV × St) :=
 match fn.body with
 | some c => cond (Nat.ble args.length fn.ntmps) (match Yy T ok cf pc it lim fn.ntmps c (env0 0 args) σ with
  | some (.normal,env,σ') => match Zbu T env σ'.get fn.results.toList with
   | some vs => some (resV vs,gcS σ.next (resV vs) σ')
   | none => none
  | some (.ret,env,σ') => match Zbu T env σ'.get fn.results.toList with
   | some vs => some (resV vs,gcS σ.next (resV vs) σ')
   | none => none
  | _ => none) none
 | none => none
def idxN : List Nat -> Nat -> Nat
 | [],_ => 0
 | a :: l,i => cond (Nat.beq i a) 0 (idxN l i + 1)
theorem Zb1 : ∀ {ids : List Nat} {i : Nat},memN ids i = true -> listed ids (idxN ids i) = i
 | [],_,h => by simp [memN] at h
 | a :: l,i,h => by
  simp only [idxN]
  cases hb : Nat.beq i a with
  | true => rw [Nat.eq_of_beq_eq_true hb]; rfl
  | false =>
   simp only [memN,hb,Bool.false_or] at h
   exact Zb1 h
mutual
def Ze5 (ids : List Nat) : AV -> Bool
 | .ptr id _ _ | .asl id _ _ | .bsl id _ _ _ _ | .amap id => memN ids id
 | .func _ c0 c1 => Zfq ids c0 && Zfq ids c1
 | .agg cs => Zfq ids cs
 | .tup cs => Zfq ids cs
 | _ => true
def Zfq (ids : List Nat) : List AV -> Bool
 | [] => true
 | c :: cs => Ze5 ids c && Zfq ids cs
end
mutual
theorem Zry {ids : List Nat} : ∀ (v : AV),Ze5 ids v = true -> Zi (listed ids) (Zi (idxN ids) v) = v
 | .any,_ => rfl
 | .bool _,_ => rfl
 | .int _ _,_ => rfl
 | .flt _ _,_ => rfl
 | .cpx _ _ _,_ => rfl
 | .val _ _ _,_ => rfl
 | .str _,_ => rfl
 | .ptr _ _ _,h => by simp only [Ze5] at h; simp only [Zi,Zb1 h]
 | .ipt _,_ => rfl
 | .nilp,_ => rfl
 | .nils,_ => rfl
 | .asl _ _ _,h => by simp only [Ze5] at h; simp only [Zi,Zb1 h]
 | .bsl _ _ _ _ _,h => by simp only [Ze5] at h; simp only [Zi,Zb1 h]
 | .isl _ _,_ => rfl
 | .amap _,h => by simp only [Ze5] at h; simp only [Zi,Zb1 h]
 | .func g c0 c1,h => by
  simp only [Ze5,Bool.and_eq_true] at h
  simp only [Zi,Zdm c0 h.1,Zdm c1 h.2]
 | .yld _,_ => rfl
 | .agg cs,h => by simp only [Ze5] at h; simp only [Zi,Zdm cs h]
 | .tup cs,h => by simp only [Ze5] at h; simp only [Zi,Zdm cs h]
theorem Zdm {ids : List Nat} : ∀ (cs : List AV),Zfq ids cs = true -> renL (listed ids) (renL (idxN ids) cs) = cs
 | [],_ => rfl
 | c :: cs,h => by
  simp only [Zfq,Bool.and_eq_true] at h
  simp only [renL,Zry c h.1,Zdm cs h.2]
end
mutual
def Zub : AV -> List Nat
 | .ptr id _ _ | .asl id _ _ | .bsl id _ _ _ _ | .amap id => [id]
 | .func _ c0 c1 => Zog c0 ++ Zog c1
 | .agg cs => Zog cs
 | .tup cs => Zog cs
 | _ => []
def Zog : List AV -> List Nat
 | [] => []
 | c :: cs => Zub c ++ Zog cs
end
def uniq : List Nat -> List Nat -> List Nat
 | acc,[] => acc.reverse
 | acc,a :: l => cond (memN acc a) (uniq acc l) (uniq (a :: acc) l)
def Zn0 : List Nat -> Bool
 | [] => true
 | a :: l => !memN l a && Zn0 l
theorem Yd6 {l : List Nat} {t : Nat} (h : t ∈ l) : memN l t = true := by
 induction l with
 | nil => simp at h
 | cons a l ih =>
  simp only [memN,Bool.or_eq_true]
  rcases List.mem_cons.1 h with rfl | h
  ·exact .inl (Nat.beq_refl _)
  ·exact .inr (ih h)
theorem Zfl : ∀ {l : List Nat},Zn0 l = true -> l.Nodup
 | [],_ => .nil
 | a :: l,h => by
  simp only [Zn0,Bool.and_eq_true,Bool.not_eq_true'] at h
  refine List.nodup_cons.2 ⟨fun hm => ?_,Zfl h.2⟩
  rw [Yd6 hm] at h; cases h.1
def tag1 (b : ABlk) : ABlk := match b with
 | .row es elems mt pu => cond pu (.row es elems mt true) (cond (elems.all Yh) (.row es elems mt true) (.row es elems mt pu))
 | b => b
def tagS (σ : St) : St := { σ with heap := σ.heap.map fun p => (p.1,tag1 p.2) }
theorem Zzd (σ : St) (i : Nat) : (tagS σ).get i = tag1 (σ.get i) := by
 simp only [St.get,tagS]
 induction σ.heap with
 | nil => rfl
 | cons p l ih =>
  obtain ⟨j,b⟩ := p
  simp only [List.map_cons,Za4,ih]
  split <;> rfl
theorem HR.tag {B : Nat} {w0 : World} {I0 : Imm} {pr : Nat -> Obj -> Prop} {r : Locs} {I : Imm} {D : Nat -> Prop} {h : Nat -> ABlk} {n : Nat} {w : World} (H : HR B w0 I0 pr r I D h n w) {h' : Nat -> ABlk} (hk : ∀ i,h' i = tag1 (h i)) : HR B w0 I0 pr r I D h' n w := by
 have hl : ∀ i,(h' i).live = (h i).live := by
  intro i
  rw [hk]
  cases h i with
  | row es elems mt pu => simp only [tag1]; cases pu <;> cases elems.all Yh <;> rfl
  | _ => rfl
 refine ⟨H.below,H.base,H.imm,H.dom,fun i hi => H.live i (by rwa [hl] at hi),fun i => ?_,fun i j hi hj => H.inj i j (by rwa [hl] at hi) (by rwa [hl] at hj),H.prot,fun b o hp => ⟨fun i hi => (H.protK b o hp).1 i (by rwa [hl] at hi),(H.protK b o hp).2⟩,H.immB⟩
 rw [hk]
 have hB := H.blk i
 cases hb : h i with
 | row es elems mt pu =>
  rw [hb] at hB
  simp only [tag1]
  cases hpu : pu with
  | true => rw [hpu] at hB; exact hB
  | false =>
  rw [hpu] at hB
  cases hp : elems.all Yh with
  | false => exact hB
  | true =>
   obtain ⟨h1,h2,h3,cs,T,fz,h4,h5,h6,h7,h8⟩ := hB
   refine ⟨h1,h2,h3,cs,T,fz,h4,h5,fun i e j c hi hj => ?_,h7,h8⟩
   obtain ⟨v,a,b⟩ := h6 i e j c hi hj
   have hpe := List.all_eq_true.1 hp e (List.mem_of_getElem? hi)
   exact ⟨v,a,(b.pure (Vb hpe hj)).weak fun _ h => h.elim⟩
 | _ => rw [hb] at hB; exact hB
theorem SemCall.tag {f : FuncId} {args : List AV} {σ : St} {K K' : AV -> St -> Prop} (h : SemCall P f args σ K) (hk : ∀ v σ,K v σ -> K' v (tagS σ)) : SemCall P f args σ K' :=
 fun B w0 I0 pr r I D w vs H hv => (h B w0 I0 pr r I D w vs H hv).mono fun e w' ⟨x,v,σ',r',I',D',h1,h2,h3,h4⟩ =>
  ⟨x,v,tagS σ',r',I',D',h1,hk _ _ h2,h3.tag (Zzd σ'),h4⟩
def Zk3 (σ : St) : List Nat -> Option (List (Nat × List (List AV)))
 | [] => some []
 | i :: l => match σ.get i,Zk3 σ l with
  | .row es elems true true,some rs => some ((es,elems) :: rs)
  | _,_ => none
theorem Zfe {σ : St} : ∀ {ids : List Nat} {rs : List (Nat × List (List AV))},Zk3 σ ids = some rs -> ids.length = rs.length /\ ∀ (j : Nat) (p : Nat × List (List AV)),rs[j]? = some p -> σ.get (listed ids j) = .row p.1 p.2 true true
 | [],rs,h => by simp only [Zk3,Option.some.injEq] at h; subst h; exact ⟨rfl,fun j p hj => by simp at hj⟩
 | i :: l,rs,h => by
  simp only [Zk3] at h
  split at h
  ·rename_i es elems rs' h1 h2
   cases h
   obtain ⟨g1,g2⟩ := Zfe h2
   refine ⟨by simp [g1],fun j p hj => ?_⟩
   cases j with
   | zero => simp at hj; subst hj; exact h1
   | succ j => exact g2 j p (by simpa using hj)
  ·cases h
def pcF (cf : CF) : PC := fun f args => match cf f args ⟨[],0⟩ with
 | some (v,σ) => match Zk3 (tagS σ) (uniq [] (Zub v)) with
  | some rs => cond (Zn0 (uniq [] (Zub v)) && Ze5 (uniq [] (Zub v)) v && Vf rs.length (Zi (idxN (uniq [] (Zub v))) v)) (some ⟨Zi (idxN (uniq [] (Zub v))) v,rs⟩) none
  | none => none
 | none => none
mutual
theorem Ztg {h : Nat -> ABlk} {rv : List AV -> Option (List AV × List Nat)} : ∀ (v : AV),Zy v = true -> Xz rv h v = some (v,[])
 | .any,_ => rfl
 | .bool _,_ => rfl
 | .int _ _,_ => rfl
 | .flt _ _,_ => rfl
 | .cpx _ _ _,_ => rfl
 | .val _ _ _,_ => rfl
 | .str _,_ => rfl
 | .ptr _ _ _,h => by simp [Zy] at h
 | .ipt _,_ => rfl
 | .nilp,_ => rfl
 | .nils,_ => rfl
 | .asl _ _ _,h => by simp [Zy] at h
 | .bsl _ _ _ _ _,h => by simp [Zy] at h
 | .isl _ _,_ => rfl
 | .amap _,h => by simp [Zy] at h
 | .func g c0 c1,hp => by
  simp only [Zy,Bool.and_eq_true] at hp
  simp only [Xz,Ug c0 hp.1,Ug c1 hp.2,List.append_nil]
 | .yld _,_ => rfl
 | .agg cs,hp => by simp only [Zy] at hp; simp only [Xz,Ug cs hp]
 | .tup cs,hp => by simp only [Zy] at hp; simp only [Xz,Ug cs hp]
theorem Ug {h : Nat -> ABlk} {rv : List AV -> Option (List AV × List Nat)} : ∀ (args : List AV),Yh args = true -> Zaq rv h args = some (args,[])
 | [],_ => rfl
 | c :: cs,hp => by
  simp only [Yh,Bool.and_eq_true] at hp
  simp only [Zaq,Ztg c hp.1,Ug cs hp.2,List.append_nil]
end
theorem Zth {h : Nat -> ABlk} (args : List AV) (hp : Yh args = true) : Zar h args = some (args,[]) := Ug args hp
def Ycu : IntKind -> IntKind -> Bool
 | .i8,.i8 | .i16,.i16 | .i32,.i32 | .i64,.i64 | .u8,.u8 | .u16,.u16 | .u32,.u32 | .u64,.u64 => true
 | _,_ => false
theorem Zxv {a b : IntKind} (h : Ycu a b = true) : a = b := by cases a <;> cases b <;> first | rfl | cases h
def Zqx : FloatKind -> FloatKind -> Bool
 | .f32,.f32 | .f64,.f64 => true
 | _,_ => false
theorem Zlm {a b : FloatKind} (h : Zqx a b = true) : a = b := by cases a <;> cases b <;> first | rfl | cases h
def eqI : Int -> Int -> Bool
 | .ofNat a,.ofNat b => Nat.beq a b
 | .negSucc a,.negSucc b => Nat.beq a b
 | _,_ => false
theorem Yg5 {a b : Int} (h : eqI a b = true) : a = b := by
 cases a <;> cases b <;> simp only [eqI,Bool.false_eq_true] at h
 ·rw [Nat.eq_of_beq_eq_true h]
 ·rw [Nat.eq_of_beq_eq_true h]
def eqU : List UInt8 -> List UInt8 -> Bool
 | [],[] => true
 | a :: l,b :: m => Nat.beq a.toNat b.toNat && eqU l m
 | _,_ => false
theorem Yct : ∀ {a b : List UInt8},eqU a b = true -> a = b
 | [],[],_ => rfl
 | a :: l,b :: m,h => by
  simp only [eqU,Bool.and_eq_true] at h
  rw [UInt8.toNat_inj.1 (Nat.eq_of_beq_eq_true h.1),Yct h.2]
 | [],_ :: _,h => by simp [eqU] at h
 | _ :: _,[],h => by simp [eqU] at h
def eqS (a b : ByteArray) : Bool := eqU a.data.toList b.data.toList
theorem Yg4 {a b : ByteArray} (h : eqS a b = true) : a = b := by
 obtain ⟨⟨a⟩⟩ := a
 obtain ⟨⟨b⟩⟩ := b
 have e : a = b := Yct h
 rw [e]
mutual
def eqA : AV -> AV -> Bool
 | .any,.any => true
 | .bool a,.bool b => cond a b (!b)
 | .int k a,.int l b => Ycu k l && eqI a b
 | .flt k a,.flt l b => Zqx k l && Nat.beq a b
 | .cpx k a a2,.cpx l b b2 => Zqx k l && (Nat.beq a b && Nat.beq a2 b2)
 | .str a,.str b => eqS a b
 | .ipt a,.ipt b => eqL a b
 | .nilp,.nilp => true
 | .nils,.nils => true
 | .isl n a,.isl m b => Nat.beq n m && eqLL a b
 | .func f a b,.func g c d => Nat.beq f g && (eqL a c && eqL b d)
 | .agg a,.agg b => eqL a b
 | .tup a,.tup b => eqL a b
 | _,_ => false
def eqL : List AV -> List AV -> Bool
 | [],[] => true
 | a :: l,b :: m => eqA a b && eqL l m
 | _,_ => false
def eqLL : List (List AV) -> List (List AV) -> Bool
 | [],[] => true
 | a :: l,b :: m => eqL a b && eqLL l m
 | _,_ => false
end
mutual
theorem Zxw : ∀ (a b : AV),eqA a b = true -> a = b := by
 intro a b h
 cases a <;> cases b <;> simp only [eqA,Bool.false_eq_true,Bool.and_eq_true] at h
 case any.any => rfl
 case bool.bool a b => cases a <;> cases b <;> first | rfl | cases h
 case int.int => rw [Zxv h.1,Yg5 h.2]
 case flt.flt => rw [Zlm h.1,Nat.eq_of_beq_eq_true h.2]
 case cpx.cpx => rw [Zlm h.1,Nat.eq_of_beq_eq_true h.2.1,Nat.eq_of_beq_eq_true h.2.2]
 case str.str => rw [Yg4 h]
 case ipt.ipt => rw [Ze9 _ _ h]
 case nilp.nilp => rfl
 case nils.nils => rfl
 case isl.isl => rw [Nat.eq_of_beq_eq_true h.1,Zxu _ _ h.2]
 case func.func => rw [Nat.eq_of_beq_eq_true h.1,Ze9 _ _ h.2.1,Ze9 _ _ h.2.2]
 case agg.agg => rw [Ze9 _ _ h]
 case tup.tup => rw [Ze9 _ _ h]
theorem Ze9 : ∀ (a b : List AV),eqL a b = true -> a = b
 | [],[],_ => rfl
 | a :: l,b :: m,h => by
  simp only [eqL,Bool.and_eq_true] at h
  rw [Zxw a b h.1,Ze9 l m h.2]
 | [],_ :: _,h => by simp [eqL] at h
 | _ :: _,[],h => by simp [eqL] at h
theorem Zxu : ∀ (a b : List (List AV)),eqLL a b = true -> a = b
 | [],[],_ => rfl
 | a :: l,b :: m,h => by
  simp only [eqLL,Bool.and_eq_true] at h
  rw [Ze9 a b h.1,Zxu l m h.2]
 | [],_ :: _,h => by simp [eqLL] at h
 | _ :: _,[],h => by simp [eqLL] at h
end
variable {P : Program} {N : Nat}
def Zxq (pt : PC) (f : FuncId) (args : List AV) (σ : St) : Option (AV × St) :=
 match Zar σ.get args with
 | some (vas,l) => match pt f vas with
  | some res => match l with
   | [] => some (Zi (fun j => σ.next + j) res.v,Zeu σ res.blks)
   | a :: l => match Xw res.v,res.blks with
    | true,[] => some (res.v,σ)
    | _,_ => cond (mutL σ.get (a :: l)) (some (Zi (fun j => σ.next + j) res.v,Zeu (Uw σ (a :: l)) res.blks)) none
  | none => none
 | none => none
theorem Zo2 {pt : PC} (hpt : PCOK P pt) {f : FuncId} {args : List AV} {σ : St} {v : AV} {σ' : St} (h : Zxq pt f args σ = some (v,σ')) : FnOK P f /\ SemCall P f args σ fun v2 σ2 => v2 = v /\ σ2 = σ' := by
 refine Zbg (pc := pt f) (fun aZ res hr => hpt f aZ res hr) ?_
 unfold Zxq at h
 unfold Zyg
 split at h
 ·rename_i vas l hv
  rw [hv]
  dsimp only [Got]
  split at h
  ·rename_i res hres
   rw [hres]
   dsimp only [Got]
   split at h
   ·cases h; exact ⟨rfl,rfl⟩
   ·split at h
    ·rename_i h1 h2
     cases h
     rw [h1,h2]
     exact ⟨rfl,rfl⟩
    ·rename_i h1
     obtain ⟨hm,h⟩ := Zb h
     cases h
     dsimp only
     split
     ·rename_i g1 g2
      exact (h1 g1 g2).elim
     ·rw [hm]; exact ⟨rfl,rfl⟩
  ·cases h
 ·cases h
def exG (P : Program) (T : Tab) (ok : TypeId -> Bool) (it : ITab) (xs : FuncId -> Bool) (pt : PC) (lim : Nat) : Nat -> CF
 | 0 => fun _ _ _ => none
 | d + 1 => fun f args σ => match cond (xs f) (Zxq pt f args σ) none with
  | some r => some r
  | none => match P.funcs[f]? with
   | some fn => cond (fn.name == "runtime.NumGoroutine") none
    (Ycs T ok (exG P T ok it xs pt lim d) (pcF (exG P T ok it xs pt lim d)) it lim fn args σ)
   | none => none
theorem Yb2 {cf : CF} (ih : CFOK P cf) : PCOK P (pcF cf) := by
 intro f args res hr
 unfold pcF at hr
 split at hr
 ·rename_i v σ' hx
  split at hr
  ·rename_i rs hrs
   obtain ⟨hp,hr⟩ := Zb hr
   cases hr
   simp only [Bool.and_eq_true] at hp
   obtain ⟨⟨hp1,hp2⟩,hp3⟩ := hp
   obtain ⟨h1,h2⟩ := ih _ _ _ _ _ hx
   obtain ⟨g1,g2⟩ := Zfe hrs
   refine Zdt h1 hp3 (h2.tag fun v2 σ2 hq => ?_)
   obtain ⟨rfl,rfl⟩ := hq
   exact ⟨_,Zfl hp1,g1,(Zry _ hp2).symm,g2⟩
  ·cases hr
 ·cases hr
theorem Zjx {T : Tab} (hT : TabOK P T) {ok : TypeId -> Bool} (hok : EqOK P ok) {it : ITab} (hit : ∀ g c0 c1 xs,it g c0 c1 = some xs -> ItOK P g c0 c1 xs) (hm : P.follows .mixedOrders = true) {xs : FuncId -> Bool} {pt : PC} (hpt : PCOK P pt) {lim : Nat} :
  ∀ d,CFOK P (exG P T ok it xs pt lim d)
 | 0 => fun f args σ v σ' h => by simp [exG] at h
 | d + 1 => fun f args σ v σ' h => by
  have ih := Zjx hT hok hit hm hpt (xs := xs) (lim := lim) d
  have hpc : PCOK P (pcF (exG P T ok it xs pt lim d)) := Yb2 ih
  simp only [exG] at h
  split at h
  ·rename_i v1 hx
   cases h
   cases hxs : xs f with
   | false => rw [hxs] at hx; cases hx
   | true => rw [hxs] at hx; exact Zo2 hpt hx
  ·split at h
   ·rename_i fn hfn
    cases hn : fn.name == "runtime.NumGoroutine" with
    | true => rw [hn] at h; cases h
    | false =>
     rw [hn] at h
     simp only [cond_false] at h
     unfold Ycs at h
     split at h
     ·rename_i c hb
      obtain ⟨hle,h⟩ := Zb h
      have hle := Nat.le_of_ble_eq_true hle
      refine ⟨⟨fn,hfn,hn,by rw [hb]; rfl⟩,?_⟩
      have main : ∀ e env1 σ1 vs,(e = .normal \/ e = .ret) -> Yy T ok (exG P T ok it xs pt lim d) (pcF (exG P T ok it xs pt lim d)) it lim fn.ntmps c (env0 0 args) σ = some (e,env1,σ1) -> Zbu T env1 σ1.get fn.results.toList = some vs -> (resV vs,gcS σ.next (resV vs) σ1) = (v,σ') ->
        SemCall P f args σ fun v2 σ2 => v2 = v /\ σ2 = σ' := by
       intro e env1 σ1 vs he hx hr heq
       cases heq
       refine SemCall.forgets (K := fun v2 σ2 => v2 = resV vs /\ σ2 = σ1) (Zs2 hT hfn hb hle ((Zv hT hok ih hpc hit hm c _ _ _ _ _ hx).mono fun e2 env2 σ2 hq => ?_)) (fun v2 σ2 hq => ?_)
       ·obtain ⟨rfl,rfl,rfl⟩ := hq
        rcases he with rfl | rfl
        ·exact Got.intro hr ⟨rfl,rfl⟩
        ·exact Got.intro hr ⟨rfl,rfl⟩
       ·obtain ⟨rfl,rfl⟩ := hq
        exact ⟨_,Zug _ _ _,rfl,rfl⟩
      split at h
      ·rename_i env1 σ1 hx
       split at h
       ·rename_i vs hr
        exact main _ _ _ _ (.inl rfl) hx hr (Option.some.inj h)
       ·cases h
      ·rename_i env1 σ1 hx
       split at h
       ·rename_i vs hr
        exact main _ _ _ _ (.inr rfl) hx hr (Option.some.inj h)
       ·cases h
      ·cases h
     ·cases h
   ·cases h
theorem Zmk {cf : CF} (ih : CFOK P cf) {f : FuncId} {args : List AV} {res : PRes} (h : pcF cf f args = some res) : PCall P f args res := Yb2 ih f args res h
variable {P : Program} {N : Nat}
def SC (P : Program) (f : FuncId) (args : List AV) (σ : St) (K : AV -> St -> Prop) : Prop := FnOK P f /\ SemCall P f args σ K
def cxP (P : Program) (T : Tab) (ok : TypeId -> Bool) (sx : FuncId -> Bool) (pc : PC) : Cx := ⟨T,ok,fun f args σ K => cond (sx f) (SC P f args σ K) (Zyg (pc f) args σ K)⟩
theorem Zlo {T : Tab} {ok : TypeId -> Bool} {sx : FuncId -> Bool} {pc : PC} (hT : TabOK P T) (hok : EqOK P ok) (hpc : PCOK P pc) : CxOK P (cxP P T ok sx pc) :=
 ⟨hT,hok,fun f args σ K h => by
  simp only [cxP] at h
  cases hs : sx f with
  | true => rw [hs] at h; exact h
  | false => rw [hs] at h; exact Zbg (fun aZ res hr => hpc f aZ res hr) h⟩
def hdP (P : Program) (T : Tab) (ok : TypeId -> Bool) (sx : FuncId -> Bool) (pc : PC) (N : Nat) : Hd :=
 ⟨fun c env σ Q => Awp P N (.loop c) env σ Q,fun f ps x y env σ Q => Awp P N (.rangeFunc f ps x y) env σ Q,fun ops env σ K => Zfw (cxP P T ok sx pc) pc N ops env σ K⟩
theorem Ycl {T : Tab} {ok : TypeId -> Bool} {sx : FuncId -> Bool} {pc : PC} (hT : TabOK P T) (hok : EqOK P ok) (hpc : PCOK P pc) (hm : P.follows .mixedOrders = true) (N : Nat) : HdOK P N (hdP P T ok sx pc N) :=
 ⟨fun _ _ _ _ h => h,fun _ _ _ _ _ _ _ h => h,fun id ops env σ K h => Zde (Zlo hT hok hpc) hpc hm id ops env σ K h⟩
theorem FnOK.of {f : FuncId} {fn : Func} (hf : P.funcs[f]? = some fn) (h1 : (fn.name == "runtime.NumGoroutine") = false) (h2 : fn.body.isNone = false) : FnOK P f := ⟨fn,hf,h1,h2⟩
structure Base (P : Program) where
 T : Tab
 ok : TypeId -> Bool
 hT : TabOK P T
 hok : EqOK P ok
 hm : P.follows .mixedOrders = true
variable (Bs : Base P)
abbrev Base.body (sx : FuncId -> Bool) (pc : PC) (fn : Func) (args : List AV) (σ : St) (K : AV -> St -> Prop) : Prop := Zhs (cxP P Bs.T Bs.ok sx pc) (hdP P Bs.T Bs.ok sx pc) fn args σ K
abbrev Base.code (sx : FuncId -> Bool) (pc : PC) (N : Nat) (c : Code) (env : Env) (σ : St) (Q : Exit -> Env -> St -> Prop) : Prop := Zaf (cxP P Bs.T Bs.ok sx pc) N (hdP P Bs.T Bs.ok sx pc N) c env σ Q
theorem Base.pcall {sx : FuncId -> Bool} {pc : PC} (hpc : PCOK P pc) {f : FuncId} {fn : Func} (hf : P.funcs[f]? = some fn) (h1 : (fn.name == "runtime.NumGoroutine") = false) (h2 : fn.body.isNone = false)
  {args : List AV} {res : PRes} (hids : Vf res.blks.length res.v = true) (hv : Bs.body sx pc fn args ⟨[],0⟩ (Zc0 res)) : PCall P f args res :=
 Zmj (Zlo Bs.hT Bs.hok hpc) (fun N => Ycl Bs.hT Bs.hok hpc Bs.hm N) hf (FnOK.of hf h1 h2) hids hv
theorem Base.awp {sx : FuncId -> Bool} {pc : PC} (hpc : PCOK P pc) {c : Code} {env : Env} {σ : St} {Q : Exit -> Env -> St -> Prop} (hv : Bs.code sx pc N c env σ Q) : Awp P N c env σ Q :=
 Yt (Zlo Bs.hT Bs.hok hpc) (Ycl Bs.hT Bs.hok hpc Bs.hm N) c env σ Q hv
def Zn8 : List Nat -> Env -> Env
 | [],_ => []
 | i :: l,env => (i,env.get i) :: Zn8 l env
theorem Zn7 (env : Env) : ∀ (l : List Nat) (i : Nat),(Zn8 l env).get i = env.get i \/ (Zn8 l env).get i = .any
 | [],i => .inr rfl
 | j :: l,i => by
  simp only [Zn8,Env.get_cons]
  by_cases h : i = j
  ·subst h; simp
  ·simp only [h,if_false]; exact Zn7 env l i
def Zwq : List Nat -> (Nat -> ABlk) -> List (Nat × ABlk)
 | [],_ => []
 | i :: l,h => (i,h i) :: Zwq l h
theorem Zn6 (h : Nat -> ABlk) : ∀ (l : List Nat) (i : Nat),hget (Zwq l h) i = h i \/ hget (Zwq l h) i = .dead
 | [],i => .inr rfl
 | j :: l,i => by
  simp only [Zwq,Za4]
  by_cases e : i = j
  ·subst e; simp
  ·simp only [e,if_false]; exact Zn6 h l i
def Yaa (l : List Nat) (σ : St) : St := ⟨Zwq l σ.get,σ.next⟩
theorem Zjn (l m : List Nat) (env : Env) (σ : St) : Zgu env σ (Zn8 l env) (Yaa m σ) := ⟨Zn7 env l,fun i => Zn6 σ.get m i,rfl⟩
theorem As.p {p : Prop} [Decidable p] {A : Prop} (h : p) (k : A) : As (decide p) A := As.intro (decide_eq_true h) k
theorem As.np {p : Prop} [Decidable p] {A : Prop} (h : ¬ p) (k : A) : As (!decide p) A := As.intro (by rw [decide_eq_false h]; rfl) k
theorem Br.dec {p : Prop} [Decidable p] {A A' : Prop} (h : p -> A) (h' : ¬ p -> A') : Br (decide p) A A' := Br.intro (fun e => h (of_decide_eq_true e)) (fun e => h' (of_decide_eq_false e))
theorem Zap {v : AV} {res : AV} {σ : St} (h : v = res) (hp : Zi (listed []) res = res) : Zc0 ⟨res,[]⟩ v σ := by subst h; exact Zox hp
theorem Zcu {k : IntKind} {n m : Int} {σ : St} (h : n = m) : Zc0 ⟨.int k m,[]⟩ (.int k n) σ := Zap (by rw [h]) rfl
theorem Yx {n m : Bool} {σ : St} (h : n = m) : Zc0 ⟨.bool m,[]⟩ (.bool n) σ := Zap (by rw [h]) rfl
end Go.Sx
