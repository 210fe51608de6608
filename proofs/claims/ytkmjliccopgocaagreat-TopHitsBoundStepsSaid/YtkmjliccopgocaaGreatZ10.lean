/- A part of the proof: lemmas. -/
import Derived.Test.YtkmjliccopgocaaGreatZ9
import Derived.Test.YtkmjliccopgocaaGreatZ6
import Derived.Test.YtkmjliccopgocaaGreatZ8
import Derived.KernelRfl
set_option linter.unusedVariables false
set_option linter.unusedSimpArgs false
set_option maxRecDepth 100000
set_option maxHeartbeats 16000000
open Bool renaming and_eq_true->Qc,eq_iff_iff->Si,not_eq_true'->Sf,or_eq_true->Qx,true_and->Td
open Classical renaming not_not->Lf
open Go.IntKind renaming i64->Qb,wrap->Qa
open Go.Sx.AV renaming agg->Fw,one->Nz
open Go.Sx.AV.isl renaming injEq->Wc
open Go.Sx.Done renaming mk->Qr
open Go.Sx.LpM renaming succ->Rn
open Int renaming add_mul->Jc,le_refl->Ob,lt_trichotomy->Le,mul_add->Oz,mul_le_mul_of_nonneg_left->Rm,mul_nonneg->Rb,natCast_add->Mi
open List renaming all_eq_true->Qs,drop_eq_getElem_cons->Qg,drop_of_length_le->Qj,drop_zero->Sq,exists_cons_of_length_pos->Pi,getElem?_eq_getElem->Qi,getElem_mem->Qq,length_cons->Ra,mem_append->Sc,mem_cons->Qv,mem_singleton->Pn,take_of_length_le->Rr,take_succ_eq_append_getElem->Qu
open List.cons renaming injEq->Rl
open Nat renaming le_refl->Qd,sub_zero->Tu,zero_add->Sg,zero_le->Qk
namespace Go.Proofs.YtkmjliccopgocaaGreat
open Go Go.Sx
theorem Zbf {f:Nat->Int} {n:Nat}:∀ (m k:Nat),m=n-k->(fIx f k (n-k)).2=0->∀ i,k<=i->i<n->f i=0
 | 0,k,hm,h,i,h1,h2=>by omega
 | m+1,k,hm,h,i,h1,h2=>by
  rw [Vg (by omega:k<n)] at h
  by_cases c:f k=0
  ·rw [if_pos c] at h
   by_cases e:i=k
   ·subst e; exact c
   ·exact Zbf m (k+1) (by omega) h i (by omega) h2
  ·rw [if_neg c] at h
   exact absurd h c
def Zjz (cs:List (Int × Int)):Prop:=∀ i,i<cs.length->(-5000<=(cor cs i).1/\(cor cs i).1<=5000)/\(-5000<=(cor cs i).2/\(cor cs i).2<=5000)
theorem Zjt {h:Hal} (hz:(fIx (Zef h) 0 h.cs.length).2=0):Zjz h.cs:=by
 intro i hi
 have:=Zbf (n:=h.cs.length) _ 0 rfl hz i (Qk _) hi
 unfold Zef at this
 have h1:(plc (cor h.cs i).1&&plc (cor h.cs i).2)=true:=by
  cases hq:(plc (cor h.cs i).1&&plc (cor h.cs i).2)
  ·rw [hq] at this; simp at this
  ·rfl
 rw [Qc] at h1
 exact ⟨within_iff.1 h1.1,within_iff.1 h1.2⟩
theorem Zmh {cs:List (Int × Int)} (hb:Zjz cs) {i:Nat} (hi:i<cs.length):((-5000<=(wlOf cs i).fx/\(wlOf cs i).fx<=5000)/\(-5000<=(wlOf cs i).fy/\(wlOf cs i).fy<=5000))/\((-5000<=(wlOf cs i).tx/\(wlOf cs i).tx<=5000)/\(-5000<=(wlOf cs i).ty/\(wlOf cs i).ty<=5000)) :=
 ⟨hb i hi,hb _ (Nat.mod_lt _ (by omega))⟩
theorem Zrh {n:Int} (h : -10000<=n/\n<=10000):size n=if n<0 then -n else n:=Zi5 (by omega)
theorem Zkz {w:Wl} (h1:(-5000<=w.fx/\w.fx<=5000)/\(-5000<=w.fy/\w.fy<=5000)) (h2:(-5000<=w.tx/\w.tx<=5000)/\(-5000<=w.ty/\w.ty<=5000)):Zca w=Zbd w.ln:=by
 unfold Zca Zbd Wl.straight Wl.dx Wl.dy Wl.ln
 dsimp only
 rw [W_eq (n:=w.tx-w.fx) (by omega) (by omega),W_eq (n:=w.ty-w.fy) (by omega) (by omega)]
 have e1:decide (w.fx=w.tx)=decide (w.tx-w.fx=0):=by rw [decide_eq_decide]; omega
 have e2:decide (w.fy=w.ty)=decide (w.ty-w.fy=0):=by rw [decide_eq_decide]; omega
 rw [e1,e2]
 cases decide (w.tx-w.fx=0)<;>cases decide (w.ty-w.fy=0)<;>cases decide (size (w.tx-w.fx)=size (w.ty-w.fy))<;>rfl
theorem Zzq {w:Wl} (h1:(-5000<=w.fx/\w.fx<=5000)/\(-5000<=w.fy/\w.fy<=5000)) (h2:(-5000<=w.tx/\w.tx<=5000)/\(-5000<=w.ty/\w.ty<=5000)) (hz:Zca w=0):∃ n sx sy,Str w n sx sy:=by
 unfold Zca Wl.straight Wl.dx Wl.dy at hz
 rw [W_eq (n:=w.tx-w.fx) (by omega) (by omega),W_eq (n:=w.ty-w.fy) (by omega) (by omega),Zrh (by omega),Zrh (by omega)] at hz
 have g1:¬(w.fx=w.tx/\w.fy=w.ty):=by
  rintro ⟨a,b⟩
  rw [decide_eq_true a,decide_eq_true b] at hz
  simp at hz
 have g2:w.tx-w.fx=0\/w.ty-w.fy=0\/w.tx-w.fx=w.ty-w.fy\/w.tx-w.fx = -(w.ty-w.fy):=by
  have g3:(decide (w.fx=w.tx)&&decide (w.fy=w.ty))=false:=by
   rw [Bool.eq_false_iff]; intro hq; simp only [Qc,decide_eq_true_eq] at hq; exact g1 hq
  rw [g3] at hz
  simp only [Bool.false_eq_true,if_false] at hz
  have g4:(decide (w.tx-w.fx=0)||decide (w.ty-w.fy=0)||decide ((if w.tx-w.fx<0 then -(w.tx-w.fx) else w.tx-w.fx)=if w.ty-w.fy<0 then -(w.ty-w.fy) else w.ty-w.fy))=true:=by
   cases hq:(decide (w.tx-w.fx=0)||decide (w.ty-w.fy=0)||decide ((if w.tx-w.fx<0 then -(w.tx-w.fx) else w.tx-w.fx)=if w.ty-w.fy<0 then -(w.ty-w.fy) else w.ty-w.fy))
   ·rw [hq] at hz; simp at hz
   ·rfl
  simp only [Qx,decide_eq_true_eq] at g4
  omega
 obtain ⟨⟨b1,b2⟩,b3,b4⟩:=h1
 rcases Le (w.tx-w.fx) 0 with c1|c1|c1<;>rcases Le (w.ty-w.fy) 0 with c2|c2|c2
 ·exact ⟨w.fx-w.tx,-1,-1,by omega,by omega,by omega,by omega,by omega,by omega,by omega,by omega,by omega,by omega⟩
 ·exact ⟨w.fx-w.tx,-1,0,by omega,by omega,by omega,by omega,by omega,by omega,by omega,by omega,by omega,by omega⟩
 ·exact ⟨w.fx-w.tx,-1,1,by omega,by omega,by omega,by omega,by omega,by omega,by omega,by omega,by omega,by omega⟩
 ·exact ⟨w.fy-w.ty,0,-1,by omega,by omega,by omega,by omega,by omega,by omega,by omega,by omega,by omega,by omega⟩
 ·exact absurd ⟨by omega,by omega⟩ g1
 ·exact ⟨w.ty-w.fy,0,1,by omega,by omega,by omega,by omega,by omega,by omega,by omega,by omega,by omega,by omega⟩
 ·exact ⟨w.tx-w.fx,1,-1,by omega,by omega,by omega,by omega,by omega,by omega,by omega,by omega,by omega,by omega⟩
 ·exact ⟨w.tx-w.fx,1,0,by omega,by omega,by omega,by omega,by omega,by omega,by omega,by omega,by omega,by omega⟩
 ·exact ⟨w.tx-w.fx,1,1,by omega,by omega,by omega,by omega,by omega,by omega,by omega,by omega,by omega,by omega⟩
theorem Zpk {h:Hal} {i:Nat} {w:Wal} (hz:Zdv h i w=0):Zbd (lnOf h.cs i)=0:=by
 unfold Zdv at hz
 split at hz
 ·split at hz
  ·cases hz
  ·split at hz
   ·cases hz
   ·split at hz
    ·cases hz
    ·exact hz
 ·cases hz
theorem Zho {h:Hal} (hb:Zjz h.cs) (hwc:h.ws.length=h.cs.length) (hz:(fIx (Uw h) 0 h.ws.length).2=0):Uu h.cs:=by
 intro i hi
 have h1:=Zbf (n:=h.ws.length) _ 0 rfl hz i (Qk _) (by omega)
 unfold Uw at h1
 rw [Qi (by omega)] at h1
 have h2:=Zpk h1
 rw [Zev,<-Zkz (Zmh hb hi).1 (Zmh hb hi).2] at h2
 exact Zzq (Zmh hb hi).1 (Zmh hb hi).2 h2
theorem Yb2 {h:Hal} (hs:Uu h.cs):h.nz:=by
 intro k hk
 obtain ⟨n,sx,sy,g⟩:=hs k hk
 rw [Zev,g.ln.2.2.1]
 have:=g.hn
 omega
theorem Zpd {α:Type} {f:α->ByteArray} {l:List α} {s:ByteArray}:(l.any fun v=>f v==s)=true↔∃ u∈l,f u=s:=by
 rw [List.any_eq_true]
 simp only [Zbr,decide_eq_true_eq]
theorem Zg4 {h:Hal} {ms:List ByteArray} (hms:∀ s,s∈ms↔∃ u∈h.ms,u.nm=s) (s:ByteArray):Va s ms = !decide (Zw s 0 h.ms<0):=by
 rw [Si,Ur,hms,Sf,decide_eq_false_iff_not,Zas,Lf]
theorem Zj6 (h:Hal) (n:Nat) (hn:n=h.ws.length) (hwc:h.ws.length=h.cs.length) (hb:Zjz h.cs) {ms:List ByteArray} (hms:∀ s,s∈ms↔∃ u∈h.ms,u.nm=s):∀ (m k:Nat) (ns:List ByteArray),m=n-k->k<=n->(∀ s,s∈ns↔(s=Xy\/s=Za1)\/∃ u∈h.ws.take k,u.nm=s) ->
  ((Zbs h.cs ms k ns (h.ws.drop k)).1,(Zbs h.cs ms k ns (h.ws.drop k)).2.1)=fIx (Uw h) k (n-k)/\((Zbs h.cs ms k ns (h.ws.drop k)).2.1=0->∀ s,s∈(Zbs h.cs ms k ns (h.ws.drop k)).2.2↔(s=Xy\/s=Za1)\/∃ u∈h.ws,u.nm=s)
 | 0,k,ns,hm,hk,hs=>by
  rw [Zaj (by omega),Qj (by omega)]
  refine ⟨rfl,fun _ s=>?_⟩
  rw [Zbs,hs s,Rr (by omega)]
 | m+1,k,ns,hm,hk,hs=>by
  have hlt:k<h.ws.length:=by omega
  rw [Vg (by omega:k<n),Qg hlt,Zbs]
  have e1:Uw h k=Zdv h k h.ws[k]:=by unfold Uw; rw [Qi hlt]
  have e2:Zdv h k h.ws[k]=if Zt h.ws[k].nm ns=0 then wErr h.cs ms k h.ws[k] else Zt h.ws[k].nm ns:=by
   unfold Zdv Zt
   rw [Zax]
   cases Ve h.ws[k].nm with
   | false=>simp
   | true =>
    have h1:Va h.ws[k].nm ns=(((h.ws[k].nm==Xy)||(h.ws[k].nm==Za1))||(h.ws.take k).any fun v=>v.nm==h.ws[k].nm):=by
     rw [Si,Ur,hs,Qx,Qx,Zpd,Zbr,Zbr,decide_eq_true_eq,decide_eq_true_eq]
    rw [h1]
    have h2:wErr h.cs ms k h.ws[k]=if decide (Zw h.ws[k].mt 0 h.ms<0)||(!(h.ws[k].cu==⟨#[]⟩)&&decide (Zw h.ws[k].cu 0 h.ms<0)) then 6 else Zbd (lnOf h.cs k):=by
     unfold wErr Zqz
     rw [Zg4 hms,Zg4 hms,Zev,<-Zkz (Zmh hb (by omega)).1 (Zmh hb (by omega)).2]
     cases decide (Zw h.ws[k].mt 0 h.ms<0)<;>cases (h.ws[k].cu==⟨#[]⟩)<;>cases decide (Zw h.ws[k].cu 0 h.ms<0)<;>rfl
    rw [<-h2]
    cases (h.ws.take k).any (fun v=>v.nm==h.ws[k].nm)<;>cases (h.ws[k].nm==Xy)<;>cases (h.ws[k].nm==Za1)<;>rfl
  rw [e1,e2]
  by_cases c1:Zt h.ws[k].nm ns=0
  ·rw [if_pos c1,if_pos c1]
   by_cases c2:wErr h.cs ms k h.ws[k]=0
   ·rw [if_pos c2,if_pos c2]
    refine Zj6 h n hn hwc hb hms m (k+1) _ (by omega) (by omega) fun s=>?_
    rw [Zcu,hs,Qu hlt]
    simp only [Sc,Pn]
    constructor
    ·rintro (rfl|hl|⟨u,hu,e⟩)
     ·exact .inr ⟨_,.inr rfl,rfl⟩
     ·exact .inl hl
     ·exact .inr ⟨u,.inl hu,e⟩
    ·rintro (hl|⟨u,hu|rfl,e⟩)
     ·exact .inr (.inl hl)
     ·exact .inr (.inr ⟨u,hu,e⟩)
     ·exact .inl e.symm
   ·rw [if_neg c2,if_neg c2]
    exact ⟨rfl,fun hh=>absurd hh c2⟩
  ·rw [if_neg c1,if_neg c1,if_neg c1]
   exact ⟨rfl,fun hh=>absurd hh c1⟩
theorem Zv9 {h:Hal} (hs:Uu h.cs) (c:Can):Zeh h c=if within c.hs.length 1 4 then (if Zce h.ht none c.hs=0 then (if plc c.fx&&plc c.fy&&plc c.tx&&plc c.ty then (if decide (c.fx=c.tx)||decide (c.fy=c.ty) then 11 else if Zb7 h c then 0 else 24) else 2) else Zce h.ht none c.hs) else 10:=by
 unfold Zeh
 have e:(if Ze1 c.fx c.fy&&Ze1 c.tx c.ty then (if decide (c.fx=c.tx)||decide (c.fy=c.ty) then 11 else unl (Zdn h (rcOf c.fx c.fy c.tx c.ty)) 24) else 2)=if plc c.fx&&plc c.fy&&plc c.tx&&plc c.ty then (if decide (c.fx=c.tx)||decide (c.fy=c.ty) then 11 else if Zb7 h c then (0:Int) else 24) else 2:=by
  unfold Ze1
  rw [Vb,Vb,Vb,Vb,<-Bool.and_assoc]
  by_cases hp:(plc c.fx&&plc c.fy&&plc c.tx&&plc c.ty)=true
  ·rw [if_pos hp,if_pos hp]
   by_cases hd:(decide (c.fx=c.tx)||decide (c.fy=c.ty))=true
   ·rw [if_pos hd,if_pos hd]
   ·rw [if_neg hd,if_neg hd]
    simp only [Qc] at hp
    simp only [Qx,decide_eq_true_eq,not_or] at hd
    rw [show rcOf c.fx c.fy c.tx c.ty=c.rc from rfl,Zx2 hs ⟨within_iff.1 hp.1.1.1,within_iff.1 hp.1.1.2,within_iff.1 hp.1.2,within_iff.1 hp.2,hd.1,hd.2⟩]
    cases Zb7 h c<;>rfl
  ·rw [if_neg hp,if_neg hp]
 rw [e]
theorem Zl7 (h:Hal) (n:Nat) (hn:n=h.ks.length) (hst:Uu h.cs) {ms:List ByteArray} (hms:∀ s,s∈ms↔∃ u∈h.ms,u.nm=s):∀ (m k:Nat) (ns:List ByteArray),m=n-k->k<=n->(∀ s,s∈ns↔((s=Xy\/s=Za1)\/∃ u∈h.ws,u.nm=s)\/∃ u∈h.ks.take k,u.nm=s) ->
  ((Zbt h ms k ns (h.ks.drop k)).1,(Zbt h ms k ns (h.ks.drop k)).2.1)=fIx (Zbq h) k (n-k)
 | 0,k,ns,hm,hk,hs=>by
  rw [Zaj (by omega),Qj (by omega)]; rfl
 | m+1,k,ns,hm,hk,hs=>by
  have hlt:k<h.ks.length:=by omega
  rw [Vg (by omega:k<n),Qg hlt,Zbt]
  have e1:Zbq h k=Zds h k h.ks[k]:=by unfold Zbq; rw [Qi hlt]
  have e2:Zds h k h.ks[k]=if Zt h.ks[k].nm ns=0 then cErr h ms h.ks[k] else Zt h.ks[k].nm ns:=by
   unfold Zds Zt
   rw [Zax]
   cases Ve h.ks[k].nm with
   | false=>simp
   | true =>
    have h1:Va h.ks[k].nm ns=((((h.ks[k].nm==Xy)||(h.ks[k].nm==Za1))||(h.ws.any fun v=>v.nm==h.ks[k].nm))||(h.ks.take k).any fun v=>v.nm==h.ks[k].nm):=by
     rw [Si,Ur,hs,Qx,Qx,Qx,Zpd,Zpd,Zbr,Zbr,decide_eq_true_eq,decide_eq_true_eq]
    rw [h1]
    unfold cErr
    rw [Zg4 hms,<-Zv9 hst]
    cases (h.ks.take k).any (fun v=>v.nm==h.ks[k].nm)<;>cases (h.ws.any fun v=>v.nm==h.ks[k].nm)<;>cases (h.ks[k].nm==Xy)<;>cases (h.ks[k].nm==Za1)<;>cases decide (Zw h.ks[k].mt 0 h.ms<0)<;>rfl
  rw [e1,e2]
  by_cases c1:Zt h.ks[k].nm ns=0
  ·rw [if_pos c1,if_pos c1]
   by_cases c2:cErr h ms h.ks[k]=0
   ·rw [if_pos c2,if_pos c2]
    refine Zl7 h n hn hst hms m (k+1) _ (by omega) (by omega) fun s=>?_
    rw [Zcu,hs,Qu hlt]
    simp only [Sc,Pn]
    constructor
    ·rintro (rfl|hl|⟨u,hu,e⟩)
     ·exact .inr ⟨_,.inr rfl,rfl⟩
     ·exact .inl hl
     ·exact .inr ⟨u,.inl hu,e⟩
    ·rintro (hl|⟨u,hu|rfl,e⟩)
     ·exact .inr (.inl hl)
     ·exact .inr (.inr ⟨u,hu,e⟩)
     ·exact .inl e.symm
   ·rw [if_neg c2,if_neg c2]
  ·rw [if_neg c1,if_neg c1,if_neg c1]
theorem Zuy {h:Hal} (hst:Uu h.cs) (x y z:Int):Zgr h x y z=if plc x&&plc y&&plc z then (if Zio h ⟨x,y,z,1⟩ then 0 else 24) else 2:=by
 unfold Zgr
 rw [Vb,Vb,Vb]
 by_cases hp:(plc x&&plc y&&plc z)=true
 ·rw [if_pos hp,if_pos hp]
  simp only [Qc] at hp
  unfold Zvl Zio
  rw [Zcd hst z (Yl (within_iff.1 hp.1.1) (within_iff.1 hp.1.2))]
 ·rw [if_neg hp,if_neg hp]
theorem Zkg (h:Hal) (n:Nat) (hn:n=h.ss.length) (hst:Uu h.cs):∀ (m k:Nat) (ns:List ByteArray),m=n-k->k<=n->(∀ s,s∈ns↔∃ u∈h.ss.take k,u.nm=s) ->
  ((Za5 h k ns (h.ss.drop k)).1,(Za5 h k ns (h.ss.drop k)).2.1)=fIx (Zbl h) k (n-k)
 | 0,k,ns,hm,hk,hs=>by
  rw [Zaj (by omega),Qj (by omega)]; rfl
 | m+1,k,ns,hm,hk,hs=>by
  have hlt:k<h.ss.length:=by omega
  rw [Vg (by omega:k<n),Qg hlt,Za5]
  have e1:Zbl h k=Zgj h k h.ss[k]:=by unfold Zbl; rw [Qi hlt]
  have e2:Zgj h k h.ss[k]=if Zt h.ss[k].nm ns=0 then Zgr h h.ss[k].x h.ss[k].y h.ss[k].z else Zt h.ss[k].nm ns:=by
   unfold Zgj Zt
   rw [Zax,<-Zuy hst]
   cases Ve h.ss[k].nm with
   | false=>simp
   | true =>
    have h1:Va h.ss[k].nm ns=(h.ss.take k).any fun v=>v.nm==h.ss[k].nm:=by
     rw [Si,Ur,hs,Zpd]
    rw [h1]
    cases (h.ss.take k).any (fun v=>v.nm==h.ss[k].nm)<;>rfl
  rw [e1,e2]
  by_cases c1:Zt h.ss[k].nm ns=0
  ·rw [if_pos c1,if_pos c1]
   by_cases c2:Zgr h h.ss[k].x h.ss[k].y h.ss[k].z=0
   ·rw [if_pos c2,if_pos c2]
    refine Zkg h n hn hst m (k+1) _ (by omega) (by omega) fun s=>?_
    rw [Zcu,hs,Qu hlt]
    simp only [Sc,Pn]
    constructor
    ·rintro (rfl|⟨u,hu,e⟩)
     ·exact ⟨_,.inr rfl,rfl⟩
     ·exact ⟨u,.inl hu,e⟩
    ·rintro ⟨u,hu|rfl,e⟩
     ·exact .inr ⟨u,hu,e⟩
     ·exact .inl e.symm
   ·rw [if_neg c2,if_neg c2]
  ·rw [if_neg c1,if_neg c1,if_neg c1]
theorem Xv {x y:Int × Int × Int} {l m:List (Int × Int × Int)} (h:x=y) (hl:y.2.2=0->Zr l=Zr m):Zr (x::l)=Zr (y::m):=by
 subst h
 rw [Zr,Zr]
 by_cases c:x.2.2=0
 ·rw [if_pos c,if_pos c,hl c]
 ·rw [if_neg c,if_neg c]
theorem Zxh {h:Hal} (hf:h.few):chkR h=chk h:=by
 unfold chkR Zeg chk Zno
 refine Xv (by rw [Zax]; rfl) fun _=>Xv rfl fun _=>Xv rfl fun _=>?_
 obtain ⟨m1,m2⟩:=Zky h h.ms.length rfl _ 0 [] rfl (Qk _) (fun s=>by simp)
 rw [Sq,Tu] at m1
 rw [Sq] at m2
 refine Xv (by rw [<-m1]) fun z1=>?_
 have hms:=m2 z1
 refine Xv ?_ fun _=>Xv rfl fun z2=>Xv rfl fun _=>?_
 ·unfold Zc9 Zhy Hal.names
  rw [Zg4 hms,Zg4 hms]
  cases decide (Zw h.fl 0 h.ms<0)<;>cases decide (Zw h.ce 0 h.ms<0)<;>rfl
 have hwc:3<=h.cs.length/\h.ws.length=h.cs.length:=by
  have:=Vr z2 (by decide)
  simp only [set7,Qc,decide_eq_true_eq] at this
  omega
 have c1:=Zl3 h h.cs.length rfl _ 0 rfl (Qk _)
 rw [Sq,Tu] at c1
 refine Xv (by rw [c1]) fun z3=>?_
 have hb:Zjz h.cs:=Zjt (by rw [c1] at z3; exact z3)
 obtain ⟨w1,w2⟩:=Zj6 h h.ws.length rfl hwc.2 hb hms _ 0 su0 rfl (Qk _) (fun s=>by
  rw [su0,Zcu,Zcu]; simp [or_comm])
 rw [Sq,Tu] at w1
 rw [Sq] at w2
 refine Xv (by rw [<-w1]; rfl) fun z4=>?_
 have hst:Uu h.cs:=Zho hb hwc.2 (by rw [<-w1]; exact z4)
 refine Xv (by rw [Zkd hst hwc.1 hf.2.1]) fun _=>Xv (by rw [Zj9]) fun _=>Xv rfl fun _=>?_
 have k1:=Zl7 h h.ks.length rfl hst hms _ 0 h.wal.2.2 rfl (Qk _) (fun s=>by
  have:=w2 z4 s
  rw [show h.wal.2.2=(Zbs h.cs h.names 0 su0 h.ws).2.2 from rfl]
  simp only [List.take_zero,List.not_mem_nil,false_and,exists_false,or_false]
  exact this)
 rw [Sq,Tu] at k1
 refine Xv (by rw [<-k1]; rfl) fun _=>Xv rfl fun _=>?_
 have s1:=Zkg h h.ss.length rfl hst _ 0 [] rfl (Qk _) (fun s=>by simp)
 rw [Sq,Tu] at s1
 exact Xv (by rw [<-s1]) fun _=>rfl
theorem c65 {h:Hal} (hf:h.few) (ht:h.texts):PCall Tryz.prog 22 [h.av] ⟨chkV (chkR h),[]⟩:=by
 have hk7:=Zok hf
 have e0:chkR h=Zr (Zeg h):=rfl
 have ha:=Ue (res:=⟨Bo (Yt h.nm),[]⟩) ht.nm
 have l1:=Un h.ms
 have l2:(h.cs.map pt).length=h.cs.length:=by simp
 have l3:=Yn h.ws
 have l4:=Xq h.ks
 have l5:=Zb1 h.ss
 generalize chkR h=X at *
 unfold Zeg at e0
 refine bs.pv (sx:=sx65) hk7 Tryz.func22 (by kernel_rfl) (by kernel_rfl) rfl ?_
 repeat'(first|refine wk0 ?_|(refine wk2 ?_ ?_<;>intro _)|fail)
 ·rename_i hx
  exact Zer e0 (by rw [Zhr (by simpa using hx)]) (by decide)
 ·rename_i h1 hx
  exact Zer (Xi e0 (Zdw (by simpa using h1))) (by rw [Zhr (by simpa using hx)]) (by decide)
 ·rename_i h1 h2 hx
  exact Zer (Xi (Xi e0 (Zdw (by simpa using h1))) (Zdw (by simpa using h2))) (by rw [Zhr (by rw [l1] at hx; simpa using hx)]) (by decide)
 rename_i h1 h2 h3
 have e3:=Xi (Xi (Xi e0 (Zdw (by simpa using h1))) (Zdw (by simpa using h2))) (Zdw (by rw [l1] at h3; simpa using h3))
 clear e0 h1 h2 h3 ha
 generalize hM:fIx (Zje h) 0 h.ms.length=M at e3
 refine Zo (S:=Nat × Int) (fun t=>h.ms.length-t.1) (fun t=>E65 [(4,I t.2)]) (fun _=>Z65 h) 2 2 (fun t=>t.2=t.1/\t.1<=h.ms.length/\fIx (Zje h) t.1 (h.ms.length-t.1)=M) (0,0) ⟨rfl,Qk _,hM⟩ (Qd _) [] rfl (kps) (kps) ?_
 clear hM
 rintro ⟨k,i⟩ ⟨hi,hk,hh⟩
 dsimp only at hi hk hh ⊢
 subst hi
 by_cases hlt:k<h.ms.length
 ·have e1:=Zku hlt
  have hs:=ht.ms _ (Qq hlt)
  rw [Vg hlt] at hh
  have hq:Zje h k=mErr h k h.ms[k]:=by unfold Zje; rw [Qi hlt]
  rw [hq] at hh
  clear hq
  generalize h.ms[k]=m at *
  have ha:=Ue (res:=⟨Bo (Yt m.nm),[]⟩) hs
  have hm:=Zcn h m.nm
  refine bs.av (sx:=nos) hk7 ?_
  repeat'(first|refine wk1 ?_|(refine wk2 ?_ ?_<;>intro _)|fail)
  ·have hv:mErr h k m=4:=by clear hh e3 e1 hm hk7; simp_all [mErr]
   rw [hv] at hh; exact Zbp e3 hh (by decide)
  ·have hv:mErr h k m=5:=by clear hh e3 e1 hm hk7; simp_all [mErr]
   rw [hv] at hh; exact Zbp e3 hh (by decide)
  rename_i n1 n2
  have hv:mErr h k m=if (thou m.a&&(thou m.b&&(thou m.c&&thou m.d)))&&thou m.sc then 0 else 2:=by unfold mErr; rw [show Yt m.nm=true by simpa using n1,n2]; rfl
  rw [hv] at hh
  clear hv n1 n2
  refine LpM.start 5 ?_
  refine Rn (bs.av (sx:=nos) hk7 ?_)
  repeat'(first|refine wk1 ?_|(refine wk2 ?_ ?_<;>intro _)|fail)
  ·rename_i hx; rw [show thou m.a=false by unfold thou; simpa using hx] at hh; exact Zbp (e:=2) e3 hh (by decide)
  rename_i hx; rw [show thou m.a=true by unfold thou; simpa using hx] at hh; clear hx
  refine Rn (bs.av (sx:=nos) hk7 ?_)
  repeat'(first|refine wk1 ?_|(refine wk2 ?_ ?_<;>intro _)|fail)
  ·rename_i hx; rw [show thou m.b=false by unfold thou; simpa using hx] at hh; exact Zbp (e:=2) e3 hh (by decide)
  rename_i hx; rw [show thou m.b=true by unfold thou; simpa using hx] at hh; clear hx
  refine Rn (bs.av (sx:=nos) hk7 ?_)
  repeat'(first|refine wk1 ?_|(refine wk2 ?_ ?_<;>intro _)|fail)
  ·rename_i hx; rw [show thou m.c=false by unfold thou; simpa using hx] at hh; exact Zbp (e:=2) e3 hh (by decide)
  rename_i hx; rw [show thou m.c=true by unfold thou; simpa using hx] at hh; clear hx
  refine Rn (bs.av (sx:=nos) hk7 ?_)
  repeat'(first|refine wk1 ?_|(refine wk2 ?_ ?_<;>intro _)|fail)
  ·rename_i hx; rw [show thou m.d=false by unfold thou; simpa using hx] at hh; exact Zbp (e:=2) e3 hh (by decide)
  rename_i hx; rw [show thou m.d=true by unfold thou; simpa using hx] at hh; clear hx
  refine Rn (bs.av (sx:=nos) hk7 ?_)
  repeat'(first|refine wk1 ?_|(refine wk2 ?_ ?_<;>intro _)|fail)
  ·rename_i hx; rw [show thou m.sc=false by unfold thou; simpa using hx] at hh; exact Zbp (e:=2) e3 hh (by decide)
  rename_i hx; rw [show thou m.sc=true by unfold thou; simpa using hx] at hh
  exact Qr ⟨(k+1,_),[],rfl,kps,kps,⟨Zg (by have:=hf.1; omega),hlt,hh⟩,by dsimp only; omega⟩
 rw [Zaj (by omega)] at hh
 have e4:=Xi e3 (by rw [<-hh])
 clear e3 hh
 have hm1:=Zcn h h.fl
 have hm2:=Zcn h h.ce
 refine bs.av (sx:=nos) hk7 ?_
 repeat'(first|refine wk1 ?_|(refine wk2 ?_ ?_<;>intro _)|fail)
 ·rename_i hx
  refine Zer e4 (by unfold Zc9; simp_all; done) (by decide)
 ·rename_i h0 hx
  refine Zer e4 (by unfold Zc9; simp_all; done) (by decide)
 ·rename_i h0 h1 hx
  exact Zer (Xi e4 (by unfold Zc9; rw [h0,show decide (Zw h.ce 0 h.ms<0)=false by simpa using h1]; rfl)) (by rw [l2] at hx; rw [Zhr (by have:=of_decide_eq_true hx; rw [decide_eq_false (by omega)]; rfl)]) (by decide)
 ·rename_i h0 h1 h2 hx
  exact Zer (Xi e4 (by unfold Zc9; rw [h0,show decide (Zw h.ce 0 h.ms<0)=false by simpa using h1]; rfl)) (by rw [l3,l2] at hx; rw [Zhr (by rw [show decide ((h.ws.length:Int)=h.cs.length)=false by simpa using hx]; simp)]) (by decide)
 ·rename_i h0 h1 h2 h3 hx
  have e5:=Xi e4 (by unfold Zc9; rw [h0,show decide (Zw h.ce 0 h.ms<0)=false by simpa using h1]; rfl)
  have e6:=Xi e5 (Zdw (by rw [l2] at h2; rw [l3,l2] at h3; have:=of_decide_eq_false h2; rw [decide_eq_true (by omega),show decide ((h.ws.length:Int)=h.cs.length)=true by simpa using h3]; rfl))
  exact Zer e6 (by rw [l3] at hx; have:=of_decide_eq_true hx; rw [Zhr (by rw [decide_eq_false (by omega)])]) (by decide)
 rename_i h0 h1 h2 h3 h4
 have e5:=Xi e4 (by unfold Zc9; rw [h0,show decide (Zw h.ce 0 h.ms<0)=false by simpa using h1]; rfl)
 have hwc:h.ws.length=h.cs.length:=by
  rw [l3,l2] at h3; have:((h.ws.length:Int)=h.cs.length):=by simpa using h3
  omega
 have e6:=Xi e5 (Zdw (by rw [l2] at h2; have:=of_decide_eq_false h2; rw [decide_eq_true (by omega),decide_eq_true (by omega)]; rfl))
 have e7:=Xi e6 (Zdw (by rw [l3] at h4; have:=of_decide_eq_false h4; rw [decide_eq_true (by omega)]))
 clear e4 e5 e6 h0 h1 h2 h3 h4 hm1 hm2 hlt hk
 generalize hM:fIx (Zef h) 0 h.cs.length=M at e7
 refine Zo (S:=Nat × Int) (fun t=>h.cs.length-t.1) (fun t=>E65 [(7,I t.2)]) (fun _=>Z65 h) 2 2 (fun t=>t.2=t.1/\t.1<=h.cs.length/\fIx (Zef h) t.1 (h.cs.length-t.1)=M) (0,0) ⟨rfl,Qk _,hM⟩ (Qd _) [] rfl (kps) (kps) ?_
 rintro ⟨k,i⟩ ⟨hi,hk,hh⟩
 dsimp only at hi hk hh ⊢
 subst hi
 by_cases hlt:k<h.cs.length
 ·clear hM
  have e1:=Zdb hlt
  rw [Vg hlt] at hh
  refine bs.av (sx:=nos) hk7 ?_
  unfold Zef at hh
  generalize cor h.cs k=q at *
  have hv:∀ b c,plc q.1=b->plc q.2=c->(if plc q.1&&plc q.2 then (0:Int) else 2)=if b&&c then 0 else 2:=fun b c h1 h2=>by rw [h1,h2]
  unfold plc at hh hv
  repeat'(first|refine wk1 ?_|(refine wk2 ?_ ?_<;>intro _)|fail)
  ·rename_i hx
   rw [hv false _ (by simpa using hx) rfl] at hh; exact Zbp (e:=2) e7 hh (by decide)
  ·rename_i h1 hx
   rw [hv true false (by simpa using h1) (by simpa using hx)] at hh; exact Zbp (e:=2) e7 hh (by decide)
  ·rename_i h1 hx
   rw [hv true true (by simpa using h1) (by simpa using hx)] at hh
   exact Qr ⟨(k+1,_),[],rfl,kps,kps,⟨Zg (by have:=hf.2.1; omega),hlt,hh⟩,by dsimp only; omega⟩
 rw [Zaj (by omega)] at hh
 have hb:Zjz h.cs:=Zjt (by rw [hM,<-hh])
 have e8:=Xi e7 (by rw [<-hh])
 clear e7 hh hM
 refine bs.av (sx:=nos) hk7 ?_
 repeat'(first|refine wk1 ?_|(refine wk2 ?_ ?_<;>intro _)|fail)
 have hkw:PCOK Tryz.prog (ins 42 (fam (fun k=>[h.av,I (k:Int)]) (fun k=>⟨I (Uw h k),[]⟩) h.ws.length) (kR7 h)):=Zoz (fun k hk=>by
  have:=c164 hf ht hwc hk
  rw [show Uw h k=Zdv h k h.ws[k] by unfold Uw; rw [Qi hk]]
  exact this) hk7
 clear hlt hk
 generalize hM:fIx (Uw h) 0 h.ws.length=M at e8
 refine Zo (S:=Nat × Int) (fun t=>h.ws.length-t.1) (fun t=>E65 [(8,I t.2)]) (fun _=>Z65 h) 2 2 (fun t=>t.2=t.1/\t.1<=h.ws.length/\fIx (Uw h) t.1 (h.ws.length-t.1)=M) (0,0) ⟨rfl,Qk _,hM⟩ (Qd _) [] rfl (kps) (kps) ?_
 rintro ⟨k,i⟩ ⟨hi,hk,hh⟩
 dsimp only at hi hk hh ⊢
 subst hi
 by_cases hlt:k<h.ws.length
 ·clear hM
  have e1:=Zjn (h:=h) (r:=fun k=>⟨I (Uw h k),[]⟩) hlt
  rw [Vg hlt] at hh
  refine bs.av (sx:=nos) hkw ?_
  try dsimp only at e1
  generalize Uw h k=E at *
  repeat'(first|refine wk1 ?_|(refine wk2 ?_ ?_<;>intro _)|fail)
  ·rename_i hx
   exact Zbp e8 hh (by simpa using hx)
  ·rename_i hx
   rw [if_pos (by simpa using hx)] at hh
   exact Qr ⟨(k+1,_),[],rfl,kps,kps,⟨Zg (by have:=hf.2.2.1; omega),hlt,hh⟩,by dsimp only; omega⟩
 rw [Zaj (by omega)] at hh
 have hst:Uu h.cs:=Zho hb hwc (by rw [hM,<-hh])
 have hz:h.nz:=Yb2 hst
 have e9:=Xi e8 (by rw [<-hh])
 clear e8 hh hM hkw hb
 refine bs.av (sx:=sx65) hk7 ?_
 repeat'(first|refine wk1 ?_|(refine wk2 ?_ ?_<;>intro _)|fail)
 clear hlt hk
 refine SCt.pc (c165 hf hwc hz) (by kernel_rfl) ?_
 repeat'(first|refine wk1 ?_|(refine wk2 ?_ ?_<;>intro _)|fail)
 ·rename_i hx
  exact Zer e9 (by rw [Zhr (by simpa using hx)]) (by decide)
 rename_i hx
 have e10:=Xi e9 (Zdw (by simpa using hx))
 clear e9 hx
 refine SCt.pc (c46 hf) (by kernel_rfl) ?_
 repeat'(first|refine wk1 ?_|(refine wk2 ?_ ?_<;>intro _)|fail)
 ·rename_i hx
  exact Zer e10 (by rw [Zhr (by have:=of_decide_eq_true hx; rw [decide_eq_false (by omega)])]) (by decide)
 ·rename_i h1 hx
  exact Zer (Xi e10 (Zdw (by have:=of_decide_eq_false h1; rw [decide_eq_true (by omega)]))) (by rw [l4] at hx; have:=of_decide_eq_true hx; rw [Zhr (by rw [decide_eq_false (by omega)])]) (by decide)
 rename_i h1 h2
 have e11:=Xi (Xi e10 (Zdw (by have:=of_decide_eq_false h1; rw [decide_eq_true (by omega)]))) (Zdw (by rw [l4] at h2; have:=of_decide_eq_false h2; rw [decide_eq_true (by omega)]))
 clear e10 h1 h2
 have hkw:PCOK Tryz.prog (ins 45 (fam (fun k=>[h.av,I (k:Int)]) (fun k=>⟨I (Zbq h k),[]⟩) h.ks.length) (kR7 h)):=Zoz (fun k hk=>by
  have:=c166 hf ht hwc hz hk
  rw [show Zbq h k=Zds h k h.ks[k] by unfold Zbq; rw [Qi hk]]
  exact this) hk7
 generalize hM:fIx (Zbq h) 0 h.ks.length=M at e11
 refine Zo (S:=Nat × Int) (fun t=>h.ks.length-t.1) (fun t=>E65 [(10,I t.2)]) (fun _=>Z65 h) 2 2 (fun t=>t.2=t.1/\t.1<=h.ks.length/\fIx (Zbq h) t.1 (h.ks.length-t.1)=M) (0,0) ⟨rfl,Qk _,hM⟩ (Qd _) [] rfl (kps) (kps) ?_
 clear hM
 rintro ⟨k,i⟩ ⟨hi,hk,hh⟩
 dsimp only at hi hk hh ⊢
 subst hi
 by_cases hlt:k<h.ks.length
 ·have e1:=Zjn (h:=h) (r:=fun k=>⟨I (Zbq h k),[]⟩) hlt
  rw [Vg hlt] at hh
  refine bs.av (sx:=nos) hkw ?_
  try dsimp only at e1
  generalize Zbq h k=E at *
  repeat'(first|refine wk1 ?_|(refine wk2 ?_ ?_<;>intro _)|fail)
  ·rename_i hx
   exact Zbp e11 hh (by simpa using hx)
  ·rename_i hx
   rw [if_pos (by simpa using hx)] at hh
   exact Qr ⟨(k+1,_),[],rfl,kps,kps,⟨Zg (by have:=hf.2.2.2.1; omega),hlt,hh⟩,by dsimp only; omega⟩
 rw [Zaj (by omega)] at hh
 have e12:=Xi e11 (by rw [<-hh])
 clear e11 hh hkw
 refine bs.av (sx:=nos) hk7 ?_
 repeat'(first|refine wk1 ?_|(refine wk2 ?_ ?_<;>intro _)|fail)
 ·rename_i hx
  exact Zer e12 (by rw [l5] at hx; have:=of_decide_eq_true hx; rw [Zhr (by rw [decide_eq_false (by omega)])]) (by decide)
 clear hlt hk
 rename_i h1
 have e13:=Xi e12 (Zdw (by rw [l5] at h1; have:=of_decide_eq_false h1; rw [decide_eq_true (by omega)]))
 clear e12 h1
 have hkw:PCOK Tryz.prog (ins 46 (fam (fun k=>[h.av,I (k:Int)]) (fun k=>⟨I (Zbl h k),[]⟩) h.ss.length) (kR7 h)):=Zoz (fun k hk=>by
  have:=c167 hf ht hwc hz hk
  rw [show Zbl h k=Zgj h k h.ss[k] by unfold Zbl; rw [Qi hk]]
  exact this) hk7
 generalize hM:fIx (Zbl h) 0 h.ss.length=M at e13
 refine Zo (S:=Nat × Int) (fun t=>h.ss.length-t.1) (fun t=>E65 [(12,I t.2)]) (fun _=>Z65 h) 2 2 (fun t=>t.2=t.1/\t.1<=h.ss.length/\fIx (Zbl h) t.1 (h.ss.length-t.1)=M) (0,0) ⟨rfl,Qk _,hM⟩ (Qd _) [] rfl (kps) (kps) ?_
 clear hM
 rintro ⟨k,i⟩ ⟨hi,hk,hh⟩
 dsimp only at hi hk hh ⊢
 subst hi
 by_cases hlt:k<h.ss.length
 ·have e1:=Zjn (h:=h) (r:=fun k=>⟨I (Zbl h k),[]⟩) hlt
  rw [Vg hlt] at hh
  refine bs.av (sx:=nos) hkw ?_
  try dsimp only at e1
  generalize Zbl h k=E at *
  repeat'(first|refine wk1 ?_|(refine wk2 ?_ ?_<;>intro _)|fail)
  ·rename_i hx
   exact Zbp e13 hh (by simpa using hx)
  ·rename_i hx
   rw [if_pos (by simpa using hx)] at hh
   exact Qr ⟨(k+1,_),[],rfl,kps,kps,⟨Zg (by have:=hf.2.2.2.2.1; omega),hlt,hh⟩,by dsimp only; omega⟩
 rw [Zaj (by omega)] at hh
 have e14:=Xi e13 (by rw [<-hh])
 clear e13 hh hkw
 refine bs.av (sx:=nos) hk7 ?_
 repeat'(first|refine wk1 ?_|(refine wk2 ?_ ?_<;>intro _)|fail)
 subst e14
 exact Zd rfl rfl
def kQ1:PC:=pt0
theorem Yah:PCOK Tryz.prog kQ1:=Zf
def Yc (s:ByteArray):Bool:=!decide ((20:Int)<(s.size:Int))
def fewM (m:Mat):Bool:=Yc m.nm
def fewW (w:Wal):Bool:=Yc w.nm&&Yc w.mt&&Yc w.cu
def fewC (c:Can):Bool:=Yc c.nm&&Yc c.mt && !decide ((6:Int)<(c.hs.length:Int))
def fewS (s:Sea):Bool:=Yc s.nm
theorem Zgw (ns:List Int):Vv (nl ns)=true:=by simp [Vv,nl,Nz]
theorem c25 (ns:List Int) (hl:ns.length<100000):PCall Tryz.prog 14 [.isl 1 (nl ns)] ⟨.asl 0 0 (nl ns).length,[(1,nl ns)]⟩:=by
 have h1:=Zgw ns
 have h2:=Ze ns
 refine pn Zf Tryz.func14 ?_
 repeat'(first|refine wk0 ?_|(refine wk2 ?_ ?_<;>intro _)|fail)
 refine Yh [1] rfl ?_ rfl
 show AV.asl 1 0 (0+(nl ns).length)=AV.asl 1 0 (nl ns).length
 rw [Sg]
theorem c25f (ns:List Int) (hl:ns.length<100000):PCall Tryz.prog 14 [.isl 1 (nl ns)] ⟨.isl 1 (nl ns),[]⟩:=(c25 ns hl).freeze ⟨rfl,rfl,rfl⟩
theorem Zr0 (l:List Mat):Vv (l.map Mat.av)=true:=by simp [Vv,Nz]
theorem Zr1 (l:List (Int × Int)):Vv (l.map pt)=true:=by simp [Vv,Nz,pt]
theorem Zry (l:List Wal):Vv (l.map Wal.av)=true:=by simp [Vv,Nz]
theorem Zrz (l:List Sea):Vv (l.map Sea.av)=true:=by simp [Vv,Nz]
def r25:List AV->Option PRes
 | [.isl 1 els]=>none
 | _=>none
noncomputable abbrev cints:List AV->Option PRes:=famA (fun ns:List Int=>ns.length<100000) (fun ns=>[.isl 1 (nl ns)]) (fun ns=>⟨.isl 1 (nl ns),[]⟩)
theorem Zd2 {a b:List Int} (h:nl a=nl b):a=b:=by
 unfold nl at h
 exact List.map_inj_right (fun x y hxy=>by simpa using hxy) |>.1 h
theorem Zts {ns:List Int} (h:ns.length<100000):cints [.isl 1 (nl ns)]=some ⟨.isl 1 (nl ns),[]⟩ :=
 Xb (p:=fun ns:List Int=>ns.length<100000) (g:=fun ns=>[.isl 1 (nl ns)]) (r:=fun ns=>⟨.isl 1 (nl ns),[]⟩) (fun j hj=>by
  simp only [Rl,Wc,true_and,and_true] at hj
  rw [hj]) h
noncomputable def kQ2:PC:=ins 14 cints kQ1
theorem Zom:PCOK Tryz.prog kQ2:=Ya (fun ns hl=>c25f ns hl) Yah
abbrev canL (l:List Can):List (List AV):=l.map Can.av
theorem Ztv {l:List Can} {k:Nat} (h:k<l.length):canL (l.take (k+1))=canL (l.take k)++[Can.av l[k]]:=by unfold canL; rw [Qu h,List.map_append]; rfl
def cpyV (h:Hal):AV:=.agg [.str h.nm,I h.ht,.str h.fl,.str h.ce,.asl 0 0 (h.ms.map Mat.av).length,.asl 1 0 (h.cs.map pt).length,.asl 2 0 (h.ws.map Wal.av).length,(match h.ks with
 | []=>.nils
 | _=>.asl 4 0 (canL h.ks).length),.asl 3 0 (h.ss.map Sea.av).length]
def cpyB (h:Hal):List (Nat × List (List AV)):=[(6,h.ms.map Mat.av),(2,h.cs.map pt),(3,h.ws.map Wal.av),(4,h.ss.map Sea.av)]++(match h.ks with
 | []=>[]
 | _=>[(7,canL h.ks)])
abbrev Z22 (h:Hal):List (Nat × ABlk):=[(0,.row 9 [[.str h.nm,I h.ht,.str h.fl,.str h.ce,.asl 3 0 (0+(h.ms.map Mat.av).length),.asl 5 0 (0+(h.cs.map pt).length),.asl 7 0 (0+(h.ws.map Wal.av).length),.isl 7 (h.ks.map Can.av),.asl 9 0 (0+(h.ss.map Sea.av).length)]] true false),
 (1,.row 9 [[.str ⟨#[]⟩,I 0,.str ⟨#[]⟩,.str ⟨#[]⟩,.nils,.nils,.nils,.nils,.nils]] true false),(3,.row 6 (h.ms.map Mat.av) true true),(5,.row 2 (h.cs.map pt) true true),(7,.row 3 (h.ws.map Wal.av) true true),(9,.row 4 (h.ss.map Sea.av) true true)]
theorem c22 {h:Hal} (hf:h.few):PCall Tryz.prog 11 [h.av] ⟨cpyV h,cpyB h⟩:=by
 have o1:=Zr0 h.ms
 have o2:=Zr1 h.cs
 have o3:=Zry h.ws
 have o4:=Zrz h.ss
 have l1:=Un h.ms
 have l2:(h.cs.map pt).length=h.cs.length:=by simp
 have l3:=Yn h.ws
 have l4:=Xq h.ks
 have l5:=Zb1 h.ss
 obtain ⟨f1,f2,f3,f4,f5,f6⟩:=hf
 refine bs.pv (sx:=nos) Zom Tryz.func11 (by kernel_rfl) (by kernel_rfl) (by unfold cpyV cpyB; cases h.ks<;>rfl) ?_
 repeat'(first|refine wk0 ?_|(refine wk2 ?_ ?_<;>intro _)|fail)
 refine Lp.ren (env2:=[(1,.ptr 0 0 0),(2,.ptr 1 0 0),(3,.nils),(4,I 0)]) (σ2:=⟨Z22 h,10⟩) (Ren.of [] rfl (kps) (kps)) ?_
 refine Zo (S:=Nat × Int × Nat × List (List AV)) (fun t=>h.ks.length-t.1) (fun t=>[(1,.ptr 0 0 0),(2,.ptr 1 0 0),(3,match t.1 with
  | 0=>.nils
  | _=>.asl 10 0 t.2.2.1),(4,I t.2.1)]) (fun t=>(match t.1 with
  | 0=>Z22 h
  | _=>(10,.row 7 t.2.2.2 true true)::Z22 h)) 10 11 (fun t=>t.2.1=t.1/\t.1<=h.ks.length/\t.2.2.1=t.2.2.2.length/\t.2.2.2=canL (h.ks.take t.1)) (0,0,0,[]) ⟨rfl,Qk _,rfl,rfl⟩ (Qd _) [] rfl (kps) (kps) ?_
 rintro ⟨k,i,len,els⟩ ⟨hi,hk,hlen,hels⟩
 dsimp only at hi hk hlen hels ⊢
 subst hi
 refine bs.av (sx:=nos) Zom ?_
 by_cases hlt:k<h.ks.length
 ·have e1:=Zfi hlt
  have e2:=Zts (ns:=h.ks[k].hs) (by have:=f6 _ (Qq hlt); omega)
  have e3:=Ztv hlt
  have e4:els.length<2000:=by rw [hels]; simp [canL]; omega
  cases k with
  | zero =>
   repeat'(first|refine wk1 ?_|(refine wk2 ?_ ?_<;>intro _)|fail)
   exact Qr ⟨(1,_,_,_),[(10,13)],rfl,kps,kps,⟨Zg (k:=0) (by omega),hlt,rfl,e3.symm⟩,by dsimp only; omega⟩
  | succ k =>
   repeat'(first|refine wk1 ?_|(refine wk2 ?_ ?_<;>intro _)|fail)
   exact Qr ⟨(k+1+1,_,_,_),[(10,13)],rfl,kps,kps,⟨Zg (k:=k+1) (by omega),hlt,by exact List.length_append.symm,by show _=canL _; rw [e3,<-hels]; rfl⟩,by dsimp only; omega⟩
 rw [Rr (by omega)] at hels
 subst hels
 subst hlen
 cases k with
 | zero =>
  have hks:h.ks=[]:=List.eq_nil_of_length_eq_zero (by omega)
  have v1:cpyV h = .agg [.str h.nm,I h.ht,.str h.fl,.str h.ce,.asl 0 0 (h.ms.map Mat.av).length,.asl 1 0 (h.cs.map pt).length,.asl 2 0 (h.ws.map Wal.av).length,.nils,.asl 3 0 (h.ss.map Sea.av).length]:=by unfold cpyV; rw [hks]
  have v2:cpyB h=[(6,h.ms.map Mat.av),(2,h.cs.map pt),(3,h.ws.map Wal.av),(4,h.ss.map Sea.av)]:=by unfold cpyB; rw [hks]; rfl
  rw [v1,v2]
  clear v1 v2
  repeat'(first|refine wk1 ?_|(refine wk2 ?_ ?_<;>intro _)|fail)
  refine Yh [3,5,7,9] rfl ?_ rfl
  show Fw [_,_,_,_,.asl 3 0 (0+(h.ms.map Mat.av).length),.asl 5 0 (0+(h.cs.map pt).length),.asl 7 0 (0+(h.ws.map Wal.av).length),_,.asl 9 0 (0+(h.ss.map Sea.av).length)]=Fw [_,_,_,_,.asl 3 0 (h.ms.map Mat.av).length,.asl 5 0 (h.cs.map pt).length,.asl 7 0 (h.ws.map Wal.av).length,_,.asl 9 0 (h.ss.map Sea.av).length]
  simp only [Sg]; rfl
 | succ k =>
  have hks:∃ c l,h.ks=c::l:=by
   cases hq:h.ks with
   | nil=>rw [hq] at hk; simp at hk
   | cons c l=>exact ⟨c,l,rfl⟩
  have v1:cpyV h = .agg [.str h.nm,I h.ht,.str h.fl,.str h.ce,.asl 0 0 (h.ms.map Mat.av).length,.asl 1 0 (h.cs.map pt).length,.asl 2 0 (h.ws.map Wal.av).length,.asl 4 0 (canL h.ks).length,.asl 3 0 (h.ss.map Sea.av).length]:=by obtain ⟨c,l,hq⟩:=hks; unfold cpyV; rw [hq]
  have v2:cpyB h=[(6,h.ms.map Mat.av),(2,h.cs.map pt),(3,h.ws.map Wal.av),(4,h.ss.map Sea.av),(7,canL h.ks)]:=by obtain ⟨c,l,hq⟩:=hks; unfold cpyB; rw [hq]; rfl
  rw [v1,v2]
  clear v1 v2
  repeat'(first|refine wk1 ?_|(refine wk2 ?_ ?_<;>intro _)|fail)
  refine Yh [3,5,7,9,10] rfl ?_ rfl
  show Fw [_,_,_,_,.asl 3 0 (0+(h.ms.map Mat.av).length),.asl 5 0 (0+(h.cs.map pt).length),.asl 7 0 (0+(h.ws.map Wal.av).length),_,.asl 9 0 (0+(h.ss.map Sea.av).length)]=Fw [_,_,_,_,.asl 3 0 (h.ms.map Mat.av).length,.asl 5 0 (h.cs.map pt).length,.asl 7 0 (h.ws.map Wal.av).length,_,.asl 9 0 (h.ss.map Sea.av).length]
  simp only [Sg]; rfl
structure Stg where
 hs:List Int
 dr:List Int
abbrev Stg.cells (s:Stg):List AV:=[.isl 1 (nl s.hs),.isl 1 (nl s.dr)]
abbrev Stg.av (s:Stg):AV:=.agg [.isl 1 (nl s.hs),.isl 1 (nl s.dr)]
def Stg.few (s:Stg):Prop:=s.hs.length<1000/\s.dr.length<1000
def kLen (h:Hal) (i:Nat):Int:=match h.ks[i]? with
 | some c=>(c.hs.length:Int)
 | none=>0
def curt (h:Hal) (n:Int):ByteArray:=match h.ws[n.toNat]? with
 | some w=>w.cu
 | none=>⟨#[]⟩
def hgE (h:Hal):Nat->List Int->Int
 | _,[]=>0
 | i,n::l=>if within n 0 (Qa Qb (kLen h i-1)) then hgE h (i+1) l else 6
def drOk (h:Hal) (n:Int):Bool:=within n 0 (Qa Qb ((h.ws.length:Int)-1)) && !(curt h n==⟨#[]⟩)
def Zr3 (p:Option Int) (n:Int):Bool:=match p with
 | some q=>decide (n<=q)
 | none=>false
def drE (h:Hal):Option Int->List Int->Int
 | _,[]=>0
 | p,n::l=>if drOk h n then (if Zr3 p n then 9 else drE h (some n) l) else 6
def setE (h:Hal) (s:Stg):Int:=if (s.hs.length:Int)=h.ks.length then (if hgE h 0 s.hs=0 then drE h none s.dr else hgE h 0 s.hs) else 10
theorem Zym {h:Hal} {i:Nat} (hi:i<h.ks.length):kLen h i=((nl h.ks[i].hs).length:Int):=by unfold kLen; rw [Qi hi,Ze]
theorem Ybq {h:Hal} {n:Int} (hw:within n 0 (Qa Qb ((h.ws.length:Int)-1))=true) (hl:h.ws.length<1000):∃ w,(h.ws.map Wal.av)[n.toNat]?=some (Wal.av w)/\curt h n=w.cu/\0<=n/\n<h.ws.length:=by
 rw [W_eq (by omega) (by omega)] at hw
 have hw:=within_iff.1 hw
 have hi:n.toNat<h.ws.length:=by omega
 exact ⟨h.ws[n.toNat],by simp [hi],by unfold curt; rw [Qi hi],by omega,by omega⟩
abbrev Z123 (h:Hal) (s:Stg):List (Nat × ABlk):=[(1,.row 2 [s.cells] true false),(0,.row 9 [h.cells] true false)]
theorem c123 {h:Hal} (hf:h.few) {s:Stg} (hs:s.few):PCall Tryz.prog 74 [h.av,s.av] ⟨I (setE h s),[]⟩:=by
 have l1:=Ze s.hs
 have l2:=Ze s.dr
 have l3:=Xq h.ks
 have l4:=Yn h.ws
 obtain ⟨f1,f2,f3,f4,f5,f6⟩:=hf
 obtain ⟨g1,g2⟩:=hs
 refine pn Zc5 Tryz.func74 ?_
 by_cases hlen:(s.hs.length:Int)=h.ks.length
 ·unfold setE
  rw [if_pos hlen]
  repeat'(first|refine wk1 ?_|(refine wk2 ?_ ?_<;>intro _)|fail)
  refine Zo (S:=Nat × Int) (fun t=>s.hs.length-t.1) (fun t=>[(2,.ptr 0 0 0),(3,.ptr 1 0 0),(4,I 0),(18,.isl 1 (nl s.hs)),(19,I (nl s.hs).length),(20,I t.2)]) (fun _=>Z123 h s) 2 2 (fun t=>t.2=t.1/\t.1<=s.hs.length/\hgE h t.1 (s.hs.drop t.1)=hgE h 0 s.hs) (0,0) ⟨rfl,Qk _,rfl⟩ (Qd _) [] rfl (kps) (kps) ?_
  rintro ⟨k,i⟩ ⟨hi,hk,hh⟩
  dsimp only at hi hk hh ⊢
  subst hi
  generalize hgE h 0 s.hs=V at *
  refine bs.av (sx:=nos) Zc5 ?_
  by_cases hlt:k<s.hs.length
  ·have e1:=Yz hlt
   have e2:=Zfi (l:=h.ks) (k:=k) (by omega)
   have e3:=Zym (h:=h) (i:=k) (by omega)
   rw [Qg hlt,hgE,e3] at hh
   clear e3
   repeat'(first|refine wk1 ?_|(refine wk2 ?_ ?_<;>intro _)|fail)
   ·rename_i hx
    rw [show within s.hs[k] 0 (Qa Qb (((nl (h.ks[k]'(by omega)).hs).length:Int)-1))=false by simpa using hx] at hh
    exact Zb (by rw [<-hh]; rfl)
   ·rename_i hx
    rw [show within s.hs[k] 0 (Qa Qb (((nl (h.ks[k]'(by omega)).hs).length:Int)-1))=true by simpa using hx,if_pos rfl] at hh
    exact Qr ⟨(k+1,_),[],rfl,kps,kps,⟨Zg (by omega),hlt,hh⟩,by dsimp only; omega⟩
  rw [Qj (by omega)] at hh
  have hh:0=V:=hh
  subst hh
  rw [if_pos rfl]
  repeat'(first|refine wk1 ?_|(refine wk2 ?_ ?_<;>intro _)|fail)
  clear hlt hk
  refine Zo (S:=Nat × Int) (fun t=>s.dr.length-t.1) (fun t=>[(2,.ptr 0 0 0),(3,.ptr 1 0 0),(4,I 0),(39,.isl 1 (nl s.dr)),(40,I (nl s.dr).length),(41,I t.2)]) (fun _=>Z123 h s) 2 2 (fun t=>t.2=t.1/\t.1<=s.dr.length/\drE h (Xg s.dr t.1) (s.dr.drop t.1)=drE h none s.dr) (0,0) ⟨rfl,Qk _,rfl⟩ (Qd _) [] rfl (kps) (kps) ?_
  rintro ⟨k,i⟩ ⟨hi,hk,hh⟩
  dsimp only at hi hk hh ⊢
  subst hi
  generalize drE h none s.dr=V at *
  refine bs.av (sx:=nos) Zc5 ?_
  by_cases hlt:k<s.dr.length
  ·have e1:=Yz hlt
   rw [Qg hlt,drE] at hh
   by_cases hw:within s.dr[k] 0 (Qa Qb ((h.ws.length:Int)-1))=true
   ·obtain ⟨w,e2,e3,e4,e5⟩:=Ybq hw f3
    have hw' : within s.dr[k] 0 (Qa Qb (((h.ws.map Wal.av).length:Int)-1))=true:=by rw [l4]; exact hw
    have hd:drOk h s.dr[k] = !(w.cu==⟨#[]⟩):=by unfold drOk; rw [hw,e3,Td]
    rw [hd] at hh
    clear hd e3
    cases k with
    | zero =>
     have hp:Xg s.dr (0+1)=some s.dr[0]:=by simp [Xg,hlt]
     rw [<-hp] at hh
     clear hp
     have e8:Zr3 (Xg s.dr 0) s.dr[0]=false:=rfl
     rw [e8] at hh
     clear e8
     repeat'(first|refine wk1 ?_|(refine wk2 ?_ ?_<;>intro _)|fail)
     all_goals clear e1 e2
     all_goals try (exfalso; clear hh; simp_all; done)
     ·rename_i hx; exact Zb (by rw [<-hh]; clear hh; simp_all)
     ·exact Qr ⟨(1,_),[],rfl,kps,kps,⟨Zg (k:=0) (by omega),hlt,by rw [<-hh]; clear hh; simp_all⟩,by dsimp only; omega⟩
    | succ k =>
     have e6:Qa Qb (((k+1:Nat):Int)-1)=(k:Int):=by rw [W_eq (by omega) (by omega)]; omega
     have e7:(nl s.dr)[(Qa Qb (((k+1:Nat):Int)-1)).toNat]?=some [I s.dr[k]]:=by rw [e6]; exact Yz (by omega)
     have e8:Zr3 (Xg s.dr (k+1)) s.dr[k+1]=decide (s.dr[k+1]<=s.dr[k]):=by simp [Xg,Zr3,show k<s.dr.length by omega]
     rw [e8] at hh
     clear e8
     have hp:Xg s.dr (k+1+1)=some s.dr[k+1]:=by simp [Xg,hlt]
     rw [<-hp] at hh
     clear hp
     repeat'(first|refine wk1 ?_|(refine wk2 ?_ ?_<;>intro _)|fail)
     all_goals clear e7 e1 e2
     all_goals try (exfalso; clear hh; simp_all; done)
     ·rename_i hx; exact Zb (by rw [<-hh]; clear hh; simp_all)
     ·exact Zb (by rw [<-hh]; clear hh; simp_all)
     ·exact Qr ⟨(k+1+1,_),[],rfl,kps,kps,⟨Zg (k:=k+1) (by omega),hlt,by rw [<-hh]; clear hh; simp_all<;>omega⟩,by dsimp only; omega⟩
   ·have hd:drOk h s.dr[k]=false:=by unfold drOk; rw [show within s.dr[k] 0 (Qa Qb ((h.ws.length:Int)-1))=false by simpa using hw]; rfl
    have hw' : within s.dr[k] 0 (Qa Qb (((h.ws.map Wal.av).length:Int)-1))=false:=by rw [l4]; simpa using hw
    rw [hd] at hh
    repeat'(first|refine wk1 ?_|(refine wk2 ?_ ?_<;>intro _)|fail)
    all_goals try (exfalso; clear hh; simp_all; done)
    all_goals exact Zb (by rw [<-hh]; rfl)
  rw [Qj (by omega)] at hh
  repeat'(first|refine wk1 ?_|(refine wk2 ?_ ?_<;>intro _)|fail)
  exact Zb (by rw [<-hh]; cases Xg s.dr k<;>rfl)
 ·unfold setE
  rw [if_neg hlen]
  repeat'(first|refine wk1 ?_|(refine wk2 ?_ ?_<;>intro _)|fail)
  exact Zb rfl
structure Hal.ok (h:Hal):Prop where
 f:h.few
 t:h.texts
def Hal.err (h:Hal):Int:=(chk h).2.2
abbrev chkA (h:Hal):AV:=.tup [P2 (chk h).1 (chk h).2.1,I h.err]
theorem c65k {h:Hal} (hk:h.ok):PCall Tryz.prog 22 [h.av] ⟨chkA h,[]⟩:=by have:=c65 hk.f hk.t; rw [Zxh hk.f] at this; exact this
theorem c63k {h:Hal} (hk:h.ok):PCall Tryz.prog 93 [h.av] ⟨chkA h,[]⟩:=c63 hk.f hk.t
noncomputable def kE (h:Hal):PC:=ins 93 (one [h.av] ⟨chkA h,[]⟩) (ins 22 (one [h.av] ⟨chkA h,[]⟩) kQ2)
theorem Yam {h:Hal} (hk:h.ok):PCOK Tryz.prog (kE h):=Zi (c63k hk) (Zi (c65k hk) Zom)
theorem c76 {h:Hal} (hk:h.ok):PCall Tryz.prog 73 [h.av] ⟨.tup [h.av,I h.err],[]⟩:=by
 refine pn (Yam hk) Tryz.func73 ?_
 repeat'(first|refine wk0 ?_|(refine wk2 ?_ ?_<;>intro _)|fail)
 exact Zd rfl rfl
def serr (h:Hal) (s:Stg):Int:=if h.err=0 then setE h s else h.err
noncomputable def kF (h:Hal) (s:Stg):PC:=ins 73 (one [h.av] ⟨.tup [h.av,I h.err],[]⟩) (ins 74 (one [h.av,s.av] ⟨I (setE h s),[]⟩) (kE h))
theorem Yal {h:Hal} (hk:h.ok) {s:Stg} (hs:s.few):PCOK Tryz.prog (kF h s):=Zi (c76 hk) (Zi (c123 hk.f hs) (Yam hk))
theorem c47 {h:Hal} (hk:h.ok) {s:Stg} (hs:s.few):PCall Tryz.prog 49 [h.av,s.av] ⟨I (serr h s),[]⟩:=by
 refine pn (Yal hk hs) Tryz.func49 ?_
 repeat'(first|refine wk0 ?_|(refine wk2 ?_ ?_<;>intro _)|fail)
 all_goals exact Zb (by simp_all [serr])
abbrev stgL (h:Hal) (s:Stg):List AV:=[.str h.nm,I h.ht,.str h.fl,.str h.ce,.isl 6 (h.ms.map Mat.av),.isl 2 (h.cs.map pt),.isl 3 (h.ws.map Wal.av),.isl 7 (h.ks.map Can.av),.isl 4 (h.ss.map Sea.av),.isl 1 (nl s.hs),.isl 1 (nl s.dr)]
theorem c83 {h:Hal} (hk:h.ok) {s:Stg} (hs:s.few):PCall Tryz.prog 75 [h.av,s.av] ⟨.tup [.agg (stgL h s),I (serr h s)],[]⟩:=by
 refine pn (Yal hk hs) Tryz.func75 ?_
 repeat'(first|refine wk0 ?_|(refine wk2 ?_ ?_<;>intro _)|fail)
 ·rename_i hx
  have e:serr h s=setE h s:=by simp_all [serr]
  rw [e]
  exact Zd rfl rfl
 ·rename_i hx
  have e:serr h s=h.err:=by simp_all [serr]
  rw [e]
  exact Zd rfl rfl
end Go.Proofs.YtkmjliccopgocaaGreat
namespace Go.Sx
open Go Go.RowKit
theorem Zx {T:Tab} {d:Nat} {t:TypeId} {xs:List AV} {ti:TI} {fs:Array Field} (ht:T t=some ti) (hd:ti.desc = .struct fs) (h:WT T (d+1) t xs) (i:Nat) {f:Field} (hf:fs.toList[i]?=some f) {tf:TI} (htf:T f.type=some tf):WT T d f.type ((xs.drop f.offset).take tf.size):=by
 obtain ⟨tf',e,w⟩:=(Ui ht hd h).2 f (List.mem_of_getElem? hf)
 rw [htf] at e
 cases e
 exact w
end Go.Sx
namespace Go.Proofs.YtkmjliccopgocaaGreat
open Go Go.Sx
noncomputable abbrev TT:=tget tbl
def okS (s:ByteArray):Prop:=s.size<=maxLen
theorem wInt {d:Nat} {x:List AV} (h:WT TT (d+1) 3 x):∃ n,x=[I n]:=by
 obtain ⟨n,h1,_⟩:=Zwm (T:=TT) (t:=3) rfl rfl h
 exact ⟨n,h1⟩
theorem wStr {d:Nat} {x:List AV} (h:WT TT (d+1) 9 x):∃ s,x=[.str s]/\okS s:=Zzj (T:=TT) (t:=9) rfl rfl h
theorem Zzl {d:Nat} {x:List AV} (h:WT TT (d+2) 30 x):∃ ns:List Int,x=[.isl 1 (nl ns)]:=by
 obtain ⟨els,h1,h2,h3⟩:=Zck (T:=TT) (t:=30) rfl rfl rfl h
 have:∃ ns:List Int,els=nl ns:=by
  clear h1 h2
  induction els with
  | nil=>exact ⟨[],rfl⟩
  | cons e l ih =>
   obtain ⟨ns,hns⟩:=ih (fun x hx=>h3 x (by simp [hx]))
   obtain ⟨n,hn⟩:=wInt (h3 e (by simp))
   exact ⟨n::ns,by rw [hns,hn]; rfl⟩
 obtain ⟨ns,rfl⟩:=this
 exact ⟨ns,h1⟩
theorem wP2 {d:Nat} {x:List AV} (h:WT TT (d+2) 70 x):∃ p:Int × Int,x=pt p:=by
 obtain ⟨ns,h1,h2,_⟩:=Zqv (T:=TT) (t:=70) rfl rfl rfl h
 have h2:ns.length=2:=h2
 match ns,h2 with
 | [a,b],_=>exact ⟨(a,b),by rw [h1]; rfl⟩
theorem wP3 {d:Nat} {x:List AV} (h:WT TT (d+2) 74 x):∃ a b c,x=[I a,I b,I c]:=by
 obtain ⟨ns,h1,h2,_⟩:=Zqv (T:=TT) (t:=74) rfl rfl rfl h
 have h2:ns.length=3:=h2
 match ns,h2 with
 | [a,b,c],_=>exact ⟨a,b,c,by rw [h1]; rfl⟩
theorem wI4 {d:Nat} {x:List AV} (h:WT TT (d+2) 42 x):∃ a b c e,x=[I a,I b,I c,I e]:=by
 obtain ⟨h1,h2⟩:=Zui (T:=TT) (t:=42) rfl rfl rfl h
 have h1:x.length=4:=h1
 match x,h1 with
 | [x0,x1,x2,x3],_ =>
  obtain ⟨a,ha⟩:=wInt (h2 0 (by omega))
  obtain ⟨b,hb⟩:=wInt (h2 1 (by omega))
  obtain ⟨c,hc⟩:=wInt (h2 2 (by omega))
  obtain ⟨e,he⟩:=wInt (h2 3 (by omega))
  have ha:[x0]=[I a]:=ha
  have hb:[x1]=[I b]:=hb
  have hc:[x2]=[I c]:=hc
  have he:[x3]=[I e]:=he
  cases ha; cases hb; cases hc; cases he
  exact ⟨a,b,c,e,rfl⟩
theorem wMat {d:Nat} {x:List AV} (h:WT TT (d+3) 44 x):∃ m:Mat,x=m.av/\okS m.nm:=by
 have h0:=(Ui (T:=TT) (t:=44) rfl rfl h).1
 have h0:x.length=6:=h0
 match x,h0 with
 | [x0,x1,x2,x3,x4,x5],_ =>
  obtain ⟨s,hs,hs2⟩:=wStr (Zx (T:=TT) (t:=44) rfl rfl h 0 rfl rfl)
  obtain ⟨a,b,c,e,ha⟩:=wI4 (Zx (T:=TT) (t:=44) rfl rfl h 1 rfl rfl)
  obtain ⟨n,hn⟩:=wInt (Zx (T:=TT) (t:=44) rfl rfl h 2 rfl rfl)
  have hs:[x0]=[.str s]:=hs
  have ha:[x1,x2,x3,x4]=[I a,I b,I c,I e]:=ha
  have hn:[x5]=[I n]:=hn
  cases hs; cases ha; cases hn
  exact ⟨⟨s,a,b,c,e,n⟩,rfl,hs2⟩
theorem wWal {d:Nat} {x:List AV} (h:WT TT (d+2) 68 x):∃ m:Wal,x=m.av/\okS m.nm/\okS m.mt/\okS m.cu:=by
 have h0:=(Ui (T:=TT) (t:=68) rfl rfl h).1
 have h0:x.length=3:=h0
 match x,h0 with
 | [x0,x1,x2],_ =>
  obtain ⟨s,hs,hs2⟩:=wStr (Zx (T:=TT) (t:=68) rfl rfl h 0 rfl rfl)
  obtain ⟨t,ht,ht2⟩:=wStr (Zx (T:=TT) (t:=68) rfl rfl h 1 rfl rfl)
  obtain ⟨u,hu,hu2⟩:=wStr (Zx (T:=TT) (t:=68) rfl rfl h 2 rfl rfl)
  have hs:[x0]=[.str s]:=hs
  have ht:[x1]=[.str t]:=ht
  have hu:[x2]=[.str u]:=hu
  cases hs; cases ht; cases hu
  exact ⟨⟨s,t,u⟩,rfl,hs2,ht2,hu2⟩
theorem wCan {d:Nat} {x:List AV} (h:WT TT (d+3) 72 x):∃ m:Can,x=m.av/\okS m.nm/\okS m.mt:=by
 have h0:=(Ui (T:=TT) (t:=72) rfl rfl h).1
 have h0:x.length=7:=h0
 match x,h0 with
 | [x0,x1,x2,x3,x4,x5,x6],_ =>
  obtain ⟨s,hs,hs2⟩:=wStr (Zx (T:=TT) (t:=72) rfl rfl h 0 rfl rfl)
  obtain ⟨t,ht,ht2⟩:=wStr (Zx (T:=TT) (t:=72) rfl rfl h 1 rfl rfl)
  obtain ⟨⟨a,b⟩,ha⟩:=wP2 (Zx (T:=TT) (t:=72) rfl rfl h 2 rfl rfl)
  obtain ⟨⟨c,e⟩,hc⟩:=wP2 (Zx (T:=TT) (t:=72) rfl rfl h 3 rfl rfl)
  obtain ⟨ns,hn⟩:=Zzl (Zx (T:=TT) (t:=72) rfl rfl h 4 rfl rfl)
  have hs:[x0]=[.str s]:=hs
  have ht:[x1]=[.str t]:=ht
  have ha:[x2,x3]=[I a,I b]:=ha
  have hc:[x4,x5]=[I c,I e]:=hc
  have hn:[x6]=[.isl 1 (nl ns)]:=hn
  cases hs; cases ht; cases ha; cases hc; cases hn
  exact ⟨⟨s,t,a,b,c,e,ns⟩,rfl,hs2,ht2⟩
theorem wSea {d:Nat} {x:List AV} (h:WT TT (d+3) 76 x):∃ m:Sea,x=m.av/\okS m.nm:=by
 have h0:=(Ui (T:=TT) (t:=76) rfl rfl h).1
 have h0:x.length=4:=h0
 match x,h0 with
 | [x0,x1,x2,x3],_ =>
  obtain ⟨s,hs,hs2⟩:=wStr (Zx (T:=TT) (t:=76) rfl rfl h 0 rfl rfl)
  obtain ⟨a,b,c,ha⟩:=wP3 (Zx (T:=TT) (t:=76) rfl rfl h 1 rfl rfl)
  have hs:[x0]=[.str s]:=hs
  have ha:[x1,x2,x3]=[I a,I b,I c]:=ha
  cases hs; cases ha
  exact ⟨⟨s,a,b,c⟩,rfl,hs2⟩
theorem Zmi {α:Type} {f:α->List AV} {P:α->Prop} {Q:List AV->Prop} (hQ:∀ x,Q x->∃ m,x=f m/\P m):∀ els:List (List AV),(∀ x∈els,Q x)->∃ l:List α,els=l.map f/\∀ m∈l,P m
 | [],_=>⟨[],rfl,by simp⟩
 | e::els,h=>by
  obtain ⟨l,h1,h2⟩:=Zmi hQ els (fun x hx=>h x (by simp [hx]))
  obtain ⟨m,h3,h4⟩:=hQ e (h e (by simp))
  refine ⟨m::l,by rw [h3,h1]; rfl,fun u hu=>?_⟩
  rcases Qv.1 hu with rfl|hu
  ·exact h4
  ·exact h2 u hu
theorem Zys {a:AV} (h:WTA TT 28 a):∃ h:Hal,a=h.av:=by
 obtain ⟨x,m,rfl,hw⟩:=Zxo (T:=TT) (t:=28) h rfl rfl 10
 have h0:=(Ui (T:=TT) (t:=28) rfl rfl hw).1
 have h0:x.length=9:=h0
 match x,h0 with
 | [x0,x1,x2,x3,x4,x5,x6,x7,x8],_ =>
  obtain ⟨s,hs,hs2⟩:=wStr (Zx (T:=TT) (t:=28) rfl rfl hw 0 rfl rfl)
  obtain ⟨n,hn⟩:=wInt (Zx (T:=TT) (t:=28) rfl rfl hw 1 rfl rfl)
  obtain ⟨t,ht,ht2⟩:=wStr (Zx (T:=TT) (t:=28) rfl rfl hw 2 rfl rfl)
  obtain ⟨u,hu,hu2⟩:=wStr (Zx (T:=TT) (t:=28) rfl rfl hw 3 rfl rfl)
  obtain ⟨e4,h4,_,g4⟩:=Zck (T:=TT) (t:=22) rfl rfl rfl (Zx (T:=TT) (t:=28) rfl rfl hw 4 rfl rfl)
  obtain ⟨e5,h5,_,g5⟩:=Zck (T:=TT) (t:=23) rfl rfl rfl (Zx (T:=TT) (t:=28) rfl rfl hw 5 rfl rfl)
  obtain ⟨e6,h6,_,g6⟩:=Zck (T:=TT) (t:=24) rfl rfl rfl (Zx (T:=TT) (t:=28) rfl rfl hw 6 rfl rfl)
  obtain ⟨e7,h7,_,g7⟩:=Zck (T:=TT) (t:=25) rfl rfl rfl (Zx (T:=TT) (t:=28) rfl rfl hw 7 rfl rfl)
  obtain ⟨e8,h8,_,g8⟩:=Zck (T:=TT) (t:=26) rfl rfl rfl (Zx (T:=TT) (t:=28) rfl rfl hw 8 rfl rfl)
  obtain ⟨l4,k4,_⟩:=Zmi (f:=Mat.av) (fun x hx=>wMat hx) e4 g4
  obtain ⟨l5,k5,_⟩:=Zmi (f:=pt) (P:=fun _=>True) (fun x hx=>(wP2 hx).imp fun p hp=>⟨hp,trivial⟩) e5 g5
  obtain ⟨l6,k6,_⟩:=Zmi (f:=Wal.av) (fun x hx=>wWal hx) e6 g6
  obtain ⟨l7,k7,_⟩:=Zmi (f:=Can.av) (fun x hx=>wCan hx) e7 g7
  obtain ⟨l8,k8,_⟩:=Zmi (f:=Sea.av) (fun x hx=>wSea hx) e8 g8
  have hs:[x0]=[.str s]:=hs
  have hn:[x1]=[I n]:=hn
  have ht:[x2]=[.str t]:=ht
  have hu:[x3]=[.str u]:=hu
  have h4:[x4]=[.isl 6 e4]:=h4
  have h5:[x5]=[.isl 2 e5]:=h5
  have h6:[x6]=[.isl 3 e6]:=h6
  have h7:[x7]=[.isl 7 e7]:=h7
  have h8:[x8]=[.isl 4 e8]:=h8
  cases hs; cases hn; cases ht; cases hu; cases h4; cases h5; cases h6; cases h7; cases h8
  exact ⟨⟨s,n,t,u,l4,l5,l6,l7,l8⟩,by rw [k4,k5,k6,k7,k8]⟩
theorem Zaq {s:ByteArray} (h:Yc s=true):s.data.toList.length<100000:=by
 unfold Yc at h
 have hz:s.size=s.data.toList.length:=by simp
 simp only [Sf,decide_eq_false_iff_not] at h
 omega
def sl (l:List ByteArray):List (List AV):=l.map fun s=>[.str s]
theorem Zgf (l:List ByteArray):(sl l).length=l.length:=by simp [sl]
theorem Zdx (l m:List ByteArray):sl (l++m)=sl l++sl m:=by simp [sl]
def Zdu (h:Hal):List ByteArray:=h.ws.map Wal.nm
def Zd5 (h:Hal):List ByteArray:=h.ks.map Can.nm
def surf (h:Hal):List ByteArray:=(Zdu h++[Xy,Za1])++Zd5 h
theorem Zxq {h:Hal} {k:Nat} (hk:k<h.ws.length):sl ((Zdu h).take (k+1))=sl ((Zdu h).take k)++[[.str h.ws[k].nm]]:=by
 have:k<(Zdu h).length:=by simp [Zdu]; exact hk
 rw [Qu this,Zdx]
 simp [Zdu,sl]
theorem Zyl {h:Hal} {k:Nat} (hk:k<h.ks.length):sl ((Zd5 h).take (k+1))=sl ((Zd5 h).take k)++[[.str h.ks[k].nm]]:=by
 have:k<(Zd5 h).length:=by simp [Zd5]; exact hk
 rw [Qu this,Zdx]
 simp [Zd5,sl]
def gv (n0:Nat) (k len:Nat):AV:=match k with
 | 0=>.nils
 | _=>.asl n0 0 len
def gz (n0 es:Nat) (k:Nat) (els:List (List AV)) (z:List (Nat × ABlk)):List (Nat × ABlk):=match k with
 | 0=>z
 | _=>(n0,.row es els true true)::z
def nm2 (a b:Nat) (k:Nat):Nat:=match k with
 | 0=>a
 | _=>b
structure Hal.fine (h:Hal):Prop where
 nms:h.names=(Yp 0 [] h.ms).2.2
 le:h.ms.length<=10/\3<=h.cs.length/\h.ws.length=h.cs.length/\h.ws.length<=12/\h.ks.length<=4/\h.ss.length<=40
 ht:2<=h.ht/\h.ht<=5000
 mats:∀ m∈h.ms,Xx m=0
 fl:∃ m∈h.ms,m.nm=h.fl
 ce:∃ m∈h.ms,m.nm=h.ce
 bd:Zjz h.cs
 st:Uu h.cs
 simple:Xl h=true
 area:0<Ye h
 wal:∀ i (hi:i<h.ws.length),Zdv h i h.ws[i]=0
 can:∀ i (hi:i<h.ks.length),Zds h i h.ks[i]=0
 sea:∀ i (hi:i<h.ss.length),Zgj h i h.ss[i]=0
theorem Yw {x:Int × Int × Int} {l:List (Int × Int × Int)} (h:(Zr (x::l)).2.2=0):x.2.2=0/\(Zr l).2.2=0:=by
 rw [Zr] at h
 by_cases c:x.2.2=0
 ·rw [if_pos c] at h; exact ⟨c,h⟩
 ·rw [if_neg c] at h; exact absurd h c
theorem Zna {h:Hal} (hk:h.ok) (he:h.err=0):h.fine:=by
 have h0:(chkR h).2.2=0:=by rw [Zxh hk.f]; exact he
 unfold chkR Zeg at h0
 obtain ⟨z1,h0⟩:=Yw h0
 obtain ⟨z2,h0⟩:=Yw h0
 obtain ⟨z3,h0⟩:=Yw h0
 obtain ⟨z4,h0⟩:=Yw h0
 obtain ⟨z5,h0⟩:=Yw h0
 obtain ⟨z6,h0⟩:=Yw h0
 obtain ⟨z7,h0⟩:=Yw h0
 obtain ⟨z8,h0⟩:=Yw h0
 obtain ⟨z9,h0⟩:=Yw h0
 obtain ⟨z10,h0⟩:=Yw h0
 obtain ⟨z11,h0⟩:=Yw h0
 obtain ⟨z12,h0⟩:=Yw h0
 obtain ⟨z13,h0⟩:=Yw h0
 obtain ⟨z14,h0⟩:=Yw h0
 obtain ⟨z15,h0⟩:=Yw h0
 have z2:=within_iff.1 (Vr z2 (by decide))
 have z3:=of_decide_eq_true (Vr z3 (by decide))
 have z6:=Vr z6 (by decide)
 have z7:=of_decide_eq_true (Vr z7 (by decide))
 have z10:=Vr z10 (by decide)
 have z11:=of_decide_eq_true (Vr z11 (by decide))
 have z12:=of_decide_eq_true (Vr z12 (by decide))
 have z14:=of_decide_eq_true (Vr z14 (by decide))
 simp only [Qc,decide_eq_true_eq] at z6
 have hb:Zjz h.cs:=Zjt z8
 have hwc:h.ws.length=h.cs.length:=by omega
 have hst:Uu h.cs:=Zho hb hwc z9
 have hfl:¬(Zw h.fl 0 h.ms<0) /\ ¬(Zw h.ce 0 h.ms<0):=by
  change Zc9 h=0 at z5
  unfold Zc9 at z5
  split at z5
  ·cases z5
  ·rename_i hx
   simp only [Qx,decide_eq_true_eq,not_or] at hx
   exact hx
 refine ⟨rfl,⟨by omega,by omega,hwc,by omega,by omega,by omega⟩,z2,?_,?_,?_,hb,hst,?_,by rw [Zj9]; exact z11,?_,?_,?_⟩
 ·intro m hm
  obtain ⟨i,hi,rfl⟩:=List.mem_iff_getElem.1 hm
  have:=Zbf (n:=h.ms.length) _ 0 rfl z4 i (Qk _) hi
  unfold Zje at this
  rw [Qi hi] at this
  change mErr h i h.ms[i]=0 at this
  unfold mErr at this
  unfold Xx
  split at this
  ·split at this
   ·cases this
   ·split at this
    ·rename_i hx
     rw [if_pos (by simp only [Qc] at hx ⊢; simp [hx])]
    ·cases this
  ·cases this
 ·have:=mt (Zas h.fl h.ms 0).2 hfl.1; exact Lf.1 this
 ·have:=mt (Zas h.ce h.ms 0).2 hfl.2; exact Lf.1 this
 ·rw [Zkd hst (by omega) hk.f.2.1]; exact z10
 ·intro i hi
  have:=Zbf (n:=h.ws.length) _ 0 rfl z9 i (Qk _) hi
  unfold Uw at this
  rw [Qi hi] at this
  exact this
 ·intro i hi
  have:=Zbf (n:=h.ks.length) _ 0 rfl z13 i (Qk _) hi
  unfold Zbq at this
  rw [Qi hi] at this
  exact this
 ·intro i hi
  have:=Zbf (n:=h.ss.length) _ 0 rfl z15 i (Qk _) hi
  unfold Zbl at this
  rw [Qi hi] at this
  exact this
noncomputable def kS (h:Hal):PC:=ins 73 (one [h.av] ⟨.tup [h.av,I h.err],[]⟩) kQ2
theorem Yb8 {h:Hal} (hk:h.ok):PCOK Tryz.prog (kS h):=Zi (c76 hk) Zom
end Go.Proofs.YtkmjliccopgocaaGreat
namespace Go.En
def tot:List Int->Int
 | []=>0
 | x::l=>x+tot l
def above (n:Int):Int:=(n+999) / 1000
def addP (kept:Int):List Int->List Int->List Int
 | s::row,o::out=>(o+kept*s / 1000)::addP kept row out
 | _,out=>out
def gsum (kept:Int):List Int->Int
 | []=>0
 | s::row=>kept*s / 1000+gsum kept row
def Za3:List Int->Nat->Int->List Int
 | [],_,_=>[]
 | o::out,0,x=>(o+x)::out
 | o::out,i+1,x=>o::Za3 out i x
def lmax:Int->List Int->Int
 | m,[]=>m
 | m,x::l=>lmax (max m x) l
def Zjk:Nat->Int->Nat->List Int->Nat
 | b,_,_,[]=>b
 | b,m,i,x::l=>if m<x then Zjk i x (i+1) l else Zjk b m (i+1) l
def imax:List Int->Nat
 | []=>0
 | x::l=>Zjk 0 x 1 l
def stepG:List (List Int)->List Int->List Int->List Int->Int->List Int × Int
 | row::rows,L::ls,n::e,out,all=>stepG rows ls e (Za3 (addP (n-above (n*L)) row out) (imax row) (n-above (n*L)-gsum (n-above (n*L)) row)) (all+above (n*L))
 | _,_,_,out,all=>(out,all)
def zer (n:Nat):List Int:=List.replicate n 0
def step (rows:List (List Int)) (ls e:List Int):List Int × Int:=stepG rows ls e (zer e.length) 0
def run (rows:List (List Int)) (ls:List Int):Nat->List Int->List Int × Int
 | 0,e=>(e,0)
 | k+1,e=>((run rows ls k (step rows ls e).1).1,(step rows ls e).2+(run rows ls k (step rows ls e).1).2)
structure ExOk (n:Nat) (rows:List (List Int)) (ls:List Int):Prop where
 pos:0<n
 rl:rows.length=n
 ll:ls.length=n
 row:∀ r∈rows,r.length=n/\(∀ s∈r,0<=s/\s<=1000)/\tot r=1000
 lost:∀ x∈ls,0<=x/\x<=1000
def Nn (l:List Int):Prop:=∀ x∈l,0<=x
theorem Ze6:∀ {l:List Int},Nn l->0<=tot l
 | [],_=>by simp [tot]
 | x::l,h=>by
  have h1:=h x (by simp)
  have h2:=Ze6 (l:=l) fun y hy=>h y (by simp [hy])
  simp only [tot]; omega
theorem Zr9:∀ {l:List Int},Nn l->∀ x∈l,x<=tot l
 | [],_,x,hx=>by simp at hx
 | y::l,h,x,hx=>by
  have h1:=h y (by simp)
  have hn:Nn l:=fun z hz=>h z (by simp [hz])
  have h2:=Ze6 hn
  simp only [tot]
  rcases Qv.1 hx with rfl|hx
  ·omega
  ·have:=Zr9 hn x hx; omega
theorem Zxs (n:Nat):tot (zer n)=0:=by
 unfold zer
 induction n with
 | zero=>rfl
 | succ n ih=>rw [List.replicate_succ,tot,ih]; rfl
theorem Zzg (n:Nat):Nn (zer n):=by
 intro x hx
 have:=List.eq_of_mem_replicate hx
 omega
theorem Zpi {n L:Int} (h0:0<=n) (h1:0<=L) (h2:L<=1000):0<=above (n*L)/\above (n*L)<=n:=by
 have a:=Rb h0 h1
 have b:n*L<=n*1000:=Rm h2 h0
 unfold above
 omega
theorem Zrv {k s:Int} (h0:0<=k) (h1:0<=s):0<=k*s / 1000:=Int.ediv_nonneg (Rb h0 h1) (by omega)
theorem Zjy (kept:Int):∀ (row out:List Int),(addP kept row out).length=out.length
 | [],out=>by simp [addP]
 | _::_,[]=>by simp [addP]
 | s::row,o::out=>by simp only [addP,Ra]; rw [Zjy kept row out]
theorem Zpe (kept:Int):∀ (row out:List Int),row.length=out.length->tot (addP kept row out)=tot out+gsum kept row
 | [],[],_=>by simp [addP,tot,gsum]
 | s::row,o::out,h=>by
  simp only [addP,tot,gsum]
  rw [Zpe kept row out (by simpa using h)]; omega
 | [],_::_,h=>by simp at h
 | _::_,[],h=>by simp at h
theorem Zuc {kept:Int} (hk:0<=kept):∀ {row out:List Int},(∀ s∈row,0<=s/\s<=1000)->Nn out->Nn (addP kept row out)
 | [],out,_,h=>by simpa [addP] using h
 | _::_,[],_,h=>by simpa [addP] using h
 | s::row,o::out,hr,h=>by
  intro x hx
  simp only [addP] at hx
  rcases Qv.1 hx with rfl|hx
  ·have:=h o (by simp)
   have:=Zrv hk (hr s (by simp)).1
   omega
  ·exact Zuc hk (fun s hs=>hr s (by simp [hs])) (fun y hy=>h y (by simp [hy])) x hx
theorem Zm3 {kept:Int} (hk:0<=kept):∀ {row:List Int},(∀ s∈row,0<=s/\s<=1000)->0<=gsum kept row/\1000*gsum kept row<=kept*tot row/\kept*tot row<=1000*gsum kept row+999*row.length
 | [],_=>by simp [gsum,tot]
 | s::row,h=>by
  obtain ⟨h1,h2,h3⟩:=Zm3 hk (row:=row) fun x hx=>h x (by simp [hx])
  have h0:=Zrv hk (h s (by simp)).1
  simp only [gsum,tot,Ra]
  rw [Oz kept]
  generalize kept*s=a at *
  generalize kept*tot row=b at *
  omega
theorem Zmg:∀ (l:List Int) (i:Nat) (x:Int),(Za3 l i x).length=l.length
 | [],_,_=>rfl
 | o::out,0,x=>rfl
 | o::out,i+1,x=>by simp only [Za3,Ra]; rw [Zmg out i x]
theorem Zme:∀ {l:List Int} {i:Nat} (x:Int),i<l.length->tot (Za3 l i x)=tot l+x
 | [],i,x,h=>by simp at h
 | o::out,0,x,_=>by simp only [Za3,tot]; omega
 | o::out,i+1,x,h=>by
  simp only [Za3,tot]
  rw [Zme x (by simpa using h)]; omega
theorem Zpf {x:Int} (hx:0<=x):∀ {l:List Int} {i:Nat},Nn l->Nn (Za3 l i x)
 | [],_,h=>by simpa [Za3] using h
 | o::out,0,h=>by
  intro y hy
  simp only [Za3] at hy
  rcases Qv.1 hy with rfl|hy
  ·have:=h o (by simp); omega
  ·exact h y (by simp [hy])
 | o::out,i+1,h=>by
  intro y hy
  simp only [Za3] at hy
  rcases Qv.1 hy with rfl|hy
  ·exact h y (by simp)
  ·exact Zpf hx (fun z hz=>h z (by simp [hz])) y hy
theorem Zjj:∀ (l:List Int) (b:Nat) (m:Int) (i:Nat),b<i->Zjk b m i l<i+l.length
 | [],b,m,i,h=>by simpa [Zjk] using h
 | x::l,b,m,i,h=>by
  rw [Zjk,Ra]
  split
  ·have:=Zjj l i x (i+1) (by omega); omega
  ·have:=Zjj l b m (i+1) (by omega); omega
theorem imax_lt {l:List Int} (h:0<l.length):imax l<l.length:=by
 cases l with
 | nil=>simp at h
 | cons x l =>
  have:=Zjj l 0 x 1 (by omega)
  simp only [imax,Ra]; omega
section
variable {n:Nat}
structure StepOk (n:Nat) (e out:List Int) (all:Int) (r:List Int × Int):Prop where
 len:r.1.length=n
 nn:Nn r.1
 al:all<=r.2
 sum:tot r.1+r.2=tot out+all+tot e
theorem Zn0 (hn:0<n):∀ {rows:List (List Int)} {ls e out:List Int} {all:Int},rows.length=e.length->ls.length=e.length->(∀ r∈rows,r.length=n/\(∀ s∈r,0<=s/\s<=1000)/\tot r=1000)->(∀ x∈ls,0<=x/\x<=1000)->Nn e->out.length=n->Nn out->StepOk n e out all (stepG rows ls e out all)
 | [],[],[],out,all,_,_,_,_,_,ho,hno=>⟨ho,hno,Ob _,by simp [stepG,tot]⟩
 | row::rows,L::ls,x::e,out,all,h1,h2,hr,hl,he,ho,hno=>by
  obtain ⟨r1,r2,r3⟩:=hr row (by simp)
  obtain ⟨l1,l2⟩:=hl L (by simp)
  have hx:=he x (by simp)
  obtain ⟨a1,a2⟩:=Zpi hx l1 l2
  rw [stepG]
  generalize above (x*L)=a at *
  have hk:0<=x-a:=by omega
  obtain ⟨g1,g2,g3⟩:=Zm3 hk r2
  rw [r3] at g2 g3
  have hlen:(addP (x-a) row out).length=n:=by rw [Zjy,ho]
  have hi:imax row<(addP (x-a) row out).length:=by rw [hlen,<-r1]; exact imax_lt (by omega)
  have hl1:(Za3 (addP (x-a) row out) (imax row) (x-a-gsum (x-a) row)).length=n:=by rw [Zmg,hlen]
  have hl2:Nn (Za3 (addP (x-a) row out) (imax row) (x-a-gsum (x-a) row)):=Zpf (by omega) (Zuc hk r2 hno)
  have ih:=Zn0 hn (all:=all+a) (by simpa using h1) (by simpa using h2) (fun r hr'=>hr r (by simp [hr'])) (fun y hy=>hl y (by simp [hy])) (fun y hy=>he y (by simp [hy])) hl1 hl2
  refine ⟨ih.len,ih.nn,by have:=ih.al; omega,?_⟩
  rw [ih.sum,Zme _ hi,Zpe _ _ _ (by rw [r1,ho])]
  simp only [tot]
  omega
 | [],_::_,[],_,_,_,h,_,_,_,_,_=>by simp at h
 | _::_,_,[],_,_,h,_,_,_,_,_,_=>by simp at h
 | [],_,_::_,_,_,h,_,_,_,_,_,_=>by simp at h
 | _::_,[],_::_,_,_,_,h,_,_,_,_,_=>by simp at h
variable {rows:List (List Int)} {ls e:List Int}
theorem Zi1 (h:ExOk n rows ls) (he:e.length=n) (hn:Nn e):StepOk n e (zer e.length) 0 (step rows ls e) :=
 Zn0 h.pos (by rw [h.rl,he]) (by rw [h.ll,he]) h.row h.lost hn (by unfold zer; rw [List.length_replicate,he]) (Zzg _)
theorem Znz (h:ExOk n rows ls) (he:e.length=n) (hn:Nn e):tot (step rows ls e).1+(step rows ls e).2=tot e:=by
 have:=(Zi1 h he hn).sum
 rw [Zxs] at this
 omega
theorem Zra (h:ExOk n rows ls) (he:e.length=n) (hn:Nn e):0<=(step rows ls e).2/\tot (step rows ls e).1<=tot e:=by
 have a:=(Zi1 h he hn).al
 have b:=Znz h he hn
 omega
theorem Zid (h:ExOk n rows ls):∀ (k:Nat) {e:List Int},e.length=n->Nn e->(run rows ls k e).1.length=n/\Nn (run rows ls k e).1/\0<=(run rows ls k e).2/\tot (run rows ls k e).1+(run rows ls k e).2=tot e
 | 0,e,he,hn=>⟨he,hn,Ob _,by simp [run]⟩
 | k+1,e,he,hn=>by
  have s:=Zi1 h he hn
  have t:=Znz h he hn
  have u:=Zra h he hn
  obtain ⟨r1,r2,r3,r4⟩:=Zid h k s.len s.nn
  rw [run]
  exact ⟨r1,r2,by dsimp only; omega,by dsimp only; omega⟩
theorem Zrq:∀ (a b:Nat) (e:List Int),run rows ls (a+b) e=((run rows ls b (run rows ls a e).1).1,(run rows ls a e).2+(run rows ls b (run rows ls a e).1).2)
 | 0,b,e=>by simp [run]
 | a+1,b,e=>by
  rw [show a+1+b=(a+b)+1 by omega,run,Zrq a b,run]
  dsimp only
  rw [Int.add_assoc]
theorem Zn3 (k:Nat) (e:List Int):run rows ls (k+1) e=((step rows ls (run rows ls k e).1).1,(run rows ls k e).2+(step rows ls (run rows ls k e).1).2):=by
 rw [Zrq k 1 e]
 simp [run]
end
def Zjg:List Int->List Int->Int
 | L::ls,x::e=>above (x*L)+Zjg ls e
 | _,_=>0
theorem Zkc:∀ {rows:List (List Int)} {ls e out:List Int} {all:Int},rows.length=e.length->ls.length=e.length->(stepG rows ls e out all).2=all+Zjg ls e
 | [],[],[],out,all,_,_=>by simp [stepG,Zjg]
 | row::rows,L::ls,x::e,out,all,h1,h2=>by
  rw [stepG,Zkc (by simpa using h1) (by simpa using h2),Zjg]; omega
 | [],_::_,[],_,_,_,h=>by simp at h
 | _::_,_,[],_,_,h,_=>by simp at h
 | [],_,_::_,_,_,h,_=>by simp at h
 | _::_,[],_::_,_,_,_,h=>by simp at h
theorem Zoe {least most:Int} (h0:0<=least):∀ {ls e:List Int},ls.length=e.length->Nn e->(∀ x∈ls,least<=x/\x<=most)->tot e*least<=1000*Zjg ls e/\1000*Zjg ls e<=tot e*most+999*e.length
 | [],[],_,_,_=>by simp [Zjg,tot]
 | L::ls,x::e,hl,hn,h=>by
  obtain ⟨h1,h2⟩:=Zoe h0 (ls:=ls) (e:=e) (by simpa using hl) (fun y hy=>hn y (by simp [hy])) fun y hy=>h y (by simp [hy])
  obtain ⟨g1,g2⟩:=h L (by simp)
  have hx:=hn x (by simp)
  have a1:x*least<=x*L:=Rm g1 hx
  have a2:x*L<=x*most:=Rm g2 hx
  simp only [Zjg,tot,Ra]
  rw [Jc,Jc]
  unfold above
  generalize x*L=p at *
  generalize x*least=q at *
  generalize x*most=r at *
  generalize tot e*least=u at *
  generalize tot e*most=v at *
  omega
 | [],_::_,h,_,_=>by simp at h
 | _::_,[],h,_,_=>by simp at h
end Go.En
namespace Go.En
structure Ech where
 su:List Int
 dl:Int
 dh:Int
 el:Int
 eh:Int
end Go.En
namespace Go.En
def shr (n:Int):Bool:=decide (0<=n)&&decide (n<=1000)
def rowE (n:Nat) (row:List Int) (l:Int):Int:=if row.length=n then (if row.all shr then (if tot row=1000 then (if shr l then 0 else 2) else 21) else 2) else 10
def exGo (n:Nat):Nat->List (List Int)->List Int->Int × Int
 | i,row::rows,l::ls=>if rowE n row l=0 then exGo n (i+1) rows ls else (i,rowE n row l)
 | _,_,_=>(0,0)
def exV (rows:List (List Int)) (ls:List Int):Int × Int:=if rows.length=0 then (0,10) else if 12<rows.length then (0,8) else if ls.length=rows.length then exGo rows.length 0 rows ls else (0,10)
theorem shr_iff {n:Int}:shr n=true↔0<=n/\n<=1000:=by simp [shr]
theorem Zrr {n:Nat} {row:List Int} {l:Int} (h:rowE n row l=0):(row.length=n/\(∀ s∈row,0<=s/\s<=1000)/\tot row=1000)/\0<=l/\l<=1000:=by
 unfold rowE at h
 split at h
 ·rename_i h1
  split at h
  ·rename_i h2
   split at h
   ·rename_i h3
    split at h
    ·rename_i h4
     rw [Qs] at h2
     exact ⟨⟨h1,fun s hs=>shr_iff.1 (h2 s hs),h3⟩,shr_iff.1 h4⟩
    ·cases h
   ·cases h
  ·cases h
 ·cases h
theorem Zlu {n:Nat}:∀ {rows:List (List Int)} {ls:List Int} {i:Nat},ls.length=rows.length->(exGo n i rows ls).2=0->(∀ r∈rows,r.length=n/\(∀ s∈r,0<=s/\s<=1000)/\tot r=1000)/\(∀ x∈ls,0<=x/\x<=1000)
 | [],[],_,_,_=>⟨by simp,by simp⟩
 | row::rows,l::ls,i,hl,h=>by
  rw [exGo] at h
  split at h
  ·rename_i h1
   obtain ⟨g1,g2⟩:=Zrr h1
   obtain ⟨k1,k2⟩:=Zlu (i:=i+1) (by simpa using hl) h
   exact ⟨fun r hr=>by rcases Qv.1 hr with rfl|hr; exact g1; exact k1 r hr,fun x hx=>by rcases Qv.1 hx with rfl|hx; exact g2; exact k2 x hx⟩
  ·rename_i h1; exact absurd h h1
 | [],_::_,_,hl,_=>by simp at hl
 | _::_,[],_,hl,_=>by simp at hl
theorem Zvq {rows:List (List Int)} {ls:List Int} (h:(exV rows ls).2=0):ExOk rows.length rows ls/\rows.length<=12:=by
 unfold exV at h
 split at h
 ·cases h
 ·rename_i h1
  split at h
  ·cases h
  ·rename_i h2
   split at h
   ·rename_i h3
    obtain ⟨g1,g2⟩:=Zlu h3 h
    exact ⟨⟨by omega,rfl,h3,g1,g2⟩,by omega⟩
   ·cases h
def enE (n:Nat) (e:List Int):Int:=if e.length=n then (if e.all fun x=>decide (0<=x)&&decide (x<=1000000000000) then 0 else 2) else 10
theorem Zvw {n:Nat} {e:List Int} (h:enE n e=0):e.length=n/\∀ x∈e,0<=x/\x<=1000000000000:=by
 unfold enE at h
 split at h
 ·rename_i h1
  split at h
  ·rename_i h2
   rw [Qs] at h2
   exact ⟨h1,fun x hx=>by have:=h2 x hx; simp only [Qc,decide_eq_true_eq] at this; exact this⟩
  ·cases h
 ·cases h
theorem Zwo {M:Int}:∀ {l:List Int},(∀ x∈l,0<=x/\x<=M)->0<=tot l/\tot l<=M*l.length
 | [],_=>by simp [tot]
 | x::l,h=>by
  have ih:=Zwo (l:=l) fun y hy=>h y (by simp [hy])
  have h0:=h x (by simp)
  simp only [tot,Ra]
  rw [show M*((l.length+1:Nat):Int)=M*l.length+M by rw [Mi,Oz]; simp]
  omega
end Go.En

namespace Go.Proofs.YtkmjliccopgocaaGreat
open Go Go.Sx Go.En
theorem d101 (n lo hi:Int):PCall Tryz.prog 31 [I n,I lo,I hi] ⟨Bo (within n lo hi),[]⟩:=by
 refine pn Zf Tryz.func31 ?_
 repeat'(first|refine wk0 ?_|(refine wk2 ?_ ?_<;>intro _)|fail)
 all_goals exact Zc (by simp_all [within]<;>omega)
theorem d103 (b:Bool) (e:Int):PCall Tryz.prog 30 [Bo b,I e] ⟨I (unl b e),[]⟩:=by
 refine pn Zf Tryz.func30 ?_
 repeat'(first|refine wk0 ?_|(refine wk2 ?_ ?_<;>intro _)|fail)
 all_goals exact Zb (by simp_all [unl])
def rW:List AV->Option PRes
 | [.int .i64 n,.int .i64 lo,.int .i64 hi]=>some ⟨Bo (within n lo hi),[]⟩
 | _=>none
def rU:List AV->Option PRes
 | [.bool b,.int .i64 e]=>some ⟨I (unl b e),[]⟩
 | _=>none
def kY1:PC:=ins 7 rW (ins 31 rW (ins 30 rU pt0))
theorem Zwz:PCOK Tryz.prog kY1:=by
 refine Zj (fun a res h=>?_) (Zj (fun a res h=>?_) (Zj (fun a res h=>?_) Zf))
 ·unfold rW at h; split at h<;>cases h; exact c30 _ _ _
 ·unfold rW at h; split at h<;>cases h; exact d101 _ _ _
 ·unfold rU at h; split at h<;>cases h; exact d103 _ _
abbrev ev (x:Ech):List AV:=[.isl 1 (nl x.su),I x.dl,I x.dh,I x.el,I x.eh]
end Go.Proofs.YtkmjliccopgocaaGreat
namespace Go.En
theorem Zmf {x:Int}:∀ {l:List Int} {i:Nat} (h:i<l.length),Za3 l i x=l.set i (l[i]+x)
 | [],_,h=>by simp at h
 | o::l,0,_=>rfl
 | o::l,i+1,h=>by
  simp only [Za3,List.set_cons_succ,List.getElem_cons_succ]
  rw [Zmf (by simpa using h)]
def addQ (w:Int->Int) (p:Int->Int):List Int->List Int->List Int
 | s::row,o::out=>w (o+p s)::addQ w p row out
 | _,out=>out
theorem Zua (w p:Int->Int) {row out:List Int} {k:Nat} (h1:k<row.length) (h2:k<out.length) :
  out.take k++addQ w p (row.drop k) (out.drop k)=(out.set k (w (out[k]+p row[k]))).take (k+1)++addQ w p (row.drop (k+1)) ((out.set k (w (out[k]+p row[k]))).drop (k+1)):=by
 rw [Qg h1,Qg h2,addQ,List.drop_set_of_lt (by omega),List.take_add_one,List.take_set_of_le (Qd _)]
 simp [h2]
def sumQ (w p:Int->Int):Int->List Int->Int
 | n,[]=>n
 | n,s::row=>sumQ w p (w (n-p s)) row
def fidx (v:Int):List Int->Nat
 | []=>0
 | x::l=>if x=v then 0 else fidx v l+1
theorem Zmw:∀ (l:List Int) (m:Int),m<=lmax m l
 | [],_=>Ob _
 | x::l,m=>by
  rw [lmax]
  have:=Zmw l (max m x)
  omega
theorem Zex:∀ (l:List Int) (b:Nat) (m:Int) (i:Nat),Zjk b m i l=if lmax m l=m then b else i+fidx (lmax m l) l
 | [],b,m,i=>by simp [Zjk,lmax]
 | x::l,b,m,i=>by
  rw [Zjk,lmax,fidx]
  split
  ·rename_i h
   have hm:max m x=x:=by omega
   have hg:=Zmw l x
   rw [hm,if_neg (by omega),Zex l i x (i+1)]
   by_cases e:lmax x l=x
   ·rw [if_pos e,if_pos (by omega)]; rfl
   ·rw [if_neg e,if_neg (by omega)]; omega
  ·rename_i h
   have hm:max m x=m:=by omega
   have hg:=Zmw l m
   rw [hm,Zex l b m (i+1)]
   by_cases e:lmax m l=m
   ·rw [if_pos e,if_pos e]
   ·rw [if_neg e,if_neg e,if_neg (by omega)]; omega
theorem Zsp (x:Int) (l:List Int):imax (x::l)=fidx (lmax x l) (x::l):=by
 rw [imax,Zex,fidx]
 by_cases e:lmax x l=x
 ·rw [if_pos e,if_pos e.symm]
 ·rw [if_neg e,if_neg (fun h=>e h.symm)]; omega
theorem Zub {w p:Int->Int} {kept M:Int}:∀ {row out:List Int},(∀ s∈row,p s=kept*s / 1000/\0<=p s/\p s<=M)->(∀ o∈out,0<=o/\o<=4000000000000000000-M)->(∀ n,0<=n->n<=4000000000000000000->w n=n)->addQ w p row out=addP kept row out
 | s::row,o::out,h,ho,hw=>by
  have h0:=h s (by simp)
  have o0:=ho o (by simp)
  rw [addQ,addP,hw _ (by omega) (by omega),h0.1,Zub (fun s hs=>h s (by simp [hs])) (fun o h=>ho o (by simp [h])) hw]
 | [],_,_,_,_=>by simp [addQ,addP]
 | _::_,[],_,_,_=>by simp [addQ,addP]
theorem Zud {kept M:Int}:∀ {row out:List Int},(∀ s∈row,0<=kept*s / 1000/\kept*s / 1000<=M)->0<=M->∀ B,(∀ o∈out,0<=o/\o<=B)->∀ o∈addP kept row out,0<=o/\o<=B+M
 | s::row,o::out,h,hM,B,ho=>by
  intro y hy
  simp only [addP] at hy
  have h0:=h s (by simp)
  have o0:=ho o (by simp)
  rcases Qv.1 hy with rfl|hy
  ·omega
  ·exact Zud (fun s hs=>h s (by simp [hs])) hM B (fun o h=>ho o (by simp [h])) y hy
 | [],out,_,hM,B,ho=>by
  intro y hy
  simp only [addP] at hy
  have:=ho y hy; omega
 | _::_,[],_,hM,B,ho=>by
  intro y hy
  simp [addP] at hy
theorem Zpg {x M:Int} (h:0<=x/\x<=M) {B:Int}:∀ {l:List Int} {i:Nat},(∀ o∈l,0<=o/\o<=B)->∀ o∈Za3 l i x,0<=o/\o<=B+M
 | [],_,_=>by intro y hy; simp [Za3] at hy
 | o::l,0,ho=>by
  intro y hy
  simp only [Za3] at hy
  rcases Qv.1 hy with rfl|hy
  ·have:=ho o (by simp); omega
  ·have:=ho y (by simp [hy]); omega
 | o::l,i+1,ho=>by
  intro y hy
  simp only [Za3] at hy
  rcases Qv.1 hy with rfl|hy
  ·have:=ho y (by simp); omega
  ·exact Zpg h (fun o h=>ho o (by simp [h])) y hy
theorem Zq8 {w p:Int->Int} {kept M:Int}:∀ {row:List Int} {n:Int},(∀ s∈row,p s=kept*s / 1000/\0<=p s/\p s<=M) -> -1000000000000000000+M*row.length<=n->n<=4000000000000000000->(∀ n,-1000000000000000000<=n->n<=4000000000000000000->w n=n)->sumQ w p n row=n-gsum kept row
 | [],n,_,_,_,_=>by simp [sumQ,gsum]
 | s::row,n,h,h1,h2,hw=>by
  have h0:=h s (by simp)
  rw [Ra,show M*((row.length+1:Nat):Int)=M*row.length+M by rw [Mi,Oz]; simp] at h1
  have hM:0<=M*row.length:=Rb (by omega) (by omega)
  rw [sumQ,hw _ (by omega) (by omega),Zq8 (fun s hs=>h s (by simp [hs])) (by omega) (by omega) hw,gsum,h0.1]
  omega
end Go.En
namespace Go.Proofs.YtkmjliccopgocaaGreat
open Go Go.Sx Go.En
def badI (lo hi:Int):Nat->List Int->Int
 | _,[]=>-1
 | i,m::l=>if within m lo hi then badI lo hi (i+1) l else i
theorem Zjv (lo hi:Int):∀ (l:List Int) (i:Nat),decide (0<=badI lo hi i l) = !(l.all fun n=>within n lo hi)
 | [],_=>rfl
 | m::l,i=>by
  rw [badI,List.all_cons]
  cases h:within m lo hi with
  | true=>rw [if_pos rfl,Td]; exact Zjv lo hi l _
  | false=>rw [if_neg (by simp),Bool.false_and,decide_eq_true (by omega)]; rfl
theorem d100 (n:Int):PCall Tryz.prog 106 [I n] ⟨Bo (within n 0 1000),[]⟩:=by
 refine pn Zwz Tryz.func106 ?_
 repeat'(first|refine wk3 ?_|(refine wk2 ?_ ?_<;>intro _)|fail)
 all_goals exact Zc rfl
def r100:List AV->Option PRes
 | [.int .i64 n]=>some ⟨Bo (within n 0 1000),[]⟩
 | _=>none
def kX0:PC:=ins 106 r100 kY1
theorem Zin:PCOK Tryz.prog kX0:=by
 refine Zj (fun a res h=>?_) Zwz
 unfold r100 at h; split at h<;>cases h; exact d100 _
theorem d106 (n:Int):PCall Tryz.prog 109 [I n,.ipt [.func 106 [] []]] ⟨Bo (!within n 0 1000),[]⟩:=by
 refine pn Zin Tryz.func109 ?_
 repeat'(first|refine wk3 ?_|(refine wk2 ?_ ?_<;>intro _)|fail)
 all_goals exact Zc rfl
def r106:List AV->Option PRes
 | [.int .i64 n,.ipt [.func 106 [] []]]=>some ⟨Bo (!within n 0 1000),[]⟩
 | _=>none
def Yb6:PC:=ins 109 r106 kX0
theorem Zoj:PCOK Tryz.prog Yb6:=by
 refine Zj (fun a res h=>?_) Zin
 unfold r106 at h; split at h<;>cases h; exact d106 _
theorem Zv4 {ns:List Int} (hl:ns.length<1000000):PCall Tryz.prog 84 [.isl 1 (nl ns),.func 109 [] [.ipt [.func 106 [] []]]] ⟨I (badI 0 1000 0 ns),[]⟩:=by
 have e3:=Ze ns
 refine pn Zoj Tryz.func84 ?_
 repeat'(first|refine wk3 ?_|(refine wk2 ?_ ?_<;>intro _)|fail)
 refine Zo (S:=Nat × Int) (fun t=>ns.length-t.1) (fun t=>[(0,.isl 1 (nl ns)),(1,.func 109 [] [.ipt [.func 106 [] []]]),(7,I (nl ns).length),(8,I t.2)]) (fun _=>[]) 0 0 (fun t=>t.2=t.1/\t.1<=ns.length/\badI 0 1000 t.1 (ns.drop t.1)=badI 0 1000 0 ns) (0,0) ⟨rfl,Qk _,rfl⟩ (Qd _) [] rfl (kps) (kps) ?_
 rintro ⟨k,i⟩ ⟨hi,hk,hh⟩
 dsimp only at hi hk hh ⊢
 subst hi
 generalize badI 0 1000 0 ns=R at *
 refine bs.av (sx:=nos) Zoj ?_
 by_cases hlt:k<ns.length
 ·have e1:=Yz hlt
  rw [Qg hlt,badI] at hh
  generalize ns[k]=x at *
  generalize hb:within x 0 1000=b at *
  cases b
  ·rw [if_neg (by simp)] at hh
   repeat'(first|refine wk3 ?_|(refine wk2 ?_ ?_<;>intro _)|fail)
   all_goals first
    | exact Zb hh
    | (exfalso; simp_all; done)
  ·rw [if_pos rfl] at hh
   repeat'(first|refine wk3 ?_|(refine wk2 ?_ ?_<;>intro _)|fail)
   all_goals first
    | exact Qr ⟨(k+1,_),[],rfl,kps,kps,⟨Zg (by omega),hlt,hh⟩,by dsimp only; omega⟩
    | (exfalso; simp_all; done)
 ·rw [Qj (by omega)] at hh
  repeat'(first|refine wk3 ?_|(refine wk2 ?_ ?_<;>intro _)|fail)
  exact Zb hh
theorem Zv6 {ns:List Int} (hl:ns.length<1000000):PCall Tryz.prog 56 [.isl 1 (nl ns),.func 109 [] [.ipt [.func 106 [] []]]] ⟨Bo (!(ns.all fun n=>within n 0 1000)),[]⟩:=by
 refine pn (Zi (Zv4 hl) Zf) Tryz.func56 ?_
 repeat'(first|refine wk0 ?_|(refine wk2 ?_ ?_<;>intro _)|fail)
 exact Zc (Zjv _ _ ns 0)
theorem d175 (n:Int):PCall Tryz.prog 57 [I n] ⟨Bo (!within n 0 1000000000000),[]⟩:=by
 refine pn Zin Tryz.func57 ?_
 repeat'(first|refine wk3 ?_|(refine wk2 ?_ ?_<;>intro _)|fail)
 all_goals exact Zc rfl
def r175:List AV->Option PRes
 | [.int .i64 n]=>some ⟨Bo (!within n 0 1000000000000),[]⟩
 | _=>none
def Yb5:PC:=ins 57 r175 kX0
theorem Zoi:PCOK Tryz.prog Yb5:=by
 refine Zj (fun a res h=>?_) Zin
 unfold r175 at h; split at h<;>cases h; exact d175 _
theorem Zv3 {ns:List Int} (hl:ns.length<1000000):PCall Tryz.prog 84 [.isl 1 (nl ns),.func 57 [] []] ⟨I (badI 0 1000000000000 0 ns),[]⟩:=by
 have e3:=Ze ns
 refine pn Zoi Tryz.func84 ?_
 repeat'(first|refine wk3 ?_|(refine wk2 ?_ ?_<;>intro _)|fail)
 refine Zo (S:=Nat × Int) (fun t=>ns.length-t.1) (fun t=>[(0,.isl 1 (nl ns)),(1,.func 57 [] []),(7,I (nl ns).length),(8,I t.2)]) (fun _=>[]) 0 0 (fun t=>t.2=t.1/\t.1<=ns.length/\badI 0 1000000000000 t.1 (ns.drop t.1)=badI 0 1000000000000 0 ns) (0,0) ⟨rfl,Qk _,rfl⟩ (Qd _) [] rfl (kps) (kps) ?_
 rintro ⟨k,i⟩ ⟨hi,hk,hh⟩
 dsimp only at hi hk hh ⊢
 subst hi
 generalize badI 0 1000000000000 0 ns=R at *
 refine bs.av (sx:=nos) Zoi ?_
 by_cases hlt:k<ns.length
 ·have e1:=Yz hlt
  rw [Qg hlt,badI] at hh
  generalize ns[k]=x at *
  generalize hb:within x 0 1000000000000=b at *
  cases b
  ·rw [if_neg (by simp)] at hh
   repeat'(first|refine wk3 ?_|(refine wk2 ?_ ?_<;>intro _)|fail)
   all_goals first
    | exact Zb hh
    | (exfalso; simp_all; done)
  ·rw [if_pos rfl] at hh
   repeat'(first|refine wk3 ?_|(refine wk2 ?_ ?_<;>intro _)|fail)
   all_goals first
    | exact Qr ⟨(k+1,_),[],rfl,kps,kps,⟨Zg (by omega),hlt,hh⟩,by dsimp only; omega⟩
    | (exfalso; simp_all; done)
 ·rw [Qj (by omega)] at hh
  repeat'(first|refine wk3 ?_|(refine wk2 ?_ ?_<;>intro _)|fail)
  exact Zb hh
theorem Zv5 {ns:List Int} (hl:ns.length<1000000):PCall Tryz.prog 56 [.isl 1 (nl ns),.func 57 [] []] ⟨Bo (!(ns.all fun n=>within n 0 1000000000000)),[]⟩:=by
 refine pn (Zi (Zv3 hl) Zf) Tryz.func56 ?_
 repeat'(first|refine wk0 ?_|(refine wk2 ?_ ?_<;>intro _)|fail)
 exact Zc (Zjv _ _ ns 0)
abbrev flOk (n b:Int):Prop:=0<b /\ -9223372036854775807<=n/\n<=9223372036854775807
def rFl:List AV->Option PRes
 | [.int .i64 n,.int .i64 b]=>asr (decide (flOk n b)) ⟨I (n / b),[]⟩
 | _=>none
def abv (n b:Int):Int:=Qa Qb ((Qa Qb (Qa Qb (n+b)-1)).tdiv b)
theorem Ybm {n:Int} (h0:0<=n) (h1:n<=9000000000000000000):abv n 1000=above n:=by
 unfold abv above
 rw [W_eq (n:=n+1000) (by omega) (by omega),W_eq (n:=n+1000-1) (by omega) (by omega),Int.tdiv_eq_ediv_of_nonneg (by omega),W_eq (by omega) (by omega)]
 congr 1; omega
theorem Ycm {n b:Int} (hb:0<b):PCall Tryz.prog 28 [I n,I b] ⟨I (abv n b),[]⟩:=by
 have hz:¬ b=0:=by omega
 refine pn Zf Tryz.func28 ?_
 repeat'(first|refine wk3 ?_|(refine wk2 ?_ ?_<;>intro _)|fail)
 all_goals exact Zb rfl
def rAb:List AV->Option PRes
 | [.int .i64 n,.int .i64 b]=>asr (decide (0<b)) ⟨I (abv n b),[]⟩
 | _=>none
def sumW:Int->List Int->Int
 | n,[]=>n
 | n,x::l=>sumW (Qa Qb (n+x)) l
theorem Zmn {M:Int}:∀ {l:List Int} {n:Int},(∀ x∈l,0<=x/\x<=M)->0<=n->n+M*l.length<=4000000000000000000->sumW n l=n+tot l
 | [],n,_,_,_=>by simp [sumW,tot]
 | x::l,n,h,h0,h1=>by
  have hx:=h x (by simp)
  rw [Ra,show M*((l.length+1:Nat):Int)=M*l.length+M by rw [Mi,Oz]; simp] at h1
  have hM:0<=M*l.length:=Rb (by omega) (by omega)
  rw [sumW,W_eq (n:=n+x) (by omega) (by omega),Zmn (fun y hy=>h y (by simp [hy])) (by omega) (by omega),tot]
  omega
theorem d108 {ns:List Int} (hl:ns.length<1000000):PCall Tryz.prog 32 [.isl 1 (nl ns)] ⟨I (sumW 0 ns),[]⟩:=by
 have e3:=Ze ns
 refine pn Zf Tryz.func32 ?_
 repeat'(first|refine wk3 ?_|(refine wk2 ?_ ?_<;>intro _)|fail)
 refine Zo (S:=Nat × Int × Int) (fun t=>ns.length-t.1) (fun t=>[(3,I t.2.2),(6,.isl 1 (nl ns)),(7,I (nl ns).length),(8,I t.2.1)]) (fun _=>[]) 0 0 (fun t=>t.2.1=t.1/\t.1<=ns.length/\sumW t.2.2 (ns.drop t.1)=sumW 0 ns) (0,0,0) ⟨rfl,Qk _,rfl⟩ (Qd _) [] rfl (kps) (kps) ?_
 rintro ⟨k,i,s⟩ ⟨hi,hk,hh⟩
 dsimp only at hi hk hh ⊢
 subst hi
 generalize sumW 0 ns=R at *
 refine bs.av (sx:=nos) Zf ?_
 by_cases hlt:k<ns.length
 ·have e1:=Yz hlt
  rw [Qg hlt,sumW] at hh
  repeat'(first|refine wk3 ?_|(refine wk2 ?_ ?_<;>intro _)|fail)
  exact Qr ⟨(k+1,_,_),[],rfl,kps,kps,⟨Zg (by omega),hlt,hh⟩,by dsimp only; omega⟩
 ·rw [Qj (by omega)] at hh
  repeat'(first|refine wk3 ?_|(refine wk2 ?_ ?_<;>intro _)|fail)
  exact Zb hh
theorem d39 {ns:List Int} (hl:ns.length<1000000):PCall Tryz.prog 16 [.isl 1 (nl ns)] ⟨I (sumW 0 ns),[]⟩:=by
 have e3:=Ze ns
 refine pn Zf Tryz.func16 ?_
 conv=>whnf
 refine Zo (S:=Nat × Int × Int) (fun t=>ns.length-t.1) (fun t=>[(0,.isl 1 (nl ns)),(3,I t.2.2),(4,I t.2.1)]) (fun _=>[]) 0 0 (fun t=>t.2.1=t.1/\t.1<=ns.length/\sumW t.2.2 (ns.drop t.1)=sumW 0 ns) (0,0,0) ⟨rfl,Qk _,rfl⟩ (Qd _) [] rfl (kps) (kps) ?_
 rintro ⟨k,i,s⟩ ⟨hi,hk,hh⟩
 dsimp only at hi hk hh ⊢
 subst hi
 generalize sumW 0 ns=R at *
 refine bs.av (sx:=nos) Zf ?_
 by_cases hlt:k<ns.length
 ·have e1:=Yz hlt
  rw [Qg hlt,sumW] at hh
  repeat'(first|refine wk3 ?_|(refine wk2 ?_ ?_<;>intro _)|fail)
  exact Qr ⟨(k+1,_,_),[],rfl,kps,kps,⟨Zg (by omega),hlt,hh⟩,by dsimp only; omega⟩
 ·rw [Qj (by omega)] at hh
  repeat'(first|refine wk3 ?_|(refine wk2 ?_ ?_<;>intro _)|fail)
  exact Zb hh
def mxl:List Int->Int
 | []=>0
 | x::l=>lmax x l
theorem Zxx (a b:Int):Sx.imax a b=max a b:=by
 unfold Sx.imax; by_cases h:a<b<;>simp [h]<;>omega
theorem d134 {ns:List Int} (h0:0<ns.length) (hl:ns.length<1000000):PCall Tryz.prog 60 [.isl 1 (nl ns)] ⟨I (mxl ns),[]⟩:=by
 obtain ⟨x,l,rfl⟩:=Pi h0
 generalize hns:x::l=ns at *
 have e3:=Ze ns
 have e0:(nl ns)[(0:Int).toNat]?=some [I x]:=by rw [<-hns]; rfl
 refine pn Zf Tryz.func60 ?_
 repeat'(first|refine wk3 ?_|(refine wk2 ?_ ?_<;>intro _)|fail)
 refine Zo (S:=Nat × Int × Int) (fun t=>ns.length-t.1) (fun t=>[(0,.isl 1 (nl ns)),(3,I t.2.2),(4,I t.2.1)]) (fun _=>[]) 0 0 (fun t=>t.2.1=t.1/\t.1<=ns.length/\lmax t.2.2 (ns.drop t.1)=mxl ns) (1,1,x) ⟨rfl,h0,by rw [<-hns]; rfl⟩ (Qd _) [] rfl (kps) (kps) ?_
 rintro ⟨k,i,s⟩ ⟨hi,hk,hh⟩
 dsimp only at hi hk hh ⊢
 subst hi
 generalize mxl ns=R at *
 refine bs.av (sx:=nos) Zf ?_
 by_cases hlt:k<ns.length
 ·have e1:=Yz hlt
  rw [Qg hlt,lmax,<-Zxx] at hh
  repeat'(first|refine wk3 ?_|(refine wk2 ?_ ?_<;>intro _)|fail)
  exact Qr ⟨(k+1,_,_),[],rfl,kps,kps,⟨Zg (by omega),hlt,hh⟩,by dsimp only; omega⟩
 ·rw [Qj (by omega)] at hh
  repeat'(first|refine wk3 ?_|(refine wk2 ?_ ?_<;>intro _)|fail)
  exact Zb hh
def idxI (n:Int):Nat->List Int->Int
 | _,[]=>-1
 | i,m::l=>if n=m then i else idxI n (i+1) l
theorem Zoq {n:Int}:∀ {l:List Int} {i:Nat},n∈l->idxI n i l=((i+fidx n l:Nat):Int)
 | [],_,h=>by simp at h
 | m::l,i,h=>by
  rw [idxI,fidx]
  by_cases e:n=m
  ·rw [if_pos e,if_pos e.symm]; rfl
  ·rw [if_neg e,if_neg (fun h=>e h.symm),Zoq (by rcases Qv.1 h with h|h; exact absurd h e; exact h)]
   congr 1; omega
theorem Zof:∀ (l:List Int) (m:Int),lmax m l=m\/lmax m l∈l
 | [],m=>Or.inl rfl
 | x::l,m=>by
  rw [lmax]
  rcases Zof l (max m x) with h|h
  ·rw [h]
   by_cases e:m<x
   ·exact Or.inr (by rw [show max m x=x by omega]; simp)
   ·exact Or.inl (by omega)
  ·exact Or.inr (by simp [h])
theorem Zyr {ns:List Int} (h0:0<ns.length):idxI (mxl ns) 0 ns=(En.imax ns:Int):=by
 obtain ⟨x,l,rfl⟩:=Pi h0
 rw [Zoq,Zsp,Sg]; rfl
 show lmax x l∈x::l
 rcases Zof l x with h|h
 ·rw [h]; simp
 ·simp [h]
theorem d176 {ns:List Int} (hl:ns.length<1000000) (n:Int):PCall Tryz.prog 59 [.isl 1 (nl ns),I n] ⟨I (idxI n 0 ns),[]⟩:=by
 have e3:=Ze ns
 refine pn Zf Tryz.func59 ?_
 repeat'(first|refine wk3 ?_|(refine wk2 ?_ ?_<;>intro _)|fail)
 refine Zo (S:=Nat × Int) (fun t=>ns.length-t.1) (fun t=>[(0,.isl 1 (nl ns)),(1,I n),(7,I (nl ns).length),(8,I t.2)]) (fun _=>[]) 0 0 (fun t=>t.2=t.1/\t.1<=ns.length/\idxI n t.1 (ns.drop t.1)=idxI n 0 ns) (0,0) ⟨rfl,Qk _,rfl⟩ (Qd _) [] rfl (kps) (kps) ?_
 rintro ⟨k,i⟩ ⟨hi,hk,hh⟩
 dsimp only at hi hk hh ⊢
 subst hi
 generalize idxI n 0 ns=R at *
 refine bs.av (sx:=nos) Zf ?_
 by_cases hlt:k<ns.length
 ·have e1:=Yz hlt
  rw [Qg hlt,idxI] at hh
  by_cases e:n=ns[k]
  ·rw [if_pos e] at hh
   repeat'(first|refine wk3 ?_|(refine wk2 ?_ ?_<;>intro _)|fail)
   exact Zb hh
  ·rw [if_neg e] at hh
   repeat'(first|refine wk3 ?_|(refine wk2 ?_ ?_<;>intro _)|fail)
   exact Qr ⟨(k+1,_),[],rfl,kps,kps,⟨Zg (by omega),hlt,hh⟩,by dsimp only; omega⟩
 ·rw [Qj (by omega)] at hh
  repeat'(first|refine wk3 ?_|(refine wk2 ?_ ?_<;>intro _)|fail)
  exact Zb hh
noncomputable abbrev famN (p:List Int->Prop) (r:List Int->PRes):List AV->Option PRes:=famA p (fun ns=>[.isl 1 (nl ns)]) r
theorem Zfy {p:List Int->Prop} (r:List Int->PRes) {ns:List Int} (h:p ns):famN p r [.isl 1 (nl ns)]=some (r ns) :=
 Xb (p:=p) (g:=fun ns=>[.isl 1 (nl ns)]) (r:=r) (fun j hj=>by
  simp only [Rl,Wc,true_and,and_true] at hj
  rw [Zd2 hj]) h
noncomputable abbrev Ya0 (r:List Int->Int->PRes):List AV->Option PRes:=famA (fun p:List Int × Int=>p.1.length<1000000) (fun p=>[.isl 1 (nl p.1),I p.2]) (fun p=>r p.1 p.2)
theorem Ztb (r:List Int->Int->PRes) {ns:List Int} (h:ns.length<1000000) (n:Int):Ya0 r [.isl 1 (nl ns),I n]=some (r ns n) :=
 Xb (p:=fun p:List Int × Int=>p.1.length<1000000) (g:=fun p=>[.isl 1 (nl p.1),I p.2]) (r:=fun p=>r p.1 p.2) (k:=(ns,n)) (fun j hj=>by
  simp only [Rl,Wc,AV.int.injEq,true_and,and_true] at hj
  rw [Zd2 hj.1,hj.2]) h
abbrev Len6 (ns:List Int):Prop:=ns.length<1000000
abbrev Ybp (ns:List Int):Prop:=0<ns.length/\ns.length<1000000
noncomputable abbrev cSum:List AV->Option PRes:=famN Len6 (fun ns=>⟨I (sumW 0 ns),[]⟩)
noncomputable abbrev cMax:List AV->Option PRes:=famN Ybp (fun ns=>⟨I (mxl ns),[]⟩)
noncomputable abbrev cIdx:List AV->Option PRes:=Ya0 (fun ns n=>⟨I (idxI n 0 ns),[]⟩)
noncomputable abbrev cBad (f:Nat) (φ:List AV) (lo hi:Int):List AV->Option PRes:=famA Len6 (fun ns=>[.isl 1 (nl ns),.func f [] φ]) (fun ns=>⟨Bo (!(ns.all fun n=>within n lo hi)),[]⟩)
theorem Zo7 {f:Nat} {φ:List AV} {lo hi:Int} {ns:List Int} (h:ns.length<1000000):cBad f φ lo hi [.isl 1 (nl ns),.func f [] φ]=some ⟨Bo (!(ns.all fun n=>within n lo hi)),[]⟩ :=
 Xb (p:=Len6) (g:=fun ns=>[.isl 1 (nl ns),.func f [] φ]) (r:=fun ns=>⟨Bo (!(ns.all fun n=>within n lo hi)),[]⟩) (fun j hj=>by
  simp only [Rl,Wc,true_and,and_true] at hj
  rw [Zd2 hj]) h
def r36:List AV->Option PRes
 | [.int .i64 n]=>some ⟨I (unl (within n 0 1000) 2),[]⟩
 | _=>none
theorem d112 (n:Int):PCall Tryz.prog 35 [I n] ⟨I (unl (within n 0 1000) 2),[]⟩:=by
 refine pn Zin Tryz.func35 ?_
 repeat'(first|refine wk3 ?_|(refine wk2 ?_ ?_<;>intro _)|fail)
 all_goals exact Zb rfl
noncomputable def kX1:PC:=ins 28 rAb (ins 32 cSum (ins 16 cSum (ins 60 cMax (ins 59 cIdx (ins 35 r36 kX0)))))
theorem Zfe:PCOK Tryz.prog kX1:=by
 refine Zj (fun a res h=>?_) (Ya (fun l h=>d108 h) (Ya (fun l h=>d39 h) (Ya (fun l h=>d134 h.1 h.2) (Ya (fun p h=>d176 h p.2) (Zj (fun a res h=>?_) Zin)))))
 ·unfold rAb at h; split at h
  ·obtain ⟨h1,h2⟩:=Xc h; subst h2; exact Ycm (of_decide_eq_true h1)
  ·cases h
 ·unfold r36 at h; split at h<;>cases h; exact d112 _
end Go.Proofs.YtkmjliccopgocaaGreat
