/- A part of the proof: lemmas. -/
import Derived.Test.YtanbhfpalahjcaaGreatG13
import Derived.Test.YtanbhfpalahjcaaGreatG11
import Derived.Test.YtanbhfpalahjcaaGreatG7
import Derived.Test.YtanbhfpalahjcaaGreatG12
import Derived.Test.YtanbhfpalahjcaaGreatG10
set_option linter.unusedVariables false
set_option linter.unusedSimpArgs false
set_option maxRecDepth 100000
set_option maxHeartbeats 16000000
open Bool renaming and_assoc->Ob,and_eq_true->Qc,eq_iff_iff->Sc,false_and->Nm,false_or->Wr,not_eq_true'->Te,true_and->Tv
open Go.Ge renaming cr->Si
open Go.IntKind renaming i64->Qb,wrap->Qa
open Go.Sx.AV.agg renaming injEq->Pj
open Go.Sx.AV.int renaming injEq->Tt
open Go.Sx.Done renaming mk->Qr
open Int renaming emod_lt_of_pos->Jz,emod_nonneg->Fa,gcd->Ov,gcd_comm->Qaf,le_of_lt->Qg,lt_of_mul_lt_mul_left->Sd,lt_or_eq_of_le->Pc,lt_trichotomy->We,mul_comm->Rl,mul_ediv_add_emod->Kq,mul_eq_zero->Wv,mul_le_mul_of_nonneg_left->Qw,mul_le_mul_of_nonneg_right->Qk,mul_lt_mul_of_pos_left->Rn,mul_lt_mul_of_pos_right->Wb,mul_neg->Rp,mul_nonneg->Qq,mul_one->Rw,mul_pos->Qv,mul_tdiv_cancel'->Fz,mul_tdiv_cancel_left->Ma,mul_zero->Sb,natAbs_eq_natAbs_iff->Hz,natAbs_mul->Jx,neg_mul->Tq,one_mul->Sj,toNat_natCast->Ri
open List renaming all_cons->Lg,drop_eq_getElem_cons->Ql,drop_of_length_le->Qo,getD_eq_getElem?_getD->Pd,getElem?_eq_getElem->Qe,getElem_mem->Qn,getElem_of_mem->Wo,mem_cons->Ra,mem_filter->Nb,not_mem_nil->Kx,pairwise_iff_getElem->Tj
open List.cons renaming inj->Ws,injEq->Rd
open Nat renaming dvd_antisymm->Qao,eq_zero_or_pos->Oj,gcd->Oe,gcd_dvd_right->Qae,le_refl->Qd,lt_or_ge->Wh,lt_trichotomy->Kh,mod_eq_of_lt->Oi,mod_lt->Tx,mod_self->Kk,zero_le->Qp
open Prod renaming ext->Tk
namespace Go.Proofs.YtanbhfpalahjcaaGreat
open Go Go.Sx
def g4 (p:Pt):Nat:=Oe (Oe p.x.natAbs p.y.natAbs) (Oe p.z.natAbs p.d.natAbs)
structure Pt.wf (p:Pt):Prop where
 x:i64 p.x
 y:i64 p.y
 z:i64 p.z
 d:i64 p.d
theorem Yih {p:Pt} (hp:p.wf) (hd:0<p.d):0<g4 p/\(g4 p:Int)<=p.d:=by
 have h1:g4 p ∣ p.d.natAbs:=Nat.dvd_trans (Qae _ _) (Qae _ _)
 have h2:=Nat.le_of_dvd (by omega) h1
 have h3:0<g4 p:=Nat.pos_of_dvd_of_pos h1 (by omega)
 omega
def ptIn (p:Pt):Bool:=within p.x (-(5000*p.d)) (5000*p.d)&&within p.y (-(5000*p.d)) (5000*p.d)&&within p.z (-(5000*p.d)) (5000*p.d)
def Zdr (p:Pt):Int:=if p.d<=0\/g4 p≠1 then 3 else if 100000<p.d then 2 else if ptIn p then 0 else 2
theorem Ztz {p:Pt} (h:Zdr p=0):0<p.d/\p.d<=100000/\g4 p=1/\ptIn p=true:=by
 unfold Zdr at h
 split at h
 ·cases h
 ·rename_i h1
  split at h
  ·cases h
  ·split at h
   ·rename_i h3; exact ⟨by omega,by omega,by omega,h3⟩
   ·cases h
theorem Zuj (a b c d:Nat):Oe (Oe (Oe a b) c) d=Oe (Oe a b) (Oe c d):=by rw [Nat.gcd_assoc (Oe a b)]
def gl:Nat->List Int->Nat
 | g,[]=>g
 | g,n::l=>gl (Oe g n.natAbs) l
theorem c117 {ns:List Int} (hl:ns.length<1000) (hw:∀ n∈ns,i64 n):PCall Tryz.prog 198 [.isl 1 (nl ns)] ⟨I (Qa Qb ((gl 0 ns:Nat):Int)),[]⟩:=by
 have e3:=Zp ns
 refine pn Zld Tryz.func198 ?_
 repeat'(first|refine wk1 ?_|(refine wk2 ?_ ?_<;>intro _)|fail)
 refine Zm (S:=Nat × Int × Int) (fun t=>ns.length-t.1) (fun t=>[(3,I t.2.2),(6,.isl 1 (nl ns)),(7,I (nl ns).length),(8,I t.2.1)]) (fun _=>[]) 0 0 (fun t=>t.2.1=t.1/\t.1<=ns.length/\i64 t.2.2/\gl t.2.2.natAbs (ns.drop t.1)=gl 0 ns) (0,0,0) ⟨rfl,Qp _,(by unfold i64; decide),rfl⟩ (Qd _) [] rfl (kps) (kps) ?_
 rintro ⟨k,i,g⟩ ⟨hi,hk,hg,hh⟩
 dsimp only at hi hk hg hh ⊢
 subst hi
 refine bs.av (sx:=nos) Zld ?_
 by_cases hlt:k<ns.length
 ·have e1:=Zal hlt
  have hn:=hw _ (Qn hlt)
  rw [Ql hlt,gl] at hh
  repeat'(first|refine wk1 ?_|(refine wk2 ?_ ?_<;>intro _)|fail)
  refine Zm (S:=Int × Int) (fun t=>t.2.natAbs) (fun t=>[(3,I t.1),(5,I t.2),(6,.isl 1 (nl ns)),(7,I (nl ns).length),(8,I k)]) (fun _=>[]) 0 0 (fun t=>(i64 t.1/\i64 t.2)/\Oe t.1.natAbs t.2.natAbs=Oe g.natAbs ns[k].natAbs) (g,ns[k]) ⟨⟨hg,hn⟩,rfl⟩ (Qd _) [] rfl (kps) (kps) ?_
  rintro ⟨a,b⟩ ⟨⟨ha,hb⟩,hG⟩
  dsimp only at ha hb hG ⊢
  refine bs.av (sx:=nos) Zld ?_
  by_cases h0:b=0
  ·subst h0
   repeat'(first|refine wk1 ?_|(refine wk2 ?_ ?_<;>intro _)|fail)
   exact Qr ⟨(k+1,_,a),[],rfl,kps,kps,⟨Zb (by omega),hlt,ha,by rw [<-hh,<-hG]; simp⟩,by dsimp only; omega⟩
  ·repeat'(first|refine wk1 ?_|(refine wk2 ?_ ?_<;>intro _)|fail)
   exact Qr ⟨(b,a.tmod b),[],rfl,kps,kps,⟨⟨hb,Zl1 ha h0⟩,by rw [<-hG]; exact Zmw⟩,by
    show (a.tmod b).natAbs<b.natAbs
    rw [Int.natAbs_tmod]; exact Tx _ (by omega)⟩
 rw [Qo (by omega)] at hh
 repeat'(first|refine wk1 ?_|(refine wk2 ?_ ?_<;>intro _)|fail)
 exact Zc (by show size g=_; rw [Zvl hg,<-hh]; rfl)
theorem Yd0 {d:Int} (h0:0<d) (h1:d<=100000):Qa Qb (5000*d)=5000*d/\Qa Qb (0-Qa Qb (5000*d)) = -(5000*d):=by
 have e:Qa Qb (5000*d)=5000*d:=W_eq (by omega) (by omega)
 refine ⟨e,?_⟩
 rw [e,W_eq (by omega) (by omega)]; omega
theorem c99 {p:Pt} (hp:p.wf):PCall Tryz.prog 192 [p.av] ⟨I (Zdr p),[]⟩:=by
 have hc:=c117 (ns:=[p.x,p.y,p.z,p.d]) (by simp) (by
  intro n hn
  simp only [Ra,Kx,or_false] at hn
  rcases hn with rfl|rfl|rfl|rfl
  ·exact hp.x
  ·exact hp.y
  ·exact hp.z
  ·exact hp.d)
 have hg:gl 0 [p.x,p.y,p.z,p.d]=g4 p:=by
  simp only [gl,Nat.gcd_zero_left]
  exact Zuj _ _ _ _
 rw [hg] at hc
 have hk:=Zf hc Zcg
 by_cases h1:p.d<=0
 ·have e:Zdr p=3:=by unfold Zdr; rw [if_pos (.inl h1)]
  rw [e]
  refine pn hk Tryz.func192 ?_
  repeat'(first|refine wk1 ?_|(refine wk2 ?_ ?_<;>intro _)|fail)
  exact Zc rfl
 ·obtain ⟨g1,g2⟩:=Yih hp (by omega)
  have hd:=hp.d
  unfold i64 at hd
  have hw:Qa Qb ((g4 p:Nat):Int)=(g4 p:Nat):=W_eq (by omega) (by omega)
  rw [hw] at hk
  by_cases h2:g4 p=1
  ·rw [h2] at hk
   by_cases h3:100000<p.d
   ·have e:Zdr p=2:=by unfold Zdr; rw [if_neg (by omega),if_pos h3]
    rw [e]
    refine pn hk Tryz.func192 ?_
    repeat'(first|refine wk1 ?_|(refine wk2 ?_ ?_<;>intro _)|fail)
    exact Zc rfl
   ·obtain ⟨m1,m2⟩:=Yd0 (d:=p.d) (by omega) (by omega)
    have e:Zdr p=if ptIn p then 0 else 2:=by unfold Zdr; rw [if_neg (by omega),if_neg h3]
    have e2:∀ x,small x (Qa Qb (5000*p.d))=within x (-(5000*p.d)) (5000*p.d):=fun x=>by unfold small; rw [m2,m1]
    rw [e]
    unfold ptIn
    rw [<-e2,<-e2,<-e2]
    refine pn hk Tryz.func192 ?_
    repeat'(first|refine wk1 ?_|(refine wk2 ?_ ?_<;>intro _)|fail)
    all_goals (clear hk hc m1 m2 e2)
    all_goals exact Zc (by simp_all [unl])
  ·have e:Zdr p=3:=by unfold Zdr; rw [if_pos (.inr h2)]
   rw [e]
   have h4:(1:Int)<(g4 p:Nat):=by omega
   refine pn hk Tryz.func192 ?_
   repeat'(first|refine wk1 ?_|(refine wk2 ?_ ?_<;>intro _)|fail)
   all_goals clear hk hc
   all_goals first
    | exact Zc rfl
    | (exfalso; simp_all; done)
    | (exfalso; simp_all; omega)
def insE (h:Hal) (p:Pt):Int:=if h.err=0 then Zdr p else h.err
theorem Ydt {p:Pt} (h:Zdr p=0):PtOk p.x p.y p.d:=by
 obtain ⟨h1,h2,_,h4⟩:=Ztz h
 unfold ptIn at h4
 simp only [Qc,within_iff] at h4
 exact ⟨h1,by omega,by omega,by omega⟩
theorem c50 {h:Hal} (hk:h.ok) {p:Pt} (hp:p.wf):PCall Tryz.prog 161 [h.av,p.av] ⟨.tup [Bo (decide (insE h p=0)&&Zbx h p),I (insE h p)],[]⟩:=by
 have hk0:=Zf (c76 hk) (Zf (c99 hp) Ze)
 by_cases he:h.err=0
 ·have hi:insE h p=Zdr p:=by unfold insE; rw [if_pos he]
  rw [hi]
  by_cases hq:Zdr p=0
  ·have hf:=Zqr hk he
   have e:Zbx h p=Zuh h p.x p.y p.z p.d:=by
    unfold Zbx Zuh
    rw [Zba hf.st p.z (Ydt hq)]
   have hk1:=Zf (c124 hk.f p.x p.y p.z p.d) hk0
   rw [hq,he] at hk1
   rw [hq,e]
   refine pn hk1 Tryz.func161 ?_
   repeat'(first|refine wk1 ?_|(refine wk2 ?_ ?_<;>intro _)|fail)
   exact Zg (by simp) rfl
  ·rw [he] at hk0
   rw [decide_eq_false hq]
   refine pn hk0 Tryz.func161 ?_
   repeat'(first|refine wk1 ?_|(refine wk2 ?_ ?_<;>intro _)|fail)
   exact Zg rfl rfl
 ·have hi:insE h p=h.err:=by unfold insE; rw [if_neg he]
  rw [hi,decide_eq_false he]
  refine pn hk0 Tryz.func161 ?_
  repeat'(first|refine wk1 ?_|(refine wk2 ?_ ?_<;>intro _)|fail)
  exact Zg rfl rfl
abbrev Yha (h:Hal):Prop:=(9<h.ws.length/\h.ws.length<=12)\/14<h.ws.length\/14<h.cs.length\/4<h.ms.length\/2<h.ks.length\/3<h.ss.length
def Zk9 (h:Hal):Bool:=Yp h.nm&&Yp h.fl&&Yp h.ce
def few2 (h:Hal):Bool:=(!decide (Yha h)&&Zk9 h)&&(h.ws.all fewW&&(h.ms.all fewM&&(h.ks.all fewC&&h.ss.all fewS)))
theorem Yex {h:Hal} (hb:few2 h=true):h.ok:=by
 unfold few2 Zk9 at hb
 simp only [Qc,Te,decide_eq_false_iff_not] at hb
 obtain ⟨⟨hL,⟨n1,n2⟩,n3⟩,m2,m1,m3,m4⟩:=hb
 have hL:¬ ((9<h.ws.length/\h.ws.length<=12)\/14<h.ws.length\/14<h.cs.length\/4<h.ms.length\/2<h.ks.length\/3<h.ss.length):=hL
 rw [List.all_eq_true] at m1 m2 m3 m4
 refine ⟨⟨by omega,by omega,by omega,by omega,by omega,fun c hc=>?_⟩,⟨Zb8 n1,fun m hm=>Zb8 (m1 m hm),fun m hm=>?_,fun m hm=>?_,fun m hm=>Zb8 (m4 m hm)⟩⟩
 ·have:=m3 c hc
  unfold fewC at this
  simp only [Qc,Te,decide_eq_false_iff_not] at this
  omega
 ·have:=m2 m hm
  unfold fewW at this
  simp only [Qc] at this
  exact Zb8 this.1.1
 ·have:=m3 m hm
  unfold fewC at this
  simp only [Qc] at this
  exact Zb8 this.1.1
theorem sh_n {s:ByteArray} (h:Yp s=true):¬ (20:Int)<(s.size:Int):=by
 unfold Yp at h
 simpa using h
theorem p80 (h:Hal):PCall Tryz.prog 8 [h.av] ⟨Bo (few2 h),[]⟩:=by
 have l1:=Zdt h.ms
 have l2:(h.cs.map pt).length=h.cs.length:=by simp
 have l3:=Vk h.ws
 have l4:=Zbi h.ks
 have l5:=Zdk h.ss
 by_cases hP:Yha h
 ·have e0:few2 h=false:=by unfold few2; rw [decide_eq_true hP]; rfl
  rw [e0]
  clear e0
  have hP:(9<h.ws.length/\h.ws.length<=12)\/14<h.ws.length\/14<h.cs.length\/4<h.ms.length\/2<h.ks.length\/3<h.ss.length:=hP
  refine pn Ze Tryz.func8 ?_
  repeat'(first|refine wk3 ?_|(refine wk2 ?_ ?_<;>intro _)|fail)
  all_goals first
   | exact Za rfl
   | (exfalso; simp_all; omega)
 have hP' : ¬ ((9<h.ws.length/\h.ws.length<=12)\/14<h.ws.length\/14<h.cs.length\/4<h.ms.length\/2<h.ks.length\/3<h.ss.length):=hP
 have hw:h.ws.length<=9\/12<h.ws.length:=by omega
 unfold few2
 rw [decide_eq_false hP,Bool.not_false,Tv]
 clear hP
 by_cases hN:Zk9 h=true
 rotate_left
 ·have hN:Zk9 h=false:=by simpa using hN
  rw [hN,Nm]
  unfold Zk9 at hN
  rcases hw with hw|hw
  all_goals
   refine pn Ze Tryz.func8 ?_
   repeat'(first|refine wk3 ?_|(refine wk2 ?_ ?_<;>intro _)|fail)
  all_goals first
   | exact Za rfl
   | (exfalso; simp_all [Yp]; done)
   | (exfalso; simp_all [Yp]; omega)
 rw [hN,Tv]
 unfold Zk9 at hN
 simp only [Qc] at hN
 obtain ⟨⟨n1,n2⟩,n3⟩:=hN
 have n1:=sh_n n1
 have n2:=sh_n n2
 have n3:=sh_n n3
 generalize hE:(h.ws.all fewW&&(h.ms.all fewM&&(h.ks.all fewC&&h.ss.all fewS)))=R
 rcases hw with hw|hw
 all_goals
  refine pn Ze Tryz.func8 ?_
  repeat'(first|refine wk3 ?_|(refine wk2 ?_ ?_<;>intro _)|fail)
  clear n1 n2 n3
  subst hE
  generalize hV:(h.ms.all fewM&&(h.ks.all fewC&&h.ss.all fewS))=V
  refine Zm (S:=Nat × Int) (fun t=>h.ws.length-t.1) (fun t=>[(1,.ptr 0 0 0),(2,Bo false),(3,I t.2)]) (fun _=>[(0,.row 9 [h.cells] true false)]) 1 1 (fun t=>t.2=t.1/\t.1<=h.ws.length/\((h.ws.drop t.1).all fewW&&V)=(h.ws.all fewW&&V)) (0,0) ⟨rfl,Qp _,rfl⟩ (Qd _) [] rfl (kps) (kps) ?_
  rintro ⟨k,i⟩ ⟨hi,hk,hh⟩
  dsimp only at hi hk hh ⊢
  subst hi
  generalize hB:(h.ws.all fewW&&V)=B at *
  clear hB
  refine bs.av (sx:=nos) Ze ?_
  by_cases hlt:k<h.ws.length
  ·clear hV
   have e1:=Zm9 hlt
   rw [Ql hlt,Lg] at hh
   generalize h.ws[k]=m at *
   have hm:∀ b,fewW m=b->(b&&(h.ws.drop (k+1)).all fewW&&V)=B:=fun b e=>by rw [<-e,Ob]; rw [Ob] at hh; exact hh
   clear hh
   repeat'(first|refine wk3 ?_|(refine wk2 ?_ ?_<;>intro _)|fail)
   all_goals clear e1
   all_goals first
    | exact Za (hm false (by clear hm; simp_all [fewW,Yp]; done))
    | exact Qr ⟨(k+1,_),[],rfl,kps,kps,⟨Zb (by omega),hlt,hm true (by clear hm; simp_all [fewW,Yp]; done)⟩,by dsimp only; omega⟩
  rw [Qo (by omega)] at hh
  have hh:V=B:=hh
  subst hh
  subst hV
  repeat'(first|refine wk3 ?_|(refine wk2 ?_ ?_<;>intro _)|fail)
  clear hlt hk
  generalize hV:(h.ks.all fewC&&h.ss.all fewS)=V
  refine Zm (S:=Nat × Int) (fun t=>h.ms.length-t.1) (fun t=>[(1,.ptr 0 0 0),(2,Bo false),(4,I t.2)]) (fun _=>[(0,.row 9 [h.cells] true false)]) 1 1 (fun t=>t.2=t.1/\t.1<=h.ms.length/\((h.ms.drop t.1).all fewM&&V)=(h.ms.all fewM&&V)) (0,0) ⟨rfl,Qp _,rfl⟩ (Qd _) [] rfl (kps) (kps) ?_
  rintro ⟨k,i⟩ ⟨hi,hk,hh⟩
  dsimp only at hi hk hh ⊢
  subst hi
  generalize hB:(h.ms.all fewM&&V)=B at *
  clear hB
  refine bs.av (sx:=nos) Ze ?_
  by_cases hlt:k<h.ms.length
  ·clear hV
   have e1:=Zr8 hlt
   rw [Ql hlt,Lg] at hh
   generalize h.ms[k]=m at *
   have hm:∀ b,fewM m=b->(b&&(h.ms.drop (k+1)).all fewM&&V)=B:=fun b e=>by rw [<-e,Ob]; rw [Ob] at hh; exact hh
   clear hh
   repeat'(first|refine wk3 ?_|(refine wk2 ?_ ?_<;>intro _)|fail)
   all_goals clear e1
   all_goals first
    | exact Za (hm false (by clear hm; simp_all [fewM,Yp]; done))
    | exact Qr ⟨(k+1,_),[],rfl,kps,kps,⟨Zb (by omega),hlt,hm true (by clear hm; simp_all [fewM,Yp]; done)⟩,by dsimp only; omega⟩
  rw [Qo (by omega)] at hh
  have hh:V=B:=hh
  subst hh
  subst hV
  repeat'(first|refine wk3 ?_|(refine wk2 ?_ ?_<;>intro _)|fail)
  clear hlt hk
  generalize hV:h.ss.all fewS=V
  refine Zm (S:=Nat × Int) (fun t=>h.ks.length-t.1) (fun t=>[(1,.ptr 0 0 0),(2,Bo false),(5,I t.2)]) (fun _=>[(0,.row 9 [h.cells] true false)]) 1 1 (fun t=>t.2=t.1/\t.1<=h.ks.length/\((h.ks.drop t.1).all fewC&&V)=(h.ks.all fewC&&V)) (0,0) ⟨rfl,Qp _,rfl⟩ (Qd _) [] rfl (kps) (kps) ?_
  rintro ⟨k,i⟩ ⟨hi,hk,hh⟩
  dsimp only at hi hk hh ⊢
  subst hi
  generalize hB:(h.ks.all fewC&&V)=B at *
  clear hB
  refine bs.av (sx:=nos) Ze ?_
  by_cases hlt:k<h.ks.length
  ·clear hV
   have e1:=Zke hlt
   rw [Ql hlt,Lg] at hh
   generalize h.ks[k]=m at *
   have e9:=Zp m.hs
   have hm:∀ b,fewC m=b->(b&&(h.ks.drop (k+1)).all fewC&&V)=B:=fun b e=>by rw [<-e,Ob]; rw [Ob] at hh; exact hh
   clear hh
   repeat'(first|refine wk3 ?_|(refine wk2 ?_ ?_<;>intro _)|fail)
   all_goals clear e1
   all_goals first
    | exact Za (hm false (by clear hm; simp_all [fewC,Yp]; done))
    | exact Qr ⟨(k+1,_),[],rfl,kps,kps,⟨Zb (by omega),hlt,hm true (by clear hm; simp_all [fewC,Yp]; done)⟩,by dsimp only; omega⟩
  rw [Qo (by omega)] at hh
  have hh:V=B:=hh
  subst hh
  subst hV
  repeat'(first|refine wk3 ?_|(refine wk2 ?_ ?_<;>intro _)|fail)
  clear hlt hk
  refine Zm (S:=Nat × Int) (fun t=>h.ss.length-t.1) (fun t=>[(1,.ptr 0 0 0),(2,Bo false),(6,I t.2)]) (fun _=>[(0,.row 9 [h.cells] true false)]) 1 1 (fun t=>t.2=t.1/\t.1<=h.ss.length/\((h.ss.drop t.1).all fewS)=(h.ss.all fewS)) (0,0) ⟨rfl,Qp _,rfl⟩ (Qd _) [] rfl (kps) (kps) ?_
  rintro ⟨k,i⟩ ⟨hi,hk,hh⟩
  dsimp only at hi hk hh ⊢
  subst hi
  generalize hB:(h.ss.all fewS)=B at *
  clear hB
  refine bs.av (sx:=nos) Ze ?_
  by_cases hlt:k<h.ss.length
  ·have e1:=Zrv hlt
   rw [Ql hlt,Lg] at hh
   generalize h.ss[k]=m at *
   have hm:∀ b,fewS m=b->(b&&(h.ss.drop (k+1)).all fewS)=B:=fun b e=>by rw [<-e]; exact hh
   clear hh
   repeat'(first|refine wk3 ?_|(refine wk2 ?_ ?_<;>intro _)|fail)
   all_goals clear e1
   all_goals first
    | exact Za (hm false (by clear hm; simp_all [fewS,Yp]; done))
    | exact Qr ⟨(k+1,_),[],rfl,kps,kps,⟨Zb (by omega),hlt,hm true (by clear hm; simp_all [fewS,Yp]; done)⟩,by dsimp only; omega⟩
  rw [Qo (by omega)] at hh
  repeat'(first|refine wk3 ?_|(refine wk2 ?_ ?_<;>intro _)|fail)
  exact Za hh
theorem p90 {h:Hal} (hk:h.ok):PCall Tryz.prog 30 [h.av] ⟨I h.err,[]⟩:=by
 refine pn (Zf (c65k hk) Ze) Tryz.func30 ?_
 repeat'(first|refine wk3 ?_|(refine wk2 ?_ ?_<;>intro _)|fail)
 exact Zc rfl
abbrev Pl3:=Int × Int × Int
def plcB (x y z:Int):Bool:=within x (-5000) 5000&&within y (-5000) 5000&&within z (-5000) 5000
def plaE (h:Hal) (x y z:Int):Int:=if plcB x y z=true then unl (Zbx h ⟨x,y,z,1⟩) 24 else 2
theorem d123 (x y z:Int):PCall Tryz.prog 117 [P3 x y z] ⟨P4 x y z 1,[]⟩:=by
 refine pn Ze Tryz.func117 ?_
 repeat'(first|refine wk3 ?_|(refine wk2 ?_ ?_<;>intro _)|fail)
 all_goals exact Zg rfl rfl
theorem d83 (n:Int):PCall Tryz.prog 83 [I n] ⟨Bo (within n (-5000) 5000),[]⟩:=by
 refine pn (Zf (c30 n (-5000) 5000) Ze) Tryz.func83 ?_
 repeat'(first|refine wk3 ?_|(refine wk2 ?_ ?_<;>intro _)|fail)
 exact Za rfl
theorem d81 (n:Int):PCall Tryz.prog 42 [I n] ⟨I (unl (within n 0 4) 2),[]⟩:=by
 refine bs.pv (sx:=nos) (Zf (d210 n 0 4) (Zf (d209 (within n 0 4) 2) Ze)) Tryz.func42 (by kernel_rfl) (by kernel_rfl) rfl ?_
 repeat'(first|refine wk3 ?_|(refine wk2 ?_ ?_<;>intro _)|fail)
 exact Zc rfl
theorem d68 (n:Int):PCall Tryz.prog 13 [I n] ⟨I (unl (within n 0 4) 2),[]⟩:=by
 refine pn (Zf (c30 n 0 4) Ze) Tryz.func13 ?_
 repeat'(first|refine wk3 ?_|(refine wk2 ?_ ?_<;>intro _)|fail)
 all_goals exact Zc (by simp_all [unl])
theorem Zrp (n:Int):small n 5000=within n (-5000) 5000:=rfl
theorem Ygd {x y z:Int} (c:plcB x y z=true):Zdr ⟨x,y,z,1⟩=0:=by
 simp only [plcB,Qc,within_iff] at c
 have hg:g4 ⟨x,y,z,1⟩=1:=by
  simp [g4]
 unfold Zdr
 rw [if_neg (by simp [hg]),if_neg (by simp),if_pos]
 unfold ptIn
 simp only [Qc,within_iff]
 simp
 omega
def r86:List AV->Option PRes
 | [.int .i64 n,.int .i64 m]=>some ⟨Bo (small n m),[]⟩
 | _=>none
theorem Yfz {pt:PC} (h:PCOK Tryz.prog pt):PCOK Tryz.prog (ins 77 r86 pt):=Zk (fun a res h=>by unfold r86 at h; split at h<;>cases h; exact d86 _ _) h
def r83:List AV->Option PRes
 | [.int .i64 n]=>some ⟨Bo (within n (-5000) 5000),[]⟩
 | _=>none
theorem Yf0 {pt:PC} (h:PCOK Tryz.prog pt):PCOK Tryz.prog (ins 83 r83 pt):=Zk (fun a res h=>by unfold r83 at h; split at h<;>cases h; exact d83 _) h
theorem d79 {h:Hal} (hk:h.ok) (he:h.err=0) (x y z:Int):PCall Tryz.prog 74 [h.av,P3 x y z] ⟨I (plaE h x y z),[]⟩:=by
 have hk0:=Yfz (Zf (d123 x y z) Ze)
 by_cases c:plcB x y z=true
 ·have hp:=Ygd c
  have hi:insE h ⟨x,y,z,1⟩=0:=by unfold insE; rw [if_pos he,hp]
  have hw:Pt.wf ⟨x,y,z,1⟩:=by
   simp only [plcB,Qc,within_iff] at c
   refine ⟨⟨?_,?_⟩,⟨?_,?_⟩,⟨?_,?_⟩,⟨?_,?_⟩⟩<;>dsimp only<;>omega
  have h50:=c50 hk hw
  rw [hi] at h50
  unfold plaE
  rw [if_pos c]
  generalize Zbx h ⟨x,y,z,1⟩=b at *
  have hk1:=Zf h50 (Zf (d209 b 24) hk0)
  simp only [plcB,Qc,<-Zrp] at c
  refine pn hk1 Tryz.func74 ?_
  repeat'(first|refine wk3 ?_|(refine wk2 ?_ ?_<;>intro _)|fail)
  all_goals first
   | exact Zc rfl
   | (exfalso; clear hk1 h50 hk0 hp hi; simp_all; done)
 ·unfold plaE
  rw [if_neg c]
  simp only [plcB,<-Zrp] at c
  refine pn hk0 Tryz.func74 ?_
  repeat'(first|refine wk3 ?_|(refine wk2 ?_ ?_<;>intro _)|fail)
  all_goals first
   | exact Zc rfl
   | (exfalso; clear hk0; simp_all; done)
theorem d27 {h:Hal} (hk:h.ok) (he:h.err=0) (x y z:Int):PCall Tryz.prog 66 [h.av,P3 x y z] ⟨I (plaE h x y z),[]⟩:=by
 have hf:=Zqr hk he
 have hk0:=Zf (c52 hk.f hf.le.2.2.1 (Yge hf.st) ⟨x,y,z,1⟩) (Yf0 (Zf (c36 x y z) Ze))
 unfold plaE plcB
 generalize Zbx h ⟨x,y,z,1⟩=b at *
 refine pn hk0 Tryz.func66 ?_
 repeat'(first|refine wk3 ?_|(refine wk2 ?_ ?_<;>intro _)|fail)
 all_goals clear hk0
 all_goals exact Zc (by simp_all [unl])
def frL (cs:List (Int × Int)) (r:Ry) (last:Int):Int × Int:=if last<0 then (0,1) else match htW (wlOf cs last.toNat) r with
 | none=>(0,0)
 | some x=>(x.nu,x.de)
theorem Bh.fr {cs:List (Int × Int)} {r:Ry} {f:Int × Int} {last:Int} (a:Bh cs r f last):frL cs r last=f:=by
 unfold frL
 rcases a.last with ⟨h1,h2⟩|⟨i,hi,h1,h2,x,hx,h3,h4⟩
 ·rw [if_pos (by omega),h2]
 ·rw [if_neg (by omega),h1,Ri,hx]
  exact Tk h3 h4
theorem Zv7 {h:Hal} {x y z:Int} (e:plaE h x y z=0):((-5000<=x/\x<=5000)/\(-5000<=y/\y<=5000)/\(-5000<=z/\z<=5000))/\Zbx h ⟨x,y,z,1⟩=true:=by
 unfold plaE at e
 split at e
 ·rename_i c
  simp only [plcB,Qc,within_iff] at c
  refine ⟨⟨c.1.1,c.1.2,c.2⟩,Ue e (by decide)⟩
 ·omega
theorem Zym {n d m k:Int} (hd:0<d) (hk:0<k) (h:n / d<m / k):cmpQ n d m k = -1:=by
 have h1:=Int.lt_ediv_add_one_mul_self n hd
 have h2:=Int.ediv_mul_le m (show k≠0 by omega)
 have h3:=Qk (show n / d+1<=m / k by omega) (Qg hd)
 have h4:=Wb (show n<m / k*d by omega) hk
 have h5:=Qk h2 (Qg hd)
 have e:m / k*d*k=m / k*k*d:=by grind
 unfold cmpQ sgn
 rw [if_neg (by omega),if_pos (by omega)]
theorem Zyl {n d m k:Int}:cmpQ n d m k = -cmpQ m k n d:=by
 unfold cmpQ
 have e:n*k-m*d = -(m*d-n*k):=by omega
 rw [e]
 generalize m*d-n*k=v
 unfold sgn
 split<;>split<;>(try split)<;>(try split)<;>omega
theorem Ye4 {n d m k:Int} (h:n / d=m / k):cmpQ n d m k=cmpQ (n%d) d (m%k) k:=by
 unfold cmpQ
 have h1:=Kq n d
 have h2:=Kq m k
 congr 1
 rw [h] at h1
 generalize m / k=q at *
 generalize n%d=r at *
 generalize m%k=t at *
 subst h1 h2
 grind
theorem cmpQ_flip {n d m k:Int}:cmpQ n d m k=cmpQ k m d n:=by unfold cmpQ; congr 1; grind
noncomputable abbrev flr:List AV->Option PRes:=famA (fun p:Int × Int=>0<p.2 /\ -9223372036854775807<=p.1/\p.1<=9223372036854775807) (fun p=>[I p.1,I p.2]) (fun p=>⟨I (p.1 / p.2),[]⟩)
theorem Zxw {n b:Int} (hb:0<b) (h0 : -9223372036854775807<=n) (h1:n<=9223372036854775807):flr [I n,I b]=some ⟨I (n / b),[]⟩ :=
 Zl (p:=fun p:Int × Int=>0<p.2 /\ -9223372036854775807<=p.1/\p.1<=9223372036854775807) (g:=fun p=>[I p.1,I p.2]) (r:=fun p=>⟨I (p.1 / p.2),[]⟩) (k:=(n,b)) (fun j hj=>by
  simp only [Rd,Tt,true_and,and_true] at hj
  obtain ⟨h1,h2⟩:=hj
  dsimp only
  rw [h1,h2]) ⟨hb,h0,h1⟩
noncomputable def kC1:PC:=ins 185 flr pt0
theorem Yca:PCOK Tryz.prog kC1:=Zn (fun p hp=>c90 hp.1 hp.2.1 hp.2.2) Ze
theorem Zpl {n d:Int} (hd:0<d) (hd2:d<=9223372036854775807):Qa Qb (n-Qa Qb (n / d*d))=n%d:=by
 have h1:=Fa n (show d≠0 by omega)
 have h2:=Jz n hd
 have h3:=Kq n d
 rw [Rl] at h3
 simp only [IntKind.wrap_i64]
 omega
theorem c187 {n d m k:Int} (hd:0<d) (hk:0<k) (hd2:d<=9223372036854775807) (hk2:k<=9223372036854775807) (hn : -9223372036854775807<=n/\n<=9223372036854775807) (hm : -9223372036854775807<=m/\m<=9223372036854775807):PCall Tryz.prog 114 [I n,I d,I m,I k] ⟨I (cmpQ n d m k),[]⟩:=by
 refine pn Yca Tryz.func114 ?_
 generalize hR:cmpQ n d m k=R
 refine Zm (S:=Int × Int × Int × Int) (fun t=>(t.2.1+t.2.2.2).toNat) (fun t=>[(0,I t.1),(1,I t.2.1),(2,I t.2.2.1),(3,I t.2.2.2)]) (fun _=>[]) 0 0 (fun t=>((0<t.2.1/\t.2.1<=9223372036854775807)/\(0<t.2.2.2/\t.2.2.2<=9223372036854775807))/\((-9223372036854775807<=t.1/\t.1<=9223372036854775807)/\(-9223372036854775807<=t.2.2.1/\t.2.2.1<=9223372036854775807))/\cmpQ t.1 t.2.1 t.2.2.1 t.2.2.2=R) (n,d,m,k) ⟨⟨⟨hd,hd2⟩,hk,hk2⟩,⟨hn,hm⟩,hR⟩ (Qd _) [] rfl (kps) (kps) ?_
 clear hR hd hk hd2 hk2 hn hm
 rintro ⟨n,d,m,k⟩ ⟨⟨⟨hd,hd2⟩,hk,hk2⟩,⟨hn,hm⟩,hR⟩
 dsimp only at hd hd2 hk hk2 hn hm hR ⊢
 have t1:=Zxw hd hn.1 hn.2
 have t2:=Zxw hk hm.1 hm.2
 have w1:=Zpl (n:=n) hd hd2
 have w2:=Zpl (n:=m) hk hk2
 have n1:=Fa n (show d≠0 by omega)
 have n2:=Jz n hd
 have m1:=Fa m (show k≠0 by omega)
 have m2:=Jz m hk
 refine bs.av (sx:=nos) Yca ?_
 rcases We (n / d) (m / k) with hc|hc|hc
 ·have e:=Zym hd hk hc
  rw [hR] at e
  rw [e]
  generalize n / d=P at *
  generalize m / k=Q at *
  repeat'(first|refine wk1 ?_|(refine wk2 ?_ ?_<;>intro _)|fail)
  exact Zc rfl
 ·have e:=Ye4 hc
  rw [hR] at e
  rw [hc] at t1 w1
  generalize m / k=Q at *
  generalize n%d=r at *
  generalize m%k=t at *
  by_cases r0:r=0
  ·by_cases t0:t=0
   ·have:R=0:=by rw [e,r0,t0]; unfold cmpQ; simp [sgn]
    subst r0 t0
    rw [this]
    clear e hR this
    repeat'(first|refine wk1 ?_|(refine wk2 ?_ ?_<;>intro _)|fail)
    all_goals first
     | exact Zc rfl
     | (exfalso; rename_i hx; simp [w1,w2] at hx; done)
     | (exfalso; rename_i hx; simp [w1,w2] at hx; omega)
   ·have:R = -1:=by
     rw [e,r0]; unfold cmpQ sgn
     have:=Qv (show 0<t by omega) hd
     rw [if_neg (by omega),if_pos (by omega)]
    rw [this]
    repeat'(first|refine wk1 ?_|(refine wk2 ?_ ?_<;>intro _)|fail)
    all_goals first
     | exact Zc rfl
     | (exfalso; rename_i hx; simp [w1,w2] at hx; done)
     | (exfalso; rename_i hx; simp [w1,w2] at hx; omega)
  ·by_cases t0:t=0
   ·have:R=1:=by
     rw [e,t0]; unfold cmpQ sgn
     have:=Qv (show 0<r by omega) hk
     rw [if_pos (by omega)]
    rw [this]
    repeat'(first|refine wk1 ?_|(refine wk2 ?_ ?_<;>intro _)|fail)
    all_goals first
     | exact Zc rfl
     | (exfalso; rename_i hx; simp [w1,w2] at hx; done)
     | (exfalso; rename_i hx; simp [w1,w2] at hx; omega)
   ·repeat'(first|refine wk1 ?_|(refine wk2 ?_ ?_<;>intro _)|fail)
    exact Qr ⟨(k,t,d,r),[],rfl,by rw [w1,w2]; exact kps,kps,⟨⟨⟨by dsimp only; omega,by dsimp only; omega⟩,by dsimp only; omega,by dsimp only; omega⟩,⟨⟨by dsimp only; omega,by dsimp only; omega⟩,by dsimp only; omega,by dsimp only; omega⟩,by rw [e]; exact cmpQ_flip.symm⟩,by dsimp only; omega⟩
 ·have e:=Zym hk hd hc
  have e2:R=1:=by rw [<-hR,Zyl,e]; rfl
  rw [e2]
  generalize n / d=P at *
  generalize m / k=Q at *
  repeat'(first|refine wk1 ?_|(refine wk2 ?_ ?_<;>intro _)|fail)
  exact Zc rfl
abbrev Ry.ra (r:Ry):AV:=.agg [I r.x,I r.y,I r.dx,I r.dy]
abbrev rh0:AV:=.agg [I 0,I 0,Bo false,Bo false]
abbrev Ht.av (x:Ht):AV:=.agg [I x.nu,I x.de,Bo x.on,Bo x.well]
def mrV:Option Ht->PRes
 | none=>⟨.tup [rh0,Bo false],[]⟩
 | some x=>⟨.tup [x.av,Bo true],[]⟩
theorem qin {q X M:Int} (h:0<q):within (q*X) 0 (q*M)=(decide (0<=X)&&decide (X<=M))/\within (q*X) 1 (q*M-1)=(decide (0<X)&&decide (X<M)):=by
 have e1:0<=q*X↔0<=X:=nn_l h
 have e2:0<q*X↔0<X:=Znu h
 have e3:q*X<=q*M↔X<=M:=⟨fun k=>Int.le_of_mul_le_mul_left k h,fun k=>Qw k (by omega)⟩
 have e4:q*X<q*M↔X<M:=⟨fun k=>Sd k (by omega),fun k=>Rn k h⟩
 refine ⟨?_,?_⟩
 ·rw [Sc,within_iff,Qc,decide_eq_true_eq,decide_eq_true_eq,e1,e3]
 ·rw [Sc,within_iff,Qc,decide_eq_true_eq,decide_eq_true_eq,<-e2,<-e4]
  omega
theorem e85 {w:Wl} {n sx sy:Int} (h:Str w n sx sy) {r:Ry} (b:RyB r):PCall Tryz.prog 85 [w.ln.av,r.ra] (mrV (htN w n sx sy r)):=by
 obtain ⟨_,_,l1,l2,l3⟩:=h.ln
 have hn0:w.ln.n≠0:=by rw [l1]; have:=h.hn; omega
 have hq:=qpos h
 have hq2:sx*sx+sy*sy<=2:=by
  rcases h.hx with rfl|rfl|rfl<;>rcases h.hy with rfl|rfl|rfl<;>decide
 have hn:=h.hn
 have hnl:=h.nle
 have b1:=h.b1
 have b2:=h.b2
 have hp:PtOk r.x r.y 1:=by
  have:=b.x
  have:=b.y
  exact ⟨by omega,by omega,by omega,by omega⟩
 have c1:=c212 w.ln hn0
 have c2:=c185 w.ln ⟨r.x,r.y,0,1⟩ hn0
 have c3:=c186 w.ln ⟨r.x,r.y,0,1⟩ hn0
 have c4:=c188 w.ln hn0
 rw [l1,l2,l3] at c1
 rw [Zbk h hp,show bes w sx sy r.x r.y 1=fW w sx sy r by unfold bes fW; rw [Rw,Rw]] at c2
 rw [Ztf h hp,show alo w sx sy r.x r.y 1=aW w sx sy r by unfold alo aW; rw [Rw,Rw]] at c3
 rw [Zxn h] at c4
 have bx:=b.dx
 have by':=b.dy
 have bd:(-100000<=fW w sx sy r/\fW w sx sy r<=100000)/\(-100000<=aW w sx sy r/\aW w sx sy r<=100000)/\(-200000<=gW sx sy r/\gW sx sy r<=200000)/\(-200000<=sx*r.dx+sy*r.dy/\sx*r.dx+sy*r.dy<=200000):=by
  have:=b.x
  have:=b.y
  unfold fW aW gW
  rcases h.hx with rfl|rfl|rfl<;>rcases h.hy with rfl|rfl|rfl<;>simp only [Int.zero_mul,Sj,Tq]<;>omega
 have m1:=Yy (a:=sx) (b:=r.dx) (A:=1) (B:=100000) (by rcases h.hx with e|e|e<;>omega) bx
 have m2:=Yy (a:=sy) (b:=r.dy) (A:=1) (B:=100000) (by rcases h.hy with e|e|e<;>omega) by'
 have m3:=Yy (a:=sx) (b:=r.dy) (A:=1) (B:=100000) (by rcases h.hx with e|e|e<;>omega) by'
 have m4:=Yy (a:=sy) (b:=r.dx) (A:=1) (B:=100000) (by rcases h.hy with e|e|e<;>omega) bx
 have eG:Qa Qb (Qa Qb (sx*r.dy)-Qa Qb (sy*r.dx))=gW sx sy r:=by
  rw [W_eq (n:=sx*r.dy) (by omega) (by omega),W_eq (n:=sy*r.dx) (by omega) (by omega),W_eq (by omega) (by omega)]; rfl
 have eS:Qa Qb (Qa Qb (sx*r.dx)+Qa Qb (sy*r.dy))=sx*r.dx+sy*r.dy:=by
  rw [W_eq (n:=sx*r.dx) (by omega) (by omega),W_eq (n:=sy*r.dy) (by omega) (by omega),W_eq (by omega) (by omega)]
 have hal:=Zza w sx sy r
 have hyw:=Zu0 h r
 generalize hgg:gW sx sy r=g at *
 generalize hff:fW w sx sy r=f at *
 generalize haa:aW w sx sy r=a at *
 have mq:=Yy (a:=n) (b:=sx*sx+sy*sy) (A:=10000) (B:=2) (by omega) (by omega)
 have key:∀ D F:Int,(-200000<=D/\D<=200000)->(-100000<=F/\F<=100000)->Qa Qb (Qa Qb (a*D)-Qa Qb (F*Qa Qb (Qa Qb (sx*r.dx)+Qa Qb (sy*r.dy))))=a*D-F*(sx*r.dx+sy*r.dy)/\Qa Qb (n*(sx*sx+sy*sy)*D)=(sx*sx+sy*sy)*(n*D)/\Qa Qb (Qa Qb (n*(sx*sx+sy*sy)*D)-1)=(sx*sx+sy*sy)*(n*D)-1:=fun D F hD hF=>by
  have k1:=Yy (a:=a) (b:=D) (A:=100000) (B:=200000) bd.2.1 hD
  have k2:=Yy (a:=F) (b:=sx*r.dx+sy*r.dy) (A:=100000) (B:=200000) hF bd.2.2.2
  have k3:=Yy (a:=n*(sx*sx+sy*sy)) (b:=D) (A:=20000) (B:=200000) (by omega) hD
  rw [eS,W_eq (n:=a*D) (by omega) (by omega),W_eq (n:=F*_) (by omega) (by omega),W_eq (n:=n*(sx*sx+sy*sy)*D) (by omega) (by omega)]
  refine ⟨W_eq (by omega) (by omega),by clear k1 k2 k3 hal hyw; grind,?_⟩
  rw [W_eq (by omega) (by omega)]
  clear k1 k2 k3 hal hyw; grind
 by_cases g0:g=0
 ·have e:htN w n sx sy r=none:=by unfold htN; rw [hgg,if_pos g0]
  rw [e]
  have hk0:=Zf c1 (Zf c2 Ze)
  rw [g0] at eG
  clear key hal hyw c1 c2 c3 c4 hgg hff haa bd mq m1 m2 m3 m4 eS e b
  generalize w.ln=l at *
  obtain ⟨rx,ry,rdx,rdy⟩:=r
  refine pn hk0 Tryz.func85 ?_
  repeat'(first|refine wk3 ?_|(refine wk2 ?_ ?_<;>intro _)|fail)
  all_goals first|exact Zg rfl rfl|(exfalso; simp_all; done)
 by_cases gl:g<0
 ·have e:htN w n sx sy r=some ⟨f,-g,decide (xW w r<=0)&&decide (0<=yW w r),decide (xW w r<0)&&decide (0<yW w r)⟩:=by unfold htN; rw [hgg,hff,if_neg g0,if_pos gl]
  rw [e]
  obtain ⟨k1,k2,k3⟩:=key (-g) (-f) (by omega) (by omega)
  have hX:a * -g - -f*(sx*r.dx+sy*r.dy)=(sx*sx+sy*sy) * -xW w r:=by
   rw [show a * -g - -f*(sx*r.dx+sy*r.dy) = -(a*g-f*(sx*r.dx+sy*r.dy)) by grind,hal]; grind
  obtain ⟨q1,q2⟩:=qin (q:=sx*sx+sy*sy) (X:=-xW w r) (M:=n * -g) hq
  rw [hX] at k1
  rw [<-k1] at q1 q2
  rw [<-k2] at q1
  rw [<-k3] at q2
  have w0:Qa Qb (0-g) = -g:=by rw [W_eq (by omega) (by omega)]; omega
  have w1:Qa Qb (0-f) = -f:=by rw [W_eq (by omega) (by omega)]; omega
  have w2:Qa Qb (0-Qa Qb (0-f))=f:=by rw [w1,W_eq (by omega) (by omega)]; omega
  rw [show (decide (0 <= -xW w r)&&decide (-xW w r<=n * -g))=(decide (xW w r<=0)&&decide (0<=yW w r)) by rw [hyw,show n * -g = -(n*g) by grind,Sc,Qc,Qc]; simp only [decide_eq_true_eq]; omega,<-w0,<-w1,<-eG] at q1
  rw [show (decide (0 < -xW w r)&&decide (-xW w r<n * -g))=(decide (xW w r<0)&&decide (0<yW w r)) by rw [hyw,show n * -g = -(n*g) by grind,Sc,Qc,Qc]; simp only [decide_eq_true_eq]; omega,<-w0,<-w1,<-eG] at q2
  have hres:mrV (some ⟨f,-g,decide (xW w r<=0)&&decide (0<=yW w r),decide (xW w r<0)&&decide (0<yW w r)⟩)=⟨.tup [.agg [I (Qa Qb (0-Qa Qb (0-f))),I (Qa Qb (0-Qa Qb (Qa Qb (sx*r.dy)-Qa Qb (sy*r.dx)))),Bo (decide (xW w r<=0)&&decide (0<=yW w r)),Bo (decide (xW w r<0)&&decide (0<yW w r))],Bo true],[]⟩:=by rw [w2,eG,w0]; rfl
  rw [hres,<-q1,<-q2]
  have hk0:=Zf c1 (Zf c2 (Zf c3 (Zf c4 Zn7)))
  have t1:¬ Qa Qb (Qa Qb (sx*r.dy)-Qa Qb (sy*r.dx))=0:=by omega
  have t2:Qa Qb (Qa Qb (sx*r.dy)-Qa Qb (sy*r.dx))<0:=by omega
  clear key hal hyw c1 c2 c3 c4 hgg hff haa bd mq m1 m2 m3 m4 eS e b q1 q2 k1 k2 k3 w0 w1 w2 hres hX eG
  generalize w.ln=l at *
  obtain ⟨rx,ry,rdx,rdy⟩:=r
  refine pn hk0 Tryz.func85 ?_
  repeat'(first|refine wk3 ?_|(refine wk2 ?_ ?_<;>intro _)|fail)
  all_goals first|exact Zg rfl rfl|(exfalso; simp_all; done)
 ·have e:htN w n sx sy r=some ⟨-f,g,decide (0<=xW w r)&&decide (yW w r<=0),decide (0<xW w r)&&decide (yW w r<0)⟩:=by unfold htN; rw [hgg,hff,if_neg g0,if_neg gl]
  rw [e]
  obtain ⟨k1,k2,k3⟩:=key g f (by omega) (by omega)
  rw [hal] at k1
  obtain ⟨q1,q2⟩:=qin (q:=sx*sx+sy*sy) (X:=xW w r) (M:=n*g) hq
  rw [<-k1] at q1 q2
  rw [<-k2] at q1
  rw [<-k3] at q2
  have w1:Qa Qb (0-f) = -f:=by rw [W_eq (by omega) (by omega)]; omega
  rw [show (decide (0<=xW w r)&&decide (xW w r<=n*g))=(decide (0<=xW w r)&&decide (yW w r<=0)) by rw [hyw,Sc,Qc,Qc]; simp only [decide_eq_true_eq]; omega,<-eG] at q1
  rw [show (decide (0<xW w r)&&decide (xW w r<n*g))=(decide (0<xW w r)&&decide (yW w r<0)) by rw [hyw,Sc,Qc,Qc]; simp only [decide_eq_true_eq]; omega,<-eG] at q2
  have hres:mrV (some ⟨-f,g,decide (0<=xW w r)&&decide (yW w r<=0),decide (0<xW w r)&&decide (yW w r<0)⟩)=⟨.tup [.agg [I (Qa Qb (0-f)),I (Qa Qb (Qa Qb (sx*r.dy)-Qa Qb (sy*r.dx))),Bo (decide (0<=xW w r)&&decide (yW w r<=0)),Bo (decide (0<xW w r)&&decide (yW w r<0))],Bo true],[]⟩:=by rw [w1,eG]; rfl
  rw [hres,<-q1,<-q2]
  have hk0:=Zf c1 (Zf c2 (Zf c3 (Zf c4 Zn7)))
  have t1:¬ Qa Qb (Qa Qb (sx*r.dy)-Qa Qb (sy*r.dx))=0:=by omega
  have t2:¬ Qa Qb (Qa Qb (sx*r.dy)-Qa Qb (sy*r.dx))<0:=by omega
  clear key hal hyw c1 c2 c3 c4 hgg hff haa bd mq m1 m2 m3 m4 eS e b q1 q2 k1 k2 k3 w1 hres eG
  generalize w.ln=l at *
  obtain ⟨rx,ry,rdx,rdy⟩:=r
  refine pn hk0 Tryz.func85 ?_
  repeat'(first|refine wk3 ?_|(refine wk2 ?_ ?_<;>intro _)|fail)
  all_goals first|exact Zg rfl rfl|(exfalso; simp_all; done)
def laV (a b:Ht):Int:=cmpQ a.nu a.de b.nu b.de
structure HtC (x:Ht):Prop where
 de:0<x.de/\x.de<=200000
 nu : -100000<=x.nu/\x.nu<=100000
theorem e87 {a b:Ht} (ha:HtC a) (hb:HtC b):PCall Tryz.prog 87 [a.av,b.av] ⟨I (laV a b),[]⟩:=by
 have c1:=c187 ha.de.1 hb.de.1 (by have:=ha.de; omega) (by have:=hb.de; omega) (n:=a.nu) (m:=b.nu) (by have:=ha.nu; omega) (by have:=hb.nu; omega)
 have hk0:=Zf c1 Ze
 unfold laV
 clear c1 ha hb
 obtain ⟨a1,a2,a3,a4⟩:=a
 obtain ⟨b1,b2,b3,b4⟩:=b
 refine pn hk0 Tryz.func87 ?_
 repeat'(first|refine wk3 ?_|(refine wk2 ?_ ?_<;>intro _)|fail)
 exact Zc rfl
theorem Yb5 {a b:Ht}:laV a b<0↔a.nu*b.de<b.nu*a.de:=by unfold laV cmpQ; rw [Vv]; omega
theorem Yb4 {a b:Ht}:0<laV a b↔b.nu*a.de<a.nu*b.de:=by unfold laV cmpQ; rw [Vu]; omega
theorem Zwq {a b:Ht}:laV a b=0↔a.nu*b.de=b.nu*a.de:=by unfold laV cmpQ; rw [Zht]; omega
theorem e86 {h:Hal} (hf:h.few) {k:Nat} (hk:k<h.cs.length):PCall Tryz.prog 86 [h.av,I k] ⟨(wlOf h.cs k).ln.av,[]⟩:=c105 hf hk
noncomputable abbrev rLi (h:Hal):List AV->Option PRes:=famA (fun k:Nat=>k<h.cs.length) (fun k=>[h.av,I k]) (fun k=>⟨(wlOf h.cs k).ln.av,[]⟩)
theorem Zfc {h:Hal} {k:Nat} (hk:k<h.cs.length):rLi h [h.av,I k]=some ⟨(wlOf h.cs k).ln.av,[]⟩ :=
 Zl (p:=fun k:Nat=>k<h.cs.length) (g:=fun k=>[h.av,I k]) (r:=fun k=>⟨(wlOf h.cs k).ln.av,[]⟩) (k:=k) (fun j hj=>by
  simp only [Rd,Tt,true_and,and_true] at hj
  rw [Int.ofNat.inj hj]) hk
theorem Ygu {a b:Ln} (h:a.av=b.av):a=b:=by
 obtain ⟨a1,a2,a3,a4⟩:=a
 obtain ⟨b1,b2,b3,b4⟩:=b
 simp only [Rd,Tt,Pj,true_and,and_true] at h
 obtain ⟨rfl,rfl,rfl,rfl⟩:=h
 rfl
def htL (l:Ln) (r:Ry):Option Ht:=htN ⟨0,l.x,l.y,Qa Qb (l.x+l.dx),Qa Qb (l.y+l.dy)⟩ l.n l.sx l.sy r
theorem Ycg {w:Wl} {n sx sy:Int} (h:Str w n sx sy) (r:Ry):htL w.ln r=htN w n sx sy r:=by
 obtain ⟨a1,a2,a3,a4,a5⟩:=h.ln
 have e:=ln_b h
 have e1:Qa Qb (w.ln.x+w.ln.dx)=w.tx:=congrArg Pt.x e
 have e2:Qa Qb (w.ln.y+w.ln.dy)=w.ty:=congrArg Pt.y e
 unfold htL
 rw [a3,a4,a5,e1,e2]
 rfl
noncomputable abbrev rMr:List AV->Option PRes:=famA (fun q:Ln × Ry=>RyB q.2/\∃ w n sx sy,Str w n sx sy/\q.1=w.ln) (fun q=>[q.1.av,q.2.ra]) (fun q=>mrV (htL q.1 q.2))
theorem Zv1 {pt:PC} (hp:PCOK Tryz.prog pt):PCOK Tryz.prog (ins 85 rMr pt):=Zn (fun q hq=>by
 obtain ⟨b,w,n,sx,sy,h,e⟩:=hq
 rw [e,Ycg h]
 exact e85 h b) hp
theorem Ybm {r q:Ry} (h:r.ra=q.ra):r=q:=by
 obtain ⟨a,b,c,d⟩:=r
 obtain ⟨a',b',c',d'⟩:=q
 simp only [Rd,Tt,Pj,true_and,and_true] at h
 obtain ⟨rfl,rfl,rfl,rfl⟩:=h
 rfl
theorem Zp3 {w:Wl} {n sx sy:Int} (h:Str w n sx sy) {r:Ry} (b:RyB r):rMr [w.ln.av,r.ra]=some (mrV (htW w r)):=by
 rw [Vn h,<-Ycg h]
 exact Zl (p:=fun q:Ln × Ry=>RyB q.2/\∃ w n sx sy,Str w n sx sy/\q.1=w.ln) (g:=fun q=>[q.1.av,q.2.ra]) (r:=fun q=>mrV (htL q.1 q.2)) (k:=(w.ln,r)) (fun j hj=>by
  rw [Ygu (Ws hj).1,Ybm (Ws (Ws hj).2).1]) ⟨b,w,n,sx,sy,h,rfl⟩
noncomputable abbrev rLa:List AV->Option PRes:=famA (fun q:Ht × Ht=>HtC q.1/\HtC q.2) (fun q=>[q.1.av,q.2.av]) (fun q=>⟨I (laV q.1 q.2),[]⟩)
theorem Ycf {x y:Ht} (h:x.av=y.av):x=y:=by
 obtain ⟨a,b,c,d⟩:=x
 obtain ⟨a',b',c',d'⟩:=y
 simp only [Rd,Tt,AV.bool.injEq,Pj,true_and,and_true] at h
 obtain ⟨rfl,rfl,rfl,rfl⟩:=h
 rfl
theorem Zme {a b:Ht} (ha:HtC a) (hb:HtC b):rLa [a.av,b.av]=some ⟨I (laV a b),[]⟩ :=
 Zl (p:=fun q:Ht × Ht=>HtC q.1/\HtC q.2) (g:=fun q=>[q.1.av,q.2.av]) (r:=fun q=>⟨I (laV q.1 q.2),[]⟩) (k:=(a,b)) (fun j hj=>by
  rw [Ycf (Ws hj).1,Ycf (Ws (Ws hj).2).1]) ⟨ha,hb⟩
theorem Yft {pt:PC} (hp:PCOK Tryz.prog pt):PCOK Tryz.prog (ins 87 rLa pt):=Zn (fun q hq=>e87 hq.1 hq.2) hp
def bcl:Option Cd->List AV
 | none=>[I 0,I 0,Bo false,Bo false]
 | some c=>[I c.nu,I c.de,Bo true,Bo c.well]
def bwl:Option Cd->Int
 | none=>-1
 | some c=>c.i
def fsV (o:Option Cd):PRes:=⟨.tup [I (bwl o),.agg (bcl o)],[]⟩
theorem e47 {h:Hal} (hf:h.few) (g:h.fine) {r:Ry} (b:RyB r) {fr:Int × Int} {last:Int} (B:Bh h.cs r fr last):PCall Tryz.prog 47 [h.av,r.ra,I last] (fsV (bstR (Yi h.cs r fr last) h.cs.length)):=by
 have hk0:PCOK Tryz.prog (ins 86 (rLi h) (ins 85 rMr (ins 87 rLa pt0))):=Zn (fun k hk=>e86 hf hk) (Zv1 (Yft Ze))
 have hwc:h.ws.length=h.cs.length:=g.le.2.2.1
 have hl3:h.cs.length<1000:=hf.2.1
 have len:(h.ws.map Wal.av).length=h.cs.length:=by simp [hwc]
 obtain ⟨y,hy1,hy2,hyc,hyl⟩:∃ y:Ht,y.nu=fr.1/\y.de=fr.2/\HtC y/\((last = -1/\y=⟨0,1,false,false⟩)\/∃ i:Nat,i<h.cs.length/\last=(i:Int)/\htW (wlOf h.cs i) r=some y):=by
  rcases B.last with ⟨h1,h2⟩|⟨i,hi,h1,h2,y,hy,h3,h4⟩
  ·exact ⟨⟨0,1,false,false⟩,by rw [h2],by rw [h2],⟨by decide,by decide⟩,.inl ⟨h1,rfl⟩⟩
  ·obtain ⟨n,sx,sy,hs⟩:=g.st i hi
   have hb:=Zjy hs b (by rw [<-Vn hs]; exact hy)
   exact ⟨y,h3,h4,⟨hb.de,hb.nu⟩,.inr ⟨i,hi,h1,hy⟩⟩
 have hMr:=fun k (hk:k<h.cs.length)=>Zp3 (g.st k hk).choose_spec.choose_spec.choose_spec b
 have hbm:∀ k,k<=h.cs.length->∀ c,bstR (Yi h.cs r fr last) k=some c->HtC ⟨c.nu,c.de,true,c.well⟩:=fun k hk c e=>by
  rw [Zyw (m:=h.cs.length) (fun i j b c hij hj h1 h2 h3=>Zs4 g i j b c hij hj h1 h2 h3) k hk] at e
  obtain ⟨i,hi,e2⟩:=Vs e
  have hb:=Ye6 g b (by omega) e2
  exact ⟨hb.de,hb.nu⟩
 rcases hyl with ⟨rfl,rfl⟩|⟨i,hi,rfl,hy⟩
 ·refine bs.pv (sx:=nos) hk0 Tryz.func47 (by kernel_rfl) (by kernel_rfl) (by cases bstR (Yi h.cs r fr _) h.cs.length<;>rfl) ?_
  unfold Zbq
  conv=>whnf
  repeat'(first|refine wk3 ?_|(refine wk2 ?_ ?_<;>intro _)|fail)
  refine Zm (S:=Nat × Int × Option Cd) (fun t=>h.cs.length-t.1)
   (fun t=>[(2,I (-1)),(3,.ptr 0 0 0),(4,.ptr 1 0 0),(6,I 0),(7,.ptr 2 0 0),(8,.ptr 3 0 0),(9,I (bwl t.2.2)),(10,.ptr 4 0 0),(11,I t.2.1)])
   (fun t=>[(4,.row 4 [bcl t.2.2] true false),(3,.row 4 [[I (⟨0,1,false,false⟩:Ht).nu,I (⟨0,1,false,false⟩:Ht).de,Bo (⟨0,1,false,false⟩:Ht).on,Bo (⟨0,1,false,false⟩:Ht).well]] true false),(2,.row 4 [[I 0,I 0,Bo false,Bo false]] true false),(1,.row 4 [[I r.x,I r.y,I r.dx,I r.dy]] true false),(0,.row 9 [h.cells] true false)]) 5 5
   (fun t=>t.2.1=t.1/\t.1<=h.cs.length/\t.2.2=bstR (Yi h.cs r fr (-1)) t.1) (0,0,none) ⟨rfl,Qp _,rfl⟩ (Qd _) [] rfl (kps) (kps) ?_
  rintro ⟨k,ik,acc⟩ ⟨hik,hk,ha⟩
  dsimp only at hik hk ha ⊢
  subst hik
  by_cases hlt:k<h.cs.length
  ·have c3:=hMr k hlt
   have c4:=Zfc hlt
   have hst:bstR (Yi h.cs r fr (-1)) (k+1)=stR acc (Yi h.cs r fr (-1) k):=by rw [bstR,<-ha]
   have hA:∀ b,acc=some b->HtC ⟨b.nu,b.de,true,b.well⟩:=fun c e=>hbm k hk c (by rw [<-ha]; exact e)
   by_cases hkl:(k:Int)=(-1)
   ·exact absurd hkl (by omega)
   ·cases hx:htW (wlOf h.cs k) r with
    | none =>
     have hc:Yi h.cs r fr (-1) k=none:=Zkd hx
     have hst:bstR (Yi h.cs r fr (-1)) (k+1)=acc:=by rw [hst,hc]; cases acc<;>rfl
     rw [hx] at c3
     change _=some (⟨.tup [rh0,Bo false],[]⟩:PRes) at c3
     cases acc<;>refine bs.av (sx:=nos) hk0 ?_<;>repeat'(first|refine wk3 ?_|(refine wk2 ?_ ?_<;>intro _)|fail)
     all_goals first|exact Qr ⟨(k+1,_,_),[],rfl,kps,kps,⟨Zb (by omega),hlt,hst.symm⟩,by dsimp only; omega⟩|(exfalso; simp_all; done)
    | some x =>
     have hc:=Zq6 B hx
     have hxC:HtC x:=by
      obtain ⟨n,sx,sy,hs⟩:=g.st k hlt
      have hb:=Zjy hs b (by rw [<-Vn hs]; exact hx)
      exact ⟨hb.de,hb.nu⟩
     rw [hx] at c3
     change _=some (⟨.tup [x.av,Bo true],[]⟩:PRes) at c3
     have c5:=Zme hxC hyc
     have hpos:0<laV x (⟨0,1,false,false⟩:Ht)↔fr.1*x.de<x.nu*fr.2:=by rw [Yb4,hy1,hy2]
     cases ho:x.on with
     | false =>
      rw [ho] at hc
      rw [if_neg (by simp)] at hc
      have hst:bstR (Yi h.cs r fr (-1)) (k+1)=acc:=by rw [hst,hc]; cases acc<;>rfl
      clear hc hpos c5 hxC hx
      obtain ⟨x1,x2,x3,x4⟩:=x
      subst ho
      cases acc<;>refine bs.av (sx:=nos) hk0 ?_<;>repeat'(first|refine wk3 ?_|(refine wk2 ?_ ?_<;>intro _)|fail)
      all_goals first|exact Qr ⟨(k+1,_,_),[],rfl,kps,kps,⟨Zb (by omega),hlt,hst.symm⟩,by dsimp only; omega⟩|(exfalso; simp_all; done)
     | true =>
      by_cases hp:0<laV x (⟨0,1,false,false⟩:Ht)
      ·rw [if_pos ⟨ho,hpos.1 hp⟩] at hc
       rw [hc] at hst
       clear hc hpos hx
       obtain ⟨x1,x2,x3,x4⟩:=x
       subst ho
       dsimp only at hst
       cases acc with
       | none =>
        have hst:bstR (Yi h.cs r fr (-1)) (k+1)=some ⟨k,x1,x2,x4⟩:=hst
        refine bs.av (sx:=nos) hk0 ?_
        repeat'(first|refine wk3 ?_|(refine wk2 ?_ ?_<;>intro _)|fail)
        all_goals first|exact Qr ⟨(k+1,_,some ⟨k,x1,x2,x4⟩),[],rfl,kps,kps,⟨Zb (by omega),hlt,hst.symm⟩,by dsimp only; omega⟩|(exfalso; simp_all; done)
       | some c =>
        have c6:=Zme hxC (hA c rfl)
        have hng:laV ⟨x1,x2,true,x4⟩ ⟨c.nu,c.de,true,c.well⟩<0↔Zar ⟨k,x1,x2,x4⟩ c:=Yb5
        have hzr:laV ⟨x1,x2,true,x4⟩ ⟨c.nu,c.de,true,c.well⟩=0↔x1*c.de=c.nu*x2:=Zwq
        have hst:bstR (Yi h.cs r fr (-1)) (k+1)=if Zar ⟨k,x1,x2,x4⟩ c\/(x1*c.de=c.nu*x2/\c.well=true) then some ⟨k,x1,x2,x4⟩ else some c:=hst
        have hst:=hst.trans (ite_congr (propext (or_congr hng.symm (and_congr hzr.symm Iff.rfl))) (fun _=>rfl) (fun _=>rfl))
        clear hng hzr hxC hA ha
        generalize laV ⟨x1,x2,true,x4⟩ ⟨c.nu,c.de,true,c.well⟩=L2 at *
        generalize laV ⟨x1,x2,true,x4⟩ (⟨0,1,false,false⟩:Ht)=L1 at *
        obtain ⟨ci,cn,cd,cw⟩:=c
        dsimp only at hst
        by_cases hneg:L2<0
        ·rw [if_pos (.inl hneg)] at hst
         refine bs.av (sx:=nos) hk0 ?_
         repeat'(first|refine wk3 ?_|(refine wk2 ?_ ?_<;>intro _)|fail)
         all_goals first|exact Qr ⟨(k+1,_,some ⟨k,x1,x2,x4⟩),[],rfl,kps,kps,⟨Zb (by omega),hlt,hst.symm⟩,by dsimp only; omega⟩|(exfalso; simp_all; done)
        ·by_cases hz:L2=0
         ·cases cw with
          | true =>
           rw [if_pos (.inr ⟨hz,rfl⟩)] at hst
           refine bs.av (sx:=nos) hk0 ?_
           repeat'(first|refine wk3 ?_|(refine wk2 ?_ ?_<;>intro _)|fail)
           all_goals first|exact Qr ⟨(k+1,_,some ⟨k,x1,x2,x4⟩),[],rfl,kps,kps,⟨Zb (by omega),hlt,hst.symm⟩,by dsimp only; omega⟩|(exfalso; simp_all; done)
          | false =>
           rw [if_neg (by rintro (q|⟨_,q⟩); exact hneg q; cases q)] at hst
           refine bs.av (sx:=nos) hk0 ?_
           repeat'(first|refine wk3 ?_|(refine wk2 ?_ ?_<;>intro _)|fail)
           all_goals first|exact Qr ⟨(k+1,_,some ⟨ci,cn,cd,false⟩),[],rfl,kps,kps,⟨Zb (by omega),hlt,hst.symm⟩,by dsimp only; omega⟩|(exfalso; simp_all; done)
         ·rw [if_neg (by rintro (q|⟨q,_⟩); exact hneg q; exact hz q)] at hst
          refine bs.av (sx:=nos) hk0 ?_
          repeat'(first|refine wk3 ?_|(refine wk2 ?_ ?_<;>intro _)|fail)
          all_goals first|exact Qr ⟨(k+1,_,some ⟨ci,cn,cd,cw⟩),[],rfl,kps,kps,⟨Zb (by omega),hlt,hst.symm⟩,by dsimp only; omega⟩|(exfalso; simp_all; done)
      ·rw [if_neg (fun q=>hp (hpos.2 q.2))] at hc
       have hst:bstR (Yi h.cs r fr (-1)) (k+1)=acc:=by rw [hst,hc]; cases acc<;>rfl
       clear hc hpos hx hxC
       obtain ⟨x1,x2,x3,x4⟩:=x
       subst ho
       generalize laV ⟨x1,x2,true,x4⟩ (⟨0,1,false,false⟩:Ht)=L1 at *
       cases acc<;>refine bs.av (sx:=nos) hk0 ?_<;>repeat'(first|refine wk3 ?_|(refine wk2 ?_ ?_<;>intro _)|fail)
       all_goals first|exact Qr ⟨(k+1,_,_),[],rfl,kps,kps,⟨Zb (by omega),hlt,hst.symm⟩,by dsimp only; omega⟩|(exfalso; simp_all; done)
  ·obtain rfl:k=h.cs.length:=by omega
   rw [<-ha]
   cases acc
   all_goals
    refine bs.av (sx:=nos) hk0 ?_
    repeat'(first|refine wk3 ?_|(refine wk2 ?_ ?_<;>intro _)|fail)
    exact Zg rfl rfl
 ·have c1:=hMr i hi
  rw [hy] at c1
  change _=some (⟨.tup [y.av,Bo true],[]⟩:PRes) at c1
  have c2:=Zfc hi
  refine bs.pv (sx:=nos) hk0 Tryz.func47 (by kernel_rfl) (by kernel_rfl) (by cases bstR (Yi h.cs r fr _) h.cs.length<;>rfl) ?_
  repeat'(first|refine wk3 ?_|(refine wk2 ?_ ?_<;>intro _)|fail)
  refine Zm (S:=Nat × Int × Option Cd) (fun t=>h.cs.length-t.1)
   (fun t=>[(2,I (i:Int)),(3,.ptr 0 0 0),(4,.ptr 1 0 0),(6,I 0),(7,.ptr 2 0 0),(8,.ptr 3 0 0),(9,I (bwl t.2.2)),(10,.ptr 13 0 0),(11,I t.2.1)])
   (fun t=>[(13,.row 4 [bcl t.2.2] true false),(3,.row 4 [[I y.nu,I y.de,Bo y.on,Bo y.well]] true false),(2,.row 4 [[I 0,I 0,Bo false,Bo false]] true false),(1,.row 4 [[I r.x,I r.y,I r.dx,I r.dy]] true false),(0,.row 9 [h.cells] true false)]) 14 14
   (fun t=>t.2.1=t.1/\t.1<=h.cs.length/\t.2.2=bstR (Yi h.cs r fr (i:Int)) t.1) (0,0,none) ⟨rfl,Qp _,rfl⟩ (Qd _) [] rfl (kps) (kps) ?_
  rintro ⟨k,ik,acc⟩ ⟨hik,hk,ha⟩
  dsimp only at hik hk ha ⊢
  subst hik
  by_cases hlt:k<h.cs.length
  ·have c3:=hMr k hlt
   have c4:=Zfc hlt
   have hst:bstR (Yi h.cs r fr (i:Int)) (k+1)=stR acc (Yi h.cs r fr (i:Int) k):=by rw [bstR,<-ha]
   have hA:∀ b,acc=some b->HtC ⟨b.nu,b.de,true,b.well⟩:=fun c e=>hbm k hk c (by rw [<-ha]; exact e)
   by_cases hkl:(k:Int)=(i:Int)
   ·have hc:Yi h.cs r fr (i:Int) k=none:=if_pos hkl
    have hst:bstR (Yi h.cs r fr (i:Int)) (k+1)=acc:=by rw [hst,hc]; cases acc<;>rfl
    cases hx:htW (wlOf h.cs k) r<;>rw [hx] at c3
    ·change _=some (⟨.tup [rh0,Bo false],[]⟩:PRes) at c3
     cases acc<;>refine bs.av (sx:=nos) hk0 ?_<;>repeat'(first|refine wk3 ?_|(refine wk2 ?_ ?_<;>intro _)|fail)
     all_goals first|exact Qr ⟨(k+1,_,_),[],rfl,kps,kps,⟨Zb (by omega),hlt,hst.symm⟩,by dsimp only; omega⟩|(exfalso; simp_all; done)
    ·rename_i x
     change _=some (⟨.tup [x.av,Bo true],[]⟩:PRes) at c3
     cases acc<;>refine bs.av (sx:=nos) hk0 ?_<;>repeat'(first|refine wk3 ?_|(refine wk2 ?_ ?_<;>intro _)|fail)
     all_goals first|exact Qr ⟨(k+1,_,_),[],rfl,kps,kps,⟨Zb (by omega),hlt,hst.symm⟩,by dsimp only; omega⟩|(exfalso; simp_all; done)
   ·cases hx:htW (wlOf h.cs k) r with
    | none =>
     have hc:Yi h.cs r fr (i:Int) k=none:=Zkd hx
     have hst:bstR (Yi h.cs r fr (i:Int)) (k+1)=acc:=by rw [hst,hc]; cases acc<;>rfl
     rw [hx] at c3
     change _=some (⟨.tup [rh0,Bo false],[]⟩:PRes) at c3
     cases acc<;>refine bs.av (sx:=nos) hk0 ?_<;>repeat'(first|refine wk3 ?_|(refine wk2 ?_ ?_<;>intro _)|fail)
     all_goals first|exact Qr ⟨(k+1,_,_),[],rfl,kps,kps,⟨Zb (by omega),hlt,hst.symm⟩,by dsimp only; omega⟩|(exfalso; simp_all; done)
    | some x =>
     have hc:=Zq6 B hx
     have hxC:HtC x:=by
      obtain ⟨n,sx,sy,hs⟩:=g.st k hlt
      have hb:=Zjy hs b (by rw [<-Vn hs]; exact hx)
      exact ⟨hb.de,hb.nu⟩
     rw [hx] at c3
     change _=some (⟨.tup [x.av,Bo true],[]⟩:PRes) at c3
     have c5:=Zme hxC hyc
     have hpos:0<laV x y↔fr.1*x.de<x.nu*fr.2:=by rw [Yb4,hy1,hy2]
     cases ho:x.on with
     | false =>
      rw [ho] at hc
      rw [if_neg (by simp)] at hc
      have hst:bstR (Yi h.cs r fr (i:Int)) (k+1)=acc:=by rw [hst,hc]; cases acc<;>rfl
      clear hc hpos c5 hxC hx
      obtain ⟨x1,x2,x3,x4⟩:=x
      subst ho
      cases acc<;>refine bs.av (sx:=nos) hk0 ?_<;>repeat'(first|refine wk3 ?_|(refine wk2 ?_ ?_<;>intro _)|fail)
      all_goals first|exact Qr ⟨(k+1,_,_),[],rfl,kps,kps,⟨Zb (by omega),hlt,hst.symm⟩,by dsimp only; omega⟩|(exfalso; simp_all; done)
     | true =>
      by_cases hp:0<laV x y
      ·rw [if_pos ⟨ho,hpos.1 hp⟩] at hc
       rw [hc] at hst
       clear hc hpos hx
       obtain ⟨x1,x2,x3,x4⟩:=x
       subst ho
       dsimp only at hst
       cases acc with
       | none =>
        have hst:bstR (Yi h.cs r fr (i:Int)) (k+1)=some ⟨k,x1,x2,x4⟩:=hst
        refine bs.av (sx:=nos) hk0 ?_
        repeat'(first|refine wk3 ?_|(refine wk2 ?_ ?_<;>intro _)|fail)
        all_goals first|exact Qr ⟨(k+1,_,some ⟨k,x1,x2,x4⟩),[],rfl,kps,kps,⟨Zb (by omega),hlt,hst.symm⟩,by dsimp only; omega⟩|(exfalso; simp_all; done)
       | some c =>
        have c6:=Zme hxC (hA c rfl)
        have hng:laV ⟨x1,x2,true,x4⟩ ⟨c.nu,c.de,true,c.well⟩<0↔Zar ⟨k,x1,x2,x4⟩ c:=Yb5
        have hzr:laV ⟨x1,x2,true,x4⟩ ⟨c.nu,c.de,true,c.well⟩=0↔x1*c.de=c.nu*x2:=Zwq
        have hst:bstR (Yi h.cs r fr (i:Int)) (k+1)=if Zar ⟨k,x1,x2,x4⟩ c\/(x1*c.de=c.nu*x2/\c.well=true) then some ⟨k,x1,x2,x4⟩ else some c:=hst
        have hst:=hst.trans (ite_congr (propext (or_congr hng.symm (and_congr hzr.symm Iff.rfl))) (fun _=>rfl) (fun _=>rfl))
        clear hng hzr hxC hA ha
        generalize laV ⟨x1,x2,true,x4⟩ ⟨c.nu,c.de,true,c.well⟩=L2 at *
        generalize laV ⟨x1,x2,true,x4⟩ y=L1 at *
        obtain ⟨ci,cn,cd,cw⟩:=c
        dsimp only at hst
        by_cases hneg:L2<0
        ·rw [if_pos (.inl hneg)] at hst
         refine bs.av (sx:=nos) hk0 ?_
         repeat'(first|refine wk3 ?_|(refine wk2 ?_ ?_<;>intro _)|fail)
         all_goals first|exact Qr ⟨(k+1,_,some ⟨k,x1,x2,x4⟩),[],rfl,kps,kps,⟨Zb (by omega),hlt,hst.symm⟩,by dsimp only; omega⟩|(exfalso; simp_all; done)
        ·by_cases hz:L2=0
         ·cases cw with
          | true =>
           rw [if_pos (.inr ⟨hz,rfl⟩)] at hst
           refine bs.av (sx:=nos) hk0 ?_
           repeat'(first|refine wk3 ?_|(refine wk2 ?_ ?_<;>intro _)|fail)
           all_goals first|exact Qr ⟨(k+1,_,some ⟨k,x1,x2,x4⟩),[],rfl,kps,kps,⟨Zb (by omega),hlt,hst.symm⟩,by dsimp only; omega⟩|(exfalso; simp_all; done)
          | false =>
           rw [if_neg (by rintro (q|⟨_,q⟩); exact hneg q; cases q)] at hst
           refine bs.av (sx:=nos) hk0 ?_
           repeat'(first|refine wk3 ?_|(refine wk2 ?_ ?_<;>intro _)|fail)
           all_goals first|exact Qr ⟨(k+1,_,some ⟨ci,cn,cd,false⟩),[],rfl,kps,kps,⟨Zb (by omega),hlt,hst.symm⟩,by dsimp only; omega⟩|(exfalso; simp_all; done)
         ·rw [if_neg (by rintro (q|⟨q,_⟩); exact hneg q; exact hz q)] at hst
          refine bs.av (sx:=nos) hk0 ?_
          repeat'(first|refine wk3 ?_|(refine wk2 ?_ ?_<;>intro _)|fail)
          all_goals first|exact Qr ⟨(k+1,_,some ⟨ci,cn,cd,cw⟩),[],rfl,kps,kps,⟨Zb (by omega),hlt,hst.symm⟩,by dsimp only; omega⟩|(exfalso; simp_all; done)
      ·rw [if_neg (fun q=>hp (hpos.2 q.2))] at hc
       have hst:bstR (Yi h.cs r fr (i:Int)) (k+1)=acc:=by rw [hst,hc]; cases acc<;>rfl
       clear hc hpos hx hxC
       obtain ⟨x1,x2,x3,x4⟩:=x
       subst ho
       generalize laV ⟨x1,x2,true,x4⟩ y=L1 at *
       cases acc<;>refine bs.av (sx:=nos) hk0 ?_<;>repeat'(first|refine wk3 ?_|(refine wk2 ?_ ?_<;>intro _)|fail)
       all_goals first|exact Qr ⟨(k+1,_,_),[],rfl,kps,kps,⟨Zb (by omega),hlt,hst.symm⟩,by dsimp only; omega⟩|(exfalso; simp_all; done)
  ·obtain rfl:k=h.cs.length:=by omega
   rw [<-ha]
   cases acc
   all_goals
    refine bs.av (sx:=nos) hk0 ?_
    repeat'(first|refine wk3 ?_|(refine wk2 ?_ ?_<;>intro _)|fail)
    exact Zg rfl rfl
abbrev st0:AV:=.agg [.nils,.nils]
theorem e91 {h:Hal} (hf:h.few) (g:h.fine) {k:Nat} (hk2:k<h.cs.length):PCall Tryz.prog 91 [h.av,st0,I k] ⟨P2 (plW (wlOf h.cs k)).1 (plW (wlOf h.cs k)).2,[]⟩:=by
 have hk:k<h.ws.length:=by have:=g.le; omega
 have hk0:=Zf (c89 hf (SK.wall k hk)) (Zsd hf)
 have f3:=hf.2.2.1
 have f4:=hf.2.2.2.1
 have e1:=Ui hk2
 rw [show Zwr h k=(0,(k:Int)) by unfold Zwr; rw [if_pos (by omega)]] at hk0
 rw [Zfg] at e1
 refine pn hk0 Tryz.func91 ?_
 generalize wlOf h.cs k=w at *
 have hp:plW w=if w.ln.dx=0 then (0,w.ln.x) else if w.ln.dy=0 then (1,w.ln.y) else if w.ln.dx=w.ln.dy then (4,Qa Qb (w.ln.x-w.ln.y)) else (3,Qa Qb (w.ln.x+w.ln.y)):=rfl
 rw [hp]
 repeat'(first|refine wk1 ?_|(refine wk2 ?_ ?_<;>intro _)|fail)
 ·rename_i h1; rw [if_pos (of_decide_eq_true h1)]; exact Zg rfl rfl
 ·rename_i h1 h2; rw [if_neg (of_decide_eq_false h1),if_pos (of_decide_eq_true h2)]; exact Zg rfl rfl
 ·rename_i h1 h2 h3; rw [if_neg (of_decide_eq_false h1),if_neg (of_decide_eq_false h2),if_pos (of_decide_eq_true h3)]; exact Zg rfl rfl
 ·rename_i h1 h2 h3; rw [if_neg (of_decide_eq_false h1),if_neg (of_decide_eq_false h2),if_neg (of_decide_eq_false h3)]; exact Zg rfl rfl
theorem e52 {h:Hal} (hf:h.few) (g:h.fine) {k:Nat} (hk:k<h.cs.length):PCall Tryz.prog 52 [h.av,I k] ⟨P2 (plW (wlOf h.cs k)).1 (plW (wlOf h.cs k)).2,[]⟩:=by
 have hk0:=Zf (e91 hf g hk) Ze
 generalize plW (wlOf h.cs k)=p at *
 refine pn hk0 Tryz.func52 ?_
 repeat'(first|refine wk3 ?_|(refine wk2 ?_ ?_<;>intro _)|fail)
 exact Zg rfl rfl
theorem Yia {w:Wl} {n sx sy:Int} (h:Str w n sx sy) {x y:Int} (hx : -45000<=x/\x<=45000) (hy : -45000<=y/\y<=45000) :
  (rmir (plW w).1 (plW w).2 x y 0).1=w.fx+(mvD sx sy (x-w.fx) (y-w.fy)).1/\(rmir (plW w).1 (plW w).2 x y 0).2.1=w.fy+(mvD sx sy (x-w.fx) (y-w.fy)).2:=by
 obtain ⟨d1,d2,d3⟩:=Yc9 h
 have b1:=h.b1
 have b2:=h.b2
 unfold plW mvD
 by_cases c2:sx=0
 ·have t2:w.dx=0:=d2.2 c2
  have c1:¬ sy=0:=fun q=>h.hxy ⟨c2,q⟩
  rw [if_pos t2,if_neg c1,if_pos c2,Zec (by omega) (by omega) hx hy (by omega)]
  dsimp only
  rw [if_pos rfl]
  dsimp only; omega
 ·have t2:¬ w.dx=0:=fun q=>c2 (d2.1 q)
  rw [if_neg t2]
  by_cases c1:sy=0
  ·have t1:w.dy=0:=d1.2 c1
   rw [if_pos t1,if_pos c1,Zec (by omega) (by omega) hx hy (by omega)]
   dsimp only
   rw [if_neg (by omega),if_pos rfl]
   dsimp only; omega
  ·have t1:¬ w.dy=0:=fun q=>c1 (d1.1 q)
   rw [if_neg t1,if_neg c1,if_neg c2]
   by_cases c3:sx=sy
   ·have t3:w.dx=w.dy:=d3.2 c3
    rw [if_pos t3,if_pos c3,W_eq (by omega) (by omega),Zec (by omega) (by omega) hx hy (by omega)]
    dsimp only
    rw [if_neg (by omega),if_neg (by omega),if_neg (by omega),if_neg (by omega)]
    dsimp only; omega
   ·have t3:¬ w.dx=w.dy:=fun q=>c3 (d3.1 q)
    rw [if_neg t3,if_neg c3,W_eq (by omega) (by omega),Zec (by omega) (by omega) hx hy (by omega)]
    dsimp only
    rw [if_neg (by omega),if_neg (by omega),if_neg (by omega),if_pos rfl]
    dsimp only; omega
theorem Zzv {k x y:Int} (hk:0<=k/\k<=4) (h2:k≠2) (hx:sm6 x) (hy:sm6 y):(rmir k 0 x y 0).1=(if k=0 then -x else if k=1 then x else if k=3 then -y else y)/\(rmir k 0 x y 0).2.1=(if k=0 then y else if k=1 then -y else if k=3 then -x else x):=by
 obtain ⟨x1,x2⟩:=hx
 obtain ⟨y1,y2⟩:=hy
 have e1:Qa Qb (2*0)=0:=rfl
 have e2:Qa Qb (0-x) = -x:=by rw [W_eq (by omega) (by omega)]; omega
 have e3:Qa Qb (0-y) = -y:=by rw [W_eq (by omega) (by omega)]; omega
 have e4:Qa Qb (y+0)=y:=by rw [W_eq (by omega) (by omega)]; omega
 have e5:Qa Qb (x-0)=x:=by rw [W_eq (by omega) (by omega)]; omega
 unfold rmir
 rw [e1,e2,e3,e4,e5]
 obtain rfl|rfl|rfl|rfl:k=0\/k=1\/k=3\/k=4:=by omega
 all_goals simp
theorem Yib {w:Wl} {n sx sy:Int} (h:Str w n sx sy) {x y:Int} (hx:sm6 x) (hy:sm6 y) :
  (rmir (plW w).1 0 x y 0).1=(mvD sx sy x y).1/\(rmir (plW w).1 0 x y 0).2.1=(mvD sx sy x y).2:=by
 obtain ⟨d1,d2,d3⟩:=Yc9 h
 unfold plW mvD
 by_cases c2:sx=0
 ·have t2:w.dx=0:=d2.2 c2
  have c1:¬ sy=0:=fun q=>h.hxy ⟨c2,q⟩
  rw [if_pos t2,if_neg c1,if_pos c2]
  have:=Zzv (k:=0) (by omega) (by omega) hx hy
  exact this
 ·have t2:¬ w.dx=0:=fun q=>c2 (d2.1 q)
  rw [if_neg t2]
  by_cases c1:sy=0
  ·have t1:w.dy=0:=d1.2 c1
   rw [if_pos t1,if_pos c1]
   have:=Zzv (k:=1) (by omega) (by omega) hx hy
   exact this
  ·have t1:¬ w.dy=0:=fun q=>c1 (d1.1 q)
   rw [if_neg t1,if_neg c1,if_neg c2]
   by_cases c3:sx=sy
   ·have t3:w.dx=w.dy:=d3.2 c3
    rw [if_pos t3,if_pos c3]
    have:=Zzv (k:=4) (by omega) (by omega) hx hy
    exact this
   ·have t3:¬ w.dx=w.dy:=fun q=>c3 (d3.1 q)
    rw [if_neg t3,if_neg c3]
    have:=Zzv (k:=3) (by omega) (by omega) hx hy
    exact this
theorem e48 {h:Hal} (hf:h.few) (g:h.fine) {k:Nat} (hk:k<h.cs.length) {n sx sy:Int} (hs:Str (wlOf h.cs k) n sx sy) {x y:Int} (hx : -45000<=x/\x<=45000) (hy : -45000<=y/\y<=45000) :
  PCall Tryz.prog 48 [h.av,I k,P2 x y] ⟨P2 ((wlOf h.cs k).fx+(mvD sx sy (x-(wlOf h.cs k).fx) (y-(wlOf h.cs k).fy)).1) ((wlOf h.cs k).fy+(mvD sx sy (x-(wlOf h.cs k).fx) (y-(wlOf h.cs k).fy)).2),[]⟩:=by
 obtain ⟨e1,e2⟩:=Yia hs hx hy
 rw [<-e1,<-e2]
 have hk0:=Zf (e52 hf g hk) (Zf (c96 (plW (wlOf h.cs k)).1 (plW (wlOf h.cs k)).2 x y 0) Ze)
 generalize plW (wlOf h.cs k)=p at *
 obtain ⟨p1,p2⟩:=p
 dsimp only at *
 generalize rmir p1 p2 x y 0=q at *
 obtain ⟨q1,q2,q3⟩:=q
 clear e1 e2
 refine pn hk0 Tryz.func48 ?_
 repeat'(first|refine wk3 ?_|(refine wk2 ?_ ?_<;>intro _)|fail)
 exact Zg rfl rfl
theorem e19 {h:Hal} (hf:h.few) (g:h.fine) {k:Nat} (hk:k<h.cs.length) {n sx sy:Int} (hs:Str (wlOf h.cs k) n sx sy) {x y:Int} (hx:sm6 x) (hy:sm6 y) :
  PCall Tryz.prog 19 [h.av,I k,P2 x y] ⟨P2 (mvD sx sy x y).1 (mvD sx sy x y).2,[]⟩:=by
 obtain ⟨e1,e2⟩:=Yib hs hx hy
 rw [<-e1,<-e2]
 have hk0:=Zf (e52 hf g hk) (Zf (c96 (plW (wlOf h.cs k)).1 0 x y 0) Ze)
 generalize plW (wlOf h.cs k)=p at *
 obtain ⟨p1,p2⟩:=p
 dsimp only at *
 generalize rmir p1 0 x y 0=q at *
 obtain ⟨q1,q2,q3⟩:=q
 clear e1 e2
 refine pn hk0 Tryz.func19 ?_
 repeat'(first|refine wk3 ?_|(refine wk2 ?_ ?_<;>intro _)|fail)
 exact Zg rfl rfl
noncomputable abbrev rFs (h:Hal):List AV->Option PRes:=famA (fun q:Ry × Int=>RyB q.1/\Bh h.cs q.1 (frL h.cs q.1 q.2) q.2) (fun q=>[h.av,q.1.ra,I q.2]) (fun q=>fsV (bstP (Yi h.cs q.1 (frL h.cs q.1 q.2) q.2) h.cs.length))
theorem Zv4 {h:Hal} {r:Ry} (b:RyB r) {fr:Int × Int} {last:Int} (B:Bh h.cs r fr last):rFs h [h.av,r.ra,I last]=some (fsV (bstP (Yi h.cs r fr last) h.cs.length)):=by
 have e:=B.fr
 subst e
 exact Zl (p:=fun q:Ry × Int=>RyB q.1/\Bh h.cs q.1 (frL h.cs q.1 q.2) q.2) (g:=fun q=>[h.av,q.1.ra,I q.2]) (r:=fun q=>fsV (bstP (Yi h.cs q.1 (frL h.cs q.1 q.2) q.2) h.cs.length)) (k:=(r,last)) (fun j hj=>by
  have e1:=Ybm (Ws (Ws hj).2).1
  have e2:=(AV.int.inj (Ws (Ws (Ws hj).2).2).1).2
  rw [e1,e2]) ⟨b,B⟩
theorem Ybr {h:Hal} (hf:h.few) (g:h.fine) {pt:PC} (hp:PCOK Tryz.prog pt):PCOK Tryz.prog (ins 47 (rFs h) pt):=Zn (fun q hq=>by
 rw [<-Yg8 g]
 exact e47 hf g hq.1 hq.2) hp
def eqN:List Int->List Int->Bool
 | [],[]=>true
 | x::a,y::b=>decide (x=y)&&eqN a b
 | _,_=>false
theorem eqN_iff:∀ {a b:List Int},eqN a b=true↔a=b
 | [],[]=>by simp [eqN]
 | x::a,y::b=>by rw [eqN,Qc,decide_eq_true_eq,eqN_iff]; simp
 | [],y::b=>by simp [eqN]
 | x::a,[]=>by simp [eqN]
theorem Zx6 {a b:List Int} (h:a.length≠b.length):eqN a b=false:=by
 rw [Bool.eq_false_iff,ne_eq,eqN_iff]
 intro e; exact h (by rw [e])
theorem c69 {a b:List Int} (hl:a.length<1000000) (hb:b.length<1000000):PCall Tryz.prog 15 [.isl 1 (nl a),.isl 1 (nl b)] ⟨Bo (eqN a b),[]⟩:=by
 have l1:=Zp a
 have l2:=Zp b
 refine pn Ze Tryz.func15 ?_
 by_cases hlen:a.length=b.length
 ·repeat'(first|refine wk1 ?_|(refine wk2 ?_ ?_<;>intro _)|fail)
  refine Zm (S:=Nat × Int) (fun t=>a.length-t.1) (fun t=>[(0,.isl 1 (nl a)),(1,.isl 1 (nl b)),(5,I t.2)]) (fun _=>[]) 0 0 (fun t=>t.2=t.1/\t.1<=a.length/\eqN (a.drop t.1) (b.drop t.1)=eqN a b) (0,0) ⟨rfl,Qp _,rfl⟩ (Qd _) [] rfl (kps) (kps) ?_
  rintro ⟨k,i⟩ ⟨hi,hk,hh⟩
  dsimp only at hi hk hh ⊢
  subst hi
  refine bs.av (sx:=nos) Ze ?_
  by_cases hlt:k<a.length
  ·have e1:=Zal hlt
   have e2:=Zal (ns:=b) (k:=k) (by omega)
   rw [Ql hlt,Ql (show k<b.length by omega),eqN] at hh
   by_cases he:a[k]=b[k]'(by omega)
   ·rw [decide_eq_true he,Tv] at hh
    repeat'(first|refine wk1 ?_|(refine wk2 ?_ ?_<;>intro _)|fail)
    exact Qr ⟨(k+1,_),[],rfl,kps,kps,⟨Zb (by omega),hlt,hh⟩,by dsimp only; omega⟩
   ·rw [decide_eq_false he,Nm] at hh
    rw [<-hh]
    repeat'(first|refine wk1 ?_|(refine wk2 ?_ ?_<;>intro _)|fail)
    exact Za rfl
  ·rw [Qo (by omega),Qo (by omega)] at hh
   rw [<-hh]
   repeat'(first|refine wk1 ?_|(refine wk2 ?_ ?_<;>intro _)|fail)
   exact Za rfl
 ·rw [Zx6 hlen]
  repeat'(first|refine wk1 ?_|(refine wk2 ?_ ?_<;>intro _)|fail)
  exact Za rfl
theorem Yai (l:List Int):eqN l l=true:=eqN_iff.2 rfl
open Go Go.Sx Go.Ge
theorem Yfb {h:Hal} (g:h.fine) {o d:V} (b:RyB (ryV o d)) {L:Option Nat} {c:Cd} (e:bstV h.cs o d L=some c):lsW ((wlOf h.cs c.i).ln.n*c.nu,(wlOf h.cs c.i).ln.n*c.de) (1,1)=decide (c.nu<c.de):=by
 obtain ⟨i,hi,ei⟩:=Vs e
 have B:=Ye6 g b hi ei
 have:=Zn2 (a:=c.nu) (b:=c.de) (c:=1) (d:=1) (m:=1) B.n (by omega) B.nu B.de (by omega) (by omega)
 rw [Rw,Rw,Sj] at this
 exact this
theorem e219 {h:Hal} (hf:h.few) (g:h.fine) {o d:V} (b:RyB (ryV o d)) {L:Option Nat} (hl:LP h.cs o L d):PCall Tryz.prog 219 [h.av,(ryV o d).av (laI L),P2 1 1] ⟨Bo (Zlt h.cs o d L),[]⟩:=by
 have c44:=e44 hf g b (Zy2 g hl)
 have hk:PCOK Tryz.prog (ins 44 (one [h.av,(ryV o d).av (laI L)] (mtV h.cs (bstV h.cs o d L))) (ins 80 rLs pt0)):=Zf c44 (Zr3 Ze)
 have c1:=Vi [h.av,(ryV o d).av (laI L)] (mtV h.cs (bstV h.cs o d L))
 have hlt:=fun c e=>Yfb g b (L:=L) (c:=c) e
 unfold Zlt
 generalize one [h.av,(ryV o d).av (laI L)] (mtV h.cs (bstV h.cs o d L))=T at *
 clear c44 b hl
 obtain ⟨ox,oy⟩:=o
 obtain ⟨dx,dy⟩:=d
 cases hb:bstV h.cs (ox,oy) (dx,dy) L with
 | none =>
  rw [hb] at c1
  unfold mtV at c1
  refine pn hk Tryz.func219 ?_
  repeat'(first|refine wk3 ?_|(refine wk2 ?_ ?_<;>intro _)|fail)
  all_goals first|exact Za rfl|(exfalso; simp_all; done)
 | some c =>
  rw [hb] at c1
  have:=hlt c hb
  unfold mtV at c1
  dsimp only at c1 ⊢
  rw [<-this]
  refine pn hk Tryz.func219 ?_
  repeat'(first|refine wk3 ?_|(refine wk2 ?_ ?_<;>intro _)|fail)
  all_goals first|exact Za rfl|(exfalso; simp_all; done)
theorem Yig {q:Pl} (h1:LN 7 q.ca) (h2:LN 4 q.se) (hn:q.ps.length<1000) (ax ay last:Int) (bB bA:Int × Int->Bool)
  (hB:∀ p∈q.ps,PCall Tryz.prog 102 [.agg q.c,rayA ax ay (Qa Qb (p.1-ax)) (Qa Qb (p.2-ay)) last,P2 1 1] ⟨Bo (bB p),[]⟩)
  (hA:∀ p∈q.ps,¬(p.1=ax/\p.2=ay)->bB p=true->PCall Tryz.prog 219 [.agg q.c,rayA ax ay (Qa Qb (p.1-ax)) (Qa Qb (p.2-ay)) last,P2 1 1] ⟨Bo (bA p),[]⟩) :
  ItOK Tryz.prog 218 [] [.ipt q.c,.ipt [I ax,I ay],.ipt [I last]] (Zfs ax ay (fun p=>bB p && !bA p) q.ps):=by
 obtain ⟨nm,ht,fl,ce,ms,ps,wa,ca,se⟩:=q
 dsimp only at h1 h2 hn hB hA ⊢
 have l1:(ps.map pt).length=ps.length:=by simp
 refine bs.yiter (sx:=nos) Ze Tryz.func218 (by kernel_rfl) rfl (by kernel_rfl) fun B Ig l JX hI=>?_
 rcases h1 with rfl|⟨L1,rfl⟩<;>rcases h2 with rfl|⟨L2,rfl⟩
 all_goals
  conv=>whnf
  refine Ygt (S:=Nat × Int) (fun t=>ps.length-t.1) (fun t=>[(0,.yld l),(1,.ipt [.str nm,I ht,.str fl,.str ce,.isl 6 ms,.isl 2 (ps.map pt),.isl 3 wa,_,_]),(2,.ipt [I ax,I ay]),(3,.ipt [I last]),(11,.isl 2 (ps.map pt)),(12,I (ps.map pt).length),(13,I t.2)]) (fun _=>[]) (fun t=>some (Zfs ax ay (fun p=>bB p && !bA p) (ps.drop t.1))) 0 (fun _=>0) (fun t=>t.2=t.1/\t.1<=ps.length) (0,0) ⟨rfl,Qp _⟩ (Qd _) rfl [] rfl (kps) (kps) ?_
  rintro ⟨k,i⟩ ⟨hi,hk⟩
  dsimp only at hi hk
  subst hi
  by_cases hlt:k<ps.length
  ·have e1:(ps.map pt)[((k:Nat):Int).toNat]?=some (pt ps[k]):=by simp [hlt]
   have hm:=Qn hlt
   have hFr:PCOK Tryz.prog (ins 100 rFr pt0):=Zk (fun a res h=>by unfold rFr at h; split at h<;>cases h; exact d87 _ _ _ _) Ze
   have hT1:=Zf (hB _ hm) hFr
   have hT2:=fun e e2=>Zf (hB _ hm) (Zf (hA _ hm e e2) hFr)
   have hG:(Qa Qb ((k:Int)+1)=((k+1:Nat):Int)/\k+1<=ps.length)/\ps.length-(k+1)<ps.length-k:=⟨⟨Zb (by omega),hlt⟩,by omega⟩
   dsimp only
   rw [Ql hlt]
   rw [Zg8]
   generalize ps[k]=p at *
   clear hB hA hm hFr
   obtain ⟨px,py⟩:=p
   dsimp only at e1 hT1 hT2 ⊢
   generalize bB (px,py)=b1 at *
   generalize bA (px,py)=b2 at *
   by_cases c:px=ax/\py=ay
   ·rw [if_pos c]
    clear hT2
    refine bs.yv hT1 hI (sx:=nos) ?_
    repeat'(first|refine wk3 ?_|(refine wk2 ?_ ?_<;>intro _)|fail)
    all_goals first
     | (refine Qr ?_; exact ⟨(k+1,_),[],rfl,kps,kps,rfl,hG.1,hG.2⟩)
     | (exfalso; clear hT1 e1; simp_all; done)
   ·rw [if_neg c]
    cases b1
    ·clear hT2
     refine bs.yv hT1 hI (sx:=nos) ?_
     repeat'(first|refine wk3 ?_|(refine wk2 ?_ ?_<;>intro _)|fail)
     all_goals first
      | (refine Qr ?_; exact ⟨(k+1,_),[],rfl,kps,kps,rfl,hG.1,hG.2⟩)
      | (exfalso; rename_i q; simp at q; exact c q)
    ·have hT:=hT2 c rfl
     clear hT2 hT1
     cases b2
     all_goals
      refine bs.yv hT hI (sx:=nos) ?_
      repeat'(first|refine wk3 ?_|(refine wk2 ?_ ?_<;>intro _)|fail)
     all_goals first
      | (refine Qr ?_; exact ⟨(k+1,_),[],rfl,kps,kps,rfl,hG.1,hG.2⟩)
      | (exfalso; rename_i q; simp at q; exact c q)
      | skip
     all_goals
      refine Yd.mk ⟨rfl,rfl,.same rfl,fun _=>rfl,?_,?_⟩
      all_goals repeat'(first|refine wk3 ?_|(refine wk2 ?_ ?_<;>intro _)|fail)
     all_goals first
      | (refine Qr ?_; exact ⟨(k+1,_),[],rfl,kps,kps,rfl,hG.1,hG.2⟩)
      | exact Qr (.inr rfl)
  ·dsimp only
   rw [Qo (by omega)]
   unfold Zfs
   refine bs.yv Ze hI (sx:=nos) ?_
   repeat'(first|refine wk3 ?_|(refine wk2 ?_ ?_<;>intro _)|fail)
   exact Qr (.inl rfl)
theorem e170 (h:Hal) (ox oy last:Int):PCall Tryz.prog 170 [h.av,P2 ox oy,I last] ⟨.func 218 [] [.ipt h.cells,.ipt [I ox,I oy],.ipt [I last]],[]⟩:=by
 refine PCall.frzFns (rows:=[(9,h.cells),(2,[I ox,I oy]),(1,[I last])]) (ks:=[(0,h.cells),(1,[I ox,I oy]),(2,[I last])]) (by
  intro q hq
  simp only [Ra,Kx,or_false] at hq
  rcases hq with rfl|rfl|rfl<;>exact ⟨_,rfl⟩) ?_
 refine pn Ze Tryz.func170 ?_
 repeat'(first|refine wk3 ?_|(refine wk2 ?_ ?_<;>intro _)|fail)
 exact Yk [0,1,2] rfl rfl rfl
abbrev wv (v:V):List AV:=[I v.1,I v.2]
abbrev wy (v:V):List AV:=[P2 v.1 v.2]
def wsR (vs:List V):PRes:=if vs=[] then ⟨.nils,[]⟩ else ⟨.asl 0 0 (vs.map wv).length,[(2,vs.map wv)]⟩
theorem Yc0 (vs:List V):Vj (wsR vs).blks.length (wsR vs).v=true:=by unfold wsR; split<;>rfl
abbrev capS (h:Hal) (ox oy last:Int):List AV:=[.ipt h.cells,.ipt [I ox,I oy],.ipt [I last]]
theorem e217 (h:Hal) (ox oy last:Int) {vs:List V} (hit:ItOK Tryz.prog 218 [] (capS h ox oy last) (vs.map wy)) (hl:vs.length<1000):PCall Tryz.prog 217 [.nils,.func 218 [] (capS h ox oy last)] (wsR vs):=by
 refine bs.pv (sx:=nos) Ze Tryz.func217 (by kernel_rfl) (by kernel_rfl) (Yc0 vs) ?_
 repeat'(first|refine wk3 ?_|(refine wk2 ?_ ?_<;>intro _)|fail)
 refine Rg.ren (env2:=[(2,.ptr 0 0 0),(6,.func 218 [] (capS h ox oy last))]) (σ2:=⟨[(0,.row 1 [[.nils]] true false)],1⟩) (Ren.of [] rfl (kps) (kps)) ?_
 refine rngV hit rfl rfl rfl rfl (Zmd (S:=Nat × Nat × List (List AV)) (fun s=>gz 1 2 s.1 s.2.2 [(0,.row 1 [[gv 1 s.1 s.2.1]] true false)]) 1 (fun s=>nm2 1 2 s.1)
  (fun xs s=>s.1<=vs.length/\xs=(vs.drop s.1).map wy/\s.2.1=s.2.2.length/\s.2.2=(vs.take s.1).map wv) ?_ ?_ _ (0,0,[]) ⟨Qp _,rfl,rfl,rfl⟩)
 ·rintro x xs ⟨j,len,els⟩ ⟨hj,hx,hlen,he⟩
  dsimp only at hj hx hlen he ⊢
  have hlt:j<vs.length:=by
   rcases Wh j vs.length with c|c
   ·exact c
   ·rw [Qo c] at hx; cases hx
  rw [Ql hlt,List.map_cons] at hx
  obtain ⟨rfl,rfl⟩:=Ws hx
  have e4:els.length<2000:=by rw [he,List.length_map,List.length_take]; omega
  have e5:(vs.take (j+1)).map wv=els++[wv vs[j]]:=by rw [List.take_succ_eq_append_getElem hlt,List.map_append,<-he]; rfl
  generalize vs[j]=v at *
  obtain ⟨vx,vy⟩:=v
  refine ⟨rfl,?_⟩
  cases j with
  | zero =>
   have hz:els=[]:=he
   subst hz
   refine bs.av (sx:=nos) Ze ?_
   repeat'(first|refine wk3 ?_|(refine wk2 ?_ ?_<;>intro _)|fail)
   refine Bd.mk (bs.av (sx:=nos) Ze ?_)
   repeat'(first|refine wk3 ?_|(refine wk2 ?_ ?_<;>intro _)|fail)
   exact Qr ⟨(1,_,[wv (vx,vy)]),[(1,3)],rfl,kps,by omega,rfl,rfl,e5.symm⟩
  | succ j =>
   refine bs.av (sx:=nos) Ze ?_
   repeat'(first|refine wk3 ?_|(refine wk2 ?_ ?_<;>intro _)|fail)
   refine Bd.mk (bs.av (sx:=nos) Ze ?_)
   repeat'(first|refine wk3 ?_|(refine wk2 ?_ ?_<;>intro _)|fail)
   exact Qr ⟨(j+2,_,els++[wv (vx,vy)]),[(1,4)],rfl,kps,by omega,rfl,by exact List.length_append.symm,e5.symm⟩
 ·rintro ⟨j,len,els⟩ ⟨hj,hx,hlen,he⟩
  dsimp only at hj hx hlen he ⊢
  have hlt:vs.length<=j:=by
   rcases Wh j vs.length with c|c
   ·rw [Ql c] at hx; cases hx
   ·exact c
  rw [List.take_of_length_le hlt] at he
  subst he
  have hjl:j=vs.length:=by omega
  unfold wsR
  cases j with
  | zero =>
   have hz:vs=[]:=List.length_eq_zero_iff.1 hjl.symm
   rw [if_pos hz]
   repeat'(first|refine wk3 ?_|(refine wk2 ?_ ?_<;>intro _)|fail)
   exact Zg rfl rfl
  | succ j =>
   have hz:vs≠[]:=fun q=>by rw [q] at hjl; cases hjl
   rw [if_neg hz]
   repeat'(first|refine wk3 ?_|(refine wk2 ?_ ?_<;>intro _)|fail)
   exact Yk [1] rfl (by rw [hlen]; rfl) rfl
theorem e169 (h:Hal) (ox oy last:Int) {vs:List V} (hit:ItOK Tryz.prog 218 [] (capS h ox oy last) (vs.map wy)) (hl:vs.length<1000):PCall Tryz.prog 169 [.func 218 [] (capS h ox oy last)] (wsR vs):=by
 have c1:=e217 h ox oy last hit hl
 unfold wsR at c1 ⊢
 split
 ·rename_i hz
  rw [if_pos hz] at c1
  refine pn (Zf c1 Ze) Tryz.func169 ?_
  repeat'(first|refine wk3 ?_|(refine wk2 ?_ ?_<;>intro _)|fail)
  exact Zg rfl rfl
 ·rename_i hz
  rw [if_neg hz] at c1
  refine pn (Zf c1 Ze) Tryz.func169 ?_
  repeat'(first|refine wk3 ?_|(refine wk2 ?_ ?_<;>intro _)|fail)
  exact Yk [0] rfl rfl rfl
end Go.Proofs.YtanbhfpalahjcaaGreat
namespace Go.Ge
def g1 (u:V):Prop:=Ov u.1 u.2=1
def red (w:V):V:=(w.1.tdiv (Ov w.1 w.2:Nat),w.2.tdiv (Ov w.1 w.2:Nat))
theorem Zd0 {u:V} (h:g1 u):u≠(0,0):=fun q=>by
 rw [q] at h
 unfold g1 at h
 simp at h
theorem Vq {w:V} (h:w≠(0,0)):∃ g:Int,0<g/\w.1=g*(red w).1/\w.2=g*(red w).2/\g1 (red w)/\g=(Ov w.1 w.2:Nat):=by
 have hp:0<Ov w.1 w.2:=by
  rcases Oj (Ov w.1 w.2) with z|z
  ·exfalso
   rw [Int.gcd_eq_zero_iff] at z
   exact h (Tk z.1 z.2)
  ·exact z
 have d1:((Ov w.1 w.2:Nat):Int) ∣ w.1:=Int.gcd_dvd_left ..
 have d2:((Ov w.1 w.2:Nat):Int) ∣ w.2:=Int.gcd_dvd_right ..
 refine ⟨(Ov w.1 w.2:Nat),by omega,?_,?_,?_,rfl⟩
 ·exact (Fz d1).symm
 ·exact (Fz d2).symm
 ·unfold g1 red
  dsimp only
  obtain ⟨a,ha⟩:=d1
  obtain ⟨b,hb⟩:=d2
  have hg:((Ov w.1 w.2:Nat):Int)≠0:=by omega
  generalize hG:Ov w.1 w.2=G at *
  rw [ha,hb,Ma _ hg,Ma _ hg]
  have e:Ov (G*a) (G*b)=G*Ov a b:=by rw [Int.gcd_mul_left]; simp
  rw [<-ha,<-hb,hG] at e
  rcases Oj (Ov a b) with z|z
  ·rw [z] at e; omega
  ·have:G*Ov a b=G*1:=by omega
   exact Nat.eq_of_mul_eq_mul_left hp this
theorem Zzw {w:V} (h:w≠(0,0)) (x:V):∃ g:Int,0<g/\cr w x=g*cr (red w) x/\cr x w=g*cr x (red w):=by
 obtain ⟨g,g0,e1,e2,_,_⟩:=Vq h
 refine ⟨g,g0,?_,?_⟩<;>(unfold cr; rw [e1,e2]; grind)
theorem Vh {w x:V} (h:w≠(0,0)):(0<cr (red w) x↔0<cr w x)/\(0<cr x (red w)↔0<cr x w):=by
 obtain ⟨g,g0,e1,e2⟩:=Zzw h x
 rw [e1,e2]
 exact ⟨⟨fun q=>Qv g0 q,fun q=>Zr q g0⟩,⟨fun q=>Qv g0 q,fun q=>Zr q g0⟩⟩
theorem Zhx {w:V} (h:w≠(0,0)) {B:Int} (h1 : -B<=w.1/\w.1<=B) (h2 : -B<=w.2/\w.2<=B):(-B<=(red w).1/\(red w).1<=B)/\(-B<=(red w).2/\(red w).2<=B):=by
 obtain ⟨g,g0,e1,e2,_,_⟩:=Vq h
 have k:∀ x y:Int,x=g*y -> -B<=x/\x<=B -> -B<=y/\y<=B:=fun x y e hb=>by
  rcases Int.le_total 0 y with c|c
  ·have:=Qk (by omega:(1:Int)<=g) c
   omega
  ·have:=Qk (by omega:(1:Int)<=g) (by omega:0 <= -y)
   simp only [Rp,Sj] at this
   omega
 exact ⟨k _ _ e1 h1,k _ _ e2 h2⟩
theorem Yg7 {u v d:V} (hu:g1 u) (hv:g1 v) (h:cr u v=0) (h1:0<cr d u) (h2:0<cr d v):u=v:=by
 have dv:∀ {a b c e:Int},Ov a b=1->a*e=b*c->a.natAbs ∣ c.natAbs:=fun {a b c e} hg he=>by
  have h1:a.natAbs*e.natAbs=b.natAbs*c.natAbs:=by rw [<-Jx,<-Jx,he]
  exact Nat.Coprime.dvd_of_dvd_mul_left (k:=a.natAbs) (n:=c.natAbs) (m:=b.natAbs) hg ⟨e.natAbs,h1.symm⟩
 unfold g1 at hu hv
 have hc:=h
 unfold cr at h
 have hu' : Ov u.2 u.1=1:=by rw [Qaf]; exact hu
 have hv' : Ov v.2 v.1=1:=by rw [Qaf]; exact hv
 have a1:u.1.natAbs=v.1.natAbs:=Qao (dv hu (show u.1*v.2=u.2*v.1 by omega)) (dv hv (show v.1*u.2=v.2*u.1 by rw [Rl v.1,Rl v.2]; omega))
 have a2:u.2.natAbs=v.2.natAbs:=Qao (dv hu' (show u.2*v.1=u.1*v.2 by omega)) (dv hv' (show v.2*u.1=v.1*u.2 by rw [Rl v.1,Rl v.2]; omega))
 have b1:=Hz.1 a1
 have b2:=Hz.1 a2
 rcases b1 with b1|b1<;>rcases b2 with b2|b2
 ·exact Tk b1 b2
 ·rw [b1,b2] at h
  have:v.1*v.2=0:=by
   have : -v.2*v.1 = -(v.1*v.2):=by grind
   omega
  rcases Wv.1 this with z|z
  ·exfalso
   unfold cr at h1 h2
   rw [b1,b2,z] at h1
   rw [z] at h2
   simp at h1 h2
   have q1:d.1 * -v.2 = -(d.1*v.2):=Rp _ _
   have q2:d.2 * -v.1 = -(d.2*v.1):=Rp _ _
   omega
  ·exact Tk b1 (by omega)
 ·rw [b1,b2] at h
  have:v.1*v.2=0:=by
   have : -v.1*v.2 = -(v.1*v.2):=by grind
   have:v.2*v.1=v.1*v.2:=Rl _ _
   omega
  rcases Wv.1 this with z|z
  ·exact Tk (by omega) b2
  ·exfalso
   unfold cr at h1 h2
   rw [b1,b2,z] at h1
   rw [z] at h2
   simp at h1 h2
   have q1:d.1 * -v.2 = -(d.1*v.2):=Rp _ _
   have q2:d.2 * -v.1 = -(d.2*v.1):=Rp _ _
   omega
 ·exfalso
  unfold cr at h1 h2
  rw [b1,b2] at h1
  simp only [Rp] at h1
  omega
theorem Yg5 {u v:V} (hu:u≠(0,0)) (hv:v≠(0,0)) (h:hf u=hf v):∃ d,0<cr d u/\0<cr d v:=by
 rcases Zas u with z|z
 ·have a:=hf_0 z
  have b:=hf_0 (h ▸ z)
  refine ⟨((u.1.natAbs:Int)+v.1.natAbs+1,-1),?_,?_⟩
  ·unfold cr; dsimp only
   rcases Pc a.1 with q|q
   ·have:=Qw (by omega:1<=u.2) (by omega:0<=(u.1.natAbs:Int)+v.1.natAbs+1)
    omega
   ·have:=a.2 q.symm
    rw [<-q,Sb]; omega
  ·unfold cr; dsimp only
   rcases Pc b.1 with q|q
   ·have:=Qw (by omega:1<=v.2) (by omega:0<=(u.1.natAbs:Int)+v.1.natAbs+1)
    omega
   ·have:=b.2 q.symm
    rw [<-q,Sb]; omega
 ·have a:=hf_1 z
  have b:=hf_1 (h ▸ z)
  have nz:∀ {x:V},x≠(0,0)->x.2=0->x.1<=0->x.1<0:=fun {x} hx h2 h1=>by
   rcases Pc h1 with q|q
   ·exact q
   ·exact absurd (Tk q h2) hx
  refine ⟨(-((u.1.natAbs:Int)+v.1.natAbs+1),1),?_,?_⟩
  ·unfold cr; dsimp only
   rw [Tq]
   rcases Pc a.1 with q|q
   ·have:=Qw (by omega:1 <= -u.2) (by omega:0<=(u.1.natAbs:Int)+v.1.natAbs+1)
    rw [Rp] at this
    omega
   ·have:=nz hu q (a.2 q)
    rw [q,Sb]; omega
  ·unfold cr; dsimp only
   rw [Tq]
   rcases Pc b.1 with q|q
   ·have:=Qw (by omega:1 <= -v.2) (by omega:0<=(u.1.natAbs:Int)+v.1.natAbs+1)
    rw [Rp] at this
    omega
   ·have:=nz hv q (b.2 q)
    rw [q,Sb]; omega
theorem Zro {u v:V} (hu:g1 u) (hv:g1 v):sn u v\/u=v\/sn v u:=by
 by_cases c:hf u=hf v
 ·rcases We 0 (cr u v) with q|q|q
  ·exact .inl (.inr ⟨c,q⟩)
  ·obtain ⟨d,d1,d2⟩:=Yg5 (Zd0 hu) (Zd0 hv) c
   exact .inr (.inl (Yg7 hu hv q.symm d1 d2))
  ·exact .inr (.inr (.inr ⟨c.symm,by rw [Zh]; omega⟩))
 ·rcases Yh7 (u:=u) (v:=v) (.inl c) with q|q
  ·exact .inl q
  ·exact .inr (.inr q)
def inS (lo hi v:V):Prop:=0<=cr lo v/\0<=cr v hi
theorem Zw4 {lo hi v:V} (h:0<cr lo hi) (hv:inS lo hi v) (hn:v≠(0,0)):0<cr (mix 1 (-1) lo hi) v:=by
 rw [Yr,Sj,Tq,Sj]
 have:=Zh hi v
 have h1:=hv.1
 have h2:=hv.2
 rcases Int.lt_or_le 0 (cr lo v+cr v hi) with q|q
 ·omega
 ·exfalso
  exact hn (Zpe (P:=lo) (Q:=hi) (by omega) (by omega) (by omega))
theorem Zms {lo hi u v:V} (h:0<cr lo hi) (hu:inS lo hi u) (hv:inS lo hi v) (gu:g1 u) (gv:g1 v):0<cr u v\/u=v\/0<cr v u:=by
 rcases We 0 (cr u v) with q|q|q
 ·exact .inl q
 ·exact .inr (.inl (Yg7 gu gv q.symm (Zw4 h hu (Zd0 gu)) (Zw4 h hv (Zd0 gv))))
 ·exact .inr (.inr (by rw [Zh]; omega))
theorem Zw3 {lo hi u v w:V} (h:0<cr lo hi) (hu:inS lo hi u) (hv:inS lo hi v) (hw:inS lo hi w) (gu:g1 u) (gv:g1 v) (gw:g1 w) (h1:0<cr u v) (h2:0<cr v w):0<cr u w :=
 Zs0 (Zw4 h hu (Zd0 gu)) (Zw4 h hv (Zd0 gv)) (Zw4 h hw (Zd0 gw)) h1 h2
end Go.Ge
namespace Go.Proofs.YtanbhfpalahjcaaGreat
open Go Go.Sx Go.Ge
def toW (o p:V):V:=(p.1-o.1,p.2-o.2)
def visB (cs:List (Int × Int)) (o:V) (L:Option Nat) (p:V):Bool:=byR cs (ryV o (toW o p)) (laI L) (1,1) && !Zlt cs o (toW o p) L
def Vl (cs:List (Int × Int)) (o:V) (L:Option Nat):List V:=(cs.filter fun p=>!decide (p=o)&&visB cs o L p).map (toW o)
theorem Zlx (cs:List (Int × Int)) {k:Nat} (hk:k<cs.length) (o:V):wa (wlOf cs k) o=toW o cs[k]:=by
 unfold wa toW wlOf cor
 dsimp only
 rw [Pd,Qe hk]
 rfl
theorem toW_zero {o p:V}:toW o p=(0,0)↔p=o:=by
 unfold toW
 constructor
 ·intro h
  rw [Prod.mk.injEq] at h
  exact Tk (by omega) (by omega)
 ·intro h; rw [h]; simp
structure OB (o:V):Prop where
 x : -45000<=o.1/\o.1<=45000
 y : -45000<=o.2/\o.2<=45000
theorem Yhl {h:Hal} (g:h.fine) {p:V} (hp:p∈h.cs):(-5000<=p.1/\p.1<=5000)/\(-5000<=p.2/\p.2<=5000):=by
 obtain ⟨k,hk,rfl⟩:=Wo hp
 have:=g.bd k hk
 unfold cor at this
 rw [Pd,Qe hk] at this
 exact this
theorem Zc2 {h:Hal} (g:h.fine) {o p:V} (ho:OB o) (hp:p∈h.cs):(-50000<=(toW o p).1/\(toW o p).1<=50000)/\(-50000<=(toW o p).2/\(toW o p).2<=50000):=by
 have:=Yhl g hp
 have a:=ho.x
 have b:=ho.y
 unfold toW
 dsimp only
 omega
theorem Zi8 {o d:V} (ho:OB o) (h1 : -100000<=d.1/\d.1<=100000) (h2 : -100000<=d.2/\d.2<=100000):RyB (ryV o d):=⟨ho.x,ho.y,h1,h2⟩
theorem Zyu {h:Hal} (g:h.fine) {o d:V} (b:RyB (ryV o d)) {L:Option Nat} (hL:∀ l,L=some l->l<h.cs.length):byR h.cs (ryV o d) (laI L) (1,1)=true↔LP h.cs o L d/\pbey (sgH h.cs o) L d:=by
 cases hq:L with
 | none =>
  unfold byR laI
  simp
  exact ⟨fun l q=>(by cases q),fun l t q=>(by cases q)⟩
 | some l =>
  have hl:=hL l hq
  obtain ⟨n,sx,sy,hs⟩:=g.st l hl
  unfold byR laI
  dsimp only
  rw [decide_eq_false (by omega:¬ ((l:Int)<0)),Wr,Ri]
  have hnn:=hs.hn
  cases hx:htN (wlOf h.cs l) n sx sy (ryV o d) with
  | none =>
   rw [Zmp hs b hx,Nm]
   constructor
   ·intro q; cases q
   ·rintro ⟨h1,_⟩
    obtain ⟨_,t,et,hn⟩:=h1 l rfl
    obtain ⟨x,x1,_⟩:=Zma hs et hn
    rw [hx] at x1
    cases x1
  | some x =>
   obtain ⟨q1,q2⟩:=Zif hs b hx
   have hb:=Zjy hs b hx
   have hls:=Zn2 (a:=x.nu) (b:=x.de) (c:=1) (d:=1) (m:=1) ⟨hs.hn,hs.nle⟩ (by omega) hb.nu hb.de (by omega) (by omega)
   rw [Rw,Rw,Sj] at hls
   rw [q1,q2,hls,Qc,decide_eq_true_eq,decide_eq_true_eq]
   constructor
   ·rintro ⟨h1,h2⟩
    obtain ⟨s,s1,s2,s3⟩:=Yen hs hx h1
    refine ⟨fun l' q=>by cases q; exact ⟨hl,s,s1,s2⟩,fun l' t q e=>?_⟩
    cases q
    have:=s1.symm.trans e
    cases this
    rw [s3.c,s3.nn]
    exact Rn h2 hnn
   ·rintro ⟨h1,h2⟩
    obtain ⟨_,t,et,hn⟩:=h1 l rfl
    obtain ⟨y,y1,y2,y3⟩:=Zma hs et hn
    rw [hx] at y1
    cases y1
    have:=h2 l t rfl et
    rw [y3.c,y3.nn] at this
    exact ⟨y2,Sd this (Qg hnn)⟩
theorem Zpp {h:Hal} (g:h.fine) {o p:V} (ho:OB o) (hp:p∈h.cs) {L:Option Nat} (hL:∀ l,L=some l->l<h.cs.length):visB h.cs o L p=true↔LP h.cs o L (toW o p)/\Seen h.cs.length (sgH h.cs o) L (toW o p):=by
 have bd:=Zc2 g ho hp
 have b:RyB (ryV o (toW o p)):=Zi8 ho (by omega) (by omega)
 unfold visB
 rw [Qc,Zyu g b hL]
 constructor
 ·rintro ⟨⟨h1,h2⟩,h3⟩
  exact ⟨h1,h2,(Zpj g h1).1 (by simpa using h3)⟩
 ·rintro ⟨h1,h2,h3⟩
  exact ⟨⟨h1,h2⟩,by rw [(Zpj g h1).2 h3]; rfl⟩
theorem Za1 {h:Hal} (g:h.fine) {o:V} (ho:OB o) {L:Option Nat} (hL:∀ l,L=some l->l<h.cs.length) {w:V}:w∈Vl h.cs o L↔∃ k,k<h.cs.length/\w=wa (wlOf h.cs k) o/\w≠(0,0)/\LP h.cs o L w/\Seen h.cs.length (sgH h.cs o) L w:=by
 unfold Vl
 rw [List.mem_map]
 constructor
 ·rintro ⟨p,hp,rfl⟩
  obtain ⟨h1,h2⟩:=Nb.1 hp
  simp only [Qc,Te,decide_eq_false_iff_not] at h2
  obtain ⟨k,hk,rfl⟩:=Wo h1
  exact ⟨k,hk,(Zlx _ hk o).symm,fun q=>h2.1 (toW_zero.1 q),(Zpp g ho h1 hL).1 h2.2⟩
 ·rintro ⟨k,hk,rfl,h1,h2⟩
  rw [Zlx _ hk] at h1 h2 ⊢
  refine ⟨h.cs[k],Nb.2 ⟨Qn hk,?_⟩,rfl⟩
  simp only [Qc,Te,decide_eq_false_iff_not]
  exact ⟨fun q=>h1 (toW_zero.2 q),(Zpp g ho (Qn hk) hL).2 h2⟩
theorem Ye3 {h:Hal} (g:h.fine) {i j:Nat} (hij:i<j) (hj:j<h.cs.length):cor h.cs i≠cor h.cs j:=by
 intro e
 have l3:=g.le.2.1
 have l12:h.cs.length<=12:=by have:=g.le; omega
 obtain ⟨n,sx,sy,hs⟩:=g.st i (by omega)
 obtain ⟨m,tx,ty,hs2⟩:=g.st j hj
 have zl:∀ {w:Wl} {n sx sy:Int},Str w n sx sy -> ¬ (w.fx=w.tx/\w.fy=w.ty):=fun {w n sx sy} s q=>by
  have a:=s.tx
  have b:=s.ty
  exact s.hxy ⟨Yg (by omega:n*sx=0) s.hn,Yg (by omega:n*sy=0) s.hn⟩
 have st:∀ {w:Wl} {n sx sy:Int},Str w n sx sy->onW w n sx sy w.fx w.fy 1:=fun {w n sx sy} s=>Zr7 (s:=1) (t:=0) s (by decide) (by decide) (by decide) (by decide) (by omega) (by omega)
 have e1:(wlOf h.cs i).fx=(wlOf h.cs j).fx/\(wlOf h.cs i).fy=(wlOf h.cs j).fy:=by
  unfold wlOf
  dsimp only
  rw [e]
  exact ⟨rfl,rfl⟩
 have o1:=st hs
 have o2:=st hs2
 rw [<-e1.1,<-e1.2] at o2
 have p:=Zmj g hij hj
 have tt2:=Zhn hs2 hs (by decide) o2 o1
 have en:∀ k:Nat,(wlOf h.cs k).n=(k:Int):=fun k=>rfl
 unfold Za9 at p
 rw [en,en,decide_eq_false (by omega:¬ (j:Int)<=(i:Int)),Wr,tt2,W_eq (n:=(i:Int)+1) (by omega) (by omega),W_eq (n:=(h.cs.length:Int)-1) (by omega) (by omega)] at p
 by_cases c1:(j:Int)=i+1
 ·refine zl hs ?_
  have:j=i+1:=by omega
  have et:(wlOf h.cs i).tx=(cor h.cs ((i+1)%h.cs.length)).1/\(wlOf h.cs i).ty=(cor h.cs ((i+1)%h.cs.length)).2:=⟨rfl,rfl⟩
  rw [et.1,et.2,Oi (by omega:i+1<h.cs.length),<-this,<-e]
  exact ⟨rfl,rfl⟩
 ·by_cases c2:(i:Int)=0/\(j:Int)=(h.cs.length:Int)-1
  ·refine zl hs2 ?_
   have et:(wlOf h.cs j).tx=(cor h.cs ((j+1)%h.cs.length)).1/\(wlOf h.cs j).ty=(cor h.cs ((j+1)%h.cs.length)).2:=⟨rfl,rfl⟩
   rw [et.1,et.2,show (j+1)%h.cs.length=i by rw [show j+1=h.cs.length by omega,Kk]; omega,e]
   exact ⟨rfl,rfl⟩
  ·rw [decide_eq_false c1,show (decide ((i:Int)=0)&&decide ((j:Int)=(h.cs.length:Int)-1))=false by rw [<-Bool.decide_and,decide_eq_false c2]] at p
   simp at p
theorem Zsz {h:Hal} (g:h.fine):h.cs.Nodup:=by
 unfold List.Nodup
 rw [Tj]
 intro i j hi hj hij
 have:=Ye3 g hij hj
 unfold cor at this
 rw [Pd,Pd,Qe hi,Qe hj] at this
 exact this
theorem Zrt {h:Hal} (g:h.fine) {o:V} {L:Option Nat} {k j:Nat} (hk:k<h.cs.length) (hB:Bef h o L (wa (wlOf h.cs k) o)) (hk0:wa (wlOf h.cs k) o≠(0,0)) (hks:Seen h.cs.length (sgH h.cs o) L (wa (wlOf h.cs k) o))
  (hjs:Seen h.cs.length (sgH h.cs o) L (wa (wlOf h.cs j) o)) (hz:Si (wa (wlOf h.cs k) o) (wa (wlOf h.cs j) o)=0) (hlt:dt (wa (wlOf h.cs k) o) (wa (wlOf h.cs k) o)<dt (wa (wlOf h.cs k) o) (wa (wlOf h.cs j) o)):False:=by
 obtain ⟨i,s,cn,he⟩:=Zrs g hk hB hk0 hks
 generalize wa (wlOf h.cs k) o=c at *
 generalize wa (wlOf h.cs j) o=x at *
 have dc:=Zo5 hk0
 have pd:0<dt c x:=by omega
 have nx:=dt_n hz s
 have hsc:=Zdi cn.e
 have hn:s.c<s.n x:=by
  refine Sd (a:=dt c c) ?_ (Qg dc)
  rw [nx,he]
  exact Wb hlt hsc
 have hC:InC s x:=by
  obtain ⟨a1,_⟩:=Zo6 hz s.b
  obtain ⟨_,a2⟩:=Zo6 hz s.a
  exact ⟨Zai (a:=dt c c) (by rw [a2]; exact Qq (Qg pd) cn.c.1) dc,Zai (a:=dt c c) (by rw [a1]; exact Qq (Qg pd) cn.c.2) dc⟩
 have:=hjs.2 i s ⟨cn.im,cn.e,cn.l,hC,by omega,fun l t e1 e2=>by
  have b:=cn.b l t e1 e2
  have nt:=dt_n hz t
  unfold Ge.lt at *
  refine Sd (a:=dt c c) ?_ (Qg dc)
  have k1:dt c c*(t.c*s.n x)=dt c x*(t.c*s.n c):=by
   have:dt c c*(t.c*s.n x)=t.c*(dt c c*s.n x):=by grind
   rw [this,nx]; grind
  have k2:dt c c*(s.c*t.n x)=dt c x*(s.c*t.n c):=by
   have:dt c c*(s.c*t.n x)=s.c*(dt c c*t.n x):=by grind
   rw [this,nt]; grind
  rw [k1,k2]
  exact Rn b pd⟩
 omega
theorem Zk2 {h:Hal} (g:h.fine) {o:V} {L:Option Nat} (P:V->Prop) (hB:∀ k,k<h.cs.length->P (wa (wlOf h.cs k) o)->wa (wlOf h.cs k) o≠(0,0)->Bef h o L (wa (wlOf h.cs k) o)) {k j:Nat} (hk:k<h.cs.length) (hj:j<h.cs.length)
  (pk:P (wa (wlOf h.cs k) o)) (pj:P (wa (wlOf h.cs j) o)) (hk0:wa (wlOf h.cs k) o≠(0,0)) (hj0:wa (wlOf h.cs j) o≠(0,0)) (hks:Seen h.cs.length (sgH h.cs o) L (wa (wlOf h.cs k) o)) (hjs:Seen h.cs.length (sgH h.cs o) L (wa (wlOf h.cs j) o))
  (e:red (wa (wlOf h.cs k) o)=red (wa (wlOf h.cs j) o)):wa (wlOf h.cs k) o=wa (wlOf h.cs j) o:=by
 have bk:=hB k hk pk hk0
 have bj:=hB j hj pj hj0
 have s1:=fun hz hlt=>Zrt g (j:=j) hk bk hk0 hks hjs hz hlt
 have s2:=fun hz hlt=>Zrt g (j:=k) hj bj hj0 hjs hks hz hlt
 generalize wa (wlOf h.cs k) o=c at *
 generalize wa (wlOf h.cs j) o=x at *
 obtain ⟨a,a0,a1,a2,ag,_⟩:=Vq hk0
 obtain ⟨b,b0,b1,b2,bg,_⟩:=Vq hj0
 rw [e] at a1 a2
 generalize red x=u at *
 have du:=Zo5 (Zd0 bg)
 have z1:Si c x=0:=by unfold Si; rw [a1,a2,b1,b2]; grind
 have z2:Si x c=0:=by rw [Zh,z1]; rfl
 have d1:dt c c=a*(a*dt u u):=by unfold dt; rw [a1,a2]; grind
 have d2:dt c x=a*(b*dt u u):=by unfold dt; rw [a1,a2,b1,b2]; grind
 have qd3:dt x x=b*(b*dt u u):=by unfold dt; rw [b1,b2]; grind
 have d4:dt x c=b*(a*dt u u):=by unfold dt; rw [a1,a2,b1,b2]; grind
 rcases We a b with q|q|q
 ·exfalso
  refine s1 z1 ?_
  rw [d1,d2]
  exact Rn (Wb q du) a0
 ·subst q
  exact Tk (by rw [a1,b1]) (by rw [a2,b2])
 ·exfalso
  refine s2 z2 ?_
  rw [qd3,d4]
  exact Rn (Wb q du) b0
end Go.Proofs.YtanbhfpalahjcaaGreat
namespace Go.Ge
theorem Zmy {β:Type} {R:V->V->Bool} (P:V->Prop) (f:β->V) (tot:∀ x y,P x->P y->x≠y->R x y=true\/R y x=true) (tr:∀ x y z,P x->P y->P z->R x y=true->R y z=true->R x z=true) :
  ∀ (ws:List β) (l:List V),(∀ w∈ws,P (f w))->(∀ x∈l,P x)->Srt (fun a b=>R a b=true) l ->
   Srt (fun a b=>R a b=true) (ws.foldl (fun l w=>ins R l (f w)) l)/\(∀ x,x∈ws.foldl (fun l w=>ins R l (f w)) l↔x∈l\/∃ w∈ws,x=f w)
 | [],l,_,_,hs=>⟨hs,fun x=>by simp⟩
 | w::ws,l,hw,hl,hs=>by
  have h1:=Yei (t:=f w) hs (fun x hx hne=>by
   rcases tot x (f w) (hl x hx) (hw w (by simp)) hne with q|q
   ·exact .inr q
   ·exact .inl q) (fun x y hx hy h1 h2=>tr y x (f w) (hl y hy) (hl x hx) (hw w (by simp)) h1 h2)
  have h2:∀ x∈ins R l (f w),P x:=fun x hx=>by
   rcases (Zqe R l (f w) x).1 hx with q|q
   ·rw [q]; exact hw w (by simp)
   ·exact hl x q
  obtain ⟨k1,k2⟩:=Zmy P f tot tr ws (ins R l (f w)) (fun u hu=>hw u (by simp [hu])) h2 h1
  refine ⟨k1,fun x=>?_⟩
  rw [List.foldl_cons,k2 x,Zqe]
  constructor
  ·rintro ((q|q)|⟨u,hu,q⟩)
   ·exact .inr ⟨w,by simp,q⟩
   ·exact .inl q
   ·exact .inr ⟨u,by simp [hu],q⟩
  ·rintro (q|⟨u,hu,q⟩)
   ·exact .inl (.inr q)
   ·rcases Ra.1 hu with rfl|hu
    ·exact .inl (.inl q)
    ·exact .inr ⟨u,hu,q⟩
theorem Zrn {R:V->V->Prop} (aZ:∀ x y,R x y -> ¬ R y x) {T:List V} (hs:Srt R T) {i j:Nat} (hi:i<T.length) (hj:j<T.length) (h:R T[i] T[j]):i<j:=by
 rcases Kh i j with c|c|c
 ·exact c
 ·subst c; exact absurd h (aZ _ _ h)
 ·have:=Tj.1 hs j i hj hi c
  exact absurd this (aZ _ _ h)
theorem ring {T:List V} (hs:Srt sn T) (hex:∀ a∈T,∃ c∈T,0<cr a c) {i:Nat} (hi:i<T.length) :
  0<cr T[i] (T[(i+1)%T.length]'(Tx _ (by omega)))/\∀ x∈T,¬(0<cr T[i] x/\0<cr x (T[(i+1)%T.length]'(Tx _ (by omega)))):=by
 have pw:=Tj.1 hs
 have aZ:∀ x y,sn x y -> ¬ sn y x:=fun x y=>Zpx
 obtain ⟨c,hc,hac⟩:=hex T[i] (Qn hi)
 obtain ⟨j,hj,rfl⟩:=Wo hc
 have hji:j≠i:=fun q=>by subst q; rw [Zj] at hac; omega
 have low:j<i->hf T[j]=0/\hf T[i]=1:=fun q=>by
  rcases pw j i hj hi q with k|⟨_,k⟩
  ·have:=Zas T[j]; have:=Zas T[i]; omega
  ·have:=Zh T[i] T[j]; omega
 by_cases hl:i+1<T.length
 ·have hm:(i+1)%T.length=i+1:=Oi hl
  have eb:T[(i+1)%T.length]'(Tx _ (by omega))=T[i+1]:=by congr 1
  rw [eb]
  have hab:=pw i (i+1) hi hl (by omega)
  have pos:0<cr T[i] T[i+1]:=by
   rcases Kh j (i+1) with q|q|q
   ·obtain ⟨_,q2⟩:=low (by omega)
    rcases hab with k|⟨_,k⟩
    ·have:=Zas T[i+1]; omega
    ·exact k
   ·subst q; exact hac
   ·exact Ydz hab (pw (i+1) j hl hj q) hac
  refine ⟨pos,fun x hx hh=>?_⟩
  obtain ⟨k,hk,rfl⟩:=Wo hx
  obtain ⟨h1,h2⟩:=Ztu pos hh.1 hh.2 hab
  have:=Zrn aZ hs hi hk h1
  have:=Zrn aZ hs hk hl h2
  omega
 ·have hl2:i+1=T.length:=by omega
  have hm:(i+1)%T.length=0:=by rw [hl2,Kk]
  have eb:T[(i+1)%T.length]'(Tx _ (by omega))=T[0]'(by omega):=by congr 1
  rw [eb]
  have hj2:j<i:=by omega
  have hba:=pw 0 i (by omega) hi (by omega)
  have pos:0<cr T[i] (T[0]'(by omega)):=by
   refine Zt5 hba (pw j i hj hi hj2) ?_ hac
   by_cases q:j=0
   ·subst q; exact .inl rfl
   ·exact .inr (pw 0 j (by omega) hj (by omega))
  refine ⟨pos,fun x hx hh=>?_⟩
  obtain ⟨k,hk,rfl⟩:=Wo hx
  by_cases k0:k=0
  ·subst k0
   have:=hh.2
   rw [Zj] at this
   omega
  by_cases ki:k=i
  ·subst ki
   have:=hh.1
   rw [Zj] at this
   omega
  have s1:=pw 0 k (by omega) hk (by omega)
  have s2:=pw k i hk hi (by omega)
  rcases s2 with q|⟨_,q⟩
  ·rcases s1 with z|⟨_,z⟩
   ·have:=Zas (T[0]'(by omega)); have:=Zas T[i]; have:=Zas T[k]; omega
   ·have:=Zh T[k] (T[0]'(by omega)); omega
  ·have:=Zh T[i] T[k]; omega
theorem Yh9 {T:List V} (hs:Srt sn T) (hne:T≠[]) (hex:∀ a∈T,∃ c∈T,0<cr a c):3<=T.length:=by
 have hp:0<T.length:=List.length_pos_iff.2 hne
 rcases Wh T.length 3 with c|c
 ·exfalso
  have h0:=(ring hs hex hp).1
  by_cases h1:T.length=1
  ·have e:T[(0+1)%T.length]'(Tx _ (by omega))=T[0]:=by congr 1; rw [h1]
   rw [e,Zj] at h0
   omega
  ·have h2:T.length=2:=by omega
   have q:=(ring hs hex (i:=1) (by omega)).1
   have e:T[(0+1)%T.length]'(Tx _ (by omega))=T[1]'(by omega):=by congr 1; rw [h2]
   have e2:T[(1+1)%T.length]'(Tx _ (by omega))=T[0]:=by congr 1; rw [h2]
   rw [e] at h0
   rw [e2,Zh] at q
   omega
 ·exact c
end Go.Ge
