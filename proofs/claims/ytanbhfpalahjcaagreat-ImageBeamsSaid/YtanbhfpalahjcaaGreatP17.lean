/- A part of the proof: lemmas. -/
import Derived.Test.YtanbhfpalahjcaaGreatP16
import Derived.Test.YtanbhfpalahjcaaGreatP14
import Derived.Test.YtanbhfpalahjcaaGreatP8
import Derived.Test.YtanbhfpalahjcaaGreatP7
import Derived.Test.YtanbhfpalahjcaaGreatP9
import Derived.Shelf.SlSortCmp.NoneTotal
set_option linter.unusedVariables false
set_option linter.unusedSimpArgs false
set_option maxRecDepth 100000
set_option maxHeartbeats 16000000
open Bool renaming and_eq_true->Qc,and_true->Pr,eq_false_iff->Qx,eq_iff_iff->Sk,noConfusion->Jb,not_eq_true'->Te
open Go.Ge renaming cr->Sm,ins->Kk
open Go.IntKind renaming i64->Qb,wrap->Qa
open Go.Sx.AV renaming asl->Hy
open Go.Sx.AV.agg renaming injEq->Pw
open Go.Sx.AV.int renaming injEq->Tj
open Go.Sx.Done renaming mk->Qr
open Go.Sx.LpM renaming start->Mi,succ->Wp
open Go.Sx.PCall renaming freeze->La,nilArgs->Jf
open Int renaming le_of_lt->Qg,le_of_mul_le_mul_left->Sy,mul_comm->Rl,toNat_natCast->Re
open List renaming append_assoc->Wb,append_nil->Pf,cons_append->Oo,drop->Wy,drop_eq_getElem_cons->Ql,drop_zero->Wd,filter_append->Hf,filter_cons->Lc,filter_nil->Fb,flatMap_append->Oe,flatMap_cons->Nu,foldl_append->Qaj,foldl_map->Qbw,getElem?_append_left->Sj,getElem?_append_right->Sd,getElem?_eq_getElem->Qd,getElem?_map->Rn,getElem?_set_ne->Mq,getElem_mem->Qn,length->Ob,length_append->Rd,length_cons->Qz,length_drop->Ol,length_eq_zero_iff->Wi,length_map->Qj,length_nil->Ri,length_range->Su,length_take->Sv,map_append->Ro,map_cons->Sf,map_set->Kl,mem_append->Si,mem_map->Ta,mem_range->Rx,mem_singleton->Tt,range->Rw,range_succ->Nb,reverse_cons->Qai,take->Wx,take_length->Wo,take_of_length_le->Tg,take_succ_eq_append_getElem->Qv
open List.cons renaming injEq->Rf
open Nat renaming le_of_ble_eq_true->Qm,le_refl->Qe,min_eq_left->Og,sub_self->Mz,zero_add->Sb,zero_le->Qq
open Option.some renaming inj->Sh
open Prod renaming ext->Tp
namespace Go.Proofs.YtanbhfpalahjcaaGreat
open Go Go.Sx Go.Ge
theorem e23f {ws:List Int} (hl:ws.length<1000):PCall Tryz.prog 23 [wsA ws] ⟨.isl 1 (nl ws),[]⟩:=Jf (c25f ws (by omega)) ⟨.inl (Zrx ws),trivial⟩
noncomputable abbrev rCw:List AV->Option PRes:=famA (fun ws:List Int=>ws.length<1000) (fun ws=>[wsA ws]) (fun ws=>⟨.isl 1 (nl ws),[]⟩)
theorem Yc6 {ws:List Int} (h:ws.length<1000):rCw [wsA ws]=some ⟨.isl 1 (nl ws),[]⟩ :=
 Zq (p:=fun ws:List Int=>ws.length<1000) (g:=fun ws=>[wsA ws]) (r:=fun ws=>⟨.isl 1 (nl ws),[]⟩) (k:=ws) (fun j hj=>by
  simp only [Rf,and_true] at hj
  rw [Zuu hj]) h
theorem Yfi {pt:PC} (hp:PCOK Tryz.prog pt):PCOK Tryz.prog (ins 23 rCw pt):=Zx (fun ws hl=>e23f hl) hp
def mixI (L:List Bm) (j:Nat):List (List AV):=(L.take j).map bmI++(L.drop j).map bmA
theorem Zzu (L:List Bm) (j:Nat):(mixI L j).length=L.length:=by
 unfold mixI
 rw [Rd,Qj,Qj,Sv,Ol]
 omega
theorem Zzv {L:List Bm} {j:Nat} (hj:j<L.length):(mixI L j)[0+((j:Nat):Int).toNat]?=some (bmA L[j]):=by
 rw [Sb,Re]
 unfold mixI
 rw [Sd (by rw [Qj,Sv]; omega),Qj,Sv,Og (by omega),Mz,Rn,List.getElem?_drop,Nat.add_zero,Qd hj]
 rfl
theorem Zzt {L:List Bm} {j:Nat} (hj:j<L.length):Zck (mixI L j) (0+((j:Nat):Int).toNat) (bmI L[j])=mixI L (j+1):=by
 rw [Ua,Sb,Re]
 unfold mixI
 rw [List.set_append_right _ _ (by rw [Qj,Sv]; omega),Qj,Sv,Og (by omega),Mz,Ql hj,Sf,List.set_cons_zero,Qv hj,Ro]
 simp
theorem Zzw (L:List Bm):mixI L L.length=L.map bmI:=by unfold mixI; simp
theorem Zwe (L:List Bm):mixI L 0=L.map bmA:=by unfold mixI; simp
theorem Zyp (m:Bm):∃ Aw,bmA m=[Aw,I m.o.1,I m.o.2,I m.a.1,I m.a.2,I m.b.1,I m.b.2,I m.nx]/\wsA m.ws=Aw/\(Aw = .nils\/Aw = .isl 1 (nl m.ws)):=by
 refine ⟨_,rfl,rfl,?_⟩
 unfold wsA
 cases m.ws with
 | nil=>exact .inl rfl
 | cons x r=>exact .inr rfl
theorem e25 {L:List Bm} (hl:L.length<100000) (hL:∀ m∈L,m.ws.length<1000):PCall Tryz.prog 25 [.isl 8 (L.map bmA)] ⟨.asl 0 0 (L.map bmI).length,[(8,L.map bmI)]⟩:=by
 have hk:=Yfi Ze
 have hhit:=fun (ws:List Int) (h:ws.length<1000)=>Yc6 h
 have l1:(L.map bmA).length=L.length:=Qj _
 have l2:(L.map bmI).length=L.length:=Qj _
 have h1:=Za7 L
 have hz:=Zwe L
 generalize hTB:rCw=TB at *
 refine pn hk Tryz.func25 ?_
 repeat'(first|refine wk3 ?_|(refine wk2 ?_ ?_<;>intro _)|fail)
 refine Zn (S:=Nat × Int × List (List AV)) (fun t=>L.length-t.1) (fun t=>[(0,.isl 8 (L.map bmA)),(3,.asl 1 0 (0+(L.map bmA).length)),(4,I t.2.1)])
  (fun t=>[(1,.row 8 t.2.2 true true)]) 2 2 (fun t=>t.2.1=t.1/\t.1<=L.length/\t.2.2=mixI L t.1) (0,0,L.map bmA) ⟨rfl,Qq _,hz.symm⟩ (Qe _) [] rfl (kps) (kps) ?_
 rintro ⟨j,i,els⟩ ⟨hi,hj,hels⟩
 dsimp only at hi hj hels ⊢
 subst hi
 by_cases hlt:j<L.length
 ·have e1:=Zzv hlt
  have e2:=Zzt hlt
  rw [<-hels] at e1 e2
  have e0:(L.map bmA)[((j:Nat):Int).toNat]?=some (bmA L[j]):=by simp [hlt]
  have lel:els.length=L.length:=by rw [hels,Zzu]
  have t1:=hhit L[j].ws (hL _ (Qn hlt))
  obtain ⟨Aw,eA,hAw,hA⟩:=Zyp L[j]
  have eI:bmI L[j]=[.isl 1 (nl L[j].ws),I L[j].o.1,I L[j].o.2,I L[j].a.1,I L[j].a.2,I L[j].b.1,I L[j].b.2,I L[j].nx]:=rfl
  rw [eA] at e0 e1
  rw [eI] at e2
  rw [hAw] at t1
  generalize L[j]=m at *
  generalize hEE:L.map bmA=EE at *
  clear hTB hL hhit eA eI hz
  have h3:j<EE.length:=by omega
  rcases hA with rfl|rfl
  all_goals
   refine bs.av (sx:=nos) hk ?_
   repeat'(first|refine wk3 ?_|(refine wk2 ?_ ?_<;>intro _)|fail)
  all_goals first
   | exact Qr ⟨(j+1,Qa Qb ((j:Int)+1),_),[],rfl,kps,kps,⟨Zb (by omega),hlt,e2⟩,by dsimp only; omega⟩
   | (exfalso; simp_all; done)
 ·have hjn:j=L.length:=by omega
  subst hjn
  rw [Zzw] at hels
  subst hels
  rw [l1]
  refine bs.av (sx:=nos) hk ?_
  repeat'(first|refine wk3 ?_|(refine wk2 ?_ ?_<;>intro _)|fail)
  exact Yk [1] rfl (by rw [l2]; show Hy 1 0 (0+L.length)=Hy 1 0 L.length; rw [Sb L.length]) rfl
theorem Zpj (a:V):(!(decide (a.1=a.1)&&(decide (a.2=a.2)&&true)))=false:=by simp
theorem e27 {L:List Bm} (hl:L.length<100000) (hL:∀ m∈L,m.ws.length<1000):PCall Tryz.prog 27 [.isl 8 (L.map bmA),.isl 8 (L.map bmA)] ⟨Bo true,[]⟩:=by
 have hk:PCOK Tryz.prog (ins 15 (famA (fun ws:List Int=>ws.length<1000) (fun ws=>[wsA ws,wsA ws]) (fun _=>⟨Bo true,[]⟩)) pt0):=Zx (fun ws hw=>by
  have:=c69 (a:=ws) (b:=ws) (by omega) (by omega)
  rw [Yaa] at this
  exact Jf this ⟨.inl (Zrx ws),.inl (Zrx ws),trivial⟩) Ze
 have hhit:=fun (ws:List Int) (h:ws.length<1000)=>Zq (p:=fun ws:List Int=>ws.length<1000) (g:=fun ws=>[wsA ws,wsA ws]) (r:=fun _=>(⟨Bo true,[]⟩:PRes)) (k:=ws) (fun j hj=>rfl) h
 have l1:(L.map bmA).length=L.length:=Qj _
 generalize famA (fun ws:List Int=>ws.length<1000) (fun ws=>[wsA ws,wsA ws]) (fun _=>(⟨Bo true,[]⟩:PRes))=TB at *
 refine pn hk Tryz.func27 ?_
 repeat'(first|refine wk3 ?_|(refine wk2 ?_ ?_<;>intro _)|fail)
 all_goals first|(exfalso; clear hk hhit hL; simp_all; done)|skip
 refine Zn (S:=Nat × Int) (fun t=>L.length-t.1) (fun t=>[(0,.isl 8 (L.map bmA)),(1,.isl 8 (L.map bmA)),(5,I t.2)]) (fun _=>[]) 0 0 (fun t=>t.2=t.1/\t.1<=L.length) (0,0) ⟨rfl,Qq _⟩ (Qe _) [] rfl (kps) (kps) ?_
 rintro ⟨j,i⟩ ⟨hi,hj⟩
 dsimp only at hi hj ⊢
 subst hi
 by_cases hlt:j<L.length
 ·have e0:(L.map bmA)[((j:Nat):Int).toNat]?=some (bmA L[j]):=by simp [hlt]
  have t1:=hhit L[j].ws (hL _ (Qn hlt))
  obtain ⟨Aw,eA,hAw,hA⟩:=Zyp L[j]
  rw [eA] at e0
  rw [hAw] at t1
  generalize L[j]=m at *
  generalize hEE:L.map bmA=EE at *
  obtain ⟨ws,⟨o1,o2⟩,⟨a1,a2⟩,⟨b1,b2⟩,nx⟩:=m
  dsimp only at e0
  have v1:=Zpj (o1,o2)
  have v2:=Zpj (a1,a2)
  have v3:=Zpj (b1,b2)
  dsimp only at v1 v2 v3
  have v4:(!decide (nx=nx))=false:=by simp
  clear hL hhit eA hAw hEE
  rcases hA with rfl|rfl
  all_goals
   refine bs.av (sx:=nos) hk ?_
   repeat'(first|refine wk3 ?_|(refine wk2 ?_ ?_<;>intro _)|fail)
  all_goals first
   | exact Qr ⟨(j+1,Qa Qb ((j:Int)+1)),[],rfl,kps,kps,⟨Zb (by omega),hlt⟩,by dsimp only; omega⟩
   | (exfalso; clear hk; simp_all; done)
 ·generalize L.map bmA=EE at *
  refine bs.av (sx:=nos) hk ?_
  repeat'(first|refine wk3 ?_|(refine wk2 ?_ ?_<;>intro _)|fail)
  all_goals exact Za rfl
def opnE (h:Hal) (x y n:Int):Int:=if plnE h x y≠0 then plnE h x y else unl (within n 0 4) 2
abbrev zHl:AV:=.agg [.str ⟨#[]⟩,I 0,.str ⟨#[]⟩,.str ⟨#[]⟩,.nils,.nils,.nils,.nils,.nils]
theorem e49a {h:Hal} (hk:h.ok) (he:h.err≠0) (x y n:Int):PCall Tryz.prog 49 [h.av,P2 x y,I n] ⟨.tup [zHl,I h.err],[]⟩:=by
 have c38:=p164 hk
 have hkk:=Zf c38 Ze
 generalize h.err=E at *
 refine pn hkk Tryz.func49 ?_
 repeat'(first|refine wk3 ?_|(refine wk2 ?_ ?_<;>intro _)|fail)
 all_goals first|exact Zg rfl rfl|(exfalso; simp_all; done)
theorem e49b {h:Hal} (hk:h.ok) (he:h.err=0) (x y n:Int):PCall Tryz.prog 49 [h.av,P2 x y,I n] ⟨.tup [h.av,I (opnE h x y n)],[]⟩:=by
 have c38:=p164 hk
 have c40:=e40 hk he x y
 have c42:=d81 n
 have c39:=d78 (l:=[plaE h x y 1,unl (within n 0 4) 2]) (by simp)
 have hE:fstL [plaE h x y 1,unl (within n 0 4) 2]=opnE h x y n:=by
  unfold opnE plnE
  rw [if_pos he]
  simp only [fstL]
  generalize plaE h x y 1=A
  generalize unl (within n 0 4) 2=C
  by_cases a:A=0<;>by_cases c:C=0<;>simp [a,c]
 rw [hE] at c39
 rw [he] at c38
 generalize opnE h x y n=E at *
 generalize plaE h x y 1=A at *
 generalize unl (within n 0 4) 2=C at *
 have hkk:PCOK Tryz.prog (ins 38 (one [h.av] ⟨I 0,[]⟩) (ins 40 (one [h.av,P2 x y] ⟨I A,[]⟩) (ins 42 (one [I n] ⟨I C,[]⟩) (ins 39 (one [.isl 1 [[I A],[I C]]] ⟨I E,[]⟩) pt0)))) :=
  Zf c38 (Zf c40 (Zf c42 (Zf c39 Ze)))
 have h39:=Ue [.isl 1 [[I A],[I C]]] ⟨I E,[]⟩
 refine pn hkk Tryz.func49 ?_
 repeat'(first|refine wk3 ?_|(refine wk2 ?_ ?_<;>intro _)|fail)
 exact Zg rfl rfl
theorem Zrv {h:Hal} (he:h.err≠0) (x y n:Int):opnE h x y n=h.err:=by
 unfold opnE plnE
 rw [if_neg he,if_pos he]
theorem e17x {h:Hal} (hk:h.ok) {x y n:Int} (hx:opnE h x y n≠0):PCall Tryz.prog 17 [h.av,P2 x y,I n] ⟨.tup [.isl 8 [],I (opnE h x y n)],[]⟩:=by
 refine La (res:=⟨.tup [.nils,I (opnE h x y n)],[]⟩) ?_ ⟨rfl,⟨rfl,rfl⟩,trivial⟩
 by_cases he:h.err=0
 ·have hkk:=Zf (e49b hk he x y n) Ze
  generalize opnE h x y n=E at *
  refine pn hkk Tryz.func17 ?_
  repeat'(first|refine wk3 ?_|(refine wk2 ?_ ?_<;>intro _)|fail)
  all_goals first|exact Zg rfl rfl|(exfalso; simp_all; done)
 ·have hkk:=Zf (e49a hk he x y n) Ze
  rw [Zrv he] at *
  generalize h.err=E at *
  refine pn hkk Tryz.func17 ?_
  repeat'(first|refine wk3 ?_|(refine wk2 ?_ ?_<;>intro _)|fail)
  all_goals first|exact Zg rfl rfl|(exfalso; simp_all; done)
theorem e24x {h:Hal} (hk:h.ok) {x y n:Int} (hx:opnE h x y n≠0) (M:List (List AV)):PCall Tryz.prog 24 [h.av,P2 x y,I n,.isl 8 M] ⟨.tup [I 0,I (opnE h x y n)],[]⟩:=by
 by_cases he:h.err=0
 ·have hkk:=Zf (e49b hk he x y n) Ze
  generalize opnE h x y n=E at *
  refine pn hkk Tryz.func24 ?_
  repeat'(first|refine wk3 ?_|(refine wk2 ?_ ?_<;>intro _)|fail)
  all_goals first|exact Zg rfl rfl|(exfalso; simp_all; done)
 ·have hkk:=Zf (e49a hk he x y n) Ze
  rw [Zrv he] at *
  generalize h.err=E at *
  refine pn hkk Tryz.func24 ?_
  repeat'(first|refine wk3 ?_|(refine wk2 ?_ ?_<;>intro _)|fail)
  all_goals first|exact Zg rfl rfl|(exfalso; simp_all; done)
theorem e24 {h:Hal} (hk:h.ok) (he:h.err=0) (g:h.fine) (hS:SortsK Tryz.prog 215 2) {o:V} (k:InSrc h o) (hp:plaE h o.1 o.2 1=0) {n:Nat} (hn:n<=2) {M:List Bm} (hm:M.length<100000) (hM:∀ m∈M,m.ws.length<1000) :
  PCall Tryz.prog 24 [h.av,P2 o.1 o.2,I n,.isl 8 (M.map bmI)] ⟨.tup [I (if bmsE (outB h.cs o n) M=true then (M.length:Int) else 0),I (if bmsE (outB h.cs o n) M=true then 0 else 20)],[]⟩:=by
 have c49:=e49 hk he hp (n:=(n:Int)) (by omega)
 have c50:=e50 hk.f g hS k hn
 have h2000:=Zi9 g k hn
 have hg:=fun m hm=>Zdo g k n (by omega) m hm
 have c57:=e57 (L:=outB h.cs o n) (M:=M) (by omega) hm (fun m hm=>by have:=(hg m hm).2; omega) hM
 have hkk:=Zf c49 (Zf c50 (Zf c57 Ze))
 have h50:=Ue [h.av,P2 o.1 o.2,I n] ⟨.isl 8 ((outB h.cs o n).map bmA),[]⟩
 have h57:=Ue [.isl 8 ((outB h.cs o n).map bmA),.isl 8 (M.map bmI),.func 55 [] []] ⟨Bo (bmsE (outB h.cs o n) M),[]⟩
 have lM:(M.map bmI).length=M.length:=Qj _
 rw [<-lM]
 obtain ⟨x,y⟩:=o
 dsimp only at hkk h50 ⊢
 generalize bmsE (outB h.cs (x,y) n) M=b at *
 generalize (outB h.cs (x,y) n).map bmA=E at *
 generalize M.map bmI=EM at *
 clear hg c57 c50 c49
 generalize one [h.av,P2 x y,I n] ⟨.isl 8 E,[]⟩=T50 at *
 generalize one [.isl 8 E,.isl 8 EM,.func 55 [] []] ⟨Bo b,[]⟩=T57 at *
 cases b
 all_goals
  refine pn hkk Tryz.func24 ?_
  repeat'(first|refine wk3 ?_|(refine wk2 ?_ ?_<;>intro _)|fail)
  all_goals first|exact Zg rfl rfl|(exfalso; simp_all; done)
theorem e177 {a b:V} (ha:Vb a) (hb:Vb b):PCall Tryz.prog 177 [P2 a.1 a.2,P2 b.1 b.2] ⟨I (Sm a b),[]⟩:=by
 obtain ⟨k1,k2,k3⟩:=Zld ha hb
 rw [<-k1]
 obtain ⟨a1,a2⟩:=a
 obtain ⟨b1,b2⟩:=b
 refine pn Ze Tryz.func177 ?_
 repeat'(first|refine wk3 ?_|(refine wk2 ?_ ?_<;>intro _)|fail)
 all_goals exact Zd rfl
theorem e221 (a:V):PCall Tryz.prog 221 [P2 a.1 a.2] ⟨I (hf a),[]⟩:=by
 obtain ⟨x,y⟩:=a
 unfold hf
 dsimp only
 by_cases h1:0<y
 ·refine pn Ze Tryz.func221 ?_
  repeat'(first|refine wk3 ?_|(refine wk2 ?_ ?_<;>intro _)|fail)
  all_goals first|(refine Zd ?_; simp_all; done)|(exfalso; simp_all; omega)
 ·refine pn Ze Tryz.func221 ?_
  repeat'(first|refine wk3 ?_|(refine wk2 ?_ ?_<;>intro _)|fail)
  all_goals first|(refine Zd ?_; simp_all; done)|(refine Zd ?_; simp_all; omega)|(exfalso; simp_all; omega)
theorem Yc5 {pt:PC} (h:PCOK Tryz.prog pt):PCOK Tryz.prog (ins 221 rHf pt):=Zk (fun a res h=>by unfold rHf at h; split at h<;>cases h; exact e221 (_,_)) h
theorem e176 {a b:V} (ha:Vb a) (hb:Vb b) (rd:Bool):PCall Tryz.prog 176 [P2 a.1 a.2,P2 b.1 b.2,Bo rd] ⟨Bo (if rd=true then snB a b else crB a b),[]⟩:=by
 have c177:=e177 ha hb
 have hk:=Yc5 (Zf c177 Ze)
 unfold snB crB
 have h0:=Zaq a
 have h1:=Zaq b
 obtain ⟨a1,a2⟩:=a
 obtain ⟨b1,b2⟩:=b
 dsimp only at hk
 generalize Sm (a1,a2) (b1,b2)=C at *
 cases rd with
 | false =>
  rw [if_neg (by decide)]
  refine pn hk Tryz.func176 ?_
  repeat'(first|refine wk3 ?_|(refine wk2 ?_ ?_<;>intro _)|fail)
  all_goals exact Za rfl
 | true =>
  rw [if_pos rfl]
  refine pn hk Tryz.func176 ?_
  repeat'(first|refine wk3 ?_|(refine wk2 ?_ ?_<;>intro _)|fail)
  all_goals
   generalize hf (a1,a2)=p at *
   generalize hf (b1,b2)=q at *
   refine Za ?_
   simp_all
theorem e96 {h:Hal} (hf:h.few) (g:h.fine) {o a b:V} (ho:OB o) (ba:(-50000<=a.1/\a.1<=50000)/\(-50000<=a.2/\a.2<=50000)) (bb:(-50000<=b.1/\b.1<=50000)/\(-50000<=b.2/\b.2<=50000)) {L:Option Nat} (hp:LP h.cs o L (addV a b)) {c:Cd} (e:bstV h.cs o (addV a b) L=some c) :
  PCall Tryz.prog 96 [h.av,P2 o.1 o.2,I (laI L),P2 a.1 a.2,P2 b.1 b.2] ⟨I (nxtV h.cs o L (addV a b)),[]⟩:=by
 have rb:RyB (ryV o (addV a b)):=Zna ho (by unfold addV; dsimp only; omega) (by unfold addV; dsimp only; omega)
 have qc47:=Zvx rb (Zys g hp)
 have e1:bstP (Yh h.cs (ryV o (addV a b)) (frQ h.cs o (addV a b) L) (laI L)) h.cs.length=some c:=e
 rw [e1] at qc47
 have hk:=Ybh hf g Ze
 have hn:nxtV h.cs o L (addV a b)=c.i:=by unfold nxtV; rw [e]
 rw [hn]
 have ea:(addV a b).1=Qa Qb (a.1+b.1):=(W_eq (n:=a.1+b.1) (by omega) (by omega)).symm
 have eb:(addV a b).2=Qa Qb (a.2+b.2):=(W_eq (n:=a.2+b.2) (by omega) (by omega)).symm
 have hr:(ryV o (addV a b)).ra = .agg [I o.1,I o.2,I (Qa Qb (a.1+b.1)),I (Qa Qb (a.2+b.2))]:=by
  rw [<-ea,<-eb]
 rw [hr] at qc47
 generalize rFs h=TF at *
 obtain ⟨o1,o2⟩:=o
 obtain ⟨a1,a2⟩:=a
 obtain ⟨b1,b2⟩:=b
 dsimp only at qc47
 unfold fsV bwl bcl at qc47
 dsimp only at qc47
 generalize laI L=la at *
 refine pn hk Tryz.func96 ?_
 repeat'(first|refine wk3 ?_|(refine wk2 ?_ ?_<;>intro _)|fail)
 all_goals exact Zd rfl
theorem Ycj {h:Hal} (g:h.fine) {o d:V} {L:Option Nat} (hl:LP h.cs o L d) {c:Cd} (e:bstV h.cs o d L=some c) {i:Nat} (hi:i<h.cs.length) {k:Cd} (f:Yh h.cs (ryV o d) (frQ h.cs o d L) (laI L) i=some k):c.nu*k.de<=k.nu*c.de:=by
 have hm:=Zhf (f:=Yh h.cs (ryV o d) (frQ h.cs o d L) (laI L)) (m:=h.cs.length) (fun j x hj ej=>by
  obtain ⟨_,_,_,q⟩:=Zhe g hl hj ej
  exact q.de) (Qe _) e i k hi f
 unfold Zap at hm
 rcases Int.lt_or_le (k.nu*c.de) (c.nu*k.de) with q|q
 ·exfalso
  exact hm (by first|exact .inl q|exact Or.inl q|omega)
 ·exact q
theorem rsee {h:Hal} (g:h.fine) {o:V} {L:Option Nat} {k:Nat} (hk:k<h.cs.length) (B:Bef h o L (wa (wlOf h.cs k) o)) (hc:wa (wlOf h.cs k) o≠(0,0)) (hl:LP h.cs o L (wa (wlOf h.cs k) o)) (hb:pbey (sgH h.cs o) L (wa (wlOf h.cs k) o)) :
  Seen h.cs.length (sgH h.cs o) L (wa (wlOf h.cs k) o)↔∃ c,bstV h.cs o (wa (wlOf h.cs k) o) L=some c/\c.nu=c.de:=by
 have sh:=Zrh g hk B hc
 generalize wa (wlOf h.cs k) o=d at *
 constructor
 ·intro hs
  obtain ⟨i,s,q1,q2⟩:=sh hs
  obtain ⟨ci,n,e1,q3⟩:=Zgj g hl q1
  cases hbv:bstV h.cs o d L with
  | none =>
   have:=Zgn hbv i q1.im
   rw [this] at e1
   cases e1
  | some c =>
   refine ⟨c,rfl,?_⟩
   obtain ⟨j,hj,ej⟩:=Vn hbv
   obtain ⟨t,m,q4,q5⟩:=Zhe g hl hj ej
   have h1:=Ycj g hl hbv q1.im e1
   have h2:=hs.2 j t q4
   rw [q5.c,q5.nn] at h2
   have h3:c.de<=c.nu:=Sy h2 q5.n0
   have h4:ci.de=ci.nu:=by
    have e2:=q2
    rw [q3.c,q3.nn] at e2
    exact Int.eq_of_mul_eq_mul_left (by have:=q3.n0; omega) e2
   rw [h4,Rl c.nu] at h1
   have h5:c.nu<=c.de:=Sy h1 q3.nu
   omega
 ·rintro ⟨c,hbv,hcd⟩
  refine ⟨hb,fun i s q1=>?_⟩
  obtain ⟨ci,n,e1,q3⟩:=Zgj g hl q1
  obtain ⟨j,hj,ej⟩:=Vn hbv
  obtain ⟨t,m,q4,q5⟩:=Zhe g hl hj ej
  have h1:=Ycj g hl hbv q1.im e1
  rw [hcd,Rl ci.nu] at h1
  have h2:ci.de<=ci.nu:=Sy h1 q5.de
  rw [q3.c,q3.nn]
  exact Int.mul_le_mul_of_nonneg_left h2 (Qg q3.n0)
theorem rln {h:Hal} (g:h.fine) {o d:V} {l:Nat} (hl:l<h.cs.length):(∃ x,htW (wlOf h.cs l) (ryV o d)=some x/\0<x.nu/\x.nu<x.de)↔LP h.cs o (some l) d/\pbey (sgH h.cs o) (some l) d:=by
 obtain ⟨n,sx,sy,hs⟩:=g.st l hl
 have hnn:=hs.hn
 rw [Uj hs]
 constructor
 ·rintro ⟨x,hx,h1,h2⟩
  obtain ⟨s,s1,s2,s3⟩:=Yd6 hs hx h1
  refine ⟨fun l' q=>by cases q; exact ⟨hl,s,s1,s2⟩,fun l' t q e=>?_⟩
  cases q
  have:=s1.symm.trans e
  cases this
  rw [s3.c,s3.nn]
  exact Int.mul_lt_mul_of_pos_left h2 hnn
 ·rintro ⟨h1,h2⟩
  obtain ⟨_,t,et,hn⟩:=h1 l rfl
  obtain ⟨y,y1,y2,y3⟩:=Zly hs et hn
  have:=h2 l t rfl et
  rw [y3.c,y3.nn] at this
  exact ⟨y,y1,y2,Int.lt_of_mul_lt_mul_left this (Qg hnn)⟩
def rsB (cs:List (Int × Int)) (o:V) (L:Option Nat) (p:V):Bool:=!decide (p=o)&&visB cs o L p
theorem Ycy {h:Hal} (g:h.fine) {o:V} (ho:OB o) {L:Option Nat} (hL:∀ l,L=some l->l<h.cs.length) {k:Nat} (hk:k<h.cs.length) (B:toW o h.cs[k]≠(0,0)->Bef h o L (toW o h.cs[k])) :
  rsB h.cs o L h.cs[k]=true↔toW o h.cs[k]≠(0,0)/\(LP h.cs o L (toW o h.cs[k])/\pbey (sgH h.cs o) L (toW o h.cs[k]))/\∃ c,bstV h.cs o (toW o h.cs[k]) L=some c/\c.nu=c.de:=by
 unfold rsB
 rw [Qc,Zpe g ho (Qn hk) hL]
 simp only [Te,decide_eq_false_iff_not]
 rw [<-Zlm _ hk] at *
 have hz:h.cs[k]=o↔wa (wlOf h.cs k) o=(0,0):=by rw [Zlm _ hk]; exact toW_zero.symm
 rw [hz]
 constructor
 ·rintro ⟨h1,h2,h3⟩
  exact ⟨h1,⟨h2,h3.1⟩,(rsee g hk (B h1) h1 h2 h3.1).1 h3⟩
 ·rintro ⟨h1,⟨h2,h3⟩,h4⟩
  exact ⟨h1,h2,(rsee g hk (B h1) h1 h2 h3).2 h4⟩
noncomputable abbrev rCm:List AV->Option PRes:=famA (fun q:Int × Int=>0<q.2/\q.2<=200000 /\ -100000<=q.1/\q.1<=100000) (fun q=>[I q.1,I q.2,I 1,I 1]) (fun q=>⟨I (cmpQ q.1 q.2 1 1),[]⟩)
theorem Yc7 {a b:Int} (h:0<b/\b<=200000 /\ -100000<=a/\a<=100000):rCm [I a,I b,I 1,I 1]=some ⟨I (cmpQ a b 1 1),[]⟩ :=
 Zq (p:=fun q:Int × Int=>0<q.2/\q.2<=200000 /\ -100000<=q.1/\q.1<=100000) (g:=fun q=>[I q.1,I q.2,I 1,I 1]) (r:=fun q=>⟨I (cmpQ q.1 q.2 1 1),[]⟩) (k:=(a,b)) (fun j hj=>by
  simp only [Rf,Tj,true_and,and_true] at hj
  rw [show j=(a,b) from Tp hj.1 hj.2]) h
theorem Yfj {pt:PC} (hp:PCOK Tryz.prog pt):PCOK Tryz.prog (ins 114 rCm pt):=Zx (fun q hq=>c187 hq.1 (by decide) (by have:=hq.2; omega) (by decide) (by have:=hq.2; omega) (by decide)) hp
theorem Yg8 {a b:Int}:cmpQ a b 1 1<0↔a<b:=by unfold cmpQ; rw [Vp]; omega
theorem Zsi (c:Cd):fsV (some c)=⟨.tup [I (c.i:Int),.agg [I c.nu,I c.de,Bo true,Bo c.well]],[]⟩:=rfl
theorem e93 {h:Hal} (hf:h.few) (g:h.fine) {o:V} (ho:OB o) {L:Option Nat} (hL:∀ l,L=some l->l<h.cs.length) {k:Nat} (hk:k<h.cs.length) (B:toW o h.cs[k]≠(0,0)->Bef h o L (toW o h.cs[k])) :
  PCall Tryz.prog 93 [h.av,P2 o.1 o.2,I (laI L),I k] ⟨Bo (rsB h.cs o L h.cs[k]),[]⟩:=by
 have hr:=Ycy g ho hL hk B
 have hb:=Zcy g ho (Qn hk)
 have hl3:h.cs.length<1000:=hf.2.1
 have b:RyB (ryV o (toW o h.cs[k])):=Zna ho (by omega) (by omega)
 have hkk:PCOK Tryz.prog (ins 86 (rLi h) (ins 85 rMr (ins 114 rCm (ins 47 (rFs h) pt0)))):=Zx (fun k hk=>e86 hf hk) (Ybg (Yfj (Ybh hf g Ze)))
 have e1:(h.cs.map pt)[((k:Nat):Int).toNat]?=some (pt h.cs[k]):=by simp [hk]
 have len:(h.cs.map pt).length=h.cs.length:=by simp
 have hF:=fun (hp:LP h.cs o L (toW o h.cs[k]))=>Zvx b (Zys g hp)
 have e2:(toW o h.cs[k]).1=Qa Qb (h.cs[k].1-o.1):=(W_eq (n:=h.cs[k].1-o.1) (by unfold toW at hb; dsimp only at hb; omega) (by unfold toW at hb; dsimp only at hb; omega)).symm
 have e3:(toW o h.cs[k]).2=Qa Qb (h.cs[k].2-o.2):=(W_eq (n:=h.cs[k].2-o.2) (by unfold toW at hb; dsimp only at hb; omega) (by unfold toW at hb; dsimp only at hb; omega)).symm
 have e4:(ryV o (toW o h.cs[k])).ra = .agg [I o.1,I o.2,I (Qa Qb (h.cs[k].1-o.1)),I (Qa Qb (h.cs[k].2-o.2))]:=by rw [<-e2,<-e3]
 have hz:toW o h.cs[k]=(0,0)↔Qa Qb (h.cs[k].1-o.1)=0/\Qa Qb (h.cs[k].2-o.2)=0:=by rw [<-e2,<-e3,Prod.ext_iff]
 rw [e4] at hF
 rw [ne_eq,hz] at hr
 generalize rsB h.cs o L h.cs[k]=R at *
 by_cases z:Qa Qb (h.cs[k].1-o.1)=0/\Qa Qb (h.cs[k].2-o.2)=0
 ·have:R=false:=by
   cases R
   ·rfl
   ·exact absurd z (hr.1 rfl).1
  subst this
  clear hr hF e4 hz
  generalize h.cs[k]=p at *
  obtain ⟨p1,p2⟩:=p
  obtain ⟨z1,z2⟩:=z
  dsimp only at *
  refine pn hkk Tryz.func93 ?_
  repeat'(first|refine wk3 ?_|(refine wk2 ?_ ?_<;>intro _)|fail)
  all_goals first|exact Za rfl|(exfalso; simp_all; done)
 have hR:R=true↔(LP h.cs o L (toW o h.cs[k])/\pbey (sgH h.cs o) L (toW o h.cs[k]))/\∃ c,bstV h.cs o (toW o h.cs[k]) L=some c/\c.nu=c.de:=by rw [hr]; exact ⟨fun q=>q.2,fun q=>⟨z,q⟩⟩
 clear hr
 cases L with
 | none =>
  have hlp:LP h.cs o none (toW o h.cs[k]):=fun l q=>by cases q
  have hpb:pbey (sgH h.cs o) none (toW o h.cs[k]):=fun l t q=>by cases q
  have hF:=hF hlp
  change _=some (fsV (bstV h.cs o (toW o h.cs[k]) none)) at hF
  have hR2:R=true↔∃ c,bstV h.cs o (toW o h.cs[k]) none=some c/\c.nu=c.de:=by rw [hR]; exact ⟨fun q=>q.2,fun q=>⟨⟨hlp,hpb⟩,q⟩⟩
  clear hR
  generalize bstV h.cs o (toW o h.cs[k]) none=bc at *
  have hla:laI none = -1:=rfl
  rw [hla] at hF ⊢
  clear hlp hpb B e4 hz hb b e2 e3 hL
  generalize hp:h.cs[k]=p at *
  obtain ⟨p1,p2⟩:=p
  dsimp only at *
  generalize rFs h=TF at *
  generalize rLi h=TL at *
  cases bc with
  | none =>
   have:R=false:=by
    cases R
    ·rfl
    ·obtain ⟨c,q,_⟩:=hR2.1 rfl; cases q
   subst this
   change _=some (⟨.tup [I (-1),rh0],[]⟩:PRes) at hF
   refine pn hkk Tryz.func93 ?_
   repeat'(first|refine wk3 ?_|(refine wk2 ?_ ?_<;>intro _)|fail)
   all_goals first|exact Za rfl|(exfalso; simp_all; done)
  | some c =>
   rw [Zsi] at hF
   obtain ⟨ci,cn,cd,cw⟩:=c
   dsimp only at hF
   have:R=decide (cn=cd):=by
    rw [Sk,hR2,decide_eq_true_eq]
    constructor
    ·rintro ⟨c,q,q2⟩; cases q; exact q2
    ·intro q; exact ⟨_,rfl,q⟩
   subst this
   refine pn hkk Tryz.func93 ?_
   repeat'(first|refine wk3 ?_|(refine wk2 ?_ ?_<;>intro _)|fail)
   all_goals first|exact Za rfl|(refine Za ?_; simp_all; done)|(exfalso; simp_all; done)
 | some l =>
  have hl:=hL l rfl
  have hrl:=rln g (o:=o) (d:=toW o h.cs[k]) hl
  obtain ⟨n,sx,sy,hs⟩:=g.st l hl
  have c1:=Zl2 hl
  have c2:=Zvt hs b
  rw [e4] at c2
  rw [<-hrl] at hR
  have hla:laI (some l)=(l:Int):=rfl
  rw [hla] at hF ⊢
  cases hx:htW (wlOf h.cs l) (ryV o (toW o h.cs[k])) with
  | none =>
   rw [hx] at c2
   change _=some (⟨.tup [rh0,Bo false],[]⟩:PRes) at c2
   have:R=false:=by
    cases R
    ·rfl
    ·obtain ⟨⟨x,q,_⟩,_⟩:=hR.1 rfl; rw [hx] at q; cases q
   subst this
   clear hR hrl hF B e4 hz hb b e2 e3 hL
   generalize hp:h.cs[k]=p at *
   obtain ⟨p1,p2⟩:=p
   dsimp only at *
   generalize rFs h=TF at *
   generalize rLi h=TL at *
   generalize (wlOf h.cs l).ln=ln at *
   refine pn hkk Tryz.func93 ?_
   repeat'(first|refine wk3 ?_|(refine wk2 ?_ ?_<;>intro _)|fail)
   all_goals first|exact Za rfl|(exfalso; simp_all; done)
  | some x =>
   have hxb:=Zmg hs b (by rw [<-Uj hs]; exact hx)
   have c3:=Yc7 (a:=x.nu) (b:=x.de) ⟨hxb.de.1,hxb.de.2,hxb.nu⟩
   have hcm:=Yg8 (a:=x.nu) (b:=x.de)
   rw [hx] at c2
   change _=some (⟨.tup [x.av,Bo true],[]⟩:PRes) at c2
   by_cases hc:0<x.nu/\x.nu<x.de
   ·have hF:=hF (hrl.1 ⟨x,hx,hc⟩).1
    change _=some (fsV (bstV h.cs o (toW o h.cs[k]) (some l))) at hF
    have hR2:R=true↔∃ c,bstV h.cs o (toW o h.cs[k]) (some l)=some c/\c.nu=c.de:=by rw [hR]; exact ⟨fun q=>q.2,fun q=>⟨⟨x,hx,hc⟩,q⟩⟩
    clear hR
    generalize bstV h.cs o (toW o h.cs[k]) (some l)=bc at *
    have hc2:=hcm.2 hc.2
    clear hrl B e4 hz hb b e2 e3 hL hcm hxb hx
    obtain ⟨x1,x2,x3,x4⟩:=x
    dsimp only at c2 c3 hc hc2
    obtain ⟨hc0,_⟩:=hc
    generalize cmpQ x1 x2 1 1=CM at *
    generalize hp:h.cs[k]=p at *
    obtain ⟨p1,p2⟩:=p
    dsimp only at *
    generalize rFs h=TF at *
    generalize rLi h=TL at *
    generalize (wlOf h.cs l).ln=ln at *
    cases bc with
    | none =>
     have:R=false:=by
      cases R
      ·rfl
      ·obtain ⟨c,q,_⟩:=hR2.1 rfl; cases q
     subst this
     change _=some (⟨.tup [I (-1),rh0],[]⟩:PRes) at hF
     refine pn hkk Tryz.func93 ?_
     repeat'(first|refine wk3 ?_|(refine wk2 ?_ ?_<;>intro _)|fail)
     all_goals first|exact Za rfl|(exfalso; simp_all; done)|(exfalso; simp_all; omega)
    | some c =>
     rw [Zsi] at hF
     obtain ⟨ci,cn,cd,cw⟩:=c
     dsimp only at hF
     have:R=decide (cn=cd):=by
      rw [Sk,hR2,decide_eq_true_eq]
      constructor
      ·rintro ⟨c,q,q2⟩; cases q; exact q2
      ·intro q; exact ⟨_,rfl,q⟩
     subst this
     refine pn hkk Tryz.func93 ?_
     repeat'(first|refine wk3 ?_|(refine wk2 ?_ ?_<;>intro _)|fail)
     all_goals first|exact Za rfl|(refine Za ?_; simp_all; done)|(exfalso; simp_all; done)|(exfalso; simp_all; omega)
   ·have:R=false:=by
     cases R
     ·rfl
     ·obtain ⟨⟨y,q,q2⟩,_⟩:=hR.1 rfl; rw [hx] at q; cases q; exact absurd q2 hc
    subst this
    clear hR hrl hF B e4 hz hb b e2 e3 hL hxb hx
    obtain ⟨x1,x2,x3,x4⟩:=x
    dsimp only at c2 c3 hc hcm
    generalize cmpQ x1 x2 1 1=CM at *
    generalize hp:h.cs[k]=p at *
    obtain ⟨p1,p2⟩:=p
    dsimp only at *
    generalize rFs h=TF at *
    generalize rLi h=TL at *
    generalize (wlOf h.cs l).ln=ln at *
    by_cases hneg:CM<0
    ·have hn0:¬ 0<x1:=fun q=>hc ⟨q,hcm.1 hneg⟩
     clear hc hcm
     refine pn hkk Tryz.func93 ?_
     repeat'(first|refine wk3 ?_|(refine wk2 ?_ ?_<;>intro _)|fail)
     all_goals first|exact Za rfl|(exfalso; simp_all; done)|(exfalso; simp_all; omega)
    ·clear hc hcm
     refine pn hkk Tryz.func93 ?_
     repeat'(first|refine wk3 ?_|(refine wk2 ?_ ?_<;>intro _)|fail)
     all_goals first|exact Za rfl|(exfalso; simp_all; done)|(exfalso; simp_all; omega)
end Go.Proofs.YtanbhfpalahjcaaGreat
namespace Go.Ge
def insI (l:List V) (t:V) (i:Nat):List V:=l.take i++t::l.drop i
theorem Zr9 (l:List V) (t:V) {i:Nat} (hi:i<=l.length):(insI l t i).length=l.length+1:=by
 unfold insI
 rw [Rd,Qz,Sv,Ol]
 omega
theorem Zk5 (l:List V) (t:V):insI l t l.length=l++[t]:=by unfold insI; simp
def insT (R:V->V->Bool) (l:List V) (t:V) (i:Nat):List V:=(insB R t (l.take i).reverse).reverse++l.drop i
theorem Zk4 (R:V->V->Bool) (l:List V) (t:V):insT R l t l.length=(insB R t l.reverse).reverse:=by unfold insT; simp
theorem Zny (R:V->V->Bool) (l:List V) (t:V):insT R l t 0=insI l t 0:=by unfold insT insI; simp [insB]
theorem Zls {l:List V} {j:Nat} (hj:j<l.length):(l.take (j+1)).reverse=l[j]::(l.take j).reverse:=by
 rw [Qv hj,List.reverse_append]
 rfl
theorem Zn0 {R:V->V->Bool} {l:List V} {t:V} {j:Nat} (hj:j<l.length) (h:R t l[j]=true):insT R l t (j+1)=insT R l t j:=by
 unfold insT
 rw [Zls hj,insB,if_pos h,Qai,Wb,Ql hj]
 rfl
theorem Znz {R:V->V->Bool} {l:List V} {t:V} {j:Nat} (hj:j<l.length) (h:R t l[j]=false):insT R l t (j+1)=insI l t (j+1):=by
 unfold insT insI
 rw [Zls hj,insB,if_neg (by rw [h]; decide),<-Zls hj,Qai,List.reverse_reverse,Wb]
 rfl
theorem Zsa {l:List V} {t:V} {j:Nat} (hj:j<l.length):(insI l t (j+1))[j+1]?=some t/\(insI l t (j+1))[j]?=some l[j]:=by
 unfold insI
 constructor
 ·rw [Sd (by rw [Sv]; omega),Sv,Og (by omega),Mz]
  rfl
 ·rw [Sj (by rw [Sv]; omega),List.getElem?_take,if_pos (by omega),Qd hj]
theorem Zn1 {l:List V} {t:V} {j:Nat} (hj:j<l.length):((insI l t (j+1)).set (j+1) l[j]).set j t=insI l t j:=by
 unfold insI
 rw [Qv hj,Ql hj]
 have hl:(l.take j).length=j:=by rw [Sv]; omega
 generalize l.take j=p at *
 generalize l[j]=a at *
 generalize l.drop (j+1)=q at *
 subst hl
 simp [List.set_append]
end Go.Ge
namespace Go.Proofs.YtanbhfpalahjcaaGreat
open Go Go.Sx Go.Ge
def toP (cs:List (Int × Int)) (o:V) (j:Nat):List V:=((cs.take j).filter (fun p=>rsB cs o none p)).foldl (fun l p=>Kk snB l (red (toW o p))) []
theorem Zq8 {cs:List (Int × Int)} {o:V} {j:Nat} (hj:j<cs.length):toP cs o (j+1)=if rsB cs o none cs[j]=true then Kk snB (toP cs o j) (red (toW o cs[j])) else toP cs o j:=by
 unfold toP
 rw [Qv hj,Hf,Lc,Fb]
 cases rsB cs o none cs[j]<;>simp [Qaj]
theorem Zu0 (cs:List (Int × Int)) (o:V):toP cs o cs.length=tO cs o:=by
 unfold toP tO Vh rsB
 rw [Wo,Qbw]
def inP (cs:List (Int × Int)) (o:V) (w:Nat) (lo hi:V) (j:Nat):List V:=((cs.take j).filter (fun p=>(decide (0<Sm lo (toW o p))&&decide (0<Sm (toW o p) hi))&&rsB cs o (some w) p)).foldl (fun l p=>Kk crB l (red (toW o p))) []
theorem Zse {cs:List (Int × Int)} {o lo hi:V} {w j:Nat} (hj:j<cs.length):inP cs o w lo hi (j+1)=if ((decide (0<Sm lo (toW o cs[j]))&&decide (0<Sm (toW o cs[j]) hi))&&rsB cs o (some w) cs[j])=true then Kk crB (inP cs o w lo hi j) (red (toW o cs[j])) else inP cs o w lo hi j:=by
 unfold inP
 rw [Qv hj,Hf,Lc,Fb]
 cases ((decide (0<Sm lo (toW o cs[j]))&&decide (0<Sm (toW o cs[j]) hi))&&rsB cs o (some w) cs[j])<;>simp [Qaj]
theorem Yd3 (cs:List (Int × Int)) (o:V) (w:Nat) (lo hi:V):inP cs o w lo hi cs.length=innT cs o w lo hi:=by
 unfold inP innT btwL Vh rsB
 rw [Wo,List.filter_map,List.filter_filter,Qbw]
 rfl
theorem Zwt {P:V->Prop} (R:V->V->Bool) {l:List V} {t:V} (hl:∀ x∈l,P x) (ht:P t):∀ x∈Kk R l t,P x:=fun x hx=>by
 rcases (Zp1 R l t x).1 hx with rfl|q
 ·exact ht
 ·exact hl x q
theorem Zrq {h:Hal} (g:h.fine) {o:V} (ho:OB o) {p:V} (hp:p∈h.cs) (hz:toW o p≠(0,0)):(-50000<=(red (toW o p)).1/\(red (toW o p)).1<=50000)/\(-50000<=(red (toW o p)).2/\(red (toW o p)).2<=50000):=by
 have b:=Zcy g ho hp
 exact Zi4 hz b.1 b.2
theorem Zrl {cs:List (Int × Int)} {o p:V} {L:Option Nat} (h:rsB cs o L p=true):toW o p≠(0,0):=by
 unfold rsB at h
 simp only [Qc,Te,decide_eq_false_iff_not] at h
 exact fun q=>h.1 (toW_zero.1 q)
theorem Yaw {h:Hal} (g:h.fine) {o:V} (ho:OB o):∀ j,j<=h.cs.length->(∀ x∈toP h.cs o j,(-50000<=x.1/\x.1<=50000)/\(-50000<=x.2/\x.2<=50000))/\(toP h.cs o j).length<=j
 | 0,_=>⟨fun x hx=>(by cases hx),Qe _⟩
 | j+1,hj=>by
  obtain ⟨a1,a2⟩:=Yaw g ho j (by omega)
  rw [Zq8 hj]
  split
  ·rename_i q
   refine ⟨Zwt snB a1 (Zrq g ho (Qn hj) (Zrl q)),?_⟩
   have:=Zp2 snB (toP h.cs o j) (red (toW o h.cs[j]))
   omega
  ·exact ⟨a1,by omega⟩
theorem Ybz {h:Hal} (g:h.fine) {o:V} (ho:OB o) (w:Nat) (lo hi:V):∀ j,j<=h.cs.length->(∀ x∈inP h.cs o w lo hi j,(-50000<=x.1/\x.1<=50000)/\(-50000<=x.2/\x.2<=50000))/\(inP h.cs o w lo hi j).length<=j
 | 0,_=>⟨fun x hx=>(by cases hx),Qe _⟩
 | j+1,hj=>by
  obtain ⟨a1,a2⟩:=Ybz g ho w lo hi j (by omega)
  rw [Zse hj]
  split
  ·rename_i q
   rw [Qc] at q
   refine ⟨Zwt crB a1 (Zrq g ho (Qn hj) (Zrl q.2)),?_⟩
   have:=Zp2 crB (inP h.cs o w lo hi j) (red (toW o h.cs[j]))
   omega
  ·exact ⟨a1,by omega⟩
def behN (cs:List (Int × Int)) (n:Nat) (m:Bm):List Bm:=if m.ws.length<n then behB cs m else []
theorem Zg9 {α β:Type} {f g:α->List β}:∀ {l:List α},(∀ x∈l,f x=g x)->l.flatMap f=l.flatMap g
 | [],_=>rfl
 | a::l,h=>by rw [Nu,Nu,h a (by simp),Zg9 fun x hx=>h x (by simp [hx])]
theorem Zpu {h:Hal} (g:h.fine) {o:V} (k:InSrc h o) {n:Nat} (hn:n<=4):∀ j,j<n->outB h.cs o (j+1)=Zl h.cs o++(outB h.cs o j).flatMap (behN h.cs n)
 | 0,hj=>by
  show Zl h.cs o++(Zl h.cs o).flatMap (behB h.cs)=Zl h.cs o++(Zl h.cs o).flatMap (behN h.cs n)
  congr 1
  refine Zg9 fun m hm=>?_
  have:=(Ug g k 0 (by omega) m hm).2
  unfold behN
  rw [if_pos (by omega)]
 | j+1,hj=>by
  have ih:=Zpu g k hn j (by omega)
  show outB h.cs o (j+1)++(levB h.cs o (j+1)).flatMap (behB h.cs)=Zl h.cs o++(outB h.cs o j++levB h.cs o (j+1)).flatMap (behN h.cs n)
  rw [Oe,<-Wb,<-ih]
  congr 1
  refine Zg9 fun m hm=>?_
  have:=(Ug g k (j+1) (by omega) m hm).2
  unfold behN
  rw [if_pos (by omega)]
theorem Zzp {h:Hal} (g:h.fine) {o:V} (k:InSrc h o) {n:Nat} (hn:n<=4):outB h.cs o n=Zl h.cs o++(outB h.cs o n).flatMap (behN h.cs n):=by
 have hz:∀ m∈levB h.cs o n,behN h.cs n m=[]:=fun m hm=>by
  have:=(Ug g k n hn m hm).2
  unfold behN
  rw [if_neg (by omega)]
 have hz2:(levB h.cs o n).flatMap (behN h.cs n)=[]:=List.flatMap_eq_nil_iff.2 hz
 cases n with
 | zero =>
  show Zl h.cs o=Zl h.cs o++(levB h.cs o 0).flatMap _
  rw [hz2,Pf]
 | succ j =>
  have:=Zpu g k hn j (by omega)
  show outB h.cs o (j+1)=Zl h.cs o++(outB h.cs o j++levB h.cs o (j+1)).flatMap _
  rw [Oe,hz2,Pf,<-this]
def quB (cs:List (Int × Int)) (o:V) (n i:Nat):List Bm:=Zl cs o++((outB cs o n).take i).flatMap (behN cs n)
theorem Zps {h:Hal} (g:h.fine) {o:V} (k:InSrc h o) {n:Nat} (hn:n<=4) (i:Nat):∃ X,outB h.cs o n=quB h.cs o n i++X:=by
 refine ⟨((outB h.cs o n).drop i).flatMap (behN h.cs n),?_⟩
 unfold quB
 rw [Wb,<-Oe,List.take_append_drop]
 exact Zzp g k hn
theorem Ydb {h:Hal} (g:h.fine) {o:V} (k:InSrc h o) {n:Nat} (hn:n<=4) {i:Nat} (hi:i<(quB h.cs o n i).length):∃ hl:i<(outB h.cs o n).length,(quB h.cs o n i)[i]=(outB h.cs o n)[i]/\quB h.cs o n (i+1)=quB h.cs o n i++behN h.cs n (outB h.cs o n)[i]:=by
 obtain ⟨X,e⟩:=Zps g k hn i
 have hl:i<(outB h.cs o n).length:=by rw [e,Rd]; omega
 refine ⟨hl,?_,?_⟩
 ·have h1:(outB h.cs o n)[i]?=(quB h.cs o n i)[i]?:=by
   rw [e,Sj hi]
  rw [Qd hl,Qd hi] at h1
  exact (Sh h1).symm
 ·unfold quB
  rw [Qv hl,Oe,Wb]
  simp
theorem Ydc {h:Hal} (g:h.fine) {o:V} (k:InSrc h o) {n:Nat} (hn:n<=4) {i:Nat} (hi:(quB h.cs o n i).length<=i) (hle:i<=(quB h.cs o n i).length):quB h.cs o n i=outB h.cs o n:=by
 obtain ⟨X,e⟩:=Zps g k hn i
 have e1:(outB h.cs o n).take i=quB h.cs o n i:=by
  rw [e,List.take_append_of_le_length hle,Tg hi]
 have e2:quB h.cs o n i=Zl h.cs o++(quB h.cs o n i).flatMap (behN h.cs n):=by
  conv=>lhs; unfold quB
  rw [e1]
 generalize quB h.cs o n i=P at *
 have key:∀ j,j<=n->∃ Y,P=outB h.cs o j++Y:=by
  intro j
  induction j with
  | zero=>intro _; exact ⟨_,e2⟩
  | succ j ih =>
   intro hj
   obtain ⟨Y,eY⟩:=ih (by omega)
   refine ⟨Y.flatMap (behN h.cs n),?_⟩
   rw [Zpu g k hn j (by omega),Wb,<-Oe,<-eY]
   exact e2
 obtain ⟨Y,eY⟩:=key n (Qe _)
 have hl1:=congrArg Ob e
 have hl2:=congrArg Ob eY
 rw [Rd] at hl1 hl2
 have hX:X=[]:=Wi.1 (by omega)
 rw [hX,Pf] at e
 exact e.symm
theorem Yfr {h:Hal} (g:h.fine) {o:V} (k:InSrc h o) {n:Nat} (hn:n<=4) (i:Nat):(quB h.cs o n i).length<=(outB h.cs o n).length:=by
 obtain ⟨X,e⟩:=Zps g k hn i
 rw [e,Rd]
 omega
def cAt (cs:List (Int × Int)) (k:Nat):V:=cs.getD k (0,0)
theorem Ycg {cs:List (Int × Int)} {k:Nat} (h:k<cs.length):cAt cs k=cs[k]:=by unfold cAt; rw [List.getD_eq_getElem?_getD,Qd h]; rfl
noncomputable abbrev rSn (h:Hal) (o:V) (L:Option Nat):List AV->Option PRes:=famA (fun k:Nat=>k<h.cs.length/\(toW o (cAt h.cs k)≠(0,0)->Bef h o L (toW o (cAt h.cs k)))) (fun k=>[h.av,P2 o.1 o.2,I (laI L),I k]) (fun k=>⟨Bo (rsB h.cs o L (cAt h.cs k)),[]⟩)
theorem Zvq {h:Hal} {o:V} {L:Option Nat} {k:Nat} (hk:k<h.cs.length) (B:toW o h.cs[k]≠(0,0)->Bef h o L (toW o h.cs[k])):rSn h o L [h.av,P2 o.1 o.2,I (laI L),I k]=some ⟨Bo (rsB h.cs o L h.cs[k]),[]⟩:=by
 rw [<-Ycg hk] at B ⊢
 exact Zq (p:=fun k:Nat=>k<h.cs.length/\(toW o (cAt h.cs k)≠(0,0)->Bef h o L (toW o (cAt h.cs k)))) (g:=fun k=>[h.av,P2 o.1 o.2,I (laI L),I k]) (r:=fun k=>⟨Bo (rsB h.cs o L (cAt h.cs k)),[]⟩) (k:=k) (fun j hj=>by
  simp only [Rf,Tj,true_and,and_true] at hj
  rw [Int.ofNat.inj hj]) ⟨hk,B⟩
theorem Ybe {h:Hal} (hf:h.few) (g:h.fine) {o:V} (ho:OB o) {L:Option Nat} (hL:∀ l,L=some l->l<h.cs.length) {pt:PC} (hp:PCOK Tryz.prog pt):PCOK Tryz.prog (ins 93 (rSn h o L) pt):=Zx (fun k hk=>by
 obtain ⟨h1,h2⟩:=hk
 rw [Ycg h1] at h2 ⊢
 exact e93 hf g ho hL h1 h2) hp
noncomputable abbrev rTn:List AV->Option PRes:=famA (fun w:V=>w≠(0,0)/\Vb w) (fun w=>[I w.1,I w.2]) (fun w=>⟨P2 (red w).1 (red w).2,[]⟩)
theorem Zvo {w:V} (hw:w≠(0,0)) (hb:Vb w):rTn [I w.1,I w.2]=some ⟨P2 (red w).1 (red w).2,[]⟩ :=
 Zq (p:=fun w:V=>w≠(0,0)/\Vb w) (g:=fun w=>[I w.1,I w.2]) (r:=fun w=>⟨P2 (red w).1 (red w).2,[]⟩) (k:=w) (fun j hj=>by
  simp only [Rf,Tj,true_and,and_true] at hj
  rw [show j=w from Tp hj.1 hj.2]) ⟨hw,hb⟩
theorem Ybc {pt:PC} (h:PCOK Tryz.prog pt):PCOK Tryz.prog (ins 95 rTn pt):=Zx (fun w hw=>by
 obtain ⟨e1,e2⟩:=Zuz hw.1 hw.2
 have:=d90 (Zsf hw.2.1) (Zsf hw.2.2) e2
 rw [e1] at this
 exact this) h
def soB (rd:Bool) (a b:V):Bool:=if rd=true then snB a b else crB a b
noncomputable abbrev rSo:List AV->Option PRes:=famA (fun q:(V × V) × Bool=>Vb q.1.1/\Vb q.1.2) (fun q=>[P2 q.1.1.1 q.1.1.2,P2 q.1.2.1 q.1.2.2,Bo q.2]) (fun q=>⟨Bo (soB q.2 q.1.1 q.1.2),[]⟩)
theorem Zvp {a b:V} (ha:Vb a) (hb:Vb b) (rd:Bool):rSo [P2 a.1 a.2,P2 b.1 b.2,Bo rd]=some ⟨Bo (soB rd a b),[]⟩ :=
 Zq (p:=fun q:(V × V) × Bool=>Vb q.1.1/\Vb q.1.2) (g:=fun q=>[P2 q.1.1.1 q.1.1.2,P2 q.1.2.1 q.1.2.2,Bo q.2]) (r:=fun q=>⟨Bo (soB q.2 q.1.1 q.1.2),[]⟩) (k:=((a,b),rd)) (fun j hj=>by
  simp only [Rf,Tj,AV.bool.injEq,Pw,true_and,and_true] at hj
  rw [show j=((a,b),rd) from Tp (Tp (Tp hj.1.1 hj.1.2) (Tp hj.2.1.1 hj.2.1.2)) hj.2.2]) ⟨ha,hb⟩
theorem Ybd {pt:PC} (h:PCOK Tryz.prog pt):PCOK Tryz.prog (ins 176 rSo pt):=Zx (fun q hq=>e176 hq.1 hq.2 q.2) h
def B5 (v:V):Prop:=(-50000<=v.1/\v.1<=50000)/\(-50000<=v.2/\v.2<=50000)
noncomputable abbrev rNz (h:Hal) (o:V) (L:Option Nat):List AV->Option PRes:=famA (fun q:V × V=>(B5 q.1/\B5 q.2)/\LP h.cs o L (addV q.1 q.2)/\∃ c,bstV h.cs o (addV q.1 q.2) L=some c) (fun q=>[h.av,P2 o.1 o.2,I (laI L),P2 q.1.1 q.1.2,P2 q.2.1 q.2.2]) (fun q=>⟨I (nxtV h.cs o L (addV q.1 q.2)),[]⟩)
theorem Zvr {h:Hal} {o:V} {L:Option Nat} {a b:V} (ba:B5 a) (bb:B5 b) (hp:LP h.cs o L (addV a b)) (hc:∃ c,bstV h.cs o (addV a b) L=some c):rNz h o L [h.av,P2 o.1 o.2,I (laI L),P2 a.1 a.2,P2 b.1 b.2]=some ⟨I (nxtV h.cs o L (addV a b)),[]⟩ :=
 Zq (p:=fun q:V × V=>(B5 q.1/\B5 q.2)/\LP h.cs o L (addV q.1 q.2)/\∃ c,bstV h.cs o (addV q.1 q.2) L=some c) (g:=fun q=>[h.av,P2 o.1 o.2,I (laI L),P2 q.1.1 q.1.2,P2 q.2.1 q.2.2]) (r:=fun q=>⟨I (nxtV h.cs o L (addV q.1 q.2)),[]⟩) (k:=(a,b)) (fun j hj=>by
  simp only [Rf,Tj,Pw,true_and,and_true] at hj
  rw [show j=(a,b) from Tp (Tp hj.1.1 hj.1.2) (Tp hj.2.1 hj.2.2)]) ⟨⟨ba,bb⟩,hp,hc⟩
theorem Ybf {h:Hal} (hf:h.few) (g:h.fine) {o:V} (ho:OB o) {L:Option Nat} {pt:PC} (hp:PCOK Tryz.prog pt):PCOK Tryz.prog (ins 96 (rNz h o L) pt):=Zx (fun q hq=>by
 obtain ⟨⟨h1,h2⟩,h3,c,h4⟩:=hq
 exact e96 hf g ho h1 h2 h3 h4) hp
theorem Zxb {h:Hal} (g:h.fine) {m:Bm} (G:GoodB h m):LP h.cs m.o (Xc m.ws) (addV m.a m.b)/\(∃ c,bstV h.cs m.o (addV m.a m.b) (Xc m.ws)=some c)/\nxtV h.cs m.o (Xc m.ws) (addV m.a m.b)=m.nx:=by
 obtain ⟨w,env,K⟩:=G.sec
 have hab:=K.ab
 have d1:0<Sm m.a (addV m.a m.b):=by rw [Vo,Xm,Zj]; omega
 have d2:0<Sm (addV m.a m.b) m.b:=by rw [Vo,Yp,Zj]; omega
 have hlp:LP h.cs m.o (Xc m.ws) (addV m.a m.b):=fun l q=>by
  obtain ⟨q1,t,q2,q3⟩:=K.lp l q
  exact ⟨q1,t,q2,(q3 _ d1 d2).n⟩
 obtain ⟨s,f⟩:=K.ft _ d1 d2
 obtain ⟨c,e1,_⟩:=Zxe g hlp f
 exact ⟨hlp,⟨c,e1⟩,by rw [env]; exact Zwa g K⟩
def ins1:FuncId->Bool:=fun f=>Nat.beq f 94
theorem e58 {h:Hal} (hf:h.few) (g:h.fine) {o:V} (k0:InSrc h o):PCall Tryz.prog 58 [h.av,P2 o.1 o.2] ⟨.asl 0 0 ((Zl h.cs o).map bmA).length,[(8,(Zl h.cs o).map bmA)]⟩:=by
 have ho:=k0.ob
 have hL:∀ l,(none:Option Nat)=some l->l<h.cs.length:=fun l q=>by cases q
 have hk:=Ybe hf g ho hL (Ybc (Ybd (Ybf hf g ho (L:=none) Ze)))
 have l12:h.cs.length<=12:=by have:=g.le; omega
 have hsn:=fun k (hk:k<h.cs.length)=>Zvq (o:=o) (L:=none) hk (fun _=>k0.bef g _)
 have htp:=fun j (hj:j<=h.cs.length)=>Yaw g ho j hj
 have hbd:=fun k (hk:k<h.cs.length)=>Zcy g ho (Qn hk)
 have len:(h.cs.map pt).length=h.cs.length:=by simp
 have hst:=fun j (hj:j<h.cs.length)=>Zq8 (cs:=h.cs) (o:=o) hj
 have hrv:=fun k (hk:k<h.cs.length)=>Zrq g ho (Qn hk)
 have hla:laI none = -1:=rfl
 rw [hla] at hsn
 obtain ⟨ox,oy⟩:=o
 dsimp only at *
 generalize hTS:rSn h (ox,oy) none=TS at *
 generalize hTN:rNz h (ox,oy) none=TN at *
 refine bs.pvT (sx:=ins1) hk Tryz.func58 (by kernel_rfl) (by kernel_rfl) rfl ?_
 repeat'(first|refine wk3 ?_|(refine wk2 ?_ ?_<;>intro _)|fail)
 refine Zn (S:=Nat × Nat × Int × Nat × List (List AV)) (fun t=>h.cs.length-t.2.1) (fun t=>[(2,.ptr 0 0 0),(3,.ptr 1 0 0),(5,gv 2 t.1 t.2.2.2.1),(6,I t.2.2.1)])
  (fun t=>gz 2 2 t.1 t.2.2.2.2 [(1,.row 2 [[I ox,I oy]] true false),(0,.row 9 [h.cells] true false)]) 2 3
  (fun t=>t.1=t.2.2.2.2.length/\t.2.2.1=t.2.1/\t.2.1<=h.cs.length/\t.2.2.2.1=t.2.2.2.2.length/\t.2.2.2.2=(toP h.cs (ox,oy) t.2.1).map wv) (0,0,0,0,[]) ⟨rfl,rfl,Qq _,rfl,rfl⟩ (Qe _) [] rfl (kps) (kps) ?_
 rintro ⟨k,j,i,ln,els⟩ ⟨hkl,hi,hj,hln,hels⟩
 dsimp only at hkl hi hj hln hels ⊢
 subst hi
 by_cases hlt:j<h.cs.length
 ·have hs:=hsn j hlt
  have hT:=htp j hj
  have hS:=hst j hlt
  have hb:=hbd j hlt
  have hne:=Zrl (cs:=h.cs) (o:=(ox,oy)) (p:=h.cs[j]) (L:=none)
  have hvb:=hrv j hlt
  have e1:(h.cs.map pt)[((j:Nat):Int).toNat]?=some (pt h.cs[j]):=by simp [hlt]
  have lel:els.length=(toP h.cs (ox,oy) j).length:=by rw [hels,Qj]
  generalize rsB h.cs (ox,oy) none h.cs[j]=b at *
  cases b with
  | false =>
   rw [if_neg (by decide)] at hS
   rw [<-hS] at hels
   cases k with
   | zero =>
    refine bs.avT (sx:=ins1) hk ?_
    repeat'(first|refine wk3 ?_|(refine wk2 ?_ ?_<;>intro _)|fail)
    all_goals first|exact Qr ⟨(0,j+1,_,ln,els),[],rfl,kps,kps,⟨hkl,Zb (by omega),hlt,hln,hels⟩,by dsimp only; omega⟩|(exfalso; clear hsn hst; simp_all; done)
   | succ k =>
    refine bs.avT (sx:=ins1) hk ?_
    repeat'(first|refine wk3 ?_|(refine wk2 ?_ ?_<;>intro _)|fail)
    all_goals first|exact Qr ⟨(k+1,j+1,_,ln,els),[(2,2)],rfl,kps,kps,⟨hkl,Zb (by omega),hlt,hln,hels⟩,by dsimp only; omega⟩|(exfalso; clear hsn hst; simp_all; done)
  | true =>
   have hne:=hne rfl
   rw [if_pos rfl] at hS
   have hvb2:=hvb hne
   have ht:=Zvo hne (Zd4 hb)
   have ew1:(toW (ox,oy) h.cs[j]).1=Qa Qb (h.cs[j].1-ox):=by
    unfold toW at hb ⊢
    dsimp only at hb ⊢
    rw [W_eq (by omega) (by omega)]
   have ew2:(toW (ox,oy) h.cs[j]).2=Qa Qb (h.cs[j].2-oy):=by
    unfold toW at hb ⊢
    dsimp only at hb ⊢
    rw [W_eq (by omega) (by omega)]
   rw [ew1,ew2] at ht
   generalize red (toW (ox,oy) h.cs[j])=u at *
   generalize hp:h.cs[j]=p at *
   generalize toP h.cs (ox,oy) j=T at *
   obtain ⟨ux,uy⟩:=u
   obtain ⟨p1,p2⟩:=p
   dsimp only at e1 ht
   have lT:T.length<=12:=by have:=hT.2; omega
   have hb5:Vb (ux,uy):=Zd4 hvb2
   have hTb:∀ x∈T,Vb x:=fun x hx=>Zd4 (hT.1 x hx)
   clear hsn htp hbd hst hrv
   cases k with
   | zero =>
    have hz:els=[]:=Wi.1 hkl.symm
    have hTz:T=[]:=by
     have:T.length=0:=by omega
     exact Wi.1 this
    subst hz
    subst hTz
    have hS:toP h.cs (ox,oy) (j+1)=[(ux,uy)]:=hS
    refine bs.avT (sx:=ins1) hk ?_
    repeat'(first|refine wk3 ?_|(refine wk2 ?_ ?_<;>intro _)|fail)
    refine bs.sv (sx:=ins1) hk Tryz.func94 (by kernel_rfl) (by kernel_rfl) ?_
    unfold Zbn
    conv=>whnf
    repeat'(first|refine wk3 ?_|(refine wk2 ?_ ?_<;>intro _)|fail)
    refine Mi 1 (Wp (bs.av (sx:=ins1) hk ?_))
    repeat'(first|refine wk3 ?_|(refine wk2 ?_ ?_<;>intro _)|fail)
    refine Mi 1 (Wp (bs.av (sx:=ins1) hk ?_))
    repeat'(first|refine wk3 ?_|(refine wk2 ?_ ?_<;>intro _)|fail)
    exact Qr ⟨(1,j+1,_,1,[wv (ux,uy)]),[(2,25)],rfl,kps,kps,⟨rfl,Zb (by omega),hlt,rfl,by rw [hS]; rfl⟩,by dsimp only; omega⟩
   | succ k =>
    have h2000:els.length<2000:=by omega
    refine bs.avT (sx:=ins1) hk ?_
    repeat'(first|refine wk3 ?_|(refine wk2 ?_ ?_<;>intro _)|fail)
    refine bs.sv (sx:=ins1) hk Tryz.func94 (by kernel_rfl) (by kernel_rfl) ?_
    unfold Zbn
    conv=>whnf
    repeat'(first|refine wk3 ?_|(refine wk2 ?_ ?_<;>intro _)|fail)
    refine Zn (S:=Nat × Int) (fun t=>T.length-t.1) (fun t=>[(0,.asl 2 0 ln),(2,Bo true),(4,.ptr 23 0 0),(7,I t.2)]) (fun _=>[(23,.row 2 [[I ux,I uy]] true false),(2,.row 2 els true true),(1,.row 2 [[I ox,I oy]] true false),(0,.row 9 [h.cells] true false)]) 24 24
     (fun t=>t.2=t.1/\t.1<=T.length/\(ux,uy)∉T.take t.1) (0,0) ⟨rfl,Qq _,by simp⟩ (Qm rfl) [] rfl (kps) (kps) ?_
    rintro ⟨q,i⟩ ⟨hi,hq,hno⟩
    dsimp only at hi hq hno ⊢
    subst hi
    by_cases hqt:q<T.length
    ·have e2:els[0+((q:Nat):Int).toNat]?=some (wv T[q]):=by rw [hels]; exact Xg hqt
     have hmem:=Qn hqt
     have hno2:(ux,uy)≠T[q]->(ux,uy)∉T.take (q+1):=fun hne=>by
      rw [Qv hqt,Si,Tt]
      rintro (q|q)
      ·exact hno q
      ·exact hne q
     generalize T[q]=x at *
     obtain ⟨x1,x2⟩:=x
     by_cases hx:x1=ux/\x2=uy
     ·obtain ⟨rfl,rfl⟩:=hx
      have hS:toP h.cs (ox,oy) (j+1)=T:=by rw [hS]; unfold Kk; rw [if_pos hmem]
      rw [<-hS] at hels
      refine bs.av (sx:=ins1) hk ?_
      repeat'(first|refine wk3 ?_|(refine wk2 ?_ ?_<;>intro _)|fail)
      all_goals first
       | exact Qr ⟨(k+1,j+1,_,ln,els),[(2,2)],rfl,kps,kps,⟨hkl,Zb (by omega),hlt,hln,hels⟩,by dsimp only; omega⟩
       | (exfalso; clear hk hels hS hT; simp_all; done)
     ·have hraw:(decide (x1=ux)&&(decide (x2=uy)&&true))=false:=by
       rw [Qx]
       intro q
       simp only [Pr,Qc,decide_eq_true_eq] at q
       exact hx q
      have hno3:=hno2 (fun q=>hx ⟨(congrArg Prod.fst q).symm,(congrArg Prod.snd q).symm⟩)
      refine bs.av (sx:=ins1) hk ?_
      repeat'(first|refine wk3 ?_|(refine wk2 ?_ ?_<;>intro _)|fail)
      all_goals first
       | exact Qr ⟨(q+1,Qa Qb ((q:Int)+1)),[],rfl,kps,kps,⟨Zb (by omega),hqt,hno3⟩,by dsimp only; omega⟩
       | (exfalso; clear hk hels hS hT; simp_all; done)
    have hqn:q=T.length:=by omega
    subst hqn
    rw [Wo] at hno
    have hS:toP h.cs (ox,oy) (j+1)=insT snB T (ux,uy) T.length:=by rw [hS]; unfold Kk; rw [if_neg hno,Zk4]
    refine bs.av (sx:=ins1) hk ?_
    repeat'(first|refine wk3 ?_|(refine wk2 ?_ ?_<;>intro _)|fail)
    have lelT:els.length=T.length:=lel
    refine Zn (S:=Nat × Int × List (List AV)) (fun t=>t.1) (fun t=>[(0,.asl 25 0 (els.length+1)),(2,Bo true),(8,I t.2.1)]) (fun t=>[(25,.row 2 t.2.2 true true),(1,.row 2 [[I ox,I oy]] true false),(0,.row 9 [h.cells] true false)]) 26 26
     (fun t=>t.2.1=t.1/\t.1<=T.length/\t.2.2=(insI T (ux,uy) t.1).map wv/\insT snB T (ux,uy) t.1=insT snB T (ux,uy) T.length) (T.length,_,els++[[I ux,I uy]]) ⟨by
      show IntKind.i64.wrap (((els.length+1:Nat):Int)-1)=_
      rw [W_eq (by omega) (by omega)]; omega,Qe _,by rw [Zk5,Ro,<-hels]; rfl,rfl⟩ (Qm rfl) [] rfl (kps) (kps) ?_
    rintro ⟨q,i,cur⟩ ⟨hi,hq,hcur,hit⟩
    dsimp only at hi hq hcur hit ⊢
    subst hi
    have lcur:cur.length=els.length+1:=by rw [hcur,Qj,Zr9 _ _ hq]; omega
    cases q with
    | zero =>
     have hfin:cur=(toP h.cs (ox,oy) (j+1)).map wv:=by rw [hS,<-hit,Zny,hcur]
     refine bs.av (sx:=ins1) hk ?_
     repeat'(first|refine wk3 ?_|(refine wk2 ?_ ?_<;>intro _)|fail)
     all_goals first
      | exact Qr ⟨(k+2,j+1,_,els.length+1,cur),[(2,25)],rfl,kps,kps,⟨by show k+2=cur.length; omega,Zb (by omega),hlt,by show els.length+1=cur.length; omega,hfin⟩,by dsimp only; omega⟩
      | (exfalso; clear hk hels hS hT; simp_all; done)
    | succ q =>
     have hqt:q<T.length:=by omega
     obtain ⟨g1',g2'⟩:=Zsa (l:=T) (t:=(ux,uy)) hqt
     have eW:Qa Qb (((q+1:Nat):Int)-1)=(q:Int):=by rw [W_eq (by omega) (by omega)]; omega
     have e1:cur[0+(((q+1:Nat):Int)).toNat]?=some (wv (ux,uy)):=by rw [hcur,Sb,Re,Rn,g1']; rfl
     have e2:cur[0+(Qa Qb (((q+1:Nat):Int)-1)).toNat]?=some (wv T[q]):=by rw [eW,hcur,Sb,Re,Rn,g2']; rfl
     have eS:Zck (Zck cur (0+(((q+1:Nat):Int)).toNat) (wv T[q])) (0+(Qa Qb (((q+1:Nat):Int)-1)).toNat) (wv (ux,uy))=(insI T (ux,uy) q).map wv:=by
      rw [eW,Ua,Ua,Sb,Sb,Re,Re,hcur,<-Kl,<-Kl,Zn1 hqt]
     have e3:(Zck cur (0+(((q+1:Nat):Int)).toNat) (wv T[q]))[0+(Qa Qb (((q+1:Nat):Int)-1)).toNat]?=some (wv T[q]):=by
      rw [Ua,Mq (by rw [eW,Re,Re]; omega)]
      exact e2
     have hstep:=Zn0 (R:=snB) (t:=(ux,uy)) hqt
     have hstop:=Znz (R:=snB) (t:=(ux,uy)) hqt
     have c6:=Zvp hb5 (hTb _ (Qn hqt)) true
     have hso:soB true (ux,uy) T[q]=snB (ux,uy) T[q]:=rfl
     rw [hso] at c6
     have dD:decide (0<=Qa Qb (((q+1:Nat):Int)-1)/\Qa Qb (((q+1:Nat):Int)-1)<((els.length+1:Nat):Int))=true:=by rw [eW]; exact decide_eq_true (by omega)
     generalize snB (ux,uy) T[q]=bb at *
     generalize T[q]=x at *
     obtain ⟨x1,x2⟩:=x
     cases bb with
     | true =>
      refine bs.av (sx:=ins1) hk ?_
      repeat'(first|refine wk3 ?_|(refine wk2 ?_ ?_<;>intro _)|fail)
      all_goals first
       | exact Qr ⟨(q,Qa Qb (((q+1:Nat):Int)-1),_),[],rfl,kps,kps,⟨eW,by omega,eS,by rw [<-hstep rfl]; exact hit⟩,by dsimp only; omega⟩
       | (exfalso; clear hk hels hS hT; simp_all; done)
     | false =>
      have hfin:cur=(toP h.cs (ox,oy) (j+1)).map wv:=by rw [hS,<-hit,hstop rfl,hcur]
      refine bs.av (sx:=ins1) hk ?_
      repeat'(first|refine wk3 ?_|(refine wk2 ?_ ?_<;>intro _)|fail)
      all_goals first
       | exact Qr ⟨(k+2,j+1,_,els.length+1,cur),[(2,25)],rfl,kps,kps,⟨by show k+2=cur.length; omega,Zb (by omega),hlt,by show els.length+1=cur.length; omega,hfin⟩,by dsimp only; omega⟩
       | (exfalso; clear hk hels hS hT; simp_all; done)
 have hjn:j=h.cs.length:=by omega
 subst hjn
 rw [Zu0] at hels
 obtain ⟨h3,hgood⟩:=Zb4 g k0
 generalize hTT:tO h.cs (ox,oy)=T at *
 have lel:els.length=T.length:=by rw [hels,Qj]
 obtain ⟨k',rfl⟩:∃ k',k=k'+1:=⟨k-1,by omega⟩
 subst hels
 have hlnT:ln=T.length:=by omega
 subst hlnT
 have hT1000:T.length<1000:=by have:=(htp h.cs.length hj).2; rw [Zu0,hTT] at this; omega
 have lwv:(T.map wv).length=T.length:=Qj _
 refine bs.avT (sx:=ins1) hk ?_
 repeat'(first|refine wk3 ?_|(refine wk2 ?_ ?_<;>intro _)|fail)
 have hRB:Zl h.cs (ox,oy)=(Rw T.length).map fun i=>⟨[],(ox,oy),getV T i,getV T ((i+1)%T.length),nxtV h.cs (ox,oy) none (addV (getV T i) (getV T ((i+1)%T.length)))⟩:=by
  unfold Zl
  rw [hTT]
 have hbm:∀ i,i<T.length->∃ m:Bm,m=⟨[],(ox,oy),getV T i,getV T ((i+1)%T.length),nxtV h.cs (ox,oy) none (addV (getV T i) (getV T ((i+1)%T.length)))⟩/\GoodB h m:=fun i hi=>by
  refine ⟨_,rfl,?_⟩
  refine (hgood _ ?_).1
  rw [hRB]
  exact Ta.2 ⟨i,Rx.2 hi,rfl⟩
 rw [hRB]
 clear hgood hRB hTT hsn htp hbd hst hrv
 let F:Nat->Bm:=fun i=>⟨[],(ox,oy),getV T i,getV T ((i+1)%T.length),nxtV h.cs (ox,oy) none (addV (getV T i) (getV T ((i+1)%T.length)))⟩
 refine Zn (S:=Nat × Nat × Int × Nat × List (List AV)) (fun t=>T.length-t.2.1) (fun t=>[(2,.ptr 0 0 0),(3,.ptr 1 0 0),(5,.asl 2 0 T.length),(7,gv 3 t.1 t.2.2.2.1),(8,I t.2.2.1)])
  (fun t=>gz 3 8 t.1 t.2.2.2.2 [(2,.row 2 (T.map wv) true true),(1,.row 2 [[I ox,I oy]] true false),(0,.row 9 [h.cells] true false)]) 3 4
  (fun t=>t.1=t.2.1/\t.2.2.1=t.2.1/\t.2.1<=T.length/\t.2.2.2.1=t.2.2.2.2.length/\t.2.2.2.2=((Rw t.2.1).map F).map bmA) (0,0,0,0,[]) ⟨rfl,rfl,Qq _,rfl,rfl⟩ (Qe _) [] rfl (kps) (kps) ?_
 rintro ⟨k,j,i,len,els⟩ ⟨hkj,hi,hj,hlen,hels⟩
 dsimp only at hkj hi hj hlen hels ⊢
 subst hi
 by_cases hlt:j<T.length
 ·obtain ⟨m,em,gm⟩:=hbm j hlt
  have hq:=Xp hlt
  have hj2:(j+1)%T.length<T.length:=Nat.mod_lt _ (by omega)
  have hq2:=Xp hj2
  have eW:Qa Qb ((j:Int)+1)=((j+1:Nat):Int):=Zb (by omega)
  have eM:Int.tmod ((j+1:Nat):Int) (T.length:Int)=(((j+1)%T.length:Nat):Int):=by
   rw [Int.tmod_eq_emod_of_nonneg (by omega)]; omega
  have eD:decide (0<=(Qa Qb ((j:Int)+1)).tmod (T.length:Int)/\(Qa Qb ((j:Int)+1)).tmod (T.length:Int)<(T.length:Int))=true:=by
   rw [eW,eM]
   exact decide_eq_true (by omega)
  have e1:=Xg hlt
  have e2:=Xg hj2
  obtain ⟨n1,n2,n3⟩:=Zxb g gm
  have hmo:m.o=(ox,oy):=by rw [em]
  have hmw:Xc m.ws=none:=by rw [em]; rfl
  rw [hmo,hmw] at n1 n2 n3
  have hc:=Zvr (h:=h) (o:=(ox,oy)) (L:=none) gm.ba gm.bb n1 n2
  rw [n3,hTN,hla] at hc
  have e3:((Rw (j+1)).map F).map bmA=els++[bmA m]:=by
   rw [Nb,Ro,Ro,<-hels]
   show els++[bmA (F j)]=_
   rw [em]
  have ea:T[j]=m.a:=by rw [em,<-hq]
  have eb:T[(j+1)%T.length]=m.b:=by rw [em,<-hq2]
  rw [ea] at e1
  rw [eb,<-eM,<-eW] at e2
  have l4:els.length<2000:=by rw [hels,Qj,Qj,Su]; omega
  have hb0:wsA m.ws = .nils:=by rw [em]; rfl
  have hbA:bmA m=[.nils,I ox,I oy,I m.a.1,I m.a.2,I m.b.1,I m.b.2,I m.nx]:=by unfold bmA; rw [hb0,hmo]
  rw [hbA] at e3
  have hz1:¬ ((T.length:Int)=0):=by omega
  clear n1 n2 n3
  generalize m.nx=nx at *
  generalize hma:m.a=A at *
  generalize hmb:m.b=B at *
  obtain ⟨ax,ay⟩:=A
  obtain ⟨bx,by'⟩:=B
  dsimp only at e1 e2 hc e3
  clear em gm hma hmb hbA hb0 hq hq2 ea eb hbm hmo hmw
  cases k with
  | zero =>
   have hz:els=[]:=by rw [hels,<-hkj]; rfl
   subst hz
   refine bs.avT (sx:=ins1) hk ?_
   repeat'(first|refine wk3 ?_|(refine wk2 ?_ ?_<;>intro _)|fail)
   all_goals first
    | (exfalso; exact Jb (eD.symm.trans (by assumption)))
    | skip
   exact Qr ⟨(1,j+1,_,_,[[.nils,I ox,I oy,I ax,I ay,I bx,I by',I nx]]),[(3,31)],rfl,kps,kps,⟨by show 1=j+1; omega,Zb (by omega),hlt,rfl,e3.symm⟩,by dsimp only; omega⟩
  | succ k =>
   refine bs.avT (sx:=ins1) hk ?_
   repeat'(first|refine wk3 ?_|(refine wk2 ?_ ?_<;>intro _)|fail)
   all_goals first
    | (exfalso; exact Jb (eD.symm.trans (by assumption)))
    | skip
   refine Xy (ys:=[[.nils,I ox,I oy,I ax,I ay,I bx,I by',I nx]]) rfl rfl rfl rfl rfl rfl rfl rfl rfl rfl (by simp) hlen (by simp only [Qz,Ri]; omega) ?_
   repeat'(first|refine wk3 ?_|(refine wk2 ?_ ?_<;>intro _)|fail)
   exact Qr ⟨(k+2,j+1,_,_,els++[[.nils,I ox,I oy,I ax,I ay,I bx,I by',I nx]]),[(3,31)],rfl,kps,kps,⟨by show k+2=j+1; omega,Zb (by omega),hlt,by exact List.length_append.symm,e3.symm⟩,by dsimp only; omega⟩
 ·have hjn:j=T.length:=by omega
  subst hjn
  subst hels
  obtain ⟨k2,rfl⟩:∃ k2,k=k2+1:=⟨k-1,by omega⟩
  refine bs.avT (sx:=ins1) hk ?_
  repeat'(first|refine wk3 ?_|(refine wk2 ?_ ?_<;>intro _)|fail)
  exact Yk [3] rfl (by rw [hlen]; rfl) rfl
def zz (k:Nat) (pre EX:List (List AV)) (el:Nat) (c:List AV) (z:List (Nat × ABlk)):List (Nat × ABlk):=match k with
 | 0=>z
 | _=>(62,.row 1 EX true true)::(61,.row 8 (pre++[.asl 62 0 el::c]) true false)::z
theorem Zeo (f:Nat->Nat):∀ a b:List (List AV),Vf f (a++b)=Vf f a++Vf f b
 | [],b=>rfl
 | x::a,b=>by rw [Oo,Vf,Vf,Zeo f a b]; rfl
theorem Zjp (m:Nat):∀ a b:List (List AV),Zbt m (a++b)=(Zbt m a&&Zbt m b)
 | [],b=>by simp [Zbt]
 | x::a,b=>by rw [Oo,Zbt,Zbt,Zjp m a b,Bool.and_assoc]
theorem Ycz (f:Nat->Nat) (m:Bm):renL f (bmA m)=bmA m:=by
 unfold bmA wsA
 cases m.ws<;>rfl
theorem Zkv (f:Nat->Nat):∀ ls:List Bm,Vf f (ls.map bmA)=ls.map bmA
 | []=>rfl
 | L::ls=>by rw [Sf,Vf,Zkv f ls,Ycz]
theorem Ygm (k:Nat) (m:Bm):Vv k (bmA m)=true:=by
 unfold bmA wsA
 cases m.ws<;>rfl
theorem Zw1 (m:Nat):∀ ls:List Bm,Zbt m (ls.map bmA)=true
 | []=>rfl
 | L::ls=>by rw [Sf,Zbt,Zw1 m ls,Ygm]; rfl
theorem Zv4 (l:List V):Xr (l.map wv)=true:=by
 unfold Xr
 rw [List.all_map]
 exact List.all_eq_true.2 fun m _=>rfl
def rB7:List AV->Option PRes
 | [.agg [.int .i64 a,.int .i64 b],.agg [.int .i64 c,.int .i64 d],.agg [.int .i64 x,.int .i64 y]]=>some ⟨Bo (btW (a,b) (c,d) (x,y)),[]⟩
 | _=>none
theorem Yfo {pt:PC} (h:PCOK Tryz.prog pt):PCOK Tryz.prog (ins 97 rB7 pt):=Zk (fun a res h=>by unfold rB7 at h; split at h<;>cases h; exact d33b (_,_) (_,_) (_,_)) h
theorem e48i {h:Hal} (hf:h.few) (g:h.fine) {w:Nat} (hw:w<h.cs.length) {o:V} (ho:OB o):PCall Tryz.prog 48 [h.av,I w,P2 o.1 o.2] ⟨P2 (imgO h.cs w o).1 (imgO h.cs w o).2,[]⟩:=by
 obtain ⟨n,hs⟩:=Ztg g hw
 exact e48 hf g hw hs ho.x ho.y
theorem e59i {h:Hal} (hf:h.few) (g:h.fine) {m:Bm} (G:GoodB h m) (hlen:m.ws.length<4):PCall Tryz.prog 59 [h.av,.agg (bmI m)] ⟨.isl 8 ((behB h.cs m).map bmA),[]⟩:=by
 have B:=Zsz g G hlen
 have hgood:=Zfi g G hlen
 obtain ⟨w,enx,_⟩:=G.sec
 have e2:m.nx.toNat=w:=by omega
 rw [e2] at B
 obtain ⟨s1,_,s3,_⟩:=Zf3 g B
 have hL:∀ l,some w=some l->l<h.cs.length:=fun l q=>by cases q; exact B.wl
 have mlo:=Zvv (h:=h) (w:=(w:Int)) (v:=m.b) ⟨by omega,by have:=B.wl; omega⟩ ⟨by have:=G.bb; omega,by have:=G.bb; omega⟩
 have mhi:=Zvv (h:=h) (w:=(w:Int)) (v:=m.a) ⟨by omega,by have:=B.wl; omega⟩ ⟨by have:=G.ba; omega,by have:=G.ba; omega⟩
 rw [Re] at mlo mhi
 have hob:OB m.o:=⟨by have:=G.ox; omega,by have:=G.ox; omega⟩
 have c48:=e48i hf g B.wl hob
 have c23:=c25 m.ws (by omega)
 have hRB:behB h.cs m=(Rw ((tB h.cs (imgO h.cs w m.o) w (imgV h.cs w m.b) (imgV h.cs w m.a)).length-1)).map fun i=>⟨m.ws++[m.nx],imgO h.cs w m.o,getV (tB h.cs (imgO h.cs w m.o) w (imgV h.cs w m.b) (imgV h.cs w m.a)) i,getV (tB h.cs (imgO h.cs w m.o) w (imgV h.cs w m.b) (imgV h.cs w m.a)) (i+1),nxtV h.cs (imgO h.cs w m.o) (some w) (addV (getV (tB h.cs (imgO h.cs w m.o) w (imgV h.cs w m.b) (imgV h.cs w m.a)) i) (getV (tB h.cs (imgO h.cs w m.o) w (imgV h.cs w m.b) (imgV h.cs w m.a)) (i+1)))⟩:=by
  unfold behB
  rw [e2]
 have hlw:Xc (m.ws++[m.nx])=some w:=by rw [enx]; exact Zjm _ _
 have b0:=B.pos
 have b3:=Zd4 B.bl
 have b4:=Zd4 B.bh
 have l12:h.cs.length<=12:=by have:=g.le; omega
 have hsn:=fun k (hk:k<h.cs.length)=>Zvq (h:=h) (o:=imgO h.cs w m.o) (L:=some w) hk
 have hlk:=B.lk
 have htp:=fun j (hj:j<=h.cs.length)=>Ybz g B.ob w (imgV h.cs w m.b) (imgV h.cs w m.a) j hj
 have hbd:=fun k (hk:k<h.cs.length)=>Zcy g B.ob (Qn hk)
 have hst:=fun j (hj:j<h.cs.length)=>Zse (cs:=h.cs) (o:=imgO h.cs w m.o) (lo:=imgV h.cs w m.b) (hi:=imgV h.cs w m.a) (w:=w) hj
 have hen:=Yd3 h.cs (imgO h.cs w m.o) w (imgV h.cs w m.b) (imgV h.cs w m.a)
 have hrv:=fun k (hk:k<h.cs.length)=>Zrq g B.ob (Qn hk)
 have hTT:tB h.cs (imgO h.cs w m.o) w (imgV h.cs w m.b) (imgV h.cs w m.a)=imgV h.cs w m.b::(innT h.cs (imgO h.cs w m.o) w (imgV h.cs w m.b) (imgV h.cs w m.a)++[imgV h.cs w m.a]):=rfl
 have qkS:=Ybe (pt:=ins 176 rSo (ins 95 rTn (ins 97 rB7 (ins 96 (rNz h (imgO h.cs w m.o) (some w)) (ins 19 (rMm h) (ins 48 (one [h.av,I w,P2 m.o.1 m.o.2] ⟨P2 (imgO h.cs w m.o).1 (imgO h.cs w m.o).2,[]⟩) (ins 23 (one [.isl 1 (nl m.ws)] ⟨.asl 0 0 (nl m.ws).length,[(1,nl m.ws)]⟩) pt0))))))) hf g B.ob hL (Ybd (Ybc (Yfo (Ybf hf g B.ob (L:=some w) (Yfe hf g (Zf c48 (Zf c23 Ze)))))))
 have l13:=(htp h.cs.length (Qe _)).2
 rw [hen] at l13
 have len:(h.cs.map pt).length=h.cs.length:=by simp
 generalize hTNe:rNz h (imgO h.cs w m.o) (some w)=TN at *
 generalize hTSe:rSn h (imgO h.cs w m.o) (some w)=TS at *
 generalize inP h.cs (imgO h.cs w m.o) w (imgV h.cs w m.b) (imgV h.cs w m.a)=IP at *
 generalize hII:innT h.cs (imgO h.cs w m.o) w (imgV h.cs w m.b) (imgV h.cs w m.a)=II at *
 generalize hTe:tB h.cs (imgO h.cs w m.o) w (imgV h.cs w m.b) (imgV h.cs w m.a)=T at *
 have hIP0:IP 0=[]:=Wi.1 (by have:=(htp 0 (Qq _)).2; omega)
 generalize hio:imgO h.cs w m.o=io at *
 generalize hlo:imgV h.cs w m.b=lo at *
 generalize hhi:imgV h.cs w m.a=hi at *
 generalize rMm h=TM at *
 refine La (res:=⟨.asl 0 0 ((behB h.cs m).map bmA).length,[(8,(behB h.cs m).map bmA)]⟩) ?_ ⟨rfl,rfl,rfl⟩
 rw [hRB] at hgood ⊢
 clear hRB c48 c23 B
 generalize hF:(fun i=>(⟨m.ws++[m.nx],io,getV T i,getV T (i+1),nxtV h.cs io (some w) (addV (getV T i) (getV T (i+1)))⟩:Bm))=F at *
 have hF2:∀ i,F i=(⟨m.ws++[m.nx],io,getV T i,getV T (i+1),nxtV h.cs io (some w) (addV (getV T i) (getV T (i+1)))⟩:Bm):=fun i=>by rw [<-hF]
 clear hF
 obtain ⟨ws,o,a,b,nx⟩:=m
 dsimp only at *
 subst enx
 have hl1:laI (some w)=(w:Int):=rfl
 rw [hl1] at *
 have hwe:wsA (ws++[(w:Int)]) = .isl 1 (nl ws++[[I (w:Int)]]):=by
  unfold wsA
  cases ws with
  | nil=>rfl
  | cons x r=>simp [nl]
 have hNl:(nl ws).length<1000:=by rw [Yv]; omega
 generalize hN:nl ws=N at *
 obtain ⟨iox,ioy⟩:=io
 obtain ⟨lx,ly⟩:=lo
 obtain ⟨hx,hy⟩:=hi
 obtain ⟨ox,oy⟩:=o
 obtain ⟨ax,ay⟩:=a
 obtain ⟨bx,by'⟩:=b
 dsimp only at *
 unfold bmI
 dsimp only
 rw [hN]
 have hk:=qkS
 clear qkS
 refine bs.pv (sx:=ins1) hk Tryz.func59 (by kernel_rfl) (by kernel_rfl) rfl ?_
 repeat'(first|refine wk3 ?_|(refine wk2 ?_ ?_<;>intro _)|fail)
 refine Zn (S:=Nat × Nat × Int × Nat × List (List AV)) (fun t=>h.cs.length-t.2.1) (fun t=>[(2,.ptr 0 0 0),(3,.ptr 1 0 0),(5,I (w:Int)),(6,.ptr 2 0 0),(7,.ptr 13 0 0),(8,.ptr 14 0 0),(9,gv 17 t.1 t.2.2.2.1),(10,I t.2.2.1)])
  (fun t=>gz 17 2 t.1 t.2.2.2.2 [(14,.row 2 [[I hx,I hy]] true false),(13,.row 2 [[I lx,I ly]] true false),(2,.row 2 [[I iox,I ioy]] true false),(1,.row 8 [[.isl 1 N,I ox,I oy,I ax,I ay,I bx,I by',I (w:Int)]] true false),(0,.row 9 [h.cells] true false)]) 17 18
  (fun t=>t.1=t.2.2.2.2.length/\t.2.2.1=t.2.1/\t.2.1<=h.cs.length/\t.2.2.2.1=t.2.2.2.2.length/\t.2.2.2.2=(IP t.2.1).map wv) (0,0,0,0,[]) ⟨rfl,rfl,Qq _,rfl,by rw [hIP0]; rfl⟩ (Qe _) [] rfl (kps) (kps) ?_
 rintro ⟨k,j,i,ln,els⟩ ⟨hkl,hi,hj,hln,hels⟩
 dsimp only at hkl hi hj hln hels ⊢
 subst hi
 by_cases hlt:j<h.cs.length
 ·have hs:=hsn j hlt
  have hT:=htp j hj
  have hS:=hst j hlt
  have hb:=hbd j hlt
  have hvb:=hrv j hlt
  have e1:(h.cs.map pt)[((j:Nat):Int).toNat]?=some (pt h.cs[j]):=by simp [hlt]
  have lel:els.length=(IP j).length:=by rw [hels,Qj]
  have hne:=Zrl (cs:=h.cs) (o:=(iox,ioy)) (p:=h.cs[j]) (L:=some w)
  have hrp:=fun x (hz:toW (iox,ioy) h.cs[j]≠(0,0))=>Ub hz (x:=x)
  have hlv:=hlk (toW (iox,ioy) h.cs[j])
  have hbw:toW (iox,ioy) h.cs[j]≠(0,0)->btW (lx,ly) (hx,hy) (red (toW (iox,ioy) h.cs[j]))=(decide (0<Sm (lx,ly) (toW (iox,ioy) h.cs[j]))&&decide (0<Sm (toW (iox,ioy) h.cs[j]) (hx,hy))):=fun hz=>by
   rw [Yci b3 b4 (Zd4 (hvb hz)) b0]
   congr 1
   ·exact decide_eq_decide.2 (hrp _ hz).2
   ·exact decide_eq_decide.2 (hrp _ hz).1
  have htn:=fun hz:toW (iox,ioy) h.cs[j]≠(0,0)=>Zvo hz (Zd4 hb)
  have ew1:(toW (iox,ioy) h.cs[j]).1=Qa Qb (h.cs[j].1-iox):=by
   unfold toW at hb ⊢
   dsimp only at hb ⊢
   rw [W_eq (by omega) (by omega)]
  have ew2:(toW (iox,ioy) h.cs[j]).2=Qa Qb (h.cs[j].2-ioy):=by
   unfold toW at hb ⊢
   dsimp only at hb ⊢
   rw [W_eq (by omega) (by omega)]
  rw [ew1,ew2] at htn
  have hpz:toW (iox,ioy) h.cs[j]=(0,0)↔h.cs[j]=(iox,ioy):=toW_zero
  generalize rsB h.cs (iox,ioy) (some w) h.cs[j]=b2 at *
  generalize toW (iox,ioy) h.cs[j]=v at *
  generalize red v=u at *
  generalize hp:h.cs[j]=p at *
  generalize hT' : IP j=T1 at *
  generalize hT2:IP (j+1)=T2 at *
  clear hsn htp hbd hst hrv hrp
  obtain ⟨ux,uy⟩:=u
  obtain ⟨p1,p2⟩:=p
  dsimp only at e1 htn
  have same:T2=T1->els=T2.map wv:=fun q=>by rw [q]; exact hels
  by_cases hpe:p1=iox/\p2=ioy
  ·have hv0:=hpz.2 (by rw [hpe.1,hpe.2])
   have hb20:b2=false:=by
    cases b2
    ·rfl
    ·exact absurd hv0 (hne rfl)
   have hs2:=same (by rw [hS,hb20,Bool.and_false,if_neg (by decide)])
   obtain ⟨rfl,rfl⟩:=hpe
   clear hS hs hlv hbw htn hne
   cases k with
   | zero =>
    refine bs.av (sx:=ins1) hk ?_
    repeat'(first|refine wk3 ?_|(refine wk2 ?_ ?_<;>intro _)|fail)
    all_goals first|exact Qr ⟨(0,j+1,_,ln,els),[],rfl,kps,kps,⟨hkl,Zb (by omega),hlt,hln,by rw [hT2]; exact hs2⟩,by dsimp only; omega⟩|(exfalso; clear hk; simp_all; done)
   | succ k =>
    refine bs.av (sx:=ins1) hk ?_
    repeat'(first|refine wk3 ?_|(refine wk2 ?_ ?_<;>intro _)|fail)
    all_goals first|exact Qr ⟨(k+1,j+1,_,ln,els),[(17,17)],rfl,kps,kps,⟨hkl,Zb (by omega),hlt,hln,by rw [hT2]; exact hs2⟩,by dsimp only; omega⟩|(exfalso; clear hk; simp_all; done)
  have hvz:v≠(0,0):=fun q=>hpe (by have:=hpz.1 q; rw [Prod.mk.injEq] at this; exact this)
  have ht:=htn hvz
  have hbw:=hbw hvz
  rw [<-hbw] at hS
  have hs3:btW (lx,ly) (hx,hy) (ux,uy)=true->TS [h.av,P2 iox ioy,I (w:Int),I (j:Int)]=some ⟨Bo b2,[]⟩:=fun q=>by
   rw [q] at hbw
   have hbw:=hbw.symm
   rw [Qc,decide_eq_true_eq,decide_eq_true_eq] at hbw
   exact hs (fun _=>hlv hbw.1 hbw.2)
  have hvb2:=hvb hvz
  clear hs htn hlv hbw hvb
  have lT:T1.length<=12:=by have:=hT.2; omega
  have hb5:Vb (ux,uy):=Zd4 hvb2
  have hTb:∀ x∈T1,Vb x:=fun x hx=>Zd4 (hT.1 x hx)
  cases hb1:btW (lx,ly) (hx,hy) (ux,uy) with
  | false =>
   have hs2:=same (by rw [hS,hb1,Bool.false_and,if_neg (by decide)])
   clear hS hs3
   cases k with
   | zero =>
    refine bs.av (sx:=ins1) hk ?_
    repeat'(first|refine wk3 ?_|(refine wk2 ?_ ?_<;>intro _)|fail)
    all_goals first|exact Qr ⟨(0,j+1,_,ln,els),[],rfl,kps,kps,⟨hkl,Zb (by omega),hlt,hln,by rw [hT2]; exact hs2⟩,by dsimp only; omega⟩|(exfalso; exact hpe ⟨by assumption,by assumption⟩)|(exfalso; rename_i q; rw [hb1] at q; cases q; done)|(exfalso; clear hk; simp_all; done)
   | succ k =>
    refine bs.av (sx:=ins1) hk ?_
    repeat'(first|refine wk3 ?_|(refine wk2 ?_ ?_<;>intro _)|fail)
    all_goals first|exact Qr ⟨(k+1,j+1,_,ln,els),[(17,17)],rfl,kps,kps,⟨hkl,Zb (by omega),hlt,hln,by rw [hT2]; exact hs2⟩,by dsimp only; omega⟩|(exfalso; exact hpe ⟨by assumption,by assumption⟩)|(exfalso; rename_i q; rw [hb1] at q; cases q; done)|(exfalso; clear hk; simp_all; done)
  | true =>
   have hs4:=hs3 hb1
   rw [hb1,Bool.true_and] at hS
   clear hs3
   cases b2 with
   | false =>
    have hs2:=same (by rw [hS,if_neg (by decide)])
    clear hS
    cases k with
    | zero =>
     refine bs.av (sx:=ins1) hk ?_
     repeat'(first|refine wk3 ?_|(refine wk2 ?_ ?_<;>intro _)|fail)
     all_goals first|exact Qr ⟨(0,j+1,_,ln,els),[],rfl,kps,kps,⟨hkl,Zb (by omega),hlt,hln,by rw [hT2]; exact hs2⟩,by dsimp only; omega⟩|(exfalso; exact hpe ⟨by assumption,by assumption⟩)|(exfalso; rename_i q; rw [hb1] at q; cases q; done)|(exfalso; clear hk; simp_all; done)
    | succ k =>
     refine bs.av (sx:=ins1) hk ?_
     repeat'(first|refine wk3 ?_|(refine wk2 ?_ ?_<;>intro _)|fail)
     all_goals first|exact Qr ⟨(k+1,j+1,_,ln,els),[(17,17)],rfl,kps,kps,⟨hkl,Zb (by omega),hlt,hln,by rw [hT2]; exact hs2⟩,by dsimp only; omega⟩|(exfalso; exact hpe ⟨by assumption,by assumption⟩)|(exfalso; rename_i q; rw [hb1] at q; cases q; done)|(exfalso; clear hk; simp_all; done)
   | true =>
    rw [if_pos rfl] at hS
    cases k with
    | zero =>
     have hz:els=[]:=Wi.1 hkl.symm
     have hTz:T1=[]:=by
      have:T1.length=0:=by omega
      exact Wi.1 this
     subst hz
     rw [hTz] at hS
     have hS:T2=[(ux,uy)]:=hS
     refine bs.av (sx:=ins1) hk ?_
     repeat'(first|refine wk3 ?_|(refine wk2 ?_ ?_<;>intro _)|fail)
     all_goals first|(exfalso; exact hpe ⟨by assumption,by assumption⟩)|(exfalso; rename_i q; rw [hb1] at q; cases q; done)|(exfalso; exact hpe ⟨of_decide_eq_true (by assumption),of_decide_eq_true (by assumption)⟩)|skip
     all_goals
      refine bs.sv (sx:=ins1) hk Tryz.func94 (by kernel_rfl) (by kernel_rfl) ?_
      unfold Zbn
      conv=>whnf
      repeat'(first|refine wk3 ?_|(refine wk2 ?_ ?_<;>intro _)|fail)
      refine Mi 1 (Wp (bs.av (sx:=ins1) hk ?_))
      repeat'(first|refine wk3 ?_|(refine wk2 ?_ ?_<;>intro _)|fail)
      refine Mi 1 (Wp (bs.av (sx:=ins1) hk ?_))
      repeat'(first|refine wk3 ?_|(refine wk2 ?_ ?_<;>intro _)|fail)
      exact Qr ⟨(1,j+1,_,1,[wv (ux,uy)]),[(17,22)],rfl,kps,kps,⟨rfl,Zb (by omega),hlt,rfl,by rw [hT2,hS]; rfl⟩,by dsimp only; omega⟩
    | succ k =>
     have h2000:els.length<2000:=by omega
     refine bs.av (sx:=ins1) hk ?_
     repeat'(first|refine wk3 ?_|(refine wk2 ?_ ?_<;>intro _)|fail)
     all_goals first|(exfalso; exact hpe ⟨by assumption,by assumption⟩)|(exfalso; rename_i q; rw [hb1] at q; cases q; done)|(exfalso; exact hpe ⟨of_decide_eq_true (by assumption),of_decide_eq_true (by assumption)⟩)|skip
     all_goals
      refine bs.sv (sx:=ins1) hk Tryz.func94 (by kernel_rfl) (by kernel_rfl) ?_
      unfold Zbn
      conv=>whnf
      repeat'(first|refine wk3 ?_|(refine wk2 ?_ ?_<;>intro _)|fail)
      refine Zn (S:=Nat × Int) (fun t=>T1.length-t.1) (fun t=>[(0,.asl 17 0 ln),(2,Bo false),(4,.ptr 20 0 0),(7,I t.2)]) (fun _=>[(20,.row 2 [[I ux,I uy]] true false),(17,.row 2 els true true),(14,.row 2 [[I hx,I hy]] true false),(13,.row 2 [[I lx,I ly]] true false),(2,.row 2 [[I iox,I ioy]] true false),(1,.row 8 [[.isl 1 N,I ox,I oy,I ax,I ay,I bx,I by',I (w:Int)]] true false),(0,.row 9 [h.cells] true false)]) 21 21
       (fun t=>t.2=t.1/\t.1<=T1.length/\(ux,uy)∉T1.take t.1) (0,0) ⟨rfl,Qq _,by simp⟩ (Qm rfl) [] rfl (kps) (kps) ?_
      rintro ⟨q,i⟩ ⟨hi,hq,hno⟩
      dsimp only at hi hq hno ⊢
      subst hi
      by_cases hqt:q<T1.length
      ·have e2:els[0+((q:Nat):Int).toNat]?=some (wv T1[q]):=by rw [hels]; exact Xg hqt
       have hmem:=Qn hqt
       have hno2:(ux,uy)≠T1[q]->(ux,uy)∉T1.take (q+1):=fun hne=>by
        rw [Qv hqt,Si,Tt]
        rintro (q|q)
        ·exact hno q
        ·exact hne q
       generalize T1[q]=x at *
       obtain ⟨x1,x2⟩:=x
       by_cases hx:x1=ux/\x2=uy
       ·obtain ⟨rfl,rfl⟩:=hx
        have hS:T2=T1:=by rw [hS]; unfold Kk; rw [if_pos hmem]
        rw [<-hS] at hels
        refine bs.av (sx:=ins1) hk ?_
        repeat'(first|refine wk3 ?_|(refine wk2 ?_ ?_<;>intro _)|fail)
        all_goals first
         | exact Qr ⟨(k+1,j+1,_,ln,els),[(17,17)],rfl,kps,kps,⟨hkl,Zb (by omega),hlt,hln,by rw [hT2]; exact hels⟩,by dsimp only; omega⟩
         | (exfalso; clear hk hels hS hT; simp_all; done)
       ·have hraw:(decide (x1=ux)&&(decide (x2=uy)&&true))=false:=by
         rw [Qx]
         intro q
         simp only [Pr,Qc,decide_eq_true_eq] at q
         exact hx q
        have hno3:=hno2 (fun q=>hx ⟨(congrArg Prod.fst q).symm,(congrArg Prod.snd q).symm⟩)
        refine bs.av (sx:=ins1) hk ?_
        repeat'(first|refine wk3 ?_|(refine wk2 ?_ ?_<;>intro _)|fail)
        all_goals first
         | exact Qr ⟨(q+1,Qa Qb ((q:Int)+1)),[],rfl,kps,kps,⟨Zb (by omega),hqt,hno3⟩,by dsimp only; omega⟩
         | (exfalso; clear hk hels hS hT; simp_all; done)
      have hqn:q=T1.length:=by omega
      subst hqn
      rw [Wo] at hno
      have hS:T2=insT crB T1 (ux,uy) T1.length:=by rw [hS]; unfold Kk; rw [if_neg hno,Zk4]
      refine bs.av (sx:=ins1) hk ?_
      repeat'(first|refine wk3 ?_|(refine wk2 ?_ ?_<;>intro _)|fail)
      have lelT:els.length=T1.length:=lel
      refine Zn (S:=Nat × Int × List (List AV)) (fun t=>t.1) (fun t=>[(0,.asl 22 0 (els.length+1)),(2,Bo false),(8,I t.2.1)]) (fun t=>[(22,.row 2 t.2.2 true true),(14,.row 2 [[I hx,I hy]] true false),(13,.row 2 [[I lx,I ly]] true false),(2,.row 2 [[I iox,I ioy]] true false),(1,.row 8 [[.isl 1 N,I ox,I oy,I ax,I ay,I bx,I by',I (w:Int)]] true false),(0,.row 9 [h.cells] true false)]) 23 23
       (fun t=>t.2.1=t.1/\t.1<=T1.length/\t.2.2=(insI T1 (ux,uy) t.1).map wv/\insT crB T1 (ux,uy) t.1=insT crB T1 (ux,uy) T1.length) (T1.length,_,els++[[I ux,I uy]]) ⟨by
        show IntKind.i64.wrap (((els.length+1:Nat):Int)-1)=_
        rw [W_eq (by omega) (by omega)]; omega,Qe _,by rw [Zk5,Ro,<-hels]; rfl,rfl⟩ (Qm rfl) [] rfl (kps) (kps) ?_
      rintro ⟨q,i,cur⟩ ⟨hi,hq,hcur,hit⟩
      dsimp only at hi hq hcur hit ⊢
      subst hi
      have lcur:cur.length=els.length+1:=by rw [hcur,Qj,Zr9 _ _ hq]; omega
      cases q with
      | zero =>
       have hfin:cur=(T2).map wv:=by rw [hS,<-hit,Zny,hcur]
       refine bs.av (sx:=ins1) hk ?_
       repeat'(first|refine wk3 ?_|(refine wk2 ?_ ?_<;>intro _)|fail)
       all_goals first
        | exact Qr ⟨(k+2,j+1,_,els.length+1,cur),[(17,22)],rfl,kps,kps,⟨by show k+2=cur.length; omega,Zb (by omega),hlt,by show els.length+1=cur.length; omega,by rw [hT2]; exact hfin⟩,by dsimp only; omega⟩
        | (exfalso; clear hk hels hS hT; simp_all; done)
      | succ q =>
       have hqt:q<T1.length:=by omega
       obtain ⟨g1',g2'⟩:=Zsa (l:=T1) (t:=(ux,uy)) hqt
       have eW:Qa Qb (((q+1:Nat):Int)-1)=(q:Int):=by rw [W_eq (by omega) (by omega)]; omega
       have e1:cur[0+(((q+1:Nat):Int)).toNat]?=some (wv (ux,uy)):=by rw [hcur,Sb,Re,Rn,g1']; rfl
       have e2:cur[0+(Qa Qb (((q+1:Nat):Int)-1)).toNat]?=some (wv T1[q]):=by rw [eW,hcur,Sb,Re,Rn,g2']; rfl
       have eS:Zck (Zck cur (0+(((q+1:Nat):Int)).toNat) (wv T1[q])) (0+(Qa Qb (((q+1:Nat):Int)-1)).toNat) (wv (ux,uy))=(insI T1 (ux,uy) q).map wv:=by
        rw [eW,Ua,Ua,Sb,Sb,Re,Re,hcur,<-Kl,<-Kl,Zn1 hqt]
       have e3:(Zck cur (0+(((q+1:Nat):Int)).toNat) (wv T1[q]))[0+(Qa Qb (((q+1:Nat):Int)-1)).toNat]?=some (wv T1[q]):=by
        rw [Ua,Mq (by rw [eW,Re,Re]; omega)]
        exact e2
       have hstep:=Zn0 (R:=crB) (t:=(ux,uy)) hqt
       have hstop:=Znz (R:=crB) (t:=(ux,uy)) hqt
       have c6:=Zvp hb5 (hTb _ (Qn hqt)) false
       have hso:soB false (ux,uy) T1[q]=crB (ux,uy) T1[q]:=rfl
       rw [hso] at c6
       have dD:decide (0<=Qa Qb (((q+1:Nat):Int)-1)/\Qa Qb (((q+1:Nat):Int)-1)<((els.length+1:Nat):Int))=true:=by rw [eW]; exact decide_eq_true (by omega)
       generalize crB (ux,uy) T1[q]=bb at *
       generalize T1[q]=x at *
       obtain ⟨x1,x2⟩:=x
       cases bb with
       | true =>
        refine bs.av (sx:=ins1) hk ?_
        repeat'(first|refine wk3 ?_|(refine wk2 ?_ ?_<;>intro _)|fail)
        all_goals first
         | exact Qr ⟨(q,Qa Qb (((q+1:Nat):Int)-1),_),[],rfl,kps,kps,⟨eW,by omega,eS,by rw [<-hstep rfl]; exact hit⟩,by dsimp only; omega⟩
         | (exfalso; clear hk hels hS hT; simp_all; done)
       | false =>
        have hfin:cur=(T2).map wv:=by rw [hS,<-hit,hstop rfl,hcur]
        refine bs.av (sx:=ins1) hk ?_
        repeat'(first|refine wk3 ?_|(refine wk2 ?_ ?_<;>intro _)|fail)
        all_goals first
         | exact Qr ⟨(k+2,j+1,_,els.length+1,cur),[(17,22)],rfl,kps,kps,⟨by show k+2=cur.length; omega,Zb (by omega),hlt,by show els.length+1=cur.length; omega,by rw [hT2]; exact hfin⟩,by dsimp only; omega⟩
         | (exfalso; clear hk hels hS hT; simp_all; done)
 have hjn:j=h.cs.length:=by omega
 subst hjn
 rw [hen] at hels
 have lel:els.length=II.length:=by rw [hels,Qj]
 clear hsn htp hbd hst hrv hlk hen
 have h2T:2<=T.length:=by rw [hTT]; simp only [Qz,Rd,Ri]; omega
 have hT100:T.length<100:=by rw [hTT]; simp only [Qz,Rd,Ri]; omega
 have hgd:=fun i (hi:i<T.length-1)=>(hgood _ (Ta.2 ⟨i,Rx.2 hi,rfl⟩)).1
 have h23:=Ue [.isl 1 N] ⟨.asl 0 0 N.length,[(1,N)]⟩
 cases k
 case' zero =>
  have hz:els=[]:=Wi.1 hkl.symm
  have hI0:II=[]:=Wi.1 (by rw [<-lel,<-hkl])
  subst hz
  subst hI0
  have hTT:T=[(lx,ly),(hx,hy)]:=hTT
  have hTl:T.length=2:=by rw [hTT]; rfl
  have hTm:T.map wv=[[I lx,I ly],[I hx,I hy]]:=by rw [hTT]; rfl
  refine bs.av (sx:=ins1) hk ?_
  repeat'(first|refine wk3 ?_|(refine wk2 ?_ ?_<;>intro _)|fail)
  refine Lp.go2 [(2,.ptr 0 0 0),(3,.ptr 1 0 0),(5,I (w:Int)),(6,.ptr 2 0 0),(13,.asl 60 0 T.length),(14,.nils),(15,I 0)] [(60,.row 2 (T.map wv) true true),(2,.row 2 [[I iox,I ioy]] true false),(1,.row 8 [[.isl 1 N,I ox,I oy,I ax,I ay,I bx,I by',I (w:Int)]] true false),(0,.row 9 [h.cells] true false)] 60 61 (Qm rfl) [(60,24)] rfl ?_ ?_ ?_
  ·rw [hTl]; exact kps
  ·rw [hTm]; exact kps
 case' succ k =>
  have hraw:Wx ln (Wy 0 els)=els:=by rw [Wd,hln,Wo]
  have h2000:els.length<2000:=by omega
  have hTl:T.length=([[I lx,I ly]]++els).length+1:=by rw [hTT]; simp only [Qz,Rd,Ri,lel]; omega
  have hTm:T.map wv=[[I lx,I ly]]++els++[[I hx,I hy]]:=by rw [hTT,Sf,Ro,<-hels]; rfl
  refine bs.av (sx:=ins1) hk ?_
  repeat'(first|refine wk3 ?_|(refine wk2 ?_ ?_<;>intro _)|fail)
  refine Xy (elems:=[[I lx,I ly]]) (ys:=Wx ln (Wy 0 els)) rfl rfl rfl rfl rfl rfl rfl rfl rfl (by rw [hraw,hels]; exact Zv4 II) (by rw [hraw]; intro q; rw [q] at hkl; cases hkl) rfl (by rw [hraw]; simp only [Qz,Ri]; omega) ?_
  rw [hraw]
  repeat'(first|refine wk3 ?_|(refine wk2 ?_ ?_<;>intro _)|fail)
  refine Xy (elems:=[[I lx,I ly]]++els) (ys:=[[I hx,I hy]]) rfl rfl rfl rfl rfl rfl rfl rfl rfl rfl (by simp) (by simp only [Rd]) (by simp only [Qz,Ri,Rd]; omega) ?_
  repeat'(first|refine wk3 ?_|(refine wk2 ?_ ?_<;>intro _)|fail)
  refine Lp.go2 [(2,.ptr 0 0 0),(3,.ptr 1 0 0),(5,I (w:Int)),(6,.ptr 2 0 0),(13,.asl 60 0 T.length),(14,.nils),(15,I 0)] [(60,.row 2 (T.map wv) true true),(2,.row 2 [[I iox,I ioy]] true false),(1,.row 8 [[.isl 1 N,I ox,I oy,I ax,I ay,I bx,I by',I (w:Int)]] true false),(0,.row 9 [h.cells] true false)] 60 61 (Qm rfl) [(60,24)] rfl ?_ ?_ ?_
  ·rw [hTl]; exact kps
  ·rw [hTm]; exact kps
 all_goals
  clear hkl hj hln hels lel hTT hTl hTm
  refine Zn (S:=Nat × Nat × Int × List (List AV) × (Int × Int × Int × Int × Int)) (fun t=>T.length-t.2.1)
   (fun t=>[(2,.ptr 0 0 0),(3,.ptr 1 0 0),(5,I (w:Int)),(6,.ptr 2 0 0),(13,.asl 60 0 T.length),(14,gv 61 t.1 (t.2.2.2.1.length+1)),(15,I t.2.2.1)])
   (fun t=>zz t.1 t.2.2.2.1 (N++[[I (w:Int)]]) (N.length+1) [I iox,I ioy,I t.2.2.2.2.1,I t.2.2.2.2.2.1,I t.2.2.2.2.2.2.1,I t.2.2.2.2.2.2.2.1,I t.2.2.2.2.2.2.2.2] [(60,.row 2 (T.map wv) true true),(2,.row 2 [[I iox,I ioy]] true false),(1,.row 8 [[.isl 1 N,I ox,I oy,I ax,I ay,I bx,I by',I (w:Int)]] true false),(0,.row 9 [h.cells] true false)]) 61 63
   (fun t=>t.1=t.2.1/\t.2.2.1=t.2.1/\t.2.1<=T.length-1/\∀ k0,t.1=k0+1->t.2.2.2.1=((Rw k0).map F).map bmA/\[.isl 1 (N++[[I (w:Int)]]),I iox,I ioy,I t.2.2.2.2.1,I t.2.2.2.2.2.1,I t.2.2.2.2.2.2.1,I t.2.2.2.2.2.2.2.1,I t.2.2.2.2.2.2.2.2]=bmA (F k0))
   (0,0,0,[],(0,0,0,0,0)) ⟨rfl,rfl,Qq _,fun k0 q=>by cases q⟩ (Qm rfl) [] rfl (kps) (kps) ?_
  rintro ⟨k,j,i,pre,q1,q2,q3,q4,q5⟩ ⟨hkj,hi,hj,hX⟩
  dsimp only at hkj hi hj hX ⊢
  subst hi
  have hbody:j<T.length-1->∃ aa bb:V,∃ nx:Int,(T.map wv)[0+((j:Nat):Int).toNat]?=some (wv aa)/\(T.map wv)[0+(Qa Qb ((j:Int)+1)).toNat]?=some (wv bb)/\TN [h.av,P2 iox ioy,I (w:Int),P2 aa.1 aa.2,P2 bb.1 bb.2]=some ⟨I nx,[]⟩/\bmA (F j)=[.isl 1 (N++[[I (w:Int)]]),I iox,I ioy,I aa.1,I aa.2,I bb.1,I bb.2,I nx]:=fun hlt=>by
   have gm:=hgd j hlt
   have em:=hF2 j
   have hj1:j<T.length:=by omega
   have hj2:j+1<T.length:=by omega
   have hq:=Xp hj1
   have hq2:=Xp hj2
   have e1:=Xg hj1
   have e2:=Xg hj2
   obtain ⟨n1,n2,n3⟩:=Zxb g gm
   have hmo:(F j).o=(iox,ioy):=by rw [em]
   have hmw:Xc (F j).ws=some w:=by rw [em]; exact hlw
   have hma:(F j).a=T[j]:=by rw [em,<-hq]
   have hmb:(F j).b=T[j+1]:=by rw [em,<-hq2]
   have hws:wsA (F j).ws = .isl 1 (N++[[I (w:Int)]]):=by rw [em]; exact hwe
   rw [hmo,hmw] at n1 n2 n3
   have hc:=Zvr (h:=h) (o:=(iox,ioy)) (L:=some w) gm.ba gm.bb n1 n2
   rw [n3,hTNe,show laI (some w)=(w:Int) from rfl,hma,hmb] at hc
   refine ⟨T[j],T[j+1],(F j).nx,e1,?_,hc,?_⟩
   ·rw [show IntKind.i64.wrap ((j:Int)+1)=((j+1:Nat):Int) from Zb (by omega)]; exact e2
   ·unfold bmA
    rw [hws,hmo,hma,hmb]
  have dD:j<T.length-1->decide (0<=Qa Qb ((j:Int)+1)/\Qa Qb ((j:Int)+1)<(T.length:Int))=true:=fun hlt=>by
   rw [show IntKind.i64.wrap ((j:Int)+1)=((j+1:Nat):Int) from Zb (by omega)]
   exact decide_eq_true (by omega)
  have hW1:Qa Qb ((j:Int)+1)=(j:Int)+1:=W_eq (by omega) (by omega)
  cases k with
  | zero =>
   have hlt:j<T.length-1:=by omega
   obtain ⟨⟨aa1,aa2⟩,⟨bb1,bb2⟩,nx,e1,e2,hc,hb⟩:=hbody hlt
   have dD:=dD hlt
   dsimp only at e1 e2 hc hb
   generalize T.map wv=TM2 at *
   refine bs.av (sx:=ins1) hk ?_
   repeat'(first|refine wk3 ?_|(refine wk2 ?_ ?_<;>intro _)|fail)
   all_goals first|(exfalso; omega)|skip
   refine Xy (elems:=N) (ys:=[[I (w:Int)]]) rfl rfl rfl rfl rfl rfl rfl rfl rfl rfl (by simp) rfl (by simp only [Qz,Ri]; omega) ?_
   repeat'(first|refine wk3 ?_|(refine wk2 ?_ ?_<;>intro _)|fail)
   exact Qr ⟨(1,j+1,Qa Qb ((j:Int)+1),[],(aa1,aa2,bb1,bb2,nx)),[(61,96),(62,70)],rfl,kps,⟨⟨rfl,rfl,rfl⟩,⟨rfl,rfl,⟨_,rfl,rfl,rfl⟩⟩,kps⟩,⟨by show 1=j+1; omega,Zb (by omega),by show j+1<=T.length-1; omega,fun k0 q=>by
    have hk0:k0=0:=by dsimp only at q; omega
    subst hk0
    refine ⟨rfl,?_⟩
    rw [show (0:Nat)=j from hkj]
    exact hb.symm⟩,by show T.length-(j+1)<T.length-j; omega⟩
  | succ k =>
   obtain ⟨hpre,hrow⟩:=hX k rfl
   have hraw2:Wx (N.length+1) (Wy 0 (N++[[I (w:Int)]]))=N++[[I (w:Int)]]:=by rw [Wd,Tg (by simp)]
   have hels2:pre++[[.isl 1 (N++[[I (w:Int)]]),I iox,I ioy,I q1,I q2,I q3,I q4,I q5]]=((Rw j).map F).map bmA:=by
    rw [hrow,hpre,<-hkj,Nb,Ro,Ro]
    rfl
   have lpre:(pre++[[.isl 1 (N++[[I (w:Int)]]),I iox,I ioy,I q1,I q2,I q3,I q4,I q5]]).length<2000:=by rw [hels2,Qj,Qj,Su]; omega
   refine Awp.melt 61 (elems:=pre++[[.asl 62 0 (N.length+1),I iox,I ioy,I q1,I q2,I q3,I q4,I q5]]) (elems':=pre++[[.isl 1 (N++[[I (w:Int)]]),I iox,I ioy,I q1,I q2,I q3,I q4,I q5]]) (l:=[62]) rfl (by
    refine Zhn (l:=[]) (Zrm fun e he=>?_) ?_
    ·rw [hpre] at he
     obtain ⟨m',_,rfl⟩:=Ta.1 he
     unfold bmA wsA
     cases m'.ws<;>rfl
    ·refine Eq.trans (b:=some ([[.isl 1 (Wx (N.length+1) (Wy 0 (N++[[I (w:Int)]]))),I iox,I ioy,I q1,I q2,I q3,I q4,I q5]],[62])) rfl ?_
     rw [hraw2]) rfl rfl ?_
   generalize hE2:pre++[[.isl 1 (N++[[I (w:Int)]]),I iox,I ioy,I q1,I q2,I q3,I q4,I q5]]=E2 at *
   have lE2:pre.length+1=E2.length:=by rw [<-hE2]; simp
   by_cases hlt:j<T.length-1
   ·obtain ⟨⟨aa1,aa2⟩,⟨bb1,bb2⟩,nx,e1,e2,hc,hb⟩:=hbody hlt
    have dD:=dD hlt
    dsimp only at e1 e2 hc hb
    generalize T.map wv=TM2 at *
    refine bs.av (sx:=ins1) hk ?_
    repeat'(first|refine wk3 ?_|(refine wk2 ?_ ?_<;>intro _)|fail)
    all_goals first|(exfalso; omega)|skip
    refine Xy (elems:=N) (ys:=[[I (w:Int)]]) rfl rfl rfl rfl rfl rfl rfl rfl rfl rfl (by simp) rfl (by simp only [Qz,Ri]; omega) ?_
    repeat'(first|refine wk3 ?_|(refine wk2 ?_ ?_<;>intro _)|fail)
    refine Xy (elems:=E2) (ys:=[[.asl 70 0 (N.length+1),I iox,I ioy,I aa1,I aa2,I bb1,I bb2,I nx]]) rfl rfl rfl rfl rfl rfl rfl rfl rfl rfl (by simp) lE2 (by simp only [Qz,Ri]; omega) ?_
    repeat'(first|refine wk3 ?_|(refine wk2 ?_ ?_<;>intro _)|fail)
    have hren:E2++[[Hy 70 0 (N.length+1),I iox,I ioy,I aa1,I aa2,I bb1,I bb2,I nx]]=Vf (fOf [(61,96),(62,70)]) (E2++[[Hy 62 0 (N.length+1),I iox,I ioy,I aa1,I aa2,I bb1,I bb2,I nx]]):=by rw [hels2,Zeo,Zkv]; rfl
    have hids:Zbt 63 (E2++[[Hy 62 0 (N.length+1),I iox,I ioy,I aa1,I aa2,I bb1,I bb2,I nx]])=true:=by rw [hels2,Zjp,Zw1]; rfl
    exact Qr ⟨(k+2,j+1,Qa Qb ((j:Int)+1),E2,(aa1,aa2,bb1,bb2,nx)),[(61,96),(62,70)],rfl,kps,⟨⟨rfl,rfl,rfl⟩,⟨rfl,rfl,⟨_,rfl,hren,hids⟩⟩,kps⟩,⟨by show k+2=j+1; omega,Zb (by omega),by show j+1<=T.length-1; omega,fun k0 q=>by
     have hk0:k0=j:=by dsimp only at q; omega
     subst hk0
     exact ⟨hels2,hb.symm⟩⟩,by show T.length-(j+1)<T.length-j; omega⟩
   ·have hjn:j=T.length-1:=by omega
    subst hjn
    subst hels2
    refine bs.av (sx:=ins1) hk ?_
    repeat'(first|refine wk3 ?_|(refine wk2 ?_ ?_<;>intro _)|fail)
    all_goals first|(exfalso; omega)|skip
    exact Yk [61] rfl (by rw [<-lE2]; rfl) rfl
theorem e59 {h:Hal} (hf:h.few) (g:h.fine) {m:Bm} (G:GoodB h m) (hlen:m.ws.length<4):PCall Tryz.prog 59 [h.av,.agg (bmA m)] ⟨.isl 8 ((behB h.cs m).map bmA),[]⟩:=Jf (e59i hf g G hlen) ⟨NA.rfl,Yfz m,trivial⟩
noncomputable abbrev rBr (h:Hal):List AV->Option PRes:=famA (fun m:Bm=>GoodB h m/\m.ws.length<4) (fun m=>[h.av,.agg (bmA m)]) (fun m=>⟨.isl 8 ((behB h.cs m).map bmA),[]⟩)
theorem Yc8 {h:Hal} {m:Bm} (G:GoodB h m) (hl:m.ws.length<4):rBr h [h.av,.agg (bmA m)]=some ⟨.isl 8 ((behB h.cs m).map bmA),[]⟩ :=
 Zq (p:=fun m:Bm=>GoodB h m/\m.ws.length<4) (g:=fun m=>[h.av,.agg (bmA m)]) (r:=fun m=>⟨.isl 8 ((behB h.cs m).map bmA),[]⟩) (k:=m) (fun j hj=>by
  simp only [Rf,Pw,true_and,and_true] at hj
  rw [Zqw hj]) ⟨G,hl⟩
theorem Yfl {h:Hal} (hf:h.few) (g:h.fine) {pt:PC} (hp:PCOK Tryz.prog pt):PCOK Tryz.prog (ins 59 (rBr h) pt):=Zx (fun m hm=>e59 hf g hm.1 hm.2) hp
theorem e26 {h:Hal} (hf:h.few) (g:h.fine) {o:V} (k0:InSrc h o) {n:Nat} (hn:n<=2):PCall Tryz.prog 26 [h.av,P2 o.1 o.2,I n] ⟨.isl 8 ((outB h.cs o n).map bmA),[]⟩:=by
 have c58:=e58 hf g k0
 have hk:=Zf c58 (Yfl hf g Ze)
 have hhit:=fun (m:Bm) (G:GoodB h m) (hl:m.ws.length<4)=>Yc8 G hl
 have hgd:=fun m hm=>Zdo g k0 n (by omega) m hm
 have hbl:=fun (m:Bm) (G:GoodB h m) (hl:m.ws.length<4)=>Zqy g G hl
 have hget:=fun i (hi:i<(quB h.cs o n i).length)=>Ydb g k0 (by omega:n<=4) hi
 have hend:=fun i (hi:(quB h.cs o n i).length<=i) (hle:i<=(quB h.cs o n i).length)=>Ydc g k0 (by omega:n<=4) hi hle
 have hle:=fun i=>Yfr g k0 (by omega:n<=4) i
 have h2000:=Zi9 g k0 hn
 have hR:Zl h.cs o=quB h.cs o n 0:=by unfold quB; simp
 rw [hR] at hk
 clear c58
 generalize rBr h=TB at *
 refine La (res:=⟨.asl 0 0 ((outB h.cs o n).map bmA).length,[(8,(outB h.cs o n).map bmA)]⟩) ?_ ⟨rfl,rfl,rfl⟩
 generalize quB h.cs o n=Q at *
 generalize outB h.cs o n=OB at *
 have lQ0:((Q 0).map bmA).length=(Q 0).length:=Qj _
 obtain ⟨ox,oy⟩:=o
 dsimp only at hk
 generalize hE0:(Q 0).map bmA=E0 at *
 refine pn hk Tryz.func26 ?_
 repeat'(first|refine wk3 ?_|(refine wk2 ?_ ?_<;>intro _)|fail)
 refine Ybl (S:=Nat × Int × Nat × List (List AV)) (fun t=>OB.length-t.1) (fun t=>[(2,I (n:Int)),(3,.ptr 0 0 0),(4,.ptr 1 0 0),(7,.asl 3 0 t.2.2.1),(8,I t.2.1)])
  (fun t=>[(3,.row 8 t.2.2.2 true true),(1,.row 2 [[I ox,I oy]] true false),(0,.row 9 [h.cells] true false)]) 3 4
  (fun t=>t.2.1=t.1/\t.1<=(Q t.1).length/\t.2.2.1=t.2.2.2.length/\t.2.2.2=(Q t.1).map bmA) (0,0,E0.length,E0) ⟨rfl,Qq _,rfl,hE0.symm⟩ (Qm rfl) [(3,2)] rfl (kps) (kps) ?_
 rintro ⟨j,i,len,els⟩ ⟨hi,hj,hlen,hels⟩
 dsimp only at hi hj hlen hels ⊢
 subst hi
 have lel:els.length=(Q j).length:=by rw [hels,Qj]
 have hlj:=hle j
 by_cases hlt:j<(Q j).length
 ·obtain ⟨hl,g1',g2'⟩:=hget j hlt
  have e1:els[0+((j:Nat):Int).toNat]?=some (bmA OB[j]):=by
   rw [hels,Sb,Re,Rn,Qd hlt,g1']
   rfl
  obtain ⟨G,hw⟩:=hgd OB[j] (Qn hl)
  have hlj1:=hle (j+1)
  obtain ⟨Aw,eA,hAw,hA⟩:=Zyp OB[j]
  have t1:=hhit OB[j] G (by omega)
  have hb:=hbl OB[j] G (by omega)
  rw [eA] at e1 t1
  have hbn:behN h.cs n OB[j]=if OB[j].ws.length<n then behB h.cs OB[j] else []:=rfl
  rw [hbn] at g2'
  have lws:(nl OB[j].ws).length=OB[j].ws.length:=Yv _
  have hnil:Aw = .nils->OB[j].ws.length=0:=fun q=>by
   rw [q] at hAw
   unfold wsA at hAw
   cases hw0:OB[j].ws with
   | nil=>rfl
   | cons x r=>rw [hw0] at hAw; cases hAw
  clear hend hget hgd hbl hhit hle eA hbn g1'
  generalize OB[j]=m at *
  have o1:=Za7 (behB h.cs m)
  have l7:((behB h.cs m).map bmA).length=(behB h.cs m).length:=Qj _
  have hne:(behB h.cs m).map bmA≠[]:=fun q=>by rw [q] at l7; simp at l7; omega
  by_cases hc:m.ws.length<n
  ·rw [if_pos hc] at g2'
   have e5:els++(behB h.cs m).map bmA=(Q (j+1)).map bmA:=by rw [g2',Ro,<-hels]
   have lq:(Q (j+1)).length=(Q j).length+(behB h.cs m).length:=by rw [g2',Rd]
   generalize (behB h.cs m).map bmA=E at *
   rcases hA with rfl|rfl
   ·have h0:=hnil rfl
    have hn0:((0:Int)<(n:Int)):=by omega
    refine bs.av (sx:=nos) hk ?_
    repeat'(first|refine wk3 ?_|(refine wk2 ?_ ?_<;>intro _)|fail)
    all_goals first|(exfalso; omega)|skip
    refine Xy (elems:=els) (ys:=E) rfl rfl rfl rfl rfl rfl rfl rfl rfl o1 hne hlen (by omega) ?_
    repeat'(first|refine wk3 ?_|(refine wk2 ?_ ?_<;>intro _)|fail)
    exact Qr ⟨(j+1,Qa Qb ((j:Int)+1),els.length+E.length,els++E),[(3,11)],rfl,kps,kps,⟨Zb (by omega),by show j+1<=(Q (j+1)).length; omega,by exact List.length_append.symm,e5⟩,by show OB.length-(j+1)<OB.length-j; omega⟩
   ·refine bs.av (sx:=nos) hk ?_
    repeat'(first|refine wk3 ?_|(refine wk2 ?_ ?_<;>intro _)|fail)
    all_goals first|(exfalso; omega)|skip
    refine Xy (elems:=els) (ys:=E) rfl rfl rfl rfl rfl rfl rfl rfl rfl o1 hne hlen (by omega) ?_
    repeat'(first|refine wk3 ?_|(refine wk2 ?_ ?_<;>intro _)|fail)
    exact Qr ⟨(j+1,Qa Qb ((j:Int)+1),els.length+E.length,els++E),[(3,11)],rfl,kps,kps,⟨Zb (by omega),by show j+1<=(Q (j+1)).length; omega,by exact List.length_append.symm,e5⟩,by show OB.length-(j+1)<OB.length-j; omega⟩
  ·rw [if_neg hc,Pf] at g2'
   rcases hA with rfl|rfl
   ·have h0:=hnil rfl
    refine bs.av (sx:=nos) hk ?_
    repeat'(first|refine wk3 ?_|(refine wk2 ?_ ?_<;>intro _)|fail)
    all_goals first|(exfalso; omega)|exact Qr ⟨(j+1,Qa Qb ((j:Int)+1),len,els),[(3,3)],rfl,kps,kps,⟨Zb (by omega),by rw [g2']; exact hlt,hlen,by rw [g2']; exact hels⟩,by dsimp only; omega⟩
   ·refine bs.av (sx:=nos) hk ?_
    repeat'(first|refine wk3 ?_|(refine wk2 ?_ ?_<;>intro _)|fail)
    all_goals first|(exfalso; omega)|exact Qr ⟨(j+1,Qa Qb ((j:Int)+1),len,els),[(3,3)],rfl,kps,kps,⟨Zb (by omega),by rw [g2']; exact hlt,hlen,by rw [g2']; exact hels⟩,by dsimp only; omega⟩
 ·have hq:=hend j (by omega) hj
  rw [hq] at hels
  subst hels
  refine bs.av (sx:=nos) hk ?_
  repeat'(first|refine wk3 ?_|(refine wk2 ?_ ?_<;>intro _)|fail)
  exact Yk [3] rfl (by rw [hlen]; rfl) rfl
end Go.Proofs.YtanbhfpalahjcaaGreat
namespace Go.Proofs
open Go.Shelf
def Tryz.laysS215_ren:Go.Shelf.Ren:=⟨fun|6=>215|15=>238|14=>237|28=>254|29=>255|20=>246|21=>247|22=>248|23=>249|24=>250|25=>251|26=>252|27=>253|46=>257|47=>258|48=>259|49=>260|50=>261|57=>263|n=>n,fun|22=>241|24=>112|25=>246|3=>3|39=>304|0=>0|53=>319|55=>321|4=>4|46=>312|45=>311|50=>316|5=>5|9=>9|66=>323|70=>327|76=>331|77=>248|n=>n,fun|n=>n⟩
theorem Tryz.laysS215:Go.Proofs.SlLaysF0.n6 Tryz.prog Tryz.laysS215_ren:={
 mixed:=by kernel_rfl
 f6:=⟨Tryz.f215.name,by decide,Tryz.func215.trans (congrArg some (by kernel_rfl))⟩
 f14:=⟨Tryz.f237.name,by decide,Tryz.func237.trans (congrArg some (by kernel_rfl))⟩
 f15:=Tryz.func238.trans (congrArg some (by kernel_rfl))
 f20:=⟨Tryz.f246.name,by decide,Tryz.func246.trans (congrArg some (by kernel_rfl))⟩
 f21:=⟨Tryz.f247.name,by decide,Tryz.func247.trans (congrArg some (by kernel_rfl))⟩
 f22:=⟨Tryz.f248.name,by decide,Tryz.func248.trans (congrArg some (by kernel_rfl))⟩
 f23:=⟨Tryz.f249.name,by decide,Tryz.func249.trans (congrArg some (by kernel_rfl))⟩
 f24:=⟨Tryz.f250.name,by decide,Tryz.func250.trans (congrArg some (by kernel_rfl))⟩
 f25:=⟨Tryz.f251.name,by decide,Tryz.func251.trans (congrArg some (by kernel_rfl))⟩
 f26:=⟨Tryz.f252.name,by decide,Tryz.func252.trans (congrArg some (by kernel_rfl))⟩
 f27:=⟨Tryz.f253.name,by decide,Tryz.func253.trans (congrArg some (by kernel_rfl))⟩
 f28:=Tryz.func254.trans (congrArg some (by kernel_rfl))
 f29:=Tryz.func255.trans (congrArg some (by kernel_rfl))
 f46:=⟨Tryz.f257.name,by decide,Tryz.func257.trans (congrArg some (by kernel_rfl))⟩
 f47:=Tryz.func258.trans (congrArg some (by kernel_rfl))
 f48:=Tryz.func259.trans (congrArg some (by kernel_rfl))
 f49:=⟨Tryz.f260.name,by decide,Tryz.func260.trans (congrArg some (by kernel_rfl))⟩
 f50:=⟨Tryz.f261.name,by decide,Tryz.func261.trans (congrArg some (by kernel_rfl))⟩
 f57:=⟨Tryz.f263.name,by decide,Tryz.func263.trans (congrArg some (by kernel_rfl))⟩
 t0:=Tryz.underlying0
 a0:=Tryz.isAgg0
 z0:=Tryz.sizeOf0
 v0:=Tryz.zeroValue0
 t3:=Tryz.underlying3
 a3:=Tryz.isAgg3
 z3:=Tryz.sizeOf3
 v3:=Tryz.zeroValue3
 t4:=Tryz.underlying4
 a4:=Tryz.isAgg4
 z4:=Tryz.sizeOf4
 v4:=Tryz.zeroValue4
 t5:=Tryz.underlying5
 a5:=Tryz.isAgg5
 z5:=Tryz.sizeOf5
 v5:=Tryz.zeroValue5
 t9:=Tryz.underlying9
 a9:=Tryz.isAgg9
 z9:=Tryz.sizeOf9
 v9:=Tryz.zeroValue9
 t22:=Tryz.underlying241
 a22:=Tryz.isAgg241
 z22:=Tryz.sizeOf241
 v22:=Tryz.zeroValue241
 t25:=Tryz.underlying246
 a25:=Tryz.isAgg246
 z25:=Tryz.sizeOf246
 v25:=Tryz.zeroValue246
 t39:=Tryz.underlying304
 a39:=Tryz.isAgg304
 z39:=Tryz.sizeOf304
 v39:=Tryz.zeroValue304
 t45:=Tryz.underlying311
 a45:=Tryz.isAgg311
 z45:=Tryz.sizeOf311
 v45:=Tryz.zeroValue311
 t46:=Tryz.underlying312
 a46:=Tryz.isAgg312
 z46:=Tryz.sizeOf312
 v46:=Tryz.zeroValue312
 t50:=Tryz.underlying316
 a50:=Tryz.isAgg316
 z50:=Tryz.sizeOf316
 v50:=Tryz.zeroValue316
 t53:=Tryz.underlying319
 a53:=Tryz.isAgg319
 z53:=Tryz.sizeOf319
 v53:=Tryz.zeroValue319
 t55:=Tryz.underlying321
 a55:=Tryz.isAgg321
 z55:=Tryz.sizeOf321
 v55:=Tryz.zeroValue321
 t66:=Tryz.underlying323
 a66:=Tryz.isAgg323
 z66:=Tryz.sizeOf323
 v66:=Tryz.zeroValue323
 t70:=Tryz.underlying327
 a70:=Tryz.isAgg327
 z70:=Tryz.sizeOf327
 v70:=Tryz.zeroValue327
 t76:=Tryz.underlying331
 a76:=Tryz.isAgg331
 z76:=Tryz.sizeOf331
 v76:=Tryz.zeroValue331
 t77:=Tryz.underlying248
 a77:=Tryz.isAgg248
 z77:=Tryz.sizeOf248
 v77:=Tryz.zeroValue248 }
theorem Tryz.sorts215:Go.Sx.SortsK Tryz.prog 215 2:={
 some:=fun m _ enc hk h1 cf hO g blk off cap d w eg hcmp hH hblk hsz=>AnyQ.slices_SortFunc Tryz.laysS215 2 Tryz.isAgg112 Tryz.sizeOf112 enc hk h1 cf hO g #[] blk off cap d w eg hcmp hH hblk hsz
 none:=fun p cap fv w=>AnyF.slices_SortFunc_none Tryz.laysS215 p cap fv w }
end Go.Proofs
