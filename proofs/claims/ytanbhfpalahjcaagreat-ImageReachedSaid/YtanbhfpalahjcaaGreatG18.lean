/- A part of the proof: lemmas. -/
import Derived.Test.YtanbhfpalahjcaaGreatG17
import Derived.Test.YtanbhfpalahjcaaGreatG9
import Derived.Test.YtanbhfpalahjcaaGreatG8
import Derived.Test.YtanbhfpalahjcaaGreatG12
import Derived.Test.YtanbhfpalahjcaaGreatG11
import Derived.Test.YtanbhfpalahjcaaGreatG14
import Derived.Test.YtanbhfpalahjcaaGreatG13
import Derived.Shelf.SlSortCmp.NoneTotal
set_option linter.unusedVariables false
set_option linter.unusedSimpArgs false
set_option maxRecDepth 100000
set_option maxHeartbeats 16000000
open Bool renaming false_or->Wr
open Go.IntKind renaming i64->Qb,wrap->Qa
open Go.Proofs.YtanbhfpalahjcaaGreat.Can renaming av->Nl
open Go.Sx.AV.isl renaming injEq->Jr
open Go.Sx.Done renaming mk->Qr
open Go.Sx.NA renaming rfl->Hy
open Go.Sx.PCall renaming freeze->Nw,nilArgs->Ou
open Int renaming toNat_natCast->Ri
open List renaming drop->Wq,drop_zero->Tz,getElem_mem->Qn,length_append->Rb,length_eq_zero_iff->Se,length_map->Qj,map_append->Rm,replicate->Tg,take->Wp,take_length->Tl,take_of_length_le->Sz,take_succ_eq_append_getElem->Qu
open List.cons renaming injEq->Rd
open Nat renaming le_of_ble_eq_true->Qm,le_refl->Qd,zero_le->Qp
open Prod renaming ext->Tk
namespace Go.Proofs.YtanbhfpalahjcaaGreat
open Go Go.Sx Go.Ge
def rowA (Us:List (List Int)):List (List AV):=Us.map fun ws=>[wsA ws]
def rowI (Us:List (List Int)):List (List AV):=Us.map fun ws=>[.isl 1 (nl ws)]
def lsA (Us:List (List Int)):AV:=match Us with
 | []=>.nils
 | _=>.isl 1 (rowA Us)
theorem Zky (ws:List Int):wsA ws = .nils\/wsA ws = .isl 1 (nl ws):=by
 unfold wsA
 cases ws with
 | nil=>exact .inl rfl
 | cons x r=>exact .inr rfl
theorem Zt4 {a b:List (List Int)} (h:rowA a=rowA b):a=b:=by
 unfold rowA at h
 refine List.map_inj_right (fun x y hxy=>?_) |>.1 h
 exact Ze6 (List.cons.inj hxy).1
theorem Yd8 {a b:List (List Int)} (h:lsA a=lsA b):a=b:=by
 unfold lsA at h
 cases a with
 | nil=>cases b with
  | nil=>rfl
  | cons y t=>cases h
 | cons x r=>cases b with
  | nil=>cases h
  | cons y t =>
   dsimp only at h
   rw [Jr] at h
   exact Zt4 h.2
noncomputable abbrev rEq:List AV->Option PRes:=famA (fun q:List Int × List Int=>q.1.length<1000/\q.2.length<1000) (fun q=>[wsA q.1,wsA q.2]) (fun q=>⟨Bo (eqN q.1 q.2),[]⟩)
theorem Ydk {a b:List Int} (ha:a.length<1000) (hb:b.length<1000):rEq [wsA a,wsA b]=some ⟨Bo (eqN a b),[]⟩ :=
 Zl (p:=fun q:List Int × List Int=>q.1.length<1000/\q.2.length<1000) (g:=fun q=>[wsA q.1,wsA q.2]) (r:=fun q=>⟨Bo (eqN q.1 q.2),[]⟩) (k:=(a,b)) (fun j hj=>by
  simp only [Rd,and_true] at hj
  rw [show j=(a,b) from Tk (Ze6 hj.1) (Ze6 hj.2)]) ⟨ha,hb⟩
theorem Yfv {pt:PC} (h:PCOK Tryz.prog pt):PCOK Tryz.prog (ins 56 rEq pt):=Zn (fun q hq=>Ou (e56 (a:=q.1) (b:=q.2) (by omega) (by omega)) ⟨.inl (Zla _),.inl (Zla _),trivial⟩) h
theorem g62 {l:List Int} {m:Bm} (hl:l.length<1000) (hm:m.ws.length<1000):PCall Tryz.prog 62 [wsA l,.ipt (bmA m)] ⟨Bo (eqN l m.ws),[]⟩:=by
 have hk:=Yfv Ze
 have t1:=Ydk hl hm
 have h1:=Zky l
 have h2:=Zky m.ws
 unfold bmA
 generalize eqN l m.ws=E at *
 generalize rEq=TE at *
 generalize wsA l=A1 at *
 generalize wsA m.ws=A2 at *
 rcases h1 with rfl|rfl<;>rcases h2 with rfl|rfl
 all_goals
  refine pn hk Tryz.func62 ?_
  repeat'(first|refine wk3 ?_|(refine wk2 ?_ ?_<;>intro _)|fail)
  all_goals exact Za rfl
noncomputable abbrev r62:List AV->Option PRes:=famA (fun q:List Int × Bm=>q.1.length<1000/\q.2.ws.length<1000) (fun q=>[wsA q.1,.ipt (bmA q.2)]) (fun q=>⟨Bo (eqN q.1 q.2.ws),[]⟩)
theorem Ydo {l:List Int} {m:Bm} (ha:l.length<1000) (hb:m.ws.length<1000):r62 [wsA l,.ipt (bmA m)]=some ⟨Bo (eqN l m.ws),[]⟩ :=
 Zl (p:=fun q:List Int × Bm=>q.1.length<1000/\q.2.ws.length<1000) (g:=fun q=>[wsA q.1,.ipt (bmA q.2)]) (r:=fun q=>⟨Bo (eqN q.1 q.2.ws),[]⟩) (k:=(l,m)) (fun j hj=>by
  simp only [Rd,AV.ipt.injEq,and_true] at hj
  rw [show j=(l,m) from Tk (Ze6 hj.1) (Zkf hj.2)]) ⟨ha,hb⟩
theorem Yf5 {pt:PC} (h:PCOK Tryz.prog pt):PCOK Tryz.prog (ins 62 r62 pt):=Zn (fun q hq=>g62 hq.1 hq.2) h
def ixW (ws:List Int):Nat->List (List Int)->Int
 | _,[]=>-1
 | i,l::r=>if eqN l ws=true then i else ixW ws (i+1) r
theorem Zww (ws:List Int):∀ (Us:List (List Int)) (i:Nat),decide (0<=ixW ws i Us)=Us.any fun l=>eqN l ws
 | [],_=>rfl
 | s::l,i=>by
  rw [ixW,List.any_cons]
  cases h:eqN s ws with
  | true=>rw [if_pos rfl,Bool.true_or]; exact decide_eq_true (by omega)
  | false=>rw [if_neg (by simp),Wr]; exact Zww ws l _
def okW (Us:List (List Int)):Prop:=Us.length<100000/\∀ l∈Us,l.length<1000
theorem g99 {Us:List (List Int)} (hW:okW Us) {m:Bm} (hm:m.ws.length<1000):PCall Tryz.prog 99 [.isl 1 (rowA Us),.func 62 [] [.ipt (bmA m)]] ⟨I (ixW m.ws 0 Us),[]⟩:=by
 have hk:=Yf5 Ze
 have hhit:=fun (l:List Int) (hl:l.length<1000)=>Ydo hl hm
 obtain ⟨hl,hl2⟩:=hW
 have l1:(rowA Us).length=Us.length:=Qj _
 have h2:=Zky m.ws
 unfold bmA at *
 generalize r62=TE at *
 generalize wsA m.ws=A2 at *
 rcases h2 with rfl|rfl
 all_goals
  refine pn hk Tryz.func99 ?_
  repeat'(first|refine wk3 ?_|(refine wk2 ?_ ?_<;>intro _)|fail)
  refine Zm (S:=Nat × Int) (fun t=>Us.length-t.1) (fun t=>[(0,.isl 1 (rowA Us)),(1,.func 62 [] [.ipt [_,I m.o.1,I m.o.2,I m.a.1,I m.a.2,I m.b.1,I m.b.2,I m.nx]]),(7,I (rowA Us).length),(8,I t.2)]) (fun _=>[]) 0 0 (fun t=>t.2=t.1/\t.1<=Us.length/\ixW m.ws t.1 (Us.drop t.1)=ixW m.ws 0 Us) (0,0) ⟨rfl,Qp _,rfl⟩ (Qd _) [] rfl (kps) (kps) ?_
  rintro ⟨k,i⟩ ⟨hi,hkk,hh⟩
  dsimp only at hi hkk hh ⊢
  subst hi
  generalize ixW m.ws 0 Us=R at *
  by_cases hlt:k<Us.length
  ·have e1:(rowA Us)[((k:Nat):Int).toNat]?=some [wsA Us[k]]:=by unfold rowA; simp [hlt]
   have t1:=hhit Us[k] (hl2 _ (Qn hlt))
   rw [List.drop_eq_getElem_cons hlt,ixW] at hh
   have h3:=Zky Us[k]
   generalize eqN Us[k] m.ws=E at *
   generalize hA:wsA Us[k]=A1 at *
   generalize nl Us[k]=N1 at *
   generalize rowA Us=RW at *
   clear hhit hA
   cases E with
   | true =>
    rw [if_pos rfl] at hh
    rw [<-hh]
    rcases h3 with rfl|rfl
    all_goals
     refine bs.av (sx:=nos) hk ?_
     repeat'(first|refine wk3 ?_|(refine wk2 ?_ ?_<;>intro _)|fail)
     all_goals first|exact Zc rfl|(exfalso; clear hk; simp_all; done)
   | false =>
    rw [if_neg (by decide)] at hh
    rcases h3 with rfl|rfl
    all_goals
     refine bs.av (sx:=nos) hk ?_
     repeat'(first|refine wk3 ?_|(refine wk2 ?_ ?_<;>intro _)|fail)
     all_goals first|exact Qr ⟨(k+1,_),[],rfl,kps,kps,⟨Zb (by omega),hlt,hh⟩,by dsimp only; omega⟩|(exfalso; clear hk; simp_all; done)
  ·rw [List.drop_of_length_le (by omega)] at hh
   have hh : -1=R:=hh
   rw [<-hh]
   generalize rowA Us=RW at *
   refine bs.av (sx:=nos) hk ?_
   repeat'(first|refine wk3 ?_|(refine wk2 ?_ ?_<;>intro _)|fail)
   all_goals first|exact Zc rfl|(exfalso; clear hk; simp_all; done)
theorem g61i {Us:List (List Int)} (hW:okW Us) {m:Bm} (hm:m.ws.length<1000):PCall Tryz.prog 61 [.isl 1 (rowA Us),.func 62 [] [.ipt (bmA m)]] ⟨Bo (Us.any fun l=>eqN l m.ws),[]⟩:=by
 have c99:=g99 hW hm
 have hk:=Zf c99 Ze
 have t1:=Vi [.isl 1 (rowA Us),.func 62 [] [.ipt (bmA m)]] ⟨I (ixW m.ws 0 Us),[]⟩
 rw [<-Zww m.ws Us 0]
 have h2:=Zky m.ws
 clear c99
 unfold bmA at *
 generalize ixW m.ws 0 Us=R at *
 generalize wsA m.ws=A2 at *
 generalize rowA Us=RW at *
 rcases h2 with rfl|rfl
 all_goals
  generalize one _ _=TE at *
  refine pn hk Tryz.func61 ?_
  repeat'(first|refine wk3 ?_|(refine wk2 ?_ ?_<;>intro _)|fail)
  all_goals exact Za rfl
theorem g61 {Us:List (List Int)} (hW:okW Us) {m:Bm} (hm:m.ws.length<1000):PCall Tryz.prog 61 [lsA Us,.func 62 [] [.ipt (bmA m)]] ⟨Bo (Us.any fun l=>eqN l m.ws),[]⟩:=by
 unfold lsA
 cases Us with
 | nil=>exact Ou (g61i hW hm) ⟨.inl (.inr ⟨rfl,1,rfl⟩),Hy,trivial⟩
 | cons x r=>exact g61i hW hm
noncomputable abbrev r61:List AV->Option PRes:=famA (fun q:List (List Int) × Bm=>okW q.1/\q.2.ws.length<1000) (fun q=>[lsA q.1,.func 62 [] [.ipt (bmA q.2)]]) (fun q=>⟨Bo (q.1.any fun l=>eqN l q.2.ws),[]⟩)
theorem Ydp {Us:List (List Int)} (hW:okW Us) {m:Bm} (hm:m.ws.length<1000):r61 [lsA Us,.func 62 [] [.ipt (bmA m)]]=some ⟨Bo (Us.any fun l=>eqN l m.ws),[]⟩ :=
 Zl (p:=fun q:List (List Int) × Bm=>okW q.1/\q.2.ws.length<1000) (g:=fun q=>[lsA q.1,.func 62 [] [.ipt (bmA q.2)]]) (r:=fun q=>⟨Bo (q.1.any fun l=>eqN l q.2.ws),[]⟩) (k:=(Us,m)) (fun j hj=>by
  simp only [Rd,AV.func.injEq,AV.ipt.injEq,true_and,and_true] at hj
  rw [show j=(Us,m) from Tk (Yd8 hj.1) (Zkf hj.2)]) ⟨hW,hm⟩
theorem Yf6 {pt:PC} (h:PCOK Tryz.prog pt):PCOK Tryz.prog (ins 61 r61 pt):=Zn (fun q hq=>g61 hq.1 hq.2) h
theorem g32 {Us:List (List Int)} (hW:okW Us):PCall Tryz.prog 32 [.isl 1 (rowA Us),.isl 1 (rowI Us)] ⟨Bo true,[]⟩:=by
 have hk:PCOK Tryz.prog (ins 15 (famA (fun ws:List Int=>ws.length<1000) (fun ws=>[wsA ws,.isl 1 (nl ws)]) (fun _=>⟨Bo true,[]⟩)) pt0):=Zn (fun ws hw=>by
  have:=c69 (a:=ws) (b:=ws) (by omega) (by omega)
  rw [Yai] at this
  exact Ou this ⟨.inl (Zla ws),Hy,trivial⟩) Ze
 have hhit:=fun (ws:List Int) (h:ws.length<1000)=>Zl (p:=fun ws:List Int=>ws.length<1000) (g:=fun ws=>[wsA ws,.isl 1 (nl ws)]) (r:=fun _=>(⟨Bo true,[]⟩:PRes)) (k:=ws) (fun j hj=>rfl) h
 obtain ⟨hl,hl2⟩:=hW
 have l1:(rowA Us).length=Us.length:=Qj _
 have l2:(rowI Us).length=Us.length:=Qj _
 generalize famA (fun ws:List Int=>ws.length<1000) (fun ws=>[wsA ws,.isl 1 (nl ws)]) (fun _=>(⟨Bo true,[]⟩:PRes))=TB at *
 refine pn hk Tryz.func32 ?_
 repeat'(first|refine wk3 ?_|(refine wk2 ?_ ?_<;>intro _)|fail)
 all_goals first|(exfalso; clear hk hhit; simp_all; done)|skip
 refine Zm (S:=Nat × Int) (fun t=>Us.length-t.1) (fun t=>[(0,.isl 1 (rowA Us)),(1,.isl 1 (rowI Us)),(5,I t.2)]) (fun _=>[]) 0 0 (fun t=>t.2=t.1/\t.1<=Us.length) (0,0) ⟨rfl,Qp _⟩ (Qd _) [] rfl (kps) (kps) ?_
 rintro ⟨j,i⟩ ⟨hi,hj⟩
 dsimp only at hi hj ⊢
 subst hi
 by_cases hlt:j<Us.length
 ·have e0:(rowA Us)[((j:Nat):Int).toNat]?=some [wsA Us[j]]:=by unfold rowA; simp [hlt]
  have e1:(rowI Us)[((j:Nat):Int).toNat]?=some [.isl 1 (nl Us[j])]:=by unfold rowI; simp [hlt]
  have t1:=hhit Us[j] (hl2 _ (Qn hlt))
  have h3:=Zky Us[j]
  generalize hA:wsA Us[j]=A1 at *
  generalize nl Us[j]=N1 at *
  generalize rowA Us=RW at *
  generalize rowI Us=RI at *
  clear hhit hA
  rcases h3 with rfl|rfl
  all_goals
   refine bs.av (sx:=nos) hk ?_
   repeat'(first|refine wk3 ?_|(refine wk2 ?_ ?_<;>intro _)|fail)
   all_goals first
    | exact Qr ⟨(j+1,Qa Qb ((j:Int)+1)),[],rfl,kps,kps,⟨Zb (by omega),hlt⟩,by dsimp only; omega⟩
    | (exfalso; clear hk; simp_all; done)
 ·generalize rowA Us=RW at *
  generalize rowI Us=RI at *
  refine bs.av (sx:=nos) hk ?_
  repeat'(first|refine wk3 ?_|(refine wk2 ?_ ?_<;>intro _)|fail)
  all_goals first|exact Za rfl|(exfalso; clear hk; simp_all; done)
def addU (cs:List (Int × Int)) (p:V) (Us:List (List Int)) (m:Bm):List (List Int):=if (Zbu cs m p && !(Us.any fun l=>eqN l m.ws))=true then Us++[m.ws] else Us
def outU (cs:List (Int × Int)) (p:V) (L:List Bm):List (List Int):=L.foldl (addU cs p) []
theorem Zjh {cs:List (Int × Int)} {p:V} {L:List Bm} {j:Nat} (hj:j<L.length):outU cs p (L.take (j+1))=addU cs p (outU cs p (L.take j)) L[j]:=by
 unfold outU
 rw [Qu hj,List.foldl_append]
 rfl
theorem Yaz {cs:List (Int × Int)} {p:V} {Us:List (List Int)} {m:Bm} {l:List Int} (h:l∈addU cs p Us m):l∈Us\/l=m.ws:=by
 unfold addU at h
 split at h
 ·rcases List.mem_append.1 h with q|q
  ·exact .inl q
  ·exact .inr (List.mem_singleton.1 q)
 ·exact .inl h
theorem Zml {cs:List (Int × Int)} {p:V} {L:List Bm} (hL:∀ m∈L,m.ws.length<1000) (hl:L.length<50000):∀ j,j<=L.length->(outU cs p (L.take j)).length<=j/\okW (outU cs p (L.take j))
 | 0,_=>⟨Qd _,by unfold outU; simp [okW]⟩
 | j+1,hj=>by
  obtain ⟨a1,a2,a3⟩:=Zml (cs:=cs) (p:=p) hL hl j (by omega)
  rw [Zjh (by omega)]
  have h1:(addU cs p (outU cs p (L.take j)) L[j]).length<=(outU cs p (L.take j)).length+1:=by
   unfold addU
   split
   ·rw [Rb]; simp
   ·omega
  refine ⟨by omega,by omega,fun l hm=>?_⟩
  rcases Yaz hm with q|q
  ·exact a3 l q
  ·rw [q]; exact hL _ (Qn _)
noncomputable abbrev r63 (h:Hal) (p:V):List AV->Option PRes:=famA (fun m:Bm=>GoodB h m/\m.ws.length<4) (fun m=>[h.av,.agg (bmA m),P2 p.1 p.2]) (fun m=>⟨Bo (Zbu h.cs m p),[]⟩)
theorem Zv6 {h:Hal} {p:V} {m:Bm} (G:GoodB h m) (hl:m.ws.length<4):r63 h p [h.av,.agg (bmA m),P2 p.1 p.2]=some ⟨Bo (Zbu h.cs m p),[]⟩ :=
 Zl (p:=fun m:Bm=>GoodB h m/\m.ws.length<4) (g:=fun m=>[h.av,.agg (bmA m),P2 p.1 p.2]) (r:=fun m=>⟨Bo (Zbu h.cs m p),[]⟩) (k:=m) (fun j hj=>by
  simp only [Rd,AV.agg.injEq,true_and,and_true] at hj
  rw [Zkf hj]) ⟨G,hl⟩
theorem Yf4 {h:Hal} (hf:h.few) (g:h.fine) {p:V} (hp:InB5 p) {pt:PC} (hpt:PCOK Tryz.prog pt):PCOK Tryz.prog (ins 63 (r63 h p) pt):=Zn (fun m hm=>g63 hf g hm.1 hm.2 hp) hpt
theorem Yf3 {h:Hal} (hf:h.few) (g:h.fine) {p:V} (hp:InB5 p) {pt:PC} (hpt:PCOK Tryz.prog pt):PCOK Tryz.prog (ins 67 (r63 h p) pt):=Zn (fun m hm=>g67 hf g hm.1 hm.2 hp) hpt
def stg0 (h:Hal):Stg:=⟨Tg h.ks.length 0,[]⟩
theorem Zl4 {h:Hal} (hf:h.few):(stg0 h).few:=by
 have:=hf.2.2.2.1
 unfold stg0
 exact ⟨by simpa using this,by simp⟩
theorem g29 {h:Hal} (hk:h.ok) (he:h.err=0) (g:h.fine) (hS:SortsK Tryz.prog 215 2) (a:Ask) (ea:askE h (stg0 h) a=0) {n:Nat} (hn:a.n=n) (hn2:n<=2) (k0:InSrc h (a.fx,a.fy)) (hp:InB5 (a.tx,a.ty)) :
  PCall Tryz.prog 29 [h.av,a.av] ⟨.tup [.isl 1 (rowA (outU h.cs (a.tx,a.ty) (outB h.cs (a.fx,a.fy) n))),I 0],[]⟩:=by
 have c60:=g60 hk (Zl4 hk.f) a
 rw [ea] at c60
 have c60:PCall Tryz.prog 60 [h.av,.agg [.isl 1 (nl (stg0 h).hs),.nils],a.av] ⟨I 0,[]⟩:=Ou c60 ⟨Hy,.inr ⟨_,_,rfl,rfl,.inl rfl,.inr ⟨rfl,1,rfl⟩,trivial⟩,Hy,trivial⟩
 have eR:Wp ((h.ks.map Nl).length:Int).toNat (Wq 0 (Tg ((h.ks.map Nl).length:Int).toNat [I 0]))=nl (stg0 h).hs:=by
  rw [Tz,Qj,Ri,Sz (by simp)]
  unfold stg0 nl
  simp
 rw [<-eR] at c60
 have c50:=e50 hk.f g hS k0 hn2
 have hgd:=fun m hm=>Zds g k0 n (by omega) m hm
 have h2000:=Zfz g k0 hn2
 have hU:=fun j hj=>Zml (cs:=h.cs) (p:=(a.tx,a.ty)) (L:=outB h.cs (a.fx,a.fy) n) (fun m hm=>by have:=(hgd m hm).2; omega) (by omega) j hj
 have hst:=fun j (hj:j<(outB h.cs (a.fx,a.fy) n).length)=>Zjh (cs:=h.cs) (p:=(a.tx,a.ty)) hj
 have hkk:=Zf c60 (Zf c50 (Yf6 (Yf4 hk.f g hp Ze)))
 have h63:=fun (m:Bm) (G:GoodB h m) (hl:m.ws.length<4)=>Zv6 (p:=(a.tx,a.ty)) G hl
 have h61:=fun (Us:List (List Int)) (hU:okW Us) (m:Bm) (hm:m.ws.length<1000)=>Ydp hU hm
 have h60:=Vi [h.av,.agg [.isl 1 (Wp ((h.ks.map Nl).length:Int).toNat (Wq 0 (Tg ((h.ks.map Nl).length:Int).toNat [I 0]))),.nils],a.av] ⟨I 0,[]⟩
 have h50:=Vi [h.av,P2 a.fx a.fy,I n] ⟨.isl 8 ((outB h.cs (a.fx,a.fy) n).map bmA),[]⟩
 have lK:(h.ks.map Nl).length=h.ks.length:=Qj _
 have hks:=hk.f.2.2.2.1
 have lL:((outB h.cs (a.fx,a.fy) n).map bmA).length=(outB h.cs (a.fx,a.fy) n).length:=Qj _
 obtain ⟨fx,fy,fz,tx,ty,tz,an⟩:=a
 dsimp only at hn
 subst hn
 clear c60 c50 eR ea
 dsimp only at hkk h60 h50 h63 hU hst hgd h2000 lL ⊢
 generalize one _ ⟨I 0,[]⟩=T60 at *
 generalize outB h.cs (fx,fy) n=L at *
 generalize hEE:L.map bmA=E at *
 generalize one _ ⟨.isl 8 E,[]⟩=T50 at *
 generalize r63 h (tx,ty)=T63 at *
 generalize r61=T61 at *
 refine Nw (res:=⟨.tup [if outU h.cs (tx,ty) L=[] then .nils else .asl 0 0 (rowA (outU h.cs (tx,ty) L)).length,I 0],if outU h.cs (tx,ty) L=[] then [] else [(1,rowA (outU h.cs (tx,ty) L))]⟩) ?_ ?_
 rotate_left
 ·split<;>rename_i q
  ·refine ⟨?_,⟨rfl,rfl⟩,trivial⟩
   rw [q]; rfl
  ·exact ⟨⟨rfl,rfl,rfl⟩,⟨rfl,rfl⟩,trivial⟩
 refine bs.pv (sx:=nos) hkk Tryz.func29 (by kernel_rfl) (by kernel_rfl) (by split<;>rfl) ?_
 repeat'(first|refine wk3 ?_|(refine wk2 ?_ ?_<;>intro _)|fail)
 all_goals first|(exfalso; omega)|skip
 refine Zm (S:=Nat × Nat × Int × Nat × List (List AV)) (fun t=>L.length-t.2.1) (fun t=>[(7,.ptr 11 0 0),(8,.ptr 12 0 0),(9,gv 13 t.1 t.2.2.2.1),(43,.isl 8 E),(44,I E.length),(45,I t.2.2.1)])
  (fun t=>gz 13 1 t.1 t.2.2.2.2 [(12,.row 2 [[I tx,I ty]] true false),(11,.row 9 [h.cells] true false)]) 13 14
  (fun t=>t.1=t.2.2.2.2.length/\t.2.2.1=t.2.1/\t.2.1<=L.length/\t.2.2.2.1=t.2.2.2.2.length/\t.2.2.2.2=rowA (outU h.cs (tx,ty) (L.take t.2.1))) (0,0,0,0,[]) ⟨rfl,rfl,Qp _,rfl,rfl⟩ (Qm rfl) [] rfl (kps) (kps) ?_
 rintro ⟨k,j,i,ln,els⟩ ⟨hkl,hi,hj,hln,hels⟩
 dsimp only at hkl hi hj hln hels ⊢
 subst hi
 obtain ⟨u1,u2⟩:=hU j hj
 have lel:els.length=(outU h.cs (tx,ty) (L.take j)).length:=by rw [hels]; exact Qj _
 by_cases hlt:j<L.length
 ·obtain ⟨G,hw⟩:=hgd L[j] (Qn hlt)
  have hs:=hst j hlt
  have t63:=h63 L[j] G (by omega)
  have t61:=h61 _ u2 L[j] (by omega)
  have e0:E[((j:Nat):Int).toNat]?=some (bmA L[j]):=by rw [<-hEE]; simp [hlt]
  obtain ⟨Aw,eA,hAw,hA⟩:=Zyz L[j]
  have hraw:Wp ln (Wq 0 els)=els:=by rw [Tz,hln,Tl]
  have h2k:els.length<3000:=by omega
  unfold addU at hs
  rw [eA] at e0 t63 t61
  have hnew:rowA (outU h.cs (tx,ty) (L.take j)++[L[j].ws])=els++[[Aw]]:=by rw [hels,<-hAw]; unfold rowA; rw [Rm]; rfl
  generalize hb1:((outU h.cs (tx,ty) (L.take j)).any fun l=>eqN l L[j].ws)=b1 at *
  generalize hb2:Zbu h.cs L[j] (tx,ty)=b2 at *
  have hd:(b2 && !b1)=false->els=rowA (outU h.cs (tx,ty) (L.take (j+1))):=fun q=>by rw [hs,q,if_neg (by decide)]; exact hels
  have hd2:(b2 && !b1)=true->els++[[Aw]]=rowA (outU h.cs (tx,ty) (L.take (j+1))):=fun q=>by rw [hs,q,if_pos rfl]; exact hnew.symm
  generalize outU h.cs (tx,ty) (L.take j)=U at *
  generalize L[j]=m at *
  clear hs hnew hgd hU hst h63 h61 hb1 hb2 eA hAw G
  cases k with
  | zero =>
   have hz:els=[]:=Se.1 hkl.symm
   have hU0:U=[]:=Se.1 (by omega)
   subst hz
   subst hU0
   rcases hA with rfl|rfl
   all_goals
    cases b1<;>cases b2
    all_goals
     refine bs.av (sx:=nos) hkk ?_
     repeat'(first|refine wk3 ?_|(refine wk2 ?_ ?_<;>intro _)|fail)
     all_goals first
      | exact Qr ⟨(0,j+1,Qa Qb ((j:Int)+1),ln,[]),[],rfl,kps,kps,⟨hkl,Zb (by omega),hlt,hln,hd rfl⟩,by show L.length-(j+1)<L.length-j; omega⟩
      | exact Qr ⟨(1,j+1,Qa Qb ((j:Int)+1),1,[[.nils]]),[(13,16)],rfl,kps,kps,⟨rfl,Zb (by omega),hlt,rfl,hd2 rfl⟩,by show L.length-(j+1)<L.length-j; omega⟩
      | exact Qr ⟨(1,j+1,Qa Qb ((j:Int)+1),1,[[.isl 1 (nl m.ws)]]),[(13,16)],rfl,kps,kps,⟨rfl,Zb (by omega),hlt,rfl,hd2 rfl⟩,by show L.length-(j+1)<L.length-j; omega⟩
  | succ k =>
   have t61:T61 [.isl 1 (Wp ln (Wq 0 els)),.func 62 [] [.ipt [Aw,I m.o.1,I m.o.2,I m.a.1,I m.a.2,I m.b.1,I m.b.2,I m.nx]]]=some ⟨Bo b1,[]⟩:=by
    rw [hraw,hels,<-t61]
    cases hq:U with
    | nil=>exfalso; rw [hq,List.length_nil] at lel; omega
    | cons x r=>rfl
   rcases hA with rfl|rfl
   all_goals
    cases b1<;>cases b2
    all_goals
     refine bs.av (sx:=nos) hkk ?_
     repeat'(first|refine wk3 ?_|(refine wk2 ?_ ?_<;>intro _)|fail)
     all_goals first
      | exact Qr ⟨(k+1,j+1,Qa Qb ((j:Int)+1),ln,els),[(13,13)],rfl,kps,kps,⟨hkl,Zb (by omega),hlt,hln,hd rfl⟩,by show L.length-(j+1)<L.length-j; omega⟩
      | exact Qr ⟨(k+2,j+1,Qa Qb ((j:Int)+1),els.length+1,els++[[.nils]]),[(13,16)],rfl,kps,kps,⟨by rw [Rb]; show k+2=els.length+1; omega,Zb (by omega),hlt,by rw [Rb]; rfl,hd2 rfl⟩,by show L.length-(j+1)<L.length-j; omega⟩
      | exact Qr ⟨(k+2,j+1,Qa Qb ((j:Int)+1),els.length+1,els++[[.isl 1 (nl m.ws)]]),[(13,16)],rfl,kps,kps,⟨by rw [Rb]; show k+2=els.length+1; omega,Zb (by omega),hlt,by rw [Rb]; rfl,hd2 rfl⟩,by show L.length-(j+1)<L.length-j; omega⟩
 ·have hjn:j=L.length:=by omega
  subst hjn
  rw [Tl] at hels lel
  subst hels
  cases k with
  | zero =>
   have hU0:outU h.cs (tx,ty) L=[]:=Se.1 (by omega)
   rw [if_pos hU0,if_pos hU0]
   refine bs.av (sx:=nos) hkk ?_
   repeat'(first|refine wk3 ?_|(refine wk2 ?_ ?_<;>intro _)|fail)
   all_goals first|exact Zg rfl rfl|(exfalso; omega)
  | succ k =>
   have hU0:outU h.cs (tx,ty) L≠[]:=fun q=>by rw [q] at hkl; simp [rowA] at hkl
   rw [if_neg hU0,if_neg hU0]
   refine bs.av (sx:=nos) hkk ?_
   repeat'(first|refine wk3 ?_|(refine wk2 ?_ ?_<;>intro _)|fail)
   all_goals first|exact Yk [13] rfl (by rw [hln]; rfl) rfl|(exfalso; omega)
noncomputable abbrev r15:List AV->Option PRes:=famA (fun q:List Int × List Int=>q.1.length<1000/\q.2.length<1000) (fun q=>[.isl 1 (nl q.1),wsA q.2]) (fun q=>⟨Bo (eqN q.1 q.2),[]⟩)
theorem Ydq {a b:List Int} (ha:a.length<1000) (hb:b.length<1000):r15 [.isl 1 (nl a),wsA b]=some ⟨Bo (eqN a b),[]⟩ :=
 Zl (p:=fun q:List Int × List Int=>q.1.length<1000/\q.2.length<1000) (g:=fun q=>[.isl 1 (nl q.1),wsA q.2]) (r:=fun q=>⟨Bo (eqN q.1 q.2),[]⟩) (k:=(a,b)) (fun j hj=>by
  simp only [Rd,Jr,true_and,and_true] at hj
  rw [show j=(a,b) from Tk (Ybx hj.1) (Ze6 hj.2)]) ⟨ha,hb⟩
theorem Yf8 {pt:PC} (h:PCOK Tryz.prog pt):PCOK Tryz.prog (ins 15 r15 pt):=Zn (fun q hq=>Ou (c69 (a:=q.1) (b:=q.2) (by omega) (by omega)) ⟨Hy,.inl (Zla _),trivial⟩) h
theorem g33 {h:Hal} (hk:h.ok) (g:h.fine) (a:Ask) {n:Nat} (hn:a.n=n) (hn2:n<=2) (k0:InSrc h (a.fx,a.fy)) (hp:InB5 (a.tx,a.ty)) :
  PCall Tryz.prog 33 [h.av,a.av] ⟨.isl 1 (rowI (outU h.cs (a.tx,a.ty) (outB h.cs (a.fx,a.fy) n))),[]⟩:=by
 have c26:=e26 hk.f g k0 hn2
 have hgd:=fun m hm=>Zds g k0 n (by omega) m hm
 have h2000:=Zfz g k0 hn2
 have hU:=fun j hj=>Zml (cs:=h.cs) (p:=(a.tx,a.ty)) (L:=outB h.cs (a.fx,a.fy) n) (fun m hm=>by have:=(hgd m hm).2; omega) (by omega) j hj
 have hst:=fun j (hj:j<(outB h.cs (a.fx,a.fy) n).length)=>Zjh (cs:=h.cs) (p:=(a.tx,a.ty)) hj
 have hkk:=Zf c26 (Yf3 hk.f g hp (Yf8 (Yfw Ze)))
 have h67:=fun (m:Bm) (G:GoodB h m) (hl:m.ws.length<4)=>Zv6 (p:=(a.tx,a.ty)) G hl
 have h15:=fun (a b:List Int) (ha:a.length<1000) (hb:b.length<1000)=>Ydq ha hb
 have h23:=fun (b:List Int) (hb:b.length<1000)=>Ydl hb
 have h26:=Vi [h.av,P2 a.fx a.fy,I n] ⟨.isl 8 ((outB h.cs (a.fx,a.fy) n).map bmA),[]⟩
 have lL:((outB h.cs (a.fx,a.fy) n).map bmA).length=(outB h.cs (a.fx,a.fy) n).length:=Qj _
 obtain ⟨fx,fy,fz,tx,ty,tz,an⟩:=a
 dsimp only at hn
 subst hn
 clear c26
 dsimp only at hkk h26 h67 hU hst hgd h2000 lL ⊢
 generalize outB h.cs (fx,fy) n=L at *
 generalize hEE:L.map bmA=E at *
 generalize one _ ⟨.isl 8 E,[]⟩=T26 at *
 generalize r63 h (tx,ty)=T67 at *
 generalize r15=T15 at *
 generalize rCw=T23 at *
 refine Nw (res:=⟨if outU h.cs (tx,ty) L=[] then .nils else .asl 0 0 (rowI (outU h.cs (tx,ty) L)).length,if outU h.cs (tx,ty) L=[] then [] else [(1,rowI (outU h.cs (tx,ty) L))]⟩) ?_ ?_
 rotate_left
 ·split<;>rename_i q
  ·rw [q]; rfl
  ·exact ⟨rfl,rfl,rfl⟩
 refine bs.pv (sx:=nos) hkk Tryz.func33 (by kernel_rfl) (by kernel_rfl) (by split<;>rfl) ?_
 repeat'(first|refine wk3 ?_|(refine wk2 ?_ ?_<;>intro _)|fail)
 refine Zm (S:=Nat × Nat × Int × Nat × List (List AV)) (fun t=>L.length-t.2.1) (fun t=>[(2,.ptr 0 0 0),(3,.ptr 1 0 0),(5,gv 2 t.1 t.2.2.2.1),(6,.isl 8 E),(7,I t.2.2.1)])
  (fun t=>gz 2 1 t.1 t.2.2.2.2 [(1,.row 7 [[I fx,I fy,I fz,I tx,I ty,I tz,I (n:Int)]] true false),(0,.row 9 [h.cells] true false)]) 2 3
  (fun t=>t.1=t.2.2.2.2.length/\t.2.2.1=t.2.1/\t.2.1<=L.length/\t.2.2.2.1=t.2.2.2.2.length/\t.2.2.2.2=rowI (outU h.cs (tx,ty) (L.take t.2.1))) (0,0,0,0,[]) ⟨rfl,rfl,Qp _,rfl,rfl⟩ (Qm rfl) [] rfl (kps) (kps) ?_
 rintro ⟨k,j,i,ln,els⟩ ⟨hkl,hi,hj,hln,hels⟩
 dsimp only at hkl hi hj hln hels ⊢
 subst hi
 obtain ⟨u1,u2⟩:=hU j hj
 have lel:els.length=(outU h.cs (tx,ty) (L.take j)).length:=by rw [hels]; exact Qj _
 by_cases hlt:j<L.length
 ·obtain ⟨G,hw⟩:=hgd L[j] (Qn hlt)
  have hs:=hst j hlt
  have t67:=h67 L[j] G (by omega)
  have t23:=h23 L[j].ws (by omega)
  have t15:=fun q (hq:q<(outU h.cs (tx,ty) (L.take j)).length)=>h15 (outU h.cs (tx,ty) (L.take j))[q] L[j].ws (u2.2 _ (Qn hq)) (by omega)
  have e0:E[((j:Nat):Int).toNat]?=some (bmA L[j]):=by rw [<-hEE]; simp [hlt]
  obtain ⟨Aw,eA,hAw,hA⟩:=Zyz L[j]
  have h2k:els.length<3000:=by omega
  unfold addU at hs
  rw [eA] at e0 t67
  rw [hAw] at t23
  have hnew:rowI (outU h.cs (tx,ty) (L.take j)++[L[j].ws])=els++[[.isl 1 (nl L[j].ws)]]:=by rw [hels]; unfold rowI; rw [Rm]; rfl
  have hany:∀ q,q<=(outU h.cs (tx,ty) (L.take j)).length->∃ b,b=((outU h.cs (tx,ty) (L.take j)).take q).any fun l=>eqN l L[j].ws:=fun q _=>⟨_,rfl⟩
  generalize hb1:((outU h.cs (tx,ty) (L.take j)).any fun l=>eqN l L[j].ws)=b1 at *
  generalize hb2:Zbu h.cs L[j] (tx,ty)=b2 at *
  have hd:(b2 && !b1)=false->els=rowI (outU h.cs (tx,ty) (L.take (j+1))):=fun q=>by rw [hs,q,if_neg (by decide)]; exact hels
  have hd2:(b2 && !b1)=true->els++[[.isl 1 (nl L[j].ws)]]=rowI (outU h.cs (tx,ty) (L.take (j+1))):=fun q=>by rw [hs,q,if_pos rfl]; exact hnew.symm
  generalize hUU:outU h.cs (tx,ty) (L.take j)=U at *
  have hlE:j<E.length:=by omega
  generalize L[j]=m at *
  clear hs hnew hgd hst h67 h15 h23 hb2 eA G hany hU
  cases k with
  | zero =>
   have hz:els=[]:=Se.1 hkl.symm
   have hU0:U=[]:=Se.1 (by omega)
   subst hz
   subst hU0
   have hb1:false=b1:=hb1
   subst hb1
   rw [hAw] at t15
   cases b2
   ·rcases hA with rfl|rfl
    all_goals
     refine bs.av (sx:=nos) hkk ?_
     repeat'(first|refine wk3 ?_|(refine wk2 ?_ ?_<;>intro _)|fail)
     all_goals first|exact Qr ⟨(0,j+1,Qa Qb ((j:Int)+1),ln,[]),[],rfl,kps,kps,⟨hkl,Zb (by omega),hlt,hln,hd rfl⟩,by show L.length-(j+1)<L.length-j; omega⟩|(exfalso; omega)
   ·rcases hA with rfl|rfl
    all_goals
     refine bs.av (sx:=nos) hkk ?_
     repeat'(first|refine wk3 ?_|(refine wk2 ?_ ?_<;>intro _)|fail)
     all_goals first|(exfalso; omega)|skip
     refine LpM.start 1 (LpM.succ (bs.av (sx:=nos) hkk ?_))
     repeat'(first|refine wk3 ?_|(refine wk2 ?_ ?_<;>intro _)|fail)
     all_goals first|(exfalso; omega)|skip
     exact Qr ⟨(1,j+1,Qa Qb ((j:Int)+1),1,[[.isl 1 (nl m.ws)]]),[(2,18)],rfl,kps,kps,⟨rfl,Zb (by omega),hlt,rfl,hd2 rfl⟩,by show L.length-(j+1)<L.length-j; omega⟩
  | succ k =>
   cases b2
   ·rcases hA with rfl|rfl
    all_goals
     refine bs.av (sx:=nos) hkk ?_
     repeat'(first|refine wk3 ?_|(refine wk2 ?_ ?_<;>intro _)|fail)
     all_goals first|exact Qr ⟨(k+1,j+1,Qa Qb ((j:Int)+1),ln,els),[(2,2)],rfl,kps,kps,⟨hkl,Zb (by omega),hlt,hln,hd rfl⟩,by show L.length-(j+1)<L.length-j; omega⟩|(exfalso; omega)
   ·rcases hA with rfl|rfl
    all_goals
     refine bs.av (sx:=nos) hkk ?_
     repeat'(first|refine wk3 ?_|(refine wk2 ?_ ?_<;>intro _)|fail)
     all_goals first|(exfalso; omega)|skip
     refine Zm (S:=Nat × Int × Bool) (fun t=>U.length-t.1) (fun t=>[(2,.ptr 0 0 0),(3,.ptr 1 0 0),(5,.asl 2 0 ln),(6,.isl 8 E),(7,I (j:Int)),(8,Bo t.2.2),(9,I t.2.1)])
      (fun _=>[(2,.row 1 els true true),(1,.row 7 [[I fx,I fy,I fz,I tx,I ty,I tz,I (n:Int)]] true false),(0,.row 9 [h.cells] true false)]) 40 40
      (fun t=>t.2.1=t.1/\t.1<=U.length/\t.2.2=(U.take t.1).any fun l=>eqN l m.ws) (0,0,false) ⟨rfl,Qp _,rfl⟩ (Qm rfl) [] rfl (kps) (kps) ?_
     rintro ⟨q,i,kn⟩ ⟨hi,hq,hkn⟩
     dsimp only at hi hq hkn ⊢
     subst hi
     by_cases hqt:q<U.length
     ·have e2:els[0+((q:Nat):Int).toNat]?=some [.isl 1 (nl U[q])]:=by rw [hels,Nat.zero_add,Ri]; unfold rowI; rw [List.getElem?_map,List.getElem?_eq_getElem hqt]; rfl
      have t1:=t15 q hqt
      rw [hAw] at t1
      have hk2:((U.take (q+1)).any fun l=>eqN l m.ws)=(kn||eqN U[q] m.ws):=by
       rw [Qu hqt,List.any_append,<-hkn]
       simp
      generalize eqN U[q] m.ws=ee at *
      generalize nl U[q]=N1 at *
      clear t15 t67
      cases kn<;>cases ee
      all_goals
       refine bs.av (sx:=nos) hkk ?_
       repeat'(first|refine wk3 ?_|(refine wk2 ?_ ?_<;>intro _)|fail)
       all_goals first|exact Qr ⟨(q+1,Qa Qb ((q:Int)+1),_),[],rfl,kps,kps,⟨Zb (by omega),hqt,hk2.symm⟩,by show U.length-(q+1)<U.length-q; omega⟩|(exfalso; omega)
     ·have hqn:q=U.length:=by omega
      rw [hqn,Tl,hb1] at hkn
      subst hkn
      cases kn
      ·refine bs.av (sx:=nos) hkk ?_
       repeat'(first|refine wk3 ?_|(refine wk2 ?_ ?_<;>intro _)|fail)
       all_goals first|(exfalso; omega)|skip
       exact Qr ⟨(k+2,j+1,Qa Qb ((j:Int)+1),els.length+1,els++[[.isl 1 (nl m.ws)]]),[(2,41)],rfl,kps,kps,⟨by rw [Rb]; show k+2=els.length+1; omega,Zb (by omega),hlt,by rw [Rb]; rfl,hd2 rfl⟩,by show L.length-(j+1)<L.length-j; omega⟩
      ·refine bs.av (sx:=nos) hkk ?_
       repeat'(first|refine wk3 ?_|(refine wk2 ?_ ?_<;>intro _)|fail)
       all_goals first|exact Qr ⟨(k+1,j+1,Qa Qb ((j:Int)+1),ln,els),[(2,2)],rfl,kps,kps,⟨hkl,Zb (by omega),hlt,hln,hd rfl⟩,by show L.length-(j+1)<L.length-j; omega⟩|(exfalso; omega)
 ·have hjn:j=L.length:=by omega
  subst hjn
  rw [Tl] at hels lel
  subst hels
  cases k with
  | zero =>
   have hU0:outU h.cs (tx,ty) L=[]:=Se.1 (by omega)
   rw [if_pos hU0,if_pos hU0]
   refine bs.av (sx:=nos) hkk ?_
   repeat'(first|refine wk3 ?_|(refine wk2 ?_ ?_<;>intro _)|fail)
   all_goals first|exact Zg rfl rfl|(exfalso; omega)
  | succ k =>
   have hU0:outU h.cs (tx,ty) L≠[]:=fun q=>by rw [q] at hkl; simp [rowI] at hkl
   rw [if_neg hU0,if_neg hU0]
   refine bs.av (sx:=nos) hkk ?_
   repeat'(first|refine wk3 ?_|(refine wk2 ?_ ?_<;>intro _)|fail)
   all_goals first|exact Yk [2] rfl (by rw [hln]; rfl) rfl|(exfalso; omega)
end Go.Proofs.YtanbhfpalahjcaaGreat
namespace Go.Proofs
open Go.Shelf
def Tryz.laysS215_ren:Go.Shelf.Ren:=⟨fun|6=>215|15=>238|14=>237|28=>254|29=>255|20=>246|21=>247|22=>248|23=>249|24=>250|25=>251|26=>252|27=>253|46=>257|47=>258|48=>259|49=>260|50=>261|57=>263|n=>n,fun|22=>241|24=>112|25=>246|3=>3|39=>304|0=>0|53=>319|55=>321|4=>4|46=>312|45=>311|50=>316|5=>5|9=>9|66=>323|70=>327|76=>331|77=>248|n=>n,fun|n=>n⟩
theorem Tryz.laysS215:Go.Proofs.SlLaysF0.n6 Tryz.prog Tryz.laysS215_ren:={
 mixed:=by kernel_rfl
 f6:=⟨Tryz.f215.name,by decide,Tryz.func215.trans (congrArg some (by kernel_rfl))⟩
 f14:=⟨Tryz.f237.name,by decide,Tryz.func237.trans (congrArg some (by kernel_rfl))⟩
 f15:=Tryz.func238.trans (congrArg some (by kernel_rfl))
 f20:=⟨Tryz.f246.name,by decide,Tryz.func246.trans (congrArg some (by kernel_rfl))⟩
 f21:=⟨Tryz.f247.name,by decide,Tryz.func247.trans (congrArg some (by kernel_rfl))⟩
 f22:=⟨Tryz.f248.name,by decide,Tryz.func248.trans (congrArg some (by kernel_rfl))⟩
 f23:=⟨Tryz.f249.name,by decide,Tryz.func249.trans (congrArg some (by kernel_rfl))⟩
 f24:=⟨Tryz.f250.name,by decide,Tryz.func250.trans (congrArg some (by kernel_rfl))⟩
 f25:=⟨Tryz.f251.name,by decide,Tryz.func251.trans (congrArg some (by kernel_rfl))⟩
 f26:=⟨Tryz.f252.name,by decide,Tryz.func252.trans (congrArg some (by kernel_rfl))⟩
 f27:=⟨Tryz.f253.name,by decide,Tryz.func253.trans (congrArg some (by kernel_rfl))⟩
 f28:=Tryz.func254.trans (congrArg some (by kernel_rfl))
 f29:=Tryz.func255.trans (congrArg some (by kernel_rfl))
 f46:=⟨Tryz.f257.name,by decide,Tryz.func257.trans (congrArg some (by kernel_rfl))⟩
 f47:=Tryz.func258.trans (congrArg some (by kernel_rfl))
 f48:=Tryz.func259.trans (congrArg some (by kernel_rfl))
 f49:=⟨Tryz.f260.name,by decide,Tryz.func260.trans (congrArg some (by kernel_rfl))⟩
 f50:=⟨Tryz.f261.name,by decide,Tryz.func261.trans (congrArg some (by kernel_rfl))⟩
 f57:=⟨Tryz.f263.name,by decide,Tryz.func263.trans (congrArg some (by kernel_rfl))⟩
 t0:=Tryz.underlying0
 a0:=Tryz.isAgg0
 z0:=Tryz.sizeOf0
 v0:=Tryz.zeroValue0
 t3:=Tryz.underlying3
 a3:=Tryz.isAgg3
 z3:=Tryz.sizeOf3
 v3:=Tryz.zeroValue3
 t4:=Tryz.underlying4
 a4:=Tryz.isAgg4
 z4:=Tryz.sizeOf4
 v4:=Tryz.zeroValue4
 t5:=Tryz.underlying5
 a5:=Tryz.isAgg5
 z5:=Tryz.sizeOf5
 v5:=Tryz.zeroValue5
 t9:=Tryz.underlying9
 a9:=Tryz.isAgg9
 z9:=Tryz.sizeOf9
 v9:=Tryz.zeroValue9
 t22:=Tryz.underlying241
 a22:=Tryz.isAgg241
 z22:=Tryz.sizeOf241
 v22:=Tryz.zeroValue241
 t25:=Tryz.underlying246
 a25:=Tryz.isAgg246
 z25:=Tryz.sizeOf246
 v25:=Tryz.zeroValue246
 t39:=Tryz.underlying304
 a39:=Tryz.isAgg304
 z39:=Tryz.sizeOf304
 v39:=Tryz.zeroValue304
 t45:=Tryz.underlying311
 a45:=Tryz.isAgg311
 z45:=Tryz.sizeOf311
 v45:=Tryz.zeroValue311
 t46:=Tryz.underlying312
 a46:=Tryz.isAgg312
 z46:=Tryz.sizeOf312
 v46:=Tryz.zeroValue312
 t50:=Tryz.underlying316
 a50:=Tryz.isAgg316
 z50:=Tryz.sizeOf316
 v50:=Tryz.zeroValue316
 t53:=Tryz.underlying319
 a53:=Tryz.isAgg319
 z53:=Tryz.sizeOf319
 v53:=Tryz.zeroValue319
 t55:=Tryz.underlying321
 a55:=Tryz.isAgg321
 z55:=Tryz.sizeOf321
 v55:=Tryz.zeroValue321
 t66:=Tryz.underlying323
 a66:=Tryz.isAgg323
 z66:=Tryz.sizeOf323
 v66:=Tryz.zeroValue323
 t70:=Tryz.underlying327
 a70:=Tryz.isAgg327
 z70:=Tryz.sizeOf327
 v70:=Tryz.zeroValue327
 t76:=Tryz.underlying331
 a76:=Tryz.isAgg331
 z76:=Tryz.sizeOf331
 v76:=Tryz.zeroValue331
 t77:=Tryz.underlying248
 a77:=Tryz.isAgg248
 z77:=Tryz.sizeOf248
 v77:=Tryz.zeroValue248 }
theorem Tryz.sorts215:Go.Sx.SortsK Tryz.prog 215 2:={
 some:=fun m _ enc hk h1 cf hO g blk off cap d w eg hcmp hH hblk hsz=>AnyQ.slices_SortFunc Tryz.laysS215 2 Tryz.isAgg112 Tryz.sizeOf112 enc hk h1 cf hO g #[] blk off cap d w eg hcmp hH hblk hsz
 none:=fun p cap fv w=>AnyF.slices_SortFunc_none Tryz.laysS215 p cap fv w }
end Go.Proofs
namespace Go.Proofs.YtanbhfpalahjcaaGreat
open Go Go.Sx Go.Ge
abbrev zRw (h:Hal):List (List AV):=Wp ((h.ks.map Nl).length:Int).toNat (Wq 0 (Tg ((h.ks.map Nl).length:Int).toNat [I 0]))
theorem Ya1 (h:Hal):zRw h=nl (stg0 h).hs:=by
 unfold zRw
 rw [Tz,Qj,Ri,Sz (by simp)]
 unfold stg0 nl
 simp
theorem g60z {h:Hal} (hk:h.ok) (a:Ask):PCall Tryz.prog 60 [h.av,.agg [.isl 1 (zRw h),.nils],a.av] ⟨I (askE h (stg0 h) a),[]⟩:=by
 have c:=g60 hk (Zl4 hk.f) a
 rw [Ya1]
 exact Ou c ⟨Hy,.inr ⟨_,_,rfl,rfl,.inl rfl,.inr ⟨rfl,1,rfl⟩,trivial⟩,Hy,trivial⟩
theorem g31z {h:Hal} (hk:h.ok) (a:Ask):PCall Tryz.prog 31 [h.av,.agg [.isl 1 (zRw h),.nils],a.av] ⟨I (askE h (stg0 h) a),[]⟩:=by
 have c:=g31 hk (Zl4 hk.f) a
 rw [Ya1]
 exact Ou c ⟨Hy,.inr ⟨_,_,rfl,rfl,.inl rfl,.inr ⟨rfl,1,rfl⟩,trivial⟩,Hy,trivial⟩
theorem g29x {h:Hal} (hk:h.ok) (a:Ask) (ea:askE h (stg0 h) a≠0):PCall Tryz.prog 29 [h.av,a.av] ⟨.tup [.isl 1 [],I (askE h (stg0 h) a)],[]⟩:=by
 refine Nw (res:=⟨.tup [.nils,I (askE h (stg0 h) a)],[]⟩) ?_ ⟨rfl,⟨rfl,rfl⟩,trivial⟩
 have c60:=g60z hk a
 have hkk:=Zf c60 Ze
 have h60:=Vi [h.av,.agg [.isl 1 (zRw h),.nils],a.av] ⟨I (askE h (stg0 h) a),[]⟩
 have hks:=hk.f.2.2.2.1
 have lK:(h.ks.map Nl).length=h.ks.length:=Qj _
 clear c60
 generalize askE h (stg0 h) a=E at *
 generalize one _ ⟨I E,[]⟩=T60 at *
 obtain ⟨fx,fy,fz,tx,ty,tz,n⟩:=a
 refine pn hkk Tryz.func29 ?_
 repeat'(first|refine wk3 ?_|(refine wk2 ?_ ?_<;>intro _)|fail)
 all_goals first|exact Zg rfl rfl|(exfalso; omega)|(exfalso; exact ea (by assumption))|(exfalso; clear hkk; simp_all; done)
theorem g28 (a:Ask):PCall Tryz.prog 28 [a.av] ⟨Bo (decide (a.n<3)||decide (4<a.n)),[]⟩:=by
 obtain ⟨fx,fy,fz,tx,ty,tz,n⟩:=a
 by_cases c:n<3
 ·refine pn Ze Tryz.func28 ?_
  repeat'(first|refine wk3 ?_|(refine wk2 ?_ ?_<;>intro _)|fail)
  all_goals first|(refine Za ?_; simp_all; done)|(exfalso; omega)
 ·rw [decide_eq_false c,Wr]
  refine pn Ze Tryz.func28 ?_
  repeat'(first|refine wk3 ?_|(refine wk2 ?_ ?_<;>intro _)|fail)
  all_goals first|exact Za rfl|(refine Za ?_; simp_all; done)|(exfalso; omega)
theorem Zlg {h:Hal} (g:h.fine) {x y z:Int} (e:plaE h x y z=0):InSrc h (x,y)/\InB5 (x,y):=by
 obtain ⟨⟨p1,p2,_⟩,p3⟩:=Zv7 e
 refine ⟨⟨p1,p2,?_⟩,p1,p2⟩
 rw [Zba g.st z (x:=x) (y:=y) (d:=1) ⟨by omega,by omega,by omega,by omega⟩]
 unfold Zbx at p3
 simp only [Bool.and_eq_true] at p3
 exact p3.2
theorem fst4 {a b c d:Int} (h:fstL [a,b,c,d]=0):a=0/\b=0/\c=0/\d=0:=by
 simp only [fstL] at h
 by_cases ha:a=0<;>by_cases hb:b=0<;>by_cases hc:c=0<;>by_cases hd:d=0<;>simp_all
theorem f6 (h:Hal) (a:Ask):PCall Tryz.prog 6 [h.av,a.av] ⟨Bo true,[]⟩:=by
 have c8:=p80 h
 have c7:=Yax
 have c28:=g28 a
 cases hfw:few2 h with
 | false =>
  rw [hfw] at c8
  have hk0:=Zf c7 (Zf c8 Ze)
  obtain ⟨fx,fy,fz,tx,ty,tz,n⟩:=a
  refine pn hk0 Tryz.func6 ?_
  repeat'(first|refine wk3 ?_|(refine wk2 ?_ ?_<;>intro _)|fail)
  all_goals first|exact Za rfl|(exfalso; clear hk0; simp_all; done)
 | true =>
 rw [hfw] at c8
 have hk:=Yex hfw
 cases hsm:(decide (a.n<3)||decide (4<a.n)) with
 | false =>
  rw [hsm] at c28
  have hk0:=Zf c7 (Zf c8 (Zf c28 Ze))
  obtain ⟨fx,fy,fz,tx,ty,tz,n⟩:=a
  refine pn hk0 Tryz.func6 ?_
  repeat'(first|refine wk3 ?_|(refine wk2 ?_ ?_<;>intro _)|fail)
  all_goals first|exact Za rfl|(exfalso; clear hk0; simp_all; done)
 | true =>
 rw [hsm] at c28
 have c10:=c22f hk.f
 have c30:=p90 hk
 have hks:=hk.f.2.2.2.1
 have lK:(h.ks.map Nl).length=h.ks.length:=Qj _
 by_cases ea:askE h (stg0 h) a=0
 ·have he:h.err=0:=by
   unfold askE at ea
   split at ea
   ·rename_i q; exact Zi4 q
   ·rename_i q; exact absurd ea q
  have g:=Zqr hk he
  have hz:plaE h a.fx a.fy a.fz=0/\plaE h a.tx a.ty a.tz=0/\within a.n 0 4=true:=by
   unfold askE at ea
   split at ea
   ·obtain ⟨h1,h2,_,h4⟩:=fst4 ea
    refine ⟨h1,h2,?_⟩
    cases hw:within a.n 0 4
    ·rw [hw] at h4; cases h4
    ·rfl
   ·rename_i q; exact absurd ea q
  obtain ⟨h1,h2,h3⟩:=hz
  have h3:=within_iff.1 h3
  obtain ⟨n,hn⟩:∃ n:Nat,a.n=n:=⟨a.n.toNat,by omega⟩
  have hn2:n<=2:=by
   rw [Bool.or_eq_true,decide_eq_true_eq,decide_eq_true_eq] at hsm
   omega
  have hS:SortsK Tryz.prog 215 2:=Tryz.sorts215
  have c29:=g29 hk he g hS a ea hn hn2 (Zlg g h1).1 (Zlg g h2).2
  have c33:=g33 hk g a hn hn2 (Zlg g h1).1 (Zlg g h2).2
  have c31:=g31z hk a
  have hU:=Zml (cs:=h.cs) (p:=(a.tx,a.ty)) (L:=outB h.cs (a.fx,a.fy) n) (fun m hm=>by have:=(Zds g (Zlg g h1).1 n (by omega) m hm).2; omega) (by have:=Zfz g (Zlg g h1).1 hn2; omega) _ (Qd _)
  rw [Tl] at hU
  have c32:=g32 hU.2
  rw [he] at c30
  rw [ea] at c31
  generalize outU h.cs (a.tx,a.ty) (outB h.cs (a.fx,a.fy) n)=U at *
  have hk0:PCOK Tryz.prog (ins 7 (one [] ⟨Bo true,[]⟩) (ins 8 (one [h.av] ⟨Bo true,[]⟩) (ins 28 (one [a.av] ⟨Bo true,[]⟩) (ins 10 (one [h.av] ⟨h.av,[]⟩) (ins 29 (one [h.av,a.av] ⟨.tup [.isl 1 (rowA U),I 0],[]⟩) (ins 30 (one [h.av] ⟨I 0,[]⟩) (ins 31 (one [h.av,.agg [.isl 1 (zRw h),.nils],a.av] ⟨I 0,[]⟩) (ins 33 (one [h.av,a.av] ⟨.isl 1 (rowI U),[]⟩) (ins 32 (one [.isl 1 (rowA U),.isl 1 (rowI U)] ⟨Bo true,[]⟩) pt0))))))))) :=
   Zf c7 (Zf c8 (Zf c28 (Zf c10 (Zf c29 (Zf c30 (Zf c31 (Zf c33 (Zf c32 Ze))))))))
  have t31:=Vi [h.av,.agg [.isl 1 (zRw h),.nils],a.av] ⟨I 0,[]⟩
  have t32:=Vi [.isl 1 (rowA U),.isl 1 (rowI U)] ⟨Bo true,[]⟩
  generalize rowA U=RA at *
  generalize rowI U=RI at *
  generalize one [h.av,.agg [.isl 1 (zRw h),.nils],a.av] ⟨I 0,[]⟩=T31 at *
  generalize one [.isl 1 RA,.isl 1 RI] ⟨Bo true,[]⟩=T32 at *
  clear c7 c8 c28 c10 c29 c30 c31 c33 c32 hU ea h1 h2 hsm
  obtain ⟨fx,fy,fz,tx,ty,tz,an⟩:=a
  refine pn hk0 Tryz.func6 ?_
  repeat'(first|refine wk3 ?_|(refine wk2 ?_ ?_<;>intro _)|fail)
  all_goals first|exact Za rfl|(exfalso; omega)|(exfalso; clear hk0; simp_all; done)
 ·have c29:=g29x hk a ea
  have c31:=g31z hk a
  have t31:=Vi [h.av,.agg [.isl 1 (zRw h),.nils],a.av] ⟨I (askE h (stg0 h) a),[]⟩
  by_cases he:h.err=0
  ·rw [he] at c30
   generalize askE h (stg0 h) a=E at *
   have hk0:=Zf c7 (Zf c8 (Zf c28 (Zf c10 (Zf c29 (Zf c30 (Zf c31 Ze))))))
   generalize one [h.av,.agg [.isl 1 (zRw h),.nils],a.av] ⟨I E,[]⟩=T31 at *
   clear c7 c8 c28 c10 c29 c30 c31
   obtain ⟨fx,fy,fz,tx,ty,tz,an⟩:=a
   refine pn hk0 Tryz.func6 ?_
   repeat'(first|refine wk3 ?_|(refine wk2 ?_ ?_<;>intro _)|fail)
   all_goals first|exact Za rfl|(exfalso; omega)|(exfalso; exact ea (by assumption))|(exfalso; clear hk0 t31; simp_all; done)
  ·have hE:askE h (stg0 h) a=h.err:=by
    unfold askE
    have:serr h (stg0 h)=h.err:=by unfold serr; rw [if_neg he]
    rw [this,if_neg he]
   rw [hE] at c29
   have hk0:=Zf c7 (Zf c8 (Zf c28 (Zf c10 (Zf c29 (Zf c30 Ze)))))
   clear c7 c8 c28 c10 c29 c30 c31 t31 ea hE
   generalize h.err=E at *
   obtain ⟨fx,fy,fz,tx,ty,tz,an⟩:=a
   refine pn hk0 Tryz.func6 ?_
   repeat'(first|refine wk3 ?_|(refine wk2 ?_ ?_<;>intro _)|fail)
   all_goals first|exact Za rfl|(exfalso; omega)|(exfalso; exact he (by assumption))|(exfalso; clear hk0; simp_all; done)
open Go Go.Sx
theorem Yh5 {m:Nat} {x:List AV} (hw:WT TT (m+10+1) 28 x):∃ h:Hal,x=h.cells:=by
 have h0:=(Uz (T:=TT) (t:=28) rfl rfl hw).1
 have h0:x.length=9:=h0
 match x,h0 with
 | [x0,x1,x2,x3,x4,x5,x6,x7,x8],_ =>
  obtain ⟨s,hs,hs2⟩:=wStr (Zv (T:=TT) (t:=28) rfl rfl hw 0 rfl rfl)
  obtain ⟨n,hn⟩:=wInt (Zv (T:=TT) (t:=28) rfl rfl hw 1 rfl rfl)
  obtain ⟨t,ht,ht2⟩:=wStr (Zv (T:=TT) (t:=28) rfl rfl hw 2 rfl rfl)
  obtain ⟨u,hu,hu2⟩:=wStr (Zv (T:=TT) (t:=28) rfl rfl hw 3 rfl rfl)
  obtain ⟨e4,h4,_,g4⟩:=Zd7 (T:=TT) (t:=22) rfl rfl rfl (Zv (T:=TT) (t:=28) rfl rfl hw 4 rfl rfl)
  obtain ⟨e5,h5,_,g5⟩:=Zd7 (T:=TT) (t:=23) rfl rfl rfl (Zv (T:=TT) (t:=28) rfl rfl hw 5 rfl rfl)
  obtain ⟨e6,h6,_,g6⟩:=Zd7 (T:=TT) (t:=24) rfl rfl rfl (Zv (T:=TT) (t:=28) rfl rfl hw 6 rfl rfl)
  obtain ⟨e7,h7,_,g7⟩:=Zd7 (T:=TT) (t:=25) rfl rfl rfl (Zv (T:=TT) (t:=28) rfl rfl hw 7 rfl rfl)
  obtain ⟨e8,h8,_,g8⟩:=Zd7 (T:=TT) (t:=26) rfl rfl rfl (Zv (T:=TT) (t:=28) rfl rfl hw 8 rfl rfl)
  obtain ⟨l4,k4,_⟩:=Ztk (f:=Mat.av) (fun x hx=>wMat hx) e4 g4
  obtain ⟨l5,k5,_⟩:=Ztk (f:=pt) (P:=fun _=>True) (fun x hx=>(wP2 hx).imp fun p hp=>⟨hp,trivial⟩) e5 g5
  obtain ⟨l6,k6,_⟩:=Ztk (f:=Wal.av) (fun x hx=>wWal hx) e6 g6
  obtain ⟨l7,k7,_⟩:=Ztk (f:=Nl) (fun x hx=>wCan hx) e7 g7
  obtain ⟨l8,k8,_⟩:=Ztk (f:=Sea.av) (fun x hx=>wSea hx) e8 g8
  have hs:[x0]=[.str s]:=hs
  have hn:[x1]=[I n]:=hn
  have ht:[x2]=[.str t]:=ht
  have hu:[x3]=[.str u]:=hu
  have h4:[x4]=[.isl 6 e4]:=h4
  have h5:[x5]=[.isl 2 e5]:=h5
  have h6:[x6]=[.isl 3 e6]:=h6
  have h7:[x7]=[.isl 7 e7]:=h7
  have h8:[x8]=[.isl 4 e8]:=h8
  cases hs; cases hn; cases ht; cases hu; cases h4; cases h5; cases h6; cases h7; cases h8
  exact ⟨⟨s,n,t,u,l4,l5,l6,l7,l8⟩,by rw [k4,k5,k6,k7,k8]⟩
theorem Yg6 {a:AV} (h:WTA TT 28 a):∃ h:Hal,a=h.av:=by
 obtain ⟨x,m,rfl,hw⟩:=Zu1 (T:=TT) (t:=28) h rfl rfl 11
 obtain ⟨hl,rfl⟩:=Yh5 hw
 exact ⟨hl,rfl⟩
end Go.Proofs.YtanbhfpalahjcaaGreat
