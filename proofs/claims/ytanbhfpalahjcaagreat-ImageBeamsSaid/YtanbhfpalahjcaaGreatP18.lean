/- A part of the proof: lemmas. -/
import Derived.Test.YtanbhfpalahjcaaGreatP17
import Derived.Test.YtanbhfpalahjcaaGreatP16
import Derived.Test.YtanbhfpalahjcaaGreatP11
import Derived.Test.YtanbhfpalahjcaaGreatP14
import Derived.Test.YtanbhfpalahjcaaGreatP13
set_option linter.unusedVariables false
set_option linter.unusedSimpArgs false
set_option maxRecDepth 100000
set_option maxHeartbeats 16000000
open Go.IntKind renaming i64->Qb,wrap->Qa
open Int renaming toNat_natCast->Re
open List renaming drop->Wy,drop_zero->Wd,getElem?_eq_getElem->Qd,getElem_mem->Qn,length_map->Qj,length_set->Fe,map_cons->Sf,take->Wx
open List.cons renaming injEq->Rf
open Nat renaming zero_add->Sb
open Option.some renaming inj->Sh
namespace Go.Proofs.YtanbhfpalahjcaaGreat
open Go Go.Sx Go.Ge
noncomputable abbrev rMo:List AV->Option PRes:=famA (fun q:Int × Int=>0<q.2/\q.2<1000000) (fun q=>[I q.1,I q.2]) (fun q=>⟨I (q.1%q.2),[]⟩)
theorem Zvu {a b:Int} (h0:0<b) (h1:b<1000000):rMo [I a,I b]=some ⟨I (a%b),[]⟩ :=
 Zq (p:=fun q:Int × Int=>0<q.2/\q.2<1000000) (g:=fun q=>[I q.1,I q.2]) (r:=fun q=>⟨I (q.1%q.2),[]⟩) (k:=(a,b)) (fun j hj=>by
  simp only [Rf,AV.int.injEq,true_and,and_true] at hj
  rw [show j=(a,b) from Prod.ext hj.1 hj.2]) ⟨h0,h1⟩
theorem Yfd {pt:PC} (h:PCOK Tryz.prog pt):PCOK Tryz.prog (ins 18 rMo pt):=Zx (fun q hq=>e18 hq.1 hq.2) h
def Bm.nxt (m:Bm) (v:Int):Bm:=⟨m.ws,m.o,m.a,m.b,v⟩
def okM (M:List Bm):Prop:=M.length<100000/\∀ m∈M,m.ws.length<1000
noncomputable abbrev rCk (h:Hal) (o:V) (n:Nat):List AV->Option PRes:=famA okM (fun M=>[h.av,P2 o.1 o.2,I n,.isl 8 (M.map bmI)]) (fun M=>⟨.tup [I (if bmsE (outB h.cs o n) M=true then (M.length:Int) else 0),I (if bmsE (outB h.cs o n) M=true then 0 else 20)],[]⟩)
theorem Zj5:∀ {a b:List Bm},a.map bmI=b.map bmI->a=b
 | [],[],_=>rfl
 | x::a,y::b,h=>by
  rw [Sf,Sf,Rf] at h
  rw [Zyo h.1,Zj5 h.2]
theorem Zvy {h:Hal} {o:V} {n:Nat} {M:List Bm} (hM:okM M):rCk h o n [h.av,P2 o.1 o.2,I n,.isl 8 (M.map bmI)]=some ⟨.tup [I (if bmsE (outB h.cs o n) M=true then (M.length:Int) else 0),I (if bmsE (outB h.cs o n) M=true then 0 else 20)],[]⟩ :=
 Zq (p:=okM) (g:=fun M=>[h.av,P2 o.1 o.2,I n,.isl 8 (M.map bmI)]) (r:=fun M=>⟨.tup [I (if bmsE (outB h.cs o n) M=true then (M.length:Int) else 0),I (if bmsE (outB h.cs o n) M=true then 0 else 20)],[]⟩) (k:=M) (fun j hj=>by
  simp only [Rf,AV.isl.injEq,true_and,and_true] at hj
  rw [Zj5 hj]) hM
theorem f5x {h:Hal} (hk:h.ok) (hfw:few2 h=true) (x y a b:Int) (hx:opnE h x y a≠0):PCall Tryz.prog 5 [h.av,P2 x y,P2 a b] ⟨Bo true,[]⟩:=by
 have c7:=Zmu
 have c8:=p80 h
 rw [hfw] at c8
 have c10:=c22f hk.f
 have c11:=e11 hk x y
 have c13:=d68 a
 have c17:=e17x hk hx
 have c25:=e25 (L:=[]) (by simp) (by simp)
 have c24:=e24x hk hx []
 have hE:opnE h x y a=if plnE h x y≠0 then plnE h x y else unl (within a 0 4) 2:=rfl
 generalize opnE h x y a=E at *
 generalize plnE h x y=P at *
 generalize unl (within a 0 4) 2=U at *
 have hkk:=Zf c7 (Zf c8 (Zf c10 (Zf c11 (Zf c13 (Zf c17 (Zf c25 (Zf c24 Ze)))))))
 clear c7 c8 c10 c11 c13 c17 c25 c24
 by_cases hp:P=0
 ·rw [if_neg (fun q=>q hp)] at hE
  subst hE
  subst hp
  refine pn hkk Tryz.func5 ?_
  repeat'(first|refine wk3 ?_|(refine wk2 ?_ ?_<;>intro _)|fail)
  all_goals first|exact Za rfl|(exfalso; clear hkk; simp_all; done)
 ·rw [if_pos hp] at hE
  subst hE
  refine pn hkk Tryz.func5 ?_
  repeat'(first|refine wk3 ?_|(refine wk2 ?_ ?_<;>intro _)|fail)
  all_goals first|exact Za rfl|(exfalso; clear hkk; simp_all; done)
theorem f5a {h:Hal} (hk:h.ok) (hfw:few2 h=true) (x y b:Int) {n:Nat} (hn:n<=2) (hx:opnE h x y n=0) (hb:i64 b):PCall Tryz.prog 5 [h.av,P2 x y,P2 (n:Int) b] ⟨Bo true,[]⟩:=by
 have c7:=Zmu
 have c8:=p80 h
 rw [hfw] at c8
 have c10:=c22f hk.f
 have c11:=e11 hk x y
 have c13:=d68 n
 have hw:within (n:Int) 0 4=true:=within_iff.2 (by omega)
 rw [hw] at c13
 have q4:plnE h x y=0:=by
  unfold opnE at hx
  split at hx
  ·rename_i q; exact absurd hx q
  ·rename_i q; exact Decidable.not_not.1 q
 rw [q4] at c11
 have he:h.err=0:=by
  unfold plnE at q4
  split at q4
  ·assumption
  ·omega
 have hp:plaE h x y 1=0:=by unfold plnE at q4; rw [if_pos he] at q4; exact q4
 have g:=Zqe hk he
 have k0:InSrc h (x,y):=by
  obtain ⟨⟨p1,p2,_⟩,p3⟩:=Zvz hp
  refine ⟨p1,p2,?_⟩
  rw [Ui g.st 1 (x:=x) (y:=y) (d:=1) ⟨by omega,by omega,by omega,by omega⟩]
  unfold Zbs at p3
  simp only [Bool.and_eq_true] at p3
  exact p3.2
 have hS:SortsK Tryz.prog 215 2:=Tryz.sorts215
 have c17:=e17 hk he g hS k0 hp hn
 have c26:=e26 hk.f g k0 hn
 have BL:=bmL g k0 hn
 have hnw:=g.le.2.2.1
 have hl12:h.cs.length<=12:=by have:=g.le; omega
 have hl3:3<=h.cs.length:=by have:=g.le.2.1; omega
 have hmem:=fun m (hm:m∈outB h.cs (x,y) n)=>Zdo g k0 n (by omega) m hm
 have hok:okM (outB h.cs (x,y) n):=⟨by have:=BL.len; omega,fun m hm=>by have:=(hmem m hm).2; omega⟩
 have c27:=e27 (L:=outB h.cs (x,y) n) hok.1 hok.2
 have c25:=e25 (L:=outB h.cs (x,y) n) hok.1 hok.2
 have k24:∀ pt,PCOK Tryz.prog pt->PCOK Tryz.prog (ins 24 (rCk h (x,y) n) pt):=fun pt hpt=>Zx (fun M hM=>e24 hk he g hS k0 hp hn hM.1 hM.2) hpt
 have h24:=Zvy (h:=h) (o:=(x,y)) (n:=n) hok
 rw [show bmsE (outB h.cs (x,y) n) (outB h.cs (x,y) n)=true from bmsE_iff.2 rfl,if_pos rfl,if_pos rfl] at h24
 have h24b:=fun M (hM:okM M)=>Zvy (h:=h) (o:=(x,y)) (n:=n) hM
 have L0:0<(outB h.cs (x,y) n).length:=by have:=BL.c3; have:=BL.cL; omega
 generalize hLL:outB h.cs (x,y) n=L at *
 have hL2:=BL.len
 obtain ⟨r,hr⟩:∃ r:Nat,b%(L.length:Int)=(r:Int):=⟨(b%(L.length:Int)).toNat,by have:=Int.emod_nonneg b (show (L.length:Int)≠0 by omega); omega⟩
 have hrl:r<L.length:=by have:=Int.emod_lt_of_pos b (show 0<(L.length:Int) by omega); omega
 have t18:=Zvu (a:=b) (b:=(L.length:Int)) (by omega) (by omega)
 rw [hr] at t18
 have hg0:=(hmem L[r] (Qn hrl)).1
 obtain ⟨w0,enx,K⟩:=hg0.sec
 have hw0:=K.wlt
 obtain ⟨v,hv⟩:∃ v:Int,v=(L[r].nx+1)%(h.ws.length:Int):=⟨_,rfl⟩
 have hvn:v≠L[r].nx:=by
  rw [hv,enx]
  intro q
  rcases Nat.lt_or_ge (w0+1) h.ws.length with c|c
  ·rw [Int.emod_eq_of_lt (by omega) (by omega)] at q; omega
  ·rw [show (w0:Int)+1=(h.ws.length:Int) by omega,Int.emod_self] at q; omega
 have t18b:=Zvu (a:=Qa Qb (L[r].nx+1)) (b:=(h.ws.length:Int)) (by omega) (by omega)
 rw [show IntKind.i64.wrap (L[r].nx+1)=L[r].nx+1 from W_eq (by omega) (by omega),<-hv] at t18b
 have eW:L[r].nx+1=Qa Qb (L[r].nx+1):=(W_eq (by omega) (by omega)).symm
 have hokM:okM (L.set r (L[r].nxt v)):=⟨by rw [Fe]; exact hok.1,fun m hm=>by
  rcases List.mem_or_eq_of_mem_set hm with q|q
  ·exact hok.2 m q
  ·rw [q]; exact hok.2 L[r] (Qn hrl)⟩
 have h24c:=h24b _ hokM
 have hne:bmsE L (L.set r (L[r].nxt v))=false:=by
  rw [Bool.eq_false_iff,ne_eq,bmsE_iff]
  intro q
  have e1:(L.set r (L[r].nxt v))[r]?=some (L[r].nxt v):=by rw [List.getElem?_set_self hrl]
  rw [<-q,Qd hrl] at e1
  have:=congrArg Bm.nx (Sh e1)
  exact hvn this.symm
 rw [hne,if_neg (by decide),if_neg (by decide)] at h24c
 have e0:(L.map bmI)[0+((r:Nat):Int).toNat]?=some (bmI L[r]):=by
  rw [Sb,Re,List.getElem?_map,Qd hrl]
  rfl
 have eS:Zck (L.map bmI) (0+((r:Nat):Int).toNat) (bmI (L[r].nxt v))=(L.set r (L[r].nxt v)).map bmI:=by
  rw [Ua,Sb,Re,List.map_set]
 have lI:(L.map bmI).length=L.length:=Qj _
 have lA:(L.map bmA).length=L.length:=Qj _
 have lW:(h.ws.map Wal.av).length=h.ws.length:=Qj _
 rw [<-eS] at h24c
 have raw1:Wx (L.map bmI).length (Wy 0 (L.map bmI))=L.map bmI:=by rw [Wd,List.take_length]
 rw [<-raw1] at h24
 have hkk:PCOK Tryz.prog (ins 7 (one [] ⟨Bo true,[]⟩) (ins 8 (one [h.av] ⟨Bo true,[]⟩) (ins 10 (one [h.av] ⟨h.av,[]⟩) (ins 11 (one [h.av,P2 x y] ⟨I 0,[]⟩) (ins 13 (one [I n] ⟨I (unl true 2),[]⟩) (ins 17 (one [h.av,P2 x y,I n] ⟨.tup [.isl 8 (L.map bmA),I 0],[]⟩) (ins 26 (one [h.av,P2 x y,I n] ⟨.isl 8 (L.map bmA),[]⟩)
   (ins 27 (one [.isl 8 (L.map bmA),.isl 8 (L.map bmA)] ⟨Bo true,[]⟩) (ins 25 (one [.isl 8 (L.map bmA)] ⟨.asl 0 0 (L.map bmI).length,[(8,L.map bmI)]⟩) (ins 24 (rCk h (x,y) n) (ins 18 rMo pt0))))))))))) :=
  Zf c7 (Zf c8 (Zf c10 (Zf c11 (Zf c13 (Zf c17 (Zf c26 (Zf c27 (Zf c25 (k24 _ (Yfd Ze))))))))))
 have h17:=Ue [h.av,P2 x y,I n] ⟨.tup [.isl 8 (L.map bmA),I 0],[]⟩
 have h26:=Ue [h.av,P2 x y,I n] ⟨.isl 8 (L.map bmA),[]⟩
 have h27:=Ue [.isl 8 (L.map bmA),.isl 8 (L.map bmA)] ⟨Bo true,[]⟩
 have h25:=Ue [.isl 8 (L.map bmA)] ⟨.asl 0 0 (L.map bmI).length,[(8,L.map bmI)]⟩
 rw [<-lI] at t18 h24
 rw [<-lW,eW] at t18b
 have hz:(L.set r (L[r].nxt v)).length=L.length:=Fe
 generalize one [h.av,P2 x y,I n] ⟨.tup [.isl 8 (L.map bmA),I 0],[]⟩=T17 at *
 generalize one [h.av,P2 x y,I n] ⟨.isl 8 (L.map bmA),[]⟩=T26 at *
 generalize one [.isl 8 (L.map bmA),.isl 8 (L.map bmA)] ⟨Bo true,[]⟩=T27 at *
 generalize one [.isl 8 (L.map bmA)] ⟨.asl 0 0 (L.map bmI).length,[(8,L.map bmI)]⟩=T25 at *
 generalize rCk h (x,y) n=T24 at *
 have hrI:r<(L.map bmI).length:=by omega
 have eL:(L.map bmI).length=(L.map bmA).length:=by omega
 have hraw2:Wx (L.map bmI).length (Wy 0 (Zck (L.map bmI) (0+((r:Nat):Int).toNat) (bmI (L[r].nxt v))))=Zck (L.map bmI) (0+((r:Nat):Int).toNat) (bmI (L[r].nxt v)):=by
  rw [Wd,List.take_of_length_le (by rw [Ua,Fe]; exact Nat.le_refl _)]
 rw [<-hraw2] at h24c
 clear c7 c8 c10 c11 c13 c17 c26 c27 c25 k24 h24b hmem BL hok hokM hg0 K hne eS hLL raw1 hraw2
 have eI:bmI L[r]=[.isl 1 (nl L[r].ws),I L[r].o.1,I L[r].o.2,I L[r].a.1,I L[r].a.2,I L[r].b.1,I L[r].b.2,I L[r].nx]:=rfl
 have eI2:bmI (L[r].nxt v)=[.isl 1 (nl L[r].ws),I L[r].o.1,I L[r].o.2,I L[r].a.1,I L[r].a.2,I L[r].b.1,I L[r].b.2,I v]:=rfl
 rw [eI] at e0
 rw [eI2] at h24c
 dsimp only at h24 h24c t18b
 generalize L[r]=m at *
 generalize nl m.ws=N at *
 generalize hEI:L.map bmI=EI at *
 generalize hEA:L.map bmA=EA at *
 clear eI eI2 hEI hEA
 refine pn hkk Tryz.func5 ?_
 repeat'(first|refine wk3 ?_|(refine wk2 ?_ ?_<;>intro _)|fail)
 all_goals exact Za rfl
theorem f5 (h:Hal) (x y a b:Int) (hb:i64 b):PCall Tryz.prog 5 [h.av,P2 x y,P2 a b] ⟨Bo true,[]⟩:=by
 have c8:=p80 h
 have c7:=Zmu
 cases hfw:few2 h with
 | false =>
  rw [hfw] at c8
  have hk0:=Zf c7 (Zf c8 Ze)
  refine pn hk0 Tryz.func5 ?_
  repeat'(first|refine wk3 ?_|(refine wk2 ?_ ?_<;>intro _)|fail)
  all_goals first|exact Za rfl|(exfalso; simp_all; done)
 | true =>
  have hk:=Yef hfw
  by_cases hx:opnE h x y a=0
  ·by_cases ha:a<=2
   ·have hw:0<=a:=by
     unfold opnE at hx
     split at hx
     ·rename_i q; exact absurd hx q
     ·cases hw:within a 0 4
      ·rw [hw] at hx; cases hx
      ·exact (within_iff.1 hw).1
    obtain ⟨n,rfl⟩:∃ n:Nat,a=(n:Int):=⟨a.toNat,by omega⟩
    exact f5a hk hfw x y b (by omega) hx hb
   ·have hw:a<=4:=by
     unfold opnE at hx
     split at hx
     ·rename_i q; exact absurd hx q
     ·cases hw:within a 0 4
      ·rw [hw] at hx; cases hx
      ·exact (within_iff.1 hw).2
    rw [hfw] at c8
    have hk0:=Zf c7 (Zf c8 Ze)
    have d1:decide (2<a)=true:=decide_eq_true (by omega)
    have d2:decide (a<=4)=true:=decide_eq_true hw
    clear hx
    refine pn hk0 Tryz.func5 ?_
    repeat'(first|refine wk3 ?_|(refine wk2 ?_ ?_<;>intro _)|fail)
    all_goals first|exact Za rfl|(exfalso; omega)|(exfalso; clear hk0 c7 c8; simp_all; done)
  ·exact f5x hk hfw x y a b hx
open Go Go.Sx
theorem Yho {m:Nat} {x:List AV} (hw:WT TT (m+10+1) 28 x):∃ h:Hal,x=h.cells:=by
 have h0:=(Zaw (T:=TT) (t:=28) rfl rfl hw).1
 have h0:x.length=9:=h0
 match x,h0 with
 | [x0,x1,x2,x3,x4,x5,x6,x7,x8],_ =>
  obtain ⟨s,hs,hs2⟩:=wStr (Yf (T:=TT) (t:=28) rfl rfl hw 0 rfl rfl)
  obtain ⟨n,hn⟩:=wInt (Yf (T:=TT) (t:=28) rfl rfl hw 1 rfl rfl)
  obtain ⟨t,ht,ht2⟩:=wStr (Yf (T:=TT) (t:=28) rfl rfl hw 2 rfl rfl)
  obtain ⟨u,hu,hu2⟩:=wStr (Yf (T:=TT) (t:=28) rfl rfl hw 3 rfl rfl)
  obtain ⟨e4,h4,_,g4⟩:=Zd5 (T:=TT) (t:=22) rfl rfl rfl (Yf (T:=TT) (t:=28) rfl rfl hw 4 rfl rfl)
  obtain ⟨e5,h5,_,g5⟩:=Zd5 (T:=TT) (t:=23) rfl rfl rfl (Yf (T:=TT) (t:=28) rfl rfl hw 5 rfl rfl)
  obtain ⟨e6,h6,_,g6⟩:=Zd5 (T:=TT) (t:=24) rfl rfl rfl (Yf (T:=TT) (t:=28) rfl rfl hw 6 rfl rfl)
  obtain ⟨e7,h7,_,g7⟩:=Zd5 (T:=TT) (t:=25) rfl rfl rfl (Yf (T:=TT) (t:=28) rfl rfl hw 7 rfl rfl)
  obtain ⟨e8,h8,_,g8⟩:=Zd5 (T:=TT) (t:=26) rfl rfl rfl (Yf (T:=TT) (t:=28) rfl rfl hw 8 rfl rfl)
  obtain ⟨l4,k4,_⟩:=Ztb (f:=Mat.av) (fun x hx=>wMat hx) e4 g4
  obtain ⟨l5,k5,_⟩:=Ztb (f:=pt) (P:=fun _=>True) (fun x hx=>(wP2 hx).imp fun p hp=>⟨hp,trivial⟩) e5 g5
  obtain ⟨l6,k6,_⟩:=Ztb (f:=Wal.av) (fun x hx=>wWal hx) e6 g6
  obtain ⟨l7,k7,_⟩:=Ztb (f:=Can.av) (fun x hx=>wCan hx) e7 g7
  obtain ⟨l8,k8,_⟩:=Ztb (f:=Sea.av) (fun x hx=>wSea hx) e8 g8
  have hs:[x0]=[.str s]:=hs
  have hn:[x1]=[I n]:=hn
  have ht:[x2]=[.str t]:=ht
  have hu:[x3]=[.str u]:=hu
  have h4:[x4]=[.isl 6 e4]:=h4
  have h5:[x5]=[.isl 2 e5]:=h5
  have h6:[x6]=[.isl 3 e6]:=h6
  have h7:[x7]=[.isl 7 e7]:=h7
  have h8:[x8]=[.isl 4 e8]:=h8
  cases hs; cases hn; cases ht; cases hu; cases h4; cases h5; cases h6; cases h7; cases h8
  exact ⟨⟨s,n,t,u,l4,l5,l6,l7,l8⟩,by rw [k4,k5,k6,k7,k8]⟩
theorem Yew {d:Nat} {x:List AV} (h:WT TT (d+1) 3 x):∃ n,x=[I n]/\i64 n:=by
 obtain ⟨n,h1,h2⟩:=Zut (T:=TT) (t:=3) rfl rfl h
 exact ⟨n,h1,Yev h2⟩
theorem Ygp {a:AV} (h:WTA TT 28 a):∃ h:Hal,a=h.av:=by
 obtain ⟨x,m,rfl,hw⟩:=Zur (T:=TT) (t:=28) h rfl rfl 11
 obtain ⟨hl,rfl⟩:=Yho hw
 exact ⟨hl,rfl⟩
theorem Yg3 {a:AV} (h:WTA TT 30 a):∃ x y:Int,a=P2 x y:=by
 obtain ⟨x,m,rfl,hw⟩:=Zur (T:=TT) (t:=30) h rfl rfl 4
 obtain ⟨p,rfl⟩:=wP2 hw
 exact ⟨p.1,p.2,rfl⟩
end Go.Proofs.YtanbhfpalahjcaaGreat
