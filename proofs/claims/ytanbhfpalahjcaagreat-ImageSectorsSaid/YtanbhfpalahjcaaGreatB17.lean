/- A part of the proof: lemmas. -/
import Derived.Test.YtanbhfpalahjcaaGreatB16
import Derived.Test.YtanbhfpalahjcaaGreatB9
import Derived.Test.YtanbhfpalahjcaaGreatB8
import Derived.Test.YtanbhfpalahjcaaGreatB11
import Derived.Test.YtanbhfpalahjcaaGreatB14
import Derived.Test.YtanbhfpalahjcaaGreatB13
import Derived.Shelf.SlSortCmp.NoneTotal
set_option linter.unusedVariables false
set_option linter.unusedSimpArgs false
set_option maxRecDepth 100000
set_option maxHeartbeats 16000000
open Bool renaming noConfusion->Wz
open Go.Ge renaming cr->Rq
open Go.IntKind renaming i64->Qb,wrap->Qa
open Go.Proofs.YtanbhfpalahjcaaGreat.Wal renaming av->Wq
open Go.Sx.Done renaming mk->Qu
open Int renaming natAbs_tdiv_le_natAbs->Mx,toNat_natCast->Rz
open List renaming getElem?_eq_getElem->Qe,getElem?_map->Ru,length_append->Ro,length_map->Qn,length_singleton->Nh
open Nat renaming le_of_ble_eq_true->Qk,zero_le->Qq
open Prod renaming ext->Wh
namespace Go.Proofs.YtanbhfpalahjcaaGreat
open Go Go.Sx Go.Ge
theorem Yes {c d z t:Int} (hc:1<=c/\c<=5) (hd:1<=d/\d<=5) (hz : -50000<=z/\z<=50000) (ht : -50000<=t/\t<=50000):Qa Qb (Qa Qb (c*z)+Qa Qb (d*t))=c*z+d*t:=by
 have key:∀ k z:Int,(1<=k/\k<=5)->(-50000<=z/\z<=50000) -> -250000<=k*z/\k*z<=250000:=fun k z hk hz=>by
  obtain rfl|rfl|rfl|rfl|rfl:k=1\/k=2\/k=3\/k=4\/k=5:=by omega
  all_goals omega
 have a1:=key c z hc hz
 have a2:=key d t hd ht
 have e1:Qa Qb (c*z)=c*z:=W_eq (by omega) (by omega)
 have e2:Qa Qb (d*t)=d*t:=W_eq (by omega) (by omega)
 rw [e1,e2]
 exact W_eq (by omega) (by omega)
theorem Zo5 {h:Hal} (g:h.fine) {o:V} (k0:InSrc h o) {n:Nat} (hn:n<=2) {m:Bm} (hm:m∈outB h.cs o n) {p q:Int} (hp:1<=p/\p<=5) (hq:1<=q/\q<=5) :
  ∃ (u e:V) (G:Int),upV h.cs m.ws (mixD m p q)=u/\InB 500000 (mixD m p q)/\InB 500000 u/\gcW u.1 u.2=G/\0<G/\Qa Qb (u.1.tdiv G)=e.1/\Qa Qb (u.2.tdiv G)=e.2/\InB 500000 e/\g1 e/\folL h.cs (m.ws.length+1) (ryV o e) (0,1) (-1)=some (m.ws++[m.nx]) /\
   0<Rq m.a (dnV h.cs m.ws e)/\0<Rq (dnV h.cs m.ws e) m.b/\InB 500000 (dnV h.cs m.ws e)/\g1 (dnV h.cs m.ws e):=by
 obtain ⟨G0,hlen⟩:=Zfj g k0 n (by omega) m hm
 have hw:inW h.cs m.ws:=G0.ws
 have key:∀ k z B:Int,(1<=k/\k<=5)->(-50000<=z/\z<=50000) -> -250000<=k*z/\k*z<=250000:=fun k z B hk hz=>by
  obtain rfl|rfl|rfl|rfl|rfl:k=1\/k=2\/k=3\/k=4\/k=5:=by omega
  all_goals omega
 have hD:InB 500000 (mixD m p q):=by
  have a1:=key p m.a.1 0 hp G0.ba.1
  have a2:=key p m.a.2 0 hp G0.ba.2
  have b1:=key q m.b.1 0 hq G0.bb.1
  have b2:=key q m.b.2 0 hq G0.bb.2
  unfold mixD
  dsimp only [InB]
  omega
 have hu:=Zzq g m.ws hw _ hD
 obtain ⟨w,_,K⟩:=G0.sec
 have hab:=K.ab
 have hD0:mixD m p q≠(0,0):=by
  intro z
  have d1:0<Rq m.a (mixD m p q):=by
   rw [Zlm,Xd,Zj]
   have:=Int.mul_pos (show 0<q by omega) hab
   omega
  rw [z] at d1
  unfold Rq at d1
  simp at d1
 have hu0:upV h.cs m.ws (mixD m p q)≠(0,0):=by
  intro z
  have e1:=Yde g m.ws hw (mixD m p q)
  rw [z] at e1
  have e2:=Zp2 h.cs 0 m.ws (0,0)
  have e3:mulV 0 (0,0)=(0,0):=rfl
  rw [e3,e1] at e2
  refine hD0 ?_
  rw [e2]
  unfold mulV
  simp
 obtain ⟨G,g0,e1,e2,hg,eg⟩:=Xx hu0
 generalize hU:upV h.cs m.ws (mixD m p q)=u at *
 have hre:red u=(u.1.tdiv G,u.2.tdiv G):=by unfold red; rw [<-eg]
 have hGle:G<=500000:=by
  by_cases z:u.1=0
  ·have z2:u.2≠0:=fun q=>hu0 (Wh z q)
   have:=Int.gcd_le_natAbs_right u.1 z2
   omega
  ·have:=Int.gcd_le_natAbs_left u.2 z
   omega
 have hb:InB 500000 (red u):=by
  have t1:=Mx u.1 G
  have t2:=Mx u.2 G
  rw [hre]
  dsimp only [InB]
  omega
 have sl:=Zsu g k0 hn hm hp hq (e:=red u) (G:=G) (by omega) (by rw [hU]; exact Wh e1 e2)
 obtain ⟨_,s2,s3,s4⟩:=sl
 have hdn:=Zw4 g m.ws hw _ hb hg
 refine ⟨u,red u,G,rfl,hD,hu,?_,g0,?_,?_,hb,hg,s2,s3,s4,hdn.1,hdn.2⟩
 ·unfold gcW
  have:((Nat.gcd u.1.natAbs u.2.natAbs:Nat):Int)=G:=by rw [eg]; rfl
  rw [this]
  exact W_eq (by omega) (by omega)
 ·have h1:=hb.1
  rw [hre] at h1 ⊢
  exact W_eq (by dsimp only at h1; omega) (by dsimp only at h1; omega)
 ·have h1:=hb.2
  rw [hre] at h1 ⊢
  exact W_eq (by dsimp only at h1; omega) (by dsimp only at h1; omega)
end Go.Proofs.YtanbhfpalahjcaaGreat
namespace Go.Proofs
open Go.Shelf
def Tryz.laysS215_ren:Go.Shelf.Ren:=⟨fun|6=>215|15=>238|14=>237|28=>254|29=>255|20=>246|21=>247|22=>248|23=>249|24=>250|25=>251|26=>252|27=>253|46=>257|47=>258|48=>259|49=>260|50=>261|57=>263|n=>n,fun|22=>241|24=>112|25=>246|3=>3|39=>304|0=>0|53=>319|55=>321|4=>4|46=>312|45=>311|50=>316|5=>5|9=>9|66=>323|70=>327|76=>331|77=>248|n=>n,fun|n=>n⟩
theorem Tryz.laysS215:Go.Proofs.SlLaysF0.n6 Tryz.prog Tryz.laysS215_ren:={
 mixed:=by kernel_rfl
 f6:=⟨Tryz.f215.name,by decide,Tryz.func215.trans (congrArg some (by kernel_rfl))⟩
 f14:=⟨Tryz.f237.name,by decide,Tryz.func237.trans (congrArg some (by kernel_rfl))⟩
 f15:=Tryz.func238.trans (congrArg some (by kernel_rfl))
 f20:=⟨Tryz.f246.name,by decide,Tryz.func246.trans (congrArg some (by kernel_rfl))⟩
 f21:=⟨Tryz.f247.name,by decide,Tryz.func247.trans (congrArg some (by kernel_rfl))⟩
 f22:=⟨Tryz.f248.name,by decide,Tryz.func248.trans (congrArg some (by kernel_rfl))⟩
 f23:=⟨Tryz.f249.name,by decide,Tryz.func249.trans (congrArg some (by kernel_rfl))⟩
 f24:=⟨Tryz.f250.name,by decide,Tryz.func250.trans (congrArg some (by kernel_rfl))⟩
 f25:=⟨Tryz.f251.name,by decide,Tryz.func251.trans (congrArg some (by kernel_rfl))⟩
 f26:=⟨Tryz.f252.name,by decide,Tryz.func252.trans (congrArg some (by kernel_rfl))⟩
 f27:=⟨Tryz.f253.name,by decide,Tryz.func253.trans (congrArg some (by kernel_rfl))⟩
 f28:=Tryz.func254.trans (congrArg some (by kernel_rfl))
 f29:=Tryz.func255.trans (congrArg some (by kernel_rfl))
 f46:=⟨Tryz.f257.name,by decide,Tryz.func257.trans (congrArg some (by kernel_rfl))⟩
 f47:=Tryz.func258.trans (congrArg some (by kernel_rfl))
 f48:=Tryz.func259.trans (congrArg some (by kernel_rfl))
 f49:=⟨Tryz.f260.name,by decide,Tryz.func260.trans (congrArg some (by kernel_rfl))⟩
 f50:=⟨Tryz.f261.name,by decide,Tryz.func261.trans (congrArg some (by kernel_rfl))⟩
 f57:=⟨Tryz.f263.name,by decide,Tryz.func263.trans (congrArg some (by kernel_rfl))⟩
 t0:=Tryz.underlying0
 a0:=Tryz.isAgg0
 z0:=Tryz.sizeOf0
 v0:=Tryz.zeroValue0
 t3:=Tryz.underlying3
 a3:=Tryz.isAgg3
 z3:=Tryz.sizeOf3
 v3:=Tryz.zeroValue3
 t4:=Tryz.underlying4
 a4:=Tryz.isAgg4
 z4:=Tryz.sizeOf4
 v4:=Tryz.zeroValue4
 t5:=Tryz.underlying5
 a5:=Tryz.isAgg5
 z5:=Tryz.sizeOf5
 v5:=Tryz.zeroValue5
 t9:=Tryz.underlying9
 a9:=Tryz.isAgg9
 z9:=Tryz.sizeOf9
 v9:=Tryz.zeroValue9
 t22:=Tryz.underlying241
 a22:=Tryz.isAgg241
 z22:=Tryz.sizeOf241
 v22:=Tryz.zeroValue241
 t25:=Tryz.underlying246
 a25:=Tryz.isAgg246
 z25:=Tryz.sizeOf246
 v25:=Tryz.zeroValue246
 t39:=Tryz.underlying304
 a39:=Tryz.isAgg304
 z39:=Tryz.sizeOf304
 v39:=Tryz.zeroValue304
 t45:=Tryz.underlying311
 a45:=Tryz.isAgg311
 z45:=Tryz.sizeOf311
 v45:=Tryz.zeroValue311
 t46:=Tryz.underlying312
 a46:=Tryz.isAgg312
 z46:=Tryz.sizeOf312
 v46:=Tryz.zeroValue312
 t50:=Tryz.underlying316
 a50:=Tryz.isAgg316
 z50:=Tryz.sizeOf316
 v50:=Tryz.zeroValue316
 t53:=Tryz.underlying319
 a53:=Tryz.isAgg319
 z53:=Tryz.sizeOf319
 v53:=Tryz.zeroValue319
 t55:=Tryz.underlying321
 a55:=Tryz.isAgg321
 z55:=Tryz.sizeOf321
 v55:=Tryz.zeroValue321
 t66:=Tryz.underlying323
 a66:=Tryz.isAgg323
 z66:=Tryz.sizeOf323
 v66:=Tryz.zeroValue323
 t70:=Tryz.underlying327
 a70:=Tryz.isAgg327
 z70:=Tryz.sizeOf327
 v70:=Tryz.zeroValue327
 t76:=Tryz.underlying331
 a76:=Tryz.isAgg331
 z76:=Tryz.sizeOf331
 v76:=Tryz.zeroValue331
 t77:=Tryz.underlying248
 a77:=Tryz.isAgg248
 z77:=Tryz.sizeOf248
 v77:=Tryz.zeroValue248 }
theorem Tryz.sorts215:Go.Sx.SortsK Tryz.prog 215 2:={
 some:=fun m _ enc hk h1 cf hO g blk off cap d w eg hcmp hH hblk hsz=>AnyQ.slices_SortFunc Tryz.laysS215 2 Tryz.isAgg112 Tryz.sizeOf112 enc hk h1 cf hO g #[] blk off cap d w eg hcmp hH hblk hsz
 none:=fun p cap fv w=>AnyF.slices_SortFunc_none Tryz.laysS215 p cap fv w }
end Go.Proofs
namespace Go.Proofs.YtanbhfpalahjcaaGreat
open Go Go.Sx Go.Ge
def rWi:List AV->Option PRes
 | [.int .i64 n,.int .i64 lo,.int .i64 hi]=>some ⟨Bo (within n lo hi),[]⟩
 | _=>none
theorem Zz9 {pt:PC} (h:PCOK Tryz.prog pt):PCOK Tryz.prog (ins 16 rWi pt):=Zk (fun a res h=>by unfold rWi at h; split at h<;>cases h; exact c30 _ _ _) h
abbrev A4 (a b c d:Int):AV:=.agg [I a,I b,I c,I d]
theorem Zok (m:Bm):∃ Aw,bmA m=[Aw,I m.o.1,I m.o.2,I m.a.1,I m.a.2,I m.b.1,I m.b.2,I m.nx]/\wsA m.ws=Aw/\((Aw = .nils/\m.ws=[])\/(Aw = .isl 1 (nl m.ws)/\m.ws≠[])):=by
 refine ⟨_,rfl,rfl,?_⟩
 cases h:m.ws with
 | nil=>exact .inl ⟨rfl,rfl⟩
 | cons x r=>exact .inr ⟨rfl,by simp⟩
theorem f4a {h:Hal} (hk:h.ok) (hfw:few2 h=true) (x y a b c d:Int) (q1:within a 0 2=true) (q2:within c 1 5=true) (q3:within d 1 5=true) (q4:plnE h x y=0) (hb:i64 b):PCall Tryz.prog 4 [h.av,P2 x y,A4 a b c d] ⟨Bo true,[]⟩:=by
 have c7:=Zl9
 have c8:=p80 h
 rw [hfw] at c8
 have c10:=c22f hk.f
 have c11:=e11 hk x y
 rw [q4] at c11
 have he:h.err=0:=by
  unfold plnE at q4
  split at q4
  ·assumption
  ·omega
 have hp:plaE h x y 1=0:=by unfold plnE at q4; rw [if_pos he] at q4; exact q4
 have g:=Zi8 hk he
 have k0:InSrc h (x,y):=by
  obtain ⟨⟨p1,p2,_⟩,p3⟩:=Zip hp
  refine ⟨p1,p2,?_⟩
  rw [Vx g.st 1 (x:=x) (y:=y) (d:=1) ⟨by omega,by omega,by omega,by omega⟩]
  unfold Zbi at p3
  simp only [Bool.and_eq_true] at p3
  exact p3.2
 obtain ⟨n,rfl⟩:∃ n:Nat,a=(n:Int):=⟨a.toNat,by have:=within_iff.1 q1; omega⟩
 have hn:n<=2:=by have:=within_iff.1 q1; omega
 have q2':=within_iff.1 q2
 have q3':=within_iff.1 q3
 have hS:SortsK Tryz.prog 215 2:=Tryz.sorts215
 have c17:=e17 hk he g hS k0 hp hn
 have BL:=bmL g k0 hn
 have hnw:=g.le.2.2.1
 have hl12:h.cs.length<=12:=by have:=g.le; omega
 have hl3:3<=h.cs.length:=by have:=g.le.2.1; omega
 generalize (Zp h.cs (x,y)).length=cn at *
 have hmem:=fun m (hm:m∈outB h.cs (x,y) n)=>Zfj g k0 n (by omega) m hm
 generalize hLL:outB h.cs (x,y) n=L at *
 have hL0:0<L.length:=by have:=BL.c3; have:=BL.cL; omega
 have hL2:=BL.len
 obtain ⟨r,hr⟩:∃ r:Nat,b%(L.length:Int)=(r:Int):=⟨(b%(L.length:Int)).toNat,by have:=Int.emod_nonneg b (show (L.length:Int)≠0 by omega); omega⟩
 have hrl:r<L.length:=by have:=Int.emod_lt_of_pos b (show 0<(L.length:Int) by omega); omega
 have c18:=e18 (a:=b) (b:=(L.length:Int)) (by omega) (by omega)
 rw [hr] at c18
 have hm0:=BL.mem r hrl
 have hg0:=BL.good r hrl
 have er:(L.map bmA)[((r:Nat):Int).toNat]?=some (bmA L[r]):=by
  rw [Rz,Ru,Qe hrl]
  rfl
 generalize L[r]=m0 at *
 obtain ⟨u,e,G,vu,vD,vu2,vG,vG0,ve1,ve2,ve,veg,vf,vc1,vc2,vd,vdg⟩:=Zo5 g k0 hn hm0 q2' q3'
 have hw0:inW h.cs m0.ws:=hg0.1.ws
 have hwl:m0.ws.length<=n:=hg0.2
 have c20:=c120 (a:=u.1) (b:=u.2) (by unfold i64; omega) (by unfold i64; omega)
 rw [show IntKind.i64.wrap ((Nat.gcd u.1.natAbs u.2.natAbs:Nat):Int)=G from vG] at c20
 have c22:=e22 hk.f g hw0 (by omega) ve
 have c23:=e23 (ws:=m0.ws) (by omega)
 have hta:=Zt7 hg0.1.ga (show InB 100000 m0.a from by have:=hg0.1.ba; dsimp only [InB]; omega)
 have htb:=Zt7 hg0.1.gb (show InB 100000 m0.b from by have:=hg0.1.bb; dsimp only [InB]; omega)
 have t12a:=Zgq (v:=m0.a) (by have:=hg0.1.ba; unfold i64; omega) (by have:=hg0.1.ba; unfold i64; omega)
 have t12b:=Zgq (v:=m0.b) (by have:=hg0.1.bb; unfold i64; omega) (by have:=hg0.1.bb; unfold i64; omega)
 have t12e:=Zgq (v:=e) (by unfold i64; omega) (by unfold i64; omega)
 rw [hta] at t12a
 rw [htb] at t12b
 have hMm:=fun (w:Int) (v:V) (hw:0<=w/\w<h.cs.length) (hv:InB 500000 v)=>Zux (h:=h) hw hv
 have hv0:=Zj4 hg0.1.ba
 have hv1:=Zj4 hg0.1.bb
 obtain ⟨T21,k21,h21⟩:∃ T:List AV->Option PRes,(∀ pt,PCOK Tryz.prog pt->PCOK Tryz.prog (ins 21 T pt))/\(tnE e=0->T [P2 m0.a.1 m0.a.2,P2 m0.b.1 m0.b.2,P2 (dnV h.cs m0.ws e).1 (dnV h.cs m0.ws e).2]=some ⟨.tup [Bo true,I 0],[]⟩):=by
  by_cases hte:tnE e=0
  ·have hb5:InB 100000 e:=by have:=Zt8 hte; dsimp only [InB]; omega
   have hd5:=Zw4 g m0.ws hw0 _ hb5 veg
   have h3:=Zt7 hd5.2 hd5.1
   have c21:=e21 hv0 hv1 (x:=dnV h.cs m0.ws e) ⟨by unfold i64; omega,by unfold i64; omega⟩ hta htb h3
   have hbw:btW m0.a m0.b (dnV h.cs m0.ws e)=true:=by
    rw [Ybb hv0 hv1 ⟨by have:=hd5.1; omega,by have:=hd5.1; omega⟩ (by obtain ⟨w,_,K⟩:=hg0.1.sec; exact K.ab),decide_eq_true vc1,decide_eq_true vc2]
    rfl
   rw [hbw] at c21
   exact ⟨_,fun pt hpt=>Za c21 hpt,fun _=>Zdc _ _⟩
  ·exact ⟨fun _=>none,fun pt hpt=>Zk (fun a res h=>by cases h) hpt,fun q=>absurd q hte⟩
 obtain ⟨T9,k9,h9⟩:∃ T:List AV->Option PRes,(∀ pt,PCOK Tryz.prog pt->PCOK Tryz.prog (ins 9 T pt))/\(tnE e=0->T [h.av,P2 x y,P2 e.1 e.2,I ((m0.ws.length+1:Nat):Int)]=some ⟨.tup [.isl 1 (nl (m0.ws++[m0.nx])),I 0],[]⟩):=by
  by_cases hte:tnE e=0
  ·have c9:=e9 hk x y (t:=e) (by unfold i64; omega) (by unfold i64; omega) ((m0.ws.length+1:Nat):Int)
   have hfe:Zpq h x y e ((m0.ws.length+1:Nat):Int)=0:=by
    rw [Zro,q4,if_neg (by decide),hte,if_neg (by decide),within_iff.2 (by omega)]
    rfl
   have hfr:folR h x y e ((m0.ws.length+1:Nat):Int)=(0,m0.ws++[m0.nx]):=by
    unfold folR
    rw [if_pos hfe,Rz]
    have vf:folL h.cs (m0.ws.length+1) ⟨x,y,e.1,e.2⟩ (0,1) (-1)=some (m0.ws++[m0.nx]):=vf
    rw [vf]
   rw [hfr] at c9
   exact ⟨_,fun pt hpt=>Za c9 hpt,fun _=>Zdc _ _⟩
  ·exact ⟨fun _=>none,fun pt hpt=>Zk (fun a res h=>by cases h) hpt,fun q=>absurd q hte⟩
 have c15:=c69 (a:=m0.ws++[m0.nx]) (b:=m0.ws++[m0.nx]) (by rw [Ro,Nh]; omega) (by rw [Ro,Nh]; omega)
 rw [Zrw] at c15
 have hMk:=fun pt hpt=>Yaa (pt:=pt) hk.f g hpt
 generalize hTT:rTE=TE at *
 generalize hTM:rMm h=TM at *
 have k12:∀ pt,PCOK Tryz.prog pt->PCOK Tryz.prog (ins 12 TE pt):=fun pt hpt=>by
  rw [<-hTT]
  exact Yo (fun v hv=>d32 (t:=v) hv.1 hv.2) hpt
 have hlaw:∀ Aw RW:AV,wsA m0.ws=Aw->AV.isl 1 (nl (m0.ws++[m0.nx]))=RW->PCOK Tryz.prog (ins 7 (one [] ⟨Bo true,[]⟩) (ins 8 (one [h.av] ⟨Bo true,[]⟩) (ins 11 (one [h.av,P2 x y] ⟨I 0,[]⟩) (ins 10 (one [h.av] ⟨h.av,[]⟩) (ins 17 (one [h.av,P2 x y,I n] ⟨.tup [.isl 8 (L.map bmA),I 0],[]⟩) (ins 16 rWi
   (ins 18 (one [I b,I (L.map bmA).length] ⟨I r,[]⟩) (ins 12 TE (ins 19 TM (ins 20 (one [I u.1,I u.2] ⟨I G,[]⟩) (ins 22 (one [h.av,Aw,P2 e.1 e.2] ⟨P2 (dnV h.cs m0.ws e).1 (dnV h.cs m0.ws e).2,[]⟩) (ins 21 T21 (ins 9 T9 (ins 23 (one [Aw] (cpR m0.ws)) (ins 15 (one [.isl 1 (nl (m0.ws++[m0.nx])),RW] ⟨Bo true,[]⟩) pt0))))))))))))))):=fun Aw RW hA hR=>by
  subst hA hR
  rw [Qn]
  exact Za c7 (Za c8 (Za c11 (Za c10 (Za c17 (Zz9 (Za c18 (k12 _ (hMk _ (Za c20 (Za c22 (k21 _ (k9 _ (Za c23 (Za c15 Zd))))))))))))))
 have lL:(L.map bmA).length=L.length:=Qn _
 have d1:decide ((L.length:Int)<3)=false:=decide_eq_false (by have:=BL.c3; have:=BL.cL; omega)
 have d2:decide ((2000:Int)<L.length)=false:=decide_eq_false (by have:=BL.len; omega)
 generalize hEE:L.map bmA=E at *
 obtain ⟨Aw,eA,hAw,hA⟩:=Zok m0
 rw [eA] at er
 obtain ⟨RW,hRW⟩:∃ RW,AV.isl 1 (nl (m0.ws++[m0.nx]))=RW:=⟨_,rfl⟩
 have hkk:=hlaw Aw RW hAw hRW
 generalize hCR:cpR m0.ws=CR at hkk
 clear hlaw c7 c8 c10 c11 c17 c18 c20 c22 c23 c15 k21 k9 k12 hMk hTT hTM hAw
 rw [<-lL] at d1 d2
 refine pn hkk Tryz.func4 ?_
 repeat'(first|refine wk3 ?_|(refine wk2 ?_ ?_<;>intro _)|fail)
 all_goals first|exact Zf rfl|(exfalso; exact Wz (d1.symm.trans (by assumption)))|(exfalso; exact Wz (d2.symm.trans (by assumption)))|skip
 refine Zq (S:=Nat × Int × Int) (fun t=>L.length-t.1) (fun t=>[(3,.ptr 0 0 0),(4,.ptr 1 0 0),(5,.ptr 2 0 0),(7,.isl 8 E),(9,I t.2.2),(10,I t.2.1)])
  (fun _=>[(2,.row 4 [[I n,I b,I c,I d]] true false),(1,.row 2 [[I x,I y]] true false),(0,.row 9 [h.cells] true false)]) 30 30
  (fun t=>t.2.1=t.1/\t.1<=L.length/\t.2.2=((min t.1 cn:Nat):Int)) (0,0,0) ⟨rfl,Qq _,by rw [Nat.zero_min]; rfl⟩ (Qk rfl) [] rfl (kps) (kps) ?_
 rintro ⟨j,i,ct⟩ ⟨hi,hj,hct⟩
 dsimp only at hi hj hct ⊢
 subst hi
 by_cases hlt:j<L.length
 ·have hL1:=BL.low j hlt
  have hL2:=BL.high j hlt
  have hgd:=BL.good j hlt
  have e0:E[((j:Nat):Int).toNat]?=some (bmA L[j]):=by
   rw [<-hEE,Rz,Ru,Qe hlt]
   rfl
  have hj2:=BL.len
  generalize L[j]=m at *
  obtain ⟨Aw,eA,_,hA⟩:=Zok m
  rw [eA] at e0
  have hwn:within m.nx 0 (Qa Qb (((h.ws.map Wq).length:Int)-1))=true:=by
   obtain ⟨w,e,K⟩:=hgd.1.sec
   have:=K.wlt
   rw [Qn,W_eq (by omega) (by omega),e]
   exact within_iff.2 (by omega)
  have hlw:m.ws.length<=n:=hgd.2
  generalize m.nx=nx at *
  generalize m.o=o1 at *
  generalize m.a=o2 at *
  generalize m.b=o3 at *
  clear eA hgd
  rcases hA with ⟨rfl,ew⟩|⟨rfl,ew⟩
  ·have hjc:j<cn:=by
    rcases Nat.lt_or_ge j cn with q|q
    ·exact q
    ·exact absurd ew (hL2 q)
   have e9:Qa Qb (ct+1)=((min (j+1) cn:Nat):Int):=by rw [hct,W_eq (by omega) (by omega)]; omega
   have d5:decide ((n:Int)<0)=false:=decide_eq_false (by omega)
   refine bs.av (sx:=nos) hkk ?_
   repeat'(first|refine wk3 ?_|(refine wk2 ?_ ?_<;>intro _)|fail)
   all_goals first
    | (exfalso; exact Wz (d5.symm.trans (by assumption)))
    | (exfalso; rename_i q; rw [hwn] at q; exact Wz q)
    | exact Qu ⟨(j+1,Qa Qb ((j:Int)+1),Qa Qb (ct+1)),[],rfl,kps,kps,⟨Ze (by have:=BL.len; omega),hlt,e9⟩,by dsimp only; omega⟩
    | (exfalso; clear hkk; simp_all; done)
    | skip
  ·have hjc:¬ j<cn:=fun q=>ew (hL1 q)
   have e9:ct=((min (j+1) cn:Nat):Int):=by rw [hct]; omega
   have d5:decide ((n:Int)<((nl m.ws).length:Int))=false:=decide_eq_false (by rw [Yh]; omega)
   have d6:decide (((nl m.ws).length:Int)=0)=false:=decide_eq_false (by
    rw [Yh]
    have:m.ws.length≠0:=fun q=>ew (List.length_eq_zero_iff.1 q)
    omega)
   generalize nl m.ws=E1 at *
   refine bs.av (sx:=nos) hkk ?_
   repeat'(first|refine wk3 ?_|(refine wk2 ?_ ?_<;>intro _)|fail)
   all_goals first
    | (exfalso; exact Wz (d5.symm.trans (by assumption)))
    | (exfalso; exact Wz (d6.symm.trans (by assumption)))
    | (exfalso; rename_i q; rw [hwn] at q; exact Wz q)
    | exact Qu ⟨(j+1,Qa Qb ((j:Int)+1),ct),[],rfl,kps,kps,⟨Ze (by have:=BL.len; omega),hlt,e9⟩,by dsimp only; omega⟩
    | (exfalso; clear hkk; simp_all; done)
    | skip
 have hjn:j=L.length:=by omega
 have hct2:ct=(cn:Int):=by rw [hct]; have:=BL.cL; omega
 subst hjn
 clear hct
 subst hct2
 refine bs.av (sx:=nos) hkk ?_
 repeat'(first|refine wk3 ?_|(refine wk2 ?_ ?_<;>intro _)|fail)
 refine Zq (S:=Nat × Int) (fun t=>cn-t.1) (fun t=>[(3,.ptr 0 0 0),(4,.ptr 1 0 0),(5,.ptr 2 0 0),(7,.isl 8 E),(9,I cn),(11,I t.2)])
  (fun _=>[(2,.row 4 [[I n,I b,I c,I d]] true false),(1,.row 2 [[I x,I y]] true false),(0,.row 9 [h.cells] true false)]) 30 30
  (fun t=>t.2=t.1/\t.1<=cn) (0,0) ⟨rfl,Qq _⟩ (Qk rfl) [] rfl (kps) (kps) ?_
 rintro ⟨j,i⟩ ⟨hi,hj⟩
 dsimp only at hi hj ⊢
 subst hi
 have cL:=BL.cL
 have L2:=BL.len
 have c3:=BL.c3
 by_cases hlt:j<cn
 ·have hm2:(j+1)%cn<cn:=Nat.mod_lt _ (by omega)
  have hl1:j<L.length:=by omega
  have hl2:(j+1)%cn<L.length:=by omega
  have hrd:=BL.round j hlt hl1 hl2
  have w1:=BL.low j hl1 hlt
  have w2:=BL.low ((j+1)%cn) hl2 hm2
  have eW:Qa Qb ((j:Int)+1)=((j+1:Nat):Int):=Ze (by omega)
  have eM:Int.tmod ((j+1:Nat):Int) (cn:Int)=(((j+1)%cn:Nat):Int):=by
   rw [Int.tmod_eq_emod_of_nonneg (by omega)]; omega
  have e0:E[((j:Nat):Int).toNat]?=some (bmA L[j]):=by
   rw [<-hEE,Rz,Ru,Qe hl1]
   rfl
  have e1:E[((Qa Qb ((j:Int)+1)).tmod (cn:Int)).toNat]?=some (bmA L[(j+1)%cn]):=by
   rw [eW,eM,<-hEE,Rz,Ru,Qe hl2]
   rfl
  have z1:(!decide ((cn:Int)=0))=true:=by rw [decide_eq_false (by omega)]; rfl
  have z2:decide (0<=(Qa Qb ((j:Int)+1)).tmod (cn:Int))=true:=by rw [eW,eM]; exact decide_eq_true (by omega)
  have eV:Qa Qb ((Qa Qb ((j:Int)+1)).tmod (cn:Int))=(Qa Qb ((j:Int)+1)).tmod (cn:Int):=by rw [eW,eM]; exact W_eq (by omega) (by omega)
  generalize L[j]=m1 at *
  generalize L[(j+1)%cn]=m2 at *
  obtain ⟨ws1,o1,a1,b1,n1⟩:=m1
  obtain ⟨ws2,o2,a2,b2,n2⟩:=m2
  dsimp only at w1 w2 hrd
  subst w1 w2 hrd
  unfold bmA wsA at e0 e1
  dsimp only at e0 e1
  refine bs.av (sx:=nos) hkk ?_
  repeat'(first|refine wk3 ?_|(refine wk2 ?_ ?_<;>intro _)|fail)
  all_goals first
   | exact Qu ⟨(j+1,Qa Qb ((j:Int)+1)),[],rfl,kps,kps,⟨Ze (by omega),hlt⟩,by dsimp only; omega⟩
   | (exfalso; rename_i q; simp at q; done)
   | skip
 have hjn:j=cn:=by omega
 subst hjn
 refine bs.av (sx:=nos) hkk ?_
 have d7:(!decide ((E.length:Int)=0))=true:=by rw [decide_eq_false (by omega)]; rfl
 clear BL hmem
 generalize hws:m0.ws=ws0 at *
 generalize m0.nx=nx0 at *
 generalize hmx:mixD m0 c d=mx at *
 have hmx1:Qa Qb (Qa Qb (c*m0.a.1)+Qa Qb (d*m0.b.1))=mx.1:=by rw [<-hmx]; exact Yes q2' q3' hg0.1.ba.1 hg0.1.bb.1
 have hmx2:Qa Qb (Qa Qb (c*m0.a.2)+Qa Qb (d*m0.b.2))=mx.2:=by rw [<-hmx]; exact Yes q2' q3' hg0.1.ba.2 hg0.1.bb.2
 generalize m0.o=o0 at *
 generalize m0.a=a0 at *
 generalize m0.b=b0 at *
 generalize dnV h.cs ws0 e=dn at *
 obtain ⟨o1,o2⟩:=o0
 obtain ⟨a1,a2⟩:=a0
 obtain ⟨b1,b2⟩:=b0
 obtain ⟨u1,u2⟩:=u
 obtain ⟨e1,e2⟩:=e
 obtain ⟨dn1,dn2⟩:=dn
 dsimp only at hkk er t12a t12b t12e h21 h9 ve1 ve2 hmx1 hmx2
 subst ve1 ve2
 have z1:(!decide (G=0))=true:=by rw [decide_eq_false (by omega)]; rfl
 have z2:decide (G=0)=false:=decide_eq_false (by omega)
 rcases hA with ⟨rfl,ew⟩|⟨rfl,ew⟩
 ·subst ew
  subst hRW
  subst hCR
  have hu:mx=(u1,u2):=vu
  rw [hu] at hmx1 hmx2
  dsimp only at hmx1 hmx2
  repeat'(first|refine wk3 ?_|(refine wk2 ?_ ?_<;>intro _)|fail)
  refine Zq (S:=Unit) (fun _=>0) (fun _=>[(3,.ptr 0 0 0),(4,.ptr 1 0 0),(5,.ptr 2 0 0),(12,.ptr 30 0 0),(13,.ptr 31 0 0),(14,I (Qa Qb (0-1)))]) (fun _=>[(31,.row 2 [[I (Qa Qb (Qa Qb (c*a1)+Qa Qb (d*b1))),I (Qa Qb (Qa Qb (c*a2)+Qa Qb (d*b2)))]] true false),(30,.row 8 [[.nils,I o1,I o2,I a1,I a2,I b1,I b2,I nx0]] true false),(2,.row 4 [[I n,I b,I c,I d]] true false),(1,.row 2 [[I x,I y]] true false),(0,.row 9 [h.cells] true false)]) 32 32 (fun _=>True) () trivial (Qk rfl) [] rfl (kps) (kps) ?_
  rintro _ _
  rw [hmx1,hmx2]
  by_cases hte:tnE (Qa Qb (u1.tdiv G),Qa Qb (u2.tdiv G))=0
  ·have h21:=h21 hte
   have h9:=h9 hte
   rw [hte] at t12e
   rw [show ((([]:List Int).length+1:Nat):Int)=Qa Qb (0+1) from rfl] at h9
   generalize tnE (Qa Qb (u1.tdiv G),Qa Qb (u2.tdiv G))=N at *
   refine bs.av (sx:=nos) hkk ?_
   repeat'(first|refine wk3 ?_|(refine wk2 ?_ ?_<;>intro _)|fail)
   all_goals first|exact Zf rfl|skip
  ·generalize tnE (Qa Qb (u1.tdiv G),Qa Qb (u2.tdiv G))=N at *
   refine bs.av (sx:=nos) hkk ?_
   repeat'(first|refine wk3 ?_|(refine wk2 ?_ ?_<;>intro _)|fail)
   all_goals exact Zf rfl
 ·have hE0l:(nl ws0).length=ws0.length:=Yh ws0
  have hnlg:∀ q (hq:q<ws0.length),(nl ws0)[((q:Nat):Int).toNat]?=some [I ws0[q]]:=fun q hq=>Zeh hq
  have hcp:cpR ws0=⟨.asl 0 0 (nl ws0).length,[(1,nl ws0)]⟩:=by
   cases ws0 with
   | nil=>exact absurd rfl ew
   | cons _ _=>rfl
  have hRW2:RW = .isl 1 (List.take ((nl ws0).length+[[I nx0]].length) (List.drop 0 (nl ws0++[[I nx0]]))):=by
   rw [<-hRW]
   unfold nl
   simp [List.take_of_length_le]
  subst hRW2
  rw [hcp] at hCR
  subst hCR
  generalize hE0:nl ws0=E0 at *
  repeat'(first|refine wk3 ?_|(refine wk2 ?_ ?_<;>intro _)|fail)
  refine Zq (S:=Nat × Int × V) (fun t=>t.1) (fun t=>[(3,.ptr 0 0 0),(4,.ptr 1 0 0),(5,.ptr 2 0 0),(12,.ptr 30 0 0),(13,.ptr 31 0 0),(14,I t.2.1)]) (fun t=>[(31,.row 2 [[I t.2.2.1,I t.2.2.2]] true false),(30,.row 8 [[.isl 1 E0,I o1,I o2,I a1,I a2,I b1,I b2,I nx0]] true false),(2,.row 4 [[I n,I b,I c,I d]] true false),(1,.row 2 [[I x,I y]] true false),(0,.row 9 [h.cells] true false)]) 32 32
   (fun t=>t.2.1=(t.1:Int)-1/\t.1<=ws0.length/\t.2.2=upV h.cs (ws0.drop t.1) mx/\InB 500000 t.2.2) (ws0.length,Qa Qb ((E0.length:Int)-1),(Qa Qb (Qa Qb (c*a1)+Qa Qb (d*b1)),Qa Qb (Qa Qb (c*a2)+Qa Qb (d*b2)))) ⟨by dsimp only; rw [hE0l,W_eq (by omega) (by omega)],Nat.le_refl _,by dsimp only; rw [List.drop_length,hmx1,hmx2]; rfl,by dsimp only [InB]; rw [hmx1,hmx2]; exact vD⟩ (Qk rfl) [] rfl (kps) (kps) ?_
  rintro ⟨j,i,v⟩ ⟨hi,hj,hv,hvb⟩
  dsimp only at hi hj hv hvb ⊢
  by_cases hlt:0<j
  ·obtain ⟨q,rfl⟩:∃ q,j=q+1:=⟨j-1,by omega⟩
   have hi2:i=(q:Int):=by omega
   subst hi2
   clear hi
   have hq:q<ws0.length:=by omega
   have e0:=hnlg q hq
   have hwq:=hw0 ws0[q] (List.getElem_mem hq)
   have hT:=hMm ws0[q] v hwq hvb
   have hb2:=Zlu g hwq hvb
   have hup:imgV h.cs (ws0[q]).toNat v=upV h.cs (ws0.drop q) mx:=by
    rw [List.drop_eq_getElem_cons hq,hv]
    rfl
   have hwn:within ws0[q] 0 (Qa Qb (((h.ws.map Wq).length:Int)-1))=true:=by
    rw [Qn,W_eq (by omega) (by omega)]
    exact within_iff.2 (by omega)
   generalize imgV h.cs (ws0[q]).toNat v=y0 at *
   generalize ws0[q]=wq at *
   obtain ⟨v1,v2⟩:=v
   obtain ⟨y1,y2⟩:=y0
   dsimp only at hT
   refine bs.av (sx:=nos) hkk ?_
   repeat'(first|refine wk3 ?_|(refine wk2 ?_ ?_<;>intro _)|fail)
   all_goals first
    | (exfalso; rename_i q; rw [hwn] at q; exact Wz q)
    | exact Qu ⟨(q,Qa Qb ((q:Int)-1),(y1,y2)),[],rfl,kps,kps,⟨by dsimp only; rw [W_eq (by omega) (by omega)],by dsimp only; omega,hup,hb2⟩,by dsimp only; omega⟩
    | skip
  have hj0:j=0:=by omega
  subst hj0
  have hi2:i = -1:=by omega
  subst hi2
  have hu:v=(u1,u2):=hv.trans vu
  subst hu
  dsimp only
  by_cases hte:tnE (Qa Qb (u1.tdiv G),Qa Qb (u2.tdiv G))=0
  ·have h21:=h21 hte
   have h9:=h9 hte
   rw [hte] at t12e
   rw [show ((ws0.length+1:Nat):Int)=Qa Qb ((E0.length:Int)+1) by rw [hE0l,W_eq (by omega) (by omega)]; rfl] at h9
   generalize tnE (Qa Qb (u1.tdiv G),Qa Qb (u2.tdiv G))=N at *
   refine bs.av (sx:=nos) hkk ?_
   repeat'(first|refine wk3 ?_|(refine wk2 ?_ ?_<;>intro _)|fail)
   refine Zbr (elems:=E0) (ys:=[[I nx0]]) rfl rfl rfl rfl rfl rfl rfl rfl rfl rfl (by simp) rfl (by simp only [List.length_cons,List.length_nil]; omega) ?_
   repeat'(first|refine wk3 ?_|(refine wk2 ?_ ?_<;>intro _)|fail)
   all_goals first|exact Zf rfl|skip
  ·generalize tnE (Qa Qb (u1.tdiv G),Qa Qb (u2.tdiv G))=N at *
   refine bs.av (sx:=nos) hkk ?_
   repeat'(first|refine wk3 ?_|(refine wk2 ?_ ?_<;>intro _)|fail)
   all_goals exact Zf rfl
theorem f4 (h:Hal) (x y a b c d:Int) (hb:i64 b):PCall Tryz.prog 4 [h.av,P2 x y,A4 a b c d] ⟨Bo true,[]⟩:=by
 have c8:=p80 h
 have c7:=Zl9
 cases hfw:few2 h with
 | false =>
  rw [hfw] at c8
  have hk0:=Za c7 (Za c8 Zd)
  refine pn hk0 Tryz.func4 ?_
  repeat'(first|refine wk3 ?_|(refine wk2 ?_ ?_<;>intro _)|fail)
  all_goals first|exact Zf rfl|(exfalso; simp_all; done)
 | true =>
  rw [hfw] at c8
  have hk:=Zwl hfw
  have c11:=e11 hk x y
  by_cases hall:within a 0 2=true/\within c 1 5=true/\within d 1 5=true/\plnE h x y=0
  ·exact f4a hk hfw x y a b c d hall.1 hall.2.1 hall.2.2.1 hall.2.2.2 hb
  ·have hk0:PCOK Tryz.prog (ins 7 (one [] ⟨Bo true,[]⟩) (ins 8 (one [h.av] ⟨Bo true,[]⟩) (ins 11 (one [h.av,P2 x y] ⟨I (plnE h x y),[]⟩) (ins 16 rWi pt0)))):=Za c7 (Za c8 (Za c11 (Zz9 Zd)))
   generalize plnE h x y=N at *
   clear c7 c8 c11
   refine pn hk0 Tryz.func4 ?_
   repeat'(first|refine wk3 ?_|(refine wk2 ?_ ?_<;>intro _)|fail)
   all_goals first|exact Zf rfl|(exfalso; clear hk0; simp_all; done)
open Go Go.Sx
theorem Ygb {m:Nat} {x:List AV} (hw:WT TT (m+10+1) 28 x):∃ h:Hal,x=h.cells:=by
 have h0:=(Zap (T:=TT) (t:=28) rfl rfl hw).1
 have h0:x.length=9:=h0
 match x,h0 with
 | [x0,x1,x2,x3,x4,x5,x6,x7,x8],_ =>
  obtain ⟨s,hs,hs2⟩:=wStr (Yc (T:=TT) (t:=28) rfl rfl hw 0 rfl rfl)
  obtain ⟨n,hn⟩:=wInt (Yc (T:=TT) (t:=28) rfl rfl hw 1 rfl rfl)
  obtain ⟨t,ht,ht2⟩:=wStr (Yc (T:=TT) (t:=28) rfl rfl hw 2 rfl rfl)
  obtain ⟨u,hu,hu2⟩:=wStr (Yc (T:=TT) (t:=28) rfl rfl hw 3 rfl rfl)
  obtain ⟨e4,h4,_,g4⟩:=Zdu (T:=TT) (t:=22) rfl rfl rfl (Yc (T:=TT) (t:=28) rfl rfl hw 4 rfl rfl)
  obtain ⟨e5,h5,_,g5⟩:=Zdu (T:=TT) (t:=23) rfl rfl rfl (Yc (T:=TT) (t:=28) rfl rfl hw 5 rfl rfl)
  obtain ⟨e6,h6,_,g6⟩:=Zdu (T:=TT) (t:=24) rfl rfl rfl (Yc (T:=TT) (t:=28) rfl rfl hw 6 rfl rfl)
  obtain ⟨e7,h7,_,g7⟩:=Zdu (T:=TT) (t:=25) rfl rfl rfl (Yc (T:=TT) (t:=28) rfl rfl hw 7 rfl rfl)
  obtain ⟨e8,h8,_,g8⟩:=Zdu (T:=TT) (t:=26) rfl rfl rfl (Yc (T:=TT) (t:=28) rfl rfl hw 8 rfl rfl)
  obtain ⟨l4,k4,_⟩:=Zsj (f:=Mat.av) (fun x hx=>wMat hx) e4 g4
  obtain ⟨l5,k5,_⟩:=Zsj (f:=pt) (P:=fun _=>True) (fun x hx=>(wP2 hx).imp fun p hp=>⟨hp,trivial⟩) e5 g5
  obtain ⟨l6,k6,_⟩:=Zsj (f:=Wq) (fun x hx=>wWal hx) e6 g6
  obtain ⟨l7,k7,_⟩:=Zsj (f:=Can.av) (fun x hx=>wCan hx) e7 g7
  obtain ⟨l8,k8,_⟩:=Zsj (f:=Sea.av) (fun x hx=>wSea hx) e8 g8
  have hs:[x0]=[.str s]:=hs
  have hn:[x1]=[I n]:=hn
  have ht:[x2]=[.str t]:=ht
  have hu:[x3]=[.str u]:=hu
  have h4:[x4]=[.isl 6 e4]:=h4
  have h5:[x5]=[.isl 2 e5]:=h5
  have h6:[x6]=[.isl 3 e6]:=h6
  have h7:[x7]=[.isl 7 e7]:=h7
  have h8:[x8]=[.isl 4 e8]:=h8
  cases hs; cases hn; cases ht; cases hu; cases h4; cases h5; cases h6; cases h7; cases h8
  exact ⟨⟨s,n,t,u,l4,l5,l6,l7,l8⟩,by rw [k4,k5,k6,k7,k8]⟩
theorem Zx9 {d:Nat} {x:List AV} (h:WT TT (d+1) 3 x):∃ n,x=[I n]/\i64 n:=by
 obtain ⟨n,h1,h2⟩:=Ztz (T:=TT) (t:=3) rfl rfl h
 exact ⟨n,h1,Ydq h2⟩
theorem Yfd {a:AV} (h:WTA TT 28 a):∃ h:Hal,a=h.av:=by
 obtain ⟨x,m,rfl,hw⟩:=Ztx (T:=TT) (t:=28) h rfl rfl 11
 obtain ⟨hl,rfl⟩:=Ygb hw
 exact ⟨hl,rfl⟩
theorem Yfr {a:AV} (h:WTA TT 30 a):∃ x y:Int,a=P2 x y:=by
 obtain ⟨x,m,rfl,hw⟩:=Ztx (T:=TT) (t:=30) h rfl rfl 4
 obtain ⟨p,rfl⟩:=wP2 hw
 exact ⟨p.1,p.2,rfl⟩
def tysF:List TypeId:=[28,30,31,22,23,24,25,26,35,47,99,97,101,103,69,9,3]
theorem Ydt:tysF.all (Zia (tget tbl) tysF)=true:=by kernel_rfl
end Go.Proofs.YtanbhfpalahjcaaGreat
