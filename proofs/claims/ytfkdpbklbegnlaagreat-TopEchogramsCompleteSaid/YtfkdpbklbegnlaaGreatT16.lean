/- A part of the proof: lemmas. -/
import Derived.Test.YtfkdpbklbegnlaaGreatT15
import Derived.Test.YtfkdpbklbegnlaaGreatT11
import Derived.Test.YtfkdpbklbegnlaaGreatT12
set_option linter.unusedVariables false
set_option linter.unusedSimpArgs false
set_option maxRecDepth 100000
set_option maxHeartbeats 16000000
open Go.IntKind renaming i64->Qb,wrap->Qa
open Go.Sx.AV.agg renaming injEq->Ng
open Go.Sx.AV.int renaming injEq->Sn
open Go.Sx.Done renaming mk->Qo
open List renaming getElem_mem->Qq,length_map->Rn,map_append->Pj,mem_map->Wm,take_length->Oe
open List.cons renaming inj->Ko,injEq->Qs
open Nat renaming le_of_ble_eq_true->Qp,le_trans->Qr,zero_le->Qm
namespace Go.Proofs.YtfkdpbklbegnlaaGreat
open Go Go.Sx Go.En
noncomputable abbrev two (a0 a1:List AV) (r0 r1:PRes):List AV->Option PRes:=famA (fun _:Bool=>True) (fun q=>if q then a0 else a1) (fun q=>if q then r0 else r1)
theorem Yi3 {a0 a1:List AV} {r0 r1:PRes} (h:a0≠a1):two a0 a1 r0 r1 a0=some r0 :=
 Zm (p:=fun _:Bool=>True) (g:=fun q=>if q then a0 else a1) (r:=fun q=>if q then r0 else r1) (k:=true) (fun j hj=>by
  cases j with
  | true=>rfl
  | false=>exact absurd hj.symm h) trivial
theorem Yi2 {a0 a1:List AV} {r0 r1:PRes} (h:a0≠a1):two a0 a1 r0 r1 a1=some r1 :=
 Zm (p:=fun _:Bool=>True) (g:=fun q=>if q then a0 else a1) (r:=fun q=>if q then r0 else r1) (k:=false) (fun j hj=>by
  cases j with
  | false=>rfl
  | true=>exact absurd hj h) trivial
theorem Yca {f:FuncId} {a0 a1:List AV} {r0 r1:PRes} (h0:PCall Tryz.prog f a0 r0) (h1:PCall Tryz.prog f a1 r1) {pt:PC} (hp:PCOK Tryz.prog pt):PCOK Tryz.prog (ins f (two a0 a1 r0 r1) pt):=Ya (fun q _=>by
  cases q with
  | true=>exact h0
  | false=>exact h1) hp
noncomputable abbrev three (a0 a1 a2:List AV) (r0 r1 r2:PRes):List AV->Option PRes:=famA (fun _:Fin 3=>True) (fun i=>match i with|0=>a0|1=>a1|2=>a2) (fun i=>match i with|0=>r0|1=>r1|2=>r2)
theorem Ydz {a0 a1 a2:List AV} {r0 r1 r2:PRes} (h1:a0≠a1) (h2:a0≠a2):three a0 a1 a2 r0 r1 r2 a0=some r0 :=
 Zm (p:=fun _:Fin 3=>True) (g:=fun i=>match i with|0=>a0|1=>a1|2=>a2) (r:=fun i=>match i with|0=>r0|1=>r1|2=>r2) (k:=0) (fun j hj=>by
  match j,hj with
  | 0,_=>rfl
  | 1,hj=>exact absurd hj.symm h1
  | 2,hj=>exact absurd hj.symm h2) trivial
theorem Ydy {a0 a1 a2:List AV} {r0 r1 r2:PRes} (h1:a0≠a1) (h2:a2=a1->r2=r1):three a0 a1 a2 r0 r1 r2 a1=some r1 :=
 Zm (p:=fun _:Fin 3=>True) (g:=fun i=>match i with|0=>a0|1=>a1|2=>a2) (r:=fun i=>match i with|0=>r0|1=>r1|2=>r2) (k:=1) (fun j hj=>by
  match j,hj with
  | 0,hj=>exact absurd hj h1
  | 1,_=>rfl
  | 2,hj=>exact h2 hj) trivial
theorem Ydx {a0 a1 a2:List AV} {r0 r1 r2:PRes} (h1:a0≠a2) (h2:a2=a1->r2=r1):three a0 a1 a2 r0 r1 r2 a2=some r2 :=
 Zm (p:=fun _:Fin 3=>True) (g:=fun i=>match i with|0=>a0|1=>a1|2=>a2) (r:=fun i=>match i with|0=>r0|1=>r1|2=>r2) (k:=2) (fun j hj=>by
  match j,hj with
  | 0,hj=>exact absurd hj h1
  | 1,hj=>exact (h2 hj.symm).symm
  | 2,_=>rfl) trivial
theorem Zzv {f:FuncId} {a0 a1 a2:List AV} {r0 r1 r2:PRes} (h0:PCall Tryz.prog f a0 r0) (h1:PCall Tryz.prog f a1 r1) (h2:PCall Tryz.prog f a2 r2) {pt:PC} (hp:PCOK Tryz.prog pt):PCOK Tryz.prog (ins f (three a0 a1 a2 r0 r1 r2) pt):=Ya (fun i _=>by
  match i with
  | 0=>exact h0
  | 1=>exact h1
  | 2=>exact h2) hp
def dkL (h:Hal) (b:Int) (k:Nat):List Mat:=(h.ms.take k).map (fun m=>m.upd b 1000)++h.ms.drop k
theorem Yfw {h:Hal} {b:Int} {k:Nat} (hk:k<h.ms.length):((dkL h b k).map Mat.av)[0+((k:Nat):Int).toNat]?=some (Mat.av h.ms[k]):=by
 unfold dkL
 rw [Nat.zero_add,Int.toNat_natCast,List.getElem?_map,List.getElem?_append_right (by simp; omega)]
 simp [hk,Nat.min_eq_left (Nat.le_of_lt hk)]
theorem Yfv {h:Hal} {b:Int} {k:Nat} (hk:k<h.ms.length):Zep ((dkL h b k).map Mat.av) (0+((k:Nat):Int).toNat) (Mat.av (h.ms[k].upd b 1000))=(dkL h b (k+1)).map Mat.av:=by
 rw [Zz5]
 congr 1
 unfold dkL
 have hl:((h.ms.take k).map (fun m=>m.upd b 1000)).length=k:=by simp; omega
 rw [List.set_append_right _ _ (by omega),hl,Nat.sub_self,List.drop_eq_getElem_cons hk,List.set_cons_zero,List.take_succ_eq_append_getElem hk,Pj,List.append_assoc]
 rfl
theorem Yfx (h:Hal) (b:Int):dkL h b h.ms.length=h.dark b:=by
 unfold dkL Hal.dark
 rw [Oe,List.drop_length,List.append_nil]
abbrev upR (a:Ask):AV:=.agg [I a.fx,I a.fy,I a.fz,I a.tx,I a.ty,I a.tz,I (Qa Qb (a.n+1))]
theorem e5 (h:Hal) (s:Stg) (a:Ask) (y0 y1:Int):PCall Tryz.prog 5 [.agg (stgL h s),a.av,P2 y0 y1] ⟨Bo true,[]⟩:=by
 have aw:=Zp8
 have hm:=d46 (n:=y0) (b:=4) ⟨by omega,by omega⟩
 have hb:0<=y0%4/\y0%4<4:=⟨Int.emod_nonneg _ (by omega),Int.emod_lt_of_pos _ (by omega)⟩
 generalize y0%4=b at *
 have hI:=eImg h s
 by_cases hf:imgF h s=true
 rotate_left
 ·have hf:imgF h s=false:=by simpa using hf
  rw [hf] at hI
  have hk0:=Ze aw (Ze hm (Ze hI Zb))
  obtain ⟨fx,fy,fz,tx,ty,tz,n⟩:=a
  refine bs.pv (sx:=nos) hk0 Tryz.func5 (by kernel_rfl) (by kernel_rfl) rfl ?_
  clear hk0
  repeat'(first|refine wk3 ?_|(refine wk2 ?_ ?_<;>intro _)|refine wk4 ?_|fail);all_goals(conv=>whnf)
  all_goals exact Zd rfl
 rw [hf] at hI
 obtain ⟨hk,hs,e0⟩:=Yfe hf
 have h18:=d18 hk hs a
 have w1:=c30 a.n 0 1
 have w2:=c30 y1 0 10000000
 have wne:[I a.n,I 0,I 1]≠[I y1,I 0,I 10000000]:=by
  intro q
  simp at q
 have k1:=Yi3 (r0:=⟨Bo (within a.n 0 1),[]⟩) (r1:=⟨Bo (within y1 0 10000000),[]⟩) wne
 have k2:=Yi2 (r0:=⟨Bo (within a.n 0 1),[]⟩) (r1:=⟨Bo (within y1 0 10000000),[]⟩) wne
 by_cases hc:within a.n 0 1=true/\within y1 0 10000000=true/\askE h s a=0
 rotate_left
 ·have hk0:=Ze aw (Ze hm (Ze hI (Ze h18 (Yca w1 w2 Zb))))
  clear w1 w2 wne
  obtain ⟨fx,fy,fz,tx,ty,tz,n⟩:=a
  dsimp only at k1 k2 hc hk0
  generalize askE h s ⟨fx,fy,fz,tx,ty,tz,n⟩=E at *
  generalize within n 0 1=b1 at *
  generalize within y1 0 10000000=b2 at *
  refine bs.pv (sx:=nos) hk0 Tryz.func5 (by kernel_rfl) (by kernel_rfl) rfl ?_
  clear hk0 h18 aw hm hI
  cases b1<;>cases b2
  all_goals repeat'(first|refine wk3 ?_|(refine wk2 ?_ ?_<;>intro _)|refine wk4 ?_|fail);all_goals(conv=>whnf)
  all_goals first
   | exact Zd rfl
   | (exfalso; clear k1 k2; simp_all; done)
   | (exfalso; clear k1 k2; simp_all; omega)
 obtain ⟨c1,c2,e⟩:=hc
 rw [c1] at w1 k1 k2
 rw [c2] at w2 k1 k2
 rw [e] at h18
 have hn:=within_iff.1 c1
 have ht:=within_iff.1 c2
 have hW:Qa Qb (a.n+1)=a.n+1:=W_eq (by omega) (by omega)
 have hair:airE b 0 34000=0:=by
  unfold airE
  rw [if_pos (within_iff.2 (by omega))]
  rfl
 have u:=Ydj e (by omega)
 have h8:=e8 hk hs a e (by omega) hair
 have h8u:=e8 hk hs a.up u (by show a.n+1<3; omega) hair
 have hT:=Ygh hk hs e (by omega)
 have v1:=Ydb hk hs e (by omega) hair
 have v2:=Ydb hk hs u (by show a.n+1<3; omega) hair
 have hR:=Zmc (Yf h s (qF a) (qT a)) (nsN h) a.n.toNat
 rw [show a.n.toNat+1=a.up.n.toNat from by show _=(a.n+1).toNat; omega] at hR
 have g:=Zdg hk hs e0
 have hmo:Zid b h.ms (h.dark b):=Zk8 fun m hm=>⟨g.fine.mats m hm,by
  have:=Zws g.fine hm
  unfold absB
  repeat' split
  all_goals omega⟩
 have hk':=Yhe hmo hk
 have e0':=Zl9 hmo e0
 have g':=Zdg hk' hs e0'
 have u':=Yb5 hmo u
 have h8d:=e8 hk' hs a.up u' (by show a.n+1<3; omega) hair
 rw [Yed hmo e0] at h8d
 have hfu:=fun p hp=>Zdp hk hs u (show a.n+1<3 by omega) (p:=p) hp
 have hdk:∀ p∈refL (Yf h s (qF a) (qT a)) (nsN h) a.up.n.toNat,p.ss≠[]->enV (h.put (h.dark b)) s p b 0=(0,0):=fun p hp hne=>by
  refine Yik g' (fun m hm=>?_) (fun n hn=>?_) hne
  ·obtain ⟨m',_,rfl⟩:=Wm.1 hm
   exact Zru _ _ _
  ·have:=(Zl4 (hfu p hp).2.1).2 n hn
   exact Zi2 this.1 (by show n<nsur h; omega)
 change PCall Tryz.prog 8 [h.av,s.av,a.up.av,P3 b 0 34000] ⟨.tup [.isl 5 ((refL (Yf h s (qF a) (qT a)) (nsN h) a.up.n.toNat).map (ecC h s b 0 34000)),I 0],[]⟩ at h8u
 change PCall Tryz.prog 8 [(h.put (h.dark b)).av,s.av,a.up.av,P3 b 0 34000] ⟨.tup [.isl 5 ((refL (Yf h s (qF a) (qT a)) (nsN h) a.up.n.toNat).map (ecC (h.put (h.dark b)) s b 0 34000)),I 0],[]⟩ at h8d
 change ecV ((refL (Yf h s (qF a) (qT a)) (nsN h) a.up.n.toNat).map (ecO h s b 0 34000))=(0,0) at v2
 clear hfu u u'
 generalize refL (Yf h s (qF a) (qT a)) (nsN h) a.n.toNat=L at *
 generalize refL (Yf h s (qF a) (qT a)) (nsN h) a.up.n.toNat=K at *
 rw [Yin] at h8 h8u h8d
 have hup:a.up.av=upR a:=by unfold upR; rw [hW]; rfl
 rw [hup] at h8u h8d
 have hml:(h.dark b).length=h.ms.length:=Rn _
 have hmt:=Yy h.ms
 have hm2:=g.fine.le.1
 have m8:[rawH (h.put (h.dark b)) (h.ms.map Mat.av).length,s.av,upR a,P3 b 0 34000]=[rawH h (h.ms.map Mat.av).length,s.av,upR a,P3 b 0 34000]->(⟨.tup [.isl 5 ((K.map (ecO (h.put (h.dark b)) s b 0 34000)).map ev),I 0],[]⟩:PRes)=⟨.tup [.isl 5 ((K.map (ecO h s b 0 34000)).map ev),I 0],[]⟩:=fun q=>by
  have q:=(Ko q).1
  rw [Zmd (x:=h.put (h.dark b)) (by rw [Yy]; exact hml.symm),Zmd (Yy _)] at q
  rw [Yfg q]
 rw [<-Zmd (x:=h) (n:=(h.ms.map Mat.av).length) (Yy _)] at h8 h8u
 rw [<-Zmd (x:=h.put (h.dark b)) (n:=(h.ms.map Mat.av).length) (by rw [Yy]; exact hml.symm)] at h8d
 have n1:[rawH h (h.ms.map Mat.av).length,s.av,a.av,P3 b 0 34000]≠[rawH h (h.ms.map Mat.av).length,s.av,upR a,P3 b 0 34000]:=by
  intro q
  unfold upR at q
  simp only [Qs,Ng,Sn,true_and,and_true] at q
  rw [hW] at q
  omega
 have n2:[rawH h (h.ms.map Mat.av).length,s.av,a.av,P3 b 0 34000]≠[rawH (h.put (h.dark b)) (h.ms.map Mat.av).length,s.av,upR a,P3 b 0 34000]:=by
  intro q
  have q:=(Ko (Ko (Ko q).2).2).1
  unfold upR at q
  simp only [Qs,Ng,Sn,true_and,and_true] at q
  rw [hW] at q
  omega
 have o1:=Ydz (r0:=⟨.tup [.isl 5 ((L.map (ecO h s b 0 34000)).map ev),I 0],[]⟩) (r1:=⟨.tup [.isl 5 ((K.map (ecO h s b 0 34000)).map ev),I 0],[]⟩) (r2:=⟨.tup [.isl 5 ((K.map (ecO (h.put (h.dark b)) s b 0 34000)).map ev),I 0],[]⟩) n1 n2
 have o2:=Ydy (r0:=⟨.tup [.isl 5 ((L.map (ecO h s b 0 34000)).map ev),I 0],[]⟩) (r1:=⟨.tup [.isl 5 ((K.map (ecO h s b 0 34000)).map ev),I 0],[]⟩) (r2:=⟨.tup [.isl 5 ((K.map (ecO (h.put (h.dark b)) s b 0 34000)).map ev),I 0],[]⟩) n1 m8
 have o3:=Ydx (r0:=⟨.tup [.isl 5 ((L.map (ecO h s b 0 34000)).map ev),I 0],[]⟩) (r1:=⟨.tup [.isl 5 ((K.map (ecO h s b 0 34000)).map ev),I 0],[]⟩) (r2:=⟨.tup [.isl 5 ((K.map (ecO (h.put (h.dark b)) s b 0 34000)).map ev),I 0],[]⟩) n2 m8
 have f1:∀ x∈L.map (ecO h s b 0 34000),x.su.length<100000:=fun x hx=>by
  obtain ⟨p,hp,rfl⟩:=Wm.1 hx
  have:=(hT.su p hp).1
  show p.ss.length<100000
  omega
 have f2:∀ x∈K.map (ecO h s b 0 34000),x.su.length<100000:=fun x hx=>by
  obtain ⟨p,hp,rfl⟩:=Wm.1 hx
  have:=hT.ku p hp
  show p.ss.length<100000
  omega
 have hll:=hT.ll
 have hkl:=hT.kl
 have q1:=Zv3 (l:=L.map (ecO h s b 0 34000)) (by rw [Rn]; omega) f1
 have q2:=Zv3 (l:=K.map (ecO h s b 0 34000)) (by rw [Rn]; omega) f2
 have u1:=Zv2 (l:=L.map (ecO h s b 0 34000)) (t:=y1) (by rw [Rn]; omega) (Zsz (by rw [v1]) c2)
 have u2:=Zv2 (l:=K.map (ecO h s b 0 34000)) (t:=y1) (by rw [Rn]; omega) (Zsz (by rw [v2]) c2)
 have hup2:(upF y1 0 0 (L.map (ecO h s b 0 34000))).1<=(upF y1 0 0 (K.map (ecO h s b 0 34000))).1/\(upF y1 0 0 (L.map (ecO h s b 0 34000))).2<=(upF y1 0 0 (K.map (ecO h s b 0 34000))).2:=by
  obtain ⟨R,hR⟩:=hR
  have:=hR.map (ecO h s b 0 34000)
  rw [Pj] at this
  exact Ydw (by rw [v1]) (by rw [v2]) this
 have hk1:=Ze aw (Ze hm (Ze hI (Ze h18 (Yca w1 w2 (Zzv h8 h8u h8d (Yg0 (Ygv (t:=y1) (Ze (c22m hk.f) (Ze (c29 hs) (Yg5 Zb))))))))))
 have l1:((L.map (ecO h s b 0 34000)).map ev).length=L.length:=by simp
 have l2:((K.map (ecO h s b 0 34000)).map ev).length=K.length:=by simp
 have l3:((K.map (ecO (h.put (h.dark b)) s b 0 34000)).map ev).length=K.length:=by simp
 have hE1:∀ (k:Nat) (hk:k<L.length),((L.map (ecO h s b 0 34000)).map ev)[((k:Nat):Int).toNat]?=some (ev (ecO h s b 0 34000 L[k])):=fun k hk=>Zyc hk
 have hE2:∀ (k:Nat) (hk:k<K.length),((K.map (ecO h s b 0 34000)).map ev)[((k:Nat):Int).toNat]?=some (ev (ecO h s b 0 34000 K[k])):=fun k hk=>Zyc hk
 have hE3:∀ (k:Nat) (hk:k<K.length),((K.map (ecO (h.put (h.dark b)) s b 0 34000)).map ev)[((k:Nat):Int).toNat]?=some (ev (ecO (h.put (h.dark b)) s b 0 34000 K[k])):=fun k hk=>Zyc hk
 clear w1 w2 h8 h8u h8d aw hm hI h18 wne n1 n2 m8 f1 f2 v1 v2 hR
 generalize upF y1 0 0 (L.map (ecO h s b 0 34000))=U at *
 generalize upF y1 0 0 (K.map (ecO h s b 0 34000))=V at *
 generalize (L.map (ecO h s b 0 34000)).map ev=R1 at *
 generalize (K.map (ecO h s b 0 34000)).map ev=R2 at *
 generalize (K.map (ecO (h.put (h.dark b)) s b 0 34000)).map ev=R3 at *
 obtain ⟨U1,U2⟩:=U
 obtain ⟨V1,V2⟩:=V
 dsimp only at hup2
 obtain ⟨x1,x2⟩:=hup2
 obtain ⟨fx,fy,fz,tx,ty,tz,n⟩:=a
 unfold upR at o2 o3 o1 hk1
 dsimp only at k1 k2 hk1 o1 o2 o3 hn hW
 refine bs.pv (sx:=nos) hk1 Tryz.func5 (by kernel_rfl) (by kernel_rfl) rfl ?_
 repeat'(first|refine wk3 ?_|(refine wk2 ?_ ?_<;>intro _)|refine wk4 ?_|fail);all_goals(conv=>whnf)
 refine Zt (S:=Nat × Int) (fun t=>L.length-t.1) (fun t=>[(3,.ptr 0 0 0),(4,.ptr 1 0 0),(5,.ptr 2 0 0),(7,.ptr 3 0 0),(8,.ptr 4 0 0),(9,.isl 5 R1),(11,.isl 5 R2),(13,I t.2)])
  (fun _=>[(4,.row 7 [[I fx,I fy,I fz,I tx,I ty,I tz,I (Qa Qb (n+1))]] true false),(3,.row 3 [[I b,I 0,I 34000]] true false),(2,.row 2 [[I y0,I y1]] true false),(1,.row 7 [[I fx,I fy,I fz,I tx,I ty,I tz,I n]] true false),(0,.row 11 [stgL h s] true false)]) 100 100
  (fun t=>t.2=t.1/\t.1<=L.length) (0,0) ⟨rfl,Qm _⟩ (Qp rfl) [] rfl (kps) (kps) ?_
 rintro ⟨k,i⟩ ⟨hi,hk1'⟩
 dsimp only at hi hk1' ⊢
 subst hi
 by_cases hlt:k<L.length
 ·have e1:=hE1 k hlt
  obtain ⟨p1,p2,p3⟩:=hT.su _ (Qq hlt)
  clear hE1 hE3 o1 o2 o3 q1 q2 u1 u2 k1 k2
  unfold ecO at e1
  generalize hp:L[k]=p at *
  refine bs.av (sx:=nos) hk1 ?_
  repeat'(first|refine wk3 ?_|(refine wk2 ?_ ?_<;>intro _)|refine wk4 ?_|fail);all_goals(conv=>whnf)
  refine Zt (S:=Nat × Int × Int) (fun t=>K.length-t.1) (fun t=>[(3,.ptr 0 0 0),(4,.ptr 1 0 0),(5,.ptr 2 0 0),(7,.ptr 3 0 0),(8,.ptr 4 0 0),(9,.isl 5 R1),(11,.isl 5 R2),(13,I (k:Int)),(14,I t.2.2),(15,I t.2.1)])
   (fun _=>[(4,.row 7 [[I fx,I fy,I fz,I tx,I ty,I tz,I (Qa Qb (n+1))]] true false),(3,.row 3 [[I b,I 0,I 34000]] true false),(2,.row 2 [[I y0,I y1]] true false),(1,.row 7 [[I fx,I fy,I fz,I tx,I ty,I tz,I n]] true false),(0,.row 11 [stgL h s] true false)]) 200 200
   (fun t=>t.2.1=t.1/\t.1<=K.length/\t.2.2=(cntS p.ss (K.take t.1):Nat)) (0,0,0) ⟨rfl,Qm _,rfl⟩ (Qp rfl) [] rfl (kps) (kps) ?_
  rintro ⟨j,i,c⟩ ⟨hi,hj1,hc⟩
  dsimp only at hi hj1 hc ⊢
  subst hi
  refine bs.av (sx:=nos) hk1 ?_
  by_cases hjl:j<K.length
  ·have e2:=hE2 j hjl
   have c3:=Yek (a:=p.ss) (b:=K[j].ss) (by omega) (by have:=hT.ku _ (Qq hjl); omega)
   have hst:=Zyy (l:=p.ss) hjl
   obtain ⟨c0,hc0⟩:∃ c0:Nat,cntS p.ss (K.take j)=c0:=⟨_,rfl⟩
   have p3':=p3 _ (Qq hjl)
   have hcb:c0<=343:=by
    rw [<-hc0]
    exact Qr (Qr List.countP_le_length (List.length_take_le _ _)) (by omega)
   rw [hc0] at hc hst
   subst hc
   clear p3 hc0
   unfold ecO at e2
   by_cases hq:K[j].ss=p.ss
   ·rw [p3' hq] at c3 e2 hst
    rw [Ybe] at c3
    rw [if_pos rfl] at hst
    clear p3' hq
    generalize enV h s p b 0=X at *
    generalize delV p.sq 34000=D at *
    repeat'(first|refine wk3 ?_|(refine wk2 ?_ ?_<;>intro _)|refine wk4 ?_|fail);all_goals(conv=>whnf)
    all_goals first
     | exact Qo ⟨(j+1,_,_),[],rfl,kps,kps,⟨Zg (by omega),hjl,by rw [hst]; exact Zg (by omega)⟩,by dsimp only; omega⟩
     | (exfalso; clear hk1; simp_all; done)
   ·have hqe:eqN p.ss K[j].ss=false:=by
     cases h9:eqN p.ss K[j].ss
     ·rfl
     ·exact absurd (eqN_iff.1 h9).symm hq
    rw [hqe] at c3
    rw [if_neg hq] at hst
    clear p3' hqe hq
    generalize K[j]=q at *
    repeat'(first|refine wk3 ?_|(refine wk2 ?_ ?_<;>intro _)|refine wk4 ?_|fail);all_goals(conv=>whnf)
    all_goals first
     | exact Qo ⟨(j+1,_,_),[],rfl,kps,kps,⟨Zg (by omega),hjl,by rw [hst]; rfl⟩,by dsimp only; omega⟩
     | (exfalso; clear hk1; simp_all; done)
  ·obtain rfl:j=K.length:=by omega
   rw [Oe,p2] at hc
   subst hc
   repeat'(first|refine wk3 ?_|(refine wk2 ?_ ?_<;>intro _)|refine wk4 ?_|fail);all_goals(conv=>whnf)
   all_goals first
    | exact Qo ⟨(k+1,_),[],rfl,kps,kps,⟨Zg (by omega),hlt⟩,by dsimp only; omega⟩
    | (exfalso; clear hk1; simp_all; done)
 obtain rfl:k=L.length:=by omega
 refine bs.av (sx:=nos) hk1 ?_
 repeat'(first|refine wk3 ?_|(refine wk2 ?_ ?_<;>intro _)|refine wk4 ?_|fail);all_goals(conv=>whnf)
 all_goals try (exfalso; clear hk1; simp_all; omega)
 have hb4:b=0\/b=1\/b=2\/b=3:=by omega
 refine Zt (S:=Nat × Int × List (List AV)) (fun t=>h.ms.length-t.1) (fun t=>[(3,.ptr 0 0 0),(7,.ptr 3 0 0),(8,.ptr 4 0 0),(11,.isl 5 R2),(20,.ptr 123 0 0),(21,I t.2.1)])
  (fun t=>[(123,.row 9 [[.str h.nm,I h.ht,.str h.fl,.str h.ce,.asl 122 0 (h.ms.map Mat.av).length,.isl 2 (h.cs.map pt),.isl 3 (h.ws.map Wal.av),.isl 7 (h.ks.map Can.av),.isl 4 (h.ss.map Sea.av)]] true false),(122,.row 6 t.2.2 true true),(4,.row 7 [[I fx,I fy,I fz,I tx,I ty,I tz,I (Qa Qb (n+1))]] true false),(3,.row 3 [[I b,I 0,I 34000]] true false),(0,.row 11 [stgL h s] true false)]) 124 124
  (fun t=>t.2.1=t.1/\t.1<=h.ms.length/\t.2.2=(dkL h b t.1).map Mat.av) (0,0,h.ms.map Mat.av) ⟨rfl,Qm _,rfl⟩ (Nat.le_refl _) [] rfl (kps) (kps) ?_
 rintro ⟨k,i,els⟩ ⟨hi,hk2,hels⟩
 dsimp only at hi hk2 hels ⊢
 subst hi
 by_cases hlt:k<h.ms.length
 ·have e5:=Yfw (b:=b) hlt
  rw [<-hels] at e5
  have e6:=Yfv (b:=b) hlt
  rw [<-hels] at e6
  generalize h.ms[k]=m at *
  clear o1 o2 o3 q1 q2 u1 u2 k1 k2 hE1 hE2 hE3 hT hdk
  refine bs.av (sx:=nos) hk1 ?_
  rcases hb4 with rfl|rfl|rfl|rfl
  all_goals
   repeat'(first|refine wk3 ?_|(refine wk2 ?_ ?_<;>intro _)|refine wk4 ?_|fail);all_goals(conv=>whnf)
   all_goals first
    | exact Qo ⟨(k+1,_,_),[],rfl,kps,kps,⟨Zg (by omega),hlt,e6⟩,by dsimp only; omega⟩
    | (exfalso; clear hk1; simp_all; done)
    | (exfalso; clear hk1; simp_all; omega)
 obtain rfl:k=h.ms.length:=by omega
 rw [Yfx] at hels
 subst hels
 refine bs.av (sx:=nos) hk1 ?_
 repeat'(first|refine wk3 ?_|(refine wk2 ?_ ?_<;>intro _)|refine wk4 ?_|fail);all_goals(conv=>whnf)
 all_goals try (exfalso; clear hk1; simp_all; omega)
 refine Zt (S:=Nat × Int) (fun t=>K.length-t.1) (fun t=>[(22,.isl 5 R3),(24,I t.2)]) (fun _=>[]) 300 300
  (fun t=>t.2=t.1/\t.1<=K.length) (0,0) ⟨rfl,Qm _⟩ (Qp rfl) [] rfl (kps) (kps) ?_
 rintro ⟨j,i⟩ ⟨hi,hj1⟩
 dsimp only at hi hj1 ⊢
 subst hi
 clear o1 o2 o3 q1 q2 u1 u2 k1 k2 hE1 hE2
 by_cases hjl:j<K.length
 ·have e1:=hE3 j hjl
  have hz:=hdk _ (Qq hjl)
  unfold ecO at e1
  clear hE3 hdk hT
  generalize K[j]=p at *
  refine bs.av (sx:=nos) hk1 ?_
  by_cases hp:p.ss=[]
  ·rw [hp] at e1
   repeat'(first|refine wk3 ?_|(refine wk2 ?_ ?_<;>intro _)|refine wk4 ?_|fail);all_goals(conv=>whnf)
   all_goals first
    | exact Qo ⟨(j+1,_),[],rfl,kps,kps,⟨Zg (by omega),hjl⟩,by dsimp only; omega⟩
    | (exfalso; clear hk1; simp_all; done)
  ·rw [hz hp] at e1
   repeat'(first|refine wk3 ?_|(refine wk2 ?_ ?_<;>intro _)|refine wk4 ?_|fail);all_goals(conv=>whnf)
   all_goals first
    | exact Qo ⟨(j+1,_),[],rfl,kps,kps,⟨Zg (by omega),hjl⟩,by dsimp only; omega⟩
    | (exfalso; clear hk1; simp_all; done)
 obtain rfl:j=K.length:=by omega
 refine bs.av (sx:=nos) hk1 ?_
 repeat'(first|refine wk3 ?_|(refine wk2 ?_ ?_<;>intro _)|refine wk4 ?_|fail);all_goals(conv=>whnf)
 all_goals first
  | exact Zd rfl
  | (exfalso; clear hk1; simp_all; done)
  | (exfalso; clear hk1; simp_all; omega)
open Go Go.Sx
theorem Yi1 {m:Nat} {x:List AV} (hw:WT TT (m+10+1) 28 x):∃ h:Hal,x=h.cells:=by
 have h0:=(Va (T:=TT) (t:=28) rfl rfl hw).1
 have h0:x.length=9:=h0
 match x,h0 with
 | [x0,x1,x2,x3,x4,x5,x6,x7,x8],_ =>
  obtain ⟨s,hs,hs2⟩:=wStr (Zn (T:=TT) (t:=28) rfl rfl hw 0 rfl rfl)
  obtain ⟨n,hn⟩:=wInt (Zn (T:=TT) (t:=28) rfl rfl hw 1 rfl rfl)
  obtain ⟨t,ht,ht2⟩:=wStr (Zn (T:=TT) (t:=28) rfl rfl hw 2 rfl rfl)
  obtain ⟨u,hu,hu2⟩:=wStr (Zn (T:=TT) (t:=28) rfl rfl hw 3 rfl rfl)
  obtain ⟨e4,h4,_,g4⟩:=Zd7 (T:=TT) (t:=22) rfl rfl rfl (Zn (T:=TT) (t:=28) rfl rfl hw 4 rfl rfl)
  obtain ⟨e5,h5,_,g5⟩:=Zd7 (T:=TT) (t:=23) rfl rfl rfl (Zn (T:=TT) (t:=28) rfl rfl hw 5 rfl rfl)
  obtain ⟨e6,h6,_,g6⟩:=Zd7 (T:=TT) (t:=24) rfl rfl rfl (Zn (T:=TT) (t:=28) rfl rfl hw 6 rfl rfl)
  obtain ⟨e7,h7,_,g7⟩:=Zd7 (T:=TT) (t:=25) rfl rfl rfl (Zn (T:=TT) (t:=28) rfl rfl hw 7 rfl rfl)
  obtain ⟨e8,h8,_,g8⟩:=Zd7 (T:=TT) (t:=26) rfl rfl rfl (Zn (T:=TT) (t:=28) rfl rfl hw 8 rfl rfl)
  obtain ⟨l4,k4,_⟩:=Ztj (f:=Mat.av) (fun x hx=>wMat hx) e4 g4
  obtain ⟨l5,k5,_⟩:=Ztj (f:=pt) (P:=fun _=>True) (fun x hx=>(wP2 hx).imp fun p hp=>⟨hp,trivial⟩) e5 g5
  obtain ⟨l6,k6,_⟩:=Ztj (f:=Wal.av) (fun x hx=>wWal hx) e6 g6
  obtain ⟨l7,k7,_⟩:=Ztj (f:=Can.av) (fun x hx=>wCan hx) e7 g7
  obtain ⟨l8,k8,_⟩:=Ztj (f:=Sea.av) (fun x hx=>wSea hx) e8 g8
  have hs:[x0]=[.str s]:=hs
  have hn:[x1]=[I n]:=hn
  have ht:[x2]=[.str t]:=ht
  have hu:[x3]=[.str u]:=hu
  have h4:[x4]=[.isl 6 e4]:=h4
  have h5:[x5]=[.isl 2 e5]:=h5
  have h6:[x6]=[.isl 3 e6]:=h6
  have h7:[x7]=[.isl 7 e7]:=h7
  have h8:[x8]=[.isl 4 e8]:=h8
  cases hs; cases hn; cases ht; cases hu; cases h4; cases h5; cases h6; cases h7; cases h8
  exact ⟨⟨s,n,t,u,l4,l5,l6,l7,l8⟩,by rw [k4,k5,k6,k7,k8]⟩
theorem wStg {m:Nat} {x:List AV} (hw:WT TT (m+10+1) 31 x):∃ s:Stg,x=s.cells:=by
 have h0:=(Va (T:=TT) (t:=31) rfl rfl hw).1
 have h0:x.length=2:=h0
 match x,h0 with
 | [x0,x1],_ =>
  obtain ⟨a,ha⟩:=Ydt (Zn (T:=TT) (t:=31) rfl rfl hw 0 rfl rfl)
  obtain ⟨b,hb⟩:=Ydt (Zn (T:=TT) (t:=31) rfl rfl hw 1 rfl rfl)
  have ha:[x0]=[.isl 1 (nl a)]:=ha
  have hb:[x1]=[.isl 1 (nl b)]:=hb
  cases ha; cases hb
  exact ⟨⟨a,b⟩,rfl⟩
theorem Zz8 {a:AV} (h:WTA TT 33 a):∃ (h:Hal) (s:Stg),a = .agg (stgL h s):=by
 obtain ⟨x,m,rfl,hw⟩:=Zux (T:=TT) (t:=33) h rfl rfl 11
 have h0:=(Va (T:=TT) (t:=33) rfl rfl hw).1
 have h0:x.length=11:=h0
 match x,h0 with
 | [x0,x1,x2,x3,x4,x5,x6,x7,x8,x9,x10],_ =>
  obtain ⟨hl,hh⟩:=Yi1 (Zn (T:=TT) (t:=33) rfl rfl hw 0 rfl rfl)
  obtain ⟨st,hs⟩:=wStg (Zn (T:=TT) (t:=33) rfl rfl hw 1 rfl rfl)
  have hh:[x0,x1,x2,x3,x4,x5,x6,x7,x8]=hl.cells:=hh
  have hs:[x9,x10]=st.cells:=hs
  cases hh; cases hs
  exact ⟨hl,st,rfl⟩
theorem Yiv {a:AV} (h:WTA TT 37 a):∃ b:Ask,a=b.av:=by
 obtain ⟨x,m,rfl,hw⟩:=Zux (T:=TT) (t:=37) h rfl rfl 11
 have h0:=(Va (T:=TT) (t:=37) rfl rfl hw).1
 have h0:x.length=7:=h0
 match x,h0 with
 | [x0,x1,x2,x3,x4,x5,x6],_ =>
  obtain ⟨n1,e1,l1,_⟩:=Zlv (T:=TT) (t:=35) rfl rfl rfl (Zn (T:=TT) (t:=37) rfl rfl hw 0 rfl rfl)
  obtain ⟨n2,e2,l2,_⟩:=Zlv (T:=TT) (t:=35) rfl rfl rfl (Zn (T:=TT) (t:=37) rfl rfl hw 1 rfl rfl)
  obtain ⟨n,hn⟩:=wInt (Zn (T:=TT) (t:=37) rfl rfl hw 2 rfl rfl)
  have l1:n1.length=3:=l1
  have l2:n2.length=3:=l2
  have hn:[x6]=[I n]:=hn
  match n1,l1,n2,l2 with
  | [a,b,c],_,[d,e,f],_ =>
   have e1:[x0,x1,x2]=[I a,I b,I c]:=e1
   have e2:[x3,x4,x5]=[I d,I e,I f]:=e2
   cases e1; cases e2; cases hn
   exact ⟨⟨a,b,c,d,e,f,n⟩,rfl⟩
def tysU:List TypeId:=[33,37,39,35,28,31,22,23,24,25,26,29,67,69,119,103,124,101,9,3]
theorem Ygg {a:AV} (h:WTA TT 62 a):∃ x y,a=P2 x y:=by
 obtain ⟨m,zs,hm,ha⟩:=h 4
 have ha:a = .agg zs:=ha
 obtain ⟨h1,h2⟩:=Zrn (T:=TT) (t:=62) (d:=m+3) rfl rfl rfl hm
 have h1:zs.length=2:=h1
 match zs,h1 with
 | [x,y],_ =>
  obtain ⟨p,hp⟩:=wInt (h2 0 (by omega))
  obtain ⟨q,hq⟩:=wInt (h2 1 (by omega))
  have hp:[x]=[I p]:=hp
  have hq:[y]=[I q]:=hq
  cases hp; cases hq
  exact ⟨p,q,ha⟩
def tysT:List TypeId:=62::tysU
theorem Ygf:tysT.all (Ziz (tget tbl) tysT)=true:=by kernel_rfl
end Go.Proofs.YtfkdpbklbegnlaaGreat
