/- A part of the proof: lemmas. -/
import Derived.Test.YtfkdpbklbegnlaaGreatZ13
import Derived.Test.YtfkdpbklbegnlaaGreatZ7
import Derived.Test.YtfkdpbklbegnlaaGreatZ12
import Derived.Test.YtfkdpbklbegnlaaGreatZ10
import Derived.Laws.Bits64b
import Derived.Lib.Mul64
set_option linter.unusedVariables false
set_option linter.unusedSimpArgs false
set_option maxRecDepth 100000
set_option maxHeartbeats 16000000
open BitVec renaming ofInt->Sn
open Bool renaming and_eq_true->Qc,false_or->Pk,or_eq_true->Qz
open Go.IntKind renaming i64->Qb,u64->Rw,wrap->Qa,wrap_i64->Tj,wrap_u64->Gd
open Go.Lib renaming half_mul_le->Jv
open Go.RowKit.Below renaming refl->Qac
open Go.Sx.AV renaming asl->Wn
open Go.Sx.AV.agg renaming injEq->Nc
open Go.Sx.AV.int renaming injEq->Sr
open Go.Sx.Done renaming mk->Ql
open Go.Sx.LpM renaming start->Su,succ->Qx
open Go.Value renaming slice->Lu
open Int renaming emod_lt_of_pos->Oo,emod_nonneg->Lj,eq_ofNat_of_zero_le->Ge,le_of_lt->Qu,lt_trichotomy->Tb,mul_comm->Re,mul_ediv_add_emod->Ny,mul_le_mul_of_nonneg_left->Rk,mul_le_mul_of_nonneg_right->Qg,mul_lt_mul_of_pos_right->Tg,mul_neg->Sf,mul_neg_of_neg_of_pos->Hc,mul_neg_of_pos_of_neg->Ot,mul_nonneg->Qq,mul_pos->Rm,mul_zero->Tf,neg_mul->Tt,toNat->Tp
open List renaming any_cons->Ng,exists_cons_of_length_pos->Kt,getElem?_eq_getElem->Qe,getElem_mem->Qr,length_cons->Ru,length_nil->Wp,mem_cons->Rb,mem_map->Wd
open List.cons renaming injEq->Qs
open Nat renaming beq->Qp,le_refl->Qd,zero_add->Ry,zero_le->Qn
open Option renaming isNone->Ht
namespace Go.Proofs.YtfkdpbklbegnlaaGreat
open Go Go.Sx
theorem d103 {ns:List Int} (h0:0<ns.length) (hl:ns.length<100000):PCall Tryz.prog 37 [.isl 1 (nl ns)] ⟨.asl 0 0 (nl ns).length,[(1,nl ns)]⟩:=by
 obtain ⟨x,l,rfl⟩:=Kt h0
 have h1:=Zpi (x::l)
 have h2:=Zk (x::l)
 refine pn Zc Tryz.func37 ?_
 repeat'(first|refine wk3 ?_|(refine wk2 ?_ ?_<;>intro _)|fail)
 refine Yg [1] rfl ?_ rfl
 show Wn 1 0 (0+(nl (x::l)).length)=Wn 1 0 (nl (x::l)).length
 rw [Ry]
theorem w103 (a:Option Addr) (cap:Nat) (w:World):Calls Tryz.prog 37 #[.slice a 0 cap] w fun e w'=>∃ a' cap',e = .returned (.slice a' 0 cap')/\RowKit.Below w.heap.size w w':=by
 have e:∀ w:World,Sem.run Tryz.prog (binOp BinOp.eql 29 (Lu a 0 cap) (Lu none 0 0)) w = .ok (.bool a.isNone) w:=by
  intro w
  cases a<;>rfl
 cases a with
 | none =>
  simp only [Ht] at e
  go_enter Tryz.func37,Tryz.ntmps37
  go_wp2
  go_ret
  exact ⟨_,_,rfl,Qac _ _⟩
 | some a =>
  simp only [Ht] at e
  go_enter Tryz.func37,Tryz.ntmps37
  go_wp2
  go_ret
  exact ⟨_,_,rfl,Zln _ _⟩
theorem Yjx:PCall Tryz.prog 37 [.isl 1 []] ⟨.isl 1 [],[]⟩:=Zpf (FnOK.of Tryz.func37 (by kernel_rfl) (by kernel_rfl)) w103
theorem Zpj (l:List (Int × Int × Int × Int)):Uc (l.map hp4)=true:=by simp [Uc,AV.one]
theorem d104 {ps:List (Int × Int × Int × Int)} (h0:0<ps.length) (hl:ps.length<100000):PCall Tryz.prog 114 [.isl 4 (ps.map hp4)] ⟨.asl 0 0 (ps.map hp4).length,[(4,ps.map hp4)]⟩:=by
 obtain ⟨x,l,rfl⟩:=Kt h0
 have h1:=Zpj (x::l)
 have h2:((x::l).map hp4).length=(x::l).length:=by simp
 refine pn Zc Tryz.func114 ?_
 repeat'(first|refine wk3 ?_|(refine wk2 ?_ ?_<;>intro _)|fail)
 refine Yg [1] rfl ?_ rfl
 show Wn 1 0 (0+((x::l).map hp4).length)=Wn 1 0 ((x::l).map hp4).length
 rw [Ry]
theorem w104 (a:Option Addr) (cap:Nat) (w:World):Calls Tryz.prog 114 #[.slice a 0 cap] w fun e w'=>∃ a' cap',e = .returned (.slice a' 0 cap')/\RowKit.Below w.heap.size w w':=by
 have e:∀ w:World,Sem.run Tryz.prog (binOp BinOp.eql 73 (Lu a 0 cap) (Lu none 0 0)) w = .ok (.bool a.isNone) w:=by
  intro w
  cases a<;>rfl
 cases a with
 | none =>
  simp only [Ht] at e
  go_enter Tryz.func114,Tryz.ntmps114
  go_wp2
  go_ret
  exact ⟨_,_,rfl,Qac _ _⟩
 | some a =>
  simp only [Ht] at e
  go_enter Tryz.func114,Tryz.ntmps114
  go_wp2
  go_ret
  exact ⟨_,_,rfl,Zln _ _⟩
theorem Ykw:PCall Tryz.prog 114 [.isl 4 []] ⟨.isl 4 [],[]⟩:=Zpf (FnOK.of Tryz.func114 (by kernel_rfl) (by kernel_rfl)) w104
def trV (p:Pth):Pth:=⟨p.ss.reverse,p.ps.reverse,p.sq⟩
abbrev Pl3:=Int × Int × Int
def plcB (x y z:Int):Bool:=within x (-5000) 5000&&within y (-5000) 5000&&within z (-5000) 5000
def plaE (h:Hal) (x y z:Int):Int:=if plcB x y z=true then unl (Za2 h ⟨x,y,z,1⟩) 24 else 2
theorem d123 (x y z:Int):PCall Tryz.prog 107 [P3 x y z] ⟨P4 x y z 1,[]⟩:=by
 refine pn Zc Tryz.func107 ?_
 repeat'(first|refine wk3 ?_|(refine wk2 ?_ ?_<;>intro _)|fail)
 all_goals exact Ze rfl rfl
theorem d83 (n:Int):PCall Tryz.prog 82 [I n] ⟨Bo (within n (-5000) 5000),[]⟩:=by
 refine pn (Zd (c30 n (-5000) 5000) Zc) Tryz.func82 ?_
 repeat'(first|refine wk3 ?_|(refine wk2 ?_ ?_<;>intro _)|fail)
 exact Zb rfl
theorem d81 (n:Int):PCall Tryz.prog 67 [I n] ⟨I (unl (within n 0 4) 2),[]⟩:=by
 refine bs.pv (sx:=nos) (Zd (d210 n 0 4) (Zd (d209 (within n 0 4) 2) Zc)) Tryz.func67 (by kernel_rfl) (by kernel_rfl) rfl ?_
 repeat'(first|refine wk3 ?_|(refine wk2 ?_ ?_<;>intro _)|fail)
 exact Za rfl
theorem d68 (n:Int):PCall Tryz.prog 43 [I n] ⟨I (unl (within n 0 4) 2),[]⟩:=by
 refine pn (Zd (c30 n 0 4) Zc) Tryz.func43 ?_
 repeat'(first|refine wk3 ?_|(refine wk2 ?_ ?_<;>intro _)|fail)
 all_goals exact Za (by simp_all [unl])
theorem Ztn (n:Int):small n 5000=within n (-5000) 5000:=rfl
theorem Yik {x y z:Int} (c:plcB x y z=true):Xh ⟨x,y,z,1⟩=0:=by
 simp only [plcB,Qc,within_iff] at c
 have hg:g4 ⟨x,y,z,1⟩=1:=by
  simp [g4]
 unfold Xh
 rw [if_neg (by simp [hg]),if_neg (by simp),if_pos]
 unfold ptIn
 simp only [Qc,within_iff]
 simp
 omega
def r86:List AV->Option PRes
 | [.int .i64 n,.int .i64 m]=>some ⟨Bo (small n m),[]⟩
 | _=>none
theorem Yh7 {pt:PC} (h:PCOK Tryz.prog pt):PCOK Tryz.prog (ins 105 r86 pt):=Zh (fun a res h=>by unfold r86 at h; split at h<;>cases h; exact d86 _ _) h
def r83:List AV->Option PRes
 | [.int .i64 n]=>some ⟨Bo (within n (-5000) 5000),[]⟩
 | _=>none
theorem Yh9 {pt:PC} (h:PCOK Tryz.prog pt):PCOK Tryz.prog (ins 82 r83 pt):=Zh (fun a res h=>by unfold r83 at h; split at h<;>cases h; exact d83 _) h
theorem d79 {h:Hal} (hk:h.ok) (he:h.err=0) (x y z:Int):PCall Tryz.prog 65 [h.av,P3 x y z] ⟨I (plaE h x y z),[]⟩:=by
 have hk0:=Yh7 (Zd (d123 x y z) Zc)
 by_cases c:plcB x y z=true
 ·have hp:=Yik c
  have hi:insE h ⟨x,y,z,1⟩=0:=by unfold insE; rw [if_pos he,hp]
  have hw:Pt.wf ⟨x,y,z,1⟩:=by
   simp only [plcB,Qc,within_iff] at c;refine ⟨⟨?_,?_⟩,⟨?_,?_⟩,⟨?_,?_⟩,⟨?_,?_⟩⟩<;>dsimp only<;>omega
  have h50:=c50 hk hw
  rw [hi] at h50
  unfold plaE
  rw [if_pos c]
  generalize Za2 h ⟨x,y,z,1⟩=b at *
  have hk1:=Zd h50 (Zd (d209 b 24) hk0)
  simp only [plcB,Qc,<-Ztn] at c
  refine pn hk1 Tryz.func65 ?_
  repeat'(first|refine wk3 ?_|(refine wk2 ?_ ?_<;>intro _)|fail)
  all_goals first
   | exact Za rfl
   | (exfalso; clear hk1 h50 hk0 hp hi; simp_all; done)
 ·unfold plaE
  rw [if_neg c]
  simp only [plcB,<-Ztn] at c
  refine pn hk0 Tryz.func65 ?_
  repeat'(first|refine wk3 ?_|(refine wk2 ?_ ?_<;>intro _)|fail)
  all_goals first
   | exact Za rfl
   | (exfalso; clear hk0; simp_all; done)
theorem d27 {h:Hal} (hk:h.ok) (he:h.err=0) (x y z:Int):PCall Tryz.prog 42 [h.av,P3 x y z] ⟨I (plaE h x y z),[]⟩:=by
 have hf:=Zld hk he
 have hk0:=Zd (c52 hk.f hf.le.2.2.1 (Zx6 hf.st) ⟨x,y,z,1⟩) (Yh9 (Zd (c36 x y z) Zc))
 unfold plaE plcB
 generalize Za2 h ⟨x,y,z,1⟩=b at *
 refine pn hk0 Tryz.func42 ?_
 repeat'(first|refine wk3 ?_|(refine wk2 ?_ ?_<;>intro _)|fail)
 all_goals clear hk0
 all_goals exact Za (by simp_all [unl])
abbrev pl3 (p:Pl3):List AV:=[I p.1,I p.2.1,I p.2.2]
def im1 (h:Hal) (s:Stg) (n:Int) (p:Pl3):Pl3:=rmir (Zi h s n).1 (Zi h s n).2 p.1 p.2.1 p.2.2
def imA (f:Int->Pl3->Pl3) (p:Pl3) (l:List Int) (k:Nat):Pl3:=(l.take k).foldl (fun q n=>f n q) p
theorem Zn4 (f:Int->Pl3->Pl3) (p:Pl3) {l:List Int} {k:Nat} (hk:k<l.length):imA f p l (k+1)=f l[k] (imA f p l k):=by
 unfold imA
 rw [List.take_succ_eq_append_getElem hk,List.foldl_append]
 rfl
def imC (f:Int->Pl3->Pl3) (p:Pl3) (l:List Int) (k:Nat):List (List AV):=(List.range (k+1)).map fun j=>pl3 (imA f p l j)
theorem Zes (f:Int->Pl3->Pl3) (p:Pl3) (l:List Int) (k:Nat):(imC f p l k).length=k+1:=by simp [imC]
theorem Zjm (f:Int->Pl3->Pl3) (p:Pl3) (l:List Int) (k:Nat):(imC f p l k)[k]?=some (pl3 (imA f p l k)):=by simp [imC]
theorem Zuh (f:Int->Pl3->Pl3) (p:Pl3) (l:List Int) (k:Nat):imC f p l (k+1)=imC f p l k++[pl3 (imA f p l (k+1))]:=by
 unfold imC
 rw [List.range_succ,List.map_append]
 rfl
theorem Yb5 {h:Hal} {s:Stg} (g:Sit h s) {i:Int} (hi:SK h i):(Zi h s i).1<=2->(-5000<=(Zi h s i).2/\(Zi h s i).2<=5000):=by
 have ht:=g.fine.ht
 cases hi with
 | wall k hk =>
  have hk2:k<h.cs.length:=by have:=g.fine.le; omega
  obtain ⟨n,sx,sy,hs⟩:=g.fine.st k hk2
  rw [Zaa hk,Znu hs]
  have:=hs.b1
  have:=hs.b2
  repeat' split
  all_goals (dsimp only; omega)
 | floor=>rw [Zan]; dsimp only; omega
 | ceil=>rw [Zbj]; dsimp only; omega
 | can j hj =>
  rw [Zcm]
  have:=Zuk g hj
  dsimp only; omega
def Near (m:Int) (p:Pl3):Prop:=(-m<=p.1/\p.1<=m)/\(-m<=p.2.1/\p.2.1<=m)/\(-m<=p.2.2/\p.2.2<=m)
theorem Zui {h:Hal} {s:Stg} (g:Sit h s) {i:Int} (hi:SK h i) {m:Int} (hm:m<=35000) {p:Pl3} (hp:Near m p):Near (m+10000) (im1 h s i p)/\Ud (Zi h s i).1 (Zi h s i).2 p.1 p.2.1 p.2.2=0/\mirP (Zi h s i).1 (Zi h s i).2 p.1 p.2.1 p.2.2=im1 h s i p:=by
 have b:=Znt g hi
 have b2:=Yb5 g hi
 obtain ⟨x,y,z⟩:=p
 obtain ⟨hx,hy,hz⟩:=hp
 dsimp only at hx hy hz
 unfold im1
 generalize (Zi h s i).1=k at *
 generalize (Zi h s i).2=a at *
 have key:Near (m+10000) (rmir k a x y z):=by
  unfold rmir Near
  have w2:Qa Qb (2*a)=2*a:=W_eq (by omega) (by omega)
  by_cases k0:k=0
  ·subst k0; have:=b2 (by omega); simp only [if_pos]; rw [w2,W_eq (by omega) (by omega)]; omega
  by_cases k1:k=1
  ·subst k1; have:=b2 (by omega); simp; rw [w2,W_eq (by omega) (by omega)]; omega
  by_cases k2:k=2
  ·subst k2; have:=b2 (by omega); simp; rw [w2,W_eq (by omega) (by omega)]; omega
  by_cases k3:k=3
  ·subst k3; simp; rw [W_eq (by omega) (by omega),W_eq (by omega) (by omega)]; omega
  have k4:k=4:=by omega
  subst k4; simp; rw [W_eq (by omega) (by omega),W_eq (by omega) (by omega)]; omega
 have e:=Zvt b.1 b.2 (x:=x) (y:=y) (z:=z) (by omega) (by omega) (by omega) (u:=(rmir k a x y z).1) (v:=(rmir k a x y z).2.1) (w:=(rmir k a x y z).2.2) rfl
  (by have:=key.1; omega) (by have:=key.2.1; omega) (by have:=key.2.2; omega)
 refine ⟨key,by rw [Zpq]; exact e,?_⟩
 rw [Yf2]
 unfold Yfh
 rw [if_pos e]
theorem Zjn {h:Hal} {s:Stg} (g:Sit h s) {p:Pl3} (hp:Near 5000 p) {l:List Int} (hl:l.length<=4) (hi:∀ n∈l,SK h n):∀ k,k<=l.length->Near (5000+10000*k) (imA (im1 h s) p l k)
 | 0,_=>by simpa [imA] using hp
 | k+1,hk=>by
  rw [Zn4 _ _ (by omega)]
  have:=(Zui g (hi l[k] (Qr _)) (m:=5000+10000*k) (by omega) (Zjn g hp hl hi k (by omega))).1
  rw [show (5000:Int)+10000*((k+1:Nat):Int)=5000+10000*k+10000 by omega]
  exact this
theorem Yie {pt:PC} (h:PCOK Tryz.prog pt):PCOK Tryz.prog (ins 162 r32 pt):=Zh (fun a res h=>by unfold r32 at h; split at h<;>cases h; exact c32 _ _ _ _ _) h
noncomputable abbrev plT (h:Hal) (s:Stg):List AV->Option PRes:=famA (fun i:Int=>0<=i/\i<nsur h) (fun i=>[h.av,s.av,I i]) (fun i=>⟨.tup [P2 (Zi h s i).1 (Zi h s i).2,I 0],[]⟩)
theorem Yih {h:Hal} (hk:h.ok) {s:Stg} (hs:s.few) (h0:serr h s=0) {pt:PC} (hp:PCOK Tryz.prog pt):PCOK Tryz.prog (ins 161 (plT h s) pt) :=
 Zo (fun i hi=>by
  have e:surE h s i=0:=by
   unfold surE;rw [if_pos h0,if_pos (within_iff.2 (by omega))]
  have e2:Zi0 h s i=Zi h s i:=by unfold Zi0; rw [if_pos e]
  have:=c54 hk hs i
  rw [e,e2] at this
  exact this) hp
theorem Yfu {h:Hal} {s:Stg} {i:Int} (hi:0<=i/\i<nsur h):plT h s [h.av,s.av,I i]=some ⟨.tup [P2 (Zi h s i).1 (Zi h s i).2,I 0],[]⟩ :=
 Zm (p:=fun i:Int=>0<=i/\i<nsur h) (g:=fun i=>[h.av,s.av,I i]) (r:=fun i=>⟨.tup [P2 (Zi h s i).1 (Zi h s i).2,I 0],[]⟩) (fun j hj=>by
  simp only [Qs,Sr,true_and,and_true] at hj
  rw [hj]) hi
theorem d82 {h:Hal} (hk:h.ok) {s:Stg} (hs:s.few) (h0:serr h s=0) {p:Pl3} (hp:Near 5000 p) {l:List Int} (hl:l.length<=4) (hi:∀ n∈l,0<=n/\n<nsur h) :
  PCall Tryz.prog 111 [.agg (stgL h s),P3 p.1 p.2.1 p.2.2,.isl 1 (nl l)] ⟨.asl 0 0 (l.length+1),[(3,imC (im1 h s) p l l.length)]⟩:=by
 have g:=Zed hk hs h0
 have hkk:=Yih hk hs h0 (Yie Zc)
 have ll:=Zk l
 refine pn hkk Tryz.func111 ?_
 refine Zr (S:=Nat × Int × Nat × List (List AV)) (fun t=>l.length-t.1) (fun t=>[(3,.ptr 0 0 0),(7,.asl (nm2 2 3 t.1) 0 t.2.2.1),(16,.isl 1 (nl l)),(17,I (nl l).length),(18,I t.2.1)]) (fun t=>[(nm2 2 3 t.1,.row 3 t.2.2.2 true true),(0,.row 11 [stgL h s] true false)]) 3 4
  (fun t=>t.2.1=t.1/\t.1<=l.length/\t.2.2.1=t.2.2.2.length/\t.2.2.2=imC (im1 h s) p l t.1) (0,0,1,[pl3 p]) ⟨rfl,Qn _,rfl,rfl⟩ (Qd _) [] rfl (kps) (kps) ?_
 rintro ⟨k,i,len,els⟩ ⟨hi',hk',hlen,hels⟩
 dsimp only at hi' hk' hlen hels ⊢
 subst hi'
 refine bs.av (sx:=nos) hkk ?_
 have e1:els.length=k+1:=by rw [hels,Zes]
 have e2:els[0+(Qa Qb ((len:Int)-1)).toNat]?=some (pl3 (imA (im1 h s) p l k)):=by
  rw [Ry,hlen,e1,W_eq (by omega) (by omega),show (((k+1:Nat):Int)-1).toNat=k by omega,hels,Zjm]
 have e8:Qa Qb ((len:Int)-1)=k:=by rw [hlen,e1,W_eq (by omega) (by omega)]; omega
 have hnr:=Zjn g hp hl (fun n hn=>Zjd (hi n hn).1 (hi n hn).2) k hk'
 by_cases hlt:k<l.length
 ·have e3:(nl l)[((k:Nat):Int).toNat]?=some [I l[k]]:=by simp [nl,hlt]
  have hin:=hi l[k] (Qr _)
  have e4:=Yfu (s:=s) hin
  have e5:=Zui g (Zjd hin.1 hin.2) (by omega) hnr
  have e6:=Zn4 (im1 h s) p hlt
  have e7:=Zuh (im1 h s) p l k
  rw [<-hels,e6] at e7
  rw [<-e5.2.2] at e7
  clear e6 hels
  generalize imA (im1 h s) p l k=q at *
  generalize l[k]=n at *
  cases k with
  | zero =>
   repeat'(first|refine wk3 ?_|(refine wk2 ?_ ?_<;>intro _)|fail)
   exact Ql ⟨(1,_,_,_),[(3,20)],rfl,kps,kps,⟨Zg (k:=0) (by omega),hlt,by exact List.length_append.symm,e7.symm⟩,by dsimp only; omega⟩
  | succ k =>
   repeat'(first|refine wk3 ?_|(refine wk2 ?_ ?_<;>intro _)|fail)
   exact Ql ⟨(k+1+1,_,_,_),[(3,20)],rfl,kps,kps,⟨Zg (k:=k+1) (by omega),hlt,by exact List.length_append.symm,e7.symm⟩,by dsimp only; omega⟩
 ·have ek:k=l.length:=by omega
  subst ek
  rw [hels]
  rw [hels,Zes] at hlen
  subst hlen
  cases l with
  | nil =>
   repeat'(first|refine wk3 ?_|(refine wk2 ?_ ?_<;>intro _)|fail)
   exact Yg [2] rfl rfl rfl
  | cons a l =>
   repeat'(first|refine wk3 ?_|(refine wk2 ?_ ?_<;>intro _)|fail)
   exact Yg [3] rfl rfl rfl
theorem Yh8 {pt:PC} (h:PCOK Tryz.prog pt):PCOK Tryz.prog (ins 204 r96 pt):=Zh (fun a res h=>by unfold r96 at h; split at h<;>cases h; exact c96 _ _ _ _ _) h
noncomputable abbrev plR (h:Hal) (s:Stg):List AV->Option PRes:=famA (fun i:Int=>SK h i) (fun i=>[h.av,s.av,I i]) (fun i=>⟨P2 (Zi h s i).1 (Zi h s i).2,[]⟩)
theorem Yii {h:Hal} {s:Stg} (g:Sit h s) {pt:PC} (hp:PCOK Tryz.prog pt):PCOK Tryz.prog (ins 205 (plR h s) pt):=Zo (fun i hi=>c59 g hi) hp
theorem Yfv {h:Hal} {s:Stg} {i:Int} (hi:SK h i):plR h s [h.av,s.av,I i]=some ⟨P2 (Zi h s i).1 (Zi h s i).2,[]⟩ :=
 Zm (p:=fun i:Int=>SK h i) (g:=fun i=>[h.av,s.av,I i]) (r:=fun i=>⟨P2 (Zi h s i).1 (Zi h s i).2,[]⟩) (fun j hj=>by
  simp only [Qs,Sr,true_and,and_true] at hj
  rw [hj]) hi
theorem d28 {h:Hal} {s:Stg} (g:Sit h s) {p:Pl3} {l:List Int} (hl:l.length<=4) (hi:∀ n∈l,SK h n) :
  PCall Tryz.prog 134 [h.av,s.av,P3 p.1 p.2.1 p.2.2,.isl 1 (nl l)] ⟨.asl 0 0 (l.length+1),[(3,imC (im1 h s) p l l.length)]⟩:=by
 have hkk:=Yii g (Yh8 Zc)
 have ll:=Zk l
 refine pn hkk Tryz.func134 ?_
 refine Zr (S:=Nat × Int × Nat × List (List AV)) (fun t=>l.length-t.1) (fun t=>[(3,.isl 1 (nl l)),(4,.ptr 0 0 0),(5,.ptr 1 0 0),(9,.asl (nm2 3 4 t.1) 0 t.2.2.1),(10,I t.2.1)]) (fun t=>[(nm2 3 4 t.1,.row 3 t.2.2.2 true true),(1,.row 2 [[.isl 1 (nl s.hs),.isl 1 (nl s.dr)]] true false),(0,.row 9 [h.cells] true false)]) 4 5
  (fun t=>t.2.1=t.1/\t.1<=l.length/\t.2.2.1=t.2.2.2.length/\t.2.2.2=imC (im1 h s) p l t.1) (0,0,1,[pl3 p]) ⟨rfl,Qn _,rfl,rfl⟩ (Qd _) [] rfl (kps) (kps) ?_
 rintro ⟨k,i,len,els⟩ ⟨hi',hk',hlen,hels⟩
 dsimp only at hi' hk' hlen hels ⊢
 subst hi'
 refine bs.av (sx:=nos) hkk ?_
 have e1:els.length=k+1:=by rw [hels,Zes]
 have e2:els[0+((k:Nat):Int).toNat]?=some (pl3 (imA (im1 h s) p l k)):=by
  rw [Ry,show ((k:Nat):Int).toNat=k by omega,hels,Zjm]
 by_cases hlt:k<l.length
 ·have e3:(nl l)[((k:Nat):Int).toNat]?=some [I l[k]]:=by simp [nl,hlt]
  have e4:=Yfv (s:=s) (hi l[k] (Qr _))
  have e6:=Zn4 (im1 h s) p hlt
  have e7:=Zuh (im1 h s) p l k
  rw [<-hels,e6] at e7
  clear e6 hels
  generalize imA (im1 h s) p l k=q at *
  generalize l[k]=n at *
  cases k with
  | zero =>
   repeat'(first|refine wk3 ?_|(refine wk2 ?_ ?_<;>intro _)|fail)
   refine Zlp (ys:=[pl3 (rmir (Zi h s n).1 (Zi h s n).2 q.1 q.2.1 q.2.2)]) rfl rfl rfl rfl rfl rfl rfl rfl rfl rfl (by simp) hlen (by simp only [Ru,Wp]; omega) ?_;conv=>whnf
   repeat'(first|refine wk3 ?_|(refine wk2 ?_ ?_<;>intro _)|fail)
   exact Ql ⟨(1,_,_,_),[(4,19)],rfl,kps,kps,⟨Zg (k:=0) (by omega),hlt,by exact List.length_append.symm,e7.symm⟩,by dsimp only; omega⟩
  | succ k =>
   repeat'(first|refine wk3 ?_|(refine wk2 ?_ ?_<;>intro _)|fail)
   refine Zlp (ys:=[pl3 (rmir (Zi h s n).1 (Zi h s n).2 q.1 q.2.1 q.2.2)]) rfl rfl rfl rfl rfl rfl rfl rfl rfl rfl (by simp) hlen (by simp only [Ru,Wp]; omega) ?_;conv=>whnf
   repeat'(first|refine wk3 ?_|(refine wk2 ?_ ?_<;>intro _)|fail)
   exact Ql ⟨(k+1+1,_,_,_),[(4,19)],rfl,kps,kps,⟨Zg (k:=k+1) (by omega),hlt,by exact List.length_append.symm,e7.symm⟩,by dsimp only; omega⟩
 ·have ek:k=l.length:=by omega
  subst ek
  rw [hels]
  rw [hels,Zes] at hlen
  subst hlen
  cases l with
  | nil =>
   repeat'(first|refine wk3 ?_|(refine wk2 ?_ ?_<;>intro _)|fail)
   exact Yg [3] rfl rfl rfl
  | cons a l =>
   repeat'(first|refine wk3 ?_|(refine wk2 ?_ ?_<;>intro _)|fail)
   exact Yg [4] rfl rfl rfl
structure Ask where
 fx:Int
 fy:Int
 fz:Int
 tx:Int
 ty:Int
 tz:Int
 n:Int
abbrev Ask.av (a:Ask):AV:=.agg [I a.fx,I a.fy,I a.fz,I a.tx,I a.ty,I a.tz,I a.n]
def Ask.same (a:Ask):Bool:=decide (a.fx=a.tx)&&(decide (a.fy=a.ty)&&decide (a.fz=a.tz))
def askE (h:Hal) (s:Stg) (a:Ask):Int:=if serr h s=0 then fstL [plaE h a.fx a.fy a.fz,plaE h a.tx a.ty a.tz,unl (!a.same) 11,unl (within a.n 0 4) 2] else serr h s
theorem Zgu {h:Hal} {s:Stg} (e:serr h s=0):h.err=0:=by
 unfold serr at e
 split at e
 ·assumption
 ·rename_i q; exact absurd e q
def r80:List AV->Option PRes
 | [.bool b,.int .i64 e]=>some ⟨I (unl b e),[]⟩
 | _=>none
theorem Yia {pt:PC} (h:PCOK Tryz.prog pt):PCOK Tryz.prog (ins 66 r80 pt):=Zh (fun a res h=>by unfold r80 at h; split at h<;>cases h; exact d209 _ _) h
noncomputable abbrev r79 (h:Hal):List AV->Option PRes:=famA (fun _:Pl3=>True) (fun p=>[h.av,P3 p.1 p.2.1 p.2.2]) (fun p=>⟨I (plaE h p.1 p.2.1 p.2.2),[]⟩)
theorem Yib {h:Hal} (hk:h.ok) (he:h.err=0) {pt:PC} (hp:PCOK Tryz.prog pt):PCOK Tryz.prog (ins 65 (r79 h) pt):=Zo (fun p _=>d79 hk he p.1 p.2.1 p.2.2) hp
theorem Zns (h:Hal) (x y z:Int):r79 h [h.av,P3 x y z]=some ⟨I (plaE h x y z),[]⟩ :=
 Zm (p:=fun _:Pl3=>True) (g:=fun p=>[h.av,P3 p.1 p.2.1 p.2.2]) (r:=fun p=>⟨I (plaE h p.1 p.2.1 p.2.2),[]⟩) (k:=(x,y,z)) (fun j hj=>by
  simp only [Qs,Nc,Sr,true_and,and_true] at hj
  obtain ⟨h1,h2,h3⟩:=hj
  rw [h1,h2,h3]) trivial
theorem Yif {h:Hal} (hk:h.ok) (he:h.err=0) {pt:PC} (hp:PCOK Tryz.prog pt):PCOK Tryz.prog (ins 42 (r79 h) pt):=Zo (fun p _=>d27 hk he p.1 p.2.1 p.2.2) hp
noncomputable abbrev rFst:List AV->Option PRes:=famA (fun l:List Int=>l.length<1000) (fun l=>[.isl 1 (nl l)]) (fun l=>⟨I (fstL l),[]⟩)
theorem Yfl {pt:PC} (hp:PCOK Tryz.prog pt):PCOK Tryz.prog (ins 64 rFst pt):=Zo (fun l hl=>d78 hl) hp
theorem Ybw {l:List Int} (h:l.length<1000):rFst [.isl 1 (nl l)]=some ⟨I (fstL l),[]⟩ :=
 Zm (p:=fun l:List Int=>l.length<1000) (g:=fun l=>[.isl 1 (nl l)]) (r:=fun l=>⟨I (fstL l),[]⟩) (fun j hj=>by
  simp only [Qs,AV.isl.injEq,true_and,and_true] at hj
  rw [Zi3 hj]) h
theorem d24 {h:Hal} (hk:h.ok) {s:Stg} (hs:s.few) (a:Ask):PCall Tryz.prog 33 [h.av,s.av,a.av] ⟨I (askE h s a),[]⟩:=by
 have hk0:=Zd (c47 hk hs) Zc
 by_cases e:serr h s=0
 ·have he:=Zgu e
  obtain ⟨fx,fy,fz,tx,ty,tz,n⟩:=a
  unfold askE
  rw [if_pos e]
  rw [e] at hk0
  dsimp only
  have hk1:=Yib hk he (Yia (Zd (d81 n) (Yfl hk0)))
  have q1:=Zns h fx fy fz
  have q2:=Zns h tx ty tz
  refine pn hk1 Tryz.func33 ?_
  repeat'(first|refine wk3 ?_|(refine wk2 ?_ ?_<;>intro _)|fail)
  refine wxG (Ybw (l:=[_,_,_,_]) (by simp)) ?_
  conv=>whnf
  repeat'(first|refine wk3 ?_|(refine wk2 ?_ ?_<;>intro _)|fail)
  exact Za (by simp [Ask.same])
 ·rw [show askE h s a=serr h s by unfold askE; rw [if_neg e]]
  refine pn hk0 Tryz.func33 ?_
  repeat'(first|refine wk3 ?_|(refine wk2 ?_ ?_<;>intro _)|fail)
  all_goals first
   | exact Za rfl
   | (exfalso; simp_all; done)
theorem d82f {h:Hal} (hk:h.ok) {s:Stg} (hs:s.few) (h0:serr h s=0) {p:Pl3} (hp:Near 5000 p) {l:List Int} (hl:l.length<=4) (hi:∀ n∈l,0<=n/\n<nsur h) :
  PCall Tryz.prog 111 [.agg (stgL h s),P3 p.1 p.2.1 p.2.2,.isl 1 (nl l)] ⟨.isl 3 (imC (im1 h s) p l l.length),[]⟩:=by
 have:=d82 hk hs h0 hp hl hi
 rw [show l.length+1=(imC (im1 h s) p l l.length).length by rw [Zes]] at this
 exact this.freeze ⟨rfl,rfl,rfl⟩
theorem d28f {h:Hal} {s:Stg} (g:Sit h s) {p:Pl3} {l:List Int} (hl:l.length<=4) (hi:∀ n∈l,SK h n) :
  PCall Tryz.prog 134 [h.av,s.av,P3 p.1 p.2.1 p.2.2,.isl 1 (nl l)] ⟨.isl 3 (imC (im1 h s) p l l.length),[]⟩:=by
 have:=d28 g (p:=p) hl hi
 rw [show l.length+1=(imC (im1 h s) p l l.length).length by rw [Zes]] at this
 exact this.freeze ⟨rfl,rfl,rfl⟩
theorem Zjk {h:Hal} {l:List Int} (e:suE h l=0):l.length<=4/\∀ n∈l,0<=n/\n<nsur h:=by
 unfold suE at e
 split at e
 ·cases e
 ·exact ⟨by omega,fun n hn=>by have:=Ztf e n hn; omega⟩
theorem Zg2 {h:Hal} {x y z:Int} (e:plaE h x y z=0):Near 5000 (x,y,z)/\Za2 h ⟨x,y,z,1⟩=true:=by
 unfold plaE at e
 split at e
 ·rename_i c
  simp only [plcB,Qc,within_iff] at c
  refine ⟨⟨by dsimp only; omega,by dsimp only; omega,by dsimp only; omega⟩,?_⟩
  unfold unl at e
  cases hb:Za2 h ⟨x,y,z,1⟩ with
  | true=>rfl
  | false=>rw [hb] at e; cases e
 ·cases e
def atW (c:Int × Int) (l m:Int):Int:=l*c.1+m*c.2
def Zk4 (cs:List (Int × Int)):Prop:=∃ l m:Int,0<l/\0<m/\∀ c∈cs,0<=atW c l m
theorem Yjz {l0 m0:Int} (h1:0<l0) (h2:0<m0) {l m:Int} (hl:0<l) (hm:0<m):∀ cs:List (Int × Int),(∀ c∈cs,0<=atW c l m)->∃ a b:Int,0<a/\0<b/\(∀ c∈cs,0<=atW c a b)/\((a=l0/\b=m0)\/∃ c∈cs,atW c a b=0)
 | [],_=>⟨l0,m0,h1,h2,by simp,.inl ⟨rfl,rfl⟩⟩
 | c::cs,h=>by
  obtain ⟨a,b,ha,hb,k1,k2⟩:=Yjz h1 h2 hl hm cs fun c' hc=>h c' (by simp [hc])
  have hT:=h c (by simp)
  by_cases hc:0<=atW c a b
  ·refine ⟨a,b,ha,hb,fun c' hc'=>?_,?_⟩
   ·rcases Rb.1 hc' with rfl|hc'
    ·exact hc
    ·exact k1 c' hc'
   ·rcases k2 with k2|⟨c',g1,g2⟩
    ·exact .inl k2
    ·exact .inr ⟨c',by simp [g1],g2⟩
  ·have hN:0 < -atW c a b:=by omega
   have comb:∀ c' : Int × Int,atW c' (-atW c a b*l+atW c l m*a) (-atW c a b*m+atW c l m*b) = -atW c a b*atW c' l m+atW c l m*atW c' a b:=by
    intro c';generalize atW c a b=N;generalize atW c l m=T;unfold atW; grind
   refine ⟨-atW c a b*l+atW c l m*a,-atW c a b*m+atW c l m*b,?_,?_,fun c' hc'=>?_,.inr ⟨c,by simp,?_⟩⟩
   ·have:=Rm hN hl
    have:=Qq hT (Qu ha);omega
   ·have:=Rm hN hm
    have:=Qq hT (Qu hb);omega
   ·rw [comb]
    rcases Rb.1 hc' with rfl|hc'
    ·have : -atW c' a b*atW c' l m+atW c' l m*atW c' a b=0:=by grind
     omega
    ·have:=Qq (Qu hN) (h c' (by simp [hc']))
     have:=Qq hT (k1 c' hc');omega
   ·rw [comb]; grind
def Yq:List (Int × Int)->Int->Int->Int->Int->Bool
 | [],n,d,m,k=>decide (cmpQ n d m k<=0)&&decide (cmpQ n d 1 1<0)&&decide (0<cmpQ m k 0 1)
 | (a,v)::l,n,d,m,k =>
  if v=0/\a<0 then false
  else if 0<v/\0<cmpQ (-a) v n d then Yq l (-a) v m k
  else if v<0/\cmpQ a (-v) m k<0 then Yq l n d a (-v)
  else Yq l n d m k
theorem Zhp:∀ (cs:List (Int × Int)) (n d m k:Int),0<d->0<k->0<=n->m<=k->(Yq cs n d m k=true↔∃ T D:Int,0<T/\T<D/\n*D<=T*d/\T*k<=m*D/\∀ c∈cs,0<=c.1*D+T*c.2)
 | [],n,d,m,k,hd,hk,hn,hm=>by
  unfold Yq cmpQ
  rw [Qc,Qc,decide_eq_true_eq,decide_eq_true_eq,decide_eq_true_eq,Ztq,Xq,Xp]
  constructor
  ·rintro ⟨⟨h1,h2⟩,h3⟩
   have hm0:0<m:=by omega
   have p1:=Rm hm0 hd;have p2:=Qq hn (Qu hk);have p3:=Tg (show n<d by omega) hk;have p4:=Qg hm (Qu hd);have e1:k*d=d*k:=Re _ _;refine ⟨n*k+m*d,2*(d*k),by omega,by omega,?_,?_,by simp⟩
   ·have:(n*k+m*d)*d-n*(2*(d*k))=d*(m*d-n*k):=by grind
    have:=Qq (Qu hd) (show 0<=m*d-n*k by omega);omega
   ·have:m*(2*(d*k))-(n*k+m*d)*k=k*(m*d-n*k):=by grind
    have:=Qq (Qu hk) (show 0<=m*d-n*k by omega);omega
  ·rintro ⟨T,D,h1,h2,h3,h4,_⟩
   have hD:0<D:=by omega
   refine ⟨⟨?_,?_⟩,?_⟩
   ·have q1:=Qg h3 (Qu hk)
    have q2:=Qg h4 (Qu hd);have e:D*(n*k-m*d)=n*D*k-m*D*d:=by grind
    have e2:T*d*k=T*k*d:=by grind
    have:=(np_l hD).1 (show D*(n*k-m*d)<=0 by omega);omega
   ·have q:=Tg h2 hd
    have e:D*(n-d)=n*D-D*d:=by grind
    have:=(Zdi hD).1 (show D*(n-d)<0 by omega);omega
   ·have q:=Rm h1 hk
    have e:D*m=m*D:=Re _ _;have:=(Zby hD).1 (show 0<D*m by omega);omega
 | (a,v)::l,n,d,m,k,hd,hk,hn,hm=>by
  rw [Yq]
  by_cases c1:v=0/\a<0
  ·rw [if_pos c1]
   constructor
   ·intro h; simp at h
   ·rintro ⟨T,D,h1,h2,_,_,h5⟩
    have:=h5 (a,v) (by simp);dsimp only at this;rw [c1.1,Tf] at this;have:=Hc c1.2 (show 0<D by omega);omega
  rw [if_neg c1]
  unfold cmpQ
  simp only [Xp,Xq]
  by_cases c2:0<v/\0 < -a*d-n*v
  ·rw [if_pos c2]
   have q1:=Qq hn (Qu c2.1)
   have hna:0 < -a:=by
    have:0<d * -a:=by rw [Re]; omega
    exact (Zby hd).1 this
   rw [Zhp l (-a) v m k c2.1 hk (by omega) hm]
   constructor
   ·rintro ⟨T,D,h1,h2,h3,h4,h5⟩
    refine ⟨T,D,h1,h2,?_,h4,fun c hc=>?_⟩
    ·have r1:=Qg h3 (Qu hd)
     have r2:=Qg (show n*v <= -a*d by omega) (show 0<=D by omega);have e1 : -a*d*D = -a*D*d:=by grind
     have e2:v*(n*D-T*d)=n*v*D-T*v*d:=by grind
     have:=(np_l c2.1).1 (show v*(n*D-T*d)<=0 by omega);omega
    ·rcases Rb.1 hc with rfl|hc
     ·dsimp only
      have : -a*D = -(a*D):=Tt _ _;omega
     ·exact h5 c hc
   ·rintro ⟨T,D,h1,h2,h3,h4,h5⟩
    refine ⟨T,D,h1,h2,?_,h4,fun c hc=>h5 c (by simp [hc])⟩;have:=h5 (a,v) (by simp);dsimp only at this;have : -a*D = -(a*D):=Tt _ _;omega
  rw [if_neg c2]
  by_cases c3:v<0/\a*k-m * -v<0
  ·rw [if_pos c3]
   have hv:0 < -v:=by omega
   have q1:=Qg hm (Qu hv)
   have hav:a <= -v:=by
    have:k*(a - -v)<0:=by
     have e:k*(a - -v)=a*k-k * -v:=by grind
     omega
    have:=(Zdi hk).1 this;omega
   rw [Zhp l n d a (-v) hd hv hn hav]
   constructor
   ·rintro ⟨T,D,h1,h2,h3,h4,h5⟩
    refine ⟨T,D,h1,h2,h3,?_,fun c hc=>?_⟩
    ·have r1:=Qg h4 (Qu hk)
     have r2:=Qg (show a*k<=m * -v by omega) (show 0<=D by omega);have e1:a*D*k=a*k*D:=by grind
     have e2 : -v*(T*k-m*D)=T * -v*k-m * -v*D:=by grind
     have:=(np_l hv).1 (show -v*(T*k-m*D)<=0 by omega);omega
    ·rcases Rb.1 hc with rfl|hc
     ·dsimp only
      have:T * -v = -(T*v):=Sf _ _;omega
     ·exact h5 c hc
   ·rintro ⟨T,D,h1,h2,h3,h4,h5⟩
    refine ⟨T,D,h1,h2,h3,?_,fun c hc=>h5 c (by simp [hc])⟩;have:=h5 (a,v) (by simp);dsimp only at this;have:T * -v = -(T*v):=Sf _ _;omega
  rw [if_neg c3,Zhp l n d m k hd hk hn hm]
  constructor
  ·rintro ⟨T,D,h1,h2,h3,h4,h5⟩
   refine ⟨T,D,h1,h2,h3,h4,fun c hc=>?_⟩
   rcases Rb.1 hc with rfl|hc
   ·dsimp only
    have hD:0<D:=by omega
    rcases Tb v 0 with hv|hv|hv
    ·have hx:m * -v<=a*k:=by omega
     have r1:=Qg h4 (show 0 <= -v by omega);have r2:=Qg hx (Qu hD);have e1:m*D * -v=m * -v*D:=by grind
     have e2:k*(a*D+T*v)=a*k*D-T*k * -v:=by grind
     exact (nn_l hk).1 (show 0<=k*(a*D+T*v) by omega)
    ·subst hv
     rw [Tf,Int.add_zero];exact Qq (by omega) (Qu hD)
    ·have hx : -a*d<=n*v:=by omega
     have r1:=Qg h3 (show 0<=v by omega);have r2:=Qg hx (Qu hD);have e1:n*D*v=n*v*D:=by grind
     have e2:d*(a*D+T*v)=T*d*v - -a*d*D:=by grind
     exact (nn_l hd).1 (show 0<=d*(a*D+T*v) by omega)
   ·exact h5 c hc
  ·rintro ⟨T,D,h1,h2,h3,h4,h5⟩
   exact ⟨T,D,h1,h2,h3,h4,fun c hc=>h5 c (by simp [hc])⟩
theorem Zvq {pd qd:Int} (h1:0<pd) (h2:0<qd) (cs:List (Int × Int)):(∃ T D:Int,0<T/\T<D/\∀ c∈cs,0<=c.1*qd*D+T*(c.2*pd-c.1*qd))↔Zk4 cs:=by
 constructor
 ·rintro ⟨T,D,a,b,h⟩
  refine ⟨qd*(D-T),pd*T,Rm h2 (by omega),Rm h1 a,fun c hc=>?_⟩
  have:=h c hc
  have e:atW c (qd*(D-T)) (pd*T)=c.1*qd*D+T*(c.2*pd-c.1*qd):=by unfold atW; grind
  omega
 ·rintro ⟨l,m,a,b,h⟩
  have k1:=Rm a h1
  have k2:=Rm b h2
  refine ⟨m*qd,l*pd+m*qd,k2,by omega,fun c hc=>?_⟩
  have:=Qq (Qu (Rm h1 h2)) (h c hc)
  have e:c.1*qd*(l*pd+m*qd)+m*qd*(c.2*pd-c.1*qd)=pd*qd*atW c l m:=by unfold atW; grind
  omega
def rcN (r:Rc) (p q:P2d):List (Int × Int):=[(p.x-r.xl*p.d,q.x-r.xl*q.d),(r.xh*p.d-p.x,r.xh*q.d-q.x),(p.y-r.yl*p.d,q.y-r.yl*q.d),(r.yh*p.d-p.y,r.yh*q.d-q.y)]
def Zwg (r:Rc) (p q:P2d):Bool:=Yq ((rcN r p q).map fun c=>(c.1*q.d,c.2*p.d-c.1*q.d)) 0 1 1 1
theorem Zzc {r:Rc} {p q:P2d} (h1:0<p.d) (h2:0<q.d):Zwg r p q=true↔Zk4 (rcN r p q):=by
 unfold Zwg
 rw [Zhp _ 0 1 1 1 (by decide) (by decide) (by decide) (by decide),<-Zvq h1 h2]
 constructor
 ·rintro ⟨T,D,a,b,_,_,h⟩
  exact ⟨T,D,a,b,fun c hc=>h _ (Wd.2 ⟨c,hc,rfl⟩)⟩
 ·rintro ⟨T,D,a,b,h⟩
  refine ⟨T,D,a,b,by omega,by omega,fun c hc=>?_⟩
  obtain ⟨c',hc',rfl⟩:=Wd.1 hc
  exact h c' hc'
def edgP (r:Rc):List Wl:=[⟨0,r.xl,r.yl,r.xh,r.yl⟩,⟨0,r.xh,r.yl,r.xh,r.yh⟩,⟨0,r.xh,r.yh,r.xl,r.yh⟩,⟨0,r.xl,r.yh,r.xl,r.yl⟩]
def midX (p q:Pt):Int:=Qa Qb (Qa Qb (p.x*q.d)+Qa Qb (q.x*p.d))
def midY (p q:Pt):Int:=Qa Qb (Qa Qb (p.y*q.d)+Qa Qb (q.y*p.d))
def midD (p q:Pt):Int:=Qa Qb (Qa Qb (2*p.d)*q.d)
def Zwm (r:Rc) (p q:Pt):Bool:=r.has (midX p q) (midY p q) (midD p q)||(edgP r).any (touP p q)||(r.holds p.x p.y p.d||r.holds q.x q.y q.d)
theorem Yd0 {p q:Pt} (hp:PtR p) (hq:PtR q):midX p q=p.x*q.d+q.x*p.d/\midY p q=p.y*q.d+q.y*p.d/\midD p q=2*p.d*q.d:=by
 obtain ⟨a1,a2,a3,a4⟩:=hp
 obtain ⟨b1,b2,b3,b4⟩:=hq
 have m1:=Zn (a:=q.x) (b:=p.d) (A:=500000000) (B:=100000) (by omega) (by omega)
 have m2:=Zn (a:=p.x) (b:=q.d) (A:=500000000) (B:=100000) (by omega) (by omega)
 have m3:=Zn (a:=q.y) (b:=p.d) (A:=500000000) (B:=100000) (by omega) (by omega)
 have m4:=Zn (a:=p.y) (b:=q.d) (A:=500000000) (B:=100000) (by omega) (by omega)
 have m5:=Zn (a:=2*p.d) (b:=q.d) (A:=200000) (B:=100000) (by omega) (by omega)
 unfold midX midY midD
 rw [W_eq (n:=q.x*p.d) (by omega) (by omega),W_eq (n:=p.x*q.d) (by omega) (by omega),W_eq (n:=q.y*p.d) (by omega) (by omega),W_eq (n:=p.y*q.d) (by omega) (by omega),W_eq (n:=2*p.d) (by omega) (by omega)]
 exact ⟨W_eq (by omega) (by omega),W_eq (by omega) (by omega),W_eq (by omega) (by omega)⟩
theorem Yg6 {r:Rc} (hr:RcOk r):Str ⟨0,r.xl,r.yl,r.xh,r.yl⟩ (r.xh-r.xl) 1 0/\Str ⟨0,r.xh,r.yl,r.xh,r.yh⟩ (r.yh-r.yl) 0 1/\Str ⟨0,r.xh,r.yh,r.xl,r.yh⟩ (r.xh-r.xl) (-1) 0/\Str ⟨0,r.xl,r.yh,r.xl,r.yl⟩ (r.yh-r.yl) 0 (-1):=by
 obtain ⟨h1,h2,h3,h4,h5,h6⟩:=hr
 refine ⟨⟨?_,?_,?_,?_,?_,?_,?_,?_,?_,?_⟩,⟨?_,?_,?_,?_,?_,?_,?_,?_,?_,?_⟩,⟨?_,?_,?_,?_,?_,?_,?_,?_,?_,?_⟩,⟨?_,?_,?_,?_,?_,?_,?_,?_,?_,?_⟩⟩<;>(try dsimp only)<;>omega
theorem rcN_mem {r:Rc} {p q:P2d} {l m:Int}:(∀ c∈rcN r p q,0<=atW c l m)↔0<=l*(p.x-r.xl*p.d)+m*(q.x-r.xl*q.d)/\0<=l*(r.xh*p.d-p.x)+m*(r.xh*q.d-q.x)/\0<=l*(p.y-r.yl*p.d)+m*(q.y-r.yl*q.d)/\0<=l*(r.yh*p.d-p.y)+m*(r.yh*q.d-q.y):=by
 simp [rcN,atW]
theorem Zzt {r:Rc} (hr:RcOk r) {p q:P2d} (h1:0<p.d) (h2:0<q.d) (l m:Int) (hl:0<l) (hm:0<m) :
  ((∀ c∈rcN r p q,0<=atW c l m)/\∃ c∈rcN r p q,atW c l m=0)->(Zap ⟨0,r.xl,r.yl,r.xh,r.yl⟩ (r.xh-r.xl) 1 0 p q\/Zap ⟨0,r.xh,r.yl,r.xh,r.yh⟩ (r.yh-r.yl) 0 1 p q\/Zap ⟨0,r.xh,r.yh,r.xl,r.yh⟩ (r.xh-r.xl) (-1) 0 p q\/Zap ⟨0,r.xl,r.yh,r.xl,r.yl⟩ (r.yh-r.yl) 0 (-1) p q):=by
 rintro ⟨h,c,hc,h0⟩
 rw [rcN_mem] at h
 obtain ⟨k1,k2,k3,k4⟩:=h
 have e1:l*(r.xh*p.d-p.x)+m*(r.xh*q.d-q.x)=(r.xh-r.xl)*(l*p.d+m*q.d)-(l*(p.x-r.xl*p.d)+m*(q.x-r.xl*q.d)):=by grind
 have e2:l*(r.yh*p.d-p.y)+m*(r.yh*q.d-q.y)=(r.yh-r.yl)*(l*p.d+m*q.d)-(l*(p.y-r.yl*p.d)+m*(q.y-r.yl*q.d)):=by grind
 unfold Zap bsP alP ful bes alo
 dsimp only
 simp only [rcN,Rb,List.not_mem_nil,or_false] at hc
 rcases hc with rfl|rfl|rfl|rfl<;>unfold atW at h0<;>dsimp only at h0
 ·refine .inr (.inr (.inr ⟨l,m,hl,hm,?_,?_,?_⟩))
  ·grind
  ·grind
  ·grind
 ·refine .inr (.inl ⟨l,m,hl,hm,?_,?_,?_⟩)
  ·grind
  ·grind
  ·grind
 ·refine .inl ⟨l,m,hl,hm,?_,?_,?_⟩
  ·grind
  ·grind
  ·grind
 ·refine .inr (.inr (.inl ⟨l,m,hl,hm,?_,?_,?_⟩))
  ·grind
  ·grind
  ·grind
theorem Zx8 {r:Rc} (hr:RcOk r) {p q:P2d} (h1:0<p.d) (h2:0<q.d) (h:Zap ⟨0,r.xl,r.yl,r.xh,r.yl⟩ (r.xh-r.xl) 1 0 p q\/Zap ⟨0,r.xh,r.yl,r.xh,r.yh⟩ (r.yh-r.yl) 0 1 p q\/Zap ⟨0,r.xh,r.yh,r.xl,r.yh⟩ (r.xh-r.xl) (-1) 0 p q\/Zap ⟨0,r.xl,r.yh,r.xl,r.yl⟩ (r.yh-r.yl) 0 (-1) p q):Zk4 (rcN r p q):=by
 have key:∀ l m:Int,0<l->0<m->0<=(r.xh-r.xl)*(l*p.d+m*q.d)/\0<=(r.yh-r.yl)*(l*p.d+m*q.d):=by
  intro l m hl hm
  have k1:=Rm hl h1
  have k2:=Rm hm h2
  have:=hr.x
  have:=hr.y
  exact ⟨Qq (by omega) (by omega),Qq (by omega) (by omega)⟩
 unfold Zap bsP alP ful bes alo at h
 dsimp only at h
 unfold Zk4
 rcases h with ⟨l,m,hl,hm,k1,k2,k3⟩|⟨l,m,hl,hm,k1,k2,k3⟩|⟨l,m,hl,hm,k1,k2,k3⟩|⟨l,m,hl,hm,k1,k2,k3⟩<;>refine ⟨l,m,hl,hm,rcN_mem.2 ?_⟩<;>obtain ⟨g1,g2⟩:=key l m hl hm<;>refine ⟨?_,?_,?_,?_⟩<;>grind
theorem Zz2 {r:Rc} (hr:RcOk r) {p q:Pt} (hp:PtR p) (hq:PtR q):Zwm r p q=true↔Zk4 (rcN r p.pl q.pl):=by
 obtain ⟨e1,e2,e3⟩:=Yd0 hp hq
 obtain ⟨s1,s2,s3,s4⟩:=Yg6 hr
 have dp:=hp.d0
 have dq:=hq.d0
 have dp1:=hp.d1
 have dq1:=hq.d1
 have hD:=Rm (show 0<2*p.d by omega) dq
 have hD2:=(Zn (a:=2*p.d) (b:=q.d) (A:=200000) (B:=100000) (by omega) (by omega)).2
 unfold Zwm
 rw [e1,e2,e3,Qz,Qz,Qz,Ztv hr ⟨hD,by omega⟩,Ze1 hr ⟨dp,by omega⟩,Ze1 hr ⟨dq,by omega⟩]
 have ea:(edgP r).any (touP p q)=true↔(Zap ⟨0,r.xl,r.yl,r.xh,r.yl⟩ (r.xh-r.xl) 1 0 p.pl q.pl\/Zap ⟨0,r.xh,r.yl,r.xh,r.yh⟩ (r.yh-r.yl) 0 1 p.pl q.pl\/Zap ⟨0,r.xh,r.yh,r.xl,r.yh⟩ (r.xh-r.xl) (-1) 0 p.pl q.pl\/Zap ⟨0,r.xl,r.yh,r.xl,r.yl⟩ (r.yh-r.yl) 0 (-1) p.pl q.pl):=by
  simp only [edgP,Ng,List.any_nil,Bool.or_false,Qz]
  rw [Zgr s1 hp hq,Zgr s2 hp hq,Zgr s3 hp hq,Zgr s4 hp hq]
 rw [ea]
 have mm:(0<=p.x*q.d+q.x*p.d-r.xl*(2*p.d*q.d)/\0<=r.xh*(2*p.d*q.d)-(p.x*q.d+q.x*p.d)/\0<=p.y*q.d+q.y*p.d-r.yl*(2*p.d*q.d)/\0<=r.yh*(2*p.d*q.d)-(p.y*q.d+q.y*p.d))↔∀ c∈rcN r p.pl q.pl,0<=atW c q.d p.d:=by
  rw [rcN_mem]
  unfold Pt.pl
  dsimp only
  have k1:q.d*(p.x-r.xl*p.d)+p.d*(q.x-r.xl*q.d)=p.x*q.d+q.x*p.d-r.xl*(2*p.d*q.d):=by grind
  have k2:q.d*(r.xh*p.d-p.x)+p.d*(r.xh*q.d-q.x)=r.xh*(2*p.d*q.d)-(p.x*q.d+q.x*p.d):=by grind
  have k3:q.d*(p.y-r.yl*p.d)+p.d*(q.y-r.yl*q.d)=p.y*q.d+q.y*p.d-r.yl*(2*p.d*q.d):=by grind
  have k4:q.d*(r.yh*p.d-p.y)+p.d*(r.yh*q.d-q.y)=r.yh*(2*p.d*q.d)-(p.y*q.d+q.y*p.d):=by grind
  rw [k1,k2,k3,k4]
 rw [mm]
 have big:∀ a b:Int,0<a->0<=(b.natAbs+1:Int)*a+b:=fun a b ha=>by
  have:=Rk (show 1<=a by omega) (show (0:Int)<=(b.natAbs:Int)+1 by omega)
  omega
 have holdsIn:∀ p q:P2d,(0<p.x-r.xl*p.d/\0<r.xh*p.d-p.x/\0<p.y-r.yl*p.d/\0<r.yh*p.d-p.y)->∃ N:Int,0<N/\0<=N*(p.x-r.xl*p.d)+1*(q.x-r.xl*q.d)/\0<=N*(r.xh*p.d-p.x)+1*(r.xh*q.d-q.x)/\0<=N*(p.y-r.yl*p.d)+1*(q.y-r.yl*q.d)/\0<=N*(r.yh*p.d-p.y)+1*(r.yh*q.d-q.y):=by
  rintro p q ⟨h1,h2,h3,h4⟩
  have mono:∀ a b N:Int,0<a->(b.natAbs:Int)<=N->0<=N*a+1*b:=fun a b N ha hN=>by
   have:=Rk (show 1<=a by omega) (show 0<=N by omega);omega
  refine ⟨((q.x-r.xl*q.d).natAbs:Int)+(r.xh*q.d-q.x).natAbs+(q.y-r.yl*q.d).natAbs+(r.yh*q.d-q.y).natAbs+1,by omega,mono _ _ _ h1 (by omega),mono _ _ _ h2 (by omega),mono _ _ _ h3 (by omega),mono _ _ _ h4 (by omega)⟩
 constructor
 ·rintro ((h|h)|h|h)
  ·exact ⟨q.d,p.d,dq,dp,h⟩
  ·exact Zx8 hr dp dq h
  ·obtain ⟨N,h0,h1,h2,h3,h4⟩:=holdsIn p.pl q.pl h
   exact ⟨N,1,h0,by omega,rcN_mem.2 ⟨h1,h2,h3,h4⟩⟩
  ·obtain ⟨N,h0,h1,h2,h3,h4⟩:=holdsIn q.pl p.pl h
   exact ⟨1,N,by omega,h0,rcN_mem.2 ⟨by omega,by omega,by omega,by omega⟩⟩
 ·rintro ⟨l,m,hl,hm,h⟩
  obtain ⟨a,b,ha,hb,k1,k2⟩:=Yjz (l0:=q.d) (m0:=p.d) dq dp hl hm _ h
  rcases k2 with ⟨rfl,rfl⟩|k2
  ·exact .inl (.inl k1)
  ·exact .inl (.inr (Zzt hr dp dq a b ha hb ⟨k1,k2⟩))
structure PtH (p:Pt):Prop where
 r:PtR p
 z : -(5000*p.d)<=p.z/\p.z<=5000*p.d
theorem Ztz {p:Pt} (h:Xh p=0):PtH p:=by
 obtain ⟨h1,h2,_,h4⟩:=Ze3 h
 unfold ptIn at h4
 simp only [Qc,within_iff] at h4
 exact ⟨⟨h1,h2,h4.1.1,h4.1.2⟩,h4.2⟩
def zOff (ht:Int) (p:Pt):Int:=Qa Qb (p.z-Qa Qb (ht*p.d))
theorem Zh0 {ht:Int} (hh:0<=ht/\ht<=5000) {p:Pt} (hp:PtH p):zOff ht p=p.z-ht*p.d/\Qa Qb (ht*p.d)=ht*p.d/\(-1000000000<=p.z-ht*p.d/\p.z-ht*p.d<=1000000000):=by
 obtain ⟨⟨a1,a2,_,_⟩,a5⟩:=hp
 have c1:=Zj (f:=ht) (d:=p.d) (by omega) a1
 unfold zOff
 rw [W_eq (n:=ht*p.d) (by omega) (by omega)]
 exact ⟨W_eq (by omega) (by omega),rfl,by omega⟩
def blkS (r:Rc) (ht:Int) (p q:Pt):Prop:=∃ l m:Int,0<l/\0<m/\l*(p.z-ht*p.d)+m*(q.z-ht*q.d)=0/\∀ c∈rcN r p.pl q.pl,0<=atW c l m
theorem Zrd {r:Rc} {ht:Int} {p q:Pt} (h1:p.z-ht*p.d=0) (h2:q.z-ht*q.d=0):blkS r ht p q↔Zk4 (rcN r p.pl q.pl):=by
 unfold blkS Zk4
 rw [h1,h2]
 exact ⟨fun ⟨l,m,a,b,_,c⟩=>⟨l,m,a,b,c⟩,fun ⟨l,m,a,b,c⟩=>⟨l,m,a,b,by omega,c⟩⟩
theorem Zrc {r:Rc} {ht:Int} {p q:Pt} (h0:¬(p.z-ht*p.d=0/\q.z-ht*q.d=0)) (h1:0<=sgn (p.z-ht*p.d)*sgn (q.z-ht*q.d)):¬ blkS r ht p q:=by
 rintro ⟨l,m,hl,hm,e,_⟩
 have hs:¬ (sgn (p.z-ht*p.d)*sgn (q.z-ht*q.d)<0):=by omega
 rw [sgn_mul_neg] at hs
 generalize p.z-ht*p.d=a at *
 generalize q.z-ht*q.d=b at *
 by_cases ha:0<a
 ·have:=(Zby hl).2 ha
  have:=(nn_l hm).2 (show 0<=b by omega)
  omega
 by_cases hb:a<0
 ·have:=(Zdi hl).2 hb
  have:=(np_l hm).2 (show b<=0 by omega)
  omega
 have:a=0:=by omega
 subst this
 have:m*b≠0:=Int.mul_ne_zero (by omega) (by omega)
 omega
theorem Zrb {r:Rc} {ht:Int} {p q:Pt}:blkS r ht p q↔blkS r ht q p:=by
 have key:∀ p q,blkS r ht p q->blkS r ht q p:=by
  rintro p q ⟨l,m,h1,h2,h3,h4⟩
  refine ⟨m,l,h2,h1,by omega,?_⟩
  rw [rcN_mem] at h4 ⊢
  omega
 exact ⟨key _ _,key _ _⟩
theorem Zfe {r:Rc} {ht:Int} {p q:Pt} {f g:Int} (hf:p.z-ht*p.d=f) (hg:q.z-ht*q.d=g) (h1:f<0/\0<g):blkS r ht p q↔∀ c∈rcN r p.pl q.pl,0<=atW c g (-f):=by
 unfold blkS
 rw [hf,hg]
 constructor
 ·rintro ⟨l,m,hl,hm,e,h⟩ c hc
  have k1:g*atW c l m=l*atW c g (-f):=by unfold atW; grind
  have q1:=(nn_l h1.2).2 (h c hc)
  rw [k1,nn_l hl] at q1
  exact q1
 ·intro h
  exact ⟨g,-f,h1.2,by omega,by grind,h⟩
theorem Zhl {r:Rc} (hr:RcOk r) {p q:Pt} (hp:PtR p) (hq:PtR q) {f g:Int} (h1:f<0/\0<g) (h2 : -1000000000<=f/\g<=1000000000):r.has (p.x*g-q.x*f) (p.y*g-q.y*f) (p.d*g-q.d*f)=true↔∀ c∈rcN r p.pl q.pl,0<=atW c g (-f):=by
 obtain ⟨a1,a2,a3,a4⟩:=hp
 obtain ⟨b1,b2,b3,b4⟩:=hq
 have k1:=Rm a1 h1.2
 have k2:=Rm b1 (show 0 < -f by omega)
 rw [Sf] at k2
 have m1:=Zn (a:=p.d) (b:=g) (A:=100000) (B:=1000000000) (by omega) (by omega)
 have m2:=Zn (a:=q.d) (b:=f) (A:=100000) (B:=1000000000) (by omega) (by omega)
 rw [Ztv hr ⟨by omega,by omega⟩,rcN_mem]
 unfold Pt.pl
 dsimp only
 have e1:g*(p.x-r.xl*p.d) + -f*(q.x-r.xl*q.d)=p.x*g-q.x*f-r.xl*(p.d*g-q.d*f):=by grind
 have e2:g*(r.xh*p.d-p.x) + -f*(r.xh*q.d-q.x)=r.xh*(p.d*g-q.d*f)-(p.x*g-q.x*f):=by grind
 have e3:g*(p.y-r.yl*p.d) + -f*(q.y-r.yl*q.d)=p.y*g-q.y*f-r.yl*(p.d*g-q.d*f):=by grind
 have e4:g*(r.yh*p.d-p.y) + -f*(r.yh*q.d-q.y)=r.yh*(p.d*g-q.d*f)-(p.y*g-q.y*f):=by grind
 rw [e1,e2,e3,e4]
def atX (a b:Int) (u v:Int):Int:=Qa Qb (Qa Qb (a*u)+Qa Qb (b*v))
def blkP (r:Rc) (ht:Int) (p q:Pt):Bool :=
 if p.z=Qa Qb (ht*p.d)/\q.z=Qa Qb (ht*q.d) then Zwm r p q
 else if 0<=Qa Qb (sgn (zOff ht p)*sgn (zOff ht q)) then false
 else r.has (atX p.x q.x (size (zOff ht q)) (size (zOff ht p))) (atX p.y q.y (size (zOff ht q)) (size (zOff ht p))) (atX p.d q.d (size (zOff ht q)) (size (zOff ht p)))
def onX (a b:Int) (g f:Int):Int:=Qa Qb (Qa Qb (a*g)-Qa Qb (b*f))
def blkR (r:Rc) (ht:Int) (p q:Pt):Bool :=
 if zOff ht p=0/\zOff ht q=0 then Zwg r p.pl q.pl
 else if 0<=Qa Qb (sgn (zOff ht p)*sgn (zOff ht q)) then false
 else if onX p.d q.d (zOff ht q) (zOff ht p)<0 then r.has (Qa Qb (0-onX p.x q.x (zOff ht q) (zOff ht p))) (Qa Qb (0-onX p.y q.y (zOff ht q) (zOff ht p))) (Qa Qb (0-onX p.d q.d (zOff ht q) (zOff ht p)))
 else r.has (onX p.x q.x (zOff ht q) (zOff ht p)) (onX p.y q.y (zOff ht q) (zOff ht p)) (onX p.d q.d (zOff ht q) (zOff ht p))
theorem x_bd {a d f:Int} (hd:0<d/\d<=100000) (ha : -(5000*d)<=a/\a<=5000*d) (hf : -1000000000<=f/\f<=1000000000) : -500000000000000000<=a*f/\a*f<=500000000000000000:=by
 have:=Zn (a:=a) (b:=f) (A:=500000000) (B:=1000000000) (by omega) (by omega)
 omega
theorem d_bd {d f:Int} (hd:0<d/\d<=100000) (hf : -1000000000<=f/\f<=1000000000) : -100000000000000<=d*f/\d*f<=100000000000000:=by
 have:=Zn (a:=d) (b:=f) (A:=100000) (B:=1000000000) (by omega) (by omega)
 omega
theorem Yhb {ht:Int} (hh:0<=ht/\ht<=5000) {p q:Pt} (hp:PtH p) (hq:PtH q):(p.z=Qa Qb (ht*p.d)/\q.z=Qa Qb (ht*q.d))↔(p.z-ht*p.d=0/\q.z-ht*q.d=0):=by
 rw [(Zh0 hh hp).2.1,(Zh0 hh hq).2.1]; omega
theorem Ydh {r:Rc} (hr:RcOk r) {ht:Int} (hh:0<=ht/\ht<=5000) {p q:Pt} (hp:PtH p) (hq:PtH q):blkP r ht p q=true↔blkS r ht p q:=by
 obtain ⟨e1,_,b1⟩:=Zh0 hh hp
 obtain ⟨e2,_,b2⟩:=Zh0 hh hq
 unfold blkP
 simp only [Yhb hh hp hq]
 rw [e1,e2]
 by_cases h0:p.z-ht*p.d=0/\q.z-ht*q.d=0
 ·rw [if_pos h0,Zrd h0.1 h0.2,Zz2 hr hp.r hq.r]
 rw [if_neg h0,Zey]
 by_cases h1:0<=sgn (p.z-ht*p.d)*sgn (q.z-ht*q.d)
 ·rw [if_pos h1]
  exact ⟨fun h=>by simp at h,fun h=>absurd h (Zrc h0 h1)⟩
 rw [if_neg h1]
 have h2:=sgn_mul_neg.1 (show sgn (p.z-ht*p.d)*sgn (q.z-ht*q.d)<0 by omega)
 generalize hf:p.z-ht*p.d=f at *
 generalize hg:q.z-ht*q.d=g at *
 have hp1:=hp.r
 have hq1:=hq.r
 have x1:=x_bd (f:=g) ⟨hp1.d0,hp1.d1⟩ hp1.x (by omega)
 have x2:=x_bd (f:=f) ⟨hq1.d0,hq1.d1⟩ hq1.x (by omega)
 have y1:=x_bd (f:=g) ⟨hp1.d0,hp1.d1⟩ hp1.y (by omega)
 have y2:=x_bd (f:=f) ⟨hq1.d0,hq1.d1⟩ hq1.y (by omega)
 have d1:=d_bd (f:=g) ⟨hp1.d0,hp1.d1⟩ (by omega)
 have d2:=d_bd (f:=f) ⟨hq1.d0,hq1.d1⟩ (by omega)
 rcases h2 with h2|h2
 ·have s1:size g=g:=by rw [Zc7 (by omega),if_neg (by omega)]
  have s2:size f = -f:=by rw [Zc7 (by omega),if_pos (by omega)]
  have ax:∀ a b:Int,(-500000000000000000<=a*g/\a*g<=500000000000000000)->(-500000000000000000<=b*f/\b*f<=500000000000000000)->atX a b (size g) (size f)=a*g-b*f:=by
   intro a b k1 k2;unfold atX;rw [s1,s2,Sf,W_eq (n:=a*g) (by omega) (by omega),W_eq (n:=-(b*f)) (by omega) (by omega),W_eq (by omega) (by omega)];omega
  rw [ax _ _ x1 x2,ax _ _ y1 y2,ax _ _ (by omega) (by omega),Zhl hr hp1 hq1 h2 (by omega),Zfe hf hg h2]
 ·have s1:size g = -g:=by rw [Zc7 (by omega),if_pos (by omega)]
  have s2:size f=f:=by rw [Zc7 (by omega),if_neg (by omega)]
  have ax:∀ a b:Int,(-500000000000000000<=a*g/\a*g<=500000000000000000)->(-500000000000000000<=b*f/\b*f<=500000000000000000)->atX a b (size g) (size f)=b*f-a*g:=by
   intro a b k1 k2;unfold atX;rw [s1,s2,Sf,W_eq (n:=b*f) (by omega) (by omega),W_eq (n:=-(a*g)) (by omega) (by omega),W_eq (by omega) (by omega)];omega
  rw [ax _ _ x1 x2,ax _ _ y1 y2,ax _ _ (by omega) (by omega),Zhl hr hq1 hp1 (by omega) (by omega),Zrb,Zfe hg hf (by omega)]
theorem Ydg {r:Rc} (hr:RcOk r) {ht:Int} (hh:0<=ht/\ht<=5000) {p q:Pt} (hp:PtH p) (hq:PtH q):blkR r ht p q=true↔blkS r ht p q:=by
 obtain ⟨e1,_,b1⟩:=Zh0 hh hp
 obtain ⟨e2,_,b2⟩:=Zh0 hh hq
 unfold blkR
 rw [e1,e2]
 by_cases h0:p.z-ht*p.d=0/\q.z-ht*q.d=0
 ·rw [if_pos h0,Zrd h0.1 h0.2]
  exact Zzc (p:=p.pl) (q:=q.pl) hp.r.d0 hq.r.d0
 rw [if_neg h0,Zey]
 by_cases h1:0<=sgn (p.z-ht*p.d)*sgn (q.z-ht*q.d)
 ·rw [if_pos h1]
  exact ⟨fun h=>by simp at h,fun h=>absurd h (Zrc h0 h1)⟩
 rw [if_neg h1]
 have h2:=sgn_mul_neg.1 (show sgn (p.z-ht*p.d)*sgn (q.z-ht*q.d)<0 by omega)
 generalize hf:p.z-ht*p.d=f at *
 generalize hg:q.z-ht*q.d=g at *
 have hp1:=hp.r
 have hq1:=hq.r
 have x1:=x_bd (f:=g) ⟨hp1.d0,hp1.d1⟩ hp1.x (by omega)
 have x2:=x_bd (f:=f) ⟨hq1.d0,hq1.d1⟩ hq1.x (by omega)
 have y1:=x_bd (f:=g) ⟨hp1.d0,hp1.d1⟩ hp1.y (by omega)
 have y2:=x_bd (f:=f) ⟨hq1.d0,hq1.d1⟩ hq1.y (by omega)
 have d1:=d_bd (f:=g) ⟨hp1.d0,hp1.d1⟩ (by omega)
 have d2:=d_bd (f:=f) ⟨hq1.d0,hq1.d1⟩ (by omega)
 have ax:∀ a b:Int,(-500000000000000000<=a*g/\a*g<=500000000000000000)->(-500000000000000000<=b*f/\b*f<=500000000000000000)->onX a b g f=a*g-b*f/\Qa Qb (0-(a*g-b*f))=b*f-a*g:=by
  intro a b k1 k2
  unfold onX
  rw [W_eq (n:=a*g) (by omega) (by omega),W_eq (n:=b*f) (by omega) (by omega),W_eq (n:=a*g-b*f) (by omega) (by omega),W_eq (by omega) (by omega)]
  omega
 rw [(ax _ _ x1 x2).1,(ax _ _ y1 y2).1,(ax p.d q.d (by omega) (by omega)).1,(ax _ _ x1 x2).2,(ax _ _ y1 y2).2,(ax p.d q.d (by omega) (by omega)).2]
 rcases h2 with h2|h2
 ·have k1:=Rm hp1.d0 h2.2
  have k2:=Ot hq1.d0 h2.1
  rw [if_neg (by omega),Zhl hr hp1 hq1 h2 (by omega),Zfe hf hg h2]
 ·have k1:=Ot hp1.d0 h2.2
  have k2:=Rm hq1.d0 h2.1
  rw [if_pos (by omega),Zhl hr hq1 hp1 (by omega) (by omega),Zrb,Zfe hg hf (by omega)]
theorem Yj6 {r:Rc} (hr:RcOk r) {ht:Int} (hh:0<=ht/\ht<=5000) {p q:Pt} (hp:PtH p) (hq:PtH q):blkP r ht p q=blkR r ht p q:=by
 rw [Bool.eq_iff_iff,Ydh hr hh hp hq,Ydg hr hh hp hq]
abbrev U (n:Int):AV:=.int .u64 n
abbrev wayA (p q:Pt):AV:=.agg [I p.x,I p.y,I p.z,I p.d,I q.x,I q.y,I q.z,I q.d]
theorem c204 (p q:Pt):PCall Tryz.prog 289 [wayA p q] ⟨.tup [I (Zrt p q),I (Zrs p q)],[]⟩:=by
 refine pn Zc Tryz.func289 ?_
 repeat'(first|refine wk0 ?_|(refine wk2 ?_ ?_<;>intro _)|fail)
 exact Ze rfl rfl
theorem c207 (fr den to oth a b:Int):PCall Tryz.prog 290 [I fr,I den,I to,I oth,I a,I b] ⟨Bo (ovl fr den to oth a b),[]⟩:=by
 refine pn Zc Tryz.func290 ?_
 repeat'(first|refine wk0 ?_|(refine wk2 ?_ ?_<;>intro _)|fail)
 all_goals (refine Zb ?_; simp_all [ovl]<;>(intro _; omega))
theorem c182 (p q:Pt):PCall Tryz.prog 261 [wayA p q] ⟨.tup [I (midX p q),I (midY p q),I (midD p q)],[]⟩:=by
 refine pn Zc Tryz.func261 ?_
 repeat'(first|refine wk0 ?_|(refine wk2 ?_ ?_<;>intro _)|fail)
 exact Ze rfl rfl
def u64 (n:Int):Prop:=0<=n/\n<18446744073709551616
theorem mkN (a:Nat) (ha:a<18446744073709551616):Qa Rw (((Sn IntKind.u64.bits (a:Int) &&& Sn IntKind.u64.bits 4294967295).toNat:Nat):Int)=((a%4294967296:Nat):Int):=by
 have h:=bits_and_u64_nat a 4294967295 ha (by omega)
 have e:a &&& 4294967295=a%4294967296:=Nat.and_two_pow_sub_one_eq_mod a 32
 rw [e] at h
 exact h
theorem fdN (a:Nat):(a:Int).fdiv (2 ^ min (Tp 32) IntKind.u64.bits)=((a / 4294967296:Nat):Int):=by
 rw [show (2 ^ min (Tp 32) IntKind.u64.bits:Int)=4294967296 from rfl,Int.fdiv_eq_ediv_of_nonneg _ (by omega)]; omega
theorem mulN (a b:Nat):(a:Int)*(b:Int)=((a*b:Nat):Int):=(Int.natCast_mul a b).symm
theorem addN (a b:Nat):(a:Int)+(b:Int)=((a+b:Nat):Int):=(Int.natCast_add a b).symm
theorem Zon (a:Nat) (ha:a<18446744073709551616):Qa Rw (a:Int)=(a:Int):=by rw [Gd]; omega
theorem Ykd (a:Nat):Qa Rw (a:Int)=((a%18446744073709551616:Nat):Int):=by rw [Gd]; omega
theorem Ycd (x y:Nat) (hx:x<18446744073709551616) (hy:y<18446744073709551616):AV.tup [AV.int Rw (Qa Rw (Qa Rw (Qa Rw (((x:Int)).fdiv (2 ^ min (Tp 32) IntKind.u64.bits)*((y:Int)).fdiv (2 ^ min (Tp 32) IntKind.u64.bits))+((Qa Rw (Qa Rw (((x:Int)).fdiv (2 ^ min (Tp 32) IntKind.u64.bits)*Qa Rw ((Sn IntKind.u64.bits ((y:Int)) &&& Sn IntKind.u64.bits 4294967295).toNat:Int))+((Qa Rw ((Qa Rw ((Sn IntKind.u64.bits ((x:Int)) &&& Sn IntKind.u64.bits 4294967295).toNat:Int))*(Qa Rw ((Sn IntKind.u64.bits ((y:Int)) &&& Sn IntKind.u64.bits 4294967295).toNat:Int)))).fdiv (2 ^ min (Tp 32) IntKind.u64.bits)))).fdiv (2 ^ min (Tp 32) IntKind.u64.bits)))+((Qa Rw (Qa Rw ((Sn IntKind.u64.bits (Qa Rw (Qa Rw (((x:Int)).fdiv (2 ^ min (Tp 32) IntKind.u64.bits)*Qa Rw ((Sn IntKind.u64.bits ((y:Int)) &&& Sn IntKind.u64.bits 4294967295).toNat:Int))+((Qa Rw ((Qa Rw ((Sn IntKind.u64.bits ((x:Int)) &&& Sn IntKind.u64.bits 4294967295).toNat:Int))*(Qa Rw ((Sn IntKind.u64.bits ((y:Int)) &&& Sn IntKind.u64.bits 4294967295).toNat:Int)))).fdiv (2 ^ min (Tp 32) IntKind.u64.bits)))) &&& Sn IntKind.u64.bits 4294967295).toNat:Int)+Qa Rw (Qa Rw ((Sn IntKind.u64.bits ((x:Int)) &&& Sn IntKind.u64.bits 4294967295).toNat:Int)*((y:Int)).fdiv (2 ^ min (Tp 32) IntKind.u64.bits)))).fdiv (2 ^ min (Tp 32) IntKind.u64.bits)))),AV.int Rw (Qa Rw ((x:Int)*(y:Int)))]=AV.tup [U ((x:Int)*(y:Int) / 18446744073709551616),U ((x:Int)*(y:Int)%18446744073709551616)]:=by
 obtain ⟨bd,bt,bw,hhi⟩:=Go.Lib.mul64_hi x y hx hy
 have ba:=Jv (a:=x / 4294967296) (b:=y / 4294967296) (by omega) (by omega)
 have bb:=Jv (a:=x / 4294967296) (b:=y%4294967296) (by omega) (by omega)
 have bc:=Jv (a:=x%4294967296) (b:=y / 4294967296) (by omega) (by omega)
 have ba' : x / 4294967296*(y / 4294967296)<18446744073709551616:=by omega
 have bb' : x / 4294967296*(y%4294967296)<18446744073709551616:=by omega
 have bc' : x%4294967296*(y / 4294967296)<18446744073709551616:=by omega
 have bh1:x / 4294967296*(y / 4294967296)+(x / 4294967296*(y%4294967296)+x%4294967296*(y%4294967296) / 4294967296) / 4294967296<18446744073709551616:=by omega
 have bh:x / 4294967296*(y / 4294967296)+(x / 4294967296*(y%4294967296)+x%4294967296*(y%4294967296) / 4294967296) / 4294967296+((x / 4294967296*(y%4294967296)+x%4294967296*(y%4294967296) / 4294967296)%4294967296+x%4294967296*(y / 4294967296)) / 4294967296<18446744073709551616:=by omega
 simp only [mkN x hx,mkN y hy,fdN,mulN,addN,Zon _ bd,Zon _ bb',Zon _ bt,mkN _ bt,Zon _ bc',Zon _ bw,Zon _ ba',Zon _ bh1,Zon _ bh,Ykd (x*y)]
 rw [hhi]
 rfl
theorem c216 {x y:Int} (hx:u64 x) (hy:u64 y):PCall Tryz.prog 298 [U x,U y] ⟨.tup [U (x*y / 18446744073709551616),U (x*y%18446744073709551616)],[]⟩:=by
 refine pn Zc Tryz.func298 ?_
 repeat'(first|refine wk1 ?_|(refine wk2 ?_ ?_<;>intro _)|fail)
 refine Ze ?_ rfl
 obtain ⟨h0,hx⟩:=hx
 obtain ⟨h1,hy⟩:=hy
 obtain ⟨a,rfl⟩:=Ge h0
 obtain ⟨b,rfl⟩:=Ge h1
 exact Ycd a b (by omega) (by omega)
theorem Znz {a b:Int}:sgn (a*b)=sgn a*sgn b:=by
 unfold sgn
 rcases Tb a 0 with ha|ha|ha<;>rcases Tb b 0 with hb|hb|hb
 ·have:=Int.mul_pos_of_neg_of_neg ha hb
  rw [if_pos this,if_neg (by omega),if_pos ha,if_neg (by omega),if_pos hb]; rfl
 ·subst hb; simp
 ·have:=Hc ha hb
  rw [if_neg (by omega),if_pos this,if_neg (by omega),if_pos ha,if_pos hb]; rfl
 ·subst ha; simp
 ·subst ha; simp
 ·subst ha; simp
 ·have:=Ot ha hb
  rw [if_neg (by omega),if_pos this,if_pos ha,if_neg (by omega),if_pos hb]; rfl
 ·subst hb; simp
 ·have:=Rm ha hb
  rw [if_pos this,if_pos ha,if_pos hb]; rfl
theorem Zjj {a:Int} (h:i64 a):Qa Rw (size a)=(a.natAbs:Int)/\u64 (a.natAbs:Int):=by
 have hs:=Zxh h
 obtain ⟨h1,h2⟩:=h
 rw [hs]
 refine ⟨?_,?_⟩
 ·simp only [Tj,Gd]; omega
 ·unfold u64; omega
theorem Yaw (a b:Int):((a.natAbs:Int)*(b.natAbs:Int))=(a*b)\/((a.natAbs:Int)*(b.natAbs:Int)) = -(a*b):=by
 have:=Int.natAbs_mul a b
 omega
theorem Yaa {a b c d X Y:Int} (hX:(a.natAbs:Int)*(b.natAbs:Int)=X) (hY:(c.natAbs:Int)*(d.natAbs:Int)=Y) (h:sgn a*sgn b=sgn c*sgn d) :
  (X=Y->cmpP a b c d=0)/\(Y<X->cmpP a b c d=sgn a*sgn b)/\(X<Y->cmpP a b c d = -(sgn a*sgn b)):=by
 have h1:=Yaw a b
 have h2:=Yaw c d
 have p1:0<=X:=by rw [<-hX]; exact Qq (by omega) (by omega)
 have p2:0<=Y:=by rw [<-hY]; exact Qq (by omega) (by omega)
 have s1:=Znz (a:=a) (b:=b)
 have s2:=Znz (a:=c) (b:=d)
 unfold cmpP
 rw [hX] at h1
 rw [hY] at h2
 rw [<-s1]
 rw [<-s1,<-s2] at h
 clear s1 s2 hX hY
 generalize a*b=u at *
 generalize c*d=v at *
 unfold sgn at *
 refine ⟨fun e=>?_,fun e=>?_,fun e=>?_⟩
 ·repeat' split at h
  all_goals repeat' split
  all_goals omega
 ·repeat' split at h
  all_goals repeat' split
  all_goals omega
 ·repeat' split at h
  all_goals repeat' split
  all_goals omega
theorem Ydb {a b c d:Int} (h:sgn a*sgn b≠sgn c*sgn d):cmpP a b c d=sgn (sgn a*sgn b-sgn c*sgn d):=by
 rw [<-Znz,<-Znz] at h ⊢
 unfold cmpP
 generalize a*b=u at *
 generalize c*d=v at *
 unfold sgn at *
 repeat' split at h
 all_goals repeat' split
 all_goals omega
instance (n:Int):Decidable (u64 n):=by unfold u64; exact inferInstance
def r216:List AV->Option PRes
 | [.int .u64 x,.int .u64 y]=>asr (decide (u64 x/\u64 y)) ⟨.tup [U (x*y / 18446744073709551616),U (x*y%18446744073709551616)],[]⟩
 | _=>none
def kF1:PC:=ins 298 r216 (ins 171 r115 (ins 172 r116 pt0))
theorem Yd9:PCOK Tryz.prog kF1:=by
 refine Zh (fun a res h=>?_) (Zh (fun a res h=>?_) (Zh (fun a res h=>?_) Zc))
 ·unfold r216 at h; split at h
  ·obtain ⟨h1,rfl⟩:=Yx h
   have:=of_decide_eq_true h1;exact c216 this.1 this.2
  ·cases h
 ·unfold r115 at h; split at h<;>cases h; exact c115 _
 ·unfold r116 at h; split at h<;>cases h; exact c116 _
theorem c215 {a b c d:Int} (ha:i64 a) (hb:i64 b) (hc:i64 c) (hd:i64 d):PCall Tryz.prog 297 [I a,I b,I c,I d] ⟨I (cmpP a b c d),[]⟩:=by
 obtain ⟨a1,a2⟩:=Zjj ha
 obtain ⟨b1,b2⟩:=Zjj hb
 obtain ⟨c1,c2⟩:=Zjj hc
 obtain ⟨d1,d2⟩:=Zjj hd
 by_cases h:sgn a*sgn b=sgn c*sgn d
 ·have hX:(a.natAbs:Int)*(b.natAbs:Int)=(a.natAbs:Int)*(b.natAbs:Int):=rfl
  have hY:(c.natAbs:Int)*(d.natAbs:Int)=(c.natAbs:Int)*(d.natAbs:Int):=rfl
  obtain ⟨k1,k2,k3⟩:=Yaa hX hY h
  have t1:asr (decide (u64 (Qa Rw (size a))/\u64 (Qa Rw (size b)))) ⟨.tup [U (Qa Rw (size a)*Qa Rw (size b) / 18446744073709551616),U (Qa Rw (size a)*Qa Rw (size b)%18446744073709551616)],[]⟩=some ⟨.tup [U ((a.natAbs:Int)*(b.natAbs:Int) / 18446744073709551616),U ((a.natAbs:Int)*(b.natAbs:Int)%18446744073709551616)],[]⟩:=by
   rw [a1,b1,Yn ⟨a2,b2⟩]
  have t2:asr (decide (u64 (Qa Rw (size c))/\u64 (Qa Rw (size d)))) ⟨.tup [U (Qa Rw (size c)*Qa Rw (size d) / 18446744073709551616),U (Qa Rw (size c)*Qa Rw (size d)%18446744073709551616)],[]⟩=some ⟨.tup [U ((c.natAbs:Int)*(d.natAbs:Int) / 18446744073709551616),U ((c.natAbs:Int)*(d.natAbs:Int)%18446744073709551616)],[]⟩:=by
   rw [c1,d1,Yn ⟨c2,d2⟩]
  have w1:Qa Qb (sgn a*sgn b)=Qa Qb (sgn c*sgn d):=by rw [h]
  have w2:=Zey a b
  have hr : -1<=sgn a*sgn b/\sgn a*sgn b<=1:=by
   have:=Zn (A:=1) (B:=1) (Ziv a) (Ziv b); omega
  have w3:Qa Qb (0-Qa Qb (sgn a*sgn b)) = -(sgn a*sgn b):=by rw [w2,W_eq (by omega) (by omega)]; omega
  generalize (a.natAbs:Int)*(b.natAbs:Int)=X at *
  generalize (c.natAbs:Int)*(d.natAbs:Int)=Y at *
  generalize cmpP a b c d=r at *
  refine pn Yd9 Tryz.func297 ?_
  rcases Tb X Y with hxy|hxy|hxy
  ·rw [k3 hxy,<-w3]
   repeat'(first|refine wk1 ?_|(refine wk2 ?_ ?_<;>intro _)|fail)
   all_goals first
    | exact Za rfl
    | (exfalso; simp_all; done)
    | (exfalso; simp_all; omega)
  ·rw [k1 hxy]
   subst hxy
   repeat'(first|refine wk1 ?_|(refine wk2 ?_ ?_<;>intro _)|fail)
   all_goals first
    | exact Za rfl
    | (exfalso; simp_all; done)
    | (exfalso; simp_all; omega)
  ·rw [k2 hxy,<-w2]
   repeat'(first|refine wk1 ?_|(refine wk2 ?_ ?_<;>intro _)|fail)
   all_goals first
    | exact Za rfl
    | (exfalso; simp_all; done)
    | (exfalso; simp_all; omega)
 ·have hr1:=Zn (A:=1) (B:=1) (Ziv a) (Ziv b)
  have hr2:=Zn (A:=1) (B:=1) (Ziv c) (Ziv d)
  have w:sgn (Qa Qb (Qa Qb (sgn a*sgn b)-Qa Qb (sgn c*sgn d)))=cmpP a b c d:=by
   rw [Ydb h,Zey,Zey,W_eq (by omega) (by omega)]
  have w2:¬ Qa Qb (sgn a*sgn b)=Qa Qb (sgn c*sgn d):=by rw [Zey,Zey]; exact h
  refine pn Yd9 Tryz.func297 ?_
  rw [<-w]
  repeat'(first|refine wk1 ?_|(refine wk2 ?_ ?_<;>intro _)|fail)
  exact Za rfl
def r204:List AV->Option PRes
 | [.agg [.int .i64 a,.int .i64 b,.int .i64 c,.int .i64 d,.int .i64 x,.int .i64 y,.int .i64 z,.int .i64 w]]=>some ⟨.tup [I (Zrt ⟨a,b,c,d⟩ ⟨x,y,z,w⟩),I (Zrs ⟨a,b,c,d⟩ ⟨x,y,z,w⟩)],[]⟩
 | _=>none
def r207:List AV->Option PRes
 | [.int .i64 fr,.int .i64 den,.int .i64 to,.int .i64 oth,.int .i64 a,.int .i64 b]=>some ⟨Bo (ovl fr den to oth a b),[]⟩
 | _=>none
def r182:List AV->Option PRes
 | [.agg [.int .i64 a,.int .i64 b,.int .i64 c,.int .i64 d,.int .i64 x,.int .i64 y,.int .i64 z,.int .i64 w]]=>some ⟨.tup [I (midX ⟨a,b,c,d⟩ ⟨x,y,z,w⟩),I (midY ⟨a,b,c,d⟩ ⟨x,y,z,w⟩),I (midD ⟨a,b,c,d⟩ ⟨x,y,z,w⟩)],[]⟩
 | _=>none
def kF2:PC:=ins 289 r204 (ins 290 r207 (ins 261 r182 kG3))
theorem Yd8:PCOK Tryz.prog kF2:=by
 refine Zh (fun a res h=>?_) (Zh (fun a res h=>?_) (Zh (fun a res h=>?_) Vp))
 ·unfold r204 at h; split at h<;>cases h; exact c204 ⟨_,_,_,_⟩ ⟨_,_,_,_⟩
 ·unfold r207 at h; split at h<;>cases h; exact c207 _ _ _ _ _ _
 ·unfold r182 at h; split at h<;>cases h; exact c182 ⟨_,_,_,_⟩ ⟨_,_,_,_⟩
theorem c208 (p q:Pt) (x y:Int):PCall Tryz.prog 291 [wayA p q,P2 x y] ⟨I (Zh5 p q x y),[]⟩:=by
 have hk:=Zd (c215 (a:=Zrt p q) (b:=Qa Qb (Qa Qb (y*p.d)-p.y)) (c:=Zrs p q) (d:=Qa Qb (Qa Qb (x*p.d)-p.x)) (Zwc _) (Zwc _) (Zwc _) (Zwc _)) Yd8
 refine pn hk Tryz.func291 ?_
 repeat'(first|refine wk0 ?_|(refine wk2 ?_ ?_<;>intro _)|fail)
 exact Za rfl
def r208:List AV->Option PRes
 | [.agg [.int .i64 a,.int .i64 b,.int .i64 c,.int .i64 d,.int .i64 x,.int .i64 y,.int .i64 z,.int .i64 w],.agg [.int .i64 u,.int .i64 v]]=>some ⟨I (Zh5 ⟨a,b,c,d⟩ ⟨x,y,z,w⟩ u v),[]⟩
 | _=>none
def kF3:PC:=ins 291 r208 kF2
theorem Yi3:PCOK Tryz.prog kF3:=by
 refine Zh (fun a res h=>?_) Yd8
 unfold r208 at h; split at h<;>cases h; exact c208 ⟨_,_,_,_⟩ ⟨_,_,_,_⟩ _ _
theorem c181 (p q:Pt) (w:Wl):PCall Tryz.prog 260 [wayA p q,w.av] ⟨Bo (touP p q w),[]⟩:=by
 obtain ⟨pa,pb,pc,pd⟩:=p
 obtain ⟨qa,qb,qc,qd⟩:=q
 obtain ⟨wn,wa,wb,wc,wd⟩:=w
 refine pn Yi3 Tryz.func260 ?_
 repeat'(first|refine wk0 ?_|(refine wk2 ?_ ?_<;>intro _)|fail)
 all_goals exact Zb (by simp_all [touP]<;>omega)
def r181:List AV->Option PRes
 | [.agg [.int .i64 a,.int .i64 b,.int .i64 c,.int .i64 d,.int .i64 x,.int .i64 y,.int .i64 z,.int .i64 w],.agg [.int .i64 n,.int .i64 fx,.int .i64 fy,.int .i64 tx,.int .i64 ty]]=>some ⟨Bo (touP ⟨a,b,c,d⟩ ⟨x,y,z,w⟩ ⟨n,fx,fy,tx,ty⟩),[]⟩
 | _=>none
def Yhv:List AV->Option PRes
 | [.agg [.int .i64 a,.int .i64 b,.int .i64 c,.int .i64 d],.int .i64 x,.int .i64 y,.int .i64 z]=>some ⟨Bo (Rc.has ⟨a,b,c,d⟩ x y z),[]⟩
 | _=>none
def Yhw:List AV->Option PRes
 | [.agg [.int .i64 a,.int .i64 b,.int .i64 c,.int .i64 d],.int .i64 x,.int .i64 y,.int .i64 z]=>some ⟨Bo (Rc.holds ⟨a,b,c,d⟩ x y z),[]⟩
 | _=>none
def kF4:PC:=ins 260 r181 (ins 294 Yhv (ins 259 Yhw (ins 261 r182 (ins 251 r170 kG3))))
theorem Zue:PCOK Tryz.prog kF4:=by
 refine Zh (fun a res h=>?_) (Zh (fun a res h=>?_) (Zh (fun a res h=>?_) (Zh (fun a res h=>?_) (Zh (fun a res h=>?_) Vp))))
 ·unfold r181 at h; split at h<;>cases h; exact c181 ⟨_,_,_,_⟩ ⟨_,_,_,_⟩ ⟨_,_,_,_,_⟩
 ·unfold Yhv at h; split at h<;>cases h; exact c211 ⟨_,_,_,_⟩ _ _ _
 ·unfold Yhw at h; split at h<;>cases h; exact c193 ⟨_,_,_,_⟩ _ _ _
 ·unfold r182 at h; split at h<;>cases h; exact c182 ⟨_,_,_,_⟩ ⟨_,_,_,_⟩
 ·unfold r170 at h; split at h<;>cases h; exact c170 _ _ _ _ _ _ _
theorem c209 (r:Rc) (p q:Pt):PCall Tryz.prog 292 [r.av,wayA p q] ⟨Bo (Zwm r p q),[]⟩:=by
 obtain ⟨ra,rb,rc,rd⟩:=r
 obtain ⟨pa,pb,pc,pd⟩:=p
 obtain ⟨qa,qb,qc,qd⟩:=q
 refine pn Zue Tryz.func292 ?_
 repeat'(first|refine wk0 ?_|(refine wk2 ?_ ?_<;>intro _)|fail)
 all_goals try (refine Su 5 ?_)
 iterate 5
  all_goals try (refine Qx (bs.av (sx:=nos) Zue ?_))
  repeat'(first|refine wk0 ?_|(refine wk2 ?_ ?_<;>intro _)|fail)
 all_goals exact Zb (by simp_all [Zwm,edgP])
def atP (ht:Int) (p q:Pt):Int × Int × Int × Bool:=if 0<=Qa Qb (sgn (zOff ht p)*sgn (zOff ht q)) then (0,0,0,false) else (atX p.x q.x (size (zOff ht q)) (size (zOff ht p)),atX p.y q.y (size (zOff ht q)) (size (zOff ht p)),atX p.d q.d (size (zOff ht q)) (size (zOff ht p)),true)
theorem c210 (ht:Int) (p q:Pt):PCall Tryz.prog 293 [wayA p q,I ht] ⟨.tup [I (atP ht p q).1,I (atP ht p q).2.1,I (atP ht p q).2.2.1,Bo (atP ht p q).2.2.2],[]⟩:=by
 refine pn Vp Tryz.func293 ?_
 unfold atP
 by_cases hc:0<=Qa Qb (sgn (zOff ht p)*sgn (zOff ht q))
 ·rw [if_pos hc]
  unfold zOff at hc
  repeat'(first|refine wk3 ?_|(refine wk2 ?_ ?_<;>intro _)|fail)
  exact Ze rfl rfl
 ·rw [if_neg hc]
  unfold zOff at hc
  repeat'(first|refine wk3 ?_|(refine wk2 ?_ ?_<;>intro _)|fail)
  exact Ze rfl rfl
def r210:List AV->Option PRes
 | [.agg [.int .i64 a,.int .i64 b,.int .i64 c,.int .i64 d,.int .i64 x,.int .i64 y,.int .i64 z,.int .i64 w],.int .i64 ht]=>some ⟨.tup [I (atP ht ⟨a,b,c,d⟩ ⟨x,y,z,w⟩).1,I (atP ht ⟨a,b,c,d⟩ ⟨x,y,z,w⟩).2.1,I (atP ht ⟨a,b,c,d⟩ ⟨x,y,z,w⟩).2.2.1,Bo (atP ht ⟨a,b,c,d⟩ ⟨x,y,z,w⟩).2.2.2],[]⟩
 | _=>none
def r209:List AV->Option PRes
 | [.agg [.int .i64 e,.int .i64 f,.int .i64 g,.int .i64 h],.agg [.int .i64 a,.int .i64 b,.int .i64 c,.int .i64 d,.int .i64 x,.int .i64 y,.int .i64 z,.int .i64 w]]=>some ⟨Bo (Zwm ⟨e,f,g,h⟩ ⟨a,b,c,d⟩ ⟨x,y,z,w⟩),[]⟩
 | _=>none
def kF5:PC:=ins 292 r209 (ins 293 r210 kF4)
theorem Yi2:PCOK Tryz.prog kF5:=by
 refine Zh (fun a res h=>?_) (Zh (fun a res h=>?_) Zue)
 ·unfold r209 at h; split at h<;>cases h; exact c209 ⟨_,_,_,_⟩ ⟨_,_,_,_⟩ ⟨_,_,_,_⟩
 ·unfold r210 at h; split at h<;>cases h; exact c210 _ ⟨_,_,_,_⟩ ⟨_,_,_,_⟩
theorem c184 {h:Hal} {s:Stg} (g:Sit h s) {j:Nat} (hj:j<h.ks.length) (p q:Pt):PCall Tryz.prog 262 [.agg (stgL h s),I j,wayA p q] ⟨Bo (blkP h.ks[j].rc (Uq h s j) p q),[]⟩:=by
 have hk:=Zd (c192 g hj) Yi2
 have e5:=Zbu hj
 have l2:=Xd h.ks
 generalize Uq h s j=ht at *
 generalize h.ks[j]=c at *
 unfold blkP
 by_cases hc:p.z=Qa Qb (ht*p.d)/\q.z=Qa Qb (ht*q.d)
 ·rw [if_pos hc]
  obtain ⟨h1,h2⟩:=hc
  refine pn hk Tryz.func262 ?_
  repeat'(first|refine wk3 ?_|(refine wk2 ?_ ?_<;>intro _)|fail)
  exact Zb rfl
 ·rw [if_neg hc]
  have hat:atP ht p q=if 0<=Qa Qb (sgn (zOff ht p)*sgn (zOff ht q)) then (0,0,0,false) else (atX p.x q.x (size (zOff ht q)) (size (zOff ht p)),atX p.y q.y (size (zOff ht q)) (size (zOff ht p)),atX p.d q.d (size (zOff ht q)) (size (zOff ht p)),true):=rfl
  have hk2:=Zd (c210 ht p q) hk
  rw [hat] at hk2
  clear hk hat
  have hc2:¬ p.z=Qa Qb (ht*p.d)\/(p.z=Qa Qb (ht*p.d) /\ ¬ q.z=Qa Qb (ht*q.d)):=by
   by_cases h1:p.z=Qa Qb (ht*p.d)
   ·exact .inr ⟨h1,fun h2=>hc ⟨h1,h2⟩⟩
   ·exact .inl h1
  clear hc
  by_cases hs:0<=Qa Qb (sgn (zOff ht p)*sgn (zOff ht q))
  ·rw [if_pos hs] at hk2 ⊢
   clear hs
   rcases hc2 with h1|⟨h1,h2⟩
   all_goals
    refine pn hk2 Tryz.func262 ?_
    repeat'(first|refine wk3 ?_|(refine wk2 ?_ ?_<;>intro _)|fail)
    exact Zb rfl
  ·rw [if_neg hs] at hk2 ⊢
   clear hs
   rcases hc2 with h1|⟨h1,h2⟩
   all_goals
    refine pn hk2 Tryz.func262 ?_
    repeat'(first|refine wk3 ?_|(refine wk2 ?_ ?_<;>intro _)|fail)
    exact Zb rfl
def zBad (h:Hal) (p q:Pt):Bool:=(decide (p.z=0)&&decide (q.z=0))||(decide (p.z=Qa Qb (h.ht*p.d))&&decide (q.z=Qa Qb (h.ht*q.d)))||decide (p.z<0)||decide (q.z<0)||decide (Qa Qb (h.ht*p.d)<p.z)||decide (Qa Qb (h.ht*q.d)<q.z)
def blkA (h:Hal) (s:Stg) (p q:Pt):Nat->List Can->Bool
 | _,[]=>false
 | j,c::l=>blkP c.rc (Uq h s j) p q||blkA h s p q (j+1) l
def Zet (h:Hal) (s:Stg) (p q:Pt):Bool:=!zBad h p q&&(!(wls h.cs).any (touP p q)&&(Yi h (midX p q) (midY p q) (midD p q) && !blkA h s p q 0 h.ks))
noncomputable abbrev blks (h:Hal) (s:Stg) (p q:Pt):List AV->Option PRes:=famA (fun j:Nat=>j<h.ks.length) (fun j=>[.agg (stgL h s),I j,wayA p q]) (fun j=>⟨Bo (blkP ((h.ks[j]?).getD ⟨⟨#[]⟩,⟨#[]⟩,0,0,0,0,[]⟩).rc (Uq h s j) p q),[]⟩)
theorem Ydf {h:Hal} {s:Stg} {p q:Pt} {j:Nat} (hj:j<h.ks.length):blks h s p q [.agg (stgL h s),I j,wayA p q]=some ⟨Bo (blkP h.ks[j].rc (Uq h s j) p q),[]⟩:=by
 have:=Zm (p:=fun j:Nat=>j<h.ks.length) (g:=fun j:Nat=>[.agg (stgL h s),I j,wayA p q]) (r:=fun j=>⟨Bo (blkP ((h.ks[j]?).getD ⟨⟨#[]⟩,⟨#[]⟩,0,0,0,0,[]⟩).rc (Uq h s j) p q),[]⟩) (k:=j) (fun i hi=>by
  simp only [Qs,Sr,true_and,and_true] at hi
  have:i=j:=by omega
  subst this; rfl) hj
 refine this.trans ?_
 rw [Qe hj]; rfl
noncomputable def kF6 (h:Hal) (s:Stg) (p q:Pt):PC:=ins 262 (blks h s p q) (ins 257 (one [h.av,I (midX p q),I (midY p q),I (midD p q)] ⟨Bo (Yi h (midX p q) (midY p q) (midD p q)),[]⟩) kF4)
theorem Yi1 {h:Hal} {s:Stg} (g:Sit h s) (p q:Pt):PCOK Tryz.prog (kF6 h s p q):=Zo (fun j hj=>by rw [Qe hj]; exact c184 g hj p q) (Zd (c183 g.ok.f _ _ _) Zue)
theorem c103 {h:Hal} {s:Stg} (g:Sit h s) (p q:Pt):PCall Tryz.prog 178 [.agg (stgL h s),wayA p q] ⟨Bo (Zet h s p q),[]⟩:=by
 have hk:=Yi1 g p q
 refine pn hk Tryz.func178 ?_
 cases hz:zBad h p q with
 | true =>
  unfold Zet
  rw [hz]
  repeat'(first|refine wk3 ?_|(refine wk2 ?_ ?_<;>intro _)|fail)
  all_goals first
   | exact Zb rfl
   | (exfalso; clear hk; simp_all [zBad]; done)
   | (exfalso; clear hk; simp_all [zBad]; omega)
 | false =>
  have e:Zet h s p q=(!(wls h.cs).any (touP p q)&&(Yi h (midX p q) (midY p q) (midD p q) && !blkA h s p q 0 h.ks)):=by unfold Zet; rw [hz]; rfl
  rw [e]
  clear e
  unfold zBad at hz
  simp only [Bool.or_eq_false_iff,Bool.and_eq_false_iff,decide_eq_false_iff_not] at hz
  obtain ⟨⟨⟨⟨⟨z1,z2⟩,z3⟩,z4⟩,z5⟩,z6⟩:=hz
  repeat'(first|refine wk3 ?_|(refine wk2 ?_ ?_<;>intro _)|fail)
  all_goals try (exfalso; clear hk; simp_all; done)
  all_goals
   refine Rg.ren (env2:=[(2,.ptr 0 0 0),(4,.ptr 2 0 0),(9,.ptr 43 0 0),(92,.func 255 [h.av] [])]) (σ2:=⟨[(43,.row 8 [[I p.x,I p.y,I p.z,I p.d,I q.x,I q.y,I q.z,I q.d]] true false),(2,.row 1 [[Bo false]] true false),(0,.row 11 [stgL h s] true false)],44⟩) (Ren.of [] rfl (kps) (kps)) ?_;clear z1 z2 z3 z4 z5 z6
   refine rngV (itW g.ok.f) rfl rfl rfl rfl (Zf4 (S:=Unit) (fun _=>[(43,.row 8 [[I p.x,I p.y,I p.z,I p.d,I q.x,I q.y,I q.z,I q.d]] true false),(2,.row 1 [[Bo false]] true false),(0,.row 11 [stgL h s] true false)]) 44 44 (fun xs _=>∃ l:List Wl,xs=l.map (fun w=>[w.av])/\(!l.any (touP p q)&&(Yi h (midX p q) (midY p q) (midD p q) && !blkA h s p q 0 h.ks))=(!(wls h.cs).any (touP p q)&&(Yi h (midX p q) (midY p q) (midD p q) && !blkA h s p q 0 h.ks))) ?_ ?_ _ () ⟨_,rfl,rfl⟩)
   ·rintro u us _ ⟨l,h1,h2⟩
    cases l with
    | nil=>simp at h1
    | cons w l =>
     simp only [List.map_cons,Qs] at h1;obtain ⟨rfl,rfl⟩:=h1;obtain ⟨wn,wa,wb,wc,wd⟩:=w;rw [Ng] at h2;refine ⟨rfl,bs.av (sx:=nos) hk ?_⟩
     repeat'(first|refine wk3 ?_|(refine wk2 ?_ ?_<;>intro _)|fail)
     refine Bd.mk (bs.av (sx:=nos) hk ?_)
     repeat'(first|refine wk3 ?_|(refine wk2 ?_ ?_<;>intro _)|fail)
     ·rename_i hx
      rw [<-h2,hx];exact Zb rfl
     ·rename_i hx
      rw [hx,Pk] at h2;exact Ql ⟨(),[],rfl,kps,l,rfl,h2⟩
   ·rintro _ ⟨l,h1,h2⟩
    cases l with
    | cons w l=>simp at h1
    | nil =>
     rw [<-h2];clear h1 h2;rw [List.any_nil]
     repeat'(first|refine wk3 ?_|(refine wk2 ?_ ?_<;>intro _)|fail)
     ·rename_i hx
      have hx:Yi h (midX p q) (midY p q) (midD p q)=false:=by simpa using hx
      rw [hx];exact Zb rfl
     ·rename_i hx
      have hx:Yi h (midX p q) (midY p q) (midD p q)=true:=by simpa using hx
      rw [hx];have l4:=Xd h.ks;have f4:=g.ok.f.2.2.2.1;refine Zr (S:=Nat × Int) (fun t=>h.ks.length-t.1) (fun t=>[(2,.ptr 0 0 0),(4,.ptr 2 0 0),(9,.ptr 43 0 0),(114,I (h.ks.map Can.av).length),(115,I t.2)]) (fun _=>[(43,.row 8 [[I p.x,I p.y,I p.z,I p.d,I q.x,I q.y,I q.z,I q.d]] true false),(2,.row 1 [[Bo false]] true false),(0,.row 11 [stgL h s] true false)]) 60 60 (fun t=>t.2=t.1/\t.1<=h.ks.length/\blkA h s p q t.1 (h.ks.drop t.1)=blkA h s p q 0 h.ks) (0,0) ⟨rfl,Qn _,rfl⟩ (Nat.le_of_ble_eq_true rfl) [] rfl (kps) (kps) ?_;rintro ⟨k,i⟩ ⟨hi,hkk,hh⟩;dsimp only at hi hkk hh ⊢;subst hi
      refine bs.av (sx:=nos) hk ?_
      by_cases hlt:k<h.ks.length
      ·rw [List.drop_eq_getElem_cons hlt,blkA] at hh
       have hb:=Ydf (p:=p) (q:=q) (s:=s) hlt;generalize blkP h.ks[k].rc (Uq h s k) p q=b at *
       cases b with
       | true =>
        rw [<-hh]
        repeat'(first|refine wk3 ?_|(refine wk2 ?_ ?_<;>intro _)|fail)
        exact Zb rfl
       | false =>
        rw [Pk] at hh
        repeat'(first|refine wk3 ?_|(refine wk2 ?_ ?_<;>intro _)|fail)
        exact Ql ⟨(k+1,_),[],rfl,kps,kps,⟨Zg (by omega),hlt,hh⟩,by dsimp only; omega⟩
      ·rw [List.drop_of_length_le (by omega),blkA] at hh
       rw [<-hh]
       repeat'(first|refine wk3 ?_|(refine wk2 ?_ ?_<;>intro _)|fail)
       exact Zb rfl
def ptEq (p q:Pt):Bool:=decide (p.x=q.x)&&decide (p.y=q.y)&&decide (p.z=q.z)&&decide (p.d=q.d)
def wayE (h:Hal) (s:Stg) (p q:Pt):Int:=if serr h s=0 then (if Xh p=0 then (if Xh q=0 then (if ptEq p q then 11 else 0) else Xh q) else Xh p) else serr h s
abbrev sxF:FuncId->Bool:=fun f=>Qp f 163||Qp f 175||Qp f 176||Qp f 177
noncomputable abbrev ptEs:List AV->Option PRes:=famA (fun p:Pt=>p.wf) (fun p=>[p.av]) (fun p=>⟨I (Xh p),[]⟩)
theorem Zt0 {p:Pt} (h:p.wf):ptEs [p.av]=some ⟨I (Xh p),[]⟩ :=
 Zm (p:=fun p:Pt=>p.wf) (g:=fun p=>[p.av]) (r:=fun p=>⟨I (Xh p),[]⟩) (fun j hj=>by
  obtain ⟨a,b,c,d⟩:=j
  obtain ⟨a',b',c',d'⟩:=p
  simp only [Qs,Nc,Sr,true_and,and_true] at hj
  obtain ⟨rfl,rfl,rfl,rfl⟩:=hj
  rfl) h
theorem c37 {h:Hal} (hk:h.ok) {s:Stg} (hs:s.few) {p q:Pt} (hp:p.wf) (hq:q.wf):PCall Tryz.prog 113 [h.av,s.av,wayA p q] ⟨.tup [Bo (decide (wayE h s p q=0)&&Zet h s p q),I (wayE h s p q)],[]⟩:=by
 have hk0:PCOK Tryz.prog (ins 159 ptEs (ins 154 (one [h.av,s.av] ⟨.tup [.agg (stgL h s),I (serr h s)],[]⟩) kG4)):=Zo (fun p hp=>c99 hp) (Zd (c83 hk hs) Zar)
 have t1:=Zt0 hp
 have t2:=Zt0 hq
 unfold wayE
 by_cases h0:serr h s=0
 ·have g:=Zed hk hs h0
  rw [h0] at hk0
  rw [if_pos h0]
  have hk1:=Zd (c103 g p q) hk0
  clear hk0 h0
  generalize Zet h s p q=fr at *
  generalize Xh p=e1 at *
  generalize Xh q=e2 at *
  by_cases h1:e1=0
  ·rw [if_pos h1]
   subst h1
   by_cases h2:e2=0
   ·rw [if_pos h2]
    subst h2
    have hx:(true ^^ (decide (p.x=q.x)&&(decide (p.y=q.y)&&(decide (p.z=q.z)&&(decide (p.d=q.d)&&true))))) = !ptEq p q:=by
     unfold ptEq;cases decide (p.x=q.x)<;>cases decide (p.y=q.y)<;>cases decide (p.z=q.z)<;>cases decide (p.d=q.d)<;>rfl
    cases hq:ptEq p q with
    | true =>
     rw [hq] at hx;have hu:unl (true ^^ (decide (p.x=q.x)&&(decide (p.y=q.y)&&(decide (p.z=q.z)&&(decide (p.d=q.d)&&true))))) 11=11:=by rw [hx]; rfl
     clear hx hq;refine bs.pv (sx:=sxF) hk1 Tryz.func113 (by kernel_rfl) (by kernel_rfl) rfl ?_
     repeat'(first|refine wk3 ?_|(refine wk2 ?_ ?_<;>intro _)|fail)
     refine bs.sv (sx:=sxF) hk1 Tryz.func163 (by kernel_rfl) (by kernel_rfl) ?_;refine Su 4 ?_;refine Qx (bs.av (sx:=sxF) hk1 ?_)
     repeat'(first|refine wk3 ?_|(refine wk2 ?_ ?_<;>intro _)|fail)
     refine bs.sv (sx:=sxF) hk1 Tryz.func175 (by kernel_rfl) (by kernel_rfl) ?_
     repeat'(first|refine wk3 ?_|(refine wk2 ?_ ?_<;>intro _)|fail)
     refine Qx (bs.av (sx:=sxF) hk1 ?_)
     repeat'(first|refine wk3 ?_|(refine wk2 ?_ ?_<;>intro _)|fail)
     refine bs.sv (sx:=sxF) hk1 Tryz.func176 (by kernel_rfl) (by kernel_rfl) ?_
     repeat'(first|refine wk3 ?_|(refine wk2 ?_ ?_<;>intro _)|fail)
     refine Qx (bs.av (sx:=sxF) hk1 ?_)
     repeat'(first|refine wk3 ?_|(refine wk2 ?_ ?_<;>intro _)|fail)
     refine bs.sv (sx:=sxF) hk1 Tryz.func177 (by kernel_rfl) (by kernel_rfl) ?_
     repeat'(first|refine wk3 ?_|(refine wk2 ?_ ?_<;>intro _)|fail)
     exact Ze (by rw [hu]; rfl) rfl
    | false =>
     rw [hq] at hx;have hu:unl (true ^^ (decide (p.x=q.x)&&(decide (p.y=q.y)&&(decide (p.z=q.z)&&(decide (p.d=q.d)&&true))))) 11=0:=by rw [hx]; rfl
     clear hx hq;refine bs.pv (sx:=sxF) hk1 Tryz.func113 (by kernel_rfl) (by kernel_rfl) rfl ?_
     repeat'(first|refine wk3 ?_|(refine wk2 ?_ ?_<;>intro _)|fail)
     refine bs.sv (sx:=sxF) hk1 Tryz.func163 (by kernel_rfl) (by kernel_rfl) ?_;refine Su 4 ?_;refine Qx (bs.av (sx:=sxF) hk1 ?_)
     repeat'(first|refine wk3 ?_|(refine wk2 ?_ ?_<;>intro _)|fail)
     refine bs.sv (sx:=sxF) hk1 Tryz.func175 (by kernel_rfl) (by kernel_rfl) ?_
     repeat'(first|refine wk3 ?_|(refine wk2 ?_ ?_<;>intro _)|fail)
     refine Qx (bs.av (sx:=sxF) hk1 ?_)
     repeat'(first|refine wk3 ?_|(refine wk2 ?_ ?_<;>intro _)|fail)
     refine bs.sv (sx:=sxF) hk1 Tryz.func176 (by kernel_rfl) (by kernel_rfl) ?_
     repeat'(first|refine wk3 ?_|(refine wk2 ?_ ?_<;>intro _)|fail)
     refine Qx (bs.av (sx:=sxF) hk1 ?_)
     repeat'(first|refine wk3 ?_|(refine wk2 ?_ ?_<;>intro _)|fail)
     refine bs.sv (sx:=sxF) hk1 Tryz.func177 (by kernel_rfl) (by kernel_rfl) ?_
     repeat'(first|refine wk3 ?_|(refine wk2 ?_ ?_<;>intro _)|fail)
     refine Qx (bs.av (sx:=sxF) hk1 ?_)
     repeat'(first|refine wk3 ?_|(refine wk2 ?_ ?_<;>intro _)|fail)
     exact Ze (by cases fr<;>rfl) rfl
   ·rw [if_neg h2]
    refine bs.pv (sx:=sxF) hk1 Tryz.func113 (by kernel_rfl) (by kernel_rfl) rfl ?_
    repeat'(first|refine wk3 ?_|(refine wk2 ?_ ?_<;>intro _)|fail)
    refine bs.sv (sx:=sxF) hk1 Tryz.func163 (by kernel_rfl) (by kernel_rfl) ?_;refine Su 4 ?_;refine Qx (bs.av (sx:=sxF) hk1 ?_)
    repeat'(first|refine wk3 ?_|(refine wk2 ?_ ?_<;>intro _)|fail)
    refine bs.sv (sx:=sxF) hk1 Tryz.func175 (by kernel_rfl) (by kernel_rfl) ?_
    repeat'(first|refine wk3 ?_|(refine wk2 ?_ ?_<;>intro _)|fail)
    refine Qx (bs.av (sx:=sxF) hk1 ?_)
    repeat'(first|refine wk3 ?_|(refine wk2 ?_ ?_<;>intro _)|fail)
    refine bs.sv (sx:=sxF) hk1 Tryz.func176 (by kernel_rfl) (by kernel_rfl) ?_
    repeat'(first|refine wk3 ?_|(refine wk2 ?_ ?_<;>intro _)|fail)
    exact Ze (by rw [decide_eq_false h2]; rfl) rfl
  ·rw [if_neg h1]
   refine bs.pv (sx:=sxF) hk1 Tryz.func113 (by kernel_rfl) (by kernel_rfl) rfl ?_
   repeat'(first|refine wk3 ?_|(refine wk2 ?_ ?_<;>intro _)|fail)
   refine bs.sv (sx:=sxF) hk1 Tryz.func163 (by kernel_rfl) (by kernel_rfl) ?_;refine Su 4 ?_;refine Qx (bs.av (sx:=sxF) hk1 ?_)
   repeat'(first|refine wk3 ?_|(refine wk2 ?_ ?_<;>intro _)|fail)
   refine bs.sv (sx:=sxF) hk1 Tryz.func175 (by kernel_rfl) (by kernel_rfl) ?_
   repeat'(first|refine wk3 ?_|(refine wk2 ?_ ?_<;>intro _)|fail)
   exact Ze (by rw [decide_eq_false h1]; rfl) rfl
 ·rw [if_neg h0]
  generalize Zet h s p q=fr at *
  refine bs.pv (sx:=sxF) hk0 Tryz.func113 (by kernel_rfl) (by kernel_rfl) rfl ?_
  repeat'(first|refine wk3 ?_|(refine wk2 ?_ ?_<;>intro _)|fail)
  exact Ze (by rw [decide_eq_false h0]; rfl) rfl
theorem Yac {n d m k:Int} (hd:0<d) (hk:0<k) (h:n / d<m / k):cmpQ n d m k = -1:=by
 have h1:=Int.lt_ediv_add_one_mul_self n hd
 have h2:=Int.ediv_mul_le m (show k≠0 by omega)
 have h3:=Qg (show n / d+1<=m / k by omega) (Qu hd)
 have h4:=Tg (show n<m / k*d by omega) hk
 have h5:=Qg h2 (Qu hd)
 have e:m / k*d*k=m / k*k*d:=by grind
 unfold cmpQ sgn
 rw [if_neg (by omega),if_pos (by omega)]
theorem Yab {n d m k:Int}:cmpQ n d m k = -cmpQ m k n d:=by
 unfold cmpQ
 have e:n*k-m*d = -(m*d-n*k):=by omega
 rw [e]
 generalize m*d-n*k=v
 unfold sgn
 split<;>split<;>(try split)<;>(try split)<;>omega
theorem Yhd {n d m k:Int} (h:n / d=m / k):cmpQ n d m k=cmpQ (n%d) d (m%k) k:=by
 unfold cmpQ
 have h1:=Ny n d
 have h2:=Ny m k
 congr 1
 rw [h] at h1
 generalize m / k=q at *
 generalize n%d=r at *
 generalize m%k=t at *
 subst h1 h2
 grind
theorem cmpQ_flip {n d m k:Int}:cmpQ n d m k=cmpQ k m d n:=by unfold cmpQ; congr 1; grind
noncomputable abbrev flr:List AV->Option PRes:=famA (fun p:Int × Int=>0<p.2 /\ -9223372036854775807<=p.1/\p.1<=9223372036854775807) (fun p=>[I p.1,I p.2]) (fun p=>⟨I (p.1 / p.2),[]⟩)
theorem Zzb {n b:Int} (hb:0<b) (h0 : -9223372036854775807<=n) (h1:n<=9223372036854775807):flr [I n,I b]=some ⟨I (n / b),[]⟩ :=
 Zm (p:=fun p:Int × Int=>0<p.2 /\ -9223372036854775807<=p.1/\p.1<=9223372036854775807) (g:=fun p=>[I p.1,I p.2]) (r:=fun p=>⟨I (p.1 / p.2),[]⟩) (k:=(n,b)) (fun j hj=>by
  simp only [Qs,Sr,true_and,and_true] at hj
  obtain ⟨h1,h2⟩:=hj
  dsimp only
  rw [h1,h2]) ⟨hb,h0,h1⟩
noncomputable def kC1:PC:=ins 89 flr pt0
theorem Yea:PCOK Tryz.prog kC1:=Zo (fun p hp=>c90 hp.1 hp.2.1 hp.2.2) Zc
theorem Zrj {n d:Int} (hd:0<d) (hd2:d<=9223372036854775807):Qa Qb (n-Qa Qb (n / d*d))=n%d:=by
 have h1:=Lj n (show d≠0 by omega)
 have h2:=Oo n hd
 have h3:=Ny n d
 rw [Re] at h3
 simp only [Tj]
 omega
theorem c187 {n d m k:Int} (hd:0<d) (hk:0<k) (hd2:d<=9223372036854775807) (hk2:k<=9223372036854775807) (hn : -9223372036854775807<=n/\n<=9223372036854775807) (hm : -9223372036854775807<=m/\m<=9223372036854775807):PCall Tryz.prog 272 [I n,I d,I m,I k] ⟨I (cmpQ n d m k),[]⟩:=by
 refine pn Yea Tryz.func272 ?_
 generalize hR:cmpQ n d m k=R
 refine Zr (S:=Int × Int × Int × Int) (fun t=>(t.2.1+t.2.2.2).toNat) (fun t=>[(0,I t.1),(1,I t.2.1),(2,I t.2.2.1),(3,I t.2.2.2)]) (fun _=>[]) 0 0 (fun t=>((0<t.2.1/\t.2.1<=9223372036854775807)/\(0<t.2.2.2/\t.2.2.2<=9223372036854775807))/\((-9223372036854775807<=t.1/\t.1<=9223372036854775807)/\(-9223372036854775807<=t.2.2.1/\t.2.2.1<=9223372036854775807))/\cmpQ t.1 t.2.1 t.2.2.1 t.2.2.2=R) (n,d,m,k) ⟨⟨⟨hd,hd2⟩,hk,hk2⟩,⟨hn,hm⟩,hR⟩ (Qd _) [] rfl (kps) (kps) ?_
 clear hR hd hk hd2 hk2 hn hm
 rintro ⟨n,d,m,k⟩ ⟨⟨⟨hd,hd2⟩,hk,hk2⟩,⟨hn,hm⟩,hR⟩
 dsimp only at hd hd2 hk hk2 hn hm hR ⊢
 have t1:=Zzb hd hn.1 hn.2
 have t2:=Zzb hk hm.1 hm.2
 have w1:=Zrj (n:=n) hd hd2
 have w2:=Zrj (n:=m) hk hk2
 have n1:=Lj n (show d≠0 by omega)
 have n2:=Oo n hd
 have m1:=Lj m (show k≠0 by omega)
 have m2:=Oo m hk
 refine bs.av (sx:=nos) Yea ?_
 rcases Tb (n / d) (m / k) with hc|hc|hc
 ·have e:=Yac hd hk hc
  rw [hR] at e
  rw [e]
  generalize n / d=P at *
  generalize m / k=Q at *
  repeat'(first|refine wk1 ?_|(refine wk2 ?_ ?_<;>intro _)|fail)
  exact Za rfl
 ·have e:=Yhd hc
  rw [hR] at e
  rw [hc] at t1 w1
  generalize m / k=Q at *
  generalize n%d=r at *
  generalize m%k=t at *
  by_cases r0:r=0
  ·by_cases t0:t=0
   ·have:R=0:=by rw [e,r0,t0]; unfold cmpQ; simp [sgn]
    subst r0 t0;rw [this];clear e hR this
    repeat'(first|refine wk1 ?_|(refine wk2 ?_ ?_<;>intro _)|fail)
    all_goals first
     | exact Za rfl
     | (exfalso; rename_i hx; simp [w1,w2] at hx; done)
     | (exfalso; rename_i hx; simp [w1,w2] at hx; omega)
   ·have:R = -1:=by
     rw [e,r0]; unfold cmpQ sgn;have:=Rm (show 0<t by omega) hd;rw [if_neg (by omega),if_pos (by omega)]
    rw [this]
    repeat'(first|refine wk1 ?_|(refine wk2 ?_ ?_<;>intro _)|fail)
    all_goals first
     | exact Za rfl
     | (exfalso; rename_i hx; simp [w1,w2] at hx; done)
     | (exfalso; rename_i hx; simp [w1,w2] at hx; omega)
  ·by_cases t0:t=0
   ·have:R=1:=by
     rw [e,t0]; unfold cmpQ sgn;have:=Rm (show 0<r by omega) hk;rw [if_pos (by omega)]
    rw [this]
    repeat'(first|refine wk1 ?_|(refine wk2 ?_ ?_<;>intro _)|fail)
    all_goals first
     | exact Za rfl
     | (exfalso; rename_i hx; simp [w1,w2] at hx; done)
     | (exfalso; rename_i hx; simp [w1,w2] at hx; omega)
   ·repeat'(first|refine wk1 ?_|(refine wk2 ?_ ?_<;>intro _)|fail)
    exact Ql ⟨(k,t,d,r),[],rfl,by rw [w1,w2]; exact kps,kps,⟨⟨⟨by dsimp only; omega,by dsimp only; omega⟩,by dsimp only; omega,by dsimp only; omega⟩,⟨⟨by dsimp only; omega,by dsimp only; omega⟩,by dsimp only; omega,by dsimp only; omega⟩,by rw [e]; exact cmpQ_flip.symm⟩,by dsimp only; omega⟩
 ·have e:=Yac hk hd hc
  have e2:R=1:=by rw [<-hR,Yab,e]; rfl
  rw [e2]
  generalize n / d=P at *
  generalize m / k=Q at *
  repeat'(first|refine wk1 ?_|(refine wk2 ?_ ?_<;>intro _)|fail)
  exact Za rfl
end Go.Proofs.YtfkdpbklbegnlaaGreat
