/- A part of the proof: lemmas. -/
import Derived.Test.YtdmidbkelinnjaaGreatA11
import Derived.Test.YtdmidbkelinnjaaGreatA12
import Derived.Test.YtdmidbkelinnjaaGreatA7
import Derived.Test.YtdmidbkelinnjaaGreatA10
import Derived.Laws.Bits64b
import Derived.Lib.Mul64
set_option linter.unusedVariables false
set_option linter.unusedSimpArgs false
set_option maxRecDepth 100000
set_option maxHeartbeats 16000000
open BitVec renaming ofInt->Rw
open Bool renaming and_assoc->Pa,and_eq_true->Qc,false_and->Mj,false_or->Pj,not_eq_true'->Sq,true_and->Wa
open Go.IntKind renaming i64->Qb,u64->Rh,wrap->Qa,wrap_u64->Jh
open Go.Lib renaming half_mul_le->Ke
open Go.RowKit.Below renaming refl->Gv
open Go.Sx.AV renaming asl->Dy
open Go.Sx.AV.agg renaming injEq->Mm
open Go.Sx.AV.int renaming injEq->Wh
open Go.Sx.AV.isl renaming injEq->Ml
open Go.Sx.Done renaming mk->Qo
open Go.Sx.LpM renaming start->Wp,succ->Rp
open Go.Value renaming slice->Ny
open Int renaming eq_ofNat_of_zero_le->Ji,lt_trichotomy->Pe,mul_nonneg->Tk,toNat->Sl,toNat_natCast->Rj
open List renaming all_cons->Nh,cons_append->Tv,drop->Fm,drop_eq_getElem_cons->Qi,drop_of_length_le->Qj,exists_cons_of_length_pos->My,getElem?_eq_getElem->Qh,getElem?_map->Rr,getElem?_set->Mn,getElem_mem->Qs,length_cons->Sf,length_map->Ss,length_set->Jy,map_append->Oh,map_cons->Sz,map_set->Lv,mem_or_eq_of_mem_set->Tw,replicate->Rn,take->Fl,take_succ_eq_append_getElem->Qw
open List.cons renaming injEq->Rb
open Nat renaming beq->Ql,gcd->Ta,gcd_one_right->Gx,le_refl->Qd,zero_add->Rv,zero_le->Qm
open Option renaming isNone->Kv
open Option.some renaming injEq->Qe
namespace Go.Proofs.YtdmidbkelinnjaaGreat
open Go Go.Sx
abbrev Yei (h:Hal):Prop:=(9<h.ws.length/\h.ws.length<=12)\/14<h.ws.length\/14<h.cs.length\/4<h.ms.length\/2<h.ks.length\/3<h.ss.length
def Zkn (h:Hal):Bool:=Yg h.nm&&Yg h.fl&&Yg h.ce
def few2 (h:Hal):Bool:=(!decide (Yei h)&&Zkn h)&&(h.ws.all fewW&&(h.ms.all fewM&&(h.ks.all fewC&&h.ss.all fewS)))
theorem Yci {h:Hal} (hb:few2 h=true):h.ok:=by
 unfold few2 Zkn at hb
 simp only [Qc,Sq,decide_eq_false_iff_not] at hb
 obtain ⟨⟨hL,⟨n1,n2⟩,n3⟩,m2,m1,m3,m4⟩:=hb
 have hL:¬ ((9<h.ws.length/\h.ws.length<=12)\/14<h.ws.length\/14<h.cs.length\/4<h.ms.length\/2<h.ks.length\/3<h.ss.length):=hL
 rw [List.all_eq_true] at m1 m2 m3 m4
 refine ⟨⟨by omega,by omega,by omega,by omega,by omega,fun c hc=>?_⟩,⟨Zbi n1,fun m hm=>Zbi (m1 m hm),fun m hm=>?_,fun m hm=>?_,fun m hm=>Zbi (m4 m hm)⟩⟩
 ·have:=m3 c hc
  unfold fewC at this
  simp only [Qc,Sq,decide_eq_false_iff_not] at this
  omega
 ·have:=m2 m hm
  unfold fewW at this
  simp only [Qc] at this
  exact Zbi this.1.1
 ·have:=m3 m hm
  unfold fewC at this
  simp only [Qc] at this
  exact Zbi this.1.1
theorem sh_n {s:ByteArray} (h:Yg s=true):¬ (20:Int)<(s.size:Int):=by
 unfold Yg at h
 simpa using h
theorem d80 (h:Hal):PCall Tryz.prog 17 [h.av] ⟨Bo (few2 h),[]⟩:=by
 have l1:=Zdd h.ms
 have l2:(h.cs.map pt).length=h.cs.length:=by simp
 have l3:=Ym h.ws
 have l4:=Xe h.ks
 have l5:=Zak h.ss
 by_cases hP:Yei h
 ·have e0:few2 h=false:=by unfold few2; rw [decide_eq_true hP]; rfl
  rw [e0]
  clear e0
  have hP:(9<h.ws.length/\h.ws.length<=12)\/14<h.ws.length\/14<h.cs.length\/4<h.ms.length\/2<h.ks.length\/3<h.ss.length:=hP
  refine bs.pv (sx:=nos) Zd Tryz.func17 (by kernel_rfl) (by kernel_rfl) rfl ?_
  repeat'(first|refine wk3 ?_|(refine wk2 ?_ ?_<;>intro _)|refine wk4 ?_|fail);all_goals(conv=>whnf)
  all_goals first
   | exact Zc rfl
   | (exfalso; simp_all; omega)
 have hP' : ¬ ((9<h.ws.length/\h.ws.length<=12)\/14<h.ws.length\/14<h.cs.length\/4<h.ms.length\/2<h.ks.length\/3<h.ss.length):=hP
 have hw:h.ws.length<=9\/12<h.ws.length:=by omega
 unfold few2
 rw [decide_eq_false hP,Bool.not_false,Wa]
 clear hP
 by_cases hN:Zkn h=true
 rotate_left
 ·have hN:Zkn h=false:=by simpa using hN
  rw [hN,Mj]
  unfold Zkn at hN
  rcases hw with hw|hw
  all_goals
   refine bs.pv (sx:=nos) Zd Tryz.func17 (by kernel_rfl) (by kernel_rfl) rfl ?_
   repeat'(first|refine wk3 ?_|(refine wk2 ?_ ?_<;>intro _)|refine wk4 ?_|fail);all_goals(conv=>whnf)
  all_goals first
   | exact Zc rfl
   | (exfalso; simp_all [Yg]; done)
   | (exfalso; simp_all [Yg]; omega)
 rw [hN,Wa]
 unfold Zkn at hN
 simp only [Qc] at hN
 obtain ⟨⟨n1,n2⟩,n3⟩:=hN
 have n1:=sh_n n1
 have n2:=sh_n n2
 have n3:=sh_n n3
 generalize hE:(h.ws.all fewW&&(h.ms.all fewM&&(h.ks.all fewC&&h.ss.all fewS)))=R
 rcases hw with hw|hw
 all_goals
  refine bs.pv (sx:=nos) Zd Tryz.func17 (by kernel_rfl) (by kernel_rfl) rfl ?_
  repeat'(first|refine wk3 ?_|(refine wk2 ?_ ?_<;>intro _)|refine wk4 ?_|fail);all_goals(conv=>whnf)
  clear n1 n2 n3
  subst hE
  generalize hV:(h.ms.all fewM&&(h.ks.all fewC&&h.ss.all fewS))=V
  refine Zz (S:=Nat × Int) (fun t=>h.ws.length-t.1) (fun t=>[(1,.ptr 0 0 0),(2,Bo false),(3,I t.2)]) (fun _=>[(0,.row 9 [h.cells] true false)]) 1 1 (fun t=>t.2=t.1/\t.1<=h.ws.length/\((h.ws.drop t.1).all fewW&&V)=(h.ws.all fewW&&V)) (0,0) ⟨rfl,Qm _,rfl⟩ (Qd _) [] rfl (kps) (kps) ?_
  rintro ⟨k,i⟩ ⟨hi,hk,hh⟩
  dsimp only at hi hk hh ⊢
  subst hi
  generalize hB:(h.ws.all fewW&&V)=B at *
  clear hB
  refine bs.av (sx:=nos) Zd ?_
  by_cases hlt:k<h.ws.length
  ·clear hV
   have e1:=Zka hlt
   rw [Qi hlt,Nh] at hh
   generalize h.ws[k]=m at *
   have hm:∀ b,fewW m=b->(b&&(h.ws.drop (k+1)).all fewW&&V)=B:=fun b e=>by rw [<-e,Pa]; rw [Pa] at hh; exact hh
   clear hh
   repeat'(first|refine wk3 ?_|(refine wk2 ?_ ?_<;>intro _)|refine wk4 ?_|fail);all_goals(conv=>whnf)
   all_goals clear e1
   all_goals first
    | exact Zc (hm false (by clear hm; simp_all [fewW,Yg]; done))
    | exact Qo ⟨(k+1,_),[],rfl,kps,kps,⟨Zi (by omega),hlt,hm true (by clear hm; simp_all [fewW,Yg]; done)⟩,by dsimp only; omega⟩
  rw [Qj (by omega)] at hh
  have hh:V=B:=hh
  subst hh
  subst hV
  repeat'(first|refine wk3 ?_|(refine wk2 ?_ ?_<;>intro _)|refine wk4 ?_|fail);all_goals(conv=>whnf)
  clear hlt hk
  generalize hV:(h.ks.all fewC&&h.ss.all fewS)=V
  refine Zz (S:=Nat × Int) (fun t=>h.ms.length-t.1) (fun t=>[(1,.ptr 0 0 0),(2,Bo false),(4,I t.2)]) (fun _=>[(0,.row 9 [h.cells] true false)]) 1 1 (fun t=>t.2=t.1/\t.1<=h.ms.length/\((h.ms.drop t.1).all fewM&&V)=(h.ms.all fewM&&V)) (0,0) ⟨rfl,Qm _,rfl⟩ (Qd _) [] rfl (kps) (kps) ?_
  rintro ⟨k,i⟩ ⟨hi,hk,hh⟩
  dsimp only at hi hk hh ⊢
  subst hi
  generalize hB:(h.ms.all fewM&&V)=B at *
  clear hB
  refine bs.av (sx:=nos) Zd ?_
  by_cases hlt:k<h.ms.length
  ·clear hV
   have e1:=Zqs hlt
   rw [Qi hlt,Nh] at hh
   generalize h.ms[k]=m at *
   have hm:∀ b,fewM m=b->(b&&(h.ms.drop (k+1)).all fewM&&V)=B:=fun b e=>by rw [<-e,Pa]; rw [Pa] at hh; exact hh
   clear hh
   repeat'(first|refine wk3 ?_|(refine wk2 ?_ ?_<;>intro _)|refine wk4 ?_|fail);all_goals(conv=>whnf)
   all_goals clear e1
   all_goals first
    | exact Zc (hm false (by clear hm; simp_all [fewM,Yg]; done))
    | exact Qo ⟨(k+1,_),[],rfl,kps,kps,⟨Zi (by omega),hlt,hm true (by clear hm; simp_all [fewM,Yg]; done)⟩,by dsimp only; omega⟩
  rw [Qj (by omega)] at hh
  have hh:V=B:=hh
  subst hh
  subst hV
  repeat'(first|refine wk3 ?_|(refine wk2 ?_ ?_<;>intro _)|refine wk4 ?_|fail);all_goals(conv=>whnf)
  clear hlt hk
  generalize hV:h.ss.all fewS=V
  refine Zz (S:=Nat × Int) (fun t=>h.ks.length-t.1) (fun t=>[(1,.ptr 0 0 0),(2,Bo false),(5,I t.2)]) (fun _=>[(0,.row 9 [h.cells] true false)]) 1 1 (fun t=>t.2=t.1/\t.1<=h.ks.length/\((h.ks.drop t.1).all fewC&&V)=(h.ks.all fewC&&V)) (0,0) ⟨rfl,Qm _,rfl⟩ (Qd _) [] rfl (kps) (kps) ?_
  rintro ⟨k,i⟩ ⟨hi,hk,hh⟩
  dsimp only at hi hk hh ⊢
  subst hi
  generalize hB:(h.ks.all fewC&&V)=B at *
  clear hB
  refine bs.av (sx:=nos) Zd ?_
  by_cases hlt:k<h.ks.length
  ·clear hV
   have e1:=Zdo hlt
   rw [Qi hlt,Nh] at hh
   generalize h.ks[k]=m at *
   have e9:=Zl m.hs
   have hm:∀ b,fewC m=b->(b&&(h.ks.drop (k+1)).all fewC&&V)=B:=fun b e=>by rw [<-e,Pa]; rw [Pa] at hh; exact hh
   clear hh
   repeat'(first|refine wk3 ?_|(refine wk2 ?_ ?_<;>intro _)|refine wk4 ?_|fail);all_goals(conv=>whnf)
   all_goals clear e1
   all_goals first
    | exact Zc (hm false (by clear hm; simp_all [fewC,Yg]; done))
    | exact Qo ⟨(k+1,_),[],rfl,kps,kps,⟨Zi (by omega),hlt,hm true (by clear hm; simp_all [fewC,Yg]; done)⟩,by dsimp only; omega⟩
  rw [Qj (by omega)] at hh
  have hh:V=B:=hh
  subst hh
  subst hV
  repeat'(first|refine wk3 ?_|(refine wk2 ?_ ?_<;>intro _)|refine wk4 ?_|fail);all_goals(conv=>whnf)
  clear hlt hk
  refine Zz (S:=Nat × Int) (fun t=>h.ss.length-t.1) (fun t=>[(1,.ptr 0 0 0),(2,Bo false),(6,I t.2)]) (fun _=>[(0,.row 9 [h.cells] true false)]) 1 1 (fun t=>t.2=t.1/\t.1<=h.ss.length/\((h.ss.drop t.1).all fewS)=(h.ss.all fewS)) (0,0) ⟨rfl,Qm _,rfl⟩ (Qd _) [] rfl (kps) (kps) ?_
  rintro ⟨k,i⟩ ⟨hi,hk,hh⟩
  dsimp only at hi hk hh ⊢
  subst hi
  generalize hB:(h.ss.all fewS)=B at *
  clear hB
  refine bs.av (sx:=nos) Zd ?_
  by_cases hlt:k<h.ss.length
  ·have e1:=Zkf hlt
   rw [Qi hlt,Nh] at hh
   generalize h.ss[k]=m at *
   have hm:∀ b,fewS m=b->(b&&(h.ss.drop (k+1)).all fewS)=B:=fun b e=>by rw [<-e]; exact hh
   clear hh
   repeat'(first|refine wk3 ?_|(refine wk2 ?_ ?_<;>intro _)|refine wk4 ?_|fail);all_goals(conv=>whnf)
   all_goals clear e1
   all_goals first
    | exact Zc (hm false (by clear hm; simp_all [fewS,Yg]; done))
    | exact Qo ⟨(k+1,_),[],rfl,kps,kps,⟨Zi (by omega),hlt,hm true (by clear hm; simp_all [fewS,Yg]; done)⟩,by dsimp only; omega⟩
  rw [Qj (by omega)] at hh
  repeat'(first|refine wk3 ?_|(refine wk2 ?_ ?_<;>intro _)|refine wk4 ?_|fail);all_goals(conv=>whnf)
  exact Zc hh
def few3 (h:Hal) (s:Stg):Bool:=few2 h&&(decide (s.hs.length<=4)&&decide (s.dr.length<=10))
theorem Zvl {h:Hal} {s:Stg} (r:few3 h s=true):h.ok/\s.few:=by
 unfold few3 at r
 simp only [Qc,decide_eq_true_eq] at r
 exact ⟨Yci r.1,by omega,by omega⟩
theorem d90 {h:Hal} (hk:h.ok):PCall Tryz.prog 18 [h.av] ⟨I h.err,[]⟩:=by
 refine bs.pv (sx:=nos) (Ze (c65k hk) Zd) Tryz.func18 (by kernel_rfl) (by kernel_rfl) rfl ?_
 repeat'(first|refine wk3 ?_|(refine wk2 ?_ ?_<;>intro _)|refine wk4 ?_|fail);all_goals(conv=>whnf)
 exact Za rfl
def nsN (h:Hal):Nat:=h.ws.length+2+h.ks.length
theorem Zzz (h:Hal):(nsN h:Int)=nsur h:=by unfold nsN nsur; omega
theorem Zxg (h:Hal):(sl (surf h)).length=nsN h:=by
 rw [Zif]; unfold surf Zfd Zft nsN; simp; omega
def wkG (n:Int):Option Int->List Int->Int
 | _,[]=>0
 | q,x::l=>if within x 0 n then (if q=some x then 26 else wkG n (some x) l) else 6
def suE (h:Hal) (l:List Int):Int:=if 4<(l.length:Int) then 8 else wkG (nsur h-1) none l
theorem Zzg {n:Int}:∀ {l:List Int} {q:Option Int},wkG n q l=0->∀ x∈l,0<=x/\x<=n
 | [],_,_,x,hx=>by simp at hx
 | y::l,q,h,x,hx=>by
  rw [wkG] at h
  split at h
  ·rename_i c
   split at h
   ·cases h
   ·rw [List.mem_cons] at hx
    rcases hx with rfl|hx
    ·exact within_iff.1 c
    ·exact Zzg h x hx
  ·cases h
def eqN:List Int->List Int->Bool
 | [],[]=>true
 | x::a,y::b=>decide (x=y)&&eqN a b
 | _,_=>false
theorem Zvw:∀ {a b:List Int},eqN a b=true↔a=b
 | [],[]=>by simp [eqN]
 | x::a,y::b=>by rw [eqN,Qc,decide_eq_true_eq,Zvw]; simp
 | [],y::b=>by simp [eqN]
 | x::a,[]=>by simp [eqN]
theorem Zui (a b:List Int):nl (a++b)=nl a++nl b:=by simp [nl]
def lstR (L:List Int) (f:AV->AV):PRes:=match L with
 | []=>⟨f .nils,[]⟩
 | _=>⟨f (.asl 0 0 (nl L).length),[(1,nl L)]⟩
theorem d103 {ns:List Int} (h0:0<ns.length) (hl:ns.length<100000):PCall Tryz.prog 64 [.isl 1 (nl ns)] ⟨.asl 0 0 (nl ns).length,[(1,nl ns)]⟩:=by
 obtain ⟨x,l,rfl⟩:=My h0
 have h1:=Zm0 (x::l)
 have h2:=Zl (x::l)
 refine bs.pv (sx:=nos) Zd Tryz.func64 (by kernel_rfl) (by kernel_rfl) rfl ?_
 repeat'(first|refine wk3 ?_|(refine wk2 ?_ ?_<;>intro _)|refine wk4 ?_|fail);all_goals(conv=>whnf)
 refine Xg [1] rfl ?_ rfl
 show Dy 1 0 (0+(nl (x::l)).length)=Dy 1 0 (nl (x::l)).length
 rw [Rv]
theorem w103 (a:Option Addr) (cap:Nat) (w:World):Calls Tryz.prog 64 #[.slice a 0 cap] w fun e w'=>∃ a' cap',e = .returned (.slice a' 0 cap')/\RowKit.Below w.heap.size w w':=by
 have e:∀ w:World,Sem.run Tryz.prog (binOp BinOp.eql 29 (Ny a 0 cap) (Ny none 0 0)) w = .ok (.bool a.isNone) w:=by
  intro w
  cases a<;>rfl
 cases a with
 | none =>
  simp only [Kv] at e
  go_enter Tryz.func64,Tryz.ntmps64
  go_wp2
  go_ret
  exact ⟨_,_,rfl,Gv _ _⟩
 | some a =>
  simp only [Kv] at e
  go_enter Tryz.func64,Tryz.ntmps64
  go_wp2
  go_ret
  exact ⟨_,_,rfl,Zjm _ _⟩
theorem Yfl:PCall Tryz.prog 64 [.isl 1 []] ⟨.isl 1 [],[]⟩:=Zmw (FnOK.of Tryz.func64 (by kernel_rfl) (by kernel_rfl)) w103
theorem Zue (l:List (Int × Int × Int × Int)):Vz (l.map hp4)=true:=by simp [Vz,AV.one]
theorem d104 {ps:List (Int × Int × Int × Int)} (h0:0<ps.length) (hl:ps.length<100000):PCall Tryz.prog 65 [.isl 4 (ps.map hp4)] ⟨.asl 0 0 (ps.map hp4).length,[(4,ps.map hp4)]⟩:=by
 obtain ⟨x,l,rfl⟩:=My h0
 have h1:=Zue (x::l)
 have h2:((x::l).map hp4).length=(x::l).length:=by simp
 refine bs.pv (sx:=nos) Zd Tryz.func65 (by kernel_rfl) (by kernel_rfl) rfl ?_
 repeat'(first|refine wk3 ?_|(refine wk2 ?_ ?_<;>intro _)|refine wk4 ?_|fail);all_goals(conv=>whnf)
 refine Xg [1] rfl ?_ rfl
 show Dy 1 0 (0+((x::l).map hp4).length)=Dy 1 0 ((x::l).map hp4).length
 rw [Rv]
theorem w104 (a:Option Addr) (cap:Nat) (w:World):Calls Tryz.prog 65 #[.slice a 0 cap] w fun e w'=>∃ a' cap',e = .returned (.slice a' 0 cap')/\RowKit.Below w.heap.size w w':=by
 have e:∀ w:World,Sem.run Tryz.prog (binOp BinOp.eql 52 (Ny a 0 cap) (Ny none 0 0)) w = .ok (.bool a.isNone) w:=by
  intro w
  cases a<;>rfl
 cases a with
 | none =>
  simp only [Kv] at e
  go_enter Tryz.func65,Tryz.ntmps65
  go_wp2
  go_ret
  exact ⟨_,_,rfl,Gv _ _⟩
 | some a =>
  simp only [Kv] at e
  go_enter Tryz.func65,Tryz.ntmps65
  go_wp2
  go_ret
  exact ⟨_,_,rfl,Zjm _ _⟩
theorem Yfj:PCall Tryz.prog 65 [.isl 4 []] ⟨.isl 4 [],[]⟩:=Zmw (FnOK.of Tryz.func65 (by kernel_rfl) (by kernel_rfl)) w104
abbrev Pl3:=Int × Int × Int
def plcB (x y z:Int):Bool:=within x (-5000) 5000&&within y (-5000) 5000&&within z (-5000) 5000
def plaE (h:Hal) (x y z:Int):Int:=if plcB x y z=true then unl (Ub h ⟨x,y,z,1⟩) 24 else 2
theorem d123 (x y z:Int):PCall Tryz.prog 61 [P3 x y z] ⟨P4 x y z 1,[]⟩:=by
 refine bs.pv (sx:=nos) Zd Tryz.func61 (by kernel_rfl) (by kernel_rfl) rfl ?_
 repeat'(first|refine wk3 ?_|(refine wk2 ?_ ?_<;>intro _)|refine wk4 ?_|fail);all_goals(conv=>whnf)
 all_goals exact Zf rfl rfl
theorem d83 (n:Int):PCall Tryz.prog 20 [I n] ⟨Bo (within n (-5000) 5000),[]⟩:=by
 refine bs.pv (sx:=nos) (Ze (c30 n (-5000) 5000) Zd) Tryz.func20 (by kernel_rfl) (by kernel_rfl) rfl ?_
 repeat'(first|refine wk3 ?_|(refine wk2 ?_ ?_<;>intro _)|refine wk4 ?_|fail);all_goals(conv=>whnf)
 exact Zc rfl
theorem d81 (n:Int):PCall Tryz.prog 39 [I n] ⟨I (unl (within n 0 4) 2),[]⟩:=by
 refine bs.pv (sx:=nos) (Ze (d210 n 0 4) (Ze (d209 (within n 0 4) 2) Zd)) Tryz.func39 (by kernel_rfl) (by kernel_rfl) rfl ?_
 repeat'(first|refine wk3 ?_|(refine wk2 ?_ ?_<;>intro _)|refine wk4 ?_|fail);all_goals(conv=>whnf)
 exact Za rfl
theorem Zdu (n:Int):small n 5000=within n (-5000) 5000:=rfl
theorem Ydt {x y z:Int} (c:plcB x y z=true):Xc ⟨x,y,z,1⟩=0:=by
 simp only [plcB,Qc,within_iff] at c
 have hg:g4 ⟨x,y,z,1⟩=1:=by
  simp [g4]
 unfold Xc
 rw [if_neg (by simp [hg]),if_neg (by simp),if_pos]
 unfold ptIn
 simp only [Qc,within_iff]
 simp
 omega
def r86:List AV->Option PRes
 | [.int .i64 n,.int .i64 m]=>some ⟨Bo (small n m),[]⟩
 | _=>none
theorem Ydj {pt:PC} (h:PCOK Tryz.prog pt):PCOK Tryz.prog (ins 75 r86 pt):=Zj (fun a res h=>by unfold r86 at h; split at h<;>cases h; exact d86 _ _) h
def r83:List AV->Option PRes
 | [.int .i64 n]=>some ⟨Bo (within n (-5000) 5000),[]⟩
 | _=>none
theorem Ydk {pt:PC} (h:PCOK Tryz.prog pt):PCOK Tryz.prog (ins 20 r83 pt):=Zj (fun a res h=>by unfold r83 at h; split at h<;>cases h; exact d83 _) h
theorem d79 {h:Hal} (hk:h.ok) (he:h.err=0) (x y z:Int):PCall Tryz.prog 56 [h.av,P3 x y z] ⟨I (plaE h x y z),[]⟩:=by
 have hk0:=Ydj (Ze (d123 x y z) Zd)
 by_cases c:plcB x y z=true
 ·have hp:=Ydt c
  have hi:insE h ⟨x,y,z,1⟩=0:=by unfold insE; rw [if_pos he,hp]
  have hw:Pt.wf ⟨x,y,z,1⟩:=by
   simp only [plcB,Qc,within_iff] at c
   refine ⟨⟨?_,?_⟩,⟨?_,?_⟩,⟨?_,?_⟩,⟨?_,?_⟩⟩<;>dsimp only<;>omega
  have h50:=c50 hk hw
  rw [hi] at h50
  unfold plaE
  rw [if_pos c]
  generalize Ub h ⟨x,y,z,1⟩=b at *
  have hk1:=Ze h50 (Ze (d209 b 24) hk0)
  simp only [plcB,Qc,<-Zdu] at c
  refine bs.pv (sx:=nos) hk1 Tryz.func56 (by kernel_rfl) (by kernel_rfl) rfl ?_
  repeat'(first|refine wk3 ?_|(refine wk2 ?_ ?_<;>intro _)|refine wk4 ?_|fail);all_goals(conv=>whnf)
  all_goals first
   | exact Za rfl
   | (exfalso; clear hk1 h50 hk0 hp hi; simp_all; done)
 ·unfold plaE
  rw [if_neg c]
  simp only [plcB,<-Zdu] at c
  refine bs.pv (sx:=nos) hk0 Tryz.func56 (by kernel_rfl) (by kernel_rfl) rfl ?_
  repeat'(first|refine wk3 ?_|(refine wk2 ?_ ?_<;>intro _)|refine wk4 ?_|fail);all_goals(conv=>whnf)
  all_goals first
   | exact Za rfl
   | (exfalso; clear hk0; simp_all; done)
theorem d27 {h:Hal} (hk:h.ok) (he:h.err=0) (x y z:Int):PCall Tryz.prog 6 [h.av,P3 x y z] ⟨I (plaE h x y z),[]⟩:=by
 have hf:=Zgz hk he
 have hk0:=Ze (c52 hk.f hf.le.2.2.1 (Ydv hf.st) ⟨x,y,z,1⟩) (Ydk (Ze (c36 x y z) Zd))
 unfold plaE plcB
 generalize Ub h ⟨x,y,z,1⟩=b at *
 refine bs.pv (sx:=nos) hk0 Tryz.func6 (by kernel_rfl) (by kernel_rfl) rfl ?_
 repeat'(first|refine wk3 ?_|(refine wk2 ?_ ?_<;>intro _)|refine wk4 ?_|fail);all_goals(conv=>whnf)
 all_goals clear hk0
 all_goals exact Za (by simp_all [unl])
abbrev pl3 (p:Pl3):List AV:=[I p.1,I p.2.1,I p.2.2]
def im1 (h:Hal) (s:Stg) (n:Int) (p:Pl3):Pl3:=rmir (Zh h s n).1 (Zh h s n).2 p.1 p.2.1 p.2.2
def imA (f:Int->Pl3->Pl3) (p:Pl3) (l:List Int) (k:Nat):Pl3:=(l.take k).foldl (fun q n=>f n q) p
theorem Zq3 (f:Int->Pl3->Pl3) (p:Pl3) {l:List Int} {k:Nat} (hk:k<l.length):imA f p l (k+1)=f l[k] (imA f p l k):=by
 unfold imA
 rw [Qw hk,List.foldl_append]
 rfl
def imC (f:Int->Pl3->Pl3) (p:Pl3) (l:List Int) (k:Nat):List (List AV):=(List.range (k+1)).map fun j=>pl3 (imA f p l j)
theorem Zi5 (f:Int->Pl3->Pl3) (p:Pl3) (l:List Int) (k:Nat):(imC f p l k).length=k+1:=by simp [imC]
theorem Zlq (f:Int->Pl3->Pl3) (p:Pl3) (l:List Int) (k:Nat):(imC f p l k)[k]?=some (pl3 (imA f p l k)):=by simp [imC]
theorem Zyb (f:Int->Pl3->Pl3) (p:Pl3) (l:List Int) (k:Nat):imC f p l (k+1)=imC f p l k++[pl3 (imA f p l (k+1))]:=by
 unfold imC
 rw [List.range_succ,Oh]
 rfl
theorem Zxv {h:Hal} {s:Stg} (g:Sit h s) {i:Int} (hi:SK h i):(Zh h s i).1<=2->(-5000<=(Zh h s i).2/\(Zh h s i).2<=5000):=by
 have ht:=g.fine.ht
 cases hi with
 | wall k hk =>
  have hk2:k<h.cs.length:=by have:=g.fine.le; omega
  obtain ⟨n,sx,sy,hs⟩:=g.fine.st k hk2
  rw [Zaq hk,Zlj hs]
  have:=hs.b1
  have:=hs.b2
  repeat' split
  all_goals (dsimp only; omega)
 | floor=>rw [Za9]; dsimp only; omega
 | ceil=>rw [Zb9]; dsimp only; omega
 | can j hj =>
  rw [Zdw]
  have:=Zu6 g hj
  dsimp only; omega
def Near (m:Int) (p:Pl3):Prop:=(-m<=p.1/\p.1<=m)/\(-m<=p.2.1/\p.2.1<=m)/\(-m<=p.2.2/\p.2.2<=m)
theorem Zls {h:Hal} {s:Stg} (g:Sit h s) {i:Int} (hi:SK h i) {m:Int} (hm:m<=35000) {p:Pl3} (hp:Near m p):Near (m+10000) (im1 h s i p)/\Vg (Zh h s i).1 (Zh h s i).2 p.1 p.2.1 p.2.2=0/\mirP (Zh h s i).1 (Zh h s i).2 p.1 p.2.1 p.2.2=im1 h s i p:=by
 have b:=Zfo g hi
 have b2:=Zxv g hi
 obtain ⟨x,y,z⟩:=p
 obtain ⟨hx,hy,hz⟩:=hp
 dsimp only at hx hy hz
 unfold im1
 generalize (Zh h s i).1=k at *
 generalize (Zh h s i).2=a at *
 have key:Near (m+10000) (rmir k a x y z):=by
  unfold rmir Near
  have w2:Qa Qb (2*a)=2*a:=W_eq (by omega) (by omega)
  by_cases k0:k=0
  ·subst k0; have:=b2 (by omega); simp only [if_pos]; rw [w2,W_eq (by omega) (by omega)]; omega
  by_cases k1:k=1
  ·subst k1; have:=b2 (by omega); simp; rw [w2,W_eq (by omega) (by omega)]; omega
  by_cases k2:k=2
  ·subst k2; have:=b2 (by omega); simp; rw [w2,W_eq (by omega) (by omega)]; omega
  by_cases k3:k=3
  ·subst k3; simp; rw [W_eq (by omega) (by omega),W_eq (by omega) (by omega)]; omega
  have k4:k=4:=by omega
  subst k4; simp; rw [W_eq (by omega) (by omega),W_eq (by omega) (by omega)]; omega
 have e:=Zr2 b.1 b.2 (x:=x) (y:=y) (z:=z) (by omega) (by omega) (by omega) (u:=(rmir k a x y z).1) (v:=(rmir k a x y z).2.1) (w:=(rmir k a x y z).2.2) rfl
  (by have:=key.1; omega) (by have:=key.2.1; omega) (by have:=key.2.2; omega)
 refine ⟨key,by rw [Zm4]; exact e,?_⟩
 rw [Ybr]
 unfold Ya9
 rw [if_pos e]
theorem Zlr {h:Hal} {s:Stg} (g:Sit h s) {p:Pl3} (hp:Near 5000 p) {l:List Int} (hl:l.length<=4) (hi:∀ n∈l,SK h n):∀ k,k<=l.length->Near (5000+10000*k) (imA (im1 h s) p l k)
 | 0,_=>by simpa [imA] using hp
 | k+1,hk=>by
  rw [Zq3 _ _ (by omega)]
  have:=(Zls g (hi l[k] (Qs _)) (m:=5000+10000*k) (by omega) (Zlr g hp hl hi k (by omega))).1
  rw [show (5000:Int)+10000*((k+1:Nat):Int)=5000+10000*k+10000 by omega]
  exact this
theorem Ydn {pt:PC} (h:PCOK Tryz.prog pt):PCOK Tryz.prog (ins 106 r32 pt):=Zj (fun a res h=>by unfold r32 at h; split at h<;>cases h; exact c32 _ _ _ _ _) h
noncomputable abbrev plT (h:Hal) (s:Stg):List AV->Option PRes:=famA (fun i:Int=>0<=i/\i<nsur h) (fun i=>[h.av,s.av,I i]) (fun i=>⟨.tup [P2 (Zh h s i).1 (Zh h s i).2,I 0],[]⟩)
theorem Ydr {h:Hal} (hk:h.ok) {s:Stg} (hs:s.few) (h0:serr h s=0) {pt:PC} (hp:PCOK Tryz.prog pt):PCOK Tryz.prog (ins 105 (plT h s) pt) :=
 Xa (fun i hi=>by
  have e:surE h s i=0:=by
   unfold surE
   rw [if_pos h0,if_pos (within_iff.2 (by omega))]
  have e2:Zhd h s i=Zh h s i:=by unfold Zhd; rw [if_pos e]
  have:=c54 hk hs i
  rw [e,e2] at this
  exact this) hp
theorem Ybi {h:Hal} {s:Stg} {i:Int} (hi:0<=i/\i<nsur h):plT h s [h.av,s.av,I i]=some ⟨.tup [P2 (Zh h s i).1 (Zh h s i).2,I 0],[]⟩ :=
 Yb (p:=fun i:Int=>0<=i/\i<nsur h) (g:=fun i=>[h.av,s.av,I i]) (r:=fun i=>⟨.tup [P2 (Zh h s i).1 (Zh h s i).2,I 0],[]⟩) (fun j hj=>by
  simp only [Rb,Wh,true_and,and_true] at hj
  rw [hj]) hi
theorem d82 {h:Hal} (hk:h.ok) {s:Stg} (hs:s.few) (h0:serr h s=0) {p:Pl3} (hp:Near 5000 p) {l:List Int} (hl:l.length<=4) (hi:∀ n∈l,0<=n/\n<nsur h) :
  PCall Tryz.prog 60 [.agg (stgL h s),P3 p.1 p.2.1 p.2.2,.isl 1 (nl l)] ⟨.asl 0 0 (l.length+1),[(3,imC (im1 h s) p l l.length)]⟩:=by
 have g:=Zih hk hs h0
 have hkk:=Ydr hk hs h0 (Ydn Zd)
 have ll:=Zl l
 refine bs.pv (sx:=nos) hkk Tryz.func60 (by kernel_rfl) (by kernel_rfl) rfl ?_
 refine Zz (S:=Nat × Int × Nat × List (List AV)) (fun t=>l.length-t.1) (fun t=>[(3,.ptr 0 0 0),(7,.asl (nm2 2 3 t.1) 0 t.2.2.1),(16,.isl 1 (nl l)),(17,I (nl l).length),(18,I t.2.1)]) (fun t=>[(nm2 2 3 t.1,.row 3 t.2.2.2 true true),(0,.row 11 [stgL h s] true false)]) 3 4
  (fun t=>t.2.1=t.1/\t.1<=l.length/\t.2.2.1=t.2.2.2.length/\t.2.2.2=imC (im1 h s) p l t.1) (0,0,1,[pl3 p]) ⟨rfl,Qm _,rfl,rfl⟩ (Qd _) [] rfl (kps) (kps) ?_
 rintro ⟨k,i,len,els⟩ ⟨hi',hk',hlen,hels⟩
 dsimp only at hi' hk' hlen hels ⊢
 subst hi'
 refine bs.av (sx:=nos) hkk ?_
 have e1:els.length=k+1:=by rw [hels,Zi5]
 have e2:els[0+(Qa Qb ((len:Int)-1)).toNat]?=some (pl3 (imA (im1 h s) p l k)):=by
  rw [Rv,hlen,e1,W_eq (by omega) (by omega),show (((k+1:Nat):Int)-1).toNat=k by omega,hels,Zlq]
 have e8:Qa Qb ((len:Int)-1)=k:=by rw [hlen,e1,W_eq (by omega) (by omega)]; omega
 have hnr:=Zlr g hp hl (fun n hn=>Zo3 (hi n hn).1 (hi n hn).2) k hk'
 by_cases hlt:k<l.length
 ·have e3:(nl l)[((k:Nat):Int).toNat]?=some [I l[k]]:=by simp [nl,hlt]
  have hin:=hi l[k] (Qs _)
  have e4:=Ybi (s:=s) hin
  have e5:=Zls g (Zo3 hin.1 hin.2) (by omega) hnr
  have e6:=Zq3 (im1 h s) p hlt
  have e7:=Zyb (im1 h s) p l k
  rw [<-hels,e6] at e7
  rw [<-e5.2.2] at e7
  clear e6 hels
  generalize imA (im1 h s) p l k=q at *
  generalize l[k]=n at *
  cases k with
  | zero =>
   repeat'(first|refine wk3 ?_|(refine wk2 ?_ ?_<;>intro _)|refine wk4 ?_|fail);all_goals(conv=>whnf)
   exact Qo ⟨(1,_,_,_),[(3,20)],rfl,kps,kps,⟨Zi (k:=0) (by omega),hlt,by exact List.length_append.symm,e7.symm⟩,by dsimp only; omega⟩
  | succ k =>
   repeat'(first|refine wk3 ?_|(refine wk2 ?_ ?_<;>intro _)|refine wk4 ?_|fail);all_goals(conv=>whnf)
   exact Qo ⟨(k+1+1,_,_,_),[(3,20)],rfl,kps,kps,⟨Zi (k:=k+1) (by omega),hlt,by exact List.length_append.symm,e7.symm⟩,by dsimp only; omega⟩
 ·have ek:k=l.length:=by omega
  subst ek
  rw [hels]
  rw [hels,Zi5] at hlen
  subst hlen
  cases l with
  | nil =>
   repeat'(first|refine wk3 ?_|(refine wk2 ?_ ?_<;>intro _)|refine wk4 ?_|fail);all_goals(conv=>whnf)
   exact Xg [2] rfl rfl rfl
  | cons a l =>
   repeat'(first|refine wk3 ?_|(refine wk2 ?_ ?_<;>intro _)|refine wk4 ?_|fail);all_goals(conv=>whnf)
   exact Xg [3] rfl rfl rfl
structure Ask where
 fx:Int
 fy:Int
 fz:Int
 tx:Int
 ty:Int
 tz:Int
 n:Int
abbrev Ask.av (a:Ask):AV:=.agg [I a.fx,I a.fy,I a.fz,I a.tx,I a.ty,I a.tz,I a.n]
def Ask.same (a:Ask):Bool:=decide (a.fx=a.tx)&&(decide (a.fy=a.ty)&&decide (a.fz=a.tz))
def askE (h:Hal) (s:Stg) (a:Ask):Int:=if serr h s=0 then fstL [plaE h a.fx a.fy a.fz,plaE h a.tx a.ty a.tz,unl (!a.same) 11,unl (within a.n 0 4) 2] else serr h s
theorem Zfh {h:Hal} {s:Stg} (e:serr h s=0):h.err=0:=by
 unfold serr at e
 split at e
 ·assumption
 ·rename_i q; exact absurd e q
def r80:List AV->Option PRes
 | [.bool b,.int .i64 e]=>some ⟨I (unl b e),[]⟩
 | _=>none
theorem Ydl {pt:PC} (h:PCOK Tryz.prog pt):PCOK Tryz.prog (ins 57 r80 pt):=Zj (fun a res h=>by unfold r80 at h; split at h<;>cases h; exact d209 _ _) h
noncomputable abbrev r79 (h:Hal):List AV->Option PRes:=famA (fun _:Pl3=>True) (fun p=>[h.av,P3 p.1 p.2.1 p.2.2]) (fun p=>⟨I (plaE h p.1 p.2.1 p.2.2),[]⟩)
theorem Ydm {h:Hal} (hk:h.ok) (he:h.err=0) {pt:PC} (hp:PCOK Tryz.prog pt):PCOK Tryz.prog (ins 56 (r79 h) pt):=Xa (fun p _=>d79 hk he p.1 p.2.1 p.2.2) hp
theorem Zt0 (h:Hal) (x y z:Int):r79 h [h.av,P3 x y z]=some ⟨I (plaE h x y z),[]⟩ :=
 Yb (p:=fun _:Pl3=>True) (g:=fun p=>[h.av,P3 p.1 p.2.1 p.2.2]) (r:=fun p=>⟨I (plaE h p.1 p.2.1 p.2.2),[]⟩) (k:=(x,y,z)) (fun j hj=>by
  simp only [Rb,Mm,Wh,true_and,and_true] at hj
  obtain ⟨h1,h2,h3⟩:=hj
  rw [h1,h2,h3]) trivial
noncomputable abbrev rFst:List AV->Option PRes:=famA (fun l:List Int=>l.length<1000) (fun l=>[.isl 1 (nl l)]) (fun l=>⟨I (fstL l),[]⟩)
theorem Ybf {pt:PC} (hp:PCOK Tryz.prog pt):PCOK Tryz.prog (ins 36 rFst pt):=Xa (fun l hl=>d78 hl) hp
theorem Zxq {l:List Int} (h:l.length<1000):rFst [.isl 1 (nl l)]=some ⟨I (fstL l),[]⟩ :=
 Yb (p:=fun l:List Int=>l.length<1000) (g:=fun l=>[.isl 1 (nl l)]) (r:=fun l=>⟨I (fstL l),[]⟩) (fun j hj=>by
  simp only [Rb,Ml,true_and,and_true] at hj
  rw [Zqq hj]) h
theorem d24 {h:Hal} (hk:h.ok) {s:Stg} (hs:s.few) (a:Ask):PCall Tryz.prog 28 [h.av,s.av,a.av] ⟨I (askE h s a),[]⟩:=by
 have hk0:=Ze (c47 hk hs) Zd
 by_cases e:serr h s=0
 ·have he:=Zfh e
  obtain ⟨fx,fy,fz,tx,ty,tz,n⟩:=a
  unfold askE
  rw [if_pos e]
  rw [e] at hk0
  dsimp only
  have hk1:=Ydm hk he (Ydl (Ze (d81 n) (Ybf hk0)))
  have q1:=Zt0 h fx fy fz
  have q2:=Zt0 h tx ty tz
  refine bs.pv (sx:=nos) hk1 Tryz.func28 (by kernel_rfl) (by kernel_rfl) rfl ?_
  repeat'(first|refine wk3 ?_|(refine wk2 ?_ ?_<;>intro _)|refine wk4 ?_|fail);all_goals(conv=>whnf)
  refine wxG (Zxq (l:=[_,_,_,_]) (by simp)) ?_
  conv=>whnf
  repeat'(first|refine wk3 ?_|(refine wk2 ?_ ?_<;>intro _)|refine wk4 ?_|fail);all_goals(conv=>whnf)
  exact Za (by simp [Ask.same])
 ·rw [show askE h s a=serr h s by unfold askE; rw [if_neg e]]
  refine bs.pv (sx:=nos) hk0 Tryz.func28 (by kernel_rfl) (by kernel_rfl) rfl ?_
  repeat'(first|refine wk3 ?_|(refine wk2 ?_ ?_<;>intro _)|refine wk4 ?_|fail);all_goals(conv=>whnf)
  all_goals first
   | exact Za rfl
   | (exfalso; simp_all; done)
theorem d82f {h:Hal} (hk:h.ok) {s:Stg} (hs:s.few) (h0:serr h s=0) {p:Pl3} (hp:Near 5000 p) {l:List Int} (hl:l.length<=4) (hi:∀ n∈l,0<=n/\n<nsur h) :
  PCall Tryz.prog 60 [.agg (stgL h s),P3 p.1 p.2.1 p.2.2,.isl 1 (nl l)] ⟨.isl 3 (imC (im1 h s) p l l.length),[]⟩:=by
 have:=d82 hk hs h0 hp hl hi
 rw [show l.length+1=(imC (im1 h s) p l l.length).length by rw [Zi5]] at this
 exact this.freeze ⟨rfl,rfl,rfl⟩
theorem Zqg {h:Hal} {l:List Int} (e:suE h l=0):l.length<=4/\∀ n∈l,0<=n/\n<nsur h:=by
 unfold suE at e
 split at e
 ·cases e
 ·exact ⟨by omega,fun n hn=>by have:=Zzg e n hn; omega⟩
theorem Zdb {h:Hal} {x y z:Int} (e:plaE h x y z=0):Near 5000 (x,y,z)/\Ub h ⟨x,y,z,1⟩=true:=by
 unfold plaE at e
 split at e
 ·rename_i c
  simp only [plcB,Qc,within_iff] at c
  refine ⟨⟨by dsimp only; omega,by dsimp only; omega,by dsimp only; omega⟩,?_⟩
  unfold unl at e
  cases hb:Ub h ⟨x,y,z,1⟩ with
  | true=>rfl
  | false=>rw [hb] at e; cases e
 ·cases e
def edgP (r:Rc):List Wl:=[⟨0,r.xl,r.yl,r.xh,r.yl⟩,⟨0,r.xh,r.yl,r.xh,r.yh⟩,⟨0,r.xh,r.yh,r.xl,r.yh⟩,⟨0,r.xl,r.yh,r.xl,r.yl⟩]
def midX (p q:Pt):Int:=Qa Qb (Qa Qb (p.x*q.d)+Qa Qb (q.x*p.d))
def midY (p q:Pt):Int:=Qa Qb (Qa Qb (p.y*q.d)+Qa Qb (q.y*p.d))
def midD (p q:Pt):Int:=Qa Qb (Qa Qb (2*p.d)*q.d)
def Zyu (r:Rc) (p q:Pt):Bool:=r.has (midX p q) (midY p q) (midD p q)||(edgP r).any (touP p q)||(r.holds p.x p.y p.d||r.holds q.x q.y q.d)
def zOff (ht:Int) (p:Pt):Int:=Qa Qb (p.z-Qa Qb (ht*p.d))
def atX (a b:Int) (u v:Int):Int:=Qa Qb (Qa Qb (a*u)+Qa Qb (b*v))
def blkP (r:Rc) (ht:Int) (p q:Pt):Bool :=
 if p.z=Qa Qb (ht*p.d)/\q.z=Qa Qb (ht*q.d) then Zyu r p q
 else if 0<=Qa Qb (sgn (zOff ht p)*sgn (zOff ht q)) then false
 else r.has (atX p.x q.x (size (zOff ht q)) (size (zOff ht p))) (atX p.y q.y (size (zOff ht q)) (size (zOff ht p))) (atX p.d q.d (size (zOff ht q)) (size (zOff ht p)))
abbrev U (n:Int):AV:=.int .u64 n
abbrev wayA (p q:Pt):AV:=.agg [I p.x,I p.y,I p.z,I p.d,I q.x,I q.y,I q.z,I q.d]
theorem c204 (p q:Pt):PCall Tryz.prog 94 [wayA p q] ⟨.tup [I (Zs6 p q),I (Zs5 p q)],[]⟩:=by
 refine bs.pv (sx:=nos) Zd Tryz.func94 (by kernel_rfl) (by kernel_rfl) rfl ?_
 repeat'(first|refine wk0 ?_|(refine wk2 ?_ ?_<;>intro _)|refine wk4 ?_|fail);all_goals(conv=>whnf)
 exact Zf rfl rfl
theorem c207 (fr den to oth a b:Int):PCall Tryz.prog 97 [I fr,I den,I to,I oth,I a,I b] ⟨Bo (ovl fr den to oth a b),[]⟩:=by
 refine bs.pv (sx:=nos) Zd Tryz.func97 (by kernel_rfl) (by kernel_rfl) rfl ?_
 repeat'(first|refine wk0 ?_|(refine wk2 ?_ ?_<;>intro _)|refine wk4 ?_|fail);all_goals(conv=>whnf)
 all_goals (refine Zc ?_; simp_all [ovl]<;>(intro _; omega))
theorem c182 (p q:Pt):PCall Tryz.prog 52 [wayA p q] ⟨.tup [I (midX p q),I (midY p q),I (midD p q)],[]⟩:=by
 refine bs.pv (sx:=nos) Zd Tryz.func52 (by kernel_rfl) (by kernel_rfl) rfl ?_
 repeat'(first|refine wk0 ?_|(refine wk2 ?_ ?_<;>intro _)|refine wk4 ?_|fail);all_goals(conv=>whnf)
 exact Zf rfl rfl
def u64 (n:Int):Prop:=0<=n/\n<18446744073709551616
theorem mkN (a:Nat) (ha:a<18446744073709551616):Qa Rh (((Rw IntKind.u64.bits (a:Int) &&& Rw IntKind.u64.bits 4294967295).toNat:Nat):Int)=((a%4294967296:Nat):Int):=by
 have h:=bits_and_u64_nat a 4294967295 ha (by omega)
 have e:a &&& 4294967295=a%4294967296:=Nat.and_two_pow_sub_one_eq_mod a 32
 rw [e] at h
 exact h
theorem fdN (a:Nat):(a:Int).fdiv (2 ^ min (Sl 32) IntKind.u64.bits)=((a / 4294967296:Nat):Int):=by
 rw [show (2 ^ min (Sl 32) IntKind.u64.bits:Int)=4294967296 from rfl,Int.fdiv_eq_ediv_of_nonneg _ (by omega)]; omega
theorem mulN (a b:Nat):(a:Int)*(b:Int)=((a*b:Nat):Int):=(Int.natCast_mul a b).symm
theorem addN (a b:Nat):(a:Int)+(b:Int)=((a+b:Nat):Int):=(Int.natCast_add a b).symm
theorem Zl6 (a:Nat) (ha:a<18446744073709551616):Qa Rh (a:Int)=(a:Int):=by rw [Jh]; omega
theorem Ye3 (a:Nat):Qa Rh (a:Int)=((a%18446744073709551616:Nat):Int):=by rw [Jh]; omega
theorem Zx0 (x y:Nat) (hx:x<18446744073709551616) (hy:y<18446744073709551616):AV.tup [AV.int Rh (Qa Rh (Qa Rh (Qa Rh (((x:Int)).fdiv (2 ^ min (Sl 32) IntKind.u64.bits)*((y:Int)).fdiv (2 ^ min (Sl 32) IntKind.u64.bits))+((Qa Rh (Qa Rh (((x:Int)).fdiv (2 ^ min (Sl 32) IntKind.u64.bits)*Qa Rh ((Rw IntKind.u64.bits ((y:Int)) &&& Rw IntKind.u64.bits 4294967295).toNat:Int))+((Qa Rh ((Qa Rh ((Rw IntKind.u64.bits ((x:Int)) &&& Rw IntKind.u64.bits 4294967295).toNat:Int))*(Qa Rh ((Rw IntKind.u64.bits ((y:Int)) &&& Rw IntKind.u64.bits 4294967295).toNat:Int)))).fdiv (2 ^ min (Sl 32) IntKind.u64.bits)))).fdiv (2 ^ min (Sl 32) IntKind.u64.bits)))+((Qa Rh (Qa Rh ((Rw IntKind.u64.bits (Qa Rh (Qa Rh (((x:Int)).fdiv (2 ^ min (Sl 32) IntKind.u64.bits)*Qa Rh ((Rw IntKind.u64.bits ((y:Int)) &&& Rw IntKind.u64.bits 4294967295).toNat:Int))+((Qa Rh ((Qa Rh ((Rw IntKind.u64.bits ((x:Int)) &&& Rw IntKind.u64.bits 4294967295).toNat:Int))*(Qa Rh ((Rw IntKind.u64.bits ((y:Int)) &&& Rw IntKind.u64.bits 4294967295).toNat:Int)))).fdiv (2 ^ min (Sl 32) IntKind.u64.bits)))) &&& Rw IntKind.u64.bits 4294967295).toNat:Int)+Qa Rh (Qa Rh ((Rw IntKind.u64.bits ((x:Int)) &&& Rw IntKind.u64.bits 4294967295).toNat:Int)*((y:Int)).fdiv (2 ^ min (Sl 32) IntKind.u64.bits)))).fdiv (2 ^ min (Sl 32) IntKind.u64.bits)))),AV.int Rh (Qa Rh ((x:Int)*(y:Int)))]=AV.tup [U ((x:Int)*(y:Int) / 18446744073709551616),U ((x:Int)*(y:Int)%18446744073709551616)]:=by
 obtain ⟨bd,bt,bw,hhi⟩:=Go.Lib.mul64_hi x y hx hy
 have ba:=Ke (a:=x / 4294967296) (b:=y / 4294967296) (by omega) (by omega)
 have bb:=Ke (a:=x / 4294967296) (b:=y%4294967296) (by omega) (by omega)
 have bc:=Ke (a:=x%4294967296) (b:=y / 4294967296) (by omega) (by omega)
 have ba' : x / 4294967296*(y / 4294967296)<18446744073709551616:=by omega
 have bb' : x / 4294967296*(y%4294967296)<18446744073709551616:=by omega
 have bc' : x%4294967296*(y / 4294967296)<18446744073709551616:=by omega
 have bh1:x / 4294967296*(y / 4294967296)+(x / 4294967296*(y%4294967296)+x%4294967296*(y%4294967296) / 4294967296) / 4294967296<18446744073709551616:=by omega
 have bh:x / 4294967296*(y / 4294967296)+(x / 4294967296*(y%4294967296)+x%4294967296*(y%4294967296) / 4294967296) / 4294967296+((x / 4294967296*(y%4294967296)+x%4294967296*(y%4294967296) / 4294967296)%4294967296+x%4294967296*(y / 4294967296)) / 4294967296<18446744073709551616:=by omega
 simp only [mkN x hx,mkN y hy,fdN,mulN,addN,Zl6 _ bd,Zl6 _ bb',Zl6 _ bt,mkN _ bt,Zl6 _ bc',Zl6 _ bw,Zl6 _ ba',Zl6 _ bh1,Zl6 _ bh,Ye3 (x*y)]
 rw [hhi]
 rfl
theorem c216 {x y:Int} (hx:u64 x) (hy:u64 y):PCall Tryz.prog 195 [U x,U y] ⟨.tup [U (x*y / 18446744073709551616),U (x*y%18446744073709551616)],[]⟩:=by
 refine bs.pv (sx:=nos) Zd Tryz.func195 (by kernel_rfl) (by kernel_rfl) rfl ?_
 repeat'(first|refine wk1 ?_|(refine wk2 ?_ ?_<;>intro _)|refine wk4 ?_|fail);all_goals(conv=>whnf)
 refine Zf ?_ rfl
 obtain ⟨h0,hx⟩:=hx
 obtain ⟨h1,hy⟩:=hy
 obtain ⟨a,rfl⟩:=Ji h0
 obtain ⟨b,rfl⟩:=Ji h1
 exact Zx0 a b (by omega) (by omega)
theorem Zlm {a b:Int}:sgn (a*b)=sgn a*sgn b:=by
 unfold sgn
 rcases Pe a 0 with ha|ha|ha<;>rcases Pe b 0 with hb|hb|hb
 ·have:=Int.mul_pos_of_neg_of_neg ha hb
  rw [if_pos this,if_neg (by omega),if_pos ha,if_neg (by omega),if_pos hb]; rfl
 ·subst hb; simp
 ·have:=Int.mul_neg_of_neg_of_pos ha hb
  rw [if_neg (by omega),if_pos this,if_neg (by omega),if_pos ha,if_pos hb]; rfl
 ·subst ha; simp
 ·subst ha; simp
 ·subst ha; simp
 ·have:=Int.mul_neg_of_pos_of_neg ha hb
  rw [if_neg (by omega),if_pos this,if_pos ha,if_neg (by omega),if_pos hb]; rfl
 ·subst hb; simp
 ·have:=Int.mul_pos ha hb
  rw [if_pos this,if_pos ha,if_pos hb]; rfl
theorem Zhw {a:Int} (h:i64 a):Qa Rh (size a)=(a.natAbs:Int)/\u64 (a.natAbs:Int):=by
 have hs:=Zzt h
 obtain ⟨h1,h2⟩:=h
 rw [hs]
 refine ⟨?_,?_⟩
 ·simp only [IntKind.wrap_i64,Jh]; omega
 ·unfold u64; omega
theorem Zwz (a b:Int):((a.natAbs:Int)*(b.natAbs:Int))=(a*b)\/((a.natAbs:Int)*(b.natAbs:Int)) = -(a*b):=by
 have:=Int.natAbs_mul a b
 omega
theorem Zwh {a b c d X Y:Int} (hX:(a.natAbs:Int)*(b.natAbs:Int)=X) (hY:(c.natAbs:Int)*(d.natAbs:Int)=Y) (h:sgn a*sgn b=sgn c*sgn d) :
  (X=Y->cmpP a b c d=0)/\(Y<X->cmpP a b c d=sgn a*sgn b)/\(X<Y->cmpP a b c d = -(sgn a*sgn b)):=by
 have h1:=Zwz a b
 have h2:=Zwz c d
 have p1:0<=X:=by rw [<-hX]; exact Tk (by omega) (by omega)
 have p2:0<=Y:=by rw [<-hY]; exact Tk (by omega) (by omega)
 have s1:=Zlm (a:=a) (b:=b)
 have s2:=Zlm (a:=c) (b:=d)
 unfold cmpP
 rw [hX] at h1
 rw [hY] at h2
 rw [<-s1]
 rw [<-s1,<-s2] at h
 clear s1 s2 hX hY
 generalize a*b=u at *
 generalize c*d=v at *
 unfold sgn at *
 refine ⟨fun e=>?_,fun e=>?_,fun e=>?_⟩
 ·repeat' split at h
  all_goals repeat' split
  all_goals omega
 ·repeat' split at h
  all_goals repeat' split
  all_goals omega
 ·repeat' split at h
  all_goals repeat' split
  all_goals omega
theorem Zy1 {a b c d:Int} (h:sgn a*sgn b≠sgn c*sgn d):cmpP a b c d=sgn (sgn a*sgn b-sgn c*sgn d):=by
 rw [<-Zlm,<-Zlm] at h ⊢
 unfold cmpP
 generalize a*b=u at *
 generalize c*d=v at *
 unfold sgn at *
 repeat' split at h
 all_goals repeat' split
 all_goals omega
instance (n:Int):Decidable (u64 n):=by unfold u64; exact inferInstance
def r216:List AV->Option PRes
 | [.int .u64 x,.int .u64 y]=>asr (decide (u64 x/\u64 y)) ⟨.tup [U (x*y / 18446744073709551616),U (x*y%18446744073709551616)],[]⟩
 | _=>none
def kF1:PC:=ins 195 r216 (ins 116 r115 (ins 117 r116 pt0))
theorem Zz8:PCOK Tryz.prog kF1:=by
 refine Zj (fun a res h=>?_) (Zj (fun a res h=>?_) (Zj (fun a res h=>?_) Zd))
 ·unfold r216 at h; split at h
  ·obtain ⟨h1,rfl⟩:=Zaa h
   have:=of_decide_eq_true h1
   exact c216 this.1 this.2
  ·cases h
 ·unfold r115 at h; split at h<;>cases h; exact c115 _
 ·unfold r116 at h; split at h<;>cases h; exact c116 _
theorem c215 {a b c d:Int} (ha:i64 a) (hb:i64 b) (hc:i64 c) (hd:i64 d):PCall Tryz.prog 180 [I a,I b,I c,I d] ⟨I (cmpP a b c d),[]⟩:=by
 obtain ⟨a1,a2⟩:=Zhw ha
 obtain ⟨b1,b2⟩:=Zhw hb
 obtain ⟨c1,c2⟩:=Zhw hc
 obtain ⟨d1,d2⟩:=Zhw hd
 by_cases h:sgn a*sgn b=sgn c*sgn d
 ·have hX:(a.natAbs:Int)*(b.natAbs:Int)=(a.natAbs:Int)*(b.natAbs:Int):=rfl
  have hY:(c.natAbs:Int)*(d.natAbs:Int)=(c.natAbs:Int)*(d.natAbs:Int):=rfl
  obtain ⟨k1,k2,k3⟩:=Zwh hX hY h
  have t1:asr (decide (u64 (Qa Rh (size a))/\u64 (Qa Rh (size b)))) ⟨.tup [U (Qa Rh (size a)*Qa Rh (size b) / 18446744073709551616),U (Qa Rh (size a)*Qa Rh (size b)%18446744073709551616)],[]⟩=some ⟨.tup [U ((a.natAbs:Int)*(b.natAbs:Int) / 18446744073709551616),U ((a.natAbs:Int)*(b.natAbs:Int)%18446744073709551616)],[]⟩:=by
   rw [a1,b1,Zbv ⟨a2,b2⟩]
  have t2:asr (decide (u64 (Qa Rh (size c))/\u64 (Qa Rh (size d)))) ⟨.tup [U (Qa Rh (size c)*Qa Rh (size d) / 18446744073709551616),U (Qa Rh (size c)*Qa Rh (size d)%18446744073709551616)],[]⟩=some ⟨.tup [U ((c.natAbs:Int)*(d.natAbs:Int) / 18446744073709551616),U ((c.natAbs:Int)*(d.natAbs:Int)%18446744073709551616)],[]⟩:=by
   rw [c1,d1,Zbv ⟨c2,d2⟩]
  have w1:Qa Qb (sgn a*sgn b)=Qa Qb (sgn c*sgn d):=by rw [h]
  have w2:=Zl4 a b
  have hr : -1<=sgn a*sgn b/\sgn a*sgn b<=1:=by
   have:=Up (A:=1) (B:=1) (Zg9 a) (Zg9 b); omega
  have w3:Qa Qb (0-Qa Qb (sgn a*sgn b)) = -(sgn a*sgn b):=by rw [w2,W_eq (by omega) (by omega)]; omega
  generalize (a.natAbs:Int)*(b.natAbs:Int)=X at *
  generalize (c.natAbs:Int)*(d.natAbs:Int)=Y at *
  generalize cmpP a b c d=r at *
  refine bs.pv (sx:=nos) Zz8 Tryz.func180 (by kernel_rfl) (by kernel_rfl) rfl ?_
  rcases Pe X Y with hxy|hxy|hxy
  ·rw [k3 hxy,<-w3]
   repeat'(first|refine wk1 ?_|(refine wk2 ?_ ?_<;>intro _)|refine wk4 ?_|fail);all_goals(conv=>whnf)
   all_goals first
    | exact Za rfl
    | (exfalso; simp_all; done)
    | (exfalso; simp_all; omega)
  ·rw [k1 hxy]
   subst hxy
   repeat'(first|refine wk1 ?_|(refine wk2 ?_ ?_<;>intro _)|refine wk4 ?_|fail);all_goals(conv=>whnf)
   all_goals first
    | exact Za rfl
    | (exfalso; simp_all; done)
    | (exfalso; simp_all; omega)
  ·rw [k2 hxy,<-w2]
   repeat'(first|refine wk1 ?_|(refine wk2 ?_ ?_<;>intro _)|refine wk4 ?_|fail);all_goals(conv=>whnf)
   all_goals first
    | exact Za rfl
    | (exfalso; simp_all; done)
    | (exfalso; simp_all; omega)
 ·have hr1:=Up (A:=1) (B:=1) (Zg9 a) (Zg9 b)
  have hr2:=Up (A:=1) (B:=1) (Zg9 c) (Zg9 d)
  have w:sgn (Qa Qb (Qa Qb (sgn a*sgn b)-Qa Qb (sgn c*sgn d)))=cmpP a b c d:=by
   rw [Zy1 h,Zl4,Zl4,W_eq (by omega) (by omega)]
  have w2:¬ Qa Qb (sgn a*sgn b)=Qa Qb (sgn c*sgn d):=by rw [Zl4,Zl4]; exact h
  refine bs.pv (sx:=nos) Zz8 Tryz.func180 (by kernel_rfl) (by kernel_rfl) rfl ?_
  rw [<-w]
  repeat'(first|refine wk1 ?_|(refine wk2 ?_ ?_<;>intro _)|refine wk4 ?_|fail);all_goals(conv=>whnf)
  exact Za rfl
def r204:List AV->Option PRes
 | [.agg [.int .i64 a,.int .i64 b,.int .i64 c,.int .i64 d,.int .i64 x,.int .i64 y,.int .i64 z,.int .i64 w]]=>some ⟨.tup [I (Zs6 ⟨a,b,c,d⟩ ⟨x,y,z,w⟩),I (Zs5 ⟨a,b,c,d⟩ ⟨x,y,z,w⟩)],[]⟩
 | _=>none
def r207:List AV->Option PRes
 | [.int .i64 fr,.int .i64 den,.int .i64 to,.int .i64 oth,.int .i64 a,.int .i64 b]=>some ⟨Bo (ovl fr den to oth a b),[]⟩
 | _=>none
def r182:List AV->Option PRes
 | [.agg [.int .i64 a,.int .i64 b,.int .i64 c,.int .i64 d,.int .i64 x,.int .i64 y,.int .i64 z,.int .i64 w]]=>some ⟨.tup [I (midX ⟨a,b,c,d⟩ ⟨x,y,z,w⟩),I (midY ⟨a,b,c,d⟩ ⟨x,y,z,w⟩),I (midD ⟨a,b,c,d⟩ ⟨x,y,z,w⟩)],[]⟩
 | _=>none
def kF2:PC:=ins 94 r204 (ins 97 r207 (ins 52 r182 kG3))
theorem Zz7:PCOK Tryz.prog kF2:=by
 refine Zj (fun a res h=>?_) (Zj (fun a res h=>?_) (Zj (fun a res h=>?_) Xx))
 ·unfold r204 at h; split at h<;>cases h; exact c204 ⟨_,_,_,_⟩ ⟨_,_,_,_⟩
 ·unfold r207 at h; split at h<;>cases h; exact c207 _ _ _ _ _ _
 ·unfold r182 at h; split at h<;>cases h; exact c182 ⟨_,_,_,_⟩ ⟨_,_,_,_⟩
theorem c208 (p q:Pt) (x y:Int):PCall Tryz.prog 98 [wayA p q,P2 x y] ⟨I (Zk8 p q x y),[]⟩:=by
 have hk:=Ze (c215 (a:=Zs6 p q) (b:=Qa Qb (Qa Qb (y*p.d)-p.y)) (c:=Zs5 p q) (d:=Qa Qb (Qa Qb (x*p.d)-p.x)) (Zsk _) (Zsk _) (Zsk _) (Zsk _)) Zz7
 refine bs.pv (sx:=nos) hk Tryz.func98 (by kernel_rfl) (by kernel_rfl) rfl ?_
 repeat'(first|refine wk0 ?_|(refine wk2 ?_ ?_<;>intro _)|refine wk4 ?_|fail);all_goals(conv=>whnf)
 exact Za rfl
def r208:List AV->Option PRes
 | [.agg [.int .i64 a,.int .i64 b,.int .i64 c,.int .i64 d,.int .i64 x,.int .i64 y,.int .i64 z,.int .i64 w],.agg [.int .i64 u,.int .i64 v]]=>some ⟨I (Zk8 ⟨a,b,c,d⟩ ⟨x,y,z,w⟩ u v),[]⟩
 | _=>none
def kF3:PC:=ins 98 r208 kF2
theorem Yd8:PCOK Tryz.prog kF3:=by
 refine Zj (fun a res h=>?_) Zz7
 unfold r208 at h; split at h<;>cases h; exact c208 ⟨_,_,_,_⟩ ⟨_,_,_,_⟩ _ _
theorem c181 (p q:Pt) (w:Wl):PCall Tryz.prog 51 [wayA p q,w.av] ⟨Bo (touP p q w),[]⟩:=by
 obtain ⟨pa,pb,pc,pd⟩:=p
 obtain ⟨qa,qb,qc,qd⟩:=q
 obtain ⟨wn,wa,wb,wc,wd⟩:=w
 refine bs.pv (sx:=nos) Yd8 Tryz.func51 (by kernel_rfl) (by kernel_rfl) rfl ?_
 repeat'(first|refine wk0 ?_|(refine wk2 ?_ ?_<;>intro _)|refine wk4 ?_|fail);all_goals(conv=>whnf)
 all_goals exact Zc (by simp_all [touP]<;>omega)
def r181:List AV->Option PRes
 | [.agg [.int .i64 a,.int .i64 b,.int .i64 c,.int .i64 d,.int .i64 x,.int .i64 y,.int .i64 z,.int .i64 w],.agg [.int .i64 n,.int .i64 fx,.int .i64 fy,.int .i64 tx,.int .i64 ty]]=>some ⟨Bo (touP ⟨a,b,c,d⟩ ⟨x,y,z,w⟩ ⟨n,fx,fy,tx,ty⟩),[]⟩
 | _=>none
def Ydd:List AV->Option PRes
 | [.agg [.int .i64 a,.int .i64 b,.int .i64 c,.int .i64 d],.int .i64 x,.int .i64 y,.int .i64 z]=>some ⟨Bo (Rc.has ⟨a,b,c,d⟩ x y z),[]⟩
 | _=>none
def Yde:List AV->Option PRes
 | [.agg [.int .i64 a,.int .i64 b,.int .i64 c,.int .i64 d],.int .i64 x,.int .i64 y,.int .i64 z]=>some ⟨Bo (Rc.holds ⟨a,b,c,d⟩ x y z),[]⟩
 | _=>none
def kF4:PC:=ins 51 r181 (ins 103 Ydd (ins 181 Yde (ins 52 r182 (ins 99 r170 kG3))))
theorem Zq1:PCOK Tryz.prog kF4:=by
 refine Zj (fun a res h=>?_) (Zj (fun a res h=>?_) (Zj (fun a res h=>?_) (Zj (fun a res h=>?_) (Zj (fun a res h=>?_) Xx))))
 ·unfold r181 at h; split at h<;>cases h; exact c181 ⟨_,_,_,_⟩ ⟨_,_,_,_⟩ ⟨_,_,_,_,_⟩
 ·unfold Ydd at h; split at h<;>cases h; exact c211 ⟨_,_,_,_⟩ _ _ _
 ·unfold Yde at h; split at h<;>cases h; exact c193 ⟨_,_,_,_⟩ _ _ _
 ·unfold r182 at h; split at h<;>cases h; exact c182 ⟨_,_,_,_⟩ ⟨_,_,_,_⟩
 ·unfold r170 at h; split at h<;>cases h; exact c170 _ _ _ _ _ _ _
theorem c209 (r:Rc) (p q:Pt):PCall Tryz.prog 101 [r.av,wayA p q] ⟨Bo (Zyu r p q),[]⟩:=by
 obtain ⟨ra,rb,rc,rd⟩:=r
 obtain ⟨pa,pb,pc,pd⟩:=p
 obtain ⟨qa,qb,qc,qd⟩:=q
 refine bs.pv (sx:=nos) Zq1 Tryz.func101 (by kernel_rfl) (by kernel_rfl) rfl ?_
 repeat'(first|refine wk0 ?_|(refine wk2 ?_ ?_<;>intro _)|refine wk4 ?_|fail);all_goals(conv=>whnf)
 all_goals try (refine Wp 5 ?_)
 iterate 5
  all_goals try (refine Rp (bs.av (sx:=nos) Zq1 ?_))
  repeat'(first|refine wk0 ?_|(refine wk2 ?_ ?_<;>intro _)|refine wk4 ?_|fail);all_goals(conv=>whnf)
 all_goals exact Zc (by simp_all [Zyu,edgP])
def atP (ht:Int) (p q:Pt):Int × Int × Int × Bool:=if 0<=Qa Qb (sgn (zOff ht p)*sgn (zOff ht q)) then (0,0,0,false) else (atX p.x q.x (size (zOff ht q)) (size (zOff ht p)),atX p.y q.y (size (zOff ht q)) (size (zOff ht p)),atX p.d q.d (size (zOff ht q)) (size (zOff ht p)),true)
theorem c210 (ht:Int) (p q:Pt):PCall Tryz.prog 102 [wayA p q,I ht] ⟨.tup [I (atP ht p q).1,I (atP ht p q).2.1,I (atP ht p q).2.2.1,Bo (atP ht p q).2.2.2],[]⟩:=by
 refine bs.pv (sx:=nos) Xx Tryz.func102 (by kernel_rfl) (by kernel_rfl) rfl ?_
 unfold atP
 by_cases hc:0<=Qa Qb (sgn (zOff ht p)*sgn (zOff ht q))
 ·rw [if_pos hc]
  unfold zOff at hc
  repeat'(first|refine wk3 ?_|(refine wk2 ?_ ?_<;>intro _)|refine wk4 ?_|fail);all_goals(conv=>whnf)
  exact Zf rfl rfl
 ·rw [if_neg hc]
  unfold zOff at hc
  repeat'(first|refine wk3 ?_|(refine wk2 ?_ ?_<;>intro _)|refine wk4 ?_|fail);all_goals(conv=>whnf)
  exact Zf rfl rfl
def r210:List AV->Option PRes
 | [.agg [.int .i64 a,.int .i64 b,.int .i64 c,.int .i64 d,.int .i64 x,.int .i64 y,.int .i64 z,.int .i64 w],.int .i64 ht]=>some ⟨.tup [I (atP ht ⟨a,b,c,d⟩ ⟨x,y,z,w⟩).1,I (atP ht ⟨a,b,c,d⟩ ⟨x,y,z,w⟩).2.1,I (atP ht ⟨a,b,c,d⟩ ⟨x,y,z,w⟩).2.2.1,Bo (atP ht ⟨a,b,c,d⟩ ⟨x,y,z,w⟩).2.2.2],[]⟩
 | _=>none
def r209:List AV->Option PRes
 | [.agg [.int .i64 e,.int .i64 f,.int .i64 g,.int .i64 h],.agg [.int .i64 a,.int .i64 b,.int .i64 c,.int .i64 d,.int .i64 x,.int .i64 y,.int .i64 z,.int .i64 w]]=>some ⟨Bo (Zyu ⟨e,f,g,h⟩ ⟨a,b,c,d⟩ ⟨x,y,z,w⟩),[]⟩
 | _=>none
def kF5:PC:=ins 101 r209 (ins 102 r210 kF4)
theorem Yd7:PCOK Tryz.prog kF5:=by
 refine Zj (fun a res h=>?_) (Zj (fun a res h=>?_) Zq1)
 ·unfold r209 at h; split at h<;>cases h; exact c209 ⟨_,_,_,_⟩ ⟨_,_,_,_⟩ ⟨_,_,_,_⟩
 ·unfold r210 at h; split at h<;>cases h; exact c210 _ ⟨_,_,_,_⟩ ⟨_,_,_,_⟩
theorem c184 {h:Hal} {s:Stg} (g:Sit h s) {j:Nat} (hj:j<h.ks.length) (p q:Pt):PCall Tryz.prog 54 [.agg (stgL h s),I j,wayA p q] ⟨Bo (blkP h.ks[j].rc (Zdk h s j) p q),[]⟩:=by
 have hk:=Ze (c192 g hj) Yd7
 have e5:=Zdo hj
 have l2:=Xe h.ks
 generalize Zdk h s j=ht at *
 generalize h.ks[j]=c at *
 unfold blkP
 by_cases hc:p.z=Qa Qb (ht*p.d)/\q.z=Qa Qb (ht*q.d)
 ·rw [if_pos hc]
  obtain ⟨h1,h2⟩:=hc
  refine bs.pv (sx:=nos) hk Tryz.func54 (by kernel_rfl) (by kernel_rfl) rfl ?_
  repeat'(first|refine wk3 ?_|(refine wk2 ?_ ?_<;>intro _)|refine wk4 ?_|fail);all_goals(conv=>whnf)
  exact Zc rfl
 ·rw [if_neg hc]
  have hat:atP ht p q=if 0<=Qa Qb (sgn (zOff ht p)*sgn (zOff ht q)) then (0,0,0,false) else (atX p.x q.x (size (zOff ht q)) (size (zOff ht p)),atX p.y q.y (size (zOff ht q)) (size (zOff ht p)),atX p.d q.d (size (zOff ht q)) (size (zOff ht p)),true):=rfl
  have hk2:=Ze (c210 ht p q) hk
  rw [hat] at hk2
  clear hk hat
  have hc2:¬ p.z=Qa Qb (ht*p.d)\/(p.z=Qa Qb (ht*p.d) /\ ¬ q.z=Qa Qb (ht*q.d)):=by
   by_cases h1:p.z=Qa Qb (ht*p.d)
   ·exact .inr ⟨h1,fun h2=>hc ⟨h1,h2⟩⟩
   ·exact .inl h1
  clear hc
  by_cases hs:0<=Qa Qb (sgn (zOff ht p)*sgn (zOff ht q))
  ·rw [if_pos hs] at hk2 ⊢
   clear hs
   rcases hc2 with h1|⟨h1,h2⟩
   all_goals
    refine bs.pv (sx:=nos) hk2 Tryz.func54 (by kernel_rfl) (by kernel_rfl) rfl ?_
    repeat'(first|refine wk3 ?_|(refine wk2 ?_ ?_<;>intro _)|refine wk4 ?_|fail);all_goals(conv=>whnf)
    exact Zc rfl
  ·rw [if_neg hs] at hk2 ⊢
   clear hs
   rcases hc2 with h1|⟨h1,h2⟩
   all_goals
    refine bs.pv (sx:=nos) hk2 Tryz.func54 (by kernel_rfl) (by kernel_rfl) rfl ?_
    repeat'(first|refine wk3 ?_|(refine wk2 ?_ ?_<;>intro _)|refine wk4 ?_|fail);all_goals(conv=>whnf)
    exact Zc rfl
def zBad (h:Hal) (p q:Pt):Bool:=(decide (p.z=0)&&decide (q.z=0))||(decide (p.z=Qa Qb (h.ht*p.d))&&decide (q.z=Qa Qb (h.ht*q.d)))||decide (p.z<0)||decide (q.z<0)||decide (Qa Qb (h.ht*p.d)<p.z)||decide (Qa Qb (h.ht*q.d)<q.z)
def blkA (h:Hal) (s:Stg) (p q:Pt):Nat->List Can->Bool
 | _,[]=>false
 | j,c::l=>blkP c.rc (Zdk h s j) p q||blkA h s p q (j+1) l
def Vt (h:Hal) (s:Stg) (p q:Pt):Bool:=!zBad h p q&&(!(wls h.cs).any (touP p q)&&(Ya h (midX p q) (midY p q) (midD p q) && !blkA h s p q 0 h.ks))
noncomputable abbrev blks (h:Hal) (s:Stg) (p q:Pt):List AV->Option PRes:=famA (fun j:Nat=>j<h.ks.length) (fun j=>[.agg (stgL h s),I j,wayA p q]) (fun j=>⟨Bo (blkP ((h.ks[j]?).getD ⟨⟨#[]⟩,⟨#[]⟩,0,0,0,0,[]⟩).rc (Zdk h s j) p q),[]⟩)
theorem Zy7 {h:Hal} {s:Stg} {p q:Pt} {j:Nat} (hj:j<h.ks.length):blks h s p q [.agg (stgL h s),I j,wayA p q]=some ⟨Bo (blkP h.ks[j].rc (Zdk h s j) p q),[]⟩:=by
 have:=Yb (p:=fun j:Nat=>j<h.ks.length) (g:=fun j:Nat=>[.agg (stgL h s),I j,wayA p q]) (r:=fun j=>⟨Bo (blkP ((h.ks[j]?).getD ⟨⟨#[]⟩,⟨#[]⟩,0,0,0,0,[]⟩).rc (Zdk h s j) p q),[]⟩) (k:=j) (fun i hi=>by
  simp only [Rb,Wh,true_and,and_true] at hi
  have:i=j:=by omega
  subst this; rfl) hj
 refine this.trans ?_
 rw [Qh hj]; rfl
noncomputable def kF6 (h:Hal) (s:Stg) (p q:Pt):PC:=ins 54 (blks h s p q) (ins 53 (one [h.av,I (midX p q),I (midY p q),I (midD p q)] ⟨Bo (Ya h (midX p q) (midY p q) (midD p q)),[]⟩) kF4)
theorem Yd6 {h:Hal} {s:Stg} (g:Sit h s) (p q:Pt):PCOK Tryz.prog (kF6 h s p q):=Xa (fun j hj=>by rw [Qh hj]; exact c184 g hj p q) (Ze (c183 g.ok.f _ _ _) Zq1)
theorem c103 {h:Hal} {s:Stg} (g:Sit h s) (p q:Pt):PCall Tryz.prog 25 [.agg (stgL h s),wayA p q] ⟨Bo (Vt h s p q),[]⟩:=by
 have hk:=Yd6 g p q
 refine bs.pv (sx:=nos) hk Tryz.func25 (by kernel_rfl) (by kernel_rfl) rfl ?_
 cases hz:zBad h p q with
 | true =>
  unfold Vt
  rw [hz]
  repeat'(first|refine wk3 ?_|(refine wk2 ?_ ?_<;>intro _)|refine wk4 ?_|fail);all_goals(conv=>whnf)
  all_goals first
   | exact Zc rfl
   | (exfalso; clear hk; simp_all [zBad]; done)
   | (exfalso; clear hk; simp_all [zBad]; omega)
 | false =>
  have e:Vt h s p q=(!(wls h.cs).any (touP p q)&&(Ya h (midX p q) (midY p q) (midD p q) && !blkA h s p q 0 h.ks)):=by unfold Vt; rw [hz]; rfl
  rw [e]
  clear e
  unfold zBad at hz
  simp only [Bool.or_eq_false_iff,Bool.and_eq_false_iff,decide_eq_false_iff_not] at hz
  obtain ⟨⟨⟨⟨⟨z1,z2⟩,z3⟩,z4⟩,z5⟩,z6⟩:=hz
  repeat'(first|refine wk3 ?_|(refine wk2 ?_ ?_<;>intro _)|refine wk4 ?_|fail);all_goals(conv=>whnf)
  all_goals try (exfalso; clear hk; simp_all; done)
  all_goals
   refine Rg.ren (env2:=[(2,.ptr 0 0 0),(4,.ptr 2 0 0),(9,.ptr 43 0 0),(92,.func 50 [h.av] [])]) (σ2:=⟨[(43,.row 8 [[I p.x,I p.y,I p.z,I p.d,I q.x,I q.y,I q.z,I q.d]] true false),(2,.row 1 [[Bo false]] true false),(0,.row 11 [stgL h s] true false)],44⟩) (Ren.of [] rfl (kps) (kps)) ?_
   clear z1 z2 z3 z4 z5 z6
   refine rngV (itW g.ok.f) rfl rfl rfl rfl (Zey (S:=Unit) (fun _=>[(43,.row 8 [[I p.x,I p.y,I p.z,I p.d,I q.x,I q.y,I q.z,I q.d]] true false),(2,.row 1 [[Bo false]] true false),(0,.row 11 [stgL h s] true false)]) 44 44 (fun xs _=>∃ l:List Wl,xs=l.map (fun w=>[w.av])/\(!l.any (touP p q)&&(Ya h (midX p q) (midY p q) (midD p q) && !blkA h s p q 0 h.ks))=(!(wls h.cs).any (touP p q)&&(Ya h (midX p q) (midY p q) (midD p q) && !blkA h s p q 0 h.ks))) ?_ ?_ _ () ⟨_,rfl,rfl⟩)
   ·rintro u us _ ⟨l,h1,h2⟩
    cases l with
    | nil=>simp at h1
    | cons w l =>
     simp only [Sz,Rb] at h1
     obtain ⟨rfl,rfl⟩:=h1
     obtain ⟨wn,wa,wb,wc,wd⟩:=w
     rw [List.any_cons] at h2
     refine ⟨rfl,bs.av (sx:=nos) hk ?_⟩
     repeat'(first|refine wk3 ?_|(refine wk2 ?_ ?_<;>intro _)|refine wk4 ?_|fail);all_goals(conv=>whnf)
     refine Bd.mk (bs.av (sx:=nos) hk ?_)
     repeat'(first|refine wk3 ?_|(refine wk2 ?_ ?_<;>intro _)|refine wk4 ?_|fail);all_goals(conv=>whnf)
     ·rename_i hx
      rw [<-h2,hx]
      exact Zc rfl
     ·rename_i hx
      rw [hx,Pj] at h2
      exact Qo ⟨(),[],rfl,kps,l,rfl,h2⟩
   ·rintro _ ⟨l,h1,h2⟩
    cases l with
    | cons w l=>simp at h1
    | nil =>
     rw [<-h2]
     clear h1 h2
     rw [List.any_nil]
     repeat'(first|refine wk3 ?_|(refine wk2 ?_ ?_<;>intro _)|refine wk4 ?_|fail);all_goals(conv=>whnf)
     ·rename_i hx
      have hx:Ya h (midX p q) (midY p q) (midD p q)=false:=by simpa using hx
      rw [hx]
      exact Zc rfl
     ·rename_i hx
      have hx:Ya h (midX p q) (midY p q) (midD p q)=true:=by simpa using hx
      rw [hx]
      have l4:=Xe h.ks
      have f4:=g.ok.f.2.2.2.1
      refine Zz (S:=Nat × Int) (fun t=>h.ks.length-t.1) (fun t=>[(2,.ptr 0 0 0),(4,.ptr 2 0 0),(9,.ptr 43 0 0),(114,I (h.ks.map Can.av).length),(115,I t.2)]) (fun _=>[(43,.row 8 [[I p.x,I p.y,I p.z,I p.d,I q.x,I q.y,I q.z,I q.d]] true false),(2,.row 1 [[Bo false]] true false),(0,.row 11 [stgL h s] true false)]) 60 60 (fun t=>t.2=t.1/\t.1<=h.ks.length/\blkA h s p q t.1 (h.ks.drop t.1)=blkA h s p q 0 h.ks) (0,0) ⟨rfl,Qm _,rfl⟩ (Nat.le_of_ble_eq_true rfl) [] rfl (kps) (kps) ?_
      rintro ⟨k,i⟩ ⟨hi,hkk,hh⟩
      dsimp only at hi hkk hh ⊢
      subst hi
      refine bs.av (sx:=nos) hk ?_
      by_cases hlt:k<h.ks.length
      ·rw [Qi hlt,blkA] at hh
       have hb:=Zy7 (p:=p) (q:=q) (s:=s) hlt
       generalize blkP h.ks[k].rc (Zdk h s k) p q=b at *
       cases b with
       | true =>
        rw [<-hh]
        repeat'(first|refine wk3 ?_|(refine wk2 ?_ ?_<;>intro _)|refine wk4 ?_|fail);all_goals(conv=>whnf)
        exact Zc rfl
       | false =>
        rw [Pj] at hh
        repeat'(first|refine wk3 ?_|(refine wk2 ?_ ?_<;>intro _)|refine wk4 ?_|fail);all_goals(conv=>whnf)
        exact Qo ⟨(k+1,_),[],rfl,kps,kps,⟨Zi (by omega),hlt,hh⟩,by dsimp only; omega⟩
      ·rw [Qj (by omega),blkA] at hh
       rw [<-hh]
       repeat'(first|refine wk3 ?_|(refine wk2 ?_ ?_<;>intro _)|refine wk4 ?_|fail);all_goals(conv=>whnf)
       exact Zc rfl
def ptEq (p q:Pt):Bool:=decide (p.x=q.x)&&decide (p.y=q.y)&&decide (p.z=q.z)&&decide (p.d=q.d)
def wayE (h:Hal) (s:Stg) (p q:Pt):Int:=if serr h s=0 then (if Xc p=0 then (if Xc q=0 then (if ptEq p q then 11 else 0) else Xc q) else Xc p) else serr h s
abbrev sxF:FuncId->Bool:=fun f=>Ql f 108||Ql f 120||Ql f 121||Ql f 122
noncomputable abbrev ptEs:List AV->Option PRes:=famA (fun p:Pt=>p.wf) (fun p=>[p.av]) (fun p=>⟨I (Xc p),[]⟩)
theorem Zqn {p:Pt} (h:p.wf):ptEs [p.av]=some ⟨I (Xc p),[]⟩ :=
 Yb (p:=fun p:Pt=>p.wf) (g:=fun p=>[p.av]) (r:=fun p=>⟨I (Xc p),[]⟩) (fun j hj=>by
  obtain ⟨a,b,c,d⟩:=j
  obtain ⟨a',b',c',d'⟩:=p
  simp only [Rb,Mm,Wh,true_and,and_true] at hj
  obtain ⟨rfl,rfl,rfl,rfl⟩:=hj
  rfl) h
theorem c37 {h:Hal} (hk:h.ok) {s:Stg} (hs:s.few) {p q:Pt} (hp:p.wf) (hq:q.wf):PCall Tryz.prog 63 [h.av,s.av,wayA p q] ⟨.tup [Bo (decide (wayE h s p q=0)&&Vt h s p q),I (wayE h s p q)],[]⟩:=by
 have hk0:PCOK Tryz.prog (ins 113 ptEs (ins 23 (one [h.av,s.av] ⟨.tup [.agg (stgL h s),I (serr h s)],[]⟩) kG4)):=Xa (fun p hp=>c99 hp) (Ze (c83 hk hs) Ua)
 have t1:=Zqn hp
 have t2:=Zqn hq
 unfold wayE
 by_cases h0:serr h s=0
 ·have g:=Zih hk hs h0
  rw [h0] at hk0
  rw [if_pos h0]
  have hk1:=Ze (c103 g p q) hk0
  clear hk0 h0
  generalize Vt h s p q=fr at *
  generalize Xc p=e1 at *
  generalize Xc q=e2 at *
  by_cases h1:e1=0
  ·rw [if_pos h1]
   subst h1
   by_cases h2:e2=0
   ·rw [if_pos h2]
    subst h2
    have hx:(true ^^ (decide (p.x=q.x)&&(decide (p.y=q.y)&&(decide (p.z=q.z)&&(decide (p.d=q.d)&&true))))) = !ptEq p q:=by
     unfold ptEq
     cases decide (p.x=q.x)<;>cases decide (p.y=q.y)<;>cases decide (p.z=q.z)<;>cases decide (p.d=q.d)<;>rfl
    cases hq:ptEq p q with
    | true =>
     rw [hq] at hx
     have hu:unl (true ^^ (decide (p.x=q.x)&&(decide (p.y=q.y)&&(decide (p.z=q.z)&&(decide (p.d=q.d)&&true))))) 11=11:=by rw [hx]; rfl
     clear hx hq
     refine bs.pv (sx:=sxF) hk1 Tryz.func63 (by kernel_rfl) (by kernel_rfl) rfl ?_
     repeat'(first|refine wk3 ?_|(refine wk2 ?_ ?_<;>intro _)|refine wk4 ?_|fail);all_goals(conv=>whnf)
     refine bs.sv (sx:=sxF) hk1 Tryz.func108 (by kernel_rfl) (by kernel_rfl) ?_
     refine Wp 4 ?_
     refine Rp (bs.av (sx:=sxF) hk1 ?_)
     repeat'(first|refine wk3 ?_|(refine wk2 ?_ ?_<;>intro _)|refine wk4 ?_|fail);all_goals(conv=>whnf)
     refine bs.sv (sx:=sxF) hk1 Tryz.func120 (by kernel_rfl) (by kernel_rfl) ?_
     repeat'(first|refine wk3 ?_|(refine wk2 ?_ ?_<;>intro _)|refine wk4 ?_|fail);all_goals(conv=>whnf)
     refine Rp (bs.av (sx:=sxF) hk1 ?_)
     repeat'(first|refine wk3 ?_|(refine wk2 ?_ ?_<;>intro _)|refine wk4 ?_|fail);all_goals(conv=>whnf)
     refine bs.sv (sx:=sxF) hk1 Tryz.func121 (by kernel_rfl) (by kernel_rfl) ?_
     repeat'(first|refine wk3 ?_|(refine wk2 ?_ ?_<;>intro _)|refine wk4 ?_|fail);all_goals(conv=>whnf)
     refine Rp (bs.av (sx:=sxF) hk1 ?_)
     repeat'(first|refine wk3 ?_|(refine wk2 ?_ ?_<;>intro _)|refine wk4 ?_|fail);all_goals(conv=>whnf)
     refine bs.sv (sx:=sxF) hk1 Tryz.func122 (by kernel_rfl) (by kernel_rfl) ?_
     repeat'(first|refine wk3 ?_|(refine wk2 ?_ ?_<;>intro _)|refine wk4 ?_|fail);all_goals(conv=>whnf)
     exact Zf (by rw [hu]; rfl) rfl
    | false =>
     rw [hq] at hx
     have hu:unl (true ^^ (decide (p.x=q.x)&&(decide (p.y=q.y)&&(decide (p.z=q.z)&&(decide (p.d=q.d)&&true))))) 11=0:=by rw [hx]; rfl
     clear hx hq
     refine bs.pv (sx:=sxF) hk1 Tryz.func63 (by kernel_rfl) (by kernel_rfl) rfl ?_
     repeat'(first|refine wk3 ?_|(refine wk2 ?_ ?_<;>intro _)|refine wk4 ?_|fail);all_goals(conv=>whnf)
     refine bs.sv (sx:=sxF) hk1 Tryz.func108 (by kernel_rfl) (by kernel_rfl) ?_
     refine Wp 4 ?_
     refine Rp (bs.av (sx:=sxF) hk1 ?_)
     repeat'(first|refine wk3 ?_|(refine wk2 ?_ ?_<;>intro _)|refine wk4 ?_|fail);all_goals(conv=>whnf)
     refine bs.sv (sx:=sxF) hk1 Tryz.func120 (by kernel_rfl) (by kernel_rfl) ?_
     repeat'(first|refine wk3 ?_|(refine wk2 ?_ ?_<;>intro _)|refine wk4 ?_|fail);all_goals(conv=>whnf)
     refine Rp (bs.av (sx:=sxF) hk1 ?_)
     repeat'(first|refine wk3 ?_|(refine wk2 ?_ ?_<;>intro _)|refine wk4 ?_|fail);all_goals(conv=>whnf)
     refine bs.sv (sx:=sxF) hk1 Tryz.func121 (by kernel_rfl) (by kernel_rfl) ?_
     repeat'(first|refine wk3 ?_|(refine wk2 ?_ ?_<;>intro _)|refine wk4 ?_|fail);all_goals(conv=>whnf)
     refine Rp (bs.av (sx:=sxF) hk1 ?_)
     repeat'(first|refine wk3 ?_|(refine wk2 ?_ ?_<;>intro _)|refine wk4 ?_|fail);all_goals(conv=>whnf)
     refine bs.sv (sx:=sxF) hk1 Tryz.func122 (by kernel_rfl) (by kernel_rfl) ?_
     repeat'(first|refine wk3 ?_|(refine wk2 ?_ ?_<;>intro _)|refine wk4 ?_|fail);all_goals(conv=>whnf)
     refine Rp (bs.av (sx:=sxF) hk1 ?_)
     repeat'(first|refine wk3 ?_|(refine wk2 ?_ ?_<;>intro _)|refine wk4 ?_|fail);all_goals(conv=>whnf)
     exact Zf (by cases fr<;>rfl) rfl
   ·rw [if_neg h2]
    refine bs.pv (sx:=sxF) hk1 Tryz.func63 (by kernel_rfl) (by kernel_rfl) rfl ?_
    repeat'(first|refine wk3 ?_|(refine wk2 ?_ ?_<;>intro _)|refine wk4 ?_|fail);all_goals(conv=>whnf)
    refine bs.sv (sx:=sxF) hk1 Tryz.func108 (by kernel_rfl) (by kernel_rfl) ?_
    refine Wp 4 ?_
    refine Rp (bs.av (sx:=sxF) hk1 ?_)
    repeat'(first|refine wk3 ?_|(refine wk2 ?_ ?_<;>intro _)|refine wk4 ?_|fail);all_goals(conv=>whnf)
    refine bs.sv (sx:=sxF) hk1 Tryz.func120 (by kernel_rfl) (by kernel_rfl) ?_
    repeat'(first|refine wk3 ?_|(refine wk2 ?_ ?_<;>intro _)|refine wk4 ?_|fail);all_goals(conv=>whnf)
    refine Rp (bs.av (sx:=sxF) hk1 ?_)
    repeat'(first|refine wk3 ?_|(refine wk2 ?_ ?_<;>intro _)|refine wk4 ?_|fail);all_goals(conv=>whnf)
    refine bs.sv (sx:=sxF) hk1 Tryz.func121 (by kernel_rfl) (by kernel_rfl) ?_
    repeat'(first|refine wk3 ?_|(refine wk2 ?_ ?_<;>intro _)|refine wk4 ?_|fail);all_goals(conv=>whnf)
    exact Zf (by rw [decide_eq_false h2]; rfl) rfl
  ·rw [if_neg h1]
   refine bs.pv (sx:=sxF) hk1 Tryz.func63 (by kernel_rfl) (by kernel_rfl) rfl ?_
   repeat'(first|refine wk3 ?_|(refine wk2 ?_ ?_<;>intro _)|refine wk4 ?_|fail);all_goals(conv=>whnf)
   refine bs.sv (sx:=sxF) hk1 Tryz.func108 (by kernel_rfl) (by kernel_rfl) ?_
   refine Wp 4 ?_
   refine Rp (bs.av (sx:=sxF) hk1 ?_)
   repeat'(first|refine wk3 ?_|(refine wk2 ?_ ?_<;>intro _)|refine wk4 ?_|fail);all_goals(conv=>whnf)
   refine bs.sv (sx:=sxF) hk1 Tryz.func120 (by kernel_rfl) (by kernel_rfl) ?_
   repeat'(first|refine wk3 ?_|(refine wk2 ?_ ?_<;>intro _)|refine wk4 ?_|fail);all_goals(conv=>whnf)
   exact Zf (by rw [decide_eq_false h1]; rfl) rfl
 ·rw [if_neg h0]
  generalize Vt h s p q=fr at *
  refine bs.pv (sx:=sxF) hk0 Tryz.func63 (by kernel_rfl) (by kernel_rfl) rfl ?_
  repeat'(first|refine wk3 ?_|(refine wk2 ?_ ?_<;>intro _)|refine wk4 ?_|fail);all_goals(conv=>whnf)
  exact Zf (by rw [decide_eq_false h0]; rfl) rfl
noncomputable abbrev crsT (h:Hal) (s:Stg):List AV->Option PRes:=famA (fun c:Crs=>c.to.wf) (fun c=>[h.av,s.av,c.av]) (fun c=>⟨crAV (crsA h s c),[]⟩)
theorem Zrf {h:Hal} {s:Stg} {c:Crs} (hw:c.to.wf):crsT h s [h.av,s.av,c.av]=some ⟨crAV (crsA h s c),[]⟩ :=
 Yb (p:=fun c:Crs=>c.to.wf) (g:=fun c=>[h.av,s.av,c.av]) (r:=fun c=>⟨crAV (crsA h s c),[]⟩) (fun j hj=>by
  obtain ⟨a,b,d,e,x,y,z,w⟩:=j
  obtain ⟨a',b',d',e',x',y',z',w'⟩:=c
  simp only [Rb,Mm,Wh,true_and,and_true] at hj
  obtain ⟨rfl,rfl,rfl,rfl,rfl,rfl,rfl,rfl⟩:=hj
  rfl) hw
theorem Zv8 {h:Hal} (hk:h.ok) {s:Stg} (hs:s.few) {pt:PC} (hp:PCOK Tryz.prog pt):PCOK Tryz.prog (ins 62 (crsT h s) pt):=Xa (fun c hc=>c40 hk hs hc) hp
noncomputable abbrev wayT (h:Hal) (s:Stg):List AV->Option PRes:=famA (fun p:Pt × Pt=>p.1.wf/\p.2.wf) (fun p=>[h.av,s.av,wayA p.1 p.2]) (fun p=>⟨.tup [Bo (decide (wayE h s p.1 p.2=0)&&Vt h s p.1 p.2),I (wayE h s p.1 p.2)],[]⟩)
theorem Zqa {h:Hal} {s:Stg} {p q:Pt} (hp:p.wf) (hq:q.wf):wayT h s [h.av,s.av,wayA p q]=some ⟨.tup [Bo (decide (wayE h s p q=0)&&Vt h s p q),I (wayE h s p q)],[]⟩ :=
 Yb (p:=fun p:Pt × Pt=>p.1.wf/\p.2.wf) (g:=fun p=>[h.av,s.av,wayA p.1 p.2]) (r:=fun p=>⟨.tup [Bo (decide (wayE h s p.1 p.2=0)&&Vt h s p.1 p.2),I (wayE h s p.1 p.2)],[]⟩) (k:=(p,q)) (fun j hj=>by
  obtain ⟨⟨a,b,c,d⟩,⟨a2,b2,c2,d2⟩⟩:=j
  obtain ⟨x,y,z,w⟩:=p
  obtain ⟨x2,y2,z2,w2⟩:=q
  simp only [Rb,Mm,Wh,true_and,and_true] at hj
  obtain ⟨rfl,rfl,rfl,rfl,rfl,rfl,rfl,rfl⟩:=hj
  rfl) ⟨hp,hq⟩
theorem Zs4 {h:Hal} (hk:h.ok) {s:Stg} (hs:s.few) {pt:PC} (hp:PCOK Tryz.prog pt):PCOK Tryz.prog (ins 63 (wayT h s) pt):=Xa (fun p hw=>c37 hk hs hw.1 hw.2) hp
def r123:List AV->Option PRes
 | [.agg [.int .i64 x,.int .i64 y,.int .i64 z]]=>some ⟨P4 x y z 1,[]⟩
 | _=>none
theorem Zt3 {pt:PC} (h:PCOK Tryz.prog pt):PCOK Tryz.prog (ins 61 r123 pt):=Zj (fun a res h=>by unfold r123 at h; split at h<;>cases h; exact d123 _ _ _) h
def sqV (a b c x y z:Int):Int:=Qa Qb (Qa Qb (Qa Qb (Qa Qb (a-x)*Qa Qb (a-x))+Qa Qb (Qa Qb (b-y)*Qa Qb (b-y)))+Qa Qb (Qa Qb (c-z)*Qa Qb (c-z)))
theorem d126 (a b c x y z:Int):PCall Tryz.prog 66 [P3 a b c,P3 x y z] ⟨I (sqV a b c x y z),[]⟩:=by
 refine bs.pv (sx:=nos) Zd Tryz.func66 (by kernel_rfl) (by kernel_rfl) rfl ?_
 repeat'(first|refine wk3 ?_|(refine wk2 ?_ ?_<;>intro _)|refine wk4 ?_|fail);all_goals(conv=>whnf)
 exact Za rfl
def r126:List AV->Option PRes
 | [.agg [.int .i64 a,.int .i64 b,.int .i64 c],.agg [.int .i64 x,.int .i64 y,.int .i64 z]]=>some ⟨I (sqV a b c x y z),[]⟩
 | _=>none
theorem Zt2 {pt:PC} (h:PCOK Tryz.prog pt):PCOK Tryz.prog (ins 66 r126 pt):=Zj (fun a res h=>by unfold r126 at h; split at h<;>cases h; exact d126 _ _ _ _ _ _) h
theorem Yfk {ns:List Int} (hl:ns.length<100000):PCall Tryz.prog 64 [.isl 1 (nl ns)] ⟨.isl 1 (nl ns),[]⟩:=by
 cases ns with
 | nil=>exact Yfl
 | cons n ns=>exact (d103 (by simp) hl).freeze ⟨rfl,rfl,rfl⟩
theorem Yfi {ps:List (Int × Int × Int × Int)} (hl:ps.length<100000):PCall Tryz.prog 65 [.isl 4 (ps.map hp4)] ⟨.isl 4 (ps.map hp4),[]⟩:=by
 cases ps with
 | nil=>exact Yfj
 | cons n ns=>exact (d104 (by simp) hl).freeze ⟨rfl,rfl,rfl⟩
noncomputable abbrev clT:List AV->Option PRes:=famA (fun ps:List (Int × Int × Int × Int)=>ps.length<100000) (fun ps=>[.isl 4 (ps.map hp4)]) (fun ps=>⟨.isl 4 (ps.map hp4),[]⟩)
theorem Yev {pt:PC} (hp:PCOK Tryz.prog pt):PCOK Tryz.prog (ins 65 clT pt):=Xa (fun ps hl=>Yfi hl) hp
theorem Ycp {ps:List (Int × Int × Int × Int)} (h:ps.length<100000):clT [.isl 4 (ps.map hp4)]=some ⟨.isl 4 (ps.map hp4),[]⟩ :=
 Yb (p:=fun ps:List (Int × Int × Int × Int)=>ps.length<100000) (g:=fun ps=>[.isl 4 (ps.map hp4)]) (r:=fun ps=>⟨.isl 4 (ps.map hp4),[]⟩) (fun j hj=>by
  simp only [Rb,Ml,true_and,and_true] at hj
  rw [hj]) h
def goP (f:Int->Pl3->Pt->Pt × Int):List (Int × Pl3)->Pt->List Pt->Option (List Pt)
 | [],_,P=>some P
 | (a,q)::r,to,P=>if (f a q to).2=0 then goP f r (f a q to).1 ((f a q to).1::P) else none
def chkW (w:Pt->Pt->Bool):List Pt->Bool
 | p::q::r=>w p q&&chkW w (q::r)
 | _=>true
def pnt (q:Pl3):Pt:=⟨q.1,q.2.1,q.2.2,1⟩
def tup4 (p:Pt):Int × Int × Int × Int:=(p.x,p.y,p.z,p.d)
def fP (h:Hal) (s:Stg) (a:Int) (q:Pl3) (to:Pt):Pt × Int:=crsA h s ⟨a,q.1,q.2.1,q.2.2,to⟩
def wP (h:Hal) (s:Stg) (p q:Pt):Bool:=decide (wayE h s p q=0)&&Vt h s p q
def pthQ (h:Hal) (s:Stg) (q0 q1:Pl3) (l:List (Int × Pl3)):Option Pth :=
 match goP (fP h s) l.reverse (pnt q1) [] with
 | none=>none
 | some P=>if chkW (wP h s) (pnt q0::P++[pnt q1]) then some ⟨l.map (·.1),P.map tup4,sqV (l.getLastD (0,q0)).2.1 (l.getLastD (0,q0)).2.2.1 (l.getLastD (0,q0)).2.2.2 q1.1 q1.2.1 q1.2.2⟩ else none
def ansP:Option Pth->AV
 | none=>.tup [.agg [.isl 1 [],.isl 4 [],I 0],Bo false]
 | some p=>.tup [p.av,Bo true]
theorem Zkk:Pt.wf ptZ:=⟨⟨by decide,by decide⟩,⟨by decide,by decide⟩,⟨by decide,by decide⟩,⟨by decide,by decide⟩⟩
theorem Zv9 {h:Hal} {s:Stg} (c:Crs) (hk:h.ok) (hs:s.few):(crsA h s c).1.wf:=by
 unfold crsA
 split
 ·rename_i e
  obtain ⟨g,hi,ho,_⟩:=Zwb hk hs e
  unfold Zaz
  split
  ·exact Zkk
  ·rename_i hsn
   split
   ·split
    ·exact Zkk
    ·exact (Zb7 (Zbs ho hsn)).2.2.1.wf
   ·exact Zkk
 ·exact Zkk
theorem Zqo {q:Pl3} (h:Near 5000 q):(pnt q).wf:=by
 obtain ⟨h1,h2,h3⟩:=h
 unfold pnt
 exact ⟨⟨by dsimp only; omega,by dsimp only; omega⟩,⟨by dsimp only; omega,by dsimp only; omega⟩,⟨by dsimp only; omega,by dsimp only; omega⟩,⟨by dsimp only; omega,by dsimp only; omega⟩⟩
def rawP:Option Pth->AV
 | none=>.tup [.agg [.nils,.nils,I 0],Bo false]
 | some p=>.tup [p.av,Bo true]
theorem Zxp (o:Option Pth):Frz [] (rawP o) (ansP o):=by
 cases o with
 | none=>exact ⟨⟨rfl,rfl,⟨rfl,rfl⟩,trivial⟩,⟨rfl,rfl⟩,trivial⟩
 | some p=>exact ⟨⟨⟨rfl,rfl⟩,⟨rfl,rfl⟩,⟨rfl,rfl⟩,trivial⟩,⟨rfl,rfl⟩,trivial⟩
theorem Zxo (o:Option Pth):Xy 0 (rawP o)=true:=by cases o<;>rfl
noncomputable abbrev oneA (a:List AV) (r:PRes):List AV->Option PRes:=famA (fun _:Unit=>True) (fun _=>a) (fun _=>r)
theorem Ze2 {f:FuncId} {a:List AV} {r:PRes} (h:PCall Tryz.prog f a r) {pt:PC} (hp:PCOK Tryz.prog pt):PCOK Tryz.prog (ins f (oneA a r) pt):=Xa (fun _ _=>h) hp
theorem Zcb (a:List AV) (r:PRes):oneA a r a=some r:=Yb (p:=fun _:Unit=>True) (g:=fun _=>a) (r:=fun _=>r) (k:=()) (fun _ _=>rfl) trivial
def lkG (f:Int->Pl3->Pl3):Pl3->List Int->List (Int × Pl3)
 | _,[]=>[]
 | q,n::r=>(n,f n q)::lkG f (f n q) r
theorem Zyc (f:Int->Pl3->Pl3) (q:Pl3) (n:Int) (r:List Int) (k:Nat):imA f q (n::r) (k+1)=imA f (f n q) r k:=rfl
theorem Zad (f:Int->Pl3->Pl3):∀ (q:Pl3) (ns:List Int),(lkG f q ns).length=ns.length
 | _,[]=>rfl
 | q,n::r=>by rw [lkG,Sf,Zad f _ r,Sf]
theorem Zum (f:Int->Pl3->Pl3):∀ (q:Pl3) (ns:List Int) (k:Nat) (hk:k<ns.length),(lkG f q ns)[k]?=some (ns[k],imA f q ns (k+1))
 | q,n::r,0,hk=>rfl
 | q,n::r,k+1,hk=>by
  rw [lkG,List.getElem?_cons_succ,Zum f _ r k (by simpa using hk),Zyc]
  rfl
theorem Zul (f:Int->Pl3->Pl3):∀ (q:Pl3) (ns:List Int),(lkG f q ns).map (·.1)=ns
 | _,[]=>rfl
 | q,n::r=>by rw [lkG,Sz,Zul f _ r]
theorem Zqv (f:Int->Pl3->Pl3):∀ (q:Pl3) (ns:List Int) (x:Int),((lkG f q ns).getLastD (x,q)).2=imA f q ns ns.length
 | _,[],_=>rfl
 | q,n::r,x=>by
  rw [lkG,List.getLastD_cons,Zqv f _ r n]
  rfl
theorem Zlp {f:Int->Pl3->Pl3} {q:Pl3} {ns:List Int} {k:Nat} (hk:k<ns.length):((lkG f q ns).take (k+1)).reverse=(ns[k],imA f q ns (k+1))::((lkG f q ns).take k).reverse:=by
 have hk2:k<(lkG f q ns).length:=by rw [Zad]; exact hk
 have e:=Zum f q ns k hk
 rw [Qh hk2,Qe] at e
 rw [Qw hk2,List.reverse_append,e]
 rfl
def Yr (h:Hal) (s:Stg) (q0 q1:Pl3) (ns:List Int):Option Pth:=pthQ h s q0 q1 (lkG (im1 h s) q0 ns)
theorem Zca (h:Hal) (s:Stg) (q0 q1:Pl3) (ns:List Int):Yr h s q0 q1 ns=match goP (fP h s) (lkG (im1 h s) q0 ns).reverse (pnt q1) [] with
  | none=>none
  | some P=>if chkW (wP h s) (pnt q0::P++[pnt q1]) then some ⟨ns,P.map tup4,sqV (imA (im1 h s) q0 ns ns.length).1 (imA (im1 h s) q0 ns ns.length).2.1 (imA (im1 h s) q0 ns ns.length).2.2 q1.1 q1.2.1 q1.2.2⟩ else none:=by
 unfold Yr pthQ
 rw [Zul,Zqv]
 all_goals (cases goP (fP h s) (lkG (im1 h s) q0 ns).reverse (pnt q1) []<;>rfl)
abbrev ptc (p:Pt):List AV:=[I p.x,I p.y,I p.z,I p.d]
theorem Zgn {l:List Pt} {k:Nat} (hk:k<l.length):(l.map ptc)[k]?=some (ptc l[k]):=by simp [hk]
theorem Zmj (l:List Pt) (i:Nat) (p:Pt):Zhq (l.map ptc) i (ptc p)=(l.set i p).map ptc:=by rw [Za7,Lv]
theorem Zci {l:List Pt} {k:Nat} (hk:k<l.length) (p:Pt):(l.set k p).drop k=p::l.drop (k+1):=by
 rw [Qi (by rw [Jy]; exact hk),List.getElem_set_self,List.drop_set,if_pos (by omega)]
theorem Zof {w:Pt->Pt->Bool} {l:List Pt} {k:Nat} (hk:k+1<l.length):chkW w (l.drop k)=(w l[k] l[k+1]&&chkW w (l.drop (k+1))):=by
 rw [Qi (show k<l.length by omega),Qi hk,chkW]
theorem Zog {w:Pt->Pt->Bool} {l:List Pt} {k:Nat} (hk:k+1=l.length):chkW w (l.drop k)=true:=by
 rw [Qi (show k<l.length by omega),Qj (by omega)]; rfl
noncomputable def kPth (h:Hal) (s:Stg) (q0:Pl3) (ns:List Int):PC:=ins 60 (oneA [.agg (stgL h s),P3 q0.1 q0.2.1 q0.2.2,.isl 1 (nl ns)] ⟨.isl 3 (imC (im1 h s) q0 ns ns.length),[]⟩) (ins 61 r123 (ins 62 (crsT h s) (ins 63 (wayT h s) (ins 66 r126 (ins 65 clT (ins 64 (oneA [.isl 1 (nl ns)] ⟨.isl 1 (nl ns),[]⟩) pt0))))))
theorem Ybz {h:Hal} (hk:h.ok) {s:Stg} (hs:s.few) (e0:serr h s=0) {q0:Pl3} (hf:Near 5000 q0) {ns:List Int} (hl:ns.length<=4) (hi:∀ n∈ns,0<=n/\n<nsur h):PCOK Tryz.prog (kPth h s q0 ns) :=
 Ze2 (d82f hk hs e0 hf hl hi) (Zt3 (Zv8 hk hs (Zs4 hk hs (Zt2 (Yev (Ze2 (Yfk (ns:=ns) (by omega)) Zd))))))
theorem d65 {h:Hal} (hk:h.ok) {s:Stg} (hs:s.few) (e0:serr h s=0) (a:Ask) (hf:Near 5000 (a.fx,a.fy,a.fz)) (ht:Near 5000 (a.tx,a.ty,a.tz)) {ns:List Int} (hl:ns.length<=4) (hi:∀ n∈ns,0<=n/\n<nsur h) :
  PCall Tryz.prog 31 [.agg (stgL h s),a.av,.isl 1 (nl ns)] ⟨rawP (Yr h s (a.fx,a.fy,a.fz) (a.tx,a.ty,a.tz) ns),[]⟩:=by
 obtain ⟨fx,fy,fz,tx,ty,tz,n⟩:=a
 dsimp only at hf ht ⊢
 have hk0:=Ybz hk hs e0 hf hl hi
 unfold kPth at hk0
 have w0:=Zqo hf
 have wT:=Zqo ht
 have ll:=Zl ns
 have o1:=Zcb [.agg (stgL h s),P3 fx fy fz,.isl 1 (nl ns)] ⟨.isl 3 (imC (im1 h s) (fx,fy,fz) ns ns.length),[]⟩
 have o2:=Zcb [.isl 1 (nl ns)] ⟨.isl 1 (nl ns),[]⟩
 have hR:=Zca h s (fx,fy,fz) (tx,ty,tz) ns
 generalize Yr h s (fx,fy,fz) (tx,ty,tz) ns=R at *
 have il:=Zi5 (im1 h s) (fx,fy,fz) ns ns.length
 have x2:Qa Qb (((nl ns).length:Int)+2)=((ns.length+2:Nat):Int):=by rw [ll,W_eq (by omega) (by omega)]; omega
 have x1:Qa Qb (((nl ns).length:Int)+1)=((ns.length+1:Nat):Int):=by rw [ll,W_eq (by omega) (by omega)]; omega
 have a1:decide (0<=Qa Qb (((nl ns).length:Int)+2)/\(Qa Qb (((nl ns).length:Int)+2)).toNat<=1000000)=true:=by rw [x2]; exact decide_eq_true ⟨by omega,by omega⟩
 have g0:(Rn (Qa Qb (((nl ns).length:Int)+2)).toNat (ptc ptZ))[0+Sl 0]?=some (ptc ptZ):=by
  rw [x2,Rj,List.getElem?_replicate,if_pos (by omega)]
 have g1:(Zhq (Rn (Qa Qb (((nl ns).length:Int)+2)).toNat (ptc ptZ)) (0+Sl 0) (ptc (pnt (fx,fy,fz))))[0+(Qa Qb (((nl ns).length:Int)+1)).toNat]?=some (ptc ptZ):=by
  rw [Za7,x2,x1,Mn,if_neg (by omega)]; simp
 have hE0:Zhq (Zhq (Rn (Qa Qb (((nl ns).length:Int)+2)).toNat (ptc ptZ)) (0+Sl 0) (ptc (pnt (fx,fy,fz)))) (0+(Qa Qb (((nl ns).length:Int)+1)).toNat) (ptc (pnt (tx,ty,tz)))=(((Rn (ns.length+2) ptZ).set 0 (pnt (fx,fy,fz))).set (ns.length+1) (pnt (tx,ty,tz))).map ptc:=by
  rw [Za7,Za7,x2,x1,Lv,Lv,List.map_replicate]
  congr 1
  omega
 refine bs.pv (sx:=nos) hk0 Tryz.func31 (by kernel_rfl) (by kernel_rfl) (Zxo _) ?_
 unfold Zg8
 conv=>whnf
 repeat'(first|refine wk3 ?_|(refine wk2 ?_ ?_<;>intro _)|refine wk4 ?_|fail);all_goals(conv=>whnf)
 obtain ⟨l,hlk⟩:∃ l,l=lkG (im1 h s) (fx,fy,fz) ns:=⟨_,rfl⟩
 have hll:l.length=ns.length:=by rw [hlk,Zad]
 have hlt' : ∀ {k:Nat} (hk:k<ns.length),(l.take (k+1)).reverse=(ns[k],imA (im1 h s) (fx,fy,fz) ns (k+1))::(l.take k).reverse:=fun hk=>by rw [hlk]; exact Zlp hk
 rw [<-hlk] at hR
 clear hlk
 refine Zz (S:=Nat × Int × List (List AV) × List Pt) (fun t=>t.1) (fun t=>[(2,.isl 1 (nl ns)),(3,.ptr 0 0 0),(4,.ptr 1 0 0),(6,.ptr 2 0 0),(8,.isl 3 (imC (im1 h s) (fx,fy,fz) ns ns.length)),(9,I (nl ns).length),(10,.asl 3 0 (Qa Qb (((nl ns).length:Int)+2)).toNat),(11,I t.2.1)])
  (fun t=>[(3,.row 4 t.2.2.1 true true),(2,.row 3 [[.nils,.nils,I 0]] true false),(1,.row 7 [[I fx,I fy,I fz,I tx,I ty,I tz,I n]] true false),(0,.row 11 [stgL h s] true false)]) 18 18
  (fun t=>t.2.1=t.1/\t.1<=ns.length/\t.2.2.1=t.2.2.2.map ptc/\t.2.2.2.length=ns.length+2/\t.2.2.2[0]?=some (pnt (fx,fy,fz))/\(∀ p∈t.2.2.2,p.wf)/\∃ to P Q,t.2.2.2.drop (t.1+1)=to::Q/\P++[pnt (tx,ty,tz)]=to::Q/\goP (fP h s) (l.take t.1).reverse to P=goP (fP h s) l.reverse (pnt (tx,ty,tz)) [])
  (ns.length,(nl ns).length,_,(((Rn (ns.length+2) ptZ).set 0 (pnt (fx,fy,fz))).set (ns.length+1) (pnt (tx,ty,tz)))) ⟨by dsimp only; rw [ll],Qd _,hE0,by simp,by simp,?_,pnt (tx,ty,tz),[],[],by rw [Zci (by simp)]; simp,rfl,by rw [<-hll,List.take_length]⟩ (Qd _) [] rfl (kps) (kps) ?_
 ·intro p hp
  rcases Tw hp with hp|rfl
  ·rcases Tw hp with hp|rfl
   ·rw [List.eq_of_mem_replicate hp]; exact Zkk
   ·exact w0
  ·exact wT
 clear g0 g1 hE0 a1
 rintro ⟨k,i,els,pts⟩ ⟨hi1,hk1,hels,hpl,hp0,hwf,to,P,Q,hd,hPQ,hgo⟩
 dsimp only at hi1 hk1 hels hpl hp0 hwf hd hPQ hgo ⊢
 subst hi1 hels
 have lp:(pts.map ptc).length=ns.length+2:=by rw [Ss,hpl]
 refine bs.av (sx:=nos) hk0 ?_
 cases k with
 | succ j =>
  have b0:((j+1:Nat):Int)>=1:=by omega
  have b1:Qa Qb (((j+1:Nat):Int)-1)=j:=by rw [W_eq (by omega) (by omega)]; omega
  have b2:Qa Qb (((j+1:Nat):Int)+1)=((j+2:Nat):Int):=by rw [W_eq (by omega) (by omega)]; omega
  have e1:(nl ns)[(Qa Qb (((j+1:Nat):Int)-1)).toNat]?=some [I ns[j]]:=by rw [b1]; simp [nl]
  have e2:(imC (im1 h s) (fx,fy,fz) ns ns.length)[((j+1:Nat):Int).toNat]?=some (pl3 (imA (im1 h s) (fx,fy,fz) ns (j+1))):=by
   rw [Rj]; unfold imC; rw [Rr,List.getElem?_range (by omega)]; rfl
  have hto:pts[j+2]?=some to:=by rw [<-List.head?_drop,hd]; rfl
  have e3:(pts.map ptc)[0+(Qa Qb (((j+1:Nat):Int)+1)).toNat]?=some (ptc to):=by rw [b2,Rj,Rv,Rr,hto]; rfl
  have e4:(pts.map ptc)[0+((j+1:Nat):Int).toNat]?=some (ptc (pts[j+1]'(by omega))):=by rw [Rj,Rv]; exact Zgn (by omega)
  have wto:to.wf:=hwf _ (List.mem_of_getElem? hto)
  rw [hlt' (by omega),goP] at hgo
  have c1:=Zrf (h:=h) (s:=s) (c:=⟨ns[j],(imA (im1 h s) (fx,fy,fz) ns (j+1)).1,(imA (im1 h s) (fx,fy,fz) ns (j+1)).2.1,(imA (im1 h s) (fx,fy,fz) ns (j+1)).2.2,to⟩) wto
  have w1:=Zv9 (h:=h) (s:=s) ⟨ns[j],(imA (im1 h s) (fx,fy,fz) ns (j+1)).1,(imA (im1 h s) (fx,fy,fz) ns (j+1)).2.1,(imA (im1 h s) (fx,fy,fz) ns (j+1)).2.2,to⟩ hk hs
  have hfp:fP h s ns[j] (imA (im1 h s) (fx,fy,fz) ns (j+1)) to=crsA h s ⟨ns[j],(imA (im1 h s) (fx,fy,fz) ns (j+1)).1,(imA (im1 h s) (fx,fy,fz) ns (j+1)).2.1,(imA (im1 h s) (fx,fy,fz) ns (j+1)).2.2,to⟩:=rfl
  rw [hfp] at hgo
  clear hfp
  generalize crsA h s ⟨ns[j],(imA (im1 h s) (fx,fy,fz) ns (j+1)).1,(imA (im1 h s) (fx,fy,fz) ns (j+1)).2.1,(imA (im1 h s) (fx,fy,fz) ns (j+1)).2.2,to⟩=r at *
  obtain ⟨⟨x,y,z,d⟩,E⟩:=r
  generalize imA (im1 h s) (fx,fy,fz) ns (j+1)=q at *
  obtain ⟨qx,qy,qz⟩:=q
  obtain ⟨X,Y,Z,V⟩:=to
  dsimp only at hgo w1 c1
  by_cases hE:E=0
  ·subst hE
   rw [if_pos rfl] at hgo
   have hs1:Zhq (pts.map ptc) (0+((j+1:Nat):Int).toNat) (ptc ⟨x,y,z,d⟩)=(pts.set (j+1) ⟨x,y,z,d⟩).map ptc:=by
    rw [Rj,Rv]; exact Zmj _ _ _
   repeat'(first|refine wk3 ?_|(refine wk2 ?_ ?_<;>intro _)|refine wk4 ?_|fail);all_goals(conv=>whnf)
   exact Qo ⟨(j,_,_,pts.set (j+1) ⟨x,y,z,d⟩),[],rfl,kps,kps,⟨b1,by dsimp only; omega,hs1,by dsimp only; rw [Jy,hpl],by dsimp only; rw [Mn,if_neg (by omega)]; exact hp0,(fun p hp=>by
    rcases Tw hp with hp|rfl
    ·exact hwf p hp
    ·exact w1),⟨x,y,z,d⟩,⟨x,y,z,d⟩::P,⟨X,Y,Z,V⟩::Q,by dsimp only; rw [Zci (by omega),hd],by rw [Tv,hPQ],hgo⟩,by dsimp only; omega⟩
  ·rw [if_neg hE] at hgo
   rw [<-hgo] at hR
   dsimp only at hR
   subst hR
   repeat'(first|refine wk3 ?_|(refine wk2 ?_ ?_<;>intro _)|refine wk4 ?_|fail);all_goals(conv=>whnf)
   all_goals exact Zf rfl rfl
 | zero =>
  have hpe:pts=pnt (fx,fy,fz)::P++[pnt (tx,ty,tz)]:=by
   rw [Tv,hPQ,<-hd]
   clear hk0 hwf lp hpl
   cases pts with
   | nil=>cases hp0
   | cons p r=>cases hp0; rfl
  rw [List.take_zero,List.reverse_nil,goP] at hgo
  rw [<-hgo] at hR
  dsimp only at hR
  rw [<-hpe] at hR
  have hPl:P.length=ns.length:=by
   have:=congrArg List.length hpe
   simp at this; omega
  clear hgo hlt' hd hPQ Q to
  repeat'(first|refine wk3 ?_|(refine wk2 ?_ ?_<;>intro _)|refine wk4 ?_|fail);all_goals(conv=>whnf)
  refine Zz (S:=Nat × Int) (fun t=>ns.length+1-t.1) (fun t=>[(2,.isl 1 (nl ns)),(3,.ptr 0 0 0),(4,.ptr 1 0 0),(6,.ptr 2 0 0),(8,.isl 3 (imC (im1 h s) (fx,fy,fz) ns ns.length)),(9,I (nl ns).length),(10,.asl 3 0 (Qa Qb (((nl ns).length:Int)+2)).toNat),(75,I (Qa Qb (((nl ns).length:Int)+1))),(76,I t.2)])
   (fun t=>[(3,.row 4 (pts.map ptc) true true),(2,.row 3 [[.nils,.nils,I 0]] true false),(1,.row 7 [[I fx,I fy,I fz,I tx,I ty,I tz,I n]] true false),(0,.row 11 [stgL h s] true false)]) 18 18
   (fun t=>t.2=t.1/\t.1<=ns.length+1/\chkW (wP h s) (pts.drop t.1)=chkW (wP h s) pts) (0,0) ⟨rfl,Qm _,rfl⟩ (Qd _) [] rfl (kps) (kps) ?_
  rintro ⟨k,i⟩ ⟨hi1,hk1,hck⟩
  dsimp only at hi1 hk1 hck ⊢
  subst hi1
  by_cases hlt:k<ns.length+1
  ·have b0:((k:Nat):Int)<Qa Qb (((nl ns).length:Int)+1):=by rw [x1]; omega
   have b2:Qa Qb (((k:Nat):Int)+1)=((k+1:Nat):Int):=by rw [W_eq (by omega) (by omega)]; omega
   have e3:(pts.map ptc)[0+((k:Nat):Int).toNat]?=some (ptc (pts[k]'(by omega))):=by rw [Rj,Rv]; exact Zgn (by omega)
   have e4:(pts.map ptc)[0+(Qa Qb (((k:Nat):Int)+1)).toNat]?=some (ptc (pts[k+1]'(by omega))):=by rw [b2,Rj,Rv]; exact Zgn (by omega)
   rw [Zof (by omega)] at hck
   have v1:=Zqa (h:=h) (s:=s) (hwf (pts[k]'(by omega)) (Qs _)) (hwf (pts[k+1]'(by omega)) (Qs _))
   have hw:wP h s (pts[k]'(by omega)) (pts[k+1]'(by omega))=(decide (wayE h s (pts[k]'(by omega)) (pts[k+1]'(by omega))=0)&&Vt h s (pts[k]'(by omega)) (pts[k+1]'(by omega))):=rfl
   rw [hw] at hck
   clear hw
   generalize (pts[k]'(by omega))=p1 at *
   generalize (pts[k+1]'(by omega))=p2 at *
   generalize wayE h s p1 p2=u at *
   generalize Vt h s p1 p2=f at *
   obtain ⟨x1,y1,z1,d1⟩:=p1
   obtain ⟨x2,y2,z2,d2⟩:=p2
   refine bs.av (sx:=nos) hk0 ?_
   cases hb:(decide (u=0)&&f) with
   | true =>
    rw [hb,Wa] at hck
    repeat'(first|refine wk3 ?_|(refine wk2 ?_ ?_<;>intro _)|refine wk4 ?_|fail);all_goals(conv=>whnf)
    all_goals first
     | (exfalso; clear hk0; simp_all; done)
     | exact Qo ⟨(k+1,_),[],rfl,kps,kps,⟨b2,hlt,hck⟩,by dsimp only; omega⟩
   | false =>
    rw [hb,Mj] at hck
    rw [<-hck,if_neg (by simp)] at hR
    subst hR
    repeat'(first|refine wk3 ?_|(refine wk2 ?_ ?_<;>intro _)|refine wk4 ?_|fail);all_goals(conv=>whnf)
    all_goals first
     | exact Zf rfl rfl
     | (exfalso; clear hk0; simp_all; done)
  ·have hke:k=ns.length+1:=by omega
   subst hke
   rw [Zog (by omega)] at hck
   rw [<-hck,if_pos rfl] at hR
   subst hR
   refine Awp.froz [3] rfl (bs.av (sx:=nos) hk0 ?_)
   conv=>whnf
   repeat'(first|refine wk3 ?_|(refine wk2 ?_ ?_<;>intro _)|refine wk4 ?_|fail);all_goals(conv=>whnf)
   have y1:Zeb (some (I (Qa Qb (((nl ns).length:Int)+1)))) (Qa Qb (((nl ns).length:Int)+2)).toNat=some (ns.length+1):=by
    show cond (decide (0<=Qa Qb (((nl ns).length:Int)+1))) (some (Qa Qb (((nl ns).length:Int)+1)).toNat) none=_
    rw [x1,decide_eq_true (by omega)]
    simp only [cond_true,Qe]; omega
   have cl:clT [.isl 4 (Fl (ns.length+1-Sl 1) (Fm (0+Sl 1) (pts.map ptc)))]=some ⟨.isl 4 ((P.map tup4).map hp4),[]⟩:=by
    have e:Fl (ns.length+1-Sl 1) (Fm (0+Sl 1) (pts.map ptc))=(P.map tup4).map hp4:=by
     rw [hpe,Tv,Sz,show (0+Sl 1)=1 from rfl,List.drop_succ_cons,List.drop_zero,Oh,show ns.length+1-Sl 1=(P.map ptc).length by rw [Ss,hPl]; omega,List.take_left,List.map_map]
     rfl
    rw [e]
    exact Ycp (by rw [Ss]; omega)
   have e5:(imC (im1 h s) (fx,fy,fz) ns ns.length)[((nl ns).length:Int).toNat]?=some (pl3 (imA (im1 h s) (fx,fy,fz) ns ns.length)):=by
    rw [Rj,ll]; exact Zlq _ _ _ _
   refine Zk3 rfl rfl rfl rfl rfl rfl y1 (by omega) (by rw [x2]; omega) (by rw [x2]; omega) ?_
   conv=>whnf
   generalize imA (im1 h s) (fx,fy,fz) ns ns.length=q at *
   obtain ⟨qx,qy,qz⟩:=q
   repeat'(first|refine wk3 ?_|(refine wk2 ?_ ?_<;>intro _)|refine wk4 ?_|fail);all_goals(conv=>whnf)
   exact Zf rfl rfl
theorem Zn7 {h:Hal} {s:Stg} (g:Sit h s) (e0:serr h s=0) {n:Int} (hn:0<=n/\n<nsur h) {q:Pl3} (hq:Near 45000 q) {to:Pt} (hto:Xc to=0) :
  CrOk (Zh h s n) ⟨n,q.1,q.2.1,q.2.2,to⟩/\SK h n/\crsA h s ⟨n,q.1,q.2.1,q.2.2,to⟩=Zaz (Zho h n) (Zh h s n) ⟨n,q.1,q.2.1,q.2.2,to⟩ /\
  ((crsA h s ⟨n,q.1,q.2.1,q.2.2,to⟩).2=0->Xc (crsA h s ⟨n,q.1,q.2.1,q.2.2,to⟩).1=0/\valN (Zh h s n).1 (crsA h s ⟨n,q.1,q.2.1,q.2.2,to⟩).1.x (crsA h s ⟨n,q.1,q.2.1,q.2.2,to⟩).1.y (crsA h s ⟨n,q.1,q.2.1,q.2.2,to⟩).1.z=(Zh h s n).2*(crsA h s ⟨n,q.1,q.2.1,q.2.2,to⟩).1.d):=by
 have hi:=Zo3 hn.1 hn.2
 obtain ⟨⟨b1,b2⟩,b3⟩:=Zfo g hi
 obtain ⟨h1,h2,h3⟩:=hq
 obtain ⟨p1,p2,_,p4⟩:=Zgo hto
 unfold ptIn at p4
 simp only [Qc,within_iff] at p4
 have ho:CrOk (Zh h s n) ⟨n,q.1,q.2.1,q.2.2,to⟩:=⟨b1,b2,b3,h1,h2,h3,p1,p2,p4.1.1,p4.1.2,p4.2⟩
 have he:crsE h s ⟨n,q.1,q.2.1,q.2.2,to⟩=0:=by
  unfold crsE surE Vo img
  rw [if_pos e0,if_pos (within_iff.2 (by dsimp only; omega)),if_pos rfl,if_pos (by simp only [Qc,within_iff]; omega)]
  exact hto
 have hA:crsA h s ⟨n,q.1,q.2.1,q.2.2,to⟩=Zaz (Za1 h n) (Zh h s n) ⟨n,q.1,q.2.1,q.2.2,to⟩:=by unfold crsA; rw [if_pos he]
 refine ⟨ho,hi,by rw [hA]; exact Zyz (c:=⟨n,q.1,q.2.1,q.2.2,to⟩) g hi ho,fun hz=>?_⟩
 rw [hA] at hz ⊢
 refine ⟨Zpz (c:=⟨n,q.1,q.2.1,q.2.2,to⟩) g hi ho hz,?_⟩
 unfold Zaz at hz ⊢
 split at hz
 ·cases hz
 ·rename_i hs
  split at hz
  ·rename_i hw
   split at hz
   ·cases hz
   ·rename_i hd
    rw [if_neg hs,if_pos hw,if_neg hd]
    exact Zfb ho hs
  ·cases hz
theorem Yca (a b c:Int):Ta (Ta a.natAbs b.natAbs) (Ta c.natAbs (1:Int).natAbs)=1:=by
 rw [show (1:Int).natAbs=1 from rfl,Gx,Gx]
theorem Zfm {q:Pl3} (h:Near 5000 q):Xc (pnt q)=0:=by
 obtain ⟨h1,h2,h3⟩:=h
 unfold Xc pnt g4 ptIn
 dsimp only
 rw [Yca,if_neg (by simp),if_neg (by omega),if_pos (by simp only [Qc,within_iff]; omega)]
theorem Yc9 {h:Hal} {ns:List Int} (hi:∀ n∈ns,0<=n/\n<nsur h):∀ n∈ns,SK h n:=fun n hn=>Zo3 (hi n hn).1 (hi n hn).2
theorem Zat {m k:Int} (h:k<=m) {p:Pl3} (hp:Near k p):Near m p:=by
 obtain ⟨h1,h2,h3⟩:=hp
 exact ⟨by omega,by omega,by omega⟩
abbrev Pt4:=Int × Int × Int × Int
def eqP4 (a b:Pt4):Bool:=decide (a.1=b.1)&&(decide (a.2.1=b.2.1)&&(decide (a.2.2.1=b.2.2.1)&&decide (a.2.2.2=b.2.2.2)))
def eqP:List Pt4->List Pt4->Bool
 | [],[]=>true
 | x::a,y::b=>eqP4 x y&&eqP a b
 | _,_=>false
theorem Zyl {a b:Pt4}:eqP4 a b=true↔a=b:=by
 obtain ⟨a1,a2,a3,a4⟩:=a
 obtain ⟨b1,b2,b3,b4⟩:=b
 simp [eqP4]
theorem Zvv:∀ {a b:List Pt4},eqP a b=true↔a=b
 | [],[]=>by simp [eqP]
 | x::a,y::b=>by rw [eqP,Qc,Zyl,Zvv]; simp
 | [],y::b=>by simp [eqP]
 | x::a,[]=>by simp [eqP]
def same (a b:Pth):Bool:=eqN a.ss b.ss&&(decide (a.sq=b.sq)&&eqP a.ps b.ps)
theorem same_iff {a b:Pth}:same a b=true↔a=b:=by
 obtain ⟨a1,a2,a3⟩:=a
 obtain ⟨b1,b2,b3⟩:=b
 unfold same
 rw [Qc,Qc,Zvw,Zvv,decide_eq_true_eq]
 simp only [Pth.mk.injEq]
 exact ⟨fun ⟨h1,h2,h3⟩=>⟨h1,h3,h2⟩,fun ⟨h1,h2,h3⟩=>⟨h1,h3,h2⟩⟩
structure AskOk (h:Hal) (s:Stg) (a:Ask):Prop where
 e0:serr h s=0
 f:Near 5000 (a.fx,a.fy,a.fz)
 t:Near 5000 (a.tx,a.ty,a.tz)
 fi:Ub h ⟨a.fx,a.fy,a.fz,1⟩=true
 ti:Ub h ⟨a.tx,a.ty,a.tz,1⟩=true
 ne:a.same=false
 n:0<=a.n/\a.n<=4
theorem Xz {h:Hal} {s:Stg} {a:Ask} (e:askE h s a=0):AskOk h s a:=by
 unfold askE at e
 split at e
 ·rename_i e0
  simp only [fstL] at e
  by_cases c1:plaE h a.fx a.fy a.fz=0
  rotate_left
  ·rw [if_pos (fun k=>c1 k)] at e; exact absurd e c1
  by_cases c2:plaE h a.tx a.ty a.tz=0
  rotate_left
  ·rw [if_neg (fun k=>k c1),if_pos (fun k=>c2 k)] at e; exact absurd e c2
  by_cases c3:unl (!a.same) 11=0
  rotate_left
  ·rw [if_neg (fun k=>k c1),if_neg (fun k=>k c2),if_pos (fun k=>c3 k)] at e; exact absurd e c3
  by_cases c4:unl (within a.n 0 4) 2=0
  rotate_left
  ·rw [if_neg (fun k=>k c1),if_neg (fun k=>k c2),if_neg (fun k=>k c3),if_pos (fun k=>c4 k)] at e; exact absurd e c4
  refine ⟨e0,(Zdb c1).1,(Zdb c2).1,(Zdb c1).2,(Zdb c2).2,?_,?_⟩
  ·cases hs:a.same with
   | false=>rfl
   | true=>rw [hs] at c3; cases c3
  ·cases hw:within a.n 0 4 with
   | true=>exact within_iff.1 hw
   | false=>rw [hw] at c4; cases c4
 ·rename_i e0; exact absurd e e0
theorem Zdy {h:Hal} {s:Stg} {q0 q1:Pl3} {ns:List Int} {p:Pth} (e:Yr h s q0 q1 ns=some p):p.ss=ns:=by
 rw [Zca] at e
 split at e
 ·cases e
 ·split at e
  ·cases e; rfl
  ·cases e
theorem Zvb {f:Int->Pl3->Pt->Pt × Int}:∀ {l:List (Int × Pl3)} {to:Pt} {P R:List Pt},goP f l to P=some R->R.length=l.length+P.length
 | [],_,_,_,h=>by rw [goP,Qe] at h; subst h; simp
 | (a,q)::r,to,P,R,h=>by
  rw [goP] at h
  split at h
  ·have:=Zvb h
   rw [this,Sf,Sf]; omega
  ·cases h
theorem Zqp {h:Hal} {s:Stg} {q0 q1:Pl3} {ns:List Int} {p:Pth} (e:Yr h s q0 q1 ns=some p):p.ps.length=ns.length:=by
 rw [Zca] at e
 split at e
 ·cases e
 ·rename_i P hP
  have:=Zvb hP
  rw [List.length_reverse,Zad,List.length_nil] at this
  split at e
  ·cases e; rw [Ss]; exact this
  ·cases e
abbrev qF (a:Ask):Pl3:=(a.fx,a.fy,a.fz)
abbrev qT (a:Ask):Pl3:=(a.tx,a.ty,a.tz)
end Go.Proofs.YtdmidbkelinnjaaGreat
