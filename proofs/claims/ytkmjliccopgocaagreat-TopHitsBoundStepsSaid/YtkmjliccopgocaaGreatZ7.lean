/- A part of the proof: lemmas. -/
import Derived.Test.YtkmjliccopgocaaGreatZ6
import Derived.Laws.FloatArith
import Derived.SizedLaws
set_option linter.unusedVariables false
set_option linter.unusedSimpArgs false
set_option maxRecDepth 100000
set_option maxHeartbeats 16000000
open Bool renaming and_eq_true->Qc
open Go.Cell renaming ok->Gm,okWide->Lh
open Go.DataW renaming TrodAll->Oo,trod->Pq,weights->Jm,weightsAll->Nl,weightsEach->Px
open Go.Lit renaming float->Fq
open Go.Value renaming okWide->Mr
open List renaming all_eq_true->Qs,append_nil->Su,getElem?_drop->Re,getElem?_eq_some_iff->Qh,getElem?_map->Rz,getElem?_take->Th,getElem_mem->Qq,mem_append->Sc,mem_map->Wa,mem_range->Ss,range->Tq
open Nat renaming add_zero->Ty,div_eq_of_lt->Od,div_lt_of_lt_mul->Nx,eq_of_beq_eq_true->Qf,le_refl->Qd,log2_self_le->Hz,lt_of_lt_of_le->Rp,min_eq_left->Wy,min_eq_right->Hy,mod_eq_of_lt->Ph,mod_lt->Pf,mul_comm->Ts,mul_le_mul_right->Rd,mul_lt_mul_of_pos_right->Wn,one_shiftLeft->Hp,pow_add->Ny,pow_le_pow_right->Wg,pow_pos->Je,shiftLeft_eq->Pj,shiftLeft_zero->Po,sub_zero->Tu,zero_add->Sg
open Option.some renaming injEq->Qe
set_option maxRecDepth 20000
namespace Go.Sx
open Go Ieee
theorem Zdj {n:Nat}:∀ (todo root:Nat),root*root<=n->Datum.rootFrom n todo root*Datum.rootFrom n todo root<=n
 | 0,root,h=>h
 | todo+1,root,h=>by
  unfold Datum.rootFrom
  dsimp only
  split
  ·rename_i h2; exact Zdj todo _ h2
  ·exact Zdj todo _ h
theorem Zo2:double.signWeight=2 ^ 63:=rfl
theorem Zjs:double.binade=2 ^ 52:=rfl
theorem Zo3:double.leastPlace = -1074:=rfl
theorem Zjr:double.infRung=2047*2 ^ 52:=rfl
theorem log2_lt {m k:Nat} (h:m<2 ^ k) (h0:0<m):m.log2<k:=(Nat.log2_lt (by omega)).2 h
theorem Zjf (m:Nat):m<2 ^ (m.log2+1):=by
 by_cases h:m=0
 ·subst h; decide
 ·exact (Nat.log2_lt h).1 (by omega)
theorem Zpt {R:Nat} (h:R<2047*2 ^ 52):∃ m i,double.read R = .number false m i/\m<2 ^ 53/\(i = -1074\/(i:Int)=(R / 2 ^ 52:Nat)-1075):=by
 unfold Format.read
 have e1:(R / double.signWeight%2==1)=false:=by rw [Zo2,Od (by omega)]; rfl
 have e2:R%double.signWeight=R:=by rw [Zo2]; exact Ph (by omega)
 rw [e1,e2,Zjs,Zjr,Zo3]
 dsimp only
 by_cases h1:R<2 ^ 52
 ·rw [if_pos h1]; exact ⟨R,-1074,rfl,by omega,.inl rfl⟩
 ·rw [if_neg h1,if_pos h]
  refine ⟨_,_,rfl,?_,.inr ?_⟩
  ·have:=Pf R (show 0<2 ^ 52 by decide); omega
  ·have:1<=R / 2 ^ 52:=(Nat.le_div_iff_mul_le (by decide)).2 (by omega)
   omega
theorem Znj {m:Nat} {i:Int} (hm:m<2 ^ 53) (hi:i <= -25):Toward.cut .zero false (m <<< i.toNat) (-i).toNat<=2 ^ 28:=by
 have e0:i.toNat=0:=by omega
 rw [e0,Po]
 unfold Toward.cut
 dsimp only
 rw [Bool.toNat_false,Ty,Hp]
 have hl:=Zjf m
 by_cases h:(-i).toNat<=m.log2+2
 ·rw [Wy h]
  have h25:2 ^ 25<=2 ^ (-i).toNat:=Wg (by decide) (by omega)
  have:m / 2 ^ (-i).toNat<=m / 2 ^ 25:=Nat.div_le_div_left h25 (by decide)
  have:m / 2 ^ 25<2 ^ 28:=Nx (by omega)
  omega
 ·rw [Hy (by omega)]
  have:m<2 ^ (m.log2+2):=Rp hl (Wg (by decide) (by omega))
  rw [Od this]
  omega
theorem Zum {m:Nat} {i:Int} (hm:m<2 ^ 53) (hi:i <= -25):∃ r:Nat,(Datum.number false m i).toInt .zero=some (r:Int)/\r<=2 ^ 28:=by
 refine ⟨Toward.cut .zero false (m <<< i.toNat) (-i).toNat,?_,Znj hm hi⟩
 simp only [Datum.toInt,Datum.integral,signed,Bool.false_eq_true,if_false,Po]
theorem Znk {mag:Nat} {place last:Int} (hlast:last=place+mag.log2-52\/(place+mag.log2-52<=last)):Toward.cut .even false (mag <<< (place-last).toNat) (last-place).toNat<=2 ^ 53:=by
 have hle:place+mag.log2-52<=last:=by omega
 have hl:=Zjf mag
 unfold Toward.cut
 dsimp only
 by_cases h:place<=last
 ·have e0:(place-last).toNat=0:=by omega
  rw [e0,Po,Hp]
  have hlow:mag / 2 ^ min (last-place).toNat (mag.log2+2)<2 ^ 53:=by
   by_cases h2:(last-place).toNat<=mag.log2+2
   ·rw [Wy h2]
    refine Nx (Rp hl ?_)
    rw [<-Ny]
    exact Wg (by decide) (by omega)
   ·rw [Hy (by omega),Od (Rp hl (Wg (by decide) (by omega)))]
    decide
  have:∀ b:Bool,b.toNat<=1:=fun b=>by cases b<;>decide
  have:=this (decide (2 ^ min (last-place).toNat (mag.log2+2)<2*(mag%2 ^ min (last-place).toNat (mag.log2+2)))||2 ^ min (last-place).toNat (mag.log2+2)==2*(mag%2 ^ min (last-place).toNat (mag.log2+2))&&mag / 2 ^ min (last-place).toNat (mag.log2+2)%2==1)
  omega
 ·have e0:(last-place).toNat=0:=by omega
  rw [e0,Nat.zero_min,Po,Nat.div_one,Nat.mod_one,Pj]
  have:mag*2 ^ (place-last).toNat<2 ^ 53:=by
   refine Rp (Wn hl (Je (by decide))) ?_
   rw [<-Ny]
   exact Wg (by decide) (by omega)
  simp
  omega
theorem Zqw {mag:Nat} {place:Int} (h1:place+mag.log2<=26):∃ r:Nat,(double.read (double.nearest false mag place)).toInt .zero=some (r:Int)/\r<=2 ^ 28:=by
 by_cases h0:mag=0
 ·subst h0
  have e0:double.nearest false 0 place=0:=by unfold Format.nearest; rw [if_pos rfl]; rfl
  rw [e0]
  exact ⟨0,rfl,by decide⟩
 ·unfold Format.nearest
  rw [if_neg h0]
  have e:max (place+mag.log2-double.fractionBits) double.leastPlace=max (place+mag.log2-52) (-1074):=rfl
  dsimp only
  rw [e,Zo3,Zjs,Zjr]
  have hk:=Znk (mag:=mag) (place:=place) (last:=max (place+mag.log2-52) (-1074)) (.inr (by omega))
  generalize hK:Toward.cut .even false (mag <<< (place-max (place + ↑mag.log2-52) (-1074)).toNat) (max (place + ↑mag.log2-52) (-1074)-place).toNat=K at *
  have hlast:max (place+(mag.log2:Int)-52) (-1074) <= -26:=by omega
  generalize max (place+(mag.log2:Int)-52) (-1074)=last at *
  have hlast2:(last - -1074).toNat<=1048:=by omega
  have hR:(last - -1074).toNat * 2 ^ 52+K<2047*2 ^ 52:=by omega
  rw [Wy (by omega)]
  show ∃ r:Nat,(double.read ((last - -1074).toNat * 2 ^ 52+K)).toInt .zero=some (r:Int)/\r<=2 ^ 28
  obtain ⟨m,i,hr,hm,hi⟩:=Zpt hR
  rw [hr]
  refine Zum hm ?_
  have:((last - -1074).toNat * 2 ^ 52+K) / 2 ^ 52<=(last - -1074).toNat+2:=by
   rw [Ts,Nat.mul_add_div (by decide)]
   have:K / 2 ^ 52<=2:=by
    have:K / 2 ^ 52<=2 ^ 53 / 2 ^ 52:=Nat.div_le_div_right hk
    simpa using this
   omega
  omega
theorem Zpu {n:Nat} (h0:0<n) (h1:n<2 ^ 53):double.read (double.nearest false n 0) = .number false (n <<< (52-n.log2)) ((n.log2:Int)-52):=by
 have hL:=log2_lt h1 h0
 have hlo:2 ^ n.log2<=n:=Hz (by omega)
 have hhi:=Zjf n
 unfold Format.nearest
 rw [if_neg (by omega)]
 have e:max ((0:Int)+n.log2-double.fractionBits) double.leastPlace=(n.log2:Int)-52:=by
  show max ((0:Int)+n.log2-52) (-1074)=_
  omega
 dsimp only
 rw [e,Zo3,Zjs,Zjr]
 have hc:Toward.cut .even false (n <<< ((0:Int)-((n.log2:Int)-52)).toNat) (((n.log2:Int)-52)-0).toNat=n <<< (52-n.log2):=by
  rw [show ((0:Int)-((n.log2:Int)-52)).toNat=52-n.log2 by omega,show (((n.log2:Int)-52)-0).toNat=0 by omega]
  unfold Toward.cut
  dsimp only
  rw [Nat.zero_min,Po,Nat.div_one,Nat.mod_one]
  simp
 rw [hc]
 have hm1:2 ^ 52<=n <<< (52-n.log2):=by
  rw [Pj]
  calc 2 ^ 52=2 ^ n.log2*2 ^ (52-n.log2):=by rw [<-Ny]; congr 1; omega
   _<=n*2 ^ (52-n.log2):=Rd _ hlo
 have hm2:n <<< (52-n.log2)<2 ^ 53:=by
  rw [Pj]
  calc n*2 ^ (52-n.log2)<2 ^ (n.log2+1)*2 ^ (52-n.log2):=Wn hhi (Je (by decide))
   _=2 ^ 53:=by rw [<-Ny]; congr 1; omega
 generalize n <<< (52-n.log2)=m at *
 rw [Wy (by omega)]
 have eT:(((n.log2:Int)-52) - -1074).toNat=n.log2+1022:=by omega
 rw [eT]
 show double.read ((n.log2+1022)*2 ^ 52+m)=_
 unfold Format.read
 have hA:¬ (n.log2+1022)*2 ^ 52+m<2 ^ 52:=by omega
 have hB:(n.log2+1022)*2 ^ 52+m<2047*2 ^ 52:=by omega
 have e3:((n.log2+1022)*2 ^ 52+m)%2 ^ 52=m-2 ^ 52:=by omega
 have e4:((n.log2+1022)*2 ^ 52+m) / 2 ^ 52=n.log2+1023:=by omega
 have e5:(n.log2+1022)*2 ^ 52+m<2 ^ 63:=by omega
 generalize (n.log2+1022)*2 ^ 52+m=R at *
 have e1:(R / double.signWeight%2==1)=false:=by rw [Zo2,Od e5]; rfl
 have e2:R%double.signWeight=R:=by rw [Zo2]; exact Ph e5
 rw [e1,e2,Zjs,Zjr,Zo3]
 dsimp only
 rw [if_neg hA,if_pos hB,e3,e4]
 have f1:2 ^ 52+(m-2 ^ 52)=m:=by omega
 have f2:(-1074:Int)+((n.log2+1023-1:Nat):Int)=(n.log2:Int)-52:=by omega
 rw [f1,f2]
theorem Zuq {n:Int} (h0:0<=n) (h1:n<9007199254740992):∃ (y:Nat) (r:Int),FloatKind.f64.format.sqrt (floatOfInt .f64 n)=some y/\floatToIntVal .f64 y .i64=some r/\0<=r/\r<=268435456:=by
 have key:∃ (d:Datum),(double.read (double.nearest false n.natAbs 0)).root 54=some d/\∃ r:Nat,(double.read (double.write d)).toInt .zero=some (r:Int)/\r<=2 ^ 28:=by
  by_cases hz:n=0
  ·subst hz
   exact ⟨.number false 0 (-1074),rfl,0,rfl,by decide⟩
  ·have hn0:0<n.natAbs:=by omega
   have hn1:n.natAbs<2 ^ 53:=by omega
   rw [Zpu hn0 hn1]
   have hL:=log2_lt hn1 hn0
   generalize hm:n.natAbs <<< (52-n.natAbs.log2)=m
   have hm2:m<2 ^ 53:=by
    have hhi:=Zjf n.natAbs
    rw [<-hm,Pj]
    calc n.natAbs*2 ^ (52-n.natAbs.log2)<2 ^ (n.natAbs.log2+1)*2 ^ (52-n.natAbs.log2):=Wn hhi (Je (by decide))
     _=2 ^ 53:=by rw [<-Ny]; congr 1; omega
   have hm1:2 ^ 52<=m:=by
    have hlo:2 ^ n.natAbs.log2<=n.natAbs:=Hz (by omega)
    rw [<-hm,Pj]
    calc 2 ^ 52=2 ^ n.natAbs.log2*2 ^ (52-n.natAbs.log2):=by rw [<-Ny]; congr 1; omega
     _<=n.natAbs*2 ^ (52-n.natAbs.log2):=Rd _ hlo
   have hlog:m.log2=52:=by
    have a1:=log2_lt hm2 (by omega)
    have a2:52<=m.log2:=(Nat.le_log2 (by omega)).2 hm1
    omega
   unfold Datum.root
   dsimp only
   rw [if_neg (by omega),if_neg (by decide),hlog]
   refine ⟨_,rfl,?_⟩
   unfold Format.write
   dsimp only
   generalize hmore:2*54-52+(((n.natAbs.log2:Int)-52-((2*54-52:Nat):Int))%2).toNat=more
   have hmore2:56<=more/\more<=57:=by omega
   generalize hw:Datum.rootFrom (m <<< more) ((m <<< more).log2 / 2+1) 0=whole
   have hwle:whole*whole<=m <<< more:=by rw [<-hw]; exact Zdj _ _ (by simp)
   have hsm:m <<< more<2 ^ 110:=by
    rw [Pj]
    calc m*2 ^ more<2 ^ 53*2 ^ more:=Wn hm2 (Je (by decide))
     _<=2 ^ 53*2 ^ 57:=Nat.mul_le_mul_left _ (Wg (by decide) hmore2.2)
     _=2 ^ 110:=by decide
   have hwl:whole<2 ^ 55:=by
    rcases Nat.lt_or_ge whole (2 ^ 55) with h|h
    ·exact h
    ·have:=Nat.mul_le_mul h h
     omega
   refine Zqw ?_
   have hb:∀ b:Bool,b.toNat<=1:=fun b=>by cases b<;>decide
   have hb:=hb (whole*whole != m <<< more)
   generalize (whole*whole != m <<< more).toNat=c at *
   by_cases hz:2*whole+c=0
   ·rw [hz]; have:Nat.log2 0=0:=by decide
    rw [this]; omega
   ·have:=log2_lt (m:=2*whole+c) (k:=56) (by omega) (by omega)
    omega
 obtain ⟨d,hd,r,hr,hrb⟩:=key
 refine ⟨double.write d,(r:Int),?_,?_,by omega,by omega⟩
 ·show ((double.read (double.write (.number (decide (n<0)) n.natAbs 0))).root 54).map double.write=_
  rw [decide_eq_false (by omega)]
  show ((double.read (double.nearest false n.natAbs 0)).root 54).map double.write=_
  rw [hd]; rfl
 ·unfold floatToIntVal
  show (match (double.read (double.write d)).toInt .zero with
   | some n=>if IntKind.i64.min<=n/\n<=IntKind.i64.max then some n else none
   | none=>none)=_
  rw [hr]
  dsimp only
  rw [if_pos (by
   have e1:IntKind.i64.min = -9223372036854775808:=by decide
   have e2:IntKind.i64.max=9223372036854775807:=by decide
   rw [e1,e2]; omega)]
open Go Go.RowKit
section
variable {P:Program} {r:Locs} {I:Imm} {w:World} {D:Nat->Prop}
def NS (a b:AV):Prop:=a=b\/(a = .nils/\∃ es,b = .isl es [])
theorem NS.vr {a b:AV} (h:NS a b) {v:Value} (hv:VR r I w D a v):VR r I w D b v:=by
 rcases h with rfl|⟨rfl,es,rfl⟩
 ·exact hv
 ·cases hv; exact .isl0 _ _ _ _
def NSL:List AV->List AV->Prop
 | [],[]=>True
 | a::l,b::m=>NS a b/\NSL l m
 | _,_=>False
theorem NSL.get:∀ {l m:List AV},NSL l m->l.length=m.length/\∀ (i:Nat) (b:AV),m[i]?=some b->∃ a,l[i]?=some a/\NS a b
 | [],[],_=>⟨rfl,fun i b h=>by simp at h⟩
 | a::l,b::m,h=>by
  simp only [NSL] at h
  obtain ⟨h1,h2⟩:=NSL.get h.2
  refine ⟨by simp [h1],fun i b' hi=>?_⟩
  cases i with
  | zero=>simp at hi; subst hi; exact ⟨a,rfl,h.1⟩
  | succ i=>simpa using h2 i b' (by simpa using hi)
 | [],_::_,h=>by simp [NSL] at h
 | _::_,[],h=>by simp [NSL] at h
theorem NSL.vr {l m:List AV} (h:NSL l m) {v:Value} (hv:VR r I w D (.agg l) v):VR r I w D (.agg m) v:=by
 obtain ⟨h1,h2⟩:=h.get
 cases hv with
 | agg _ _ vs h0 g =>
  refine .agg _ _ _ (h0.trans h1) fun i c x hc hx=>?_
  obtain ⟨a,ha,hn⟩:=h2 i c hc
  exact hn.vr (g i a x ha hx)
def NA (a b:AV):Prop:=NS a b\/∃ l m,a = .agg l/\b = .agg m/\NSL l m
theorem NA.vr {a b:AV} (h:NA a b) {v:Value} (hv:VR r I w D a v):VR r I w D b v:=by
 rcases h with h|⟨l,m,rfl,rfl,h⟩
 ·exact h.vr hv
 ·exact h.vr hv
theorem NA.rfl {a:AV}:NA a a:=.inl (.inl _root_.rfl)
def NAL:List AV->List AV->Prop
 | [],[]=>True
 | a::l,b::m=>NA a b/\NAL l m
 | _,_=>False
theorem NAL.get:∀ {l m:List AV},NAL l m->l.length=m.length/\∀ (i:Nat) (b:AV),m[i]?=some b->∃ a,l[i]?=some a/\NA a b
 | [],[],_=>⟨_root_.rfl,fun i b h=>by simp at h⟩
 | a::l,b::m,h=>by
  simp only [NAL] at h
  obtain ⟨h1,h2⟩:=NAL.get h.2
  refine ⟨by simp [h1],fun i b' hi=>?_⟩
  cases i with
  | zero=>simp at hi; subst hi; exact ⟨a,_root_.rfl,h.1⟩
  | succ i=>simpa using h2 i b' (by simpa using hi)
 | [],_::_,h=>by simp [NAL] at h
 | _::_,[],h=>by simp [NAL] at h
theorem PCall.nilArgs {f:FuncId} {l m:List AV} {res:PRes} (h:PCall P f m res) (hn:NAL l m):PCall P f l res:=by
 obtain ⟨h1,h2⟩:=hn.get
 refine ⟨h.1,fun I w vs hI hv=>h.2 I w vs hI ⟨hv.1.trans h1,fun i c v hc hv'=>?_⟩⟩
 obtain ⟨a,ha,hn⟩:=h2 i c hc
 exact hn.vr (hv.2 i a v ha hv')
end
variable {P:Program} {N B l:Nat} {Ig:Imm} {JX:Zs->(Nat->Prop)->World->Prop}
theorem IS.rename {n0:Nat} {z:Zs} {env env' : Env} {σ σ' : St} {a:Act} {w:World} (S:IS N B Ig JX z env σ a w) (hr:Ren n0 env σ env' σ'):IS N B Ig JX z env' σ' a w:=by
 obtain ⟨⟨r,D,O,H,hO,E,hj⟩,hd⟩:=S
 obtain ⟨r2,D2,H2,_,e2⟩:=H.rename (N:=N) hr
 exact ⟨⟨r2,D2,O,H2,hO,e2 _ E,hj⟩,hd⟩
theorem AwpI.rens {c:Code} {env:Env} {σ:St} {z:Zs} {Q Q' : IQ} (h:AwpI P N B Ig JX c env σ z Q) (hq:∀ e env σ z,Q e env σ z->(∃ n0 env' σ',Ren n0 env σ env' σ'/\Q' e env' σ' z)\/Q' e env σ z):AwpI P N B Ig JX c env σ z Q' :=
 fun a w S=>Code.wpIn_mono (fun e a' w' ⟨env1,σ1,z1,q1,s1⟩=>by
  rcases hq _ _ _ _ q1 with ⟨n0,env2,σ2,hf,q2⟩|q2
  ·exact ⟨env2,σ2,z1,q2,s1.rename hf⟩
  ·exact ⟨env1,σ1,z1,q2,s1⟩) (h a w S)
theorem Zsq {S:Type} (μ:S->Nat) (E:S->Env) (Y:S->List (Nat × ABlk)) (Z:S->Zs) (n0 n1:Nat) {c:Code} {Q:IQ} (G:S->Prop)
  (step:∀ s,G s->AwpI P N B Ig JX c (E s) ⟨Y s,n1⟩ (Z s) (seqI (fun env' σ' z'=>∃ s' fl,(okF n0 fl&&Zji n0 fl (Y s')&&imgF n0 fl&&Nat.ble n0 n1)=true/\RenE (fOf fl) n1 env' (E s')/\RenH (fOf fl) n1 σ'.get (Y s')/\G s'/\μ s'<μ s/\z'=Z s') Q))
  (s:S) (hs:G s) {env:Env} {σ:St} {z:Zs} (fl0:List (Nat × Nat)) (h1:(okF n0 fl0&&Zji n0 fl0 (Y s)&&imgF n0 fl0&&Nat.ble n0 n1)=true) (h2:RenE (fOf fl0) n1 env (E s)) (h3:RenH (fOf fl0) n1 σ.get (Y s)) (hz:z=Z s):AwpI P N B Ig JX (.loop c) env σ z Q:=by
 have key:∀ n s,μ s<n->G s->Zqt (AwpI P N B Ig JX) c Q n (E s) ⟨Y s,n1⟩ (Z s):=by
  intro n
  induction n with
  | zero=>intro s h; omega
  | succ n ih =>
   intro s h hg
   simp only [Zqt]
   refine (step s hg).rens fun e env' σ' z' hq=>?_
   cases e with
   | normal =>
    obtain ⟨s',fl,k1,k2,k3,g',m',e3⟩:=hq
    refine .inl ⟨n0,E s',⟨Y s',n1⟩,Ren.of fl k1 k2 k3,?_⟩
    simp only [seqI]
    rw [e3]
    exact ih s' (by omega) g'
   | exit id=>exact .inr hq
   | goto l=>exact .inr hq
   | ret=>exact .inr hq
   | panic ch=>exact .inr hq
   | outgrown=>exact .inr hq
 have:=Zg7 _ (key (μ s+1) s (by omega) hs)
 rw [<-hz] at this
 exact fun a w S=>this a w (S.rename (Ren.of fl0 h1 h2 h3))
variable {P:Program} {N:Nat}
inductive Cut (P:Program) (N:Nat) (c:Code) (env:Env) (σ:St) (Q:Exit->Env->St->Prop):Prop
 | mk (h:Awp P N c env σ Q):Cut P N c env σ Q
instance {c:Code} {env:Env} {σ:St} {Q:Exit->Env->St->Prop}:Stop (Cut P N c env σ Q):=⟨trivial⟩
variable (Bs:Base P)
variable {r r' : Locs} {I I' I2:Imm} {w w' : World} {P:Program}
mutual
def Frk (bl:List (Nat × List (List AV))):AV->AV->Prop
 | .asl id idx len,.isl es els=>(bl[id]?=some (es,els)/\id≠0)/\idx=0/\len=els.length
 | .asl id idx len,.asl id' idx' len'=>id=0/\id'=0/\idx=idx'/\len=len'
 | .nils,.isl _ els=>els=[]
 | .agg cs,.agg ds=>FrkL bl cs ds
 | .tup cs,.tup ds=>FrkL bl cs ds
 | v,v'=>v=v'/\Zp v=true
def FrkL (bl:List (Nat × List (List AV))):List AV->List AV->Prop
 | [],[]=>True
 | c::cs,d::ds=>Frk bl c d/\FrkL bl cs ds
 | _,_=>False
end
theorem FrkL.get {bl:List (Nat × List (List AV))}:∀ {cs ds:List AV},FrkL bl cs ds->cs.length=ds.length/\∀ (i:Nat) (d:AV),ds[i]?=some d->∃ c,cs[i]?=some c/\Frk bl c d
 | [],[],_=>⟨rfl,fun i d h=>by simp at h⟩
 | c::cs,d::ds,h=>by
  simp only [FrkL] at h
  obtain ⟨h1,h2⟩:=FrkL.get h.2
  refine ⟨by simp [h1],fun i d' hi=>?_⟩
  cases i with
  | zero=>simp at hi; subst hi; exact ⟨c,rfl,h.1⟩
  | succ i=>simpa using h2 i d' (by simpa using hi)
 | [],_::_,h=>by simp [FrkL] at h
 | _::_,[],h=>by simp [FrkL] at h
theorem Yay {bl:List (Nat × List (List AV))} {D D0:Nat->Prop} (h00:D0 0) (hst:∀ b o,I' b o->I2 b o)
  (hrow:∀ (j es:Nat) (els:List (List AV)),bl[j]?=some (es,els)/\j≠0->∀ (x:Value),VR r' I' w' D (.asl j 0 els.length) x->VR r' I2 w' D0 (.isl es els) x) {v:AV} {x:Value} (hv:VR r' I' w' D v x):∀ v',Frk bl v v'->VR r' I2 w' D0 v' x:=by
 have pure:∀ {v:AV} {x:Value},VR r' I' w' D v x->∀ v',(v=v'/\Zp v=true)->VR r' I2 w' D0 v' x:=by
  rintro v x hv v' ⟨rfl,hp⟩
  exact (hv.pure hp).mono ⟨fun _ h=>h.elim,fun b o h=>⟨hst b o h,rfl⟩,Qd _⟩
 induction hv with
 | agg D cs vs h0 g ih =>
  intro v' h
  cases v' with
  | agg ds =>
   simp only [Frk] at h
   obtain ⟨h1,h2⟩:=FrkL.get h
   refine .agg _ _ _ (h0.trans h1) fun i c v hc hx=>?_
   obtain ⟨c',hc',hf⟩:=h2 i c hc
   exact ih i c' v hc' hx hrow pure _ hf
  | _=>simp [Frk] at h
 | tup D cs vs h0 g ih =>
  intro v' h
  cases v' with
  | tup ds =>
   simp only [Frk] at h
   obtain ⟨h1,h2⟩:=FrkL.get h
   refine .tup _ _ _ (h0.trans h1) fun i c v hc hx=>?_
   obtain ⟨c',hc',hf⟩:=h2 i c hc
   exact ih i c' v hc' hx hrow pure _ hf
  | _=>simp [Frk] at h
 | asl D id idx len hd hc =>
  intro v' h
  have hv:VR r' I' w' D (.asl id idx len) _:=.asl D id idx len hd hc
  cases v' with
  | isl es els =>
   simp only [Frk] at h
   obtain ⟨h1,rfl,rfl⟩:=h
   exact hrow _ _ _ h1 _ hv
  | asl id' idx' len' =>
   simp only [Frk] at h
   obtain ⟨rfl,rfl,rfl,rfl⟩:=h
   exact .asl _ _ _ _ h00 hc
  | _=>exact pure hv _ (by simpa only [Frk] using h)
 | any D v=>intro v' h; exact pure (.any D v) v' (by cases v'<;>simpa only [Frk] using h)
 | bool D b=>intro v' h; exact pure (.bool D b) v' (by cases v'<;>simpa only [Frk] using h)
 | int D k n=>intro v' h; exact pure (.int D k n) v' (by cases v'<;>simpa only [Frk] using h)
 | flt D k n=>intro v' h; exact pure (.flt D k n) v' (by cases v'<;>simpa only [Frk] using h)
 | cpx D k n m=>intro v' h; exact pure (.cpx D k n m) v' (by cases v'<;>simpa only [Frk] using h)
 | val D a n c=>intro v' h; exact pure (.val D a n c) v' (by cases v'<;>simpa only [Frk] using h)
 | str D s=>intro v' h; exact pure (.str D s) v' (by cases v'<;>simpa only [Frk] using h)
 | ptr D id idx sub hd=>intro v' h; exact pure (.ptr D id idx sub hd) v' (by cases v'<;>simpa only [Frk] using h)
 | ipt D cells b o val h1 h2 ih=>intro v' h; exact pure (.ipt D cells b o val h1 h2) v' (by cases v'<;>simpa only [Frk] using h)
 | nilp D=>intro v' h; exact pure (.nilp D) v' (by cases v'<;>simpa only [Frk] using h)
 | nils D =>
  intro v' h
  cases v' with
  | isl es els =>
   simp only [Frk] at h
   subst h
   exact .isl0 _ _ _ _
  | _=>exact pure (.nils D) _ (by simpa only [Frk] using h)
 | bsl D id idx sub len cap hd=>intro v' h; exact pure (.bsl D id idx sub len cap hd) v' (by cases v'<;>simpa only [Frk] using h)
 | isl0 D es a cap=>intro v' h; exact pure (.isl0 D es a cap) v' (by cases v'<;>simpa only [Frk] using h)
 | isl D es elems b o cap val hl h0 h1 h2 ih=>intro v' h; exact pure (.isl D es elems b o cap val hl h0 h1 h2) v' (by cases v'<;>simpa only [Frk] using h)
 | amap D id hd=>intro v' h; exact pure (.amap D id hd) v' (by cases v'<;>simpa only [Frk] using h)
 | func D f c0 c1 v0 v1 h0 h1 g0 g1 ih0 ih1=>intro v' h; exact pure (.func D f c0 c1 v0 v1 h0 h1 g0 g1) v' (by cases v'<;>simpa only [Frk] using h)
 | yld D l=>intro v' h; exact pure (.yld D l) v' (by cases v'<;>simpa only [Frk] using h)
theorem PCall.freezeK {f:FuncId} {args:List AV} {v v' : AV} {p0:Nat × List (List AV)} {bl:List (Nat × List (List AV))} (h:PCall P f args ⟨v,p0::bl⟩) (hz:Frk (p0::bl) v v'):PCall P f args ⟨v',[p0]⟩:=by
 refine ⟨h.1,fun I w vs hI hv=>(h.2 I w vs hI hv).mono fun e w' hh=>?_⟩
 obtain ⟨x,r',I',rfl,hp⟩:=hh
 let I2:Imm:=fun b o=>I' b o\/∃ (j:Nat) (p:Nat × List (List AV)),((p0::bl)[j]?=some p/\j≠0)/\b=(r' j).blk/\∃ (i:Nat) (e:List AV) (jj:Nat) (c:AV),p.2[i]?=some e/\e[jj]?=some c/\o=(r' j).off+i*p.1+jj
 have himm:∀ b o,I' b o->I2 b o:=fun b o h=>.inl h
 refine ⟨x,r',I2,rfl,hp.below,fun b o h=>.inl (hp.immL b o h),fun b o h=>?_,fun b o h=>?_,fun j p hj=>?_,fun j j' h1 h2 h3=>?_,?_⟩
 ·rcases h with h|⟨j,p,⟨hj,_⟩,rfl,_⟩
  ·exact hp.immN b o h
  ·exact .inr (hp.rows j p hj).1
 ·rcases h with h|⟨j,p,⟨hj,_⟩,rfl,_⟩
  ·exact hp.immS b o h
  ·exact (hp.rows j p hj).2.1
 ·cases j with
  | succ j=>simp at hj
  | zero =>
   have hj:p0=p:=by simpa using hj
   subst hj
   obtain ⟨hb1,hb2,he,hcap,hlen,cs,T,fz,hcells,hsz,hel,hmt,hmf⟩:=hp.rows 0 p0 rfl
   refine ⟨hb1,hb2,he,hcap,hlen,cs,T,fz,hcells,hsz,fun i e jj c hi hjj=>?_,fun ht=>?_,fun hf=>by cases hf⟩
   ·obtain ⟨v,hv1,hv2⟩:=hel i e jj c hi hjj
    exact ⟨v,hv1,hv2.mono ⟨fun _ h=>⟨h,rfl⟩,fun b o h=>⟨himm b o h,rfl⟩,Qd _⟩⟩
   ·obtain ⟨g1,g2,g3⟩:=hmt ht
    refine ⟨g1,fun o ho=>?_,g3⟩
    rcases ho with ho|⟨j,p,⟨hj,hj0⟩,hb,_⟩
    ·exact g2 o ho
    ·exact hp.inj 0 j (by simp) (Qh.1 hj).1 (fun c=>hj0 c.symm) hb
 ·have h1:j<1:=h1
  have h2:j'<1:=h2
  omega
 ·refine Yay (I2:=I2) (D0:=fun i=>i<1) (by decide) himm (fun j es els hj y hy=>?_) hp.val _ hz
  obtain ⟨hb1,hb2,⟨he1,he2⟩,hcap,hlen,cs,T,fz,hcells,hsz,hel,hmt,_⟩:=hp.rows j (es,els) hj.1
  dsimp only at he1 he2 hcap hlen hsz hel
  cases els with
  | nil =>
   cases hy with
   | asl _ _ _ _ hd hc=>exact .isl0 _ _ _ _
  | cons e0 els =>
   cases hy with
   | asl _ _ _ _ hd hc =>
    rw [he1]
    simp only [Nat.zero_mul,Ty,Tu]
    have hcell:∀ (i:Nat) (e:List AV) (jj:Nat) (c:AV),(e0::els)[i]?=some e->e[jj]?=some c->∃ v,w'.cell? ⟨(r' j).blk,(r' j).off+i*es+jj,none⟩=some v/\VR r' I2 w' (fun _=>False) c v:=by
     intro i e jj c hi hjj
     obtain ⟨v,hv1,hv2⟩:=hel i e jj c hi hjj
     refine ⟨v,?_,hv2.mono ⟨fun _ h=>h.2.elim,fun b o h=>⟨himm b o h,rfl⟩,Qd _⟩⟩
     simp [World.cell?,hcells,hv1]
    refine .isl _ _ _ _ _ _ (fun i jj=>(w'.cell? ⟨(r' j).blk,(r' j).off+i*es+jj,none⟩).getD undef) hcap hlen (fun i e jj c hi hjj=>?_) (fun i e jj c hi hjj=>?_)
    ·obtain ⟨v,hv1,_⟩:=hcell i e jj c hi hjj
     exact ⟨.inr ⟨j,(es,e0::els),hj,rfl,i,e,jj,c,hi,hjj,rfl⟩,by rw [hv1]; rfl⟩
    ·obtain ⟨v,hv1,hv2⟩:=hcell i e jj c hi hjj
     rw [hv1]
     exact hv2
end Go.Sx

namespace Go.Sx
open Go Go.RowKit Go.ChangeShapes
def WTB (T:Tab):Nat->TypeId->List AV->Prop
 | 0,_,_=>False
 | d+1,t,aZ=>match T t with
  | none=>False
  | some ti=>match ti.desc with
   | .bool=>∃ b,aZ=[.bool b]
   | .int k=>∃ n,aZ=[.int k n]/\(Lit.int k n).wf=true
   | .float k=>∃ b,aZ=[.flt k b]/\(Fq k b).wf=true
   | .string=>∃ s,aZ=[.str s]/\s.size<=maxLen
   | .slice e=>match T e with
    | some te=>∃ els,aZ=[.isl te.size els]/\els.length<=maxLen/\els.length*te.bytes<=reachBytes/\∀ x∈els,WTB T d e x
    | none=>False
   | .struct fs=>aZ.length=ti.size/\∀ f∈fs.toList,match T f.type with
    | some tf=>WTB T d f.type ((aZ.drop f.offset).take tf.size)
    | none=>False
   | .array n e=>match T e with
    | some te=>aZ.length=ti.size/\∀ i,i<n->WTB T d e ((aZ.drop (i*te.size)).take te.size)
    | none=>False
   | _=>False
theorem Zj2 {T:Tab}:∀ (d:Nat) {t:TypeId} {aZ:List AV},WTB T d t aZ->WT T d t aZ
 | 0,t,aZ,h=>h.elim
 | d+1,t,aZ,h=>by
  unfold WTB at h
  unfold WT
  cases ht:T t with
  | none=>rw [ht] at h; exact h.elim
  | some ti =>
   rw [ht] at h
   dsimp only at h ⊢
   cases hd:ti.desc with
   | bool=>rw [hd] at h; exact h
   | int k=>rw [hd] at h; exact h
   | float k=>rw [hd] at h; exact h
   | string=>rw [hd] at h; exact h
   | slice e =>
    rw [hd] at h
    dsimp only at h ⊢
    cases he:T e with
    | none=>rw [he] at h; exact h.elim
    | some te=>rw [he] at h; obtain ⟨els,e1,e2,_,e3⟩:=h; exact ⟨els,e1,e2,fun x hx=>Zj2 d (e3 x hx)⟩
   | struct fs =>
    rw [hd] at h
    dsimp only at h ⊢
    refine ⟨h.1,fun f hf=>?_⟩
    have:=h.2 f hf
    cases he:T f.type with
    | none=>rw [he] at this; exact this.elim
    | some tf=>rw [he] at this; exact Zj2 d this
   | array n e =>
    rw [hd] at h
    dsimp only at h ⊢
    cases he:T e with
    | none=>rw [he] at h; exact h.elim
    | some te=>rw [he] at h; exact ⟨h.1,fun i hi=>Zj2 d (h.2 i hi)⟩
   | _=>rw [hd] at h; exact h.elim
theorem Zfu {T:Tab}:∀ (d:Nat) {t:TypeId} {aZ:List AV},WTB T d t aZ->WTB T (d+1) t aZ
 | 0,t,aZ,h=>h.elim
 | d+1,t,aZ,h=>by
  unfold WTB at h ⊢
  cases ht:T t with
  | none=>rw [ht] at h; exact h.elim
  | some ti =>
   rw [ht] at h
   dsimp only at h ⊢
   cases hd:ti.desc with
   | bool=>rw [hd] at h; exact h
   | int k=>rw [hd] at h; exact h
   | float k=>rw [hd] at h; exact h
   | string=>rw [hd] at h; exact h
   | slice e =>
    rw [hd] at h
    dsimp only at h ⊢
    cases he:T e with
    | none=>rw [he] at h; exact h.elim
    | some te=>rw [he] at h; obtain ⟨els,e1,e2,e4,e3⟩:=h; exact ⟨els,e1,e2,e4,fun x hx=>Zfu d (e3 x hx)⟩
   | struct fs =>
    rw [hd] at h
    dsimp only at h ⊢
    refine ⟨h.1,fun f hf=>?_⟩
    have:=h.2 f hf
    cases he:T f.type with
    | none=>rw [he] at this; exact this.elim
    | some tf=>rw [he] at this; exact Zfu d this
   | array n e =>
    rw [hd] at h
    dsimp only at h ⊢
    cases he:T e with
    | none=>rw [he] at h; exact h.elim
    | some te=>rw [he] at h; exact ⟨h.1,fun i hi=>Zfu d (h.2 i hi)⟩
   | _=>rw [hd] at h; exact h.elim
def WTAB (T:Tab) (t:TypeId) (a:AV):Prop:=∀ n,∃ m aZ,WTB T (m+n) t aZ/\match T t with
 | some ti=>match ti.desc with
  | .struct _=>a = .agg aZ
  | .array _ _=>a = .agg aZ
  | _=>aZ=[a]
 | none=>False
def WTsB (T:Tab):List TypeId->List AV->Prop
 | [],[]=>True
 | t::ts,a::aZ=>WTAB T t a/\WTsB T ts aZ
 | _,_=>False
section
variable {H:Type} {enc:TypeId × Value->H} {P:Program} {w:World} {spare:Nat->Bool} {held:Bool}
theorem Zql {T:Tab} (hT:TabOK P T) {t:TypeId} {ti:TI} (h:T t=some ti):P.bytesOf t=ti.bytes:=by
 obtain ⟨i,h1,h2,h3,_⟩:=hT.info t ti h
 simp [Program.bytesOf,h1,h3]
theorem Zag {e:TypeId}:∀ {l:List (DataW H)} {d:DataW H},d∈l->∀ n∈d.weights P e,n∈Nl P e l
 | d0::l,d,hd,n,hn=>by
  simp only [Nl,Sc]
  rcases List.mem_cons.1 hd with rfl|hd
  ·exact .inl hn
  ·exact .inr (Zag hd n hn)
def Lite (P:Program) (t:TypeId) (d:DataW H):Prop:=∀ n∈d.weights P t,n<=reachBytes
def Zxk (T:Tab) (w:World) (d:Nat) (t:TypeId) (cs:List Value):Prop :=
 ∃ aZ:List AV,aZ.length=cs.length/\(∀ (i:Nat) (c:AV) (v:Value),aZ[i]?=some c->cs[i]?=some v->VR r0 (Im0 w) w (fun _=>False) c v)/\WTB T d t aZ
theorem Vn {T:Tab} {d:Nat} {t:TypeId} {v:Value} {c:AV} (hv:VR r0 (Im0 w) w (fun _=>False) c v) (hw:WTB T d t [c]):Zxk T w d t [v] :=
 ⟨[c],rfl,fun i c' v' hc hv'=>by cases i with
  | zero=>simp at hc hv'; subst hc; subst hv'; exact hv
  | succ i=>simp at hc,hw⟩
theorem Zf9 {d:Nat} {t e:TypeId} {cs:List Value} {x:DataW H × List MemPlace} (hu:P.underlying t=some (.slice e)) (h:Pq enc P w 0 spare held (d+1) t cs=some x) (hz:Lite P t x.1) :
  cs=[.slice none 0 0]\/∃ (a:Addr) (len cap:Nat),cs=[.slice (some a) len cap]/\len<=cap/\cap<=maxLen/\len*P.bytesOf e<=reachBytes/\∀ i,i<len->∃ cells y,w.cells? 0 (a.add (i*P.cellsOf e)) (P.cellsOf e)=some cells/\Pq enc P w 0 spare held d e cells=some y/\Lite P e y.1:=by
 rcases DataW.trod_slice hu h with ⟨rfl,_⟩|⟨a,len,cap,elems,rest,n,hn,rfl,rfl,h1,h2,h3,h4,h5,_⟩
 ·exact .inl rfl
 ·cases hn
  have hw:(DataW.slice (elems.map (·.1)) (rest.map (·.1))).weights P t=((elems.map (·.1)).length+(rest.map (·.1)).length)*P.bytesOf e::(Nl P e (elems.map (·.1))++Nl P e (rest.map (·.1))):=by simp only [Jm,hu]
  unfold Lite at hz
  dsimp only at hz
  rw [hw] at hz
  have hz1:=hz _ List.mem_cons_self
  refine .inr ⟨a,len,cap,rfl,h2,h3,?_,fun i hi=>?_⟩
  ·refine Nat.le_trans (Rd _ ?_) hz1
   rw [List.length_map]; omega
  ·have hg:=h5 i hi
   have:elems[i]?=some (elems[i]'(by omega)):=by simp [h4,hi]
   rw [this,Option.bind_eq_some_iff] at hg
   obtain ⟨cells,hcl,htr⟩:=hg
   exact ⟨cells,_,hcl,htr,fun n hn=>hz _ (List.mem_cons_of_mem _ (List.mem_append_left _ (Zag (Wa.2 ⟨_,Qq (by omega),rfl⟩) n hn)))⟩
theorem Zfm {d:Nat} {t:TypeId} {fs:Array Field} {cs:List Value} {x:DataW H × List MemPlace} (hu:P.underlying t=some (.struct fs)) (h:Pq enc P w 0 spare held (d+1) t cs=some x) (hz:Lite P t x.1) :
  cs.length=P.cellsOf t/\∀ f∈fs.toList,∃ y,Pq enc P w 0 spare held d f.type ((cs.drop f.offset).take (P.cellsOf f.type))=some y/\Lite P f.type y.1:=by
 obtain ⟨xs,n,hn,rfl,hc,hl,hf⟩:=DataW.trod_struct hu h
 cases hn
 refine ⟨hc,fun f hfm=>?_⟩
 obtain ⟨i,hi⟩:=List.getElem?_of_mem hfm
 have hil:=(Qh.1 hi).1
 have hil2:i<xs.length:=by rw [hl]; simpa using hil
 have hg:=hf i f (by simpa using hi)
 have hx:xs[i]?=some (xs[i]'hil2):=by simp [hil2]
 rw [hx] at hg
 refine ⟨_,hg,fun n hn=>hz n ?_⟩
 simp only [Jm,hu]
 exact DataW.weights_mem_each (j:=i) (by rw [Rz,hi]; rfl) (by rw [Rz,hx]; rfl) n hn
theorem Zes {T:Tab} {S:List TypeId} (hS:S.all (Zgc T S)=true) {d:Nat} {t:TypeId} {ti:TI} (ht:T t=some ti) (hm:memN S t=true) {aZ:List AV} (h:WTB T d t aZ):aZ.length=ti.size:=by
 have hs:=Qs.1 hS t (Zar hm)
 unfold Zgc at hs
 rw [ht] at hs
 cases d with
 | zero=>exact h.elim
 | succ d =>
  simp only [WTB,ht] at h
  dsimp only at hs
  split at h
  ·rename_i hd; rw [hd] at hs; obtain ⟨b,rfl⟩:=h; simp at hs; simp [hs]
  ·rename_i hd; rw [hd] at hs; obtain ⟨b,rfl,_⟩:=h; simp at hs; simp [hs]
  ·rename_i hd; rw [hd] at hs; obtain ⟨b,rfl,_⟩:=h; simp at hs; simp [hs]
  ·rename_i hd; rw [hd] at hs; obtain ⟨b,rfl,_⟩:=h; simp at hs; simp [hs]
  ·rename_i e hd
   rw [hd] at hs
   dsimp only at hs
   cases hte:T e with
   | none=>rw [hte] at h; exact h.elim
   | some te=>rw [hte] at h hs; obtain ⟨els,rfl,_⟩:=h; simp at hs; simp [hs]
  ·exact h.1
  ·rename_i n e hd
   cases hte:T e with
   | none=>rw [hte] at h; exact h.elim
   | some te=>rw [hte] at h; exact h.1
  ·exact h.elim
theorem Za4 {T:Tab} (hT:TabOK P T) {S:List TypeId} (hS:S.all (Zgc T S)=true):∀ (d:Nat) (t:TypeId) (cs:List Value) (x:DataW H × List MemPlace), memN S t=true->Pq enc P w 0 spare held d t cs=some x->Lite P t x.1->Zxk T w d t cs
  | 0, t, cs, x, _, h, _ => by simp [Pq] at h
  | d+1, t, cs, x, hm, h, hz => by
    have hs := Qs.1 hS t (Zar hm)
    unfold Zgc at hs
    cases ht:T t with
    | none => rw [ht] at hs; cases hs
    | some ti =>
      rw [ht] at hs
      dsimp only at hs
      have hu := hT.und t ti ht
      have hwt:∀ aZ, WTB T (d+1) t aZ=match ti.desc with
        | .bool => ∃ b, aZ=[.bool b]
        | .int k => ∃ n, aZ=[.int k n]/\(Lit.int k n).wf=true
        | .float k => ∃ b, aZ=[.flt k b]/\(Fq k b).wf=true
        | .string => ∃ s, aZ=[.str s]/\s.size<=maxLen
        | .slice e => match T e with
          | some te => ∃ els, aZ=[.isl te.size els]/\els.length<=maxLen/\els.length*te.bytes<=reachBytes/\∀ x∈els, WTB T d e x
          | none => False
        | .struct fs => aZ.length=ti.size/\∀ f∈fs.toList, match T f.type with
          | some tf => WTB T d f.type ((aZ.drop f.offset).take tf.size)
          | none => False
        | .array n e => match T e with
          | some te => aZ.length=ti.size/\∀ i, i<n->WTB T d e ((aZ.drop (i*te.size)).take te.size)
          | none => False
        | _ => False := fun aZ => by simp only [WTB, ht]
      cases hd:ti.desc with
      | bool =>
        unfold Pq at h
        rw [hu] at h
        rw [hd] at h hwt
        split at h<;>first
          | exact Vn (.bool _ _) (by rw [hwt]; exact ⟨_, rfl⟩)
          | (exfalso; simp_all; done)
      | int k =>
        unfold Pq at h
        rw [hu] at h
        rw [hd] at h hwt
        split at h<;>first
          | (rename_i k1 k2 n he
             simp only [Qe, TypeDesc.int.injEq] at he
             subst he
             split at h
             · rename_i hk
               obtain ⟨rfl, hk⟩ := hk
               exact Vn (.int _ _ _) (by rw [hwt]; exact ⟨_, rfl, hk⟩)
             · cases h)
          | (exfalso; simp_all; done)
      | float k =>
        unfold Pq at h
        rw [hu] at h
        rw [hd] at h hwt
        split at h<;>first
          | (rename_i k1 k2 n he
             simp only [Qe, TypeDesc.float.injEq] at he
             subst he
             split at h
             · rename_i hk
               obtain ⟨rfl, hk⟩ := hk
               exact Vn (.flt _ _ _) (by rw [hwt]; exact ⟨_, rfl, hk⟩)
             · cases h)
          | (exfalso; simp_all; done)
      | string =>
        unfold Pq at h
        rw [hu] at h
        rw [hd] at h hwt
        split at h<;>first
          | (split at h
             · rename_i hk
               exact Vn (.str _ _) (by rw [hwt]; exact ⟨_, rfl, hk⟩)
             · cases h)
          | (exfalso; simp_all; done)
      | slice e =>
        rw [hd] at hu hwt hs
        dsimp only at hs
        simp only [Qc] at hs
        obtain ⟨hme, hs⟩ := hs
        cases hte:T e with
        | none => rw [hte] at hs; cases hs
        | some te =>
          have hsz := Ub hT hte
          have hby := Zql hT hte
          rcases Zf9 hu h hz with rfl|⟨a, len, cap, rfl, h1, h2, hsm, h3⟩
          · exact Vn (c := .isl te.size []) (.isl0 _ _ _ _) (by rw [hwt]; simp only [hte]; exact ⟨_, rfl, by simp, by simp, fun x hx => by simp at hx⟩)
          · rw [hsz] at h3
            rw [hte] at hs
            simp only [Qc, Nat.blt_eq] at hs
            obtain ⟨hs1, hs2⟩ := hs
            cases len with
            | zero => exact Vn (c := .isl te.size []) (.isl0 _ _ _ _) (by rw [hwt]; simp only [hte]; exact ⟨_, rfl, by simp, by simp, fun x hx => by simp at hx⟩)
            | succ len =>
              obtain ⟨b, o, sp⟩ := a
              have hsp:sp=none := by
                obtain ⟨cells, y, hcl, htr, _⟩ := h3 0 (by omega)
                obtain ⟨hl, hcg⟩ := Zl6 hcl
                have hv:cells[0]?=some (cells[0]'(by omega)) := by simp
                have := hcg 0 _ hv
                simpa [Addr.add] using World.cell?_spot this
              subst hsp
              obtain ⟨g, hg⟩ := Zgt (Tq (len+1)) (fun i aZ => aZ.length=te.size/\WTB T d e aZ/\∀ (j:Nat) (c:AV), aZ[j]?=some c->∃ v, w.cell? ⟨b, o+i*te.size+j, none⟩=some v/\VR r0 (Im0 w) w (fun _ => False) c v) (fun i hi => by
                obtain ⟨cells, y, hcl, htr, hlt⟩ := h3 i (Ss.1 hi)
                obtain ⟨hl, hcg⟩ := Zl6 hcl
                obtain ⟨aZ, q1, q2, q3⟩ := Za4 hT hS d e cells _ hme htr hlt
                have q4 := Zes hS hte hme q3
                refine ⟨aZ, q4, q3, fun j c hc => ?_⟩
                have hj:j<aZ.length := (Qh.1 hc).1
                have hv:cells[j]?=some (cells[j]'(by omega)) := by simp
                refine ⟨_, ?_, q2 j c _ hc hv⟩
                have := hcg j _ hv
                rw [Xd, Xd] at this
                exact this)
              have hlen:((Tq (len+1)).map g).length=len+1 := by simp
              have hget:∀ (i:Nat) (x:List AV), ((Tq (len+1)).map g)[i]?=some x->i<len+1/\x=g i := by
                intro i x hx
                have hi:i<len+1 := by rw [<-hlen]; exact (Qh.1 hx).1
                refine ⟨hi, ?_⟩
                simp [hi] at hx
                exact hx.symm
              have hcell:∀ i, i<len+1->∀ (j:Nat) (c:AV), (g i)[j]?=some c->∃ v, w.cell? ⟨b, o+i*te.size+j, none⟩=some v/\VR r0 (Im0 w) w (fun _ => False) c v := fun i hi => (hg i (Ss.2 hi)).2.2
              have hval := VR.isl (r := r0) (I := Im0 w) (w := w) (fun _ => False) te.size ((Tq (len+1)).map g) b o cap (fun i j => (w.cell? ⟨b, o+i*te.size+j, none⟩).getD undef) (by rw [hlen]; exact h1)
                (fun i x hx => by obtain ⟨hi, rfl⟩ := hget i x hx; exact (hg i (Ss.2 hi)).1)
                (fun i x j c hx hc => by
                  obtain ⟨hi, rfl⟩ := hget i x hx
                  obtain ⟨v, hv, _⟩ := hcell i hi j c hc
                  exact ⟨Zy9 hv, by rw [hv]; rfl⟩)
                (fun i x j c hx hc => by
                  obtain ⟨hi, rfl⟩ := hget i x hx
                  obtain ⟨v, hv, hr⟩ := hcell i hi j c hc
                  rw [hv]; exact hr)
              rw [hlen] at hval
              refine Vn hval ?_
              rw [hwt]
              simp only [hte]
              refine ⟨_, rfl, by rw [hlen]; omega, by rw [hlen, <-hby]; exact hsm, fun x hx => ?_⟩
              obtain ⟨i, hi, rfl⟩ := Wa.1 hx
              exact (hg i hi).2.1
      | «struct» fs =>
        rw [hd] at hu hwt hs
        dsimp only at hs
        simp only [Qc] at hs
        obtain ⟨hmf, hs⟩ := hs
        obtain ⟨hcl, hf⟩ := Zfm hu h hz
        rw [Ub hT ht] at hcl
        cases hcg:contig T 0 fs.toList with
        | none => rw [hcg] at hs; cases hs
        | some n =>
          rw [hcg] at hs
          have hn := Qf hs
          have hsz:∀ f∈fs.toList, ∃ tf, T f.type=some tf := fun f hf => by
            have := Qs.1 hS _ (Zar (Qs.1 hmf f hf))
            unfold Zgc at this
            cases hx:T f.type with
            | none => rw [hx] at this; cases this
            | some tf => exact ⟨tf, rfl⟩
          obtain ⟨seg, hseg⟩ := Zgt fs.toList (fun f aZ => aZ.length=Zfn T f.type/\WTB T d f.type aZ/\∀ (j:Nat) (c:AV) (v:Value), aZ[j]?=some c->((cs.drop f.offset).take (Zfn T f.type))[j]?=some v->VR r0 (Im0 w) w (fun _ => False) c v) (fun f hfm => by
            obtain ⟨y, hy, hyl⟩ := hf f hfm
            obtain ⟨tf, htf⟩ := hsz f hfm
            have hme := Qs.1 hmf f hfm
            rw [Ub hT htf] at hy
            obtain ⟨aZ, q1, q2, q3⟩ := Za4 hT hS d f.type _ _ hme hy hyl
            refine ⟨aZ, ?_, q3, ?_⟩
            · rw [Zes hS htf hme q3]; simp [Zfn, htf]
            · simpa [Zfn, htf] using q2)
          obtain ⟨h1, h2, h3⟩ := Zow (T := T) (seg := seg) fs.toList 0 n hcg (fun f hfm => (hseg f hfm).1)
          simp only [Tu] at h1 h3
          refine ⟨fs.toList.flatMap seg, by rw [h1, hcl, hn], ?_, ?_⟩
          ·
            have key:∀ (l:List Field) (o:Nat), contig T o l=some n->(∀ f∈l, f∈fs.toList)->∀ (i:Nat) (c:AV) (v:Value), (l.flatMap seg)[i]?=some c->cs[o+i]?=some v->VR r0 (Im0 w) w (fun _ => False) c v := by
              intro l
              induction l with
              | nil => intro o _ _ i c v hc; simp at hc
              | cons f l ih =>
                intro o ho hin i c v hc hv
                simp only [contig] at ho
                have hfm := hin f (by simp)
                obtain ⟨tf, htf⟩ := hsz f hfm
                rw [htf] at ho
                dsimp only at ho
                cases hb:Nat.beq f.offset o with
                | false => rw [hb] at ho; cases ho
                | true =>
                  rw [hb] at ho
                  have hoe := Qf hb
                  simp only [cond_true] at ho
                  have hsl:(seg f).length=tf.size := by rw [(hseg f hfm).1]; simp [Zfn, htf]
                  simp only [List.flatMap_cons] at hc
                  by_cases hi:i<tf.size
                  · rw [List.getElem?_append_left (by omega)] at hc
                    refine (hseg f hfm).2.2 i c v hc ?_
                    rw [Th, if_pos (by simpa [Zfn, htf] using hi), Re, hoe]
                    exact hv
                  · rw [List.getElem?_append_right (by omega), hsl] at hc
                    refine ih (o+tf.size) ho (fun g hg => hin g (by simp [hg])) (i-tf.size) c v hc ?_
                    rw [show o+tf.size+(i-tf.size)=o+i by omega]; exact hv
            intro i c v hc hv
            exact key fs.toList 0 hcg (fun f hf => hf) i c v hc (by simpa using hv)
          · rw [hwt]
            refine ⟨by rw [h1, hn], fun f hfm => ?_⟩
            obtain ⟨tf, htf⟩ := hsz f hfm
            rw [htf]
            have := (h3 f hfm).2
            rw [show Zfn T f.type=tf.size by simp [Zfn, htf]] at this
            dsimp only
            rw [this]
            exact (hseg f hfm).2.1
      | array n e =>
        rw [hd] at hu hwt hs
        dsimp only at hs
        simp only [Qc] at hs
        obtain ⟨hme, hs⟩ := hs
        cases hte:T e with
        | none => rw [hte] at hs; cases hs
        | some te =>
          rw [hte] at hs
          have hn := Qf hs
          have hsz := Ub hT hte
          obtain ⟨xs, m, hm1, hxe, hcl, hxl, hf⟩ := DataW.trod_array hu h
          subst hxe
          cases hm1
          rw [Ub hT ht] at hcl
          rw [hsz] at hf
          obtain ⟨seg, hseg⟩ := Zgt (Tq n) (fun i aZ => aZ.length=te.size/\WTB T d e aZ/\∀ (j:Nat) (c:AV) (v:Value), aZ[j]?=some c->((cs.drop (i*te.size)).take te.size)[j]?=some v->VR r0 (Im0 w) w (fun _ => False) c v) (fun i hi => by
            have hi := Ss.1 hi
            have hy := hf i hi
            rw [List.getElem?_eq_getElem (by omega)] at hy
            obtain ⟨aZ, q1, q2, q3⟩ := Za4 hT hS d e _ _ hme hy (fun n hn => hz n (by simp only [Jm, hu]; exact Zag (Wa.2 ⟨_, Qq (by omega), rfl⟩) n hn))
            exact ⟨aZ, Zes hS hte hme q3, q3, q2⟩)
          let sg:Nat->List AV := fun i => if i<n then seg i else List.replicate te.size .any
          have hsg:∀ i, (sg i).length=te.size := fun i => by
            by_cases hi:i<n
            · simp only [sg, hi, if_true]; exact (hseg i (Ss.2 hi)).1
            · simp only [sg, hi, if_false, List.length_replicate]
          obtain ⟨h1, h2⟩ := Ziw (sz := te.size) (seg := sg) n 0 hsg
          refine ⟨(List.range' 0 n).flatMap sg, by rw [h1, hcl, hn], ?_, ?_⟩
          · intro i c v hc hv
            have hil:i<n*te.size := by rw [<-h1]; exact (Qh.1 hc).1
            have hp:0<te.size := by
              rcases Nat.eq_zero_or_pos te.size with h0|h0
              · rw [h0] at hil; omega
              · exact h0
            have hq:i / te.size<n := Nx (by rw [Ts]; exact hil)
            have hr:i%te.size<te.size := Pf _ hp
            have he:i / te.size*te.size+i%te.size=i := by rw [Ts]; exact Nat.div_add_mod i te.size
            have hs2 := h2 (i / te.size) hq
            rw [Sg] at hs2
            have hs3:sg (i / te.size)=seg (i / te.size) := by simp only [sg, hq, if_true]
            refine (hseg (i / te.size) (Ss.2 hq)).2.2 (i%te.size) c v ?_ ?_
            · rw [<-hs3, <-hs2, Th, if_pos hr, Re, he]; exact hc
            · rw [Th, if_pos hr, Re, he]; exact hv
          · rw [hwt]
            dsimp only
            rw [hte]
            refine ⟨by rw [h1, hn], fun i hi => ?_⟩
            rw [h2 i hi, Sg]
            simp only [sg, hi, if_true]
            exact (hseg i (Ss.2 hi)).2.1
      | _ => rw [hd] at hs; cases hs
theorem Zpy {T:Tab} (hT:TabOK P T) {S:List TypeId} (hS:S.all (Zgc T S)=true) {t:TypeId} {v:Value} {d:DataW H} {p:List MemPlace} {r:Reach} {b0:Nat} (hm:memN S t=true) (hv:Mr P w r b0 t v)
  (h:DataW.Trod enc P w 0 spare held t v d p) (hz:Lite P t d):∃ a:AV,VR r0 (Im0 w) w (fun _=>False) a v/\WTAB T t a:=by
 have hs:=Qs.1 hS t (Zar hm)
 unfold Zgc at hs
 cases ht:T t with
 | none=>rw [ht] at hs; cases hs
 | some ti =>
  rw [ht] at hs
  dsimp only at hs
  have hu:=hT.und t ti ht
  obtain ⟨fuel,hf⟩:=h
  have hop:=fun n=>Za4 hT hS (fuel+n) t _ _ hm (DataW.trod_le (Nat.le_add_right fuel n) hf) hz
  obtain ⟨aZ,h1,h2,h3⟩:=hop 0
  have hwt:∀ n,WTB T (fuel+n) t aZ:=by
   intro n
   induction n with
   | zero=>exact h3
   | succ n ih=>exact Zfu _ ih
  clear hop hf
  have agg:(∃ cs,v = .agg cs)->∃ a:AV,VR r0 (Im0 w) w (fun _=>False) a v/\a = .agg aZ:=by
   rintro ⟨cs,rfl⟩
   exact ⟨.agg aZ,.agg _ _ _ (by simpa [Value.cells] using h1.symm) (fun i c x hc hx=>h2 i c x hc (by simpa [Value.cells] using hx)),rfl⟩
  have one:(∀ cs,v ≠ .agg cs)->∃ a:AV,VR r0 (Im0 w) w (fun _=>False) a v/\aZ=[a]:=by
   intro hn
   have e:v.cells.toList=[v]:=by cases v<;>first|rfl|(rename_i cs; exact (hn cs rfl).elim)
   rw [e] at h1 h2
   simp only [List.length_cons,List.length_nil] at h1
   obtain ⟨c,rfl⟩:=List.length_eq_one_iff.1 h1
   exact ⟨c,h2 0 c v rfl rfl,rfl⟩
  unfold Mr at hv
  rw [hu] at hv
  cases hd:ti.desc with
  | bool =>
   rw [hd] at hv hu
   obtain ⟨a,h4,h5⟩:=one (fun cs e=>by subst e; simp [Lh,Gm,hu] at hv)
   exact ⟨a,h4,fun n=>⟨fuel,aZ,hwt n,by rw [ht]; dsimp only; rw [hd]; exact h5⟩⟩
  | int k =>
   rw [hd] at hv hu
   obtain ⟨a,h4,h5⟩:=one (fun cs e=>by subst e; simp [Lh,Gm,hu] at hv)
   exact ⟨a,h4,fun n=>⟨fuel,aZ,hwt n,by rw [ht]; dsimp only; rw [hd]; exact h5⟩⟩
  | float k =>
   rw [hd] at hv hu
   obtain ⟨a,h4,h5⟩:=one (fun cs e=>by subst e; simp [Lh,Gm,hu] at hv)
   exact ⟨a,h4,fun n=>⟨fuel,aZ,hwt n,by rw [ht]; dsimp only; rw [hd]; exact h5⟩⟩
  | string =>
   rw [hd] at hv hu
   obtain ⟨a,h4,h5⟩:=one (fun cs e=>by subst e; simp [Lh,Gm,hu] at hv)
   exact ⟨a,h4,fun n=>⟨fuel,aZ,hwt n,by rw [ht]; dsimp only; rw [hd]; exact h5⟩⟩
  | slice e =>
   rw [hd] at hv hu
   obtain ⟨a,h4,h5⟩:=one (fun cs e=>by subst e; simp [Lh,Gm,hu] at hv)
   exact ⟨a,h4,fun n=>⟨fuel,aZ,hwt n,by rw [ht]; dsimp only; rw [hd]; exact h5⟩⟩
  | struct fs =>
   rw [hd] at hv hu
   obtain ⟨cs,hcs,_⟩:=hv
   obtain ⟨a,h4,h5⟩:=agg ⟨cs,hcs⟩
   exact ⟨a,h4,fun n=>⟨fuel,aZ,hwt n,by rw [ht]; dsimp only; rw [hd]; exact h5⟩⟩
  | array n e =>
   rw [hd] at hv hu
   obtain ⟨cs,hcs,_⟩:=hv
   obtain ⟨a,h4,h5⟩:=agg ⟨cs,hcs⟩
   exact ⟨a,h4,fun n=>⟨fuel,aZ,hwt n,by rw [ht]; dsimp only; rw [hd]; exact h5⟩⟩
  | _=>rw [hd] at hs; cases hs
theorem Zgu {T:Tab} (hT:TabOK P T) {S:List TypeId} (hS:S.all (Zgc T S)=true) {r:Reach} {b0:Nat}:∀ (ts:List TypeId) (vs:List Value) (ds:List (DataW H)) (p:List MemPlace),(∀ t∈ts,memN S t=true)->(∀ (j:Nat) t v,ts[j]?=some t->vs[j]?=some v->Mr P w r b0 t v) ->
  Oo enc P w 0 spare held ts vs ds p->(∀ n∈Px P ts ds,n<=reachBytes)->∃ aZ:List AV,VRs r0 (Im0 w) w (fun _=>False) aZ vs.toArray/\WTsB T ts aZ
 | [],vs,ds,p,_,_,h,_=>by
  obtain ⟨rfl,rfl,rfl⟩:=trodAll_nil h
  exact ⟨[],⟨rfl,fun i c v hc=>by simp at hc⟩,trivial⟩
 | t::ts,vs,ds,p,hm,hv,h,hz=>by
  obtain ⟨v,vs',d,ds',q,q',rfl,rfl,rfl,hd,hr⟩:=trodAll_cons h
  obtain ⟨a,ha,hw⟩:=Zpy hT hS (hm t (by simp)) (hv 0 t v rfl rfl) hd (fun n hn=>hz n (by simp only [Px,Sc]; exact .inl hn))
  obtain ⟨aZ,hs,hws⟩:=Zgu hT hS ts vs' ds' q' (fun t' ht'=>hm t' (by simp [ht'])) (fun j t' v' h1 h2=>hv (j+1) t' v' (by simpa using h1) (by simpa using h2)) hr (fun n hn=>hz n (by simp only [Px,Sc]; exact .inr hn))
  refine ⟨a::aZ,⟨by simpa using hs.1,fun i c x hc hx=>?_⟩,hw,hws⟩
  cases i with
  | zero=>simp at hc hx; subst hc; subst hx; exact ha
  | succ i=>exact hs.2 i c x (by simpa using hc) (by simpa using hx)
theorem Zsa {T:Tab} (hT:TabOK P T) {S:List TypeId} (hS:S.all (Zgc T S)=true) {f:FuncId} {ts:List TypeId} (hm:ts.all (memN S)=true) (hlaw:∀ aZ,WTsB T ts aZ->PCall P f aZ ⟨.bool true,[]⟩) {r:Reach} {b0:Nat} {vs:Array Value} {ds:List (DataW H)} {p:List MemPlace}
  (hv:∀ (j:Nat) t v,ts[j]?=some t->vs[j]?=some v->Mr P w r b0 t v) (h:Oo enc P w 0 spare held ts vs.toList ds p) (hz:∀ n∈Px P ts ds,n<=reachBytes):Calls P f vs w fun e w'=>e = .returned (.bool true)/\Below w.heap.size w w':=by
 obtain ⟨aZ,h1,h2⟩:=Zgu hT hS ts vs.toList ds p (fun t ht=>Qs.1 hm t ht) (fun j t v a b=>hv j t v a (by simpa using b)) h hz
 refine callsIn_wide.1 (((hlaw aZ h2).2 (Im0 w) w vs (fun b o h=>h) (by simpa using h1)).mono fun e w' hh=>?_)
 obtain ⟨x,r',I',rfl,hp⟩:=hh
 have hval:=hp.val
 cases hval
 exact ⟨rfl,hp.below⟩
theorem Zmx {C:Checked} {os:Os} (started:os.Started) {f:FuncId} {fn:Func} {s:ChangeSpec} {bt:TypeId}
  (own:ownKnob C.prog.godebug=none) (laid:laidOutB C.prog=true) (noInit:C.prog.inits.idxOf? f=none) (hfn:C.prog.funcs[f]?=some fn)
  {T:Tab} (hT:TabOK C.prog T) {S:List TypeId} (hS:S.all (Zgc T S)=true) (hm:fn.params.toList.all (memN S)=true) (hread:fn.params.toList.all (fun t=>C.prog.readableRec t&&decide (t<C.prog.types.size))=true)
  (hvars:s.vars=[]) (hres:fn.resultTypes = #[bt]) (hbt:C.prog.underlying bt=some .bool)
  (hsp:∀ ds:List (DataW H),ds.length=fn.params.toList.length->s.fn H ds = { results:=[.lit (.bool true)],args:=ds,vars:=[] })
  (hlaw:∀ aZ,WTsB T fn.params.toList aZ->PCall C.prog f aZ ⟨.bool true,[]⟩) {conds:List PathCond}
  (witness:∃ (w:World) (tape:Tape) (i:Input),w.os=os/\(w.forCall tape i).Shaped C.prog/\i.vars=[]/\Input.okWide C.prog (w.forCall tape i) .any w.heap.size f i /\
   s.pre6 enc C.prog fn conds false (w.forCall tape i).memory i.args/\({}:Assume).holds C.prog (lone (Frame.enter C.prog f i.args .normal) [] (w.forCall tape i))) :
  ReturnsInHanded {} C os f .any (s.pre6 enc C.prog fn conds false) (s.post enc C.prog fn false true false false):=by
 refine returnsInHanded_of_change_sized own started noInit hfn witness ?_
 intro W base args ds gs before hval0 hW hcnd hsz _
 have hval:∀ (j:Nat) t v,fn.params.toList[j]?=some t->args[j]?=some v->Mr C.prog W .any base t v:=fun j t v a b=>hval0 j t v (by simpa using a) b
 have hW':=hW
 obtain ⟨p,q,hA,hV,rfl,hfz,hnd⟩:=hW
 rw [hvars] at hV
 obtain ⟨rfl,rfl⟩:=trodVars_none hV
 have hlen:∀ (ts:List TypeId) (vs:List Value) (ds:List (DataW H)) (p:List MemPlace),Oo enc C.prog W 0 (fun _=>true) true ts vs ds p->ds.length=ts.length:=by
  intro ts
  induction ts with
  | nil=>intro vs ds p h; obtain ⟨rfl,rfl,rfl⟩:=trodAll_nil h; rfl
  | cons t ts ih=>intro vs ds p h; obtain ⟨v,vs',d,ds',q,q',rfl,rfl,rfl,hd,hr⟩:=trodAll_cons h; simp [ih _ _ _ hr]
 have hszz:∀ n∈Px C.prog fn.params.toList ds,n<=reachBytes:=fun n hn=>by
  have e:s.plain.varTypes C.prog=[]:=by simp [ChangeSpec.plain,DataSpec.varTypes,hvars]
  rw [e,Su,Su] at hsz
  simpa using Qs.1 hsz n hn
 refine (Zsa hT hS hm hlaw hval hA hszz).mono fun e W' hh=>?_
 obtain ⟨he,bel⟩:=hh
 subst he
 obtain ⟨q2,hq2⟩:=Zog laid bel _ _ _ _ hread hA (Zib _ _ _ _ hA)
 have hsp':=hsp (ds++[]) (by rw [Su]; exact hlen _ _ _ _ hA)
 refine ⟨_,rfl,ds,[],_,[],q2,[],hW',?_,?_,?_,bel.frame _,fun h=>by cases h⟩
 ·rw [hsp',hres]; exact trodAll_mk1 (shut_bool hbt _)
 ·rw [hsp']; simpa using hq2
 ·rw [hsp',hvars]; rfl
end
end Go.Sx
