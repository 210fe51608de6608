/- A part of the proof: lemmas. -/
import Derived.Test.YtfkdpbklbegnlaaGreatV13
import Derived.Test.YtfkdpbklbegnlaaGreatV10
import Derived.Test.YtfkdpbklbegnlaaGreatV12
import Derived.Test.YtfkdpbklbegnlaaGreatV7
import Derived.Laws.Bits64b
import Derived.Lib.Mul64
set_option linter.unusedVariables false
set_option linter.unusedSimpArgs false
set_option maxRecDepth 100000
set_option maxHeartbeats 16000000
open BitVec renaming ofInt->Sh
open Bool renaming and_eq_true->Qc,false_or->Od,or_eq_true->Qv
open Go.IntKind renaming i64->Qb,u64->Rn,wrap->Qa,wrap_u64->Hj
open Go.Lib renaming half_mul_le->Jg
open Go.Sx.AV.agg renaming injEq->Lk
open Go.Sx.AV.int renaming injEq->Wv
open Go.Sx.AV.isl renaming injEq->Ng
open Go.Sx.Done renaming mk->Qq
open Go.Sx.LpM renaming start->Wo,succ->Rq
open Int renaming eq_ofNat_of_zero_le->Hk,le_of_lt->Rf,lt_trichotomy->Pi,mul_le_mul_of_nonneg_left->Re,mul_neg->Sk,mul_nonneg->Qo,mul_pos->Rk,toNat->Sy,toNat_natCast->Rl
open List renaming any_cons->Nl,cons_append->Tn,drop->Ds,drop_eq_getElem_cons->Qi,drop_of_length_le->Qk,getElem?_eq_getElem->Qg,getElem?_map->Rt,getElem?_set->Ll,getElem_mem->Qr,length_cons->Sn,length_map->Rw,length_set->Hz,map_cons->Ti,map_set->Kv,mem_cons->Ra,mem_or_eq_of_mem_set->Wi,replicate->Rs,take->Dq
open List.cons renaming injEq->Qx
open Nat renaming beq->Qm,gcd->Tk,gcd_one_right->Dd,le_refl->Qd,zero_add->Sf,zero_le->Qn
open Option.some renaming injEq->Qe
namespace Go.Proofs.YtfkdpbklbegnlaaGreat
open Go Go.Sx
theorem Yg1 {pt:PC} (h:PCOK Tryz.prog pt):PCOK Tryz.prog (ins 162 r32 pt):=Zh (fun a res h=>by unfold r32 at h; split at h<;>cases h; exact c32 _ _ _ _ _) h
noncomputable abbrev plT (h:Hal) (s:Stg):List AV->Option PRes:=famA (fun i:Int=>0<=i/\i<nsur h) (fun i=>[h.av,s.av,I i]) (fun i=>⟨.tup [P2 (Zf h s i).1 (Zf h s i).2,I 0],[]⟩)
theorem Yg5 {h:Hal} (hk:h.ok) {s:Stg} (hs:s.few) (h0:serr h s=0) {pt:PC} (hp:PCOK Tryz.prog pt):PCOK Tryz.prog (ins 161 (plT h s) pt) :=
 Yl (fun i hi=>by
  have e:surE h s i=0:=by
   unfold surE
   rw [if_pos h0,if_pos (within_iff.2 (by omega))]
  have e2:Zih h s i=Zf h s i:=by unfold Zih; rw [if_pos e]
  have:=c54 hk hs i
  rw [e,e2] at this
  exact this) hp
theorem Yew {h:Hal} {s:Stg} {i:Int} (hi:0<=i/\i<nsur h):plT h s [h.av,s.av,I i]=some ⟨.tup [P2 (Zf h s i).1 (Zf h s i).2,I 0],[]⟩ :=
 Zx (p:=fun i:Int=>0<=i/\i<nsur h) (g:=fun i=>[h.av,s.av,I i]) (r:=fun i=>⟨.tup [P2 (Zf h s i).1 (Zf h s i).2,I 0],[]⟩) (fun j hj=>by
  simp only [Qx,Wv,true_and,and_true] at hj
  rw [hj]) hi
theorem d82 {h:Hal} (hk:h.ok) {s:Stg} (hs:s.few) (h0:serr h s=0) {p:Pl3} (hp:Near 5000 p) {l:List Int} (hl:l.length<=4) (hi:∀ n∈l,0<=n/\n<nsur h) :
  PCall Tryz.prog 111 [.agg (stgL h s),P3 p.1 p.2.1 p.2.2,.isl 1 (nl l)] ⟨.asl 0 0 (l.length+1),[(3,imC (im1 h s) p l l.length)]⟩:=by
 have g:=Ze4 hk hs h0
 have hkk:=Yg5 hk hs h0 (Yg1 Zb)
 have ll:=Zl l
 refine bs.pv (sx:=nos) hkk Tryz.func111 (by kernel_rfl) (by kernel_rfl) rfl ?_
 refine Zy (S:=Nat × Int × Nat × List (List AV)) (fun t=>l.length-t.1) (fun t=>[(3,.ptr 0 0 0),(7,.asl (nm2 2 3 t.1) 0 t.2.2.1),(16,.isl 1 (nl l)),(17,I (nl l).length),(18,I t.2.1)]) (fun t=>[(nm2 2 3 t.1,.row 3 t.2.2.2 true true),(0,.row 11 [stgL h s] true false)]) 3 4
  (fun t=>t.2.1=t.1/\t.1<=l.length/\t.2.2.1=t.2.2.2.length/\t.2.2.2=imC (im1 h s) p l t.1) (0,0,1,[pl3 p]) ⟨rfl,Qn _,rfl,rfl⟩ (Qd _) [] rfl (kps) (kps) ?_
 rintro ⟨k,i,len,els⟩ ⟨hi',hk',hlen,hels⟩
 dsimp only at hi' hk' hlen hels ⊢
 subst hi'
 refine bs.av (sx:=nos) hkk ?_
 have e1:els.length=k+1:=by rw [hels,Zka]
 have e2:els[0+(Qa Qb ((len:Int)-1)).toNat]?=some (pl3 (imA (im1 h s) p l k)):=by
  rw [Sf,hlen,e1,W_eq (by omega) (by omega),show (((k+1:Nat):Int)-1).toNat=k by omega,hels,Zm5]
 have e8:Qa Qb ((len:Int)-1)=k:=by rw [hlen,e1,W_eq (by omega) (by omega)]; omega
 have hnr:=Zm6 g hp hl (fun n hn=>Zhn (hi n hn).1 (hi n hn).2) k hk'
 by_cases hlt:k<l.length
 ·have e3:(nl l)[((k:Nat):Int).toNat]?=some [I l[k]]:=by simp [nl,hlt]
  have hin:=hi l[k] (Qr _)
  have e4:=Yew (s:=s) hin
  have e5:=Zbp g (Zhn hin.1 hin.2) (by omega) hnr
  have e6:=Ztb (im1 h s) p hlt
  have e7:=Ybo (im1 h s) p l k
  rw [<-hels,e6] at e7
  rw [<-e5.2.2] at e7
  clear e6 hels
  generalize imA (im1 h s) p l k=q at *
  generalize l[k]=n at *
  cases k with
  | zero =>
   repeat'(first|refine wk3 ?_|(refine wk2 ?_ ?_<;>intro _)|refine wk4 ?_|fail);all_goals(conv=>whnf)
   exact Qq ⟨(1,_,_,_),[(3,20)],rfl,kps,kps,⟨Zk (k:=0) (by omega),hlt,by exact List.length_append.symm,e7.symm⟩,by dsimp only; omega⟩
  | succ k =>
   repeat'(first|refine wk3 ?_|(refine wk2 ?_ ?_<;>intro _)|refine wk4 ?_|fail);all_goals(conv=>whnf)
   exact Qq ⟨(k+1+1,_,_,_),[(3,20)],rfl,kps,kps,⟨Zk (k:=k+1) (by omega),hlt,by exact List.length_append.symm,e7.symm⟩,by dsimp only; omega⟩
 ·have ek:k=l.length:=by omega
  subst ek
  rw [hels]
  rw [hels,Zka] at hlen
  subst hlen
  cases l with
  | nil =>
   repeat'(first|refine wk3 ?_|(refine wk2 ?_ ?_<;>intro _)|refine wk4 ?_|fail);all_goals(conv=>whnf)
   exact Xn [2] rfl rfl rfl
  | cons a l =>
   repeat'(first|refine wk3 ?_|(refine wk2 ?_ ?_<;>intro _)|refine wk4 ?_|fail);all_goals(conv=>whnf)
   exact Xn [3] rfl rfl rfl
structure Ask where
 fx:Int
 fy:Int
 fz:Int
 tx:Int
 ty:Int
 tz:Int
 n:Int
abbrev Ask.av (a:Ask):AV:=.agg [I a.fx,I a.fy,I a.fz,I a.tx,I a.ty,I a.tz,I a.n]
def Ask.same (a:Ask):Bool:=decide (a.fx=a.tx)&&(decide (a.fy=a.ty)&&decide (a.fz=a.tz))
def askE (h:Hal) (s:Stg) (a:Ask):Int:=if serr h s=0 then fstL [plaE h a.fx a.fy a.fz,plaE h a.tx a.ty a.tz,unl (!a.same) 11,unl (within a.n 0 4) 2] else serr h s
theorem Zgb {h:Hal} {s:Stg} (e:serr h s=0):h.err=0:=by
 unfold serr at e
 split at e
 ·assumption
 ·rename_i q; exact absurd e q
def r80:List AV->Option PRes
 | [.bool b,.int .i64 e]=>some ⟨I (unl b e),[]⟩
 | _=>none
theorem Ygz {pt:PC} (h:PCOK Tryz.prog pt):PCOK Tryz.prog (ins 66 r80 pt):=Zh (fun a res h=>by unfold r80 at h; split at h<;>cases h; exact d209 _ _) h
noncomputable abbrev r79 (h:Hal):List AV->Option PRes:=famA (fun _:Pl3=>True) (fun p=>[h.av,P3 p.1 p.2.1 p.2.2]) (fun p=>⟨I (plaE h p.1 p.2.1 p.2.2),[]⟩)
theorem Yg0 {h:Hal} (hk:h.ok) (he:h.err=0) {pt:PC} (hp:PCOK Tryz.prog pt):PCOK Tryz.prog (ins 65 (r79 h) pt):=Yl (fun p _=>d79 hk he p.1 p.2.1 p.2.2) hp
theorem Zmw (h:Hal) (x y z:Int):r79 h [h.av,P3 x y z]=some ⟨I (plaE h x y z),[]⟩ :=
 Zx (p:=fun _:Pl3=>True) (g:=fun p=>[h.av,P3 p.1 p.2.1 p.2.2]) (r:=fun p=>⟨I (plaE h p.1 p.2.1 p.2.2),[]⟩) (k:=(x,y,z)) (fun j hj=>by
  simp only [Qx,Lk,Wv,true_and,and_true] at hj
  obtain ⟨h1,h2,h3⟩:=hj
  rw [h1,h2,h3]) trivial
theorem Yg2 {h:Hal} (hk:h.ok) (he:h.err=0) {pt:PC} (hp:PCOK Tryz.prog pt):PCOK Tryz.prog (ins 42 (r79 h) pt):=Yl (fun p _=>d27 hk he p.1 p.2.1 p.2.2) hp
noncomputable abbrev rFst:List AV->Option PRes:=famA (fun l:List Int=>l.length<1000) (fun l=>[.isl 1 (nl l)]) (fun l=>⟨I (fstL l),[]⟩)
theorem Yeq {pt:PC} (hp:PCOK Tryz.prog pt):PCOK Tryz.prog (ins 64 rFst pt):=Yl (fun l hl=>d78 hl) hp
theorem Yax {l:List Int} (h:l.length<1000):rFst [.isl 1 (nl l)]=some ⟨I (fstL l),[]⟩ :=
 Zx (p:=fun l:List Int=>l.length<1000) (g:=fun l=>[.isl 1 (nl l)]) (r:=fun l=>⟨I (fstL l),[]⟩) (fun j hj=>by
  simp only [Qx,Ng,true_and,and_true] at hj
  rw [Zij hj]) h
theorem d24 {h:Hal} (hk:h.ok) {s:Stg} (hs:s.few) (a:Ask):PCall Tryz.prog 33 [h.av,s.av,a.av] ⟨I (askE h s a),[]⟩:=by
 have hk0:=Ze (c47 hk hs) Zb
 by_cases e:serr h s=0
 ·have he:=Zgb e
  obtain ⟨fx,fy,fz,tx,ty,tz,n⟩:=a
  unfold askE
  rw [if_pos e]
  rw [e] at hk0
  dsimp only
  have hk1:=Yg0 hk he (Ygz (Ze (d81 n) (Yeq hk0)))
  have q1:=Zmw h fx fy fz
  have q2:=Zmw h tx ty tz
  refine bs.pv (sx:=nos) hk1 Tryz.func33 (by kernel_rfl) (by kernel_rfl) rfl ?_
  repeat'(first|refine wk3 ?_|(refine wk2 ?_ ?_<;>intro _)|refine wk4 ?_|fail);all_goals(conv=>whnf)
  refine wxG (Yax (l:=[_,_,_,_]) (by simp)) ?_
  conv=>whnf
  repeat'(first|refine wk3 ?_|(refine wk2 ?_ ?_<;>intro _)|refine wk4 ?_|fail);all_goals(conv=>whnf)
  exact Za (by simp [Ask.same])
 ·rw [show askE h s a=serr h s by unfold askE; rw [if_neg e]]
  refine bs.pv (sx:=nos) hk0 Tryz.func33 (by kernel_rfl) (by kernel_rfl) rfl ?_
  repeat'(first|refine wk3 ?_|(refine wk2 ?_ ?_<;>intro _)|refine wk4 ?_|fail);all_goals(conv=>whnf)
  all_goals first
   | exact Za rfl
   | (exfalso; simp_all; done)
theorem d82f {h:Hal} (hk:h.ok) {s:Stg} (hs:s.few) (h0:serr h s=0) {p:Pl3} (hp:Near 5000 p) {l:List Int} (hl:l.length<=4) (hi:∀ n∈l,0<=n/\n<nsur h) :
  PCall Tryz.prog 111 [.agg (stgL h s),P3 p.1 p.2.1 p.2.2,.isl 1 (nl l)] ⟨.isl 3 (imC (im1 h s) p l l.length),[]⟩:=by
 have:=d82 hk hs h0 hp hl hi
 rw [show l.length+1=(imC (im1 h s) p l l.length).length by rw [Zka]] at this
 exact this.freeze ⟨rfl,rfl,rfl⟩
theorem Zsg {h:Hal} {l:List Int} (e:suE h l=0):l.length<=4/\∀ n∈l,0<=n/\n<nsur h:=by
 unfold suE at e
 split at e
 ·cases e
 ·exact ⟨by omega,fun n hn=>by have:=Zr9 e n hn; omega⟩
theorem Zgk {h:Hal} {x y z:Int} (e:plaE h x y z=0):Near 5000 (x,y,z)/\Zai h ⟨x,y,z,1⟩=true:=by
 unfold plaE at e
 split at e
 ·rename_i c
  simp only [plcB,Qc,within_iff] at c
  refine ⟨⟨by dsimp only; omega,by dsimp only; omega,by dsimp only; omega⟩,?_⟩
  unfold unl at e
  cases hb:Zai h ⟨x,y,z,1⟩ with
  | true=>rfl
  | false=>rw [hb] at e; cases e
 ·cases e
def atW (c:Int × Int) (l m:Int):Int:=l*c.1+m*c.2
def Zow (cs:List (Int × Int)):Prop:=∃ l m:Int,0<l/\0<m/\∀ c∈cs,0<=atW c l m
theorem Yif {l0 m0:Int} (h1:0<l0) (h2:0<m0) {l m:Int} (hl:0<l) (hm:0<m):∀ cs:List (Int × Int),(∀ c∈cs,0<=atW c l m)->∃ a b:Int,0<a/\0<b/\(∀ c∈cs,0<=atW c a b)/\((a=l0/\b=m0)\/∃ c∈cs,atW c a b=0)
 | [],_=>⟨l0,m0,h1,h2,by simp,.inl ⟨rfl,rfl⟩⟩
 | c::cs,h=>by
  obtain ⟨a,b,ha,hb,k1,k2⟩:=Yif h1 h2 hl hm cs fun c' hc=>h c' (by simp [hc])
  have hT:=h c (by simp)
  by_cases hc:0<=atW c a b
  ·refine ⟨a,b,ha,hb,fun c' hc'=>?_,?_⟩
   ·rcases Ra.1 hc' with rfl|hc'
    ·exact hc
    ·exact k1 c' hc'
   ·rcases k2 with k2|⟨c',g1,g2⟩
    ·exact .inl k2
    ·exact .inr ⟨c',by simp [g1],g2⟩
  ·have hN:0 < -atW c a b:=by omega
   have comb:∀ c' : Int × Int,atW c' (-atW c a b*l+atW c l m*a) (-atW c a b*m+atW c l m*b) = -atW c a b*atW c' l m+atW c l m*atW c' a b:=by
    intro c'
    generalize atW c a b=N
    generalize atW c l m=T
    unfold atW; grind
   refine ⟨-atW c a b*l+atW c l m*a,-atW c a b*m+atW c l m*b,?_,?_,fun c' hc'=>?_,.inr ⟨c,by simp,?_⟩⟩
   ·have:=Rk hN hl
    have:=Qo hT (Rf ha)
    omega
   ·have:=Rk hN hm
    have:=Qo hT (Rf hb)
    omega
   ·rw [comb]
    rcases Ra.1 hc' with rfl|hc'
    ·have : -atW c' a b*atW c' l m+atW c' l m*atW c' a b=0:=by grind
     omega
    ·have:=Qo (Rf hN) (h c' (by simp [hc']))
     have:=Qo hT (k1 c' hc')
     omega
   ·rw [comb]; grind
def rcN (r:Rc) (p q:P2d):List (Int × Int):=[(p.x-r.xl*p.d,q.x-r.xl*q.d),(r.xh*p.d-p.x,r.xh*q.d-q.x),(p.y-r.yl*p.d,q.y-r.yl*q.d),(r.yh*p.d-p.y,r.yh*q.d-q.y)]
def edgP (r:Rc):List Wl:=[⟨0,r.xl,r.yl,r.xh,r.yl⟩,⟨0,r.xh,r.yl,r.xh,r.yh⟩,⟨0,r.xh,r.yh,r.xl,r.yh⟩,⟨0,r.xl,r.yh,r.xl,r.yl⟩]
def midX (p q:Pt):Int:=Qa Qb (Qa Qb (p.x*q.d)+Qa Qb (q.x*p.d))
def midY (p q:Pt):Int:=Qa Qb (Qa Qb (p.y*q.d)+Qa Qb (q.y*p.d))
def midD (p q:Pt):Int:=Qa Qb (Qa Qb (2*p.d)*q.d)
def Zve (r:Rc) (p q:Pt):Bool:=r.has (midX p q) (midY p q) (midD p q)||(edgP r).any (touP p q)||(r.holds p.x p.y p.d||r.holds q.x q.y q.d)
theorem Zxc {p q:Pt} (hp:PtR p) (hq:PtR q):midX p q=p.x*q.d+q.x*p.d/\midY p q=p.y*q.d+q.y*p.d/\midD p q=2*p.d*q.d:=by
 obtain ⟨a1,a2,a3,a4⟩:=hp
 obtain ⟨b1,b2,b3,b4⟩:=hq
 have m1:=Zu (a:=q.x) (b:=p.d) (A:=500000000) (B:=100000) (by omega) (by omega)
 have m2:=Zu (a:=p.x) (b:=q.d) (A:=500000000) (B:=100000) (by omega) (by omega)
 have m3:=Zu (a:=q.y) (b:=p.d) (A:=500000000) (B:=100000) (by omega) (by omega)
 have m4:=Zu (a:=p.y) (b:=q.d) (A:=500000000) (B:=100000) (by omega) (by omega)
 have m5:=Zu (a:=2*p.d) (b:=q.d) (A:=200000) (B:=100000) (by omega) (by omega)
 unfold midX midY midD
 rw [W_eq (n:=q.x*p.d) (by omega) (by omega),W_eq (n:=p.x*q.d) (by omega) (by omega),W_eq (n:=q.y*p.d) (by omega) (by omega),W_eq (n:=p.y*q.d) (by omega) (by omega),W_eq (n:=2*p.d) (by omega) (by omega)]
 exact ⟨W_eq (by omega) (by omega),W_eq (by omega) (by omega),W_eq (by omega) (by omega)⟩
theorem Yf1 {r:Rc} (hr:RcOk r):Str ⟨0,r.xl,r.yl,r.xh,r.yl⟩ (r.xh-r.xl) 1 0/\Str ⟨0,r.xh,r.yl,r.xh,r.yh⟩ (r.yh-r.yl) 0 1/\Str ⟨0,r.xh,r.yh,r.xl,r.yh⟩ (r.xh-r.xl) (-1) 0/\Str ⟨0,r.xl,r.yh,r.xl,r.yl⟩ (r.yh-r.yl) 0 (-1):=by
 obtain ⟨h1,h2,h3,h4,h5,h6⟩:=hr
 refine ⟨⟨?_,?_,?_,?_,?_,?_,?_,?_,?_,?_⟩,⟨?_,?_,?_,?_,?_,?_,?_,?_,?_,?_⟩,⟨?_,?_,?_,?_,?_,?_,?_,?_,?_,?_⟩,⟨?_,?_,?_,?_,?_,?_,?_,?_,?_,?_⟩⟩<;>(try dsimp only)<;>omega
theorem rcN_mem {r:Rc} {p q:P2d} {l m:Int}:(∀ c∈rcN r p q,0<=atW c l m)↔0<=l*(p.x-r.xl*p.d)+m*(q.x-r.xl*q.d)/\0<=l*(r.xh*p.d-p.x)+m*(r.xh*q.d-q.x)/\0<=l*(p.y-r.yl*p.d)+m*(q.y-r.yl*q.d)/\0<=l*(r.yh*p.d-p.y)+m*(r.yh*q.d-q.y):=by
 simp [rcN,atW]
theorem Zyy {r:Rc} (hr:RcOk r) {p q:P2d} (h1:0<p.d) (h2:0<q.d) (l m:Int) (hl:0<l) (hm:0<m) :
  ((∀ c∈rcN r p q,0<=atW c l m)/\∃ c∈rcN r p q,atW c l m=0)->(Ug ⟨0,r.xl,r.yl,r.xh,r.yl⟩ (r.xh-r.xl) 1 0 p q\/Ug ⟨0,r.xh,r.yl,r.xh,r.yh⟩ (r.yh-r.yl) 0 1 p q\/Ug ⟨0,r.xh,r.yh,r.xl,r.yh⟩ (r.xh-r.xl) (-1) 0 p q\/Ug ⟨0,r.xl,r.yh,r.xl,r.yl⟩ (r.yh-r.yl) 0 (-1) p q):=by
 rintro ⟨h,c,hc,h0⟩
 rw [rcN_mem] at h
 obtain ⟨k1,k2,k3,k4⟩:=h
 have e1:l*(r.xh*p.d-p.x)+m*(r.xh*q.d-q.x)=(r.xh-r.xl)*(l*p.d+m*q.d)-(l*(p.x-r.xl*p.d)+m*(q.x-r.xl*q.d)):=by grind
 have e2:l*(r.yh*p.d-p.y)+m*(r.yh*q.d-q.y)=(r.yh-r.yl)*(l*p.d+m*q.d)-(l*(p.y-r.yl*p.d)+m*(q.y-r.yl*q.d)):=by grind
 unfold Ug bsP alP ful bes alo
 dsimp only
 simp only [rcN,Ra,List.not_mem_nil,or_false] at hc
 rcases hc with rfl|rfl|rfl|rfl<;>unfold atW at h0<;>dsimp only at h0
 ·refine .inr (.inr (.inr ⟨l,m,hl,hm,?_,?_,?_⟩))
  ·grind
  ·grind
  ·grind
 ·refine .inr (.inl ⟨l,m,hl,hm,?_,?_,?_⟩)
  ·grind
  ·grind
  ·grind
 ·refine .inl ⟨l,m,hl,hm,?_,?_,?_⟩
  ·grind
  ·grind
  ·grind
 ·refine .inr (.inr (.inl ⟨l,m,hl,hm,?_,?_,?_⟩))
  ·grind
  ·grind
  ·grind
theorem Zxd {r:Rc} (hr:RcOk r) {p q:P2d} (h1:0<p.d) (h2:0<q.d) (h:Ug ⟨0,r.xl,r.yl,r.xh,r.yl⟩ (r.xh-r.xl) 1 0 p q\/Ug ⟨0,r.xh,r.yl,r.xh,r.yh⟩ (r.yh-r.yl) 0 1 p q\/Ug ⟨0,r.xh,r.yh,r.xl,r.yh⟩ (r.xh-r.xl) (-1) 0 p q\/Ug ⟨0,r.xl,r.yh,r.xl,r.yl⟩ (r.yh-r.yl) 0 (-1) p q):Zow (rcN r p q):=by
 have key:∀ l m:Int,0<l->0<m->0<=(r.xh-r.xl)*(l*p.d+m*q.d)/\0<=(r.yh-r.yl)*(l*p.d+m*q.d):=by
  intro l m hl hm
  have k1:=Rk hl h1
  have k2:=Rk hm h2
  have:=hr.x
  have:=hr.y
  exact ⟨Qo (by omega) (by omega),Qo (by omega) (by omega)⟩
 unfold Ug bsP alP ful bes alo at h
 dsimp only at h
 unfold Zow
 rcases h with ⟨l,m,hl,hm,k1,k2,k3⟩|⟨l,m,hl,hm,k1,k2,k3⟩|⟨l,m,hl,hm,k1,k2,k3⟩|⟨l,m,hl,hm,k1,k2,k3⟩<;>refine ⟨l,m,hl,hm,rcN_mem.2 ?_⟩<;>obtain ⟨g1,g2⟩:=key l m hl hm<;>refine ⟨?_,?_,?_,?_⟩<;>grind
theorem Zy7 {r:Rc} (hr:RcOk r) {p q:Pt} (hp:PtR p) (hq:PtR q):Zve r p q=true↔Zow (rcN r p.pl q.pl):=by
 obtain ⟨e1,e2,e3⟩:=Zxc hp hq
 obtain ⟨s1,s2,s3,s4⟩:=Yf1 hr
 have dp:=hp.d0
 have dq:=hq.d0
 have dp1:=hp.d1
 have dq1:=hq.d1
 have hD:=Rk (show 0<2*p.d by omega) dq
 have hD2:=(Zu (a:=2*p.d) (b:=q.d) (A:=200000) (B:=100000) (by omega) (by omega)).2
 unfold Zve
 rw [e1,e2,e3,Qv,Qv,Qv,Zsp hr ⟨hD,by omega⟩,Zek hr ⟨dp,by omega⟩,Zek hr ⟨dq,by omega⟩]
 have ea:(edgP r).any (touP p q)=true↔(Ug ⟨0,r.xl,r.yl,r.xh,r.yl⟩ (r.xh-r.xl) 1 0 p.pl q.pl\/Ug ⟨0,r.xh,r.yl,r.xh,r.yh⟩ (r.yh-r.yl) 0 1 p.pl q.pl\/Ug ⟨0,r.xh,r.yh,r.xl,r.yh⟩ (r.xh-r.xl) (-1) 0 p.pl q.pl\/Ug ⟨0,r.xl,r.yh,r.xl,r.yl⟩ (r.yh-r.yl) 0 (-1) p.pl q.pl):=by
  simp only [edgP,Nl,List.any_nil,Bool.or_false,Qv]
  rw [Zej s1 hp hq,Zej s2 hp hq,Zej s3 hp hq,Zej s4 hp hq]
 rw [ea]
 have mm:(0<=p.x*q.d+q.x*p.d-r.xl*(2*p.d*q.d)/\0<=r.xh*(2*p.d*q.d)-(p.x*q.d+q.x*p.d)/\0<=p.y*q.d+q.y*p.d-r.yl*(2*p.d*q.d)/\0<=r.yh*(2*p.d*q.d)-(p.y*q.d+q.y*p.d))↔∀ c∈rcN r p.pl q.pl,0<=atW c q.d p.d:=by
  rw [rcN_mem]
  unfold Pt.pl
  dsimp only
  have k1:q.d*(p.x-r.xl*p.d)+p.d*(q.x-r.xl*q.d)=p.x*q.d+q.x*p.d-r.xl*(2*p.d*q.d):=by grind
  have k2:q.d*(r.xh*p.d-p.x)+p.d*(r.xh*q.d-q.x)=r.xh*(2*p.d*q.d)-(p.x*q.d+q.x*p.d):=by grind
  have k3:q.d*(p.y-r.yl*p.d)+p.d*(q.y-r.yl*q.d)=p.y*q.d+q.y*p.d-r.yl*(2*p.d*q.d):=by grind
  have k4:q.d*(r.yh*p.d-p.y)+p.d*(r.yh*q.d-q.y)=r.yh*(2*p.d*q.d)-(p.y*q.d+q.y*p.d):=by grind
  rw [k1,k2,k3,k4]
 rw [mm]
 have big:∀ a b:Int,0<a->0<=(b.natAbs+1:Int)*a+b:=fun a b ha=>by
  have:=Re (show 1<=a by omega) (show (0:Int)<=(b.natAbs:Int)+1 by omega)
  omega
 have holdsIn:∀ p q:P2d,(0<p.x-r.xl*p.d/\0<r.xh*p.d-p.x/\0<p.y-r.yl*p.d/\0<r.yh*p.d-p.y)->∃ N:Int,0<N/\0<=N*(p.x-r.xl*p.d)+1*(q.x-r.xl*q.d)/\0<=N*(r.xh*p.d-p.x)+1*(r.xh*q.d-q.x)/\0<=N*(p.y-r.yl*p.d)+1*(q.y-r.yl*q.d)/\0<=N*(r.yh*p.d-p.y)+1*(r.yh*q.d-q.y):=by
  rintro p q ⟨h1,h2,h3,h4⟩
  have mono:∀ a b N:Int,0<a->(b.natAbs:Int)<=N->0<=N*a+1*b:=fun a b N ha hN=>by
   have:=Re (show 1<=a by omega) (show 0<=N by omega)
   omega
  refine ⟨((q.x-r.xl*q.d).natAbs:Int)+(r.xh*q.d-q.x).natAbs+(q.y-r.yl*q.d).natAbs+(r.yh*q.d-q.y).natAbs+1,by omega,mono _ _ _ h1 (by omega),mono _ _ _ h2 (by omega),mono _ _ _ h3 (by omega),mono _ _ _ h4 (by omega)⟩
 constructor
 ·rintro ((h|h)|h|h)
  ·exact ⟨q.d,p.d,dq,dp,h⟩
  ·exact Zxd hr dp dq h
  ·obtain ⟨N,h0,h1,h2,h3,h4⟩:=holdsIn p.pl q.pl h
   exact ⟨N,1,h0,by omega,rcN_mem.2 ⟨h1,h2,h3,h4⟩⟩
  ·obtain ⟨N,h0,h1,h2,h3,h4⟩:=holdsIn q.pl p.pl h
   exact ⟨1,N,by omega,h0,rcN_mem.2 ⟨by omega,by omega,by omega,by omega⟩⟩
 ·rintro ⟨l,m,hl,hm,h⟩
  obtain ⟨a,b,ha,hb,k1,k2⟩:=Yif (l0:=q.d) (m0:=p.d) dq dp hl hm _ h
  rcases k2 with ⟨rfl,rfl⟩|k2
  ·exact .inl (.inl k1)
  ·exact .inl (.inr (Zyy hr dp dq a b ha hb ⟨k1,k2⟩))
structure PtH (p:Pt):Prop where
 r:PtR p
 z : -(5000*p.d)<=p.z/\p.z<=5000*p.d
theorem Ycu {p:Pt} (h:Yu p=0):PtH p:=by
 obtain ⟨h1,h2,_,h4⟩:=Zb3 h
 unfold ptIn at h4
 simp only [Qc,within_iff] at h4
 exact ⟨⟨h1,h2,h4.1.1,h4.1.2⟩,h4.2⟩
def zOff (ht:Int) (p:Pt):Int:=Qa Qb (p.z-Qa Qb (ht*p.d))
theorem Zme {ht:Int} (hh:0<=ht/\ht<=5000) {p:Pt} (hp:PtH p):zOff ht p=p.z-ht*p.d/\Qa Qb (ht*p.d)=ht*p.d/\(-1000000000<=p.z-ht*p.d/\p.z-ht*p.d<=1000000000):=by
 obtain ⟨⟨a1,a2,_,_⟩,a5⟩:=hp
 have c1:=Zi (f:=ht) (d:=p.d) (by omega) a1
 unfold zOff
 rw [W_eq (n:=ht*p.d) (by omega) (by omega)]
 exact ⟨W_eq (by omega) (by omega),rfl,by omega⟩
def blkS (r:Rc) (ht:Int) (p q:Pt):Prop:=∃ l m:Int,0<l/\0<m/\l*(p.z-ht*p.d)+m*(q.z-ht*q.d)=0/\∀ c∈rcN r p.pl q.pl,0<=atW c l m
theorem Zzm {r:Rc} {ht:Int} {p q:Pt} (h1:p.z-ht*p.d=0) (h2:q.z-ht*q.d=0):blkS r ht p q↔Zow (rcN r p.pl q.pl):=by
 unfold blkS Zow
 rw [h1,h2]
 exact ⟨fun ⟨l,m,a,b,_,c⟩=>⟨l,m,a,b,c⟩,fun ⟨l,m,a,b,c⟩=>⟨l,m,a,b,by omega,c⟩⟩
theorem Zzl {r:Rc} {ht:Int} {p q:Pt} (h0:¬(p.z-ht*p.d=0/\q.z-ht*q.d=0)) (h1:0<=sgn (p.z-ht*p.d)*sgn (q.z-ht*q.d)):¬ blkS r ht p q:=by
 rintro ⟨l,m,hl,hm,e,_⟩
 have hs:¬ (sgn (p.z-ht*p.d)*sgn (q.z-ht*q.d)<0):=by omega
 rw [sgn_mul_neg] at hs
 generalize p.z-ht*p.d=a at *
 generalize q.z-ht*q.d=b at *
 by_cases ha:0<a
 ·have:=(Zdz hl).2 ha
  have:=(nn_l hm).2 (show 0<=b by omega)
  omega
 by_cases hb:a<0
 ·have:=(Zgm hl).2 hb
  have:=(np_l hm).2 (show b<=0 by omega)
  omega
 have:a=0:=by omega
 subst this
 have:m*b≠0:=Int.mul_ne_zero (by omega) (by omega)
 omega
theorem blkS_swap {r:Rc} {ht:Int} {p q:Pt}:blkS r ht p q↔blkS r ht q p:=by
 have key:∀ p q,blkS r ht p q->blkS r ht q p:=by
  rintro p q ⟨l,m,h1,h2,h3,h4⟩
  refine ⟨m,l,h2,h1,by omega,?_⟩
  rw [rcN_mem] at h4 ⊢
  omega
 exact ⟨key _ _,key _ _⟩
theorem Zma {r:Rc} {ht:Int} {p q:Pt} {f g:Int} (hf:p.z-ht*p.d=f) (hg:q.z-ht*q.d=g) (h1:f<0/\0<g):blkS r ht p q↔∀ c∈rcN r p.pl q.pl,0<=atW c g (-f):=by
 unfold blkS
 rw [hf,hg]
 constructor
 ·rintro ⟨l,m,hl,hm,e,h⟩ c hc
  have k1:g*atW c l m=l*atW c g (-f):=by unfold atW; grind
  have q1:=(nn_l h1.2).2 (h c hc)
  rw [k1,nn_l hl] at q1
  exact q1
 ·intro h
  exact ⟨g,-f,h1.2,by omega,by grind,h⟩
theorem Zpr {r:Rc} (hr:RcOk r) {p q:Pt} (hp:PtR p) (hq:PtR q) {f g:Int} (h1:f<0/\0<g) (h2 : -1000000000<=f/\g<=1000000000):r.has (p.x*g-q.x*f) (p.y*g-q.y*f) (p.d*g-q.d*f)=true↔∀ c∈rcN r p.pl q.pl,0<=atW c g (-f):=by
 obtain ⟨a1,a2,a3,a4⟩:=hp
 obtain ⟨b1,b2,b3,b4⟩:=hq
 have k1:=Rk a1 h1.2
 have k2:=Rk b1 (show 0 < -f by omega)
 rw [Sk] at k2
 have m1:=Zu (a:=p.d) (b:=g) (A:=100000) (B:=1000000000) (by omega) (by omega)
 have m2:=Zu (a:=q.d) (b:=f) (A:=100000) (B:=1000000000) (by omega) (by omega)
 rw [Zsp hr ⟨by omega,by omega⟩,rcN_mem]
 unfold Pt.pl
 dsimp only
 have e1:g*(p.x-r.xl*p.d) + -f*(q.x-r.xl*q.d)=p.x*g-q.x*f-r.xl*(p.d*g-q.d*f):=by grind
 have e2:g*(r.xh*p.d-p.x) + -f*(r.xh*q.d-q.x)=r.xh*(p.d*g-q.d*f)-(p.x*g-q.x*f):=by grind
 have e3:g*(p.y-r.yl*p.d) + -f*(q.y-r.yl*q.d)=p.y*g-q.y*f-r.yl*(p.d*g-q.d*f):=by grind
 have e4:g*(r.yh*p.d-p.y) + -f*(r.yh*q.d-q.y)=r.yh*(p.d*g-q.d*f)-(p.y*g-q.y*f):=by grind
 rw [e1,e2,e3,e4]
def atX (a b:Int) (u v:Int):Int:=Qa Qb (Qa Qb (a*u)+Qa Qb (b*v))
def blkP (r:Rc) (ht:Int) (p q:Pt):Bool :=
 if p.z=Qa Qb (ht*p.d)/\q.z=Qa Qb (ht*q.d) then Zve r p q
 else if 0<=Qa Qb (sgn (zOff ht p)*sgn (zOff ht q)) then false
 else r.has (atX p.x q.x (size (zOff ht q)) (size (zOff ht p))) (atX p.y q.y (size (zOff ht q)) (size (zOff ht p))) (atX p.d q.d (size (zOff ht q)) (size (zOff ht p)))
theorem x_bd {a d f:Int} (hd:0<d/\d<=100000) (ha : -(5000*d)<=a/\a<=5000*d) (hf : -1000000000<=f/\f<=1000000000) : -500000000000000000<=a*f/\a*f<=500000000000000000:=by
 have:=Zu (a:=a) (b:=f) (A:=500000000) (B:=1000000000) (by omega) (by omega)
 omega
theorem d_bd {d f:Int} (hd:0<d/\d<=100000) (hf : -1000000000<=f/\f<=1000000000) : -100000000000000<=d*f/\d*f<=100000000000000:=by
 have:=Zu (a:=d) (b:=f) (A:=100000) (B:=1000000000) (by omega) (by omega)
 omega
theorem Yf3 {ht:Int} (hh:0<=ht/\ht<=5000) {p q:Pt} (hp:PtH p) (hq:PtH q):(p.z=Qa Qb (ht*p.d)/\q.z=Qa Qb (ht*q.d))↔(p.z-ht*p.d=0/\q.z-ht*q.d=0):=by
 rw [(Zme hh hp).2.1,(Zme hh hq).2.1]; omega
theorem Ycf {r:Rc} (hr:RcOk r) {ht:Int} (hh:0<=ht/\ht<=5000) {p q:Pt} (hp:PtH p) (hq:PtH q):blkP r ht p q=true↔blkS r ht p q:=by
 obtain ⟨e1,_,b1⟩:=Zme hh hp
 obtain ⟨e2,_,b2⟩:=Zme hh hq
 unfold blkP
 simp only [Yf3 hh hp hq]
 rw [e1,e2]
 by_cases h0:p.z-ht*p.d=0/\q.z-ht*q.d=0
 ·rw [if_pos h0,Zzm h0.1 h0.2,Zy7 hr hp.r hq.r]
 rw [if_neg h0,Zia]
 by_cases h1:0<=sgn (p.z-ht*p.d)*sgn (q.z-ht*q.d)
 ·rw [if_pos h1]
  exact ⟨fun h=>by simp at h,fun h=>absurd h (Zzl h0 h1)⟩
 rw [if_neg h1]
 have h2:=sgn_mul_neg.1 (show sgn (p.z-ht*p.d)*sgn (q.z-ht*q.d)<0 by omega)
 generalize hf:p.z-ht*p.d=f at *
 generalize hg:q.z-ht*q.d=g at *
 have hp1:=hp.r
 have hq1:=hq.r
 have x1:=x_bd (f:=g) ⟨hp1.d0,hp1.d1⟩ hp1.x (by omega)
 have x2:=x_bd (f:=f) ⟨hq1.d0,hq1.d1⟩ hq1.x (by omega)
 have y1:=x_bd (f:=g) ⟨hp1.d0,hp1.d1⟩ hp1.y (by omega)
 have y2:=x_bd (f:=f) ⟨hq1.d0,hq1.d1⟩ hq1.y (by omega)
 have d1:=d_bd (f:=g) ⟨hp1.d0,hp1.d1⟩ (by omega)
 have d2:=d_bd (f:=f) ⟨hq1.d0,hq1.d1⟩ (by omega)
 rcases h2 with h2|h2
 ·have s1:size g=g:=by rw [Zck (by omega),if_neg (by omega)]
  have s2:size f = -f:=by rw [Zck (by omega),if_pos (by omega)]
  have ax:∀ a b:Int,(-500000000000000000<=a*g/\a*g<=500000000000000000)->(-500000000000000000<=b*f/\b*f<=500000000000000000)->atX a b (size g) (size f)=a*g-b*f:=by
   intro a b k1 k2
   unfold atX
   rw [s1,s2,Sk,W_eq (n:=a*g) (by omega) (by omega),W_eq (n:=-(b*f)) (by omega) (by omega),W_eq (by omega) (by omega)]
   omega
  rw [ax _ _ x1 x2,ax _ _ y1 y2,ax _ _ (by omega) (by omega),Zpr hr hp1 hq1 h2 (by omega),Zma hf hg h2]
 ·have s1:size g = -g:=by rw [Zck (by omega),if_pos (by omega)]
  have s2:size f=f:=by rw [Zck (by omega),if_neg (by omega)]
  have ax:∀ a b:Int,(-500000000000000000<=a*g/\a*g<=500000000000000000)->(-500000000000000000<=b*f/\b*f<=500000000000000000)->atX a b (size g) (size f)=b*f-a*g:=by
   intro a b k1 k2
   unfold atX
   rw [s1,s2,Sk,W_eq (n:=b*f) (by omega) (by omega),W_eq (n:=-(a*g)) (by omega) (by omega),W_eq (by omega) (by omega)]
   omega
  rw [ax _ _ x1 x2,ax _ _ y1 y2,ax _ _ (by omega) (by omega),Zpr hr hq1 hp1 (by omega) (by omega),blkS_swap,Zma hg hf (by omega)]
abbrev U (n:Int):AV:=.int .u64 n
abbrev wayA (p q:Pt):AV:=.agg [I p.x,I p.y,I p.z,I p.d,I q.x,I q.y,I q.z,I q.d]
theorem c204 (p q:Pt):PCall Tryz.prog 289 [wayA p q] ⟨.tup [I (Zqh p q),I (Zqg p q)],[]⟩:=by
 refine bs.pv (sx:=nos) Zb Tryz.func289 (by kernel_rfl) (by kernel_rfl) rfl ?_
 repeat'(first|refine wk0 ?_|(refine wk2 ?_ ?_<;>intro _)|refine wk4 ?_|fail);all_goals(conv=>whnf)
 exact Zg rfl rfl
theorem c207 (fr den to oth a b:Int):PCall Tryz.prog 290 [I fr,I den,I to,I oth,I a,I b] ⟨Bo (ovl fr den to oth a b),[]⟩:=by
 refine bs.pv (sx:=nos) Zb Tryz.func290 (by kernel_rfl) (by kernel_rfl) rfl ?_
 repeat'(first|refine wk0 ?_|(refine wk2 ?_ ?_<;>intro _)|refine wk4 ?_|fail);all_goals(conv=>whnf)
 all_goals (refine Zd ?_; simp_all [ovl]<;>(intro _; omega))
theorem c182 (p q:Pt):PCall Tryz.prog 261 [wayA p q] ⟨.tup [I (midX p q),I (midY p q),I (midD p q)],[]⟩:=by
 refine bs.pv (sx:=nos) Zb Tryz.func261 (by kernel_rfl) (by kernel_rfl) rfl ?_
 repeat'(first|refine wk0 ?_|(refine wk2 ?_ ?_<;>intro _)|refine wk4 ?_|fail);all_goals(conv=>whnf)
 exact Zg rfl rfl
def u64 (n:Int):Prop:=0<=n/\n<18446744073709551616
theorem mkN (a:Nat) (ha:a<18446744073709551616):Qa Rn (((Sh IntKind.u64.bits (a:Int) &&& Sh IntKind.u64.bits 4294967295).toNat:Nat):Int)=((a%4294967296:Nat):Int):=by
 have h:=bits_and_u64_nat a 4294967295 ha (by omega)
 have e:a &&& 4294967295=a%4294967296:=Nat.and_two_pow_sub_one_eq_mod a 32
 rw [e] at h
 exact h
theorem fdN (a:Nat):(a:Int).fdiv (2 ^ min (Sy 32) IntKind.u64.bits)=((a / 4294967296:Nat):Int):=by
 rw [show (2 ^ min (Sy 32) IntKind.u64.bits:Int)=4294967296 from rfl,Int.fdiv_eq_ediv_of_nonneg _ (by omega)]; omega
theorem mulN (a b:Nat):(a:Int)*(b:Int)=((a*b:Nat):Int):=(Int.natCast_mul a b).symm
theorem addN (a b:Nat):(a:Int)+(b:Int)=((a+b:Nat):Int):=(Int.natCast_add a b).symm
theorem Znm (a:Nat) (ha:a<18446744073709551616):Qa Rn (a:Int)=(a:Int):=by rw [Hj]; omega
theorem Yiq (a:Nat):Qa Rn (a:Int)=((a%18446744073709551616:Nat):Int):=by rw [Hj]; omega
theorem Ya9 (x y:Nat) (hx:x<18446744073709551616) (hy:y<18446744073709551616):AV.tup [AV.int Rn (Qa Rn (Qa Rn (Qa Rn (((x:Int)).fdiv (2 ^ min (Sy 32) IntKind.u64.bits)*((y:Int)).fdiv (2 ^ min (Sy 32) IntKind.u64.bits))+((Qa Rn (Qa Rn (((x:Int)).fdiv (2 ^ min (Sy 32) IntKind.u64.bits)*Qa Rn ((Sh IntKind.u64.bits ((y:Int)) &&& Sh IntKind.u64.bits 4294967295).toNat:Int))+((Qa Rn ((Qa Rn ((Sh IntKind.u64.bits ((x:Int)) &&& Sh IntKind.u64.bits 4294967295).toNat:Int))*(Qa Rn ((Sh IntKind.u64.bits ((y:Int)) &&& Sh IntKind.u64.bits 4294967295).toNat:Int)))).fdiv (2 ^ min (Sy 32) IntKind.u64.bits)))).fdiv (2 ^ min (Sy 32) IntKind.u64.bits)))+((Qa Rn (Qa Rn ((Sh IntKind.u64.bits (Qa Rn (Qa Rn (((x:Int)).fdiv (2 ^ min (Sy 32) IntKind.u64.bits)*Qa Rn ((Sh IntKind.u64.bits ((y:Int)) &&& Sh IntKind.u64.bits 4294967295).toNat:Int))+((Qa Rn ((Qa Rn ((Sh IntKind.u64.bits ((x:Int)) &&& Sh IntKind.u64.bits 4294967295).toNat:Int))*(Qa Rn ((Sh IntKind.u64.bits ((y:Int)) &&& Sh IntKind.u64.bits 4294967295).toNat:Int)))).fdiv (2 ^ min (Sy 32) IntKind.u64.bits)))) &&& Sh IntKind.u64.bits 4294967295).toNat:Int)+Qa Rn (Qa Rn ((Sh IntKind.u64.bits ((x:Int)) &&& Sh IntKind.u64.bits 4294967295).toNat:Int)*((y:Int)).fdiv (2 ^ min (Sy 32) IntKind.u64.bits)))).fdiv (2 ^ min (Sy 32) IntKind.u64.bits)))),AV.int Rn (Qa Rn ((x:Int)*(y:Int)))]=AV.tup [U ((x:Int)*(y:Int) / 18446744073709551616),U ((x:Int)*(y:Int)%18446744073709551616)]:=by
 obtain ⟨bd,bt,bw,hhi⟩:=Go.Lib.mul64_hi x y hx hy
 have ba:=Jg (a:=x / 4294967296) (b:=y / 4294967296) (by omega) (by omega)
 have bb:=Jg (a:=x / 4294967296) (b:=y%4294967296) (by omega) (by omega)
 have bc:=Jg (a:=x%4294967296) (b:=y / 4294967296) (by omega) (by omega)
 have ba' : x / 4294967296*(y / 4294967296)<18446744073709551616:=by omega
 have bb' : x / 4294967296*(y%4294967296)<18446744073709551616:=by omega
 have bc' : x%4294967296*(y / 4294967296)<18446744073709551616:=by omega
 have bh1:x / 4294967296*(y / 4294967296)+(x / 4294967296*(y%4294967296)+x%4294967296*(y%4294967296) / 4294967296) / 4294967296<18446744073709551616:=by omega
 have bh:x / 4294967296*(y / 4294967296)+(x / 4294967296*(y%4294967296)+x%4294967296*(y%4294967296) / 4294967296) / 4294967296+((x / 4294967296*(y%4294967296)+x%4294967296*(y%4294967296) / 4294967296)%4294967296+x%4294967296*(y / 4294967296)) / 4294967296<18446744073709551616:=by omega
 simp only [mkN x hx,mkN y hy,fdN,mulN,addN,Znm _ bd,Znm _ bb',Znm _ bt,mkN _ bt,Znm _ bc',Znm _ bw,Znm _ ba',Znm _ bh1,Znm _ bh,Yiq (x*y)]
 rw [hhi]
 rfl
theorem c216 {x y:Int} (hx:u64 x) (hy:u64 y):PCall Tryz.prog 298 [U x,U y] ⟨.tup [U (x*y / 18446744073709551616),U (x*y%18446744073709551616)],[]⟩:=by
 refine bs.pv (sx:=nos) Zb Tryz.func298 (by kernel_rfl) (by kernel_rfl) rfl ?_
 repeat'(first|refine wk1 ?_|(refine wk2 ?_ ?_<;>intro _)|refine wk4 ?_|fail);all_goals(conv=>whnf)
 refine Zg ?_ rfl
 obtain ⟨h0,hx⟩:=hx
 obtain ⟨h1,hy⟩:=hy
 obtain ⟨a,rfl⟩:=Hk h0
 obtain ⟨b,rfl⟩:=Hk h1
 exact Ya9 a b (by omega) (by omega)
theorem Zm1 {a b:Int}:sgn (a*b)=sgn a*sgn b:=by
 unfold sgn
 rcases Pi a 0 with ha|ha|ha<;>rcases Pi b 0 with hb|hb|hb
 ·have:=Int.mul_pos_of_neg_of_neg ha hb
  rw [if_pos this,if_neg (by omega),if_pos ha,if_neg (by omega),if_pos hb]; rfl
 ·subst hb; simp
 ·have:=Int.mul_neg_of_neg_of_pos ha hb
  rw [if_neg (by omega),if_pos this,if_neg (by omega),if_pos ha,if_pos hb]; rfl
 ·subst ha; simp
 ·subst ha; simp
 ·subst ha; simp
 ·have:=Int.mul_neg_of_pos_of_neg ha hb
  rw [if_neg (by omega),if_pos this,if_pos ha,if_neg (by omega),if_pos hb]; rfl
 ·subst hb; simp
 ·have:=Rk ha hb
  rw [if_pos this,if_pos ha,if_pos hb]; rfl
theorem Zi0 {a:Int} (h:i64 a):Qa Rn (size a)=(a.natAbs:Int)/\u64 (a.natAbs:Int):=by
 have hs:=Ycq h
 obtain ⟨h1,h2⟩:=h
 rw [hs]
 refine ⟨?_,?_⟩
 ·simp only [IntKind.wrap_i64,Hj]; omega
 ·unfold u64; omega
theorem Zzz (a b:Int):((a.natAbs:Int)*(b.natAbs:Int))=(a*b)\/((a.natAbs:Int)*(b.natAbs:Int)) = -(a*b):=by
 have:=Int.natAbs_mul a b
 omega
theorem Zze {a b c d X Y:Int} (hX:(a.natAbs:Int)*(b.natAbs:Int)=X) (hY:(c.natAbs:Int)*(d.natAbs:Int)=Y) (h:sgn a*sgn b=sgn c*sgn d) :
  (X=Y->cmpP a b c d=0)/\(Y<X->cmpP a b c d=sgn a*sgn b)/\(X<Y->cmpP a b c d = -(sgn a*sgn b)):=by
 have h1:=Zzz a b
 have h2:=Zzz c d
 have p1:0<=X:=by rw [<-hX]; exact Qo (by omega) (by omega)
 have p2:0<=Y:=by rw [<-hY]; exact Qo (by omega) (by omega)
 have s1:=Zm1 (a:=a) (b:=b)
 have s2:=Zm1 (a:=c) (b:=d)
 unfold cmpP
 rw [hX] at h1
 rw [hY] at h2
 rw [<-s1]
 rw [<-s1,<-s2] at h
 clear s1 s2 hX hY
 generalize a*b=u at *
 generalize c*d=v at *
 unfold sgn at *
 refine ⟨fun e=>?_,fun e=>?_,fun e=>?_⟩
 ·repeat' split at h
  all_goals repeat' split
  all_goals omega
 ·repeat' split at h
  all_goals repeat' split
  all_goals omega
 ·repeat' split at h
  all_goals repeat' split
  all_goals omega
theorem Yca {a b c d:Int} (h:sgn a*sgn b≠sgn c*sgn d):cmpP a b c d=sgn (sgn a*sgn b-sgn c*sgn d):=by
 rw [<-Zm1,<-Zm1] at h ⊢
 unfold cmpP
 generalize a*b=u at *
 generalize c*d=v at *
 unfold sgn at *
 repeat' split at h
 all_goals repeat' split
 all_goals omega
instance (n:Int):Decidable (u64 n):=by unfold u64; exact inferInstance
def r216:List AV->Option PRes
 | [.int .u64 x,.int .u64 y]=>asr (decide (u64 x/\u64 y)) ⟨.tup [U (x*y / 18446744073709551616),U (x*y%18446744073709551616)],[]⟩
 | _=>none
def kF1:PC:=ins 298 r216 (ins 171 r115 (ins 172 r116 pt0))
theorem Yc9:PCOK Tryz.prog kF1:=by
 refine Zh (fun a res h=>?_) (Zh (fun a res h=>?_) (Zh (fun a res h=>?_) Zb))
 ·unfold r216 at h; split at h
  ·obtain ⟨h1,rfl⟩:=Vf h
   have:=of_decide_eq_true h1
   exact c216 this.1 this.2
  ·cases h
 ·unfold r115 at h; split at h<;>cases h; exact c115 _
 ·unfold r116 at h; split at h<;>cases h; exact c116 _
theorem c215 {a b c d:Int} (ha:i64 a) (hb:i64 b) (hc:i64 c) (hd:i64 d):PCall Tryz.prog 297 [I a,I b,I c,I d] ⟨I (cmpP a b c d),[]⟩:=by
 obtain ⟨a1,a2⟩:=Zi0 ha
 obtain ⟨b1,b2⟩:=Zi0 hb
 obtain ⟨c1,c2⟩:=Zi0 hc
 obtain ⟨d1,d2⟩:=Zi0 hd
 by_cases h:sgn a*sgn b=sgn c*sgn d
 ·have hX:(a.natAbs:Int)*(b.natAbs:Int)=(a.natAbs:Int)*(b.natAbs:Int):=rfl
  have hY:(c.natAbs:Int)*(d.natAbs:Int)=(c.natAbs:Int)*(d.natAbs:Int):=rfl
  obtain ⟨k1,k2,k3⟩:=Zze hX hY h
  have t1:asr (decide (u64 (Qa Rn (size a))/\u64 (Qa Rn (size b)))) ⟨.tup [U (Qa Rn (size a)*Qa Rn (size b) / 18446744073709551616),U (Qa Rn (size a)*Qa Rn (size b)%18446744073709551616)],[]⟩=some ⟨.tup [U ((a.natAbs:Int)*(b.natAbs:Int) / 18446744073709551616),U ((a.natAbs:Int)*(b.natAbs:Int)%18446744073709551616)],[]⟩:=by
   rw [a1,b1,Zac ⟨a2,b2⟩]
  have t2:asr (decide (u64 (Qa Rn (size c))/\u64 (Qa Rn (size d)))) ⟨.tup [U (Qa Rn (size c)*Qa Rn (size d) / 18446744073709551616),U (Qa Rn (size c)*Qa Rn (size d)%18446744073709551616)],[]⟩=some ⟨.tup [U ((c.natAbs:Int)*(d.natAbs:Int) / 18446744073709551616),U ((c.natAbs:Int)*(d.natAbs:Int)%18446744073709551616)],[]⟩:=by
   rw [c1,d1,Zac ⟨c2,d2⟩]
  have w1:Qa Qb (sgn a*sgn b)=Qa Qb (sgn c*sgn d):=by rw [h]
  have w2:=Zia a b
  have hr : -1<=sgn a*sgn b/\sgn a*sgn b<=1:=by
   have:=Zu (A:=1) (B:=1) (Zid a) (Zid b); omega
  have w3:Qa Qb (0-Qa Qb (sgn a*sgn b)) = -(sgn a*sgn b):=by rw [w2,W_eq (by omega) (by omega)]; omega
  generalize (a.natAbs:Int)*(b.natAbs:Int)=X at *
  generalize (c.natAbs:Int)*(d.natAbs:Int)=Y at *
  generalize cmpP a b c d=r at *
  refine bs.pv (sx:=nos) Yc9 Tryz.func297 (by kernel_rfl) (by kernel_rfl) rfl ?_
  rcases Pi X Y with hxy|hxy|hxy
  ·rw [k3 hxy,<-w3]
   repeat'(first|refine wk1 ?_|(refine wk2 ?_ ?_<;>intro _)|refine wk4 ?_|fail);all_goals(conv=>whnf)
   all_goals first
    | exact Za rfl
    | (exfalso; simp_all; done)
    | (exfalso; simp_all; omega)
  ·rw [k1 hxy]
   subst hxy
   repeat'(first|refine wk1 ?_|(refine wk2 ?_ ?_<;>intro _)|refine wk4 ?_|fail);all_goals(conv=>whnf)
   all_goals first
    | exact Za rfl
    | (exfalso; simp_all; done)
    | (exfalso; simp_all; omega)
  ·rw [k2 hxy,<-w2]
   repeat'(first|refine wk1 ?_|(refine wk2 ?_ ?_<;>intro _)|refine wk4 ?_|fail);all_goals(conv=>whnf)
   all_goals first
    | exact Za rfl
    | (exfalso; simp_all; done)
    | (exfalso; simp_all; omega)
 ·have hr1:=Zu (A:=1) (B:=1) (Zid a) (Zid b)
  have hr2:=Zu (A:=1) (B:=1) (Zid c) (Zid d)
  have w:sgn (Qa Qb (Qa Qb (sgn a*sgn b)-Qa Qb (sgn c*sgn d)))=cmpP a b c d:=by
   rw [Yca h,Zia,Zia,W_eq (by omega) (by omega)]
  have w2:¬ Qa Qb (sgn a*sgn b)=Qa Qb (sgn c*sgn d):=by rw [Zia,Zia]; exact h
  refine bs.pv (sx:=nos) Yc9 Tryz.func297 (by kernel_rfl) (by kernel_rfl) rfl ?_
  rw [<-w]
  repeat'(first|refine wk1 ?_|(refine wk2 ?_ ?_<;>intro _)|refine wk4 ?_|fail);all_goals(conv=>whnf)
  exact Za rfl
def r204:List AV->Option PRes
 | [.agg [.int .i64 a,.int .i64 b,.int .i64 c,.int .i64 d,.int .i64 x,.int .i64 y,.int .i64 z,.int .i64 w]]=>some ⟨.tup [I (Zqh ⟨a,b,c,d⟩ ⟨x,y,z,w⟩),I (Zqg ⟨a,b,c,d⟩ ⟨x,y,z,w⟩)],[]⟩
 | _=>none
def r207:List AV->Option PRes
 | [.int .i64 fr,.int .i64 den,.int .i64 to,.int .i64 oth,.int .i64 a,.int .i64 b]=>some ⟨Bo (ovl fr den to oth a b),[]⟩
 | _=>none
def r182:List AV->Option PRes
 | [.agg [.int .i64 a,.int .i64 b,.int .i64 c,.int .i64 d,.int .i64 x,.int .i64 y,.int .i64 z,.int .i64 w]]=>some ⟨.tup [I (midX ⟨a,b,c,d⟩ ⟨x,y,z,w⟩),I (midY ⟨a,b,c,d⟩ ⟨x,y,z,w⟩),I (midD ⟨a,b,c,d⟩ ⟨x,y,z,w⟩)],[]⟩
 | _=>none
def kF2:PC:=ins 289 r204 (ins 290 r207 (ins 261 r182 kG3))
theorem Yc8:PCOK Tryz.prog kF2:=by
 refine Zh (fun a res h=>?_) (Zh (fun a res h=>?_) (Zh (fun a res h=>?_) Vb))
 ·unfold r204 at h; split at h<;>cases h; exact c204 ⟨_,_,_,_⟩ ⟨_,_,_,_⟩
 ·unfold r207 at h; split at h<;>cases h; exact c207 _ _ _ _ _ _
 ·unfold r182 at h; split at h<;>cases h; exact c182 ⟨_,_,_,_⟩ ⟨_,_,_,_⟩
theorem c208 (p q:Pt) (x y:Int):PCall Tryz.prog 291 [wayA p q,P2 x y] ⟨I (Zhh p q x y),[]⟩:=by
 have hk:=Ze (c215 (a:=Zqh p q) (b:=Qa Qb (Qa Qb (y*p.d)-p.y)) (c:=Zqg p q) (d:=Qa Qb (Qa Qb (x*p.d)-p.x)) (Zu5 _) (Zu5 _) (Zu5 _) (Zu5 _)) Yc8
 refine bs.pv (sx:=nos) hk Tryz.func291 (by kernel_rfl) (by kernel_rfl) rfl ?_
 repeat'(first|refine wk0 ?_|(refine wk2 ?_ ?_<;>intro _)|refine wk4 ?_|fail);all_goals(conv=>whnf)
 exact Za rfl
def r208:List AV->Option PRes
 | [.agg [.int .i64 a,.int .i64 b,.int .i64 c,.int .i64 d,.int .i64 x,.int .i64 y,.int .i64 z,.int .i64 w],.agg [.int .i64 u,.int .i64 v]]=>some ⟨I (Zhh ⟨a,b,c,d⟩ ⟨x,y,z,w⟩ u v),[]⟩
 | _=>none
def kF3:PC:=ins 291 r208 kF2
theorem Yhq:PCOK Tryz.prog kF3:=by
 refine Zh (fun a res h=>?_) Yc8
 unfold r208 at h; split at h<;>cases h; exact c208 ⟨_,_,_,_⟩ ⟨_,_,_,_⟩ _ _
theorem c181 (p q:Pt) (w:Wl):PCall Tryz.prog 260 [wayA p q,w.av] ⟨Bo (touP p q w),[]⟩:=by
 obtain ⟨pa,pb,pc,pd⟩:=p
 obtain ⟨qa,qb,qc,qd⟩:=q
 obtain ⟨wn,wa,wb,wc,wd⟩:=w
 refine bs.pv (sx:=nos) Yhq Tryz.func260 (by kernel_rfl) (by kernel_rfl) rfl ?_
 repeat'(first|refine wk0 ?_|(refine wk2 ?_ ?_<;>intro _)|refine wk4 ?_|fail);all_goals(conv=>whnf)
 all_goals exact Zd (by simp_all [touP]<;>omega)
def r181:List AV->Option PRes
 | [.agg [.int .i64 a,.int .i64 b,.int .i64 c,.int .i64 d,.int .i64 x,.int .i64 y,.int .i64 z,.int .i64 w],.agg [.int .i64 n,.int .i64 fx,.int .i64 fy,.int .i64 tx,.int .i64 ty]]=>some ⟨Bo (touP ⟨a,b,c,d⟩ ⟨x,y,z,w⟩ ⟨n,fx,fy,tx,ty⟩),[]⟩
 | _=>none
def Ygo:List AV->Option PRes
 | [.agg [.int .i64 a,.int .i64 b,.int .i64 c,.int .i64 d],.int .i64 x,.int .i64 y,.int .i64 z]=>some ⟨Bo (Rc.has ⟨a,b,c,d⟩ x y z),[]⟩
 | _=>none
def Ygp:List AV->Option PRes
 | [.agg [.int .i64 a,.int .i64 b,.int .i64 c,.int .i64 d],.int .i64 x,.int .i64 y,.int .i64 z]=>some ⟨Bo (Rc.holds ⟨a,b,c,d⟩ x y z),[]⟩
 | _=>none
def kF4:PC:=ins 260 r181 (ins 294 Ygo (ins 259 Ygp (ins 261 r182 (ins 251 r170 kG3))))
theorem Zs9:PCOK Tryz.prog kF4:=by
 refine Zh (fun a res h=>?_) (Zh (fun a res h=>?_) (Zh (fun a res h=>?_) (Zh (fun a res h=>?_) (Zh (fun a res h=>?_) Vb))))
 ·unfold r181 at h; split at h<;>cases h; exact c181 ⟨_,_,_,_⟩ ⟨_,_,_,_⟩ ⟨_,_,_,_,_⟩
 ·unfold Ygo at h; split at h<;>cases h; exact c211 ⟨_,_,_,_⟩ _ _ _
 ·unfold Ygp at h; split at h<;>cases h; exact c193 ⟨_,_,_,_⟩ _ _ _
 ·unfold r182 at h; split at h<;>cases h; exact c182 ⟨_,_,_,_⟩ ⟨_,_,_,_⟩
 ·unfold r170 at h; split at h<;>cases h; exact c170 _ _ _ _ _ _ _
theorem c209 (r:Rc) (p q:Pt):PCall Tryz.prog 292 [r.av,wayA p q] ⟨Bo (Zve r p q),[]⟩:=by
 obtain ⟨ra,rb,rc,rd⟩:=r
 obtain ⟨pa,pb,pc,pd⟩:=p
 obtain ⟨qa,qb,qc,qd⟩:=q
 refine bs.pv (sx:=nos) Zs9 Tryz.func292 (by kernel_rfl) (by kernel_rfl) rfl ?_
 repeat'(first|refine wk0 ?_|(refine wk2 ?_ ?_<;>intro _)|refine wk4 ?_|fail);all_goals(conv=>whnf)
 all_goals try (refine Wo 5 ?_)
 iterate 5
  all_goals try (refine Rq (bs.av (sx:=nos) Zs9 ?_))
  repeat'(first|refine wk0 ?_|(refine wk2 ?_ ?_<;>intro _)|refine wk4 ?_|fail);all_goals(conv=>whnf)
 all_goals exact Zd (by simp_all [Zve,edgP])
def atP (ht:Int) (p q:Pt):Int × Int × Int × Bool:=if 0<=Qa Qb (sgn (zOff ht p)*sgn (zOff ht q)) then (0,0,0,false) else (atX p.x q.x (size (zOff ht q)) (size (zOff ht p)),atX p.y q.y (size (zOff ht q)) (size (zOff ht p)),atX p.d q.d (size (zOff ht q)) (size (zOff ht p)),true)
theorem c210 (ht:Int) (p q:Pt):PCall Tryz.prog 293 [wayA p q,I ht] ⟨.tup [I (atP ht p q).1,I (atP ht p q).2.1,I (atP ht p q).2.2.1,Bo (atP ht p q).2.2.2],[]⟩:=by
 refine bs.pv (sx:=nos) Vb Tryz.func293 (by kernel_rfl) (by kernel_rfl) rfl ?_
 unfold atP
 by_cases hc:0<=Qa Qb (sgn (zOff ht p)*sgn (zOff ht q))
 ·rw [if_pos hc]
  unfold zOff at hc
  repeat'(first|refine wk3 ?_|(refine wk2 ?_ ?_<;>intro _)|refine wk4 ?_|fail);all_goals(conv=>whnf)
  exact Zg rfl rfl
 ·rw [if_neg hc]
  unfold zOff at hc
  repeat'(first|refine wk3 ?_|(refine wk2 ?_ ?_<;>intro _)|refine wk4 ?_|fail);all_goals(conv=>whnf)
  exact Zg rfl rfl
def r210:List AV->Option PRes
 | [.agg [.int .i64 a,.int .i64 b,.int .i64 c,.int .i64 d,.int .i64 x,.int .i64 y,.int .i64 z,.int .i64 w],.int .i64 ht]=>some ⟨.tup [I (atP ht ⟨a,b,c,d⟩ ⟨x,y,z,w⟩).1,I (atP ht ⟨a,b,c,d⟩ ⟨x,y,z,w⟩).2.1,I (atP ht ⟨a,b,c,d⟩ ⟨x,y,z,w⟩).2.2.1,Bo (atP ht ⟨a,b,c,d⟩ ⟨x,y,z,w⟩).2.2.2],[]⟩
 | _=>none
def r209:List AV->Option PRes
 | [.agg [.int .i64 e,.int .i64 f,.int .i64 g,.int .i64 h],.agg [.int .i64 a,.int .i64 b,.int .i64 c,.int .i64 d,.int .i64 x,.int .i64 y,.int .i64 z,.int .i64 w]]=>some ⟨Bo (Zve ⟨e,f,g,h⟩ ⟨a,b,c,d⟩ ⟨x,y,z,w⟩),[]⟩
 | _=>none
def kF5:PC:=ins 292 r209 (ins 293 r210 kF4)
theorem Yhp:PCOK Tryz.prog kF5:=by
 refine Zh (fun a res h=>?_) (Zh (fun a res h=>?_) Zs9)
 ·unfold r209 at h; split at h<;>cases h; exact c209 ⟨_,_,_,_⟩ ⟨_,_,_,_⟩ ⟨_,_,_,_⟩
 ·unfold r210 at h; split at h<;>cases h; exact c210 _ ⟨_,_,_,_⟩ ⟨_,_,_,_⟩
theorem c184 {h:Hal} {s:Stg} (g:Sit h s) {j:Nat} (hj:j<h.ks.length) (p q:Pt):PCall Tryz.prog 262 [.agg (stgL h s),I j,wayA p q] ⟨Bo (blkP h.ks[j].rc (Zcz h s j) p q),[]⟩:=by
 have hk:=Ze (c192 g hj) Yhp
 have e5:=Zee hj
 have l2:=Xd h.ks
 generalize Zcz h s j=ht at *
 generalize h.ks[j]=c at *
 unfold blkP
 by_cases hc:p.z=Qa Qb (ht*p.d)/\q.z=Qa Qb (ht*q.d)
 ·rw [if_pos hc]
  obtain ⟨h1,h2⟩:=hc
  refine bs.pv (sx:=nos) hk Tryz.func262 (by kernel_rfl) (by kernel_rfl) rfl ?_
  repeat'(first|refine wk3 ?_|(refine wk2 ?_ ?_<;>intro _)|refine wk4 ?_|fail);all_goals(conv=>whnf)
  exact Zd rfl
 ·rw [if_neg hc]
  have hat:atP ht p q=if 0<=Qa Qb (sgn (zOff ht p)*sgn (zOff ht q)) then (0,0,0,false) else (atX p.x q.x (size (zOff ht q)) (size (zOff ht p)),atX p.y q.y (size (zOff ht q)) (size (zOff ht p)),atX p.d q.d (size (zOff ht q)) (size (zOff ht p)),true):=rfl
  have hk2:=Ze (c210 ht p q) hk
  rw [hat] at hk2
  clear hk hat
  have hc2:¬ p.z=Qa Qb (ht*p.d)\/(p.z=Qa Qb (ht*p.d) /\ ¬ q.z=Qa Qb (ht*q.d)):=by
   by_cases h1:p.z=Qa Qb (ht*p.d)
   ·exact .inr ⟨h1,fun h2=>hc ⟨h1,h2⟩⟩
   ·exact .inl h1
  clear hc
  by_cases hs:0<=Qa Qb (sgn (zOff ht p)*sgn (zOff ht q))
  ·rw [if_pos hs] at hk2 ⊢
   clear hs
   rcases hc2 with h1|⟨h1,h2⟩
   all_goals
    refine bs.pv (sx:=nos) hk2 Tryz.func262 (by kernel_rfl) (by kernel_rfl) rfl ?_
    repeat'(first|refine wk3 ?_|(refine wk2 ?_ ?_<;>intro _)|refine wk4 ?_|fail);all_goals(conv=>whnf)
    exact Zd rfl
  ·rw [if_neg hs] at hk2 ⊢
   clear hs
   rcases hc2 with h1|⟨h1,h2⟩
   all_goals
    refine bs.pv (sx:=nos) hk2 Tryz.func262 (by kernel_rfl) (by kernel_rfl) rfl ?_
    repeat'(first|refine wk3 ?_|(refine wk2 ?_ ?_<;>intro _)|refine wk4 ?_|fail);all_goals(conv=>whnf)
    exact Zd rfl
def zBad (h:Hal) (p q:Pt):Bool:=(decide (p.z=0)&&decide (q.z=0))||(decide (p.z=Qa Qb (h.ht*p.d))&&decide (q.z=Qa Qb (h.ht*q.d)))||decide (p.z<0)||decide (q.z<0)||decide (Qa Qb (h.ht*p.d)<p.z)||decide (Qa Qb (h.ht*q.d)<q.z)
def blkA (h:Hal) (s:Stg) (p q:Pt):Nat->List Can->Bool
 | _,[]=>false
 | j,c::l=>blkP c.rc (Zcz h s j) p q||blkA h s p q (j+1) l
def Zea (h:Hal) (s:Stg) (p q:Pt):Bool:=!zBad h p q&&(!(wls h.cs).any (touP p q)&&(Yf h (midX p q) (midY p q) (midD p q) && !blkA h s p q 0 h.ks))
noncomputable abbrev blks (h:Hal) (s:Stg) (p q:Pt):List AV->Option PRes:=famA (fun j:Nat=>j<h.ks.length) (fun j=>[.agg (stgL h s),I j,wayA p q]) (fun j=>⟨Bo (blkP ((h.ks[j]?).getD ⟨⟨#[]⟩,⟨#[]⟩,0,0,0,0,[]⟩).rc (Zcz h s j) p q),[]⟩)
theorem Yce {h:Hal} {s:Stg} {p q:Pt} {j:Nat} (hj:j<h.ks.length):blks h s p q [.agg (stgL h s),I j,wayA p q]=some ⟨Bo (blkP h.ks[j].rc (Zcz h s j) p q),[]⟩:=by
 have:=Zx (p:=fun j:Nat=>j<h.ks.length) (g:=fun j:Nat=>[.agg (stgL h s),I j,wayA p q]) (r:=fun j=>⟨Bo (blkP ((h.ks[j]?).getD ⟨⟨#[]⟩,⟨#[]⟩,0,0,0,0,[]⟩).rc (Zcz h s j) p q),[]⟩) (k:=j) (fun i hi=>by
  simp only [Qx,Wv,true_and,and_true] at hi
  have:i=j:=by omega
  subst this; rfl) hj
 refine this.trans ?_
 rw [Qg hj]; rfl
noncomputable def kF6 (h:Hal) (s:Stg) (p q:Pt):PC:=ins 262 (blks h s p q) (ins 257 (one [h.av,I (midX p q),I (midY p q),I (midD p q)] ⟨Bo (Yf h (midX p q) (midY p q) (midD p q)),[]⟩) kF4)
theorem Yho {h:Hal} {s:Stg} (g:Sit h s) (p q:Pt):PCOK Tryz.prog (kF6 h s p q):=Yl (fun j hj=>by rw [Qg hj]; exact c184 g hj p q) (Ze (c183 g.ok.f _ _ _) Zs9)
theorem c103 {h:Hal} {s:Stg} (g:Sit h s) (p q:Pt):PCall Tryz.prog 178 [.agg (stgL h s),wayA p q] ⟨Bo (Zea h s p q),[]⟩:=by
 have hk:=Yho g p q
 refine bs.pv (sx:=nos) hk Tryz.func178 (by kernel_rfl) (by kernel_rfl) rfl ?_
 cases hz:zBad h p q with
 | true =>
  unfold Zea
  rw [hz]
  repeat'(first|refine wk3 ?_|(refine wk2 ?_ ?_<;>intro _)|refine wk4 ?_|fail);all_goals(conv=>whnf)
  all_goals first
   | exact Zd rfl
   | (exfalso; clear hk; simp_all [zBad]; done)
   | (exfalso; clear hk; simp_all [zBad]; omega)
 | false =>
  have e:Zea h s p q=(!(wls h.cs).any (touP p q)&&(Yf h (midX p q) (midY p q) (midD p q) && !blkA h s p q 0 h.ks)):=by unfold Zea; rw [hz]; rfl
  rw [e]
  clear e
  unfold zBad at hz
  simp only [Bool.or_eq_false_iff,Bool.and_eq_false_iff,decide_eq_false_iff_not] at hz
  obtain ⟨⟨⟨⟨⟨z1,z2⟩,z3⟩,z4⟩,z5⟩,z6⟩:=hz
  repeat'(first|refine wk3 ?_|(refine wk2 ?_ ?_<;>intro _)|refine wk4 ?_|fail);all_goals(conv=>whnf)
  all_goals try (exfalso; clear hk; simp_all; done)
  all_goals
   refine Rg.ren (env2:=[(2,.ptr 0 0 0),(4,.ptr 2 0 0),(9,.ptr 43 0 0),(92,.func 255 [h.av] [])]) (σ2:=⟨[(43,.row 8 [[I p.x,I p.y,I p.z,I p.d,I q.x,I q.y,I q.z,I q.d]] true false),(2,.row 1 [[Bo false]] true false),(0,.row 11 [stgL h s] true false)],44⟩) (Ren.of [] rfl (kps) (kps)) ?_
   clear z1 z2 z3 z4 z5 z6
   refine rngV (itW g.ok.f) rfl rfl rfl rfl (Zfm (S:=Unit) (fun _=>[(43,.row 8 [[I p.x,I p.y,I p.z,I p.d,I q.x,I q.y,I q.z,I q.d]] true false),(2,.row 1 [[Bo false]] true false),(0,.row 11 [stgL h s] true false)]) 44 44 (fun xs _=>∃ l:List Wl,xs=l.map (fun w=>[w.av])/\(!l.any (touP p q)&&(Yf h (midX p q) (midY p q) (midD p q) && !blkA h s p q 0 h.ks))=(!(wls h.cs).any (touP p q)&&(Yf h (midX p q) (midY p q) (midD p q) && !blkA h s p q 0 h.ks))) ?_ ?_ _ () ⟨_,rfl,rfl⟩)
   ·rintro u us _ ⟨l,h1,h2⟩
    cases l with
    | nil=>simp at h1
    | cons w l =>
     simp only [Ti,Qx] at h1
     obtain ⟨rfl,rfl⟩:=h1
     obtain ⟨wn,wa,wb,wc,wd⟩:=w
     rw [Nl] at h2
     refine ⟨rfl,bs.av (sx:=nos) hk ?_⟩
     repeat'(first|refine wk3 ?_|(refine wk2 ?_ ?_<;>intro _)|refine wk4 ?_|fail);all_goals(conv=>whnf)
     refine Bd.mk (bs.av (sx:=nos) hk ?_)
     repeat'(first|refine wk3 ?_|(refine wk2 ?_ ?_<;>intro _)|refine wk4 ?_|fail);all_goals(conv=>whnf)
     ·rename_i hx
      rw [<-h2,hx]
      exact Zd rfl
     ·rename_i hx
      rw [hx,Od] at h2
      exact Qq ⟨(),[],rfl,kps,l,rfl,h2⟩
   ·rintro _ ⟨l,h1,h2⟩
    cases l with
    | cons w l=>simp at h1
    | nil =>
     rw [<-h2]
     clear h1 h2
     rw [List.any_nil]
     repeat'(first|refine wk3 ?_|(refine wk2 ?_ ?_<;>intro _)|refine wk4 ?_|fail);all_goals(conv=>whnf)
     ·rename_i hx
      have hx:Yf h (midX p q) (midY p q) (midD p q)=false:=by simpa using hx
      rw [hx]
      exact Zd rfl
     ·rename_i hx
      have hx:Yf h (midX p q) (midY p q) (midD p q)=true:=by simpa using hx
      rw [hx]
      have l4:=Xd h.ks
      have f4:=g.ok.f.2.2.2.1
      refine Zy (S:=Nat × Int) (fun t=>h.ks.length-t.1) (fun t=>[(2,.ptr 0 0 0),(4,.ptr 2 0 0),(9,.ptr 43 0 0),(114,I (h.ks.map Can.av).length),(115,I t.2)]) (fun _=>[(43,.row 8 [[I p.x,I p.y,I p.z,I p.d,I q.x,I q.y,I q.z,I q.d]] true false),(2,.row 1 [[Bo false]] true false),(0,.row 11 [stgL h s] true false)]) 60 60 (fun t=>t.2=t.1/\t.1<=h.ks.length/\blkA h s p q t.1 (h.ks.drop t.1)=blkA h s p q 0 h.ks) (0,0) ⟨rfl,Qn _,rfl⟩ (Nat.le_of_ble_eq_true rfl) [] rfl (kps) (kps) ?_
      rintro ⟨k,i⟩ ⟨hi,hkk,hh⟩
      dsimp only at hi hkk hh ⊢
      subst hi
      refine bs.av (sx:=nos) hk ?_
      by_cases hlt:k<h.ks.length
      ·rw [Qi hlt,blkA] at hh
       have hb:=Yce (p:=p) (q:=q) (s:=s) hlt
       generalize blkP h.ks[k].rc (Zcz h s k) p q=b at *
       cases b with
       | true =>
        rw [<-hh]
        repeat'(first|refine wk3 ?_|(refine wk2 ?_ ?_<;>intro _)|refine wk4 ?_|fail);all_goals(conv=>whnf)
        exact Zd rfl
       | false =>
        rw [Od] at hh
        repeat'(first|refine wk3 ?_|(refine wk2 ?_ ?_<;>intro _)|refine wk4 ?_|fail);all_goals(conv=>whnf)
        exact Qq ⟨(k+1,_),[],rfl,kps,kps,⟨Zk (by omega),hlt,hh⟩,by dsimp only; omega⟩
      ·rw [Qk (by omega),blkA] at hh
       rw [<-hh]
       repeat'(first|refine wk3 ?_|(refine wk2 ?_ ?_<;>intro _)|refine wk4 ?_|fail);all_goals(conv=>whnf)
       exact Zd rfl
def ptEq (p q:Pt):Bool:=decide (p.x=q.x)&&decide (p.y=q.y)&&decide (p.z=q.z)&&decide (p.d=q.d)
def wayE (h:Hal) (s:Stg) (p q:Pt):Int:=if serr h s=0 then (if Yu p=0 then (if Yu q=0 then (if ptEq p q then 11 else 0) else Yu q) else Yu p) else serr h s
abbrev sxF:FuncId->Bool:=fun f=>Qm f 163||Qm f 175||Qm f 176||Qm f 177
noncomputable abbrev ptEs:List AV->Option PRes:=famA (fun p:Pt=>p.wf) (fun p=>[p.av]) (fun p=>⟨I (Yu p),[]⟩)
theorem Zst {p:Pt} (h:p.wf):ptEs [p.av]=some ⟨I (Yu p),[]⟩ :=
 Zx (p:=fun p:Pt=>p.wf) (g:=fun p=>[p.av]) (r:=fun p=>⟨I (Yu p),[]⟩) (fun j hj=>by
  obtain ⟨a,b,c,d⟩:=j
  obtain ⟨a',b',c',d'⟩:=p
  simp only [Qx,Lk,Wv,true_and,and_true] at hj
  obtain ⟨rfl,rfl,rfl,rfl⟩:=hj
  rfl) h
theorem c37 {h:Hal} (hk:h.ok) {s:Stg} (hs:s.few) {p q:Pt} (hp:p.wf) (hq:q.wf):PCall Tryz.prog 113 [h.av,s.av,wayA p q] ⟨.tup [Bo (decide (wayE h s p q=0)&&Zea h s p q),I (wayE h s p q)],[]⟩:=by
 have hk0:PCOK Tryz.prog (ins 159 ptEs (ins 154 (one [h.av,s.av] ⟨.tup [.agg (stgL h s),I (serr h s)],[]⟩) kG4)):=Yl (fun p hp=>c99 hp) (Ze (c83 hk hs) Uv)
 have t1:=Zst hp
 have t2:=Zst hq
 unfold wayE
 by_cases h0:serr h s=0
 ·have g:=Ze4 hk hs h0
  rw [h0] at hk0
  rw [if_pos h0]
  have hk1:=Ze (c103 g p q) hk0
  clear hk0 h0
  generalize Zea h s p q=fr at *
  generalize Yu p=e1 at *
  generalize Yu q=e2 at *
  by_cases h1:e1=0
  ·rw [if_pos h1]
   subst h1
   by_cases h2:e2=0
   ·rw [if_pos h2]
    subst h2
    have hx:(true ^^ (decide (p.x=q.x)&&(decide (p.y=q.y)&&(decide (p.z=q.z)&&(decide (p.d=q.d)&&true))))) = !ptEq p q:=by
     unfold ptEq
     cases decide (p.x=q.x)<;>cases decide (p.y=q.y)<;>cases decide (p.z=q.z)<;>cases decide (p.d=q.d)<;>rfl
    cases hq:ptEq p q with
    | true =>
     rw [hq] at hx
     have hu:unl (true ^^ (decide (p.x=q.x)&&(decide (p.y=q.y)&&(decide (p.z=q.z)&&(decide (p.d=q.d)&&true))))) 11=11:=by rw [hx]; rfl
     clear hx hq
     refine bs.pv (sx:=sxF) hk1 Tryz.func113 (by kernel_rfl) (by kernel_rfl) rfl ?_
     repeat'(first|refine wk3 ?_|(refine wk2 ?_ ?_<;>intro _)|refine wk4 ?_|fail);all_goals(conv=>whnf)
     refine bs.sv (sx:=sxF) hk1 Tryz.func163 (by kernel_rfl) (by kernel_rfl) ?_
     refine Wo 4 ?_
     refine Rq (bs.av (sx:=sxF) hk1 ?_)
     repeat'(first|refine wk3 ?_|(refine wk2 ?_ ?_<;>intro _)|refine wk4 ?_|fail);all_goals(conv=>whnf)
     refine bs.sv (sx:=sxF) hk1 Tryz.func175 (by kernel_rfl) (by kernel_rfl) ?_
     repeat'(first|refine wk3 ?_|(refine wk2 ?_ ?_<;>intro _)|refine wk4 ?_|fail);all_goals(conv=>whnf)
     refine Rq (bs.av (sx:=sxF) hk1 ?_)
     repeat'(first|refine wk3 ?_|(refine wk2 ?_ ?_<;>intro _)|refine wk4 ?_|fail);all_goals(conv=>whnf)
     refine bs.sv (sx:=sxF) hk1 Tryz.func176 (by kernel_rfl) (by kernel_rfl) ?_
     repeat'(first|refine wk3 ?_|(refine wk2 ?_ ?_<;>intro _)|refine wk4 ?_|fail);all_goals(conv=>whnf)
     refine Rq (bs.av (sx:=sxF) hk1 ?_)
     repeat'(first|refine wk3 ?_|(refine wk2 ?_ ?_<;>intro _)|refine wk4 ?_|fail);all_goals(conv=>whnf)
     refine bs.sv (sx:=sxF) hk1 Tryz.func177 (by kernel_rfl) (by kernel_rfl) ?_
     repeat'(first|refine wk3 ?_|(refine wk2 ?_ ?_<;>intro _)|refine wk4 ?_|fail);all_goals(conv=>whnf)
     exact Zg (by rw [hu]; rfl) rfl
    | false =>
     rw [hq] at hx
     have hu:unl (true ^^ (decide (p.x=q.x)&&(decide (p.y=q.y)&&(decide (p.z=q.z)&&(decide (p.d=q.d)&&true))))) 11=0:=by rw [hx]; rfl
     clear hx hq
     refine bs.pv (sx:=sxF) hk1 Tryz.func113 (by kernel_rfl) (by kernel_rfl) rfl ?_
     repeat'(first|refine wk3 ?_|(refine wk2 ?_ ?_<;>intro _)|refine wk4 ?_|fail);all_goals(conv=>whnf)
     refine bs.sv (sx:=sxF) hk1 Tryz.func163 (by kernel_rfl) (by kernel_rfl) ?_
     refine Wo 4 ?_
     refine Rq (bs.av (sx:=sxF) hk1 ?_)
     repeat'(first|refine wk3 ?_|(refine wk2 ?_ ?_<;>intro _)|refine wk4 ?_|fail);all_goals(conv=>whnf)
     refine bs.sv (sx:=sxF) hk1 Tryz.func175 (by kernel_rfl) (by kernel_rfl) ?_
     repeat'(first|refine wk3 ?_|(refine wk2 ?_ ?_<;>intro _)|refine wk4 ?_|fail);all_goals(conv=>whnf)
     refine Rq (bs.av (sx:=sxF) hk1 ?_)
     repeat'(first|refine wk3 ?_|(refine wk2 ?_ ?_<;>intro _)|refine wk4 ?_|fail);all_goals(conv=>whnf)
     refine bs.sv (sx:=sxF) hk1 Tryz.func176 (by kernel_rfl) (by kernel_rfl) ?_
     repeat'(first|refine wk3 ?_|(refine wk2 ?_ ?_<;>intro _)|refine wk4 ?_|fail);all_goals(conv=>whnf)
     refine Rq (bs.av (sx:=sxF) hk1 ?_)
     repeat'(first|refine wk3 ?_|(refine wk2 ?_ ?_<;>intro _)|refine wk4 ?_|fail);all_goals(conv=>whnf)
     refine bs.sv (sx:=sxF) hk1 Tryz.func177 (by kernel_rfl) (by kernel_rfl) ?_
     repeat'(first|refine wk3 ?_|(refine wk2 ?_ ?_<;>intro _)|refine wk4 ?_|fail);all_goals(conv=>whnf)
     refine Rq (bs.av (sx:=sxF) hk1 ?_)
     repeat'(first|refine wk3 ?_|(refine wk2 ?_ ?_<;>intro _)|refine wk4 ?_|fail);all_goals(conv=>whnf)
     exact Zg (by cases fr<;>rfl) rfl
   ·rw [if_neg h2]
    refine bs.pv (sx:=sxF) hk1 Tryz.func113 (by kernel_rfl) (by kernel_rfl) rfl ?_
    repeat'(first|refine wk3 ?_|(refine wk2 ?_ ?_<;>intro _)|refine wk4 ?_|fail);all_goals(conv=>whnf)
    refine bs.sv (sx:=sxF) hk1 Tryz.func163 (by kernel_rfl) (by kernel_rfl) ?_
    refine Wo 4 ?_
    refine Rq (bs.av (sx:=sxF) hk1 ?_)
    repeat'(first|refine wk3 ?_|(refine wk2 ?_ ?_<;>intro _)|refine wk4 ?_|fail);all_goals(conv=>whnf)
    refine bs.sv (sx:=sxF) hk1 Tryz.func175 (by kernel_rfl) (by kernel_rfl) ?_
    repeat'(first|refine wk3 ?_|(refine wk2 ?_ ?_<;>intro _)|refine wk4 ?_|fail);all_goals(conv=>whnf)
    refine Rq (bs.av (sx:=sxF) hk1 ?_)
    repeat'(first|refine wk3 ?_|(refine wk2 ?_ ?_<;>intro _)|refine wk4 ?_|fail);all_goals(conv=>whnf)
    refine bs.sv (sx:=sxF) hk1 Tryz.func176 (by kernel_rfl) (by kernel_rfl) ?_
    repeat'(first|refine wk3 ?_|(refine wk2 ?_ ?_<;>intro _)|refine wk4 ?_|fail);all_goals(conv=>whnf)
    exact Zg (by rw [decide_eq_false h2]; rfl) rfl
  ·rw [if_neg h1]
   refine bs.pv (sx:=sxF) hk1 Tryz.func113 (by kernel_rfl) (by kernel_rfl) rfl ?_
   repeat'(first|refine wk3 ?_|(refine wk2 ?_ ?_<;>intro _)|refine wk4 ?_|fail);all_goals(conv=>whnf)
   refine bs.sv (sx:=sxF) hk1 Tryz.func163 (by kernel_rfl) (by kernel_rfl) ?_
   refine Wo 4 ?_
   refine Rq (bs.av (sx:=sxF) hk1 ?_)
   repeat'(first|refine wk3 ?_|(refine wk2 ?_ ?_<;>intro _)|refine wk4 ?_|fail);all_goals(conv=>whnf)
   refine bs.sv (sx:=sxF) hk1 Tryz.func175 (by kernel_rfl) (by kernel_rfl) ?_
   repeat'(first|refine wk3 ?_|(refine wk2 ?_ ?_<;>intro _)|refine wk4 ?_|fail);all_goals(conv=>whnf)
   exact Zg (by rw [decide_eq_false h1]; rfl) rfl
 ·rw [if_neg h0]
  generalize Zea h s p q=fr at *
  refine bs.pv (sx:=sxF) hk0 Tryz.func113 (by kernel_rfl) (by kernel_rfl) rfl ?_
  repeat'(first|refine wk3 ?_|(refine wk2 ?_ ?_<;>intro _)|refine wk4 ?_|fail);all_goals(conv=>whnf)
  exact Zg (by rw [decide_eq_false h0]; rfl) rfl
noncomputable abbrev crsT (h:Hal) (s:Stg):List AV->Option PRes:=famA (fun c:Crs=>c.to.wf) (fun c=>[h.av,s.av,c.av]) (fun c=>⟨crAV (crsA h s c),[]⟩)
theorem Ztp {h:Hal} {s:Stg} {c:Crs} (hw:c.to.wf):crsT h s [h.av,s.av,c.av]=some ⟨crAV (crsA h s c),[]⟩ :=
 Zx (p:=fun c:Crs=>c.to.wf) (g:=fun c=>[h.av,s.av,c.av]) (r:=fun c=>⟨crAV (crsA h s c),[]⟩) (fun j hj=>by
  obtain ⟨a,b,d,e,x,y,z,w⟩:=j
  obtain ⟨a',b',d',e',x',y',z',w'⟩:=c
  simp only [Qx,Lk,Wv,true_and,and_true] at hj
  obtain ⟨rfl,rfl,rfl,rfl,rfl,rfl,rfl,rfl⟩:=hj
  rfl) hw
theorem Zy5 {h:Hal} (hk:h.ok) {s:Stg} (hs:s.few) {pt:PC} (hp:PCOK Tryz.prog pt):PCOK Tryz.prog (ins 112 (crsT h s) pt):=Yl (fun c hc=>c40 hk hs hc) hp
noncomputable abbrev wayT (h:Hal) (s:Stg):List AV->Option PRes:=famA (fun p:Pt × Pt=>p.1.wf/\p.2.wf) (fun p=>[h.av,s.av,wayA p.1 p.2]) (fun p=>⟨.tup [Bo (decide (wayE h s p.1 p.2=0)&&Zea h s p.1 p.2),I (wayE h s p.1 p.2)],[]⟩)
theorem Zsa {h:Hal} {s:Stg} {p q:Pt} (hp:p.wf) (hq:q.wf):wayT h s [h.av,s.av,wayA p q]=some ⟨.tup [Bo (decide (wayE h s p q=0)&&Zea h s p q),I (wayE h s p q)],[]⟩ :=
 Zx (p:=fun p:Pt × Pt=>p.1.wf/\p.2.wf) (g:=fun p=>[h.av,s.av,wayA p.1 p.2]) (r:=fun p=>⟨.tup [Bo (decide (wayE h s p.1 p.2=0)&&Zea h s p.1 p.2),I (wayE h s p.1 p.2)],[]⟩) (k:=(p,q)) (fun j hj=>by
  obtain ⟨⟨a,b,c,d⟩,⟨a2,b2,c2,d2⟩⟩:=j
  obtain ⟨x,y,z,w⟩:=p
  obtain ⟨x2,y2,z2,w2⟩:=q
  simp only [Qx,Lk,Wv,true_and,and_true] at hj
  obtain ⟨rfl,rfl,rfl,rfl,rfl,rfl,rfl,rfl⟩:=hj
  rfl) ⟨hp,hq⟩
theorem Zvu {h:Hal} (hk:h.ok) {s:Stg} (hs:s.few) {pt:PC} (hp:PCOK Tryz.prog pt):PCOK Tryz.prog (ins 113 (wayT h s) pt):=Yl (fun p hw=>c37 hk hs hw.1 hw.2) hp
def r123:List AV->Option PRes
 | [.agg [.int .i64 x,.int .i64 y,.int .i64 z]]=>some ⟨P4 x y z 1,[]⟩
 | _=>none
theorem Zwq {pt:PC} (h:PCOK Tryz.prog pt):PCOK Tryz.prog (ins 107 r123 pt):=Zh (fun a res h=>by unfold r123 at h; split at h<;>cases h; exact d123 _ _ _) h
def sqV (a b c x y z:Int):Int:=Qa Qb (Qa Qb (Qa Qb (Qa Qb (a-x)*Qa Qb (a-x))+Qa Qb (Qa Qb (b-y)*Qa Qb (b-y)))+Qa Qb (Qa Qb (c-z)*Qa Qb (c-z)))
theorem d126 (a b c x y z:Int):PCall Tryz.prog 115 [P3 a b c,P3 x y z] ⟨I (sqV a b c x y z),[]⟩:=by
 refine bs.pv (sx:=nos) Zb Tryz.func115 (by kernel_rfl) (by kernel_rfl) rfl ?_
 repeat'(first|refine wk3 ?_|(refine wk2 ?_ ?_<;>intro _)|refine wk4 ?_|fail);all_goals(conv=>whnf)
 exact Za rfl
def r126:List AV->Option PRes
 | [.agg [.int .i64 a,.int .i64 b,.int .i64 c],.agg [.int .i64 x,.int .i64 y,.int .i64 z]]=>some ⟨I (sqV a b c x y z),[]⟩
 | _=>none
theorem Zwp {pt:PC} (h:PCOK Tryz.prog pt):PCOK Tryz.prog (ins 115 r126 pt):=Zh (fun a res h=>by unfold r126 at h; split at h<;>cases h; exact d126 _ _ _ _ _ _) h
theorem Yi7 {ns:List Int} (hl:ns.length<100000):PCall Tryz.prog 37 [.isl 1 (nl ns)] ⟨.isl 1 (nl ns),[]⟩:=by
 cases ns with
 | nil=>exact Yic
 | cons n ns=>exact (d103 (by simp) hl).freeze ⟨rfl,rfl,rfl⟩
theorem Yi5 {ps:List (Int × Int × Int × Int)} (hl:ps.length<100000):PCall Tryz.prog 114 [.isl 4 (ps.map hp4)] ⟨.isl 4 (ps.map hp4),[]⟩:=by
 cases ps with
 | nil=>exact Yi6
 | cons n ns=>exact (d104 (by simp) hl).freeze ⟨rfl,rfl,rfl⟩
noncomputable abbrev clT:List AV->Option PRes:=famA (fun ps:List (Int × Int × Int × Int)=>ps.length<100000) (fun ps=>[.isl 4 (ps.map hp4)]) (fun ps=>⟨.isl 4 (ps.map hp4),[]⟩)
theorem Yig {pt:PC} (hp:PCOK Tryz.prog pt):PCOK Tryz.prog (ins 114 clT pt):=Yl (fun ps hl=>Yi5 hl) hp
theorem Yf4 {ps:List (Int × Int × Int × Int)} (h:ps.length<100000):clT [.isl 4 (ps.map hp4)]=some ⟨.isl 4 (ps.map hp4),[]⟩ :=
 Zx (p:=fun ps:List (Int × Int × Int × Int)=>ps.length<100000) (g:=fun ps=>[.isl 4 (ps.map hp4)]) (r:=fun ps=>⟨.isl 4 (ps.map hp4),[]⟩) (fun j hj=>by
  simp only [Qx,Ng,true_and,and_true] at hj
  rw [hj]) h
def goP (f:Int->Pl3->Pt->Pt × Int):List (Int × Pl3)->Pt->List Pt->Option (List Pt)
 | [],_,P=>some P
 | (a,q)::r,to,P=>if (f a q to).2=0 then goP f r (f a q to).1 ((f a q to).1::P) else none
def chkW (w:Pt->Pt->Bool):List Pt->Bool
 | p::q::r=>w p q&&chkW w (q::r)
 | _=>true
def pnt (q:Pl3):Pt:=⟨q.1,q.2.1,q.2.2,1⟩
def tup4 (p:Pt):Int × Int × Int × Int:=(p.x,p.y,p.z,p.d)
def fP (h:Hal) (s:Stg) (a:Int) (q:Pl3) (to:Pt):Pt × Int:=crsA h s ⟨a,q.1,q.2.1,q.2.2,to⟩
def wP (h:Hal) (s:Stg) (p q:Pt):Bool:=decide (wayE h s p q=0)&&Zea h s p q
def pthQ (h:Hal) (s:Stg) (q0 q1:Pl3) (l:List (Int × Pl3)):Option Pth :=
 match goP (fP h s) l.reverse (pnt q1) [] with
 | none=>none
 | some P=>if chkW (wP h s) (pnt q0::P++[pnt q1]) then some ⟨l.map (·.1),P.map tup4,sqV (l.getLastD (0,q0)).2.1 (l.getLastD (0,q0)).2.2.1 (l.getLastD (0,q0)).2.2.2 q1.1 q1.2.1 q1.2.2⟩ else none
def ansP:Option Pth->AV
 | none=>.tup [.agg [.isl 1 [],.isl 4 [],I 0],Bo false]
 | some p=>.tup [p.av,Bo true]
theorem Zll:Pt.wf ptZ:=⟨⟨by decide,by decide⟩,⟨by decide,by decide⟩,⟨by decide,by decide⟩,⟨by decide,by decide⟩⟩
theorem Zy6 {h:Hal} {s:Stg} (c:Crs) (hk:h.ok) (hs:s.few):(crsA h s c).1.wf:=by
 unfold crsA
 split
 ·rename_i e
  obtain ⟨g,hi,ho,_⟩:=Zy9 hk hs e
  unfold Zao
  split
  ·exact Zll
  ·rename_i hsn
   split
   ·split
    ·exact Zll
    ·exact (Zbj (Zbb ho hsn)).2.2.1.wf
   ·exact Zll
 ·exact Zll
theorem Zsv {q:Pl3} (h:Near 5000 q):(pnt q).wf:=by
 obtain ⟨h1,h2,h3⟩:=h
 unfold pnt
 exact ⟨⟨by dsimp only; omega,by dsimp only; omega⟩,⟨by dsimp only; omega,by dsimp only; omega⟩,⟨by dsimp only; omega,by dsimp only; omega⟩,⟨by dsimp only; omega,by dsimp only; omega⟩⟩
def rawP:Option Pth->AV
 | none=>.tup [.agg [.nils,.nils,I 0],Bo false]
 | some p=>.tup [p.av,Bo true]
theorem Yaw (o:Option Pth):Frz [] (rawP o) (ansP o):=by
 cases o with
 | none=>exact ⟨⟨rfl,rfl,⟨rfl,rfl⟩,trivial⟩,⟨rfl,rfl⟩,trivial⟩
 | some p=>exact ⟨⟨⟨rfl,rfl⟩,⟨rfl,rfl⟩,⟨rfl,rfl⟩,trivial⟩,⟨rfl,rfl⟩,trivial⟩
theorem Yav (o:Option Pth):Vc 0 (rawP o)=true:=by cases o<;>rfl
noncomputable abbrev oneA (a:List AV) (r:PRes):List AV->Option PRes:=famA (fun _:Unit=>True) (fun _=>a) (fun _=>r)
theorem Zfr {f:FuncId} {a:List AV} {r:PRes} (h:PCall Tryz.prog f a r) {pt:PC} (hp:PCOK Tryz.prog pt):PCOK Tryz.prog (ins f (oneA a r) pt):=Yl (fun _ _=>h) hp
theorem Zcu (a:List AV) (r:PRes):oneA a r a=some r:=Zx (p:=fun _:Unit=>True) (g:=fun _=>a) (r:=fun _=>r) (k:=()) (fun _ _=>rfl) trivial
def lkG (f:Int->Pl3->Pl3):Pl3->List Int->List (Int × Pl3)
 | _,[]=>[]
 | q,n::r=>(n,f n q)::lkG f (f n q) r
theorem Ybp (f:Int->Pl3->Pl3) (q:Pl3) (n:Int) (r:List Int) (k:Nat):imA f q (n::r) (k+1)=imA f (f n q) r k:=rfl
theorem Zar (f:Int->Pl3->Pl3):∀ (q:Pl3) (ns:List Int),(lkG f q ns).length=ns.length
 | _,[]=>rfl
 | q,n::r=>by rw [lkG,Sn,Zar f _ r,Sn]
theorem Zxj (f:Int->Pl3->Pl3):∀ (q:Pl3) (ns:List Int) (k:Nat) (hk:k<ns.length),(lkG f q ns)[k]?=some (ns[k],imA f q ns (k+1))
 | q,n::r,0,hk=>rfl
 | q,n::r,k+1,hk=>by
  rw [lkG,List.getElem?_cons_succ,Zxj f _ r k (by simpa using hk),Ybp]
  rfl
theorem Zxi (f:Int->Pl3->Pl3):∀ (q:Pl3) (ns:List Int),(lkG f q ns).map (·.1)=ns
 | _,[]=>rfl
 | q,n::r=>by rw [lkG,Ti,Zxi f _ r]
theorem Zs1 (f:Int->Pl3->Pl3):∀ (q:Pl3) (ns:List Int) (x:Int),((lkG f q ns).getLastD (x,q)).2=imA f q ns ns.length
 | _,[],_=>rfl
 | q,n::r,x=>by
  rw [lkG,List.getLastD_cons,Zs1 f _ r n]
  rfl
theorem Zm4 {f:Int->Pl3->Pl3} {q:Pl3} {ns:List Int} {k:Nat} (hk:k<ns.length):((lkG f q ns).take (k+1)).reverse=(ns[k],imA f q ns (k+1))::((lkG f q ns).take k).reverse:=by
 have hk2:k<(lkG f q ns).length:=by rw [Zar]; exact hk
 have e:=Zxj f q ns k hk
 rw [Qg hk2,Qe] at e
 rw [List.take_succ_eq_append_getElem hk2,List.reverse_append,e]
 rfl
def Yo (h:Hal) (s:Stg) (q0 q1:Pl3) (ns:List Int):Option Pth:=pthQ h s q0 q1 (lkG (im1 h s) q0 ns)
theorem Zbm (h:Hal) (s:Stg) (q0 q1:Pl3) (ns:List Int):Yo h s q0 q1 ns=match goP (fP h s) (lkG (im1 h s) q0 ns).reverse (pnt q1) [] with
  | none=>none
  | some P=>if chkW (wP h s) (pnt q0::P++[pnt q1]) then some ⟨ns,P.map tup4,sqV (imA (im1 h s) q0 ns ns.length).1 (imA (im1 h s) q0 ns ns.length).2.1 (imA (im1 h s) q0 ns ns.length).2.2 q1.1 q1.2.1 q1.2.2⟩ else none:=by
 unfold Yo pthQ
 rw [Zxi,Zs1]
 all_goals (cases goP (fP h s) (lkG (im1 h s) q0 ns).reverse (pnt q1) []<;>rfl)
abbrev ptc (p:Pt):List AV:=[I p.x,I p.y,I p.z,I p.d]
theorem Zhq {l:List Pt} {k:Nat} (hk:k<l.length):(l.map ptc)[k]?=some (ptc l[k]):=by simp [hk]
theorem Zn0 (l:List Pt) (i:Nat) (p:Pt):Ziv (l.map ptc) i (ptc p)=(l.set i p).map ptc:=by rw [Zbh,Kv]
theorem Zc5 {l:List Pt} {k:Nat} (hk:k<l.length) (p:Pt):(l.set k p).drop k=p::l.drop (k+1):=by
 rw [Qi (by rw [Hz]; exact hk),List.getElem_set_self,List.drop_set,if_pos (by omega)]
theorem Zpy {w:Pt->Pt->Bool} {l:List Pt} {k:Nat} (hk:k+1<l.length):chkW w (l.drop k)=(w l[k] l[k+1]&&chkW w (l.drop (k+1))):=by
 rw [Qi (show k<l.length by omega),Qi hk,chkW]
theorem Zpz {w:Pt->Pt->Bool} {l:List Pt} {k:Nat} (hk:k+1=l.length):chkW w (l.drop k)=true:=by
 rw [Qi (show k<l.length by omega),Qk (by omega)]; rfl
noncomputable def kPth (h:Hal) (s:Stg) (q0:Pl3) (ns:List Int):PC:=ins 111 (oneA [.agg (stgL h s),P3 q0.1 q0.2.1 q0.2.2,.isl 1 (nl ns)] ⟨.isl 3 (imC (im1 h s) q0 ns ns.length),[]⟩) (ins 107 r123 (ins 112 (crsT h s) (ins 113 (wayT h s) (ins 115 r126 (ins 114 clT (ins 37 (oneA [.isl 1 (nl ns)] ⟨.isl 1 (nl ns),[]⟩) pt0))))))
theorem Yfe {h:Hal} (hk:h.ok) {s:Stg} (hs:s.few) (e0:serr h s=0) {q0:Pl3} (hf:Near 5000 q0) {ns:List Int} (hl:ns.length<=4) (hi:∀ n∈ns,0<=n/\n<nsur h):PCOK Tryz.prog (kPth h s q0 ns) :=
 Zfr (d82f hk hs e0 hf hl hi) (Zwq (Zy5 hk hs (Zvu hk hs (Zwp (Yig (Zfr (Yi7 (ns:=ns) (by omega)) Zb))))))
theorem d65 {h:Hal} (hk:h.ok) {s:Stg} (hs:s.few) (e0:serr h s=0) (a:Ask) (hf:Near 5000 (a.fx,a.fy,a.fz)) (ht:Near 5000 (a.tx,a.ty,a.tz)) {ns:List Int} (hl:ns.length<=4) (hi:∀ n∈ns,0<=n/\n<nsur h) :
  PCall Tryz.prog 71 [.agg (stgL h s),a.av,.isl 1 (nl ns)] ⟨rawP (Yo h s (a.fx,a.fy,a.fz) (a.tx,a.ty,a.tz) ns),[]⟩:=by
 obtain ⟨fx,fy,fz,tx,ty,tz,n⟩:=a
 dsimp only at hf ht ⊢
 have hk0:=Yfe hk hs e0 hf hl hi
 unfold kPth at hk0
 have w0:=Zsv hf
 have wT:=Zsv ht
 have ll:=Zl ns
 have o1:=Zcu [.agg (stgL h s),P3 fx fy fz,.isl 1 (nl ns)] ⟨.isl 3 (imC (im1 h s) (fx,fy,fz) ns ns.length),[]⟩
 have o2:=Zcu [.isl 1 (nl ns)] ⟨.isl 1 (nl ns),[]⟩
 have hR:=Zbm h s (fx,fy,fz) (tx,ty,tz) ns
 generalize Yo h s (fx,fy,fz) (tx,ty,tz) ns=R at *
 have il:=Zka (im1 h s) (fx,fy,fz) ns ns.length
 have x2:Qa Qb (((nl ns).length:Int)+2)=((ns.length+2:Nat):Int):=by rw [ll,W_eq (by omega) (by omega)]; omega
 have x1:Qa Qb (((nl ns).length:Int)+1)=((ns.length+1:Nat):Int):=by rw [ll,W_eq (by omega) (by omega)]; omega
 have a1:decide (0<=Qa Qb (((nl ns).length:Int)+2)/\(Qa Qb (((nl ns).length:Int)+2)).toNat<=1000000)=true:=by rw [x2]; exact decide_eq_true ⟨by omega,by omega⟩
 have g0:(Rs (Qa Qb (((nl ns).length:Int)+2)).toNat (ptc ptZ))[0+Sy 0]?=some (ptc ptZ):=by
  rw [x2,Rl,List.getElem?_replicate,if_pos (by omega)]
 have g1:(Ziv (Rs (Qa Qb (((nl ns).length:Int)+2)).toNat (ptc ptZ)) (0+Sy 0) (ptc (pnt (fx,fy,fz))))[0+(Qa Qb (((nl ns).length:Int)+1)).toNat]?=some (ptc ptZ):=by
  rw [Zbh,x2,x1,Ll,if_neg (by omega)]; simp
 have hE0:Ziv (Ziv (Rs (Qa Qb (((nl ns).length:Int)+2)).toNat (ptc ptZ)) (0+Sy 0) (ptc (pnt (fx,fy,fz)))) (0+(Qa Qb (((nl ns).length:Int)+1)).toNat) (ptc (pnt (tx,ty,tz)))=(((Rs (ns.length+2) ptZ).set 0 (pnt (fx,fy,fz))).set (ns.length+1) (pnt (tx,ty,tz))).map ptc:=by
  rw [Zbh,Zbh,x2,x1,Kv,Kv,List.map_replicate]
  congr 1
  omega
 refine bs.pv (sx:=nos) hk0 Tryz.func71 (by kernel_rfl) (by kernel_rfl) (Yav _) ?_
 unfold Zic
 conv=>whnf
 repeat'(first|refine wk3 ?_|(refine wk2 ?_ ?_<;>intro _)|refine wk4 ?_|fail);all_goals(conv=>whnf)
 obtain ⟨l,hlk⟩:∃ l,l=lkG (im1 h s) (fx,fy,fz) ns:=⟨_,rfl⟩
 have hll:l.length=ns.length:=by rw [hlk,Zar]
 have hlt' : ∀ {k:Nat} (hk:k<ns.length),(l.take (k+1)).reverse=(ns[k],imA (im1 h s) (fx,fy,fz) ns (k+1))::(l.take k).reverse:=fun hk=>by rw [hlk]; exact Zm4 hk
 rw [<-hlk] at hR
 clear hlk
 refine Zy (S:=Nat × Int × List (List AV) × List Pt) (fun t=>t.1) (fun t=>[(2,.isl 1 (nl ns)),(3,.ptr 0 0 0),(4,.ptr 1 0 0),(6,.ptr 2 0 0),(8,.isl 3 (imC (im1 h s) (fx,fy,fz) ns ns.length)),(9,I (nl ns).length),(10,.asl 3 0 (Qa Qb (((nl ns).length:Int)+2)).toNat),(11,I t.2.1)])
  (fun t=>[(3,.row 4 t.2.2.1 true true),(2,.row 3 [[.nils,.nils,I 0]] true false),(1,.row 7 [[I fx,I fy,I fz,I tx,I ty,I tz,I n]] true false),(0,.row 11 [stgL h s] true false)]) 18 18
  (fun t=>t.2.1=t.1/\t.1<=ns.length/\t.2.2.1=t.2.2.2.map ptc/\t.2.2.2.length=ns.length+2/\t.2.2.2[0]?=some (pnt (fx,fy,fz))/\(∀ p∈t.2.2.2,p.wf)/\∃ to P Q,t.2.2.2.drop (t.1+1)=to::Q/\P++[pnt (tx,ty,tz)]=to::Q/\goP (fP h s) (l.take t.1).reverse to P=goP (fP h s) l.reverse (pnt (tx,ty,tz)) [])
  (ns.length,(nl ns).length,_,(((Rs (ns.length+2) ptZ).set 0 (pnt (fx,fy,fz))).set (ns.length+1) (pnt (tx,ty,tz)))) ⟨by dsimp only; rw [ll],Qd _,hE0,by simp,by simp,?_,pnt (tx,ty,tz),[],[],by rw [Zc5 (by simp)]; simp,rfl,by rw [<-hll,List.take_length]⟩ (Qd _) [] rfl (kps) (kps) ?_
 ·intro p hp
  rcases Wi hp with hp|rfl
  ·rcases Wi hp with hp|rfl
   ·rw [List.eq_of_mem_replicate hp]; exact Zll
   ·exact w0
  ·exact wT
 clear g0 g1 hE0 a1
 rintro ⟨k,i,els,pts⟩ ⟨hi1,hk1,hels,hpl,hp0,hwf,to,P,Q,hd,hPQ,hgo⟩
 dsimp only at hi1 hk1 hels hpl hp0 hwf hd hPQ hgo ⊢
 subst hi1 hels
 have lp:(pts.map ptc).length=ns.length+2:=by rw [Rw,hpl]
 refine bs.av (sx:=nos) hk0 ?_
 cases k with
 | succ j =>
  have b0:((j+1:Nat):Int)>=1:=by omega
  have b1:Qa Qb (((j+1:Nat):Int)-1)=j:=by rw [W_eq (by omega) (by omega)]; omega
  have b2:Qa Qb (((j+1:Nat):Int)+1)=((j+2:Nat):Int):=by rw [W_eq (by omega) (by omega)]; omega
  have e1:(nl ns)[(Qa Qb (((j+1:Nat):Int)-1)).toNat]?=some [I ns[j]]:=by rw [b1]; simp [nl]
  have e2:(imC (im1 h s) (fx,fy,fz) ns ns.length)[((j+1:Nat):Int).toNat]?=some (pl3 (imA (im1 h s) (fx,fy,fz) ns (j+1))):=by
   rw [Rl]; unfold imC; rw [Rt,List.getElem?_range (by omega)]; rfl
  have hto:pts[j+2]?=some to:=by rw [<-List.head?_drop,hd]; rfl
  have e3:(pts.map ptc)[0+(Qa Qb (((j+1:Nat):Int)+1)).toNat]?=some (ptc to):=by rw [b2,Rl,Sf,Rt,hto]; rfl
  have e4:(pts.map ptc)[0+((j+1:Nat):Int).toNat]?=some (ptc (pts[j+1]'(by omega))):=by rw [Rl,Sf]; exact Zhq (by omega)
  have wto:to.wf:=hwf _ (List.mem_of_getElem? hto)
  rw [hlt' (by omega),goP] at hgo
  have c1:=Ztp (h:=h) (s:=s) (c:=⟨ns[j],(imA (im1 h s) (fx,fy,fz) ns (j+1)).1,(imA (im1 h s) (fx,fy,fz) ns (j+1)).2.1,(imA (im1 h s) (fx,fy,fz) ns (j+1)).2.2,to⟩) wto
  have w1:=Zy6 (h:=h) (s:=s) ⟨ns[j],(imA (im1 h s) (fx,fy,fz) ns (j+1)).1,(imA (im1 h s) (fx,fy,fz) ns (j+1)).2.1,(imA (im1 h s) (fx,fy,fz) ns (j+1)).2.2,to⟩ hk hs
  have hfp:fP h s ns[j] (imA (im1 h s) (fx,fy,fz) ns (j+1)) to=crsA h s ⟨ns[j],(imA (im1 h s) (fx,fy,fz) ns (j+1)).1,(imA (im1 h s) (fx,fy,fz) ns (j+1)).2.1,(imA (im1 h s) (fx,fy,fz) ns (j+1)).2.2,to⟩:=rfl
  rw [hfp] at hgo
  clear hfp
  generalize crsA h s ⟨ns[j],(imA (im1 h s) (fx,fy,fz) ns (j+1)).1,(imA (im1 h s) (fx,fy,fz) ns (j+1)).2.1,(imA (im1 h s) (fx,fy,fz) ns (j+1)).2.2,to⟩=r at *
  obtain ⟨⟨x,y,z,d⟩,E⟩:=r
  generalize imA (im1 h s) (fx,fy,fz) ns (j+1)=q at *
  obtain ⟨qx,qy,qz⟩:=q
  obtain ⟨X,Y,Z,V⟩:=to
  dsimp only at hgo w1 c1
  by_cases hE:E=0
  ·subst hE
   rw [if_pos rfl] at hgo
   have hs1:Ziv (pts.map ptc) (0+((j+1:Nat):Int).toNat) (ptc ⟨x,y,z,d⟩)=(pts.set (j+1) ⟨x,y,z,d⟩).map ptc:=by
    rw [Rl,Sf]; exact Zn0 _ _ _
   repeat'(first|refine wk3 ?_|(refine wk2 ?_ ?_<;>intro _)|refine wk4 ?_|fail);all_goals(conv=>whnf)
   exact Qq ⟨(j,_,_,pts.set (j+1) ⟨x,y,z,d⟩),[],rfl,kps,kps,⟨b1,by dsimp only; omega,hs1,by dsimp only; rw [Hz,hpl],by dsimp only; rw [Ll,if_neg (by omega)]; exact hp0,(fun p hp=>by
    rcases Wi hp with hp|rfl
    ·exact hwf p hp
    ·exact w1),⟨x,y,z,d⟩,⟨x,y,z,d⟩::P,⟨X,Y,Z,V⟩::Q,by dsimp only; rw [Zc5 (by omega),hd],by rw [Tn,hPQ],hgo⟩,by dsimp only; omega⟩
  ·rw [if_neg hE] at hgo
   rw [<-hgo] at hR
   dsimp only at hR
   subst hR
   repeat'(first|refine wk3 ?_|(refine wk2 ?_ ?_<;>intro _)|refine wk4 ?_|fail);all_goals(conv=>whnf)
   all_goals exact Zg rfl rfl
 | zero =>
  have hpe:pts=pnt (fx,fy,fz)::P++[pnt (tx,ty,tz)]:=by
   rw [Tn,hPQ,<-hd]
   clear hk0 hwf lp hpl
   cases pts with
   | nil=>cases hp0
   | cons p r=>cases hp0; rfl
  rw [List.take_zero,List.reverse_nil,goP] at hgo
  rw [<-hgo] at hR
  dsimp only at hR
  rw [<-hpe] at hR
  have hPl:P.length=ns.length:=by
   have:=congrArg List.length hpe
   simp at this; omega
  clear hgo hlt' hd hPQ Q to
  repeat'(first|refine wk3 ?_|(refine wk2 ?_ ?_<;>intro _)|refine wk4 ?_|fail);all_goals(conv=>whnf)
  refine Zy (S:=Nat × Int) (fun t=>ns.length+1-t.1) (fun t=>[(2,.isl 1 (nl ns)),(3,.ptr 0 0 0),(4,.ptr 1 0 0),(6,.ptr 2 0 0),(8,.isl 3 (imC (im1 h s) (fx,fy,fz) ns ns.length)),(9,I (nl ns).length),(10,.asl 3 0 (Qa Qb (((nl ns).length:Int)+2)).toNat),(75,I (Qa Qb (((nl ns).length:Int)+1))),(76,I t.2)])
   (fun t=>[(3,.row 4 (pts.map ptc) true true),(2,.row 3 [[.nils,.nils,I 0]] true false),(1,.row 7 [[I fx,I fy,I fz,I tx,I ty,I tz,I n]] true false),(0,.row 11 [stgL h s] true false)]) 18 18
   (fun t=>t.2=t.1/\t.1<=ns.length+1/\chkW (wP h s) (pts.drop t.1)=chkW (wP h s) pts) (0,0) ⟨rfl,Qn _,rfl⟩ (Qd _) [] rfl (kps) (kps) ?_
  rintro ⟨k,i⟩ ⟨hi1,hk1,hck⟩
  dsimp only at hi1 hk1 hck ⊢
  subst hi1
  by_cases hlt:k<ns.length+1
  ·have b0:((k:Nat):Int)<Qa Qb (((nl ns).length:Int)+1):=by rw [x1]; omega
   have b2:Qa Qb (((k:Nat):Int)+1)=((k+1:Nat):Int):=by rw [W_eq (by omega) (by omega)]; omega
   have e3:(pts.map ptc)[0+((k:Nat):Int).toNat]?=some (ptc (pts[k]'(by omega))):=by rw [Rl,Sf]; exact Zhq (by omega)
   have e4:(pts.map ptc)[0+(Qa Qb (((k:Nat):Int)+1)).toNat]?=some (ptc (pts[k+1]'(by omega))):=by rw [b2,Rl,Sf]; exact Zhq (by omega)
   rw [Zpy (by omega)] at hck
   have v1:=Zsa (h:=h) (s:=s) (hwf (pts[k]'(by omega)) (Qr _)) (hwf (pts[k+1]'(by omega)) (Qr _))
   have hw:wP h s (pts[k]'(by omega)) (pts[k+1]'(by omega))=(decide (wayE h s (pts[k]'(by omega)) (pts[k+1]'(by omega))=0)&&Zea h s (pts[k]'(by omega)) (pts[k+1]'(by omega))):=rfl
   rw [hw] at hck
   clear hw
   generalize (pts[k]'(by omega))=p1 at *
   generalize (pts[k+1]'(by omega))=p2 at *
   generalize wayE h s p1 p2=u at *
   generalize Zea h s p1 p2=f at *
   obtain ⟨x1,y1,z1,d1⟩:=p1
   obtain ⟨x2,y2,z2,d2⟩:=p2
   refine bs.av (sx:=nos) hk0 ?_
   cases hb:(decide (u=0)&&f) with
   | true =>
    rw [hb,Bool.true_and] at hck
    repeat'(first|refine wk3 ?_|(refine wk2 ?_ ?_<;>intro _)|refine wk4 ?_|fail);all_goals(conv=>whnf)
    all_goals first
     | (exfalso; clear hk0; simp_all; done)
     | exact Qq ⟨(k+1,_),[],rfl,kps,kps,⟨b2,hlt,hck⟩,by dsimp only; omega⟩
   | false =>
    rw [hb,Bool.false_and] at hck
    rw [<-hck,if_neg (by simp)] at hR
    subst hR
    repeat'(first|refine wk3 ?_|(refine wk2 ?_ ?_<;>intro _)|refine wk4 ?_|fail);all_goals(conv=>whnf)
    all_goals first
     | exact Zg rfl rfl
     | (exfalso; clear hk0; simp_all; done)
  ·have hke:k=ns.length+1:=by omega
   subst hke
   rw [Zpz (by omega)] at hck
   rw [<-hck,if_pos rfl] at hR
   subst hR
   refine Awp.froz [3] rfl (bs.av (sx:=nos) hk0 ?_)
   conv=>whnf
   repeat'(first|refine wk3 ?_|(refine wk2 ?_ ?_<;>intro _)|refine wk4 ?_|fail);all_goals(conv=>whnf)
   have y1:Ze0 (some (I (Qa Qb (((nl ns).length:Int)+1)))) (Qa Qb (((nl ns).length:Int)+2)).toNat=some (ns.length+1):=by
    show cond (decide (0<=Qa Qb (((nl ns).length:Int)+1))) (some (Qa Qb (((nl ns).length:Int)+1)).toNat) none=_
    rw [x1,decide_eq_true (by omega)]
    simp only [cond_true,Qe]; omega
   have cl:clT [.isl 4 (Dq (ns.length+1-Sy 1) (Ds (0+Sy 1) (pts.map ptc)))]=some ⟨.isl 4 ((P.map tup4).map hp4),[]⟩:=by
    have e:Dq (ns.length+1-Sy 1) (Ds (0+Sy 1) (pts.map ptc))=(P.map tup4).map hp4:=by
     rw [hpe,Tn,Ti,show (0+Sy 1)=1 from rfl,List.drop_succ_cons,List.drop_zero,List.map_append,show ns.length+1-Sy 1=(P.map ptc).length by rw [Rw,hPl]; omega,List.take_left,List.map_map]
     rfl
    rw [e]
    exact Yf4 (by rw [Rw]; omega)
   have e5:(imC (im1 h s) (fx,fy,fz) ns ns.length)[((nl ns).length:Int).toNat]?=some (pl3 (imA (im1 h s) (fx,fy,fz) ns ns.length)):=by
    rw [Rl,ll]; exact Zm5 _ _ _ _
   refine Zmc rfl rfl rfl rfl rfl rfl y1 (by omega) (by rw [x2]; omega) (by rw [x2]; omega) ?_
   conv=>whnf
   generalize imA (im1 h s) (fx,fy,fz) ns ns.length=q at *
   obtain ⟨qx,qy,qz⟩:=q
   repeat'(first|refine wk3 ?_|(refine wk2 ?_ ?_<;>intro _)|refine wk4 ?_|fail);all_goals(conv=>whnf)
   exact Zg rfl rfl
theorem Zko {h:Hal} {s:Stg} (g:Sit h s) (e0:serr h s=0) {n:Int} (hn:0<=n/\n<nsur h) {q:Pl3} (hq:Near 45000 q) {to:Pt} (hto:Yu to=0) :
  CrOk (Zf h s n) ⟨n,q.1,q.2.1,q.2.2,to⟩/\SK h n/\crsA h s ⟨n,q.1,q.2.1,q.2.2,to⟩=Zao (Zit h n) (Zf h s n) ⟨n,q.1,q.2.1,q.2.2,to⟩ /\
  ((crsA h s ⟨n,q.1,q.2.1,q.2.2,to⟩).2=0->Yu (crsA h s ⟨n,q.1,q.2.1,q.2.2,to⟩).1=0/\valN (Zf h s n).1 (crsA h s ⟨n,q.1,q.2.1,q.2.2,to⟩).1.x (crsA h s ⟨n,q.1,q.2.1,q.2.2,to⟩).1.y (crsA h s ⟨n,q.1,q.2.1,q.2.2,to⟩).1.z=(Zf h s n).2*(crsA h s ⟨n,q.1,q.2.1,q.2.2,to⟩).1.d):=by
 have hi:=Zhn hn.1 hn.2
 obtain ⟨⟨b1,b2⟩,b3⟩:=Zcs g hi
 obtain ⟨h1,h2,h3⟩:=hq
 obtain ⟨p1,p2,_,p4⟩:=Zb3 hto
 unfold ptIn at p4
 simp only [Qc,within_iff] at p4
 have ho:CrOk (Zf h s n) ⟨n,q.1,q.2.1,q.2.2,to⟩:=⟨b1,b2,b3,h1,h2,h3,p1,p2,p4.1.1,p4.1.2,p4.2⟩
 have he:crsE h s ⟨n,q.1,q.2.1,q.2.2,to⟩=0:=by
  unfold crsE surE Vy img
  rw [if_pos e0,if_pos (within_iff.2 (by dsimp only; omega)),if_pos rfl,if_pos (by simp only [Qc,within_iff]; omega)]
  exact hto
 have hA:crsA h s ⟨n,q.1,q.2.1,q.2.2,to⟩=Zao (Zbd h n) (Zf h s n) ⟨n,q.1,q.2.1,q.2.2,to⟩:=by unfold crsA; rw [if_pos he]
 refine ⟨ho,hi,by rw [hA]; exact Yb8 (c:=⟨n,q.1,q.2.1,q.2.2,to⟩) g hi ho,fun hz=>?_⟩
 rw [hA] at hz ⊢
 refine ⟨Zru (c:=⟨n,q.1,q.2.1,q.2.2,to⟩) g hi ho hz,?_⟩
 unfold Zao at hz ⊢
 split at hz
 ·cases hz
 ·rename_i hs
  split at hz
  ·rename_i hw
   split at hz
   ·cases hz
   ·rename_i hd
    rw [if_neg hs,if_pos hw,if_neg hd]
    exact Zf3 ho hs
  ·cases hz
theorem Yfn (a b c:Int):Tk (Tk a.natAbs b.natAbs) (Tk c.natAbs (1:Int).natAbs)=1:=by
 rw [show (1:Int).natAbs=1 from rfl,Dd,Dd]
theorem Zd0 {q:Pl3} (h:Near 5000 q):Yu (pnt q)=0:=by
 obtain ⟨h1,h2,h3⟩:=h
 unfold Yu pnt g4 ptIn
 dsimp only
 rw [Yfn,if_neg (by simp),if_neg (by omega),if_pos (by simp only [Qc,within_iff]; omega)]
theorem Ygl {h:Hal} {ns:List Int} (hi:∀ n∈ns,0<=n/\n<nsur h):∀ n∈ns,SK h n:=fun n hn=>Zhn (hi n hn).1 (hi n hn).2
theorem Zo {m k:Int} (h:k<=m) {p:Pl3} (hp:Near k p):Near m p:=by
 obtain ⟨h1,h2,h3⟩:=hp
 exact ⟨by omega,by omega,by omega⟩
abbrev Pt4:=Int × Int × Int × Int
def eqP4 (a b:Pt4):Bool:=decide (a.1=b.1)&&(decide (a.2.1=b.2.1)&&(decide (a.2.2.1=b.2.2.1)&&decide (a.2.2.2=b.2.2.2)))
def eqP:List Pt4->List Pt4->Bool
 | [],[]=>true
 | x::a,y::b=>eqP4 x y&&eqP a b
 | _,_=>false
theorem Ybw {a b:Pt4}:eqP4 a b=true↔a=b:=by
 obtain ⟨a1,a2,a3,a4⟩:=a
 obtain ⟨b1,b2,b3,b4⟩:=b
 simp [eqP4]
theorem Zys:∀ {a b:List Pt4},eqP a b=true↔a=b
 | [],[]=>by simp [eqP]
 | x::a,y::b=>by rw [eqP,Qc,Ybw,Zys]; simp
 | [],y::b=>by simp [eqP]
 | x::a,[]=>by simp [eqP]
def same (a b:Pth):Bool:=eqN a.ss b.ss&&(decide (a.sq=b.sq)&&eqP a.ps b.ps)
theorem same_iff {a b:Pth}:same a b=true↔a=b:=by
 obtain ⟨a1,a2,a3⟩:=a
 obtain ⟨b1,b2,b3⟩:=b
 unfold same
 rw [Qc,Qc,Zyt,Zys,decide_eq_true_eq]
 simp only [Pth.mk.injEq]
 exact ⟨fun ⟨h1,h2,h3⟩=>⟨h1,h3,h2⟩,fun ⟨h1,h2,h3⟩=>⟨h1,h3,h2⟩⟩
theorem Yhx {a b:List Pt4} (h:a.map hp4=b.map hp4):a=b:=by
 refine (List.map_inj_right (fun x y hxy=>?_)).1 h
 obtain ⟨x1,x2,x3,x4⟩:=x
 obtain ⟨y1,y2,y3,y4⟩:=y
 simpa using hxy
theorem Zww {a b:Pth} (h:a.av=b.av):a=b:=by
 obtain ⟨a1,a2,a3⟩:=a
 obtain ⟨b1,b2,b3⟩:=b
 simp only [Lk,Qx,Ng,Wv,true_and,and_true] at h
 rw [Zij h.1,Yhx h.2.1,h.2.2]
structure AskOk (h:Hal) (s:Stg) (a:Ask):Prop where
 e0:serr h s=0
 f:Near 5000 (a.fx,a.fy,a.fz)
 t:Near 5000 (a.tx,a.ty,a.tz)
 fi:Zai h ⟨a.fx,a.fy,a.fz,1⟩=true
 ti:Zai h ⟨a.tx,a.ty,a.tz,1⟩=true
 ne:a.same=false
 n:0<=a.n/\a.n<=4
theorem Xl {h:Hal} {s:Stg} {a:Ask} (e:askE h s a=0):AskOk h s a:=by
 unfold askE at e
 split at e
 ·rename_i e0
  simp only [fstL] at e
  by_cases c1:plaE h a.fx a.fy a.fz=0
  rotate_left
  ·rw [if_pos (fun k=>c1 k)] at e; exact absurd e c1
  by_cases c2:plaE h a.tx a.ty a.tz=0
  rotate_left
  ·rw [if_neg (fun k=>k c1),if_pos (fun k=>c2 k)] at e; exact absurd e c2
  by_cases c3:unl (!a.same) 11=0
  rotate_left
  ·rw [if_neg (fun k=>k c1),if_neg (fun k=>k c2),if_pos (fun k=>c3 k)] at e; exact absurd e c3
  by_cases c4:unl (within a.n 0 4) 2=0
  rotate_left
  ·rw [if_neg (fun k=>k c1),if_neg (fun k=>k c2),if_neg (fun k=>k c3),if_pos (fun k=>c4 k)] at e; exact absurd e c4
  refine ⟨e0,(Zgk c1).1,(Zgk c2).1,(Zgk c1).2,(Zgk c2).2,?_,?_⟩
  ·cases hs:a.same with
   | false=>rfl
   | true=>rw [hs] at c3; cases c3
  ·cases hw:within a.n 0 4 with
   | true=>exact within_iff.1 hw
   | false=>rw [hw] at c4; cases c4
 ·rename_i e0; exact absurd e e0
theorem Zen {h:Hal} {s:Stg} {q0 q1:Pl3} {ns:List Int} {p:Pth} (e:Yo h s q0 q1 ns=some p):p.ss=ns:=by
 rw [Zbm] at e
 split at e
 ·cases e
 ·split at e
  ·cases e; rfl
  ·cases e
theorem Zyb {f:Int->Pl3->Pt->Pt × Int}:∀ {l:List (Int × Pl3)} {to:Pt} {P R:List Pt},goP f l to P=some R->R.length=l.length+P.length
 | [],_,_,_,h=>by rw [goP,Qe] at h; subst h; simp
 | (a,q)::r,to,P,R,h=>by
  rw [goP] at h
  split at h
  ·have:=Zyb h
   rw [this,Sn,Sn]; omega
  ·cases h
theorem Zsw {h:Hal} {s:Stg} {q0 q1:Pl3} {ns:List Int} {p:Pth} (e:Yo h s q0 q1 ns=some p):p.ps.length=ns.length:=by
 rw [Zbm] at e
 split at e
 ·cases e
 ·rename_i P hP
  have:=Zyb hP
  rw [List.length_reverse,Zar,List.length_nil] at this
  split at e
  ·cases e; rw [Rw]; exact this
  ·cases e
abbrev qF (a:Ask):Pl3:=(a.fx,a.fy,a.fz)
abbrev qT (a:Ask):Pl3:=(a.tx,a.ty,a.tz)
end Go.Proofs.YtfkdpbklbegnlaaGreat
