/- A part of the proof: lemmas. -/
import Derived.Test.YtipbliclbihaeaaGreatA11
import Derived.Test.YtipbliclbihaeaaGreatA10
import Derived.Test.YtipbliclbihaeaaGreatA7
import Derived.Test.YtipbliclbihaeaaGreatA8
set_option linter.unusedVariables false
set_option linter.unusedSimpArgs false
set_option maxRecDepth 100000
set_option maxHeartbeats 16000000
open Bool renaming and_eq_true->Qc,eq_iff_iff->Rx,or_eq_true->Qu
open Go.IntKind renaming i64->Qb,wrap->Qa
open Go.Sx.AV.int renaming injEq->Sj
open Go.Sx.Done renaming mk->Qn
open Go.Sx.LpM renaming start->Tt,succ->Rn
open Int renaming add_comm->Wf,le_of_lt->Qq,lt_or_le->Jr,mul_assoc->Mz,mul_comm->Ra,mul_eq_zero->Nt,mul_le_mul_of_nonneg_left->Rd,mul_le_mul_of_nonneg_right->Qi,mul_lt_mul_of_pos_right->Tk,mul_neg->Rv,mul_nonneg->Qw,mul_one->Sb,mul_pos->Re,natAbs_mul->Oi,natAbs_natCast->Nx,ofNat_dvd_left->Nw,one_mul->Tw,sub_mul->Ko
open List renaming getElem_mem->Qt,length_cons->Tf,length_nil->Pa,map_congr_left->Og,map_cons->Sp,mem_cons->Qz
open List.cons renaming injEq->Qv
open Nat renaming beq->Qm,dvd_trans->My,gcd->Sw,gcd_dvd_left->Jf,gcd_dvd_right->Ov,gcd_mul_right->Kr,le_refl->Qf,zero_add->Rw,zero_le->Qo
namespace Go.Proofs.YtipbliclbihaeaaGreat
open Go Go.Sx
structure Crs where
 su:Int
 fx:Int
 fy:Int
 fz:Int
 to:Pt
abbrev Crs.av (c:Crs):AV:=.agg [I c.su,I c.fx,I c.fy,I c.fz,I c.to.x,I c.to.y,I c.to.z,I c.to.d]
def crF (pl:Int × Int) (c:Crs):Int:=valN pl.1 c.fx c.fy c.fz-pl.2
def crG (pl:Int × Int) (c:Crs):Int:=valN pl.1 c.to.x c.to.y c.to.z-pl.2*c.to.d
def crPt (c:Crs) (u v:Int):Pt:=⟨c.fx*u+c.to.x*v,c.fy*u+c.to.y*v,c.fz*u+c.to.z*v,u+c.to.d*v⟩
def redP (p:Pt):Pt:=⟨p.x / (g4 p:Int),p.y / (g4 p:Int),p.z / (g4 p:Int),p.d / (g4 p:Int)⟩
def iabs (n:Int):Int:=if n<0 then -n else n
def Xk (pl:Int × Int) (c:Crs):Pt:=redP (crPt c (iabs (crG pl c)) (iabs (crF pl c)))
def ptZ:Pt:=⟨0,0,0,0⟩
def Ul (well:Pt->Bool) (pl:Int × Int) (c:Crs):Pt × Int :=
 if 0<=sgn (crF pl c)*sgn (crG pl c) then (ptZ,12)
 else if well (Xk pl c) then (if 100000<(Xk pl c).d then (ptZ,8) else (Xk pl c,0))
 else (ptZ,12)
structure CrOk (pl:Int × Int) (c:Crs):Prop where
 k0:0<=pl.1
 k4:pl.1<=4
 at' : -10000<=pl.2/\pl.2<=10000
 fx : -45000<=c.fx/\c.fx<=45000
 fy : -45000<=c.fy/\c.fy<=45000
 fz : -45000<=c.fz/\c.fz<=45000
 d0:0<c.to.d
 d1:c.to.d<=100000
 x : -(5000*c.to.d)<=c.to.x/\c.to.x<=5000*c.to.d
 y : -(5000*c.to.d)<=c.to.y/\c.to.y<=5000*c.to.d
 z : -(5000*c.to.d)<=c.to.z/\c.to.z<=5000*c.to.d
theorem Zvl {pl:Int × Int} {c:Crs} (h:CrOk pl c):Qa Qb (offN pl.1 c.fx c.fy c.fz-pl.2)=crF pl c/\Qa Qb (offN pl.1 c.fx c.fy c.fz-Qa Qb (pl.2*1))=crF pl c /\ -100000<=crF pl c/\crF pl c<=100000:=by
 obtain ⟨h1,h2,h3,h4,h5,h6,_⟩:=h
 unfold crF valN offN
 rw [Sb,W_eq (n:=pl.2) (by omega) (by omega)]
 repeat' split
 all_goals (try rw [W_eq (n:=c.fx+c.fy) (by omega) (by omega)])
 all_goals (try rw [W_eq (n:=c.fx-c.fy) (by omega) (by omega)])
 all_goals (refine ⟨W_eq (by omega) (by omega),W_eq (by omega) (by omega),by omega,by omega⟩)
theorem Zvk {pl:Int × Int} {c:Crs} (h:CrOk pl c):Qa Qb (offN pl.1 c.to.x c.to.y c.to.z-Qa Qb (pl.2*c.to.d))=crG pl c /\ -2000000000<=crG pl c/\crG pl c<=2000000000:=by
 obtain ⟨h1,h2,h3,h4,h5,h6,h7,h8,h9,h10,h11⟩:=h
 have m:=Zl (a:=pl.2) (b:=c.to.d) (A:=10000) (B:=100000) (by omega) (by omega)
 unfold crG valN offN
 rw [W_eq (n:=pl.2*c.to.d) (by omega) (by omega)]
 generalize pl.2*c.to.d=m at *
 repeat' split
 all_goals (try rw [W_eq (n:=c.to.x+c.to.y) (by omega) (by omega)])
 all_goals (try rw [W_eq (n:=c.to.x-c.to.y) (by omega) (by omega)])
 all_goals (refine ⟨W_eq (by omega) (by omega),by omega,by omega⟩)
theorem Zpo {pl:Int × Int} {c:Crs} (h:CrOk pl c) {u v:Int} (hu:0<=u/\u<=2000000000) (hv:0<=v/\v<=100000) :
  (-90000000000000<=c.fx*u/\c.fx*u<=90000000000000)/\(-90000000000000<=c.fy*u/\c.fy*u<=90000000000000)/\(-90000000000000<=c.fz*u/\c.fz*u<=90000000000000) /\
  (-50000000000000<=c.to.x*v/\c.to.x*v<=50000000000000)/\(-50000000000000<=c.to.y*v/\c.to.y*v<=50000000000000)/\(-50000000000000<=c.to.z*v/\c.to.z*v<=50000000000000)/\(0<=c.to.d*v/\c.to.d*v<=10000000000):=by
 obtain ⟨h1,h2,h3,h4,h5,h6,h7,h8,h9,h10,h11⟩:=h
 have m1:=Zl (a:=c.fx) (b:=u) (A:=45000) (B:=2000000000) (by omega) (by omega)
 have m2:=Zl (a:=c.fy) (b:=u) (A:=45000) (B:=2000000000) (by omega) (by omega)
 have m3:=Zl (a:=c.fz) (b:=u) (A:=45000) (B:=2000000000) (by omega) (by omega)
 have m4:=Zl (a:=c.to.x) (b:=v) (A:=500000000) (B:=100000) (by omega) (by omega)
 have m5:=Zl (a:=c.to.y) (b:=v) (A:=500000000) (B:=100000) (by omega) (by omega)
 have m6:=Zl (a:=c.to.z) (b:=v) (A:=500000000) (B:=100000) (by omega) (by omega)
 have m7:=Zl (a:=c.to.d) (b:=v) (A:=100000) (B:=100000) (by omega) (by omega)
 have m8:=Qw (Qq h7) hv.1
 refine ⟨by omega,by omega,by omega,by omega,by omega,by omega,by omega,by omega⟩
structure Big (p:Pt):Prop where
 x : -140000000000000<=p.x/\p.x<=140000000000000
 y : -140000000000000<=p.y/\p.y<=140000000000000
 z : -140000000000000<=p.z/\p.z<=140000000000000
 d:0<p.d/\p.d<=12000000000
theorem Big.wf {p:Pt} (h:Big p):p.wf:=by
 obtain ⟨h1,h2,h3,h4⟩:=h
 exact ⟨⟨by omega,by omega⟩,⟨by omega,by omega⟩,⟨by omega,by omega⟩,⟨by omega,by omega⟩⟩
theorem Zx2 {pl:Int × Int} {c:Crs} (h:CrOk pl c) {u v:Int} (hu:0<u/\u<=2000000000) (hv:0<v/\v<=100000):Big (crPt c u v):=by
 have hb:=Zpo h (u:=u) (v:=v) (by omega) (by omega)
 unfold crPt
 refine ⟨?_,?_,?_,?_⟩<;>dsimp only<;>omega
theorem Yc5 (p:Pt):((g4 p:Int) ∣ p.x/\(g4 p:Int) ∣ p.y)/\((g4 p:Int) ∣ p.z/\(g4 p:Int) ∣ p.d):=by
 unfold g4
 have a:=Jf (Sw p.x.natAbs p.y.natAbs) (Sw p.z.natAbs p.d.natAbs)
 have b:=Ov (Sw p.x.natAbs p.y.natAbs) (Sw p.z.natAbs p.d.natAbs)
 exact ⟨⟨Nw.2 (My a (Jf _ _)),Nw.2 (My a (Ov _ _))⟩,⟨Nw.2 (My b (Jf _ _)),Nw.2 (My b (Ov _ _))⟩⟩
theorem Zbw {a g:Int} (hg:0<g) (h:g ∣ a):a.tdiv g=a / g/\a / g*g=a/\(∀ B,-B<=a/\a<=B -> -B<=a / g/\a / g<=B):=by
 obtain ⟨k,rfl⟩:=h
 rw [Int.mul_tdiv_cancel_left _ (by omega),Int.mul_ediv_cancel_left _ (by omega)]
 refine ⟨rfl,Ra _ _,fun B hB=>?_⟩
 rcases Jr k 0 with hk|hk
 ·have:=Qi (show 1<=g by omega) (show 0 <= -k by omega)
  have e:g * -k = -(g*k):=Rv _ _
  omega
 ·have:=Qi (show 1<=g by omega) hk
  omega
theorem Zb6 {p:Pt} (h:Big p):(0<(g4 p:Int)/\(g4 p:Int)<=12000000000)/\(Qa Qb (p.x.tdiv (g4 p))=(redP p).x/\Qa Qb (p.y.tdiv (g4 p))=(redP p).y/\Qa Qb (p.z.tdiv (g4 p))=(redP p).z/\Qa Qb (p.d.tdiv (g4 p))=(redP p).d)/\Big (redP p)/\((redP p).x*g4 p=p.x/\(redP p).y*g4 p=p.y/\(redP p).z*g4 p=p.z/\(redP p).d*g4 p=p.d):=by
 obtain ⟨g1,g2⟩:=Yc4 h.wf h.d.1
 obtain ⟨⟨d1,d2⟩,d3,d4⟩:=Yc5 p
 have hg:(0:Int)<g4 p:=by omega
 obtain ⟨x1,x2,x3⟩:=Zbw hg d1
 obtain ⟨y1,y2,y3⟩:=Zbw hg d2
 obtain ⟨z1,z2,z3⟩:=Zbw hg d3
 obtain ⟨e1,e2,e3⟩:=Zbw hg d4
 obtain ⟨h1,h2,h3,h4⟩:=h
 have x3:=x3 140000000000000 h1
 have y3:=y3 140000000000000 h2
 have z3:=z3 140000000000000 h3
 have e3:=e3 12000000000 (by omega)
 have hd:0<p.d / (g4 p:Int):=by
  rcases Jr 0 (p.d / (g4 p:Int)) with k|k
  ·exact k
  ·have:=Qw (show 0 <= -(p.d / (g4 p:Int)) by omega) (Qq hg)
   rw [Int.neg_mul] at this
   omega
 refine ⟨by omega,⟨?_,?_,?_,?_⟩,⟨x3,y3,z3,hd,e3.2⟩,x2,y2,z2,e2⟩
 ·rw [x1]; exact W_eq (by omega) (by omega)
 ·rw [y1]; exact W_eq (by omega) (by omega)
 ·rw [z1]; exact W_eq (by omega) (by omega)
 ·rw [e1]; exact W_eq (by omega) (by omega)
theorem Big.ok {p:Pt} (h:Big p):PtOk p.x p.y p.d:=by
 obtain ⟨h1,h2,h3,h4⟩:=h
 exact ⟨h4.1,by omega,by omega,by omega⟩
theorem Zjy {pl:Int × Int} {c:Crs} (h:CrOk pl c) (hs:¬ 0<=sgn (crF pl c)*sgn (crG pl c)):(0<iabs (crG pl c)/\iabs (crG pl c)<=2000000000)/\(0<iabs (crF pl c)/\iabs (crF pl c)<=100000):=by
 have h1:=(Zvl h).2.2
 have h2:=(Zvk h).2
 have h3:=sgn_mul_neg.1 (show sgn (crF pl c)*sgn (crG pl c)<0 by omega)
 unfold iabs
 refine ⟨?_,?_⟩<;>split<;>omega
theorem Zax {pl:Int × Int} {c:Crs} (h:CrOk pl c) (hs:¬ 0<=sgn (crF pl c)*sgn (crG pl c)):Big (crPt c (iabs (crG pl c)) (iabs (crF pl c))):=by
 obtain ⟨a,b⟩:=Zjy h hs
 exact Zx2 h a b
theorem Zwn (k a b c a' b' c' u v:Int):valN k (a*u+a'*v) (b*u+b'*v) (c*u+c'*v)=valN k a b c*u+valN k a' b' c'*v:=by
 unfold valN
 repeat' split
 all_goals grind
theorem Zwm (k a b c g:Int):valN k (a*g) (b*g) (c*g)=valN k a b c*g:=by
 unfold valN
 repeat' split
 all_goals grind
theorem Ze6 {pl:Int × Int} {c:Crs} (h:CrOk pl c) (hs:¬ 0<=sgn (crF pl c)*sgn (crG pl c)):valN pl.1 (Xk pl c).x (Xk pl c).y (Xk pl c).z=pl.2*(Xk pl c).d:=by
 obtain ⟨⟨g1,_⟩,_,_,e1,e2,e3,e4⟩:=Zb6 (Zax h hs)
 have h3:=sgn_mul_neg.1 (show sgn (crF pl c)*sgn (crG pl c)<0 by omega)
 have k:valN pl.1 (crPt c (iabs (crG pl c)) (iabs (crF pl c))).x (crPt c (iabs (crG pl c)) (iabs (crF pl c))).y (crPt c (iabs (crG pl c)) (iabs (crF pl c))).z=pl.2*(crPt c (iabs (crG pl c)) (iabs (crF pl c))).d:=by
  unfold crPt
  dsimp only
  rw [Zwn]
  have hF:valN pl.1 c.fx c.fy c.fz=crF pl c+pl.2:=by unfold crF; omega
  have hG:valN pl.1 c.to.x c.to.y c.to.z=crG pl c+pl.2*c.to.d:=by unfold crG; omega
  rw [hF,hG]
  have:crF pl c*iabs (crG pl c)+crG pl c*iabs (crF pl c)=0:=by
   unfold iabs
   rcases h3 with ⟨p1,p2⟩|⟨p1,p2⟩
   ·rw [if_neg (by omega),if_pos p1]; grind
   ·rw [if_pos p2,if_neg (by omega)]; grind
  grind
 unfold Xk
 rw [<-e1,<-e2,<-e3,<-e4,Zwm] at k
 generalize redP (crPt c (iabs (crG pl c)) (iabs (crF pl c)))=q at *
 have k2:(valN pl.1 q.x q.y q.z-pl.2*q.d)*(g4 (crPt c (iabs (crG pl c)) (iabs (crF pl c))):Int)=0:=by
  rw [Ko,k]; grind
 rcases Nt.1 k2 with k3|k3<;>omega
theorem Ze7 {h:Hal} (g:h.fine) {j:Nat} (hj:j<h.ks.length):CanOk h.ks[j]/\Zcc h.ht none h.ks[j].hs=0:=by
 have:=g.can j hj
 unfold Zgx at this
 split at this
 ·split at this
  ·cases this
  ·split at this
   ·cases this
   ·split at this
    ·cases this
    ·split at this
     ·cases this
     ·split at this
      ·split at this
       ·rename_i hz
        split at this
        ·rename_i hp
         split at this
         ·cases this
         ·rename_i hd
          simp only [Qc] at hp
          simp only [Qu,decide_eq_true_eq,not_or] at hd
          exact ⟨⟨within_iff.1 hp.1.1.1,within_iff.1 hp.1.1.2,within_iff.1 hp.1.2,within_iff.1 hp.2,hd.1,hd.2⟩,hz⟩
        ·cases this
       ·rename_i hx; exact absurd this hx
      ·cases this
 ·cases this
theorem ite9 {b:Bool} {x:Int} (h:(if b=true then 9 else x)=0):x=0:=by
 cases b
 ·exact h
 ·rw [if_pos rfl] at h; exact absurd h (by decide)
theorem Yc1 {ht:Int} (h0:2<=ht/\ht<=5000):∀ (l:List Int) (p:Option Int),Zcc ht p l=0->∀ n∈l,1<=n/\n<ht
 | [],_,_,n,hn=>by simp at hn
 | m::l,p,h,n,hn=>by
  rw [Zgr] at h
  split at h
  ·rename_i hw
   rw [W_eq (by omega) (by omega),within_iff] at hw
   have h2:=ite9 h
   rcases Qz.1 hn with rfl|hn
   ·omega
   ·exact Yc1 h0 l _ h2 n hn
  ·cases h
theorem Zqv {h:Hal} {s:Stg} (g:Sit h s) {j:Nat} (hj:j<h.ks.length):1<=Vx h s j/\Vx h s j<h.ht:=by
 obtain ⟨n,e1,e2,e3,e4⟩:=Zi1 g.set hj
 have hm:Vx h s j∈h.ks[j].hs:=by
  have:=List.mem_of_getElem? e4
  simp only [nl,List.mem_map,Qv,Sj,true_and,and_true] at this
  obtain ⟨m,hm,rfl⟩:=this
  exact hm
 exact Yc1 g.fine.ht _ _ (Ze7 g.fine hj).2 _ hm
theorem Zov {c:Can} (h:CanOk c):RcOk c.rc:=by
 obtain ⟨h1,h2,h3,h4,h5,h6⟩:=h
 obtain ⟨⟨e1,e2⟩,e3,e4⟩:=Zet c
 refine ⟨?_,?_,?_,?_,?_,?_⟩<;>omega
theorem Zdt {h:Hal} {s:Stg} (g:Sit h s) {i:Int} (hi:SK h i):(0<=(Zb h s i).1/\(Zb h s i).1<=4)/\(-10000<=(Zb h s i).2/\(Zb h s i).2<=10000):=by
 have ht:=g.fine.ht
 cases hi with
 | wall k hk =>
  have hk2:k<h.cs.length:=by have:=g.fine.le; omega
  obtain ⟨n,sx,sy,hs⟩:=g.fine.st k hk2
  rw [Ug hk,Zk9 hs]
  have:=hs.b1
  have:=hs.b2
  repeat' split
  all_goals (dsimp only; omega)
 | floor=>rw [Ur]; dsimp only; omega
 | ceil=>rw [Zap]; dsimp only; omega
 | can j hj =>
  rw [Zbm]
  have:=Zqv g hj
  dsimp only; omega
theorem Zzp {h:Hal} {s:Stg} (g:Sit h s) {i:Int} (hi:SK h i) {p:Pt} (hp:PtOk p.x p.y p.d) (hpl:valN (Zb h s i).1 p.x p.y p.z=(Zb h s i).2*p.d):Za1 h i p=Za0 h i p:=by
 cases hi with
 | wall k hk =>
  have hk2:k<h.cs.length:=by have:=g.fine.le; omega
  obtain ⟨n,sx,sy,hs⟩:=g.fine.st k hk2
  rw [Ug hk] at hpl
  rw [Zgb hk,Zjz hk,Zbg]
  exact Zs1 hs hp g.fine.ht hpl
 | floor =>
  rw [Zen,Zhz]
  exact Vv g.fine.st p.z hp
 | ceil =>
  rw [Zgc,Zj0]
  exact Vv g.fine.st p.z hp
 | can j hj =>
  rw [Zh0 hj,Zl2 hj]
  have hr:=Zov (Ze7 g.fine hj).1
  have hd:0<p.d/\p.d<=1000000000000000:=by have:=hp.hd; have:=hp.hD; omega
  have c0:=(Ze7 g.fine hj).1
  generalize h.ks[j]=c at *
  obtain ⟨⟨e1,e2⟩,e3,e4⟩:=Zet c
  have c1:=Zj c0.b1 hd.1
  have c2:=Zj c0.b2 hd.1
  have c3:=Zj c0.b3 hd.1
  have c4:=Zj c0.b4 hd.1
  rw [Rx,Zdq hr hd,e1,e2,e3,e4]
  unfold Zsz Zey
  rw [Uy,Uy,Uz,Uz,Zbe hd.1,Zbf hd.1,Zbe hd.1,Zbf hd.1]
  rw [W_eq (n:=c.fx*p.d) (by omega) (by omega),W_eq (n:=c.tx*p.d) (by omega) (by omega),W_eq (n:=c.fy*p.d) (by omega) (by omega),W_eq (n:=c.ty*p.d) (by omega) (by omega)]
  rw [W_eq (n:=min (c.fx*p.d) (c.tx*p.d)) (by omega) (by omega),W_eq (n:=max (c.fx*p.d) (c.tx*p.d)) (by omega) (by omega),W_eq (n:=min (c.fy*p.d) (c.ty*p.d)) (by omega) (by omega),W_eq (n:=max (c.fy*p.d) (c.ty*p.d)) (by omega) (by omega)]
  simp only [Qc,Bool.not_eq_true',decide_eq_false_iff_not,within_iff]
  omega
theorem Zvi {p:Pt} (hb:Big p) {X Y Z D:Int} (hX:X=p.x) (hY:Y=p.y) (hZ:Z=p.z) (hD:D=p.d) :
  gcds [I X,I Y]=some ⟨I (Qa Qb ((Sw p.x.natAbs p.y.natAbs:Nat):Int)),[]⟩/\gcds [I Z,I D]=some ⟨I (Qa Qb ((Sw p.z.natAbs p.d.natAbs:Nat):Int)),[]⟩/\gcds [I (Qa Qb ((Sw p.x.natAbs p.y.natAbs:Nat):Int)),I (Qa Qb ((Sw p.z.natAbs p.d.natAbs:Nat):Int))]=some ⟨I (g4 p:Int),[]⟩ /\
  Qa Qb (X.tdiv (g4 p))=(redP p).x/\Qa Qb (Y.tdiv (g4 p))=(redP p).y/\Qa Qb (Z.tdiv (g4 p))=(redP p).z/\Qa Qb (D.tdiv (g4 p))=(redP p).d/\(0<(g4 p:Int)/\(g4 p:Int)<=12000000000):=by
 subst hX hY hZ hD
 have hw:=hb.wf
 have h3':=Zlm (Zsc ((Sw p.x.natAbs p.y.natAbs:Nat):Int)) (Zsc ((Sw p.z.natAbs p.d.natAbs:Nat):Int))
 rw [Zqg (Zy9 hw.x hw.y),Zqg (Zy9 hw.z hw.d)] at h3'
 change gcds _=some ⟨I (Qa Qb ((g4 p:Nat):Int)),[]⟩ at h3'
 obtain ⟨g1,⟨r1,r2,r3,r4⟩,_,_⟩:=Zb6 hb
 rw [W_eq (n:=((g4 p:Nat):Int)) (by omega) (by omega)] at h3'
 exact ⟨Zlm hw.x hw.y,Zlm hw.z hw.d,h3',r1,r2,r3,r4,g1⟩
theorem Yc3 {p:Pt} (h:Big p):g4 (redP p)=1:=by
 obtain ⟨⟨g1,_⟩,_,_,e1,e2,e3,e4⟩:=Zb6 h
 have key:g4 p=g4 (redP p)*g4 p:=by
  have hx:p.x.natAbs=(redP p).x.natAbs*g4 p:=by rw [<-e1,Oi,Nx]
  have hy:p.y.natAbs=(redP p).y.natAbs*g4 p:=by rw [<-e2,Oi,Nx]
  have hz:p.z.natAbs=(redP p).z.natAbs*g4 p:=by rw [<-e3,Oi,Nx]
  have hd:p.d.natAbs=(redP p).d.natAbs*g4 p:=by rw [<-e4,Oi,Nx]
  have:g4 p=Sw (Sw ((redP p).x.natAbs*g4 p) ((redP p).y.natAbs*g4 p)) (Sw ((redP p).z.natAbs*g4 p) ((redP p).d.natAbs*g4 p)):=by rw [<-hx,<-hy,<-hz,<-hd]; rfl
  rw [Kr,Kr,Kr] at this
  exact this
 have h0:0<g4 p:=by omega
 have:g4 (redP p)*g4 p=1*g4 p:=by omega
 exact Nat.eq_of_mul_eq_mul_right h0 this
abbrev pl3 (p:Pl3):List AV:=[I p.1,I p.2.1,I p.2.2]
def im1 (h:Hal) (s:Stg) (n:Int) (p:Pl3):Pl3:=rmir (Zb h s n).1 (Zb h s n).2 p.1 p.2.1 p.2.2
def imA (f:Int->Pl3->Pl3) (p:Pl3) (l:List Int) (k:Nat):Pl3:=(l.take k).foldl (fun q n=>f n q) p
theorem Zlh (f:Int->Pl3->Pl3) (p:Pl3) {l:List Int} {k:Nat} (hk:k<l.length):imA f p l (k+1)=f l[k] (imA f p l k):=by
 unfold imA
 rw [List.take_succ_eq_append_getElem hk,List.foldl_append]
 rfl
def imC (f:Int->Pl3->Pl3) (p:Pl3) (l:List Int) (k:Nat):List (List AV):=(List.range (k+1)).map fun j=>pl3 (imA f p l j)
theorem Zdg (f:Int->Pl3->Pl3) (p:Pl3) (l:List Int) (k:Nat):(imC f p l k).length=k+1:=by simp [imC]
theorem Zhp (f:Int->Pl3->Pl3) (p:Pl3) (l:List Int) (k:Nat):(imC f p l k)[k]?=some (pl3 (imA f p l k)):=by simp [imC]
theorem Zqu (f:Int->Pl3->Pl3) (p:Pl3) (l:List Int) (k:Nat):imC f p l (k+1)=imC f p l k++[pl3 (imA f p l (k+1))]:=by
 unfold imC
 rw [List.range_succ,List.map_append]
 rfl
theorem Zw8 {h:Hal} {s:Stg} (g:Sit h s) {i:Int} (hi:SK h i):(Zb h s i).1<=2->(-5000<=(Zb h s i).2/\(Zb h s i).2<=5000):=by
 have ht:=g.fine.ht
 cases hi with
 | wall k hk =>
  have hk2:k<h.cs.length:=by have:=g.fine.le; omega
  obtain ⟨n,sx,sy,hs⟩:=g.fine.st k hk2
  rw [Ug hk,Zk9 hs]
  have:=hs.b1
  have:=hs.b2
  repeat' split
  all_goals (dsimp only; omega)
 | floor=>rw [Ur]; dsimp only; omega
 | ceil=>rw [Zap]; dsimp only; omega
 | can j hj =>
  rw [Zbm]
  have:=Zqv g hj
  dsimp only; omega
def Near (m:Int) (p:Pl3):Prop:=(-m<=p.1/\p.1<=m)/\(-m<=p.2.1/\p.2.1<=m)/\(-m<=p.2.2/\p.2.2<=m)
theorem Zdy {h:Hal} {s:Stg} (g:Sit h s) {i:Int} (hi:SK h i) {m:Int} (hm:m<=35000) {p:Pl3} (hp:Near m p):Near (m+10000) (im1 h s i p)/\Vm (Zb h s i).1 (Zb h s i).2 p.1 p.2.1 p.2.2=0/\mirP (Zb h s i).1 (Zb h s i).2 p.1 p.2.1 p.2.2=im1 h s i p:=by
 have b:=Zdt g hi
 have b2:=Zw8 g hi
 obtain ⟨x,y,z⟩:=p
 obtain ⟨hx,hy,hz⟩:=hp
 dsimp only at hx hy hz
 unfold im1
 generalize (Zb h s i).1=k at *
 generalize (Zb h s i).2=a at *
 have key:Near (m+10000) (rmir k a x y z):=by
  unfold rmir Near
  have w2:Qa Qb (2*a)=2*a:=W_eq (by omega) (by omega)
  by_cases k0:k=0
  ·subst k0; have:=b2 (by omega); simp only [if_pos]; rw [w2,W_eq (by omega) (by omega)]; omega
  by_cases k1:k=1
  ·subst k1; have:=b2 (by omega); simp; rw [w2,W_eq (by omega) (by omega)]; omega
  by_cases k2:k=2
  ·subst k2; have:=b2 (by omega); simp; rw [w2,W_eq (by omega) (by omega)]; omega
  by_cases k3:k=3
  ·subst k3; simp; rw [W_eq (by omega) (by omega),W_eq (by omega) (by omega)]; omega
  have k4:k=4:=by omega
  subst k4; simp; rw [W_eq (by omega) (by omega),W_eq (by omega) (by omega)]; omega
 have e:=Zrx b.1 b.2 (x:=x) (y:=y) (z:=z) (by omega) (by omega) (by omega) (u:=(rmir k a x y z).1) (v:=(rmir k a x y z).2.1) (w:=(rmir k a x y z).2.2) rfl
  (by have:=key.1; omega) (by have:=key.2.1; omega) (by have:=key.2.2; omega)
 refine ⟨key,by rw [Zmv]; exact e,?_⟩
 rw [Yah]
 unfold Zz3
 rw [if_pos e]
theorem Zli {h:Hal} {s:Stg} (g:Sit h s) {p:Pl3} (hp:Near 5000 p) {l:List Int} (hl:l.length<=4) (hi:∀ n∈l,SK h n):∀ k,k<=l.length->Near (5000+10000*k) (imA (im1 h s) p l k)
 | 0,_=>by simpa [imA] using hp
 | k+1,hk=>by
  rw [Zlh _ _ (by omega)]
  have:=(Zdy g (hi l[k] (Qt _)) (m:=5000+10000*k) (by omega) (Zli g hp hl hi k (by omega))).1
  rw [show (5000:Int)+10000*((k+1:Nat):Int)=5000+10000*k+10000 by omega]
  exact this
theorem Ycb {pt:PC} (h:PCOK Tryz.prog pt):PCOK Tryz.prog (ins 189 r32 pt):=Zi (fun a res h=>by unfold r32 at h; split at h<;>cases h; exact c32 _ _ _ _ _) h
noncomputable abbrev plT (h:Hal) (s:Stg):List AV->Option PRes:=famA (fun i:Int=>0<=i/\i<nsur h) (fun i=>[h.av,s.av,I i]) (fun i=>⟨.tup [P2 (Zb h s i).1 (Zb h s i).2,I 0],[]⟩)
theorem Zyr {h:Hal} (hk:h.ok) {s:Stg} (hs:s.few) (h0:serr h s=0) {pt:PC} (hp:PCOK Tryz.prog pt):PCOK Tryz.prog (ins 26 (plT h s) pt) :=
 Zu (fun i hi=>by
  have e:surE h s i=0:=by
   unfold surE
   rw [if_pos h0,if_pos (within_iff.2 (by omega))]
  have e2:Zg6 h s i=Zb h s i:=by unfold Zg6; rw [if_pos e]
  have:=c54 hk hs i
  rw [e,e2] at this
  exact this) hp
theorem Ztm {h:Hal} {s:Stg} {i:Int} (hi:0<=i/\i<nsur h):plT h s [h.av,s.av,I i]=some ⟨.tup [P2 (Zb h s i).1 (Zb h s i).2,I 0],[]⟩ :=
 Zq (p:=fun i:Int=>0<=i/\i<nsur h) (g:=fun i=>[h.av,s.av,I i]) (r:=fun i=>⟨.tup [P2 (Zb h s i).1 (Zb h s i).2,I 0],[]⟩) (fun j hj=>by
  simp only [Qv,Sj,true_and,and_true] at hj
  rw [hj]) hi
theorem d82 {h:Hal} (hk:h.ok) {s:Stg} (hs:s.few) (h0:serr h s=0) {p:Pl3} (hp:Near 5000 p) {l:List Int} (hl:l.length<=4) (hi:∀ n∈l,0<=n/\n<nsur h) :
  PCall Tryz.prog 112 [.agg (stgL h s),P3 p.1 p.2.1 p.2.2,.isl 1 (nl l)] ⟨.asl 0 0 (l.length+1),[(3,imC (im1 h s) p l l.length)]⟩:=by
 have g:=Zfd hk hs h0
 have hkk:=Zyr hk hs h0 (Ycb Zh)
 have ll:=Zr l
 refine bs.pv (sx:=nos) hkk Tryz.func112 (by kernel_rfl) (by kernel_rfl) rfl ?_
 refine Zw (S:=Nat × Int × Nat × List (List AV)) (fun t=>l.length-t.1) (fun t=>[(3,.ptr 0 0 0),(7,.asl (nm2 2 3 t.1) 0 t.2.2.1),(16,.isl 1 (nl l)),(17,I (nl l).length),(18,I t.2.1)]) (fun t=>[(nm2 2 3 t.1,.row 3 t.2.2.2 true true),(0,.row 11 [stgL h s] true false)]) 3 4
  (fun t=>t.2.1=t.1/\t.1<=l.length/\t.2.2.1=t.2.2.2.length/\t.2.2.2=imC (im1 h s) p l t.1) (0,0,1,[pl3 p]) ⟨rfl,Qo _,rfl,rfl⟩ (Qf _) [] rfl (kps) (kps) ?_
 rintro ⟨k,i,len,els⟩ ⟨hi',hk',hlen,hels⟩
 dsimp only at hi' hk' hlen hels ⊢
 subst hi'
 refine bs.av (sx:=nos) hkk ?_
 have e1:els.length=k+1:=by rw [hels,Zdg]
 have e2:els[0+(Qa Qb ((len:Int)-1)).toNat]?=some (pl3 (imA (im1 h s) p l k)):=by
  rw [Rw,hlen,e1,W_eq (by omega) (by omega),show (((k+1:Nat):Int)-1).toNat=k by omega,hels,Zhp]
 have e8:Qa Qb ((len:Int)-1)=k:=by rw [hlen,e1,W_eq (by omega) (by omega)]; omega
 have hnr:=Zli g hp hl (fun n hn=>Zgj (hi n hn).1 (hi n hn).2) k hk'
 by_cases hlt:k<l.length
 ·have e3:(nl l)[((k:Nat):Int).toNat]?=some [I l[k]]:=by simp [nl,hlt]
  have hin:=hi l[k] (Qt _)
  have e4:=Ztm (s:=s) hin
  have e5:=Zdy g (Zgj hin.1 hin.2) (by omega) hnr
  have e6:=Zlh (im1 h s) p hlt
  have e7:=Zqu (im1 h s) p l k
  rw [<-hels,e6] at e7
  rw [<-e5.2.2] at e7
  clear e6 hels
  generalize imA (im1 h s) p l k=q at *
  generalize l[k]=n at *
  cases k with
  | zero =>
   repeat'(first|refine wk3 ?_|(refine wk2 ?_ ?_<;>intro _)|refine wk4 ?_|fail);all_goals(conv=>whnf)
   exact Qn ⟨(1,_,_,_),[(3,20)],rfl,kps,kps,⟨Zf (k:=0) (by omega),hlt,by exact List.length_append.symm,e7.symm⟩,by dsimp only; omega⟩
  | succ k =>
   repeat'(first|refine wk3 ?_|(refine wk2 ?_ ?_<;>intro _)|refine wk4 ?_|fail);all_goals(conv=>whnf)
   exact Qn ⟨(k+1+1,_,_,_),[(3,20)],rfl,kps,kps,⟨Zf (k:=k+1) (by omega),hlt,by exact List.length_append.symm,e7.symm⟩,by dsimp only; omega⟩
 ·have ek:k=l.length:=by omega
  subst ek
  rw [hels]
  rw [hels,Zdg] at hlen
  subst hlen
  cases l with
  | nil =>
   repeat'(first|refine wk3 ?_|(refine wk2 ?_ ?_<;>intro _)|refine wk4 ?_|fail);all_goals(conv=>whnf)
   exact Yp [2] rfl rfl rfl
  | cons a l =>
   repeat'(first|refine wk3 ?_|(refine wk2 ?_ ?_<;>intro _)|refine wk4 ?_|fail);all_goals(conv=>whnf)
   exact Yp [3] rfl rfl rfl
theorem Yb5 {pt:PC} (h:PCOK Tryz.prog pt):PCOK Tryz.prog (ins 129 r96 pt):=Zi (fun a res h=>by unfold r96 at h; split at h<;>cases h; exact c96 _ _ _ _ _) h
noncomputable abbrev plR (h:Hal) (s:Stg):List AV->Option PRes:=famA (fun i:Int=>SK h i) (fun i=>[h.av,s.av,I i]) (fun i=>⟨P2 (Zb h s i).1 (Zb h s i).2,[]⟩)
theorem Zys {h:Hal} {s:Stg} (g:Sit h s) {pt:PC} (hp:PCOK Tryz.prog pt):PCOK Tryz.prog (ins 35 (plR h s) pt):=Zu (fun i hi=>c59 g hi) hp
theorem Ztn {h:Hal} {s:Stg} {i:Int} (hi:SK h i):plR h s [h.av,s.av,I i]=some ⟨P2 (Zb h s i).1 (Zb h s i).2,[]⟩ :=
 Zq (p:=fun i:Int=>SK h i) (g:=fun i=>[h.av,s.av,I i]) (r:=fun i=>⟨P2 (Zb h s i).1 (Zb h s i).2,[]⟩) (fun j hj=>by
  simp only [Qv,Sj,true_and,and_true] at hj
  rw [hj]) hi
theorem d28 {h:Hal} {s:Stg} (g:Sit h s) {p:Pl3} {l:List Int} (hl:l.length<=4) (hi:∀ n∈l,SK h n) :
  PCall Tryz.prog 72 [h.av,s.av,P3 p.1 p.2.1 p.2.2,.isl 1 (nl l)] ⟨.asl 0 0 (l.length+1),[(3,imC (im1 h s) p l l.length)]⟩:=by
 have hkk:=Zys g (Yb5 Zh)
 have ll:=Zr l
 refine bs.pv (sx:=nos) hkk Tryz.func72 (by kernel_rfl) (by kernel_rfl) rfl ?_
 refine Zw (S:=Nat × Int × Nat × List (List AV)) (fun t=>l.length-t.1) (fun t=>[(3,.isl 1 (nl l)),(4,.ptr 0 0 0),(5,.ptr 1 0 0),(9,.asl (nm2 3 4 t.1) 0 t.2.2.1),(10,I t.2.1)]) (fun t=>[(nm2 3 4 t.1,.row 3 t.2.2.2 true true),(1,.row 2 [[.isl 1 (nl s.hs),.isl 1 (nl s.dr)]] true false),(0,.row 9 [h.cells] true false)]) 4 5
  (fun t=>t.2.1=t.1/\t.1<=l.length/\t.2.2.1=t.2.2.2.length/\t.2.2.2=imC (im1 h s) p l t.1) (0,0,1,[pl3 p]) ⟨rfl,Qo _,rfl,rfl⟩ (Qf _) [] rfl (kps) (kps) ?_
 rintro ⟨k,i,len,els⟩ ⟨hi',hk',hlen,hels⟩
 dsimp only at hi' hk' hlen hels ⊢
 subst hi'
 refine bs.av (sx:=nos) hkk ?_
 have e1:els.length=k+1:=by rw [hels,Zdg]
 have e2:els[0+((k:Nat):Int).toNat]?=some (pl3 (imA (im1 h s) p l k)):=by
  rw [Rw,show ((k:Nat):Int).toNat=k by omega,hels,Zhp]
 by_cases hlt:k<l.length
 ·have e3:(nl l)[((k:Nat):Int).toNat]?=some [I l[k]]:=by simp [nl,hlt]
  have e4:=Ztn (s:=s) (hi l[k] (Qt _))
  have e6:=Zlh (im1 h s) p hlt
  have e7:=Zqu (im1 h s) p l k
  rw [<-hels,e6] at e7
  clear e6 hels
  generalize imA (im1 h s) p l k=q at *
  generalize l[k]=n at *
  cases k with
  | zero =>
   repeat'(first|refine wk3 ?_|(refine wk2 ?_ ?_<;>intro _)|refine wk4 ?_|fail);all_goals(conv=>whnf)
   refine Zpv (ys:=[pl3 (rmir (Zb h s n).1 (Zb h s n).2 q.1 q.2.1 q.2.2)]) rfl rfl rfl rfl rfl rfl rfl rfl rfl rfl (by simp) hlen (by simp only [Tf,Pa]; omega) ?_
   conv=>whnf
   repeat'(first|refine wk3 ?_|(refine wk2 ?_ ?_<;>intro _)|refine wk4 ?_|fail);all_goals(conv=>whnf)
   exact Qn ⟨(1,_,_,_),[(4,19)],rfl,kps,kps,⟨Zf (k:=0) (by omega),hlt,by exact List.length_append.symm,e7.symm⟩,by dsimp only; omega⟩
  | succ k =>
   repeat'(first|refine wk3 ?_|(refine wk2 ?_ ?_<;>intro _)|refine wk4 ?_|fail);all_goals(conv=>whnf)
   refine Zpv (ys:=[pl3 (rmir (Zb h s n).1 (Zb h s n).2 q.1 q.2.1 q.2.2)]) rfl rfl rfl rfl rfl rfl rfl rfl rfl rfl (by simp) hlen (by simp only [Tf,Pa]; omega) ?_
   conv=>whnf
   repeat'(first|refine wk3 ?_|(refine wk2 ?_ ?_<;>intro _)|refine wk4 ?_|fail);all_goals(conv=>whnf)
   exact Qn ⟨(k+1+1,_,_,_),[(4,19)],rfl,kps,kps,⟨Zf (k:=k+1) (by omega),hlt,by exact List.length_append.symm,e7.symm⟩,by dsimp only; omega⟩
 ·have ek:k=l.length:=by omega
  subst ek
  rw [hels]
  rw [hels,Zdg] at hlen
  subst hlen
  cases l with
  | nil =>
   repeat'(first|refine wk3 ?_|(refine wk2 ?_ ?_<;>intro _)|refine wk4 ?_|fail);all_goals(conv=>whnf)
   exact Yp [3] rfl rfl rfl
  | cons a l =>
   repeat'(first|refine wk3 ?_|(refine wk2 ?_ ?_<;>intro _)|refine wk4 ?_|fail);all_goals(conv=>whnf)
   exact Yp [4] rfl rfl rfl
structure Ask where
 fx:Int
 fy:Int
 fz:Int
 tx:Int
 ty:Int
 tz:Int
 n:Int
abbrev Ask.av (a:Ask):AV:=.agg [I a.fx,I a.fy,I a.fz,I a.tx,I a.ty,I a.tz,I a.n]
def Ask.same (a:Ask):Bool:=decide (a.fx=a.tx)&&(decide (a.fy=a.ty)&&decide (a.fz=a.tz))
def askE (h:Hal) (s:Stg) (a:Ask):Int:=if serr h s=0 then fstL [plaE h a.fx a.fy a.fz,plaE h a.tx a.ty a.tz,unl (!a.same) 11,unl (within a.n 0 4) 2] else serr h s
theorem Zfe {h:Hal} {s:Stg} (e:serr h s=0):h.err=0:=by
 unfold serr at e
 split at e
 ·assumption
 ·rename_i q; exact absurd e q
def r80:List AV->Option PRes
 | [.bool b,.int .i64 e]=>some ⟨I (unl b e),[]⟩
 | _=>none
theorem Yb7 {pt:PC} (h:PCOK Tryz.prog pt):PCOK Tryz.prog (ins 57 r80 pt):=Zi (fun a res h=>by unfold r80 at h; split at h<;>cases h; exact d209 _ _) h
noncomputable abbrev r79 (h:Hal):List AV->Option PRes:=famA (fun _:Pl3=>True) (fun p=>[h.av,P3 p.1 p.2.1 p.2.2]) (fun p=>⟨I (plaE h p.1 p.2.1 p.2.2),[]⟩)
theorem Yb8 {h:Hal} (hk:h.ok) (he:h.err=0) {pt:PC} (hp:PCOK Tryz.prog pt):PCOK Tryz.prog (ins 56 (r79 h) pt):=Zu (fun p _=>d79 hk he p.1 p.2.1 p.2.2) hp
theorem Zk8 (h:Hal) (x y z:Int):r79 h [h.av,P3 x y z]=some ⟨I (plaE h x y z),[]⟩ :=
 Zq (p:=fun _:Pl3=>True) (g:=fun p=>[h.av,P3 p.1 p.2.1 p.2.2]) (r:=fun p=>⟨I (plaE h p.1 p.2.1 p.2.2),[]⟩) (k:=(x,y,z)) (fun j hj=>by
  simp only [Qv,AV.agg.injEq,Sj,true_and,and_true] at hj
  obtain ⟨h1,h2,h3⟩:=hj
  rw [h1,h2,h3]) trivial
theorem Ycc {h:Hal} (hk:h.ok) (he:h.err=0) {pt:PC} (hp:PCOK Tryz.prog pt):PCOK Tryz.prog (ins 32 (r79 h) pt):=Zu (fun p _=>d27 hk he p.1 p.2.1 p.2.2) hp
noncomputable abbrev rFst:List AV->Option PRes:=famA (fun l:List Int=>l.length<1000) (fun l=>[.isl 1 (nl l)]) (fun l=>⟨I (fstL l),[]⟩)
theorem Zz7 {pt:PC} (hp:PCOK Tryz.prog pt):PCOK Tryz.prog (ins 55 rFst pt):=Zu (fun l hl=>d78 hl) hp
theorem Zw5 {l:List Int} (h:l.length<1000):rFst [.isl 1 (nl l)]=some ⟨I (fstL l),[]⟩ :=
 Zq (p:=fun l:List Int=>l.length<1000) (g:=fun l=>[.isl 1 (nl l)]) (r:=fun l=>⟨I (fstL l),[]⟩) (fun j hj=>by
  simp only [Qv,AV.isl.injEq,true_and,and_true] at hj
  rw [Ztz hj]) h
theorem d24 {h:Hal} (hk:h.ok) {s:Stg} (hs:s.few) (a:Ask):PCall Tryz.prog 24 [h.av,s.av,a.av] ⟨I (askE h s a),[]⟩:=by
 have hk0:=Zd (c47 hk hs) Zh
 by_cases e:serr h s=0
 ·have he:=Zfe e
  obtain ⟨fx,fy,fz,tx,ty,tz,n⟩:=a
  unfold askE
  rw [if_pos e]
  rw [e] at hk0
  dsimp only
  have hk1:=Yb8 hk he (Yb7 (Zd (d81 n) (Zz7 hk0)))
  have q1:=Zk8 h fx fy fz
  have q2:=Zk8 h tx ty tz
  refine bs.pv (sx:=nos) hk1 Tryz.func24 (by kernel_rfl) (by kernel_rfl) rfl ?_
  repeat'(first|refine wk3 ?_|(refine wk2 ?_ ?_<;>intro _)|refine wk4 ?_|fail);all_goals(conv=>whnf)
  refine wxG (Zw5 (l:=[_,_,_,_]) (by simp)) ?_
  conv=>whnf
  repeat'(first|refine wk3 ?_|(refine wk2 ?_ ?_<;>intro _)|refine wk4 ?_|fail);all_goals(conv=>whnf)
  exact Za (by simp [Ask.same])
 ·rw [show askE h s a=serr h s by unfold askE; rw [if_neg e]]
  refine bs.pv (sx:=nos) hk0 Tryz.func24 (by kernel_rfl) (by kernel_rfl) rfl ?_
  repeat'(first|refine wk3 ?_|(refine wk2 ?_ ?_<;>intro _)|refine wk4 ?_|fail);all_goals(conv=>whnf)
  all_goals first
   | exact Za rfl
   | (exfalso; simp_all; done)
theorem d82f {h:Hal} (hk:h.ok) {s:Stg} (hs:s.few) (h0:serr h s=0) {p:Pl3} (hp:Near 5000 p) {l:List Int} (hl:l.length<=4) (hi:∀ n∈l,0<=n/\n<nsur h) :
  PCall Tryz.prog 112 [.agg (stgL h s),P3 p.1 p.2.1 p.2.2,.isl 1 (nl l)] ⟨.isl 3 (imC (im1 h s) p l l.length),[]⟩:=by
 have:=d82 hk hs h0 hp hl hi
 rw [show l.length+1=(imC (im1 h s) p l l.length).length by rw [Zdg]] at this
 exact this.freeze ⟨rfl,rfl,rfl⟩
theorem d28f {h:Hal} {s:Stg} (g:Sit h s) {p:Pl3} {l:List Int} (hl:l.length<=4) (hi:∀ n∈l,SK h n) :
  PCall Tryz.prog 72 [h.av,s.av,P3 p.1 p.2.1 p.2.2,.isl 1 (nl l)] ⟨.isl 3 (imC (im1 h s) p l l.length),[]⟩:=by
 have:=d28 g (p:=p) hl hi
 rw [show l.length+1=(imC (im1 h s) p l l.length).length by rw [Zdg]] at this
 exact this.freeze ⟨rfl,rfl,rfl⟩
theorem Zhn {h:Hal} {l:List Int} (e:suE h l=0):l.length<=4/\∀ n∈l,0<=n/\n<nsur h:=by
 unfold suE at e
 split at e
 ·cases e
 ·exact ⟨by omega,fun n hn=>by have:=Zym e n hn; omega⟩
theorem Zfh {h:Hal} {x y z:Int} (e:plaE h x y z=0):Near 5000 (x,y,z)/\Zad h ⟨x,y,z,1⟩=true:=by
 unfold plaE at e
 split at e
 ·rename_i c
  simp only [plcB,Qc,within_iff] at c
  refine ⟨⟨by dsimp only; omega,by dsimp only; omega,by dsimp only; omega⟩,?_⟩
  unfold unl at e
  cases hb:Zad h ⟨x,y,z,1⟩ with
  | true=>rfl
  | false=>rw [hb] at e; cases e
 ·cases e
theorem d18 {h:Hal} (hk:h.ok) {s:Stg} (hs:s.few) (a:Ask):PCall Tryz.prog 9 [h.av,s.av,a.av] ⟨I (askE h s a),[]⟩:=by
 have hk0:=Zd (d90 hk) (Zd (c75 hk.f hs) Zh)
 by_cases e:serr h s=0
 ·have he:=Zfe e
  have e2:setE h s=0:=by unfold serr at e; rw [if_pos he] at e; exact e
  obtain ⟨fx,fy,fz,tx,ty,tz,n⟩:=a
  unfold askE
  rw [if_pos e]
  rw [he,e2] at hk0
  dsimp only
  have hk1:=Ycc hk he (Zd (d68 n) hk0)
  have q1:=Zk8 h fx fy fz
  have q2:=Zk8 h tx ty tz
  simp only [fstL]
  refine bs.pv (sx:=nos) hk1 Tryz.func9 (by kernel_rfl) (by kernel_rfl) rfl ?_
  clear hk1 hk0
  repeat'(first|refine wk3 ?_|(refine wk2 ?_ ?_<;>intro _)|refine wk4 ?_|fail);all_goals(conv=>whnf)
  all_goals first
   | (refine Za ?_; simp_all [Ask.same,unl]; done)
   | (refine Za ?_; clear q1 q2; cases hw:within n 0 4<;>by_cases c1:fx=tx<;>by_cases c2:fy=ty<;>by_cases c3:fz=tz<;>simp_all [Ask.same,unl]<;>done)
   | (exfalso; simp_all; done)
 ·rw [show askE h s a=serr h s by unfold askE; rw [if_neg e]]
  unfold serr at e ⊢
  refine bs.pv (sx:=nos) hk0 Tryz.func9 (by kernel_rfl) (by kernel_rfl) rfl ?_
  clear hk0
  repeat'(first|refine wk3 ?_|(refine wk2 ?_ ?_<;>intro _)|refine wk4 ?_|fail);all_goals(conv=>whnf)
  all_goals first
   | (refine Za ?_; simp_all; done)
   | (exfalso; simp_all; done)
abbrev U64 (n:Int):AV:=.int .u64 n
theorem e64:PCall Tryz.prog 64 [U64 2,U64 2] ⟨.tup [U64 0,U64 4],[]⟩:=Zk7 (xs:=[]) Zh (by kernel_rfl:isR (.tup [U64 0,U64 4]) (pcF (exT [] pt0) 64 [U64 2,U64 2])=true)
theorem e28 (i j:Int):PCall Tryz.prog 28 [.isl 1 [[I i],[I j]],I 2] ⟨.asl 0 0 4,[(1,[[I i],[I j],[I i],[I j]])]⟩:=by
 have hk0:=Zd e64 Zh
 refine bs.pv (sx:=nos) hk0 Tryz.func28 (by kernel_rfl) (by kernel_rfl) rfl ?_
 repeat'(first|refine wk3 ?_|(refine wk2 ?_ ?_<;>intro _)|refine wk4 ?_|fail);all_goals(conv=>whnf)
 refine Tt 3 (Rn (bs.av (sx:=nos) hk0 ?_))
 repeat'(first|refine wk3 ?_|(refine wk2 ?_ ?_<;>intro _)|refine wk4 ?_|fail);all_goals(conv=>whnf)
 refine Rn (bs.av (sx:=nos) hk0 ?_)
 repeat'(first|refine wk3 ?_|(refine wk2 ?_ ?_<;>intro _)|refine wk4 ?_|fail);all_goals(conv=>whnf)
 exact Yp [0] rfl rfl rfl
theorem e28f (i j:Int):PCall Tryz.prog 28 [.isl 1 [[I i],[I j]],I 2] ⟨.isl 1 (nl [i,j,i,j]),[]⟩:=(e28 i j).freeze ⟨rfl,rfl,rfl⟩
structure PtR (p:Pt):Prop where
 d0:0<p.d
 d1:p.d<=100000
 x : -(5000*p.d)<=p.x/\p.x<=5000*p.d
 y : -(5000*p.d)<=p.y/\p.y<=5000*p.d
theorem PtR.ok {p:Pt} (h:PtR p):PtOk p.x p.y p.d:=by
 obtain ⟨h1,h2,h3,h4⟩:=h
 exact ⟨h1,by omega,by omega,by omega⟩
def Pt.pl (p:Pt):P2d:=⟨p.x,p.y,p.d⟩
def cmpQ (n d m k:Int):Int:=sgn (n*k-m*d)
def Zb7 (l:Ln) (a b:Pt):Bool :=
  if l.beside a=0/\l.beside b=0 then
    (if cmpQ (l.along a) a.d (l.along b) b.d=0 then within (l.along a) 0 (Qa Qb (l.full*a.d))
     else if cmpQ (l.along a) a.d (l.along b) b.d<0 then decide (0<l.along b)&&decide (l.along a<Qa Qb (l.full*a.d))
     else decide (0<l.along a)&&decide (l.along b<Qa Qb (l.full*b.d)))
  else if 0<=Qa Qb (sgn (l.beside a)*sgn (l.beside b)) then false
  else if Qa Qb (Qa Qb (l.beside b*a.d)-Qa Qb (l.beside a*b.d))<0 then
    decide (0<=Qa Qb (0-Qa Qb (Qa Qb (l.along a*l.beside b)-Qa Qb (l.along b*l.beside a))))&&decide (cmpQ (Qa Qb (0-Qa Qb (Qa Qb (l.along a*l.beside b)-Qa Qb (l.along b*l.beside a)))) (Qa Qb (0-Qa Qb (Qa Qb (l.beside b*a.d)-Qa Qb (l.beside a*b.d)))) l.full 1<=0)
  else decide (0<=Qa Qb (Qa Qb (l.along a*l.beside b)-Qa Qb (l.along b*l.beside a)))&&decide (cmpQ (Qa Qb (Qa Qb (l.along a*l.beside b)-Qa Qb (l.along b*l.beside a))) (Qa Qb (Qa Qb (l.beside b*a.d)-Qa Qb (l.beside a*b.d))) l.full 1<=0)
theorem Zre {w:Wl} {n sx sy:Int} (h:Str w n sx sy) {p:Pt} (hp:PtR p):(-2000000000<=bsP w sx sy p.pl/\bsP w sx sy p.pl<=2000000000)/\(-2000000000<=alP w sx sy p.pl/\alP w sx sy p.pl<=2000000000):=by
 have a1:=Zj h.b1 hp.d0
 have a2:=Zj h.b2 hp.d0
 have a3:=hp.d1
 have a4:=hp.x
 have a5:=hp.y
 unfold bsP alP bes alo Pt.pl
 dsimp only
 generalize w.fx*p.d=A at *
 generalize w.fy*p.d=C at *
 rcases h.hx with rfl|rfl|rfl<;>rcases h.hy with rfl|rfl|rfl<;>omega
theorem Zuo {w:Wl} {n sx sy:Int} (h:Str w n sx sy):0<ful n sx sy/\ful n sx sy<=20000:=by
 refine ⟨Yaz h,?_⟩
 have:=h.nle
 have:=h.hn
 unfold ful
 rcases h.hx with rfl|rfl|rfl<;>rcases h.hy with rfl|rfl|rfl<;>omega
theorem Zoy {w:Wl} {n sx sy:Int} (h:Str w n sx sy) {p q:Pt} (hp:PtR p) (hq:PtR q):Zb7 w.ln p q=true↔Us w n sx sy p.pl q.pl:=by
 have ep:w.ln.beside p=bsP w sx sy p.pl:=Ve (z:=p.z) h hp.ok
 have eq:w.ln.beside q=bsP w sx sy q.pl:=Ve (z:=q.z) h hq.ok
 have ap:w.ln.along p=alP w sx sy p.pl:=Zd5 (z:=p.z) h hp.ok
 have aq:w.ln.along q=alP w sx sy q.pl:=Zd5 (z:=q.z) h hq.ok
 have ef:w.ln.full=ful n sx sy:=Zln h
 obtain ⟨b1,b2⟩:=Zre h hp
 obtain ⟨b3,b4⟩:=Zre h hq
 obtain ⟨f1,f2⟩:=Zuo h
 have dp:=hp.d0
 have dp1:=hp.d1
 have dq:=hq.d0
 have dq1:=hq.d1
 have F1:=Zl (a:=ful n sx sy) (b:=p.d) (A:=20000) (B:=100000) (by omega) (by omega)
 have F2:=Zl (a:=ful n sx sy) (b:=q.d) (A:=20000) (B:=100000) (by omega) (by omega)
 have P1:=Re f1 dp
 have P2:=Re f1 dq
 unfold Zb7
 rw [ep,eq,ap,aq,ef]
 by_cases h0:bsP w sx sy p.pl=0/\bsP w sx sy q.pl=0
 ·rw [if_pos h0,Zkh h h0.1 h0.2]
  rw [W_eq (n:=ful n sx sy*p.d) (by omega) (by omega),W_eq (n:=ful n sx sy*q.d) (by omega) (by omega)]
  unfold cmpQ
  show _↔spans _ _ (ful n sx sy*p.d-_) (ful n sx sy*q.d-_)
  have key:alP w sx sy p.pl*(ful n sx sy*q.d-alP w sx sy q.pl)-alP w sx sy q.pl*(ful n sx sy*p.d-alP w sx sy p.pl)=ful n sx sy*(alP w sx sy p.pl*q.d-alP w sx sy q.pl*p.d):=by grind
  generalize alP w sx sy p.pl=a at *
  generalize alP w sx sy q.pl=b at *
  by_cases c1:sgn (a*q.d-b*p.d)=0
  ·rw [if_pos c1,within_iff]
   rw [Vj] at c1
   rw [c1] at key
   rw [Zww (by omega) (by omega) (by omega)]
   omega
  ·rw [if_neg c1]
   by_cases c2:sgn (a*q.d-b*p.d)<0
   ·rw [if_pos c2,Qc,decide_eq_true_eq,decide_eq_true_eq]
    rw [Xb,<-Zb8 f1] at c2
    rw [Zp4 (by omega) (by omega) (by omega)]
    omega
   ·rw [if_neg c2,Qc,decide_eq_true_eq,decide_eq_true_eq]
    have c3:0<a*q.d-b*p.d:=by
     rw [<-Xa]; omega
    rw [<-Za2 f1] at c3
    rw [Zk2 (by omega) (by omega) (by omega)]
    omega
 ·rw [if_neg h0,Zdm]
  by_cases h1:0<=sgn (bsP w sx sy p.pl)*sgn (bsP w sx sy q.pl)
  ·rw [if_pos h1]
   exact ⟨fun h=>by simp at h,fun h=>absurd h (Zkg h0 h1)⟩
  ·rw [if_neg h1]
   have h2:=sgn_mul_neg.1 (show sgn (bsP w sx sy p.pl)*sgn (bsP w sx sy q.pl)<0 by omega)
   generalize hf:bsP w sx sy p.pl=f at *
   generalize hg:bsP w sx sy q.pl=g at *
   have m1:=Zl (a:=alP w sx sy p.pl) (b:=g) (A:=2000000000) (B:=2000000000) (by omega) (by omega)
   have m2:=Zl (a:=alP w sx sy q.pl) (b:=f) (A:=2000000000) (B:=2000000000) (by omega) (by omega)
   have m3:=Zl (a:=g) (b:=p.d) (A:=2000000000) (B:=100000) (by omega) (by omega)
   have m4:=Zl (a:=f) (b:=q.d) (A:=2000000000) (B:=100000) (by omega) (by omega)
   rw [W_eq (n:=alP w sx sy p.pl*g) (by omega) (by omega),W_eq (n:=alP w sx sy q.pl*f) (by omega) (by omega),W_eq (n:=g*p.d) (by omega) (by omega),W_eq (n:=f*q.d) (by omega) (by omega)]
   rw [W_eq (n:=alP w sx sy p.pl*g-alP w sx sy q.pl*f) (by omega) (by omega),W_eq (n:=g*p.d-f*q.d) (by omega) (by omega)]
   rcases h2 with h2|h2
   ·have k1:=(Za2 dp).2 h2.2
    have k2:=(Zb8 dq).2 h2.1
    rw [if_neg (by rw [Ra g,Ra f]; omega),Zb9 hf hg h2,Qc,decide_eq_true_eq,decide_eq_true_eq]
    unfold cmpQ
    rw [Zp8,Sb,Ra (alP w sx sy p.pl),Ra (alP w sx sy q.pl)]
    show _↔_/\_<=ful n sx sy*(g*p.d-f*q.d)
    omega
   ·have k1:=(Zb8 dp).2 h2.2
    have k2:=(Za2 dq).2 h2.1
    rw [if_pos (by rw [Ra g,Ra f]; omega),Zkf,Zb9 hg hf (by omega),Qc,decide_eq_true_eq,decide_eq_true_eq]
    rw [W_eq (n:=0-(alP w sx sy p.pl*g-alP w sx sy q.pl*f)) (by omega) (by omega),W_eq (n:=0-(g*p.d-f*q.d)) (by omega) (by omega)]
    unfold cmpQ
    rw [Zp8,Sb,Ra (alP w sx sy p.pl),Ra (alP w sx sy q.pl),Int.zero_sub (g*p.d-f*q.d),Int.neg_sub]
    show _↔_/\_<=ful n sx sy*(f*q.d-g*p.d)
    omega
def Zon (p q:Pt):Int:=Qa Qb (Qa Qb (q.x*p.d)-Qa Qb (p.x*q.d))
def Zom (p q:Pt):Int:=Qa Qb (Qa Qb (q.y*p.d)-Qa Qb (p.y*q.d))
def cmpP (a b c d:Int):Int:=sgn (a*b-c*d)
def Zgd (p q:Pt) (x y:Int):Int:=cmpP (Zon p q) (Qa Qb (Qa Qb (y*p.d)-p.y)) (Zom p q) (Qa Qb (Qa Qb (x*p.d)-p.x))
def ovl (fr den to oth a b:Int):Bool:=decide (imin (Qa Qb (fr*oth)) (Qa Qb (to*den))<Qa Qb (Qa Qb (imax a b*den)*oth))&&decide (Qa Qb (Qa Qb (imin a b*den)*oth)<imax (Qa Qb (fr*oth)) (Qa Qb (to*den)))
def touP (p q:Pt) (w:Wl):Bool :=
 if Zon p q=0/\Zom p q=0 then w.has p.x p.y p.d
 else if w.side p.x p.y p.d=0/\w.side q.x q.y q.d=0 then (if w.fx=w.tx then ovl p.y p.d q.y q.d w.fy w.ty else ovl p.x p.d q.x q.d w.fx w.tx)
 else if 0<=Qa Qb (w.side p.x p.y p.d*w.side q.x q.y q.d) then false
 else decide (Qa Qb (Zgd p q w.fx w.fy*Zgd p q w.tx w.ty)<=0)
theorem Zyn {p q:Pt} (hp:PtR p) (hq:PtR q):Zon p q=q.x*p.d-p.x*q.d/\Zom p q=q.y*p.d-p.y*q.d:=by
 obtain ⟨a1,a2,a3,a4⟩:=hp
 obtain ⟨b1,b2,b3,b4⟩:=hq
 have m1:=Zl (a:=q.x) (b:=p.d) (A:=500000000) (B:=100000) (by omega) (by omega)
 have m2:=Zl (a:=p.x) (b:=q.d) (A:=500000000) (B:=100000) (by omega) (by omega)
 have m3:=Zl (a:=q.y) (b:=p.d) (A:=500000000) (B:=100000) (by omega) (by omega)
 have m4:=Zl (a:=p.y) (b:=q.d) (A:=500000000) (B:=100000) (by omega) (by omega)
 unfold Zon Zom
 rw [W_eq (n:=q.x*p.d) (by omega) (by omega),W_eq (n:=p.x*q.d) (by omega) (by omega),W_eq (n:=q.y*p.d) (by omega) (by omega),W_eq (n:=p.y*q.d) (by omega) (by omega)]
 exact ⟨W_eq (by omega) (by omega),W_eq (by omega) (by omega)⟩
theorem Zj1 {p q:Pt} (hp:PtR p) (hq:PtR q) {x y:Int} (hx : -5000<=x/\x<=5000) (hy : -5000<=y/\y<=5000):Zgd p q x y=sgn ((q.x*p.d-p.x*q.d)*(y*p.d-p.y)-(q.y*p.d-p.y*q.d)*(x*p.d-p.x)):=by
 obtain ⟨e1,e2⟩:=Zyn hp hq
 obtain ⟨a1,a2,a3,a4⟩:=hp
 have c1:=Zj hx a1
 have c2:=Zj hy a1
 unfold Zgd cmpP
 rw [e1,e2,W_eq (n:=y*p.d) (by omega) (by omega),W_eq (n:=x*p.d) (by omega) (by omega),W_eq (n:=y*p.d-p.y) (by omega) (by omega),W_eq (n:=x*p.d-p.x) (by omega) (by omega)]
theorem Ztq {x d x' d' fx n e s:Int} (he:e=1\/e = -1) (hn:0<n/\n<=10000) (hs:0<s) (hd:0<d/\d<=100000) (hd' : 0<d'/\d'<=100000) (hx : -(5000*d)<=x/\x<=5000*d) (hx' : -(5000*d')<=x'/\x'<=5000*d') (hf : -5000<=fx/\fx<=5000) (ht : -5000<=fx+n*e/\fx+n*e<=5000) (hne:x'*d-x*d'≠0) :
  ovl x d x' d' fx (fx+n*e)=true↔spans (s*(e*(x-fx*d))) (s*(e*(x'-fx*d'))) (n*s*d-s*(e*(x-fx*d))) (n*s*d'-s*(e*(x'-fx*d'))):=by
 have m1:=Zl (a:=x) (b:=d') (A:=500000000) (B:=100000) (by omega) (by omega)
 have m2:=Zl (a:=x') (b:=d) (A:=500000000) (B:=100000) (by omega) (by omega)
 have c1:=Zj hf hd.1
 have c2:=Zj ht hd.1
 have m3:=Zl (a:=fx*d) (b:=d') (A:=500000000) (B:=100000) (by omega) (by omega)
 have m4:=Zl (a:=(fx+n*e)*d) (b:=d') (A:=500000000) (B:=100000) (by omega) (by omega)
 unfold ovl
 rw [Uy,Uy,Uz,Uz,Zbe hd.1,Zbf hd.1]
 rw [W_eq (n:=x*d') (by omega) (by omega),W_eq (n:=x'*d) (by omega) (by omega),W_eq (n:=min (fx*d) ((fx+n*e)*d)) (by omega) (by omega),W_eq (n:=max (fx*d) ((fx+n*e)*d)) (by omega) (by omega)]
 rw [Zbe hd'.1,Zbf hd'.1,W_eq (n:=min (fx*d*d') ((fx+n*e)*d*d')) (by omega) (by omega),W_eq (n:=max (fx*d*d') ((fx+n*e)*d*d')) (by omega) (by omega)]
 rw [Qc,decide_eq_true_eq,decide_eq_true_eq]
 have eT:(fx+n*e)*d*d'=fx*d*d'+e*(n*d*d'):=by grind
 rw [eT]
 have hT:0<n*d*d':=Re (Re hn.1 hd.1) hd'.1
 have hsn:0<s*n:=Re hs hn.1
 have g1:0<s*(e*(x-fx*d))+(n*s*d-s*(e*(x-fx*d))):=by
  have:s*(e*(x-fx*d))+(n*s*d-s*(e*(x-fx*d)))=s*n*d:=by grind
  rw [this]; exact Re hsn hd.1
 have g2:0<s*(e*(x'-fx*d'))+(n*s*d'-s*(e*(x'-fx*d'))):=by
  have:s*(e*(x'-fx*d'))+(n*s*d'-s*(e*(x'-fx*d')))=s*n*d':=by grind
  rw [this]; exact Re hsn hd'.1
 have key:s*(e*(x-fx*d))*(n*s*d'-s*(e*(x'-fx*d')))-s*(e*(x'-fx*d'))*(n*s*d-s*(e*(x-fx*d)))=s*(s*n)*(e*(x*d'-x'*d)):=by grind
 have hss:0<s*(s*n):=Re hs hsn
 have p1:∀ v:Int,0<v↔0<v*d':=fun v=>by rw [Ra]; exact (Za2 hd'.1).symm
 have p2:∀ v:Int,0<v↔0<v*d:=fun v=>by rw [Ra]; exact (Za2 hd.1).symm
 have q1:n*s*d-s*(e*(x-fx*d))=s*(n*d-e*(x-fx*d)):=by grind
 have q2:n*s*d'-s*(e*(x'-fx*d'))=s*(n*d'-e*(x'-fx*d')):=by grind
 have r1:(e*(x-fx*d))*d'=e*(x*d'-fx*d*d'):=by grind
 have r2:(e*(x'-fx*d'))*d=e*(x'*d-fx*d*d'):=by grind
 have r3:(n*d-e*(x-fx*d))*d'=n*d*d'-e*(x*d'-fx*d*d'):=by grind
 have r4:(n*d'-e*(x'-fx*d'))*d=n*d*d'-e*(x'*d-fx*d*d'):=by grind
 by_cases hc:0<e*(x*d'-x'*d)
 ·have:=(Za2 hss).2 hc
  rw [Zk2 g1 g2 (by omega),Za2 hs,q2,Za2 hs,p1,p2 (n*d'-_),r1,r4]
  clear key g1 g2 q1 q2 r1 r2 r3 r4 eT
  generalize x*d'=U at *
  generalize x'*d=V at *
  generalize fx*d*d'=B at *
  generalize n*d*d'=T at *
  rcases he with rfl|rfl<;>omega
 ·have hc2:e*(x*d'-x'*d)<0:=by rcases he with rfl|rfl<;>omega
  have:=(Zb8 hss).2 hc2
  rw [Zp4 g1 g2 (by omega),Za2 hs,q1,Za2 hs,p2,p1 (n*d-_),r2,r3]
  clear key g1 g2 q1 q2 r1 r2 r3 r4 eT
  generalize x*d'=U at *
  generalize x'*d=V at *
  generalize fx*d*d'=B at *
  generalize n*d*d'=T at *
  rcases he with rfl|rfl<;>omega
theorem Zfb {w:Wl} {n sx sy:Int} (h:Str w n sx sy) {p q:Pt} (hp:PtR p) (hq:PtR q):touP p q w=true↔Us w n sx sy p.pl q.pl:=by
 obtain ⟨e1,e2⟩:=Zyn hp hq
 have s1:w.side p.x p.y p.d=sgn (bsP w sx sy p.pl):=Xi h hp.ok
 have s2:w.side q.x q.y q.d=sgn (bsP w sx sy q.pl):=Xi h hq.ok
 have t1:=Zj1 hp hq h.b1 h.b2
 have t2:=Zj1 hp hq h.b3 h.b4
 have dp:=hp.d0
 have dq:=hq.d0
 have hn:=h.hn
 have hxy:=h.hxy
 obtain ⟨f1,f2⟩:=Zuo h
 have D1:bsP w sx sy q.pl*p.d-bsP w sx sy p.pl*q.d=sx*(q.y*p.d-p.y*q.d)-sy*(q.x*p.d-p.x*q.d):=by unfold bsP bes Pt.pl; dsimp only; grind
 have D2:alP w sx sy q.pl*p.d-alP w sx sy p.pl*q.d=sx*(q.x*p.d-p.x*q.d)+sy*(q.y*p.d-p.y*q.d):=by unfold alP alo Pt.pl; dsimp only; grind
 unfold touP
 rw [e1,e2]
 by_cases h0:q.x*p.d-p.x*q.d=0/\q.y*p.d-p.y*q.d=0
 ·rw [if_pos h0,Zaf h hp.ok]
  rw [h0.1,h0.2] at D1 D2
  unfold onW Us
  show bsP w sx sy p.pl=0/\0<=alP w sx sy p.pl/\alP w sx sy p.pl<=ful n sx sy*p.d↔_
  show _↔∃ l m:Int,0<l/\0<m/\_/\_/\_<=ful n sx sy*(l*p.d+m*q.d)
  generalize bsP w sx sy p.pl=f at *
  generalize bsP w sx sy q.pl=g at *
  generalize alP w sx sy p.pl=a at *
  generalize alP w sx sy q.pl=b at *
  generalize ful n sx sy=F at *
  have D1:g*p.d=f*q.d:=by omega
  have D2:b*p.d=a*q.d:=by omega
  constructor
  ·rintro ⟨h1,h2,h3⟩
   refine ⟨1,1,by omega,by omega,?_,?_,?_⟩
   ·rw [h1] at D1
    have:g*p.d=0:=by omega
    rcases Nt.1 this with k|k<;>omega
   ·have:0<=p.d*b:=by rw [Ra,D2]; exact Qw h2 (by omega)
    have:=(nn_l dp).1 this
    omega
   ·have:p.d*(F*q.d-b)=q.d*(F*p.d-a):=by grind
    have k:=Qw (show 0<=q.d by omega) (show 0<=F*p.d-a by omega)
    rw [<-this] at k
    have k:=(nn_l dp).1 k
    have:F*(1*p.d+1*q.d)=F*p.d+F*q.d:=by grind
    omega
  ·rintro ⟨l,m,hl,hm,k1,k2,k3⟩
   have hz:0<l*p.d+m*q.d:=by have:=Re hl dp; have:=Re hm dq; omega
   refine ⟨?_,?_,?_⟩
   ·have:(l*p.d+m*q.d)*f=p.d*(l*f+m*g):=by grind
    rw [k1,Int.mul_zero] at this
    rcases Nt.1 this with k|k<;>omega
   ·have:(l*p.d+m*q.d)*a=p.d*(l*a+m*b):=by grind
    have k:=Qw (show 0<=p.d by omega) k2
    rw [<-this] at k
    exact (nn_l hz).1 k
   ·have:(l*p.d+m*q.d)*(F*p.d-a)=p.d*(F*(l*p.d+m*q.d)-(l*a+m*b)):=by grind
    have k:=Qw (show 0<=p.d by omega) (show 0<=F*(l*p.d+m*q.d)-(l*a+m*b) by omega)
    rw [<-this] at k
    have:=(nn_l hz).1 k
    omega
 ·rw [if_neg h0,s1,s2]
  by_cases h1:bsP w sx sy p.pl=0/\bsP w sx sy q.pl=0
  ·rw [if_pos (by rw [Vj,Vj]; exact h1),Zkh h h1.1 h1.2]
   rw [h1.1,h1.2] at D1
   have hnn:=h.nle
   show _↔spans _ _ (ful n sx sy*p.d-_) (ful n sx sy*q.d-_)
   obtain ⟨z1,z2⟩:=h1
   have b1:=h.b1
   have b2:=h.b2
   have b3:=h.b3
   have b4:=h.b4
   have etx:=h.tx
   have ety:=h.ty
   rw [etx] at b3
   rw [ety] at b4
   by_cases hs:sx=0
   ·subst hs
    rw [if_pos (by rw [etx]; omega)]
    have hy:sy=1\/sy = -1:=by have:=h.hy; omega
    have k:=Ztq (s:=1) (e:=sy) (x:=p.y) (d:=p.d) (x':=q.y) (d':=q.d) hy ⟨hn,hnn⟩ (by omega) ⟨dp,hp.d1⟩ ⟨dq,hq.d1⟩ hp.y hq.y b2 b4 (by
     rcases hy with rfl|rfl<;>omega)
    rw [<-ety] at k
    rw [k]
    have v1:alP w 0 sy p.pl=1*(sy*(p.y-w.fy*p.d)):=by unfold alP alo Pt.pl; dsimp only; grind
    have v2:alP w 0 sy q.pl=1*(sy*(q.y-w.fy*q.d)):=by unfold alP alo Pt.pl; dsimp only; grind
    have v3:ful n 0 sy=n*1:=by unfold ful; rcases hy with rfl|rfl<;>rfl
    rw [v1,v2,v3]
   ·have hx:sx=1\/sx = -1:=by have:=h.hx; omega
    rw [if_neg (by rw [etx]; rcases hx with rfl|rfl<;>omega)]
    have hsx:sx*sx=1:=by rcases hx with rfl|rfl<;>rfl
    have hS:0<1+sy*sy:=by rcases h.hy with rfl|rfl|rfl<;>decide
    have k:=Ztq (s:=1+sy*sy) (e:=sx) (x:=p.x) (d:=p.d) (x':=q.x) (d':=q.d) hx ⟨hn,hnn⟩ hS ⟨dp,hp.d1⟩ ⟨dq,hq.d1⟩ hp.x hq.x b1 b3 (by
     intro hz
     refine h0 ⟨hz,?_⟩
     rw [hz] at D1
     rcases hx with rfl|rfl<;>omega)
    rw [<-etx] at k
    rw [k]
    have w1:sx*(p.y-w.fy*p.d)=sy*(p.x-w.fx*p.d):=by unfold bsP bes Pt.pl at z1; dsimp only at z1; omega
    have w2:sx*(q.y-w.fy*q.d)=sy*(q.x-w.fx*q.d):=by unfold bsP bes Pt.pl at z2; dsimp only at z2; omega
    have v1:alP w sx sy p.pl=(1+sy*sy)*(sx*(p.x-w.fx*p.d)):=by
     unfold alP alo Pt.pl; dsimp only
     generalize p.x-w.fx*p.d=u at *
     generalize p.y-w.fy*p.d=v at *
     have:v=sx*(sy*u):=by rw [<-w1,<-Mz,hsx,Tw]
     rw [this]; grind
    have v2:alP w sx sy q.pl=(1+sy*sy)*(sx*(q.x-w.fx*q.d)):=by
     unfold alP alo Pt.pl; dsimp only
     generalize q.x-w.fx*q.d=u at *
     generalize q.y-w.fy*q.d=v at *
     have:v=sx*(sy*u):=by rw [<-w2,<-Mz,hsx,Tw]
     rw [this]; grind
    have v3:ful n sx sy=n*(1+sy*sy):=by unfold ful; rw [hsx]
    rw [v1,v2,v3]
  ·rw [if_neg (by rw [Vj,Vj]; exact h1),Zdm]
   by_cases h2:0<=sgn (bsP w sx sy p.pl)*sgn (bsP w sx sy q.pl)
   ·rw [if_pos h2]
    exact ⟨fun h=>by simp at h,fun h=>absurd h (Zkg h1 h2)⟩
   ·rw [if_neg h2,t1,t2,Zdm,decide_eq_true_eq]
    have h3:=sgn_mul_neg.1 (show sgn (bsP w sx sy p.pl)*sgn (bsP w sx sy q.pl)<0 by omega)
    have K1:(q.x*p.d-p.x*q.d)*(w.fy*p.d-p.y)-(q.y*p.d-p.y*q.d)*(w.fx*p.d-p.x)=p.d*((p.x-w.fx*p.d)*(q.y-w.fy*q.d)-(q.x-w.fx*q.d)*(p.y-w.fy*p.d)):=by grind
    have K2:(q.x*p.d-p.x*q.d)*(w.ty*p.d-p.y)-(q.y*p.d-p.y*q.d)*(w.tx*p.d-p.x)=p.d*((p.x-w.fx*p.d)*(q.y-w.fy*q.d)-(q.x-w.fx*q.d)*(p.y-w.fy*p.d)-n*(bsP w sx sy q.pl*p.d-bsP w sx sy p.pl*q.d)):=by
     rw [h.tx,h.ty]; unfold bsP bes Pt.pl; dsimp only; grind
    rw [K1,K2,Zot dp,Zot dp,Zrv]
    have K3:bsP w sx sy q.pl*alP w sx sy p.pl-bsP w sx sy p.pl*alP w sx sy q.pl=(sx*sx+sy*sy)*((p.x-w.fx*p.d)*(q.y-w.fy*q.d)-(q.x-w.fx*q.d)*(p.y-w.fy*p.d)):=by
     unfold bsP bes alP alo Pt.pl; dsimp only; grind
    have hS:0<sx*sx+sy*sy:=by rcases h.hx with rfl|rfl|rfl<;>rcases h.hy with rfl|rfl|rfl<;>(try (exact absurd ⟨rfl,rfl⟩ hxy))<;>decide
    generalize (p.x-w.fx*p.d)*(q.y-w.fy*q.d)-(q.x-w.fx*q.d)*(p.y-w.fy*p.d)=K at *
    have e3:ful n sx sy=(sx*sx+sy*sy)*n:=by unfold ful; rw [Ra]
    generalize sx*sx+sy*sy=S at *
    generalize hf:bsP w sx sy p.pl=f at *
    generalize hg:bsP w sx sy q.pl=g at *
    rcases h3 with h3|h3
    ·have k1:=(Za2 dp).2 h3.2
     have k2:=(Zb8 dq).2 h3.1
     have hD:0<n*(g*p.d-f*q.d):=(Za2 hn).2 (by rw [Ra g,Ra f]; omega)
     rw [Zb9 hf hg h3,K3,e3]
     show _↔_/\_<=S*n*(g*p.d-f*q.d)
     rw [nn_l hS,Mz S n]
     have:S*K<=S*(n*(g*p.d-f*q.d))↔K<=n*(g*p.d-f*q.d):=by rw [Ra S,Ra S]; exact Zqm hS
     rw [this]
     omega
    ·have k1:=(Zb8 dp).2 h3.2
     have k2:=(Za2 dq).2 h3.1
     have hD:n*(g*p.d-f*q.d)<0:=(Zb8 hn).2 (by rw [Ra g,Ra f]; omega)
     have K4:f*alP w sx sy q.pl-g*alP w sx sy p.pl=S * -K:=by rw [Rv,<-K3]; omega
     rw [Zkf,Zb9 hg hf (by omega),K4,e3]
     show _↔_/\_<=S*n*(f*q.d-g*p.d)
     have e4:n*(f*q.d-g*p.d) = -(n*(g*p.d-f*q.d)):=by rw [<-Rv,Int.neg_sub]
     rw [nn_l hS,Mz S n,e4]
     have:S * -K<=S * -(n*(g*p.d-f*q.d)) ↔ -K <= -(n*(g*p.d-f*q.d)):=by rw [Ra S,Ra S]; exact Zqm hS
     rw [this]
     omega
def crV (N M:P2d) (D x y:Int):Int:=(M.x-N.x)*(y*D-N.y)-(M.y-N.y)*(x*D-N.x)
def tch (N M:P2d) (D ax ay bx by' : Int):Prop:=∃ s t l m:Int,0<=s/\0<=t/\0<s+t/\0<=l/\0<=m/\0<l+m/\(l*N.x+m*M.x)*(s+t)=(l+m)*(D*(s*ax+t*bx))/\(l*N.y+m*M.y)*(s+t)=(l+m)*(D*(s*ay+t*by'))
theorem Zwq {N M:P2d} {D ax ay bx by' : Int} (h:tch N M D ax ay bx by'):tch N M D bx by' ax ay:=by
 obtain ⟨s,t,l,m,h1,h2,h3,h4,h5,h6,h7,h8⟩:=h
 exact ⟨t,s,l,m,h2,h1,by omega,h4,h5,h6,by rw [Wf t s,Wf (t*bx)]; exact h7,by rw [Wf t s,Wf (t*by')]; exact h8⟩
theorem Zwp {N M:P2d} {D ax ay bx by' : Int} (h:tch N M D ax ay bx by'):tch M N D ax ay bx by':=by
 obtain ⟨s,t,l,m,h1,h2,h3,h4,h5,h6,h7,h8⟩:=h
 exact ⟨s,t,m,l,h1,h2,h3,h5,h4,by omega,by rw [Wf m l,Wf (m*M.x)]; exact h7,by rw [Wf m l,Wf (m*M.y)]; exact h8⟩
theorem Ybx {N M:P2d} {D ax ay bx by' : Int} (hy:N.y<M.y) {s t:Int} (hs:0<=s) (ht:0<=t) (hw:0<s+t) (h1:N.y*(s+t)<=D*(s*ay+t*by')) (h2:D*(s*ay+t*by')<=M.y*(s+t)) (h0:s*crV N M D ax ay+t*crV N M D bx by'=0):tch N M D ax ay bx by':=by
 refine ⟨s,t,M.y*(s+t)-D*(s*ay+t*by'),D*(s*ay+t*by')-N.y*(s+t),hs,ht,hw,by omega,by omega,?_,?_,?_⟩
 ·have:(M.y-N.y)*(s+t)=M.y*(s+t)-N.y*(s+t):=Ko _ _ _
  have:=Re (show 0<M.y-N.y by omega) hw
  omega
 ·unfold crV at h0
  grind
 ·grind
theorem Zzw {N M:P2d} {D ax ay bx by' : Int} (hy:N.y<M.y) {s t s' t' : Int} (hs:0<=s) (ht:0<=t) (hw:0<s+t) (hs' : 0<=s') (ht' : 0<=t') (hw' : 0<s'+t') (h1:N.y*(s+t)<=D*(s*ay+t*by')) (h2:D*(s*ay+t*by')<=M.y*(s+t))
  (h1' : N.y*(s'+t')<=D*(s'*ay+t'*by')) (h2' : D*(s'*ay+t'*by')<=M.y*(s'+t')) (c1:s*crV N M D ax ay+t*crV N M D bx by'<0) (c2:0<=s'*crV N M D ax ay+t'*crV N M D bx by'):tch N M D ax ay bx by':=by
 generalize hA:crV N M D ax ay=A at *
 generalize hB:crV N M D bx by'=B at *
 generalize hp:s*A+t*B=p at *
 generalize hq:s'*A+t'*B=q at *
 have k1:=Qw c2 hs
 have k2:=Qw c2 ht
 have k3:=Qw (show 0 <= -p by omega) hs'
 have k4:=Qw (show 0 <= -p by omega) ht'
 have k5:=Re (show 0 < -p by omega) hw'
 have k6:=Qw c2 (Qq hw)
 have e0:q*s + -p*s'+(q*t + -p*t')=q*(s+t) + -p*(s'+t'):=by grind
 have eY:D*((q*s + -p*s')*ay+(q*t + -p*t')*by')=q*(D*(s*ay+t*by')) + -p*(D*(s'*ay+t'*by')):=by grind
 have i1:=Rd h1 c2
 have i2:=Rd h2 c2
 have i3:=Rd h1' (show 0 <= -p by omega)
 have i4:=Rd h2' (show 0 <= -p by omega)
 refine Ybx hy (s:=q*s + -p*s') (t:=q*t + -p*t') (by omega) (by omega) (by omega) ?_ ?_ ?_
 ·rw [e0,eY]
  have:N.y*(q*(s+t) + -p*(s'+t'))=q*(N.y*(s+t)) + -p*(N.y*(s'+t')):=by grind
  omega
 ·rw [e0,eY]
  have:M.y*(q*(s+t) + -p*(s'+t'))=q*(M.y*(s+t)) + -p*(M.y*(s'+t')):=by grind
  omega
 ·rw [hA,hB]
  have:(q*s + -p*s')*A+(q*t + -p*t')*B=q*(s*A+t*B) + -p*(s'*A+t'*B):=by grind
  rw [this,hp,hq]; grind
def detE (p:P2d) (D ax ay bx by' : Int):Int:=(bx-ax)*(p.y-ay*D)-(by'-ay)*(p.x-ax*D)
def upE (p:P2d) (D ax ay bx by' : Int):Prop:=ay*D<=p.y/\p.y<by'*D/\0<detE p D ax ay bx by'
def rgE (N M:P2d) (D x y:Int):Prop:=N.y<y*D/\y*D<=M.y/\crV N M D x y<0
theorem Zvb {N M:P2d} {D ax ay bx by' : Int} (hD:0<D) (hy:N.y<=M.y) (hab:ay<=by') (nt:¬ tch N M D ax ay bx by') :
  (upE N D ax ay bx by'↔upE M D ax ay bx by')↔(rgE N M D ax ay↔rgE N M D bx by'):=by
 have hm:ay*D<=by'*D:=Qi hab (Qq hD)
 by_cases hyy:N.y=M.y
 ·
  have r1:∀ x y,¬ rgE N M D x y:=by rintro x y ⟨a,b,_⟩; omega
  have key:upE N D ax ay bx by'↔upE M D ax ay bx by':=by
   by_cases hl:ay*D<=N.y/\N.y<by'*D
   ·have dd:detE N D ax ay bx by'-detE M D ax ay bx by'=(by'-ay)*(M.x-N.x):=by unfold detE; rw [hyy]; grind
    have hw:by'*D-ay*D=(by'-ay)*D:=by rw [Ko]
    have t1:∀ s,s=by'*D-N.y->∀ t,t=N.y-ay*D->D*(s*ax+t*bx)=N.x*((by'-ay)*D)+D*detE N D ax ay bx by':=by
     rintro s rfl t rfl; unfold detE; grind
    have t2:∀ s,s=by'*D-N.y->∀ t,t=N.y-ay*D->D*(s*ay+t*by')=N.y*((by'-ay)*D):=by
     rintro s rfl t rfl; grind
    unfold upE
    rw [<-hyy]
    constructor
    ·rintro ⟨h1,h2,h3⟩
     refine ⟨h1,h2,?_⟩
     by_cases h4:0<detE M D ax ay bx by'
     ·exact h4
     exfalso
     refine nt ⟨by'*D-N.y,N.y-ay*D,-detE M D ax ay bx by',detE N D ax ay bx by',by omega,by omega,by omega,by omega,by omega,by omega,?_,?_⟩
     ·rw [t1 _ rfl _ rfl,show by'*D-N.y+(N.y-ay*D)=(by'-ay)*D by omega]
      generalize detE N D ax ay bx by'=u at *
      generalize detE M D ax ay bx by'=v at *
      grind
     ·rw [t2 _ rfl _ rfl,show by'*D-N.y+(N.y-ay*D)=(by'-ay)*D by omega,<-hyy]
      generalize detE N D ax ay bx by'=u at *
      generalize detE M D ax ay bx by'=v at *
      grind
    ·rintro ⟨h1,h2,h3⟩
     refine ⟨h1,h2,?_⟩
     by_cases h4:0<detE N D ax ay bx by'
     ·exact h4
     exfalso
     refine nt ⟨by'*D-N.y,N.y-ay*D,detE M D ax ay bx by',-detE N D ax ay bx by',by omega,by omega,by omega,by omega,by omega,by omega,?_,?_⟩
     ·rw [t1 _ rfl _ rfl,show by'*D-N.y+(N.y-ay*D)=(by'-ay)*D by omega]
      generalize detE N D ax ay bx by'=u at *
      generalize detE M D ax ay bx by'=v at *
      grind
     ·rw [t2 _ rfl _ rfl,show by'*D-N.y+(N.y-ay*D)=(by'-ay)*D by omega,<-hyy]
      generalize detE N D ax ay bx by'=u at *
      generalize detE M D ax ay bx by'=v at *
      grind
   ·unfold upE
    rw [<-hyy]
    constructor<;>(rintro ⟨h1,h2,h3⟩; exact absurd ⟨h1,h2⟩ hl)
  exact ⟨fun _=>⟨fun h=>absurd h (r1 _ _),fun h=>absurd h (r1 _ _)⟩,fun _=>key⟩
 have hy:N.y<M.y:=by omega
 have lvl:∀ p:P2d,ay*D<=p.y->p.y<by'*D->0<=by'*D-p.y/\0<=p.y-ay*D/\0<(by'*D-p.y)+(p.y-ay*D)/\D*((by'*D-p.y)*ay+(p.y-ay*D)*by')=p.y*((by'*D-p.y)+(p.y-ay*D)):=by
  intro p h1 h2
  refine ⟨by omega,by omega,by omega,by grind⟩
 have crN:(by'*D-N.y)*crV N M D ax ay+(N.y-ay*D)*crV N M D bx by' = -((M.y-N.y)*D*detE N D ax ay bx by'):=by unfold crV detE; grind
 have crM:(by'*D-M.y)*crV N M D ax ay+(M.y-ay*D)*crV N M D bx by' = -((M.y-N.y)*D*detE M D ax ay bx by'):=by unfold crV detE; grind
 have hp:0<(M.y-N.y)*D:=Re (by omega) hD
 have sN:∀ v,-((M.y-N.y)*D*v)<0↔0<v:=fun v=>by have:=Za2 (a:=v) hp; omega
 have sN2:∀ v,0 <= -((M.y-N.y)*D*v)↔v<=0:=fun v=>by have:=np_l (a:=v) hp; omega
 have one:D*(1*ay+0*by')=ay*D/\D*(0*ay+1*by')=by'*D:=by constructor<;>grind
 have cA:1*crV N M D ax ay+0*crV N M D bx by'=crV N M D ax ay:=by omega
 have cB:0*crV N M D ax ay+1*crV N M D bx by'=crV N M D bx by':=by omega
 have two:=fun {s t s' t' : Int}=>@Zzw N M D ax ay bx by' hy s t s' t'
 by_cases a0:ay*D<=N.y
 ·by_cases b0:by'*D<=N.y
  ·unfold upE rgE; constructor<;>intro _<;>constructor<;>(rintro ⟨h1,h2,h3⟩; omega)
  obtain ⟨l1,l2,l3,l4⟩:=lvl N a0 (by omega)
  by_cases b1:by'*D<=M.y
  ·
   have key:0<detE N D ax ay bx by'↔crV N M D bx by'<0:=by
    constructor
    ·intro h
     by_cases hc:crV N M D bx by'<0
     ·exact hc
     exact absurd (two (s':=0) (t':=1) l1 l2 l3 (by omega) (by omega) (by omega) (by rw [l4]; omega) (by rw [l4]; exact Qi (Qq hy) (Qq l3)) (by rw [one.2]; omega) (by rw [one.2]; omega) (by rw [crN]; exact (sN _).2 h) (by rw [cB]; omega)) nt
    ·intro h
     by_cases hc:0<detE N D ax ay bx by'
     ·exact hc
     exact absurd (two (s:=0) (t:=1) (by omega) (by omega) (by omega) l1 l2 l3 (by rw [one.2]; omega) (by rw [one.2]; omega) (by rw [l4]; omega) (by rw [l4]; exact Qi (Qq hy) (Qq l3)) (by rw [cB]; exact h) (by rw [crN]; exact (sN2 _).2 (by omega))) nt
   unfold upE rgE
   rw [<-key]
   generalize detE N D ax ay bx by'=u at *
   constructor
   ·intro h
    constructor
    ·rintro ⟨h1,_,_⟩; omega
    ·rintro ⟨_,_,h3⟩
     have:=h.1 ⟨a0,by omega,h3⟩
     omega
   ·intro h
    constructor
    ·rintro ⟨_,_,h3⟩
     have:=h.2 ⟨by omega,b1,h3⟩
     omega
    ·rintro ⟨_,h2,_⟩; omega
  ·
   obtain ⟨m1,m2,m3,m4⟩:=lvl M (by omega) (by omega)
   have key:0<detE N D ax ay bx by'↔0<detE M D ax ay bx by':=by
    constructor
    ·intro h
     by_cases hc:0<detE M D ax ay bx by'
     ·exact hc
     exact absurd (two l1 l2 l3 m1 m2 m3 (by rw [l4]; omega) (by rw [l4]; exact Qi (Qq hy) (Qq l3)) (by rw [m4]; exact Qi (Qq hy) (Qq m3)) (by rw [m4]; omega) (by rw [crN]; exact (sN _).2 h) (by rw [crM]; exact (sN2 _).2 (by omega))) nt
    ·intro h
     by_cases hc:0<detE N D ax ay bx by'
     ·exact hc
     exact absurd (two m1 m2 m3 l1 l2 l3 (by rw [m4]; exact Qi (Qq hy) (Qq m3)) (by rw [m4]; omega) (by rw [l4]; omega) (by rw [l4]; exact Qi (Qq hy) (Qq l3)) (by rw [crM]; exact (sN _).2 h) (by rw [crN]; exact (sN2 _).2 (by omega))) nt
   unfold upE rgE
   rw [key]
   constructor
   ·intro _; constructor<;>(rintro ⟨h1,h2,h3⟩; omega)
   ·intro _
    constructor
    ·rintro ⟨_,_,h3⟩; exact ⟨by omega,by omega,h3⟩
    ·rintro ⟨_,_,h3⟩; exact ⟨by omega,by omega,h3⟩
 by_cases a1:ay*D<=M.y
 ·by_cases b1:by'*D<=M.y
  ·
   have key:crV N M D ax ay<0↔crV N M D bx by'<0:=by
    constructor
    ·intro h
     by_cases hc:crV N M D bx by'<0
     ·exact hc
     exact absurd (two (s:=1) (t:=0) (s':=0) (t':=1) (by omega) (by omega) (by omega) (by omega) (by omega) (by omega) (by rw [one.1]; omega) (by rw [one.1]; omega) (by rw [one.2]; omega) (by rw [one.2]; omega) (by rw [cA]; exact h) (by rw [cB]; omega)) nt
    ·intro h
     by_cases hc:crV N M D ax ay<0
     ·exact hc
     exact absurd (two (s:=0) (t:=1) (s':=1) (t':=0) (by omega) (by omega) (by omega) (by omega) (by omega) (by omega) (by rw [one.2]; omega) (by rw [one.2]; omega) (by rw [one.1]; omega) (by rw [one.1]; omega) (by rw [cB]; exact h) (by rw [cA]; omega)) nt
   unfold upE rgE
   rw [key]
   constructor
   ·intro _
    constructor
    ·rintro ⟨_,_,h3⟩; exact ⟨by omega,by omega,h3⟩
    ·rintro ⟨_,_,h3⟩; exact ⟨by omega,by omega,h3⟩
   ·intro _; constructor<;>(rintro ⟨h1,h2,h3⟩; omega)
  ·
   obtain ⟨m1,m2,m3,m4⟩:=lvl M a1 (by omega)
   have key:0<detE M D ax ay bx by'↔crV N M D ax ay<0:=by
    constructor
    ·intro h
     by_cases hc:crV N M D ax ay<0
     ·exact hc
     exact absurd (two (s':=1) (t':=0) m1 m2 m3 (by omega) (by omega) (by omega) (by rw [m4]; exact Qi (Qq hy) (Qq m3)) (by rw [m4]; omega) (by rw [one.1]; omega) (by rw [one.1]; omega) (by rw [crM]; exact (sN _).2 h) (by rw [cA]; omega)) nt
    ·intro h
     by_cases hc:0<detE M D ax ay bx by'
     ·exact hc
     exact absurd (two (s:=1) (t:=0) (by omega) (by omega) (by omega) m1 m2 m3 (by rw [one.1]; omega) (by rw [one.1]; omega) (by rw [m4]; exact Qi (Qq hy) (Qq m3)) (by rw [m4]; omega) (by rw [cA]; exact h) (by rw [crM]; exact (sN2 _).2 (by omega))) nt
   unfold upE rgE
   rw [<-key]
   generalize detE M D ax ay bx by'=u at *
   constructor
   ·intro h
    constructor
    ·rintro ⟨_,_,h3⟩
     have:=h.2 ⟨a1,by omega,h3⟩
     omega
    ·rintro ⟨_,h2,_⟩; omega
   ·intro h
    constructor
    ·rintro ⟨h1,_,_⟩; omega
    ·rintro ⟨_,_,h3⟩
     have:=h.1 ⟨by omega,a1,h3⟩
     omega
 ·unfold upE rgE; constructor<;>intro _<;>constructor<;>(rintro ⟨h1,h2,h3⟩; omega)
instance (p:P2d) (D ax ay bx by' : Int):Decidable (upE p D ax ay bx by'):=by unfold upE; exact inferInstance
instance (N M:P2d) (D x y:Int):Decidable (rgE N M D x y):=by unfold rgE; exact inferInstance
def flZ (p:P2d) (w:Wl):Bool:=if w.fy<=w.ty then decide (upE p p.d w.fx w.fy w.tx w.ty) else decide (upE p p.d w.tx w.ty w.fx w.fy)
theorem Ybg {w:Wl} {n sx sy:Int} (h:Str w n sx sy) (p:P2d):detE p p.d w.fx w.fy w.tx w.ty=n*bsP w sx sy p/\detE p p.d w.tx w.ty w.fx w.fy = -(n*bsP w sx sy p):=by
 unfold detE bsP bes
 rw [h.tx,h.ty]
 constructor<;>grind
theorem Ya5 {w:Wl} {n sx sy x y d:Int} (h:Str w n sx sy) (hp:PtOk x y d):flips x y d w=flZ ⟨x,y,d⟩ w:=by
 have a2:=Zj h.b2 hp.hd
 have a4:=Zj h.b4 hp.hd
 have hD:=hp.hD
 have hd:=hp.hd
 obtain ⟨e1,e2⟩:=Ybg h ⟨x,y,d⟩
 have hn:=h.hn
 unfold flips flZ
 rw [Xi h hp,W_eq (n:=w.fy*d) (by omega) (by omega),W_eq (n:=w.ty*d) (by omega) (by omega)]
 change detE ⟨x,y,d⟩ d w.fx w.fy w.tx w.ty=_ at e1
 change detE ⟨x,y,d⟩ d w.tx w.ty w.fx w.fy=_ at e2
 have p1:=Za2 (a:=bsP w sx sy ⟨x,y,d⟩) hn
 have p2:=Zb8 (a:=bsP w sx sy ⟨x,y,d⟩) hn
 have es:bes w sx sy x y d=bsP w sx sy ⟨x,y,d⟩:=rfl
 rw [es]
 have u1:upE ⟨x,y,d⟩ d w.fx w.fy w.tx w.ty↔w.fy*d<=y/\y<w.ty*d/\0<n*bsP w sx sy ⟨x,y,d⟩:=by rw [<-e1]; exact Iff.rfl
 have u2:upE ⟨x,y,d⟩ d w.tx w.ty w.fx w.fy↔w.ty*d<=y/\y<w.fy*d/\0 < -(n*bsP w sx sy ⟨x,y,d⟩):=by rw [<-e2]; exact Iff.rfl
 show _=if w.fy<=w.ty then decide (upE ⟨x,y,d⟩ d w.fx w.fy w.tx w.ty) else decide (upE ⟨x,y,d⟩ d w.tx w.ty w.fx w.fy)
 by_cases hc:w.fy<=w.ty
 ·have hm:w.fy*d<=w.ty*d:=Qi hc (Qq hd)
  rw [if_pos hc,Rx]
  simp only [Qu,Qc,decide_eq_true_eq,Xa,Xb,u1]
  generalize bsP w sx sy ⟨x,y,d⟩=B at *
  omega
 ·have hm:w.ty*d<=w.fy*d:=Qi (by omega) (Qq hd)
  rw [if_neg hc,Rx]
  simp only [Qu,Qc,decide_eq_true_eq,Xa,Xb,u2]
  generalize bsP w sx sy ⟨x,y,d⟩=B at *
  omega
theorem Zvd {N M:P2d} {D:Int} (hN:N.d=D) (hM:M.d=D) (hD:0<D) (hy:N.y<=M.y) {w:Wl} (nt:¬ tch N M D w.fx w.fy w.tx w.ty):(flZ N w ^^ flZ M w)=(decide (rgE N M D w.fx w.fy) ^^ decide (rgE N M D w.tx w.ty)):=by
 unfold flZ
 rw [hN,hM]
 by_cases hc:w.fy<=w.ty
 ·rw [if_pos hc,if_pos hc]
  exact Zoj (Zvb hD hy hc nt)
 ·rw [if_neg hc,if_neg hc,Bool.xor_comm (decide (rgE N M D w.fx w.fy))]
  exact Zoj (Zvb hD hy (by omega) fun h=>nt (Zwq h))
theorem Zwd {N M:P2d} {D:Int} (hN:N.d=D) (hM:M.d=D) (hD:0<D) {cs:List (Int × Int)} (nt:∀ w∈wls cs,¬ tch N M D w.fx w.fy w.tx w.ty):xorL ((wls cs).map (flZ N))=xorL ((wls cs).map (flZ M)):=by
 have key:∀ N M:P2d,N.d=D->M.d=D->N.y<=M.y->(∀ w∈wls cs,¬ tch N M D w.fx w.fy w.tx w.ty)->(xorL ((wls cs).map (flZ N)) ^^ xorL ((wls cs).map (flZ M)))=false:=by
  intro N M h1 h2 hy h3
  rw [Zhv,<-tele (fun x y=>decide (rgE N M D x y)) cs]
  congr 1
  refine Og fun w hw=>?_
  exact Zvd h1 h2 hD hy (h3 w hw)
 have fin:∀ a b:Bool,(a ^^ b)=false->a=b:=by decide
 rcases Int.le_total N.y M.y with hy|hy
 ·exact fin _ _ (key N M hN hM hy nt)
 ·exact (fin _ _ (key M N hM hN hy fun w hw h=>nt w hw (Zwp h))).symm
theorem Zm7 {x y d:Int}:∀ (ws:List Wl) (b:Bool),inPl x y d b ws=true->(b ^^ xorL (ws.map (flips x y d)))=true
 | [],b,h=>by simpa [xorL,inPl] using h
 | w::ws,b,h=>by
  rw [inPl] at h
  split at h
  ·cases h
  ·have:=Zm7 ws _ h
   rw [Sp,show xorL (flips x y d w::ws.map (flips x y d))=(flips x y d w ^^ xorL (ws.map (flips x y d))) from rfl,<-Bool.xor_assoc]
   exact this
theorem Zjx {α:Type} (f:α->Bool):∀ (l:List α),(∀ a∈l,f a=false)->xorL (l.map f)=false
 | [],_=>rfl
 | a::l,h=>by
  rw [Sp,show xorL (f a::l.map f)=(f a ^^ xorL (l.map f)) from rfl,h a (by simp),Zjx f l fun b hb=>h b (by simp [hb])]
  rfl
theorem Ya8 {w:Wl} {p:P2d} (hd:0<p.d) (h1 : -5000<=w.fy/\w.fy<=5000) (h2 : -5000<=w.ty/\w.ty<=5000) (hy:p.y < -(5000*p.d)\/5000*p.d<p.y):flZ p w=false:=by
 have a1:=Qi h1.1 (Qq hd)
 have a2:=Qi h1.2 (Qq hd)
 have a3:=Qi h2.1 (Qq hd)
 have a4:=Qi h2.2 (Qq hd)
 unfold flZ
 split
 ·rw [decide_eq_false]
  rintro ⟨b1,b2,_⟩
  omega
 ·rw [decide_eq_false]
  rintro ⟨b1,b2,_⟩
  omega
theorem Zzx {N M:P2d} {D ax ay bx by' : Int} (hD:0<D) (hM:M.x=N.x) (h1 : -5000<=ax/\ax<=5000) (h2 : -5000<=bx/\bx<=5000) (hx:N.x < -(5000*D)\/5000*D<N.x):¬ tch N M D ax ay bx by':=by
 rintro ⟨s,t,l,m,hs,ht,hst,hl,hm,hlm,e,_⟩
 rw [hM,<-Int.add_mul,Mz] at e
 have e:=Int.eq_of_mul_eq_mul_left (by omega) e
 have a1:=Rd h1.1 hs
 have a2:=Rd h1.2 hs
 have a3:=Rd h2.1 ht
 have a4:=Rd h2.2 ht
 have b1:=Rd (show s*ax+t*bx<=5000*(s+t) by omega) (Qq hD)
 have b2:=Rd (show -5000*(s+t)<=s*ax+t*bx by omega) (Qq hD)
 rw [<-e] at b1 b2
 have c1:D*(5000*(s+t))=5000*D*(s+t):=by grind
 have c2:D*(-5000*(s+t)) = -(5000*D)*(s+t):=by grind
 rw [c1] at b1
 rw [c2] at b2
 rcases hx with hx|hx
 ·have:=Tk hx hst
  omega
 ·have:=Tk hx hst
  omega
theorem Zkm {h:Hal} (hs:Zae h.cs) {x y d:Int} (hp:PtOk x y d) (hi:Ye h x y d=true):(-(5000*d)<=x/\x<=5000*d)/\(-(5000*d)<=y/\y<=5000*d):=by
 have hd:=hp.hd
 have h0:xorL ((wls h.cs).map (flZ ⟨x,y,d⟩))=true:=by
  have:=Zm7 _ _ hi
  rw [Bool.false_xor] at this
  rw [<-this]
  congr 1
  refine Og fun w hw=>?_
  obtain ⟨n,sx,sy,g⟩:=Zak hs w hw
  exact (Ya5 g hp).symm
 have far:∀ p:P2d,0<p.d->(p.y < -(5000*p.d)\/5000*p.d<p.y)->xorL ((wls h.cs).map (flZ p))=false:=fun p hpd hy =>
  Zjx _ _ fun w hw=>by
   obtain ⟨n,sx,sy,g⟩:=Zak hs w hw
   exact Ya8 hpd g.b2 g.b4 hy
 have hy:¬ (y < -(5000*d)\/5000*d<y):=fun hy=>by
  rw [far ⟨x,y,d⟩ hd hy] at h0; cases h0
 have hx:¬ (x < -(5000*d)\/5000*d<x):=fun hx=>by
  rw [Zwd (N:=⟨x,y,d⟩) (M:=⟨x,5001*d,d⟩) (D:=d) rfl rfl hd (fun w hw=>by
   obtain ⟨n,sx,sy,g⟩:=Zak hs w hw
   exact Zzx hd rfl g.b1 g.b3 hx),far ⟨x,5001*d,d⟩ hd (.inr (by dsimp only; omega))] at h0
  cases h0
 omega
def r35:List AV->Option PRes
 | [.agg [.int .i64 k,.int .i64 a],.agg [.int .i64 x,.int .i64 y,.int .i64 z,.int .i64 d]]=>asr (decide (0<=k/\k<5)) ⟨I (off k a x y z d),[]⟩
 | _=>none
def crsE (h:Hal) (s:Stg) (c:Crs):Int:=if surE h s c.su=0 then (if Vt c.fx c.fy c.fz=0 then Yu c.to else Vt c.fx c.fy c.fz) else surE h s c.su
theorem Zvj {h:Hal} {s:Stg} {c:Crs} (hk:h.ok) (hs:s.few) (h0:crsE h s c=0):Sit h s/\SK h c.su/\CrOk (Zb h s c.su) c/\surE h s c.su=0/\Vt c.fx c.fy c.fz=0/\Yu c.to=0:=by
 unfold crsE at h0
 split at h0
 ·rename_i h1
  split at h0
  ·rename_i h2
   have e:=Zl7 h1
   have g:=Zfd hk hs e.1
   have hi:=Zgj e.2.1 e.2.2
   obtain ⟨⟨b1,b2⟩,b3⟩:=Zdt g hi
   obtain ⟨p1,p2,_,p4⟩:=Zds h0
   unfold ptIn at p4
   simp only [Qc,within_iff] at p4
   have h3:=h2
   unfold Vt img at h3
   split at h3
   ·rename_i h4
    simp only [Qc,within_iff] at h4
    exact ⟨g,hi,⟨b1,b2,b3,by omega,by omega,by omega,p1,p2,p4.1.1,p4.1.2,p4.2⟩,h1,h2,h0⟩
   ·cases h3
  ·rename_i h2; exact absurd h0 h2
 ·rename_i h1; exact absurd h0 h1
abbrev crAV (r:Pt × Int):AV:=.tup [r.1.av,I r.2]
theorem Zd2 {well:Pt->Bool} {pl:Int × Int} {c:Crs} (hs:0<=sgn (crF pl c)*sgn (crG pl c)):Ul well pl c=(ptZ,12):=by unfold Ul; rw [if_pos hs]
theorem Zq9 {well:Pt->Bool} {pl:Int × Int} {c:Crs} (hw:well (Xk pl c)=false):Ul well pl c=(ptZ,12):=by unfold Ul; rw [hw]; split<;>rfl
theorem Zn1 {well:Pt->Bool} {pl:Int × Int} {c:Crs} (hs:¬ 0<=sgn (crF pl c)*sgn (crG pl c)) (hw:well (Xk pl c)=true) (hd:100000<(Xk pl c).d):Ul well pl c=(ptZ,8):=by unfold Ul; rw [if_neg hs,hw,if_pos rfl,if_pos hd]
theorem Zq8 {well:Pt->Bool} {pl:Int × Int} {c:Crs} (hs:¬ 0<=sgn (crF pl c)*sgn (crG pl c)) (hw:well (Xk pl c)=true) (hd:¬ 100000<(Xk pl c).d):Ul well pl c=(Xk pl c,0):=by unfold Ul; rw [if_neg hs,hw,if_pos rfl,if_neg hd]
theorem c42 {h:Hal} {s:Stg} {c:Crs} (g:Sit h s) (hi:SK h c.su) (ho:CrOk (Zb h s c.su) c):PCall Tryz.prog 73 [h.av,s.av,c.av] ⟨crAV (Ul (Za0 h c.su) (Zb h s c.su) c),[]⟩:=by
 obtain ⟨f1,f2,f3⟩:=Zvl ho
 obtain ⟨g1,g2⟩:=Zvk ho
 have hk0:=Zd (c59 g hi) Ycq
 generalize hpl:Zb h s c.su=pl at *
 have hkk:0<=pl.1/\pl.1<5:=⟨ho.k0,by have:=ho.k4; omega⟩
 have hk1:PCOK Tryz.prog (ins 130 r35 (ins 35 (one [h.av,s.av,I c.su] ⟨P2 pl.1 pl.2,[]⟩) kGc)):=Zi (fun a res h=>by
  unfold r35 at h; split at h
  ·obtain ⟨h1,rfl⟩:=Xx h
   have:=of_decide_eq_true h1
   exact c35 _ _ _ _ _ this.1 this.2
  ·cases h) hk0
 have a1:asr (decide (0<=pl.1/\pl.1<5)) ⟨I (off pl.1 pl.2 c.fx c.fy c.fz 1),[]⟩=some ⟨I (crF pl c),[]⟩:=by rw [Xm hkk]; exact congrArg some (congrArg (PRes.mk · []) (congrArg I f2))
 have a2:asr (decide (0<=pl.1/\pl.1<5)) ⟨I (off pl.1 pl.2 c.to.x c.to.y c.to.z c.to.d),[]⟩=some ⟨I (crG pl c),[]⟩:=by rw [Xm hkk]; exact congrArg some (congrArg (PRes.mk · []) (congrArg I g1))
 by_cases hs:0<=sgn (crF pl c)*sgn (crG pl c)
 ·rw [Zd2 hs]
  have hs2:0<=Qa Qb (sgn (crF pl c)*sgn (crG pl c)):=by rw [Zdm]; exact hs
  refine bs.pv (sx:=nos) hk1 Tryz.func73 (by kernel_rfl) (by kernel_rfl) rfl ?_
  generalize crF pl c=F at *
  generalize crG pl c=G at *
  repeat'(first|refine wk1 ?_|(refine wk2 ?_ ?_<;>intro _)|refine wk4 ?_|fail);all_goals(conv=>whnf)
  exact Zg rfl rfl
 ·have hs2:¬ 0<=Qa Qb (sgn (crF pl c)*sgn (crG pl c)):=by rw [Zdm]; exact hs
  have hB:=Zax ho hs
  have hx:=Zpo ho (u:=iabs (crG pl c)) (v:=iabs (crF pl c)) (by have:=Zjy ho hs; omega) (by have:=Zjy ho hs; omega)
  have h3:=sgn_mul_neg.1 (show sgn (crF pl c)*sgn (crG pl c)<0 by omega)
  have hcr:Xk pl c=redP (crPt c (iabs (crG pl c)) (iabs (crF pl c))):=rfl
  have hwl:=c121 g hi (Xk pl c)
  have A1:=Zq9 (well:=Za0 h c.su) (pl:=pl) (c:=c)
  have A2:=Zn1 (well:=Za0 h c.su) hs
  have A3:=Zq8 (well:=Za0 h c.su) hs
  generalize Ul (Za0 h c.su) pl c=ans at *
  have iF:iabs (crF pl c)=if crF pl c<0 then -crF pl c else crF pl c:=rfl
  have iG:iabs (crG pl c)=if crG pl c<0 then -crG pl c else crG pl c:=rfl
  generalize Za0 h c.su (Xk pl c)=wl at *
  generalize Xk pl c=Q at *
  generalize crF pl c=F at *
  generalize crG pl c=G at *
  generalize iabs F=v at *
  generalize iabs G=u at *
  generalize hp:crPt c u v=p at *
  have px:c.fx*u+c.to.x*v=p.x:=by rw [<-hp]; rfl
  have py:c.fy*u+c.to.y*v=p.y:=by rw [<-hp]; rfl
  have pz:c.fz*u+c.to.z*v=p.z:=by rw [<-hp]; rfl
  have pd:u+c.to.d*v=p.d:=by rw [<-hp]; rfl
  obtain ⟨x1,x2,x3,x4,x5,x6,x7⟩:=hx
  have hDd:=hB.d
  rcases h3 with ⟨n1,n2⟩|⟨n1,n2⟩
  ·rw [if_pos n1] at iF
   rw [if_neg (by omega)] at iG
   subst iF iG
   have q:∀ a b:Int,(-90000000000000<=a*u/\a*u<=90000000000000)->(-50000000000000<=b * -F/\b * -F<=50000000000000)->Qa Qb (Qa Qb (a*u)-Qa Qb (b*F))=a*u+b * -F:=by
    intro a b k1 k2
    rw [Rv] at k2 ⊢
    rw [W_eq (n:=a*u) (by omega) (by omega),W_eq (n:=b*F) (by omega) (by omega),W_eq (by omega) (by omega)]
    omega
   have qd:Qa Qb (u-Qa Qb (F*c.to.d))=p.d:=by
    rw [Ra F]
    rw [Rv] at x7 pd
    rw [W_eq (n:=c.to.d*F) (by omega) (by omega),W_eq (by omega) (by omega)]; omega
   obtain ⟨k1,k2,k3,k4,k5,k6,k7,k8⟩:=Zvi hB (X:=Qa Qb (Qa Qb (c.fx*u)-Qa Qb (c.to.x*F))) (Y:=Qa Qb (Qa Qb (c.fy*u)-Qa Qb (c.to.y*F))) (Z:=Qa Qb (Qa Qb (c.fz*u)-Qa Qb (c.to.z*F))) (D:=Qa Qb (u-Qa Qb (F*c.to.d))) (by rw [q _ _ x1 x4,px]) (by rw [q _ _ x2 x5,py]) (by rw [q _ _ x3 x6,pz]) qd
   rw [<-hcr] at k4 k5 k6 k7
   have hw2:PCall Tryz.prog 133 [h.av,I c.su,P4 (Qa Qb ((Qa Qb (Qa Qb (c.fx*u)-Qa Qb (c.to.x*F))).tdiv (g4 p))) (Qa Qb ((Qa Qb (Qa Qb (c.fy*u)-Qa Qb (c.to.y*F))).tdiv (g4 p))) (Qa Qb ((Qa Qb (Qa Qb (c.fz*u)-Qa Qb (c.to.z*F))).tdiv (g4 p))) (Qa Qb ((Qa Qb (u-Qa Qb (F*c.to.d))).tdiv (g4 p)))] ⟨Bo wl,[]⟩:=by
    rw [k4,k5,k6,k7]; exact hwl
   have hk2:=Zd hw2 hk1
   clear hw2 hwl hk0 hk1
   refine bs.pv (sx:=nos) hk2 Tryz.func73 (by kernel_rfl) (by kernel_rfl) rfl ?_
   cases wl with
   | false =>
    rw [A1 rfl]
    repeat'(first|refine wk1 ?_|(refine wk2 ?_ ?_<;>intro _)|refine wk4 ?_|fail);all_goals(conv=>whnf)
    exact Zg rfl rfl
   | true =>
    by_cases hd:100000<Q.d
    ·rw [A2 rfl hd]
     repeat'(first|refine wk1 ?_|(refine wk2 ?_ ?_<;>intro _)|refine wk4 ?_|fail);all_goals(conv=>whnf)
     exact Zg rfl rfl
    ·rw [A3 rfl hd]
     repeat'(first|refine wk1 ?_|(refine wk2 ?_ ?_<;>intro _)|refine wk4 ?_|fail);all_goals(conv=>whnf)
     exact Zg (by rw [k4,k5,k6,k7]) rfl
  ·rw [if_neg (by omega)] at iF
   rw [if_pos n2] at iG
   subst iF iG
   have q:∀ a b:Int,(-90000000000000<=a * -G/\a * -G<=90000000000000)->(-50000000000000<=b*v/\b*v<=50000000000000)->Qa Qb (0-Qa Qb (Qa Qb (a*G)-Qa Qb (b*v)))=a * -G+b*v:=by
    intro a b k1 k2
    rw [Rv] at k1 ⊢
    rw [W_eq (n:=a*G) (by omega) (by omega),W_eq (n:=b*v) (by omega) (by omega),W_eq (n:=a*G-b*v) (by omega) (by omega),W_eq (by omega) (by omega)]
    omega
   have qn:Qa Qb (G-Qa Qb (v*c.to.d)) = -p.d:=by
    rw [Ra v]
    rw [W_eq (n:=c.to.d*v) (by omega) (by omega),W_eq (by omega) (by omega)]; omega
   have qd:Qa Qb (0-Qa Qb (G-Qa Qb (v*c.to.d)))=p.d:=by
    rw [qn,W_eq (by omega) (by omega)]; omega
   obtain ⟨k1,k2,k3,k4,k5,k6,k7,k8⟩:=Zvi hB (X:=Qa Qb (0-Qa Qb (Qa Qb (c.fx*G)-Qa Qb (c.to.x*v)))) (Y:=Qa Qb (0-Qa Qb (Qa Qb (c.fy*G)-Qa Qb (c.to.y*v)))) (Z:=Qa Qb (0-Qa Qb (Qa Qb (c.fz*G)-Qa Qb (c.to.z*v)))) (D:=Qa Qb (0-Qa Qb (G-Qa Qb (v*c.to.d)))) (by rw [q _ _ x1 x4,px]) (by rw [q _ _ x2 x5,py]) (by rw [q _ _ x3 x6,pz]) qd
   rw [<-hcr] at k4 k5 k6 k7
   have hw2:PCall Tryz.prog 133 [h.av,I c.su,P4 (Qa Qb ((Qa Qb (0-Qa Qb (Qa Qb (c.fx*G)-Qa Qb (c.to.x*v)))).tdiv (g4 p))) (Qa Qb ((Qa Qb (0-Qa Qb (Qa Qb (c.fy*G)-Qa Qb (c.to.y*v)))).tdiv (g4 p))) (Qa Qb ((Qa Qb (0-Qa Qb (Qa Qb (c.fz*G)-Qa Qb (c.to.z*v)))).tdiv (g4 p))) (Qa Qb ((Qa Qb (0-Qa Qb (G-Qa Qb (v*c.to.d)))).tdiv (g4 p)))] ⟨Bo wl,[]⟩:=by
    rw [k4,k5,k6,k7]; exact hwl
   have hk2:=Zd hw2 hk1
   clear hw2 hwl hk0 hk1
   refine bs.pv (sx:=nos) hk2 Tryz.func73 (by kernel_rfl) (by kernel_rfl) rfl ?_
   cases wl with
   | false =>
    rw [A1 rfl]
    repeat'(first|refine wk1 ?_|(refine wk2 ?_ ?_<;>intro _)|refine wk4 ?_|fail);all_goals(conv=>whnf)
    exact Zg rfl rfl
   | true =>
    by_cases hd:100000<Q.d
    ·rw [A2 rfl hd]
     repeat'(first|refine wk1 ?_|(refine wk2 ?_ ?_<;>intro _)|refine wk4 ?_|fail);all_goals(conv=>whnf)
     exact Zg rfl rfl
    ·rw [A3 rfl hd]
     repeat'(first|refine wk1 ?_|(refine wk2 ?_ ?_<;>intro _)|refine wk4 ?_|fail);all_goals(conv=>whnf)
     exact Zg (by rw [k4,k5,k6,k7]) rfl
abbrev sxC:FuncId->Bool:=fun f=>Qm f 163||Qm f 190||Qm f 192
def r113:List AV->Option PRes
 | [.int .i64 k,.agg [.int .i64 x,.int .i64 y,.int .i64 z,.int .i64 d]]=>some ⟨I (offN k x y z),[]⟩
 | _=>none
def crsA (h:Hal) (s:Stg) (c:Crs):Pt × Int:=if crsE h s c=0 then Ul (Za1 h c.su) (Zb h s c.su) c else (ptZ,crsE h s c)
theorem Zy7 (x y z:Int):Vt x y z=if Xt x y z then 0 else 2:=by rw [Zgq]; rfl
theorem c40e {h:Hal} (hk:h.ok) {s:Stg} (hs:s.few) {c:Crs} (hw:c.to.wf) (he:crsE h s c≠0):PCall Tryz.prog 113 [h.av,s.av,c.av] ⟨crAV (ptZ,crsE h s c),[]⟩:=by
 have hk0:=Zd (c109 hk hs c.su) (Zd (c99 hw) Ut)
 by_cases h1:surE h s c.su=0
 ·have e1:crsE h s c=if Xt c.fx c.fy c.fz then Yu c.to else 2:=by
   unfold crsE; rw [if_pos h1,Zy7]
   split
   ·rw [if_pos rfl]
   ·rw [if_neg (by decide)]
  rw [e1] at he ⊢
  rw [h1] at hk0
  cases h2:Xt c.fx c.fy c.fz with
  | false =>
   have hu:unl (Xt c.fx c.fy c.fz) 2=2:=by rw [h2]; rfl
   rw [if_neg (by decide)]
   refine bs.pv (sx:=sxC) hk0 Tryz.func113 (by kernel_rfl) (by kernel_rfl) rfl ?_
   repeat'(first|refine wk1 ?_|(refine wk2 ?_ ?_<;>intro _)|refine wk4 ?_|fail);all_goals(conv=>whnf)
   refine bs.sv (sx:=sxC) hk0 Tryz.func163 (by kernel_rfl) (by kernel_rfl) ?_
   refine Tt 3 ?_
   refine Rn (bs.av (sx:=sxC) hk0 ?_)
   repeat'(first|refine wk1 ?_|(refine wk2 ?_ ?_<;>intro _)|refine wk4 ?_|fail);all_goals(conv=>whnf)
   refine bs.sv (sx:=sxC) hk0 Tryz.func190 (by kernel_rfl) (by kernel_rfl) ?_
   repeat'(first|refine wk1 ?_|(refine wk2 ?_ ?_<;>intro _)|refine wk4 ?_|fail);all_goals(conv=>whnf)
   exact Zg (by rw [hu]; rfl) rfl
  | true =>
   have hu:unl (Xt c.fx c.fy c.fz) 2=0:=by rw [h2]; rfl
   rw [h2,if_pos rfl] at he
   rw [if_pos rfl]
   generalize Yu c.to=pe at *
   refine bs.pv (sx:=sxC) hk0 Tryz.func113 (by kernel_rfl) (by kernel_rfl) rfl ?_
   repeat'(first|refine wk1 ?_|(refine wk2 ?_ ?_<;>intro _)|refine wk4 ?_|fail);all_goals(conv=>whnf)
   refine bs.sv (sx:=sxC) hk0 Tryz.func163 (by kernel_rfl) (by kernel_rfl) ?_
   refine Tt 3 ?_
   refine Rn (bs.av (sx:=sxC) hk0 ?_)
   repeat'(first|refine wk1 ?_|(refine wk2 ?_ ?_<;>intro _)|refine wk4 ?_|fail);all_goals(conv=>whnf)
   refine bs.sv (sx:=sxC) hk0 Tryz.func190 (by kernel_rfl) (by kernel_rfl) ?_
   repeat'(first|refine wk1 ?_|(refine wk2 ?_ ?_<;>intro _)|refine wk4 ?_|fail);all_goals(conv=>whnf)
   refine Rn (bs.av (sx:=sxC) hk0 ?_)
   repeat'(first|refine wk1 ?_|(refine wk2 ?_ ?_<;>intro _)|refine wk4 ?_|fail);all_goals(conv=>whnf)
   refine bs.sv (sx:=sxC) hk0 Tryz.func192 (by kernel_rfl) (by kernel_rfl) ?_
   repeat'(first|refine wk1 ?_|(refine wk2 ?_ ?_<;>intro _)|refine wk4 ?_|fail);all_goals(conv=>whnf)
   exact Zg rfl rfl
 ·have e1:crsE h s c=surE h s c.su:=by unfold crsE; rw [if_neg h1]
  rw [e1]
  refine bs.pv (sx:=sxC) hk0 Tryz.func113 (by kernel_rfl) (by kernel_rfl) rfl ?_
  repeat'(first|refine wk1 ?_|(refine wk2 ?_ ?_<;>intro _)|refine wk4 ?_|fail);all_goals(conv=>whnf)
  exact Zg rfl rfl
theorem Zp6 {n:Int} (h : -9000000000000000000<=n/\n<=9000000000000000000):size n=iabs n:=by rw [Zby h]; rfl
theorem c40o {h:Hal} (hk:h.ok) {s:Stg} (hs:s.few) {c:Crs} (hw:c.to.wf) (he:crsE h s c=0):PCall Tryz.prog 113 [h.av,s.av,c.av] ⟨crAV (Ul (Za1 h c.su) (Zb h s c.su) c),[]⟩:=by
 obtain ⟨g,hi,ho,h1,h2,h3⟩:=Zvj hk hs he
 have h2' : Xt c.fx c.fy c.fz=true:=by
  rw [Zy7] at h2
  cases hx:Xt c.fx c.fy c.fz
  ·rw [hx] at h2; exact absurd h2 (by decide)
  ·rfl
 have hu:unl (Xt c.fx c.fy c.fz) 2=0:=by rw [h2']; rfl
 obtain ⟨f1,f2,f3⟩:=Zvl ho
 obtain ⟨g1,g2⟩:=Zvk ho
 have hk0:=Zd (c109 hk hs c.su) (Zd (c99 hw) Ut)
 rw [h1,h3] at hk0
 have hk0:=Zd (c112 g hi) (Zi (f0:=193) (r:=r113) (fun a res h=>by unfold r113 at h; split at h<;>cases h; exact c113 _ ⟨_,_,_,_⟩) hk0)
 generalize hpl:Zb h s c.su=pl at *
 by_cases hsg:0<=sgn (crF pl c)*sgn (crG pl c)
 ·rw [Zd2 hsg]
  have hs2:0<=Qa Qb (sgn (Qa Qb (offN pl.1 c.fx c.fy c.fz-pl.2))*sgn (Qa Qb (offN pl.1 c.to.x c.to.y c.to.z-Qa Qb (pl.2*c.to.d)))):=by rw [f1,g1,Zdm]; exact hsg
  refine bs.pv (sx:=sxC) hk0 Tryz.func113 (by kernel_rfl) (by kernel_rfl) rfl ?_
  repeat'(first|refine wk1 ?_|(refine wk2 ?_ ?_<;>intro _)|refine wk4 ?_|fail);all_goals(conv=>whnf)
  refine bs.sv (sx:=sxC) hk0 Tryz.func163 (by kernel_rfl) (by kernel_rfl) ?_
  refine Tt 3 ?_
  refine Rn (bs.av (sx:=sxC) hk0 ?_)
  repeat'(first|refine wk1 ?_|(refine wk2 ?_ ?_<;>intro _)|refine wk4 ?_|fail);all_goals(conv=>whnf)
  refine bs.sv (sx:=sxC) hk0 Tryz.func190 (by kernel_rfl) (by kernel_rfl) ?_
  repeat'(first|refine wk1 ?_|(refine wk2 ?_ ?_<;>intro _)|refine wk4 ?_|fail);all_goals(conv=>whnf)
  refine Rn (bs.av (sx:=sxC) hk0 ?_)
  repeat'(first|refine wk1 ?_|(refine wk2 ?_ ?_<;>intro _)|refine wk4 ?_|fail);all_goals(conv=>whnf)
  refine bs.sv (sx:=sxC) hk0 Tryz.func192 (by kernel_rfl) (by kernel_rfl) ?_
  repeat'(first|refine wk1 ?_|(refine wk2 ?_ ?_<;>intro _)|refine wk4 ?_|fail);all_goals(conv=>whnf)
  refine Rn (bs.av (sx:=sxC) hk0 ?_)
  repeat'(first|refine wk1 ?_|(refine wk2 ?_ ?_<;>intro _)|refine wk4 ?_|fail);all_goals(conv=>whnf)
  exact Zg rfl rfl
 ·have hs2:¬ 0<=Qa Qb (sgn (Qa Qb (offN pl.1 c.fx c.fy c.fz-pl.2))*sgn (Qa Qb (offN pl.1 c.to.x c.to.y c.to.z-Qa Qb (pl.2*c.to.d)))):=by rw [f1,g1,Zdm]; exact hsg
  have hB:=Zax ho hsg
  have hx:=Zpo ho (u:=iabs (crG pl c)) (v:=iabs (crF pl c)) (by have:=Zjy ho hsg; omega) (by have:=Zjy ho hsg; omega)
  have hcr:Xk pl c=redP (crPt c (iabs (crG pl c)) (iabs (crF pl c))):=rfl
  have hwl:=c118 g hi (Xk pl c)
  have A1:=Zq9 (well:=Za1 h c.su) (pl:=pl) (c:=c)
  have A2:=Zn1 (well:=Za1 h c.su) hsg
  have A3:=Zq8 (well:=Za1 h c.su) hsg
  generalize Ul (Za1 h c.su) pl c=ans at *
  generalize Za1 h c.su (Xk pl c)=wl at *
  generalize Xk pl c=Q at *
  have su:size (Qa Qb (offN pl.1 c.to.x c.to.y c.to.z-Qa Qb (pl.2*c.to.d)))=iabs (crG pl c):=by rw [g1]; exact Zp6 (by omega)
  have sv:size (Qa Qb (offN pl.1 c.fx c.fy c.fz-pl.2))=iabs (crF pl c):=by rw [f1]; exact Zp6 (by omega)
  generalize hp:crPt c (iabs (crG pl c)) (iabs (crF pl c))=p at *
  generalize iabs (crF pl c)=v at *
  generalize iabs (crG pl c)=u at *
  have px:c.fx*u+c.to.x*v=p.x:=by rw [<-hp]; rfl
  have py:c.fy*u+c.to.y*v=p.y:=by rw [<-hp]; rfl
  have pz:c.fz*u+c.to.z*v=p.z:=by rw [<-hp]; rfl
  have pd:u+c.to.d*v=p.d:=by rw [<-hp]; rfl
  obtain ⟨x1,x2,x3,x4,x5,x6,x7⟩:=hx
  have hDd:=hB.d
  generalize hA:Qa Qb (offN pl.1 c.fx c.fy c.fz-pl.2)=A at *
  generalize hBb:Qa Qb (offN pl.1 c.to.x c.to.y c.to.z-Qa Qb (pl.2*c.to.d))=B at *
  have q:∀ a b:Int,(-90000000000000<=a*u/\a*u<=90000000000000)->(-50000000000000<=b*v/\b*v<=50000000000000)->Qa Qb (Qa Qb (a*size B)+Qa Qb (b*size A))=a*u+b*v:=by
   intro a b k1 k2
   rw [su,sv]
   rw [W_eq (n:=a*u) (by omega) (by omega),W_eq (n:=b*v) (by omega) (by omega),W_eq (by omega) (by omega)]
  have qd:Qa Qb (size B+Qa Qb (c.to.d*size A))=p.d:=by
   rw [su,sv]
   rw [W_eq (n:=c.to.d*v) (by omega) (by omega),W_eq (by omega) (by omega)]; omega
  obtain ⟨k1,k2,k3,k4,k5,k6,k7,k8⟩:=Zvi hB (X:=Qa Qb (Qa Qb (c.fx*size B)+Qa Qb (c.to.x*size A))) (Y:=Qa Qb (Qa Qb (c.fy*size B)+Qa Qb (c.to.y*size A))) (Z:=Qa Qb (Qa Qb (c.fz*size B)+Qa Qb (c.to.z*size A))) (D:=Qa Qb (size B+Qa Qb (c.to.d*size A))) (by rw [q _ _ x1 x4,px]) (by rw [q _ _ x2 x5,py]) (by rw [q _ _ x3 x6,pz]) qd
  rw [<-hcr] at k4 k5 k6 k7
  have hdv:PCall Tryz.prog 197 [.isl 1 (nl [Qa Qb (Qa Qb (c.fx*size B)+Qa Qb (c.to.x*size A)),Qa Qb (Qa Qb (c.fy*size B)+Qa Qb (c.to.y*size A)),Qa Qb (Qa Qb (c.fz*size B)+Qa Qb (c.to.z*size A)),Qa Qb (size B+Qa Qb (c.to.d*size A))])] ⟨I (g4 p:Int),[]⟩:=by
   rw [q _ _ x1 x4,q _ _ x2 x5,q _ _ x3 x6,qd,px,py,pz]
   have hwf:=hB.wf
   have hc:=c117 (ns:=[p.x,p.y,p.z,p.d]) (by simp) (by
    intro n hn
    simp only [Qz,List.not_mem_nil,or_false] at hn
    rcases hn with rfl|rfl|rfl|rfl
    ·exact hwf.x
    ·exact hwf.y
    ·exact hwf.z
    ·exact hwf.d)
   have hg:gl 0 [p.x,p.y,p.z,p.d]=g4 p:=by
    simp only [gl,Nat.gcd_zero_left]
    exact Zkq _ _ _ _
   rw [hg,W_eq (n:=((g4 p:Nat):Int)) (by omega) (by omega)] at hc
   exact hc
  have hw2:PCall Tryz.prog 198 [.agg (stgL h s),I c.su,P4 (Qa Qb ((Qa Qb (Qa Qb (c.fx*size B)+Qa Qb (c.to.x*size A))).tdiv (g4 p))) (Qa Qb ((Qa Qb (Qa Qb (c.fy*size B)+Qa Qb (c.to.y*size A))).tdiv (g4 p))) (Qa Qb ((Qa Qb (Qa Qb (c.fz*size B)+Qa Qb (c.to.z*size A))).tdiv (g4 p))) (Qa Qb ((Qa Qb (size B+Qa Qb (c.to.d*size A))).tdiv (g4 p)))] ⟨Bo wl,[]⟩:=by
   rw [k4,k5,k6,k7]; exact hwl
  rw [<-hA,<-hBb] at hw2 hdv
  have hk2:=Zd hw2 (Zd hdv hk0)
  clear hw2 hwl hk0 hdv q
  rw [<-hA,<-hBb] at k4 k5 k6 k7 hs2
  clear k1 k2 k3
  refine bs.pv (sx:=sxC) hk2 Tryz.func113 (by kernel_rfl) (by kernel_rfl) rfl ?_
  cases wl with
  | false =>
   rw [A1 rfl]
   repeat'(first|refine wk1 ?_|(refine wk2 ?_ ?_<;>intro _)|refine wk4 ?_|fail);all_goals(conv=>whnf)
   refine bs.sv (sx:=sxC) hk2 Tryz.func163 (by kernel_rfl) (by kernel_rfl) ?_
   refine Tt 3 ?_
   refine Rn (bs.av (sx:=sxC) hk2 ?_)
   repeat'(first|refine wk1 ?_|(refine wk2 ?_ ?_<;>intro _)|refine wk4 ?_|fail);all_goals(conv=>whnf)
   refine bs.sv (sx:=sxC) hk2 Tryz.func190 (by kernel_rfl) (by kernel_rfl) ?_
   repeat'(first|refine wk1 ?_|(refine wk2 ?_ ?_<;>intro _)|refine wk4 ?_|fail);all_goals(conv=>whnf)
   refine Rn (bs.av (sx:=sxC) hk2 ?_)
   repeat'(first|refine wk1 ?_|(refine wk2 ?_ ?_<;>intro _)|refine wk4 ?_|fail);all_goals(conv=>whnf)
   refine bs.sv (sx:=sxC) hk2 Tryz.func192 (by kernel_rfl) (by kernel_rfl) ?_
   repeat'(first|refine wk1 ?_|(refine wk2 ?_ ?_<;>intro _)|refine wk4 ?_|fail);all_goals(conv=>whnf)
   refine Rn (bs.av (sx:=sxC) hk2 ?_)
   repeat'(first|refine wk1 ?_|(refine wk2 ?_ ?_<;>intro _)|refine wk4 ?_|fail);all_goals(conv=>whnf)
   exact Zg rfl rfl
  | true =>
   by_cases hd:100000<Q.d
   ·rw [A2 rfl hd]
    repeat'(first|refine wk1 ?_|(refine wk2 ?_ ?_<;>intro _)|refine wk4 ?_|fail);all_goals(conv=>whnf)
    refine bs.sv (sx:=sxC) hk2 Tryz.func163 (by kernel_rfl) (by kernel_rfl) ?_
    refine Tt 3 ?_
    refine Rn (bs.av (sx:=sxC) hk2 ?_)
    repeat'(first|refine wk1 ?_|(refine wk2 ?_ ?_<;>intro _)|refine wk4 ?_|fail);all_goals(conv=>whnf)
    refine bs.sv (sx:=sxC) hk2 Tryz.func190 (by kernel_rfl) (by kernel_rfl) ?_
    repeat'(first|refine wk1 ?_|(refine wk2 ?_ ?_<;>intro _)|refine wk4 ?_|fail);all_goals(conv=>whnf)
    refine Rn (bs.av (sx:=sxC) hk2 ?_)
    repeat'(first|refine wk1 ?_|(refine wk2 ?_ ?_<;>intro _)|refine wk4 ?_|fail);all_goals(conv=>whnf)
    refine bs.sv (sx:=sxC) hk2 Tryz.func192 (by kernel_rfl) (by kernel_rfl) ?_
    repeat'(first|refine wk1 ?_|(refine wk2 ?_ ?_<;>intro _)|refine wk4 ?_|fail);all_goals(conv=>whnf)
    refine Rn (bs.av (sx:=sxC) hk2 ?_)
    repeat'(first|refine wk1 ?_|(refine wk2 ?_ ?_<;>intro _)|refine wk4 ?_|fail);all_goals(conv=>whnf)
    exact Zg rfl rfl
   ·rw [A3 rfl hd]
    repeat'(first|refine wk1 ?_|(refine wk2 ?_ ?_<;>intro _)|refine wk4 ?_|fail);all_goals(conv=>whnf)
    refine bs.sv (sx:=sxC) hk2 Tryz.func163 (by kernel_rfl) (by kernel_rfl) ?_
    refine Tt 3 ?_
    refine Rn (bs.av (sx:=sxC) hk2 ?_)
    repeat'(first|refine wk1 ?_|(refine wk2 ?_ ?_<;>intro _)|refine wk4 ?_|fail);all_goals(conv=>whnf)
    refine bs.sv (sx:=sxC) hk2 Tryz.func190 (by kernel_rfl) (by kernel_rfl) ?_
    repeat'(first|refine wk1 ?_|(refine wk2 ?_ ?_<;>intro _)|refine wk4 ?_|fail);all_goals(conv=>whnf)
    refine Rn (bs.av (sx:=sxC) hk2 ?_)
    repeat'(first|refine wk1 ?_|(refine wk2 ?_ ?_<;>intro _)|refine wk4 ?_|fail);all_goals(conv=>whnf)
    refine bs.sv (sx:=sxC) hk2 Tryz.func192 (by kernel_rfl) (by kernel_rfl) ?_
    repeat'(first|refine wk1 ?_|(refine wk2 ?_ ?_<;>intro _)|refine wk4 ?_|fail);all_goals(conv=>whnf)
    refine Rn (bs.av (sx:=sxC) hk2 ?_)
    repeat'(first|refine wk1 ?_|(refine wk2 ?_ ?_<;>intro _)|refine wk4 ?_|fail);all_goals(conv=>whnf)
    exact Zg (by rw [k4,k5,k6,k7]) rfl
theorem c40 {h:Hal} (hk:h.ok) {s:Stg} (hs:s.few) {c:Crs} (hw:c.to.wf):PCall Tryz.prog 113 [h.av,s.av,c.av] ⟨crAV (crsA h s c),[]⟩:=by
 unfold crsA
 by_cases he:crsE h s c=0
 ·rw [if_pos he]; exact c40o hk hs hw he
 ·rw [if_neg he]; exact c40e hk hs hw he
theorem Zx3 {h:Hal} {s:Stg} {c:Crs} (g:Sit h s) (hi:SK h c.su) (ho:CrOk (Zb h s c.su) c):Ul (Za1 h c.su) (Zb h s c.su) c=Ul (Za0 h c.su) (Zb h s c.su) c:=by
 by_cases hs:0<=sgn (crF (Zb h s c.su) c)*sgn (crG (Zb h s c.su) c)
 ·rw [Zd2 hs,Zd2 hs]
 ·have hb:=(Zb6 (Zax ho hs)).2.2.1
  have e:=Zzp g hi (p:=Xk (Zb h s c.su) c) hb.ok (Ze6 ho hs)
  unfold Ul
  rw [e]
end Go.Proofs.YtipbliclbihaeaaGreat
