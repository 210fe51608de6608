/- A part of the proof: lemmas. -/
import Derived.Test.YtipbliclbihaeaaGreatA14
import Derived.Test.YtipbliclbihaeaaGreatA11
import Derived.Test.YtipbliclbihaeaaGreatA12
import Derived.Test.YtipbliclbihaeaaGreatA8
import Derived.Test.YtipbliclbihaeaaGreatA7
import Derived.Test.YtipbliclbihaeaaGreatA10
set_option linter.unusedVariables false
set_option linter.unusedSimpArgs false
set_option maxRecDepth 100000
set_option maxHeartbeats 16000000
open Go.IntKind renaming i64->Qb,wrap->Qa
open Go.Proofs.YtipbliclbihaeaaGreat.Ask renaming av->Qba
open Go.Sx.AV.int renaming injEq->Sj
open Go.Sx.Done renaming mk->Qn
open Go.Sx.PCall renaming freeze->Mi
open List renaming append_assoc->Tc,append_nil->Ta,getElem_mem->Qt,length_append->Ry,length_eq_zero_iff->Wo,length_map->Se,map_append->We,mem_append->Su
open List.cons renaming inj->Of,injEq->Qv
open Nat renaming le_of_ble_eq_true->Qk,le_refl->Qf,mul_le_mul->Tz,zero_le->Qo
namespace Go.Proofs.YtipbliclbihaeaaGreat
open Go Go.Sx
structure AskOk (h:Hal) (s:Stg) (a:Ask):Prop where
 e0:serr h s=0
 f:Near 5000 (a.fx,a.fy,a.fz)
 t:Near 5000 (a.tx,a.ty,a.tz)
 fi:Zad h ⟨a.fx,a.fy,a.fz,1⟩=true
 ti:Zad h ⟨a.tx,a.ty,a.tz,1⟩=true
 ne:a.same=false
 n:0<=a.n/\a.n<=4
theorem Xh {h:Hal} {s:Stg} {a:Ask} (e:askE h s a=0):AskOk h s a:=by
 unfold askE at e
 split at e
 ·rename_i e0
  simp only [fstL] at e
  by_cases c1:plaE h a.fx a.fy a.fz=0
  rotate_left
  ·rw [if_pos (fun k=>c1 k)] at e; exact absurd e c1
  by_cases c2:plaE h a.tx a.ty a.tz=0
  rotate_left
  ·rw [if_neg (fun k=>k c1),if_pos (fun k=>c2 k)] at e; exact absurd e c2
  by_cases c3:unl (!a.same) 11=0
  rotate_left
  ·rw [if_neg (fun k=>k c1),if_neg (fun k=>k c2),if_pos (fun k=>c3 k)] at e; exact absurd e c3
  by_cases c4:unl (within a.n 0 4) 2=0
  rotate_left
  ·rw [if_neg (fun k=>k c1),if_neg (fun k=>k c2),if_neg (fun k=>k c3),if_pos (fun k=>c4 k)] at e; exact absurd e c4
  refine ⟨e0,(Zfh c1).1,(Zfh c2).1,(Zfh c1).2,(Zfh c2).2,?_,?_⟩
  ·cases hs:a.same with
   | false=>rfl
   | true=>rw [hs] at c3; cases c3
  ·cases hw:within a.n 0 4 with
   | true=>exact within_iff.1 hw
   | false=>rw [hw] at c4; cases c4
 ·rename_i e0; exact absurd e e0
abbrev qF (a:Ask):Pl3:=(a.fx,a.fy,a.fz)
abbrev qT (a:Ask):Pl3:=(a.tx,a.ty,a.tz)
def pofV (h:Hal) (s:Stg) (a:Ask) (ns:List Int):Option Pth × Int:=if askE h s a=0 then (if suE h ns=0 then (match Uh h s (qF a) (qT a) ns with
 | none=>(none,12)
 | some p=>(some p,0)) else (none,suE h ns)) else (none,askE h s a)
def rawO:Option Pth->AV
 | none=>.agg [.nils,.nils,I 0]
 | some p=>p.av
theorem d65a {h:Hal} (hk:h.ok) {s:Stg} (hs:s.few) {a:Ask} (e:askE h s a=0) {ns:List Int} (e2:suE h ns=0):PCall Tryz.prog 63 [.agg (stgL h s),a.av,.isl 1 (nl ns)] ⟨rawP (Uh h s (qF a) (qT a) ns),[]⟩ :=
 d65 hk hs (Xh e).e0 a (Xh e).f (Xh e).t (Zhn e2).1 (Zhn e2).2
theorem d21a {h:Hal} (hk:h.ok) {s:Stg} (hs:s.few) {a:Ask} (e:askE h s a=0) {ns:List Int} (e2:suE h ns=0):PCall Tryz.prog 36 [h.av,s.av,a.av,.isl 1 (nl ns)] ⟨ansP (Uh h s (qF a) (qT a) ns),[]⟩ :=
 d21p (Zfd hk hs (Xh e).e0) (Xh e).e0 a (Xh e).f (Xh e).t (Zhn e2).1 (Zhn e2).2
theorem d14 {h:Hal} (hk:h.ok) {s:Stg} (hs:s.few) (a:Ask) {ns:List Int} (hl:ns.length<1000):PCall Tryz.prog 27 [h.av,s.av,a.av,.isl 1 (nl ns)] ⟨.tup [rawO (pofV h s a ns).1,I (pofV h s a ns).2],[]⟩:=by
 have ha:=d24 hk hs a
 have hp:=fun e e2=>d65a (a:=a) (ns:=ns) hk hs e e2
 obtain ⟨fx,fy,fz,tx,ty,tz,n⟩:=a
 unfold pofV
 by_cases e:askE h s ⟨fx,fy,fz,tx,ty,tz,n⟩=0
 rotate_left
 ·rw [if_neg e]
  have hk0:=Zbd ha Zh
  have o1:=Uo [h.av,s.av,Qba ⟨fx,fy,fz,tx,ty,tz,n⟩] ⟨I (askE h s ⟨fx,fy,fz,tx,ty,tz,n⟩),[]⟩
  generalize askE h s ⟨fx,fy,fz,tx,ty,tz,n⟩=E at *
  refine bs.pv (sx:=nos) hk0 Tryz.func27 (by kernel_rfl) (by kernel_rfl) rfl ?_
  repeat'(first|refine wk3 ?_|(refine wk2 ?_ ?_<;>intro _)|refine wk4 ?_|fail);all_goals(conv=>whnf)
  all_goals first
   | exact Zg rfl rfl
   | (exfalso; simp_all; done)
 have e0:=(Xh e).e0
 have hw:=d165 hk (Zfe e0) ns hl
 rw [if_pos e]
 rw [e] at ha
 by_cases e2:suE h ns=0
 rotate_left
 ·rw [if_neg e2]
  have hk0:=Zbd ha (Zbd hw Zh)
  have o1:=Uo [h.av,s.av,Qba ⟨fx,fy,fz,tx,ty,tz,n⟩] ⟨I 0,[]⟩
  have o2:=Uo [h.av,.isl 1 (nl ns)] ⟨I (suE h ns),[]⟩
  generalize suE h ns=E at *
  refine bs.pv (sx:=nos) hk0 Tryz.func27 (by kernel_rfl) (by kernel_rfl) rfl ?_
  repeat'(first|refine wk3 ?_|(refine wk2 ?_ ?_<;>intro _)|refine wk4 ?_|fail);all_goals(conv=>whnf)
  all_goals first
   | exact Zg rfl rfl
   | (exfalso; clear hk0 o1 o2; simp_all; done)
 rw [if_pos e2]
 have hp:=hp e e2
 rw [e2] at hw
 have hk0:=Zbd ha (Zbd hw (Zbd hp Zh))
 have o1:=Uo [h.av,s.av,Qba ⟨fx,fy,fz,tx,ty,tz,n⟩] ⟨I 0,[]⟩
 have o2:=Uo [h.av,.isl 1 (nl ns)] ⟨I 0,[]⟩
 generalize Uh h s (qF ⟨fx,fy,fz,tx,ty,tz,n⟩) (qT ⟨fx,fy,fz,tx,ty,tz,n⟩) ns=R at *
 have o3:=Uo [.agg (stgL h s),Qba ⟨fx,fy,fz,tx,ty,tz,n⟩,.isl 1 (nl ns)] ⟨rawP R,[]⟩
 cases R with
 | none =>
  refine bs.pv (sx:=nos) hk0 Tryz.func27 (by kernel_rfl) (by kernel_rfl) rfl ?_
  repeat'(first|refine wk3 ?_|(refine wk2 ?_ ?_<;>intro _)|refine wk4 ?_|fail);all_goals(conv=>whnf)
  all_goals exact Zg rfl rfl
 | some p =>
  obtain ⟨ss,ps,sq⟩:=p
  refine bs.pv (sx:=nos) hk0 Tryz.func27 (by kernel_rfl) (by kernel_rfl) rfl ?_
  repeat'(first|refine wk3 ?_|(refine wk2 ?_ ?_<;>intro _)|refine wk4 ?_|fail);all_goals(conv=>whnf)
  all_goals exact Zg rfl rfl
theorem Zw4 (o:Option Pth) (n:Int):Frz [] (.tup [rawO o,I n]) (.tup [(o.getD zPth).av,I n]):=by
 cases o with
 | none=>exact ⟨⟨rfl,rfl,⟨rfl,rfl⟩,trivial⟩,⟨rfl,rfl⟩,trivial⟩
 | some p=>exact ⟨⟨⟨rfl,rfl⟩,⟨rfl,rfl⟩,⟨rfl,rfl⟩,trivial⟩,⟨rfl,rfl⟩,trivial⟩
theorem d14f {h:Hal} (hk:h.ok) {s:Stg} (hs:s.few) (a:Ask) {ns:List Int} (hl:ns.length<1000):PCall Tryz.prog 27 [h.av,s.av,a.av,.isl 1 (nl ns)] ⟨.tup [((pofV h s a ns).1.getD zPth).av,I (pofV h s a ns).2],[]⟩:=(d14 hk hs a hl).freeze (Zw4 _ _)
def cmb (p q:Pt) (u v:Int):Pt:=⟨p.x*u+q.x*v,p.y*u+q.y*v,p.z*u+q.z*v,p.d*u+q.d*v⟩
def scl (p:Pt) (w:Int):Pt:=⟨p.x*w,p.y*w,p.z*w,p.d*w⟩
def vl (pl:Int × Int) (p:Pt):Int:=valN pl.1 p.x p.y p.z-pl.2*p.d
theorem Ycd {p q:Pt} (h1:p.x=q.x) (h2:p.y=q.y) (h3:p.z=q.z) (h4:p.d=q.d):p=q:=by
 obtain ⟨a,b,c,d⟩:=p
 obtain ⟨x,y,z,w⟩:=q
 dsimp only at *
 subst h1 h2 h3 h4
 rfl
theorem Zx1 (n:Int) (f:Pl3) (to:Pt) (u v:Int):crPt ⟨n,f.1,f.2.1,f.2.2,to⟩ u v=cmb (pnt f) to u v:=by
 unfold crPt cmb pnt
 dsimp only
 rw [Int.one_mul]
theorem Ydl (pl:Int × Int) (n:Int) (f:Pl3) (to:Pt):crF pl ⟨n,f.1,f.2.1,f.2.2,to⟩=vl pl (pnt f):=by
 unfold crF vl pnt
 dsimp only
 rw [Int.mul_one]
theorem Ydk (pl:Int × Int) (n:Int) (f:Pl3) (to:Pt):crG pl ⟨n,f.1,f.2.1,f.2.2,to⟩=vl pl to:=rfl
structure Xing (h:Hal) (n:Int) (pl:Int × Int) (f to P:Pt):Prop where
 err:Yu P=0
 on:vl pl P=0
 well:Za0 h n P=true
 ends:vl pl f≠0/\vl pl to≠0
 btw:∃ u v w,0<u/\0<v/\0<w/\cmb f to u v=scl P w
theorem Zvg {h:Hal} {s:Stg} (g:Sit h s) (e0:serr h s=0) {n:Int} (hn:0<=n/\n<nsur h) {f:Pl3} (hf:Near 45000 f) {to:Pt} (hto:Yu to=0) (hz:(crsA h s ⟨n,f.1,f.2.1,f.2.2,to⟩).2=0) :
  Xing h n (Zb h s n) (pnt f) to (crsA h s ⟨n,f.1,f.2.1,f.2.2,to⟩).1:=by
 obtain ⟨ho,hi,hA,hX⟩:=Zn0 g e0 hn hf hto
 obtain ⟨x1,x2⟩:=hX hz
 rw [hA] at hz x1 x2 ⊢
 unfold Ul at hz x1 x2 ⊢
 split at hz
 ·cases hz
 ·rename_i hs
  split at hz
  ·rename_i hw
   split at hz
   ·cases hz
   ·rename_i hd
    rw [if_neg hs,if_pos hw,if_neg hd] at x1 x2 ⊢
    dsimp only at x1 x2 ⊢
    obtain ⟨⟨a1,a2⟩,b1,b2⟩:=Zjy ho hs
    obtain ⟨⟨g1,_⟩,_,_,r1,r2,r3,r4⟩:=Zb6 (Zax ho hs)
    have h3:=sgn_mul_neg.1 (show sgn (crF (Zb h s n) ⟨n,f.1,f.2.1,f.2.2,to⟩)*sgn (crG (Zb h s n) ⟨n,f.1,f.2.1,f.2.2,to⟩)<0 by omega)
    rw [Ydl,Ydk] at h3
    refine ⟨x1,by unfold vl; omega,hw,by omega,_,_,_,a1,b1,g1,?_⟩
    rw [<-Zx1 n]
    exact (Ycd r1 r2 r3 r4).symm
  ·cases hz
theorem Ztp {h:Hal} {s:Stg} {q0 q1:Pl3} {ns:List Int} {p:Pth} (e:Uh h s q0 q1 ns=some p):∃ P,goP (fP h s) (lkG (im1 h s) q0 ns).reverse (pnt q1) []=some P/\chkW (wP h s) (pnt q0::P++[pnt q1])=true/\p=⟨ns,P.map tup4,sqV (imA (im1 h s) q0 ns ns.length).1 (imA (im1 h s) q0 ns ns.length).2.1 (imA (im1 h s) q0 ns ns.length).2.2 q1.1 q1.2.1 q1.2.2⟩:=by
 rw [Zlc] at e
 split at e
 ·cases e
 ·rename_i P hP
  split at e
  ·rename_i hc
   cases e
   exact ⟨P,hP,hc,rfl⟩
  ·cases e
theorem Ya2 {h:Hal} {s:Stg} (g:Sit h s) (e0:serr h s=0) {q0 q1:Pl3} (hf:Near 5000 q0) (ht:Near 5000 q1) {i j:Int} (hi:0<=i/\i<nsur h) (hj:0<=j/\j<nsur h) {p:Pth} (hp:Uh h s q0 q1 [i,j,i,j]=some p):Zb h s i≠Zb h s j:=by
 intro hpl
 have hsi:=Zgj hi.1 hi.2
 have hsj:=Zgj hj.1 hj.2
 have a1:=(Zdy g hsi (m:=5000) (by omega) hf).1
 have a2:=(Zdy g hsj (by omega) a1).1
 have a3:=(Zdy g hsi (by omega) a2).1
 have a4:=(Zdy g hsj (by omega) a3).1
 obtain ⟨P,hP,_,_⟩:=Ztp hp
 have hP:goP (fP h s) [(j,im1 h s j (im1 h s i (im1 h s j (im1 h s i q0)))),(i,im1 h s i (im1 h s j (im1 h s i q0))),(j,im1 h s j (im1 h s i q0)),(i,im1 h s i q0)] (pnt q1) []=some P:=hP
 generalize im1 h s j (im1 h s i q0)=r2 at *
 generalize im1 h s i r2=r3 at *
 generalize im1 h s j r3=r4 at *
 rw [goP] at hP
 split at hP
 ·rename_i hz
  have hz:(crsA h s ⟨j,r4.1,r4.2.1,r4.2.2,pnt q1⟩).2=0:=hz
  have X:=Zvg g e0 hj (Zin (by omega) a4) (Zii ht) hz
  change goP (fP h s) _ (crsA h s ⟨j,r4.1,r4.2.1,r4.2.2,pnt q1⟩).1 _=_ at hP
  generalize (crsA h s ⟨j,r4.1,r4.2.1,r4.2.2,pnt q1⟩).1=A at *
  rw [goP] at hP
  split at hP
  ·rename_i hz2
   have hz2:(crsA h s ⟨i,r3.1,r3.2.1,r3.2.2,A⟩).2=0:=hz2
   have Y:=Zvg g e0 hi (Zin (by omega) a3) X.err hz2
   have:=Y.ends.2
   rw [hpl] at this
   exact this X.on
  ·cases hP
 ·cases hP
def sqF (p q:Int × Int):Int:=(if p.1=3\/p.1=4 then 2 else 4)*((p.2-q.2)*(p.2-q.2))
def flR (h:Hal) (s:Stg) (q0 q1:Pl3) (i j:Nat):List (Int × Int × Int) :=
 if (Zb h s i).1=(Zb h s j).1/\(Uh h s q0 q1 [(i:Int),j,i,j]).isSome=true then [((i:Int),(j:Int),sqF (Zb h s i) (Zb h s j))] else []
def flI (h:Hal) (s:Stg) (q0 q1:Pl3) (i:Nat):Nat->List (Int × Int × Int)
 | 0=>[]
 | k+1=>flI h s q0 q1 i k++(if i<k then flR h s q0 q1 i k else [])
def flA (h:Hal) (s:Stg) (q0 q1:Pl3):Nat->List (Int × Int × Int)
 | 0=>[]
 | k+1=>flA h s q0 q1 k++flI h s q0 q1 k (nsN h)
theorem Zfs (h:Hal) (s:Stg) (q0 q1:Pl3) (i:Nat):∀ k,k<=i+1->flI h s q0 q1 i k=[]
 | 0,_=>rfl
 | k+1,hk=>by rw [flI,Zfs h s q0 q1 i k (by omega),if_neg (by omega)]; rfl
theorem Ya9 (h:Hal) (s:Stg) (q0 q1:Pl3) (i j:Nat):(flR h s q0 q1 i j).length<=1:=by unfold flR; split<;>simp
theorem Zlo (h:Hal) (s:Stg) (q0 q1:Pl3) (i:Nat):∀ k,(flI h s q0 q1 i k).length<=k
 | 0=>Qf _
 | k+1=>by
  rw [flI,Ry]
  have:=Zlo h s q0 q1 i k
  have:=Ya9 h s q0 q1 i k
  split
  ·omega
  ·simp; omega
theorem Zi5 (h:Hal) (s:Stg) (q0 q1:Pl3):∀ k,(flA h s q0 q1 k).length<=k*nsN h
 | 0=>Qo _
 | k+1=>by
  rw [flA,Ry,Nat.succ_mul]
  have:=Zi5 h s q0 q1 k
  have:=Zlo h s q0 q1 k (nsN h)
  omega
theorem Zh8 {p q k:Int} (hp : -20000<=p/\p<=20000) (hq : -20000<=q/\q<=20000) (hk:k=2\/k=4):Qa Qb (Qa Qb (k*Qa Qb (p-q))*Qa Qb (p-q))=k*((p-q)*(p-q)):=by
 have m1:=Zl (a:=p-q) (b:=p-q) (A:=40000) (B:=40000) (by omega) (by omega)
 rcases hk with rfl|rfl
 ·rw [W_eq (n:=p-q) (by omega) (by omega),W_eq (n:=2*(p-q)) (by omega) (by omega),show 2*(p-q)*(p-q)=2*((p-q)*(p-q)) by grind,W_eq (by omega) (by omega)]
 ·rw [W_eq (n:=p-q) (by omega) (by omega),W_eq (n:=4*(p-q)) (by omega) (by omega),show 4*(p-q)*(p-q)=4*((p-q)*(p-q)) by grind,W_eq (by omega) (by omega)]
theorem Zta {p q:Int} (hp : -20000<=p/\p<=20000) (hq : -20000<=q/\q<=20000):Qa Qb ((Qa Qb (Qa Qb (4*Qa Qb (p-q))*Qa Qb (p-q))).tdiv 2)=2*((p-q)*(p-q)):=by
 rw [Zh8 hp hq (.inr rfl)]
 have m1:=Zl (a:=p-q) (b:=p-q) (A:=40000) (B:=40000) (by omega) (by omega)
 have e:(4*((p-q)*(p-q))).tdiv 2=2*((p-q)*(p-q)):=by
  rw [show 4*((p-q)*(p-q))=2*((p-q)*(p-q))*2 by grind]
  exact Int.mul_tdiv_cancel _ (by omega)
 rw [e,W_eq (by omega) (by omega)]
theorem Yce {h:Hal} {s:Stg} (g:Sit h s) {i:Int} (hi:SK h i):(0<=(Zb h s i).1/\(Zb h s i).1<=4) /\ -20000<=(Zb h s i).2/\(Zb h s i).2<=20000:=by
 obtain ⟨b1,b2⟩:=Zdt g hi
 exact ⟨b1,by omega⟩
theorem suE4 {h:Hal} {i j:Int} (hi:0<=i/\i<nsur h) (hj:0<=j/\j<nsur h) (hne:i≠j):suE h [i,j,i,j]=0:=by
 have w1:within i 0 (nsur h-1)=true:=within_iff.2 (by omega)
 have w2:within j 0 (nsur h-1)=true:=within_iff.2 (by omega)
 unfold suE
 rw [if_neg (by simp)]
 simp [wkG,w1,w2,hne,Ne.symm hne]
abbrev fl3 (q:Int × Int × Int):List AV:=[I q.1,I q.2.1,I q.2.2]
abbrev plC (h:Hal) (s:Stg) (i:Nat):List AV:=[I (Zb h s (i:Int)).1,I (Zb h s (i:Int)).2]
noncomputable abbrev rPo (h:Hal) (s:Stg) (a:Ask):List AV->Option PRes:=famA (fun ns:List Int=>ns.length<1000) (fun ns=>[h.av,s.av,a.av,.isl 1 (nl ns)]) (fun ns=>⟨.tup [((pofV h s a ns).1.getD zPth).av,I (pofV h s a ns).2],[]⟩)
theorem Zz6 {h:Hal} {s:Stg} {a:Ask} {ns:List Int} (hl:ns.length<1000):rPo h s a [h.av,s.av,a.av,.isl 1 (nl ns)]=some ⟨.tup [((pofV h s a ns).1.getD zPth).av,I (pofV h s a ns).2],[]⟩ :=
 Zq (p:=fun ns:List Int=>ns.length<1000) (g:=fun ns=>[h.av,s.av,a.av,.isl 1 (nl ns)]) (r:=fun ns=>⟨.tup [((pofV h s a ns).1.getD zPth).av,I (pofV h s a ns).2],[]⟩) (k:=ns) (fun j hj=>by
  rw [Ztz (AV.isl.inj (Of (Of (Of (Of hj).2).2).2).1).2]) hl
noncomputable abbrev rRp:List AV->Option PRes:=famA (fun _:Int × Int=>True) (fun q=>[.isl 1 [[I q.1],[I q.2]],I 2]) (fun q=>⟨.isl 1 (nl [q.1,q.2,q.1,q.2]),[]⟩)
theorem Ztl (i j:Int):rRp [.isl 1 [[I i],[I j]],I 2]=some ⟨.isl 1 (nl [i,j,i,j]),[]⟩ :=
 Zq (p:=fun _:Int × Int=>True) (g:=fun q=>[.isl 1 [[I q.1],[I q.2]],I 2]) (r:=fun q=>⟨.isl 1 (nl [q.1,q.2,q.1,q.2]),[]⟩) (k:=(i,j)) (fun q hq=>by
  simp only [Qv,AV.isl.injEq,Sj,true_and,and_true] at hq
  rw [hq.1,hq.2]) trivial
theorem frT3 {bl:List (Nat × List (List AV))} {e:Int}:Frz bl (.tup [.nils,I e]) (.tup [.isl 3 [],I e]):=⟨rfl,⟨rfl,rfl⟩,trivial⟩
structure OutF (acc:List (Int × Int × Int)) (m len:Nat) (els:List (List AV)):Prop where
 m:m=acc.length
 len:len=els.length
 els:els=acc.map fl3
structure OutP (h:Hal) (s:Stg) (k len:Nat) (els:List (List AV)):Prop where
 len:len=els.length
 els:els=(List.range k).map (plC h s)
theorem e6 {h:Hal} (hk:h.ok) {s:Stg} (hs:s.few) (a:Ask):PCall Tryz.prog 6 [h.av,s.av,a.av] ⟨.tup [.isl 3 (if askE h s a=0 then (flA h s (qF a) (qT a) (nsN h)).map fl3 else []),I (askE h s a)],[]⟩:=by
 have c24:=d24 hk hs a
 by_cases he:askE h s a=0
 rotate_left
 ·rw [if_neg he]
  have hk0:=Zd c24 Zh
  generalize askE h s a=E at *
  refine Mi (res:=⟨.tup [.nils,I E],[]⟩) ?_ frT3
  refine bs.pv (sx:=nos) hk0 Tryz.func6 (by kernel_rfl) (by kernel_rfl) rfl ?_
  repeat'(first|refine wk3 ?_|(refine wk2 ?_ ?_<;>intro _)|refine wk4 ?_|fail);all_goals(conv=>whnf)
  all_goals first|exact Zg rfl rfl|(exfalso; simp_all; done)
 rw [if_pos he]
 have A:=Xh he
 have e0:=A.e0
 have g:=Zfd hk hs e0
 have herr:=Zfe e0
 have c25:=c64 hk
 rw [herr,if_pos rfl] at c25
 have hsl:=Zp2 h
 have hn18:nsN h<=18:=by have:=g.fine.le; unfold nsN; omega
 have hn2:2<=nsN h:=by unfold nsN; omega
 have hRf:∀ i j:Nat,i<j->j<nsN h->((pofV h s a [(i:Int),j,i,j]).2=if (Uh h s (qF a) (qT a) [(i:Int),j,i,j]).isSome=true then 0 else 12):=fun i j hij hj=>by
  have hns:=Zim h
  unfold pofV
  rw [if_pos he,if_pos (suE4 (by omega) (by omega) (by omega))]
  cases Uh h s (qF a) (qT a) [(i:Int),j,i,j]<;>rfl
 have hpb:=fun i (hi:i<nsN h)=>Yce g (Zgj (h:=h) (i:=(i:Int)) (by omega) (by have:=Zim h; omega))
 have hfl:=Zi5 h s (qF a) (qT a)
 have hfi:=Zlo h s (qF a) (qT a)
 rw [he] at c24
 have hkA:=Zd c24 (Zd c25 (Zyr hk hs e0 (Zu (f0:=27) (p:=fun ns:List Int=>ns.length<1000) (g:=fun ns=>[h.av,s.av,a.av,.isl 1 (nl ns)]) (r:=fun ns=>⟨.tup [((pofV h s a ns).1.getD zPth).av,I (pofV h s a ns).2],[]⟩) (fun ns hl=>d14f hk hs a hl) (Zu (f0:=28) (p:=fun _:Int × Int=>True) (g:=fun q=>[.isl 1 [[I q.1],[I q.2]],I 2]) (r:=fun q=>⟨.isl 1 (nl [q.1,q.2,q.1,q.2]),[]⟩) (fun q _=>e28f q.1 q.2) Zh))))
 have hpo:=fun ns hl=>Zz6 (h:=h) (s:=s) (a:=a) (ns:=ns) hl
 have hplT:=fun (i:Int) hi=>Ztm (h:=h) (s:=s) (i:=i) hi
 have hnsu:=Zim h
 obtain ⟨fx,fy,fz,tx,ty,tz,n⟩:=a
 generalize qF ⟨fx,fy,fz,tx,ty,tz,n⟩=q0 at *
 generalize qT ⟨fx,fy,fz,tx,ty,tz,n⟩=q1 at *
 generalize hR:flA h s q0 q1 (nsN h)=R
 refine Mi (res:=if R=[] then ⟨.tup [.nils,I 0],[]⟩ else ⟨.tup [.asl 0 0 R.length,I 0],[(3,R.map fl3)]⟩) ?_ ?_
 rotate_left
 ·split<;>rename_i hre
  ·rw [hre,he]; exact frT3
  ·rw [he]; exact ⟨⟨rfl,rfl,by simp⟩,⟨rfl,rfl⟩,trivial⟩
 refine bs.pv (sx:=nos) hkA Tryz.func6 (by kernel_rfl) (by kernel_rfl) (by split<;>rfl) ?_
 repeat'(first|refine wk3 ?_|(refine wk2 ?_ ?_<;>intro _)|refine wk4 ?_|fail);all_goals(conv=>whnf)
 refine Ziv (S:=Nat × Int × Nat × List (List AV)) (fun t=>nsN h-t.1)
  (fun t=>[(3,.ptr 0 0 0),(4,.ptr 1 0 0),(5,.ptr 2 0 0),(6,.nils),(7,I 0),(11,gv 20 t.1 t.2.2.1),(36,I (sl (surf h)).length),(37,I t.2.1)])
  (fun t=>(2,.row 7 [[I fx,I fy,I fz,I tx,I ty,I tz,I n]] true false)::(1,.row 2 [s.cells] true false)::(0,.row 9 [h.cells] true false)::gz 20 2 t.1 t.2.2.2 []) 20 21
  (fun t=>t.2.1=t.1/\t.1<=nsN h/\OutP h s t.1 t.2.2.1 t.2.2.2)
  (0,0,0,[]) ⟨rfl,Qo _,⟨rfl,rfl⟩⟩ (Qk rfl) [] rfl (kps) (kps) ?_
 rintro ⟨k,ik,len,els⟩ ⟨hik,hkn,hO⟩
 dsimp only at hik hkn hO ⊢
 subst hik
 have hel:els.length=k:=by rw [hO.els,Se,List.length_range]
 have hlen:=hO.len
 by_cases hlt:k<nsN h
 ·have c1:=hplT k (by omega)
  cases k with
  | zero =>
   refine bs.av (sx:=nos) hkA ?_
   repeat'(first|refine wk3 ?_|(refine wk2 ?_ ?_<;>intro _)|refine wk4 ?_|fail);all_goals(conv=>whnf)
   exact Qn ⟨(1,_,1,[plC h s 0]),[(20,23)],rfl,kps,kps,⟨Zf (by omega),hlt,⟨rfl,rfl⟩⟩,by dsimp only; omega⟩
  | succ k0 =>
   have hO' : OutP h s (k0+1+1) (els.length+1) (els++[plC h s (k0+1)]):=⟨by simp,by rw [List.range_succ (n:=k0+1),We,<-hO.els]; rfl⟩
   refine bs.av (sx:=nos) hkA ?_
   repeat'(first|refine wk3 ?_|(refine wk2 ?_ ?_<;>intro _)|refine wk4 ?_|fail);all_goals(conv=>whnf)
   exact Qn ⟨(k0+1+1,_,els.length+1,els++[plC h s (k0+1)]),[(20,23)],rfl,kps,kps,⟨Zf (by omega),hlt,hO'⟩,by dsimp only; omega⟩
 ·obtain rfl:k=nsN h:=by omega
  obtain ⟨k0,hk0⟩:∃ k0,nsN h=k0+1:=⟨nsN h-1,by omega⟩
  have hpe:=hO.els
  clear hO
  rw [hk0] at hkn ⊢
  refine bs.av (sx:=nos) hkA ?_
  repeat'(first|refine wk3 ?_|(refine wk2 ?_ ?_<;>intro _)|refine wk4 ?_|fail);all_goals(conv=>whnf)
  refine Ziv (S:=Nat × Int × Nat × Nat × List (List AV)) (fun t=>nsN h-t.1)
   (fun t=>[(3,.ptr 0 0 0),(4,.ptr 1 0 0),(5,.ptr 2 0 0),(6,.nils),(7,I 0),(11,.asl 20 0 len),(15,gv 21 t.2.2.1 t.2.2.2.1),(52,.asl 20 0 len),(53,I (len:Int)),(54,I t.2.1)])
   (fun t=>(20,.row 2 els true true)::(2,.row 7 [[I fx,I fy,I fz,I tx,I ty,I tz,I n]] true false)::(1,.row 2 [s.cells] true false)::(0,.row 9 [h.cells] true false)::gz 21 3 t.2.2.1 t.2.2.2.2 []) 21 22
   (fun t=>t.2.1=t.1/\t.1<=nsN h/\OutF (flA h s q0 q1 t.1) t.2.2.1 t.2.2.2.1 t.2.2.2.2)
   (0,0,0,0,[]) ⟨rfl,Qo _,⟨rfl,rfl,rfl⟩⟩ (Qk rfl) [] rfl (kps) (kps) ?_
  rintro ⟨i,ii,m,len2,els2⟩ ⟨hii,hin,hO⟩
  dsimp only at hii hin hO ⊢
  subst hii
  have hgetE:∀ i,i<nsN h->els[0+((i:Nat):Int).toNat]?=some (plC h s i):=fun i hi=>by rw [hpe]; simp [hi]
  have hgetE2:∀ i,i<nsN h->els[((i:Nat):Int).toNat]?=some (plC h s i):=fun i hi=>by rw [hpe]; simp [hi]
  by_cases hlt:i<nsN h
  rotate_left
  ·obtain rfl:i=nsN h:=by omega
   have hRm:R=flA h s q0 q1 (nsN h):=hR.symm
   rw [<-hRm] at hO
   obtain ⟨o1,o2,o3⟩:=hO
   cases m with
   | zero =>
    have hz:R=[]:=Wo.1 o1.symm
    rw [if_pos hz]
    refine bs.av (sx:=nos) hkA ?_
    repeat'(first|refine wk3 ?_|(refine wk2 ?_ ?_<;>intro _)|refine wk4 ?_|fail);all_goals(conv=>whnf)
    exact Zg rfl rfl
   | succ m0 =>
    rw [if_neg (by intro hz; rw [hz] at o1; cases o1)]
    rw [o3,Se] at o2
    subst o2 o3
    refine bs.av (sx:=nos) hkA ?_
    repeat'(first|refine wk3 ?_|(refine wk2 ?_ ?_<;>intro _)|refine wk4 ?_|fail);all_goals(conv=>whnf)
    exact Yp [21] rfl rfl rfl
  have e1:=hgetE i hlt
  have e2:=hgetE2 i hlt
  have hmb:els2.length<=324:=by
   rw [hO.els,Se]
   have h1:=hfl i
   have h2:i*nsN h<=18*18:=Tz (by omega) hn18
   omega
  cases m with
  | zero =>
   refine bs.av (sx:=nos) hkA ?_
   repeat'(first|refine wk3 ?_|(refine wk2 ?_ ?_<;>intro _)|refine wk4 ?_|fail);all_goals(conv=>whnf)
   refine Ziv (S:=Nat × Int × Nat × Nat × List (List AV)) (fun t=>nsN h-t.1)
    (fun t=>[(3,.ptr 0 0 0),(4,.ptr 1 0 0),(5,.ptr 2 0 0),(6,.nils),(7,I 0),(11,.asl 20 0 len),(15,gv 23 t.2.2.1 t.2.2.2.1),(16,I (i:Int)),(17,.ptr 22 0 0),(18,I t.2.1),(52,.asl 20 0 len),(53,I (len:Int)),(54,I (i:Int))])
    (fun t=>(22,.row 2 [plC h s i] true false)::(20,.row 2 els true true)::(2,.row 7 [[I fx,I fy,I fz,I tx,I ty,I tz,I n]] true false)::(1,.row 2 [s.cells] true false)::(0,.row 9 [h.cells] true false)::gz 23 3 t.2.2.1 t.2.2.2.2 []) 23 24
    (fun t=>t.2.1=t.1/\i<t.1/\t.1<=nsN h/\OutF (flA h s q0 q1 i++flI h s q0 q1 i t.1) t.2.2.1 t.2.2.2.1 t.2.2.2.2)
    (i+1,_,0,len2,els2) ⟨Zf (by omega),by dsimp only; omega,hlt,by rw [Zfs h s q0 q1 i _ (Qf _),Ta]; exact hO⟩ (Qk rfl) [] rfl (kps) (kps) ?_
   rintro ⟨j,ij,m2,len3,els3⟩ ⟨hij,hij1,hjn,hO3⟩
   dsimp only at hij hij1 hjn hO3 ⊢
   subst hij
   have hmb3:els3.length<=400:=by
    rw [hO3.els,Se,Ry]
    have h1:=hfl i
    have h2:i*nsN h<=18*18:=Tz (by omega) hn18
    have h3:=hfi i j
    omega
   have hlen3:=hO3.len
   by_cases hjl:j<nsN h
   rotate_left
   ·obtain rfl:j=nsN h:=by omega
    have hO3:OutF (flA h s q0 q1 (i+1)) m2 len3 els3:=hO3
    cases m2<;>refine bs.av (sx:=nos) hkA ?_<;>repeat'(first|refine wk3 ?_|(refine wk2 ?_ ?_<;>intro _)|refine wk4 ?_|fail);all_goals(conv=>whnf)
    ·exact Qn ⟨(i+1,_,0,len3,els3),[],rfl,kps,kps,⟨Zf (by omega),hlt,hO3⟩,by dsimp only; omega⟩
    ·exact Qn ⟨(i+1,_,_+1,len3,els3),[(21,23)],rfl,kps,kps,⟨Zf (by omega),hlt,hO3⟩,by dsimp only; omega⟩
   have e3:=hgetE j hjl
   have e4:=hgetE2 j hjl
   have hst:flI h s q0 q1 i (j+1)=flI h s q0 q1 i j++flR h s q0 q1 i j:=by rw [flI,if_pos hij1]
   have hsame:flR h s q0 q1 i j=[]->OutF (flA h s q0 q1 i++flI h s q0 q1 i (j+1)) m2 len3 els3:=fun hz=>by rw [hst,hz,Ta]; exact hO3
   have c5:=hRf i j hij1 hjl
   have c6:=hpo [(i:Int),j,i,j] (by simp)
   have c7:=Ztl i j
   have b1:=hpb i hlt
   have b2:=hpb j hjl
   rw [c5] at c6
   have hfr:flR h s q0 q1 i j=if (Zb h s i).1=(Zb h s j).1/\(Uh h s q0 q1 [(i:Int),j,i,j]).isSome=true then [((i:Int),(j:Int),sqF (Zb h s i) (Zb h s j))] else []:=rfl
   generalize (pofV h s ⟨fx,fy,fz,tx,ty,tz,n⟩ [(i:Int),j,i,j]).1.getD zPth=pz at *
   generalize (Uh h s q0 q1 [(i:Int),j,i,j]).isSome=pb at *
   have r4:=Zh8 b1.2 b2.2 (.inr rfl:(4:Int)=2\/(4:Int)=4)
   have r2:=Zta b1.2 b2.2
   unfold sqF at hfr
   obtain ⟨z1,z2,z3⟩:=pz
   clear hgetE hgetE2 hplT hpo hRf hfl hfi
   by_cases hkd:(Zb h s i).1=(Zb h s j).1
   rotate_left
   ·rw [if_neg (fun q=>hkd q.1)] at hfr
    have hO4:=hsame hfr
    cases m2<;>refine bs.av (sx:=nos) hkA ?_<;>repeat'(first|refine wk3 ?_|(refine wk2 ?_ ?_<;>intro _)|refine wk4 ?_|fail);all_goals(conv=>whnf)
    all_goals first|(exfalso; simp_all; done)|exact Qn ⟨(j+1,_,0,len3,els3),[],rfl,kps,kps,⟨Zf (by omega),by dsimp only; omega,hjl,hO4⟩,by dsimp only; omega⟩|exact Qn ⟨(j+1,_,_+1,len3,els3),[(23,23)],rfl,kps,kps,⟨Zf (by omega),by dsimp only; omega,hjl,hO4⟩,by dsimp only; omega⟩
   cases pb with
   | false =>
    rw [if_neg (fun q=>by cases q.2)] at hfr
    have hO4:=hsame hfr
    rw [if_neg (by decide)] at c6
    cases m2<;>refine bs.av (sx:=nos) hkA ?_<;>repeat'(first|refine wk3 ?_|(refine wk2 ?_ ?_<;>intro _)|refine wk4 ?_|fail);all_goals(conv=>whnf)
    all_goals first|(exfalso; simp_all; done)|exact Qn ⟨(j+1,_,0,len3,els3),[],rfl,kps,kps,⟨Zf (by omega),by dsimp only; omega,hjl,hO4⟩,by dsimp only; omega⟩|exact Qn ⟨(j+1,_,_+1,len3,els3),[(23,23)],rfl,kps,kps,⟨Zf (by omega),by dsimp only; omega,hjl,hO4⟩,by dsimp only; omega⟩
   | true =>
    rw [if_pos ⟨hkd,rfl⟩] at hfr
    rw [if_pos rfl] at c6
    rw [hfr] at hst
    have hO4:∀ x,x=(if (Zb h s i).1=3\/(Zb h s i).1=4 then 2 else 4)*(((Zb h s i).2-(Zb h s j).2)*((Zb h s i).2-(Zb h s j).2))->OutF (flA h s q0 q1 i++flI h s q0 q1 i (j+1)) (m2+1) (els3.length+1) (els3++[[I (i:Int),I (j:Int),I x]]):=fun x hx=>by
     rw [hx,hst,<-Tc]
     exact ⟨by rw [Ry,<-hO3.m]; rfl,by simp,by rw [We,<-hO3.els]; rfl⟩
    have hz0:m2=0->els3=[]:=fun hz=>by
     have:=hO3.els
     rw [Wo.1 (hO3.m.symm.trans hz)] at this
     exact this
    clear hfr hsame hst c5 hO3
    by_cases hk34:(Zb h s i).1=3\/(Zb h s i).1=4
    ·rw [if_pos hk34] at hO4
     have hO5:=hO4 _ r2
     cases m2 with
     | zero =>
      obtain rfl:=hz0 rfl
      refine bs.av (sx:=nos) hkA ?_
      repeat'(first|refine wk3 ?_|(refine wk2 ?_ ?_<;>intro _)|refine wk4 ?_|fail);all_goals(conv=>whnf)
      all_goals first|(exfalso; simp_all; done)|exact Qn ⟨(j+1,_,1,1,_),[(23,40)],rfl,kps,kps,⟨Zf (by omega),by dsimp only; omega,hjl,hO5⟩,by dsimp only; omega⟩|(exfalso; simp_all; done)|(exfalso; simp_all; omega)
     | succ m3 =>
      refine bs.av (sx:=nos) hkA ?_
      repeat'(first|refine wk3 ?_|(refine wk2 ?_ ?_<;>intro _)|refine wk4 ?_|fail);all_goals(conv=>whnf)
      all_goals first|(exfalso; simp_all; done)|exact Qn ⟨(j+1,_,m3+1+1,els3.length+1,_),[(23,40)],rfl,kps,kps,⟨Zf (by omega),by dsimp only; omega,hjl,hO5⟩,by dsimp only; omega⟩|(exfalso; simp_all; done)|(exfalso; simp_all; omega)
    ·rw [if_neg hk34] at hO4
     have hO5:=hO4 _ r4
     cases m2 with
     | zero =>
      obtain rfl:=hz0 rfl
      refine bs.av (sx:=nos) hkA ?_
      repeat'(first|refine wk3 ?_|(refine wk2 ?_ ?_<;>intro _)|refine wk4 ?_|fail);all_goals(conv=>whnf)
      all_goals first|(exfalso; simp_all; done)|exact Qn ⟨(j+1,_,1,1,_),[(23,40)],rfl,kps,kps,⟨Zf (by omega),by dsimp only; omega,hjl,hO5⟩,by dsimp only; omega⟩|(exfalso; simp_all; done)|(exfalso; simp_all; omega)
     | succ m3 =>
      refine bs.av (sx:=nos) hkA ?_
      repeat'(first|refine wk3 ?_|(refine wk2 ?_ ?_<;>intro _)|refine wk4 ?_|fail);all_goals(conv=>whnf)
      all_goals first|(exfalso; simp_all; done)|exact Qn ⟨(j+1,_,m3+1+1,els3.length+1,_),[(23,40)],rfl,kps,kps,⟨Zf (by omega),by dsimp only; omega,hjl,hO5⟩,by dsimp only; omega⟩|(exfalso; simp_all; done)|(exfalso; simp_all; omega)
  | succ m0 =>
   refine bs.av (sx:=nos) hkA ?_
   repeat'(first|refine wk3 ?_|(refine wk2 ?_ ?_<;>intro _)|refine wk4 ?_|fail);all_goals(conv=>whnf)
   refine Ziv (S:=Nat × Int × Nat × Nat × List (List AV)) (fun t=>nsN h-t.1)
    (fun t=>[(3,.ptr 0 0 0),(4,.ptr 1 0 0),(5,.ptr 2 0 0),(6,.nils),(7,I 0),(11,.asl 20 0 len),(15,gv 23 t.2.2.1 t.2.2.2.1),(16,I (i:Int)),(17,.ptr 22 0 0),(18,I t.2.1),(52,.asl 20 0 len),(53,I (len:Int)),(54,I (i:Int))])
    (fun t=>(22,.row 2 [plC h s i] true false)::(20,.row 2 els true true)::(2,.row 7 [[I fx,I fy,I fz,I tx,I ty,I tz,I n]] true false)::(1,.row 2 [s.cells] true false)::(0,.row 9 [h.cells] true false)::gz 23 3 t.2.2.1 t.2.2.2.2 []) 23 24
    (fun t=>t.2.1=t.1/\i<t.1/\t.1<=nsN h/\OutF (flA h s q0 q1 i++flI h s q0 q1 i t.1) t.2.2.1 t.2.2.2.1 t.2.2.2.2)
    (i+1,_,(m0+1),len2,els2) ⟨Zf (by omega),by dsimp only; omega,hlt,by rw [Zfs h s q0 q1 i _ (Qf _),Ta]; exact hO⟩ (Qk rfl) [(23,21)] rfl (kps) (kps) ?_
   rintro ⟨j,ij,m2,len3,els3⟩ ⟨hij,hij1,hjn,hO3⟩
   dsimp only at hij hij1 hjn hO3 ⊢
   subst hij
   have hmb3:els3.length<=400:=by
    rw [hO3.els,Se,Ry]
    have h1:=hfl i
    have h2:i*nsN h<=18*18:=Tz (by omega) hn18
    have h3:=hfi i j
    omega
   have hlen3:=hO3.len
   by_cases hjl:j<nsN h
   rotate_left
   ·obtain rfl:j=nsN h:=by omega
    have hO3:OutF (flA h s q0 q1 (i+1)) m2 len3 els3:=hO3
    cases m2<;>refine bs.av (sx:=nos) hkA ?_<;>repeat'(first|refine wk3 ?_|(refine wk2 ?_ ?_<;>intro _)|refine wk4 ?_|fail);all_goals(conv=>whnf)
    ·exact Qn ⟨(i+1,_,0,len3,els3),[],rfl,kps,kps,⟨Zf (by omega),hlt,hO3⟩,by dsimp only; omega⟩
    ·exact Qn ⟨(i+1,_,_+1,len3,els3),[(21,23)],rfl,kps,kps,⟨Zf (by omega),hlt,hO3⟩,by dsimp only; omega⟩
   have e3:=hgetE j hjl
   have e4:=hgetE2 j hjl
   have hst:flI h s q0 q1 i (j+1)=flI h s q0 q1 i j++flR h s q0 q1 i j:=by rw [flI,if_pos hij1]
   have hsame:flR h s q0 q1 i j=[]->OutF (flA h s q0 q1 i++flI h s q0 q1 i (j+1)) m2 len3 els3:=fun hz=>by rw [hst,hz,Ta]; exact hO3
   have c5:=hRf i j hij1 hjl
   have c6:=hpo [(i:Int),j,i,j] (by simp)
   have c7:=Ztl i j
   have b1:=hpb i hlt
   have b2:=hpb j hjl
   rw [c5] at c6
   have hfr:flR h s q0 q1 i j=if (Zb h s i).1=(Zb h s j).1/\(Uh h s q0 q1 [(i:Int),j,i,j]).isSome=true then [((i:Int),(j:Int),sqF (Zb h s i) (Zb h s j))] else []:=rfl
   generalize (pofV h s ⟨fx,fy,fz,tx,ty,tz,n⟩ [(i:Int),j,i,j]).1.getD zPth=pz at *
   generalize (Uh h s q0 q1 [(i:Int),j,i,j]).isSome=pb at *
   have r4:=Zh8 b1.2 b2.2 (.inr rfl:(4:Int)=2\/(4:Int)=4)
   have r2:=Zta b1.2 b2.2
   unfold sqF at hfr
   obtain ⟨z1,z2,z3⟩:=pz
   clear hgetE hgetE2 hplT hpo hRf hfl hfi
   by_cases hkd:(Zb h s i).1=(Zb h s j).1
   rotate_left
   ·rw [if_neg (fun q=>hkd q.1)] at hfr
    have hO4:=hsame hfr
    cases m2<;>refine bs.av (sx:=nos) hkA ?_<;>repeat'(first|refine wk3 ?_|(refine wk2 ?_ ?_<;>intro _)|refine wk4 ?_|fail);all_goals(conv=>whnf)
    all_goals first|(exfalso; simp_all; done)|exact Qn ⟨(j+1,_,0,len3,els3),[],rfl,kps,kps,⟨Zf (by omega),by dsimp only; omega,hjl,hO4⟩,by dsimp only; omega⟩|exact Qn ⟨(j+1,_,_+1,len3,els3),[(23,23)],rfl,kps,kps,⟨Zf (by omega),by dsimp only; omega,hjl,hO4⟩,by dsimp only; omega⟩
   cases pb with
   | false =>
    rw [if_neg (fun q=>by cases q.2)] at hfr
    have hO4:=hsame hfr
    rw [if_neg (by decide)] at c6
    cases m2<;>refine bs.av (sx:=nos) hkA ?_<;>repeat'(first|refine wk3 ?_|(refine wk2 ?_ ?_<;>intro _)|refine wk4 ?_|fail);all_goals(conv=>whnf)
    all_goals first|(exfalso; simp_all; done)|exact Qn ⟨(j+1,_,0,len3,els3),[],rfl,kps,kps,⟨Zf (by omega),by dsimp only; omega,hjl,hO4⟩,by dsimp only; omega⟩|exact Qn ⟨(j+1,_,_+1,len3,els3),[(23,23)],rfl,kps,kps,⟨Zf (by omega),by dsimp only; omega,hjl,hO4⟩,by dsimp only; omega⟩
   | true =>
    rw [if_pos ⟨hkd,rfl⟩] at hfr
    rw [if_pos rfl] at c6
    rw [hfr] at hst
    have hO4:∀ x,x=(if (Zb h s i).1=3\/(Zb h s i).1=4 then 2 else 4)*(((Zb h s i).2-(Zb h s j).2)*((Zb h s i).2-(Zb h s j).2))->OutF (flA h s q0 q1 i++flI h s q0 q1 i (j+1)) (m2+1) (els3.length+1) (els3++[[I (i:Int),I (j:Int),I x]]):=fun x hx=>by
     rw [hx,hst,<-Tc]
     exact ⟨by rw [Ry,<-hO3.m]; rfl,by simp,by rw [We,<-hO3.els]; rfl⟩
    have hz0:m2=0->els3=[]:=fun hz=>by
     have:=hO3.els
     rw [Wo.1 (hO3.m.symm.trans hz)] at this
     exact this
    clear hfr hsame hst c5 hO3
    by_cases hk34:(Zb h s i).1=3\/(Zb h s i).1=4
    ·rw [if_pos hk34] at hO4
     have hO5:=hO4 _ r2
     cases m2 with
     | zero =>
      obtain rfl:=hz0 rfl
      refine bs.av (sx:=nos) hkA ?_
      repeat'(first|refine wk3 ?_|(refine wk2 ?_ ?_<;>intro _)|refine wk4 ?_|fail);all_goals(conv=>whnf)
      all_goals first|(exfalso; simp_all; done)|exact Qn ⟨(j+1,_,1,1,_),[(23,40)],rfl,kps,kps,⟨Zf (by omega),by dsimp only; omega,hjl,hO5⟩,by dsimp only; omega⟩|(exfalso; simp_all; done)|(exfalso; simp_all; omega)
     | succ m3 =>
      refine bs.av (sx:=nos) hkA ?_
      repeat'(first|refine wk3 ?_|(refine wk2 ?_ ?_<;>intro _)|refine wk4 ?_|fail);all_goals(conv=>whnf)
      all_goals first|(exfalso; simp_all; done)|exact Qn ⟨(j+1,_,m3+1+1,els3.length+1,_),[(23,40)],rfl,kps,kps,⟨Zf (by omega),by dsimp only; omega,hjl,hO5⟩,by dsimp only; omega⟩|(exfalso; simp_all; done)|(exfalso; simp_all; omega)
    ·rw [if_neg hk34] at hO4
     have hO5:=hO4 _ r4
     cases m2 with
     | zero =>
      obtain rfl:=hz0 rfl
      refine bs.av (sx:=nos) hkA ?_
      repeat'(first|refine wk3 ?_|(refine wk2 ?_ ?_<;>intro _)|refine wk4 ?_|fail);all_goals(conv=>whnf)
      all_goals first|(exfalso; simp_all; done)|exact Qn ⟨(j+1,_,1,1,_),[(23,40)],rfl,kps,kps,⟨Zf (by omega),by dsimp only; omega,hjl,hO5⟩,by dsimp only; omega⟩|(exfalso; simp_all; done)|(exfalso; simp_all; omega)
     | succ m3 =>
      refine bs.av (sx:=nos) hkA ?_
      repeat'(first|refine wk3 ?_|(refine wk2 ?_ ?_<;>intro _)|refine wk4 ?_|fail);all_goals(conv=>whnf)
      all_goals first|(exfalso; simp_all; done)|exact Qn ⟨(j+1,_,m3+1+1,els3.length+1,_),[(23,40)],rfl,kps,kps,⟨Zf (by omega),by dsimp only; omega,hjl,hO5⟩,by dsimp only; omega⟩|(exfalso; simp_all; done)|(exfalso; simp_all; omega)
noncomputable abbrev rPr (h:Hal) (s:Stg) (a:Ask):List AV->Option PRes:=famA (fun ns:List Int=>suE h ns=0) (fun ns=>[h.av,s.av,a.av,.isl 1 (nl ns)]) (fun ns=>⟨ansP (Uh h s (qF a) (qT a) ns),[]⟩)
theorem Zz5 {h:Hal} {s:Stg} {a:Ask} {ns:List Int} (hl:suE h ns=0):rPr h s a [h.av,s.av,a.av,.isl 1 (nl ns)]=some ⟨ansP (Uh h s (qF a) (qT a) ns),[]⟩ :=
 Zq (p:=fun ns:List Int=>suE h ns=0) (g:=fun ns=>[h.av,s.av,a.av,.isl 1 (nl ns)]) (r:=fun ns=>⟨ansP (Uh h s (qF a) (qT a) ns),[]⟩) (k:=ns) (fun j hj=>by
  rw [Ztz (AV.isl.inj (Of (Of (Of (Of hj).2).2).2).1).2]) hl
theorem frL3 {bl:List (Nat × List (List AV))}:Frz bl .nils (.isl 3 []):=rfl
theorem e10 {h:Hal} (hk:h.ok) {s:Stg} (hs:s.few) (a:Ask) (he:askE h s a=0):PCall Tryz.prog 10 [h.av,s.av,a.av] ⟨.isl 3 ((flA h s (qF a) (qT a) (nsN h)).map fl3),[]⟩:=by
 have A:=Xh he
 have e0:=A.e0
 have g:=Zfd hk hs e0
 have hn18:nsN h<=18:=by have:=g.fine.le; unfold nsN; omega
 have hpb:=fun i (hi:i<nsN h)=>Yce g (Zgj (h:=h) (i:=(i:Int)) (by omega) (by have:=Zim h; omega))
 have hfl:=Zi5 h s (qF a) (qT a)
 have hfi:=Zlo h s (qF a) (qT a)
 have hkA:PCOK Tryz.prog (ins 34 (cHas h) (ins 35 (plR h s) (ins 36 (rPr h s a) pt0))):=Zu (fun i _=>c88 hk.f i) (Zys g (Zu (fun ns e2=>d21a hk hs he e2) Zh))
 have hnsu:=Zim h
 have hpo:=fun i j:Nat=>fun (hij:i<j) (hj:j<nsN h)=>Zz5 (h:=h) (s:=s) (a:=a) (ns:=[(i:Int),j,i,j]) (suE4 (by omega) (by omega) (by omega))
 have hpl:=fun i (hi:i<nsN h)=>Ztn (h:=h) (s:=s) (i:=(i:Int)) (Zgj (by omega) (by omega))
 have hhas:∀ k:Nat,cHas h [h.av,I (k:Int)]=some ⟨Bo (decide (k<nsN h)),[]⟩:=fun k=>by
  rw [Yaw h k]
  congr 3
  rw [Bool.eq_iff_iff,within_iff,decide_eq_true_eq]
  omega
 obtain ⟨fx,fy,fz,tx,ty,tz,n⟩:=a
 generalize qF ⟨fx,fy,fz,tx,ty,tz,n⟩=q0 at *
 generalize qT ⟨fx,fy,fz,tx,ty,tz,n⟩=q1 at *
 generalize hR:flA h s q0 q1 (nsN h)=R
 refine Mi (res:=if R=[] then ⟨.nils,[]⟩ else ⟨.asl 0 0 R.length,[(3,R.map fl3)]⟩) ?_ ?_
 rotate_left
 ·split<;>rename_i hre
  ·rw [hre]; exact frL3
  ·exact ⟨rfl,rfl,by simp⟩
 refine bs.pv (sx:=nos) hkA Tryz.func10 (by kernel_rfl) (by kernel_rfl) (by split<;>rfl) ?_
 unfold Ze9
 conv=>whnf
 repeat'(first|refine wk3 ?_|(refine wk2 ?_ ?_<;>intro _)|refine wk4 ?_|fail);all_goals(conv=>whnf)
 refine Ziv (S:=Nat × Int × Nat × Nat × List (List AV)) (fun t=>nsN h-t.1)
  (fun t=>[(3,.ptr 0 0 0),(4,.ptr 1 0 0),(5,.ptr 2 0 0),(6,.nils),(7,gv 3 t.2.2.1 t.2.2.2.1),(8,I t.2.1)])
  (fun t=>(2,.row 7 [[I fx,I fy,I fz,I tx,I ty,I tz,I n]] true false)::(1,.row 2 [s.cells] true false)::(0,.row 9 [h.cells] true false)::gz 3 3 t.2.2.1 t.2.2.2.2 []) 3 4
  (fun t=>t.2.1=t.1/\t.1<=nsN h/\OutF (flA h s q0 q1 t.1) t.2.2.1 t.2.2.2.1 t.2.2.2.2)
  (0,0,0,0,[]) ⟨rfl,Qo _,⟨rfl,rfl,rfl⟩⟩ (Qk rfl) [] rfl (kps) (kps) ?_
 rintro ⟨i,ii,m,len2,els2⟩ ⟨hii,hin,hO⟩
 dsimp only at hii hin hO ⊢
 subst hii
 have c1:=hhas i
 by_cases hlt:i<nsN h
 rotate_left
 ·obtain rfl:i=nsN h:=by omega
  rw [decide_eq_false (by omega)] at c1
  have hRm:R=flA h s q0 q1 (nsN h):=hR.symm
  rw [<-hRm] at hO
  obtain ⟨o1,o2,o3⟩:=hO
  cases m with
  | zero =>
   have hz:R=[]:=Wo.1 o1.symm
   rw [if_pos hz]
   refine bs.av (sx:=nos) hkA ?_
   repeat'(first|refine wk3 ?_|(refine wk2 ?_ ?_<;>intro _)|refine wk4 ?_|fail);all_goals(conv=>whnf)
   exact Zg rfl rfl
  | succ m0 =>
   rw [if_neg (by intro hz; rw [hz] at o1; cases o1)]
   rw [o3,Se] at o2
   subst o2 o3
   refine bs.av (sx:=nos) hkA ?_
   repeat'(first|refine wk3 ?_|(refine wk2 ?_ ?_<;>intro _)|refine wk4 ?_|fail);all_goals(conv=>whnf)
   exact Yp [3] rfl rfl rfl
 rw [decide_eq_true hlt] at c1
 have hmb:els2.length<=324:=by
  rw [hO.els,Se]
  have h1:=hfl i
  have h2:i*nsN h<=18*18:=Tz (by omega) hn18
  omega
 cases m with
 | zero =>
  refine bs.av (sx:=nos) hkA ?_
  repeat'(first|refine wk3 ?_|(refine wk2 ?_ ?_<;>intro _)|refine wk4 ?_|fail);all_goals(conv=>whnf)
  refine Ziv (S:=Nat × Int × Nat × Nat × List (List AV)) (fun t=>nsN h-t.1)
   (fun t=>[(3,.ptr 0 0 0),(4,.ptr 1 0 0),(5,.ptr 2 0 0),(6,.nils),(7,gv 4 t.2.2.1 t.2.2.2.1),(8,I (i:Int)),(9,I t.2.1)])
   (fun t=>(2,.row 7 [[I fx,I fy,I fz,I tx,I ty,I tz,I n]] true false)::(1,.row 2 [s.cells] true false)::(0,.row 9 [h.cells] true false)::gz 4 3 t.2.2.1 t.2.2.2.2 []) 4 5
   (fun t=>t.2.1=t.1/\i<t.1/\t.1<=nsN h/\OutF (flA h s q0 q1 i++flI h s q0 q1 i t.1) t.2.2.1 t.2.2.2.1 t.2.2.2.2)
   (i+1,_,0,len2,els2) ⟨Zf (by omega),by dsimp only; omega,hlt,by rw [Zfs h s q0 q1 i _ (Qf _),Ta]; exact hO⟩ (Qk rfl) [] rfl (kps) (kps) ?_
  rintro ⟨j,ij,m2,len3,els3⟩ ⟨hij,hij1,hjn,hO3⟩
  dsimp only at hij hij1 hjn hO3 ⊢
  subst hij
  have hmb3:els3.length<=400:=by
   rw [hO3.els,Se,Ry]
   have h1:=hfl i
   have h2:i*nsN h<=18*18:=Tz (by omega) hn18
   have h3:=hfi i j
   omega
  have hlen3:=hO3.len
  have c2:=hhas j
  by_cases hjl:j<nsN h
  rotate_left
  ·obtain rfl:j=nsN h:=by omega
   rw [decide_eq_false (by omega)] at c2
   have hO3:OutF (flA h s q0 q1 (i+1)) m2 len3 els3:=hO3
   cases m2<;>refine bs.av (sx:=nos) hkA ?_<;>repeat'(first|refine wk3 ?_|(refine wk2 ?_ ?_<;>intro _)|refine wk4 ?_|fail);all_goals(conv=>whnf)
   ·exact Qn ⟨(i+1,_,0,len3,els3),[],rfl,kps,kps,⟨Zf (by omega),hlt,hO3⟩,by dsimp only; omega⟩
   ·exact Qn ⟨(i+1,_,_+1,len3,els3),[(3,4)],rfl,kps,kps,⟨Zf (by omega),hlt,hO3⟩,by dsimp only; omega⟩
  rw [decide_eq_true hjl] at c2
  have hst:flI h s q0 q1 i (j+1)=flI h s q0 q1 i j++flR h s q0 q1 i j:=by rw [flI,if_pos hij1]
  have hsame:flR h s q0 q1 i j=[]->OutF (flA h s q0 q1 i++flI h s q0 q1 i (j+1)) m2 len3 els3:=fun hz=>by rw [hst,hz,Ta]; exact hO3
  have c6:=hpo i j hij1 hjl
  have c3:=hpl i hlt
  have c4:=hpl j hjl
  have b1:=hpb i hlt
  have b2:=hpb j hjl
  have hfr:flR h s q0 q1 i j=if (Zb h s i).1=(Zb h s j).1/\(Uh h s q0 q1 [(i:Int),j,i,j]).isSome=true then [((i:Int),(j:Int),sqF (Zb h s i) (Zb h s j))] else []:=rfl
  generalize Uh h s q0 q1 [(i:Int),j,i,j]=po at *
  have r4:=Zh8 b1.2 b2.2 (.inr rfl:(4:Int)=2\/(4:Int)=4)
  have r2:=Zh8 b1.2 b2.2 (.inl rfl:(2:Int)=2\/(2:Int)=4)
  unfold sqF at hfr
  clear hpo hpl hhas hfl hfi
  by_cases hkd:(Zb h s i).1=(Zb h s j).1
  rotate_left
  ·rw [if_neg (fun q=>hkd q.1)] at hfr
   have hO4:=hsame hfr
   cases m2<;>refine bs.av (sx:=nos) hkA ?_<;>repeat'(first|refine wk3 ?_|(refine wk2 ?_ ?_<;>intro _)|refine wk4 ?_|fail);all_goals(conv=>whnf)
   all_goals first|(exfalso; simp_all; done)|exact Qn ⟨(j+1,_,0,len3,els3),[],rfl,kps,kps,⟨Zf (by omega),by dsimp only; omega,hjl,hO4⟩,by dsimp only; omega⟩|exact Qn ⟨(j+1,_,_+1,len3,els3),[(4,4)],rfl,kps,kps,⟨Zf (by omega),by dsimp only; omega,hjl,hO4⟩,by dsimp only; omega⟩
  cases po with
  | none =>
   rw [if_neg (fun q=>by cases q.2)] at hfr
   have hO4:=hsame hfr
   cases m2<;>refine bs.av (sx:=nos) hkA ?_<;>repeat'(first|refine wk3 ?_|(refine wk2 ?_ ?_<;>intro _)|refine wk4 ?_|fail);all_goals(conv=>whnf)
   all_goals first|(exfalso; simp_all; done)|exact Qn ⟨(j+1,_,0,len3,els3),[],rfl,kps,kps,⟨Zf (by omega),by dsimp only; omega,hjl,hO4⟩,by dsimp only; omega⟩|exact Qn ⟨(j+1,_,_+1,len3,els3),[(4,4)],rfl,kps,kps,⟨Zf (by omega),by dsimp only; omega,hjl,hO4⟩,by dsimp only; omega⟩
  | some pz =>
   rw [if_pos ⟨hkd,rfl⟩] at hfr
   rw [hfr] at hst
   obtain ⟨z1,z2,z3⟩:=pz
   have hO4:∀ x,x=(if (Zb h s i).1=3\/(Zb h s i).1=4 then 2 else 4)*(((Zb h s i).2-(Zb h s j).2)*((Zb h s i).2-(Zb h s j).2))->OutF (flA h s q0 q1 i++flI h s q0 q1 i (j+1)) (m2+1) (els3.length+1) (els3++[[I (i:Int),I (j:Int),I x]]):=fun x hx=>by
    rw [hx,hst,<-Tc]
    exact ⟨by rw [Ry,<-hO3.m]; rfl,by simp,by rw [We,<-hO3.els]; rfl⟩
   have hz0:m2=0->els3=[]:=fun hz=>by
    have:=hO3.els
    rw [Wo.1 (hO3.m.symm.trans hz)] at this
    exact this
   clear hfr hsame hst hO3
   by_cases hk34:(Zb h s i).1=3\/(Zb h s i).1=4
   ·rw [if_pos hk34] at hO4
    have hO5:=hO4 _ r2
    cases m2 with
    | zero =>
     obtain rfl:=hz0 rfl
     refine bs.av (sx:=nos) hkA ?_
     repeat'(first|refine wk3 ?_|(refine wk2 ?_ ?_<;>intro _)|refine wk4 ?_|fail);all_goals(conv=>whnf)
     all_goals first|(exfalso; simp_all; done)|exact Qn ⟨(j+1,_,1,1,_),[(4,20)],rfl,kps,kps,⟨Zf (by omega),by dsimp only; omega,hjl,hO5⟩,by dsimp only; omega⟩|(exfalso; simp_all; done)|(exfalso; simp_all; omega)
    | succ m3 =>
     refine bs.av (sx:=nos) hkA ?_
     repeat'(first|refine wk3 ?_|(refine wk2 ?_ ?_<;>intro _)|refine wk4 ?_|fail);all_goals(conv=>whnf)
     all_goals first|(exfalso; simp_all; done)|exact Qn ⟨(j+1,_,m3+1+1,els3.length+1,_),[(4,20)],rfl,kps,kps,⟨Zf (by omega),by dsimp only; omega,hjl,hO5⟩,by dsimp only; omega⟩|(exfalso; simp_all; done)|(exfalso; simp_all; omega)
   ·rw [if_neg hk34] at hO4
    have hO5:=hO4 _ r4
    cases m2 with
    | zero =>
     obtain rfl:=hz0 rfl
     refine bs.av (sx:=nos) hkA ?_
     repeat'(first|refine wk3 ?_|(refine wk2 ?_ ?_<;>intro _)|refine wk4 ?_|fail);all_goals(conv=>whnf)
     all_goals first|(exfalso; simp_all; done)|exact Qn ⟨(j+1,_,1,1,_),[(4,20)],rfl,kps,kps,⟨Zf (by omega),by dsimp only; omega,hjl,hO5⟩,by dsimp only; omega⟩|(exfalso; simp_all; done)|(exfalso; simp_all; omega)
    | succ m3 =>
     refine bs.av (sx:=nos) hkA ?_
     repeat'(first|refine wk3 ?_|(refine wk2 ?_ ?_<;>intro _)|refine wk4 ?_|fail);all_goals(conv=>whnf)
     all_goals first|(exfalso; simp_all; done)|exact Qn ⟨(j+1,_,m3+1+1,els3.length+1,_),[(4,20)],rfl,kps,kps,⟨Zf (by omega),by dsimp only; omega,hjl,hO5⟩,by dsimp only; omega⟩|(exfalso; simp_all; done)|(exfalso; simp_all; omega)
 | succ m0 =>
  refine bs.av (sx:=nos) hkA ?_
  repeat'(first|refine wk3 ?_|(refine wk2 ?_ ?_<;>intro _)|refine wk4 ?_|fail);all_goals(conv=>whnf)
  refine Ziv (S:=Nat × Int × Nat × Nat × List (List AV)) (fun t=>nsN h-t.1)
   (fun t=>[(3,.ptr 0 0 0),(4,.ptr 1 0 0),(5,.ptr 2 0 0),(6,.nils),(7,gv 4 t.2.2.1 t.2.2.2.1),(8,I (i:Int)),(9,I t.2.1)])
   (fun t=>(2,.row 7 [[I fx,I fy,I fz,I tx,I ty,I tz,I n]] true false)::(1,.row 2 [s.cells] true false)::(0,.row 9 [h.cells] true false)::gz 4 3 t.2.2.1 t.2.2.2.2 []) 4 5
   (fun t=>t.2.1=t.1/\i<t.1/\t.1<=nsN h/\OutF (flA h s q0 q1 i++flI h s q0 q1 i t.1) t.2.2.1 t.2.2.2.1 t.2.2.2.2)
   (i+1,_,(m0+1),len2,els2) ⟨Zf (by omega),by dsimp only; omega,hlt,by rw [Zfs h s q0 q1 i _ (Qf _),Ta]; exact hO⟩ (Qk rfl) [(4,3)] rfl (kps) (kps) ?_
  rintro ⟨j,ij,m2,len3,els3⟩ ⟨hij,hij1,hjn,hO3⟩
  dsimp only at hij hij1 hjn hO3 ⊢
  subst hij
  have hmb3:els3.length<=400:=by
   rw [hO3.els,Se,Ry]
   have h1:=hfl i
   have h2:i*nsN h<=18*18:=Tz (by omega) hn18
   have h3:=hfi i j
   omega
  have hlen3:=hO3.len
  have c2:=hhas j
  by_cases hjl:j<nsN h
  rotate_left
  ·obtain rfl:j=nsN h:=by omega
   rw [decide_eq_false (by omega)] at c2
   have hO3:OutF (flA h s q0 q1 (i+1)) m2 len3 els3:=hO3
   cases m2<;>refine bs.av (sx:=nos) hkA ?_<;>repeat'(first|refine wk3 ?_|(refine wk2 ?_ ?_<;>intro _)|refine wk4 ?_|fail);all_goals(conv=>whnf)
   ·exact Qn ⟨(i+1,_,0,len3,els3),[],rfl,kps,kps,⟨Zf (by omega),hlt,hO3⟩,by dsimp only; omega⟩
   ·exact Qn ⟨(i+1,_,_+1,len3,els3),[(3,4)],rfl,kps,kps,⟨Zf (by omega),hlt,hO3⟩,by dsimp only; omega⟩
  rw [decide_eq_true hjl] at c2
  have hst:flI h s q0 q1 i (j+1)=flI h s q0 q1 i j++flR h s q0 q1 i j:=by rw [flI,if_pos hij1]
  have hsame:flR h s q0 q1 i j=[]->OutF (flA h s q0 q1 i++flI h s q0 q1 i (j+1)) m2 len3 els3:=fun hz=>by rw [hst,hz,Ta]; exact hO3
  have c6:=hpo i j hij1 hjl
  have c3:=hpl i hlt
  have c4:=hpl j hjl
  have b1:=hpb i hlt
  have b2:=hpb j hjl
  have hfr:flR h s q0 q1 i j=if (Zb h s i).1=(Zb h s j).1/\(Uh h s q0 q1 [(i:Int),j,i,j]).isSome=true then [((i:Int),(j:Int),sqF (Zb h s i) (Zb h s j))] else []:=rfl
  generalize Uh h s q0 q1 [(i:Int),j,i,j]=po at *
  have r4:=Zh8 b1.2 b2.2 (.inr rfl:(4:Int)=2\/(4:Int)=4)
  have r2:=Zh8 b1.2 b2.2 (.inl rfl:(2:Int)=2\/(2:Int)=4)
  unfold sqF at hfr
  clear hpo hpl hhas hfl hfi
  by_cases hkd:(Zb h s i).1=(Zb h s j).1
  rotate_left
  ·rw [if_neg (fun q=>hkd q.1)] at hfr
   have hO4:=hsame hfr
   cases m2<;>refine bs.av (sx:=nos) hkA ?_<;>repeat'(first|refine wk3 ?_|(refine wk2 ?_ ?_<;>intro _)|refine wk4 ?_|fail);all_goals(conv=>whnf)
   all_goals first|(exfalso; simp_all; done)|exact Qn ⟨(j+1,_,0,len3,els3),[],rfl,kps,kps,⟨Zf (by omega),by dsimp only; omega,hjl,hO4⟩,by dsimp only; omega⟩|exact Qn ⟨(j+1,_,_+1,len3,els3),[(4,4)],rfl,kps,kps,⟨Zf (by omega),by dsimp only; omega,hjl,hO4⟩,by dsimp only; omega⟩
  cases po with
  | none =>
   rw [if_neg (fun q=>by cases q.2)] at hfr
   have hO4:=hsame hfr
   cases m2<;>refine bs.av (sx:=nos) hkA ?_<;>repeat'(first|refine wk3 ?_|(refine wk2 ?_ ?_<;>intro _)|refine wk4 ?_|fail);all_goals(conv=>whnf)
   all_goals first|(exfalso; simp_all; done)|exact Qn ⟨(j+1,_,0,len3,els3),[],rfl,kps,kps,⟨Zf (by omega),by dsimp only; omega,hjl,hO4⟩,by dsimp only; omega⟩|exact Qn ⟨(j+1,_,_+1,len3,els3),[(4,4)],rfl,kps,kps,⟨Zf (by omega),by dsimp only; omega,hjl,hO4⟩,by dsimp only; omega⟩
  | some pz =>
   rw [if_pos ⟨hkd,rfl⟩] at hfr
   rw [hfr] at hst
   obtain ⟨z1,z2,z3⟩:=pz
   have hO4:∀ x,x=(if (Zb h s i).1=3\/(Zb h s i).1=4 then 2 else 4)*(((Zb h s i).2-(Zb h s j).2)*((Zb h s i).2-(Zb h s j).2))->OutF (flA h s q0 q1 i++flI h s q0 q1 i (j+1)) (m2+1) (els3.length+1) (els3++[[I (i:Int),I (j:Int),I x]]):=fun x hx=>by
    rw [hx,hst,<-Tc]
    exact ⟨by rw [Ry,<-hO3.m]; rfl,by simp,by rw [We,<-hO3.els]; rfl⟩
   have hz0:m2=0->els3=[]:=fun hz=>by
    have:=hO3.els
    rw [Wo.1 (hO3.m.symm.trans hz)] at this
    exact this
   clear hfr hsame hst hO3
   by_cases hk34:(Zb h s i).1=3\/(Zb h s i).1=4
   ·rw [if_pos hk34] at hO4
    have hO5:=hO4 _ r2
    cases m2 with
    | zero =>
     obtain rfl:=hz0 rfl
     refine bs.av (sx:=nos) hkA ?_
     repeat'(first|refine wk3 ?_|(refine wk2 ?_ ?_<;>intro _)|refine wk4 ?_|fail);all_goals(conv=>whnf)
     all_goals first|(exfalso; simp_all; done)|exact Qn ⟨(j+1,_,1,1,_),[(4,20)],rfl,kps,kps,⟨Zf (by omega),by dsimp only; omega,hjl,hO5⟩,by dsimp only; omega⟩|(exfalso; simp_all; done)|(exfalso; simp_all; omega)
    | succ m3 =>
     refine bs.av (sx:=nos) hkA ?_
     repeat'(first|refine wk3 ?_|(refine wk2 ?_ ?_<;>intro _)|refine wk4 ?_|fail);all_goals(conv=>whnf)
     all_goals first|(exfalso; simp_all; done)|exact Qn ⟨(j+1,_,m3+1+1,els3.length+1,_),[(4,20)],rfl,kps,kps,⟨Zf (by omega),by dsimp only; omega,hjl,hO5⟩,by dsimp only; omega⟩|(exfalso; simp_all; done)|(exfalso; simp_all; omega)
   ·rw [if_neg hk34] at hO4
    have hO5:=hO4 _ r4
    cases m2 with
    | zero =>
     obtain rfl:=hz0 rfl
     refine bs.av (sx:=nos) hkA ?_
     repeat'(first|refine wk3 ?_|(refine wk2 ?_ ?_<;>intro _)|refine wk4 ?_|fail);all_goals(conv=>whnf)
     all_goals first|(exfalso; simp_all; done)|exact Qn ⟨(j+1,_,1,1,_),[(4,20)],rfl,kps,kps,⟨Zf (by omega),by dsimp only; omega,hjl,hO5⟩,by dsimp only; omega⟩|(exfalso; simp_all; done)|(exfalso; simp_all; omega)
    | succ m3 =>
     refine bs.av (sx:=nos) hkA ?_
     repeat'(first|refine wk3 ?_|(refine wk2 ?_ ?_<;>intro _)|refine wk4 ?_|fail);all_goals(conv=>whnf)
     all_goals first|(exfalso; simp_all; done)|exact Qn ⟨(j+1,_,m3+1+1,els3.length+1,_),[(4,20)],rfl,kps,kps,⟨Zf (by omega),by dsimp only; omega,hjl,hO5⟩,by dsimp only; omega⟩|(exfalso; simp_all; done)|(exfalso; simp_all; omega)
theorem Zuy {h:Hal} {s:Stg} {q0 q1:Pl3} {i:Nat} {q:Int × Int × Int}:∀ {k:Nat},q∈flI h s q0 q1 i k->∃ j,i<j/\j<k/\q∈flR h s q0 q1 i j
 | 0,hq=>by simp [flI] at hq
 | k+1,hq=>by
  rw [flI] at hq
  rcases Su.1 hq with hq|hq
  ·obtain ⟨j,h1,h2,h3⟩:=Zuy hq
   exact ⟨j,h1,by omega,h3⟩
  ·split at hq
   ·rename_i hlt; exact ⟨k,hlt,by omega,hq⟩
   ·simp at hq
theorem Zuz {h:Hal} {s:Stg} {q0 q1:Pl3} {q:Int × Int × Int}:∀ {k:Nat},q∈flA h s q0 q1 k->∃ i j,i<k/\i<j/\j<nsN h/\q∈flR h s q0 q1 i j
 | 0,hq=>by simp [flA] at hq
 | k+1,hq=>by
  rw [flA] at hq
  rcases Su.1 hq with hq|hq
  ·obtain ⟨i,j,h1,h2,h3,h4⟩:=Zuz hq
   exact ⟨i,j,by omega,h2,h3,h4⟩
  ·obtain ⟨j,h1,h2,h3⟩:=Zuy hq
   exact ⟨k,j,by omega,h1,h2,h3⟩
theorem Yc8 {h:Hal} {s:Stg} (g:Sit h s) (e0:serr h s=0) {q0 q1:Pl3} (hf:Near 5000 q0) (ht:Near 5000 q1) {k:Nat} (hk:k<=nsN h) {q:Int × Int × Int} (hq:q∈flA h s q0 q1 k):1<=q.2.2/\q.2.2<=24300000000:=by
 obtain ⟨i,j,h1,h2,h3,h4⟩:=Zuz hq
 have hns:=Zim h
 unfold flR at h4
 split at h4
 ·rename_i hc
  obtain rfl:=List.mem_singleton.1 h4
  obtain ⟨p,hp⟩:=Option.isSome_iff_exists.1 hc.2
  have hi:0<=(i:Int)/\(i:Int)<nsur h:=by omega
  have hj:0<=(j:Int)/\(j:Int)<nsur h:=by omega
  have hne:=Ya2 g e0 hf ht hi hj hp
  have b1:=(Zdt g (Zgj hi.1 hi.2)).2
  have b2:=(Zdt g (Zgj hj.1 hj.2)).2
  have hd:(Zb h s i).2-(Zb h s j).2≠0:=fun hz=>hne (Prod.ext hc.1 (by omega))
  have m:=Zl (a:=(Zb h s i).2-(Zb h s j).2) (b:=(Zb h s i).2-(Zb h s j).2) (A:=20000) (B:=20000) (by omega) (by omega)
  have hp1:0<((Zb h s i).2-(Zb h s j).2)*((Zb h s i).2-(Zb h s j).2):=by
   rcases Int.lt_or_gt_of_ne hd with c|c
   ·exact Int.mul_pos_of_neg_of_neg c c
   ·exact Int.mul_pos c c
  dsimp only
  unfold sqF
  split<;>omega
 ·simp at h4
theorem d17 (h:Hal) (s:Stg):PCall Tryz.prog 5 [.agg (stgL h s)] ⟨Bo (few3 h s),[]⟩:=by
 have l1:=Zr s.hs
 have l2:=Zr s.dr
 have hk:=Zd (d80 h) Zh
 unfold few3
 generalize few2 h=b at *
 by_cases c1:s.hs.length<=4<;>by_cases c2:s.dr.length<=10<;>cases b
 all_goals
  refine bs.pv (sx:=nos) hk Tryz.func5 (by kernel_rfl) (by kernel_rfl) rfl ?_
  repeat'(first|refine wk3 ?_|(refine wk2 ?_ ?_<;>intro _)|refine wk4 ?_|fail);all_goals(conv=>whnf)
 all_goals first
  | exact Zc rfl
  | (refine Zc ?_; simp_all; done)
  | (refine Zc ?_; simp_all; omega)
  | (exfalso; simp_all; omega)
def peE (z v:Int):Int:=fstL [unl (within z 1 24300000000) 2,spE v]
theorem Ydj (z v:Int):deE ⟨[],[],z⟩ v=peE z v:=by
 unfold deE peE pthE
 dsimp only [List.length_nil]
 rw [if_pos rfl,if_neg (by decide)]
 cases within z 1 24300000000<;>rfl
theorem e11 (x y z v:Int):PCall Tryz.prog 11 [P3 x y z,I v] ⟨.tup [P2 (okP (peE z v) (delV z v)).1 (okP (peE z v) (delV z v)).2,I (peE z v)],[]⟩:=by
 have c1:=d38 ⟨[],[],z⟩ v
 rw [Ydj] at c1
 have c2:PCall Tryz.prog 37 [.agg [.nils,.nils,I z],I v] ⟨.tup [P2 (okP (peE z v) (delV z v)).1 (okP (peE z v) (delV z v)).2,I (peE z v)],[]⟩ :=
  PCall.nilArgs c1 ⟨.inr ⟨_,_,rfl,rfl,.inr ⟨rfl,1,rfl⟩,.inr ⟨rfl,4,rfl⟩,.inl rfl,trivial⟩,NA.rfl,trivial⟩
 have hk0:=Zd c2 Zh
 generalize okP (peE z v) (delV z v)=q at *
 generalize peE z v=E at *
 obtain ⟨q1,q2⟩:=q
 clear c1 c2
 refine bs.pv (sx:=nos) hk0 Tryz.func11 (by kernel_rfl) (by kernel_rfl) rfl ?_
 repeat'(first|refine wk3 ?_|(refine wk2 ?_ ?_<;>intro _)|refine wk4 ?_|fail);all_goals(conv=>whnf)
 exact Zg rfl rfl
noncomputable abbrev rPe:List AV->Option PRes:=famA (fun _:(Int × Int × Int) × Int=>True) (fun q=>[P3 q.1.1 q.1.2.1 q.1.2.2,I q.2]) (fun q=>⟨.tup [P2 (okP (peE q.1.2.2 q.2) (delV q.1.2.2 q.2)).1 (okP (peE q.1.2.2 q.2) (delV q.1.2.2 q.2)).2,I (peE q.1.2.2 q.2)],[]⟩)
theorem Zow (x y z v:Int):rPe [P3 x y z,I v]=some ⟨.tup [P2 (okP (peE z v) (delV z v)).1 (okP (peE z v) (delV z v)).2,I (peE z v)],[]⟩ :=
 Zq (p:=fun _:(Int × Int × Int) × Int=>True) (g:=fun q=>[P3 q.1.1 q.1.2.1 q.1.2.2,I q.2]) (r:=fun q=>⟨.tup [P2 (okP (peE q.1.2.2 q.2) (delV q.1.2.2 q.2)).1 (okP (peE q.1.2.2 q.2) (delV q.1.2.2 q.2)).2,I (peE q.1.2.2 q.2)],[]⟩) (k:=((x,y,z),v)) (fun j hj=>by
  obtain ⟨⟨a,b,c⟩,d⟩:=j
  simp only [Qv,Sj,AV.agg.injEq,true_and,and_true] at hj
  obtain ⟨⟨rfl,rfl,rfl⟩,rfl⟩:=hj
  rfl) trivial
structure Tl (z v:Int) (E:Int) (q:Int × Int):Prop where
 bad:(within z 1 24300000000=false\/spE v≠0)->E=2/\q=(0,0)
 good:within z 1 24300000000=true->spE v=0->E=0/\q=delV z v
theorem Zzv (z v:Int):Tl z v (peE z v) (okP (peE z v) (delV z v)):=by
 have hs:spE v=0\/spE v=2:=by unfold spE unl; cases within v 30000 40000<;>simp
 refine ⟨fun h=>?_,fun h1 h2=>?_⟩
 ·have:peE z v=2:=by
   unfold peE
   cases hw:within z 1 24300000000
   ·rfl
   ·rcases h with h|h
    ·rw [hw] at h; cases h
    ·rcases hs with e|e
     ·exact absurd e h
     ·rw [e]; rfl
  rw [this]
  exact ⟨rfl,rfl⟩
 ·have:peE z v=0:=by unfold peE; rw [h1,h2]; rfl
  rw [this]
  exact ⟨rfl,rfl⟩
theorem d3 (h:Hal) (s:Stg) (a:Ask) (x y z:Int):PCall Tryz.prog 3 [.agg (stgL h s),a.av,P3 x y z] ⟨Bo true,[]⟩:=by
 have c4:=Zyh
 have c5:=d17 h s
 cases hf:few3 h s with
 | false =>
  rw [hf] at c5
  have hk0:=Zd c4 (Zd c5 Zh)
  obtain ⟨fx,fy,fz,tx,ty,tz,n⟩:=a
  refine bs.pv (sx:=nos) hk0 Tryz.func3 (by kernel_rfl) (by kernel_rfl) rfl ?_
  repeat'(first|refine wk3 ?_|(refine wk2 ?_ ?_<;>intro _)|refine wk4 ?_|fail);all_goals(conv=>whnf)
  exact Zc rfl
 | true =>
  rw [hf] at c5
  obtain ⟨hk,hs⟩:=Yba hf
  have c6:=e6 hk hs a
  have c9:=d18 hk hs a
  have c13:=d44 x
  have cT:=Zow x y z x
  have T:=Zzv z x
  by_cases hb:within z 1 24300000000=false\/spE x≠0
  ·obtain ⟨t1,t2⟩:=T.bad hb
   rw [t2,t1] at cT
   have hp1:PCOK Tryz.prog pt0:=Zh
   generalize hpt:pt0=pt1 at hp1
   clear T t1 t2
   by_cases he:askE h s a=0
   rotate_left
   ·rw [if_neg he] at c6
    have hkA:PCOK Tryz.prog (ins 4 (one [] ⟨Bo true,[]⟩) (ins 5 (one [.agg (stgL h s)] ⟨Bo true,[]⟩) (ins 6 (one [h.av,s.av,a.av] ⟨.tup [.isl 3 [],I (askE h s a)],[]⟩) (ins 7 (one [h.av] ⟨h.av,[]⟩) (ins 8 (one [s.av] ⟨s.av,[]⟩) (ins 9 (one [h.av,s.av,a.av] ⟨I (askE h s a),[]⟩) (ins 11 rPe (ins 12 r78 (ins 13 (one [I x] ⟨I (spE x),[]⟩) pt1)))))))))  := Zd c4 (Zd c5 (Zd c6 (Zd (c22f hk.f) (Zd (c29 hs) (Zd c9 (Zu (fun q _=>e11 q.1.1 q.1.2.1 q.1.2.2 q.2) (Zi (fun a res h=>by unfold r78 at h; split at h<;>cases h; exact c30 _ _ _) (Zd c13 hp1))))))))
    generalize askE h s a=E at *
    obtain ⟨fx,fy,fz,tx,ty,tz,n⟩:=a
    clear c4 c5 c6 c9 c13
    refine bs.pv (sx:=nos) hkA Tryz.func3 (by kernel_rfl) (by kernel_rfl) rfl ?_
    repeat'(first|refine wk3 ?_|(refine wk2 ?_ ?_<;>intro _)|refine wk4 ?_|fail);all_goals(conv=>whnf)
    all_goals first|exact Zc rfl|(refine Zc ?_; simp; done)|(refine Zc ?_; simp_all; done)|(exfalso; clear hkA; simp_all; done)|(exfalso; clear hkA; simp_all; omega)
   have A:=Xh he
   have e0:=A.e0
   have g:=Zfd hk hs e0
   have c10:=e10 hk hs a he
   have hsq:=fun q hq=>Yc8 g e0 A.f A.t (k:=nsN h) (Qf _) (q:=q) hq
   have hfl:=Zi5 h s (qF a) (qT a) (nsN h)
   have hn18:nsN h<=18:=by have:=g.fine.le; unfold nsN; omega
   have h2:nsN h*nsN h<=18*18:=Tz hn18 hn18
   rw [if_pos he,he] at c6
   rw [he] at c9
   generalize flA h s (qF a) (qT a) (nsN h)=R at *
   have hkA:PCOK Tryz.prog (ins 4 (one [] ⟨Bo true,[]⟩) (ins 5 (one [.agg (stgL h s)] ⟨Bo true,[]⟩) (ins 6 (one [h.av,s.av,a.av] ⟨.tup [.isl 3 (R.map fl3),I 0],[]⟩) (ins 7 (one [h.av] ⟨h.av,[]⟩) (ins 8 (one [s.av] ⟨s.av,[]⟩) (ins 9 (one [h.av,s.av,a.av] ⟨I 0,[]⟩) (ins 10 (one [h.av,s.av,a.av] ⟨.isl 3 (R.map fl3),[]⟩) (ins 11 rPe (ins 12 r78 (ins 13 (one [I x] ⟨I (spE x),[]⟩) pt1))))))))))  := Zd c4 (Zd c5 (Zd c6 (Zd (c22f hk.f) (Zd (c29 hs) (Zd c9 (Zd c10 (Zu (fun q _=>e11 q.1.1 q.1.2.1 q.1.2.2 q.2) (Zi (fun a res h=>by unfold r78 at h; split at h<;>cases h; exact c30 _ _ _) (Zd c13 hp1)))))))))
   obtain ⟨fx,fy,fz,tx,ty,tz,n⟩:=a
   clear c4 c5 c6 c9 c13 c10 he A
   have lR:(R.map fl3).length=R.length:=by simp
   refine bs.pv (sx:=nos) hkA Tryz.func3 (by kernel_rfl) (by kernel_rfl) rfl ?_
   repeat'(first|refine wk3 ?_|(refine wk2 ?_ ?_<;>intro _)|refine wk4 ?_|fail);all_goals(conv=>whnf)
   refine Zw (S:=Nat × Int) (fun t=>R.length-t.1)
    (fun t=>[(3,.ptr 0 0 0),(4,.ptr 1 0 0),(5,.ptr 2 0 0),(6,Bo false),(7,.isl 3 (R.map fl3)),(8,I 0),(9,I 0),(10,.isl 3 (R.map fl3)),(11,I t.2)])
    (fun _=>[(2,.row 3 [[I x,I y,I z]] true false),(1,.row 7 [[I fx,I fy,I fz,I tx,I ty,I tz,I n]] true false),(0,.row 11 [stgL h s] true false)]) 16 16
    (fun t=>t.2=t.1/\t.1<=R.length) (0,0) ⟨rfl,Qo _⟩ (Qk rfl) [] rfl (kps) (kps) ?_
   rintro ⟨i,ii⟩ ⟨hii,hi⟩
   dsimp only at hii hi ⊢
   subst hii
   by_cases hlt:i<R.length
   ·have e1:(R.map fl3)[((i:Nat):Int).toNat]?=some (fl3 R[i]):=by simp [hlt]
    have hq:=hsq R[i] (Qt hlt)
    generalize R[i]=r at *
    obtain ⟨r1,r2,r3⟩:=r
    dsimp only at e1 hq
    have cP:=Zow r1 r2 r3 30000
    obtain ⟨u1,u2⟩:=(Zzv r3 30000).good (within_iff.2 hq) rfl
    rw [u2,u1] at cP
    generalize delV r3 30000=dd at *
    obtain ⟨dd1,dd2⟩:=dd
    refine bs.av (sx:=nos) hkA ?_
    clear hsq
    repeat'(first|refine wk3 ?_|(refine wk2 ?_ ?_<;>intro _)|refine wk4 ?_|fail);all_goals(conv=>whnf)
    all_goals first|exact Qn ⟨(i+1,_),[],rfl,kps,kps,⟨Zf (by omega),hlt⟩,by dsimp only; omega⟩|(exfalso; clear hkA; simp_all; done)
   ·obtain rfl:i=R.length:=by omega
    clear hsq
    refine bs.av (sx:=nos) hkA ?_
    repeat'(first|refine wk3 ?_|(refine wk2 ?_ ?_<;>intro _)|refine wk4 ?_|fail);all_goals(conv=>whnf)
    all_goals first|exact Zc rfl|(refine Zc ?_; simp; done)|(refine Zc ?_; simp_all; done)|(exfalso; clear hkA; simp_all; done)|(exfalso; clear hkA; simp_all; omega)
  ·have w1:within z 1 24300000000=true:=by
    cases hw:within z 1 24300000000
    ·exact absurd (.inl hw) hb
    ·rfl
   have w2:spE x=0:=Decidable.byContradiction fun q=>hb (.inr q)
   obtain ⟨t1,t2⟩:=T.good w1 w2
   have w3:=within_iff.1 w1
   have c14:=d45 w3.1 w3.2 w2
   rw [t2,t1] at cT
   rw [w2] at c13
   clear T t1 t2 hb
   generalize hdv:delV z x=dv at *
   obtain ⟨dv1,dv2⟩:=dv
   clear hdv
   have hp1:=Zd c14 Zh
   by_cases he:askE h s a=0
   rotate_left
   ·rw [if_neg he] at c6
    have hkA:PCOK Tryz.prog (ins 4 (one [] ⟨Bo true,[]⟩) (ins 5 (one [.agg (stgL h s)] ⟨Bo true,[]⟩) (ins 6 (one [h.av,s.av,a.av] ⟨.tup [.isl 3 [],I (askE h s a)],[]⟩) (ins 7 (one [h.av] ⟨h.av,[]⟩) (ins 8 (one [s.av] ⟨s.av,[]⟩) (ins 9 (one [h.av,s.av,a.av] ⟨I (askE h s a),[]⟩) (ins 11 rPe (ins 12 r78 (ins 13 (one [I x] ⟨I 0,[]⟩) (ins 14 (one [I z,I x] ⟨P2 dv1 dv2,[]⟩) pt0))))))))))  := Zd c4 (Zd c5 (Zd c6 (Zd (c22f hk.f) (Zd (c29 hs) (Zd c9 (Zu (fun q _=>e11 q.1.1 q.1.2.1 q.1.2.2 q.2) (Zi (fun a res h=>by unfold r78 at h; split at h<;>cases h; exact c30 _ _ _) (Zd c13 hp1))))))))
    generalize askE h s a=E at *
    obtain ⟨fx,fy,fz,tx,ty,tz,n⟩:=a
    clear c4 c5 c6 c9 c13
    refine bs.pv (sx:=nos) hkA Tryz.func3 (by kernel_rfl) (by kernel_rfl) rfl ?_
    repeat'(first|refine wk3 ?_|(refine wk2 ?_ ?_<;>intro _)|refine wk4 ?_|fail);all_goals(conv=>whnf)
    all_goals first|exact Zc rfl|(refine Zc ?_; simp; done)|(refine Zc ?_; simp_all; done)|(exfalso; clear hkA; simp_all; done)|(exfalso; clear hkA; simp_all; omega)
   have A:=Xh he
   have e0:=A.e0
   have g:=Zfd hk hs e0
   have c10:=e10 hk hs a he
   have hsq:=fun q hq=>Yc8 g e0 A.f A.t (k:=nsN h) (Qf _) (q:=q) hq
   have hfl:=Zi5 h s (qF a) (qT a) (nsN h)
   have hn18:nsN h<=18:=by have:=g.fine.le; unfold nsN; omega
   have h2:nsN h*nsN h<=18*18:=Tz hn18 hn18
   rw [if_pos he,he] at c6
   rw [he] at c9
   generalize flA h s (qF a) (qT a) (nsN h)=R at *
   have hkA:PCOK Tryz.prog (ins 4 (one [] ⟨Bo true,[]⟩) (ins 5 (one [.agg (stgL h s)] ⟨Bo true,[]⟩) (ins 6 (one [h.av,s.av,a.av] ⟨.tup [.isl 3 (R.map fl3),I 0],[]⟩) (ins 7 (one [h.av] ⟨h.av,[]⟩) (ins 8 (one [s.av] ⟨s.av,[]⟩) (ins 9 (one [h.av,s.av,a.av] ⟨I 0,[]⟩) (ins 10 (one [h.av,s.av,a.av] ⟨.isl 3 (R.map fl3),[]⟩) (ins 11 rPe (ins 12 r78 (ins 13 (one [I x] ⟨I 0,[]⟩) (ins 14 (one [I z,I x] ⟨P2 dv1 dv2,[]⟩) pt0)))))))))))  := Zd c4 (Zd c5 (Zd c6 (Zd (c22f hk.f) (Zd (c29 hs) (Zd c9 (Zd c10 (Zu (fun q _=>e11 q.1.1 q.1.2.1 q.1.2.2 q.2) (Zi (fun a res h=>by unfold r78 at h; split at h<;>cases h; exact c30 _ _ _) (Zd c13 hp1)))))))))
   obtain ⟨fx,fy,fz,tx,ty,tz,n⟩:=a
   clear c4 c5 c6 c9 c13 c10 he A
   have lR:(R.map fl3).length=R.length:=by simp
   refine bs.pv (sx:=nos) hkA Tryz.func3 (by kernel_rfl) (by kernel_rfl) rfl ?_
   repeat'(first|refine wk3 ?_|(refine wk2 ?_ ?_<;>intro _)|refine wk4 ?_|fail);all_goals(conv=>whnf)
   refine Zw (S:=Nat × Int) (fun t=>R.length-t.1)
    (fun t=>[(3,.ptr 0 0 0),(4,.ptr 1 0 0),(5,.ptr 2 0 0),(6,Bo false),(7,.isl 3 (R.map fl3)),(8,I 0),(9,I 0),(10,.isl 3 (R.map fl3)),(11,I t.2)])
    (fun _=>[(2,.row 3 [[I x,I y,I z]] true false),(1,.row 7 [[I fx,I fy,I fz,I tx,I ty,I tz,I n]] true false),(0,.row 11 [stgL h s] true false)]) 16 16
    (fun t=>t.2=t.1/\t.1<=R.length) (0,0) ⟨rfl,Qo _⟩ (Qk rfl) [] rfl (kps) (kps) ?_
   rintro ⟨i,ii⟩ ⟨hii,hi⟩
   dsimp only at hii hi ⊢
   subst hii
   by_cases hlt:i<R.length
   ·have e1:(R.map fl3)[((i:Nat):Int).toNat]?=some (fl3 R[i]):=by simp [hlt]
    have hq:=hsq R[i] (Qt hlt)
    generalize R[i]=r at *
    obtain ⟨r1,r2,r3⟩:=r
    dsimp only at e1 hq
    have cP:=Zow r1 r2 r3 30000
    obtain ⟨u1,u2⟩:=(Zzv r3 30000).good (within_iff.2 hq) rfl
    rw [u2,u1] at cP
    generalize delV r3 30000=dd at *
    obtain ⟨dd1,dd2⟩:=dd
    refine bs.av (sx:=nos) hkA ?_
    clear hsq
    repeat'(first|refine wk3 ?_|(refine wk2 ?_ ?_<;>intro _)|refine wk4 ?_|fail);all_goals(conv=>whnf)
    all_goals first|exact Qn ⟨(i+1,_),[],rfl,kps,kps,⟨Zf (by omega),hlt⟩,by dsimp only; omega⟩|(exfalso; clear hkA; simp_all; done)
   ·obtain rfl:i=R.length:=by omega
    clear hsq
    refine bs.av (sx:=nos) hkA ?_
    repeat'(first|refine wk3 ?_|(refine wk2 ?_ ?_<;>intro _)|refine wk4 ?_|fail);all_goals(conv=>whnf)
    all_goals first|exact Zc rfl|(refine Zc ?_; simp; done)|(refine Zc ?_; simp_all; done)|(exfalso; clear hkA; simp_all; done)|(exfalso; clear hkA; simp_all; omega)
theorem Ydz {m:Nat} {x:List AV} (hw:WT TT (m+10+1) 28 x):∃ h:Hal,x=h.cells:=by
 have h0:=(Xz (T:=TT) (t:=28) rfl rfl hw).1
 have h0:x.length=9:=h0
 match x,h0 with
 | [x0,x1,x2,x3,x4,x5,x6,x7,x8],_ =>
  obtain ⟨s,hs,hs2⟩:=wStr (Zm (T:=TT) (t:=28) rfl rfl hw 0 rfl rfl)
  obtain ⟨n,hn⟩:=wInt (Zm (T:=TT) (t:=28) rfl rfl hw 1 rfl rfl)
  obtain ⟨t,ht,ht2⟩:=wStr (Zm (T:=TT) (t:=28) rfl rfl hw 2 rfl rfl)
  obtain ⟨u,hu,hu2⟩:=wStr (Zm (T:=TT) (t:=28) rfl rfl hw 3 rfl rfl)
  obtain ⟨e4,h4,_,g4⟩:=Zdn (T:=TT) (t:=22) rfl rfl rfl (Zm (T:=TT) (t:=28) rfl rfl hw 4 rfl rfl)
  obtain ⟨e5,h5,_,g5⟩:=Zdn (T:=TT) (t:=23) rfl rfl rfl (Zm (T:=TT) (t:=28) rfl rfl hw 5 rfl rfl)
  obtain ⟨e6,h6,_,g6⟩:=Zdn (T:=TT) (t:=24) rfl rfl rfl (Zm (T:=TT) (t:=28) rfl rfl hw 6 rfl rfl)
  obtain ⟨e7,h7,_,g7⟩:=Zdn (T:=TT) (t:=25) rfl rfl rfl (Zm (T:=TT) (t:=28) rfl rfl hw 7 rfl rfl)
  obtain ⟨e8,h8,_,g8⟩:=Zdn (T:=TT) (t:=26) rfl rfl rfl (Zm (T:=TT) (t:=28) rfl rfl hw 8 rfl rfl)
  obtain ⟨l4,k4,_⟩:=Zrm (f:=Mat.av) (fun x hx=>wMat hx) e4 g4
  obtain ⟨l5,k5,_⟩:=Zrm (f:=pt) (P:=fun _=>True) (fun x hx=>(wP2 hx).imp fun p hp=>⟨hp,trivial⟩) e5 g5
  obtain ⟨l6,k6,_⟩:=Zrm (f:=Wal.av) (fun x hx=>wWal hx) e6 g6
  obtain ⟨l7,k7,_⟩:=Zrm (f:=Can.av) (fun x hx=>wCan hx) e7 g7
  obtain ⟨l8,k8,_⟩:=Zrm (f:=Sea.av) (fun x hx=>wSea hx) e8 g8
  have hs:[x0]=[.str s]:=hs
  have hn:[x1]=[I n]:=hn
  have ht:[x2]=[.str t]:=ht
  have hu:[x3]=[.str u]:=hu
  have h4:[x4]=[.isl 6 e4]:=h4
  have h5:[x5]=[.isl 2 e5]:=h5
  have h6:[x6]=[.isl 3 e6]:=h6
  have h7:[x7]=[.isl 7 e7]:=h7
  have h8:[x8]=[.isl 4 e8]:=h8
  cases hs; cases hn; cases ht; cases hu; cases h4; cases h5; cases h6; cases h7; cases h8
  exact ⟨⟨s,n,t,u,l4,l5,l6,l7,l8⟩,by rw [k4,k5,k6,k7,k8]⟩
theorem wStg {m:Nat} {x:List AV} (hw:WT TT (m+10+1) 31 x):∃ s:Stg,x=s.cells:=by
 have h0:=(Xz (T:=TT) (t:=31) rfl rfl hw).1
 have h0:x.length=2:=h0
 match x,h0 with
 | [x0,x1],_ =>
  obtain ⟨a,ha⟩:=Zzt (Zm (T:=TT) (t:=31) rfl rfl hw 0 rfl rfl)
  obtain ⟨b,hb⟩:=Zzt (Zm (T:=TT) (t:=31) rfl rfl hw 1 rfl rfl)
  have ha:[x0]=[.isl 1 (nl a)]:=ha
  have hb:[x1]=[.isl 1 (nl b)]:=hb
  cases ha; cases hb
  exact ⟨⟨a,b⟩,rfl⟩
theorem Zwy {a:AV} (h:WTA TT 33 a):∃ (h:Hal) (s:Stg),a = .agg (stgL h s):=by
 obtain ⟨x,m,rfl,hw⟩:=Zok (T:=TT) (t:=33) h rfl rfl 11
 have h0:=(Xz (T:=TT) (t:=33) rfl rfl hw).1
 have h0:x.length=11:=h0
 match x,h0 with
 | [x0,x1,x2,x3,x4,x5,x6,x7,x8,x9,x10],_ =>
  obtain ⟨hl,hh⟩:=Ydz (Zm (T:=TT) (t:=33) rfl rfl hw 0 rfl rfl)
  obtain ⟨st,hs⟩:=wStg (Zm (T:=TT) (t:=33) rfl rfl hw 1 rfl rfl)
  have hh:[x0,x1,x2,x3,x4,x5,x6,x7,x8]=hl.cells:=hh
  have hs:[x9,x10]=st.cells:=hs
  cases hh; cases hs
  exact ⟨hl,st,rfl⟩
theorem Ydv {a:AV} (h:WTA TT 37 a):∃ b:Ask,a=b.av:=by
 obtain ⟨x,m,rfl,hw⟩:=Zok (T:=TT) (t:=37) h rfl rfl 11
 have h0:=(Xz (T:=TT) (t:=37) rfl rfl hw).1
 have h0:x.length=7:=h0
 match x,h0 with
 | [x0,x1,x2,x3,x4,x5,x6],_ =>
  obtain ⟨n1,e1,l1,_⟩:=Zhy (T:=TT) (t:=35) rfl rfl rfl (Zm (T:=TT) (t:=37) rfl rfl hw 0 rfl rfl)
  obtain ⟨n2,e2,l2,_⟩:=Zhy (T:=TT) (t:=35) rfl rfl rfl (Zm (T:=TT) (t:=37) rfl rfl hw 1 rfl rfl)
  obtain ⟨n,hn⟩:=wInt (Zm (T:=TT) (t:=37) rfl rfl hw 2 rfl rfl)
  have l1:n1.length=3:=l1
  have l2:n2.length=3:=l2
  have hn:[x6]=[I n]:=hn
  match n1,l1,n2,l2 with
  | [a,b,c],_,[d,e,f],_ =>
   have e1:[x0,x1,x2]=[I a,I b,I c]:=e1
   have e2:[x3,x4,x5]=[I d,I e,I f]:=e2
   cases e1; cases e2; cases hn
   exact ⟨⟨a,b,c,d,e,f,n⟩,rfl⟩
theorem Yc7 {a:AV} (h:WTA TT 39 a):∃ x y z:Int,a=P3 x y z:=by
 obtain ⟨x,m,rfl,hw⟩:=Zok (T:=TT) (t:=39) h rfl rfl 4
 obtain ⟨ns,h1,h2,_⟩:=Zhy (T:=TT) (t:=39) rfl rfl rfl hw
 have h2:ns.length=3:=h2
 match ns,h2 with
 | [p,q,r],_=>exact ⟨p,q,r,by rw [h1]; rfl⟩
def tysU:List TypeId:=[33,37,39,35,28,31,22,23,24,25,26,29,117,119,121,92,130,90,9,3]
theorem Ybw:tysU.all (Zh7 (tget tbl) tysU)=true:=by kernel_rfl
end Go.Proofs.YtipbliclbihaeaaGreat
