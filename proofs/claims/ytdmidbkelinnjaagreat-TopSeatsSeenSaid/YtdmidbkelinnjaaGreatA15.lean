/- A part of the proof: lemmas. -/
import Derived.Test.YtdmidbkelinnjaaGreatA14
import Derived.Test.YtdmidbkelinnjaaGreatA12
import Derived.Test.YtdmidbkelinnjaaGreatA11
set_option linter.unusedVariables false
set_option linter.unusedSimpArgs false
set_option maxRecDepth 100000
set_option maxHeartbeats 16000000
open Bool renaming and_eq_true->Qc,eq_false_iff->Qp
open Go.Sx.AV.int renaming injEq->Wh
open Go.Sx.Done renaming mk->Qo
open List.cons renaming inj->Hy,injEq->Rb
open Nat renaming le_of_ble_eq_true->Qq,zero_le->Qm
namespace Go.Proofs.YtdmidbkelinnjaaGreat
open Go Go.Sx
def imgF (h:Hal) (s:Stg):Bool:=few3 h s&&(decide (h.err=0)&&decide (setE h s=0))
theorem e5 (h:Hal) (s:Stg):PCall Tryz.prog 5 [.agg (stgL h s)] ⟨Bo (imgF h s),[]⟩:=by
 have l1:=Zl s.hs
 have l2:=Zl s.dr
 have c17:=d80 h
 cases hf:few3 h s with
 | false =>
  rw [show imgF h s=false by unfold imgF; rw [hf]; rfl]
  have hk:=Ze c17 Zd
  unfold few3 at hf
  clear c17
  generalize few2 h=b at *
  by_cases c1:s.hs.length<=4<;>by_cases c2:s.dr.length<=10<;>cases b
  all_goals try (exfalso; clear hk; simp_all; done)
  all_goals
   refine bs.pv (sx:=nos) hk Tryz.func5 (by kernel_rfl) (by kernel_rfl) rfl ?_
   clear hk
   repeat'(first|refine wk3 ?_|(refine wk2 ?_ ?_<;>intro _)|refine wk4 ?_|fail);all_goals(conv=>whnf)
  all_goals first
   | exact Zc rfl
   | (refine Zc ?_; simp_all; done)
   | (refine Zc ?_; simp_all; omega)
   | (exfalso; simp_all; omega)
 | true =>
  obtain ⟨hk,hs⟩:=Zvl hf
  have c18:=d90 hk
  have c19:=c75 hk.f hs
  have e:imgF h s=(decide (h.err=0)&&decide (setE h s=0)):=by unfold imgF; rw [hf]; rfl
  have ht:few2 h=true/\s.hs.length<=4/\s.dr.length<=10:=by unfold few3 at hf; simpa using hf
  rw [ht.1] at c17
  rw [e]
  have hk0:=Ze c17 (Ze c18 (Ze c19 Zd))
  obtain ⟨_,h4,h10⟩:=ht
  clear c17 c18 c19 e hf hk hs
  generalize h.err=E at *
  generalize setE h s=F at *
  by_cases e1:E=0<;>by_cases e2:F=0
  all_goals
   refine bs.pv (sx:=nos) hk0 Tryz.func5 (by kernel_rfl) (by kernel_rfl) rfl ?_
   clear hk0
   repeat'(first|refine wk3 ?_|(refine wk2 ?_ ?_<;>intro _)|refine wk4 ?_|fail);all_goals(conv=>whnf)
  all_goals first
   | exact Zc rfl
   | (refine Zc ?_; simp_all; done)
   | (refine Zc ?_; simp_all; omega)
   | (exfalso; simp_all; omega)
theorem Yb7 {h:Hal} {s:Stg} (e:imgF h s=true):h.ok/\s.few/\serr h s=0:=by
 unfold imgF at e
 simp only [Qc,decide_eq_true_eq] at e
 obtain ⟨hk,hs⟩:=Zvl e.1
 refine ⟨hk,hs,?_⟩
 unfold serr
 rw [if_pos e.2.1]; exact e.2.2
theorem Yds {h:Hal} (g:h.fine) {x y z:Int} (e:plaE h x y z=0):Zgp h x y z=0:=by
 obtain ⟨⟨p1,p2,p3⟩,hi⟩:=Zdb e
 unfold Zgp
 rw [Zdu,Zdu,Zdu,within_iff.2 p1,within_iff.2 p2,within_iff.2 p3,Zyd g p1 p2,hi]
 rfl
theorem Ya7 {h:Hal} (g:h.fine) {i:Nat} (hi:i<h.ss.length):plaE h h.ss[i].x h.ss[i].y h.ss[i].z=0:=by
 have:=g.sea i hi
 unfold Zhr at this
 split at this
 ·split at this
  ·cases this
  ·split at this
   ·rename_i hp
    split at this
    ·rename_i hin
     unfold plc at hp
     simp only [Qc] at hp
     unfold plaE plcB
     rw [hp.1.1,hp.1.2,hp.2,hin]
     rfl
    ·cases this
   ·cases this
 ·cases this
def skOf (x y z:Int) (c:Sea):Ask:=⟨x,y,z,c.x,c.y,c.z,1⟩
theorem Ztl {h:Hal} {s:Stg} (e0:serr h s=0) (g:h.fine) {x y z:Int} (e:plaE h x y z=0) {i:Nat} (hi:i<h.ss.length) (hne:¬ (h.ss[i].x=x/\h.ss[i].y=y/\h.ss[i].z=z)):askE h s (skOf x y z h.ss[i])=0:=by
 have h2:=Ya7 g hi
 unfold askE skOf
 rw [if_pos e0]
 dsimp only
 rw [e,h2]
 have hs:Ask.same ⟨x,y,z,h.ss[i].x,h.ss[i].y,h.ss[i].z,1⟩=false:=by
  unfold Ask.same
  rw [Qp]
  intro hc
  simp only [Qc,decide_eq_true_eq] at hc
  exact hne ⟨hc.1.symm,hc.2.1.symm,hc.2.2.symm⟩
 rw [hs]
 rfl
theorem Yb9 {f:Pt->Pt->Bool} {x y z:Int} {l:List Sea} {j:Nat} (hj:j<l.length):hasN (seeL f x y z 0 l) j=(Zmv l[j] x y z||f ⟨x,y,z,1⟩ ⟨l[j].x,l[j].y,l[j].z,1⟩):=by
 have:=Ztn (f:=f) (x:=x) (y:=y) (z:=z) (i:=0) hj
 rw [Nat.zero_add] at this
 rw [Bool.eq_iff_iff,<-this]
 unfold hasN
 rw [List.any_eq_true]
 constructor
 ·rintro ⟨m,hm,e⟩
  rw [<-of_decide_eq_true e]; exact hm
 ·intro hm; exact ⟨_,hm,by simp⟩
noncomputable abbrev rHs (L:List Int):List AV->Option PRes:=famA (fun _:Int=>True) (fun n=>[.isl 1 (nl L),I n]) (fun n=>⟨Bo (hasN L n),[]⟩)
theorem Ybe (L:List Int) (n:Int):rHs L [.isl 1 (nl L),I n]=some ⟨Bo (hasN L n),[]⟩ :=
 Yb (p:=fun _:Int=>True) (g:=fun n=>[.isl 1 (nl L),I n]) (r:=fun n=>⟨Bo (hasN L n),[]⟩) (k:=n) (fun j hj=>by
  simp only [Rb,Wh,true_and,and_true] at hj
  rw [hj]) trivial
abbrev dirL (h:Hal) (s:Stg) (a:Ask):List Pth:=refL (Yr h s (qF a) (qT a)) (nsN h) 1
noncomputable abbrev rPs (h:Hal) (s:Stg):List AV->Option PRes:=famA (fun a:Ask=>askE h s a=0/\a.n=1) (fun a=>[h.av,s.av,a.av]) (fun a=>⟨.tup [.isl 3 ((dirL h s a).map gcP),I 0],[]⟩)
theorem Ycv {a b:Ask} (h:a.av=b.av):a=b:=by
 obtain ⟨a1,a2,a3,a4,a5,a6,a7⟩:=a
 obtain ⟨b1,b2,b3,b4,b5,b6,b7⟩:=b
 simp only [Rb,Wh,AV.agg.injEq,true_and,and_true] at h
 obtain ⟨rfl,rfl,rfl,rfl,rfl,rfl,rfl⟩:=h
 rfl
theorem Ybc {h:Hal} {s:Stg} {a:Ask} (e:askE h s a=0) (hn:a.n=1):rPs h s [h.av,s.av,a.av]=some ⟨.tup [.isl 3 ((dirL h s a).map gcP),I 0],[]⟩ :=
 Yb (p:=fun a:Ask=>askE h s a=0/\a.n=1) (g:=fun a=>[h.av,s.av,a.av]) (r:=fun a=>⟨.tup [.isl 3 ((dirL h s a).map gcP),I 0],[]⟩) (k:=a) (fun j hj=>by
  rw [Ycv (Hy (Hy (Hy hj).2).2).1]) ⟨e,hn⟩
theorem Ydh {h:Hal} (hk:h.ok) {s:Stg} (hs:s.few) (e0:serr h s=0) {pt:PC} (hp:PCOK Tryz.prog pt):PCOK Tryz.prog (ins 11 (rPs h s) pt):=Xa (fun a ha=>by
 have h1:=d55 hk hs Tryz.sorts114 a ha.1 (by rw [ha.2]; omega) (by have:=Zzy hk e0; omega)
 rw [ha.2] at h1
 exact h1) hp
theorem d3 (h:Hal) (s:Stg) (x y z:Int):PCall Tryz.prog 3 [.agg (stgL h s),P3 x y z] ⟨Bo true,[]⟩:=by
 have c4:=Zu0
 have c5:=e5 h s
 cases hf:imgF h s with
 | false =>
  rw [hf] at c5
  have hk0:=Ze c4 (Ze c5 Zd)
  refine bs.pv (sx:=nos) hk0 Tryz.func3 (by kernel_rfl) (by kernel_rfl) rfl ?_
  repeat'(first|refine wk3 ?_|(refine wk2 ?_ ?_<;>intro _)|refine wk4 ?_|fail);all_goals(conv=>whnf)
  exact Zc rfl
 | true =>
  rw [hf] at c5
  obtain ⟨hk,hs,e0⟩:=Yb7 hf
  have he:=Zfh e0
  have g:=Zgz hk he
  have c6:=d27 hk he x y z
  by_cases hp:plaE h x y z=0
  rotate_left
  ·have hk0:=Ze c4 (Ze c5 (Ze c6 Zd))
   clear c4 c5 c6
   generalize plaE h x y z=E at *
   refine bs.pv (sx:=nos) hk0 Tryz.func3 (by kernel_rfl) (by kernel_rfl) rfl ?_
   repeat'(first|refine wk3 ?_|(refine wk2 ?_ ?_<;>intro _)|refine wk4 ?_|fail);all_goals(conv=>whnf)
   all_goals first|exact Zc rfl|(exfalso; simp_all; done)
  have hs0:seeE h s x y z=0:=by unfold seeE; rw [if_pos e0]; exact Yds g hp
  have c7:=c68o hk hs hs0
  rw [hp] at c6
  have hLl:=Zlh (Vt h s) x y z h.ss 0
  have hhas:=fun j (hj:j<h.ss.length)=>Yb9 (f:=Vt h s) (x:=x) (y:=y) (z:=z) hj
  have hl5:h.ss.length<1000:=hk.f.2.2.2.2.1
  generalize seeL (Vt h s) x y z 0 h.ss=L at *
  have hkA:=Ze c4 (Ze c5 (Ze c6 (Ze c7 (Ze (c22f hk.f) (Ze (c29 hs) (Ydh hk hs e0 (Xa (f0:=10) (p:=fun _:Int=>True) (g:=fun n=>[.isl 1 (nl L),I n]) (r:=fun n=>⟨Bo (hasN L n),[]⟩) (fun n _=>c26 (ns:=L) (by omega) n) Zd)))))))
  have lss:=Zak h.ss
  have lnl:=Zl L
  refine bs.pv (sx:=nos) hkA Tryz.func3 (by kernel_rfl) (by kernel_rfl) rfl ?_
  repeat'(first|refine wk3 ?_|(refine wk2 ?_ ?_<;>intro _)|refine wk4 ?_|fail);all_goals(conv=>whnf)
  refine Zz (S:=Nat × Int) (fun t=>h.ss.length-t.1)
   (fun t=>[(2,.ptr 0 0 0),(3,.ptr 1 0 0),(4,Bo false),(5,.isl 1 (nl L)),(6,I 0),(7,I t.2)])
   (fun _=>[(1,.row 3 [[I x,I y,I z]] true false),(0,.row 11 [stgL h s] true false)]) 15 15
   (fun t=>t.2=t.1/\t.1<=h.ss.length) (0,0) ⟨rfl,Qm _⟩ (Qq rfl) [] rfl (kps) (kps) ?_
  rintro ⟨i,ii⟩ ⟨hii,hi⟩
  dsimp only at hii hi ⊢
  subst hii
  by_cases hlt:i<h.ss.length
  rotate_left
  ·refine bs.av (sx:=nos) hkA ?_
   repeat'(first|refine wk3 ?_|(refine wk2 ?_ ?_<;>intro _)|refine wk4 ?_|fail);all_goals(conv=>whnf)
   exact Zc rfl
  have e1:=Zkf hlt
  have cH:=Ybe L i
  rw [hhas i hlt] at cH
  have hso:=Ztl e0 g hp hlt
  generalize h.ss[i]=c at *
  by_cases hat:c.x=x/\c.y=y/\c.z=z
  ·obtain ⟨a1,a2,a3⟩:=hat
   rw [show Zmv c x y z=true by unfold Zmv; simp [a1,a2,a3],Bool.true_or] at cH
   obtain ⟨cn,cx,cy,cz⟩:=c
   dsimp only at a1 a2 a3
   subst a1 a2 a3
   refine bs.av (sx:=nos) hkA ?_
   clear hkA
   repeat'(first|refine wk3 ?_|(refine wk2 ?_ ?_<;>intro _)|refine wk4 ?_|fail);all_goals(conv=>whnf)
   all_goals first
    | exact Qo ⟨(i+1,_),[],rfl,kps,kps,⟨Zi (by omega),hlt⟩,by dsimp only; omega⟩
    | (exfalso; simp_all; done)
  have ha:=hso hat
  have cP:rPs h s [h.av,s.av,(Ask.mk x y z c.x c.y c.z 1).av]=some ⟨.tup [.isl 3 ((dirL h s (skOf x y z c)).map gcP),I 0],[]⟩:=Ybc (h:=h) (s:=s) ha rfl
  have hpl:Zmv c x y z=false:=by
   unfold Zmv
   rw [Qp]
   intro hc
   simp only [Qc,decide_eq_true_eq] at hc
   exact hat ⟨hc.1,hc.2.1,hc.2.2.1⟩
  rw [hpl,Bool.false_or] at cH
  have A:=Xz ha
  have hcnt:cntS [] (dirL h s (skOf x y z c))=if Vt h s ⟨x,y,z,1⟩ ⟨c.x,c.y,c.z,1⟩=true then 1 else 0:=by
   rw [Zwf (fun L p hp=>Zdy hp) rfl (by simp),Zys,Zyt e0 A.f A.t (Yar A.ne)]
   rfl
  have hfirst:∀ k (hl:k<(dirL h s (skOf x y z c)).length),(dirL h s (skOf x y z c))[k].ss=[]->k=0:=fun k hl hz=>Zv5 hk hs ha rfl hl hz
  have hlen:(dirL h s (skOf x y z c)).length<=343:=Yba (Yr h s (qF (skOf x y z c)) (qT (skOf x y z c))) (m:=nsN h) (o:=1) (Zzy hk e0) (by omega)
  have hraw:(decide (c.x=x)&&(decide (c.y=y)&&(decide (c.z=z)&&true)))=false:=hpl
  generalize dirL h s (skOf x y z c)=l at *
  generalize Vt h s ⟨x,y,z,1⟩ ⟨c.x,c.y,c.z,1⟩=fr at *
  have lgc:(l.map gcP).length=l.length:=by simp
  clear hso ha A hpl hhas hat
  obtain ⟨cn,cx,cy,cz⟩:=c
  dsimp only at cP cH e1 hraw
  refine bs.av (sx:=nos) hkA ?_
  repeat'(first|refine wk3 ?_|(refine wk2 ?_ ?_<;>intro _)|refine wk4 ?_|fail);all_goals(conv=>whnf)
  all_goals try (exfalso; clear hkA hfirst hcnt cP cH; simp_all; done)
  refine Zz (S:=Nat × Int × Int) (fun t=>l.length-t.1)
   (fun t=>[(2,.ptr 0 0 0),(3,.ptr 1 0 0),(4,Bo false),(5,.isl 1 (nl L)),(6,I 0),(7,I (i:Int)),(9,Bo fr),(10,.isl 3 (l.map gcP)),(12,I t.2.2),(13,I t.2.1)])
   (fun _=>[(1,.row 3 [[I x,I y,I z]] true false),(0,.row 11 [stgL h s] true false)]) 31 31
   (fun t=>t.2.1=t.1/\t.1<=l.length/\t.2.2=((cntS [] (l.take t.1):Nat):Int)) (0,0,0) ⟨rfl,Qm _,rfl⟩ (Qq rfl) [] rfl (kps) (kps) ?_
  rintro ⟨k,ik,d⟩ ⟨hik,hk2,hd⟩
  dsimp only at hik hk2 hd ⊢
  subst hik
  by_cases hkl:k<l.length
  ·have e2:(l.map gcP)[((k:Nat):Int).toNat]?=some (gcP l[k]):=by simp [hkl]
   have hsu:=Zwg (l:=[]) hkl
   have hf1:=hfirst k hkl
   have hcb:cntS [] (l.take k)<=343:=by
    have:=List.countP_le_length (p:=fun p:Pth=>decide (p.ss=[])) (l:=l.take k)
    rw [List.length_take] at this
    unfold cntS
    omega
   generalize l[k]=p at *
   obtain ⟨ss,ps,sq⟩:=p
   cases ss with
   | nil =>
    have hk0:=hf1 rfl
    rw [if_pos rfl] at hsu
    have hd2:IntKind.wrap IntKind.i64 (d+1)=((cntS [] (l.take (k+1)):Nat):Int):=by rw [hsu,hd,W_eq (by omega) (by omega)]; omega
    have hlz:(nl ([]:List Int)).length=0:=rfl
    subst hk0
    refine bs.av (sx:=nos) hkA ?_
    clear hfirst hf1
    repeat'(first|refine wk3 ?_|(refine wk2 ?_ ?_<;>intro _)|refine wk4 ?_|fail);all_goals(conv=>whnf)
    all_goals first
     | exact Qo ⟨(1,_,_),[],rfl,kps,kps,⟨Zi (by omega),hkl,hd2⟩,by dsimp only; omega⟩
     | (exfalso; simp_all; done)
   | cons u r =>
    rw [if_neg (by intro q; cases q),Nat.add_zero] at hsu
    have hlz:(nl (u::r)).length=r.length+1:=by simp [nl]
    refine bs.av (sx:=nos) hkA ?_
    clear hfirst hf1
    repeat'(first|refine wk3 ?_|(refine wk2 ?_ ?_<;>intro _)|refine wk4 ?_|fail);all_goals(conv=>whnf)
    all_goals first
     | exact Qo ⟨(k+1,_,d),[],rfl,kps,kps,⟨Zi (by omega),hkl,by rw [hsu]; exact hd⟩,by dsimp only; omega⟩
     | (exfalso; simp_all; done)
  ·obtain rfl:k=l.length:=by omega
   rw [List.take_length,hcnt] at hd
   clear hfirst hcnt
   cases fr
   ·rw [if_neg (by decide)] at hd
    have hd:d=0:=hd
    subst hd
    refine bs.av (sx:=nos) hkA ?_
    repeat'(first|refine wk3 ?_|(refine wk2 ?_ ?_<;>intro _)|refine wk4 ?_|fail);all_goals(conv=>whnf)
    exact Qo ⟨(i+1,_),[],rfl,kps,kps,⟨Zi (by omega),hlt⟩,by dsimp only; omega⟩
   ·rw [if_pos rfl] at hd
    have hd:d=1:=hd
    subst hd
    refine bs.av (sx:=nos) hkA ?_
    repeat'(first|refine wk3 ?_|(refine wk2 ?_ ?_<;>intro _)|refine wk4 ?_|fail);all_goals(conv=>whnf)
    exact Qo ⟨(i+1,_),[],rfl,kps,kps,⟨Zi (by omega),hlt⟩,by dsimp only; omega⟩
theorem Ye4 {m:Nat} {x:List AV} (hw:WT TT (m+10+1) 28 x):∃ h:Hal,x=h.cells:=by
 have h0:=(Vm (T:=TT) (t:=28) rfl rfl hw).1
 have h0:x.length=9:=h0
 match x,h0 with
 | [x0,x1,x2,x3,x4,x5,x6,x7,x8],_ =>
  obtain ⟨s,hs,hs2⟩:=wStr (Zo (T:=TT) (t:=28) rfl rfl hw 0 rfl rfl)
  obtain ⟨n,hn⟩:=wInt (Zo (T:=TT) (t:=28) rfl rfl hw 1 rfl rfl)
  obtain ⟨t,ht,ht2⟩:=wStr (Zo (T:=TT) (t:=28) rfl rfl hw 2 rfl rfl)
  obtain ⟨u,hu,hu2⟩:=wStr (Zo (T:=TT) (t:=28) rfl rfl hw 3 rfl rfl)
  obtain ⟨e4,h4,_,g4⟩:=Zds (T:=TT) (t:=22) rfl rfl rfl (Zo (T:=TT) (t:=28) rfl rfl hw 4 rfl rfl)
  obtain ⟨e5,h5,_,g5⟩:=Zds (T:=TT) (t:=23) rfl rfl rfl (Zo (T:=TT) (t:=28) rfl rfl hw 5 rfl rfl)
  obtain ⟨e6,h6,_,g6⟩:=Zds (T:=TT) (t:=24) rfl rfl rfl (Zo (T:=TT) (t:=28) rfl rfl hw 6 rfl rfl)
  obtain ⟨e7,h7,_,g7⟩:=Zds (T:=TT) (t:=25) rfl rfl rfl (Zo (T:=TT) (t:=28) rfl rfl hw 7 rfl rfl)
  obtain ⟨e8,h8,_,g8⟩:=Zds (T:=TT) (t:=26) rfl rfl rfl (Zo (T:=TT) (t:=28) rfl rfl hw 8 rfl rfl)
  obtain ⟨l4,k4,_⟩:=Zrr (f:=Mat.av) (fun x hx=>wMat hx) e4 g4
  obtain ⟨l5,k5,_⟩:=Zrr (f:=pt) (P:=fun _=>True) (fun x hx=>(wP2 hx).imp fun p hp=>⟨hp,trivial⟩) e5 g5
  obtain ⟨l6,k6,_⟩:=Zrr (f:=Wal.av) (fun x hx=>wWal hx) e6 g6
  obtain ⟨l7,k7,_⟩:=Zrr (f:=Can.av) (fun x hx=>wCan hx) e7 g7
  obtain ⟨l8,k8,_⟩:=Zrr (f:=Sea.av) (fun x hx=>wSea hx) e8 g8
  have hs:[x0]=[.str s]:=hs
  have hn:[x1]=[I n]:=hn
  have ht:[x2]=[.str t]:=ht
  have hu:[x3]=[.str u]:=hu
  have h4:[x4]=[.isl 6 e4]:=h4
  have h5:[x5]=[.isl 2 e5]:=h5
  have h6:[x6]=[.isl 3 e6]:=h6
  have h7:[x7]=[.isl 7 e7]:=h7
  have h8:[x8]=[.isl 4 e8]:=h8
  cases hs; cases hn; cases ht; cases hu; cases h4; cases h5; cases h6; cases h7; cases h8
  exact ⟨⟨s,n,t,u,l4,l5,l6,l7,l8⟩,by rw [k4,k5,k6,k7,k8]⟩
theorem wStg {m:Nat} {x:List AV} (hw:WT TT (m+10+1) 31 x):∃ s:Stg,x=s.cells:=by
 have h0:=(Vm (T:=TT) (t:=31) rfl rfl hw).1
 have h0:x.length=2:=h0
 match x,h0 with
 | [x0,x1],_ =>
  obtain ⟨a,ha⟩:=Ya1 (Zo (T:=TT) (t:=31) rfl rfl hw 0 rfl rfl)
  obtain ⟨b,hb⟩:=Ya1 (Zo (T:=TT) (t:=31) rfl rfl hw 1 rfl rfl)
  have ha:[x0]=[.isl 1 (nl a)]:=ha
  have hb:[x1]=[.isl 1 (nl b)]:=hb
  cases ha; cases hb
  exact ⟨⟨a,b⟩,rfl⟩
theorem Zxk {a:AV} (h:WTA TT 33 a):∃ (h:Hal) (s:Stg),a = .agg (stgL h s):=by
 obtain ⟨x,m,rfl,hw⟩:=Zsy (T:=TT) (t:=33) h rfl rfl 11
 have h0:=(Vm (T:=TT) (t:=33) rfl rfl hw).1
 have h0:x.length=11:=h0
 match x,h0 with
 | [x0,x1,x2,x3,x4,x5,x6,x7,x8,x9,x10],_ =>
  obtain ⟨hl,hh⟩:=Ye4 (Zo (T:=TT) (t:=33) rfl rfl hw 0 rfl rfl)
  obtain ⟨st,hs⟩:=wStg (Zo (T:=TT) (t:=33) rfl rfl hw 1 rfl rfl)
  have hh:[x0,x1,x2,x3,x4,x5,x6,x7,x8]=hl.cells:=hh
  have hs:[x9,x10]=st.cells:=hs
  cases hh; cases hs
  exact ⟨hl,st,rfl⟩
theorem Ydq {a:AV} (h:WTA TT 35 a):∃ x y z:Int,a=P3 x y z:=by
 obtain ⟨x,m,rfl,hw⟩:=Zsy (T:=TT) (t:=35) h rfl rfl 4
 obtain ⟨ns,h1,h2,_⟩:=Zot (T:=TT) (t:=35) rfl rfl rfl hw
 have h2:ns.length=3:=h2
 match ns,h2 with
 | [p,q,r],_=>exact ⟨p,q,r,by rw [h1]; rfl⟩
def tysS:List TypeId:=[33,35,28,31,22,23,24,25,26,29,99,101,103,84,45,62,9,3]
theorem Yc3:tysS.all (Zid (tget tbl) tysS)=true:=by kernel_rfl
end Go.Proofs.YtdmidbkelinnjaaGreat
