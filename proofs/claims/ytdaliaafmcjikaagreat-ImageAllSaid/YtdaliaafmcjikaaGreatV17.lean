/- A part of the proof: lemmas. -/
import Derived.Test.YtdaliaafmcjikaaGreatV16
import Derived.Test.YtdaliaafmcjikaaGreatV8
import Derived.Test.YtdaliaafmcjikaaGreatV11
import Derived.Test.YtdaliaafmcjikaaGreatV13
set_option linter.unusedVariables false
set_option linter.unusedSimpArgs false
set_option maxRecDepth 100000
set_option maxHeartbeats 16000000
open Bool renaming eq_false_iff->Qr
open Go.IntKind renaming i64->Qb,wrap->Qa
open Go.Sx.AV renaming asl->Qz,isl->Sd
open Go.Sx.AV.isl renaming injEq->Od
open Go.Sx.Awp renaming melt->Gt
open Go.Sx.Done renaming mk->Ql
open Go.Sx.LpM renaming start->Wd,succ->Ry
open Go.Sx.PCall renaming freeze->Lm
open Int renaming toNat_natCast->Ra
open List renaming append_assoc->Qs,append_nil->Rz,cons_append->Sv,drop->Lb,drop_zero->Th,filterMap_append->Lt,filterMap_cons->Ko,filterMap_nil->Jd,flatMap_append->Sw,foldl_append->Jp,foldl_cons->Ml,getElem?_eq_getElem->Qe,getElem?_map->Qy,getElem_mem->Qt,getLast?_eq_getElem?->Sk,length_append->Qp,length_cons->Sb,length_eq_zero_iff->Qv,length_filterMap_le->Nb,length_map->Re,length_singleton->Sc,length_take->Ws,map_append->Po,map_set->Ov,mem_filterMap->Nj,mem_flatMap->Ni,mem_map->Wf,mem_range->Wa,mem_range'_1->Jq,mem_singleton->Wg,range->Sm,set_append_right->Gf,take->La,take_length->Wj,take_succ_eq_append_getElem->Rh
open List.cons renaming injEq->Qx
open Nat renaming le_of_ble_eq_true->Qo,le_refl->Qd,le_trans->Qu,sub_self->Ho,sub_zero->Wr,zero_add->Ru,zero_le->Qn
namespace Go.Proofs.YtdaliaafmcjikaaGreat
open Go Go.Sx
def put1:FuncId->Bool:=fun f=>Nat.beq f 116
noncomputable abbrev r21 (h:Hal) (s:Stg) (a:Ask) (f:List Int->Option Pth):List AV->Option PRes:=famA (fun L:List Int=>suE h L=0) (fun L=>[h.av,s.av,a.av,.isl 1 (nl L)]) (fun L=>⟨ansP (f L),[]⟩)
theorem Yd6 {h:Hal} {s:Stg} {a:Ask} {f:List Int->Option Pth} {L:List Int} (e:suE h L=0):r21 h s a f [h.av,s.av,a.av,.isl 1 (nl L)]=some ⟨ansP (f L),[]⟩ :=
 Zo (p:=fun L:List Int=>suE h L=0) (g:=fun L=>[h.av,s.av,a.av,.isl 1 (nl L)]) (r:=fun L=>⟨ansP (f L),[]⟩) (k:=L) (fun j hj=>by
  simp only [Qx,Od,true_and,and_true] at hj
  rw [Zgv hj]) e
theorem Yel {l:List (List Int)} {j:Nat} (hj:j<l.length):(lsX l)[0+((j:Nat):Int).toNat]?=some [.isl 1 (nl1 l[j])]:=by simp [hj]
structure OutL (ds:List Pth) (k len:Nat) (els:List (List AV)):Prop where
 k:k=ds.length
 len:len=els.length
 els:els=ds.map gcP
structure LstL (ls:List (List Int)) (k len:Nat) (els:List (List AV)):Prop where
 k:k=ls.length
 len:len=els.length
 els:els=lsX ls
theorem Ztu (f:List Int->Option Pth) (m k:Nat):((((Sm (k+1)).flatMap (bfsL m)).filterMap f).foldl putL [])=((bfsL m k).filterMap f).foldl putL ((((Sm k).flatMap (bfsL m)).filterMap f).foldl putL []):=by
 rw [List.range_succ,Sw,Lt,Jp]
 simp
theorem Yhi {m:Nat} (hm:2<=m) (L:List Int):extL m L≠[]:=by
 intro h
 have h0:(0:Int)∈rngI 0 m:=Wf.2 ⟨0,Jq.2 ⟨by omega,by omega⟩,rfl⟩
 have h1:(1:Int)∈rngI 0 m:=Wf.2 ⟨1,Jq.2 ⟨by omega,by omega⟩,rfl⟩
 unfold extL at h
 rw [List.flatMap_eq_nil_iff] at h
 have a0:=h 0 h0
 have a1:=h 1 h1
 split at a0
 ·rename_i e
  split at a1
  ·rename_i e1; rw [e] at e1; cases e1
  ·cases a1
 ·cases a0
theorem Ydj {m:Nat} (hm:2<=m):∀ k,bfsL m k≠[]
 | 0=>by simp [bfsL]
 | k+1=>by
  rw [bfsL]
  intro h
  cases hb:bfsL m k with
  | nil=>exact Ydj hm k hb
  | cons L r =>
   rw [hb,List.flatMap_cons] at h
   exact Yhi hm L (List.append_eq_nil_iff.1 h).1
noncomputable abbrev r17:List AV->Option PRes:=famA (fun ns:List Int=>ns.length<100000) (fun ns=>[.isl 1 (nl ns)]) (fun ns=>⟨.asl 0 0 (nl ns).length,[(1,nl ns)]⟩)
theorem Zm7 {ns:List Int} (h:ns.length<100000):r17 [.isl 1 (nl ns)]=some ⟨.asl 0 0 (nl ns).length,[(1,nl ns)]⟩ :=
 Zo (p:=fun ns:List Int=>ns.length<100000) (g:=fun ns=>[.isl 1 (nl ns)]) (r:=fun ns=>⟨.asl 0 0 (nl ns).length,[(1,nl ns)]⟩) (k:=ns) (fun j hj=>by
  simp only [Qx,Od,true_and,and_true] at hj
  rw [Zgv hj]) h
theorem Zk3 {m:Nat}:∀ (k:Nat) {L:List Int},L∈bfsL m k->L.length=k
 | 0,L,h=>by rw [bfsL,Wg] at h; rw [h]; rfl
 | k+1,L,h=>by
  rw [bfsL] at h
  obtain ⟨M,hM,h2⟩:=Ni.1 h
  unfold extL at h2
  obtain ⟨i,_,h3⟩:=Ni.1 h2
  split at h3
  ·simp at h3
  ·rw [Wg.1 h3,Qp,Zk3 k hM]; rfl
theorem Yfs {m o k:Nat} (hk:k<=o) {L:List Int} (h:L∈bfsL m k):L∈wlk m o [] :=
 (Zvm m o).symm.subset (Ni.2 ⟨k,Wa.2 (by omega),h⟩)
theorem Yhv {h:Hal} {o k:Nat} (ho:o<=2) (hk:k<=o) {L:List Int} (hL:L∈bfsL (nsN h) k):suE h L=0:=Yci (by rw [Zk3 k hL]; omega) (Zqk (nsN h) o [] rfl _ (Yfs hk hL))
theorem Zkr (m:Nat) (L:List Int):(extL m L).length<=m:=by
 have:=Yx (f:=fun i=>if L.getLast?=some i then [] else [L++[i]]) (B:=1) (rngI 0 m) fun i _=>by
  split<;>simp
 have hl:(rngI 0 m).length=m:=by simp [rngI]
 rw [hl,Nat.mul_one] at this
 exact this
theorem Zy5 {m:Nat} (hm:m<=18) {k:Nat} (hk:k<=2):(bfsL m k).length<=324:=by
 have h1:∀ k,(bfsL m (k+1)).length<=(bfsL m k).length*18:=fun k=>by
  have:=Yx (f:=extL m) (B:=18) (bfsL m k) fun L _=>Qu (Zkr m L) hm
  exact this
 have a0:(bfsL m 0).length=1:=rfl
 have a1:(bfsL m 1).length<=(bfsL m 0).length*18:=h1 0
 have a2:(bfsL m 2).length<=(bfsL m 1).length*18:=h1 1
 obtain rfl|rfl|rfl:k=0\/k=1\/k=2:=by omega
 ·omega
 ·omega
 ·omega
theorem Zwg (k:Nat):rngI 0 (k+1)=rngI 0 k++[(k:Int)]:=by
 unfold rngI
 rw [Wr,Wr,List.range'_concat,Po]
 simp
def extK (L:List Int) (k:Nat):List (List Int):=(rngI 0 k).flatMap fun i=>if L.getLast?=some i then [] else [L++[i]]
theorem Zr (L:List Int) (k:Nat):extK L (k+1)=extK L k++if L.getLast?=some (k:Int) then [] else [L++[(k:Int)]]:=by
 unfold extK
 rw [Zwg,Sw]
 simp
theorem Zm (f:Nat->Nat):∀ a b:List (List AV),Zy f (a++b)=Zy f a++Zy f b
 | [],b=>rfl
 | x::a,b=>by rw [Sv,Zy,Zy,Zm f a b]; rfl
theorem Zu (f:Nat->Nat):∀ ls:List (List Int),Zy f (lsX ls)=lsX ls
 | []=>rfl
 | L::ls=>by
  show Zy f ([.isl 1 (nl1 L)]::lsX ls)=[.isl 1 (nl1 L)]::lsX ls
  rw [Zy,Zu f ls]; rfl
theorem Zv (m:Nat):∀ a b:List (List AV),Xa m (a++b)=(Xa m a&&Xa m b)
 | [],b=>by simp [Xa]
 | x::a,b=>by rw [Sv,Xa,Xa,Zv m a b,Bool.and_assoc]
theorem Xe (m:Nat):∀ ls:List (List Int),Xa m (lsX ls)=true
 | []=>rfl
 | L::ls=>by
  show Xa m ([.isl 1 (nl1 L)]::lsX ls)=true
  rw [Xa,Xe m ls]; rfl
theorem Zkm:∀ (l a:List Pth),(l.foldl putL a).length=l.length+a.length
 | [],a=>by simp
 | p::l,a=>by
  rw [Ml,Zkm l (putL a p),(Zcj a p).length_eq,Sb,Sb]
  omega
theorem Zkl:∀ (l a:List Pth) {x:Pth},x∈l.foldl putL a->x∈l\/x∈a
 | [],a,x,h=>.inr h
 | p::l,a,x,h=>by
  rw [Ml] at h
  rcases Zkl l (putL a p) h with h|h
  ·exact .inl (List.mem_cons_of_mem _ h)
  ·rcases List.mem_cons.1 ((Zcj a p).subset h) with rfl|h
   ·exact .inl (by simp)
   ·exact .inr h
def zX (lst:Option (Nat × List (List AV))) (z:List (Nat × ABlk)):List (Nat × ABlk):=match lst with
 | none=>z
 | some q=>(151,.row 1 q.2 true true)::z
def gzp (nm:Nat) (k:Nat) (els:List (List AV)) (lst:Option (Nat × List (List AV))) (z:List (Nat × ABlk)):List (Nat × ABlk):=match k with
 | 0=>z
 | _=>(nm,.row 1 els true lst.isNone)::z
def LstX (ls:List (List Int)) (k len:Nat) (els:List (List AV)) (lst:Option (Nat × List (List AV))):Prop:=k=ls.length/\len=els.length/\match lst with
 | none=>els=lsX ls
 | some q=>∃ M Lx,ls=M++[Lx]/\els=lsX M++[[.asl 151 0 q.1]]/\q.1=q.2.length/\q.2=nl1 Lx
theorem d57 {h:Hal} (hk:h.ok) {s:Stg} (hs:s.few) (a:Ask) (e:askE h s a=0) (hn:a.n<3) :
  PCall Tryz.prog 57 [h.av,s.av,a.av] ⟨.isl 3 ((refL (Xz h s (qF a) (qT a)) (nsN h) a.n.toNat).map gcP),[]⟩:=by
 have A:=Xj e
 have hkp:PCOK Tryz.prog (ins 21 (r21 h s a (Xz h s (qF a) (qT a))) (ins 69 (cHas h) (ins 17 r17 pt0))) :=
  Ya (fun L e2=>d21a hk hs e e2) (Ya (fun i _=>c88 hk.f i) (Ya (fun ns hl=>c25 ns hl) Zc))
 have hm2:2<=nsN h:=by unfold nsN; omega
 have hm18:=Yco hk A.e0
 have hfs:∀ L p,Xz h s (qF a) (qT a) L=some p->p.ss=L:=fun L p hp=>Ziz hp
 generalize Xz h s (qF a) (qT a)=f at *
 have hn0:=A.n.1
 obtain ⟨fx,fy,fz,tx,ty,tz,n⟩:=a
 dsimp only at hn hn0 ⊢
 obtain ⟨o,ho⟩:∃ o:Nat,n=o:=⟨n.toNat,by omega⟩
 rw [show n.toNat=o by omega]
 have ho2:o<=2:=by omega
 have hR:refL f (nsN h) o=(((Sm (o+1)).flatMap (bfsL (nsN h))).filterMap f).foldl putL []:=rfl
 rw [hR]
 clear hR
 have hk0:=hkp
 refine Lm (res:=if ((((Sm (o+1)).flatMap (bfsL (nsN h))).filterMap f).foldl putL [])=[] then ⟨.nils,[]⟩ else ⟨.asl 0 0 ((((Sm (o+1)).flatMap (bfsL (nsN h))).filterMap f).foldl putL []).length,[(3,((((Sm (o+1)).flatMap (bfsL (nsN h))).filterMap f).foldl putL []).map gcP)]⟩) ?_ ?_
 rotate_left
 ·split<;>rename_i hre
  ·rw [hre]; rfl
  ·exact ⟨rfl,rfl,(Re _).symm⟩
 refine bs.pv (sx:=put1) Zc Tryz.func57 (by kernel_rfl) (by kernel_rfl) (by split<;>rfl) ?_
 unfold Zdq
 conv=>whnf
 repeat'(first|refine wk3 ?_|(refine wk2 ?_ ?_<;>intro _)|refine wk4 ?_|fail);all_goals(conv=>whnf)
 refine ⟨Gt 4 (elems':=[[.isl 1 []]]) (l:=[3]) rfl rfl rfl rfl (Zim (S:=Nat × Int × (Nat × Nat × List (List AV)) × (Nat × Nat × List (List AV))) (fun t=>o+1-t.1)
  (fun t=>[(3,.ptr 0 0 0),(4,.ptr 1 0 0),(5,.ptr 2 0 0),(7,gv 50 t.2.2.1.1 t.2.2.1.2.1),(8,gv 51 t.2.2.2.1 t.2.2.2.2.1),(9,I t.2.1)])
  (fun t=>(2,.row 7 [[I fx,I fy,I fz,I tx,I ty,I tz,I n]] true false)::(1,.row 2 [s.cells] true false)::(0,.row 9 [h.cells] true false)::gz 51 1 t.2.2.2.1 t.2.2.2.2.2 (gz 50 3 t.2.2.1.1 t.2.2.1.2.2 [])) 50 52
  (fun t=>t.2.1=t.1/\t.1<=o+1/\OutL ((((Sm t.1).flatMap (bfsL (nsN h))).filterMap f).foldl putL []) t.2.2.1.1 t.2.2.1.2.1 t.2.2.1.2.2/\(t.1<=o->LstL (bfsL (nsN h) t.1) t.2.2.2.1 t.2.2.2.2.1 t.2.2.2.2.2))
  (0,0,(0,0,[]),(1,1,[[.isl 1 []]])) ⟨rfl,Qn _,⟨rfl,rfl,rfl⟩,fun _=>⟨rfl,rfl,rfl⟩⟩ (Qo rfl) [(51,4)] rfl (kps) (kps) ?_).1⟩
 rintro ⟨nn,i,⟨kO,lenO,elO⟩,kB,lenB,elB⟩ ⟨hi,hn1,hO,hB⟩
 dsimp only at hi hn1 hO hB ⊢
 subst hi
 by_cases hle:nn<=o
 ·have hB:=hB hle
  have hLd:∀ {k len els},nn+1<=o->LstL (if nn<o then (bfsL (nsN h) nn).flatMap (extL (nsN h)) else []) k len els->LstL (bfsL (nsN h) (nn+1)) k len els:=fun h2 hl=>by
   rw [if_pos (by omega)] at hl; exact hl
  have hbl:=hB.k
  have hbb:=Zy5 hm18 (show nn<=2 by omega)
  have hlb:lenB=(bfsL (nsN h) nn).length:=by rw [hB.len,hB.els,Re]
  cases kB with
  | zero=>exact absurd (Qv.1 hbl.symm) (Ydj hm2 nn)
  | succ b =>
   generalize hds:(((Sm nn).flatMap (bfsL (nsN h))).filterMap f).foldl putL []=ds at *
   refine bs.av (sx:=put1) hk0 ?_
   repeat'(first|refine wk3 ?_|(refine wk2 ?_ ?_<;>intro _)|refine wk4 ?_|fail);all_goals(conv=>whnf)
   refine Zim (S:=Nat × Int × (Nat × Nat × List (List AV)) × (Nat × Nat × List (List AV))) (fun t=>(bfsL (nsN h) nn).length-t.1)
    (fun t=>[(3,.ptr 0 0 0),(4,.ptr 1 0 0),(5,.ptr 2 0 0),(7,gv 100 t.2.2.1.1 t.2.2.1.2.1),(8,.asl 51 0 lenB),(9,I (nn:Int)),(10,gv 101 t.2.2.2.1 t.2.2.2.2.1),(11,I t.2.1)])
    (fun t=>(51,.row 1 elB true true)::(2,.row 7 [[I fx,I fy,I fz,I tx,I ty,I tz,I n]] true false)::(1,.row 2 [s.cells] true false)::(0,.row 9 [h.cells] true false)::gz 100 3 t.2.2.1.1 t.2.2.1.2.2 (gz 101 1 t.2.2.2.1 t.2.2.2.2.2 [])) 100 102
    (fun t=>t.2.1=t.1/\t.1<=(bfsL (nsN h) nn).length/\OutL ((((bfsL (nsN h) nn).take t.1).filterMap f).foldl putL ds) t.2.2.1.1 t.2.2.1.2.1 t.2.2.1.2.2/\LstL (if nn<o then ((bfsL (nsN h) nn).take t.1).flatMap (extL (nsN h)) else []) t.2.2.2.1 t.2.2.2.2.1 t.2.2.2.2.2)
    (0,0,(kO,lenO,elO),(0,0,[])) ⟨rfl,Qn _,hO,by split<;>exact ⟨rfl,rfl,rfl⟩⟩ (Qo rfl) [(100,50)] (by cases kO<;>rfl) (by cases kO<;>exact kps) (by cases kO<;>exact kps) ?_
   rintro ⟨j,ij,⟨kO2,lenO2,elO2⟩,kL,lenL,elL⟩ ⟨hij,hj1,hO2,hL⟩
   dsimp only at hij hj1 hO2 hL ⊢
   subst hij
   by_cases hjl:j<(bfsL (nsN h) nn).length
   ·have hLm:=Qt hjl
    have e1:elB[0+((j:Nat):Int).toNat]?=some [.isl 1 (nl1 ((bfsL (nsN h) nn)[j]))]:=by rw [hB.els]; exact Yel hjl
    have hsu:=Yhv (h:=h) ho2 hle hLm
    have hLl:=Zk3 nn hLm
    have c1:=Yd6 (s:=s) (a:=⟨fx,fy,fz,tx,ty,tz,n⟩) (f:=f) hsu
    have ht:=Rh hjl
    generalize (bfsL (nsN h) nn)[j]=L at *
    cases hp:f L with
    | none =>
     rw [hp] at c1
     have hO3:OutL ((((bfsL (nsN h) nn).take (j+1)).filterMap f).foldl putL ds) kO2 lenO2 elO2:=by
      rw [ht,Lt,Ko,hp,Jd,Rz]; exact hO2
     refine bs.av (sx:=put1) hk0 ?_
     repeat'(first|refine wk3 ?_|(refine wk2 ?_ ?_<;>intro _)|refine wk4 ?_|fail);all_goals(conv=>whnf)
     by_cases hno:nn<o
     rotate_left
     ·refine Wd 1 (Ry (bs.av (sx:=put1) hk0 ?_))
      repeat'(first|refine wk3 ?_|(refine wk2 ?_ ?_<;>intro _)|refine wk4 ?_|fail);all_goals(conv=>whnf)
      exact Ql ⟨(j+1,_,(kO2,lenO2,elO2),(kL,lenL,elL)),[(100,100),(101,101)],by cases kO2<;>cases kL<;>rfl,by cases kO2<;>cases kL<;>exact kps,by cases kO2<;>cases kL<;>exact kps,⟨Ze (by omega),hjl,hO3,by rw [if_neg hno] at hL ⊢; exact hL⟩,by dsimp only; omega⟩
     rw [if_pos hno] at hL
     refine Zim (S:=Nat × Int × (Nat × Nat × List (List AV)) × Option (Nat × List (List AV))) (fun t=>nsN h-t.1)
      (fun t=>[(3,.ptr 0 0 0),(4,.ptr 1 0 0),(5,.ptr 2 0 0),(7,gv 100 kO2 lenO2),(8,.asl 51 0 lenB),(9,I (nn:Int)),(10,gv 150 t.2.2.1.1 t.2.2.1.2.1),(11,I (j:Int)),(14,I t.2.1)])
      (fun t=>zX t.2.2.2 (gzp 150 t.2.2.1.1 t.2.2.1.2.2 t.2.2.2 ((51,.row 1 elB true true)::(2,.row 7 [[I fx,I fy,I fz,I tx,I ty,I tz,I n]] true false)::(1,.row 2 [s.cells] true false)::(0,.row 9 [h.cells] true false)::gz 100 3 kO2 elO2 []))) 150 152
      (fun t=>t.2.1=t.1/\t.1<=nsN h/\LstX ((((bfsL (nsN h) nn).take j).flatMap (extL (nsN h)))++extK L t.1) t.2.2.1.1 t.2.2.1.2.1 t.2.2.1.2.2 t.2.2.2)
      (0,0,(kL,lenL,elL),none) ⟨rfl,Qn _,by rw [show extK L 0=[] from rfl,Rz]; exact ⟨hL.k,hL.len,hL.els⟩⟩ (Qo rfl) [(150,101)] (by cases kO2<;>cases kL<;>rfl) (by cases kO2<;>cases kL<;>exact kps) (by cases kO2<;>cases kL<;>exact kps) ?_
     rintro ⟨kk,ik,⟨k3,len3,el3⟩,lst⟩ ⟨hik,hk3,hX⟩
     dsimp only at hik hk3 hX ⊢
     subst hik
     have c3:=Zm7 (ns:=L) (by omega)
     have ll:((1,nl L):Nat × List (List AV)).2.length=L.length:=Zi L
     have ll2:=Zi L
     have hl3:((((bfsL (nsN h) nn).take j).flatMap (extL (nsN h)))++extK L kk).length<100000:=by
      have a1:=Yx (f:=extL (nsN h)) (B:=18) ((bfsL (nsN h) nn).take j) fun L' _=>Qu (Zkr (nsN h) L') hm18
      have a2:=Yx (f:=fun i=>if L.getLast?=some i then [] else [L++[i]]) (B:=1) (rngI 0 kk) fun i _=>by
       split<;>simp
      have a3:(rngI 0 kk).length=kk:=by simp [rngI]
      rw [Ws] at a1
      rw [a3] at a2
      rw [Qp]
      unfold extK
      omega
     cases lst with
     | none =>
      have hls:LstL _ k3 len3 el3:=⟨hX.1,hX.2.1,hX.2.2⟩
      have hl4:el3.length<100000:=by rw [hls.els,Re]; exact hl3
      have hlen:=hls.len
      cases k3 with
      | zero =>
       by_cases hkm:kk<nsN h
       rotate_left
       ·obtain rfl:kk=nsN h:=by omega
        have c2:=Ys h (nsN h)
        rw [show within (nsN h:Int) 0 (nsur h-1)=false by rw [Qr,ne_eq,within_iff,<-Xq]; omega] at c2
        refine bs.av (sx:=put1) hk0 ?_
        repeat'(first|refine wk3 ?_|(refine wk2 ?_ ?_<;>intro _)|refine wk4 ?_|fail);all_goals(conv=>whnf)
        exact Ql ⟨(j+1,_,(kO2,lenO2,elO2),(0,len3,el3)),[(100,100)],by cases kO2<;>rfl,by cases kO2<;>exact kps,by cases kO2<;>exact kps,⟨Ze (by omega),hjl,hO3,by rw [if_pos hno,ht,Sw]; simpa [extK,extL] using hls⟩,by dsimp only; omega⟩
       have c2:=Ys h kk
       rw [show within (kk:Int) 0 (nsur h-1)=true by rw [within_iff,<-Xq]; omega] at c2
       by_cases hn00:nn=0
       ·have hL0:L.getLast?=none:=by rw [Qv.1 (hLl.trans hn00)]; rfl
        have hxs:=Zr L kk
        rw [hL0,if_neg (by simp)] at hxs
        refine bs.av (sx:=put1) hk0 ?_
        repeat'(first|refine wk3 ?_|(refine wk2 ?_ ?_<;>intro _)|refine wk4 ?_|fail);all_goals(conv=>whnf)
        exact Ql ⟨(kk+1,_,(1,_,[[Qz 151 0 ((nl L).length+1)]]),some (((nl L).length+1),nl L++[[I (kk:Int)]])),[(150,156),(151,154)],by cases kO2<;>rfl,by cases kO2<;>exact kps,by cases kO2<;>exact kps,⟨Ze (by omega),hkm,⟨by rw [hxs,<-Qs,Qp,<-hls.k]; rfl,by rfl,_,_,by rw [hxs,<-Qs],by rw [Qv.1 hls.k.symm]; rfl,by simp,by simp [nl,nl1]⟩⟩,by dsimp only; omega⟩
       ·have hw0:0<=Qa Qb ((nn:Int)-1):=by rw [W_eq (by omega) (by omega)]; omega
        obtain ⟨x,hx,e5⟩:∃ x,L.getLast?=some x/\(nl1 L)[(Qa Qb ((nn:Int)-1)).toNat]?=some [I x]:=by
         rw [W_eq (by omega) (by omega),show ((nn:Int)-1).toNat=nn-1 by omega]
         refine ⟨L[nn-1]'(by omega),?_,?_⟩
         ·rw [Sk,show L.length-1=nn-1 by omega]; exact Qe _
         ·unfold nl1; rw [Qy,Qe (by omega)]; rfl
        have hxs:=Zr L kk
        rw [hx] at hxs
        by_cases hxk:x=(kk:Int)
        ·rw [hxk,if_pos rfl,Rz] at hxs
         subst hxk
         refine bs.av (sx:=put1) hk0 ?_
         repeat'(first|refine wk3 ?_|(refine wk2 ?_ ?_<;>intro _)|refine wk4 ?_|fail);all_goals(conv=>whnf)
         exact Ql ⟨(kk+1,_,(0,len3,el3),none),[],by cases kO2<;>rfl,by cases kO2<;>exact kps,by cases kO2<;>exact kps,⟨Ze (by omega),hkm,by rw [hxs]; exact ⟨hls.k,hls.len,hls.els⟩⟩,by dsimp only; omega⟩
        ·rw [if_neg (by simpa using hxk)] at hxs
         refine bs.av (sx:=put1) hk0 ?_
         repeat'(first|refine wk3 ?_|(refine wk2 ?_ ?_<;>intro _)|refine wk4 ?_|fail);all_goals(conv=>whnf)
         exact Ql ⟨(kk+1,_,(1,_,[[Qz 151 0 ((nl L).length+1)]]),some (((nl L).length+1),nl L++[[I (kk:Int)]])),[(150,156),(151,154)],by cases kO2<;>rfl,by cases kO2<;>exact kps,by cases kO2<;>exact kps,⟨Ze (by omega),hkm,⟨by rw [hxs,<-Qs,Qp,<-hls.k]; rfl,by rfl,_,_,by rw [hxs,<-Qs],by rw [Qv.1 hls.k.symm]; rfl,by simp,by simp [nl,nl1]⟩⟩,by dsimp only; omega⟩
      | succ k4 =>
       by_cases hkm:kk<nsN h
       rotate_left
       ·obtain rfl:kk=nsN h:=by omega
        have c2:=Ys h (nsN h)
        rw [show within (nsN h:Int) 0 (nsur h-1)=false by rw [Qr,ne_eq,within_iff,<-Xq]; omega] at c2
        refine bs.av (sx:=put1) hk0 ?_
        repeat'(first|refine wk3 ?_|(refine wk2 ?_ ?_<;>intro _)|refine wk4 ?_|fail);all_goals(conv=>whnf)
        exact Ql ⟨(j+1,_,(kO2,lenO2,elO2),((k4+1),len3,el3)),[(100,100),(101,150)],by cases kO2<;>rfl,by cases kO2<;>exact kps,by cases kO2<;>exact kps,⟨Ze (by omega),hjl,hO3,by rw [if_pos hno,ht,Sw]; simpa [extK,extL] using hls⟩,by dsimp only; omega⟩
       have c2:=Ys h kk
       rw [show within (kk:Int) 0 (nsur h-1)=true by rw [within_iff,<-Xq]; omega] at c2
       by_cases hn00:nn=0
       ·have hL0:L.getLast?=none:=by rw [Qv.1 (hLl.trans hn00)]; rfl
        have hxs:=Zr L kk
        rw [hL0,if_neg (by simp)] at hxs
        refine bs.av (sx:=put1) hk0 ?_
        repeat'(first|refine wk3 ?_|(refine wk2 ?_ ?_<;>intro _)|refine wk4 ?_|fail);all_goals(conv=>whnf)
        have hren:el3++[[Qz 154 0 ((nl L).length+1)]]=Zy (fOf [(150,156),(151,154)]) (el3++[[Qz 151 0 ((nl L).length+1)]]):=by rw [hls.els,Zm,Zu]; rfl
        have hids:Xa 152 (el3++[[Qz 151 0 ((nl L).length+1)]])=true:=by rw [hls.els,Zv,Xe]; rfl
        have hkx:k4+1+1=((((bfsL (nsN h) nn).take j).flatMap (extL (nsN h)))++extK L (kk+1)).length:=by
         have:=hls.k
         rw [hxs]; simp only [Qp,Sc] at this ⊢; omega
        have hlx:el3.length+1=(el3++[[Qz 151 0 ((nl L).length+1)]]).length:=by simp
        have helx:el3++[[Qz 151 0 ((nl L).length+1)]]=lsX ((((bfsL (nsN h) nn).take j).flatMap (extL (nsN h)))++extK L kk)++[[Qz 151 0 ((nl L).length+1)]]:=by rw [hls.els]
        exact Ql ⟨(kk+1,_,(k4+1+1,el3.length+1,el3++[[Qz 151 0 ((nl L).length+1)]]),some (((nl L).length+1),nl L++[[I (kk:Int)]])),[(150,156),(151,154)],by cases kO2<;>rfl,by cases kO2<;>exact kps,⟨⟨rfl,rfl,rfl⟩,⟨rfl,rfl,⟨_,rfl,hren,hids⟩⟩,by cases kO2<;>exact kps⟩,⟨Ze (by omega),hkm,⟨hkx,hlx,((((bfsL (nsN h) nn).take j).flatMap (extL (nsN h)))++extK L kk),L++[(kk:Int)],by rw [hxs,<-Qs],helx,by simp,by simp [nl,nl1]⟩⟩,by dsimp only; omega⟩
       ·have hw0:0<=Qa Qb ((nn:Int)-1):=by rw [W_eq (by omega) (by omega)]; omega
        obtain ⟨x,hx,e5⟩:∃ x,L.getLast?=some x/\(nl1 L)[(Qa Qb ((nn:Int)-1)).toNat]?=some [I x]:=by
         rw [W_eq (by omega) (by omega),show ((nn:Int)-1).toNat=nn-1 by omega]
         refine ⟨L[nn-1]'(by omega),?_,?_⟩
         ·rw [Sk,show L.length-1=nn-1 by omega]; exact Qe _
         ·unfold nl1; rw [Qy,Qe (by omega)]; rfl
        have hxs:=Zr L kk
        rw [hx] at hxs
        by_cases hxk:x=(kk:Int)
        ·rw [hxk,if_pos rfl,Rz] at hxs
         subst hxk
         refine bs.av (sx:=put1) hk0 ?_
         repeat'(first|refine wk3 ?_|(refine wk2 ?_ ?_<;>intro _)|refine wk4 ?_|fail);all_goals(conv=>whnf)
         exact Ql ⟨(kk+1,_,((k4+1),len3,el3),none),[(150,150)],by cases kO2<;>rfl,by cases kO2<;>exact kps,by cases kO2<;>exact kps,⟨Ze (by omega),hkm,by rw [hxs]; exact ⟨hls.k,hls.len,hls.els⟩⟩,by dsimp only; omega⟩
        ·rw [if_neg (by simpa using hxk)] at hxs
         refine bs.av (sx:=put1) hk0 ?_
         repeat'(first|refine wk3 ?_|(refine wk2 ?_ ?_<;>intro _)|refine wk4 ?_|fail);all_goals(conv=>whnf)
         have hren:el3++[[Qz 154 0 ((nl L).length+1)]]=Zy (fOf [(150,156),(151,154)]) (el3++[[Qz 151 0 ((nl L).length+1)]]):=by rw [hls.els,Zm,Zu]; rfl
         have hids:Xa 152 (el3++[[Qz 151 0 ((nl L).length+1)]])=true:=by rw [hls.els,Zv,Xe]; rfl
         have hkx:k4+1+1=((((bfsL (nsN h) nn).take j).flatMap (extL (nsN h)))++extK L (kk+1)).length:=by
          have:=hls.k
          rw [hxs]; simp only [Qp,Sc] at this ⊢; omega
         have hlx:el3.length+1=(el3++[[Qz 151 0 ((nl L).length+1)]]).length:=by simp
         have helx:el3++[[Qz 151 0 ((nl L).length+1)]]=lsX ((((bfsL (nsN h) nn).take j).flatMap (extL (nsN h)))++extK L kk)++[[Qz 151 0 ((nl L).length+1)]]:=by rw [hls.els]
         exact Ql ⟨(kk+1,_,(k4+1+1,el3.length+1,el3++[[Qz 151 0 ((nl L).length+1)]]),some (((nl L).length+1),nl L++[[I (kk:Int)]])),[(150,156),(151,154)],by cases kO2<;>rfl,by cases kO2<;>exact kps,⟨⟨rfl,rfl,rfl⟩,⟨rfl,rfl,⟨_,rfl,hren,hids⟩⟩,by cases kO2<;>exact kps⟩,⟨Ze (by omega),hkm,⟨hkx,hlx,((((bfsL (nsN h) nn).take j).flatMap (extL (nsN h)))++extK L kk),L++[(kk:Int)],by rw [hxs,<-Qs],helx,by simp,by simp [nl,nl1]⟩⟩,by dsimp only; omega⟩
     | some q =>
      obtain ⟨lx,ex⟩:=q
      obtain ⟨x1,x2,M,Lx,x3,x4,x5,x6⟩:=hX
      dsimp only at x4 x5 x6
      cases k3 with
      | zero=>rw [x3] at x1; simp at x1
      | succ k4 =>
       have ev:La lx (Lb 0 ex)=nl1 Lx:=by rw [Th,x5,Wj,x6]
       have hls:LstL (((bfsL (nsN h) nn).take j).flatMap (extL (nsN h))++extK L kk) (k4+1) len3 (lsX M++[[.isl 1 (nl1 Lx)]]):=⟨x1,by rw [x2,x4,Qp,Qp]; rfl,by rw [x3]; simp⟩
       have hl4:(lsX M++[[Sd 1 (nl1 Lx)]]).length<100000:=by rw [hls.els,Re]; exact hl3
       have hlen:=hls.len
       refine Gt 150 (elems:=el3) (elems':=lsX M++[[.isl 1 (nl1 Lx)]]) (l:=[151]) rfl (by
        rw [x4]
        refine Zap (l:=[]) (Zgp fun e he=>?_) ?_
        ·obtain ⟨L',_,rfl⟩:=Wf.1 he
         rfl
        ·rw [<-ev]; rfl) rfl rfl ?_
       by_cases hkm:kk<nsN h
       rotate_left
       ·obtain rfl:kk=nsN h:=by omega
        have c2:=Ys h (nsN h)
        rw [show within (nsN h:Int) 0 (nsur h-1)=false by rw [Qr,ne_eq,within_iff,<-Xq]; omega] at c2
        refine bs.av (sx:=put1) hk0 ?_
        repeat'(first|refine wk3 ?_|(refine wk2 ?_ ?_<;>intro _)|refine wk4 ?_|fail);all_goals(conv=>whnf)
        exact Ql ⟨(j+1,_,(kO2,lenO2,elO2),((k4+1),len3,(lsX M++[[Sd 1 (nl1 Lx)]]))),[(100,100),(101,150)],by cases kO2<;>rfl,by cases kO2<;>exact kps,by cases kO2<;>exact kps,⟨Ze (by omega),hjl,hO3,by rw [if_pos hno,ht,Sw]; simpa [extK,extL] using hls⟩,by dsimp only; omega⟩
       have c2:=Ys h kk
       rw [show within (kk:Int) 0 (nsur h-1)=true by rw [within_iff,<-Xq]; omega] at c2
       by_cases hn00:nn=0
       ·have hL0:L.getLast?=none:=by rw [Qv.1 (hLl.trans hn00)]; rfl
        have hxs:=Zr L kk
        rw [hL0,if_neg (by simp)] at hxs
        refine bs.av (sx:=put1) hk0 ?_
        repeat'(first|refine wk3 ?_|(refine wk2 ?_ ?_<;>intro _)|refine wk4 ?_|fail);all_goals(conv=>whnf)
        have hren:(lsX M++[[Sd 1 (nl1 Lx)]])++[[Qz 154 0 ((nl L).length+1)]]=Zy (fOf [(150,156),(151,154)]) ((lsX M++[[Sd 1 (nl1 Lx)]])++[[Qz 151 0 ((nl L).length+1)]]):=by rw [hls.els,Zm,Zu]; rfl
        have hids:Xa 152 ((lsX M++[[Sd 1 (nl1 Lx)]])++[[Qz 151 0 ((nl L).length+1)]])=true:=by rw [hls.els,Zv,Xe]; rfl
        have hkx:k4+1+1=((((bfsL (nsN h) nn).take j).flatMap (extL (nsN h)))++extK L (kk+1)).length:=by
         have:=hls.k
         rw [hxs]; simp only [Qp,Sc] at this ⊢; omega
        have hlx:(lsX M++[[Sd 1 (nl1 Lx)]]).length+1=((lsX M++[[Sd 1 (nl1 Lx)]])++[[Qz 151 0 ((nl L).length+1)]]).length:=by simp
        have helx:(lsX M++[[Sd 1 (nl1 Lx)]])++[[Qz 151 0 ((nl L).length+1)]]=lsX ((((bfsL (nsN h) nn).take j).flatMap (extL (nsN h)))++extK L kk)++[[Qz 151 0 ((nl L).length+1)]]:=by rw [hls.els]
        exact Ql ⟨(kk+1,_,(k4+1+1,(lsX M++[[Sd 1 (nl1 Lx)]]).length+1,(lsX M++[[Sd 1 (nl1 Lx)]])++[[Qz 151 0 ((nl L).length+1)]]),some (((nl L).length+1),nl L++[[I (kk:Int)]])),[(150,156),(151,154)],by cases kO2<;>rfl,by cases kO2<;>exact kps,⟨⟨rfl,rfl,rfl⟩,⟨rfl,rfl,⟨_,rfl,hren,hids⟩⟩,by cases kO2<;>exact kps⟩,⟨Ze (by omega),hkm,⟨hkx,hlx,((((bfsL (nsN h) nn).take j).flatMap (extL (nsN h)))++extK L kk),L++[(kk:Int)],by rw [hxs,<-Qs],helx,by simp,by simp [nl,nl1]⟩⟩,by dsimp only; omega⟩
       ·have hw0:0<=Qa Qb ((nn:Int)-1):=by rw [W_eq (by omega) (by omega)]; omega
        obtain ⟨x,hx,e5⟩:∃ x,L.getLast?=some x/\(nl1 L)[(Qa Qb ((nn:Int)-1)).toNat]?=some [I x]:=by
         rw [W_eq (by omega) (by omega),show ((nn:Int)-1).toNat=nn-1 by omega]
         refine ⟨L[nn-1]'(by omega),?_,?_⟩
         ·rw [Sk,show L.length-1=nn-1 by omega]; exact Qe _
         ·unfold nl1; rw [Qy,Qe (by omega)]; rfl
        have hxs:=Zr L kk
        rw [hx] at hxs
        by_cases hxk:x=(kk:Int)
        ·rw [hxk,if_pos rfl,Rz] at hxs
         subst hxk
         refine bs.av (sx:=put1) hk0 ?_
         repeat'(first|refine wk3 ?_|(refine wk2 ?_ ?_<;>intro _)|refine wk4 ?_|fail);all_goals(conv=>whnf)
         exact Ql ⟨(kk+1,_,((k4+1),len3,(lsX M++[[Sd 1 (nl1 Lx)]])),none),[(150,150)],by cases kO2<;>rfl,by cases kO2<;>exact kps,by cases kO2<;>exact kps,⟨Ze (by omega),hkm,by rw [hxs]; exact ⟨hls.k,hls.len,hls.els⟩⟩,by dsimp only; omega⟩
        ·rw [if_neg (by simpa using hxk)] at hxs
         refine bs.av (sx:=put1) hk0 ?_
         repeat'(first|refine wk3 ?_|(refine wk2 ?_ ?_<;>intro _)|refine wk4 ?_|fail);all_goals(conv=>whnf)
         have hren:(lsX M++[[Sd 1 (nl1 Lx)]])++[[Qz 154 0 ((nl L).length+1)]]=Zy (fOf [(150,156),(151,154)]) ((lsX M++[[Sd 1 (nl1 Lx)]])++[[Qz 151 0 ((nl L).length+1)]]):=by rw [hls.els,Zm,Zu]; rfl
         have hids:Xa 152 ((lsX M++[[Sd 1 (nl1 Lx)]])++[[Qz 151 0 ((nl L).length+1)]])=true:=by rw [hls.els,Zv,Xe]; rfl
         have hkx:k4+1+1=((((bfsL (nsN h) nn).take j).flatMap (extL (nsN h)))++extK L (kk+1)).length:=by
          have:=hls.k
          rw [hxs]; simp only [Qp,Sc] at this ⊢; omega
         have hlx:(lsX M++[[Sd 1 (nl1 Lx)]]).length+1=((lsX M++[[Sd 1 (nl1 Lx)]])++[[Qz 151 0 ((nl L).length+1)]]).length:=by simp
         have helx:(lsX M++[[Sd 1 (nl1 Lx)]])++[[Qz 151 0 ((nl L).length+1)]]=lsX ((((bfsL (nsN h) nn).take j).flatMap (extL (nsN h)))++extK L kk)++[[Qz 151 0 ((nl L).length+1)]]:=by rw [hls.els]
         exact Ql ⟨(kk+1,_,(k4+1+1,(lsX M++[[Sd 1 (nl1 Lx)]]).length+1,(lsX M++[[Sd 1 (nl1 Lx)]])++[[Qz 151 0 ((nl L).length+1)]]),some (((nl L).length+1),nl L++[[I (kk:Int)]])),[(150,156),(151,154)],by cases kO2<;>rfl,by cases kO2<;>exact kps,⟨⟨rfl,rfl,rfl⟩,⟨rfl,rfl,⟨_,rfl,hren,hids⟩⟩,by cases kO2<;>exact kps⟩,⟨Ze (by omega),hkm,⟨hkx,hlx,((((bfsL (nsN h) nn).take j).flatMap (extL (nsN h)))++extK L kk),L++[(kk:Int)],by rw [hxs,<-Qs],helx,by simp,by simp [nl,nl1]⟩⟩,by dsimp only; omega⟩
    | some p =>
     rw [hp] at c1
     have hsp:p.ss.length<=2:=by rw [hfs L p hp]; omega
     have hsh:∀ x∈(((bfsL (nsN h) nn).take j).filterMap f).foldl putL ds,x.ss.length<=2:=fun x hx=>by
      rcases Zkl _ _ hx with hx|hx
      ·obtain ⟨L',hL',hf⟩:=Nj.1 hx
       rw [hfs L' x hf,Zk3 nn (List.mem_of_mem_take hL')]; omega
      ·rw [<-hds] at hx
       rcases Zkl _ _ hx with hx|hx
       ·obtain ⟨L',hL',hf⟩:=Nj.1 hx
        obtain ⟨k',hk',hL2⟩:=Ni.1 hL'
        have:=Wa.1 hk'
        rw [hfs L' x hf,Zk3 k' hL2]; omega
       ·simp at hx
     have hO3' : (((bfsL (nsN h) nn).take (j+1)).filterMap f).foldl putL ds=putL ((((bfsL (nsN h) nn).take j).filterMap f).foldl putL ds) p:=by
      rw [ht,Lt,Ko,hp,Jd,Jp]; rfl
     have hdn:((((bfsL (nsN h) nn).take j).filterMap f).foldl putL ds).length<3000:=by
      rw [Zkm,<-hds,Zkm]
      have a1:=Nb f ((bfsL (nsN h) nn).take j)
      have a2:=Nb f ((Sm nn).flatMap (bfsL (nsN h)))
      have a3:=Yx (f:=bfsL (nsN h)) (B:=324) (Sm nn) fun k hk=>Zy5 hm18 (by have:=Wa.1 hk; omega)
      rw [List.length_range] at a3
      rw [Ws] at a1
      simp only [List.length_nil]
      omega
     generalize (((bfsL (nsN h) nn).take j).filterMap f).foldl putL ds=d2 at *
     cases kO2 with
     | zero =>
      obtain rfl:d2=[]:=Qv.1 hO2.k.symm
      obtain rfl:elO2=[]:=hO2.els
      refine bs.av (sx:=put1) hk0 ?_
      repeat'(first|refine wk3 ?_|(refine wk2 ?_ ?_<;>intro _)|refine wk4 ?_|fail);all_goals(conv=>whnf)
      refine bs.sv (sx:=nos) (Zhy Zc) Tryz.func116 (by kernel_rfl) (by kernel_rfl) ?_
      unfold Zdq
      conv=>whnf
      repeat'(first|refine wk3 ?_|(refine wk2 ?_ ?_<;>intro _)|refine wk4 ?_|fail);all_goals(conv=>whnf)
      refine Zim (S:=Nat × Int × List (List AV)) (fun t=>t.1) (fun t=>[(0,.asl 130 0 1),(5,I t.2.1)]) (fun t=>(130,.row 3 t.2.2 true true)::(51,.row 1 elB true true)::(2,.row 7 [[I fx,I fy,I fz,I tx,I ty,I tz,I n]] true false)::(1,.row 2 [s.cells] true false)::(0,.row 9 [h.cells] true false)::gz 101 1 kL elL []) 130 131
       (fun t=>t.2.1=t.1/\t.1<=([]:List Pth).length/\t.2.2=(([]:List Pth).take t.1++p::([]:List Pth).drop t.1).map gcP/\putM p ([]:List Pth) t.1=putM p ([]:List Pth) ([]:List Pth).length) (0,_,[gcP p]) ⟨by show Qa Qb (((1:Nat):Int)-1)=_; rfl,Qd _,rfl,rfl⟩ (Qo rfl) [(130,118)] (by cases kL<;>rfl) (by cases kL<;>exact kps) (by cases kL<;>exact kps) ?_
      rintro ⟨i,ii,cur⟩ ⟨hi1,hi2,hcur,hpm⟩
      dsimp only at hi1 hi2 hcur hpm ⊢
      subst hi1
      cases i with
      | zero =>
       have hput:cur=(putL ([]:List Pth) p).map gcP:=by rw [hcur]; unfold putL; rw [<-hpm]; rfl
       have hO3:OutL ((((bfsL (nsN h) nn).take (j+1)).filterMap f).foldl putL ds) 1 1 cur:=by
        rw [hO3']
        have hlp:=(Zcj ([]:List Pth) p).length_eq
        rw [Sb] at hlp
        exact ⟨by rw [hlp]; rfl,by rw [hput,Re,hlp]; rfl,hput⟩
       refine bs.av (sx:=nos) (Zhy Zc) ?_
       repeat'(first|refine wk3 ?_|(refine wk2 ?_ ?_<;>intro _)|refine wk4 ?_|fail);all_goals(conv=>whnf)
       by_cases hno:nn<o
       rotate_left
       ·refine Wd 1 (Ry (bs.av (sx:=put1) hk0 ?_))
        repeat'(first|refine wk3 ?_|(refine wk2 ?_ ?_<;>intro _)|refine wk4 ?_|fail);all_goals(conv=>whnf)
        exact Ql ⟨(j+1,_,(1,1,cur),(kL,lenL,elL)),[(100,130),(101,101)],by cases kL<;>rfl,by cases kL<;>exact kps,by cases kL<;>exact kps,⟨Ze (by omega),hjl,hO3,by rw [if_neg hno] at hL ⊢; exact hL⟩,by dsimp only; omega⟩
       rw [if_pos hno] at hL
       refine Zim (S:=Nat × Int × (Nat × Nat × List (List AV)) × Option (Nat × List (List AV))) (fun t=>nsN h-t.1)
        (fun t=>[(3,.ptr 0 0 0),(4,.ptr 1 0 0),(5,.ptr 2 0 0),(7,gv 130 1 1),(8,.asl 51 0 lenB),(9,I (nn:Int)),(10,gv 150 t.2.2.1.1 t.2.2.1.2.1),(11,I (j:Int)),(14,I t.2.1)])
        (fun t=>zX t.2.2.2 (gzp 150 t.2.2.1.1 t.2.2.1.2.2 t.2.2.2 ((51,.row 1 elB true true)::(2,.row 7 [[I fx,I fy,I fz,I tx,I ty,I tz,I n]] true false)::(1,.row 2 [s.cells] true false)::(0,.row 9 [h.cells] true false)::gz 130 3 1 cur []))) 150 152
        (fun t=>t.2.1=t.1/\t.1<=nsN h/\LstX ((((bfsL (nsN h) nn).take j).flatMap (extL (nsN h)))++extK L t.1) t.2.2.1.1 t.2.2.1.2.1 t.2.2.1.2.2 t.2.2.2)
        (0,0,(kL,lenL,elL),none) ⟨rfl,Qn _,by rw [show extK L 0=[] from rfl,Rz]; exact ⟨hL.k,hL.len,hL.els⟩⟩ (Qo rfl) [(150,101)] (by cases kL<;>rfl) (by cases kL<;>exact kps) (by cases kL<;>exact kps) ?_
       rintro ⟨kk,ik,⟨k3,len3,el3⟩,lst⟩ ⟨hik,hk3,hX⟩
       dsimp only at hik hk3 hX ⊢
       subst hik
       have c3:=Zm7 (ns:=L) (by omega)
       have ll:((1,nl L):Nat × List (List AV)).2.length=L.length:=Zi L
       have ll2:=Zi L
       have hl3:((((bfsL (nsN h) nn).take j).flatMap (extL (nsN h)))++extK L kk).length<100000:=by
        have a1:=Yx (f:=extL (nsN h)) (B:=18) ((bfsL (nsN h) nn).take j) fun L' _=>Qu (Zkr (nsN h) L') hm18
        have a2:=Yx (f:=fun i=>if L.getLast?=some i then [] else [L++[i]]) (B:=1) (rngI 0 kk) fun i _=>by
         split<;>simp
        have a3:(rngI 0 kk).length=kk:=by simp [rngI]
        rw [Ws] at a1
        rw [a3] at a2
        rw [Qp]
        unfold extK
        omega
       cases lst with
       | none =>
        have hls:LstL _ k3 len3 el3:=⟨hX.1,hX.2.1,hX.2.2⟩
        have hl4:el3.length<100000:=by rw [hls.els,Re]; exact hl3
        have hlen:=hls.len
        cases k3 with
        | zero =>
         by_cases hkm:kk<nsN h
         rotate_left
         ·obtain rfl:kk=nsN h:=by omega
          have c2:=Ys h (nsN h)
          rw [show within (nsN h:Int) 0 (nsur h-1)=false by rw [Qr,ne_eq,within_iff,<-Xq]; omega] at c2
          refine bs.av (sx:=put1) hk0 ?_
          repeat'(first|refine wk3 ?_|(refine wk2 ?_ ?_<;>intro _)|refine wk4 ?_|fail);all_goals(conv=>whnf)
          exact Ql ⟨(j+1,_,(1,1,cur),(0,len3,el3)),[(100,130)],by rfl,kps,kps,⟨Ze (by omega),hjl,hO3,by rw [if_pos hno,ht,Sw]; simpa [extK,extL] using hls⟩,by dsimp only; omega⟩
         have c2:=Ys h kk
         rw [show within (kk:Int) 0 (nsur h-1)=true by rw [within_iff,<-Xq]; omega] at c2
         by_cases hn00:nn=0
         ·have hL0:L.getLast?=none:=by rw [Qv.1 (hLl.trans hn00)]; rfl
          have hxs:=Zr L kk
          rw [hL0,if_neg (by simp)] at hxs
          refine bs.av (sx:=put1) hk0 ?_
          repeat'(first|refine wk3 ?_|(refine wk2 ?_ ?_<;>intro _)|refine wk4 ?_|fail);all_goals(conv=>whnf)
          exact Ql ⟨(kk+1,_,(1,_,[[Qz 151 0 ((nl L).length+1)]]),some (((nl L).length+1),nl L++[[I (kk:Int)]])),[(150,156),(151,154)],by rfl,kps,kps,⟨Ze (by omega),hkm,⟨by rw [hxs,<-Qs,Qp,<-hls.k]; rfl,by rfl,_,_,by rw [hxs,<-Qs],by rw [Qv.1 hls.k.symm]; rfl,by simp,by simp [nl,nl1]⟩⟩,by dsimp only; omega⟩
         ·have hw0:0<=Qa Qb ((nn:Int)-1):=by rw [W_eq (by omega) (by omega)]; omega
          obtain ⟨x,hx,e5⟩:∃ x,L.getLast?=some x/\(nl1 L)[(Qa Qb ((nn:Int)-1)).toNat]?=some [I x]:=by
           rw [W_eq (by omega) (by omega),show ((nn:Int)-1).toNat=nn-1 by omega]
           refine ⟨L[nn-1]'(by omega),?_,?_⟩
           ·rw [Sk,show L.length-1=nn-1 by omega]; exact Qe _
           ·unfold nl1; rw [Qy,Qe (by omega)]; rfl
          have hxs:=Zr L kk
          rw [hx] at hxs
          by_cases hxk:x=(kk:Int)
          ·rw [hxk,if_pos rfl,Rz] at hxs
           subst hxk
           refine bs.av (sx:=put1) hk0 ?_
           repeat'(first|refine wk3 ?_|(refine wk2 ?_ ?_<;>intro _)|refine wk4 ?_|fail);all_goals(conv=>whnf)
           exact Ql ⟨(kk+1,_,(0,len3,el3),none),[],by rfl,kps,kps,⟨Ze (by omega),hkm,by rw [hxs]; exact ⟨hls.k,hls.len,hls.els⟩⟩,by dsimp only; omega⟩
          ·rw [if_neg (by simpa using hxk)] at hxs
           refine bs.av (sx:=put1) hk0 ?_
           repeat'(first|refine wk3 ?_|(refine wk2 ?_ ?_<;>intro _)|refine wk4 ?_|fail);all_goals(conv=>whnf)
           exact Ql ⟨(kk+1,_,(1,_,[[Qz 151 0 ((nl L).length+1)]]),some (((nl L).length+1),nl L++[[I (kk:Int)]])),[(150,156),(151,154)],by rfl,kps,kps,⟨Ze (by omega),hkm,⟨by rw [hxs,<-Qs,Qp,<-hls.k]; rfl,by rfl,_,_,by rw [hxs,<-Qs],by rw [Qv.1 hls.k.symm]; rfl,by simp,by simp [nl,nl1]⟩⟩,by dsimp only; omega⟩
        | succ k4 =>
         by_cases hkm:kk<nsN h
         rotate_left
         ·obtain rfl:kk=nsN h:=by omega
          have c2:=Ys h (nsN h)
          rw [show within (nsN h:Int) 0 (nsur h-1)=false by rw [Qr,ne_eq,within_iff,<-Xq]; omega] at c2
          refine bs.av (sx:=put1) hk0 ?_
          repeat'(first|refine wk3 ?_|(refine wk2 ?_ ?_<;>intro _)|refine wk4 ?_|fail);all_goals(conv=>whnf)
          exact Ql ⟨(j+1,_,(1,1,cur),((k4+1),len3,el3)),[(100,130),(101,150)],by rfl,kps,kps,⟨Ze (by omega),hjl,hO3,by rw [if_pos hno,ht,Sw]; simpa [extK,extL] using hls⟩,by dsimp only; omega⟩
         have c2:=Ys h kk
         rw [show within (kk:Int) 0 (nsur h-1)=true by rw [within_iff,<-Xq]; omega] at c2
         by_cases hn00:nn=0
         ·have hL0:L.getLast?=none:=by rw [Qv.1 (hLl.trans hn00)]; rfl
          have hxs:=Zr L kk
          rw [hL0,if_neg (by simp)] at hxs
          refine bs.av (sx:=put1) hk0 ?_
          repeat'(first|refine wk3 ?_|(refine wk2 ?_ ?_<;>intro _)|refine wk4 ?_|fail);all_goals(conv=>whnf)
          have hren:el3++[[Qz 154 0 ((nl L).length+1)]]=Zy (fOf [(150,156),(151,154)]) (el3++[[Qz 151 0 ((nl L).length+1)]]):=by rw [hls.els,Zm,Zu]; rfl
          have hids:Xa 152 (el3++[[Qz 151 0 ((nl L).length+1)]])=true:=by rw [hls.els,Zv,Xe]; rfl
          have hkx:k4+1+1=((((bfsL (nsN h) nn).take j).flatMap (extL (nsN h)))++extK L (kk+1)).length:=by
           have:=hls.k
           rw [hxs]; simp only [Qp,Sc] at this ⊢; omega
          have hlx:el3.length+1=(el3++[[Qz 151 0 ((nl L).length+1)]]).length:=by simp
          have helx:el3++[[Qz 151 0 ((nl L).length+1)]]=lsX ((((bfsL (nsN h) nn).take j).flatMap (extL (nsN h)))++extK L kk)++[[Qz 151 0 ((nl L).length+1)]]:=by rw [hls.els]
          exact Ql ⟨(kk+1,_,(k4+1+1,el3.length+1,el3++[[Qz 151 0 ((nl L).length+1)]]),some (((nl L).length+1),nl L++[[I (kk:Int)]])),[(150,156),(151,154)],by rfl,kps,⟨⟨rfl,rfl,rfl⟩,⟨rfl,rfl,⟨_,rfl,hren,hids⟩⟩,kps⟩,⟨Ze (by omega),hkm,⟨hkx,hlx,((((bfsL (nsN h) nn).take j).flatMap (extL (nsN h)))++extK L kk),L++[(kk:Int)],by rw [hxs,<-Qs],helx,by simp,by simp [nl,nl1]⟩⟩,by dsimp only; omega⟩
         ·have hw0:0<=Qa Qb ((nn:Int)-1):=by rw [W_eq (by omega) (by omega)]; omega
          obtain ⟨x,hx,e5⟩:∃ x,L.getLast?=some x/\(nl1 L)[(Qa Qb ((nn:Int)-1)).toNat]?=some [I x]:=by
           rw [W_eq (by omega) (by omega),show ((nn:Int)-1).toNat=nn-1 by omega]
           refine ⟨L[nn-1]'(by omega),?_,?_⟩
           ·rw [Sk,show L.length-1=nn-1 by omega]; exact Qe _
           ·unfold nl1; rw [Qy,Qe (by omega)]; rfl
          have hxs:=Zr L kk
          rw [hx] at hxs
          by_cases hxk:x=(kk:Int)
          ·rw [hxk,if_pos rfl,Rz] at hxs
           subst hxk
           refine bs.av (sx:=put1) hk0 ?_
           repeat'(first|refine wk3 ?_|(refine wk2 ?_ ?_<;>intro _)|refine wk4 ?_|fail);all_goals(conv=>whnf)
           exact Ql ⟨(kk+1,_,((k4+1),len3,el3),none),[(150,150)],by rfl,kps,kps,⟨Ze (by omega),hkm,by rw [hxs]; exact ⟨hls.k,hls.len,hls.els⟩⟩,by dsimp only; omega⟩
          ·rw [if_neg (by simpa using hxk)] at hxs
           refine bs.av (sx:=put1) hk0 ?_
           repeat'(first|refine wk3 ?_|(refine wk2 ?_ ?_<;>intro _)|refine wk4 ?_|fail);all_goals(conv=>whnf)
           have hren:el3++[[Qz 154 0 ((nl L).length+1)]]=Zy (fOf [(150,156),(151,154)]) (el3++[[Qz 151 0 ((nl L).length+1)]]):=by rw [hls.els,Zm,Zu]; rfl
           have hids:Xa 152 (el3++[[Qz 151 0 ((nl L).length+1)]])=true:=by rw [hls.els,Zv,Xe]; rfl
           have hkx:k4+1+1=((((bfsL (nsN h) nn).take j).flatMap (extL (nsN h)))++extK L (kk+1)).length:=by
            have:=hls.k
            rw [hxs]; simp only [Qp,Sc] at this ⊢; omega
           have hlx:el3.length+1=(el3++[[Qz 151 0 ((nl L).length+1)]]).length:=by simp
           have helx:el3++[[Qz 151 0 ((nl L).length+1)]]=lsX ((((bfsL (nsN h) nn).take j).flatMap (extL (nsN h)))++extK L kk)++[[Qz 151 0 ((nl L).length+1)]]:=by rw [hls.els]
           exact Ql ⟨(kk+1,_,(k4+1+1,el3.length+1,el3++[[Qz 151 0 ((nl L).length+1)]]),some (((nl L).length+1),nl L++[[I (kk:Int)]])),[(150,156),(151,154)],by rfl,kps,⟨⟨rfl,rfl,rfl⟩,⟨rfl,rfl,⟨_,rfl,hren,hids⟩⟩,kps⟩,⟨Ze (by omega),hkm,⟨hkx,hlx,((((bfsL (nsN h) nn).take j).flatMap (extL (nsN h)))++extK L kk),L++[(kk:Int)],by rw [hxs,<-Qs],helx,by simp,by simp [nl,nl1]⟩⟩,by dsimp only; omega⟩
       | some q =>
        obtain ⟨lx,ex⟩:=q
        obtain ⟨x1,x2,M,Lx,x3,x4,x5,x6⟩:=hX
        dsimp only at x4 x5 x6
        cases k3 with
        | zero=>rw [x3] at x1; simp at x1
        | succ k4 =>
         have ev:La lx (Lb 0 ex)=nl1 Lx:=by rw [Th,x5,Wj,x6]
         have hls:LstL (((bfsL (nsN h) nn).take j).flatMap (extL (nsN h))++extK L kk) (k4+1) len3 (lsX M++[[.isl 1 (nl1 Lx)]]):=⟨x1,by rw [x2,x4,Qp,Qp]; rfl,by rw [x3]; simp⟩
         have hl4:(lsX M++[[Sd 1 (nl1 Lx)]]).length<100000:=by rw [hls.els,Re]; exact hl3
         have hlen:=hls.len
         refine Gt 150 (elems:=el3) (elems':=lsX M++[[.isl 1 (nl1 Lx)]]) (l:=[151]) rfl (by
          rw [x4]
          refine Zap (l:=[]) (Zgp fun e he=>?_) ?_
          ·obtain ⟨L',_,rfl⟩:=Wf.1 he
           rfl
          ·rw [<-ev]; rfl) rfl rfl ?_
         by_cases hkm:kk<nsN h
         rotate_left
         ·obtain rfl:kk=nsN h:=by omega
          have c2:=Ys h (nsN h)
          rw [show within (nsN h:Int) 0 (nsur h-1)=false by rw [Qr,ne_eq,within_iff,<-Xq]; omega] at c2
          refine bs.av (sx:=put1) hk0 ?_
          repeat'(first|refine wk3 ?_|(refine wk2 ?_ ?_<;>intro _)|refine wk4 ?_|fail);all_goals(conv=>whnf)
          exact Ql ⟨(j+1,_,(1,1,cur),((k4+1),len3,(lsX M++[[Sd 1 (nl1 Lx)]]))),[(100,130),(101,150)],by rfl,kps,kps,⟨Ze (by omega),hjl,hO3,by rw [if_pos hno,ht,Sw]; simpa [extK,extL] using hls⟩,by dsimp only; omega⟩
         have c2:=Ys h kk
         rw [show within (kk:Int) 0 (nsur h-1)=true by rw [within_iff,<-Xq]; omega] at c2
         by_cases hn00:nn=0
         ·have hL0:L.getLast?=none:=by rw [Qv.1 (hLl.trans hn00)]; rfl
          have hxs:=Zr L kk
          rw [hL0,if_neg (by simp)] at hxs
          refine bs.av (sx:=put1) hk0 ?_
          repeat'(first|refine wk3 ?_|(refine wk2 ?_ ?_<;>intro _)|refine wk4 ?_|fail);all_goals(conv=>whnf)
          have hren:(lsX M++[[Sd 1 (nl1 Lx)]])++[[Qz 154 0 ((nl L).length+1)]]=Zy (fOf [(150,156),(151,154)]) ((lsX M++[[Sd 1 (nl1 Lx)]])++[[Qz 151 0 ((nl L).length+1)]]):=by rw [hls.els,Zm,Zu]; rfl
          have hids:Xa 152 ((lsX M++[[Sd 1 (nl1 Lx)]])++[[Qz 151 0 ((nl L).length+1)]])=true:=by rw [hls.els,Zv,Xe]; rfl
          have hkx:k4+1+1=((((bfsL (nsN h) nn).take j).flatMap (extL (nsN h)))++extK L (kk+1)).length:=by
           have:=hls.k
           rw [hxs]; simp only [Qp,Sc] at this ⊢; omega
          have hlx:(lsX M++[[Sd 1 (nl1 Lx)]]).length+1=((lsX M++[[Sd 1 (nl1 Lx)]])++[[Qz 151 0 ((nl L).length+1)]]).length:=by simp
          have helx:(lsX M++[[Sd 1 (nl1 Lx)]])++[[Qz 151 0 ((nl L).length+1)]]=lsX ((((bfsL (nsN h) nn).take j).flatMap (extL (nsN h)))++extK L kk)++[[Qz 151 0 ((nl L).length+1)]]:=by rw [hls.els]
          exact Ql ⟨(kk+1,_,(k4+1+1,(lsX M++[[Sd 1 (nl1 Lx)]]).length+1,(lsX M++[[Sd 1 (nl1 Lx)]])++[[Qz 151 0 ((nl L).length+1)]]),some (((nl L).length+1),nl L++[[I (kk:Int)]])),[(150,156),(151,154)],by rfl,kps,⟨⟨rfl,rfl,rfl⟩,⟨rfl,rfl,⟨_,rfl,hren,hids⟩⟩,kps⟩,⟨Ze (by omega),hkm,⟨hkx,hlx,((((bfsL (nsN h) nn).take j).flatMap (extL (nsN h)))++extK L kk),L++[(kk:Int)],by rw [hxs,<-Qs],helx,by simp,by simp [nl,nl1]⟩⟩,by dsimp only; omega⟩
         ·have hw0:0<=Qa Qb ((nn:Int)-1):=by rw [W_eq (by omega) (by omega)]; omega
          obtain ⟨x,hx,e5⟩:∃ x,L.getLast?=some x/\(nl1 L)[(Qa Qb ((nn:Int)-1)).toNat]?=some [I x]:=by
           rw [W_eq (by omega) (by omega),show ((nn:Int)-1).toNat=nn-1 by omega]
           refine ⟨L[nn-1]'(by omega),?_,?_⟩
           ·rw [Sk,show L.length-1=nn-1 by omega]; exact Qe _
           ·unfold nl1; rw [Qy,Qe (by omega)]; rfl
          have hxs:=Zr L kk
          rw [hx] at hxs
          by_cases hxk:x=(kk:Int)
          ·rw [hxk,if_pos rfl,Rz] at hxs
           subst hxk
           refine bs.av (sx:=put1) hk0 ?_
           repeat'(first|refine wk3 ?_|(refine wk2 ?_ ?_<;>intro _)|refine wk4 ?_|fail);all_goals(conv=>whnf)
           exact Ql ⟨(kk+1,_,((k4+1),len3,(lsX M++[[Sd 1 (nl1 Lx)]])),none),[(150,150)],by rfl,kps,kps,⟨Ze (by omega),hkm,by rw [hxs]; exact ⟨hls.k,hls.len,hls.els⟩⟩,by dsimp only; omega⟩
          ·rw [if_neg (by simpa using hxk)] at hxs
           refine bs.av (sx:=put1) hk0 ?_
           repeat'(first|refine wk3 ?_|(refine wk2 ?_ ?_<;>intro _)|refine wk4 ?_|fail);all_goals(conv=>whnf)
           have hren:(lsX M++[[Sd 1 (nl1 Lx)]])++[[Qz 154 0 ((nl L).length+1)]]=Zy (fOf [(150,156),(151,154)]) ((lsX M++[[Sd 1 (nl1 Lx)]])++[[Qz 151 0 ((nl L).length+1)]]):=by rw [hls.els,Zm,Zu]; rfl
           have hids:Xa 152 ((lsX M++[[Sd 1 (nl1 Lx)]])++[[Qz 151 0 ((nl L).length+1)]])=true:=by rw [hls.els,Zv,Xe]; rfl
           have hkx:k4+1+1=((((bfsL (nsN h) nn).take j).flatMap (extL (nsN h)))++extK L (kk+1)).length:=by
            have:=hls.k
            rw [hxs]; simp only [Qp,Sc] at this ⊢; omega
           have hlx:(lsX M++[[Sd 1 (nl1 Lx)]]).length+1=((lsX M++[[Sd 1 (nl1 Lx)]])++[[Qz 151 0 ((nl L).length+1)]]).length:=by simp
           have helx:(lsX M++[[Sd 1 (nl1 Lx)]])++[[Qz 151 0 ((nl L).length+1)]]=lsX ((((bfsL (nsN h) nn).take j).flatMap (extL (nsN h)))++extK L kk)++[[Qz 151 0 ((nl L).length+1)]]:=by rw [hls.els]
           exact Ql ⟨(kk+1,_,(k4+1+1,(lsX M++[[Sd 1 (nl1 Lx)]]).length+1,(lsX M++[[Sd 1 (nl1 Lx)]])++[[Qz 151 0 ((nl L).length+1)]]),some (((nl L).length+1),nl L++[[I (kk:Int)]])),[(150,156),(151,154)],by rfl,kps,⟨⟨rfl,rfl,rfl⟩,⟨rfl,rfl,⟨_,rfl,hren,hids⟩⟩,kps⟩,⟨Ze (by omega),hkm,⟨hkx,hlx,((((bfsL (nsN h) nn).take j).flatMap (extL (nsN h)))++extK L kk),L++[(kk:Int)],by rw [hxs,<-Qs],helx,by simp,by simp [nl,nl1]⟩⟩,by dsimp only; omega⟩
      | succ q=>simp at hi2
     | succ q1 =>
      have hlo:=hO2.len
      have hle2:elO2.length=d2.length:=by rw [hO2.els,Re]
      refine bs.av (sx:=put1) hk0 ?_
      repeat'(first|refine wk3 ?_|(refine wk2 ?_ ?_<;>intro _)|refine wk4 ?_|fail);all_goals(conv=>whnf)
      refine bs.sv (sx:=nos) (Zhy Zc) Tryz.func116 (by kernel_rfl) (by kernel_rfl) ?_
      unfold Zdq
      conv=>whnf
      repeat'(first|refine wk3 ?_|(refine wk2 ?_ ?_<;>intro _)|refine wk4 ?_|fail);all_goals(conv=>whnf)
      refine Zim (S:=Nat × Int × List (List AV)) (fun t=>t.1) (fun t=>[(0,.asl 130 0 (elO2.length+1)),(5,I t.2.1)]) (fun t=>(130,.row 3 t.2.2 true true)::(51,.row 1 elB true true)::(2,.row 7 [[I fx,I fy,I fz,I tx,I ty,I tz,I n]] true false)::(1,.row 2 [s.cells] true false)::(0,.row 9 [h.cells] true false)::gz 101 1 kL elL []) 130 131
       (fun t=>t.2.1=t.1/\t.1<=d2.length/\t.2.2=(d2.take t.1++p::d2.drop t.1).map gcP/\putM p d2 t.1=putM p d2 d2.length) (d2.length,_,elO2++[gcP p]) ⟨by show Qa Qb (((elO2.length+1:Nat):Int)-1)=_; rw [W_eq (by omega) (by omega)]; omega,Qd _,by dsimp only; rw [Wj,List.drop_length,hO2.els,Po]; rfl,rfl⟩ (Qo rfl) [(130,118)] (by cases kL<;>rfl) (by cases kL<;>exact kps) (by cases kL<;>exact kps) ?_
      rintro ⟨i,ii,cur⟩ ⟨hi1,hi2,hcur,hpm⟩
      dsimp only at hi1 hi2 hcur hpm ⊢
      subst hi1
      cases i with
      | zero =>
       have hput:cur=(putL d2 p).map gcP:=by rw [hcur]; unfold putL; rw [<-hpm]; rfl
       have hO3:OutL ((((bfsL (nsN h) nn).take (j+1)).filterMap f).foldl putL ds) (q1+1+1) (elO2.length+1) cur:=by
        rw [hO3']
        have hlp:=(Zcj d2 p).length_eq
        rw [Sb] at hlp
        exact ⟨by rw [hlp]; rw [<-hO2.k],by rw [hput,Re,hlp]; rw [hle2],hput⟩
       refine bs.av (sx:=nos) (Zhy Zc) ?_
       repeat'(first|refine wk3 ?_|(refine wk2 ?_ ?_<;>intro _)|refine wk4 ?_|fail);all_goals(conv=>whnf)
       by_cases hno:nn<o
       rotate_left
       ·refine Wd 1 (Ry (bs.av (sx:=put1) hk0 ?_))
        repeat'(first|refine wk3 ?_|(refine wk2 ?_ ?_<;>intro _)|refine wk4 ?_|fail);all_goals(conv=>whnf)
        exact Ql ⟨(j+1,_,((q1+1+1),(elO2.length+1),cur),(kL,lenL,elL)),[(100,130),(101,101)],by cases kL<;>rfl,by cases kL<;>exact kps,by cases kL<;>exact kps,⟨Ze (by omega),hjl,hO3,by rw [if_neg hno] at hL ⊢; exact hL⟩,by dsimp only; omega⟩
       rw [if_pos hno] at hL
       refine Zim (S:=Nat × Int × (Nat × Nat × List (List AV)) × Option (Nat × List (List AV))) (fun t=>nsN h-t.1)
        (fun t=>[(3,.ptr 0 0 0),(4,.ptr 1 0 0),(5,.ptr 2 0 0),(7,gv 130 (q1+1+1) (elO2.length+1)),(8,.asl 51 0 lenB),(9,I (nn:Int)),(10,gv 150 t.2.2.1.1 t.2.2.1.2.1),(11,I (j:Int)),(14,I t.2.1)])
        (fun t=>zX t.2.2.2 (gzp 150 t.2.2.1.1 t.2.2.1.2.2 t.2.2.2 ((51,.row 1 elB true true)::(2,.row 7 [[I fx,I fy,I fz,I tx,I ty,I tz,I n]] true false)::(1,.row 2 [s.cells] true false)::(0,.row 9 [h.cells] true false)::gz 130 3 (q1+1+1) cur []))) 150 152
        (fun t=>t.2.1=t.1/\t.1<=nsN h/\LstX ((((bfsL (nsN h) nn).take j).flatMap (extL (nsN h)))++extK L t.1) t.2.2.1.1 t.2.2.1.2.1 t.2.2.1.2.2 t.2.2.2)
        (0,0,(kL,lenL,elL),none) ⟨rfl,Qn _,by rw [show extK L 0=[] from rfl,Rz]; exact ⟨hL.k,hL.len,hL.els⟩⟩ (Qo rfl) [(150,101)] (by cases kL<;>rfl) (by cases kL<;>exact kps) (by cases kL<;>exact kps) ?_
       rintro ⟨kk,ik,⟨k3,len3,el3⟩,lst⟩ ⟨hik,hk3,hX⟩
       dsimp only at hik hk3 hX ⊢
       subst hik
       have c3:=Zm7 (ns:=L) (by omega)
       have ll:((1,nl L):Nat × List (List AV)).2.length=L.length:=Zi L
       have ll2:=Zi L
       have hl3:((((bfsL (nsN h) nn).take j).flatMap (extL (nsN h)))++extK L kk).length<100000:=by
        have a1:=Yx (f:=extL (nsN h)) (B:=18) ((bfsL (nsN h) nn).take j) fun L' _=>Qu (Zkr (nsN h) L') hm18
        have a2:=Yx (f:=fun i=>if L.getLast?=some i then [] else [L++[i]]) (B:=1) (rngI 0 kk) fun i _=>by
         split<;>simp
        have a3:(rngI 0 kk).length=kk:=by simp [rngI]
        rw [Ws] at a1
        rw [a3] at a2
        rw [Qp]
        unfold extK
        omega
       cases lst with
       | none =>
        have hls:LstL _ k3 len3 el3:=⟨hX.1,hX.2.1,hX.2.2⟩
        have hl4:el3.length<100000:=by rw [hls.els,Re]; exact hl3
        have hlen:=hls.len
        cases k3 with
        | zero =>
         by_cases hkm:kk<nsN h
         rotate_left
         ·obtain rfl:kk=nsN h:=by omega
          have c2:=Ys h (nsN h)
          rw [show within (nsN h:Int) 0 (nsur h-1)=false by rw [Qr,ne_eq,within_iff,<-Xq]; omega] at c2
          refine bs.av (sx:=put1) hk0 ?_
          repeat'(first|refine wk3 ?_|(refine wk2 ?_ ?_<;>intro _)|refine wk4 ?_|fail);all_goals(conv=>whnf)
          exact Ql ⟨(j+1,_,((q1+1+1),(elO2.length+1),cur),(0,len3,el3)),[(100,130)],by rfl,kps,kps,⟨Ze (by omega),hjl,hO3,by rw [if_pos hno,ht,Sw]; simpa [extK,extL] using hls⟩,by dsimp only; omega⟩
         have c2:=Ys h kk
         rw [show within (kk:Int) 0 (nsur h-1)=true by rw [within_iff,<-Xq]; omega] at c2
         by_cases hn00:nn=0
         ·have hL0:L.getLast?=none:=by rw [Qv.1 (hLl.trans hn00)]; rfl
          have hxs:=Zr L kk
          rw [hL0,if_neg (by simp)] at hxs
          refine bs.av (sx:=put1) hk0 ?_
          repeat'(first|refine wk3 ?_|(refine wk2 ?_ ?_<;>intro _)|refine wk4 ?_|fail);all_goals(conv=>whnf)
          exact Ql ⟨(kk+1,_,(1,_,[[Qz 151 0 ((nl L).length+1)]]),some (((nl L).length+1),nl L++[[I (kk:Int)]])),[(150,156),(151,154)],by rfl,kps,kps,⟨Ze (by omega),hkm,⟨by rw [hxs,<-Qs,Qp,<-hls.k]; rfl,by rfl,_,_,by rw [hxs,<-Qs],by rw [Qv.1 hls.k.symm]; rfl,by simp,by simp [nl,nl1]⟩⟩,by dsimp only; omega⟩
         ·have hw0:0<=Qa Qb ((nn:Int)-1):=by rw [W_eq (by omega) (by omega)]; omega
          obtain ⟨x,hx,e5⟩:∃ x,L.getLast?=some x/\(nl1 L)[(Qa Qb ((nn:Int)-1)).toNat]?=some [I x]:=by
           rw [W_eq (by omega) (by omega),show ((nn:Int)-1).toNat=nn-1 by omega]
           refine ⟨L[nn-1]'(by omega),?_,?_⟩
           ·rw [Sk,show L.length-1=nn-1 by omega]; exact Qe _
           ·unfold nl1; rw [Qy,Qe (by omega)]; rfl
          have hxs:=Zr L kk
          rw [hx] at hxs
          by_cases hxk:x=(kk:Int)
          ·rw [hxk,if_pos rfl,Rz] at hxs
           subst hxk
           refine bs.av (sx:=put1) hk0 ?_
           repeat'(first|refine wk3 ?_|(refine wk2 ?_ ?_<;>intro _)|refine wk4 ?_|fail);all_goals(conv=>whnf)
           exact Ql ⟨(kk+1,_,(0,len3,el3),none),[],by rfl,kps,kps,⟨Ze (by omega),hkm,by rw [hxs]; exact ⟨hls.k,hls.len,hls.els⟩⟩,by dsimp only; omega⟩
          ·rw [if_neg (by simpa using hxk)] at hxs
           refine bs.av (sx:=put1) hk0 ?_
           repeat'(first|refine wk3 ?_|(refine wk2 ?_ ?_<;>intro _)|refine wk4 ?_|fail);all_goals(conv=>whnf)
           exact Ql ⟨(kk+1,_,(1,_,[[Qz 151 0 ((nl L).length+1)]]),some (((nl L).length+1),nl L++[[I (kk:Int)]])),[(150,156),(151,154)],by rfl,kps,kps,⟨Ze (by omega),hkm,⟨by rw [hxs,<-Qs,Qp,<-hls.k]; rfl,by rfl,_,_,by rw [hxs,<-Qs],by rw [Qv.1 hls.k.symm]; rfl,by simp,by simp [nl,nl1]⟩⟩,by dsimp only; omega⟩
        | succ k4 =>
         by_cases hkm:kk<nsN h
         rotate_left
         ·obtain rfl:kk=nsN h:=by omega
          have c2:=Ys h (nsN h)
          rw [show within (nsN h:Int) 0 (nsur h-1)=false by rw [Qr,ne_eq,within_iff,<-Xq]; omega] at c2
          refine bs.av (sx:=put1) hk0 ?_
          repeat'(first|refine wk3 ?_|(refine wk2 ?_ ?_<;>intro _)|refine wk4 ?_|fail);all_goals(conv=>whnf)
          exact Ql ⟨(j+1,_,((q1+1+1),(elO2.length+1),cur),((k4+1),len3,el3)),[(100,130),(101,150)],by rfl,kps,kps,⟨Ze (by omega),hjl,hO3,by rw [if_pos hno,ht,Sw]; simpa [extK,extL] using hls⟩,by dsimp only; omega⟩
         have c2:=Ys h kk
         rw [show within (kk:Int) 0 (nsur h-1)=true by rw [within_iff,<-Xq]; omega] at c2
         by_cases hn00:nn=0
         ·have hL0:L.getLast?=none:=by rw [Qv.1 (hLl.trans hn00)]; rfl
          have hxs:=Zr L kk
          rw [hL0,if_neg (by simp)] at hxs
          refine bs.av (sx:=put1) hk0 ?_
          repeat'(first|refine wk3 ?_|(refine wk2 ?_ ?_<;>intro _)|refine wk4 ?_|fail);all_goals(conv=>whnf)
          have hren:el3++[[Qz 154 0 ((nl L).length+1)]]=Zy (fOf [(150,156),(151,154)]) (el3++[[Qz 151 0 ((nl L).length+1)]]):=by rw [hls.els,Zm,Zu]; rfl
          have hids:Xa 152 (el3++[[Qz 151 0 ((nl L).length+1)]])=true:=by rw [hls.els,Zv,Xe]; rfl
          have hkx:k4+1+1=((((bfsL (nsN h) nn).take j).flatMap (extL (nsN h)))++extK L (kk+1)).length:=by
           have:=hls.k
           rw [hxs]; simp only [Qp,Sc] at this ⊢; omega
          have hlx:el3.length+1=(el3++[[Qz 151 0 ((nl L).length+1)]]).length:=by simp
          have helx:el3++[[Qz 151 0 ((nl L).length+1)]]=lsX ((((bfsL (nsN h) nn).take j).flatMap (extL (nsN h)))++extK L kk)++[[Qz 151 0 ((nl L).length+1)]]:=by rw [hls.els]
          exact Ql ⟨(kk+1,_,(k4+1+1,el3.length+1,el3++[[Qz 151 0 ((nl L).length+1)]]),some (((nl L).length+1),nl L++[[I (kk:Int)]])),[(150,156),(151,154)],by rfl,kps,⟨⟨rfl,rfl,rfl⟩,⟨rfl,rfl,⟨_,rfl,hren,hids⟩⟩,kps⟩,⟨Ze (by omega),hkm,⟨hkx,hlx,((((bfsL (nsN h) nn).take j).flatMap (extL (nsN h)))++extK L kk),L++[(kk:Int)],by rw [hxs,<-Qs],helx,by simp,by simp [nl,nl1]⟩⟩,by dsimp only; omega⟩
         ·have hw0:0<=Qa Qb ((nn:Int)-1):=by rw [W_eq (by omega) (by omega)]; omega
          obtain ⟨x,hx,e5⟩:∃ x,L.getLast?=some x/\(nl1 L)[(Qa Qb ((nn:Int)-1)).toNat]?=some [I x]:=by
           rw [W_eq (by omega) (by omega),show ((nn:Int)-1).toNat=nn-1 by omega]
           refine ⟨L[nn-1]'(by omega),?_,?_⟩
           ·rw [Sk,show L.length-1=nn-1 by omega]; exact Qe _
           ·unfold nl1; rw [Qy,Qe (by omega)]; rfl
          have hxs:=Zr L kk
          rw [hx] at hxs
          by_cases hxk:x=(kk:Int)
          ·rw [hxk,if_pos rfl,Rz] at hxs
           subst hxk
           refine bs.av (sx:=put1) hk0 ?_
           repeat'(first|refine wk3 ?_|(refine wk2 ?_ ?_<;>intro _)|refine wk4 ?_|fail);all_goals(conv=>whnf)
           exact Ql ⟨(kk+1,_,((k4+1),len3,el3),none),[(150,150)],by rfl,kps,kps,⟨Ze (by omega),hkm,by rw [hxs]; exact ⟨hls.k,hls.len,hls.els⟩⟩,by dsimp only; omega⟩
          ·rw [if_neg (by simpa using hxk)] at hxs
           refine bs.av (sx:=put1) hk0 ?_
           repeat'(first|refine wk3 ?_|(refine wk2 ?_ ?_<;>intro _)|refine wk4 ?_|fail);all_goals(conv=>whnf)
           have hren:el3++[[Qz 154 0 ((nl L).length+1)]]=Zy (fOf [(150,156),(151,154)]) (el3++[[Qz 151 0 ((nl L).length+1)]]):=by rw [hls.els,Zm,Zu]; rfl
           have hids:Xa 152 (el3++[[Qz 151 0 ((nl L).length+1)]])=true:=by rw [hls.els,Zv,Xe]; rfl
           have hkx:k4+1+1=((((bfsL (nsN h) nn).take j).flatMap (extL (nsN h)))++extK L (kk+1)).length:=by
            have:=hls.k
            rw [hxs]; simp only [Qp,Sc] at this ⊢; omega
           have hlx:el3.length+1=(el3++[[Qz 151 0 ((nl L).length+1)]]).length:=by simp
           have helx:el3++[[Qz 151 0 ((nl L).length+1)]]=lsX ((((bfsL (nsN h) nn).take j).flatMap (extL (nsN h)))++extK L kk)++[[Qz 151 0 ((nl L).length+1)]]:=by rw [hls.els]
           exact Ql ⟨(kk+1,_,(k4+1+1,el3.length+1,el3++[[Qz 151 0 ((nl L).length+1)]]),some (((nl L).length+1),nl L++[[I (kk:Int)]])),[(150,156),(151,154)],by rfl,kps,⟨⟨rfl,rfl,rfl⟩,⟨rfl,rfl,⟨_,rfl,hren,hids⟩⟩,kps⟩,⟨Ze (by omega),hkm,⟨hkx,hlx,((((bfsL (nsN h) nn).take j).flatMap (extL (nsN h)))++extK L kk),L++[(kk:Int)],by rw [hxs,<-Qs],helx,by simp,by simp [nl,nl1]⟩⟩,by dsimp only; omega⟩
       | some q =>
        obtain ⟨lx,ex⟩:=q
        obtain ⟨x1,x2,M,Lx,x3,x4,x5,x6⟩:=hX
        dsimp only at x4 x5 x6
        cases k3 with
        | zero=>rw [x3] at x1; simp at x1
        | succ k4 =>
         have ev:La lx (Lb 0 ex)=nl1 Lx:=by rw [Th,x5,Wj,x6]
         have hls:LstL (((bfsL (nsN h) nn).take j).flatMap (extL (nsN h))++extK L kk) (k4+1) len3 (lsX M++[[.isl 1 (nl1 Lx)]]):=⟨x1,by rw [x2,x4,Qp,Qp]; rfl,by rw [x3]; simp⟩
         have hl4:(lsX M++[[Sd 1 (nl1 Lx)]]).length<100000:=by rw [hls.els,Re]; exact hl3
         have hlen:=hls.len
         refine Gt 150 (elems:=el3) (elems':=lsX M++[[.isl 1 (nl1 Lx)]]) (l:=[151]) rfl (by
          rw [x4]
          refine Zap (l:=[]) (Zgp fun e he=>?_) ?_
          ·obtain ⟨L',_,rfl⟩:=Wf.1 he
           rfl
          ·rw [<-ev]; rfl) rfl rfl ?_
         by_cases hkm:kk<nsN h
         rotate_left
         ·obtain rfl:kk=nsN h:=by omega
          have c2:=Ys h (nsN h)
          rw [show within (nsN h:Int) 0 (nsur h-1)=false by rw [Qr,ne_eq,within_iff,<-Xq]; omega] at c2
          refine bs.av (sx:=put1) hk0 ?_
          repeat'(first|refine wk3 ?_|(refine wk2 ?_ ?_<;>intro _)|refine wk4 ?_|fail);all_goals(conv=>whnf)
          exact Ql ⟨(j+1,_,((q1+1+1),(elO2.length+1),cur),((k4+1),len3,(lsX M++[[Sd 1 (nl1 Lx)]]))),[(100,130),(101,150)],by rfl,kps,kps,⟨Ze (by omega),hjl,hO3,by rw [if_pos hno,ht,Sw]; simpa [extK,extL] using hls⟩,by dsimp only; omega⟩
         have c2:=Ys h kk
         rw [show within (kk:Int) 0 (nsur h-1)=true by rw [within_iff,<-Xq]; omega] at c2
         by_cases hn00:nn=0
         ·have hL0:L.getLast?=none:=by rw [Qv.1 (hLl.trans hn00)]; rfl
          have hxs:=Zr L kk
          rw [hL0,if_neg (by simp)] at hxs
          refine bs.av (sx:=put1) hk0 ?_
          repeat'(first|refine wk3 ?_|(refine wk2 ?_ ?_<;>intro _)|refine wk4 ?_|fail);all_goals(conv=>whnf)
          have hren:(lsX M++[[Sd 1 (nl1 Lx)]])++[[Qz 154 0 ((nl L).length+1)]]=Zy (fOf [(150,156),(151,154)]) ((lsX M++[[Sd 1 (nl1 Lx)]])++[[Qz 151 0 ((nl L).length+1)]]):=by rw [hls.els,Zm,Zu]; rfl
          have hids:Xa 152 ((lsX M++[[Sd 1 (nl1 Lx)]])++[[Qz 151 0 ((nl L).length+1)]])=true:=by rw [hls.els,Zv,Xe]; rfl
          have hkx:k4+1+1=((((bfsL (nsN h) nn).take j).flatMap (extL (nsN h)))++extK L (kk+1)).length:=by
           have:=hls.k
           rw [hxs]; simp only [Qp,Sc] at this ⊢; omega
          have hlx:(lsX M++[[Sd 1 (nl1 Lx)]]).length+1=((lsX M++[[Sd 1 (nl1 Lx)]])++[[Qz 151 0 ((nl L).length+1)]]).length:=by simp
          have helx:(lsX M++[[Sd 1 (nl1 Lx)]])++[[Qz 151 0 ((nl L).length+1)]]=lsX ((((bfsL (nsN h) nn).take j).flatMap (extL (nsN h)))++extK L kk)++[[Qz 151 0 ((nl L).length+1)]]:=by rw [hls.els]
          exact Ql ⟨(kk+1,_,(k4+1+1,(lsX M++[[Sd 1 (nl1 Lx)]]).length+1,(lsX M++[[Sd 1 (nl1 Lx)]])++[[Qz 151 0 ((nl L).length+1)]]),some (((nl L).length+1),nl L++[[I (kk:Int)]])),[(150,156),(151,154)],by rfl,kps,⟨⟨rfl,rfl,rfl⟩,⟨rfl,rfl,⟨_,rfl,hren,hids⟩⟩,kps⟩,⟨Ze (by omega),hkm,⟨hkx,hlx,((((bfsL (nsN h) nn).take j).flatMap (extL (nsN h)))++extK L kk),L++[(kk:Int)],by rw [hxs,<-Qs],helx,by simp,by simp [nl,nl1]⟩⟩,by dsimp only; omega⟩
         ·have hw0:0<=Qa Qb ((nn:Int)-1):=by rw [W_eq (by omega) (by omega)]; omega
          obtain ⟨x,hx,e5⟩:∃ x,L.getLast?=some x/\(nl1 L)[(Qa Qb ((nn:Int)-1)).toNat]?=some [I x]:=by
           rw [W_eq (by omega) (by omega),show ((nn:Int)-1).toNat=nn-1 by omega]
           refine ⟨L[nn-1]'(by omega),?_,?_⟩
           ·rw [Sk,show L.length-1=nn-1 by omega]; exact Qe _
           ·unfold nl1; rw [Qy,Qe (by omega)]; rfl
          have hxs:=Zr L kk
          rw [hx] at hxs
          by_cases hxk:x=(kk:Int)
          ·rw [hxk,if_pos rfl,Rz] at hxs
           subst hxk
           refine bs.av (sx:=put1) hk0 ?_
           repeat'(first|refine wk3 ?_|(refine wk2 ?_ ?_<;>intro _)|refine wk4 ?_|fail);all_goals(conv=>whnf)
           exact Ql ⟨(kk+1,_,((k4+1),len3,(lsX M++[[Sd 1 (nl1 Lx)]])),none),[(150,150)],by rfl,kps,kps,⟨Ze (by omega),hkm,by rw [hxs]; exact ⟨hls.k,hls.len,hls.els⟩⟩,by dsimp only; omega⟩
          ·rw [if_neg (by simpa using hxk)] at hxs
           refine bs.av (sx:=put1) hk0 ?_
           repeat'(first|refine wk3 ?_|(refine wk2 ?_ ?_<;>intro _)|refine wk4 ?_|fail);all_goals(conv=>whnf)
           have hren:(lsX M++[[Sd 1 (nl1 Lx)]])++[[Qz 154 0 ((nl L).length+1)]]=Zy (fOf [(150,156),(151,154)]) ((lsX M++[[Sd 1 (nl1 Lx)]])++[[Qz 151 0 ((nl L).length+1)]]):=by rw [hls.els,Zm,Zu]; rfl
           have hids:Xa 152 ((lsX M++[[Sd 1 (nl1 Lx)]])++[[Qz 151 0 ((nl L).length+1)]])=true:=by rw [hls.els,Zv,Xe]; rfl
           have hkx:k4+1+1=((((bfsL (nsN h) nn).take j).flatMap (extL (nsN h)))++extK L (kk+1)).length:=by
            have:=hls.k
            rw [hxs]; simp only [Qp,Sc] at this ⊢; omega
           have hlx:(lsX M++[[Sd 1 (nl1 Lx)]]).length+1=((lsX M++[[Sd 1 (nl1 Lx)]])++[[Qz 151 0 ((nl L).length+1)]]).length:=by simp
           have helx:(lsX M++[[Sd 1 (nl1 Lx)]])++[[Qz 151 0 ((nl L).length+1)]]=lsX ((((bfsL (nsN h) nn).take j).flatMap (extL (nsN h)))++extK L kk)++[[Qz 151 0 ((nl L).length+1)]]:=by rw [hls.els]
           exact Ql ⟨(kk+1,_,(k4+1+1,(lsX M++[[Sd 1 (nl1 Lx)]]).length+1,(lsX M++[[Sd 1 (nl1 Lx)]])++[[Qz 151 0 ((nl L).length+1)]]),some (((nl L).length+1),nl L++[[I (kk:Int)]])),[(150,156),(151,154)],by rfl,kps,⟨⟨rfl,rfl,rfl⟩,⟨rfl,rfl,⟨_,rfl,hren,hids⟩⟩,kps⟩,⟨Ze (by omega),hkm,⟨hkx,hlx,((((bfsL (nsN h) nn).take j).flatMap (extL (nsN h)))++extK L kk),L++[(kk:Int)],by rw [hxs,<-Qs],helx,by simp,by simp [nl,nl1]⟩⟩,by dsimp only; omega⟩
      | succ q =>
       have hql:q<d2.length:=by omega
       have b1:Qa Qb (((q+1:Nat):Int)-1)=(q:Int):=by rw [W_eq (by omega) (by omega)]; omega
       have b0:((q+1:Nat):Int)>0:=by omega
       have hlt1:(d2.take (q+1)).length=q+1:=by rw [Ws]; omega
       have e3:cur[0+((q+1:Nat):Int).toNat]?=some (gcP p):=by
        rw [hcur,Ra,Ru,Qy,List.getElem?_append_right (by omega),hlt1,Ho]; rfl
       have e4:cur[0+(Qa Qb (((q+1:Nat):Int)-1)).toNat]?=some (gcP d2[q]):=by
        rw [b1,hcur,Ra,Ru,Qy,List.getElem?_append_left (by omega),List.getElem?_take_of_lt (by omega),Qe hql]; rfl
       have c9:=Yae (a:=p) (b:=d2[q]) (by omega) (by have:=hsh d2[q] (Qt hql); omega)
       have hcl:cur.length=d2.length+1:=by rw [hcur,Re,Qp,Sb,List.length_drop,hlt1]; omega
       by_cases ho9:ordP p d2[q]<0
       ·rw [decide_eq_true ho9] at c9
        have hpm2:putM p d2 q=putM p d2 d2.length:=by
         rw [<-hpm,putM,Qe hql]; dsimp only; rw [if_pos ho9]
        have hset:Zc3 (Zc3 cur (0+((q+1:Nat):Int).toNat) (gcP d2[q])) (0+(Qa Qb (((q+1:Nat):Int)-1)).toNat) (gcP p)=(d2.take q++p::d2.drop q).map gcP:=by
         rw [Vd,Vd,b1,Ra,Ra,Ru,Ru,hcur]
         have h1:d2.take (q+1)=d2.take q++[d2[q]]:=Rh hql
         have h2:d2.drop q=d2[q]::d2.drop (q+1):=List.drop_eq_getElem_cons hql
         have h3:(d2.take q).length=q:=by rw [Ws]; omega
         rw [<-Ov,<-Ov,h1,h2,Qs]
         congr 1
         rw [Gf _ _ (by omega),h3,show q+1-q=1 by omega,Gf _ _ (by omega),h3,Ho]
         rfl
        have e5:(Zc3 cur (0+((q+1:Nat):Int).toNat) (gcP d2[q]))[0+(Qa Qb (((q+1:Nat):Int)-1)).toNat]?=some (gcP d2[q]):=by
         rw [Vd,List.getElem?_set,if_neg (by rw [b1]; omega)]; exact e4
        generalize d2[q]=x at *
        obtain ⟨xs,xp,xq⟩:=x
        obtain ⟨ps,pp,pq⟩:=p
        refine bs.av (sx:=nos) (Zhy Zc) ?_
        repeat'(first|refine wk3 ?_|(refine wk2 ?_ ?_<;>intro _)|refine wk4 ?_|fail);all_goals(conv=>whnf)
        exact Ql ⟨(q,_,_),[(130,130)],by cases kL<;>rfl,by cases kL<;>exact kps,by cases kL<;>exact kps,⟨b1,by omega,hset,hpm2⟩,by dsimp only; omega⟩
       ·rw [decide_eq_false ho9] at c9
        have hpm2:q+1=putM p d2 d2.length:=by
         rw [<-hpm,putM,Qe hql]; dsimp only; rw [if_neg ho9]
        have hput:cur=(putL d2 p).map gcP:=by rw [hcur]; unfold putL; rw [<-hpm2]
        have hO3:OutL ((((bfsL (nsN h) nn).take (j+1)).filterMap f).foldl putL ds) (q1+1+1) (elO2.length+1) cur:=by
         rw [hO3']
         have hlp:=(Zcj d2 p).length_eq
         rw [Sb] at hlp
         exact ⟨by rw [hlp]; rw [<-hO2.k],by rw [hput,Re,hlp]; rw [hle2],hput⟩
        refine bs.av (sx:=nos) (Zhy Zc) ?_
        repeat'(first|refine wk3 ?_|(refine wk2 ?_ ?_<;>intro _)|refine wk4 ?_|fail);all_goals(conv=>whnf)
        by_cases hno:nn<o
        rotate_left
        ·refine Wd 1 (Ry (bs.av (sx:=put1) hk0 ?_))
         repeat'(first|refine wk3 ?_|(refine wk2 ?_ ?_<;>intro _)|refine wk4 ?_|fail);all_goals(conv=>whnf)
         exact Ql ⟨(j+1,_,((q1+1+1),(elO2.length+1),cur),(kL,lenL,elL)),[(100,130),(101,101)],by cases kL<;>rfl,by cases kL<;>exact kps,by cases kL<;>exact kps,⟨Ze (by omega),hjl,hO3,by rw [if_neg hno] at hL ⊢; exact hL⟩,by dsimp only; omega⟩
        rw [if_pos hno] at hL
        refine Zim (S:=Nat × Int × (Nat × Nat × List (List AV)) × Option (Nat × List (List AV))) (fun t=>nsN h-t.1)
         (fun t=>[(3,.ptr 0 0 0),(4,.ptr 1 0 0),(5,.ptr 2 0 0),(7,gv 130 (q1+1+1) (elO2.length+1)),(8,.asl 51 0 lenB),(9,I (nn:Int)),(10,gv 150 t.2.2.1.1 t.2.2.1.2.1),(11,I (j:Int)),(14,I t.2.1)])
         (fun t=>zX t.2.2.2 (gzp 150 t.2.2.1.1 t.2.2.1.2.2 t.2.2.2 ((51,.row 1 elB true true)::(2,.row 7 [[I fx,I fy,I fz,I tx,I ty,I tz,I n]] true false)::(1,.row 2 [s.cells] true false)::(0,.row 9 [h.cells] true false)::gz 130 3 (q1+1+1) cur []))) 150 152
         (fun t=>t.2.1=t.1/\t.1<=nsN h/\LstX ((((bfsL (nsN h) nn).take j).flatMap (extL (nsN h)))++extK L t.1) t.2.2.1.1 t.2.2.1.2.1 t.2.2.1.2.2 t.2.2.2)
         (0,0,(kL,lenL,elL),none) ⟨rfl,Qn _,by rw [show extK L 0=[] from rfl,Rz]; exact ⟨hL.k,hL.len,hL.els⟩⟩ (Qo rfl) [(150,101)] (by cases kL<;>rfl) (by cases kL<;>exact kps) (by cases kL<;>exact kps) ?_
        rintro ⟨kk,ik,⟨k3,len3,el3⟩,lst⟩ ⟨hik,hk3,hX⟩
        dsimp only at hik hk3 hX ⊢
        subst hik
        have c3:=Zm7 (ns:=L) (by omega)
        have ll:((1,nl L):Nat × List (List AV)).2.length=L.length:=Zi L
        have ll2:=Zi L
        have hl3:((((bfsL (nsN h) nn).take j).flatMap (extL (nsN h)))++extK L kk).length<100000:=by
         have a1:=Yx (f:=extL (nsN h)) (B:=18) ((bfsL (nsN h) nn).take j) fun L' _=>Qu (Zkr (nsN h) L') hm18
         have a2:=Yx (f:=fun i=>if L.getLast?=some i then [] else [L++[i]]) (B:=1) (rngI 0 kk) fun i _=>by
          split<;>simp
         have a3:(rngI 0 kk).length=kk:=by simp [rngI]
         rw [Ws] at a1
         rw [a3] at a2
         rw [Qp]
         unfold extK
         omega
        cases lst with
        | none =>
         have hls:LstL _ k3 len3 el3:=⟨hX.1,hX.2.1,hX.2.2⟩
         have hl4:el3.length<100000:=by rw [hls.els,Re]; exact hl3
         have hlen:=hls.len
         cases k3 with
         | zero =>
          by_cases hkm:kk<nsN h
          rotate_left
          ·obtain rfl:kk=nsN h:=by omega
           have c2:=Ys h (nsN h)
           rw [show within (nsN h:Int) 0 (nsur h-1)=false by rw [Qr,ne_eq,within_iff,<-Xq]; omega] at c2
           refine bs.av (sx:=put1) hk0 ?_
           repeat'(first|refine wk3 ?_|(refine wk2 ?_ ?_<;>intro _)|refine wk4 ?_|fail);all_goals(conv=>whnf)
           exact Ql ⟨(j+1,_,((q1+1+1),(elO2.length+1),cur),(0,len3,el3)),[(100,130)],by rfl,kps,kps,⟨Ze (by omega),hjl,hO3,by rw [if_pos hno,ht,Sw]; simpa [extK,extL] using hls⟩,by dsimp only; omega⟩
          have c2:=Ys h kk
          rw [show within (kk:Int) 0 (nsur h-1)=true by rw [within_iff,<-Xq]; omega] at c2
          by_cases hn00:nn=0
          ·have hL0:L.getLast?=none:=by rw [Qv.1 (hLl.trans hn00)]; rfl
           have hxs:=Zr L kk
           rw [hL0,if_neg (by simp)] at hxs
           refine bs.av (sx:=put1) hk0 ?_
           repeat'(first|refine wk3 ?_|(refine wk2 ?_ ?_<;>intro _)|refine wk4 ?_|fail);all_goals(conv=>whnf)
           exact Ql ⟨(kk+1,_,(1,_,[[Qz 151 0 ((nl L).length+1)]]),some (((nl L).length+1),nl L++[[I (kk:Int)]])),[(150,156),(151,154)],by rfl,kps,kps,⟨Ze (by omega),hkm,⟨by rw [hxs,<-Qs,Qp,<-hls.k]; rfl,by rfl,_,_,by rw [hxs,<-Qs],by rw [Qv.1 hls.k.symm]; rfl,by simp,by simp [nl,nl1]⟩⟩,by dsimp only; omega⟩
          ·have hw0:0<=Qa Qb ((nn:Int)-1):=by rw [W_eq (by omega) (by omega)]; omega
           obtain ⟨x,hx,e5⟩:∃ x,L.getLast?=some x/\(nl1 L)[(Qa Qb ((nn:Int)-1)).toNat]?=some [I x]:=by
            rw [W_eq (by omega) (by omega),show ((nn:Int)-1).toNat=nn-1 by omega]
            refine ⟨L[nn-1]'(by omega),?_,?_⟩
            ·rw [Sk,show L.length-1=nn-1 by omega]; exact Qe _
            ·unfold nl1; rw [Qy,Qe (by omega)]; rfl
           have hxs:=Zr L kk
           rw [hx] at hxs
           by_cases hxk:x=(kk:Int)
           ·rw [hxk,if_pos rfl,Rz] at hxs
            subst hxk
            refine bs.av (sx:=put1) hk0 ?_
            repeat'(first|refine wk3 ?_|(refine wk2 ?_ ?_<;>intro _)|refine wk4 ?_|fail);all_goals(conv=>whnf)
            exact Ql ⟨(kk+1,_,(0,len3,el3),none),[],by rfl,kps,kps,⟨Ze (by omega),hkm,by rw [hxs]; exact ⟨hls.k,hls.len,hls.els⟩⟩,by dsimp only; omega⟩
           ·rw [if_neg (by simpa using hxk)] at hxs
            refine bs.av (sx:=put1) hk0 ?_
            repeat'(first|refine wk3 ?_|(refine wk2 ?_ ?_<;>intro _)|refine wk4 ?_|fail);all_goals(conv=>whnf)
            exact Ql ⟨(kk+1,_,(1,_,[[Qz 151 0 ((nl L).length+1)]]),some (((nl L).length+1),nl L++[[I (kk:Int)]])),[(150,156),(151,154)],by rfl,kps,kps,⟨Ze (by omega),hkm,⟨by rw [hxs,<-Qs,Qp,<-hls.k]; rfl,by rfl,_,_,by rw [hxs,<-Qs],by rw [Qv.1 hls.k.symm]; rfl,by simp,by simp [nl,nl1]⟩⟩,by dsimp only; omega⟩
         | succ k4 =>
          by_cases hkm:kk<nsN h
          rotate_left
          ·obtain rfl:kk=nsN h:=by omega
           have c2:=Ys h (nsN h)
           rw [show within (nsN h:Int) 0 (nsur h-1)=false by rw [Qr,ne_eq,within_iff,<-Xq]; omega] at c2
           refine bs.av (sx:=put1) hk0 ?_
           repeat'(first|refine wk3 ?_|(refine wk2 ?_ ?_<;>intro _)|refine wk4 ?_|fail);all_goals(conv=>whnf)
           exact Ql ⟨(j+1,_,((q1+1+1),(elO2.length+1),cur),((k4+1),len3,el3)),[(100,130),(101,150)],by rfl,kps,kps,⟨Ze (by omega),hjl,hO3,by rw [if_pos hno,ht,Sw]; simpa [extK,extL] using hls⟩,by dsimp only; omega⟩
          have c2:=Ys h kk
          rw [show within (kk:Int) 0 (nsur h-1)=true by rw [within_iff,<-Xq]; omega] at c2
          by_cases hn00:nn=0
          ·have hL0:L.getLast?=none:=by rw [Qv.1 (hLl.trans hn00)]; rfl
           have hxs:=Zr L kk
           rw [hL0,if_neg (by simp)] at hxs
           refine bs.av (sx:=put1) hk0 ?_
           repeat'(first|refine wk3 ?_|(refine wk2 ?_ ?_<;>intro _)|refine wk4 ?_|fail);all_goals(conv=>whnf)
           have hren:el3++[[Qz 154 0 ((nl L).length+1)]]=Zy (fOf [(150,156),(151,154)]) (el3++[[Qz 151 0 ((nl L).length+1)]]):=by rw [hls.els,Zm,Zu]; rfl
           have hids:Xa 152 (el3++[[Qz 151 0 ((nl L).length+1)]])=true:=by rw [hls.els,Zv,Xe]; rfl
           have hkx:k4+1+1=((((bfsL (nsN h) nn).take j).flatMap (extL (nsN h)))++extK L (kk+1)).length:=by
            have:=hls.k
            rw [hxs]; simp only [Qp,Sc] at this ⊢; omega
           have hlx:el3.length+1=(el3++[[Qz 151 0 ((nl L).length+1)]]).length:=by simp
           have helx:el3++[[Qz 151 0 ((nl L).length+1)]]=lsX ((((bfsL (nsN h) nn).take j).flatMap (extL (nsN h)))++extK L kk)++[[Qz 151 0 ((nl L).length+1)]]:=by rw [hls.els]
           exact Ql ⟨(kk+1,_,(k4+1+1,el3.length+1,el3++[[Qz 151 0 ((nl L).length+1)]]),some (((nl L).length+1),nl L++[[I (kk:Int)]])),[(150,156),(151,154)],by rfl,kps,⟨⟨rfl,rfl,rfl⟩,⟨rfl,rfl,⟨_,rfl,hren,hids⟩⟩,kps⟩,⟨Ze (by omega),hkm,⟨hkx,hlx,((((bfsL (nsN h) nn).take j).flatMap (extL (nsN h)))++extK L kk),L++[(kk:Int)],by rw [hxs,<-Qs],helx,by simp,by simp [nl,nl1]⟩⟩,by dsimp only; omega⟩
          ·have hw0:0<=Qa Qb ((nn:Int)-1):=by rw [W_eq (by omega) (by omega)]; omega
           obtain ⟨x,hx,e5⟩:∃ x,L.getLast?=some x/\(nl1 L)[(Qa Qb ((nn:Int)-1)).toNat]?=some [I x]:=by
            rw [W_eq (by omega) (by omega),show ((nn:Int)-1).toNat=nn-1 by omega]
            refine ⟨L[nn-1]'(by omega),?_,?_⟩
            ·rw [Sk,show L.length-1=nn-1 by omega]; exact Qe _
            ·unfold nl1; rw [Qy,Qe (by omega)]; rfl
           have hxs:=Zr L kk
           rw [hx] at hxs
           by_cases hxk:x=(kk:Int)
           ·rw [hxk,if_pos rfl,Rz] at hxs
            subst hxk
            refine bs.av (sx:=put1) hk0 ?_
            repeat'(first|refine wk3 ?_|(refine wk2 ?_ ?_<;>intro _)|refine wk4 ?_|fail);all_goals(conv=>whnf)
            exact Ql ⟨(kk+1,_,((k4+1),len3,el3),none),[(150,150)],by rfl,kps,kps,⟨Ze (by omega),hkm,by rw [hxs]; exact ⟨hls.k,hls.len,hls.els⟩⟩,by dsimp only; omega⟩
           ·rw [if_neg (by simpa using hxk)] at hxs
            refine bs.av (sx:=put1) hk0 ?_
            repeat'(first|refine wk3 ?_|(refine wk2 ?_ ?_<;>intro _)|refine wk4 ?_|fail);all_goals(conv=>whnf)
            have hren:el3++[[Qz 154 0 ((nl L).length+1)]]=Zy (fOf [(150,156),(151,154)]) (el3++[[Qz 151 0 ((nl L).length+1)]]):=by rw [hls.els,Zm,Zu]; rfl
            have hids:Xa 152 (el3++[[Qz 151 0 ((nl L).length+1)]])=true:=by rw [hls.els,Zv,Xe]; rfl
            have hkx:k4+1+1=((((bfsL (nsN h) nn).take j).flatMap (extL (nsN h)))++extK L (kk+1)).length:=by
             have:=hls.k
             rw [hxs]; simp only [Qp,Sc] at this ⊢; omega
            have hlx:el3.length+1=(el3++[[Qz 151 0 ((nl L).length+1)]]).length:=by simp
            have helx:el3++[[Qz 151 0 ((nl L).length+1)]]=lsX ((((bfsL (nsN h) nn).take j).flatMap (extL (nsN h)))++extK L kk)++[[Qz 151 0 ((nl L).length+1)]]:=by rw [hls.els]
            exact Ql ⟨(kk+1,_,(k4+1+1,el3.length+1,el3++[[Qz 151 0 ((nl L).length+1)]]),some (((nl L).length+1),nl L++[[I (kk:Int)]])),[(150,156),(151,154)],by rfl,kps,⟨⟨rfl,rfl,rfl⟩,⟨rfl,rfl,⟨_,rfl,hren,hids⟩⟩,kps⟩,⟨Ze (by omega),hkm,⟨hkx,hlx,((((bfsL (nsN h) nn).take j).flatMap (extL (nsN h)))++extK L kk),L++[(kk:Int)],by rw [hxs,<-Qs],helx,by simp,by simp [nl,nl1]⟩⟩,by dsimp only; omega⟩
        | some q =>
         obtain ⟨lx,ex⟩:=q
         obtain ⟨x1,x2,M,Lx,x3,x4,x5,x6⟩:=hX
         dsimp only at x4 x5 x6
         cases k3 with
         | zero=>rw [x3] at x1; simp at x1
         | succ k4 =>
          have ev:La lx (Lb 0 ex)=nl1 Lx:=by rw [Th,x5,Wj,x6]
          have hls:LstL (((bfsL (nsN h) nn).take j).flatMap (extL (nsN h))++extK L kk) (k4+1) len3 (lsX M++[[.isl 1 (nl1 Lx)]]):=⟨x1,by rw [x2,x4,Qp,Qp]; rfl,by rw [x3]; simp⟩
          have hl4:(lsX M++[[Sd 1 (nl1 Lx)]]).length<100000:=by rw [hls.els,Re]; exact hl3
          have hlen:=hls.len
          refine Gt 150 (elems:=el3) (elems':=lsX M++[[.isl 1 (nl1 Lx)]]) (l:=[151]) rfl (by
           rw [x4]
           refine Zap (l:=[]) (Zgp fun e he=>?_) ?_
           ·obtain ⟨L',_,rfl⟩:=Wf.1 he
            rfl
           ·rw [<-ev]; rfl) rfl rfl ?_
          by_cases hkm:kk<nsN h
          rotate_left
          ·obtain rfl:kk=nsN h:=by omega
           have c2:=Ys h (nsN h)
           rw [show within (nsN h:Int) 0 (nsur h-1)=false by rw [Qr,ne_eq,within_iff,<-Xq]; omega] at c2
           refine bs.av (sx:=put1) hk0 ?_
           repeat'(first|refine wk3 ?_|(refine wk2 ?_ ?_<;>intro _)|refine wk4 ?_|fail);all_goals(conv=>whnf)
           exact Ql ⟨(j+1,_,((q1+1+1),(elO2.length+1),cur),((k4+1),len3,(lsX M++[[Sd 1 (nl1 Lx)]]))),[(100,130),(101,150)],by rfl,kps,kps,⟨Ze (by omega),hjl,hO3,by rw [if_pos hno,ht,Sw]; simpa [extK,extL] using hls⟩,by dsimp only; omega⟩
          have c2:=Ys h kk
          rw [show within (kk:Int) 0 (nsur h-1)=true by rw [within_iff,<-Xq]; omega] at c2
          by_cases hn00:nn=0
          ·have hL0:L.getLast?=none:=by rw [Qv.1 (hLl.trans hn00)]; rfl
           have hxs:=Zr L kk
           rw [hL0,if_neg (by simp)] at hxs
           refine bs.av (sx:=put1) hk0 ?_
           repeat'(first|refine wk3 ?_|(refine wk2 ?_ ?_<;>intro _)|refine wk4 ?_|fail);all_goals(conv=>whnf)
           have hren:(lsX M++[[Sd 1 (nl1 Lx)]])++[[Qz 154 0 ((nl L).length+1)]]=Zy (fOf [(150,156),(151,154)]) ((lsX M++[[Sd 1 (nl1 Lx)]])++[[Qz 151 0 ((nl L).length+1)]]):=by rw [hls.els,Zm,Zu]; rfl
           have hids:Xa 152 ((lsX M++[[Sd 1 (nl1 Lx)]])++[[Qz 151 0 ((nl L).length+1)]])=true:=by rw [hls.els,Zv,Xe]; rfl
           have hkx:k4+1+1=((((bfsL (nsN h) nn).take j).flatMap (extL (nsN h)))++extK L (kk+1)).length:=by
            have:=hls.k
            rw [hxs]; simp only [Qp,Sc] at this ⊢; omega
           have hlx:(lsX M++[[Sd 1 (nl1 Lx)]]).length+1=((lsX M++[[Sd 1 (nl1 Lx)]])++[[Qz 151 0 ((nl L).length+1)]]).length:=by simp
           have helx:(lsX M++[[Sd 1 (nl1 Lx)]])++[[Qz 151 0 ((nl L).length+1)]]=lsX ((((bfsL (nsN h) nn).take j).flatMap (extL (nsN h)))++extK L kk)++[[Qz 151 0 ((nl L).length+1)]]:=by rw [hls.els]
           exact Ql ⟨(kk+1,_,(k4+1+1,(lsX M++[[Sd 1 (nl1 Lx)]]).length+1,(lsX M++[[Sd 1 (nl1 Lx)]])++[[Qz 151 0 ((nl L).length+1)]]),some (((nl L).length+1),nl L++[[I (kk:Int)]])),[(150,156),(151,154)],by rfl,kps,⟨⟨rfl,rfl,rfl⟩,⟨rfl,rfl,⟨_,rfl,hren,hids⟩⟩,kps⟩,⟨Ze (by omega),hkm,⟨hkx,hlx,((((bfsL (nsN h) nn).take j).flatMap (extL (nsN h)))++extK L kk),L++[(kk:Int)],by rw [hxs,<-Qs],helx,by simp,by simp [nl,nl1]⟩⟩,by dsimp only; omega⟩
          ·have hw0:0<=Qa Qb ((nn:Int)-1):=by rw [W_eq (by omega) (by omega)]; omega
           obtain ⟨x,hx,e5⟩:∃ x,L.getLast?=some x/\(nl1 L)[(Qa Qb ((nn:Int)-1)).toNat]?=some [I x]:=by
            rw [W_eq (by omega) (by omega),show ((nn:Int)-1).toNat=nn-1 by omega]
            refine ⟨L[nn-1]'(by omega),?_,?_⟩
            ·rw [Sk,show L.length-1=nn-1 by omega]; exact Qe _
            ·unfold nl1; rw [Qy,Qe (by omega)]; rfl
           have hxs:=Zr L kk
           rw [hx] at hxs
           by_cases hxk:x=(kk:Int)
           ·rw [hxk,if_pos rfl,Rz] at hxs
            subst hxk
            refine bs.av (sx:=put1) hk0 ?_
            repeat'(first|refine wk3 ?_|(refine wk2 ?_ ?_<;>intro _)|refine wk4 ?_|fail);all_goals(conv=>whnf)
            exact Ql ⟨(kk+1,_,((k4+1),len3,(lsX M++[[Sd 1 (nl1 Lx)]])),none),[(150,150)],by rfl,kps,kps,⟨Ze (by omega),hkm,by rw [hxs]; exact ⟨hls.k,hls.len,hls.els⟩⟩,by dsimp only; omega⟩
           ·rw [if_neg (by simpa using hxk)] at hxs
            refine bs.av (sx:=put1) hk0 ?_
            repeat'(first|refine wk3 ?_|(refine wk2 ?_ ?_<;>intro _)|refine wk4 ?_|fail);all_goals(conv=>whnf)
            have hren:(lsX M++[[Sd 1 (nl1 Lx)]])++[[Qz 154 0 ((nl L).length+1)]]=Zy (fOf [(150,156),(151,154)]) ((lsX M++[[Sd 1 (nl1 Lx)]])++[[Qz 151 0 ((nl L).length+1)]]):=by rw [hls.els,Zm,Zu]; rfl
            have hids:Xa 152 ((lsX M++[[Sd 1 (nl1 Lx)]])++[[Qz 151 0 ((nl L).length+1)]])=true:=by rw [hls.els,Zv,Xe]; rfl
            have hkx:k4+1+1=((((bfsL (nsN h) nn).take j).flatMap (extL (nsN h)))++extK L (kk+1)).length:=by
             have:=hls.k
             rw [hxs]; simp only [Qp,Sc] at this ⊢; omega
            have hlx:(lsX M++[[Sd 1 (nl1 Lx)]]).length+1=((lsX M++[[Sd 1 (nl1 Lx)]])++[[Qz 151 0 ((nl L).length+1)]]).length:=by simp
            have helx:(lsX M++[[Sd 1 (nl1 Lx)]])++[[Qz 151 0 ((nl L).length+1)]]=lsX ((((bfsL (nsN h) nn).take j).flatMap (extL (nsN h)))++extK L kk)++[[Qz 151 0 ((nl L).length+1)]]:=by rw [hls.els]
            exact Ql ⟨(kk+1,_,(k4+1+1,(lsX M++[[Sd 1 (nl1 Lx)]]).length+1,(lsX M++[[Sd 1 (nl1 Lx)]])++[[Qz 151 0 ((nl L).length+1)]]),some (((nl L).length+1),nl L++[[I (kk:Int)]])),[(150,156),(151,154)],by rfl,kps,⟨⟨rfl,rfl,rfl⟩,⟨rfl,rfl,⟨_,rfl,hren,hids⟩⟩,kps⟩,⟨Ze (by omega),hkm,⟨hkx,hlx,((((bfsL (nsN h) nn).take j).flatMap (extL (nsN h)))++extK L kk),L++[(kk:Int)],by rw [hxs,<-Qs],helx,by simp,by simp [nl,nl1]⟩⟩,by dsimp only; omega⟩
   ·have hje:j=(bfsL (nsN h) nn).length:=by omega
    subst hje
    rw [Wj] at hO2 hL
    cases kL with
    | zero =>
     refine bs.av (sx:=put1) hk0 ?_
     repeat'(first|refine wk3 ?_|(refine wk2 ?_ ?_<;>intro _)|refine wk4 ?_|fail);all_goals(conv=>whnf)
     exact Ql ⟨(nn+1,_,(kO2,lenO2,elO2),(0,lenL,elL)),[(50,100),(51,101)],by cases kO2<;>rfl,by cases kO2<;>exact kps,by cases kO2<;>exact kps,⟨Ze (by omega),by omega,by rw [Ztu,hds]; exact hO2,fun h2=>hLd h2 hL⟩,by dsimp only; omega⟩
    | succ l0 =>
     refine bs.av (sx:=put1) hk0 ?_
     repeat'(first|refine wk3 ?_|(refine wk2 ?_ ?_<;>intro _)|refine wk4 ?_|fail);all_goals(conv=>whnf)
     exact Ql ⟨(nn+1,_,(kO2,lenO2,elO2),(l0+1,lenL,elL)),[(50,100),(51,101)],by cases kO2<;>rfl,by cases kO2<;>exact kps,by cases kO2<;>exact kps,⟨Ze (by omega),by omega,by rw [Ztu,hds]; exact hO2,fun h2=>hLd h2 hL⟩,by dsimp only; omega⟩
 ·obtain rfl:nn=o+1:=by omega
  generalize (((Sm (o+1)).flatMap (bfsL (nsN h))).filterMap f).foldl putL []=ds at *
  obtain ⟨o1,o2,o3⟩:=hO
  cases kO with
  | zero =>
   obtain rfl:ds=[]:=Qv.1 o1.symm
   rw [if_pos rfl]
   cases kB with
   | zero =>
    refine bs.av (sx:=put1) hk0 ?_
    repeat'(first|refine wk3 ?_|(refine wk2 ?_ ?_<;>intro _)|refine wk4 ?_|fail);all_goals(conv=>whnf)
    exact Zg rfl rfl
   | succ b =>
    refine bs.av (sx:=put1) hk0 ?_
    repeat'(first|refine wk3 ?_|(refine wk2 ?_ ?_<;>intro _)|refine wk4 ?_|fail);all_goals(conv=>whnf)
    exact Zg rfl rfl
  | succ q0 =>
   rw [if_neg (by intro h0; rw [h0] at o1; cases o1)]
   rw [o3,Re] at o2
   subst o2 o3
   cases kB with
   | zero =>
    refine bs.av (sx:=put1) hk0 ?_
    repeat'(first|refine wk3 ?_|(refine wk2 ?_ ?_<;>intro _)|refine wk4 ?_|fail);all_goals(conv=>whnf)
    exact Yr [50] rfl rfl rfl
   | succ b =>
    refine bs.av (sx:=put1) hk0 ?_
    repeat'(first|refine wk3 ?_|(refine wk2 ?_ ?_<;>intro _)|refine wk4 ?_|fail);all_goals(conv=>whnf)
    exact Yr [50] rfl rfl rfl
theorem d54 (a:Ask):PCall Tryz.prog 54 [a.av] ⟨Bo (decide (a.n<3)||decide (4<a.n)),[]⟩:=by
 obtain ⟨fx,fy,fz,tx,ty,tz,n⟩:=a
 dsimp only
 by_cases h1:n<3
 ·rw [decide_eq_true h1,Bool.true_or]
  refine bs.pv (sx:=nos) Zc Tryz.func54 (by kernel_rfl) (by kernel_rfl) rfl ?_
  repeat'(first|refine wk3 ?_|(refine wk2 ?_ ?_<;>intro _)|refine wk4 ?_|fail);all_goals(conv=>whnf)
  all_goals first
   | exact Za rfl
   | (refine Za ?_; simp_all; done)
   | (exfalso; simp_all; omega)
 ·rw [decide_eq_false h1,Bool.false_or]
  refine bs.pv (sx:=nos) Zc Tryz.func54 (by kernel_rfl) (by kernel_rfl) rfl ?_
  repeat'(first|refine wk3 ?_|(refine wk2 ?_ ?_<;>intro _)|refine wk4 ?_|fail);all_goals(conv=>whnf)
  all_goals first
   | exact Za rfl
   | (refine Za ?_; simp_all; done)
   | (exfalso; simp_all; omega)
theorem d55e {h:Hal} (hk:h.ok) {s:Stg} (hs:s.few) (a:Ask) (e:askE h s a≠0):PCall Tryz.prog 55 [h.av,s.av,a.av] ⟨.tup [.isl 3 [],I (askE h s a)],[]⟩:=by
 have h24:=d24 hk hs a
 refine Lm (res:=⟨.tup [.nils,I (askE h s a)],[]⟩) ?_ ⟨rfl,⟨rfl,rfl⟩,trivial⟩
 obtain ⟨fx,fy,fz,tx,ty,tz,n⟩:=a
 generalize askE h s ⟨fx,fy,fz,tx,ty,tz,n⟩=E at *
 have hk0:=Zf h24 Zc
 refine bs.pv (sx:=nos) hk0 Tryz.func55 (by kernel_rfl) (by kernel_rfl) rfl ?_
 clear hk0 h24
 repeat'(first|refine wk3 ?_|(refine wk2 ?_ ?_<;>intro _)|refine wk4 ?_|fail);all_goals(conv=>whnf)
 all_goals first
  | exact Zg rfl rfl
  | (exfalso; simp_all; done)
theorem d9 (aw:PCall Tryz.prog 12 [] ⟨Bo true,[]⟩) (h:Hal) (s:Stg) (a:Ask):PCall Tryz.prog 9 [.agg (stgL h s),a.av] ⟨Bo true,[]⟩:=by
 have h54:=d54 a
 by_cases hb:few3 h s=true
 rotate_left
 ·have hb:few3 h s=false:=by simpa using hb
  have hk0:=Zf (d17 h s) (Zf aw Zc)
  rw [hb] at hk0
  obtain ⟨fx,fy,fz,tx,ty,tz,n⟩:=a
  refine bs.pv (sx:=nos) hk0 Tryz.func9 (by kernel_rfl) (by kernel_rfl) rfl ?_
  repeat'(first|refine wk3 ?_|(refine wk2 ?_ ?_<;>intro _)|refine wk4 ?_|fail);all_goals(conv=>whnf)
  all_goals exact Za rfl
 obtain ⟨hk,hs⟩:=Yfb hb
 by_cases hn:(decide (a.n<3)||decide (4<a.n))=true
 rotate_left
 ·have hn:(decide (a.n<3)||decide (4<a.n))=false:=by simpa using hn
  rw [hn] at h54
  have hk0:=Zf (d17 h s) (Zf aw (Zf h54 Zc))
  rw [hb] at hk0
  obtain ⟨fx,fy,fz,tx,ty,tz,n⟩:=a
  refine bs.pv (sx:=nos) hk0 Tryz.func9 (by kernel_rfl) (by kernel_rfl) rfl ?_
  repeat'(first|refine wk3 ?_|(refine wk2 ?_ ?_<;>intro _)|refine wk4 ?_|fail);all_goals(conv=>whnf)
  all_goals exact Za rfl
 rw [hn] at h54
 have h18:=d18 hk hs a
 by_cases e:askE h s a=0
 rotate_left
 ·have h55:=d55e hk hs a e
  obtain ⟨fx,fy,fz,tx,ty,tz,n⟩:=a
  generalize askE h s ⟨fx,fy,fz,tx,ty,tz,n⟩=E at *
  have hk0:=Zf (d17 h s) (Zf aw (Zf h54 (Zf h18 (Zf h55 (Zf (c22f hk.f) (Zf (c29 hs) Zc))))))
  rw [hb] at hk0
  refine bs.pv (sx:=nos) hk0 Tryz.func9 (by kernel_rfl) (by kernel_rfl) rfl ?_
  clear hk0 h18 h54 h55 aw
  repeat'(first|refine wk3 ?_|(refine wk2 ?_ ?_<;>intro _)|refine wk4 ?_|fail);all_goals(conv=>whnf)
  all_goals first
   | exact Za rfl
   | (refine Za ?_; simp; done)
   | (exfalso; simp_all; done)
 have A:=Xj e
 have hn3:a.n<3:=by
  have:=A.n
  simp only [Bool.or_eq_true,decide_eq_true_eq] at hn
  omega
 have hN:=Yco hk A.e0
 have hn0:=A.n
 rw [e] at h18
 have h55:=d55 hk hs Tryz.sorts114 a e hn3 (by omega)
 have h57:=d57 hk hs a e hn3
 have hrl:=Yd2 (Xz h s (qF a) (qT a)) hN (show a.n.toNat<=2 by omega)
 have hsh:Zzg (refL (Xz h s (qF a) (qT a)) (nsN h) a.n.toNat):=fun p hp=>by
  have:=Zwj hk hs e hn3 hp
  exact ⟨by omega,by omega⟩
 generalize refL (Xz h s (qF a) (qT a)) (nsN h) a.n.toNat=L at *
 have h56:=d56 (l:=L) (m:=L) (by omega) (by omega) hsh hsh
 rw [sameL_iff.2 rfl] at h56
 change PCall Tryz.prog 56 [.isl 3 (L.map gcP),.isl 3 (L.map gcP)] ⟨Bo true,[]⟩ at h56
 have hk0:=Zf (d17 h s) (Zf aw (Zf h54 (Zf h18 (Zf h55 (Zf h57 (Zf h56 (Zf (c22f hk.f) (Zf (c29 hs) Zc))))))))
 rw [hb] at hk0
 obtain ⟨fx,fy,fz,tx,ty,tz,n⟩:=a
 refine bs.pv (sx:=nos) hk0 Tryz.func9 (by kernel_rfl) (by kernel_rfl) rfl ?_
 clear h18 h54 h55 h56 h57 aw e A
 repeat'(first|refine wk3 ?_|(refine wk2 ?_ ?_<;>intro _)|refine wk4 ?_|fail);all_goals(conv=>whnf)
 all_goals exact Za rfl
theorem Yh5 {m:Nat} {x:List AV} (hw:WT TT (m+10+1) 28 x):∃ h:Hal,x=h.cells:=by
 have h0:=(Vt (T:=TT) (t:=28) rfl rfl hw).1
 have h0:x.length=9:=h0
 match x,h0 with
 | [x0,x1,x2,x3,x4,x5,x6,x7,x8],_ =>
  obtain ⟨s,hs,hs2⟩:=wStr (Zp (T:=TT) (t:=28) rfl rfl hw 0 rfl rfl)
  obtain ⟨n,hn⟩:=wInt (Zp (T:=TT) (t:=28) rfl rfl hw 1 rfl rfl)
  obtain ⟨t,ht,ht2⟩:=wStr (Zp (T:=TT) (t:=28) rfl rfl hw 2 rfl rfl)
  obtain ⟨u,hu,hu2⟩:=wStr (Zp (T:=TT) (t:=28) rfl rfl hw 3 rfl rfl)
  obtain ⟨e4,h4,_,g4⟩:=Zex (T:=TT) (t:=22) rfl rfl rfl (Zp (T:=TT) (t:=28) rfl rfl hw 4 rfl rfl)
  obtain ⟨e5,h5,_,g5⟩:=Zex (T:=TT) (t:=23) rfl rfl rfl (Zp (T:=TT) (t:=28) rfl rfl hw 5 rfl rfl)
  obtain ⟨e6,h6,_,g6⟩:=Zex (T:=TT) (t:=24) rfl rfl rfl (Zp (T:=TT) (t:=28) rfl rfl hw 6 rfl rfl)
  obtain ⟨e7,h7,_,g7⟩:=Zex (T:=TT) (t:=25) rfl rfl rfl (Zp (T:=TT) (t:=28) rfl rfl hw 7 rfl rfl)
  obtain ⟨e8,h8,_,g8⟩:=Zex (T:=TT) (t:=26) rfl rfl rfl (Zp (T:=TT) (t:=28) rfl rfl hw 8 rfl rfl)
  obtain ⟨l4,k4,_⟩:=Zt4 (f:=Mat.av) (fun x hx=>wMat hx) e4 g4
  obtain ⟨l5,k5,_⟩:=Zt4 (f:=pt) (P:=fun _=>True) (fun x hx=>(wP2 hx).imp fun p hp=>⟨hp,trivial⟩) e5 g5
  obtain ⟨l6,k6,_⟩:=Zt4 (f:=Wal.av) (fun x hx=>wWal hx) e6 g6
  obtain ⟨l7,k7,_⟩:=Zt4 (f:=Can.av) (fun x hx=>wCan hx) e7 g7
  obtain ⟨l8,k8,_⟩:=Zt4 (f:=Sea.av) (fun x hx=>wSea hx) e8 g8
  have hs:[x0]=[.str s]:=hs
  have hn:[x1]=[I n]:=hn
  have ht:[x2]=[.str t]:=ht
  have hu:[x3]=[.str u]:=hu
  have h4:[x4]=[.isl 6 e4]:=h4
  have h5:[x5]=[.isl 2 e5]:=h5
  have h6:[x6]=[.isl 3 e6]:=h6
  have h7:[x7]=[.isl 7 e7]:=h7
  have h8:[x8]=[.isl 4 e8]:=h8
  cases hs; cases hn; cases ht; cases hu; cases h4; cases h5; cases h6; cases h7; cases h8
  exact ⟨⟨s,n,t,u,l4,l5,l6,l7,l8⟩,by rw [k4,k5,k6,k7,k8]⟩
theorem wStg {m:Nat} {x:List AV} (hw:WT TT (m+10+1) 31 x):∃ s:Stg,x=s.cells:=by
 have h0:=(Vt (T:=TT) (t:=31) rfl rfl hw).1
 have h0:x.length=2:=h0
 match x,h0 with
 | [x0,x1],_ =>
  obtain ⟨a,ha⟩:=Yds (Zp (T:=TT) (t:=31) rfl rfl hw 0 rfl rfl)
  obtain ⟨b,hb⟩:=Yds (Zp (T:=TT) (t:=31) rfl rfl hw 1 rfl rfl)
  have ha:[x0]=[.isl 1 (nl a)]:=ha
  have hb:[x1]=[.isl 1 (nl b)]:=hb
  cases ha; cases hb
  exact ⟨⟨a,b⟩,rfl⟩
theorem Zz4 {a:AV} (h:WTA TT 33 a):∃ (h:Hal) (s:Stg),a = .agg (stgL h s):=by
 obtain ⟨x,m,rfl,hw⟩:=Zvj (T:=TT) (t:=33) h rfl rfl 11
 have h0:=(Vt (T:=TT) (t:=33) rfl rfl hw).1
 have h0:x.length=11:=h0
 match x,h0 with
 | [x0,x1,x2,x3,x4,x5,x6,x7,x8,x9,x10],_ =>
  obtain ⟨hl,hh⟩:=Yh5 (Zp (T:=TT) (t:=33) rfl rfl hw 0 rfl rfl)
  obtain ⟨st,hs⟩:=wStg (Zp (T:=TT) (t:=33) rfl rfl hw 1 rfl rfl)
  have hh:[x0,x1,x2,x3,x4,x5,x6,x7,x8]=hl.cells:=hh
  have hs:[x9,x10]=st.cells:=hs
  cases hh; cases hs
  exact ⟨hl,st,rfl⟩
theorem Yhz {a:AV} (h:WTA TT 37 a):∃ b:Ask,a=b.av:=by
 obtain ⟨x,m,rfl,hw⟩:=Zvj (T:=TT) (t:=37) h rfl rfl 11
 have h0:=(Vt (T:=TT) (t:=37) rfl rfl hw).1
 have h0:x.length=7:=h0
 match x,h0 with
 | [x0,x1,x2,x3,x4,x5,x6],_ =>
  obtain ⟨n1,e1,l1,_⟩:=Zms (T:=TT) (t:=35) rfl rfl rfl (Zp (T:=TT) (t:=37) rfl rfl hw 0 rfl rfl)
  obtain ⟨n2,e2,l2,_⟩:=Zms (T:=TT) (t:=35) rfl rfl rfl (Zp (T:=TT) (t:=37) rfl rfl hw 1 rfl rfl)
  obtain ⟨n,hn⟩:=wInt (Zp (T:=TT) (t:=37) rfl rfl hw 2 rfl rfl)
  have l1:n1.length=3:=l1
  have l2:n2.length=3:=l2
  have hn:[x6]=[I n]:=hn
  match n1,l1,n2,l2 with
  | [a,b,c],_,[d,e,f],_ =>
   have e1:[x0,x1,x2]=[I a,I b,I c]:=e1
   have e2:[x3,x4,x5]=[I d,I e,I f]:=e2
   cases e1; cases e2; cases hn
   exact ⟨⟨a,b,c,d,e,f,n⟩,rfl⟩
def tysA:List TypeId:=[33,37,35,28,31,22,23,24,25,26,29,194,196,198,134,216,70,9,3]
theorem Yfx:tysA.all (Zjl (tget tbl) tysA)=true:=by kernel_rfl
end Go.Proofs.YtdaliaafmcjikaaGreat
