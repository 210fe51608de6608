/- A part of the proof: lemmas. -/
import Derived.Test.YtfkdpbklbegnlaaGreatT14
import Derived.Test.YtfkdpbklbegnlaaGreatT8
import Derived.Test.YtfkdpbklbegnlaaGreatT13
import Derived.Test.YtfkdpbklbegnlaaGreatT12
import Derived.Test.YtfkdpbklbegnlaaGreatT9
import Derived.Test.YtfkdpbklbegnlaaGreatT6
import Derived.Test.YtfkdpbklbegnlaaGreatT7
import Derived.Test.YtfkdpbklbegnlaaGreatT11
import Derived.KernelRfl
import Derived.Shelf.SlSortCmp.NoneTotal
set_option linter.unusedVariables false
set_option linter.unusedSimpArgs false
set_option maxRecDepth 100000
set_option maxHeartbeats 16000000
open Bool renaming and_eq_true->Qc
open Go.IntKind renaming i64->Qb,wrap->Qa
open Go.Sx.AV.int renaming injEq->Sn
open Go.Sx.AV.isl renaming injEq->Wa
open Go.Sx.CtT renaming mk->Qct
open Go.Sx.Done renaming mk->Qo
open Go.Sx.LpM renaming start->Tf,succ->Ra
open Go.Sx.PCall renaming freeze->Lq
open Int renaming ediv_emod_unique->Ma,ediv_mul_le->Kv,ediv_nonneg->Tg,le_refl->Gz,le_trans->Nj,lt_or_le->Ow,lt_tmod_of_pos->Fy,mul_assoc->Tn,mul_comm->Ob,mul_le_mul->Ok,mul_le_mul_of_nonneg_right->Qj,mul_lt_mul_of_pos_right->Pf,mul_nonneg->Qu,mul_pos->Pi,neg_mul->Tw,neg_mul_neg->Qau,pow_nonneg->Mc,pow_pos->Qak,pow_succ->Ni,sub_mul->Lc,zero_mul->Ta
open List renaming append_assoc->Rw,append_nil->Wj,cons_append->Sw,countP_eq_zero->Ky,drop_eq_getElem_cons->Qi,drop_of_length_le->Qk,flatMap_assoc->Fx,flatMap_cons->Sm,getElem?_eq_getElem->Qf,getElem_mem->Qq,length_append->Sz,length_cons->Rr,length_eq_zero_iff->Wb,length_filterMap_le->Hh,length_map->Rn,map_append->Pj,mem_cons->Rf,mem_cons_of_mem->Wd,mem_cons_self->Pr,mem_filterMap->Mz,mem_flatMap->Mg,mem_map->Wm,mem_range'_1->Do,mem_reverse->Qae,mem_singleton->We,nil_append->Tl,nodup_cons->Ge,pairwise_map->Dp,range->Ts,take_succ_eq_append_getElem->Qv
open List.Perm renaming refl->Mb
open List.cons renaming injEq->Qs
open Nat renaming beq->Qn,le_refl->Qd,mul_le_mul->Lm,zero_add->Ry,zero_le->Qm
open Option.some renaming inj->Sf
namespace Go.Proofs.YtfkdpbklbegnlaaGreat
open Go Go.Sx
def extL (m:Nat) (L:List Int):List (List Int):=(rngI 0 m).flatMap fun i=>if L.getLast?=some i then [] else [L++[i]]
def bfsL (m:Nat):Nat->List (List Int)
 | 0=>[[]]
 | n+1=>(bfsL m n).flatMap (extL m)
def lev (m:Nat):Nat->List Int->List (List Int)
 | 0,L=>[L]
 | n+1,L=>(extL m L).flatMap (lev m n)
theorem Zse (m:Nat):∀ (n:Nat) (L:List Int),lev m (n+1) L=(lev m n L).flatMap (extL m)
 | 0,L=>by simp [lev]
 | n+1,L=>by
  rw [lev,lev,Fx]
  congr 1
  funext L'
  exact Zse m n L'
theorem Zy7 (m:Nat):∀ n,bfsL m n=lev m n []
 | 0=>rfl
 | n+1=>by rw [Zse,bfsL,Zy7 m n]
theorem Zjw {α β:Type} (f g:α->List β):∀ l:List α,(l.flatMap fun x=>f x++g x).Perm (l.flatMap f++l.flatMap g)
 | []=>.nil
 | a::l=>by
  simp only [Sm]
  refine ((Mb _).append (Zjw f g l)).trans ?_
  rw [Rw,Rw]
  refine (Mb _).append ?_
  rw [<-Rw,<-Rw]
  exact List.perm_append_comm.append (Mb _)
theorem flatMap_nil {α β:Type}:∀ l:List α,(l.flatMap fun _=>([]:List β))=[]
 | []=>rfl
 | a::l=>by rw [Sm,flatMap_nil l]; rfl
theorem Zh4 {α β γ:Type} (f:α->β->List γ) (b:List β):∀ a:List α,(a.flatMap fun x=>b.flatMap fun y=>f x y).Perm (b.flatMap fun y=>a.flatMap fun x=>f x y)
 | []=>by simp [flatMap_nil]
 | x::a=>by
  simp only [Sm]
  exact ((Mb _).append (Zh4 f b a)).trans (Zjw _ _ b).symm
theorem Zh5 {α β:Type} {f g:α->List β}:∀ {l:List α},(∀ x∈l,(f x).Perm (g x))->(l.flatMap f).Perm (l.flatMap g)
 | [],_=>.nil
 | a::l,h=>by
  simp only [Sm]
  exact (h a (by simp)).append (Zh5 fun x hx=>h x (by simp [hx]))
theorem Ydo (m o:Nat) (L:List Int):wlk m (o+1) L=L::(extL m L).flatMap (wlk m o):=by
 rw [wlk,extL,Fx]
 congr 2
 funext i
 split<;>simp
theorem Zu1 (m:Nat):∀ (o:Nat) (L:List Int),(wlk m o L).Perm ((Ts (o+1)).flatMap fun k=>lev m k L)
 | 0,L=>by simp [wlk,lev]
 | o+1,L=>by
  rw [Ydo,List.range_succ_eq_map,Sm]
  show (L::_).Perm ([L]++_)
  refine List.Perm.cons L ?_
  refine (Zh5 fun L' _=>Zu1 m o L').trans ?_
  refine (Zh4 _ _ _).trans ?_
  rw [List.flatMap_map]
  exact .refl _
theorem Zp0 (m o:Nat):(wlk m o []).Perm ((Ts (o+1)).flatMap (bfsL m)):=by
 have:bfsL m=fun k=>lev m k []:=funext fun k=>Zy7 m k
 rw [this]
 exact Zu1 m o []
theorem Zr2 {m:Nat} {i:Int} (h:i∈rngI 0 m):0<=i/\i<m:=by
 unfold rngI at h
 obtain ⟨k,hk,rfl⟩:=Wm.1 h
 have:=Do.1 hk
 omega
structure Wok (m:Nat) (L:List Int) (n:Nat):Prop where
 len:L.length<=n
 mem:∀ i∈L,0<=i/\i<m
theorem Zro (m:Nat):∀ (o:Nat) (L:List Int) (n:Nat),Wok m L n->∀ x∈wlk m o L,Wok m x (n+o)
 | 0,L,n,h,x,hx=>by
  rw [wlk] at hx
  rw [We.1 hx]; exact h
 | o+1,L,n,h,x,hx=>by
  rw [wlk] at hx
  rcases Rf.1 hx with rfl|hx
  ·exact ⟨Nat.le_trans h.len (Nat.le_add_right _ _),h.mem⟩
  ·obtain ⟨i,hi,hx⟩:=Mg.1 hx
   split at hx
   ·simp at hx
   ·have:=Zro m o (L++[i]) (n+1) ⟨by have:=h.len; simp; omega,fun j hj=>by
     rcases List.mem_append.1 hj with hj|hj
     ·exact h.mem j hj
     ·rw [We.1 hj]; exact Zr2 hi⟩ x hx
    rw [show n+(o+1)=n+1+o by omega]
    exact this
def fndP (f:List Int->Option Pth) (m o:Nat):List Pth:=(wlk m o []).filterMap f
def refL (f:List Int->Option Pth) (m o:Nat):List Pth:=(((Ts (o+1)).flatMap (bfsL m)).filterMap f).foldl putL []
theorem Zjv:∀ (l a:List Pth),a.Pairwise (fun a b=>ordP a b<=0)->(l.foldl putL a).Pairwise (fun a b=>ordP a b<=0)/\(l.foldl putL a).Perm (l++a)
 | [],a,h=>⟨h,.refl _⟩
 | p::l,a,h=>by
  obtain ⟨q1,q2⟩:=Zjv l (putL a p) (Zqe h)
  refine ⟨q1,q2.trans ?_⟩
  refine ((Mb l).append (Zv8 a p)).trans ?_
  exact List.perm_middle
theorem Zaw (f:List Int->Option Pth) (m o:Nat):(refL f m o).Perm (fndP f m o):=by
 have:=(Zjv (((Ts (o+1)).flatMap (bfsL m)).filterMap f) [] .nil).2
 rw [Wj] at this
 exact this.trans ((Zp0 m o).symm.filterMap f)
theorem Zja (f:List Int->Option Pth) (m o:Nat):(refL f m o).Pairwise (fun a b=>ordP a b<=0):=(Zjv _ [] .nil).1
theorem Zkx {f:List Int->Option Pth} (hf:∀ L p,f L=some p->p.ss=L) {m o:Nat} {ys:List Pth} (h1:ys.Perm (fndP f m o)) (h2:ys.Pairwise (fun a b=>¬ ordP b a<0)):ys=refL f m o:=by
 refine Znc (G:=fun p=>f p.ss=some p) (fun a b ha hb e=>?_) (h1.trans (Zaw f m o).symm) (fun a ha=>?_) (h2.imp fun {a b} h=>?_) (Zja f m o)
 ·rw [e,hb] at ha; cases ha; rfl
 ·have:=h1.subset ha
  obtain ⟨L,hL,e⟩:=Mz.1 this
  rw [hf L a e]; exact e
 ·have:=Za0 a b; omega
theorem Yji (n o:Int):PCall Tryz.prog 70 [I n,I o] ⟨.func 109 [] [.ipt [I o],.ipt [I n]],[]⟩:=by
 refine PCall.frzFns (rows:=[(1,[I n]),(1,[I o])]) (ks:=[(1,[I o]),(0,[I n])]) (by
  intro q hq
  simp only [Rf,List.not_mem_nil,or_false] at hq
  rcases hq with rfl|rfl<;>exact ⟨_,rfl⟩) ?_
 refine bs.pv (sx:=nos) Zb Tryz.func70 (by kernel_rfl) (by kernel_rfl) rfl ?_
 repeat'(first|refine wk3 ?_|(refine wk2 ?_ ?_<;>intro _)|refine wk4 ?_|fail);all_goals(conv=>whnf)
 exact Xj [0,1] rfl rfl rfl
def wlkB (m:Nat):Nat->Nat
 | 0=>1
 | o+1=>1+m*wlkB m o
theorem Zlj {α β:Type} {f:α->List β} {B:Nat}:∀ l:List α,(∀ x∈l,(f x).length<=B)->(l.flatMap f).length<=l.length*B
 | [],_=>by simp
 | a::l,h=>by
  have h1:=h a (by simp)
  have h2:=Zlj l fun x hx=>h x (by simp [hx])
  rw [Sm,Sz,Rr,Nat.add_mul,Nat.one_mul]
  omega
theorem Zpz (m:Nat):∀ (o:Nat) (L:List Int),(wlk m o L).length<=wlkB m o
 | 0,L=>by simp [wlk,wlkB]
 | o+1,L=>by
  have:=Zlj (f:=fun i=>if L.getLast?=some i then [] else wlk m o (L++[i])) (B:=wlkB m o) (rngI 0 m) fun i _=>by
   split
   ·simp
   ·exact Zpz m o _
  rw [wlk,Rr,wlkB]
  have hl:(rngI 0 m).length=m:=by simp [rngI]
  rw [hl] at this
  omega
theorem Ya9 (f:List Int->Option Pth) {m o:Nat} (hm:m<900) (ho:o<=2):(fndP f m o).length<900000:=by
 have h1:(fndP f m o).length<=(wlk m o []).length:=Hh _ _
 have h2:=Zpz m o []
 have h3:wlkB m o<=1+m+m*m:=by
  obtain rfl|rfl|rfl:o=0\/o=1\/o=2:=by omega
  ·simp [wlkB]; omega
  ·simp [wlkB]
  ·simp [wlkB,Nat.mul_add]; omega
 have h4:m*m<=899*899:=Lm (by omega) (by omega)
 omega
theorem Ybf {P:Program} {f:FuncId} {fn:Func} (hf:P.funcs[f]?=some fn) (h1:(fn.name == "runtime.NumGoroutine")=false) (h2:fn.body.isNone=false) (args:Array Value) (w:World):(callFunc f args).run P w = .ok (.enter f args) w:=by
 have q2' : ¬ fn.name = "runtime.NumGoroutine" := by simpa using h1
 have q3' : ¬ fn.body=none:=by intro h; rw [h] at h2; simp at h2
 simp [callFunc,hf,q2',q3']
theorem Yhf:FnOK Tryz.prog 72:=FnOK.of Tryz.func72 (by kernel_rfl) (by kernel_rfl)
abbrev gcP (p:Pth):List AV:=[.isl 1 (nl p.ss),.isl 4 (p.ps.map hp4),I p.sq]
def Yi6:FuncId->Bool:=fun f=>Qn f 72
noncomputable def kAll (h:Hal) (s:Stg) (fx fy fz tx ty tz n:Int):PC:=ins 33 (oneA [h.av,s.av,.agg [I fx,I fy,I fz,I tx,I ty,I tz,I n]] ⟨I 0,[]⟩) (ins 69 (oneA [h.av] ⟨.tup [.isl 1 (sl (surf h)),I 0],[]⟩) (ins 70 (oneA [I (sl (surf h)).length,I n] ⟨.func 109 [] [.ipt [I n],.ipt [I (nsN h:Nat)]],[]⟩) pt0))
theorem d55 {h:Hal} (hk:h.ok) {s:Stg} (hs:s.few) (hS:SortsK Tryz.prog 72 3) (a:Ask) (e:askE h s a=0) (hn:a.n<3) (hN:nsN h<900) :
  PCall Tryz.prog 35 [h.av,s.av,a.av] ⟨.tup [.isl 3 ((refL (Yf h s (qF a) (qT a)) (nsN h) a.n.toNat).map gcP),I 0],[]⟩:=by
 have A:=Xd e
 have he:=Zf0 A.e0
 have h24:=d24 hk hs a
 rw [e] at h24
 have h112:=c64 hk
 rw [if_pos he,he] at h112
 obtain ⟨fx,fy,fz,tx,ty,tz,n⟩:=a
 dsimp only at hn
 have hkA:PCOK Tryz.prog (kAll h s fx fy fz tx ty tz n):=Zfg h24 (Zfg h112 (Zfg (by rw [<-Zz0]; exact Yji _ n) Zb))
 unfold kAll at hkA
 have o1:=Zck [h.av,s.av,.agg [I fx,I fy,I fz,I tx,I ty,I tz,I n]] ⟨I 0,[]⟩
 have o2:=Zck [h.av] ⟨.tup [.isl 1 (sl (surf h)),I 0],[]⟩
 have o3:=Zck [I (sl (surf h)).length,I n] ⟨.func 109 [] [.ipt [I n],.ipt [I (nsN h:Nat)]],[]⟩
 refine Lq (res:=if (refL (Yf h s (fx,fy,fz) (tx,ty,tz)) (nsN h) n.toNat)=[] then ⟨.tup [.nils,I 0],[]⟩ else ⟨.tup [.asl 0 0 (refL (Yf h s (fx,fy,fz) (tx,ty,tz)) (nsN h) n.toNat).length,I 0],[(3,(refL (Yf h s (fx,fy,fz) (tx,ty,tz)) (nsN h) n.toNat).map gcP)]⟩) ?_ ?_
 rotate_left
 ·split<;>rename_i hre
  ·rw [hre]; exact ⟨rfl,⟨rfl,rfl⟩,trivial⟩
  ·refine ⟨⟨rfl,rfl,?_⟩,⟨rfl,rfl⟩,trivial⟩
   exact (Rn _).symm
 refine bs.pv (sx:=Yi6) hkA Tryz.func35 (by kernel_rfl) (by kernel_rfl) (by split<;>rfl) ?_
 repeat'(first|refine wk3 ?_|(refine wk2 ?_ ?_<;>intro _)|refine wk4 ?_|fail);all_goals(conv=>whnf)
 obtain ⟨f,hf⟩:∃ f,f=Yf h s (fx,fy,fz) (tx,ty,tz):=⟨_,rfl⟩
 have hfs:∀ L p,f L=some p->p.ss=L:=fun L p hp=>by rw [hf] at hp; exact Zf8 hp
 have hfr:∀ L:List Int,Wok (nsN h) L 2->Zpu Tryz.prog 71 [.agg (stgL h s),.agg [I fx,I fy,I fz,I tx,I ty,I tz,I n],.isl 1 (nl1 L)] (ansP (f L)):=fun L hL=>by
  rw [hf]
  exact d65f hk hs e (by have:=hL.len; omega) (fun i hi=>by have:=hL.mem i hi; rw [Zwo] at this; exact this)
 rw [<-hf]
 have hn2:n.toNat<=2:=by omega
 have hwok:∀ L∈wlk (nsN h) n.toNat [],Wok (nsN h) L 2:=fun L hL=>by
  have:=Zro (nsN h) n.toNat [] 0 ⟨Qd _,by simp⟩ L hL
  exact ⟨by have:=this.len; omega,this.mem⟩
 have hcnt:=Ya9 f (m:=nsN h) (o:=n.toNat) hN hn2
 have hit:Zpv Tryz.prog 109 [] [.ipt [I n],.ipt [I (nsN h:Nat)]] (lsX (wlk (nsN h) n.toNat [])):=by
  have hN:nsN h<1000:=by omega
  have hn0:=A.n.1
  dsimp only at hn0
  obtain rfl|rfl|rfl:n=0\/n=1\/n=2:=by omega
  ·exact Yfb _ hN
  ·exact Yfa _ hN
  ·exact Ye9 _ hN
 refine Rg.ren (env2:=[(5,.ptr 2 0 0),(11,.ptr 3 0 0),(12,.ptr 4 0 0),(35,.func 109 [] [.ipt [I n],.ipt [I (nsN h:Nat)]])]) (σ2:=⟨[(4,.row 11 [stgL h s] true false),(3,.row 1 [[.nils]] true false),(2,.row 7 [[I fx,I fy,I fz,I tx,I ty,I tz,I n]] true false)],5⟩) (Ren.of [] rfl (kps) (kps)) ?_
 refine rngT hit rfl rfl rfl rfl (Zvx (S:=Nat × Nat × List (List AV)) (fun t=>gz 5 3 t.1 t.2.2 [(4,.row 11 [stgL h s] true false),(3,.row 1 [[gv 5 t.1 t.2.1]] true false),(2,.row 7 [[I fx,I fy,I fz,I tx,I ty,I tz,I n]] true false)]) 5 (fun t=>nm2 5 6 t.1)
  (fun xs t=>∃ (Ls:List (List Int)) (ds:List Pth),xs=lsX Ls/\(∀ L∈Ls,Wok (nsN h) L 2)/\t.1=ds.length/\t.2.1=t.2.2.length/\t.2.2=ds.map gcP/\ds++Ls.filterMap f=fndP f (nsN h) n.toNat) ?_ ?_ _ (0,0,[]) ⟨wlk (nsN h) n.toNat [],[],rfl,?_,rfl,rfl,rfl,rfl⟩)
 ·rintro x xs ⟨k,len,els⟩ ⟨Ls,ds,hxs,hok,hkd,hlen,hels,hfd⟩
  dsimp only at hkd hlen hels ⊢
  cases Ls with
  | nil=>cases hxs
  | cons L Ls =>
   cases hxs
   refine ⟨⟨rfl,rfl⟩,fun ys hys hsl=>?_⟩
   obtain ⟨y,rfl⟩:∃ y,ys = #[y]:=by
    obtain ⟨l⟩:=ys
    match l,hys with
    | [y],_=>exact ⟨y,rfl⟩
   obtain ⟨sa,sn,sc,rfl⟩:=hsl 0 _ rfl
   have hr:=hfr L (hok L (by simp))
   rw [List.filterMap_cons] at hfd
   have e4:els.length<900000:=by
    rw [<-hfd,Sz] at hcnt
    rw [hels,Rn]; omega
   cases hp:f L with
   | none =>
    rw [hp] at hfd hr
    cases k with
    | zero =>
     refine bs.av (sx:=nos) hkA ?_
     conv=>whnf
     repeat'(first|refine wk3 ?_|(refine wk2 ?_ ?_<;>intro _)|refine wk4 ?_|fail);all_goals(conv=>whnf)
     refine Zen (Zik (Zcw (Zgp (sx:=nos) bs.hT bs.hok hkA) rfl ?_))
     conv=>whnf
     repeat'(first|refine wk3 ?_|(refine wk2 ?_ ?_<;>intro _)|refine wk4 ?_|fail);all_goals(conv=>whnf)
     refine Qct ⟨[.agg (stgL h s),.agg [I fx,I fy,I fz,I tx,I ty,I tz,I n],.isl 1 (nl1 L)],_,⟨.inl rfl,.inl rfl,.inr ⟨⟨sa,sn,sc,rfl,rfl⟩,rfl⟩,trivial⟩,rfl,hr,?_⟩
     conv=>whnf
     repeat'(first|refine wk3 ?_|(refine wk2 ?_ ?_<;>intro _)|refine wk4 ?_|fail);all_goals(conv=>whnf)
     refine bs.av (sx:=nos) hkA ?_
     conv=>whnf
     repeat'(first|refine wk3 ?_|(refine wk2 ?_ ?_<;>intro _)|refine wk4 ?_|fail);all_goals(conv=>whnf)
     exact Qo ⟨(0,len,els),[],rfl,kps,Ls,ds,rfl,fun L hL=>hok L (by simp [hL]),hkd,hlen,hels,hfd⟩
    | succ k =>
     refine bs.av (sx:=nos) hkA ?_
     conv=>whnf
     repeat'(first|refine wk3 ?_|(refine wk2 ?_ ?_<;>intro _)|refine wk4 ?_|fail);all_goals(conv=>whnf)
     refine Zen (Zik (Zcw (Zgp (sx:=nos) bs.hT bs.hok hkA) rfl ?_))
     conv=>whnf
     repeat'(first|refine wk3 ?_|(refine wk2 ?_ ?_<;>intro _)|refine wk4 ?_|fail);all_goals(conv=>whnf)
     refine Qct ⟨[.agg (stgL h s),.agg [I fx,I fy,I fz,I tx,I ty,I tz,I n],.isl 1 (nl1 L)],_,⟨.inl rfl,.inl rfl,.inr ⟨⟨sa,sn,sc,rfl,rfl⟩,rfl⟩,trivial⟩,rfl,hr,?_⟩
     conv=>whnf
     repeat'(first|refine wk3 ?_|(refine wk2 ?_ ?_<;>intro _)|refine wk4 ?_|fail);all_goals(conv=>whnf)
     refine bs.av (sx:=nos) hkA ?_
     conv=>whnf
     repeat'(first|refine wk3 ?_|(refine wk2 ?_ ?_<;>intro _)|refine wk4 ?_|fail);all_goals(conv=>whnf)
     exact Qo ⟨(k+1,len,els),[(5,5)],rfl,kps,Ls,ds,rfl,fun L hL=>hok L (by simp [hL]),hkd,hlen,hels,hfd⟩
   | some p =>
    rw [hp] at hfd hr
    cases k with
    | zero =>
     refine bs.av (sx:=nos) hkA ?_
     conv=>whnf
     repeat'(first|refine wk3 ?_|(refine wk2 ?_ ?_<;>intro _)|refine wk4 ?_|fail);all_goals(conv=>whnf)
     refine Zen (Zik (Zcw (Zgp (sx:=nos) bs.hT bs.hok hkA) rfl ?_))
     conv=>whnf
     repeat'(first|refine wk3 ?_|(refine wk2 ?_ ?_<;>intro _)|refine wk4 ?_|fail);all_goals(conv=>whnf)
     refine Qct ⟨[.agg (stgL h s),.agg [I fx,I fy,I fz,I tx,I ty,I tz,I n],.isl 1 (nl1 L)],_,⟨.inl rfl,.inl rfl,.inr ⟨⟨sa,sn,sc,rfl,rfl⟩,rfl⟩,trivial⟩,rfl,hr,?_⟩
     conv=>whnf
     repeat'(first|refine wk3 ?_|(refine wk2 ?_ ?_<;>intro _)|refine wk4 ?_|fail);all_goals(conv=>whnf)
     refine bs.av (sx:=nos) hkA ?_
     conv=>whnf
     repeat'(first|refine wk3 ?_|(refine wk2 ?_ ?_<;>intro _)|refine wk4 ?_|fail);all_goals(conv=>whnf)
     exact Qo ⟨(1,_,_),[(5,7)],rfl,kps,Ls,ds++[p],rfl,fun L hL=>hok L (by simp [hL]),by rw [Sz,<-hkd]; rfl,rfl,by rw [Wb.1 hkd.symm]; rfl,by rw [Rw]; exact hfd⟩
    | succ k =>
     refine bs.av (sx:=nos) hkA ?_
     conv=>whnf
     repeat'(first|refine wk3 ?_|(refine wk2 ?_ ?_<;>intro _)|refine wk4 ?_|fail);all_goals(conv=>whnf)
     refine Zen (Zik (Zcw (Zgp (sx:=nos) bs.hT bs.hok hkA) rfl ?_))
     conv=>whnf
     repeat'(first|refine wk3 ?_|(refine wk2 ?_ ?_<;>intro _)|refine wk4 ?_|fail);all_goals(conv=>whnf)
     refine Qct ⟨[.agg (stgL h s),.agg [I fx,I fy,I fz,I tx,I ty,I tz,I n],.isl 1 (nl1 L)],_,⟨.inl rfl,.inl rfl,.inr ⟨⟨sa,sn,sc,rfl,rfl⟩,rfl⟩,trivial⟩,rfl,hr,?_⟩
     conv=>whnf
     repeat'(first|refine wk3 ?_|(refine wk2 ?_ ?_<;>intro _)|refine wk4 ?_|fail);all_goals(conv=>whnf)
     refine bs.av (sx:=nos) hkA ?_
     conv=>whnf
     repeat'(first|refine wk3 ?_|(refine wk2 ?_ ?_<;>intro _)|refine wk4 ?_|fail);all_goals(conv=>whnf)
     exact Qo ⟨(k+1+1,_,_),[(5,8)],rfl,kps,Ls,ds++[p],rfl,fun L hL=>hok L (by simp [hL]),by rw [Sz,<-hkd]; rfl,by exact List.length_append.symm,by rw [Pj,<-hels]; rfl,by rw [Rw]; exact hfd⟩
 ·rintro ⟨k,len,els⟩ ⟨Ls,ds,hxs,hok,hkd,hlen,hels,hfd⟩
  dsimp only at hkd hlen hels ⊢
  cases Ls with
  | cons=>cases hxs
  | nil =>
   rw [List.filterMap_nil,Wj] at hfd
   have hds:∀ d∈ds,d.ss.length<1000000:=fun d hd=>by
    rw [hfd] at hd
    obtain ⟨L,hL,hp⟩:=Mz.1 hd
    rw [hfs L d hp]
    have:=(hwok L hL).len; omega
   rw [<-hfd] at hcnt
   cases k with
   | zero =>
    obtain rfl:ds=[]:=Wb.1 hkd.symm
    have hre:refL f (nsN h) n.toNat=[]:=(Zkx hfs (ys:=[]) (by rw [<-hfd]) .nil).symm
    rw [hre,if_pos rfl]
    conv=>whnf
    repeat'(first|refine wk3 ?_|(refine wk2 ?_ ?_<;>intro _)|refine wk4 ?_|fail);all_goals(conv=>whnf)
    refine Zz4 Yhf hS ?_
    conv=>whnf
    repeat'(first|refine wk3 ?_|(refine wk2 ?_ ?_<;>intro _)|refine wk4 ?_|fail);all_goals(conv=>whnf)
    exact Zf rfl rfl
   | succ k =>
    rw [hels,Rn] at hlen
    subst hels hlen
    conv=>whnf
    repeat'(first|refine wk3 ?_|(refine wk2 ?_ ?_<;>intro _)|refine wk4 ?_|fail);all_goals(conv=>whnf)
    refine Zz3 Yhf hS (by decide) (Ybf Tryz.func73 (by kernel_rfl) (by kernel_rfl)) gcP (fun _=>rfl) (fun _=>rfl) (fun _=>rfl) ordP (fun a ha b hb=>Yai (d115 (hds a ha) (hds b hb))) Yap (by omega) rfl fun ys hp hs=>?_
    obtain rfl:=Zkx hfs (by rw [<-hfd]; exact hp) hs
    have hyl:=hp.length_eq
    generalize refL f (nsN h) n.toNat=ys at *
    rw [if_neg (by intro h0; rw [h0,<-hkd] at hyl; cases hyl)]
    conv=>whnf
    repeat'(first|refine wk3 ?_|(refine wk2 ?_ ?_<;>intro _)|refine wk4 ?_|fail);all_goals(conv=>whnf)
    exact Xj [5] rfl (by rw [hyl]; rfl) rfl
 ·exact hwok
theorem Zrp {n i:Int} (hi:within i 0 n=true):∀ (l:List Int) (q:Option Int),wkG n q l=0->(l.getLast?.or q)≠some i->wkG n q (l++[i])=0
 | [],q,_,hq=>by
  have hq:q≠some i:=hq
  show wkG n q [i]=0
  rw [wkG,if_pos hi,if_neg hq]; rfl
 | x::l,q,h,hq=>by
  rw [wkG] at h
  rw [Sw,wkG]
  split at h
  ·rename_i h1
   rw [if_pos h1]
   split at h
   ·cases h
   ·rename_i h2
    rw [if_neg h2]
    refine Zrp hi l (some x) h ?_
    cases l with
    | nil=>exact hq
    | cons y l =>
     rw [List.getLast?_cons_cons] at hq
     cases hl:(y::l).getLast? with
     | none=>simp at hl
     | some z=>rw [hl] at hq; exact hq
  ·cases h
theorem Zuz (m:Nat):∀ (o:Nat) (L:List Int),wkG ((m:Int)-1) none L=0->∀ x∈wlk m o L,wkG ((m:Int)-1) none x=0
 | 0,L,h,x,hx=>by
  rw [wlk] at hx
  rw [We.1 hx]; exact h
 | o+1,L,h,x,hx=>by
  rw [wlk] at hx
  rcases Rf.1 hx with rfl|hx
  ·exact h
  ·obtain ⟨i,hi,hx⟩:=Mg.1 hx
   split at hx
   ·simp at hx
   ·rename_i hl
    have hr:=Zr2 hi
    refine Zuz m o (L++[i]) (Zrp (within_iff.2 (by omega)) L none h ?_) x hx
    rw [Option.or_none]; exact hl
theorem Zly (m:Nat):∀ (o:Nat) (L:List Int),∀ x∈wlk m o L,∃ t,x=L++t
 | 0,L,x,hx=>by
  rw [wlk] at hx
  exact ⟨[],by rw [We.1 hx]; simp⟩
 | o+1,L,x,hx=>by
  rw [wlk] at hx
  rcases Rf.1 hx with rfl|hx
  ·exact ⟨[],by simp⟩
  ·obtain ⟨i,hi,hx⟩:=Mg.1 hx
   split at hx
   ·simp at hx
   ·obtain ⟨t,rfl⟩:=Zly m o _ x hx
    exact ⟨i::t,by simp⟩
theorem Ztt (m:Nat):(rngI 0 m).Nodup:=by
 unfold rngI
 rw [List.Nodup,Dp]
 exact (List.pairwise_lt_range' (s:=0) (n:=m-0)).imp fun {a b} h e=>by omega
theorem Zm4 (m:Nat):∀ (o:Nat) (L:List Int),(wlk m o L).Nodup
 | 0,L=>by simp [wlk]
 | o+1,L=>by
  rw [wlk,Ge]
  refine ⟨fun h=>?_,?_⟩
  ·obtain ⟨i,hi,hx⟩:=Mg.1 h
   split at hx
   ·simp at hx
   ·obtain ⟨t,e⟩:=Zly m o _ _ hx
    have:=congrArg List.length e
    simp at this
  ·rw [List.Nodup,List.pairwise_flatMap]
   refine ⟨fun i _=>?_,(Ztt m).imp fun {i j} hij x hx y hy e=>?_⟩
   ·split
    ·exact .nil
    ·exact Zm4 m o _
   ·split at hx
    ·simp at hx
    ·split at hy
     ·simp at hy
     ·obtain ⟨t,e1⟩:=Zly m o _ _ hx
      obtain ⟨t',e2⟩:=Zly m o _ _ hy
      rw [e1,e2,Rw,Rw] at e
      have:=List.append_cancel_left e
      simp at this
      exact hij this.1
theorem Zu0 (m:Nat):∀ (l:List Int) (o:Nat) (L:List Int),wkG ((m:Int)-1) L.getLast? l=0->l.length<=o->L++l∈wlk m o L
 | [],o,L,_,_=>by
  rw [Wj]
  cases o<;>simp [wlk]
 | x::l,0,L,_,ho=>by simp at ho
 | x::l,o+1,L,h,ho=>by
  rw [wkG] at h
  split at h
  ·rename_i h1
   split at h
   ·cases h
   ·rename_i h2
    rw [wlk]
    refine Wd _ (Mg.2 ⟨x,?_,?_⟩)
    ·have:=within_iff.1 h1
     unfold rngI
     refine Wm.2 ⟨x.toNat,Do.2 ⟨Qm _,by omega⟩,by omega⟩
    ·rw [if_neg h2]
     have:=Zu0 m l o (L++[x]) (by rw [List.getLast?_append]; exact h) (by simpa using ho)
     rwa [Rw] at this
  ·cases h
def cntS (l:List Int) (L:List Pth):Nat:=L.countP fun p=>decide (p.ss=l)
theorem Zpf {l:List Int}:∀ {xs:List (List Int)},xs.Nodup->l∈xs->(xs.countP fun x=>decide (x=l))=1
 | [],_,h=>by simp at h
 | x::xs,hn,h=>by
  obtain ⟨h1,h2⟩:=Ge.1 hn
  rw [List.countP_cons]
  by_cases e:x=l
  ·subst e
   rw [if_pos (by simp),Ky.2 (fun y hy=>by
    intro hd
    exact h1 ((of_decide_eq_true hd) ▸ hy))]
  ·rcases Rf.1 h with h|h
   ·exact absurd h.symm e
   ·rw [Zpf h2 h,if_neg (by simpa using e)]
theorem Yf0 {f:List Int->Option Pth} (hf:∀ L p, f L=some p->p.ss=L) {m o:Nat} {l:List Int} (hw:wkG ((m:Int)-1) none l=0) (ho:l.length<=o):cntS l (refL f m o)=if (f l).isSome then 1 else 0 := by
  unfold cntS
  rw [(Zaw f m o).countP_eq]
  unfold fndP
  rw [List.countP_filterMap]
  have hm:l∈wlk m o [] := by
    have := Zu0 m l o [] hw ho
    rwa [Tl] at this
  cases e:f l with
  | some q =>
    rw [<-Zpf (Zm4 m o []) hm]
    have:(fun a => ((f a).map fun p => decide (p.ss=l)).getD false)=fun x => decide (x=l) := by
      funext L
      cases h:f L with
      | none =>
        have:L≠l := fun k => by rw [k, e] at h; cases h
        simp [this]
      | some p => rw [<-hf L p h]; rfl
    first
      | (rw [this]; rfl)
      | (refine List.countP_congr fun L _ => ?_
         cases h:f L with
         | none =>
           have:L≠l := fun k => by rw [k, e] at h; cases h
           simp [this]
         | some p => have := hf L p h; simp [this])
  | none =>
    refine Ky.2 fun L _ => ?_
    cases h:f L with
    | none => simp
    | some p =>
      have := hf L p h
      have:L≠l := fun k => by rw [k, e] at h; cases h
      simp_all
theorem Zyy {l:List Int} {L:List Pth} {k:Nat} (hk:k<L.length):cntS l (L.take (k+1))=cntS l (L.take k)+if L[k].ss=l then 1 else 0:=by
 unfold cntS
 rw [Qv hk,List.countP_append,List.countP_singleton]
 simp
theorem Yd4 {a b c x y z:Int} (h1:Near 45000 (a,b,c)) (h2:Near 5000 (x,y,z)):sqV a b c x y z=(a-x)*(a-x)+(b-y)*(b-y)+(c-z)*(c-z)/\sqV a b c x y z<=24300000000:=by
 obtain ⟨p1,p2,p3⟩:=h1
 obtain ⟨r1,r2,r3⟩:=h2
 dsimp only at p1 p2 p3 r1 r2 r3
 have k:∀ u v:Int,(-45000<=u/\u<=45000)->(-5000<=v/\v<=5000)->Qa Qb (u-v)=u-v/\(0<=(u-v)*(u-v)/\(u-v)*(u-v)<=2500000000)/\Qa Qb (Qa Qb (u-v)*Qa Qb (u-v))=(u-v)*(u-v):=fun u v hu hv=>by
  have e1:Qa Qb (u-v)=u-v:=W_eq (by omega) (by omega)
  have e2:0<=(u-v)*(u-v)/\(u-v)*(u-v)<=2500000000:=by
   generalize hd:u-v=d
   have hd1 : -50000<=d:=by omega
   have hd2:d<=50000:=by omega
   constructor
   ·rcases Int.le_total 0 d with h|h
    ·exact Qu h h
    ·have:=Qu (show 0 <= -d by omega) (show 0 <= -d by omega)
     rwa [Qau] at this
   ·have:=Qu (show 0<=50000-d by omega) (show 0<=50000+d by omega)
    have e:(50000-d)*(50000+d)=2500000000-d*d:=by rw [Int.mul_add,Lc,Lc]; omega
    omega
  exact ⟨e1,e2,by rw [e1]; exact W_eq (by omega) (by omega)⟩
 obtain ⟨_,a1,a2⟩:=k a x p1 r1
 obtain ⟨_,b1,b2⟩:=k b y p2 r2
 obtain ⟨_,c1,c2⟩:=k c z p3 r3
 unfold sqV
 rw [a2,b2,c2]
 rw [W_eq (n:=(a-x)*(a-x)+(b-y)*(b-y)) (by omega) (by omega),W_eq (by omega) (by omega)]
 exact ⟨rfl,by omega⟩
theorem Zbh {d:Int} (h:d≠0):1<=d*d:=by
 rcases Int.lt_trichotomy d 0 with h1|h1|h1
 ·have:=Ok (show (1:Int) <= -d by omega) (show (1:Int) <= -d by omega) (by omega) (by omega)
  rw [Qau] at this; omega
 ·exact absurd h1 h
 ·have:=Ok (show (1:Int)<=d by omega) (show (1:Int)<=d by omega) (by omega) (by omega)
  omega
theorem Zl5 (d:Int):0<=d*d:=by
 by_cases h:d=0
 ·subst h; omega
 ·have:=Zbh h; omega
theorem Yi5 {a b c x y z:Int} (h:¬ (a=x/\b=y/\c=z)):1<=(a-x)*(a-x)+(b-y)*(b-y)+(c-z)*(c-z):=by
 have h1:=Zl5 (a-x)
 have h2:=Zl5 (b-y)
 have h3:=Zl5 (c-z)
 by_cases e1:a=x
 ·by_cases e2:b=y
  ·have:=Zbh (d:=c-z) (by intro k; exact h ⟨e1,e2,by omega⟩); omega
  ·have:=Zbh (d:=b-y) (by omega); omega
 ·have:=Zbh (d:=a-x) (by omega); omega
theorem Ygn (x:Int):0<=sgn x*sgn x:=Zl5 _
theorem Yao {h:Hal} {s:Stg} (g:Sit h s) (e0:serr h s=0) {q0 q1:Pl3} (hf:Near 5000 q0) (ht:Near 5000 q1) (hne:q0≠q1) {ns:List Int} (hl:ns.length<=4) (hi:∀ n∈ns,0<=n/\n<nsur h) {p:Pth} (e:Yf h s q0 q1 ns=some p):1<=p.sq/\p.sq<=24300000000:=by
 have hn:=Zmo g hf hl (Ygm hi) ns.length (Qd _)
 have hn:Near 45000 (imA (im1 h s) q0 ns ns.length):=Zn2 (by omega) hn
 have hs:imA (im1 h s) q0 ns ns.length≠q1:=by
  intro hq
  rw [Zec] at e
  by_cases h0:ns=[]
  ·subst h0
   exact hne hq
  ·have hp:0<ns.length:=List.length_pos_iff.2 h0
   have ht2:=Zmm (f:=im1 h s) (q:=q0) (ns:=ns) (k:=ns.length-1) (by omega)
   rw [show ns.length-1+1=ns.length by omega,List.take_of_length_le (by rw [Zal]; exact Qd _)] at ht2
   rw [ht2,goP,hq] at e
   have hc:=Zyp g e0 (hi _ (Qq (show ns.length-1<ns.length by omega))) (q:=q1) (Zn2 (by omega) ht) (to:=pnt q1) (Zv9 ht)
   have hz:(fP h s (ns[ns.length-1]'(by omega)) q1 (pnt q1)).2≠0:=by
    show (crsA h s ⟨_,q1.1,q1.2.1,q1.2.2,pnt q1⟩).2≠0
    rw [hc.2.2.1]
    unfold Zba
    have:crF (Zk h s (ns[ns.length-1]'(by omega))) ⟨ns[ns.length-1]'(by omega),q1.1,q1.2.1,q1.2.2,pnt q1⟩=crG (Zk h s (ns[ns.length-1]'(by omega))) ⟨ns[ns.length-1]'(by omega),q1.1,q1.2.1,q1.2.2,pnt q1⟩:=by
     unfold crF crG pnt
     dsimp only
     rw [Int.mul_one]
    rw [this,if_pos (Ygn _)]
    show (12:Int)≠0
    decide
   rw [if_neg hz] at e
   cases e
 rw [Zec] at e
 split at e
 ·cases e
 ·split at e
  ·cases e
   obtain ⟨r1,r2⟩:=Yd4 (a:=(imA (im1 h s) q0 ns ns.length).1) (b:=(imA (im1 h s) q0 ns ns.length).2.1) (c:=(imA (im1 h s) q0 ns ns.length).2.2) (x:=q1.1) (y:=q1.2.1) (z:=q1.2.2) hn ht
   dsimp only
   refine ⟨?_,r2⟩
   rw [r1]
   refine Yi5 ?_
   rintro ⟨k1,k2,k3⟩
   exact hs (Prod.ext k1 (Prod.ext k2 k3))
  ·cases e
theorem Ybc (l:List Pt4):eqP l l=true:=by
 have:=Zvs ⟨[],l,0⟩
 unfold same at this
 simp only [Qc] at this
 exact this.2.2
theorem Yep {a b:Pth} (h:ordP a b<=0):a.sq<=b.sq:=by
 rw [Zdt] at h
 unfold ordK at h
 rw [cmpL] at h
 rcases Vs a.sq b.sq with ⟨h1,e⟩|⟨h1,e⟩|⟨h1,e⟩
 ·omega
 ·omega
 ·rw [e,if_neg (by decide)] at h; omega
theorem Yiw {a:Ask} (h:a.same=false):qF a≠qT a:=by
 intro e
 have e1:a.fx=a.tx:=congrArg (·.1) e
 have e2:a.fy=a.ty:=congrArg (·.2.1) e
 have e3:a.fz=a.tz:=congrArg (·.2.2) e
 unfold Ask.same at h
 simp [e1,e2,e3] at h
theorem Ygj {h:Hal} {l:List Int} (hl:l.length<=4) (hw:wkG ((nsN h:Int)-1) none l=0):suE h l=0:=by
 unfold suE
 rw [if_neg (by omega),<-Zwo]
 exact hw
theorem Zdp {h:Hal} (hk:h.ok) {s:Stg} (hs:s.few) {a:Ask} (e:askE h s a=0) (hn:a.n<3) {p:Pth} (hp:p∈refL (Yf h s (qF a) (qT a)) (nsN h) a.n.toNat) :
  Yf h s (qF a) (qT a) p.ss=some p/\suE h p.ss=0/\p.ss.length<=2/\p.ps.length<=2/\cpE h s a p=0:=by
 have A:=Xd e
 have hn0:=A.n
 have h1:=(Zaw _ _ _).subset hp
 obtain ⟨L,hL,hf⟩:=Mz.1 h1
 obtain rfl:=Zf8 hf
 have hw:=Zro (nsN h) a.n.toNat [] 0 ⟨Qd _,by simp⟩ _ hL
 have hg:=Zuz (nsN h) a.n.toNat [] rfl _ hL
 have hl:p.ss.length<=a.n.toNat:=by have:=hw.len; omega
 have hsu:=Ygj (by omega) hg
 have hps:=Zr8 hf
 have hi:=(Zl4 hsu).2
 have hsq:=Yao (Zdg hk hs A.e0) A.e0 A.f A.t (Yiw A.ne) (by omega) hi hf
 refine ⟨hf,hsu,by omega,by omega,?_⟩
 unfold cpE pthE
 rw [if_pos (show (if (p.ps.length:Int)=p.ss.length then (if 4<(p.ss.length:Int) then 8 else (if within p.sq 1 24300000000 then 0 else 2)) else 10)=(0:Int) by
  rw [if_pos (by omega),if_neg (by omega),if_pos (within_iff.2 hsq)]),if_pos hsu,if_pos (by omega)]
 unfold chkP
 rw [hf]
 dsimp only
 rw [if_pos ⟨rfl,Ybc _⟩]
theorem Zwn {h:Hal} (hk:h.ok) {s:Stg} (e:serr h s=0):nsN h<=18:=by
 have:=(Zjx hk (Zf0 e)).le
 unfold nsN; omega
theorem Zqd (f:List Int->Option Pth) {m o:Nat} (hm:m<=18) (ho:o<=2):(refL f m o).length<=343:=by
 rw [(Zaw f m o).length_eq]
 have h1:(fndP f m o).length<=(wlk m o []).length:=Hh _ _
 have h2:=Zpz m o []
 have h3:wlkB m o<=1+m+m*m:=by
  obtain rfl|rfl|rfl:o=0\/o=1\/o=2:=by omega
  ·simp [wlkB]; omega
  ·simp [wlkB]
  ·simp [wlkB,Nat.mul_add]; omega
 have h4:m*m<=18*18:=Lm hm hm
 omega
theorem Yf1 {h:Hal} {s:Stg} {a:Ask} {l:List Int} (e2:suE h l=0) (ho:l.length<=a.n.toNat):cntS l (refL (Yf h s (qF a) (qT a)) (nsN h) a.n.toNat)=if (Yf h s (qF a) (qT a) l).isSome then 1 else 0:=by
 refine Yf0 (fun L p hp=>Zf8 hp) ?_ ho
 unfold suE at e2
 split at e2
 ·cases e2
 ·rw [Zwo]; exact e2
section
variable {h:Hal} {s:Stg} {a:Ask}
end
end Go.Proofs.YtfkdpbklbegnlaaGreat
namespace Go.En
def dnL:List (Int × Int)->Int->Int
 | [],x=>x
 | c::l,x=>dnL l (x*c.1 / 1000*c.2 / 1000)
def upL:List (Int × Int)->Int->Int
 | [],x=>x
 | c::l,x=>upL l (((x*c.1+1000-1) / 1000*c.2+1000-1) / 1000)
def pw:List (Int × Int)->Int
 | []=>1
 | c::l=>c.1*c.2*pw l
theorem Ycf:∀ (l:List (Int × Int)) (c:Int × Int),pw (l++[c])=pw l*(c.1*c.2)
 | [],c=>by simp [pw]
 | a::l,c=>by
  simp only [Sw,pw,Ycf l c]
  ac_rfl
theorem pw_rev:∀ l:List (Int × Int),pw l.reverse=pw l
 | []=>rfl
 | a::l=>by rw [List.reverse_cons,Ycf,pw_rev l,pw,Ob]
theorem Zf4:∀ {l:List (Int × Int)},(∀ c∈l,0<=c.1/\0<=c.2)->0<=pw l
 | [],_=>by simp [pw]
 | a::l,h=>Qu (Qu (h a (by simp)).1 (h a (by simp)).2) (Zf4 fun c hc=>h c (by simp [hc]))
theorem up_mulx (x:Int) {p:Int} (hp:0<p):x<=(x+p-1) / p*p:=by
 have h1:=Int.emod_add_mul_ediv (x+p-1) p
 have h2:=Int.emod_lt_of_pos (x+p-1) hp
 rw [Ob p] at h1
 omega
theorem dnL_le:∀ {l:List (Int × Int)} {x:Int},(∀ c∈l,0<=c.1/\0<=c.2)->0<=x->dnL l x*1000000 ^ l.length<=x*pw l/\0<=dnL l x
 | [],x,_,hx=>by simp [dnL,pw,hx]
 | c::l,x,h,hx=>by
  obtain ⟨c1,c2⟩:=h c (by simp)
  have y1:0<=x*c.1 / 1000:=Tg (Qu hx c1) (by omega)
  have y2:0<=x*c.1 / 1000*c.2 / 1000:=Tg (Qu y1 c2) (by omega)
  have hp:=Zf4 (l:=l) fun c hc=>h c (by simp [hc])
  obtain ⟨i1,i2⟩:=dnL_le (l:=l) (fun c hc=>h c (by simp [hc])) y2
  refine ⟨?_,i2⟩
  have d1:x*c.1 / 1000*1000<=x*c.1:=Kv _ (by omega)
  have d2:x*c.1 / 1000*c.2 / 1000*1000<=x*c.1 / 1000*c.2:=Kv _ (by omega)
  have d3:x*c.1 / 1000*1000*c.2<=x*c.1*c.2:=Qj d1 c2
  have d4:x*c.1 / 1000*c.2 / 1000*1000000<=x*c.1*c.2:=by
   have:x*c.1 / 1000*1000*c.2=x*c.1 / 1000*c.2*1000:=by rw [Tn,Ob 1000,<-Tn]
   omega
  have d5:=Qj d4 hp
  have d6:=Qj i1 (show (0:Int)<=1000000 by omega)
  show dnL l (x*c.1 / 1000*c.2 / 1000)*1000000 ^ (l.length+1)<=x*(c.1*c.2*pw l)
  rw [Ni,<-Tn]
  refine Nj d6 ?_
  rw [show ∀ A:Int,A*pw l*1000000=A*1000000*pw l from fun A=>by ac_rfl]
  refine Nj d5 ?_
  rw [Tn x c.1,Tn x]
  exact Gz _
theorem upL_ge:∀ {l:List (Int × Int)} {x:Int},(∀ c∈l,0<=c.1/\0<=c.2)->0<=x->x*pw l<=upL l x*1000000 ^ l.length/\0<=upL l x
 | [],x,_,hx=>by simp [upL,pw,hx]
 | c::l,x,h,hx=>by
  obtain ⟨c1,c2⟩:=h c (by simp)
  have m1:=Qu hx c1
  have y1:0<=(x*c.1+1000-1) / 1000:=Tg (by omega) (by omega)
  have m2:=Qu y1 c2
  have y2:0<=((x*c.1+1000-1) / 1000*c.2+1000-1) / 1000:=Tg (by omega) (by omega)
  have hp:=Zf4 (l:=l) fun c hc=>h c (by simp [hc])
  obtain ⟨i1,i2⟩:=upL_ge (l:=l) (fun c hc=>h c (by simp [hc])) y2
  refine ⟨?_,i2⟩
  have d1:=up_mulx (x*c.1) (show (0:Int)<1000 by omega)
  have d2:=up_mulx ((x*c.1+1000-1) / 1000*c.2) (show (0:Int)<1000 by omega)
  have d3:=Qj d1 c2
  have d4:x*c.1*c.2<=((x*c.1+1000-1) / 1000*c.2+1000-1) / 1000*1000000:=by
   have:(x*c.1+1000-1) / 1000*1000*c.2=(x*c.1+1000-1) / 1000*c.2*1000:=by rw [Tn,Ob 1000,<-Tn]
   omega
  have d5:=Qj d4 hp
  have d6:=Qj i1 (show (0:Int)<=1000000 by omega)
  show x*(c.1*c.2*pw l)<=upL l (((x*c.1+1000-1) / 1000*c.2+1000-1) / 1000)*1000000 ^ (l.length+1)
  rw [Ni,<-Tn (upL _ _)]
  refine Nj ?_ d6
  rw [show ∀ A:Int,A*pw l*1000000=A*1000000*pw l from fun A=>by ac_rfl]
  refine Nj ?_ d5
  rw [Tn x c.1,Tn x]
  exact Gz _
theorem it_dn {q:Int} (hq:0<=q) (f:Nat->Int->Int) (h0:∀ x,f 0 x=x) (hs:∀ n x,f (n+1) x=f n (x*q / 1000000)):∀ (n:Nat) {x:Int},0<=x->f n x*1000000 ^ n<=x*q ^ n/\0<=f n x
 | 0,x,hx=>by simp [h0,hx]
 | n+1,x,hx=>by
  have y:0<=x*q / 1000000:=Tg (Qu hx hq) (by omega)
  obtain ⟨i1,i2⟩:=it_dn hq f h0 hs n y
  rw [hs]
  refine ⟨?_,i2⟩
  have d1:x*q / 1000000*1000000<=x*q:=Kv _ (by omega)
  have d5:=Qj d1 (show 0<=q ^ n from Mc hq)
  have d6:=Qj i1 (show (0:Int)<=1000000 by omega)
  rw [Ni,<-Tn]
  refine Nj d6 ?_
  rw [show ∀ A:Int,A*q ^ n*1000000=A*1000000*q ^ n from fun A=>by ac_rfl]
  refine Nj d5 ?_
  rw [Ni,Ob (q ^ n),Tn]
  exact Gz _
theorem it_up {q:Int} (hq:0<=q) (f:Nat->Int->Int) (h0:∀ x,f 0 x=x) (hs:∀ n x,f (n+1) x=f n ((x*q+1000000-1) / 1000000)):∀ (n:Nat) {x:Int},0<=x->x*q ^ n<=f n x*1000000 ^ n/\0<=f n x
 | 0,x,hx=>by simp [h0,hx]
 | n+1,x,hx=>by
  have m:=Qu hx hq
  have y:0<=(x*q+1000000-1) / 1000000:=Tg (by omega) (by omega)
  obtain ⟨i1,i2⟩:=it_up hq f h0 hs n y
  rw [hs]
  refine ⟨?_,i2⟩
  have d1:=up_mulx (x*q) (show (0:Int)<1000000 by omega)
  have d5:=Qj d1 (show 0<=q ^ n from Mc hq)
  have d6:=Qj i1 (show (0:Int)<=1000000 by omega)
  rw [Ni 1000000,<-Tn]
  refine Nj ?_ d6
  rw [show ∀ A:Int,A*q ^ n*1000000=A*1000000*q ^ n from fun A=>by ac_rfl]
  refine Nj ?_ d5
  rw [Ni,Ob (q ^ n),Tn]
  exact Gz _
theorem meet {l r:List (Int × Int)} (hl:∀ c∈l,0<=c.1/\0<=c.2) (hr:∀ c∈r,0<=c.1/\0<=c.2) (hpw:pw r=pw l) (hlen:r.length=l.length) {sq q lo hi:Int} {a:Int × Int} {n m:Nat} (hq:0<=q) (hq1:q<=1000000) (hs:0<sq) (h0:0<=a.1/\a.1*sq<=1000000000000) (h1:1000000000000<=a.2*sq)
  (hnm:m<=n) (h2:lo*1000000 ^ n<=dnL l a.1*q ^ n) (h3:upL r a.2*q ^ m<=hi*1000000 ^ m):lo<=hi:=by
 have ha2:0<=a.2:=by
  rcases Ow a.2 0 with h|h
  ·have:=Qu (show 0 <= -a.2 by omega) (show 0<=sq by omega)
   rw [Tw] at this
   omega
  ·exact h
 have hp:=Zf4 hl
 obtain ⟨i1,_⟩:=dnL_le hl h0.1
 obtain ⟨j1,_⟩:=upL_ge hr ha2
 rw [hpw,hlen] at j1
 generalize pw l=P at *
 generalize dnL l a.1=x at *
 generalize upL r a.2=y at *
 have hM:(0:Int)<=1000000 ^ l.length:=Mc (by omega)
 have hM0:(0:Int)<1000000 ^ l.length:=Qak (by omega)
 generalize (1000000:Int) ^ l.length=M at *
 obtain ⟨k,rfl⟩:∃ k,n=m+k:=⟨n-m,by omega⟩
 have hqn:0<=q ^ m:=Mc hq
 have hqk:0<=q ^ k:=Mc hq
 have hT0:(0:Int)<1000000 ^ m:=Qak (by omega)
 have hK0:(0:Int)<1000000 ^ k:=Qak (by omega)
 have hqK:q ^ k<=1000000 ^ k:=by
  clear h2 hqk hK0
  induction k with
  | zero=>simp
  | succ k ih =>
   rw [Ni,Ni]
   exact Ok (ih (by omega)) hq1 hq (Mc (by omega))
 rw [Int.pow_add,Int.pow_add] at h2
 generalize q ^ m=Q at *
 generalize q ^ k=R at *
 generalize (1000000:Int) ^ m=T at *
 generalize (1000000:Int) ^ k=K at *
 have c1:lo*(T*K)*(M*sq)<=x*(Q*R)*(M*sq):=Qj h2 (Qu hM (by omega))
 have c2:x*M*(Q*R*sq)<=a.1*P*(Q*R*sq):=Qj i1 (Qu (Qu hqn hqk) (by omega))
 have c3:a.1*sq*(P*(Q*R))<=1000000000000*(P*(Q*R)):=Qj h0.2 (Qu hp (Qu hqn hqk))
 have c4:1000000000000*(P*(Q*R))<=a.2*sq*(P*(Q*R)):=Qj h1 (Qu hp (Qu hqn hqk))
 have c5:a.2*P*(sq*(Q*R))<=y*M*(sq*(Q*R)):=Qj j1 (Qu (by omega) (Qu hqn hqk))
 have c6:y*Q*(M*sq*R)<=hi*T*(M*sq*R):=Qj h3 (Qu (Qu hM (by omega)) hqk)
 have e1:x*(Q*R)*(M*sq)=x*M*(Q*R*sq):=by ac_rfl
 have e2:a.1*P*(Q*R*sq)=a.1*sq*(P*(Q*R)):=by ac_rfl
 have e3:a.2*sq*(P*(Q*R))=a.2*P*(sq*(Q*R)):=by ac_rfl
 have e4:y*M*(sq*(Q*R))=y*Q*(M*sq*R):=by ac_rfl
 rcases Ow hi lo with hlt|hge
 ·exfalso
  have e5:hi*T*(M*sq*R)=hi*(T*M*sq)*R:=by ac_rfl
  have e6:lo*(T*K)*(M*sq)=lo*(T*M*sq)*K:=by ac_rfl
  have hU:0<T*M*sq:=Pi (Pi hT0 hM0) hs
  have hy0:0<=hi:=by
   rcases Ow hi 0 with hn|hn
   ·have z1:0<=y*Q:=by
     refine Qu ?_ hqn
     rcases Ow y 0 with hy|hy
     ·have:=Pi (show 0 < -y by omega) hM0
      rw [Tw] at this
      have:=Qu ha2 hp
      omega
     ·exact hy
    have z2:=Pi (show 0 < -hi by omega) hT0
    rw [Tw] at z2
    omega
   ·exact hn
  have k1:hi*(T*M*sq)*R<=hi*(T*M*sq)*K:=Int.mul_le_mul_of_nonneg_left hqK (Qu hy0 (by omega))
  have k2:hi*(T*M*sq)<lo*(T*M*sq):=Pf hlt hU
  have k3:hi*(T*M*sq)*K<lo*(T*M*sq)*K:=Pf k2 hK0
  omega
 ·exact hge
end Go.En
namespace Go.Proofs.YtfkdpbklbegnlaaGreat
open Go Go.Sx
def fct (h:Hal) (s:Stg) (b:Int) (n:Int):Int × Int:=(1000-absB (matS h s n) b,1000-(matS h s n).sc)
theorem Zyd (h:Hal) (s:Stg) (b:Int):∀ (l:List Int) (e:Int × Int),(enL h s b l e).1=En.dnL (l.map (fct h s b)) e.1/\(enL h s b l e).2=En.upL (l.map (fct h s b)) e.2
 | [],e=>⟨rfl,rfl⟩
 | n::l,e=>Zyd h s b l (lft (matS h s n) b e)
theorem Yc2 {h:Hal} {s:Stg} (g:Sit h s) {b:Int} {l:List Int} (hin:∀ n∈l,SK h n):∀ c∈l.map (fct h s b),0<=c.1/\0<=c.2:=by
 intro c hc
 obtain ⟨n,hn,rfl⟩:=Wm.1 hc
 have h1:=(Zrk g (b:=b) (hin n hn)).1
 have h2:=Zwr g.fine (Zga g (hin n hn))
 unfold fct
 dsimp only
 omega
theorem Zmw {h:Hal} {s:Stg} (g:Sit h s) {sq a b:Int} {l r:List Int} (h0:1<=sq) (h1:sq<=24300000000) (hl:∀ n∈l,SK h n) (hr:r=l\/r=l.reverse) (ha:0<=a/\a<=100000) :
  (enZ sq a (enL h s b l (enA sq))).1<=(enZ sq a (enL h s b r (enA sq))).2:=by
 have hr0:∀ n∈r,SK h n:=fun n hn=>by
  rcases hr with rfl|rfl
  ·exact hl n hn
  ·exact hl n (Qae.1 hn)
 have k1:=Yc2 g (b:=b) hl
 have k2:=Yc2 g (b:=b) hr0
 have e1:En.pw (r.map (fct h s b))=En.pw (l.map (fct h s b)):=by
  rcases hr with rfl|rfl
  ·rfl
  ·rw [List.map_reverse,En.pw_rev]
 have e2:(r.map (fct h s b)).length=(l.map (fct h s b)).length:=by
  rcases hr with rfl|rfl<;>simp
 have A:=Zye h0 h1
 have hA1:(enA sq).1*sq<=1000000000000:=Kv _ (by omega)
 have hA2:1000000000000<=(enA sq).2*sq:=En.up_mulx _ (by omega)
 have hnm:=(Yc3 h0 h1).2.2.1
 obtain ⟨d1,_⟩:=Zyd h s b l (enA sq)
 obtain ⟨_,d2⟩:=Zyd h s b r (enA sq)
 have p1:=(En.dnL_le k1 A.a.1).2
 have p2:=(En.upL_ge k2 A.b.1).2
 refine En.meet k1 k2 e1 e2 (a:=enA sq) (q:=1000000-a) (by omega) (by omega) (by omega) ⟨A.a.1,hA1⟩ hA2 hnm ?_ ?_
 ·unfold enZ
  dsimp only
  rw [d1]
  exact (En.it_dn (q:=1000000-a) (by omega) (fun n x=>itN (fun x=>x*(1000000-a) / 1000000) n x) (fun _=>rfl) (fun _ _=>rfl) _ p1).1
 ·unfold enZ
  dsimp only
  rw [d2]
  exact (En.it_up (q:=1000000-a) (by omega) (fun n x=>itN (fun x=>(x*(1000000-a)+1000000-1) / 1000000) n x) (fun _=>rfl) (fun _ _=>rfl) _ p2).1
theorem Ybg {h:Hal} {s:Stg} (g:Sit h s) {p:Pth} {a b:Int} (hp:pthE p=0) (hl:∀ n∈p.ss,SK h n) (ha:0<=a/\a<=100000) :
  ((enV h s p b a).1<=(enV h s p b a).2/\(enV h s p b a).1<=(enV h s (trV p) b a).2)/\(enV h s (trV p) b a).1<=(enV h s p b a).2/\(enV h s (trV p) b a).1<=(enV h s (trV p) b a).2:=by
 obtain ⟨_,h0,h1⟩:=Zay hp
 have hl' : ∀ n∈p.ss.reverse,SK h n:=fun n hn=>hl n (Qae.1 hn)
 unfold enV trV
 dsimp only
 exact ⟨⟨Zmw g h0 h1 hl (.inl rfl) ha,Zmw g h0 h1 hl (.inr rfl) ha⟩,Zmw g h0 h1 hl' (.inr (List.reverse_reverse _).symm) ha,Zmw g h0 h1 hl' (.inl rfl) ha⟩
theorem Yjn (n lo hi:Int):PCall Tryz.prog 68 [I n,I lo,I hi] ⟨Bo (within n lo hi),[]⟩:=by
 refine bs.pv (sx:=nos) Zb Tryz.func68 (by kernel_rfl) (by kernel_rfl) rfl ?_
 repeat'(first|refine wk3 ?_|(refine wk2 ?_ ?_<;>intro _)|refine wk4 ?_|fail);all_goals(conv=>whnf)
 all_goals exact Zd (by simp_all [within]<;>omega)
theorem d38u (n lo hi:Int):PCall Tryz.prog 16 [I n,I lo,I hi] ⟨Bo (within n lo hi),[]⟩:=c30 n lo hi
def rWe:List AV->Option PRes
 | [.int .i64 n,.int .i64 lo,.int .i64 hi]=>some ⟨Bo (within n lo hi),[]⟩
 | _=>none
def kVe:PC:=ins 16 rWe (ins 68 rWe pt0)
theorem Yhn:PCOK Tryz.prog kVe:=by
 refine Zh (fun a res h=>?_) (Zh (fun a res h=>?_) Zb)
 ·unfold rWe at h; split at h<;>cases h; exact d38u _ _ _
 ·unfold rWe at h; split at h<;>cases h; exact Yjn _ _ _
theorem d88 (b a v:Int):PCall Tryz.prog 34 [P3 b a v] ⟨I (airE b a v),[]⟩:=by
 unfold airE
 cases h1:within b 0 3<;>cases h2:within a 0 100000<;>cases h3:within v 30000 40000
 all_goals
  refine bs.pv (sx:=nos) Yhn Tryz.func34 (by kernel_rfl) (by kernel_rfl) rfl ?_
  repeat'(first|refine wk3 ?_|(refine wk2 ?_ ?_<;>intro _)|refine wk4 ?_|fail);all_goals(conv=>whnf)
 all_goals first
  | exact Za rfl
  | (refine Za ?_; simp_all; done)
  | (exfalso; simp_all; done)
end Go.Proofs.YtfkdpbklbegnlaaGreat
namespace Go.Proofs
open Go.Shelf
def Tryz.laysS114_ren:Go.Shelf.Ren:=⟨fun|6=>72|15=>117|14=>116|28=>187|29=>188|20=>179|21=>180|22=>181|23=>182|24=>183|25=>184|26=>185|27=>186|46=>263|47=>264|48=>265|49=>266|50=>267|57=>295|n=>n,fun|22=>90|24=>75|25=>139|3=>3|39=>195|0=>0|53=>257|55=>259|4=>4|46=>250|45=>249|50=>254|5=>5|9=>9|66=>311|70=>315|76=>330|77=>212|n=>n,fun|n=>n⟩
theorem Tryz.laysS114:Go.Proofs.SlLaysF0.n6 Tryz.prog Tryz.laysS114_ren:={
 mixed:=by kernel_rfl
 f6:=⟨Tryz.f72.name,by decide,Tryz.func72.trans (congrArg some (by kernel_rfl))⟩
 f14:=⟨Tryz.f116.name,by decide,Tryz.func116.trans (congrArg some (by kernel_rfl))⟩
 f15:=Tryz.func117.trans (congrArg some (by kernel_rfl))
 f20:=⟨Tryz.f179.name,by decide,Tryz.func179.trans (congrArg some (by kernel_rfl))⟩
 f21:=⟨Tryz.f180.name,by decide,Tryz.func180.trans (congrArg some (by kernel_rfl))⟩
 f22:=⟨Tryz.f181.name,by decide,Tryz.func181.trans (congrArg some (by kernel_rfl))⟩
 f23:=⟨Tryz.f182.name,by decide,Tryz.func182.trans (congrArg some (by kernel_rfl))⟩
 f24:=⟨Tryz.f183.name,by decide,Tryz.func183.trans (congrArg some (by kernel_rfl))⟩
 f25:=⟨Tryz.f184.name,by decide,Tryz.func184.trans (congrArg some (by kernel_rfl))⟩
 f26:=⟨Tryz.f185.name,by decide,Tryz.func185.trans (congrArg some (by kernel_rfl))⟩
 f27:=⟨Tryz.f186.name,by decide,Tryz.func186.trans (congrArg some (by kernel_rfl))⟩
 f28:=Tryz.func187.trans (congrArg some (by kernel_rfl))
 f29:=Tryz.func188.trans (congrArg some (by kernel_rfl))
 f46:=⟨Tryz.f263.name,by decide,Tryz.func263.trans (congrArg some (by kernel_rfl))⟩
 f47:=Tryz.func264.trans (congrArg some (by kernel_rfl))
 f48:=Tryz.func265.trans (congrArg some (by kernel_rfl))
 f49:=⟨Tryz.f266.name,by decide,Tryz.func266.trans (congrArg some (by kernel_rfl))⟩
 f50:=⟨Tryz.f267.name,by decide,Tryz.func267.trans (congrArg some (by kernel_rfl))⟩
 f57:=⟨Tryz.f295.name,by decide,Tryz.func295.trans (congrArg some (by kernel_rfl))⟩
 t0:=Tryz.underlying0
 a0:=Tryz.isAgg0
 z0:=Tryz.sizeOf0
 v0:=Tryz.zeroValue0
 t3:=Tryz.underlying3
 a3:=Tryz.isAgg3
 z3:=Tryz.sizeOf3
 v3:=Tryz.zeroValue3
 t4:=Tryz.underlying4
 a4:=Tryz.isAgg4
 z4:=Tryz.sizeOf4
 v4:=Tryz.zeroValue4
 t5:=Tryz.underlying5
 a5:=Tryz.isAgg5
 z5:=Tryz.sizeOf5
 v5:=Tryz.zeroValue5
 t9:=Tryz.underlying9
 a9:=Tryz.isAgg9
 z9:=Tryz.sizeOf9
 v9:=Tryz.zeroValue9
 t22:=Tryz.underlying90
 a22:=Tryz.isAgg90
 z22:=Tryz.sizeOf90
 v22:=Tryz.zeroValue90
 t25:=Tryz.underlying139
 a25:=Tryz.isAgg139
 z25:=Tryz.sizeOf139
 v25:=Tryz.zeroValue139
 t39:=Tryz.underlying195
 a39:=Tryz.isAgg195
 z39:=Tryz.sizeOf195
 v39:=Tryz.zeroValue195
 t45:=Tryz.underlying249
 a45:=Tryz.isAgg249
 z45:=Tryz.sizeOf249
 v45:=Tryz.zeroValue249
 t46:=Tryz.underlying250
 a46:=Tryz.isAgg250
 z46:=Tryz.sizeOf250
 v46:=Tryz.zeroValue250
 t50:=Tryz.underlying254
 a50:=Tryz.isAgg254
 z50:=Tryz.sizeOf254
 v50:=Tryz.zeroValue254
 t53:=Tryz.underlying257
 a53:=Tryz.isAgg257
 z53:=Tryz.sizeOf257
 v53:=Tryz.zeroValue257
 t55:=Tryz.underlying259
 a55:=Tryz.isAgg259
 z55:=Tryz.sizeOf259
 v55:=Tryz.zeroValue259
 t66:=Tryz.underlying311
 a66:=Tryz.isAgg311
 z66:=Tryz.sizeOf311
 v66:=Tryz.zeroValue311
 t70:=Tryz.underlying315
 a70:=Tryz.isAgg315
 z70:=Tryz.sizeOf315
 v70:=Tryz.zeroValue315
 t76:=Tryz.underlying330
 a76:=Tryz.isAgg330
 z76:=Tryz.sizeOf330
 v76:=Tryz.zeroValue330
 t77:=Tryz.underlying212
 a77:=Tryz.isAgg212
 z77:=Tryz.sizeOf212
 v77:=Tryz.zeroValue212 }
theorem Tryz.sorts114:Go.Sx.SortsK Tryz.prog 72 3:={
 some:=fun m _ enc hk h1 cf hO g blk off cap d w eg hcmp hH hblk hsz=>AnyQ.slices_SortFunc Tryz.laysS114 3 Tryz.isAgg75 Tryz.sizeOf75 enc hk h1 cf hO g #[] blk off cap d w eg hcmp hH hblk hsz
 none:=fun p cap fv w=>AnyF.slices_SortFunc_none Tryz.laysS114 p cap fv w }
end Go.Proofs
namespace Go.Proofs.YtfkdpbklbegnlaaGreat
open Go Go.Sx
noncomputable abbrev ecC (h:Hal) (s:Stg) (b r v:Int) (p:Pth):List AV:=[.isl 1 (nl p.ss),I (delV p.sq v).1,I (delV p.sq v).2,I (enV h s p b r).1,I (enV h s p b r).2]
structure OutE (h:Hal) (s:Stg) (b r v:Int) (acc:List Pth) (m len:Nat) (els:List (List AV)):Prop where
 m:m=acc.length
 len:len=els.length
 els:els=acc.map (ecC h s b r v)
noncomputable abbrev rDe (v:Int):List AV->Option PRes:=famA (fun p:Pth=>pthE p=0) (fun p=>[p.av,I v]) (fun p=>⟨.tup [P2 (delV p.sq v).1 (delV p.sq v).2,I 0],[]⟩)
theorem Ygy {v:Int} (hv:spE v=0) {pt:PC} (hp:PCOK Tryz.prog pt):PCOK Tryz.prog (ins 36 (rDe v) pt):=Ya (fun p hq=>by
 have:=d38 p v
 have e:deE p v=0:=by unfold deE; rw [hq,hv]; rfl
 rw [e] at this
 exact this) hp
theorem Yei {p:Pth} {v:Int} (h:pthE p=0):rDe v [p.av,I v]=some ⟨.tup [P2 (delV p.sq v).1 (delV p.sq v).2,I 0],[]⟩ :=
 Zm (p:=fun p:Pth=>pthE p=0) (g:=fun p=>[p.av,I v]) (r:=fun p=>⟨.tup [P2 (delV p.sq v).1 (delV p.sq v).2,I 0],[]⟩) (k:=p) (fun j hj=>by
  simp only [Qs,and_true] at hj
  rw [Zwc hj]) h
noncomputable abbrev rCk:List AV->Option PRes:=famA (fun ns:List Int=>ns.length<100000) (fun ns=>[.isl 1 (nl ns)]) (fun ns=>⟨.isl 1 (nl ns),[]⟩)
theorem Ygz {pt:PC} (hp:PCOK Tryz.prog pt):PCOK Tryz.prog (ins 37 rCk pt):=Ya (fun ns hl=>by
 by_cases h0:0<ns.length
 ·exact (d103 h0 hl).freeze ⟨rfl,rfl,rfl⟩
 ·rw [Wb.1 (show ns.length=0 by omega)]; exact Yio) hp
theorem Yej {ns:List Int} (h:ns.length<100000):rCk [.isl 1 (nl ns)]=some ⟨.isl 1 (nl ns),[]⟩ :=
 Zm (p:=fun ns:List Int=>ns.length<100000) (g:=fun ns=>[.isl 1 (nl ns)]) (r:=fun ns=>⟨.isl 1 (nl ns),[]⟩) (k:=ns) (fun j hj=>by
  rw [Ze0 (AV.isl.inj (List.cons.inj hj).1).2]) h
noncomputable abbrev rEn (h:Hal) (s:Stg) (b r v:Int):List AV->Option PRes:=famA (fun p:Pth=>pthE p=0/\suE h p.ss=0) (fun p=>[.agg (stgL h s),p.av,P3 b r v]) (fun p=>⟨P2 (enV h s p b r).1 (enV h s p b r).2,[]⟩)
theorem Ygx {h:Hal} {s:Stg} {b r v:Int} (g:Sit h s) (z:serr h s=0) (hair:airE b r v=0) {pt:PC} (hp:PCOK Tryz.prog pt):PCOK Tryz.prog (ins 38 (rEn h s b r v) pt):=Ya (fun p hq=>d89 g z hq.1 hq.2 hair) hp
theorem Yeh {h:Hal} {s:Stg} {b r v:Int} {p:Pth} (h1:pthE p=0) (h2:suE h p.ss=0):rEn h s b r v [.agg (stgL h s),p.av,P3 b r v]=some ⟨P2 (enV h s p b r).1 (enV h s p b r).2,[]⟩ :=
 Zm (p:=fun p:Pth=>pthE p=0/\suE h p.ss=0) (g:=fun p=>[.agg (stgL h s),p.av,P3 b r v]) (r:=fun p=>⟨P2 (enV h s p b r).1 (enV h s p b r).2,[]⟩) (k:=p) (fun j hj=>by
  simp only [Qs,and_true,true_and] at hj
  rw [Zwc hj]) ⟨h1,h2⟩
theorem Yh6 {L:List Pth} {k:Nat} (hk:k<L.length):(L.map gcP)[((k:Nat):Int).toNat]?=some (gcP L[k]):=by simp [hk]
theorem frE5 {bl:List (Nat × List (List AV))} {e:Int}:Frz bl (.tup [.nils,I e]) (.tup [.isl 5 [],I e]):=⟨rfl,⟨rfl,rfl⟩,trivial⟩
abbrev sxK:FuncId->Bool:=fun f=>Qn f 31||Qn f 32
theorem e8 {h:Hal} (hk:h.ok) {s:Stg} (hs:s.few) (a:Ask) (he:askE h s a=0) (hn:a.n<3) {b r v:Int} (hair:airE b r v=0) :
  PCall Tryz.prog 8 [h.av,s.av,a.av,P3 b r v] ⟨.tup [.isl 5 ((refL (Yf h s (qF a) (qT a)) (nsN h) a.n.toNat).map (ecC h s b r v)),I 0],[]⟩:=by
 have A:=Xd he
 have e0:=A.e0
 have g:=Zdg hk hs e0
 have hN:=Zwn hk e0
 have c33:=d24 hk hs a
 rw [he] at c33
 have c34:=d88 b r v
 rw [hair] at c34
 have c35:=d55 hk hs Tryz.sorts114 a he hn (by omega)
 have hfa:=fun p hp=>Zdp hk hs he hn (p:=p) hp
 have hrl:=Zqd (Yf h s (qF a) (qT a)) hN (show a.n.toNat<=2 by omega)
 have hv:spE v=0:=by
  have:=(Zri hair).2.2
  unfold spE unl
  rw [within_iff.2 this]; rfl
 have hkA:=Ze c33 (Ze c34 (Ze c35 (Ygy hv (Ygz (Ygx g e0 hair Zb)))))
 generalize refL (Yf h s (qF a) (qT a)) (nsN h) a.n.toNat=L at *
 have hfa2:∀ p∈L,p.ss.length<=2/\pthE p=0/\suE h p.ss=0:=fun p hp=>by
  obtain ⟨f1,f2,f3,f4,f5⟩:=hfa p hp
  refine ⟨f3,?_,f2⟩
  unfold cpE at f5
  split at f5
  ·assumption
  ·exact f5
 clear hfa c33 c34 c35 A
 obtain ⟨fx,fy,fz,tx,ty,tz,n⟩:=a
 refine Lq (res:=if L=[] then ⟨.tup [.nils,I 0],[]⟩ else ⟨.tup [.asl 0 0 L.length,I 0],[(5,L.map (ecC h s b r v))]⟩) ?_ ?_
 rotate_left
 ·split<;>rename_i hre
  ·rw [hre]; exact frE5
  ·exact ⟨⟨rfl,rfl,by simp⟩,⟨rfl,rfl⟩,trivial⟩
 refine bs.pv (sx:=sxK) hkA Tryz.func8 (by kernel_rfl) (by kernel_rfl) (by split<;>rfl) ?_
 repeat'(first|refine wk3 ?_|(refine wk2 ?_ ?_<;>intro _)|refine wk4 ?_|fail);all_goals(conv=>whnf)
 refine bs.sv (sx:=sxK) hkA Tryz.func31 (by kernel_rfl) (by kernel_rfl) ?_
 repeat'(first|refine wk3 ?_|(refine wk2 ?_ ?_<;>intro _)|refine wk4 ?_|fail);all_goals(conv=>whnf)
 refine Tf 3 ?_
 refine Ra (bs.av (sx:=sxK) hkA ?_)
 repeat'(first|refine wk3 ?_|(refine wk2 ?_ ?_<;>intro _)|refine wk4 ?_|fail);all_goals(conv=>whnf)
 refine bs.sv (sx:=sxK) hkA Tryz.func32 (by kernel_rfl) (by kernel_rfl) ?_
 repeat'(first|refine wk3 ?_|(refine wk2 ?_ ?_<;>intro _)|refine wk4 ?_|fail);all_goals(conv=>whnf)
 refine Ra (bs.av (sx:=sxK) hkA ?_)
 repeat'(first|refine wk3 ?_|(refine wk2 ?_ ?_<;>intro _)|refine wk4 ?_|fail);all_goals(conv=>whnf)
 refine Ra (bs.av (sx:=sxK) hkA ?_)
 repeat'(first|refine wk3 ?_|(refine wk2 ?_ ?_<;>intro _)|refine wk4 ?_|fail);all_goals(conv=>whnf)
 ·exfalso
  rename_i q
  have:=of_decide_eq_true q
  rw [Rn] at this
  omega
 have hlm:(L.map gcP).length=L.length:=Rn _
 refine Yhj (S:=Nat × Int × Nat × Nat × List (List AV)) (fun t=>L.length-t.1)
  (fun t=>[(4,.ptr 0 0 0),(5,.ptr 1 0 0),(6,.ptr 2 0 0),(7,.ptr 3 0 0),(8,.nils),(9,I 0),(13,gv 20 t.2.2.1 t.2.2.2.1),(42,.isl 3 (L.map gcP)),(43,I (L.map gcP).length),(44,I t.2.1)])
  (fun t=>(3,.row 3 [[I b,I r,I v]] true false)::(2,.row 7 [[I fx,I fy,I fz,I tx,I ty,I tz,I n]] true false)::(1,.row 2 [s.cells] true false)::(0,.row 9 [h.cells] true false)::gz 20 5 t.2.2.1 t.2.2.2.2 []) 20 21
  (fun t=>t.2.1=t.1/\t.1<=L.length/\OutE h s b r v (L.take t.1) t.2.2.1 t.2.2.2.1 t.2.2.2.2)
  (0,0,0,0,[]) ⟨rfl,Qm _,⟨rfl,rfl,rfl⟩⟩ (Nat.le_of_ble_eq_true rfl) [] rfl (kps) (kps) ?_
 rintro ⟨i,ii,m,len,els⟩ ⟨hii,hin,hO⟩
 dsimp only at hii hin hO ⊢
 subst hii
 have hmb:els.length<=400:=by
  rw [hO.els,Rn,List.length_take]
  omega
 have hlen:=hO.len
 by_cases hlt:i<L.length
 rotate_left
 ·obtain rfl:i=L.length:=by omega
  rw [List.take_length] at hO
  obtain ⟨o1,o2,o3⟩:=hO
  cases m with
  | zero =>
   have hz:L=[]:=Wb.1 o1.symm
   rw [if_pos hz]
   refine bs.av (sx:=nos) hkA ?_
   repeat'(first|refine wk3 ?_|(refine wk2 ?_ ?_<;>intro _)|refine wk4 ?_|fail);all_goals(conv=>whnf)
   exact Zf rfl rfl
  | succ m0 =>
   rw [if_neg (by intro hz; rw [hz] at o1; cases o1)]
   rw [o3,Rn] at o2
   subst o2 o3
   refine bs.av (sx:=nos) hkA ?_
   repeat'(first|refine wk3 ?_|(refine wk2 ?_ ?_<;>intro _)|refine wk4 ?_|fail);all_goals(conv=>whnf)
   exact Xj [20] rfl rfl rfl
 have hmem:=Qq hlt
 have e1:=Yh6 hlt
 obtain ⟨u0,u1,u2⟩:=hfa2 _ hmem
 have hst:L.take (i+1)=L.take i++[L[i]]:=Qv hlt
 have c1:=Yei (v:=v) u1
 have c2:=Yej (ns:=L[i].ss) (by omega)
 have c3:=Yeh (s:=s) (b:=b) (r:=r) (v:=v) u1 u2
 have hO2:OutE h s b r v (L.take (i+1)) (m+1) (els.length+1) (els++[ecC h s b r v L[i]]):=by
  rw [hst]
  exact ⟨by rw [Sz,<-hO.m]; rfl,by simp,by rw [Pj,<-hO.els]; rfl⟩
 have hz0:m=0->els=[]:=fun hz=>by
  have:=hO.els
  rw [Wb.1 (hO.m.symm.trans hz)] at this
  exact this
 clear hO hst hfa2 hmem
 unfold ecC at hO2
 try dsimp only at hO2
 generalize enV h s L[i] b r=EN at *
 generalize delV L[i].sq v=DL at *
 generalize L[i]=p at *
 obtain ⟨ps,pp,pq⟩:=p
 obtain ⟨en1,en2⟩:=EN
 obtain ⟨dl1,dl2⟩:=DL
 dsimp only at *
 cases m with
 | zero =>
  obtain rfl:=hz0 rfl
  refine bs.av (sx:=nos) hkA ?_
  repeat'(first|refine wk3 ?_|(refine wk2 ?_ ?_<;>intro _)|refine wk4 ?_|fail);all_goals(conv=>whnf)
  exact Qo ⟨(i+1,_,1,1,_),[(20,38)],rfl,kps,kps,⟨Zg (by omega),hlt,hO2⟩,by dsimp only; omega⟩
 | succ m0 =>
  refine bs.av (sx:=nos) hkA ?_
  repeat'(first|refine wk3 ?_|(refine wk2 ?_ ?_<;>intro _)|refine wk4 ?_|fail);all_goals(conv=>whnf)
  refine Yf9 (ys:=[[.isl 1 (nl ps),I dl1,I dl2,I en1,I en2]]) rfl rfl rfl rfl rfl rfl rfl rfl rfl rfl (by simp) hlen (by simp only [Rr,List.length_nil]; omega) ?_
  repeat'(first|refine wk3 ?_|(refine wk2 ?_ ?_<;>intro _)|refine wk4 ?_|fail);all_goals(conv=>whnf)
  exact Qo ⟨(i+1,_,m0+1+1,els.length+1,_),[(20,38)],rfl,kps,kps,⟨Zg (by omega),hlt,hO2⟩,by dsimp only; omega⟩
end Go.Proofs.YtfkdpbklbegnlaaGreat
namespace Go.En
section
variable {n:Nat}
variable {rows:List (List Int)} {ls e:List Int}
end
end Go.En
namespace Go.En
structure Ech where
 su:List Int
 dl:Int
 dh:Int
 el:Int
 eh:Int
structure Ech.ok (x:Ech):Prop where
 d:0<=x.dl/\x.dl<=x.dh
 e:0<=x.el/\x.el<=x.eh
def upLo (t:Int):List Ech->Int
 | []=>0
 | x::l=>(if x.dh<=t then x.el else 0)+upLo t l
def upHi (t:Int):List Ech->Int
 | []=>0
 | x::l=>(if x.dl<=t then x.eh else 0)+upHi t l
end Go.En
namespace Go.En
def rgEc (lo hi most:Int):Int:=if (0<=lo/\lo<=most)/\(0<=hi/\hi<=most) then (if hi<lo then 9 else 0) else 2
def ecE (p:Option Int) (x:Ech):Int :=
 if rgEc x.dl x.dh 10000000=0 then (if rgEc x.el x.eh 1000000000000=0 then (match p with
  | some q=>if x.dl<q then 9 else 0
  | none=>0) else rgEc x.el x.eh 1000000000000) else rgEc x.dl x.dh 10000000
def ecGo:Nat->Option Int->List Ech->Int × Int
 | _,_,[]=>(0,0)
 | i,p,x::l=>if ecE p x=0 then ecGo (i+1) (some x.dl) l else (i,ecE p x)
def ecV (l:List Ech):Int × Int:=if 500<l.length then (0,8) else ecGo 0 none l
theorem Zr3 {lo hi most:Int} (h:rgEc lo hi most=0):0<=lo/\lo<=hi/\hi<=most:=by
 unfold rgEc at h
 split at h
 ·rename_i g
  split at h
  ·cases h
  ·omega
 ·cases h
theorem Ybl {p:Option Int} {x:Ech} (h:ecE p x=0):x.ok/\x.dh<=10000000/\x.eh<=1000000000000:=by
 unfold ecE at h
 split at h
 ·rename_i h1
  split at h
  ·rename_i h2
   have a:=Zr3 h1
   have b:=Zr3 h2
   exact ⟨⟨by omega,by omega⟩,by omega,by omega⟩
  ·rename_i h2; exact absurd h h2
 ·rename_i h1; exact absurd h h1
theorem Zpa:∀ {l:List Ech} {i:Nat} {p:Option Int},(ecGo i p l).2=0->∀ x∈l,x.ok/\x.dh<=10000000/\x.eh<=1000000000000
 | [],_,_,_,x,hx=>by simp at hx
 | y::l,i,p,h,x,hx=>by
  rw [ecGo] at h
  split at h
  ·rename_i h1
   rcases Rf.1 hx with rfl|hx
   ·exact Ybl h1
   ·exact Zpa h x hx
  ·rename_i h1; exact absurd h h1
theorem Zs0 {l:List Ech} (h:(ecV l).2=0):l.length<=500/\∀ x∈l,x.ok/\x.dh<=10000000/\x.eh<=1000000000000:=by
 unfold ecV at h
 split at h
 ·cases h
 ·exact ⟨by omega,Zpa h⟩
theorem Zvf {t:Int}:∀ {l:List Ech},(∀ x∈l,x.ok/\x.dh<=10000000/\x.eh<=1000000000000)->0<=upLo t l/\upLo t l<=1000000000000*l.length
 | [],_=>by simp [upLo]
 | x::l,h=>by
  have ih:=Zvf (t:=t) (l:=l) fun y hy=>h y (by simp [hy])
  obtain ⟨h1,h2,h3⟩:=h x (by simp)
  have:=h1.e
  simp only [upLo,Rr]
  split<;>omega
theorem Zvh {t:Int}:∀ {l:List Ech},(∀ x∈l,x.ok/\x.dh<=10000000/\x.eh<=1000000000000)->0<=upHi t l/\upHi t l<=1000000000000*l.length
 | [],_=>by simp [upHi]
 | x::l,h=>by
  have ih:=Zvh (t:=t) (l:=l) fun y hy=>h y (by simp [hy])
  obtain ⟨h1,h2,h3⟩:=h x (by simp)
  have:=h1.e
  simp only [upHi,Rr]
  split<;>omega
def shr (n:Int):Bool:=decide (0<=n)&&decide (n<=1000)
end Go.En
namespace Go.Proofs.YtfkdpbklbegnlaaGreat
open Go Go.Sx Go.En
theorem d101 (n lo hi:Int):PCall Tryz.prog 68 [I n,I lo,I hi] ⟨Bo (within n lo hi),[]⟩:=by
 refine bs.pv (sx:=nos) Zb Tryz.func68 (by kernel_rfl) (by kernel_rfl) rfl ?_
 repeat'(first|refine wk0 ?_|(refine wk2 ?_ ?_<;>intro _)|refine wk4 ?_|fail);all_goals(conv=>whnf)
 all_goals exact Zd (by simp_all [within]<;>omega)
theorem Yjl (b:Bool) (e:Int):PCall Tryz.prog 52 [Bo b,I e] ⟨I (unl b e),[]⟩:=by
 refine bs.pv (sx:=nos) Zb Tryz.func52 (by kernel_rfl) (by kernel_rfl) rfl ?_
 repeat'(first|refine wk0 ?_|(refine wk2 ?_ ?_<;>intro _)|refine wk4 ?_|fail);all_goals(conv=>whnf)
 all_goals exact Za (by simp_all [unl])
def rW:List AV->Option PRes
 | [.int .i64 n,.int .i64 lo,.int .i64 hi]=>some ⟨Bo (within n lo hi),[]⟩
 | _=>none
def rU:List AV->Option PRes
 | [.bool b,.int .i64 e]=>some ⟨I (unl b e),[]⟩
 | _=>none
def kY1:PC:=ins 16 rW (ins 68 rW (ins 52 rU pt0))
theorem Ycp:PCOK Tryz.prog kY1:=by
 refine Zh (fun a res h=>?_) (Zh (fun a res h=>?_) (Zh (fun a res h=>?_) Zb))
 ·unfold rW at h; split at h<;>cases h; exact c30 _ _ _
 ·unfold rW at h; split at h<;>cases h; exact d101 _ _ _
 ·unfold rU at h; split at h<;>cases h; exact Yjl _ _
theorem Ygt (lo hi most:Int):rgEc lo hi most=if within lo 0 most&&within hi 0 most then (if hi<lo then 9 else 0) else 2:=by
 unfold rgEc
 by_cases h:(within lo 0 most&&within hi 0 most)=true
 ·rw [if_pos h]
  simp only [Qc,within_iff] at h
  rw [if_pos h]
 ·rw [if_neg h]
  simp only [Qc,within_iff] at h
  rw [if_neg h]
theorem Yjh (lo hi most:Int):PCall Tryz.prog 49 [P2 lo hi,I most] ⟨I (rgEc lo hi most),[]⟩:=by
 rw [Ygt]
 refine bs.pv (sx:=nos) Ycp Tryz.func49 (by kernel_rfl) (by kernel_rfl) rfl ?_
 repeat'(first|refine wk0 ?_|(refine wk2 ?_ ?_<;>intro _)|refine wk4 ?_|fail);all_goals(conv=>whnf)
 all_goals exact Za (by simp_all<;>omega)
def rG:List AV->Option PRes
 | [.agg [.int .i64 lo,.int .i64 hi],.int .i64 m]=>some ⟨I (rgEc lo hi m),[]⟩
 | _=>none
def kY2:PC:=ins 49 rG kY1
theorem Zr:PCOK Tryz.prog kY2:=by
 refine Zh (fun a res h=>?_) Ycp
 unfold rG at h; split at h<;>cases h; exact Yjh _ _ _
abbrev ev (x:Ech):List AV:=[.isl 1 (nl x.su),I x.dl,I x.dh,I x.el,I x.eh]
theorem Zj1 (l:List Ech):(l.map ev).length=l.length:=by simp
theorem Zsy {l:List Ech} {k:Nat} (h:k<l.length):(l.map ev)[((k:Nat):Int).toNat]?=some (ev l[k]):=by simp [h]
def Yal (l:List Ech):Nat->Option Int
 | 0=>none
 | k+1=>(l[k]?).map (·.dl)
abbrev sxE:FuncId->Bool:=fun f=>Qn f 31||(Qn f 48||(Qn f 50||Qn f 51))
theorem d51 {l:List Ech} (hl:l.length<100000):PCall Tryz.prog 15 [.isl 5 (l.map ev)] ⟨.tup [I (ecV l).1,I (ecV l).2],[]⟩:=by
 have l1:=Zj1 l
 unfold ecV
 by_cases hbig:500<l.length
 ·rw [if_pos hbig]
  refine bs.pv (sx:=nos) Zr Tryz.func15 (by kernel_rfl) (by kernel_rfl) rfl ?_
  repeat'(first|refine wk3 ?_|(refine wk2 ?_ ?_<;>intro _)|refine wk4 ?_|fail);all_goals(conv=>whnf)
  exact Zf rfl rfl
 ·rw [if_neg hbig]
  refine bs.pv (sx:=sxE) Zr Tryz.func15 (by kernel_rfl) (by kernel_rfl) rfl ?_
  repeat'(first|refine wk3 ?_|(refine wk2 ?_ ?_<;>intro _)|refine wk4 ?_|fail);all_goals(conv=>whnf)
  refine Zt (S:=Nat × Int) (fun t=>l.length-t.1) (fun t=>[(1,.ptr 0 0 0),(10,.isl 5 (l.map ev)),(11,I (l.map ev).length),(12,I t.2)]) (fun _=>[(0,.row 1 [[.isl 5 (l.map ev)]] true false)]) 1 1 (fun t=>t.2=t.1/\t.1<=l.length/\ecGo t.1 (Yal l t.1) (l.drop t.1)=ecGo 0 none l) (0,0) ⟨rfl,Qm _,rfl⟩ (Qd _) [] rfl (kps) (kps) ?_
  rintro ⟨k,i⟩ ⟨hi,hk,hh⟩
  dsimp only at hi hk hh ⊢
  subst hi
  generalize ecGo 0 none l=R at *
  refine bs.av (sx:=sxE) Zr ?_
  by_cases hlt:k<l.length
  ·have e1:=Zsy hlt
   have hp:Yal l (k+1)=some l[k].dl:=by show (l[k]?).map (·.dl)=_; rw [Qf hlt]; rfl
   rw [Qi hlt,ecGo,<-hp] at hh
   clear hp
   generalize hx:l[k]=x at *
   unfold ecE at hh
   cases k with
   | zero =>
    rw [show Yal l 0=none from rfl] at hh
    by_cases z1:rgEc x.dl x.dh 10000000=0
    ·by_cases z2:rgEc x.el x.eh 1000000000000=0
     ·rw [if_pos z1,if_pos z2] at hh
      repeat'(first|refine wk3 ?_|(refine wk2 ?_ ?_<;>intro _)|refine wk4 ?_|fail);all_goals(conv=>whnf)
      refine bs.sv (sx:=sxE) Zr Tryz.func31 (by kernel_rfl) (by kernel_rfl) ?_
      repeat'(first|refine wk3 ?_|(refine wk2 ?_ ?_<;>intro _)|refine wk4 ?_|fail);all_goals(conv=>whnf)
      refine Tf 4 ?_
      refine Ra (bs.av (sx:=sxE) Zr ?_)
      repeat'(first|refine wk3 ?_|(refine wk2 ?_ ?_<;>intro _)|refine wk4 ?_|fail);all_goals(conv=>whnf)
      refine bs.sv (sx:=sxE) Zr Tryz.func48 (by kernel_rfl) (by kernel_rfl) ?_
      repeat'(first|refine wk3 ?_|(refine wk2 ?_ ?_<;>intro _)|refine wk4 ?_|fail);all_goals(conv=>whnf)
      refine Ra (bs.av (sx:=sxE) Zr ?_)
      repeat'(first|refine wk3 ?_|(refine wk2 ?_ ?_<;>intro _)|refine wk4 ?_|fail);all_goals(conv=>whnf)
      refine bs.sv (sx:=sxE) Zr Tryz.func50 (by kernel_rfl) (by kernel_rfl) ?_
      repeat'(first|refine wk3 ?_|(refine wk2 ?_ ?_<;>intro _)|refine wk4 ?_|fail);all_goals(conv=>whnf)
      refine Ra (bs.av (sx:=sxE) Zr ?_)
      repeat'(first|refine wk3 ?_|(refine wk2 ?_ ?_<;>intro _)|refine wk4 ?_|fail);all_goals(conv=>whnf)
      refine bs.sv (sx:=sxE) Zr Tryz.func51 (by kernel_rfl) (by kernel_rfl) ?_
      repeat'(first|refine wk3 ?_|(refine wk2 ?_ ?_<;>intro _)|refine wk4 ?_|fail);all_goals(conv=>whnf)
      all_goals try (refine Ra (bs.av (sx:=sxE) Zr ?_))
      repeat'(first|refine wk3 ?_|(refine wk2 ?_ ?_<;>intro _)|refine wk4 ?_|fail);all_goals(conv=>whnf)
      clear e1
      all_goals first
       | (exfalso; clear hh; simp_all [unl]; done)
       | (exfalso; clear hh; simp_all [unl]; omega)
       | (refine Zf ?_ rfl; rw [<-hh]; clear hh; simp_all [unl]; done)
       | exact Qo ⟨(0+1,_),[],rfl,kps,kps,⟨Zg (k:=0) (by omega),hlt,by rw [<-hh]; clear hh; simp_all [unl]⟩,by dsimp only; omega⟩
     ·rw [if_pos z1,if_neg z2] at hh
      repeat'(first|refine wk3 ?_|(refine wk2 ?_ ?_<;>intro _)|refine wk4 ?_|fail);all_goals(conv=>whnf)
      refine bs.sv (sx:=sxE) Zr Tryz.func31 (by kernel_rfl) (by kernel_rfl) ?_
      repeat'(first|refine wk3 ?_|(refine wk2 ?_ ?_<;>intro _)|refine wk4 ?_|fail);all_goals(conv=>whnf)
      refine Tf 4 ?_
      refine Ra (bs.av (sx:=sxE) Zr ?_)
      repeat'(first|refine wk3 ?_|(refine wk2 ?_ ?_<;>intro _)|refine wk4 ?_|fail);all_goals(conv=>whnf)
      refine bs.sv (sx:=sxE) Zr Tryz.func48 (by kernel_rfl) (by kernel_rfl) ?_
      repeat'(first|refine wk3 ?_|(refine wk2 ?_ ?_<;>intro _)|refine wk4 ?_|fail);all_goals(conv=>whnf)
      refine Ra (bs.av (sx:=sxE) Zr ?_)
      repeat'(first|refine wk3 ?_|(refine wk2 ?_ ?_<;>intro _)|refine wk4 ?_|fail);all_goals(conv=>whnf)
      refine bs.sv (sx:=sxE) Zr Tryz.func50 (by kernel_rfl) (by kernel_rfl) ?_
      repeat'(first|refine wk3 ?_|(refine wk2 ?_ ?_<;>intro _)|refine wk4 ?_|fail);all_goals(conv=>whnf)
      clear e1
      all_goals first
       | (exfalso; clear hh; simp_all [unl]; done)
       | (exfalso; clear hh; simp_all [unl]; omega)
       | (refine Zf ?_ rfl; rw [<-hh]; clear hh; simp_all [unl]; done)
       | exact Qo ⟨(0+1,_),[],rfl,kps,kps,⟨Zg (k:=0) (by omega),hlt,by rw [<-hh]; clear hh; simp_all [unl]⟩,by dsimp only; omega⟩
    ·rw [if_neg z1] at hh
     repeat'(first|refine wk3 ?_|(refine wk2 ?_ ?_<;>intro _)|refine wk4 ?_|fail);all_goals(conv=>whnf)
     refine bs.sv (sx:=sxE) Zr Tryz.func31 (by kernel_rfl) (by kernel_rfl) ?_
     repeat'(first|refine wk3 ?_|(refine wk2 ?_ ?_<;>intro _)|refine wk4 ?_|fail);all_goals(conv=>whnf)
     refine Tf 4 ?_
     refine Ra (bs.av (sx:=sxE) Zr ?_)
     repeat'(first|refine wk3 ?_|(refine wk2 ?_ ?_<;>intro _)|refine wk4 ?_|fail);all_goals(conv=>whnf)
     refine bs.sv (sx:=sxE) Zr Tryz.func48 (by kernel_rfl) (by kernel_rfl) ?_
     repeat'(first|refine wk3 ?_|(refine wk2 ?_ ?_<;>intro _)|refine wk4 ?_|fail);all_goals(conv=>whnf)
     clear e1
     all_goals first
      | (exfalso; clear hh; simp_all [unl]; done)
      | (exfalso; clear hh; simp_all [unl]; omega)
      | (refine Zf ?_ rfl; rw [<-hh]; clear hh; simp_all [unl]; done)
      | exact Qo ⟨(0+1,_),[],rfl,kps,kps,⟨Zg (k:=0) (by omega),hlt,by rw [<-hh]; clear hh; simp_all [unl]⟩,by dsimp only; omega⟩
   | succ k =>
    have hk2:k<l.length:=by omega
    have e6:Qa Qb (((k+1:Nat):Int)-1)=(k:Int):=by rw [W_eq (by omega) (by omega)]; omega
    have e7:(l.map ev)[(Qa Qb (((k+1:Nat):Int)-1)).toNat]?=some (ev l[k]):=by rw [e6]; exact Zsy hk2
    have e8:Yal l (k+1)=some l[k].dl:=by show (l[k]?).map (·.dl)=_; rw [Qf hk2]; rfl
    rw [e8] at hh
    clear e8
    generalize l[k]=y at *
    by_cases z1:rgEc x.dl x.dh 10000000=0
    ·by_cases z2:rgEc x.el x.eh 1000000000000=0
     ·rw [if_pos z1,if_pos z2] at hh
      by_cases z3:x.dl<y.dl
      ·have z4:decide (y.dl<=x.dl)=false:=by simp; omega
       simp only [if_pos z3] at hh
       repeat'(first|refine wk3 ?_|(refine wk2 ?_ ?_<;>intro _)|refine wk4 ?_|fail);all_goals(conv=>whnf)
       refine bs.sv (sx:=sxE) Zr Tryz.func31 (by kernel_rfl) (by kernel_rfl) ?_
       repeat'(first|refine wk3 ?_|(refine wk2 ?_ ?_<;>intro _)|refine wk4 ?_|fail);all_goals(conv=>whnf)
       refine Tf 4 ?_
       refine Ra (bs.av (sx:=sxE) Zr ?_)
       repeat'(first|refine wk3 ?_|(refine wk2 ?_ ?_<;>intro _)|refine wk4 ?_|fail);all_goals(conv=>whnf)
       refine bs.sv (sx:=sxE) Zr Tryz.func48 (by kernel_rfl) (by kernel_rfl) ?_
       repeat'(first|refine wk3 ?_|(refine wk2 ?_ ?_<;>intro _)|refine wk4 ?_|fail);all_goals(conv=>whnf)
       refine Ra (bs.av (sx:=sxE) Zr ?_)
       repeat'(first|refine wk3 ?_|(refine wk2 ?_ ?_<;>intro _)|refine wk4 ?_|fail);all_goals(conv=>whnf)
       refine bs.sv (sx:=sxE) Zr Tryz.func50 (by kernel_rfl) (by kernel_rfl) ?_
       repeat'(first|refine wk3 ?_|(refine wk2 ?_ ?_<;>intro _)|refine wk4 ?_|fail);all_goals(conv=>whnf)
       refine Ra (bs.av (sx:=sxE) Zr ?_)
       repeat'(first|refine wk3 ?_|(refine wk2 ?_ ?_<;>intro _)|refine wk4 ?_|fail);all_goals(conv=>whnf)
       refine bs.sv (sx:=sxE) Zr Tryz.func51 (by kernel_rfl) (by kernel_rfl) ?_
       repeat'(first|refine wk3 ?_|(refine wk2 ?_ ?_<;>intro _)|refine wk4 ?_|fail);all_goals(conv=>whnf)
       all_goals try (refine Ra (bs.av (sx:=sxE) Zr ?_))
       repeat'(first|refine wk3 ?_|(refine wk2 ?_ ?_<;>intro _)|refine wk4 ?_|fail);all_goals(conv=>whnf)
       clear e1 e6 e7
       all_goals first
        | (exfalso; rename_i q; simp [unl,z4] at q; done)
        | (exfalso; rename_i q1 q2; simp [unl,z4] at q1; done)
        | (refine Zf ?_ rfl; rw [<-hh]; clear hh; simp [unl,z4]; done)
        | (exfalso; clear hh; simp_all [unl]; done)
        | (exfalso; clear hh; simp_all [unl]; omega)
        | (refine Zf ?_ rfl; rw [<-hh]; clear hh; simp_all [unl]; done)
        | exact Qo ⟨((k+1)+1,_),[],rfl,kps,kps,⟨Zg (k:=(k+1)) (by omega),hlt,by rw [<-hh]; clear hh; simp_all [unl]⟩,by dsimp only; omega⟩
      ·have z4:decide (y.dl<=x.dl)=true:=by simp; omega
       simp only [if_neg z3] at hh
       repeat'(first|refine wk3 ?_|(refine wk2 ?_ ?_<;>intro _)|refine wk4 ?_|fail);all_goals(conv=>whnf)
       refine bs.sv (sx:=sxE) Zr Tryz.func31 (by kernel_rfl) (by kernel_rfl) ?_
       repeat'(first|refine wk3 ?_|(refine wk2 ?_ ?_<;>intro _)|refine wk4 ?_|fail);all_goals(conv=>whnf)
       refine Tf 4 ?_
       refine Ra (bs.av (sx:=sxE) Zr ?_)
       repeat'(first|refine wk3 ?_|(refine wk2 ?_ ?_<;>intro _)|refine wk4 ?_|fail);all_goals(conv=>whnf)
       refine bs.sv (sx:=sxE) Zr Tryz.func48 (by kernel_rfl) (by kernel_rfl) ?_
       repeat'(first|refine wk3 ?_|(refine wk2 ?_ ?_<;>intro _)|refine wk4 ?_|fail);all_goals(conv=>whnf)
       refine Ra (bs.av (sx:=sxE) Zr ?_)
       repeat'(first|refine wk3 ?_|(refine wk2 ?_ ?_<;>intro _)|refine wk4 ?_|fail);all_goals(conv=>whnf)
       refine bs.sv (sx:=sxE) Zr Tryz.func50 (by kernel_rfl) (by kernel_rfl) ?_
       repeat'(first|refine wk3 ?_|(refine wk2 ?_ ?_<;>intro _)|refine wk4 ?_|fail);all_goals(conv=>whnf)
       refine Ra (bs.av (sx:=sxE) Zr ?_)
       repeat'(first|refine wk3 ?_|(refine wk2 ?_ ?_<;>intro _)|refine wk4 ?_|fail);all_goals(conv=>whnf)
       refine bs.sv (sx:=sxE) Zr Tryz.func51 (by kernel_rfl) (by kernel_rfl) ?_
       repeat'(first|refine wk3 ?_|(refine wk2 ?_ ?_<;>intro _)|refine wk4 ?_|fail);all_goals(conv=>whnf)
       all_goals try (refine Ra (bs.av (sx:=sxE) Zr ?_))
       repeat'(first|refine wk3 ?_|(refine wk2 ?_ ?_<;>intro _)|refine wk4 ?_|fail);all_goals(conv=>whnf)
       clear e1 e6 e7
       all_goals first
        | (exfalso; rename_i q; simp [unl,z4] at q; done)
        | (exfalso; rename_i q1 q2; simp [unl,z4] at q1; done)
        | (refine Zf ?_ rfl; rw [<-hh]; clear hh; simp [unl,z4]; done)
        | (exfalso; clear hh; simp_all [unl]; done)
        | (exfalso; clear hh; simp_all [unl]; omega)
        | (refine Zf ?_ rfl; rw [<-hh]; clear hh; simp_all [unl]; done)
        | exact Qo ⟨((k+1)+1,_),[],rfl,kps,kps,⟨Zg (k:=(k+1)) (by omega),hlt,by rw [<-hh]; clear hh; simp_all [unl]⟩,by dsimp only; omega⟩
     ·rw [if_pos z1,if_neg z2] at hh
      repeat'(first|refine wk3 ?_|(refine wk2 ?_ ?_<;>intro _)|refine wk4 ?_|fail);all_goals(conv=>whnf)
      refine bs.sv (sx:=sxE) Zr Tryz.func31 (by kernel_rfl) (by kernel_rfl) ?_
      repeat'(first|refine wk3 ?_|(refine wk2 ?_ ?_<;>intro _)|refine wk4 ?_|fail);all_goals(conv=>whnf)
      refine Tf 4 ?_
      refine Ra (bs.av (sx:=sxE) Zr ?_)
      repeat'(first|refine wk3 ?_|(refine wk2 ?_ ?_<;>intro _)|refine wk4 ?_|fail);all_goals(conv=>whnf)
      refine bs.sv (sx:=sxE) Zr Tryz.func48 (by kernel_rfl) (by kernel_rfl) ?_
      repeat'(first|refine wk3 ?_|(refine wk2 ?_ ?_<;>intro _)|refine wk4 ?_|fail);all_goals(conv=>whnf)
      refine Ra (bs.av (sx:=sxE) Zr ?_)
      repeat'(first|refine wk3 ?_|(refine wk2 ?_ ?_<;>intro _)|refine wk4 ?_|fail);all_goals(conv=>whnf)
      refine bs.sv (sx:=sxE) Zr Tryz.func50 (by kernel_rfl) (by kernel_rfl) ?_
      repeat'(first|refine wk3 ?_|(refine wk2 ?_ ?_<;>intro _)|refine wk4 ?_|fail);all_goals(conv=>whnf)
      clear e1
      all_goals first
       | (exfalso; clear hh; simp_all [unl]; done)
       | (exfalso; clear hh; simp_all [unl]; omega)
       | (refine Zf ?_ rfl; rw [<-hh]; clear hh; simp_all [unl]; done)
       | exact Qo ⟨((k+1)+1,_),[],rfl,kps,kps,⟨Zg (k:=(k+1)) (by omega),hlt,by rw [<-hh]; clear hh; simp_all [unl]⟩,by dsimp only; omega⟩
    ·rw [if_neg z1] at hh
     repeat'(first|refine wk3 ?_|(refine wk2 ?_ ?_<;>intro _)|refine wk4 ?_|fail);all_goals(conv=>whnf)
     refine bs.sv (sx:=sxE) Zr Tryz.func31 (by kernel_rfl) (by kernel_rfl) ?_
     repeat'(first|refine wk3 ?_|(refine wk2 ?_ ?_<;>intro _)|refine wk4 ?_|fail);all_goals(conv=>whnf)
     refine Tf 4 ?_
     refine Ra (bs.av (sx:=sxE) Zr ?_)
     repeat'(first|refine wk3 ?_|(refine wk2 ?_ ?_<;>intro _)|refine wk4 ?_|fail);all_goals(conv=>whnf)
     refine bs.sv (sx:=sxE) Zr Tryz.func48 (by kernel_rfl) (by kernel_rfl) ?_
     repeat'(first|refine wk3 ?_|(refine wk2 ?_ ?_<;>intro _)|refine wk4 ?_|fail);all_goals(conv=>whnf)
     clear e1
     all_goals first
      | (exfalso; clear hh; simp_all [unl]; done)
      | (exfalso; clear hh; simp_all [unl]; omega)
      | (refine Zf ?_ rfl; rw [<-hh]; clear hh; simp_all [unl]; done)
      | exact Qo ⟨((k+1)+1,_),[],rfl,kps,kps,⟨Zg (k:=(k+1)) (by omega),hlt,by rw [<-hh]; clear hh; simp_all [unl]⟩,by dsimp only; omega⟩
  ·rw [Qk (by omega),ecGo] at hh
   subst hh
   repeat'(first|refine wk3 ?_|(refine wk2 ?_ ?_<;>intro _)|refine wk4 ?_|fail);all_goals(conv=>whnf)
   exact Zf rfl rfl
open Go Go.Sx
noncomputable abbrev r58:List AV->Option PRes:=famA (fun q:List Int × List Int=>q.1.length<1000000/\q.2.length<1000000) (fun q=>[.isl 1 (nl q.1),.isl 1 (nl q.2)]) (fun q=>⟨Bo (eqN q.1 q.2),[]⟩)
theorem Yg5 {pt:PC} (hp:PCOK Tryz.prog pt):PCOK Tryz.prog (ins 21 r58 pt):=Ya (fun q hq=>c69 hq.1 hq.2) hp
theorem Yek {a b:List Int} (h1:a.length<1000000) (h2:b.length<1000000):r58 [.isl 1 (nl a),.isl 1 (nl b)]=some ⟨Bo (eqN a b),[]⟩ :=
 Zm (p:=fun q:List Int × List Int=>q.1.length<1000000/\q.2.length<1000000) (g:=fun q=>[.isl 1 (nl q.1),.isl 1 (nl q.2)]) (r:=fun q=>⟨Bo (eqN q.1 q.2),[]⟩) (k:=(a,b)) (fun j hj=>by
  simp only [Qs,Wa,true_and,and_true] at hj
  rw [Ze0 hj.1,Ze0 hj.2]) ⟨h1,h2⟩
open Go Go.Sx Go.En
noncomputable abbrev ecO (h:Hal) (s:Stg) (b r v:Int) (p:Pth):Ech:=⟨p.ss,(delV p.sq v).1,(delV p.sq v).2,(enV h s p b r).1,(enV h s p b r).2⟩
theorem Yin {h:Hal} {s:Stg} {b r v:Int} (L:List Pth):L.map (ecC h s b r v)=(L.map (ecO h s b r v)).map ev:=by rw [List.map_map]; rfl
theorem Ya0 {a b:Int} (h0:0<=a) (h:a<=b):isq a<=isq b:=by
 obtain ⟨a0,a1,_⟩:=Zeh h0
 obtain ⟨b0,_,b2⟩:=Zeh (show 0<=b by omega)
 rcases Ow (isq b) (isq a) with q|q
 ·have:(isq b+1)*(isq b+1)<=isq a*isq a:=Ok (by omega) (by omega) (by omega) (by omega)
  omega
 ·exact q
theorem Zyo {a b v:Int} (h0:0<=a) (h:a<=b) (hv:0<v):(delV a v).1<=(delV b v).1:=by
 unfold delV scV lenV
 dsimp only
 have:=Ya0 (a:=a*100000000) (b:=b*100000000) (by omega) (by omega)
 exact Int.ediv_le_ediv hv (by omega)
theorem Ycx {a:Int} (ha:0<=a/\a<=1000000):∀ (n:Nat) {x:Int},0<=x->x<=1000000000000->itN (fun x=>(x*(1000000-a)+1000000-1) / 1000000) n x<=1000000000000
 | 0,_,_,h=>h
 | n+1,x,h0,h=>by
  have m1:0<=x*(1000000-a):=Qu h0 (by omega)
  have m2:x*(1000000-a)<=1000000000000*1000000:=Ok h (by omega) (by omega) (by omega)
  exact Ycx ha n (show 0<=(x*(1000000-a)+1000000-1) / 1000000 by omega) (show (x*(1000000-a)+1000000-1) / 1000000<=1000000000000 by omega)
theorem Yda {h:Hal} {s:Stg} (g:Sit h s) {b:Int}:∀ {l:List Int} {e:Int × Int},(∀ n∈l,SK h n)->EB e->EB (enL h s b l e)
 | [],_,_,he=>he
 | n::l,e,hl,he=>by
  rw [enL]
  exact Yda g (fun m hm=>hl m (Wd _ hm)) (Ycm g (b:=b) (hl n Pr) he)
theorem Yil {h:Hal} {s:Stg} (g:Sit h s) {p:Pth} {a b:Int} (hp:pthE p=0) (hl:∀ n∈p.ss,SK h n) (ha:0<=a/\a<=100000) :
  0<=(enV h s p b a).1/\(enV h s p b a).1<=(enV h s p b a).2/\(enV h s p b a).2<=1000000000000:=by
 have hm:=(Ybg g (a:=a) (b:=b) hp hl ha).1.1
 obtain ⟨_,h0,h1⟩:=Zay hp
 have E:=Yda g (b:=b) hl (Zye h0 h1)
 refine ⟨?_,hm,?_⟩
 ·unfold enV enZ
  exact (En.it_dn (q:=1000000-a) (by omega) (fun n x=>itN (fun x=>x*(1000000-a) / 1000000) n x) (fun _=>rfl) (fun _ _=>rfl) _ E.a.1).2
 ·unfold enV enZ
  exact Ycx ⟨ha.1,by omega⟩ _ E.b.1 E.b.2
theorem Ycd {lo hi most:Int} (h:0<=lo/\lo<=hi/\hi<=most):En.rgEc lo hi most=0:=by
 unfold En.rgEc
 rw [if_pos ⟨⟨by omega,by omega⟩,by omega,by omega⟩,if_neg (by omega)]
theorem Zyi:∀ {l:List Ech} {i:Nat} {q:Option Int},(∀ x∈l,(0<=x.dl/\x.dl<=x.dh/\x.dh<=10000000)/\0<=x.el/\x.el<=x.eh/\x.eh<=1000000000000) ->
  (∀ y∈q,∀ x∈l,y<=x.dl)->l.Pairwise (fun a b=>a.dl<=b.dl)->ecGo i q l=(0,0)
 | [],_,_,_,_,_=>rfl
 | x::l,i,q,h1,h2,h3=>by
  have e:ecE q x=0:=by
   obtain ⟨g1,g2⟩:=h1 x Pr
   unfold ecE
   rw [if_pos (Ycd g1),if_pos (Ycd g2)]
   cases q with
   | none=>rfl
   | some y =>
    have:=h2 y rfl x Pr
    exact if_neg (by omega)
  rw [ecGo,if_pos e]
  rw [List.pairwise_cons] at h3
  exact Zyi (fun y hy=>h1 y (Wd _ hy)) (fun y hy z hz=>by cases hy; exact h3.1 z hz) h3.2
theorem Ydb {h:Hal} (hk:h.ok) {s:Stg} (hs:s.few) {a:Ask} (he:askE h s a=0) (hn:a.n<3) {b r v:Int} (hair:airE b r v=0) :
  ecV ((refL (Yf h s (qF a) (qT a)) (nsN h) a.n.toNat).map (ecO h s b r v))=(0,0):=by
 have A:=Xd he
 have e0:=A.e0
 have g:=Zdg hk hs e0
 have hN:=Zwn hk e0
 have hfa:=fun p hp=>Zdp hk hs he hn (p:=p) hp
 have hrl:=Zqd (Yf h s (qF a) (qT a)) hN (show a.n.toNat<=2 by have:=A.n; omega)
 have hsrt:=Zja (Yf h s (qF a) (qT a)) (nsN h) a.n.toNat
 obtain ⟨_,ha,hv1,hv2⟩:=Zri hair
 have hv:spE v=0:=by
  unfold spE unl
  rw [within_iff.2 ⟨hv1,hv2⟩]; rfl
 generalize refL (Yf h s (qF a) (qT a)) (nsN h) a.n.toNat=L at *
 have hfa2:∀ p∈L,pthE p=0/\∀ n∈p.ss,SK h n:=fun p hp=>by
  obtain ⟨f1,f2,f3,f4,f5⟩:=hfa p hp
  refine ⟨?_,fun n hn=>?_⟩
  ·unfold cpE at f5
   split at f5
   ·assumption
   ·exact f5
  ·have:=(Zl4 f2).2 n hn
   exact Zi2 this.1 (by omega)
 unfold ecV
 rw [if_neg (by rw [Rn]; omega)]
 refine Zyi (fun x hx=>?_) (fun y hy=>by cases hy) ?_
 ·obtain ⟨p,hp,rfl⟩:=Wm.1 hx
  obtain ⟨h1,h2⟩:=hfa2 p hp
  obtain ⟨_,s0,s1⟩:=Zay h1
  have d:=Yfz s0 s1 hv
  exact ⟨⟨d.1,d.2.1,by show (delV p.sq v).2<=10000000; omega⟩,Yil g h1 h2 ha⟩
 ·rw [Dp]
  refine hsrt.imp_of_mem fun {p q} hp hq o=>?_
  obtain ⟨_,s0,_⟩:=Zay (hfa2 p hp).1
  exact Zyo (by omega) (Yep o) (by omega)
def upF (t:Int):Int->Int->List Ech->Int × Int
 | a,b,[]=>(a,b)
 | a,b,x::l=>upF t (if x.dh<=t then Qa Qb (a+x.el) else a) (if x.dl<=t then Qa Qb (b+x.eh) else b) l
theorem Zsx {a b:List Ech} (h:a.map ev=b.map ev):a=b:=by
 refine List.map_inj_right (fun x y hxy=>?_) |>.1 h
 obtain ⟨s,d,e,f,g⟩:=x
 obtain ⟨s',d',e',f',g'⟩:=y
 simp only [ev,Qs,Wa,Sn,true_and,and_true] at hxy
 obtain ⟨h1,rfl,rfl,rfl,rfl⟩:=hxy
 rw [Ze0 h1]
noncomputable abbrev cecV:List AV->Option PRes:=famA (fun l:List Ech=>l.length<100000) (fun l=>[.isl 5 (l.map ev)]) (fun l=>⟨.tup [I (ecV l).1,I (ecV l).2],[]⟩)
theorem Ybw {l:List Ech} (h:l.length<100000):cecV [.isl 5 (l.map ev)]=some ⟨.tup [I (ecV l).1,I (ecV l).2],[]⟩ :=
 Zm (p:=fun l:List Ech=>l.length<100000) (g:=fun l=>[.isl 5 (l.map ev)]) (r:=fun l=>⟨.tup [I (ecV l).1,I (ecV l).2],[]⟩) (fun j hj=>by
  simp only [Qs,Wa,true_and,and_true] at hj
  rw [Zsx hj]) h
noncomputable def kY3:PC:=ins 15 cecV kY2
theorem Yco:PCOK Tryz.prog kY3:=Ya (fun l h=>d51 h) Zr
def eeV (l:List Ech) (t:Int):Int:=if (ecV l).2≠0 then (ecV l).2 else unl (within t 0 10000000) 2
theorem d129 {l:List Ech} (hl:l.length<100000) (t:Int):PCall Tryz.prog 53 [.isl 5 (l.map ev),I t] ⟨I (eeV l t),[]⟩:=by
 have e2:=Ybw hl
 unfold eeV
 refine bs.pv (sx:=nos) Yco Tryz.func53 (by kernel_rfl) (by kernel_rfl) rfl ?_
 repeat'(first|refine wk3 ?_|(refine wk2 ?_ ?_<;>intro _)|refine wk4 ?_|fail);all_goals(conv=>whnf)
 all_goals exact Za (by simp_all [unl])
noncomputable abbrev ceeV:List AV->Option PRes:=famA (fun p:List Ech × Int=>p.1.length<100000) (fun p=>[.isl 5 (p.1.map ev),I p.2]) (fun p=>⟨I (eeV p.1 p.2),[]⟩)
theorem Ybv {l:List Ech} (h:l.length<100000) (t:Int):ceeV [.isl 5 (l.map ev),I t]=some ⟨I (eeV l t),[]⟩ :=
 Zm (p:=fun p:List Ech × Int=>p.1.length<100000) (g:=fun p=>[.isl 5 (p.1.map ev),I p.2]) (r:=fun p=>⟨I (eeV p.1 p.2),[]⟩) (k:=(l,t)) (fun j hj=>by
  simp only [Qs,Wa,Sn,true_and,and_true] at hj
  rw [Zsx hj.1,hj.2]) h
noncomputable def kY4:PC:=ins 53 ceeV kY3
theorem Zsg:PCOK Tryz.prog kY4:=Ya (fun p h=>d129 h p.2) Yco
def utV (l:List Ech) (t:Int):Int × Int:=if eeV l t≠0 then (0,0) else upF t 0 0 l
theorem d53 {l:List Ech} {t:Int} (hl:l.length<100000):PCall Tryz.prog 22 [.isl 5 (l.map ev),I t] ⟨.tup [P2 (utV l t).1 (utV l t).2,I (eeV l t)],[]⟩:=by
 have l1:=Zj1 l
 have e2:=Ybv hl t
 unfold utV
 generalize eeV l t=ee at *
 by_cases he:ee=0
 ·subst he
  refine bs.pv (sx:=nos) Zsg Tryz.func22 (by kernel_rfl) (by kernel_rfl) rfl ?_
  repeat'(first|refine wk3 ?_|(refine wk2 ?_ ?_<;>intro _)|refine wk4 ?_|fail);all_goals(conv=>whnf)
  rw [if_neg (by simp)]
  refine Zt (S:=Nat × Int × Int × Int) (fun s=>l.length-s.1) (fun s=>[(1,I t),(4,.ptr 0 0 0),(7,.ptr 1 0 0),(17,.isl 5 (l.map ev)),(18,I (l.map ev).length),(19,I s.2.1)]) (fun s=>[(1,.row 2 [[I s.2.2.1,I s.2.2.2]] true false),(0,.row 2 [[I 0,I 0]] true false)]) 2 2 (fun s=>s.2.1=s.1/\s.1<=l.length/\upF t s.2.2.1 s.2.2.2 (l.drop s.1)=upF t 0 0 l) (0,0,0,0) ⟨rfl,Qm _,rfl⟩ (Qd _) [] rfl (kps) (kps) ?_
  rintro ⟨k,i,a,b⟩ ⟨hi,hk,hh⟩
  dsimp only at hi hk hh ⊢
  subst hi
  generalize upF t 0 0 l=R at *
  refine bs.av (sx:=nos) Zsg ?_
  by_cases hlt:k<l.length
  ·have e1:=Zsy hlt
   rw [Qi hlt,upF] at hh
   generalize hx:l[k]=x at *
   by_cases z1:x.dh<=t<;>by_cases z2:x.dl<=t
   all_goals
    simp only [if_pos,if_neg,z1,z2,if_true,if_false] at hh
    repeat'(first|refine wk3 ?_|(refine wk2 ?_ ?_<;>intro _)|refine wk4 ?_|fail);all_goals(conv=>whnf)
   all_goals first
    | (exfalso; simp_all; done)
    | exact Qo ⟨(k+1,_,_,_),[],rfl,kps,kps,⟨Zg (k:=k) (by omega),hlt,hh⟩,by dsimp only; omega⟩
  ·rw [Qk (by omega),upF] at hh
   subst hh
   repeat'(first|refine wk3 ?_|(refine wk2 ?_ ?_<;>intro _)|refine wk4 ?_|fail);all_goals(conv=>whnf)
   exact Zf rfl rfl
 ·refine bs.pv (sx:=nos) Zsg Tryz.func22 (by kernel_rfl) (by kernel_rfl) rfl ?_
  repeat'(first|refine wk3 ?_|(refine wk2 ?_ ?_<;>intro _)|refine wk4 ?_|fail);all_goals(conv=>whnf)
  all_goals first
   | (exfalso; simp_all; done)
   | (refine Zf ?_ rfl; simp_all; done)
noncomputable def kY5:PC:=ins 39 cints kY4
theorem Ycn:PCOK Tryz.prog kY5:=Ya (fun ns h=>c25f ns h) Zsg
theorem Ztr {l:List (List AV)} {i:Nat} {c:List AV} (h:l[i]?=some c):Zep l i c=l:=by
 rw [Un]
 refine List.ext_getElem? fun j=>?_
 rw [List.getElem?_set]
 split
 ·rename_i e
  subst e
  rw [h]
  rw [if_pos (List.getElem?_eq_some_iff.1 h).1]
 ·rfl
theorem Zwl (l:List Ech):Xx (l.map ev)=true:=by simp [Xx,AV.one]
theorem d52 {l:List Ech} (hl:l.length<100000) (hs:∀ x∈l,x.su.length<100000):PCall Tryz.prog 23 [.isl 5 (l.map ev)] ⟨.isl 5 (l.map ev),[]⟩:=by
 have l1:=Zj1 l
 have h1:=Zwl l
 refine Lq (res:=⟨.asl 0 0 (l.map ev).length,[(5,l.map ev)]⟩) ?_ ⟨rfl,rfl,rfl⟩
 refine bs.pv (sx:=nos) Ycn Tryz.func23 (by kernel_rfl) (by kernel_rfl) rfl ?_
 repeat'(first|refine wk3 ?_|(refine wk2 ?_ ?_<;>intro _)|refine wk4 ?_|fail);all_goals(conv=>whnf)
 refine Zt (S:=Nat × Int × List (List AV)) (fun s=>l.length-s.1) (fun s=>[(0,.isl 5 (l.map ev)),(3,.asl 1 0 (0+(l.map ev).length)),(4,I s.2.1)]) (fun s=>[(1,.row 5 s.2.2 true true)]) 2 2 (fun s=>s.2.1=s.1/\s.1<=l.length/\s.2.2=l.map ev) (0,0,l.map ev) ⟨rfl,Qm _,rfl⟩ (Qd _) [] rfl (kps) (kps) ?_
 rintro ⟨k,i,els⟩ ⟨hi,hk,hh⟩
 dsimp only at hi hk hh ⊢
 subst hi hh
 refine bs.av (sx:=nos) Ycn ?_
 by_cases hlt:k<l.length
 ·have e1:=Zsy hlt
  have e2:=Zgr (ns:=l[k].su) (hs _ (Qq hlt))
  generalize hx:l[k]=x at *
  have e3:(l.map ev)[0+((k:Nat):Int).toNat]?=some (ev x):=by rw [Ry]; exact e1
  repeat'(first|refine wk3 ?_|(refine wk2 ?_ ?_<;>intro _)|refine wk4 ?_|fail);all_goals(conv=>whnf)
  all_goals first
   | (refine Qo ⟨(k+1,_,_),[],rfl,kps,kps,⟨Zg (k:=k) (by omega),hlt,Ztr e3⟩,by dsimp only; omega⟩)
 ·repeat'(first|refine wk3 ?_|(refine wk2 ?_ ?_<;>intro _)|refine wk4 ?_|fail);all_goals(conv=>whnf)
  refine Xj [1] rfl ?_ rfl
  show AV.asl 1 0 (0+(l.map ev).length)=AV.asl 1 0 (l.map ev).length
  rw [Ry]
abbrev Rgt (l:List Ech):Prop:=∀ x∈l,x.ok/\x.dh<=10000000/\x.eh<=1000000000000
theorem Zvi (t:Int):∀ {l:List Ech} {a b:Int},Rgt l->0<=a->0<=b->a+1000000000000*(l.length:Int)<=4000000000000000000->b+1000000000000*(l.length:Int)<=4000000000000000000->upF t a b l=(a+upLo t l,b+upHi t l)
 | [],a,b,_,_,_,_,_=>by simp [upF,upLo,upHi]
 | x::l,a,b,h,ha,hb,ha2,hb2=>by
  obtain ⟨h1,h2,h3⟩:=h x (by simp)
  have h4:=h1.e
  rw [Rr] at ha2 hb2
  have wa:Qa Qb (a+x.el)=a+x.el:=W_eq (by omega) (by omega)
  have wb:Qa Qb (b+x.eh)=b+x.eh:=W_eq (by omega) (by omega)
  have ih:=fun (a b:Int)=>Zvi t (l:=l) (a:=a) (b:=b) fun y hy=>h y (by simp [hy])
  rw [upF,wa,wb,upLo,upHi]
  by_cases z1:x.dh<=t<;>by_cases z2:x.dl<=t<;>simp only [z1,z2,if_true,if_false]
  all_goals
   rw [ih _ _ (by omega) (by omega) (by omega) (by omega)]
   simp only [Prod.mk.injEq]; omega
theorem Zs7 (h:Hal) (k:List Mat) (s:Stg) (p q:Pt):∀ (l:List Can) (j:Nat),blkA (h.put k) s p q j l=blkA h s p q j l
 | [],_=>rfl
 | c::l,j=>by
  rw [blkA,blkA,Zs7 h k s p q l,show Zco (h.put k) s j=Zco h s j from rfl]
theorem Zxt (h:Hal) (k:List Mat) (s:Stg):Zc7 (h.put k) s=Zc7 h s:=by
 funext p q
 unfold Zc7
 rw [Zs7]
 rfl
theorem Zwd {h:Hal} {b:Int} {k:List Mat} (hm:Zid b h.ms k) {s:Stg} (e0:serr h s=0) (q0 q1:Pl3) (ns:List Int):Yf (h.put k) s q0 q1 ns=Yf h s q0 q1 ns:=by
 have z:=Zl9 hm e0
 have w:wP (h.put k) s=wP h s:=by
  funext p q
  unfold wP wayE
  rw [z,e0,Zxt]
 have f:fP (h.put k) s=fP h s:=by
  funext a q t
  unfold fP crsA crsE surE
  rw [z,e0]
  rfl
 unfold Yf pthQ
 rw [w,f]
 rfl
theorem Yb5 {h:Hal} {b:Int} {k:List Mat} (hm:Zid b h.ms k) {s:Stg} {a:Ask} (e:askE h s a=0):askE (h.put k) s a=0:=by
 have e0:=(Xd e).e0
 unfold askE at e ⊢
 rw [if_pos e0] at e
 rw [if_pos (Zl9 hm e0)]
 exact e
def Hal.dark (h:Hal) (b:Int):List Mat:=h.ms.map fun m=>m.upd b 1000
theorem Zk8 {b:Int}:∀ {l:List Mat},(∀ m∈l,Vc m=0/\absB m b<=1000)->Zid b l (l.map fun m=>m.upd b 1000)
 | [],_=>trivial
 | m::l,h=>⟨⟨Ygd m b 1000,Ydv (h m Pr).1 (by omega),by rw [Zru]; exact (h m Pr).2⟩,Zk8 fun x hx=>h x (Wd _ hx)⟩
theorem Yd6 {s:Int}:shr s 1000 (0,0)=(0,0):=by
 unfold shr
 simp only [Ta]
 rfl
theorem Yi9 (m:Mat) (b:Int):lft m b (0,0)=(0,0):=by unfold lft; rw [Yd6,Yd6]
theorem Yhk {m:Mat} {b:Int} (h:absB m b=1000) (e:Int × Int):lft m b e=(0,0):=by
 unfold lft
 rw [h]
 have:shr (1000-1000) 1000 e=(0,0):=by
  unfold shr
  simp only [Int.sub_self,Int.mul_zero]
  rfl
 rw [this,Yd6]
theorem Yim (h:Hal) (s:Stg) (b:Int):∀ l:List Int,enL h s b l (0,0)=(0,0)
 | []=>rfl
 | n::l=>by rw [enL,Yi9,Yim h s b l]
theorem Ye8 {f:Int->Int} (h:f 0=0):∀ n:Nat,itN f n 0=0
 | 0=>rfl
 | n+1=>by rw [itN,h,Ye8 h n]
theorem Yik {h:Hal} {s:Stg} (g:Sit h s) {b a:Int} (hd:∀ m∈h.ms,absB m b=1000) {p:Pth} (hl:∀ n∈p.ss,SK h n) (hne:p.ss≠[]):enV h s p b a=(0,0):=by
 have:enL h s b p.ss (enA p.sq)=(0,0):=by
  cases hp:p.ss with
  | nil=>exact absurd hp hne
  | cons n l=>rw [enL,Yhk (hd _ (Zga g (hl n (by rw [hp]; exact Pr)))),Yim]
 unfold enV enZ
 rw [this]
 dsimp only
 rw [Ye8 (by rw [Ta]; rfl),Ye8 (by rw [Ta]; rfl)]
theorem Yed {h:Hal} {b:Int} {k:List Mat} (hm:Zid b h.ms k) {s:Stg} (e0:serr h s=0) (q0 q1:Pl3) (o:Nat):refL (Yf (h.put k) s q0 q1) (nsN (h.put k)) o=refL (Yf h s q0 q1) (nsN h) o:=by
 rw [show Yf (h.put k) s q0 q1=Yf h s q0 q1 from funext fun ns=>Zwd hm e0 q0 q1 ns]
 rfl
theorem Zmc (f:List Int->Option Pth) (m o:Nat):∃ R,(refL f m (o+1)).Perm (refL f m o++R):=by
 refine ⟨(bfsL m (o+1)).filterMap f,(Zaw f m (o+1)).trans ?_⟩
 refine ((Zp0 m (o+1)).filterMap f).trans ?_
 rw [List.range_succ,List.flatMap_append,List.filterMap_append]
 refine List.Perm.append ?_ (by rw [Sm,List.flatMap_nil,Wj])
 exact (((Zp0 m o).symm.filterMap f).trans (Zaw f m o).symm)
theorem Zve {t:Int} {l m:List Ech} (p:l.Perm m):upLo t l=upLo t m:=by
 induction p with
 | nil=>rfl
 | cons x _ ih=>rw [upLo,upLo,ih]
 | swap x y l=>rw [upLo,upLo,upLo,upLo]; omega
 | trans _ _ h1 h2=>rw [h1,h2]
theorem Zvg {t:Int} {l m:List Ech} (p:l.Perm m):upHi t l=upHi t m:=by
 induction p with
 | nil=>rfl
 | cons x _ ih=>rw [upHi,upHi,ih]
 | swap x y l=>rw [upHi,upHi,upHi,upHi]; omega
 | trans _ _ h1 h2=>rw [h1,h2]
theorem Zrv (t:Int) (m:List Ech):∀ l:List Ech,upLo t (l++m)=upLo t l+upLo t m
 | []=>by rw [Tl,upLo]; omega
 | x::l=>by rw [Sw,upLo,upLo,Zrv t m l]; omega
theorem Zrw (t:Int) (m:List Ech):∀ l:List Ech,upHi t (l++m)=upHi t l+upHi t m
 | []=>by rw [Tl,upHi]; omega
 | x::l=>by rw [Sw,upHi,upHi,Zrw t m l]; omega
theorem Ydw {t:Int} {L K:List Ech} (hL:(ecV L).2=0) (hK:(ecV K).2=0) {R:List Ech} (p:K.Perm (L++R)):(upF t 0 0 L).1<=(upF t 0 0 K).1/\(upF t 0 0 L).2<=(upF t 0 0 K).2:=by
 obtain ⟨l1,rL⟩:=Zs0 hL
 obtain ⟨l2,rK⟩:=Zs0 hK
 have rR:∀ x∈R,x.ok/\x.dh<=10000000/\x.eh<=1000000000000:=fun x hx=>rK x (p.symm.subset (List.mem_append_right _ hx))
 rw [Zvi t rL (by omega) (by omega) (by omega) (by omega),Zvi t rK (by omega) (by omega) (by omega) (by omega),Zve p,Zvg p,Zrv,Zrw]
 have:=Zvf (t:=t) rR
 have:=Zvh (t:=t) rR
 dsimp only
 omega
open Go Go.Sx
def imgF (h:Hal) (s:Stg):Bool:=few3 h s&&(decide (h.err=0)&&decide (setE h s=0))
theorem eImg (h:Hal) (s:Stg):PCall Tryz.prog 20 [.agg (stgL h s)] ⟨Bo (imgF h s),[]⟩:=by
 have l1:=Zl s.hs
 have l2:=Zl s.dr
 have c17:=d80 h
 cases hf:few3 h s with
 | false =>
  rw [show imgF h s=false by unfold imgF; rw [hf]; rfl]
  have hk:=Ze c17 Zb
  unfold few3 at hf
  clear c17
  generalize few2 h=b at *
  by_cases c1:s.hs.length<=4<;>by_cases c2:s.dr.length<=10<;>cases b
  all_goals try (exfalso; clear hk; simp_all; done)
  all_goals
   refine bs.pv (sx:=nos) hk Tryz.func20 (by kernel_rfl) (by kernel_rfl) rfl ?_
   clear hk
   repeat'(first|refine wk3 ?_|(refine wk2 ?_ ?_<;>intro _)|refine wk4 ?_|fail);all_goals(conv=>whnf)
  all_goals first
   | exact Zd rfl
   | (refine Zd ?_; simp_all; done)
   | (refine Zd ?_; simp_all; omega)
   | (exfalso; simp_all; omega)
 | true =>
  obtain ⟨hk,hs⟩:=Zx0 hf
  have c18:=d90 hk
  have c19:=c75 hk.f hs
  have e:imgF h s=(decide (h.err=0)&&decide (setE h s=0)):=by unfold imgF; rw [hf]; rfl
  have ht:few2 h=true/\s.hs.length<=4/\s.dr.length<=10:=by unfold few3 at hf; simpa using hf
  rw [ht.1] at c17
  rw [e]
  have hk0:=Ze c17 (Ze c18 (Ze c19 Zb))
  obtain ⟨_,h4,h10⟩:=ht
  clear c17 c18 c19 e hf hk hs
  generalize h.err=E at *
  generalize setE h s=F at *
  by_cases e1:E=0<;>by_cases e2:F=0
  all_goals
   refine bs.pv (sx:=nos) hk0 Tryz.func20 (by kernel_rfl) (by kernel_rfl) rfl ?_
   clear hk0
   repeat'(first|refine wk3 ?_|(refine wk2 ?_ ?_<;>intro _)|refine wk4 ?_|fail);all_goals(conv=>whnf)
  all_goals first
   | exact Zd rfl
   | (refine Zd ?_; simp_all; done)
   | (refine Zd ?_; simp_all; omega)
   | (exfalso; simp_all; omega)
theorem Yfe {h:Hal} {s:Stg} (e:imgF h s=true):h.ok/\s.few/\serr h s=0:=by
 unfold imgF at e
 simp only [Qc,decide_eq_true_eq] at e
 obtain ⟨hk,hs⟩:=Zx0 e.1
 refine ⟨hk,hs,?_⟩
 unfold serr
 rw [if_pos e.2.1]; exact e.2.2
theorem Zyf {n b:Int} (hb:0<b):(n.tmod b<0/\n%b=n.tmod b+b)\/(¬ n.tmod b<0/\n%b=n.tmod b):=by
 have e1:=Int.tmod_add_mul_tdiv n b
 have e2:=Int.tmod_lt_of_pos n hb
 have e3:=Fy n hb
 by_cases h:n.tmod b<0
 ·exact .inl ⟨h,((Ma hb (r:=n.tmod b+b) (q:=n.tdiv b-1)).2 ⟨by rw [Int.mul_sub]; omega,by omega,by omega⟩).2⟩
 ·exact .inr ⟨h,((Ma hb (r:=n.tmod b) (q:=n.tdiv b)).2 ⟨by omega,by omega,by omega⟩).2⟩
abbrev mdOk (b:Int):Prop:=0<b/\b<4611686018427387904
theorem d46 {n b:Int} (h:mdOk b):PCall Tryz.prog 19 [I n,I b] ⟨I (n%b),[]⟩:=by
 obtain ⟨hb,hb2⟩:=h
 have hz:¬ b=0:=by omega
 have e3:=Fy n hb
 rcases Zyf (n:=n) hb with ⟨c1,c2⟩|⟨c1,c2⟩
 ·have w:Qa Qb (n.tmod b+b)=n.tmod b+b:=W_eq (by omega) (by omega)
  rw [c2,<-w]
  refine bs.pv (sx:=nos) Zb Tryz.func19 (by kernel_rfl) (by kernel_rfl) rfl ?_
  repeat'(first|refine wk3 ?_|(refine wk2 ?_ ?_<;>intro _)|refine wk4 ?_|fail);all_goals(conv=>whnf)
  all_goals exact Za rfl
 ·rw [c2]
  refine bs.pv (sx:=nos) Zb Tryz.func19 (by kernel_rfl) (by kernel_rfl) rfl ?_
  repeat'(first|refine wk3 ?_|(refine wk2 ?_ ?_<;>intro _)|refine wk4 ?_|fail);all_goals(conv=>whnf)
  all_goals exact Za rfl
theorem aw18:isR (.bool true) (pcF (exT [] pt0) 18 [])=true:=by kernel_rfl
theorem Zp8:PCall Tryz.prog 18 [] ⟨.bool true,[]⟩:=Yaa Zb aw18
open Go Go.Sx Go.En
theorem Ybe (l:List Int):eqN l l=true:=eqN_iff.2 rfl
open Go Go.Sx
open Go Go.Sx Go.En
def Ask.up (a:Ask):Ask:=⟨a.fx,a.fy,a.fz,a.tx,a.ty,a.tz,a.n+1⟩
theorem Ydj {h:Hal} {s:Stg} {a:Ask} (e:askE h s a=0) (hn:a.n<=1):askE h s a.up=0:=by
 have A:=Xd e
 have n0:=A.n
 unfold askE at e ⊢
 rw [if_pos A.e0] at e ⊢
 have e1:unl (within a.n 0 4) 2=unl (within a.up.n 0 4) 2:=by
  rw [within_iff.2 (show 0<=a.n/\a.n<=4 by omega),within_iff.2 (show 0<=a.up.n/\a.up.n<=4 by show 0<=a.n+1/\a.n+1<=4; omega)]
 rw [e1] at e
 exact e
theorem Zyc {l:List Pth} {f:Pth->Ech} {k:Nat} (h:k<l.length):((l.map f).map ev)[((k:Nat):Int).toNat]?=some (ev (f l[k])):=by simp [h]
noncomputable abbrev rCe:List AV->Option PRes:=famA (fun l:List Ech=>l.length<100000/\∀ x∈l,x.su.length<100000) (fun l=>[.isl 5 (l.map ev)]) (fun l=>⟨.isl 5 (l.map ev),[]⟩)
theorem Zv3 {l:List Ech} (h:l.length<100000) (hs:∀ x∈l,x.su.length<100000):rCe [.isl 5 (l.map ev)]=some ⟨.isl 5 (l.map ev),[]⟩ :=
 Zm (p:=fun l:List Ech=>l.length<100000/\∀ x∈l,x.su.length<100000) (g:=fun l=>[.isl 5 (l.map ev)]) (r:=fun l=>⟨.isl 5 (l.map ev),[]⟩) (k:=l) (fun j hj=>by
  simp only [Qs,Wa,true_and,and_true] at hj
  rw [Zsx hj]) ⟨h,hs⟩
theorem Yg0 {pt:PC} (hp:PCOK Tryz.prog pt):PCOK Tryz.prog (ins 23 rCe pt):=Ya (fun l hl=>d52 hl.1 hl.2) hp
noncomputable abbrev rUt (t:Int):List AV->Option PRes:=famA (fun l:List Ech=>l.length<100000/\eeV l t=0) (fun l=>[.isl 5 (l.map ev),I t]) (fun l=>⟨.tup [P2 (upF t 0 0 l).1 (upF t 0 0 l).2,I 0],[]⟩)
theorem Zv2 {l:List Ech} {t:Int} (h:l.length<100000) (he:eeV l t=0):rUt t [.isl 5 (l.map ev),I t]=some ⟨.tup [P2 (upF t 0 0 l).1 (upF t 0 0 l).2,I 0],[]⟩ :=
 Zm (p:=fun l:List Ech=>l.length<100000/\eeV l t=0) (g:=fun l=>[.isl 5 (l.map ev),I t]) (r:=fun l=>⟨.tup [P2 (upF t 0 0 l).1 (upF t 0 0 l).2,I 0],[]⟩) (k:=l) (fun j hj=>by
  simp only [Qs,Wa,true_and,and_true] at hj
  rw [Zsx hj]) ⟨h,he⟩
theorem Ygv {t:Int} {pt:PC} (hp:PCOK Tryz.prog pt):PCOK Tryz.prog (ins 22 (rUt t) pt):=Ya (fun l hl=>by
 have:=d53 (t:=t) hl.1
 unfold utV at this
 rw [hl.2,if_neg (by simp)] at this
 exact this) hp
theorem Zsz {l:List Ech} {t:Int} (h:(ecV l).2=0) (ht:within t 0 10000000=true):eeV l t=0:=by
 unfold eeV
 rw [h,if_neg (by simp),ht]; rfl
structure TpF (L K:List Pth):Prop where
 su:∀ p∈L,p.ss.length<=2/\cntS p.ss K=1/\∀ q∈K,q.ss=p.ss->q=p
 ku:∀ q∈K,q.ss.length<=2
 ll:L.length<=K.length
 kl:K.length<=343
theorem Ygh {h:Hal} (hk:h.ok) {s:Stg} (hs:s.few) {a:Ask} (e:askE h s a=0) (hn:a.n<=1) :
  TpF (refL (Yf h s (qF a) (qT a)) (nsN h) a.n.toNat) (refL (Yf h s (qF a) (qT a)) (nsN h) a.up.n.toNat):=by
 have A:=Xd e
 have n0:=A.n
 have u:=Ydj e hn
 have hN:=Zwn hk A.e0
 have hu:a.up.n.toNat=a.n.toNat+1:=by show (a.n+1).toNat=_; omega
 have hfa:=fun p hp=>Zdp hk hs e (show a.n<3 by omega) (p:=p) hp
 have hfu:=fun p hp=>Zdp hk hs u (show a.n+1<3 by omega) (p:=p) hp
 refine ⟨fun p hp=>?_,fun q hq=>(hfu q hq).2.2.1,?_,Zqd _ hN (by omega)⟩
 ·obtain ⟨f1,f2,f3,f4,f5⟩:=hfa p hp
  obtain ⟨R,hR⟩:=Zmc (Yf h s (qF a) (qT a)) (nsN h) a.n.toNat
  have hpk:p∈refL (Yf h s (qF a) (qT a)) (nsN h) a.up.n.toNat:=by
   rw [hu]
   exact hR.symm.subset (List.mem_append_left _ hp)
  have hl:p.ss.length<=a.n.toNat:=by
   have h1:=(Zaw _ _ _).subset hp
   obtain ⟨L,hL,hf⟩:=Mz.1 h1
   obtain rfl:=Zf8 hf
   have hw:=Zro (nsN h) a.n.toNat [] 0 ⟨Qd _,by simp⟩ _ hL
   have:=hw.len
   omega
  refine ⟨f3,?_,fun q hq hqs=>?_⟩
  ·have:=Yf1 (h:=h) (s:=s) (a:=a.up) (l:=p.ss) f2 (by omega)
   change cntS p.ss (refL (Yf h s (qF a) (qT a)) (nsN h) a.up.n.toNat)=if (Yf h s (qF a) (qT a) p.ss).isSome then 1 else 0 at this
   rw [this,f1]; rfl
  ·have:=(hfu q hq).1
   change Yf h s (qF a) (qT a) q.ss=some q at this
   rw [hqs,f1] at this
   exact (Sf this).symm
 ·obtain ⟨R,hR⟩:=Zmc (Yf h s (qF a) (qT a)) (nsN h) a.n.toNat
  rw [hu,hR.length_eq,Sz]
  omega
end Go.Proofs.YtfkdpbklbegnlaaGreat
