/- A part of the proof: lemmas. -/
import Derived.Test.YtohjcchcladneaaGreatQ11
import Derived.Test.YtohjcchcladneaaGreatQ7
import Derived.Test.YtohjcchcladneaaGreatQ10
import Derived.Test.YtohjcchcladneaaGreatQ6
import Derived.Test.YtohjcchcladneaaGreatQ8
import Derived.Sort.Statements
set_option linter.unusedVariables false
set_option linter.unusedSimpArgs false
set_option maxRecDepth 100000
set_option maxHeartbeats 16000000
open Bool renaming and_eq_true->Qf,eq_false_iff->Qs,not_eq_true'->Sc,or_eq_true->Qy
open Go.IntKind renaming i64->Qb,wrap->Qa
open Go.Sx.AV.agg renaming injEq->Kt
open Go.Sx.AV.int renaming injEq->Wm
open Int renaming add_zero->Tb,eq_of_mul_eq_mul_right->Tf,le_of_lt->Qx,lt_or_le->My,mul_add->Ml,mul_assoc->Sk,mul_comm->Rr,mul_eq_zero->Wp,mul_le_mul->Lj,mul_le_mul_of_nonneg_left->Rd,mul_le_mul_of_nonneg_right->Qk,mul_lt_mul_of_pos_right->Ru,mul_nonneg->Qu,mul_one->Rs,mul_pos->Ra,mul_zero->Sp,natAbs_mul->Tj,neg_mul->Tc,neg_neg->Tl,neg_one_mul->Oi,one_mul->Sn,sub_mul->Oa,sub_self->Nv,sub_zero->Mz,toNat->Tu,toNat_natCast->Tn,zero_add->Tt,zero_mul->Rk,zero_sub->Ho
open List renaming cons_append->Pa,drop_eq_getElem_cons->Qr,drop_of_length_le->Rb,getElem?_map->Sz,getElem?_set->Hs,getElem_mem->Rx,length_cons->Tk,length_map->Nj,length_set->Gv,map_cons->Tg,map_set->Hr,mem_or_eq_of_mem_set->Oz,replicate->Sh
open List.cons renaming injEq->Rw
open Nat renaming dvd_gcd->Gi,dvd_mul_left->Km,gcd_mul_right->Pp,le_refl->Qm,lt_or_ge->Ow,zero_add->Tm,zero_le->Rl
open Option.some renaming injEq->Qg
namespace Go.Proofs.YtohjcchcladneaaGreat
open Go Go.Sx
noncomputable abbrev crsT (h:Hal) (s:Stg):List AV->Option PRes:=famA (fun c:Crs=>c.to.wf) (fun c=>[h.av,s.av,c.av]) (fun c=>⟨crAV (crsA h s c),[]⟩)
theorem Zwr {h:Hal} {s:Stg} {c:Crs} (hw:c.to.wf):crsT h s [h.av,s.av,c.av]=some ⟨crAV (crsA h s c),[]⟩ :=
 Yr (p:=fun c:Crs=>c.to.wf) (g:=fun c=>[h.av,s.av,c.av]) (r:=fun c=>⟨crAV (crsA h s c),[]⟩) (fun j hj=>by
  obtain ⟨a,b,d,e,x,y,z,w⟩:=j
  obtain ⟨a',b',d',e',x',y',z',w'⟩:=c
  simp only [Rw,Kt,Wm,true_and,and_true] at hj
  obtain ⟨rfl,rfl,rfl,rfl,rfl,rfl,rfl,rfl⟩:=hj
  rfl) hw
theorem Ya3 {h:Hal} (hk:h.ok) {s:Stg} (hs:s.few) {pt:PC} (hp:PCOK Tryz.prog pt):PCOK Tryz.prog (ins 36 (crsT h s) pt):=Xs (fun c hc=>c40 hk hs hc) hp
noncomputable abbrev wayT (h:Hal) (s:Stg):List AV->Option PRes:=famA (fun p:Pt × Pt=>p.1.wf/\p.2.wf) (fun p=>[h.av,s.av,wayA p.1 p.2]) (fun p=>⟨.tup [Bo (decide (wayE h s p.1 p.2=0)&&Zc5 h s p.1 p.2),I (wayE h s p.1 p.2)],[]⟩)
theorem Zu6 {h:Hal} {s:Stg} {p q:Pt} (hp:p.wf) (hq:q.wf):wayT h s [h.av,s.av,wayA p q]=some ⟨.tup [Bo (decide (wayE h s p q=0)&&Zc5 h s p q),I (wayE h s p q)],[]⟩ :=
 Yr (p:=fun p:Pt × Pt=>p.1.wf/\p.2.wf) (g:=fun p=>[h.av,s.av,wayA p.1 p.2]) (r:=fun p=>⟨.tup [Bo (decide (wayE h s p.1 p.2=0)&&Zc5 h s p.1 p.2),I (wayE h s p.1 p.2)],[]⟩) (k:=(p,q)) (fun j hj=>by
  obtain ⟨⟨a,b,c,d⟩,⟨a2,b2,c2,d2⟩⟩:=j
  obtain ⟨x,y,z,w⟩:=p
  obtain ⟨x2,y2,z2,w2⟩:=q
  simp only [Rw,Kt,Wm,true_and,and_true] at hj
  obtain ⟨rfl,rfl,rfl,rfl,rfl,rfl,rfl,rfl⟩:=hj
  rfl) ⟨hp,hq⟩
theorem Zy7 {h:Hal} (hk:h.ok) {s:Stg} (hs:s.few) {pt:PC} (hp:PCOK Tryz.prog pt):PCOK Tryz.prog (ins 37 (wayT h s) pt):=Xs (fun p hw=>c37 hk hs hw.1 hw.2) hp
def r123:List AV->Option PRes
 | [.agg [.int .i64 x,.int .i64 y,.int .i64 z]]=>some ⟨P4 x y z 1,[]⟩
 | _=>none
theorem Zzp {pt:PC} (h:PCOK Tryz.prog pt):PCOK Tryz.prog (ins 35 r123 pt):=Zj (fun a res h=>by unfold r123 at h; split at h<;>cases h; exact d123 _ _ _) h
def sqV (a b c x y z:Int):Int:=Qa Qb (Qa Qb (Qa Qb (Qa Qb (a-x)*Qa Qb (a-x))+Qa Qb (Qa Qb (b-y)*Qa Qb (b-y)))+Qa Qb (Qa Qb (c-z)*Qa Qb (c-z)))
theorem d126 (a b c x y z:Int):PCall Tryz.prog 40 [P3 a b c,P3 x y z] ⟨I (sqV a b c x y z),[]⟩:=by
 refine pn Zh Tryz.func40 ?_
 repeat'(first|refine wk3 ?_|(refine wk2 ?_ ?_<;>intro _)|fail)
 exact Zd rfl
def r126:List AV->Option PRes
 | [.agg [.int .i64 a,.int .i64 b,.int .i64 c],.agg [.int .i64 x,.int .i64 y,.int .i64 z]]=>some ⟨I (sqV a b c x y z),[]⟩
 | _=>none
theorem Zzo {pt:PC} (h:PCOK Tryz.prog pt):PCOK Tryz.prog (ins 40 r126 pt):=Zj (fun a res h=>by unfold r126 at h; split at h<;>cases h; exact d126 _ _ _ _ _ _) h
theorem Yd8 {ns:List Int} (hl:ns.length<100000):PCall Tryz.prog 38 [.isl 1 (nl ns)] ⟨.isl 1 (nl ns),[]⟩:=by
 cases ns with
 | nil=>exact Yd9
 | cons n ns=>exact (d103 (by simp) hl).freeze ⟨rfl,rfl,rfl⟩
theorem Yd6 {ps:List (Int × Int × Int × Int)} (hl:ps.length<100000):PCall Tryz.prog 39 [.isl 4 (ps.map hp4)] ⟨.isl 4 (ps.map hp4),[]⟩:=by
 cases ps with
 | nil=>exact Yd7
 | cons n ns=>exact (d104 (by simp) hl).freeze ⟨rfl,rfl,rfl⟩
noncomputable abbrev clT:List AV->Option PRes:=famA (fun ps:List (Int × Int × Int × Int)=>ps.length<100000) (fun ps=>[.isl 4 (ps.map hp4)]) (fun ps=>⟨.isl 4 (ps.map hp4),[]⟩)
theorem Ydg {pt:PC} (hp:PCOK Tryz.prog pt):PCOK Tryz.prog (ins 39 clT pt):=Xs (fun ps hl=>Yd6 hl) hp
theorem Ya8 {ps:List (Int × Int × Int × Int)} (h:ps.length<100000):clT [.isl 4 (ps.map hp4)]=some ⟨.isl 4 (ps.map hp4),[]⟩ :=
 Yr (p:=fun ps:List (Int × Int × Int × Int)=>ps.length<100000) (g:=fun ps=>[.isl 4 (ps.map hp4)]) (r:=fun ps=>⟨.isl 4 (ps.map hp4),[]⟩) (fun j hj=>by
  simp only [Rw,AV.isl.injEq,true_and,and_true] at hj
  rw [hj]) h
def goP (f:Int->Pl3->Pt->Pt × Int):List (Int × Pl3)->Pt->List Pt->Option (List Pt)
 | [],_,P=>some P
 | (a,q)::r,to,P=>if (f a q to).2=0 then goP f r (f a q to).1 ((f a q to).1::P) else none
def chkW (w:Pt->Pt->Bool):List Pt->Bool
 | p::q::r=>w p q&&chkW w (q::r)
 | _=>true
def pnt (q:Pl3):Pt:=⟨q.1,q.2.1,q.2.2,1⟩
def tup4 (p:Pt):Int × Int × Int × Int:=(p.x,p.y,p.z,p.d)
def fP (h:Hal) (s:Stg) (a:Int) (q:Pl3) (to:Pt):Pt × Int:=crsA h s ⟨a,q.1,q.2.1,q.2.2,to⟩
def wP (h:Hal) (s:Stg) (p q:Pt):Bool:=decide (wayE h s p q=0)&&Zc5 h s p q
def pthQ (h:Hal) (s:Stg) (q0 q1:Pl3) (l:List (Int × Pl3)):Option Pth :=
 match goP (fP h s) l.reverse (pnt q1) [] with
 | none=>none
 | some P=>if chkW (wP h s) (pnt q0::P++[pnt q1]) then some ⟨l.map (·.1),P.map tup4,sqV (l.getLastD (0,q0)).2.1 (l.getLastD (0,q0)).2.2.1 (l.getLastD (0,q0)).2.2.2 q1.1 q1.2.1 q1.2.2⟩ else none
theorem Zkw:Pt.wf ptZ:=⟨⟨by decide,by decide⟩,⟨by decide,by decide⟩,⟨by decide,by decide⟩,⟨by decide,by decide⟩⟩
theorem Ya4 {h:Hal} {s:Stg} (c:Crs) (hk:h.ok) (hs:s.few):(crsA h s c).1.wf:=by
 unfold crsA
 split
 ·rename_i e
  obtain ⟨g,hi,ho,_⟩:=Ztx hk hs e
  unfold Zaa
  split
  ·exact Zkw
  ·rename_i hsn
   split
   ·split
    ·exact Zkw
    ·exact (Vv (Uz ho hsn)).2.2.1.wf
   ·exact Zkw
 ·exact Zkw
theorem Zxz {q:Pl3} (h:Near 5000 q):(pnt q).wf:=by
 obtain ⟨h1,h2,h3⟩:=h
 unfold pnt
 exact ⟨⟨by dsimp only; omega,by dsimp only; omega⟩,⟨by dsimp only; omega,by dsimp only; omega⟩,⟨by dsimp only; omega,by dsimp only; omega⟩,⟨by dsimp only; omega,by dsimp only; omega⟩⟩
def rawP:Option Pth->AV
 | none=>.tup [.agg [.nils,.nils,I 0],Bo false]
 | some p=>.tup [p.av,Bo true]
theorem Zvq (o:Option Pth):Xj 0 (rawP o)=true:=by cases o<;>rfl
noncomputable abbrev oneA (a:List AV) (r:PRes):List AV->Option PRes:=famA (fun _:Unit=>True) (fun _=>a) (fun _=>r)
theorem Zcc {f:FuncId} {a:List AV} {r:PRes} (h:PCall Tryz.prog f a r) {pt:PC} (hp:PCOK Tryz.prog pt):PCOK Tryz.prog (ins f (oneA a r) pt):=Xs (fun _ _=>h) hp
theorem Zak (a:List AV) (r:PRes):oneA a r a=some r:=Yr (p:=fun _:Unit=>True) (g:=fun _=>a) (r:=fun _=>r) (k:=()) (fun _ _=>rfl) trivial
def lkG (f:Int->Pl3->Pl3):Pl3->List Int->List (Int × Pl3)
 | _,[]=>[]
 | q,n::r=>(n,f n q)::lkG f (f n q) r
theorem Zwe (f:Int->Pl3->Pl3) (q:Pl3) (n:Int) (r:List Int) (k:Nat):imA f q (n::r) (k+1)=imA f (f n q) r k:=rfl
theorem Ze8 (f:Int->Pl3->Pl3):∀ (q:Pl3) (ns:List Int),(lkG f q ns).length=ns.length
 | _,[]=>rfl
 | q,n::r=>by rw [lkG,Tk,Ze8 f _ r,Tk]
theorem Zsj (f:Int->Pl3->Pl3):∀ (q:Pl3) (ns:List Int) (k:Nat) (hk:k<ns.length),(lkG f q ns)[k]?=some (ns[k],imA f q ns (k+1))
 | q,n::r,0,hk=>rfl
 | q,n::r,k+1,hk=>by
  rw [lkG,List.getElem?_cons_succ,Zsj f _ r k (by simpa using hk),Zwe]
  rfl
theorem Zsi (f:Int->Pl3->Pl3):∀ (q:Pl3) (ns:List Int),(lkG f q ns).map (·.1)=ns
 | _,[]=>rfl
 | q,n::r=>by rw [lkG,Tg,Zsi f _ r]
theorem Zoo (f:Int->Pl3->Pl3):∀ (q:Pl3) (ns:List Int) (x:Int),((lkG f q ns).getLastD (x,q)).2=imA f q ns ns.length
 | _,[],_=>rfl
 | q,n::r,x=>by
  rw [lkG,List.getLastD_cons,Zoo f _ r n]
  rfl
theorem Zv2 {f:Int->Pl3->Pl3} {q:Pl3} {ns:List Int} {k:Nat} (hk:k<ns.length):((lkG f q ns).take (k+1)).reverse=(ns[k],imA f q ns (k+1))::((lkG f q ns).take k).reverse:=by
 have hk2:k<(lkG f q ns).length:=by rw [Ze8]; exact hk
 have e:=Zsj f q ns k hk
 rw [List.getElem?_eq_getElem hk2,Qg] at e
 rw [List.take_succ_eq_append_getElem hk2,List.reverse_append,e]
 rfl
def Zaf (h:Hal) (s:Stg) (q0 q1:Pl3) (ns:List Int):Option Pth:=pthQ h s q0 q1 (lkG (im1 h s) q0 ns)
theorem Zjl (h:Hal) (s:Stg) (q0 q1:Pl3) (ns:List Int):Zaf h s q0 q1 ns=match goP (fP h s) (lkG (im1 h s) q0 ns).reverse (pnt q1) [] with
  | none=>none
  | some P=>if chkW (wP h s) (pnt q0::P++[pnt q1]) then some ⟨ns,P.map tup4,sqV (imA (im1 h s) q0 ns ns.length).1 (imA (im1 h s) q0 ns ns.length).2.1 (imA (im1 h s) q0 ns ns.length).2.2 q1.1 q1.2.1 q1.2.2⟩ else none:=by
 unfold Zaf pthQ
 rw [Zsi,Zoo]
 all_goals (cases goP (fP h s) (lkG (im1 h s) q0 ns).reverse (pnt q1) []<;>rfl)
abbrev ptc (p:Pt):List AV:=[I p.x,I p.y,I p.z,I p.d]
theorem Zmy {l:List Pt} {k:Nat} (hk:k<l.length):(l.map ptc)[k]?=some (ptc l[k]):=by simp [hk]
theorem Zro (l:List Pt) (i:Nat) (p:Pt):Zki (l.map ptc) i (ptc p)=(l.set i p).map ptc:=by rw [Zd5,Hr]
theorem Zhp {l:List Pt} {k:Nat} (hk:k<l.length) (p:Pt):(l.set k p).drop k=p::l.drop (k+1):=by
 rw [Qr (by rw [Gv]; exact hk),List.getElem_set_self,List.drop_set,if_pos (by omega)]
theorem Zt5 {w:Pt->Pt->Bool} {l:List Pt} {k:Nat} (hk:k+1<l.length):chkW w (l.drop k)=(w l[k] l[k+1]&&chkW w (l.drop (k+1))):=by
 rw [Qr (show k<l.length by omega),Qr hk,chkW]
theorem Zt6 {w:Pt->Pt->Bool} {l:List Pt} {k:Nat} (hk:k+1=l.length):chkW w (l.drop k)=true:=by
 rw [Qr (show k<l.length by omega),Rb (by omega)]; rfl
noncomputable def kPth (h:Hal) (s:Stg) (q0:Pl3) (ns:List Int):PC:=ins 34 (oneA [.agg (stgL h s),P3 q0.1 q0.2.1 q0.2.2,.isl 1 (nl ns)] ⟨.isl 3 (imC (im1 h s) q0 ns ns.length),[]⟩) (ins 35 r123 (ins 36 (crsT h s) (ins 37 (wayT h s) (ins 40 r126 (ins 39 clT (ins 38 (oneA [.isl 1 (nl ns)] ⟨.isl 1 (nl ns),[]⟩) pt0))))))
theorem Yab {h:Hal} (hk:h.ok) {s:Stg} (hs:s.few) (e0:serr h s=0) {q0:Pl3} (hf:Near 5000 q0) {ns:List Int} (hl:ns.length<=4) (hi:∀ n∈ns,0<=n/\n<nsur h):PCOK Tryz.prog (kPth h s q0 ns) :=
 Zcc (d82f hk hs e0 hf hl hi) (Zzp (Ya3 hk hs (Zy7 hk hs (Zzo (Ydg (Zcc (Yd8 (ns:=ns) (by omega)) Zh))))))
theorem d65 {h:Hal} (hk:h.ok) {s:Stg} (hs:s.few) (e0:serr h s=0) (a:Ask) (hf:Near 5000 (a.fx,a.fy,a.fz)) (ht:Near 5000 (a.tx,a.ty,a.tz)) {ns:List Int} (hl:ns.length<=4) (hi:∀ n∈ns,0<=n/\n<nsur h) :
  PCall Tryz.prog 19 [.agg (stgL h s),a.av,.isl 1 (nl ns)] ⟨rawP (Zaf h s (a.fx,a.fy,a.fz) (a.tx,a.ty,a.tz) ns),[]⟩:=by
 obtain ⟨fx,fy,fz,tx,ty,tz,n⟩:=a
 dsimp only at hf ht ⊢
 have hk0:=Yab hk hs e0 hf hl hi
 unfold kPth at hk0
 have w0:=Zxz hf
 have wT:=Zxz ht
 have ll:=Xa ns
 have o1:=Zak [.agg (stgL h s),P3 fx fy fz,.isl 1 (nl ns)] ⟨.isl 3 (imC (im1 h s) (fx,fy,fz) ns ns.length),[]⟩
 have o2:=Zak [.isl 1 (nl ns)] ⟨.isl 1 (nl ns),[]⟩
 have hR:=Zjl h s (fx,fy,fz) (tx,ty,tz) ns
 generalize Zaf h s (fx,fy,fz) (tx,ty,tz) ns=R at *
 have il:=Zjr (im1 h s) (fx,fy,fz) ns ns.length
 have x2:Qa Qb (((nl ns).length:Int)+2)=((ns.length+2:Nat):Int):=by rw [ll,W_eq (by omega) (by omega)]; omega
 have x1:Qa Qb (((nl ns).length:Int)+1)=((ns.length+1:Nat):Int):=by rw [ll,W_eq (by omega) (by omega)]; omega
 have a1:decide (0<=Qa Qb (((nl ns).length:Int)+2)/\(Qa Qb (((nl ns).length:Int)+2)).toNat<=1000000)=true:=by rw [x2]; exact decide_eq_true ⟨by omega,by omega⟩
 have g0:(Sh (Qa Qb (((nl ns).length:Int)+2)).toNat (ptc ptZ))[0+Tu 0]?=some (ptc ptZ):=by
  rw [x2,Tn,List.getElem?_replicate,if_pos (by omega)]
 have g1:(Zki (Sh (Qa Qb (((nl ns).length:Int)+2)).toNat (ptc ptZ)) (0+Tu 0) (ptc (pnt (fx,fy,fz))))[0+(Qa Qb (((nl ns).length:Int)+1)).toNat]?=some (ptc ptZ):=by
  rw [Zd5,x2,x1,Hs,if_neg (by omega)]; simp
 have hE0:Zki (Zki (Sh (Qa Qb (((nl ns).length:Int)+2)).toNat (ptc ptZ)) (0+Tu 0) (ptc (pnt (fx,fy,fz)))) (0+(Qa Qb (((nl ns).length:Int)+1)).toNat) (ptc (pnt (tx,ty,tz)))=(((Sh (ns.length+2) ptZ).set 0 (pnt (fx,fy,fz))).set (ns.length+1) (pnt (tx,ty,tz))).map ptc:=by
  rw [Zd5,Zd5,x2,x1,Hr,Hr,List.map_replicate]
  congr 1
  omega
 refine bs.pv (sx:=nos) hk0 Tryz.func19 (by kernel_rfl) (by kernel_rfl) (Zvq _) ?_
 unfold Zfj
 conv=>whnf
 repeat'(first|refine wk3 ?_|(refine wk2 ?_ ?_<;>intro _)|fail)
 obtain ⟨l,hlk⟩:∃ l,l=lkG (im1 h s) (fx,fy,fz) ns:=⟨_,rfl⟩
 have hll:l.length=ns.length:=by rw [hlk,Ze8]
 have hlt' : ∀ {k:Nat} (hk:k<ns.length),(l.take (k+1)).reverse=(ns[k],imA (im1 h s) (fx,fy,fz) ns (k+1))::(l.take k).reverse:=fun hk=>by rw [hlk]; exact Zv2 hk
 rw [<-hlk] at hR
 clear hlk
 refine Za3 (S:=Nat × Int × List (List AV) × List Pt) (fun t=>t.1) (fun t=>[(2,.isl 1 (nl ns)),(3,.ptr 0 0 0),(4,.ptr 1 0 0),(6,.ptr 2 0 0),(8,.isl 3 (imC (im1 h s) (fx,fy,fz) ns ns.length)),(9,I (nl ns).length),(10,.asl 3 0 (Qa Qb (((nl ns).length:Int)+2)).toNat),(11,I t.2.1)])
  (fun t=>[(3,.row 4 t.2.2.1 true true),(2,.row 3 [[.nils,.nils,I 0]] true false),(1,.row 7 [[I fx,I fy,I fz,I tx,I ty,I tz,I n]] true false),(0,.row 11 [stgL h s] true false)]) 18 18
  (fun t=>t.2.1=t.1/\t.1<=ns.length/\t.2.2.1=t.2.2.2.map ptc/\t.2.2.2.length=ns.length+2/\t.2.2.2[0]?=some (pnt (fx,fy,fz))/\(∀ p∈t.2.2.2,p.wf)/\∃ to P Q,t.2.2.2.drop (t.1+1)=to::Q/\P++[pnt (tx,ty,tz)]=to::Q/\goP (fP h s) (l.take t.1).reverse to P=goP (fP h s) l.reverse (pnt (tx,ty,tz)) [])
  (ns.length,(nl ns).length,_,(((Sh (ns.length+2) ptZ).set 0 (pnt (fx,fy,fz))).set (ns.length+1) (pnt (tx,ty,tz)))) ⟨by dsimp only; rw [ll],Qm _,hE0,by simp,by simp,?_,pnt (tx,ty,tz),[],[],by rw [Zhp (by simp)]; simp,rfl,by rw [<-hll,List.take_length]⟩ (Qm _) [] rfl (kps) (kps) ?_
 ·intro p hp
  rcases Oz hp with hp|rfl
  ·rcases Oz hp with hp|rfl
   ·rw [List.eq_of_mem_replicate hp]; exact Zkw
   ·exact w0
  ·exact wT
 clear g0 g1 hE0 a1
 rintro ⟨k,i,els,pts⟩ ⟨hi1,hk1,hels,hpl,hp0,hwf,to,P,Q,hd,hPQ,hgo⟩
 dsimp only at hi1 hk1 hels hpl hp0 hwf hd hPQ hgo ⊢
 subst hi1 hels
 have lp:(pts.map ptc).length=ns.length+2:=by rw [Nj,hpl]
 refine bs.av (sx:=nos) hk0 ?_
 cases k with
 | succ j =>
  have b0:((j+1:Nat):Int)>=1:=by omega
  have b1:Qa Qb (((j+1:Nat):Int)-1)=j:=by rw [W_eq (by omega) (by omega)]; omega
  have b2:Qa Qb (((j+1:Nat):Int)+1)=((j+2:Nat):Int):=by rw [W_eq (by omega) (by omega)]; omega
  have e1:(nl ns)[(Qa Qb (((j+1:Nat):Int)-1)).toNat]?=some [I ns[j]]:=by rw [b1]; simp [nl]
  have e2:(imC (im1 h s) (fx,fy,fz) ns ns.length)[((j+1:Nat):Int).toNat]?=some (pl3 (imA (im1 h s) (fx,fy,fz) ns (j+1))):=by
   rw [Tn]; unfold imC; rw [Sz,List.getElem?_range (by omega)]; rfl
  have hto:pts[j+2]?=some to:=by rw [<-List.head?_drop,hd]; rfl
  have e3:(pts.map ptc)[0+(Qa Qb (((j+1:Nat):Int)+1)).toNat]?=some (ptc to):=by rw [b2,Tn,Tm,Sz,hto]; rfl
  have e4:(pts.map ptc)[0+((j+1:Nat):Int).toNat]?=some (ptc (pts[j+1]'(by omega))):=by rw [Tn,Tm]; exact Zmy (by omega)
  have wto:to.wf:=hwf _ (List.mem_of_getElem? hto)
  rw [hlt' (by omega),goP] at hgo
  have c1:=Zwr (h:=h) (s:=s) (c:=⟨ns[j],(imA (im1 h s) (fx,fy,fz) ns (j+1)).1,(imA (im1 h s) (fx,fy,fz) ns (j+1)).2.1,(imA (im1 h s) (fx,fy,fz) ns (j+1)).2.2,to⟩) wto
  have w1:=Ya4 (h:=h) (s:=s) ⟨ns[j],(imA (im1 h s) (fx,fy,fz) ns (j+1)).1,(imA (im1 h s) (fx,fy,fz) ns (j+1)).2.1,(imA (im1 h s) (fx,fy,fz) ns (j+1)).2.2,to⟩ hk hs
  have hfp:fP h s ns[j] (imA (im1 h s) (fx,fy,fz) ns (j+1)) to=crsA h s ⟨ns[j],(imA (im1 h s) (fx,fy,fz) ns (j+1)).1,(imA (im1 h s) (fx,fy,fz) ns (j+1)).2.1,(imA (im1 h s) (fx,fy,fz) ns (j+1)).2.2,to⟩:=rfl
  rw [hfp] at hgo
  clear hfp
  generalize crsA h s ⟨ns[j],(imA (im1 h s) (fx,fy,fz) ns (j+1)).1,(imA (im1 h s) (fx,fy,fz) ns (j+1)).2.1,(imA (im1 h s) (fx,fy,fz) ns (j+1)).2.2,to⟩=r at *
  obtain ⟨⟨x,y,z,d⟩,E⟩:=r
  generalize imA (im1 h s) (fx,fy,fz) ns (j+1)=q at *
  obtain ⟨qx,qy,qz⟩:=q
  obtain ⟨X,Y,Z,V⟩:=to
  dsimp only at hgo w1 c1
  by_cases hE:E=0
  ·subst hE
   rw [if_pos rfl] at hgo
   have hs1:Zki (pts.map ptc) (0+((j+1:Nat):Int).toNat) (ptc ⟨x,y,z,d⟩)=(pts.set (j+1) ⟨x,y,z,d⟩).map ptc:=by
    rw [Tn,Tm]; exact Zro _ _ _
   repeat'(first|refine wk3 ?_|(refine wk2 ?_ ?_<;>intro _)|fail)
   exact Done.mk ⟨(j,_,_,pts.set (j+1) ⟨x,y,z,d⟩),[],rfl,kps,kps,⟨b1,by dsimp only; omega,hs1,by dsimp only; rw [Gv,hpl],by dsimp only; rw [Hs,if_neg (by omega)]; exact hp0,(fun p hp=>by
    rcases Oz hp with hp|rfl
    ·exact hwf p hp
    ·exact w1),⟨x,y,z,d⟩,⟨x,y,z,d⟩::P,⟨X,Y,Z,V⟩::Q,by dsimp only; rw [Zhp (by omega),hd],by rw [Pa,hPQ],hgo⟩,by dsimp only; omega⟩
  ·rw [if_neg hE] at hgo
   rw [<-hgo] at hR
   dsimp only at hR
   subst hR
   repeat'(first|refine wk3 ?_|(refine wk2 ?_ ?_<;>intro _)|fail)
   all_goals exact Zg rfl rfl
 | zero =>
  have hpe:pts=pnt (fx,fy,fz)::P++[pnt (tx,ty,tz)]:=by
   rw [Pa,hPQ,<-hd]
   clear hk0 hwf lp hpl
   cases pts with
   | nil=>cases hp0
   | cons p r=>cases hp0; rfl
  rw [List.take_zero,List.reverse_nil,goP] at hgo
  rw [<-hgo] at hR
  dsimp only at hR
  rw [<-hpe] at hR
  have hPl:P.length=ns.length:=by
   have:=congrArg List.length hpe
   simp at this; omega
  clear hgo hlt' hd hPQ Q to
  repeat'(first|refine wk3 ?_|(refine wk2 ?_ ?_<;>intro _)|fail)
  refine Za3 (S:=Nat × Int) (fun t=>ns.length+1-t.1) (fun t=>[(2,.isl 1 (nl ns)),(3,.ptr 0 0 0),(4,.ptr 1 0 0),(6,.ptr 2 0 0),(8,.isl 3 (imC (im1 h s) (fx,fy,fz) ns ns.length)),(9,I (nl ns).length),(10,.asl 3 0 (Qa Qb (((nl ns).length:Int)+2)).toNat),(75,I (Qa Qb (((nl ns).length:Int)+1))),(76,I t.2)])
   (fun t=>[(3,.row 4 (pts.map ptc) true true),(2,.row 3 [[.nils,.nils,I 0]] true false),(1,.row 7 [[I fx,I fy,I fz,I tx,I ty,I tz,I n]] true false),(0,.row 11 [stgL h s] true false)]) 18 18
   (fun t=>t.2=t.1/\t.1<=ns.length+1/\chkW (wP h s) (pts.drop t.1)=chkW (wP h s) pts) (0,0) ⟨rfl,Rl _,rfl⟩ (Qm _) [] rfl (kps) (kps) ?_
  rintro ⟨k,i⟩ ⟨hi1,hk1,hck⟩
  dsimp only at hi1 hk1 hck ⊢
  subst hi1
  by_cases hlt:k<ns.length+1
  ·have b0:((k:Nat):Int)<Qa Qb (((nl ns).length:Int)+1):=by rw [x1]; omega
   have b2:Qa Qb (((k:Nat):Int)+1)=((k+1:Nat):Int):=by rw [W_eq (by omega) (by omega)]; omega
   have e3:(pts.map ptc)[0+((k:Nat):Int).toNat]?=some (ptc (pts[k]'(by omega))):=by rw [Tn,Tm]; exact Zmy (by omega)
   have e4:(pts.map ptc)[0+(Qa Qb (((k:Nat):Int)+1)).toNat]?=some (ptc (pts[k+1]'(by omega))):=by rw [b2,Tn,Tm]; exact Zmy (by omega)
   rw [Zt5 (by omega)] at hck
   have v1:=Zu6 (h:=h) (s:=s) (hwf (pts[k]'(by omega)) (Rx _)) (hwf (pts[k+1]'(by omega)) (Rx _))
   have hw:wP h s (pts[k]'(by omega)) (pts[k+1]'(by omega))=(decide (wayE h s (pts[k]'(by omega)) (pts[k+1]'(by omega))=0)&&Zc5 h s (pts[k]'(by omega)) (pts[k+1]'(by omega))):=rfl
   rw [hw] at hck
   clear hw
   generalize (pts[k]'(by omega))=p1 at *
   generalize (pts[k+1]'(by omega))=p2 at *
   generalize wayE h s p1 p2=u at *
   generalize Zc5 h s p1 p2=f at *
   obtain ⟨x1,y1,z1,d1⟩:=p1
   obtain ⟨x2,y2,z2,d2⟩:=p2
   refine bs.av (sx:=nos) hk0 ?_
   cases hb:(decide (u=0)&&f) with
   | true =>
    rw [hb,Bool.true_and] at hck
    repeat'(first|refine wk3 ?_|(refine wk2 ?_ ?_<;>intro _)|fail)
    all_goals first
     | (exfalso; clear hk0; simp_all; done)
     | exact Done.mk ⟨(k+1,_),[],rfl,kps,kps,⟨b2,hlt,hck⟩,by dsimp only; omega⟩
   | false =>
    rw [hb,Bool.false_and] at hck
    rw [<-hck,if_neg (by simp)] at hR
    subst hR
    repeat'(first|refine wk3 ?_|(refine wk2 ?_ ?_<;>intro _)|fail)
    all_goals first
     | exact Zg rfl rfl
     | (exfalso; clear hk0; simp_all; done)
  ·have hke:k=ns.length+1:=by omega
   subst hke
   rw [Zt6 (by omega)] at hck
   rw [<-hck,if_pos rfl] at hR
   subst hR
   refine Awp.froz [3] rfl (bs.av (sx:=nos) hk0 ?_)
   conv=>whnf
   repeat'(first|refine wk3 ?_|(refine wk2 ?_ ?_<;>intro _)|fail)
   have y1:Zd1 (some (I (Qa Qb (((nl ns).length:Int)+1)))) (Qa Qb (((nl ns).length:Int)+2)).toNat=some (ns.length+1):=by
    show cond (decide (0<=Qa Qb (((nl ns).length:Int)+1))) (some (Qa Qb (((nl ns).length:Int)+1)).toNat) none=_
    rw [x1,decide_eq_true (by omega)]
    simp only [cond_true,Qg]; omega
   have cl:clT [.isl 4 (List.take (ns.length+1-Tu 1) (List.drop (0+Tu 1) (pts.map ptc)))]=some ⟨.isl 4 ((P.map tup4).map hp4),[]⟩:=by
    have e:List.take (ns.length+1-Tu 1) (List.drop (0+Tu 1) (pts.map ptc))=(P.map tup4).map hp4:=by
     rw [hpe,Pa,Tg,show (0+Tu 1)=1 from rfl,List.drop_succ_cons,List.drop_zero,List.map_append,show ns.length+1-Tu 1=(P.map ptc).length by rw [Nj,hPl]; omega,List.take_left,List.map_map]
     rfl
    rw [e]
    exact Ya8 (by rw [Nj]; omega)
   have e5:(imC (im1 h s) (fx,fy,fz) ns ns.length)[((nl ns).length:Int).toNat]?=some (pl3 (imA (im1 h s) (fx,fy,fz) ns ns.length)):=by
    rw [Tn,ll]; exact Zou _ _ _ _
   refine Zq1 rfl rfl rfl rfl rfl rfl y1 (by omega) (by rw [x2]; omega) (by rw [x2]; omega) ?_
   conv=>whnf
   generalize imA (im1 h s) (fx,fy,fz) ns ns.length=q at *
   obtain ⟨qx,qy,qz⟩:=q
   repeat'(first|refine wk3 ?_|(refine wk2 ?_ ?_<;>intro _)|fail)
   exact Zg rfl rfl
theorem Zl7 {h:Hal} {s:Stg} (g:Sit h s) (e0:serr h s=0) {n:Int} (hn:0<=n/\n<nsur h) {q:Pl3} (hq:Near 45000 q) {to:Pt} (hto:Zy to=0) :
  CrOk (Zc h s n) ⟨n,q.1,q.2.1,q.2.2,to⟩/\SK h n/\crsA h s ⟨n,q.1,q.2.1,q.2.2,to⟩=Zaa (Zaw h n) (Zc h s n) ⟨n,q.1,q.2.1,q.2.2,to⟩ /\
  ((crsA h s ⟨n,q.1,q.2.1,q.2.2,to⟩).2=0->Zy (crsA h s ⟨n,q.1,q.2.1,q.2.2,to⟩).1=0/\valN (Zc h s n).1 (crsA h s ⟨n,q.1,q.2.1,q.2.2,to⟩).1.x (crsA h s ⟨n,q.1,q.2.1,q.2.2,to⟩).1.y (crsA h s ⟨n,q.1,q.2.1,q.2.2,to⟩).1.z=(Zc h s n).2*(crsA h s ⟨n,q.1,q.2.1,q.2.2,to⟩).1.d):=by
 have hi:=Zp3 hn.1 hn.2
 obtain ⟨⟨b1,b2⟩,b3⟩:=Zf8 g hi
 obtain ⟨h1,h2,h3⟩:=hq
 obtain ⟨p1,p2,_,p4⟩:=Xv hto
 unfold ptIn at p4
 simp only [Qf,within_iff] at p4
 have ho:CrOk (Zc h s n) ⟨n,q.1,q.2.1,q.2.2,to⟩:=⟨b1,b2,b3,h1,h2,h3,p1,p2,p4.1.1,p4.1.2,p4.2⟩
 have he:crsE h s ⟨n,q.1,q.2.1,q.2.2,to⟩=0:=by
  unfold crsE surE Va img
  rw [if_pos e0,if_pos (within_iff.2 (by dsimp only; omega)),if_pos rfl,if_pos (by simp only [Qf,within_iff]; omega)]
  exact hto
 have hA:crsA h s ⟨n,q.1,q.2.1,q.2.2,to⟩=Zaa (Zae h n) (Zc h s n) ⟨n,q.1,q.2.1,q.2.2,to⟩:=by unfold crsA; rw [if_pos he]
 refine ⟨ho,hi,by rw [hA]; exact Zwv (c:=⟨n,q.1,q.2.1,q.2.2,to⟩) g hi ho,fun hz=>?_⟩
 rw [hA] at hz ⊢
 refine ⟨Znp (c:=⟨n,q.1,q.2.1,q.2.2,to⟩) g hi ho hz,?_⟩
 unfold Zaa at hz ⊢
 split at hz
 ·cases hz
 ·rename_i hs
  split at hz
  ·rename_i hw
   split at hz
   ·cases hz
   ·rename_i hd
    rw [if_neg hs,if_pos hw,if_neg hd]
    exact Zdy ho hs
  ·cases hz
abbrev Pt4:=Int × Int × Int × Int
def eqP4 (a b:Pt4):Bool:=decide (a.1=b.1)&&(decide (a.2.1=b.2.1)&&(decide (a.2.2.1=b.2.2.1)&&decide (a.2.2.2=b.2.2.2)))
def eqP:List Pt4->List Pt4->Bool
 | [],[]=>true
 | x::a,y::b=>eqP4 x y&&eqP a b
 | _,_=>false
def same (a b:Pth):Bool:=eqN a.ss b.ss&&(decide (a.sq=b.sq)&&eqP a.ps b.ps)
structure AskOk (h:Hal) (s:Stg) (a:Ask):Prop where
 e0:serr h s=0
 f:Near 5000 (a.fx,a.fy,a.fz)
 t:Near 5000 (a.tx,a.ty,a.tz)
 fi:Zam h ⟨a.fx,a.fy,a.fz,1⟩=true
 ti:Zam h ⟨a.tx,a.ty,a.tz,1⟩=true
 ne:a.same=false
 n:0<=a.n/\a.n<=4
theorem Zes {h:Hal} {s:Stg} {a:Ask} (e:askE h s a=0):AskOk h s a:=by
 unfold askE at e
 split at e
 ·rename_i e0
  simp only [fstL] at e
  by_cases c1:plaE h a.fx a.fy a.fz=0
  rotate_left
  ·rw [if_pos (fun k=>c1 k)] at e; exact absurd e c1
  by_cases c2:plaE h a.tx a.ty a.tz=0
  rotate_left
  ·rw [if_neg (fun k=>k c1),if_pos (fun k=>c2 k)] at e; exact absurd e c2
  by_cases c3:unl (!a.same) 11=0
  rotate_left
  ·rw [if_neg (fun k=>k c1),if_neg (fun k=>k c2),if_pos (fun k=>c3 k)] at e; exact absurd e c3
  by_cases c4:unl (within a.n 0 4) 2=0
  rotate_left
  ·rw [if_neg (fun k=>k c1),if_neg (fun k=>k c2),if_neg (fun k=>k c3),if_pos (fun k=>c4 k)] at e; exact absurd e c4
  refine ⟨e0,(Zd7 c1).1,(Zd7 c2).1,(Zd7 c1).2,(Zd7 c2).2,?_,?_⟩
  ·cases hs:a.same with
   | false=>rfl
   | true=>rw [hs] at c3; cases c3
  ·cases hw:within a.n 0 4 with
   | true=>exact within_iff.1 hw
   | false=>rw [hw] at c4; cases c4
 ·rename_i e0; exact absurd e e0
abbrev qF (a:Ask):Pl3:=(a.fx,a.fy,a.fz)
abbrev qT (a:Ask):Pl3:=(a.tx,a.ty,a.tz)
def pofV (h:Hal) (s:Stg) (a:Ask) (ns:List Int):Option Pth × Int:=if askE h s a=0 then (if suE h ns=0 then (match Zaf h s (qF a) (qT a) ns with
 | none=>(none,12)
 | some p=>(some p,0)) else (none,suE h ns)) else (none,askE h s a)
def rawO:Option Pth->AV
 | none=>.agg [.nils,.nils,I 0]
 | some p=>p.av
theorem d65a {h:Hal} (hk:h.ok) {s:Stg} (hs:s.few) {a:Ask} (e:askE h s a=0) {ns:List Int} (e2:suE h ns=0):PCall Tryz.prog 19 [.agg (stgL h s),a.av,.isl 1 (nl ns)] ⟨rawP (Zaf h s (qF a) (qT a) ns),[]⟩ :=
 d65 hk hs (Zes e).e0 a (Zes e).f (Zes e).t (Zn8 e2).1 (Zn8 e2).2
theorem d14 {h:Hal} (hk:h.ok) {s:Stg} (hs:s.few) (a:Ask) {ns:List Int} (hl:ns.length<1000):PCall Tryz.prog 8 [h.av,s.av,a.av,.isl 1 (nl ns)] ⟨.tup [rawO (pofV h s a ns).1,I (pofV h s a ns).2],[]⟩:=by
 have ha:=d24 hk hs a
 have hp:=fun e e2=>d65a (a:=a) (ns:=ns) hk hs e e2
 obtain ⟨fx,fy,fz,tx,ty,tz,n⟩:=a
 unfold pofV
 by_cases e:askE h s ⟨fx,fy,fz,tx,ty,tz,n⟩=0
 rotate_left
 ·rw [if_neg e]
  have hk0:=Zcc ha Zh
  have o1:=Zak [h.av,s.av,Ask.av ⟨fx,fy,fz,tx,ty,tz,n⟩] ⟨I (askE h s ⟨fx,fy,fz,tx,ty,tz,n⟩),[]⟩
  generalize askE h s ⟨fx,fy,fz,tx,ty,tz,n⟩=E at *
  refine pn hk0 Tryz.func8 ?_
  repeat'(first|refine wk3 ?_|(refine wk2 ?_ ?_<;>intro _)|fail)
  all_goals first
   | exact Zg rfl rfl
   | (exfalso; simp_all; done)
 have e0:=(Zes e).e0
 have hw:=d165 hk (Zkj e0) ns hl
 rw [if_pos e]
 rw [e] at ha
 by_cases e2:suE h ns=0
 rotate_left
 ·rw [if_neg e2]
  have hk0:=Zcc ha (Zcc hw Zh)
  have o1:=Zak [h.av,s.av,Ask.av ⟨fx,fy,fz,tx,ty,tz,n⟩] ⟨I 0,[]⟩
  have o2:=Zak [h.av,.isl 1 (nl ns)] ⟨I (suE h ns),[]⟩
  generalize suE h ns=E at *
  refine pn hk0 Tryz.func8 ?_
  repeat'(first|refine wk3 ?_|(refine wk2 ?_ ?_<;>intro _)|fail)
  all_goals first
   | exact Zg rfl rfl
   | (exfalso; clear hk0 o1 o2; simp_all; done)
 rw [if_pos e2]
 have hp:=hp e e2
 rw [e2] at hw
 have hk0:=Zcc ha (Zcc hw (Zcc hp Zh))
 have o1:=Zak [h.av,s.av,Ask.av ⟨fx,fy,fz,tx,ty,tz,n⟩] ⟨I 0,[]⟩
 have o2:=Zak [h.av,.isl 1 (nl ns)] ⟨I 0,[]⟩
 generalize Zaf h s (qF ⟨fx,fy,fz,tx,ty,tz,n⟩) (qT ⟨fx,fy,fz,tx,ty,tz,n⟩) ns=R at *
 have o3:=Zak [.agg (stgL h s),Ask.av ⟨fx,fy,fz,tx,ty,tz,n⟩,.isl 1 (nl ns)] ⟨rawP R,[]⟩
 cases R with
 | none =>
  refine pn hk0 Tryz.func8 ?_
  repeat'(first|refine wk3 ?_|(refine wk2 ?_ ?_<;>intro _)|fail)
  all_goals exact Zg rfl rfl
 | some p =>
  obtain ⟨ss,ps,sq⟩:=p
  refine pn hk0 Tryz.func8 ?_
  repeat'(first|refine wk3 ?_|(refine wk2 ?_ ?_<;>intro _)|fail)
  all_goals exact Zg rfl rfl
end Go.Proofs.YtohjcchcladneaaGreat

namespace Go.Proofs.YtohjcchcladneaaGreat
open Go Go.Sx
theorem Zzf {a b c x y z:Int} (h1:Near 45000 (a,b,c)) (h2:Near 5000 (x,y,z)):sqV a b c x y z=(a-x)*(a-x)+(b-y)*(b-y)+(c-z)*(c-z)/\sqV a b c x y z<=24300000000:=by
 obtain ⟨p1,p2,p3⟩:=h1
 obtain ⟨r1,r2,r3⟩:=h2
 dsimp only at p1 p2 p3 r1 r2 r3
 have k:∀ u v:Int,(-45000<=u/\u<=45000)->(-5000<=v/\v<=5000)->Qa Qb (u-v)=u-v/\(0<=(u-v)*(u-v)/\(u-v)*(u-v)<=2500000000)/\Qa Qb (Qa Qb (u-v)*Qa Qb (u-v))=(u-v)*(u-v):=fun u v hu hv=>by
  have e1:Qa Qb (u-v)=u-v:=W_eq (by omega) (by omega)
  have e2:0<=(u-v)*(u-v)/\(u-v)*(u-v)<=2500000000:=by
   generalize hd:u-v=d
   have hd1 : -50000<=d:=by omega
   have hd2:d<=50000:=by omega
   constructor
   ·rcases Int.le_total 0 d with h|h
    ·exact Qu h h
    ·have:=Qu (show 0 <= -d by omega) (show 0 <= -d by omega)
     rwa [Int.neg_mul_neg] at this
   ·have:=Qu (show 0<=50000-d by omega) (show 0<=50000+d by omega)
    have e:(50000-d)*(50000+d)=2500000000-d*d:=by rw [Ml,Oa,Oa]; omega
    omega
  exact ⟨e1,e2,by rw [e1]; exact W_eq (by omega) (by omega)⟩
 obtain ⟨_,a1,a2⟩:=k a x p1 r1
 obtain ⟨_,b1,b2⟩:=k b y p2 r2
 obtain ⟨_,c1,c2⟩:=k c z p3 r3
 unfold sqV
 rw [a2,b2,c2]
 rw [W_eq (n:=(a-x)*(a-x)+(b-y)*(b-y)) (by omega) (by omega),W_eq (by omega) (by omega)]
 exact ⟨rfl,by omega⟩
theorem Zuy {h:Hal} (g:h.fine) {p q:Pt} (hp:PtR p) (hq:PtR q):(wls h.cs).any (touP p q)=true↔∃ w∈wls h.cs,∃ n sx sy,Str w n sx sy/\Vj w n sx sy p.pl q.pl:=by
 rw [List.any_eq_true]
 constructor
 ·rintro ⟨w,hw,ht⟩
  obtain ⟨n,sx,sy,hs⟩:=Ue g.st w hw
  exact ⟨w,hw,n,sx,sy,hs,(Zcq hs hp hq).1 ht⟩
 ·rintro ⟨w,hw,n,sx,sy,hs,hm⟩
  exact ⟨w,hw,(Zcq hs hp hq).2 hm⟩
theorem Zj5 {h:Hal} {s:Stg} (g:Sit h s) {p q:Pt} (hp:PtH p) (hq:PtH q):∀ (l:List Can) (j:Nat),h.ks.drop j=l->(blkA h s p q j l=true↔∃ i,∃ hi:i<h.ks.length,j<=i/\blkS h.ks[i].rc (Zbo h s i) p q)
 | [],j,hl=>by
  have hj:h.ks.length<=j:=by
   rcases Ow j h.ks.length with hj|hj
   ·rw [Qr hj] at hl; cases hl
   ·exact hj
  rw [blkA]
  constructor
  ·intro h; cases h
  ·rintro ⟨i,hi,h1,_⟩; omega
 | c::l,j,hl=>by
  have hj:j<h.ks.length:=by
   rcases Ow j h.ks.length with hj|hj
   ·exact hj
   ·rw [Rb hj] at hl; cases hl
  rw [Qr hj] at hl
  simp only [Rw] at hl
  obtain ⟨rfl,hl⟩:=hl
  have hb:=Zoy g hj
  have ht:=g.fine.ht
  rw [blkA,Qy,Zj5 g hp hq l (j+1) hl,Zw8 (Zmx (Zfg g.fine hj).1) ⟨by omega,by omega⟩ hp hq]
  constructor
  ·rintro (h1|⟨i,hi,h1,h2⟩)
   ·exact ⟨j,hj,Qm _,h1⟩
   ·exact ⟨i,hi,by omega,h2⟩
  ·rintro ⟨i,hi,h1,h2⟩
   by_cases e:i=j
   ·subst e; exact .inl h2
   ·exact .inr ⟨i,hi,by omega,h2⟩
structure Free (h:Hal) (s:Stg) (p q:Pt):Prop where
 z:zBad h p q=false
 w:∀ w∈wls h.cs,∀ n sx sy,Str w n sx sy -> ¬ Vj w n sx sy p.pl q.pl
 m:Zu h (midX p q) (midY p q) (midD p q)=true
 k:∀ i (hi:i<h.ks.length),¬ blkS h.ks[i].rc (Zbo h s i) p q
theorem Zf7 {w:Wl} {n sx sy m tx ty:Int} (h:Str w n sx sy) (g:Str w m tx ty):n=m/\sx=tx/\sy=ty:=by
 have h1:=h.ln
 have h2:=g.ln
 exact ⟨h1.2.2.1.symm.trans h2.2.2.1,h1.2.2.2.1.symm.trans h2.2.2.2.1,h1.2.2.2.2.symm.trans h2.2.2.2.2⟩
theorem Zwh {h:Hal} {s:Stg} (g:Sit h s) {p q:Pt} (hp:PtH p) (hq:PtH q):Zc5 h s p q=true↔Free h s p q:=by
 unfold Zc5
 rw [Qf,Qf,Qf,Sc,Sc,Sc]
 constructor
 ·rintro ⟨h1,h2,h3,h4⟩
  refine ⟨h1,fun w hw n sx sy hs hm=>?_,h3,fun i hi hb=>?_⟩
  ·have:=(Zuy g.fine hp.r hq.r).2 ⟨w,hw,n,sx,sy,hs,hm⟩
   rw [h2] at this; cases this
  ·have:=(Zj5 g hp hq h.ks 0 rfl).2 ⟨i,hi,Rl _,hb⟩
   rw [h4] at this; cases this
 ·rintro ⟨h1,h2,h3,h4⟩
  refine ⟨h1,?_,h3,?_⟩
  ·rw [Qs]
   intro hh
   obtain ⟨w,hw,n,sx,sy,hs,hm⟩:=(Zuy g.fine hp.r hq.r).1 hh
   exact h2 w hw n sx sy hs hm
  ·rw [Qs]
   intro hh
   obtain ⟨i,hi,_,hb⟩:=(Zj5 g hp hq h.ks 0 rfl).1 hh
   exact h4 i hi hb
theorem Yb8 {p q:Pt} (hp:0<p.d) (hq:0<q.d) (gp:g4 p=1) (gq:g4 q=1) (hx:p.x*q.d=q.x*p.d) (hy:p.y*q.d=q.y*p.d) (hz:p.z*q.d=q.z*p.d):p.d=q.d:=by
 have key:∀ p q:Pt,g4 p=1->p.x*q.d=q.x*p.d->p.y*q.d=q.y*p.d->p.z*q.d=q.z*p.d->p.d.natAbs ∣ q.d.natAbs:=by
  intro p q gp hx hy hz
  have h1:p.d.natAbs ∣ p.x.natAbs*q.d.natAbs:=by rw [<-Tj,hx,Tj]; exact Km _ _
  have h2:p.d.natAbs ∣ p.y.natAbs*q.d.natAbs:=by rw [<-Tj,hy,Tj]; exact Km _ _
  have h3:p.d.natAbs ∣ p.z.natAbs*q.d.natAbs:=by rw [<-Tj,hz,Tj]; exact Km _ _
  have h4:p.d.natAbs ∣ p.d.natAbs*q.d.natAbs:=Nat.dvd_mul_right _ _
  have h5:=Gi (Gi h1 h2) (Gi h3 h4)
  rw [Pp,Pp,Pp] at h5
  change p.d.natAbs ∣ g4 p*q.d.natAbs at h5
  rwa [gp,Nat.one_mul] at h5
 have a:=key p q gp hx hy hz
 have b:=key q p gq hx.symm hy.symm hz.symm
 have:=Nat.dvd_antisymm a b
 omega
theorem Zoi {p q:Pt}:ptEq p q=true↔p=q:=by
 obtain ⟨a,b,c,d⟩:=p
 obtain ⟨x,y,z,w⟩:=q
 unfold ptEq
 simp only [Qf,decide_eq_true_eq,Pt.mk.injEq,and_assoc]
theorem Zkx (p q:Pt):ptEq p q=ptEq q p:=by
 rw [Bool.eq_iff_iff,Zoi,Zoi]
 exact ⟨Eq.symm,Eq.symm⟩
theorem Zy8 {h:Hal} {s:Stg} {p q:Pt} (h1:serr h s=0) (h2:Zy p=0) (h3:Zy q=0) (h4:ptEq p q=false):wayE h s p q=0:=by
 unfold wayE
 rw [if_pos h1,if_pos h2,if_pos h3,h4]; rfl
def cmb (p q:Pt) (u v:Int):Pt:=⟨p.x*u+q.x*v,p.y*u+q.y*v,p.z*u+q.z*v,p.d*u+q.d*v⟩
def scl (p:Pt) (w:Int):Pt:=⟨p.x*w,p.y*w,p.z*w,p.d*w⟩
def mU (pl:Int × Int) (p:Pt):Pt :=
 if pl.1=0 then ⟨2*pl.2*p.d-p.x,p.y,p.z,p.d⟩ else if pl.1=1 then ⟨p.x,2*pl.2*p.d-p.y,p.z,p.d⟩ else if pl.1=2 then ⟨p.x,p.y,2*pl.2*p.d-p.z,p.d⟩ else if pl.1=3 then ⟨pl.2*p.d-p.y,pl.2*p.d-p.x,p.z,p.d⟩ else ⟨p.y+pl.2*p.d,p.x-pl.2*p.d,p.z,p.d⟩
def vl (pl:Int × Int) (p:Pt):Int:=valN pl.1 p.x p.y p.z-pl.2*p.d
theorem Us {p q:Pt} (h1:p.x=q.x) (h2:p.y=q.y) (h3:p.z=q.z) (h4:p.d=q.d):p=q:=by
 obtain ⟨a,b,c,d⟩:=p
 obtain ⟨x,y,z,w⟩:=q
 dsimp only at *
 subst h1 h2 h3 h4
 rfl
theorem Yci (pl:Int × Int) (p q:Pt) (u v:Int):mU pl (cmb p q u v)=cmb (mU pl p) (mU pl q) u v:=by
 unfold mU cmb
 repeat' split
 all_goals (refine Us ?_ ?_ ?_ ?_<;>dsimp only<;>grind)
theorem Ycg (pl:Int × Int) (p:Pt) (w:Int):mU pl (scl p w)=scl (mU pl p) w:=by
 unfold mU scl
 repeat' split
 all_goals (refine Us ?_ ?_ ?_ ?_<;>dsimp only<;>grind)
theorem Zv1 (pl:Int × Int) (p:Pt):mU pl (mU pl p)=p:=by
 unfold mU
 repeat' split
 all_goals (refine Us ?_ ?_ ?_ ?_<;>dsimp only<;>grind)
theorem Ych {pl:Int × Int} (hk:0<=pl.1/\pl.1<=4) {p:Pt} (h:vl pl p=0):mU pl p=p:=by
 unfold vl valN at h
 unfold mU
 repeat' split at h
 all_goals simp only [*] at *
 all_goals (refine Us ?_ ?_ ?_ ?_<;>simp<;>grind)
theorem Ybr (pl:Int × Int) (p q:Pt) (u v:Int):vl pl (cmb p q u v)=vl pl p*u+vl pl q*v:=by
 unfold vl cmb
 dsimp only
 rw [Zn6]
 grind
theorem Ybq (pl:Int × Int) (p:Pt) (w:Int):vl pl (scl p w)=vl pl p*w:=by
 unfold vl scl
 dsimp only
 rw [Zn5]
 grind
def dst2 (p q:Pt):Int:=(p.x-q.x)*(p.x-q.x)+(p.y-q.y)*(p.y-q.y)+(p.z-q.z)*(p.z-q.z)
theorem Znm (pl:Int × Int) {p q:Pt} (h:p.d=q.d):dst2 (mU pl p) (mU pl q)=dst2 p q:=by
 unfold dst2 mU
 repeat' split
 all_goals (dsimp only; rw [h]; grind)
theorem mU_d (pl:Int × Int) (p:Pt):(mU pl p).d=p.d:=by
 unfold mU
 repeat' split
 all_goals rfl
theorem Zzt {h:Hal} {s:Stg} (g:Sit h s) {n:Int} (hi:SK h n) {q:Pl3} (hq:Near 35000 q):pnt (im1 h s n q)=mU (Zc h s n) (pnt q):=by
 obtain ⟨b1,b2⟩:=Zf8 g hi
 obtain ⟨x,y,z⟩:=q
 obtain ⟨hx,hy,hz⟩:=hq
 dsimp only at hx hy hz
 unfold im1 mU pnt rmir
 generalize Zc h s n=pl at *
 obtain ⟨k,a⟩:=pl
 dsimp only at *
 repeat' split
 all_goals (refine Us ?_ ?_ ?_ ?_<;>dsimp only)
 all_goals (try (rw [W_eq (n:=2*a) (by omega) (by omega)]))
 all_goals (try (rw [W_eq (by omega) (by omega)]))
 all_goals (try omega)
theorem Zjz (n:Int) (f:Pl3) (to:Pt) (u v:Int):crPt ⟨n,f.1,f.2.1,f.2.2,to⟩ u v=cmb (pnt f) to u v:=by
 unfold crPt cmb pnt
 dsimp only
 rw [Sn]
theorem Zpc (pl:Int × Int) (n:Int) (f:Pl3) (to:Pt):crF pl ⟨n,f.1,f.2.1,f.2.2,to⟩=vl pl (pnt f):=by
 unfold crF vl pnt
 dsimp only
 rw [Rs]
theorem Zpb (pl:Int × Int) (n:Int) (f:Pl3) (to:Pt):crG pl ⟨n,f.1,f.2.1,f.2.2,to⟩=vl pl to:=rfl
structure Xing (h:Hal) (n:Int) (pl:Int × Int) (f to P:Pt):Prop where
 err:Zy P=0
 on:vl pl P=0
 well:Zaw h n P=true
 ends:vl pl f≠0/\vl pl to≠0
 btw:∃ u v w,0<u/\0<v/\0<w/\cmb f to u v=scl P w
theorem Ya2 {h:Hal} {s:Stg} (g:Sit h s) (e0:serr h s=0) {n:Int} (hn:0<=n/\n<nsur h) {f:Pl3} (hf:Near 45000 f) {to:Pt} (hto:Zy to=0) (hz:(crsA h s ⟨n,f.1,f.2.1,f.2.2,to⟩).2=0) :
  Xing h n (Zc h s n) (pnt f) to (crsA h s ⟨n,f.1,f.2.1,f.2.2,to⟩).1:=by
 obtain ⟨ho,hi,hA,hX⟩:=Zl7 g e0 hn hf hto
 obtain ⟨x1,x2⟩:=hX hz
 rw [hA] at hz x1 x2 ⊢
 unfold Zaa at hz x1 x2 ⊢
 split at hz
 ·cases hz
 ·rename_i hs
  split at hz
  ·rename_i hw
   split at hz
   ·cases hz
   ·rename_i hd
    rw [if_neg hs,if_pos hw,if_neg hd] at x1 x2 ⊢
    dsimp only at x1 x2 ⊢
    obtain ⟨⟨a1,a2⟩,b1,b2⟩:=Zn1 ho hs
    obtain ⟨⟨g1,_⟩,_,_,r1,r2,r3,r4⟩:=Vv (Uz ho hs)
    have h3:=sgn_mul_neg.1 (show sgn (crF (Zc h s n) ⟨n,f.1,f.2.1,f.2.2,to⟩)*sgn (crG (Zc h s n) ⟨n,f.1,f.2.1,f.2.2,to⟩)<0 by omega)
    rw [Zpc,Zpb] at h3
    refine ⟨x1,by unfold vl; omega,hw,by omega,_,_,_,a1,b1,g1,?_⟩
    rw [<-Zjz n]
    exact (Us r1 r2 r3 r4).symm
  ·cases hz
theorem Ycj {p q:Pt} (hp:0<p.d) (hq:0<q.d) (gp:g4 p=1) (gq:g4 q=1) {a b:Int} (ha:0<a) (h:scl p a=scl q b):p=q:=by
 have hx:p.x*a=q.x*b:=congrArg Pt.x h
 have hy:p.y*a=q.y*b:=congrArg Pt.y h
 have hz:p.z*a=q.z*b:=congrArg Pt.z h
 have hd:p.d*a=q.d*b:=congrArg Pt.d h
 have k:∀ {x y:Int},x*a=y*b->x*q.d=y*p.d:=fun {x y} e=>by
  refine Tf (show a≠0 by omega) ?_
  have:x*q.d*a=(x*a)*q.d:=by grind
  rw [this,e]
  have:y*p.d*a=y*(p.d*a):=by grind
  rw [this,hd]; grind
 have e:=Yb8 hp hq gp gq (k hx) (k hy) (k hz)
 have k2:∀ {x y:Int},x*a=y*b->x=y:=fun {x y} e2=>by
  have:=k e2
  rw [e] at this
  exact Tf (show q.d≠0 by omega) this
 exact Us (k2 hx) (k2 hy) (k2 hz) e
theorem Ztu {h:Hal} {s:Stg} (g:Sit h s) (e0:serr h s=0) {n:Int} (hn:0<=n/\n<nsur h) {f:Pl3} (hf:Near 45000 f) {to:Pt} (hto:Zy to=0) {P:Pt} (hX:Xing h n (Zc h s n) (pnt f) to P) :
  crsA h s ⟨n,f.1,f.2.1,f.2.2,to⟩=(P,0):=by
 obtain ⟨ho,hi,hA,_⟩:=Zl7 g e0 hn hf hto
 obtain ⟨he,hon,hw,⟨k1,k2⟩,u,v,w,u0,v0,w0,hb⟩:=hX
 obtain ⟨p1,p2,p3,_⟩:=Xv he
 have hsum:vl (Zc h s n) (pnt f)*u+vl (Zc h s n) to*v=0:=by
  rw [<-Ybr,hb,Ybq,hon,Rk]
 have hop:(vl (Zc h s n) (pnt f)<0/\0<vl (Zc h s n) to)\/(0<vl (Zc h s n) (pnt f)/\vl (Zc h s n) to<0):=by
  rcases Int.lt_trichotomy (vl (Zc h s n) (pnt f)) 0 with c|c|c
  ·left
   refine ⟨c,?_⟩
   have:=Ra (show 0 < -vl (Zc h s n) (pnt f) by omega) u0
   rw [Tc] at this
   rcases My 0 (vl (Zc h s n) to) with d|d
   ·exact d
   ·have:=Qu (show 0 <= -vl (Zc h s n) to by omega) (Qx v0)
    rw [Tc] at this
    omega
  ·exact absurd c k1
  ·right
   refine ⟨c,?_⟩
   have:=Ra c u0
   rcases My (vl (Zc h s n) to) 0 with d|d
   ·exact d
   ·have:=Qu d (Qx v0)
    omega
 have hs:¬ 0<=sgn (crF (Zc h s n) ⟨n,f.1,f.2.1,f.2.2,to⟩)*sgn (crG (Zc h s n) ⟨n,f.1,f.2.1,f.2.2,to⟩):=by
  rw [Zpc,Zpb]
  exact Int.not_le.2 (sgn_mul_neg.2 hop)
 have hbig:=Uz ho hs
 obtain ⟨⟨g1,_⟩,_,hb3,r1,r2,r3,r4⟩:=Vv hbig
 have hg:=Zo2 hbig
 have hP:Xg (Zc h s n) ⟨n,f.1,f.2.1,f.2.2,to⟩=P:=by
  rw [Zjz,Zpc,Zpb] at *
  have hr:scl (redP (cmb (pnt f) to (iabs (vl (Zc h s n) to)) (iabs (vl (Zc h s n) (pnt f))))) (g4 (cmb (pnt f) to (iabs (vl (Zc h s n) to)) (iabs (vl (Zc h s n) (pnt f)))))=cmb (pnt f) to (iabs (vl (Zc h s n) to)) (iabs (vl (Zc h s n) (pnt f))):=Us r1 r2 r3 r4
  have hab:iabs (vl (Zc h s n) (pnt f))*u=iabs (vl (Zc h s n) to)*v/\0<iabs (vl (Zc h s n) (pnt f)):=by
   unfold iabs
   rcases hop with ⟨c,d⟩|⟨c,d⟩
   ·rw [if_pos c,if_neg (by omega)]
    refine ⟨?_,by omega⟩
    rw [Tc]; omega
   ·rw [if_neg (by omega),if_pos d]
    refine ⟨?_,by omega⟩
    rw [Tc]; omega
  unfold Xg
  rw [Zjz,Zpc,Zpb]
  generalize iabs (vl (Zc h s n) (pnt f))=β at *
  generalize iabs (vl (Zc h s n) to)=α at *
  refine (Ycj p1 hb3.d.1 p3 hg (a:=w*β) (b:=v*(g4 (cmb (pnt f) to α β):Int)) (Ra w0 hab.2) ?_).symm
  have e1:scl P (w*β)=scl (scl P w) β:=by unfold scl; refine Us ?_ ?_ ?_ ?_<;>dsimp only<;>grind
  have e2:∀ (Q:Pt) (x y:Int),scl Q (x*y)=scl (scl Q y) x:=fun Q x y=>by unfold scl; refine Us ?_ ?_ ?_ ?_<;>dsimp only<;>grind
  rw [e1,e2,hr,<-hb]
  unfold scl cmb
  have:=hab.1
  refine Us ?_ ?_ ?_ ?_<;>dsimp only<;>grind
 rw [hA]
 unfold Zaa
 rw [if_neg hs,hP,if_pos hw,if_neg (by omega)]
theorem Zrj {q r:Pl3} (h1:Near 45000 q) (h2:Near 5000 r):sqV q.1 q.2.1 q.2.2 r.1 r.2.1 r.2.2=dst2 (pnt q) (pnt r):=(Zzf (a:=q.1) (b:=q.2.1) (c:=q.2.2) (x:=r.1) (y:=r.2.1) (z:=r.2.2) h1 h2).1
theorem Zig {h:Hal} {s:Stg} {q0 q1:Pl3} {ns:List Int} {P:List Pt} (hg:goP (fP h s) (lkG (im1 h s) q0 ns).reverse (pnt q1) []=some P) (hc:chkW (wP h s) (pnt q0::P++[pnt q1])=true) :
  Zaf h s q0 q1 ns=some ⟨ns,P.map tup4,sqV (imA (im1 h s) q0 ns ns.length).1 (imA (im1 h s) q0 ns ns.length).2.1 (imA (im1 h s) q0 ns ns.length).2.2 q1.1 q1.2.1 q1.2.2⟩:=by
 rw [Zjl,hg]
 dsimp only
 rw [if_pos hc]
theorem Zr2 {h:Hal} {s:Stg} {q0 q1:Pl3} {ns:List Int} {p:Pth} (e:Zaf h s q0 q1 ns=some p):∃ P,goP (fP h s) (lkG (im1 h s) q0 ns).reverse (pnt q1) []=some P/\chkW (wP h s) (pnt q0::P++[pnt q1])=true/\p=⟨ns,P.map tup4,sqV (imA (im1 h s) q0 ns ns.length).1 (imA (im1 h s) q0 ns ns.length).2.1 (imA (im1 h s) q0 ns ns.length).2.2 q1.1 q1.2.1 q1.2.2⟩:=by
 rw [Zjl] at e
 split at e
 ·cases e
 ·rename_i P hP
  split at e
  ·rename_i hc
   cases e
   exact ⟨P,hP,hc,rfl⟩
  ·cases e
def boxH (sx sy sz:Int):Hal:=⟨⟨#[104]⟩,sz,⟨#[119]⟩,⟨#[119]⟩,[⟨⟨#[119]⟩,100,100,100,100,0⟩],[(0,0),(sx,0),(sx,sy),(0,sy)],[⟨⟨#[97]⟩,⟨#[119]⟩,⟨#[]⟩⟩,⟨⟨#[98]⟩,⟨#[119]⟩,⟨#[]⟩⟩,⟨⟨#[99]⟩,⟨#[119]⟩,⟨#[]⟩⟩,⟨⟨#[100]⟩,⟨#[119]⟩,⟨#[]⟩⟩],[],[]⟩
structure BoxS (sx sy sz:Int):Prop where
 x:2<=sx/\sx<=2000
 y:2<=sy/\sy<=2000
 z:2<=sz/\sz<=2000
abbrev bw0 (sx:Int):Wl:=⟨0,0,0,sx,0⟩
abbrev bw1 (sx sy:Int):Wl:=⟨1,sx,0,sx,sy⟩
abbrev bw2 (sx sy:Int):Wl:=⟨2,sx,sy,0,sy⟩
abbrev bw3 (sy:Int):Wl:=⟨3,0,sy,0,0⟩
theorem Zht (sx sy sz:Int):wls (boxH sx sy sz).cs=[bw0 sx,bw1 sx sy,bw2 sx sy,bw3 sy]:=by
 simp [wls,boxH,wlOf,cor,List.range,List.range.loop]
variable {sx sy sz:Int}
theorem bs0 (b:BoxS sx sy sz):Str (bw0 sx) sx 1 0:=by
 obtain ⟨⟨x1,x2⟩,⟨y1,y2⟩,_⟩:=b
 constructor<;>(try simp)<;>(try omega)
theorem bs1 (b:BoxS sx sy sz):Str (bw1 sx sy) sy 0 1:=by
 obtain ⟨⟨x1,x2⟩,⟨y1,y2⟩,_⟩:=b
 constructor<;>(try simp)<;>(try omega)
theorem bs2 (b:BoxS sx sy sz):Str (bw2 sx sy) sx (-1) 0:=by
 obtain ⟨⟨x1,x2⟩,⟨y1,y2⟩,_⟩:=b
 constructor<;>(try simp)<;>(try omega)
theorem bs3 (b:BoxS sx sy sz):Str (bw3 sy) sy 0 (-1):=by
 obtain ⟨⟨x1,x2⟩,⟨y1,y2⟩,_⟩:=b
 constructor<;>(try simp)<;>(try omega)
theorem Ydk:(Xk 0 [] (boxH sx sy sz).ms).2.1=0:=rfl
theorem Ydp:Zhf (boxH sx sy sz) (boxH sx sy sz).names=0:=rfl
theorem Ybm (b:BoxS sx sy sz):(Zdz 0 (boxH sx sy sz).cs).2=0:=by
 obtain ⟨⟨x1,x2⟩,⟨y1,y2⟩,_⟩:=b
 have h1:small sx 5000=true:=by unfold small; rw [show IntKind.i64.wrap (0-5000) = -5000 from rfl]; exact within_iff.2 ⟨by omega,by omega⟩
 have h2:small sy 5000=true:=by unfold small; rw [show IntKind.i64.wrap (0-5000) = -5000 from rfl]; exact within_iff.2 ⟨by omega,by omega⟩
 have h3:small 0 5000=true:=rfl
 simp [Zdz,boxH,Zeo,h1,h2,h3]
theorem Zqx (b:BoxS sx sy sz):Yo (boxH sx sy sz)=true:=by
 have t02:=Zgl (bs0 b) (bs2 b)
 have t13:=Zgl (bs1 b) (bs3 b)
 obtain ⟨⟨x1,x2⟩,⟨y1,y2⟩,_⟩:=b
 have n02:(bw0 sx).touches (bw2 sx sy)=false:=by
  rw [Qs]
  intro h
  rw [t02] at h
  simp only [bes,alo,onW] at h
  omega
 have n13:(bw1 sx sy).touches (bw3 sy)=false:=by
  rw [Qs]
  intro h
  rw [t13] at h
  simp only [bes,alo,onW] at h
  omega
 unfold Yo
 rw [Zht]
 have d1:(bw0 sx).dx=sx:=by unfold Wl.dx; dsimp only; rw [W_eq (by omega) (by omega)]; omega
 have d2:(bw1 sx sy).dy=sy:=by unfold Wl.dy; dsimp only; rw [W_eq (by omega) (by omega)]; omega
 have d3:(bw2 sx sy).dx = -sx:=by unfold Wl.dx; dsimp only; rw [W_eq (by omega) (by omega)]; omega
 have d4:(bw3 sy).dy = -sy:=by unfold Wl.dy; dsimp only; rw [W_eq (by omega) (by omega)]; omega
 have c1:(bw0 sx).dy=0:=rfl
 have c2:(bw1 sx sy).dx=0:=by unfold Wl.dx; dsimp only; rw [Nv]; rfl
 have c3:(bw2 sx sy).dy=0:=by unfold Wl.dy; dsimp only; rw [Nv]; rfl
 have c4:(bw3 sy).dx=0:=rfl
 have b01:(bw0 sx).turnsBack (bw1 sx sy)=false:=by unfold Wl.turnsBack; rw [d1,d2,c1,c2]; simp [show IntKind.i64.wrap 0=0 from rfl]
 have b12:(bw1 sx sy).turnsBack (bw2 sx sy)=false:=by unfold Wl.turnsBack; rw [d3,d2,c3,c2]; simp [show IntKind.i64.wrap 0=0 from rfl]
 have b23:(bw2 sx sy).turnsBack (bw3 sy)=false:=by unfold Wl.turnsBack; rw [d3,d4,c3,c4]; simp [show IntKind.i64.wrap 0=0 from rfl]
 have b30:(bw3 sy).turnsBack (bw0 sx)=false:=by unfold Wl.turnsBack; rw [d1,d4,c1,c4]; simp [show IntKind.i64.wrap 0=0 from rfl]
 simp [Zcd,boxH,n02,n13,b01,b12,b23,b30,show IntKind.i64.wrap 1=1 from rfl,show IntKind.i64.wrap 2=2 from rfl,show IntKind.i64.wrap 3=3 from rfl]
theorem Ydu {sx sy:Int} (hx:2<=sx/\sx<=2000) (hy:2<=sy/\sy<=2000):4<=sx*sy/\sx*sy<=4000000:=by
 constructor
 ·exact Int.le_trans (by omega) (Lj hx.1 hy.1 (by omega) (by omega):2*2<=sx*sy)
 ·exact Int.le_trans (Lj hx.2 hy.2 (by omega) (by omega):sx*sy<=2000*2000) (by omega)
theorem Zw5 (b:BoxS sx sy sz):0<Zaz (boxH sx sy sz):=by
 have m:=Ydu b.x b.y
 unfold Zaz
 rw [Zht]
 simp only [List.foldl_cons,List.foldl_nil,Zqz,Sp,Rk]
 generalize sx*sy=q at *
 simp only [show IntKind.i64.wrap 0=0 from rfl,Mz,Tt,Tb]
 have e1:Qa Qb q=q:=W_eq (by omega) (by omega)
 have e2:Qa Qb (q+q)=q+q:=W_eq (by omega) (by omega)
 simp only [e1,e2]
 omega
theorem Ydo (b:BoxS sx sy sz):Xb (bw0 sx)=0:=by
 have h:=(bs0 b).dy
 obtain ⟨⟨x1,x2⟩,⟨y1,y2⟩,_⟩:=b
 unfold Xb
 rw [if_neg (by simp; omega),if_pos (by unfold Wl.straight; rw [h]; simp)]
theorem Ydn (b:BoxS sx sy sz):Xb (bw1 sx sy)=0:=by
 have h:=(bs1 b).dx
 obtain ⟨⟨x1,x2⟩,⟨y1,y2⟩,_⟩:=b
 unfold Xb
 rw [if_neg (by simp; omega),if_pos (by unfold Wl.straight; rw [h]; simp)]
theorem Ydm (b:BoxS sx sy sz):Xb (bw2 sx sy)=0:=by
 have h:=(bs2 b).dy
 obtain ⟨⟨x1,x2⟩,⟨y1,y2⟩,_⟩:=b
 unfold Xb
 rw [if_neg (by simp; omega),if_pos (by unfold Wl.straight; rw [h]; simp)]
theorem Ydl (b:BoxS sx sy sz):Xb (bw3 sy)=0:=by
 have h:=(bs3 b).dx
 obtain ⟨⟨x1,x2⟩,⟨y1,y2⟩,_⟩:=b
 unfold Xb
 rw [if_neg (by simp; omega),if_pos (by unfold Wl.straight; rw [h]; simp)]
theorem Zpg (k:Nat) (w:Wal) (ms:List ByteArray) (he:Xb (wlOf (boxH sx sy sz).cs k)=0) (h1:(Xn w.mt ms&&((w.cu==⟨#[]⟩)||Xn w.cu ms))=true):wErr (boxH sx sy sz).cs ms k w=0:=by
 unfold wErr Zpt
 rw [if_pos h1]
 exact he
theorem Ybb (b:BoxS sx sy sz):(boxH sx sy sz).wal.2.1=0:=by
 have hw:=Zht sx sy sz
 have w0:wlOf (boxH sx sy sz).cs 0=bw0 sx:=by simp [boxH,wlOf,cor]
 have w1:wlOf (boxH sx sy sz).cs 1=bw1 sx sy:=by simp [boxH,wlOf,cor]
 have w2:wlOf (boxH sx sy sz).cs 2=bw2 sx sy:=by simp [boxH,wlOf,cor]
 have w3:wlOf (boxH sx sy sz).cs 3=bw3 sy:=by simp [boxH,wlOf,cor]
 have e0:wErr (boxH sx sy sz).cs (boxH 0 0 0).names 0 ⟨⟨#[97]⟩,⟨#[119]⟩,⟨#[]⟩⟩=0:=Zpg 0 _ _ (by rw [w0]; exact Ydo b) rfl
 have e1:wErr (boxH sx sy sz).cs (boxH 0 0 0).names 1 ⟨⟨#[98]⟩,⟨#[119]⟩,⟨#[]⟩⟩=0:=Zpg 1 _ _ (by rw [w1]; exact Ydn b) rfl
 have e2:wErr (boxH sx sy sz).cs (boxH 0 0 0).names 2 ⟨⟨#[99]⟩,⟨#[119]⟩,⟨#[]⟩⟩=0:=Zpg 2 _ _ (by rw [w2]; exact Ydm b) rfl
 have e3:wErr (boxH sx sy sz).cs (boxH 0 0 0).names 3 ⟨⟨#[100]⟩,⟨#[119]⟩,⟨#[]⟩⟩=0:=Zpg 3 _ _ (by rw [w3]; exact Ydl b) rfl
 show (Uj (boxH sx sy sz).cs (boxH 0 0 0).names 0 su0 [⟨⟨#[97]⟩,⟨#[119]⟩,⟨#[]⟩⟩,⟨⟨#[98]⟩,⟨#[119]⟩,⟨#[]⟩⟩,⟨⟨#[99]⟩,⟨#[119]⟩,⟨#[]⟩⟩,⟨⟨#[100]⟩,⟨#[119]⟩,⟨#[]⟩⟩]).2.1=0
 rw [Uj,if_pos (show Zo ⟨#[97]⟩ su0=0 by rfl),if_pos e0,Uj,if_pos (show Zo ⟨#[98]⟩ _=0 by rfl),if_pos e1,Uj,if_pos (show Zo ⟨#[99]⟩ _=0 by rfl),if_pos e2,Uj,if_pos (show Zo ⟨#[100]⟩ _=0 by rfl),if_pos e3,Uj]
theorem Ybl (b:BoxS sx sy sz):(boxH sx sy sz).err=0:=by
 have h1:=Ybm b
 have h2:=Ybb b
 have h3:=Zqx b
 have h4:=Zw5 b
 have hz:within sz 2 5000=true:=by have:=b.z; exact within_iff.2 ⟨by omega,by omega⟩
 unfold Hal.err chk Znu
 rw [Ydk,Ydp,h1,h2,h3,decide_eq_true h4]
 have e:set7 (boxH sx sy sz)=⟨true,within sz 2 5000,true,true,true,true,true⟩:=rfl
 rw [e,hz]
 rfl
variable {sx sy sz:Int}
theorem Zyy (b:BoxS sx sy sz) {x y d:Int} (hp:PtOk x y d):Zu (boxH sx sy sz) x y d=true↔(0<x/\x<sx*d)/\0<y/\y<sy*d:=by
 have h0:=Xe (bs0 b) hp
 have h1:=Xe (bs1 b) hp
 have h2:=Xe (bs2 b) hp
 have h3:=Xe (bs3 b) hp
 have s1:=Yj (bs1 b) hp
 have s3:=Yj (bs3 b) hp
 have hd:=hp.hd
 have hD:=hp.hD
 have mx:2*d<=sx*d/\sx*d<=2000*d:=⟨Qk b.x.1 (by omega),Qk b.x.2 (by omega)⟩
 have my:2*d<=sy*d/\sy*d<=2000*d:=⟨Qk b.y.1 (by omega),Qk b.y.2 (by omega)⟩
 have f0:flips x y d (bw0 sx)=false:=by
  unfold flips
  dsimp only
  rw [Rk,show IntKind.i64.wrap 0=0 from rfl]
  simp
  omega
 have f2:flips x y d (bw2 sx sy)=false:=by
  unfold flips
  dsimp only
  rw [W_eq (n:=sy*d) (by omega) (by omega)]
  simp
  omega
 have f1:flips x y d (bw1 sx sy)=true↔0<=y/\y<sy*d/\x<sx*d:=by
  unfold flips
  rw [s1]
  dsimp only
  rw [Rk,show IntKind.i64.wrap 0=0 from rfl,W_eq (n:=sy*d) (by omega) (by omega)]
  simp only [Qy,Qf,decide_eq_true_eq,Yw,sgn_neg_iff,bes,Rk,Sn]
  omega
 have f3:flips x y d (bw3 sy)=true↔0<=y/\y<sy*d/\x<0:=by
  unfold flips
  rw [s3]
  dsimp only
  rw [Rk,show IntKind.i64.wrap 0=0 from rfl,W_eq (n:=sy*d) (by omega) (by omega)]
  simp only [Qy,Qf,decide_eq_true_eq,Yw,sgn_neg_iff,bes,Rk,Oi]
  omega
 simp only [onW,bes,alo,Rk,Sn,Oi,Rs,Sp,Tb,Tt,Mz,Tc,Int.mul_neg,Tl] at h0 h1 h2 h3
 unfold Zu
 rw [Zht]
 simp only [inPl]
 rw [f0,f2]
 generalize (bw0 sx).has x y d=a0 at *
 generalize (bw1 sx sy).has x y d=a1 at *
 generalize (bw2 sx sy).has x y d=a2 at *
 generalize (bw3 sy).has x y d=a3 at *
 generalize flips x y d (bw1 sx sy)=c1 at *
 generalize flips x y d (bw3 sy)=c3 at *
 generalize sx*d=X at *
 generalize sy*d=Y at *
 cases a0<;>cases a1<;>cases a2<;>cases a3<;>cases c1<;>cases c3<;>simp at * <;> omega
theorem Zyx:(boxH sx sy sz).ok:=Yar rfl
abbrev stg0:Stg:=⟨[],[]⟩
theorem Zn9:stg0.few:=⟨by decide,by decide⟩
theorem Zbt (b:BoxS sx sy sz):serr (boxH sx sy sz) stg0=0:=by
 unfold serr
 rw [if_pos (Ybl b)]
 rfl
theorem Zd0 (b:BoxS sx sy sz):Sit (boxH sx sy sz) stg0:=Zkf Zyx Zn9 (Zbt b)
theorem Ybj (b:BoxS sx sy sz):Zc (boxH sx sy sz) stg0 0=(1,0):=by
 have h:=(bs0 b).dx
 have h2:=(bs0 b).dy
 have w0:wlOf (boxH sx sy sz).cs 0=bw0 sx:=by simp [boxH,wlOf,cor]
 obtain ⟨⟨x1,x2⟩,⟨y1,y2⟩,_⟩:=b
 unfold Zc
 rw [if_pos (by show (0:Int)<4; omega),show (0:Int).toNat=0 from rfl,w0]
 unfold plW
 rw [if_neg (by rw [h]; omega),if_pos (by rw [h2]; simp)]
theorem Ybi (b:BoxS sx sy sz):Zc (boxH sx sy sz) stg0 1=(0,sx):=by
 have h:=(bs1 b).dx
 have w0:wlOf (boxH sx sy sz).cs 1=bw1 sx sy:=by simp [boxH,wlOf,cor]
 unfold Zc
 rw [if_pos (by show (1:Int)<4; omega),show (1:Int).toNat=1 from rfl,w0]
 unfold plW
 rw [if_pos (by rw [h]; simp)]
theorem Ybh (b:BoxS sx sy sz):Zc (boxH sx sy sz) stg0 2=(1,sy):=by
 have h:=(bs2 b).dx
 have h2:=(bs2 b).dy
 have w0:wlOf (boxH sx sy sz).cs 2=bw2 sx sy:=by simp [boxH,wlOf,cor]
 obtain ⟨⟨x1,x2⟩,⟨y1,y2⟩,_⟩:=b
 unfold Zc
 rw [if_pos (by show (2:Int)<4; omega),show (2:Int).toNat=2 from rfl,w0]
 unfold plW
 rw [if_neg (by rw [h]; omega),if_pos (by rw [h2]; simp)]
theorem Ybg (b:BoxS sx sy sz):Zc (boxH sx sy sz) stg0 3=(0,0):=by
 have h:=(bs3 b).dx
 have w0:wlOf (boxH sx sy sz).cs 3=bw3 sy:=by simp [boxH,wlOf,cor]
 unfold Zc
 rw [if_pos (by show (3:Int)<4; omega),show (3:Int).toNat=3 from rfl,w0]
 unfold plW
 rw [if_pos (by rw [h]; simp)]
theorem Ybf:Zc (boxH sx sy sz) stg0 4=(2,0):=rfl
theorem Ybe:Zc (boxH sx sy sz) stg0 5=(2,sz):=rfl
variable {sx sy sz:Int}
theorem Zpz {n d:Int} (hn:2<=n/\n<=2000) (h0:0<d) (h1:d<=100000):2*d<=n*d/\n*d<=2000*d:=⟨Qk hn.1 (by omega),Qk hn.2 (by omega)⟩
theorem Zer (b:BoxS sx sy sz) {P:Pt} (hp:PtH P) {w:Wl} {n ex ey:Int} (hs:Str w n ex ey) (hn:n*(ex*ex+ey*ey)=n) (h2:n<=2000) (h1:2<=n) :
  Zpq (boxH sx sy sz) w.ln P=true↔(0<alo w ex ey P.x P.y P.d/\alo w ex ey P.x P.y P.d<n*P.d)/\0<P.z/\P.z<sz*P.d:=by
 obtain ⟨d0,d1,_,_⟩:=hp.r
 have m1:=Zpz ⟨h1,h2⟩ d0 d1
 have m2:=Zpz b.z d0 d1
 have ha:w.ln.along P=alo w ex ey P.x P.y P.d:=Zew (z:=P.z) hs hp.r.ok
 unfold Zpq
 rw [ha,Zjv hs,hn,show (boxH sx sy sz).ht=sz from rfl,W_eq (n:=n*P.d) (by omega) (by omega),W_eq (n:=n*P.d-1) (by omega) (by omega),W_eq (n:=sz*P.d) (by omega) (by omega),W_eq (n:=sz*P.d-1) (by omega) (by omega),Qf,within_iff,within_iff]
 omega
theorem Zph (k:Nat) {w:Wl} (h:wlOf (boxH sx sy sz).cs k=w):lnOf (boxH sx sy sz).cs k=w.ln:=by rw [Zds,h]
theorem Zuf (b:BoxS sx sy sz) {P:Pt} (hp:PtH P):Zaw (boxH sx sy sz) 0 P=true↔(0<P.x/\P.x<sx*P.d)/\0<P.z/\P.z<sz*P.d:=by
 have h:=Zer b hp (bs0 b) (by simp) b.x.2 b.x.1
 rw [show (0:Int)=((0:Nat):Int) from rfl,Zav (by show 0<4; omega),Zph 0 (w:=bw0 sx) (by simp [boxH,wlOf,cor]),h]
 unfold alo
 simp
theorem Zue (b:BoxS sx sy sz) {P:Pt} (hp:PtH P):Zaw (boxH sx sy sz) 1 P=true↔(0<P.y/\P.y<sy*P.d)/\0<P.z/\P.z<sz*P.d:=by
 have h:=Zer b hp (bs1 b) (by simp) b.y.2 b.y.1
 rw [show (1:Int)=((1:Nat):Int) from rfl,Zav (by show 1<4; omega),Zph 1 (w:=bw1 sx sy) (by simp [boxH,wlOf,cor]),h]
 unfold alo
 simp
theorem Zud (b:BoxS sx sy sz) {P:Pt} (hp:PtH P):Zaw (boxH sx sy sz) 2 P=true↔(0<P.x/\P.x<sx*P.d)/\0<P.z/\P.z<sz*P.d:=by
 have h:=Zer b hp (bs2 b) (by simp) b.x.2 b.x.1
 rw [show (2:Int)=((2:Nat):Int) from rfl,Zav (by show 2<4; omega),Zph 2 (w:=bw2 sx sy) (by simp [boxH,wlOf,cor]),h]
 unfold alo
 simp only [Rk,Oi,Tb]
 omega
theorem Zuc (b:BoxS sx sy sz) {P:Pt} (hp:PtH P):Zaw (boxH sx sy sz) 3 P=true↔(0<P.y/\P.y<sy*P.d)/\0<P.z/\P.z<sz*P.d:=by
 have h:=Zer b hp (bs3 b) (by simp) b.y.2 b.y.1
 rw [show (3:Int)=((3:Nat):Int) from rfl,Zav (by show 3<4; omega),Zph 3 (w:=bw3 sy) (by simp [boxH,wlOf,cor]),h]
 unfold alo
 simp only [Rk,Oi,Tt]
 omega
theorem Zhu (b:BoxS sx sy sz) {P:Pt} (hp:PtH P):Ve (boxH sx sy sz) P=true↔(0<P.x/\P.x<sx*P.d)/\0<P.y/\P.y<sy*P.d:=by
 rw [<-Vd (Zd0 b).fine.st P.z hp.r.ok]
 exact Zyy b hp.r.ok
theorem Zub (b:BoxS sx sy sz) {P:Pt} (hp:PtH P):Zaw (boxH sx sy sz) 4 P=true↔(0<P.x/\P.x<sx*P.d)/\0<P.y/\P.y<sy*P.d:=by
 rw [<-Zhu b hp,show (4:Int)=((boxH sx sy sz).ws.length:Int) from rfl,Zgf]
theorem Zua (b:BoxS sx sy sz) {P:Pt} (hp:PtH P):Zaw (boxH sx sy sz) 5 P=true↔(0<P.x/\P.x<sx*P.d)/\0<P.y/\P.y<sy*P.d:=by
 rw [<-Zhu b hp,show (5:Int)=((boxH sx sy sz).ws.length:Int)+1 from rfl,Zh6]
def cx (k:Int) (p:Pt):Int:=if k=0 then p.x else if k=1 then p.y else p.z
def bxS (sx sy sz k:Int):Int:=if k=0 then sx else if k=1 then sy else sz
def bxK (n:Int):Int:=if n=0\/n=2 then 1 else if n=1\/n=3 then 0 else 2
def bxA (sx sy sz n:Int):Int:=if n=1\/n=2\/n=5 then bxS sx sy sz (bxK n) else 0
theorem Zbd (b:BoxS sx sy sz) {n:Int} (hn:0<=n/\n<6):Zc (boxH sx sy sz) stg0 n=(bxK n,bxA sx sy sz n):=by
 have h:n=0\/n=1\/n=2\/n=3\/n=4\/n=5:=by omega
 rcases h with rfl|rfl|rfl|rfl|rfl|rfl
 ·exact Ybj b
 ·exact Ybi b
 ·exact Ybh b
 ·exact Ybg b
 ·exact Ybf
 ·exact Ybe
def Zlf (sx sy sz k:Int) (P:Pt):Prop:=∀ j:Int,0<=j->j<3->j≠k->0<cx j P/\cx j P<bxS sx sy sz j*P.d
theorem all3 {p:Int->Prop}:(∀ j:Int,0<=j->j<3->p j)↔p 0/\p 1/\p 2:=by
 constructor
 ·exact fun h=>⟨h 0 (by omega) (by omega),h 1 (by omega) (by omega),h 2 (by omega) (by omega)⟩
 ·rintro ⟨h0,h1,h2⟩ j j0 j3
  have:j=0\/j=1\/j=2:=by omega
  rcases this with rfl|rfl|rfl<;>assumption
theorem Zj2 (b:BoxS sx sy sz) {n:Int} (hn:0<=n/\n<6) {P:Pt} (hp:PtH P):Zaw (boxH sx sy sz) n P=true↔Zlf sx sy sz (bxK n) P:=by
 have h:n=0\/n=1\/n=2\/n=3\/n=4\/n=5:=by omega
 unfold Zlf
 rw [all3]
 rcases h with rfl|rfl|rfl|rfl|rfl|rfl
 ·rw [Zuf b hp]; simp [bxK,cx,bxS]
 ·rw [Zue b hp]; simp [bxK,cx,bxS]
 ·rw [Zud b hp]; simp [bxK,cx,bxS]
 ·rw [Zuc b hp]; simp [bxK,cx,bxS]
 ·rw [Zub b hp]; simp [bxK,cx,bxS]
 ·rw [Zua b hp]; simp [bxK,cx,bxS]
variable {sx sy sz:Int}
structure Apart (sx sy sz:Int) (p q:Pt):Prop where
 ip:∀ j:Int,0<=j->j<3->0<=cx j p/\cx j p<=bxS sx sy sz j*p.d
 iq:∀ j:Int,0<=j->j<3->0<=cx j q/\cx j q<=bxS sx sy sz j*q.d
 lo:∀ j:Int,0<=j->j<3 -> ¬(cx j p=0/\cx j q=0)
 hi:∀ j:Int,0<=j->j<3 -> ¬(cx j p=bxS sx sy sz j*p.d/\cx j q=bxS sx sy sz j*q.d)
theorem Zok {a c d e S:Int} (hd:0<d) (he:0<e) (a0:0<=a/\a<=S*d) (c0:0<=c/\c<=S*e) (lo:¬(a=0/\c=0)) (hi:¬(a=S*d/\c=S*e)):0<a*e+c*d/\a*e+c*d<S*(2*d*e):=by
 have h1:0<=a*e:=Qu a0.1 (by omega)
 have h2:0<=c*d:=Qu c0.1 (by omega)
 have h3:0<=(S*d-a)*e:=Qu (by omega) (by omega)
 have h4:0<=(S*e-c)*d:=Qu (by omega) (by omega)
 have e3:(S*d-a)*e=S*d*e-a*e:=Oa _ _ _
 have e4:(S*e-c)*d=S*d*e-c*d:=by rw [Oa,Sk,Rr e d,<-Sk]
 have e5:S*(2*d*e)=2*(S*d*e):=by grind
 rw [e5]
 constructor
 ·by_cases za:a=0
  ·have:=Ra (show 0<c by omega) hd
   omega
  ·have:=Ra (show 0<a by omega) he
   omega
 ·by_cases za:a=S*d
  ·have:=Ra (show 0<S*e-c by omega) hd
   omega
  ·have:=Ra (show 0<S*d-a by omega) he
   omega
theorem Zjo {l m a c:Int} (hl:0<l) (hm:0<m) (ha:0<=a) (hc:0<=c) (h:l*a+m*c=0):a=0/\c=0:=by
 have h1:=Qu (Qx hl) ha
 have h2:=Qu (Qx hm) hc
 have e1:l*a=0:=by omega
 have e2:m*c=0:=by omega
 rcases Wp.1 e1 with z|z
 ·omega
 ·rcases Wp.1 e2 with y|y
  ·omega
  ·exact ⟨z,y⟩
theorem Zw4 (b:BoxS sx sy sz) {p q:Pt} (hp:PtH p) (hq:PtH q) (h:Apart sx sy sz p q):Zc5 (boxH sx sy sz) stg0 p q=true:=by
 rw [Zwh (Zd0 b) hp hq]
 obtain ⟨h1,h2,h3,h4⟩:=h
 rw [all3] at h1 h2 h3 h4
 simp only [cx,bxS] at h1 h2 h3 h4
 simp at h1 h2 h3 h4
 obtain ⟨px,py,pz⟩:=h1
 obtain ⟨qx,qy,qz⟩:=h2
 obtain ⟨lx,ly,lz⟩:=h3
 obtain ⟨tx,ty,tz⟩:=h4
 obtain ⟨d0,d1,_,_⟩:=hp.r
 obtain ⟨e0,e1,_,_⟩:=hq.r
 have mz:=Zpz b.z d0 d1
 have nz:=Zpz b.z e0 e1
 refine ⟨?_,?_,?_,fun i hi=>absurd hi (by show ¬ i<0; omega)⟩
 ·unfold zBad
  rw [show (boxH sx sy sz).ht=sz from rfl,W_eq (n:=sz*p.d) (by omega) (by omega),W_eq (n:=sz*q.d) (by omega) (by omega)]
  rw [Qs]
  simp only [ne_eq,Qy,Qf,decide_eq_true_eq]
  omega
 ·intro w hw n ex ey hs
  rw [Zht] at hw
  rintro ⟨l,m,hl,hm,hb,_⟩
  simp only [List.mem_cons,List.not_mem_nil,or_false] at hw
  rcases hw with rfl|rfl|rfl|rfl
  ·obtain ⟨rfl,rfl,rfl⟩:=Zf7 hs (bs0 b)
   simp only [bsP,bes,Pt.pl,Sn,Rk,Mz] at hb
   have:=Zjo hl hm py.1 qy.1 hb
   omega
  ·obtain ⟨rfl,rfl,rfl⟩:=Zf7 hs (bs1 b)
   simp only [bsP,bes,Pt.pl,Sn,Rk,Ho] at hb
   have:=Zjo hl hm (a:=sx*p.d-p.x) (c:=sx*q.d-q.x) (by omega) (by omega) (by rw [<-hb]; grind)
   omega
  ·obtain ⟨rfl,rfl,rfl⟩:=Zf7 hs (bs2 b)
   simp only [bsP,bes,Pt.pl,Oi,Rk,Mz] at hb
   have:=Zjo hl hm (a:=sy*p.d-p.y) (c:=sy*q.d-q.y) (by omega) (by omega) (by rw [<-hb]; grind)
   omega
  ·obtain ⟨rfl,rfl,rfl⟩:=Zf7 hs (bs3 b)
   simp only [bsP,bes,Pt.pl,Oi,Rk,Ho,Mz,Tl] at hb
   have:=Zjo hl hm px.1 qx.1 hb
   omega
 ·obtain ⟨m1,m2,m3⟩:=Zx5 hp.r hq.r
  have hm:PtOk (midX p q) (midY p q) (midD p q):=by
   have hdd:1*1<=p.d*q.d/\p.d*q.d<=100000*100000:=⟨Lj (by omega) (by omega) (by omega) (by omega),Lj d1 e1 (by omega) (by omega)⟩
   have k1:=Zok d0 e0 px qx (by omega) (by omega)
   have k2:=Zok d0 e0 py qy (by omega) (by omega)
   have e3:2*p.d*q.d=2*(p.d*q.d):=Sk _ _ _
   rw [m1,m2,m3]
   rw [e3] at k1 k2 ⊢
   generalize p.d*q.d=D at *
   have u1:sx*(2*D)<=2000*(2*D):=Qk b.x.2 (by omega)
   have u2:sy*(2*D)<=2000*(2*D):=Qk b.y.2 (by omega)
   exact ⟨by omega,by omega,by omega,by omega⟩
  rw [Zyy b hm,m1,m2,m3]
  exact ⟨Zok d0 e0 px qx (by omega) (by omega),Zok d0 e0 py qy (by omega) (by omega)⟩
variable {sx sy sz:Int}
theorem Zfx (j:Int) (p q:Pt) (u v:Int):cx j (cmb p q u v)=cx j p*u+cx j q*v:=by
 unfold cx cmb
 repeat' split
 all_goals rfl
theorem Zts (j:Int) (p:Pt) (w:Int):cx j (scl p w)=cx j p*w:=by
 unfold cx scl
 repeat' split
 all_goals rfl
theorem Zbc (b:BoxS sx sy sz) (j:Int):2<=bxS sx sy sz j/\bxS sx sy sz j<=2000:=by
 unfold bxS
 obtain ⟨h1,h2,h3⟩:=b
 repeat' split
 all_goals assumption
theorem Yl (n:Int):0<=bxK n/\bxK n<3:=by unfold bxK; repeat' split<;>omega
theorem Zhs (b:BoxS sx sy sz) (n:Int):0<=bxA sx sy sz n/\bxA sx sy sz n<=bxS sx sy sz (bxK n):=by
 have:=Zbc b (bxK n)
 unfold bxA
 split<;>omega
theorem Zi7 {k a:Int} (hk:0<=k/\k<3) (p:Pt):vl (k,a) p=cx k p-a*p.d:=by
 have:k=0\/k=1\/k=2:=by omega
 unfold vl cx valN
 rcases this with rfl|rfl|rfl<;>simp
theorem Zon {a b w:Int} (hw:0<w) (h:a*w<b*w):a<b:=Int.lt_of_mul_lt_mul_right h (Qx hw)
theorem Zw2 (b:BoxS sx sy sz) {n:Int} (hn:0<=n/\n<6) {f to:Pt} {u v:Int} (u0:0<u) (v0:0<v) (hB:Big (cmb f to u v)) (hd:f.d*u+to.d*v<=100000)
  (hf:cx (bxK n) f≠bxA sx sy sz n*f.d) (ht:cx (bxK n) to≠bxA sx sy sz n*to.d) (h0:cx (bxK n) f*u+cx (bxK n) to*v=bxA sx sy sz n*(f.d*u+to.d*v))
  (hin:∀ j:Int,0<=j->j<3->j≠bxK n->0<cx j f*u+cx j to*v/\cx j f*u+cx j to*v<bxS sx sy sz j*(f.d*u+to.d*v)) :
  ∃ P w,0<w/\cmb f to u v=scl P w/\Xing (boxH sx sy sz) n (Zc (boxH sx sy sz) stg0 n) f to P/\Zlf sx sy sz (bxK n) P/\cx (bxK n) P=bxA sx sy sz n*P.d:=by
 have hg:=Zo2 hB
 obtain ⟨⟨g1,g2⟩,_,hR,e1,e2,e3,e4⟩:=Vv hB
 have hs:cmb f to u v=scl (redP (cmb f to u v)) (g4 (cmb f to u v)):=Us e1.symm e2.symm e3.symm e4.symm
 generalize redP (cmb f to u v)=P at *
 generalize ((g4 (cmb f to u v):Nat):Int)=w at *
 have hdw:f.d*u+to.d*v=P.d*w:=congrArg Pt.d hs
 have hc:∀ j,cx j f*u+cx j to*v=cx j P*w:=fun j=>by rw [<-Zfx,hs,Zts]
 have hPd:=hR.d.1
 have hdd:P.d*1<=P.d*w:=Rd (by omega) (by omega)
 have hon:cx (bxK n) P=bxA sx sy sz n*P.d:=by
  have:=hc (bxK n)
  rw [h0,hdw,<-Sk] at this
  exact (Tf (by omega) this).symm
 have hw:Zlf sx sy sz (bxK n) P:=fun j j0 j3 jk=>by
  have:=hin j j0 j3 jk
  rw [hc j,hdw,<-Sk] at this
  refine ⟨?_,Zon g1 this.2⟩
  exact Zon g1 (by rw [Rk]; exact this.1)
 have hb:∀ j:Int,0<=j->j<3 -> -(5000*P.d)<=cx j P/\cx j P<=5000*P.d:=fun j j0 j3=>by
  have hS:=Zbc b j
  have m:=Zpz hS hPd (by omega)
  by_cases jk:j=bxK n
  ·subst jk
   have hA:=Zhs b n
   have m1:=Qu hA.1 (Qx hPd)
   have m2:=Qk hA.2 (Qx hPd)
   rw [hon]
   omega
  ·have:=hw j j0 j3 jk
   omega
 have hpe:Zy P=0:=by
  rw [all3] at hb
  simp only [cx] at hb
  simp at hb
  unfold Zy
  rw [if_neg (by omega),if_neg (by omega),if_pos]
  unfold ptIn
  simp only [Qf,within_iff]
  omega
 have hpl:=Zbd b hn
 have hk:=Yl n
 refine ⟨P,w,g1,hs,⟨hpe,?_,(Zj2 b hn (Zif hpe)).2 hw,?_,u,v,w,u0,v0,g1,hs⟩,hw,hon⟩
 ·rw [hpl,Zi7 hk]; omega
 ·rw [hpl,Zi7 hk,Zi7 hk]; omega
variable {sx sy sz:Int}
def InB (sx sy sz:Int) (q:Pl3):Prop:=∀ j:Int,0<=j->j<3->0<cx j (pnt q)/\cx j (pnt q)<bxS sx sy sz j
theorem Ya1 {k a:Int} (hk:0<=k/\k<3) (p:Pt) {j:Int} (hj:0<=j/\j<3):cx j (mU (k,a) p)=if j=k then 2*a*p.d-cx j p else cx j p:=by
 have h1:k=0\/k=1\/k=2:=by omega
 have h2:j=0\/j=1\/j=2:=by omega
 unfold cx mU
 rcases h1 with rfl|rfl|rfl<;>rcases h2 with rfl|rfl|rfl<;>simp
theorem InB.near (b:BoxS sx sy sz) {q:Pl3} (h:InB sx sy sz q) {m:Int} (hm:2000<=m):Near m q:=by
 have k:=(all3 (p:=fun j=>0<cx j (pnt q)/\cx j (pnt q)<bxS sx sy sz j)).1 h
 simp only [cx,bxS,pnt] at k
 simp at k
 obtain ⟨⟨x1,x2⟩,⟨y1,y2⟩,z1,z2⟩:=b
 unfold Near
 omega
theorem Zmf (b:BoxS sx sy sz) {n:Int} (hn:0<=n/\n<6) {q:Pl3} (hq:Near 35000 q):pnt (im1 (boxH sx sy sz) stg0 n q)=mU (bxK n,bxA sx sy sz n) (pnt q):=by
 rw [Zzt (Zd0 b) (Zp3 hn.1 (by show n<6; omega)) hq,Zbd b hn]
theorem Znw (b:BoxS sx sy sz) {n:Int} (hn:0<=n/\n<6) {q:Pl3} (hq:Near 35000 q) {j:Int} (hj:0<=j/\j<3):cx j (pnt (im1 (boxH sx sy sz) stg0 n q))=if j=bxK n then 2*bxA sx sy sz n-cx j (pnt q) else cx j (pnt q):=by
 rw [Zmf b hn hq,Ya1 (Yl n) _ hj,show (pnt q).d=1 from rfl,Rs]
theorem Zpf (n:Int):bxA sx sy sz n=0\/bxA sx sy sz n=bxS sx sy sz (bxK n):=by
 unfold bxA
 split
 ·exact .inr rfl
 ·exact .inl rfl
theorem InB.err (b:BoxS sx sy sz) {q:Pl3} (h:InB sx sy sz q):Zy (pnt q)=0:=by
 have k:=(all3 (p:=fun j=>0<cx j (pnt q)/\cx j (pnt q)<bxS sx sy sz j)).1 h
 simp only [cx,bxS,pnt] at k
 simp at k
 obtain ⟨⟨x1,x2⟩,⟨y1,y2⟩,z1,z2⟩:=b
 have hg:g4 (pnt q)=1:=by unfold g4 pnt; simp
 have hd:(pnt q).d=1:=rfl
 unfold Zy
 rw [hg,hd,if_neg (by omega),if_neg (by omega),if_pos]
 unfold ptIn pnt
 simp only [Qf,within_iff]
 omega
structure InC (sx sy sz:Int) (P:Pt):Prop where
 e:Zy P=0
 c:∀ j:Int,0<=j->j<3->0<=cx j P/\cx j P<=bxS sx sy sz j*P.d
theorem InB.c (b:BoxS sx sy sz) {q:Pl3} (h:InB sx sy sz q):InC sx sy sz (pnt q):=⟨h.err b,fun j j0 j3=>by
 have:=h j j0 j3
 rw [show (pnt q).d=1 from rfl]
 omega⟩
theorem Apart.swap {p q:Pt} (h:Apart sx sy sz p q):Apart sx sy sz q p:=⟨h.iq,h.ip,fun j a c hh=>h.lo j a c ⟨hh.2,hh.1⟩,fun j a c hh=>h.hi j a c ⟨hh.2,hh.1⟩⟩
theorem InB.apart (b:BoxS sx sy sz) {q:Pl3} (h:InB sx sy sz q) {P:Pt} (hP:InC sx sy sz P):Apart sx sy sz (pnt q) P :=
 ⟨(h.c b).c,hP.c,fun j j0 j3 hh=>by have:=h j j0 j3; omega,fun j j0 j3 hh=>by
  have:=h j j0 j3
  rw [show (pnt q).d=1 from rfl] at hh
  omega⟩
theorem Zme (b:BoxS sx sy sz) {p q:Pt} (hp:InC sx sy sz p) (hq:InC sx sy sz q) (ha:Apart sx sy sz p q) (hne:ptEq p q=false):wP (boxH sx sy sz) stg0 p q=true:=by
 unfold wP
 rw [Zy8 (Zbt b) hp.e hq.e hne,Zw4 b (Zif hp.e) (Zif hq.e) ha]
 rfl
theorem Zr0 {p q:Pt} {j:Int} (h:¬(cx j p=cx j q/\p.d=q.d)):ptEq p q=false:=by
 rw [Qs]
 intro e
 unfold ptEq at e
 simp only [Qf,decide_eq_true_eq] at e
 apply h
 unfold cx
 repeat' split
 all_goals omega
theorem Zs9 (b:BoxS sx sy sz) {n:Int} {P:Pt} (he:Zy P=0) (hw:Zlf sx sy sz (bxK n) P) (hon:cx (bxK n) P=bxA sx sy sz n*P.d):InC sx sy sz P:=⟨he,fun j j0 j3=>by
 have hd:=(Xv he).1
 by_cases jk:j=bxK n
 ·subst jk
  have hA:=Zhs b n
  have m1:=Qu hA.1 (Qx hd)
  have m2:=Qk hA.2 (Qx hd)
  rw [hon]
  exact ⟨m1,m2⟩
 ·have:=hw j j0 j3 jk
  omega⟩
theorem InB.ne (b:BoxS sx sy sz) {q:Pl3} (h:InB sx sy sz q) {n:Int} {P:Pt} (hon:cx (bxK n) P=bxA sx sy sz n*P.d):ptEq (pnt q) P=false:=by
 refine Zr0 (j:=bxK n) fun hh=>?_
 have hk:=Yl n
 have:=h (bxK n) hk.1 hk.2
 rw [hon,<-hh.2,show (pnt q).d=1 from rfl,Rs] at hh
 rcases Zpf (sx:=sx) (sy:=sy) (sz:=sz) n with e|e<;>rw [e] at hh<;>omega
variable {sx sy sz:Int}
theorem Zlb {a c u v S:Int} (u0:0<u) (v0:0<v) (ha:0<a/\a<S) (hc:0<c/\c<S):0<a*u+c*v/\a*u+c*v<S*(u+v):=by
 have h1:=Ra ha.1 u0
 have h2:=Ra hc.1 v0
 have h3:=Ru ha.2 u0
 have h4:=Ru hc.2 v0
 rw [Ml]
 omega
theorem Zyz {p:Pt} (h:∀ j:Int,0<=j->j<3 -> -140000000000000<=cx j p/\cx j p<=140000000000000) (hd:0<p.d/\p.d<=12000000000):Big p:=by
 rw [all3] at h
 simp only [cx] at h
 simp at h
 exact ⟨h.1,h.2.1,h.2.2,hd⟩
theorem Zuh (b:BoxS sx sy sz) (n:Int) {q0 q1:Pl3} (h0:InB sx sy sz q0) (h1:InB sx sy sz q1):∃ u v:Int,(0<u/\u<=2000)/\(0<v/\v<=2000) /\
  ((bxA sx sy sz n=0/\cx (bxK n) (pnt q1)=u/\cx (bxK n) (pnt q0)=v)\/(bxA sx sy sz n=bxS sx sy sz (bxK n)/\cx (bxK n) (pnt q1)=bxS sx sy sz (bxK n)-u/\cx (bxK n) (pnt q0)=bxS sx sy sz (bxK n)-v)):=by
 have hk:=Yl n
 have a:=h0 _ hk.1 hk.2
 have c:=h1 _ hk.1 hk.2
 have s:=Zbc b (bxK n)
 rcases Zpf (sx:=sx) (sy:=sy) (sz:=sz) n with e|e
 ·exact ⟨_,_,by omega,by omega,.inl ⟨e,rfl,rfl⟩⟩
 ·exact ⟨bxS sx sy sz (bxK n)-cx (bxK n) (pnt q1),bxS sx sy sz (bxK n)-cx (bxK n) (pnt q0),by omega,by omega,.inr ⟨e,by omega,by omega⟩⟩
theorem Ybk (b:BoxS sx sy sz) {q0 q1:Pl3} (h0:InB sx sy sz q0) (h1:InB sx sy sz q1) {n:Int} (hn:0<=n/\n<6) :
  ∃ P,Zaf (boxH sx sy sz) stg0 q0 q1 [n]=some ⟨[n],[tup4 P],dst2 (pnt (im1 (boxH sx sy sz) stg0 n q0)) (pnt q1)⟩:=by
 have hk:=Yl n
 have hi:∀ j:Int,0<=j->j<3->cx j (pnt (im1 (boxH sx sy sz) stg0 n q0))=if j=bxK n then 2*bxA sx sy sz n-cx j (pnt q0) else cx j (pnt q0):=fun j a c=>Znw b hn (h0.near b (by omega)) ⟨a,c⟩
 have hik:=hi _ hk.1 hk.2
 rw [if_pos rfl] at hik
 obtain ⟨u,v,u0,v0,hs⟩:=Zuh b n h0 h1
 have hS:=Zbc b
 have hA:=Zhs b n
 have hfd:(pnt (im1 (boxH sx sy sz) stg0 n q0)).d=1:=rfl
 have htd:(pnt q1).d=1:=rfl
 have hnr:Near 45000 (im1 (boxH sx sy sz) stg0 n q0):=by
  have k:=(all3 (p:=fun j=>cx j (pnt (im1 (boxH sx sy sz) stg0 n q0))=if j=bxK n then 2*bxA sx sy sz n-cx j (pnt q0) else cx j (pnt q0))).1 hi
  have q:=(all3 (p:=fun j=>0<cx j (pnt q0)/\cx j (pnt q0)<bxS sx sy sz j)).1 h0
  have s0:=hS 0
  have s1:=hS 1
  have s2:=hS 2
  have sk:=hS (bxK n)
  unfold Near
  generalize im1 (boxH sx sy sz) stg0 n q0=r at *
  simp only [cx,pnt] at k q
  simp at k q
  obtain ⟨k1,k2,k3⟩:=k
  split at k1<;>split at k2<;>split at k3<;>omega
 generalize hr:im1 (boxH sx sy sz) stg0 n q0=r at *
 have hbd:∀ j:Int,0<=j->j<3 -> -6000<=cx j (pnt r)/\cx j (pnt r)<=6000:=fun j a c=>by
  have e:=hi j a c
  have q:=h0 j a c
  have s:=hS j
  have s2:=hS (bxK n)
  split at e<;>omega
 have hB:Big (cmb (pnt r) (pnt q1) u v):=Zyz (fun j a c=>by
  rw [Zfx]
  have e:=hbd j a c
  have q:=h1 j a c
  have s:=hS j
  have m1:=Zm (a:=cx j (pnt r)) (b:=u) (A:=6000) (B:=2000) (by omega) (by omega)
  have m2:=Zm (a:=cx j (pnt q1)) (b:=v) (A:=6000) (B:=2000) (by omega) (by omega)
  omega) (by show 0<(pnt r).d*u+(pnt q1).d*v/\_; unfold cmb; dsimp only; rw [hfd,htd]; omega)
 obtain ⟨P,w,w0,hP,hX,hin,hon⟩:=Zw2 b hn u0.1 v0.1 hB (by rw [hfd,htd]; omega) (by rw [hfd,hik]; omega) (by rw [htd]; omega)
  (by
   rw [hfd,htd,hik]
   rcases hs with ⟨e,e1,e2⟩|⟨e,e1,e2⟩
   ·rw [e,e1,e2]; grind
   ·rw [e,e1,e2]; grind)
  (fun j a c jk=>by
   have e:=hi j a c
   rw [if_neg jk] at e
   rw [e,hfd,htd,Sn,Sn]
   exact Zlb u0.1 v0.1 (h0 j a c) (h1 j a c))
 have hc:=Zs9 b hX.err hin hon
 have hcr:=Ztu (Zd0 b) (Zbt b) (n:=n) ⟨hn.1,by show n<6; omega⟩ hnr (h1.err b) hX
 refine ⟨P,?_⟩
 have hg:goP (fP (boxH sx sy sz) stg0) (lkG (im1 (boxH sx sy sz) stg0) q0 [n]).reverse (pnt q1) []=some [P]:=by
  show goP (fP (boxH sx sy sz) stg0) [(n,im1 (boxH sx sy sz) stg0 n q0)] (pnt q1) []=some [P]
  rw [hr]
  unfold goP
  have e:fP (boxH sx sy sz) stg0 n r (pnt q1)=(P,0):=hcr
  rw [e]
  rfl
 have hw1:=Zme b (h0.c b) hc (h0.apart b hc) (h0.ne b hon)
 have hne2:ptEq P (pnt q1)=false:=by rw [Zkx]; exact h1.ne b hon
 have hw2:=Zme b hc (h1.c b) (h1.apart b hc).swap hne2
 have hc2:chkW (wP (boxH sx sy sz) stg0) (pnt q0::[P]++[pnt q1])=true:=by
  simp [chkW,hw1,hw2]
 rw [Zig hg hc2,<-hr]
 have hq:=Zrj (q:=im1 (boxH sx sy sz) stg0 n q0) (r:=q1) (by rw [hr]; exact hnr) (h1.near b (by omega))
 rw [<-hq]
 rfl
variable {sx sy sz:Int}
theorem Zui (b:BoxS sx sy sz) {n:Int} (hn:0<=n/\n<6) {X:Pt} (hB:Big X) (hd:X.d<=100000) (h0:cx (bxK n) X=bxA sx sy sz n*X.d) (hin:Zlf sx sy sz (bxK n) X) :
  ∃ P w,0<w/\X=scl P w/\Zy P=0/\Zaw (boxH sx sy sz) n P=true/\vl (Zc (boxH sx sy sz) stg0 n) P=0/\Zlf sx sy sz (bxK n) P/\cx (bxK n) P=bxA sx sy sz n*P.d:=by
 have hg:=Zo2 hB
 obtain ⟨⟨g1,g2⟩,_,hR,e1,e2,e3,e4⟩:=Vv hB
 have hs:X=scl (redP X) (g4 X):=Us e1.symm e2.symm e3.symm e4.symm
 generalize redP X=P at *
 generalize ((g4 X:Nat):Int)=w at *
 have hdw:X.d=P.d*w:=e4.symm
 have hc:∀ j,cx j X=cx j P*w:=fun j=>by rw [hs,Zts]
 have hPd:=hR.d.1
 have hdd:P.d*1<=P.d*w:=Rd (by omega) (by omega)
 have hon:cx (bxK n) P=bxA sx sy sz n*P.d:=by
  have:=hc (bxK n)
  rw [h0,hdw,<-Sk] at this
  exact (Tf (by omega) this).symm
 have hw:Zlf sx sy sz (bxK n) P:=fun j j0 j3 jk=>by
  have:=hin j j0 j3 jk
  rw [hc j,hdw,<-Sk] at this
  exact ⟨Zon g1 (by rw [Rk]; exact this.1),Zon g1 this.2⟩
 have hb:∀ j:Int,0<=j->j<3 -> -(5000*P.d)<=cx j P/\cx j P<=5000*P.d:=fun j j0 j3=>by
  have hS:=Zbc b j
  have m:=Zpz hS hPd (by omega)
  by_cases jk:j=bxK n
  ·subst jk
   have hA:=Zhs b n
   have m1:=Qu hA.1 (Qx hPd)
   have m2:=Qk hA.2 (Qx hPd)
   rw [hon]
   omega
  ·have:=hw j j0 j3 jk
   omega
 have hpe:Zy P=0:=by
  rw [all3] at hb
  simp only [cx] at hb
  simp at hb
  unfold Zy
  rw [if_neg (by omega),if_neg (by omega),if_pos]
  unfold ptIn
  simp only [Qf,within_iff]
  omega
 have hpl:=Zbd b hn
 have hk:=Yl n
 exact ⟨P,w,g1,hs,hpe,(Zj2 b hn (Zif hpe)).2 hw,by rw [hpl,Zi7 hk]; omega,hw,hon⟩
theorem Ycf {f1 g Q:Pt} {u v w al be:Int} (h:cmb f1 g u v=scl Q w):cmb f1 Q (be*v-al*u) (al*w)=scl (cmb f1 g be al) v:=by
 have hx:f1.x*u+g.x*v=Q.x*w:=congrArg Pt.x h
 have hy:f1.y*u+g.y*v=Q.y*w:=congrArg Pt.y h
 have hz:f1.z*u+g.z*v=Q.z*w:=congrArg Pt.z h
 have hd:f1.d*u+g.d*v=Q.d*w:=congrArg Pt.d h
 unfold cmb scl
 refine Us ?_ ?_ ?_ ?_<;>dsimp only<;>grind
structure Two (sx sy sz n m:Int) (f1 g f2 to:Pt) (al be ga de:Int):Prop where
 a:0<al/\al<=8000
 b:0<be/\be<=8000
 c:0<ga/\ga<=8000
 d:0<de/\de<=8000
 e1:cx (bxK n) f1*be+cx (bxK n) g*al=bxA sx sy sz n*(be+al)
 e2:cx (bxK m) f2*de+cx (bxK m) to*ga=bxA sx sy sz m*(de+ga)
 i1:∀ j:Int,0<=j->j<3->j≠bxK n->0<cx j f1*be+cx j g*al/\cx j f1*be+cx j g*al<bxS sx sy sz j*(be+al)
 i2:∀ j:Int,0<=j->j<3->j≠bxK m->0<cx j f2*de+cx j to*ga/\cx j f2*de+cx j to*ga<bxS sx sy sz j*(de+ga)
 n1:cx (bxK n) f1≠bxA sx sy sz n
 n2:cx (bxK m) f2≠bxA sx sy sz m
 n3:cx (bxK m) to≠bxA sx sy sz m
 s:al*de<be*ga
 o:bxK n=bxK m->bxA sx sy sz n≠bxA sx sy sz m
theorem Zug (b:BoxS sx sy sz) {q0 q1:Pl3} (h0:InB sx sy sz q0) (h1:InB sx sy sz q1) {n m:Int} (hn:0<=n/\n<6) (hm:0<=m/\m<6) {al be ga de:Int}
  (r1:Near 10000 (im1 (boxH sx sy sz) stg0 n q0)) (r2:Near 10000 (im1 (boxH sx sy sz) stg0 m (im1 (boxH sx sy sz) stg0 n q0)))
  (T:Two sx sy sz n m (pnt (im1 (boxH sx sy sz) stg0 n q0)) (mU (bxK m,bxA sx sy sz m) (pnt q1)) (pnt (im1 (boxH sx sy sz) stg0 m (im1 (boxH sx sy sz) stg0 n q0))) (pnt q1) al be ga de) :
  ∃ P Q,Zaf (boxH sx sy sz) stg0 q0 q1 [n,m]=some ⟨[n,m],[tup4 P,tup4 Q],dst2 (pnt (im1 (boxH sx sy sz) stg0 m (im1 (boxH sx sy sz) stg0 n q0))) (pnt q1)⟩:=by
 obtain ⟨ta,tb,tc,td,e1,e2,i1,i2,n1,n2,n3,ts,to⟩:=T
 have hkn:=Yl n
 have hkm:=Yl m
 have him:pnt (im1 (boxH sx sy sz) stg0 m (im1 (boxH sx sy sz) stg0 n q0))=mU (bxK m,bxA sx sy sz m) (pnt (im1 (boxH sx sy sz) stg0 n q0)):=Zmf b hm (by obtain ⟨a,c,d⟩:=r1; exact ⟨by omega,by omega,by omega⟩)
 generalize hR1:im1 (boxH sx sy sz) stg0 n q0=p1 at *
 generalize hR2:im1 (boxH sx sy sz) stg0 m p1=p2 at *
 have d1:(pnt p1).d=1:=rfl
 have d2:(pnt p2).d=1:=rfl
 have d3:(pnt q1).d=1:=rfl
 have dg:(mU (bxK m,bxA sx sy sz m) (pnt q1)).d=1:=mU_d _ _
 have nb:∀ (r:Pl3),Near 10000 r->∀ j:Int,0<=j->j<3 -> -10000<=cx j (pnt r)/\cx j (pnt r)<=10000:=fun r hr j a c=>by
  obtain ⟨a1,a2,a3⟩:=hr
  unfold cx pnt
  repeat' split
  all_goals assumption
 have hq1:=nb q1 (h1.near b (by omega))
 have hgb:∀ j:Int,0<=j->j<3 -> -20000<=cx j (mU (bxK m,bxA sx sy sz m) (pnt q1))/\cx j (mU (bxK m,bxA sx sy sz m) (pnt q1))<=20000:=fun j a c=>by
  rw [Ya1 hkm _ ⟨a,c⟩,d3]
  have:=hq1 j a c
  have hA:=Zhs b m
  have hS:=Zbc b (bxK m)
  split<;>omega
 have hB:∀ {f t:Pt} {u v:Int},(∀ j:Int,0<=j->j<3 -> -20000<=cx j f/\cx j f<=20000)->(∀ j:Int,0<=j->j<3 -> -20000<=cx j t/\cx j t<=20000)->f.d=1->t.d=1->(0<u/\u<=8000)->(0<v/\v<=8000)->Big (cmb f t u v):=fun {f t u v} hf ht df dt hu hv=>Zyz (fun j a c=>by
  rw [Zfx]
  have q:=hf j a c
  have s:=ht j a c
  have m1:=Zm (a:=cx j f) (b:=u) (A:=20000) (B:=8000) (by omega) (by omega)
  have m2:=Zm (a:=cx j t) (b:=v) (A:=20000) (B:=8000) (by omega) (by omega)
  omega) (by unfold cmb; dsimp only; rw [df,dt]; omega)
 have hp1:=nb p1 r1
 have hp2:=nb p2 r2
 have B2:=hB (f:=pnt p2) (t:=pnt q1) (u:=de) (v:=ga) (fun j a c=>by have:=hp2 j a c; omega) (fun j a c=>by have:=hq1 j a c; omega) d2 d3 td tc
 have B1:=hB (f:=pnt p1) (t:=mU (bxK m,bxA sx sy sz m) (pnt q1)) (u:=be) (v:=al) (fun j a c=>by have:=hp1 j a c; omega) hgb d1 dg tb ta
 have c2:(cmb (pnt p2) (pnt q1) de ga).d=de+ga:=by unfold cmb; dsimp only; rw [d2,d3]; omega
 have c1:(cmb (pnt p1) (mU (bxK m,bxA sx sy sz m) (pnt q1)) be al).d=be+al:=by unfold cmb; dsimp only; rw [d1,dg]; omega
 obtain ⟨Q,wq,wq0,hQ,Qe,Qw,Qv,Qi,Qo⟩:=Zui b hm B2 (by rw [c2]; omega) (by rw [Zfx,e2,c2]) (fun j a c k=>by rw [Zfx,c2]; exact i2 j a c k)
 obtain ⟨P,wp,wp0,hP,Pe,Pw,Pv,Pi,Po⟩:=Zui b hn B1 (by rw [c1]; omega) (by rw [Zfx,e1,c1]) (fun j a c k=>by rw [Zfx,c1]; exact i1 j a c k)
 have hplm:=Zbd b hm
 have hpln:=Zbd b hn
 have XQ:Xing (boxH sx sy sz) m (Zc (boxH sx sy sz) stg0 m) (pnt p2) (pnt q1) Q:=⟨Qe,Qv,Qw,by rw [hplm,Zi7 hkm,Zi7 hkm,d2,d3,Rs]; omega,_,_,_,td.1,tc.1,wq0,hQ⟩
 have hQ2:cmb (pnt p1) (mU (bxK m,bxA sx sy sz m) (pnt q1)) de ga=scl Q wq:=by
  have e:=congrArg (mU (bxK m,bxA sx sy sz m)) hQ
  rw [hplm] at Qv
  rw [Yci,Ycg,Ych (pl:=(bxK m,bxA sx sy sz m)) ⟨hkm.1,by show bxK m<=4; omega⟩ Qv,him,Zv1] at e
  exact e
 have hPQ:cmb (pnt p1) Q (be*ga-al*de) (al*wq)=scl P (wp*ga):=by
  rw [Ycf hQ2,hP]
  unfold scl
  refine Us ?_ ?_ ?_ ?_<;>dsimp only<;>rw [Sk]
 have Qd:=(Xv Qe).1
 have hQn:cx (bxK n) Q≠bxA sx sy sz n*Q.d:=by
  by_cases k:bxK n=bxK m
  ·rw [k,Qo]
   intro hh
   exact to k (Tf (by omega) hh).symm
  ·have:=Qi (bxK n) hkn.1 hkn.2 k
   rcases Zpf (sx:=sx) (sy:=sy) (sz:=sz) n with e|e<;>rw [e]
   ·rw [Rk]; omega
   ·omega
 have XP:Xing (boxH sx sy sz) n (Zc (boxH sx sy sz) stg0 n) (pnt p1) Q P:=⟨Pe,Pv,Pw,by rw [hpln,Zi7 hkn,Zi7 hkn,d1,Rs]; omega,_,_,_,by omega,Ra ta.1 wq0,Ra wp0 tc.1,hPQ⟩
 have Qc:=Zs9 b Qe Qi Qo
 have Pc:=Zs9 b Pe Pi Po
 have Pd:=(Xv Pe).1
 have ap:Apart sx sy sz P Q:=by
  refine ⟨Pc.c,Qc.c,fun j a c hh=>?_,fun j a c hh=>?_⟩
  ·by_cases k:j=bxK n
   ·by_cases k2:j=bxK m
    ·have kk:bxK n=bxK m:=by omega
     rw [k,Po] at hh
     rw [<-k,k2,Qo] at hh
     have z1:=(Wp.1 hh.1).resolve_right (by omega)
     have z2:=(Wp.1 hh.2).resolve_right (by omega)
     exact to kk (by rw [z1,z2])
    ·have:=Qi j a c k2; omega
   ·have:=Pi j a c k; omega
  ·by_cases k:j=bxK n
   ·by_cases k2:j=bxK m
    ·have kk:bxK n=bxK m:=by omega
     obtain ⟨x1,x2⟩:=hh
     rw [k,Po] at x1
     rw [k2,Qo] at x2
     have z1:=Tf (by omega) x1
     have z2:=Tf (by omega) x2
     exact to kk (by rw [z1,z2,kk])
    ·have:=Qi j a c k2; omega
   ·have:=Pi j a c k; omega
 have hne:ptEq P Q=false:=by
  refine Zr0 (j:=bxK n) fun hh=>hQn ?_
  rw [<-hh.1,<-hh.2,Po]
 have w1:=Zme b (h0.c b) Pc (h0.apart b Pc) (h0.ne b Po)
 have w2:=Zme b Pc Qc ap hne
 have w3:=Zme b Qc (h1.c b) (h1.apart b Qc).swap (by rw [Zkx]; exact h1.ne b Qo)
 have n45:∀ {r:Pl3},Near 10000 r->Near 45000 r:=fun {r} h=>by obtain ⟨a,c,d⟩:=h; exact ⟨by omega,by omega,by omega⟩
 have kQ:=Ztu (Zd0 b) (Zbt b) (n:=m) ⟨hm.1,by show m<6; omega⟩ (n45 r2) (h1.err b) XQ
 have kP:=Ztu (Zd0 b) (Zbt b) (n:=n) ⟨hn.1,by show n<6; omega⟩ (n45 r1) Qe XP
 refine ⟨P,Q,?_⟩
 have hg:goP (fP (boxH sx sy sz) stg0) (lkG (im1 (boxH sx sy sz) stg0) q0 [n,m]).reverse (pnt q1) []=some [P,Q]:=by
  show goP (fP (boxH sx sy sz) stg0) [(m,im1 (boxH sx sy sz) stg0 m (im1 (boxH sx sy sz) stg0 n q0)),(n,im1 (boxH sx sy sz) stg0 n q0)] (pnt q1) []=some [P,Q]
  rw [hR1,hR2]
  have x1:fP (boxH sx sy sz) stg0 m p2 (pnt q1)=(Q,0):=kQ
  have x2:fP (boxH sx sy sz) stg0 n p1 Q=(P,0):=kP
  rw [goP,x1,if_pos rfl,goP,x2,if_pos rfl,goP]
 have hc2:chkW (wP (boxH sx sy sz) stg0) (pnt q0::[P,Q]++[pnt q1])=true:=by
  simp [chkW,w1,w2,w3]
 rw [Zig hg hc2,<-Zrj (n45 r2) (h1.near b (by omega)),<-hR2,<-hR1]
 rfl
variable {sx sy sz:Int}
theorem Zsc {r:Pl3} {M:Int} (h:∀ j:Int,0<=j->j<3 -> -M<=cx j (pnt r)/\cx j (pnt r)<=M):Near M r:=by
 rw [all3] at h
 simp only [cx,pnt] at h
 simp at h
 exact ⟨h.1,h.2.1,h.2.2⟩
structure Ims (sx sy sz n m:Int) (q0 q1 p1 p2:Pl3):Prop where
 c1:∀ j:Int,0<=j->j<3->cx j (pnt p1)=if j=bxK n then 2*bxA sx sy sz n-cx j (pnt q0) else cx j (pnt q0)
 c2:∀ j:Int,0<=j->j<3->cx j (pnt p2)=if j=bxK m then 2*bxA sx sy sz m-cx j (pnt p1) else cx j (pnt p1)
 cg:∀ j:Int,0<=j->j<3->cx j (mU (bxK m,bxA sx sy sz m) (pnt q1))=if j=bxK m then 2*bxA sx sy sz m-cx j (pnt q1) else cx j (pnt q1)
 r1:Near 10000 p1
 r2:Near 10000 p2
theorem Zj3 (b:BoxS sx sy sz) {q0 q1:Pl3} (h0:InB sx sy sz q0) {n m:Int} (hn:0<=n/\n<6) (hm:0<=m/\m<6) :
  Ims sx sy sz n m q0 q1 (im1 (boxH sx sy sz) stg0 n q0) (im1 (boxH sx sy sz) stg0 m (im1 (boxH sx sy sz) stg0 n q0)):=by
 have c1:∀ j:Int,0<=j->j<3->cx j (pnt (im1 (boxH sx sy sz) stg0 n q0))=if j=bxK n then 2*bxA sx sy sz n-cx j (pnt q0) else cx j (pnt q0):=fun j a c=>Znw b hn (h0.near b (by omega)) ⟨a,c⟩
 have l1:∀ j:Int,0<=j->j<3 -> -6000<=cx j (pnt (im1 (boxH sx sy sz) stg0 n q0))/\cx j (pnt (im1 (boxH sx sy sz) stg0 n q0))<=6000:=fun j a c=>by
  have e:=c1 j a c
  have q:=h0 j a c
  have s:=Zbc b j
  have s2:=Zbc b (bxK n)
  have hA:=Zhs b n
  split at e<;>omega
 have r1:Near 10000 (im1 (boxH sx sy sz) stg0 n q0):=Zsc fun j a c=>by have:=l1 j a c; omega
 generalize im1 (boxH sx sy sz) stg0 n q0=p1 at *
 have c2:∀ j:Int,0<=j->j<3->cx j (pnt (im1 (boxH sx sy sz) stg0 m p1))=if j=bxK m then 2*bxA sx sy sz m-cx j (pnt p1) else cx j (pnt p1):=fun j a c=>Znw b hm (by obtain ⟨x,y,z⟩:=r1; exact ⟨by omega,by omega,by omega⟩) ⟨a,c⟩
 refine ⟨c1,c2,fun j a c=>?_,r1,Zsc fun j a c=>?_⟩
 ·rw [Ya1 (Yl m) _ ⟨a,c⟩,show (pnt q1).d=1 from rfl,Rs]
 ·have e:=c2 j a c
  have q:=l1 j a c
  have s2:=Zbc b (bxK m)
  have hA:=Zhs b m
  split at e<;>omega
theorem Zvb (b:BoxS sx sy sz) {q0 q1 p1 p2:Pl3} (h0:InB sx sy sz q0) (h1:InB sx sy sz q1) {n m:Int} (I:Ims sx sy sz n m q0 q1 p1 p2) (hk:bxK n≠bxK m) {al be ga de:Int}
  (a:0<al/\al<=2000) (e:0<be/\be<=2000) (c:0<ga/\ga<=2000) (d:0<de/\de<=2000)
  (hsn:(bxA sx sy sz n=0/\cx (bxK n) (pnt q1)=be/\cx (bxK n) (pnt q0)=al)\/(bxA sx sy sz n=bxS sx sy sz (bxK n)/\cx (bxK n) (pnt q1)=bxS sx sy sz (bxK n)-be/\cx (bxK n) (pnt q0)=bxS sx sy sz (bxK n)-al))
  (hsm:(bxA sx sy sz m=0/\cx (bxK m) (pnt q1)=de/\cx (bxK m) (pnt q0)=ga)\/(bxA sx sy sz m=bxS sx sy sz (bxK m)/\cx (bxK m) (pnt q1)=bxS sx sy sz (bxK m)-de/\cx (bxK m) (pnt q0)=bxS sx sy sz (bxK m)-ga))
  (hs:al*de<be*ga):Two sx sy sz n m (pnt p1) (mU (bxK m,bxA sx sy sz m) (pnt q1)) (pnt p2) (pnt q1) al be ga de:=by
 obtain ⟨c1,c2,cg,_,_⟩:=I
 have hkn:=Yl n
 have hkm:=Yl m
 have x1:=c1 _ hkn.1 hkn.2
 rw [if_pos rfl] at x1
 have x2:=cg _ hkn.1 hkn.2
 rw [if_neg hk] at x2
 have y0:=c1 _ hkm.1 hkm.2
 rw [if_neg (fun h=>hk h.symm)] at y0
 have y1:=c2 _ hkm.1 hkm.2
 rw [if_pos rfl,y0] at y1
 have y2:=cg _ hkm.1 hkm.2
 rw [if_pos rfl] at y2
 have x3:=c2 _ hkn.1 hkn.2
 rw [if_neg hk,x1] at x3
 have q0n:=h0 _ hkn.1 hkn.2
 have q0m:=h0 _ hkm.1 hkm.2
 have q1n:=h1 _ hkn.1 hkn.2
 have q1m:=h1 _ hkm.1 hkm.2
 have mm1:=Ra a.1 d.1
 refine ⟨by omega,by omega,by omega,by omega,?_,?_,fun j j0 j3 jk=>?_,fun j j0 j3 jk=>?_,by omega,by omega,by omega,hs,fun h=>absurd h hk⟩
 ·rw [x1,x2]
  rcases hsn with ⟨z1,z2,z3⟩|⟨z1,z2,z3⟩<;>rw [z1,z2,z3]<;>grind
 ·rw [y1]
  rcases hsm with ⟨z1,z2,z3⟩|⟨z1,z2,z3⟩<;>rw [z1,z2,z3]<;>grind
 ·have w1:=c1 j j0 j3
  rw [if_neg jk] at w1
  by_cases jm:j=bxK m
  ·subst jm
   rw [w1,y2]
   rcases hsm with ⟨z1,z2,z3⟩|⟨z1,z2,z3⟩
   ·rw [z1,z2,z3]
    have k1:ga*be<bxS sx sy sz (bxK m)*be:=Ru (by omega) e.1
    have k2:=Ra (show 0<bxS sx sy sz (bxK m) by omega) a.1
    have k3:(2*0-de)*al = -(al*de):=by grind
    have k4:ga*be=be*ga:=Rr _ _
    rw [k3,Ml]
    omega
   ·rw [z1,z2,z3]
    generalize hS:bxS sx sy sz (bxK m)=S at *
    have k1:ga*be<S*be:=Ru (by omega) e.1
    have k2:=Ra (show 0<S by omega) a.1
    have k3:(S-ga)*be+(2*S-(S-de))*al=S*be+S*al-(be*ga-al*de):=by grind
    have k4:ga*be=be*ga:=Rr _ _
    rw [k3,Ml]
    omega
  ·have w2:=cg j j0 j3
   rw [if_neg jm] at w2
   rw [w1,w2]
   exact Zlb e.1 a.1 (h0 j j0 j3) (h1 j j0 j3)
 ·have w1:=c2 j j0 j3
  rw [if_neg jk] at w1
  by_cases jn:j=bxK n
  ·subst jn
   rw [x3]
   rcases hsn with ⟨z1,z2,z3⟩|⟨z1,z2,z3⟩
   ·rw [z1,z2,z3]
    have k1:be*ga<bxS sx sy sz (bxK n)*ga:=Ru (by omega) c.1
    have k2:=Ra (show 0<bxS sx sy sz (bxK n) by omega) d.1
    have k3:(2*0-al)*de = -(al*de):=by grind
    rw [k3,Ml]
    omega
   ·rw [z1,z2,z3]
    generalize hS:bxS sx sy sz (bxK n)=S at *
    have k1:be*ga<S*ga:=Ru (by omega) c.1
    have k2:=Ra (show 0<S by omega) d.1
    have k3:(2*S-(S-al))*de+(S-be)*ga=S*de+S*ga-(be*ga-al*de):=by grind
    rw [k3,Ml]
    omega
  ·have w2:=c1 j j0 j3
   rw [if_neg jn] at w2
   rw [w1,w2]
   exact Zlb d.1 c.1 (h0 j j0 j3) (h1 j j0 j3)
theorem Yca {n m:Int} (hn:0<=n/\n<6) (hm:0<=m/\m<6) (hne:n≠m) (hk:bxK n=bxK m):(bxA sx sy sz n=0/\bxA sx sy sz m=bxS sx sy sz (bxK n))\/(bxA sx sy sz n=bxS sx sy sz (bxK n)/\bxA sx sy sz m=0):=by
 have h1:n=0\/n=1\/n=2\/n=3\/n=4\/n=5:=by omega
 have h2:m=0\/m=1\/m=2\/m=3\/m=4\/m=5:=by omega
 rcases h1 with rfl|rfl|rfl|rfl|rfl|rfl<;>rcases h2 with rfl|rfl|rfl|rfl|rfl|rfl<;>simp [bxK,bxA] at *
theorem Zva (b:BoxS sx sy sz) {q0 q1 p1 p2:Pl3} (h0:InB sx sy sz q0) (h1:InB sx sy sz q1) {n m:Int} (hn:0<=n/\n<6) (hm:0<=m/\m<6) (hne:n≠m) (I:Ims sx sy sz n m q0 q1 p1 p2) (hk:bxK n=bxK m) :
  ∃ al be ga de:Int,Two sx sy sz n m (pnt p1) (mU (bxK m,bxA sx sy sz m) (pnt q1)) (pnt p2) (pnt q1) al be ga de:=by
 obtain ⟨c1,c2,cg,_,_⟩:=I
 have hkn:=Yl n
 have hS:=Zbc b (bxK n)
 have x1:=c1 _ hkn.1 hkn.2
 rw [if_pos rfl] at x1
 have x2:=cg _ hkn.1 hkn.2
 rw [if_pos hk] at x2
 have x3:=c2 _ hkn.1 hkn.2
 rw [if_pos hk,x1] at x3
 have q0n:=h0 _ hkn.1 hkn.2
 have q1n:=h1 _ hkn.1 hkn.2
 obtain ⟨G,hG⟩:∃ G,cx (bxK n) (mU (bxK m,bxA sx sy sz m) (pnt q1))=G:=⟨_,rfl⟩
 rw [hG] at x2
 have i1:∀ {u v:Int},0<u->0<v->∀ j:Int,0<=j->j<3->j≠bxK n->0<cx j (pnt p1)*u+cx j (mU (bxK m,bxA sx sy sz m) (pnt q1))*v/\cx j (pnt p1)*u+cx j (mU (bxK m,bxA sx sy sz m) (pnt q1))*v<bxS sx sy sz j*(u+v):=fun {u v} hu hv j j0 j3 jk=>by
  have w1:=c1 j j0 j3
  have w2:=cg j j0 j3
  rw [if_neg jk] at w1
  rw [if_neg (by omega)] at w2
  rw [w1,w2]
  exact Zlb hu hv (h0 j j0 j3) (h1 j j0 j3)
 have i2:∀ {u v:Int},0<u->0<v->∀ j:Int,0<=j->j<3->j≠bxK m->0<cx j (pnt p2)*u+cx j (pnt q1)*v/\cx j (pnt p2)*u+cx j (pnt q1)*v<bxS sx sy sz j*(u+v):=fun {u v} hu hv j j0 j3 jk=>by
  have w1:=c1 j j0 j3
  have w2:=c2 j j0 j3
  rw [if_neg (by omega)] at w1
  rw [if_neg jk,w1] at w2
  rw [w2]
  exact Zlb hu hv (h0 j j0 j3) (h1 j j0 j3)
 generalize hSe:bxS sx sy sz (bxK n)=S at *
 rcases Yca (sx:=sx) (sy:=sy) (sz:=sz) hn hm hne hk with ⟨e1,e2⟩|⟨e1,e2⟩
 ·rw [hSe] at e2
  obtain ⟨al,hal⟩:∃ al,cx (bxK n) (pnt q0)=al:=⟨_,rfl⟩
  obtain ⟨de,hde⟩:∃ de,cx (bxK n) (pnt q1)=S-de:=⟨S-cx (bxK n) (pnt q1),by omega⟩
  rw [e1,hal] at x1
  rw [e2,hde] at x2
  rw [e1,e2,hal] at x3
  rw [hal] at q0n
  rw [hde] at q1n
  refine ⟨al,S+de,S+al,de,by omega,by omega,by omega,by omega,?_,?_,i1 (by omega) (by omega),i2 (by omega) (by omega),by omega,by rw [<-hk]; omega,by rw [<-hk]; omega,?_,fun _=>by omega⟩
  ·rw [x1,hG,x2,e1]; grind
  ·rw [<-hk,x3,hde,e2]; grind
  ·have:=Ra (show 0<S by omega) (show 0<S+al+de by omega)
   have e:(S+de)*(S+al)=al*de+S*(S+al+de):=by grind
   omega
 ·rw [hSe] at e1
  obtain ⟨al,hal⟩:∃ al,cx (bxK n) (pnt q0)=S-al:=⟨S-cx (bxK n) (pnt q0),by omega⟩
  obtain ⟨de,hde⟩:∃ de,cx (bxK n) (pnt q1)=de:=⟨_,rfl⟩
  rw [e1,hal] at x1
  rw [e2,hde] at x2
  rw [e1,e2,hal] at x3
  rw [hal] at q0n
  rw [hde] at q1n
  refine ⟨al,S+de,S+al,de,by omega,by omega,by omega,by omega,?_,?_,i1 (by omega) (by omega),i2 (by omega) (by omega),by omega,by rw [<-hk]; omega,by rw [<-hk]; omega,?_,fun _=>by omega⟩
  ·rw [x1,hG,x2,e1]; grind
  ·rw [<-hk,x3,hde,e2]; grind
  ·have:=Ra (show 0<S by omega) (show 0<S+al+de by omega)
   have e:(S+de)*(S+al)=al*de+S*(S+al+de):=by grind
   omega
variable {sx sy sz:Int}
theorem Zw3 (b:BoxS sx sy sz) {q0 q1:Pl3} (h0:InB sx sy sz q0) (h1:InB sx sy sz q1) {n m:Int} (hn:0<=n/\n<6) (hm:0<=m/\m<6) (hk:bxK n≠bxK m) {al be ga de:Int}
  (hsn:(bxA sx sy sz n=0/\cx (bxK n) (pnt q1)=be/\cx (bxK n) (pnt q0)=al)\/(bxA sx sy sz n=bxS sx sy sz (bxK n)/\cx (bxK n) (pnt q1)=bxS sx sy sz (bxK n)-be/\cx (bxK n) (pnt q0)=bxS sx sy sz (bxK n)-al))
  (hsm:(bxA sx sy sz m=0/\cx (bxK m) (pnt q1)=de/\cx (bxK m) (pnt q0)=ga)\/(bxA sx sy sz m=bxS sx sy sz (bxK m)/\cx (bxK m) (pnt q1)=bxS sx sy sz (bxK m)-de/\cx (bxK m) (pnt q0)=bxS sx sy sz (bxK m)-ga))
  (hd:0<de) (hs:be*ga<=al*de):Zaf (boxH sx sy sz) stg0 q0 q1 [n,m]=none:=by
 cases hp:Zaf (boxH sx sy sz) stg0 q0 q1 [n,m] with
 | none=>rfl
 | some p =>
  exfalso
  obtain ⟨c1,c2,_,r1,r2⟩:=Zj3 (q1:=q1) b h0 hn hm
  have hkn:=Yl n
  have hkm:=Yl m
  obtain ⟨P,hg,_,_⟩:=Zr2 hp
  have hz:(crsA (boxH sx sy sz) stg0 ⟨m,(im1 (boxH sx sy sz) stg0 m (im1 (boxH sx sy sz) stg0 n q0)).1,(im1 (boxH sx sy sz) stg0 m (im1 (boxH sx sy sz) stg0 n q0)).2.1,(im1 (boxH sx sy sz) stg0 m (im1 (boxH sx sy sz) stg0 n q0)).2.2,pnt q1⟩).2=0:=by
   have hg:goP (fP (boxH sx sy sz) stg0) [(m,im1 (boxH sx sy sz) stg0 m (im1 (boxH sx sy sz) stg0 n q0)),(n,im1 (boxH sx sy sz) stg0 n q0)] (pnt q1) []=some P:=hg
   rw [goP] at hg
   split at hg
   ·rename_i h; exact h
   ·cases hg
  have hX:=Ya2 (Zd0 b) (Zbt b) (n:=m) ⟨hm.1,by show m<6; omega⟩ (f:=im1 (boxH sx sy sz) stg0 m (im1 (boxH sx sy sz) stg0 n q0)) (by obtain ⟨x,y,z⟩:=r2; exact ⟨by omega,by omega,by omega⟩) (h1.err b) hz
  have x3:=c2 _ hkn.1 hkn.2
  rw [if_neg hk,c1 _ hkn.1 hkn.2,if_pos rfl] at x3
  have y1:=c2 _ hkm.1 hkm.2
  rw [if_pos rfl,c1 _ hkm.1 hkm.2,if_neg (fun h=>hk h.symm)] at y1
  have d2:(pnt (im1 (boxH sx sy sz) stg0 m (im1 (boxH sx sy sz) stg0 n q0))).d=1:=rfl
  have d3:(pnt q1).d=1:=rfl
  generalize pnt (im1 (boxH sx sy sz) stg0 m (im1 (boxH sx sy sz) stg0 n q0))=f2 at *
  generalize (crsA (boxH sx sy sz) stg0 _).1=Q at *
  obtain ⟨Qe,Qv,Qw,_,u,v,w,u0,v0,w0,hQ⟩:=hX
  rw [Zbd b hm,Zi7 hkm] at Qv
  have Qi:=(Zj2 b hm (Zif Qe)).1 Qw
  have Qn:=Qi _ hkn.1 hkn.2 hk
  have hdw:f2.d*u+(pnt q1).d*v=Q.d*w:=congrArg Pt.d hQ
  have hc:∀ j,cx j f2*u+cx j (pnt q1)*v=cx j Q*w:=fun j=>by rw [<-Zfx,hQ,Zts]
  rw [d2,d3,Sn,Sn] at hdw
  have hm1:=hc (bxK m)
  have hn1:=hc (bxK n)
  have e1:ga*u=de*v:=by
   have:cx (bxK m) Q*w=bxA sx sy sz m*(u+v):=by rw [show cx (bxK m) Q=bxA sx sy sz m*Q.d by omega,Sk,hdw]
   rw [this,y1] at hm1
   rcases hsm with ⟨z1,z2,z3⟩|⟨z1,z2,z3⟩<;>rw [z1,z2,z3] at hm1<;>grind
  have e2:al*u<be*v:=by
   have k1:=Ra Qn.1 w0
   have k2:=Ru Qn.2 w0
   rw [Sk,<-hdw] at k2
   rw [<-hn1,x3] at k1 k2
   rcases hsn with ⟨z1,z2,z3⟩|⟨z1,z2,z3⟩
   ·rw [z1,z2,z3] at k1
    have:(2*0-al)*u+be*v=be*v-al*u:=by grind
    omega
   ·rw [z1,z2,z3] at k2
    generalize bxS sx sy sz (bxK n)=S at *
    have e:(2*S-(S-al))*u+(S-be)*v=S*(u+v)-(be*v-al*u):=by grind
    rw [e] at k2
    omega
  have k3:=Ru e2 hd
  have k4:be*v*de=be*ga*u:=by rw [Sk,Rr v de,<-e1,Sk]
  have k5:al*u*de=al*de*u:=by rw [Sk,Rr u de,Sk]
  have k6:=Qk hs (Qx u0)
  omega
end Go.Proofs.YtohjcchcladneaaGreat
