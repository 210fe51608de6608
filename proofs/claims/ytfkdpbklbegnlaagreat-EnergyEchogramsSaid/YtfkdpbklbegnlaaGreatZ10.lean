/- A part of the proof: lemmas. -/
import Derived.Test.YtfkdpbklbegnlaaGreatZ9
set_option linter.unusedVariables false
set_option linter.unusedSimpArgs false
set_option maxRecDepth 100000
set_option maxHeartbeats 16000000
open Bool renaming and_eq_true->Qc,eq_iff_iff->Rz,or_eq_true->Qz,true_and->Wo
open Classical renaming choose->Ms,choose_spec->Ps
open Go.IntKind renaming i64->Qb,wrap->Qa,wrap_i64->Tj
open Go.IntWalk renaming i64_in->Kg
open Go.Sx.Done renaming mk->Ql
open Go.Sx.Ren renaming of->Wt
open Int renaming add_zero->Wf,mul_neg->Sf,mul_one->Sl,mul_pos->Rm,mul_tdiv_cancel_left->Lf,mul_zero->Tf,natAbs_mul->Nl,neg_mul->Tt,neg_neg->Tu,one_mul->Ph,toNat_natCast->Rf,zero_add->Oe,zero_mul->Tw
open List renaming all_eq_true->Rj,any_append->Jd,any_cons->Ng,any_eq_true->Og,drop_eq_getElem_cons->Qi,drop_of_length_le->Qk,getElem_mem->Qr,mem_map->Wd,mem_range->Tz,mem_take_iff_getElem->Mv,range'->Oy,range'_succ->Mr,take_succ_eq_append_getElem->Qw
open List.cons renaming injEq->Qs
open Nat renaming le_refl->Qd,mod_lt->Pn,zero_le->Qn
namespace Go.Proofs.YtfkdpbklbegnlaaGreat
open Go Go.Sx
def Ya:List (Int × Int × Int)->Int × Int × Int
 | []=>(0,0,0)
 | x::l=>if x.2.2=0 then Ya l else x
def Hal.names (h:Hal):List ByteArray:=(Ue 0 [] h.ms).2.2
def Hal.wal (h:Hal):Int × Int × List ByteArray:=Zd4 h.cs h.names 0 su0 h.ws
def Hal.can (h:Hal):Int × Int × List ByteArray:=Zhs h h.names 0 h.wal.2.2 h.ks
def Yad (h:Hal):List (Int × Int × Int) :=
  [(0, 0, unl (set7 h).a 4), (0, 0, unl (set7 h).b 2), (0, 0, unl (set7 h).c 8), (1, (Ue 0 [] h.ms).1, (Ue 0 [] h.ms).2.1), (0, 0, Zl3 h h.names), (0, 0, unl (set7 h).d 10), (0, 0, unl (set7 h).e 8), (2, (Zin 0 h.cs).1, (Zin 0 h.cs).2),
   (3, h.wal.1, h.wal.2.1), (0, 0, unl (Vi h) 24), (0, 0, unl (decide (0<Zea h)) 9), (0, 0, unl (set7 h).f 8), (4, h.can.1, h.can.2.1), (0, 0, unl (set7 h).g 8), (5, (Zf2 h 0 [] h.ss).1, (Zf2 h 0 [] h.ss).2.1)]
def chk (h:Hal):Int × Int × Int:=Ya (Yad h)
structure Hal.texts (h:Hal):Prop where
 nm:h.nm.data.toList.length<100000
 ms:∀ m∈h.ms,m.nm.data.toList.length<100000
 ws:∀ m∈h.ws,m.nm.data.toList.length<100000
 ks:∀ m∈h.ks,m.nm.data.toList.length<100000
 ss:∀ m∈h.ss,m.nm.data.toList.length<100000
theorem LpR.it {P:Program} {N n0 m:Nat} {c:Code} {Q:Exit->Env->St->Prop} {env env2:Env} {σ σ2:St} (hr:Ren n0 env σ env2 σ2) (h:Awp P N c env2 σ2 (seqQ (fun e s=>Done (LpR P N n0 c Q m e s)) Q)):LpR P N n0 c Q (m+1) env σ :=
 LpR.go hr (h.seqMono fun _ _ k=>k.1)
theorem Xu {res:PRes} {x:Int × Int × Int} {l:List (Int × Int × Int)} (h:res=⟨chkV (Ya (x::l)),[]⟩):x.2.2≠0->res=⟨chkV x,[]⟩:=fun hx=>by rw [h,Ya,if_neg hx]
theorem Xv {res:PRes} {x:Int × Int × Int} {l:List (Int × Int × Int)} (h:res=⟨chkV (Ya (x::l)),[]⟩) (hx:x.2.2=0):res=⟨chkV (Ya l),[]⟩:=by rw [h,Ya,if_pos hx]
theorem Zag {b:Bool} {e:Int} (h:unl b e=0) (he:e≠0):b=true:=by cases b; exact (he h).elim; rfl
theorem Yhz {h:Hal} (hf:h.few) (ht:h.texts) {res:PRes} (h0:res=⟨chkV (chk h),[]⟩):Lp Tryz.prog Tryz.f143.ntmps lc63 (Zat 0) ⟨Zt h (set7 h) [] su0 [],98⟩ (Q63 res):=by
 have hg:=Yiy h Vo
 refine LpR.start 16 98 (Qd _) ?_
 refine LpR.it (Wt [] rfl (kps) (kps)) (bs.av hg (it0 (Xu h0) fun z0 e σ hr=>?_))
 have h1:=Xv h0 z0
 refine LpR.it hr (bs.av hg (it1 (Xu h1) fun z1 e σ hr=>?_))
 have h2:=Xv h1 z1
 refine LpR.it hr (bs.av hg (it2 (Xu h2) fun z2 e σ hr=>?_))
 have h3:=Xv h2 z2
 refine LpR.it hr (bs.av hg (it3 hf ht.ms (Xu h3) fun z3 e σ hr=>?_))
 have h4:=Xv h3 z3
 refine LpR.it hr (bs.av hg (it4 (Xu h4) fun z4 e σ hr=>?_))
 have h5:=Xv h4 z4
 refine LpR.it hr (bs.av hg (it5 (Xu h5) fun z5 e σ hr=>?_))
 have h6:=Xv h5 z5
 refine LpR.it hr (bs.av hg (it6 (Xu h6) fun z6 e σ hr=>?_))
 have h7:=Xv h6 z6
 refine LpR.it hr (bs.av hg (it7 hf (Xu h7) fun z7 e σ hr=>?_))
 have h8:=Xv h7 z7
 have hwc:h.ws.length<=h.cs.length:=by
  have:=Zag z5 (by decide)
  simp only [set7,Qc,decide_eq_true_eq] at this
  omega
 refine LpR.it hr (bs.av hg (it8 hf ht.ws hwc (Xu h8) fun z8 e σ hr=>?_))
 have h9:=Xv h8 z8
 refine LpR.it hr (bs.av (Zd (c147 hf) hg) (it9 (Xu h9) fun z9 e σ hr=>?_))
 have h10:=Xv h9 z9
 refine LpR.it hr (bs.av (Zd (c149 hf) hg) (it10 (Xu h10) fun z10 e σ hr=>?_))
 have h11:=Xv h10 z10
 refine LpR.it hr (bs.av hg (it11 (Xu h11) fun z11 e σ hr=>?_))
 have h12:=Xv h11 z11
 refine LpR.it hr (bs.av hg (it12 hf ht.ks (Xu h12) fun z12 e σ hr=>?_))
 have h13:=Xv h12 z12
 refine LpR.it hr (bs.av hg (it13 (Xu h13) fun z13 e σ hr=>?_))
 have h14:=Xv h13 z13
 refine LpR.it hr (bs.av hg (it14 hf ht.ss (Xu h14) fun z14 e σ hr=>?_))
 have h15:=Xv h14 z14
 refine LpR.go hr (bs.av (sx:=nos) hg ?_)
 repeat'(first|refine wk0 ?_|(refine wk2 ?_ ?_<;>intro _)|fail)
 rw [h15]
 exact Ze rfl rfl
theorem c63 {h:Hal} (hf:h.few) (ht:h.texts):PCall Tryz.prog 143 [h.av] ⟨chkV (chk h),[]⟩:=by
 have ha:=Yn (res:=⟨Bo (Un h.nm),[]⟩) ht.nm
 have l1:(h.ms.map Mat.av).length=h.ms.length:=by simp
 have l2:(h.cs.map pt).length=h.cs.length:=by simp
 have l3:(h.ws.map Wal.av).length=h.ws.length:=by simp
 have l4:(h.ks.map Can.av).length=h.ks.length:=by simp
 have l5:(h.ss.map Sea.av).length=h.ss.length:=by simp
 have key:=Yhz hf ht rfl
 refine pn Vo Tryz.func143 ?_
 repeat'(first|refine wk0 ?_|(refine wk2 ?_ ?_<;>intro _)|fail)
 ·rename_i hb
  have e7:set7 h=⟨Un h.nm,within h.ht 2 5000,decide (((h.ms.map Mat.av).length:Int)<=10),decide (((h.ws.map Wal.av).length:Int)=(h.cs.map pt).length),decide (((h.ws.map Wal.av).length:Int)<=12),decide (((h.ks.map Can.av).length:Int)<=4),decide (((h.ss.map Sea.av).length:Int)<=40)⟩:=by
   rw [l2] at hb;rw [l1,l2,l3,l4,l5,set7,hb]; rfl
  rw [e7] at key
  refine Lp.ren (Wt [] rfl (kps) (kps)) key
 ·rename_i hb
  have e7:set7 h=⟨Un h.nm,within h.ht 2 5000,decide (((h.ms.map Mat.av).length:Int)<=10),false,decide (((h.ws.map Wal.av).length:Int)<=12),decide (((h.ks.map Can.av).length:Int)<=4),decide (((h.ss.map Sea.av).length:Int)<=40)⟩:=by
   rw [l2] at hb;rw [l1,l3,l4,l5,set7,hb]; rfl
  rw [e7] at key
  refine Lp.ren (Wt [] rfl (kps) (kps)) key
structure Ln where
 x:Int
 y:Int
 dx:Int
 dy:Int
abbrev Ln.av (l:Ln):AV:=.agg [I l.x,I l.y,I l.dx,I l.dy]
structure Pt where
 x:Int
 y:Int
 z:Int
 d:Int
abbrev Pt.av (p:Pt):AV:=.agg [I p.x,I p.y,I p.z,I p.d]
def Ln.n (l:Ln):Int:=imax (size l.dx) (size l.dy)
def Ln.sx (l:Ln):Int:=Qa Qb (Int.tdiv l.dx l.n)
def Ln.sy (l:Ln):Int:=Qa Qb (Int.tdiv l.dy l.n)
theorem c125 (n:Int):PCall Tryz.prog 196 [I n] ⟨I (size n),[]⟩:=by
 refine pn Zc Tryz.func196 ?_
 repeat'(first|refine wk0 ?_|(refine wk2 ?_ ?_<;>intro _)|fail)
 exact Za rfl
theorem c119 (n:Int):PCall Tryz.prog 207 [I n] ⟨I (sgn n),[]⟩:=by
 refine pn Zc Tryz.func207 ?_
 repeat'(first|refine wk0 ?_|(refine wk2 ?_ ?_<;>intro _)|fail)
 all_goals exact Za (by simp_all [sgn]<;>omega)
theorem c163 (n:Int):PCall Tryz.prog 127 [I n] ⟨Bo (within n (-5000) 5000),[]⟩:=by
 refine pn Za1 Tryz.func127 ?_
 repeat'(first|refine wk0 ?_|(refine wk2 ?_ ?_<;>intro _)|fail)
 exact Zb rfl
theorem c162 (a b c:Int):PCall Tryz.prog 125 [I a,I b,I c] ⟨.tup [P2 a b,I c],[]⟩:=by
 refine pn Za1 Tryz.func125 ?_
 repeat'(first|refine wk0 ?_|(refine wk2 ?_ ?_<;>intro _)|fail)
 exact Ze rfl rfl
theorem c201 (x y:Int):PCall Tryz.prog 202 [P2 x y] ⟨P4 x y 0 1,[]⟩:=by
 refine pn Za1 Tryz.func202 ?_
 repeat'(first|refine wk0 ?_|(refine wk2 ?_ ?_<;>intro _)|fail)
 exact Ze rfl rfl
def rS1:List AV->Option PRes
 | [.int .i64 n]=>some ⟨I (size n),[]⟩
 | _=>none
def rS2:List AV->Option PRes
 | [.int .i64 n]=>some ⟨I (sgn n),[]⟩
 | _=>none
def r163:List AV->Option PRes
 | [.int .i64 n]=>some ⟨Bo (within n (-5000) 5000),[]⟩
 | _=>none
def r162:List AV->Option PRes
 | [.int .i64 a,.int .i64 b,.int .i64 c]=>some ⟨.tup [P2 a b,I c],[]⟩
 | _=>none
def r201:List AV->Option PRes
 | [.agg [.int .i64 x,.int .i64 y]]=>some ⟨P4 x y 0 1,[]⟩
 | _=>none
def r36R:List AV->Option PRes
 | [.agg [.int .i64 x,.int .i64 y,.int .i64 z]]=>some ⟨P4 x y z 1,[]⟩
 | _=>none
def kR1:PC:=ins 196 rS1 (ins 207 rS2 (ins 127 r163 (ins 125 r162 (ins 202 r201 (ins 84 r36R k93)))))
theorem Zpz:PCOK Tryz.prog kR1:=by
 refine Zh (fun a res h=>?_) (Zh (fun a res h=>?_) (Zh (fun a res h=>?_) (Zh (fun a res h=>?_) (Zh (fun a res h=>?_) (Zh (fun a res h=>?_) Za1)))))
 ·unfold rS1 at h; split at h<;>cases h; exact c125 _
 ·unfold rS2 at h; split at h<;>cases h; exact c119 _
 ·unfold r163 at h; split at h<;>cases h; exact c163 _
 ·unfold r162 at h; split at h<;>cases h; exact c162 _ _ _
 ·unfold r201 at h; split at h<;>cases h; exact c201 _ _
 ·unfold r36R at h; split at h<;>cases h; exact c36 _ _ _
theorem c212 (l:Ln) (hn:l.n≠0):PCall Tryz.prog 270 [l.av] ⟨.tup [I l.n,I l.sx,I l.sy],[]⟩:=by
 have hn' : ¬ imax (size l.dx) (size l.dy)=0:=hn
 refine pn Zpz Tryz.func270 ?_
 repeat'(first|refine wk1 ?_|(refine wk2 ?_ ?_<;>intro _)|fail)
 exact Ze rfl rfl
def r212:List AV->Option PRes
 | [.agg [.int .i64 x,.int .i64 y,.int .i64 dx,.int .i64 dy]]=>asr (decide ((Ln.mk x y dx dy).n≠0)) ⟨.tup [I (Ln.mk x y dx dy).n,I (Ln.mk x y dx dy).sx,I (Ln.mk x y dx dy).sy],[]⟩
 | _=>none
def kR2:PC:=ins 270 r212 kR1
theorem Zuc:PCOK Tryz.prog kR2:=by
 refine Zh (fun a res h=>?_) Zpz
 unfold r212 at h; split at h
 ·obtain ⟨h1,rfl⟩:=Yx h; exact c212 ⟨_,_,_,_⟩ (of_decide_eq_true h1)
 ·cases h
def Ln.beside (l:Ln) (p:Pt):Int:=Qa Qb (Qa Qb (l.sx*Qa Qb (p.y-Qa Qb (l.y*p.d)))-Qa Qb (l.sy*Qa Qb (p.x-Qa Qb (l.x*p.d))))
def Ln.along (l:Ln) (p:Pt):Int:=Qa Qb (Qa Qb (l.sx*Qa Qb (p.x-Qa Qb (l.x*p.d)))+Qa Qb (l.sy*Qa Qb (p.y-Qa Qb (l.y*p.d))))
def Ln.full (l:Ln):Int:=Qa Qb (l.n*Qa Qb (Qa Qb (l.sx*l.sx)+Qa Qb (l.sy*l.sy)))
theorem c185 (l:Ln) (p:Pt) (hn:l.n≠0):PCall Tryz.prog 203 [l.av,p.av] ⟨I (l.beside p),[]⟩:=by
 obtain ⟨x,y,dx,dy⟩:=l
 have ha:=Yn (res:=⟨.tup [I (Ln.mk x y dx dy).n,I (Ln.mk x y dx dy).sx,I (Ln.mk x y dx dy).sy],[]⟩) hn
 refine pn Zuc Tryz.func203 ?_
 repeat'(first|refine wk0 ?_|(refine wk2 ?_ ?_<;>intro _)|fail)
 exact Za rfl
theorem c186 (l:Ln) (p:Pt) (hn:l.n≠0):PCall Tryz.prog 268 [l.av,p.av] ⟨I (l.along p),[]⟩:=by
 obtain ⟨x,y,dx,dy⟩:=l
 have ha:=Yn (res:=⟨.tup [I (Ln.mk x y dx dy).n,I (Ln.mk x y dx dy).sx,I (Ln.mk x y dx dy).sy],[]⟩) hn
 refine pn Zuc Tryz.func268 ?_
 repeat'(first|refine wk0 ?_|(refine wk2 ?_ ?_<;>intro _)|fail)
 exact Za rfl
theorem c188 (l:Ln) (hn:l.n≠0):PCall Tryz.prog 269 [l.av] ⟨I l.full,[]⟩:=by
 obtain ⟨x,y,dx,dy⟩:=l
 have ha:=Yn (res:=⟨.tup [I (Ln.mk x y dx dy).n,I (Ln.mk x y dx dy).sx,I (Ln.mk x y dx dy).sy],[]⟩) hn
 refine pn Zuc Tryz.func269 ?_
 repeat'(first|refine wk0 ?_|(refine wk2 ?_ ?_<;>intro _)|fail)
 exact Za rfl
def r185:List AV->Option PRes
 | [.agg [.int .i64 x,.int .i64 y,.int .i64 dx,.int .i64 dy],.agg [.int .i64 a,.int .i64 b,.int .i64 c,.int .i64 d]]=>asr (decide ((Ln.mk x y dx dy).n≠0)) ⟨I ((Ln.mk x y dx dy).beside ⟨a,b,c,d⟩),[]⟩
 | _=>none
def r186:List AV->Option PRes
 | [.agg [.int .i64 x,.int .i64 y,.int .i64 dx,.int .i64 dy],.agg [.int .i64 a,.int .i64 b,.int .i64 c,.int .i64 d]]=>asr (decide ((Ln.mk x y dx dy).n≠0)) ⟨I ((Ln.mk x y dx dy).along ⟨a,b,c,d⟩),[]⟩
 | _=>none
def r188:List AV->Option PRes
 | [.agg [.int .i64 x,.int .i64 y,.int .i64 dx,.int .i64 dy]]=>asr (decide ((Ln.mk x y dx dy).n≠0)) ⟨I (Ln.mk x y dx dy).full,[]⟩
 | _=>none
def kR3:PC:=ins 203 r185 (ins 268 r186 (ins 269 r188 kR2))
theorem Zyg:PCOK Tryz.prog kR3:=by
 refine Zh (fun a res h=>?_) (Zh (fun a res h=>?_) (Zh (fun a res h=>?_) Zuc))
 ·unfold r185 at h; split at h
  ·obtain ⟨h1,rfl⟩:=Yx h; exact c185 ⟨_,_,_,_⟩ ⟨_,_,_,_⟩ (of_decide_eq_true h1)
  ·cases h
 ·unfold r186 at h; split at h
  ·obtain ⟨h1,rfl⟩:=Yx h; exact c186 ⟨_,_,_,_⟩ ⟨_,_,_,_⟩ (of_decide_eq_true h1)
  ·cases h
 ·unfold r188 at h; split at h
  ·obtain ⟨h1,rfl⟩:=Yx h; exact c188 ⟨_,_,_,_⟩ (of_decide_eq_true h1)
  ·cases h
def Ln.has (l:Ln) (p:Pt):Bool:=decide (l.beside p=0)&&within (l.along p) 0 (Qa Qb (l.full*p.d))
theorem c189 (l:Ln) (p:Pt) (hn:l.n≠0):PCall Tryz.prog 199 [l.av,p.av] ⟨Bo (l.has p),[]⟩:=by
 obtain ⟨x,y,dx,dy⟩:=l
 obtain ⟨a,b,c,d⟩:=p
 refine pn Zyg Tryz.func199 ?_
 repeat'(first|refine wk0 ?_|(refine wk2 ?_ ?_<;>intro _)|fail)
 all_goals exact Zb (by clear hn; simp_all [Ln.has])
def Ln.a (l:Ln):Pt:=⟨l.x,l.y,0,1⟩
def Ln.b (l:Ln):Pt:=⟨Qa Qb (l.x+l.dx),Qa Qb (l.y+l.dy),0,1⟩
theorem c199 (l:Ln):PCall Tryz.prog 198 [l.av] ⟨.tup [l.a.av,l.b.av],[]⟩:=by
 refine pn Zyg Tryz.func198 ?_
 repeat'(first|refine wk0 ?_|(refine wk2 ?_ ?_<;>intro _)|fail)
 exact Ze rfl rfl
def r189:List AV->Option PRes
 | [.agg [.int .i64 x,.int .i64 y,.int .i64 dx,.int .i64 dy],.agg [.int .i64 a,.int .i64 b,.int .i64 c,.int .i64 d]]=>asr (decide ((Ln.mk x y dx dy).n≠0)) ⟨Bo ((Ln.mk x y dx dy).has ⟨a,b,c,d⟩),[]⟩
 | _=>none
def r199:List AV->Option PRes
 | [.agg [.int .i64 x,.int .i64 y,.int .i64 dx,.int .i64 dy]]=>some ⟨.tup [P4 x y 0 1,P4 (Qa Qb (x+dx)) (Qa Qb (y+dy)) 0 1],[]⟩
 | _=>none
def kR4:PC:=ins 199 r189 (ins 198 r199 kR3)
theorem Zdz:PCOK Tryz.prog kR4:=by
 refine Zh (fun a res h=>?_) (Zh (fun a res h=>?_) Zyg)
 ·unfold r189 at h; split at h
  ·obtain ⟨h1,rfl⟩:=Yx h; exact c189 ⟨_,_,_,_⟩ ⟨_,_,_,_⟩ (of_decide_eq_true h1)
  ·cases h
 ·unfold r199 at h; split at h<;>cases h; exact c199 ⟨_,_,_,_⟩
def Ln.touch (l m:Ln):Bool :=
 (l.has m.a||l.has m.b||m.has l.a||m.has l.b)||(decide (Qa Qb (sgn (l.beside m.a)*sgn (l.beside m.b))<0)&&decide (Qa Qb (sgn (m.beside l.a)*sgn (m.beside l.b))<0))
theorem c198 (l m:Ln) (hn:l.n≠0) (hm:m.n≠0):PCall Tryz.prog 197 [l.av,m.av] ⟨Bo (l.touch m),[]⟩:=by
 obtain ⟨x,y,dx,dy⟩:=l
 obtain ⟨u,v,du,dv⟩:=m
 refine pn Zdz Tryz.func197 ?_
 repeat'(first|refine wk0 ?_|(refine wk2 ?_ ?_<;>intro _)|fail)
 all_goals exact Zb (by clear hn hm; simp_all [Ln.touch,Ln.a,Ln.b]<;>first|rfl|(intro hx; exact absurd (of_decide_eq_true hx) (by omega)))
def Zl8 (c:Can):Ln:=⟨c.fx,c.fy,Qa Qb (c.tx-c.fx),0⟩
def Zl7 (c:Can):Ln:=⟨c.tx,c.fy,0,Qa Qb (c.ty-c.fy)⟩
def Zl6 (c:Can):Ln:=⟨c.tx,c.ty,Qa Qb (0-Qa Qb (c.tx-c.fx)),0⟩
def Zl5 (c:Can):Ln:=⟨c.fx,c.ty,0,Qa Qb (0-Qa Qb (c.ty-c.fy))⟩
theorem c200 (c:Can):PCall Tryz.prog 200 [.agg c.av] ⟨.agg [I (Zl8 c).x,I (Zl8 c).y,I (Zl8 c).dx,I (Zl8 c).dy,I (Zl7 c).x,I (Zl7 c).y,I (Zl7 c).dx,I (Zl7 c).dy,I (Zl6 c).x,I (Zl6 c).y,I (Zl6 c).dx,I (Zl6 c).dy,I (Zl5 c).x,I (Zl5 c).y,I (Zl5 c).dx,I (Zl5 c).dy],[]⟩:=by
 refine pn Zdz Tryz.func200 ?_
 repeat'(first|refine wk0 ?_|(refine wk2 ?_ ?_<;>intro _)|fail)
 exact Ze rfl rfl
def Zgc (c:Can) (p:Pt):Bool:=within p.x (Qa Qb (imin c.fx c.tx*p.d)) (Qa Qb (imax c.fx c.tx*p.d))&&within p.y (Qa Qb (imin c.fy c.ty*p.d)) (Qa Qb (imax c.fy c.ty*p.d))
theorem c191 (c:Can) (p:Pt):PCall Tryz.prog 201 [.agg c.av,p.av] ⟨Bo (Zgc c p),[]⟩:=by
 refine pn Zdz Tryz.func201 ?_
 repeat'(first|refine wk0 ?_|(refine wk2 ?_ ?_<;>intro _)|fail)
 all_goals exact Zb (by simp_all [Zgc])
def lnOf (cs:List (Int × Int)) (i:Nat):Ln:=⟨(cor cs i).1,(cor cs i).2,Qa Qb ((cor cs ((i+1)%cs.length)).1-(cor cs i).1),Qa Qb ((cor cs ((i+1)%cs.length)).2-(cor cs i).2)⟩
theorem c105 {h:Hal} (hf:h.few) {k:Nat} (hk:k<h.cs.length):PCall Tryz.prog 195 [h.av,I k] ⟨(lnOf h.cs k).av,[]⟩:=by
 have e1:=Zfx hk
 have e2:=Zfx (ps:=h.cs) (i:=(k+1)%h.cs.length) (Pn _ (by omega))
 have e3:(h.cs.map pt).length=h.cs.length:=by simp
 have hl:=hf.2.1
 have hw:Qa Qb ((k:Int)+1)=((k+1:Nat):Int):=Kg _ ⟨by omega,by omega⟩
 have hm:(Qa Qb ((k:Int)+1)).tmod ((h.cs.map pt).length:Int)=(((k+1)%h.cs.length:Nat):Int):=by rw [hw,e3]; rfl
 have e4:(h.cs.map pt)[((k:Nat):Int).toNat]?=some [I (cor h.cs k).1,I (cor h.cs k).2]:=by simpa using e1
 have e5:(h.cs.map pt)[((Qa Qb ((k:Int)+1)).tmod ((h.cs.map pt).length:Int)).toNat]?=some [I (cor h.cs ((k+1)%h.cs.length)).1,I (cor h.cs ((k+1)%h.cs.length)).2]:=by rw [hm,Rf]; exact e2
 refine pn Zdz Tryz.func195 ?_
 repeat'(first|refine wk1 ?_|(refine wk2 ?_ ?_<;>intro _)|fail)
 exact Ze rfl rfl
theorem Zd3 (a b:ByteArray):(a==b)=decide (a=b):=by
 rw [Rz]
 obtain ⟨a⟩:=a
 obtain ⟨b⟩:=b
 have:((⟨a⟩:ByteArray)==⟨b⟩)=(a==b):=rfl
 rw [this]
 simp
def Ye (s:ByteArray):Nat->List Mat->Int
 | _,[]=>-1
 | i,m::l=>if m.nm==s then i else Ye s (i+1) l
theorem c128 {h:Hal} (hf:h.few) (s:ByteArray):PCall Tryz.prog 126 [h.av,.str s] ⟨I (Ye s 0 h.ms),[]⟩:=by
 refine pn Zdz Tryz.func126 ?_
 refine Zr (S:=Nat × Int) (fun t=>h.ms.length-t.1) (fun t=>[(2,.ptr 0 0 0),(1,.str s),(5,I t.2)]) (fun _=>[(0,.row 9 [h.cells] true false)]) 1 1 (fun t=>t.2=t.1/\t.1<=h.ms.length/\Ye s t.1 (h.ms.drop t.1)=Ye s 0 h.ms) (0,0) ⟨rfl,Qn _,rfl⟩ (Qd _) [] rfl (kps) (kps) ?_
 rintro ⟨k,i⟩ ⟨hi,hk,hh⟩
 dsimp only at hi hk hh ⊢
 subst hi
 refine bs.av (sx:=nos) Zdz ?_
 have e3:=Zao h.ms
 by_cases hlt:k<h.ms.length
 ·have e1:=Zpo hlt
  rw [Qi hlt,Ye] at hh
  cases hb:(h.ms[k].nm==s) with
  | true =>
   rw [hb,if_pos rfl] at hh
   repeat'(first|refine wk1 ?_|(refine wk2 ?_ ?_<;>intro _)|fail)
   ·exact Za hh
   ·rename_i hx; rw [hb] at hx; cases hx
  | false =>
   rw [hb,if_neg (by simp)] at hh
   repeat'(first|refine wk1 ?_|(refine wk2 ?_ ?_<;>intro _)|fail)
   ·rename_i hx; rw [hb] at hx; cases hx
   ·exact Ql ⟨(k+1,_),[],rfl,kps,kps,⟨Zg (by have:=hf.1; omega),hlt,hh⟩,by dsimp only; omega⟩
 ·rw [Qk (by omega)] at hh
  repeat'(first|refine wk1 ?_|(refine wk2 ?_ ?_<;>intro _)|fail)
  exact Za hh
def Xt (s:ByteArray):Bool:=decide (1<=(s.size:Int))&&(decide ((s.size:Int)<=12)&&Zdx true s.data.toList)
theorem c161 {s:ByteArray} (hs:s.data.toList.length<100000):PCall Tryz.prog 124 [.str s] ⟨Bo (Xt s),[]⟩:=by
 have hz:s.size=s.data.toList.length:=by simp
 refine pn Zc Tryz.func124 ?_
 repeat'(first|refine wk0 ?_|(refine wk2 ?_ ?_<;>intro _)|fail)
 ·rename_i hx
  have hx:=of_decide_eq_true hx
  exact Zb (by rw [Xt,decide_eq_false (by omega)]; rfl)
 ·exact Zb (by clear hz hs; simp_all [Xt]<;>omega)
 ·rename_i hb1 hb2
  have hb:Xt s=Zdx true s.data.toList:=by clear hz; simp_all [Xt]
  rw [hb]
  refine Zr (S:=Nat × Int) (fun t=>s.data.toList.length-t.1) (fun t=>[(0,.str s),(3,I t.2)]) (fun _=>[]) 0 0 (fun t=>t.2=t.1/\t.1<=s.data.toList.length/\Zdx (decide (t.1=0)) (s.data.toList.drop t.1)=Zdx true s.data.toList) (0,0) ⟨rfl,Qn _,rfl⟩ (Qd _) [] rfl (kps) (kps) ?_
  rintro ⟨k,i⟩ ⟨hi,hk,hh⟩
  dsimp only at hi hk hh ⊢
  subst hi
  clear hb1 hb2 hb
  have hk9:k<9000000000:=by omega
  refine bs.av (sx:=nos) Zc ?_
  by_cases hlt:k<s.data.toList.length
  ·have e1:s.data.toList[((k:Nat):Int).toNat]?=some s.data.toList[k]:=by simp only [Rf]; exact List.getElem?_eq_getElem hlt
   rw [Qi hlt,Zkr] at hh;generalize s.data.toList[k]=c0 at *
   repeat'(first|refine wk1 ?_|(refine wk2 ?_ ?_<;>intro _)|fail)
   all_goals (clear e1)
   all_goals (generalize c0.toNat=c at *)
   all_goals (clear hz hs)
   all_goals first
    | exact Zb (by
      have hg:Zl0 (decide (k=0)) c=false:=by clear hh; simp_all [Zl0,Zk1]<;>omega
      rw [hg,Bool.false_and] at hh
      exact hh)
    | exact Ql ⟨(k+1,_),[],rfl,kps,trivial,⟨Zg hk9,hlt,by
      have hg:Zl0 (decide (k=0)) c=true:=by clear hh; simp_all [Zl0,Zk1]<;>omega
      rw [hg,Wo] at hh
      exact hh⟩,by dsimp only; omega⟩
  ·rw [Qk (by omega)] at hh
   repeat'(first|refine wk1 ?_|(refine wk2 ?_ ?_<;>intro _)|fail)
   exact Zb hh
theorem Zct (s:ByteArray):Xt s=Un s:=by
 unfold Xt Un
 have h1:(s==⟨#[]⟩)=decide (s.size=0):=by
  rw [Zd3,Rz]
  simp only [decide_eq_true_eq]
  constructor
  ·rintro rfl; rfl
  ·intro h0
   obtain ⟨d⟩:=s;have:d = #[]:=by simpa [ByteArray.size] using h0
   rw [this]
 rw [h1]
 have h2:decide (1<=(s.size:Int)) = !decide (s.size=0):=by
  rw [Rz]; simp only [decide_eq_true_eq,Bool.not_eq_true',decide_eq_false_iff_not]; omega
 rw [h2]
 cases Zdx true s.data.toList<;>cases decide (s.size=0)<;>simp
noncomputable def fam (g:Nat->List AV) (r:Nat->PRes) (n:Nat) (a:List AV):Option PRes:=by
 classical exact if hx:∃ k,k<n/\a=g k then some (r (Ms hx)) else none
theorem Zze {g:Nat->List AV} {r:Nat->PRes} {n k:Nat} (hi:∀ j,g j=g k->r j=r k) (hk:k<n):fam g r n (g k)=some (r k):=by
 classical
 unfold fam
 have hx:∃ j,j<n/\g k=g j:=⟨k,hk,rfl⟩
 rw [dif_pos hx,hi _ (Ps hx).2.symm]
theorem Zuu {f0:FuncId} {g:Nat->List AV} {r:Nat->PRes} {n:Nat} {pt:PC} (h0:∀ k,k<n->PCall Tryz.prog f0 (g k) (r k)) (h:PCOK Tryz.prog pt):PCOK Tryz.prog (ins f0 (fam g r n) pt):=by
 classical
 refine Zh (fun a res hr=>?_) h
 unfold fam at hr
 split at hr
 ·rename_i hx
  obtain ⟨h1,h2⟩:=Ps hx
  cases hr
  have:=h0 _ h1
  rw [<-h2] at this
  exact this
 ·cases hr
noncomputable abbrev lines (h:Hal):List AV->Option PRes:=fam (fun k=>[h.av,I (k:Int)]) (fun k=>⟨(lnOf h.cs k).av,[]⟩) h.cs.length
theorem Ve {h:Hal} {k:Nat} (hk:k<h.cs.length):lines h [h.av,I (k:Int)]=some ⟨(lnOf h.cs k).av,[]⟩ :=
 Zze (g:=fun k=>[h.av,I (k:Int)]) (r:=fun k=>⟨(lnOf h.cs k).av,[]⟩) (fun j hj=>by
  simp only [Qs,AV.int.injEq,Int.natCast_inj,true_and,and_true] at hj
  rw [hj]) hk
noncomputable def kR5 (h:Hal):PC:=ins 195 (lines h) kR4
theorem Zmw {h:Hal} (hf:h.few):PCOK Tryz.prog (kR5 h):=Zuu (fun k hk=>c105 hf hk) Zdz
def Zrg (n:Int) (w:Wl):Int:=Qa Qb (Qa Qb (n+Qa Qb (w.fx*w.ty))-Qa Qb (w.tx*w.fy))
def Zj4 (cs:List (Int × Int)):Int:=(wls cs).foldl Zrg 0
theorem Zh2 (cs:List (Int × Int)):(wls cs).length=cs.length:=by simp [wls]
theorem Ye0 {cs:List (Int × Int)} {k:Nat} (h:k<cs.length):(wls cs)[k]'(by rw [Zh2]; exact h)=wlOf cs k:=by simp [wls]
theorem Ya3 {cs:List (Int × Int)} {k:Nat} (h:k<cs.length):(wls cs).drop k=wlOf cs k::(wls cs).drop (k+1):=by
 rw [Qi (by rw [Zh2]; exact h),Ye0 h]
theorem c46 {h:Hal} (hf:h.few):PCall Tryz.prog 130 [h.av] ⟨I (Zj4 h.cs),[]⟩:=by
 refine pn Zdz Tryz.func130 ?_
 refine Zr (S:=Nat × Int × Int) (fun t=>h.cs.length-t.1) (fun t=>[(1,.ptr 0 0 0),(3,I t.2.2),(4,I t.2.1)]) (fun _=>[(0,.row 9 [h.cells] true false)]) 1 1 (fun t=>t.2.1=t.1/\t.1<=h.cs.length/\((wls h.cs).drop t.1).foldl Zrg t.2.2=Zj4 h.cs) (0,0,0) ⟨rfl,Qn _,rfl⟩ (Qd _) [] rfl (kps) (kps) ?_
 rintro ⟨k,i,n⟩ ⟨hi,hk,hh⟩
 dsimp only at hi hk hh ⊢
 subst hi
 refine bs.av (sx:=nos) Zdz ?_
 have e3:=Zq2 h.cs
 have hl:=hf.2.1
 by_cases hlt:k<h.cs.length
 ·rw [Ya3 hlt,List.foldl_cons] at hh
  have e1:=Zfx hlt
  have e2:=Zfx (ps:=h.cs) (i:=(k+1)%h.cs.length) (Pn _ (by omega))
  have hw:Qa Qb ((k:Int)+1)=((k+1:Nat):Int):=Kg _ ⟨by omega,by omega⟩
  have hm:(Qa Qb ((k:Int)+1)).tmod ((h.cs.map pt).length:Int)=(((k+1)%h.cs.length:Nat):Int):=by rw [hw,e3]; rfl
  have e4:(h.cs.map pt)[((k:Nat):Int).toNat]?=some [I (cor h.cs k).1,I (cor h.cs k).2]:=by simpa using e1
  have e5:(h.cs.map pt)[((Qa Qb ((k:Int)+1)).tmod ((h.cs.map pt).length:Int)).toNat]?=some [I (cor h.cs ((k+1)%h.cs.length)).1,I (cor h.cs ((k+1)%h.cs.length)).2]:=by rw [hm,Rf]; exact e2
  repeat'(first|refine wk1 ?_|(refine wk2 ?_ ?_<;>intro _)|fail)
  exact Ql ⟨(k+1,_,_),[],rfl,kps,kps,⟨Zg (by omega),hlt,hh⟩,by dsimp only; omega⟩
 ·rw [Qk (by rw [Zh2]; omega)] at hh
  repeat'(first|refine wk1 ?_|(refine wk2 ?_ ?_<;>intro _)|fail)
  exact Za hh
def Hal.nz (h:Hal):Prop:=∀ k,k<h.cs.length->(lnOf h.cs k).n≠0
def Zqk (p:Pt) (l:Ln):Bool :=
 ((decide (Qa Qb (l.y*p.d)<=p.y) && !decide (Qa Qb (Qa Qb (l.y+l.dy)*p.d)<=p.y))&&decide (0<l.beside p))||((!decide (Qa Qb (l.y*p.d)<=p.y)&&decide (Qa Qb (Qa Qb (l.y+l.dy)*p.d)<=p.y))&&decide (l.beside p<0))
def Zlz (p:Pt):Bool->List Ln->Bool
 | b,[]=>b
 | b,l::r=>if l.has p then false else Zlz p (b ^^ Zqk p l) r
def lns (cs:List (Int × Int)):List Ln:=(List.range cs.length).map (lnOf cs)
theorem Za8 (cs:List (Int × Int)):(lns cs).length=cs.length:=by simp [lns]
theorem Zg6 {cs:List (Int × Int)} {k:Nat} (h:k<cs.length):(lns cs).drop k=lnOf cs k::(lns cs).drop (k+1):=by
 rw [Qi (by rw [Za8]; exact h)]; simp [lns]
def Zv (h:Hal) (p:Pt):Bool:=Zlz p false (lns h.cs)
theorem Zv8 {p:Pt} {b:Bool} {l:Ln} {r:List Ln} (h:l.has p=false):Zlz p b (l::r)=Zlz p (b ^^ Zqk p l) r:=by rw [Zlz,if_neg (by simp [h])]
theorem Zyp {p:Pt} {b:Bool} {l:Ln} {r:List Ln} (h:l.has p=true):Zlz p b (l::r)=false:=by rw [Zlz,if_pos h]
theorem c106 {h:Hal} (hf:h.few) (hwc:h.ws.length=h.cs.length) (hz:h.nz) (p:Pt):PCall Tryz.prog 133 [h.av,p.av] ⟨Bo (Zv h p),[]⟩:=by
 obtain ⟨px,py,pz,pd⟩:=p
 refine pn (Zmw hf) Tryz.func133 ?_
 refine Zr (S:=Nat × Int × Bool) (fun t=>h.ws.length-t.1) (fun t=>[(2,.ptr 0 0 0),(3,.ptr 1 0 0),(5,Bo t.2.2),(6,I t.2.1)]) (fun _=>[(1,.row 4 [[I px,I py,I pz,I pd]] true false),(0,.row 9 [h.cells] true false)]) 2 2 (fun t=>t.2.1=t.1/\t.1<=h.ws.length/\Zlz ⟨px,py,pz,pd⟩ t.2.2 ((lns h.cs).drop t.1)=Zv h ⟨px,py,pz,pd⟩) (0,0,false) ⟨rfl,Qn _,rfl⟩ (Qd _) [] rfl (kps) (kps) ?_
 rintro ⟨k,i,b⟩ ⟨hi,hk,hh⟩
 dsimp only at hi hk hh ⊢
 subst hi
 refine bs.av (sx:=nos) (Zmw hf) ?_
 have e3:=Yh h.ws
 have hl:=hf.2.1
 by_cases hlt:k<h.ws.length
 ·have e1:=Ve (h:=h) (k:=k) (by omega)
  have hn:=hz k (by omega)
  rw [Zg6 (by omega)] at hh
  generalize lnOf h.cs k=L at *
  obtain ⟨lx,ly,ldx,ldy⟩:=L
  cases hb:(Ln.mk lx ly ldx ldy).has ⟨px,py,pz,pd⟩ with
  | true =>
   rw [Zyp hb] at hh
   repeat'(first|refine wk1 ?_|(refine wk2 ?_ ?_<;>intro _)|fail)
   ·exact Zb hh
   all_goals (exfalso; clear hh e1 hz hn; simp_all; done)
  | false =>
   rw [Zv8 hb] at hh
   repeat'(first|refine wk1 ?_|(refine wk2 ?_ ?_<;>intro _)|fail)
   ·exfalso; clear hh e1 hz hn; simp_all; done
   all_goals (clear e1 hz hn e3)
   all_goals exact Ql ⟨(k+1,_,_),[],rfl,kps,kps,⟨Zg (by omega),hlt,by rw [<-hh]; congr 1; clear hh hl hlt hk; cases b<;>simp_all [Zqk]<;>omega⟩,by dsimp only; omega⟩
 ·rw [Qk (by rw [Za8]; omega)] at hh
  repeat'(first|refine wk1 ?_|(refine wk2 ?_ ?_<;>intro _)|fail)
  exact Zb hh
def Zid (cs:List (Int × Int)) (n:Int) (i k:Nat):Bool :=
 !((!decide ((k:Int)=Qa Qb ((i:Int)+1)) && !(decide ((i:Int)=0)&&decide ((k:Int)=Qa Qb (n-1))))&&(lnOf cs i).touch (lnOf cs k)) &&
 !((decide ((k:Int)=Qa Qb ((i:Int)+1))&&((lnOf cs k).has (lnOf cs i).a||(lnOf cs i).has (lnOf cs k).b))||((decide ((i:Int)=0)&&decide ((k:Int)=Qa Qb (n-1)))&&((lnOf cs k).has (lnOf cs i).b||(lnOf cs i).has (lnOf cs k).a)))
def Zfs (cs:List (Int × Int)) (n i k:Nat):Bool:=(Oy k (n-k)).all fun k=>Zid cs n i k
def Zfq (cs:List (Int × Int)) (n i:Nat):Bool:=(Oy i (n-i)).all fun i=>Zfs cs n i (i+1)
def Zee (cs:List (Int × Int)):Bool:=Zfq cs cs.length 0
theorem Zsg {cs:List (Int × Int)} {n i k:Nat} (h:k<n):Zfs cs n i k=(Zid cs n i k&&Zfs cs n i (k+1)):=by
 unfold Zfs
 rw [show n-k=(n-(k+1))+1 by omega,Mr]; rfl
theorem Zv7 {cs:List (Int × Int)} {n i k:Nat} (h:n<=k):Zfs cs n i k=true:=by
 unfold Zfs; rw [show n-k=0 by omega]; rfl
theorem Zr7 {cs:List (Int × Int)} {n i:Nat} (h:i<n):Zfq cs n i=(Zfs cs n i (i+1)&&Zfq cs n (i+1)):=by
 unfold Zfq
 rw [show n-i=(n-(i+1))+1 by omega,Mr]; rfl
theorem Zvy {cs:List (Int × Int)} {n i:Nat} (h:n<=i):Zfq cs n i=true:=by
 unfold Zfq; rw [show n-i=0 by omega]; rfl
def r198:List AV->Option PRes
 | [.agg [.int .i64 x,.int .i64 y,.int .i64 dx,.int .i64 dy],.agg [.int .i64 u,.int .i64 v,.int .i64 du,.int .i64 dv]]=>asr (decide ((Ln.mk x y dx dy).n≠0/\(Ln.mk u v du dv).n≠0)) ⟨Bo ((Ln.mk x y dx dy).touch ⟨u,v,du,dv⟩),[]⟩
 | _=>none
noncomputable def kR6 (h:Hal):PC:=ins 197 r198 (kR5 h)
theorem Yd6 {h:Hal} (hf:h.few):PCOK Tryz.prog (kR6 h):=by
 refine Zh (fun a res h=>?_) (Zmw hf)
 unfold r198 at h; split at h
 ·obtain ⟨h1,rfl⟩:=Yx h; exact c198 ⟨_,_,_,_⟩ ⟨_,_,_,_⟩ (of_decide_eq_true h1).1 (of_decide_eq_true h1).2
 ·cases h
theorem c165 {h:Hal} (hf:h.few) (hwc:h.ws.length=h.cs.length) (hz:h.nz):PCall Tryz.prog 129 [h.av] ⟨Bo (Zee h.cs),[]⟩:=by
 have hk6:=Yd6 hf
 have e3:(h.ws.map Wal.av).length=h.cs.length:=by simp [hwc]
 have hl:=hf.2.1
 refine pn hk6 Tryz.func129 ?_
 refine Zr (S:=Nat × Int) (fun t=>h.cs.length-t.1) (fun t=>[(1,.ptr 0 0 0),(3,I (h.ws.map Wal.av).length),(4,I t.2)]) (fun _=>[(0,.row 9 [h.cells] true false)]) 1 1 (fun t=>t.2=t.1/\t.1<=h.cs.length/\Zfq h.cs h.cs.length t.1=Zee h.cs) (0,0) ⟨rfl,Qn _,rfl⟩ (Qd _) [] rfl (kps) (kps) ?_
 rintro ⟨i,i'⟩ ⟨hi,hk,hh⟩
 dsimp only at hi hk hh ⊢
 subst hi
 refine bs.av (sx:=nos) hk6 ?_
 by_cases hlt:i<h.cs.length
 ·rw [Zr7 hlt] at hh
  repeat'(first|refine wk1 ?_|(refine wk2 ?_ ?_<;>intro _)|fail)
  refine Zr (S:=Nat × Int) (fun t=>h.cs.length-t.1) (fun t=>[(1,.ptr 0 0 0),(3,I (h.ws.map Wal.av).length),(4,I i),(5,I t.2)]) (fun _=>[(0,.row 9 [h.cells] true false)]) 1 1 (fun t=>t.2=t.1/\t.1<=h.cs.length/\(Zfs h.cs h.cs.length i t.1&&Zfq h.cs h.cs.length (i+1))=Zee h.cs) (i+1,Qa Qb ((i:Int)+1)) ⟨Zg (by omega),hlt,hh⟩ (Qd _) [] rfl (kps) (kps) ?_
  rintro ⟨k,k'⟩ ⟨hi,hk2,h3⟩
  dsimp only at hi hk2 h3 ⊢
  subst hi
  refine bs.av (sx:=nos) hk6 ?_
  by_cases hlt2:k<h.cs.length
  ·rw [Zsg hlt2,Zid] at h3
   have e1:=Ve (h:=h) hlt;have e2:=Ve (h:=h) hlt2;have hn1:=hz i hlt;have hn2:=hz k hlt2;generalize lnOf h.cs i=L at *;generalize lnOf h.cs k=M at *;obtain ⟨lx,ly,ldx,ldy⟩:=L;obtain ⟨mx,my,mdx,mdy⟩:=M;have hn3:(Ln.mk lx ly ldx ldy).n≠0/\(Ln.mk mx my mdx mdy).n≠0:=⟨hn1,hn2⟩;have e3':=e3;clear hz hh;rw [Bool.and_assoc] at h3;generalize hT:(Zfs h.cs h.cs.length i (k+1)&&Zfq h.cs h.cs.length (i+1))=T at *;generalize hU:Zee h.cs=U at *;rw [<-e3] at h3;simp only [Ln.a,Ln.b] at h3;clear e3
   repeat'(first|refine wk1 ?_|(refine wk2 ?_ ?_<;>intro _)|fail)
   all_goals (clear e1 e2 hn1 hn2 hn3)
   all_goals first
    | exact Zb (by rw [<-h3]; clear hT hU h3 hk hk2 hlt hlt2 hl hwc e3' hk6; simp_all; done)
    | exact Ql ⟨(k+1,_),[],rfl,kps,kps,⟨Zg (by omega),hlt2,by rw [hT,<-h3]; clear hT hU h3 hk hk2 hlt hlt2 hl hwc e3' hk6; simp_all; done⟩,by dsimp only; omega⟩
    | (exfalso; clear hT hU h3 hk hk2 hlt hlt2 hl hwc e3' hk6; simp_all; done)
  ·rw [Zv7 (by omega),Wo] at h3
   repeat'(first|refine wk1 ?_|(refine wk2 ?_ ?_<;>intro _)|fail)
   exact Ql ⟨(i+1,_),[],rfl,kps,kps,⟨Zg (by omega),hlt,h3⟩,by dsimp only; omega⟩
 ·rw [Zvy (by omega)] at hh
  repeat'(first|refine wk1 ?_|(refine wk2 ?_ ?_<;>intro _)|fail)
  exact Zb hh
noncomputable def famA {α:Type} (p:α->Prop) (g:α->List AV) (r:α->PRes) (a:List AV):Option PRes:=by
 classical exact if hx:∃ k,p k/\a=g k then some (r (Ms hx)) else none
theorem Zm {α:Type} {p:α->Prop} {g:α->List AV} {r:α->PRes} {k:α} (hi:∀ j,g j=g k->r j=r k) (hk:p k):famA p g r (g k)=some (r k):=by
 classical
 unfold famA
 have hx:∃ j,p j/\g k=g j:=⟨k,hk,rfl⟩
 rw [dif_pos hx,hi _ (Ps hx).2.symm]
theorem Zo {f0:FuncId} {α:Type} {p:α->Prop} {g:α->List AV} {r:α->PRes} {pt:PC} (h0:∀ k,p k->PCall Tryz.prog f0 (g k) (r k)) (h:PCOK Tryz.prog pt):PCOK Tryz.prog (ins f0 (famA p g r) pt):=by
 classical
 refine Zh (fun a res hr=>?_) h
 unfold famA at hr
 split at hr
 ·rename_i hx
  obtain ⟨h1,h2⟩:=Ps hx
  cases hr
  have:=h0 _ h1
  rw [<-h2] at this
  exact this
 ·cases hr
noncomputable abbrev mats (h:Hal):List AV->Option PRes:=famA (fun _=>True) (fun s=>[h.av,.str s]) (fun s=>⟨I (Ye s 0 h.ms),[]⟩)
theorem Zdk (h:Hal) (s:ByteArray):mats h [h.av,.str s]=some ⟨I (Ye s 0 h.ms),[]⟩ :=
 Zm (g:=fun s=>[h.av,.str s]) (r:=fun s=>⟨I (Ye s 0 h.ms),[]⟩) (fun j hj=>by
  simp only [Qs,AV.str.injEq,true_and,and_true] at hj
  rw [hj]) trivial
def r161:List AV->Option PRes
 | [.str s]=>asr (decide (s.data.toList.length<100000)) ⟨Bo (Xt s),[]⟩
 | _=>none
noncomputable def kR7 (h:Hal):PC:=ins 124 r161 (ins 126 (mats h) (kR6 h))
theorem Zpy {h:Hal} (hf:h.few):PCOK Tryz.prog (kR7 h):=by
 refine Zh (fun a res h=>?_) (Zo (fun s _=>c128 hf s) (Yd6 hf))
 unfold r161 at h; split at h
 ·obtain ⟨h1,rfl⟩:=Yx h; exact c161 (of_decide_eq_true h1)
 ·cases h
def Za2 (h:Hal) (p:Pt):Bool:=(decide (0<p.z)&&decide (p.z<Qa Qb (h.ht*p.d)))&&Zv h p
theorem c52 {h:Hal} (hf:h.few) (hwc:h.ws.length=h.cs.length) (hz:h.nz) (p:Pt):PCall Tryz.prog 83 [h.av,p.av] ⟨Bo (Za2 h p),[]⟩:=by
 obtain ⟨px,py,pz,pd⟩:=p
 have hk:=Zd (c106 hf hwc hz ⟨px,py,pz,pd⟩) Zdz
 refine pn hk Tryz.func83 ?_
 repeat'(first|refine wk0 ?_|(refine wk2 ?_ ?_<;>intro _)|fail)
 all_goals (clear hk hz)
 all_goals exact Zb (by simp_all [Za2]<;>omega)
def Zdl (l:Ln):Int:=if decide (l.dx=0)&&decide (l.dy=0) then 11 else if (!decide (l.dx=0) && !decide (l.dy=0)) && !decide (size l.dx=size l.dy) then 15 else 0
def Zgo (h:Hal) (i:Nat) (w:Wal):Int :=
 if Xt w.nm then (if (h.ws.take i).any (fun v=>v.nm==w.nm) then 5 else if (w.nm==Uf)||(w.nm==Zc0) then 5 else if decide (Ye w.mt 0 h.ms<0)||(!(w.cu==⟨#[]⟩)&&decide (Ye w.cu 0 h.ms<0)) then 6 else Zdl (lnOf h.cs i)) else 4
theorem c164 {h:Hal} (hf:h.few) (ht:h.texts) (hwc:h.ws.length=h.cs.length) {i:Nat} (hi:i<h.ws.length):PCall Tryz.prog 128 [h.av,I i] ⟨I (Zgo h i h.ws[i]),[]⟩:=by
 have hk7:=Zpy hf
 have e3:=Yh h.ws
 have e1:=Zis hi
 have hs:=ht.ws _ (Qr hi)
 have hl:=hf.2.2.1
 generalize hw:h.ws[i]=w at *
 refine pn hk7 Tryz.func128 ?_
 repeat'(first|refine wk1 ?_|(refine wk2 ?_ ?_<;>intro _)|fail)
 ·exact Za (by clear e1 e3 hk7; simp_all [Zgo])
 ·rename_i hb
  have hnm:Xt w.nm=true:=by simpa using hb
  refine Zr (S:=Nat × Int) (fun t=>i-t.1) (fun t=>[(2,.ptr 0 0 0),(1,I i),(5,.ptr 1 0 0),(6,I t.2)]) (fun _=>[(1,.row 3 [w.av] true false),(0,.row 9 [h.cells] true false)]) 2 2 (fun t=>t.2=t.1/\t.1<=i/\(h.ws.take t.1).any (fun v=>v.nm==w.nm)=false) (0,0) ⟨rfl,Qn _,rfl⟩ (Qd _) [] rfl (kps) (kps) ?_
  rintro ⟨k,k'⟩ ⟨hk,hk2,hh⟩
  dsimp only at hk hk2 hh ⊢
  subst hk
  refine bs.av (sx:=nos) hk7 ?_
  by_cases hlt:k<i
  ·have e4:=Zis (l:=h.ws) (k:=k) (by omega)
   have e5:h.ws.take (k+1)=h.ws.take k++[h.ws[k]'(by omega)]:=by rw [Qw]
   cases hb2:((h.ws[k]'(by omega)).nm==w.nm) with
   | true =>
    repeat'(first|refine wk1 ?_|(refine wk2 ?_ ?_<;>intro _)|fail)
    ·exact Za (by
      have:(h.ws.take i).any (fun v=>v.nm==w.nm)=true:=by
       rw [Og];exact ⟨h.ws[k]'(by omega),Mv.2 ⟨k,by omega,rfl⟩,hb2⟩
      rw [Zgo,hnm,if_pos rfl,this,if_pos rfl])
    ·rename_i hx; rw [hb2] at hx; cases hx
   | false =>
    repeat'(first|refine wk1 ?_|(refine wk2 ?_ ?_<;>intro _)|fail)
    ·rename_i hx; rw [hb2] at hx; cases hx
    ·exact Ql ⟨(k+1,_),[],rfl,kps,kps,⟨Zg (by omega),hlt,by rw [e5,Jd,hh]; simp [hb2]⟩,by dsimp only; omega⟩
  ·have hki:k=i:=by omega
   subst hki;have m1:=Zdk h w.mt;have m2:=Zdk h w.cu;have m3:=Ve (h:=h) (k:=k) (by omega)
   have e9:Zgo h k w=if (w.nm==Uf)||(w.nm==Zc0) then 5 else if decide (Ye w.mt 0 h.ms<0)||(!(w.cu==⟨#[]⟩)&&decide (Ye w.cu 0 h.ms<0)) then 6 else Zdl (lnOf h.cs k):=by
    rw [Zgo,hnm,if_pos rfl,hh,if_neg (by simp)]
   rw [e9];generalize lnOf h.cs k=L at *;obtain ⟨lx,ly,ldx,ldy⟩:=L
   repeat'(first|refine wk1 ?_|(refine wk2 ?_ ?_<;>intro _)|fail)
   all_goals (clear e9 m1 m2 m3 e1 e3 hk7 hh hs hw hb hi hk2 hlt hwc hf ht hl)
   all_goals exact Za (by by_cases hx:ldx=0<;>by_cases hy:ldy=0<;>simp_all [Zdl,Uf,Zc0])
def plc (n:Int):Bool:=within n (-5000) 5000
def Zkc (h:Hal) (i:Nat) (w:Sea):Int :=
 if Xt w.nm then (if (h.ss.take i).any (fun v=>v.nm==w.nm) then 5 else if plc w.x&&plc w.y&&plc w.z then (if Za2 h ⟨w.x,w.y,w.z,1⟩ then 0 else 24) else 2) else 4
theorem c167 {h:Hal} (hf:h.few) (ht:h.texts) (hwc:h.ws.length=h.cs.length) (hz:h.nz) {i:Nat} (hi:i<h.ss.length):PCall Tryz.prog 132 [h.av,I i] ⟨I (Zkc h i h.ss[i]),[]⟩:=by
 have e3:=Zef h.ss
 have e1:=Ztr hi
 have hs:=ht.ss _ (Qr hi)
 have hl:=hf.2.2.2.2.1
 generalize hw:h.ss[i]=w at *
 have hk7:=Zd (c52 hf hwc hz ⟨w.x,w.y,w.z,1⟩) (Zpy hf)
 refine pn hk7 Tryz.func132 ?_
 repeat'(first|refine wk1 ?_|(refine wk2 ?_ ?_<;>intro _)|fail)
 ·exact Za (by clear e1 e3 hk7; simp_all [Zkc])
 ·rename_i hb
  have hnm:Xt w.nm=true:=by simpa using hb
  refine Zr (S:=Nat × Int) (fun t=>i-t.1) (fun t=>[(2,.ptr 0 0 0),(1,I i),(5,.ptr 1 0 0),(6,I t.2)]) (fun _=>[(1,.row 4 [w.av] true false),(0,.row 9 [h.cells] true false)]) 2 2 (fun t=>t.2=t.1/\t.1<=i/\(h.ss.take t.1).any (fun v=>v.nm==w.nm)=false) (0,0) ⟨rfl,Qn _,rfl⟩ (Qd _) [] rfl (kps) (kps) ?_
  rintro ⟨k,k'⟩ ⟨hk,hk2,hh⟩
  dsimp only at hk hk2 hh ⊢
  subst hk
  refine bs.av (sx:=nos) hk7 ?_
  by_cases hlt:k<i
  ·have e4:=Ztr (l:=h.ss) (k:=k) (by omega)
   have e5:h.ss.take (k+1)=h.ss.take k++[h.ss[k]'(by omega)]:=by rw [Qw]
   cases hb2:((h.ss[k]'(by omega)).nm==w.nm) with
   | true =>
    repeat'(first|refine wk1 ?_|(refine wk2 ?_ ?_<;>intro _)|fail)
    ·exact Za (by
      have:(h.ss.take i).any (fun v=>v.nm==w.nm)=true:=by
       rw [Og];exact ⟨h.ss[k]'(by omega),Mv.2 ⟨k,by omega,rfl⟩,hb2⟩
      rw [Zkc,hnm,if_pos rfl,this,if_pos rfl])
    ·rename_i hx; rw [hb2] at hx; cases hx
   | false =>
    repeat'(first|refine wk1 ?_|(refine wk2 ?_ ?_<;>intro _)|fail)
    ·rename_i hx; rw [hb2] at hx; cases hx
    ·exact Ql ⟨(k+1,_),[],rfl,kps,kps,⟨Zg (by omega),hlt,by rw [e5,Jd,hh]; simp [hb2]⟩,by dsimp only; omega⟩
  ·have hki:k=i:=by omega
   subst hki
   have e9:Zkc h k w=if plc w.x&&plc w.y&&plc w.z then (if Za2 h ⟨w.x,w.y,w.z,1⟩ then 0 else 24) else 2:=by
    rw [Zkc,hnm,if_pos rfl,hh,if_neg (by simp)]
   rw [e9]
   repeat'(first|refine wk1 ?_|(refine wk2 ?_ ?_<;>intro _)|fail)
   all_goals (clear e9 e1 e3 hk7 hh hs hw hb hi hk2 hlt hwc hf ht hl hz)
   all_goals exact Za (by simp_all [plc])
def edges (c:Can):List Ln:=[Zl8 c,Zl7 c,Zl6 c,Zl5 c]
def Vg (h:Hal) (l:Ln):Bool:=(lns h.cs).any fun m=>l.touch m
def Xl (h:Hal):List Ln->Bool
 | []=>true
 | l::r=>if Zv h l.a then (if Vg h l then false else Xl h r) else false
def Zel (h:Hal) (c:Can):Bool:=Xl h (edges c) && !(h.cs.any fun p=>Zgc c ⟨p.1,p.2,0,1⟩)
def Zhv (h:Hal) (i:Nat) (c:Can):Int :=
 if Xt c.nm then (if (c.nm==Uf)||(c.nm==Zc0) then 5 else if h.ws.any (fun v=>v.nm==c.nm) then 5 else if (h.ks.take i).any (fun v=>v.nm==c.nm) then 5 else
  if decide (Ye c.mt 0 h.ms<0) then 6 else if within c.hs.length 1 4 then (if Zdm h.ht none c.hs=0 then (if plc c.fx&&plc c.fy&&plc c.tx&&plc c.ty then (if decide (c.fx=c.tx)||decide (c.fy=c.ty) then 11 else if Zel h c then 0 else 24) else 2) else Zdm h.ht none c.hs) else 10) else 4
noncomputable abbrev plans (h:Hal):List AV->Option PRes:=famA (fun _=>True) (fun p:Pt=>[h.av,p.av]) (fun p=>⟨Bo (Zv h p),[]⟩)
theorem Zg1 (h:Hal) (p:Pt):plans h [h.av,p.av]=some ⟨Bo (Zv h p),[]⟩ :=
 Zm (g:=fun p:Pt=>[h.av,p.av]) (r:=fun p=>⟨Bo (Zv h p),[]⟩) (fun j hj=>by
  obtain ⟨a,b,u,d⟩:=j
  obtain ⟨a',b',u',d'⟩:=p
  simp_all [Pt.av]) trivial
noncomputable abbrev bnds (c:Can):List AV->Option PRes:=famA (fun _=>True) (fun p:Pt=>[.agg c.av,p.av]) (fun p=>⟨Bo (Zgc c p),[]⟩)
theorem Yde (c:Can) (p:Pt):bnds c [.agg c.av,p.av]=some ⟨Bo (Zgc c p),[]⟩ :=
 Zm (g:=fun p:Pt=>[.agg c.av,p.av]) (r:=fun p=>⟨Bo (Zgc c p),[]⟩) (fun j hj=>by
  obtain ⟨a,b,u,d⟩:=j
  obtain ⟨a',b',u',d'⟩:=p
  simp_all [Pt.av]) trivial
noncomputable def kR8 (h:Hal) (c:Can):PC:=ins 133 (plans h) (ins 201 (bnds c) (kR7 h))
theorem Yis {h:Hal} (hf:h.few) (hwc:h.ws.length=h.cs.length) (hz:h.nz) (c:Can):PCOK Tryz.prog (kR8 h c) :=
 Zo (fun p _=>c106 hf hwc hz p) (Zo (fun p _=>c191 c p) (Zpy hf))
theorem Ztp {a b:Int} (ha:within a (-5000) 5000=true) (hb:within b (-5000) 5000=true) (h:decide (a=b)=false):imax (size (Qa Qb (b-a))) (size 0)≠0/\imax (size (Qa Qb (0-Qa Qb (b-a)))) (size 0)≠0/\imax (size 0) (size (Qa Qb (b-a)))≠0/\imax (size 0) (size (Qa Qb (0-Qa Qb (b-a))))≠0:=by
 simp only [within,Qc,decide_eq_true_eq] at ha hb
 have h':=of_decide_eq_false h
 have w1:Qa Qb (b-a)=b-a:=W_eq (by omega) (by omega)
 have w2:Qa Qb (0-(b-a))=0-(b-a):=W_eq (by omega) (by omega)
 have w3:Qa Qb (0-(0-(b-a)))=0-(0-(b-a)):=W_eq (by omega) (by omega)
 have w4:Qa Qb (0-0)=0:=W_eq (by omega) (by omega)
 rw [w1,w2]
 simp only [size]
 rw [w2,w3,w4]
 simp only [imax,Bool.cond_decide]
 refine ⟨?_,?_,?_,?_⟩<;>(repeat' split)<;>omega
theorem c166 {h:Hal} (hf:h.few) (ht:h.texts) (hwc:h.ws.length=h.cs.length) (hz:h.nz) {i:Nat} (hi:i<h.ks.length):PCall Tryz.prog 131 [h.av,I i] ⟨I (Zhv h i h.ks[i]),[]⟩:=by
 have e3:=Xd h.ks
 have e1:=Zbu hi
 have hs:=ht.ks _ (Qr hi)
 have hl:=hf.2.2.2.1
 have hlw:=hf.2.2.1
 have ew:=Yh h.ws
 generalize hw:h.ks[i]=c at *
 have hk7:=Zd (c200 c) (Yis hf hwc hz c)
 refine pn hk7 Tryz.func131 ?_
 repeat'(first|refine wk1 ?_|(refine wk2 ?_ ?_<;>intro _)|fail)
 ·exact Za (by clear e1 e3 hk7 hw; simp_all [Zhv])
 ·exact Za (by clear e1 e3 hk7 hw; simp_all [Zhv,Uf,Zc0])
 ·exact Za (by clear e1 e3 hk7 hw; simp_all [Zhv,Uf,Zc0])
 rename_i hb1 hb2 hb3
 have r0:Zhv h i c=if h.ws.any (fun v=>v.nm==c.nm) then 5 else if (h.ks.take i).any (fun v=>v.nm==c.nm) then 5 else
  if decide (Ye c.mt 0 h.ms<0) then 6 else if within c.hs.length 1 4 then (if Zdm h.ht none c.hs=0 then (if plc c.fx&&plc c.fy&&plc c.tx&&plc c.ty then (if decide (c.fx=c.tx)||decide (c.fy=c.ty) then 11 else if Zel h c then 0 else 24) else 2) else Zdm h.ht none c.hs) else 10:=by
  have q1:Xt c.nm=true:=by simpa using hb1
  have q2:((c.nm==Uf)||(c.nm==Zc0))=false:=by
   have q3:(c.nm==Uf)=false:=by simpa [Uf] using hb2
   have q4:(c.nm==Zc0)=false:=by simpa [Zc0] using hb3
   rw [q3,q4]; rfl
  rw [Zhv,q1,if_pos rfl,q2,if_neg (by simp)]
 rw [r0]
 clear r0 hb1 hb2 hb3
 refine Zr (S:=Nat × Int) (fun t=>h.ws.length-t.1) (fun t=>[(2,.ptr 0 0 0),(1,I i),(5,.ptr 1 0 0),(6,I t.2)]) (fun _=>[(1,.row 7 [c.av] true false),(0,.row 9 [h.cells] true false)]) 2 2 (fun t=>t.2=t.1/\t.1<=h.ws.length/\(h.ws.take t.1).any (fun v=>v.nm==c.nm)=false) (0,0) ⟨rfl,Qn _,rfl⟩ (Qd _) [] rfl (kps) (kps) ?_
 rintro ⟨k,k'⟩ ⟨hk,hk2,hh⟩
 dsimp only at hk hk2 hh ⊢
 subst hk
 refine bs.av (sx:=nos) hk7 ?_
 by_cases hlt:k<h.ws.length
 ·have e4:=Zis (l:=h.ws) hlt
  have e5:h.ws.take (k+1)=h.ws.take k++[h.ws[k]]:=by rw [Qw]
  cases hb2:(h.ws[k].nm==c.nm) with
  | true =>
   repeat'(first|refine wk1 ?_|(refine wk2 ?_ ?_<;>intro _)|fail)
   ·exact Za (by
     have:h.ws.any (fun v=>v.nm==c.nm)=true:=Og.2 ⟨h.ws[k],Qr hlt,hb2⟩
     rw [this,if_pos rfl])
   ·rename_i hx; rw [hb2] at hx; cases hx
  | false =>
   repeat'(first|refine wk1 ?_|(refine wk2 ?_ ?_<;>intro _)|fail)
   ·rename_i hx; rw [hb2] at hx; cases hx
   ·exact Ql ⟨(k+1,_),[],rfl,kps,kps,⟨Zg (by omega),hlt,by rw [e5,Jd,hh]; simp [hb2]⟩,by dsimp only; omega⟩
 have r1:h.ws.any (fun v=>v.nm==c.nm)=false:=by rwa [List.take_of_length_le (by omega)] at hh
 rw [r1,if_neg (by simp)]
 repeat'(first|refine wk1 ?_|(refine wk2 ?_ ?_<;>intro _)|fail)
 clear r1 hh hlt hk2
 refine Zr (S:=Nat × Int) (fun t=>i-t.1) (fun t=>[(2,.ptr 0 0 0),(1,I i),(5,.ptr 1 0 0),(7,I t.2)]) (fun _=>[(1,.row 7 [c.av] true false),(0,.row 9 [h.cells] true false)]) 2 2 (fun t=>t.2=t.1/\t.1<=i/\(h.ks.take t.1).any (fun v=>v.nm==c.nm)=false) (0,0) ⟨rfl,Qn _,rfl⟩ (Qd _) [] rfl (kps) (kps) ?_
 rintro ⟨q,q'⟩ ⟨hk,hk2,hh⟩
 dsimp only at hk hk2 hh ⊢
 subst hk
 refine bs.av (sx:=nos) hk7 ?_
 by_cases hlt:q<i
 ·have e4:=Zbu (l:=h.ks) (k:=q) (by omega)
  have e5:h.ks.take (q+1)=h.ks.take q++[h.ks[q]'(by omega)]:=by rw [Qw]
  cases hb2:((h.ks[q]'(by omega)).nm==c.nm) with
  | true =>
   repeat'(first|refine wk1 ?_|(refine wk2 ?_ ?_<;>intro _)|fail)
   ·exact Za (by
     have:(h.ks.take i).any (fun v=>v.nm==c.nm)=true:=by
      rw [Og];exact ⟨h.ks[q]'(by omega),Mv.2 ⟨q,by omega,rfl⟩,hb2⟩
     rw [this,if_pos rfl])
   ·rename_i hx; rw [hb2] at hx; cases hx
  | false =>
   repeat'(first|refine wk1 ?_|(refine wk2 ?_ ?_<;>intro _)|fail)
   ·rename_i hx; rw [hb2] at hx; cases hx
   ·exact Ql ⟨(q+1,_),[],rfl,kps,kps,⟨Zg (by omega),hlt,by rw [e5,Jd,hh]; simp [hb2]⟩,by dsimp only; omega⟩
 have hki:q=i:=by omega
 subst hki
 rw [hh,if_neg (by simp)]
 clear hlt hk2 hh
 have m1:=Zdk h c.mt
 have e7:=Zk c.hs
 have hlc:c.hs.length<1000:=by have:=hf.2.2.2.2.2 _ (Qr hi); rwa [hw] at this
 repeat'(first|refine wk1 ?_|(refine wk2 ?_ ?_<;>intro _)|fail)
 ·rename_i hx; exact Za (by rw [hx,if_pos rfl])
 ·rename_i hx hy
  exact Za (by
   rw [hx,if_neg (by simp)];have:within c.hs.length 1 4=false:=by rw [<-e7]; simpa using hy
   rw [this,if_neg (by simp)])
 rename_i hx hy
 have r2:within c.hs.length 1 4=true:=by rw [<-e7]; simpa using hy
 rw [hx,if_neg (by simp),r2,if_pos rfl]
 clear hx hy r2 m1
 refine Zr (S:=Nat × Int) (fun t=>c.hs.length-t.1) (fun t=>[(2,.ptr 0 0 0),(1,I q),(5,.ptr 1 0 0),(8,I t.2)]) (fun _=>[(1,.row 7 [c.av] true false),(0,.row 9 [h.cells] true false)]) 2 2
  (fun t=>t.2=t.1/\t.1<=c.hs.length/\Zdm h.ht (Yr c.hs t.1) (c.hs.drop t.1)=Zdm h.ht none c.hs) (0,0) ⟨rfl,Qn _,rfl⟩ (Qd _) [] rfl (kps) (kps) ?_
 rintro ⟨j,j'⟩ ⟨hj,hj2,hh⟩
 dsimp only at hj hj2 hh ⊢
 subst hj
 refine bs.av (sx:=nos) hk7 ?_
 by_cases hlt:j<c.hs.length
 ·have e8:=Xx hlt
  rw [Qi hlt,Zii] at hh
  have e4:Qa Qb ((j:Int)-1)=(j:Int)-1:=W_eq (by omega) (by omega)
  have hh:=hh.symm
  cases j with
  | zero =>
   repeat'(first|refine wk1 ?_|(refine wk2 ?_ ?_<;>intro _)|fail)
   all_goals (clear hk7 e1 e8 hw)
   ·exact Za (by rw [hh]; simp_all [Yr])
   ·exact Ql ⟨(1,_),[],rfl,kps,kps,⟨by exact Zg (k:=0) (by omega),hlt,by rw [hh]; simp_all [Yr]⟩,by dsimp only; omega⟩
  | succ j =>
   have e5:(nl c.hs)[(Qa Qb (((j+1:Nat):Int)-1)).toNat]?=some [I c.hs[j]]:=by
    rw [e4,show ((j+1:Nat):Int)-1=(j:Int) by omega]; exact Xx (by omega)
   have e6:Yr c.hs (j+1)=some c.hs[j]:=by simp [Yr,show j<c.hs.length by omega]
   rw [e6] at hh
   repeat'(first|refine wk1 ?_|(refine wk2 ?_ ?_<;>intro _)|fail)
   all_goals (clear e8 e5 hk7 e1 hw)
   ·exact Za (by rw [hh]; clear hh; simp_all)
   ·exact Za (by rw [hh]; clear hh; simp_all)
   ·exact Ql ⟨(j+2,_),[],rfl,kps,kps,⟨by exact Zg (k:=j+1) (by omega),hlt,by rw [hh,if_pos (by clear hh; simp_all),if_neg (by clear hh; simp_all)]; simp [Yr,hlt]⟩,by dsimp only; omega⟩
 rw [Qk (by omega)] at hh
 have r3:Zdm h.ht none c.hs=0:=by rw [<-hh]; cases Yr c.hs j<;>rfl
 rw [r3,if_pos rfl]
 clear hh r3
 repeat'(first|refine wk1 ?_|(refine wk2 ?_ ?_<;>intro _)|fail)
 ·exact Za (by simp_all [plc])
 ·exact Za (by simp_all [plc])
 ·exact Za (by simp_all [plc])
 ·exact Za (by simp_all [plc])
 ·exact Za (by simp_all [plc])
 ·exact Za (by simp_all [plc])
 rename_i g6 g5 g4 g3 g2 g1
 simp only [cond_false,Bool.not_eq_false'] at g1 g2 g3 g4 g5 g6
 have r4:(if plc c.fx&&plc c.fy&&plc c.tx&&plc c.ty then (if decide (c.fx=c.tx)||decide (c.fy=c.ty) then 11 else if Zel h c then 0 else 24) else 2)=if Zel h c then (0:Int) else 24:=by
  simp [plc, *]
 rw [r4]
 clear r4 hlt hj2 hlc e7
 have hn1:(Zl8 c).n≠0:=(Ztp g6 g4 g2).1
 have hn3:(Zl6 c).n≠0:=(Ztp g6 g4 g2).2.1
 have hn2:(Zl7 c).n≠0:=(Ztp g5 g3 g1).2.2.1
 have hn4:(Zl5 c).n≠0:=(Ztp g5 g3 g1).2.2.2
 have ew2:(h.ws.map Wal.av).length=h.cs.length:=by rw [ew,hwc]
 have hlc:=hf.2.1
 clear g1 g2 g3 g4 g5 g6
 have r5:Zel h c=(Xl h [Zl8 c,Zl7 c,Zl6 c,Zl5 c] && !(h.cs.any fun p=>Zgc c ⟨p.1,p.2,0,1⟩)):=rfl
 generalize Zl8 c=L1 at *
 generalize Zl7 c=L2 at *
 generalize Zl6 c=L3 at *
 generalize Zl5 c=L4 at *
 obtain ⟨x1,y1,u1,v1⟩:=L1
 obtain ⟨x2,y2,u2,v2⟩:=L2
 obtain ⟨x3,y3,u3,v3⟩:=L3
 obtain ⟨x4,y4,u4,v4⟩:=L4
 rw [r5]
 clear r5
 generalize hTL:(!(h.cs.any fun p=>Zgc c ⟨p.1,p.2,0,1⟩))=TL
 generalize hB:(Xl h [⟨x1,y1,u1,v1⟩,⟨x2,y2,u2,v2⟩,⟨x3,y3,u3,v3⟩,⟨x4,y4,u4,v4⟩]&&TL)=B
 refine Zr (S:=Nat × Int) (fun t=>4-t.1) (fun t=>[(2,.ptr 0 0 0),(1,I q),(5,.ptr 1 0 0),(9,.ptr 2 0 0),(10,I t.2)]) (fun _=>[(2,.row 16 [[I x1,I y1,I u1,I v1,I x2,I y2,I u2,I v2,I x3,I y3,I u3,I v3,I x4,I y4,I u4,I v4]] true false),(1,.row 7 [c.av] true false),(0,.row 9 [h.cells] true false)]) 3 3
  (fun t=>t.2=t.1/\t.1<=4/\(Xl h ([(Ln.mk x1 y1 u1 v1),(Ln.mk x2 y2 u2 v2),(Ln.mk x3 y3 u3 v3),(Ln.mk x4 y4 u4 v4)].drop t.1)&&TL)=B) (0,0) ⟨rfl,Qn _,hB⟩ (Qd _) [] rfl (kps) (kps) ?_
 clear hB
 rintro ⟨m,m'⟩ ⟨hm,hm2,hh⟩
 dsimp only at hm hm2 hh ⊢
 subst hm
 refine bs.av (sx:=nos) hk7 ?_
 have p1:=Zg1 h (Ln.mk x1 y1 u1 v1).a
 have p2:=Zg1 h (Ln.mk x2 y2 u2 v2).a
 have p3:=Zg1 h (Ln.mk x3 y3 u3 v3).a
 have p4:=Zg1 h (Ln.mk x4 y4 u4 v4).a
 by_cases h4:m<4
 rcases m with _|_|_|_|m
 ·have q1:(if Zv h (Ln.mk x1 y1 u1 v1).a then (if Vg h (Ln.mk x1 y1 u1 v1) then false else Xl h [(Ln.mk x2 y2 u2 v2),(Ln.mk x3 y3 u3 v3),(Ln.mk x4 y4 u4 v4)]) else false:Bool)=Xl h ([(Ln.mk x1 y1 u1 v1),(Ln.mk x2 y2 u2 v2),(Ln.mk x3 y3 u3 v3),(Ln.mk x4 y4 u4 v4)].drop 0):=rfl
  rw [<-q1] at hh
  clear q1
  generalize hT:Xl h [(Ln.mk x2 y2 u2 v2),(Ln.mk x3 y3 u3 v3),(Ln.mk x4 y4 u4 v4)]=T at hh
  repeat'(first|refine wk1 ?_|(refine wk2 ?_ ?_<;>intro _)|fail)
  ·rename_i hx; exact Za (by rw [<-hh,show Zv h (Ln.mk x1 y1 u1 v1).a=false by simpa using hx]; rfl)
  rename_i hx
  have h3:(!(((lns h.cs).drop 0).any fun m=>(Ln.mk x1 y1 u1 v1).touch m)&&(T&&TL))=B:=by
   rw [<-hh,show Zv h (Ln.mk x1 y1 u1 v1).a=true by simpa using hx,if_pos rfl];cases hA:((lns h.cs).any fun m=>(Ln.mk x1 y1 u1 v1).touch m)<;>simp [Vg,hA]
  clear hh hx
  refine Zr (S:=Nat × Int) (fun t=>h.cs.length-t.1) (fun t=>[(2,.ptr 0 0 0),(1,I q),(5,.ptr 1 0 0),(9,.ptr 2 0 0),(10,I 0),(13,I t.2)]) (fun _=>[(2,.row 16 [[I x1,I y1,I u1,I v1,I x2,I y2,I u2,I v2,I x3,I y3,I u3,I v3,I x4,I y4,I u4,I v4]] true false),(1,.row 7 [c.av] true false),(0,.row 9 [h.cells] true false)]) 5 5 (fun t=>t.2=t.1/\t.1<=h.cs.length/\(!(((lns h.cs).drop t.1).any fun m=>(Ln.mk x1 y1 u1 v1).touch m)&&(T&&TL))=B) (0,0) ⟨rfl,Qn _,h3⟩ (Qd _) [] rfl (kps) (kps) ?_
  clear h3
  rintro ⟨r,r'⟩ ⟨hr,hr2,h3⟩
  dsimp only at hr hr2 h3 ⊢
  subst hr
  refine bs.av (sx:=nos) hk7 ?_
  by_cases hlt:r<h.cs.length
  ·rw [Zg6 hlt,Ng] at h3
   have e2:=Ve (h:=h) hlt;have hn5:=hz r hlt;generalize lnOf h.cs r=M at *;obtain ⟨mx,my,mdx,mdy⟩:=M;have hn6:(Ln.mk x1 y1 u1 v1).n≠0/\(Ln.mk mx my mdx mdy).n≠0:=⟨hn1,hn5⟩
   repeat'(first|refine wk1 ?_|(refine wk2 ?_ ?_<;>intro _)|fail)
   ·rename_i hx; exact Za (by rw [<-h3,hx]; rfl)
   ·rename_i hx; exact Ql ⟨(r+1,_),[],rfl,kps,kps,⟨Zg (by omega),hlt,by rw [<-h3,hx]; rfl⟩,by dsimp only; omega⟩
  ·rw [Qk (by rw [Za8]; omega)] at h3
   repeat'(first|refine wk1 ?_|(refine wk2 ?_ ?_<;>intro _)|fail)
   exact Ql ⟨(1,_),[],rfl,kps,kps,⟨Zg (k:=0) (by omega),by omega,by rw [<-h3,<-hT]; rfl⟩,by dsimp only; omega⟩
 ·have q1:(if Zv h (Ln.mk x2 y2 u2 v2).a then (if Vg h (Ln.mk x2 y2 u2 v2) then false else Xl h [(Ln.mk x3 y3 u3 v3),(Ln.mk x4 y4 u4 v4)]) else false:Bool)=Xl h ([(Ln.mk x1 y1 u1 v1),(Ln.mk x2 y2 u2 v2),(Ln.mk x3 y3 u3 v3),(Ln.mk x4 y4 u4 v4)].drop 1):=rfl
  rw [<-q1] at hh
  clear q1
  generalize hT:Xl h [(Ln.mk x3 y3 u3 v3),(Ln.mk x4 y4 u4 v4)]=T at hh
  repeat'(first|refine wk1 ?_|(refine wk2 ?_ ?_<;>intro _)|fail)
  ·rename_i hx; exact Za (by rw [<-hh,show Zv h (Ln.mk x2 y2 u2 v2).a=false by simpa using hx]; rfl)
  rename_i hx
  have h3:(!(((lns h.cs).drop 0).any fun m=>(Ln.mk x2 y2 u2 v2).touch m)&&(T&&TL))=B:=by
   rw [<-hh,show Zv h (Ln.mk x2 y2 u2 v2).a=true by simpa using hx,if_pos rfl];cases hA:((lns h.cs).any fun m=>(Ln.mk x2 y2 u2 v2).touch m)<;>simp [Vg,hA]
  clear hh hx
  refine Zr (S:=Nat × Int) (fun t=>h.cs.length-t.1) (fun t=>[(2,.ptr 0 0 0),(1,I q),(5,.ptr 1 0 0),(9,.ptr 2 0 0),(10,I 1),(13,I t.2)]) (fun _=>[(2,.row 16 [[I x1,I y1,I u1,I v1,I x2,I y2,I u2,I v2,I x3,I y3,I u3,I v3,I x4,I y4,I u4,I v4]] true false),(1,.row 7 [c.av] true false),(0,.row 9 [h.cells] true false)]) 5 5 (fun t=>t.2=t.1/\t.1<=h.cs.length/\(!(((lns h.cs).drop t.1).any fun m=>(Ln.mk x2 y2 u2 v2).touch m)&&(T&&TL))=B) (0,0) ⟨rfl,Qn _,h3⟩ (Qd _) [] rfl (kps) (kps) ?_
  clear h3
  rintro ⟨r,r'⟩ ⟨hr,hr2,h3⟩
  dsimp only at hr hr2 h3 ⊢
  subst hr
  refine bs.av (sx:=nos) hk7 ?_
  by_cases hlt:r<h.cs.length
  ·rw [Zg6 hlt,Ng] at h3
   have e2:=Ve (h:=h) hlt;have hn5:=hz r hlt;generalize lnOf h.cs r=M at *;obtain ⟨mx,my,mdx,mdy⟩:=M;have hn6:(Ln.mk x2 y2 u2 v2).n≠0/\(Ln.mk mx my mdx mdy).n≠0:=⟨hn2,hn5⟩
   repeat'(first|refine wk1 ?_|(refine wk2 ?_ ?_<;>intro _)|fail)
   ·rename_i hx; exact Za (by rw [<-h3,hx]; rfl)
   ·rename_i hx; exact Ql ⟨(r+1,_),[],rfl,kps,kps,⟨Zg (by omega),hlt,by rw [<-h3,hx]; rfl⟩,by dsimp only; omega⟩
  ·rw [Qk (by rw [Za8]; omega)] at h3
   repeat'(first|refine wk1 ?_|(refine wk2 ?_ ?_<;>intro _)|fail)
   exact Ql ⟨(2,_),[],rfl,kps,kps,⟨Zg (k:=1) (by omega),by omega,by rw [<-h3,<-hT]; rfl⟩,by dsimp only; omega⟩
 ·have q1:(if Zv h (Ln.mk x3 y3 u3 v3).a then (if Vg h (Ln.mk x3 y3 u3 v3) then false else Xl h [(Ln.mk x4 y4 u4 v4)]) else false:Bool)=Xl h ([(Ln.mk x1 y1 u1 v1),(Ln.mk x2 y2 u2 v2),(Ln.mk x3 y3 u3 v3),(Ln.mk x4 y4 u4 v4)].drop 2):=rfl
  rw [<-q1] at hh
  clear q1
  generalize hT:Xl h [(Ln.mk x4 y4 u4 v4)]=T at hh
  repeat'(first|refine wk1 ?_|(refine wk2 ?_ ?_<;>intro _)|fail)
  ·rename_i hx; exact Za (by rw [<-hh,show Zv h (Ln.mk x3 y3 u3 v3).a=false by simpa using hx]; rfl)
  rename_i hx
  have h3:(!(((lns h.cs).drop 0).any fun m=>(Ln.mk x3 y3 u3 v3).touch m)&&(T&&TL))=B:=by
   rw [<-hh,show Zv h (Ln.mk x3 y3 u3 v3).a=true by simpa using hx,if_pos rfl];cases hA:((lns h.cs).any fun m=>(Ln.mk x3 y3 u3 v3).touch m)<;>simp [Vg,hA]
  clear hh hx
  refine Zr (S:=Nat × Int) (fun t=>h.cs.length-t.1) (fun t=>[(2,.ptr 0 0 0),(1,I q),(5,.ptr 1 0 0),(9,.ptr 2 0 0),(10,I 2),(13,I t.2)]) (fun _=>[(2,.row 16 [[I x1,I y1,I u1,I v1,I x2,I y2,I u2,I v2,I x3,I y3,I u3,I v3,I x4,I y4,I u4,I v4]] true false),(1,.row 7 [c.av] true false),(0,.row 9 [h.cells] true false)]) 5 5 (fun t=>t.2=t.1/\t.1<=h.cs.length/\(!(((lns h.cs).drop t.1).any fun m=>(Ln.mk x3 y3 u3 v3).touch m)&&(T&&TL))=B) (0,0) ⟨rfl,Qn _,h3⟩ (Qd _) [] rfl (kps) (kps) ?_
  clear h3
  rintro ⟨r,r'⟩ ⟨hr,hr2,h3⟩
  dsimp only at hr hr2 h3 ⊢
  subst hr
  refine bs.av (sx:=nos) hk7 ?_
  by_cases hlt:r<h.cs.length
  ·rw [Zg6 hlt,Ng] at h3
   have e2:=Ve (h:=h) hlt;have hn5:=hz r hlt;generalize lnOf h.cs r=M at *;obtain ⟨mx,my,mdx,mdy⟩:=M;have hn6:(Ln.mk x3 y3 u3 v3).n≠0/\(Ln.mk mx my mdx mdy).n≠0:=⟨hn3,hn5⟩
   repeat'(first|refine wk1 ?_|(refine wk2 ?_ ?_<;>intro _)|fail)
   ·rename_i hx; exact Za (by rw [<-h3,hx]; rfl)
   ·rename_i hx; exact Ql ⟨(r+1,_),[],rfl,kps,kps,⟨Zg (by omega),hlt,by rw [<-h3,hx]; rfl⟩,by dsimp only; omega⟩
  ·rw [Qk (by rw [Za8]; omega)] at h3
   repeat'(first|refine wk1 ?_|(refine wk2 ?_ ?_<;>intro _)|fail)
   exact Ql ⟨(3,_),[],rfl,kps,kps,⟨Zg (k:=2) (by omega),by omega,by rw [<-h3,<-hT]; rfl⟩,by dsimp only; omega⟩
 ·have q1:(if Zv h (Ln.mk x4 y4 u4 v4).a then (if Vg h (Ln.mk x4 y4 u4 v4) then false else Xl h []) else false:Bool)=Xl h ([(Ln.mk x1 y1 u1 v1),(Ln.mk x2 y2 u2 v2),(Ln.mk x3 y3 u3 v3),(Ln.mk x4 y4 u4 v4)].drop 3):=rfl
  rw [<-q1] at hh
  clear q1
  generalize hT:Xl h []=T at hh
  repeat'(first|refine wk1 ?_|(refine wk2 ?_ ?_<;>intro _)|fail)
  ·rename_i hx; exact Za (by rw [<-hh,show Zv h (Ln.mk x4 y4 u4 v4).a=false by simpa using hx]; rfl)
  rename_i hx
  have h3:(!(((lns h.cs).drop 0).any fun m=>(Ln.mk x4 y4 u4 v4).touch m)&&(T&&TL))=B:=by
   rw [<-hh,show Zv h (Ln.mk x4 y4 u4 v4).a=true by simpa using hx,if_pos rfl];cases hA:((lns h.cs).any fun m=>(Ln.mk x4 y4 u4 v4).touch m)<;>simp [Vg,hA]
  clear hh hx
  refine Zr (S:=Nat × Int) (fun t=>h.cs.length-t.1) (fun t=>[(2,.ptr 0 0 0),(1,I q),(5,.ptr 1 0 0),(9,.ptr 2 0 0),(10,I 3),(13,I t.2)]) (fun _=>[(2,.row 16 [[I x1,I y1,I u1,I v1,I x2,I y2,I u2,I v2,I x3,I y3,I u3,I v3,I x4,I y4,I u4,I v4]] true false),(1,.row 7 [c.av] true false),(0,.row 9 [h.cells] true false)]) 5 5 (fun t=>t.2=t.1/\t.1<=h.cs.length/\(!(((lns h.cs).drop t.1).any fun m=>(Ln.mk x4 y4 u4 v4).touch m)&&(T&&TL))=B) (0,0) ⟨rfl,Qn _,h3⟩ (Qd _) [] rfl (kps) (kps) ?_
  clear h3
  rintro ⟨r,r'⟩ ⟨hr,hr2,h3⟩
  dsimp only at hr hr2 h3 ⊢
  subst hr
  refine bs.av (sx:=nos) hk7 ?_
  by_cases hlt:r<h.cs.length
  ·rw [Zg6 hlt,Ng] at h3
   have e2:=Ve (h:=h) hlt;have hn5:=hz r hlt;generalize lnOf h.cs r=M at *;obtain ⟨mx,my,mdx,mdy⟩:=M;have hn6:(Ln.mk x4 y4 u4 v4).n≠0/\(Ln.mk mx my mdx mdy).n≠0:=⟨hn4,hn5⟩
   repeat'(first|refine wk1 ?_|(refine wk2 ?_ ?_<;>intro _)|fail)
   ·rename_i hx; exact Za (by rw [<-h3,hx]; rfl)
   ·rename_i hx; exact Ql ⟨(r+1,_),[],rfl,kps,kps,⟨Zg (by omega),hlt,by rw [<-h3,hx]; rfl⟩,by dsimp only; omega⟩
  ·rw [Qk (by rw [Za8]; omega)] at h3
   repeat'(first|refine wk1 ?_|(refine wk2 ?_ ?_<;>intro _)|fail)
   exact Ql ⟨(4,_),[],rfl,kps,kps,⟨Zg (k:=3) (by omega),by omega,by rw [<-h3,<-hT]; rfl⟩,by dsimp only; omega⟩
 ·omega
 have hm4:m=4:=by omega
 have hh:TL=B:=by rw [<-hh,hm4]; rfl
 repeat'(first|refine wk1 ?_|(refine wk2 ?_ ?_<;>intro _)|fail)
 subst hTL
 clear h4 hm2 hm4 p1 p2 p3 p4
 refine Zr (S:=Nat × Int) (fun t=>h.cs.length-t.1) (fun t=>[(2,.ptr 0 0 0),(5,.ptr 1 0 0),(14,I t.2)]) (fun _=>[(1,.row 7 [c.av] true false),(0,.row 9 [h.cells] true false)]) 3 3 (fun t=>t.2=t.1/\t.1<=h.cs.length/\(!((h.cs.drop t.1).any fun p=>Zgc c ⟨p.1,p.2,0,1⟩))=B) (0,0) ⟨rfl,Qn _,hh⟩ (Qd _) [] rfl (kps) (kps) ?_
 clear hh
 rintro ⟨r,r'⟩ ⟨hr,hr2,h3⟩
 dsimp only at hr hr2 h3 ⊢
 subst hr
 refine bs.av (sx:=nos) hk7 ?_
 have e8:(h.cs.map pt).length=h.cs.length:=by simp
 by_cases hlt:r<h.cs.length
 ·rw [Qi hlt,Ng] at h3
  have e4:=Zfx hlt
  have e9:cor h.cs r=h.cs[r]:=by simp [cor,hlt]
  have b1:=Yde c ⟨(cor h.cs r).1,(cor h.cs r).2,0,1⟩
  rw [<-e9] at h3
  clear e9
  repeat'(first|refine wk1 ?_|(refine wk2 ?_ ?_<;>intro _)|fail)
  ·rename_i hx; exact Za (by rw [<-h3,hx]; rfl)
  ·rename_i hx; exact Ql ⟨(r+1,_),[],rfl,kps,kps,⟨Zg (by omega),hlt,by rw [<-h3,hx]; rfl⟩,by dsimp only; omega⟩
 ·rw [Qk (by omega)] at h3
  repeat'(first|refine wk1 ?_|(refine wk2 ?_ ?_<;>intro _)|fail)
  exact Za (by rw [<-h3]; rfl)
theorem Zn {a b A B:Int} (ha : -A<=a/\a<=A) (hb : -B<=b/\b<=B) : -(A*B)<=a*b/\a*b<=A*B:=by
 have h1:a.natAbs<=A.natAbs:=by omega
 have h2:b.natAbs<=B.natAbs:=by omega
 have h3:=Nat.mul_le_mul h1 h2
 rw [<-Nl,<-Nl] at h3
 have h4:0<=A*B:=Int.mul_nonneg (by omega) (by omega)
 omega
theorem Zr1 {n v:Int} (hn:0<n):sgn (n*v)=sgn v:=by
 unfold sgn
 rcases Int.lt_trichotomy v 0 with h|h|h
 ·have:=Int.mul_neg_of_pos_of_neg hn h
  rw [if_neg (by omega),if_pos this,if_neg (by omega),if_pos h]
 ·subst h; simp
 ·have:=Rm hn h
  rw [if_pos this,if_pos h]
theorem Xq {v:Int}:sgn v<0↔v<0:=by unfold sgn; split<;>(try split)<;>omega
theorem Xp {v:Int}:0<sgn v↔0<v:=by unfold sgn; split<;>(try split)<;>omega
theorem Vz {v:Int}:sgn v=0↔v=0:=by unfold sgn; split<;>(try split)<;>omega
theorem Ziv (v:Int) : -1<=sgn v/\sgn v<=1:=by unfold sgn; split<;>(try split)<;>omega
structure Str (w:Wl) (n sx sy:Int):Prop where
 hn:0<n
 hx:sx=0\/sx=1\/sx = -1
 hy:sy=0\/sy=1\/sy = -1
 hxy:¬(sx=0/\sy=0)
 tx:w.tx=w.fx+n*sx
 ty:w.ty=w.fy+n*sy
 b1 : -5000<=w.fx/\w.fx<=5000
 b2 : -5000<=w.fy/\w.fy<=5000
 b3 : -5000<=w.tx/\w.tx<=5000
 b4 : -5000<=w.ty/\w.ty<=5000
theorem Str.nle {w:Wl} {n sx sy:Int} (h:Str w n sx sy):n<=10000:=by
 obtain ⟨hn,hx,hy,hxy,tx,ty,b1,b2,b3,b4⟩:=h
 rcases hx with rfl|rfl|rfl<;>rcases hy with rfl|rfl|rfl<;>simp at * <;> omega
theorem Str.dx {w:Wl} {n sx sy:Int} (h:Str w n sx sy):w.dx=n*sx:=by
 obtain ⟨hn,hx,hy,hxy,tx,ty,b1,b2,b3,b4⟩:=h
 unfold Wl.dx
 rw [W_eq (by omega) (by omega)]; omega
theorem Str.dy {w:Wl} {n sx sy:Int} (h:Str w n sx sy):w.dy=n*sy:=by
 obtain ⟨hn,hx,hy,hxy,tx,ty,b1,b2,b3,b4⟩:=h
 unfold Wl.dy
 rw [W_eq (by omega) (by omega)]; omega
def Wl.ln (w:Wl):Ln:=⟨w.fx,w.fy,Qa Qb (w.tx-w.fx),Qa Qb (w.ty-w.fy)⟩
theorem Zcc (cs:List (Int × Int)) (i:Nat):lnOf cs i=(wlOf cs i).ln:=rfl
theorem Zc7 {n:Int} (h : -9000000000000000000<=n/\n<=9000000000000000000):size n=if n<0 then -n else n:=by
 unfold size imax
 rw [W_eq (by omega) (by omega)]
 split
 ·rw [decide_eq_true (by omega)]; simp
 ·by_cases h0:n=0
  ·subst h0; rfl
  ·rw [decide_eq_false (by omega)]; rfl
theorem Str.ln {w:Wl} {n sx sy:Int} (h:Str w n sx sy):w.ln.dx=n*sx/\w.ln.dy=n*sy/\w.ln.n=n/\w.ln.sx=sx/\w.ln.sy=sy:=by
 have h1:w.ln.dx=n*sx:=h.dx
 have h2:w.ln.dy=n*sy:=h.dy
 have hle:=h.nle
 have hn:=h.hn
 have h3:w.ln.n=n:=by
  unfold Ln.n
  rw [h1,h2]
  have hxy:=h.hxy
  have s0:size 0=0:=by rw [Zc7 (by omega)]; rfl
  have s1:size n=n:=by rw [Zc7 (by omega),if_neg (by omega)]
  have s2:size (-n)=n:=by rw [Zc7 (by omega),if_pos (by omega)]; omega
  have i1:imax n n=n:=by unfold imax; rw [decide_eq_false (by omega)]; rfl
  have i2:imax n 0=n:=by unfold imax; rw [decide_eq_false (by omega)]; rfl
  have i3:imax 0 n=n:=by unfold imax; rw [decide_eq_true (by omega)]; rfl
  rcases h.hx with rfl|rfl|rfl<;>rcases h.hy with rfl|rfl|rfl<;>(try (exact absurd ⟨rfl,rfl⟩ hxy))<;>simp only [Tf,Sl,Sf,s0,s1,s2,i1,i2,i3]
 refine ⟨h1,h2,h3,?_,?_⟩
 ·unfold Ln.sx
  rw [h1,h3,Lf _ (by omega)]
  rcases h.hx with rfl|rfl|rfl<;>rfl
 ·unfold Ln.sy
  rw [h2,h3,Lf _ (by omega)]
  rcases h.hy with rfl|rfl|rfl<;>rfl
structure PtOk (x y d:Int):Prop where
 hd:0<d
 hD:d<=20000000000
 hx : -200000000000000<=x/\x<=200000000000000
 hy : -200000000000000<=y/\y<=200000000000000
def bes (w:Wl) (sx sy x y d:Int):Int:=sx*(y-w.fy*d)-sy*(x-w.fx*d)
def alo (w:Wl) (sx sy x y d:Int):Int:=sx*(x-w.fx*d)+sy*(y-w.fy*d)
theorem Zj {f d:Int} (hf : -5000<=f/\f<=5000) (hd:0<d) : -(5000*d)<=f*d/\f*d<=5000*d:=Zn hf (by omega)
theorem Vr {w:Wl} {n sx sy x y d z:Int} (h:Str w n sx sy) (hp:PtOk x y d):w.ln.beside ⟨x,y,z,d⟩=bes w sx sy x y d:=by
 obtain ⟨_,_,_,h4,h5⟩:=h.ln
 unfold Ln.beside bes
 rw [h4,h5]
 show Qa Qb (Qa Qb (sx*Qa Qb (y-Qa Qb (w.fy*d)))-Qa Qb (sy*Qa Qb (x-Qa Qb (w.fx*d))))=_
 have a1:=Zj h.b1 hp.hd
 have a2:=Zj h.b2 hp.hd
 have a3:=hp.hD
 have a4:=hp.hx
 have a5:=hp.hy
 have a6:=hp.hd
 generalize w.fx*d=A at *
 generalize w.fy*d=C at *
 rw [W_eq (n:=C) (by omega) (by omega),W_eq (n:=A) (by omega) (by omega),W_eq (n:=y-C) (by omega) (by omega),W_eq (n:=x-A) (by omega) (by omega)]
 have hx:=h.hx
 have hy:=h.hy
 rcases hx with rfl|rfl|rfl<;>rcases hy with rfl|rfl|rfl<;>simp only [Tw,Ph,Tt]<;>simp only [Tj]<;>omega
theorem Zfg {w:Wl} {n sx sy x y d z:Int} (h:Str w n sx sy) (hp:PtOk x y d):w.ln.along ⟨x,y,z,d⟩=alo w sx sy x y d:=by
 obtain ⟨_,_,_,h4,h5⟩:=h.ln
 unfold Ln.along alo
 rw [h4,h5]
 show Qa Qb (Qa Qb (sx*Qa Qb (x-Qa Qb (w.fx*d)))+Qa Qb (sy*Qa Qb (y-Qa Qb (w.fy*d))))=_
 have a1:=Zj h.b1 hp.hd
 have a2:=Zj h.b2 hp.hd
 have a3:=hp.hD
 have a4:=hp.hx
 have a5:=hp.hy
 have a6:=hp.hd
 generalize w.fx*d=A at *
 generalize w.fy*d=C at *
 rw [W_eq (n:=C) (by omega) (by omega),W_eq (n:=A) (by omega) (by omega),W_eq (n:=y-C) (by omega) (by omega),W_eq (n:=x-A) (by omega) (by omega)]
 have hx:=h.hx
 have hy:=h.hy
 rcases hx with rfl|rfl|rfl<;>rcases hy with rfl|rfl|rfl<;>simp only [Tw,Ph,Tt]<;>simp only [Tj]<;>omega
theorem Zn9 {w:Wl} {n sx sy:Int} (h:Str w n sx sy):w.ln.full=n*(sx*sx+sy*sy):=by
 obtain ⟨_,_,h3,h4,h5⟩:=h.ln
 unfold Ln.full
 rw [h3,h4,h5]
 have hn:=h.hn
 have hle:=h.nle
 have hx:=h.hx
 have hy:=h.hy
 rcases hx with rfl|rfl|rfl<;>rcases hy with rfl|rfl|rfl<;>simp [Tj]<;>omega
theorem Xw {w:Wl} {n sx sy x y d:Int} (h:Str w n sx sy) (hp:PtOk x y d):w.side x y d=sgn (bes w sx sy x y d):=by
 unfold Wl.side bes
 rw [h.dx,h.dy]
 refine Eq.trans ?_ (Zr1 h.hn)
 have a1:=Zj h.b1 hp.hd
 have a2:=Zj h.b2 hp.hd
 have a3:=hp.hD
 have a4:=hp.hx
 have a5:=hp.hy
 have a6:=hp.hd
 have hn:=h.hn
 have hle:=h.nle
 generalize w.fx*d=A at *
 generalize w.fy*d=C at *
 have b1 : -(10000*300000000000000)<=n*(y-C)/\n*(y-C)<=10000*300000000000000:=Zn (by omega) (by omega)
 have b2 : -(10000*300000000000000)<=n*(x-A)/\n*(x-A)<=10000*300000000000000:=Zn (by omega) (by omega)
 rw [W_eq (n:=C) (by omega) (by omega),W_eq (n:=A) (by omega) (by omega),W_eq (n:=y-C) (by omega) (by omega),W_eq (n:=x-A) (by omega) (by omega)]
 congr 1
 have hx:=h.hx
 have hy:=h.hy
 rw [show n*(sx*(y-C)-sy*(x-A))=sx*(n*(y-C))-sy*(n*(x-A)) by grind,show n*sx*(y-C)=sx*(n*(y-C)) by grind,show n*sy*(x-A)=sy*(n*(x-A)) by grind]
 generalize n*(y-C)=P at *
 generalize n*(x-A)=Q at *
 rcases hx with rfl|rfl|rfl<;>rcases hy with rfl|rfl|rfl<;>simp only [Tw,Ph,Tt]<;>simp only [Tj]<;>omega
def onW (w:Wl) (n sx sy x y d:Int):Prop:=bes w sx sy x y d=0/\0<=alo w sx sy x y d/\alo w sx sy x y d<=n*(sx*sx+sy*sy)*d
theorem Yf0 {n d:Int} (hn:0<n) (hle:n<=10000) (hd:0<d):0<n*d/\n*d<=10000*d:=by
 have:=Zn (a:=n) (b:=d) (A:=10000) (B:=d) (by omega) (by omega)
 exact ⟨Rm hn hd,this.2⟩
theorem Ycg {w:Wl} {n sx sy x y d z:Int} (h:Str w n sx sy) (hp:PtOk x y d):w.ln.has ⟨x,y,z,d⟩=true↔onW w n sx sy x y d:=by
 unfold Ln.has onW
 rw [Vr h hp,Zfg h hp,Zn9 h,Qc,decide_eq_true_eq,within_iff]
 have hb:Qa Qb (n*(sx*sx+sy*sy)*d)=n*(sx*sx+sy*sy)*d:=by
  have:=Yf0 h.hn h.nle hp.hd
  have:=hp.hD
  rcases h.hx with rfl|rfl|rfl<;>rcases h.hy with rfl|rfl|rfl<;>simp only [Tf,Sl,Sf,Tw,Tt,Tu,Oe,Wf]<;>(try rw [show n*(1+1)*d=2*(n*d) by grind])<;>exact W_eq (by omega) (by omega)
 rw [hb]
theorem Za4 {w:Wl} {n sx sy x y d:Int} (h:Str w n sx sy) (hp:PtOk x y d):w.has x y d=true↔onW w n sx sy x y d:=by
 unfold Wl.has onW
 rw [Xw h hp,Qc,Qc,decide_eq_true_eq,within_iff,within_iff,Vz]
 have a1:=Zj h.b1 hp.hd
 have a2:=Zj h.b2 hp.hd
 have a3:=Yf0 h.hn h.nle hp.hd
 have a4:=hp.hD
 have hn:=h.hn
 unfold bes alo
 rw [h.tx,h.ty]
 have hxy:=h.hxy
 have f7:n*(1+1)*d=2*(n*d):=by grind
 have e1:imin w.fx (w.fx+n)=w.fx:=by unfold imin; rw [decide_eq_false (by omega)]; rfl
 have e2:imin w.fx (w.fx + -n)=w.fx + -n:=by unfold imin; rw [decide_eq_true (by omega)]; rfl
 have e3:imin w.fx w.fx=w.fx:=by unfold imin; rw [decide_eq_false (by omega)]; rfl
 have e4:imax w.fx (w.fx+n)=w.fx+n:=by unfold imax; rw [decide_eq_true (by omega)]; rfl
 have e5:imax w.fx (w.fx + -n)=w.fx:=by unfold imax; rw [decide_eq_false (by omega)]; rfl
 have e6:imax w.fx w.fx=w.fx:=by unfold imax; rw [decide_eq_false (by omega)]; rfl
 have f1:imin w.fy (w.fy+n)=w.fy:=by unfold imin; rw [decide_eq_false (by omega)]; rfl
 have f2:imin w.fy (w.fy + -n)=w.fy + -n:=by unfold imin; rw [decide_eq_true (by omega)]; rfl
 have f3:imin w.fy w.fy=w.fy:=by unfold imin; rw [decide_eq_false (by omega)]; rfl
 have f4:imax w.fy (w.fy+n)=w.fy+n:=by unfold imax; rw [decide_eq_true (by omega)]; rfl
 have f5:imax w.fy (w.fy + -n)=w.fy:=by unfold imax; rw [decide_eq_false (by omega)]; rfl
 have f6:imax w.fy w.fy=w.fy:=by unfold imax; rw [decide_eq_false (by omega)]; rfl
 rcases h.hx with rfl|rfl|rfl<;>rcases h.hy with rfl|rfl|rfl<;>simp only [Tf,Sl,Sf,Tw,Tt,Ph,Tu,Oe,Wf,Int.add_mul,f7,e1,e2,e3,e4,e5,e6,f1,f2,f3,f4,f5,f6]<;>(try (exact absurd ⟨rfl,rfl⟩ hxy))<;>generalize w.fx*d=A at * <;> generalize w.fy*d=C at * <;> generalize n*d=M at *
 all_goals repeat rw [W_eq (by omega) (by omega)]
 all_goals omega
theorem Zhb {w:Wl} {n sx sy x y d z:Int} (h:Str w n sx sy) (hp:PtOk x y d):w.has x y d=w.ln.has ⟨x,y,z,d⟩:=by
 rw [Rz,Za4 h hp,Ycg h hp]
theorem Xe {x y:Int} (h1 : -5000<=x/\x<=5000) (h2 : -5000<=y/\y<=5000):PtOk x y 1:=⟨by omega,by omega,by omega,by omega⟩
theorem ln_a (w:Wl):w.ln.a=⟨w.fx,w.fy,0,1⟩:=rfl
theorem ln_b {w:Wl} {n sx sy:Int} (h:Str w n sx sy):w.ln.b=⟨w.tx,w.ty,0,1⟩:=by
 obtain ⟨h1,h2,_⟩:=h.ln
 unfold Ln.b
 rw [h1,h2]
 have e1:Qa Qb (w.ln.x+n*sx)=w.tx:=by rw [h.tx]; exact W_eq (by have:=h.b3; have:=h.tx; show _<=w.fx+_; omega) (by have:=h.b3; have:=h.tx; show w.fx+_<=_; omega)
 have e2:Qa Qb (w.ln.y+n*sy)=w.ty:=by rw [h.ty]; exact W_eq (by have:=h.b4; have:=h.ty; show _<=w.fy+_; omega) (by have:=h.b4; have:=h.ty; show w.fy+_<=_; omega)
 rw [e1,e2]
theorem Zey (a b:Int):Qa Qb (sgn a*sgn b)=sgn a*sgn b:=by
 have:=Zn (A:=1) (B:=1) (Ziv a) (Ziv b)
 exact W_eq (by omega) (by omega)
theorem sgn_mul_neg {a b:Int}:sgn a*sgn b<0↔(a<0/\0<b)\/(0<a/\b<0):=by
 unfold sgn
 split<;>split<;>(try split)<;>(try split)<;>simp<;>omega
theorem Zh8 {w o:Wl} {n sx sy m tx ty:Int} (h:Str w n sx sy) (g:Str o m tx ty):w.touches o=w.ln.touch o.ln:=by
 have p1:=Xe g.b1 g.b2
 have p2:=Xe g.b3 g.b4
 have p3:=Xe h.b1 h.b2
 have p4:=Xe h.b3 h.b4
 unfold Wl.touches Ln.touch
 rw [ln_b h,ln_b g,ln_a,ln_a,<-Zhb h p1,<-Zhb h p2,<-Zhb g p3,<-Zhb g p4,Vr h p1,Vr h p2,Vr g p3,Vr g p4,Xw h p1,Xw h p2,Xw g p3,Xw g p4]
 exact Bool.or_comm _ _
theorem Zw8 {w o:Wl} {n sx sy m tx ty:Int} (h:Str w n sx sy) (g:Str o m tx ty):w.turnsBack o=true↔tx = -sx/\ty = -sy:=by
 unfold Wl.turnsBack
 rw [h.dx,h.dy,g.dx,g.dy]
 have a1:=h.nle
 have a2:=g.nle
 have hn:=h.hn
 have hm:=g.hn
 have hxy:=h.hxy
 have gxy:=g.hxy
 have b1:0<n*m:=Rm hn hm
 have b2:=(Zn (a:=n) (b:=m) (A:=10000) (B:=10000) (by omega) (by omega)).2
 have e1:∀ a b:Int,n*a*(m*b)=n*m*(a*b):=fun a b=>by grind
 rw [e1,e1,e1,e1]
 generalize n*m=K at *
 rcases h.hx with rfl|rfl|rfl<;>rcases h.hy with rfl|rfl|rfl<;>(try (exact absurd ⟨rfl,rfl⟩ hxy))<;>rcases g.hx with rfl|rfl|rfl<;>rcases g.hy with rfl|rfl|rfl<;>(try (exact absurd ⟨rfl,rfl⟩ gxy))<;>simp [Tj]<;>omega
theorem Zu9 {w o:Wl} {n sx sy m tx ty:Int} (h:Str w n sx sy) (g:Str o m tx ty) (hc:o.fx=w.tx/\o.fy=w.ty):(o.has w.fx w.fy 1||w.has o.tx o.ty 1)=w.turnsBack o:=by
 rw [Rz,Zw8 h g,Qz,Za4 g (Xe h.b1 h.b2),Za4 h (Xe g.b3 g.b4)]
 unfold onW bes alo
 have hn:=h.hn
 have hm:=g.hn
 have hxy:=h.hxy
 have gxy:=g.hxy
 rw [g.tx,g.ty,hc.1,hc.2,h.tx,h.ty]
 rcases h.hx with rfl|rfl|rfl<;>rcases h.hy with rfl|rfl|rfl<;>(try (exact absurd ⟨rfl,rfl⟩ hxy))<;>rcases g.hx with rfl|rfl|rfl<;>rcases g.hy with rfl|rfl|rfl<;>(try (exact absurd ⟨rfl,rfl⟩ gxy))<;>simp only [Tf,Sl,Sf,Tw,Tt,Ph,Tu,Oe,Wf,and_self,and_true,true_and,iff_true]<;>omega
theorem Yct {w:Wl} {n sx sy x y d z:Int} (h:Str w n sx sy) (hp:PtOk x y d):flips x y d w=Zqk ⟨x,y,z,d⟩ w.ln:=by
 unfold flips Zqk
 have e:Qa Qb (w.ln.y+w.ln.dy)=w.ty:=by
  have:=ln_b h
  unfold Ln.b at this
  simpa using congrArg Pt.y this
 rw [Vr h hp,Xw h hp,e]
 have c1:∀ v,decide (0<sgn v)=decide (0<v):=fun v=>by rw [decide_eq_decide]; exact Xp
 have c2:∀ v,decide (sgn v<0)=decide (v<0):=fun v=>by rw [decide_eq_decide]; exact Xq
 have c3:∀ a:Int,decide (y<a) = !decide (a<=y):=fun a=>by by_cases q:a<=y<;>simp [q]<;>omega
 rw [c1,c2,c3,c3]
 show _=(((decide (Qa Qb (w.fy*d)<=y) && !decide (Qa Qb (w.ty*d)<=y))&&decide (0<bes w sx sy x y d))||((!decide (Qa Qb (w.fy*d)<=y)&&decide (Qa Qb (w.ty*d)<=y))&&decide (bes w sx sy x y d<0)))
 cases decide (Qa Qb (w.fy*d)<=y)<;>cases decide (Qa Qb (w.ty*d)<=y)<;>rfl
def Za3 (cs:List (Int × Int)):Prop:=∀ i,i<cs.length->∃ n sx sy,Str (wlOf cs i) n sx sy
theorem Zyo {x y d z:Int} (hp:PtOk x y d):∀ (l:List Wl) (b:Bool),(∀ w∈l,∃ n sx sy,Str w n sx sy)->inPl x y d b l=Zlz ⟨x,y,z,d⟩ b (l.map Wl.ln)
 | [],_,_=>rfl
 | w::l,b,h=>by
  obtain ⟨n,sx,sy,hw⟩:=h w (by simp)
  rw [List.map_cons,inPl,Zlz,Zhb (z:=z) hw hp,Yct (z:=z) hw hp]
  split
  ·rfl
  ·exact Zyo hp l _ fun u hu=>h u (by simp [hu])
theorem Yd4 (cs:List (Int × Int)):lns cs=(wls cs).map Wl.ln:=by simp [lns,wls,Zcc]
theorem Zbb {cs:List (Int × Int)} (h:Za3 cs):∀ w∈wls cs,∃ n sx sy,Str w n sx sy:=by
 intro w hw
 simp only [wls,Wd,Tz] at hw
 obtain ⟨i,hi,rfl⟩:=hw
 exact h i hi
theorem Uo {h:Hal} (hs:Za3 h.cs) {x y d:Int} (z:Int) (hp:PtOk x y d):Yi h x y d=Zv h ⟨x,y,z,d⟩:=by
 unfold Yi Zv
 rw [Yd4]
 exact Zyo hp _ _ (Zbb hs)
theorem Ydn (n:Int) (w:Wl):Yaq n w=Zrg n w:=by
 unfold Yaq Zrg
 generalize w.fx*w.ty=a
 generalize w.tx*w.fy=b
 simp only [Tj]; omega
theorem Zov (h:Hal):Zea h=Zj4 h.cs:=by
 unfold Zea Zj4
 rw [show Yaq=Zrg from funext fun n=>funext fun w=>Ydn n w]
theorem Zs4 {cs:List (Int × Int)} {i:Nat} (h:i<cs.length):cor cs i=cs[i]:=by simp [cor,h]
theorem Zoz {h:Hal} (hs:Za3 h.cs) (h3:3<=h.cs.length) (hl:h.cs.length<1000):Vi h=Zee h.cs:=by
 have key:∀ i k,i<k->k<h.cs.length->Zfr h.cs.length (wlOf h.cs i) (wlOf h.cs k)=Zid h.cs h.cs.length i k:=by
  intro i k hik hk
  obtain ⟨n,sx,sy,hi⟩:=hs i (by omega)
  obtain ⟨m,tx,ty,hm⟩:=hs k hk
  unfold Zfr Zid
  show (decide ((k:Int)<=(i:Int))||(!((decide ((k:Int)=Qa Qb ((i:Int)+1))&&_)||((decide ((i:Int)=0)&&decide ((k:Int)=Qa Qb ((h.cs.length:Int)-1)))&&_))&&((decide ((k:Int)=Qa Qb ((i:Int)+1))||(decide ((i:Int)=0)&&decide ((k:Int)=Qa Qb ((h.cs.length:Int)-1))))||_)))=_
  rw [Zcc,Zcc,<-Zh8 hi hm,ln_a,ln_a,ln_b hi,ln_b hm,<-Zhb hi (Xe hm.b3 hm.b4),<-Zhb hm (Xe hi.b1 hi.b2),<-Zhb hi (Xe hm.b1 hm.b2),<-Zhb hm (Xe hi.b3 hi.b4)]
  have e1:Qa Qb ((i:Int)+1)=(i:Int)+1:=W_eq (by omega) (by omega)
  have e2:Qa Qb ((h.cs.length:Int)-1)=(h.cs.length:Int)-1:=W_eq (by omega) (by omega)
  rw [e1,e2,decide_eq_false (p:=(k:Int)<=(i:Int)) (by omega)]
  by_cases c1:(k:Int)=(i:Int)+1
  ·have hki:k=i+1:=by omega
   have c2:((decide ((i:Int)=0)&&decide ((k:Int)=(h.cs.length:Int)-1)))=false:=by
    by_cases q:(i:Int)=0
    ·rw [decide_eq_false (p:=(k:Int)=(h.cs.length:Int)-1) (by omega)]; simp
    ·rw [decide_eq_false q]; rfl
   have hb:=Zu9 hi hm (by
    subst hki
    simp only [wlOf,Nat.mod_eq_of_lt hk,and_self])
   rw [c2,decide_eq_true c1,<-hb];simp
  ·rw [decide_eq_false c1]
   by_cases c2:(i:Int)=0/\(k:Int)=(h.cs.length:Int)-1
   ·have hb:=Zu9 hm hi (by
     have h1:i=0:=by omega
     have h2:k+1=h.cs.length:=by omega
     subst h1
     simp only [wlOf,h2,Nat.mod_self,and_self])
    rw [decide_eq_true c2.1,decide_eq_true c2.2,<-hb];simp [Bool.and_comm]
   ·have c3:((decide ((i:Int)=0)&&decide ((k:Int)=(h.cs.length:Int)-1)))=false:=by
     rw [Bool.eq_false_iff]; intro hq; simp only [Qc,decide_eq_true_eq] at hq; exact c2 hq
    rw [c3];simp
 have hR:Zee h.cs=true↔∀ i k,i<k->k<h.cs.length->Zid h.cs h.cs.length i k=true:=by
  simp only [Zee,Zfq,Zfs,Rj,List.mem_range']
  constructor
  ·intro hq i k hik hk
   exact hq i ⟨i,by omega,by omega⟩ k ⟨k-(i+1),by omega,by omega⟩
  ·rintro hq i ⟨a,ha,rfl⟩ k ⟨b,hb,rfl⟩
   exact hq _ _ (by omega) (by omega)
 have hP:Vi h=true↔∀ i k,i<h.cs.length->k<h.cs.length->Zfr h.cs.length (wlOf h.cs i) (wlOf h.cs k)=true:=by
  simp only [Vi,wls,Rj,Wd,Tz]
  constructor
  ·intro hq i k hi hk; exact hq _ ⟨i,hi,rfl⟩ _ ⟨k,hk,rfl⟩
  ·rintro hq a ⟨i,hi,rfl⟩ b ⟨k,hk,rfl⟩; exact hq i k hi hk
 rw [Rz,hR,hP]
 constructor
 ·intro hq i k hik hk; rw [<-key i k hik hk]; exact hq i k (by omega) hk
 ·intro hq i k hi hk
  by_cases hik:i<k
  ·rw [key i k hik hk]; exact hq i k hik hk
  ·unfold Zfr
   rw [show decide ((wlOf h.cs k).n<=(wlOf h.cs i).n)=true from decide_eq_true (by show (k:Int)<=(i:Int); omega)];rfl
def hit (w:Wl) (n sx sy:Int) (q:Rc):Prop:=∃ t,0<=t/\t<=n/\q.xl<=w.fx+t*sx/\w.fx+t*sx<=q.xh/\q.yl<=w.fy+t*sy/\w.fy+t*sy<=q.yh
structure RcOk (q:Rc):Prop where
 x:q.xl<q.xh
 y:q.yl<q.yh
 b1 : -5000<=q.xl
 b2:q.xh<=5000
 b3 : -5000<=q.yl
 b4:q.yh<=5000
theorem Ygn {a b c:Int}:imin a b<=c↔a<=c\/b<=c:=by
 unfold imin; by_cases h:b<a<;>simp [h]<;>omega
theorem Ygo {a b c:Int}:c<=imax a b↔c<=a\/c<=b:=by
 unfold imax; by_cases h:a<b<;>simp [h]<;>omega
theorem Zyq {a b c:Int}:c<imin a b↔c<a/\c<b:=by
 unfold imin; by_cases h:b<a<;>simp [h]<;>omega
theorem Zyr {a b c:Int}:imax a b<c↔a<c/\b<c:=by
 unfold imax; by_cases h:a<b<;>simp [h]<;>omega
theorem Ztq {v:Int}:sgn v<=0↔v<=0:=by have:=@Xp v; omega
theorem Yhu {v:Int}:0<=sgn v↔0<=v:=by have:=@Xq v; omega
theorem Zpr {w:Wl} {n sx sy:Int} {q:Rc} (h:Str w n sx sy) (hq:RcOk q):q.meets w=true↔hit w n sx sy q:=by
 have q1:=hq.x
 have q2:=hq.y
 have q3:=hq.b1
 have q4:=hq.b2
 have q5:=hq.b3
 have q6:=hq.b4
 have p1:PtOk q.xl q.yl 1:=Xe (by omega) (by omega)
 have p2:PtOk q.xl q.yh 1:=Xe (by omega) (by omega)
 have p3:PtOk q.xh q.yl 1:=Xe (by omega) (by omega)
 have p4:PtOk q.xh q.yh 1:=Xe (by omega) (by omega)
 have e:q.meets w=true ↔ ¬((w.fx<q.xl/\w.tx<q.xl)\/(q.xh<w.fx/\q.xh<w.tx)\/(w.fy<q.yl/\w.ty<q.yl)\/(q.yh<w.fy/\q.yh<w.ty))/\(bes w sx sy q.xl q.yl 1<=0\/bes w sx sy q.xl q.yh 1<=0\/bes w sx sy q.xh q.yl 1<=0\/bes w sx sy q.xh q.yh 1<=0)/\(0<=bes w sx sy q.xl q.yl 1\/0<=bes w sx sy q.xl q.yh 1\/0<=bes w sx sy q.xh q.yl 1\/0<=bes w sx sy q.xh q.yh 1):=by
  unfold Rc.meets
  rw [Xw h p1,Xw h p2,Xw h p3,Xw h p4]
  by_cases hb:(decide (imax w.fx w.tx<q.xl)||decide (q.xh<imin w.fx w.tx)||decide (imax w.fy w.ty<q.yl)||decide (q.yh<imin w.fy w.ty))=true
  ·rw [if_pos hb]
   simp only [Qz,decide_eq_true_eq,Zyq,Zyr] at hb
   constructor
   ·intro hf; cases hf
   ·rintro ⟨h1,_⟩; exact absurd (by rcases hb with ((hb|hb)|hb)|hb<;>simp [hb]) h1
  ·rw [if_neg hb]
   simp only [Qz,decide_eq_true_eq,Zyq,Zyr] at hb;rw [Qc,decide_eq_true_eq,decide_eq_true_eq];simp only [Ygn,Ygo,Ztq,Yhu];omega
 rw [e]
 unfold hit bes
 rw [h.tx,h.ty]
 have hn:=h.hn
 have hxy:=h.hxy
 rcases h.hx with rfl|rfl|rfl<;>rcases h.hy with rfl|rfl|rfl<;>(try (exact absurd ⟨rfl,rfl⟩ hxy))<;>simp only [Tf,Sl,Sf,Tw,Tt,Ph,Tu,Oe,Wf]
 ·exact ⟨fun hh=>⟨max 0 (q.yl-w.fy),by omega,by omega,by omega,by omega,by omega,by omega⟩,fun ⟨t,h1,h2,h3,h4,h5,h6⟩=>by omega⟩
 ·exact ⟨fun hh=>⟨max 0 (w.fy-q.yh),by omega,by omega,by omega,by omega,by omega,by omega⟩,fun ⟨t,h1,h2,h3,h4,h5,h6⟩=>by omega⟩
 ·exact ⟨fun hh=>⟨max 0 (q.xl-w.fx),by omega,by omega,by omega,by omega,by omega,by omega⟩,fun ⟨t,h1,h2,h3,h4,h5,h6⟩=>by omega⟩
 ·exact ⟨fun hh=>⟨max (max 0 (q.xl-w.fx)) (q.yl-w.fy),by omega,by omega,by omega,by omega,by omega,by omega⟩,fun ⟨t,h1,h2,h3,h4,h5,h6⟩=>by omega⟩
 ·exact ⟨fun hh=>⟨max (max 0 (q.xl-w.fx)) (w.fy-q.yh),by omega,by omega,by omega,by omega,by omega,by omega⟩,fun ⟨t,h1,h2,h3,h4,h5,h6⟩=>by omega⟩
 ·exact ⟨fun hh=>⟨max 0 (w.fx-q.xh),by omega,by omega,by omega,by omega,by omega,by omega⟩,fun ⟨t,h1,h2,h3,h4,h5,h6⟩=>by omega⟩
 ·exact ⟨fun hh=>⟨max (max 0 (w.fx-q.xh)) (q.yl-w.fy),by omega,by omega,by omega,by omega,by omega,by omega⟩,fun ⟨t,h1,h2,h3,h4,h5,h6⟩=>by omega⟩
 ·exact ⟨fun hh=>⟨max (max 0 (w.fx-q.xh)) (w.fy-q.yh),by omega,by omega,by omega,by omega,by omega,by omega⟩,fun ⟨t,h1,h2,h3,h4,h5,h6⟩=>by omega⟩
def common (e:Wl) (m ex ey:Int) (w:Wl) (n sx sy:Int):Prop:=∃ t s,0<=t/\t<=n/\0<=s/\s<=m/\w.fx+t*sx=e.fx+s*ex/\w.fy+t*sy=e.fy+s*ey
theorem Zg3 {w:Wl} {n sx sy x y:Int} (h:Str w n sx sy):onW w n sx sy x y 1↔∃ t,0<=t/\t<=n/\x=w.fx+t*sx/\y=w.fy+t*sy:=by
 unfold onW bes alo
 have hn:=h.hn
 have hxy:=h.hxy
 rcases h.hx with rfl|rfl|rfl<;>rcases h.hy with rfl|rfl|rfl<;>(try (exact absurd ⟨rfl,rfl⟩ hxy))<;>simp only [Tf,Sl,Sf,Tw,Tt,Ph,Tu,Oe,Wf]
 ·exact ⟨fun hh=>⟨y-w.fy,by omega,by omega,by omega,by omega⟩,fun ⟨t,h1,h2,h3,h4⟩=>by omega⟩
 ·exact ⟨fun hh=>⟨w.fy-y,by omega,by omega,by omega,by omega⟩,fun ⟨t,h1,h2,h3,h4⟩=>by omega⟩
 ·exact ⟨fun hh=>⟨x-w.fx,by omega,by omega,by omega,by omega⟩,fun ⟨t,h1,h2,h3,h4⟩=>by omega⟩
 ·exact ⟨fun hh=>⟨x-w.fx,by omega,by omega,by omega,by omega⟩,fun ⟨t,h1,h2,h3,h4⟩=>by omega⟩
 ·exact ⟨fun hh=>⟨x-w.fx,by omega,by omega,by omega,by omega⟩,fun ⟨t,h1,h2,h3,h4⟩=>by omega⟩
 ·exact ⟨fun hh=>⟨w.fx-x,by omega,by omega,by omega,by omega⟩,fun ⟨t,h1,h2,h3,h4⟩=>by omega⟩
 ·exact ⟨fun hh=>⟨w.fx-x,by omega,by omega,by omega,by omega⟩,fun ⟨t,h1,h2,h3,h4⟩=>by omega⟩
 ·exact ⟨fun hh=>⟨w.fx-x,by omega,by omega,by omega,by omega⟩,fun ⟨t,h1,h2,h3,h4⟩=>by omega⟩
theorem Zw9 {e w:Wl} {m ex ey n sx sy:Int} (g:Str e m ex ey) (h:Str w n sx sy):e.touches w=true ↔
  (((bes e ex ey w.fx w.fy 1<0/\0<bes e ex ey w.tx w.ty 1)\/(0<bes e ex ey w.fx w.fy 1/\bes e ex ey w.tx w.ty 1<0))/\((bes w sx sy e.fx e.fy 1<0/\0<bes w sx sy e.tx e.ty 1)\/(0<bes w sx sy e.fx e.fy 1/\bes w sx sy e.tx e.ty 1<0))) \/
  onW e m ex ey w.fx w.fy 1\/onW e m ex ey w.tx w.ty 1\/onW w n sx sy e.fx e.fy 1\/onW w n sx sy e.tx e.ty 1:=by
 have p1:=Xe g.b1 g.b2
 have p2:=Xe g.b3 g.b4
 have p3:=Xe h.b1 h.b2
 have p4:=Xe h.b3 h.b4
 unfold Wl.touches
 rw [Qz,Qc,Qz,Qz,Qz,decide_eq_true_eq,decide_eq_true_eq,Za4 g p3,Za4 g p4,Za4 h p1,Za4 h p2,Xw g p3,Xw g p4,Xw h p1,Xw h p2,Zey,Zey,sgn_mul_neg,sgn_mul_neg]
 simp only [or_assoc]
theorem Zb1 {e w:Wl} {m ex ey n sx sy:Int} (g:Str e m ex ey) (h:Str w n sx sy) (hax:ex=0\/ey=0):e.touches w=true↔common e m ex ey w n sx sy := by
  rw [Zw9 g h]
  have hn := h.hn
  have hm := g.hn
  have hxy := h.hxy
  have gxy := g.hxy
  constructor
  · rintro (hc|hc|hc|hc|hc)
    · unfold bes at hc
      rw [h.tx, h.ty, g.tx, g.ty] at hc
      rcases g.hx with rfl|rfl|rfl<;>rcases g.hy with rfl|rfl|rfl<;>(try (exact absurd ⟨rfl, rfl⟩ gxy))<;>(try (exact absurd hax (by decide)))<;>rcases h.hx with rfl|rfl|rfl<;>rcases h.hy with rfl|rfl|rfl<;>(try (exact absurd ⟨rfl, rfl⟩ hxy))<;>simp only [Tf, Sl, Sf, Tw, Tt, Ph, Tu, Oe, Wf] at hc<;>first
        | (exfalso; omega)
        | (unfold common
           simp only [Tf, Sl, Sf, Tw, Tt, Ph, Tu, Oe, Wf]
           first
            | exact ⟨e.fy-w.fy, w.fx+(e.fy-w.fy)-e.fx, by omega, by omega, by omega, by omega, by omega, by omega⟩
            | exact ⟨e.fy-w.fy, e.fx-(w.fx+(e.fy-w.fy)), by omega, by omega, by omega, by omega, by omega, by omega⟩
            | exact ⟨e.fy-w.fy, w.fx-(e.fy-w.fy)-e.fx, by omega, by omega, by omega, by omega, by omega, by omega⟩
            | exact ⟨e.fy-w.fy, e.fx-(w.fx-(e.fy-w.fy)), by omega, by omega, by omega, by omega, by omega, by omega⟩
            | exact ⟨e.fy-w.fy, w.fx-e.fx, by omega, by omega, by omega, by omega, by omega, by omega⟩
            | exact ⟨e.fy-w.fy, e.fx-w.fx, by omega, by omega, by omega, by omega, by omega, by omega⟩
            | exact ⟨w.fy-e.fy, w.fx+(w.fy-e.fy)-e.fx, by omega, by omega, by omega, by omega, by omega, by omega⟩
            | exact ⟨w.fy-e.fy, e.fx-(w.fx+(w.fy-e.fy)), by omega, by omega, by omega, by omega, by omega, by omega⟩
            | exact ⟨w.fy-e.fy, w.fx-(w.fy-e.fy)-e.fx, by omega, by omega, by omega, by omega, by omega, by omega⟩
            | exact ⟨w.fy-e.fy, e.fx-(w.fx-(w.fy-e.fy)), by omega, by omega, by omega, by omega, by omega, by omega⟩
            | exact ⟨w.fy-e.fy, w.fx-e.fx, by omega, by omega, by omega, by omega, by omega, by omega⟩
            | exact ⟨w.fy-e.fy, e.fx-w.fx, by omega, by omega, by omega, by omega, by omega, by omega⟩
            | exact ⟨e.fx-w.fx, w.fy+(e.fx-w.fx)-e.fy, by omega, by omega, by omega, by omega, by omega, by omega⟩
            | exact ⟨e.fx-w.fx, e.fy-(w.fy+(e.fx-w.fx)), by omega, by omega, by omega, by omega, by omega, by omega⟩
            | exact ⟨e.fx-w.fx, w.fy-(e.fx-w.fx)-e.fy, by omega, by omega, by omega, by omega, by omega, by omega⟩
            | exact ⟨e.fx-w.fx, e.fy-(w.fy-(e.fx-w.fx)), by omega, by omega, by omega, by omega, by omega, by omega⟩
            | exact ⟨e.fx-w.fx, w.fy-e.fy, by omega, by omega, by omega, by omega, by omega, by omega⟩
            | exact ⟨e.fx-w.fx, e.fy-w.fy, by omega, by omega, by omega, by omega, by omega, by omega⟩
            | exact ⟨w.fx-e.fx, w.fy+(w.fx-e.fx)-e.fy, by omega, by omega, by omega, by omega, by omega, by omega⟩
            | exact ⟨w.fx-e.fx, e.fy-(w.fy+(w.fx-e.fx)), by omega, by omega, by omega, by omega, by omega, by omega⟩
            | exact ⟨w.fx-e.fx, w.fy-(w.fx-e.fx)-e.fy, by omega, by omega, by omega, by omega, by omega, by omega⟩
            | exact ⟨w.fx-e.fx, e.fy-(w.fy-(w.fx-e.fx)), by omega, by omega, by omega, by omega, by omega, by omega⟩
            | exact ⟨w.fx-e.fx, w.fy-e.fy, by omega, by omega, by omega, by omega, by omega, by omega⟩
            | exact ⟨w.fx-e.fx, e.fy-w.fy, by omega, by omega, by omega, by omega, by omega, by omega⟩)
    · obtain ⟨s, h1, h2, h3, h4⟩ := (Zg3 g).1 hc
      exact ⟨0, s, by omega, by omega, h1, h2, by simpa using h3, by simpa using h4⟩
    · obtain ⟨s, h1, h2, h3, h4⟩ := (Zg3 g).1 hc
      exact ⟨n, s, by omega, by omega, h1, h2, by rw [<-h.tx]; exact h3, by rw [<-h.ty]; exact h4⟩
    · obtain ⟨t, h1, h2, h3, h4⟩ := (Zg3 h).1 hc
      exact ⟨t, 0, h1, h2, by omega, by omega, by simpa using h3.symm, by simpa using h4.symm⟩
    · obtain ⟨t, h1, h2, h3, h4⟩ := (Zg3 h).1 hc
      exact ⟨t, m, h1, h2, by omega, by omega, by rw [<-g.tx]; exact h3.symm, by rw [<-g.ty]; exact h4.symm⟩
  · rintro ⟨t, s, t0, t1, s0, s1, c1, c2⟩
    by_cases z1:t=0
    · exact .inr (.inl ((Zg3 g).2 ⟨s, s0, s1, by subst z1; simpa using c1, by subst z1; simpa using c2⟩))
    by_cases z2:t=n
    · exact .inr (.inr (.inl ((Zg3 g).2 ⟨s, s0, s1, by subst z2; rw [h.tx]; exact c1, by subst z2; rw [h.ty]; exact c2⟩)))
    by_cases z3:s=0
    · exact .inr (.inr (.inr (.inl ((Zg3 h).2 ⟨t, t0, t1, by subst z3; simpa using c1.symm, by subst z3; simpa using c2.symm⟩))))
    by_cases z4:s=m
    · exact .inr (.inr (.inr (.inr ((Zg3 h).2 ⟨t, t0, t1, by subst z4; rw [g.tx]; exact c1.symm, by subst z4; rw [g.ty]; exact c2.symm⟩))))
    unfold onW bes alo;rw [h.tx, h.ty, g.tx, g.ty]
    rcases g.hx with rfl|rfl|rfl<;>rcases g.hy with rfl|rfl|rfl<;>(try (exact absurd ⟨rfl, rfl⟩ gxy))<;>(try (exact absurd hax (by decide)))<;>rcases h.hx with rfl|rfl|rfl<;>rcases h.hy with rfl|rfl|rfl<;>(try (exact absurd ⟨rfl, rfl⟩ hxy))<;>simp only [Tf, Sl, Sf, Tw, Tt, Ph, Tu, Oe, Wf] at c1 c2 ⊢ <;> first
      | (refine .inl ?_; omega)
      | (refine .inr ?_; omega)
end Go.Proofs.YtfkdpbklbegnlaaGreat
