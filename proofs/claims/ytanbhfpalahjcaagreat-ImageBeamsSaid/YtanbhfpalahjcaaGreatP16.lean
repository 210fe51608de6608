/- A part of the proof: lemmas. -/
import Derived.Test.YtanbhfpalahjcaaGreatP15
import Derived.Test.YtanbhfpalahjcaaGreatP14
import Derived.Test.YtanbhfpalahjcaaGreatP7
set_option linter.unusedVariables false
set_option linter.unusedSimpArgs false
set_option maxRecDepth 100000
set_option maxHeartbeats 16000000
open Bool renaming and_eq_true->Qc,and_true->Pr,eq_false_iff->Qx,false_and->Nm,true_and->Wm
open Go.Ge renaming cr->Sm,ins->Kk
open Go.IntKind renaming i64->Qb,wrap->Qa
open Go.Sx.AV.agg renaming injEq->Pw
open Go.Sx.AV.int renaming injEq->Tj
open Go.Sx.AV.isl renaming injEq->Gw
open Go.Sx.Bd renaming mk->Dh
open Go.Sx.Done renaming mk->Qr
open Go.Sx.PCall renaming freeze->La
open Int renaming le_of_lt->Qg,le_refl->Wv,toNat_natCast->Re
open List renaming drop->Wy,drop_eq_getElem_cons->Ql,drop_of_length_le->Qo,drop_zero->Wd,filter_cons->Lc,flatMap_append->Oe,getElem?_eq_getElem->Qd,getElem?_map->Rn,getElem_mem->Qn,length->Ob,length_append->Rd,length_cons->Qz,length_filter_le->Mm,length_map->Qj,length_nil->Ri,length_range->Su,length_reverse->De,length_singleton->Kr,length_take->Sv,map_append->Ro,map_cons->Sf,map_map->Ov,mem_append->Si,mem_cons->Ra,mem_filter->Nc,mem_map->Ta,mem_of_mem_take->Dc,mem_range->Rx,pairwise_iff_getElem->Ti,range->Rw,range_succ->Nb,take->Wx,take_length->Wo,take_of_length_le->Tg,take_succ_eq_append_getElem->Qv
open List.cons renaming inj->Ws,injEq->Rf
open Nat renaming le_of_ble_eq_true->Qm,le_refl->Qe,lt_or_ge->Tw,min_eq_left->Og,mul_le_mul_right->Rt,zero_add->Sb,zero_le->Qq
open Option.some renaming inj->Sh
open Prod renaming ext->Tp
namespace Go.Proofs.YtanbhfpalahjcaaGreat
open Go Go.Sx Go.Ge
def btP (lo hi:V) (vs:List V) (j:Nat):List V:=lo::hi::(vs.take j).filter fun v=>decide (0<Sm lo v)&&decide (0<Sm v hi)
theorem Zsx {lo hi:V} {vs:List V} {j:Nat} (hj:j<vs.length):btP lo hi vs (j+1)=if (decide (0<Sm lo vs[j])&&decide (0<Sm vs[j] hi))=true then btP lo hi vs j++[vs[j]] else btP lo hi vs j:=by
 unfold btP
 rw [Qv hj,List.filter_append,Lc,List.filter_nil]
 cases (decide (0<Sm lo vs[j])&&decide (0<Sm vs[j] hi))<;>simp
theorem Zmt (lo hi:V) (vs:List V) (j:Nat):(btP lo hi vs j).length<=vs.length+2:=by
 unfold btP
 have:=Mm (fun v=>decide (0<Sm lo v)&&decide (0<Sm v hi)) (vs.take j)
 have h2:(vs.take j).length<=vs.length:=by rw [Sv]; omega
 simp only [Qz]
 omega
def gy (n0 n1 es k:Nat) (els:List (List AV)) (z:List (Nat × ABlk)):List (Nat × ABlk):=match k with
 | 0=>(n0,.row es els true true)::z
 | _=>(n1,.row es els true true)::z
def gw (n0 n1 k len:Nat):AV:=match k with
 | 0=>.asl n0 0 len
 | _=>.asl n1 0 len
theorem e90 {h:Hal} (hf:h.few) (g:h.fine) (hS:SortsK Tryz.prog 215 2) {m:Bm} (G:GoodB h m) (hlen:m.ws.length<4):PCall Tryz.prog 90 [h.av,.agg (bmA m)] ⟨.isl 8 ((behB h.cs m).map bmA),[]⟩:=by
 have B:=Zsz g G hlen
 have hgood:=Zfi g G hlen
 obtain ⟨w,enx,_⟩:=G.sec
 have e2:m.nx.toNat=w:=by omega
 rw [e2] at B
 have hT:=fun ys=>Ye5 g B (ys:=ys)
 obtain ⟨s1,_,s3,_⟩:=Zf3 g B
 have hL:∀ l,some w=some l->l<h.cs.length:=fun l q=>by cases q; exact B.wl
 have mlo:=Zvs (h:=h) (w:=w) (v:=m.b) (Zd4 G.bb)
 have mhi:=Zvs (h:=h) (w:=w) (v:=m.a) (Zd4 G.ba)
 have hob:OB m.o:=⟨by have:=G.ox; omega,by have:=G.ox; omega⟩
 have c81:=e81i hf g B.wl hob
 have c120:=e120 (ws:=m.ws) (by omega)
 have hRB:behB h.cs m=(Rw ((tB h.cs (imgO h.cs w m.o) w (imgV h.cs w m.b) (imgV h.cs w m.a)).length-1)).map fun i=>⟨m.ws++[m.nx],imgO h.cs w m.o,getV (tB h.cs (imgO h.cs w m.o) w (imgV h.cs w m.b) (imgV h.cs w m.a)) i,getV (tB h.cs (imgO h.cs w m.o) w (imgV h.cs w m.b) (imgV h.cs w m.a)) (i+1),nxtV h.cs (imgO h.cs w m.o) (some w) (addV (getV (tB h.cs (imgO h.cs w m.o) w (imgV h.cs w m.b) (imgV h.cs w m.a)) i) (getV (tB h.cs (imgO h.cs w m.o) w (imgV h.cs w m.b) (imgV h.cs w m.a)) (i+1)))⟩:=by
  unfold behB
  rw [e2]
 have hit:=Zvf hf g B.ob hL
 have hln:=Ziw g (imgO h.cs w m.o) (some w)
 have c170:=e170 h (imgO h.cs w m.o).1 (imgO h.cs w m.o).2 (laI (some w))
 have hvs:=fun v=>Zaz g B.ob (L:=some w) hL (w:=v)
 have hlw:Xc (m.ws++[m.nx])=some w:=by rw [enx]; exact Zjm _ _
 have hW:∀ v∈Vh h.cs (imgO h.cs w m.o) (some w),v≠(0,0)/\Vb v:=fun v hv=>by
  obtain ⟨j,hj,e,h1,_⟩:=(hvs v).1 hv
  refine ⟨h1,Zd4 ?_⟩
  rw [e,Zlm _ hj]
  exact Zcy g B.ob (Qn hj)
 have hbl:btwL h.cs (imgO h.cs w m.o) w (imgV h.cs w m.b) (imgV h.cs w m.a)=(Vh h.cs (imgO h.cs w m.o) (some w)).filter fun v=>decide (0<Sm (imgV h.cs w m.b) v)&&decide (0<Sm v (imgV h.cs w m.a)):=rfl
 have hbeam:=fun (a b:V) (q:(g1 a/\g1 b)/\(((-50000<=a.1/\a.1<=50000)/\(-50000<=a.2/\a.2<=50000))/\((-50000<=b.1/\b.1<=50000)/\(-50000<=b.2/\b.2<=50000)))/\LP h.cs (imgO h.cs w m.o) (Xc (m.ws++[m.nx])) (addV a b))=>e172 hf g (ws:=m.ws++[m.nx]) B.ob (by rw [Rd,Kr]; omega) (by
   intro x hx
   rcases Si.1 hx with q|q
   ·exact (G.ws x q).1
   ·rw [List.mem_singleton.1 q]; omega) q.1.1 q.1.2 q.2.1.1 q.2.1.2 q.2.2
 have k82:=Yfc hf g B.wl Ze
 have b0:=B.pos
 have b1:=B.gl
 have b2:=B.gh
 have b3:=Zd4 B.bl
 have b4:=Zd4 B.bh
 generalize hvsd:Vh h.cs (imgO h.cs w m.o) (some w)=vs at *
 generalize hBL:btwL h.cs (imgO h.cs w m.o) w (imgV h.cs w m.b) (imgV h.cs w m.a)=BL at *
 generalize hTT:tB h.cs (imgO h.cs w m.o) w (imgV h.cs w m.b) (imgV h.cs w m.a)=T at *
 generalize hio:imgO h.cs w m.o=io at *
 generalize hlo:imgV h.cs w m.b=lo at *
 generalize hhi:imgV h.cs w m.a=hi at *
 have hk:PCOK Tryz.prog (ins 81 (one [h.av,I w,P2 m.o.1 m.o.2] ⟨P2 io.1 io.2,[]⟩) (ins 43 rWy (ins 170 (one [h.av,P2 io.1 io.2,I (laI (some w))] ⟨.func 218 [] (capS h io.1 io.2 (laI (some w))),[]⟩) (ins 54 rBt (ins 214 rTu (ins 120 (one [wsA m.ws] (clR m.ws)) (ins 172 (rBm h (m.ws++[m.nx]) io (nxtV h.cs io (Xc (m.ws++[m.nx])))) (ins 82 (rMv h w) pt0)))))))) :=
  Zf c81 (Zk (fun a res h=>by unfold rWy at h; split at h<;>cases h; exact d93 _ _) (Zf c170 (Yfk (Zvn (Zf c120 (Zx (fun q hq=>hbeam q.1 q.2 hq) k82))))))
 have hbw:∀ v∈vs,btW lo hi v=(decide (0<Sm lo v)&&decide (0<Sm v hi)):=fun v hv=>Yci b3 b4 (hW v hv).2 b0
 refine La (res:=⟨.asl 0 0 ((behB h.cs m).map bmA).length,[(8,(behB h.cs m).map bmA)]⟩) ?_ ⟨rfl,rfl,rfl⟩
 rw [hRB] at hgood ⊢
 clear hRB c81 c120 c170 k82 hln hvs
 generalize hF:(fun i=>(⟨m.ws++[m.nx],io,getV T i,getV T (i+1),nxtV h.cs io (some w) (addV (getV T i) (getV T (i+1)))⟩:Bm))=F at *
 obtain ⟨ws,o,a,b,nx⟩:=m
 dsimp only at *
 subst enx
 have hl1:laI (some w)=(w:Int):=rfl
 rw [hl1] at *
 obtain ⟨iox,ioy⟩:=io
 obtain ⟨lx,ly⟩:=lo
 obtain ⟨hx,hy⟩:=hi
 obtain ⟨ox,oy⟩:=o
 obtain ⟨ax,ay⟩:=a
 obtain ⟨bx,by'⟩:=b
 dsimp only at *
 generalize rMv h w=TM at *
 unfold bmA
 dsimp only
 generalize hTB:rBm h (ws++[(w:Int)]) (iox,ioy) (nxtV h.cs (iox,ioy) (Xc (ws++[(w:Int)])))=TB at *
 generalize hwA:wsA ws=A at *
 have hA:(A = .nils/\clR ws=⟨.nils,[]⟩/\wsA (ws++[(w:Int)]) = .isl 1 [[I (w:Int)]])\/∃ E:List (List AV),A = .isl 1 E/\clR ws=⟨.asl 0 0 E.length,[(1,E)]⟩/\wsA (ws++[(w:Int)]) = .isl 1 (Wx (E.length+[[I (w:Int)]].length) (Wy 0 (E++[[I (w:Int)]])))/\E.length<1000:=by
  cases ws with
  | nil=>exact .inl ⟨hwA.symm,rfl,rfl⟩
  | cons x r=>exact .inr ⟨nl (x::r),hwA.symm,rfl,by unfold wsA nl; simp [Tg],by rw [Yv]; omega⟩
 have hF2:∀ i,F i=(⟨ws++[(w:Int)],(iox,ioy),getV T i,getV T (i+1),nxtV h.cs (iox,ioy) (some w) (addV (getV T i) (getV T (i+1)))⟩:Bm):=fun i=>by rw [<-hF]
 clear hF
 generalize hcl:clR ws=cl at *
 have hlv:vs.length<=12:=by rw [<-hvsd]; exact Ziw g _ _
 rcases hA with ⟨rfl,rfl,ew⟩|⟨E,rfl,rfl,ew,hEl⟩
 ·refine bs.pv (sx:=Yg) hk Tryz.func90 (by kernel_rfl) (by kernel_rfl) rfl ?_
  repeat'(first|refine wk3 ?_|(refine wk2 ?_ ?_<;>intro _)|fail)
  refine Rg.ren (env2:=[(2,.ptr 0 0 0),(3,.ptr 1 0 0),(5,.ptr 2 0 0),(6,.ptr 17 0 0),(7,.ptr 18 0 0),(8,.ptr 22 0 0),(39,.func 218 [] (capS h iox ioy (laI (some w))))]) (σ2:=⟨[(21,.row 2 [[I lx,I ly],[I hx,I hy]] true true),(22,.row 1 [[.asl 21 0 2]] true false),(18,.row 2 [[I hx,I hy]] true false),(17,.row 2 [[I lx,I ly]] true false),(2,.row 2 [[I iox,I ioy]] true false),(1,.row 8 [[.nils,I ox,I oy,I ax,I ay,I bx,I by',I (w:Int)]] true false),(0,.row 9 [h.cells] true false)],23⟩) (Ren.of [] rfl (kps) (kps)) ?_
  refine rngV hit rfl rfl rfl rfl (Zl1 (S:=Nat × Nat × Nat × List (List AV)) (fun s=>gy 21 23 2 s.1 s.2.2.2 [(22,.row 1 [[gw 21 23 s.1 s.2.2.1]] true false),(18,.row 2 [[I hx,I hy]] true false),(17,.row 2 [[I lx,I ly]] true false),(2,.row 2 [[I iox,I ioy]] true false),(1,.row 8 [[.nils,I ox,I oy,I ax,I ay,I bx,I by',I (w:Int)]] true false),(0,.row 9 [h.cells] true false)]) 23 (fun s=>nm2 23 24 s.1)
   (fun xs s=>s.2.1<=vs.length/\xs=(vs.drop s.2.1).map wy/\s.2.2.1=s.2.2.2.length/\s.2.2.2=(btP (lx,ly) (hx,hy) vs s.2.1).map wv) ?_ ?_ _ (0,0,2,[[I lx,I ly],[I hx,I hy]]) ⟨Qq _,rfl,rfl,rfl⟩)
  ·rintro x xs ⟨k,j,len,els⟩ ⟨hj,hxx,hlen,he⟩
   dsimp only at hj hxx hlen he ⊢
   have hlt:j<vs.length:=by
    rcases Tw j vs.length with c|c
    ·exact c
    ·rw [Qo c] at hxx; cases hxx
   rw [Ql hlt,Sf] at hxx
   obtain ⟨rfl,rfl⟩:=Ws hxx
   have e4:els.length<2000:=by
    have:=Zmt (lx,ly) (hx,hy) vs j
    rw [he,Qj]; omega
   have e5:=Zsx (lo:=(lx,ly)) (hi:=(hx,hy)) hlt
   have e6:=hbw vs[j] (Qn hlt)
   rw [<-e6] at e5
   clear e6
   generalize vs[j]=v at *
   obtain ⟨vx,vy⟩:=v
   refine ⟨rfl,?_⟩
   cases k with
   | zero =>
    refine bs.av (sx:=Yg) hk ?_
    repeat'(first|refine wk3 ?_|(refine wk2 ?_ ?_<;>intro _)|fail)
    refine Dh (bs.av (sx:=Yg) hk ?_)
    repeat'(first|refine wk3 ?_|(refine wk2 ?_ ?_<;>intro _)|fail)
    ·rename_i q
     rw [if_pos q] at e5
     exact Qr ⟨(0+1,j+1,_,els++[wv (vx,vy)]),[(23,25)],rfl,kps,hlt,rfl,by exact List.length_append.symm,by rw [e5,Ro,<-he]; rfl⟩
    ·rename_i q
     rw [if_neg (by rw [q]; decide)] at e5
     exact Qr ⟨(0,j+1,len,els),[],rfl,kps,hlt,rfl,hlen,by rw [e5]; exact he⟩
   | succ k =>
    refine bs.av (sx:=Yg) hk ?_
    repeat'(first|refine wk3 ?_|(refine wk2 ?_ ?_<;>intro _)|fail)
    refine Dh (bs.av (sx:=Yg) hk ?_)
    repeat'(first|refine wk3 ?_|(refine wk2 ?_ ?_<;>intro _)|fail)
    ·rename_i q
     rw [if_pos q] at e5
     exact Qr ⟨(k+1,j+1,_,els++[wv (vx,vy)]),[(23,26)],rfl,kps,hlt,rfl,by exact List.length_append.symm,by rw [e5,Ro,<-he]; rfl⟩
    ·rename_i q
     rw [if_neg (by rw [q]; decide)] at e5
     exact Qr ⟨(k+1,j+1,len,els),[(23,23)],rfl,kps,hlt,rfl,hlen,by rw [e5]; exact he⟩
  ·rintro ⟨k,j,len,els⟩ ⟨hj,hxx,hlen,he⟩
   dsimp only at hj hxx hlen he ⊢
   have hlt:vs.length<=j:=by
    rcases Tw j vs.length with c|c
    ·rw [Ql c] at hxx; cases hxx
    ·exact c
   have he2:els=((lx,ly)::(hx,hy)::BL).map wv:=by
    rw [he,hbl]
    unfold btP
    rw [Tg hlt]
   have hW2:∀ v∈(lx,ly)::(hx,hy)::BL,v≠(0,0)/\Vb v:=fun v hv=>by
    rcases Ra.1 hv with q|hv
    ·rw [q]; exact ⟨Zdw b1,b3⟩
    ·rcases Ra.1 hv with q|hv
     ·rw [q]; exact ⟨Zdw b2,b4⟩
     ·rw [hbl] at hv
      exact hW v ((Nc.1 hv).1)
   have hRd:((lx,ly)::(hx,hy)::BL).map red=(lx,ly)::(hx,hy)::BL.map red:=by
    rw [Sf,Sf,Zep b1,Zep b2]
   have hIn:∀ x∈((lx,ly)::(hx,hy)::BL).map red,g1 x/\Vb x/\inS (lx,ly) (hx,hy) x:=fun x hx=>by
    obtain ⟨v,hv,rfl⟩:=Ta.1 hx
    obtain ⟨q1,q2⟩:=hW2 v hv
    obtain ⟨gg,_,_,_,q5,_⟩:=Vl q1
    obtain ⟨q6,q7⟩:=Zi4 q1 q2.1 q2.2
    refine ⟨q5,⟨q6,q7⟩,?_⟩
    rcases Ra.1 hv with q|hv
    ·rw [q,Zep b1]; exact ⟨by rw [Zj]; exact Wv 0,Qg b0⟩
    ·rcases Ra.1 hv with q|hv
     ·rw [q,Zep b2]; exact ⟨Qg b0,by rw [Zj]; exact Wv 0⟩
     ·rw [hbl] at hv
      have:=(Nc.1 hv).2
      rw [Qc,decide_eq_true_eq,decide_eq_true_eq] at this
      exact ⟨Qg ((Ub q1).2.2 this.1),Qg ((Ub q1).1.2 this.2)⟩
   have lv2:((lx,ly)::(hx,hy)::BL).length<1000:=by
    have:=Zmt (lx,ly) (hx,hy) vs j
    rw [he2,Qj] at hlen
    have h2:((lx,ly)::(hx,hy)::BL).length=(btP (lx,ly) (hx,hy) vs j).length:=by
     have:=congrArg Ob (he2.symm.trans he)
     rwa [Qj,Qj] at this
    omega
   clear he hxx hlt hj
   subst he2
   rw [Qj] at hlen
   subst hlen
   generalize hv2:(lx,ly)::(hx,hy)::BL=v2 at *
   cases k with
   | zero =>
    repeat'(first|refine wk3 ?_|(refine wk2 ?_ ?_<;>intro _)|fail)
    refine bs.sv (sx:=Yg) hk Tryz.func168 (by kernel_rfl) (by kernel_rfl) ?_
    repeat'(first|refine wk3 ?_|(refine wk2 ?_ ?_<;>intro _)|fail)
    refine Zn (S:=Nat × Int × List (List AV)) (fun t=>v2.length-t.1) (fun t=>[(0,.asl 21 0 v2.length),(1,.func 173 [] []),(7,.asl 21 0 v2.length),(8,I v2.length),(9,I t.2.1)])
     (fun t=>[(21,.row 2 t.2.2 true true),(22,.row 1 [[.asl 21 0 v2.length]] true false),(18,.row 2 [[I hx,I hy]] true false),(17,.row 2 [[I lx,I ly]] true false),(2,.row 2 [[I iox,I ioy]] true false),(1,.row 8 [[.nils,I ox,I oy,I ax,I ay,I bx,I by',I (w:Int)]] true false),(0,.row 9 [h.cells] true false)]) 24 24 (fun t=>t.2.1=t.1/\t.1<=v2.length/\t.2.2=(mixR v2 t.1).map wv) (0,0,v2.map wv) ⟨rfl,Qq _,rfl⟩ (Qm rfl) [] rfl (kps) (kps) ?_
    rintro ⟨j,i,els⟩ ⟨hi,hj,hels⟩
    dsimp only at hi hj hels ⊢
    subst hi
    have lel:els.length=v2.length:=by rw [hels,Qj,Zfw]
    by_cases hlt:j<v2.length
    ·have e1:=Zfx hlt
     have e2:=Zfv hlt
     rw [<-hels] at e1 e2
     have t1:=hW2 v2[j] (Qn hlt)
     have t2:=Ze7 t1.1 t1.2
     generalize v2[j]=v at *
     generalize red v=u at *
     obtain ⟨vx,vy⟩:=v
     obtain ⟨ux,uy⟩:=u
     refine bs.av (sx:=Yg) hk ?_
     repeat'(first|refine wk3 ?_|(refine wk2 ?_ ?_<;>intro _)|fail)
     exact Qr ⟨(j+1,Qa Qb ((j:Int)+1),Zck els (0+((j:Nat):Int).toNat) [I ux,I uy]),[],rfl,kps,kps,⟨Zb (by omega),hlt,e2⟩,by dsimp only; omega⟩
    have hjn:j=v2.length:=by omega
    subst hjn
    rw [Zfy] at hels
    obtain ⟨xs,hxs⟩:=subs (P:=fun v=>g1 v/\Vb v/\inS (lx,ly) (hx,hy) v) (v2.map red) hIn
    have hx2:els=xs.map (fun b:Ts (lx,ly) (hx,hy)=>wv b.1):=by rw [hels,<-hxs,Ov]; rfl
    have lxs:xs.length=v2.length:=by
     have:=congrArg Ob hxs
     simpa using this
    clear hels
    subst hx2
    refine bs.av (sx:=Yg) hk ?_
    repeat'(first|refine wk3 ?_|(refine wk2 ?_ ?_<;>intro _)|fail)
    rw [<-lxs]
    refine Zfl Zv9 hS (by decide) (Zgd Tryz.func173 (by kernel_rfl) (by kernel_rfl)) (fun b:Ts (lx,ly) (hx,hy)=>wv b.1) (fun _=>rfl) (fun _=>rfl) (fun _=>rfl) (fun a b:Ts (lx,ly) (hx,hy)=>-(Sm a.1 b.1)) (fun a _ b _=>Zfp (e173 a.2.2.1 b.2.2.1)) (Zmr b0) (by omega) rfl fun ys hp hs=>?_
    have hys:=hT ys (by rw [<-hRd,<-hxs]; exact hp.map _) hs
    have e5:ys.map (fun b:Ts (lx,ly) (hx,hy)=>wv b.1)=T.map wv:=by rw [<-hys,Ov]; rfl
    rw [e5]
    repeat'(first|refine wk3 ?_|(refine wk2 ?_ ?_<;>intro _)|fail)
    have lT:(T.map wv).length=T.length:=Qj _
    have lx2:xs.length=T.length:=by rw [<-hys,Qj]; exact hp.length_eq.symm
    have hnd:∀ i,0<i->i<T.length->T[i]?≠T[i-1]?:=by
     intro i h0 h1 q
     have:=Ti.1 s1 (i-1) i (by omega) h1 (by omega)
     rw [Qd h1,Qd (by omega:i-1<_)] at q
     rw [Sh q,Zj] at this
     omega
    have h2T:2<=T.length:=by
     rw [<-hTT]
     unfold tB
     simp only [Qz,Rd,Ri]
     omega
    clear hys e5 hp hs hT hxs hit hW
    rw [lx2]
    refine bs.sv (sx:=Yg) hk Tryz.func216 (by kernel_rfl) (by kernel_rfl) ?_
    repeat'(first|refine wk3 ?_|(refine wk2 ?_ ?_<;>intro _)|fail)
    have hT1000:T.length<1000:=by omega
    refine Zn (S:=Nat × Int) (fun t=>T.length-t.1) (fun t=>[(0,.asl 21 0 T.length),(3,I t.2)]) (fun _=>[(21,.row 2 (T.map wv) true true),(22,.row 1 [[.asl 21 0 T.length]] true false),(18,.row 2 [[I hx,I hy]] true false),(17,.row 2 [[I lx,I ly]] true false),(2,.row 2 [[I iox,I ioy]] true false),(1,.row 8 [[.nils,I ox,I oy,I ax,I ay,I bx,I by',I (w:Int)]] true false),(0,.row 9 [h.cells] true false)]) 24 24
     (fun t=>t.2=t.1/\1<=t.1/\t.1<=T.length) (1,1) ⟨rfl,Qe _,by omega⟩ (Qm rfl) [] rfl (kps) (kps) ?_
    rintro ⟨j,i⟩ ⟨hi,hj0,hj⟩
    dsimp only at hi hj0 hj ⊢
    subst hi
    by_cases hlt:j<T.length
    ·have e1:=Xg hlt
     have e2:=Xg (T:=T) (j:=j-1) (by omega)
     rw [show (((j-1:Nat):Int))=Qa Qb ((j:Int)-1) by rw [W_eq (by omega) (by omega)]; omega] at e2
     have hd:=hnd j (by omega) hlt
     rw [Qd hlt,Qd (by omega:j-1<T.length)] at hd
     have w1:decide (0<=Qa Qb ((j:Int)-1))=true:=by rw [W_eq (by omega) (by omega)]; exact decide_eq_true (by omega)
     have w2:decide (Qa Qb ((j:Int)-1)<(T.length:Int))=true:=by rw [W_eq (by omega) (by omega)]; exact decide_eq_true (by omega)
     have hz:Qa Qb ((j:Int)-1)=(j:Int)-1:=W_eq (by omega) (by omega)
     generalize T[j]=u at *
     generalize T[j-1]'(by omega)=v at *
     obtain ⟨ux,uy⟩:=u
     obtain ⟨vx,vy⟩:=v
     have hraw:(decide (ux=vx)&&(decide (uy=vy)&&true))=false:=by
      rw [Qx]
      intro q
      simp only [Pr,Qc,decide_eq_true_eq] at q
      exact hd (by rw [q.1,q.2])
     clear hd
     refine bs.av (sx:=Yg) hk ?_
     repeat'(first|refine wk3 ?_|(refine wk2 ?_ ?_<;>intro _)|fail)
     all_goals first
      | exact Qr ⟨(j+1,Qa Qb ((j:Int)+1)),[],rfl,kps,kps,⟨Zb (by omega),by omega,hlt⟩,by dsimp only; omega⟩
      | (exfalso; clear hk; simp_all; done)
    have hjn:j=T.length:=by omega
    subst hjn
    refine bs.av (sx:=Yg) hk ?_
    repeat'(first|refine wk3 ?_|(refine wk2 ?_ ?_<;>intro _)|fail)
    have hlT:(Rw (T.length-1)).length=T.length-1:=Su
    have eT:Qa Qb ((T.length:Int)-1)=((T.length-1:Nat):Int):=by rw [W_eq (by omega) (by omega)]; omega
    have hgd:=fun i (hi:i<T.length-1)=>(hgood _ (Ta.2 ⟨i,Rx.2 hi,rfl⟩)).1
    rw [eT]
    refine Zn (S:=Nat × Nat × Int × Nat × List (List AV)) (fun t=>T.length-t.2.1) (fun t=>[(2,.ptr 0 0 0),(3,.ptr 1 0 0),(5,.ptr 2 0 0),(8,.ptr 22 0 0),(10,gv 24 t.1 t.2.2.2.1),(53,I ((T.length-1:Nat):Int)),(54,I t.2.2.1)])
     (fun t=>gz 24 8 t.1 t.2.2.2.2 [(21,.row 2 (T.map wv) true true),(22,.row 1 [[.asl 21 0 T.length]] true false),(18,.row 2 [[I hx,I hy]] true false),(17,.row 2 [[I lx,I ly]] true false),(2,.row 2 [[I iox,I ioy]] true false),(1,.row 8 [[.nils,I ox,I oy,I ax,I ay,I bx,I by',I (w:Int)]] true false),(0,.row 9 [h.cells] true false)]) 24 25
     (fun t=>t.1=t.2.1/\t.2.2.1=t.2.1/\t.2.1<=T.length-1/\t.2.2.2.1=t.2.2.2.2.length/\t.2.2.2.2=((Rw t.2.1).map F).map bmA) (0,0,0,0,[]) ⟨rfl,rfl,Qq _,rfl,rfl⟩ (Qm rfl) [] rfl (kps) (kps) ?_
    rintro ⟨k,j,i,len,els⟩ ⟨hkj,hi,hj,hlen,hels⟩
    dsimp only at hkj hi hj hlen hels ⊢
    subst hi
    by_cases hlt:j<T.length-1
    ·have gm:=hgd j hlt
     have em:=hF2 j
     have hj1:j<T.length:=by omega
     have hj2:j+1<T.length:=by omega
     have hq:=Xp hj1
     have hq2:=Xp hj2
     have eW:Qa Qb ((j:Int)+1)=((j+1:Nat):Int):=Zb (by omega)
     have e1:=Xg hj1
     have e2:=Xg hj2
     have dD:decide (0<=Qa Qb ((j:Int)+1)/\Qa Qb ((j:Int)+1)<(T.length:Int))=true:=by
      rw [eW]
      exact decide_eq_true (by omega)
     have e3:((Rw (j+1)).map F).map bmA=els++[bmA (F j)]:=by
      rw [Nb,Ro,Ro,<-hels]
      rfl
     generalize F j=m at *
     have hc:TB [h.av,wsA (ws++[(w:Int)]),P2 iox ioy,P2 m.a.1 m.a.2,P2 m.b.1 m.b.2]=some ⟨.agg (bmA m),[]⟩:=by
      obtain ⟨v,env,KK⟩:=gm.sec
      have hLP:LP h.cs (iox,ioy) (Xc (ws++[(w:Int)])) (addV m.a m.b):=by
       have ho:m.o=(iox,ioy):=by rw [em]
       have hws:m.ws=ws++[(w:Int)]:=by rw [em]
       rw [ho,hws] at KK
       have hab:=KK.ab
       have d1:0<Sm m.a (addV m.a m.b):=by rw [Vo,Xm,Zj]; omega
       have d2:0<Sm (addV m.a m.b) m.b:=by rw [Vo,Yp,Zj]; omega
       intro l q
       obtain ⟨q1,t,q2,q3⟩:=KK.lp l q
       exact ⟨q1,t,q2,(q3 _ d1 d2).n⟩
      have:=Zi6 (h:=h) (ws:=ws++[(w:Int)]) (o:=(iox,ioy)) (nx:=nxtV h.cs (iox,ioy) (Xc (ws++[(w:Int)]))) (a:=m.a) (b:=m.b) ⟨gm.ga,gm.gb⟩ ⟨gm.ba,gm.bb⟩ hLP
      rw [hTB] at this
      rw [this]
      congr 3
      rw [em,hlw]
     have ea:T[j]=m.a:=by rw [em,<-hq]
     have eb:T[j+1]=m.b:=by rw [em,<-hq2]
     rw [ea] at e1
     rw [eb,<-eW] at e2
     have l4:els.length<2000:=by rw [hels,Qj,Qj,Su]; omega
     have hbA:bmA m=[wsA (ws++[(w:Int)]),I iox,I ioy,I m.a.1,I m.a.2,I m.b.1,I m.b.2,I m.nx]:=by unfold bmA; rw [em]
     rw [hbA] at hc e3
     rw [ew] at hc e3
     generalize m.nx=nx at *
     generalize hma:m.a=aa at *
     generalize hmb:m.b=bb at *
     obtain ⟨aax,aay⟩:=aa
     obtain ⟨bbx,bby⟩:=bb
     dsimp only at e1 e2 hc e3
     clear em gm hma hmb hbA hq hq2 ea eb
     cases k with
     | zero =>
      have hz:els=[]:=by rw [hels,<-hkj]; rfl
      subst hz
      refine bs.av (sx:=Yg) hk ?_
      repeat'(first|refine wk3 ?_|(refine wk2 ?_ ?_<;>intro _)|fail)
      exact Qr ⟨(1,j+1,_,_,[[.isl 1 [[I (w:Int)]],I iox,I ioy,I aax,I aay,I bbx,I bby,I nx]]),[(24,46)],rfl,kps,kps,⟨by show 1=j+1; omega,Zb (by omega),hlt,rfl,e3.symm⟩,by show T.length-(j+1)<T.length-j; omega⟩
     | succ k =>
      refine bs.av (sx:=Yg) hk ?_
      repeat'(first|refine wk3 ?_|(refine wk2 ?_ ?_<;>intro _)|fail)
      refine Xy (ys:=[[.isl 1 [[I (w:Int)]],I iox,I ioy,I aax,I aay,I bbx,I bby,I nx]]) rfl rfl rfl rfl rfl rfl rfl rfl rfl rfl (by simp) hlen (by simp only [Qz,Ri]; omega) ?_
      repeat'(first|refine wk3 ?_|(refine wk2 ?_ ?_<;>intro _)|fail)
      exact Qr ⟨(k+2,j+1,_,_,els++[[.isl 1 [[I (w:Int)]],I iox,I ioy,I aax,I aay,I bbx,I bby,I nx]]),[(24,46)],rfl,kps,kps,⟨by show k+2=j+1; omega,Zb (by omega),hlt,by exact List.length_append.symm,e3.symm⟩,by show T.length-(j+1)<T.length-j; omega⟩
    have hjn:j=T.length-1:=by omega
    subst hjn
    subst hels
    obtain ⟨q,rfl⟩:∃ q,k=q+1:=⟨k-1,by omega⟩
    refine bs.av (sx:=Yg) hk ?_
    repeat'(first|refine wk3 ?_|(refine wk2 ?_ ?_<;>intro _)|fail)
    exact Yk [24] rfl (by rw [hlen]; rfl) rfl
   | succ k =>
    repeat'(first|refine wk3 ?_|(refine wk2 ?_ ?_<;>intro _)|fail)
    refine bs.sv (sx:=Yg) hk Tryz.func168 (by kernel_rfl) (by kernel_rfl) ?_
    repeat'(first|refine wk3 ?_|(refine wk2 ?_ ?_<;>intro _)|fail)
    refine Zn (S:=Nat × Int × List (List AV)) (fun t=>v2.length-t.1) (fun t=>[(0,.asl 23 0 v2.length),(1,.func 173 [] []),(7,.asl 23 0 v2.length),(8,I v2.length),(9,I t.2.1)])
     (fun t=>[(23,.row 2 t.2.2 true true),(22,.row 1 [[.asl 23 0 v2.length]] true false),(18,.row 2 [[I hx,I hy]] true false),(17,.row 2 [[I lx,I ly]] true false),(2,.row 2 [[I iox,I ioy]] true false),(1,.row 8 [[.nils,I ox,I oy,I ax,I ay,I bx,I by',I (w:Int)]] true false),(0,.row 9 [h.cells] true false)]) 24 24 (fun t=>t.2.1=t.1/\t.1<=v2.length/\t.2.2=(mixR v2 t.1).map wv) (0,0,v2.map wv) ⟨rfl,Qq _,rfl⟩ (Qm rfl) [] rfl (kps) (kps) ?_
    rintro ⟨j,i,els⟩ ⟨hi,hj,hels⟩
    dsimp only at hi hj hels ⊢
    subst hi
    have lel:els.length=v2.length:=by rw [hels,Qj,Zfw]
    by_cases hlt:j<v2.length
    ·have e1:=Zfx hlt
     have e2:=Zfv hlt
     rw [<-hels] at e1 e2
     have t1:=hW2 v2[j] (Qn hlt)
     have t2:=Ze7 t1.1 t1.2
     generalize v2[j]=v at *
     generalize red v=u at *
     obtain ⟨vx,vy⟩:=v
     obtain ⟨ux,uy⟩:=u
     refine bs.av (sx:=Yg) hk ?_
     repeat'(first|refine wk3 ?_|(refine wk2 ?_ ?_<;>intro _)|fail)
     exact Qr ⟨(j+1,Qa Qb ((j:Int)+1),Zck els (0+((j:Nat):Int).toNat) [I ux,I uy]),[],rfl,kps,kps,⟨Zb (by omega),hlt,e2⟩,by dsimp only; omega⟩
    have hjn:j=v2.length:=by omega
    subst hjn
    rw [Zfy] at hels
    obtain ⟨xs,hxs⟩:=subs (P:=fun v=>g1 v/\Vb v/\inS (lx,ly) (hx,hy) v) (v2.map red) hIn
    have hx2:els=xs.map (fun b:Ts (lx,ly) (hx,hy)=>wv b.1):=by rw [hels,<-hxs,Ov]; rfl
    have lxs:xs.length=v2.length:=by
     have:=congrArg Ob hxs
     simpa using this
    clear hels
    subst hx2
    refine bs.av (sx:=Yg) hk ?_
    repeat'(first|refine wk3 ?_|(refine wk2 ?_ ?_<;>intro _)|fail)
    rw [<-lxs]
    refine Zfl Zv9 hS (by decide) (Zgd Tryz.func173 (by kernel_rfl) (by kernel_rfl)) (fun b:Ts (lx,ly) (hx,hy)=>wv b.1) (fun _=>rfl) (fun _=>rfl) (fun _=>rfl) (fun a b:Ts (lx,ly) (hx,hy)=>-(Sm a.1 b.1)) (fun a _ b _=>Zfp (e173 a.2.2.1 b.2.2.1)) (Zmr b0) (by omega) rfl fun ys hp hs=>?_
    have hys:=hT ys (by rw [<-hRd,<-hxs]; exact hp.map _) hs
    have e5:ys.map (fun b:Ts (lx,ly) (hx,hy)=>wv b.1)=T.map wv:=by rw [<-hys,Ov]; rfl
    rw [e5]
    repeat'(first|refine wk3 ?_|(refine wk2 ?_ ?_<;>intro _)|fail)
    have lT:(T.map wv).length=T.length:=Qj _
    have lx2:xs.length=T.length:=by rw [<-hys,Qj]; exact hp.length_eq.symm
    have hnd:∀ i,0<i->i<T.length->T[i]?≠T[i-1]?:=by
     intro i h0 h1 q
     have:=Ti.1 s1 (i-1) i (by omega) h1 (by omega)
     rw [Qd h1,Qd (by omega:i-1<_)] at q
     rw [Sh q,Zj] at this
     omega
    have h2T:2<=T.length:=by
     rw [<-hTT]
     unfold tB
     simp only [Qz,Rd,Ri]
     omega
    clear hys e5 hp hs hT hxs hit hW
    rw [lx2]
    refine bs.sv (sx:=Yg) hk Tryz.func216 (by kernel_rfl) (by kernel_rfl) ?_
    repeat'(first|refine wk3 ?_|(refine wk2 ?_ ?_<;>intro _)|fail)
    have hT1000:T.length<1000:=by omega
    refine Zn (S:=Nat × Int) (fun t=>T.length-t.1) (fun t=>[(0,.asl 23 0 T.length),(3,I t.2)]) (fun _=>[(23,.row 2 (T.map wv) true true),(22,.row 1 [[.asl 23 0 T.length]] true false),(18,.row 2 [[I hx,I hy]] true false),(17,.row 2 [[I lx,I ly]] true false),(2,.row 2 [[I iox,I ioy]] true false),(1,.row 8 [[.nils,I ox,I oy,I ax,I ay,I bx,I by',I (w:Int)]] true false),(0,.row 9 [h.cells] true false)]) 24 24
     (fun t=>t.2=t.1/\1<=t.1/\t.1<=T.length) (1,1) ⟨rfl,Qe _,by omega⟩ (Qm rfl) [] rfl (kps) (kps) ?_
    rintro ⟨j,i⟩ ⟨hi,hj0,hj⟩
    dsimp only at hi hj0 hj ⊢
    subst hi
    by_cases hlt:j<T.length
    ·have e1:=Xg hlt
     have e2:=Xg (T:=T) (j:=j-1) (by omega)
     rw [show (((j-1:Nat):Int))=Qa Qb ((j:Int)-1) by rw [W_eq (by omega) (by omega)]; omega] at e2
     have hd:=hnd j (by omega) hlt
     rw [Qd hlt,Qd (by omega:j-1<T.length)] at hd
     have w1:decide (0<=Qa Qb ((j:Int)-1))=true:=by rw [W_eq (by omega) (by omega)]; exact decide_eq_true (by omega)
     have w2:decide (Qa Qb ((j:Int)-1)<(T.length:Int))=true:=by rw [W_eq (by omega) (by omega)]; exact decide_eq_true (by omega)
     have hz:Qa Qb ((j:Int)-1)=(j:Int)-1:=W_eq (by omega) (by omega)
     generalize T[j]=u at *
     generalize T[j-1]'(by omega)=v at *
     obtain ⟨ux,uy⟩:=u
     obtain ⟨vx,vy⟩:=v
     have hraw:(decide (ux=vx)&&(decide (uy=vy)&&true))=false:=by
      rw [Qx]
      intro q
      simp only [Pr,Qc,decide_eq_true_eq] at q
      exact hd (by rw [q.1,q.2])
     clear hd
     refine bs.av (sx:=Yg) hk ?_
     repeat'(first|refine wk3 ?_|(refine wk2 ?_ ?_<;>intro _)|fail)
     all_goals first
      | exact Qr ⟨(j+1,Qa Qb ((j:Int)+1)),[],rfl,kps,kps,⟨Zb (by omega),by omega,hlt⟩,by dsimp only; omega⟩
      | (exfalso; clear hk; simp_all; done)
    have hjn:j=T.length:=by omega
    subst hjn
    refine bs.av (sx:=Yg) hk ?_
    repeat'(first|refine wk3 ?_|(refine wk2 ?_ ?_<;>intro _)|fail)
    have hlT:(Rw (T.length-1)).length=T.length-1:=Su
    have eT:Qa Qb ((T.length:Int)-1)=((T.length-1:Nat):Int):=by rw [W_eq (by omega) (by omega)]; omega
    have hgd:=fun i (hi:i<T.length-1)=>(hgood _ (Ta.2 ⟨i,Rx.2 hi,rfl⟩)).1
    rw [eT]
    refine Zn (S:=Nat × Nat × Int × Nat × List (List AV)) (fun t=>T.length-t.2.1) (fun t=>[(2,.ptr 0 0 0),(3,.ptr 1 0 0),(5,.ptr 2 0 0),(8,.ptr 22 0 0),(10,gv 24 t.1 t.2.2.2.1),(53,I ((T.length-1:Nat):Int)),(54,I t.2.2.1)])
     (fun t=>gz 24 8 t.1 t.2.2.2.2 [(23,.row 2 (T.map wv) true true),(22,.row 1 [[.asl 23 0 T.length]] true false),(18,.row 2 [[I hx,I hy]] true false),(17,.row 2 [[I lx,I ly]] true false),(2,.row 2 [[I iox,I ioy]] true false),(1,.row 8 [[.nils,I ox,I oy,I ax,I ay,I bx,I by',I (w:Int)]] true false),(0,.row 9 [h.cells] true false)]) 24 25
     (fun t=>t.1=t.2.1/\t.2.2.1=t.2.1/\t.2.1<=T.length-1/\t.2.2.2.1=t.2.2.2.2.length/\t.2.2.2.2=((Rw t.2.1).map F).map bmA) (0,0,0,0,[]) ⟨rfl,rfl,Qq _,rfl,rfl⟩ (Qm rfl) [] rfl (kps) (kps) ?_
    rintro ⟨k,j,i,len,els⟩ ⟨hkj,hi,hj,hlen,hels⟩
    dsimp only at hkj hi hj hlen hels ⊢
    subst hi
    by_cases hlt:j<T.length-1
    ·have gm:=hgd j hlt
     have em:=hF2 j
     have hj1:j<T.length:=by omega
     have hj2:j+1<T.length:=by omega
     have hq:=Xp hj1
     have hq2:=Xp hj2
     have eW:Qa Qb ((j:Int)+1)=((j+1:Nat):Int):=Zb (by omega)
     have e1:=Xg hj1
     have e2:=Xg hj2
     have dD:decide (0<=Qa Qb ((j:Int)+1)/\Qa Qb ((j:Int)+1)<(T.length:Int))=true:=by
      rw [eW]
      exact decide_eq_true (by omega)
     have e3:((Rw (j+1)).map F).map bmA=els++[bmA (F j)]:=by
      rw [Nb,Ro,Ro,<-hels]
      rfl
     generalize F j=m at *
     have hc:TB [h.av,wsA (ws++[(w:Int)]),P2 iox ioy,P2 m.a.1 m.a.2,P2 m.b.1 m.b.2]=some ⟨.agg (bmA m),[]⟩:=by
      obtain ⟨v,env,KK⟩:=gm.sec
      have hLP:LP h.cs (iox,ioy) (Xc (ws++[(w:Int)])) (addV m.a m.b):=by
       have ho:m.o=(iox,ioy):=by rw [em]
       have hws:m.ws=ws++[(w:Int)]:=by rw [em]
       rw [ho,hws] at KK
       have hab:=KK.ab
       have d1:0<Sm m.a (addV m.a m.b):=by rw [Vo,Xm,Zj]; omega
       have d2:0<Sm (addV m.a m.b) m.b:=by rw [Vo,Yp,Zj]; omega
       intro l q
       obtain ⟨q1,t,q2,q3⟩:=KK.lp l q
       exact ⟨q1,t,q2,(q3 _ d1 d2).n⟩
      have:=Zi6 (h:=h) (ws:=ws++[(w:Int)]) (o:=(iox,ioy)) (nx:=nxtV h.cs (iox,ioy) (Xc (ws++[(w:Int)]))) (a:=m.a) (b:=m.b) ⟨gm.ga,gm.gb⟩ ⟨gm.ba,gm.bb⟩ hLP
      rw [hTB] at this
      rw [this]
      congr 3
      rw [em,hlw]
     have ea:T[j]=m.a:=by rw [em,<-hq]
     have eb:T[j+1]=m.b:=by rw [em,<-hq2]
     rw [ea] at e1
     rw [eb,<-eW] at e2
     have l4:els.length<2000:=by rw [hels,Qj,Qj,Su]; omega
     have hbA:bmA m=[wsA (ws++[(w:Int)]),I iox,I ioy,I m.a.1,I m.a.2,I m.b.1,I m.b.2,I m.nx]:=by unfold bmA; rw [em]
     rw [hbA] at hc e3
     rw [ew] at hc e3
     generalize m.nx=nx at *
     generalize hma:m.a=aa at *
     generalize hmb:m.b=bb at *
     obtain ⟨aax,aay⟩:=aa
     obtain ⟨bbx,bby⟩:=bb
     dsimp only at e1 e2 hc e3
     clear em gm hma hmb hbA hq hq2 ea eb
     cases k with
     | zero =>
      have hz:els=[]:=by rw [hels,<-hkj]; rfl
      subst hz
      refine bs.av (sx:=Yg) hk ?_
      repeat'(first|refine wk3 ?_|(refine wk2 ?_ ?_<;>intro _)|fail)
      exact Qr ⟨(1,j+1,_,_,[[.isl 1 [[I (w:Int)]],I iox,I ioy,I aax,I aay,I bbx,I bby,I nx]]),[(24,46)],rfl,kps,kps,⟨by show 1=j+1; omega,Zb (by omega),hlt,rfl,e3.symm⟩,by show T.length-(j+1)<T.length-j; omega⟩
     | succ k =>
      refine bs.av (sx:=Yg) hk ?_
      repeat'(first|refine wk3 ?_|(refine wk2 ?_ ?_<;>intro _)|fail)
      refine Xy (ys:=[[.isl 1 [[I (w:Int)]],I iox,I ioy,I aax,I aay,I bbx,I bby,I nx]]) rfl rfl rfl rfl rfl rfl rfl rfl rfl rfl (by simp) hlen (by simp only [Qz,Ri]; omega) ?_
      repeat'(first|refine wk3 ?_|(refine wk2 ?_ ?_<;>intro _)|fail)
      exact Qr ⟨(k+2,j+1,_,_,els++[[.isl 1 [[I (w:Int)]],I iox,I ioy,I aax,I aay,I bbx,I bby,I nx]]),[(24,46)],rfl,kps,kps,⟨by show k+2=j+1; omega,Zb (by omega),hlt,by exact List.length_append.symm,e3.symm⟩,by show T.length-(j+1)<T.length-j; omega⟩
    have hjn:j=T.length-1:=by omega
    subst hjn
    subst hels
    obtain ⟨q,rfl⟩:∃ q,k=q+1:=⟨k-1,by omega⟩
    refine bs.av (sx:=Yg) hk ?_
    repeat'(first|refine wk3 ?_|(refine wk2 ?_ ?_<;>intro _)|fail)
    exact Yk [24] rfl (by rw [hlen]; rfl) rfl
 ·refine bs.pv (sx:=Yg) hk Tryz.func90 (by kernel_rfl) (by kernel_rfl) rfl ?_
  repeat'(first|refine wk3 ?_|(refine wk2 ?_ ?_<;>intro _)|fail)
  refine Rg.ren (env2:=[(2,.ptr 0 0 0),(3,.ptr 1 0 0),(5,.ptr 2 0 0),(6,.ptr 17 0 0),(7,.ptr 18 0 0),(8,.ptr 22 0 0),(39,.func 218 [] (capS h iox ioy (laI (some w))))]) (σ2:=⟨[(21,.row 2 [[I lx,I ly],[I hx,I hy]] true true),(22,.row 1 [[.asl 21 0 2]] true false),(18,.row 2 [[I hx,I hy]] true false),(17,.row 2 [[I lx,I ly]] true false),(2,.row 2 [[I iox,I ioy]] true false),(1,.row 8 [[.isl 1 E,I ox,I oy,I ax,I ay,I bx,I by',I (w:Int)]] true false),(0,.row 9 [h.cells] true false)],23⟩) (Ren.of [] rfl (kps) (kps)) ?_
  refine rngV hit rfl rfl rfl rfl (Zl1 (S:=Nat × Nat × Nat × List (List AV)) (fun s=>gy 21 23 2 s.1 s.2.2.2 [(22,.row 1 [[gw 21 23 s.1 s.2.2.1]] true false),(18,.row 2 [[I hx,I hy]] true false),(17,.row 2 [[I lx,I ly]] true false),(2,.row 2 [[I iox,I ioy]] true false),(1,.row 8 [[.isl 1 E,I ox,I oy,I ax,I ay,I bx,I by',I (w:Int)]] true false),(0,.row 9 [h.cells] true false)]) 23 (fun s=>nm2 23 24 s.1)
   (fun xs s=>s.2.1<=vs.length/\xs=(vs.drop s.2.1).map wy/\s.2.2.1=s.2.2.2.length/\s.2.2.2=(btP (lx,ly) (hx,hy) vs s.2.1).map wv) ?_ ?_ _ (0,0,2,[[I lx,I ly],[I hx,I hy]]) ⟨Qq _,rfl,rfl,rfl⟩)
  ·rintro x xs ⟨k,j,len,els⟩ ⟨hj,hxx,hlen,he⟩
   dsimp only at hj hxx hlen he ⊢
   have hlt:j<vs.length:=by
    rcases Tw j vs.length with c|c
    ·exact c
    ·rw [Qo c] at hxx; cases hxx
   rw [Ql hlt,Sf] at hxx
   obtain ⟨rfl,rfl⟩:=Ws hxx
   have e4:els.length<2000:=by
    have:=Zmt (lx,ly) (hx,hy) vs j
    rw [he,Qj]; omega
   have e5:=Zsx (lo:=(lx,ly)) (hi:=(hx,hy)) hlt
   have e6:=hbw vs[j] (Qn hlt)
   rw [<-e6] at e5
   clear e6
   generalize vs[j]=v at *
   obtain ⟨vx,vy⟩:=v
   refine ⟨rfl,?_⟩
   cases k with
   | zero =>
    refine bs.av (sx:=Yg) hk ?_
    repeat'(first|refine wk3 ?_|(refine wk2 ?_ ?_<;>intro _)|fail)
    refine Dh (bs.av (sx:=Yg) hk ?_)
    repeat'(first|refine wk3 ?_|(refine wk2 ?_ ?_<;>intro _)|fail)
    ·rename_i q
     rw [if_pos q] at e5
     exact Qr ⟨(0+1,j+1,_,els++[wv (vx,vy)]),[(23,25)],rfl,kps,hlt,rfl,by exact List.length_append.symm,by rw [e5,Ro,<-he]; rfl⟩
    ·rename_i q
     rw [if_neg (by rw [q]; decide)] at e5
     exact Qr ⟨(0,j+1,len,els),[],rfl,kps,hlt,rfl,hlen,by rw [e5]; exact he⟩
   | succ k =>
    refine bs.av (sx:=Yg) hk ?_
    repeat'(first|refine wk3 ?_|(refine wk2 ?_ ?_<;>intro _)|fail)
    refine Dh (bs.av (sx:=Yg) hk ?_)
    repeat'(first|refine wk3 ?_|(refine wk2 ?_ ?_<;>intro _)|fail)
    ·rename_i q
     rw [if_pos q] at e5
     exact Qr ⟨(k+1,j+1,_,els++[wv (vx,vy)]),[(23,26)],rfl,kps,hlt,rfl,by exact List.length_append.symm,by rw [e5,Ro,<-he]; rfl⟩
    ·rename_i q
     rw [if_neg (by rw [q]; decide)] at e5
     exact Qr ⟨(k+1,j+1,len,els),[(23,23)],rfl,kps,hlt,rfl,hlen,by rw [e5]; exact he⟩
  ·rintro ⟨k,j,len,els⟩ ⟨hj,hxx,hlen,he⟩
   dsimp only at hj hxx hlen he ⊢
   have hlt:vs.length<=j:=by
    rcases Tw j vs.length with c|c
    ·rw [Ql c] at hxx; cases hxx
    ·exact c
   have he2:els=((lx,ly)::(hx,hy)::BL).map wv:=by
    rw [he,hbl]
    unfold btP
    rw [Tg hlt]
   have hW2:∀ v∈(lx,ly)::(hx,hy)::BL,v≠(0,0)/\Vb v:=fun v hv=>by
    rcases Ra.1 hv with q|hv
    ·rw [q]; exact ⟨Zdw b1,b3⟩
    ·rcases Ra.1 hv with q|hv
     ·rw [q]; exact ⟨Zdw b2,b4⟩
     ·rw [hbl] at hv
      exact hW v ((Nc.1 hv).1)
   have hRd:((lx,ly)::(hx,hy)::BL).map red=(lx,ly)::(hx,hy)::BL.map red:=by
    rw [Sf,Sf,Zep b1,Zep b2]
   have hIn:∀ x∈((lx,ly)::(hx,hy)::BL).map red,g1 x/\Vb x/\inS (lx,ly) (hx,hy) x:=fun x hx=>by
    obtain ⟨v,hv,rfl⟩:=Ta.1 hx
    obtain ⟨q1,q2⟩:=hW2 v hv
    obtain ⟨gg,_,_,_,q5,_⟩:=Vl q1
    obtain ⟨q6,q7⟩:=Zi4 q1 q2.1 q2.2
    refine ⟨q5,⟨q6,q7⟩,?_⟩
    rcases Ra.1 hv with q|hv
    ·rw [q,Zep b1]; exact ⟨by rw [Zj]; exact Wv 0,Qg b0⟩
    ·rcases Ra.1 hv with q|hv
     ·rw [q,Zep b2]; exact ⟨Qg b0,by rw [Zj]; exact Wv 0⟩
     ·rw [hbl] at hv
      have:=(Nc.1 hv).2
      rw [Qc,decide_eq_true_eq,decide_eq_true_eq] at this
      exact ⟨Qg ((Ub q1).2.2 this.1),Qg ((Ub q1).1.2 this.2)⟩
   have lv2:((lx,ly)::(hx,hy)::BL).length<1000:=by
    have:=Zmt (lx,ly) (hx,hy) vs j
    rw [he2,Qj] at hlen
    have h2:((lx,ly)::(hx,hy)::BL).length=(btP (lx,ly) (hx,hy) vs j).length:=by
     have:=congrArg Ob (he2.symm.trans he)
     rwa [Qj,Qj] at this
    omega
   clear he hxx hlt hj
   subst he2
   rw [Qj] at hlen
   subst hlen
   generalize hv2:(lx,ly)::(hx,hy)::BL=v2 at *
   cases k with
   | zero =>
    repeat'(first|refine wk3 ?_|(refine wk2 ?_ ?_<;>intro _)|fail)
    refine bs.sv (sx:=Yg) hk Tryz.func168 (by kernel_rfl) (by kernel_rfl) ?_
    repeat'(first|refine wk3 ?_|(refine wk2 ?_ ?_<;>intro _)|fail)
    refine Zn (S:=Nat × Int × List (List AV)) (fun t=>v2.length-t.1) (fun t=>[(0,.asl 21 0 v2.length),(1,.func 173 [] []),(7,.asl 21 0 v2.length),(8,I v2.length),(9,I t.2.1)])
     (fun t=>[(21,.row 2 t.2.2 true true),(22,.row 1 [[.asl 21 0 v2.length]] true false),(18,.row 2 [[I hx,I hy]] true false),(17,.row 2 [[I lx,I ly]] true false),(2,.row 2 [[I iox,I ioy]] true false),(1,.row 8 [[.isl 1 E,I ox,I oy,I ax,I ay,I bx,I by',I (w:Int)]] true false),(0,.row 9 [h.cells] true false)]) 24 24 (fun t=>t.2.1=t.1/\t.1<=v2.length/\t.2.2=(mixR v2 t.1).map wv) (0,0,v2.map wv) ⟨rfl,Qq _,rfl⟩ (Qm rfl) [] rfl (kps) (kps) ?_
    rintro ⟨j,i,els⟩ ⟨hi,hj,hels⟩
    dsimp only at hi hj hels ⊢
    subst hi
    have lel:els.length=v2.length:=by rw [hels,Qj,Zfw]
    by_cases hlt:j<v2.length
    ·have e1:=Zfx hlt
     have e2:=Zfv hlt
     rw [<-hels] at e1 e2
     have t1:=hW2 v2[j] (Qn hlt)
     have t2:=Ze7 t1.1 t1.2
     generalize v2[j]=v at *
     generalize red v=u at *
     obtain ⟨vx,vy⟩:=v
     obtain ⟨ux,uy⟩:=u
     refine bs.av (sx:=Yg) hk ?_
     repeat'(first|refine wk3 ?_|(refine wk2 ?_ ?_<;>intro _)|fail)
     exact Qr ⟨(j+1,Qa Qb ((j:Int)+1),Zck els (0+((j:Nat):Int).toNat) [I ux,I uy]),[],rfl,kps,kps,⟨Zb (by omega),hlt,e2⟩,by dsimp only; omega⟩
    have hjn:j=v2.length:=by omega
    subst hjn
    rw [Zfy] at hels
    obtain ⟨xs,hxs⟩:=subs (P:=fun v=>g1 v/\Vb v/\inS (lx,ly) (hx,hy) v) (v2.map red) hIn
    have hx2:els=xs.map (fun b:Ts (lx,ly) (hx,hy)=>wv b.1):=by rw [hels,<-hxs,Ov]; rfl
    have lxs:xs.length=v2.length:=by
     have:=congrArg Ob hxs
     simpa using this
    clear hels
    subst hx2
    refine bs.av (sx:=Yg) hk ?_
    repeat'(first|refine wk3 ?_|(refine wk2 ?_ ?_<;>intro _)|fail)
    rw [<-lxs]
    refine Zfl Zv9 hS (by decide) (Zgd Tryz.func173 (by kernel_rfl) (by kernel_rfl)) (fun b:Ts (lx,ly) (hx,hy)=>wv b.1) (fun _=>rfl) (fun _=>rfl) (fun _=>rfl) (fun a b:Ts (lx,ly) (hx,hy)=>-(Sm a.1 b.1)) (fun a _ b _=>Zfp (e173 a.2.2.1 b.2.2.1)) (Zmr b0) (by omega) rfl fun ys hp hs=>?_
    have hys:=hT ys (by rw [<-hRd,<-hxs]; exact hp.map _) hs
    have e5:ys.map (fun b:Ts (lx,ly) (hx,hy)=>wv b.1)=T.map wv:=by rw [<-hys,Ov]; rfl
    rw [e5]
    repeat'(first|refine wk3 ?_|(refine wk2 ?_ ?_<;>intro _)|fail)
    have lT:(T.map wv).length=T.length:=Qj _
    have lx2:xs.length=T.length:=by rw [<-hys,Qj]; exact hp.length_eq.symm
    have hnd:∀ i,0<i->i<T.length->T[i]?≠T[i-1]?:=by
     intro i h0 h1 q
     have:=Ti.1 s1 (i-1) i (by omega) h1 (by omega)
     rw [Qd h1,Qd (by omega:i-1<_)] at q
     rw [Sh q,Zj] at this
     omega
    have h2T:2<=T.length:=by
     rw [<-hTT]
     unfold tB
     simp only [Qz,Rd,Ri]
     omega
    clear hys e5 hp hs hT hxs hit hW
    rw [lx2]
    refine bs.sv (sx:=Yg) hk Tryz.func216 (by kernel_rfl) (by kernel_rfl) ?_
    repeat'(first|refine wk3 ?_|(refine wk2 ?_ ?_<;>intro _)|fail)
    have hT1000:T.length<1000:=by omega
    refine Zn (S:=Nat × Int) (fun t=>T.length-t.1) (fun t=>[(0,.asl 21 0 T.length),(3,I t.2)]) (fun _=>[(21,.row 2 (T.map wv) true true),(22,.row 1 [[.asl 21 0 T.length]] true false),(18,.row 2 [[I hx,I hy]] true false),(17,.row 2 [[I lx,I ly]] true false),(2,.row 2 [[I iox,I ioy]] true false),(1,.row 8 [[.isl 1 E,I ox,I oy,I ax,I ay,I bx,I by',I (w:Int)]] true false),(0,.row 9 [h.cells] true false)]) 24 24
     (fun t=>t.2=t.1/\1<=t.1/\t.1<=T.length) (1,1) ⟨rfl,Qe _,by omega⟩ (Qm rfl) [] rfl (kps) (kps) ?_
    rintro ⟨j,i⟩ ⟨hi,hj0,hj⟩
    dsimp only at hi hj0 hj ⊢
    subst hi
    by_cases hlt:j<T.length
    ·have e1:=Xg hlt
     have e2:=Xg (T:=T) (j:=j-1) (by omega)
     rw [show (((j-1:Nat):Int))=Qa Qb ((j:Int)-1) by rw [W_eq (by omega) (by omega)]; omega] at e2
     have hd:=hnd j (by omega) hlt
     rw [Qd hlt,Qd (by omega:j-1<T.length)] at hd
     have w1:decide (0<=Qa Qb ((j:Int)-1))=true:=by rw [W_eq (by omega) (by omega)]; exact decide_eq_true (by omega)
     have w2:decide (Qa Qb ((j:Int)-1)<(T.length:Int))=true:=by rw [W_eq (by omega) (by omega)]; exact decide_eq_true (by omega)
     have hz:Qa Qb ((j:Int)-1)=(j:Int)-1:=W_eq (by omega) (by omega)
     generalize T[j]=u at *
     generalize T[j-1]'(by omega)=v at *
     obtain ⟨ux,uy⟩:=u
     obtain ⟨vx,vy⟩:=v
     have hraw:(decide (ux=vx)&&(decide (uy=vy)&&true))=false:=by
      rw [Qx]
      intro q
      simp only [Pr,Qc,decide_eq_true_eq] at q
      exact hd (by rw [q.1,q.2])
     clear hd
     refine bs.av (sx:=Yg) hk ?_
     repeat'(first|refine wk3 ?_|(refine wk2 ?_ ?_<;>intro _)|fail)
     all_goals first
      | exact Qr ⟨(j+1,Qa Qb ((j:Int)+1)),[],rfl,kps,kps,⟨Zb (by omega),by omega,hlt⟩,by dsimp only; omega⟩
      | (exfalso; clear hk; simp_all; done)
    have hjn:j=T.length:=by omega
    subst hjn
    refine bs.av (sx:=Yg) hk ?_
    repeat'(first|refine wk3 ?_|(refine wk2 ?_ ?_<;>intro _)|fail)
    have hlT:(Rw (T.length-1)).length=T.length-1:=Su
    have eT:Qa Qb ((T.length:Int)-1)=((T.length-1:Nat):Int):=by rw [W_eq (by omega) (by omega)]; omega
    have hgd:=fun i (hi:i<T.length-1)=>(hgood _ (Ta.2 ⟨i,Rx.2 hi,rfl⟩)).1
    rw [eT]
    refine Zn (S:=Nat × Nat × Int × Nat × List (List AV)) (fun t=>T.length-t.2.1) (fun t=>[(2,.ptr 0 0 0),(3,.ptr 1 0 0),(5,.ptr 2 0 0),(8,.ptr 22 0 0),(10,gv 24 t.1 t.2.2.2.1),(53,I ((T.length-1:Nat):Int)),(54,I t.2.2.1)])
     (fun t=>gz 24 8 t.1 t.2.2.2.2 [(21,.row 2 (T.map wv) true true),(22,.row 1 [[.asl 21 0 T.length]] true false),(18,.row 2 [[I hx,I hy]] true false),(17,.row 2 [[I lx,I ly]] true false),(2,.row 2 [[I iox,I ioy]] true false),(1,.row 8 [[.isl 1 E,I ox,I oy,I ax,I ay,I bx,I by',I (w:Int)]] true false),(0,.row 9 [h.cells] true false)]) 24 25
     (fun t=>t.1=t.2.1/\t.2.2.1=t.2.1/\t.2.1<=T.length-1/\t.2.2.2.1=t.2.2.2.2.length/\t.2.2.2.2=((Rw t.2.1).map F).map bmA) (0,0,0,0,[]) ⟨rfl,rfl,Qq _,rfl,rfl⟩ (Qm rfl) [] rfl (kps) (kps) ?_
    rintro ⟨k,j,i,len,els⟩ ⟨hkj,hi,hj,hlen,hels⟩
    dsimp only at hkj hi hj hlen hels ⊢
    subst hi
    by_cases hlt:j<T.length-1
    ·have gm:=hgd j hlt
     have em:=hF2 j
     have hj1:j<T.length:=by omega
     have hj2:j+1<T.length:=by omega
     have hq:=Xp hj1
     have hq2:=Xp hj2
     have eW:Qa Qb ((j:Int)+1)=((j+1:Nat):Int):=Zb (by omega)
     have e1:=Xg hj1
     have e2:=Xg hj2
     have dD:decide (0<=Qa Qb ((j:Int)+1)/\Qa Qb ((j:Int)+1)<(T.length:Int))=true:=by
      rw [eW]
      exact decide_eq_true (by omega)
     have e3:((Rw (j+1)).map F).map bmA=els++[bmA (F j)]:=by
      rw [Nb,Ro,Ro,<-hels]
      rfl
     generalize F j=m at *
     have hc:TB [h.av,wsA (ws++[(w:Int)]),P2 iox ioy,P2 m.a.1 m.a.2,P2 m.b.1 m.b.2]=some ⟨.agg (bmA m),[]⟩:=by
      obtain ⟨v,env,KK⟩:=gm.sec
      have hLP:LP h.cs (iox,ioy) (Xc (ws++[(w:Int)])) (addV m.a m.b):=by
       have ho:m.o=(iox,ioy):=by rw [em]
       have hws:m.ws=ws++[(w:Int)]:=by rw [em]
       rw [ho,hws] at KK
       have hab:=KK.ab
       have d1:0<Sm m.a (addV m.a m.b):=by rw [Vo,Xm,Zj]; omega
       have d2:0<Sm (addV m.a m.b) m.b:=by rw [Vo,Yp,Zj]; omega
       intro l q
       obtain ⟨q1,t,q2,q3⟩:=KK.lp l q
       exact ⟨q1,t,q2,(q3 _ d1 d2).n⟩
      have:=Zi6 (h:=h) (ws:=ws++[(w:Int)]) (o:=(iox,ioy)) (nx:=nxtV h.cs (iox,ioy) (Xc (ws++[(w:Int)]))) (a:=m.a) (b:=m.b) ⟨gm.ga,gm.gb⟩ ⟨gm.ba,gm.bb⟩ hLP
      rw [hTB] at this
      rw [this]
      congr 3
      rw [em,hlw]
     have ea:T[j]=m.a:=by rw [em,<-hq]
     have eb:T[j+1]=m.b:=by rw [em,<-hq2]
     rw [ea] at e1
     rw [eb,<-eW] at e2
     have l4:els.length<2000:=by rw [hels,Qj,Qj,Su]; omega
     have hbA:bmA m=[wsA (ws++[(w:Int)]),I iox,I ioy,I m.a.1,I m.a.2,I m.b.1,I m.b.2,I m.nx]:=by unfold bmA; rw [em]
     rw [hbA] at hc e3
     rw [ew] at hc e3
     generalize m.nx=nx at *
     generalize hma:m.a=aa at *
     generalize hmb:m.b=bb at *
     obtain ⟨aax,aay⟩:=aa
     obtain ⟨bbx,bby⟩:=bb
     dsimp only at e1 e2 hc e3
     clear em gm hma hmb hbA hq hq2 ea eb
     cases k with
     | zero =>
      have hz:els=[]:=by rw [hels,<-hkj]; rfl
      subst hz
      refine bs.av (sx:=Yg) hk ?_
      repeat'(first|refine wk3 ?_|(refine wk2 ?_ ?_<;>intro _)|fail)
      refine Xy (ys:=[[I (w:Int)]]) rfl rfl rfl rfl rfl rfl rfl rfl rfl rfl (by simp) rfl (by simp only [Qz,Ri]; omega) ?_
      repeat'(first|refine wk3 ?_|(refine wk2 ?_ ?_<;>intro _)|fail)
      exact Qr ⟨(1,j+1,_,_,[[.isl 1 (Wx (E.length+[[I (w:Int)]].length) (Wy 0 (E++[[I (w:Int)]]))),I iox,I ioy,I aax,I aay,I bbx,I bby,I nx]]),[(24,47)],rfl,kps,kps,⟨by show 1=j+1; omega,Zb (by omega),hlt,rfl,e3.symm⟩,by show T.length-(j+1)<T.length-j; omega⟩
     | succ k =>
      refine bs.av (sx:=Yg) hk ?_
      repeat'(first|refine wk3 ?_|(refine wk2 ?_ ?_<;>intro _)|fail)
      refine Xy (ys:=[[I (w:Int)]]) rfl rfl rfl rfl rfl rfl rfl rfl rfl rfl (by simp) rfl (by simp only [Qz,Ri]; omega) ?_
      repeat'(first|refine wk3 ?_|(refine wk2 ?_ ?_<;>intro _)|fail)
      refine Xy (ys:=[[.isl 1 (Wx (E.length+[[I (w:Int)]].length) (Wy 0 (E++[[I (w:Int)]]))),I iox,I ioy,I aax,I aay,I bbx,I bby,I nx]]) rfl rfl rfl rfl rfl rfl rfl rfl rfl rfl (by simp) hlen (by simp only [Qz,Ri]; omega) ?_
      repeat'(first|refine wk3 ?_|(refine wk2 ?_ ?_<;>intro _)|fail)
      exact Qr ⟨(k+2,j+1,_,_,els++[[.isl 1 (Wx (E.length+[[I (w:Int)]].length) (Wy 0 (E++[[I (w:Int)]]))),I iox,I ioy,I aax,I aay,I bbx,I bby,I nx]]),[(24,47)],rfl,kps,kps,⟨by show k+2=j+1; omega,Zb (by omega),hlt,by exact List.length_append.symm,e3.symm⟩,by show T.length-(j+1)<T.length-j; omega⟩
    have hjn:j=T.length-1:=by omega
    subst hjn
    subst hels
    obtain ⟨q,rfl⟩:∃ q,k=q+1:=⟨k-1,by omega⟩
    refine bs.av (sx:=Yg) hk ?_
    repeat'(first|refine wk3 ?_|(refine wk2 ?_ ?_<;>intro _)|fail)
    exact Yk [24] rfl (by rw [hlen]; rfl) rfl
   | succ k =>
    repeat'(first|refine wk3 ?_|(refine wk2 ?_ ?_<;>intro _)|fail)
    refine bs.sv (sx:=Yg) hk Tryz.func168 (by kernel_rfl) (by kernel_rfl) ?_
    repeat'(first|refine wk3 ?_|(refine wk2 ?_ ?_<;>intro _)|fail)
    refine Zn (S:=Nat × Int × List (List AV)) (fun t=>v2.length-t.1) (fun t=>[(0,.asl 23 0 v2.length),(1,.func 173 [] []),(7,.asl 23 0 v2.length),(8,I v2.length),(9,I t.2.1)])
     (fun t=>[(23,.row 2 t.2.2 true true),(22,.row 1 [[.asl 23 0 v2.length]] true false),(18,.row 2 [[I hx,I hy]] true false),(17,.row 2 [[I lx,I ly]] true false),(2,.row 2 [[I iox,I ioy]] true false),(1,.row 8 [[.isl 1 E,I ox,I oy,I ax,I ay,I bx,I by',I (w:Int)]] true false),(0,.row 9 [h.cells] true false)]) 24 24 (fun t=>t.2.1=t.1/\t.1<=v2.length/\t.2.2=(mixR v2 t.1).map wv) (0,0,v2.map wv) ⟨rfl,Qq _,rfl⟩ (Qm rfl) [] rfl (kps) (kps) ?_
    rintro ⟨j,i,els⟩ ⟨hi,hj,hels⟩
    dsimp only at hi hj hels ⊢
    subst hi
    have lel:els.length=v2.length:=by rw [hels,Qj,Zfw]
    by_cases hlt:j<v2.length
    ·have e1:=Zfx hlt
     have e2:=Zfv hlt
     rw [<-hels] at e1 e2
     have t1:=hW2 v2[j] (Qn hlt)
     have t2:=Ze7 t1.1 t1.2
     generalize v2[j]=v at *
     generalize red v=u at *
     obtain ⟨vx,vy⟩:=v
     obtain ⟨ux,uy⟩:=u
     refine bs.av (sx:=Yg) hk ?_
     repeat'(first|refine wk3 ?_|(refine wk2 ?_ ?_<;>intro _)|fail)
     exact Qr ⟨(j+1,Qa Qb ((j:Int)+1),Zck els (0+((j:Nat):Int).toNat) [I ux,I uy]),[],rfl,kps,kps,⟨Zb (by omega),hlt,e2⟩,by dsimp only; omega⟩
    have hjn:j=v2.length:=by omega
    subst hjn
    rw [Zfy] at hels
    obtain ⟨xs,hxs⟩:=subs (P:=fun v=>g1 v/\Vb v/\inS (lx,ly) (hx,hy) v) (v2.map red) hIn
    have hx2:els=xs.map (fun b:Ts (lx,ly) (hx,hy)=>wv b.1):=by rw [hels,<-hxs,Ov]; rfl
    have lxs:xs.length=v2.length:=by
     have:=congrArg Ob hxs
     simpa using this
    clear hels
    subst hx2
    refine bs.av (sx:=Yg) hk ?_
    repeat'(first|refine wk3 ?_|(refine wk2 ?_ ?_<;>intro _)|fail)
    rw [<-lxs]
    refine Zfl Zv9 hS (by decide) (Zgd Tryz.func173 (by kernel_rfl) (by kernel_rfl)) (fun b:Ts (lx,ly) (hx,hy)=>wv b.1) (fun _=>rfl) (fun _=>rfl) (fun _=>rfl) (fun a b:Ts (lx,ly) (hx,hy)=>-(Sm a.1 b.1)) (fun a _ b _=>Zfp (e173 a.2.2.1 b.2.2.1)) (Zmr b0) (by omega) rfl fun ys hp hs=>?_
    have hys:=hT ys (by rw [<-hRd,<-hxs]; exact hp.map _) hs
    have e5:ys.map (fun b:Ts (lx,ly) (hx,hy)=>wv b.1)=T.map wv:=by rw [<-hys,Ov]; rfl
    rw [e5]
    repeat'(first|refine wk3 ?_|(refine wk2 ?_ ?_<;>intro _)|fail)
    have lT:(T.map wv).length=T.length:=Qj _
    have lx2:xs.length=T.length:=by rw [<-hys,Qj]; exact hp.length_eq.symm
    have hnd:∀ i,0<i->i<T.length->T[i]?≠T[i-1]?:=by
     intro i h0 h1 q
     have:=Ti.1 s1 (i-1) i (by omega) h1 (by omega)
     rw [Qd h1,Qd (by omega:i-1<_)] at q
     rw [Sh q,Zj] at this
     omega
    have h2T:2<=T.length:=by
     rw [<-hTT]
     unfold tB
     simp only [Qz,Rd,Ri]
     omega
    clear hys e5 hp hs hT hxs hit hW
    rw [lx2]
    refine bs.sv (sx:=Yg) hk Tryz.func216 (by kernel_rfl) (by kernel_rfl) ?_
    repeat'(first|refine wk3 ?_|(refine wk2 ?_ ?_<;>intro _)|fail)
    have hT1000:T.length<1000:=by omega
    refine Zn (S:=Nat × Int) (fun t=>T.length-t.1) (fun t=>[(0,.asl 23 0 T.length),(3,I t.2)]) (fun _=>[(23,.row 2 (T.map wv) true true),(22,.row 1 [[.asl 23 0 T.length]] true false),(18,.row 2 [[I hx,I hy]] true false),(17,.row 2 [[I lx,I ly]] true false),(2,.row 2 [[I iox,I ioy]] true false),(1,.row 8 [[.isl 1 E,I ox,I oy,I ax,I ay,I bx,I by',I (w:Int)]] true false),(0,.row 9 [h.cells] true false)]) 24 24
     (fun t=>t.2=t.1/\1<=t.1/\t.1<=T.length) (1,1) ⟨rfl,Qe _,by omega⟩ (Qm rfl) [] rfl (kps) (kps) ?_
    rintro ⟨j,i⟩ ⟨hi,hj0,hj⟩
    dsimp only at hi hj0 hj ⊢
    subst hi
    by_cases hlt:j<T.length
    ·have e1:=Xg hlt
     have e2:=Xg (T:=T) (j:=j-1) (by omega)
     rw [show (((j-1:Nat):Int))=Qa Qb ((j:Int)-1) by rw [W_eq (by omega) (by omega)]; omega] at e2
     have hd:=hnd j (by omega) hlt
     rw [Qd hlt,Qd (by omega:j-1<T.length)] at hd
     have w1:decide (0<=Qa Qb ((j:Int)-1))=true:=by rw [W_eq (by omega) (by omega)]; exact decide_eq_true (by omega)
     have w2:decide (Qa Qb ((j:Int)-1)<(T.length:Int))=true:=by rw [W_eq (by omega) (by omega)]; exact decide_eq_true (by omega)
     have hz:Qa Qb ((j:Int)-1)=(j:Int)-1:=W_eq (by omega) (by omega)
     generalize T[j]=u at *
     generalize T[j-1]'(by omega)=v at *
     obtain ⟨ux,uy⟩:=u
     obtain ⟨vx,vy⟩:=v
     have hraw:(decide (ux=vx)&&(decide (uy=vy)&&true))=false:=by
      rw [Qx]
      intro q
      simp only [Pr,Qc,decide_eq_true_eq] at q
      exact hd (by rw [q.1,q.2])
     clear hd
     refine bs.av (sx:=Yg) hk ?_
     repeat'(first|refine wk3 ?_|(refine wk2 ?_ ?_<;>intro _)|fail)
     all_goals first
      | exact Qr ⟨(j+1,Qa Qb ((j:Int)+1)),[],rfl,kps,kps,⟨Zb (by omega),by omega,hlt⟩,by dsimp only; omega⟩
      | (exfalso; clear hk; simp_all; done)
    have hjn:j=T.length:=by omega
    subst hjn
    refine bs.av (sx:=Yg) hk ?_
    repeat'(first|refine wk3 ?_|(refine wk2 ?_ ?_<;>intro _)|fail)
    have hlT:(Rw (T.length-1)).length=T.length-1:=Su
    have eT:Qa Qb ((T.length:Int)-1)=((T.length-1:Nat):Int):=by rw [W_eq (by omega) (by omega)]; omega
    have hgd:=fun i (hi:i<T.length-1)=>(hgood _ (Ta.2 ⟨i,Rx.2 hi,rfl⟩)).1
    rw [eT]
    refine Zn (S:=Nat × Nat × Int × Nat × List (List AV)) (fun t=>T.length-t.2.1) (fun t=>[(2,.ptr 0 0 0),(3,.ptr 1 0 0),(5,.ptr 2 0 0),(8,.ptr 22 0 0),(10,gv 24 t.1 t.2.2.2.1),(53,I ((T.length-1:Nat):Int)),(54,I t.2.2.1)])
     (fun t=>gz 24 8 t.1 t.2.2.2.2 [(23,.row 2 (T.map wv) true true),(22,.row 1 [[.asl 23 0 T.length]] true false),(18,.row 2 [[I hx,I hy]] true false),(17,.row 2 [[I lx,I ly]] true false),(2,.row 2 [[I iox,I ioy]] true false),(1,.row 8 [[.isl 1 E,I ox,I oy,I ax,I ay,I bx,I by',I (w:Int)]] true false),(0,.row 9 [h.cells] true false)]) 24 25
     (fun t=>t.1=t.2.1/\t.2.2.1=t.2.1/\t.2.1<=T.length-1/\t.2.2.2.1=t.2.2.2.2.length/\t.2.2.2.2=((Rw t.2.1).map F).map bmA) (0,0,0,0,[]) ⟨rfl,rfl,Qq _,rfl,rfl⟩ (Qm rfl) [] rfl (kps) (kps) ?_
    rintro ⟨k,j,i,len,els⟩ ⟨hkj,hi,hj,hlen,hels⟩
    dsimp only at hkj hi hj hlen hels ⊢
    subst hi
    by_cases hlt:j<T.length-1
    ·have gm:=hgd j hlt
     have em:=hF2 j
     have hj1:j<T.length:=by omega
     have hj2:j+1<T.length:=by omega
     have hq:=Xp hj1
     have hq2:=Xp hj2
     have eW:Qa Qb ((j:Int)+1)=((j+1:Nat):Int):=Zb (by omega)
     have e1:=Xg hj1
     have e2:=Xg hj2
     have dD:decide (0<=Qa Qb ((j:Int)+1)/\Qa Qb ((j:Int)+1)<(T.length:Int))=true:=by
      rw [eW]
      exact decide_eq_true (by omega)
     have e3:((Rw (j+1)).map F).map bmA=els++[bmA (F j)]:=by
      rw [Nb,Ro,Ro,<-hels]
      rfl
     generalize F j=m at *
     have hc:TB [h.av,wsA (ws++[(w:Int)]),P2 iox ioy,P2 m.a.1 m.a.2,P2 m.b.1 m.b.2]=some ⟨.agg (bmA m),[]⟩:=by
      obtain ⟨v,env,KK⟩:=gm.sec
      have hLP:LP h.cs (iox,ioy) (Xc (ws++[(w:Int)])) (addV m.a m.b):=by
       have ho:m.o=(iox,ioy):=by rw [em]
       have hws:m.ws=ws++[(w:Int)]:=by rw [em]
       rw [ho,hws] at KK
       have hab:=KK.ab
       have d1:0<Sm m.a (addV m.a m.b):=by rw [Vo,Xm,Zj]; omega
       have d2:0<Sm (addV m.a m.b) m.b:=by rw [Vo,Yp,Zj]; omega
       intro l q
       obtain ⟨q1,t,q2,q3⟩:=KK.lp l q
       exact ⟨q1,t,q2,(q3 _ d1 d2).n⟩
      have:=Zi6 (h:=h) (ws:=ws++[(w:Int)]) (o:=(iox,ioy)) (nx:=nxtV h.cs (iox,ioy) (Xc (ws++[(w:Int)]))) (a:=m.a) (b:=m.b) ⟨gm.ga,gm.gb⟩ ⟨gm.ba,gm.bb⟩ hLP
      rw [hTB] at this
      rw [this]
      congr 3
      rw [em,hlw]
     have ea:T[j]=m.a:=by rw [em,<-hq]
     have eb:T[j+1]=m.b:=by rw [em,<-hq2]
     rw [ea] at e1
     rw [eb,<-eW] at e2
     have l4:els.length<2000:=by rw [hels,Qj,Qj,Su]; omega
     have hbA:bmA m=[wsA (ws++[(w:Int)]),I iox,I ioy,I m.a.1,I m.a.2,I m.b.1,I m.b.2,I m.nx]:=by unfold bmA; rw [em]
     rw [hbA] at hc e3
     rw [ew] at hc e3
     generalize m.nx=nx at *
     generalize hma:m.a=aa at *
     generalize hmb:m.b=bb at *
     obtain ⟨aax,aay⟩:=aa
     obtain ⟨bbx,bby⟩:=bb
     dsimp only at e1 e2 hc e3
     clear em gm hma hmb hbA hq hq2 ea eb
     cases k with
     | zero =>
      have hz:els=[]:=by rw [hels,<-hkj]; rfl
      subst hz
      refine bs.av (sx:=Yg) hk ?_
      repeat'(first|refine wk3 ?_|(refine wk2 ?_ ?_<;>intro _)|fail)
      refine Xy (ys:=[[I (w:Int)]]) rfl rfl rfl rfl rfl rfl rfl rfl rfl rfl (by simp) rfl (by simp only [Qz,Ri]; omega) ?_
      repeat'(first|refine wk3 ?_|(refine wk2 ?_ ?_<;>intro _)|fail)
      exact Qr ⟨(1,j+1,_,_,[[.isl 1 (Wx (E.length+[[I (w:Int)]].length) (Wy 0 (E++[[I (w:Int)]]))),I iox,I ioy,I aax,I aay,I bbx,I bby,I nx]]),[(24,47)],rfl,kps,kps,⟨by show 1=j+1; omega,Zb (by omega),hlt,rfl,e3.symm⟩,by show T.length-(j+1)<T.length-j; omega⟩
     | succ k =>
      refine bs.av (sx:=Yg) hk ?_
      repeat'(first|refine wk3 ?_|(refine wk2 ?_ ?_<;>intro _)|fail)
      refine Xy (ys:=[[I (w:Int)]]) rfl rfl rfl rfl rfl rfl rfl rfl rfl rfl (by simp) rfl (by simp only [Qz,Ri]; omega) ?_
      repeat'(first|refine wk3 ?_|(refine wk2 ?_ ?_<;>intro _)|fail)
      refine Xy (ys:=[[.isl 1 (Wx (E.length+[[I (w:Int)]].length) (Wy 0 (E++[[I (w:Int)]]))),I iox,I ioy,I aax,I aay,I bbx,I bby,I nx]]) rfl rfl rfl rfl rfl rfl rfl rfl rfl rfl (by simp) hlen (by simp only [Qz,Ri]; omega) ?_
      repeat'(first|refine wk3 ?_|(refine wk2 ?_ ?_<;>intro _)|fail)
      exact Qr ⟨(k+2,j+1,_,_,els++[[.isl 1 (Wx (E.length+[[I (w:Int)]].length) (Wy 0 (E++[[I (w:Int)]]))),I iox,I ioy,I aax,I aay,I bbx,I bby,I nx]]),[(24,47)],rfl,kps,kps,⟨by show k+2=j+1; omega,Zb (by omega),hlt,by exact List.length_append.symm,e3.symm⟩,by show T.length-(j+1)<T.length-j; omega⟩
    have hjn:j=T.length-1:=by omega
    subst hjn
    subst hels
    obtain ⟨q,rfl⟩:∃ q,k=q+1:=⟨k-1,by omega⟩
    refine bs.av (sx:=Yg) hk ?_
    repeat'(first|refine wk3 ?_|(refine wk2 ?_ ?_<;>intro _)|fail)
    exact Yk [24] rfl (by rw [hlen]; rfl) rfl
theorem Zsc (R:V->V->Bool) (t:V):∀ l:List V,(insB R t l).length=l.length+1
 | []=>rfl
 | a::l=>by
  unfold insB
  split
  ·rw [Qz,Zsc R t l,Qz]
  ·rfl
theorem Zp2 (R:V->V->Bool) (l:List V) (t:V):(Kk R l t).length<=l.length+1:=by
 unfold Kk
 split
 ·omega
 ·rw [De,Zsc,De]; exact Qe _
theorem Zml (R:V->V->Bool) (f:V->V):∀ (ws l:List V),(ws.foldl (fun l w=>Kk R l (f w)) l).length<=l.length+ws.length
 | [],l=>by simp
 | w::ws,l=>by
  have:=Zml R f ws (Kk R l (f w))
  have h2:=Zp2 R l (f w)
  rw [List.foldl_cons,Qz]
  omega
theorem Zoi {α:Type} (p:α->Bool):∀ {l:List α} {x:α},x∈l->p x=false->(l.filter p).length+1<=l.length
 | a::l,x,hx,hp=>by
  have hle:=Mm p l
  rw [Lc]
  rcases Ra.1 hx with rfl|hx
  ·rw [hp]; simp only [Bool.false_eq_true,if_false,Qz]; omega
  ·have:=Zoi p hx hp
   split<;>simp only [Qz]<;>omega
theorem Zqy {h:Hal} (g:h.fine) {m:Bm} (G:GoodB h m) (hlen:m.ws.length<4):(behB h.cs m).length<=12/\1<=(behB h.cs m).length:=by
 have B:=Zsz g G hlen
 unfold behB
 dsimp only
 generalize m.nx.toNat=w at *
 generalize imgO h.cs w m.o=o at *
 generalize imgV h.cs w m.b=lo at *
 generalize imgV h.cs w m.a=hi at *
 have l12:h.cs.length<=12:=by have:=g.le; omega
 have h1:(btwL h.cs o w lo hi).length+1<=h.cs.length:=by
  unfold btwL Vh
  rw [List.filter_map,Qj,List.filter_filter]
  refine Zoi _ (Qn B.wl) ?_
  rw [Qx]
  intro q
  rw [Qc] at q
  have q:=q.1
  dsimp only [Function.comp] at q
  rw [Qc,decide_eq_true_eq,decide_eq_true_eq,<-Zlm _ B.wl] at q
  obtain ⟨_,t,e,i1,i2⟩:=(B.lk _ q.1 q.2).lk w rfl
  rcases Zdf e with ⟨e1,e2⟩|⟨e1,e2⟩
  ·rw [e1,Zj] at i1; omega
  ·rw [e2,Zj] at i2; omega
 have h2:=Zml crB red (btwL h.cs o w lo hi) []
 rw [Qj,Su]
 unfold tB innT
 simp only [Qz,Rd,Ri] at h2 ⊢
 omega
theorem Zvk {h:Hal} (g:h.fine) (o:V):(Zl h.cs o).length<=12:=by
 have l12:h.cs.length<=12:=by have:=g.le; omega
 unfold Zl tO
 rw [Qj,Su]
 have h2:=Zml snB red (Vh h.cs o none) []
 have h3:(Vh h.cs o none).length<=h.cs.length:=by
  unfold Vh
  rw [Qj]
  exact Mm _ _
 simp only [Ri] at h2
 omega
def levB (cs:List (Int × Int)) (o:V):Nat->List Bm
 | 0=>Zl cs o
 | k+1=>(levB cs o k).flatMap (behB cs)
def outB (cs:List (Int × Int)) (o:V):Nat->List Bm
 | 0=>Zl cs o
 | k+1=>outB cs o k++levB cs o (k+1)
theorem Ug {h:Hal} (g:h.fine) {o:V} (k:InSrc h o):∀ n,n<=4->∀ m∈levB h.cs o n,GoodB h m/\m.ws.length=n
 | 0,_,m,hm=>by
  obtain ⟨q1,q2,_⟩:=(Zb4 g k).2 m hm
  exact ⟨q1,by rw [q2]; rfl⟩
 | n+1,hn,m,hm=>by
  obtain ⟨m0,h0,h1⟩:=List.mem_flatMap.1 hm
  obtain ⟨q1,q2⟩:=Ug g k n (by omega) m0 h0
  obtain ⟨r1,r2⟩:=Zfi g q1 (by omega) m h1
  exact ⟨r1,by rw [r2,Rd,q2,Kr]⟩
theorem Zh8 {α β:Type} (f:α->List β) (c:Nat):∀ l:List α,(∀ x∈l,(f x).length<=c/\1<=(f x).length)->(l.flatMap f).length<=l.length*c/\l.length<=(l.flatMap f).length
 | [],_=>by simp
 | a::l,h=>by
  obtain ⟨i1,i2⟩:=Zh8 f c l (fun x hx=>h x (by simp [hx]))
  obtain ⟨j1,j2⟩:=h a (by simp)
  rw [List.flatMap_cons,Rd,Qz,Nat.add_mul]
  omega
theorem Zcq {h:Hal} (g:h.fine) {o:V} (k:InSrc h o):∀ n,n<=4->(levB h.cs o n).length<=12*12 ^ n/\3<=(levB h.cs o n).length
 | 0,_=>by
  refine ⟨Zvk g o,?_⟩
  show 3<=(Zl h.cs o).length
  unfold Zl
  rw [Qj,Su]
  exact (Zb4 g k).1
 | n+1,hn=>by
  obtain ⟨i1,i2⟩:=Zcq g k n (by omega)
  obtain ⟨j1,j2⟩:=Zh8 (behB h.cs) 12 (levB h.cs o n) (fun m hm=>by
   obtain ⟨q1,q2⟩:=Ug g k n (by omega) m hm
   exact Zqy g q1 (by omega))
  rw [Nat.pow_succ]
  show ((levB h.cs o n).flatMap (behB h.cs)).length<=_/\3<=((levB h.cs o n).flatMap (behB h.cs)).length
  omega
theorem Zdo {h:Hal} (g:h.fine) {o:V} (k:InSrc h o):∀ n,n<=4->∀ m∈outB h.cs o n,GoodB h m/\m.ws.length<=n
 | 0,hn,m,hm=>by
  obtain ⟨q1,q2⟩:=Ug g k 0 hn m hm
  exact ⟨q1,by omega⟩
 | n+1,hn,m,hm=>by
  rcases Si.1 hm with q|q
  ·obtain ⟨q1,q2⟩:=Zdo g k n (by omega) m q
   exact ⟨q1,by omega⟩
  ·obtain ⟨q1,q2⟩:=Ug g k (n+1) hn m q
   exact ⟨q1,by omega⟩
theorem Zru {h:Hal} (g:h.fine) {o:V} (k:InSrc h o):∀ n,n<=4->(outB h.cs o n).length<=12*12 ^ n*2/\3<=(outB h.cs o n).length
 | 0,hn=>by
  have:=Zcq g k 0 hn
  show (Zl h.cs o).length<=_/\3<=(Zl h.cs o).length
  have e:levB h.cs o 0=Zl h.cs o:=rfl
  rw [e] at this
  omega
 | n+1,hn=>by
  have h1:=Zru g k n (by omega)
  have h2:=Zcq g k (n+1) hn
  rw [show outB h.cs o (n+1)=outB h.cs o n++levB h.cs o (n+1) from rfl,Rd]
  rw [Nat.pow_succ] at *
  omega
theorem Zi9 {h:Hal} (g:h.fine) {o:V} (k:InSrc h o) {n:Nat} (hn:n<=2):(outB h.cs o n).length<=2000:=by
 have a0:=(Zcq g k 0 (by omega)).1
 have a1:=(Zcq g k 1 (by omega)).1
 have a2:=(Zcq g k 2 (by omega)).1
 have e0:(outB h.cs o 0).length=(levB h.cs o 0).length:=rfl
 have e1:(outB h.cs o 1).length=(levB h.cs o 0).length+(levB h.cs o 1).length:=Rd
 have e2:(outB h.cs o 2).length=(outB h.cs o 1).length+(levB h.cs o 2).length:=Rd
 have:n=0\/n=1\/n=2:=by omega
 rcases this with rfl|rfl|rfl<;>omega
theorem Ydg (m:Bm):(bmA m).all AV.one=true:=by
 unfold bmA wsA
 cases m.ws<;>rfl
theorem Zj6 (m:Bm):∃ Aw q1 q2 q3 q4 q5 q6 q7,bmA m=[Aw,I q1,I q2,I q3,I q4,I q5,I q6,I q7]/\(Aw = .nils\/∃ E0,Aw = .isl 1 E0):=by
 refine ⟨_,_,_,_,_,_,_,_,rfl,?_⟩
 unfold wsA
 cases m.ws with
 | nil=>exact .inl rfl
 | cons x r=>exact .inr ⟨_,rfl⟩
theorem Za7 (l:List Bm):Xr (l.map bmA)=true:=by
 unfold Xr
 rw [List.all_map]
 exact List.all_eq_true.2 fun m _=>Ydg m
theorem e89 {L:List Bm} (h0:L≠[]) (hl:L.length<100000):PCall Tryz.prog 89 [.isl 8 (L.map bmA)] ⟨.asl 0 0 (L.map bmA).length,[(8,L.map bmA)]⟩:=by
 have h1:=Za7 L
 have h2:(L.map bmA).length=L.length:=Qj _
 have h3:L.map bmA≠[]:=by simpa using h0
 generalize L.map bmA=E at *
 cases E with
 | nil=>exact absurd rfl h3
 | cons x r =>
 refine pn Ze Tryz.func89 ?_
 repeat'(first|refine wk3 ?_|(refine wk2 ?_ ?_<;>intro _)|fail)
 refine Yk [1] rfl ?_ rfl
 show AV.asl 1 0 (0+(x::r).length)=AV.asl 1 0 (x::r).length
 rw [Sb]
theorem Zuu {a b:List Int} (e:wsA a=wsA b):a=b:=by
 unfold wsA at e
 cases a with
 | nil=>cases b with
  | nil=>rfl
  | cons y t=>cases e
 | cons x r=>cases b with
  | nil=>cases e
  | cons y t =>
   dsimp only at e
   rw [Gw] at e
   have e:=e.2
   unfold nl at e
   have key:∀ l1 l2:List Int,l1.map (fun x=>[I x])=l2.map (fun x=>[I x])->l1=l2:=by
    intro l1
    induction l1 with
    | nil=>intro l2 q; cases l2 with
     | nil=>rfl
     | cons _ _=>cases q
    | cons a l1 ih=>intro l2 q; cases l2 with
     | nil=>cases q
     | cons b l2 =>
      rw [Sf,Sf,Rf] at q
      obtain ⟨q1,q2⟩:=q
      cases q1
      rw [ih l2 q2]
   exact key _ _ e
theorem Zqw {a b:Bm} (e:bmA a=bmA b):a=b:=by
 obtain ⟨ws,o,p,q,nx⟩:=a
 obtain ⟨ws2,o2,p2,q2,nx2⟩:=b
 obtain ⟨ox,oy⟩:=o
 obtain ⟨px,py⟩:=p
 obtain ⟨qx,qy⟩:=q
 obtain ⟨ox2,oy2⟩:=o2
 obtain ⟨px2,py2⟩:=p2
 obtain ⟨qx2,qy2⟩:=q2
 unfold bmA at e
 simp only [Rf,Tj,true_and,and_true] at e
 obtain ⟨e0,e1,e2,e3,e4,e5,e6,e7⟩:=e
 rw [Zuu e0,e1,e2,e3,e4,e5,e6,e7]
noncomputable abbrev rBh (h:Hal):List AV->Option PRes:=famA (fun m:Bm=>GoodB h m/\m.ws.length<4) (fun m=>[h.av,.agg (bmA m)]) (fun m=>⟨.isl 8 ((behB h.cs m).map bmA),[]⟩)
theorem Yc9 {h:Hal} {m:Bm} (G:GoodB h m) (hl:m.ws.length<4):rBh h [h.av,.agg (bmA m)]=some ⟨.isl 8 ((behB h.cs m).map bmA),[]⟩ :=
 Zq (p:=fun m:Bm=>GoodB h m/\m.ws.length<4) (g:=fun m=>[h.av,.agg (bmA m)]) (r:=fun m=>⟨.isl 8 ((behB h.cs m).map bmA),[]⟩) (k:=m) (fun j hj=>by
  simp only [Rf,Pw,true_and,and_true] at hj
  rw [Zqw hj]) ⟨G,hl⟩
theorem Yfm {h:Hal} (hf:h.few) (g:h.fine) (hS:SortsK Tryz.prog 215 2) {pt:PC} (hp:PCOK Tryz.prog pt):PCOK Tryz.prog (ins 90 (rBh h) pt):=Zx (fun m hm=>e90 hf g hS hm.1 hm.2) hp
def lvA (n0 k len:Nat) (els:List (List AV)):AV:=match k with
 | 0=>.isl 8 els
 | _=>.asl n0 0 len
theorem e50 {h:Hal} (hf:h.few) (g:h.fine) (hS:SortsK Tryz.prog 215 2) {o:V} (k:InSrc h o) {n:Nat} (hn:n<=2):PCall Tryz.prog 50 [h.av,P2 o.1 o.2,I n] ⟨.isl 8 ((outB h.cs o n).map bmA),[]⟩:=by
 have c88:=e88 hf g hS k
 have hlev:=fun j hj=>Ug g k j hj
 have hlen:=fun j hj=>Zcq g k j hj
 have holen:=fun j hj=>Zru g k j hj
 have hr0:Zl h.cs o≠[]:=by
  intro q
  have:=(hlen 0 (by omega)).2
  rw [show levB h.cs o 0=Zl h.cs o from rfl,q] at this
  simp at this
 have hr1:=(hlen 0 (by omega)).1
 have c89:=e89 (L:=Zl h.cs o) hr0 (by rw [show levB h.cs o 0=Zl h.cs o from rfl] at hr1; omega)
 have hk:PCOK Tryz.prog (ins 88 (one [h.av,P2 o.1 o.2] ⟨.isl 8 ((Zl h.cs o).map bmA),[]⟩) (ins 89 (one [.isl 8 ((Zl h.cs o).map bmA)] ⟨.asl 0 0 ((Zl h.cs o).map bmA).length,[(8,(Zl h.cs o).map bmA)]⟩) (ins 90 (rBh h) pt0))) :=
  Zf c88 (Zf c89 (Yfm hf g hS Ze))
 have hhit:=fun (m:Bm) (q:GoodB h m) (q2:m.ws.length<4)=>Yc9 q q2
 have hb:=fun (m:Bm) (q:GoodB h m) (q2:m.ws.length<4)=>Zqy g q q2
 refine La (res:=⟨.asl 0 0 ((outB h.cs o n).map bmA).length,[(8,(outB h.cs o n).map bmA)]⟩) ?_ ⟨rfl,rfl,rfl⟩
 generalize hRR:rBh h=TB at *
 obtain ⟨ox,oy⟩:=o
 dsimp only at *
 have hlv0:levB h.cs (ox,oy) 0=Zl h.cs (ox,oy):=rfl
 have hou0:outB h.cs (ox,oy) 0=Zl h.cs (ox,oy):=rfl
 generalize hR0:Zl h.cs (ox,oy)=R0 at *
 refine pn hk Tryz.func50 ?_
 repeat'(first|refine wk3 ?_|(refine wk2 ?_ ?_<;>intro _)|fail)
 refine Ybl (S:=Nat × Nat × Int × Nat × List (List AV) × Nat × List (List AV)) (fun t=>n-t.2.1) (fun t=>[(3,.ptr 0 0 0),(4,.ptr 1 0 0),(7,lvA 4 t.1 t.2.2.2.1 t.2.2.2.2.1),(8,.asl 3 0 t.2.2.2.2.2.1),(17,I (n:Int)),(18,I t.2.2.1)])
  (fun t=>gz 4 8 t.1 t.2.2.2.2.1 [(3,.row 8 t.2.2.2.2.2.2 true true),(1,.row 2 [[I ox,I oy]] true false),(0,.row 9 [h.cells] true false)]) 3 5
  (fun t=>t.1=t.2.1/\t.2.2.1=t.2.1/\t.2.1<=n/\t.2.2.2.1=t.2.2.2.2.1.length/\t.2.2.2.2.1=(levB h.cs (ox,oy) t.2.1).map bmA/\t.2.2.2.2.2.1=t.2.2.2.2.2.2.length/\t.2.2.2.2.2.2=(outB h.cs (ox,oy) t.2.1).map bmA)
  (0,0,0,(R0.map bmA).length,R0.map bmA,(R0.map bmA).length,R0.map bmA) ⟨rfl,rfl,Qq _,rfl,by rw [hlv0],rfl,by rw [hou0]⟩ (Qe _) [(3,2)] rfl (kps) (kps) ?_
 rintro ⟨k,j,i,len,lels,ol,oels⟩ ⟨hkj,hi,hj,hle,hlels,hol,hoels⟩
 dsimp only at hkj hi hj hle hlels hol hoels ⊢
 subst hi
 by_cases hlt:j<n
 ·have L1:=hlev j (by omega)
  have L2:=(hlen j (by omega)).1
  have L3:=(holen j (by omega)).1
  have L4:=(hlen j (by omega)).2
  have hp1:12 ^ j<=12 ^ 2:=Nat.pow_le_pow_right (by omega) (by omega)
  have eL:levB h.cs (ox,oy) (j+1)=(levB h.cs (ox,oy) j).flatMap (behB h.cs):=rfl
  have eO:outB h.cs (ox,oy) (j+1)=outB h.cs (ox,oy) j++levB h.cs (ox,oy) (j+1):=rfl
  generalize hLL:levB h.cs (ox,oy) j=L at *
  have hbL:∀ m∈L,(behB h.cs m).length<=12/\1<=(behB h.cs m).length:=fun m hm=>hb m (L1 m hm).1 (by have:=(L1 m hm).2; omega)
  have l5:lels.length=L.length:=by rw [hlels,Qj]
  have l6:oels.length<10000:=by rw [hoels,Qj]; omega
  cases k with
  | zero =>
   refine bs.av (sx:=nos) hk ?_
   repeat'(first|refine wk3 ?_|(refine wk2 ?_ ?_<;>intro _)|fail)
   refine Zn (S:=Nat × Nat × Int × Nat × List (List AV)) (fun t=>L.length-t.2.1) (fun t=>[(3,.ptr 0 0 0),(4,.ptr 1 0 0),(8,.asl 3 0 ol),(17,I (n:Int)),(18,I (j:Int)),(9,gv 5 t.1 t.2.2.2.1),(20,.isl 8 lels),(21,I lels.length),(22,I t.2.2.1)])
    (fun t=>gz 5 8 t.1 t.2.2.2.2 [(3,.row 8 oels true true),(1,.row 2 [[I ox,I oy]] true false),(0,.row 9 [h.cells] true false)]) 5 6
    (fun t=>t.1=t.2.1/\t.2.2.1=t.2.1/\t.2.1<=L.length/\t.2.2.2.1=t.2.2.2.2.length/\t.2.2.2.2=((L.take t.2.1).flatMap (behB h.cs)).map bmA)
    (0,0,0,0,[]) ⟨rfl,rfl,Qq _,rfl,rfl⟩ (Qe _) [] rfl (kps) (kps) ?_
   rintro ⟨k2,j2,i2,nl2,nels⟩ ⟨hk2,hi2,hj2,hn2,hnels⟩
   dsimp only at hk2 hi2 hj2 hn2 hnels ⊢
   subst hi2
   have hnl:nels.length<=L.length*12:=by
    have h1:=(Zh8 (behB h.cs) 12 (L.take j2) (fun m hm=>hbL m (Dc hm))).1
    rw [hnels,Qj]
    rw [Sv,Og hj2] at h1
    have:=Rt 12 hj2
    omega
   by_cases hlt2:j2<L.length
   ·have hg:=L1 L[j2] (Qn hlt2)
    have hb2:=hhit L[j2] hg.1 (by omega)
    have hb3:=hb L[j2] hg.1 (by omega)
    have e1:lels[0+((j2:Nat):Int).toNat]?=some (bmA L[j2]):=by
     rw [Sb,Re,hlels,Rn,Qd hlt2]
     rfl
    have e0:lels[((j2:Nat):Int).toNat]?=some (bmA L[j2]):=by rwa [Sb] at e1
    have e2:((L.take (j2+1)).flatMap (behB h.cs)).map bmA=nels++(behB h.cs L[j2]).map bmA:=by
     rw [Qv hlt2,Oe,Ro,<-hnels]
     simp
    have o1:=Za7 (behB h.cs L[j2])
    have l7:((behB h.cs L[j2]).map bmA).length=(behB h.cs L[j2]).length:=Qj _
    generalize (behB h.cs L[j2]).map bmA=E at *
    obtain ⟨Aw,q1,q2,q3,q4,q5,q6,q7,eA,hAw⟩:=Zj6 L[j2]
    rw [eA] at e0 e1 hb2
    have hap:decide (nl2=nels.length/\nels.length+E.length<=limB 80)=true:=by
     have hz:limB 80=1759218604441:=by decide
     rw [hz]
     exact decide_eq_true (by omega)
    cases E with
    | nil=>rw [Ri] at l7; omega
    | cons x r =>
     rcases hAw with rfl|⟨E0,rfl⟩
     all_goals
      cases k2 with
      | zero =>
       have hz:nels=[]:=by rw [hnels,<-hk2]; rfl
       subst hz
       refine bs.av (sx:=nos) hk ?_
       repeat'(first|refine wk3 ?_|(refine wk2 ?_ ?_<;>intro _)|fail)
       exact Qr ⟨(1,j2+1,_,_,x::r),[(5,7)],rfl,kps,kps,⟨by show 1=j2+1; omega,Zb (by omega),hlt2,rfl,e2.symm⟩,by show L.length-(j2+1)<L.length-j2; omega⟩
      | succ k2 =>
       refine bs.av (sx:=nos) hk ?_
       repeat'(first|refine wk3 ?_|(refine wk2 ?_ ?_<;>intro _)|fail)
       exact Qr ⟨(k2+2,j2+1,_,_,nels++x::r),[(5,7)],rfl,kps,kps,⟨by show k2+2=j2+1; omega,Zb (by omega),hlt2,by exact List.length_append.symm,e2.symm⟩,by show L.length-(j2+1)<L.length-j2; omega⟩
   have hj2n:j2=L.length:=by omega
   subst hj2n
   rw [Wo,<-eL] at hnels
   obtain ⟨q,rfl⟩:∃ q,k2=q+1:=⟨k2-1,by omega⟩
   have e5:(outB h.cs (ox,oy) (j+1)).map bmA=oels++nels:=by rw [eO,Ro,<-hoels,<-hnels]
   have hraw:Wx nl2 (Wy 0 nels)=nels:=by rw [Wd,hn2,Wo]
   have hap3:Xr (Wx nl2 (Wy 0 nels))=true:=by rw [hraw,hnels]; exact Za7 _
   have hap2:decide (ol=oels.length/\oels.length+(Wx nl2 (Wy 0 nels)).length<=limB 80)=true:=by
    have hz:limB 80=1759218604441:=by decide
    rw [hz,hraw]
    exact decide_eq_true (by omega)
   refine bs.av (sx:=nos) hk ?_
   repeat'(first|refine wk3 ?_|(refine wk2 ?_ ?_<;>intro _)|fail)
   exact Qr ⟨(1,j+1,_,nl2,nels,_,oels++Wx nl2 (Wy 0 nels)),[(3,6),(4,5)],rfl,kps,kps,⟨by show 1=j+1; omega,Zb (by omega),hlt,hn2,hnels,by exact List.length_append.symm,by rw [hraw]; exact e5.symm⟩,by show n-(j+1)<n-j; omega⟩
  | succ k =>
   refine bs.av (sx:=nos) hk ?_
   repeat'(first|refine wk3 ?_|(refine wk2 ?_ ?_<;>intro _)|fail)
   refine Zn (S:=Nat × Nat × Int × Nat × List (List AV)) (fun t=>L.length-t.2.1) (fun t=>[(3,.ptr 0 0 0),(4,.ptr 1 0 0),(8,.asl 3 0 ol),(17,I (n:Int)),(18,I (j:Int)),(9,gv 5 t.1 t.2.2.2.1),(20,.asl 4 0 len),(21,I len),(22,I t.2.2.1)])
    (fun t=>gz 5 8 t.1 t.2.2.2.2 [(4,.row 8 lels true true),(3,.row 8 oels true true),(1,.row 2 [[I ox,I oy]] true false),(0,.row 9 [h.cells] true false)]) 5 6
    (fun t=>t.1=t.2.1/\t.2.2.1=t.2.1/\t.2.1<=L.length/\t.2.2.2.1=t.2.2.2.2.length/\t.2.2.2.2=((L.take t.2.1).flatMap (behB h.cs)).map bmA)
    (0,0,0,0,[]) ⟨rfl,rfl,Qq _,rfl,rfl⟩ (Qe _) [] rfl (kps) (kps) ?_
   rintro ⟨k2,j2,i2,nl2,nels⟩ ⟨hk2,hi2,hj2,hn2,hnels⟩
   dsimp only at hk2 hi2 hj2 hn2 hnels ⊢
   subst hi2
   have hnl:nels.length<=L.length*12:=by
    have h1:=(Zh8 (behB h.cs) 12 (L.take j2) (fun m hm=>hbL m (Dc hm))).1
    rw [hnels,Qj]
    rw [Sv,Og hj2] at h1
    have:=Rt 12 hj2
    omega
   by_cases hlt2:j2<L.length
   ·have hg:=L1 L[j2] (Qn hlt2)
    have hb2:=hhit L[j2] hg.1 (by omega)
    have hb3:=hb L[j2] hg.1 (by omega)
    have e1:lels[0+((j2:Nat):Int).toNat]?=some (bmA L[j2]):=by
     rw [Sb,Re,hlels,Rn,Qd hlt2]
     rfl
    have e0:lels[((j2:Nat):Int).toNat]?=some (bmA L[j2]):=by rwa [Sb] at e1
    have e2:((L.take (j2+1)).flatMap (behB h.cs)).map bmA=nels++(behB h.cs L[j2]).map bmA:=by
     rw [Qv hlt2,Oe,Ro,<-hnels]
     simp
    have o1:=Za7 (behB h.cs L[j2])
    have l7:((behB h.cs L[j2]).map bmA).length=(behB h.cs L[j2]).length:=Qj _
    generalize (behB h.cs L[j2]).map bmA=E at *
    obtain ⟨Aw,q1,q2,q3,q4,q5,q6,q7,eA,hAw⟩:=Zj6 L[j2]
    rw [eA] at e0 e1 hb2
    have hap:decide (nl2=nels.length/\nels.length+E.length<=limB 80)=true:=by
     have hz:limB 80=1759218604441:=by decide
     rw [hz]
     exact decide_eq_true (by omega)
    cases E with
    | nil=>rw [Ri] at l7; omega
    | cons x r =>
     rcases hAw with rfl|⟨E0,rfl⟩
     all_goals
      cases k2 with
      | zero =>
       have hz:nels=[]:=by rw [hnels,<-hk2]; rfl
       subst hz
       refine bs.av (sx:=nos) hk ?_
       repeat'(first|refine wk3 ?_|(refine wk2 ?_ ?_<;>intro _)|fail)
       exact Qr ⟨(1,j2+1,_,_,x::r),[(5,7)],rfl,kps,kps,⟨by show 1=j2+1; omega,Zb (by omega),hlt2,rfl,e2.symm⟩,by show L.length-(j2+1)<L.length-j2; omega⟩
      | succ k2 =>
       refine bs.av (sx:=nos) hk ?_
       repeat'(first|refine wk3 ?_|(refine wk2 ?_ ?_<;>intro _)|fail)
       exact Qr ⟨(k2+2,j2+1,_,_,nels++x::r),[(5,7)],rfl,kps,kps,⟨by show k2+2=j2+1; omega,Zb (by omega),hlt2,by exact List.length_append.symm,e2.symm⟩,by show L.length-(j2+1)<L.length-j2; omega⟩
   have hj2n:j2=L.length:=by omega
   subst hj2n
   rw [Wo,<-eL] at hnels
   obtain ⟨q,rfl⟩:∃ q,k2=q+1:=⟨k2-1,by omega⟩
   have e5:(outB h.cs (ox,oy) (j+1)).map bmA=oels++nels:=by rw [eO,Ro,<-hoels,<-hnels]
   have hraw:Wx nl2 (Wy 0 nels)=nels:=by rw [Wd,hn2,Wo]
   have hap3:Xr (Wx nl2 (Wy 0 nels))=true:=by rw [hraw,hnels]; exact Za7 _
   have hap2:decide (ol=oels.length/\oels.length+(Wx nl2 (Wy 0 nels)).length<=limB 80)=true:=by
    have hz:limB 80=1759218604441:=by decide
    rw [hz,hraw]
    exact decide_eq_true (by omega)
   refine bs.av (sx:=nos) hk ?_
   repeat'(first|refine wk3 ?_|(refine wk2 ?_ ?_<;>intro _)|fail)
   exact Qr ⟨(k+2,j+1,_,nl2,nels,_,oels++Wx nl2 (Wy 0 nels)),[(3,6),(4,5)],rfl,kps,kps,⟨by show k+2=j+1; omega,Zb (by omega),hlt,hn2,hnels,by exact List.length_append.symm,by rw [hraw]; exact e5.symm⟩,by show n-(j+1)<n-j; omega⟩
 have hjn:j=n:=by omega
 subst hjn
 subst hoels
 cases k with
 | zero =>
  refine bs.av (sx:=nos) hk ?_
  repeat'(first|refine wk3 ?_|(refine wk2 ?_ ?_<;>intro _)|fail)
  exact Yk [3] rfl (by rw [hol]; rfl) rfl
 | succ k =>
  refine bs.av (sx:=nos) hk ?_
  repeat'(first|refine wk3 ?_|(refine wk2 ?_ ?_<;>intro _)|fail)
  exact Yk [3] rfl (by rw [hol]; rfl) rfl
theorem e56 {a b:List Int} (hl:a.length<1000000) (hb:b.length<1000000):PCall Tryz.prog 56 [.isl 1 (nl a),.isl 1 (nl b)] ⟨Bo (eqN a b),[]⟩:=by
 have l1:=Yv a
 have l2:=Yv b
 refine pn Ze Tryz.func56 ?_
 by_cases hlen:a.length=b.length
 ·repeat'(first|refine wk3 ?_|(refine wk2 ?_ ?_<;>intro _)|fail)
  refine Zn (S:=Nat × Int) (fun t=>a.length-t.1) (fun t=>[(0,.isl 1 (nl a)),(1,.isl 1 (nl b)),(12,I (nl a).length),(13,I t.2)]) (fun _=>[]) 0 0 (fun t=>t.2=t.1/\t.1<=a.length/\eqN (a.drop t.1) (b.drop t.1)=eqN a b) (0,0) ⟨rfl,Qq _,rfl⟩ (Qe _) [] rfl (kps) (kps) ?_
  rintro ⟨k,i⟩ ⟨hi,hk,hh⟩
  dsimp only at hi hk hh ⊢
  subst hi
  refine bs.av (sx:=nos) Ze ?_
  by_cases hlt:k<a.length
  ·have e1:=Zet hlt
   have e2:=Zet (ns:=b) (k:=k) (by omega)
   rw [Ql hlt,Ql (show k<b.length by omega),eqN] at hh
   by_cases he:a[k]=b[k]'(by omega)
   ·rw [decide_eq_true he,Wm] at hh
    repeat'(first|refine wk3 ?_|(refine wk2 ?_ ?_<;>intro _)|fail)
    all_goals first|exact Qr ⟨(k+1,_),[],rfl,kps,kps,⟨Zb (by omega),hlt,hh⟩,by dsimp only; omega⟩|(exfalso; simp_all; done)
   ·rw [decide_eq_false he,Nm] at hh
    rw [<-hh]
    repeat'(first|refine wk3 ?_|(refine wk2 ?_ ?_<;>intro _)|fail)
    all_goals first|exact Za rfl|(exfalso; simp_all; done)
  ·rw [Qo (by omega),Qo (by omega)] at hh
   rw [<-hh]
   repeat'(first|refine wk3 ?_|(refine wk2 ?_ ?_<;>intro _)|fail)
   all_goals first|exact Za rfl|(exfalso; simp_all; done)
 ·rw [Zxw hlen]
  repeat'(first|refine wk3 ?_|(refine wk2 ?_ ?_<;>intro _)|fail)
  all_goals first|exact Za rfl|(exfalso; simp_all; done)
def bmI (m:Bm):List AV:=[.isl 1 (nl m.ws),I m.o.1,I m.o.2,I m.a.1,I m.a.2,I m.b.1,I m.b.2,I m.nx]
theorem Zyo {a b:Bm} (e:bmI a=bmI b):a=b:=by
 obtain ⟨ws,o,p,q,nx⟩:=a
 obtain ⟨ws2,o2,p2,q2,nx2⟩:=b
 obtain ⟨ox,oy⟩:=o
 obtain ⟨px,py⟩:=p
 obtain ⟨qx,qy⟩:=q
 obtain ⟨ox2,oy2⟩:=o2
 obtain ⟨px2,py2⟩:=p2
 obtain ⟨qx2,qy2⟩:=q2
 unfold bmI at e
 simp only [Rf,Tj,Gw,true_and,and_true] at e
 obtain ⟨e0,e1,e2,e3,e4,e5,e6,e7⟩:=e
 rw [Yfx e0,e1,e2,e3,e4,e5,e6,e7]
def vE (a b:V):Bool:=decide (a.1=b.1)&&(decide (a.2=b.2)&&true)
theorem Yex {a b:V}:vE a b=true↔a=b:=by
 unfold vE
 rw [Pr,Qc,decide_eq_true_eq,decide_eq_true_eq,Prod.ext_iff]
def bmE (a b:Bm):Bool:=vE a.o b.o&&(vE a.a b.a&&(vE a.b b.b&&(decide (a.nx=b.nx)&&eqN a.ws b.ws)))
theorem Yep {a b:Bm}:bmE a b=true↔a=b:=by
 unfold bmE
 simp only [Qc,Yex,decide_eq_true_eq,eqN_iff]
 obtain ⟨ws,o,p,q,nx⟩:=a
 obtain ⟨ws2,o2,p2,q2,nx2⟩:=b
 simp only [Bm.mk.injEq]
 constructor
 ·rintro ⟨h1,h2,h3,h4,h5⟩; exact ⟨h5,h1,h2,h3,h4⟩
 ·rintro ⟨h1,h2,h3,h4,h5⟩; exact ⟨h2,h3,h4,h5,h1⟩
theorem e55i {a b:Bm} (ha:a.ws.length<1000) (hb:b.ws.length<1000):PCall Tryz.prog 55 [.agg (bmI a),.agg (bmI b)] ⟨Bo (bmE a b),[]⟩:=by
 have c56:=e56 (a:=a.ws) (b:=b.ws) (by omega) (by omega)
 have hk:=Zf c56 Ze
 obtain ⟨ws,⟨o1,o2⟩,⟨a1,a2⟩,⟨b1,b2⟩,nx⟩:=a
 obtain ⟨vs,⟨p1,p2⟩,⟨c1,c2⟩,⟨d1,d2⟩,ny⟩:=b
 unfold bmE bmI
 dsimp only at hk ⊢
 generalize eqN ws vs=E at *
 generalize nl ws=A at *
 generalize nl vs=B at *
 have f1:(decide (o1=p1)&&(decide (o2=p2)&&true))=vE (o1,o2) (p1,p2):=rfl
 have f2:(decide (a1=c1)&&(decide (a2=c2)&&true))=vE (a1,a2) (c1,c2):=rfl
 have f3:(decide (b1=d1)&&(decide (b2=d2)&&true))=vE (b1,b2) (d1,d2):=rfl
 generalize vE (o1,o2) (p1,p2)=q1 at *
 generalize vE (a1,a2) (c1,c2)=q2 at *
 generalize vE (b1,b2) (d1,d2)=q3 at *
 cases q1
 ·refine pn hk Tryz.func55 ?_
  repeat'(first|refine wk3 ?_|(refine wk2 ?_ ?_<;>intro _)|fail)
  all_goals first|exact Za rfl|(exfalso; clear hk c56; simp_all; done)
 cases q2
 ·refine pn hk Tryz.func55 ?_
  repeat'(first|refine wk3 ?_|(refine wk2 ?_ ?_<;>intro _)|fail)
  all_goals first|exact Za rfl|(exfalso; clear hk c56; simp_all; done)
 cases q3
 ·refine pn hk Tryz.func55 ?_
  repeat'(first|refine wk3 ?_|(refine wk2 ?_ ?_<;>intro _)|fail)
  all_goals first|exact Za rfl|(exfalso; clear hk c56; simp_all; done)
 refine pn hk Tryz.func55 ?_
 repeat'(first|refine wk3 ?_|(refine wk2 ?_ ?_<;>intro _)|fail)
 all_goals first|exact Za rfl|(refine Za ?_; clear hk c56; simp_all; done)|(exfalso; clear hk c56; simp_all; done)
theorem Zrx (ws:List Int):NS (wsA ws) (.isl 1 (nl ws)):=by
 unfold wsA
 cases ws with
 | nil=>exact .inr ⟨rfl,1,rfl⟩
 | cons x r=>exact .inl rfl
theorem Yfz (m:Bm):NA (.agg (bmA m)) (.agg (bmI m)):=.inr ⟨_,_,rfl,rfl,Zrx _,.inl rfl,.inl rfl,.inl rfl,.inl rfl,.inl rfl,.inl rfl,.inl rfl,trivial⟩
theorem e55 {a b:Bm} (ha:a.ws.length<1000) (hb:b.ws.length<1000):PCall Tryz.prog 55 [.agg (bmA a),.agg (bmI b)] ⟨Bo (bmE a b),[]⟩:=PCall.nilArgs (e55i ha hb) ⟨Yfz a,NA.rfl,trivial⟩
noncomputable abbrev rBe:List AV->Option PRes:=famA (fun q:Bm × Bm=>q.1.ws.length<1000/\q.2.ws.length<1000) (fun q=>[.agg (bmA q.1),.agg (bmI q.2)]) (fun q=>⟨Bo (bmE q.1 q.2),[]⟩)
theorem Yda {a b:Bm} (ha:a.ws.length<1000) (hb:b.ws.length<1000):rBe [.agg (bmA a),.agg (bmI b)]=some ⟨Bo (bmE a b),[]⟩ :=
 Zq (p:=fun q:Bm × Bm=>q.1.ws.length<1000/\q.2.ws.length<1000) (g:=fun q=>[.agg (bmA q.1),.agg (bmI q.2)]) (r:=fun q=>⟨Bo (bmE q.1 q.2),[]⟩) (k:=(a,b)) (fun j hj=>by
  simp only [Rf,Pw,and_true] at hj
  have h1:=Zqw hj.1
  have h2:=Zyo hj.2
  rw [show j=(a,b) from Tp h1 h2]) ⟨ha,hb⟩
theorem Yfn {pt:PC} (h:PCOK Tryz.prog pt):PCOK Tryz.prog (ins 55 rBe pt):=Zx (fun q hq=>e55 hq.1 hq.2) h
def bmsE:List Bm->List Bm->Bool
 | [],[]=>true
 | x::a,y::b=>bmE x y&&bmsE a b
 | _,_=>false
theorem bmsE_iff:∀ {a b:List Bm},bmsE a b=true↔a=b
 | [],[]=>by simp [bmsE]
 | x::a,y::b=>by rw [bmsE,Qc,Yep,bmsE_iff]; simp
 | [],y::b=>by simp [bmsE]
 | x::a,[]=>by simp [bmsE]
theorem Yak {a b:List Bm} (h:a.length≠b.length):bmsE a b=false:=by
 rw [Qx,ne_eq,bmsE_iff]
 intro e; exact h (by rw [e])
theorem e57 {L M:List Bm} (hl:L.length<100000) (hm:M.length<100000) (hL:∀ m∈L,m.ws.length<1000) (hM:∀ m∈M,m.ws.length<1000):PCall Tryz.prog 57 [.isl 8 (L.map bmA),.isl 8 (M.map bmI),.func 55 [] []] ⟨Bo (bmsE L M),[]⟩:=by
 have hk:=Yfn Ze
 have hhit:=fun (a b:Bm) (ha:a.ws.length<1000) (hb:b.ws.length<1000)=>Yda ha hb
 have l1:(L.map bmA).length=L.length:=Qj _
 have l2:(M.map bmI).length=M.length:=Qj _
 generalize hTB:rBe=TB at *
 by_cases hlen:L.length=M.length
 ·refine pn hk Tryz.func57 ?_
  repeat'(first|refine wk3 ?_|(refine wk2 ?_ ?_<;>intro _)|fail)
  refine Zn (S:=Nat × Int) (fun t=>L.length-t.1) (fun t=>[(1,.isl 8 (M.map bmI)),(2,.func 55 [] []),(15,.isl 8 (L.map bmA)),(16,I (L.map bmA).length),(17,I t.2)]) (fun _=>[]) 0 0 (fun t=>t.2=t.1/\t.1<=L.length/\bmsE (L.drop t.1) (M.drop t.1)=bmsE L M) (0,0) ⟨rfl,Qq _,rfl⟩ (Qe _) [] rfl (kps) (kps) ?_
  rintro ⟨k,i⟩ ⟨hi,hkk,hh⟩
  dsimp only at hi hkk hh ⊢
  subst hi
  by_cases hlt:k<L.length
  ·have e1:(L.map bmA)[((k:Nat):Int).toNat]?=some (bmA L[k]):=by simp [hlt]
   have e2:(M.map bmI)[((k:Nat):Int).toNat]?=some (bmI (M[k]'(by omega))):=by simp [show k<M.length by omega]
   rw [Ql hlt,Ql (show k<M.length by omega),bmsE] at hh
   have t1:=hhit L[k] (M[k]'(by omega)) (hL _ (Qn _)) (hM _ (Qn _))
   obtain ⟨Aw,q1,q2,q3,q4,q5,q6,q7,eA,hAw⟩:=Zj6 L[k]
   generalize bmE L[k] (M[k]'(by omega))=E at *
   rw [eA] at e1 t1
   generalize hN:nl (M[k]'(by omega)).ws=N at *
   have e2:(M.map bmI)[((k:Nat):Int).toNat]?=some [.isl 1 N,I (M[k]'(by omega)).o.1,I (M[k]'(by omega)).o.2,I (M[k]'(by omega)).a.1,I (M[k]'(by omega)).a.2,I (M[k]'(by omega)).b.1,I (M[k]'(by omega)).b.2,I (M[k]'(by omega)).nx]:=by rw [e2,<-hN]; rfl
   have t1:TB [.agg [Aw,I q1,I q2,I q3,I q4,I q5,I q6,I q7],.agg [.isl 1 N,I (M[k]'(by omega)).o.1,I (M[k]'(by omega)).o.2,I (M[k]'(by omega)).a.1,I (M[k]'(by omega)).a.2,I (M[k]'(by omega)).b.1,I (M[k]'(by omega)).b.2,I (M[k]'(by omega)).nx]]=some ⟨Bo E,[]⟩:=by rw [<-t1,<-hN]; rfl
   generalize M[k]'(by omega)=m at *
   generalize L.map bmA=EL at *
   generalize M.map bmI=EM at *
   clear hTB hL hM hhit
   cases E with
   | true =>
    rw [Wm] at hh
    rcases hAw with rfl|⟨E0,rfl⟩
    all_goals
     refine bs.av (sx:=nos) hk ?_
     repeat'(first|refine wk3 ?_|(refine wk2 ?_ ?_<;>intro _)|fail)
    all_goals first|exact Qr ⟨(k+1,_),[],rfl,kps,kps,⟨Zb (by omega),hlt,hh⟩,by dsimp only; omega⟩|(exfalso; simp_all; done)
   | false =>
    rw [Nm] at hh
    rw [<-hh]
    rcases hAw with rfl|⟨E0,rfl⟩
    all_goals
     refine bs.av (sx:=nos) hk ?_
     repeat'(first|refine wk3 ?_|(refine wk2 ?_ ?_<;>intro _)|fail)
    all_goals first|exact Za rfl|(exfalso; simp_all; done)
  ·rw [Qo (by omega),Qo (by omega)] at hh
   have hh:true=bmsE L M:=hh
   rw [<-hh]
   generalize L.map bmA=EL at *
   generalize M.map bmI=EM at *
   refine bs.av (sx:=nos) hk ?_
   repeat'(first|refine wk3 ?_|(refine wk2 ?_ ?_<;>intro _)|fail)
   all_goals first|exact Za rfl|(exfalso; simp_all; done)
 ·rw [Yak hlen]
  generalize L.map bmA=EL at *
  generalize M.map bmI=EM at *
  refine pn hk Tryz.func57 ?_
  repeat'(first|refine wk3 ?_|(refine wk2 ?_ ?_<;>intro _)|fail)
  all_goals first|exact Za rfl|(exfalso; simp_all; done)
theorem e49 {h:Hal} (hk:h.ok) (he:h.err=0) {x y:Int} (hp:plaE h x y 1=0) {n:Int} (hn:0<=n/\n<=4):PCall Tryz.prog 49 [h.av,P2 x y,I n] ⟨.tup [h.av,I 0],[]⟩:=by
 have c38:=p164 hk
 have c40:=e40 hk he x y
 have c42:=d81 n
 have c39:=d78 (l:=[0,0]) (by decide)
 rw [he] at c38
 rw [hp] at c40
 have hw:within n 0 4=true:=within_iff.2 hn
 rw [hw] at c42
 have hkk:PCOK Tryz.prog (ins 38 (one [h.av] ⟨I 0,[]⟩) (ins 40 (one [h.av,P2 x y] ⟨I 0,[]⟩) (ins 42 (one [I n] ⟨I 0,[]⟩) (ins 39 (one [.isl 1 [[I 0],[I 0]]] ⟨I 0,[]⟩) pt0)))) :=
  Zf c38 (Zf c40 (Zf c42 (Zf c39 Ze)))
 refine pn hkk Tryz.func49 ?_
 repeat'(first|refine wk3 ?_|(refine wk2 ?_ ?_<;>intro _)|fail)
 exact Zg rfl rfl
theorem e17 {h:Hal} (hk:h.ok) (he:h.err=0) (g:h.fine) (hS:SortsK Tryz.prog 215 2) {o:V} (k:InSrc h o) (hp:plaE h o.1 o.2 1=0) {n:Nat} (hn:n<=2):PCall Tryz.prog 17 [h.av,P2 o.1 o.2,I n] ⟨.tup [.isl 8 ((outB h.cs o n).map bmA),I 0],[]⟩:=by
 have c49:=e49 hk he hp (n:=(n:Int)) (by omega)
 have c50:=e50 hk.f g hS k hn
 have hkk:=Zf c49 (Zf c50 Ze)
 obtain ⟨x,y⟩:=o
 dsimp only at hkk
 generalize (outB h.cs (x,y) n).map bmA=E at *
 refine pn hkk Tryz.func17 ?_
 repeat'(first|refine wk3 ?_|(refine wk2 ?_ ?_<;>intro _)|fail)
 exact Zg rfl rfl
abbrev InB (B:Int) (v:V):Prop:=(-B<=v.1/\v.1<=B)/\(-B<=v.2/\v.2<=B)
theorem modE {a b:Int} (h0:0<b):(if a.tmod b<0 then a.tmod b+b else a.tmod b)=a%b:=by
 have h3:=Int.emod_nonneg a (show b≠0 by omega)
 have h4:=Int.emod_lt_of_pos a h0
 rw [Int.tmod_eq_emod]
 split
 ·rw [if_neg (by omega)]
  omega
 ·rw [if_pos (by omega)]
  omega
theorem e18 {a b:Int} (h0:0<b) (h1:b<1000000):PCall Tryz.prog 18 [I a,I b] ⟨I (a%b),[]⟩:=by
 rw [<-modE h0]
 have hz:(!decide (b=0))=true:=by rw [decide_eq_false (by omega)]; rfl
 have h5:=Int.tmod_lt_of_pos a h0
 have h6:=Int.lt_tmod_of_pos a h0
 by_cases q:a.tmod b<0
 ·rw [if_pos q]
  have e1:Qa Qb (a.tmod b+b)=a.tmod b+b:=W_eq (by omega) (by omega)
  rw [<-e1]
  refine pn Ze Tryz.func18 ?_
  repeat'(first|refine wk3 ?_|(refine wk2 ?_ ?_<;>intro _)|fail)
  all_goals first|exact Zd rfl|(exfalso; simp_all; done)|(exfalso; simp_all; omega)
 ·rw [if_neg q]
  refine pn Ze Tryz.func18 ?_
  repeat'(first|refine wk3 ?_|(refine wk2 ?_ ?_<;>intro _)|fail)
  all_goals first|exact Zd rfl|(exfalso; simp_all; done)|(exfalso; simp_all; omega)
noncomputable abbrev rMm (h:Hal):List AV->Option PRes:=famA (fun q:Int × V=>(0<=q.1/\q.1<h.cs.length)/\InB 500000 q.2) (fun q=>[h.av,I q.1,P2 q.2.1 q.2.2]) (fun q=>⟨P2 (imgV h.cs q.1.toNat q.2).1 (imgV h.cs q.1.toNat q.2).2,[]⟩)
theorem Zvv {h:Hal} {w:Int} {v:V} (hw:0<=w/\w<h.cs.length) (hv:InB 500000 v):rMm h [h.av,I w,P2 v.1 v.2]=some ⟨P2 (imgV h.cs w.toNat v).1 (imgV h.cs w.toNat v).2,[]⟩ :=
 Zq (p:=fun q:Int × V=>(0<=q.1/\q.1<h.cs.length)/\InB 500000 q.2) (g:=fun q=>[h.av,I q.1,P2 q.2.1 q.2.2]) (r:=fun q=>⟨P2 (imgV h.cs q.1.toNat q.2).1 (imgV h.cs q.1.toNat q.2).2,[]⟩) (k:=(w,v)) (fun j hj=>by
  simp only [Rf,Tj,Pw,true_and,and_true] at hj
  rw [show j=(w,v) from Tp hj.1 (Tp hj.2.1 hj.2.2)]) ⟨hw,hv⟩
theorem Yfe {h:Hal} (hf:h.few) (g:h.fine) {pt:PC} (hp:PCOK Tryz.prog pt):PCOK Tryz.prog (ins 19 (rMm h) pt):=Zx (fun q hq=>by
 obtain ⟨n,hs⟩:=Ztg g (w:=q.1.toNat) (by omega)
 have:=e19 hf g (k:=q.1.toNat) (by omega) hs (x:=q.2.1) (y:=q.2.2) (by unfold sm6; omega) (by unfold sm6; omega)
 rw [show ((q.1.toNat:Nat):Int)=q.1 by omega] at this
 exact this) hp
theorem Zkx {h:Hal} (g:h.fine) {o:V} (k0:InSrc h o):∀ n,n<=4->∃ rest,outB h.cs o n=Zl h.cs o++rest/\∀ m∈rest,m.ws≠[]
 | 0,_=>⟨[],by rw [List.append_nil]; rfl,fun m hm=>by cases hm⟩
 | n+1,hn=>by
  obtain ⟨r,e,hr⟩:=Zkx g k0 n (by omega)
  refine ⟨r++levB h.cs o (n+1),by rw [<-List.append_assoc,<-e]; rfl,fun m hm=>?_⟩
  rcases Si.1 hm with q|q
  ·exact hr m q
  ·have:=(Ug g k0 (n+1) hn m q).2
   intro z
   rw [z] at this
   cases this
theorem Zi3 {cs:List (Int × Int)} {o:V} {i:Nat} (hi:i<(Zl cs o).length):(Zl cs o)[i].ws=[]/\(Zl cs o)[i].a=getV (tO cs o) i/\(Zl cs o)[i].b=getV (tO cs o) ((i+1)%(Zl cs o).length):=by
 have hl:(Zl cs o).length=(tO cs o).length:=by unfold Zl; rw [Qj,Su]
 rw [hl]
 have e:(Zl cs o)[i]?=some ⟨[],o,getV (tO cs o) i,getV (tO cs o) ((i+1)%(tO cs o).length),nxtV cs o none (addV (getV (tO cs o) i) (getV (tO cs o) ((i+1)%(tO cs o).length)))⟩:=by
  unfold Zl
  rw [Rn,List.getElem?_range (by omega)]
  rfl
 rw [Qd hi] at e
 rw [Sh e]
 exact ⟨rfl,rfl,rfl⟩
structure BmL (h:Hal) (o:V) (n:Nat) (L:List Bm) (c:Nat):Prop where
 c3:3<=c
 cL:c<=L.length
 len:L.length<=2000
 low:∀ i (hi:i<L.length),i<c->L[i].ws=[]
 high:∀ i (hi:i<L.length),c<=i->L[i].ws≠[]
 good:∀ i (hi:i<L.length),GoodB h L[i]/\L[i].ws.length<=n
 mem:∀ i (hi:i<L.length),L[i]∈outB h.cs o n
 round:∀ i (hi:i<c) (h1:i<L.length) (h2:(i+1)%c<L.length),L[i].b=L[(i+1)%c].a
theorem bmL {h:Hal} (g:h.fine) {o:V} (k0:InSrc h o) {n:Nat} (hn:n<=2):BmL h o n (outB h.cs o n) (Zl h.cs o).length:=by
 obtain ⟨rest,e,hr⟩:=Zkx g k0 n (by omega)
 have hlen:=Zi9 g k0 hn
 have hg:=Zdo g k0 n (by omega)
 have h3:3<=(Zl h.cs o).length:=by
  unfold Zl
  rw [Qj,Su]
  exact (Zb4 g k0).1
 have hlow:∀ i (hi:i<(outB h.cs o n).length) (q:i<(Zl h.cs o).length),(outB h.cs o n)[i]=(Zl h.cs o)[i]:=fun i hi q=>by
  simp only [e]
  rw [List.getElem_append_left q]
 refine ⟨h3,by rw [e,Rd]; omega,hlen,fun i hi q=>?_,fun i hi q=>?_,fun i hi=>hg _ (Qn hi),fun i hi=>Qn hi,fun i hi h1 h2=>?_⟩
 ·rw [hlow i hi q]
  exact (Zi3 q).1
 ·have hm:(outB h.cs o n)[i]∈rest:=by
   simp only [e]
   rw [List.getElem_append_right q]
   exact Qn _
  exact hr _ hm
 ·have hj:(i+1)%(Zl h.cs o).length<(Zl h.cs o).length:=Nat.mod_lt _ (by omega)
  rw [hlow i h1 hi,hlow _ h2 hj,(Zi3 hi).2.2,(Zi3 hj).2.1]
end Go.Proofs.YtanbhfpalahjcaaGreat
