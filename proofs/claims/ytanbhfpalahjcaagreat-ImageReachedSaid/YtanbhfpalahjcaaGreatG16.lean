/- A part of the proof: lemmas. -/
import Derived.Test.YtanbhfpalahjcaaGreatG15
import Derived.Test.YtanbhfpalahjcaaGreatG14
set_option linter.unusedVariables false
set_option linter.unusedSimpArgs false
set_option maxRecDepth 100000
set_option maxHeartbeats 16000000
open Bool renaming and_eq_true->Qc,and_true->Oq,eq_false_iff->Qx,eq_iff_iff->Sc
open Go.Ge renaming cr->Si,ins->Kl
open Go.IntKind renaming i64->Qb,wrap->Qa
open Go.Sx.AV.agg renaming injEq->Pj
open Go.Sx.AV.int renaming injEq->Tt
open Go.Sx.Bd renaming mk->Dg
open Go.Sx.Done renaming mk->Qr
open Go.Sx.PCall renaming freeze->Nw
open Int renaming le_of_lt->Qg,le_of_mul_le_mul_left->Sw,le_refl->Wy,mul_comm->Rl,toNat_natCast->Ri
open List renaming append_assoc->Wm,drop->Wq,drop_eq_getElem_cons->Ql,drop_of_length_le->Qo,drop_zero->Tz,filter_cons->Ld,flatMap_append->Od,getElem?_eq_getElem->Qe,getElem?_map->Rr,getElem_mem->Qn,length->Oa,length_append->Rb,length_cons->Qz,length_filter_le->Mp,length_map->Qj,length_nil->Rh,length_range->Tf,length_reverse->Dd,length_singleton->Kr,length_take->Tu,map_append->Rm,map_cons->Ss,map_map->Ot,mem_append->Sh,mem_cons->Ra,mem_filter->Nb,mem_map->Ta,mem_of_mem_take->Da,mem_range->Rx,pairwise_iff_getElem->Tj,range->Rv,range_succ->Na,reverse_cons->Qah,take->Wp,take_length->Tl,take_of_length_le->Sz,take_succ_eq_append_getElem->Qu
open List.cons renaming inj->Ws,injEq->Rd
open Nat renaming le_of_ble_eq_true->Qm,le_refl->Qd,lt_or_ge->Wh,min_eq_left->Ns,mul_le_mul_right->Rt,zero_add->Sk,zero_le->Qp
open Option.some renaming inj->Sr
open Prod renaming ext->Tk
namespace Go.Proofs.YtanbhfpalahjcaaGreat
open Go Go.Sx Go.Ge
def btP (lo hi:V) (vs:List V) (j:Nat):List V:=lo::hi::(vs.take j).filter fun v=>decide (0<Si lo v)&&decide (0<Si v hi)
theorem Zs6 {lo hi:V} {vs:List V} {j:Nat} (hj:j<vs.length):btP lo hi vs (j+1)=if (decide (0<Si lo vs[j])&&decide (0<Si vs[j] hi))=true then btP lo hi vs j++[vs[j]] else btP lo hi vs j:=by
 unfold btP
 rw [Qu hj,List.filter_append,Ld,List.filter_nil]
 cases (decide (0<Si lo vs[j])&&decide (0<Si vs[j] hi))<;>simp
theorem Zm5 (lo hi:V) (vs:List V) (j:Nat):(btP lo hi vs j).length<=vs.length+2:=by
 unfold btP
 have:=Mp (fun v=>decide (0<Si lo v)&&decide (0<Si v hi)) (vs.take j)
 have h2:(vs.take j).length<=vs.length:=by rw [Tu]; omega
 simp only [Qz]
 omega
def gy (n0 n1 es k:Nat) (els:List (List AV)) (z:List (Nat × ABlk)):List (Nat × ABlk):=match k with
 | 0=>(n0,.row es els true true)::z
 | _=>(n1,.row es els true true)::z
def gw (n0 n1 k len:Nat):AV:=match k with
 | 0=>.asl n0 0 len
 | _=>.asl n1 0 len
theorem e90 {h:Hal} (hf:h.few) (g:h.fine) (hS:SortsK Tryz.prog 215 2) {m:Bm} (G:GoodB h m) (hlen:m.ws.length<4):PCall Tryz.prog 90 [h.av,.agg (bmA m)] ⟨.isl 8 ((behB h.cs m).map bmA),[]⟩:=by
 have B:=Zs8 g G hlen
 have hgood:=Zfo g G hlen
 obtain ⟨w,enx,_⟩:=G.sec
 have e2:m.nx.toNat=w:=by omega
 rw [e2] at B
 have hT:=fun ys=>Yfk g B (ys:=ys)
 obtain ⟨s1,_,s3,_⟩:=Zga g B
 have hL:∀ l,some w=some l->l<h.cs.length:=fun l q=>by cases q; exact B.wl
 have mlo:=Zv0 (h:=h) (w:=w) (v:=m.b) (Zav G.bb)
 have mhi:=Zv0 (h:=h) (w:=w) (v:=m.a) (Zav G.ba)
 have hob:OB m.o:=⟨by have:=G.ox; omega,by have:=G.ox; omega⟩
 have c81:=e81i hf g B.wl hob
 have c120:=e120 (ws:=m.ws) (by omega)
 have hRB:behB h.cs m=(Rv ((tB h.cs (imgO h.cs w m.o) w (imgV h.cs w m.b) (imgV h.cs w m.a)).length-1)).map fun i=>⟨m.ws++[m.nx],imgO h.cs w m.o,getV (tB h.cs (imgO h.cs w m.o) w (imgV h.cs w m.b) (imgV h.cs w m.a)) i,getV (tB h.cs (imgO h.cs w m.o) w (imgV h.cs w m.b) (imgV h.cs w m.a)) (i+1),nxtV h.cs (imgO h.cs w m.o) (some w) (addV (getV (tB h.cs (imgO h.cs w m.o) w (imgV h.cs w m.b) (imgV h.cs w m.a)) i) (getV (tB h.cs (imgO h.cs w m.o) w (imgV h.cs w m.b) (imgV h.cs w m.a)) (i+1)))⟩:=by
  unfold behB
  rw [e2]
 have hit:=Zvn hf g B.ob hL
 have hln:=Zi5 g (imgO h.cs w m.o) (some w)
 have c170:=e170 h (imgO h.cs w m.o).1 (imgO h.cs w m.o).2 (laI (some w))
 have hvs:=fun v=>Za1 g B.ob (L:=some w) hL (w:=v)
 have hlw:Zw (m.ws++[m.nx])=some w:=by rw [enx]; exact Zju _ _
 have hW:∀ v∈Vl h.cs (imgO h.cs w m.o) (some w),v≠(0,0)/\Vb v:=fun v hv=>by
  obtain ⟨j,hj,e,h1,_⟩:=(hvs v).1 hv
  refine ⟨h1,Zav ?_⟩
  rw [e,Zlx _ hj]
  exact Zc2 g B.ob (Qn hj)
 have hbl:btwL h.cs (imgO h.cs w m.o) w (imgV h.cs w m.b) (imgV h.cs w m.a)=(Vl h.cs (imgO h.cs w m.o) (some w)).filter fun v=>decide (0<Si (imgV h.cs w m.b) v)&&decide (0<Si v (imgV h.cs w m.a)):=rfl
 have hbeam:=fun (a b:V) (q:(g1 a/\g1 b)/\(((-50000<=a.1/\a.1<=50000)/\(-50000<=a.2/\a.2<=50000))/\((-50000<=b.1/\b.1<=50000)/\(-50000<=b.2/\b.2<=50000)))/\LP h.cs (imgO h.cs w m.o) (Zw (m.ws++[m.nx])) (addV a b))=>e172 hf g (ws:=m.ws++[m.nx]) B.ob (by rw [Rb,Kr]; omega) (by
   intro x hx
   rcases Sh.1 hx with q|q
   ·exact (G.ws x q).1
   ·rw [List.mem_singleton.1 q]; omega) q.1.1 q.1.2 q.2.1.1 q.2.1.2 q.2.2
 have k82:=Yfr hf g B.wl Ze
 have b0:=B.pos
 have b1:=B.gl
 have b2:=B.gh
 have b3:=Zav B.bl
 have b4:=Zav B.bh
 generalize hvsd:Vl h.cs (imgO h.cs w m.o) (some w)=vs at *
 generalize hBL:btwL h.cs (imgO h.cs w m.o) w (imgV h.cs w m.b) (imgV h.cs w m.a)=BL at *
 generalize hTT:tB h.cs (imgO h.cs w m.o) w (imgV h.cs w m.b) (imgV h.cs w m.a)=T at *
 generalize hio:imgO h.cs w m.o=io at *
 generalize hlo:imgV h.cs w m.b=lo at *
 generalize hhi:imgV h.cs w m.a=hi at *
 have hk:PCOK Tryz.prog (ins 81 (one [h.av,I w,P2 m.o.1 m.o.2] ⟨P2 io.1 io.2,[]⟩) (ins 43 rWy (ins 170 (one [h.av,P2 io.1 io.2,I (laI (some w))] ⟨.func 218 [] (capS h io.1 io.2 (laI (some w))),[]⟩) (ins 54 rBt (ins 214 rTu (ins 120 (one [wsA m.ws] (clR m.ws)) (ins 172 (rBm h (m.ws++[m.nx]) io (nxtV h.cs io (Zw (m.ws++[m.nx])))) (ins 82 (rMv h w) pt0)))))))) :=
  Zf c81 (Zk (fun a res h=>by unfold rWy at h; split at h<;>cases h; exact d93 _ _) (Zf c170 (Ybt (Zvv (Zf c120 (Zn (fun q hq=>hbeam q.1 q.2 hq) k82))))))
 have hbw:∀ v∈vs,btW lo hi v=(decide (0<Si lo v)&&decide (0<Si v hi)):=fun v hv=>Zs5 b3 b4 (hW v hv).2 b0
 refine Nw (res:=⟨.asl 0 0 ((behB h.cs m).map bmA).length,[(8,(behB h.cs m).map bmA)]⟩) ?_ ⟨rfl,rfl,rfl⟩
 rw [hRB] at hgood ⊢
 clear hRB c81 c120 c170 k82 hln hvs
 generalize hF:(fun i=>(⟨m.ws++[m.nx],io,getV T i,getV T (i+1),nxtV h.cs io (some w) (addV (getV T i) (getV T (i+1)))⟩:Bm))=F at *
 obtain ⟨ws,o,a,b,nx⟩:=m
 dsimp only at *
 subst enx
 have hl1:laI (some w)=(w:Int):=rfl
 rw [hl1] at *
 obtain ⟨iox,ioy⟩:=io
 obtain ⟨lx,ly⟩:=lo
 obtain ⟨hx,hy⟩:=hi
 obtain ⟨ox,oy⟩:=o
 obtain ⟨ax,ay⟩:=a
 obtain ⟨bx,by'⟩:=b
 dsimp only at *
 generalize rMv h w=TM at *
 unfold bmA
 dsimp only
 generalize hTB:rBm h (ws++[(w:Int)]) (iox,ioy) (nxtV h.cs (iox,ioy) (Zw (ws++[(w:Int)])))=TB at *
 generalize hwA:wsA ws=A at *
 have hA:(A = .nils/\clR ws=⟨.nils,[]⟩/\wsA (ws++[(w:Int)]) = .isl 1 [[I (w:Int)]])\/∃ E:List (List AV),A = .isl 1 E/\clR ws=⟨.asl 0 0 E.length,[(1,E)]⟩/\wsA (ws++[(w:Int)]) = .isl 1 (Wp (E.length+[[I (w:Int)]].length) (Wq 0 (E++[[I (w:Int)]])))/\E.length<1000:=by
  cases ws with
  | nil=>exact .inl ⟨hwA.symm,rfl,rfl⟩
  | cons x r=>exact .inr ⟨nl (x::r),hwA.symm,rfl,by unfold wsA nl; simp [Sz],by rw [Zp]; omega⟩
 have hF2:∀ i,F i=(⟨ws++[(w:Int)],(iox,ioy),getV T i,getV T (i+1),nxtV h.cs (iox,ioy) (some w) (addV (getV T i) (getV T (i+1)))⟩:Bm):=fun i=>by rw [<-hF]
 clear hF
 generalize hcl:clR ws=cl at *
 have hlv:vs.length<=12:=by rw [<-hvsd]; exact Zi5 g _ _
 rcases hA with ⟨rfl,rfl,ew⟩|⟨E,rfl,rfl,ew,hEl⟩
 ·refine bs.pv (sx:=Yh) hk Tryz.func90 (by kernel_rfl) (by kernel_rfl) rfl ?_
  repeat'(first|refine wk3 ?_|(refine wk2 ?_ ?_<;>intro _)|fail)
  refine Rg.ren (env2:=[(2,.ptr 0 0 0),(3,.ptr 1 0 0),(5,.ptr 2 0 0),(6,.ptr 17 0 0),(7,.ptr 18 0 0),(8,.ptr 22 0 0),(39,.func 218 [] (capS h iox ioy (laI (some w))))]) (σ2:=⟨[(21,.row 2 [[I lx,I ly],[I hx,I hy]] true true),(22,.row 1 [[.asl 21 0 2]] true false),(18,.row 2 [[I hx,I hy]] true false),(17,.row 2 [[I lx,I ly]] true false),(2,.row 2 [[I iox,I ioy]] true false),(1,.row 8 [[.nils,I ox,I oy,I ax,I ay,I bx,I by',I (w:Int)]] true false),(0,.row 9 [h.cells] true false)],23⟩) (Ren.of [] rfl (kps) (kps)) ?_
  refine rngV hit rfl rfl rfl rfl (Zmd (S:=Nat × Nat × Nat × List (List AV)) (fun s=>gy 21 23 2 s.1 s.2.2.2 [(22,.row 1 [[gw 21 23 s.1 s.2.2.1]] true false),(18,.row 2 [[I hx,I hy]] true false),(17,.row 2 [[I lx,I ly]] true false),(2,.row 2 [[I iox,I ioy]] true false),(1,.row 8 [[.nils,I ox,I oy,I ax,I ay,I bx,I by',I (w:Int)]] true false),(0,.row 9 [h.cells] true false)]) 23 (fun s=>nm2 23 24 s.1)
   (fun xs s=>s.2.1<=vs.length/\xs=(vs.drop s.2.1).map wy/\s.2.2.1=s.2.2.2.length/\s.2.2.2=(btP (lx,ly) (hx,hy) vs s.2.1).map wv) ?_ ?_ _ (0,0,2,[[I lx,I ly],[I hx,I hy]]) ⟨Qp _,rfl,rfl,rfl⟩)
  ·rintro x xs ⟨k,j,len,els⟩ ⟨hj,hxx,hlen,he⟩
   dsimp only at hj hxx hlen he ⊢
   have hlt:j<vs.length:=by
    rcases Wh j vs.length with c|c
    ·exact c
    ·rw [Qo c] at hxx; cases hxx
   rw [Ql hlt,Ss] at hxx
   obtain ⟨rfl,rfl⟩:=Ws hxx
   have e4:els.length<2000:=by
    have:=Zm5 (lx,ly) (hx,hy) vs j
    rw [he,Qj]; omega
   have e5:=Zs6 (lo:=(lx,ly)) (hi:=(hx,hy)) hlt
   have e6:=hbw vs[j] (Qn hlt)
   rw [<-e6] at e5
   clear e6
   generalize vs[j]=v at *
   obtain ⟨vx,vy⟩:=v
   refine ⟨rfl,?_⟩
   cases k with
   | zero =>
    refine bs.av (sx:=Yh) hk ?_
    repeat'(first|refine wk3 ?_|(refine wk2 ?_ ?_<;>intro _)|fail)
    refine Dg (bs.av (sx:=Yh) hk ?_)
    repeat'(first|refine wk3 ?_|(refine wk2 ?_ ?_<;>intro _)|fail)
    ·rename_i q
     rw [if_pos q] at e5
     exact Qr ⟨(0+1,j+1,_,els++[wv (vx,vy)]),[(23,25)],rfl,kps,hlt,rfl,by exact List.length_append.symm,by rw [e5,Rm,<-he]; rfl⟩
    ·rename_i q
     rw [if_neg (by rw [q]; decide)] at e5
     exact Qr ⟨(0,j+1,len,els),[],rfl,kps,hlt,rfl,hlen,by rw [e5]; exact he⟩
   | succ k =>
    refine bs.av (sx:=Yh) hk ?_
    repeat'(first|refine wk3 ?_|(refine wk2 ?_ ?_<;>intro _)|fail)
    refine Dg (bs.av (sx:=Yh) hk ?_)
    repeat'(first|refine wk3 ?_|(refine wk2 ?_ ?_<;>intro _)|fail)
    ·rename_i q
     rw [if_pos q] at e5
     exact Qr ⟨(k+1,j+1,_,els++[wv (vx,vy)]),[(23,26)],rfl,kps,hlt,rfl,by exact List.length_append.symm,by rw [e5,Rm,<-he]; rfl⟩
    ·rename_i q
     rw [if_neg (by rw [q]; decide)] at e5
     exact Qr ⟨(k+1,j+1,len,els),[(23,23)],rfl,kps,hlt,rfl,hlen,by rw [e5]; exact he⟩
  ·rintro ⟨k,j,len,els⟩ ⟨hj,hxx,hlen,he⟩
   dsimp only at hj hxx hlen he ⊢
   have hlt:vs.length<=j:=by
    rcases Wh j vs.length with c|c
    ·rw [Ql c] at hxx; cases hxx
    ·exact c
   have he2:els=((lx,ly)::(hx,hy)::BL).map wv:=by
    rw [he,hbl]
    unfold btP
    rw [Sz hlt]
   have hW2:∀ v∈(lx,ly)::(hx,hy)::BL,v≠(0,0)/\Vb v:=fun v hv=>by
    rcases Ra.1 hv with q|hv
    ·rw [q]; exact ⟨Zd0 b1,b3⟩
    ·rcases Ra.1 hv with q|hv
     ·rw [q]; exact ⟨Zd0 b2,b4⟩
     ·rw [hbl] at hv
      exact hW v ((Nb.1 hv).1)
   have hRd:((lx,ly)::(hx,hy)::BL).map red=(lx,ly)::(hx,hy)::BL.map red:=by
    rw [Ss,Ss,Zes b1,Zes b2]
   have hIn:∀ x∈((lx,ly)::(hx,hy)::BL).map red,g1 x/\Vb x/\inS (lx,ly) (hx,hy) x:=fun x hx=>by
    obtain ⟨v,hv,rfl⟩:=Ta.1 hx
    obtain ⟨q1,q2⟩:=hW2 v hv
    obtain ⟨gg,_,_,_,q5,_⟩:=Vq q1
    obtain ⟨q6,q7⟩:=Zhx q1 q2.1 q2.2
    refine ⟨q5,⟨q6,q7⟩,?_⟩
    rcases Ra.1 hv with q|hv
    ·rw [q,Zes b1]; exact ⟨by rw [Zj]; exact Wy 0,Qg b0⟩
    ·rcases Ra.1 hv with q|hv
     ·rw [q,Zes b2]; exact ⟨Qg b0,by rw [Zj]; exact Wy 0⟩
     ·rw [hbl] at hv
      have:=(Nb.1 hv).2
      rw [Qc,decide_eq_true_eq,decide_eq_true_eq] at this
      exact ⟨Qg ((Vh q1).2.2 this.1),Qg ((Vh q1).1.2 this.2)⟩
   have lv2:((lx,ly)::(hx,hy)::BL).length<1000:=by
    have:=Zm5 (lx,ly) (hx,hy) vs j
    rw [he2,Qj] at hlen
    have h2:((lx,ly)::(hx,hy)::BL).length=(btP (lx,ly) (hx,hy) vs j).length:=by
     have:=congrArg Oa (he2.symm.trans he)
     rwa [Qj,Qj] at this
    omega
   clear he hxx hlt hj
   subst he2
   rw [Qj] at hlen
   subst hlen
   generalize hv2:(lx,ly)::(hx,hy)::BL=v2 at *
   cases k with
   | zero =>
    repeat'(first|refine wk3 ?_|(refine wk2 ?_ ?_<;>intro _)|fail)
    refine bs.sv (sx:=Yh) hk Tryz.func168 (by kernel_rfl) (by kernel_rfl) ?_
    repeat'(first|refine wk3 ?_|(refine wk2 ?_ ?_<;>intro _)|fail)
    refine Zm (S:=Nat × Int × List (List AV)) (fun t=>v2.length-t.1) (fun t=>[(0,.asl 21 0 v2.length),(1,.func 173 [] []),(7,.asl 21 0 v2.length),(8,I v2.length),(9,I t.2.1)])
     (fun t=>[(21,.row 2 t.2.2 true true),(22,.row 1 [[.asl 21 0 v2.length]] true false),(18,.row 2 [[I hx,I hy]] true false),(17,.row 2 [[I lx,I ly]] true false),(2,.row 2 [[I iox,I ioy]] true false),(1,.row 8 [[.nils,I ox,I oy,I ax,I ay,I bx,I by',I (w:Int)]] true false),(0,.row 9 [h.cells] true false)]) 24 24 (fun t=>t.2.1=t.1/\t.1<=v2.length/\t.2.2=(mixR v2 t.1).map wv) (0,0,v2.map wv) ⟨rfl,Qp _,rfl⟩ (Qm rfl) [] rfl (kps) (kps) ?_
    rintro ⟨j,i,els⟩ ⟨hi,hj,hels⟩
    dsimp only at hi hj hels ⊢
    subst hi
    have lel:els.length=v2.length:=by rw [hels,Qj,Zf3]
    by_cases hlt:j<v2.length
    ·have e1:=Zf4 hlt
     have e2:=Zf2 hlt
     rw [<-hels] at e1 e2
     have t1:=hW2 v2[j] (Qn hlt)
     have t2:=Zfb t1.1 t1.2
     generalize v2[j]=v at *
     generalize red v=u at *
     obtain ⟨vx,vy⟩:=v
     obtain ⟨ux,uy⟩:=u
     refine bs.av (sx:=Yh) hk ?_
     repeat'(first|refine wk3 ?_|(refine wk2 ?_ ?_<;>intro _)|fail)
     exact Qr ⟨(j+1,Qa Qb ((j:Int)+1),Ze7 els (0+((j:Nat):Int).toNat) [I ux,I uy]),[],rfl,kps,kps,⟨Zb (by omega),hlt,e2⟩,by dsimp only; omega⟩
    have hjn:j=v2.length:=by omega
    subst hjn
    rw [Zf5] at hels
    obtain ⟨xs,hxs⟩:=subs (P:=fun v=>g1 v/\Vb v/\inS (lx,ly) (hx,hy) v) (v2.map red) hIn
    have hx2:els=xs.map (fun b:Ts (lx,ly) (hx,hy)=>wv b.1):=by rw [hels,<-hxs,Ot]; rfl
    have lxs:xs.length=v2.length:=by
     have:=congrArg Oa hxs
     simpa using this
    clear hels
    subst hx2
    refine bs.av (sx:=Yh) hk ?_
    repeat'(first|refine wk3 ?_|(refine wk2 ?_ ?_<;>intro _)|fail)
    rw [<-lxs]
    refine Zfr Zwg hS (by decide) (Zgl Tryz.func173 (by kernel_rfl) (by kernel_rfl)) (fun b:Ts (lx,ly) (hx,hy)=>wv b.1) (fun _=>rfl) (fun _=>rfl) (fun _=>rfl) (fun a b:Ts (lx,ly) (hx,hy)=>-(Si a.1 b.1)) (fun a _ b _=>Zfv (e173 a.2.2.1 b.2.2.1)) (Zm3 b0) (by omega) rfl fun ys hp hs=>?_
    have hys:=hT ys (by rw [<-hRd,<-hxs]; exact hp.map _) hs
    have e5:ys.map (fun b:Ts (lx,ly) (hx,hy)=>wv b.1)=T.map wv:=by rw [<-hys,Ot]; rfl
    rw [e5]
    repeat'(first|refine wk3 ?_|(refine wk2 ?_ ?_<;>intro _)|fail)
    have lT:(T.map wv).length=T.length:=Qj _
    have lx2:xs.length=T.length:=by rw [<-hys,Qj]; exact hp.length_eq.symm
    have hnd:∀ i,0<i->i<T.length->T[i]?≠T[i-1]?:=by
     intro i h0 h1 q
     have:=Tj.1 s1 (i-1) i (by omega) h1 (by omega)
     rw [Qe h1,Qe (by omega:i-1<_)] at q
     rw [Sr q,Zj] at this
     omega
    have h2T:2<=T.length:=by
     rw [<-hTT]
     unfold tB
     simp only [Qz,Rb,Rh]
     omega
    clear hys e5 hp hs hT hxs hit hW
    rw [lx2]
    refine bs.sv (sx:=Yh) hk Tryz.func216 (by kernel_rfl) (by kernel_rfl) ?_
    repeat'(first|refine wk3 ?_|(refine wk2 ?_ ?_<;>intro _)|fail)
    have hT1000:T.length<1000:=by omega
    refine Zm (S:=Nat × Int) (fun t=>T.length-t.1) (fun t=>[(0,.asl 21 0 T.length),(3,I t.2)]) (fun _=>[(21,.row 2 (T.map wv) true true),(22,.row 1 [[.asl 21 0 T.length]] true false),(18,.row 2 [[I hx,I hy]] true false),(17,.row 2 [[I lx,I ly]] true false),(2,.row 2 [[I iox,I ioy]] true false),(1,.row 8 [[.nils,I ox,I oy,I ax,I ay,I bx,I by',I (w:Int)]] true false),(0,.row 9 [h.cells] true false)]) 24 24
     (fun t=>t.2=t.1/\1<=t.1/\t.1<=T.length) (1,1) ⟨rfl,Qd _,by omega⟩ (Qm rfl) [] rfl (kps) (kps) ?_
    rintro ⟨j,i⟩ ⟨hi,hj0,hj⟩
    dsimp only at hi hj0 hj ⊢
    subst hi
    by_cases hlt:j<T.length
    ·have e1:=Xh hlt
     have e2:=Xh (T:=T) (j:=j-1) (by omega)
     rw [show (((j-1:Nat):Int))=Qa Qb ((j:Int)-1) by rw [W_eq (by omega) (by omega)]; omega] at e2
     have hd:=hnd j (by omega) hlt
     rw [Qe hlt,Qe (by omega:j-1<T.length)] at hd
     have w1:decide (0<=Qa Qb ((j:Int)-1))=true:=by rw [W_eq (by omega) (by omega)]; exact decide_eq_true (by omega)
     have w2:decide (Qa Qb ((j:Int)-1)<(T.length:Int))=true:=by rw [W_eq (by omega) (by omega)]; exact decide_eq_true (by omega)
     have hz:Qa Qb ((j:Int)-1)=(j:Int)-1:=W_eq (by omega) (by omega)
     generalize T[j]=u at *
     generalize T[j-1]'(by omega)=v at *
     obtain ⟨ux,uy⟩:=u
     obtain ⟨vx,vy⟩:=v
     have hraw:(decide (ux=vx)&&(decide (uy=vy)&&true))=false:=by
      rw [Qx]
      intro q
      simp only [Oq,Qc,decide_eq_true_eq] at q
      exact hd (by rw [q.1,q.2])
     clear hd
     refine bs.av (sx:=Yh) hk ?_
     repeat'(first|refine wk3 ?_|(refine wk2 ?_ ?_<;>intro _)|fail)
     all_goals first
      | exact Qr ⟨(j+1,Qa Qb ((j:Int)+1)),[],rfl,kps,kps,⟨Zb (by omega),by omega,hlt⟩,by dsimp only; omega⟩
      | (exfalso; clear hk; simp_all; done)
    have hjn:j=T.length:=by omega
    subst hjn
    refine bs.av (sx:=Yh) hk ?_
    repeat'(first|refine wk3 ?_|(refine wk2 ?_ ?_<;>intro _)|fail)
    have hlT:(Rv (T.length-1)).length=T.length-1:=Tf
    have eT:Qa Qb ((T.length:Int)-1)=((T.length-1:Nat):Int):=by rw [W_eq (by omega) (by omega)]; omega
    have hgd:=fun i (hi:i<T.length-1)=>(hgood _ (Ta.2 ⟨i,Rx.2 hi,rfl⟩)).1
    rw [eT]
    refine Zm (S:=Nat × Nat × Int × Nat × List (List AV)) (fun t=>T.length-t.2.1) (fun t=>[(2,.ptr 0 0 0),(3,.ptr 1 0 0),(5,.ptr 2 0 0),(8,.ptr 22 0 0),(10,gv 24 t.1 t.2.2.2.1),(53,I ((T.length-1:Nat):Int)),(54,I t.2.2.1)])
     (fun t=>gz 24 8 t.1 t.2.2.2.2 [(21,.row 2 (T.map wv) true true),(22,.row 1 [[.asl 21 0 T.length]] true false),(18,.row 2 [[I hx,I hy]] true false),(17,.row 2 [[I lx,I ly]] true false),(2,.row 2 [[I iox,I ioy]] true false),(1,.row 8 [[.nils,I ox,I oy,I ax,I ay,I bx,I by',I (w:Int)]] true false),(0,.row 9 [h.cells] true false)]) 24 25
     (fun t=>t.1=t.2.1/\t.2.2.1=t.2.1/\t.2.1<=T.length-1/\t.2.2.2.1=t.2.2.2.2.length/\t.2.2.2.2=((Rv t.2.1).map F).map bmA) (0,0,0,0,[]) ⟨rfl,rfl,Qp _,rfl,rfl⟩ (Qm rfl) [] rfl (kps) (kps) ?_
    rintro ⟨k,j,i,len,els⟩ ⟨hkj,hi,hj,hlen,hels⟩
    dsimp only at hkj hi hj hlen hels ⊢
    subst hi
    by_cases hlt:j<T.length-1
    ·have gm:=hgd j hlt
     have em:=hF2 j
     have hj1:j<T.length:=by omega
     have hj2:j+1<T.length:=by omega
     have hq:=Xq hj1
     have hq2:=Xq hj2
     have eW:Qa Qb ((j:Int)+1)=((j+1:Nat):Int):=Zb (by omega)
     have e1:=Xh hj1
     have e2:=Xh hj2
     have dD:decide (0<=Qa Qb ((j:Int)+1)/\Qa Qb ((j:Int)+1)<(T.length:Int))=true:=by
      rw [eW]
      exact decide_eq_true (by omega)
     have e3:((Rv (j+1)).map F).map bmA=els++[bmA (F j)]:=by
      rw [Na,Rm,Rm,<-hels]
      rfl
     generalize F j=m at *
     have hc:TB [h.av,wsA (ws++[(w:Int)]),P2 iox ioy,P2 m.a.1 m.a.2,P2 m.b.1 m.b.2]=some ⟨.agg (bmA m),[]⟩:=by
      obtain ⟨v,env,KK⟩:=gm.sec
      have hLP:LP h.cs (iox,ioy) (Zw (ws++[(w:Int)])) (addV m.a m.b):=by
       have ho:m.o=(iox,ioy):=by rw [em]
       have hws:m.ws=ws++[(w:Int)]:=by rw [em]
       rw [ho,hws] at KK
       have hab:=KK.ab
       have d1:0<Si m.a (addV m.a m.b):=by rw [Vt,Xn,Zj]; omega
       have d2:0<Si (addV m.a m.b) m.b:=by rw [Vt,Yr,Zj]; omega
       intro l q
       obtain ⟨q1,t,q2,q3⟩:=KK.lp l q
       exact ⟨q1,t,q2,(q3 _ d1 d2).n⟩
      have:=Zje (h:=h) (ws:=ws++[(w:Int)]) (o:=(iox,ioy)) (nx:=nxtV h.cs (iox,ioy) (Zw (ws++[(w:Int)]))) (a:=m.a) (b:=m.b) ⟨gm.ga,gm.gb⟩ ⟨gm.ba,gm.bb⟩ hLP
      rw [hTB] at this
      rw [this]
      congr 3
      rw [em,hlw]
     have ea:T[j]=m.a:=by rw [em,<-hq]
     have eb:T[j+1]=m.b:=by rw [em,<-hq2]
     rw [ea] at e1
     rw [eb,<-eW] at e2
     have l4:els.length<2000:=by rw [hels,Qj,Qj,Tf]; omega
     have hbA:bmA m=[wsA (ws++[(w:Int)]),I iox,I ioy,I m.a.1,I m.a.2,I m.b.1,I m.b.2,I m.nx]:=by unfold bmA; rw [em]
     rw [hbA] at hc e3
     rw [ew] at hc e3
     generalize m.nx=nx at *
     generalize hma:m.a=aa at *
     generalize hmb:m.b=bb at *
     obtain ⟨aax,aay⟩:=aa
     obtain ⟨bbx,bby⟩:=bb
     dsimp only at e1 e2 hc e3
     clear em gm hma hmb hbA hq hq2 ea eb
     cases k with
     | zero =>
      have hz:els=[]:=by rw [hels,<-hkj]; rfl
      subst hz
      refine bs.av (sx:=Yh) hk ?_
      repeat'(first|refine wk3 ?_|(refine wk2 ?_ ?_<;>intro _)|fail)
      exact Qr ⟨(1,j+1,_,_,[[.isl 1 [[I (w:Int)]],I iox,I ioy,I aax,I aay,I bbx,I bby,I nx]]),[(24,46)],rfl,kps,kps,⟨by show 1=j+1; omega,Zb (by omega),hlt,rfl,e3.symm⟩,by show T.length-(j+1)<T.length-j; omega⟩
     | succ k =>
      refine bs.av (sx:=Yh) hk ?_
      repeat'(first|refine wk3 ?_|(refine wk2 ?_ ?_<;>intro _)|fail)
      refine Xz (ys:=[[.isl 1 [[I (w:Int)]],I iox,I ioy,I aax,I aay,I bbx,I bby,I nx]]) rfl rfl rfl rfl rfl rfl rfl rfl rfl rfl (by simp) hlen (by simp only [Qz,Rh]; omega) ?_
      repeat'(first|refine wk3 ?_|(refine wk2 ?_ ?_<;>intro _)|fail)
      exact Qr ⟨(k+2,j+1,_,_,els++[[.isl 1 [[I (w:Int)]],I iox,I ioy,I aax,I aay,I bbx,I bby,I nx]]),[(24,46)],rfl,kps,kps,⟨by show k+2=j+1; omega,Zb (by omega),hlt,by exact List.length_append.symm,e3.symm⟩,by show T.length-(j+1)<T.length-j; omega⟩
    have hjn:j=T.length-1:=by omega
    subst hjn
    subst hels
    obtain ⟨q,rfl⟩:∃ q,k=q+1:=⟨k-1,by omega⟩
    refine bs.av (sx:=Yh) hk ?_
    repeat'(first|refine wk3 ?_|(refine wk2 ?_ ?_<;>intro _)|fail)
    exact Yk [24] rfl (by rw [hlen]; rfl) rfl
   | succ k =>
    repeat'(first|refine wk3 ?_|(refine wk2 ?_ ?_<;>intro _)|fail)
    refine bs.sv (sx:=Yh) hk Tryz.func168 (by kernel_rfl) (by kernel_rfl) ?_
    repeat'(first|refine wk3 ?_|(refine wk2 ?_ ?_<;>intro _)|fail)
    refine Zm (S:=Nat × Int × List (List AV)) (fun t=>v2.length-t.1) (fun t=>[(0,.asl 23 0 v2.length),(1,.func 173 [] []),(7,.asl 23 0 v2.length),(8,I v2.length),(9,I t.2.1)])
     (fun t=>[(23,.row 2 t.2.2 true true),(22,.row 1 [[.asl 23 0 v2.length]] true false),(18,.row 2 [[I hx,I hy]] true false),(17,.row 2 [[I lx,I ly]] true false),(2,.row 2 [[I iox,I ioy]] true false),(1,.row 8 [[.nils,I ox,I oy,I ax,I ay,I bx,I by',I (w:Int)]] true false),(0,.row 9 [h.cells] true false)]) 24 24 (fun t=>t.2.1=t.1/\t.1<=v2.length/\t.2.2=(mixR v2 t.1).map wv) (0,0,v2.map wv) ⟨rfl,Qp _,rfl⟩ (Qm rfl) [] rfl (kps) (kps) ?_
    rintro ⟨j,i,els⟩ ⟨hi,hj,hels⟩
    dsimp only at hi hj hels ⊢
    subst hi
    have lel:els.length=v2.length:=by rw [hels,Qj,Zf3]
    by_cases hlt:j<v2.length
    ·have e1:=Zf4 hlt
     have e2:=Zf2 hlt
     rw [<-hels] at e1 e2
     have t1:=hW2 v2[j] (Qn hlt)
     have t2:=Zfb t1.1 t1.2
     generalize v2[j]=v at *
     generalize red v=u at *
     obtain ⟨vx,vy⟩:=v
     obtain ⟨ux,uy⟩:=u
     refine bs.av (sx:=Yh) hk ?_
     repeat'(first|refine wk3 ?_|(refine wk2 ?_ ?_<;>intro _)|fail)
     exact Qr ⟨(j+1,Qa Qb ((j:Int)+1),Ze7 els (0+((j:Nat):Int).toNat) [I ux,I uy]),[],rfl,kps,kps,⟨Zb (by omega),hlt,e2⟩,by dsimp only; omega⟩
    have hjn:j=v2.length:=by omega
    subst hjn
    rw [Zf5] at hels
    obtain ⟨xs,hxs⟩:=subs (P:=fun v=>g1 v/\Vb v/\inS (lx,ly) (hx,hy) v) (v2.map red) hIn
    have hx2:els=xs.map (fun b:Ts (lx,ly) (hx,hy)=>wv b.1):=by rw [hels,<-hxs,Ot]; rfl
    have lxs:xs.length=v2.length:=by
     have:=congrArg Oa hxs
     simpa using this
    clear hels
    subst hx2
    refine bs.av (sx:=Yh) hk ?_
    repeat'(first|refine wk3 ?_|(refine wk2 ?_ ?_<;>intro _)|fail)
    rw [<-lxs]
    refine Zfr Zwg hS (by decide) (Zgl Tryz.func173 (by kernel_rfl) (by kernel_rfl)) (fun b:Ts (lx,ly) (hx,hy)=>wv b.1) (fun _=>rfl) (fun _=>rfl) (fun _=>rfl) (fun a b:Ts (lx,ly) (hx,hy)=>-(Si a.1 b.1)) (fun a _ b _=>Zfv (e173 a.2.2.1 b.2.2.1)) (Zm3 b0) (by omega) rfl fun ys hp hs=>?_
    have hys:=hT ys (by rw [<-hRd,<-hxs]; exact hp.map _) hs
    have e5:ys.map (fun b:Ts (lx,ly) (hx,hy)=>wv b.1)=T.map wv:=by rw [<-hys,Ot]; rfl
    rw [e5]
    repeat'(first|refine wk3 ?_|(refine wk2 ?_ ?_<;>intro _)|fail)
    have lT:(T.map wv).length=T.length:=Qj _
    have lx2:xs.length=T.length:=by rw [<-hys,Qj]; exact hp.length_eq.symm
    have hnd:∀ i,0<i->i<T.length->T[i]?≠T[i-1]?:=by
     intro i h0 h1 q
     have:=Tj.1 s1 (i-1) i (by omega) h1 (by omega)
     rw [Qe h1,Qe (by omega:i-1<_)] at q
     rw [Sr q,Zj] at this
     omega
    have h2T:2<=T.length:=by
     rw [<-hTT]
     unfold tB
     simp only [Qz,Rb,Rh]
     omega
    clear hys e5 hp hs hT hxs hit hW
    rw [lx2]
    refine bs.sv (sx:=Yh) hk Tryz.func216 (by kernel_rfl) (by kernel_rfl) ?_
    repeat'(first|refine wk3 ?_|(refine wk2 ?_ ?_<;>intro _)|fail)
    have hT1000:T.length<1000:=by omega
    refine Zm (S:=Nat × Int) (fun t=>T.length-t.1) (fun t=>[(0,.asl 23 0 T.length),(3,I t.2)]) (fun _=>[(23,.row 2 (T.map wv) true true),(22,.row 1 [[.asl 23 0 T.length]] true false),(18,.row 2 [[I hx,I hy]] true false),(17,.row 2 [[I lx,I ly]] true false),(2,.row 2 [[I iox,I ioy]] true false),(1,.row 8 [[.nils,I ox,I oy,I ax,I ay,I bx,I by',I (w:Int)]] true false),(0,.row 9 [h.cells] true false)]) 24 24
     (fun t=>t.2=t.1/\1<=t.1/\t.1<=T.length) (1,1) ⟨rfl,Qd _,by omega⟩ (Qm rfl) [] rfl (kps) (kps) ?_
    rintro ⟨j,i⟩ ⟨hi,hj0,hj⟩
    dsimp only at hi hj0 hj ⊢
    subst hi
    by_cases hlt:j<T.length
    ·have e1:=Xh hlt
     have e2:=Xh (T:=T) (j:=j-1) (by omega)
     rw [show (((j-1:Nat):Int))=Qa Qb ((j:Int)-1) by rw [W_eq (by omega) (by omega)]; omega] at e2
     have hd:=hnd j (by omega) hlt
     rw [Qe hlt,Qe (by omega:j-1<T.length)] at hd
     have w1:decide (0<=Qa Qb ((j:Int)-1))=true:=by rw [W_eq (by omega) (by omega)]; exact decide_eq_true (by omega)
     have w2:decide (Qa Qb ((j:Int)-1)<(T.length:Int))=true:=by rw [W_eq (by omega) (by omega)]; exact decide_eq_true (by omega)
     have hz:Qa Qb ((j:Int)-1)=(j:Int)-1:=W_eq (by omega) (by omega)
     generalize T[j]=u at *
     generalize T[j-1]'(by omega)=v at *
     obtain ⟨ux,uy⟩:=u
     obtain ⟨vx,vy⟩:=v
     have hraw:(decide (ux=vx)&&(decide (uy=vy)&&true))=false:=by
      rw [Qx]
      intro q
      simp only [Oq,Qc,decide_eq_true_eq] at q
      exact hd (by rw [q.1,q.2])
     clear hd
     refine bs.av (sx:=Yh) hk ?_
     repeat'(first|refine wk3 ?_|(refine wk2 ?_ ?_<;>intro _)|fail)
     all_goals first
      | exact Qr ⟨(j+1,Qa Qb ((j:Int)+1)),[],rfl,kps,kps,⟨Zb (by omega),by omega,hlt⟩,by dsimp only; omega⟩
      | (exfalso; clear hk; simp_all; done)
    have hjn:j=T.length:=by omega
    subst hjn
    refine bs.av (sx:=Yh) hk ?_
    repeat'(first|refine wk3 ?_|(refine wk2 ?_ ?_<;>intro _)|fail)
    have hlT:(Rv (T.length-1)).length=T.length-1:=Tf
    have eT:Qa Qb ((T.length:Int)-1)=((T.length-1:Nat):Int):=by rw [W_eq (by omega) (by omega)]; omega
    have hgd:=fun i (hi:i<T.length-1)=>(hgood _ (Ta.2 ⟨i,Rx.2 hi,rfl⟩)).1
    rw [eT]
    refine Zm (S:=Nat × Nat × Int × Nat × List (List AV)) (fun t=>T.length-t.2.1) (fun t=>[(2,.ptr 0 0 0),(3,.ptr 1 0 0),(5,.ptr 2 0 0),(8,.ptr 22 0 0),(10,gv 24 t.1 t.2.2.2.1),(53,I ((T.length-1:Nat):Int)),(54,I t.2.2.1)])
     (fun t=>gz 24 8 t.1 t.2.2.2.2 [(23,.row 2 (T.map wv) true true),(22,.row 1 [[.asl 23 0 T.length]] true false),(18,.row 2 [[I hx,I hy]] true false),(17,.row 2 [[I lx,I ly]] true false),(2,.row 2 [[I iox,I ioy]] true false),(1,.row 8 [[.nils,I ox,I oy,I ax,I ay,I bx,I by',I (w:Int)]] true false),(0,.row 9 [h.cells] true false)]) 24 25
     (fun t=>t.1=t.2.1/\t.2.2.1=t.2.1/\t.2.1<=T.length-1/\t.2.2.2.1=t.2.2.2.2.length/\t.2.2.2.2=((Rv t.2.1).map F).map bmA) (0,0,0,0,[]) ⟨rfl,rfl,Qp _,rfl,rfl⟩ (Qm rfl) [] rfl (kps) (kps) ?_
    rintro ⟨k,j,i,len,els⟩ ⟨hkj,hi,hj,hlen,hels⟩
    dsimp only at hkj hi hj hlen hels ⊢
    subst hi
    by_cases hlt:j<T.length-1
    ·have gm:=hgd j hlt
     have em:=hF2 j
     have hj1:j<T.length:=by omega
     have hj2:j+1<T.length:=by omega
     have hq:=Xq hj1
     have hq2:=Xq hj2
     have eW:Qa Qb ((j:Int)+1)=((j+1:Nat):Int):=Zb (by omega)
     have e1:=Xh hj1
     have e2:=Xh hj2
     have dD:decide (0<=Qa Qb ((j:Int)+1)/\Qa Qb ((j:Int)+1)<(T.length:Int))=true:=by
      rw [eW]
      exact decide_eq_true (by omega)
     have e3:((Rv (j+1)).map F).map bmA=els++[bmA (F j)]:=by
      rw [Na,Rm,Rm,<-hels]
      rfl
     generalize F j=m at *
     have hc:TB [h.av,wsA (ws++[(w:Int)]),P2 iox ioy,P2 m.a.1 m.a.2,P2 m.b.1 m.b.2]=some ⟨.agg (bmA m),[]⟩:=by
      obtain ⟨v,env,KK⟩:=gm.sec
      have hLP:LP h.cs (iox,ioy) (Zw (ws++[(w:Int)])) (addV m.a m.b):=by
       have ho:m.o=(iox,ioy):=by rw [em]
       have hws:m.ws=ws++[(w:Int)]:=by rw [em]
       rw [ho,hws] at KK
       have hab:=KK.ab
       have d1:0<Si m.a (addV m.a m.b):=by rw [Vt,Xn,Zj]; omega
       have d2:0<Si (addV m.a m.b) m.b:=by rw [Vt,Yr,Zj]; omega
       intro l q
       obtain ⟨q1,t,q2,q3⟩:=KK.lp l q
       exact ⟨q1,t,q2,(q3 _ d1 d2).n⟩
      have:=Zje (h:=h) (ws:=ws++[(w:Int)]) (o:=(iox,ioy)) (nx:=nxtV h.cs (iox,ioy) (Zw (ws++[(w:Int)]))) (a:=m.a) (b:=m.b) ⟨gm.ga,gm.gb⟩ ⟨gm.ba,gm.bb⟩ hLP
      rw [hTB] at this
      rw [this]
      congr 3
      rw [em,hlw]
     have ea:T[j]=m.a:=by rw [em,<-hq]
     have eb:T[j+1]=m.b:=by rw [em,<-hq2]
     rw [ea] at e1
     rw [eb,<-eW] at e2
     have l4:els.length<2000:=by rw [hels,Qj,Qj,Tf]; omega
     have hbA:bmA m=[wsA (ws++[(w:Int)]),I iox,I ioy,I m.a.1,I m.a.2,I m.b.1,I m.b.2,I m.nx]:=by unfold bmA; rw [em]
     rw [hbA] at hc e3
     rw [ew] at hc e3
     generalize m.nx=nx at *
     generalize hma:m.a=aa at *
     generalize hmb:m.b=bb at *
     obtain ⟨aax,aay⟩:=aa
     obtain ⟨bbx,bby⟩:=bb
     dsimp only at e1 e2 hc e3
     clear em gm hma hmb hbA hq hq2 ea eb
     cases k with
     | zero =>
      have hz:els=[]:=by rw [hels,<-hkj]; rfl
      subst hz
      refine bs.av (sx:=Yh) hk ?_
      repeat'(first|refine wk3 ?_|(refine wk2 ?_ ?_<;>intro _)|fail)
      exact Qr ⟨(1,j+1,_,_,[[.isl 1 [[I (w:Int)]],I iox,I ioy,I aax,I aay,I bbx,I bby,I nx]]),[(24,46)],rfl,kps,kps,⟨by show 1=j+1; omega,Zb (by omega),hlt,rfl,e3.symm⟩,by show T.length-(j+1)<T.length-j; omega⟩
     | succ k =>
      refine bs.av (sx:=Yh) hk ?_
      repeat'(first|refine wk3 ?_|(refine wk2 ?_ ?_<;>intro _)|fail)
      refine Xz (ys:=[[.isl 1 [[I (w:Int)]],I iox,I ioy,I aax,I aay,I bbx,I bby,I nx]]) rfl rfl rfl rfl rfl rfl rfl rfl rfl rfl (by simp) hlen (by simp only [Qz,Rh]; omega) ?_
      repeat'(first|refine wk3 ?_|(refine wk2 ?_ ?_<;>intro _)|fail)
      exact Qr ⟨(k+2,j+1,_,_,els++[[.isl 1 [[I (w:Int)]],I iox,I ioy,I aax,I aay,I bbx,I bby,I nx]]),[(24,46)],rfl,kps,kps,⟨by show k+2=j+1; omega,Zb (by omega),hlt,by exact List.length_append.symm,e3.symm⟩,by show T.length-(j+1)<T.length-j; omega⟩
    have hjn:j=T.length-1:=by omega
    subst hjn
    subst hels
    obtain ⟨q,rfl⟩:∃ q,k=q+1:=⟨k-1,by omega⟩
    refine bs.av (sx:=Yh) hk ?_
    repeat'(first|refine wk3 ?_|(refine wk2 ?_ ?_<;>intro _)|fail)
    exact Yk [24] rfl (by rw [hlen]; rfl) rfl
 ·refine bs.pv (sx:=Yh) hk Tryz.func90 (by kernel_rfl) (by kernel_rfl) rfl ?_
  repeat'(first|refine wk3 ?_|(refine wk2 ?_ ?_<;>intro _)|fail)
  refine Rg.ren (env2:=[(2,.ptr 0 0 0),(3,.ptr 1 0 0),(5,.ptr 2 0 0),(6,.ptr 17 0 0),(7,.ptr 18 0 0),(8,.ptr 22 0 0),(39,.func 218 [] (capS h iox ioy (laI (some w))))]) (σ2:=⟨[(21,.row 2 [[I lx,I ly],[I hx,I hy]] true true),(22,.row 1 [[.asl 21 0 2]] true false),(18,.row 2 [[I hx,I hy]] true false),(17,.row 2 [[I lx,I ly]] true false),(2,.row 2 [[I iox,I ioy]] true false),(1,.row 8 [[.isl 1 E,I ox,I oy,I ax,I ay,I bx,I by',I (w:Int)]] true false),(0,.row 9 [h.cells] true false)],23⟩) (Ren.of [] rfl (kps) (kps)) ?_
  refine rngV hit rfl rfl rfl rfl (Zmd (S:=Nat × Nat × Nat × List (List AV)) (fun s=>gy 21 23 2 s.1 s.2.2.2 [(22,.row 1 [[gw 21 23 s.1 s.2.2.1]] true false),(18,.row 2 [[I hx,I hy]] true false),(17,.row 2 [[I lx,I ly]] true false),(2,.row 2 [[I iox,I ioy]] true false),(1,.row 8 [[.isl 1 E,I ox,I oy,I ax,I ay,I bx,I by',I (w:Int)]] true false),(0,.row 9 [h.cells] true false)]) 23 (fun s=>nm2 23 24 s.1)
   (fun xs s=>s.2.1<=vs.length/\xs=(vs.drop s.2.1).map wy/\s.2.2.1=s.2.2.2.length/\s.2.2.2=(btP (lx,ly) (hx,hy) vs s.2.1).map wv) ?_ ?_ _ (0,0,2,[[I lx,I ly],[I hx,I hy]]) ⟨Qp _,rfl,rfl,rfl⟩)
  ·rintro x xs ⟨k,j,len,els⟩ ⟨hj,hxx,hlen,he⟩
   dsimp only at hj hxx hlen he ⊢
   have hlt:j<vs.length:=by
    rcases Wh j vs.length with c|c
    ·exact c
    ·rw [Qo c] at hxx; cases hxx
   rw [Ql hlt,Ss] at hxx
   obtain ⟨rfl,rfl⟩:=Ws hxx
   have e4:els.length<2000:=by
    have:=Zm5 (lx,ly) (hx,hy) vs j
    rw [he,Qj]; omega
   have e5:=Zs6 (lo:=(lx,ly)) (hi:=(hx,hy)) hlt
   have e6:=hbw vs[j] (Qn hlt)
   rw [<-e6] at e5
   clear e6
   generalize vs[j]=v at *
   obtain ⟨vx,vy⟩:=v
   refine ⟨rfl,?_⟩
   cases k with
   | zero =>
    refine bs.av (sx:=Yh) hk ?_
    repeat'(first|refine wk3 ?_|(refine wk2 ?_ ?_<;>intro _)|fail)
    refine Dg (bs.av (sx:=Yh) hk ?_)
    repeat'(first|refine wk3 ?_|(refine wk2 ?_ ?_<;>intro _)|fail)
    ·rename_i q
     rw [if_pos q] at e5
     exact Qr ⟨(0+1,j+1,_,els++[wv (vx,vy)]),[(23,25)],rfl,kps,hlt,rfl,by exact List.length_append.symm,by rw [e5,Rm,<-he]; rfl⟩
    ·rename_i q
     rw [if_neg (by rw [q]; decide)] at e5
     exact Qr ⟨(0,j+1,len,els),[],rfl,kps,hlt,rfl,hlen,by rw [e5]; exact he⟩
   | succ k =>
    refine bs.av (sx:=Yh) hk ?_
    repeat'(first|refine wk3 ?_|(refine wk2 ?_ ?_<;>intro _)|fail)
    refine Dg (bs.av (sx:=Yh) hk ?_)
    repeat'(first|refine wk3 ?_|(refine wk2 ?_ ?_<;>intro _)|fail)
    ·rename_i q
     rw [if_pos q] at e5
     exact Qr ⟨(k+1,j+1,_,els++[wv (vx,vy)]),[(23,26)],rfl,kps,hlt,rfl,by exact List.length_append.symm,by rw [e5,Rm,<-he]; rfl⟩
    ·rename_i q
     rw [if_neg (by rw [q]; decide)] at e5
     exact Qr ⟨(k+1,j+1,len,els),[(23,23)],rfl,kps,hlt,rfl,hlen,by rw [e5]; exact he⟩
  ·rintro ⟨k,j,len,els⟩ ⟨hj,hxx,hlen,he⟩
   dsimp only at hj hxx hlen he ⊢
   have hlt:vs.length<=j:=by
    rcases Wh j vs.length with c|c
    ·rw [Ql c] at hxx; cases hxx
    ·exact c
   have he2:els=((lx,ly)::(hx,hy)::BL).map wv:=by
    rw [he,hbl]
    unfold btP
    rw [Sz hlt]
   have hW2:∀ v∈(lx,ly)::(hx,hy)::BL,v≠(0,0)/\Vb v:=fun v hv=>by
    rcases Ra.1 hv with q|hv
    ·rw [q]; exact ⟨Zd0 b1,b3⟩
    ·rcases Ra.1 hv with q|hv
     ·rw [q]; exact ⟨Zd0 b2,b4⟩
     ·rw [hbl] at hv
      exact hW v ((Nb.1 hv).1)
   have hRd:((lx,ly)::(hx,hy)::BL).map red=(lx,ly)::(hx,hy)::BL.map red:=by
    rw [Ss,Ss,Zes b1,Zes b2]
   have hIn:∀ x∈((lx,ly)::(hx,hy)::BL).map red,g1 x/\Vb x/\inS (lx,ly) (hx,hy) x:=fun x hx=>by
    obtain ⟨v,hv,rfl⟩:=Ta.1 hx
    obtain ⟨q1,q2⟩:=hW2 v hv
    obtain ⟨gg,_,_,_,q5,_⟩:=Vq q1
    obtain ⟨q6,q7⟩:=Zhx q1 q2.1 q2.2
    refine ⟨q5,⟨q6,q7⟩,?_⟩
    rcases Ra.1 hv with q|hv
    ·rw [q,Zes b1]; exact ⟨by rw [Zj]; exact Wy 0,Qg b0⟩
    ·rcases Ra.1 hv with q|hv
     ·rw [q,Zes b2]; exact ⟨Qg b0,by rw [Zj]; exact Wy 0⟩
     ·rw [hbl] at hv
      have:=(Nb.1 hv).2
      rw [Qc,decide_eq_true_eq,decide_eq_true_eq] at this
      exact ⟨Qg ((Vh q1).2.2 this.1),Qg ((Vh q1).1.2 this.2)⟩
   have lv2:((lx,ly)::(hx,hy)::BL).length<1000:=by
    have:=Zm5 (lx,ly) (hx,hy) vs j
    rw [he2,Qj] at hlen
    have h2:((lx,ly)::(hx,hy)::BL).length=(btP (lx,ly) (hx,hy) vs j).length:=by
     have:=congrArg Oa (he2.symm.trans he)
     rwa [Qj,Qj] at this
    omega
   clear he hxx hlt hj
   subst he2
   rw [Qj] at hlen
   subst hlen
   generalize hv2:(lx,ly)::(hx,hy)::BL=v2 at *
   cases k with
   | zero =>
    repeat'(first|refine wk3 ?_|(refine wk2 ?_ ?_<;>intro _)|fail)
    refine bs.sv (sx:=Yh) hk Tryz.func168 (by kernel_rfl) (by kernel_rfl) ?_
    repeat'(first|refine wk3 ?_|(refine wk2 ?_ ?_<;>intro _)|fail)
    refine Zm (S:=Nat × Int × List (List AV)) (fun t=>v2.length-t.1) (fun t=>[(0,.asl 21 0 v2.length),(1,.func 173 [] []),(7,.asl 21 0 v2.length),(8,I v2.length),(9,I t.2.1)])
     (fun t=>[(21,.row 2 t.2.2 true true),(22,.row 1 [[.asl 21 0 v2.length]] true false),(18,.row 2 [[I hx,I hy]] true false),(17,.row 2 [[I lx,I ly]] true false),(2,.row 2 [[I iox,I ioy]] true false),(1,.row 8 [[.isl 1 E,I ox,I oy,I ax,I ay,I bx,I by',I (w:Int)]] true false),(0,.row 9 [h.cells] true false)]) 24 24 (fun t=>t.2.1=t.1/\t.1<=v2.length/\t.2.2=(mixR v2 t.1).map wv) (0,0,v2.map wv) ⟨rfl,Qp _,rfl⟩ (Qm rfl) [] rfl (kps) (kps) ?_
    rintro ⟨j,i,els⟩ ⟨hi,hj,hels⟩
    dsimp only at hi hj hels ⊢
    subst hi
    have lel:els.length=v2.length:=by rw [hels,Qj,Zf3]
    by_cases hlt:j<v2.length
    ·have e1:=Zf4 hlt
     have e2:=Zf2 hlt
     rw [<-hels] at e1 e2
     have t1:=hW2 v2[j] (Qn hlt)
     have t2:=Zfb t1.1 t1.2
     generalize v2[j]=v at *
     generalize red v=u at *
     obtain ⟨vx,vy⟩:=v
     obtain ⟨ux,uy⟩:=u
     refine bs.av (sx:=Yh) hk ?_
     repeat'(first|refine wk3 ?_|(refine wk2 ?_ ?_<;>intro _)|fail)
     exact Qr ⟨(j+1,Qa Qb ((j:Int)+1),Ze7 els (0+((j:Nat):Int).toNat) [I ux,I uy]),[],rfl,kps,kps,⟨Zb (by omega),hlt,e2⟩,by dsimp only; omega⟩
    have hjn:j=v2.length:=by omega
    subst hjn
    rw [Zf5] at hels
    obtain ⟨xs,hxs⟩:=subs (P:=fun v=>g1 v/\Vb v/\inS (lx,ly) (hx,hy) v) (v2.map red) hIn
    have hx2:els=xs.map (fun b:Ts (lx,ly) (hx,hy)=>wv b.1):=by rw [hels,<-hxs,Ot]; rfl
    have lxs:xs.length=v2.length:=by
     have:=congrArg Oa hxs
     simpa using this
    clear hels
    subst hx2
    refine bs.av (sx:=Yh) hk ?_
    repeat'(first|refine wk3 ?_|(refine wk2 ?_ ?_<;>intro _)|fail)
    rw [<-lxs]
    refine Zfr Zwg hS (by decide) (Zgl Tryz.func173 (by kernel_rfl) (by kernel_rfl)) (fun b:Ts (lx,ly) (hx,hy)=>wv b.1) (fun _=>rfl) (fun _=>rfl) (fun _=>rfl) (fun a b:Ts (lx,ly) (hx,hy)=>-(Si a.1 b.1)) (fun a _ b _=>Zfv (e173 a.2.2.1 b.2.2.1)) (Zm3 b0) (by omega) rfl fun ys hp hs=>?_
    have hys:=hT ys (by rw [<-hRd,<-hxs]; exact hp.map _) hs
    have e5:ys.map (fun b:Ts (lx,ly) (hx,hy)=>wv b.1)=T.map wv:=by rw [<-hys,Ot]; rfl
    rw [e5]
    repeat'(first|refine wk3 ?_|(refine wk2 ?_ ?_<;>intro _)|fail)
    have lT:(T.map wv).length=T.length:=Qj _
    have lx2:xs.length=T.length:=by rw [<-hys,Qj]; exact hp.length_eq.symm
    have hnd:∀ i,0<i->i<T.length->T[i]?≠T[i-1]?:=by
     intro i h0 h1 q
     have:=Tj.1 s1 (i-1) i (by omega) h1 (by omega)
     rw [Qe h1,Qe (by omega:i-1<_)] at q
     rw [Sr q,Zj] at this
     omega
    have h2T:2<=T.length:=by
     rw [<-hTT]
     unfold tB
     simp only [Qz,Rb,Rh]
     omega
    clear hys e5 hp hs hT hxs hit hW
    rw [lx2]
    refine bs.sv (sx:=Yh) hk Tryz.func216 (by kernel_rfl) (by kernel_rfl) ?_
    repeat'(first|refine wk3 ?_|(refine wk2 ?_ ?_<;>intro _)|fail)
    have hT1000:T.length<1000:=by omega
    refine Zm (S:=Nat × Int) (fun t=>T.length-t.1) (fun t=>[(0,.asl 21 0 T.length),(3,I t.2)]) (fun _=>[(21,.row 2 (T.map wv) true true),(22,.row 1 [[.asl 21 0 T.length]] true false),(18,.row 2 [[I hx,I hy]] true false),(17,.row 2 [[I lx,I ly]] true false),(2,.row 2 [[I iox,I ioy]] true false),(1,.row 8 [[.isl 1 E,I ox,I oy,I ax,I ay,I bx,I by',I (w:Int)]] true false),(0,.row 9 [h.cells] true false)]) 24 24
     (fun t=>t.2=t.1/\1<=t.1/\t.1<=T.length) (1,1) ⟨rfl,Qd _,by omega⟩ (Qm rfl) [] rfl (kps) (kps) ?_
    rintro ⟨j,i⟩ ⟨hi,hj0,hj⟩
    dsimp only at hi hj0 hj ⊢
    subst hi
    by_cases hlt:j<T.length
    ·have e1:=Xh hlt
     have e2:=Xh (T:=T) (j:=j-1) (by omega)
     rw [show (((j-1:Nat):Int))=Qa Qb ((j:Int)-1) by rw [W_eq (by omega) (by omega)]; omega] at e2
     have hd:=hnd j (by omega) hlt
     rw [Qe hlt,Qe (by omega:j-1<T.length)] at hd
     have w1:decide (0<=Qa Qb ((j:Int)-1))=true:=by rw [W_eq (by omega) (by omega)]; exact decide_eq_true (by omega)
     have w2:decide (Qa Qb ((j:Int)-1)<(T.length:Int))=true:=by rw [W_eq (by omega) (by omega)]; exact decide_eq_true (by omega)
     have hz:Qa Qb ((j:Int)-1)=(j:Int)-1:=W_eq (by omega) (by omega)
     generalize T[j]=u at *
     generalize T[j-1]'(by omega)=v at *
     obtain ⟨ux,uy⟩:=u
     obtain ⟨vx,vy⟩:=v
     have hraw:(decide (ux=vx)&&(decide (uy=vy)&&true))=false:=by
      rw [Qx]
      intro q
      simp only [Oq,Qc,decide_eq_true_eq] at q
      exact hd (by rw [q.1,q.2])
     clear hd
     refine bs.av (sx:=Yh) hk ?_
     repeat'(first|refine wk3 ?_|(refine wk2 ?_ ?_<;>intro _)|fail)
     all_goals first
      | exact Qr ⟨(j+1,Qa Qb ((j:Int)+1)),[],rfl,kps,kps,⟨Zb (by omega),by omega,hlt⟩,by dsimp only; omega⟩
      | (exfalso; clear hk; simp_all; done)
    have hjn:j=T.length:=by omega
    subst hjn
    refine bs.av (sx:=Yh) hk ?_
    repeat'(first|refine wk3 ?_|(refine wk2 ?_ ?_<;>intro _)|fail)
    have hlT:(Rv (T.length-1)).length=T.length-1:=Tf
    have eT:Qa Qb ((T.length:Int)-1)=((T.length-1:Nat):Int):=by rw [W_eq (by omega) (by omega)]; omega
    have hgd:=fun i (hi:i<T.length-1)=>(hgood _ (Ta.2 ⟨i,Rx.2 hi,rfl⟩)).1
    rw [eT]
    refine Zm (S:=Nat × Nat × Int × Nat × List (List AV)) (fun t=>T.length-t.2.1) (fun t=>[(2,.ptr 0 0 0),(3,.ptr 1 0 0),(5,.ptr 2 0 0),(8,.ptr 22 0 0),(10,gv 24 t.1 t.2.2.2.1),(53,I ((T.length-1:Nat):Int)),(54,I t.2.2.1)])
     (fun t=>gz 24 8 t.1 t.2.2.2.2 [(21,.row 2 (T.map wv) true true),(22,.row 1 [[.asl 21 0 T.length]] true false),(18,.row 2 [[I hx,I hy]] true false),(17,.row 2 [[I lx,I ly]] true false),(2,.row 2 [[I iox,I ioy]] true false),(1,.row 8 [[.isl 1 E,I ox,I oy,I ax,I ay,I bx,I by',I (w:Int)]] true false),(0,.row 9 [h.cells] true false)]) 24 25
     (fun t=>t.1=t.2.1/\t.2.2.1=t.2.1/\t.2.1<=T.length-1/\t.2.2.2.1=t.2.2.2.2.length/\t.2.2.2.2=((Rv t.2.1).map F).map bmA) (0,0,0,0,[]) ⟨rfl,rfl,Qp _,rfl,rfl⟩ (Qm rfl) [] rfl (kps) (kps) ?_
    rintro ⟨k,j,i,len,els⟩ ⟨hkj,hi,hj,hlen,hels⟩
    dsimp only at hkj hi hj hlen hels ⊢
    subst hi
    by_cases hlt:j<T.length-1
    ·have gm:=hgd j hlt
     have em:=hF2 j
     have hj1:j<T.length:=by omega
     have hj2:j+1<T.length:=by omega
     have hq:=Xq hj1
     have hq2:=Xq hj2
     have eW:Qa Qb ((j:Int)+1)=((j+1:Nat):Int):=Zb (by omega)
     have e1:=Xh hj1
     have e2:=Xh hj2
     have dD:decide (0<=Qa Qb ((j:Int)+1)/\Qa Qb ((j:Int)+1)<(T.length:Int))=true:=by
      rw [eW]
      exact decide_eq_true (by omega)
     have e3:((Rv (j+1)).map F).map bmA=els++[bmA (F j)]:=by
      rw [Na,Rm,Rm,<-hels]
      rfl
     generalize F j=m at *
     have hc:TB [h.av,wsA (ws++[(w:Int)]),P2 iox ioy,P2 m.a.1 m.a.2,P2 m.b.1 m.b.2]=some ⟨.agg (bmA m),[]⟩:=by
      obtain ⟨v,env,KK⟩:=gm.sec
      have hLP:LP h.cs (iox,ioy) (Zw (ws++[(w:Int)])) (addV m.a m.b):=by
       have ho:m.o=(iox,ioy):=by rw [em]
       have hws:m.ws=ws++[(w:Int)]:=by rw [em]
       rw [ho,hws] at KK
       have hab:=KK.ab
       have d1:0<Si m.a (addV m.a m.b):=by rw [Vt,Xn,Zj]; omega
       have d2:0<Si (addV m.a m.b) m.b:=by rw [Vt,Yr,Zj]; omega
       intro l q
       obtain ⟨q1,t,q2,q3⟩:=KK.lp l q
       exact ⟨q1,t,q2,(q3 _ d1 d2).n⟩
      have:=Zje (h:=h) (ws:=ws++[(w:Int)]) (o:=(iox,ioy)) (nx:=nxtV h.cs (iox,ioy) (Zw (ws++[(w:Int)]))) (a:=m.a) (b:=m.b) ⟨gm.ga,gm.gb⟩ ⟨gm.ba,gm.bb⟩ hLP
      rw [hTB] at this
      rw [this]
      congr 3
      rw [em,hlw]
     have ea:T[j]=m.a:=by rw [em,<-hq]
     have eb:T[j+1]=m.b:=by rw [em,<-hq2]
     rw [ea] at e1
     rw [eb,<-eW] at e2
     have l4:els.length<2000:=by rw [hels,Qj,Qj,Tf]; omega
     have hbA:bmA m=[wsA (ws++[(w:Int)]),I iox,I ioy,I m.a.1,I m.a.2,I m.b.1,I m.b.2,I m.nx]:=by unfold bmA; rw [em]
     rw [hbA] at hc e3
     rw [ew] at hc e3
     generalize m.nx=nx at *
     generalize hma:m.a=aa at *
     generalize hmb:m.b=bb at *
     obtain ⟨aax,aay⟩:=aa
     obtain ⟨bbx,bby⟩:=bb
     dsimp only at e1 e2 hc e3
     clear em gm hma hmb hbA hq hq2 ea eb
     cases k with
     | zero =>
      have hz:els=[]:=by rw [hels,<-hkj]; rfl
      subst hz
      refine bs.av (sx:=Yh) hk ?_
      repeat'(first|refine wk3 ?_|(refine wk2 ?_ ?_<;>intro _)|fail)
      refine Xz (ys:=[[I (w:Int)]]) rfl rfl rfl rfl rfl rfl rfl rfl rfl rfl (by simp) rfl (by simp only [Qz,Rh]; omega) ?_
      repeat'(first|refine wk3 ?_|(refine wk2 ?_ ?_<;>intro _)|fail)
      exact Qr ⟨(1,j+1,_,_,[[.isl 1 (Wp (E.length+[[I (w:Int)]].length) (Wq 0 (E++[[I (w:Int)]]))),I iox,I ioy,I aax,I aay,I bbx,I bby,I nx]]),[(24,47)],rfl,kps,kps,⟨by show 1=j+1; omega,Zb (by omega),hlt,rfl,e3.symm⟩,by show T.length-(j+1)<T.length-j; omega⟩
     | succ k =>
      refine bs.av (sx:=Yh) hk ?_
      repeat'(first|refine wk3 ?_|(refine wk2 ?_ ?_<;>intro _)|fail)
      refine Xz (ys:=[[I (w:Int)]]) rfl rfl rfl rfl rfl rfl rfl rfl rfl rfl (by simp) rfl (by simp only [Qz,Rh]; omega) ?_
      repeat'(first|refine wk3 ?_|(refine wk2 ?_ ?_<;>intro _)|fail)
      refine Xz (ys:=[[.isl 1 (Wp (E.length+[[I (w:Int)]].length) (Wq 0 (E++[[I (w:Int)]]))),I iox,I ioy,I aax,I aay,I bbx,I bby,I nx]]) rfl rfl rfl rfl rfl rfl rfl rfl rfl rfl (by simp) hlen (by simp only [Qz,Rh]; omega) ?_
      repeat'(first|refine wk3 ?_|(refine wk2 ?_ ?_<;>intro _)|fail)
      exact Qr ⟨(k+2,j+1,_,_,els++[[.isl 1 (Wp (E.length+[[I (w:Int)]].length) (Wq 0 (E++[[I (w:Int)]]))),I iox,I ioy,I aax,I aay,I bbx,I bby,I nx]]),[(24,47)],rfl,kps,kps,⟨by show k+2=j+1; omega,Zb (by omega),hlt,by exact List.length_append.symm,e3.symm⟩,by show T.length-(j+1)<T.length-j; omega⟩
    have hjn:j=T.length-1:=by omega
    subst hjn
    subst hels
    obtain ⟨q,rfl⟩:∃ q,k=q+1:=⟨k-1,by omega⟩
    refine bs.av (sx:=Yh) hk ?_
    repeat'(first|refine wk3 ?_|(refine wk2 ?_ ?_<;>intro _)|fail)
    exact Yk [24] rfl (by rw [hlen]; rfl) rfl
   | succ k =>
    repeat'(first|refine wk3 ?_|(refine wk2 ?_ ?_<;>intro _)|fail)
    refine bs.sv (sx:=Yh) hk Tryz.func168 (by kernel_rfl) (by kernel_rfl) ?_
    repeat'(first|refine wk3 ?_|(refine wk2 ?_ ?_<;>intro _)|fail)
    refine Zm (S:=Nat × Int × List (List AV)) (fun t=>v2.length-t.1) (fun t=>[(0,.asl 23 0 v2.length),(1,.func 173 [] []),(7,.asl 23 0 v2.length),(8,I v2.length),(9,I t.2.1)])
     (fun t=>[(23,.row 2 t.2.2 true true),(22,.row 1 [[.asl 23 0 v2.length]] true false),(18,.row 2 [[I hx,I hy]] true false),(17,.row 2 [[I lx,I ly]] true false),(2,.row 2 [[I iox,I ioy]] true false),(1,.row 8 [[.isl 1 E,I ox,I oy,I ax,I ay,I bx,I by',I (w:Int)]] true false),(0,.row 9 [h.cells] true false)]) 24 24 (fun t=>t.2.1=t.1/\t.1<=v2.length/\t.2.2=(mixR v2 t.1).map wv) (0,0,v2.map wv) ⟨rfl,Qp _,rfl⟩ (Qm rfl) [] rfl (kps) (kps) ?_
    rintro ⟨j,i,els⟩ ⟨hi,hj,hels⟩
    dsimp only at hi hj hels ⊢
    subst hi
    have lel:els.length=v2.length:=by rw [hels,Qj,Zf3]
    by_cases hlt:j<v2.length
    ·have e1:=Zf4 hlt
     have e2:=Zf2 hlt
     rw [<-hels] at e1 e2
     have t1:=hW2 v2[j] (Qn hlt)
     have t2:=Zfb t1.1 t1.2
     generalize v2[j]=v at *
     generalize red v=u at *
     obtain ⟨vx,vy⟩:=v
     obtain ⟨ux,uy⟩:=u
     refine bs.av (sx:=Yh) hk ?_
     repeat'(first|refine wk3 ?_|(refine wk2 ?_ ?_<;>intro _)|fail)
     exact Qr ⟨(j+1,Qa Qb ((j:Int)+1),Ze7 els (0+((j:Nat):Int).toNat) [I ux,I uy]),[],rfl,kps,kps,⟨Zb (by omega),hlt,e2⟩,by dsimp only; omega⟩
    have hjn:j=v2.length:=by omega
    subst hjn
    rw [Zf5] at hels
    obtain ⟨xs,hxs⟩:=subs (P:=fun v=>g1 v/\Vb v/\inS (lx,ly) (hx,hy) v) (v2.map red) hIn
    have hx2:els=xs.map (fun b:Ts (lx,ly) (hx,hy)=>wv b.1):=by rw [hels,<-hxs,Ot]; rfl
    have lxs:xs.length=v2.length:=by
     have:=congrArg Oa hxs
     simpa using this
    clear hels
    subst hx2
    refine bs.av (sx:=Yh) hk ?_
    repeat'(first|refine wk3 ?_|(refine wk2 ?_ ?_<;>intro _)|fail)
    rw [<-lxs]
    refine Zfr Zwg hS (by decide) (Zgl Tryz.func173 (by kernel_rfl) (by kernel_rfl)) (fun b:Ts (lx,ly) (hx,hy)=>wv b.1) (fun _=>rfl) (fun _=>rfl) (fun _=>rfl) (fun a b:Ts (lx,ly) (hx,hy)=>-(Si a.1 b.1)) (fun a _ b _=>Zfv (e173 a.2.2.1 b.2.2.1)) (Zm3 b0) (by omega) rfl fun ys hp hs=>?_
    have hys:=hT ys (by rw [<-hRd,<-hxs]; exact hp.map _) hs
    have e5:ys.map (fun b:Ts (lx,ly) (hx,hy)=>wv b.1)=T.map wv:=by rw [<-hys,Ot]; rfl
    rw [e5]
    repeat'(first|refine wk3 ?_|(refine wk2 ?_ ?_<;>intro _)|fail)
    have lT:(T.map wv).length=T.length:=Qj _
    have lx2:xs.length=T.length:=by rw [<-hys,Qj]; exact hp.length_eq.symm
    have hnd:∀ i,0<i->i<T.length->T[i]?≠T[i-1]?:=by
     intro i h0 h1 q
     have:=Tj.1 s1 (i-1) i (by omega) h1 (by omega)
     rw [Qe h1,Qe (by omega:i-1<_)] at q
     rw [Sr q,Zj] at this
     omega
    have h2T:2<=T.length:=by
     rw [<-hTT]
     unfold tB
     simp only [Qz,Rb,Rh]
     omega
    clear hys e5 hp hs hT hxs hit hW
    rw [lx2]
    refine bs.sv (sx:=Yh) hk Tryz.func216 (by kernel_rfl) (by kernel_rfl) ?_
    repeat'(first|refine wk3 ?_|(refine wk2 ?_ ?_<;>intro _)|fail)
    have hT1000:T.length<1000:=by omega
    refine Zm (S:=Nat × Int) (fun t=>T.length-t.1) (fun t=>[(0,.asl 23 0 T.length),(3,I t.2)]) (fun _=>[(23,.row 2 (T.map wv) true true),(22,.row 1 [[.asl 23 0 T.length]] true false),(18,.row 2 [[I hx,I hy]] true false),(17,.row 2 [[I lx,I ly]] true false),(2,.row 2 [[I iox,I ioy]] true false),(1,.row 8 [[.isl 1 E,I ox,I oy,I ax,I ay,I bx,I by',I (w:Int)]] true false),(0,.row 9 [h.cells] true false)]) 24 24
     (fun t=>t.2=t.1/\1<=t.1/\t.1<=T.length) (1,1) ⟨rfl,Qd _,by omega⟩ (Qm rfl) [] rfl (kps) (kps) ?_
    rintro ⟨j,i⟩ ⟨hi,hj0,hj⟩
    dsimp only at hi hj0 hj ⊢
    subst hi
    by_cases hlt:j<T.length
    ·have e1:=Xh hlt
     have e2:=Xh (T:=T) (j:=j-1) (by omega)
     rw [show (((j-1:Nat):Int))=Qa Qb ((j:Int)-1) by rw [W_eq (by omega) (by omega)]; omega] at e2
     have hd:=hnd j (by omega) hlt
     rw [Qe hlt,Qe (by omega:j-1<T.length)] at hd
     have w1:decide (0<=Qa Qb ((j:Int)-1))=true:=by rw [W_eq (by omega) (by omega)]; exact decide_eq_true (by omega)
     have w2:decide (Qa Qb ((j:Int)-1)<(T.length:Int))=true:=by rw [W_eq (by omega) (by omega)]; exact decide_eq_true (by omega)
     have hz:Qa Qb ((j:Int)-1)=(j:Int)-1:=W_eq (by omega) (by omega)
     generalize T[j]=u at *
     generalize T[j-1]'(by omega)=v at *
     obtain ⟨ux,uy⟩:=u
     obtain ⟨vx,vy⟩:=v
     have hraw:(decide (ux=vx)&&(decide (uy=vy)&&true))=false:=by
      rw [Qx]
      intro q
      simp only [Oq,Qc,decide_eq_true_eq] at q
      exact hd (by rw [q.1,q.2])
     clear hd
     refine bs.av (sx:=Yh) hk ?_
     repeat'(first|refine wk3 ?_|(refine wk2 ?_ ?_<;>intro _)|fail)
     all_goals first
      | exact Qr ⟨(j+1,Qa Qb ((j:Int)+1)),[],rfl,kps,kps,⟨Zb (by omega),by omega,hlt⟩,by dsimp only; omega⟩
      | (exfalso; clear hk; simp_all; done)
    have hjn:j=T.length:=by omega
    subst hjn
    refine bs.av (sx:=Yh) hk ?_
    repeat'(first|refine wk3 ?_|(refine wk2 ?_ ?_<;>intro _)|fail)
    have hlT:(Rv (T.length-1)).length=T.length-1:=Tf
    have eT:Qa Qb ((T.length:Int)-1)=((T.length-1:Nat):Int):=by rw [W_eq (by omega) (by omega)]; omega
    have hgd:=fun i (hi:i<T.length-1)=>(hgood _ (Ta.2 ⟨i,Rx.2 hi,rfl⟩)).1
    rw [eT]
    refine Zm (S:=Nat × Nat × Int × Nat × List (List AV)) (fun t=>T.length-t.2.1) (fun t=>[(2,.ptr 0 0 0),(3,.ptr 1 0 0),(5,.ptr 2 0 0),(8,.ptr 22 0 0),(10,gv 24 t.1 t.2.2.2.1),(53,I ((T.length-1:Nat):Int)),(54,I t.2.2.1)])
     (fun t=>gz 24 8 t.1 t.2.2.2.2 [(23,.row 2 (T.map wv) true true),(22,.row 1 [[.asl 23 0 T.length]] true false),(18,.row 2 [[I hx,I hy]] true false),(17,.row 2 [[I lx,I ly]] true false),(2,.row 2 [[I iox,I ioy]] true false),(1,.row 8 [[.isl 1 E,I ox,I oy,I ax,I ay,I bx,I by',I (w:Int)]] true false),(0,.row 9 [h.cells] true false)]) 24 25
     (fun t=>t.1=t.2.1/\t.2.2.1=t.2.1/\t.2.1<=T.length-1/\t.2.2.2.1=t.2.2.2.2.length/\t.2.2.2.2=((Rv t.2.1).map F).map bmA) (0,0,0,0,[]) ⟨rfl,rfl,Qp _,rfl,rfl⟩ (Qm rfl) [] rfl (kps) (kps) ?_
    rintro ⟨k,j,i,len,els⟩ ⟨hkj,hi,hj,hlen,hels⟩
    dsimp only at hkj hi hj hlen hels ⊢
    subst hi
    by_cases hlt:j<T.length-1
    ·have gm:=hgd j hlt
     have em:=hF2 j
     have hj1:j<T.length:=by omega
     have hj2:j+1<T.length:=by omega
     have hq:=Xq hj1
     have hq2:=Xq hj2
     have eW:Qa Qb ((j:Int)+1)=((j+1:Nat):Int):=Zb (by omega)
     have e1:=Xh hj1
     have e2:=Xh hj2
     have dD:decide (0<=Qa Qb ((j:Int)+1)/\Qa Qb ((j:Int)+1)<(T.length:Int))=true:=by
      rw [eW]
      exact decide_eq_true (by omega)
     have e3:((Rv (j+1)).map F).map bmA=els++[bmA (F j)]:=by
      rw [Na,Rm,Rm,<-hels]
      rfl
     generalize F j=m at *
     have hc:TB [h.av,wsA (ws++[(w:Int)]),P2 iox ioy,P2 m.a.1 m.a.2,P2 m.b.1 m.b.2]=some ⟨.agg (bmA m),[]⟩:=by
      obtain ⟨v,env,KK⟩:=gm.sec
      have hLP:LP h.cs (iox,ioy) (Zw (ws++[(w:Int)])) (addV m.a m.b):=by
       have ho:m.o=(iox,ioy):=by rw [em]
       have hws:m.ws=ws++[(w:Int)]:=by rw [em]
       rw [ho,hws] at KK
       have hab:=KK.ab
       have d1:0<Si m.a (addV m.a m.b):=by rw [Vt,Xn,Zj]; omega
       have d2:0<Si (addV m.a m.b) m.b:=by rw [Vt,Yr,Zj]; omega
       intro l q
       obtain ⟨q1,t,q2,q3⟩:=KK.lp l q
       exact ⟨q1,t,q2,(q3 _ d1 d2).n⟩
      have:=Zje (h:=h) (ws:=ws++[(w:Int)]) (o:=(iox,ioy)) (nx:=nxtV h.cs (iox,ioy) (Zw (ws++[(w:Int)]))) (a:=m.a) (b:=m.b) ⟨gm.ga,gm.gb⟩ ⟨gm.ba,gm.bb⟩ hLP
      rw [hTB] at this
      rw [this]
      congr 3
      rw [em,hlw]
     have ea:T[j]=m.a:=by rw [em,<-hq]
     have eb:T[j+1]=m.b:=by rw [em,<-hq2]
     rw [ea] at e1
     rw [eb,<-eW] at e2
     have l4:els.length<2000:=by rw [hels,Qj,Qj,Tf]; omega
     have hbA:bmA m=[wsA (ws++[(w:Int)]),I iox,I ioy,I m.a.1,I m.a.2,I m.b.1,I m.b.2,I m.nx]:=by unfold bmA; rw [em]
     rw [hbA] at hc e3
     rw [ew] at hc e3
     generalize m.nx=nx at *
     generalize hma:m.a=aa at *
     generalize hmb:m.b=bb at *
     obtain ⟨aax,aay⟩:=aa
     obtain ⟨bbx,bby⟩:=bb
     dsimp only at e1 e2 hc e3
     clear em gm hma hmb hbA hq hq2 ea eb
     cases k with
     | zero =>
      have hz:els=[]:=by rw [hels,<-hkj]; rfl
      subst hz
      refine bs.av (sx:=Yh) hk ?_
      repeat'(first|refine wk3 ?_|(refine wk2 ?_ ?_<;>intro _)|fail)
      refine Xz (ys:=[[I (w:Int)]]) rfl rfl rfl rfl rfl rfl rfl rfl rfl rfl (by simp) rfl (by simp only [Qz,Rh]; omega) ?_
      repeat'(first|refine wk3 ?_|(refine wk2 ?_ ?_<;>intro _)|fail)
      exact Qr ⟨(1,j+1,_,_,[[.isl 1 (Wp (E.length+[[I (w:Int)]].length) (Wq 0 (E++[[I (w:Int)]]))),I iox,I ioy,I aax,I aay,I bbx,I bby,I nx]]),[(24,47)],rfl,kps,kps,⟨by show 1=j+1; omega,Zb (by omega),hlt,rfl,e3.symm⟩,by show T.length-(j+1)<T.length-j; omega⟩
     | succ k =>
      refine bs.av (sx:=Yh) hk ?_
      repeat'(first|refine wk3 ?_|(refine wk2 ?_ ?_<;>intro _)|fail)
      refine Xz (ys:=[[I (w:Int)]]) rfl rfl rfl rfl rfl rfl rfl rfl rfl rfl (by simp) rfl (by simp only [Qz,Rh]; omega) ?_
      repeat'(first|refine wk3 ?_|(refine wk2 ?_ ?_<;>intro _)|fail)
      refine Xz (ys:=[[.isl 1 (Wp (E.length+[[I (w:Int)]].length) (Wq 0 (E++[[I (w:Int)]]))),I iox,I ioy,I aax,I aay,I bbx,I bby,I nx]]) rfl rfl rfl rfl rfl rfl rfl rfl rfl rfl (by simp) hlen (by simp only [Qz,Rh]; omega) ?_
      repeat'(first|refine wk3 ?_|(refine wk2 ?_ ?_<;>intro _)|fail)
      exact Qr ⟨(k+2,j+1,_,_,els++[[.isl 1 (Wp (E.length+[[I (w:Int)]].length) (Wq 0 (E++[[I (w:Int)]]))),I iox,I ioy,I aax,I aay,I bbx,I bby,I nx]]),[(24,47)],rfl,kps,kps,⟨by show k+2=j+1; omega,Zb (by omega),hlt,by exact List.length_append.symm,e3.symm⟩,by show T.length-(j+1)<T.length-j; omega⟩
    have hjn:j=T.length-1:=by omega
    subst hjn
    subst hels
    obtain ⟨q,rfl⟩:∃ q,k=q+1:=⟨k-1,by omega⟩
    refine bs.av (sx:=Yh) hk ?_
    repeat'(first|refine wk3 ?_|(refine wk2 ?_ ?_<;>intro _)|fail)
    exact Yk [24] rfl (by rw [hlen]; rfl) rfl
theorem Zsk (R:V->V->Bool) (t:V):∀ l:List V,(insB R t l).length=l.length+1
 | []=>rfl
 | a::l=>by
  unfold insB
  split
  ·rw [Qz,Zsk R t l,Qz]
  ·rfl
theorem Zqf (R:V->V->Bool) (l:List V) (t:V):(Kl R l t).length<=l.length+1:=by
 unfold Kl
 split
 ·omega
 ·rw [Dd,Zsk,Dd]; exact Qd _
theorem Zmx (R:V->V->Bool) (f:V->V):∀ (ws l:List V),(ws.foldl (fun l w=>Kl R l (f w)) l).length<=l.length+ws.length
 | [],l=>by simp
 | w::ws,l=>by
  have:=Zmx R f ws (Kl R l (f w))
  have h2:=Zqf R l (f w)
  rw [List.foldl_cons,Qz]
  omega
theorem Zot {α:Type} (p:α->Bool):∀ {l:List α} {x:α},x∈l->p x=false->(l.filter p).length+1<=l.length
 | a::l,x,hx,hp=>by
  have hle:=Mp p l
  rw [Ld]
  rcases Ra.1 hx with rfl|hx
  ·rw [hp]; simp only [Bool.false_eq_true,if_false,Qz]; omega
  ·have:=Zot p hx hp
   split<;>simp only [Qz]<;>omega
theorem Zra {h:Hal} (g:h.fine) {m:Bm} (G:GoodB h m) (hlen:m.ws.length<4):(behB h.cs m).length<=12/\1<=(behB h.cs m).length:=by
 have B:=Zs8 g G hlen
 unfold behB
 dsimp only
 generalize m.nx.toNat=w at *
 generalize imgO h.cs w m.o=o at *
 generalize imgV h.cs w m.b=lo at *
 generalize imgV h.cs w m.a=hi at *
 have l12:h.cs.length<=12:=by have:=g.le; omega
 have h1:(btwL h.cs o w lo hi).length+1<=h.cs.length:=by
  unfold btwL Vl
  rw [List.filter_map,Qj,List.filter_filter]
  refine Zot _ (Qn B.wl) ?_
  rw [Qx]
  intro q
  rw [Qc] at q
  have q:=q.1
  dsimp only [Function.comp] at q
  rw [Qc,decide_eq_true_eq,decide_eq_true_eq,<-Zlx _ B.wl] at q
  obtain ⟨_,t,e,i1,i2⟩:=(B.lk _ q.1 q.2).lk w rfl
  rcases Zdj e with ⟨e1,e2⟩|⟨e1,e2⟩
  ·rw [e1,Zj] at i1; omega
  ·rw [e2,Zj] at i2; omega
 have h2:=Zmx crB red (btwL h.cs o w lo hi) []
 rw [Qj,Tf]
 unfold tB innT
 simp only [Qz,Rb,Rh] at h2 ⊢
 omega
theorem Zvs {h:Hal} (g:h.fine) (o:V):(Zu h.cs o).length<=12:=by
 have l12:h.cs.length<=12:=by have:=g.le; omega
 unfold Zu tO
 rw [Qj,Tf]
 have h2:=Zmx snB red (Vl h.cs o none) []
 have h3:(Vl h.cs o none).length<=h.cs.length:=by
  unfold Vl
  rw [Qj]
  exact Mp _ _
 simp only [Rh] at h2
 omega
def levB (cs:List (Int × Int)) (o:V):Nat->List Bm
 | 0=>Zu cs o
 | k+1=>(levB cs o k).flatMap (behB cs)
def outB (cs:List (Int × Int)) (o:V):Nat->List Bm
 | 0=>Zu cs o
 | k+1=>outB cs o k++levB cs o (k+1)
theorem Zad {h:Hal} (g:h.fine) {o:V} (k:InSrc h o):∀ n,n<=4->∀ m∈levB h.cs o n,GoodB h m/\m.ws.length=n
 | 0,_,m,hm=>by
  obtain ⟨q1,q2,_⟩:=(Zeb g k).2 m hm
  exact ⟨q1,by rw [q2]; rfl⟩
 | n+1,hn,m,hm=>by
  obtain ⟨m0,h0,h1⟩:=List.mem_flatMap.1 hm
  obtain ⟨q1,q2⟩:=Zad g k n (by omega) m0 h0
  obtain ⟨r1,r2⟩:=Zfo g q1 (by omega) m h1
  exact ⟨r1,by rw [r2,Rb,q2,Kr]⟩
theorem Zig {α β:Type} (f:α->List β) (c:Nat):∀ l:List α,(∀ x∈l,(f x).length<=c/\1<=(f x).length)->(l.flatMap f).length<=l.length*c/\l.length<=(l.flatMap f).length
 | [],_=>by simp
 | a::l,h=>by
  obtain ⟨i1,i2⟩:=Zig f c l (fun x hx=>h x (by simp [hx]))
  obtain ⟨j1,j2⟩:=h a (by simp)
  rw [List.flatMap_cons,Rb,Qz,Nat.add_mul]
  omega
theorem Zcu {h:Hal} (g:h.fine) {o:V} (k:InSrc h o):∀ n,n<=4->(levB h.cs o n).length<=12*12 ^ n/\3<=(levB h.cs o n).length
 | 0,_=>by
  refine ⟨Zvs g o,?_⟩
  show 3<=(Zu h.cs o).length
  unfold Zu
  rw [Qj,Tf]
  exact (Zeb g k).1
 | n+1,hn=>by
  obtain ⟨i1,i2⟩:=Zcu g k n (by omega)
  obtain ⟨j1,j2⟩:=Zig (behB h.cs) 12 (levB h.cs o n) (fun m hm=>by
   obtain ⟨q1,q2⟩:=Zad g k n (by omega) m hm
   exact Zra g q1 (by omega))
  rw [Nat.pow_succ]
  show ((levB h.cs o n).flatMap (behB h.cs)).length<=_/\3<=((levB h.cs o n).flatMap (behB h.cs)).length
  omega
theorem Zds {h:Hal} (g:h.fine) {o:V} (k:InSrc h o):∀ n,n<=4->∀ m∈outB h.cs o n,GoodB h m/\m.ws.length<=n
 | 0,hn,m,hm=>by
  obtain ⟨q1,q2⟩:=Zad g k 0 hn m hm
  exact ⟨q1,by omega⟩
 | n+1,hn,m,hm=>by
  rcases Sh.1 hm with q|q
  ·obtain ⟨q1,q2⟩:=Zds g k n (by omega) m q
   exact ⟨q1,by omega⟩
  ·obtain ⟨q1,q2⟩:=Zad g k (n+1) hn m q
   exact ⟨q1,by omega⟩
theorem Zr6 {h:Hal} (g:h.fine) {o:V} (k:InSrc h o):∀ n,n<=4->(outB h.cs o n).length<=12*12 ^ n*2/\3<=(outB h.cs o n).length
 | 0,hn=>by
  have:=Zcu g k 0 hn
  show (Zu h.cs o).length<=_/\3<=(Zu h.cs o).length
  have e:levB h.cs o 0=Zu h.cs o:=rfl
  rw [e] at this
  omega
 | n+1,hn=>by
  have h1:=Zr6 g k n (by omega)
  have h2:=Zcu g k (n+1) hn
  rw [show outB h.cs o (n+1)=outB h.cs o n++levB h.cs o (n+1) from rfl,Rb]
  rw [Nat.pow_succ] at *
  omega
theorem Zfz {h:Hal} (g:h.fine) {o:V} (k:InSrc h o) {n:Nat} (hn:n<=2):(outB h.cs o n).length<=2000:=by
 have a0:=(Zcu g k 0 (by omega)).1
 have a1:=(Zcu g k 1 (by omega)).1
 have a2:=(Zcu g k 2 (by omega)).1
 have e0:(outB h.cs o 0).length=(levB h.cs o 0).length:=rfl
 have e1:(outB h.cs o 1).length=(levB h.cs o 0).length+(levB h.cs o 1).length:=Rb
 have e2:(outB h.cs o 2).length=(outB h.cs o 1).length+(levB h.cs o 2).length:=Rb
 have:n=0\/n=1\/n=2:=by omega
 rcases this with rfl|rfl|rfl<;>omega
theorem Ydw (m:Bm):(bmA m).all AV.one=true:=by
 unfold bmA wsA
 cases m.ws<;>rfl
theorem Zpf (m:Bm):∃ Aw q1 q2 q3 q4 q5 q6 q7,bmA m=[Aw,I q1,I q2,I q3,I q4,I q5,I q6,I q7]/\(Aw = .nils\/∃ E0,Aw = .isl 1 E0):=by
 refine ⟨_,_,_,_,_,_,_,_,rfl,?_⟩
 unfold wsA
 cases m.ws with
 | nil=>exact .inl rfl
 | cons x r=>exact .inr ⟨_,rfl⟩
theorem Zb9 (l:List Bm):Xs (l.map bmA)=true:=by
 unfold Xs
 rw [List.all_map]
 exact List.all_eq_true.2 fun m _=>Ydw m
theorem e89 {L:List Bm} (h0:L≠[]) (hl:L.length<100000):PCall Tryz.prog 89 [.isl 8 (L.map bmA)] ⟨.asl 0 0 (L.map bmA).length,[(8,L.map bmA)]⟩:=by
 have h1:=Zb9 L
 have h2:(L.map bmA).length=L.length:=Qj _
 have h3:L.map bmA≠[]:=by simpa using h0
 generalize L.map bmA=E at *
 cases E with
 | nil=>exact absurd rfl h3
 | cons x r =>
 refine pn Ze Tryz.func89 ?_
 repeat'(first|refine wk3 ?_|(refine wk2 ?_ ?_<;>intro _)|fail)
 refine Yk [1] rfl ?_ rfl
 show AV.asl 1 0 (0+(x::r).length)=AV.asl 1 0 (x::r).length
 rw [Sk]
theorem Ze6 {a b:List Int} (e:wsA a=wsA b):a=b:=by
 unfold wsA at e
 cases a with
 | nil=>cases b with
  | nil=>rfl
  | cons y t=>cases e
 | cons x r=>cases b with
  | nil=>cases e
  | cons y t =>
   dsimp only at e
   rw [AV.isl.injEq] at e
   have e:=e.2
   unfold nl at e
   have key:∀ l1 l2:List Int,l1.map (fun x=>[I x])=l2.map (fun x=>[I x])->l1=l2:=by
    intro l1
    induction l1 with
    | nil=>intro l2 q; cases l2 with
     | nil=>rfl
     | cons _ _=>cases q
    | cons a l1 ih=>intro l2 q; cases l2 with
     | nil=>cases q
     | cons b l2 =>
      rw [Ss,Ss,Rd] at q
      obtain ⟨q1,q2⟩:=q
      cases q1
      rw [ih l2 q2]
   exact key _ _ e
theorem Zkf {a b:Bm} (e:bmA a=bmA b):a=b:=by
 obtain ⟨ws,o,p,q,nx⟩:=a
 obtain ⟨ws2,o2,p2,q2,nx2⟩:=b
 obtain ⟨ox,oy⟩:=o
 obtain ⟨px,py⟩:=p
 obtain ⟨qx,qy⟩:=q
 obtain ⟨ox2,oy2⟩:=o2
 obtain ⟨px2,py2⟩:=p2
 obtain ⟨qx2,qy2⟩:=q2
 unfold bmA at e
 simp only [Rd,Tt,true_and,and_true] at e
 obtain ⟨e0,e1,e2,e3,e4,e5,e6,e7⟩:=e
 rw [Ze6 e0,e1,e2,e3,e4,e5,e6,e7]
noncomputable abbrev rBh (h:Hal):List AV->Option PRes:=famA (fun m:Bm=>GoodB h m/\m.ws.length<4) (fun m=>[h.av,.agg (bmA m)]) (fun m=>⟨.isl 8 ((behB h.cs m).map bmA),[]⟩)
theorem Ydn {h:Hal} {m:Bm} (G:GoodB h m) (hl:m.ws.length<4):rBh h [h.av,.agg (bmA m)]=some ⟨.isl 8 ((behB h.cs m).map bmA),[]⟩ :=
 Zl (p:=fun m:Bm=>GoodB h m/\m.ws.length<4) (g:=fun m=>[h.av,.agg (bmA m)]) (r:=fun m=>⟨.isl 8 ((behB h.cs m).map bmA),[]⟩) (k:=m) (fun j hj=>by
  simp only [Rd,Pj,true_and,and_true] at hj
  rw [Zkf hj]) ⟨G,hl⟩
theorem Yfy {h:Hal} (hf:h.few) (g:h.fine) (hS:SortsK Tryz.prog 215 2) {pt:PC} (hp:PCOK Tryz.prog pt):PCOK Tryz.prog (ins 90 (rBh h) pt):=Zn (fun m hm=>e90 hf g hS hm.1 hm.2) hp
def lvA (n0 k len:Nat) (els:List (List AV)):AV:=match k with
 | 0=>.isl 8 els
 | _=>.asl n0 0 len
theorem e50 {h:Hal} (hf:h.few) (g:h.fine) (hS:SortsK Tryz.prog 215 2) {o:V} (k:InSrc h o) {n:Nat} (hn:n<=2):PCall Tryz.prog 50 [h.av,P2 o.1 o.2,I n] ⟨.isl 8 ((outB h.cs o n).map bmA),[]⟩:=by
 have c88:=e88 hf g hS k
 have hlev:=fun j hj=>Zad g k j hj
 have hlen:=fun j hj=>Zcu g k j hj
 have holen:=fun j hj=>Zr6 g k j hj
 have hr0:Zu h.cs o≠[]:=by
  intro q
  have:=(hlen 0 (by omega)).2
  rw [show levB h.cs o 0=Zu h.cs o from rfl,q] at this
  simp at this
 have hr1:=(hlen 0 (by omega)).1
 have c89:=e89 (L:=Zu h.cs o) hr0 (by rw [show levB h.cs o 0=Zu h.cs o from rfl] at hr1; omega)
 have hk:PCOK Tryz.prog (ins 88 (one [h.av,P2 o.1 o.2] ⟨.isl 8 ((Zu h.cs o).map bmA),[]⟩) (ins 89 (one [.isl 8 ((Zu h.cs o).map bmA)] ⟨.asl 0 0 ((Zu h.cs o).map bmA).length,[(8,(Zu h.cs o).map bmA)]⟩) (ins 90 (rBh h) pt0))) :=
  Zf c88 (Zf c89 (Yfy hf g hS Ze))
 have hhit:=fun (m:Bm) (q:GoodB h m) (q2:m.ws.length<4)=>Ydn q q2
 have hb:=fun (m:Bm) (q:GoodB h m) (q2:m.ws.length<4)=>Zra g q q2
 refine Nw (res:=⟨.asl 0 0 ((outB h.cs o n).map bmA).length,[(8,(outB h.cs o n).map bmA)]⟩) ?_ ⟨rfl,rfl,rfl⟩
 generalize hRR:rBh h=TB at *
 obtain ⟨ox,oy⟩:=o
 dsimp only at *
 have hlv0:levB h.cs (ox,oy) 0=Zu h.cs (ox,oy):=rfl
 have hou0:outB h.cs (ox,oy) 0=Zu h.cs (ox,oy):=rfl
 generalize hR0:Zu h.cs (ox,oy)=R0 at *
 refine pn hk Tryz.func50 ?_
 repeat'(first|refine wk3 ?_|(refine wk2 ?_ ?_<;>intro _)|fail)
 refine Ybz (S:=Nat × Nat × Int × Nat × List (List AV) × Nat × List (List AV)) (fun t=>n-t.2.1) (fun t=>[(3,.ptr 0 0 0),(4,.ptr 1 0 0),(7,lvA 4 t.1 t.2.2.2.1 t.2.2.2.2.1),(8,.asl 3 0 t.2.2.2.2.2.1),(17,I (n:Int)),(18,I t.2.2.1)])
  (fun t=>gz 4 8 t.1 t.2.2.2.2.1 [(3,.row 8 t.2.2.2.2.2.2 true true),(1,.row 2 [[I ox,I oy]] true false),(0,.row 9 [h.cells] true false)]) 3 5
  (fun t=>t.1=t.2.1/\t.2.2.1=t.2.1/\t.2.1<=n/\t.2.2.2.1=t.2.2.2.2.1.length/\t.2.2.2.2.1=(levB h.cs (ox,oy) t.2.1).map bmA/\t.2.2.2.2.2.1=t.2.2.2.2.2.2.length/\t.2.2.2.2.2.2=(outB h.cs (ox,oy) t.2.1).map bmA)
  (0,0,0,(R0.map bmA).length,R0.map bmA,(R0.map bmA).length,R0.map bmA) ⟨rfl,rfl,Qp _,rfl,by rw [hlv0],rfl,by rw [hou0]⟩ (Qd _) [(3,2)] rfl (kps) (kps) ?_
 rintro ⟨k,j,i,len,lels,ol,oels⟩ ⟨hkj,hi,hj,hle,hlels,hol,hoels⟩
 dsimp only at hkj hi hj hle hlels hol hoels ⊢
 subst hi
 by_cases hlt:j<n
 ·have L1:=hlev j (by omega)
  have L2:=(hlen j (by omega)).1
  have L3:=(holen j (by omega)).1
  have L4:=(hlen j (by omega)).2
  have hp1:12 ^ j<=12 ^ 2:=Nat.pow_le_pow_right (by omega) (by omega)
  have eL:levB h.cs (ox,oy) (j+1)=(levB h.cs (ox,oy) j).flatMap (behB h.cs):=rfl
  have eO:outB h.cs (ox,oy) (j+1)=outB h.cs (ox,oy) j++levB h.cs (ox,oy) (j+1):=rfl
  generalize hLL:levB h.cs (ox,oy) j=L at *
  have hbL:∀ m∈L,(behB h.cs m).length<=12/\1<=(behB h.cs m).length:=fun m hm=>hb m (L1 m hm).1 (by have:=(L1 m hm).2; omega)
  have l5:lels.length=L.length:=by rw [hlels,Qj]
  have l6:oels.length<10000:=by rw [hoels,Qj]; omega
  cases k with
  | zero =>
   refine bs.av (sx:=nos) hk ?_
   repeat'(first|refine wk3 ?_|(refine wk2 ?_ ?_<;>intro _)|fail)
   refine Zm (S:=Nat × Nat × Int × Nat × List (List AV)) (fun t=>L.length-t.2.1) (fun t=>[(3,.ptr 0 0 0),(4,.ptr 1 0 0),(8,.asl 3 0 ol),(17,I (n:Int)),(18,I (j:Int)),(9,gv 5 t.1 t.2.2.2.1),(20,.isl 8 lels),(21,I lels.length),(22,I t.2.2.1)])
    (fun t=>gz 5 8 t.1 t.2.2.2.2 [(3,.row 8 oels true true),(1,.row 2 [[I ox,I oy]] true false),(0,.row 9 [h.cells] true false)]) 5 6
    (fun t=>t.1=t.2.1/\t.2.2.1=t.2.1/\t.2.1<=L.length/\t.2.2.2.1=t.2.2.2.2.length/\t.2.2.2.2=((L.take t.2.1).flatMap (behB h.cs)).map bmA)
    (0,0,0,0,[]) ⟨rfl,rfl,Qp _,rfl,rfl⟩ (Qd _) [] rfl (kps) (kps) ?_
   rintro ⟨k2,j2,i2,nl2,nels⟩ ⟨hk2,hi2,hj2,hn2,hnels⟩
   dsimp only at hk2 hi2 hj2 hn2 hnels ⊢
   subst hi2
   have hnl:nels.length<=L.length*12:=by
    have h1:=(Zig (behB h.cs) 12 (L.take j2) (fun m hm=>hbL m (Da hm))).1
    rw [hnels,Qj]
    rw [Tu,Ns hj2] at h1
    have:=Rt 12 hj2
    omega
   by_cases hlt2:j2<L.length
   ·have hg:=L1 L[j2] (Qn hlt2)
    have hb2:=hhit L[j2] hg.1 (by omega)
    have hb3:=hb L[j2] hg.1 (by omega)
    have e1:lels[0+((j2:Nat):Int).toNat]?=some (bmA L[j2]):=by
     rw [Sk,Ri,hlels,Rr,Qe hlt2]
     rfl
    have e0:lels[((j2:Nat):Int).toNat]?=some (bmA L[j2]):=by rwa [Sk] at e1
    have e2:((L.take (j2+1)).flatMap (behB h.cs)).map bmA=nels++(behB h.cs L[j2]).map bmA:=by
     rw [Qu hlt2,Od,Rm,<-hnels]
     simp
    have o1:=Zb9 (behB h.cs L[j2])
    have l7:((behB h.cs L[j2]).map bmA).length=(behB h.cs L[j2]).length:=Qj _
    generalize (behB h.cs L[j2]).map bmA=E at *
    obtain ⟨Aw,q1,q2,q3,q4,q5,q6,q7,eA,hAw⟩:=Zpf L[j2]
    rw [eA] at e0 e1 hb2
    have hap:decide (nl2=nels.length/\nels.length+E.length<=limB 80)=true:=by
     have hz:limB 80=1759218604441:=by decide
     rw [hz]
     exact decide_eq_true (by omega)
    cases E with
    | nil=>rw [Rh] at l7; omega
    | cons x r =>
     rcases hAw with rfl|⟨E0,rfl⟩
     all_goals
      cases k2 with
      | zero =>
       have hz:nels=[]:=by rw [hnels,<-hk2]; rfl
       subst hz
       refine bs.av (sx:=nos) hk ?_
       repeat'(first|refine wk3 ?_|(refine wk2 ?_ ?_<;>intro _)|fail)
       exact Qr ⟨(1,j2+1,_,_,x::r),[(5,7)],rfl,kps,kps,⟨by show 1=j2+1; omega,Zb (by omega),hlt2,rfl,e2.symm⟩,by show L.length-(j2+1)<L.length-j2; omega⟩
      | succ k2 =>
       refine bs.av (sx:=nos) hk ?_
       repeat'(first|refine wk3 ?_|(refine wk2 ?_ ?_<;>intro _)|fail)
       exact Qr ⟨(k2+2,j2+1,_,_,nels++x::r),[(5,7)],rfl,kps,kps,⟨by show k2+2=j2+1; omega,Zb (by omega),hlt2,by exact List.length_append.symm,e2.symm⟩,by show L.length-(j2+1)<L.length-j2; omega⟩
   have hj2n:j2=L.length:=by omega
   subst hj2n
   rw [Tl,<-eL] at hnels
   obtain ⟨q,rfl⟩:∃ q,k2=q+1:=⟨k2-1,by omega⟩
   have e5:(outB h.cs (ox,oy) (j+1)).map bmA=oels++nels:=by rw [eO,Rm,<-hoels,<-hnels]
   have hraw:Wp nl2 (Wq 0 nels)=nels:=by rw [Tz,hn2,Tl]
   have hap3:Xs (Wp nl2 (Wq 0 nels))=true:=by rw [hraw,hnels]; exact Zb9 _
   have hap2:decide (ol=oels.length/\oels.length+(Wp nl2 (Wq 0 nels)).length<=limB 80)=true:=by
    have hz:limB 80=1759218604441:=by decide
    rw [hz,hraw]
    exact decide_eq_true (by omega)
   refine bs.av (sx:=nos) hk ?_
   repeat'(first|refine wk3 ?_|(refine wk2 ?_ ?_<;>intro _)|fail)
   exact Qr ⟨(1,j+1,_,nl2,nels,_,oels++Wp nl2 (Wq 0 nels)),[(3,6),(4,5)],rfl,kps,kps,⟨by show 1=j+1; omega,Zb (by omega),hlt,hn2,hnels,by exact List.length_append.symm,by rw [hraw]; exact e5.symm⟩,by show n-(j+1)<n-j; omega⟩
  | succ k =>
   refine bs.av (sx:=nos) hk ?_
   repeat'(first|refine wk3 ?_|(refine wk2 ?_ ?_<;>intro _)|fail)
   refine Zm (S:=Nat × Nat × Int × Nat × List (List AV)) (fun t=>L.length-t.2.1) (fun t=>[(3,.ptr 0 0 0),(4,.ptr 1 0 0),(8,.asl 3 0 ol),(17,I (n:Int)),(18,I (j:Int)),(9,gv 5 t.1 t.2.2.2.1),(20,.asl 4 0 len),(21,I len),(22,I t.2.2.1)])
    (fun t=>gz 5 8 t.1 t.2.2.2.2 [(4,.row 8 lels true true),(3,.row 8 oels true true),(1,.row 2 [[I ox,I oy]] true false),(0,.row 9 [h.cells] true false)]) 5 6
    (fun t=>t.1=t.2.1/\t.2.2.1=t.2.1/\t.2.1<=L.length/\t.2.2.2.1=t.2.2.2.2.length/\t.2.2.2.2=((L.take t.2.1).flatMap (behB h.cs)).map bmA)
    (0,0,0,0,[]) ⟨rfl,rfl,Qp _,rfl,rfl⟩ (Qd _) [] rfl (kps) (kps) ?_
   rintro ⟨k2,j2,i2,nl2,nels⟩ ⟨hk2,hi2,hj2,hn2,hnels⟩
   dsimp only at hk2 hi2 hj2 hn2 hnels ⊢
   subst hi2
   have hnl:nels.length<=L.length*12:=by
    have h1:=(Zig (behB h.cs) 12 (L.take j2) (fun m hm=>hbL m (Da hm))).1
    rw [hnels,Qj]
    rw [Tu,Ns hj2] at h1
    have:=Rt 12 hj2
    omega
   by_cases hlt2:j2<L.length
   ·have hg:=L1 L[j2] (Qn hlt2)
    have hb2:=hhit L[j2] hg.1 (by omega)
    have hb3:=hb L[j2] hg.1 (by omega)
    have e1:lels[0+((j2:Nat):Int).toNat]?=some (bmA L[j2]):=by
     rw [Sk,Ri,hlels,Rr,Qe hlt2]
     rfl
    have e0:lels[((j2:Nat):Int).toNat]?=some (bmA L[j2]):=by rwa [Sk] at e1
    have e2:((L.take (j2+1)).flatMap (behB h.cs)).map bmA=nels++(behB h.cs L[j2]).map bmA:=by
     rw [Qu hlt2,Od,Rm,<-hnels]
     simp
    have o1:=Zb9 (behB h.cs L[j2])
    have l7:((behB h.cs L[j2]).map bmA).length=(behB h.cs L[j2]).length:=Qj _
    generalize (behB h.cs L[j2]).map bmA=E at *
    obtain ⟨Aw,q1,q2,q3,q4,q5,q6,q7,eA,hAw⟩:=Zpf L[j2]
    rw [eA] at e0 e1 hb2
    have hap:decide (nl2=nels.length/\nels.length+E.length<=limB 80)=true:=by
     have hz:limB 80=1759218604441:=by decide
     rw [hz]
     exact decide_eq_true (by omega)
    cases E with
    | nil=>rw [Rh] at l7; omega
    | cons x r =>
     rcases hAw with rfl|⟨E0,rfl⟩
     all_goals
      cases k2 with
      | zero =>
       have hz:nels=[]:=by rw [hnels,<-hk2]; rfl
       subst hz
       refine bs.av (sx:=nos) hk ?_
       repeat'(first|refine wk3 ?_|(refine wk2 ?_ ?_<;>intro _)|fail)
       exact Qr ⟨(1,j2+1,_,_,x::r),[(5,7)],rfl,kps,kps,⟨by show 1=j2+1; omega,Zb (by omega),hlt2,rfl,e2.symm⟩,by show L.length-(j2+1)<L.length-j2; omega⟩
      | succ k2 =>
       refine bs.av (sx:=nos) hk ?_
       repeat'(first|refine wk3 ?_|(refine wk2 ?_ ?_<;>intro _)|fail)
       exact Qr ⟨(k2+2,j2+1,_,_,nels++x::r),[(5,7)],rfl,kps,kps,⟨by show k2+2=j2+1; omega,Zb (by omega),hlt2,by exact List.length_append.symm,e2.symm⟩,by show L.length-(j2+1)<L.length-j2; omega⟩
   have hj2n:j2=L.length:=by omega
   subst hj2n
   rw [Tl,<-eL] at hnels
   obtain ⟨q,rfl⟩:∃ q,k2=q+1:=⟨k2-1,by omega⟩
   have e5:(outB h.cs (ox,oy) (j+1)).map bmA=oels++nels:=by rw [eO,Rm,<-hoels,<-hnels]
   have hraw:Wp nl2 (Wq 0 nels)=nels:=by rw [Tz,hn2,Tl]
   have hap3:Xs (Wp nl2 (Wq 0 nels))=true:=by rw [hraw,hnels]; exact Zb9 _
   have hap2:decide (ol=oels.length/\oels.length+(Wp nl2 (Wq 0 nels)).length<=limB 80)=true:=by
    have hz:limB 80=1759218604441:=by decide
    rw [hz,hraw]
    exact decide_eq_true (by omega)
   refine bs.av (sx:=nos) hk ?_
   repeat'(first|refine wk3 ?_|(refine wk2 ?_ ?_<;>intro _)|fail)
   exact Qr ⟨(k+2,j+1,_,nl2,nels,_,oels++Wp nl2 (Wq 0 nels)),[(3,6),(4,5)],rfl,kps,kps,⟨by show k+2=j+1; omega,Zb (by omega),hlt,hn2,hnels,by exact List.length_append.symm,by rw [hraw]; exact e5.symm⟩,by show n-(j+1)<n-j; omega⟩
 have hjn:j=n:=by omega
 subst hjn
 subst hoels
 cases k with
 | zero =>
  refine bs.av (sx:=nos) hk ?_
  repeat'(first|refine wk3 ?_|(refine wk2 ?_ ?_<;>intro _)|fail)
  exact Yk [3] rfl (by rw [hol]; rfl) rfl
 | succ k =>
  refine bs.av (sx:=nos) hk ?_
  repeat'(first|refine wk3 ?_|(refine wk2 ?_ ?_<;>intro _)|fail)
  exact Yk [3] rfl (by rw [hol]; rfl) rfl
abbrev InB (B:Int) (v:V):Prop:=(-B<=v.1/\v.1<=B)/\(-B<=v.2/\v.2<=B)
noncomputable abbrev rMm (h:Hal):List AV->Option PRes:=famA (fun q:Int × V=>(0<=q.1/\q.1<h.cs.length)/\InB 500000 q.2) (fun q=>[h.av,I q.1,P2 q.2.1 q.2.2]) (fun q=>⟨P2 (imgV h.cs q.1.toNat q.2).1 (imgV h.cs q.1.toNat q.2).2,[]⟩)
theorem Zv2 {h:Hal} {w:Int} {v:V} (hw:0<=w/\w<h.cs.length) (hv:InB 500000 v):rMm h [h.av,I w,P2 v.1 v.2]=some ⟨P2 (imgV h.cs w.toNat v).1 (imgV h.cs w.toNat v).2,[]⟩ :=
 Zl (p:=fun q:Int × V=>(0<=q.1/\q.1<h.cs.length)/\InB 500000 q.2) (g:=fun q=>[h.av,I q.1,P2 q.2.1 q.2.2]) (r:=fun q=>⟨P2 (imgV h.cs q.1.toNat q.2).1 (imgV h.cs q.1.toNat q.2).2,[]⟩) (k:=(w,v)) (fun j hj=>by
  simp only [Rd,Tt,Pj,true_and,and_true] at hj
  rw [show j=(w,v) from Tk hj.1 (Tk hj.2.1 hj.2.2)]) ⟨hw,hv⟩
theorem Yfs {h:Hal} (hf:h.few) (g:h.fine) {pt:PC} (hp:PCOK Tryz.prog pt):PCOK Tryz.prog (ins 19 (rMm h) pt):=Zn (fun q hq=>by
 obtain ⟨n,hs⟩:=Ztp g (w:=q.1.toNat) (by omega)
 have:=e19 hf g (k:=q.1.toNat) (by omega) hs (x:=q.2.1) (y:=q.2.2) (by unfold sm6; omega) (by unfold sm6; omega)
 rw [show ((q.1.toNat:Nat):Int)=q.1 by omega] at this
 exact this) hp
theorem e177 {a b:V} (ha:Vb a) (hb:Vb b):PCall Tryz.prog 177 [P2 a.1 a.2,P2 b.1 b.2] ⟨I (Si a b),[]⟩:=by
 obtain ⟨k1,k2,k3⟩:=Zlo ha hb
 rw [<-k1]
 obtain ⟨a1,a2⟩:=a
 obtain ⟨b1,b2⟩:=b
 refine pn Ze Tryz.func177 ?_
 repeat'(first|refine wk3 ?_|(refine wk2 ?_ ?_<;>intro _)|fail)
 all_goals exact Zc rfl
theorem e221 (a:V):PCall Tryz.prog 221 [P2 a.1 a.2] ⟨I (hf a),[]⟩:=by
 obtain ⟨x,y⟩:=a
 unfold hf
 dsimp only
 by_cases h1:0<y
 ·refine pn Ze Tryz.func221 ?_
  repeat'(first|refine wk3 ?_|(refine wk2 ?_ ?_<;>intro _)|fail)
  all_goals first|(refine Zc ?_; simp_all; done)|(exfalso; simp_all; omega)
 ·refine pn Ze Tryz.func221 ?_
  repeat'(first|refine wk3 ?_|(refine wk2 ?_ ?_<;>intro _)|fail)
  all_goals first|(refine Zc ?_; simp_all; done)|(refine Zc ?_; simp_all; omega)|(exfalso; simp_all; omega)
theorem Ydi {pt:PC} (h:PCOK Tryz.prog pt):PCOK Tryz.prog (ins 221 rHf pt):=Zk (fun a res h=>by unfold rHf at h; split at h<;>cases h; exact e221 (_,_)) h
theorem e176 {a b:V} (ha:Vb a) (hb:Vb b) (rd:Bool):PCall Tryz.prog 176 [P2 a.1 a.2,P2 b.1 b.2,Bo rd] ⟨Bo (if rd=true then snB a b else crB a b),[]⟩:=by
 have c177:=e177 ha hb
 have hk:=Ydi (Zf c177 Ze)
 unfold snB crB
 have h0:=Zas a
 have h1:=Zas b
 obtain ⟨a1,a2⟩:=a
 obtain ⟨b1,b2⟩:=b
 dsimp only at hk
 generalize Si (a1,a2) (b1,b2)=C at *
 cases rd with
 | false =>
  rw [if_neg (by decide)]
  refine pn hk Tryz.func176 ?_
  repeat'(first|refine wk3 ?_|(refine wk2 ?_ ?_<;>intro _)|fail)
  all_goals exact Za rfl
 | true =>
  rw [if_pos rfl]
  refine pn hk Tryz.func176 ?_
  repeat'(first|refine wk3 ?_|(refine wk2 ?_ ?_<;>intro _)|fail)
  all_goals
   generalize hf (a1,a2)=p at *
   generalize hf (b1,b2)=q at *
   refine Za ?_
   simp_all
theorem e96 {h:Hal} (hf:h.few) (g:h.fine) {o a b:V} (ho:OB o) (ba:(-50000<=a.1/\a.1<=50000)/\(-50000<=a.2/\a.2<=50000)) (bb:(-50000<=b.1/\b.1<=50000)/\(-50000<=b.2/\b.2<=50000)) {L:Option Nat} (hp:LP h.cs o L (addV a b)) {c:Cd} (e:bstV h.cs o (addV a b) L=some c) :
  PCall Tryz.prog 96 [h.av,P2 o.1 o.2,I (laI L),P2 a.1 a.2,P2 b.1 b.2] ⟨I (nxtV h.cs o L (addV a b)),[]⟩:=by
 have rb:RyB (ryV o (addV a b)):=Zi8 ho (by unfold addV; dsimp only; omega) (by unfold addV; dsimp only; omega)
 have qc47:=Zv4 rb (Zy2 g hp)
 have e1:bstP (Yi h.cs (ryV o (addV a b)) (frQ h.cs o (addV a b) L) (laI L)) h.cs.length=some c:=e
 rw [e1] at qc47
 have hk:=Ybr hf g Ze
 have hn:nxtV h.cs o L (addV a b)=c.i:=by unfold nxtV; rw [e]
 rw [hn]
 have ea:(addV a b).1=Qa Qb (a.1+b.1):=(W_eq (n:=a.1+b.1) (by omega) (by omega)).symm
 have eb:(addV a b).2=Qa Qb (a.2+b.2):=(W_eq (n:=a.2+b.2) (by omega) (by omega)).symm
 have hr:(ryV o (addV a b)).ra = .agg [I o.1,I o.2,I (Qa Qb (a.1+b.1)),I (Qa Qb (a.2+b.2))]:=by
  rw [<-ea,<-eb]
 rw [hr] at qc47
 generalize rFs h=TF at *
 obtain ⟨o1,o2⟩:=o
 obtain ⟨a1,a2⟩:=a
 obtain ⟨b1,b2⟩:=b
 dsimp only at qc47
 unfold fsV bwl bcl at qc47
 dsimp only at qc47
 generalize laI L=la at *
 refine pn hk Tryz.func96 ?_
 repeat'(first|refine wk3 ?_|(refine wk2 ?_ ?_<;>intro _)|fail)
 all_goals exact Zc rfl
theorem Ycx {h:Hal} (g:h.fine) {o d:V} {L:Option Nat} (hl:LP h.cs o L d) {c:Cd} (e:bstV h.cs o d L=some c) {i:Nat} (hi:i<h.cs.length) {k:Cd} (f:Yi h.cs (ryV o d) (frQ h.cs o d L) (laI L) i=some k):c.nu*k.de<=k.nu*c.de:=by
 have hm:=Zhm (f:=Yi h.cs (ryV o d) (frQ h.cs o d L) (laI L)) (m:=h.cs.length) (fun j x hj ej=>by
  obtain ⟨_,_,_,q⟩:=Zhl g hl hj ej
  exact q.de) (Qd _) e i k hi f
 unfold Zar at hm
 rcases Int.lt_or_le (k.nu*c.de) (c.nu*k.de) with q|q
 ·exfalso
  exact hm (by first|exact .inl q|exact Or.inl q|omega)
 ·exact q
theorem rsee {h:Hal} (g:h.fine) {o:V} {L:Option Nat} {k:Nat} (hk:k<h.cs.length) (B:Bef h o L (wa (wlOf h.cs k) o)) (hc:wa (wlOf h.cs k) o≠(0,0)) (hl:LP h.cs o L (wa (wlOf h.cs k) o)) (hb:pbey (sgH h.cs o) L (wa (wlOf h.cs k) o)) :
  Seen h.cs.length (sgH h.cs o) L (wa (wlOf h.cs k) o)↔∃ c,bstV h.cs o (wa (wlOf h.cs k) o) L=some c/\c.nu=c.de:=by
 have sh:=Zrs g hk B hc
 generalize wa (wlOf h.cs k) o=d at *
 constructor
 ·intro hs
  obtain ⟨i,s,q1,q2⟩:=sh hs
  obtain ⟨ci,n,e1,q3⟩:=Zgr g hl q1
  cases hbv:bstV h.cs o d L with
  | none =>
   have:=Zgv hbv i q1.im
   rw [this] at e1
   cases e1
  | some c =>
   refine ⟨c,rfl,?_⟩
   obtain ⟨j,hj,ej⟩:=Vs hbv
   obtain ⟨t,m,q4,q5⟩:=Zhl g hl hj ej
   have h1:=Ycx g hl hbv q1.im e1
   have h2:=hs.2 j t q4
   rw [q5.c,q5.nn] at h2
   have h3:c.de<=c.nu:=Sw h2 q5.n0
   have h4:ci.de=ci.nu:=by
    have e2:=q2
    rw [q3.c,q3.nn] at e2
    exact Int.eq_of_mul_eq_mul_left (by have:=q3.n0; omega) e2
   rw [h4,Rl c.nu] at h1
   have h5:c.nu<=c.de:=Sw h1 q3.nu
   omega
 ·rintro ⟨c,hbv,hcd⟩
  refine ⟨hb,fun i s q1=>?_⟩
  obtain ⟨ci,n,e1,q3⟩:=Zgr g hl q1
  obtain ⟨j,hj,ej⟩:=Vs hbv
  obtain ⟨t,m,q4,q5⟩:=Zhl g hl hj ej
  have h1:=Ycx g hl hbv q1.im e1
  rw [hcd,Rl ci.nu] at h1
  have h2:ci.de<=ci.nu:=Sw h1 q5.de
  rw [q3.c,q3.nn]
  exact Int.mul_le_mul_of_nonneg_left h2 (Qg q3.n0)
theorem rln {h:Hal} (g:h.fine) {o d:V} {l:Nat} (hl:l<h.cs.length):(∃ x,htW (wlOf h.cs l) (ryV o d)=some x/\0<x.nu/\x.nu<x.de)↔LP h.cs o (some l) d/\pbey (sgH h.cs o) (some l) d:=by
 obtain ⟨n,sx,sy,hs⟩:=g.st l hl
 have hnn:=hs.hn
 rw [Vn hs]
 constructor
 ·rintro ⟨x,hx,h1,h2⟩
  obtain ⟨s,s1,s2,s3⟩:=Yen hs hx h1
  refine ⟨fun l' q=>by cases q; exact ⟨hl,s,s1,s2⟩,fun l' t q e=>?_⟩
  cases q
  have:=s1.symm.trans e
  cases this
  rw [s3.c,s3.nn]
  exact Int.mul_lt_mul_of_pos_left h2 hnn
 ·rintro ⟨h1,h2⟩
  obtain ⟨_,t,et,hn⟩:=h1 l rfl
  obtain ⟨y,y1,y2,y3⟩:=Zma hs et hn
  have:=h2 l t rfl et
  rw [y3.c,y3.nn] at this
  exact ⟨y,y1,y2,Int.lt_of_mul_lt_mul_left this (Qg hnn)⟩
def rsB (cs:List (Int × Int)) (o:V) (L:Option Nat) (p:V):Bool:=!decide (p=o)&&visB cs o L p
theorem Ydc {h:Hal} (g:h.fine) {o:V} (ho:OB o) {L:Option Nat} (hL:∀ l,L=some l->l<h.cs.length) {k:Nat} (hk:k<h.cs.length) (B:toW o h.cs[k]≠(0,0)->Bef h o L (toW o h.cs[k])) :
  rsB h.cs o L h.cs[k]=true↔toW o h.cs[k]≠(0,0)/\(LP h.cs o L (toW o h.cs[k])/\pbey (sgH h.cs o) L (toW o h.cs[k]))/\∃ c,bstV h.cs o (toW o h.cs[k]) L=some c/\c.nu=c.de:=by
 unfold rsB
 rw [Qc,Zpp g ho (Qn hk) hL]
 simp only [Bool.not_eq_true',decide_eq_false_iff_not]
 rw [<-Zlx _ hk] at *
 have hz:h.cs[k]=o↔wa (wlOf h.cs k) o=(0,0):=by rw [Zlx _ hk]; exact toW_zero.symm
 rw [hz]
 constructor
 ·rintro ⟨h1,h2,h3⟩
  exact ⟨h1,⟨h2,h3.1⟩,(rsee g hk (B h1) h1 h2 h3.1).1 h3⟩
 ·rintro ⟨h1,⟨h2,h3⟩,h4⟩
  exact ⟨h1,h2,(rsee g hk (B h1) h1 h2 h3).2 h4⟩
noncomputable abbrev rCm:List AV->Option PRes:=famA (fun q:Int × Int=>0<q.2/\q.2<=200000 /\ -100000<=q.1/\q.1<=100000) (fun q=>[I q.1,I q.2,I 1,I 1]) (fun q=>⟨I (cmpQ q.1 q.2 1 1),[]⟩)
theorem Zv5 {a b:Int} (h:0<b/\b<=200000 /\ -100000<=a/\a<=100000):rCm [I a,I b,I 1,I 1]=some ⟨I (cmpQ a b 1 1),[]⟩ :=
 Zl (p:=fun q:Int × Int=>0<q.2/\q.2<=200000 /\ -100000<=q.1/\q.1<=100000) (g:=fun q=>[I q.1,I q.2,I 1,I 1]) (r:=fun q=>⟨I (cmpQ q.1 q.2 1 1),[]⟩) (k:=(a,b)) (fun j hj=>by
  simp only [Rd,Tt,true_and,and_true] at hj
  rw [show j=(a,b) from Tk hj.1 hj.2]) h
theorem Ybs {pt:PC} (hp:PCOK Tryz.prog pt):PCOK Tryz.prog (ins 114 rCm pt):=Zn (fun q hq=>c187 hq.1 (by decide) (by have:=hq.2; omega) (by decide) (by have:=hq.2; omega) (by decide)) hp
theorem Ycu {a b:Int}:cmpQ a b 1 1<0↔a<b:=by unfold cmpQ; rw [Vv]; omega
theorem Zsq (c:Cd):fsV (some c)=⟨.tup [I (c.i:Int),.agg [I c.nu,I c.de,Bo true,Bo c.well]],[]⟩:=rfl
theorem e93 {h:Hal} (hf:h.few) (g:h.fine) {o:V} (ho:OB o) {L:Option Nat} (hL:∀ l,L=some l->l<h.cs.length) {k:Nat} (hk:k<h.cs.length) (B:toW o h.cs[k]≠(0,0)->Bef h o L (toW o h.cs[k])) :
  PCall Tryz.prog 93 [h.av,P2 o.1 o.2,I (laI L),I k] ⟨Bo (rsB h.cs o L h.cs[k]),[]⟩:=by
 have hr:=Ydc g ho hL hk B
 have hb:=Zc2 g ho (Qn hk)
 have hl3:h.cs.length<1000:=hf.2.1
 have b:RyB (ryV o (toW o h.cs[k])):=Zi8 ho (by omega) (by omega)
 have hkk:PCOK Tryz.prog (ins 86 (rLi h) (ins 85 rMr (ins 114 rCm (ins 47 (rFs h) pt0)))):=Zn (fun k hk=>e86 hf hk) (Zv1 (Ybs (Ybr hf g Ze)))
 have e1:(h.cs.map pt)[((k:Nat):Int).toNat]?=some (pt h.cs[k]):=by simp [hk]
 have len:(h.cs.map pt).length=h.cs.length:=by simp
 have hF:=fun (hp:LP h.cs o L (toW o h.cs[k]))=>Zv4 b (Zy2 g hp)
 have e2:(toW o h.cs[k]).1=Qa Qb (h.cs[k].1-o.1):=(W_eq (n:=h.cs[k].1-o.1) (by unfold toW at hb; dsimp only at hb; omega) (by unfold toW at hb; dsimp only at hb; omega)).symm
 have e3:(toW o h.cs[k]).2=Qa Qb (h.cs[k].2-o.2):=(W_eq (n:=h.cs[k].2-o.2) (by unfold toW at hb; dsimp only at hb; omega) (by unfold toW at hb; dsimp only at hb; omega)).symm
 have e4:(ryV o (toW o h.cs[k])).ra = .agg [I o.1,I o.2,I (Qa Qb (h.cs[k].1-o.1)),I (Qa Qb (h.cs[k].2-o.2))]:=by rw [<-e2,<-e3]
 have hz:toW o h.cs[k]=(0,0)↔Qa Qb (h.cs[k].1-o.1)=0/\Qa Qb (h.cs[k].2-o.2)=0:=by rw [<-e2,<-e3,Prod.ext_iff]
 rw [e4] at hF
 rw [ne_eq,hz] at hr
 generalize rsB h.cs o L h.cs[k]=R at *
 by_cases z:Qa Qb (h.cs[k].1-o.1)=0/\Qa Qb (h.cs[k].2-o.2)=0
 ·have:R=false:=by
   cases R
   ·rfl
   ·exact absurd z (hr.1 rfl).1
  subst this
  clear hr hF e4 hz
  generalize h.cs[k]=p at *
  obtain ⟨p1,p2⟩:=p
  obtain ⟨z1,z2⟩:=z
  dsimp only at *
  refine pn hkk Tryz.func93 ?_
  repeat'(first|refine wk3 ?_|(refine wk2 ?_ ?_<;>intro _)|fail)
  all_goals first|exact Za rfl|(exfalso; simp_all; done)
 have hR:R=true↔(LP h.cs o L (toW o h.cs[k])/\pbey (sgH h.cs o) L (toW o h.cs[k]))/\∃ c,bstV h.cs o (toW o h.cs[k]) L=some c/\c.nu=c.de:=by rw [hr]; exact ⟨fun q=>q.2,fun q=>⟨z,q⟩⟩
 clear hr
 cases L with
 | none =>
  have hlp:LP h.cs o none (toW o h.cs[k]):=fun l q=>by cases q
  have hpb:pbey (sgH h.cs o) none (toW o h.cs[k]):=fun l t q=>by cases q
  have hF:=hF hlp
  change _=some (fsV (bstV h.cs o (toW o h.cs[k]) none)) at hF
  have hR2:R=true↔∃ c,bstV h.cs o (toW o h.cs[k]) none=some c/\c.nu=c.de:=by rw [hR]; exact ⟨fun q=>q.2,fun q=>⟨⟨hlp,hpb⟩,q⟩⟩
  clear hR
  generalize bstV h.cs o (toW o h.cs[k]) none=bc at *
  have hla:laI none = -1:=rfl
  rw [hla] at hF ⊢
  clear hlp hpb B e4 hz hb b e2 e3 hL
  generalize hp:h.cs[k]=p at *
  obtain ⟨p1,p2⟩:=p
  dsimp only at *
  generalize rFs h=TF at *
  generalize rLi h=TL at *
  cases bc with
  | none =>
   have:R=false:=by
    cases R
    ·rfl
    ·obtain ⟨c,q,_⟩:=hR2.1 rfl; cases q
   subst this
   change _=some (⟨.tup [I (-1),rh0],[]⟩:PRes) at hF
   refine pn hkk Tryz.func93 ?_
   repeat'(first|refine wk3 ?_|(refine wk2 ?_ ?_<;>intro _)|fail)
   all_goals first|exact Za rfl|(exfalso; simp_all; done)
  | some c =>
   rw [Zsq] at hF
   obtain ⟨ci,cn,cd,cw⟩:=c
   dsimp only at hF
   have:R=decide (cn=cd):=by
    rw [Sc,hR2,decide_eq_true_eq]
    constructor
    ·rintro ⟨c,q,q2⟩; cases q; exact q2
    ·intro q; exact ⟨_,rfl,q⟩
   subst this
   refine pn hkk Tryz.func93 ?_
   repeat'(first|refine wk3 ?_|(refine wk2 ?_ ?_<;>intro _)|fail)
   all_goals first|exact Za rfl|(refine Za ?_; simp_all; done)|(exfalso; simp_all; done)
 | some l =>
  have hl:=hL l rfl
  have hrl:=rln g (o:=o) (d:=toW o h.cs[k]) hl
  obtain ⟨n,sx,sy,hs⟩:=g.st l hl
  have c1:=Zfc hl
  have c2:=Zp3 hs b
  rw [e4] at c2
  rw [<-hrl] at hR
  have hla:laI (some l)=(l:Int):=rfl
  rw [hla] at hF ⊢
  cases hx:htW (wlOf h.cs l) (ryV o (toW o h.cs[k])) with
  | none =>
   rw [hx] at c2
   change _=some (⟨.tup [rh0,Bo false],[]⟩:PRes) at c2
   have:R=false:=by
    cases R
    ·rfl
    ·obtain ⟨⟨x,q,_⟩,_⟩:=hR.1 rfl; rw [hx] at q; cases q
   subst this
   clear hR hrl hF B e4 hz hb b e2 e3 hL
   generalize hp:h.cs[k]=p at *
   obtain ⟨p1,p2⟩:=p
   dsimp only at *
   generalize rFs h=TF at *
   generalize rLi h=TL at *
   generalize (wlOf h.cs l).ln=ln at *
   refine pn hkk Tryz.func93 ?_
   repeat'(first|refine wk3 ?_|(refine wk2 ?_ ?_<;>intro _)|fail)
   all_goals first|exact Za rfl|(exfalso; simp_all; done)
  | some x =>
   have hxb:=Zjy hs b (by rw [<-Vn hs]; exact hx)
   have c3:=Zv5 (a:=x.nu) (b:=x.de) ⟨hxb.de.1,hxb.de.2,hxb.nu⟩
   have hcm:=Ycu (a:=x.nu) (b:=x.de)
   rw [hx] at c2
   change _=some (⟨.tup [x.av,Bo true],[]⟩:PRes) at c2
   by_cases hc:0<x.nu/\x.nu<x.de
   ·have hF:=hF (hrl.1 ⟨x,hx,hc⟩).1
    change _=some (fsV (bstV h.cs o (toW o h.cs[k]) (some l))) at hF
    have hR2:R=true↔∃ c,bstV h.cs o (toW o h.cs[k]) (some l)=some c/\c.nu=c.de:=by rw [hR]; exact ⟨fun q=>q.2,fun q=>⟨⟨x,hx,hc⟩,q⟩⟩
    clear hR
    generalize bstV h.cs o (toW o h.cs[k]) (some l)=bc at *
    have hc2:=hcm.2 hc.2
    clear hrl B e4 hz hb b e2 e3 hL hcm hxb hx
    obtain ⟨x1,x2,x3,x4⟩:=x
    dsimp only at c2 c3 hc hc2
    obtain ⟨hc0,_⟩:=hc
    generalize cmpQ x1 x2 1 1=CM at *
    generalize hp:h.cs[k]=p at *
    obtain ⟨p1,p2⟩:=p
    dsimp only at *
    generalize rFs h=TF at *
    generalize rLi h=TL at *
    generalize (wlOf h.cs l).ln=ln at *
    cases bc with
    | none =>
     have:R=false:=by
      cases R
      ·rfl
      ·obtain ⟨c,q,_⟩:=hR2.1 rfl; cases q
     subst this
     change _=some (⟨.tup [I (-1),rh0],[]⟩:PRes) at hF
     refine pn hkk Tryz.func93 ?_
     repeat'(first|refine wk3 ?_|(refine wk2 ?_ ?_<;>intro _)|fail)
     all_goals first|exact Za rfl|(exfalso; simp_all; done)|(exfalso; simp_all; omega)
    | some c =>
     rw [Zsq] at hF
     obtain ⟨ci,cn,cd,cw⟩:=c
     dsimp only at hF
     have:R=decide (cn=cd):=by
      rw [Sc,hR2,decide_eq_true_eq]
      constructor
      ·rintro ⟨c,q,q2⟩; cases q; exact q2
      ·intro q; exact ⟨_,rfl,q⟩
     subst this
     refine pn hkk Tryz.func93 ?_
     repeat'(first|refine wk3 ?_|(refine wk2 ?_ ?_<;>intro _)|fail)
     all_goals first|exact Za rfl|(refine Za ?_; simp_all; done)|(exfalso; simp_all; done)|(exfalso; simp_all; omega)
   ·have:R=false:=by
     cases R
     ·rfl
     ·obtain ⟨⟨y,q,q2⟩,_⟩:=hR.1 rfl; rw [hx] at q; cases q; exact absurd q2 hc
    subst this
    clear hR hrl hF B e4 hz hb b e2 e3 hL hxb hx
    obtain ⟨x1,x2,x3,x4⟩:=x
    dsimp only at c2 c3 hc hcm
    generalize cmpQ x1 x2 1 1=CM at *
    generalize hp:h.cs[k]=p at *
    obtain ⟨p1,p2⟩:=p
    dsimp only at *
    generalize rFs h=TF at *
    generalize rLi h=TL at *
    generalize (wlOf h.cs l).ln=ln at *
    by_cases hneg:CM<0
    ·have hn0:¬ 0<x1:=fun q=>hc ⟨q,hcm.1 hneg⟩
     clear hc hcm
     refine pn hkk Tryz.func93 ?_
     repeat'(first|refine wk3 ?_|(refine wk2 ?_ ?_<;>intro _)|fail)
     all_goals first|exact Za rfl|(exfalso; simp_all; done)|(exfalso; simp_all; omega)
    ·clear hc hcm
     refine pn hkk Tryz.func93 ?_
     repeat'(first|refine wk3 ?_|(refine wk2 ?_ ?_<;>intro _)|fail)
     all_goals first|exact Za rfl|(exfalso; simp_all; done)|(exfalso; simp_all; omega)
end Go.Proofs.YtanbhfpalahjcaaGreat
namespace Go.Ge
def insI (l:List V) (t:V) (i:Nat):List V:=l.take i++t::l.drop i
theorem Zsh (l:List V) (t:V) {i:Nat} (hi:i<=l.length):(insI l t i).length=l.length+1:=by
 unfold insI
 rw [Rb,Qz,Tu,List.length_drop]
 omega
theorem Zlf (l:List V) (t:V):insI l t l.length=l++[t]:=by unfold insI; simp
def insT (R:V->V->Bool) (l:List V) (t:V) (i:Nat):List V:=(insB R t (l.take i).reverse).reverse++l.drop i
theorem Zle (R:V->V->Bool) (l:List V) (t:V):insT R l t l.length=(insB R t l.reverse).reverse:=by unfold insT; simp
theorem Zn9 (R:V->V->Bool) (l:List V) (t:V):insT R l t 0=insI l t 0:=by unfold insT insI; simp [insB]
theorem Zl3 {l:List V} {j:Nat} (hj:j<l.length):(l.take (j+1)).reverse=l[j]::(l.take j).reverse:=by
 rw [Qu hj,List.reverse_append]
 rfl
theorem Zob {R:V->V->Bool} {l:List V} {t:V} {j:Nat} (hj:j<l.length) (h:R t l[j]=true):insT R l t (j+1)=insT R l t j:=by
 unfold insT
 rw [Zl3 hj,insB,if_pos h,Qah,Wm,Ql hj]
 rfl
theorem Zoa {R:V->V->Bool} {l:List V} {t:V} {j:Nat} (hj:j<l.length) (h:R t l[j]=false):insT R l t (j+1)=insI l t (j+1):=by
 unfold insT insI
 rw [Zl3 hj,insB,if_neg (by rw [h]; decide),<-Zl3 hj,Qah,List.reverse_reverse,Wm]
 rfl
theorem Zsi {l:List V} {t:V} {j:Nat} (hj:j<l.length):(insI l t (j+1))[j+1]?=some t/\(insI l t (j+1))[j]?=some l[j]:=by
 unfold insI
 constructor
 ·rw [List.getElem?_append_right (by rw [Tu]; omega),Tu,Ns (by omega),Nat.sub_self]
  rfl
 ·rw [List.getElem?_append_left (by rw [Tu]; omega),List.getElem?_take,if_pos (by omega),Qe hj]
theorem Zoc {l:List V} {t:V} {j:Nat} (hj:j<l.length):((insI l t (j+1)).set (j+1) l[j]).set j t=insI l t j:=by
 unfold insI
 rw [Qu hj,Ql hj]
 have hl:(l.take j).length=j:=by rw [Tu]; omega
 generalize l.take j=p at *
 generalize l[j]=a at *
 generalize l.drop (j+1)=q at *
 subst hl
 simp [List.set_append]
end Go.Ge
