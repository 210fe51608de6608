/- A part of the proof: lemmas. -/
import Derived.Test.YtanbhfpalahjcaaGreatB15
import Derived.Test.YtanbhfpalahjcaaGreatB14
set_option linter.unusedVariables false
set_option linter.unusedSimpArgs false
set_option maxRecDepth 100000
set_option maxHeartbeats 16000000
open Bool renaming and_eq_true->Qc,and_true->Na,eq_false_iff->Qw
open Go.Ge renaming cr->Rq
open Go.IntKind renaming i64->Qb,wrap->Qa
open Go.Sx.AV.agg renaming injEq->Pr
open Go.Sx.AV.int renaming injEq->Wa
open Go.Sx.Bd renaming mk->Fs
open Go.Sx.Done renaming mk->Qu
open Go.Sx.PCall renaming freeze->Nw
open Int renaming le_of_lt->Qf,le_refl->Wm,mul_neg->Re,mul_nonneg->Qm,mul_pos->Qt,toNat_natCast->Rz
open List renaming drop->Oe,drop_eq_getElem_cons->Ql,drop_of_length_le->Qp,drop_zero->Wr,filter_cons->Hv,flatMap_append->Fo,getElem?_eq_getElem->Qe,getElem?_map->Ru,getElem_mem->Qo,length->Ns,length_append->Ro,length_cons->Ra,length_filter_le->Mi,length_map->Qn,length_nil->Rx,length_range->Su,length_reverse->Fm,length_singleton->Nh,length_take->Pp,map_append->Sm,map_cons->Sv,map_map->Oi,mem_append->Sc,mem_cons->Qx,mem_filter->Ot,mem_flatMap->Mu,mem_map->Sy,mem_of_mem_take->Fj,mem_range->Sb,pairwise_iff_getElem->Sw,range->Si,range_succ->Mc,take->Od,take_length->Np,take_of_length_le->Tp,take_succ_eq_append_getElem->Rf
open List.cons renaming inj->Rv,injEq->Rp
open Nat renaming le_of_ble_eq_true->Qk,le_refl->Qd,lt_or_ge->Wn,min_eq_left->Mb,mul_le_mul_right->Rl,zero_add->Ti,zero_le->Qq
open Option.some renaming inj->Sl
open Prod renaming ext->Wh
namespace Go.Proofs.YtanbhfpalahjcaaGreat
open Go Go.Sx Go.Ge
def btP (lo hi:V) (vs:List V) (j:Nat):List V:=lo::hi::(vs.take j).filter fun v=>decide (0<Rq lo v)&&decide (0<Rq v hi)
theorem Zr5 {lo hi:V} {vs:List V} {j:Nat} (hj:j<vs.length):btP lo hi vs (j+1)=if (decide (0<Rq lo vs[j])&&decide (0<Rq vs[j] hi))=true then btP lo hi vs j++[vs[j]] else btP lo hi vs j:=by
 unfold btP
 rw [Rf hj,List.filter_append,Hv,List.filter_nil]
 cases (decide (0<Rq lo vs[j])&&decide (0<Rq vs[j] hi))<;>simp
theorem Zl7 (lo hi:V) (vs:List V) (j:Nat):(btP lo hi vs j).length<=vs.length+2:=by
 unfold btP
 have:=Mi (fun v=>decide (0<Rq lo v)&&decide (0<Rq v hi)) (vs.take j)
 have h2:(vs.take j).length<=vs.length:=by rw [Pp]; omega
 simp only [Ra]
 omega
def gy (n0 n1 es k:Nat) (els:List (List AV)) (z:List (Nat × ABlk)):List (Nat × ABlk):=match k with
 | 0=>(n0,.row es els true true)::z
 | _=>(n1,.row es els true true)::z
def gw (n0 n1 k len:Nat):AV:=match k with
 | 0=>.asl n0 0 len
 | _=>.asl n1 0 len
theorem e90 {h:Hal} (hf:h.few) (g:h.fine) (hS:SortsK Tryz.prog 215 2) {m:Bm} (G:GoodB h m) (hlen:m.ws.length<4):PCall Tryz.prog 90 [h.av,.agg (bmA m)] ⟨.isl 8 ((behB h.cs m).map bmA),[]⟩:=by
 have B:=Zr7 g G hlen
 have hgood:=Zjl g G hlen
 obtain ⟨w,enx,_⟩:=G.sec
 have e2:m.nx.toNat=w:=by omega
 rw [e2] at B
 have hT:=fun ys=>Ydy g B (ys:=ys)
 obtain ⟨s1,_,s3,_⟩:=Zft g B
 have hL:∀ l,some w=some l->l<h.cs.length:=fun l q=>by cases q; exact B.wl
 have mlo:=Zuw (h:=h) (w:=w) (v:=m.b) (Zj4 G.bb)
 have mhi:=Zuw (h:=h) (w:=w) (v:=m.a) (Zj4 G.ba)
 have hob:OB m.o:=⟨by have:=G.ox; omega,by have:=G.ox; omega⟩
 have c81:=e81i hf g B.wl hob
 have c120:=e120 (ws:=m.ws) (by omega)
 have hRB:behB h.cs m=(Si ((tB h.cs (imgO h.cs w m.o) w (imgV h.cs w m.b) (imgV h.cs w m.a)).length-1)).map fun i=>⟨m.ws++[m.nx],imgO h.cs w m.o,getV (tB h.cs (imgO h.cs w m.o) w (imgV h.cs w m.b) (imgV h.cs w m.a)) i,getV (tB h.cs (imgO h.cs w m.o) w (imgV h.cs w m.b) (imgV h.cs w m.a)) (i+1),nxtV h.cs (imgO h.cs w m.o) (some w) (addV (getV (tB h.cs (imgO h.cs w m.o) w (imgV h.cs w m.b) (imgV h.cs w m.a)) i) (getV (tB h.cs (imgO h.cs w m.o) w (imgV h.cs w m.b) (imgV h.cs w m.a)) (i+1)))⟩:=by
  unfold behB
  rw [e2]
 have hit:=Zum hf g B.ob hL
 have hln:=Zie g (imgO h.cs w m.o) (some w)
 have c170:=e170 h (imgO h.cs w m.o).1 (imgO h.cs w m.o).2 (laI (some w))
 have hvs:=fun v=>Zas g B.ob (L:=some w) hL (w:=v)
 have hlw:Xc (m.ws++[m.nx])=some w:=by rw [enx]; exact Zi3 _ _
 have hW:∀ v∈Vn h.cs (imgO h.cs w m.o) (some w),v≠(0,0)/\Vb v:=fun v hv=>by
  obtain ⟨j,hj,e,h1,_⟩:=(hvs v).1 hv
  refine ⟨h1,Zj4 ?_⟩
  rw [e,Zow _ hj]
  exact Zg5 g B.ob (Qo hj)
 have hbl:btwL h.cs (imgO h.cs w m.o) w (imgV h.cs w m.b) (imgV h.cs w m.a)=(Vn h.cs (imgO h.cs w m.o) (some w)).filter fun v=>decide (0<Rq (imgV h.cs w m.b) v)&&decide (0<Rq v (imgV h.cs w m.a)):=rfl
 have hbeam:=fun (a b:V) (q:(g1 a/\g1 b)/\(((-50000<=a.1/\a.1<=50000)/\(-50000<=a.2/\a.2<=50000))/\((-50000<=b.1/\b.1<=50000)/\(-50000<=b.2/\b.2<=50000)))/\LP h.cs (imgO h.cs w m.o) (Xc (m.ws++[m.nx])) (addV a b))=>e172 hf g (ws:=m.ws++[m.nx]) B.ob (by rw [Ro,Nh]; omega) (by
   intro x hx
   rcases Sc.1 hx with q|q
   ·exact (G.ws x q).1
   ·rw [List.mem_singleton.1 q]; omega) q.1.1 q.1.2 q.2.1.1 q.2.1.2 q.2.2
 have k82:=Yd8 hf g B.wl Zd
 have b0:=B.pos
 have b1:=B.gl
 have b2:=B.gh
 have b3:=Zj4 B.bl
 have b4:=Zj4 B.bh
 generalize hvsd:Vn h.cs (imgO h.cs w m.o) (some w)=vs at *
 generalize hBL:btwL h.cs (imgO h.cs w m.o) w (imgV h.cs w m.b) (imgV h.cs w m.a)=BL at *
 generalize hTT:tB h.cs (imgO h.cs w m.o) w (imgV h.cs w m.b) (imgV h.cs w m.a)=T at *
 generalize hio:imgO h.cs w m.o=io at *
 generalize hlo:imgV h.cs w m.b=lo at *
 generalize hhi:imgV h.cs w m.a=hi at *
 have hk:PCOK Tryz.prog (ins 81 (one [h.av,I w,P2 m.o.1 m.o.2] ⟨P2 io.1 io.2,[]⟩) (ins 43 rWy (ins 170 (one [h.av,P2 io.1 io.2,I (laI (some w))] ⟨.func 218 [] (capS h io.1 io.2 (laI (some w))),[]⟩) (ins 54 rBt (ins 214 rTu (ins 120 (one [wsA m.ws] (clR m.ws)) (ins 172 (rBm h (m.ws++[m.nx]) io (nxtV h.cs io (Xc (m.ws++[m.nx])))) (ins 82 (rMv h w) pt0)))))))) :=
  Za c81 (Zk (fun a res h=>by unfold rWy at h; split at h<;>cases h; exact d93 _ _) (Za c170 (Yab (Zuv (Za c120 (Yo (fun q hq=>hbeam q.1 q.2 hq) k82))))))
 have hbw:∀ v∈vs,btW lo hi v=(decide (0<Rq lo v)&&decide (0<Rq v hi)):=fun v hv=>Ybb b3 b4 (hW v hv).2 b0
 refine Nw (res:=⟨.asl 0 0 ((behB h.cs m).map bmA).length,[(8,(behB h.cs m).map bmA)]⟩) ?_ ⟨rfl,rfl,rfl⟩
 rw [hRB] at hgood ⊢
 clear hRB c81 c120 c170 k82 hln hvs
 generalize hF:(fun i=>(⟨m.ws++[m.nx],io,getV T i,getV T (i+1),nxtV h.cs io (some w) (addV (getV T i) (getV T (i+1)))⟩:Bm))=F at *
 obtain ⟨ws,o,a,b,nx⟩:=m
 dsimp only at *
 subst enx
 have hl1:laI (some w)=(w:Int):=rfl
 rw [hl1] at *
 obtain ⟨iox,ioy⟩:=io
 obtain ⟨lx,ly⟩:=lo
 obtain ⟨hx,hy⟩:=hi
 obtain ⟨ox,oy⟩:=o
 obtain ⟨ax,ay⟩:=a
 obtain ⟨bx,by'⟩:=b
 dsimp only at *
 generalize rMv h w=TM at *
 unfold bmA
 dsimp only
 generalize hTB:rBm h (ws++[(w:Int)]) (iox,ioy) (nxtV h.cs (iox,ioy) (Xc (ws++[(w:Int)])))=TB at *
 generalize hwA:wsA ws=A at *
 have hA:(A = .nils/\clR ws=⟨.nils,[]⟩/\wsA (ws++[(w:Int)]) = .isl 1 [[I (w:Int)]])\/∃ E:List (List AV),A = .isl 1 E/\clR ws=⟨.asl 0 0 E.length,[(1,E)]⟩/\wsA (ws++[(w:Int)]) = .isl 1 (Od (E.length+[[I (w:Int)]].length) (Oe 0 (E++[[I (w:Int)]])))/\E.length<1000:=by
  cases ws with
  | nil=>exact .inl ⟨hwA.symm,rfl,rfl⟩
  | cons x r=>exact .inr ⟨nl (x::r),hwA.symm,rfl,by unfold wsA nl; simp [Tp],by rw [Yh]; omega⟩
 have hF2:∀ i,F i=(⟨ws++[(w:Int)],(iox,ioy),getV T i,getV T (i+1),nxtV h.cs (iox,ioy) (some w) (addV (getV T i) (getV T (i+1)))⟩:Bm):=fun i=>by rw [<-hF]
 clear hF
 generalize hcl:clR ws=cl at *
 have hlv:vs.length<=12:=by rw [<-hvsd]; exact Zie g _ _
 rcases hA with ⟨rfl,rfl,ew⟩|⟨E,rfl,rfl,ew,hEl⟩
 ·refine bs.pv (sx:=Yf) hk Tryz.func90 (by kernel_rfl) (by kernel_rfl) rfl ?_
  repeat'(first|refine wk3 ?_|(refine wk2 ?_ ?_<;>intro _)|fail)
  refine Rg.ren (env2:=[(2,.ptr 0 0 0),(3,.ptr 1 0 0),(5,.ptr 2 0 0),(6,.ptr 17 0 0),(7,.ptr 18 0 0),(8,.ptr 22 0 0),(39,.func 218 [] (capS h iox ioy (laI (some w))))]) (σ2:=⟨[(21,.row 2 [[I lx,I ly],[I hx,I hy]] true true),(22,.row 1 [[.asl 21 0 2]] true false),(18,.row 2 [[I hx,I hy]] true false),(17,.row 2 [[I lx,I ly]] true false),(2,.row 2 [[I iox,I ioy]] true false),(1,.row 8 [[.nils,I ox,I oy,I ax,I ay,I bx,I by',I (w:Int)]] true false),(0,.row 9 [h.cells] true false)],23⟩) (Ren.of [] rfl (kps) (kps)) ?_
  refine rngV hit rfl rfl rfl rfl (Zlf (S:=Nat × Nat × Nat × List (List AV)) (fun s=>gy 21 23 2 s.1 s.2.2.2 [(22,.row 1 [[gw 21 23 s.1 s.2.2.1]] true false),(18,.row 2 [[I hx,I hy]] true false),(17,.row 2 [[I lx,I ly]] true false),(2,.row 2 [[I iox,I ioy]] true false),(1,.row 8 [[.nils,I ox,I oy,I ax,I ay,I bx,I by',I (w:Int)]] true false),(0,.row 9 [h.cells] true false)]) 23 (fun s=>nm2 23 24 s.1)
   (fun xs s=>s.2.1<=vs.length/\xs=(vs.drop s.2.1).map wy/\s.2.2.1=s.2.2.2.length/\s.2.2.2=(btP (lx,ly) (hx,hy) vs s.2.1).map wv) ?_ ?_ _ (0,0,2,[[I lx,I ly],[I hx,I hy]]) ⟨Qq _,rfl,rfl,rfl⟩)
  ·rintro x xs ⟨k,j,len,els⟩ ⟨hj,hxx,hlen,he⟩
   dsimp only at hj hxx hlen he ⊢
   have hlt:j<vs.length:=by
    rcases Wn j vs.length with c|c
    ·exact c
    ·rw [Qp c] at hxx; cases hxx
   rw [Ql hlt,Sv] at hxx
   obtain ⟨rfl,rfl⟩:=Rv hxx
   have e4:els.length<2000:=by
    have:=Zl7 (lx,ly) (hx,hy) vs j
    rw [he,Qn]; omega
   have e5:=Zr5 (lo:=(lx,ly)) (hi:=(hx,hy)) hlt
   have e6:=hbw vs[j] (Qo hlt)
   rw [<-e6] at e5
   clear e6
   generalize vs[j]=v at *
   obtain ⟨vx,vy⟩:=v
   refine ⟨rfl,?_⟩
   cases k with
   | zero =>
    refine bs.av (sx:=Yf) hk ?_
    repeat'(first|refine wk3 ?_|(refine wk2 ?_ ?_<;>intro _)|fail)
    refine Fs (bs.av (sx:=Yf) hk ?_)
    repeat'(first|refine wk3 ?_|(refine wk2 ?_ ?_<;>intro _)|fail)
    ·rename_i q
     rw [if_pos q] at e5
     exact Qu ⟨(0+1,j+1,_,els++[wv (vx,vy)]),[(23,25)],rfl,kps,hlt,rfl,by exact List.length_append.symm,by rw [e5,Sm,<-he]; rfl⟩
    ·rename_i q
     rw [if_neg (by rw [q]; decide)] at e5
     exact Qu ⟨(0,j+1,len,els),[],rfl,kps,hlt,rfl,hlen,by rw [e5]; exact he⟩
   | succ k =>
    refine bs.av (sx:=Yf) hk ?_
    repeat'(first|refine wk3 ?_|(refine wk2 ?_ ?_<;>intro _)|fail)
    refine Fs (bs.av (sx:=Yf) hk ?_)
    repeat'(first|refine wk3 ?_|(refine wk2 ?_ ?_<;>intro _)|fail)
    ·rename_i q
     rw [if_pos q] at e5
     exact Qu ⟨(k+1,j+1,_,els++[wv (vx,vy)]),[(23,26)],rfl,kps,hlt,rfl,by exact List.length_append.symm,by rw [e5,Sm,<-he]; rfl⟩
    ·rename_i q
     rw [if_neg (by rw [q]; decide)] at e5
     exact Qu ⟨(k+1,j+1,len,els),[(23,23)],rfl,kps,hlt,rfl,hlen,by rw [e5]; exact he⟩
  ·rintro ⟨k,j,len,els⟩ ⟨hj,hxx,hlen,he⟩
   dsimp only at hj hxx hlen he ⊢
   have hlt:vs.length<=j:=by
    rcases Wn j vs.length with c|c
    ·rw [Ql c] at hxx; cases hxx
    ·exact c
   have he2:els=((lx,ly)::(hx,hy)::BL).map wv:=by
    rw [he,hbl]
    unfold btP
    rw [Tp hlt]
   have hW2:∀ v∈(lx,ly)::(hx,hy)::BL,v≠(0,0)/\Vb v:=fun v hv=>by
    rcases Qx.1 hv with q|hv
    ·rw [q]; exact ⟨Zdm b1,b3⟩
    ·rcases Qx.1 hv with q|hv
     ·rw [q]; exact ⟨Zdm b2,b4⟩
     ·rw [hbl] at hv
      exact hW v ((Ot.1 hv).1)
   have hRd:((lx,ly)::(hx,hy)::BL).map red=(lx,ly)::(hx,hy)::BL.map red:=by
    rw [Sv,Sv,Zee b1,Zee b2]
   have hIn:∀ x∈((lx,ly)::(hx,hy)::BL).map red,g1 x/\Vb x/\inS (lx,ly) (hx,hy) x:=fun x hx=>by
    obtain ⟨v,hv,rfl⟩:=Sy.1 hx
    obtain ⟨q1,q2⟩:=hW2 v hv
    obtain ⟨gg,_,_,_,q5,_⟩:=Xx q1
    obtain ⟨q6,q7⟩:=Zkc q1 q2.1 q2.2
    refine ⟨q5,⟨q6,q7⟩,?_⟩
    rcases Qx.1 hv with q|hv
    ·rw [q,Zee b1]; exact ⟨by rw [Zj]; exact Wm 0,Qf b0⟩
    ·rcases Qx.1 hv with q|hv
     ·rw [q,Zee b2]; exact ⟨Qf b0,by rw [Zj]; exact Wm 0⟩
     ·rw [hbl] at hv
      have:=(Ot.1 hv).2
      rw [Qc,decide_eq_true_eq,decide_eq_true_eq] at this
      exact ⟨Qf ((Uk q1).2.2 this.1),Qf ((Uk q1).1.2 this.2)⟩
   have lv2:((lx,ly)::(hx,hy)::BL).length<1000:=by
    have:=Zl7 (lx,ly) (hx,hy) vs j
    rw [he2,Qn] at hlen
    have h2:((lx,ly)::(hx,hy)::BL).length=(btP (lx,ly) (hx,hy) vs j).length:=by
     have:=congrArg Ns (he2.symm.trans he)
     rwa [Qn,Qn] at this
    omega
   clear he hxx hlt hj
   subst he2
   rw [Qn] at hlen
   subst hlen
   generalize hv2:(lx,ly)::(hx,hy)::BL=v2 at *
   cases k with
   | zero =>
    repeat'(first|refine wk3 ?_|(refine wk2 ?_ ?_<;>intro _)|fail)
    refine bs.sv (sx:=Yf) hk Tryz.func168 (by kernel_rfl) (by kernel_rfl) ?_
    repeat'(first|refine wk3 ?_|(refine wk2 ?_ ?_<;>intro _)|fail)
    refine Zq (S:=Nat × Int × List (List AV)) (fun t=>v2.length-t.1) (fun t=>[(0,.asl 21 0 v2.length),(1,.func 173 [] []),(7,.asl 21 0 v2.length),(8,I v2.length),(9,I t.2.1)])
     (fun t=>[(21,.row 2 t.2.2 true true),(22,.row 1 [[.asl 21 0 v2.length]] true false),(18,.row 2 [[I hx,I hy]] true false),(17,.row 2 [[I lx,I ly]] true false),(2,.row 2 [[I iox,I ioy]] true false),(1,.row 8 [[.nils,I ox,I oy,I ax,I ay,I bx,I by',I (w:Int)]] true false),(0,.row 9 [h.cells] true false)]) 24 24 (fun t=>t.2.1=t.1/\t.1<=v2.length/\t.2.2=(mixR v2 t.1).map wv) (0,0,v2.map wv) ⟨rfl,Qq _,rfl⟩ (Qk rfl) [] rfl (kps) (kps) ?_
    rintro ⟨j,i,els⟩ ⟨hi,hj,hels⟩
    dsimp only at hi hj hels ⊢
    subst hi
    have lel:els.length=v2.length:=by rw [hels,Qn,Zfn]
    by_cases hlt:j<v2.length
    ·have e1:=Zfo hlt
     have e2:=Zfm hlt
     rw [<-hels] at e1 e2
     have t1:=hW2 v2[j] (Qo hlt)
     have t2:=Zew t1.1 t1.2
     generalize v2[j]=v at *
     generalize red v=u at *
     obtain ⟨vx,vy⟩:=v
     obtain ⟨ux,uy⟩:=u
     refine bs.av (sx:=Yf) hk ?_
     repeat'(first|refine wk3 ?_|(refine wk2 ?_ ?_<;>intro _)|fail)
     exact Qu ⟨(j+1,Qa Qb ((j:Int)+1),Zlb els (0+((j:Nat):Int).toNat) [I ux,I uy]),[],rfl,kps,kps,⟨Ze (by omega),hlt,e2⟩,by dsimp only; omega⟩
    have hjn:j=v2.length:=by omega
    subst hjn
    rw [Zfp] at hels
    obtain ⟨xs,hxs⟩:=subs (P:=fun v=>g1 v/\Vb v/\inS (lx,ly) (hx,hy) v) (v2.map red) hIn
    have hx2:els=xs.map (fun b:Ts (lx,ly) (hx,hy)=>wv b.1):=by rw [hels,<-hxs,Oi]; rfl
    have lxs:xs.length=v2.length:=by
     have:=congrArg Ns hxs
     simpa using this
    clear hels
    subst hx2
    refine bs.av (sx:=Yf) hk ?_
    repeat'(first|refine wk3 ?_|(refine wk2 ?_ ?_<;>intro _)|fail)
    rw [<-lxs]
    refine Zfb Zu8 hS (by decide) (Zf3 Tryz.func173 (by kernel_rfl) (by kernel_rfl)) (fun b:Ts (lx,ly) (hx,hy)=>wv b.1) (fun _=>rfl) (fun _=>rfl) (fun _=>rfl) (fun a b:Ts (lx,ly) (hx,hy)=>-(Rq a.1 b.1)) (fun a _ b _=>Zff (e173 a.2.2.1 b.2.2.1)) (Zl5 b0) (by omega) rfl fun ys hp hs=>?_
    have hys:=hT ys (by rw [<-hRd,<-hxs]; exact hp.map _) hs
    have e5:ys.map (fun b:Ts (lx,ly) (hx,hy)=>wv b.1)=T.map wv:=by rw [<-hys,Oi]; rfl
    rw [e5]
    repeat'(first|refine wk3 ?_|(refine wk2 ?_ ?_<;>intro _)|fail)
    have lT:(T.map wv).length=T.length:=Qn _
    have lx2:xs.length=T.length:=by rw [<-hys,Qn]; exact hp.length_eq.symm
    have hnd:∀ i,0<i->i<T.length->T[i]?≠T[i-1]?:=by
     intro i h0 h1 q
     have:=Sw.1 s1 (i-1) i (by omega) h1 (by omega)
     rw [Qe h1,Qe (by omega:i-1<_)] at q
     rw [Sl q,Zj] at this
     omega
    have h2T:2<=T.length:=by
     rw [<-hTT]
     unfold tB
     simp only [Ra,Ro,Rx]
     omega
    clear hys e5 hp hs hT hxs hit hW
    rw [lx2]
    refine bs.sv (sx:=Yf) hk Tryz.func216 (by kernel_rfl) (by kernel_rfl) ?_
    repeat'(first|refine wk3 ?_|(refine wk2 ?_ ?_<;>intro _)|fail)
    have hT1000:T.length<1000:=by omega
    refine Zq (S:=Nat × Int) (fun t=>T.length-t.1) (fun t=>[(0,.asl 21 0 T.length),(3,I t.2)]) (fun _=>[(21,.row 2 (T.map wv) true true),(22,.row 1 [[.asl 21 0 T.length]] true false),(18,.row 2 [[I hx,I hy]] true false),(17,.row 2 [[I lx,I ly]] true false),(2,.row 2 [[I iox,I ioy]] true false),(1,.row 8 [[.nils,I ox,I oy,I ax,I ay,I bx,I by',I (w:Int)]] true false),(0,.row 9 [h.cells] true false)]) 24 24
     (fun t=>t.2=t.1/\1<=t.1/\t.1<=T.length) (1,1) ⟨rfl,Qd _,by omega⟩ (Qk rfl) [] rfl (kps) (kps) ?_
    rintro ⟨j,i⟩ ⟨hi,hj0,hj⟩
    dsimp only at hi hj0 hj ⊢
    subst hi
    by_cases hlt:j<T.length
    ·have e1:=Vj hlt
     have e2:=Vj (T:=T) (j:=j-1) (by omega)
     rw [show (((j-1:Nat):Int))=Qa Qb ((j:Int)-1) by rw [W_eq (by omega) (by omega)]; omega] at e2
     have hd:=hnd j (by omega) hlt
     rw [Qe hlt,Qe (by omega:j-1<T.length)] at hd
     have w1:decide (0<=Qa Qb ((j:Int)-1))=true:=by rw [W_eq (by omega) (by omega)]; exact decide_eq_true (by omega)
     have w2:decide (Qa Qb ((j:Int)-1)<(T.length:Int))=true:=by rw [W_eq (by omega) (by omega)]; exact decide_eq_true (by omega)
     have hz:Qa Qb ((j:Int)-1)=(j:Int)-1:=W_eq (by omega) (by omega)
     generalize T[j]=u at *
     generalize T[j-1]'(by omega)=v at *
     obtain ⟨ux,uy⟩:=u
     obtain ⟨vx,vy⟩:=v
     have hraw:(decide (ux=vx)&&(decide (uy=vy)&&true))=false:=by
      rw [Qw]
      intro q
      simp only [Na,Qc,decide_eq_true_eq] at q
      exact hd (by rw [q.1,q.2])
     clear hd
     refine bs.av (sx:=Yf) hk ?_
     repeat'(first|refine wk3 ?_|(refine wk2 ?_ ?_<;>intro _)|fail)
     all_goals first
      | exact Qu ⟨(j+1,Qa Qb ((j:Int)+1)),[],rfl,kps,kps,⟨Ze (by omega),by omega,hlt⟩,by dsimp only; omega⟩
      | (exfalso; clear hk; simp_all; done)
    have hjn:j=T.length:=by omega
    subst hjn
    refine bs.av (sx:=Yf) hk ?_
    repeat'(first|refine wk3 ?_|(refine wk2 ?_ ?_<;>intro _)|fail)
    have hlT:(Si (T.length-1)).length=T.length-1:=Su
    have eT:Qa Qb ((T.length:Int)-1)=((T.length-1:Nat):Int):=by rw [W_eq (by omega) (by omega)]; omega
    have hgd:=fun i (hi:i<T.length-1)=>(hgood _ (Sy.2 ⟨i,Sb.2 hi,rfl⟩)).1
    rw [eT]
    refine Zq (S:=Nat × Nat × Int × Nat × List (List AV)) (fun t=>T.length-t.2.1) (fun t=>[(2,.ptr 0 0 0),(3,.ptr 1 0 0),(5,.ptr 2 0 0),(8,.ptr 22 0 0),(10,gv 24 t.1 t.2.2.2.1),(53,I ((T.length-1:Nat):Int)),(54,I t.2.2.1)])
     (fun t=>gz 24 8 t.1 t.2.2.2.2 [(21,.row 2 (T.map wv) true true),(22,.row 1 [[.asl 21 0 T.length]] true false),(18,.row 2 [[I hx,I hy]] true false),(17,.row 2 [[I lx,I ly]] true false),(2,.row 2 [[I iox,I ioy]] true false),(1,.row 8 [[.nils,I ox,I oy,I ax,I ay,I bx,I by',I (w:Int)]] true false),(0,.row 9 [h.cells] true false)]) 24 25
     (fun t=>t.1=t.2.1/\t.2.2.1=t.2.1/\t.2.1<=T.length-1/\t.2.2.2.1=t.2.2.2.2.length/\t.2.2.2.2=((Si t.2.1).map F).map bmA) (0,0,0,0,[]) ⟨rfl,rfl,Qq _,rfl,rfl⟩ (Qk rfl) [] rfl (kps) (kps) ?_
    rintro ⟨k,j,i,len,els⟩ ⟨hkj,hi,hj,hlen,hels⟩
    dsimp only at hkj hi hj hlen hels ⊢
    subst hi
    by_cases hlt:j<T.length-1
    ·have gm:=hgd j hlt
     have em:=hF2 j
     have hj1:j<T.length:=by omega
     have hj2:j+1<T.length:=by omega
     have hq:=Vc hj1
     have hq2:=Vc hj2
     have eW:Qa Qb ((j:Int)+1)=((j+1:Nat):Int):=Ze (by omega)
     have e1:=Vj hj1
     have e2:=Vj hj2
     have dD:decide (0<=Qa Qb ((j:Int)+1)/\Qa Qb ((j:Int)+1)<(T.length:Int))=true:=by
      rw [eW]
      exact decide_eq_true (by omega)
     have e3:((Si (j+1)).map F).map bmA=els++[bmA (F j)]:=by
      rw [Mc,Sm,Sm,<-hels]
      rfl
     generalize F j=m at *
     have hc:TB [h.av,wsA (ws++[(w:Int)]),P2 iox ioy,P2 m.a.1 m.a.2,P2 m.b.1 m.b.2]=some ⟨.agg (bmA m),[]⟩:=by
      obtain ⟨v,env,KK⟩:=gm.sec
      have hLP:LP h.cs (iox,ioy) (Xc (ws++[(w:Int)])) (addV m.a m.b):=by
       have ho:m.o=(iox,ioy):=by rw [em]
       have hws:m.ws=ws++[(w:Int)]:=by rw [em]
       rw [ho,hws] at KK
       have hab:=KK.ab
       have d1:0<Rq m.a (addV m.a m.b):=by rw [Ur,Xd,Zj]; omega
       have d2:0<Rq (addV m.a m.b) m.b:=by rw [Ur,Yp,Zj]; omega
       intro l q
       obtain ⟨q1,t,q2,q3⟩:=KK.lp l q
       exact ⟨q1,t,q2,(q3 _ d1 d2).n⟩
      have:=Zin (h:=h) (ws:=ws++[(w:Int)]) (o:=(iox,ioy)) (nx:=nxtV h.cs (iox,ioy) (Xc (ws++[(w:Int)]))) (a:=m.a) (b:=m.b) ⟨gm.ga,gm.gb⟩ ⟨gm.ba,gm.bb⟩ hLP
      rw [hTB] at this
      rw [this]
      congr 3
      rw [em,hlw]
     have ea:T[j]=m.a:=by rw [em,<-hq]
     have eb:T[j+1]=m.b:=by rw [em,<-hq2]
     rw [ea] at e1
     rw [eb,<-eW] at e2
     have l4:els.length<2000:=by rw [hels,Qn,Qn,Su]; omega
     have hbA:bmA m=[wsA (ws++[(w:Int)]),I iox,I ioy,I m.a.1,I m.a.2,I m.b.1,I m.b.2,I m.nx]:=by unfold bmA; rw [em]
     rw [hbA] at hc e3
     rw [ew] at hc e3
     generalize m.nx=nx at *
     generalize hma:m.a=aa at *
     generalize hmb:m.b=bb at *
     obtain ⟨aax,aay⟩:=aa
     obtain ⟨bbx,bby⟩:=bb
     dsimp only at e1 e2 hc e3
     clear em gm hma hmb hbA hq hq2 ea eb
     cases k with
     | zero =>
      have hz:els=[]:=by rw [hels,<-hkj]; rfl
      subst hz
      refine bs.av (sx:=Yf) hk ?_
      repeat'(first|refine wk3 ?_|(refine wk2 ?_ ?_<;>intro _)|fail)
      exact Qu ⟨(1,j+1,_,_,[[.isl 1 [[I (w:Int)]],I iox,I ioy,I aax,I aay,I bbx,I bby,I nx]]),[(24,46)],rfl,kps,kps,⟨by show 1=j+1; omega,Ze (by omega),hlt,rfl,e3.symm⟩,by show T.length-(j+1)<T.length-j; omega⟩
     | succ k =>
      refine bs.av (sx:=Yf) hk ?_
      repeat'(first|refine wk3 ?_|(refine wk2 ?_ ?_<;>intro _)|fail)
      refine Zbr (ys:=[[.isl 1 [[I (w:Int)]],I iox,I ioy,I aax,I aay,I bbx,I bby,I nx]]) rfl rfl rfl rfl rfl rfl rfl rfl rfl rfl (by simp) hlen (by simp only [Ra,Rx]; omega) ?_
      repeat'(first|refine wk3 ?_|(refine wk2 ?_ ?_<;>intro _)|fail)
      exact Qu ⟨(k+2,j+1,_,_,els++[[.isl 1 [[I (w:Int)]],I iox,I ioy,I aax,I aay,I bbx,I bby,I nx]]),[(24,46)],rfl,kps,kps,⟨by show k+2=j+1; omega,Ze (by omega),hlt,by exact List.length_append.symm,e3.symm⟩,by show T.length-(j+1)<T.length-j; omega⟩
    have hjn:j=T.length-1:=by omega
    subst hjn
    subst hels
    obtain ⟨q,rfl⟩:∃ q,k=q+1:=⟨k-1,by omega⟩
    refine bs.av (sx:=Yf) hk ?_
    repeat'(first|refine wk3 ?_|(refine wk2 ?_ ?_<;>intro _)|fail)
    exact Ym [24] rfl (by rw [hlen]; rfl) rfl
   | succ k =>
    repeat'(first|refine wk3 ?_|(refine wk2 ?_ ?_<;>intro _)|fail)
    refine bs.sv (sx:=Yf) hk Tryz.func168 (by kernel_rfl) (by kernel_rfl) ?_
    repeat'(first|refine wk3 ?_|(refine wk2 ?_ ?_<;>intro _)|fail)
    refine Zq (S:=Nat × Int × List (List AV)) (fun t=>v2.length-t.1) (fun t=>[(0,.asl 23 0 v2.length),(1,.func 173 [] []),(7,.asl 23 0 v2.length),(8,I v2.length),(9,I t.2.1)])
     (fun t=>[(23,.row 2 t.2.2 true true),(22,.row 1 [[.asl 23 0 v2.length]] true false),(18,.row 2 [[I hx,I hy]] true false),(17,.row 2 [[I lx,I ly]] true false),(2,.row 2 [[I iox,I ioy]] true false),(1,.row 8 [[.nils,I ox,I oy,I ax,I ay,I bx,I by',I (w:Int)]] true false),(0,.row 9 [h.cells] true false)]) 24 24 (fun t=>t.2.1=t.1/\t.1<=v2.length/\t.2.2=(mixR v2 t.1).map wv) (0,0,v2.map wv) ⟨rfl,Qq _,rfl⟩ (Qk rfl) [] rfl (kps) (kps) ?_
    rintro ⟨j,i,els⟩ ⟨hi,hj,hels⟩
    dsimp only at hi hj hels ⊢
    subst hi
    have lel:els.length=v2.length:=by rw [hels,Qn,Zfn]
    by_cases hlt:j<v2.length
    ·have e1:=Zfo hlt
     have e2:=Zfm hlt
     rw [<-hels] at e1 e2
     have t1:=hW2 v2[j] (Qo hlt)
     have t2:=Zew t1.1 t1.2
     generalize v2[j]=v at *
     generalize red v=u at *
     obtain ⟨vx,vy⟩:=v
     obtain ⟨ux,uy⟩:=u
     refine bs.av (sx:=Yf) hk ?_
     repeat'(first|refine wk3 ?_|(refine wk2 ?_ ?_<;>intro _)|fail)
     exact Qu ⟨(j+1,Qa Qb ((j:Int)+1),Zlb els (0+((j:Nat):Int).toNat) [I ux,I uy]),[],rfl,kps,kps,⟨Ze (by omega),hlt,e2⟩,by dsimp only; omega⟩
    have hjn:j=v2.length:=by omega
    subst hjn
    rw [Zfp] at hels
    obtain ⟨xs,hxs⟩:=subs (P:=fun v=>g1 v/\Vb v/\inS (lx,ly) (hx,hy) v) (v2.map red) hIn
    have hx2:els=xs.map (fun b:Ts (lx,ly) (hx,hy)=>wv b.1):=by rw [hels,<-hxs,Oi]; rfl
    have lxs:xs.length=v2.length:=by
     have:=congrArg Ns hxs
     simpa using this
    clear hels
    subst hx2
    refine bs.av (sx:=Yf) hk ?_
    repeat'(first|refine wk3 ?_|(refine wk2 ?_ ?_<;>intro _)|fail)
    rw [<-lxs]
    refine Zfb Zu8 hS (by decide) (Zf3 Tryz.func173 (by kernel_rfl) (by kernel_rfl)) (fun b:Ts (lx,ly) (hx,hy)=>wv b.1) (fun _=>rfl) (fun _=>rfl) (fun _=>rfl) (fun a b:Ts (lx,ly) (hx,hy)=>-(Rq a.1 b.1)) (fun a _ b _=>Zff (e173 a.2.2.1 b.2.2.1)) (Zl5 b0) (by omega) rfl fun ys hp hs=>?_
    have hys:=hT ys (by rw [<-hRd,<-hxs]; exact hp.map _) hs
    have e5:ys.map (fun b:Ts (lx,ly) (hx,hy)=>wv b.1)=T.map wv:=by rw [<-hys,Oi]; rfl
    rw [e5]
    repeat'(first|refine wk3 ?_|(refine wk2 ?_ ?_<;>intro _)|fail)
    have lT:(T.map wv).length=T.length:=Qn _
    have lx2:xs.length=T.length:=by rw [<-hys,Qn]; exact hp.length_eq.symm
    have hnd:∀ i,0<i->i<T.length->T[i]?≠T[i-1]?:=by
     intro i h0 h1 q
     have:=Sw.1 s1 (i-1) i (by omega) h1 (by omega)
     rw [Qe h1,Qe (by omega:i-1<_)] at q
     rw [Sl q,Zj] at this
     omega
    have h2T:2<=T.length:=by
     rw [<-hTT]
     unfold tB
     simp only [Ra,Ro,Rx]
     omega
    clear hys e5 hp hs hT hxs hit hW
    rw [lx2]
    refine bs.sv (sx:=Yf) hk Tryz.func216 (by kernel_rfl) (by kernel_rfl) ?_
    repeat'(first|refine wk3 ?_|(refine wk2 ?_ ?_<;>intro _)|fail)
    have hT1000:T.length<1000:=by omega
    refine Zq (S:=Nat × Int) (fun t=>T.length-t.1) (fun t=>[(0,.asl 23 0 T.length),(3,I t.2)]) (fun _=>[(23,.row 2 (T.map wv) true true),(22,.row 1 [[.asl 23 0 T.length]] true false),(18,.row 2 [[I hx,I hy]] true false),(17,.row 2 [[I lx,I ly]] true false),(2,.row 2 [[I iox,I ioy]] true false),(1,.row 8 [[.nils,I ox,I oy,I ax,I ay,I bx,I by',I (w:Int)]] true false),(0,.row 9 [h.cells] true false)]) 24 24
     (fun t=>t.2=t.1/\1<=t.1/\t.1<=T.length) (1,1) ⟨rfl,Qd _,by omega⟩ (Qk rfl) [] rfl (kps) (kps) ?_
    rintro ⟨j,i⟩ ⟨hi,hj0,hj⟩
    dsimp only at hi hj0 hj ⊢
    subst hi
    by_cases hlt:j<T.length
    ·have e1:=Vj hlt
     have e2:=Vj (T:=T) (j:=j-1) (by omega)
     rw [show (((j-1:Nat):Int))=Qa Qb ((j:Int)-1) by rw [W_eq (by omega) (by omega)]; omega] at e2
     have hd:=hnd j (by omega) hlt
     rw [Qe hlt,Qe (by omega:j-1<T.length)] at hd
     have w1:decide (0<=Qa Qb ((j:Int)-1))=true:=by rw [W_eq (by omega) (by omega)]; exact decide_eq_true (by omega)
     have w2:decide (Qa Qb ((j:Int)-1)<(T.length:Int))=true:=by rw [W_eq (by omega) (by omega)]; exact decide_eq_true (by omega)
     have hz:Qa Qb ((j:Int)-1)=(j:Int)-1:=W_eq (by omega) (by omega)
     generalize T[j]=u at *
     generalize T[j-1]'(by omega)=v at *
     obtain ⟨ux,uy⟩:=u
     obtain ⟨vx,vy⟩:=v
     have hraw:(decide (ux=vx)&&(decide (uy=vy)&&true))=false:=by
      rw [Qw]
      intro q
      simp only [Na,Qc,decide_eq_true_eq] at q
      exact hd (by rw [q.1,q.2])
     clear hd
     refine bs.av (sx:=Yf) hk ?_
     repeat'(first|refine wk3 ?_|(refine wk2 ?_ ?_<;>intro _)|fail)
     all_goals first
      | exact Qu ⟨(j+1,Qa Qb ((j:Int)+1)),[],rfl,kps,kps,⟨Ze (by omega),by omega,hlt⟩,by dsimp only; omega⟩
      | (exfalso; clear hk; simp_all; done)
    have hjn:j=T.length:=by omega
    subst hjn
    refine bs.av (sx:=Yf) hk ?_
    repeat'(first|refine wk3 ?_|(refine wk2 ?_ ?_<;>intro _)|fail)
    have hlT:(Si (T.length-1)).length=T.length-1:=Su
    have eT:Qa Qb ((T.length:Int)-1)=((T.length-1:Nat):Int):=by rw [W_eq (by omega) (by omega)]; omega
    have hgd:=fun i (hi:i<T.length-1)=>(hgood _ (Sy.2 ⟨i,Sb.2 hi,rfl⟩)).1
    rw [eT]
    refine Zq (S:=Nat × Nat × Int × Nat × List (List AV)) (fun t=>T.length-t.2.1) (fun t=>[(2,.ptr 0 0 0),(3,.ptr 1 0 0),(5,.ptr 2 0 0),(8,.ptr 22 0 0),(10,gv 24 t.1 t.2.2.2.1),(53,I ((T.length-1:Nat):Int)),(54,I t.2.2.1)])
     (fun t=>gz 24 8 t.1 t.2.2.2.2 [(23,.row 2 (T.map wv) true true),(22,.row 1 [[.asl 23 0 T.length]] true false),(18,.row 2 [[I hx,I hy]] true false),(17,.row 2 [[I lx,I ly]] true false),(2,.row 2 [[I iox,I ioy]] true false),(1,.row 8 [[.nils,I ox,I oy,I ax,I ay,I bx,I by',I (w:Int)]] true false),(0,.row 9 [h.cells] true false)]) 24 25
     (fun t=>t.1=t.2.1/\t.2.2.1=t.2.1/\t.2.1<=T.length-1/\t.2.2.2.1=t.2.2.2.2.length/\t.2.2.2.2=((Si t.2.1).map F).map bmA) (0,0,0,0,[]) ⟨rfl,rfl,Qq _,rfl,rfl⟩ (Qk rfl) [] rfl (kps) (kps) ?_
    rintro ⟨k,j,i,len,els⟩ ⟨hkj,hi,hj,hlen,hels⟩
    dsimp only at hkj hi hj hlen hels ⊢
    subst hi
    by_cases hlt:j<T.length-1
    ·have gm:=hgd j hlt
     have em:=hF2 j
     have hj1:j<T.length:=by omega
     have hj2:j+1<T.length:=by omega
     have hq:=Vc hj1
     have hq2:=Vc hj2
     have eW:Qa Qb ((j:Int)+1)=((j+1:Nat):Int):=Ze (by omega)
     have e1:=Vj hj1
     have e2:=Vj hj2
     have dD:decide (0<=Qa Qb ((j:Int)+1)/\Qa Qb ((j:Int)+1)<(T.length:Int))=true:=by
      rw [eW]
      exact decide_eq_true (by omega)
     have e3:((Si (j+1)).map F).map bmA=els++[bmA (F j)]:=by
      rw [Mc,Sm,Sm,<-hels]
      rfl
     generalize F j=m at *
     have hc:TB [h.av,wsA (ws++[(w:Int)]),P2 iox ioy,P2 m.a.1 m.a.2,P2 m.b.1 m.b.2]=some ⟨.agg (bmA m),[]⟩:=by
      obtain ⟨v,env,KK⟩:=gm.sec
      have hLP:LP h.cs (iox,ioy) (Xc (ws++[(w:Int)])) (addV m.a m.b):=by
       have ho:m.o=(iox,ioy):=by rw [em]
       have hws:m.ws=ws++[(w:Int)]:=by rw [em]
       rw [ho,hws] at KK
       have hab:=KK.ab
       have d1:0<Rq m.a (addV m.a m.b):=by rw [Ur,Xd,Zj]; omega
       have d2:0<Rq (addV m.a m.b) m.b:=by rw [Ur,Yp,Zj]; omega
       intro l q
       obtain ⟨q1,t,q2,q3⟩:=KK.lp l q
       exact ⟨q1,t,q2,(q3 _ d1 d2).n⟩
      have:=Zin (h:=h) (ws:=ws++[(w:Int)]) (o:=(iox,ioy)) (nx:=nxtV h.cs (iox,ioy) (Xc (ws++[(w:Int)]))) (a:=m.a) (b:=m.b) ⟨gm.ga,gm.gb⟩ ⟨gm.ba,gm.bb⟩ hLP
      rw [hTB] at this
      rw [this]
      congr 3
      rw [em,hlw]
     have ea:T[j]=m.a:=by rw [em,<-hq]
     have eb:T[j+1]=m.b:=by rw [em,<-hq2]
     rw [ea] at e1
     rw [eb,<-eW] at e2
     have l4:els.length<2000:=by rw [hels,Qn,Qn,Su]; omega
     have hbA:bmA m=[wsA (ws++[(w:Int)]),I iox,I ioy,I m.a.1,I m.a.2,I m.b.1,I m.b.2,I m.nx]:=by unfold bmA; rw [em]
     rw [hbA] at hc e3
     rw [ew] at hc e3
     generalize m.nx=nx at *
     generalize hma:m.a=aa at *
     generalize hmb:m.b=bb at *
     obtain ⟨aax,aay⟩:=aa
     obtain ⟨bbx,bby⟩:=bb
     dsimp only at e1 e2 hc e3
     clear em gm hma hmb hbA hq hq2 ea eb
     cases k with
     | zero =>
      have hz:els=[]:=by rw [hels,<-hkj]; rfl
      subst hz
      refine bs.av (sx:=Yf) hk ?_
      repeat'(first|refine wk3 ?_|(refine wk2 ?_ ?_<;>intro _)|fail)
      exact Qu ⟨(1,j+1,_,_,[[.isl 1 [[I (w:Int)]],I iox,I ioy,I aax,I aay,I bbx,I bby,I nx]]),[(24,46)],rfl,kps,kps,⟨by show 1=j+1; omega,Ze (by omega),hlt,rfl,e3.symm⟩,by show T.length-(j+1)<T.length-j; omega⟩
     | succ k =>
      refine bs.av (sx:=Yf) hk ?_
      repeat'(first|refine wk3 ?_|(refine wk2 ?_ ?_<;>intro _)|fail)
      refine Zbr (ys:=[[.isl 1 [[I (w:Int)]],I iox,I ioy,I aax,I aay,I bbx,I bby,I nx]]) rfl rfl rfl rfl rfl rfl rfl rfl rfl rfl (by simp) hlen (by simp only [Ra,Rx]; omega) ?_
      repeat'(first|refine wk3 ?_|(refine wk2 ?_ ?_<;>intro _)|fail)
      exact Qu ⟨(k+2,j+1,_,_,els++[[.isl 1 [[I (w:Int)]],I iox,I ioy,I aax,I aay,I bbx,I bby,I nx]]),[(24,46)],rfl,kps,kps,⟨by show k+2=j+1; omega,Ze (by omega),hlt,by exact List.length_append.symm,e3.symm⟩,by show T.length-(j+1)<T.length-j; omega⟩
    have hjn:j=T.length-1:=by omega
    subst hjn
    subst hels
    obtain ⟨q,rfl⟩:∃ q,k=q+1:=⟨k-1,by omega⟩
    refine bs.av (sx:=Yf) hk ?_
    repeat'(first|refine wk3 ?_|(refine wk2 ?_ ?_<;>intro _)|fail)
    exact Ym [24] rfl (by rw [hlen]; rfl) rfl
 ·refine bs.pv (sx:=Yf) hk Tryz.func90 (by kernel_rfl) (by kernel_rfl) rfl ?_
  repeat'(first|refine wk3 ?_|(refine wk2 ?_ ?_<;>intro _)|fail)
  refine Rg.ren (env2:=[(2,.ptr 0 0 0),(3,.ptr 1 0 0),(5,.ptr 2 0 0),(6,.ptr 17 0 0),(7,.ptr 18 0 0),(8,.ptr 22 0 0),(39,.func 218 [] (capS h iox ioy (laI (some w))))]) (σ2:=⟨[(21,.row 2 [[I lx,I ly],[I hx,I hy]] true true),(22,.row 1 [[.asl 21 0 2]] true false),(18,.row 2 [[I hx,I hy]] true false),(17,.row 2 [[I lx,I ly]] true false),(2,.row 2 [[I iox,I ioy]] true false),(1,.row 8 [[.isl 1 E,I ox,I oy,I ax,I ay,I bx,I by',I (w:Int)]] true false),(0,.row 9 [h.cells] true false)],23⟩) (Ren.of [] rfl (kps) (kps)) ?_
  refine rngV hit rfl rfl rfl rfl (Zlf (S:=Nat × Nat × Nat × List (List AV)) (fun s=>gy 21 23 2 s.1 s.2.2.2 [(22,.row 1 [[gw 21 23 s.1 s.2.2.1]] true false),(18,.row 2 [[I hx,I hy]] true false),(17,.row 2 [[I lx,I ly]] true false),(2,.row 2 [[I iox,I ioy]] true false),(1,.row 8 [[.isl 1 E,I ox,I oy,I ax,I ay,I bx,I by',I (w:Int)]] true false),(0,.row 9 [h.cells] true false)]) 23 (fun s=>nm2 23 24 s.1)
   (fun xs s=>s.2.1<=vs.length/\xs=(vs.drop s.2.1).map wy/\s.2.2.1=s.2.2.2.length/\s.2.2.2=(btP (lx,ly) (hx,hy) vs s.2.1).map wv) ?_ ?_ _ (0,0,2,[[I lx,I ly],[I hx,I hy]]) ⟨Qq _,rfl,rfl,rfl⟩)
  ·rintro x xs ⟨k,j,len,els⟩ ⟨hj,hxx,hlen,he⟩
   dsimp only at hj hxx hlen he ⊢
   have hlt:j<vs.length:=by
    rcases Wn j vs.length with c|c
    ·exact c
    ·rw [Qp c] at hxx; cases hxx
   rw [Ql hlt,Sv] at hxx
   obtain ⟨rfl,rfl⟩:=Rv hxx
   have e4:els.length<2000:=by
    have:=Zl7 (lx,ly) (hx,hy) vs j
    rw [he,Qn]; omega
   have e5:=Zr5 (lo:=(lx,ly)) (hi:=(hx,hy)) hlt
   have e6:=hbw vs[j] (Qo hlt)
   rw [<-e6] at e5
   clear e6
   generalize vs[j]=v at *
   obtain ⟨vx,vy⟩:=v
   refine ⟨rfl,?_⟩
   cases k with
   | zero =>
    refine bs.av (sx:=Yf) hk ?_
    repeat'(first|refine wk3 ?_|(refine wk2 ?_ ?_<;>intro _)|fail)
    refine Fs (bs.av (sx:=Yf) hk ?_)
    repeat'(first|refine wk3 ?_|(refine wk2 ?_ ?_<;>intro _)|fail)
    ·rename_i q
     rw [if_pos q] at e5
     exact Qu ⟨(0+1,j+1,_,els++[wv (vx,vy)]),[(23,25)],rfl,kps,hlt,rfl,by exact List.length_append.symm,by rw [e5,Sm,<-he]; rfl⟩
    ·rename_i q
     rw [if_neg (by rw [q]; decide)] at e5
     exact Qu ⟨(0,j+1,len,els),[],rfl,kps,hlt,rfl,hlen,by rw [e5]; exact he⟩
   | succ k =>
    refine bs.av (sx:=Yf) hk ?_
    repeat'(first|refine wk3 ?_|(refine wk2 ?_ ?_<;>intro _)|fail)
    refine Fs (bs.av (sx:=Yf) hk ?_)
    repeat'(first|refine wk3 ?_|(refine wk2 ?_ ?_<;>intro _)|fail)
    ·rename_i q
     rw [if_pos q] at e5
     exact Qu ⟨(k+1,j+1,_,els++[wv (vx,vy)]),[(23,26)],rfl,kps,hlt,rfl,by exact List.length_append.symm,by rw [e5,Sm,<-he]; rfl⟩
    ·rename_i q
     rw [if_neg (by rw [q]; decide)] at e5
     exact Qu ⟨(k+1,j+1,len,els),[(23,23)],rfl,kps,hlt,rfl,hlen,by rw [e5]; exact he⟩
  ·rintro ⟨k,j,len,els⟩ ⟨hj,hxx,hlen,he⟩
   dsimp only at hj hxx hlen he ⊢
   have hlt:vs.length<=j:=by
    rcases Wn j vs.length with c|c
    ·rw [Ql c] at hxx; cases hxx
    ·exact c
   have he2:els=((lx,ly)::(hx,hy)::BL).map wv:=by
    rw [he,hbl]
    unfold btP
    rw [Tp hlt]
   have hW2:∀ v∈(lx,ly)::(hx,hy)::BL,v≠(0,0)/\Vb v:=fun v hv=>by
    rcases Qx.1 hv with q|hv
    ·rw [q]; exact ⟨Zdm b1,b3⟩
    ·rcases Qx.1 hv with q|hv
     ·rw [q]; exact ⟨Zdm b2,b4⟩
     ·rw [hbl] at hv
      exact hW v ((Ot.1 hv).1)
   have hRd:((lx,ly)::(hx,hy)::BL).map red=(lx,ly)::(hx,hy)::BL.map red:=by
    rw [Sv,Sv,Zee b1,Zee b2]
   have hIn:∀ x∈((lx,ly)::(hx,hy)::BL).map red,g1 x/\Vb x/\inS (lx,ly) (hx,hy) x:=fun x hx=>by
    obtain ⟨v,hv,rfl⟩:=Sy.1 hx
    obtain ⟨q1,q2⟩:=hW2 v hv
    obtain ⟨gg,_,_,_,q5,_⟩:=Xx q1
    obtain ⟨q6,q7⟩:=Zkc q1 q2.1 q2.2
    refine ⟨q5,⟨q6,q7⟩,?_⟩
    rcases Qx.1 hv with q|hv
    ·rw [q,Zee b1]; exact ⟨by rw [Zj]; exact Wm 0,Qf b0⟩
    ·rcases Qx.1 hv with q|hv
     ·rw [q,Zee b2]; exact ⟨Qf b0,by rw [Zj]; exact Wm 0⟩
     ·rw [hbl] at hv
      have:=(Ot.1 hv).2
      rw [Qc,decide_eq_true_eq,decide_eq_true_eq] at this
      exact ⟨Qf ((Uk q1).2.2 this.1),Qf ((Uk q1).1.2 this.2)⟩
   have lv2:((lx,ly)::(hx,hy)::BL).length<1000:=by
    have:=Zl7 (lx,ly) (hx,hy) vs j
    rw [he2,Qn] at hlen
    have h2:((lx,ly)::(hx,hy)::BL).length=(btP (lx,ly) (hx,hy) vs j).length:=by
     have:=congrArg Ns (he2.symm.trans he)
     rwa [Qn,Qn] at this
    omega
   clear he hxx hlt hj
   subst he2
   rw [Qn] at hlen
   subst hlen
   generalize hv2:(lx,ly)::(hx,hy)::BL=v2 at *
   cases k with
   | zero =>
    repeat'(first|refine wk3 ?_|(refine wk2 ?_ ?_<;>intro _)|fail)
    refine bs.sv (sx:=Yf) hk Tryz.func168 (by kernel_rfl) (by kernel_rfl) ?_
    repeat'(first|refine wk3 ?_|(refine wk2 ?_ ?_<;>intro _)|fail)
    refine Zq (S:=Nat × Int × List (List AV)) (fun t=>v2.length-t.1) (fun t=>[(0,.asl 21 0 v2.length),(1,.func 173 [] []),(7,.asl 21 0 v2.length),(8,I v2.length),(9,I t.2.1)])
     (fun t=>[(21,.row 2 t.2.2 true true),(22,.row 1 [[.asl 21 0 v2.length]] true false),(18,.row 2 [[I hx,I hy]] true false),(17,.row 2 [[I lx,I ly]] true false),(2,.row 2 [[I iox,I ioy]] true false),(1,.row 8 [[.isl 1 E,I ox,I oy,I ax,I ay,I bx,I by',I (w:Int)]] true false),(0,.row 9 [h.cells] true false)]) 24 24 (fun t=>t.2.1=t.1/\t.1<=v2.length/\t.2.2=(mixR v2 t.1).map wv) (0,0,v2.map wv) ⟨rfl,Qq _,rfl⟩ (Qk rfl) [] rfl (kps) (kps) ?_
    rintro ⟨j,i,els⟩ ⟨hi,hj,hels⟩
    dsimp only at hi hj hels ⊢
    subst hi
    have lel:els.length=v2.length:=by rw [hels,Qn,Zfn]
    by_cases hlt:j<v2.length
    ·have e1:=Zfo hlt
     have e2:=Zfm hlt
     rw [<-hels] at e1 e2
     have t1:=hW2 v2[j] (Qo hlt)
     have t2:=Zew t1.1 t1.2
     generalize v2[j]=v at *
     generalize red v=u at *
     obtain ⟨vx,vy⟩:=v
     obtain ⟨ux,uy⟩:=u
     refine bs.av (sx:=Yf) hk ?_
     repeat'(first|refine wk3 ?_|(refine wk2 ?_ ?_<;>intro _)|fail)
     exact Qu ⟨(j+1,Qa Qb ((j:Int)+1),Zlb els (0+((j:Nat):Int).toNat) [I ux,I uy]),[],rfl,kps,kps,⟨Ze (by omega),hlt,e2⟩,by dsimp only; omega⟩
    have hjn:j=v2.length:=by omega
    subst hjn
    rw [Zfp] at hels
    obtain ⟨xs,hxs⟩:=subs (P:=fun v=>g1 v/\Vb v/\inS (lx,ly) (hx,hy) v) (v2.map red) hIn
    have hx2:els=xs.map (fun b:Ts (lx,ly) (hx,hy)=>wv b.1):=by rw [hels,<-hxs,Oi]; rfl
    have lxs:xs.length=v2.length:=by
     have:=congrArg Ns hxs
     simpa using this
    clear hels
    subst hx2
    refine bs.av (sx:=Yf) hk ?_
    repeat'(first|refine wk3 ?_|(refine wk2 ?_ ?_<;>intro _)|fail)
    rw [<-lxs]
    refine Zfb Zu8 hS (by decide) (Zf3 Tryz.func173 (by kernel_rfl) (by kernel_rfl)) (fun b:Ts (lx,ly) (hx,hy)=>wv b.1) (fun _=>rfl) (fun _=>rfl) (fun _=>rfl) (fun a b:Ts (lx,ly) (hx,hy)=>-(Rq a.1 b.1)) (fun a _ b _=>Zff (e173 a.2.2.1 b.2.2.1)) (Zl5 b0) (by omega) rfl fun ys hp hs=>?_
    have hys:=hT ys (by rw [<-hRd,<-hxs]; exact hp.map _) hs
    have e5:ys.map (fun b:Ts (lx,ly) (hx,hy)=>wv b.1)=T.map wv:=by rw [<-hys,Oi]; rfl
    rw [e5]
    repeat'(first|refine wk3 ?_|(refine wk2 ?_ ?_<;>intro _)|fail)
    have lT:(T.map wv).length=T.length:=Qn _
    have lx2:xs.length=T.length:=by rw [<-hys,Qn]; exact hp.length_eq.symm
    have hnd:∀ i,0<i->i<T.length->T[i]?≠T[i-1]?:=by
     intro i h0 h1 q
     have:=Sw.1 s1 (i-1) i (by omega) h1 (by omega)
     rw [Qe h1,Qe (by omega:i-1<_)] at q
     rw [Sl q,Zj] at this
     omega
    have h2T:2<=T.length:=by
     rw [<-hTT]
     unfold tB
     simp only [Ra,Ro,Rx]
     omega
    clear hys e5 hp hs hT hxs hit hW
    rw [lx2]
    refine bs.sv (sx:=Yf) hk Tryz.func216 (by kernel_rfl) (by kernel_rfl) ?_
    repeat'(first|refine wk3 ?_|(refine wk2 ?_ ?_<;>intro _)|fail)
    have hT1000:T.length<1000:=by omega
    refine Zq (S:=Nat × Int) (fun t=>T.length-t.1) (fun t=>[(0,.asl 21 0 T.length),(3,I t.2)]) (fun _=>[(21,.row 2 (T.map wv) true true),(22,.row 1 [[.asl 21 0 T.length]] true false),(18,.row 2 [[I hx,I hy]] true false),(17,.row 2 [[I lx,I ly]] true false),(2,.row 2 [[I iox,I ioy]] true false),(1,.row 8 [[.isl 1 E,I ox,I oy,I ax,I ay,I bx,I by',I (w:Int)]] true false),(0,.row 9 [h.cells] true false)]) 24 24
     (fun t=>t.2=t.1/\1<=t.1/\t.1<=T.length) (1,1) ⟨rfl,Qd _,by omega⟩ (Qk rfl) [] rfl (kps) (kps) ?_
    rintro ⟨j,i⟩ ⟨hi,hj0,hj⟩
    dsimp only at hi hj0 hj ⊢
    subst hi
    by_cases hlt:j<T.length
    ·have e1:=Vj hlt
     have e2:=Vj (T:=T) (j:=j-1) (by omega)
     rw [show (((j-1:Nat):Int))=Qa Qb ((j:Int)-1) by rw [W_eq (by omega) (by omega)]; omega] at e2
     have hd:=hnd j (by omega) hlt
     rw [Qe hlt,Qe (by omega:j-1<T.length)] at hd
     have w1:decide (0<=Qa Qb ((j:Int)-1))=true:=by rw [W_eq (by omega) (by omega)]; exact decide_eq_true (by omega)
     have w2:decide (Qa Qb ((j:Int)-1)<(T.length:Int))=true:=by rw [W_eq (by omega) (by omega)]; exact decide_eq_true (by omega)
     have hz:Qa Qb ((j:Int)-1)=(j:Int)-1:=W_eq (by omega) (by omega)
     generalize T[j]=u at *
     generalize T[j-1]'(by omega)=v at *
     obtain ⟨ux,uy⟩:=u
     obtain ⟨vx,vy⟩:=v
     have hraw:(decide (ux=vx)&&(decide (uy=vy)&&true))=false:=by
      rw [Qw]
      intro q
      simp only [Na,Qc,decide_eq_true_eq] at q
      exact hd (by rw [q.1,q.2])
     clear hd
     refine bs.av (sx:=Yf) hk ?_
     repeat'(first|refine wk3 ?_|(refine wk2 ?_ ?_<;>intro _)|fail)
     all_goals first
      | exact Qu ⟨(j+1,Qa Qb ((j:Int)+1)),[],rfl,kps,kps,⟨Ze (by omega),by omega,hlt⟩,by dsimp only; omega⟩
      | (exfalso; clear hk; simp_all; done)
    have hjn:j=T.length:=by omega
    subst hjn
    refine bs.av (sx:=Yf) hk ?_
    repeat'(first|refine wk3 ?_|(refine wk2 ?_ ?_<;>intro _)|fail)
    have hlT:(Si (T.length-1)).length=T.length-1:=Su
    have eT:Qa Qb ((T.length:Int)-1)=((T.length-1:Nat):Int):=by rw [W_eq (by omega) (by omega)]; omega
    have hgd:=fun i (hi:i<T.length-1)=>(hgood _ (Sy.2 ⟨i,Sb.2 hi,rfl⟩)).1
    rw [eT]
    refine Zq (S:=Nat × Nat × Int × Nat × List (List AV)) (fun t=>T.length-t.2.1) (fun t=>[(2,.ptr 0 0 0),(3,.ptr 1 0 0),(5,.ptr 2 0 0),(8,.ptr 22 0 0),(10,gv 24 t.1 t.2.2.2.1),(53,I ((T.length-1:Nat):Int)),(54,I t.2.2.1)])
     (fun t=>gz 24 8 t.1 t.2.2.2.2 [(21,.row 2 (T.map wv) true true),(22,.row 1 [[.asl 21 0 T.length]] true false),(18,.row 2 [[I hx,I hy]] true false),(17,.row 2 [[I lx,I ly]] true false),(2,.row 2 [[I iox,I ioy]] true false),(1,.row 8 [[.isl 1 E,I ox,I oy,I ax,I ay,I bx,I by',I (w:Int)]] true false),(0,.row 9 [h.cells] true false)]) 24 25
     (fun t=>t.1=t.2.1/\t.2.2.1=t.2.1/\t.2.1<=T.length-1/\t.2.2.2.1=t.2.2.2.2.length/\t.2.2.2.2=((Si t.2.1).map F).map bmA) (0,0,0,0,[]) ⟨rfl,rfl,Qq _,rfl,rfl⟩ (Qk rfl) [] rfl (kps) (kps) ?_
    rintro ⟨k,j,i,len,els⟩ ⟨hkj,hi,hj,hlen,hels⟩
    dsimp only at hkj hi hj hlen hels ⊢
    subst hi
    by_cases hlt:j<T.length-1
    ·have gm:=hgd j hlt
     have em:=hF2 j
     have hj1:j<T.length:=by omega
     have hj2:j+1<T.length:=by omega
     have hq:=Vc hj1
     have hq2:=Vc hj2
     have eW:Qa Qb ((j:Int)+1)=((j+1:Nat):Int):=Ze (by omega)
     have e1:=Vj hj1
     have e2:=Vj hj2
     have dD:decide (0<=Qa Qb ((j:Int)+1)/\Qa Qb ((j:Int)+1)<(T.length:Int))=true:=by
      rw [eW]
      exact decide_eq_true (by omega)
     have e3:((Si (j+1)).map F).map bmA=els++[bmA (F j)]:=by
      rw [Mc,Sm,Sm,<-hels]
      rfl
     generalize F j=m at *
     have hc:TB [h.av,wsA (ws++[(w:Int)]),P2 iox ioy,P2 m.a.1 m.a.2,P2 m.b.1 m.b.2]=some ⟨.agg (bmA m),[]⟩:=by
      obtain ⟨v,env,KK⟩:=gm.sec
      have hLP:LP h.cs (iox,ioy) (Xc (ws++[(w:Int)])) (addV m.a m.b):=by
       have ho:m.o=(iox,ioy):=by rw [em]
       have hws:m.ws=ws++[(w:Int)]:=by rw [em]
       rw [ho,hws] at KK
       have hab:=KK.ab
       have d1:0<Rq m.a (addV m.a m.b):=by rw [Ur,Xd,Zj]; omega
       have d2:0<Rq (addV m.a m.b) m.b:=by rw [Ur,Yp,Zj]; omega
       intro l q
       obtain ⟨q1,t,q2,q3⟩:=KK.lp l q
       exact ⟨q1,t,q2,(q3 _ d1 d2).n⟩
      have:=Zin (h:=h) (ws:=ws++[(w:Int)]) (o:=(iox,ioy)) (nx:=nxtV h.cs (iox,ioy) (Xc (ws++[(w:Int)]))) (a:=m.a) (b:=m.b) ⟨gm.ga,gm.gb⟩ ⟨gm.ba,gm.bb⟩ hLP
      rw [hTB] at this
      rw [this]
      congr 3
      rw [em,hlw]
     have ea:T[j]=m.a:=by rw [em,<-hq]
     have eb:T[j+1]=m.b:=by rw [em,<-hq2]
     rw [ea] at e1
     rw [eb,<-eW] at e2
     have l4:els.length<2000:=by rw [hels,Qn,Qn,Su]; omega
     have hbA:bmA m=[wsA (ws++[(w:Int)]),I iox,I ioy,I m.a.1,I m.a.2,I m.b.1,I m.b.2,I m.nx]:=by unfold bmA; rw [em]
     rw [hbA] at hc e3
     rw [ew] at hc e3
     generalize m.nx=nx at *
     generalize hma:m.a=aa at *
     generalize hmb:m.b=bb at *
     obtain ⟨aax,aay⟩:=aa
     obtain ⟨bbx,bby⟩:=bb
     dsimp only at e1 e2 hc e3
     clear em gm hma hmb hbA hq hq2 ea eb
     cases k with
     | zero =>
      have hz:els=[]:=by rw [hels,<-hkj]; rfl
      subst hz
      refine bs.av (sx:=Yf) hk ?_
      repeat'(first|refine wk3 ?_|(refine wk2 ?_ ?_<;>intro _)|fail)
      refine Zbr (ys:=[[I (w:Int)]]) rfl rfl rfl rfl rfl rfl rfl rfl rfl rfl (by simp) rfl (by simp only [Ra,Rx]; omega) ?_
      repeat'(first|refine wk3 ?_|(refine wk2 ?_ ?_<;>intro _)|fail)
      exact Qu ⟨(1,j+1,_,_,[[.isl 1 (Od (E.length+[[I (w:Int)]].length) (Oe 0 (E++[[I (w:Int)]]))),I iox,I ioy,I aax,I aay,I bbx,I bby,I nx]]),[(24,47)],rfl,kps,kps,⟨by show 1=j+1; omega,Ze (by omega),hlt,rfl,e3.symm⟩,by show T.length-(j+1)<T.length-j; omega⟩
     | succ k =>
      refine bs.av (sx:=Yf) hk ?_
      repeat'(first|refine wk3 ?_|(refine wk2 ?_ ?_<;>intro _)|fail)
      refine Zbr (ys:=[[I (w:Int)]]) rfl rfl rfl rfl rfl rfl rfl rfl rfl rfl (by simp) rfl (by simp only [Ra,Rx]; omega) ?_
      repeat'(first|refine wk3 ?_|(refine wk2 ?_ ?_<;>intro _)|fail)
      refine Zbr (ys:=[[.isl 1 (Od (E.length+[[I (w:Int)]].length) (Oe 0 (E++[[I (w:Int)]]))),I iox,I ioy,I aax,I aay,I bbx,I bby,I nx]]) rfl rfl rfl rfl rfl rfl rfl rfl rfl rfl (by simp) hlen (by simp only [Ra,Rx]; omega) ?_
      repeat'(first|refine wk3 ?_|(refine wk2 ?_ ?_<;>intro _)|fail)
      exact Qu ⟨(k+2,j+1,_,_,els++[[.isl 1 (Od (E.length+[[I (w:Int)]].length) (Oe 0 (E++[[I (w:Int)]]))),I iox,I ioy,I aax,I aay,I bbx,I bby,I nx]]),[(24,47)],rfl,kps,kps,⟨by show k+2=j+1; omega,Ze (by omega),hlt,by exact List.length_append.symm,e3.symm⟩,by show T.length-(j+1)<T.length-j; omega⟩
    have hjn:j=T.length-1:=by omega
    subst hjn
    subst hels
    obtain ⟨q,rfl⟩:∃ q,k=q+1:=⟨k-1,by omega⟩
    refine bs.av (sx:=Yf) hk ?_
    repeat'(first|refine wk3 ?_|(refine wk2 ?_ ?_<;>intro _)|fail)
    exact Ym [24] rfl (by rw [hlen]; rfl) rfl
   | succ k =>
    repeat'(first|refine wk3 ?_|(refine wk2 ?_ ?_<;>intro _)|fail)
    refine bs.sv (sx:=Yf) hk Tryz.func168 (by kernel_rfl) (by kernel_rfl) ?_
    repeat'(first|refine wk3 ?_|(refine wk2 ?_ ?_<;>intro _)|fail)
    refine Zq (S:=Nat × Int × List (List AV)) (fun t=>v2.length-t.1) (fun t=>[(0,.asl 23 0 v2.length),(1,.func 173 [] []),(7,.asl 23 0 v2.length),(8,I v2.length),(9,I t.2.1)])
     (fun t=>[(23,.row 2 t.2.2 true true),(22,.row 1 [[.asl 23 0 v2.length]] true false),(18,.row 2 [[I hx,I hy]] true false),(17,.row 2 [[I lx,I ly]] true false),(2,.row 2 [[I iox,I ioy]] true false),(1,.row 8 [[.isl 1 E,I ox,I oy,I ax,I ay,I bx,I by',I (w:Int)]] true false),(0,.row 9 [h.cells] true false)]) 24 24 (fun t=>t.2.1=t.1/\t.1<=v2.length/\t.2.2=(mixR v2 t.1).map wv) (0,0,v2.map wv) ⟨rfl,Qq _,rfl⟩ (Qk rfl) [] rfl (kps) (kps) ?_
    rintro ⟨j,i,els⟩ ⟨hi,hj,hels⟩
    dsimp only at hi hj hels ⊢
    subst hi
    have lel:els.length=v2.length:=by rw [hels,Qn,Zfn]
    by_cases hlt:j<v2.length
    ·have e1:=Zfo hlt
     have e2:=Zfm hlt
     rw [<-hels] at e1 e2
     have t1:=hW2 v2[j] (Qo hlt)
     have t2:=Zew t1.1 t1.2
     generalize v2[j]=v at *
     generalize red v=u at *
     obtain ⟨vx,vy⟩:=v
     obtain ⟨ux,uy⟩:=u
     refine bs.av (sx:=Yf) hk ?_
     repeat'(first|refine wk3 ?_|(refine wk2 ?_ ?_<;>intro _)|fail)
     exact Qu ⟨(j+1,Qa Qb ((j:Int)+1),Zlb els (0+((j:Nat):Int).toNat) [I ux,I uy]),[],rfl,kps,kps,⟨Ze (by omega),hlt,e2⟩,by dsimp only; omega⟩
    have hjn:j=v2.length:=by omega
    subst hjn
    rw [Zfp] at hels
    obtain ⟨xs,hxs⟩:=subs (P:=fun v=>g1 v/\Vb v/\inS (lx,ly) (hx,hy) v) (v2.map red) hIn
    have hx2:els=xs.map (fun b:Ts (lx,ly) (hx,hy)=>wv b.1):=by rw [hels,<-hxs,Oi]; rfl
    have lxs:xs.length=v2.length:=by
     have:=congrArg Ns hxs
     simpa using this
    clear hels
    subst hx2
    refine bs.av (sx:=Yf) hk ?_
    repeat'(first|refine wk3 ?_|(refine wk2 ?_ ?_<;>intro _)|fail)
    rw [<-lxs]
    refine Zfb Zu8 hS (by decide) (Zf3 Tryz.func173 (by kernel_rfl) (by kernel_rfl)) (fun b:Ts (lx,ly) (hx,hy)=>wv b.1) (fun _=>rfl) (fun _=>rfl) (fun _=>rfl) (fun a b:Ts (lx,ly) (hx,hy)=>-(Rq a.1 b.1)) (fun a _ b _=>Zff (e173 a.2.2.1 b.2.2.1)) (Zl5 b0) (by omega) rfl fun ys hp hs=>?_
    have hys:=hT ys (by rw [<-hRd,<-hxs]; exact hp.map _) hs
    have e5:ys.map (fun b:Ts (lx,ly) (hx,hy)=>wv b.1)=T.map wv:=by rw [<-hys,Oi]; rfl
    rw [e5]
    repeat'(first|refine wk3 ?_|(refine wk2 ?_ ?_<;>intro _)|fail)
    have lT:(T.map wv).length=T.length:=Qn _
    have lx2:xs.length=T.length:=by rw [<-hys,Qn]; exact hp.length_eq.symm
    have hnd:∀ i,0<i->i<T.length->T[i]?≠T[i-1]?:=by
     intro i h0 h1 q
     have:=Sw.1 s1 (i-1) i (by omega) h1 (by omega)
     rw [Qe h1,Qe (by omega:i-1<_)] at q
     rw [Sl q,Zj] at this
     omega
    have h2T:2<=T.length:=by
     rw [<-hTT]
     unfold tB
     simp only [Ra,Ro,Rx]
     omega
    clear hys e5 hp hs hT hxs hit hW
    rw [lx2]
    refine bs.sv (sx:=Yf) hk Tryz.func216 (by kernel_rfl) (by kernel_rfl) ?_
    repeat'(first|refine wk3 ?_|(refine wk2 ?_ ?_<;>intro _)|fail)
    have hT1000:T.length<1000:=by omega
    refine Zq (S:=Nat × Int) (fun t=>T.length-t.1) (fun t=>[(0,.asl 23 0 T.length),(3,I t.2)]) (fun _=>[(23,.row 2 (T.map wv) true true),(22,.row 1 [[.asl 23 0 T.length]] true false),(18,.row 2 [[I hx,I hy]] true false),(17,.row 2 [[I lx,I ly]] true false),(2,.row 2 [[I iox,I ioy]] true false),(1,.row 8 [[.isl 1 E,I ox,I oy,I ax,I ay,I bx,I by',I (w:Int)]] true false),(0,.row 9 [h.cells] true false)]) 24 24
     (fun t=>t.2=t.1/\1<=t.1/\t.1<=T.length) (1,1) ⟨rfl,Qd _,by omega⟩ (Qk rfl) [] rfl (kps) (kps) ?_
    rintro ⟨j,i⟩ ⟨hi,hj0,hj⟩
    dsimp only at hi hj0 hj ⊢
    subst hi
    by_cases hlt:j<T.length
    ·have e1:=Vj hlt
     have e2:=Vj (T:=T) (j:=j-1) (by omega)
     rw [show (((j-1:Nat):Int))=Qa Qb ((j:Int)-1) by rw [W_eq (by omega) (by omega)]; omega] at e2
     have hd:=hnd j (by omega) hlt
     rw [Qe hlt,Qe (by omega:j-1<T.length)] at hd
     have w1:decide (0<=Qa Qb ((j:Int)-1))=true:=by rw [W_eq (by omega) (by omega)]; exact decide_eq_true (by omega)
     have w2:decide (Qa Qb ((j:Int)-1)<(T.length:Int))=true:=by rw [W_eq (by omega) (by omega)]; exact decide_eq_true (by omega)
     have hz:Qa Qb ((j:Int)-1)=(j:Int)-1:=W_eq (by omega) (by omega)
     generalize T[j]=u at *
     generalize T[j-1]'(by omega)=v at *
     obtain ⟨ux,uy⟩:=u
     obtain ⟨vx,vy⟩:=v
     have hraw:(decide (ux=vx)&&(decide (uy=vy)&&true))=false:=by
      rw [Qw]
      intro q
      simp only [Na,Qc,decide_eq_true_eq] at q
      exact hd (by rw [q.1,q.2])
     clear hd
     refine bs.av (sx:=Yf) hk ?_
     repeat'(first|refine wk3 ?_|(refine wk2 ?_ ?_<;>intro _)|fail)
     all_goals first
      | exact Qu ⟨(j+1,Qa Qb ((j:Int)+1)),[],rfl,kps,kps,⟨Ze (by omega),by omega,hlt⟩,by dsimp only; omega⟩
      | (exfalso; clear hk; simp_all; done)
    have hjn:j=T.length:=by omega
    subst hjn
    refine bs.av (sx:=Yf) hk ?_
    repeat'(first|refine wk3 ?_|(refine wk2 ?_ ?_<;>intro _)|fail)
    have hlT:(Si (T.length-1)).length=T.length-1:=Su
    have eT:Qa Qb ((T.length:Int)-1)=((T.length-1:Nat):Int):=by rw [W_eq (by omega) (by omega)]; omega
    have hgd:=fun i (hi:i<T.length-1)=>(hgood _ (Sy.2 ⟨i,Sb.2 hi,rfl⟩)).1
    rw [eT]
    refine Zq (S:=Nat × Nat × Int × Nat × List (List AV)) (fun t=>T.length-t.2.1) (fun t=>[(2,.ptr 0 0 0),(3,.ptr 1 0 0),(5,.ptr 2 0 0),(8,.ptr 22 0 0),(10,gv 24 t.1 t.2.2.2.1),(53,I ((T.length-1:Nat):Int)),(54,I t.2.2.1)])
     (fun t=>gz 24 8 t.1 t.2.2.2.2 [(23,.row 2 (T.map wv) true true),(22,.row 1 [[.asl 23 0 T.length]] true false),(18,.row 2 [[I hx,I hy]] true false),(17,.row 2 [[I lx,I ly]] true false),(2,.row 2 [[I iox,I ioy]] true false),(1,.row 8 [[.isl 1 E,I ox,I oy,I ax,I ay,I bx,I by',I (w:Int)]] true false),(0,.row 9 [h.cells] true false)]) 24 25
     (fun t=>t.1=t.2.1/\t.2.2.1=t.2.1/\t.2.1<=T.length-1/\t.2.2.2.1=t.2.2.2.2.length/\t.2.2.2.2=((Si t.2.1).map F).map bmA) (0,0,0,0,[]) ⟨rfl,rfl,Qq _,rfl,rfl⟩ (Qk rfl) [] rfl (kps) (kps) ?_
    rintro ⟨k,j,i,len,els⟩ ⟨hkj,hi,hj,hlen,hels⟩
    dsimp only at hkj hi hj hlen hels ⊢
    subst hi
    by_cases hlt:j<T.length-1
    ·have gm:=hgd j hlt
     have em:=hF2 j
     have hj1:j<T.length:=by omega
     have hj2:j+1<T.length:=by omega
     have hq:=Vc hj1
     have hq2:=Vc hj2
     have eW:Qa Qb ((j:Int)+1)=((j+1:Nat):Int):=Ze (by omega)
     have e1:=Vj hj1
     have e2:=Vj hj2
     have dD:decide (0<=Qa Qb ((j:Int)+1)/\Qa Qb ((j:Int)+1)<(T.length:Int))=true:=by
      rw [eW]
      exact decide_eq_true (by omega)
     have e3:((Si (j+1)).map F).map bmA=els++[bmA (F j)]:=by
      rw [Mc,Sm,Sm,<-hels]
      rfl
     generalize F j=m at *
     have hc:TB [h.av,wsA (ws++[(w:Int)]),P2 iox ioy,P2 m.a.1 m.a.2,P2 m.b.1 m.b.2]=some ⟨.agg (bmA m),[]⟩:=by
      obtain ⟨v,env,KK⟩:=gm.sec
      have hLP:LP h.cs (iox,ioy) (Xc (ws++[(w:Int)])) (addV m.a m.b):=by
       have ho:m.o=(iox,ioy):=by rw [em]
       have hws:m.ws=ws++[(w:Int)]:=by rw [em]
       rw [ho,hws] at KK
       have hab:=KK.ab
       have d1:0<Rq m.a (addV m.a m.b):=by rw [Ur,Xd,Zj]; omega
       have d2:0<Rq (addV m.a m.b) m.b:=by rw [Ur,Yp,Zj]; omega
       intro l q
       obtain ⟨q1,t,q2,q3⟩:=KK.lp l q
       exact ⟨q1,t,q2,(q3 _ d1 d2).n⟩
      have:=Zin (h:=h) (ws:=ws++[(w:Int)]) (o:=(iox,ioy)) (nx:=nxtV h.cs (iox,ioy) (Xc (ws++[(w:Int)]))) (a:=m.a) (b:=m.b) ⟨gm.ga,gm.gb⟩ ⟨gm.ba,gm.bb⟩ hLP
      rw [hTB] at this
      rw [this]
      congr 3
      rw [em,hlw]
     have ea:T[j]=m.a:=by rw [em,<-hq]
     have eb:T[j+1]=m.b:=by rw [em,<-hq2]
     rw [ea] at e1
     rw [eb,<-eW] at e2
     have l4:els.length<2000:=by rw [hels,Qn,Qn,Su]; omega
     have hbA:bmA m=[wsA (ws++[(w:Int)]),I iox,I ioy,I m.a.1,I m.a.2,I m.b.1,I m.b.2,I m.nx]:=by unfold bmA; rw [em]
     rw [hbA] at hc e3
     rw [ew] at hc e3
     generalize m.nx=nx at *
     generalize hma:m.a=aa at *
     generalize hmb:m.b=bb at *
     obtain ⟨aax,aay⟩:=aa
     obtain ⟨bbx,bby⟩:=bb
     dsimp only at e1 e2 hc e3
     clear em gm hma hmb hbA hq hq2 ea eb
     cases k with
     | zero =>
      have hz:els=[]:=by rw [hels,<-hkj]; rfl
      subst hz
      refine bs.av (sx:=Yf) hk ?_
      repeat'(first|refine wk3 ?_|(refine wk2 ?_ ?_<;>intro _)|fail)
      refine Zbr (ys:=[[I (w:Int)]]) rfl rfl rfl rfl rfl rfl rfl rfl rfl rfl (by simp) rfl (by simp only [Ra,Rx]; omega) ?_
      repeat'(first|refine wk3 ?_|(refine wk2 ?_ ?_<;>intro _)|fail)
      exact Qu ⟨(1,j+1,_,_,[[.isl 1 (Od (E.length+[[I (w:Int)]].length) (Oe 0 (E++[[I (w:Int)]]))),I iox,I ioy,I aax,I aay,I bbx,I bby,I nx]]),[(24,47)],rfl,kps,kps,⟨by show 1=j+1; omega,Ze (by omega),hlt,rfl,e3.symm⟩,by show T.length-(j+1)<T.length-j; omega⟩
     | succ k =>
      refine bs.av (sx:=Yf) hk ?_
      repeat'(first|refine wk3 ?_|(refine wk2 ?_ ?_<;>intro _)|fail)
      refine Zbr (ys:=[[I (w:Int)]]) rfl rfl rfl rfl rfl rfl rfl rfl rfl rfl (by simp) rfl (by simp only [Ra,Rx]; omega) ?_
      repeat'(first|refine wk3 ?_|(refine wk2 ?_ ?_<;>intro _)|fail)
      refine Zbr (ys:=[[.isl 1 (Od (E.length+[[I (w:Int)]].length) (Oe 0 (E++[[I (w:Int)]]))),I iox,I ioy,I aax,I aay,I bbx,I bby,I nx]]) rfl rfl rfl rfl rfl rfl rfl rfl rfl rfl (by simp) hlen (by simp only [Ra,Rx]; omega) ?_
      repeat'(first|refine wk3 ?_|(refine wk2 ?_ ?_<;>intro _)|fail)
      exact Qu ⟨(k+2,j+1,_,_,els++[[.isl 1 (Od (E.length+[[I (w:Int)]].length) (Oe 0 (E++[[I (w:Int)]]))),I iox,I ioy,I aax,I aay,I bbx,I bby,I nx]]),[(24,47)],rfl,kps,kps,⟨by show k+2=j+1; omega,Ze (by omega),hlt,by exact List.length_append.symm,e3.symm⟩,by show T.length-(j+1)<T.length-j; omega⟩
    have hjn:j=T.length-1:=by omega
    subst hjn
    subst hels
    obtain ⟨q,rfl⟩:∃ q,k=q+1:=⟨k-1,by omega⟩
    refine bs.av (sx:=Yf) hk ?_
    repeat'(first|refine wk3 ?_|(refine wk2 ?_ ?_<;>intro _)|fail)
    exact Ym [24] rfl (by rw [hlen]; rfl) rfl
theorem Zrh (R:V->V->Bool) (t:V):∀ l:List V,(insB R t l).length=l.length+1
 | []=>rfl
 | a::l=>by
  unfold insB
  split
  ·rw [Ra,Zrh R t l,Ra]
  ·rfl
theorem Ycv (R:V->V->Bool) (l:List V) (t:V):(Ge.ins R l t).length<=l.length+1:=by
 unfold Ge.ins
 split
 ·omega
 ·rw [Fm,Zrh,Fm]; exact Qd _
theorem Zlz (R:V->V->Bool) (f:V->V):∀ (ws l:List V),(ws.foldl (fun l w=>Ge.ins R l (f w)) l).length<=l.length+ws.length
 | [],l=>by simp
 | w::ws,l=>by
  have:=Zlz R f ws (Ge.ins R l (f w))
  have h2:=Ycv R l (f w)
  rw [List.foldl_cons,Ra]
  omega
theorem Znu {α:Type} (p:α->Bool):∀ {l:List α} {x:α},x∈l->p x=false->(l.filter p).length+1<=l.length
 | a::l,x,hx,hp=>by
  have hle:=Mi p l
  rw [Hv]
  rcases Qx.1 hx with rfl|hx
  ·rw [hp]; simp only [Bool.false_eq_true,if_false,Ra]; omega
  ·have:=Znu p hx hp
   split<;>simp only [Ra]<;>omega
theorem Zxq {h:Hal} (g:h.fine) {m:Bm} (G:GoodB h m) (hlen:m.ws.length<4):(behB h.cs m).length<=12/\1<=(behB h.cs m).length:=by
 have B:=Zr7 g G hlen
 unfold behB
 dsimp only
 generalize m.nx.toNat=w at *
 generalize imgO h.cs w m.o=o at *
 generalize imgV h.cs w m.b=lo at *
 generalize imgV h.cs w m.a=hi at *
 have l12:h.cs.length<=12:=by have:=g.le; omega
 have h1:(btwL h.cs o w lo hi).length+1<=h.cs.length:=by
  unfold btwL Vn
  rw [List.filter_map,Qn,List.filter_filter]
  refine Znu _ (Qo B.wl) ?_
  rw [Qw]
  intro q
  rw [Qc] at q
  have q:=q.1
  dsimp only [Function.comp] at q
  rw [Qc,decide_eq_true_eq,decide_eq_true_eq,<-Zow _ B.wl] at q
  obtain ⟨_,t,e,i1,i2⟩:=(B.lk _ q.1 q.2).lk w rfl
  rcases Zc2 e with ⟨e1,e2⟩|⟨e1,e2⟩
  ·rw [e1,Zj] at i1; omega
  ·rw [e2,Zj] at i2; omega
 have h2:=Zlz crB red (btwL h.cs o w lo hi) []
 rw [Qn,Su]
 unfold tB innT
 simp only [Ra,Ro,Rx] at h2 ⊢
 omega
theorem Zus {h:Hal} (g:h.fine) (o:V):(Zp h.cs o).length<=12:=by
 have l12:h.cs.length<=12:=by have:=g.le; omega
 unfold Zp tO
 rw [Qn,Su]
 have h2:=Zlz snB red (Vn h.cs o none) []
 have h3:(Vn h.cs o none).length<=h.cs.length:=by
  unfold Vn
  rw [Qn]
  exact Mi _ _
 simp only [Rx] at h2
 omega
def levB (cs:List (Int × Int)) (o:V):Nat->List Bm
 | 0=>Zp cs o
 | k+1=>(levB cs o k).flatMap (behB cs)
def outB (cs:List (Int × Int)) (o:V):Nat->List Bm
 | 0=>Zp cs o
 | k+1=>outB cs o k++levB cs o (k+1)
theorem Vu {h:Hal} (g:h.fine) {o:V} (k:InSrc h o):∀ n,n<=4->∀ m∈levB h.cs o n,GoodB h m/\m.ws.length=n
 | 0,_,m,hm=>by
  obtain ⟨q1,q2,_⟩:=(Zbu g k).2 m hm
  exact ⟨q1,by rw [q2]; rfl⟩
 | n+1,hn,m,hm=>by
  obtain ⟨m0,h0,h1⟩:=Mu.1 hm
  obtain ⟨q1,q2⟩:=Vu g k n (by omega) m0 h0
  obtain ⟨r1,r2⟩:=Zjl g q1 (by omega) m h1
  exact ⟨r1,by rw [r2,Ro,q2,Nh]⟩
theorem Zhs {α β:Type} (f:α->List β) (c:Nat):∀ l:List α,(∀ x∈l,(f x).length<=c/\1<=(f x).length)->(l.flatMap f).length<=l.length*c/\l.length<=(l.flatMap f).length
 | [],_=>by simp
 | a::l,h=>by
  obtain ⟨i1,i2⟩:=Zhs f c l (fun x hx=>h x (by simp [hx]))
  obtain ⟨j1,j2⟩:=h a (by simp)
  rw [List.flatMap_cons,Ro,Ra,Nat.add_mul]
  omega
theorem Zcc {h:Hal} (g:h.fine) {o:V} (k:InSrc h o):∀ n,n<=4->(levB h.cs o n).length<=12*12 ^ n/\3<=(levB h.cs o n).length
 | 0,_=>by
  refine ⟨Zus g o,?_⟩
  show 3<=(Zp h.cs o).length
  unfold Zp
  rw [Qn,Su]
  exact (Zbu g k).1
 | n+1,hn=>by
  obtain ⟨i1,i2⟩:=Zcc g k n (by omega)
  obtain ⟨j1,j2⟩:=Zhs (behB h.cs) 12 (levB h.cs o n) (fun m hm=>by
   obtain ⟨q1,q2⟩:=Vu g k n (by omega) m hm
   exact Zxq g q1 (by omega))
  rw [Nat.pow_succ]
  show ((levB h.cs o n).flatMap (behB h.cs)).length<=_/\3<=((levB h.cs o n).flatMap (behB h.cs)).length
  omega
theorem Zfj {h:Hal} (g:h.fine) {o:V} (k:InSrc h o):∀ n,n<=4->∀ m∈outB h.cs o n,GoodB h m/\m.ws.length<=n
 | 0,hn,m,hm=>by
  obtain ⟨q1,q2⟩:=Vu g k 0 hn m hm
  exact ⟨q1,by omega⟩
 | n+1,hn,m,hm=>by
  rcases Sc.1 hm with q|q
  ·obtain ⟨q1,q2⟩:=Zfj g k n (by omega) m q
   exact ⟨q1,by omega⟩
  ·obtain ⟨q1,q2⟩:=Vu g k (n+1) hn m q
   exact ⟨q1,by omega⟩
theorem Zq4 {h:Hal} (g:h.fine) {o:V} (k:InSrc h o):∀ n,n<=4->(outB h.cs o n).length<=12*12 ^ n*2/\3<=(outB h.cs o n).length
 | 0,hn=>by
  have:=Zcc g k 0 hn
  show (Zp h.cs o).length<=_/\3<=(Zp h.cs o).length
  have e:levB h.cs o 0=Zp h.cs o:=rfl
  rw [e] at this
  omega
 | n+1,hn=>by
  have h1:=Zq4 g k n (by omega)
  have h2:=Zcc g k (n+1) hn
  rw [show outB h.cs o (n+1)=outB h.cs o n++levB h.cs o (n+1) from rfl,Ro]
  rw [Nat.pow_succ] at *
  omega
theorem Zu2 {h:Hal} (g:h.fine) {o:V} (k:InSrc h o) {n:Nat} (hn:n<=2):(outB h.cs o n).length<=2000:=by
 have a0:=(Zcc g k 0 (by omega)).1
 have a1:=(Zcc g k 1 (by omega)).1
 have a2:=(Zcc g k 2 (by omega)).1
 have e0:(outB h.cs o 0).length=(levB h.cs o 0).length:=rfl
 have e1:(outB h.cs o 1).length=(levB h.cs o 0).length+(levB h.cs o 1).length:=Ro
 have e2:(outB h.cs o 2).length=(outB h.cs o 1).length+(levB h.cs o 2).length:=Ro
 have:n=0\/n=1\/n=2:=by omega
 rcases this with rfl|rfl|rfl<;>omega
theorem Yb9 (m:Bm):(bmA m).all AV.one=true:=by
 unfold bmA wsA
 cases m.ws<;>rfl
theorem Zoj (m:Bm):∃ Aw q1 q2 q3 q4 q5 q6 q7,bmA m=[Aw,I q1,I q2,I q3,I q4,I q5,I q6,I q7]/\(Aw = .nils\/∃ E0,Aw = .isl 1 E0):=by
 refine ⟨_,_,_,_,_,_,_,_,rfl,?_⟩
 unfold wsA
 cases m.ws with
 | nil=>exact .inl rfl
 | cons x r=>exact .inr ⟨_,rfl⟩
theorem Zdd (l:List Bm):Xy (l.map bmA)=true:=by
 unfold Xy
 rw [List.all_map]
 exact List.all_eq_true.2 fun m _=>Yb9 m
theorem e89 {L:List Bm} (h0:L≠[]) (hl:L.length<100000):PCall Tryz.prog 89 [.isl 8 (L.map bmA)] ⟨.asl 0 0 (L.map bmA).length,[(8,L.map bmA)]⟩:=by
 have h1:=Zdd L
 have h2:(L.map bmA).length=L.length:=Qn _
 have h3:L.map bmA≠[]:=by simpa using h0
 generalize L.map bmA=E at *
 cases E with
 | nil=>exact absurd rfl h3
 | cons x r =>
 refine pn Zd Tryz.func89 ?_
 repeat'(first|refine wk3 ?_|(refine wk2 ?_ ?_<;>intro _)|fail)
 refine Ym [1] rfl ?_ rfl
 show AV.asl 1 0 (0+(x::r).length)=AV.asl 1 0 (x::r).length
 rw [Ti]
theorem Ybg {a b:List Int} (e:wsA a=wsA b):a=b:=by
 unfold wsA at e
 cases a with
 | nil=>cases b with
  | nil=>rfl
  | cons y t=>cases e
 | cons x r=>cases b with
  | nil=>cases e
  | cons y t =>
   dsimp only at e
   rw [AV.isl.injEq] at e
   have e:=e.2
   unfold nl at e
   have key:∀ l1 l2:List Int,l1.map (fun x=>[I x])=l2.map (fun x=>[I x])->l1=l2:=by
    intro l1
    induction l1 with
    | nil=>intro l2 q; cases l2 with
     | nil=>rfl
     | cons _ _=>cases q
    | cons a l1 ih=>intro l2 q; cases l2 with
     | nil=>cases q
     | cons b l2 =>
      rw [Sv,Sv,Rp] at q
      obtain ⟨q1,q2⟩:=q
      cases q1
      rw [ih l2 q2]
   exact key _ _ e
theorem Ydk {a b:Bm} (e:bmA a=bmA b):a=b:=by
 obtain ⟨ws,o,p,q,nx⟩:=a
 obtain ⟨ws2,o2,p2,q2,nx2⟩:=b
 obtain ⟨ox,oy⟩:=o
 obtain ⟨px,py⟩:=p
 obtain ⟨qx,qy⟩:=q
 obtain ⟨ox2,oy2⟩:=o2
 obtain ⟨px2,py2⟩:=p2
 obtain ⟨qx2,qy2⟩:=q2
 unfold bmA at e
 simp only [Rp,Wa,true_and,and_true] at e
 obtain ⟨e0,e1,e2,e3,e4,e5,e6,e7⟩:=e
 rw [Ybg e0,e1,e2,e3,e4,e5,e6,e7]
noncomputable abbrev rBh (h:Hal):List AV->Option PRes:=famA (fun m:Bm=>GoodB h m/\m.ws.length<4) (fun m=>[h.av,.agg (bmA m)]) (fun m=>⟨.isl 8 ((behB h.cs m).map bmA),[]⟩)
theorem Yb5 {h:Hal} {m:Bm} (G:GoodB h m) (hl:m.ws.length<4):rBh h [h.av,.agg (bmA m)]=some ⟨.isl 8 ((behB h.cs m).map bmA),[]⟩ :=
 Ye (p:=fun m:Bm=>GoodB h m/\m.ws.length<4) (g:=fun m=>[h.av,.agg (bmA m)]) (r:=fun m=>⟨.isl 8 ((behB h.cs m).map bmA),[]⟩) (k:=m) (fun j hj=>by
  simp only [Rp,Pr,true_and,and_true] at hj
  rw [Ydk hj]) ⟨G,hl⟩
theorem Yeg {h:Hal} (hf:h.few) (g:h.fine) (hS:SortsK Tryz.prog 215 2) {pt:PC} (hp:PCOK Tryz.prog pt):PCOK Tryz.prog (ins 90 (rBh h) pt):=Yo (fun m hm=>e90 hf g hS hm.1 hm.2) hp
def lvA (n0 k len:Nat) (els:List (List AV)):AV:=match k with
 | 0=>.isl 8 els
 | _=>.asl n0 0 len
theorem e50 {h:Hal} (hf:h.few) (g:h.fine) (hS:SortsK Tryz.prog 215 2) {o:V} (k:InSrc h o) {n:Nat} (hn:n<=2):PCall Tryz.prog 50 [h.av,P2 o.1 o.2,I n] ⟨.isl 8 ((outB h.cs o n).map bmA),[]⟩:=by
 have c88:=e88 hf g hS k
 have hlev:=fun j hj=>Vu g k j hj
 have hlen:=fun j hj=>Zcc g k j hj
 have holen:=fun j hj=>Zq4 g k j hj
 have hr0:Zp h.cs o≠[]:=by
  intro q
  have:=(hlen 0 (by omega)).2
  rw [show levB h.cs o 0=Zp h.cs o from rfl,q] at this
  simp at this
 have hr1:=(hlen 0 (by omega)).1
 have c89:=e89 (L:=Zp h.cs o) hr0 (by rw [show levB h.cs o 0=Zp h.cs o from rfl] at hr1; omega)
 have hk:PCOK Tryz.prog (ins 88 (one [h.av,P2 o.1 o.2] ⟨.isl 8 ((Zp h.cs o).map bmA),[]⟩) (ins 89 (one [.isl 8 ((Zp h.cs o).map bmA)] ⟨.asl 0 0 ((Zp h.cs o).map bmA).length,[(8,(Zp h.cs o).map bmA)]⟩) (ins 90 (rBh h) pt0))) :=
  Za c88 (Za c89 (Yeg hf g hS Zd))
 have hhit:=fun (m:Bm) (q:GoodB h m) (q2:m.ws.length<4)=>Yb5 q q2
 have hb:=fun (m:Bm) (q:GoodB h m) (q2:m.ws.length<4)=>Zxq g q q2
 refine Nw (res:=⟨.asl 0 0 ((outB h.cs o n).map bmA).length,[(8,(outB h.cs o n).map bmA)]⟩) ?_ ⟨rfl,rfl,rfl⟩
 generalize hRR:rBh h=TB at *
 obtain ⟨ox,oy⟩:=o
 dsimp only at *
 have hlv0:levB h.cs (ox,oy) 0=Zp h.cs (ox,oy):=rfl
 have hou0:outB h.cs (ox,oy) 0=Zp h.cs (ox,oy):=rfl
 generalize hR0:Zp h.cs (ox,oy)=R0 at *
 refine pn hk Tryz.func50 ?_
 repeat'(first|refine wk3 ?_|(refine wk2 ?_ ?_<;>intro _)|fail)
 refine Zve (S:=Nat × Nat × Int × Nat × List (List AV) × Nat × List (List AV)) (fun t=>n-t.2.1) (fun t=>[(3,.ptr 0 0 0),(4,.ptr 1 0 0),(7,lvA 4 t.1 t.2.2.2.1 t.2.2.2.2.1),(8,.asl 3 0 t.2.2.2.2.2.1),(17,I (n:Int)),(18,I t.2.2.1)])
  (fun t=>gz 4 8 t.1 t.2.2.2.2.1 [(3,.row 8 t.2.2.2.2.2.2 true true),(1,.row 2 [[I ox,I oy]] true false),(0,.row 9 [h.cells] true false)]) 3 5
  (fun t=>t.1=t.2.1/\t.2.2.1=t.2.1/\t.2.1<=n/\t.2.2.2.1=t.2.2.2.2.1.length/\t.2.2.2.2.1=(levB h.cs (ox,oy) t.2.1).map bmA/\t.2.2.2.2.2.1=t.2.2.2.2.2.2.length/\t.2.2.2.2.2.2=(outB h.cs (ox,oy) t.2.1).map bmA)
  (0,0,0,(R0.map bmA).length,R0.map bmA,(R0.map bmA).length,R0.map bmA) ⟨rfl,rfl,Qq _,rfl,by rw [hlv0],rfl,by rw [hou0]⟩ (Qd _) [(3,2)] rfl (kps) (kps) ?_
 rintro ⟨k,j,i,len,lels,ol,oels⟩ ⟨hkj,hi,hj,hle,hlels,hol,hoels⟩
 dsimp only at hkj hi hj hle hlels hol hoels ⊢
 subst hi
 by_cases hlt:j<n
 ·have L1:=hlev j (by omega)
  have L2:=(hlen j (by omega)).1
  have L3:=(holen j (by omega)).1
  have L4:=(hlen j (by omega)).2
  have hp1:12 ^ j<=12 ^ 2:=Nat.pow_le_pow_right (by omega) (by omega)
  have eL:levB h.cs (ox,oy) (j+1)=(levB h.cs (ox,oy) j).flatMap (behB h.cs):=rfl
  have eO:outB h.cs (ox,oy) (j+1)=outB h.cs (ox,oy) j++levB h.cs (ox,oy) (j+1):=rfl
  generalize hLL:levB h.cs (ox,oy) j=L at *
  have hbL:∀ m∈L,(behB h.cs m).length<=12/\1<=(behB h.cs m).length:=fun m hm=>hb m (L1 m hm).1 (by have:=(L1 m hm).2; omega)
  have l5:lels.length=L.length:=by rw [hlels,Qn]
  have l6:oels.length<10000:=by rw [hoels,Qn]; omega
  cases k with
  | zero =>
   refine bs.av (sx:=nos) hk ?_
   repeat'(first|refine wk3 ?_|(refine wk2 ?_ ?_<;>intro _)|fail)
   refine Zq (S:=Nat × Nat × Int × Nat × List (List AV)) (fun t=>L.length-t.2.1) (fun t=>[(3,.ptr 0 0 0),(4,.ptr 1 0 0),(8,.asl 3 0 ol),(17,I (n:Int)),(18,I (j:Int)),(9,gv 5 t.1 t.2.2.2.1),(20,.isl 8 lels),(21,I lels.length),(22,I t.2.2.1)])
    (fun t=>gz 5 8 t.1 t.2.2.2.2 [(3,.row 8 oels true true),(1,.row 2 [[I ox,I oy]] true false),(0,.row 9 [h.cells] true false)]) 5 6
    (fun t=>t.1=t.2.1/\t.2.2.1=t.2.1/\t.2.1<=L.length/\t.2.2.2.1=t.2.2.2.2.length/\t.2.2.2.2=((L.take t.2.1).flatMap (behB h.cs)).map bmA)
    (0,0,0,0,[]) ⟨rfl,rfl,Qq _,rfl,rfl⟩ (Qd _) [] rfl (kps) (kps) ?_
   rintro ⟨k2,j2,i2,nl2,nels⟩ ⟨hk2,hi2,hj2,hn2,hnels⟩
   dsimp only at hk2 hi2 hj2 hn2 hnels ⊢
   subst hi2
   have hnl:nels.length<=L.length*12:=by
    have h1:=(Zhs (behB h.cs) 12 (L.take j2) (fun m hm=>hbL m (Fj hm))).1
    rw [hnels,Qn]
    rw [Pp,Mb hj2] at h1
    have:=Rl 12 hj2
    omega
   by_cases hlt2:j2<L.length
   ·have hg:=L1 L[j2] (Qo hlt2)
    have hb2:=hhit L[j2] hg.1 (by omega)
    have hb3:=hb L[j2] hg.1 (by omega)
    have e1:lels[0+((j2:Nat):Int).toNat]?=some (bmA L[j2]):=by
     rw [Ti,Rz,hlels,Ru,Qe hlt2]
     rfl
    have e0:lels[((j2:Nat):Int).toNat]?=some (bmA L[j2]):=by rwa [Ti] at e1
    have e2:((L.take (j2+1)).flatMap (behB h.cs)).map bmA=nels++(behB h.cs L[j2]).map bmA:=by
     rw [Rf hlt2,Fo,Sm,<-hnels]
     simp
    have o1:=Zdd (behB h.cs L[j2])
    have l7:((behB h.cs L[j2]).map bmA).length=(behB h.cs L[j2]).length:=Qn _
    generalize (behB h.cs L[j2]).map bmA=E at *
    obtain ⟨Aw,q1,q2,q3,q4,q5,q6,q7,eA,hAw⟩:=Zoj L[j2]
    rw [eA] at e0 e1 hb2
    have hap:decide (nl2=nels.length/\nels.length+E.length<=limB 80)=true:=by
     have hz:limB 80=1759218604441:=by decide
     rw [hz]
     exact decide_eq_true (by omega)
    cases E with
    | nil=>rw [Rx] at l7; omega
    | cons x r =>
     rcases hAw with rfl|⟨E0,rfl⟩
     all_goals
      cases k2 with
      | zero =>
       have hz:nels=[]:=by rw [hnels,<-hk2]; rfl
       subst hz
       refine bs.av (sx:=nos) hk ?_
       repeat'(first|refine wk3 ?_|(refine wk2 ?_ ?_<;>intro _)|fail)
       exact Qu ⟨(1,j2+1,_,_,x::r),[(5,7)],rfl,kps,kps,⟨by show 1=j2+1; omega,Ze (by omega),hlt2,rfl,e2.symm⟩,by show L.length-(j2+1)<L.length-j2; omega⟩
      | succ k2 =>
       refine bs.av (sx:=nos) hk ?_
       repeat'(first|refine wk3 ?_|(refine wk2 ?_ ?_<;>intro _)|fail)
       exact Qu ⟨(k2+2,j2+1,_,_,nels++x::r),[(5,7)],rfl,kps,kps,⟨by show k2+2=j2+1; omega,Ze (by omega),hlt2,by exact List.length_append.symm,e2.symm⟩,by show L.length-(j2+1)<L.length-j2; omega⟩
   have hj2n:j2=L.length:=by omega
   subst hj2n
   rw [Np,<-eL] at hnels
   obtain ⟨q,rfl⟩:∃ q,k2=q+1:=⟨k2-1,by omega⟩
   have e5:(outB h.cs (ox,oy) (j+1)).map bmA=oels++nels:=by rw [eO,Sm,<-hoels,<-hnels]
   have hraw:Od nl2 (Oe 0 nels)=nels:=by rw [Wr,hn2,Np]
   have hap3:Xy (Od nl2 (Oe 0 nels))=true:=by rw [hraw,hnels]; exact Zdd _
   have hap2:decide (ol=oels.length/\oels.length+(Od nl2 (Oe 0 nels)).length<=limB 80)=true:=by
    have hz:limB 80=1759218604441:=by decide
    rw [hz,hraw]
    exact decide_eq_true (by omega)
   refine bs.av (sx:=nos) hk ?_
   repeat'(first|refine wk3 ?_|(refine wk2 ?_ ?_<;>intro _)|fail)
   exact Qu ⟨(1,j+1,_,nl2,nels,_,oels++Od nl2 (Oe 0 nels)),[(3,6),(4,5)],rfl,kps,kps,⟨by show 1=j+1; omega,Ze (by omega),hlt,hn2,hnels,by exact List.length_append.symm,by rw [hraw]; exact e5.symm⟩,by show n-(j+1)<n-j; omega⟩
  | succ k =>
   refine bs.av (sx:=nos) hk ?_
   repeat'(first|refine wk3 ?_|(refine wk2 ?_ ?_<;>intro _)|fail)
   refine Zq (S:=Nat × Nat × Int × Nat × List (List AV)) (fun t=>L.length-t.2.1) (fun t=>[(3,.ptr 0 0 0),(4,.ptr 1 0 0),(8,.asl 3 0 ol),(17,I (n:Int)),(18,I (j:Int)),(9,gv 5 t.1 t.2.2.2.1),(20,.asl 4 0 len),(21,I len),(22,I t.2.2.1)])
    (fun t=>gz 5 8 t.1 t.2.2.2.2 [(4,.row 8 lels true true),(3,.row 8 oels true true),(1,.row 2 [[I ox,I oy]] true false),(0,.row 9 [h.cells] true false)]) 5 6
    (fun t=>t.1=t.2.1/\t.2.2.1=t.2.1/\t.2.1<=L.length/\t.2.2.2.1=t.2.2.2.2.length/\t.2.2.2.2=((L.take t.2.1).flatMap (behB h.cs)).map bmA)
    (0,0,0,0,[]) ⟨rfl,rfl,Qq _,rfl,rfl⟩ (Qd _) [] rfl (kps) (kps) ?_
   rintro ⟨k2,j2,i2,nl2,nels⟩ ⟨hk2,hi2,hj2,hn2,hnels⟩
   dsimp only at hk2 hi2 hj2 hn2 hnels ⊢
   subst hi2
   have hnl:nels.length<=L.length*12:=by
    have h1:=(Zhs (behB h.cs) 12 (L.take j2) (fun m hm=>hbL m (Fj hm))).1
    rw [hnels,Qn]
    rw [Pp,Mb hj2] at h1
    have:=Rl 12 hj2
    omega
   by_cases hlt2:j2<L.length
   ·have hg:=L1 L[j2] (Qo hlt2)
    have hb2:=hhit L[j2] hg.1 (by omega)
    have hb3:=hb L[j2] hg.1 (by omega)
    have e1:lels[0+((j2:Nat):Int).toNat]?=some (bmA L[j2]):=by
     rw [Ti,Rz,hlels,Ru,Qe hlt2]
     rfl
    have e0:lels[((j2:Nat):Int).toNat]?=some (bmA L[j2]):=by rwa [Ti] at e1
    have e2:((L.take (j2+1)).flatMap (behB h.cs)).map bmA=nels++(behB h.cs L[j2]).map bmA:=by
     rw [Rf hlt2,Fo,Sm,<-hnels]
     simp
    have o1:=Zdd (behB h.cs L[j2])
    have l7:((behB h.cs L[j2]).map bmA).length=(behB h.cs L[j2]).length:=Qn _
    generalize (behB h.cs L[j2]).map bmA=E at *
    obtain ⟨Aw,q1,q2,q3,q4,q5,q6,q7,eA,hAw⟩:=Zoj L[j2]
    rw [eA] at e0 e1 hb2
    have hap:decide (nl2=nels.length/\nels.length+E.length<=limB 80)=true:=by
     have hz:limB 80=1759218604441:=by decide
     rw [hz]
     exact decide_eq_true (by omega)
    cases E with
    | nil=>rw [Rx] at l7; omega
    | cons x r =>
     rcases hAw with rfl|⟨E0,rfl⟩
     all_goals
      cases k2 with
      | zero =>
       have hz:nels=[]:=by rw [hnels,<-hk2]; rfl
       subst hz
       refine bs.av (sx:=nos) hk ?_
       repeat'(first|refine wk3 ?_|(refine wk2 ?_ ?_<;>intro _)|fail)
       exact Qu ⟨(1,j2+1,_,_,x::r),[(5,7)],rfl,kps,kps,⟨by show 1=j2+1; omega,Ze (by omega),hlt2,rfl,e2.symm⟩,by show L.length-(j2+1)<L.length-j2; omega⟩
      | succ k2 =>
       refine bs.av (sx:=nos) hk ?_
       repeat'(first|refine wk3 ?_|(refine wk2 ?_ ?_<;>intro _)|fail)
       exact Qu ⟨(k2+2,j2+1,_,_,nels++x::r),[(5,7)],rfl,kps,kps,⟨by show k2+2=j2+1; omega,Ze (by omega),hlt2,by exact List.length_append.symm,e2.symm⟩,by show L.length-(j2+1)<L.length-j2; omega⟩
   have hj2n:j2=L.length:=by omega
   subst hj2n
   rw [Np,<-eL] at hnels
   obtain ⟨q,rfl⟩:∃ q,k2=q+1:=⟨k2-1,by omega⟩
   have e5:(outB h.cs (ox,oy) (j+1)).map bmA=oels++nels:=by rw [eO,Sm,<-hoels,<-hnels]
   have hraw:Od nl2 (Oe 0 nels)=nels:=by rw [Wr,hn2,Np]
   have hap3:Xy (Od nl2 (Oe 0 nels))=true:=by rw [hraw,hnels]; exact Zdd _
   have hap2:decide (ol=oels.length/\oels.length+(Od nl2 (Oe 0 nels)).length<=limB 80)=true:=by
    have hz:limB 80=1759218604441:=by decide
    rw [hz,hraw]
    exact decide_eq_true (by omega)
   refine bs.av (sx:=nos) hk ?_
   repeat'(first|refine wk3 ?_|(refine wk2 ?_ ?_<;>intro _)|fail)
   exact Qu ⟨(k+2,j+1,_,nl2,nels,_,oels++Od nl2 (Oe 0 nels)),[(3,6),(4,5)],rfl,kps,kps,⟨by show k+2=j+1; omega,Ze (by omega),hlt,hn2,hnels,by exact List.length_append.symm,by rw [hraw]; exact e5.symm⟩,by show n-(j+1)<n-j; omega⟩
 have hjn:j=n:=by omega
 subst hjn
 subst hoels
 cases k with
 | zero =>
  refine bs.av (sx:=nos) hk ?_
  repeat'(first|refine wk3 ?_|(refine wk2 ?_ ?_<;>intro _)|fail)
  exact Ym [3] rfl (by rw [hol]; rfl) rfl
 | succ k =>
  refine bs.av (sx:=nos) hk ?_
  repeat'(first|refine wk3 ?_|(refine wk2 ?_ ?_<;>intro _)|fail)
  exact Ym [3] rfl (by rw [hol]; rfl) rfl
theorem e49 {h:Hal} (hk:h.ok) (he:h.err=0) {x y:Int} (hp:plaE h x y 1=0) {n:Int} (hn:0<=n/\n<=4):PCall Tryz.prog 49 [h.av,P2 x y,I n] ⟨.tup [h.av,I 0],[]⟩:=by
 have c38:=p164 hk
 have c40:=e40 hk he x y
 have c42:=d81 n
 have c39:=d78 (l:=[0,0]) (by decide)
 rw [he] at c38
 rw [hp] at c40
 have hw:within n 0 4=true:=within_iff.2 hn
 rw [hw] at c42
 have hkk:PCOK Tryz.prog (ins 38 (one [h.av] ⟨I 0,[]⟩) (ins 40 (one [h.av,P2 x y] ⟨I 0,[]⟩) (ins 42 (one [I n] ⟨I 0,[]⟩) (ins 39 (one [.isl 1 [[I 0],[I 0]]] ⟨I 0,[]⟩) pt0)))) :=
  Za c38 (Za c40 (Za c42 (Za c39 Zd)))
 refine pn hkk Tryz.func49 ?_
 repeat'(first|refine wk3 ?_|(refine wk2 ?_ ?_<;>intro _)|fail)
 exact Zg rfl rfl
theorem e17 {h:Hal} (hk:h.ok) (he:h.err=0) (g:h.fine) (hS:SortsK Tryz.prog 215 2) {o:V} (k:InSrc h o) (hp:plaE h o.1 o.2 1=0) {n:Nat} (hn:n<=2):PCall Tryz.prog 17 [h.av,P2 o.1 o.2,I n] ⟨.tup [.isl 8 ((outB h.cs o n).map bmA),I 0],[]⟩:=by
 have c49:=e49 hk he hp (n:=(n:Int)) (by omega)
 have c50:=e50 hk.f g hS k hn
 have hkk:=Za c49 (Za c50 Zd)
 obtain ⟨x,y⟩:=o
 dsimp only at hkk
 generalize (outB h.cs (x,y) n).map bmA=E at *
 refine pn hkk Tryz.func17 ?_
 repeat'(first|refine wk3 ?_|(refine wk2 ?_ ?_<;>intro _)|fail)
 exact Zg rfl rfl
theorem Yf0 {h:Hal} (g:h.fine) {m:Bm} (G:GoodB h m) (hlen:m.ws.length<4):∀ m'∈behB h.cs m,m'.ws=m.ws++[m.nx]/\m'.o=imgO h.cs m.nx.toNat m.o /\
  ∀ d,0<Rq m'.a d->0<Rq d m'.b->0<Rq (imgV h.cs m.nx.toNat m.b) d/\0<Rq d (imgV h.cs m.nx.toNat m.a):=by
 intro m' hm
 have B:=Zr7 g G hlen
 unfold behB at hm
 dsimp only at hm
 obtain ⟨s1,_,s3,s4⟩:=Zft g B
 rw [Sy] at hm
 obtain ⟨i,hi,rfl⟩:=hm
 have hi:=Sb.1 hi
 refine ⟨rfl,rfl,?_⟩
 dsimp only
 generalize hT:tB h.cs (imgO h.cs m.nx.toNat m.o) m.nx.toNat (imgV h.cs m.nx.toNat m.b) (imgV h.cs m.nx.toNat m.a)=T at *
 have hi1:i<T.length:=by omega
 have hi2:i+1<T.length:=by omega
 rw [Vc hi1,Vc hi2]
 have pw:=Sw.1 s1
 have r1:=pw i (i+1) hi1 hi2 (by omega)
 have m1:=s3 _ (Qo hi1)
 have m2:=s3 _ (Qo hi2)
 have b2:0<Rq (imgV h.cs m.nx.toNat m.b) T[i+1]:=by
  have hT0:T[0]'(by omega)=imgV h.cs m.nx.toNat m.b:=by subst hT; rfl
  rw [<-hT0]
  exact pw 0 (i+1) (by omega) hi2 (by omega)
 have a2:0<Rq T[i] (imgV h.cs m.nx.toNat m.a):=by
  have hlast:T[T.length-1]'(by omega)=imgV h.cs m.nx.toNat m.a:=by
   subst hT
   unfold tB
   simp
  rw [<-hlast]
  exact pw i (T.length-1) hi1 (by omega) (by omega)
 intro d d1 d2
 constructor
 ·have:=Zqc T[i] T[i+1] (imgV h.cs m.nx.toNat m.b) d
  have x1:=Qm (Qf d2) m1.2.1.1
  have x2:=Qt d1 b2
  exact Zl (a:=Rq T[i] T[i+1]) (by omega) r1
 ·have:=Zxr T[i] T[i+1] d (imgV h.cs m.nx.toNat m.a)
  have x1:=Qt d2 a2
  have x2:=Qm (Qf d1) m2.2.1.2
  exact Zl (a:=Rq T[i] T[i+1]) (by omega) r1
theorem Zrp {h:Hal} (g:h.fine) {m:Bm} (G:GoodB h m) {d:V} (h1:0<Rq m.a d) (h2:0<Rq d m.b) (k:Nat) :
  folL h.cs (k+1) (ryV m.o d) (frQ h.cs m.o d (Xc m.ws)) (laI (Xc m.ws))=(folL h.cs k (ryV (imgO h.cs m.nx.toNat m.o) (imgV h.cs m.nx.toNat d)) (frQ h.cs (imgO h.cs m.nx.toNat m.o) (imgV h.cs m.nx.toNat d) (some m.nx.toNat)) (laI (some m.nx.toNat))).map (fun l=>m.nx::l):=by
 obtain ⟨w,e,K⟩:=G.sec
 have e2:m.nx.toNat=w:=by omega
 rw [e2]
 obtain ⟨s,f⟩:=K.ft d h1 h2
 have hlp:LP h.cs m.o (Xc m.ws) d:=fun l q=>by
  obtain ⟨q1,t,q2,q3⟩:=K.lp l q
  exact ⟨q1,t,q2,(q3 d h1 h2).n⟩
 obtain ⟨c,e3,e4,e5⟩:=Zwc g hlp f
 have B:=Zzk g hlp
 have e6:bstP (Zv h.cs (ryV m.o d) (frQ h.cs m.o d (Xc m.ws)) (laI (Xc m.ws))) h.cs.length=some c:=e3
 obtain ⟨_,B2⟩:=B.next g.st e6
 have hr:rfW (wlOf h.cs c.i) (ryV m.o d)=ryV (imgO h.cs w m.o) (imgV h.cs w d):=by rw [e4]; rfl
 have hfr:frQ h.cs (imgO h.cs w m.o) (imgV h.cs w d) (some w)=(c.nu,c.de):=by
  rw [hr,e4] at B2
  rcases B2.last with ⟨q,_⟩|⟨i,hi,q,_,x,x1,x2,x3⟩
  ·omega
  ·have:i=w:=by omega
   subst this
   unfold frQ
   dsimp only
   rw [x1]
   exact Wh x2 x3
 rw [folL,e6]
 dsimp only
 rw [if_pos e5,hr,hfr,e4,e]
 rfl
def upV (cs:List (Int × Int)) (ws:List Int) (d:V):V:=ws.foldr (fun w v=>imgV cs w.toNat v) d
def dnV (cs:List (Int × Int)) (ws:List Int) (d:V):V:=ws.foldl (fun v w=>imgV cs w.toNat v) d
theorem Zrq {h:Hal} (g:h.fine) {o:V} (k0:InSrc h o):∀ n,n<=3->∀ m∈levB h.cs o n,∀ d,0<Rq m.a d->0<Rq d m.b->∀ k,
  folL h.cs (n+k) (ryV o (upV h.cs m.ws d)) (0,1) (-1)=(folL h.cs k (ryV m.o d) (frQ h.cs m.o d (Xc m.ws)) (laI (Xc m.ws))).map (fun l=>m.ws++l)
 | 0,_,m,hm,d,_,_,k=>by
  obtain ⟨_,q2,q3⟩:=(Zbu g k0).2 m hm
  rw [q2,q3,Ti]
  show folL h.cs k (ryV o d) (0,1) (-1)=(folL h.cs k (ryV o d) (0,1) (-1)).map (fun l=>[]++l)
  cases folL h.cs k (ryV o d) (0,1) (-1)<;>rfl
 | n+1,hn,m,hm,d,h1,h2,k=>by
  obtain ⟨m0,hm0,hb⟩:=Mu.1 hm
  obtain ⟨G,hl⟩:=Vu g k0 n (by omega) m0 hm0
  obtain ⟨q1,q2,q3⟩:=Yf0 g G (by omega) m hb
  obtain ⟨i1,i2⟩:=q3 d h1 h2
  obtain ⟨w,e,K⟩:=G.sec
  have e2:m0.nx.toNat=w:=by omega
  obtain ⟨nn,hs⟩:=Zk2 g K.wlt
  have hin:0<Rq m0.a (imgV h.cs m0.nx.toNat d)/\0<Rq (imgV h.cs m0.nx.toNat d) m0.b:=by
   rw [e2] at i1 i2 ⊢
   exact Zyv hs i1 i2
  have ih:=Zrq g k0 n (by omega) m0 hm0 (imgV h.cs m0.nx.toNat d) hin.1 hin.2 (k+1)
  have hup:upV h.cs m.ws d=upV h.cs m0.ws (imgV h.cs m0.nx.toNat d):=by
   rw [q1]
   unfold upV
   rw [List.foldr_append]
   rfl
  have hinv:imgV h.cs m0.nx.toNat (imgV h.cs m0.nx.toNat d)=d:=by
   rw [e2]
   exact Zvc hs d
  have hla:Xc m.ws=some m0.nx.toNat:=by rw [q1,e2,e]; exact Zi3 _ _
  rw [hup,hla,q2,show n+1+k=n+(k+1) by omega,ih,Zrp g G hin.1 hin.2,hinv,q1]
  cases folL h.cs k (ryV (imgO h.cs m0.nx.toNat m0.o) d) (frQ h.cs (imgO h.cs m0.nx.toNat m0.o) d (some m0.nx.toNat)) (laI (some m0.nx.toNat)) with
  | none=>rfl
  | some l=>simp
theorem Yc3 {h:Hal} (g:h.fine) {o:V} (k0:InSrc h o) {n:Nat} (hn:n<=3) {m:Bm} (hm:m∈levB h.cs o n) {d:V} (h1:0<Rq m.a d) (h2:0<Rq d m.b):folL h.cs (n+1) (ryV o (upV h.cs m.ws d)) (0,1) (-1)=some (m.ws++[m.nx]):=by
 obtain ⟨G,_⟩:=Vu g k0 n (by omega) m hm
 rw [Zrq g k0 n hn m hm d h1 h2 1,Zrp g G h1 h2 0]
 rfl
def mulV (k:Int) (v:V):V:=(k*v.1,k*v.2)
theorem Zrj (cs:List (Int × Int)) (w:Nat) (k:Int) (v:V):imgV cs w (mulV k v)=mulV k (imgV cs w v):=by
 unfold imgV mS mvD mulV
 dsimp only
 generalize (uS cs w).1=sx
 generalize (uS cs w).2=sy
 split
 ·simp [Re]
 ·split
  ·simp [Re]
  ·split
   ·rfl
   ·simp [Re]
theorem Ybk (cs:List (Int × Int)) (k:Int):∀ (ws:List Int) (v:V),upV cs ws (mulV k v)=mulV k (upV cs ws v)
 | [],_=>rfl
 | w::ws,v=>by
  show imgV cs w.toNat (upV cs ws (mulV k v))=mulV k (imgV cs w.toNat (upV cs ws v))
  rw [Ybk cs k ws v,Zrj]
theorem Zp2 (cs:List (Int × Int)) (k:Int):∀ (ws:List Int) (v:V),dnV cs ws (mulV k v)=mulV k (dnV cs ws v)
 | [],_=>rfl
 | w::ws,v=>by
  show dnV cs ws (imgV cs w.toNat (mulV k v))=mulV k (dnV cs ws (imgV cs w.toNat v))
  rw [Zrj,Zp2 cs k ws]
def inW (cs:List (Int × Int)) (ws:List Int):Prop:=∀ x∈ws,0<=x/\x<cs.length
theorem Zrk {h:Hal} (g:h.fine) {w:Int} (hw:0<=w/\w<h.cs.length) (v:V):imgV h.cs w.toNat (imgV h.cs w.toNat v)=v:=by
 obtain ⟨n,hs⟩:=Zk2 g (w:=w.toNat) (by omega)
 exact Zvc hs v
theorem Yde {h:Hal} (g:h.fine):∀ (ws:List Int),inW h.cs ws->∀ v,dnV h.cs ws (upV h.cs ws v)=v
 | [],_,_=>rfl
 | w::ws,hw,v=>by
  show dnV h.cs ws (imgV h.cs w.toNat (imgV h.cs w.toNat (upV h.cs ws v)))=v
  rw [Zrk g (hw w (by simp)),Yde g ws (fun x hx=>hw x (by simp [hx]))]
theorem Ydr {h:Hal} (g:h.fine):∀ (ws:List Int),inW h.cs ws->∀ v,upV h.cs ws (dnV h.cs ws v)=v
 | [],_,_=>rfl
 | w::ws,hw,v=>by
  show imgV h.cs w.toNat (upV h.cs ws (dnV h.cs ws (imgV h.cs w.toNat v)))=v
  rw [Ydr g ws (fun x hx=>hw x (by simp [hx])),Zrk g (hw w (by simp))]
abbrev InB (B:Int) (v:V):Prop:=(-B<=v.1/\v.1<=B)/\(-B<=v.2/\v.2<=B)
theorem Zlu {h:Hal} (g:h.fine) {w:Int} (hw:0<=w/\w<h.cs.length) {B:Int} {v:V} (hv:InB B v):InB B (imgV h.cs w.toNat v):=by
 obtain ⟨n,hs⟩:=Zk2 g (w:=w.toNat) (by omega)
 exact Ycj hs hv
theorem Ycy {h:Hal} (g:h.fine) {w:Int} (hw:0<=w/\w<h.cs.length) {v:V} (hv:g1 v):g1 (imgV h.cs w.toNat v):=by
 obtain ⟨n,hs⟩:=Zk2 g (w:=w.toNat) (by omega)
 exact Yci hs hv
theorem Zw4 {h:Hal} (g:h.fine) {B:Int}:∀ (ws:List Int),inW h.cs ws->∀ v,InB B v->g1 v->InB B (dnV h.cs ws v)/\g1 (dnV h.cs ws v)
 | [],_,_,h1,h2=>⟨h1,h2⟩
 | w::ws,hw,v,h1,h2=>Zw4 g ws (fun x hx=>hw x (by simp [hx])) _ (Zlu g (hw w (by simp)) h1) (Ycy g (hw w (by simp)) h2)
theorem Zzq {h:Hal} (g:h.fine) {B:Int}:∀ (ws:List Int),inW h.cs ws->∀ v,InB B v->InB B (upV h.cs ws v)
 | [],_,_,h1=>h1
 | w::ws,hw,v,h1=>Zlu g (hw w (by simp)) (Zzq g ws (fun x hx=>hw x (by simp [hx])) v h1)
theorem Zzc (a v:V) (k:Int):Rq a (mulV k v)=k*Rq a v:=by unfold Rq mulV; grind
theorem Zzd (a v:V) (k:Int):Rq (mulV k v) a=k*Rq v a:=by unfold Rq mulV; grind
theorem Zq3 {cs:List (Int × Int)} {o:V}:∀ {n:Nat} {m:Bm},m∈outB cs o n->∃ j,j<=n/\m∈levB cs o j
 | 0,m,h=>⟨0,Qd _,h⟩
 | n+1,m,h=>by
  rcases Sc.1 h with q|q
  ·obtain ⟨j,h1,h2⟩:=Zq3 q
   exact ⟨j,by omega,h2⟩
  ·exact ⟨n+1,Qd _,q⟩
def mixD (m:Bm) (p q:Int):V:=(p*m.a.1+q*m.b.1,p*m.a.2+q*m.b.2)
theorem Zlm (m:Bm) (p q:Int):mixD m p q=mix p q m.a m.b:=by unfold mixD mix; rfl
theorem Zsu {h:Hal} (g:h.fine) {o:V} (k0:InSrc h o) {n:Nat} (hn:n<=2) {m:Bm} (hm:m∈outB h.cs o n) {p q:Int} (hp:1<=p/\p<=5) (hq:1<=q/\q<=5) {e:V} {G:Int} (hG:0<=G) (he:upV h.cs m.ws (mixD m p q)=mulV G e) :
  0<G/\folL h.cs (m.ws.length+1) (ryV o e) (0,1) (-1)=some (m.ws++[m.nx])/\0<Rq m.a (dnV h.cs m.ws e)/\0<Rq (dnV h.cs m.ws e) m.b:=by
 obtain ⟨j,hj,hl⟩:=Zq3 hm
 obtain ⟨G0,hlen⟩:=Vu g k0 j (by omega) m hl
 have hw:inW h.cs m.ws:=G0.ws
 have e1:mixD m p q=mulV G (dnV h.cs m.ws e):=by rw [<-Zp2,<-he,Yde g _ hw]
 obtain ⟨w,_,K⟩:=G0.sec
 have hab:=K.ab
 have d1:0<Rq m.a (mixD m p q):=by
  rw [Zlm,Xd,Zj]
  have:=Qt (show 0<q by omega) hab
  omega
 have d2:0<Rq (mixD m p q) m.b:=by
  rw [Zlm,Yp,Zj]
  have:=Qt (show 0<p by omega) hab
  omega
 rw [e1,Zzc] at d1
 rw [e1,Zzd] at d2
 have hG0:0<G:=by
  by_cases c:0<G
  ·exact c
  ·have:G=0:=by omega
   rw [this] at d1
   simp at d1
 have f1:0<Rq m.a (dnV h.cs m.ws e):=Zl d1 hG0
 have f2:0<Rq (dnV h.cs m.ws e) m.b:=Zl d2 hG0
 refine ⟨hG0,?_,f1,f2⟩
 have:=Yc3 g k0 (n:=j) (by omega) hl f1 f2
 rw [Ydr g _ hw] at this
 rw [hlen]
 exact this
theorem modE {a b:Int} (h0:0<b):(if a.tmod b<0 then a.tmod b+b else a.tmod b)=a%b:=by
 have h3:=Int.emod_nonneg a (show b≠0 by omega)
 have h4:=Int.emod_lt_of_pos a h0
 rw [Int.tmod_eq_emod]
 split
 ·rw [if_neg (by omega)]
  omega
 ·rw [if_pos (by omega)]
  omega
theorem e18 {a b:Int} (h0:0<b) (h1:b<1000000):PCall Tryz.prog 18 [I a,I b] ⟨I (a%b),[]⟩:=by
 rw [<-modE h0]
 have hz:(!decide (b=0))=true:=by rw [decide_eq_false (by omega)]; rfl
 have h5:=Int.tmod_lt_of_pos a h0
 have h6:=Int.lt_tmod_of_pos a h0
 by_cases q:a.tmod b<0
 ·rw [if_pos q]
  have e1:Qa Qb (a.tmod b+b)=a.tmod b+b:=W_eq (by omega) (by omega)
  rw [<-e1]
  refine pn Zd Tryz.func18 ?_
  repeat'(first|refine wk3 ?_|(refine wk2 ?_ ?_<;>intro _)|fail)
  all_goals first|exact Zc rfl|(exfalso; simp_all; done)|(exfalso; simp_all; omega)
 ·rw [if_neg q]
  refine pn Zd Tryz.func18 ?_
  repeat'(first|refine wk3 ?_|(refine wk2 ?_ ?_<;>intro _)|fail)
  all_goals first|exact Zc rfl|(exfalso; simp_all; done)|(exfalso; simp_all; omega)
noncomputable abbrev rTE:List AV->Option PRes:=famA (fun v:V=>i64 v.1/\i64 v.2) (fun v=>[P2 v.1 v.2]) (fun v=>⟨I (tnE v),[]⟩)
theorem Zgq {v:V} (h1:i64 v.1) (h2:i64 v.2):rTE [P2 v.1 v.2]=some ⟨I (tnE v),[]⟩ :=
 Ye (p:=fun v:V=>i64 v.1/\i64 v.2) (g:=fun v=>[P2 v.1 v.2]) (r:=fun v=>⟨I (tnE v),[]⟩) (k:=v) (fun j hj=>by
  simp only [Rp,Wa,Pr,true_and,and_true] at hj
  rw [show j=v from Wh hj.1 hj.2]) ⟨h1,h2⟩
theorem Yd5 {pt:PC} (hp:PCOK Tryz.prog pt):PCOK Tryz.prog (ins 41 rTE pt):=Yo (fun v hv=>d91 (t:=v) hv.1 hv.2) hp
theorem e21 {a b x:V} (ha:Vb a) (hb:Vb b) (hx:i64 x.1/\i64 x.2) (h1:tnE a=0) (h2:tnE b=0) (h3:tnE x=0):PCall Tryz.prog 21 [P2 a.1 a.2,P2 b.1 b.2,P2 x.1 x.2] ⟨.tup [Bo (btW a b x),I 0],[]⟩:=by
 have t1:=Zgq (v:=a) (by have:=ha.1; unfold i64; omega) (by have:=ha.2; unfold i64; omega)
 have t2:=Zgq (v:=b) (by have:=hb.1; unfold i64; omega) (by have:=hb.2; unfold i64; omega)
 have t3:=Zgq hx.1 hx.2
 rw [h1] at t1
 rw [h2] at t2
 rw [h3] at t3
 have c39:=d78 (l:=[0,0,0]) (by decide)
 have hk:PCOK Tryz.prog (ins 41 rTE (ins 39 (one [.isl 1 [[I 0],[I 0],[I 0]]] ⟨I 0,[]⟩) (ins 43 rWy (ins 54 rBt pt0)))) :=
  Yd5 (Za c39 (Zk (fun a res h=>by unfold rWy at h; split at h<;>cases h; exact d93 _ _) (Yab Zd)))
 obtain ⟨a1,a2⟩:=a
 obtain ⟨b1,b2⟩:=b
 obtain ⟨x1,x2⟩:=x
 dsimp only at *
 generalize rTE=TE at *
 refine pn hk Tryz.func21 ?_
 repeat'(first|refine wk3 ?_|(refine wk2 ?_ ?_<;>intro _)|fail)
 exact Zg rfl rfl
noncomputable abbrev rMm (h:Hal):List AV->Option PRes:=famA (fun q:Int × V=>(0<=q.1/\q.1<h.cs.length)/\InB 500000 q.2) (fun q=>[h.av,I q.1,P2 q.2.1 q.2.2]) (fun q=>⟨P2 (imgV h.cs q.1.toNat q.2).1 (imgV h.cs q.1.toNat q.2).2,[]⟩)
theorem Zux {h:Hal} {w:Int} {v:V} (hw:0<=w/\w<h.cs.length) (hv:InB 500000 v):rMm h [h.av,I w,P2 v.1 v.2]=some ⟨P2 (imgV h.cs w.toNat v).1 (imgV h.cs w.toNat v).2,[]⟩ :=
 Ye (p:=fun q:Int × V=>(0<=q.1/\q.1<h.cs.length)/\InB 500000 q.2) (g:=fun q=>[h.av,I q.1,P2 q.2.1 q.2.2]) (r:=fun q=>⟨P2 (imgV h.cs q.1.toNat q.2).1 (imgV h.cs q.1.toNat q.2).2,[]⟩) (k:=(w,v)) (fun j hj=>by
  simp only [Rp,Wa,Pr,true_and,and_true] at hj
  rw [show j=(w,v) from Wh hj.1 (Wh hj.2.1 hj.2.2)]) ⟨hw,hv⟩
theorem Yaa {h:Hal} (hf:h.few) (g:h.fine) {pt:PC} (hp:PCOK Tryz.prog pt):PCOK Tryz.prog (ins 19 (rMm h) pt):=Yo (fun q hq=>by
 obtain ⟨n,hs⟩:=Zk2 g (w:=q.1.toNat) (by omega)
 have:=e19 hf g (k:=q.1.toNat) (by omega) hs (x:=q.2.1) (y:=q.2.2) (by unfold sm6; omega) (by unfold sm6; omega)
 rw [show ((q.1.toNat:Nat):Int)=q.1 by omega] at this
 exact this) hp
theorem e22 {h:Hal} (hf:h.few) (g:h.fine) {ws:List Int} (hw:inW h.cs ws) (hl:ws.length<1000) {v:V} (hv:InB 500000 v):PCall Tryz.prog 22 [h.av,wsA ws,P2 v.1 v.2] ⟨P2 (dnV h.cs ws v).1 (dnV h.cs ws v).2,[]⟩:=by
 have hk:=Yaa hf g Zd
 have hhit:=fun (w:Int) (v:V) (hw:0<=w/\w<h.cs.length) (hv:InB 500000 v)=>Zux (h:=h) hw hv
 generalize rMm h=TB at *
 have hA:wsA ws = .nils/\ws=[]\/wsA ws = .isl 1 (nl ws):=by
  cases ws with
  | nil=>exact .inl ⟨rfl,rfl⟩
  | cons x r=>exact .inr rfl
 obtain ⟨v1,v2⟩:=v
 rcases hA with ⟨e,e2⟩|e
 ·rw [e]
  subst e2
  refine pn hk Tryz.func22 ?_
  repeat'(first|refine wk3 ?_|(refine wk2 ?_ ?_<;>intro _)|fail)
  refine Zq (S:=Unit) (fun _=>0) (fun _=>[(1,.nils),(3,.ptr 0 0 0),(5,.ptr 1 0 0),(6,.ptr 2 0 0),(7,I 0)]) (fun _=>[(2,.row 2 [[I 0,I 0]] true false),(1,.row 2 [[I v1,I v2]] true false),(0,.row 9 [h.cells] true false)]) 3 3 (fun _=>True) () trivial (Qd _) [] rfl (kps) (kps) ?_
  rintro _ _
  refine bs.av (sx:=nos) hk ?_
  repeat'(first|refine wk3 ?_|(refine wk2 ?_ ?_<;>intro _)|fail)
  exact Zg rfl rfl
 ·rw [e]
  have hln:(nl ws).length=ws.length:=Yh ws
  refine pn hk Tryz.func22 ?_
  repeat'(first|refine wk3 ?_|(refine wk2 ?_ ?_<;>intro _)|fail)
  refine Zq (S:=Nat × Int × V) (fun t=>ws.length-t.1) (fun t=>[(1,.isl 1 (nl ws)),(3,.ptr 0 0 0),(5,.ptr 1 0 0),(6,.ptr 2 0 0),(7,I t.2.1)]) (fun t=>[(2,.row 2 [[I 0,I 0]] true false),(1,.row 2 [[I t.2.2.1,I t.2.2.2]] true false),(0,.row 9 [h.cells] true false)]) 3 3
   (fun t=>t.2.1=t.1/\t.1<=ws.length/\InB 500000 t.2.2/\dnV h.cs (ws.drop t.1) t.2.2=dnV h.cs ws (v1,v2)) (0,0,(v1,v2)) ⟨rfl,Qq _,hv,rfl⟩ (Qd _) [] rfl (kps) (kps) ?_
  rintro ⟨j,i,x⟩ ⟨hi,hj,hb,hd⟩
  dsimp only at hi hj hb hd ⊢
  subst hi
  by_cases hlt:j<ws.length
  ·have e0:(nl ws)[((j:Nat):Int).toNat]?=some [I ws[j]]:=Zeh hlt
   have t1:=hhit ws[j] x (hw _ (Qo hlt)) hb
   have b1:=Zlu g (hw _ (Qo hlt)) hb
   have d1:dnV h.cs (ws.drop (j+1)) (imgV h.cs (ws[j]).toNat x)=dnV h.cs ws (v1,v2):=by
    rw [<-hd,Ql hlt]
    rfl
   generalize imgV h.cs (ws[j]).toNat x=y at *
   generalize ws[j]=w at *
   obtain ⟨x1,x2⟩:=x
   obtain ⟨y1,y2⟩:=y
   dsimp only at t1
   refine bs.av (sx:=nos) hk ?_
   repeat'(first|refine wk3 ?_|(refine wk2 ?_ ?_<;>intro _)|fail)
   exact Qu ⟨(j+1,Qa Qb ((j:Int)+1),(y1,y2)),[],rfl,kps,kps,⟨Ze (by omega),hlt,b1,d1⟩,by dsimp only; omega⟩
  ·have hjn:j=ws.length:=by omega
   rw [hjn,List.drop_length] at hd
   have hd:x=dnV h.cs ws (v1,v2):=hd
   rw [<-hd]
   subst hjn
   obtain ⟨x1,x2⟩:=x
   refine bs.av (sx:=nos) hk ?_
   repeat'(first|refine wk3 ?_|(refine wk2 ?_ ?_<;>intro _)|fail)
   exact Zg rfl rfl
theorem Zt7 {v:V} (h1:g1 v) (h2:InB 100000 v):tnE v=0:=by
 unfold tnE gcW
 have hg:Nat.gcd v.1.natAbs v.2.natAbs=1:=h1
 rw [hg,Zgl,Zgl,within_iff.2 (by omega),within_iff.2 (by omega)]
 decide
theorem Zke {h:Hal} (g:h.fine) {o:V} (k0:InSrc h o):∀ n,n<=4->∃ rest,outB h.cs o n=Zp h.cs o++rest/\∀ m∈rest,m.ws≠[]
 | 0,_=>⟨[],by rw [List.append_nil]; rfl,fun m hm=>by cases hm⟩
 | n+1,hn=>by
  obtain ⟨r,e,hr⟩:=Zke g k0 n (by omega)
  refine ⟨r++levB h.cs o (n+1),by rw [<-List.append_assoc,<-e]; rfl,fun m hm=>?_⟩
  rcases Sc.1 hm with q|q
  ·exact hr m q
  ·have:=(Vu g k0 (n+1) hn m q).2
   intro z
   rw [z] at this
   cases this
theorem Zil {cs:List (Int × Int)} {o:V} {i:Nat} (hi:i<(Zp cs o).length):(Zp cs o)[i].ws=[]/\(Zp cs o)[i].a=getV (tO cs o) i/\(Zp cs o)[i].b=getV (tO cs o) ((i+1)%(Zp cs o).length):=by
 have hl:(Zp cs o).length=(tO cs o).length:=by unfold Zp; rw [Qn,Su]
 rw [hl]
 have e:(Zp cs o)[i]?=some ⟨[],o,getV (tO cs o) i,getV (tO cs o) ((i+1)%(tO cs o).length),nxtV cs o none (addV (getV (tO cs o) i) (getV (tO cs o) ((i+1)%(tO cs o).length)))⟩:=by
  unfold Zp
  rw [Ru,List.getElem?_range (by omega)]
  rfl
 rw [Qe hi] at e
 rw [Sl e]
 exact ⟨rfl,rfl,rfl⟩
structure BmL (h:Hal) (o:V) (n:Nat) (L:List Bm) (c:Nat):Prop where
 c3:3<=c
 cL:c<=L.length
 len:L.length<=2000
 low:∀ i (hi:i<L.length),i<c->L[i].ws=[]
 high:∀ i (hi:i<L.length),c<=i->L[i].ws≠[]
 good:∀ i (hi:i<L.length),GoodB h L[i]/\L[i].ws.length<=n
 mem:∀ i (hi:i<L.length),L[i]∈outB h.cs o n
 round:∀ i (hi:i<c) (h1:i<L.length) (h2:(i+1)%c<L.length),L[i].b=L[(i+1)%c].a
theorem bmL {h:Hal} (g:h.fine) {o:V} (k0:InSrc h o) {n:Nat} (hn:n<=2):BmL h o n (outB h.cs o n) (Zp h.cs o).length:=by
 obtain ⟨rest,e,hr⟩:=Zke g k0 n (by omega)
 have hlen:=Zu2 g k0 hn
 have hg:=Zfj g k0 n (by omega)
 have h3:3<=(Zp h.cs o).length:=by
  unfold Zp
  rw [Qn,Su]
  exact (Zbu g k0).1
 have hlow:∀ i (hi:i<(outB h.cs o n).length) (q:i<(Zp h.cs o).length),(outB h.cs o n)[i]=(Zp h.cs o)[i]:=fun i hi q=>by
  simp only [e]
  rw [List.getElem_append_left q]
 refine ⟨h3,by rw [e,Ro]; omega,hlen,fun i hi q=>?_,fun i hi q=>?_,fun i hi=>hg _ (Qo hi),fun i hi=>Qo hi,fun i hi h1 h2=>?_⟩
 ·rw [hlow i hi q]
  exact (Zil q).1
 ·have hm:(outB h.cs o n)[i]∈rest:=by
   simp only [e]
   rw [List.getElem_append_right q]
   exact Qo _
  exact hr _ hm
 ·have hj:(i+1)%(Zp h.cs o).length<(Zp h.cs o).length:=Nat.mod_lt _ (by omega)
  rw [hlow i h1 hi,hlow _ h2 hj,(Zil hi).2.2,(Zil hj).2.1]
theorem e23n:PCall Tryz.prog 23 [.nils] ⟨.asl 0 0 0,[(1,[])]⟩:=by
 refine pn Zd Tryz.func23 ?_
 repeat'(first|refine wk3 ?_|(refine wk2 ?_ ?_<;>intro _)|fail)
 exact Ym [1] rfl rfl rfl
def cpR (ws:List Int):PRes:=match ws with
 | []=>⟨.asl 0 0 0,[(1,[])]⟩
 | x::r=>⟨.asl 0 0 (nl (x::r)).length,[(1,nl (x::r))]⟩
theorem e23 {ws:List Int} (hl:ws.length<1000):PCall Tryz.prog 23 [wsA ws] (cpR ws):=by
 cases ws with
 | nil=>exact e23n
 | cons x r=>exact c25 (x::r) (by omega)
end Go.Proofs.YtanbhfpalahjcaaGreat
