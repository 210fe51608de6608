/- A part of the proof: lemmas. -/
import Derived.Test.YtanbhfpalahjcaaGreatG11
import Derived.Test.YtanbhfpalahjcaaGreatG6
import Derived.Test.YtanbhfpalahjcaaGreatG7
import Derived.Test.YtanbhfpalahjcaaGreatG10
import Derived.Test.YtanbhfpalahjcaaGreatRows
set_option linter.unusedVariables false
set_option linter.unusedSimpArgs false
set_option maxRecDepth 100000
set_option maxHeartbeats 16000000
open Bool renaming and_eq_true->Qc,eq_iff_iff->Sc,or_eq_true->Ro
open Go.IntKind renaming i64->Qb,wrap->Qa
open Int renaming add_comm->Pi,add_mul->Mf,add_nonneg->Jy,eq_of_mul_eq_mul_right->Wf,le_of_lt->Qg,le_of_mul_le_mul_left->Sw,le_of_mul_le_mul_right->Lb,le_refl->Wy,le_total->Lc,lt_of_mul_lt_mul_left->Sd,lt_of_mul_lt_mul_right->La,lt_or_eq_of_le->Pc,lt_or_gt_of_ne->Dt,lt_or_le->Wc,lt_trichotomy->We,mul_assoc->Lr,mul_comm->Rl,mul_eq_zero->Wv,mul_le_mul_of_nonneg_left->Qw,mul_le_mul_of_nonneg_right->Qk,mul_lt_mul_of_pos_left->Rn,mul_lt_mul_of_pos_right->Wb,mul_neg->Rp,mul_neg_of_pos_of_neg->Ty,mul_nonneg->Qq,mul_nonneg_of_nonpos_of_nonpos->Wg,mul_nonpos_of_nonneg_of_nonpos->Td,mul_nonpos_of_nonpos_of_nonneg->Py,mul_one->Rw,mul_pos->Qv,mul_sub->Hr,mul_zero->Sb,neg_mul->Tq,neg_neg->Wx,not_lt->Mu,one_mul->Sj,sub_mul->Oy,zero_add->Ph,zero_mul->Sq
open List renaming all_eq_true->Rf,mem_cons->Ra,mem_flatMap->Ky,mem_map_of_mem->Jm,mem_range->Rx,mem_reverse->Md,pairwise_cons->Pw,pairwise_reverse->Fg
open Nat renaming beq->Qs,eq_of_beq_eq_true->Qh,le_refl->Qd
namespace Go.Proofs.YtanbhfpalahjcaaGreat
open Go Go.Sx
def bxP:Pl:=⟨⟨⟨[104]⟩⟩,600,⟨⟨[119]⟩⟩,⟨⟨[119]⟩⟩,[[.str ⟨⟨[119]⟩⟩,I 100,I 100,I 100,I 100,I 0]],[(0,0),(1000,0),(1000,2000),(0,2000)],
 [[.str ⟨⟨[97]⟩⟩,.str ⟨⟨[119]⟩⟩,.str ⟨⟨[]⟩⟩],[.str ⟨⟨[98]⟩⟩,.str ⟨⟨[119]⟩⟩,.str ⟨⟨[]⟩⟩],[.str ⟨⟨[99]⟩⟩,.str ⟨⟨[119]⟩⟩,.str ⟨⟨[]⟩⟩],[.str ⟨⟨[100]⟩⟩,.str ⟨⟨[119]⟩⟩,.str ⟨⟨[]⟩⟩]],.nils,.nils⟩
abbrev Yfo (p:Int × Int):List AV:=[.agg bxP.c,rayA 500 1000 (Qa Qb (p.1-500)) (Qa Qb (p.2-1000)) (-1),P2 1 1]
noncomputable def allR (f:FuncId) (v:AV) (l:List (List AV)):Bool:=l.all fun a=>isR v (pcF (exT [233] Zvg) f a)
theorem sB:allR 102 (.bool true) (bxP.ps.map Yfo)=true:=by kernel_rfl
theorem sA:allR 219 (.bool false) (bxP.ps.map Yfo)=true:=by kernel_rfl
theorem Ztg {f:FuncId} {v:AV} {l:List (List AV)} (h:allR f v l=true) {a:List AV} (ha:a∈l):PCall Tryz.prog f a ⟨v,[]⟩:=Zr2 Zl6 (Rf.1 h a ha)
def bxX:List (List AV):=[[P2 (-500) (-1000)],[P2 500 (-1000)],[P2 500 1000],[P2 (-500) 1000]]
theorem Yh8:ItOK Tryz.prog 218 [] [.ipt bxP.c,.ipt [I 500,I 1000],.ipt [I (-1)]] bxX :=
 Yif (q:=bxP) (.inl rfl) (.inl rfl) (by decide) 500 1000 (-1) (fun _=>true) (fun _=>false) (fun p hp=>Ztg sB (Jm hp)) (fun p hp=>Ztg sA (Jm hp))
def itT5:ITab:=fun g c0 c1=>cond (Qs g 218&&(eqL c0 []&&eqL c1 [.ipt bxP.c,.ipt [I 500,I 1000],.ipt [I (-1)]])) (some bxX) (itT g c0 c1)
theorem Yeh:∀ g c0 c1 xs,itT5 g c0 c1=some xs->ItOK Tryz.prog g c0 c1 xs:=by
 intro g c0 c1 xs h
 unfold itT5 at h
 cases hb:(Qs g 218&&(eqL c0 []&&eqL c1 [.ipt bxP.c,.ipt [I 500,I 1000],.ipt [I (-1)]])) with
 | true =>
  rw [hb] at h
  cases h
  simp only [Qc] at hb
  rw [Qh hb.1,Ze2 _ _ hb.2.1,Ze2 _ _ hb.2.2]
  exact Yh8
 | false=>rw [hb] at h; exact Ycc g c0 c1 xs h
noncomputable def exT5 (xs:List Nat) (pt:PC):CF:=exG Tryz.prog (tget tbl) (memN eqs) itT5 (memN xs) pt 1000 60
theorem Zx1 {xs:List Nat} {pt:PC} (hpt:PCOK Tryz.prog pt):CFOK Tryz.prog (exT5 xs pt):=Zj3 Zzq eqOK Yeh mixed hpt 60
theorem Yl {xs:List Nat} {pt:PC} (hpt:PCOK Tryz.prog pt) {f:FuncId} {a:List AV} {v:AV} (h:isR v (pcF (exT5 xs pt) f a)=true):PCall Tryz.prog f a ⟨v,[]⟩:=Zmi (Zx1 hpt) (Ycd h)
mutual
def toFz (bl:List (Nat × List (List AV))):AV->Option AV
 | .asl id 0 len=>match bl[id]? with
  | some (es,els)=>cond (Qs len els.length) (some (.isl es els)) none
  | none=>none
 | .agg cs=>match Ztq bl cs with
  | some ds=>some (.agg ds)
  | none=>none
 | .tup cs=>match Ztq bl cs with
  | some ds=>some (.tup ds)
  | none=>none
 | .int k n=>some (.int k n)
 | .bool b=>some (.bool b)
 | .nils=>some .nils
 | _=>none
def Ztq (bl:List (Nat × List (List AV))):List AV->Option (List AV)
 | []=>some []
 | c::cs=>match toFz bl c,Ztq bl cs with
  | some d,some ds=>some (d::ds)
  | _,_=>none
end
mutual
theorem Zu9 (bl:List (Nat × List (List AV))):∀ (v:AV) {v' : AV},toFz bl v=some v'->Frz bl v v'
 | .asl id 0 len,v',h=>by
  simp only [toFz] at h
  split at h
  ·rename_i es els hb
   obtain ⟨h1,h⟩:=Zd h
   cases h
   exact ⟨hb,rfl,Qh h1⟩
  ·cases h
 | .agg cs,v',h=>by
  simp only [toFz] at h
  split at h
  ·rename_i ds hd
   cases h
   exact Zl0 bl cs hd
  ·cases h
 | .tup cs,v',h=>by
  simp only [toFz] at h
  split at h
  ·rename_i ds hd
   cases h
   exact Zl0 bl cs hd
  ·cases h
 | .int k n,v',h=>by simp only [toFz] at h; cases h; exact ⟨rfl,rfl⟩
 | .bool b,v',h=>by simp only [toFz] at h; cases h; exact ⟨rfl,rfl⟩
 | .nils,v',h=>by simp only [toFz] at h; cases h; exact ⟨rfl,rfl⟩
 | .any,_,h | .flt _ _,_,h | .cpx _ _ _,_,h | .str _,_,h | .ptr _ _ _,_,h | .ipt _,_,h | .nilp,_,h | .bsl _ _ _ _ _,_,h | .isl _ _,_,h | .amap _,_,h | .func _ _ _,_,h | .yld _,_,h | .asl _ (_+1) _,_,h=>by simp [toFz] at h
theorem Zl0 (bl:List (Nat × List (List AV))):∀ (v:List AV) {v' : List AV},Ztq bl v=some v'->FrzL bl v v'
 | [],v',h=>by simp only [Ztq] at h; cases h; exact trivial
 | c::cs,v',h=>by
  simp only [Ztq] at h
  split at h
  ·rename_i d ds h1 h2
   cases h
   exact ⟨Zu9 bl c h1,Zl0 bl cs h2⟩
  ·cases h
end
def isRF (v0:AV):Option PRes->Bool
 | some ⟨v,bl⟩=>match toFz bl v with
  | some u=>eqA u v0
  | none=>false
 | _=>false
theorem Zjd {xs:List Nat} {pt:PC} (hpt:PCOK Tryz.prog pt) {f:FuncId} {a:List AV} {v:AV} (h:isRF v (pcF (exT5 xs pt) f a)=true):PCall Tryz.prog f a ⟨v,[]⟩:=by
 unfold isRF at h
 split at h
 ·rename_i u bl hu
  split at h
  ·rename_i d hd
   rw [<-Zx9 _ _ h]
   exact (Zmi (Zx1 hpt) hu).freeze (Zu9 bl u hd)
  ·cases h
 ·cases h
theorem Yir:isR (.tup [.agg [I 0,I 0],I 0]) (pcF (exT [233] Zvg) 73 [.agg bxP.c])=true:=by kernel_rfl
theorem Yhr:PCall Tryz.prog 73 [.agg bxP.c] ⟨.tup [.agg [I 0,I 0],I 0],[]⟩:=Zr2 Zl6 Yir
noncomputable def boxT:PC:=Zbl 73 [.agg bxP.c] (.tup [.agg [I 0,I 0],I 0]) Zvg
theorem Zyx:PCOK Tryz.prog boxT:=Ym Yhr Zl6
theorem aw77:isR (I 0) (pcF (exT5 [73,233] boxT) 98 [.agg bxP.c,.agg [.nils,.nils]])=true:=by kernel_rfl
noncomputable def t77:PC:=Zbl 98 [.agg bxP.c,.agg [.nils,.nils]] (I 0) boxT
theorem Ybd:PCOK Tryz.prog t77:=Ym (Yl Zyx aw77) Zyx
theorem aw24:isR (I 0) (pcF (exT5 [73,98,233] t77) 60 [.agg bxP.c,.agg [.nils,.nils],.agg [I 300,I 700,I 150,I 300,I 800,I 50,I 2]])=true:=by kernel_rfl
noncomputable def t24:PC:=Zbl 60 [.agg bxP.c,.agg [.nils,.nils],.agg [I 300,I 700,I 150,I 300,I 800,I 50,I 2]] (I 0) t77
theorem Ybh:PCOK Tryz.prog t24:=Ym (Yl Ybd aw24) Ybd
theorem aw64:isR (I 0) (pcF (exT5 [60,73,98,233] t24) 68 [.agg bxP.c,.isl 1 [[I 1]]])=true:=by kernel_rfl
noncomputable def t64:PC:=Zbl 68 [.agg bxP.c,.isl 1 [[I 1]]] (I 0) t24
theorem Ybe:PCOK Tryz.prog t64:=Ym (Yl Ybh aw64) Ybh
theorem Yit:isR (.tup [.agg [I 1000,I 750,I 100,I 1],I 0]) (pcF (exT5 [60,68,73,98,233] t64) 118 [.agg bxP.c,.agg [.nils,.nils],.agg [I 1,I 1700,I 700,I 150,I 300,I 800,I 50,I 1]])=true:=by kernel_rfl
noncomputable def t124:PC:=Zbl 118 [.agg bxP.c,.agg [.nils,.nils],.agg [I 1,I 1700,I 700,I 150,I 300,I 800,I 50,I 1]] (.tup [.agg [I 1000,I 750,I 100,I 1],I 0]) t64
theorem Zvb:PCOK Tryz.prog t124:=Ym (Yl Ybe Yit) Ybe
theorem Yhv:isR (.tup [.bool true,I 0]) (pcF (exT5 [60,68,73,98,118,233] t124) 119 [.agg bxP.c,.agg [.nils,.nils],.agg [I 300,I 700,I 150,I 1,I 1000,I 750,I 100,I 1]])=true:=by kernel_rfl
noncomputable def Yc8:PC:=Zbl 119 [.agg bxP.c,.agg [.nils,.nils],.agg [I 300,I 700,I 150,I 1,I 1000,I 750,I 100,I 1]] (.tup [.bool true,I 0]) t124
theorem Zrm:PCOK Tryz.prog Yc8:=Ym (Yl Zvb Yhv) Zvb
theorem Yhu:isR (.tup [.bool true,I 0]) (pcF (exT5 [60,68,73,98,118,119,233] Yc8) 119 [.agg bxP.c,.agg [.nils,.nils],.agg [I 1000,I 750,I 100,I 1,I 300,I 800,I 50,I 1]])=true:=by kernel_rfl
noncomputable def Yc7:PC:=Zbl 119 [.agg bxP.c,.agg [.nils,.nils],.agg [I 1000,I 750,I 100,I 1,I 300,I 800,I 50,I 1]] (.tup [.bool true,I 0]) Yc8
theorem Zrl:PCOK Tryz.prog Yc7:=Ym (Yl Zrm Yhu) Zrm
theorem Yis:isR (.tup [.agg [I 0,I 1000],I 0]) (pcF (exT5 [60,68,73,98,118,119,233] Yc7) 186 [.agg bxP.c,.agg [.nils,.nils],I 1])=true:=by kernel_rfl
noncomputable def t136:PC:=Zbl 186 [.agg bxP.c,.agg [.nils,.nils],I 1] (.tup [.agg [I 0,I 1000],I 0]) Yc7
theorem Zva:PCOK Tryz.prog t136:=Ym (Yl Zrl Yis) Zrl
theorem aw14:isRF (.tup [.agg [.isl 1 [[I 1]],.isl 4 [[I 1000,I 750,I 100,I 1]],I 1980000],I 0]) (pcF (exT5 [60,68,73,98,118,119,186,233] t136) 34 [.agg bxP.c,.agg [.nils,.nils],.agg [I 300,I 700,I 150,I 300,I 800,I 50,I 2],.isl 1 [[I 1]]])=true:=by kernel_rfl
noncomputable def t14:PC:=Zbl 34 [.agg bxP.c,.agg [.nils,.nils],.agg [I 300,I 700,I 150,I 300,I 800,I 50,I 2],.isl 1 [[I 1]]] (.tup [.agg [.isl 1 [[I 1]],.isl 4 [[I 1000,I 750,I 100,I 1]],I 1980000],I 0]) t136
theorem Ybi:PCOK Tryz.prog t14:=Ym (Zjd Zva aw14) Zva
theorem aw38:isR (.tup [.agg [I 4159,I 4160],I 0]) (pcF (exT5 [34,60,68,73,98,118,119,186,233] t14) 37 [.agg [.nils,.nils,I 20000],I 34000])=true:=by kernel_rfl
noncomputable def t38:PC:=Zbl 37 [.agg [.nils,.nils,I 20000],I 34000] (.tup [.agg [I 4159,I 4160],I 0]) t14
theorem Ybg:PCOK Tryz.prog t38:=Ym (Yl Ybi aw38) Ybi
theorem Yiu:isR (.tup [.agg bxP.c,I 0]) (pcF (exT5 [34,37,60,68,73,98,118,119,186,233] t38) 49 [.agg bxP.c,.agg [I 500,I 1000],I 0])=true:=by kernel_rfl
noncomputable def t117:PC:=Zbl 49 [.agg bxP.c,.agg [I 500,I 1000],I 0] (.tup [.agg bxP.c,I 0]) t38
theorem Zvc:PCOK Tryz.prog t117:=Ym (Yl Ybg Yiu) Ybg
theorem awn0:isR (.tup [.agg [I 1000000,I 4000,I 2,.bool true],.bool true]) (pcF (exT5 [34,37,49,60,68,73,98,118,119,186,233] t117) 44 [.agg bxP.c,.agg [I 500,I 1000,I 0,I 4,I (-1)]])=true:=by kernel_rfl
noncomputable def tn0:PC:=Zbl 44 [.agg bxP.c,.agg [I 500,I 1000,I 0,I 4,I (-1)]] (.tup [.agg [I 1000000,I 4000,I 2,.bool true],.bool true]) t117
theorem Ybb:PCOK Tryz.prog tn0:=Ym (Yl Zvc awn0) Zvc
theorem awn1:isR (.tup [.agg [I 1000000,I 4000,I 3,.bool true],.bool true]) (pcF (exT5 [34,37,44,49,60,68,73,98,118,119,186,233] tn0) 44 [.agg bxP.c,.agg [I 500,I 1000,I (-2),I 0,I (-1)]])=true:=by kernel_rfl
noncomputable def tn1:PC:=Zbl 44 [.agg bxP.c,.agg [I 500,I 1000,I (-2),I 0,I (-1)]] (.tup [.agg [I 1000000,I 4000,I 3,.bool true],.bool true]) tn0
theorem Yba:PCOK Tryz.prog tn1:=Ym (Yl Ybb awn1) Ybb
theorem awn2:isR (.tup [.agg [I 1000000,I 4000,I 0,.bool true],.bool true]) (pcF (exT5 [34,37,44,49,60,68,73,98,118,119,186,233] tn1) 44 [.agg bxP.c,.agg [I 500,I 1000,I 0,I (-4),I (-1)]])=true:=by kernel_rfl
noncomputable def tn2:PC:=Zbl 44 [.agg bxP.c,.agg [I 500,I 1000,I 0,I (-4),I (-1)]] (.tup [.agg [I 1000000,I 4000,I 0,.bool true],.bool true]) tn1
theorem Ya9:PCOK Tryz.prog tn2:=Ym (Yl Yba awn2) Yba
theorem awn3:isR (.tup [.agg [I 1000000,I 4000,I 1,.bool true],.bool true]) (pcF (exT5 [34,37,44,49,60,68,73,98,118,119,186,233] tn2) 44 [.agg bxP.c,.agg [I 500,I 1000,I 2,I 0,I (-1)]])=true:=by kernel_rfl
noncomputable def tn3:PC:=Zbl 44 [.agg bxP.c,.agg [I 500,I 1000,I 2,I 0,I (-1)]] (.tup [.agg [I 1000000,I 4000,I 1,.bool true],.bool true]) tn2
theorem Ya8:PCOK Tryz.prog tn3:=Ym (Yl Ya9 awn3) Ya9
theorem awr0:isR (.tup [.agg [I 1000000,I 2000,I 1,.bool true],.bool true]) (pcF (exT5 [34,37,44,49,60,68,73,98,118,119,186,233] tn3) 44 [.agg bxP.c,.agg [I 500,I 1000,I 1,I 0,I (-1)]])=true:=by kernel_rfl
noncomputable def tr0:PC:=Zbl 44 [.agg bxP.c,.agg [I 500,I 1000,I 1,I 0,I (-1)]] (.tup [.agg [I 1000000,I 2000,I 1,.bool true],.bool true]) tn3
theorem Ya6:PCOK Tryz.prog tr0:=Ym (Yl Ya8 awr0) Ya8
theorem awr1:isR (.tup [.agg [I 3000000,I 2000,I 3,.bool true],.bool true]) (pcF (exT5 [34,37,44,49,60,68,73,98,118,119,186,233] tr0) 44 [.agg bxP.c,.agg [I 1500,I 1000,I (-1),I 0,I 1]])=true:=by kernel_rfl
noncomputable def tr1:PC:=Zbl 44 [.agg bxP.c,.agg [I 1500,I 1000,I (-1),I 0,I 1]] (.tup [.agg [I 3000000,I 2000,I 3,.bool true],.bool true]) tr0
theorem Ya5:PCOK Tryz.prog tr1:=Ym (Yl Ya6 awr1) Ya6
theorem awr2:isR (.tup [.agg [I 5000000,I 2000,I 1,.bool true],.bool true]) (pcF (exT5 [34,37,44,49,60,68,73,98,118,119,186,233] tr1) 44 [.agg bxP.c,.agg [I (-1500),I 1000,I 1,I 0,I 3]])=true:=by kernel_rfl
noncomputable def tr2:PC:=Zbl 44 [.agg bxP.c,.agg [I (-1500),I 1000,I 1,I 0,I 3]] (.tup [.agg [I 5000000,I 2000,I 1,.bool true],.bool true]) tr1
theorem Ya4:PCOK Tryz.prog tr2:=Ym (Yl Ya5 awr2) Ya5
theorem aw61:isRF (.tup [.isl 8 [[.nils,I 500,I 1000,I 1,I 2,I (-1),I 2,I 2],[.nils,I 500,I 1000,I (-1),I 2,I (-1),I (-2),I 3],[.nils,I 500,I 1000,I (-1),I (-2),I 1,I (-2),I 0],[.nils,I 500,I 1000,I 1,I (-2),I 1,I 2,I 1]],I 0]) (pcF (exT5 [34,37,44,49,60,68,73,98,118,119,186,233] tr2) 17 [.agg bxP.c,.agg [I 500,I 1000],I 0])=true:=by kernel_rfl
noncomputable def t61:PC:=Zbl 17 [.agg bxP.c,.agg [I 500,I 1000],I 0] (.tup [.isl 8 [[.nils,I 500,I 1000,I 1,I 2,I (-1),I 2,I 2],[.nils,I 500,I 1000,I (-1),I 2,I (-1),I (-2),I 3],[.nils,I 500,I 1000,I (-1),I (-2),I 1,I (-2),I 0],[.nils,I 500,I 1000,I 1,I (-2),I 1,I 2,I 1]],I 0]) tr2
theorem Ybf:PCOK Tryz.prog t61:=Ym (Zjd Ya4 aw61) Ya4
theorem aw62:isRF (.tup [.isl 1 [[I 1],[I 3],[I 1]],I 0]) (pcF (exT5 [17,34,37,44,49,60,68,73,98,118,119,186,233] t61) 9 [.agg bxP.c,.agg [I 500,I 1000],.agg [I 1,I 0],I 3])=true:=by kernel_rfl
noncomputable def t62:PC:=Zbl 9 [.agg bxP.c,.agg [I 500,I 1000],.agg [I 1,I 0],I 3] (.tup [.isl 1 [[I 1],[I 3],[I 1]],I 0]) t61
theorem Yfh:PCOK Tryz.prog t62:=Ym (Zjd Ybf aw62) Ybf
theorem aw12:isR (.bool true) (pcF (exT5 [9,17,34,37,44,49,60,68,73,98,118,119,186,233] t62) 7 [])=true:=by kernel_rfl
theorem Yax:PCall Tryz.prog 7 [] ⟨.bool true,[]⟩:=Yl Yfh aw12
theorem own:ownKnob Tryz.prog.godebug=none:=by kernel_rfl
theorem Yef:laidOutB Tryz.prog=true:=by kernel_rfl
theorem Yik:laidOutB Tryz.checked.prog=true:=by kernel_rfl
theorem Yii:mapsRowed Tryz.checked.prog=true:=by kernel_rfl
theorem Yhb:Tryz.checked.prog.plainKeys=Rows.imageFollowsRow.plainKeys:=by kernel_rfl
theorem Yhe:Tryz.checked.prog.stopsHeard=true:=by kernel_rfl
theorem fMay:Tryz.checked.prog.mayEnter=true:=by kernel_rfl
theorem Yhc:Tryz.checked.prog.liftsFinal=Rows.imageFollowsRow.lifted:=by kernel_rfl
theorem Yij:Tryz.checked.prog.make=some Rows.imageFollowsRow.make:=by kernel_rfl
theorem Zwm {a b c:Int} (hc:0<c):a*c<b*c↔a<b:=⟨fun h=>La h (by omega),fun h=>Wb h hc⟩
theorem Zwp {a b c:Int} (hc:0<c):a*c<=b*c↔a<=b:=⟨fun h=>Lb h hc,fun h=>Qk h (by omega)⟩
theorem Znu {a c:Int} (hc:0<c):0<c*a↔0<a:=by rw [Rl]; have:=Zwm (a:=0) (b:=a) hc; rwa [Sq] at this
theorem Zwl {a c:Int} (hc:0<c):c*a<0↔a<0:=by rw [Rl]; have:=Zwm (a:=a) (b:=0) hc; rwa [Sq] at this
theorem nn_l {a c:Int} (hc:0<c):0<=c*a↔0<=a:=by rw [Rl]; have:=Zwp (a:=0) (b:=a) hc; rwa [Sq] at this
theorem np_l {a c:Int} (hc:0<c):c*a<=0↔a<=0:=by rw [Rl]; have:=Zwp (a:=a) (b:=0) hc; rwa [Sq] at this
structure P2d where
 x:Int
 y:Int
 d:Int
def bsP (w:Wl) (sx sy:Int) (p:P2d):Int:=bes w sx sy p.x p.y p.d
theorem onR {w:Wl} {n sx sy x y d:Int} (h:Str w n sx sy) (hd:0<d) (ho:onW w n sx sy x y d):∃ t,0<=t/\t<=n*d/\x=w.fx*d+t*sx/\y=w.fy*d+t*sy:=by
 unfold onW bes alo at ho
 have hn:=h.hn
 have hxy:=h.hxy
 rcases h.hx with rfl|rfl|rfl<;>rcases h.hy with rfl|rfl|rfl<;>(try (exact absurd ⟨rfl,rfl⟩ hxy))<;>simp only [Sb,Rw,Rp,Sq,Tq,Sj,Wx,Ph,Int.add_zero] at ho ⊢
 ·exact ⟨y-w.fy*d,by omega,by omega,by omega,by omega⟩
 ·exact ⟨w.fy*d-y,by omega,by omega,by omega,by omega⟩
 ·exact ⟨x-w.fx*d,by omega,by omega,by omega,by omega⟩
 ·exact ⟨x-w.fx*d,by omega,by rw [show n*(1+1)*d=2*(n*d) by grind] at ho; omega,by omega,by omega⟩
 ·exact ⟨x-w.fx*d,by omega,by rw [show n*(1+1)*d=2*(n*d) by grind] at ho; omega,by omega,by omega⟩
 ·exact ⟨w.fx*d-x,by omega,by omega,by omega,by omega⟩
 ·exact ⟨w.fx*d-x,by omega,by rw [show n*(1+1)*d=2*(n*d) by grind] at ho; omega,by omega,by omega⟩
 ·exact ⟨w.fx*d-x,by omega,by rw [show n*(1+1)*d=2*(n*d) by grind] at ho; omega,by omega,by omega⟩
theorem qpos {w:Wl} {n sx sy:Int} (h:Str w n sx sy):0<sx*sx+sy*sy:=by
 have hxy:=h.hxy
 rcases h.hx with rfl|rfl|rfl<;>rcases h.hy with rfl|rfl|rfl<;>(try (exact absurd ⟨rfl,rfl⟩ hxy))<;>decide
theorem Zf1 {w:Wl} {n sx sy x y d v:Int} (h:Str w n sx sy) (hd:0<d) (h1:d*(x-w.fx)=v*sx) (h2:d*(y-w.fy)=v*sy) (v0:0<=v) (v1:v<=n*d):onW w n sx sy x y 1:=by
 have q:=qpos h
 unfold onW bes alo
 rw [Rw,Rw,Rw]
 have e0:d*(sx*(y-w.fy)-sy*(x-w.fx))=0:=by
  have:d*(sx*(y-w.fy)-sy*(x-w.fx))=sx*(d*(y-w.fy))-sy*(d*(x-w.fx)):=by grind
  rw [this,h1,h2]; grind
 have e1:d*(sx*(x-w.fx)+sy*(y-w.fy))=v*(sx*sx+sy*sy):=by
  have:d*(sx*(x-w.fx)+sy*(y-w.fy))=sx*(d*(x-w.fx))+sy*(d*(y-w.fy)):=by grind
  rw [this,h1,h2]; grind
 refine ⟨?_,?_,?_⟩
 ·rcases Wv.1 e0 with h|h
  ·omega
  ·exact h
 ·refine (nn_l hd).1 ?_
  rw [e1]; exact Qq v0 (by omega)
 ·refine Sw (a:=d) ?_ hd
  rw [e1,show d*(n*(sx*sx+sy*sy))=n*d*(sx*sx+sy*sy) by grind]
  exact Qk v1 (by omega)
theorem dbes (d:Int) (w:Wl) (sx sy x y:Int):d*bes w sx sy x y 1=sx*(d*(y-w.fy))-sy*(d*(x-w.fx)):=by unfold bes; grind
theorem idA (u t sx sy tx ty:Int):tx*(u*ty-t*sy)-ty*(u*tx-t*sx) = -(t*(tx*sy-ty*sx)):=by grind
theorem idB (u t k sx sy tx ty:Int):tx*(u*ty-t*sy+k*sy)-ty*(u*tx-t*sx+k*sx)=(k-t)*(tx*sy-ty*sx):=by grind
theorem idC (u t sx sy tx ty:Int):sx*(t*sy-u*ty)-sy*(t*sx-u*tx)=u*(tx*sy-ty*sx):=by grind
theorem idD (u t k sx sy tx ty:Int):sx*(t*sy-u*ty+k*ty)-sy*(t*sx-u*tx+k*tx) = -((k-u)*(tx*sy-ty*sx)):=by grind
theorem Zhn {w o:Wl} {n sx sy m tx ty x y d:Int} (h:Str w n sx sy) (g:Str o m tx ty) (hd:0<d) (h1:onW w n sx sy x y d) (h2:onW o m tx ty x y d):o.touches w=true:=by
 obtain ⟨t,t0,t1,ex,ey⟩:=onR h hd h1
 obtain ⟨u,u0,u1,fx,fy⟩:=onR g hd h2
 have ax:=h.tx
 have ay:=h.ty
 have bx:=g.tx
 have cy:=g.ty
 rw [Zne g h]
 have kx:d*(w.fx-o.fx)=u*tx-t*sx:=by rw [Hr,Rl d,Rl d]; omega
 have ky:d*(w.fy-o.fy)=u*ty-t*sy:=by rw [Hr,Rl d,Rl d]; omega
 have lx:d*(o.fx-w.fx)=t*sx-u*tx:=by rw [Hr,Rl d,Rl d]; omega
 have ly:d*(o.fy-w.fy)=t*sy-u*ty:=by rw [Hr,Rl d,Rl d]; omega
 have mx:d*(w.tx-o.fx)=u*tx-t*sx+n*d*sx:=by
  rw [ax,show d*(w.fx+n*sx-o.fx)=d*(w.fx-o.fx)+n*d*sx by clear ex ey fx fy kx ky lx ly; grind,kx]
 have my:d*(w.ty-o.fy)=u*ty-t*sy+n*d*sy:=by
  rw [ay,show d*(w.fy+n*sy-o.fy)=d*(w.fy-o.fy)+n*d*sy by clear ex ey fx fy kx ky lx ly mx; grind,ky]
 have nx:d*(o.tx-w.fx)=t*sx-u*tx+m*d*tx:=by
  rw [bx,show d*(o.fx+m*tx-w.fx)=d*(o.fx-w.fx)+m*d*tx by clear ex ey fx fy kx ky lx ly mx my; grind,lx]
 have ny:d*(o.ty-w.fy)=t*sy-u*ty+m*d*ty:=by
  rw [cy,show d*(o.fy+m*ty-w.fy)=d*(o.fy-w.fy)+m*d*ty by clear ex ey fx fy kx ky lx ly mx my nx; grind,ly]
 clear ex ey fx fy ax ay bx cy h1 h2
 by_cases ta:t=0
 ·exact .inr (.inl (Zf1 g hd (v:=u) (by rw [kx,ta]; omega) (by rw [ky,ta]; omega) u0 u1))
 by_cases tb:t=n*d
 ·exact .inr (.inr (.inl (Zf1 g hd (v:=u) (by rw [mx,tb]; omega) (by rw [my,tb]; omega) u0 u1)))
 by_cases ua:u=0
 ·exact .inr (.inr (.inr (.inl (Zf1 h hd (v:=t) (by rw [lx,ua]; omega) (by rw [ly,ua]; omega) t0 t1))))
 by_cases ub:u=m*d
 ·exact .inr (.inr (.inr (.inr (Zf1 h hd (v:=t) (by rw [nx,ub]; omega) (by rw [ny,ub]; omega) t0 t1))))
 by_cases hc:tx*sy-ty*sx=0
 ·
  refine .inr ?_
  have hpar:(tx=sx/\ty=sy)\/(tx = -sx/\ty = -sy):=by
   have hxy:=h.hxy
   have gxy:=g.hxy
   have q1:=h.hx
   have q2:=h.hy
   have q3:=g.hx
   have q4:=g.hy
   clear h g kx ky lx ly mx my nx ny
   rcases q1 with rfl|rfl|rfl<;>rcases q2 with rfl|rfl|rfl<;>rcases q3 with rfl|rfl|rfl<;>rcases q4 with rfl|rfl|rfl<;>first|decide|(exfalso; revert hc; decide)|(exfalso; exact hxy ⟨rfl,rfl⟩)|(exfalso; exact gxy ⟨rfl,rfl⟩)
  clear hc
  rcases hpar with ⟨p1,p2⟩|⟨p1,p2⟩
  ·rw [p1] at kx lx
   rw [p2] at ky ly
   by_cases c:t<=u
   ·exact .inl (Zf1 g hd (v:=u-t) (by rw [kx,p1,Oy]) (by rw [ky,p2,Oy]) (by omega) (by omega))
   ·exact .inr (.inr (.inl (Zf1 h hd (v:=t-u) (by rw [lx,Oy]) (by rw [ly,Oy]) (by omega) (by omega))))
  ·rw [p1,Rp] at kx mx nx
   rw [p2,Rp] at ky my ny
   rw [Rp] at nx ny
   by_cases c:u+t<=m*d
   ·exact .inl (Zf1 g hd (v:=u+t) (by rw [kx,p1,Rp,Mf]; omega) (by rw [ky,p2,Rp,Mf]; omega) (by omega) (by omega))
   ·by_cases c2:n*d<=u+t
    ·exact .inr (.inl (Zf1 g hd (v:=u+t-n*d) (by rw [mx,p1,Rp,Oy,Mf]; omega) (by rw [my,p2,Rp,Oy,Mf]; omega) (by omega) (by omega)))
    ·exact .inr (.inr (.inr (Zf1 h hd (v:=u+t-m*d) (by rw [nx,Oy,Mf]; omega) (by rw [ny,Oy,Mf]; omega) (by omega) (by omega))))
 ·refine .inl ⟨?_,?_⟩
  ·have e1:d*bes o tx ty w.fx w.fy 1 = -(t*(tx*sy-ty*sx)):=by rw [dbes,kx,ky,idA]
   have e2:d*bes o tx ty w.tx w.ty 1=(n*d-t)*(tx*sy-ty*sx):=by rw [dbes,mx,my,idB]
   rcases Dt hc with c|c
   ·refine .inr ⟨(Znu hd).1 ?_,(Zwl hd).1 ?_⟩
    ·rw [e1]
     have:=Ty (a:=t) (by omega) c
     omega
    ·rw [e2]; exact Ty (by omega) c
   ·refine .inl ⟨(Zwl hd).1 ?_,(Znu hd).1 ?_⟩
    ·rw [e1]
     have:=Qv (a:=t) (by omega) c
     omega
    ·rw [e2]; exact Qv (by omega) c
  ·have e1:d*bes w sx sy o.fx o.fy 1=u*(tx*sy-ty*sx):=by rw [dbes,lx,ly,idC]
   have e2:d*bes w sx sy o.tx o.ty 1 = -((m*d-u)*(tx*sy-ty*sx)):=by rw [dbes,nx,ny,idD]
   rcases Dt hc with c|c
   ·refine .inl ⟨(Zwl hd).1 ?_,(Znu hd).1 ?_⟩
    ·rw [e1]; exact Ty (by omega) c
    ·rw [e2]
     have:=Ty (a:=m*d-u) (by omega) c
     omega
   ·refine .inr ⟨(Znu hd).1 ?_,(Zwl hd).1 ?_⟩
    ·rw [e1]; exact Qv (by omega) c
    ·rw [e2]
     have:=Qv (a:=m*d-u) (by omega) c
     omega
theorem Zzc {a b:Wl} {n sx sy m tx ty x y d:Int} (h:Str a n sx sy) (g:Str b m tx ty) (hc:b.fx=a.tx/\b.fy=a.ty) (nb:a.turnsBack b=false) (hd:0<d) (h1:onW a n sx sy x y d) (h2:onW b m tx ty x y d):x=a.tx*d/\y=a.ty*d:=by
 obtain ⟨t,t0,t1,ex,ey⟩:=onR h hd h1
 obtain ⟨u,u0,u1,fx,fy⟩:=onR g hd h2
 rw [hc.1] at fx
 rw [hc.2] at fy
 have k1:u*tx = -((n*d-t)*sx):=by rw [h.tx] at fx; grind
 have k2:u*ty = -((n*d-t)*sy):=by rw [h.ty] at fy; grind
 have nb' : ¬ (tx = -sx/\ty = -sy):=fun hh=>by rw [(Ziu h g).2 hh] at nb; cases nb
 suffices hz:u=0 by subst hz; rw [fx,fy]; omega
 have v0:0<=n*d-t:=by omega
 generalize n*d-t=v at *
 have hxy:=h.hxy
 have gxy:=g.hxy
 rcases h.hx with rfl|rfl|rfl<;>rcases h.hy with rfl|rfl|rfl<;>(try (exact absurd ⟨rfl,rfl⟩ hxy))<;>rcases g.hx with rfl|rfl|rfl<;>rcases g.hy with rfl|rfl|rfl<;>(try (exact absurd ⟨rfl,rfl⟩ gxy))<;>first|(exfalso; exact nb' (by decide))|(simp only [Sb,Rw,Rp,Wx,Int.neg_zero] at k1 k2; omega)
theorem Zmj {h:Hal} (g:h.fine) {i j:Nat} (hij:i<j) (hj:j<h.cs.length):Za9 h.cs.length (wlOf h.cs i) (wlOf h.cs j)=true:=by
 have s:=g.simple
 unfold Xt at s
 have m:∀ k,k<h.cs.length->wlOf h.cs k∈wls h.cs:=fun k hk=>Jm (Rx.2 hk)
 exact Rf.1 (Rf.1 s _ (m i (by omega))) _ (m j hj)
theorem Zrr {h:Hal} (g:h.fine) {i j:Nat} (hij:i<j) (hj:j<h.cs.length) {n sx sy m tx ty x y d:Int} (hi:Str (wlOf h.cs i) n sx sy) (hjs:Str (wlOf h.cs j) m tx ty) (hd:0<d) (h1:onW (wlOf h.cs i) n sx sy x y d) (h2:onW (wlOf h.cs j) m tx ty x y d) :
  ((x=(wlOf h.cs i).fx*d/\y=(wlOf h.cs i).fy*d)\/(x=(wlOf h.cs i).tx*d/\y=(wlOf h.cs i).ty*d))/\((x=(wlOf h.cs j).fx*d/\y=(wlOf h.cs j).fy*d)\/(x=(wlOf h.cs j).tx*d/\y=(wlOf h.cs j).ty*d)):=by
 have p:=Zmj g hij hj
 have l3:=g.le.2.1
 have l12:h.cs.length<=12:=by have:=g.le; omega
 have tt:=Zhn hi hjs hd h1 h2
 have tt2:=Zhn hjs hi hd h2 h1
 have e1:∀ k:Nat,(wlOf h.cs k).n=(k:Int):=fun k=>rfl
 have ef:(wlOf h.cs j).fx=(cor h.cs j).1/\(wlOf h.cs j).fy=(cor h.cs j).2:=⟨rfl,rfl⟩
 have ef' : (wlOf h.cs i).fx=(cor h.cs i).1/\(wlOf h.cs i).fy=(cor h.cs i).2:=⟨rfl,rfl⟩
 have et:(wlOf h.cs i).tx=(cor h.cs ((i+1)%h.cs.length)).1/\(wlOf h.cs i).ty=(cor h.cs ((i+1)%h.cs.length)).2:=⟨rfl,rfl⟩
 have et' : (wlOf h.cs j).tx=(cor h.cs ((j+1)%h.cs.length)).1/\(wlOf h.cs j).ty=(cor h.cs ((j+1)%h.cs.length)).2:=⟨rfl,rfl⟩
 unfold Za9 at p
 rw [e1,e1,decide_eq_false (by omega:¬ (j:Int)<=(i:Int)),Bool.false_or,tt2,W_eq (n:=(i:Int)+1) (by omega) (by omega),W_eq (n:=(h.cs.length:Int)-1) (by omega) (by omega)] at p
 by_cases c1:(j:Int)=i+1
 ·have hji:j=i+1:=by omega
  have nb:(wlOf h.cs i).turnsBack (wlOf h.cs j)=false:=by
   cases hb:(wlOf h.cs i).turnsBack (wlOf h.cs j)
   ·rfl
   ·rw [decide_eq_true c1,hb] at p; simp at p
  have hc:(wlOf h.cs j).fx=(wlOf h.cs i).tx/\(wlOf h.cs j).fy=(wlOf h.cs i).ty:=by
   rw [ef.1,ef.2,et.1,et.2,Nat.mod_eq_of_lt (by omega:i+1<h.cs.length),hji]
   exact ⟨rfl,rfl⟩
  have r:=Zzc hi hjs hc nb hd h1 h2
  refine ⟨.inr r,.inl ?_⟩
  rw [hc.1,hc.2]; exact r
 ·rw [decide_eq_false c1] at p
  by_cases c2:(i:Int)=0/\(j:Int)=(h.cs.length:Int)-1
  ·have nb:(wlOf h.cs j).turnsBack (wlOf h.cs i)=false:=by
    cases hb:(wlOf h.cs j).turnsBack (wlOf h.cs i)
    ·rfl
    ·rw [decide_eq_true c2.1,decide_eq_true c2.2,hb] at p; simp at p
   have hc:(wlOf h.cs i).fx=(wlOf h.cs j).tx/\(wlOf h.cs i).fy=(wlOf h.cs j).ty:=by
    rw [ef'.1,ef'.2,et'.1,et'.2,show (j+1)%h.cs.length=i by rw [show j+1=h.cs.length by omega,Nat.mod_self]; omega]
    exact ⟨rfl,rfl⟩
   have r:=Zzc hjs hi hc nb hd h2 h1
   refine ⟨.inl ?_,.inr r⟩
   rw [hc.1,hc.2]; exact r
  ·exfalso
   rw [show (decide ((i:Int)=0)&&decide ((j:Int)=(h.cs.length:Int)-1))=false by rw [<-Bool.decide_and,decide_eq_false c2]] at p
   simp at p
theorem Zi2 {h:Hal} (g:h.fine) {i j:Nat} (hij:i≠j) (hil:i<h.cs.length) (hjl:j<h.cs.length) {n sx sy m tx ty x y d:Int} (hi:Str (wlOf h.cs i) n sx sy) (hjs:Str (wlOf h.cs j) m tx ty) (hd:0<d) (h1:onW (wlOf h.cs i) n sx sy x y d) (h2:onW (wlOf h.cs j) m tx ty x y d) :
  (x=(wlOf h.cs i).fx*d/\y=(wlOf h.cs i).fy*d)\/(x=(wlOf h.cs i).tx*d/\y=(wlOf h.cs i).ty*d):=by
 rcases Nat.lt_or_gt_of_ne hij with c|c
 ·exact (Zrr g c hjl hi hjs hd h1 h2).1
 ·exact (Zrr g c hil hjs hi hd h2 h1).2
structure Ry where
 x:Int
 y:Int
 dx:Int
 dy:Int
structure RyB (r:Ry):Prop where
 x : -45000<=r.x/\r.x<=45000
 y : -45000<=r.y/\r.y<=45000
 dx : -100000<=r.dx/\r.dx<=100000
 dy : -100000<=r.dy/\r.dy<=100000
def gW (sx sy:Int) (r:Ry):Int:=sx*r.dy-sy*r.dx
def fW (w:Wl) (sx sy:Int) (r:Ry):Int:=sx*(r.y-w.fy)-sy*(r.x-w.fx)
def xW (w:Wl) (r:Ry):Int:=r.dx*(w.fy-r.y)-r.dy*(w.fx-r.x)
def yW (w:Wl) (r:Ry):Int:=r.dx*(w.ty-r.y)-r.dy*(w.tx-r.x)
def aW (w:Wl) (sx sy:Int) (r:Ry):Int:=sx*(r.x-w.fx)+sy*(r.y-w.fy)
theorem Zu0 {w:Wl} {n sx sy:Int} (h:Str w n sx sy) (r:Ry):yW w r=xW w r-n*gW sx sy r:=by
 unfold yW xW gW; rw [h.tx,h.ty]; grind
theorem Zza (w:Wl) (sx sy:Int) (r:Ry):aW w sx sy r*gW sx sy r-fW w sx sy r*(sx*r.dx+sy*r.dy)=(sx*sx+sy*sy)*xW w r:=by
 unfold aW gW fW xW; grind
structure Ht where
 nu:Int
 de:Int
 on:Bool
 well:Bool
def htN (w:Wl) (n sx sy:Int) (r:Ry):Option Ht :=
 if gW sx sy r=0 then none else if gW sx sy r<0 then
  some ⟨fW w sx sy r,-gW sx sy r,decide (xW w r<=0)&&decide (0<=yW w r),decide (xW w r<0)&&decide (0<yW w r)⟩
 else some ⟨-fW w sx sy r,gW sx sy r,decide (0<=xW w r)&&decide (yW w r<=0),decide (0<xW w r)&&decide (yW w r<0)⟩
def htW (w:Wl) (r:Ry):Option Ht:=htN w w.ln.n w.ln.sx w.ln.sy r
theorem Vn {w:Wl} {n sx sy:Int} (h:Str w n sx sy) (r:Ry):htW w r=htN w n sx sy r:=by
 obtain ⟨_,_,h1,h2,h3⟩:=h.ln
 unfold htW; rw [h1,h2,h3]
structure HtB (n:Int) (x:Ht):Prop where
 de:0<x.de/\x.de<=200000
 nu : -100000<=x.nu/\x.nu<=100000
theorem Zjy {w:Wl} {n sx sy:Int} (h:Str w n sx sy) {r:Ry} (b:RyB r) {x:Ht} (e:htN w n sx sy r=some x):HtB n x:=by
 have b1:=h.b1
 have b2:=h.b2
 obtain ⟨p1,p2,p3,p4⟩:=b
 have q:(-200000<=gW sx sy r/\gW sx sy r<=200000)/\(-100000<=fW w sx sy r/\fW w sx sy r<=100000):=by
  unfold gW fW
  rcases h.hx with rfl|rfl|rfl<;>rcases h.hy with rfl|rfl|rfl<;>simp only [Sq,Sj,Tq]<;>omega
 unfold htN at e
 split at e
 ·cases e
 ·split at e<;>cases e<;>exact ⟨by dsimp only; omega,by dsimp only; omega⟩
theorem Zxd {w:Wl} {n sx sy:Int} (h:Str w n sx sy) {r:Ry} {x:Ht} (e:htN w n sx sy r=some x) (ho:x.on=true):onW w n sx sy (r.x*x.de+x.nu*r.dx) (r.y*x.de+x.nu*r.dy) x.de:=by
 have q:=qpos h
 have hy:=Zu0 h r
 have ha:=Zza w sx sy r
 unfold htN at e
 split at e
 ·cases e
 rename_i hg
 unfold onW
 split at e<;>cases e<;>dsimp only at ho ⊢ <;> rw [Qc] at ho<;>obtain ⟨o1,o2⟩:=ho<;>have o1:=of_decide_eq_true o1<;>have o2:=of_decide_eq_true o2
 ·have eal:alo w sx sy (r.x * -gW sx sy r+fW w sx sy r*r.dx) (r.y * -gW sx sy r+fW w sx sy r*r.dy) (-gW sx sy r)=(sx*sx+sy*sy) * -xW w r:=by
   unfold alo
   have:sx*(r.x * -gW sx sy r+fW w sx sy r*r.dx-w.fx * -gW sx sy r)+sy*(r.y * -gW sx sy r+fW w sx sy r*r.dy-w.fy * -gW sx sy r) = -(aW w sx sy r*gW sx sy r-fW w sx sy r*(sx*r.dx+sy*r.dy)):=by unfold aW; grind
   rw [this,ha]; grind
  refine ⟨by unfold bes fW gW; grind,?_,?_⟩
  ·rw [eal]; exact Qq (by omega) (by omega)
  ·rw [eal,show n*(sx*sx+sy*sy) * -gW sx sy r=(sx*sx+sy*sy) * -(n*gW sx sy r) by grind]
   exact Qw (by omega) (by omega)
 ·have eal:alo w sx sy (r.x*gW sx sy r + -fW w sx sy r*r.dx) (r.y*gW sx sy r + -fW w sx sy r*r.dy) (gW sx sy r)=(sx*sx+sy*sy)*xW w r:=by
   unfold alo
   have:sx*(r.x*gW sx sy r + -fW w sx sy r*r.dx-w.fx*gW sx sy r)+sy*(r.y*gW sx sy r + -fW w sx sy r*r.dy-w.fy*gW sx sy r)=aW w sx sy r*gW sx sy r-fW w sx sy r*(sx*r.dx+sy*r.dy):=by unfold aW; grind
   rw [this,ha]
  refine ⟨by unfold bes fW gW; grind,?_,?_⟩
  ·rw [eal]; exact Qq (by omega) (by omega)
  ·rw [eal,show n*(sx*sx+sy*sy)*gW sx sy r=(sx*sx+sy*sy)*(n*gW sx sy r) by grind]
   exact Qw (by omega) (by omega)
theorem Zxe {w:Wl} {n sx sy:Int} (h:Str w n sx sy) {r:Ry} {x:Ht} (e:htN w n sx sy r=some x)
  (he:(r.x*x.de+x.nu*r.dx=w.fx*x.de/\r.y*x.de+x.nu*r.dy=w.fy*x.de)\/(r.x*x.de+x.nu*r.dx=w.tx*x.de/\r.y*x.de+x.nu*r.dy=w.ty*x.de)):x.well=false:=by
 have k:∀ a b u v:Int,r.x*u+v*r.dx=a*u->r.y*u+v*r.dy=b*u->u*(r.dx*(b-r.y)-r.dy*(a-r.x))=0:=fun a b u v h1 h2=>by grind
 have hd:x.de≠0:=by
  unfold htN at e
  split at e
  ·cases e
  ·split at e<;>cases e<;>dsimp only<;>omega
 have z:xW w r=0\/yW w r=0:=by
  rcases he with ⟨h1,h2⟩|⟨h1,h2⟩
  ·rcases Wv.1 (k _ _ _ _ h1 h2) with c|c
   ·exact absurd c hd
   ·exact .inl c
  ·rcases Wv.1 (k _ _ _ _ h1 h2) with c|c
   ·exact absurd c hd
   ·exact .inr c
 unfold htN at e
 split at e
 ·cases e
 ·split at e<;>cases e<;>dsimp only<;>rcases z with z|z<;>rw [z]<;>simp
structure Cd where
 i:Nat
 nu:Int
 de:Int
 well:Bool
def Yi (cs:List (Int × Int)) (r:Ry) (fr:Int × Int) (last:Int) (i:Nat):Option Cd :=
 if (i:Int)=last then none else match htW (wlOf cs i) r with
  | none=>none
  | some x=>if x.on=true/\fr.1*x.de<x.nu*fr.2 then some ⟨i,x.nu,x.de,x.well⟩ else none
def Zar (a b:Cd):Prop:=a.nu*b.de<b.nu*a.de
instance (a b:Cd):Decidable (Zar a b):=inferInstanceAs (Decidable (_<_))
def stP:Option Cd->Option Cd->Option Cd
 | acc,none=>acc
 | none,some c=>some c
 | some b,some c=>if Zar c b then some c else some b
def stR:Option Cd->Option Cd->Option Cd
 | acc,none=>acc
 | none,some c=>some c
 | some b,some c=>if Zar c b\/(c.nu*b.de=b.nu*c.de/\b.well=true) then some c else some b
def bstP (f:Nat->Option Cd):Nat->Option Cd
 | 0=>none
 | k+1=>stP (bstP f k) (f k)
def bstR (f:Nat->Option Cd):Nat->Option Cd
 | 0=>none
 | k+1=>stR (bstR f k) (f k)
theorem Vs {f:Nat->Option Cd}:∀ {k:Nat} {c:Cd},bstP f k=some c->∃ i,i<k/\f i=some c
 | 0,_,h=>by cases h
 | k+1,c,h=>by
  rw [bstP] at h
  cases hf:f k with
  | none =>
   rw [hf] at h
   have h:bstP f k=some c:=by cases hb:bstP f k<;>rw [hb] at h<;>exact h
   obtain ⟨i,hi,e⟩:=Vs h
   exact ⟨i,by omega,e⟩
  | some d =>
   rw [hf] at h
   cases hb:bstP f k with
   | none=>rw [hb] at h; cases h; exact ⟨k,by omega,hf⟩
   | some b =>
    rw [hb] at h
    unfold stP at h
    dsimp only at h
    split at h
    ·cases h; exact ⟨k,by omega,hf⟩
    ·cases h
     obtain ⟨i,hi,e⟩:=Vs hb
     exact ⟨i,by omega,e⟩
theorem Zyw {f:Nat->Option Cd} {m:Nat} (ht:∀ i j b c,i<j->j<m->f i=some b->f j=some c->c.nu*b.de=b.nu*c.de->b.well=false):∀ k,k<=m->bstR f k=bstP f k
 | 0,_=>rfl
 | k+1,hk=>by
  rw [bstR,bstP,Zyw ht k (by omega)]
  cases hf:f k with
  | none=>cases bstP f k<;>rfl
  | some c =>
   cases hb:bstP f k with
   | none=>rfl
   | some b =>
    obtain ⟨i,hi,e⟩:=Vs hb
    show (if Zar c b\/(c.nu*b.de=b.nu*c.de/\b.well=true) then some c else some b)=if Zar c b then some c else some b
    by_cases hl:Zar c b
    ·rw [if_pos (.inl hl),if_pos hl]
    ·rw [if_neg hl,if_neg]
     rintro (h|⟨h1,h2⟩)
     ·exact hl h
     ·rw [ht i k b c hi (by omega) e hf h1] at h2; cases h2
theorem Zgq {cs:List (Int × Int)} {r:Ry} {fr:Int × Int} {last:Int} {i:Nat} {c:Cd} (h:Yi cs r fr last i=some c):∃ x,htW (wlOf cs i) r=some x/\x.on=true/\fr.1*x.de<x.nu*fr.2/\c=⟨i,x.nu,x.de,x.well⟩/\(i:Int)≠last:=by
 unfold Yi at h
 split at h
 ·cases h
 ·rename_i hl
  cases hx:htW (wlOf cs i) r with
  | none=>rw [hx] at h; cases h
  | some x =>
   rw [hx] at h
   dsimp only at h
   split at h
   ·rename_i hc
    cases h
    exact ⟨x,rfl,hc.1,hc.2,rfl,hl⟩
   ·cases h
theorem Zs4 {h:Hal} (g:h.fine) {r:Ry} {fr:Int × Int} {last:Int} (i j:Nat) (b c:Cd) (hij:i<j) (hj:j<h.cs.length) (hb:Yi h.cs r fr last i=some b) (hc:Yi h.cs r fr last j=some c) (ht:c.nu*b.de=b.nu*c.de):b.well=false:=by
 obtain ⟨x,x1,x2,x3,rfl,x5⟩:=Zgq hb
 obtain ⟨y,y1,y2,y3,rfl,y5⟩:=Zgq hc
 dsimp only at ht ⊢
 obtain ⟨n,sx,sy,hs⟩:=g.st i (by omega)
 obtain ⟨m,tx,ty,hs2⟩:=g.st j hj
 rw [Vn hs] at x1
 rw [Vn hs2] at y1
 have o1:=Zxd hs x1 x2
 have o2:=Zxd hs2 y1 y2
 have d1:0<x.de:=by
  unfold htN at x1
  split at x1
  ·cases x1
  ·split at x1<;>cases x1<;>dsimp only<;>omega
 have d2:0<y.de:=by
  unfold htN at y1
  split at y1
  ·cases y1
  ·split at y1<;>cases y1<;>dsimp only<;>omega
 have sc:∀ {w:Wl} {n sx sy p q d k:Int},0<k->onW w n sx sy p q d->onW w n sx sy (p*k) (q*k) (d*k):=fun {w n sx sy p q d k} hk ho=>by
  obtain ⟨b0,a0,a1⟩:=ho
  have e1:bes w sx sy (p*k) (q*k) (d*k)=bes w sx sy p q d*k:=by unfold bes; grind
  have e2:alo w sx sy (p*k) (q*k) (d*k)=alo w sx sy p q d*k:=by unfold alo; grind
  refine ⟨by rw [e1,b0,Sq],by rw [e2]; exact Qq a0 (by omega),?_⟩
  rw [e2,<-Lr]
  exact Qk a1 (by omega)
 have o1':=sc d2 o1
 have o2':=sc d1 o2
 rw [show (r.x*y.de+y.nu*r.dx)*x.de=(r.x*x.de+x.nu*r.dx)*y.de by grind,show (r.y*y.de+y.nu*r.dy)*x.de=(r.y*x.de+x.nu*r.dy)*y.de by grind,Rl y.de x.de] at o2'
 have e:=Zi2 g (by omega) (by omega) hj hs hs2 (Qv d1 d2) o1' o2'
 refine Zxe hs x1 ?_
 rcases e with ⟨e1,e2⟩|⟨e1,e2⟩
 ·refine .inl ⟨?_,?_⟩
  ·exact Wf (by omega:y.de≠0) (by rw [e1]; grind)
  ·exact Wf (by omega:y.de≠0) (by rw [e2]; grind)
 ·refine .inr ⟨?_,?_⟩
  ·exact Wf (by omega:y.de≠0) (by rw [e1]; grind)
  ·exact Wf (by omega:y.de≠0) (by rw [e2]; grind)
theorem Yg8 {h:Hal} (g:h.fine) (r:Ry) (fr:Int × Int) (last:Int):bstR (Yi h.cs r fr last) h.cs.length=bstP (Yi h.cs r fr last) h.cs.length :=
 Zyw (fun i j b c hij hj h1 h2 h3=>Zs4 g i j b c hij hj h1 h2 h3) _ (Qd _)
def mvD (sx sy x y:Int):Int × Int:=if sy=0 then (x,-y) else if sx=0 then (-x,y) else if sx=sy then (y,x) else (-y,-x)
structure Bh (cs:List (Int × Int)) (r:Ry) (fr:Int × Int) (last:Int):Prop where
 pos:0<=fr.1/\0<fr.2
 last:(last = -1/\fr=(0,1))\/∃ i:Nat,i<cs.length/\last=(i:Int)/\0<fr.1/\∃ x,htW (wlOf cs i) r=some x/\x.nu=fr.1/\x.de=fr.2
theorem Zqi {w:Wl} {n sx sy:Int} {r:Ry} {x:Ht} (x1:htN w n sx sy r=some x):0<x.de:=by
 unfold htN at x1
 split at x1
 ·cases x1
 ·split at x1<;>cases x1<;>dsimp only<;>omega
end Go.Proofs.YtanbhfpalahjcaaGreat
namespace Go.Ge
abbrev V:=Int × Int
def cr (u v:V):Int:=u.1*v.2-u.2*v.1
structure Sg where
 a:V
 b:V
def Sg.n (s:Sg) (d:V):Int:=cr s.a d+cr d s.b
def Sg.c (s:Sg):Int:=cr s.a s.b
def InC (s:Sg) (d:V):Prop:=0<=cr s.a d/\0<=cr d s.b
def InO (s:Sg) (d:V):Prop:=0<cr s.a d/\0<cr d s.b
def lt (s t:Sg) (d:V):Prop:=s.c*t.n d<t.c*s.n d
def eqT (s t:Sg) (d:V):Prop:=s.c*t.n d=t.c*s.n d
theorem plk (d u v w:V):cr d v*cr u w=cr d u*cr v w+cr d w*cr u v:=by unfold cr; grind
theorem Zj (u:V):cr u u=0:=by unfold cr; grind
theorem Zh (u v:V):cr u v = -cr v u:=by unfold cr; grind
theorem Sg.n_a (s:Sg):s.n s.a=s.c:=by unfold Sg.n Sg.c; rw [Zj]; omega
theorem Sg.n_b (s:Sg):s.n s.b=s.c:=by unfold Sg.n Sg.c; rw [Zj]; omega
theorem Zr {a b:Int} (h:0<a*b) (ha:0<a):0<b:=by
 rcases Wc 0 b with c|c
 ·exact c
 ·have:=Td (Qg ha) c; omega
theorem Zai {a b:Int} (h:0<=a*b) (ha:0<a):0<=b:=by
 rcases Wc b 0 with c|c
 ·have:=Ty ha c; omega
 ·exact c
theorem Yg {a b:Int} (h:a*b=0) (ha:0<a):b=0:=by
 rcases Wv.1 h with c|c<;>omega
theorem Zs0 {d u v w:V} (hu:0<cr d u) (hv:0<cr d v) (hw:0<cr d w) (h1:0<cr u v) (h2:0<cr v w):0<cr u w:=by
 have:=plk d u v w
 have a:=Qv hu h2
 have b:=Qv hw h1
 exact Zr (by omega) hv
theorem Zfn {d u v w:V} (hu:0<cr d u) (hv:0<cr d v) (hw:0<cr d w) (h1:0<=cr u v) (h2:0<=cr v w):0<=cr u w:=by
 have:=plk d u v w
 have a:=Qq (Qg hu) h2
 have b:=Qq (Qg hw) h1
 exact Zai (by omega) hv
theorem Zkb {d u v w:V} (hu:0<cr d u) (hv:0<cr d v) (hw:0<cr d w) (h1:0<cr u v) (h2:0<=cr v w):0<cr u w:=by
 have:=plk d u v w
 have a:=Qq (Qg hu) h2
 have b:=Qv hw h1
 exact Zr (by omega) hv
theorem Zo8 {d u v w:V} (hu:0<cr d u) (hv:0<cr d v) (hw:0<cr d w) (h1:0<=cr u v) (h2:0<cr v w):0<cr u w:=by
 have:=plk d u v w
 have a:=Qv hu h2
 have b:=Qq (Qg hw) h1
 exact Zr (by omega) hv
def mix (p q:Int) (u v:V):V:=(p*u.1+q*v.1,p*u.2+q*v.2)
theorem Xn (w:V) (p q:Int) (u v:V):cr w (mix p q u v)=p*cr w u+q*cr w v:=by unfold cr mix; grind
theorem Yr (w:V) (p q:Int) (u v:V):cr (mix p q u v) w=p*cr u w+q*cr v w:=by unfold cr mix; grind
theorem Sg.n_mix (s:Sg) (p q:Int) (u v:V):s.n (mix p q u v)=p*s.n u+q*s.n v:=by unfold Sg.n; rw [Yr,Xn]; grind
structure Sys (m:Nat) (sg:Nat->Option Sg):Prop where
 pos:∀ i s,sg i=some s->0<s.c
 nc:∀ i j s t d,i≠j->i<m->j<m->sg i=some s->sg j=some t->InC s d->InC t d->0<s.n d->eqT s t d -> ¬ InO s d
variable {m:Nat} {sg:Nat->Option Sg}
theorem Zz4 {s:Sg} {d e:V} (hd:InC s d) (h:cr d e≠0) (hc:0<s.c):0<s.n d:=by
 obtain ⟨h1,h2⟩:=hd
 unfold Sg.n
 rcases Wc 0 (cr s.a d+cr d s.b) with c|c
 ·exact c
 exfalso
 have e1:cr s.a d=0:=by omega
 have e2:cr d s.b=0:=by omega
 have q2:cr s.a s.b*cr d e=0:=by
  have q:=plk s.a d s.b e
  rw [e1,e2,Sq,Sb] at q
  omega
 rcases Wv.1 q2 with z|z
 ·unfold Sg.c at hc; omega
 ·exact h z
theorem Sys.ord (S:Sys m sg) {i j:Nat} {s t:Sg} (hij:i≠j) (hi:i<m) (hj:j<m) (es:sg i=some s) (et:sg j=some t) {d e:V} (hde:0<cr d e)
  (s1:InC s d) (s2:InC s e) (t1:InC t d) (t2:InC t e) (h1:lt s t d) (h2:lt t s e):False:=by
 unfold lt at h1 h2
 have hc:=S.pos i s es
 let p:=s.c*t.n e-t.c*s.n e
 let q:=t.c*s.n d-s.c*t.n d
 have hp:0<p:=by show 0<s.c*t.n e-t.c*s.n e; omega
 have hq:0<q:=by show 0<t.c*s.n d-s.c*t.n d; omega
 have nd:=Zz4 s1 (by omega:cr d e≠0) hc
 have ne:=Zz4 s2 (by rw [Zh]; omega:cr e d≠0) hc
 have e1:eqT s t (mix p q d e):=by
  unfold eqT
  rw [Sg.n_mix,Sg.n_mix]
  show s.c*((s.c*t.n e-t.c*s.n e)*t.n d+(t.c*s.n d-s.c*t.n d)*t.n e)=t.c*((s.c*t.n e-t.c*s.n e)*s.n d+(t.c*s.n d-s.c*t.n d)*s.n e)
  grind
 have cone:∀ {r:Sg},InC r d->InC r e->InC r (mix p q d e):=fun {r} k1 k2=>by
  refine ⟨?_,?_⟩
  ·rw [Xn]; exact Jy (Qq (Qg hp) k1.1) (Qq (Qg hq) k2.1)
  ·rw [Yr]; exact Jy (Qq (Qg hp) k1.2) (Qq (Qg hq) k2.2)
 refine S.nc i j s t (mix p q d e) hij hi hj es et (cone s1 s2) (cone t1 t2) ?_ e1 ?_
 ·rw [Sg.n_mix]; have:=Qv hp nd; have:=Qv hq ne; omega
 ·refine ⟨?_,?_⟩
  ·rw [Xn]
   have a1:=Qq (Qg hp) s1.1
   have a2:=Qq (Qg hq) s2.1
   rcases Wc 0 (p*cr s.a d+q*cr s.a e) with c|c
   ·exact c
   exfalso
   have z1:=Yg (by omega:p*cr s.a d=0) hp
   have z2:=Yg (by omega:q*cr s.a e=0) hq
   have k:=plk s.b s.a d e
   rw [z1,z2] at k
   have hb:cr s.b s.a = -s.c:=by unfold Sg.c; exact Zh _ _
   rw [hb] at k
   have:=Qv hc hde
   have : -s.c*cr d e = -(s.c*cr d e):=Tq _ _
   omega
  ·rw [Yr]
   have a1:=Qq (Qg hp) s1.2
   have a2:=Qq (Qg hq) s2.2
   rcases Wc 0 (p*cr d s.b+q*cr e s.b) with c|c
   ·exact c
   exfalso
   have z1:=Yg (by omega:p*cr d s.b=0) hp
   have z2:=Yg (by omega:q*cr e s.b=0) hq
   rw [Zh] at z1 z2
   have k:=plk s.a s.b d e
   rw [show cr s.b d=0 by omega,show cr s.b e=0 by omega] at k
   have hb:cr s.a s.b=s.c:=rfl
   rw [hb] at k
   have:=Qv hc hde
   omega
end Go.Ge
namespace Go.Ge
variable {m:Nat} {sg:Nat->Option Sg}
def bey (sg:Nat->Option Sg) (L:Option Nat) (s:Sg) (d:V):Prop:=∀ l t,L=some l->sg l=some t->lt t s d
structure Cnt (m:Nat) (sg:Nat->Option Sg) (L:Option Nat) (i:Nat) (s:Sg) (d:V):Prop where
 im:i<m
 e:sg i=some s
 l:L≠some i
 c:InC s d
 n:0<s.n d
 b:bey sg L s d
def pbey (sg:Nat->Option Sg) (L:Option Nat) (c:V):Prop:=∀ l t,L=some l->sg l=some t->t.c<t.n c
def Seen (m:Nat) (sg:Nat->Option Sg) (L:Option Nat) (c:V):Prop:=pbey sg L c/\∀ i s,Cnt m sg L i s c->s.n c<=s.c
structure Fst (m:Nat) (sg:Nat->Option Sg) (L:Option Nat) (i:Nat) (s:Sg) (d:V):Prop where
 c:Cnt m sg L i s d
 o:InO s d
 f:∀ j t,Cnt m sg L j t d->j≠i->lt s t d
theorem Fst.uniq (S:Sys m sg) {L:Option Nat} {i j:Nat} {s t:Sg} {d:V} (h:Fst m sg L i s d) (g:Fst m sg L j t d):i=j:=by
 by_cases c:j=i
 ·exact c.symm
 have h1:=h.f j t g.c c
 have h2:=g.f i s h.c (fun q=>c q.symm)
 unfold lt at h1 h2
 omega
theorem par {u v:V} (h:cr u v=0) (w x:V):cr u w*cr v x=cr v w*cr u x:=by
 have:=plk u v w x
 have q:cr u w*cr v x-cr v w*cr u x=cr u v*cr w x:=by unfold cr; grind
 rw [h,Sq] at q
 omega
theorem Zus (d e a x:V):cr d e*cr a x=cr x e*cr a d+cr d x*cr a e:=by unfold cr; grind
theorem Yau (d e x b:V):cr d e*cr x b=cr x e*cr d b+cr d x*cr e b:=by unfold cr; grind
theorem Yhm {s:Sg} {d e x:V} (h1:InO s d) (h2:InO s e) (hde:0<cr d e) (hx:0<cr d x) (hy:0<=cr x e):InO s x:=by
 refine ⟨Zr (a:=cr d e) ?_ hde,Zr (a:=cr d e) ?_ hde⟩
 ·rw [Zus]
  have:=Qq hy (Qg h1.1)
  have:=Qv hx h2.1
  omega
 ·rw [Yau]
  have:=Qq hy (Qg h1.2)
  have:=Qv hx h2.2
  omega
theorem Zyi {s:Sg} {d e x:V} (h1:InC s d) (h2:InC s e) (hde:0<cr d e) (hx:0<=cr d x) (hy:0<=cr x e):InC s x:=by
 refine ⟨Zai (a:=cr d e) ?_ hde,Zai (a:=cr d e) ?_ hde⟩
 ·rw [Zus]
  exact Jy (Qq hy h1.1) (Qq hx h2.1)
 ·rw [Yau]
  exact Jy (Qq hy h1.2) (Qq hx h2.2)
theorem InO.c {s:Sg} {d:V} (h:InO s d):InC s d:=⟨Qg h.1,Qg h.2⟩
theorem InO.n {s:Sg} {d:V} (h:InO s d):0<s.n d:=by have:=h.1; have:=h.2; unfold Sg.n; omega
theorem Zvh {A b d c:V} (hAb:0<cr A b) (hAc:0<cr A c) (hcb:0<=cr c b) (hdc:0<cr d c) (hAd:0<=cr A d):0<=cr d b:=by
 have:=plk A d c b
 have a1:=Qq hAd hcb
 have a2:=Qv hAb hdc
 exact Qg (Zr (by omega) hAc)
theorem a_in {t:Sg} (h:0<t.c):InC t t.a:=⟨by rw [Zj]; exact Wy 0,Qg h⟩
theorem b_in {t:Sg} (h:0<t.c):InC t t.b:=⟨Qg h,by rw [Zj]; exact Wy 0⟩
def ends (m:Nat) (sg:Nat->Option Sg):List V:=(List.range m).flatMap fun i=>match sg i with
 | none=>[]
 | some s=>[s.a,s.b]
theorem Zj7 {i:Nat} {s:Sg} (hi:i<m) (e:sg i=some s):s.a∈ends m sg/\s.b∈ends m sg:=by
 unfold ends
 constructor<;>(rw [Ky]; refine ⟨i,Rx.2 hi,?_⟩; rw [e]; simp)
theorem Zya {c:V} (h:c∈ends m sg):∃ i s,i<m/\sg i=some s/\(c=s.a\/c=s.b):=by
 unfold ends at h
 rw [Ky] at h
 obtain ⟨i,hi,hc⟩:=h
 cases e:sg i with
 | none=>rw [e] at hc; cases hc
 | some s =>
  rw [e] at hc
  simp at hc
  exact ⟨i,s,Rx.1 hi,e,hc⟩
theorem least {α:Type} (P:α->Prop) (le:α->α->Prop) (tot:∀ x y,P x->P y->le x y\/le y x) (tr:∀ x y z,P x->P y->P z->le x y->le y z->le x z) :
  ∀ l:List α,(∃ x∈l,P x)->∃ x∈l,P x/\∀ y∈l,P y->le x y
 | [],h=>by obtain ⟨_,h,_⟩:=h; cases h
 | a::l,h=>by
  by_cases hl:∃ x∈l,P x
  ·obtain ⟨x,hx,px,hm⟩:=least P le tot tr l hl
   by_cases pa:P a
   ·rcases tot a x pa px with c|c
    ·refine ⟨a,by simp,pa,fun y hy py=>?_⟩
     rcases Ra.1 hy with rfl|hy
     ·rcases tot y y py py with q|q<;>exact q
     ·exact tr _ _ _ pa px py c (hm y hy py)
    ·refine ⟨x,by simp [hx],px,fun y hy py=>?_⟩
     rcases Ra.1 hy with rfl|hy
     ·exact c
     ·exact hm y hy py
   ·refine ⟨x,by simp [hx],px,fun y hy py=>?_⟩
    rcases Ra.1 hy with rfl|hy
    ·exact absurd py pa
    ·exact hm y hy py
  ·obtain ⟨x,hx,px⟩:=h
   rcases Ra.1 hx with rfl|hx
   ·refine ⟨x,by simp,px,fun y hy py=>?_⟩
    rcases Ra.1 hy with rfl|hy
    ·rcases tot y y py py with q|q<;>exact q
    ·exact absurd ⟨y,hy,py⟩ hl
   ·exact absurd ⟨x,hx,px⟩ hl
def LOk (m:Nat) (sg:Nat->Option Sg) (L:Option Nat) (d:V):Prop:=∀ l t,L=some l->sg l=some t->l<m/\InO t d
theorem LOk.conv {L:Option Nat} {d e x:V} (h1:LOk m sg L d) (h2:LOk m sg L e) (hde:0<cr d e) (hx:0<cr d x) (hy:0<=cr x e):LOk m sg L x:=fun l t e1 e2 =>
 ⟨(h1 l t e1 e2).1,Yhm (h1 l t e1 e2).2 (h2 l t e1 e2).2 hde hx hy⟩
theorem Sys.bey_mv (S:Sys m sg) {L:Option Nat} {j:Nat} {t:Sg} (hj:j<m) (et:sg j=some t) (hl:L≠some j) {d e:V} (hde:cr d e≠0) (k1:LOk m sg L d) (k2:LOk m sg L e) (t1:InC t d) (t2:InC t e) (h:bey sg L t e):bey sg L t d:=by
 intro l s e1 e2
 obtain ⟨hlm,o1⟩:=k1 l s e1 e2
 obtain ⟨_,o2⟩:=k2 l s e1 e2
 have hlj:l≠j:=fun q=>hl (by rw [e1,q])
 have he:=h l s e1 e2
 rcases We (s.c*t.n d) (t.c*s.n d) with c|c|c
 ·exact c
 ·exact absurd o1 (S.nc l j s t d hlj hlm hj e2 et o1.c t1 o1.n c)
 ·exfalso
  rcases Wc 0 (cr d e) with q|q
  ·exact S.ord (fun z=>hlj z.symm) hj hlm et e2 q t1 t2 o1.c o2.c c he
  ·exact S.ord hlj hlm hj e2 et (d:=e) (e:=d) (by rw [Zh]; omega) o2.c o1.c t2 t1 he c
end Go.Ge
namespace Go.Ge
variable {m:Nat} {sg:Nat->Option Sg}
structure Cand (sg:Nat->Option Sg) (L:Option Nat) (s:Sg) (d e c:V):Prop where
 lo:0<cr d c
 hi:0<=cr c e
 be:pbey sg L c
 fr:s.n c<=s.c
def Par (t:Sg) (c p:V):Prop:=∀ w,cr p w*t.n c=cr c w*t.c
theorem Ygb {t:Sg} {c:V} (h:cr t.a c=0):Par t c t.a:=fun w=>by
 have:=par h w t.b
 unfold Sg.n
 rw [h,Ph]
 exact this
theorem Par.r {t:Sg} {c p:V} (h:Par t c p) (w:V):cr w p*t.n c=cr w c*t.c:=by
 have:=h w
 rw [Zh w p,Zh w c,Tq,Tq]
 omega
theorem Par.n {t:Sg} {c p:V} (h:Par t c p) (s:Sg):s.n p*t.n c=s.n c*t.c:=by
 have h1:=h s.b
 have h2:=h.r s.a
 unfold Sg.n at *
 rw [Mf,h2,h1,Mf]
theorem Par.cand {t s:Sg} {c p:V} (h:Par t c p) (hc:0<t.c) {L:Option Nat} {j:Nat} {d e:V} (ct:Cnt m sg L j t c) (h1:0<cr d c) (h2:0<=cr c e) (hlt:lt t s c):Cand sg L s d e p:=by
 have hn:=ct.n
 refine ⟨?_,?_,?_,?_⟩
 ·have:=Qv h1 hc
  rw [<-h.r d,Rl] at this
  exact Zr this hn
 ·have:=Qq h2 (Qg hc)
  rw [<-h e,Rl] at this
  exact Zai this hn
 ·intro l r e1 e2
  have k:=ct.b l r e1 e2
  unfold lt at k
  have q:=h.n r
  rw [Rl t.c,<-q] at k
  exact La k (Qg hn)
 ·unfold lt at hlt
  have q:=h.n s
  rw [Rl t.c,<-q] at hlt
  exact Qg (La hlt (Qg hn))
theorem step (S:Sys m sg) {L:Option Nat} {i j:Nat} {s t:Sg} {d e c:V} (hde:0<cr d e) (hW:Fst m sg L i s d) (kd:LOk m sg L d) (kc:LOk m sg L c) (hdc:0<cr d c) (hce:0<=cr c e) (hsc:InC s c)
  (ct:Cnt m sg L j t c) (hji:j≠i) (hlt:lt t s c) (hA:0<cr t.a c):Cand sg L s d e t.a:=by
 have him:=hW.c.im
 have es:=hW.c.e
 have hc:=S.pos j t ct.e
 have hAb:0<cr t.a t.b:=hc
 rcases Wc 0 (cr d t.a) with hdA|hdA
 ·
  have kA:LOk m sg L t.a:=LOk.conv kd kc hdc hdA (Qg hA)
  have sA:InC s t.a:=Zyi hW.o.c hsc hdc (Qg hdA) (Qg hA)
  have bA:=S.bey_mv ct.im ct.e ct.l (d:=t.a) (e:=c) (by omega) kA kc (a_in hc) ct.c ct.b
  refine ⟨hdA,?_,?_,?_⟩
  ·exact Qg (Zkb hdA hdc hde hA hce)
  ·intro l r e1 e2
   have k:=bA l r e1 e2
   unfold lt at k
   rw [Sg.n_a,Rl] at k
   exact Sd k (Qg hc)
  ·rcases Wc s.c (s.n t.a) with q|q
   ·exfalso
    refine S.ord (fun z=>hji z.symm) him ct.im es ct.e hA sA hsc (a_in hc) ct.c ?_ hlt
    unfold lt
    rw [Sg.n_a,Rl]
    exact Rn q hc
   ·exact q
 ·exfalso
  have hAd:0<=cr t.a d:=by rw [Zh]; omega
  have td:InC t d:=⟨hAd,Zvh hAb hA ct.c.2 hdc hAd⟩
  have bd:=S.bey_mv ct.im ct.e ct.l (d:=d) (e:=c) (by omega) kd kc td ct.c ct.b
  have cd:Cnt m sg L j t d:=⟨ct.im,ct.e,ct.l,td,Zz4 td (by omega:cr d c≠0) hc,bd⟩
  exact S.ord (fun z=>hji z.symm) him ct.im es ct.e hdc hW.o.c hsc td ct.c (hW.f j t cd hji) hlt
theorem Yhk (S:Sys m sg) {L:Option Nat} {i:Nat} {s:Sg} {d e:V} (hde:0<cr d e) (hW:Fst m sg L i s d) (hse:InC s e) (kd:LOk m sg L d) (ke:LOk m sg L e)
  (hex:∃ c∈ends m sg,Cand sg L s d e c):∃ c∈ends m sg,Cand sg L s d e c/\Seen m sg L c:=by
 have hsc:=S.pos i s hW.c.e
 have inn:∀ {c},Cand sg L s d e c->InC s c:=fun k=>Zyi hW.o.c hse hde (Qg k.lo) k.hi
 obtain ⟨c,hc,pc,hmin⟩:=least (Cand sg L s d e) (fun u v=>0<cr u v\/(cr u v=0/\s.n u<=s.n v))
  (fun x y hx hy=>by
   rcases We 0 (cr x y) with q|q|q
   ·exact .inl (.inl q)
   ·rcases Lc (s.n x) (s.n y) with z|z
    ·exact .inl (.inr ⟨q.symm,z⟩)
    ·exact .inr (.inr ⟨by rw [Zh]; omega,z⟩)
   ·exact .inr (.inl (by rw [Zh]; omega)))
  (fun x y z hx hy hz h1 h2=>by
   rcases h1 with h1|⟨h1,n1⟩<;>rcases h2 with h2|⟨h2,n2⟩
   ·exact .inl (Zs0 hx.lo hy.lo hz.lo h1 h2)
   ·exact .inl (Zkb hx.lo hy.lo hz.lo h1 (by omega))
   ·exact .inl (Zo8 hx.lo hy.lo hz.lo (by omega) h2)
   ·refine .inr ⟨?_,by omega⟩
    have a1:=Zfn hx.lo hy.lo hz.lo (by omega:0<=cr x y) (by omega:0<=cr y z)
    have a2:=Zfn hz.lo hy.lo hx.lo (by rw [Zh]; omega:0<=cr z y) (by rw [Zh]; omega:0<=cr y x)
    rw [Zh] at a2
    omega) (ends m sg) hex
 refine ⟨c,hc,pc,pc.be,fun j t ct=>?_⟩
 rcases Wc t.c (t.n c) with hn|hn
 rotate_left
 ·exact hn
 exfalso
 have sc:=inn pc
 have nc:=Zz4 sc (by rw [Zh]; have:=pc.lo; omega:cr c d≠0) hsc
 have htc:=S.pos j t ct.e
 have hji:j≠i:=fun q=>by
  subst q
  have:=ct.e.symm.trans hW.c.e
  cases this
  have:=pc.fr
  omega
 have hlt:lt t s c:=by
  unfold lt
  have a1:=Qw pc.fr (Qg htc)
  have a2:=Rn hn hsc
  rw [Rl t.c s.c] at a1
  omega
 have kc:LOk m sg L c:=LOk.conv kd ke hde pc.lo pc.hi
 have pe:∀ {p},Par t c p->p∈ends m sg->False:=fun {p} hp hm=>by
  have cp:=hp.cand htc (e:=e) ct pc.lo pc.hi hlt
  have z:cr c p=0:=by
   have:=hp c
   rw [Zj,Sq,Rl] at this
   have:=Yg this ct.n
   rw [Zh]; omega
  rcases hmin p hm cp with q|⟨_,q⟩
  ·omega
  ·have a1:=hp.n s
   have a2:=Rn hn nc
   have a3:=Qk q (Qg ct.n)
   omega
 have hA:=ct.c.1
 rcases Pc hA with hA|hA
 ·have cA:=step S hde hW kd kc pc.lo pc.hi sc ct hji hlt hA
  rcases hmin t.a (Zj7 ct.im ct.e).1 cA with q|⟨q,_⟩
  ·rw [Zh] at q; omega
  ·rw [Zh] at q; omega
 ·exact pe (Ygb hA.symm) (Zj7 ct.im ct.e).1
theorem Yio (S:Sys m sg) {L:Option Nat} {i:Nat} {s:Sg} {d e:V} (hde:0<cr d e) (hW:Fst m sg L i s d) (hse:InO s e) (kd:LOk m sg L d) (ke:LOk m sg L e)
  (hno:¬ ∃ c∈ends m sg,Cand sg L s d e c):Fst m sg L i s e:=by
 have bs:=S.bey_mv hW.c.im hW.c.e hW.c.l (d:=e) (e:=d) (by rw [Zh]; omega) ke kd hse.c hW.o.c hW.c.b
 refine ⟨⟨hW.c.im,hW.c.e,hW.c.l,hse.c,hse.n,bs⟩,hse,fun j t ct hji=>?_⟩
 have htc:=S.pos j t ct.e
 rcases We (s.c*t.n e) (t.c*s.n e) with q|q|q
 ·exact q
 ·exact absurd hse (S.nc i j s t e (fun z=>hji z.symm) hW.c.im ct.im hW.c.e ct.e hse.c ct.c hse.n q)
 ·exfalso
  have q:lt t s e:=q
  have ee:0<=cr e e:=by rw [Zj]; exact Wy 0
  rcases Pc ct.c.1 with hA|hA
  ·exact hno ⟨t.a,(Zj7 ct.im ct.e).1,step S hde hW kd ke hde ee hse.c ct hji q hA⟩
  ·exact hno ⟨t.a,(Zj7 ct.im ct.e).1,(Ygb hA.symm).cand htc ct hde ee q⟩
theorem sweep (S:Sys m sg) {L:Option Nat} {i:Nat} {s:Sg} {d e:V} (hde:0<cr d e) (hW:Fst m sg L i s d) (kd:LOk m sg L d) (ke:LOk m sg L e) :
  Fst m sg L i s e\/∃ c∈ends m sg,0<cr d c/\0<=cr c e/\0<=cr c s.b/\Seen m sg L c:=by
 have hsc:=S.pos i s hW.c.e
 have hdb:0<cr d s.b:=hW.o.2
 rcases Wc 0 (cr e s.b) with h|h
 ·have hse:InO s e:=by
   refine ⟨Zr (a:=cr d s.b) ?_ hdb,h⟩
   rw [Zus d s.b s.a e]
   have:=Qv h hW.o.1
   have:=Qv hde hsc
   unfold Sg.c at this
   omega
  by_cases hex:∃ c∈ends m sg,Cand sg L s d e c
  ·obtain ⟨c,hc,k,hs⟩:=Yhk S hde hW hse.c kd ke hex
   have ce:=(Zyi hW.o.c hse.c hde (Qg k.lo) k.hi).2
   exact .inr ⟨c,hc,k.lo,k.hi,ce,hs⟩
  ·exact .inl (Yio S hde hW hse kd ke hex)
 ·have hbe:0<=cr s.b e:=by rw [Zh]; omega
  have kb:LOk m sg L s.b:=LOk.conv kd ke hde hdb hbe
  have bb:=S.bey_mv hW.c.im hW.c.e hW.c.l (d:=s.b) (e:=d) (by rw [Zh]; omega) kb kd (b_in hsc) hW.o.c hW.c.b
  have cb:Cand sg L s d s.b s.b:=⟨hdb,by rw [Zj]; exact Wy 0,fun l r e1 e2=>by
   have k:=bb l r e1 e2
   unfold lt at k
   rw [Sg.n_b,Rl] at k
   exact Sd k (Qg hsc),by rw [Sg.n_b]; exact Wy _⟩
  obtain ⟨c,hc,k,hs⟩:=Yhk S hdb hW (b_in hsc) kd kb ⟨s.b,(Zj7 hW.c.im hW.c.e).2,cb⟩
  exact .inr ⟨c,hc,k.lo,Zfn k.lo hdb hde k.hi hbe,k.hi,hs⟩
end Go.Ge
namespace Go.Ge
def hf (u:V):Int:=if 0<u.2\/(u.2=0/\0<u.1) then 0 else 1
def sn (u v:V):Prop:=hf u<hf v\/(hf u=hf v/\0<cr u v)
theorem Zas (u:V):hf u=0\/hf u=1:=by unfold hf; split<;>simp
theorem hf_0 {u:V} (h:hf u=0):0<=u.2/\(u.2=0->0<u.1):=by
 unfold hf at h
 split at h
 ·omega
 ·omega
theorem hf_1 {u:V} (h:hf u=1):u.2<=0/\(u.2=0->u.1<=0):=by
 unfold hf at h
 split at h
 ·omega
 ·omega
theorem plk2 (u v w:V):cr u v*w.2+cr v w*u.2=cr u w*v.2:=by unfold cr; grind
theorem plk1 (u v w:V):cr u v*w.1+cr v w*u.1=cr u w*v.1:=by unfold cr; grind
theorem Yeo {u v w:V} (h1:hf u=hf v) (h2:hf v=hf w) (a:0<cr u v) (b:0<cr v w):0<cr u w:=by
 have e2:=plk2 u v w
 have e1:=plk1 u v w
 rcases Wc 0 (cr u w) with c|c
 ·exact c
 exfalso
 rcases Zas u with z|z
 ·have zu:=hf_0 z
  have zv:=hf_0 (h1 ▸ z)
  have zw:=hf_0 (h2 ▸ h1 ▸ z)
  have t1:=Qq (Qg a) zw.1
  have t2:=Qq (Qg b) zu.1
  have t3:=Py c zv.1
  have k1:=Yg (by omega:cr u v*w.2=0) a
  have k2:=Yg (by omega:cr v w*u.2=0) b
  have:=zu.2 k2
  have:=zw.2 k1
  have s1:=Qv a (zw.2 k1)
  have s2:=Qv b (zu.2 k2)
  rcases Pc zv.1 with q|q
  ·have:=Qv a q
   unfold cr at a
   rw [k2] at a
   have:=Qv (zu.2 k2) q
   unfold cr at b
   rw [k1] at b
   have:=Qv (zw.2 k1) q
   rw [Rl] at this
   omega
  ·have:=Py c (Qg (zv.2 q.symm))
   omega
 ·have zu:=hf_1 z
  have zv:=hf_1 (h1 ▸ z)
  have zw:=hf_1 (h2 ▸ h1 ▸ z)
  have t1:=Td (Qg a) zw.1
  have t2:=Td (Qg b) zu.1
  have t3:=Wg c zv.1
  have k1:=Yg (by omega:cr u v*w.2=0) a
  have k2:=Yg (by omega:cr v w*u.2=0) b
  have q1:=zu.2 k2
  have q2:=zw.2 k1
  have e:cr u w=0:=by unfold cr; rw [k1,k2]; simp
  unfold cr at a b
  rw [k2] at a
  rw [k1] at b
  simp at a b
  have a' : 0<u.1*v.2:=by omega
  have b' : v.2*w.1<0:=by omega
  have:=Wg zv.1 q2
  omega
theorem Zzr {u v w:V} (h1:sn u v) (h2:sn v w):sn u w:=by
 rcases h1 with h1|⟨h1,a⟩<;>rcases h2 with h2|⟨h2,b⟩
 ·exact .inl (by omega)
 ·exact .inl (by omega)
 ·exact .inl (by omega)
 ·exact .inr ⟨by omega,Yeo h1 h2 a b⟩
theorem Zvi (u:V):¬ sn u u:=by
 rintro (h|⟨_,h⟩)
 ·omega
 ·rw [Zj] at h; omega
theorem Zpx {u v:V} (h:sn u v):¬ sn v u:=fun g=>Zvi u (Zzr h g)
theorem Yh7 {u v:V} (h:hf u≠hf v\/cr u v≠0):sn u v\/sn v u:=by
 unfold sn
 have:=Zh u v
 by_cases c:hf u=hf v
 ·rcases h with h|h
  ·exact absurd c h
  ·omega
 ·omega
theorem Ztu {a b x:V} (hb:0<cr a b) (h1:0<cr a x) (h2:0<cr x b) (hab:sn a b):sn a x/\sn x b:=by
 rcases Zas a with za|za<;>rcases Zas b with zb|zb<;>rcases Zas x with zx|zx
 all_goals unfold sn
 all_goals rw [za,zb,zx]
 all_goals simp
 all_goals try omega
 ·exfalso
  have a0:=hf_0 za
  have b0:=hf_0 zb
  have x1:=hf_1 zx
  have e:=plk2 a x b
  have e1:=plk1 a x b
  have t1:=Qq (Qg h1) b0.1
  have t2:=Qq (Qg h2) a0.1
  have t3:=Td (Qg hb) x1.1
  have k1:=Yg (by omega:cr a x*b.2=0) h1
  have k2:=Yg (by omega:cr x b*a.2=0) h2
  have k3:=Yg (by omega:cr a b*x.2=0) hb
  unfold cr at hb
  rw [k1,k2] at hb
  simp at hb
 ·exfalso
  rcases hab with h|⟨h,_⟩
  ·omega
  ·omega
 ·exfalso
  rcases hab with h|⟨h,_⟩
  ·omega
  ·omega
 ·exfalso
  have a0:=hf_1 za
  have b0:=hf_1 zb
  have x1:=hf_0 zx
  have e:=plk2 a x b
  have t1:=Td (Qg h1) b0.1
  have t2:=Td (Qg h2) a0.1
  have t3:=Qq (Qg hb) x1.1
  have k1:=Yg (by omega:cr a x*b.2=0) h1
  have k2:=Yg (by omega:cr x b*a.2=0) h2
  unfold cr at hb
  rw [k1,k2] at hb
  simp at hb
end Go.Ge
namespace Go.Ge
theorem Ydz {a b c:V} (hab:sn a b) (hbc:sn b c) (h:0<cr a c):0<cr a b:=by
 have e:=plk2 a b c
 rcases Zas a with za|za
 ·rcases Zas b with zb|zb
  ·rcases hab with k|⟨_,k⟩
   ·omega
   ·exact k
  ·have zc:hf c=1:=by rcases hbc with k|⟨k,_⟩<;>have:=Zas c<;>omega
   have hbc' : 0<cr b c:=by rcases hbc with k|⟨_,k⟩<;>omega
   have a0:=hf_0 za
   have b1:=hf_1 zb
   have c1:=hf_1 zc
   rcases Wc 0 (cr a b) with q|q
   ·exact q
   exfalso
   have t1:=Wg q c1.1
   have t2:=Qq (Qg hbc') a0.1
   have t3:=Td (Qg h) b1.1
   have k2:=Yg (by omega:cr b c*a.2=0) hbc'
   have k3:=Yg (by omega:cr a c*b.2=0) h
   have p:=a0.2 k2
   have p3:=b1.2 k3
   unfold cr at h hbc'
   rw [k2] at h
   rw [k3] at hbc'
   simp at h hbc'
   have h' : 0<a.1*c.2:=by omega
   have:=Zr h' p
   omega
 ·have zb:hf b=1:=by rcases hab with k|⟨k,_⟩<;>have:=Zas b<;>omega
  rcases hab with k|⟨_,k⟩
  ·omega
  ·exact k
theorem Zt5 {a b c:V} (hba:sn b a) (hca:sn c a) (hbc:b=c\/sn b c) (h:0<cr a c):0<cr a b:=by
 rcases hbc with rfl|hbc
 ·exact h
 have hc:hf c=0/\hf a=1:=by
  rcases hca with k|⟨_,k⟩
  ·have:=Zas c; have:=Zas a; omega
  ·have:=Zh a c; omega
 obtain ⟨zc,za⟩:=hc
 have zb:hf b=0:=by rcases hbc with k|⟨k,_⟩<;>have:=Zas b<;>omega
 have hbc' : 0<cr b c:=by rcases hbc with k|⟨_,k⟩<;>omega
 have e:=plk2 a b c
 have a1:=hf_1 za
 have b0:=hf_0 zb
 have c0:=hf_0 zc
 rcases Wc 0 (cr a b) with q|q
 ·exact q
 exfalso
 have t1:=Py q c0.1
 have t2:=Td (Qg hbc') a1.1
 have t3:=Qq (Qg h) b0.1
 have k2:=Yg (by omega:cr b c*a.2=0) hbc'
 have p:=a1.2 k2
 unfold cr at h
 rw [k2] at h
 simp at h
 have:=Py p c0.1
 omega
def Srt (R:V->V->Prop) (l:List V):Prop:=l.Pairwise R
theorem Zl5 {R:V->V->Prop} (asym:∀ x y,R x y -> ¬ R y x):∀ {l k:List V},Srt R l->Srt R k->(∀ x,x∈l↔x∈k)->l=k
 | [],[],_,_,_=>rfl
 | [],b::k,_,_,h=>by have:=(h b).2 (by simp); cases this
 | a::l,[],_,_,h=>by have:=(h a).1 (by simp); cases this
 | a::l,b::k,hl,hk,h=>by
  have hl':=Pw.1 hl
  have hk':=Pw.1 hk
  have irr:∀ x,¬ R x x:=fun x r=>asym x x r r
  have e:a=b:=by
   rcases Ra.1 ((h a).1 (by simp)) with q|q
   ·exact q
   rcases Ra.1 ((h b).2 (by simp)) with z|z
   ·exact z.symm
   ·exact absurd (hl'.1 b z) (asym _ _ (hk'.1 a q))
  subst e
  rw [Zl5 asym hl'.2 hk'.2 fun x=>?_]
  constructor
  ·intro hx
   rcases Ra.1 ((h x).1 (by simp [hx])) with q|q
   ·subst q; exact absurd (hl'.1 x hx) (irr x)
   ·exact q
  ·intro hx
   rcases Ra.1 ((h x).2 (by simp [hx])) with q|q
   ·subst q; exact absurd (hk'.1 x hx) (irr x)
   ·exact q
def insB (R:V->V->Bool) (t:V):List V->List V
 | []=>[t]
 | a::l=>if R t a then a::insB R t l else t::a::l
def ins (R:V->V->Bool) (l:List V) (t:V):List V:=if t∈l then l else (insB R t l.reverse).reverse
theorem Zmr (R:V->V->Bool) (t:V):∀ (l:List V) (x:V),x∈insB R t l↔x=t\/x∈l
 | [],x=>by simp [insB]
 | a::l,x=>by
  unfold insB
  split
  ·rw [Ra,Zmr R t l x,Ra]
   constructor
   ·rintro (h|h|h)<;>simp [h]
   ·rintro (h|h|h)<;>simp [h]
  ·simp
theorem Zqe (R:V->V->Bool) (l:List V) (t x:V):x∈ins R l t↔x=t\/x∈l:=by
 unfold ins
 split
 ·rename_i h
  constructor
  ·exact .inr
  ·rintro (q|q)
   ·rw [q]; exact h
   ·exact q
 ·rw [Md,Zmr,Md]
theorem Zsj {R:V->V->Bool} {t:V}:∀ {l:List V},l.Pairwise (fun a b=>R b a=true)->(∀ x∈l,R t x=true\/R x t=true)->(∀ x y,x∈l->y∈l->R y x=true->R x t=true->R y t=true) ->
  (insB R t l).Pairwise (fun a b=>R b a=true)
 | [],_,_,_=>List.pairwise_singleton _ _
 | a::l,h,tot,tr=>by
  have h':=Pw.1 h
  unfold insB
  split
  ·rename_i c
   refine Pw.2 ⟨fun x hx=>?_,Zsj h'.2 (fun x hx=>tot x (by simp [hx])) (fun x y hx hy=>tr x y (by simp [hx]) (by simp [hy]))⟩
   rcases (Zmr R t l x).1 hx with q|q
   ·subst q; exact c
   ·exact h'.1 x q
  ·rename_i c
   have ha:R a t=true:=by
    rcases tot a (by simp) with q|q
    ·exact absurd q c
    ·exact q
   refine Pw.2 ⟨fun x hx=>?_,h⟩
   rcases Ra.1 hx with q|q
   ·subst q; exact ha
   ·exact tr a x (by simp) (by simp [q]) (h'.1 x q) ha
theorem Yei {R:V->V->Bool} {t:V} {l:List V} (h:Srt (fun a b=>R a b=true) l) (tot:∀ x∈l,x≠t->R t x=true\/R x t=true) (tr:∀ x y,x∈l->y∈l->R y x=true->R x t=true->R y t=true):Srt (fun a b=>R a b=true) (ins R l t):=by
 unfold ins
 split
 ·exact h
 ·rename_i hn
  unfold Srt
  rw [Fg]
  refine Zsj (Fg.2 h) (fun x hx=>tot x (Md.1 hx) (fun q=>hn (by rw [<-q]; exact Md.1 hx))) (fun x y hx hy=>tr x y (Md.1 hx) (Md.1 hy))
end Go.Ge
namespace Go.Proofs.YtanbhfpalahjcaaGreat
open Go Go.Sx Go.Ge
def wa (w:Wl) (o:V):V:=(w.fx-o.1,w.fy-o.2)
def wb (w:Wl) (o:V):V:=(w.tx-o.1,w.ty-o.2)
def sgW (w:Wl) (o:V):Option Sg:=if 0<cr (wa w o) (wb w o) then some ⟨wa w o,wb w o⟩ else if cr (wa w o) (wb w o)<0 then some ⟨wb w o,wa w o⟩ else none
def sgH (cs:List (Int × Int)) (o:V) (i:Nat):Option Sg:=sgW (wlOf cs i) o
abbrev ryV (o d:V):Ry:=⟨o.1,o.2,d.1,d.2⟩
theorem Ycs {w:Wl} {n sx sy:Int} (h:Str w n sx sy) (o d:V):cr (wa w o) (wb w o)=n*fW w sx sy (ryV o d):=by
 unfold cr wa wb fW
 dsimp only
 rw [h.tx,h.ty]; grind
theorem Zyh (w:Wl) (o d:V):cr d (wa w o)=xW w (ryV o d):=by unfold cr wa xW; rfl
theorem Zyg (w:Wl) (o d:V):cr d (wb w o)=yW w (ryV o d):=by unfold cr wb yW; rfl
structure Lk (n:Int) (s:Sg) (d:V) (x:Ht):Prop where
 c:s.c=n*x.nu
 nn:s.n d=n*x.de
 on:x.on=true↔InC s d
 well:x.well=true↔InO s d
theorem Zdi {w:Wl} {o:V} {s:Sg} (e:sgW w o=some s):0<s.c:=by
 unfold sgW at e
 split at e
 ·cases e; assumption
 ·split at e
  ·cases e
   unfold Sg.c
   rw [Zh]
   dsimp only
   omega
  ·cases e
theorem Zma {w:Wl} {n sx sy:Int} (h:Str w n sx sy) {o d:V} {s:Sg} (e:sgW w o=some s) (hn:0<s.n d):∃ x,htN w n sx sy (ryV o d)=some x/\0<x.nu/\Lk n s d x:=by
 have k1:=Ycs h o d
 have k2:=Zyh w o d
 have k3:=Zyg w o d
 have k4:=Zu0 h (ryV o d)
 have k5:=Zh (wa w o) d
 have k6:=Zh (wb w o) d
 have k7:=Zh (wb w o) (wa w o)
 have hp:=h.hn
 unfold sgW at e
 unfold htN
 generalize gW sx sy (ryV o d)=G at *
 generalize fW w sx sy (ryV o d)=F at *
 generalize xW w (ryV o d)=X at *
 generalize yW w (ryV o d)=Y at *
 split at e
 ·rename_i hc
  cases e
  have hF:0<F:=Zr (by omega) hp
  have e1:Sg.n ⟨wa w o,wb w o⟩ d=n * -G:=by unfold Sg.n; dsimp only; rw [k5,k2,k3,k4,Rp]; omega
  rw [e1] at hn
  have hG:0 < -G:=Zr hn hp
  rw [if_neg (by omega),if_pos (by omega)]
  refine ⟨_,rfl,hF,k1,e1,?_,?_⟩
  ·unfold InC; dsimp only; rw [Qc,decide_eq_true_eq,decide_eq_true_eq,k5,k2,k3]; omega
  ·unfold InO; dsimp only; rw [Qc,decide_eq_true_eq,decide_eq_true_eq,k5,k2,k3]; omega
 ·split at e
  ·rename_i hc
   cases e
   have hF:0 < -F:=Zr (a:=n) (by rw [Rp]; omega) hp
   have e1:Sg.n ⟨wb w o,wa w o⟩ d=n*G:=by unfold Sg.n; dsimp only; rw [k6,k2,k3,k4]; omega
   rw [e1] at hn
   have hG:0<G:=Zr hn hp
   rw [if_neg (by omega),if_neg (by omega)]
   refine ⟨_,rfl,hF,?_,e1,?_,?_⟩
   ·unfold Sg.c; dsimp only; rw [k7,k1,Rp]
   ·unfold InC; dsimp only; rw [Qc,decide_eq_true_eq,decide_eq_true_eq,k6,k2,k3]; omega
   ·unfold InO; dsimp only; rw [Qc,decide_eq_true_eq,decide_eq_true_eq,k6,k2,k3]; omega
  ·cases e
theorem Yen {w:Wl} {n sx sy:Int} (h:Str w n sx sy) {o d:V} {x:Ht} (e:htN w n sx sy (ryV o d)=some x) (hp:0<x.nu):∃ s,sgW w o=some s/\0<s.n d/\Lk n s d x:=by
 have hde:=Zqi e
 have k1:=Ycs h o d
 have hn:=h.hn
 cases es:sgW w o with
 | none =>
  exfalso
  unfold sgW at es
  split at es
  ·cases es
  ·split at es
   ·cases es
   ·have z:n*fW w sx sy (ryV o d)=0:=by omega
    have z:=Yg z hn
    unfold htN at e
    rw [z] at e
    split at e
    ·cases e
    ·split at e<;>cases e<;>simp at hp
 | some s =>
  have hpos:=Zdi es
  have hns:0<s.n d:=by
   have k2:=Zyh w o d
   have k3:=Zyg w o d
   have k4:=Zu0 h (ryV o d)
   have k5:=Zh (wa w o) d
   have k6:=Zh (wb w o) d
   have k7:=Zh (wb w o) (wa w o)
   unfold htN at e
   unfold sgW at es
   generalize gW sx sy (ryV o d)=G at *
   generalize fW w sx sy (ryV o d)=F at *
   generalize xW w (ryV o d)=X at *
   generalize yW w (ryV o d)=Y at *
   split at es
   ·rename_i hc
    cases es
    have hF:0<F:=Zr (by omega) hn
    split at e
    ·cases e
    ·split at e
     ·rename_i hg
      have e1:Sg.n ⟨wa w o,wb w o⟩ d=n * -G:=by unfold Sg.n; dsimp only; rw [k5,k2,k3,k4,Rp]; omega
      rw [e1]; exact Qv hn (by omega)
     ·cases e; simp at hp; omega
   ·split at es
    ·cases es
     have hF:0 < -F:=Zr (a:=n) (by rw [Rp]; omega) hn
     split at e
     ·cases e
     ·split at e
      ·cases e; simp at hp; omega
      ·have e1:Sg.n ⟨wb w o,wa w o⟩ d=n*G:=by unfold Sg.n; dsimp only; rw [k6,k2,k3,k4]; omega
       rw [e1]; exact Qv hn (by omega)
    ·cases es
  obtain ⟨y,y1,y2,y3⟩:=Zma h es hns
  rw [e] at y1
  cases y1
  exact ⟨s,rfl,hns,y3⟩
theorem Yc5 {h:Hal} (g:h.fine) {r:Ry} {i j:Nat} (hij:i≠j) (hi:i<h.cs.length) (hj:j<h.cs.length) {x y:Ht} (x1:htW (wlOf h.cs i) r=some x) (y1:htW (wlOf h.cs j) r=some y) (x2:x.on=true) (y2:y.on=true) (ht:y.nu*x.de=x.nu*y.de):x.well=false:=by
 obtain ⟨n,sx,sy,hs⟩:=g.st i hi
 obtain ⟨m,tx,ty,hs2⟩:=g.st j hj
 rw [Vn hs] at x1
 rw [Vn hs2] at y1
 have o1:=Zxd hs x1 x2
 have o2:=Zxd hs2 y1 y2
 have d1:=Zqi x1
 have d2:=Zqi y1
 have sc:∀ {w:Wl} {n sx sy p q d k:Int},0<k->onW w n sx sy p q d->onW w n sx sy (p*k) (q*k) (d*k):=fun {w n sx sy p q d k} hk ho=>by
  obtain ⟨b0,a0,a1⟩:=ho
  have e1:bes w sx sy (p*k) (q*k) (d*k)=bes w sx sy p q d*k:=by unfold bes; grind
  have e2:alo w sx sy (p*k) (q*k) (d*k)=alo w sx sy p q d*k:=by unfold alo; grind
  refine ⟨by rw [e1,b0,Sq],by rw [e2]; exact Qq a0 (by omega),?_⟩
  rw [e2,<-Lr]
  exact Qk a1 (by omega)
 have o1':=sc d2 o1
 have o2':=sc d1 o2
 rw [show (r.x*y.de+y.nu*r.dx)*x.de=(r.x*x.de+x.nu*r.dx)*y.de by grind,show (r.y*y.de+y.nu*r.dy)*x.de=(r.y*x.de+x.nu*r.dy)*y.de by grind,Rl y.de x.de] at o2'
 have e:=Zi2 g hij hi hj hs hs2 (Qv d1 d2) o1' o2'
 refine Zxe hs x1 ?_
 rcases e with ⟨e1,e2⟩|⟨e1,e2⟩
 ·exact .inl ⟨Wf (by omega:y.de≠0) (by rw [e1]; grind),Wf (by omega:y.de≠0) (by rw [e2]; grind)⟩
 ·exact .inr ⟨Wf (by omega:y.de≠0) (by rw [e1]; grind),Wf (by omega:y.de≠0) (by rw [e2]; grind)⟩
theorem Zvd {h:Hal} (g:h.fine) (o:V):Ge.Sys h.cs.length (sgH h.cs o):=by
 refine ⟨fun i s e=>Zdi e,fun i j s t d hij hi hj es et h1 h2 hn he ho=>?_⟩
 obtain ⟨n,sx,sy,hs⟩:=g.st i hi
 obtain ⟨m,tx,ty,ht⟩:=g.st j hj
 have p1:=Zdi es
 have p2:=Zdi et
 have hn2:0<t.n d:=by
  have a:=Qv p2 hn
  unfold eqT at he
  exact Zr (a:=s.c) (by omega) p1
 obtain ⟨x,x1,x2,x3⟩:=Zma hs es hn
 obtain ⟨y,y1,y2,y3⟩:=Zma ht et hn2
 have:=Yc5 g (r:=ryV o d) hij hi hj (x:=x) (y:=y) (by rw [Vn hs]; exact x1) (by rw [Vn ht]; exact y1) (x3.on.2 h1) (y3.on.2 h2) (by
  unfold eqT at he
  rw [x3.c,x3.nn,y3.c,y3.nn] at he
  have hnm:n*m≠0:=by have:=Qv hs.hn ht.hn; omega
  exact Int.eq_of_mul_eq_mul_left hnm (by grind))
 rw [x3.well.2 ho] at this
 cases this
def laI:Option Nat->Int
 | none=>-1
 | some l=>l
def frQ (cs:List (Int × Int)) (o d:V):Option Nat->Int × Int
 | none=>(0,1)
 | some l=>match htW (wlOf cs l) (ryV o d) with
  | some x=>(x.nu,x.de)
  | none=>(0,1)
def LP (cs:List (Int × Int)) (o:V) (L:Option Nat) (d:V):Prop:=∀ l,L=some l->l<cs.length/\∃ t,sgH cs o l=some t/\0<t.n d
variable {h:Hal} {o d:V} {L:Option Nat}
theorem LP.hit (g:h.fine) (hl:LP h.cs o L d) {l:Nat} (e:L=some l):l<h.cs.length/\∃ t n x,sgH h.cs o l=some t/\0<n/\htW (wlOf h.cs l) (ryV o d)=some x/\0<x.nu/\0<x.de/\Lk n t d x/\frQ h.cs o d L=(x.nu,x.de):=by
 obtain ⟨h1,t,h2,h3⟩:=hl l e
 obtain ⟨n,sx,sy,hs⟩:=g.st l h1
 obtain ⟨x,x1,x2,x3⟩:=Zma hs h2 h3
 have x1' : htW (wlOf h.cs l) (ryV o d)=some x:=by rw [Vn hs]; exact x1
 exact ⟨h1,t,n,x,h2,hs.hn,x1',x2,Zqi x1,x3,by rw [e]; unfold frQ; dsimp only; rw [x1']⟩
theorem Zy2 (g:h.fine) (hl:LP h.cs o L d):Bh h.cs (ryV o d) (frQ h.cs o d L) (laI L):=by
 cases hL:L with
 | none=>exact ⟨⟨by show (0:Int)<=0; decide,by show (0:Int)<1; decide⟩,.inl ⟨rfl,rfl⟩⟩
 | some l =>
  obtain ⟨h1,t,n,x,_,_,x1,x2,x3,_,x5⟩:=hl.hit g hL
  rw [<-hL,x5]
  exact ⟨⟨by dsimp only; omega,x3⟩,.inr ⟨l,h1,by rw [hL]; rfl,x2,x,x1,rfl,rfl⟩⟩
structure CL (s:Sg) (d:V) (i:Nat) (n:Int) (k:Cd):Prop where
 i:k.i=i
 n0:0<n
 c:s.c=n*k.nu
 nn:s.n d=n*k.de
 nu:0<k.nu
 de:0<k.de
 well:k.well=true↔InO s d
theorem Zhl (g:h.fine) (hl:LP h.cs o L d) {i:Nat} (hi:i<h.cs.length) {c:Cd} (e:Yi h.cs (ryV o d) (frQ h.cs o d L) (laI L) i=some c):∃ s n,Cnt h.cs.length (sgH h.cs o) L i s d/\CL s d i n c:=by
 obtain ⟨x,x1,x2,x3,rfl,x5⟩:=Zgq e
 obtain ⟨n,sx,sy,hs⟩:=g.st i hi
 have x1':=x1
 rw [Vn hs] at x1'
 have hde:=Zqi x1'
 have B:=Zy2 g hl
 have hp:0<x.nu:=by
  have a1:=Qq B.pos.1 (Qg hde)
  have a2:0<(frQ h.cs o d L).2*x.nu:=by rw [Rl]; omega
  exact Zr a2 B.pos.2
 obtain ⟨s,s1,s2,s3⟩:=Yen hs x1' hp
 refine ⟨s,n,⟨hi,s1,?_,s3.on.1 x2,s2,?_⟩,⟨rfl,hs.hn,s3.c,s3.nn,hp,hde,s3.well⟩⟩
 ·intro q
  rw [q] at x5
  exact x5 rfl
 ·intro l t q1 q2
  obtain ⟨_,t',m,y,y1,y2,_,_,_,y6,y7⟩:=hl.hit g q1
  rw [q2] at y1
  cases y1
  rw [y7] at x3
  unfold Ge.lt
  rw [y6.c,y6.nn,s3.c,s3.nn]
  have:=Rn x3 (Qv hs.hn y2)
  dsimp only at this
  have e1:m*y.nu*(n*x.de)=n*m*(y.nu*x.de):=by grind
  have e2:n*x.nu*(m*y.de)=n*m*(x.nu*y.de):=by grind
  omega
theorem Zgr (g:h.fine) (hl:LP h.cs o L d) {i:Nat} {s:Sg} (k:Cnt h.cs.length (sgH h.cs o) L i s d):∃ c n,Yi h.cs (ryV o d) (frQ h.cs o d L) (laI L) i=some c/\CL s d i n c:=by
 obtain ⟨n,sx,sy,hs⟩:=g.st i k.im
 obtain ⟨x,x1,x2,x3⟩:=Zma hs k.e k.n
 have hde:=Zqi x1
 refine ⟨⟨i,x.nu,x.de,x.well⟩,n,?_,⟨rfl,hs.hn,x3.c,x3.nn,x2,hde,x3.well⟩⟩
 unfold Yi
 rw [if_neg,Vn hs,x1]
 ·dsimp only
  rw [if_pos]
  refine ⟨x3.on.2 k.c,?_⟩
  cases hL:L with
  | none=>unfold frQ; dsimp only; omega
  | some l =>
   obtain ⟨_,t,m,y,y1,y2,_,_,_,y6,y7⟩:=hl.hit g hL
   rw [<-hL,y7]
   dsimp only
   have b:=k.b l t hL y1
   unfold Ge.lt at b
   rw [y6.c,y6.nn,x3.c,x3.nn] at b
   have e1:m*y.nu*(n*x.de)=n*m*(y.nu*x.de):=by grind
   have e2:n*x.nu*(m*y.de)=n*m*(x.nu*y.de):=by grind
   rw [e1,e2] at b
   exact Sd b (Qg (Qv hs.hn y2))
 ·intro q
  cases hL:L with
  | none=>rw [hL] at q; unfold laI at q; dsimp only at q; omega
  | some l =>
   rw [hL] at q
   unfold laI at q
   dsimp only at q
   exact k.l (by rw [hL]; congr 1; omega)
theorem CL.less {s t:Sg} {i j:Nat} {n m:Int} {a b:Cd} (ha:CL s d i n a) (hb:CL t d j m b):Zar a b↔Ge.lt s t d:=by
 unfold Zar Ge.lt
 rw [ha.c,ha.nn,hb.c,hb.nn]
 have e1:n*a.nu*(m*b.de)=n*m*(a.nu*b.de):=by grind
 have e2:m*b.nu*(n*a.de)=n*m*(b.nu*a.de):=by grind
 rw [e1,e2]
 have p:=Qv ha.n0 hb.n0
 exact ⟨fun q=>Rn q p,fun q=>Sd q (Qg p)⟩
theorem Zgv {f:Nat->Option Cd}:∀ {k:Nat},bstP f k=none->∀ i,i<k->f i=none
 | 0,_,i,hi=>by omega
 | k+1,e,i,hi=>by
  rw [bstP] at e
  cases hf:f k with
  | none =>
   rw [hf] at e
   have e:bstP f k=none:=by cases hb:bstP f k<;>rw [hb] at e<;>first|rfl|cases e
   by_cases q:i=k
   ·rw [q]; exact hf
   ·exact Zgv e i (by omega)
  | some c =>
   rw [hf] at e
   cases hb:bstP f k with
   | none=>rw [hb] at e; cases e
   | some b =>
    rw [hb] at e
    unfold stP at e
    dsimp only at e
    split at e<;>cases e
theorem Yea {a b c:Cd} (ha:0<a.de) (hb:0<b.de) (hc:0<c.de) (h1:¬ Zar b a) (h2:¬ Zar c b):¬ Zar c a:=by
 unfold Zar at *
 intro h3
 have k1:=Qk (Mu.1 h1) (Qg hc)
 have k2:=Qk (Mu.1 h2) (Qg ha)
 have k3:=Wb h3 hb
 have e1:a.nu*b.de*c.de=a.nu*c.de*b.de:=by grind
 have e2:b.nu*a.de*c.de=b.nu*c.de*a.de:=by grind
 have e3:c.nu*b.de*a.de=c.nu*a.de*b.de:=by grind
 omega
theorem Zhm {f:Nat->Option Cd} {m:Nat} (hd:∀ i c,i<m->f i=some c->0<c.de):∀ {k:Nat} {c:Cd},k<=m->bstP f k=some c->∀ i e,i<k->f i=some e -> ¬ Zar e c
 | 0,_,_,_,i,_,hi,_=>by omega
 | k+1,c,hk,e,i,ei,hi,hf=>by
  rw [bstP] at e
  cases hfk:f k with
  | none =>
   rw [hfk] at e
   have e:bstP f k=some c:=by cases hb:bstP f k<;>rw [hb] at e<;>exact e
   have:i≠k:=fun q=>by rw [q,hfk] at hf; cases hf
   exact Zhm hd (by omega) e i ei (by omega) hf
  | some c2 =>
   rw [hfk] at e
   have d2:=hd k c2 (by omega) hfk
   cases hb:bstP f k with
   | none =>
    rw [hb] at e
    cases e
    by_cases q:i=k
    ·subst q
     rw [hfk] at hf
     cases hf
     unfold Zar; omega
    ·have:=Zgv hb i (by omega)
     rw [this] at hf; cases hf
   | some b =>
    rw [hb] at e
    obtain ⟨jb,hjb,ejb⟩:=Vs hb
    have db:=hd jb b (by omega) ejb
    unfold stP at e
    dsimp only at e
    have de:=hd i ei (by omega) hf
    split at e
    ·rename_i hl
     cases e
     by_cases q:i=k
     ·subst q
      rw [hfk] at hf
      cases hf
      unfold Zar; omega
     ·have ih:=Zhm hd (by omega) hb i ei (by omega) hf
      refine Yea d2 db de ?_ ih
      unfold Zar at *; omega
    ·rename_i hl
     cases e
     by_cases q:i=k
     ·subst q
      rw [hfk] at hf
      cases hf
      exact hl
     ·exact Zhm hd (by omega) hb i ei (by omega) hf
abbrev bstV (cs:List (Int × Int)) (o d:V) (L:Option Nat):Option Cd:=bstP (Yi cs (ryV o d) (frQ cs o d L) (laI L)) cs.length
theorem Zq7 (g:h.fine) (hl:LP h.cs o L d):∀ i c,i<h.cs.length->Yi h.cs (ryV o d) (frQ h.cs o d L) (laI L) i=some c->0<c.de:=fun i c hi e=>by
 obtain ⟨s,n,_,k⟩:=Zhl g hl hi e
 exact k.de
theorem Zxo (g:h.fine) (hl:LP h.cs o L d) {i:Nat} {s:Sg} (k:Fst h.cs.length (sgH h.cs o) L i s d):∃ c,bstV h.cs o d L=some c/\c.i=i/\c.well=true:=by
 obtain ⟨ci,n,e,q⟩:=Zgr g hl k.c
 cases hb:bstV h.cs o d L with
 | none=>have:=Zgv hb i k.c.im; rw [this] at e; cases e
 | some c =>
  obtain ⟨j,hj,ej⟩:=Vs hb
  obtain ⟨t,m,k2,q2⟩:=Zhl g hl hj ej
  by_cases hji:j=i
  ·subst hji
   rw [e] at ej
   cases ej
   exact ⟨_,rfl,q.i,q.well.2 k.o⟩
  ·exact absurd ((q.less q2).2 (k.f j t k2 hji)) (Zhm (Zq7 g hl) (Qd _) hb i ci k.c.im e)
def Zlt (cs:List (Int × Int)) (o d:V) (L:Option Nat):Bool:=match bstV cs o d L with
 | none=>false
 | some c=>decide (c.nu<c.de)
theorem Zpj (g:h.fine) (hl:LP h.cs o L d):Zlt h.cs o d L=false↔∀ i s,Cnt h.cs.length (sgH h.cs o) L i s d->s.n d<=s.c:=by
 unfold Zlt
 constructor
 ·intro h1 i s k
  obtain ⟨ci,n,ei,q⟩:=Zgr g hl k
  cases hb:bstV h.cs o d L with
  | none=>have:=Zgv hb i k.im; rw [this] at ei; cases ei
  | some c =>
   rw [hb] at h1
   have h1:¬ c.nu<c.de:=by simpa using h1
   have h2:=Zhm (Zq7 g hl) (Qd _) hb i ci k.im ei
   obtain ⟨j,hj,ej⟩:=Vs hb
   have dc:=Zq7 g hl j c hj ej
   rw [q.c,q.nn]
   refine Qw ?_ (Qg q.n0)
   unfold Zar at h2
   have d1:=q.de
   have a1:=Qk (Mu.1 h1) (Qg d1)
   have a2:=Mu.1 h2
   have a3:ci.de*c.de<=ci.nu*c.de:=by rw [Rl ci.de]; omega
   exact Lb a3 dc
 ·intro h1
  cases hb:bstV h.cs o d L with
  | none=>rfl
  | some c =>
   obtain ⟨j,hj,ej⟩:=Vs hb
   obtain ⟨t,m,k2,q2⟩:=Zhl g hl hj ej
   have:=h1 j t k2
   rw [q2.c,q2.nn] at this
   have:=Sw this q2.n0
   simpa using this
open Go Go.Sx
def cmpQ (n d m k:Int):Int:=sgn (n*k-m*d)
def crV (N M:P2d) (D x y:Int):Int:=(M.x-N.x)*(y*D-N.y)-(M.y-N.y)*(x*D-N.x)
def tch (N M:P2d) (D ax ay bx by' : Int):Prop:=∃ s t l m:Int,0<=s/\0<=t/\0<s+t/\0<=l/\0<=m/\0<l+m/\(l*N.x+m*M.x)*(s+t)=(l+m)*(D*(s*ax+t*bx))/\(l*N.y+m*M.y)*(s+t)=(l+m)*(D*(s*ay+t*by'))
theorem Zzn {N M:P2d} {D ax ay bx by' : Int} (h:tch N M D ax ay bx by'):tch N M D bx by' ax ay:=by
 obtain ⟨s,t,l,m,h1,h2,h3,h4,h5,h6,h7,h8⟩:=h
 exact ⟨t,s,l,m,h2,h1,by omega,h4,h5,h6,by rw [Pi t s,Pi (t*bx)]; exact h7,by rw [Pi t s,Pi (t*by')]; exact h8⟩
theorem Zzm {N M:P2d} {D ax ay bx by' : Int} (h:tch N M D ax ay bx by'):tch M N D ax ay bx by':=by
 obtain ⟨s,t,l,m,h1,h2,h3,h4,h5,h6,h7,h8⟩:=h
 exact ⟨s,t,m,l,h1,h2,h3,h5,h4,by omega,by rw [Pi m l,Pi (m*M.x)]; exact h7,by rw [Pi m l,Pi (m*M.y)]; exact h8⟩
theorem Yfg {N M:P2d} {D ax ay bx by' : Int} (hy:N.y<M.y) {s t:Int} (hs:0<=s) (ht:0<=t) (hw:0<s+t) (h1:N.y*(s+t)<=D*(s*ay+t*by')) (h2:D*(s*ay+t*by')<=M.y*(s+t)) (h0:s*crV N M D ax ay+t*crV N M D bx by'=0):tch N M D ax ay bx by':=by
 refine ⟨s,t,M.y*(s+t)-D*(s*ay+t*by'),D*(s*ay+t*by')-N.y*(s+t),hs,ht,hw,by omega,by omega,?_,?_,?_⟩
 ·have:(M.y-N.y)*(s+t)=M.y*(s+t)-N.y*(s+t):=Oy _ _ _
  have:=Qv (show 0<M.y-N.y by omega) hw
  omega
 ·unfold crV at h0
  grind
 ·grind
theorem Yc6 {N M:P2d} {D ax ay bx by' : Int} (hy:N.y<M.y) {s t s' t' : Int} (hs:0<=s) (ht:0<=t) (hw:0<s+t) (hs' : 0<=s') (ht' : 0<=t') (hw' : 0<s'+t') (h1:N.y*(s+t)<=D*(s*ay+t*by')) (h2:D*(s*ay+t*by')<=M.y*(s+t))
  (h1' : N.y*(s'+t')<=D*(s'*ay+t'*by')) (h2' : D*(s'*ay+t'*by')<=M.y*(s'+t')) (c1:s*crV N M D ax ay+t*crV N M D bx by'<0) (c2:0<=s'*crV N M D ax ay+t'*crV N M D bx by'):tch N M D ax ay bx by':=by
 generalize hA:crV N M D ax ay=A at *
 generalize hB:crV N M D bx by'=B at *
 generalize hp:s*A+t*B=p at *
 generalize hq:s'*A+t'*B=q at *
 have k1:=Qq c2 hs
 have k2:=Qq c2 ht
 have k3:=Qq (show 0 <= -p by omega) hs'
 have k4:=Qq (show 0 <= -p by omega) ht'
 have k5:=Qv (show 0 < -p by omega) hw'
 have k6:=Qq c2 (Qg hw)
 have e0:q*s + -p*s'+(q*t + -p*t')=q*(s+t) + -p*(s'+t'):=by grind
 have eY:D*((q*s + -p*s')*ay+(q*t + -p*t')*by')=q*(D*(s*ay+t*by')) + -p*(D*(s'*ay+t'*by')):=by grind
 have i1:=Qw h1 c2
 have i2:=Qw h2 c2
 have i3:=Qw h1' (show 0 <= -p by omega)
 have i4:=Qw h2' (show 0 <= -p by omega)
 refine Yfg hy (s:=q*s + -p*s') (t:=q*t + -p*t') (by omega) (by omega) (by omega) ?_ ?_ ?_
 ·rw [e0,eY]
  have:N.y*(q*(s+t) + -p*(s'+t'))=q*(N.y*(s+t)) + -p*(N.y*(s'+t')):=by grind
  omega
 ·rw [e0,eY]
  have:M.y*(q*(s+t) + -p*(s'+t'))=q*(M.y*(s+t)) + -p*(M.y*(s'+t')):=by grind
  omega
 ·rw [hA,hB]
  have:(q*s + -p*s')*A+(q*t + -p*t')*B=q*(s*A+t*B) + -p*(s'*A+t'*B):=by grind
  rw [this,hp,hq]; grind
def detE (p:P2d) (D ax ay bx by' : Int):Int:=(bx-ax)*(p.y-ay*D)-(by'-ay)*(p.x-ax*D)
def upE (p:P2d) (D ax ay bx by' : Int):Prop:=ay*D<=p.y/\p.y<by'*D/\0<detE p D ax ay bx by'
def rgE (N M:P2d) (D x y:Int):Prop:=N.y<y*D/\y*D<=M.y/\crV N M D x y<0
theorem Zyb {N M:P2d} {D ax ay bx by' : Int} (hD:0<D) (hy:N.y<=M.y) (hab:ay<=by') (nt:¬ tch N M D ax ay bx by') :
  (upE N D ax ay bx by'↔upE M D ax ay bx by')↔(rgE N M D ax ay↔rgE N M D bx by'):=by
 have hm:ay*D<=by'*D:=Qk hab (Qg hD)
 by_cases hyy:N.y=M.y
 ·
  have r1:∀ x y,¬ rgE N M D x y:=by rintro x y ⟨a,b,_⟩; omega
  have key:upE N D ax ay bx by'↔upE M D ax ay bx by':=by
   by_cases hl:ay*D<=N.y/\N.y<by'*D
   ·have dd:detE N D ax ay bx by'-detE M D ax ay bx by'=(by'-ay)*(M.x-N.x):=by unfold detE; rw [hyy]; grind
    have hw:by'*D-ay*D=(by'-ay)*D:=by rw [Oy]
    have t1:∀ s,s=by'*D-N.y->∀ t,t=N.y-ay*D->D*(s*ax+t*bx)=N.x*((by'-ay)*D)+D*detE N D ax ay bx by':=by
     rintro s rfl t rfl; unfold detE; grind
    have t2:∀ s,s=by'*D-N.y->∀ t,t=N.y-ay*D->D*(s*ay+t*by')=N.y*((by'-ay)*D):=by
     rintro s rfl t rfl; grind
    unfold upE
    rw [<-hyy]
    constructor
    ·rintro ⟨h1,h2,h3⟩
     refine ⟨h1,h2,?_⟩
     by_cases h4:0<detE M D ax ay bx by'
     ·exact h4
     exfalso
     refine nt ⟨by'*D-N.y,N.y-ay*D,-detE M D ax ay bx by',detE N D ax ay bx by',by omega,by omega,by omega,by omega,by omega,by omega,?_,?_⟩
     ·rw [t1 _ rfl _ rfl,show by'*D-N.y+(N.y-ay*D)=(by'-ay)*D by omega]
      generalize detE N D ax ay bx by'=u at *
      generalize detE M D ax ay bx by'=v at *
      grind
     ·rw [t2 _ rfl _ rfl,show by'*D-N.y+(N.y-ay*D)=(by'-ay)*D by omega,<-hyy]
      generalize detE N D ax ay bx by'=u at *
      generalize detE M D ax ay bx by'=v at *
      grind
    ·rintro ⟨h1,h2,h3⟩
     refine ⟨h1,h2,?_⟩
     by_cases h4:0<detE N D ax ay bx by'
     ·exact h4
     exfalso
     refine nt ⟨by'*D-N.y,N.y-ay*D,detE M D ax ay bx by',-detE N D ax ay bx by',by omega,by omega,by omega,by omega,by omega,by omega,?_,?_⟩
     ·rw [t1 _ rfl _ rfl,show by'*D-N.y+(N.y-ay*D)=(by'-ay)*D by omega]
      generalize detE N D ax ay bx by'=u at *
      generalize detE M D ax ay bx by'=v at *
      grind
     ·rw [t2 _ rfl _ rfl,show by'*D-N.y+(N.y-ay*D)=(by'-ay)*D by omega,<-hyy]
      generalize detE N D ax ay bx by'=u at *
      generalize detE M D ax ay bx by'=v at *
      grind
   ·unfold upE
    rw [<-hyy]
    constructor<;>(rintro ⟨h1,h2,h3⟩; exact absurd ⟨h1,h2⟩ hl)
  exact ⟨fun _=>⟨fun h=>absurd h (r1 _ _),fun h=>absurd h (r1 _ _)⟩,fun _=>key⟩
 have hy:N.y<M.y:=by omega
 have lvl:∀ p:P2d,ay*D<=p.y->p.y<by'*D->0<=by'*D-p.y/\0<=p.y-ay*D/\0<(by'*D-p.y)+(p.y-ay*D)/\D*((by'*D-p.y)*ay+(p.y-ay*D)*by')=p.y*((by'*D-p.y)+(p.y-ay*D)):=by
  intro p h1 h2
  refine ⟨by omega,by omega,by omega,by grind⟩
 have crN:(by'*D-N.y)*crV N M D ax ay+(N.y-ay*D)*crV N M D bx by' = -((M.y-N.y)*D*detE N D ax ay bx by'):=by unfold crV detE; grind
 have crM:(by'*D-M.y)*crV N M D ax ay+(M.y-ay*D)*crV N M D bx by' = -((M.y-N.y)*D*detE M D ax ay bx by'):=by unfold crV detE; grind
 have hp:0<(M.y-N.y)*D:=Qv (by omega) hD
 have sN:∀ v,-((M.y-N.y)*D*v)<0↔0<v:=fun v=>by have:=Znu (a:=v) hp; omega
 have sN2:∀ v,0 <= -((M.y-N.y)*D*v)↔v<=0:=fun v=>by have:=np_l (a:=v) hp; omega
 have one:D*(1*ay+0*by')=ay*D/\D*(0*ay+1*by')=by'*D:=by constructor<;>grind
 have cA:1*crV N M D ax ay+0*crV N M D bx by'=crV N M D ax ay:=by omega
 have cB:0*crV N M D ax ay+1*crV N M D bx by'=crV N M D bx by':=by omega
 have two:=fun {s t s' t' : Int}=>@Yc6 N M D ax ay bx by' hy s t s' t'
 by_cases a0:ay*D<=N.y
 ·by_cases b0:by'*D<=N.y
  ·unfold upE rgE; constructor<;>intro _<;>constructor<;>(rintro ⟨h1,h2,h3⟩; omega)
  obtain ⟨l1,l2,l3,l4⟩:=lvl N a0 (by omega)
  by_cases b1:by'*D<=M.y
  ·
   have key:0<detE N D ax ay bx by'↔crV N M D bx by'<0:=by
    constructor
    ·intro h
     by_cases hc:crV N M D bx by'<0
     ·exact hc
     exact absurd (two (s':=0) (t':=1) l1 l2 l3 (by omega) (by omega) (by omega) (by rw [l4]; omega) (by rw [l4]; exact Qk (Qg hy) (Qg l3)) (by rw [one.2]; omega) (by rw [one.2]; omega) (by rw [crN]; exact (sN _).2 h) (by rw [cB]; omega)) nt
    ·intro h
     by_cases hc:0<detE N D ax ay bx by'
     ·exact hc
     exact absurd (two (s:=0) (t:=1) (by omega) (by omega) (by omega) l1 l2 l3 (by rw [one.2]; omega) (by rw [one.2]; omega) (by rw [l4]; omega) (by rw [l4]; exact Qk (Qg hy) (Qg l3)) (by rw [cB]; exact h) (by rw [crN]; exact (sN2 _).2 (by omega))) nt
   unfold upE rgE
   rw [<-key]
   generalize detE N D ax ay bx by'=u at *
   constructor
   ·intro h
    constructor
    ·rintro ⟨h1,_,_⟩; omega
    ·rintro ⟨_,_,h3⟩
     have:=h.1 ⟨a0,by omega,h3⟩
     omega
   ·intro h
    constructor
    ·rintro ⟨_,_,h3⟩
     have:=h.2 ⟨by omega,b1,h3⟩
     omega
    ·rintro ⟨_,h2,_⟩; omega
  ·
   obtain ⟨m1,m2,m3,m4⟩:=lvl M (by omega) (by omega)
   have key:0<detE N D ax ay bx by'↔0<detE M D ax ay bx by':=by
    constructor
    ·intro h
     by_cases hc:0<detE M D ax ay bx by'
     ·exact hc
     exact absurd (two l1 l2 l3 m1 m2 m3 (by rw [l4]; omega) (by rw [l4]; exact Qk (Qg hy) (Qg l3)) (by rw [m4]; exact Qk (Qg hy) (Qg m3)) (by rw [m4]; omega) (by rw [crN]; exact (sN _).2 h) (by rw [crM]; exact (sN2 _).2 (by omega))) nt
    ·intro h
     by_cases hc:0<detE N D ax ay bx by'
     ·exact hc
     exact absurd (two m1 m2 m3 l1 l2 l3 (by rw [m4]; exact Qk (Qg hy) (Qg m3)) (by rw [m4]; omega) (by rw [l4]; omega) (by rw [l4]; exact Qk (Qg hy) (Qg l3)) (by rw [crM]; exact (sN _).2 h) (by rw [crN]; exact (sN2 _).2 (by omega))) nt
   unfold upE rgE
   rw [key]
   constructor
   ·intro _; constructor<;>(rintro ⟨h1,h2,h3⟩; omega)
   ·intro _
    constructor
    ·rintro ⟨_,_,h3⟩; exact ⟨by omega,by omega,h3⟩
    ·rintro ⟨_,_,h3⟩; exact ⟨by omega,by omega,h3⟩
 by_cases a1:ay*D<=M.y
 ·by_cases b1:by'*D<=M.y
  ·
   have key:crV N M D ax ay<0↔crV N M D bx by'<0:=by
    constructor
    ·intro h
     by_cases hc:crV N M D bx by'<0
     ·exact hc
     exact absurd (two (s:=1) (t:=0) (s':=0) (t':=1) (by omega) (by omega) (by omega) (by omega) (by omega) (by omega) (by rw [one.1]; omega) (by rw [one.1]; omega) (by rw [one.2]; omega) (by rw [one.2]; omega) (by rw [cA]; exact h) (by rw [cB]; omega)) nt
    ·intro h
     by_cases hc:crV N M D ax ay<0
     ·exact hc
     exact absurd (two (s:=0) (t:=1) (s':=1) (t':=0) (by omega) (by omega) (by omega) (by omega) (by omega) (by omega) (by rw [one.2]; omega) (by rw [one.2]; omega) (by rw [one.1]; omega) (by rw [one.1]; omega) (by rw [cB]; exact h) (by rw [cA]; omega)) nt
   unfold upE rgE
   rw [key]
   constructor
   ·intro _
    constructor
    ·rintro ⟨_,_,h3⟩; exact ⟨by omega,by omega,h3⟩
    ·rintro ⟨_,_,h3⟩; exact ⟨by omega,by omega,h3⟩
   ·intro _; constructor<;>(rintro ⟨h1,h2,h3⟩; omega)
  ·
   obtain ⟨m1,m2,m3,m4⟩:=lvl M a1 (by omega)
   have key:0<detE M D ax ay bx by'↔crV N M D ax ay<0:=by
    constructor
    ·intro h
     by_cases hc:crV N M D ax ay<0
     ·exact hc
     exact absurd (two (s':=1) (t':=0) m1 m2 m3 (by omega) (by omega) (by omega) (by rw [m4]; exact Qk (Qg hy) (Qg m3)) (by rw [m4]; omega) (by rw [one.1]; omega) (by rw [one.1]; omega) (by rw [crM]; exact (sN _).2 h) (by rw [cA]; omega)) nt
    ·intro h
     by_cases hc:0<detE M D ax ay bx by'
     ·exact hc
     exact absurd (two (s:=1) (t:=0) (by omega) (by omega) (by omega) m1 m2 m3 (by rw [one.1]; omega) (by rw [one.1]; omega) (by rw [m4]; exact Qk (Qg hy) (Qg m3)) (by rw [m4]; omega) (by rw [cA]; exact h) (by rw [crM]; exact (sN2 _).2 (by omega))) nt
   unfold upE rgE
   rw [<-key]
   generalize detE M D ax ay bx by'=u at *
   constructor
   ·intro h
    constructor
    ·rintro ⟨_,_,h3⟩
     have:=h.2 ⟨a1,by omega,h3⟩
     omega
    ·rintro ⟨_,h2,_⟩; omega
   ·intro h
    constructor
    ·rintro ⟨h1,_,_⟩; omega
    ·rintro ⟨_,_,h3⟩
     have:=h.1 ⟨by omega,a1,h3⟩
     omega
 ·unfold upE rgE; constructor<;>intro _<;>constructor<;>(rintro ⟨h1,h2,h3⟩; omega)
instance (p:P2d) (D ax ay bx by' : Int):Decidable (upE p D ax ay bx by'):=by unfold upE; exact inferInstance
instance (N M:P2d) (D x y:Int):Decidable (rgE N M D x y):=by unfold rgE; exact inferInstance
def flZ (p:P2d) (w:Wl):Bool:=if w.fy<=w.ty then decide (upE p p.d w.fx w.fy w.tx w.ty) else decide (upE p p.d w.tx w.ty w.fx w.fy)
theorem Ye2 {w:Wl} {n sx sy:Int} (h:Str w n sx sy) (p:P2d):detE p p.d w.fx w.fy w.tx w.ty=n*bsP w sx sy p/\detE p p.d w.tx w.ty w.fx w.fy = -(n*bsP w sx sy p):=by
 unfold detE bsP bes
 rw [h.tx,h.ty]
 constructor<;>grind
theorem Yet {w:Wl} {n sx sy x y d:Int} (h:Str w n sx sy) (hp:PtOk x y d):flips x y d w=flZ ⟨x,y,d⟩ w:=by
 have a2:=Uw h.b2 hp.hd
 have a4:=Uw h.b4 hp.hd
 have hD:=hp.hD
 have hd:=hp.hd
 obtain ⟨e1,e2⟩:=Ye2 h ⟨x,y,d⟩
 have hn:=h.hn
 unfold flips flZ
 rw [Vf h hp,W_eq (n:=w.fy*d) (by omega) (by omega),W_eq (n:=w.ty*d) (by omega) (by omega)]
 change detE ⟨x,y,d⟩ d w.fx w.fy w.tx w.ty=_ at e1
 change detE ⟨x,y,d⟩ d w.tx w.ty w.fx w.fy=_ at e2
 have p1:=Znu (a:=bsP w sx sy ⟨x,y,d⟩) hn
 have p2:=Zwl (a:=bsP w sx sy ⟨x,y,d⟩) hn
 have es:bes w sx sy x y d=bsP w sx sy ⟨x,y,d⟩:=rfl
 rw [es]
 have u1:upE ⟨x,y,d⟩ d w.fx w.fy w.tx w.ty↔w.fy*d<=y/\y<w.ty*d/\0<n*bsP w sx sy ⟨x,y,d⟩:=by rw [<-e1]; exact Iff.rfl
 have u2:upE ⟨x,y,d⟩ d w.tx w.ty w.fx w.fy↔w.ty*d<=y/\y<w.fy*d/\0 < -(n*bsP w sx sy ⟨x,y,d⟩):=by rw [<-e2]; exact Iff.rfl
 show _=if w.fy<=w.ty then decide (upE ⟨x,y,d⟩ d w.fx w.fy w.tx w.ty) else decide (upE ⟨x,y,d⟩ d w.tx w.ty w.fx w.fy)
 by_cases hc:w.fy<=w.ty
 ·have hm:w.fy*d<=w.ty*d:=Qk hc (Qg hd)
  rw [if_pos hc,Sc]
  simp only [Ro,Qc,decide_eq_true_eq,Vu,Vv,u1]
  generalize bsP w sx sy ⟨x,y,d⟩=B at *
  omega
 ·have hm:w.ty*d<=w.fy*d:=Qk (by omega) (Qg hd)
  rw [if_neg hc,Sc]
  simp only [Ro,Qc,decide_eq_true_eq,Vu,Vv,u2]
  generalize bsP w sx sy ⟨x,y,d⟩=B at *
  omega
def mulP (k:Int) (p:P2d):P2d:=⟨k*p.x,k*p.y,k*p.d⟩
theorem Yc4 {k:Int} (hk:0<k) (p:P2d) (ax ay bx by' : Int):upE (mulP k p) (k*p.d) ax ay bx by'↔upE p p.d ax ay bx by':=by
 unfold upE
 have e:detE (mulP k p) (k*p.d) ax ay bx by'=k*detE p p.d ax ay bx by':=by unfold detE mulP; dsimp only; grind
 rw [e,Znu hk]
 have e1:ay*(k*p.d)<=(mulP k p).y↔ay*p.d<=p.y:=by
  show _<=k*p.y↔_
  rw [show ay*(k*p.d)=ay*p.d*k by grind,Rl k]; exact Zwp hk
 have e2:(mulP k p).y<by'*(k*p.d)↔p.y<by'*p.d:=by
  show k*p.y<_↔_
  rw [show by'*(k*p.d)=by'*p.d*k by grind,Rl k]; exact Zwm hk
 rw [e1,e2]
theorem Yew {k:Int} (hk:0<k) (p:P2d) (w:Wl):flZ (mulP k p) w=flZ p w:=by
 unfold flZ
 show (if _ then decide (upE (mulP k p) (k*p.d) _ _ _ _) else decide (upE (mulP k p) (k*p.d) _ _ _ _))=_
 simp only [Yc4 hk]
theorem Zyc {N M:P2d} {D:Int} (hN:N.d=D) (hM:M.d=D) (hD:0<D) (hy:N.y<=M.y) {w:Wl} (nt:¬ tch N M D w.fx w.fy w.tx w.ty):(flZ N w ^^ flZ M w)=(decide (rgE N M D w.fx w.fy) ^^ decide (rgE N M D w.tx w.ty)):=by
 unfold flZ
 rw [hN,hM]
 by_cases hc:w.fy<=w.ty
 ·rw [if_pos hc,if_pos hc]
  exact Zpo (Zyb hD hy hc nt)
 ·rw [if_neg hc,if_neg hc,Bool.xor_comm (decide (rgE N M D w.fx w.fy))]
  exact Zpo (Zyb hD hy (by omega) fun h=>nt (Zzn h))
theorem Zzh {N M:P2d} {D:Int} (hN:N.d=D) (hM:M.d=D) (hD:0<D) {cs:List (Int × Int)} (nt:∀ w∈wls cs,¬ tch N M D w.fx w.fy w.tx w.ty):xorL ((wls cs).map (flZ N))=xorL ((wls cs).map (flZ M)):=by
 have key:∀ N M:P2d,N.d=D->M.d=D->N.y<=M.y->(∀ w∈wls cs,¬ tch N M D w.fx w.fy w.tx w.ty)->(xorL ((wls cs).map (flZ N)) ^^ xorL ((wls cs).map (flZ M)))=false:=by
  intro N M h1 h2 hy h3
  rw [Zim,<-tele (fun x y=>decide (rgE N M D x y)) cs]
  congr 1
  refine List.map_congr_left fun w hw=>?_
  exact Zyc h1 h2 hD hy (h3 w hw)
 have fin:∀ a b:Bool,(a ^^ b)=false->a=b:=by decide
 rcases Lc N.y M.y with hy|hy
 ·exact fin _ _ (key N M hN hM hy nt)
 ·exact (fin _ _ (key M N hM hN hy fun w hw h=>nt w hw (Zzm h))).symm
end Go.Proofs.YtanbhfpalahjcaaGreat
