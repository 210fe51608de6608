/- A part of the proof: lemmas. -/
import Derived.Test.YtanbhfpalahjcaaGreatG10
import Derived.Test.YtanbhfpalahjcaaGreatG6
import Derived.Test.YtanbhfpalahjcaaGreatG7
set_option linter.unusedVariables false
set_option linter.unusedSimpArgs false
set_option maxRecDepth 100000
set_option maxHeartbeats 16000000
open Bool renaming and_eq_true->Qc,eq_false_iff->Qx,eq_iff_iff->Sc,false_eq_true->Rs,not_eq_true'->Te,or_eq_true->Ro,true_and->Tv
open Classical renaming not_not->Ho
open Function renaming comp->Dh
open Go.IntKind renaming i64->Qb,wrap->Qa,wrap_i64->Ww
open Go.Proofs.YtanbhfpalahjcaaGreat.Can renaming av->Nl
open Go.Proofs.YtanbhfpalahjcaaGreat.Mat renaming av->Ng
open Go.Proofs.YtanbhfpalahjcaaGreat.Sea renaming av->Nh
open Go.Proofs.YtanbhfpalahjcaaGreat.Wal renaming av->Wu
open Go.Proofs.YtanbhfpalahjcaaGreat.Wl renaming straight->Hn
open Go.Sx.AV renaming one->Ke
open Go.Sx.Done renaming mk->Qr
open Go.Sx.LpM renaming succ->Wt
open Int renaming add_zero->Wn,ediv_emod_unique->Fw,lt_tmod_of_pos->Ds,lt_trichotomy->We,mul_neg->Rp,mul_one->Rw,mul_zero->Sb,neg_mul->Tq,neg_neg->Wx,one_mul->Sj,sub_mul->Oy,sub_self->Gv,tmod_lt_of_pos->Dq,zero_add->Ph,zero_mul->Sq
open List renaming any_eq_false->Qac,drop_eq_getElem_cons->Ql,drop_of_length_le->Qo,drop_zero->Tz,getElem?_eq_getElem->Qe,getElem_mem->Qn,map_append->Rm,map_congr_left->Nc,map_cons->Ss,mem_append->Sh,mem_cons->Ra,mem_iff_getElem->Je,mem_map->Ta,mem_range->Rx,mem_singleton->Tm,not_mem_nil->Kx,take_of_length_le->Sz,take_succ_eq_append_getElem->Qu
open List.cons renaming injEq->Rd
open Nat renaming le_refl->Qd,sub_zero->Oo,zero_add->Sk,zero_le->Qp
namespace Go.Proofs.YtanbhfpalahjcaaGreat
open Go Go.Sx
def xorL:List Bool->Bool
 | []=>false
 | b::l=>b ^^ xorL l
theorem Zin:∀ (l m:List Bool),xorL (l++m)=(xorL l ^^ xorL m)
 | [],m=>by simp [xorL]
 | b::l,m=>by simp [xorL,Zin l m]
theorem Zim {α:Type} (a b:α->Bool):∀ l:List α,(xorL (l.map a) ^^ xorL (l.map b))=xorL (l.map fun x=>a x ^^ b x)
 | []=>rfl
 | x::l=>by
  simp only [Ss,xorL,<-Zim a b l]
  cases a x<;>cases b x<;>cases xorL (l.map a)<;>cases xorL (l.map b)<;>rfl
theorem Zsl {x y d:Int}:∀ (l:List Wl) (b:Bool),(∀ w∈l,w.has x y d=false)->inPl x y d b l=(b ^^ xorL (l.map (flips x y d)))
 | [],b,_=>by simp [inPl,xorL]
 | w::l,b,h=>by
  rw [Zoe (h w (by simp)),Zsl l _ (fun u hu=>h u (by simp [hu]))]
  simp [xorL]
theorem Zm7 (G:Nat->Bool) (n:Nat):∀ k,k<=n->xorL ((List.range k).map fun i=>G i ^^ G ((i+1)%n))=(G 0 ^^ G (k%n))
 | 0,_=>by simp [xorL]
 | k+1,h=>by
  rw [List.range_succ,Rm,Zin,Zm7 G n k (by omega),Nat.mod_eq_of_lt (show k<n by omega)]
  simp only [Ss,List.map_nil,xorL]
  cases G 0<;>cases G k<;>cases G ((k+1)%n)<;>rfl
theorem tele (g:Int->Int->Bool) (cs:List (Int × Int)):xorL ((wls cs).map fun w=>g w.fx w.fy ^^ g w.tx w.ty)=false:=by
 have:=Zm7 (fun i=>g (cor cs i).1 (cor cs i).2) cs.length cs.length (Qd _)
 rw [Nat.mod_self] at this
 rw [wls,List.map_map]
 have e:((fun w:Wl=>g w.fx w.fy ^^ g w.tx w.ty) ∘ wlOf cs)=fun i=>g (cor cs i).1 (cor cs i).2 ^^ g (cor cs ((i+1)%cs.length)).1 (cor cs ((i+1)%cs.length)).2:=rfl
 rw [e,this]
 simp
theorem Zgh {w:Wl} {n sx sy x y:Int} (h:Str w n sx sy) (hp:PtOk x y 1):flips x y 1 w=true↔(w.fy<=y/\y<w.ty/\0<bes w sx sy x y 1)\/(w.ty<=y/\y<w.fy/\bes w sx sy x y 1<0):=by
 have b2:=h.b2
 have b4:=h.b4
 unfold flips
 rw [Vf h hp,Rw,Rw,W_eq (n:=w.fy) (by omega) (by omega),W_eq (n:=w.ty) (by omega) (by omega)]
 simp only [Ro,Qc,decide_eq_true_eq,Vu,Vv,and_assoc]
theorem Yev {w:Wl} {n sx sy Y:Int} {q:Rc} (h:Str w n sx sy) (hq:RcOk q) (nh:¬hit w n sx sy q) (h1:q.yl<=Y) (h2:Y<=q.yh):flips q.xl Y 1 w=flips q.xh Y 1 w:=by
 have q1:=hq.x
 have q2:=hq.y
 have q3:=hq.b1
 have q4:=hq.b2
 have q5:=hq.b3
 have q6:=hq.b4
 rw [Sc,Zgh h (Xc (by omega) (by omega)),Zgh h (Xc (by omega) (by omega))]
 have key:∀ t,¬(0<=t/\t<=n/\q.xl<=w.fx+t*sx/\w.fx+t*sx<=q.xh/\q.yl<=w.fy+t*sy/\w.fy+t*sy<=q.yh):=fun t ht=>nh ⟨t,ht⟩
 have hn:=h.hn
 have hxy:=h.hxy
 unfold bes
 rw [h.ty]
 have k:=key ((Y-w.fy)*sy)
 clear key nh
 rcases h.hx with rfl|rfl|rfl<;>rcases h.hy with rfl|rfl|rfl<;>(try (exact absurd ⟨rfl,rfl⟩ hxy))<;>simp only [Sb,Rw,Rp,Sq,Tq,Sj,Wx,Ph,Wn] at k ⊢ <;> omega
def inR (X Y1 Y2 x y:Int):Bool:=decide (Y1<y/\y<=Y2/\X<x)
theorem Zpo {A B C D:Prop} [Decidable A] [Decidable B] [Decidable C] [Decidable D] (h:(A↔B)↔(C↔D)):(decide A ^^ decide B)=(decide C ^^ decide D):=by
 by_cases a:A<;>by_cases b:B<;>by_cases c:C<;>by_cases d:D<;>simp_all
theorem Ycq {b:Bool} {p:Prop} [Decidable p] (h:b=true↔p):b=decide p:=by
 cases b
 ·exact (decide_eq_false (fun hp=>by simpa using h.2 hp)).symm
 ·exact (decide_eq_true (h.1 rfl)).symm
theorem Yeu {w:Wl} {n sx sy:Int} {q:Rc} (h:Str w n sx sy) (hq:RcOk q) (nh:¬hit w n sx sy q):(flips q.xl q.yl 1 w ^^ flips q.xl q.yh 1 w)=(inR q.xl q.yl q.yh w.fx w.fy ^^ inR q.xl q.yl q.yh w.tx w.ty):=by
 have q1:=hq.x
 have q2:=hq.y
 have q3:=hq.b1
 have q4:=hq.b2
 have q5:=hq.b3
 have q6:=hq.b4
 rw [Ycq (Zgh h (Xc (x:=q.xl) (y:=q.yl) (by omega) (by omega))),Ycq (Zgh h (Xc (x:=q.xl) (y:=q.yh) (by omega) (by omega)))]
 unfold inR
 refine Zpo ?_
 have key:∀ t,¬(0<=t/\t<=n/\q.xl<=w.fx+t*sx/\w.fx+t*sx<=q.xh/\q.yl<=w.fy+t*sy/\w.fy+t*sy<=q.yh):=fun t ht=>nh ⟨t,ht⟩
 have hn:=h.hn
 have hxy:=h.hxy
 unfold bes
 rw [h.tx,h.ty]
 have k:=key ((q.xl-w.fx)*sx)
 clear key nh
 rcases h.hx with rfl|rfl|rfl<;>rcases h.hy with rfl|rfl|rfl<;>(try (exact absurd ⟨rfl,rfl⟩ hxy))<;>simp only [Sb,Rw,Rp,Sq,Tq,Sj,Wx,Ph,Wn] at k ⊢ <;> omega
def Zze (cs:List (Int × Int)) (q:Rc):Prop:=∀ w∈wls cs,∀ n sx sy,Str w n sx sy -> ¬hit w n sx sy q
theorem Zwi {w:Wl} {n sx sy x y:Int} {q:Rc} (h:Str w n sx sy) (hq:RcOk q) (nh:¬hit w n sx sy q) (h1:q.xl<=x) (h2:x<=q.xh) (h3:q.yl<=y) (h4:y<=q.yh):w.has x y 1=false:=by
 rw [Qx]
 intro hh
 rw [Zan h (Xc (by have:=hq.b1; have:=hq.b2; omega) (by have:=hq.b3; have:=hq.b4; omega)),Zf0 h] at hh
 obtain ⟨t,a,b,rfl,rfl⟩:=hh
 exact nh ⟨t,a,b,h1,h2,h3,h4⟩
theorem Zpa {h:Hal} {q:Rc} (hs:Vd h.cs) (hq:RcOk q) (nh:Zze h.cs q):Xo h q.xh q.yl 1=Xo h q.xl q.yl 1/\Xo h q.xl q.yh 1=Xo h q.xl q.yl 1/\Xo h q.xh q.yh 1=Xo h q.xl q.yl 1:=by
 have q1:=hq.x
 have q2:=hq.y
 have e:∀ x y,q.xl<=x->x<=q.xh->q.yl<=y->y<=q.yh->Xo h x y 1=xorL ((wls h.cs).map (flips x y 1)):=by
  intro x y h1 h2 h3 h4
  unfold Xo
  rw [Zsl _ _ (fun w hw=>by
   obtain ⟨n,sx,sy,g⟩:=Zb2 hs w hw
   exact Zwi g hq (nh w hw _ _ _ g) h1 h2 h3 h4),Bool.false_xor]
 have hh:∀ Y,q.yl<=Y->Y<=q.yh->(wls h.cs).map (flips q.xh Y 1)=(wls h.cs).map (flips q.xl Y 1):=by
  intro Y h1 h2
  refine Nc fun w hw=>?_
  obtain ⟨n,sx,sy,g⟩:=Zb2 hs w hw
  exact (Yev g hq (nh w hw _ _ _ g) h1 h2).symm
 have hv:(xorL ((wls h.cs).map (flips q.xl q.yl 1)) ^^ xorL ((wls h.cs).map (flips q.xl q.yh 1)))=false:=by
  rw [Zim,<-tele (inR q.xl q.yl q.yh) h.cs]
  congr 1
  refine Nc fun w hw=>?_
  obtain ⟨n,sx,sy,g⟩:=Zb2 hs w hw
  exact Yeu g hq (nh w hw _ _ _ g)
 rw [e q.xh q.yl (by omega) (by omega) (by omega) (by omega),e q.xl q.yl (by omega) (by omega) (by omega) (by omega),e q.xl q.yh (by omega) (by omega) (by omega) (by omega),e q.xh q.yh (by omega) (by omega) (by omega) (by omega),hh q.yl (by omega) (by omega),hh q.yh (by omega) (by omega)]
 revert hv
 cases xorL ((wls h.cs).map (flips q.xl q.yl 1))<;>cases xorL ((wls h.cs).map (flips q.xl q.yh 1))<;>simp
def E1 (c:Can):Wl:=⟨0,c.fx,c.fy,c.tx,c.fy⟩
def E2 (c:Can):Wl:=⟨0,c.tx,c.fy,c.tx,c.ty⟩
def E3 (c:Can):Wl:=⟨0,c.tx,c.ty,c.fx,c.ty⟩
def E4 (c:Can):Wl:=⟨0,c.fx,c.ty,c.fx,c.fy⟩
theorem Yam (c:Can):Zkx c=(E1 c).ln:=by unfold Zkx Wl.ln E1; simp only [Gv]; rfl
theorem Yal (c:Can):Zkw c=(E2 c).ln:=by unfold Zkw Wl.ln E2; simp only [Gv]; rfl
theorem Yak (c:Can):Zkv c=(E3 c).ln:=by
 unfold Zkv Wl.ln E3; simp only [Gv]
 have:Qa Qb (0-Qa Qb (c.tx-c.fx))=Qa Qb (c.fx-c.tx):=by simp only [Ww]; omega
 rw [this]; rfl
theorem Yaj (c:Can):Zku c=(E4 c).ln:=by
 unfold Zku Wl.ln E4; simp only [Gv]
 have:Qa Qb (0-Qa Qb (c.ty-c.fy))=Qa Qb (c.fy-c.ty):=by simp only [Ww]; omega
 rw [this]; rfl
structure CanOk (c:Can):Prop where
 b1 : -5000<=c.fx/\c.fx<=5000
 b2 : -5000<=c.fy/\c.fy<=5000
 b3 : -5000<=c.tx/\c.tx<=5000
 b4 : -5000<=c.ty/\c.ty<=5000
 x:c.fx≠c.tx
 y:c.fy≠c.ty
abbrev Can.rc (c:Can):Rc:=rcOf c.fx c.fy c.tx c.ty
theorem Zp1 (c:Can):(c.rc.xl=min c.fx c.tx/\c.rc.xh=max c.fx c.tx)/\(c.rc.yl=min c.fy c.ty/\c.rc.yh=max c.fy c.ty):=by
 unfold Can.rc rcOf imin imax
 refine ⟨⟨?_,?_⟩,?_,?_⟩<;>dsimp only
 ·by_cases h:c.tx<c.fx<;>simp [h]<;>omega
 ·by_cases h:c.fx<c.tx<;>simp [h]<;>omega
 ·by_cases h:c.ty<c.fy<;>simp [h]<;>omega
 ·by_cases h:c.fy<c.ty<;>simp [h]<;>omega
theorem CanOk.rcOk {c:Can} (h:CanOk c):RcOk c.rc:=by
 obtain ⟨⟨e1,e2⟩,e3,e4⟩:=Zp1 c
 obtain ⟨b1,b2,b3,b4,hx,hy⟩:=h
 exact ⟨by omega,by omega,by omega,by omega,by omega,by omega⟩
theorem Zo4 {c:Can} (h:CanOk c):∃ m k sx sy,(sx=1\/sx = -1)/\(sy=1\/sy = -1)/\c.tx=c.fx+m*sx/\c.ty=c.fy+k*sy/\Str (E1 c) m sx 0/\Str (E2 c) k 0 sy/\Str (E3 c) m (-sx) 0/\Str (E4 c) k 0 (-sy):=by
 obtain ⟨b1,b2,b3,b4,hx,hy⟩:=h
 have hx' : c.fx<c.tx\/c.tx<c.fx:=by omega
 have hy' : c.fy<c.ty\/c.ty<c.fy:=by omega
 rcases hx' with hx' | hx'<;>rcases hy' with hy' | hy'
 ·refine ⟨c.tx-c.fx,c.ty-c.fy,1,1,.inl rfl,.inl rfl,by omega,by omega,?_,?_,?_,?_⟩<;>constructor<;>(try simp only [E1,E2,E3,E4])<;>first|omega|decide
 ·refine ⟨c.tx-c.fx,c.fy-c.ty,1,-1,.inl rfl,.inr rfl,by omega,by omega,?_,?_,?_,?_⟩<;>constructor<;>(try simp only [E1,E2,E3,E4])<;>first|omega|decide
 ·refine ⟨c.fx-c.tx,c.ty-c.fy,-1,1,.inr rfl,.inl rfl,by omega,by omega,?_,?_,?_,?_⟩<;>constructor<;>(try simp only [E1,E2,E3,E4])<;>first|omega|decide
 ·refine ⟨c.fx-c.tx,c.fy-c.ty,-1,-1,.inr rfl,.inr rfl,by omega,by omega,?_,?_,?_,?_⟩<;>constructor<;>(try simp only [E1,E2,E3,E4])<;>first|omega|decide
theorem Zsu {P:Int->Prop} (hd:∀ t,P t \/ ¬P t):∀ (k:Nat),P k->P 0\/∃ t:Int,1<=t/\t<=k/\P t /\ ¬P (t-1)
 | 0,h=>.inl h
 | k+1,h=>by
  rcases hd (k:Int) with h0|h0
  ·rcases Zsu hd k h0 with h1|⟨t,a,b,c,d⟩
   ·exact .inl h1
   ·exact .inr ⟨t,a,by omega,c,d⟩
  ·exact .inr ⟨(k:Int)+1,by omega,by omega,by simpa using h,by simpa using h0⟩
theorem Zxh {c:Can} (hc:CanOk c) {w:Wl} {n sx sy:Int} (h:Str w n sx sy):hit w n sx sy c.rc↔((E1 c).touches w=true\/(E2 c).touches w=true\/(E3 c).touches w=true\/(E4 c).touches w=true)\/(c.rc.xl<=w.fx/\w.fx<=c.rc.xh/\c.rc.yl<=w.fy/\w.fy<=c.rc.yh) := by
  obtain ⟨⟨e1, e2⟩, e3, e4⟩ := Zp1 c
  obtain ⟨m, k, ux, uy, hux, huy, hm, hk, s1, s2, s3, s4⟩ := Zo4 hc
  have hm0 := s1.hn
  have hk0 := s2.hn
  rw [Zbr s1 h (.inr rfl), Zbr s2 h (.inl rfl), Zbr s3 h (.inr rfl), Zbr s4 h (.inl rfl)]
  rw [e1, e2, e3, e4]
  constructor
  · rintro ⟨t, t0, t1, g1, g2, g3, g4⟩
    rw [e1] at g1; rw [e2] at g2; rw [e3] at g3; rw [e4] at g4
    have hf := Zsu (P := fun t => min c.fx c.tx<=w.fx+t*sx/\w.fx+t*sx<=max c.fx c.tx/\min c.fy c.ty<=w.fy+t*sy/\w.fy+t*sy<=max c.fy c.ty) (fun t => Classical.em _) t.toNat (by rw [Int.toNat_of_nonneg t0]; exact ⟨g1, g2, g3, g4⟩)
    rcases hf with hf|⟨u, u1, u2, ⟨f1, f2, f3, f4⟩, hn⟩
    · refine .inr ?_
      simpa using hf
    · refine .inl ?_
      have hb:w.fx+u*sx=c.fx\/w.fx+u*sx=c.tx\/w.fy+u*sy=c.fy\/w.fy+u*sy=c.ty := by
        rw [Oy, Oy] at hn
        have hx := h.hx
        have hy := h.hy
        generalize u*sx=U at *
        generalize u*sy=V at *
        omega
      unfold common
      rcases hb with hb|hb|hb|hb
      · refine .inr (.inr (.inr ⟨u, (c.ty-(w.fy+u*sy))*uy, by omega, by omega, ?_, ?_, ?_, ?_⟩))<;>(try simp only [E4])<;>generalize u*sx=U at * <;> generalize u*sy=V at * <;> rcases huy with rfl|rfl<;>simp only [Sb, Rw, Rp, Wx, Wn] at * <;> omega
      · refine .inr (.inl ⟨u, ((w.fy+u*sy)-c.fy)*uy, by omega, by omega, ?_, ?_, ?_, ?_⟩)<;>(try simp only [E2])<;>generalize u*sx=U at * <;> generalize u*sy=V at * <;> rcases huy with rfl|rfl<;>simp only [Sb, Rw, Rp, Wx, Wn] at * <;> omega
      · refine .inl ⟨u, ((w.fx+u*sx)-c.fx)*ux, by omega, by omega, ?_, ?_, ?_, ?_⟩<;>(try simp only [E1])<;>generalize u*sx=U at * <;> generalize u*sy=V at * <;> rcases hux with rfl|rfl<;>simp only [Sb, Rw, Rp, Wx, Wn] at * <;> omega
      · refine .inr (.inr (.inl ⟨u, (c.tx-(w.fx+u*sx))*ux, by omega, by omega, ?_, ?_, ?_, ?_⟩))<;>(try simp only [E3])<;>generalize u*sx=U at * <;> generalize u*sy=V at * <;> rcases hux with rfl|rfl<;>simp only [Sb, Rw, Rp, Wx, Wn] at * <;> omega
  · rintro ((⟨t, s, t0, t1, s0, s1, c1, c2⟩|⟨t, s, t0, t1, s0, s1, c1, c2⟩|⟨t, s, t0, t1, s0, s1, c1, c2⟩|⟨t, s, t0, t1, s0, s1, c1, c2⟩)|hc)
    all_goals first
      | (refine ⟨t, t0, t1, ?_⟩
         rw [e1, e2, e3, e4]
         simp only [E1, E2, E3, E4] at c1 c2
         rw [c1, c2]
         rcases hux with rfl|rfl<;>rcases huy with rfl|rfl<;>simp only [Sb, Rw, Rp, Wx, Wn] at * <;> omega)
      | (refine ⟨0, by omega, by have := h.hn; omega, ?_⟩
         rw [e1, e2, e3, e4]
         simpa using hc)
theorem Zof {c:Can} (hc:CanOk c) (x y:Int):Zh9 c ⟨x,y,0,1⟩=true↔(c.rc.xl<=x/\x<=c.rc.xh)/\(c.rc.yl<=y/\y<=c.rc.yh):=by
 have q:=hc.rcOk
 have q1:=q.x
 have q2:=q.y
 have q3:=q.b1
 have q4:=q.b2
 have q5:=q.b3
 have q6:=q.b4
 unfold Zh9
 show (within x (Qa Qb (c.rc.xl*1)) (Qa Qb (c.rc.xh*1))&&within y (Qa Qb (c.rc.yl*1)) (Qa Qb (c.rc.yh*1)))=true↔_
 rw [Rw,Rw,Rw,Rw,W_eq (n:=c.rc.xl) (by omega) (by omega),W_eq (n:=c.rc.xh) (by omega) (by omega),W_eq (n:=c.rc.yl) (by omega) (by omega),W_eq (n:=c.rc.yh) (by omega) (by omega),Qc,within_iff,within_iff]
theorem Zj8 (h:Hal):∀ l:List Ln,Xf h l=true↔∀ e∈l,Yj h e.a=true/\Va h e=false
 | []=>by simp [Xf]
 | e::l=>by
  rw [Xf]
  have ih:=Zj8 h l
  cases h1:Yj h e.a<;>cases h2:Va h e<;>simp [h1,h2,ih]
theorem Yde {h:Hal} {c:Can} (hs:Vd h.cs) (hc:CanOk c):Zfi h c.rc=Zdp h c:=by
 have hq:=hc.rcOk
 have q1:=hq.x
 have q2:=hq.y
 have q3:=hq.b1
 have q4:=hq.b2
 have q5:=hq.b3
 have q6:=hq.b4
 obtain ⟨⟨e1,e2⟩,e3,e4⟩:=Zp1 c
 obtain ⟨m,k,ux,uy,hux,huy,hm,hk,s1,s2,s3,s4⟩:=Zo4 hc
 have hA:(Zfi h c.rc=true)↔Zze h.cs c.rc/\Xo h c.rc.xl c.rc.yl 1=true:=by
  unfold Zfi Zze
  rw [Qc,List.all_eq_true]
  refine and_congr ⟨fun hh w hw n sx sy g hit=>?_,fun hh w hw=>?_⟩ Iff.rfl
  ·have:=hh w hw
   rw [(Zn0 g hq).2 hit] at this
   cases this
  ·obtain ⟨n,sx,sy,g⟩:=Zb2 hs w hw
   have:=hh w hw n sx sy g
   rw [<-Zn0 g hq] at this
   simpa using this
 have tch:∀ (e:Wl) {m ex ey:Int},Str e m ex ey->(Va h e.ln=false↔∀ w∈wls h.cs,e.touches w=false):=by
  intro e m ex ey g
  unfold Va
  rw [Yb1,List.any_map,Qac]
  refine ⟨fun hh w hw=>?_,fun hh w hw=>?_⟩
  ·obtain ⟨n,sx,sy,gw⟩:=Zb2 hs w hw
   have:=hh w hw
   rw [Dh,<-Zg6 g gw] at this
   simpa using this
  ·obtain ⟨n,sx,sy,gw⟩:=Zb2 hs w hw
   rw [Dh,<-Zg6 g gw]
   simpa using hh w hw
 have bnd:((h.cs.any fun p=>Zh9 c ⟨p.1,p.2,0,1⟩)=false)↔∀ w∈wls h.cs,¬(c.rc.xl<=w.fx/\w.fx<=c.rc.xh/\c.rc.yl<=w.fy/\w.fy<=c.rc.yh):=by
  rw [Qac]
  refine ⟨fun hh w hw hin=>?_,fun hh p hp hin=>?_⟩
  ·simp only [wls,Ta,Rx] at hw
   obtain ⟨i,hi,rfl⟩:=hw
   refine hh (cor h.cs i) (by rw [Zq2 hi]; exact Qn hi) ?_
   rw [Zof hc]
   exact ⟨⟨hin.1,hin.2.1⟩,hin.2.2.1,hin.2.2.2⟩
  ·rw [Zof hc] at hin
   obtain ⟨i,hi,rfl⟩:=Je.1 hp
   refine hh (wlOf h.cs i) (by simp only [wls,Ta,Rx]; exact ⟨i,hi,rfl⟩) ?_
   simp only [wlOf,Zq2 hi]
   exact ⟨hin.1.1,hin.1.2,hin.2.1,hin.2.2⟩
 have hB:Zdp h c=true↔Zze h.cs c.rc/\(Xo h c.fx c.fy 1=true/\Xo h c.tx c.fy 1=true/\Xo h c.tx c.ty 1=true/\Xo h c.fx c.ty 1=true):=by
  unfold Zdp edges
  rw [Qc,Zj8,Te,bnd,Yam,Yal,Yak,Yaj]
  simp only [Ra,Kx,or_false,forall_eq_or_imp,forall_eq]
  rw [tch _ s1,tch _ s2,tch _ s3,tch _ s4]
  have p1:Yj h (E1 c).ln.a=Xo h c.fx c.fy 1:=(Zba hs 0 (Xc hc.b1 hc.b2)).symm
  have p2:Yj h (E2 c).ln.a=Xo h c.tx c.fy 1:=(Zba hs 0 (Xc hc.b3 hc.b2)).symm
  have p3:Yj h (E3 c).ln.a=Xo h c.tx c.ty 1:=(Zba hs 0 (Xc hc.b3 hc.b4)).symm
  have p4:Yj h (E4 c).ln.a=Xo h c.fx c.ty 1:=(Zba hs 0 (Xc hc.b1 hc.b4)).symm
  rw [p1,p2,p3,p4]
  unfold Zze
  constructor
  ·rintro ⟨⟨⟨a1,b1⟩,⟨a2,b2⟩,⟨a3,b3⟩,⟨a4,b4⟩⟩,b5⟩
   refine ⟨fun w hw n sx sy g hh=>?_,a1,a2,a3,a4⟩
   rw [Zxh hc g] at hh
   rcases hh with (hh|hh|hh|hh)|hh
   ·rw [b1 w hw] at hh; cases hh
   ·rw [b2 w hw] at hh; cases hh
   ·rw [b3 w hw] at hh; cases hh
   ·rw [b4 w hw] at hh; cases hh
   ·exact b5 w hw hh
  ·rintro ⟨nh,a1,a2,a3,a4⟩
   have key:∀ w∈wls h.cs,¬(((E1 c).touches w=true\/(E2 c).touches w=true\/(E3 c).touches w=true\/(E4 c).touches w=true)\/(c.rc.xl<=w.fx/\w.fx<=c.rc.xh/\c.rc.yl<=w.fy/\w.fy<=c.rc.yh)):=by
    intro w hw hh
    obtain ⟨n,sx,sy,g⟩:=Zb2 hs w hw
    exact nh w hw n sx sy g ((Zxh hc g).2 hh)
   refine ⟨⟨⟨a1,fun w hw=>?_⟩,⟨a2,fun w hw=>?_⟩,⟨a3,fun w hw=>?_⟩,⟨a4,fun w hw=>?_⟩⟩,fun w hw hh=>key w hw (.inr hh)⟩
   ·rw [Qx]; exact fun hh=>key w hw (.inl (.inl hh))
   ·rw [Qx]; exact fun hh=>key w hw (.inl (.inr (.inl hh)))
   ·rw [Qx]; exact fun hh=>key w hw (.inl (.inr (.inr (.inl hh))))
   ·rw [Qx]; exact fun hh=>key w hw (.inl (.inr (.inr (.inr hh))))
 rw [Sc,hA,hB]
 refine and_congr_right fun nh=>?_
 obtain ⟨g1,g2,g3⟩:=Zpa hs hq nh
 have hx:(c.fx=c.rc.xl/\c.tx=c.rc.xh)\/(c.fx=c.rc.xh/\c.tx=c.rc.xl):=by omega
 have hy:(c.fy=c.rc.yl/\c.ty=c.rc.yh)\/(c.fy=c.rc.yh/\c.ty=c.rc.yl):=by omega
 rcases hx with ⟨x1,x2⟩|⟨x1,x2⟩<;>rcases hy with ⟨y1,y2⟩|⟨y1,y2⟩<;>rw [x1,x2,y1,y2]<;>simp only [g1,g2,g3,and_self]
def fIx (f:Nat->Int):Nat->Nat->Int × Int
 | _,0=>(0,0)
 | k,m+1=>if f k=0 then fIx f (k+1) m else (k,f k)
theorem Uk {f:Nat->Int} {k n:Nat} (h:k<n):fIx f k (n-k)=if f k=0 then fIx f (k+1) (n-(k+1)) else (k,f k):=by
 rw [show n-k=(n-(k+1))+1 by omega]; rfl
theorem Zb4 {f:Nat->Int} {k n:Nat} (h:n<=k):fIx f k (n-k)=(0,0):=by rw [show n-k=0 by omega]; rfl
def mErr (h:Hal) (i:Nat) (m:Mat):Int:=if Xk m.nm then (if decide (Xd m.nm 0 h.ms<(i:Int)) then 5 else if (thou m.a&&(thou m.b&&(thou m.c&&thou m.d)))&&thou m.sc then 0 else 2) else 4
def Zmn (h:Hal) (i:Nat):Int:=match h.ms[i]? with
 | some m=>mErr h i m
 | none=>0
def Zgo (h:Hal) (i:Nat):Int:=if plc (cor h.cs i).1&&plc (cor h.cs i).2 then 0 else 2
def Zbn (h:Hal) (i:Nat):Int:=match h.ws[i]? with
 | some w=>Zg3 h i w
 | none=>0
def Zc9 (h:Hal) (i:Nat):Int:=match h.ks[i]? with
 | some w=>Zic h i w
 | none=>0
def Zc3 (h:Hal) (i:Nat):Int:=match h.ss[i]? with
 | some w=>Zi7 h i w
 | none=>0
def Ze0 (h:Hal):Int:=if decide (Xd h.fl 0 h.ms<0)||decide (Xd h.ce 0 h.ms<0) then 6 else 0
def Zgp (h:Hal):List (Int × Int × Int) :=
  [(0, 0, unl (Xk h.nm) 4), (0, 0, unl (within h.ht 2 5000) 2), (0, 0, unl (decide ((h.ms.length:Int)<=10)) 8), (1, fIx (Zmn h) 0 h.ms.length), (0, 0, Ze0 h), (0, 0, unl (decide (3<=(h.cs.length:Int))&&decide ((h.ws.length:Int)=h.cs.length)) 10),
   (0, 0, unl (decide ((h.ws.length:Int)<=12)) 8), (2, fIx (Zgo h) 0 h.cs.length), (3, fIx (Zbn h) 0 h.ws.length), (0, 0, unl (Zdh h.cs) 24), (0, 0, unl (decide (0<Zit h.cs)) 9), (0, 0, unl (decide ((h.ks.length:Int)<=4)) 8), (4, fIx (Zc9 h) 0 h.ks.length),
   (0, 0, unl (decide ((h.ss.length:Int)<=40)) 8), (5, fIx (Zc3 h) 0 h.ss.length)]
def chkR (h:Hal):Int × Int × Int:=Zz (Zgp h)
theorem Zha {X x:Int × Int × Int} {l:List (Int × Int × Int)} {σ:St} {a b e:Int} (hE:X=Zz (x::l)) (hx:x=(a,b,e)) (he:e≠0):Ret ⟨chkV X,[]⟩ (.tup [.agg [I a,I b],I e]) σ:=by
 subst hx
 rw [hE,Zz,if_neg he]
 exact Zg rfl rfl
theorem Xx {X x:Int × Int × Int} {l:List (Int × Int × Int)} (hE:X=Zz (x::l)) (hx:x.2.2=0):X=Zz l:=by rw [hE,Zz,if_pos hx]
theorem Zfq {b:Bool} {e:Int} (h:b=true):unl b e=0:=by rw [h]; rfl
theorem Zkk {b:Bool} {e:Int} (h:b=false):unl b e=e:=by rw [h]; rfl
theorem Zmz {h:Hal} {r:Nat->PRes} {n k:Nat} (hk:k<n):fam (fun k=>[h.av,I (k:Int)]) r n [h.av,I (k:Int)]=some (r k) :=
 Zxx (g:=fun k=>[h.av,I (k:Int)]) (r:=r) (fun j hj=>by
  simp only [Rd,AV.int.injEq,Int.natCast_inj,true_and,and_true] at hj
  rw [hj]) hk
theorem Zc7 {X:Int × Int × Int} {M T:Int × Int} {c k e:Int} {l:List (Int × Int × Int)} {σ:St} (hE:X=Zz ((c,M)::l)) (hh:(if e=0 then T else (k,e))=M) (he:e≠0):Ret ⟨chkV X,[]⟩ (.tup [.agg [I c,I k],I e]) σ:=by
 rw [if_neg he] at hh
 subst hh
 exact Zha hE rfl he
abbrev E65 (l:List (Nat × AV)):Env:=(1,.ptr 0 0 0)::(2,.ptr 1 0 0)::(3,I 0)::l
abbrev Z65 (h:Hal):List (Nat × ABlk):=[(1,.row 2 [[I 0,I 0]] true false),(0,.row 9 [h.cells] true false)]
def sx65:FuncId->Bool:=fun f=>Nat.beq f 108||Nat.beq f 109
theorem Zbg (s:ByteArray):∀ l:List ByteArray,Ud s l=true↔s∈l
 | []=>by simp [Ud]
 | a::l=>by rw [Ud,Ro,Zbg s l,Ze4,decide_eq_true_eq,Ra]
theorem Zek (s a:ByteArray) (l:List ByteArray):s∈addK a l↔s=a\/s∈l:=by
 unfold addK
 cases h:Ud a l with
 | true =>
  have:=(Zbg a l).1 h
  constructor
  ·exact .inr
  ·rintro (rfl|h)
   ·exact this
   ·exact h
 | false=>simp [or_comm]
theorem Zsa (s:ByteArray):∀ (l:List Mat) (i:Nat),Xd s i l = -1\/(i:Int)<=Xd s i l
 | [],i=>.inl rfl
 | m::l,i=>by
  rw [Xd]
  split
  ·exact .inr (by omega)
  ·rcases Zsa s l (i+1) with h|h
   ·exact .inl h
   ·exact .inr (by omega)
theorem Zdu (s:ByteArray):∀ (l:List Mat) (i:Nat),Xd s i l<0 ↔ ¬∃ m∈l,m.nm=s
 | [],i=>by simp [Xd]
 | m::l,i=>by
  rw [Xd,Ze4]
  by_cases h:m.nm=s
  ·simp [h]
  ·simp only [h,decide_false,Rs,if_false]
   rw [Zdu s l (i+1)]
   simp [h]
theorem Zr9 (s:ByteArray):∀ (l:List Mat) (i k:Nat),(∃ m∈l,m.nm=s)->(Xd s i l<((i+k:Nat):Int)↔∃ m∈l.take k,m.nm=s)
 | [],i,k,h=>by simp at h
 | m::l,i,0,h=>by
  rw [Xd]
  split
  ·simp
  ·rename_i hx
   rw [Ze4,decide_eq_true_eq] at hx
   have h1:∃ m∈l,m.nm=s:=by
    obtain ⟨u,hu,e⟩:=h
    rcases Ra.1 hu with rfl|hu
    ·exact absurd e hx
    ·exact ⟨u,hu,e⟩
   have h2:=mt (Zdu s l (i+1)).1 (by simpa using h1)
   have h3:=Zsa s l (i+1)
   simp
   omega
 | m::l,i,k+1,h=>by
  rw [Xd,Ze4]
  by_cases hx:m.nm=s
  ·simp [hx]; omega
  ·have h1:∃ m∈l,m.nm=s:=by
    obtain ⟨u,hu,e⟩:=h
    rcases Ra.1 hu with rfl|hu
    ·exact absurd e hx
    ·exact ⟨u,hu,e⟩
   have:=Zr9 s l (i+1) k h1
   simp only [hx,decide_false,Rs,if_false]
   rw [show i+(k+1)=i+1+k by omega,this]
   simp [hx]
theorem Zn1 (h:Hal) (n:Nat) (hn:n=h.ms.length):∀ (m k:Nat) (ns:List ByteArray),m=n-k->k<=n->(∀ s,s∈ns↔∃ u∈h.ms.take k,u.nm=s) ->
  ((Ub k ns (h.ms.drop k)).1,(Ub k ns (h.ms.drop k)).2.1)=fIx (Zmn h) k (n-k)/\((Ub k ns (h.ms.drop k)).2.1=0->∀ s,s∈(Ub k ns (h.ms.drop k)).2.2↔∃ u∈h.ms,u.nm=s)
 | 0,k,ns,hm,hk,hs=>by
  have:k=n:=by omega
  rw [Zb4 (by omega),Qo (by omega)]
  refine ⟨rfl,fun _ s=>?_⟩
  rw [Ub,hs s,Sz (by omega)]
 | m+1,k,ns,hm,hk,hs=>by
  have hlt:k<h.ms.length:=by omega
  rw [Uk (by omega:k<n),Ql hlt,Ub]
  have e1:Zmn h k=mErr h k h.ms[k]:=by unfold Zmn; rw [Qe hlt]
  have e2:mErr h k h.ms[k]=if Yf h.ms[k].nm ns=0 then Zcc h.ms[k] else Yf h.ms[k].nm ns:=by
   unfold mErr Yf
   rw [Zch]
   cases Uj h.ms[k].nm with
   | false=>simp
   | true =>
    have h1:(Xd h.ms[k].nm 0 h.ms<(k:Int))↔Ud h.ms[k].nm ns=true:=by
     have:=Zr9 h.ms[k].nm h.ms 0 k ⟨h.ms[k],Qn hlt,rfl⟩
     rw [Sk] at this
     rw [this,Zbg,hs]
    rw [show decide (Xd h.ms[k].nm 0 h.ms<(k:Int))=Ud h.ms[k].nm ns by rw [Sc,decide_eq_true_eq,h1]]
    cases Ud h.ms[k].nm ns with
    | true=>simp
    | false =>
     simp only [if_true,Rs,if_false,Zcc]
     cases thou h.ms[k].a<;>cases thou h.ms[k].b<;>cases thou h.ms[k].c<;>cases thou h.ms[k].d<;>cases thou h.ms[k].sc<;>rfl
  rw [e1,e2]
  by_cases c1:Yf h.ms[k].nm ns=0
  ·rw [if_pos c1,if_pos c1]
   by_cases c2:Zcc h.ms[k]=0
   ·rw [if_pos c2,if_pos c2]
    refine Zn1 h n hn m (k+1) _ (by omega) (by omega) fun s=>?_
    rw [Zek,hs,Qu hlt]
    simp only [Sh,Tm]
    constructor
    ·rintro (rfl|⟨u,hu,e⟩)
     ·exact ⟨_,.inr rfl,rfl⟩
     ·exact ⟨u,.inl hu,e⟩
    ·rintro ⟨u,hu|rfl,e⟩
     ·exact .inr ⟨u,hu,e⟩
     ·exact .inl e.symm
   ·rw [if_neg c2,if_neg c2]
    exact ⟨rfl,fun hh=>absurd hh c2⟩
  ·rw [if_neg c1,if_neg c1,if_neg c1]
   exact ⟨rfl,fun hh=>absurd hh c1⟩
theorem Uf (x:Int):small x 5000=plc x:=by
 unfold small plc
 rw [show IntKind.i64.wrap (0-5000) = -5000 by decide]
theorem Zo9 (h:Hal) (n:Nat) (hn:n=h.cs.length):∀ (m k:Nat),m=n-k->k<=n->Zhj k (h.cs.drop k)=fIx (Zgo h) k (n-k)
 | 0,k,hm,hk=>by
  rw [Zb4 (by omega),Qo (by omega)]; rfl
 | m+1,k,hm,hk=>by
  have hlt:k<h.cs.length:=by omega
  rw [Uk (by omega:k<n),Ql hlt,Zhj]
  have e1:Zgo h k=if Zhi h.cs[k].1 h.cs[k].2 then 0 else 2:=by
   unfold Zgo Zhi
   rw [Zq2 hlt,Uf,Uf]
  rw [e1]
  have ih:=Zo9 h n hn m (k+1) (by omega) (by omega)
  cases Zhi h.cs[k].1 h.cs[k].2
  ·simp
  ·simpa using ih
theorem Zcw {f:Nat->Int} {n:Nat}:∀ (m k:Nat),m=n-k->(fIx f k (n-k)).2=0->∀ i,k<=i->i<n->f i=0
 | 0,k,hm,h,i,h1,h2=>by omega
 | m+1,k,hm,h,i,h1,h2=>by
  rw [Uk (by omega:k<n)] at h
  by_cases c:f k=0
  ·rw [if_pos c] at h
   by_cases e:i=k
   ·subst e; exact c
   ·exact Zcw m (k+1) (by omega) h i (by omega) h2
  ·rw [if_neg c] at h
   exact absurd h c
def Zpm (cs:List (Int × Int)):Prop:=∀ i,i<cs.length->(-5000<=(cor cs i).1/\(cor cs i).1<=5000)/\(-5000<=(cor cs i).2/\(cor cs i).2<=5000)
theorem Zm4 {h:Hal} (hz:(fIx (Zgo h) 0 h.cs.length).2=0):Zpm h.cs:=by
 intro i hi
 have:=Zcw (n:=h.cs.length) _ 0 rfl hz i (Qp _) hi
 unfold Zgo at this
 have h1:(plc (cor h.cs i).1&&plc (cor h.cs i).2)=true:=by
  cases hq:(plc (cor h.cs i).1&&plc (cor h.cs i).2)
  ·rw [hq] at this; simp at this
  ·rfl
 rw [Qc] at h1
 exact ⟨within_iff.1 h1.1,within_iff.1 h1.2⟩
theorem Zti {cs:List (Int × Int)} (hb:Zpm cs) {i:Nat} (hi:i<cs.length):((-5000<=(wlOf cs i).fx/\(wlOf cs i).fx<=5000)/\(-5000<=(wlOf cs i).fy/\(wlOf cs i).fy<=5000))/\((-5000<=(wlOf cs i).tx/\(wlOf cs i).tx<=5000)/\(-5000<=(wlOf cs i).ty/\(wlOf cs i).ty<=5000)) :=
 ⟨hb i hi,hb _ (Nat.mod_lt _ (by omega))⟩
theorem Zvk {n:Int} (h : -10000<=n/\n<=10000):size n=if n<0 then -n else n:=Zl9 (by omega)
theorem Zn3 {w:Wl} (h1:(-5000<=w.fx/\w.fx<=5000)/\(-5000<=w.fy/\w.fy<=5000)) (h2:(-5000<=w.tx/\w.tx<=5000)/\(-5000<=w.ty/\w.ty<=5000)):Zdv w=Zct w.ln:=by
 unfold Zdv Zct Hn Wl.dx Wl.dy Wl.ln
 dsimp only
 rw [W_eq (n:=w.tx-w.fx) (by omega) (by omega),W_eq (n:=w.ty-w.fy) (by omega) (by omega)]
 have e1:decide (w.fx=w.tx)=decide (w.tx-w.fx=0):=by rw [decide_eq_decide]; omega
 have e2:decide (w.fy=w.ty)=decide (w.ty-w.fy=0):=by rw [decide_eq_decide]; omega
 rw [e1,e2]
 cases decide (w.tx-w.fx=0)<;>cases decide (w.ty-w.fy=0)<;>cases decide (size (w.tx-w.fx)=size (w.ty-w.fy))<;>rfl
theorem Yfi {w:Wl} (h1:(-5000<=w.fx/\w.fx<=5000)/\(-5000<=w.fy/\w.fy<=5000)) (h2:(-5000<=w.tx/\w.tx<=5000)/\(-5000<=w.ty/\w.ty<=5000)) (hz:Zdv w=0):∃ n sx sy,Str w n sx sy:=by
 unfold Zdv Hn Wl.dx Wl.dy at hz
 rw [W_eq (n:=w.tx-w.fx) (by omega) (by omega),W_eq (n:=w.ty-w.fy) (by omega) (by omega),Zvk (by omega),Zvk (by omega)] at hz
 have g1:¬(w.fx=w.tx/\w.fy=w.ty):=by
  rintro ⟨a,b⟩
  rw [decide_eq_true a,decide_eq_true b] at hz
  simp at hz
 have g2:w.tx-w.fx=0\/w.ty-w.fy=0\/w.tx-w.fx=w.ty-w.fy\/w.tx-w.fx = -(w.ty-w.fy):=by
  have g3:(decide (w.fx=w.tx)&&decide (w.fy=w.ty))=false:=by
   rw [Qx]; intro hq; simp only [Qc,decide_eq_true_eq] at hq; exact g1 hq
  rw [g3] at hz
  simp only [Rs,if_false] at hz
  have g4:(decide (w.tx-w.fx=0)||decide (w.ty-w.fy=0)||decide ((if w.tx-w.fx<0 then -(w.tx-w.fx) else w.tx-w.fx)=if w.ty-w.fy<0 then -(w.ty-w.fy) else w.ty-w.fy))=true:=by
   cases hq:(decide (w.tx-w.fx=0)||decide (w.ty-w.fy=0)||decide ((if w.tx-w.fx<0 then -(w.tx-w.fx) else w.tx-w.fx)=if w.ty-w.fy<0 then -(w.ty-w.fy) else w.ty-w.fy))
   ·rw [hq] at hz; simp at hz
   ·rfl
  simp only [Ro,decide_eq_true_eq] at g4
  omega
 obtain ⟨⟨b1,b2⟩,b3,b4⟩:=h1
 rcases We (w.tx-w.fx) 0 with c1|c1|c1<;>rcases We (w.ty-w.fy) 0 with c2|c2|c2
 ·exact ⟨w.fx-w.tx,-1,-1,by omega,by omega,by omega,by omega,by omega,by omega,by omega,by omega,by omega,by omega⟩
 ·exact ⟨w.fx-w.tx,-1,0,by omega,by omega,by omega,by omega,by omega,by omega,by omega,by omega,by omega,by omega⟩
 ·exact ⟨w.fx-w.tx,-1,1,by omega,by omega,by omega,by omega,by omega,by omega,by omega,by omega,by omega,by omega⟩
 ·exact ⟨w.fy-w.ty,0,-1,by omega,by omega,by omega,by omega,by omega,by omega,by omega,by omega,by omega,by omega⟩
 ·exact absurd ⟨by omega,by omega⟩ g1
 ·exact ⟨w.ty-w.fy,0,1,by omega,by omega,by omega,by omega,by omega,by omega,by omega,by omega,by omega,by omega⟩
 ·exact ⟨w.tx-w.fx,1,-1,by omega,by omega,by omega,by omega,by omega,by omega,by omega,by omega,by omega,by omega⟩
 ·exact ⟨w.tx-w.fx,1,0,by omega,by omega,by omega,by omega,by omega,by omega,by omega,by omega,by omega,by omega⟩
 ·exact ⟨w.tx-w.fx,1,1,by omega,by omega,by omega,by omega,by omega,by omega,by omega,by omega,by omega,by omega⟩
theorem Ztl {h:Hal} {i:Nat} {w:Wal} (hz:Zg3 h i w=0):Zct (lnOf h.cs i)=0:=by
 unfold Zg3 at hz
 split at hz
 ·split at hz
  ·cases hz
  ·split at hz
   ·cases hz
   ·split at hz
    ·cases hz
    ·exact hz
 ·cases hz
theorem Zkh {h:Hal} (hb:Zpm h.cs) (hwc:h.ws.length=h.cs.length) (hz:(fIx (Zbn h) 0 h.ws.length).2=0):Vd h.cs:=by
 intro i hi
 have h1:=Zcw (n:=h.ws.length) _ 0 rfl hz i (Qp _) (by omega)
 unfold Zbn at h1
 rw [Qe (by omega)] at h1
 have h2:=Ztl h1
 rw [Zfg,<-Zn3 (Zti hb hi).1 (Zti hb hi).2] at h2
 exact Yfi (Zti hb hi).1 (Zti hb hi).2 h2
theorem Yge {h:Hal} (hs:Vd h.cs):h.nz:=by
 intro k hk
 obtain ⟨n,sx,sy,g⟩:=hs k hk
 rw [Zfg,g.ln.2.2.1]
 have:=g.hn
 omega
theorem Zte {α:Type} {f:α->ByteArray} {l:List α} {s:ByteArray}:(l.any fun v=>f v==s)=true↔∃ u∈l,f u=s:=by
 rw [List.any_eq_true]
 simp only [Ze4,decide_eq_true_eq]
theorem Zjr {h:Hal} {ms:List ByteArray} (hms:∀ s,s∈ms↔∃ u∈h.ms,u.nm=s) (s:ByteArray):Ud s ms = !decide (Xd s 0 h.ms<0):=by
 rw [Sc,Zbg,hms,Te,decide_eq_false_iff_not,Zdu,Ho]
theorem Zm8 (h:Hal) (n:Nat) (hn:n=h.ws.length) (hwc:h.ws.length=h.cs.length) (hb:Zpm h.cs) {ms:List ByteArray} (hms:∀ s,s∈ms↔∃ u∈h.ms,u.nm=s):∀ (m k:Nat) (ns:List ByteArray),m=n-k->k<=n->(∀ s,s∈ns↔(s=Zaf\/s=Zd3)\/∃ u∈h.ws.take k,u.nm=s) ->
  ((Zda h.cs ms k ns (h.ws.drop k)).1,(Zda h.cs ms k ns (h.ws.drop k)).2.1)=fIx (Zbn h) k (n-k)/\((Zda h.cs ms k ns (h.ws.drop k)).2.1=0->∀ s,s∈(Zda h.cs ms k ns (h.ws.drop k)).2.2↔(s=Zaf\/s=Zd3)\/∃ u∈h.ws,u.nm=s)
 | 0,k,ns,hm,hk,hs=>by
  rw [Zb4 (by omega),Qo (by omega)]
  refine ⟨rfl,fun _ s=>?_⟩
  rw [Zda,hs s,Sz (by omega)]
 | m+1,k,ns,hm,hk,hs=>by
  have hlt:k<h.ws.length:=by omega
  rw [Uk (by omega:k<n),Ql hlt,Zda]
  have e1:Zbn h k=Zg3 h k h.ws[k]:=by unfold Zbn; rw [Qe hlt]
  have e2:Zg3 h k h.ws[k]=if Yf h.ws[k].nm ns=0 then wErr h.cs ms k h.ws[k] else Yf h.ws[k].nm ns:=by
   unfold Zg3 Yf
   rw [Zch]
   cases Uj h.ws[k].nm with
   | false=>simp
   | true =>
    have h1:Ud h.ws[k].nm ns=(((h.ws[k].nm==Zaf)||(h.ws[k].nm==Zd3))||(h.ws.take k).any fun v=>v.nm==h.ws[k].nm):=by
     rw [Sc,Zbg,hs,Ro,Ro,Zte,Ze4,Ze4,decide_eq_true_eq,decide_eq_true_eq]
    rw [h1]
    have h2:wErr h.cs ms k h.ws[k]=if decide (Xd h.ws[k].mt 0 h.ms<0)||(!(h.ws[k].cu==⟨#[]⟩)&&decide (Xd h.ws[k].cu 0 h.ms<0)) then 6 else Zct (lnOf h.cs k):=by
     unfold wErr Zu5
     rw [Zjr hms,Zjr hms,Zfg,<-Zn3 (Zti hb (by omega)).1 (Zti hb (by omega)).2]
     cases decide (Xd h.ws[k].mt 0 h.ms<0)<;>cases (h.ws[k].cu==⟨#[]⟩)<;>cases decide (Xd h.ws[k].cu 0 h.ms<0)<;>rfl
    rw [<-h2]
    cases (h.ws.take k).any (fun v=>v.nm==h.ws[k].nm)<;>cases (h.ws[k].nm==Zaf)<;>cases (h.ws[k].nm==Zd3)<;>rfl
  rw [e1,e2]
  by_cases c1:Yf h.ws[k].nm ns=0
  ·rw [if_pos c1,if_pos c1]
   by_cases c2:wErr h.cs ms k h.ws[k]=0
   ·rw [if_pos c2,if_pos c2]
    refine Zm8 h n hn hwc hb hms m (k+1) _ (by omega) (by omega) fun s=>?_
    rw [Zek,hs,Qu hlt]
    simp only [Sh,Tm]
    constructor
    ·rintro (rfl|hl|⟨u,hu,e⟩)
     ·exact .inr ⟨_,.inr rfl,rfl⟩
     ·exact .inl hl
     ·exact .inr ⟨u,.inl hu,e⟩
    ·rintro (hl|⟨u,hu|rfl,e⟩)
     ·exact .inr (.inl hl)
     ·exact .inr (.inr ⟨u,hu,e⟩)
     ·exact .inl e.symm
   ·rw [if_neg c2,if_neg c2]
    exact ⟨rfl,fun hh=>absurd hh c2⟩
  ·rw [if_neg c1,if_neg c1,if_neg c1]
   exact ⟨rfl,fun hh=>absurd hh c1⟩
theorem Yap {h:Hal} (hs:Vd h.cs) (c:Can):Zgt h c=if within c.hs.length 1 4 then (if Zdz h.ht none c.hs=0 then (if plc c.fx&&plc c.fy&&plc c.tx&&plc c.ty then (if decide (c.fx=c.tx)||decide (c.fy=c.ty) then 11 else if Zdp h c then 0 else 24) else 2) else Zdz h.ht none c.hs) else 10:=by
 unfold Zgt
 have e:(if Zhi c.fx c.fy&&Zhi c.tx c.ty then (if decide (c.fx=c.tx)||decide (c.fy=c.ty) then 11 else unl (Zfi h (rcOf c.fx c.fy c.tx c.ty)) 24) else 2)=if plc c.fx&&plc c.fy&&plc c.tx&&plc c.ty then (if decide (c.fx=c.tx)||decide (c.fy=c.ty) then 11 else if Zdp h c then (0:Int) else 24) else 2:=by
  unfold Zhi
  rw [Uf,Uf,Uf,Uf,<-Bool.and_assoc]
  by_cases hp:(plc c.fx&&plc c.fy&&plc c.tx&&plc c.ty)=true
  ·rw [if_pos hp,if_pos hp]
   by_cases hd:(decide (c.fx=c.tx)||decide (c.fy=c.ty))=true
   ·rw [if_pos hd,if_pos hd]
   ·rw [if_neg hd,if_neg hd]
    simp only [Qc] at hp
    simp only [Ro,decide_eq_true_eq,not_or] at hd
    rw [show rcOf c.fx c.fy c.tx c.ty=c.rc from rfl,Yde hs ⟨within_iff.1 hp.1.1.1,within_iff.1 hp.1.1.2,within_iff.1 hp.1.2,within_iff.1 hp.2,hd.1,hd.2⟩]
    cases Zdp h c<;>rfl
  ·rw [if_neg hp,if_neg hp]
 rw [e]
theorem Zpd (h:Hal) (n:Nat) (hn:n=h.ks.length) (hst:Vd h.cs) {ms:List ByteArray} (hms:∀ s,s∈ms↔∃ u∈h.ms,u.nm=s):∀ (m k:Nat) (ns:List ByteArray),m=n-k->k<=n->(∀ s,s∈ns↔((s=Zaf\/s=Zd3)\/∃ u∈h.ws,u.nm=s)\/∃ u∈h.ks.take k,u.nm=s) ->
  ((Zgs h ms k ns (h.ks.drop k)).1,(Zgs h ms k ns (h.ks.drop k)).2.1)=fIx (Zc9 h) k (n-k)
 | 0,k,ns,hm,hk,hs=>by
  rw [Zb4 (by omega),Qo (by omega)]; rfl
 | m+1,k,ns,hm,hk,hs=>by
  have hlt:k<h.ks.length:=by omega
  rw [Uk (by omega:k<n),Ql hlt,Zgs]
  have e1:Zc9 h k=Zic h k h.ks[k]:=by unfold Zc9; rw [Qe hlt]
  have e2:Zic h k h.ks[k]=if Yf h.ks[k].nm ns=0 then cErr h ms h.ks[k] else Yf h.ks[k].nm ns:=by
   unfold Zic Yf
   rw [Zch]
   cases Uj h.ks[k].nm with
   | false=>simp
   | true =>
    have h1:Ud h.ks[k].nm ns=((((h.ks[k].nm==Zaf)||(h.ks[k].nm==Zd3))||(h.ws.any fun v=>v.nm==h.ks[k].nm))||(h.ks.take k).any fun v=>v.nm==h.ks[k].nm):=by
     rw [Sc,Zbg,hs,Ro,Ro,Ro,Zte,Zte,Ze4,Ze4,decide_eq_true_eq,decide_eq_true_eq]
    rw [h1]
    unfold cErr
    rw [Zjr hms,<-Yap hst]
    cases (h.ks.take k).any (fun v=>v.nm==h.ks[k].nm)<;>cases (h.ws.any fun v=>v.nm==h.ks[k].nm)<;>cases (h.ks[k].nm==Zaf)<;>cases (h.ks[k].nm==Zd3)<;>cases decide (Xd h.ks[k].mt 0 h.ms<0)<;>rfl
  rw [e1,e2]
  by_cases c1:Yf h.ks[k].nm ns=0
  ·rw [if_pos c1,if_pos c1]
   by_cases c2:cErr h ms h.ks[k]=0
   ·rw [if_pos c2,if_pos c2]
    refine Zpd h n hn hst hms m (k+1) _ (by omega) (by omega) fun s=>?_
    rw [Zek,hs,Qu hlt]
    simp only [Sh,Tm]
    constructor
    ·rintro (rfl|hl|⟨u,hu,e⟩)
     ·exact .inr ⟨_,.inr rfl,rfl⟩
     ·exact .inl hl
     ·exact .inr ⟨u,.inl hu,e⟩
    ·rintro (hl|⟨u,hu|rfl,e⟩)
     ·exact .inr (.inl hl)
     ·exact .inr (.inr ⟨u,hu,e⟩)
     ·exact .inl e.symm
   ·rw [if_neg c2,if_neg c2]
  ·rw [if_neg c1,if_neg c1,if_neg c1]
theorem Zzt {h:Hal} (hst:Vd h.cs) (x y z:Int):Zmg h x y z=if plc x&&plc y&&plc z then (if Zbx h ⟨x,y,z,1⟩ then 0 else 24) else 2:=by
 unfold Zmg
 rw [Uf,Uf,Uf]
 by_cases hp:(plc x&&plc y&&plc z)=true
 ·rw [if_pos hp,if_pos hp]
  simp only [Qc] at hp
  unfold Zuh Zbx
  rw [Zba hst z (Xc (within_iff.1 hp.1.1) (within_iff.1 hp.1.2))]
 ·rw [if_neg hp,if_neg hp]
theorem Znj (h:Hal) (n:Nat) (hn:n=h.ss.length) (hst:Vd h.cs):∀ (m k:Nat) (ns:List ByteArray),m=n-k->k<=n->(∀ s,s∈ns↔∃ u∈h.ss.take k,u.nm=s) ->
  ((Ze8 h k ns (h.ss.drop k)).1,(Ze8 h k ns (h.ss.drop k)).2.1)=fIx (Zc3 h) k (n-k)
 | 0,k,ns,hm,hk,hs=>by
  rw [Zb4 (by omega),Qo (by omega)]; rfl
 | m+1,k,ns,hm,hk,hs=>by
  have hlt:k<h.ss.length:=by omega
  rw [Uk (by omega:k<n),Ql hlt,Ze8]
  have e1:Zc3 h k=Zi7 h k h.ss[k]:=by unfold Zc3; rw [Qe hlt]
  have e2:Zi7 h k h.ss[k]=if Yf h.ss[k].nm ns=0 then Zmg h h.ss[k].x h.ss[k].y h.ss[k].z else Yf h.ss[k].nm ns:=by
   unfold Zi7 Yf
   rw [Zch,<-Zzt hst]
   cases Uj h.ss[k].nm with
   | false=>simp
   | true =>
    have h1:Ud h.ss[k].nm ns=(h.ss.take k).any fun v=>v.nm==h.ss[k].nm:=by
     rw [Sc,Zbg,hs,Zte]
    rw [h1]
    cases (h.ss.take k).any (fun v=>v.nm==h.ss[k].nm)<;>rfl
  rw [e1,e2]
  by_cases c1:Yf h.ss[k].nm ns=0
  ·rw [if_pos c1,if_pos c1]
   by_cases c2:Zmg h h.ss[k].x h.ss[k].y h.ss[k].z=0
   ·rw [if_pos c2,if_pos c2]
    refine Znj h n hn hst m (k+1) _ (by omega) (by omega) fun s=>?_
    rw [Zek,hs,Qu hlt]
    simp only [Sh,Tm]
    constructor
    ·rintro (rfl|⟨u,hu,e⟩)
     ·exact ⟨_,.inr rfl,rfl⟩
     ·exact ⟨u,.inl hu,e⟩
    ·rintro ⟨u,hu|rfl,e⟩
     ·exact .inr ⟨u,hu,e⟩
     ·exact .inl e.symm
   ·rw [if_neg c2,if_neg c2]
  ·rw [if_neg c1,if_neg c1,if_neg c1]
theorem Vy {x y:Int × Int × Int} {l m:List (Int × Int × Int)} (h:x=y) (hl:y.2.2=0->Zz l=Zz m):Zz (x::l)=Zz (y::m):=by
 subst h
 rw [Zz,Zz]
 by_cases c:x.2.2=0
 ·rw [if_pos c,if_pos c,hl c]
 ·rw [if_neg c,if_neg c]
theorem Ycv {h:Hal} (hf:h.few):chkR h=chk h:=by
 unfold chkR Zgp chk Zyo
 refine Vy (by rw [Zch]; rfl) fun _=>Vy rfl fun _=>Vy rfl fun _=>?_
 obtain ⟨m1,m2⟩:=Zn1 h h.ms.length rfl _ 0 [] rfl (Qp _) (fun s=>by simp)
 rw [Tz,Oo] at m1
 rw [Tz] at m2
 refine Vy (by rw [<-m1]) fun z1=>?_
 have hms:=m2 z1
 refine Vy ?_ fun _=>Vy rfl fun z2=>Vy rfl fun _=>?_
 ·unfold Ze0 Zks Hal.names
  rw [Zjr hms,Zjr hms]
  cases decide (Xd h.fl 0 h.ms<0)<;>cases decide (Xd h.ce 0 h.ms<0)<;>rfl
 have hwc:3<=h.cs.length/\h.ws.length=h.cs.length:=by
  have:=Ue z2 (by decide)
  simp only [set7,Qc,decide_eq_true_eq] at this
  omega
 have c1:=Zo9 h h.cs.length rfl _ 0 rfl (Qp _)
 rw [Tz,Oo] at c1
 refine Vy (by rw [c1]) fun z3=>?_
 have hb:Zpm h.cs:=Zm4 (by rw [c1] at z3; exact z3)
 obtain ⟨w1,w2⟩:=Zm8 h h.ws.length rfl hwc.2 hb hms _ 0 su0 rfl (Qp _) (fun s=>by
  rw [su0,Zek,Zek]; simp [or_comm])
 rw [Tz,Oo] at w1
 rw [Tz] at w2
 refine Vy (by rw [<-w1]; rfl) fun z4=>?_
 have hst:Vd h.cs:=Zkh hb hwc.2 (by rw [<-w1]; exact z4)
 refine Vy (by rw [Znh hst hwc.1 hf.2.1]) fun _=>Vy (by rw [Znd]) fun _=>Vy rfl fun _=>?_
 have k1:=Zpd h h.ks.length rfl hst hms _ 0 h.wal.2.2 rfl (Qp _) (fun s=>by
  have:=w2 z4 s
  rw [show h.wal.2.2=(Zda h.cs h.names 0 su0 h.ws).2.2 from rfl]
  simp only [List.take_zero,Kx,false_and,exists_false,or_false]
  exact this)
 rw [Tz,Oo] at k1
 refine Vy (by rw [<-k1]; rfl) fun _=>Vy rfl fun _=>?_
 have s1:=Znj h h.ss.length rfl hst _ 0 [] rfl (Qp _) (fun s=>by simp)
 rw [Tz,Oo] at s1
 exact Vy (by rw [<-s1]) fun _=>rfl
theorem c65 {h:Hal} (hf:h.few) (ht:h.texts):PCall Tryz.prog 64 [h.av] ⟨chkV (chkR h),[]⟩:=by
 have hk7:=Zsc hf
 have e0:chkR h=Zz (Zgp h):=rfl
 have ha:=Zcm (res:=⟨Bo (Xk h.nm),[]⟩) ht.nm
 have l1:=Zdt h.ms
 have l2:(h.cs.map pt).length=h.cs.length:=by simp
 have l3:=Vk h.ws
 have l4:=Zbi h.ks
 have l5:=Zdk h.ss
 generalize chkR h=X at *
 unfold Zgp at e0
 refine bs.pv (sx:=sx65) hk7 Tryz.func64 (by kernel_rfl) (by kernel_rfl) rfl ?_
 repeat'(first|refine wk0 ?_|(refine wk2 ?_ ?_<;>intro _)|fail)
 ·rename_i hx
  exact Zha e0 (by rw [Zkk (by simpa using hx)]) (by decide)
 ·rename_i h1 hx
  exact Zha (Xx e0 (Zfq (by simpa using h1))) (by rw [Zkk (by simpa using hx)]) (by decide)
 ·rename_i h1 h2 hx
  exact Zha (Xx (Xx e0 (Zfq (by simpa using h1))) (Zfq (by simpa using h2))) (by rw [Zkk (by rw [l1] at hx; simpa using hx)]) (by decide)
 rename_i h1 h2 h3
 have e3:=Xx (Xx (Xx e0 (Zfq (by simpa using h1))) (Zfq (by simpa using h2))) (Zfq (by rw [l1] at h3; simpa using h3))
 clear e0 h1 h2 h3 ha
 generalize hM:fIx (Zmn h) 0 h.ms.length=M at e3
 refine Zm (S:=Nat × Int) (fun t=>h.ms.length-t.1) (fun t=>E65 [(4,I t.2)]) (fun _=>Z65 h) 2 2 (fun t=>t.2=t.1/\t.1<=h.ms.length/\fIx (Zmn h) t.1 (h.ms.length-t.1)=M) (0,0) ⟨rfl,Qp _,hM⟩ (Qd _) [] rfl (kps) (kps) ?_
 clear hM
 rintro ⟨k,i⟩ ⟨hi,hk,hh⟩
 dsimp only at hi hk hh ⊢
 subst hi
 by_cases hlt:k<h.ms.length
 ·have e1:=Zr8 hlt
  have hs:=ht.ms _ (Qn hlt)
  rw [Uk hlt] at hh
  have hq:Zmn h k=mErr h k h.ms[k]:=by unfold Zmn; rw [Qe hlt]
  rw [hq] at hh
  clear hq
  generalize h.ms[k]=m at *
  have ha:=Zcm (res:=⟨Bo (Xk m.nm),[]⟩) hs
  have hm:=Zeg h m.nm
  refine bs.av (sx:=nos) hk7 ?_
  repeat'(first|refine wk1 ?_|(refine wk2 ?_ ?_<;>intro _)|fail)
  ·have hv:mErr h k m=4:=by clear hh e3 e1 hm hk7; simp_all [mErr]
   rw [hv] at hh; exact Zc7 e3 hh (by decide)
  ·have hv:mErr h k m=5:=by clear hh e3 e1 hm hk7; simp_all [mErr]
   rw [hv] at hh; exact Zc7 e3 hh (by decide)
  rename_i n1 n2
  have hv:mErr h k m=if (thou m.a&&(thou m.b&&(thou m.c&&thou m.d)))&&thou m.sc then 0 else 2:=by unfold mErr; rw [show Xk m.nm=true by simpa using n1,n2]; rfl
  rw [hv] at hh
  clear hv n1 n2
  refine LpM.start 5 ?_
  refine Wt (bs.av (sx:=nos) hk7 ?_)
  repeat'(first|refine wk1 ?_|(refine wk2 ?_ ?_<;>intro _)|fail)
  ·rename_i hx; rw [show thou m.a=false by unfold thou; simpa using hx] at hh; exact Zc7 (e:=2) e3 hh (by decide)
  rename_i hx; rw [show thou m.a=true by unfold thou; simpa using hx] at hh; clear hx
  refine Wt (bs.av (sx:=nos) hk7 ?_)
  repeat'(first|refine wk1 ?_|(refine wk2 ?_ ?_<;>intro _)|fail)
  ·rename_i hx; rw [show thou m.b=false by unfold thou; simpa using hx] at hh; exact Zc7 (e:=2) e3 hh (by decide)
  rename_i hx; rw [show thou m.b=true by unfold thou; simpa using hx] at hh; clear hx
  refine Wt (bs.av (sx:=nos) hk7 ?_)
  repeat'(first|refine wk1 ?_|(refine wk2 ?_ ?_<;>intro _)|fail)
  ·rename_i hx; rw [show thou m.c=false by unfold thou; simpa using hx] at hh; exact Zc7 (e:=2) e3 hh (by decide)
  rename_i hx; rw [show thou m.c=true by unfold thou; simpa using hx] at hh; clear hx
  refine Wt (bs.av (sx:=nos) hk7 ?_)
  repeat'(first|refine wk1 ?_|(refine wk2 ?_ ?_<;>intro _)|fail)
  ·rename_i hx; rw [show thou m.d=false by unfold thou; simpa using hx] at hh; exact Zc7 (e:=2) e3 hh (by decide)
  rename_i hx; rw [show thou m.d=true by unfold thou; simpa using hx] at hh; clear hx
  refine Wt (bs.av (sx:=nos) hk7 ?_)
  repeat'(first|refine wk1 ?_|(refine wk2 ?_ ?_<;>intro _)|fail)
  ·rename_i hx; rw [show thou m.sc=false by unfold thou; simpa using hx] at hh; exact Zc7 (e:=2) e3 hh (by decide)
  rename_i hx; rw [show thou m.sc=true by unfold thou; simpa using hx] at hh
  exact Qr ⟨(k+1,_),[],rfl,kps,kps,⟨Zb (by have:=hf.1; omega),hlt,hh⟩,by dsimp only; omega⟩
 rw [Zb4 (by omega)] at hh
 have e4:=Xx e3 (by rw [<-hh])
 clear e3 hh
 have hm1:=Zeg h h.fl
 have hm2:=Zeg h h.ce
 refine bs.av (sx:=nos) hk7 ?_
 repeat'(first|refine wk1 ?_|(refine wk2 ?_ ?_<;>intro _)|fail)
 ·rename_i hx
  refine Zha e4 (by unfold Ze0; simp_all; done) (by decide)
 ·rename_i h0 hx
  refine Zha e4 (by unfold Ze0; simp_all; done) (by decide)
 ·rename_i h0 h1 hx
  exact Zha (Xx e4 (by unfold Ze0; rw [h0,show decide (Xd h.ce 0 h.ms<0)=false by simpa using h1]; rfl)) (by rw [l2] at hx; rw [Zkk (by have:=of_decide_eq_true hx; rw [decide_eq_false (by omega)]; rfl)]) (by decide)
 ·rename_i h0 h1 h2 hx
  exact Zha (Xx e4 (by unfold Ze0; rw [h0,show decide (Xd h.ce 0 h.ms<0)=false by simpa using h1]; rfl)) (by rw [l3,l2] at hx; rw [Zkk (by rw [show decide ((h.ws.length:Int)=h.cs.length)=false by simpa using hx]; simp)]) (by decide)
 ·rename_i h0 h1 h2 h3 hx
  have e5:=Xx e4 (by unfold Ze0; rw [h0,show decide (Xd h.ce 0 h.ms<0)=false by simpa using h1]; rfl)
  have e6:=Xx e5 (Zfq (by rw [l2] at h2; rw [l3,l2] at h3; have:=of_decide_eq_false h2; rw [decide_eq_true (by omega),show decide ((h.ws.length:Int)=h.cs.length)=true by simpa using h3]; rfl))
  exact Zha e6 (by rw [l3] at hx; have:=of_decide_eq_true hx; rw [Zkk (by rw [decide_eq_false (by omega)])]) (by decide)
 rename_i h0 h1 h2 h3 h4
 have e5:=Xx e4 (by unfold Ze0; rw [h0,show decide (Xd h.ce 0 h.ms<0)=false by simpa using h1]; rfl)
 have hwc:h.ws.length=h.cs.length:=by
  rw [l3,l2] at h3; have:((h.ws.length:Int)=h.cs.length):=by simpa using h3
  omega
 have e6:=Xx e5 (Zfq (by rw [l2] at h2; have:=of_decide_eq_false h2; rw [decide_eq_true (by omega),decide_eq_true (by omega)]; rfl))
 have e7:=Xx e6 (Zfq (by rw [l3] at h4; have:=of_decide_eq_false h4; rw [decide_eq_true (by omega)]))
 clear e4 e5 e6 h0 h1 h2 h3 h4 hm1 hm2 hlt hk
 generalize hM:fIx (Zgo h) 0 h.cs.length=M at e7
 refine Zm (S:=Nat × Int) (fun t=>h.cs.length-t.1) (fun t=>E65 [(7,I t.2)]) (fun _=>Z65 h) 2 2 (fun t=>t.2=t.1/\t.1<=h.cs.length/\fIx (Zgo h) t.1 (h.cs.length-t.1)=M) (0,0) ⟨rfl,Qp _,hM⟩ (Qd _) [] rfl (kps) (kps) ?_
 rintro ⟨k,i⟩ ⟨hi,hk,hh⟩
 dsimp only at hi hk hh ⊢
 subst hi
 by_cases hlt:k<h.cs.length
 ·clear hM
  have e1:=Zc8 hlt
  rw [Uk hlt] at hh
  refine bs.av (sx:=nos) hk7 ?_
  unfold Zgo at hh
  generalize cor h.cs k=q at *
  have hv:∀ b c,plc q.1=b->plc q.2=c->(if plc q.1&&plc q.2 then (0:Int) else 2)=if b&&c then 0 else 2:=fun b c h1 h2=>by rw [h1,h2]
  unfold plc at hh hv
  repeat'(first|refine wk1 ?_|(refine wk2 ?_ ?_<;>intro _)|fail)
  ·rename_i hx
   rw [hv false _ (by simpa using hx) rfl] at hh; exact Zc7 (e:=2) e7 hh (by decide)
  ·rename_i h1 hx
   rw [hv true false (by simpa using h1) (by simpa using hx)] at hh; exact Zc7 (e:=2) e7 hh (by decide)
  ·rename_i h1 hx
   rw [hv true true (by simpa using h1) (by simpa using hx)] at hh
   exact Qr ⟨(k+1,_),[],rfl,kps,kps,⟨Zb (by have:=hf.2.1; omega),hlt,hh⟩,by dsimp only; omega⟩
 rw [Zb4 (by omega)] at hh
 have hb:Zpm h.cs:=Zm4 (by rw [hM,<-hh])
 have e8:=Xx e7 (by rw [<-hh])
 clear e7 hh hM
 refine bs.av (sx:=nos) hk7 ?_
 repeat'(first|refine wk1 ?_|(refine wk2 ?_ ?_<;>intro _)|fail)
 have hkw:PCOK Tryz.prog (ins 107 (fam (fun k=>[h.av,I (k:Int)]) (fun k=>⟨I (Zbn h k),[]⟩) h.ws.length) (kR7 h)):=Zsv (fun k hk=>by
  have:=c164 hf ht hwc hk
  rw [show Zbn h k=Zg3 h k h.ws[k] by unfold Zbn; rw [Qe hk]]
  exact this) hk7
 clear hlt hk
 generalize hM:fIx (Zbn h) 0 h.ws.length=M at e8
 refine Zm (S:=Nat × Int) (fun t=>h.ws.length-t.1) (fun t=>E65 [(8,I t.2)]) (fun _=>Z65 h) 2 2 (fun t=>t.2=t.1/\t.1<=h.ws.length/\fIx (Zbn h) t.1 (h.ws.length-t.1)=M) (0,0) ⟨rfl,Qp _,hM⟩ (Qd _) [] rfl (kps) (kps) ?_
 rintro ⟨k,i⟩ ⟨hi,hk,hh⟩
 dsimp only at hi hk hh ⊢
 subst hi
 by_cases hlt:k<h.ws.length
 ·clear hM
  have e1:=Zmz (h:=h) (r:=fun k=>⟨I (Zbn h k),[]⟩) hlt
  rw [Uk hlt] at hh
  refine bs.av (sx:=nos) hkw ?_
  try dsimp only at e1
  generalize Zbn h k=E at *
  repeat'(first|refine wk1 ?_|(refine wk2 ?_ ?_<;>intro _)|fail)
  ·rename_i hx
   exact Zc7 e8 hh (by simpa using hx)
  ·rename_i hx
   rw [if_pos (by simpa using hx)] at hh
   exact Qr ⟨(k+1,_),[],rfl,kps,kps,⟨Zb (by have:=hf.2.2.1; omega),hlt,hh⟩,by dsimp only; omega⟩
 rw [Zb4 (by omega)] at hh
 have hst:Vd h.cs:=Zkh hb hwc (by rw [hM,<-hh])
 have hz:h.nz:=Yge hst
 have e9:=Xx e8 (by rw [<-hh])
 clear e8 hh hM hkw hb
 refine bs.av (sx:=sx65) hk7 ?_
 repeat'(first|refine wk1 ?_|(refine wk2 ?_ ?_<;>intro _)|fail)
 clear hlt hk
 refine SCt.pc (c165 hf hwc hz) (by kernel_rfl) ?_
 repeat'(first|refine wk1 ?_|(refine wk2 ?_ ?_<;>intro _)|fail)
 ·rename_i hx
  exact Zha e9 (by rw [Zkk (by simpa using hx)]) (by decide)
 rename_i hx
 have e10:=Xx e9 (Zfq (by simpa using hx))
 clear e9 hx
 refine SCt.pc (c46 hf) (by kernel_rfl) ?_
 repeat'(first|refine wk1 ?_|(refine wk2 ?_ ?_<;>intro _)|fail)
 ·rename_i hx
  exact Zha e10 (by rw [Zkk (by have:=of_decide_eq_true hx; rw [decide_eq_false (by omega)])]) (by decide)
 ·rename_i h1 hx
  exact Zha (Xx e10 (Zfq (by have:=of_decide_eq_false h1; rw [decide_eq_true (by omega)]))) (by rw [l4] at hx; have:=of_decide_eq_true hx; rw [Zkk (by rw [decide_eq_false (by omega)])]) (by decide)
 rename_i h1 h2
 have e11:=Xx (Xx e10 (Zfq (by have:=of_decide_eq_false h1; rw [decide_eq_true (by omega)]))) (Zfq (by rw [l4] at h2; have:=of_decide_eq_false h2; rw [decide_eq_true (by omega)]))
 clear e10 h1 h2
 have hkw:PCOK Tryz.prog (ins 110 (fam (fun k=>[h.av,I (k:Int)]) (fun k=>⟨I (Zc9 h k),[]⟩) h.ks.length) (kR7 h)):=Zsv (fun k hk=>by
  have:=c166 hf ht hwc hz hk
  rw [show Zc9 h k=Zic h k h.ks[k] by unfold Zc9; rw [Qe hk]]
  exact this) hk7
 generalize hM:fIx (Zc9 h) 0 h.ks.length=M at e11
 refine Zm (S:=Nat × Int) (fun t=>h.ks.length-t.1) (fun t=>E65 [(10,I t.2)]) (fun _=>Z65 h) 2 2 (fun t=>t.2=t.1/\t.1<=h.ks.length/\fIx (Zc9 h) t.1 (h.ks.length-t.1)=M) (0,0) ⟨rfl,Qp _,hM⟩ (Qd _) [] rfl (kps) (kps) ?_
 clear hM
 rintro ⟨k,i⟩ ⟨hi,hk,hh⟩
 dsimp only at hi hk hh ⊢
 subst hi
 by_cases hlt:k<h.ks.length
 ·have e1:=Zmz (h:=h) (r:=fun k=>⟨I (Zc9 h k),[]⟩) hlt
  rw [Uk hlt] at hh
  refine bs.av (sx:=nos) hkw ?_
  try dsimp only at e1
  generalize Zc9 h k=E at *
  repeat'(first|refine wk1 ?_|(refine wk2 ?_ ?_<;>intro _)|fail)
  ·rename_i hx
   exact Zc7 e11 hh (by simpa using hx)
  ·rename_i hx
   rw [if_pos (by simpa using hx)] at hh
   exact Qr ⟨(k+1,_),[],rfl,kps,kps,⟨Zb (by have:=hf.2.2.2.1; omega),hlt,hh⟩,by dsimp only; omega⟩
 rw [Zb4 (by omega)] at hh
 have e12:=Xx e11 (by rw [<-hh])
 clear e11 hh hkw
 refine bs.av (sx:=nos) hk7 ?_
 repeat'(first|refine wk1 ?_|(refine wk2 ?_ ?_<;>intro _)|fail)
 ·rename_i hx
  exact Zha e12 (by rw [l5] at hx; have:=of_decide_eq_true hx; rw [Zkk (by rw [decide_eq_false (by omega)])]) (by decide)
 clear hlt hk
 rename_i h1
 have e13:=Xx e12 (Zfq (by rw [l5] at h1; have:=of_decide_eq_false h1; rw [decide_eq_true (by omega)]))
 clear e12 h1
 have hkw:PCOK Tryz.prog (ins 111 (fam (fun k=>[h.av,I (k:Int)]) (fun k=>⟨I (Zc3 h k),[]⟩) h.ss.length) (kR7 h)):=Zsv (fun k hk=>by
  have:=c167 hf ht hwc hz hk
  rw [show Zc3 h k=Zi7 h k h.ss[k] by unfold Zc3; rw [Qe hk]]
  exact this) hk7
 generalize hM:fIx (Zc3 h) 0 h.ss.length=M at e13
 refine Zm (S:=Nat × Int) (fun t=>h.ss.length-t.1) (fun t=>E65 [(12,I t.2)]) (fun _=>Z65 h) 2 2 (fun t=>t.2=t.1/\t.1<=h.ss.length/\fIx (Zc3 h) t.1 (h.ss.length-t.1)=M) (0,0) ⟨rfl,Qp _,hM⟩ (Qd _) [] rfl (kps) (kps) ?_
 clear hM
 rintro ⟨k,i⟩ ⟨hi,hk,hh⟩
 dsimp only at hi hk hh ⊢
 subst hi
 by_cases hlt:k<h.ss.length
 ·have e1:=Zmz (h:=h) (r:=fun k=>⟨I (Zc3 h k),[]⟩) hlt
  rw [Uk hlt] at hh
  refine bs.av (sx:=nos) hkw ?_
  try dsimp only at e1
  generalize Zc3 h k=E at *
  repeat'(first|refine wk1 ?_|(refine wk2 ?_ ?_<;>intro _)|fail)
  ·rename_i hx
   exact Zc7 e13 hh (by simpa using hx)
  ·rename_i hx
   rw [if_pos (by simpa using hx)] at hh
   exact Qr ⟨(k+1,_),[],rfl,kps,kps,⟨Zb (by have:=hf.2.2.2.2.1; omega),hlt,hh⟩,by dsimp only; omega⟩
 rw [Zb4 (by omega)] at hh
 have e14:=Xx e13 (by rw [<-hh])
 clear e13 hh hkw
 refine bs.av (sx:=nos) hk7 ?_
 repeat'(first|refine wk1 ?_|(refine wk2 ?_ ?_<;>intro _)|fail)
 subst e14
 exact Zg rfl rfl
def kQ1:PC:=pt0
theorem Ygx:PCOK Tryz.prog kQ1:=Ze
def Yp (s:ByteArray):Bool:=!decide ((20:Int)<(s.size:Int))
def fewM (m:Mat):Bool:=Yp m.nm
def fewW (w:Wal):Bool:=Yp w.nm&&Yp w.mt&&Yp w.cu
def fewC (c:Can):Bool:=Yp c.nm&&Yp c.mt && !decide ((6:Int)<(c.hs.length:Int))
def fewS (s:Sea):Bool:=Yp s.nm
theorem Znw (ns:List Int):Xs (nl ns)=true:=by simp [Xs,nl,Ke]
theorem c25 (ns:List Int) (hl:ns.length<100000):PCall Tryz.prog 23 [.isl 1 (nl ns)] ⟨.asl 0 0 (nl ns).length,[(1,nl ns)]⟩:=by
 have h1:=Znw ns
 have h2:=Zp ns
 refine pn Ze Tryz.func23 ?_
 repeat'(first|refine wk0 ?_|(refine wk2 ?_ ?_<;>intro _)|fail)
 refine Yk [1] rfl ?_ rfl
 show AV.asl 1 0 (0+(nl ns).length)=AV.asl 1 0 (nl ns).length
 rw [Sk]
theorem c25f (ns:List Int) (hl:ns.length<100000):PCall Tryz.prog 23 [.isl 1 (nl ns)] ⟨.isl 1 (nl ns),[]⟩:=(c25 ns hl).freeze ⟨rfl,rfl,rfl⟩
theorem Zwe (l:List Mat):Xs (l.map Ng)=true:=by simp [Xs,Ke]
theorem Zwf (l:List (Int × Int)):Xs (l.map pt)=true:=by simp [Xs,Ke,pt]
theorem Zwc (l:List Wal):Xs (l.map Wu)=true:=by simp [Xs,Ke]
theorem Zwd (l:List Sea):Xs (l.map Nh)=true:=by simp [Xs,Ke]
def r25:List AV->Option PRes
 | [.isl 1 els]=>none
 | _=>none
noncomputable abbrev cints:List AV->Option PRes:=famA (fun ns:List Int=>ns.length<100000) (fun ns=>[.isl 1 (nl ns)]) (fun ns=>⟨.isl 1 (nl ns),[]⟩)
theorem Ybx {a b:List Int} (h:nl a=nl b):a=b:=by
 unfold nl at h
 exact List.map_inj_right (fun x y hxy=>by simpa using hxy) |>.1 h
theorem Zyn {ns:List Int} (h:ns.length<100000):cints [.isl 1 (nl ns)]=some ⟨.isl 1 (nl ns),[]⟩ :=
 Zl (p:=fun ns:List Int=>ns.length<100000) (g:=fun ns=>[.isl 1 (nl ns)]) (r:=fun ns=>⟨.isl 1 (nl ns),[]⟩) (fun j hj=>by
  simp only [Rd,AV.isl.injEq,true_and,and_true] at hj
  rw [hj]) h
noncomputable def kQ2:PC:=ins 23 cints kQ1
theorem Zwu:PCOK Tryz.prog kQ2:=Zn (fun ns hl=>c25f ns hl) Ygx
abbrev canL (l:List Can):List (List AV):=l.map Nl
theorem Zyr {l:List Can} {k:Nat} (h:k<l.length):canL (l.take (k+1))=canL (l.take k)++[Nl l[k]]:=by unfold canL; rw [Qu h,Rm]; rfl
def cpyV (h:Hal):AV:=.agg [.str h.nm,I h.ht,.str h.fl,.str h.ce,.asl 0 0 (h.ms.map Ng).length,.asl 1 0 (h.cs.map pt).length,.asl 2 0 (h.ws.map Wu).length,(match h.ks with
 | []=>.nils
 | _=>.asl 4 0 (canL h.ks).length),.asl 3 0 (h.ss.map Nh).length]
def cpyB (h:Hal):List (Nat × List (List AV)):=[(6,h.ms.map Ng),(2,h.cs.map pt),(3,h.ws.map Wu),(4,h.ss.map Nh)]++(match h.ks with
 | []=>[]
 | _=>[(7,canL h.ks)])
abbrev Z22 (h:Hal):List (Nat × ABlk):=[(0,.row 9 [[.str h.nm,I h.ht,.str h.fl,.str h.ce,.asl 3 0 (0+(h.ms.map Ng).length),.asl 5 0 (0+(h.cs.map pt).length),.asl 7 0 (0+(h.ws.map Wu).length),.isl 7 (h.ks.map Nl),.asl 9 0 (0+(h.ss.map Nh).length)]] true false),
 (1,.row 9 [[.str ⟨#[]⟩,I 0,.str ⟨#[]⟩,.str ⟨#[]⟩,.nils,.nils,.nils,.nils,.nils]] true false),(3,.row 6 (h.ms.map Ng) true true),(5,.row 2 (h.cs.map pt) true true),(7,.row 3 (h.ws.map Wu) true true),(9,.row 4 (h.ss.map Nh) true true)]
theorem c22 {h:Hal} (hf:h.few):PCall Tryz.prog 10 [h.av] ⟨cpyV h,cpyB h⟩:=by
 have o1:=Zwe h.ms
 have o2:=Zwf h.cs
 have o3:=Zwc h.ws
 have o4:=Zwd h.ss
 have l1:=Zdt h.ms
 have l2:(h.cs.map pt).length=h.cs.length:=by simp
 have l3:=Vk h.ws
 have l4:=Zbi h.ks
 have l5:=Zdk h.ss
 obtain ⟨f1,f2,f3,f4,f5,f6⟩:=hf
 refine bs.pv (sx:=nos) Zwu Tryz.func10 (by kernel_rfl) (by kernel_rfl) (by unfold cpyV cpyB; cases h.ks<;>rfl) ?_
 repeat'(first|refine wk0 ?_|(refine wk2 ?_ ?_<;>intro _)|fail)
 refine Lp.ren (env2:=[(1,.ptr 0 0 0),(2,.ptr 1 0 0),(3,.nils),(4,I 0)]) (σ2:=⟨Z22 h,10⟩) (Ren.of [] rfl (kps) (kps)) ?_
 refine Zm (S:=Nat × Int × Nat × List (List AV)) (fun t=>h.ks.length-t.1) (fun t=>[(1,.ptr 0 0 0),(2,.ptr 1 0 0),(3,match t.1 with
  | 0=>.nils
  | _=>.asl 10 0 t.2.2.1),(4,I t.2.1)]) (fun t=>(match t.1 with
  | 0=>Z22 h
  | _=>(10,.row 7 t.2.2.2 true true)::Z22 h)) 10 11 (fun t=>t.2.1=t.1/\t.1<=h.ks.length/\t.2.2.1=t.2.2.2.length/\t.2.2.2=canL (h.ks.take t.1)) (0,0,0,[]) ⟨rfl,Qp _,rfl,rfl⟩ (Qd _) [] rfl (kps) (kps) ?_
 rintro ⟨k,i,len,els⟩ ⟨hi,hk,hlen,hels⟩
 dsimp only at hi hk hlen hels ⊢
 subst hi
 refine bs.av (sx:=nos) Zwu ?_
 by_cases hlt:k<h.ks.length
 ·have e1:=Zke hlt
  have e2:=Zyn (ns:=h.ks[k].hs) (by have:=f6 _ (Qn hlt); omega)
  have e3:=Zyr hlt
  have e4:els.length<2000:=by rw [hels]; simp [canL]; omega
  cases k with
  | zero =>
   repeat'(first|refine wk1 ?_|(refine wk2 ?_ ?_<;>intro _)|fail)
   exact Qr ⟨(1,_,_,_),[(10,13)],rfl,kps,kps,⟨Zb (k:=0) (by omega),hlt,rfl,e3.symm⟩,by dsimp only; omega⟩
  | succ k =>
   repeat'(first|refine wk1 ?_|(refine wk2 ?_ ?_<;>intro _)|fail)
   exact Qr ⟨(k+1+1,_,_,_),[(10,13)],rfl,kps,kps,⟨Zb (k:=k+1) (by omega),hlt,by exact List.length_append.symm,by show _=canL _; rw [e3,<-hels]; rfl⟩,by dsimp only; omega⟩
 rw [Sz (by omega)] at hels
 subst hels
 subst hlen
 cases k with
 | zero =>
  have hks:h.ks=[]:=List.eq_nil_of_length_eq_zero (by omega)
  have v1:cpyV h = .agg [.str h.nm,I h.ht,.str h.fl,.str h.ce,.asl 0 0 (h.ms.map Ng).length,.asl 1 0 (h.cs.map pt).length,.asl 2 0 (h.ws.map Wu).length,.nils,.asl 3 0 (h.ss.map Nh).length]:=by unfold cpyV; rw [hks]
  have v2:cpyB h=[(6,h.ms.map Ng),(2,h.cs.map pt),(3,h.ws.map Wu),(4,h.ss.map Nh)]:=by unfold cpyB; rw [hks]; rfl
  rw [v1,v2]
  clear v1 v2
  repeat'(first|refine wk1 ?_|(refine wk2 ?_ ?_<;>intro _)|fail)
  refine Yk [3,5,7,9] rfl ?_ rfl
  show AV.agg [_,_,_,_,.asl 3 0 (0+(h.ms.map Ng).length),.asl 5 0 (0+(h.cs.map pt).length),.asl 7 0 (0+(h.ws.map Wu).length),_,.asl 9 0 (0+(h.ss.map Nh).length)]=AV.agg [_,_,_,_,.asl 3 0 (h.ms.map Ng).length,.asl 5 0 (h.cs.map pt).length,.asl 7 0 (h.ws.map Wu).length,_,.asl 9 0 (h.ss.map Nh).length]
  simp only [Sk]; rfl
 | succ k =>
  have hks:∃ c l,h.ks=c::l:=by
   cases hq:h.ks with
   | nil=>rw [hq] at hk; simp at hk
   | cons c l=>exact ⟨c,l,rfl⟩
  have v1:cpyV h = .agg [.str h.nm,I h.ht,.str h.fl,.str h.ce,.asl 0 0 (h.ms.map Ng).length,.asl 1 0 (h.cs.map pt).length,.asl 2 0 (h.ws.map Wu).length,.asl 4 0 (canL h.ks).length,.asl 3 0 (h.ss.map Nh).length]:=by obtain ⟨c,l,hq⟩:=hks; unfold cpyV; rw [hq]
  have v2:cpyB h=[(6,h.ms.map Ng),(2,h.cs.map pt),(3,h.ws.map Wu),(4,h.ss.map Nh),(7,canL h.ks)]:=by obtain ⟨c,l,hq⟩:=hks; unfold cpyB; rw [hq]; rfl
  rw [v1,v2]
  clear v1 v2
  repeat'(first|refine wk1 ?_|(refine wk2 ?_ ?_<;>intro _)|fail)
  refine Yk [3,5,7,9,10] rfl ?_ rfl
  show AV.agg [_,_,_,_,.asl 3 0 (0+(h.ms.map Ng).length),.asl 5 0 (0+(h.cs.map pt).length),.asl 7 0 (0+(h.ws.map Wu).length),_,.asl 9 0 (0+(h.ss.map Nh).length)]=AV.agg [_,_,_,_,.asl 3 0 (h.ms.map Ng).length,.asl 5 0 (h.cs.map pt).length,.asl 7 0 (h.ws.map Wu).length,_,.asl 9 0 (h.ss.map Nh).length]
  simp only [Sk]; rfl
theorem c22f {h:Hal} (hf:h.few):PCall Tryz.prog 10 [h.av] ⟨h.av,[]⟩:=by
 refine (c22 hf).freeze ?_
 unfold cpyV cpyB
 cases hq:h.ks with
 | nil =>
  exact ⟨⟨rfl,rfl⟩,⟨rfl,rfl⟩,⟨rfl,rfl⟩,⟨rfl,rfl⟩,⟨rfl,rfl,rfl⟩,⟨rfl,rfl,rfl⟩,⟨rfl,rfl,rfl⟩,by rw [hq]; rfl,⟨rfl,rfl,rfl⟩,trivial⟩
 | cons c l =>
  exact ⟨⟨rfl,rfl⟩,⟨rfl,rfl⟩,⟨rfl,rfl⟩,⟨rfl,rfl⟩,⟨rfl,rfl,rfl⟩,⟨rfl,rfl,rfl⟩,⟨rfl,rfl,rfl⟩,⟨by rw [hq]; rfl,rfl,by rw [hq]⟩,⟨rfl,rfl,rfl⟩,trivial⟩
structure Stg where
 hs:List Int
 dr:List Int
abbrev Stg.cells (s:Stg):List AV:=[.isl 1 (nl s.hs),.isl 1 (nl s.dr)]
abbrev Stg.av (s:Stg):AV:=.agg [.isl 1 (nl s.hs),.isl 1 (nl s.dr)]
def Stg.few (s:Stg):Prop:=s.hs.length<1000/\s.dr.length<1000
def kLen (h:Hal) (i:Nat):Int:=match h.ks[i]? with
 | some c=>(c.hs.length:Int)
 | none=>0
def curt (h:Hal) (n:Int):ByteArray:=match h.ws[n.toNat]? with
 | some w=>w.cu
 | none=>⟨#[]⟩
def hgE (h:Hal):Nat->List Int->Int
 | _,[]=>0
 | i,n::l=>if within n 0 (Qa Qb (kLen h i-1)) then hgE h (i+1) l else 6
def drOk (h:Hal) (n:Int):Bool:=within n 0 (Qa Qb ((h.ws.length:Int)-1)) && !(curt h n==⟨#[]⟩)
def Zp8 (p:Option Int) (n:Int):Bool:=match p with
 | some q=>decide (n<=q)
 | none=>false
def drE (h:Hal):Option Int->List Int->Int
 | _,[]=>0
 | p,n::l=>if drOk h n then (if Zp8 p n then 9 else drE h (some n) l) else 6
def setE (h:Hal) (s:Stg):Int:=if (s.hs.length:Int)=h.ks.length then (if hgE h 0 s.hs=0 then drE h none s.dr else hgE h 0 s.hs) else 10
theorem Zwv {h:Hal} {i:Nat} (hi:i<h.ks.length):kLen h i=((nl h.ks[i].hs).length:Int):=by unfold kLen; rw [Qe hi,Zp]
theorem Yfd {h:Hal} {n:Int} (hw:within n 0 (Qa Qb ((h.ws.length:Int)-1))=true) (hl:h.ws.length<1000):∃ w,(h.ws.map Wu)[n.toNat]?=some (Wu w)/\curt h n=w.cu/\0<=n/\n<h.ws.length:=by
 rw [W_eq (by omega) (by omega)] at hw
 have hw:=within_iff.1 hw
 have hi:n.toNat<h.ws.length:=by omega
 exact ⟨h.ws[n.toNat],by simp [hi],by unfold curt; rw [Qe hi],by omega,by omega⟩
abbrev Z123 (h:Hal) (s:Stg):List (Nat × ABlk):=[(1,.row 2 [s.cells] true false),(0,.row 9 [h.cells] true false)]
theorem c123 {h:Hal} (hf:h.few) {s:Stg} (hs:s.few):PCall Tryz.prog 179 [h.av,s.av] ⟨I (setE h s),[]⟩:=by
 have l1:=Zp s.hs
 have l2:=Zp s.dr
 have l3:=Zbi h.ks
 have l4:=Vk h.ws
 obtain ⟨f1,f2,f3,f4,f5,f6⟩:=hf
 obtain ⟨g1,g2⟩:=hs
 refine pn Zbw Tryz.func179 ?_
 by_cases hlen:(s.hs.length:Int)=h.ks.length
 ·unfold setE
  rw [if_pos hlen]
  repeat'(first|refine wk1 ?_|(refine wk2 ?_ ?_<;>intro _)|fail)
  refine Zm (S:=Nat × Int) (fun t=>s.hs.length-t.1) (fun t=>[(2,.ptr 0 0 0),(3,.ptr 1 0 0),(4,I 0),(18,.isl 1 (nl s.hs)),(19,I (nl s.hs).length),(20,I t.2)]) (fun _=>Z123 h s) 2 2 (fun t=>t.2=t.1/\t.1<=s.hs.length/\hgE h t.1 (s.hs.drop t.1)=hgE h 0 s.hs) (0,0) ⟨rfl,Qp _,rfl⟩ (Qd _) [] rfl (kps) (kps) ?_
  rintro ⟨k,i⟩ ⟨hi,hk,hh⟩
  dsimp only at hi hk hh ⊢
  subst hi
  generalize hgE h 0 s.hs=V at *
  refine bs.av (sx:=nos) Zbw ?_
  by_cases hlt:k<s.hs.length
  ·have e1:=Zal hlt
   have e2:=Zke (l:=h.ks) (k:=k) (by omega)
   have e3:=Zwv (h:=h) (i:=k) (by omega)
   rw [Ql hlt,hgE,e3] at hh
   clear e3
   repeat'(first|refine wk1 ?_|(refine wk2 ?_ ?_<;>intro _)|fail)
   ·rename_i hx
    rw [show within s.hs[k] 0 (Qa Qb (((nl (h.ks[k]'(by omega)).hs).length:Int)-1))=false by simpa using hx] at hh
    exact Zc (by rw [<-hh]; rfl)
   ·rename_i hx
    rw [show within s.hs[k] 0 (Qa Qb (((nl (h.ks[k]'(by omega)).hs).length:Int)-1))=true by simpa using hx,if_pos rfl] at hh
    exact Qr ⟨(k+1,_),[],rfl,kps,kps,⟨Zb (by omega),hlt,hh⟩,by dsimp only; omega⟩
  rw [Qo (by omega)] at hh
  have hh:0=V:=hh
  subst hh
  rw [if_pos rfl]
  repeat'(first|refine wk1 ?_|(refine wk2 ?_ ?_<;>intro _)|fail)
  clear hlt hk
  refine Zm (S:=Nat × Int) (fun t=>s.dr.length-t.1) (fun t=>[(2,.ptr 0 0 0),(3,.ptr 1 0 0),(4,I 0),(39,.isl 1 (nl s.dr)),(40,I (nl s.dr).length),(41,I t.2)]) (fun _=>Z123 h s) 2 2 (fun t=>t.2=t.1/\t.1<=s.dr.length/\drE h (Yt s.dr t.1) (s.dr.drop t.1)=drE h none s.dr) (0,0) ⟨rfl,Qp _,rfl⟩ (Qd _) [] rfl (kps) (kps) ?_
  rintro ⟨k,i⟩ ⟨hi,hk,hh⟩
  dsimp only at hi hk hh ⊢
  subst hi
  generalize drE h none s.dr=V at *
  refine bs.av (sx:=nos) Zbw ?_
  by_cases hlt:k<s.dr.length
  ·have e1:=Zal hlt
   rw [Ql hlt,drE] at hh
   by_cases hw:within s.dr[k] 0 (Qa Qb ((h.ws.length:Int)-1))=true
   ·obtain ⟨w,e2,e3,e4,e5⟩:=Yfd hw f3
    have hw' : within s.dr[k] 0 (Qa Qb (((h.ws.map Wu).length:Int)-1))=true:=by rw [l4]; exact hw
    have hd:drOk h s.dr[k] = !(w.cu==⟨#[]⟩):=by unfold drOk; rw [hw,e3,Tv]
    rw [hd] at hh
    clear hd e3
    cases k with
    | zero =>
     have hp:Yt s.dr (0+1)=some s.dr[0]:=by simp [Yt,hlt]
     rw [<-hp] at hh
     clear hp
     have e8:Zp8 (Yt s.dr 0) s.dr[0]=false:=rfl
     rw [e8] at hh
     clear e8
     repeat'(first|refine wk1 ?_|(refine wk2 ?_ ?_<;>intro _)|fail)
     all_goals clear e1 e2
     all_goals try (exfalso; clear hh; simp_all; done)
     ·rename_i hx; exact Zc (by rw [<-hh]; clear hh; simp_all)
     ·exact Qr ⟨(1,_),[],rfl,kps,kps,⟨Zb (k:=0) (by omega),hlt,by rw [<-hh]; clear hh; simp_all⟩,by dsimp only; omega⟩
    | succ k =>
     have e6:Qa Qb (((k+1:Nat):Int)-1)=(k:Int):=by rw [W_eq (by omega) (by omega)]; omega
     have e7:(nl s.dr)[(Qa Qb (((k+1:Nat):Int)-1)).toNat]?=some [I s.dr[k]]:=by rw [e6]; exact Zal (by omega)
     have e8:Zp8 (Yt s.dr (k+1)) s.dr[k+1]=decide (s.dr[k+1]<=s.dr[k]):=by simp [Yt,Zp8,show k<s.dr.length by omega]
     rw [e8] at hh
     clear e8
     have hp:Yt s.dr (k+1+1)=some s.dr[k+1]:=by simp [Yt,hlt]
     rw [<-hp] at hh
     clear hp
     repeat'(first|refine wk1 ?_|(refine wk2 ?_ ?_<;>intro _)|fail)
     all_goals clear e7 e1 e2
     all_goals try (exfalso; clear hh; simp_all; done)
     ·rename_i hx; exact Zc (by rw [<-hh]; clear hh; simp_all)
     ·exact Zc (by rw [<-hh]; clear hh; simp_all)
     ·exact Qr ⟨(k+1+1,_),[],rfl,kps,kps,⟨Zb (k:=k+1) (by omega),hlt,by rw [<-hh]; clear hh; simp_all<;>omega⟩,by dsimp only; omega⟩
   ·have hd:drOk h s.dr[k]=false:=by unfold drOk; rw [show within s.dr[k] 0 (Qa Qb ((h.ws.length:Int)-1))=false by simpa using hw]; rfl
    have hw' : within s.dr[k] 0 (Qa Qb (((h.ws.map Wu).length:Int)-1))=false:=by rw [l4]; simpa using hw
    rw [hd] at hh
    repeat'(first|refine wk1 ?_|(refine wk2 ?_ ?_<;>intro _)|fail)
    all_goals try (exfalso; clear hh; simp_all; done)
    all_goals exact Zc (by rw [<-hh]; rfl)
  rw [Qo (by omega)] at hh
  repeat'(first|refine wk1 ?_|(refine wk2 ?_ ?_<;>intro _)|fail)
  exact Zc (by rw [<-hh]; cases Yt s.dr k<;>rfl)
 ·unfold setE
  rw [if_neg hlen]
  repeat'(first|refine wk1 ?_|(refine wk2 ?_ ?_<;>intro _)|fail)
  exact Zc rfl
theorem c75 {h:Hal} (hf:h.few) {s:Stg} (hs:s.few):PCall Tryz.prog 65 [h.av,s.av] ⟨I (setE h s),[]⟩:=by
 have l1:=Zp s.hs
 have l2:=Zp s.dr
 have l3:=Zbi h.ks
 have l4:=Vk h.ws
 obtain ⟨f1,f2,f3,f4,f5,f6⟩:=hf
 obtain ⟨g1,g2⟩:=hs
 refine pn Zbw Tryz.func65 ?_
 by_cases hlen:(s.hs.length:Int)=h.ks.length
 ·unfold setE
  rw [if_pos hlen]
  repeat'(first|refine wk1 ?_|(refine wk2 ?_ ?_<;>intro _)|fail)
  refine Zm (S:=Nat × Int) (fun t=>s.hs.length-t.1) (fun t=>[(2,.ptr 0 0 0),(3,.ptr 1 0 0),(4,I 0),(5,I t.2)]) (fun _=>Z123 h s) 2 2 (fun t=>t.2=t.1/\t.1<=s.hs.length/\hgE h t.1 (s.hs.drop t.1)=hgE h 0 s.hs) (0,0) ⟨rfl,Qp _,rfl⟩ (Qd _) [] rfl (kps) (kps) ?_
  rintro ⟨k,i⟩ ⟨hi,hk,hh⟩
  dsimp only at hi hk hh ⊢
  subst hi
  generalize hgE h 0 s.hs=V at *
  refine bs.av (sx:=nos) Zbw ?_
  by_cases hlt:k<s.hs.length
  ·have e1:=Zal hlt
   have e2:=Zke (l:=h.ks) (k:=k) (by omega)
   have e3:=Zwv (h:=h) (i:=k) (by omega)
   rw [Ql hlt,hgE,e3] at hh
   clear e3
   repeat'(first|refine wk1 ?_|(refine wk2 ?_ ?_<;>intro _)|fail)
   ·rename_i hx
    rw [show within s.hs[k] 0 (Qa Qb (((nl (h.ks[k]'(by omega)).hs).length:Int)-1))=false by simpa using hx] at hh
    exact Zc (by rw [<-hh]; rfl)
   ·rename_i hx
    rw [show within s.hs[k] 0 (Qa Qb (((nl (h.ks[k]'(by omega)).hs).length:Int)-1))=true by simpa using hx,if_pos rfl] at hh
    exact Qr ⟨(k+1,_),[],rfl,kps,kps,⟨Zb (by omega),hlt,hh⟩,by dsimp only; omega⟩
  rw [Qo (by omega)] at hh
  have hh:0=V:=hh
  subst hh
  rw [if_pos rfl]
  repeat'(first|refine wk1 ?_|(refine wk2 ?_ ?_<;>intro _)|fail)
  clear hlt hk
  refine Zm (S:=Nat × Int) (fun t=>s.dr.length-t.1) (fun t=>[(2,.ptr 0 0 0),(3,.ptr 1 0 0),(4,I 0),(6,I t.2)]) (fun _=>Z123 h s) 2 2 (fun t=>t.2=t.1/\t.1<=s.dr.length/\drE h (Yt s.dr t.1) (s.dr.drop t.1)=drE h none s.dr) (0,0) ⟨rfl,Qp _,rfl⟩ (Qd _) [] rfl (kps) (kps) ?_
  rintro ⟨k,i⟩ ⟨hi,hk,hh⟩
  dsimp only at hi hk hh ⊢
  subst hi
  generalize drE h none s.dr=V at *
  refine bs.av (sx:=nos) Zbw ?_
  by_cases hlt:k<s.dr.length
  ·have e1:=Zal hlt
   rw [Ql hlt,drE] at hh
   by_cases hw:within s.dr[k] 0 (Qa Qb ((h.ws.length:Int)-1))=true
   ·obtain ⟨w,e2,e3,e4,e5⟩:=Yfd hw f3
    have hw' : within s.dr[k] 0 (Qa Qb (((h.ws.map Wu).length:Int)-1))=true:=by rw [l4]; exact hw
    have hd:drOk h s.dr[k] = !(w.cu==⟨#[]⟩):=by unfold drOk; rw [hw,e3,Tv]
    rw [hd] at hh
    clear hd e3
    cases k with
    | zero =>
     have hp:Yt s.dr (0+1)=some s.dr[0]:=by simp [Yt,hlt]
     rw [<-hp] at hh
     clear hp
     have e8:Zp8 (Yt s.dr 0) s.dr[0]=false:=rfl
     rw [e8] at hh
     clear e8
     repeat'(first|refine wk1 ?_|(refine wk2 ?_ ?_<;>intro _)|fail)
     all_goals clear e1 e2
     all_goals try (exfalso; clear hh; simp_all; done)
     ·rename_i hx; exact Zc (by rw [<-hh]; clear hh; simp_all)
     ·exact Qr ⟨(1,_),[],rfl,kps,kps,⟨Zb (k:=0) (by omega),hlt,by rw [<-hh]; clear hh; simp_all⟩,by dsimp only; omega⟩
    | succ k =>
     have e6:Qa Qb (((k+1:Nat):Int)-1)=(k:Int):=by rw [W_eq (by omega) (by omega)]; omega
     have e7:(nl s.dr)[(Qa Qb (((k+1:Nat):Int)-1)).toNat]?=some [I s.dr[k]]:=by rw [e6]; exact Zal (by omega)
     have e8:Zp8 (Yt s.dr (k+1)) s.dr[k+1]=decide (s.dr[k+1]<=s.dr[k]):=by simp [Yt,Zp8,show k<s.dr.length by omega]
     rw [e8] at hh
     clear e8
     have hp:Yt s.dr (k+1+1)=some s.dr[k+1]:=by simp [Yt,hlt]
     rw [<-hp] at hh
     clear hp
     repeat'(first|refine wk1 ?_|(refine wk2 ?_ ?_<;>intro _)|fail)
     all_goals clear e7 e1 e2
     all_goals try (exfalso; clear hh; simp_all; done)
     ·rename_i hx; exact Zc (by rw [<-hh]; clear hh; simp_all)
     ·exact Zc (by rw [<-hh]; clear hh; simp_all)
     ·exact Qr ⟨(k+1+1,_),[],rfl,kps,kps,⟨Zb (k:=k+1) (by omega),hlt,by rw [<-hh]; clear hh; simp_all<;>omega⟩,by dsimp only; omega⟩
   ·have hd:drOk h s.dr[k]=false:=by unfold drOk; rw [show within s.dr[k] 0 (Qa Qb ((h.ws.length:Int)-1))=false by simpa using hw]; rfl
    have hw' : within s.dr[k] 0 (Qa Qb (((h.ws.map Wu).length:Int)-1))=false:=by rw [l4]; simpa using hw
    rw [hd] at hh
    repeat'(first|refine wk1 ?_|(refine wk2 ?_ ?_<;>intro _)|fail)
    all_goals try (exfalso; clear hh; simp_all; done)
    all_goals exact Zc (by rw [<-hh]; rfl)
  rw [Qo (by omega)] at hh
  repeat'(first|refine wk1 ?_|(refine wk2 ?_ ?_<;>intro _)|fail)
  exact Zc (by rw [<-hh]; cases Yt s.dr k<;>rfl)
 ·unfold setE
  rw [if_neg hlen]
  repeat'(first|refine wk1 ?_|(refine wk2 ?_ ?_<;>intro _)|fail)
  exact Zc rfl
structure Hal.ok (h:Hal):Prop where
 f:h.few
 t:h.texts
def Hal.err (h:Hal):Int:=(chk h).2.2
abbrev chkA (h:Hal):AV:=.tup [P2 (chk h).1 (chk h).2.1,I h.err]
theorem c65k {h:Hal} (hk:h.ok):PCall Tryz.prog 64 [h.av] ⟨chkA h,[]⟩:=by have:=c65 hk.f hk.t; rw [Ycv hk.f] at this; exact this
theorem c63k {h:Hal} (hk:h.ok):PCall Tryz.prog 73 [h.av] ⟨chkA h,[]⟩:=c63 hk.f hk.t
noncomputable def kE (h:Hal):PC:=ins 73 (one [h.av] ⟨chkA h,[]⟩) (ins 64 (one [h.av] ⟨chkA h,[]⟩) kQ2)
theorem Yg0 {h:Hal} (hk:h.ok):PCOK Tryz.prog (kE h):=Zf (c63k hk) (Zf (c65k hk) Zwu)
theorem c76 {h:Hal} (hk:h.ok):PCall Tryz.prog 178 [h.av] ⟨.tup [h.av,I h.err],[]⟩:=by
 refine pn (Yg0 hk) Tryz.func178 ?_
 repeat'(first|refine wk0 ?_|(refine wk2 ?_ ?_<;>intro _)|fail)
 exact Zg rfl rfl
def serr (h:Hal) (s:Stg):Int:=if h.err=0 then setE h s else h.err
noncomputable def kF (h:Hal) (s:Stg):PC:=ins 178 (one [h.av] ⟨.tup [h.av,I h.err],[]⟩) (ins 65 (one [h.av,s.av] ⟨I (setE h s),[]⟩) (ins 179 (one [h.av,s.av] ⟨I (setE h s),[]⟩) (kE h)))
theorem Yie {h:Hal} (hk:h.ok) {s:Stg} (hs:s.few):PCOK Tryz.prog (kF h s):=Zf (c76 hk) (Zf (c75 hk.f hs) (Zf (c123 hk.f hs) (Yg0 hk)))
theorem c47 {h:Hal} (hk:h.ok) {s:Stg} (hs:s.few):PCall Tryz.prog 98 [h.av,s.av] ⟨I (serr h s),[]⟩:=by
 refine pn (Yie hk hs) Tryz.func98 ?_
 repeat'(first|refine wk0 ?_|(refine wk2 ?_ ?_<;>intro _)|fail)
 all_goals exact Zc (by simp_all [serr])
end Go.Proofs.YtanbhfpalahjcaaGreat
namespace Go.Sx
open Go Go.RowKit
theorem Zv {T:Tab} {d:Nat} {t:TypeId} {xs:List AV} {ti:TI} {fs:Array Field} (ht:T t=some ti) (hd:ti.desc = .struct fs) (h:WT T (d+1) t xs) (i:Nat) {f:Field} (hf:fs.toList[i]?=some f) {tf:TI} (htf:T f.type=some tf):WT T d f.type ((xs.drop f.offset).take tf.size):=by
 obtain ⟨tf',e,w⟩:=(Uz ht hd h).2 f (List.mem_of_getElem? hf)
 rw [htf] at e
 cases e
 exact w
end Go.Sx
namespace Go.Proofs.YtanbhfpalahjcaaGreat
open Go Go.Sx
noncomputable abbrev TT:=tget tbl
def okS (s:ByteArray):Prop:=s.size<=maxLen
theorem wInt {d:Nat} {x:List AV} (h:WT TT (d+1) 3 x):∃ n,x=[I n]:=by
 obtain ⟨n,h1,_⟩:=Ya2 (T:=TT) (t:=3) rfl rfl h
 exact ⟨n,h1⟩
theorem wStr {d:Nat} {x:List AV} (h:WT TT (d+1) 9 x):∃ s,x=[.str s]/\okS s:=Yfc (T:=TT) (t:=9) rfl rfl h
theorem Yh4 {d:Nat} {x:List AV} (h:WT TT (d+2) 35 x):∃ ns:List Int,x=[.isl 1 (nl ns)]:=by
 obtain ⟨els,h1,h2,h3⟩:=Zd7 (T:=TT) (t:=35) rfl rfl rfl h
 have:∃ ns:List Int,els=nl ns:=by
  clear h1 h2
  induction els with
  | nil=>exact ⟨[],rfl⟩
  | cons e l ih =>
   obtain ⟨ns,hns⟩:=ih (fun x hx=>h3 x (by simp [hx]))
   obtain ⟨n,hn⟩:=wInt (h3 e (by simp))
   exact ⟨n::ns,by rw [hns,hn]; rfl⟩
 obtain ⟨ns,rfl⟩:=this
 exact ⟨ns,h1⟩
theorem wP2 {d:Nat} {x:List AV} (h:WT TT (d+2) 30 x):∃ p:Int × Int,x=pt p:=by
 obtain ⟨ns,h1,h2,_⟩:=Zu2 (T:=TT) (t:=30) rfl rfl rfl h
 have h2:ns.length=2:=h2
 match ns,h2 with
 | [a,b],_=>exact ⟨(a,b),by rw [h1]; rfl⟩
theorem wP3 {d:Nat} {x:List AV} (h:WT TT (d+2) 69 x):∃ a b c,x=[I a,I b,I c]:=by
 obtain ⟨ns,h1,h2,_⟩:=Zu2 (T:=TT) (t:=69) rfl rfl rfl h
 have h2:ns.length=3:=h2
 match ns,h2 with
 | [a,b,c],_=>exact ⟨a,b,c,by rw [h1]; rfl⟩
theorem wI4 {d:Nat} {x:List AV} (h:WT TT (d+2) 47 x):∃ a b c e,x=[I a,I b,I c,I e]:=by
 obtain ⟨h1,h2⟩:=Zzi (T:=TT) (t:=47) rfl rfl rfl h
 have h1:x.length=4:=h1
 match x,h1 with
 | [x0,x1,x2,x3],_ =>
  obtain ⟨a,ha⟩:=wInt (h2 0 (by omega))
  obtain ⟨b,hb⟩:=wInt (h2 1 (by omega))
  obtain ⟨c,hc⟩:=wInt (h2 2 (by omega))
  obtain ⟨e,he⟩:=wInt (h2 3 (by omega))
  have ha:[x0]=[I a]:=ha
  have hb:[x1]=[I b]:=hb
  have hc:[x2]=[I c]:=hc
  have he:[x3]=[I e]:=he
  cases ha; cases hb; cases hc; cases he
  exact ⟨a,b,c,e,rfl⟩
theorem wMat {d:Nat} {x:List AV} (h:WT TT (d+3) 99 x):∃ m:Mat,x=m.av/\okS m.nm:=by
 have h0:=(Uz (T:=TT) (t:=99) rfl rfl h).1
 have h0:x.length=6:=h0
 match x,h0 with
 | [x0,x1,x2,x3,x4,x5],_ =>
  obtain ⟨s,hs,hs2⟩:=wStr (Zv (T:=TT) (t:=99) rfl rfl h 0 rfl rfl)
  obtain ⟨a,b,c,e,ha⟩:=wI4 (Zv (T:=TT) (t:=99) rfl rfl h 1 rfl rfl)
  obtain ⟨n,hn⟩:=wInt (Zv (T:=TT) (t:=99) rfl rfl h 2 rfl rfl)
  have hs:[x0]=[.str s]:=hs
  have ha:[x1,x2,x3,x4]=[I a,I b,I c,I e]:=ha
  have hn:[x5]=[I n]:=hn
  cases hs; cases ha; cases hn
  exact ⟨⟨s,a,b,c,e,n⟩,rfl,hs2⟩
theorem wWal {d:Nat} {x:List AV} (h:WT TT (d+2) 97 x):∃ m:Wal,x=m.av/\okS m.nm/\okS m.mt/\okS m.cu:=by
 have h0:=(Uz (T:=TT) (t:=97) rfl rfl h).1
 have h0:x.length=3:=h0
 match x,h0 with
 | [x0,x1,x2],_ =>
  obtain ⟨s,hs,hs2⟩:=wStr (Zv (T:=TT) (t:=97) rfl rfl h 0 rfl rfl)
  obtain ⟨t,ht,ht2⟩:=wStr (Zv (T:=TT) (t:=97) rfl rfl h 1 rfl rfl)
  obtain ⟨u,hu,hu2⟩:=wStr (Zv (T:=TT) (t:=97) rfl rfl h 2 rfl rfl)
  have hs:[x0]=[.str s]:=hs
  have ht:[x1]=[.str t]:=ht
  have hu:[x2]=[.str u]:=hu
  cases hs; cases ht; cases hu
  exact ⟨⟨s,t,u⟩,rfl,hs2,ht2,hu2⟩
theorem wCan {d:Nat} {x:List AV} (h:WT TT (d+3) 101 x):∃ m:Can,x=m.av/\okS m.nm/\okS m.mt:=by
 have h0:=(Uz (T:=TT) (t:=101) rfl rfl h).1
 have h0:x.length=7:=h0
 match x,h0 with
 | [x0,x1,x2,x3,x4,x5,x6],_ =>
  obtain ⟨s,hs,hs2⟩:=wStr (Zv (T:=TT) (t:=101) rfl rfl h 0 rfl rfl)
  obtain ⟨t,ht,ht2⟩:=wStr (Zv (T:=TT) (t:=101) rfl rfl h 1 rfl rfl)
  obtain ⟨⟨a,b⟩,ha⟩:=wP2 (Zv (T:=TT) (t:=101) rfl rfl h 2 rfl rfl)
  obtain ⟨⟨c,e⟩,hc⟩:=wP2 (Zv (T:=TT) (t:=101) rfl rfl h 3 rfl rfl)
  obtain ⟨ns,hn⟩:=Yh4 (Zv (T:=TT) (t:=101) rfl rfl h 4 rfl rfl)
  have hs:[x0]=[.str s]:=hs
  have ht:[x1]=[.str t]:=ht
  have ha:[x2,x3]=[I a,I b]:=ha
  have hc:[x4,x5]=[I c,I e]:=hc
  have hn:[x6]=[.isl 1 (nl ns)]:=hn
  cases hs; cases ht; cases ha; cases hc; cases hn
  exact ⟨⟨s,t,a,b,c,e,ns⟩,rfl,hs2,ht2⟩
theorem wSea {d:Nat} {x:List AV} (h:WT TT (d+3) 103 x):∃ m:Sea,x=m.av/\okS m.nm:=by
 have h0:=(Uz (T:=TT) (t:=103) rfl rfl h).1
 have h0:x.length=4:=h0
 match x,h0 with
 | [x0,x1,x2,x3],_ =>
  obtain ⟨s,hs,hs2⟩:=wStr (Zv (T:=TT) (t:=103) rfl rfl h 0 rfl rfl)
  obtain ⟨a,b,c,ha⟩:=wP3 (Zv (T:=TT) (t:=103) rfl rfl h 1 rfl rfl)
  have hs:[x0]=[.str s]:=hs
  have ha:[x1,x2,x3]=[I a,I b,I c]:=ha
  cases hs; cases ha
  exact ⟨⟨s,a,b,c⟩,rfl,hs2⟩
theorem Ztk {α:Type} {f:α->List AV} {P:α->Prop} {Q:List AV->Prop} (hQ:∀ x,Q x->∃ m,x=f m/\P m):∀ els:List (List AV),(∀ x∈els,Q x)->∃ l:List α,els=l.map f/\∀ m∈l,P m
 | [],_=>⟨[],rfl,by simp⟩
 | e::els,h=>by
  obtain ⟨l,h1,h2⟩:=Ztk hQ els (fun x hx=>h x (by simp [hx]))
  obtain ⟨m,h3,h4⟩:=hQ e (h e (by simp))
  refine ⟨m::l,by rw [h3,h1]; rfl,fun u hu=>?_⟩
  rcases Ra.1 hu with rfl|hu
  ·exact h4
  ·exact h2 u hu
theorem Zb8 {s:ByteArray} (h:Yp s=true):s.data.toList.length<100000:=by
 unfold Yp at h
 have hz:s.size=s.data.toList.length:=by simp
 simp only [Te,decide_eq_false_iff_not] at h
 omega
def gv (n0:Nat) (k len:Nat):AV:=match k with
 | 0=>.nils
 | _=>.asl n0 0 len
def gz (n0 es:Nat) (k:Nat) (els:List (List AV)) (z:List (Nat × ABlk)):List (Nat × ABlk):=match k with
 | 0=>z
 | _=>(n0,.row es els true true)::z
def nm2 (a b:Nat) (k:Nat):Nat:=match k with
 | 0=>a
 | _=>b
structure Hal.fine (h:Hal):Prop where
 nms:h.names=(Ub 0 [] h.ms).2.2
 le:h.ms.length<=10/\3<=h.cs.length/\h.ws.length=h.cs.length/\h.ws.length<=12/\h.ks.length<=4/\h.ss.length<=40
 ht:2<=h.ht/\h.ht<=5000
 mats:∀ m∈h.ms,Zcc m=0
 fl:∃ m∈h.ms,m.nm=h.fl
 ce:∃ m∈h.ms,m.nm=h.ce
 bd:Zpm h.cs
 st:Vd h.cs
 simple:Xt h=true
 area:0<Zdf h
 wal:∀ i (hi:i<h.ws.length),Zg3 h i h.ws[i]=0
 can:∀ i (hi:i<h.ks.length),Zic h i h.ks[i]=0
 sea:∀ i (hi:i<h.ss.length),Zi7 h i h.ss[i]=0
theorem Vx {x:Int × Int × Int} {l:List (Int × Int × Int)} (h:(Zz (x::l)).2.2=0):x.2.2=0/\(Zz l).2.2=0:=by
 rw [Zz] at h
 by_cases c:x.2.2=0
 ·rw [if_pos c] at h; exact ⟨c,h⟩
 ·rw [if_neg c] at h; exact absurd h c
theorem Zqr {h:Hal} (hk:h.ok) (he:h.err=0):h.fine:=by
 have h0:(chkR h).2.2=0:=by rw [Ycv hk.f]; exact he
 unfold chkR Zgp at h0
 obtain ⟨z1,h0⟩:=Vx h0
 obtain ⟨z2,h0⟩:=Vx h0
 obtain ⟨z3,h0⟩:=Vx h0
 obtain ⟨z4,h0⟩:=Vx h0
 obtain ⟨z5,h0⟩:=Vx h0
 obtain ⟨z6,h0⟩:=Vx h0
 obtain ⟨z7,h0⟩:=Vx h0
 obtain ⟨z8,h0⟩:=Vx h0
 obtain ⟨z9,h0⟩:=Vx h0
 obtain ⟨z10,h0⟩:=Vx h0
 obtain ⟨z11,h0⟩:=Vx h0
 obtain ⟨z12,h0⟩:=Vx h0
 obtain ⟨z13,h0⟩:=Vx h0
 obtain ⟨z14,h0⟩:=Vx h0
 obtain ⟨z15,h0⟩:=Vx h0
 have z2:=within_iff.1 (Ue z2 (by decide))
 have z3:=of_decide_eq_true (Ue z3 (by decide))
 have z6:=Ue z6 (by decide)
 have z7:=of_decide_eq_true (Ue z7 (by decide))
 have z10:=Ue z10 (by decide)
 have z11:=of_decide_eq_true (Ue z11 (by decide))
 have z12:=of_decide_eq_true (Ue z12 (by decide))
 have z14:=of_decide_eq_true (Ue z14 (by decide))
 simp only [Qc,decide_eq_true_eq] at z6
 have hb:Zpm h.cs:=Zm4 z8
 have hwc:h.ws.length=h.cs.length:=by omega
 have hst:Vd h.cs:=Zkh hb hwc z9
 have hfl:¬(Xd h.fl 0 h.ms<0) /\ ¬(Xd h.ce 0 h.ms<0):=by
  change Ze0 h=0 at z5
  unfold Ze0 at z5
  split at z5
  ·cases z5
  ·rename_i hx
   simp only [Ro,decide_eq_true_eq,not_or] at hx
   exact hx
 refine ⟨rfl,⟨by omega,by omega,hwc,by omega,by omega,by omega⟩,z2,?_,?_,?_,hb,hst,?_,by rw [Znd]; exact z11,?_,?_,?_⟩
 ·intro m hm
  obtain ⟨i,hi,rfl⟩:=Je.1 hm
  have:=Zcw (n:=h.ms.length) _ 0 rfl z4 i (Qp _) hi
  unfold Zmn at this
  rw [Qe hi] at this
  change mErr h i h.ms[i]=0 at this
  unfold mErr at this
  unfold Zcc
  split at this
  ·split at this
   ·cases this
   ·split at this
    ·rename_i hx
     rw [if_pos (by simp only [Qc] at hx ⊢; simp [hx])]
    ·cases this
  ·cases this
 ·have:=mt (Zdu h.fl h.ms 0).2 hfl.1; exact Ho.1 this
 ·have:=mt (Zdu h.ce h.ms 0).2 hfl.2; exact Ho.1 this
 ·rw [Znh hst (by omega) hk.f.2.1]; exact z10
 ·intro i hi
  have:=Zcw (n:=h.ws.length) _ 0 rfl z9 i (Qp _) hi
  unfold Zbn at this
  rw [Qe hi] at this
  exact this
 ·intro i hi
  have:=Zcw (n:=h.ks.length) _ 0 rfl z13 i (Qp _) hi
  unfold Zc9 at this
  rw [Qe hi] at this
  exact this
 ·intro i hi
  have:=Zcw (n:=h.ss.length) _ 0 rfl z15 i (Qp _) hi
  unfold Zc3 at this
  rw [Qe hi] at this
  exact this
inductive SK (h:Hal):Int->Prop
 | wall (k:Nat) (hk:k<h.ws.length):SK h k
 | floor:SK h h.ws.length
 | ceil:SK h ((h.ws.length:Int)+1)
 | can (j:Nat) (hj:j<h.ks.length):SK h ((h.ws.length:Int)+2+j)
def Zwr (h:Hal) (i:Int):Int × Int:=if i<h.ws.length then (0,i) else if i=h.ws.length then (1,0) else if i=(h.ws.length:Int)+1 then (2,0) else (3,i-h.ws.length-2)
theorem c89 {h:Hal} (hf:h.few) {i:Int} (hi:SK h i):PCall Tryz.prog 174 [h.av,I i] ⟨.tup [I (Zwr h i).1,I (Zwr h i).2],[]⟩:=by
 have l:=Vk h.ws
 obtain ⟨_,_,f3,f4,_⟩:=hf
 have hw:Qa Qb (((h.ws.map Wu).length:Int)+1)=h.ws.length+1:=by rw [W_eq (by omega) (by omega)]; omega
 have hr:0<=i/\i<100000:=by cases hi<;>omega
 have hv:Qa Qb (Qa Qb (i-((h.ws.map Wu).length:Int))-2)=i-h.ws.length-2:=by rw [W_eq (n:=i-((h.ws.map Wu).length:Int)) (by omega) (by omega),W_eq (by omega) (by omega)]; omega
 unfold Zwr
 refine pn Ze Tryz.func174 ?_
 repeat'(first|refine wk0 ?_|(refine wk2 ?_ ?_<;>intro _)|fail)
 ·rename_i hx
  rw [l] at hx
  rw [if_pos (of_decide_eq_true hx)]; exact Zg rfl rfl
 ·rename_i h1 hx
  rw [l] at hx h1
  rw [if_neg (of_decide_eq_false h1),if_pos (of_decide_eq_true hx)]; exact Zg rfl rfl
 ·rename_i h1 h2 hx
  rw [hw] at hx
  rw [l] at h1 h2
  rw [if_neg (of_decide_eq_false h1),if_neg (of_decide_eq_false h2),if_pos (of_decide_eq_true hx)]; exact Zg rfl rfl
 ·rename_i h1 h2 hx
  rw [hw] at hx
  rw [l] at h1 h2
  rw [if_neg (of_decide_eq_false h1),if_neg (of_decide_eq_false h2),if_neg (of_decide_eq_false hx),<-hv]; exact Zg rfl rfl
def plW (w:Wl):Int × Int:=if w.dx=0 then (0,w.fx) else if w.dy=0 then (1,w.fy) else if w.dx=w.dy then (4,Qa Qb (w.fx-w.fy)) else (3,Qa Qb (w.fx+w.fy))
def bk:Nat->Int
 | 0=>0
 | k+1=>((2 ^ k:Nat):Int)
theorem Yag {n b:Int} (hb:0<b):(n.tmod b<0/\n / b=n.tdiv b-1)\/(¬ n.tmod b<0/\n / b=n.tdiv b):=by
 have e1:=Int.tmod_add_mul_tdiv n b
 have e2:=Dq n hb
 have e3:=Ds n hb
 by_cases h:n.tmod b<0
 ·exact .inl ⟨h,((Fw hb (r:=n.tmod b+b)).2 ⟨by rw [Int.mul_sub]; omega,by omega,by omega⟩).1⟩
 ·exact .inr ⟨h,((Fw hb (r:=n.tmod b)).2 ⟨by omega,by omega,by omega⟩).1⟩
theorem c90 {n b:Int} (hb:0<b) (h0 : -9223372036854775807<=n) (h1:n<=9223372036854775807):PCall Tryz.prog 185 [I n,I b] ⟨I (n / b),[]⟩:=by
 have hq:=Int.natAbs_tdiv_le_natAbs n b
 have e:Qa Qb (n.tdiv b)=n.tdiv b:=W_eq (by omega) (by omega)
 have hm:Qa Qb (n.tmod b)=n.tmod b:=by
  have:=Dq n hb
  have e3:=Ds n hb
  have e4:(n.tmod b).natAbs<=n.natAbs:=by rw [Int.natAbs_tmod]; exact Nat.mod_le _ _
  exact W_eq (by omega) (by omega)
 have hz:¬ b=0:=by omega
 refine pn Ze Tryz.func185 ?_
 rcases Yag (n:=n) hb with ⟨c1,c2⟩|⟨c1,c2⟩
 ·have e5:Qa Qb (n.tdiv b-1)=n.tdiv b-1:=W_eq (by omega) (by omega)
  rw [c2]
  repeat'(first|refine wk1 ?_|(refine wk2 ?_ ?_<;>intro _)|fail)
  all_goals exact Zc (by rw [e,e5])
 ·rw [c2]
  repeat'(first|refine wk1 ?_|(refine wk2 ?_ ?_<;>intro _)|fail)
  all_goals exact Zc (by omega)
theorem d87 (a b c d:Int):PCall Tryz.prog 100 [P2 a b,P2 c d] ⟨P2 (Qa Qb (c-a)) (Qa Qb (d-b)),[]⟩:=by
 refine pn Ze Tryz.func100 ?_
 repeat'(first|refine wk3 ?_|(refine wk2 ?_ ?_<;>intro _)|fail)
 exact Zg rfl rfl
def Zfs (ax ay:Int) (vis:Int × Int->Bool):List (Int × Int)->List (List AV)
 | []=>[]
 | p::l=>if p.1=ax/\p.2=ay then Zfs ax ay vis l else if vis p=true then [P2 (Qa Qb (p.1-ax)) (Qa Qb (p.2-ay))]::Zfs ax ay vis l else Zfs ax ay vis l
theorem Zg8 (ax ay:Int) (vis:Int × Int->Bool) (p:Int × Int) (l:List (Int × Int)):Zfs ax ay vis (p::l)=if p.1=ax/\p.2=ay then Zfs ax ay vis l else if vis p=true then [P2 (Qa Qb (p.1-ax)) (Qa Qb (p.2-ay))]::Zfs ax ay vis l else Zfs ax ay vis l:=rfl
def rFr:List AV->Option PRes
 | [.agg [.int .i64 a,.int .i64 b],.agg [.int .i64 c,.int .i64 d]]=>some ⟨P2 (Qa Qb (c-a)) (Qa Qb (d-b)),[]⟩
 | _=>none
def LN (es:Nat) (a:AV):Prop:=a = .nils\/∃ L,a = .isl es L
structure Pl where
 nm:ByteArray
 ht:Int
 fl:ByteArray
 ce:ByteArray
 ms:List (List AV)
 ps:List (Int × Int)
 wa:List (List AV)
 ca:AV
 se:AV
abbrev Pl.c (p:Pl):List AV:=[.str p.nm,I p.ht,.str p.fl,.str p.ce,.isl 6 p.ms,.isl 2 (p.ps.map pt),.isl 3 p.wa,p.ca,p.se]
abbrev rayA (ax ay dx dy last:Int):AV:=.agg [I ax,I ay,I dx,I dy,I last]
theorem Yif {q:Pl} (h1:LN 7 q.ca) (h2:LN 4 q.se) (hn:q.ps.length<1000) (ax ay last:Int) (bB bA:Int × Int->Bool)
  (hB:∀ p∈q.ps,PCall Tryz.prog 102 [.agg q.c,rayA ax ay (Qa Qb (p.1-ax)) (Qa Qb (p.2-ay)) last,P2 1 1] ⟨Bo (bB p),[]⟩)
  (hA:∀ p∈q.ps,PCall Tryz.prog 219 [.agg q.c,rayA ax ay (Qa Qb (p.1-ax)) (Qa Qb (p.2-ay)) last,P2 1 1] ⟨Bo (bA p),[]⟩) :
  ItOK Tryz.prog 218 [] [.ipt q.c,.ipt [I ax,I ay],.ipt [I last]] (Zfs ax ay (fun p=>bB p && !bA p) q.ps):=by
 obtain ⟨nm,ht,fl,ce,ms,ps,wa,ca,se⟩:=q
 dsimp only at h1 h2 hn hB hA ⊢
 have l1:(ps.map pt).length=ps.length:=by simp
 refine bs.yiter (sx:=nos) Ze Tryz.func218 (by kernel_rfl) rfl (by kernel_rfl) fun B Ig l JX hI=>?_
 rcases h1 with rfl|⟨L1,rfl⟩<;>rcases h2 with rfl|⟨L2,rfl⟩
 all_goals
  conv=>whnf
  refine Ygt (S:=Nat × Int) (fun t=>ps.length-t.1) (fun t=>[(0,.yld l),(1,.ipt [.str nm,I ht,.str fl,.str ce,.isl 6 ms,.isl 2 (ps.map pt),.isl 3 wa,_,_]),(2,.ipt [I ax,I ay]),(3,.ipt [I last]),(11,.isl 2 (ps.map pt)),(12,I (ps.map pt).length),(13,I t.2)]) (fun _=>[]) (fun t=>some (Zfs ax ay (fun p=>bB p && !bA p) (ps.drop t.1))) 0 (fun _=>0) (fun t=>t.2=t.1/\t.1<=ps.length) (0,0) ⟨rfl,Qp _⟩ (Qd _) rfl [] rfl (kps) (kps) ?_
  rintro ⟨k,i⟩ ⟨hi,hk⟩
  dsimp only at hi hk
  subst hi
  by_cases hlt:k<ps.length
  ·have e1:(ps.map pt)[((k:Nat):Int).toNat]?=some (pt ps[k]):=by simp [hlt]
   have hm:=Qn hlt
   have hT:=Zf (hB _ hm) (Zf (hA _ hm) (Zk (f0:=100) (r:=rFr) (fun a res h=>by unfold rFr at h; split at h<;>cases h; exact d87 _ _ _ _) Ze))
   have hG:(Qa Qb ((k:Int)+1)=((k+1:Nat):Int)/\k+1<=ps.length)/\ps.length-(k+1)<ps.length-k:=⟨⟨Zb (by omega),hlt⟩,by omega⟩
   dsimp only
   rw [Ql hlt]
   rw [Zg8]
   generalize ps[k]=p at *
   clear hB hA hm
   obtain ⟨px,py⟩:=p
   dsimp only at e1 hT ⊢
   generalize bB (px,py)=b1 at *
   generalize bA (px,py)=b2 at *
   by_cases c:px=ax/\py=ay
   ·rw [if_pos c]
    refine bs.yv hT hI (sx:=nos) ?_
    repeat'(first|refine wk3 ?_|(refine wk2 ?_ ?_<;>intro _)|fail)
    all_goals first
     | (refine Qr ?_; exact ⟨(k+1,_),[],rfl,kps,kps,rfl,hG.1,hG.2⟩)
     | (exfalso; clear hT e1; simp_all; done)
   ·rw [if_neg c]
    cases b1<;>cases b2
    all_goals
     refine bs.yv hT hI (sx:=nos) ?_
     repeat'(first|refine wk3 ?_|(refine wk2 ?_ ?_<;>intro _)|fail)
    all_goals first
     | (refine Qr ?_; exact ⟨(k+1,_),[],rfl,kps,kps,rfl,hG.1,hG.2⟩)
     | (exfalso; rename_i q; simp at q; exact c q)
     | skip
    all_goals
     refine Yd.mk ⟨rfl,rfl,.same rfl,fun _=>rfl,?_,?_⟩
     all_goals repeat'(first|refine wk3 ?_|(refine wk2 ?_ ?_<;>intro _)|fail)
    all_goals first
     | (refine Qr ?_; exact ⟨(k+1,_),[],rfl,kps,kps,rfl,hG.1,hG.2⟩)
     | exact Qr (.inr rfl)
  ·dsimp only
   rw [Qo (by omega)]
   unfold Zfs
   refine bs.yv Ze hI (sx:=nos) ?_
   repeat'(first|refine wk3 ?_|(refine wk2 ?_ ?_<;>intro _)|fail)
   exact Qr (.inl rfl)
end Go.Proofs.YtanbhfpalahjcaaGreat
