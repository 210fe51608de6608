/- A part of the proof: lemmas. -/
import Derived.Test.YtfkdpbklbegnlaaGreatZ10
import Derived.Test.YtfkdpbklbegnlaaGreatZ7
set_option linter.unusedVariables false
set_option linter.unusedSimpArgs false
set_option maxRecDepth 100000
set_option maxHeartbeats 16000000
open Bool renaming and_eq_true->Qc,eq_false_iff->Qv,eq_iff_iff->Rz,false_eq_true->Ro,not_eq_true'->Sz,or_eq_true->Qz,true_and->Wo
open Classical renaming not_not->Hk
open Function renaming comp->Qch
open Go.IntKind renaming i64->Qb,wrap->Qa,wrap_i64->Tj
open Go.Sx.AV renaming one->Ka
open Go.Sx.Done renaming mk->Ql
open Go.Sx.LpM renaming succ->Qx
open Go.Sx.PCall renaming freeze->Mt
open Int renaming add_zero->Wf,lt_trichotomy->Tb,mul_neg->Sf,mul_one->Sl,mul_zero->Tf,neg_mul->Tt,neg_neg->Tu,one_mul->Ph,sub_mul->Lw,sub_self->Gm,zero_add->Oe,zero_mul->Tw
open List renaming any_eq_false->Qaa,append_assoc->Rs,drop_eq_getElem_cons->Qi,drop_of_length_le->Qk,drop_zero->Wg,getElem?_eq_getElem->Qe,getElem_mem->Qr,length_append->Rr,length_take->Pi,map_append->Wz,map_congr_left->Ni,map_cons->Ti,mem_append->Tk,mem_cons->Rb,mem_iff_getElem->Oz,mem_map->Wd,mem_range->Tz,mem_singleton->We,not_mem_nil->Nm,take_of_length_le->Wc,take_succ_eq_append_getElem->Qw
open List.cons renaming injEq->Qs
open Nat renaming le_refl->Qd,sub_zero->Ws,zero_add->Ry,zero_le->Qn
namespace Go.Proofs.YtfkdpbklbegnlaaGreat
open Go Go.Sx
def xorL:List Bool->Bool
 | []=>false
 | b::l=>b ^^ xorL l
theorem Zjw:∀ (l m:List Bool),xorL (l++m)=(xorL l ^^ xorL m)
 | [],m=>by simp [xorL]
 | b::l,m=>by simp [xorL,Zjw l m]
theorem Zjv {α:Type} (a b:α->Bool):∀ l:List α,(xorL (l.map a) ^^ xorL (l.map b))=xorL (l.map fun x=>a x ^^ b x)
 | []=>rfl
 | x::l=>by
  simp only [Ti,xorL,<-Zjv a b l]
  cases a x<;>cases b x<;>cases xorL (l.map a)<;>cases xorL (l.map b)<;>rfl
theorem Zug {x y d:Int}:∀ (l:List Wl) (b:Bool),(∀ w∈l,w.has x y d=false)->inPl x y d b l=(b ^^ xorL (l.map (flips x y d)))
 | [],b,_=>by simp [inPl,xorL]
 | w::l,b,h=>by
  rw [Zp5 (h w (by simp)),Zug l _ (fun u hu=>h u (by simp [hu]))]
  simp [xorL]
theorem Zol (G:Nat->Bool) (n:Nat):∀ k,k<=n->xorL ((List.range k).map fun i=>G i ^^ G ((i+1)%n))=(G 0 ^^ G (k%n))
 | 0,_=>by simp [xorL]
 | k+1,h=>by
  rw [List.range_succ,Wz,Zjw,Zol G n k (by omega),Nat.mod_eq_of_lt (show k<n by omega)]
  simp only [Ti,List.map_nil,xorL]
  cases G 0<;>cases G k<;>cases G ((k+1)%n)<;>rfl
theorem tele (g:Int->Int->Bool) (cs:List (Int × Int)):xorL ((wls cs).map fun w=>g w.fx w.fy ^^ g w.tx w.ty)=false:=by
 have:=Zol (fun i=>g (cor cs i).1 (cor cs i).2) cs.length cs.length (Qd _)
 rw [Nat.mod_self] at this
 rw [wls,List.map_map]
 have e:((fun w:Wl=>g w.fx w.fy ^^ g w.tx w.ty) ∘ wlOf cs)=fun i=>g (cor cs i).1 (cor cs i).2 ^^ g (cor cs ((i+1)%cs.length)).1 (cor cs ((i+1)%cs.length)).2:=rfl
 rw [e,this]
 simp
theorem Zhf {w:Wl} {n sx sy x y:Int} (h:Str w n sx sy) (hp:PtOk x y 1):flips x y 1 w=true↔(w.fy<=y/\y<w.ty/\0<bes w sx sy x y 1)\/(w.ty<=y/\y<w.fy/\bes w sx sy x y 1<0):=by
 have b2:=h.b2
 have b4:=h.b4
 unfold flips
 rw [Xw h hp,Sl,Sl,W_eq (n:=w.fy) (by omega) (by omega),W_eq (n:=w.ty) (by omega) (by omega)]
 simp only [Qz,Qc,decide_eq_true_eq,Xp,Xq,and_assoc]
theorem Ygx {w:Wl} {n sx sy Y:Int} {q:Rc} (h:Str w n sx sy) (hq:RcOk q) (nh:¬hit w n sx sy q) (h1:q.yl<=Y) (h2:Y<=q.yh):flips q.xl Y 1 w=flips q.xh Y 1 w:=by
 have q1:=hq.x
 have q2:=hq.y
 have q3:=hq.b1
 have q4:=hq.b2
 have q5:=hq.b3
 have q6:=hq.b4
 rw [Rz,Zhf h (Xe (by omega) (by omega)),Zhf h (Xe (by omega) (by omega))]
 have key:∀ t,¬(0<=t/\t<=n/\q.xl<=w.fx+t*sx/\w.fx+t*sx<=q.xh/\q.yl<=w.fy+t*sy/\w.fy+t*sy<=q.yh):=fun t ht=>nh ⟨t,ht⟩
 have hn:=h.hn
 have hxy:=h.hxy
 unfold bes
 rw [h.ty]
 have k:=key ((Y-w.fy)*sy)
 clear key nh
 rcases h.hx with rfl|rfl|rfl<;>rcases h.hy with rfl|rfl|rfl<;>(try (exact absurd ⟨rfl,rfl⟩ hxy))<;>simp only [Tf,Sl,Sf,Tw,Tt,Ph,Tu,Oe,Wf] at k ⊢ <;> omega
def inR (X Y1 Y2 x y:Int):Bool:=decide (Y1<y/\y<=Y2/\X<x)
theorem Zrn {A B C D:Prop} [Decidable A] [Decidable B] [Decidable C] [Decidable D] (h:(A↔B)↔(C↔D)):(decide A ^^ decide B)=(decide C ^^ decide D):=by
 by_cases a:A<;>by_cases b:B<;>by_cases c:C<;>by_cases d:D<;>simp_all
theorem Yer {b:Bool} {p:Prop} [Decidable p] (h:b=true↔p):b=decide p:=by
 cases b
 ·exact (decide_eq_false (fun hp=>by simpa using h.2 hp)).symm
 ·exact (decide_eq_true (h.1 rfl)).symm
theorem Ygw {w:Wl} {n sx sy:Int} {q:Rc} (h:Str w n sx sy) (hq:RcOk q) (nh:¬hit w n sx sy q):(flips q.xl q.yl 1 w ^^ flips q.xl q.yh 1 w)=(inR q.xl q.yl q.yh w.fx w.fy ^^ inR q.xl q.yl q.yh w.tx w.ty):=by
 have q1:=hq.x
 have q2:=hq.y
 have q3:=hq.b1
 have q4:=hq.b2
 have q5:=hq.b3
 have q6:=hq.b4
 rw [Yer (Zhf h (Xe (x:=q.xl) (y:=q.yl) (by omega) (by omega))),Yer (Zhf h (Xe (x:=q.xl) (y:=q.yh) (by omega) (by omega)))]
 unfold inR
 refine Zrn ?_
 have key:∀ t,¬(0<=t/\t<=n/\q.xl<=w.fx+t*sx/\w.fx+t*sx<=q.xh/\q.yl<=w.fy+t*sy/\w.fy+t*sy<=q.yh):=fun t ht=>nh ⟨t,ht⟩
 have hn:=h.hn
 have hxy:=h.hxy
 unfold bes
 rw [h.tx,h.ty]
 have k:=key ((q.xl-w.fx)*sx)
 clear key nh
 rcases h.hx with rfl|rfl|rfl<;>rcases h.hy with rfl|rfl|rfl<;>(try (exact absurd ⟨rfl,rfl⟩ hxy))<;>simp only [Tf,Sl,Sf,Tw,Tt,Ph,Tu,Oe,Wf] at k ⊢ <;> omega
def Yay (cs:List (Int × Int)) (q:Rc):Prop:=∀ w∈wls cs,∀ n sx sy,Str w n sx sy -> ¬hit w n sx sy q
theorem Zx7 {w:Wl} {n sx sy x y:Int} {q:Rc} (h:Str w n sx sy) (hq:RcOk q) (nh:¬hit w n sx sy q) (h1:q.xl<=x) (h2:x<=q.xh) (h3:q.yl<=y) (h4:y<=q.yh):w.has x y 1=false:=by
 rw [Qv]
 intro hh
 rw [Za4 h (Xe (by have:=hq.b1; have:=hq.b2; omega) (by have:=hq.b3; have:=hq.b4; omega)),Zg3 h] at hh
 obtain ⟨t,a,b,rfl,rfl⟩:=hh
 exact nh ⟨t,a,b,h1,h2,h3,h4⟩
theorem Zq1 {h:Hal} {q:Rc} (hs:Za3 h.cs) (hq:RcOk q) (nh:Yay h.cs q):Yi h q.xh q.yl 1=Yi h q.xl q.yl 1/\Yi h q.xl q.yh 1=Yi h q.xl q.yl 1/\Yi h q.xh q.yh 1=Yi h q.xl q.yl 1:=by
 have q1:=hq.x
 have q2:=hq.y
 have e:∀ x y,q.xl<=x->x<=q.xh->q.yl<=y->y<=q.yh->Yi h x y 1=xorL ((wls h.cs).map (flips x y 1)):=by
  intro x y h1 h2 h3 h4
  unfold Yi
  rw [Zug _ _ (fun w hw=>by
   obtain ⟨n,sx,sy,g⟩:=Zbb hs w hw
   exact Zx7 g hq (nh w hw _ _ _ g) h1 h2 h3 h4),Bool.false_xor]
 have hh:∀ Y,q.yl<=Y->Y<=q.yh->(wls h.cs).map (flips q.xh Y 1)=(wls h.cs).map (flips q.xl Y 1):=by
  intro Y h1 h2
  refine Ni fun w hw=>?_
  obtain ⟨n,sx,sy,g⟩:=Zbb hs w hw
  exact (Ygx g hq (nh w hw _ _ _ g) h1 h2).symm
 have hv:(xorL ((wls h.cs).map (flips q.xl q.yl 1)) ^^ xorL ((wls h.cs).map (flips q.xl q.yh 1)))=false:=by
  rw [Zjv,<-tele (inR q.xl q.yl q.yh) h.cs]
  congr 1
  refine Ni fun w hw=>?_
  obtain ⟨n,sx,sy,g⟩:=Zbb hs w hw
  exact Ygw g hq (nh w hw _ _ _ g)
 rw [e q.xh q.yl (by omega) (by omega) (by omega) (by omega),e q.xl q.yl (by omega) (by omega) (by omega) (by omega),e q.xl q.yh (by omega) (by omega) (by omega) (by omega),e q.xh q.yh (by omega) (by omega) (by omega) (by omega),hh q.yl (by omega) (by omega),hh q.yh (by omega) (by omega)]
 revert hv
 cases xorL ((wls h.cs).map (flips q.xl q.yl 1))<;>cases xorL ((wls h.cs).map (flips q.xl q.yh 1))<;>simp
def E1 (c:Can):Wl:=⟨0,c.fx,c.fy,c.tx,c.fy⟩
def E2 (c:Can):Wl:=⟨0,c.tx,c.fy,c.tx,c.ty⟩
def E3 (c:Can):Wl:=⟨0,c.tx,c.ty,c.fx,c.ty⟩
def E4 (c:Can):Wl:=⟨0,c.fx,c.ty,c.fx,c.fy⟩
theorem Yc3 (c:Can):Zl8 c=(E1 c).ln:=by unfold Zl8 Wl.ln E1; simp only [Gm]; rfl
theorem Yc2 (c:Can):Zl7 c=(E2 c).ln:=by unfold Zl7 Wl.ln E2; simp only [Gm]; rfl
theorem Yc1 (c:Can):Zl6 c=(E3 c).ln:=by
 unfold Zl6 Wl.ln E3; simp only [Gm]
 have:Qa Qb (0-Qa Qb (c.tx-c.fx))=Qa Qb (c.fx-c.tx):=by simp only [Tj]; omega
 rw [this]; rfl
theorem Yc0 (c:Can):Zl5 c=(E4 c).ln:=by
 unfold Zl5 Wl.ln E4; simp only [Gm]
 have:Qa Qb (0-Qa Qb (c.ty-c.fy))=Qa Qb (c.fy-c.ty):=by simp only [Tj]; omega
 rw [this]; rfl
structure CanOk (c:Can):Prop where
 b1 : -5000<=c.fx/\c.fx<=5000
 b2 : -5000<=c.fy/\c.fy<=5000
 b3 : -5000<=c.tx/\c.tx<=5000
 b4 : -5000<=c.ty/\c.ty<=5000
 x:c.fx≠c.tx
 y:c.fy≠c.ty
abbrev Can.rc (c:Can):Rc:=rcOf c.fx c.fy c.tx c.ty
theorem Zf7 (c:Can):(c.rc.xl=min c.fx c.tx/\c.rc.xh=max c.fx c.tx)/\(c.rc.yl=min c.fy c.ty/\c.rc.yh=max c.fy c.ty):=by
 unfold Can.rc rcOf imin imax
 refine ⟨⟨?_,?_⟩,?_,?_⟩<;>dsimp only
 ·by_cases h:c.tx<c.fx<;>simp [h]<;>omega
 ·by_cases h:c.fx<c.tx<;>simp [h]<;>omega
 ·by_cases h:c.ty<c.fy<;>simp [h]<;>omega
 ·by_cases h:c.fy<c.ty<;>simp [h]<;>omega
theorem CanOk.rcOk {c:Can} (h:CanOk c):RcOk c.rc:=by
 obtain ⟨⟨e1,e2⟩,e3,e4⟩:=Zf7 c
 obtain ⟨b1,b2,b3,b4,hx,hy⟩:=h
 exact ⟨by omega,by omega,by omega,by omega,by omega,by omega⟩
theorem Zqw {c:Can} (h:CanOk c):∃ m k sx sy,(sx=1\/sx = -1)/\(sy=1\/sy = -1)/\c.tx=c.fx+m*sx/\c.ty=c.fy+k*sy/\Str (E1 c) m sx 0/\Str (E2 c) k 0 sy/\Str (E3 c) m (-sx) 0/\Str (E4 c) k 0 (-sy):=by
 obtain ⟨b1,b2,b3,b4,hx,hy⟩:=h
 have hx' : c.fx<c.tx\/c.tx<c.fx:=by omega
 have hy' : c.fy<c.ty\/c.ty<c.fy:=by omega
 rcases hx' with hx' | hx'<;>rcases hy' with hy' | hy'
 ·refine ⟨c.tx-c.fx,c.ty-c.fy,1,1,.inl rfl,.inl rfl,by omega,by omega,?_,?_,?_,?_⟩<;>constructor<;>(try simp only [E1,E2,E3,E4])<;>first|omega|decide
 ·refine ⟨c.tx-c.fx,c.fy-c.ty,1,-1,.inl rfl,.inr rfl,by omega,by omega,?_,?_,?_,?_⟩<;>constructor<;>(try simp only [E1,E2,E3,E4])<;>first|omega|decide
 ·refine ⟨c.fx-c.tx,c.ty-c.fy,-1,1,.inr rfl,.inl rfl,by omega,by omega,?_,?_,?_,?_⟩<;>constructor<;>(try simp only [E1,E2,E3,E4])<;>first|omega|decide
 ·refine ⟨c.fx-c.tx,c.fy-c.ty,-1,-1,.inr rfl,.inr rfl,by omega,by omega,?_,?_,?_,?_⟩<;>constructor<;>(try simp only [E1,E2,E3,E4])<;>first|omega|decide
theorem Zut {P:Int->Prop} (hd:∀ t,P t \/ ¬P t):∀ (k:Nat),P k->P 0\/∃ t:Int,1<=t/\t<=k/\P t /\ ¬P (t-1)
 | 0,h=>.inl h
 | k+1,h=>by
  rcases hd (k:Int) with h0|h0
  ·rcases Zut hd k h0 with h1|⟨t,a,b,c,d⟩
   ·exact .inl h1
   ·exact .inr ⟨t,a,by omega,c,d⟩
  ·exact .inr ⟨(k:Int)+1,by omega,by omega,by simpa using h,by simpa using h0⟩
theorem Zyw {c:Can} (hc:CanOk c) {w:Wl} {n sx sy:Int} (h:Str w n sx sy):hit w n sx sy c.rc↔((E1 c).touches w=true\/(E2 c).touches w=true\/(E3 c).touches w=true\/(E4 c).touches w=true)\/(c.rc.xl<=w.fx/\w.fx<=c.rc.xh/\c.rc.yl<=w.fy/\w.fy<=c.rc.yh) := by
  obtain ⟨⟨e1, e2⟩, e3, e4⟩ := Zf7 c
  obtain ⟨m, k, ux, uy, hux, huy, hm, hk, s1, s2, s3, s4⟩ := Zqw hc
  have hm0 := s1.hn
  have hk0 := s2.hn
  rw [Zb1 s1 h (.inr rfl), Zb1 s2 h (.inl rfl), Zb1 s3 h (.inr rfl), Zb1 s4 h (.inl rfl)]
  rw [e1, e2, e3, e4]
  constructor
  · rintro ⟨t, t0, t1, g1, g2, g3, g4⟩
    rw [e1] at g1; rw [e2] at g2; rw [e3] at g3; rw [e4] at g4;have hf := Zut (P := fun t => min c.fx c.tx<=w.fx+t*sx/\w.fx+t*sx<=max c.fx c.tx/\min c.fy c.ty<=w.fy+t*sy/\w.fy+t*sy<=max c.fy c.ty) (fun t => Classical.em _) t.toNat (by rw [Int.toNat_of_nonneg t0]; exact ⟨g1, g2, g3, g4⟩)
    rcases hf with hf|⟨u, u1, u2, ⟨f1, f2, f3, f4⟩, hn⟩
    · refine .inr ?_
      simpa using hf
    · refine .inl ?_
      have hb:w.fx+u*sx=c.fx\/w.fx+u*sx=c.tx\/w.fy+u*sy=c.fy\/w.fy+u*sy=c.ty := by
        rw [Lw, Lw] at hn;have hx := h.hx;have hy := h.hy;generalize u*sx=U at *;generalize u*sy=V at *;omega
      unfold common
      rcases hb with hb|hb|hb|hb
      · refine .inr (.inr (.inr ⟨u, (c.ty-(w.fy+u*sy))*uy, by omega, by omega, ?_, ?_, ?_, ?_⟩))<;>(try simp only [E4])<;>generalize u*sx=U at * <;> generalize u*sy=V at * <;> rcases huy with rfl|rfl<;>simp only [Tf, Sl, Sf, Tu, Wf] at * <;> omega
      · refine .inr (.inl ⟨u, ((w.fy+u*sy)-c.fy)*uy, by omega, by omega, ?_, ?_, ?_, ?_⟩)<;>(try simp only [E2])<;>generalize u*sx=U at * <;> generalize u*sy=V at * <;> rcases huy with rfl|rfl<;>simp only [Tf, Sl, Sf, Tu, Wf] at * <;> omega
      · refine .inl ⟨u, ((w.fx+u*sx)-c.fx)*ux, by omega, by omega, ?_, ?_, ?_, ?_⟩<;>(try simp only [E1])<;>generalize u*sx=U at * <;> generalize u*sy=V at * <;> rcases hux with rfl|rfl<;>simp only [Tf, Sl, Sf, Tu, Wf] at * <;> omega
      · refine .inr (.inr (.inl ⟨u, (c.tx-(w.fx+u*sx))*ux, by omega, by omega, ?_, ?_, ?_, ?_⟩))<;>(try simp only [E3])<;>generalize u*sx=U at * <;> generalize u*sy=V at * <;> rcases hux with rfl|rfl<;>simp only [Tf, Sl, Sf, Tu, Wf] at * <;> omega
  · rintro ((⟨t, s, t0, t1, s0, s1, c1, c2⟩|⟨t, s, t0, t1, s0, s1, c1, c2⟩|⟨t, s, t0, t1, s0, s1, c1, c2⟩|⟨t, s, t0, t1, s0, s1, c1, c2⟩)|hc)
    all_goals first
      | (refine ⟨t, t0, t1, ?_⟩
         rw [e1, e2, e3, e4];simp only [E1, E2, E3, E4] at c1 c2;rw [c1, c2]
         rcases hux with rfl|rfl<;>rcases huy with rfl|rfl<;>simp only [Tf, Sl, Sf, Tu, Wf] at * <;> omega)
      | (refine ⟨0, by omega, by have := h.hn; omega, ?_⟩
         rw [e1, e2, e3, e4]
         simpa using hc)
theorem Zp6 {c:Can} (hc:CanOk c) (x y:Int):Zgc c ⟨x,y,0,1⟩=true↔(c.rc.xl<=x/\x<=c.rc.xh)/\(c.rc.yl<=y/\y<=c.rc.yh):=by
 have q:=hc.rcOk
 have q1:=q.x
 have q2:=q.y
 have q3:=q.b1
 have q4:=q.b2
 have q5:=q.b3
 have q6:=q.b4
 unfold Zgc
 show (within x (Qa Qb (c.rc.xl*1)) (Qa Qb (c.rc.xh*1))&&within y (Qa Qb (c.rc.yl*1)) (Qa Qb (c.rc.yh*1)))=true↔_
 rw [Sl,Sl,Sl,Sl,W_eq (n:=c.rc.xl) (by omega) (by omega),W_eq (n:=c.rc.xh) (by omega) (by omega),W_eq (n:=c.rc.yl) (by omega) (by omega),W_eq (n:=c.rc.yh) (by omega) (by omega),Qc,within_iff,within_iff]
theorem Zlj (h:Hal):∀ l:List Ln,Xl h l=true↔∀ e∈l,Zv h e.a=true/\Vg h e=false
 | []=>by simp [Xl]
 | e::l=>by
  rw [Xl]
  have ih:=Zlj h l
  cases h1:Zv h e.a<;>cases h2:Vg h e<;>simp [h1,h2,ih]
theorem Yfi {h:Hal} {c:Can} (hs:Za3 h.cs) (hc:CanOk c):Zgb h c.rc=Zel h c:=by
 have hq:=hc.rcOk
 have q1:=hq.x
 have q2:=hq.y
 have q3:=hq.b1
 have q4:=hq.b2
 have q5:=hq.b3
 have q6:=hq.b4
 obtain ⟨⟨e1,e2⟩,e3,e4⟩:=Zf7 c
 obtain ⟨m,k,ux,uy,hux,huy,hm,hk,s1,s2,s3,s4⟩:=Zqw hc
 have hA:(Zgb h c.rc=true)↔Yay h.cs c.rc/\Yi h c.rc.xl c.rc.yl 1=true:=by
  unfold Zgb Yay
  rw [Qc,List.all_eq_true]
  refine and_congr ⟨fun hh w hw n sx sy g hit=>?_,fun hh w hw=>?_⟩ Iff.rfl
  ·have:=hh w hw
   rw [(Zpr g hq).2 hit] at this;cases this
  ·obtain ⟨n,sx,sy,g⟩:=Zbb hs w hw
   have:=hh w hw n sx sy g;rw [<-Zpr g hq] at this;simpa using this
 have tch:∀ (e:Wl) {m ex ey:Int},Str e m ex ey->(Vg h e.ln=false↔∀ w∈wls h.cs,e.touches w=false):=by
  intro e m ex ey g
  unfold Vg
  rw [Yd4,List.any_map,Qaa]
  refine ⟨fun hh w hw=>?_,fun hh w hw=>?_⟩
  ·obtain ⟨n,sx,sy,gw⟩:=Zbb hs w hw
   have:=hh w hw;rw [Qch,<-Zh8 g gw] at this;simpa using this
  ·obtain ⟨n,sx,sy,gw⟩:=Zbb hs w hw
   rw [Qch,<-Zh8 g gw];simpa using hh w hw
 have bnd:((h.cs.any fun p=>Zgc c ⟨p.1,p.2,0,1⟩)=false)↔∀ w∈wls h.cs,¬(c.rc.xl<=w.fx/\w.fx<=c.rc.xh/\c.rc.yl<=w.fy/\w.fy<=c.rc.yh):=by
  rw [Qaa]
  refine ⟨fun hh w hw hin=>?_,fun hh p hp hin=>?_⟩
  ·simp only [wls,Wd,Tz] at hw
   obtain ⟨i,hi,rfl⟩:=hw;refine hh (cor h.cs i) (by rw [Zs4 hi]; exact Qr hi) ?_;rw [Zp6 hc];exact ⟨⟨hin.1,hin.2.1⟩,hin.2.2.1,hin.2.2.2⟩
  ·rw [Zp6 hc] at hin
   obtain ⟨i,hi,rfl⟩:=Oz.1 hp;refine hh (wlOf h.cs i) (by simp only [wls,Wd,Tz]; exact ⟨i,hi,rfl⟩) ?_;simp only [wlOf,Zs4 hi];exact ⟨hin.1.1,hin.1.2,hin.2.1,hin.2.2⟩
 have hB:Zel h c=true↔Yay h.cs c.rc/\(Yi h c.fx c.fy 1=true/\Yi h c.tx c.fy 1=true/\Yi h c.tx c.ty 1=true/\Yi h c.fx c.ty 1=true):=by
  unfold Zel edges
  rw [Qc,Zlj,Sz,bnd,Yc3,Yc2,Yc1,Yc0]
  simp only [Rb,Nm,or_false,forall_eq_or_imp,forall_eq]
  rw [tch _ s1,tch _ s2,tch _ s3,tch _ s4]
  have p1:Zv h (E1 c).ln.a=Yi h c.fx c.fy 1:=(Uo hs 0 (Xe hc.b1 hc.b2)).symm
  have p2:Zv h (E2 c).ln.a=Yi h c.tx c.fy 1:=(Uo hs 0 (Xe hc.b3 hc.b2)).symm
  have p3:Zv h (E3 c).ln.a=Yi h c.tx c.ty 1:=(Uo hs 0 (Xe hc.b3 hc.b4)).symm
  have p4:Zv h (E4 c).ln.a=Yi h c.fx c.ty 1:=(Uo hs 0 (Xe hc.b1 hc.b4)).symm
  rw [p1,p2,p3,p4]
  unfold Yay
  constructor
  ·rintro ⟨⟨⟨a1,b1⟩,⟨a2,b2⟩,⟨a3,b3⟩,⟨a4,b4⟩⟩,b5⟩
   refine ⟨fun w hw n sx sy g hh=>?_,a1,a2,a3,a4⟩;rw [Zyw hc g] at hh
   rcases hh with (hh|hh|hh|hh)|hh
   ·rw [b1 w hw] at hh; cases hh
   ·rw [b2 w hw] at hh; cases hh
   ·rw [b3 w hw] at hh; cases hh
   ·rw [b4 w hw] at hh; cases hh
   ·exact b5 w hw hh
  ·rintro ⟨nh,a1,a2,a3,a4⟩
   have key:∀ w∈wls h.cs,¬(((E1 c).touches w=true\/(E2 c).touches w=true\/(E3 c).touches w=true\/(E4 c).touches w=true)\/(c.rc.xl<=w.fx/\w.fx<=c.rc.xh/\c.rc.yl<=w.fy/\w.fy<=c.rc.yh)):=by
    intro w hw hh;obtain ⟨n,sx,sy,g⟩:=Zbb hs w hw;exact nh w hw n sx sy g ((Zyw hc g).2 hh)
   refine ⟨⟨⟨a1,fun w hw=>?_⟩,⟨a2,fun w hw=>?_⟩,⟨a3,fun w hw=>?_⟩,⟨a4,fun w hw=>?_⟩⟩,fun w hw hh=>key w hw (.inr hh)⟩
   ·rw [Qv]; exact fun hh=>key w hw (.inl (.inl hh))
   ·rw [Qv]; exact fun hh=>key w hw (.inl (.inr (.inl hh)))
   ·rw [Qv]; exact fun hh=>key w hw (.inl (.inr (.inr (.inl hh))))
   ·rw [Qv]; exact fun hh=>key w hw (.inl (.inr (.inr (.inr hh))))
 rw [Rz,hA,hB]
 refine and_congr_right fun nh=>?_
 obtain ⟨g1,g2,g3⟩:=Zq1 hs hq nh
 have hx:(c.fx=c.rc.xl/\c.tx=c.rc.xh)\/(c.fx=c.rc.xh/\c.tx=c.rc.xl):=by omega
 have hy:(c.fy=c.rc.yl/\c.ty=c.rc.yh)\/(c.fy=c.rc.yh/\c.ty=c.rc.yl):=by omega
 rcases hx with ⟨x1,x2⟩|⟨x1,x2⟩<;>rcases hy with ⟨y1,y2⟩|⟨y1,y2⟩<;>rw [x1,x2,y1,y2]<;>simp only [g1,g2,g3,and_self]
def fIx (f:Nat->Int):Nat->Nat->Int × Int
 | _,0=>(0,0)
 | k,m+1=>if f k=0 then fIx f (k+1) m else (k,f k)
theorem Ur {f:Nat->Int} {k n:Nat} (h:k<n):fIx f k (n-k)=if f k=0 then fIx f (k+1) (n-(k+1)) else (k,f k):=by
 rw [show n-k=(n-(k+1))+1 by omega]; rfl
theorem Zcd {f:Nat->Int} {k n:Nat} (h:n<=k):fIx f k (n-k)=(0,0):=by rw [show n-k=0 by omega]; rfl
def mErr (h:Hal) (i:Nat) (m:Mat):Int:=if Xt m.nm then (if decide (Ye m.nm 0 h.ms<(i:Int)) then 5 else if (thou m.a&&(thou m.b&&(thou m.c&&thou m.d)))&&thou m.sc then 0 else 2) else 4
def Zn1 (h:Hal) (i:Nat):Int:=match h.ms[i]? with
 | some m=>mErr h i m
 | none=>0
def Zhm (h:Hal) (i:Nat):Int:=if plc (cor h.cs i).1&&plc (cor h.cs i).2 then 0 else 2
def Zbz (h:Hal) (i:Nat):Int:=match h.ws[i]? with
 | some w=>Zgo h i w
 | none=>0
def Zd2 (h:Hal) (i:Nat):Int:=match h.ks[i]? with
 | some w=>Zhv h i w
 | none=>0
def Zdw (h:Hal) (i:Nat):Int:=match h.ss[i]? with
 | some w=>Zkc h i w
 | none=>0
def Zfv (h:Hal):Int:=if decide (Ye h.fl 0 h.ms<0)||decide (Ye h.ce 0 h.ms<0) then 6 else 0
def Zhr (h:Hal):List (Int × Int × Int) :=
  [(0, 0, unl (Xt h.nm) 4), (0, 0, unl (within h.ht 2 5000) 2), (0, 0, unl (decide ((h.ms.length:Int)<=10)) 8), (1, fIx (Zn1 h) 0 h.ms.length), (0, 0, Zfv h), (0, 0, unl (decide (3<=(h.cs.length:Int))&&decide ((h.ws.length:Int)=h.cs.length)) 10),
   (0, 0, unl (decide ((h.ws.length:Int)<=12)) 8), (2, fIx (Zhm h) 0 h.cs.length), (3, fIx (Zbz h) 0 h.ws.length), (0, 0, unl (Zee h.cs) 24), (0, 0, unl (decide (0<Zj4 h.cs)) 9), (0, 0, unl (decide ((h.ks.length:Int)<=4)) 8), (4, fIx (Zd2 h) 0 h.ks.length),
   (0, 0, unl (decide ((h.ss.length:Int)<=40)) 8), (5, fIx (Zdw h) 0 h.ss.length)]
def chkR (h:Hal):Int × Int × Int:=Ya (Zhr h)
theorem Zh9 {X x:Int × Int × Int} {l:List (Int × Int × Int)} {σ:St} {a b e:Int} (hE:X=Ya (x::l)) (hx:x=(a,b,e)) (he:e≠0):Ret ⟨chkV X,[]⟩ (.tup [.agg [I a,I b],I e]) σ:=by
 subst hx
 rw [hE,Ya,if_neg he]
 exact Ze rfl rfl
theorem Vd {X x:Int × Int × Int} {l:List (Int × Int × Int)} (hE:X=Ya (x::l)) (hx:x.2.2=0):X=Ya l:=by rw [hE,Ya,if_pos hx]
theorem Zgq {b:Bool} {e:Int} (h:b=true):unl b e=0:=by rw [h]; rfl
theorem Zlv {b:Bool} {e:Int} (h:b=false):unl b e=e:=by rw [h]; rfl
theorem Zoa {h:Hal} {r:Nat->PRes} {n k:Nat} (hk:k<n):fam (fun k=>[h.av,I (k:Int)]) r n [h.av,I (k:Int)]=some (r k) :=
 Zze (g:=fun k=>[h.av,I (k:Int)]) (r:=r) (fun j hj=>by
  simp only [Qs,AV.int.injEq,Int.natCast_inj,true_and,and_true] at hj
  rw [hj]) hk
theorem Zd1 {X:Int × Int × Int} {M T:Int × Int} {c k e:Int} {l:List (Int × Int × Int)} {σ:St} (hE:X=Ya ((c,M)::l)) (hh:(if e=0 then T else (k,e))=M) (he:e≠0):Ret ⟨chkV X,[]⟩ (.tup [.agg [I c,I k],I e]) σ:=by
 rw [if_neg he] at hh
 subst hh
 exact Zh9 hE rfl he
abbrev E65 (l:List (Nat × AV)):Env:=(1,.ptr 0 0 0)::(2,.ptr 1 0 0)::(3,I 0)::l
abbrev Z65 (h:Hal):List (Nat × ABlk):=[(1,.row 2 [[I 0,I 0]] true false),(0,.row 9 [h.cells] true false)]
def sx65:FuncId->Bool:=fun f=>Nat.beq f 129||Nat.beq f 130
theorem Zbt (s:ByteArray):∀ l:List ByteArray,Ug s l=true↔s∈l
 | []=>by simp [Ug]
 | a::l=>by rw [Ug,Qz,Zbt s l,Zd3,decide_eq_true_eq,Rb]
theorem Zfh (s a:ByteArray) (l:List ByteArray):s∈addK a l↔s=a\/s∈l:=by
 unfold addK
 cases h:Ug a l with
 | true =>
  have:=(Zbt a l).1 h
  constructor
  ·exact .inr
  ·rintro (rfl|h)
   ·exact this
   ·exact h
 | false=>simp [or_comm]
theorem Zt6 (s:ByteArray):∀ (l:List Mat) (i:Nat),Ye s i l = -1\/(i:Int)<=Ye s i l
 | [],i=>.inl rfl
 | m::l,i=>by
  rw [Ye]
  split
  ·exact .inr (by omega)
  ·rcases Zt6 s l (i+1) with h|h
   ·exact .inl h
   ·exact .inr (by omega)
theorem Zcp (s:ByteArray):∀ (l:List Mat) (i:Nat),Ye s i l<0 ↔ ¬∃ m∈l,m.nm=s
 | [],i=>by simp [Ye]
 | m::l,i=>by
  rw [Ye,Zd3]
  by_cases h:m.nm=s
  ·simp [h]
  ·simp only [h,decide_false,Ro,if_false]
   rw [Zcp s l (i+1)];simp [h]
theorem Zt5 (s:ByteArray):∀ (l:List Mat) (i k:Nat),(∃ m∈l,m.nm=s)->(Ye s i l<((i+k:Nat):Int)↔∃ m∈l.take k,m.nm=s)
 | [],i,k,h=>by simp at h
 | m::l,i,0,h=>by
  rw [Ye]
  split
  ·simp
  ·rename_i hx
   rw [Zd3,decide_eq_true_eq] at hx
   have h1:∃ m∈l,m.nm=s:=by
    obtain ⟨u,hu,e⟩:=h
    rcases Rb.1 hu with rfl|hu
    ·exact absurd e hx
    ·exact ⟨u,hu,e⟩
   have h2:=mt (Zcp s l (i+1)).1 (by simpa using h1);have h3:=Zt6 s l (i+1);simp;omega
 | m::l,i,k+1,h=>by
  rw [Ye,Zd3]
  by_cases hx:m.nm=s
  ·simp [hx]; omega
  ·have h1:∃ m∈l,m.nm=s:=by
    obtain ⟨u,hu,e⟩:=h
    rcases Rb.1 hu with rfl|hu
    ·exact absurd e hx
    ·exact ⟨u,hu,e⟩
   have:=Zt5 s l (i+1) k h1;simp only [hx,decide_false,Ro,if_false];rw [show i+(k+1)=i+1+k by omega,this];simp [hx]
theorem Zps (h:Hal) (n:Nat) (hn:n=h.ms.length):∀ (m k:Nat) (ns:List ByteArray),m=n-k->k<=n->(∀ s,s∈ns↔∃ u∈h.ms.take k,u.nm=s) ->
  ((Ue k ns (h.ms.drop k)).1,(Ue k ns (h.ms.drop k)).2.1)=fIx (Zn1 h) k (n-k)/\((Ue k ns (h.ms.drop k)).2.1=0->∀ s,s∈(Ue k ns (h.ms.drop k)).2.2↔∃ u∈h.ms,u.nm=s)
 | 0,k,ns,hm,hk,hs=>by
  have:k=n:=by omega
  rw [Zcd (by omega),Qk (by omega)]
  refine ⟨rfl,fun _ s=>?_⟩
  rw [Ue,hs s,Wc (by omega)]
 | m+1,k,ns,hm,hk,hs=>by
  have hlt:k<h.ms.length:=by omega
  rw [Ur (by omega:k<n),Qi hlt,Ue]
  have e1:Zn1 h k=mErr h k h.ms[k]:=by unfold Zn1; rw [Qe hlt]
  have e2:mErr h k h.ms[k]=if Yf h.ms[k].nm ns=0 then Zbm h.ms[k] else Yf h.ms[k].nm ns:=by
   unfold mErr Yf;rw [Zct]
   cases Un h.ms[k].nm with
   | false=>simp
   | true =>
    have h1:(Ye h.ms[k].nm 0 h.ms<(k:Int))↔Ug h.ms[k].nm ns=true:=by
     have:=Zt5 h.ms[k].nm h.ms 0 k ⟨h.ms[k],Qr hlt,rfl⟩;rw [Ry] at this;rw [this,Zbt,hs]
    rw [show decide (Ye h.ms[k].nm 0 h.ms<(k:Int))=Ug h.ms[k].nm ns by rw [Rz,decide_eq_true_eq,h1]]
    cases Ug h.ms[k].nm ns with
    | true=>simp
    | false =>
     simp only [if_true,Ro,if_false,Zbm];cases thou h.ms[k].a<;>cases thou h.ms[k].b<;>cases thou h.ms[k].c<;>cases thou h.ms[k].d<;>cases thou h.ms[k].sc<;>rfl
  rw [e1,e2]
  by_cases c1:Yf h.ms[k].nm ns=0
  ·rw [if_pos c1,if_pos c1]
   by_cases c2:Zbm h.ms[k]=0
   ·rw [if_pos c2,if_pos c2]
    refine Zps h n hn m (k+1) _ (by omega) (by omega) fun s=>?_
    rw [Zfh,hs,Qw hlt];simp only [Tk,We]
    constructor
    ·rintro (rfl|⟨u,hu,e⟩)
     ·exact ⟨_,.inr rfl,rfl⟩
     ·exact ⟨u,.inl hu,e⟩
    ·rintro ⟨u,hu|rfl,e⟩
     ·exact .inr ⟨u,hu,e⟩
     ·exact .inl e.symm
   ·rw [if_neg c2,if_neg c2]
    exact ⟨rfl,fun hh=>absurd hh c2⟩
  ·rw [if_neg c1,if_neg c1,if_neg c1]
   exact ⟨rfl,fun hh=>absurd hh c1⟩
theorem Ui (x:Int):small x 5000=plc x:=by
 unfold small plc
 rw [show Qa Qb (0-5000) = -5000 by decide]
theorem Zq0 (h:Hal) (n:Nat) (hn:n=h.cs.length):∀ (m k:Nat),m=n-k->k<=n->Zin k (h.cs.drop k)=fIx (Zhm h) k (n-k)
 | 0,k,hm,hk=>by
  rw [Zcd (by omega),Qk (by omega)]; rfl
 | m+1,k,hm,hk=>by
  have hlt:k<h.cs.length:=by omega
  rw [Ur (by omega:k<n),Qi hlt,Zin]
  have e1:Zhm h k=if Zim h.cs[k].1 h.cs[k].2 then 0 else 2:=by
   unfold Zhm Zim;rw [Zs4 hlt,Ui,Ui]
  rw [e1]
  have ih:=Zq0 h n hn m (k+1) (by omega) (by omega)
  cases Zim h.cs[k].1 h.cs[k].2
  ·simp
  ·simpa using ih
theorem Zdo {f:Nat->Int} {n:Nat}:∀ (m k:Nat),m=n-k->(fIx f k (n-k)).2=0->∀ i,k<=i->i<n->f i=0
 | 0,k,hm,h,i,h1,h2=>by omega
 | m+1,k,hm,h,i,h1,h2=>by
  rw [Ur (by omega:k<n)] at h
  by_cases c:f k=0
  ·rw [if_pos c] at h
   by_cases e:i=k
   ·subst e; exact c
   ·exact Zdo m (k+1) (by omega) h i (by omega) h2
  ·rw [if_neg c] at h
   exact absurd h c
def Zrm (cs:List (Int × Int)):Prop:=∀ i,i<cs.length->(-5000<=(cor cs i).1/\(cor cs i).1<=5000)/\(-5000<=(cor cs i).2/\(cor cs i).2<=5000)
theorem Zof {h:Hal} (hz:(fIx (Zhm h) 0 h.cs.length).2=0):Zrm h.cs:=by
 intro i hi
 have:=Zdo (n:=h.cs.length) _ 0 rfl hz i (Qn _) hi
 unfold Zhm at this
 have h1:(plc (cor h.cs i).1&&plc (cor h.cs i).2)=true:=by
  cases hq:(plc (cor h.cs i).1&&plc (cor h.cs i).2)
  ·rw [hq] at this; simp at this
  ·rfl
 rw [Qc] at h1
 exact ⟨within_iff.1 h1.1,within_iff.1 h1.2⟩
theorem Zvf {cs:List (Int × Int)} (hb:Zrm cs) {i:Nat} (hi:i<cs.length):((-5000<=(wlOf cs i).fx/\(wlOf cs i).fx<=5000)/\(-5000<=(wlOf cs i).fy/\(wlOf cs i).fy<=5000))/\((-5000<=(wlOf cs i).tx/\(wlOf cs i).tx<=5000)/\(-5000<=(wlOf cs i).ty/\(wlOf cs i).ty<=5000)) :=
 ⟨hb i hi,hb _ (Nat.mod_lt _ (by omega))⟩
theorem Zxg {n:Int} (h : -10000<=n/\n<=10000):size n=if n<0 then -n else n:=Zc7 (by omega)
theorem Zpu {w:Wl} (h1:(-5000<=w.fx/\w.fx<=5000)/\(-5000<=w.fy/\w.fy<=5000)) (h2:(-5000<=w.tx/\w.tx<=5000)/\(-5000<=w.ty/\w.ty<=5000)):Zeo w=Zdl w.ln:=by
 unfold Zeo Zdl Wl.straight Wl.dx Wl.dy Wl.ln
 dsimp only
 rw [W_eq (n:=w.tx-w.fx) (by omega) (by omega),W_eq (n:=w.ty-w.fy) (by omega) (by omega)]
 have e1:decide (w.fx=w.tx)=decide (w.tx-w.fx=0):=by rw [decide_eq_decide]; omega
 have e2:decide (w.fy=w.ty)=decide (w.ty-w.fy=0):=by rw [decide_eq_decide]; omega
 rw [e1,e2]
 cases decide (w.tx-w.fx=0)<;>cases decide (w.ty-w.fy=0)<;>cases decide (size (w.tx-w.fx)=size (w.ty-w.fy))<;>rfl
theorem Yhr {w:Wl} (h1:(-5000<=w.fx/\w.fx<=5000)/\(-5000<=w.fy/\w.fy<=5000)) (h2:(-5000<=w.tx/\w.tx<=5000)/\(-5000<=w.ty/\w.ty<=5000)) (hz:Zeo w=0):∃ n sx sy,Str w n sx sy:=by
 unfold Zeo Wl.straight Wl.dx Wl.dy at hz
 rw [W_eq (n:=w.tx-w.fx) (by omega) (by omega),W_eq (n:=w.ty-w.fy) (by omega) (by omega),Zxg (by omega),Zxg (by omega)] at hz
 have g1:¬(w.fx=w.tx/\w.fy=w.ty):=by
  rintro ⟨a,b⟩
  rw [decide_eq_true a,decide_eq_true b] at hz
  simp at hz
 have g2:w.tx-w.fx=0\/w.ty-w.fy=0\/w.tx-w.fx=w.ty-w.fy\/w.tx-w.fx = -(w.ty-w.fy):=by
  have g3:(decide (w.fx=w.tx)&&decide (w.fy=w.ty))=false:=by
   rw [Qv]; intro hq; simp only [Qc,decide_eq_true_eq] at hq; exact g1 hq
  rw [g3] at hz
  simp only [Ro,if_false] at hz
  have g4:(decide (w.tx-w.fx=0)||decide (w.ty-w.fy=0)||decide ((if w.tx-w.fx<0 then -(w.tx-w.fx) else w.tx-w.fx)=if w.ty-w.fy<0 then -(w.ty-w.fy) else w.ty-w.fy))=true:=by
   cases hq:(decide (w.tx-w.fx=0)||decide (w.ty-w.fy=0)||decide ((if w.tx-w.fx<0 then -(w.tx-w.fx) else w.tx-w.fx)=if w.ty-w.fy<0 then -(w.ty-w.fy) else w.ty-w.fy))
   ·rw [hq] at hz; simp at hz
   ·rfl
  simp only [Qz,decide_eq_true_eq] at g4
  omega
 obtain ⟨⟨b1,b2⟩,b3,b4⟩:=h1
 rcases Tb (w.tx-w.fx) 0 with c1|c1|c1<;>rcases Tb (w.ty-w.fy) 0 with c2|c2|c2
 ·exact ⟨w.fx-w.tx,-1,-1,by omega,by omega,by omega,by omega,by omega,by omega,by omega,by omega,by omega,by omega⟩
 ·exact ⟨w.fx-w.tx,-1,0,by omega,by omega,by omega,by omega,by omega,by omega,by omega,by omega,by omega,by omega⟩
 ·exact ⟨w.fx-w.tx,-1,1,by omega,by omega,by omega,by omega,by omega,by omega,by omega,by omega,by omega,by omega⟩
 ·exact ⟨w.fy-w.ty,0,-1,by omega,by omega,by omega,by omega,by omega,by omega,by omega,by omega,by omega,by omega⟩
 ·exact absurd ⟨by omega,by omega⟩ g1
 ·exact ⟨w.ty-w.fy,0,1,by omega,by omega,by omega,by omega,by omega,by omega,by omega,by omega,by omega,by omega⟩
 ·exact ⟨w.tx-w.fx,1,-1,by omega,by omega,by omega,by omega,by omega,by omega,by omega,by omega,by omega,by omega⟩
 ·exact ⟨w.tx-w.fx,1,0,by omega,by omega,by omega,by omega,by omega,by omega,by omega,by omega,by omega,by omega⟩
 ·exact ⟨w.tx-w.fx,1,1,by omega,by omega,by omega,by omega,by omega,by omega,by omega,by omega,by omega,by omega⟩
theorem Zvi {h:Hal} {i:Nat} {w:Wal} (hz:Zgo h i w=0):Zdl (lnOf h.cs i)=0:=by
 unfold Zgo at hz
 split at hz
 ·split at hz
  ·cases hz
  ·split at hz
   ·cases hz
   ·split at hz
    ·cases hz
    ·exact hz
 ·cases hz
theorem Zlq {h:Hal} (hb:Zrm h.cs) (hwc:h.ws.length=h.cs.length) (hz:(fIx (Zbz h) 0 h.ws.length).2=0):Za3 h.cs:=by
 intro i hi
 have h1:=Zdo (n:=h.ws.length) _ 0 rfl hz i (Qn _) (by omega)
 unfold Zbz at h1
 rw [Qe (by omega)] at h1
 have h2:=Zvi h1
 rw [Zcc,<-Zpu (Zvf hb hi).1 (Zvf hb hi).2] at h2
 exact Yhr (Zvf hb hi).1 (Zvf hb hi).2 h2
theorem Zx6 {h:Hal} (hs:Za3 h.cs):h.nz:=by
 intro k hk
 obtain ⟨n,sx,sy,g⟩:=hs k hk
 rw [Zcc,g.ln.2.2.1]
 have:=g.hn
 omega
theorem Zvd {α:Type} {f:α->ByteArray} {l:List α} {s:ByteArray}:(l.any fun v=>f v==s)=true↔∃ u∈l,f u=s:=by
 rw [List.any_eq_true]
 simp only [Zd3,decide_eq_true_eq]
theorem Zkx {h:Hal} {ms:List ByteArray} (hms:∀ s,s∈ms↔∃ u∈h.ms,u.nm=s) (s:ByteArray):Ug s ms = !decide (Ye s 0 h.ms<0):=by
 rw [Rz,Zbt,hms,Sz,decide_eq_false_iff_not,Zcp,Hk]
theorem Zoq (h:Hal) (n:Nat) (hn:n=h.ws.length) (hwc:h.ws.length=h.cs.length) (hb:Zrm h.cs) {ms:List ByteArray} (hms:∀ s,s∈ms↔∃ u∈h.ms,u.nm=s):∀ (m k:Nat) (ns:List ByteArray),m=n-k->k<=n->(∀ s,s∈ns↔(s=Uf\/s=Zc0)\/∃ u∈h.ws.take k,u.nm=s) ->
  ((Zd4 h.cs ms k ns (h.ws.drop k)).1,(Zd4 h.cs ms k ns (h.ws.drop k)).2.1)=fIx (Zbz h) k (n-k)/\((Zd4 h.cs ms k ns (h.ws.drop k)).2.1=0->∀ s,s∈(Zd4 h.cs ms k ns (h.ws.drop k)).2.2↔(s=Uf\/s=Zc0)\/∃ u∈h.ws,u.nm=s)
 | 0,k,ns,hm,hk,hs=>by
  rw [Zcd (by omega),Qk (by omega)]
  refine ⟨rfl,fun _ s=>?_⟩
  rw [Zd4,hs s,Wc (by omega)]
 | m+1,k,ns,hm,hk,hs=>by
  have hlt:k<h.ws.length:=by omega
  rw [Ur (by omega:k<n),Qi hlt,Zd4]
  have e1:Zbz h k=Zgo h k h.ws[k]:=by unfold Zbz; rw [Qe hlt]
  have e2:Zgo h k h.ws[k]=if Yf h.ws[k].nm ns=0 then wErr h.cs ms k h.ws[k] else Yf h.ws[k].nm ns:=by
   unfold Zgo Yf;rw [Zct]
   cases Un h.ws[k].nm with
   | false=>simp
   | true =>
    have h1:Ug h.ws[k].nm ns=(((h.ws[k].nm==Uf)||(h.ws[k].nm==Zc0))||(h.ws.take k).any fun v=>v.nm==h.ws[k].nm):=by
     rw [Rz,Zbt,hs,Qz,Qz,Zvd,Zd3,Zd3,decide_eq_true_eq,decide_eq_true_eq]
    rw [h1]
    have h2:wErr h.cs ms k h.ws[k]=if decide (Ye h.ws[k].mt 0 h.ms<0)||(!(h.ws[k].cu==⟨#[]⟩)&&decide (Ye h.ws[k].cu 0 h.ms<0)) then 6 else Zdl (lnOf h.cs k):=by
     unfold wErr Zw6;rw [Zkx hms,Zkx hms,Zcc,<-Zpu (Zvf hb (by omega)).1 (Zvf hb (by omega)).2];cases decide (Ye h.ws[k].mt 0 h.ms<0)<;>cases (h.ws[k].cu==⟨#[]⟩)<;>cases decide (Ye h.ws[k].cu 0 h.ms<0)<;>rfl
    rw [<-h2];cases (h.ws.take k).any (fun v=>v.nm==h.ws[k].nm)<;>cases (h.ws[k].nm==Uf)<;>cases (h.ws[k].nm==Zc0)<;>rfl
  rw [e1,e2]
  by_cases c1:Yf h.ws[k].nm ns=0
  ·rw [if_pos c1,if_pos c1]
   by_cases c2:wErr h.cs ms k h.ws[k]=0
   ·rw [if_pos c2,if_pos c2]
    refine Zoq h n hn hwc hb hms m (k+1) _ (by omega) (by omega) fun s=>?_
    rw [Zfh,hs,Qw hlt];simp only [Tk,We]
    constructor
    ·rintro (rfl|hl|⟨u,hu,e⟩)
     ·exact .inr ⟨_,.inr rfl,rfl⟩
     ·exact .inl hl
     ·exact .inr ⟨u,.inl hu,e⟩
    ·rintro (hl|⟨u,hu|rfl,e⟩)
     ·exact .inr (.inl hl)
     ·exact .inr (.inr ⟨u,hu,e⟩)
     ·exact .inl e.symm
   ·rw [if_neg c2,if_neg c2]
    exact ⟨rfl,fun hh=>absurd hh c2⟩
  ·rw [if_neg c1,if_neg c1,if_neg c1]
   exact ⟨rfl,fun hh=>absurd hh c1⟩
theorem Ydc {h:Hal} (hs:Za3 h.cs) (c:Can):Zht h c=if within c.hs.length 1 4 then (if Zdm h.ht none c.hs=0 then (if plc c.fx&&plc c.fy&&plc c.tx&&plc c.ty then (if decide (c.fx=c.tx)||decide (c.fy=c.ty) then 11 else if Zel h c then 0 else 24) else 2) else Zdm h.ht none c.hs) else 10:=by
 unfold Zht
 have e:(if Zim c.fx c.fy&&Zim c.tx c.ty then (if decide (c.fx=c.tx)||decide (c.fy=c.ty) then 11 else unl (Zgb h (rcOf c.fx c.fy c.tx c.ty)) 24) else 2)=if plc c.fx&&plc c.fy&&plc c.tx&&plc c.ty then (if decide (c.fx=c.tx)||decide (c.fy=c.ty) then 11 else if Zel h c then (0:Int) else 24) else 2:=by
  unfold Zim
  rw [Ui,Ui,Ui,Ui,<-Bool.and_assoc]
  by_cases hp:(plc c.fx&&plc c.fy&&plc c.tx&&plc c.ty)=true
  ·rw [if_pos hp,if_pos hp]
   by_cases hd:(decide (c.fx=c.tx)||decide (c.fy=c.ty))=true
   ·rw [if_pos hd,if_pos hd]
   ·rw [if_neg hd,if_neg hd]
    simp only [Qc] at hp;simp only [Qz,decide_eq_true_eq,not_or] at hd;rw [show rcOf c.fx c.fy c.tx c.ty=c.rc from rfl,Yfi hs ⟨within_iff.1 hp.1.1.1,within_iff.1 hp.1.1.2,within_iff.1 hp.1.2,within_iff.1 hp.2,hd.1,hd.2⟩];cases Zel h c<;>rfl
  ·rw [if_neg hp,if_neg hp]
 rw [e]
theorem Zq9 (h:Hal) (n:Nat) (hn:n=h.ks.length) (hst:Za3 h.cs) {ms:List ByteArray} (hms:∀ s,s∈ms↔∃ u∈h.ms,u.nm=s):∀ (m k:Nat) (ns:List ByteArray),m=n-k->k<=n->(∀ s,s∈ns↔((s=Uf\/s=Zc0)\/∃ u∈h.ws,u.nm=s)\/∃ u∈h.ks.take k,u.nm=s) ->
  ((Zhs h ms k ns (h.ks.drop k)).1,(Zhs h ms k ns (h.ks.drop k)).2.1)=fIx (Zd2 h) k (n-k)
 | 0,k,ns,hm,hk,hs=>by
  rw [Zcd (by omega),Qk (by omega)]; rfl
 | m+1,k,ns,hm,hk,hs=>by
  have hlt:k<h.ks.length:=by omega
  rw [Ur (by omega:k<n),Qi hlt,Zhs]
  have e1:Zd2 h k=Zhv h k h.ks[k]:=by unfold Zd2; rw [Qe hlt]
  have e2:Zhv h k h.ks[k]=if Yf h.ks[k].nm ns=0 then cErr h ms h.ks[k] else Yf h.ks[k].nm ns:=by
   unfold Zhv Yf;rw [Zct]
   cases Un h.ks[k].nm with
   | false=>simp
   | true =>
    have h1:Ug h.ks[k].nm ns=((((h.ks[k].nm==Uf)||(h.ks[k].nm==Zc0))||(h.ws.any fun v=>v.nm==h.ks[k].nm))||(h.ks.take k).any fun v=>v.nm==h.ks[k].nm):=by
     rw [Rz,Zbt,hs,Qz,Qz,Qz,Zvd,Zvd,Zd3,Zd3,decide_eq_true_eq,decide_eq_true_eq]
    rw [h1];unfold cErr;rw [Zkx hms,<-Ydc hst];cases (h.ks.take k).any (fun v=>v.nm==h.ks[k].nm)<;>cases (h.ws.any fun v=>v.nm==h.ks[k].nm)<;>cases (h.ks[k].nm==Uf)<;>cases (h.ks[k].nm==Zc0)<;>cases decide (Ye h.ks[k].mt 0 h.ms<0)<;>rfl
  rw [e1,e2]
  by_cases c1:Yf h.ks[k].nm ns=0
  ·rw [if_pos c1,if_pos c1]
   by_cases c2:cErr h ms h.ks[k]=0
   ·rw [if_pos c2,if_pos c2]
    refine Zq9 h n hn hst hms m (k+1) _ (by omega) (by omega) fun s=>?_
    rw [Zfh,hs,Qw hlt];simp only [Tk,We]
    constructor
    ·rintro (rfl|hl|⟨u,hu,e⟩)
     ·exact .inr ⟨_,.inr rfl,rfl⟩
     ·exact .inl hl
     ·exact .inr ⟨u,.inl hu,e⟩
    ·rintro (hl|⟨u,hu|rfl,e⟩)
     ·exact .inr (.inl hl)
     ·exact .inr (.inr ⟨u,hu,e⟩)
     ·exact .inl e.symm
   ·rw [if_neg c2,if_neg c2]
  ·rw [if_neg c1,if_neg c1,if_neg c1]
theorem Ybn {h:Hal} (hst:Za3 h.cs) (x y z:Int):Znv h x y z=if plc x&&plc y&&plc z then (if Za2 h ⟨x,y,z,1⟩ then 0 else 24) else 2:=by
 unfold Znv
 rw [Ui,Ui,Ui]
 by_cases hp:(plc x&&plc y&&plc z)=true
 ·rw [if_pos hp,if_pos hp]
  simp only [Qc] at hp
  unfold Zwd Za2
  rw [Uo hst z (Xe (within_iff.1 hp.1.1) (within_iff.1 hp.1.2))]
 ·rw [if_neg hp,if_neg hp]
theorem Zo2 (h:Hal) (n:Nat) (hn:n=h.ss.length) (hst:Za3 h.cs):∀ (m k:Nat) (ns:List ByteArray),m=n-k->k<=n->(∀ s,s∈ns↔∃ u∈h.ss.take k,u.nm=s) ->
  ((Zf2 h k ns (h.ss.drop k)).1,(Zf2 h k ns (h.ss.drop k)).2.1)=fIx (Zdw h) k (n-k)
 | 0,k,ns,hm,hk,hs=>by
  rw [Zcd (by omega),Qk (by omega)]; rfl
 | m+1,k,ns,hm,hk,hs=>by
  have hlt:k<h.ss.length:=by omega
  rw [Ur (by omega:k<n),Qi hlt,Zf2]
  have e1:Zdw h k=Zkc h k h.ss[k]:=by unfold Zdw; rw [Qe hlt]
  have e2:Zkc h k h.ss[k]=if Yf h.ss[k].nm ns=0 then Znv h h.ss[k].x h.ss[k].y h.ss[k].z else Yf h.ss[k].nm ns:=by
   unfold Zkc Yf;rw [Zct,<-Ybn hst]
   cases Un h.ss[k].nm with
   | false=>simp
   | true =>
    have h1:Ug h.ss[k].nm ns=(h.ss.take k).any fun v=>v.nm==h.ss[k].nm:=by
     rw [Rz,Zbt,hs,Zvd]
    rw [h1];cases (h.ss.take k).any (fun v=>v.nm==h.ss[k].nm)<;>rfl
  rw [e1,e2]
  by_cases c1:Yf h.ss[k].nm ns=0
  ·rw [if_pos c1,if_pos c1]
   by_cases c2:Znv h h.ss[k].x h.ss[k].y h.ss[k].z=0
   ·rw [if_pos c2,if_pos c2]
    refine Zo2 h n hn hst m (k+1) _ (by omega) (by omega) fun s=>?_
    rw [Zfh,hs,Qw hlt];simp only [Tk,We]
    constructor
    ·rintro (rfl|⟨u,hu,e⟩)
     ·exact ⟨_,.inr rfl,rfl⟩
     ·exact ⟨u,.inl hu,e⟩
    ·rintro ⟨u,hu|rfl,e⟩
     ·exact .inr ⟨u,hu,e⟩
     ·exact .inl e.symm
   ·rw [if_neg c2,if_neg c2]
  ·rw [if_neg c1,if_neg c1,if_neg c1]
theorem Vx {x y:Int × Int × Int} {l m:List (Int × Int × Int)} (h:x=y) (hl:y.2.2=0->Ya l=Ya m):Ya (x::l)=Ya (y::m):=by
 subst h
 rw [Ya,Ya]
 by_cases c:x.2.2=0
 ·rw [if_pos c,if_pos c,hl c]
 ·rw [if_neg c,if_neg c]
theorem Yeu {h:Hal} (hf:h.few):chkR h=chk h:=by
 unfold chkR Zhr chk Yad
 refine Vx (by rw [Zct]; rfl) fun _=>Vx rfl fun _=>Vx rfl fun _=>?_
 obtain ⟨m1,m2⟩:=Zps h h.ms.length rfl _ 0 [] rfl (Qn _) (fun s=>by simp)
 rw [Wg,Ws] at m1
 rw [Wg] at m2
 refine Vx (by rw [<-m1]) fun z1=>?_
 have hms:=m2 z1
 refine Vx ?_ fun _=>Vx rfl fun z2=>Vx rfl fun _=>?_
 ·unfold Zfv Zl3 Hal.names
  rw [Zkx hms,Zkx hms]
  cases decide (Ye h.fl 0 h.ms<0)<;>cases decide (Ye h.ce 0 h.ms<0)<;>rfl
 have hwc:3<=h.cs.length/\h.ws.length=h.cs.length:=by
  have:=Zag z2 (by decide)
  simp only [set7,Qc,decide_eq_true_eq] at this
  omega
 have c1:=Zq0 h h.cs.length rfl _ 0 rfl (Qn _)
 rw [Wg,Ws] at c1
 refine Vx (by rw [c1]) fun z3=>?_
 have hb:Zrm h.cs:=Zof (by rw [c1] at z3; exact z3)
 obtain ⟨w1,w2⟩:=Zoq h h.ws.length rfl hwc.2 hb hms _ 0 su0 rfl (Qn _) (fun s=>by
  rw [su0,Zfh,Zfh]; simp [or_comm])
 rw [Wg,Ws] at w1
 rw [Wg] at w2
 refine Vx (by rw [<-w1]; rfl) fun z4=>?_
 have hst:Za3 h.cs:=Zlq hb hwc.2 (by rw [<-w1]; exact z4)
 refine Vx (by rw [Zoz hst hwc.1 hf.2.1]) fun _=>Vx (by rw [Zov]) fun _=>Vx rfl fun _=>?_
 have k1:=Zq9 h h.ks.length rfl hst hms _ 0 h.wal.2.2 rfl (Qn _) (fun s=>by
  have:=w2 z4 s
  rw [show h.wal.2.2=(Zd4 h.cs h.names 0 su0 h.ws).2.2 from rfl]
  simp only [List.take_zero,Nm,false_and,exists_false,or_false]
  exact this)
 rw [Wg,Ws] at k1
 refine Vx (by rw [<-k1]; rfl) fun _=>Vx rfl fun _=>?_
 have s1:=Zo2 h h.ss.length rfl hst _ 0 [] rfl (Qn _) (fun s=>by simp)
 rw [Wg,Ws] at s1
 exact Vx (by rw [<-s1]) fun _=>rfl
theorem c65 {h:Hal} (hf:h.few) (ht:h.texts):PCall Tryz.prog 81 [h.av] ⟨chkV (chkR h),[]⟩:=by
 have hk7:=Zpy hf
 have e0:chkR h=Ya (Zhr h):=rfl
 have ha:=Yn (res:=⟨Bo (Xt h.nm),[]⟩) ht.nm
 have l1:=Zao h.ms
 have l2:(h.cs.map pt).length=h.cs.length:=by simp
 have l3:=Yh h.ws
 have l4:=Xd h.ks
 have l5:=Zef h.ss
 generalize chkR h=X at *
 unfold Zhr at e0
 refine bs.pv (sx:=sx65) hk7 Tryz.func81 (by kernel_rfl) (by kernel_rfl) rfl ?_
 repeat'(first|refine wk0 ?_|(refine wk2 ?_ ?_<;>intro _)|fail)
 ·rename_i hx
  exact Zh9 e0 (by rw [Zlv (by simpa using hx)]) (by decide)
 ·rename_i h1 hx
  exact Zh9 (Vd e0 (Zgq (by simpa using h1))) (by rw [Zlv (by simpa using hx)]) (by decide)
 ·rename_i h1 h2 hx
  exact Zh9 (Vd (Vd e0 (Zgq (by simpa using h1))) (Zgq (by simpa using h2))) (by rw [Zlv (by rw [l1] at hx; simpa using hx)]) (by decide)
 rename_i h1 h2 h3
 have e3:=Vd (Vd (Vd e0 (Zgq (by simpa using h1))) (Zgq (by simpa using h2))) (Zgq (by rw [l1] at h3; simpa using h3))
 clear e0 h1 h2 h3 ha
 generalize hM:fIx (Zn1 h) 0 h.ms.length=M at e3
 refine Zr (S:=Nat × Int) (fun t=>h.ms.length-t.1) (fun t=>E65 [(4,I t.2)]) (fun _=>Z65 h) 2 2 (fun t=>t.2=t.1/\t.1<=h.ms.length/\fIx (Zn1 h) t.1 (h.ms.length-t.1)=M) (0,0) ⟨rfl,Qn _,hM⟩ (Qd _) [] rfl (kps) (kps) ?_
 clear hM
 rintro ⟨k,i⟩ ⟨hi,hk,hh⟩
 dsimp only at hi hk hh ⊢
 subst hi
 by_cases hlt:k<h.ms.length
 ·have e1:=Zpo hlt
  have hs:=ht.ms _ (Qr hlt)
  rw [Ur hlt] at hh
  have hq:Zn1 h k=mErr h k h.ms[k]:=by unfold Zn1; rw [Qe hlt]
  rw [hq] at hh
  clear hq
  generalize h.ms[k]=m at *
  have ha:=Yn (res:=⟨Bo (Xt m.nm),[]⟩) hs
  have hm:=Zdk h m.nm
  refine bs.av (sx:=nos) hk7 ?_
  repeat'(first|refine wk1 ?_|(refine wk2 ?_ ?_<;>intro _)|fail)
  ·have hv:mErr h k m=4:=by clear hh e3 e1 hm hk7; simp_all [mErr]
   rw [hv] at hh; exact Zd1 e3 hh (by decide)
  ·have hv:mErr h k m=5:=by clear hh e3 e1 hm hk7; simp_all [mErr]
   rw [hv] at hh; exact Zd1 e3 hh (by decide)
  rename_i n1 n2
  have hv:mErr h k m=if (thou m.a&&(thou m.b&&(thou m.c&&thou m.d)))&&thou m.sc then 0 else 2:=by unfold mErr; rw [show Xt m.nm=true by simpa using n1,n2]; rfl
  rw [hv] at hh
  clear hv n1 n2
  refine LpM.start 5 ?_
  refine Qx (bs.av (sx:=nos) hk7 ?_)
  repeat'(first|refine wk1 ?_|(refine wk2 ?_ ?_<;>intro _)|fail)
  ·rename_i hx; rw [show thou m.a=false by unfold thou; simpa using hx] at hh; exact Zd1 (e:=2) e3 hh (by decide)
  rename_i hx; rw [show thou m.a=true by unfold thou; simpa using hx] at hh; clear hx
  refine Qx (bs.av (sx:=nos) hk7 ?_)
  repeat'(first|refine wk1 ?_|(refine wk2 ?_ ?_<;>intro _)|fail)
  ·rename_i hx; rw [show thou m.b=false by unfold thou; simpa using hx] at hh; exact Zd1 (e:=2) e3 hh (by decide)
  rename_i hx; rw [show thou m.b=true by unfold thou; simpa using hx] at hh; clear hx
  refine Qx (bs.av (sx:=nos) hk7 ?_)
  repeat'(first|refine wk1 ?_|(refine wk2 ?_ ?_<;>intro _)|fail)
  ·rename_i hx; rw [show thou m.c=false by unfold thou; simpa using hx] at hh; exact Zd1 (e:=2) e3 hh (by decide)
  rename_i hx; rw [show thou m.c=true by unfold thou; simpa using hx] at hh; clear hx
  refine Qx (bs.av (sx:=nos) hk7 ?_)
  repeat'(first|refine wk1 ?_|(refine wk2 ?_ ?_<;>intro _)|fail)
  ·rename_i hx; rw [show thou m.d=false by unfold thou; simpa using hx] at hh; exact Zd1 (e:=2) e3 hh (by decide)
  rename_i hx; rw [show thou m.d=true by unfold thou; simpa using hx] at hh; clear hx
  refine Qx (bs.av (sx:=nos) hk7 ?_)
  repeat'(first|refine wk1 ?_|(refine wk2 ?_ ?_<;>intro _)|fail)
  ·rename_i hx; rw [show thou m.sc=false by unfold thou; simpa using hx] at hh; exact Zd1 (e:=2) e3 hh (by decide)
  rename_i hx; rw [show thou m.sc=true by unfold thou; simpa using hx] at hh
  exact Ql ⟨(k+1,_),[],rfl,kps,kps,⟨Zg (by have:=hf.1; omega),hlt,hh⟩,by dsimp only; omega⟩
 rw [Zcd (by omega)] at hh
 have e4:=Vd e3 (by rw [<-hh])
 clear e3 hh
 have hm1:=Zdk h h.fl
 have hm2:=Zdk h h.ce
 refine bs.av (sx:=nos) hk7 ?_
 repeat'(first|refine wk1 ?_|(refine wk2 ?_ ?_<;>intro _)|fail)
 ·rename_i hx
  refine Zh9 e4 (by unfold Zfv; simp_all; done) (by decide)
 ·rename_i h0 hx
  refine Zh9 e4 (by unfold Zfv; simp_all; done) (by decide)
 ·rename_i h0 h1 hx
  exact Zh9 (Vd e4 (by unfold Zfv; rw [h0,show decide (Ye h.ce 0 h.ms<0)=false by simpa using h1]; rfl)) (by rw [l2] at hx; rw [Zlv (by have:=of_decide_eq_true hx; rw [decide_eq_false (by omega)]; rfl)]) (by decide)
 ·rename_i h0 h1 h2 hx
  exact Zh9 (Vd e4 (by unfold Zfv; rw [h0,show decide (Ye h.ce 0 h.ms<0)=false by simpa using h1]; rfl)) (by rw [l3,l2] at hx; rw [Zlv (by rw [show decide ((h.ws.length:Int)=h.cs.length)=false by simpa using hx]; simp)]) (by decide)
 ·rename_i h0 h1 h2 h3 hx
  have e5:=Vd e4 (by unfold Zfv; rw [h0,show decide (Ye h.ce 0 h.ms<0)=false by simpa using h1]; rfl)
  have e6:=Vd e5 (Zgq (by rw [l2] at h2; rw [l3,l2] at h3; have:=of_decide_eq_false h2; rw [decide_eq_true (by omega),show decide ((h.ws.length:Int)=h.cs.length)=true by simpa using h3]; rfl))
  exact Zh9 e6 (by rw [l3] at hx; have:=of_decide_eq_true hx; rw [Zlv (by rw [decide_eq_false (by omega)])]) (by decide)
 rename_i h0 h1 h2 h3 h4
 have e5:=Vd e4 (by unfold Zfv; rw [h0,show decide (Ye h.ce 0 h.ms<0)=false by simpa using h1]; rfl)
 have hwc:h.ws.length=h.cs.length:=by
  rw [l3,l2] at h3; have:((h.ws.length:Int)=h.cs.length):=by simpa using h3
  omega
 have e6:=Vd e5 (Zgq (by rw [l2] at h2; have:=of_decide_eq_false h2; rw [decide_eq_true (by omega),decide_eq_true (by omega)]; rfl))
 have e7:=Vd e6 (Zgq (by rw [l3] at h4; have:=of_decide_eq_false h4; rw [decide_eq_true (by omega)]))
 clear e4 e5 e6 h0 h1 h2 h3 h4 hm1 hm2 hlt hk
 generalize hM:fIx (Zhm h) 0 h.cs.length=M at e7
 refine Zr (S:=Nat × Int) (fun t=>h.cs.length-t.1) (fun t=>E65 [(7,I t.2)]) (fun _=>Z65 h) 2 2 (fun t=>t.2=t.1/\t.1<=h.cs.length/\fIx (Zhm h) t.1 (h.cs.length-t.1)=M) (0,0) ⟨rfl,Qn _,hM⟩ (Qd _) [] rfl (kps) (kps) ?_
 rintro ⟨k,i⟩ ⟨hi,hk,hh⟩
 dsimp only at hi hk hh ⊢
 subst hi
 by_cases hlt:k<h.cs.length
 ·clear hM
  have e1:=Zfx hlt
  rw [Ur hlt] at hh
  refine bs.av (sx:=nos) hk7 ?_
  unfold Zhm at hh
  generalize cor h.cs k=q at *
  have hv:∀ b c,plc q.1=b->plc q.2=c->(if plc q.1&&plc q.2 then (0:Int) else 2)=if b&&c then 0 else 2:=fun b c h1 h2=>by rw [h1,h2]
  unfold plc at hh hv
  repeat'(first|refine wk1 ?_|(refine wk2 ?_ ?_<;>intro _)|fail)
  ·rename_i hx
   rw [hv false _ (by simpa using hx) rfl] at hh; exact Zd1 (e:=2) e7 hh (by decide)
  ·rename_i h1 hx
   rw [hv true false (by simpa using h1) (by simpa using hx)] at hh; exact Zd1 (e:=2) e7 hh (by decide)
  ·rename_i h1 hx
   rw [hv true true (by simpa using h1) (by simpa using hx)] at hh;exact Ql ⟨(k+1,_),[],rfl,kps,kps,⟨Zg (by have:=hf.2.1; omega),hlt,hh⟩,by dsimp only; omega⟩
 rw [Zcd (by omega)] at hh
 have hb:Zrm h.cs:=Zof (by rw [hM,<-hh])
 have e8:=Vd e7 (by rw [<-hh])
 clear e7 hh hM
 refine bs.av (sx:=nos) hk7 ?_
 repeat'(first|refine wk1 ?_|(refine wk2 ?_ ?_<;>intro _)|fail)
 have hkw:PCOK Tryz.prog (ins 128 (fam (fun k=>[h.av,I (k:Int)]) (fun k=>⟨I (Zbz h k),[]⟩) h.ws.length) (kR7 h)):=Zuu (fun k hk=>by
  have:=c164 hf ht hwc hk
  rw [show Zbz h k=Zgo h k h.ws[k] by unfold Zbz; rw [Qe hk]]
  exact this) hk7
 clear hlt hk
 generalize hM:fIx (Zbz h) 0 h.ws.length=M at e8
 refine Zr (S:=Nat × Int) (fun t=>h.ws.length-t.1) (fun t=>E65 [(8,I t.2)]) (fun _=>Z65 h) 2 2 (fun t=>t.2=t.1/\t.1<=h.ws.length/\fIx (Zbz h) t.1 (h.ws.length-t.1)=M) (0,0) ⟨rfl,Qn _,hM⟩ (Qd _) [] rfl (kps) (kps) ?_
 rintro ⟨k,i⟩ ⟨hi,hk,hh⟩
 dsimp only at hi hk hh ⊢
 subst hi
 by_cases hlt:k<h.ws.length
 ·clear hM
  have e1:=Zoa (h:=h) (r:=fun k=>⟨I (Zbz h k),[]⟩) hlt
  rw [Ur hlt] at hh
  refine bs.av (sx:=nos) hkw ?_
  try dsimp only at e1
  generalize Zbz h k=E at *
  repeat'(first|refine wk1 ?_|(refine wk2 ?_ ?_<;>intro _)|fail)
  ·rename_i hx
   exact Zd1 e8 hh (by simpa using hx)
  ·rename_i hx
   rw [if_pos (by simpa using hx)] at hh;exact Ql ⟨(k+1,_),[],rfl,kps,kps,⟨Zg (by have:=hf.2.2.1; omega),hlt,hh⟩,by dsimp only; omega⟩
 rw [Zcd (by omega)] at hh
 have hst:Za3 h.cs:=Zlq hb hwc (by rw [hM,<-hh])
 have hz:h.nz:=Zx6 hst
 have e9:=Vd e8 (by rw [<-hh])
 clear e8 hh hM hkw hb
 refine bs.av (sx:=sx65) hk7 ?_
 repeat'(first|refine wk1 ?_|(refine wk2 ?_ ?_<;>intro _)|fail)
 clear hlt hk
 refine SCt.pc (c165 hf hwc hz) (by kernel_rfl) ?_
 repeat'(first|refine wk1 ?_|(refine wk2 ?_ ?_<;>intro _)|fail)
 ·rename_i hx
  exact Zh9 e9 (by rw [Zlv (by simpa using hx)]) (by decide)
 rename_i hx
 have e10:=Vd e9 (Zgq (by simpa using hx))
 clear e9 hx
 refine SCt.pc (c46 hf) (by kernel_rfl) ?_
 repeat'(first|refine wk1 ?_|(refine wk2 ?_ ?_<;>intro _)|fail)
 ·rename_i hx
  exact Zh9 e10 (by rw [Zlv (by have:=of_decide_eq_true hx; rw [decide_eq_false (by omega)])]) (by decide)
 ·rename_i h1 hx
  exact Zh9 (Vd e10 (Zgq (by have:=of_decide_eq_false h1; rw [decide_eq_true (by omega)]))) (by rw [l4] at hx; have:=of_decide_eq_true hx; rw [Zlv (by rw [decide_eq_false (by omega)])]) (by decide)
 rename_i h1 h2
 have e11:=Vd (Vd e10 (Zgq (by have:=of_decide_eq_false h1; rw [decide_eq_true (by omega)]))) (Zgq (by rw [l4] at h2; have:=of_decide_eq_false h2; rw [decide_eq_true (by omega)]))
 clear e10 h1 h2
 have hkw:PCOK Tryz.prog (ins 131 (fam (fun k=>[h.av,I (k:Int)]) (fun k=>⟨I (Zd2 h k),[]⟩) h.ks.length) (kR7 h)):=Zuu (fun k hk=>by
  have:=c166 hf ht hwc hz hk
  rw [show Zd2 h k=Zhv h k h.ks[k] by unfold Zd2; rw [Qe hk]]
  exact this) hk7
 generalize hM:fIx (Zd2 h) 0 h.ks.length=M at e11
 refine Zr (S:=Nat × Int) (fun t=>h.ks.length-t.1) (fun t=>E65 [(10,I t.2)]) (fun _=>Z65 h) 2 2 (fun t=>t.2=t.1/\t.1<=h.ks.length/\fIx (Zd2 h) t.1 (h.ks.length-t.1)=M) (0,0) ⟨rfl,Qn _,hM⟩ (Qd _) [] rfl (kps) (kps) ?_
 clear hM
 rintro ⟨k,i⟩ ⟨hi,hk,hh⟩
 dsimp only at hi hk hh ⊢
 subst hi
 by_cases hlt:k<h.ks.length
 ·have e1:=Zoa (h:=h) (r:=fun k=>⟨I (Zd2 h k),[]⟩) hlt
  rw [Ur hlt] at hh
  refine bs.av (sx:=nos) hkw ?_
  try dsimp only at e1
  generalize Zd2 h k=E at *
  repeat'(first|refine wk1 ?_|(refine wk2 ?_ ?_<;>intro _)|fail)
  ·rename_i hx
   exact Zd1 e11 hh (by simpa using hx)
  ·rename_i hx
   rw [if_pos (by simpa using hx)] at hh;exact Ql ⟨(k+1,_),[],rfl,kps,kps,⟨Zg (by have:=hf.2.2.2.1; omega),hlt,hh⟩,by dsimp only; omega⟩
 rw [Zcd (by omega)] at hh
 have e12:=Vd e11 (by rw [<-hh])
 clear e11 hh hkw
 refine bs.av (sx:=nos) hk7 ?_
 repeat'(first|refine wk1 ?_|(refine wk2 ?_ ?_<;>intro _)|fail)
 ·rename_i hx
  exact Zh9 e12 (by rw [l5] at hx; have:=of_decide_eq_true hx; rw [Zlv (by rw [decide_eq_false (by omega)])]) (by decide)
 clear hlt hk
 rename_i h1
 have e13:=Vd e12 (Zgq (by rw [l5] at h1; have:=of_decide_eq_false h1; rw [decide_eq_true (by omega)]))
 clear e12 h1
 have hkw:PCOK Tryz.prog (ins 132 (fam (fun k=>[h.av,I (k:Int)]) (fun k=>⟨I (Zdw h k),[]⟩) h.ss.length) (kR7 h)):=Zuu (fun k hk=>by
  have:=c167 hf ht hwc hz hk
  rw [show Zdw h k=Zkc h k h.ss[k] by unfold Zdw; rw [Qe hk]]
  exact this) hk7
 generalize hM:fIx (Zdw h) 0 h.ss.length=M at e13
 refine Zr (S:=Nat × Int) (fun t=>h.ss.length-t.1) (fun t=>E65 [(12,I t.2)]) (fun _=>Z65 h) 2 2 (fun t=>t.2=t.1/\t.1<=h.ss.length/\fIx (Zdw h) t.1 (h.ss.length-t.1)=M) (0,0) ⟨rfl,Qn _,hM⟩ (Qd _) [] rfl (kps) (kps) ?_
 clear hM
 rintro ⟨k,i⟩ ⟨hi,hk,hh⟩
 dsimp only at hi hk hh ⊢
 subst hi
 by_cases hlt:k<h.ss.length
 ·have e1:=Zoa (h:=h) (r:=fun k=>⟨I (Zdw h k),[]⟩) hlt
  rw [Ur hlt] at hh
  refine bs.av (sx:=nos) hkw ?_
  try dsimp only at e1
  generalize Zdw h k=E at *
  repeat'(first|refine wk1 ?_|(refine wk2 ?_ ?_<;>intro _)|fail)
  ·rename_i hx
   exact Zd1 e13 hh (by simpa using hx)
  ·rename_i hx
   rw [if_pos (by simpa using hx)] at hh;exact Ql ⟨(k+1,_),[],rfl,kps,kps,⟨Zg (by have:=hf.2.2.2.2.1; omega),hlt,hh⟩,by dsimp only; omega⟩
 rw [Zcd (by omega)] at hh
 have e14:=Vd e13 (by rw [<-hh])
 clear e13 hh hkw
 refine bs.av (sx:=nos) hk7 ?_
 repeat'(first|refine wk1 ?_|(refine wk2 ?_ ?_<;>intro _)|fail)
 subst e14
 exact Ze rfl rfl
def kQ1:PC:=pt0
theorem Yit:PCOK Tryz.prog kQ1:=Zc
def Yo (s:ByteArray):Bool:=!decide ((20:Int)<(s.size:Int))
def fewM (m:Mat):Bool:=Yo m.nm
def fewW (w:Wal):Bool:=Yo w.nm&&Yo w.mt&&Yo w.cu
def fewC (c:Can):Bool:=Yo c.nm&&Yo c.mt && !decide ((6:Int)<(c.hs.length:Int))
def fewS (s:Sea):Bool:=Yo s.nm
theorem Zpi (ns:List Int):Uc (nl ns)=true:=by simp [Uc,nl,Ka]
theorem c25 (ns:List Int) (hl:ns.length<100000):PCall Tryz.prog 39 [.isl 1 (nl ns)] ⟨.asl 0 0 (nl ns).length,[(1,nl ns)]⟩:=by
 have h1:=Zpi ns
 have h2:=Zk ns
 refine pn Zc Tryz.func39 ?_
 repeat'(first|refine wk0 ?_|(refine wk2 ?_ ?_<;>intro _)|fail)
 refine Yg [1] rfl ?_ rfl
 show AV.asl 1 0 (0+(nl ns).length)=AV.asl 1 0 (nl ns).length
 rw [Ry]
theorem c25f (ns:List Int) (hl:ns.length<100000):PCall Tryz.prog 39 [.isl 1 (nl ns)] ⟨.isl 1 (nl ns),[]⟩:=(c25 ns hl).freeze ⟨rfl,rfl,rfl⟩
theorem Zx4 (l:List Mat):Uc (l.map Mat.av)=true:=by simp [Uc,Ka]
theorem Zx5 (l:List (Int × Int)):Uc (l.map pt)=true:=by simp [Uc,Ka,pt]
theorem Zx2 (l:List Wal):Uc (l.map Wal.av)=true:=by simp [Uc,Ka]
theorem Zx3 (l:List Sea):Uc (l.map Sea.av)=true:=by simp [Uc,Ka]
def r25:List AV->Option PRes
 | [.isl 1 els]=>none
 | _=>none
noncomputable abbrev cints:List AV->Option PRes:=famA (fun ns:List Int=>ns.length<100000) (fun ns=>[.isl 1 (nl ns)]) (fun ns=>⟨.isl 1 (nl ns),[]⟩)
theorem Zi3 {a b:List Int} (h:nl a=nl b):a=b:=by
 unfold nl at h
 exact List.map_inj_right (fun x y hxy=>by simpa using hxy) |>.1 h
theorem Zhq {ns:List Int} (h:ns.length<100000):cints [.isl 1 (nl ns)]=some ⟨.isl 1 (nl ns),[]⟩ :=
 Zm (p:=fun ns:List Int=>ns.length<100000) (g:=fun ns=>[.isl 1 (nl ns)]) (r:=fun ns=>⟨.isl 1 (nl ns),[]⟩) (fun j hj=>by
  simp only [Qs,AV.isl.injEq,true_and,and_true] at hj
  rw [hj]) h
noncomputable def kQ2:PC:=ins 39 cints kQ1
theorem Zp0:PCOK Tryz.prog kQ2:=Zo (fun ns hl=>c25f ns hl) Yit
abbrev canL (l:List Can):List (List AV):=l.map Can.av
theorem Yaf {l:List Can} {k:Nat} (h:k<l.length):canL (l.take (k+1))=canL (l.take k)++[Can.av l[k]]:=by unfold canL; rw [Qw h,Wz]; rfl
def cpyV (h:Hal):AV:=.agg [.str h.nm,I h.ht,.str h.fl,.str h.ce,.asl 0 0 (h.ms.map Mat.av).length,.asl 1 0 (h.cs.map pt).length,.asl 2 0 (h.ws.map Wal.av).length,(match h.ks with
 | []=>.nils
 | _=>.asl 4 0 (canL h.ks).length),.asl 3 0 (h.ss.map Sea.av).length]
def cpyB (h:Hal):List (Nat × List (List AV)):=[(6,h.ms.map Mat.av),(2,h.cs.map pt),(3,h.ws.map Wal.av),(4,h.ss.map Sea.av)]++(match h.ks with
 | []=>[]
 | _=>[(7,canL h.ks)])
abbrev Z22 (h:Hal):List (Nat × ABlk):=[(0,.row 9 [[.str h.nm,I h.ht,.str h.fl,.str h.ce,.asl 3 0 (0+(h.ms.map Mat.av).length),.asl 5 0 (0+(h.cs.map pt).length),.asl 7 0 (0+(h.ws.map Wal.av).length),.isl 7 (h.ks.map Can.av),.asl 9 0 (0+(h.ss.map Sea.av).length)]] true false),
 (1,.row 9 [[.str ⟨#[]⟩,I 0,.str ⟨#[]⟩,.str ⟨#[]⟩,.nils,.nils,.nils,.nils,.nils]] true false),(3,.row 6 (h.ms.map Mat.av) true true),(5,.row 2 (h.cs.map pt) true true),(7,.row 3 (h.ws.map Wal.av) true true),(9,.row 4 (h.ss.map Sea.av) true true)]
theorem c22 {h:Hal} (hf:h.few):PCall Tryz.prog 9 [h.av] ⟨cpyV h,cpyB h⟩:=by
 have o1:=Zx4 h.ms
 have o2:=Zx5 h.cs
 have o3:=Zx2 h.ws
 have o4:=Zx3 h.ss
 have l1:=Zao h.ms
 have l2:(h.cs.map pt).length=h.cs.length:=by simp
 have l3:=Yh h.ws
 have l4:=Xd h.ks
 have l5:=Zef h.ss
 obtain ⟨f1,f2,f3,f4,f5,f6⟩:=hf
 refine bs.pv (sx:=nos) Zp0 Tryz.func9 (by kernel_rfl) (by kernel_rfl) (by unfold cpyV cpyB; cases h.ks<;>rfl) ?_
 repeat'(first|refine wk0 ?_|(refine wk2 ?_ ?_<;>intro _)|fail)
 refine Lp.ren (env2:=[(1,.ptr 0 0 0),(2,.ptr 1 0 0),(3,.nils),(4,I 0)]) (σ2:=⟨Z22 h,10⟩) (Ren.of [] rfl (kps) (kps)) ?_
 refine Zr (S:=Nat × Int × Nat × List (List AV)) (fun t=>h.ks.length-t.1) (fun t=>[(1,.ptr 0 0 0),(2,.ptr 1 0 0),(3,match t.1 with
  | 0=>.nils
  | _=>.asl 10 0 t.2.2.1),(4,I t.2.1)]) (fun t=>(match t.1 with
  | 0=>Z22 h
  | _=>(10,.row 7 t.2.2.2 true true)::Z22 h)) 10 11 (fun t=>t.2.1=t.1/\t.1<=h.ks.length/\t.2.2.1=t.2.2.2.length/\t.2.2.2=canL (h.ks.take t.1)) (0,0,0,[]) ⟨rfl,Qn _,rfl,rfl⟩ (Qd _) [] rfl (kps) (kps) ?_
 rintro ⟨k,i,len,els⟩ ⟨hi,hk,hlen,hels⟩
 dsimp only at hi hk hlen hels ⊢
 subst hi
 refine bs.av (sx:=nos) Zp0 ?_
 by_cases hlt:k<h.ks.length
 ·have e1:=Zbu hlt
  have e2:=Zhq (ns:=h.ks[k].hs) (by have:=f6 _ (Qr hlt); omega)
  have e3:=Yaf hlt
  have e4:els.length<2000:=by rw [hels]; simp [canL]; omega
  cases k with
  | zero =>
   repeat'(first|refine wk1 ?_|(refine wk2 ?_ ?_<;>intro _)|fail)
   exact Ql ⟨(1,_,_,_),[(10,13)],rfl,kps,kps,⟨Zg (k:=0) (by omega),hlt,rfl,e3.symm⟩,by dsimp only; omega⟩
  | succ k =>
   repeat'(first|refine wk1 ?_|(refine wk2 ?_ ?_<;>intro _)|fail)
   exact Ql ⟨(k+1+1,_,_,_),[(10,13)],rfl,kps,kps,⟨Zg (k:=k+1) (by omega),hlt,by exact List.length_append.symm,by show _=canL _; rw [e3,<-hels]; rfl⟩,by dsimp only; omega⟩
 rw [Wc (by omega)] at hels
 subst hels
 subst hlen
 cases k with
 | zero =>
  have hks:h.ks=[]:=List.eq_nil_of_length_eq_zero (by omega)
  have v1:cpyV h = .agg [.str h.nm,I h.ht,.str h.fl,.str h.ce,.asl 0 0 (h.ms.map Mat.av).length,.asl 1 0 (h.cs.map pt).length,.asl 2 0 (h.ws.map Wal.av).length,.nils,.asl 3 0 (h.ss.map Sea.av).length]:=by unfold cpyV; rw [hks]
  have v2:cpyB h=[(6,h.ms.map Mat.av),(2,h.cs.map pt),(3,h.ws.map Wal.av),(4,h.ss.map Sea.av)]:=by unfold cpyB; rw [hks]; rfl
  rw [v1,v2]
  clear v1 v2
  repeat'(first|refine wk1 ?_|(refine wk2 ?_ ?_<;>intro _)|fail)
  refine Yg [3,5,7,9] rfl ?_ rfl
  show AV.agg [_,_,_,_,.asl 3 0 (0+(h.ms.map Mat.av).length),.asl 5 0 (0+(h.cs.map pt).length),.asl 7 0 (0+(h.ws.map Wal.av).length),_,.asl 9 0 (0+(h.ss.map Sea.av).length)]=AV.agg [_,_,_,_,.asl 3 0 (h.ms.map Mat.av).length,.asl 5 0 (h.cs.map pt).length,.asl 7 0 (h.ws.map Wal.av).length,_,.asl 9 0 (h.ss.map Sea.av).length]
  simp only [Ry]; rfl
 | succ k =>
  have hks:∃ c l,h.ks=c::l:=by
   cases hq:h.ks with
   | nil=>rw [hq] at hk; simp at hk
   | cons c l=>exact ⟨c,l,rfl⟩
  have v1:cpyV h = .agg [.str h.nm,I h.ht,.str h.fl,.str h.ce,.asl 0 0 (h.ms.map Mat.av).length,.asl 1 0 (h.cs.map pt).length,.asl 2 0 (h.ws.map Wal.av).length,.asl 4 0 (canL h.ks).length,.asl 3 0 (h.ss.map Sea.av).length]:=by obtain ⟨c,l,hq⟩:=hks; unfold cpyV; rw [hq]
  have v2:cpyB h=[(6,h.ms.map Mat.av),(2,h.cs.map pt),(3,h.ws.map Wal.av),(4,h.ss.map Sea.av),(7,canL h.ks)]:=by obtain ⟨c,l,hq⟩:=hks; unfold cpyB; rw [hq]; rfl
  rw [v1,v2]
  clear v1 v2
  repeat'(first|refine wk1 ?_|(refine wk2 ?_ ?_<;>intro _)|fail)
  refine Yg [3,5,7,9,10] rfl ?_ rfl
  show AV.agg [_,_,_,_,.asl 3 0 (0+(h.ms.map Mat.av).length),.asl 5 0 (0+(h.cs.map pt).length),.asl 7 0 (0+(h.ws.map Wal.av).length),_,.asl 9 0 (0+(h.ss.map Sea.av).length)]=AV.agg [_,_,_,_,.asl 3 0 (h.ms.map Mat.av).length,.asl 5 0 (h.cs.map pt).length,.asl 7 0 (h.ws.map Wal.av).length,_,.asl 9 0 (h.ss.map Sea.av).length]
  simp only [Ry]; rfl
theorem c22f {h:Hal} (hf:h.few):PCall Tryz.prog 9 [h.av] ⟨h.av,[]⟩:=by
 refine (c22 hf).freeze ?_
 unfold cpyV cpyB
 cases hq:h.ks with
 | nil =>
  exact ⟨⟨rfl,rfl⟩,⟨rfl,rfl⟩,⟨rfl,rfl⟩,⟨rfl,rfl⟩,⟨rfl,rfl,rfl⟩,⟨rfl,rfl,rfl⟩,⟨rfl,rfl,rfl⟩,by rw [hq]; rfl,⟨rfl,rfl,rfl⟩,trivial⟩
 | cons c l =>
  exact ⟨⟨rfl,rfl⟩,⟨rfl,rfl⟩,⟨rfl,rfl⟩,⟨rfl,rfl⟩,⟨rfl,rfl,rfl⟩,⟨rfl,rfl,rfl⟩,⟨rfl,rfl,rfl⟩,⟨by rw [hq]; rfl,rfl,by rw [hq]⟩,⟨rfl,rfl,rfl⟩,trivial⟩
structure Stg where
 hs:List Int
 dr:List Int
abbrev Stg.cells (s:Stg):List AV:=[.isl 1 (nl s.hs),.isl 1 (nl s.dr)]
abbrev Stg.av (s:Stg):AV:=.agg [.isl 1 (nl s.hs),.isl 1 (nl s.dr)]
def Stg.few (s:Stg):Prop:=s.hs.length<1000/\s.dr.length<1000
def kLen (h:Hal) (i:Nat):Int:=match h.ks[i]? with
 | some c=>(c.hs.length:Int)
 | none=>0
def curt (h:Hal) (n:Int):ByteArray:=match h.ws[n.toNat]? with
 | some w=>w.cu
 | none=>⟨#[]⟩
def hgE (h:Hal):Nat->List Int->Int
 | _,[]=>0
 | i,n::l=>if within n 0 (Qa Qb (kLen h i-1)) then hgE h (i+1) l else 6
def drOk (h:Hal) (n:Int):Bool:=within n 0 (Qa Qb ((h.ws.length:Int)-1)) && !(curt h n==⟨#[]⟩)
def Zpm (p:Option Int) (n:Int):Bool:=match p with
 | some q=>decide (n<=q)
 | none=>false
def drE (h:Hal):Option Int->List Int->Int
 | _,[]=>0
 | p,n::l=>if drOk h n then (if Zpm p n then 9 else drE h (some n) l) else 6
def setE (h:Hal) (s:Stg):Int:=if (s.hs.length:Int)=h.ks.length then (if hgE h 0 s.hs=0 then drE h none s.dr else hgE h 0 s.hs) else 10
theorem Zyh {h:Hal} {i:Nat} (hi:i<h.ks.length):kLen h i=((nl h.ks[i].hs).length:Int):=by unfold kLen; rw [Qe hi,Zk]
theorem Yhn {h:Hal} {n:Int} (hw:within n 0 (Qa Qb ((h.ws.length:Int)-1))=true) (hl:h.ws.length<1000):∃ w,(h.ws.map Wal.av)[n.toNat]?=some (Wal.av w)/\curt h n=w.cu/\0<=n/\n<h.ws.length:=by
 rw [W_eq (by omega) (by omega)] at hw
 have hw:=within_iff.1 hw
 have hi:n.toNat<h.ws.length:=by omega
 exact ⟨h.ws[n.toNat],by simp [hi],by unfold curt; rw [Qe hi],by omega,by omega⟩
def r30:List AV->Option PRes
 | [.int .i64 n,.int .i64 lo,.int .i64 hi]=>some ⟨Bo (within n lo hi),[]⟩
 | _=>none
abbrev Z123 (h:Hal) (s:Stg):List (Nat × ABlk):=[(1,.row 2 [s.cells] true false),(0,.row 9 [h.cells] true false)]
theorem c123 {h:Hal} (hf:h.few) {s:Stg} (hs:s.few):PCall Tryz.prog 94 [h.av,s.av] ⟨I (setE h s),[]⟩:=by
 have l1:=Zk s.hs
 have l2:=Zk s.dr
 have l3:=Xd h.ks
 have l4:=Yh h.ws
 obtain ⟨f1,f2,f3,f4,f5,f6⟩:=hf
 obtain ⟨g1,g2⟩:=hs
 refine pn Za1 Tryz.func94 ?_
 by_cases hlen:(s.hs.length:Int)=h.ks.length
 ·unfold setE
  rw [if_pos hlen]
  repeat'(first|refine wk1 ?_|(refine wk2 ?_ ?_<;>intro _)|fail)
  refine Zr (S:=Nat × Int) (fun t=>s.hs.length-t.1) (fun t=>[(2,.ptr 0 0 0),(3,.ptr 1 0 0),(4,I 0),(18,.isl 1 (nl s.hs)),(19,I (nl s.hs).length),(20,I t.2)]) (fun _=>Z123 h s) 2 2 (fun t=>t.2=t.1/\t.1<=s.hs.length/\hgE h t.1 (s.hs.drop t.1)=hgE h 0 s.hs) (0,0) ⟨rfl,Qn _,rfl⟩ (Qd _) [] rfl (kps) (kps) ?_
  rintro ⟨k,i⟩ ⟨hi,hk,hh⟩
  dsimp only at hi hk hh ⊢
  subst hi
  generalize hgE h 0 s.hs=V at *
  refine bs.av (sx:=nos) Za1 ?_
  by_cases hlt:k<s.hs.length
  ·have e1:=Xx hlt
   have e2:=Zbu (l:=h.ks) (k:=k) (by omega);have e3:=Zyh (h:=h) (i:=k) (by omega);rw [Qi hlt,hgE,e3] at hh;clear e3
   repeat'(first|refine wk1 ?_|(refine wk2 ?_ ?_<;>intro _)|fail)
   ·rename_i hx
    rw [show within s.hs[k] 0 (Qa Qb (((nl (h.ks[k]'(by omega)).hs).length:Int)-1))=false by simpa using hx] at hh;exact Za (by rw [<-hh]; rfl)
   ·rename_i hx
    rw [show within s.hs[k] 0 (Qa Qb (((nl (h.ks[k]'(by omega)).hs).length:Int)-1))=true by simpa using hx,if_pos rfl] at hh;exact Ql ⟨(k+1,_),[],rfl,kps,kps,⟨Zg (by omega),hlt,hh⟩,by dsimp only; omega⟩
  rw [Qk (by omega)] at hh
  have hh:0=V:=hh
  subst hh
  rw [if_pos rfl]
  repeat'(first|refine wk1 ?_|(refine wk2 ?_ ?_<;>intro _)|fail)
  clear hlt hk
  refine Zr (S:=Nat × Int) (fun t=>s.dr.length-t.1) (fun t=>[(2,.ptr 0 0 0),(3,.ptr 1 0 0),(4,I 0),(39,.isl 1 (nl s.dr)),(40,I (nl s.dr).length),(41,I t.2)]) (fun _=>Z123 h s) 2 2 (fun t=>t.2=t.1/\t.1<=s.dr.length/\drE h (Yr s.dr t.1) (s.dr.drop t.1)=drE h none s.dr) (0,0) ⟨rfl,Qn _,rfl⟩ (Qd _) [] rfl (kps) (kps) ?_
  rintro ⟨k,i⟩ ⟨hi,hk,hh⟩
  dsimp only at hi hk hh ⊢
  subst hi
  generalize drE h none s.dr=V at *
  refine bs.av (sx:=nos) Za1 ?_
  by_cases hlt:k<s.dr.length
  ·have e1:=Xx hlt
   rw [Qi hlt,drE] at hh
   by_cases hw:within s.dr[k] 0 (Qa Qb ((h.ws.length:Int)-1))=true
   ·obtain ⟨w,e2,e3,e4,e5⟩:=Yhn hw f3
    have hw' : within s.dr[k] 0 (Qa Qb (((h.ws.map Wal.av).length:Int)-1))=true:=by rw [l4]; exact hw
    have hd:drOk h s.dr[k] = !(w.cu==⟨#[]⟩):=by unfold drOk; rw [hw,e3,Wo]
    rw [hd] at hh;clear hd e3
    cases k with
    | zero =>
     have hp:Yr s.dr (0+1)=some s.dr[0]:=by simp [Yr,hlt]
     rw [<-hp] at hh;clear hp;have e8:Zpm (Yr s.dr 0) s.dr[0]=false:=rfl;rw [e8] at hh;clear e8
     repeat'(first|refine wk1 ?_|(refine wk2 ?_ ?_<;>intro _)|fail)
     all_goals clear e1 e2
     all_goals try (exfalso; clear hh; simp_all; done)
     ·rename_i hx; exact Za (by rw [<-hh]; clear hh; simp_all)
     ·exact Ql ⟨(1,_),[],rfl,kps,kps,⟨Zg (k:=0) (by omega),hlt,by rw [<-hh]; clear hh; simp_all⟩,by dsimp only; omega⟩
    | succ k =>
     have e6:Qa Qb (((k+1:Nat):Int)-1)=(k:Int):=by rw [W_eq (by omega) (by omega)]; omega
     have e7:(nl s.dr)[(Qa Qb (((k+1:Nat):Int)-1)).toNat]?=some [I s.dr[k]]:=by rw [e6]; exact Xx (by omega)
     have e8:Zpm (Yr s.dr (k+1)) s.dr[k+1]=decide (s.dr[k+1]<=s.dr[k]):=by simp [Yr,Zpm,show k<s.dr.length by omega]
     rw [e8] at hh;clear e8;have hp:Yr s.dr (k+1+1)=some s.dr[k+1]:=by simp [Yr,hlt]
     rw [<-hp] at hh;clear hp
     repeat'(first|refine wk1 ?_|(refine wk2 ?_ ?_<;>intro _)|fail)
     all_goals clear e7 e1 e2
     all_goals try (exfalso; clear hh; simp_all; done)
     ·rename_i hx; exact Za (by rw [<-hh]; clear hh; simp_all)
     ·exact Za (by rw [<-hh]; clear hh; simp_all)
     ·exact Ql ⟨(k+1+1,_),[],rfl,kps,kps,⟨Zg (k:=k+1) (by omega),hlt,by rw [<-hh]; clear hh; simp_all<;>omega⟩,by dsimp only; omega⟩
   ·have hd:drOk h s.dr[k]=false:=by unfold drOk; rw [show within s.dr[k] 0 (Qa Qb ((h.ws.length:Int)-1))=false by simpa using hw]; rfl
    have hw' : within s.dr[k] 0 (Qa Qb (((h.ws.map Wal.av).length:Int)-1))=false:=by rw [l4]; simpa using hw
    rw [hd] at hh
    repeat'(first|refine wk1 ?_|(refine wk2 ?_ ?_<;>intro _)|fail)
    all_goals try (exfalso; clear hh; simp_all; done)
    all_goals exact Za (by rw [<-hh]; rfl)
  rw [Qk (by omega)] at hh
  repeat'(first|refine wk1 ?_|(refine wk2 ?_ ?_<;>intro _)|fail)
  exact Za (by rw [<-hh]; cases Yr s.dr k<;>rfl)
 ·unfold setE
  rw [if_neg hlen]
  repeat'(first|refine wk1 ?_|(refine wk2 ?_ ?_<;>intro _)|fail)
  exact Za rfl
theorem c75 {h:Hal} (hf:h.few) {s:Stg} (hs:s.few):PCall Tryz.prog 41 [h.av,s.av] ⟨I (setE h s),[]⟩:=by
 have l1:=Zk s.hs
 have l2:=Zk s.dr
 have l3:=Xd h.ks
 have l4:=Yh h.ws
 obtain ⟨f1,f2,f3,f4,f5,f6⟩:=hf
 obtain ⟨g1,g2⟩:=hs
 refine pn Za1 Tryz.func41 ?_
 by_cases hlen:(s.hs.length:Int)=h.ks.length
 ·unfold setE
  rw [if_pos hlen]
  repeat'(first|refine wk1 ?_|(refine wk2 ?_ ?_<;>intro _)|fail)
  refine Zr (S:=Nat × Int) (fun t=>s.hs.length-t.1) (fun t=>[(2,.ptr 0 0 0),(3,.ptr 1 0 0),(4,I 0),(5,I t.2)]) (fun _=>Z123 h s) 2 2 (fun t=>t.2=t.1/\t.1<=s.hs.length/\hgE h t.1 (s.hs.drop t.1)=hgE h 0 s.hs) (0,0) ⟨rfl,Qn _,rfl⟩ (Qd _) [] rfl (kps) (kps) ?_
  rintro ⟨k,i⟩ ⟨hi,hk,hh⟩
  dsimp only at hi hk hh ⊢
  subst hi
  generalize hgE h 0 s.hs=V at *
  refine bs.av (sx:=nos) Za1 ?_
  by_cases hlt:k<s.hs.length
  ·have e1:=Xx hlt
   have e2:=Zbu (l:=h.ks) (k:=k) (by omega);have e3:=Zyh (h:=h) (i:=k) (by omega);rw [Qi hlt,hgE,e3] at hh;clear e3
   repeat'(first|refine wk1 ?_|(refine wk2 ?_ ?_<;>intro _)|fail)
   ·rename_i hx
    rw [show within s.hs[k] 0 (Qa Qb (((nl (h.ks[k]'(by omega)).hs).length:Int)-1))=false by simpa using hx] at hh;exact Za (by rw [<-hh]; rfl)
   ·rename_i hx
    rw [show within s.hs[k] 0 (Qa Qb (((nl (h.ks[k]'(by omega)).hs).length:Int)-1))=true by simpa using hx,if_pos rfl] at hh;exact Ql ⟨(k+1,_),[],rfl,kps,kps,⟨Zg (by omega),hlt,hh⟩,by dsimp only; omega⟩
  rw [Qk (by omega)] at hh
  have hh:0=V:=hh
  subst hh
  rw [if_pos rfl]
  repeat'(first|refine wk1 ?_|(refine wk2 ?_ ?_<;>intro _)|fail)
  clear hlt hk
  refine Zr (S:=Nat × Int) (fun t=>s.dr.length-t.1) (fun t=>[(2,.ptr 0 0 0),(3,.ptr 1 0 0),(4,I 0),(6,I t.2)]) (fun _=>Z123 h s) 2 2 (fun t=>t.2=t.1/\t.1<=s.dr.length/\drE h (Yr s.dr t.1) (s.dr.drop t.1)=drE h none s.dr) (0,0) ⟨rfl,Qn _,rfl⟩ (Qd _) [] rfl (kps) (kps) ?_
  rintro ⟨k,i⟩ ⟨hi,hk,hh⟩
  dsimp only at hi hk hh ⊢
  subst hi
  generalize drE h none s.dr=V at *
  refine bs.av (sx:=nos) Za1 ?_
  by_cases hlt:k<s.dr.length
  ·have e1:=Xx hlt
   rw [Qi hlt,drE] at hh
   by_cases hw:within s.dr[k] 0 (Qa Qb ((h.ws.length:Int)-1))=true
   ·obtain ⟨w,e2,e3,e4,e5⟩:=Yhn hw f3
    have hw' : within s.dr[k] 0 (Qa Qb (((h.ws.map Wal.av).length:Int)-1))=true:=by rw [l4]; exact hw
    have hd:drOk h s.dr[k] = !(w.cu==⟨#[]⟩):=by unfold drOk; rw [hw,e3,Wo]
    rw [hd] at hh;clear hd e3
    cases k with
    | zero =>
     have hp:Yr s.dr (0+1)=some s.dr[0]:=by simp [Yr,hlt]
     rw [<-hp] at hh;clear hp;have e8:Zpm (Yr s.dr 0) s.dr[0]=false:=rfl;rw [e8] at hh;clear e8
     repeat'(first|refine wk1 ?_|(refine wk2 ?_ ?_<;>intro _)|fail)
     all_goals clear e1 e2
     all_goals try (exfalso; clear hh; simp_all; done)
     ·rename_i hx; exact Za (by rw [<-hh]; clear hh; simp_all)
     ·exact Ql ⟨(1,_),[],rfl,kps,kps,⟨Zg (k:=0) (by omega),hlt,by rw [<-hh]; clear hh; simp_all⟩,by dsimp only; omega⟩
    | succ k =>
     have e6:Qa Qb (((k+1:Nat):Int)-1)=(k:Int):=by rw [W_eq (by omega) (by omega)]; omega
     have e7:(nl s.dr)[(Qa Qb (((k+1:Nat):Int)-1)).toNat]?=some [I s.dr[k]]:=by rw [e6]; exact Xx (by omega)
     have e8:Zpm (Yr s.dr (k+1)) s.dr[k+1]=decide (s.dr[k+1]<=s.dr[k]):=by simp [Yr,Zpm,show k<s.dr.length by omega]
     rw [e8] at hh;clear e8;have hp:Yr s.dr (k+1+1)=some s.dr[k+1]:=by simp [Yr,hlt]
     rw [<-hp] at hh;clear hp
     repeat'(first|refine wk1 ?_|(refine wk2 ?_ ?_<;>intro _)|fail)
     all_goals clear e7 e1 e2
     all_goals try (exfalso; clear hh; simp_all; done)
     ·rename_i hx; exact Za (by rw [<-hh]; clear hh; simp_all)
     ·exact Za (by rw [<-hh]; clear hh; simp_all)
     ·exact Ql ⟨(k+1+1,_),[],rfl,kps,kps,⟨Zg (k:=k+1) (by omega),hlt,by rw [<-hh]; clear hh; simp_all<;>omega⟩,by dsimp only; omega⟩
   ·have hd:drOk h s.dr[k]=false:=by unfold drOk; rw [show within s.dr[k] 0 (Qa Qb ((h.ws.length:Int)-1))=false by simpa using hw]; rfl
    have hw' : within s.dr[k] 0 (Qa Qb (((h.ws.map Wal.av).length:Int)-1))=false:=by rw [l4]; simpa using hw
    rw [hd] at hh
    repeat'(first|refine wk1 ?_|(refine wk2 ?_ ?_<;>intro _)|fail)
    all_goals try (exfalso; clear hh; simp_all; done)
    all_goals exact Za (by rw [<-hh]; rfl)
  rw [Qk (by omega)] at hh
  repeat'(first|refine wk1 ?_|(refine wk2 ?_ ?_<;>intro _)|fail)
  exact Za (by rw [<-hh]; cases Yr s.dr k<;>rfl)
 ·unfold setE
  rw [if_neg hlen]
  repeat'(first|refine wk1 ?_|(refine wk2 ?_ ?_<;>intro _)|fail)
  exact Za rfl
structure Hal.ok (h:Hal):Prop where
 f:h.few
 t:h.texts
def Hal.err (h:Hal):Int:=(chk h).2.2
abbrev chkA (h:Hal):AV:=.tup [P2 (chk h).1 (chk h).2.1,I h.err]
theorem c65k {h:Hal} (hk:h.ok):PCall Tryz.prog 81 [h.av] ⟨chkA h,[]⟩:=by have:=c65 hk.f hk.t; rw [Yeu hk.f] at this; exact this
theorem c63k {h:Hal} (hk:h.ok):PCall Tryz.prog 143 [h.av] ⟨chkA h,[]⟩:=c63 hk.f hk.t
noncomputable def kE (h:Hal):PC:=ins 143 (one [h.av] ⟨chkA h,[]⟩) (ins 81 (one [h.av] ⟨chkA h,[]⟩) kQ2)
theorem Yi6 {h:Hal} (hk:h.ok):PCOK Tryz.prog (kE h):=Zd (c63k hk) (Zd (c65k hk) Zp0)
theorem c76 {h:Hal} (hk:h.ok):PCall Tryz.prog 93 [h.av] ⟨.tup [h.av,I h.err],[]⟩:=by
 refine pn (Yi6 hk) Tryz.func93 ?_
 repeat'(first|refine wk0 ?_|(refine wk2 ?_ ?_<;>intro _)|fail)
 exact Ze rfl rfl
def serr (h:Hal) (s:Stg):Int:=if h.err=0 then setE h s else h.err
noncomputable def kF (h:Hal) (s:Stg):PC:=ins 93 (one [h.av] ⟨.tup [h.av,I h.err],[]⟩) (ins 41 (one [h.av,s.av] ⟨I (setE h s),[]⟩) (ins 94 (one [h.av,s.av] ⟨I (setE h s),[]⟩) (kE h)))
theorem Yiz {h:Hal} (hk:h.ok) {s:Stg} (hs:s.few):PCOK Tryz.prog (kF h s):=Zd (c76 hk) (Zd (c75 hk.f hs) (Zd (c123 hk.f hs) (Yi6 hk)))
theorem c47 {h:Hal} (hk:h.ok) {s:Stg} (hs:s.few):PCall Tryz.prog 55 [h.av,s.av] ⟨I (serr h s),[]⟩:=by
 refine pn (Yiz hk hs) Tryz.func55 ?_
 repeat'(first|refine wk0 ?_|(refine wk2 ?_ ?_<;>intro _)|fail)
 all_goals exact Za (by simp_all [serr])
abbrev stgL (h:Hal) (s:Stg):List AV:=[.str h.nm,I h.ht,.str h.fl,.str h.ce,.isl 6 (h.ms.map Mat.av),.isl 2 (h.cs.map pt),.isl 3 (h.ws.map Wal.av),.isl 7 (h.ks.map Can.av),.isl 4 (h.ss.map Sea.av),.isl 1 (nl s.hs),.isl 1 (nl s.dr)]
theorem c83 {h:Hal} (hk:h.ok) {s:Stg} (hs:s.few):PCall Tryz.prog 154 [h.av,s.av] ⟨.tup [.agg (stgL h s),I (serr h s)],[]⟩:=by
 refine pn (Yiz hk hs) Tryz.func154 ?_
 repeat'(first|refine wk0 ?_|(refine wk2 ?_ ?_<;>intro _)|fail)
 ·rename_i hx
  have e:serr h s=setE h s:=by simp_all [serr]
  rw [e]
  exact Ze rfl rfl
 ·rename_i hx
  have e:serr h s=h.err:=by simp_all [serr]
  rw [e]
  exact Ze rfl rfl
end Go.Proofs.YtfkdpbklbegnlaaGreat
namespace Go.Sx
open Go Go.RowKit
theorem Zp {T:Tab} {d:Nat} {t:TypeId} {xs:List AV} {ti:TI} {fs:Array Field} (ht:T t=some ti) (hd:ti.desc = .struct fs) (h:WT T (d+1) t xs) (i:Nat) {f:Field} (hf:fs.toList[i]?=some f) {tf:TI} (htf:T f.type=some tf):WT T d f.type ((xs.drop f.offset).take tf.size):=by
 obtain ⟨tf',e,w⟩:=(Vl ht hd h).2 f (List.mem_of_getElem? hf)
 rw [htf] at e
 cases e
 exact w
end Go.Sx
namespace Go.Proofs.YtfkdpbklbegnlaaGreat
open Go Go.Sx
noncomputable abbrev TT:=tget tbl
def okS (s:ByteArray):Prop:=s.size<=maxLen
theorem wInt {d:Nat} {x:List AV} (h:WT TT (d+1) 3 x):∃ n,x=[I n]:=by
 obtain ⟨n,h1,_⟩:=Ydp (T:=TT) (t:=3) rfl rfl h
 exact ⟨n,h1⟩
theorem wStr {d:Nat} {x:List AV} (h:WT TT (d+1) 9 x):∃ s,x=[.str s]/\okS s:=Yhm (T:=TT) (t:=9) rfl rfl h
theorem Ye6 {d:Nat} {x:List AV} (h:WT TT (d+2) 29 x):∃ ns:List Int,x=[.isl 1 (nl ns)]:=by
 obtain ⟨els,h1,h2,h3⟩:=Zez (T:=TT) (t:=29) rfl rfl rfl h
 have:∃ ns:List Int,els=nl ns:=by
  clear h1 h2
  induction els with
  | nil=>exact ⟨[],rfl⟩
  | cons e l ih =>
   obtain ⟨ns,hns⟩:=ih (fun x hx=>h3 x (by simp [hx]));obtain ⟨n,hn⟩:=wInt (h3 e (by simp));exact ⟨n::ns,by rw [hns,hn]; rfl⟩
 obtain ⟨ns,rfl⟩:=this
 exact ⟨ns,h1⟩
theorem wP2 {d:Nat} {x:List AV} (h:WT TT (d+2) 101 x):∃ p:Int × Int,x=pt p:=by
 obtain ⟨ns,h1,h2,_⟩:=Zjy (T:=TT) (t:=101) rfl rfl rfl h
 have h2:ns.length=2:=h2
 match ns,h2 with
 | [a,b],_=>exact ⟨(a,b),by rw [h1]; rfl⟩
theorem wP3 {d:Nat} {x:List AV} (h:WT TT (d+2) 35 x):∃ a b c,x=[I a,I b,I c]:=by
 obtain ⟨ns,h1,h2,_⟩:=Zjy (T:=TT) (t:=35) rfl rfl rfl h
 have h2:ns.length=3:=h2
 match ns,h2 with
 | [a,b,c],_=>exact ⟨a,b,c,by rw [h1]; rfl⟩
theorem wI4 {d:Nat} {x:List AV} (h:WT TT (d+2) 67 x):∃ a b c e,x=[I a,I b,I c,I e]:=by
 obtain ⟨h1,h2⟩:=Ya2 (T:=TT) (t:=67) rfl rfl rfl h
 have h1:x.length=4:=h1
 match x,h1 with
 | [x0,x1,x2,x3],_ =>
  obtain ⟨a,ha⟩:=wInt (h2 0 (by omega))
  obtain ⟨b,hb⟩:=wInt (h2 1 (by omega))
  obtain ⟨c,hc⟩:=wInt (h2 2 (by omega))
  obtain ⟨e,he⟩:=wInt (h2 3 (by omega))
  have ha:[x0]=[I a]:=ha
  have hb:[x1]=[I b]:=hb
  have hc:[x2]=[I c]:=hc
  have he:[x3]=[I e]:=he
  cases ha; cases hb; cases hc; cases he
  exact ⟨a,b,c,e,rfl⟩
theorem wMat {d:Nat} {x:List AV} (h:WT TT (d+3) 69 x):∃ m:Mat,x=m.av/\okS m.nm:=by
 have h0:=(Vl (T:=TT) (t:=69) rfl rfl h).1
 have h0:x.length=6:=h0
 match x,h0 with
 | [x0,x1,x2,x3,x4,x5],_ =>
  obtain ⟨s,hs,hs2⟩:=wStr (Zp (T:=TT) (t:=69) rfl rfl h 0 rfl rfl)
  obtain ⟨a,b,c,e,ha⟩:=wI4 (Zp (T:=TT) (t:=69) rfl rfl h 1 rfl rfl)
  obtain ⟨n,hn⟩:=wInt (Zp (T:=TT) (t:=69) rfl rfl h 2 rfl rfl)
  have hs:[x0]=[.str s]:=hs
  have ha:[x1,x2,x3,x4]=[I a,I b,I c,I e]:=ha
  have hn:[x5]=[I n]:=hn
  cases hs; cases ha; cases hn
  exact ⟨⟨s,a,b,c,e,n⟩,rfl,hs2⟩
theorem wWal {d:Nat} {x:List AV} (h:WT TT (d+2) 119 x):∃ m:Wal,x=m.av/\okS m.nm/\okS m.mt/\okS m.cu:=by
 have h0:=(Vl (T:=TT) (t:=119) rfl rfl h).1
 have h0:x.length=3:=h0
 match x,h0 with
 | [x0,x1,x2],_ =>
  obtain ⟨s,hs,hs2⟩:=wStr (Zp (T:=TT) (t:=119) rfl rfl h 0 rfl rfl)
  obtain ⟨t,ht,ht2⟩:=wStr (Zp (T:=TT) (t:=119) rfl rfl h 1 rfl rfl)
  obtain ⟨u,hu,hu2⟩:=wStr (Zp (T:=TT) (t:=119) rfl rfl h 2 rfl rfl)
  have hs:[x0]=[.str s]:=hs
  have ht:[x1]=[.str t]:=ht
  have hu:[x2]=[.str u]:=hu
  cases hs; cases ht; cases hu
  exact ⟨⟨s,t,u⟩,rfl,hs2,ht2,hu2⟩
theorem wCan {d:Nat} {x:List AV} (h:WT TT (d+3) 103 x):∃ m:Can,x=m.av/\okS m.nm/\okS m.mt:=by
 have h0:=(Vl (T:=TT) (t:=103) rfl rfl h).1
 have h0:x.length=7:=h0
 match x,h0 with
 | [x0,x1,x2,x3,x4,x5,x6],_ =>
  obtain ⟨s,hs,hs2⟩:=wStr (Zp (T:=TT) (t:=103) rfl rfl h 0 rfl rfl)
  obtain ⟨t,ht,ht2⟩:=wStr (Zp (T:=TT) (t:=103) rfl rfl h 1 rfl rfl)
  obtain ⟨⟨a,b⟩,ha⟩:=wP2 (Zp (T:=TT) (t:=103) rfl rfl h 2 rfl rfl)
  obtain ⟨⟨c,e⟩,hc⟩:=wP2 (Zp (T:=TT) (t:=103) rfl rfl h 3 rfl rfl)
  obtain ⟨ns,hn⟩:=Ye6 (Zp (T:=TT) (t:=103) rfl rfl h 4 rfl rfl)
  have hs:[x0]=[.str s]:=hs
  have ht:[x1]=[.str t]:=ht
  have ha:[x2,x3]=[I a,I b]:=ha
  have hc:[x4,x5]=[I c,I e]:=hc
  have hn:[x6]=[.isl 1 (nl ns)]:=hn
  cases hs; cases ht; cases ha; cases hc; cases hn
  exact ⟨⟨s,t,a,b,c,e,ns⟩,rfl,hs2,ht2⟩
theorem wSea {d:Nat} {x:List AV} (h:WT TT (d+3) 124 x):∃ m:Sea,x=m.av/\okS m.nm:=by
 have h0:=(Vl (T:=TT) (t:=124) rfl rfl h).1
 have h0:x.length=4:=h0
 match x,h0 with
 | [x0,x1,x2,x3],_ =>
  obtain ⟨s,hs,hs2⟩:=wStr (Zp (T:=TT) (t:=124) rfl rfl h 0 rfl rfl)
  obtain ⟨a,b,c,ha⟩:=wP3 (Zp (T:=TT) (t:=124) rfl rfl h 1 rfl rfl)
  have hs:[x0]=[.str s]:=hs
  have ha:[x1,x2,x3]=[I a,I b,I c]:=ha
  cases hs; cases ha
  exact ⟨⟨s,a,b,c⟩,rfl,hs2⟩
theorem Zvh {α:Type} {f:α->List AV} {P:α->Prop} {Q:List AV->Prop} (hQ:∀ x,Q x->∃ m,x=f m/\P m):∀ els:List (List AV),(∀ x∈els,Q x)->∃ l:List α,els=l.map f/\∀ m∈l,P m
 | [],_=>⟨[],rfl,by simp⟩
 | e::els,h=>by
  obtain ⟨l,h1,h2⟩:=Zvh hQ els (fun x hx=>h x (by simp [hx]))
  obtain ⟨m,h3,h4⟩:=hQ e (h e (by simp))
  refine ⟨m::l,by rw [h3,h1]; rfl,fun u hu=>?_⟩
  rcases Rb.1 hu with rfl|hu
  ·exact h4
  ·exact h2 u hu
theorem Zcj {s:ByteArray} (h:Yo s=true):s.data.toList.length<100000:=by
 unfold Yo at h
 have hz:s.size=s.data.toList.length:=by simp
 simp only [Sz,decide_eq_false_iff_not] at h
 omega
def sl (l:List ByteArray):List (List AV):=l.map fun s=>[.str s]
theorem Zka (l:List ByteArray):(sl l).length=l.length:=by simp [sl]
theorem Zgt (l m:List ByteArray):sl (l++m)=sl l++sl m:=by simp [sl]
def Zgn (h:Hal):List ByteArray:=h.ws.map Wal.nm
def Zg9 (h:Hal):List ByteArray:=h.ks.map Can.nm
def surf (h:Hal):List ByteArray:=(Zgn h++[Uf,Zc0])++Zg9 h
theorem Ye5 {h:Hal} {k:Nat} (hk:k<h.ws.length):sl ((Zgn h).take (k+1))=sl ((Zgn h).take k)++[[.str h.ws[k].nm]]:=by
 have:k<(Zgn h).length:=by simp [Zgn]; exact hk
 rw [Qw this,Zgt]
 simp [Zgn,sl]
theorem Ygh {h:Hal} {k:Nat} (hk:k<h.ks.length):sl ((Zg9 h).take (k+1))=sl ((Zg9 h).take k)++[[.str h.ks[k].nm]]:=by
 have:k<(Zg9 h).length:=by simp [Zg9]; exact hk
 rw [Qw this,Zgt]
 simp [Zg9,sl]
def gv (n0:Nat) (k len:Nat):AV:=match k with
 | 0=>.nils
 | _=>.asl n0 0 len
def gz (n0 es:Nat) (k:Nat) (els:List (List AV)) (z:List (Nat × ABlk)):List (Nat × ABlk):=match k with
 | 0=>z
 | _=>(n0,.row es els true true)::z
def nm2 (a b:Nat) (k:Nat):Nat:=match k with
 | 0=>a
 | _=>b
structure Hal.fine (h:Hal):Prop where
 nms:h.names=(Ue 0 [] h.ms).2.2
 le:h.ms.length<=10/\3<=h.cs.length/\h.ws.length=h.cs.length/\h.ws.length<=12/\h.ks.length<=4/\h.ss.length<=40
 ht:2<=h.ht/\h.ht<=5000
 mats:∀ m∈h.ms,Zbm m=0
 fl:∃ m∈h.ms,m.nm=h.fl
 ce:∃ m∈h.ms,m.nm=h.ce
 bd:Zrm h.cs
 st:Za3 h.cs
 simple:Vi h=true
 area:0<Zea h
 wal:∀ i (hi:i<h.ws.length),Zgo h i h.ws[i]=0
 can:∀ i (hi:i<h.ks.length),Zhv h i h.ks[i]=0
 sea:∀ i (hi:i<h.ss.length),Zkc h i h.ss[i]=0
theorem Vv {x:Int × Int × Int} {l:List (Int × Int × Int)} (h:(Ya (x::l)).2.2=0):x.2.2=0/\(Ya l).2.2=0:=by
 rw [Ya] at h
 by_cases c:x.2.2=0
 ·rw [if_pos c] at h; exact ⟨c,h⟩
 ·rw [if_neg c] at h; exact absurd h c
theorem Zld {h:Hal} (hk:h.ok) (he:h.err=0):h.fine:=by
 have h0:(chkR h).2.2=0:=by rw [Yeu hk.f]; exact he
 unfold chkR Zhr at h0
 obtain ⟨z1,h0⟩:=Vv h0
 obtain ⟨z2,h0⟩:=Vv h0
 obtain ⟨z3,h0⟩:=Vv h0
 obtain ⟨z4,h0⟩:=Vv h0
 obtain ⟨z5,h0⟩:=Vv h0
 obtain ⟨z6,h0⟩:=Vv h0
 obtain ⟨z7,h0⟩:=Vv h0
 obtain ⟨z8,h0⟩:=Vv h0
 obtain ⟨z9,h0⟩:=Vv h0
 obtain ⟨z10,h0⟩:=Vv h0
 obtain ⟨z11,h0⟩:=Vv h0
 obtain ⟨z12,h0⟩:=Vv h0
 obtain ⟨z13,h0⟩:=Vv h0
 obtain ⟨z14,h0⟩:=Vv h0
 obtain ⟨z15,h0⟩:=Vv h0
 have z2:=within_iff.1 (Zag z2 (by decide))
 have z3:=of_decide_eq_true (Zag z3 (by decide))
 have z6:=Zag z6 (by decide)
 have z7:=of_decide_eq_true (Zag z7 (by decide))
 have z10:=Zag z10 (by decide)
 have z11:=of_decide_eq_true (Zag z11 (by decide))
 have z12:=of_decide_eq_true (Zag z12 (by decide))
 have z14:=of_decide_eq_true (Zag z14 (by decide))
 simp only [Qc,decide_eq_true_eq] at z6
 have hb:Zrm h.cs:=Zof z8
 have hwc:h.ws.length=h.cs.length:=by omega
 have hst:Za3 h.cs:=Zlq hb hwc z9
 have hfl:¬(Ye h.fl 0 h.ms<0) /\ ¬(Ye h.ce 0 h.ms<0):=by
  change Zfv h=0 at z5
  unfold Zfv at z5
  split at z5
  ·cases z5
  ·rename_i hx
   simp only [Qz,decide_eq_true_eq,not_or] at hx;exact hx
 refine ⟨rfl,⟨by omega,by omega,hwc,by omega,by omega,by omega⟩,z2,?_,?_,?_,hb,hst,?_,by rw [Zov]; exact z11,?_,?_,?_⟩
 ·intro m hm
  obtain ⟨i,hi,rfl⟩:=Oz.1 hm
  have:=Zdo (n:=h.ms.length) _ 0 rfl z4 i (Qn _) hi
  unfold Zn1 at this
  rw [Qe hi] at this
  change mErr h i h.ms[i]=0 at this
  unfold mErr at this
  unfold Zbm
  split at this
  ·split at this
   ·cases this
   ·split at this
    ·rename_i hx
     rw [if_pos (by simp only [Qc] at hx ⊢; simp [hx])]
    ·cases this
  ·cases this
 ·have:=mt (Zcp h.fl h.ms 0).2 hfl.1; exact Hk.1 this
 ·have:=mt (Zcp h.ce h.ms 0).2 hfl.2; exact Hk.1 this
 ·rw [Zoz hst (by omega) hk.f.2.1]; exact z10
 ·intro i hi
  have:=Zdo (n:=h.ws.length) _ 0 rfl z9 i (Qn _) hi
  unfold Zbz at this
  rw [Qe hi] at this
  exact this
 ·intro i hi
  have:=Zdo (n:=h.ks.length) _ 0 rfl z13 i (Qn _) hi
  unfold Zd2 at this
  rw [Qe hi] at this
  exact this
 ·intro i hi
  have:=Zdo (n:=h.ss.length) _ 0 rfl z15 i (Qn _) hi
  unfold Zdw at this
  rw [Qe hi] at this
  exact this
noncomputable def kS (h:Hal):PC:=ins 93 (one [h.av] ⟨.tup [h.av,I h.err],[]⟩) kQ2
theorem Ykk {h:Hal} (hk:h.ok):PCOK Tryz.prog (kS h):=Zd (c76 hk) Zp0
theorem c64 {h:Hal} (hk:h.ok):PCall Tryz.prog 69 [h.av] ⟨.tup [.isl 1 (sl (if h.err=0 then surf h else [])),I h.err],[]⟩:=by
 have hkS:=Ykk hk
 by_cases he:h.err=0
 ·have hfi:=Zld hk he
  obtain ⟨_,g2,g3,_⟩:=hfi.le
  have l3:=Yh h.ws
  have l4:=Xd h.ks
  obtain ⟨f1,f2,f3,f4,f5,f6⟩:=hk.f
  rw [if_pos he]
  refine Mt (res:=⟨.tup [.asl 0 0 (sl (surf h)).length,I h.err],[(1,sl (surf h))]⟩) ?_ ⟨⟨rfl,rfl,rfl⟩,⟨rfl,rfl⟩,trivial⟩
  refine pn hkS Tryz.func69 ?_
  repeat'(first|refine wk1 ?_|(refine wk2 ?_ ?_<;>intro _)|fail)
  refine Lp.ren (env2:=[(4,.ptr 1 0 0),(6,.nils),(21,.isl 3 (h.ws.map Wal.av)),(22,I (h.ws.map Wal.av).length),(23,I 0)]) (σ2:=⟨[(1,.row 9 [h.cells] true false)],3⟩) (Ren.of [] rfl (kps) (kps)) ?_
  refine Zr (S:=Nat × Int × Nat × List (List AV)) (fun t=>h.ws.length-t.1) (fun t=>[(4,.ptr 1 0 0),(6,gv 3 t.1 t.2.2.1),(21,.isl 3 (h.ws.map Wal.av)),(22,I (h.ws.map Wal.av).length),(23,I t.2.1)]) (fun t=>gz 3 1 t.1 t.2.2.2 [(1,.row 9 [h.cells] true false)]) 3 4
   (fun t=>t.2.1=t.1/\t.1<=h.ws.length/\t.2.2.1=t.2.2.2.length/\t.2.2.2=sl ((Zgn h).take t.1)) (0,0,0,[]) ⟨rfl,Qn _,rfl,rfl⟩ (Qd _) [] rfl (kps) (kps) ?_
  rintro ⟨k,i,len,els⟩ ⟨hi,hk,hlen,hels⟩
  dsimp only at hi hk hlen hels ⊢
  subst hi
  refine bs.av (sx:=nos) hkS ?_
  have e4:els.length<2000:=by rw [hels,Zka,Pi]; omega
  by_cases hlt:k<h.ws.length
  ·have e1:=Zis hlt
   have e3:=Ye5 hlt
   cases k with
   | zero =>
    repeat'(first|refine wk1 ?_|(refine wk2 ?_ ?_<;>intro _)|fail)
    exact Ql ⟨(1,_,_,_),[(3,6)],rfl,kps,kps,⟨Zg (k:=0) (by omega),hlt,rfl,e3.symm⟩,by dsimp only; omega⟩
   | succ k =>
    repeat'(first|refine wk1 ?_|(refine wk2 ?_ ?_<;>intro _)|fail)
    exact Ql ⟨(k+1+1,_,_,_),[(3,6)],rfl,kps,kps,⟨Zg (k:=k+1) (by omega),hlt,by exact List.length_append.symm,by show _=sl _; rw [e3,<-hels]; rfl⟩,by dsimp only; omega⟩
  rw [Wc (by simp [Zgn]; omega)] at hels
  cases k with
  | zero=>exfalso; omega
  | succ k =>
  repeat'(first|refine wk1 ?_|(refine wk2 ?_ ?_<;>intro _)|fail)
  clear hlt
  refine Zr (S:=Nat × Int × Nat × List (List AV)) (fun t=>h.ks.length-t.1) (fun t=>[(6,.asl (nm2 5 6 t.1) 0 t.2.2.1),(38,.isl 7 (h.ks.map Can.av)),(39,I (h.ks.map Can.av).length),(40,I t.2.1)]) (fun t=>[(nm2 5 6 t.1,.row 1 t.2.2.2 true true)]) 6 7
   (fun t=>t.2.1=t.1/\t.1<=h.ks.length/\t.2.2.1=t.2.2.2.length/\t.2.2.2=els++[[.str Uf],[.str Zc0]]++sl ((Zg9 h).take t.1)) (0,0,els.length+2,els++[[.str Uf],[.str Zc0]]) ⟨rfl,Qn _,by simp,by simp [sl]⟩ (Qd _) [] rfl (kps) (kps) ?_
  rintro ⟨k2,i,len2,els2⟩ ⟨hi,hk2,hlen2,hels2⟩
  dsimp only at hi hk2 hlen2 hels2 ⊢
  subst hi
  refine bs.av (sx:=nos) hkS ?_
  have e5:els2.length<4000:=by rw [hels2,Rr,Zka,Pi,Rr]; simp; omega
  by_cases hlt:k2<h.ks.length
  ·have e1:=Zbu hlt
   have e3:=Ygh hlt
   cases k2 with
   | zero =>
    repeat'(first|refine wk1 ?_|(refine wk2 ?_ ?_<;>intro _)|fail)
    exact Ql ⟨(1,_,_,_),[(6,9)],rfl,kps,kps,⟨Zg (k:=0) (by omega),hlt,by exact List.length_append.symm,by show _=_; rw [e3,<-Rs,<-hels2]; rfl⟩,by dsimp only; omega⟩
   | succ k2 =>
    repeat'(first|refine wk1 ?_|(refine wk2 ?_ ?_<;>intro _)|fail)
    exact Ql ⟨(k2+1+1,_,_,_),[(6,9)],rfl,kps,kps,⟨Zg (k:=k2+1) (by omega),hlt,by exact List.length_append.symm,by show _=_; rw [e3,<-Rs,<-hels2]; rfl⟩,by dsimp only; omega⟩
  rw [Wc (by simp [Zg9]; omega)] at hels2
  have hfin:els2=sl (surf h):=by rw [hels2,hels]; unfold surf; rw [Zgt,Zgt]; rfl
  subst hfin
  subst hlen2
  rw [he]
  cases k2 with
  | zero =>
   repeat'(first|refine wk1 ?_|(refine wk2 ?_ ?_<;>intro _)|fail)
   exact Yg [5] rfl rfl rfl
  | succ k2 =>
   repeat'(first|refine wk1 ?_|(refine wk2 ?_ ?_<;>intro _)|fail)
   exact Yg [6] rfl rfl rfl
 ·rw [if_neg he]
  refine Mt (res:=⟨.tup [.nils,I h.err],[]⟩) ?_ ⟨rfl,⟨rfl,rfl⟩,trivial⟩
  refine pn hkS Tryz.func69 ?_
  repeat'(first|refine wk1 ?_|(refine wk2 ?_ ?_<;>intro _)|fail)
  exact Ze rfl rfl
theorem c29 {s:Stg} (hs:s.few):PCall Tryz.prog 10 [s.av] ⟨s.av,[]⟩:=by
 have e1:=Zhq (ns:=s.hs) (by have:=hs.1; omega)
 have e2:=Zhq (ns:=s.dr) (by have:=hs.2; omega)
 refine pn Zp0 Tryz.func10 ?_
 repeat'(first|refine wk0 ?_|(refine wk2 ?_ ?_<;>intro _)|fail)
 exact Ze rfl rfl
structure SetOk (h:Hal) (s:Stg):Prop where
 len:s.hs.length=h.ks.length
 hs:∀ j (h1:j<h.ks.length) (h2:j<s.hs.length),0<=s.hs[j]/\s.hs[j]<h.ks[j].hs.length
 dr:∀ d∈s.dr,0<=d/\d<h.ws.length/\curt h d≠⟨#[]⟩
 up:s.dr.Pairwise (· < ·)
theorem Zul {h:Hal} (hf:h.few):∀ (l:List Int) (i:Nat),hgE h i l=0->∀ j (h1:i+j<h.ks.length) (h2:j<l.length),0<=l[j]/\l[j]<h.ks[i+j].hs.length
 | [],i,_,j,_,h2=>by simp at h2
 | n::l,i,h0,j,h1,h2=>by
  rw [hgE] at h0
  split at h0
  ·rename_i hw
   cases j with
   | zero =>
    have hk:i<h.ks.length:=by omega
    have hl:=hf.2.2.2.2.2 _ (Qr hk);rw [show kLen h i=(h.ks[i].hs.length:Int) by unfold kLen; rw [Qe hk],W_eq (by omega) (by omega)] at hw;have hw:=within_iff.1 hw;simp only [List.getElem_cons_zero,Nat.add_zero];omega
   | succ j =>
    have:=Zul hf l (i+1) h0 j (by omega) (by simpa using h2);simp only [List.getElem_cons_succ];have e:i+1+j=i+(j+1):=by omega
    simp only [e] at this;exact this
  ·cases h0
theorem Zuy {h:Hal} (hf:h.few):∀ (l:List Int) (p:Option Int),drE h p l=0->(∀ d∈l,(0<=d/\d<h.ws.length/\curt h d≠⟨#[]⟩)/\(∀ q,p=some q->q<d))/\l.Pairwise (· < ·)
 | [],p,_=>⟨by simp,.nil⟩
 | n::l,p,h0=>by
  rw [drE] at h0
  split at h0
  ·rename_i ho
   split at h0
   ·cases h0
   ·rename_i hn
    obtain ⟨g1,g2⟩:=Zuy hf l (some n) h0;have hl:=hf.2.2.1;unfold drOk at ho;rw [Qc,W_eq (by omega) (by omega),within_iff,Sz,Zd3,decide_eq_false_iff_not] at ho
    have hp:∀ q,p=some q->q<n:=by
     rintro q rfl;simp only [Zpm,decide_eq_true_eq] at hn;omega
    refine ⟨fun d hd=>?_,List.pairwise_cons.2 ⟨fun d hd=>(g1 d hd).2 n rfl,g2⟩⟩
    rcases Rb.1 hd with rfl|hd
    ·exact ⟨⟨by omega,by omega,ho.2⟩,hp⟩
    ·refine ⟨(g1 d hd).1,fun q hq=>?_⟩
     have:=(g1 d hd).2 n rfl;have:=hp q hq;omega
  ·cases h0
theorem Yfe {h:Hal} (hf:h.few) {s:Stg} (h0:setE h s=0):SetOk h s:=by
 unfold setE at h0
 split at h0
 ·rename_i hl
  split at h0
  ·rename_i hg
   obtain ⟨g1,g2⟩:=Zuy hf s.dr none h0;refine ⟨by omega,fun j h1 h2=>?_,fun d hd=>(g1 d hd).1,g2⟩;have:=Zul hf s.hs 0 hg j (by omega) h2;simpa using this
  ·rename_i hg; exact absurd h0 hg
 ·cases h0
def nsur (h:Hal):Int:=(h.ws.length:Int)+2+h.ks.length
def surE (h:Hal) (s:Stg) (i:Int):Int:=if serr h s=0 then (if within i 0 (nsur h-1) then 0 else 6) else serr h s
theorem c172 {h:Hal} (s:Stg):PCall Tryz.prog 190 [.agg (stgL h s)] ⟨I (h.ws.length:Int),[]⟩:=by
 have l:=Yh h.ws
 refine pn Zc Tryz.func190 ?_
 repeat'(first|refine wk0 ?_|(refine wk2 ?_ ?_<;>intro _)|fail)
 exact Za (by omega)
theorem c173 {h:Hal} (hf:h.few) (s:Stg):PCall Tryz.prog 191 [.agg (stgL h s)] ⟨I ((h.ws.length:Int)+1),[]⟩:=by
 have l:=Yh h.ws
 refine pn Zc Tryz.func191 ?_
 repeat'(first|refine wk0 ?_|(refine wk2 ?_ ?_<;>intro _)|fail)
 exact Za (by show Qa Qb (((h.ws.map Wal.av).length:Int)+1)=_; have:=hf.2.2.1; rw [W_eq (by omega) (by omega)]; omega)
theorem c84 {h:Hal} (hf:h.few) (s:Stg):PCall Tryz.prog 155 [.agg (stgL h s)] ⟨I (nsur h),[]⟩:=by
 have l:=Yh h.ws
 have l2:=Xd h.ks
 refine pn Zc Tryz.func155 ?_
 repeat'(first|refine wk0 ?_|(refine wk2 ?_ ?_<;>intro _)|fail)
 exact Za (by
  show Qa Qb (Qa Qb (((h.ws.map Wal.av).length:Int)+2)+((h.ks.map Can.av).length:Int))=_
  have:=hf.2.2.1; have:=hf.2.2.2.1; unfold nsur; rw [W_eq (n:=((h.ws.map Wal.av).length:Int)+2) (by omega) (by omega),W_eq (by omega) (by omega)]; omega)
theorem c88 {h:Hal} (hf:h.few) (i:Int):PCall Tryz.prog 87 [h.av,I i] ⟨Bo (within i 0 (nsur h-1)),[]⟩:=by
 have l:=Yh h.ws
 have l2:=Xd h.ks
 refine pn Za1 Tryz.func87 ?_
 repeat'(first|refine wk0 ?_|(refine wk2 ?_ ?_<;>intro _)|fail)
 exact Zb (by
  show within i 0 (Qa Qb (Qa Qb (((h.ws.map Wal.av).length:Int)+1)+((h.ks.map Can.av).length:Int)))=_
  have:=hf.2.2.1; have:=hf.2.2.2.1; unfold nsur; rw [W_eq (n:=((h.ws.map Wal.av).length:Int)+1) (by omega) (by omega),W_eq (by omega) (by omega)]; congr 1; omega)
noncomputable def kS1 (h:Hal) (s:Stg) (i:Int):PC:=ins 190 (one [.agg (stgL h s)] ⟨I (h.ws.length:Int),[]⟩) (ins 191 (one [.agg (stgL h s)] ⟨I ((h.ws.length:Int)+1),[]⟩) (ins 155 (one [.agg (stgL h s)] ⟨I (nsur h),[]⟩) (ins 87 (one [h.av,I i] ⟨Bo (within i 0 (nsur h-1)),[]⟩) (ins 154 (one [h.av,s.av] ⟨.tup [.agg (stgL h s),I (serr h s)],[]⟩) k93))))
theorem Yir {h:Hal} (hk:h.ok) {s:Stg} (hs:s.few) (i:Int):PCOK Tryz.prog (kS1 h s i):=Zd (c172 s) (Zd (c173 hk.f s) (Zd (c84 hk.f s) (Zd (c88 hk.f i) (Zd (c83 hk hs) Za1))))
theorem c109 {h:Hal} (hk:h.ok) {s:Stg} (hs:s.few) (i:Int):PCall Tryz.prog 122 [h.av,s.av,I i] ⟨.tup [.agg (stgL h s),I (surE h s i)],[]⟩:=by
 have hw:Qa Qb (nsur h-1)=nsur h-1:=W_eq (by have:=hk.f.2.2.1; have:=hk.f.2.2.2.1; unfold nsur; omega) (by have:=hk.f.2.2.1; have:=hk.f.2.2.2.1; unfold nsur; omega)
 refine pn (Yir hk hs i) Tryz.func122 ?_
 repeat'(first|refine wk0 ?_|(refine wk2 ?_ ?_<;>intro _)|fail)
 ·rename_i h1 h2
  have e:surE h s i=6:=by unfold surE; rw [if_pos (of_decide_eq_true h1)]; rw [hw] at h2; simp_all
  rw [e]; exact Ze rfl rfl
 ·rename_i h1 h2
  have e0:serr h s=0:=of_decide_eq_true h1
  have e:surE h s i=0:=by unfold surE; rw [if_pos e0]; rw [hw] at h2; simp_all
  rw [e,<-e0]; exact Ze rfl rfl
 ·rename_i h1
  have e:surE h s i=serr h s:=by unfold surE; rw [if_neg (of_decide_eq_false h1)]
  rw [e]; exact Ze rfl rfl
end Go.Proofs.YtfkdpbklbegnlaaGreat
