/- A part of the proof: lemmas. -/
import Derived.Test.YtanbhfpalahjcaaGreatP10
import Derived.Test.YtanbhfpalahjcaaGreatP6
import Derived.Test.YtanbhfpalahjcaaGreatP7
import Derived.Test.YtanbhfpalahjcaaGreatRows
set_option linter.unusedVariables false
set_option linter.unusedSimpArgs false
set_option maxRecDepth 100000
set_option maxHeartbeats 16000000
open Bool renaming and_eq_true->Qc,eq_false_iff->Qx,eq_iff_iff->Sk,false_eq_true->Rs,not_eq_true'->Te,or_eq_true->Rr
open Classical renaming not_not->Hq
open Function renaming comp->Di
open Go.IntKind renaming i64->Qb,wrap->Qa,wrap_i64->Wr
open Go.Proofs.YtanbhfpalahjcaaGreat.Can renaming av->Ki
open Go.Proofs.YtanbhfpalahjcaaGreat.Mat renaming av->Ni
open Go.Proofs.YtanbhfpalahjcaaGreat.Sea renaming av->Nj
open Go.Proofs.YtanbhfpalahjcaaGreat.Wal renaming av->Pi
open Go.Proofs.YtanbhfpalahjcaaGreat.Wl renaming straight->Ho
open Go.Sx.AV renaming one->Kc
open Go.Sx.Done renaming mk->Qr
open Go.Sx.LpM renaming succ->Wp
open Int renaming add_zero->Wk,ediv_emod_unique->Fx,lt_tmod_of_pos->Hb,lt_trichotomy->Wc,mul_comm->Rl,mul_neg->Rp,mul_one->Rz,mul_zero->Sc,neg_mul->Tm,neg_neg->Wu,one_mul->Sr,sub_mul->Oz,sub_self->Gv,tmod_lt_of_pos->Jz,zero_add->Pj,zero_mul->Sq
open List renaming all_eq_true->Rh,any_eq_false->Qab,drop_eq_getElem_cons->Ql,drop_of_length_le->Qo,drop_zero->Wd,getElem?_eq_getElem->Qd,getElem_mem->Qn,map_append->Ro,map_congr_left->Nd,map_cons->Sf,mem_append->Si,mem_cons->Ra,mem_iff_getElem->Jh,mem_map->Ta,mem_map_of_mem->Jq,mem_range->Rx,mem_singleton->Tt,not_mem_nil->Kx,take_of_length_le->Tg,take_succ_eq_append_getElem->Qv
open List.cons renaming injEq->Rf
open Nat renaming beq->Qs,eq_of_beq_eq_true->Qh,le_refl->Qe,sub_zero->Ou,zero_add->Sb,zero_le->Qq
namespace Go.Proofs.YtanbhfpalahjcaaGreat
open Go Go.Sx
def xorL:List Bool->Bool
 | []=>false
 | b::l=>b ^^ xorL l
theorem Zif:∀ (l m:List Bool),xorL (l++m)=(xorL l ^^ xorL m)
 | [],m=>by simp [xorL]
 | b::l,m=>by simp [xorL,Zif l m]
theorem Zie {α:Type} (a b:α->Bool):∀ l:List α,(xorL (l.map a) ^^ xorL (l.map b))=xorL (l.map fun x=>a x ^^ b x)
 | []=>rfl
 | x::l=>by
  simp only [Sf,xorL,<-Zie a b l]
  cases a x<;>cases b x<;>cases xorL (l.map a)<;>cases xorL (l.map b)<;>rfl
theorem Zsd {x y d:Int}:∀ (l:List Wl) (b:Bool),(∀ w∈l,w.has x y d=false)->inPl x y d b l=(b ^^ xorL (l.map (flips x y d)))
 | [],b,_=>by simp [inPl,xorL]
 | w::l,b,h=>by
  rw [Zn3 (h w (by simp)),Zsd l _ (fun u hu=>h u (by simp [hu]))]
  simp [xorL]
theorem Zmw (G:Nat->Bool) (n:Nat):∀ k,k<=n->xorL ((List.range k).map fun i=>G i ^^ G ((i+1)%n))=(G 0 ^^ G (k%n))
 | 0,_=>by simp [xorL]
 | k+1,h=>by
  rw [List.range_succ,Ro,Zif,Zmw G n k (by omega),Nat.mod_eq_of_lt (show k<n by omega)]
  simp only [Sf,List.map_nil,xorL]
  cases G 0<;>cases G k<;>cases G ((k+1)%n)<;>rfl
theorem tele (g:Int->Int->Bool) (cs:List (Int × Int)):xorL ((wls cs).map fun w=>g w.fx w.fy ^^ g w.tx w.ty)=false:=by
 have:=Zmw (fun i=>g (cor cs i).1 (cor cs i).2) cs.length cs.length (Qe _)
 rw [Nat.mod_self] at this
 rw [wls,List.map_map]
 have e:((fun w:Wl=>g w.fx w.fy ^^ g w.tx w.ty) ∘ wlOf cs)=fun i=>g (cor cs i).1 (cor cs i).2 ^^ g (cor cs ((i+1)%cs.length)).1 (cor cs ((i+1)%cs.length)).2:=rfl
 rw [e,this]
 simp
theorem Zf9 {w:Wl} {n sx sy x y:Int} (h:Str w n sx sy) (hp:PtOk x y 1):flips x y 1 w=true↔(w.fy<=y/\y<w.ty/\0<bes w sx sy x y 1)\/(w.ty<=y/\y<w.fy/\bes w sx sy x y 1<0):=by
 have b2:=h.b2
 have b4:=h.b4
 unfold flips
 rw [Ve h hp,Rz,Rz,W_eq (n:=w.fy) (by omega) (by omega),W_eq (n:=w.ty) (by omega) (by omega)]
 simp only [Rr,Qc,decide_eq_true_eq,Uq,Vp,and_assoc]
theorem Yed {w:Wl} {n sx sy Y:Int} {q:Rc} (h:Str w n sx sy) (hq:RcOk q) (nh:¬hit w n sx sy q) (h1:q.yl<=Y) (h2:Y<=q.yh):flips q.xl Y 1 w=flips q.xh Y 1 w:=by
 have q1:=hq.x
 have q2:=hq.y
 have q3:=hq.b1
 have q4:=hq.b2
 have q5:=hq.b3
 have q6:=hq.b4
 rw [Sk,Zf9 h (Xa (by omega) (by omega)),Zf9 h (Xa (by omega) (by omega))]
 have key:∀ t,¬(0<=t/\t<=n/\q.xl<=w.fx+t*sx/\w.fx+t*sx<=q.xh/\q.yl<=w.fy+t*sy/\w.fy+t*sy<=q.yh):=fun t ht=>nh ⟨t,ht⟩
 have hn:=h.hn
 have hxy:=h.hxy
 unfold bes
 rw [h.ty]
 have k:=key ((Y-w.fy)*sy)
 clear key nh
 rcases h.hx with rfl|rfl|rfl<;>rcases h.hy with rfl|rfl|rfl<;>(try (exact absurd ⟨rfl,rfl⟩ hxy))<;>simp only [Sc,Rz,Rp,Sq,Tm,Sr,Wu,Pj,Wk] at k ⊢ <;> omega
def inR (X Y1 Y2 x y:Int):Bool:=decide (Y1<y/\y<=Y2/\X<x)
theorem Zpd {A B C D:Prop} [Decidable A] [Decidable B] [Decidable C] [Decidable D] (h:(A↔B)↔(C↔D)):(decide A ^^ decide B)=(decide C ^^ decide D):=by
 by_cases a:A<;>by_cases b:B<;>by_cases c:C<;>by_cases d:D<;>simp_all
theorem Ycb {b:Bool} {p:Prop} [Decidable p] (h:b=true↔p):b=decide p:=by
 cases b
 ·exact (decide_eq_false (fun hp=>by simpa using h.2 hp)).symm
 ·exact (decide_eq_true (h.1 rfl)).symm
theorem Yec {w:Wl} {n sx sy:Int} {q:Rc} (h:Str w n sx sy) (hq:RcOk q) (nh:¬hit w n sx sy q):(flips q.xl q.yl 1 w ^^ flips q.xl q.yh 1 w)=(inR q.xl q.yl q.yh w.fx w.fy ^^ inR q.xl q.yl q.yh w.tx w.ty):=by
 have q1:=hq.x
 have q2:=hq.y
 have q3:=hq.b1
 have q4:=hq.b2
 have q5:=hq.b3
 have q6:=hq.b4
 rw [Ycb (Zf9 h (Xa (x:=q.xl) (y:=q.yl) (by omega) (by omega))),Ycb (Zf9 h (Xa (x:=q.xl) (y:=q.yh) (by omega) (by omega)))]
 unfold inR
 refine Zpd ?_
 have key:∀ t,¬(0<=t/\t<=n/\q.xl<=w.fx+t*sx/\w.fx+t*sx<=q.xh/\q.yl<=w.fy+t*sy/\w.fy+t*sy<=q.yh):=fun t ht=>nh ⟨t,ht⟩
 have hn:=h.hn
 have hxy:=h.hxy
 unfold bes
 rw [h.tx,h.ty]
 have k:=key ((q.xl-w.fx)*sx)
 clear key nh
 rcases h.hx with rfl|rfl|rfl<;>rcases h.hy with rfl|rfl|rfl<;>(try (exact absurd ⟨rfl,rfl⟩ hxy))<;>simp only [Sc,Rz,Rp,Sq,Tm,Sr,Wu,Pj,Wk] at k ⊢ <;> omega
def Zy4 (cs:List (Int × Int)) (q:Rc):Prop:=∀ w∈wls cs,∀ n sx sy,Str w n sx sy -> ¬hit w n sx sy q
theorem Zwb {w:Wl} {n sx sy x y:Int} {q:Rc} (h:Str w n sx sy) (hq:RcOk q) (nh:¬hit w n sx sy q) (h1:q.xl<=x) (h2:x<=q.xh) (h3:q.yl<=y) (h4:y<=q.yh):w.has x y 1=false:=by
 rw [Qx]
 intro hh
 rw [Zal h (Xa (by have:=hq.b1; have:=hq.b2; omega) (by have:=hq.b3; have:=hq.b4; omega)),Zft h] at hh
 obtain ⟨t,a,b,rfl,rfl⟩:=hh
 exact nh ⟨t,a,b,h1,h2,h3,h4⟩
theorem Zoz {h:Hal} {q:Rc} (hs:Vc h.cs) (hq:RcOk q) (nh:Zy4 h.cs q):Xn h q.xh q.yl 1=Xn h q.xl q.yl 1/\Xn h q.xl q.yh 1=Xn h q.xl q.yl 1/\Xn h q.xh q.yh 1=Xn h q.xl q.yl 1:=by
 have q1:=hq.x
 have q2:=hq.y
 have e:∀ x y,q.xl<=x->x<=q.xh->q.yl<=y->y<=q.yh->Xn h x y 1=xorL ((wls h.cs).map (flips x y 1)):=by
  intro x y h1 h2 h3 h4
  unfold Xn
  rw [Zsd _ _ (fun w hw=>by
   obtain ⟨n,sx,sy,g⟩:=Zbx hs w hw
   exact Zwb g hq (nh w hw _ _ _ g) h1 h2 h3 h4),Bool.false_xor]
 have hh:∀ Y,q.yl<=Y->Y<=q.yh->(wls h.cs).map (flips q.xh Y 1)=(wls h.cs).map (flips q.xl Y 1):=by
  intro Y h1 h2
  refine Nd fun w hw=>?_
  obtain ⟨n,sx,sy,g⟩:=Zbx hs w hw
  exact (Yed g hq (nh w hw _ _ _ g) h1 h2).symm
 have hv:(xorL ((wls h.cs).map (flips q.xl q.yl 1)) ^^ xorL ((wls h.cs).map (flips q.xl q.yh 1)))=false:=by
  rw [Zie,<-tele (inR q.xl q.yl q.yh) h.cs]
  congr 1
  refine Nd fun w hw=>?_
  obtain ⟨n,sx,sy,g⟩:=Zbx hs w hw
  exact Yec g hq (nh w hw _ _ _ g)
 rw [e q.xh q.yl (by omega) (by omega) (by omega) (by omega),e q.xl q.yl (by omega) (by omega) (by omega) (by omega),e q.xl q.yh (by omega) (by omega) (by omega) (by omega),e q.xh q.yh (by omega) (by omega) (by omega) (by omega),hh q.yl (by omega) (by omega),hh q.yh (by omega) (by omega)]
 revert hv
 cases xorL ((wls h.cs).map (flips q.xl q.yl 1))<;>cases xorL ((wls h.cs).map (flips q.xl q.yh 1))<;>simp
def E1 (c:Can):Wl:=⟨0,c.fx,c.fy,c.tx,c.fy⟩
def E2 (c:Can):Wl:=⟨0,c.tx,c.fy,c.tx,c.ty⟩
def E3 (c:Can):Wl:=⟨0,c.tx,c.ty,c.fx,c.ty⟩
def E4 (c:Can):Wl:=⟨0,c.fx,c.ty,c.fx,c.fy⟩
theorem Yae (c:Can):Zko c=(E1 c).ln:=by unfold Zko Wl.ln E1; simp only [Gv]; rfl
theorem Yad (c:Can):Zkn c=(E2 c).ln:=by unfold Zkn Wl.ln E2; simp only [Gv]; rfl
theorem Yac (c:Can):Zkm c=(E3 c).ln:=by
 unfold Zkm Wl.ln E3; simp only [Gv]
 have:Qa Qb (0-Qa Qb (c.tx-c.fx))=Qa Qb (c.fx-c.tx):=by simp only [Wr]; omega
 rw [this]; rfl
theorem Yab (c:Can):Zkl c=(E4 c).ln:=by
 unfold Zkl Wl.ln E4; simp only [Gv]
 have:Qa Qb (0-Qa Qb (c.ty-c.fy))=Qa Qb (c.fy-c.ty):=by simp only [Wr]; omega
 rw [this]; rfl
structure CanOk (c:Can):Prop where
 b1 : -5000<=c.fx/\c.fx<=5000
 b2 : -5000<=c.fy/\c.fy<=5000
 b3 : -5000<=c.tx/\c.tx<=5000
 b4 : -5000<=c.ty/\c.ty<=5000
 x:c.fx≠c.tx
 y:c.fy≠c.ty
abbrev Can.rc (c:Can):Rc:=rcOf c.fx c.fy c.tx c.ty
theorem Zpr (c:Can):(c.rc.xl=min c.fx c.tx/\c.rc.xh=max c.fx c.tx)/\(c.rc.yl=min c.fy c.ty/\c.rc.yh=max c.fy c.ty):=by
 unfold Can.rc rcOf imin imax
 refine ⟨⟨?_,?_⟩,?_,?_⟩<;>dsimp only
 ·by_cases h:c.tx<c.fx<;>simp [h]<;>omega
 ·by_cases h:c.fx<c.tx<;>simp [h]<;>omega
 ·by_cases h:c.ty<c.fy<;>simp [h]<;>omega
 ·by_cases h:c.fy<c.ty<;>simp [h]<;>omega
theorem CanOk.rcOk {c:Can} (h:CanOk c):RcOk c.rc:=by
 obtain ⟨⟨e1,e2⟩,e3,e4⟩:=Zpr c
 obtain ⟨b1,b2,b3,b4,hx,hy⟩:=h
 exact ⟨by omega,by omega,by omega,by omega,by omega,by omega⟩
theorem Zot {c:Can} (h:CanOk c):∃ m k sx sy,(sx=1\/sx = -1)/\(sy=1\/sy = -1)/\c.tx=c.fx+m*sx/\c.ty=c.fy+k*sy/\Str (E1 c) m sx 0/\Str (E2 c) k 0 sy/\Str (E3 c) m (-sx) 0/\Str (E4 c) k 0 (-sy):=by
 obtain ⟨b1,b2,b3,b4,hx,hy⟩:=h
 have hx' : c.fx<c.tx\/c.tx<c.fx:=by omega
 have hy' : c.fy<c.ty\/c.ty<c.fy:=by omega
 rcases hx' with hx' | hx'<;>rcases hy' with hy' | hy'
 ·refine ⟨c.tx-c.fx,c.ty-c.fy,1,1,.inl rfl,.inl rfl,by omega,by omega,?_,?_,?_,?_⟩<;>constructor<;>(try simp only [E1,E2,E3,E4])<;>first|omega|decide
 ·refine ⟨c.tx-c.fx,c.fy-c.ty,1,-1,.inl rfl,.inr rfl,by omega,by omega,?_,?_,?_,?_⟩<;>constructor<;>(try simp only [E1,E2,E3,E4])<;>first|omega|decide
 ·refine ⟨c.fx-c.tx,c.ty-c.fy,-1,1,.inr rfl,.inl rfl,by omega,by omega,?_,?_,?_,?_⟩<;>constructor<;>(try simp only [E1,E2,E3,E4])<;>first|omega|decide
 ·refine ⟨c.fx-c.tx,c.fy-c.ty,-1,-1,.inr rfl,.inr rfl,by omega,by omega,?_,?_,?_,?_⟩<;>constructor<;>(try simp only [E1,E2,E3,E4])<;>first|omega|decide
theorem Zsm {P:Int->Prop} (hd:∀ t,P t \/ ¬P t):∀ (k:Nat),P k->P 0\/∃ t:Int,1<=t/\t<=k/\P t /\ ¬P (t-1)
 | 0,h=>.inl h
 | k+1,h=>by
  rcases hd (k:Int) with h0|h0
  ·rcases Zsm hd k h0 with h1|⟨t,a,b,c,d⟩
   ·exact .inl h1
   ·exact .inr ⟨t,a,by omega,c,d⟩
  ·exact .inr ⟨(k:Int)+1,by omega,by omega,by simpa using h,by simpa using h0⟩
theorem Zw8 {c:Can} (hc:CanOk c) {w:Wl} {n sx sy:Int} (h:Str w n sx sy):hit w n sx sy c.rc↔((E1 c).touches w=true\/(E2 c).touches w=true\/(E3 c).touches w=true\/(E4 c).touches w=true)\/(c.rc.xl<=w.fx/\w.fx<=c.rc.xh/\c.rc.yl<=w.fy/\w.fy<=c.rc.yh) := by
  obtain ⟨⟨e1, e2⟩, e3, e4⟩ := Zpr c
  obtain ⟨m, k, ux, uy, hux, huy, hm, hk, s1, s2, s3, s4⟩ := Zot hc
  have hm0 := s1.hn
  have hk0 := s2.hn
  rw [Zbo s1 h (.inr rfl), Zbo s2 h (.inl rfl), Zbo s3 h (.inr rfl), Zbo s4 h (.inl rfl)]
  rw [e1, e2, e3, e4]
  constructor
  · rintro ⟨t, t0, t1, g1, g2, g3, g4⟩
    rw [e1] at g1; rw [e2] at g2; rw [e3] at g3; rw [e4] at g4
    have hf := Zsm (P := fun t => min c.fx c.tx<=w.fx+t*sx/\w.fx+t*sx<=max c.fx c.tx/\min c.fy c.ty<=w.fy+t*sy/\w.fy+t*sy<=max c.fy c.ty) (fun t => Classical.em _) t.toNat (by rw [Int.toNat_of_nonneg t0]; exact ⟨g1, g2, g3, g4⟩)
    rcases hf with hf|⟨u, u1, u2, ⟨f1, f2, f3, f4⟩, hn⟩
    · refine .inr ?_
      simpa using hf
    · refine .inl ?_
      have hb:w.fx+u*sx=c.fx\/w.fx+u*sx=c.tx\/w.fy+u*sy=c.fy\/w.fy+u*sy=c.ty := by
        rw [Oz, Oz] at hn
        have hx := h.hx
        have hy := h.hy
        generalize u*sx=U at *
        generalize u*sy=V at *
        omega
      unfold common
      rcases hb with hb|hb|hb|hb
      · refine .inr (.inr (.inr ⟨u, (c.ty-(w.fy+u*sy))*uy, by omega, by omega, ?_, ?_, ?_, ?_⟩))<;>(try simp only [E4])<;>generalize u*sx=U at * <;> generalize u*sy=V at * <;> rcases huy with rfl|rfl<;>simp only [Sc, Rz, Rp, Wu, Wk] at * <;> omega
      · refine .inr (.inl ⟨u, ((w.fy+u*sy)-c.fy)*uy, by omega, by omega, ?_, ?_, ?_, ?_⟩)<;>(try simp only [E2])<;>generalize u*sx=U at * <;> generalize u*sy=V at * <;> rcases huy with rfl|rfl<;>simp only [Sc, Rz, Rp, Wu, Wk] at * <;> omega
      · refine .inl ⟨u, ((w.fx+u*sx)-c.fx)*ux, by omega, by omega, ?_, ?_, ?_, ?_⟩<;>(try simp only [E1])<;>generalize u*sx=U at * <;> generalize u*sy=V at * <;> rcases hux with rfl|rfl<;>simp only [Sc, Rz, Rp, Wu, Wk] at * <;> omega
      · refine .inr (.inr (.inl ⟨u, (c.tx-(w.fx+u*sx))*ux, by omega, by omega, ?_, ?_, ?_, ?_⟩))<;>(try simp only [E3])<;>generalize u*sx=U at * <;> generalize u*sy=V at * <;> rcases hux with rfl|rfl<;>simp only [Sc, Rz, Rp, Wu, Wk] at * <;> omega
  · rintro ((⟨t, s, t0, t1, s0, s1, c1, c2⟩|⟨t, s, t0, t1, s0, s1, c1, c2⟩|⟨t, s, t0, t1, s0, s1, c1, c2⟩|⟨t, s, t0, t1, s0, s1, c1, c2⟩)|hc)
    all_goals first
      | (refine ⟨t, t0, t1, ?_⟩
         rw [e1, e2, e3, e4]
         simp only [E1, E2, E3, E4] at c1 c2
         rw [c1, c2]
         rcases hux with rfl|rfl<;>rcases huy with rfl|rfl<;>simp only [Sc, Rz, Rp, Wu, Wk] at * <;> omega)
      | (refine ⟨0, by omega, by have := h.hn; omega, ?_⟩
         rw [e1, e2, e3, e4]
         simpa using hc)
theorem Zn4 {c:Can} (hc:CanOk c) (x y:Int):Zh2 c ⟨x,y,0,1⟩=true↔(c.rc.xl<=x/\x<=c.rc.xh)/\(c.rc.yl<=y/\y<=c.rc.yh):=by
 have q:=hc.rcOk
 have q1:=q.x
 have q2:=q.y
 have q3:=q.b1
 have q4:=q.b2
 have q5:=q.b3
 have q6:=q.b4
 unfold Zh2
 show (within x (Qa Qb (c.rc.xl*1)) (Qa Qb (c.rc.xh*1))&&within y (Qa Qb (c.rc.yl*1)) (Qa Qb (c.rc.yh*1)))=true↔_
 rw [Rz,Rz,Rz,Rz,W_eq (n:=c.rc.xl) (by omega) (by omega),W_eq (n:=c.rc.xh) (by omega) (by omega),W_eq (n:=c.rc.yl) (by omega) (by omega),W_eq (n:=c.rc.yh) (by omega) (by omega),Qc,within_iff,within_iff]
theorem Zjz (h:Hal):∀ l:List Ln,Xe h l=true↔∀ e∈l,Yb h e.a=true/\Xz h e=false
 | []=>by simp [Xe]
 | e::l=>by
  rw [Xe]
  have ih:=Zjz h l
  cases h1:Yb h e.a<;>cases h2:Xz h e<;>simp [h1,h2,ih]
theorem Yc0 {h:Hal} {c:Can} (hs:Vc h.cs) (hc:CanOk c):Zfd h c.rc=Zdl h c:=by
 have hq:=hc.rcOk
 have q1:=hq.x
 have q2:=hq.y
 have q3:=hq.b1
 have q4:=hq.b2
 have q5:=hq.b3
 have q6:=hq.b4
 obtain ⟨⟨e1,e2⟩,e3,e4⟩:=Zpr c
 obtain ⟨m,k,ux,uy,hux,huy,hm,hk,s1,s2,s3,s4⟩:=Zot hc
 have hA:(Zfd h c.rc=true)↔Zy4 h.cs c.rc/\Xn h c.rc.xl c.rc.yl 1=true:=by
  unfold Zfd Zy4
  rw [Qc,Rh]
  refine and_congr ⟨fun hh w hw n sx sy g hit=>?_,fun hh w hw=>?_⟩ Iff.rfl
  ·have:=hh w hw
   rw [(Znq g hq).2 hit] at this
   cases this
  ·obtain ⟨n,sx,sy,g⟩:=Zbx hs w hw
   have:=hh w hw n sx sy g
   rw [<-Znq g hq] at this
   simpa using this
 have tch:∀ (e:Wl) {m ex ey:Int},Str e m ex ey->(Xz h e.ln=false↔∀ w∈wls h.cs,e.touches w=false):=by
  intro e m ex ey g
  unfold Xz
  rw [Ybn,List.any_map,Qab]
  refine ⟨fun hh w hw=>?_,fun hh w hw=>?_⟩
  ·obtain ⟨n,sx,sy,gw⟩:=Zbx hs w hw
   have:=hh w hw
   rw [Di,<-Zgy g gw] at this
   simpa using this
  ·obtain ⟨n,sx,sy,gw⟩:=Zbx hs w hw
   rw [Di,<-Zgy g gw]
   simpa using hh w hw
 have bnd:((h.cs.any fun p=>Zh2 c ⟨p.1,p.2,0,1⟩)=false)↔∀ w∈wls h.cs,¬(c.rc.xl<=w.fx/\w.fx<=c.rc.xh/\c.rc.yl<=w.fy/\w.fy<=c.rc.yh):=by
  rw [Qab]
  refine ⟨fun hh w hw hin=>?_,fun hh p hp hin=>?_⟩
  ·simp only [wls,Ta,Rx] at hw
   obtain ⟨i,hi,rfl⟩:=hw
   refine hh (cor h.cs i) (by rw [Zqp hi]; exact Qn hi) ?_
   rw [Zn4 hc]
   exact ⟨⟨hin.1,hin.2.1⟩,hin.2.2.1,hin.2.2.2⟩
  ·rw [Zn4 hc] at hin
   obtain ⟨i,hi,rfl⟩:=Jh.1 hp
   refine hh (wlOf h.cs i) (by simp only [wls,Ta,Rx]; exact ⟨i,hi,rfl⟩) ?_
   simp only [wlOf,Zqp hi]
   exact ⟨hin.1.1,hin.1.2,hin.2.1,hin.2.2⟩
 have hB:Zdl h c=true↔Zy4 h.cs c.rc/\(Xn h c.fx c.fy 1=true/\Xn h c.tx c.fy 1=true/\Xn h c.tx c.ty 1=true/\Xn h c.fx c.ty 1=true):=by
  unfold Zdl edges
  rw [Qc,Zjz,Te,bnd,Yae,Yad,Yac,Yab]
  simp only [Ra,Kx,or_false,forall_eq_or_imp,forall_eq]
  rw [tch _ s1,tch _ s2,tch _ s3,tch _ s4]
  have p1:Yb h (E1 c).ln.a=Xn h c.fx c.fy 1:=(Ui hs 0 (Xa hc.b1 hc.b2)).symm
  have p2:Yb h (E2 c).ln.a=Xn h c.tx c.fy 1:=(Ui hs 0 (Xa hc.b3 hc.b2)).symm
  have p3:Yb h (E3 c).ln.a=Xn h c.tx c.ty 1:=(Ui hs 0 (Xa hc.b3 hc.b4)).symm
  have p4:Yb h (E4 c).ln.a=Xn h c.fx c.ty 1:=(Ui hs 0 (Xa hc.b1 hc.b4)).symm
  rw [p1,p2,p3,p4]
  unfold Zy4
  constructor
  ·rintro ⟨⟨⟨a1,b1⟩,⟨a2,b2⟩,⟨a3,b3⟩,⟨a4,b4⟩⟩,b5⟩
   refine ⟨fun w hw n sx sy g hh=>?_,a1,a2,a3,a4⟩
   rw [Zw8 hc g] at hh
   rcases hh with (hh|hh|hh|hh)|hh
   ·rw [b1 w hw] at hh; cases hh
   ·rw [b2 w hw] at hh; cases hh
   ·rw [b3 w hw] at hh; cases hh
   ·rw [b4 w hw] at hh; cases hh
   ·exact b5 w hw hh
  ·rintro ⟨nh,a1,a2,a3,a4⟩
   have key:∀ w∈wls h.cs,¬(((E1 c).touches w=true\/(E2 c).touches w=true\/(E3 c).touches w=true\/(E4 c).touches w=true)\/(c.rc.xl<=w.fx/\w.fx<=c.rc.xh/\c.rc.yl<=w.fy/\w.fy<=c.rc.yh)):=by
    intro w hw hh
    obtain ⟨n,sx,sy,g⟩:=Zbx hs w hw
    exact nh w hw n sx sy g ((Zw8 hc g).2 hh)
   refine ⟨⟨⟨a1,fun w hw=>?_⟩,⟨a2,fun w hw=>?_⟩,⟨a3,fun w hw=>?_⟩,⟨a4,fun w hw=>?_⟩⟩,fun w hw hh=>key w hw (.inr hh)⟩
   ·rw [Qx]; exact fun hh=>key w hw (.inl (.inl hh))
   ·rw [Qx]; exact fun hh=>key w hw (.inl (.inr (.inl hh)))
   ·rw [Qx]; exact fun hh=>key w hw (.inl (.inr (.inr (.inl hh))))
   ·rw [Qx]; exact fun hh=>key w hw (.inl (.inr (.inr (.inr hh))))
 rw [Sk,hA,hB]
 refine and_congr_right fun nh=>?_
 obtain ⟨g1,g2,g3⟩:=Zoz hs hq nh
 have hx:(c.fx=c.rc.xl/\c.tx=c.rc.xh)\/(c.fx=c.rc.xh/\c.tx=c.rc.xl):=by omega
 have hy:(c.fy=c.rc.yl/\c.ty=c.rc.yh)\/(c.fy=c.rc.yh/\c.ty=c.rc.yl):=by omega
 rcases hx with ⟨x1,x2⟩|⟨x1,x2⟩<;>rcases hy with ⟨y1,y2⟩|⟨y1,y2⟩<;>rw [x1,x2,y1,y2]<;>simp only [g1,g2,g3,and_self]
def fIx (f:Nat->Int):Nat->Nat->Int × Int
 | _,0=>(0,0)
 | k,m+1=>if f k=0 then fIx f (k+1) m else (k,f k)
theorem Uk {f:Nat->Int} {k n:Nat} (h:k<n):fIx f k (n-k)=if f k=0 then fIx f (k+1) (n-(k+1)) else (k,f k):=by
 rw [show n-k=(n-(k+1))+1 by omega]; rfl
theorem Zbz {f:Nat->Int} {k n:Nat} (h:n<=k):fIx f k (n-k)=(0,0):=by rw [show n-k=0 by omega]; rfl
def mErr (h:Hal) (i:Nat) (m:Mat):Int:=if Xj m.nm then (if decide (Xb m.nm 0 h.ms<(i:Int)) then 5 else if (thou m.a&&(thou m.b&&(thou m.c&&thou m.d)))&&thou m.sc then 0 else 2) else 4
def Zma (h:Hal) (i:Nat):Int:=match h.ms[i]? with
 | some m=>mErr h i m
 | none=>0
def Zgg (h:Hal) (i:Nat):Int:=if plc (cor h.cs i).1&&plc (cor h.cs i).2 then 0 else 2
def Zbk (h:Hal) (i:Nat):Int:=match h.ws[i]? with
 | some w=>Zgv h i w
 | none=>0
def Zc5 (h:Hal) (i:Nat):Int:=match h.ks[i]? with
 | some w=>Zh5 h i w
 | none=>0
def Zcz (h:Hal) (i:Nat):Int:=match h.ss[i]? with
 | some w=>Ziy h i w
 | none=>0
def Zey (h:Hal):Int:=if decide (Xb h.fl 0 h.ms<0)||decide (Xb h.ce 0 h.ms<0) then 6 else 0
def Zgh (h:Hal):List (Int × Int × Int) :=
  [(0, 0, unl (Xj h.nm) 4), (0, 0, unl (within h.ht 2 5000) 2), (0, 0, unl (decide ((h.ms.length:Int)<=10)) 8), (1, fIx (Zma h) 0 h.ms.length), (0, 0, Zey h), (0, 0, unl (decide (3<=(h.cs.length:Int))&&decide ((h.ws.length:Int)=h.cs.length)) 10),
   (0, 0, unl (decide ((h.ws.length:Int)<=12)) 8), (2, fIx (Zgg h) 0 h.cs.length), (3, fIx (Zbk h) 0 h.ws.length), (0, 0, unl (Zdd h.cs) 24), (0, 0, unl (decide (0<Zil h.cs)) 9), (0, 0, unl (decide ((h.ks.length:Int)<=4)) 8), (4, fIx (Zc5 h) 0 h.ks.length),
   (0, 0, unl (decide ((h.ss.length:Int)<=40)) 8), (5, fIx (Zcz h) 0 h.ss.length)]
def chkR (h:Hal):Int × Int × Int:=Zv (Zgh h)
theorem Zg2 {X x:Int × Int × Int} {l:List (Int × Int × Int)} {σ:St} {a b e:Int} (hE:X=Zv (x::l)) (hx:x=(a,b,e)) (he:e≠0):Ret ⟨chkV X,[]⟩ (.tup [.agg [I a,I b],I e]) σ:=by
 subst hx
 rw [hE,Zv,if_neg he]
 exact Zg rfl rfl
theorem Xw {X x:Int × Int × Int} {l:List (Int × Int × Int)} (hE:X=Zv (x::l)) (hx:x.2.2=0):X=Zv l:=by rw [hE,Zv,if_pos hx]
theorem Zfk {b:Bool} {e:Int} (h:b=true):unl b e=0:=by rw [h]; rfl
theorem Zkb {b:Bool} {e:Int} (h:b=false):unl b e=e:=by rw [h]; rfl
theorem Zmn {h:Hal} {r:Nat->PRes} {n k:Nat} (hk:k<n):fam (fun k=>[h.av,I (k:Int)]) r n [h.av,I (k:Int)]=some (r k) :=
 Zxn (g:=fun k=>[h.av,I (k:Int)]) (r:=r) (fun j hj=>by
  simp only [Rf,AV.int.injEq,Int.natCast_inj,true_and,and_true] at hj
  rw [hj]) hk
theorem Zc3 {X:Int × Int × Int} {M T:Int × Int} {c k e:Int} {l:List (Int × Int × Int)} {σ:St} (hE:X=Zv ((c,M)::l)) (hh:(if e=0 then T else (k,e))=M) (he:e≠0):Ret ⟨chkV X,[]⟩ (.tup [.agg [I c,I k],I e]) σ:=by
 rw [if_neg he] at hh
 subst hh
 exact Zg2 hE rfl he
abbrev E65 (l:List (Nat × AV)):Env:=(1,.ptr 0 0 0)::(2,.ptr 1 0 0)::(3,I 0)::l
abbrev Z65 (h:Hal):List (Nat × ABlk):=[(1,.row 2 [[I 0,I 0]] true false),(0,.row 9 [h.cells] true false)]
def sx65:FuncId->Bool:=fun f=>Qs f 108||Qs f 109
theorem Zbe (s:ByteArray):∀ l:List ByteArray,Vx s l=true↔s∈l
 | []=>by simp [Vx]
 | a::l=>by rw [Vx,Rr,Zbe s l,Ze2,decide_eq_true_eq,Ra]
theorem Zeh (s a:ByteArray) (l:List ByteArray):s∈addK a l↔s=a\/s∈l:=by
 unfold addK
 cases h:Vx a l with
 | true =>
  have:=(Zbe a l).1 h
  constructor
  ·exact .inr
  ·rintro (rfl|h)
   ·exact this
   ·exact h
 | false=>simp [or_comm]
theorem Zr0 (s:ByteArray):∀ (l:List Mat) (i:Nat),Xb s i l = -1\/(i:Int)<=Xb s i l
 | [],i=>.inl rfl
 | m::l,i=>by
  rw [Xb]
  split
  ·exact .inr (by omega)
  ·rcases Zr0 s l (i+1) with h|h
   ·exact .inl h
   ·exact .inr (by omega)
theorem Zdq (s:ByteArray):∀ (l:List Mat) (i:Nat),Xb s i l<0 ↔ ¬∃ m∈l,m.nm=s
 | [],i=>by simp [Xb]
 | m::l,i=>by
  rw [Xb,Ze2]
  by_cases h:m.nm=s
  ·simp [h]
  ·simp only [h,decide_false,Rs,if_false]
   rw [Zdq s l (i+1)]
   simp [h]
theorem Zrz (s:ByteArray):∀ (l:List Mat) (i k:Nat),(∃ m∈l,m.nm=s)->(Xb s i l<((i+k:Nat):Int)↔∃ m∈l.take k,m.nm=s)
 | [],i,k,h=>by simp at h
 | m::l,i,0,h=>by
  rw [Xb]
  split
  ·simp
  ·rename_i hx
   rw [Ze2,decide_eq_true_eq] at hx
   have h1:∃ m∈l,m.nm=s:=by
    obtain ⟨u,hu,e⟩:=h
    rcases Ra.1 hu with rfl|hu
    ·exact absurd e hx
    ·exact ⟨u,hu,e⟩
   have h2:=mt (Zdq s l (i+1)).1 (by simpa using h1)
   have h3:=Zr0 s l (i+1)
   simp
   omega
 | m::l,i,k+1,h=>by
  rw [Xb,Ze2]
  by_cases hx:m.nm=s
  ·simp [hx]; omega
  ·have h1:∃ m∈l,m.nm=s:=by
    obtain ⟨u,hu,e⟩:=h
    rcases Ra.1 hu with rfl|hu
    ·exact absurd e hx
    ·exact ⟨u,hu,e⟩
   have:=Zrz s l (i+1) k h1
   simp only [hx,decide_false,Rs,if_false]
   rw [show i+(k+1)=i+1+k by omega,this]
   simp [hx]
theorem Znr (h:Hal) (n:Nat) (hn:n=h.ms.length):∀ (m k:Nat) (ns:List ByteArray),m=n-k->k<=n->(∀ s,s∈ns↔∃ u∈h.ms.take k,u.nm=s) ->
  ((Vu k ns (h.ms.drop k)).1,(Vu k ns (h.ms.drop k)).2.1)=fIx (Zma h) k (n-k)/\((Vu k ns (h.ms.drop k)).2.1=0->∀ s,s∈(Vu k ns (h.ms.drop k)).2.2↔∃ u∈h.ms,u.nm=s)
 | 0,k,ns,hm,hk,hs=>by
  have:k=n:=by omega
  rw [Zbz (by omega),Qo (by omega)]
  refine ⟨rfl,fun _ s=>?_⟩
  rw [Vu,hs s,Tg (by omega)]
 | m+1,k,ns,hm,hk,hs=>by
  have hlt:k<h.ms.length:=by omega
  rw [Uk (by omega:k<n),Ql hlt,Vu]
  have e1:Zma h k=mErr h k h.ms[k]:=by unfold Zma; rw [Qd hlt]
  have e2:mErr h k h.ms[k]=if Yc h.ms[k].nm ns=0 then Zb7 h.ms[k] else Yc h.ms[k].nm ns:=by
   unfold mErr Yc
   rw [Zcc]
   cases Uh h.ms[k].nm with
   | false=>simp
   | true =>
    have h1:(Xb h.ms[k].nm 0 h.ms<(k:Int))↔Vx h.ms[k].nm ns=true:=by
     have:=Zrz h.ms[k].nm h.ms 0 k ⟨h.ms[k],Qn hlt,rfl⟩
     rw [Sb] at this
     rw [this,Zbe,hs]
    rw [show decide (Xb h.ms[k].nm 0 h.ms<(k:Int))=Vx h.ms[k].nm ns by rw [Sk,decide_eq_true_eq,h1]]
    cases Vx h.ms[k].nm ns with
    | true=>simp
    | false =>
     simp only [if_true,Rs,if_false,Zb7]
     cases thou h.ms[k].a<;>cases thou h.ms[k].b<;>cases thou h.ms[k].c<;>cases thou h.ms[k].d<;>cases thou h.ms[k].sc<;>rfl
  rw [e1,e2]
  by_cases c1:Yc h.ms[k].nm ns=0
  ·rw [if_pos c1,if_pos c1]
   by_cases c2:Zb7 h.ms[k]=0
   ·rw [if_pos c2,if_pos c2]
    refine Znr h n hn m (k+1) _ (by omega) (by omega) fun s=>?_
    rw [Zeh,hs,Qv hlt]
    simp only [Si,Tt]
    constructor
    ·rintro (rfl|⟨u,hu,e⟩)
     ·exact ⟨_,.inr rfl,rfl⟩
     ·exact ⟨u,.inl hu,e⟩
    ·rintro ⟨u,hu|rfl,e⟩
     ·exact .inr ⟨u,hu,e⟩
     ·exact .inl e.symm
   ·rw [if_neg c2,if_neg c2]
    exact ⟨rfl,fun hh=>absurd hh c2⟩
  ·rw [if_neg c1,if_neg c1,if_neg c1]
   exact ⟨rfl,fun hh=>absurd hh c1⟩
theorem Vz (x:Int):small x 5000=plc x:=by
 unfold small plc
 rw [show IntKind.i64.wrap (0-5000) = -5000 by decide]
theorem Zoy (h:Hal) (n:Nat) (hn:n=h.cs.length):∀ (m k:Nat),m=n-k->k<=n->Zhc k (h.cs.drop k)=fIx (Zgg h) k (n-k)
 | 0,k,hm,hk=>by
  rw [Zbz (by omega),Qo (by omega)]; rfl
 | m+1,k,hm,hk=>by
  have hlt:k<h.cs.length:=by omega
  rw [Uk (by omega:k<n),Ql hlt,Zhc]
  have e1:Zgg h k=if Zhb h.cs[k].1 h.cs[k].2 then 0 else 2:=by
   unfold Zgg Zhb
   rw [Zqp hlt,Vz,Vz]
  rw [e1]
  have ih:=Zoy h n hn m (k+1) (by omega) (by omega)
  cases Zhb h.cs[k].1 h.cs[k].2
  ·simp
  ·simpa using ih
theorem Zcs {f:Nat->Int} {n:Nat}:∀ (m k:Nat),m=n-k->(fIx f k (n-k)).2=0->∀ i,k<=i->i<n->f i=0
 | 0,k,hm,h,i,h1,h2=>by omega
 | m+1,k,hm,h,i,h1,h2=>by
  rw [Uk (by omega:k<n)] at h
  by_cases c:f k=0
  ·rw [if_pos c] at h
   by_cases e:i=k
   ·subst e; exact c
   ·exact Zcs m (k+1) (by omega) h i (by omega) h2
  ·rw [if_neg c] at h
   exact absurd h c
def Zpb (cs:List (Int × Int)):Prop:=∀ i,i<cs.length->(-5000<=(cor cs i).1/\(cor cs i).1<=5000)/\(-5000<=(cor cs i).2/\(cor cs i).2<=5000)
theorem Zms {h:Hal} (hz:(fIx (Zgg h) 0 h.cs.length).2=0):Zpb h.cs:=by
 intro i hi
 have:=Zcs (n:=h.cs.length) _ 0 rfl hz i (Qq _) hi
 unfold Zgg at this
 have h1:(plc (cor h.cs i).1&&plc (cor h.cs i).2)=true:=by
  cases hq:(plc (cor h.cs i).1&&plc (cor h.cs i).2)
  ·rw [hq] at this; simp at this
  ·rfl
 rw [Qc] at h1
 exact ⟨within_iff.1 h1.1,within_iff.1 h1.2⟩
theorem Zs9 {cs:List (Int × Int)} (hb:Zpb cs) {i:Nat} (hi:i<cs.length):((-5000<=(wlOf cs i).fx/\(wlOf cs i).fx<=5000)/\(-5000<=(wlOf cs i).fy/\(wlOf cs i).fy<=5000))/\((-5000<=(wlOf cs i).tx/\(wlOf cs i).tx<=5000)/\(-5000<=(wlOf cs i).ty/\(wlOf cs i).ty<=5000)) :=
 ⟨hb i hi,hb _ (Nat.mod_lt _ (by omega))⟩
theorem Zvc {n:Int} (h : -10000<=n/\n<=10000):size n=if n<0 then -n else n:=Zlx (by omega)
theorem Zns {w:Wl} (h1:(-5000<=w.fx/\w.fx<=5000)/\(-5000<=w.fy/\w.fy<=5000)) (h2:(-5000<=w.tx/\w.tx<=5000)/\(-5000<=w.ty/\w.ty<=5000)):Zdr w=Zcp w.ln:=by
 unfold Zdr Zcp Ho Wl.dx Wl.dy Wl.ln
 dsimp only
 rw [W_eq (n:=w.tx-w.fx) (by omega) (by omega),W_eq (n:=w.ty-w.fy) (by omega) (by omega)]
 have e1:decide (w.fx=w.tx)=decide (w.tx-w.fx=0):=by rw [decide_eq_decide]; omega
 have e2:decide (w.fy=w.ty)=decide (w.ty-w.fy=0):=by rw [decide_eq_decide]; omega
 rw [e1,e2]
 cases decide (w.tx-w.fx=0)<;>cases decide (w.ty-w.fy=0)<;>cases decide (size (w.tx-w.fx)=size (w.ty-w.fy))<;>rfl
theorem Ye3 {w:Wl} (h1:(-5000<=w.fx/\w.fx<=5000)/\(-5000<=w.fy/\w.fy<=5000)) (h2:(-5000<=w.tx/\w.tx<=5000)/\(-5000<=w.ty/\w.ty<=5000)) (hz:Zdr w=0):∃ n sx sy,Str w n sx sy:=by
 unfold Zdr Ho Wl.dx Wl.dy at hz
 rw [W_eq (n:=w.tx-w.fx) (by omega) (by omega),W_eq (n:=w.ty-w.fy) (by omega) (by omega),Zvc (by omega),Zvc (by omega)] at hz
 have g1:¬(w.fx=w.tx/\w.fy=w.ty):=by
  rintro ⟨a,b⟩
  rw [decide_eq_true a,decide_eq_true b] at hz
  simp at hz
 have g2:w.tx-w.fx=0\/w.ty-w.fy=0\/w.tx-w.fx=w.ty-w.fy\/w.tx-w.fx = -(w.ty-w.fy):=by
  have g3:(decide (w.fx=w.tx)&&decide (w.fy=w.ty))=false:=by
   rw [Qx]; intro hq; simp only [Qc,decide_eq_true_eq] at hq; exact g1 hq
  rw [g3] at hz
  simp only [Rs,if_false] at hz
  have g4:(decide (w.tx-w.fx=0)||decide (w.ty-w.fy=0)||decide ((if w.tx-w.fx<0 then -(w.tx-w.fx) else w.tx-w.fx)=if w.ty-w.fy<0 then -(w.ty-w.fy) else w.ty-w.fy))=true:=by
   cases hq:(decide (w.tx-w.fx=0)||decide (w.ty-w.fy=0)||decide ((if w.tx-w.fx<0 then -(w.tx-w.fx) else w.tx-w.fx)=if w.ty-w.fy<0 then -(w.ty-w.fy) else w.ty-w.fy))
   ·rw [hq] at hz; simp at hz
   ·rfl
  simp only [Rr,decide_eq_true_eq] at g4
  omega
 obtain ⟨⟨b1,b2⟩,b3,b4⟩:=h1
 rcases Wc (w.tx-w.fx) 0 with c1|c1|c1<;>rcases Wc (w.ty-w.fy) 0 with c2|c2|c2
 ·exact ⟨w.fx-w.tx,-1,-1,by omega,by omega,by omega,by omega,by omega,by omega,by omega,by omega,by omega,by omega⟩
 ·exact ⟨w.fx-w.tx,-1,0,by omega,by omega,by omega,by omega,by omega,by omega,by omega,by omega,by omega,by omega⟩
 ·exact ⟨w.fx-w.tx,-1,1,by omega,by omega,by omega,by omega,by omega,by omega,by omega,by omega,by omega,by omega⟩
 ·exact ⟨w.fy-w.ty,0,-1,by omega,by omega,by omega,by omega,by omega,by omega,by omega,by omega,by omega,by omega⟩
 ·exact absurd ⟨by omega,by omega⟩ g1
 ·exact ⟨w.ty-w.fy,0,1,by omega,by omega,by omega,by omega,by omega,by omega,by omega,by omega,by omega,by omega⟩
 ·exact ⟨w.tx-w.fx,1,-1,by omega,by omega,by omega,by omega,by omega,by omega,by omega,by omega,by omega,by omega⟩
 ·exact ⟨w.tx-w.fx,1,0,by omega,by omega,by omega,by omega,by omega,by omega,by omega,by omega,by omega,by omega⟩
 ·exact ⟨w.tx-w.fx,1,1,by omega,by omega,by omega,by omega,by omega,by omega,by omega,by omega,by omega,by omega⟩
theorem Ztc {h:Hal} {i:Nat} {w:Wal} (hz:Zgv h i w=0):Zcp (lnOf h.cs i)=0:=by
 unfold Zgv at hz
 split at hz
 ·split at hz
  ·cases hz
  ·split at hz
   ·cases hz
   ·split at hz
    ·cases hz
    ·exact hz
 ·cases hz
theorem Zj8 {h:Hal} (hb:Zpb h.cs) (hwc:h.ws.length=h.cs.length) (hz:(fIx (Zbk h) 0 h.ws.length).2=0):Vc h.cs:=by
 intro i hi
 have h1:=Zcs (n:=h.ws.length) _ 0 rfl hz i (Qq _) (by omega)
 unfold Zbk at h1
 rw [Qd (by omega)] at h1
 have h2:=Ztc h1
 rw [Zfb,<-Zns (Zs9 hb hi).1 (Zs9 hb hi).2] at h2
 exact Ye3 (Zs9 hb hi).1 (Zs9 hb hi).2 h2
theorem Yfw {h:Hal} (hs:Vc h.cs):h.nz:=by
 intro k hk
 obtain ⟨n,sx,sy,g⟩:=hs k hk
 rw [Zfb,g.ln.2.2.1]
 have:=g.hn
 omega
theorem Zs5 {α:Type} {f:α->ByteArray} {l:List α} {s:ByteArray}:(l.any fun v=>f v==s)=true↔∃ u∈l,f u=s:=by
 rw [List.any_eq_true]
 simp only [Ze2,decide_eq_true_eq]
theorem Zjj {h:Hal} {ms:List ByteArray} (hms:∀ s,s∈ms↔∃ u∈h.ms,u.nm=s) (s:ByteArray):Vx s ms = !decide (Xb s 0 h.ms<0):=by
 rw [Sk,Zbe,hms,Te,decide_eq_false_iff_not,Zdq,Hq]
theorem Zmx (h:Hal) (n:Nat) (hn:n=h.ws.length) (hwc:h.ws.length=h.cs.length) (hb:Zpb h.cs) {ms:List ByteArray} (hms:∀ s,s∈ms↔∃ u∈h.ms,u.nm=s):∀ (m k:Nat) (ns:List ByteArray),m=n-k->k<=n->(∀ s,s∈ns↔(s=Zae\/s=Zdz)\/∃ u∈h.ws.take k,u.nm=s) ->
  ((Zc6 h.cs ms k ns (h.ws.drop k)).1,(Zc6 h.cs ms k ns (h.ws.drop k)).2.1)=fIx (Zbk h) k (n-k)/\((Zc6 h.cs ms k ns (h.ws.drop k)).2.1=0->∀ s,s∈(Zc6 h.cs ms k ns (h.ws.drop k)).2.2↔(s=Zae\/s=Zdz)\/∃ u∈h.ws,u.nm=s)
 | 0,k,ns,hm,hk,hs=>by
  rw [Zbz (by omega),Qo (by omega)]
  refine ⟨rfl,fun _ s=>?_⟩
  rw [Zc6,hs s,Tg (by omega)]
 | m+1,k,ns,hm,hk,hs=>by
  have hlt:k<h.ws.length:=by omega
  rw [Uk (by omega:k<n),Ql hlt,Zc6]
  have e1:Zbk h k=Zgv h k h.ws[k]:=by unfold Zbk; rw [Qd hlt]
  have e2:Zgv h k h.ws[k]=if Yc h.ws[k].nm ns=0 then wErr h.cs ms k h.ws[k] else Yc h.ws[k].nm ns:=by
   unfold Zgv Yc
   rw [Zcc]
   cases Uh h.ws[k].nm with
   | false=>simp
   | true =>
    have h1:Vx h.ws[k].nm ns=(((h.ws[k].nm==Zae)||(h.ws[k].nm==Zdz))||(h.ws.take k).any fun v=>v.nm==h.ws[k].nm):=by
     rw [Sk,Zbe,hs,Rr,Rr,Zs5,Ze2,Ze2,decide_eq_true_eq,decide_eq_true_eq]
    rw [h1]
    have h2:wErr h.cs ms k h.ws[k]=if decide (Xb h.ws[k].mt 0 h.ms<0)||(!(h.ws[k].cu==⟨#[]⟩)&&decide (Xb h.ws[k].cu 0 h.ms<0)) then 6 else Zcp (lnOf h.cs k):=by
     unfold wErr Zux
     rw [Zjj hms,Zjj hms,Zfb,<-Zns (Zs9 hb (by omega)).1 (Zs9 hb (by omega)).2]
     cases decide (Xb h.ws[k].mt 0 h.ms<0)<;>cases (h.ws[k].cu==⟨#[]⟩)<;>cases decide (Xb h.ws[k].cu 0 h.ms<0)<;>rfl
    rw [<-h2]
    cases (h.ws.take k).any (fun v=>v.nm==h.ws[k].nm)<;>cases (h.ws[k].nm==Zae)<;>cases (h.ws[k].nm==Zdz)<;>rfl
  rw [e1,e2]
  by_cases c1:Yc h.ws[k].nm ns=0
  ·rw [if_pos c1,if_pos c1]
   by_cases c2:wErr h.cs ms k h.ws[k]=0
   ·rw [if_pos c2,if_pos c2]
    refine Zmx h n hn hwc hb hms m (k+1) _ (by omega) (by omega) fun s=>?_
    rw [Zeh,hs,Qv hlt]
    simp only [Si,Tt]
    constructor
    ·rintro (rfl|hl|⟨u,hu,e⟩)
     ·exact .inr ⟨_,.inr rfl,rfl⟩
     ·exact .inl hl
     ·exact .inr ⟨u,.inl hu,e⟩
    ·rintro (hl|⟨u,hu|rfl,e⟩)
     ·exact .inr (.inl hl)
     ·exact .inr (.inr ⟨u,hu,e⟩)
     ·exact .inl e.symm
   ·rw [if_neg c2,if_neg c2]
    exact ⟨rfl,fun hh=>absurd hh c2⟩
  ·rw [if_neg c1,if_neg c1,if_neg c1]
   exact ⟨rfl,fun hh=>absurd hh c1⟩
theorem Yah {h:Hal} (hs:Vc h.cs) (c:Can):Zgl h c=if within c.hs.length 1 4 then (if Zdv h.ht none c.hs=0 then (if plc c.fx&&plc c.fy&&plc c.tx&&plc c.ty then (if decide (c.fx=c.tx)||decide (c.fy=c.ty) then 11 else if Zdl h c then 0 else 24) else 2) else Zdv h.ht none c.hs) else 10:=by
 unfold Zgl
 have e:(if Zhb c.fx c.fy&&Zhb c.tx c.ty then (if decide (c.fx=c.tx)||decide (c.fy=c.ty) then 11 else unl (Zfd h (rcOf c.fx c.fy c.tx c.ty)) 24) else 2)=if plc c.fx&&plc c.fy&&plc c.tx&&plc c.ty then (if decide (c.fx=c.tx)||decide (c.fy=c.ty) then 11 else if Zdl h c then (0:Int) else 24) else 2:=by
  unfold Zhb
  rw [Vz,Vz,Vz,Vz,<-Bool.and_assoc]
  by_cases hp:(plc c.fx&&plc c.fy&&plc c.tx&&plc c.ty)=true
  ·rw [if_pos hp,if_pos hp]
   by_cases hd:(decide (c.fx=c.tx)||decide (c.fy=c.ty))=true
   ·rw [if_pos hd,if_pos hd]
   ·rw [if_neg hd,if_neg hd]
    simp only [Qc] at hp
    simp only [Rr,decide_eq_true_eq,not_or] at hd
    rw [show rcOf c.fx c.fy c.tx c.ty=c.rc from rfl,Yc0 hs ⟨within_iff.1 hp.1.1.1,within_iff.1 hp.1.1.2,within_iff.1 hp.1.2,within_iff.1 hp.2,hd.1,hd.2⟩]
    cases Zdl h c<;>rfl
  ·rw [if_neg hp,if_neg hp]
 rw [e]
theorem Zo2 (h:Hal) (n:Nat) (hn:n=h.ks.length) (hst:Vc h.cs) {ms:List ByteArray} (hms:∀ s,s∈ms↔∃ u∈h.ms,u.nm=s):∀ (m k:Nat) (ns:List ByteArray),m=n-k->k<=n->(∀ s,s∈ns↔((s=Zae\/s=Zdz)\/∃ u∈h.ws,u.nm=s)\/∃ u∈h.ks.take k,u.nm=s) ->
  ((Zgk h ms k ns (h.ks.drop k)).1,(Zgk h ms k ns (h.ks.drop k)).2.1)=fIx (Zc5 h) k (n-k)
 | 0,k,ns,hm,hk,hs=>by
  rw [Zbz (by omega),Qo (by omega)]; rfl
 | m+1,k,ns,hm,hk,hs=>by
  have hlt:k<h.ks.length:=by omega
  rw [Uk (by omega:k<n),Ql hlt,Zgk]
  have e1:Zc5 h k=Zh5 h k h.ks[k]:=by unfold Zc5; rw [Qd hlt]
  have e2:Zh5 h k h.ks[k]=if Yc h.ks[k].nm ns=0 then cErr h ms h.ks[k] else Yc h.ks[k].nm ns:=by
   unfold Zh5 Yc
   rw [Zcc]
   cases Uh h.ks[k].nm with
   | false=>simp
   | true =>
    have h1:Vx h.ks[k].nm ns=((((h.ks[k].nm==Zae)||(h.ks[k].nm==Zdz))||(h.ws.any fun v=>v.nm==h.ks[k].nm))||(h.ks.take k).any fun v=>v.nm==h.ks[k].nm):=by
     rw [Sk,Zbe,hs,Rr,Rr,Rr,Zs5,Zs5,Ze2,Ze2,decide_eq_true_eq,decide_eq_true_eq]
    rw [h1]
    unfold cErr
    rw [Zjj hms,<-Yah hst]
    cases (h.ks.take k).any (fun v=>v.nm==h.ks[k].nm)<;>cases (h.ws.any fun v=>v.nm==h.ks[k].nm)<;>cases (h.ks[k].nm==Zae)<;>cases (h.ks[k].nm==Zdz)<;>cases decide (Xb h.ks[k].mt 0 h.ms<0)<;>rfl
  rw [e1,e2]
  by_cases c1:Yc h.ks[k].nm ns=0
  ·rw [if_pos c1,if_pos c1]
   by_cases c2:cErr h ms h.ks[k]=0
   ·rw [if_pos c2,if_pos c2]
    refine Zo2 h n hn hst hms m (k+1) _ (by omega) (by omega) fun s=>?_
    rw [Zeh,hs,Qv hlt]
    simp only [Si,Tt]
    constructor
    ·rintro (rfl|hl|⟨u,hu,e⟩)
     ·exact .inr ⟨_,.inr rfl,rfl⟩
     ·exact .inl hl
     ·exact .inr ⟨u,.inl hu,e⟩
    ·rintro (hl|⟨u,hu|rfl,e⟩)
     ·exact .inr (.inl hl)
     ·exact .inr (.inr ⟨u,hu,e⟩)
     ·exact .inl e.symm
   ·rw [if_neg c2,if_neg c2]
  ·rw [if_neg c1,if_neg c1,if_neg c1]
theorem Zzi {h:Hal} (hst:Vc h.cs) (x y z:Int):Zl4 h x y z=if plc x&&plc y&&plc z then (if Zbs h ⟨x,y,z,1⟩ then 0 else 24) else 2:=by
 unfold Zl4
 rw [Vz,Vz,Vz]
 by_cases hp:(plc x&&plc y&&plc z)=true
 ·rw [if_pos hp,if_pos hp]
  simp only [Qc] at hp
  unfold Zt7 Zbs
  rw [Ui hst z (Xa (within_iff.1 hp.1.1) (within_iff.1 hp.1.2))]
 ·rw [if_neg hp,if_neg hp]
theorem Zm8 (h:Hal) (n:Nat) (hn:n=h.ss.length) (hst:Vc h.cs):∀ (m k:Nat) (ns:List ByteArray),m=n-k->k<=n->(∀ s,s∈ns↔∃ u∈h.ss.take k,u.nm=s) ->
  ((Ze4 h k ns (h.ss.drop k)).1,(Ze4 h k ns (h.ss.drop k)).2.1)=fIx (Zcz h) k (n-k)
 | 0,k,ns,hm,hk,hs=>by
  rw [Zbz (by omega),Qo (by omega)]; rfl
 | m+1,k,ns,hm,hk,hs=>by
  have hlt:k<h.ss.length:=by omega
  rw [Uk (by omega:k<n),Ql hlt,Ze4]
  have e1:Zcz h k=Ziy h k h.ss[k]:=by unfold Zcz; rw [Qd hlt]
  have e2:Ziy h k h.ss[k]=if Yc h.ss[k].nm ns=0 then Zl4 h h.ss[k].x h.ss[k].y h.ss[k].z else Yc h.ss[k].nm ns:=by
   unfold Ziy Yc
   rw [Zcc,<-Zzi hst]
   cases Uh h.ss[k].nm with
   | false=>simp
   | true =>
    have h1:Vx h.ss[k].nm ns=(h.ss.take k).any fun v=>v.nm==h.ss[k].nm:=by
     rw [Sk,Zbe,hs,Zs5]
    rw [h1]
    cases (h.ss.take k).any (fun v=>v.nm==h.ss[k].nm)<;>rfl
  rw [e1,e2]
  by_cases c1:Yc h.ss[k].nm ns=0
  ·rw [if_pos c1,if_pos c1]
   by_cases c2:Zl4 h h.ss[k].x h.ss[k].y h.ss[k].z=0
   ·rw [if_pos c2,if_pos c2]
    refine Zm8 h n hn hst m (k+1) _ (by omega) (by omega) fun s=>?_
    rw [Zeh,hs,Qv hlt]
    simp only [Si,Tt]
    constructor
    ·rintro (rfl|⟨u,hu,e⟩)
     ·exact ⟨_,.inr rfl,rfl⟩
     ·exact ⟨u,.inl hu,e⟩
    ·rintro ⟨u,hu|rfl,e⟩
     ·exact .inr ⟨u,hu,e⟩
     ·exact .inl e.symm
   ·rw [if_neg c2,if_neg c2]
  ·rw [if_neg c1,if_neg c1,if_neg c1]
theorem Vr {x y:Int × Int × Int} {l m:List (Int × Int × Int)} (h:x=y) (hl:y.2.2=0->Zv l=Zv m):Zv (x::l)=Zv (y::m):=by
 subst h
 rw [Zv,Zv]
 by_cases c:x.2.2=0
 ·rw [if_pos c,if_pos c,hl c]
 ·rw [if_neg c,if_neg c]
theorem Ycf {h:Hal} (hf:h.few):chkR h=chk h:=by
 unfold chkR Zgh chk Zye
 refine Vr (by rw [Zcc]; rfl) fun _=>Vr rfl fun _=>Vr rfl fun _=>?_
 obtain ⟨m1,m2⟩:=Znr h h.ms.length rfl _ 0 [] rfl (Qq _) (fun s=>by simp)
 rw [Wd,Ou] at m1
 rw [Wd] at m2
 refine Vr (by rw [<-m1]) fun z1=>?_
 have hms:=m2 z1
 refine Vr ?_ fun _=>Vr rfl fun z2=>Vr rfl fun _=>?_
 ·unfold Zey Zkj Hal.names
  rw [Zjj hms,Zjj hms]
  cases decide (Xb h.fl 0 h.ms<0)<;>cases decide (Xb h.ce 0 h.ms<0)<;>rfl
 have hwc:3<=h.cs.length/\h.ws.length=h.cs.length:=by
  have:=Vy z2 (by decide)
  simp only [set7,Qc,decide_eq_true_eq] at this
  omega
 have c1:=Zoy h h.cs.length rfl _ 0 rfl (Qq _)
 rw [Wd,Ou] at c1
 refine Vr (by rw [c1]) fun z3=>?_
 have hb:Zpb h.cs:=Zms (by rw [c1] at z3; exact z3)
 obtain ⟨w1,w2⟩:=Zmx h h.ws.length rfl hwc.2 hb hms _ 0 su0 rfl (Qq _) (fun s=>by
  rw [su0,Zeh,Zeh]; simp [or_comm])
 rw [Wd,Ou] at w1
 rw [Wd] at w2
 refine Vr (by rw [<-w1]; rfl) fun z4=>?_
 have hst:Vc h.cs:=Zj8 hb hwc.2 (by rw [<-w1]; exact z4)
 refine Vr (by rw [Zm6 hst hwc.1 hf.2.1]) fun _=>Vr (by rw [Zm2]) fun _=>Vr rfl fun _=>?_
 have k1:=Zo2 h h.ks.length rfl hst hms _ 0 h.wal.2.2 rfl (Qq _) (fun s=>by
  have:=w2 z4 s
  rw [show h.wal.2.2=(Zc6 h.cs h.names 0 su0 h.ws).2.2 from rfl]
  simp only [List.take_zero,Kx,false_and,exists_false,or_false]
  exact this)
 rw [Wd,Ou] at k1
 refine Vr (by rw [<-k1]; rfl) fun _=>Vr rfl fun _=>?_
 have s1:=Zm8 h h.ss.length rfl hst _ 0 [] rfl (Qq _) (fun s=>by simp)
 rw [Wd,Ou] at s1
 exact Vr (by rw [<-s1]) fun _=>rfl
theorem c65 {h:Hal} (hf:h.few) (ht:h.texts):PCall Tryz.prog 64 [h.av] ⟨chkV (chkR h),[]⟩:=by
 have hk7:=Zr4 hf
 have e0:chkR h=Zv (Zgh h):=rfl
 have ha:=Zch (res:=⟨Bo (Xj h.nm),[]⟩) ht.nm
 have l1:=Zdp h.ms
 have l2:(h.cs.map pt).length=h.cs.length:=by simp
 have l3:=Uz h.ws
 have l4:=Zd0 h.ks
 have l5:=Zdg h.ss
 generalize chkR h=X at *
 unfold Zgh at e0
 refine bs.pv (sx:=sx65) hk7 Tryz.func64 (by kernel_rfl) (by kernel_rfl) rfl ?_
 repeat'(first|refine wk0 ?_|(refine wk2 ?_ ?_<;>intro _)|fail)
 ·rename_i hx
  exact Zg2 e0 (by rw [Zkb (by simpa using hx)]) (by decide)
 ·rename_i h1 hx
  exact Zg2 (Xw e0 (Zfk (by simpa using h1))) (by rw [Zkb (by simpa using hx)]) (by decide)
 ·rename_i h1 h2 hx
  exact Zg2 (Xw (Xw e0 (Zfk (by simpa using h1))) (Zfk (by simpa using h2))) (by rw [Zkb (by rw [l1] at hx; simpa using hx)]) (by decide)
 rename_i h1 h2 h3
 have e3:=Xw (Xw (Xw e0 (Zfk (by simpa using h1))) (Zfk (by simpa using h2))) (Zfk (by rw [l1] at h3; simpa using h3))
 clear e0 h1 h2 h3 ha
 generalize hM:fIx (Zma h) 0 h.ms.length=M at e3
 refine Zn (S:=Nat × Int) (fun t=>h.ms.length-t.1) (fun t=>E65 [(4,I t.2)]) (fun _=>Z65 h) 2 2 (fun t=>t.2=t.1/\t.1<=h.ms.length/\fIx (Zma h) t.1 (h.ms.length-t.1)=M) (0,0) ⟨rfl,Qq _,hM⟩ (Qe _) [] rfl (kps) (kps) ?_
 clear hM
 rintro ⟨k,i⟩ ⟨hi,hk,hh⟩
 dsimp only at hi hk hh ⊢
 subst hi
 by_cases hlt:k<h.ms.length
 ·have e1:=Zry hlt
  have hs:=ht.ms _ (Qn hlt)
  rw [Uk hlt] at hh
  have hq:Zma h k=mErr h k h.ms[k]:=by unfold Zma; rw [Qd hlt]
  rw [hq] at hh
  clear hq
  generalize h.ms[k]=m at *
  have ha:=Zch (res:=⟨Bo (Xj m.nm),[]⟩) hs
  have hm:=Zed h m.nm
  refine bs.av (sx:=nos) hk7 ?_
  repeat'(first|refine wk1 ?_|(refine wk2 ?_ ?_<;>intro _)|fail)
  ·have hv:mErr h k m=4:=by clear hh e3 e1 hm hk7; simp_all [mErr]
   rw [hv] at hh; exact Zc3 e3 hh (by decide)
  ·have hv:mErr h k m=5:=by clear hh e3 e1 hm hk7; simp_all [mErr]
   rw [hv] at hh; exact Zc3 e3 hh (by decide)
  rename_i n1 n2
  have hv:mErr h k m=if (thou m.a&&(thou m.b&&(thou m.c&&thou m.d)))&&thou m.sc then 0 else 2:=by unfold mErr; rw [show Xj m.nm=true by simpa using n1,n2]; rfl
  rw [hv] at hh
  clear hv n1 n2
  refine LpM.start 5 ?_
  refine Wp (bs.av (sx:=nos) hk7 ?_)
  repeat'(first|refine wk1 ?_|(refine wk2 ?_ ?_<;>intro _)|fail)
  ·rename_i hx; rw [show thou m.a=false by unfold thou; simpa using hx] at hh; exact Zc3 (e:=2) e3 hh (by decide)
  rename_i hx; rw [show thou m.a=true by unfold thou; simpa using hx] at hh; clear hx
  refine Wp (bs.av (sx:=nos) hk7 ?_)
  repeat'(first|refine wk1 ?_|(refine wk2 ?_ ?_<;>intro _)|fail)
  ·rename_i hx; rw [show thou m.b=false by unfold thou; simpa using hx] at hh; exact Zc3 (e:=2) e3 hh (by decide)
  rename_i hx; rw [show thou m.b=true by unfold thou; simpa using hx] at hh; clear hx
  refine Wp (bs.av (sx:=nos) hk7 ?_)
  repeat'(first|refine wk1 ?_|(refine wk2 ?_ ?_<;>intro _)|fail)
  ·rename_i hx; rw [show thou m.c=false by unfold thou; simpa using hx] at hh; exact Zc3 (e:=2) e3 hh (by decide)
  rename_i hx; rw [show thou m.c=true by unfold thou; simpa using hx] at hh; clear hx
  refine Wp (bs.av (sx:=nos) hk7 ?_)
  repeat'(first|refine wk1 ?_|(refine wk2 ?_ ?_<;>intro _)|fail)
  ·rename_i hx; rw [show thou m.d=false by unfold thou; simpa using hx] at hh; exact Zc3 (e:=2) e3 hh (by decide)
  rename_i hx; rw [show thou m.d=true by unfold thou; simpa using hx] at hh; clear hx
  refine Wp (bs.av (sx:=nos) hk7 ?_)
  repeat'(first|refine wk1 ?_|(refine wk2 ?_ ?_<;>intro _)|fail)
  ·rename_i hx; rw [show thou m.sc=false by unfold thou; simpa using hx] at hh; exact Zc3 (e:=2) e3 hh (by decide)
  rename_i hx; rw [show thou m.sc=true by unfold thou; simpa using hx] at hh
  exact Qr ⟨(k+1,_),[],rfl,kps,kps,⟨Zb (by have:=hf.1; omega),hlt,hh⟩,by dsimp only; omega⟩
 rw [Zbz (by omega)] at hh
 have e4:=Xw e3 (by rw [<-hh])
 clear e3 hh
 have hm1:=Zed h h.fl
 have hm2:=Zed h h.ce
 refine bs.av (sx:=nos) hk7 ?_
 repeat'(first|refine wk1 ?_|(refine wk2 ?_ ?_<;>intro _)|fail)
 ·rename_i hx
  refine Zg2 e4 (by unfold Zey; simp_all; done) (by decide)
 ·rename_i h0 hx
  refine Zg2 e4 (by unfold Zey; simp_all; done) (by decide)
 ·rename_i h0 h1 hx
  exact Zg2 (Xw e4 (by unfold Zey; rw [h0,show decide (Xb h.ce 0 h.ms<0)=false by simpa using h1]; rfl)) (by rw [l2] at hx; rw [Zkb (by have:=of_decide_eq_true hx; rw [decide_eq_false (by omega)]; rfl)]) (by decide)
 ·rename_i h0 h1 h2 hx
  exact Zg2 (Xw e4 (by unfold Zey; rw [h0,show decide (Xb h.ce 0 h.ms<0)=false by simpa using h1]; rfl)) (by rw [l3,l2] at hx; rw [Zkb (by rw [show decide ((h.ws.length:Int)=h.cs.length)=false by simpa using hx]; simp)]) (by decide)
 ·rename_i h0 h1 h2 h3 hx
  have e5:=Xw e4 (by unfold Zey; rw [h0,show decide (Xb h.ce 0 h.ms<0)=false by simpa using h1]; rfl)
  have e6:=Xw e5 (Zfk (by rw [l2] at h2; rw [l3,l2] at h3; have:=of_decide_eq_false h2; rw [decide_eq_true (by omega),show decide ((h.ws.length:Int)=h.cs.length)=true by simpa using h3]; rfl))
  exact Zg2 e6 (by rw [l3] at hx; have:=of_decide_eq_true hx; rw [Zkb (by rw [decide_eq_false (by omega)])]) (by decide)
 rename_i h0 h1 h2 h3 h4
 have e5:=Xw e4 (by unfold Zey; rw [h0,show decide (Xb h.ce 0 h.ms<0)=false by simpa using h1]; rfl)
 have hwc:h.ws.length=h.cs.length:=by
  rw [l3,l2] at h3; have:((h.ws.length:Int)=h.cs.length):=by simpa using h3
  omega
 have e6:=Xw e5 (Zfk (by rw [l2] at h2; have:=of_decide_eq_false h2; rw [decide_eq_true (by omega),decide_eq_true (by omega)]; rfl))
 have e7:=Xw e6 (Zfk (by rw [l3] at h4; have:=of_decide_eq_false h4; rw [decide_eq_true (by omega)]))
 clear e4 e5 e6 h0 h1 h2 h3 h4 hm1 hm2 hlt hk
 generalize hM:fIx (Zgg h) 0 h.cs.length=M at e7
 refine Zn (S:=Nat × Int) (fun t=>h.cs.length-t.1) (fun t=>E65 [(7,I t.2)]) (fun _=>Z65 h) 2 2 (fun t=>t.2=t.1/\t.1<=h.cs.length/\fIx (Zgg h) t.1 (h.cs.length-t.1)=M) (0,0) ⟨rfl,Qq _,hM⟩ (Qe _) [] rfl (kps) (kps) ?_
 rintro ⟨k,i⟩ ⟨hi,hk,hh⟩
 dsimp only at hi hk hh ⊢
 subst hi
 by_cases hlt:k<h.cs.length
 ·clear hM
  have e1:=Zc4 hlt
  rw [Uk hlt] at hh
  refine bs.av (sx:=nos) hk7 ?_
  unfold Zgg at hh
  generalize cor h.cs k=q at *
  have hv:∀ b c,plc q.1=b->plc q.2=c->(if plc q.1&&plc q.2 then (0:Int) else 2)=if b&&c then 0 else 2:=fun b c h1 h2=>by rw [h1,h2]
  unfold plc at hh hv
  repeat'(first|refine wk1 ?_|(refine wk2 ?_ ?_<;>intro _)|fail)
  ·rename_i hx
   rw [hv false _ (by simpa using hx) rfl] at hh; exact Zc3 (e:=2) e7 hh (by decide)
  ·rename_i h1 hx
   rw [hv true false (by simpa using h1) (by simpa using hx)] at hh; exact Zc3 (e:=2) e7 hh (by decide)
  ·rename_i h1 hx
   rw [hv true true (by simpa using h1) (by simpa using hx)] at hh
   exact Qr ⟨(k+1,_),[],rfl,kps,kps,⟨Zb (by have:=hf.2.1; omega),hlt,hh⟩,by dsimp only; omega⟩
 rw [Zbz (by omega)] at hh
 have hb:Zpb h.cs:=Zms (by rw [hM,<-hh])
 have e8:=Xw e7 (by rw [<-hh])
 clear e7 hh hM
 refine bs.av (sx:=nos) hk7 ?_
 repeat'(first|refine wk1 ?_|(refine wk2 ?_ ?_<;>intro _)|fail)
 have hkw:PCOK Tryz.prog (ins 107 (fam (fun k=>[h.av,I (k:Int)]) (fun k=>⟨I (Zbk h k),[]⟩) h.ws.length) (kR7 h)):=Zsn (fun k hk=>by
  have:=c164 hf ht hwc hk
  rw [show Zbk h k=Zgv h k h.ws[k] by unfold Zbk; rw [Qd hk]]
  exact this) hk7
 clear hlt hk
 generalize hM:fIx (Zbk h) 0 h.ws.length=M at e8
 refine Zn (S:=Nat × Int) (fun t=>h.ws.length-t.1) (fun t=>E65 [(8,I t.2)]) (fun _=>Z65 h) 2 2 (fun t=>t.2=t.1/\t.1<=h.ws.length/\fIx (Zbk h) t.1 (h.ws.length-t.1)=M) (0,0) ⟨rfl,Qq _,hM⟩ (Qe _) [] rfl (kps) (kps) ?_
 rintro ⟨k,i⟩ ⟨hi,hk,hh⟩
 dsimp only at hi hk hh ⊢
 subst hi
 by_cases hlt:k<h.ws.length
 ·clear hM
  have e1:=Zmn (h:=h) (r:=fun k=>⟨I (Zbk h k),[]⟩) hlt
  rw [Uk hlt] at hh
  refine bs.av (sx:=nos) hkw ?_
  try dsimp only at e1
  generalize Zbk h k=E at *
  repeat'(first|refine wk1 ?_|(refine wk2 ?_ ?_<;>intro _)|fail)
  ·rename_i hx
   exact Zc3 e8 hh (by simpa using hx)
  ·rename_i hx
   rw [if_pos (by simpa using hx)] at hh
   exact Qr ⟨(k+1,_),[],rfl,kps,kps,⟨Zb (by have:=hf.2.2.1; omega),hlt,hh⟩,by dsimp only; omega⟩
 rw [Zbz (by omega)] at hh
 have hst:Vc h.cs:=Zj8 hb hwc (by rw [hM,<-hh])
 have hz:h.nz:=Yfw hst
 have e9:=Xw e8 (by rw [<-hh])
 clear e8 hh hM hkw hb
 refine bs.av (sx:=sx65) hk7 ?_
 repeat'(first|refine wk1 ?_|(refine wk2 ?_ ?_<;>intro _)|fail)
 clear hlt hk
 refine SCt.pc (c165 hf hwc hz) (by kernel_rfl) ?_
 repeat'(first|refine wk1 ?_|(refine wk2 ?_ ?_<;>intro _)|fail)
 ·rename_i hx
  exact Zg2 e9 (by rw [Zkb (by simpa using hx)]) (by decide)
 rename_i hx
 have e10:=Xw e9 (Zfk (by simpa using hx))
 clear e9 hx
 refine SCt.pc (c46 hf) (by kernel_rfl) ?_
 repeat'(first|refine wk1 ?_|(refine wk2 ?_ ?_<;>intro _)|fail)
 ·rename_i hx
  exact Zg2 e10 (by rw [Zkb (by have:=of_decide_eq_true hx; rw [decide_eq_false (by omega)])]) (by decide)
 ·rename_i h1 hx
  exact Zg2 (Xw e10 (Zfk (by have:=of_decide_eq_false h1; rw [decide_eq_true (by omega)]))) (by rw [l4] at hx; have:=of_decide_eq_true hx; rw [Zkb (by rw [decide_eq_false (by omega)])]) (by decide)
 rename_i h1 h2
 have e11:=Xw (Xw e10 (Zfk (by have:=of_decide_eq_false h1; rw [decide_eq_true (by omega)]))) (Zfk (by rw [l4] at h2; have:=of_decide_eq_false h2; rw [decide_eq_true (by omega)]))
 clear e10 h1 h2
 have hkw:PCOK Tryz.prog (ins 110 (fam (fun k=>[h.av,I (k:Int)]) (fun k=>⟨I (Zc5 h k),[]⟩) h.ks.length) (kR7 h)):=Zsn (fun k hk=>by
  have:=c166 hf ht hwc hz hk
  rw [show Zc5 h k=Zh5 h k h.ks[k] by unfold Zc5; rw [Qd hk]]
  exact this) hk7
 generalize hM:fIx (Zc5 h) 0 h.ks.length=M at e11
 refine Zn (S:=Nat × Int) (fun t=>h.ks.length-t.1) (fun t=>E65 [(10,I t.2)]) (fun _=>Z65 h) 2 2 (fun t=>t.2=t.1/\t.1<=h.ks.length/\fIx (Zc5 h) t.1 (h.ks.length-t.1)=M) (0,0) ⟨rfl,Qq _,hM⟩ (Qe _) [] rfl (kps) (kps) ?_
 clear hM
 rintro ⟨k,i⟩ ⟨hi,hk,hh⟩
 dsimp only at hi hk hh ⊢
 subst hi
 by_cases hlt:k<h.ks.length
 ·have e1:=Zmn (h:=h) (r:=fun k=>⟨I (Zc5 h k),[]⟩) hlt
  rw [Uk hlt] at hh
  refine bs.av (sx:=nos) hkw ?_
  try dsimp only at e1
  generalize Zc5 h k=E at *
  repeat'(first|refine wk1 ?_|(refine wk2 ?_ ?_<;>intro _)|fail)
  ·rename_i hx
   exact Zc3 e11 hh (by simpa using hx)
  ·rename_i hx
   rw [if_pos (by simpa using hx)] at hh
   exact Qr ⟨(k+1,_),[],rfl,kps,kps,⟨Zb (by have:=hf.2.2.2.1; omega),hlt,hh⟩,by dsimp only; omega⟩
 rw [Zbz (by omega)] at hh
 have e12:=Xw e11 (by rw [<-hh])
 clear e11 hh hkw
 refine bs.av (sx:=nos) hk7 ?_
 repeat'(first|refine wk1 ?_|(refine wk2 ?_ ?_<;>intro _)|fail)
 ·rename_i hx
  exact Zg2 e12 (by rw [l5] at hx; have:=of_decide_eq_true hx; rw [Zkb (by rw [decide_eq_false (by omega)])]) (by decide)
 clear hlt hk
 rename_i h1
 have e13:=Xw e12 (Zfk (by rw [l5] at h1; have:=of_decide_eq_false h1; rw [decide_eq_true (by omega)]))
 clear e12 h1
 have hkw:PCOK Tryz.prog (ins 111 (fam (fun k=>[h.av,I (k:Int)]) (fun k=>⟨I (Zcz h k),[]⟩) h.ss.length) (kR7 h)):=Zsn (fun k hk=>by
  have:=c167 hf ht hwc hz hk
  rw [show Zcz h k=Ziy h k h.ss[k] by unfold Zcz; rw [Qd hk]]
  exact this) hk7
 generalize hM:fIx (Zcz h) 0 h.ss.length=M at e13
 refine Zn (S:=Nat × Int) (fun t=>h.ss.length-t.1) (fun t=>E65 [(12,I t.2)]) (fun _=>Z65 h) 2 2 (fun t=>t.2=t.1/\t.1<=h.ss.length/\fIx (Zcz h) t.1 (h.ss.length-t.1)=M) (0,0) ⟨rfl,Qq _,hM⟩ (Qe _) [] rfl (kps) (kps) ?_
 clear hM
 rintro ⟨k,i⟩ ⟨hi,hk,hh⟩
 dsimp only at hi hk hh ⊢
 subst hi
 by_cases hlt:k<h.ss.length
 ·have e1:=Zmn (h:=h) (r:=fun k=>⟨I (Zcz h k),[]⟩) hlt
  rw [Uk hlt] at hh
  refine bs.av (sx:=nos) hkw ?_
  try dsimp only at e1
  generalize Zcz h k=E at *
  repeat'(first|refine wk1 ?_|(refine wk2 ?_ ?_<;>intro _)|fail)
  ·rename_i hx
   exact Zc3 e13 hh (by simpa using hx)
  ·rename_i hx
   rw [if_pos (by simpa using hx)] at hh
   exact Qr ⟨(k+1,_),[],rfl,kps,kps,⟨Zb (by have:=hf.2.2.2.2.1; omega),hlt,hh⟩,by dsimp only; omega⟩
 rw [Zbz (by omega)] at hh
 have e14:=Xw e13 (by rw [<-hh])
 clear e13 hh hkw
 refine bs.av (sx:=nos) hk7 ?_
 repeat'(first|refine wk1 ?_|(refine wk2 ?_ ?_<;>intro _)|fail)
 subst e14
 exact Zg rfl rfl
def kQ1:PC:=pt0
theorem Ygh:PCOK Tryz.prog kQ1:=Ze
def Yn (s:ByteArray):Bool:=!decide ((20:Int)<(s.size:Int))
def fewM (m:Mat):Bool:=Yn m.nm
def fewW (w:Wal):Bool:=Yn w.nm&&Yn w.mt&&Yn w.cu
def fewC (c:Can):Bool:=Yn c.nm&&Yn c.mt && !decide ((6:Int)<(c.hs.length:Int))
def fewS (s:Sea):Bool:=Yn s.nm
theorem Znm (ns:List Int):Xr (nl ns)=true:=by simp [Xr,nl,Kc]
theorem c25 (ns:List Int) (hl:ns.length<100000):PCall Tryz.prog 23 [.isl 1 (nl ns)] ⟨.asl 0 0 (nl ns).length,[(1,nl ns)]⟩:=by
 have h1:=Znm ns
 have h2:=Yv ns
 refine pn Ze Tryz.func23 ?_
 repeat'(first|refine wk0 ?_|(refine wk2 ?_ ?_<;>intro _)|fail)
 refine Yk [1] rfl ?_ rfl
 show AV.asl 1 0 (0+(nl ns).length)=AV.asl 1 0 (nl ns).length
 rw [Sb]
theorem c25f (ns:List Int) (hl:ns.length<100000):PCall Tryz.prog 23 [.isl 1 (nl ns)] ⟨.isl 1 (nl ns),[]⟩:=(c25 ns hl).freeze ⟨rfl,rfl,rfl⟩
theorem Zv7 (l:List Mat):Xr (l.map Ni)=true:=by simp [Xr,Kc]
theorem Zv8 (l:List (Int × Int)):Xr (l.map pt)=true:=by simp [Xr,Kc,pt]
theorem Zv5 (l:List Wal):Xr (l.map Pi)=true:=by simp [Xr,Kc]
theorem Zv6 (l:List Sea):Xr (l.map Nj)=true:=by simp [Xr,Kc]
def r25:List AV->Option PRes
 | [.isl 1 els]=>none
 | _=>none
noncomputable abbrev cints:List AV->Option PRes:=famA (fun ns:List Int=>ns.length<100000) (fun ns=>[.isl 1 (nl ns)]) (fun ns=>⟨.isl 1 (nl ns),[]⟩)
theorem Yfx {a b:List Int} (h:nl a=nl b):a=b:=by
 unfold nl at h
 exact List.map_inj_right (fun x y hxy=>by simpa using hxy) |>.1 h
theorem Zyd {ns:List Int} (h:ns.length<100000):cints [.isl 1 (nl ns)]=some ⟨.isl 1 (nl ns),[]⟩ :=
 Zq (p:=fun ns:List Int=>ns.length<100000) (g:=fun ns=>[.isl 1 (nl ns)]) (r:=fun ns=>⟨.isl 1 (nl ns),[]⟩) (fun j hj=>by
  simp only [Rf,AV.isl.injEq,true_and,and_true] at hj
  rw [hj]) h
noncomputable def kQ2:PC:=ins 23 cints kQ1
theorem Zwn:PCOK Tryz.prog kQ2:=Zx (fun ns hl=>c25f ns hl) Ygh
abbrev canL (l:List Can):List (List AV):=l.map Ki
theorem Zyh {l:List Can} {k:Nat} (h:k<l.length):canL (l.take (k+1))=canL (l.take k)++[Ki l[k]]:=by unfold canL; rw [Qv h,Ro]; rfl
def cpyV (h:Hal):AV:=.agg [.str h.nm,I h.ht,.str h.fl,.str h.ce,.asl 0 0 (h.ms.map Ni).length,.asl 1 0 (h.cs.map pt).length,.asl 2 0 (h.ws.map Pi).length,(match h.ks with
 | []=>.nils
 | _=>.asl 4 0 (canL h.ks).length),.asl 3 0 (h.ss.map Nj).length]
def cpyB (h:Hal):List (Nat × List (List AV)):=[(6,h.ms.map Ni),(2,h.cs.map pt),(3,h.ws.map Pi),(4,h.ss.map Nj)]++(match h.ks with
 | []=>[]
 | _=>[(7,canL h.ks)])
abbrev Z22 (h:Hal):List (Nat × ABlk):=[(0,.row 9 [[.str h.nm,I h.ht,.str h.fl,.str h.ce,.asl 3 0 (0+(h.ms.map Ni).length),.asl 5 0 (0+(h.cs.map pt).length),.asl 7 0 (0+(h.ws.map Pi).length),.isl 7 (h.ks.map Ki),.asl 9 0 (0+(h.ss.map Nj).length)]] true false),
 (1,.row 9 [[.str ⟨#[]⟩,I 0,.str ⟨#[]⟩,.str ⟨#[]⟩,.nils,.nils,.nils,.nils,.nils]] true false),(3,.row 6 (h.ms.map Ni) true true),(5,.row 2 (h.cs.map pt) true true),(7,.row 3 (h.ws.map Pi) true true),(9,.row 4 (h.ss.map Nj) true true)]
theorem c22 {h:Hal} (hf:h.few):PCall Tryz.prog 10 [h.av] ⟨cpyV h,cpyB h⟩:=by
 have o1:=Zv7 h.ms
 have o2:=Zv8 h.cs
 have o3:=Zv5 h.ws
 have o4:=Zv6 h.ss
 have l1:=Zdp h.ms
 have l2:(h.cs.map pt).length=h.cs.length:=by simp
 have l3:=Uz h.ws
 have l4:=Zd0 h.ks
 have l5:=Zdg h.ss
 obtain ⟨f1,f2,f3,f4,f5,f6⟩:=hf
 refine bs.pv (sx:=nos) Zwn Tryz.func10 (by kernel_rfl) (by kernel_rfl) (by unfold cpyV cpyB; cases h.ks<;>rfl) ?_
 repeat'(first|refine wk0 ?_|(refine wk2 ?_ ?_<;>intro _)|fail)
 refine Lp.ren (env2:=[(1,.ptr 0 0 0),(2,.ptr 1 0 0),(3,.nils),(4,I 0)]) (σ2:=⟨Z22 h,10⟩) (Ren.of [] rfl (kps) (kps)) ?_
 refine Zn (S:=Nat × Int × Nat × List (List AV)) (fun t=>h.ks.length-t.1) (fun t=>[(1,.ptr 0 0 0),(2,.ptr 1 0 0),(3,match t.1 with
  | 0=>.nils
  | _=>.asl 10 0 t.2.2.1),(4,I t.2.1)]) (fun t=>(match t.1 with
  | 0=>Z22 h
  | _=>(10,.row 7 t.2.2.2 true true)::Z22 h)) 10 11 (fun t=>t.2.1=t.1/\t.1<=h.ks.length/\t.2.2.1=t.2.2.2.length/\t.2.2.2=canL (h.ks.take t.1)) (0,0,0,[]) ⟨rfl,Qq _,rfl,rfl⟩ (Qe _) [] rfl (kps) (kps) ?_
 rintro ⟨k,i,len,els⟩ ⟨hi,hk,hlen,hels⟩
 dsimp only at hi hk hlen hels ⊢
 subst hi
 refine bs.av (sx:=nos) Zwn ?_
 by_cases hlt:k<h.ks.length
 ·have e1:=Zo3 hlt
  have e2:=Zyd (ns:=h.ks[k].hs) (by have:=f6 _ (Qn hlt); omega)
  have e3:=Zyh hlt
  have e4:els.length<2000:=by rw [hels]; simp [canL]; omega
  cases k with
  | zero =>
   repeat'(first|refine wk1 ?_|(refine wk2 ?_ ?_<;>intro _)|fail)
   exact Qr ⟨(1,_,_,_),[(10,13)],rfl,kps,kps,⟨Zb (k:=0) (by omega),hlt,rfl,e3.symm⟩,by dsimp only; omega⟩
  | succ k =>
   repeat'(first|refine wk1 ?_|(refine wk2 ?_ ?_<;>intro _)|fail)
   exact Qr ⟨(k+1+1,_,_,_),[(10,13)],rfl,kps,kps,⟨Zb (k:=k+1) (by omega),hlt,by exact List.length_append.symm,by show _=canL _; rw [e3,<-hels]; rfl⟩,by dsimp only; omega⟩
 rw [Tg (by omega)] at hels
 subst hels
 subst hlen
 cases k with
 | zero =>
  have hks:h.ks=[]:=List.eq_nil_of_length_eq_zero (by omega)
  have v1:cpyV h = .agg [.str h.nm,I h.ht,.str h.fl,.str h.ce,.asl 0 0 (h.ms.map Ni).length,.asl 1 0 (h.cs.map pt).length,.asl 2 0 (h.ws.map Pi).length,.nils,.asl 3 0 (h.ss.map Nj).length]:=by unfold cpyV; rw [hks]
  have v2:cpyB h=[(6,h.ms.map Ni),(2,h.cs.map pt),(3,h.ws.map Pi),(4,h.ss.map Nj)]:=by unfold cpyB; rw [hks]; rfl
  rw [v1,v2]
  clear v1 v2
  repeat'(first|refine wk1 ?_|(refine wk2 ?_ ?_<;>intro _)|fail)
  refine Yk [3,5,7,9] rfl ?_ rfl
  show AV.agg [_,_,_,_,.asl 3 0 (0+(h.ms.map Ni).length),.asl 5 0 (0+(h.cs.map pt).length),.asl 7 0 (0+(h.ws.map Pi).length),_,.asl 9 0 (0+(h.ss.map Nj).length)]=AV.agg [_,_,_,_,.asl 3 0 (h.ms.map Ni).length,.asl 5 0 (h.cs.map pt).length,.asl 7 0 (h.ws.map Pi).length,_,.asl 9 0 (h.ss.map Nj).length]
  simp only [Sb]; rfl
 | succ k =>
  have hks:∃ c l,h.ks=c::l:=by
   cases hq:h.ks with
   | nil=>rw [hq] at hk; simp at hk
   | cons c l=>exact ⟨c,l,rfl⟩
  have v1:cpyV h = .agg [.str h.nm,I h.ht,.str h.fl,.str h.ce,.asl 0 0 (h.ms.map Ni).length,.asl 1 0 (h.cs.map pt).length,.asl 2 0 (h.ws.map Pi).length,.asl 4 0 (canL h.ks).length,.asl 3 0 (h.ss.map Nj).length]:=by obtain ⟨c,l,hq⟩:=hks; unfold cpyV; rw [hq]
  have v2:cpyB h=[(6,h.ms.map Ni),(2,h.cs.map pt),(3,h.ws.map Pi),(4,h.ss.map Nj),(7,canL h.ks)]:=by obtain ⟨c,l,hq⟩:=hks; unfold cpyB; rw [hq]; rfl
  rw [v1,v2]
  clear v1 v2
  repeat'(first|refine wk1 ?_|(refine wk2 ?_ ?_<;>intro _)|fail)
  refine Yk [3,5,7,9,10] rfl ?_ rfl
  show AV.agg [_,_,_,_,.asl 3 0 (0+(h.ms.map Ni).length),.asl 5 0 (0+(h.cs.map pt).length),.asl 7 0 (0+(h.ws.map Pi).length),_,.asl 9 0 (0+(h.ss.map Nj).length)]=AV.agg [_,_,_,_,.asl 3 0 (h.ms.map Ni).length,.asl 5 0 (h.cs.map pt).length,.asl 7 0 (h.ws.map Pi).length,_,.asl 9 0 (h.ss.map Nj).length]
  simp only [Sb]; rfl
theorem c22f {h:Hal} (hf:h.few):PCall Tryz.prog 10 [h.av] ⟨h.av,[]⟩:=by
 refine (c22 hf).freeze ?_
 unfold cpyV cpyB
 cases hq:h.ks with
 | nil =>
  exact ⟨⟨rfl,rfl⟩,⟨rfl,rfl⟩,⟨rfl,rfl⟩,⟨rfl,rfl⟩,⟨rfl,rfl,rfl⟩,⟨rfl,rfl,rfl⟩,⟨rfl,rfl,rfl⟩,by rw [hq]; rfl,⟨rfl,rfl,rfl⟩,trivial⟩
 | cons c l =>
  exact ⟨⟨rfl,rfl⟩,⟨rfl,rfl⟩,⟨rfl,rfl⟩,⟨rfl,rfl⟩,⟨rfl,rfl,rfl⟩,⟨rfl,rfl,rfl⟩,⟨rfl,rfl,rfl⟩,⟨by rw [hq]; rfl,rfl,by rw [hq]⟩,⟨rfl,rfl,rfl⟩,trivial⟩
structure Stg where
 hs:List Int
 dr:List Int
abbrev Stg.cells (s:Stg):List AV:=[.isl 1 (nl s.hs),.isl 1 (nl s.dr)]
abbrev Stg.av (s:Stg):AV:=.agg [.isl 1 (nl s.hs),.isl 1 (nl s.dr)]
structure Hal.ok (h:Hal):Prop where
 f:h.few
 t:h.texts
def Hal.err (h:Hal):Int:=(chk h).2.2
abbrev chkA (h:Hal):AV:=.tup [P2 (chk h).1 (chk h).2.1,I h.err]
theorem c65k {h:Hal} (hk:h.ok):PCall Tryz.prog 64 [h.av] ⟨chkA h,[]⟩:=by have:=c65 hk.f hk.t; rw [Ycf hk.f] at this; exact this
theorem c63k {h:Hal} (hk:h.ok):PCall Tryz.prog 73 [h.av] ⟨chkA h,[]⟩:=c63 hk.f hk.t
noncomputable def kE (h:Hal):PC:=ins 73 (one [h.av] ⟨chkA h,[]⟩) (ins 64 (one [h.av] ⟨chkA h,[]⟩) kQ2)
theorem Yhw {h:Hal} (hk:h.ok):PCOK Tryz.prog (kE h):=Zf (c63k hk) (Zf (c65k hk) Zwn)
theorem c76 {h:Hal} (hk:h.ok):PCall Tryz.prog 178 [h.av] ⟨.tup [h.av,I h.err],[]⟩:=by
 refine pn (Yhw hk) Tryz.func178 ?_
 repeat'(first|refine wk0 ?_|(refine wk2 ?_ ?_<;>intro _)|fail)
 exact Zg rfl rfl
end Go.Proofs.YtanbhfpalahjcaaGreat
namespace Go.Sx
open Go Go.RowKit
theorem Yf {T:Tab} {d:Nat} {t:TypeId} {xs:List AV} {ti:TI} {fs:Array Field} (ht:T t=some ti) (hd:ti.desc = .struct fs) (h:WT T (d+1) t xs) (i:Nat) {f:Field} (hf:fs.toList[i]?=some f) {tf:TI} (htf:T f.type=some tf):WT T d f.type ((xs.drop f.offset).take tf.size):=by
 obtain ⟨tf',e,w⟩:=(Zaw ht hd h).2 f (List.mem_of_getElem? hf)
 rw [htf] at e
 cases e
 exact w
end Go.Sx
namespace Go.Proofs.YtanbhfpalahjcaaGreat
open Go Go.Sx
noncomputable abbrev TT:=tget tbl
def okS (s:ByteArray):Prop:=s.size<=maxLen
theorem wInt {d:Nat} {x:List AV} (h:WT TT (d+1) 3 x):∃ n,x=[I n]:=by
 obtain ⟨n,h1,_⟩:=Zut (T:=TT) (t:=3) rfl rfl h
 exact ⟨n,h1⟩
theorem wStr {d:Nat} {x:List AV} (h:WT TT (d+1) 9 x):∃ s,x=[.str s]/\okS s:=Yeu (T:=TT) (t:=9) rfl rfl h
theorem Yhn {d:Nat} {x:List AV} (h:WT TT (d+2) 35 x):∃ ns:List Int,x=[.isl 1 (nl ns)]:=by
 obtain ⟨els,h1,h2,h3⟩:=Zd5 (T:=TT) (t:=35) rfl rfl rfl h
 have:∃ ns:List Int,els=nl ns:=by
  clear h1 h2
  induction els with
  | nil=>exact ⟨[],rfl⟩
  | cons e l ih =>
   obtain ⟨ns,hns⟩:=ih (fun x hx=>h3 x (by simp [hx]))
   obtain ⟨n,hn⟩:=wInt (h3 e (by simp))
   exact ⟨n::ns,by rw [hns,hn]; rfl⟩
 obtain ⟨ns,rfl⟩:=this
 exact ⟨ns,h1⟩
theorem wP2 {d:Nat} {x:List AV} (h:WT TT (d+2) 30 x):∃ p:Int × Int,x=pt p:=by
 obtain ⟨ns,h1,h2,_⟩:=Zus (T:=TT) (t:=30) rfl rfl rfl h
 have h2:ns.length=2:=h2
 match ns,h2 with
 | [a,b],_=>exact ⟨(a,b),by rw [h1]; rfl⟩
theorem wP3 {d:Nat} {x:List AV} (h:WT TT (d+2) 69 x):∃ a b c,x=[I a,I b,I c]:=by
 obtain ⟨ns,h1,h2,_⟩:=Zus (T:=TT) (t:=69) rfl rfl rfl h
 have h2:ns.length=3:=h2
 match ns,h2 with
 | [a,b,c],_=>exact ⟨a,b,c,by rw [h1]; rfl⟩
theorem wI4 {d:Nat} {x:List AV} (h:WT TT (d+2) 47 x):∃ a b c e,x=[I a,I b,I c,I e]:=by
 obtain ⟨h1,h2⟩:=Zq5 (T:=TT) (t:=47) rfl rfl rfl h
 have h1:x.length=4:=h1
 match x,h1 with
 | [x0,x1,x2,x3],_ =>
  obtain ⟨a,ha⟩:=wInt (h2 0 (by omega))
  obtain ⟨b,hb⟩:=wInt (h2 1 (by omega))
  obtain ⟨c,hc⟩:=wInt (h2 2 (by omega))
  obtain ⟨e,he⟩:=wInt (h2 3 (by omega))
  have ha:[x0]=[I a]:=ha
  have hb:[x1]=[I b]:=hb
  have hc:[x2]=[I c]:=hc
  have he:[x3]=[I e]:=he
  cases ha; cases hb; cases hc; cases he
  exact ⟨a,b,c,e,rfl⟩
theorem wMat {d:Nat} {x:List AV} (h:WT TT (d+3) 99 x):∃ m:Mat,x=m.av/\okS m.nm:=by
 have h0:=(Zaw (T:=TT) (t:=99) rfl rfl h).1
 have h0:x.length=6:=h0
 match x,h0 with
 | [x0,x1,x2,x3,x4,x5],_ =>
  obtain ⟨s,hs,hs2⟩:=wStr (Yf (T:=TT) (t:=99) rfl rfl h 0 rfl rfl)
  obtain ⟨a,b,c,e,ha⟩:=wI4 (Yf (T:=TT) (t:=99) rfl rfl h 1 rfl rfl)
  obtain ⟨n,hn⟩:=wInt (Yf (T:=TT) (t:=99) rfl rfl h 2 rfl rfl)
  have hs:[x0]=[.str s]:=hs
  have ha:[x1,x2,x3,x4]=[I a,I b,I c,I e]:=ha
  have hn:[x5]=[I n]:=hn
  cases hs; cases ha; cases hn
  exact ⟨⟨s,a,b,c,e,n⟩,rfl,hs2⟩
theorem wWal {d:Nat} {x:List AV} (h:WT TT (d+2) 97 x):∃ m:Wal,x=m.av/\okS m.nm/\okS m.mt/\okS m.cu:=by
 have h0:=(Zaw (T:=TT) (t:=97) rfl rfl h).1
 have h0:x.length=3:=h0
 match x,h0 with
 | [x0,x1,x2],_ =>
  obtain ⟨s,hs,hs2⟩:=wStr (Yf (T:=TT) (t:=97) rfl rfl h 0 rfl rfl)
  obtain ⟨t,ht,ht2⟩:=wStr (Yf (T:=TT) (t:=97) rfl rfl h 1 rfl rfl)
  obtain ⟨u,hu,hu2⟩:=wStr (Yf (T:=TT) (t:=97) rfl rfl h 2 rfl rfl)
  have hs:[x0]=[.str s]:=hs
  have ht:[x1]=[.str t]:=ht
  have hu:[x2]=[.str u]:=hu
  cases hs; cases ht; cases hu
  exact ⟨⟨s,t,u⟩,rfl,hs2,ht2,hu2⟩
theorem wCan {d:Nat} {x:List AV} (h:WT TT (d+3) 101 x):∃ m:Can,x=m.av/\okS m.nm/\okS m.mt:=by
 have h0:=(Zaw (T:=TT) (t:=101) rfl rfl h).1
 have h0:x.length=7:=h0
 match x,h0 with
 | [x0,x1,x2,x3,x4,x5,x6],_ =>
  obtain ⟨s,hs,hs2⟩:=wStr (Yf (T:=TT) (t:=101) rfl rfl h 0 rfl rfl)
  obtain ⟨t,ht,ht2⟩:=wStr (Yf (T:=TT) (t:=101) rfl rfl h 1 rfl rfl)
  obtain ⟨⟨a,b⟩,ha⟩:=wP2 (Yf (T:=TT) (t:=101) rfl rfl h 2 rfl rfl)
  obtain ⟨⟨c,e⟩,hc⟩:=wP2 (Yf (T:=TT) (t:=101) rfl rfl h 3 rfl rfl)
  obtain ⟨ns,hn⟩:=Yhn (Yf (T:=TT) (t:=101) rfl rfl h 4 rfl rfl)
  have hs:[x0]=[.str s]:=hs
  have ht:[x1]=[.str t]:=ht
  have ha:[x2,x3]=[I a,I b]:=ha
  have hc:[x4,x5]=[I c,I e]:=hc
  have hn:[x6]=[.isl 1 (nl ns)]:=hn
  cases hs; cases ht; cases ha; cases hc; cases hn
  exact ⟨⟨s,t,a,b,c,e,ns⟩,rfl,hs2,ht2⟩
theorem wSea {d:Nat} {x:List AV} (h:WT TT (d+3) 103 x):∃ m:Sea,x=m.av/\okS m.nm:=by
 have h0:=(Zaw (T:=TT) (t:=103) rfl rfl h).1
 have h0:x.length=4:=h0
 match x,h0 with
 | [x0,x1,x2,x3],_ =>
  obtain ⟨s,hs,hs2⟩:=wStr (Yf (T:=TT) (t:=103) rfl rfl h 0 rfl rfl)
  obtain ⟨a,b,c,ha⟩:=wP3 (Yf (T:=TT) (t:=103) rfl rfl h 1 rfl rfl)
  have hs:[x0]=[.str s]:=hs
  have ha:[x1,x2,x3]=[I a,I b,I c]:=ha
  cases hs; cases ha
  exact ⟨⟨s,a,b,c⟩,rfl,hs2⟩
theorem Ztb {α:Type} {f:α->List AV} {P:α->Prop} {Q:List AV->Prop} (hQ:∀ x,Q x->∃ m,x=f m/\P m):∀ els:List (List AV),(∀ x∈els,Q x)->∃ l:List α,els=l.map f/\∀ m∈l,P m
 | [],_=>⟨[],rfl,by simp⟩
 | e::els,h=>by
  obtain ⟨l,h1,h2⟩:=Ztb hQ els (fun x hx=>h x (by simp [hx]))
  obtain ⟨m,h3,h4⟩:=hQ e (h e (by simp))
  refine ⟨m::l,by rw [h3,h1]; rfl,fun u hu=>?_⟩
  rcases Ra.1 hu with rfl|hu
  ·exact h4
  ·exact h2 u hu
theorem Zb3 {s:ByteArray} (h:Yn s=true):s.data.toList.length<100000:=by
 unfold Yn at h
 have hz:s.size=s.data.toList.length:=by simp
 simp only [Te,decide_eq_false_iff_not] at h
 omega
def gv (n0:Nat) (k len:Nat):AV:=match k with
 | 0=>.nils
 | _=>.asl n0 0 len
def gz (n0 es:Nat) (k:Nat) (els:List (List AV)) (z:List (Nat × ABlk)):List (Nat × ABlk):=match k with
 | 0=>z
 | _=>(n0,.row es els true true)::z
def nm2 (a b:Nat) (k:Nat):Nat:=match k with
 | 0=>a
 | _=>b
structure Hal.fine (h:Hal):Prop where
 nms:h.names=(Vu 0 [] h.ms).2.2
 le:h.ms.length<=10/\3<=h.cs.length/\h.ws.length=h.cs.length/\h.ws.length<=12/\h.ks.length<=4/\h.ss.length<=40
 ht:2<=h.ht/\h.ht<=5000
 mats:∀ m∈h.ms,Zb7 m=0
 fl:∃ m∈h.ms,m.nm=h.fl
 ce:∃ m∈h.ms,m.nm=h.ce
 bd:Zpb h.cs
 st:Vc h.cs
 simple:Xs h=true
 area:0<Zdb h
 wal:∀ i (hi:i<h.ws.length),Zgv h i h.ws[i]=0
 can:∀ i (hi:i<h.ks.length),Zh5 h i h.ks[i]=0
 sea:∀ i (hi:i<h.ss.length),Ziy h i h.ss[i]=0
theorem Vq {x:Int × Int × Int} {l:List (Int × Int × Int)} (h:(Zv (x::l)).2.2=0):x.2.2=0/\(Zv l).2.2=0:=by
 rw [Zv] at h
 by_cases c:x.2.2=0
 ·rw [if_pos c] at h; exact ⟨c,h⟩
 ·rw [if_neg c] at h; exact absurd h c
theorem Zqe {h:Hal} (hk:h.ok) (he:h.err=0):h.fine:=by
 have h0:(chkR h).2.2=0:=by rw [Ycf hk.f]; exact he
 unfold chkR Zgh at h0
 obtain ⟨z1,h0⟩:=Vq h0
 obtain ⟨z2,h0⟩:=Vq h0
 obtain ⟨z3,h0⟩:=Vq h0
 obtain ⟨z4,h0⟩:=Vq h0
 obtain ⟨z5,h0⟩:=Vq h0
 obtain ⟨z6,h0⟩:=Vq h0
 obtain ⟨z7,h0⟩:=Vq h0
 obtain ⟨z8,h0⟩:=Vq h0
 obtain ⟨z9,h0⟩:=Vq h0
 obtain ⟨z10,h0⟩:=Vq h0
 obtain ⟨z11,h0⟩:=Vq h0
 obtain ⟨z12,h0⟩:=Vq h0
 obtain ⟨z13,h0⟩:=Vq h0
 obtain ⟨z14,h0⟩:=Vq h0
 obtain ⟨z15,h0⟩:=Vq h0
 have z2:=within_iff.1 (Vy z2 (by decide))
 have z3:=of_decide_eq_true (Vy z3 (by decide))
 have z6:=Vy z6 (by decide)
 have z7:=of_decide_eq_true (Vy z7 (by decide))
 have z10:=Vy z10 (by decide)
 have z11:=of_decide_eq_true (Vy z11 (by decide))
 have z12:=of_decide_eq_true (Vy z12 (by decide))
 have z14:=of_decide_eq_true (Vy z14 (by decide))
 simp only [Qc,decide_eq_true_eq] at z6
 have hb:Zpb h.cs:=Zms z8
 have hwc:h.ws.length=h.cs.length:=by omega
 have hst:Vc h.cs:=Zj8 hb hwc z9
 have hfl:¬(Xb h.fl 0 h.ms<0) /\ ¬(Xb h.ce 0 h.ms<0):=by
  change Zey h=0 at z5
  unfold Zey at z5
  split at z5
  ·cases z5
  ·rename_i hx
   simp only [Rr,decide_eq_true_eq,not_or] at hx
   exact hx
 refine ⟨rfl,⟨by omega,by omega,hwc,by omega,by omega,by omega⟩,z2,?_,?_,?_,hb,hst,?_,by rw [Zm2]; exact z11,?_,?_,?_⟩
 ·intro m hm
  obtain ⟨i,hi,rfl⟩:=Jh.1 hm
  have:=Zcs (n:=h.ms.length) _ 0 rfl z4 i (Qq _) hi
  unfold Zma at this
  rw [Qd hi] at this
  change mErr h i h.ms[i]=0 at this
  unfold mErr at this
  unfold Zb7
  split at this
  ·split at this
   ·cases this
   ·split at this
    ·rename_i hx
     rw [if_pos (by simp only [Qc] at hx ⊢; simp [hx])]
    ·cases this
  ·cases this
 ·have:=mt (Zdq h.fl h.ms 0).2 hfl.1; exact Hq.1 this
 ·have:=mt (Zdq h.ce h.ms 0).2 hfl.2; exact Hq.1 this
 ·rw [Zm6 hst (by omega) hk.f.2.1]; exact z10
 ·intro i hi
  have:=Zcs (n:=h.ws.length) _ 0 rfl z9 i (Qq _) hi
  unfold Zbk at this
  rw [Qd hi] at this
  exact this
 ·intro i hi
  have:=Zcs (n:=h.ks.length) _ 0 rfl z13 i (Qq _) hi
  unfold Zc5 at this
  rw [Qd hi] at this
  exact this
 ·intro i hi
  have:=Zcs (n:=h.ss.length) _ 0 rfl z15 i (Qq _) hi
  unfold Zcz at this
  rw [Qd hi] at this
  exact this
inductive SK (h:Hal):Int->Prop
 | wall (k:Nat) (hk:k<h.ws.length):SK h k
 | floor:SK h h.ws.length
 | ceil:SK h ((h.ws.length:Int)+1)
 | can (j:Nat) (hj:j<h.ks.length):SK h ((h.ws.length:Int)+2+j)
def Zwk (h:Hal) (i:Int):Int × Int:=if i<h.ws.length then (0,i) else if i=h.ws.length then (1,0) else if i=(h.ws.length:Int)+1 then (2,0) else (3,i-h.ws.length-2)
theorem c89 {h:Hal} (hf:h.few) {i:Int} (hi:SK h i):PCall Tryz.prog 174 [h.av,I i] ⟨.tup [I (Zwk h i).1,I (Zwk h i).2],[]⟩:=by
 have l:=Uz h.ws
 obtain ⟨_,_,f3,f4,_⟩:=hf
 have hw:Qa Qb (((h.ws.map Pi).length:Int)+1)=h.ws.length+1:=by rw [W_eq (by omega) (by omega)]; omega
 have hr:0<=i/\i<100000:=by cases hi<;>omega
 have hv:Qa Qb (Qa Qb (i-((h.ws.map Pi).length:Int))-2)=i-h.ws.length-2:=by rw [W_eq (n:=i-((h.ws.map Pi).length:Int)) (by omega) (by omega),W_eq (by omega) (by omega)]; omega
 unfold Zwk
 refine pn Ze Tryz.func174 ?_
 repeat'(first|refine wk0 ?_|(refine wk2 ?_ ?_<;>intro _)|fail)
 ·rename_i hx
  rw [l] at hx
  rw [if_pos (of_decide_eq_true hx)]; exact Zg rfl rfl
 ·rename_i h1 hx
  rw [l] at hx h1
  rw [if_neg (of_decide_eq_false h1),if_pos (of_decide_eq_true hx)]; exact Zg rfl rfl
 ·rename_i h1 h2 hx
  rw [hw] at hx
  rw [l] at h1 h2
  rw [if_neg (of_decide_eq_false h1),if_neg (of_decide_eq_false h2),if_pos (of_decide_eq_true hx)]; exact Zg rfl rfl
 ·rename_i h1 h2 hx
  rw [hw] at hx
  rw [l] at h1 h2
  rw [if_neg (of_decide_eq_false h1),if_neg (of_decide_eq_false h2),if_neg (of_decide_eq_false hx),<-hv]; exact Zg rfl rfl
def plW (w:Wl):Int × Int:=if w.dx=0 then (0,w.fx) else if w.dy=0 then (1,w.fy) else if w.dx=w.dy then (4,Qa Qb (w.fx-w.fy)) else (3,Qa Qb (w.fx+w.fy))
def bk:Nat->Int
 | 0=>0
 | k+1=>((2 ^ k:Nat):Int)
theorem Zz8 {n b:Int} (hb:0<b):(n.tmod b<0/\n / b=n.tdiv b-1)\/(¬ n.tmod b<0/\n / b=n.tdiv b):=by
 have e1:=Int.tmod_add_mul_tdiv n b
 have e2:=Jz n hb
 have e3:=Hb n hb
 by_cases h:n.tmod b<0
 ·exact .inl ⟨h,((Fx hb (r:=n.tmod b+b)).2 ⟨by rw [Int.mul_sub]; omega,by omega,by omega⟩).1⟩
 ·exact .inr ⟨h,((Fx hb (r:=n.tmod b)).2 ⟨by omega,by omega,by omega⟩).1⟩
theorem c90 {n b:Int} (hb:0<b) (h0 : -9223372036854775807<=n) (h1:n<=9223372036854775807):PCall Tryz.prog 185 [I n,I b] ⟨I (n / b),[]⟩:=by
 have hq:=Int.natAbs_tdiv_le_natAbs n b
 have e:Qa Qb (n.tdiv b)=n.tdiv b:=W_eq (by omega) (by omega)
 have hm:Qa Qb (n.tmod b)=n.tmod b:=by
  have:=Jz n hb
  have e3:=Hb n hb
  have e4:(n.tmod b).natAbs<=n.natAbs:=by rw [Int.natAbs_tmod]; exact Nat.mod_le _ _
  exact W_eq (by omega) (by omega)
 have hz:¬ b=0:=by omega
 refine pn Ze Tryz.func185 ?_
 rcases Zz8 (n:=n) hb with ⟨c1,c2⟩|⟨c1,c2⟩
 ·have e5:Qa Qb (n.tdiv b-1)=n.tdiv b-1:=W_eq (by omega) (by omega)
  rw [c2]
  repeat'(first|refine wk1 ?_|(refine wk2 ?_ ?_<;>intro _)|fail)
  all_goals exact Zd (by rw [e,e5])
 ·rw [c2]
  repeat'(first|refine wk1 ?_|(refine wk2 ?_ ?_<;>intro _)|fail)
  all_goals exact Zd (by omega)
theorem d87 (a b c d:Int):PCall Tryz.prog 100 [P2 a b,P2 c d] ⟨P2 (Qa Qb (c-a)) (Qa Qb (d-b)),[]⟩:=by
 refine pn Ze Tryz.func100 ?_
 repeat'(first|refine wk3 ?_|(refine wk2 ?_ ?_<;>intro _)|fail)
 exact Zg rfl rfl
def Zfm (ax ay:Int) (vis:Int × Int->Bool):List (Int × Int)->List (List AV)
 | []=>[]
 | p::l=>if p.1=ax/\p.2=ay then Zfm ax ay vis l else if vis p=true then [P2 (Qa Qb (p.1-ax)) (Qa Qb (p.2-ay))]::Zfm ax ay vis l else Zfm ax ay vis l
theorem Zg0 (ax ay:Int) (vis:Int × Int->Bool) (p:Int × Int) (l:List (Int × Int)):Zfm ax ay vis (p::l)=if p.1=ax/\p.2=ay then Zfm ax ay vis l else if vis p=true then [P2 (Qa Qb (p.1-ax)) (Qa Qb (p.2-ay))]::Zfm ax ay vis l else Zfm ax ay vis l:=rfl
def rFr:List AV->Option PRes
 | [.agg [.int .i64 a,.int .i64 b],.agg [.int .i64 c,.int .i64 d]]=>some ⟨P2 (Qa Qb (c-a)) (Qa Qb (d-b)),[]⟩
 | _=>none
def LN (es:Nat) (a:AV):Prop:=a = .nils\/∃ L,a = .isl es L
structure Pl where
 nm:ByteArray
 ht:Int
 fl:ByteArray
 ce:ByteArray
 ms:List (List AV)
 ps:List (Int × Int)
 wa:List (List AV)
 ca:AV
 se:AV
abbrev Pl.c (p:Pl):List AV:=[.str p.nm,I p.ht,.str p.fl,.str p.ce,.isl 6 p.ms,.isl 2 (p.ps.map pt),.isl 3 p.wa,p.ca,p.se]
abbrev rayA (ax ay dx dy last:Int):AV:=.agg [I ax,I ay,I dx,I dy,I last]
theorem Yhx {q:Pl} (h1:LN 7 q.ca) (h2:LN 4 q.se) (hn:q.ps.length<1000) (ax ay last:Int) (bB bA:Int × Int->Bool)
  (hB:∀ p∈q.ps,PCall Tryz.prog 102 [.agg q.c,rayA ax ay (Qa Qb (p.1-ax)) (Qa Qb (p.2-ay)) last,P2 1 1] ⟨Bo (bB p),[]⟩)
  (hA:∀ p∈q.ps,PCall Tryz.prog 219 [.agg q.c,rayA ax ay (Qa Qb (p.1-ax)) (Qa Qb (p.2-ay)) last,P2 1 1] ⟨Bo (bA p),[]⟩) :
  ItOK Tryz.prog 218 [] [.ipt q.c,.ipt [I ax,I ay],.ipt [I last]] (Zfm ax ay (fun p=>bB p && !bA p) q.ps):=by
 obtain ⟨nm,ht,fl,ce,ms,ps,wa,ca,se⟩:=q
 dsimp only at h1 h2 hn hB hA ⊢
 have l1:(ps.map pt).length=ps.length:=by simp
 refine bs.yiter (sx:=nos) Ze Tryz.func218 (by kernel_rfl) rfl (by kernel_rfl) fun B Ig l JX hI=>?_
 rcases h1 with rfl|⟨L1,rfl⟩<;>rcases h2 with rfl|⟨L2,rfl⟩
 all_goals
  conv=>whnf
  refine Ygc (S:=Nat × Int) (fun t=>ps.length-t.1) (fun t=>[(0,.yld l),(1,.ipt [.str nm,I ht,.str fl,.str ce,.isl 6 ms,.isl 2 (ps.map pt),.isl 3 wa,_,_]),(2,.ipt [I ax,I ay]),(3,.ipt [I last]),(11,.isl 2 (ps.map pt)),(12,I (ps.map pt).length),(13,I t.2)]) (fun _=>[]) (fun t=>some (Zfm ax ay (fun p=>bB p && !bA p) (ps.drop t.1))) 0 (fun _=>0) (fun t=>t.2=t.1/\t.1<=ps.length) (0,0) ⟨rfl,Qq _⟩ (Qe _) rfl [] rfl (kps) (kps) ?_
  rintro ⟨k,i⟩ ⟨hi,hk⟩
  dsimp only at hi hk
  subst hi
  by_cases hlt:k<ps.length
  ·have e1:(ps.map pt)[((k:Nat):Int).toNat]?=some (pt ps[k]):=by simp [hlt]
   have hm:=Qn hlt
   have hT:=Zf (hB _ hm) (Zf (hA _ hm) (Zk (f0:=100) (r:=rFr) (fun a res h=>by unfold rFr at h; split at h<;>cases h; exact d87 _ _ _ _) Ze))
   have hG:(Qa Qb ((k:Int)+1)=((k+1:Nat):Int)/\k+1<=ps.length)/\ps.length-(k+1)<ps.length-k:=⟨⟨Zb (by omega),hlt⟩,by omega⟩
   dsimp only
   rw [Ql hlt]
   rw [Zg0]
   generalize ps[k]=p at *
   clear hB hA hm
   obtain ⟨px,py⟩:=p
   dsimp only at e1 hT ⊢
   generalize bB (px,py)=b1 at *
   generalize bA (px,py)=b2 at *
   by_cases c:px=ax/\py=ay
   ·rw [if_pos c]
    refine bs.yv hT hI (sx:=nos) ?_
    repeat'(first|refine wk3 ?_|(refine wk2 ?_ ?_<;>intro _)|fail)
    all_goals first
     | (refine Qr ?_; exact ⟨(k+1,_),[],rfl,kps,kps,rfl,hG.1,hG.2⟩)
     | (exfalso; clear hT e1; simp_all; done)
   ·rw [if_neg c]
    cases b1<;>cases b2
    all_goals
     refine bs.yv hT hI (sx:=nos) ?_
     repeat'(first|refine wk3 ?_|(refine wk2 ?_ ?_<;>intro _)|fail)
    all_goals first
     | (refine Qr ?_; exact ⟨(k+1,_),[],rfl,kps,kps,rfl,hG.1,hG.2⟩)
     | (exfalso; rename_i q; simp at q; exact c q)
     | skip
    all_goals
     refine Yd.mk ⟨rfl,rfl,.same rfl,fun _=>rfl,?_,?_⟩
     all_goals repeat'(first|refine wk3 ?_|(refine wk2 ?_ ?_<;>intro _)|fail)
    all_goals first
     | (refine Qr ?_; exact ⟨(k+1,_),[],rfl,kps,kps,rfl,hG.1,hG.2⟩)
     | exact Qr (.inr rfl)
  ·dsimp only
   rw [Qo (by omega)]
   unfold Zfm
   refine bs.yv Ze hI (sx:=nos) ?_
   repeat'(first|refine wk3 ?_|(refine wk2 ?_ ?_<;>intro _)|fail)
   exact Qr (.inl rfl)
def bxP:Pl:=⟨⟨⟨[104]⟩⟩,600,⟨⟨[119]⟩⟩,⟨⟨[119]⟩⟩,[[.str ⟨⟨[119]⟩⟩,I 100,I 100,I 100,I 100,I 0]],[(0,0),(1000,0),(1000,2000),(0,2000)],
 [[.str ⟨⟨[97]⟩⟩,.str ⟨⟨[119]⟩⟩,.str ⟨⟨[]⟩⟩],[.str ⟨⟨[98]⟩⟩,.str ⟨⟨[119]⟩⟩,.str ⟨⟨[]⟩⟩],[.str ⟨⟨[99]⟩⟩,.str ⟨⟨[119]⟩⟩,.str ⟨⟨[]⟩⟩],[.str ⟨⟨[100]⟩⟩,.str ⟨⟨[119]⟩⟩,.str ⟨⟨[]⟩⟩]],.nils,.nils⟩
abbrev Ye9 (p:Int × Int):List AV:=[.agg bxP.c,rayA 500 1000 (Qa Qb (p.1-500)) (Qa Qb (p.2-1000)) (-1),P2 1 1]
noncomputable def allR (f:FuncId) (v:AV) (l:List (List AV)):Bool:=l.all fun a=>isR v (pcF (exT [233] Zu8) f a)
theorem sB:allR 102 (.bool true) (bxP.ps.map Ye9)=true:=by kernel_rfl
theorem sA:allR 219 (.bool false) (bxP.ps.map Ye9)=true:=by kernel_rfl
theorem Zs7 {f:FuncId} {v:AV} {l:List (List AV)} (h:allR f v l=true) {a:List AV} (ha:a∈l):PCall Tryz.prog f a ⟨v,[]⟩:=Zrr Zlu (Rh.1 h a ha)
def bxX:List (List AV):=[[P2 (-500) (-1000)],[P2 500 (-1000)],[P2 500 1000],[P2 (-500) 1000]]
theorem Yhr:ItOK Tryz.prog 218 [] [.ipt bxP.c,.ipt [I 500,I 1000],.ipt [I (-1)]] bxX :=
 Yhx (q:=bxP) (.inl rfl) (.inl rfl) (by decide) 500 1000 (-1) (fun _=>true) (fun _=>false) (fun p hp=>Zs7 sB (Jq hp)) (fun p hp=>Zs7 sA (Jq hp))
def itT5:ITab:=fun g c0 c1=>cond (Qs g 218&&(eqL c0 []&&eqL c1 [.ipt bxP.c,.ipt [I 500,I 1000],.ipt [I (-1)]])) (some bxX) (itT g c0 c1)
theorem Yd0:∀ g c0 c1 xs,itT5 g c0 c1=some xs->ItOK Tryz.prog g c0 c1 xs:=by
 intro g c0 c1 xs h
 unfold itT5 at h
 cases hb:(Qs g 218&&(eqL c0 []&&eqL c1 [.ipt bxP.c,.ipt [I 500,I 1000],.ipt [I (-1)]])) with
 | true =>
  rw [hb] at h
  cases h
  simp only [Qc] at hb
  rw [Qh hb.1,Ze0 _ _ hb.2.1,Ze0 _ _ hb.2.2]
  exact Yhr
 | false=>rw [hb] at h; exact Ybx g c0 c1 xs h
noncomputable def exT5 (xs:List Nat) (pt:PC):CF:=exG Tryz.prog (tget tbl) (memN eqs) itT5 (memN xs) pt 1000 60
theorem Zxr {xs:List Nat} {pt:PC} (hpt:PCOK Tryz.prog pt):CFOK Tryz.prog (exT5 xs pt):=Zju Zzf eqOK Yd0 mixed hpt 60
theorem Yi {xs:List Nat} {pt:PC} (hpt:PCOK Tryz.prog pt) {f:FuncId} {a:List AV} {v:AV} (h:isR v (pcF (exT5 xs pt) f a)=true):PCall Tryz.prog f a ⟨v,[]⟩:=Zl6 (Zxr hpt) (Yby h)
mutual
def toFz (bl:List (Nat × List (List AV))):AV->Option AV
 | .asl id 0 len=>match bl[id]? with
  | some (es,els)=>cond (Qs len els.length) (some (.isl es els)) none
  | none=>none
 | .agg cs=>match Zth bl cs with
  | some ds=>some (.agg ds)
  | none=>none
 | .tup cs=>match Zth bl cs with
  | some ds=>some (.tup ds)
  | none=>none
 | .int k n=>some (.int k n)
 | .bool b=>some (.bool b)
 | .nils=>some .nils
 | _=>none
def Zth (bl:List (Nat × List (List AV))):List AV->Option (List AV)
 | []=>some []
 | c::cs=>match toFz bl c,Zth bl cs with
  | some d,some ds=>some (d::ds)
  | _,_=>none
end
mutual
theorem Zu1 (bl:List (Nat × List (List AV))):∀ (v:AV) {v' : AV},toFz bl v=some v'->Frz bl v v'
 | .asl id 0 len,v',h=>by
  simp only [toFz] at h
  split at h
  ·rename_i es els hb
   obtain ⟨h1,h⟩:=Zc h
   cases h
   exact ⟨hb,rfl,Qh h1⟩
  ·cases h
 | .agg cs,v',h=>by
  simp only [toFz] at h
  split at h
  ·rename_i ds hd
   cases h
   exact Zlp bl cs hd
  ·cases h
 | .tup cs,v',h=>by
  simp only [toFz] at h
  split at h
  ·rename_i ds hd
   cases h
   exact Zlp bl cs hd
  ·cases h
 | .int k n,v',h=>by simp only [toFz] at h; cases h; exact ⟨rfl,rfl⟩
 | .bool b,v',h=>by simp only [toFz] at h; cases h; exact ⟨rfl,rfl⟩
 | .nils,v',h=>by simp only [toFz] at h; cases h; exact ⟨rfl,rfl⟩
 | .any,_,h | .flt _ _,_,h | .cpx _ _ _,_,h | .str _,_,h | .ptr _ _ _,_,h | .ipt _,_,h | .nilp,_,h | .bsl _ _ _ _ _,_,h | .isl _ _,_,h | .amap _,_,h | .func _ _ _,_,h | .yld _,_,h | .asl _ (_+1) _,_,h=>by simp [toFz] at h
theorem Zlp (bl:List (Nat × List (List AV))):∀ (v:List AV) {v' : List AV},Zth bl v=some v'->FrzL bl v v'
 | [],v',h=>by simp only [Zth] at h; cases h; exact trivial
 | c::cs,v',h=>by
  simp only [Zth] at h
  split at h
  ·rename_i d ds h1 h2
   cases h
   exact ⟨Zu1 bl c h1,Zlp bl cs h2⟩
  ·cases h
end
def isRF (v0:AV):Option PRes->Bool
 | some ⟨v,bl⟩=>match toFz bl v with
  | some u=>eqA u v0
  | none=>false
 | _=>false
theorem Zi5 {xs:List Nat} {pt:PC} (hpt:PCOK Tryz.prog pt) {f:FuncId} {a:List AV} {v:AV} (h:isRF v (pcF (exT5 xs pt) f a)=true):PCall Tryz.prog f a ⟨v,[]⟩:=by
 unfold isRF at h
 split at h
 ·rename_i u bl hu
  split at h
  ·rename_i d hd
   rw [<-Zxz _ _ h]
   exact (Zl6 (Zxr hpt) hu).freeze (Zu1 bl u hd)
  ·cases h
 ·cases h
theorem Yh9:isR (.tup [.agg [I 0,I 0],I 0]) (pcF (exT [233] Zu8) 73 [.agg bxP.c])=true:=by kernel_rfl
theorem Yhc:PCall Tryz.prog 73 [.agg bxP.c] ⟨.tup [.agg [I 0,I 0],I 0],[]⟩:=Zrr Zlu Yh9
noncomputable def boxT:PC:=Zbi 73 [.agg bxP.c] (.tup [.agg [I 0,I 0],I 0]) Zu8
theorem Zym:PCOK Tryz.prog boxT:=Yj Yhc Zlu
theorem aw77:isR (I 0) (pcF (exT5 [73,233] boxT) 98 [.agg bxP.c,.agg [.nils,.nils]])=true:=by kernel_rfl
noncomputable def t77:PC:=Zbi 98 [.agg bxP.c,.agg [.nils,.nils]] (I 0) boxT
theorem Ya2:PCOK Tryz.prog t77:=Yj (Yi Zym aw77) Zym
theorem aw24:isR (I 0) (pcF (exT5 [73,98,233] t77) 60 [.agg bxP.c,.agg [.nils,.nils],.agg [I 300,I 700,I 150,I 300,I 800,I 50,I 2]])=true:=by kernel_rfl
noncomputable def t24:PC:=Zbi 60 [.agg bxP.c,.agg [.nils,.nils],.agg [I 300,I 700,I 150,I 300,I 800,I 50,I 2]] (I 0) t77
theorem Ya6:PCOK Tryz.prog t24:=Yj (Yi Ya2 aw24) Ya2
theorem aw64:isR (I 0) (pcF (exT5 [60,73,98,233] t24) 68 [.agg bxP.c,.isl 1 [[I 1]]])=true:=by kernel_rfl
noncomputable def t64:PC:=Zbi 68 [.agg bxP.c,.isl 1 [[I 1]]] (I 0) t24
theorem Ya3:PCOK Tryz.prog t64:=Yj (Yi Ya6 aw64) Ya6
theorem Yib:isR (.tup [.agg [I 1000,I 750,I 100,I 1],I 0]) (pcF (exT5 [60,68,73,98,233] t64) 118 [.agg bxP.c,.agg [.nils,.nils],.agg [I 1,I 1700,I 700,I 150,I 300,I 800,I 50,I 1]])=true:=by kernel_rfl
noncomputable def t124:PC:=Zbi 118 [.agg bxP.c,.agg [.nils,.nils],.agg [I 1,I 1700,I 700,I 150,I 300,I 800,I 50,I 1]] (.tup [.agg [I 1000,I 750,I 100,I 1],I 0]) t64
theorem Zu3:PCOK Tryz.prog t124:=Yj (Yi Ya3 Yib) Ya3
theorem Yhf:isR (.tup [.bool true,I 0]) (pcF (exT5 [60,68,73,98,118,233] t124) 119 [.agg bxP.c,.agg [.nils,.nils],.agg [I 300,I 700,I 150,I 1,I 1000,I 750,I 100,I 1]])=true:=by kernel_rfl
noncomputable def Ycu:PC:=Zbi 119 [.agg bxP.c,.agg [.nils,.nils],.agg [I 300,I 700,I 150,I 1,I 1000,I 750,I 100,I 1]] (.tup [.bool true,I 0]) t124
theorem Zrb:PCOK Tryz.prog Ycu:=Yj (Yi Zu3 Yhf) Zu3
theorem Yhe:isR (.tup [.bool true,I 0]) (pcF (exT5 [60,68,73,98,118,119,233] Ycu) 119 [.agg bxP.c,.agg [.nils,.nils],.agg [I 1000,I 750,I 100,I 1,I 300,I 800,I 50,I 1]])=true:=by kernel_rfl
noncomputable def Yct:PC:=Zbi 119 [.agg bxP.c,.agg [.nils,.nils],.agg [I 1000,I 750,I 100,I 1,I 300,I 800,I 50,I 1]] (.tup [.bool true,I 0]) Ycu
theorem Zra:PCOK Tryz.prog Yct:=Yj (Yi Zrb Yhe) Zrb
theorem Yia:isR (.tup [.agg [I 0,I 1000],I 0]) (pcF (exT5 [60,68,73,98,118,119,233] Yct) 186 [.agg bxP.c,.agg [.nils,.nils],I 1])=true:=by kernel_rfl
noncomputable def t136:PC:=Zbi 186 [.agg bxP.c,.agg [.nils,.nils],I 1] (.tup [.agg [I 0,I 1000],I 0]) Yct
theorem Zu2:PCOK Tryz.prog t136:=Yj (Yi Zra Yia) Zra
theorem aw14:isRF (.tup [.agg [.isl 1 [[I 1]],.isl 4 [[I 1000,I 750,I 100,I 1]],I 1980000],I 0]) (pcF (exT5 [60,68,73,98,118,119,186,233] t136) 34 [.agg bxP.c,.agg [.nils,.nils],.agg [I 300,I 700,I 150,I 300,I 800,I 50,I 2],.isl 1 [[I 1]]])=true:=by kernel_rfl
noncomputable def t14:PC:=Zbi 34 [.agg bxP.c,.agg [.nils,.nils],.agg [I 300,I 700,I 150,I 300,I 800,I 50,I 2],.isl 1 [[I 1]]] (.tup [.agg [.isl 1 [[I 1]],.isl 4 [[I 1000,I 750,I 100,I 1]],I 1980000],I 0]) t136
theorem Ya7:PCOK Tryz.prog t14:=Yj (Zi5 Zu2 aw14) Zu2
theorem aw38:isR (.tup [.agg [I 4159,I 4160],I 0]) (pcF (exT5 [34,60,68,73,98,118,119,186,233] t14) 37 [.agg [.nils,.nils,I 20000],I 34000])=true:=by kernel_rfl
noncomputable def t38:PC:=Zbi 37 [.agg [.nils,.nils,I 20000],I 34000] (.tup [.agg [I 4159,I 4160],I 0]) t14
theorem Ya5:PCOK Tryz.prog t38:=Yj (Yi Ya7 aw38) Ya7
theorem Yic:isR (.tup [.agg bxP.c,I 0]) (pcF (exT5 [34,37,60,68,73,98,118,119,186,233] t38) 49 [.agg bxP.c,.agg [I 500,I 1000],I 0])=true:=by kernel_rfl
noncomputable def t117:PC:=Zbi 49 [.agg bxP.c,.agg [I 500,I 1000],I 0] (.tup [.agg bxP.c,I 0]) t38
theorem Zu4:PCOK Tryz.prog t117:=Yj (Yi Ya5 Yic) Ya5
theorem awn0:isR (.tup [.agg [I 1000000,I 4000,I 2,.bool true],.bool true]) (pcF (exT5 [34,37,49,60,68,73,98,118,119,186,233] t117) 44 [.agg bxP.c,.agg [I 500,I 1000,I 0,I 4,I (-1)]])=true:=by kernel_rfl
noncomputable def tn0:PC:=Zbi 44 [.agg bxP.c,.agg [I 500,I 1000,I 0,I 4,I (-1)]] (.tup [.agg [I 1000000,I 4000,I 2,.bool true],.bool true]) t117
theorem Ya0:PCOK Tryz.prog tn0:=Yj (Yi Zu4 awn0) Zu4
theorem awn1:isR (.tup [.agg [I 1000000,I 4000,I 3,.bool true],.bool true]) (pcF (exT5 [34,37,44,49,60,68,73,98,118,119,186,233] tn0) 44 [.agg bxP.c,.agg [I 500,I 1000,I (-2),I 0,I (-1)]])=true:=by kernel_rfl
noncomputable def tn1:PC:=Zbi 44 [.agg bxP.c,.agg [I 500,I 1000,I (-2),I 0,I (-1)]] (.tup [.agg [I 1000000,I 4000,I 3,.bool true],.bool true]) tn0
theorem Yaz:PCOK Tryz.prog tn1:=Yj (Yi Ya0 awn1) Ya0
theorem awn2:isR (.tup [.agg [I 1000000,I 4000,I 0,.bool true],.bool true]) (pcF (exT5 [34,37,44,49,60,68,73,98,118,119,186,233] tn1) 44 [.agg bxP.c,.agg [I 500,I 1000,I 0,I (-4),I (-1)]])=true:=by kernel_rfl
noncomputable def tn2:PC:=Zbi 44 [.agg bxP.c,.agg [I 500,I 1000,I 0,I (-4),I (-1)]] (.tup [.agg [I 1000000,I 4000,I 0,.bool true],.bool true]) tn1
theorem Yay:PCOK Tryz.prog tn2:=Yj (Yi Yaz awn2) Yaz
theorem awn3:isR (.tup [.agg [I 1000000,I 4000,I 1,.bool true],.bool true]) (pcF (exT5 [34,37,44,49,60,68,73,98,118,119,186,233] tn2) 44 [.agg bxP.c,.agg [I 500,I 1000,I 2,I 0,I (-1)]])=true:=by kernel_rfl
noncomputable def tn3:PC:=Zbi 44 [.agg bxP.c,.agg [I 500,I 1000,I 2,I 0,I (-1)]] (.tup [.agg [I 1000000,I 4000,I 1,.bool true],.bool true]) tn2
theorem Yax:PCOK Tryz.prog tn3:=Yj (Yi Yay awn3) Yay
theorem awr0:isR (.tup [.agg [I 1000000,I 2000,I 1,.bool true],.bool true]) (pcF (exT5 [34,37,44,49,60,68,73,98,118,119,186,233] tn3) 44 [.agg bxP.c,.agg [I 500,I 1000,I 1,I 0,I (-1)]])=true:=by kernel_rfl
noncomputable def tr0:PC:=Zbi 44 [.agg bxP.c,.agg [I 500,I 1000,I 1,I 0,I (-1)]] (.tup [.agg [I 1000000,I 2000,I 1,.bool true],.bool true]) tn3
theorem Yav:PCOK Tryz.prog tr0:=Yj (Yi Yax awr0) Yax
theorem awr1:isR (.tup [.agg [I 3000000,I 2000,I 3,.bool true],.bool true]) (pcF (exT5 [34,37,44,49,60,68,73,98,118,119,186,233] tr0) 44 [.agg bxP.c,.agg [I 1500,I 1000,I (-1),I 0,I 1]])=true:=by kernel_rfl
noncomputable def tr1:PC:=Zbi 44 [.agg bxP.c,.agg [I 1500,I 1000,I (-1),I 0,I 1]] (.tup [.agg [I 3000000,I 2000,I 3,.bool true],.bool true]) tr0
theorem Yau:PCOK Tryz.prog tr1:=Yj (Yi Yav awr1) Yav
theorem awr2:isR (.tup [.agg [I 5000000,I 2000,I 1,.bool true],.bool true]) (pcF (exT5 [34,37,44,49,60,68,73,98,118,119,186,233] tr1) 44 [.agg bxP.c,.agg [I (-1500),I 1000,I 1,I 0,I 3]])=true:=by kernel_rfl
noncomputable def tr2:PC:=Zbi 44 [.agg bxP.c,.agg [I (-1500),I 1000,I 1,I 0,I 3]] (.tup [.agg [I 5000000,I 2000,I 1,.bool true],.bool true]) tr1
theorem Yat:PCOK Tryz.prog tr2:=Yj (Yi Yau awr2) Yau
theorem aw61:isRF (.tup [.isl 8 [[.nils,I 500,I 1000,I 1,I 2,I (-1),I 2,I 2],[.nils,I 500,I 1000,I (-1),I 2,I (-1),I (-2),I 3],[.nils,I 500,I 1000,I (-1),I (-2),I 1,I (-2),I 0],[.nils,I 500,I 1000,I 1,I (-2),I 1,I 2,I 1]],I 0]) (pcF (exT5 [34,37,44,49,60,68,73,98,118,119,186,233] tr2) 17 [.agg bxP.c,.agg [I 500,I 1000],I 0])=true:=by kernel_rfl
noncomputable def t61:PC:=Zbi 17 [.agg bxP.c,.agg [I 500,I 1000],I 0] (.tup [.isl 8 [[.nils,I 500,I 1000,I 1,I 2,I (-1),I 2,I 2],[.nils,I 500,I 1000,I (-1),I 2,I (-1),I (-2),I 3],[.nils,I 500,I 1000,I (-1),I (-2),I 1,I (-2),I 0],[.nils,I 500,I 1000,I 1,I (-2),I 1,I 2,I 1]],I 0]) tr2
theorem Ya4:PCOK Tryz.prog t61:=Yj (Zi5 Yat aw61) Yat
theorem aw62:isRF (.tup [.isl 1 [[I 1],[I 3],[I 1]],I 0]) (pcF (exT5 [17,34,37,44,49,60,68,73,98,118,119,186,233] t61) 9 [.agg bxP.c,.agg [I 500,I 1000],.agg [I 1,I 0],I 3])=true:=by kernel_rfl
noncomputable def t62:PC:=Zbi 9 [.agg bxP.c,.agg [I 500,I 1000],.agg [I 1,I 0],I 3] (.tup [.isl 1 [[I 1],[I 3],[I 1]],I 0]) t61
theorem Ye2:PCOK Tryz.prog t62:=Yj (Zi5 Ya4 aw62) Ya4
theorem aw12:isR (.bool true) (pcF (exT5 [9,17,34,37,44,49,60,68,73,98,118,119,186,233] t62) 7 [])=true:=by kernel_rfl
theorem Zmu:PCall Tryz.prog 7 [] ⟨.bool true,[]⟩:=Yi Ye2 aw12
theorem own:ownKnob Tryz.prog.godebug=none:=by kernel_rfl
theorem Ydy:laidOutB Tryz.prog=true:=by kernel_rfl
theorem Yh2:laidOutB Tryz.checked.prog=true:=by kernel_rfl
theorem Yh0:mapsRowed Tryz.checked.prog=true:=by kernel_rfl
theorem Ygu:Tryz.checked.prog.plainKeys=Rows.imageFollowsRow.plainKeys:=by kernel_rfl
theorem Ygx:Tryz.checked.prog.stopsHeard=true:=by kernel_rfl
theorem fMay:Tryz.checked.prog.mayEnter=true:=by kernel_rfl
theorem Ygv:Tryz.checked.prog.liftsFinal=Rows.imageFollowsRow.lifted:=by kernel_rfl
theorem Yh1:Tryz.checked.prog.make=some Rows.imageFollowsRow.make:=by kernel_rfl
theorem Zwf {a b c:Int} (hc:0<c):a*c<b*c↔a<b:=⟨fun h=>Int.lt_of_mul_lt_mul_right h (by omega),fun h=>Int.mul_lt_mul_of_pos_right h hc⟩
theorem Zwi {a b c:Int} (hc:0<c):a*c<=b*c↔a<=b:=⟨fun h=>Int.le_of_mul_le_mul_right h hc,fun h=>Int.mul_le_mul_of_nonneg_right h (by omega)⟩
theorem Znk {a c:Int} (hc:0<c):0<c*a↔0<a:=by rw [Rl]; have:=Zwf (a:=0) (b:=a) hc; rwa [Sq] at this
theorem Zwd {a c:Int} (hc:0<c):c*a<0↔a<0:=by rw [Rl]; have:=Zwf (a:=a) (b:=0) hc; rwa [Sq] at this
theorem nn_l {a c:Int} (hc:0<c):0<=c*a↔0<=a:=by rw [Rl]; have:=Zwi (a:=0) (b:=a) hc; rwa [Sq] at this
theorem np_l {a c:Int} (hc:0<c):c*a<=0↔a<=0:=by rw [Rl]; have:=Zwi (a:=a) (b:=0) hc; rwa [Sq] at this
structure P2d where
 x:Int
 y:Int
 d:Int
def bsP (w:Wl) (sx sy:Int) (p:P2d):Int:=bes w sx sy p.x p.y p.d
end Go.Proofs.YtanbhfpalahjcaaGreat
