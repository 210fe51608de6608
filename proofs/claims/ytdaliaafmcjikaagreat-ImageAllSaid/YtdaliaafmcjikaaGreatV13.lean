/- A part of the proof: lemmas. -/
import Derived.Test.YtdaliaafmcjikaaGreatV12
import Derived.Test.YtdaliaafmcjikaaGreatV7
import Derived.Test.YtdaliaafmcjikaaGreatV11
set_option linter.unusedVariables false
set_option linter.unusedSimpArgs false
set_option maxRecDepth 100000
set_option maxHeartbeats 16000000
open Bool renaming and_assoc->Pj,and_eq_true->Qc,eq_iff_iff->Se,false_and->Oi,not_eq_true'->Tq,true_and->Tx
open Go.IntKind renaming i64->Qb,wrap->Qa
open Go.RowKit.Below renaming refl->Dc
open Go.Sx.AV renaming asl->Qz
open Go.Sx.AV.int renaming injEq->Tl
open Go.Sx.AV.isl renaming injEq->Od
open Go.Sx.Done renaming mk->Ql
open Go.Sx.LpM renaming start->Wd,succ->Ry
open Go.Value renaming slice->Mw
open Int renaming le_of_lt->Qw,mul_comm->Rr,mul_eq_zero->Mp,mul_le_mul_of_nonneg_right->Qk,mul_neg->Sq,mul_nonneg->Rj,mul_one->Ss,mul_pos->Rq,natAbs_mul->Ng,natAbs_natCast->Mv,ofNat_dvd_left->Mu
open List renaming all_cons->Me,drop_eq_getElem_cons->Qi,drop_of_length_le->Qj,exists_cons_of_length_pos->Lz,getElem_mem->Qt,length_cons->Sb,length_nil->Pm,mem_cons->Rf
open List.cons renaming injEq->Qx
open Nat renaming beq->Qq,dvd_trans->Kd,gcd->Tt,gcd_dvd_left->Hh,gcd_dvd_right->Nn,gcd_mul_right->Jo,le_refl->Qd,zero_add->Ru,zero_le->Qn
open Option renaming isNone->Ju
namespace Go.Proofs.YtdaliaafmcjikaaGreat
open Go Go.Sx
theorem c113 (k:Int) (p:Pt):PCall Tryz.prog 166 [I k,p.av] ⟨I (offN k p.x p.y p.z),[]⟩:=by
 refine bs.pv (sx:=nos) Zc Tryz.func166 (by kernel_rfl) (by kernel_rfl) rfl ?_
 repeat'(first|refine wk0 ?_|(refine wk2 ?_ ?_<;>intro _)|refine wk4 ?_|fail);all_goals(conv=>whnf)
 all_goals exact Zb (by simp_all [offN])
def Zn0 (h:Hal) (w:Wl) (p:Pt):Bool:=!(decide (p.z<=0)||decide (Qa Qb (h.ht*p.d)<=p.z))&&(if w.fx=w.tx then decide (Qa Qb (imin w.fy w.ty*p.d)<p.y)&&decide (p.y<Qa Qb (imax w.fy w.ty*p.d)) else decide (Qa Qb (imin w.fx w.tx*p.d)<p.x)&&decide (p.x<Qa Qb (imax w.fx w.tx*p.d)))
def Zbv (h:Hal) (i:Int) (p:Pt):Bool:=if i<h.ws.length then Zn0 h (wlOf h.cs i.toNat) p else if i<(h.ws.length:Int)+2 then Yl h p.x p.y p.d else (kat h i).rc.holds p.x p.y p.d
theorem Zhp {h:Hal} {k:Nat} {p:Pt} (hk:k<h.ws.length):Zbv h k p=Zn0 h (wlOf h.cs k) p:=by unfold Zbv; rw [if_pos (by omega)]; rfl
theorem Zfy {h:Hal} {p:Pt}:Zbv h h.ws.length p=Yl h p.x p.y p.d:=by unfold Zbv; rw [if_neg (by omega),if_pos (by omega)]
theorem Zhq {h:Hal} {p:Pt}:Zbv h ((h.ws.length:Int)+1) p=Yl h p.x p.y p.d:=by unfold Zbv; rw [if_neg (by omega),if_pos (by omega)]
theorem Zje {h:Hal} {j:Nat} {p:Pt} (hj:j<h.ks.length):Zbv h ((h.ws.length:Int)+2+j) p=h.ks[j].rc.holds p.x p.y p.d:=by unfold Zbv; rw [if_neg (by omega),if_neg (by omega),Zs4 hj]
theorem c118 {h:Hal} {s:Stg} (g:Sit h s) {i:Int} (hi:SK h i) (p:Pt):PCall Tryz.prog 171 [.agg (stgL h s),I i,p.av] ⟨Bo (Zbv h i p),[]⟩:=by
 have f3:=g.ok.f.2.2.1
 have f4:=g.ok.f.2.2.2.1
 have hk0:=Zf (c87 g.ok.f s hi) (Zf (c183 g.ok.f p.x p.y p.d) (Ygx g))
 cases hi with
 | wall k hk =>
  have hk2:k<h.cs.length:=by have:=g.fine.le; omega
  rw [Zhp hk]
  obtain ⟨v1,v2⟩:=Znu (h:=h) (i:=k) (by omega)
  rw [v1,v2] at hk0
  have hk1:=Zf (Yfr g.ok.f hk2) hk0
  generalize wlOf h.cs k=w at *
  refine bs.pv (sx:=nos) hk1 Tryz.func171 (by kernel_rfl) (by kernel_rfl) rfl ?_
  repeat'(first|refine wk0 ?_|(refine wk2 ?_ ?_<;>intro _)|refine wk4 ?_|fail);all_goals(conv=>whnf)
  all_goals clear hk0 hk1
  all_goals first
   | (exfalso; rename_i hx; have hx:=of_decide_eq_true (show decide ((k:Int)=(h.ws.length:Int)+1)=true from hx); omega)
   | (exfalso; rename_i hx; have hx:=of_decide_eq_true (show decide ((k:Int)=(h.ws.length:Int))=true from hx); omega)
   | (refine Za ?_; simp_all [Zn0]; done)
   | (refine Za ?_; simp_all [Zn0]; intro _; omega)
   | (exfalso; simp_all; omega)
 | floor =>
  rw [Zfy]
  obtain ⟨v1,v2⟩:=Znu (h:=h) (i:=h.ws.length) (by omega)
  rw [v1,v2] at hk0
  refine bs.pv (sx:=nos) hk0 Tryz.func171 (by kernel_rfl) (by kernel_rfl) rfl ?_
  repeat'(first|refine wk1 ?_|(refine wk2 ?_ ?_<;>intro _)|refine wk4 ?_|fail);all_goals(conv=>whnf)
  exact Za rfl
 | ceil =>
  rw [Zhq]
  obtain ⟨v1,v2⟩:=Znu (h:=h) (i:=(h.ws.length:Int)+1) (by omega)
  rw [v1,v2] at hk0
  refine bs.pv (sx:=nos) hk0 Tryz.func171 (by kernel_rfl) (by kernel_rfl) rfl ?_
  repeat'(first|refine wk1 ?_|(refine wk2 ?_ ?_<;>intro _)|refine wk4 ?_|fail);all_goals(conv=>whnf)
  ·exact Za rfl
  all_goals (exfalso; simp_all; done)
 | can j hj =>
  rw [Zje hj]
  obtain ⟨v1,v2⟩:=Ybn hj
  rw [v1,v2] at hk0
  generalize h.ks[j]=c at *
  have hk1:=Zf (c193 c.rc p.x p.y p.d) hk0
  refine bs.pv (sx:=nos) hk1 Tryz.func171 (by kernel_rfl) (by kernel_rfl) rfl ?_
  repeat'(first|refine wk1 ?_|(refine wk2 ?_ ?_<;>intro _)|refine wk4 ?_|fail);all_goals(conv=>whnf)
  exact Za rfl
def Zvp (c:Can) (p:Pt):Bool:=Zf9 c p && !decide (p.x=Qa Qb (c.fx*p.d)) && !decide (p.x=Qa Qb (c.tx*p.d)) && !decide (p.y=Qa Qb (c.fy*p.d)) && !decide (p.y=Qa Qb (c.ty*p.d))
theorem c194 (c:Can) (p:Pt):PCall Tryz.prog 186 [.agg c.av,p.av] ⟨Bo (Zvp c p),[]⟩:=by
 have hk0:=Zf (c191 c p) Zc
 refine bs.pv (sx:=nos) hk0 Tryz.func186 (by kernel_rfl) (by kernel_rfl) rfl ?_
 unfold Zvp
 cases hb:Zf9 c p with
 | false =>
  rw [hb] at hk0
  repeat'(first|refine wk0 ?_|(refine wk2 ?_ ?_<;>intro _)|refine wk4 ?_|fail);all_goals(conv=>whnf)
  all_goals first
   | exact Za rfl
   | exact Za (by simp_all; done)
   | (exfalso; simp_all; done)
 | true =>
  rw [hb] at hk0
  repeat'(first|refine wk0 ?_|(refine wk2 ?_ ?_<;>intro _)|refine wk4 ?_|fail);all_goals(conv=>whnf)
  all_goals first
   | exact Za (by simp_all; done)
   | (exfalso; simp_all; done)
def Zvo (h:Hal) (l:Ln) (p:Pt):Bool:=within (l.along p) 1 (Qa Qb (Qa Qb (l.full*p.d)-1))&&within p.z 1 (Qa Qb (Qa Qb (h.ht*p.d)-1))
def Zb7 (h:Hal) (i:Int) (p:Pt):Bool:=if i<h.ws.length then Zvo h (lnOf h.cs i.toNat) p else if i<(h.ws.length:Int)+2 then Zw h p else Zvp (kat h i) p
theorem Zlr {h:Hal} {k:Nat} {p:Pt} (hk:k<h.ws.length):Zb7 h k p=Zvo h (lnOf h.cs k) p:=by unfold Zb7; rw [if_pos (by omega)]; rfl
theorem Zjd {h:Hal} {p:Pt}:Zb7 h h.ws.length p=Zw h p:=by unfold Zb7; rw [if_neg (by omega),if_pos (by omega)]
theorem Zls {h:Hal} {p:Pt}:Zb7 h ((h.ws.length:Int)+1) p=Zw h p:=by unfold Zb7; rw [if_neg (by omega),if_pos (by omega)]
theorem Zn1 {h:Hal} {j:Nat} {p:Pt} (hj:j<h.ks.length):Zb7 h ((h.ws.length:Int)+2+j) p=Zvp h.ks[j] p:=by unfold Zb7; rw [if_neg (by omega),if_neg (by omega),Zs4 hj]
theorem c121 {h:Hal} {s:Stg} (g:Sit h s) {i:Int} (hi:SK h i) (p:Pt):PCall Tryz.prog 129 [h.av,I i,p.av] ⟨Bo (Zb7 h i p),[]⟩:=by
 have f3:=g.ok.f.2.2.1
 have f4:=g.ok.f.2.2.2.1
 have hk0:=Zf (c89 g.ok.f hi) (Zf (c106 g.ok.f g.fine.le.2.2.1 (Zwy g.fine.st) p) (Zmc g.ok.f))
 cases hi with
 | wall k hk =>
  have hk2:k<h.cs.length:=by have:=g.fine.le; omega
  have e1:=Vk hk2
  have hn:=Zwy g.fine.st k hk2
  rw [show Zdf h k=(0,(k:Int)) by unfold Zdf; rw [if_pos (by omega)]] at hk0
  rw [Zlr hk]
  generalize lnOf h.cs k=l at *
  obtain ⟨x,y,dx,dy⟩:=l
  have ha:=Vq (res:=⟨I ((Ln.mk x y dx dy).along ⟨p.x,p.y,p.z,p.d⟩),[]⟩) hn
  have hb:=Vq (res:=⟨I (Ln.mk x y dx dy).full,[]⟩) hn
  refine bs.pv (sx:=nos) hk0 Tryz.func129 (by kernel_rfl) (by kernel_rfl) rfl ?_
  repeat'(first|refine wk0 ?_|(refine wk2 ?_ ?_<;>intro _)|refine wk4 ?_|fail);all_goals(conv=>whnf)
  all_goals clear hk0
  all_goals first
   | (refine Za ?_; simp_all [Zvo]; done)
   | (exfalso; simp_all; done)
   | (exfalso; simp_all; omega)
 | floor =>
  rw [show Zdf h h.ws.length=(1,0) by unfold Zdf; rw [if_neg (by omega),if_pos rfl]] at hk0
  rw [Zjd]
  refine bs.pv (sx:=nos) hk0 Tryz.func129 (by kernel_rfl) (by kernel_rfl) rfl ?_
  repeat'(first|refine wk1 ?_|(refine wk2 ?_ ?_<;>intro _)|refine wk4 ?_|fail);all_goals(conv=>whnf)
  exact Za rfl
 | ceil =>
  rw [show Zdf h ((h.ws.length:Int)+1)=(2,0) by unfold Zdf; rw [if_neg (by omega),if_neg (by omega),if_pos rfl]] at hk0
  rw [Zls]
  refine bs.pv (sx:=nos) hk0 Tryz.func129 (by kernel_rfl) (by kernel_rfl) rfl ?_
  repeat'(first|refine wk1 ?_|(refine wk2 ?_ ?_<;>intro _)|refine wk4 ?_|fail);all_goals(conv=>whnf)
  exact Za rfl
 | can j hj =>
  rw [show Zdf h ((h.ws.length:Int)+2+j)=(3,(j:Int)) by unfold Zdf; rw [if_neg (by omega),if_neg (by omega),if_neg (by omega)]; simp; omega] at hk0
  rw [Zn1 hj]
  have e1:=Zb6 hj
  generalize h.ks[j]=c at *
  have hk1:=Zf (c194 c p) hk0
  refine bs.pv (sx:=nos) hk1 Tryz.func129 (by kernel_rfl) (by kernel_rfl) rfl ?_
  repeat'(first|refine wk1 ?_|(refine wk2 ?_ ?_<;>intro _)|refine wk4 ?_|fail);all_goals(conv=>whnf)
  exact Za rfl
def valN (k x y z:Int):Int:=if k=0 then x else if k=1 then y else if k=2 then z else if k=3 then x+y else x-y
theorem Zm9 {w:Wl} {n sx sy:Int} (h:Str w n sx sy):plW w=if sx=0 then (0,w.fx) else if sy=0 then (1,w.fy) else if sx=sy then (4,w.fx-w.fy) else (3,w.fx+w.fy):=by
 have hn:=h.hn
 have b1:=h.b1
 have b2:=h.b2
 have hxy:=h.hxy
 have w4:Qa Qb (w.fx-w.fy)=w.fx-w.fy:=W_eq (by omega) (by omega)
 have w3:Qa Qb (w.fx+w.fy)=w.fx+w.fy:=W_eq (by omega) (by omega)
 unfold plW
 rw [h.dx,h.dy,w3,w4]
 rcases h.hx with rfl|rfl|rfl<;>rcases h.hy with rfl|rfl|rfl<;>(try (exact absurd ⟨rfl,rfl⟩ hxy))<;>simp only [Int.mul_zero,Ss,Sq]<;>(repeat' split)<;>first|rfl|(exfalso; omega)
theorem Zvs {h:Hal} {w:Wl} {n sx sy:Int} (hs:Str w n sx sy) {p:Pt} (hp:PtOk p.x p.y p.d) (ht:2<=h.ht/\h.ht<=5000) (hpl:valN (plW w).1 p.x p.y p.z=(plW w).2*p.d):Zn0 h w p=Zvo h w.ln p:=by
 obtain ⟨x,y,z,d⟩:=p
 dsimp only at hp hpl
 have hd:=hp.hd
 have hD:=hp.hD
 have nd:=Yef hs.hn hs.nle hd
 have a1:=Zj hs.b1 hd
 have a2:=Zj hs.b2 hd
 have a3:=Zj hs.b3 hd
 have a4:=Zj hs.b4 hd
 have hz:Qa Qb (h.ht*d)=h.ht*d/\Qa Qb (h.ht*d-1)=h.ht*d-1/\0<h.ht*d:=by
  have:=Zj (f:=h.ht) (d:=d) (by omega) hd
  have:=Rq (a:=h.ht) (b:=d) (by omega) hd
  exact ⟨W_eq (by omega) (by omega),W_eq (by omega) (by omega),this⟩
 unfold Zn0 Zvo
 rw [Zfe hs hp,Znm hs]
 rw [Zm9 hs] at hpl
 unfold valN at hpl
 rw [Zay,Zay,Zaz,Zaz]
 dsimp only
 rw [hz.1,hz.2.1]
 rw [Zb9 hd,Zb9 hd,Zca hd,Zca hd]
 rw [W_eq (n:=min (w.fx*d) (w.tx*d)) (by omega) (by omega),W_eq (n:=max (w.fx*d) (w.tx*d)) (by omega) (by omega),W_eq (n:=min (w.fy*d) (w.ty*d)) (by omega) (by omega),W_eq (n:=max (w.fy*d) (w.ty*d)) (by omega) (by omega)]
 have etx:=hs.tx
 have ety:=hs.ty
 have b1:=hs.b1
 have b2:=hs.b2
 have hn:=hs.hn
 have cnd:(w.fx=w.tx)↔sx=0:=by
  rw [etx]
  constructor
  ·intro e
   have:n*sx=0:=by omega
   rcases Mp.1 this with h|h
   ·omega
   ·exact h
  ·intro e; rw [e]; omega
 have ex:w.tx*d=w.fx*d+sx*(n*d):=by rw [etx]; grind
 have ey:w.ty*d=w.fy*d+sy*(n*d):=by rw [ety]; grind
 have full:n*(sx*sx+sy*sy)*d=(sx*sx+sy*sy)*(n*d):=by grind
 have d3:(w.fx+w.fy)*d=w.fx*d+w.fy*d:=by grind
 have d4:(w.fx-w.fy)*d=w.fx*d-w.fy*d:=by grind
 rw [full,ex,ey]
 unfold alo
 simp only [cnd]
 have hx:=hs.hx
 have hy:=hs.hy
 have hxy:=hs.hxy
 clear full etx ety cnd hs hp hz
 generalize w.fx*d=A at *
 generalize w.fy*d=C at *
 generalize n*d=N at *
 generalize h.ht*d=H at *
 rcases hx with rfl|rfl|rfl<;>rcases hy with rfl|rfl|rfl<;>(try (exact absurd ⟨rfl,rfl⟩ hxy))<;>simp [IntKind.wrap_i64] at hpl ⊢ <;> rw [Se]<;>simp [within_iff]
 all_goals omega
structure Crs where
 su:Int
 fx:Int
 fy:Int
 fz:Int
 to:Pt
abbrev Crs.av (c:Crs):AV:=.agg [I c.su,I c.fx,I c.fy,I c.fz,I c.to.x,I c.to.y,I c.to.z,I c.to.d]
def crF (pl:Int × Int) (c:Crs):Int:=valN pl.1 c.fx c.fy c.fz-pl.2
def crG (pl:Int × Int) (c:Crs):Int:=valN pl.1 c.to.x c.to.y c.to.z-pl.2*c.to.d
def crPt (c:Crs) (u v:Int):Pt:=⟨c.fx*u+c.to.x*v,c.fy*u+c.to.y*v,c.fz*u+c.to.z*v,u+c.to.d*v⟩
def redP (p:Pt):Pt:=⟨p.x / (g4 p:Int),p.y / (g4 p:Int),p.z / (g4 p:Int),p.d / (g4 p:Int)⟩
def iabs (n:Int):Int:=if n<0 then -n else n
def Ve (pl:Int × Int) (c:Crs):Pt:=redP (crPt c (iabs (crG pl c)) (iabs (crF pl c)))
def ptZ:Pt:=⟨0,0,0,0⟩
def Zag (well:Pt->Bool) (pl:Int × Int) (c:Crs):Pt × Int :=
 if 0<=sgn (crF pl c)*sgn (crG pl c) then (ptZ,12)
 else if well (Ve pl c) then (if 100000<(Ve pl c).d then (ptZ,8) else (Ve pl c,0))
 else (ptZ,12)
structure CrOk (pl:Int × Int) (c:Crs):Prop where
 k0:0<=pl.1
 k4:pl.1<=4
 at' : -10000<=pl.2/\pl.2<=10000
 fx : -45000<=c.fx/\c.fx<=45000
 fy : -45000<=c.fy/\c.fy<=45000
 fz : -45000<=c.fz/\c.fz<=45000
 d0:0<c.to.d
 d1:c.to.d<=100000
 x : -(5000*c.to.d)<=c.to.x/\c.to.x<=5000*c.to.d
 y : -(5000*c.to.d)<=c.to.y/\c.to.y<=5000*c.to.d
 z : -(5000*c.to.d)<=c.to.z/\c.to.z<=5000*c.to.d
theorem Zyp {pl:Int × Int} {c:Crs} (h:CrOk pl c):Qa Qb (offN pl.1 c.fx c.fy c.fz-pl.2)=crF pl c/\Qa Qb (offN pl.1 c.fx c.fy c.fz-Qa Qb (pl.2*1))=crF pl c /\ -100000<=crF pl c/\crF pl c<=100000:=by
 obtain ⟨h1,h2,h3,h4,h5,h6,_⟩:=h
 unfold crF valN offN
 rw [Ss,W_eq (n:=pl.2) (by omega) (by omega)]
 repeat' split
 all_goals (try rw [W_eq (n:=c.fx+c.fy) (by omega) (by omega)])
 all_goals (try rw [W_eq (n:=c.fx-c.fy) (by omega) (by omega)])
 all_goals (refine ⟨W_eq (by omega) (by omega),W_eq (by omega) (by omega),by omega,by omega⟩)
theorem Zyo {pl:Int × Int} {c:Crs} (h:CrOk pl c):Qa Qb (offN pl.1 c.to.x c.to.y c.to.z-Qa Qb (pl.2*c.to.d))=crG pl c /\ -2000000000<=crG pl c/\crG pl c<=2000000000:=by
 obtain ⟨h1,h2,h3,h4,h5,h6,h7,h8,h9,h10,h11⟩:=h
 have m:=Zn (a:=pl.2) (b:=c.to.d) (A:=10000) (B:=100000) (by omega) (by omega)
 unfold crG valN offN
 rw [W_eq (n:=pl.2*c.to.d) (by omega) (by omega)]
 generalize pl.2*c.to.d=m at *
 repeat' split
 all_goals (try rw [W_eq (n:=c.to.x+c.to.y) (by omega) (by omega)])
 all_goals (try rw [W_eq (n:=c.to.x-c.to.y) (by omega) (by omega)])
 all_goals (refine ⟨W_eq (by omega) (by omega),by omega,by omega⟩)
theorem Zry {pl:Int × Int} {c:Crs} (h:CrOk pl c) {u v:Int} (hu:0<=u/\u<=2000000000) (hv:0<=v/\v<=100000) :
  (-90000000000000<=c.fx*u/\c.fx*u<=90000000000000)/\(-90000000000000<=c.fy*u/\c.fy*u<=90000000000000)/\(-90000000000000<=c.fz*u/\c.fz*u<=90000000000000) /\
  (-50000000000000<=c.to.x*v/\c.to.x*v<=50000000000000)/\(-50000000000000<=c.to.y*v/\c.to.y*v<=50000000000000)/\(-50000000000000<=c.to.z*v/\c.to.z*v<=50000000000000)/\(0<=c.to.d*v/\c.to.d*v<=10000000000):=by
 obtain ⟨h1,h2,h3,h4,h5,h6,h7,h8,h9,h10,h11⟩:=h
 have m1:=Zn (a:=c.fx) (b:=u) (A:=45000) (B:=2000000000) (by omega) (by omega)
 have m2:=Zn (a:=c.fy) (b:=u) (A:=45000) (B:=2000000000) (by omega) (by omega)
 have m3:=Zn (a:=c.fz) (b:=u) (A:=45000) (B:=2000000000) (by omega) (by omega)
 have m4:=Zn (a:=c.to.x) (b:=v) (A:=500000000) (B:=100000) (by omega) (by omega)
 have m5:=Zn (a:=c.to.y) (b:=v) (A:=500000000) (B:=100000) (by omega) (by omega)
 have m6:=Zn (a:=c.to.z) (b:=v) (A:=500000000) (B:=100000) (by omega) (by omega)
 have m7:=Zn (a:=c.to.d) (b:=v) (A:=100000) (B:=100000) (by omega) (by omega)
 have m8:=Rj (Qw h7) hv.1
 refine ⟨by omega,by omega,by omega,by omega,by omega,by omega,by omega,by omega⟩
structure Big (p:Pt):Prop where
 x : -140000000000000<=p.x/\p.x<=140000000000000
 y : -140000000000000<=p.y/\p.y<=140000000000000
 z : -140000000000000<=p.z/\p.z<=140000000000000
 d:0<p.d/\p.d<=12000000000
theorem Big.wf {p:Pt} (h:Big p):p.wf:=by
 obtain ⟨h1,h2,h3,h4⟩:=h
 exact ⟨⟨by omega,by omega⟩,⟨by omega,by omega⟩,⟨by omega,by omega⟩,⟨by omega,by omega⟩⟩
theorem Ybi {pl:Int × Int} {c:Crs} (h:CrOk pl c) {u v:Int} (hu:0<u/\u<=2000000000) (hv:0<v/\v<=100000):Big (crPt c u v):=by
 have hb:=Zry h (u:=u) (v:=v) (by omega) (by omega)
 unfold crPt
 refine ⟨?_,?_,?_,?_⟩<;>dsimp only<;>omega
theorem Yhc (p:Pt):((g4 p:Int) ∣ p.x/\(g4 p:Int) ∣ p.y)/\((g4 p:Int) ∣ p.z/\(g4 p:Int) ∣ p.d):=by
 unfold g4
 have a:=Hh (Tt p.x.natAbs p.y.natAbs) (Tt p.z.natAbs p.d.natAbs)
 have b:=Nn (Tt p.x.natAbs p.y.natAbs) (Tt p.z.natAbs p.d.natAbs)
 exact ⟨⟨Mu.2 (Kd a (Hh _ _)),Mu.2 (Kd a (Nn _ _))⟩,⟨Mu.2 (Kd b (Hh _ _)),Mu.2 (Kd b (Nn _ _))⟩⟩
theorem Zc0 {a g:Int} (hg:0<g) (h:g ∣ a):a.tdiv g=a / g/\a / g*g=a/\(∀ B,-B<=a/\a<=B -> -B<=a / g/\a / g<=B):=by
 obtain ⟨k,rfl⟩:=h
 rw [Int.mul_tdiv_cancel_left _ (by omega),Int.mul_ediv_cancel_left _ (by omega)]
 refine ⟨rfl,Rr _ _,fun B hB=>?_⟩
 rcases Int.lt_or_le k 0 with hk|hk
 ·have:=Qk (show 1<=g by omega) (show 0 <= -k by omega)
  have e:g * -k = -(g*k):=Sq _ _
  omega
 ·have:=Qk (show 1<=g by omega) hk
  omega
theorem Ze0 {p:Pt} (h:Big p):(0<(g4 p:Int)/\(g4 p:Int)<=12000000000)/\(Qa Qb (p.x.tdiv (g4 p))=(redP p).x/\Qa Qb (p.y.tdiv (g4 p))=(redP p).y/\Qa Qb (p.z.tdiv (g4 p))=(redP p).z/\Qa Qb (p.d.tdiv (g4 p))=(redP p).d)/\Big (redP p)/\((redP p).x*g4 p=p.x/\(redP p).y*g4 p=p.y/\(redP p).z*g4 p=p.z/\(redP p).d*g4 p=p.d):=by
 obtain ⟨g1,g2⟩:=Yhb h.wf h.d.1
 obtain ⟨⟨d1,d2⟩,d3,d4⟩:=Yhc p
 have hg:(0:Int)<g4 p:=by omega
 obtain ⟨x1,x2,x3⟩:=Zc0 hg d1
 obtain ⟨y1,y2,y3⟩:=Zc0 hg d2
 obtain ⟨z1,z2,z3⟩:=Zc0 hg d3
 obtain ⟨e1,e2,e3⟩:=Zc0 hg d4
 obtain ⟨h1,h2,h3,h4⟩:=h
 have x3:=x3 140000000000000 h1
 have y3:=y3 140000000000000 h2
 have z3:=z3 140000000000000 h3
 have e3:=e3 12000000000 (by omega)
 have hd:0<p.d / (g4 p:Int):=by
  rcases Int.lt_or_le 0 (p.d / (g4 p:Int)) with k|k
  ·exact k
  ·have:=Rj (show 0 <= -(p.d / (g4 p:Int)) by omega) (Qw hg)
   rw [Int.neg_mul] at this
   omega
 refine ⟨by omega,⟨?_,?_,?_,?_⟩,⟨x3,y3,z3,hd,e3.2⟩,x2,y2,z2,e2⟩
 ·rw [x1]; exact W_eq (by omega) (by omega)
 ·rw [y1]; exact W_eq (by omega) (by omega)
 ·rw [z1]; exact W_eq (by omega) (by omega)
 ·rw [e1]; exact W_eq (by omega) (by omega)
theorem Big.ok {p:Pt} (h:Big p):PtOk p.x p.y p.d:=by
 obtain ⟨h1,h2,h3,h4⟩:=h
 exact ⟨h4.1,by omega,by omega,by omega⟩
theorem Zny {pl:Int × Int} {c:Crs} (h:CrOk pl c) (hs:¬ 0<=sgn (crF pl c)*sgn (crG pl c)):(0<iabs (crG pl c)/\iabs (crG pl c)<=2000000000)/\(0<iabs (crF pl c)/\iabs (crF pl c)<=100000):=by
 have h1:=(Zyp h).2.2
 have h2:=(Zyo h).2
 have h3:=sgn_mul_neg.1 (show sgn (crF pl c)*sgn (crG pl c)<0 by omega)
 unfold iabs
 refine ⟨?_,?_⟩<;>split<;>omega
theorem Zcu {pl:Int × Int} {c:Crs} (h:CrOk pl c) (hs:¬ 0<=sgn (crF pl c)*sgn (crG pl c)):Big (crPt c (iabs (crG pl c)) (iabs (crF pl c))):=by
 obtain ⟨a,b⟩:=Zny h hs
 exact Ybi h a b
theorem Zzs (k a b c a' b' c' u v:Int):valN k (a*u+a'*v) (b*u+b'*v) (c*u+c'*v)=valN k a b c*u+valN k a' b' c'*v:=by
 unfold valN
 repeat' split
 all_goals grind
theorem Zzr (k a b c g:Int):valN k (a*g) (b*g) (c*g)=valN k a b c*g:=by
 unfold valN
 repeat' split
 all_goals grind
theorem Zge {pl:Int × Int} {c:Crs} (h:CrOk pl c) (hs:¬ 0<=sgn (crF pl c)*sgn (crG pl c)):valN pl.1 (Ve pl c).x (Ve pl c).y (Ve pl c).z=pl.2*(Ve pl c).d:=by
 obtain ⟨⟨g1,_⟩,_,_,e1,e2,e3,e4⟩:=Ze0 (Zcu h hs)
 have h3:=sgn_mul_neg.1 (show sgn (crF pl c)*sgn (crG pl c)<0 by omega)
 have k:valN pl.1 (crPt c (iabs (crG pl c)) (iabs (crF pl c))).x (crPt c (iabs (crG pl c)) (iabs (crF pl c))).y (crPt c (iabs (crG pl c)) (iabs (crF pl c))).z=pl.2*(crPt c (iabs (crG pl c)) (iabs (crF pl c))).d:=by
  unfold crPt
  dsimp only
  rw [Zzs]
  have hF:valN pl.1 c.fx c.fy c.fz=crF pl c+pl.2:=by unfold crF; omega
  have hG:valN pl.1 c.to.x c.to.y c.to.z=crG pl c+pl.2*c.to.d:=by unfold crG; omega
  rw [hF,hG]
  have:crF pl c*iabs (crG pl c)+crG pl c*iabs (crF pl c)=0:=by
   unfold iabs
   rcases h3 with ⟨p1,p2⟩|⟨p1,p2⟩
   ·rw [if_neg (by omega),if_pos p1]; grind
   ·rw [if_pos p2,if_neg (by omega)]; grind
  grind
 unfold Ve
 rw [<-e1,<-e2,<-e3,<-e4,Zzr] at k
 generalize redP (crPt c (iabs (crG pl c)) (iabs (crF pl c)))=q at *
 have k2:(valN pl.1 q.x q.y q.z-pl.2*q.d)*(g4 (crPt c (iabs (crG pl c)) (iabs (crF pl c))):Int)=0:=by
  rw [Int.sub_mul,k]; grind
 rcases Mp.1 k2 with k3|k3<;>omega
theorem Zgf {h:Hal} (g:h.fine) {j:Nat} (hj:j<h.ks.length):CanOk h.ks[j]/\Zdh h.ht none h.ks[j].hs=0:=by
 have:=g.can j hj
 unfold Zia at this
 split at this
 ·split at this
  ·cases this
  ·split at this
   ·cases this
   ·split at this
    ·cases this
    ·split at this
     ·cases this
     ·split at this
      ·split at this
       ·rename_i hz
        split at this
        ·rename_i hp
         split at this
         ·cases this
         ·rename_i hd
          simp only [Qc] at hp
          simp only [Bool.or_eq_true,decide_eq_true_eq,not_or] at hd
          exact ⟨⟨within_iff.1 hp.1.1.1,within_iff.1 hp.1.1.2,within_iff.1 hp.1.2,within_iff.1 hp.2,hd.1,hd.2⟩,hz⟩
        ·cases this
       ·rename_i hx; exact absurd this hx
      ·cases this
 ·cases this
theorem ite9 {b:Bool} {x:Int} (h:(if b=true then 9 else x)=0):x=0:=by
 cases b
 ·exact h
 ·rw [if_pos rfl] at h; exact absurd h (by decide)
theorem Yg7 {ht:Int} (h0:2<=ht/\ht<=5000):∀ (l:List Int) (p:Option Int),Zdh ht p l=0->∀ n∈l,1<=n/\n<ht
 | [],_,_,n,hn=>by simp at hn
 | m::l,p,h,n,hn=>by
  rw [Zh5] at h
  split at h
  ·rename_i hw
   rw [W_eq (by omega) (by omega),within_iff] at hw
   have h2:=ite9 h
   rcases Rf.1 hn with rfl|hn
   ·omega
   ·exact Yg7 h0 l _ h2 n hn
  ·cases h
theorem Ztb {h:Hal} {s:Stg} (g:Sit h s) {j:Nat} (hj:j<h.ks.length):1<=Us h s j/\Us h s j<h.ht:=by
 obtain ⟨n,e1,e2,e3,e4⟩:=Zkg g.set hj
 have hm:Us h s j∈h.ks[j].hs:=by
  have:=List.mem_of_getElem? e4
  simp only [nl,List.mem_map,Qx,Tl,true_and,and_true] at this
  obtain ⟨m,hm,rfl⟩:=this
  exact hm
 exact Yg7 g.fine.ht _ _ (Zgf g.fine hj).2 _ hm
theorem Zq0 {c:Can} (h:CanOk c):RcOk c.rc:=by
 obtain ⟨h1,h2,h3,h4,h5,h6⟩:=h
 obtain ⟨⟨e1,e2⟩,e3,e4⟩:=Zf4 c
 refine ⟨?_,?_,?_,?_,?_,?_⟩<;>omega
theorem Zm8 {h:Hal} {s:Stg} (g:Sit h s) {i:Int} (hi:SK h i):(0<=(Zh h s i).1/\(Zh h s i).1<=4)/\(-10000<=(Zh h s i).2/\(Zh h s i).2<=10000):=by
 have ht:=g.fine.ht
 cases hi with
 | wall k hk =>
  have hk2:k<h.cs.length:=by have:=g.fine.le; omega
  obtain ⟨n,sx,sy,hs⟩:=g.fine.st k hk2
  rw [Zac hk,Zm9 hs]
  have:=hs.b1
  have:=hs.b2
  repeat' split
  all_goals (dsimp only; omega)
 | floor=>rw [Zaq]; dsimp only; omega
 | ceil=>rw [Zbj]; dsimp only; omega
 | can j hj =>
  rw [Zck]
  have:=Ztb g hj
  dsimp only; omega
theorem Ydp {h:Hal} {s:Stg} (g:Sit h s) {i:Int} (hi:SK h i) {p:Pt} (hp:PtOk p.x p.y p.d) (hpl:valN (Zh h s i).1 p.x p.y p.z=(Zh h s i).2*p.d):Zbv h i p=Zb7 h i p:=by
 cases hi with
 | wall k hk =>
  have hk2:k<h.cs.length:=by have:=g.fine.le; omega
  obtain ⟨n,sx,sy,hs⟩:=g.fine.st k hk2
  rw [Zac hk] at hpl
  rw [Zhp hk,Zlr hk,Zcb]
  exact Zvs hs hp g.fine.ht hpl
 | floor =>
  rw [Zfy,Zjd]
  exact Uq g.fine.st p.z hp
 | ceil =>
  rw [Zhq,Zls]
  exact Uq g.fine.st p.z hp
 | can j hj =>
  rw [Zje hj,Zn1 hj]
  have hr:=Zq0 (Zgf g.fine hj).1
  have hd:0<p.d/\p.d<=1000000000000000:=by have:=hp.hd; have:=hp.hD; omega
  have c0:=(Zgf g.fine hj).1
  generalize h.ks[j]=c at *
  obtain ⟨⟨e1,e2⟩,e3,e4⟩:=Zf4 c
  have c1:=Zj c0.b1 hd.1
  have c2:=Zj c0.b2 hd.1
  have c3:=Zj c0.b3 hd.1
  have c4:=Zj c0.b4 hd.1
  rw [Se,Zez hr hd,e1,e2,e3,e4]
  unfold Zvp Zf9
  rw [Zay,Zay,Zaz,Zaz,Zb9 hd.1,Zca hd.1,Zb9 hd.1,Zca hd.1]
  rw [W_eq (n:=c.fx*p.d) (by omega) (by omega),W_eq (n:=c.tx*p.d) (by omega) (by omega),W_eq (n:=c.fy*p.d) (by omega) (by omega),W_eq (n:=c.ty*p.d) (by omega) (by omega)]
  rw [W_eq (n:=min (c.fx*p.d) (c.tx*p.d)) (by omega) (by omega),W_eq (n:=max (c.fx*p.d) (c.tx*p.d)) (by omega) (by omega),W_eq (n:=min (c.fy*p.d) (c.ty*p.d)) (by omega) (by omega),W_eq (n:=max (c.fy*p.d) (c.ty*p.d)) (by omega) (by omega)]
  simp only [Qc,Tq,decide_eq_false_iff_not,within_iff]
  omega
theorem Zym {p:Pt} (hb:Big p) {X Y Z D:Int} (hX:X=p.x) (hY:Y=p.y) (hZ:Z=p.z) (hD:D=p.d) :
  gcds [I X,I Y]=some ⟨I (Qa Qb ((Tt p.x.natAbs p.y.natAbs:Nat):Int)),[]⟩/\gcds [I Z,I D]=some ⟨I (Qa Qb ((Tt p.z.natAbs p.d.natAbs:Nat):Int)),[]⟩/\gcds [I (Qa Qb ((Tt p.x.natAbs p.y.natAbs:Nat):Int)),I (Qa Qb ((Tt p.z.natAbs p.d.natAbs:Nat):Int))]=some ⟨I (g4 p:Int),[]⟩ /\
  Qa Qb (X.tdiv (g4 p))=(redP p).x/\Qa Qb (Y.tdiv (g4 p))=(redP p).y/\Qa Qb (Z.tdiv (g4 p))=(redP p).z/\Qa Qb (D.tdiv (g4 p))=(redP p).d/\(0<(g4 p:Int)/\(g4 p:Int)<=12000000000):=by
 subst hX hY hZ hD
 have hw:=hb.wf
 have h3':=Znl (Zu2 ((Tt p.x.natAbs p.y.natAbs:Nat):Int)) (Zu2 ((Tt p.z.natAbs p.d.natAbs:Nat):Int))
 rw [Zsw (Yc8 hw.x hw.y),Zsw (Yc8 hw.z hw.d)] at h3'
 change gcds _=some ⟨I (Qa Qb ((g4 p:Nat):Int)),[]⟩ at h3'
 obtain ⟨g1,⟨r1,r2,r3,r4⟩,_,_⟩:=Ze0 hb
 rw [W_eq (n:=((g4 p:Nat):Int)) (by omega) (by omega)] at h3'
 exact ⟨Znl hw.x hw.y,Znl hw.z hw.d,h3',r1,r2,r3,r4,g1⟩
theorem Yha {p:Pt} (h:Big p):g4 (redP p)=1:=by
 obtain ⟨⟨g1,_⟩,_,_,e1,e2,e3,e4⟩:=Ze0 h
 have key:g4 p=g4 (redP p)*g4 p:=by
  have hx:p.x.natAbs=(redP p).x.natAbs*g4 p:=by rw [<-e1,Ng,Mv]
  have hy:p.y.natAbs=(redP p).y.natAbs*g4 p:=by rw [<-e2,Ng,Mv]
  have hz:p.z.natAbs=(redP p).z.natAbs*g4 p:=by rw [<-e3,Ng,Mv]
  have hd:p.d.natAbs=(redP p).d.natAbs*g4 p:=by rw [<-e4,Ng,Mv]
  have:g4 p=Tt (Tt ((redP p).x.natAbs*g4 p) ((redP p).y.natAbs*g4 p)) (Tt ((redP p).z.natAbs*g4 p) ((redP p).d.natAbs*g4 p)):=by rw [<-hx,<-hy,<-hz,<-hd]; rfl
  rw [Jo,Jo,Jo] at this
  exact this
 have h0:0<g4 p:=by omega
 have:g4 (redP p)*g4 p=1*g4 p:=by omega
 exact Nat.eq_of_mul_eq_mul_right h0 this
def crsE (h:Hal) (s:Stg) (c:Crs):Int:=if surE h s c.su=0 then (if Un c.fx c.fy c.fz=0 then Xm c.to else Un c.fx c.fy c.fz) else surE h s c.su
theorem Zyn {h:Hal} {s:Stg} {c:Crs} (hk:h.ok) (hs:s.few) (h0:crsE h s c=0):Sit h s/\SK h c.su/\CrOk (Zh h s c.su) c/\surE h s c.su=0/\Un c.fx c.fy c.fz=0/\Xm c.to=0:=by
 unfold crsE at h0
 split at h0
 ·rename_i h1
  split at h0
  ·rename_i h2
   have e:=Zn8 h1
   have g:=Zlz hk hs e.1
   have hi:=Zue e.2.1 e.2.2
   obtain ⟨⟨b1,b2⟩,b3⟩:=Zm8 g hi
   obtain ⟨p1,p2,_,p4⟩:=Ze1 h0
   unfold ptIn at p4
   simp only [Qc,within_iff] at p4
   have h3:=h2
   unfold Un img at h3
   split at h3
   ·rename_i h4
    simp only [Qc,within_iff] at h4
    exact ⟨g,hi,⟨b1,b2,b3,by omega,by omega,by omega,p1,p2,p4.1.1,p4.1.2,p4.2⟩,h1,h2,h0⟩
   ·cases h3
  ·rename_i h2; exact absurd h0 h2
 ·rename_i h1; exact absurd h0 h1
abbrev crAV (r:Pt × Int):AV:=.tup [r.1.av,I r.2]
theorem Zfa {well:Pt->Bool} {pl:Int × Int} {c:Crs} (hs:0<=sgn (crF pl c)*sgn (crG pl c)):Zag well pl c=(ptZ,12):=by unfold Zag; rw [if_pos hs]
theorem Ztp {well:Pt->Bool} {pl:Int × Int} {c:Crs} (hw:well (Ve pl c)=false):Zag well pl c=(ptZ,12):=by unfold Zag; rw [hw]; split<;>rfl
theorem Zpy {well:Pt->Bool} {pl:Int × Int} {c:Crs} (hs:¬ 0<=sgn (crF pl c)*sgn (crG pl c)) (hw:well (Ve pl c)=true) (hd:100000<(Ve pl c).d):Zag well pl c=(ptZ,8):=by unfold Zag; rw [if_neg hs,hw,if_pos rfl,if_pos hd]
theorem Zto {well:Pt->Bool} {pl:Int × Int} {c:Crs} (hs:¬ 0<=sgn (crF pl c)*sgn (crG pl c)) (hw:well (Ve pl c)=true) (hd:¬ 100000<(Ve pl c).d):Zag well pl c=(Ve pl c,0):=by unfold Zag; rw [if_neg hs,hw,if_pos rfl,if_neg hd]
theorem c42 {h:Hal} {s:Stg} {c:Crs} (g:Sit h s) (hi:SK h c.su) (ho:CrOk (Zh h s c.su) c):PCall Tryz.prog 71 [h.av,s.av,c.av] ⟨crAV (Zag (Zb7 h c.su) (Zh h s c.su) c),[]⟩:=by
 obtain ⟨f1,f2,f3⟩:=Zyp ho
 obtain ⟨g1,g2⟩:=Zyo ho
 have hk0:=Zf (c59 g hi) Ygy
 generalize hpl:Zh h s c.su=pl at *
 have hkk:0<=pl.1/\pl.1<5:=⟨ho.k0,by have:=ho.k4; omega⟩
 have hk1:PCOK Tryz.prog (ins 22 r35 (ins 23 (one [h.av,s.av,I c.su] ⟨P2 pl.1 pl.2,[]⟩) kGc)):=Zl (fun a res h=>by
  unfold r35 at h; split at h
  ·obtain ⟨h1,rfl⟩:=Zam h
   have:=of_decide_eq_true h1
   exact c35 _ _ _ _ _ this.1 this.2
  ·cases h) hk0
 have a1:asr (decide (0<=pl.1/\pl.1<5)) ⟨I (off pl.1 pl.2 c.fx c.fy c.fz 1),[]⟩=some ⟨I (crF pl c),[]⟩:=by rw [Vq hkk]; exact congrArg some (congrArg (PRes.mk · []) (congrArg I f2))
 have a2:asr (decide (0<=pl.1/\pl.1<5)) ⟨I (off pl.1 pl.2 c.to.x c.to.y c.to.z c.to.d),[]⟩=some ⟨I (crG pl c),[]⟩:=by rw [Vq hkk]; exact congrArg some (congrArg (PRes.mk · []) (congrArg I g1))
 by_cases hs:0<=sgn (crF pl c)*sgn (crG pl c)
 ·rw [Zfa hs]
  have hs2:0<=Qa Qb (sgn (crF pl c)*sgn (crG pl c)):=by rw [Zew]; exact hs
  refine bs.pv (sx:=nos) hk1 Tryz.func71 (by kernel_rfl) (by kernel_rfl) rfl ?_
  generalize crF pl c=F at *
  generalize crG pl c=G at *
  repeat'(first|refine wk1 ?_|(refine wk2 ?_ ?_<;>intro _)|refine wk4 ?_|fail);all_goals(conv=>whnf)
  exact Zg rfl rfl
 ·have hs2:¬ 0<=Qa Qb (sgn (crF pl c)*sgn (crG pl c)):=by rw [Zew]; exact hs
  have hB:=Zcu ho hs
  have hx:=Zry ho (u:=iabs (crG pl c)) (v:=iabs (crF pl c)) (by have:=Zny ho hs; omega) (by have:=Zny ho hs; omega)
  have h3:=sgn_mul_neg.1 (show sgn (crF pl c)*sgn (crG pl c)<0 by omega)
  have hcr:Ve pl c=redP (crPt c (iabs (crG pl c)) (iabs (crF pl c))):=rfl
  have hwl:=c121 g hi (Ve pl c)
  have A1:=Ztp (well:=Zb7 h c.su) (pl:=pl) (c:=c)
  have A2:=Zpy (well:=Zb7 h c.su) hs
  have A3:=Zto (well:=Zb7 h c.su) hs
  generalize Zag (Zb7 h c.su) pl c=ans at *
  have iF:iabs (crF pl c)=if crF pl c<0 then -crF pl c else crF pl c:=rfl
  have iG:iabs (crG pl c)=if crG pl c<0 then -crG pl c else crG pl c:=rfl
  generalize Zb7 h c.su (Ve pl c)=wl at *
  generalize Ve pl c=Q at *
  generalize crF pl c=F at *
  generalize crG pl c=G at *
  generalize iabs F=v at *
  generalize iabs G=u at *
  generalize hp:crPt c u v=p at *
  have px:c.fx*u+c.to.x*v=p.x:=by rw [<-hp]; rfl
  have py:c.fy*u+c.to.y*v=p.y:=by rw [<-hp]; rfl
  have pz:c.fz*u+c.to.z*v=p.z:=by rw [<-hp]; rfl
  have pd:u+c.to.d*v=p.d:=by rw [<-hp]; rfl
  obtain ⟨x1,x2,x3,x4,x5,x6,x7⟩:=hx
  have hDd:=hB.d
  rcases h3 with ⟨n1,n2⟩|⟨n1,n2⟩
  ·rw [if_pos n1] at iF
   rw [if_neg (by omega)] at iG
   subst iF iG
   have q:∀ a b:Int,(-90000000000000<=a*u/\a*u<=90000000000000)->(-50000000000000<=b * -F/\b * -F<=50000000000000)->Qa Qb (Qa Qb (a*u)-Qa Qb (b*F))=a*u+b * -F:=by
    intro a b k1 k2
    rw [Sq] at k2 ⊢
    rw [W_eq (n:=a*u) (by omega) (by omega),W_eq (n:=b*F) (by omega) (by omega),W_eq (by omega) (by omega)]
    omega
   have qd:Qa Qb (u-Qa Qb (F*c.to.d))=p.d:=by
    rw [Rr F]
    rw [Sq] at x7 pd
    rw [W_eq (n:=c.to.d*F) (by omega) (by omega),W_eq (by omega) (by omega)]; omega
   obtain ⟨k1,k2,k3,k4,k5,k6,k7,k8⟩:=Zym hB (X:=Qa Qb (Qa Qb (c.fx*u)-Qa Qb (c.to.x*F))) (Y:=Qa Qb (Qa Qb (c.fy*u)-Qa Qb (c.to.y*F))) (Z:=Qa Qb (Qa Qb (c.fz*u)-Qa Qb (c.to.z*F))) (D:=Qa Qb (u-Qa Qb (F*c.to.d))) (by rw [q _ _ x1 x4,px]) (by rw [q _ _ x2 x5,py]) (by rw [q _ _ x3 x6,pz]) qd
   rw [<-hcr] at k4 k5 k6 k7
   have hw2:PCall Tryz.prog 129 [h.av,I c.su,P4 (Qa Qb ((Qa Qb (Qa Qb (c.fx*u)-Qa Qb (c.to.x*F))).tdiv (g4 p))) (Qa Qb ((Qa Qb (Qa Qb (c.fy*u)-Qa Qb (c.to.y*F))).tdiv (g4 p))) (Qa Qb ((Qa Qb (Qa Qb (c.fz*u)-Qa Qb (c.to.z*F))).tdiv (g4 p))) (Qa Qb ((Qa Qb (u-Qa Qb (F*c.to.d))).tdiv (g4 p)))] ⟨Bo wl,[]⟩:=by
    rw [k4,k5,k6,k7]; exact hwl
   have hk2:=Zf hw2 hk1
   clear hw2 hwl hk0 hk1
   refine bs.pv (sx:=nos) hk2 Tryz.func71 (by kernel_rfl) (by kernel_rfl) rfl ?_
   cases wl with
   | false =>
    rw [A1 rfl]
    repeat'(first|refine wk1 ?_|(refine wk2 ?_ ?_<;>intro _)|refine wk4 ?_|fail);all_goals(conv=>whnf)
    exact Zg rfl rfl
   | true =>
    by_cases hd:100000<Q.d
    ·rw [A2 rfl hd]
     repeat'(first|refine wk1 ?_|(refine wk2 ?_ ?_<;>intro _)|refine wk4 ?_|fail);all_goals(conv=>whnf)
     exact Zg rfl rfl
    ·rw [A3 rfl hd]
     repeat'(first|refine wk1 ?_|(refine wk2 ?_ ?_<;>intro _)|refine wk4 ?_|fail);all_goals(conv=>whnf)
     exact Zg (by rw [k4,k5,k6,k7]) rfl
  ·rw [if_neg (by omega)] at iF
   rw [if_pos n2] at iG
   subst iF iG
   have q:∀ a b:Int,(-90000000000000<=a * -G/\a * -G<=90000000000000)->(-50000000000000<=b*v/\b*v<=50000000000000)->Qa Qb (0-Qa Qb (Qa Qb (a*G)-Qa Qb (b*v)))=a * -G+b*v:=by
    intro a b k1 k2
    rw [Sq] at k1 ⊢
    rw [W_eq (n:=a*G) (by omega) (by omega),W_eq (n:=b*v) (by omega) (by omega),W_eq (n:=a*G-b*v) (by omega) (by omega),W_eq (by omega) (by omega)]
    omega
   have qn:Qa Qb (G-Qa Qb (v*c.to.d)) = -p.d:=by
    rw [Rr v]
    rw [W_eq (n:=c.to.d*v) (by omega) (by omega),W_eq (by omega) (by omega)]; omega
   have qd:Qa Qb (0-Qa Qb (G-Qa Qb (v*c.to.d)))=p.d:=by
    rw [qn,W_eq (by omega) (by omega)]; omega
   obtain ⟨k1,k2,k3,k4,k5,k6,k7,k8⟩:=Zym hB (X:=Qa Qb (0-Qa Qb (Qa Qb (c.fx*G)-Qa Qb (c.to.x*v)))) (Y:=Qa Qb (0-Qa Qb (Qa Qb (c.fy*G)-Qa Qb (c.to.y*v)))) (Z:=Qa Qb (0-Qa Qb (Qa Qb (c.fz*G)-Qa Qb (c.to.z*v)))) (D:=Qa Qb (0-Qa Qb (G-Qa Qb (v*c.to.d)))) (by rw [q _ _ x1 x4,px]) (by rw [q _ _ x2 x5,py]) (by rw [q _ _ x3 x6,pz]) qd
   rw [<-hcr] at k4 k5 k6 k7
   have hw2:PCall Tryz.prog 129 [h.av,I c.su,P4 (Qa Qb ((Qa Qb (0-Qa Qb (Qa Qb (c.fx*G)-Qa Qb (c.to.x*v)))).tdiv (g4 p))) (Qa Qb ((Qa Qb (0-Qa Qb (Qa Qb (c.fy*G)-Qa Qb (c.to.y*v)))).tdiv (g4 p))) (Qa Qb ((Qa Qb (0-Qa Qb (Qa Qb (c.fz*G)-Qa Qb (c.to.z*v)))).tdiv (g4 p))) (Qa Qb ((Qa Qb (0-Qa Qb (G-Qa Qb (v*c.to.d)))).tdiv (g4 p)))] ⟨Bo wl,[]⟩:=by
    rw [k4,k5,k6,k7]; exact hwl
   have hk2:=Zf hw2 hk1
   clear hw2 hwl hk0 hk1
   refine bs.pv (sx:=nos) hk2 Tryz.func71 (by kernel_rfl) (by kernel_rfl) rfl ?_
   cases wl with
   | false =>
    rw [A1 rfl]
    repeat'(first|refine wk1 ?_|(refine wk2 ?_ ?_<;>intro _)|refine wk4 ?_|fail);all_goals(conv=>whnf)
    exact Zg rfl rfl
   | true =>
    by_cases hd:100000<Q.d
    ·rw [A2 rfl hd]
     repeat'(first|refine wk1 ?_|(refine wk2 ?_ ?_<;>intro _)|refine wk4 ?_|fail);all_goals(conv=>whnf)
     exact Zg rfl rfl
    ·rw [A3 rfl hd]
     repeat'(first|refine wk1 ?_|(refine wk2 ?_ ?_<;>intro _)|refine wk4 ?_|fail);all_goals(conv=>whnf)
     exact Zg (by rw [k4,k5,k6,k7]) rfl
abbrev sxC:FuncId->Bool:=fun f=>Qq f 159||Qq f 160||Qq f 163
def r113:List AV->Option PRes
 | [.int .i64 k,.agg [.int .i64 x,.int .i64 y,.int .i64 z,.int .i64 d]]=>some ⟨I (offN k x y z),[]⟩
 | _=>none
def crsA (h:Hal) (s:Stg) (c:Crs):Pt × Int:=if crsE h s c=0 then Zag (Zbv h c.su) (Zh h s c.su) c else (ptZ,crsE h s c)
theorem Yc4 (x y z:Int):Un x y z=if Vl x y z then 0 else 2:=by rw [Zh4]; rfl
theorem c40e {h:Hal} (hk:h.ok) {s:Stg} (hs:s.few) {c:Crs} (hw:c.to.wf) (he:crsE h s c≠0):PCall Tryz.prog 124 [h.av,s.av,c.av] ⟨crAV (ptZ,crsE h s c),[]⟩:=by
 have hk0:=Zf (c109 hk hs c.su) (Zf (c99 hw) Zas)
 by_cases h1:surE h s c.su=0
 ·have e1:crsE h s c=if Vl c.fx c.fy c.fz then Xm c.to else 2:=by
   unfold crsE; rw [if_pos h1,Yc4]
   split
   ·rw [if_pos rfl]
   ·rw [if_neg (by decide)]
  rw [e1] at he ⊢
  rw [h1] at hk0
  cases h2:Vl c.fx c.fy c.fz with
  | false =>
   have hu:unl (Vl c.fx c.fy c.fz) 2=2:=by rw [h2]; rfl
   rw [if_neg (by decide)]
   refine bs.pv (sx:=sxC) hk0 Tryz.func124 (by kernel_rfl) (by kernel_rfl) rfl ?_
   repeat'(first|refine wk1 ?_|(refine wk2 ?_ ?_<;>intro _)|refine wk4 ?_|fail);all_goals(conv=>whnf)
   refine bs.sv (sx:=sxC) hk0 Tryz.func159 (by kernel_rfl) (by kernel_rfl) ?_
   refine Wd 3 ?_
   refine Ry (bs.av (sx:=sxC) hk0 ?_)
   repeat'(first|refine wk1 ?_|(refine wk2 ?_ ?_<;>intro _)|refine wk4 ?_|fail);all_goals(conv=>whnf)
   refine bs.sv (sx:=sxC) hk0 Tryz.func160 (by kernel_rfl) (by kernel_rfl) ?_
   repeat'(first|refine wk1 ?_|(refine wk2 ?_ ?_<;>intro _)|refine wk4 ?_|fail);all_goals(conv=>whnf)
   exact Zg (by rw [hu]; rfl) rfl
  | true =>
   have hu:unl (Vl c.fx c.fy c.fz) 2=0:=by rw [h2]; rfl
   rw [h2,if_pos rfl] at he
   rw [if_pos rfl]
   generalize Xm c.to=pe at *
   refine bs.pv (sx:=sxC) hk0 Tryz.func124 (by kernel_rfl) (by kernel_rfl) rfl ?_
   repeat'(first|refine wk1 ?_|(refine wk2 ?_ ?_<;>intro _)|refine wk4 ?_|fail);all_goals(conv=>whnf)
   refine bs.sv (sx:=sxC) hk0 Tryz.func159 (by kernel_rfl) (by kernel_rfl) ?_
   refine Wd 3 ?_
   refine Ry (bs.av (sx:=sxC) hk0 ?_)
   repeat'(first|refine wk1 ?_|(refine wk2 ?_ ?_<;>intro _)|refine wk4 ?_|fail);all_goals(conv=>whnf)
   refine bs.sv (sx:=sxC) hk0 Tryz.func160 (by kernel_rfl) (by kernel_rfl) ?_
   repeat'(first|refine wk1 ?_|(refine wk2 ?_ ?_<;>intro _)|refine wk4 ?_|fail);all_goals(conv=>whnf)
   refine Ry (bs.av (sx:=sxC) hk0 ?_)
   repeat'(first|refine wk1 ?_|(refine wk2 ?_ ?_<;>intro _)|refine wk4 ?_|fail);all_goals(conv=>whnf)
   refine bs.sv (sx:=sxC) hk0 Tryz.func163 (by kernel_rfl) (by kernel_rfl) ?_
   repeat'(first|refine wk1 ?_|(refine wk2 ?_ ?_<;>intro _)|refine wk4 ?_|fail);all_goals(conv=>whnf)
   exact Zg rfl rfl
 ·have e1:crsE h s c=surE h s c.su:=by unfold crsE; rw [if_neg h1]
  rw [e1]
  refine bs.pv (sx:=sxC) hk0 Tryz.func124 (by kernel_rfl) (by kernel_rfl) rfl ?_
  repeat'(first|refine wk1 ?_|(refine wk2 ?_ ?_<;>intro _)|refine wk4 ?_|fail);all_goals(conv=>whnf)
  exact Zg rfl rfl
theorem Zsi {n:Int} (h : -9000000000000000000<=n/\n<=9000000000000000000):size n=iabs n:=by rw [Zc2 h]; rfl
theorem c40o {h:Hal} (hk:h.ok) {s:Stg} (hs:s.few) {c:Crs} (hw:c.to.wf) (he:crsE h s c=0):PCall Tryz.prog 124 [h.av,s.av,c.av] ⟨crAV (Zag (Zbv h c.su) (Zh h s c.su) c),[]⟩:=by
 obtain ⟨g,hi,ho,h1,h2,h3⟩:=Zyn hk hs he
 have h2' : Vl c.fx c.fy c.fz=true:=by
  rw [Yc4] at h2
  cases hx:Vl c.fx c.fy c.fz
  ·rw [hx] at h2; exact absurd h2 (by decide)
  ·rfl
 have hu:unl (Vl c.fx c.fy c.fz) 2=0:=by rw [h2']; rfl
 obtain ⟨f1,f2,f3⟩:=Zyp ho
 obtain ⟨g1,g2⟩:=Zyo ho
 have hk0:=Zf (c109 hk hs c.su) (Zf (c99 hw) Zas)
 rw [h1,h3] at hk0
 have hk0:=Zf (c112 g hi) (Zl (f0:=166) (r:=r113) (fun a res h=>by unfold r113 at h; split at h<;>cases h; exact c113 _ ⟨_,_,_,_⟩) hk0)
 generalize hpl:Zh h s c.su=pl at *
 by_cases hsg:0<=sgn (crF pl c)*sgn (crG pl c)
 ·rw [Zfa hsg]
  have hs2:0<=Qa Qb (sgn (Qa Qb (offN pl.1 c.fx c.fy c.fz-pl.2))*sgn (Qa Qb (offN pl.1 c.to.x c.to.y c.to.z-Qa Qb (pl.2*c.to.d)))):=by rw [f1,g1,Zew]; exact hsg
  refine bs.pv (sx:=sxC) hk0 Tryz.func124 (by kernel_rfl) (by kernel_rfl) rfl ?_
  repeat'(first|refine wk1 ?_|(refine wk2 ?_ ?_<;>intro _)|refine wk4 ?_|fail);all_goals(conv=>whnf)
  refine bs.sv (sx:=sxC) hk0 Tryz.func159 (by kernel_rfl) (by kernel_rfl) ?_
  refine Wd 3 ?_
  refine Ry (bs.av (sx:=sxC) hk0 ?_)
  repeat'(first|refine wk1 ?_|(refine wk2 ?_ ?_<;>intro _)|refine wk4 ?_|fail);all_goals(conv=>whnf)
  refine bs.sv (sx:=sxC) hk0 Tryz.func160 (by kernel_rfl) (by kernel_rfl) ?_
  repeat'(first|refine wk1 ?_|(refine wk2 ?_ ?_<;>intro _)|refine wk4 ?_|fail);all_goals(conv=>whnf)
  refine Ry (bs.av (sx:=sxC) hk0 ?_)
  repeat'(first|refine wk1 ?_|(refine wk2 ?_ ?_<;>intro _)|refine wk4 ?_|fail);all_goals(conv=>whnf)
  refine bs.sv (sx:=sxC) hk0 Tryz.func163 (by kernel_rfl) (by kernel_rfl) ?_
  repeat'(first|refine wk1 ?_|(refine wk2 ?_ ?_<;>intro _)|refine wk4 ?_|fail);all_goals(conv=>whnf)
  refine Ry (bs.av (sx:=sxC) hk0 ?_)
  repeat'(first|refine wk1 ?_|(refine wk2 ?_ ?_<;>intro _)|refine wk4 ?_|fail);all_goals(conv=>whnf)
  exact Zg rfl rfl
 ·have hs2:¬ 0<=Qa Qb (sgn (Qa Qb (offN pl.1 c.fx c.fy c.fz-pl.2))*sgn (Qa Qb (offN pl.1 c.to.x c.to.y c.to.z-Qa Qb (pl.2*c.to.d)))):=by rw [f1,g1,Zew]; exact hsg
  have hB:=Zcu ho hsg
  have hx:=Zry ho (u:=iabs (crG pl c)) (v:=iabs (crF pl c)) (by have:=Zny ho hsg; omega) (by have:=Zny ho hsg; omega)
  have hcr:Ve pl c=redP (crPt c (iabs (crG pl c)) (iabs (crF pl c))):=rfl
  have hwl:=c118 g hi (Ve pl c)
  have A1:=Ztp (well:=Zbv h c.su) (pl:=pl) (c:=c)
  have A2:=Zpy (well:=Zbv h c.su) hsg
  have A3:=Zto (well:=Zbv h c.su) hsg
  generalize Zag (Zbv h c.su) pl c=ans at *
  generalize Zbv h c.su (Ve pl c)=wl at *
  generalize Ve pl c=Q at *
  have su:size (Qa Qb (offN pl.1 c.to.x c.to.y c.to.z-Qa Qb (pl.2*c.to.d)))=iabs (crG pl c):=by rw [g1]; exact Zsi (by omega)
  have sv:size (Qa Qb (offN pl.1 c.fx c.fy c.fz-pl.2))=iabs (crF pl c):=by rw [f1]; exact Zsi (by omega)
  generalize hp:crPt c (iabs (crG pl c)) (iabs (crF pl c))=p at *
  generalize iabs (crF pl c)=v at *
  generalize iabs (crG pl c)=u at *
  have px:c.fx*u+c.to.x*v=p.x:=by rw [<-hp]; rfl
  have py:c.fy*u+c.to.y*v=p.y:=by rw [<-hp]; rfl
  have pz:c.fz*u+c.to.z*v=p.z:=by rw [<-hp]; rfl
  have pd:u+c.to.d*v=p.d:=by rw [<-hp]; rfl
  obtain ⟨x1,x2,x3,x4,x5,x6,x7⟩:=hx
  have hDd:=hB.d
  generalize hA:Qa Qb (offN pl.1 c.fx c.fy c.fz-pl.2)=A at *
  generalize hBb:Qa Qb (offN pl.1 c.to.x c.to.y c.to.z-Qa Qb (pl.2*c.to.d))=B at *
  have q:∀ a b:Int,(-90000000000000<=a*u/\a*u<=90000000000000)->(-50000000000000<=b*v/\b*v<=50000000000000)->Qa Qb (Qa Qb (a*size B)+Qa Qb (b*size A))=a*u+b*v:=by
   intro a b k1 k2
   rw [su,sv]
   rw [W_eq (n:=a*u) (by omega) (by omega),W_eq (n:=b*v) (by omega) (by omega),W_eq (by omega) (by omega)]
  have qd:Qa Qb (size B+Qa Qb (c.to.d*size A))=p.d:=by
   rw [su,sv]
   rw [W_eq (n:=c.to.d*v) (by omega) (by omega),W_eq (by omega) (by omega)]; omega
  obtain ⟨k1,k2,k3,k4,k5,k6,k7,k8⟩:=Zym hB (X:=Qa Qb (Qa Qb (c.fx*size B)+Qa Qb (c.to.x*size A))) (Y:=Qa Qb (Qa Qb (c.fy*size B)+Qa Qb (c.to.y*size A))) (Z:=Qa Qb (Qa Qb (c.fz*size B)+Qa Qb (c.to.z*size A))) (D:=Qa Qb (size B+Qa Qb (c.to.d*size A))) (by rw [q _ _ x1 x4,px]) (by rw [q _ _ x2 x5,py]) (by rw [q _ _ x3 x6,pz]) qd
  rw [<-hcr] at k4 k5 k6 k7
  have hdv:PCall Tryz.prog 170 [.isl 1 (nl [Qa Qb (Qa Qb (c.fx*size B)+Qa Qb (c.to.x*size A)),Qa Qb (Qa Qb (c.fy*size B)+Qa Qb (c.to.y*size A)),Qa Qb (Qa Qb (c.fz*size B)+Qa Qb (c.to.z*size A)),Qa Qb (size B+Qa Qb (c.to.d*size A))])] ⟨I (g4 p:Int),[]⟩:=by
   rw [q _ _ x1 x4,q _ _ x2 x5,q _ _ x3 x6,qd,px,py,pz]
   have hwf:=hB.wf
   have hc:=c117 (ns:=[p.x,p.y,p.z,p.d]) (by simp) (by
    intro n hn
    simp only [Rf,List.not_mem_nil,or_false] at hn
    rcases hn with rfl|rfl|rfl|rfl
    ·exact hwf.x
    ·exact hwf.y
    ·exact hwf.z
    ·exact hwf.d)
   have hg:gl 0 [p.x,p.y,p.z,p.d]=g4 p:=by
    simp only [gl,Nat.gcd_zero_left]
    exact Zmi _ _ _ _
   rw [hg,W_eq (n:=((g4 p:Nat):Int)) (by omega) (by omega)] at hc
   exact hc
  have hw2:PCall Tryz.prog 171 [.agg (stgL h s),I c.su,P4 (Qa Qb ((Qa Qb (Qa Qb (c.fx*size B)+Qa Qb (c.to.x*size A))).tdiv (g4 p))) (Qa Qb ((Qa Qb (Qa Qb (c.fy*size B)+Qa Qb (c.to.y*size A))).tdiv (g4 p))) (Qa Qb ((Qa Qb (Qa Qb (c.fz*size B)+Qa Qb (c.to.z*size A))).tdiv (g4 p))) (Qa Qb ((Qa Qb (size B+Qa Qb (c.to.d*size A))).tdiv (g4 p)))] ⟨Bo wl,[]⟩:=by
   rw [k4,k5,k6,k7]; exact hwl
  rw [<-hA,<-hBb] at hw2 hdv
  have hk2:=Zf hw2 (Zf hdv hk0)
  clear hw2 hwl hk0 hdv q
  rw [<-hA,<-hBb] at k4 k5 k6 k7 hs2
  clear k1 k2 k3
  refine bs.pv (sx:=sxC) hk2 Tryz.func124 (by kernel_rfl) (by kernel_rfl) rfl ?_
  cases wl with
  | false =>
   rw [A1 rfl]
   repeat'(first|refine wk1 ?_|(refine wk2 ?_ ?_<;>intro _)|refine wk4 ?_|fail);all_goals(conv=>whnf)
   refine bs.sv (sx:=sxC) hk2 Tryz.func159 (by kernel_rfl) (by kernel_rfl) ?_
   refine Wd 3 ?_
   refine Ry (bs.av (sx:=sxC) hk2 ?_)
   repeat'(first|refine wk1 ?_|(refine wk2 ?_ ?_<;>intro _)|refine wk4 ?_|fail);all_goals(conv=>whnf)
   refine bs.sv (sx:=sxC) hk2 Tryz.func160 (by kernel_rfl) (by kernel_rfl) ?_
   repeat'(first|refine wk1 ?_|(refine wk2 ?_ ?_<;>intro _)|refine wk4 ?_|fail);all_goals(conv=>whnf)
   refine Ry (bs.av (sx:=sxC) hk2 ?_)
   repeat'(first|refine wk1 ?_|(refine wk2 ?_ ?_<;>intro _)|refine wk4 ?_|fail);all_goals(conv=>whnf)
   refine bs.sv (sx:=sxC) hk2 Tryz.func163 (by kernel_rfl) (by kernel_rfl) ?_
   repeat'(first|refine wk1 ?_|(refine wk2 ?_ ?_<;>intro _)|refine wk4 ?_|fail);all_goals(conv=>whnf)
   refine Ry (bs.av (sx:=sxC) hk2 ?_)
   repeat'(first|refine wk1 ?_|(refine wk2 ?_ ?_<;>intro _)|refine wk4 ?_|fail);all_goals(conv=>whnf)
   exact Zg rfl rfl
  | true =>
   by_cases hd:100000<Q.d
   ·rw [A2 rfl hd]
    repeat'(first|refine wk1 ?_|(refine wk2 ?_ ?_<;>intro _)|refine wk4 ?_|fail);all_goals(conv=>whnf)
    refine bs.sv (sx:=sxC) hk2 Tryz.func159 (by kernel_rfl) (by kernel_rfl) ?_
    refine Wd 3 ?_
    refine Ry (bs.av (sx:=sxC) hk2 ?_)
    repeat'(first|refine wk1 ?_|(refine wk2 ?_ ?_<;>intro _)|refine wk4 ?_|fail);all_goals(conv=>whnf)
    refine bs.sv (sx:=sxC) hk2 Tryz.func160 (by kernel_rfl) (by kernel_rfl) ?_
    repeat'(first|refine wk1 ?_|(refine wk2 ?_ ?_<;>intro _)|refine wk4 ?_|fail);all_goals(conv=>whnf)
    refine Ry (bs.av (sx:=sxC) hk2 ?_)
    repeat'(first|refine wk1 ?_|(refine wk2 ?_ ?_<;>intro _)|refine wk4 ?_|fail);all_goals(conv=>whnf)
    refine bs.sv (sx:=sxC) hk2 Tryz.func163 (by kernel_rfl) (by kernel_rfl) ?_
    repeat'(first|refine wk1 ?_|(refine wk2 ?_ ?_<;>intro _)|refine wk4 ?_|fail);all_goals(conv=>whnf)
    refine Ry (bs.av (sx:=sxC) hk2 ?_)
    repeat'(first|refine wk1 ?_|(refine wk2 ?_ ?_<;>intro _)|refine wk4 ?_|fail);all_goals(conv=>whnf)
    exact Zg rfl rfl
   ·rw [A3 rfl hd]
    repeat'(first|refine wk1 ?_|(refine wk2 ?_ ?_<;>intro _)|refine wk4 ?_|fail);all_goals(conv=>whnf)
    refine bs.sv (sx:=sxC) hk2 Tryz.func159 (by kernel_rfl) (by kernel_rfl) ?_
    refine Wd 3 ?_
    refine Ry (bs.av (sx:=sxC) hk2 ?_)
    repeat'(first|refine wk1 ?_|(refine wk2 ?_ ?_<;>intro _)|refine wk4 ?_|fail);all_goals(conv=>whnf)
    refine bs.sv (sx:=sxC) hk2 Tryz.func160 (by kernel_rfl) (by kernel_rfl) ?_
    repeat'(first|refine wk1 ?_|(refine wk2 ?_ ?_<;>intro _)|refine wk4 ?_|fail);all_goals(conv=>whnf)
    refine Ry (bs.av (sx:=sxC) hk2 ?_)
    repeat'(first|refine wk1 ?_|(refine wk2 ?_ ?_<;>intro _)|refine wk4 ?_|fail);all_goals(conv=>whnf)
    refine bs.sv (sx:=sxC) hk2 Tryz.func163 (by kernel_rfl) (by kernel_rfl) ?_
    repeat'(first|refine wk1 ?_|(refine wk2 ?_ ?_<;>intro _)|refine wk4 ?_|fail);all_goals(conv=>whnf)
    refine Ry (bs.av (sx:=sxC) hk2 ?_)
    repeat'(first|refine wk1 ?_|(refine wk2 ?_ ?_<;>intro _)|refine wk4 ?_|fail);all_goals(conv=>whnf)
    exact Zg (by rw [k4,k5,k6,k7]) rfl
theorem c40 {h:Hal} (hk:h.ok) {s:Stg} (hs:s.few) {c:Crs} (hw:c.to.wf):PCall Tryz.prog 124 [h.av,s.av,c.av] ⟨crAV (crsA h s c),[]⟩:=by
 unfold crsA
 by_cases he:crsE h s c=0
 ·rw [if_pos he]; exact c40o hk hs hw he
 ·rw [if_neg he]; exact c40e hk hs hw he
theorem Ybj {h:Hal} {s:Stg} {c:Crs} (g:Sit h s) (hi:SK h c.su) (ho:CrOk (Zh h s c.su) c):Zag (Zbv h c.su) (Zh h s c.su) c=Zag (Zb7 h c.su) (Zh h s c.su) c:=by
 by_cases hs:0<=sgn (crF (Zh h s c.su) c)*sgn (crG (Zh h s c.su) c)
 ·rw [Zfa hs,Zfa hs]
 ·have hb:=(Ze0 (Zcu ho hs)).2.2.1
  have e:=Ydp g hi (p:=Ve (Zh h s c.su) c) hb.ok (Zge ho hs)
  unfold Zag
  rw [e]
def Yft (p:Pt):Prop:=(-(5000*p.d)<=p.x/\p.x<=5000*p.d)/\(-(5000*p.d)<=p.y/\p.y<=5000*p.d)/\(-(5000*p.d)<=p.z/\p.z<=5000*p.d)
theorem Zvt {h:Hal} {w:Wl} {n sx sy:Int} (hs:Str w n sx sy) {p:Pt} (hp:PtOk p.x p.y p.d) (ht:2<=h.ht/\h.ht<=5000) (hpl:valN (plW w).1 p.x p.y p.z=(plW w).2*p.d) (hw:Zn0 h w p=true):Yft p:=by
 obtain ⟨x,y,z,d⟩:=p
 dsimp only at hp hpl
 have hd:=hp.hd
 have hD:=hp.hD
 have a1:=Zj hs.b1 hd
 have a2:=Zj hs.b2 hd
 have a3:=Zj hs.b3 hd
 have a4:=Zj hs.b4 hd
 have hz0:=Zj (f:=h.ht) (d:=d) (by omega) hd
 have hz:Qa Qb (h.ht*d)=h.ht*d:=W_eq (by omega) (by omega)
 unfold Zn0 at hw
 rw [Zm9 hs] at hpl
 unfold valN at hpl
 rw [Zay,Zay,Zaz,Zaz] at hw
 dsimp only at hw
 rw [hz,Zb9 hd,Zb9 hd,Zca hd,Zca hd] at hw
 rw [W_eq (n:=min (w.fx*d) (w.tx*d)) (by omega) (by omega),W_eq (n:=max (w.fx*d) (w.tx*d)) (by omega) (by omega),W_eq (n:=min (w.fy*d) (w.ty*d)) (by omega) (by omega),W_eq (n:=max (w.fy*d) (w.ty*d)) (by omega) (by omega)] at hw
 have ex:w.tx*d=w.fx*d+sx*(n*d):=by rw [hs.tx]; grind
 have ey:w.ty*d=w.fy*d+sy*(n*d):=by rw [hs.ty]; grind
 have d3:(w.fx+w.fy)*d=w.fx*d+w.fy*d:=by grind
 have d4:(w.fx-w.fy)*d=w.fx*d-w.fy*d:=by grind
 have cnd:(w.fx=w.tx)->sx=0:=by
  intro e
  have:=hs.tx
  have hn:=hs.hn
  have:n*sx=0:=by omega
  rcases Mp.1 this with h|h
  ·omega
  ·exact h
 have nd:0<n*d:=Rq hs.hn hd
 unfold Yft
 dsimp only
 simp only [Qc,Tq,Bool.or_eq_false_iff,decide_eq_false_iff_not] at hw
 obtain ⟨⟨z1,z2⟩,hw⟩:=hw
 have hxy:=hs.hxy
 split at hw
 ·rename_i c
  have c0:=cnd c
  subst c0
  simp only [Qc,decide_eq_true_eq] at hw
  simp at hpl
  omega
 ·rename_i c
  simp only [Qc,decide_eq_true_eq] at hw
  have hx0:sx≠0:=fun e=>c (by rw [hs.tx,e]; omega)
  rw [if_neg hx0] at hpl
  rcases hs.hy with rfl|rfl|rfl<;>rcases hs.hx with rfl|rfl|rfl
  all_goals simp at hpl hx0
  all_goals omega
theorem Zrd {h:Hal} {d z n:Int} (hd:0<d) (hn:0<=n/\n<=5000) (e:z=n*d) : -(5000*d)<=z/\z<=5000*d:=by
 have:=Zj (f:=n) (d:=d) (by omega) hd
 omega
theorem Zvn {h:Hal} {s:Stg} (g:Sit h s) {i:Int} (hi:SK h i) {p:Pt} (hp:PtOk p.x p.y p.d) (hpl:valN (Zh h s i).1 p.x p.y p.z=(Zh h s i).2*p.d) (hw:Zbv h i p=true):Yft p:=by
 have ht:=g.fine.ht
 cases hi with
 | wall k hk =>
  have hk2:k<h.cs.length:=by have:=g.fine.le; omega
  obtain ⟨n,sx,sy,hs⟩:=g.fine.st k hk2
  rw [Zac hk] at hpl
  rw [Zhp hk] at hw
  exact Zvt hs hp ht hpl hw
 | floor =>
  rw [Zfy] at hw
  rw [Zaq] at hpl
  have hb:=Zme g.fine.st hp hw
  have hpl:p.z=0*p.d:=hpl
  exact ⟨hb.1,hb.2,Zrd (h:=h) hp.hd (by omega) hpl⟩
 | ceil =>
  rw [Zhq] at hw
  rw [Zbj] at hpl
  have hb:=Zme g.fine.st hp hw
  have hpl:p.z=h.ht*p.d:=hpl
  exact ⟨hb.1,hb.2,Zrd (h:=h) hp.hd (by omega) hpl⟩
 | can j hj =>
  rw [Zje hj] at hw
  rw [Zck] at hpl
  have hpl:p.z=Us h s j*p.d:=hpl
  have hg:=Ztb g hj
  have hr:=Zq0 (Zgf g.fine hj).1
  have hd:0<p.d/\p.d<=1000000000000000:=by have:=hp.hd; have:=hp.hD; omega
  have c0:=(Zgf g.fine hj).1
  generalize h.ks[j]=c at *
  obtain ⟨⟨e1,e2⟩,e3,e4⟩:=Zf4 c
  have c1:=Zj c0.b1 hd.1
  have c2:=Zj c0.b2 hd.1
  have c3:=Zj c0.b3 hd.1
  have c4:=Zj c0.b4 hd.1
  rw [Zez hr hd,e1,e2,e3,e4,Zb9 hd.1,Zca hd.1,Zb9 hd.1,Zca hd.1] at hw
  exact ⟨by omega,by omega,Zrd (h:=h) hp.hd (by omega) hpl⟩
theorem Zrx {h:Hal} {s:Stg} (g:Sit h s) {c:Crs} (hi:SK h c.su) (ho:CrOk (Zh h s c.su) c) (e:(Zag (Zbv h c.su) (Zh h s c.su) c).2=0) :
  Xm (Zag (Zbv h c.su) (Zh h s c.su) c).1=0:=by
 unfold Zag at e ⊢
 split at e
 ·cases e
 ·rename_i hs
  split at e
  ·rename_i hw
   split at e
   ·cases e
   ·rename_i hd
    rw [if_neg hs,if_pos hw,if_neg hd]
    have hbig:=Zcu ho hs
    have hb:=(Ze0 hbig).2.2.1
    have hn:=Zvn g hi (p:=Ve (Zh h s c.su) c) hb.ok (Zge ho hs) hw
    have hg:=Yha hbig
    unfold Xm
    have hd0:=hb.d.1
    rw [if_neg (by
     intro q
     rcases q with q|q
     ·exact absurd hd0 (Int.not_lt.2 q)
     ·exact q hg),if_neg hd,if_pos]
    unfold ptIn
    obtain ⟨n1,n2,n3⟩:=hn
    simp only [Qc,within_iff]
    exact ⟨⟨n1,n2⟩,n3⟩
  ·cases e
structure Pth where
 ss:List Int
 ps:List (Int × Int × Int × Int)
 sq:Int
abbrev hp4 (p:Int × Int × Int × Int):List AV:=[I p.1,I p.2.1,I p.2.2.1,I p.2.2.2]
abbrev Pth.av (p:Pth):AV:=.agg [.isl 1 (nl p.ss),.isl 4 (p.ps.map hp4),I p.sq]
def pthE (p:Pth):Int:=if (p.ps.length:Int)=p.ss.length then (if 4<(p.ss.length:Int) then 8 else (if within p.sq 1 24300000000 then 0 else 2)) else 10
theorem d210 (n lo hi:Int):PCall Tryz.prog 101 [I n,I lo,I hi] ⟨Bo (within n lo hi),[]⟩:=by
 refine bs.pv (sx:=nos) Zc Tryz.func101 (by kernel_rfl) (by kernel_rfl) rfl ?_
 repeat'(first|refine wk3 ?_|(refine wk2 ?_ ?_<;>intro _)|refine wk4 ?_|fail);all_goals(conv=>whnf)
 all_goals exact Za (by simp_all [within]<;>omega)
theorem d209 (b:Bool) (e:Int):PCall Tryz.prog 80 [Bo b,I e] ⟨I (unl b e),[]⟩:=by
 refine bs.pv (sx:=nos) Zc Tryz.func80 (by kernel_rfl) (by kernel_rfl) rfl ?_
 repeat'(first|refine wk3 ?_|(refine wk2 ?_ ?_<;>intro _)|refine wk4 ?_|fail);all_goals(conv=>whnf)
 all_goals exact Zb (by simp_all [unl])
def fstL:List Int->Int
 | []=>0
 | x::l=>if x≠0 then x else fstL l
theorem Zxr (x:Int) (l:List Int):fstL (x::l)=if x≠0 then x else fstL l:=rfl
theorem d78 {l:List Int} (hl:l.length<1000):PCall Tryz.prog 78 [.isl 1 (nl l)] ⟨I (fstL l),[]⟩:=by
 have l2:=Zi l
 refine bs.pv (sx:=nos) Zc Tryz.func78 (by kernel_rfl) (by kernel_rfl) rfl ?_
 repeat'(first|refine wk3 ?_|(refine wk2 ?_ ?_<;>intro _)|refine wk4 ?_|fail);all_goals(conv=>whnf)
 refine Yb (S:=Nat × Int) (fun t=>l.length-t.1) (fun t=>[(5,.isl 1 (nl l)),(6,I (nl l).length),(7,I t.2)]) (fun _=>[]) 0 0 (fun t=>t.2=t.1/\t.1<=l.length/\fstL (l.drop t.1)=fstL l) (0,0) ⟨rfl,Qn _,rfl⟩ (Qd _) [] rfl (kps) (kps) ?_
 rintro ⟨k,i⟩ ⟨hi,hk,hh⟩
 dsimp only at hi hk hh ⊢
 subst hi
 generalize fstL l=R at *
 refine bs.av (sx:=nos) Zc ?_
 by_cases hlt:k<l.length
 ·have e1:=Uh hlt
  rw [Qi hlt,Zxr] at hh
  generalize l[k]=x at *
  by_cases hx:x=0
  ·rw [if_neg (fun c=>c hx)] at hh
   repeat'(first|refine wk3 ?_|(refine wk2 ?_ ?_<;>intro _)|refine wk4 ?_|fail);all_goals(conv=>whnf)
   exact Ql ⟨(k+1,_),[],rfl,kps,kps,⟨Ze (by omega),hlt,hh⟩,by dsimp only; omega⟩
  ·rw [if_pos hx] at hh
   subst hh
   repeat'(first|refine wk3 ?_|(refine wk2 ?_ ?_<;>intro _)|refine wk4 ?_|fail);all_goals(conv=>whnf)
   exact Zb rfl
 ·rw [Qj (by omega)] at hh
  repeat'(first|refine wk3 ?_|(refine wk2 ?_ ?_<;>intro _)|refine wk4 ?_|fail);all_goals(conv=>whnf)
  exact Zb hh
def r78f:List AV->Option PRes
 | [.isl 1 l]=>match numsOf l with
  | some ns=>asr (Nat.blt ns.length 1000) ⟨I (fstL ns),[]⟩
  | none=>none
 | _=>none
where
 numsOf:List (List AV)->Option (List Int)
  | []=>some []
  | [.int .i64 n]::l=>match numsOf l with
   | some ns=>some (n::ns)
   | none=>none
  | _=>none
theorem d86 (n m:Int):PCall Tryz.prog 86 [I n,I m] ⟨Bo (small n m),[]⟩:=by
 have hk:PCOK Tryz.prog (ins 101 (fun a=>match a with
  | [.int .i64 n,.int .i64 lo,.int .i64 hi]=>some ⟨Bo (within n lo hi),[]⟩
  | _=>none) pt0):=Zl (fun a res h=>by split at h<;>cases h; exact d210 _ _ _) Zc
 refine bs.pv (sx:=nos) hk Tryz.func86 (by kernel_rfl) (by kernel_rfl) rfl ?_
 repeat'(first|refine wk3 ?_|(refine wk2 ?_ ?_<;>intro _)|refine wk4 ?_|fail);all_goals(conv=>whnf)
 exact Za rfl
abbrev Yhd (h:Hal):Prop:=(9<h.ws.length/\h.ws.length<=12)\/14<h.ws.length\/14<h.cs.length\/4<h.ms.length\/2<h.ks.length\/3<h.ss.length
def Zl6 (h:Hal):Bool:=Yq h.nm&&Yq h.fl&&Yq h.ce
def few2 (h:Hal):Bool:=(!decide (Yhd h)&&Zl6 h)&&(h.ws.all fewW&&(h.ms.all fewM&&(h.ks.all fewC&&h.ss.all fewS)))
theorem Yfc {h:Hal} (hb:few2 h=true):h.ok:=by
 unfold few2 Zl6 at hb
 simp only [Qc,Tq,decide_eq_false_iff_not] at hb
 obtain ⟨⟨hL,⟨n1,n2⟩,n3⟩,m2,m1,m3,m4⟩:=hb
 have hL:¬ ((9<h.ws.length/\h.ws.length<=12)\/14<h.ws.length\/14<h.cs.length\/4<h.ms.length\/2<h.ks.length\/3<h.ss.length):=hL
 rw [List.all_eq_true] at m1 m2 m3 m4
 refine ⟨⟨by omega,by omega,by omega,by omega,by omega,fun c hc=>?_⟩,⟨Zch n1,fun m hm=>Zch (m1 m hm),fun m hm=>?_,fun m hm=>?_,fun m hm=>Zch (m4 m hm)⟩⟩
 ·have:=m3 c hc
  unfold fewC at this
  simp only [Qc,Tq,decide_eq_false_iff_not] at this
  omega
 ·have:=m2 m hm
  unfold fewW at this
  simp only [Qc] at this
  exact Zch this.1.1
 ·have:=m3 m hm
  unfold fewC at this
  simp only [Qc] at this
  exact Zch this.1.1
theorem sh_n {s:ByteArray} (h:Yq s=true):¬ (20:Int)<(s.size:Int):=by
 unfold Yq at h
 simpa using h
theorem d80 (h:Hal):PCall Tryz.prog 63 [h.av] ⟨Bo (few2 h),[]⟩:=by
 have l1:=Zei h.ms
 have l2:(h.cs.map pt).length=h.cs.length:=by simp
 have l3:=Yj h.ws
 have l4:=Xi h.ks
 have l5:=Zd7 h.ss
 by_cases hP:Yhd h
 ·have e0:few2 h=false:=by unfold few2; rw [decide_eq_true hP]; rfl
  rw [e0]
  clear e0
  have hP:(9<h.ws.length/\h.ws.length<=12)\/14<h.ws.length\/14<h.cs.length\/4<h.ms.length\/2<h.ks.length\/3<h.ss.length:=hP
  refine bs.pv (sx:=nos) Zc Tryz.func63 (by kernel_rfl) (by kernel_rfl) rfl ?_
  repeat'(first|refine wk3 ?_|(refine wk2 ?_ ?_<;>intro _)|refine wk4 ?_|fail);all_goals(conv=>whnf)
  all_goals first
   | exact Za rfl
   | (exfalso; simp_all; omega)
 have hP' : ¬ ((9<h.ws.length/\h.ws.length<=12)\/14<h.ws.length\/14<h.cs.length\/4<h.ms.length\/2<h.ks.length\/3<h.ss.length):=hP
 have hw:h.ws.length<=9\/12<h.ws.length:=by omega
 unfold few2
 rw [decide_eq_false hP,Bool.not_false,Tx]
 clear hP
 by_cases hN:Zl6 h=true
 rotate_left
 ·have hN:Zl6 h=false:=by simpa using hN
  rw [hN,Oi]
  unfold Zl6 at hN
  rcases hw with hw|hw
  all_goals
   refine bs.pv (sx:=nos) Zc Tryz.func63 (by kernel_rfl) (by kernel_rfl) rfl ?_
   repeat'(first|refine wk3 ?_|(refine wk2 ?_ ?_<;>intro _)|refine wk4 ?_|fail);all_goals(conv=>whnf)
  all_goals first
   | exact Za rfl
   | (exfalso; simp_all [Yq]; done)
   | (exfalso; simp_all [Yq]; omega)
 rw [hN,Tx]
 unfold Zl6 at hN
 simp only [Qc] at hN
 obtain ⟨⟨n1,n2⟩,n3⟩:=hN
 have n1:=sh_n n1
 have n2:=sh_n n2
 have n3:=sh_n n3
 generalize hE:(h.ws.all fewW&&(h.ms.all fewM&&(h.ks.all fewC&&h.ss.all fewS)))=R
 rcases hw with hw|hw
 all_goals
  refine bs.pv (sx:=nos) Zc Tryz.func63 (by kernel_rfl) (by kernel_rfl) rfl ?_
  repeat'(first|refine wk3 ?_|(refine wk2 ?_ ?_<;>intro _)|refine wk4 ?_|fail);all_goals(conv=>whnf)
  clear n1 n2 n3
  subst hE
  generalize hV:(h.ms.all fewM&&(h.ks.all fewC&&h.ss.all fewS))=V
  refine Yb (S:=Nat × Int) (fun t=>h.ws.length-t.1) (fun t=>[(1,.ptr 0 0 0),(2,Bo false),(3,I t.2)]) (fun _=>[(0,.row 9 [h.cells] true false)]) 1 1 (fun t=>t.2=t.1/\t.1<=h.ws.length/\((h.ws.drop t.1).all fewW&&V)=(h.ws.all fewW&&V)) (0,0) ⟨rfl,Qn _,rfl⟩ (Qd _) [] rfl (kps) (kps) ?_
  rintro ⟨k,i⟩ ⟨hi,hk,hh⟩
  dsimp only at hi hk hh ⊢
  subst hi
  generalize hB:(h.ws.all fewW&&V)=B at *
  clear hB
  refine bs.av (sx:=nos) Zc ?_
  by_cases hlt:k<h.ws.length
  ·clear hV
   have e1:=Zlu hlt
   rw [Qi hlt,Me] at hh
   generalize h.ws[k]=m at *
   have hm:∀ b,fewW m=b->(b&&(h.ws.drop (k+1)).all fewW&&V)=B:=fun b e=>by rw [<-e,Pj]; rw [Pj] at hh; exact hh
   clear hh
   repeat'(first|refine wk3 ?_|(refine wk2 ?_ ?_<;>intro _)|refine wk4 ?_|fail);all_goals(conv=>whnf)
   all_goals clear e1
   all_goals first
    | exact Za (hm false (by clear hm; simp_all [fewW,Yq]; done))
    | exact Ql ⟨(k+1,_),[],rfl,kps,kps,⟨Ze (by omega),hlt,hm true (by clear hm; simp_all [fewW,Yq]; done)⟩,by dsimp only; omega⟩
  rw [Qj (by omega)] at hh
  have hh:V=B:=hh
  subst hh
  subst hV
  repeat'(first|refine wk3 ?_|(refine wk2 ?_ ?_<;>intro _)|refine wk4 ?_|fail);all_goals(conv=>whnf)
  clear hlt hk
  generalize hV:(h.ks.all fewC&&h.ss.all fewS)=V
  refine Yb (S:=Nat × Int) (fun t=>h.ms.length-t.1) (fun t=>[(1,.ptr 0 0 0),(2,Bo false),(4,I t.2)]) (fun _=>[(0,.row 9 [h.cells] true false)]) 1 1 (fun t=>t.2=t.1/\t.1<=h.ms.length/\((h.ms.drop t.1).all fewM&&V)=(h.ms.all fewM&&V)) (0,0) ⟨rfl,Qn _,rfl⟩ (Qd _) [] rfl (kps) (kps) ?_
  rintro ⟨k,i⟩ ⟨hi,hk,hh⟩
  dsimp only at hi hk hh ⊢
  subst hi
  generalize hB:(h.ms.all fewM&&V)=B at *
  clear hB
  refine bs.av (sx:=nos) Zc ?_
  by_cases hlt:k<h.ms.length
  ·clear hV
   have e1:=Zsx hlt
   rw [Qi hlt,Me] at hh
   generalize h.ms[k]=m at *
   have hm:∀ b,fewM m=b->(b&&(h.ms.drop (k+1)).all fewM&&V)=B:=fun b e=>by rw [<-e,Pj]; rw [Pj] at hh; exact hh
   clear hh
   repeat'(first|refine wk3 ?_|(refine wk2 ?_ ?_<;>intro _)|refine wk4 ?_|fail);all_goals(conv=>whnf)
   all_goals clear e1
   all_goals first
    | exact Za (hm false (by clear hm; simp_all [fewM,Yq]; done))
    | exact Ql ⟨(k+1,_),[],rfl,kps,kps,⟨Ze (by omega),hlt,hm true (by clear hm; simp_all [fewM,Yq]; done)⟩,by dsimp only; omega⟩
  rw [Qj (by omega)] at hh
  have hh:V=B:=hh
  subst hh
  subst hV
  repeat'(first|refine wk3 ?_|(refine wk2 ?_ ?_<;>intro _)|refine wk4 ?_|fail);all_goals(conv=>whnf)
  clear hlt hk
  generalize hV:h.ss.all fewS=V
  refine Yb (S:=Nat × Int) (fun t=>h.ks.length-t.1) (fun t=>[(1,.ptr 0 0 0),(2,Bo false),(5,I t.2)]) (fun _=>[(0,.row 9 [h.cells] true false)]) 1 1 (fun t=>t.2=t.1/\t.1<=h.ks.length/\((h.ks.drop t.1).all fewC&&V)=(h.ks.all fewC&&V)) (0,0) ⟨rfl,Qn _,rfl⟩ (Qd _) [] rfl (kps) (kps) ?_
  rintro ⟨k,i⟩ ⟨hi,hk,hh⟩
  dsimp only at hi hk hh ⊢
  subst hi
  generalize hB:(h.ks.all fewC&&V)=B at *
  clear hB
  refine bs.av (sx:=nos) Zc ?_
  by_cases hlt:k<h.ks.length
  ·clear hV
   have e1:=Zb6 hlt
   rw [Qi hlt,Me] at hh
   generalize h.ks[k]=m at *
   have e9:=Zi m.hs
   have hm:∀ b,fewC m=b->(b&&(h.ks.drop (k+1)).all fewC&&V)=B:=fun b e=>by rw [<-e,Pj]; rw [Pj] at hh; exact hh
   clear hh
   repeat'(first|refine wk3 ?_|(refine wk2 ?_ ?_<;>intro _)|refine wk4 ?_|fail);all_goals(conv=>whnf)
   all_goals clear e1
   all_goals first
    | exact Za (hm false (by clear hm; simp_all [fewC,Yq]; done))
    | exact Ql ⟨(k+1,_),[],rfl,kps,kps,⟨Ze (by omega),hlt,hm true (by clear hm; simp_all [fewC,Yq]; done)⟩,by dsimp only; omega⟩
  rw [Qj (by omega)] at hh
  have hh:V=B:=hh
  subst hh
  subst hV
  repeat'(first|refine wk3 ?_|(refine wk2 ?_ ?_<;>intro _)|refine wk4 ?_|fail);all_goals(conv=>whnf)
  clear hlt hk
  refine Yb (S:=Nat × Int) (fun t=>h.ss.length-t.1) (fun t=>[(1,.ptr 0 0 0),(2,Bo false),(6,I t.2)]) (fun _=>[(0,.row 9 [h.cells] true false)]) 1 1 (fun t=>t.2=t.1/\t.1<=h.ss.length/\((h.ss.drop t.1).all fewS)=(h.ss.all fewS)) (0,0) ⟨rfl,Qn _,rfl⟩ (Qd _) [] rfl (kps) (kps) ?_
  rintro ⟨k,i⟩ ⟨hi,hk,hh⟩
  dsimp only at hi hk hh ⊢
  subst hi
  generalize hB:(h.ss.all fewS)=B at *
  clear hB
  refine bs.av (sx:=nos) Zc ?_
  by_cases hlt:k<h.ss.length
  ·have e1:=Zsl hlt
   rw [Qi hlt,Me] at hh
   generalize h.ss[k]=m at *
   have hm:∀ b,fewS m=b->(b&&(h.ss.drop (k+1)).all fewS)=B:=fun b e=>by rw [<-e]; exact hh
   clear hh
   repeat'(first|refine wk3 ?_|(refine wk2 ?_ ?_<;>intro _)|refine wk4 ?_|fail);all_goals(conv=>whnf)
   all_goals clear e1
   all_goals first
    | exact Za (hm false (by clear hm; simp_all [fewS,Yq]; done))
    | exact Ql ⟨(k+1,_),[],rfl,kps,kps,⟨Ze (by omega),hlt,hm true (by clear hm; simp_all [fewS,Yq]; done)⟩,by dsimp only; omega⟩
  rw [Qj (by omega)] at hh
  repeat'(first|refine wk3 ?_|(refine wk2 ?_ ?_<;>intro _)|refine wk4 ?_|fail);all_goals(conv=>whnf)
  exact Za hh
def few3 (h:Hal) (s:Stg):Bool:=few2 h&&(decide (s.hs.length<=4)&&decide (s.dr.length<=10))
theorem Yfb {h:Hal} {s:Stg} (r:few3 h s=true):h.ok/\s.few:=by
 unfold few3 at r
 simp only [Qc,decide_eq_true_eq] at r
 exact ⟨Yfc r.1,by omega,by omega⟩
theorem d90 {h:Hal} (hk:h.ok):PCall Tryz.prog 66 [h.av] ⟨I h.err,[]⟩:=by
 refine bs.pv (sx:=nos) (Zf (c65k hk) Zc) Tryz.func66 (by kernel_rfl) (by kernel_rfl) rfl ?_
 repeat'(first|refine wk3 ?_|(refine wk2 ?_ ?_<;>intro _)|refine wk4 ?_|fail);all_goals(conv=>whnf)
 exact Zb rfl
noncomputable abbrev cHas (h:Hal):List AV->Option PRes:=famA (fun _:Int=>True) (fun i=>[h.av,I i]) (fun i=>⟨Bo (within i 0 (nsur h-1)),[]⟩)
theorem Ys (h:Hal) (i:Int):cHas h [h.av,I i]=some ⟨Bo (within i 0 (nsur h-1)),[]⟩ :=
 Zo (p:=fun _:Int=>True) (g:=fun i=>[h.av,I i]) (r:=fun i=>⟨Bo (within i 0 (nsur h-1)),[]⟩) (fun j hj=>by
  simp only [Qx,Tl,true_and,and_true] at hj
  rw [hj]) trivial
def nsN (h:Hal):Nat:=h.ws.length+2+h.ks.length
theorem Xq (h:Hal):(nsN h:Int)=nsur h:=by unfold nsN nsur; omega
theorem Zzz (h:Hal):(sl (surf h)).length=nsN h:=by
 rw [Zjn]; unfold surf Zgh Zgz nsN; simp; omega
def wkG (n:Int):Option Int->List Int->Int
 | _,[]=>0
 | q,x::l=>if within x 0 n then (if q=some x then 26 else wkG n (some x) l) else 6
def suE (h:Hal) (l:List Int):Int:=if 4<(l.length:Int) then 8 else wkG (nsur h-1) none l
theorem Yb2 {n:Int}:∀ {l:List Int} {q:Option Int},wkG n q l=0->∀ x∈l,0<=x/\x<=n
 | [],_,_,x,hx=>by simp at hx
 | y::l,q,h,x,hx=>by
  rw [wkG] at h
  split at h
  ·rename_i c
   split at h
   ·cases h
   ·rw [Rf] at hx
    rcases hx with rfl|hx
    ·exact within_iff.1 c
    ·exact Yb2 h x hx
  ·cases h
theorem d17 (h:Hal) (s:Stg):PCall Tryz.prog 13 [.agg (stgL h s)] ⟨Bo (few3 h s),[]⟩:=by
 have l1:=Zi s.hs
 have l2:=Zi s.dr
 have hk:=Zf (d80 h) Zc
 unfold few3
 generalize few2 h=b at *
 by_cases c1:s.hs.length<=4<;>by_cases c2:s.dr.length<=10<;>cases b
 all_goals
  refine bs.pv (sx:=nos) hk Tryz.func13 (by kernel_rfl) (by kernel_rfl) rfl ?_
  repeat'(first|refine wk3 ?_|(refine wk2 ?_ ?_<;>intro _)|refine wk4 ?_|fail);all_goals(conv=>whnf)
 all_goals first
  | exact Za rfl
  | (refine Za ?_; simp_all; done)
  | (refine Za ?_; simp_all; omega)
  | (exfalso; simp_all; omega)
def eqN:List Int->List Int->Bool
 | [],[]=>true
 | x::a,y::b=>decide (x=y)&&eqN a b
 | _,_=>false
theorem Zrq:∀ {a b:List Int},eqN a b=true↔a=b
 | [],[]=>by simp [eqN]
 | x::a,y::b=>by rw [eqN,Qc,decide_eq_true_eq,Zrq]; simp
 | [],y::b=>by simp [eqN]
 | x::a,[]=>by simp [eqN]
theorem Yfg {a b:List Int} (h:a.length≠b.length):eqN a b=false:=by
 rw [Bool.eq_false_iff,ne_eq,Zrq]
 intro e; exact h (by rw [e])
theorem c69 {a b:List Int} (hl:a.length<1000000) (hb:b.length<1000000):PCall Tryz.prog 58 [.isl 1 (nl a),.isl 1 (nl b)] ⟨Bo (eqN a b),[]⟩:=by
 have l1:=Zi a
 have l2:=Zi b
 refine bs.pv (sx:=nos) Zc Tryz.func58 (by kernel_rfl) (by kernel_rfl) rfl ?_
 by_cases hlen:a.length=b.length
 ·repeat'(first|refine wk1 ?_|(refine wk2 ?_ ?_<;>intro _)|refine wk4 ?_|fail);all_goals(conv=>whnf)
  refine Yb (S:=Nat × Int) (fun t=>a.length-t.1) (fun t=>[(0,.isl 1 (nl a)),(1,.isl 1 (nl b)),(5,I t.2)]) (fun _=>[]) 0 0 (fun t=>t.2=t.1/\t.1<=a.length/\eqN (a.drop t.1) (b.drop t.1)=eqN a b) (0,0) ⟨rfl,Qn _,rfl⟩ (Qd _) [] rfl (kps) (kps) ?_
  rintro ⟨k,i⟩ ⟨hi,hk,hh⟩
  dsimp only at hi hk hh ⊢
  subst hi
  refine bs.av (sx:=nos) Zc ?_
  by_cases hlt:k<a.length
  ·have e1:=Uh hlt
   have e2:=Uh (ns:=b) (k:=k) (by omega)
   rw [Qi hlt,Qi (show k<b.length by omega),eqN] at hh
   by_cases he:a[k]=b[k]'(by omega)
   ·rw [decide_eq_true he,Tx] at hh
    repeat'(first|refine wk1 ?_|(refine wk2 ?_ ?_<;>intro _)|refine wk4 ?_|fail);all_goals(conv=>whnf)
    exact Ql ⟨(k+1,_),[],rfl,kps,kps,⟨Ze (by omega),hlt,hh⟩,by dsimp only; omega⟩
   ·rw [decide_eq_false he,Oi] at hh
    rw [<-hh]
    repeat'(first|refine wk1 ?_|(refine wk2 ?_ ?_<;>intro _)|refine wk4 ?_|fail);all_goals(conv=>whnf)
    exact Za rfl
  ·rw [Qj (by omega),Qj (by omega)] at hh
   rw [<-hh]
   repeat'(first|refine wk1 ?_|(refine wk2 ?_ ?_<;>intro _)|refine wk4 ?_|fail);all_goals(conv=>whnf)
   exact Za rfl
 ·rw [Yfg hlen]
  repeat'(first|refine wk1 ?_|(refine wk2 ?_ ?_<;>intro _)|refine wk4 ?_|fail);all_goals(conv=>whnf)
  exact Za rfl
noncomputable abbrev Yez:List AV->Option PRes:=famA (fun p:List Int × List Int=>p.1.length<1000000/\p.2.length<1000000) (fun p=>[.isl 1 (nl p.1),.isl 1 (nl p.2)]) (fun p=>⟨Bo (eqN p.1 p.2),[]⟩)
theorem Yay {a b:List Int} (ha:a.length<1000000) (hb:b.length<1000000):Yez [.isl 1 (nl a),.isl 1 (nl b)]=some ⟨Bo (eqN a b),[]⟩ :=
 Zo (p:=fun p:List Int × List Int=>p.1.length<1000000/\p.2.length<1000000) (g:=fun p=>[.isl 1 (nl p.1),.isl 1 (nl p.2)]) (r:=fun p=>⟨Bo (eqN p.1 p.2),[]⟩) (k:=(a,b)) (fun j hj=>by
  simp only [Qx,Od,true_and,and_true] at hj
  rw [Zgv hj.1,Zgv hj.2]) ⟨ha,hb⟩
theorem Yaz {pt:PC} (h:PCOK Tryz.prog pt):PCOK Tryz.prog (ins 58 Yez pt):=Ya (fun p hp=>c69 hp.1 hp.2) h
theorem d103 {ns:List Int} (h0:0<ns.length) (hl:ns.length<100000):PCall Tryz.prog 103 [.isl 1 (nl ns)] ⟨.asl 0 0 (nl ns).length,[(1,nl ns)]⟩:=by
 obtain ⟨x,l,rfl⟩:=Lz h0
 have h1:=Zor (x::l)
 have h2:=Zi (x::l)
 refine bs.pv (sx:=nos) Zc Tryz.func103 (by kernel_rfl) (by kernel_rfl) rfl ?_
 repeat'(first|refine wk3 ?_|(refine wk2 ?_ ?_<;>intro _)|refine wk4 ?_|fail);all_goals(conv=>whnf)
 refine Yr [1] rfl ?_ rfl
 show Qz 1 0 (0+(nl (x::l)).length)=Qz 1 0 (nl (x::l)).length
 rw [Ru]
theorem w103 (a:Option Addr) (cap:Nat) (w:World):Calls Tryz.prog 103 #[.slice a 0 cap] w fun e w'=>∃ a' cap',e = .returned (.slice a' 0 cap')/\RowKit.Below w.heap.size w w':=by
 have e:∀ w:World,Sem.run Tryz.prog (binOp BinOp.eql 29 (Mw a 0 cap) (Mw none 0 0)) w = .ok (.bool a.isNone) w:=by
  intro w
  cases a<;>rfl
 cases a with
 | none =>
  simp only [Ju] at e
  go_enter Tryz.func103,Tryz.ntmps103
  go_wp2
  go_ret
  exact ⟨_,_,rfl,Dc _ _⟩
 | some a =>
  simp only [Ju] at e
  go_enter Tryz.func103,Tryz.ntmps103
  go_wp2
  go_ret
  exact ⟨_,_,rfl,Zk4 _ _⟩
theorem Yio:PCall Tryz.prog 103 [.isl 1 []] ⟨.isl 1 [],[]⟩:=Zoo (FnOK.of Tryz.func103 (by kernel_rfl) (by kernel_rfl)) w103
theorem Zos (l:List (Int × Int × Int × Int)):Uo (l.map hp4)=true:=by simp [Uo,AV.one]
theorem d104 {ps:List (Int × Int × Int × Int)} (h0:0<ps.length) (hl:ps.length<100000):PCall Tryz.prog 104 [.isl 4 (ps.map hp4)] ⟨.asl 0 0 (ps.map hp4).length,[(4,ps.map hp4)]⟩:=by
 obtain ⟨x,l,rfl⟩:=Lz h0
 have h1:=Zos (x::l)
 have h2:((x::l).map hp4).length=(x::l).length:=by simp
 refine bs.pv (sx:=nos) Zc Tryz.func104 (by kernel_rfl) (by kernel_rfl) rfl ?_
 repeat'(first|refine wk3 ?_|(refine wk2 ?_ ?_<;>intro _)|refine wk4 ?_|fail);all_goals(conv=>whnf)
 refine Yr [1] rfl ?_ rfl
 show Qz 1 0 (0+((x::l).map hp4).length)=Qz 1 0 ((x::l).map hp4).length
 rw [Ru]
theorem w104 (a:Option Addr) (cap:Nat) (w:World):Calls Tryz.prog 104 #[.slice a 0 cap] w fun e w'=>∃ a' cap',e = .returned (.slice a' 0 cap')/\RowKit.Below w.heap.size w w':=by
 have e:∀ w:World,Sem.run Tryz.prog (binOp BinOp.eql 40 (Mw a 0 cap) (Mw none 0 0)) w = .ok (.bool a.isNone) w:=by
  intro w
  cases a<;>rfl
 cases a with
 | none =>
  simp only [Ju] at e
  go_enter Tryz.func104,Tryz.ntmps104
  go_wp2
  go_ret
  exact ⟨_,_,rfl,Dc _ _⟩
 | some a =>
  simp only [Ju] at e
  go_enter Tryz.func104,Tryz.ntmps104
  go_wp2
  go_ret
  exact ⟨_,_,rfl,Zk4 _ _⟩
theorem Yim:PCall Tryz.prog 104 [.isl 4 []] ⟨.isl 4 [],[]⟩:=Zoo (FnOK.of Tryz.func104 (by kernel_rfl) (by kernel_rfl)) w104
abbrev Pl3:=Int × Int × Int
def plcB (x y z:Int):Bool:=within x (-5000) 5000&&within y (-5000) 5000&&within z (-5000) 5000
def plaE (h:Hal) (x y z:Int):Int:=if plcB x y z=true then unl (Za3 h ⟨x,y,z,1⟩) 24 else 2
theorem d123 (x y z:Int):PCall Tryz.prog 123 [P3 x y z] ⟨P4 x y z 1,[]⟩:=by
 refine bs.pv (sx:=nos) Zc Tryz.func123 (by kernel_rfl) (by kernel_rfl) rfl ?_
 repeat'(first|refine wk3 ?_|(refine wk2 ?_ ?_<;>intro _)|refine wk4 ?_|fail);all_goals(conv=>whnf)
 all_goals exact Zg rfl rfl
theorem d83 (n:Int):PCall Tryz.prog 83 [I n] ⟨Bo (within n (-5000) 5000),[]⟩:=by
 refine bs.pv (sx:=nos) (Zf (c30 n (-5000) 5000) Zc) Tryz.func83 (by kernel_rfl) (by kernel_rfl) rfl ?_
 repeat'(first|refine wk3 ?_|(refine wk2 ?_ ?_<;>intro _)|refine wk4 ?_|fail);all_goals(conv=>whnf)
 exact Za rfl
theorem d81 (n:Int):PCall Tryz.prog 81 [I n] ⟨I (unl (within n 0 4) 2),[]⟩:=by
 refine bs.pv (sx:=nos) (Zf (d210 n 0 4) (Zf (d209 (within n 0 4) 2) Zc)) Tryz.func81 (by kernel_rfl) (by kernel_rfl) rfl ?_
 repeat'(first|refine wk3 ?_|(refine wk2 ?_ ?_<;>intro _)|refine wk4 ?_|fail);all_goals(conv=>whnf)
 exact Zb rfl
theorem d68 (n:Int):PCall Tryz.prog 68 [I n] ⟨I (unl (within n 0 4) 2),[]⟩:=by
 refine bs.pv (sx:=nos) (Zf (c30 n 0 4) Zc) Tryz.func68 (by kernel_rfl) (by kernel_rfl) rfl ?_
 repeat'(first|refine wk3 ?_|(refine wk2 ?_ ?_<;>intro _)|refine wk4 ?_|fail);all_goals(conv=>whnf)
 all_goals exact Zb (by simp_all [unl])
theorem Zsh (n:Int):small n 5000=within n (-5000) 5000:=rfl
theorem Ygo {x y z:Int} (c:plcB x y z=true):Xm ⟨x,y,z,1⟩=0:=by
 simp only [plcB,Qc,within_iff] at c
 have hg:g4 ⟨x,y,z,1⟩=1:=by
  simp [g4]
 unfold Xm
 rw [if_neg (by simp [hg]),if_neg (by simp),if_pos]
 unfold ptIn
 simp only [Qc,within_iff]
 simp
 omega
def r86:List AV->Option PRes
 | [.int .i64 n,.int .i64 m]=>some ⟨Bo (small n m),[]⟩
 | _=>none
theorem Yga {pt:PC} (h:PCOK Tryz.prog pt):PCOK Tryz.prog (ins 86 r86 pt):=Zl (fun a res h=>by unfold r86 at h; split at h<;>cases h; exact d86 _ _) h
def r83:List AV->Option PRes
 | [.int .i64 n]=>some ⟨Bo (within n (-5000) 5000),[]⟩
 | _=>none
theorem Ygc {pt:PC} (h:PCOK Tryz.prog pt):PCOK Tryz.prog (ins 83 r83 pt):=Zl (fun a res h=>by unfold r83 at h; split at h<;>cases h; exact d83 _) h
theorem d79 {h:Hal} (hk:h.ok) (he:h.err=0) (x y z:Int):PCall Tryz.prog 79 [h.av,P3 x y z] ⟨I (plaE h x y z),[]⟩:=by
 have hk0:=Yga (Zf (d123 x y z) Zc)
 by_cases c:plcB x y z=true
 ·have hp:=Ygo c
  have hi:insE h ⟨x,y,z,1⟩=0:=by unfold insE; rw [if_pos he,hp]
  have hw:Pt.wf ⟨x,y,z,1⟩:=by
   simp only [plcB,Qc,within_iff] at c
   refine ⟨⟨?_,?_⟩,⟨?_,?_⟩,⟨?_,?_⟩,⟨?_,?_⟩⟩<;>dsimp only<;>omega
  have h50:=c50 hk hw
  rw [hi] at h50
  unfold plaE
  rw [if_pos c]
  generalize Za3 h ⟨x,y,z,1⟩=b at *
  have hk1:=Zf h50 (Zf (d209 b 24) hk0)
  simp only [plcB,Qc,<-Zsh] at c
  refine bs.pv (sx:=nos) hk1 Tryz.func79 (by kernel_rfl) (by kernel_rfl) rfl ?_
  repeat'(first|refine wk3 ?_|(refine wk2 ?_ ?_<;>intro _)|refine wk4 ?_|fail);all_goals(conv=>whnf)
  all_goals first
   | exact Zb rfl
   | (exfalso; clear hk1 h50 hk0 hp hi; simp_all; done)
 ·unfold plaE
  rw [if_neg c]
  simp only [plcB,<-Zsh] at c
  refine bs.pv (sx:=nos) hk0 Tryz.func79 (by kernel_rfl) (by kernel_rfl) rfl ?_
  repeat'(first|refine wk3 ?_|(refine wk2 ?_ ?_<;>intro _)|refine wk4 ?_|fail);all_goals(conv=>whnf)
  all_goals first
   | exact Zb rfl
   | (exfalso; clear hk0; simp_all; done)
theorem d27 {h:Hal} (hk:h.ok) (he:h.err=0) (x y z:Int):PCall Tryz.prog 27 [h.av,P3 x y z] ⟨I (plaE h x y z),[]⟩:=by
 have hf:=Zko hk he
 have hk0:=Zf (c52 hk.f hf.le.2.2.1 (Zwy hf.st) ⟨x,y,z,1⟩) (Ygc (Zf (c36 x y z) Zc))
 unfold plaE plcB
 generalize Za3 h ⟨x,y,z,1⟩=b at *
 refine bs.pv (sx:=nos) hk0 Tryz.func27 (by kernel_rfl) (by kernel_rfl) rfl ?_
 repeat'(first|refine wk3 ?_|(refine wk2 ?_ ?_<;>intro _)|refine wk4 ?_|fail);all_goals(conv=>whnf)
 all_goals clear hk0
 all_goals exact Zb (by simp_all [unl])
abbrev pl3 (p:Pl3):List AV:=[I p.1,I p.2.1,I p.2.2]
def im1 (h:Hal) (s:Stg) (n:Int) (p:Pl3):Pl3:=rmir (Zh h s n).1 (Zh h s n).2 p.1 p.2.1 p.2.2
def imA (f:Int->Pl3->Pl3) (p:Pl3) (l:List Int) (k:Nat):Pl3:=(l.take k).foldl (fun q n=>f n q) p
theorem Znh (f:Int->Pl3->Pl3) (p:Pl3) {l:List Int} {k:Nat} (hk:k<l.length):imA f p l (k+1)=f l[k] (imA f p l k):=by
 unfold imA
 rw [List.take_succ_eq_append_getElem hk,List.foldl_append]
 rfl
def imC (f:Int->Pl3->Pl3) (p:Pl3) (l:List Int) (k:Nat):List (List AV):=(List.range (k+1)).map fun j=>pl3 (imA f p l j)
theorem Zdg (f:Int->Pl3->Pl3) (p:Pl3) (l:List Int) (k:Nat):(imC f p l k).length=k+1:=by simp [imC]
theorem Zg0 (f:Int->Pl3->Pl3) (p:Pl3) (l:List Int) (k:Nat):(imC f p l k)[k]?=some (pl3 (imA f p l k)):=by simp [imC]
theorem Zs9 (f:Int->Pl3->Pl3) (p:Pl3) (l:List Int) (k:Nat):imC f p l (k+1)=imC f p l k++[pl3 (imA f p l (k+1))]:=by
 unfold imC
 rw [List.range_succ,List.map_append]
 rfl
theorem Yai {h:Hal} {s:Stg} (g:Sit h s) {i:Int} (hi:SK h i):(Zh h s i).1<=2->(-5000<=(Zh h s i).2/\(Zh h s i).2<=5000):=by
 have ht:=g.fine.ht
 cases hi with
 | wall k hk =>
  have hk2:k<h.cs.length:=by have:=g.fine.le; omega
  obtain ⟨n,sx,sy,hs⟩:=g.fine.st k hk2
  rw [Zac hk,Zm9 hs]
  have:=hs.b1
  have:=hs.b2
  repeat' split
  all_goals (dsimp only; omega)
 | floor=>rw [Zaq]; dsimp only; omega
 | ceil=>rw [Zbj]; dsimp only; omega
 | can j hj =>
  rw [Zck]
  have:=Ztb g hj
  dsimp only; omega
def Near (m:Int) (p:Pl3):Prop:=(-m<=p.1/\p.1<=m)/\(-m<=p.2.1/\p.2.1<=m)/\(-m<=p.2.2/\p.2.2<=m)
theorem Zta {h:Hal} {s:Stg} (g:Sit h s) {i:Int} (hi:SK h i) {m:Int} (hm:m<=35000) {p:Pl3} (hp:Near m p):Near (m+10000) (im1 h s i p)/\Ui (Zh h s i).1 (Zh h s i).2 p.1 p.2.1 p.2.2=0/\mirP (Zh h s i).1 (Zh h s i).2 p.1 p.2.1 p.2.2=im1 h s i p:=by
 have b:=Zm8 g hi
 have b2:=Yai g hi
 obtain ⟨x,y,z⟩:=p
 obtain ⟨hx,hy,hz⟩:=hp
 dsimp only at hx hy hz
 unfold im1
 generalize (Zh h s i).1=k at *
 generalize (Zh h s i).2=a at *
 have key:Near (m+10000) (rmir k a x y z):=by
  unfold rmir Near
  have w2:Qa Qb (2*a)=2*a:=W_eq (by omega) (by omega)
  by_cases k0:k=0
  ·subst k0; have:=b2 (by omega); simp only [if_pos]; rw [w2,W_eq (by omega) (by omega)]; omega
  by_cases k1:k=1
  ·subst k1; have:=b2 (by omega); simp; rw [w2,W_eq (by omega) (by omega)]; omega
  by_cases k2:k=2
  ·subst k2; have:=b2 (by omega); simp; rw [w2,W_eq (by omega) (by omega)]; omega
  by_cases k3:k=3
  ·subst k3; simp; rw [W_eq (by omega) (by omega),W_eq (by omega) (by omega)]; omega
  have k4:k=4:=by omega
  subst k4; simp; rw [W_eq (by omega) (by omega),W_eq (by omega) (by omega)]; omega
 have e:=Zuj b.1 b.2 (x:=x) (y:=y) (z:=z) (by omega) (by omega) (by omega) (u:=(rmir k a x y z).1) (v:=(rmir k a x y z).2.1) (w:=(rmir k a x y z).2.2) rfl
  (by have:=key.1; omega) (by have:=key.2.1; omega) (by have:=key.2.2; omega)
 refine ⟨key,by rw [Zow]; exact e,?_⟩
 rw [Yeh]
 unfold Yd1
 rw [if_pos e]
theorem Zi1 {h:Hal} {s:Stg} (g:Sit h s) {p:Pl3} (hp:Near 5000 p) {l:List Int} (hl:l.length<=4) (hi:∀ n∈l,SK h n):∀ k,k<=l.length->Near (5000+10000*k) (imA (im1 h s) p l k)
 | 0,_=>by simpa [imA] using hp
 | k+1,hk=>by
  rw [Znh _ _ (by omega)]
  have:=(Zta g (hi l[k] (Qt _)) (m:=5000+10000*k) (by omega) (Zi1 g hp hl hi k (by omega))).1
  rw [show (5000:Int)+10000*((k+1:Nat):Int)=5000+10000*k+10000 by omega]
  exact this
theorem Ygh {pt:PC} (h:PCOK Tryz.prog pt):PCOK Tryz.prog (ins 137 r32 pt):=Zl (fun a res h=>by unfold r32 at h; split at h<;>cases h; exact c32 _ _ _ _ _) h
noncomputable abbrev plT (h:Hal) (s:Stg):List AV->Option PRes:=famA (fun i:Int=>0<=i/\i<nsur h) (fun i=>[h.av,s.av,I i]) (fun i=>⟨.tup [P2 (Zh h s i).1 (Zh h s i).2,I 0],[]⟩)
theorem Ygl {h:Hal} (hk:h.ok) {s:Stg} (hs:s.few) (h0:serr h s=0) {pt:PC} (hp:PCOK Tryz.prog pt):PCOK Tryz.prog (ins 136 (plT h s) pt) :=
 Ya (fun i hi=>by
  have e:surE h s i=0:=by
   unfold surE
   rw [if_pos h0,if_pos (within_iff.2 (by omega))]
  have e2:Zij h s i=Zh h s i:=by unfold Zij; rw [if_pos e]
  have:=c54 hk hs i
  rw [e,e2] at this
  exact this) hp
theorem Yd9 {h:Hal} {s:Stg} {i:Int} (hi:0<=i/\i<nsur h):plT h s [h.av,s.av,I i]=some ⟨.tup [P2 (Zh h s i).1 (Zh h s i).2,I 0],[]⟩ :=
 Zo (p:=fun i:Int=>0<=i/\i<nsur h) (g:=fun i=>[h.av,s.av,I i]) (r:=fun i=>⟨.tup [P2 (Zh h s i).1 (Zh h s i).2,I 0],[]⟩) (fun j hj=>by
  simp only [Qx,Tl,true_and,and_true] at hj
  rw [hj]) hi
theorem d82 {h:Hal} (hk:h.ok) {s:Stg} (hs:s.few) (h0:serr h s=0) {p:Pl3} (hp:Near 5000 p) {l:List Int} (hl:l.length<=4) (hi:∀ n∈l,0<=n/\n<nsur h) :
  PCall Tryz.prog 82 [.agg (stgL h s),P3 p.1 p.2.1 p.2.2,.isl 1 (nl l)] ⟨.asl 0 0 (l.length+1),[(3,imC (im1 h s) p l l.length)]⟩:=by
 have g:=Zlz hk hs h0
 have hkk:=Ygl hk hs h0 (Ygh Zc)
 have ll:=Zi l
 refine bs.pv (sx:=nos) hkk Tryz.func82 (by kernel_rfl) (by kernel_rfl) rfl ?_
 refine Yb (S:=Nat × Int × Nat × List (List AV)) (fun t=>l.length-t.1) (fun t=>[(3,.ptr 0 0 0),(7,.asl (nm2 2 3 t.1) 0 t.2.2.1),(16,.isl 1 (nl l)),(17,I (nl l).length),(18,I t.2.1)]) (fun t=>[(nm2 2 3 t.1,.row 3 t.2.2.2 true true),(0,.row 11 [stgL h s] true false)]) 3 4
  (fun t=>t.2.1=t.1/\t.1<=l.length/\t.2.2.1=t.2.2.2.length/\t.2.2.2=imC (im1 h s) p l t.1) (0,0,1,[pl3 p]) ⟨rfl,Qn _,rfl,rfl⟩ (Qd _) [] rfl (kps) (kps) ?_
 rintro ⟨k,i,len,els⟩ ⟨hi',hk',hlen,hels⟩
 dsimp only at hi' hk' hlen hels ⊢
 subst hi'
 refine bs.av (sx:=nos) hkk ?_
 have e1:els.length=k+1:=by rw [hels,Zdg]
 have e2:els[0+(Qa Qb ((len:Int)-1)).toNat]?=some (pl3 (imA (im1 h s) p l k)):=by
  rw [Ru,hlen,e1,W_eq (by omega) (by omega),show (((k+1:Nat):Int)-1).toNat=k by omega,hels,Zg0]
 have e8:Qa Qb ((len:Int)-1)=k:=by rw [hlen,e1,W_eq (by omega) (by omega)]; omega
 have hnr:=Zi1 g hp hl (fun n hn=>Zue (hi n hn).1 (hi n hn).2) k hk'
 by_cases hlt:k<l.length
 ·have e3:(nl l)[((k:Nat):Int).toNat]?=some [I l[k]]:=by simp [nl,hlt]
  have hin:=hi l[k] (Qt _)
  have e4:=Yd9 (s:=s) hin
  have e5:=Zta g (Zue hin.1 hin.2) (by omega) hnr
  have e6:=Znh (im1 h s) p hlt
  have e7:=Zs9 (im1 h s) p l k
  rw [<-hels,e6] at e7
  rw [<-e5.2.2] at e7
  clear e6 hels
  generalize imA (im1 h s) p l k=q at *
  generalize l[k]=n at *
  cases k with
  | zero =>
   repeat'(first|refine wk3 ?_|(refine wk2 ?_ ?_<;>intro _)|refine wk4 ?_|fail);all_goals(conv=>whnf)
   exact Ql ⟨(1,_,_,_),[(3,20)],rfl,kps,kps,⟨Ze (k:=0) (by omega),hlt,by exact List.length_append.symm,e7.symm⟩,by dsimp only; omega⟩
  | succ k =>
   repeat'(first|refine wk3 ?_|(refine wk2 ?_ ?_<;>intro _)|refine wk4 ?_|fail);all_goals(conv=>whnf)
   exact Ql ⟨(k+1+1,_,_,_),[(3,20)],rfl,kps,kps,⟨Ze (k:=k+1) (by omega),hlt,by exact List.length_append.symm,e7.symm⟩,by dsimp only; omega⟩
 ·have ek:k=l.length:=by omega
  subst ek
  rw [hels]
  rw [hels,Zdg] at hlen
  subst hlen
  cases l with
  | nil =>
   repeat'(first|refine wk3 ?_|(refine wk2 ?_ ?_<;>intro _)|refine wk4 ?_|fail);all_goals(conv=>whnf)
   exact Yr [2] rfl rfl rfl
  | cons a l =>
   repeat'(first|refine wk3 ?_|(refine wk2 ?_ ?_<;>intro _)|refine wk4 ?_|fail);all_goals(conv=>whnf)
   exact Yr [3] rfl rfl rfl
theorem Ygb {pt:PC} (h:PCOK Tryz.prog pt):PCOK Tryz.prog (ins 85 r96 pt):=Zl (fun a res h=>by unfold r96 at h; split at h<;>cases h; exact c96 _ _ _ _ _) h
noncomputable abbrev plR (h:Hal) (s:Stg):List AV->Option PRes:=famA (fun i:Int=>SK h i) (fun i=>[h.av,s.av,I i]) (fun i=>⟨P2 (Zh h s i).1 (Zh h s i).2,[]⟩)
theorem Ygm {h:Hal} {s:Stg} (g:Sit h s) {pt:PC} (hp:PCOK Tryz.prog pt):PCOK Tryz.prog (ins 23 (plR h s) pt):=Ya (fun i hi=>c59 g hi) hp
theorem Yea {h:Hal} {s:Stg} {i:Int} (hi:SK h i):plR h s [h.av,s.av,I i]=some ⟨P2 (Zh h s i).1 (Zh h s i).2,[]⟩ :=
 Zo (p:=fun i:Int=>SK h i) (g:=fun i=>[h.av,s.av,I i]) (r:=fun i=>⟨P2 (Zh h s i).1 (Zh h s i).2,[]⟩) (fun j hj=>by
  simp only [Qx,Tl,true_and,and_true] at hj
  rw [hj]) hi
theorem d28 {h:Hal} {s:Stg} (g:Sit h s) {p:Pl3} {l:List Int} (hl:l.length<=4) (hi:∀ n∈l,SK h n) :
  PCall Tryz.prog 28 [h.av,s.av,P3 p.1 p.2.1 p.2.2,.isl 1 (nl l)] ⟨.asl 0 0 (l.length+1),[(3,imC (im1 h s) p l l.length)]⟩:=by
 have hkk:=Ygm g (Ygb Zc)
 have ll:=Zi l
 refine bs.pv (sx:=nos) hkk Tryz.func28 (by kernel_rfl) (by kernel_rfl) rfl ?_
 refine Yb (S:=Nat × Int × Nat × List (List AV)) (fun t=>l.length-t.1) (fun t=>[(3,.isl 1 (nl l)),(4,.ptr 0 0 0),(5,.ptr 1 0 0),(9,.asl (nm2 3 4 t.1) 0 t.2.2.1),(10,I t.2.1)]) (fun t=>[(nm2 3 4 t.1,.row 3 t.2.2.2 true true),(1,.row 2 [[.isl 1 (nl s.hs),.isl 1 (nl s.dr)]] true false),(0,.row 9 [h.cells] true false)]) 4 5
  (fun t=>t.2.1=t.1/\t.1<=l.length/\t.2.2.1=t.2.2.2.length/\t.2.2.2=imC (im1 h s) p l t.1) (0,0,1,[pl3 p]) ⟨rfl,Qn _,rfl,rfl⟩ (Qd _) [] rfl (kps) (kps) ?_
 rintro ⟨k,i,len,els⟩ ⟨hi',hk',hlen,hels⟩
 dsimp only at hi' hk' hlen hels ⊢
 subst hi'
 refine bs.av (sx:=nos) hkk ?_
 have e1:els.length=k+1:=by rw [hels,Zdg]
 have e2:els[0+((k:Nat):Int).toNat]?=some (pl3 (imA (im1 h s) p l k)):=by
  rw [Ru,show ((k:Nat):Int).toNat=k by omega,hels,Zg0]
 by_cases hlt:k<l.length
 ·have e3:(nl l)[((k:Nat):Int).toNat]?=some [I l[k]]:=by simp [nl,hlt]
  have e4:=Yea (s:=s) (hi l[k] (Qt _))
  have e6:=Znh (im1 h s) p hlt
  have e7:=Zs9 (im1 h s) p l k
  rw [<-hels,e6] at e7
  clear e6 hels
  generalize imA (im1 h s) p l k=q at *
  generalize l[k]=n at *
  cases k with
  | zero =>
   repeat'(first|refine wk3 ?_|(refine wk2 ?_ ?_<;>intro _)|refine wk4 ?_|fail);all_goals(conv=>whnf)
   refine Zr5 (ys:=[pl3 (rmir (Zh h s n).1 (Zh h s n).2 q.1 q.2.1 q.2.2)]) rfl rfl rfl rfl rfl rfl rfl rfl rfl rfl (by simp) hlen (by simp only [Sb,Pm]; omega) ?_
   conv=>whnf
   repeat'(first|refine wk3 ?_|(refine wk2 ?_ ?_<;>intro _)|refine wk4 ?_|fail);all_goals(conv=>whnf)
   exact Ql ⟨(1,_,_,_),[(4,19)],rfl,kps,kps,⟨Ze (k:=0) (by omega),hlt,by exact List.length_append.symm,e7.symm⟩,by dsimp only; omega⟩
  | succ k =>
   repeat'(first|refine wk3 ?_|(refine wk2 ?_ ?_<;>intro _)|refine wk4 ?_|fail);all_goals(conv=>whnf)
   refine Zr5 (ys:=[pl3 (rmir (Zh h s n).1 (Zh h s n).2 q.1 q.2.1 q.2.2)]) rfl rfl rfl rfl rfl rfl rfl rfl rfl rfl (by simp) hlen (by simp only [Sb,Pm]; omega) ?_
   conv=>whnf
   repeat'(first|refine wk3 ?_|(refine wk2 ?_ ?_<;>intro _)|refine wk4 ?_|fail);all_goals(conv=>whnf)
   exact Ql ⟨(k+1+1,_,_,_),[(4,19)],rfl,kps,kps,⟨Ze (k:=k+1) (by omega),hlt,by exact List.length_append.symm,e7.symm⟩,by dsimp only; omega⟩
 ·have ek:k=l.length:=by omega
  subst ek
  rw [hels]
  rw [hels,Zdg] at hlen
  subst hlen
  cases l with
  | nil =>
   repeat'(first|refine wk3 ?_|(refine wk2 ?_ ?_<;>intro _)|refine wk4 ?_|fail);all_goals(conv=>whnf)
   exact Yr [3] rfl rfl rfl
  | cons a l =>
   repeat'(first|refine wk3 ?_|(refine wk2 ?_ ?_<;>intro _)|refine wk4 ?_|fail);all_goals(conv=>whnf)
   exact Yr [4] rfl rfl rfl
structure Ask where
 fx:Int
 fy:Int
 fz:Int
 tx:Int
 ty:Int
 tz:Int
 n:Int
abbrev Ask.av (a:Ask):AV:=.agg [I a.fx,I a.fy,I a.fz,I a.tx,I a.ty,I a.tz,I a.n]
def Ask.same (a:Ask):Bool:=decide (a.fx=a.tx)&&(decide (a.fy=a.ty)&&decide (a.fz=a.tz))
def askE (h:Hal) (s:Stg) (a:Ask):Int:=if serr h s=0 then fstL [plaE h a.fx a.fy a.fz,plaE h a.tx a.ty a.tz,unl (!a.same) 11,unl (within a.n 0 4) 2] else serr h s
theorem Zgm {h:Hal} {s:Stg} (e:serr h s=0):h.err=0:=by
 unfold serr at e
 split at e
 ·assumption
 ·rename_i q; exact absurd e q
def r80:List AV->Option PRes
 | [.bool b,.int .i64 e]=>some ⟨I (unl b e),[]⟩
 | _=>none
theorem Ygd {pt:PC} (h:PCOK Tryz.prog pt):PCOK Tryz.prog (ins 80 r80 pt):=Zl (fun a res h=>by unfold r80 at h; split at h<;>cases h; exact d209 _ _) h
noncomputable abbrev r79 (h:Hal):List AV->Option PRes:=famA (fun _:Pl3=>True) (fun p=>[h.av,P3 p.1 p.2.1 p.2.2]) (fun p=>⟨I (plaE h p.1 p.2.1 p.2.2),[]⟩)
theorem Yge {h:Hal} (hk:h.ok) (he:h.err=0) {pt:PC} (hp:PCOK Tryz.prog pt):PCOK Tryz.prog (ins 79 (r79 h) pt):=Ya (fun p _=>d79 hk he p.1 p.2.1 p.2.2) hp
theorem Zm6 (h:Hal) (x y z:Int):r79 h [h.av,P3 x y z]=some ⟨I (plaE h x y z),[]⟩ :=
 Zo (p:=fun _:Pl3=>True) (g:=fun p=>[h.av,P3 p.1 p.2.1 p.2.2]) (r:=fun p=>⟨I (plaE h p.1 p.2.1 p.2.2),[]⟩) (k:=(x,y,z)) (fun j hj=>by
  simp only [Qx,AV.agg.injEq,Tl,true_and,and_true] at hj
  obtain ⟨h1,h2,h3⟩:=hj
  rw [h1,h2,h3]) trivial
theorem Ygi {h:Hal} (hk:h.ok) (he:h.err=0) {pt:PC} (hp:PCOK Tryz.prog pt):PCOK Tryz.prog (ins 27 (r79 h) pt):=Ya (fun p _=>d27 hk he p.1 p.2.1 p.2.2) hp
noncomputable abbrev rFst:List AV->Option PRes:=famA (fun l:List Int=>l.length<1000) (fun l=>[.isl 1 (nl l)]) (fun l=>⟨I (fstL l),[]⟩)
theorem Yd5 {pt:PC} (hp:PCOK Tryz.prog pt):PCOK Tryz.prog (ins 78 rFst pt):=Ya (fun l hl=>d78 hl) hp
theorem Yac {l:List Int} (h:l.length<1000):rFst [.isl 1 (nl l)]=some ⟨I (fstL l),[]⟩ :=
 Zo (p:=fun l:List Int=>l.length<1000) (g:=fun l=>[.isl 1 (nl l)]) (r:=fun l=>⟨I (fstL l),[]⟩) (fun j hj=>by
  simp only [Qx,Od,true_and,and_true] at hj
  rw [Zgv hj]) h
theorem d24 {h:Hal} (hk:h.ok) {s:Stg} (hs:s.few) (a:Ask):PCall Tryz.prog 24 [h.av,s.av,a.av] ⟨I (askE h s a),[]⟩:=by
 have hk0:=Zf (c47 hk hs) Zc
 by_cases e:serr h s=0
 ·have he:=Zgm e
  obtain ⟨fx,fy,fz,tx,ty,tz,n⟩:=a
  unfold askE
  rw [if_pos e]
  rw [e] at hk0
  dsimp only
  have hk1:=Yge hk he (Ygd (Zf (d81 n) (Yd5 hk0)))
  have q1:=Zm6 h fx fy fz
  have q2:=Zm6 h tx ty tz
  refine bs.pv (sx:=nos) hk1 Tryz.func24 (by kernel_rfl) (by kernel_rfl) rfl ?_
  repeat'(first|refine wk3 ?_|(refine wk2 ?_ ?_<;>intro _)|refine wk4 ?_|fail);all_goals(conv=>whnf)
  refine wxG (Yac (l:=[_,_,_,_]) (by simp)) ?_
  conv=>whnf
  repeat'(first|refine wk3 ?_|(refine wk2 ?_ ?_<;>intro _)|refine wk4 ?_|fail);all_goals(conv=>whnf)
  exact Zb (by simp [Ask.same])
 ·rw [show askE h s a=serr h s by unfold askE; rw [if_neg e]]
  refine bs.pv (sx:=nos) hk0 Tryz.func24 (by kernel_rfl) (by kernel_rfl) rfl ?_
  repeat'(first|refine wk3 ?_|(refine wk2 ?_ ?_<;>intro _)|refine wk4 ?_|fail);all_goals(conv=>whnf)
  all_goals first
   | exact Zb rfl
   | (exfalso; simp_all; done)
theorem d82f {h:Hal} (hk:h.ok) {s:Stg} (hs:s.few) (h0:serr h s=0) {p:Pl3} (hp:Near 5000 p) {l:List Int} (hl:l.length<=4) (hi:∀ n∈l,0<=n/\n<nsur h) :
  PCall Tryz.prog 82 [.agg (stgL h s),P3 p.1 p.2.1 p.2.2,.isl 1 (nl l)] ⟨.isl 3 (imC (im1 h s) p l l.length),[]⟩:=by
 have:=d82 hk hs h0 hp hl hi
 rw [show l.length+1=(imC (im1 h s) p l l.length).length by rw [Zdg]] at this
 exact this.freeze ⟨rfl,rfl,rfl⟩
theorem d28f {h:Hal} {s:Stg} (g:Sit h s) {p:Pl3} {l:List Int} (hl:l.length<=4) (hi:∀ n∈l,SK h n) :
  PCall Tryz.prog 28 [h.av,s.av,P3 p.1 p.2.1 p.2.2,.isl 1 (nl l)] ⟨.isl 3 (imC (im1 h s) p l l.length),[]⟩:=by
 have:=d28 g (p:=p) hl hi
 rw [show l.length+1=(imC (im1 h s) p l l.length).length by rw [Zdg]] at this
 exact this.freeze ⟨rfl,rfl,rfl⟩
theorem Zmz {h:Hal} {l:List Int} (e:suE h l=0):l.length<=4/\∀ n∈l,0<=n/\n<nsur h:=by
 unfold suE at e
 split at e
 ·cases e
 ·exact ⟨by omega,fun n hn=>by have:=Yb2 e n hn; omega⟩
theorem Zgt {h:Hal} {x y z:Int} (e:plaE h x y z=0):Near 5000 (x,y,z)/\Za3 h ⟨x,y,z,1⟩=true:=by
 unfold plaE at e
 split at e
 ·rename_i c
  simp only [plcB,Qc,within_iff] at c
  refine ⟨⟨by dsimp only; omega,by dsimp only; omega,by dsimp only; omega⟩,?_⟩
  unfold unl at e
  cases hb:Za3 h ⟨x,y,z,1⟩ with
  | true=>rfl
  | false=>rw [hb] at e; cases e
 ·cases e
end Go.Proofs.YtdaliaafmcjikaaGreat
