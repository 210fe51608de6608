/- A part of the proof: lemmas. -/
import Derived.Test.YtdaliaafmcjikaaGreatV11
import Derived.Test.YtdaliaafmcjikaaGreatV7
import Derived.Test.YtdaliaafmcjikaaGreatV10
import Derived.Test.YtdaliaafmcjikaaGreatV9
set_option linter.unusedVariables false
set_option linter.unusedSimpArgs false
namespace Go.Proofs.YtdaliaafmcjikaaGreat
open Go Go.Sx
structure Crs where
 su : Int
 fx : Int
 fy : Int
 fz : Int
 to : Pt
abbrev Crs.av (c : Crs) : AV := .agg [I c.su,I c.fx,I c.fy,I c.fz,I c.to.x,I c.to.y,I c.to.z,I c.to.d]
def crF (pl : Int × Int) (c : Crs) : Int := valN pl.1 c.fx c.fy c.fz - pl.2
def crG (pl : Int × Int) (c : Crs) : Int := valN pl.1 c.to.x c.to.y c.to.z - pl.2 * c.to.d
def crPt (c : Crs) (u v : Int) : Pt := ⟨c.fx * u + c.to.x * v,c.fy * u + c.to.y * v,c.fz * u + c.to.z * v,u + c.to.d * v⟩
def redP (p : Pt) : Pt := ⟨p.x / (g4 p : Int),p.y / (g4 p : Int),p.z / (g4 p : Int),p.d / (g4 p : Int)⟩
def iabs (n : Int) : Int := if n < 0 then -n else n
def Xy (pl : Int × Int) (c : Crs) : Pt := redP (crPt c (iabs (crG pl c)) (iabs (crF pl c)))
def ptZ : Pt := ⟨0,0,0,0⟩
def Zal (well : Pt -> Bool) (pl : Int × Int) (c : Crs) : Pt × Int :=
 if 0 <= sgn (crF pl c) * sgn (crG pl c) then (ptZ,12)
 else if well (Xy pl c) then (if 100000 < (Xy pl c).d then (ptZ,8) else (Xy pl c,0))
 else (ptZ,12)
structure CrOk (pl : Int × Int) (c : Crs) : Prop where
 k0 : 0 <= pl.1
 k4 : pl.1 <= 4
 at' : -10000 <= pl.2 /\ pl.2 <= 10000
 fx : -45000 <= c.fx /\ c.fx <= 45000
 fy : -45000 <= c.fy /\ c.fy <= 45000
 fz : -45000 <= c.fz /\ c.fz <= 45000
 d0 : 0 < c.to.d
 d1 : c.to.d <= 100000
 x : -(5000 * c.to.d) <= c.to.x /\ c.to.x <= 5000 * c.to.d
 y : -(5000 * c.to.d) <= c.to.y /\ c.to.y <= 5000 * c.to.d
 z : -(5000 * c.to.d) <= c.to.z /\ c.to.z <= 5000 * c.to.d
theorem Ycy {pl : Int × Int} {c : Crs} (h : CrOk pl c) : IntKind.i64.wrap (offN pl.1 c.fx c.fy c.fz - pl.2) = crF pl c /\ IntKind.i64.wrap (offN pl.1 c.fx c.fy c.fz - IntKind.i64.wrap (pl.2 * 1)) = crF pl c /\ -100000 <= crF pl c /\ crF pl c <= 100000 := by
 obtain ⟨h1,h2,h3,h4,h5,h6,_⟩ := h
 unfold crF valN offN
 rw [Int.mul_one,W_eq (n := pl.2) (by omega) (by omega)]
 repeat' split
 all_goals (try rw [W_eq (n := c.fx + c.fy) (by omega) (by omega)])
 all_goals (try rw [W_eq (n := c.fx - c.fy) (by omega) (by omega)])
 all_goals (refine ⟨W_eq (by omega) (by omega),W_eq (by omega) (by omega),by omega,by omega⟩)
theorem Ycx {pl : Int × Int} {c : Crs} (h : CrOk pl c) : IntKind.i64.wrap (offN pl.1 c.to.x c.to.y c.to.z - IntKind.i64.wrap (pl.2 * c.to.d)) = crG pl c /\ -2000000000 <= crG pl c /\ crG pl c <= 2000000000 := by
 obtain ⟨h1,h2,h3,h4,h5,h6,h7,h8,h9,h10,h11⟩ := h
 have m := Zu (a := pl.2) (b := c.to.d) (A := 10000) (B := 100000) (by omega) (by omega)
 unfold crG valN offN
 rw [W_eq (n := pl.2 * c.to.d) (by omega) (by omega)]
 generalize pl.2 * c.to.d = m at *
 repeat' split
 all_goals (try rw [W_eq (n := c.to.x + c.to.y) (by omega) (by omega)])
 all_goals (try rw [W_eq (n := c.to.x - c.to.y) (by omega) (by omega)])
 all_goals (refine ⟨W_eq (by omega) (by omega),by omega,by omega⟩)
theorem Zx8 {pl : Int × Int} {c : Crs} (h : CrOk pl c) {u v : Int} (hu : 0 <= u /\ u <= 2000000000) (hv : 0 <= v /\ v <= 100000) :
  (-90000000000000 <= c.fx * u /\ c.fx * u <= 90000000000000) /\ (-90000000000000 <= c.fy * u /\ c.fy * u <= 90000000000000) /\ (-90000000000000 <= c.fz * u /\ c.fz * u <= 90000000000000) /\
  (-50000000000000 <= c.to.x * v /\ c.to.x * v <= 50000000000000) /\ (-50000000000000 <= c.to.y * v /\ c.to.y * v <= 50000000000000) /\ (-50000000000000 <= c.to.z * v /\ c.to.z * v <= 50000000000000) /\ (0 <= c.to.d * v /\ c.to.d * v <= 10000000000) := by
 obtain ⟨h1,h2,h3,h4,h5,h6,h7,h8,h9,h10,h11⟩ := h
 have m1 := Zu (a := c.fx) (b := u) (A := 45000) (B := 2000000000) (by omega) (by omega)
 have m2 := Zu (a := c.fy) (b := u) (A := 45000) (B := 2000000000) (by omega) (by omega)
 have m3 := Zu (a := c.fz) (b := u) (A := 45000) (B := 2000000000) (by omega) (by omega)
 have m4 := Zu (a := c.to.x) (b := v) (A := 500000000) (B := 100000) (by omega) (by omega)
 have m5 := Zu (a := c.to.y) (b := v) (A := 500000000) (B := 100000) (by omega) (by omega)
 have m6 := Zu (a := c.to.z) (b := v) (A := 500000000) (B := 100000) (by omega) (by omega)
 have m7 := Zu (a := c.to.d) (b := v) (A := 100000) (B := 100000) (by omega) (by omega)
 have m8 := Int.mul_nonneg (Int.le_of_lt h7) hv.1
 refine ⟨by omega,by omega,by omega,by omega,by omega,by omega,by omega,by omega⟩
structure Big (p : Pt) : Prop where
 x : -140000000000000 <= p.x /\ p.x <= 140000000000000
 y : -140000000000000 <= p.y /\ p.y <= 140000000000000
 z : -140000000000000 <= p.z /\ p.z <= 140000000000000
 d : 0 < p.d /\ p.d <= 12000000000
theorem Big.wf {p : Pt} (h : Big p) : p.wf := by
 obtain ⟨h1,h2,h3,h4⟩ := h
 exact ⟨⟨by omega,by omega⟩,⟨by omega,by omega⟩,⟨by omega,by omega⟩,⟨by omega,by omega⟩⟩
theorem Yax {pl : Int × Int} {c : Crs} (h : CrOk pl c) {u v : Int} (hu : 0 < u /\ u <= 2000000000) (hv : 0 < v /\ v <= 100000) : Big (crPt c u v) := by
 have hb := Zx8 h (u := u) (v := v) (by omega) (by omega)
 unfold crPt
 refine ⟨?_,?_,?_,?_⟩ <;> dsimp only <;> omega
theorem Ygw (p : Pt) : ((g4 p : Int) ∣ p.x /\ (g4 p : Int) ∣ p.y) /\ ((g4 p : Int) ∣ p.z /\ (g4 p : Int) ∣ p.d) := by
 unfold g4
 have a := Nat.gcd_dvd_left (Nat.gcd p.x.natAbs p.y.natAbs) (Nat.gcd p.z.natAbs p.d.natAbs)
 have b := Nat.gcd_dvd_right (Nat.gcd p.x.natAbs p.y.natAbs) (Nat.gcd p.z.natAbs p.d.natAbs)
 exact ⟨⟨Int.ofNat_dvd_left.2 (Nat.dvd_trans a (Nat.gcd_dvd_left _ _)),Int.ofNat_dvd_left.2 (Nat.dvd_trans a (Nat.gcd_dvd_right _ _))⟩,⟨Int.ofNat_dvd_left.2 (Nat.dvd_trans b (Nat.gcd_dvd_left _ _)),Int.ofNat_dvd_left.2 (Nat.dvd_trans b (Nat.gcd_dvd_right _ _))⟩⟩
theorem Zcd {a g : Int} (hg : 0 < g) (h : g ∣ a) : a.tdiv g = a / g /\ a / g * g = a /\ (∀ B,-B <= a /\ a <= B -> -B <= a / g /\ a / g <= B) := by
 obtain ⟨k,rfl⟩ := h
 rw [Int.mul_tdiv_cancel_left _ (by omega),Int.mul_ediv_cancel_left _ (by omega)]
 refine ⟨rfl,Int.mul_comm _ _,fun B hB => ?_⟩
 rcases Int.lt_or_le k 0 with hk | hk
 ·have := Int.mul_le_mul_of_nonneg_right (show 1 <= g by omega) (show 0 <= -k by omega)
  have e : g * -k = -(g * k) := Int.mul_neg _ _
  omega
 ·have := Int.mul_le_mul_of_nonneg_right (show 1 <= g by omega) hk
  omega
theorem Zbh {p : Pt} (h : Big p) : (0 < (g4 p : Int) /\ (g4 p : Int) <= 12000000000) /\ (IntKind.i64.wrap (p.x.tdiv (g4 p)) = (redP p).x /\ IntKind.i64.wrap (p.y.tdiv (g4 p)) = (redP p).y /\ IntKind.i64.wrap (p.z.tdiv (g4 p)) = (redP p).z /\ IntKind.i64.wrap (p.d.tdiv (g4 p)) = (redP p).d) /\ Big (redP p) /\ ((redP p).x * g4 p = p.x /\ (redP p).y * g4 p = p.y /\ (redP p).z * g4 p = p.z /\ (redP p).d * g4 p = p.d) := by
 obtain ⟨g1,g2⟩ := Ygv h.wf h.d.1
 obtain ⟨⟨d1,d2⟩,d3,d4⟩ := Ygw p
 have hg : (0 : Int) < g4 p := by omega
 obtain ⟨x1,x2,x3⟩ := Zcd hg d1
 obtain ⟨y1,y2,y3⟩ := Zcd hg d2
 obtain ⟨z1,z2,z3⟩ := Zcd hg d3
 obtain ⟨e1,e2,e3⟩ := Zcd hg d4
 obtain ⟨h1,h2,h3,h4⟩ := h
 have x3 := x3 140000000000000 h1
 have y3 := y3 140000000000000 h2
 have z3 := z3 140000000000000 h3
 have e3 := e3 12000000000 (by omega)
 have hd : 0 < p.d / (g4 p : Int) := by
  rcases Int.lt_or_le 0 (p.d / (g4 p : Int)) with k | k
  ·exact k
  ·have := Int.mul_nonneg (show 0 <= -(p.d / (g4 p : Int)) by omega) (Int.le_of_lt hg)
   rw [Int.neg_mul] at this
   omega
 refine ⟨by omega,⟨?_,?_,?_,?_⟩,⟨x3,y3,z3,hd,e3.2⟩,x2,y2,z2,e2⟩
 ·rw [x1]; exact W_eq (by omega) (by omega)
 ·rw [y1]; exact W_eq (by omega) (by omega)
 ·rw [z1]; exact W_eq (by omega) (by omega)
 ·rw [e1]; exact W_eq (by omega) (by omega)
theorem Big.ok {p : Pt} (h : Big p) : PtOk p.x p.y p.d := by
 obtain ⟨h1,h2,h3,h4⟩ := h
 exact ⟨h4.1,by omega,by omega,by omega⟩
theorem Zre {pl : Int × Int} {c : Crs} (h : CrOk pl c) (hs : ¬ 0 <= sgn (crF pl c) * sgn (crG pl c)) : (0 < iabs (crG pl c) /\ iabs (crG pl c) <= 2000000000) /\ (0 < iabs (crF pl c) /\ iabs (crF pl c) <= 100000) := by
 have h1 := (Ycy h).2.2
 have h2 := (Ycx h).2
 have h3 := sgn_mul_neg.1 (show sgn (crF pl c) * sgn (crG pl c) < 0 by omega)
 unfold iabs
 refine ⟨?_,?_⟩ <;> split <;> omega
theorem Za8 {pl : Int × Int} {c : Crs} (h : CrOk pl c) (hs : ¬ 0 <= sgn (crF pl c) * sgn (crG pl c)) : Big (crPt c (iabs (crG pl c)) (iabs (crF pl c))) := by
 obtain ⟨a,b⟩ := Zre h hs
 exact Yax h a b
theorem Zrm (k a b c a' b' c' u v : Int) : valN k (a * u + a' * v) (b * u + b' * v) (c * u + c' * v) = valN k a b c * u + valN k a' b' c' * v := by
 unfold valN
 repeat' split
 all_goals grind
theorem Zrl (k a b c g : Int) : valN k (a * g) (b * g) (c * g) = valN k a b c * g := by
 unfold valN
 repeat' split
 all_goals grind
theorem Zft {pl : Int × Int} {c : Crs} (h : CrOk pl c) (hs : ¬ 0 <= sgn (crF pl c) * sgn (crG pl c)) : valN pl.1 (Xy pl c).x (Xy pl c).y (Xy pl c).z = pl.2 * (Xy pl c).d := by
 obtain ⟨⟨g1,_⟩,_,_,e1,e2,e3,e4⟩ := Zbh (Za8 h hs)
 have h3 := sgn_mul_neg.1 (show sgn (crF pl c) * sgn (crG pl c) < 0 by omega)
 have k : valN pl.1 (crPt c (iabs (crG pl c)) (iabs (crF pl c))).x (crPt c (iabs (crG pl c)) (iabs (crF pl c))).y (crPt c (iabs (crG pl c)) (iabs (crF pl c))).z = pl.2 * (crPt c (iabs (crG pl c)) (iabs (crF pl c))).d := by
  unfold crPt
  dsimp only
  rw [Zrm]
  have hF : valN pl.1 c.fx c.fy c.fz = crF pl c + pl.2 := by unfold crF; omega
  have hG : valN pl.1 c.to.x c.to.y c.to.z = crG pl c + pl.2 * c.to.d := by unfold crG; omega
  rw [hF,hG]
  have : crF pl c * iabs (crG pl c) + crG pl c * iabs (crF pl c) = 0 := by
   unfold iabs
   rcases h3 with ⟨p1,p2⟩ | ⟨p1,p2⟩
   ·rw [if_neg (by omega),if_pos p1]; grind
   ·rw [if_pos p2,if_neg (by omega)]; grind
  grind
 unfold Xy
 rw [<-e1,<-e2,<-e3,<-e4,Zrl] at k
 generalize redP (crPt c (iabs (crG pl c)) (iabs (crF pl c))) = q at *
 have k2 : (valN pl.1 q.x q.y q.z - pl.2 * q.d) * (g4 (crPt c (iabs (crG pl c)) (iabs (crF pl c))) : Int) = 0 := by
  rw [Int.sub_mul,k]; grind
 rcases Int.mul_eq_zero.1 k2 with k3 | k3 <;> omega
theorem Zhm {h : Hal} (g : h.fine) {j : Nat} (hj : j < h.ks.length) : CanOk h.ks[j] /\ Zcq h.ht none h.ks[j].hs = 0 := by
 have := g.can j hj
 unfold Zhn at this
 split at this
 ·split at this
  ·cases this
  ·split at this
   ·cases this
   ·split at this
    ·cases this
    ·split at this
     ·cases this
     ·split at this
      ·split at this
       ·rename_i hz
        split at this
        ·rename_i hp
         split at this
         ·cases this
         ·rename_i hd
          simp only [Bool.and_eq_true] at hp
          simp only [Bool.or_eq_true,decide_eq_true_eq,not_or] at hd
          exact ⟨⟨within_iff.1 hp.1.1.1,within_iff.1 hp.1.1.2,within_iff.1 hp.1.2,within_iff.1 hp.2,hd.1,hd.2⟩,hz⟩
        ·cases this
       ·rename_i hx; exact absurd this hx
      ·cases this
 ·cases this
theorem ite9 {b : Bool} {x : Int} (h : (if b = true then 9 else x) = 0) : x = 0 := by
 cases b
 ·exact h
 ·rw [if_pos rfl] at h; exact absurd h (by decide)
theorem Ygs {ht : Int} (h0 : 2 <= ht /\ ht <= 5000) : ∀ (l : List Int) (p : Option Int),Zcq ht p l = 0 -> ∀ n ∈ l,1 <= n /\ n < ht
 | [],_,_,n,hn => by simp at hn
 | m :: l,p,h,n,hn => by
  rw [Zhf] at h
  split at h
  ·rename_i hw
   rw [W_eq (by omega) (by omega),within_iff] at hw
   have h2 := ite9 h
   rcases List.mem_cons.1 hn with rfl | hn
   ·omega
   ·exact Ygs h0 l _ h2 n hn
  ·cases h
theorem Zsk {h : Hal} {s : Stg} (g : Sit h s) {j : Nat} (hj : j < h.ks.length) : 1 <= Zcr h s j /\ Zcr h s j < h.ht := by
 obtain ⟨n,e1,e2,e3,e4⟩ := Zoj g.set hj
 have hm : Zcr h s j ∈ h.ks[j].hs := by
  have := List.mem_of_getElem? e4
  simp only [nl,List.mem_map,List.cons.injEq,AV.int.injEq,true_and,and_true] at this
  obtain ⟨m,hm,rfl⟩ := this
  exact hm
 exact Ygs g.fine.ht _ _ (Zhm g.fine hj).2 _ hm
theorem Zp5 {c : Can} (h : CanOk c) : RcOk c.rc := by
 obtain ⟨h1,h2,h3,h4,h5,h6⟩ := h
 obtain ⟨⟨e1,e2⟩,e3,e4⟩ := Zg7 c
 refine ⟨?_,?_,?_,?_,?_,?_⟩ <;> omega
theorem Zcl {h : Hal} {s : Stg} (g : Sit h s) {i : Int} (hi : SK h i) : (0 <= (Ze h s i).1 /\ (Ze h s i).1 <= 4) /\ (-10000 <= (Ze h s i).2 /\ (Ze h s i).2 <= 10000) := by
 have ht := g.fine.ht
 cases hi with
 | wall k hk =>
  have hk2 : k < h.cs.length := by have := g.fine.le; omega
  obtain ⟨n,sx,sy,hs⟩ := g.fine.st k hk2
  rw [Zaz hk,Zmh hs]
  have := hs.b1
  have := hs.b2
  repeat' split
  all_goals (dsimp only; omega)
 | floor => rw [Zbj]; dsimp only; omega
 | ceil => rw [Zcm]; dsimp only; omega
 | can j hj =>
  rw [Zee]
  have := Zsk g hj
  dsimp only; omega
theorem Yc9 {h : Hal} {s : Stg} (g : Sit h s) {i : Int} (hi : SK h i) {p : Pt} (hp : PtOk p.x p.y p.d) (hpl : valN (Ze h s i).1 p.x p.y p.z = (Ze h s i).2 * p.d) : Zbb h i p = Zh6 h i p := by
 cases hi with
 | wall k hk =>
  have hk2 : k < h.cs.length := by have := g.fine.le; omega
  obtain ⟨n,sx,sy,hs⟩ := g.fine.st k hk2
  rw [Zaz hk] at hpl
  rw [Zgx hk,Ztb hk,Zfn]
  exact Zu4 hs hp g.fine.ht hpl
 | floor =>
  rw [Zfc,Zpq]
  exact Uv g.fine.st p.z hp
 | ceil =>
  rw [Zgy,Ztc]
  exact Uv g.fine.st p.z hp
 | can j hj =>
  rw [Zio hj,Zu0 hj]
  have hr := Zp5 (Zhm g.fine hj).1
  have hd : 0 < p.d /\ p.d <= 1000000000000000 := by have := hp.hd; have := hp.hD; omega
  have c0 := (Zhm g.fine hj).1
  generalize h.ks[j] = c at *
  obtain ⟨⟨e1,e2⟩,e3,e4⟩ := Zg7 c
  have c1 := Zh c0.b1 hd.1
  have c2 := Zh c0.b2 hd.1
  have c3 := Zh c0.b3 hd.1
  have c4 := Zh c0.b4 hd.1
  rw [Bool.eq_iff_iff,Zed hr hd,e1,e2,e3,e4]
  unfold Yda Zgd
  rw [Zd0,Zd0,Zd1,Zd1,Zbp hd.1,Zbq hd.1,Zbp hd.1,Zbq hd.1]
  rw [W_eq (n := c.fx * p.d) (by omega) (by omega),W_eq (n := c.tx * p.d) (by omega) (by omega),W_eq (n := c.fy * p.d) (by omega) (by omega),W_eq (n := c.ty * p.d) (by omega) (by omega)]
  rw [W_eq (n := min (c.fx * p.d) (c.tx * p.d)) (by omega) (by omega),W_eq (n := max (c.fx * p.d) (c.tx * p.d)) (by omega) (by omega),W_eq (n := min (c.fy * p.d) (c.ty * p.d)) (by omega) (by omega),W_eq (n := max (c.fy * p.d) (c.ty * p.d)) (by omega) (by omega)]
  simp only [Bool.and_eq_true,Bool.not_eq_true',decide_eq_false_iff_not,within_iff]
  omega
theorem Yg8 {p : Pt} (hb : Big p) {X Y Z D : Int} (hX : X = p.x) (hY : Y = p.y) (hZ : Z = p.z) (hD : D = p.d) :
  gcds [I X,I Y] = some ⟨I (IntKind.i64.wrap ((Nat.gcd p.x.natAbs p.y.natAbs : Nat) : Int)),[]⟩ /\ gcds [I Z,I D] = some ⟨I (IntKind.i64.wrap ((Nat.gcd p.z.natAbs p.d.natAbs : Nat) : Int)),[]⟩ /\ gcds [I (IntKind.i64.wrap ((Nat.gcd p.x.natAbs p.y.natAbs : Nat) : Int)),I (IntKind.i64.wrap ((Nat.gcd p.z.natAbs p.d.natAbs : Nat) : Int))] = some ⟨I (g4 p : Int),[]⟩ /\
  IntKind.i64.wrap (X.tdiv (g4 p)) = (redP p).x /\ IntKind.i64.wrap (Y.tdiv (g4 p)) = (redP p).y /\ IntKind.i64.wrap (Z.tdiv (g4 p)) = (redP p).z /\ IntKind.i64.wrap (D.tdiv (g4 p)) = (redP p).d /\ (0 < (g4 p : Int) /\ (g4 p : Int) <= 12000000000) := by
 subst hX hY hZ hD
 have hw := hb.wf
 have h3' := Zmt (Zue ((Nat.gcd p.x.natAbs p.y.natAbs : Nat) : Int)) (Zue ((Nat.gcd p.z.natAbs p.d.natAbs : Nat) : Int))
 rw [Zr5 (Ycm hw.x hw.y),Zr5 (Ycm hw.z hw.d)] at h3'
 change gcds _ = some ⟨I (IntKind.i64.wrap ((g4 p : Nat) : Int)),[]⟩ at h3'
 obtain ⟨g1,⟨r1,r2,r3,r4⟩,_,_⟩ := Zbh hb
 rw [W_eq (n := ((g4 p : Nat) : Int)) (by omega) (by omega)] at h3'
 exact ⟨Zmt hw.x hw.y,Zmt hw.z hw.d,h3',r1,r2,r3,r4,g1⟩
theorem Ycn {p : Pt} (h : Big p) : g4 (redP p) = 1 := by
 obtain ⟨⟨g1,_⟩,_,_,e1,e2,e3,e4⟩ := Zbh h
 have key : g4 p = g4 (redP p) * g4 p := by
  have hx : p.x.natAbs = (redP p).x.natAbs * g4 p := by rw [<-e1,Int.natAbs_mul,Int.natAbs_natCast]
  have hy : p.y.natAbs = (redP p).y.natAbs * g4 p := by rw [<-e2,Int.natAbs_mul,Int.natAbs_natCast]
  have hz : p.z.natAbs = (redP p).z.natAbs * g4 p := by rw [<-e3,Int.natAbs_mul,Int.natAbs_natCast]
  have hd : p.d.natAbs = (redP p).d.natAbs * g4 p := by rw [<-e4,Int.natAbs_mul,Int.natAbs_natCast]
  have : g4 p = Nat.gcd (Nat.gcd ((redP p).x.natAbs * g4 p) ((redP p).y.natAbs * g4 p)) (Nat.gcd ((redP p).z.natAbs * g4 p) ((redP p).d.natAbs * g4 p)) := by rw [<-hx,<-hy,<-hz,<-hd]; rfl
  rw [Nat.gcd_mul_right,Nat.gcd_mul_right,Nat.gcd_mul_right] at this
  exact this
 have h0 : 0 < g4 p := by omega
 have : g4 (redP p) * g4 p = 1 * g4 p := by omega
 exact Nat.eq_of_mul_eq_mul_right h0 this
def crsE (h : Hal) (s : Stg) (c : Crs) : Int := if surE h s c.su = 0 then (if Vt c.fx c.fy c.fz = 0 then Yv c.to else Vt c.fx c.fy c.fz) else surE h s c.su
theorem Zx9 {h : Hal} {s : Stg} {c : Crs} (hk : h.ok) (hs : s.few) (h0 : crsE h s c = 0) : Sit h s /\ SK h c.su /\ CrOk (Ze h s c.su) c /\ surE h s c.su = 0 /\ Vt c.fx c.fy c.fz = 0 /\ Yv c.to = 0 := by
 unfold crsE at h0
 split at h0
 ·rename_i h1
  split at h0
  ·rename_i h2
   have e := Znd h1
   have g := Zk2 hk hs e.1
   have hi := Zmb e.2.1 e.2.2
   obtain ⟨⟨b1,b2⟩,b3⟩ := Zcl g hi
   obtain ⟨p1,p2,_,p4⟩ := Zby h0
   unfold ptIn at p4
   simp only [Bool.and_eq_true,within_iff] at p4
   have h3 := h2
   unfold Vt img at h3
   split at h3
   ·rename_i h4
    simp only [Bool.and_eq_true,within_iff] at h4
    exact ⟨g,hi,⟨b1,b2,b3,by omega,by omega,by omega,p1,p2,p4.1.1,p4.1.2,p4.2⟩,h1,h2,h0⟩
   ·cases h3
  ·rename_i h2; exact absurd h0 h2
 ·rename_i h1; exact absurd h0 h1
abbrev crAV (r : Pt × Int) : AV := .tup [r.1.av,I r.2]
theorem Zhi {well : Pt -> Bool} {pl : Int × Int} {c : Crs} (hs : 0 <= sgn (crF pl c) * sgn (crG pl c)) : Zal well pl c = (ptZ,12) := by unfold Zal; rw [if_pos hs]
theorem Yaz {well : Pt -> Bool} {pl : Int × Int} {c : Crs} (hw : well (Xy pl c) = false) : Zal well pl c = (ptZ,12) := by unfold Zal; rw [hw]; split <;> rfl
theorem Zya {well : Pt -> Bool} {pl : Int × Int} {c : Crs} (hs : ¬ 0 <= sgn (crF pl c) * sgn (crG pl c)) (hw : well (Xy pl c) = true) (hd : 100000 < (Xy pl c).d) : Zal well pl c = (ptZ,8) := by unfold Zal; rw [if_neg hs,hw,if_pos rfl,if_pos hd]
theorem Yay {well : Pt -> Bool} {pl : Int × Int} {c : Crs} (hs : ¬ 0 <= sgn (crF pl c) * sgn (crG pl c)) (hw : well (Xy pl c) = true) (hd : ¬ 100000 < (Xy pl c).d) : Zal well pl c = (Xy pl c,0) := by unfold Zal; rw [if_neg hs,hw,if_pos rfl,if_neg hd]
abbrev sxC : FuncId -> Bool := fun f => Nat.beq f 159 || Nat.beq f 160 || Nat.beq f 163
def r113 : List AV -> Option PRes
 | [.int .i64 k,.agg [.int .i64 x,.int .i64 y,.int .i64 z,.int .i64 d]] => some ⟨I (offN k x y z),[]⟩
 | _ => none
def crsA (h : Hal) (s : Stg) (c : Crs) : Pt × Int := if crsE h s c = 0 then Zal (Zbb h c.su) (Ze h s c.su) c else (ptZ,crsE h s c)
theorem Yci (x y z : Int) : Vt x y z = if Xs x y z then 0 else 2 := by rw [Zhe]; rfl
set_option maxRecDepth 100000 in
set_option maxHeartbeats 16000000 in
theorem c40e {h : Hal} (hk : h.ok) {s : Stg} (hs : s.few) {c : Crs} (hw : c.to.wf) (he : crsE h s c ≠ 0) : PCall Tryz.prog 124 [h.av,s.av,c.av] ⟨crAV (ptZ,crsE h s c),[]⟩ := by
 have hk0 := Zf (c109 hk hs c.su) (Zf (c99 hw) Uu)
 by_cases h1 : surE h s c.su = 0
 ·have e1 : crsE h s c = if Xs c.fx c.fy c.fz then Yv c.to else 2 := by
   unfold crsE; rw [if_pos h1,Yci]
   split
   ·rw [if_pos rfl]
   ·rw [if_neg (by decide)]
  rw [e1] at he ⊢
  rw [h1] at hk0
  cases h2 : Xs c.fx c.fy c.fz with
  | false =>
   have hu : unl (Xs c.fx c.fy c.fz) 2 = 2 := by rw [h2]; rfl
   rw [if_neg (by decide)]
   refine bs.pv (sx := sxC) hk0 Tryz.func124 (by kernel_rfl) (by kernel_rfl) rfl ?_
   repeat' (first | refine wk1 ?_ | (refine wk2 ?_ ?_ <;> intro _) | refine wk4 ?_ | fail); all_goals (conv => whnf)
   refine bs.sv (sx := sxC) hk0 Tryz.func159 (by kernel_rfl) (by kernel_rfl) ?_
   refine LpM.start 3 ?_
   refine LpM.succ (bs.av (sx := sxC) hk0 ?_)
   repeat' (first | refine wk1 ?_ | (refine wk2 ?_ ?_ <;> intro _) | refine wk4 ?_ | fail); all_goals (conv => whnf)
   refine bs.sv (sx := sxC) hk0 Tryz.func160 (by kernel_rfl) (by kernel_rfl) ?_
   repeat' (first | refine wk1 ?_ | (refine wk2 ?_ ?_ <;> intro _) | refine wk4 ?_ | fail); all_goals (conv => whnf)
   exact Zg (by rw [hu]; rfl) rfl
  | true =>
   have hu : unl (Xs c.fx c.fy c.fz) 2 = 0 := by rw [h2]; rfl
   rw [h2,if_pos rfl] at he
   rw [if_pos rfl]
   generalize Yv c.to = pe at *
   refine bs.pv (sx := sxC) hk0 Tryz.func124 (by kernel_rfl) (by kernel_rfl) rfl ?_
   repeat' (first | refine wk1 ?_ | (refine wk2 ?_ ?_ <;> intro _) | refine wk4 ?_ | fail); all_goals (conv => whnf)
   refine bs.sv (sx := sxC) hk0 Tryz.func159 (by kernel_rfl) (by kernel_rfl) ?_
   refine LpM.start 3 ?_
   refine LpM.succ (bs.av (sx := sxC) hk0 ?_)
   repeat' (first | refine wk1 ?_ | (refine wk2 ?_ ?_ <;> intro _) | refine wk4 ?_ | fail); all_goals (conv => whnf)
   refine bs.sv (sx := sxC) hk0 Tryz.func160 (by kernel_rfl) (by kernel_rfl) ?_
   repeat' (first | refine wk1 ?_ | (refine wk2 ?_ ?_ <;> intro _) | refine wk4 ?_ | fail); all_goals (conv => whnf)
   refine LpM.succ (bs.av (sx := sxC) hk0 ?_)
   repeat' (first | refine wk1 ?_ | (refine wk2 ?_ ?_ <;> intro _) | refine wk4 ?_ | fail); all_goals (conv => whnf)
   refine bs.sv (sx := sxC) hk0 Tryz.func163 (by kernel_rfl) (by kernel_rfl) ?_
   repeat' (first | refine wk1 ?_ | (refine wk2 ?_ ?_ <;> intro _) | refine wk4 ?_ | fail); all_goals (conv => whnf)
   exact Zg rfl rfl
 ·have e1 : crsE h s c = surE h s c.su := by unfold crsE; rw [if_neg h1]
  rw [e1]
  refine bs.pv (sx := sxC) hk0 Tryz.func124 (by kernel_rfl) (by kernel_rfl) rfl ?_
  repeat' (first | refine wk1 ?_ | (refine wk2 ?_ ?_ <;> intro _) | refine wk4 ?_ | fail); all_goals (conv => whnf)
  exact Zg rfl rfl
theorem Zrs {n : Int} (h : -9000000000000000000 <= n /\ n <= 9000000000000000000) : size n = iabs n := by rw [Zcf h]; rfl
set_option maxRecDepth 100000 in
set_option maxHeartbeats 16000000 in
theorem c40o {h : Hal} (hk : h.ok) {s : Stg} (hs : s.few) {c : Crs} (hw : c.to.wf) (he : crsE h s c = 0) : PCall Tryz.prog 124 [h.av,s.av,c.av] ⟨crAV (Zal (Zbb h c.su) (Ze h s c.su) c),[]⟩ := by
 obtain ⟨g,hi,ho,h1,h2,h3⟩ := Zx9 hk hs he
 have h2' : Xs c.fx c.fy c.fz = true := by
  rw [Yci] at h2
  cases hx : Xs c.fx c.fy c.fz
  ·rw [hx] at h2; exact absurd h2 (by decide)
  ·rfl
 have hu : unl (Xs c.fx c.fy c.fz) 2 = 0 := by rw [h2']; rfl
 obtain ⟨f1,f2,f3⟩ := Ycy ho
 obtain ⟨g1,g2⟩ := Ycx ho
 have hk0 := Zf (c109 hk hs c.su) (Zf (c99 hw) Uu)
 rw [h1,h3] at hk0
 have hk0 := Zf (c112 g hi) (Zj (f0 := 166) (r := r113) (fun a res h => by unfold r113 at h; split at h <;> cases h; exact c113 _ ⟨_,_,_,_⟩) hk0)
 generalize hpl : Ze h s c.su = pl at *
 by_cases hsg : 0 <= sgn (crF pl c) * sgn (crG pl c)
 ·rw [Zhi hsg]
  have hs2 : 0 <= IntKind.i64.wrap (sgn (IntKind.i64.wrap (offN pl.1 c.fx c.fy c.fz - pl.2)) * sgn (IntKind.i64.wrap (offN pl.1 c.to.x c.to.y c.to.z - IntKind.i64.wrap (pl.2 * c.to.d)))) := by rw [f1,g1,Zhq]; exact hsg
  refine bs.pv (sx := sxC) hk0 Tryz.func124 (by kernel_rfl) (by kernel_rfl) rfl ?_
  repeat' (first | refine wk1 ?_ | (refine wk2 ?_ ?_ <;> intro _) | refine wk4 ?_ | fail); all_goals (conv => whnf)
  refine bs.sv (sx := sxC) hk0 Tryz.func159 (by kernel_rfl) (by kernel_rfl) ?_
  refine LpM.start 3 ?_
  refine LpM.succ (bs.av (sx := sxC) hk0 ?_)
  repeat' (first | refine wk1 ?_ | (refine wk2 ?_ ?_ <;> intro _) | refine wk4 ?_ | fail); all_goals (conv => whnf)
  refine bs.sv (sx := sxC) hk0 Tryz.func160 (by kernel_rfl) (by kernel_rfl) ?_
  repeat' (first | refine wk1 ?_ | (refine wk2 ?_ ?_ <;> intro _) | refine wk4 ?_ | fail); all_goals (conv => whnf)
  refine LpM.succ (bs.av (sx := sxC) hk0 ?_)
  repeat' (first | refine wk1 ?_ | (refine wk2 ?_ ?_ <;> intro _) | refine wk4 ?_ | fail); all_goals (conv => whnf)
  refine bs.sv (sx := sxC) hk0 Tryz.func163 (by kernel_rfl) (by kernel_rfl) ?_
  repeat' (first | refine wk1 ?_ | (refine wk2 ?_ ?_ <;> intro _) | refine wk4 ?_ | fail); all_goals (conv => whnf)
  refine LpM.succ (bs.av (sx := sxC) hk0 ?_)
  repeat' (first | refine wk1 ?_ | (refine wk2 ?_ ?_ <;> intro _) | refine wk4 ?_ | fail); all_goals (conv => whnf)
  exact Zg rfl rfl
 ·have hs2 : ¬ 0 <= IntKind.i64.wrap (sgn (IntKind.i64.wrap (offN pl.1 c.fx c.fy c.fz - pl.2)) * sgn (IntKind.i64.wrap (offN pl.1 c.to.x c.to.y c.to.z - IntKind.i64.wrap (pl.2 * c.to.d)))) := by rw [f1,g1,Zhq]; exact hsg
  have hB := Za8 ho hsg
  have hx := Zx8 ho (u := iabs (crG pl c)) (v := iabs (crF pl c)) (by have := Zre ho hsg; omega) (by have := Zre ho hsg; omega)
  have hcr : Xy pl c = redP (crPt c (iabs (crG pl c)) (iabs (crF pl c))) := rfl
  have hwl := c118 g hi (Xy pl c)
  have A1 := Yaz (well := Zbb h c.su) (pl := pl) (c := c)
  have A2 := Zya (well := Zbb h c.su) hsg
  have A3 := Yay (well := Zbb h c.su) hsg
  generalize Zal (Zbb h c.su) pl c = ans at *
  generalize Zbb h c.su (Xy pl c) = wl at *
  generalize Xy pl c = Q at *
  have su : size (IntKind.i64.wrap (offN pl.1 c.to.x c.to.y c.to.z - IntKind.i64.wrap (pl.2 * c.to.d))) = iabs (crG pl c) := by rw [g1]; exact Zrs (by omega)
  have sv : size (IntKind.i64.wrap (offN pl.1 c.fx c.fy c.fz - pl.2)) = iabs (crF pl c) := by rw [f1]; exact Zrs (by omega)
  generalize hp : crPt c (iabs (crG pl c)) (iabs (crF pl c)) = p at *
  generalize iabs (crF pl c) = v at *
  generalize iabs (crG pl c) = u at *
  have px : c.fx * u + c.to.x * v = p.x := by rw [<-hp]; rfl
  have py : c.fy * u + c.to.y * v = p.y := by rw [<-hp]; rfl
  have pz : c.fz * u + c.to.z * v = p.z := by rw [<-hp]; rfl
  have pd : u + c.to.d * v = p.d := by rw [<-hp]; rfl
  obtain ⟨x1,x2,x3,x4,x5,x6,x7⟩ := hx
  have hDd := hB.d
  generalize hA : IntKind.i64.wrap (offN pl.1 c.fx c.fy c.fz - pl.2) = A at *
  generalize hBb : IntKind.i64.wrap (offN pl.1 c.to.x c.to.y c.to.z - IntKind.i64.wrap (pl.2 * c.to.d)) = B at *
  have q : ∀ a b : Int,(-90000000000000 <= a * u /\ a * u <= 90000000000000) -> (-50000000000000 <= b * v /\ b * v <= 50000000000000) -> IntKind.i64.wrap (IntKind.i64.wrap (a * size B) + IntKind.i64.wrap (b * size A)) = a * u + b * v := by
   intro a b k1 k2
   rw [su,sv]
   rw [W_eq (n := a * u) (by omega) (by omega),W_eq (n := b * v) (by omega) (by omega),W_eq (by omega) (by omega)]
  have qd : IntKind.i64.wrap (size B + IntKind.i64.wrap (c.to.d * size A)) = p.d := by
   rw [su,sv]
   rw [W_eq (n := c.to.d * v) (by omega) (by omega),W_eq (by omega) (by omega)]; omega
  obtain ⟨k1,k2,k3,k4,k5,k6,k7,k8⟩ := Yg8 hB (X := IntKind.i64.wrap (IntKind.i64.wrap (c.fx * size B) + IntKind.i64.wrap (c.to.x * size A))) (Y := IntKind.i64.wrap (IntKind.i64.wrap (c.fy * size B) + IntKind.i64.wrap (c.to.y * size A))) (Z := IntKind.i64.wrap (IntKind.i64.wrap (c.fz * size B) + IntKind.i64.wrap (c.to.z * size A))) (D := IntKind.i64.wrap (size B + IntKind.i64.wrap (c.to.d * size A))) (by rw [q _ _ x1 x4,px]) (by rw [q _ _ x2 x5,py]) (by rw [q _ _ x3 x6,pz]) qd
  rw [<-hcr] at k4 k5 k6 k7
  have hdv : PCall Tryz.prog 170 [.isl 1 (nl [IntKind.i64.wrap (IntKind.i64.wrap (c.fx * size B) + IntKind.i64.wrap (c.to.x * size A)),IntKind.i64.wrap (IntKind.i64.wrap (c.fy * size B) + IntKind.i64.wrap (c.to.y * size A)),IntKind.i64.wrap (IntKind.i64.wrap (c.fz * size B) + IntKind.i64.wrap (c.to.z * size A)),IntKind.i64.wrap (size B + IntKind.i64.wrap (c.to.d * size A))])] ⟨I (g4 p : Int),[]⟩ := by
   rw [q _ _ x1 x4,q _ _ x2 x5,q _ _ x3 x6,qd,px,py,pz]
   have hwf := hB.wf
   have hc := c117 (ns := [p.x,p.y,p.z,p.d]) (by simp) (by
    intro n hn
    simp only [List.mem_cons,List.not_mem_nil,or_false] at hn
    rcases hn with rfl | rfl | rfl | rfl
    ·exact hwf.x
    ·exact hwf.y
    ·exact hwf.z
    ·exact hwf.d)
   have hg : gl 0 [p.x,p.y,p.z,p.d] = g4 p := by
    simp only [gl,Nat.gcd_zero_left]
    exact Zlj _ _ _ _
   rw [hg,W_eq (n := ((g4 p : Nat) : Int)) (by omega) (by omega)] at hc
   exact hc
  have hw2 : PCall Tryz.prog 171 [.agg (stgL h s),I c.su,P4 (IntKind.i64.wrap ((IntKind.i64.wrap (IntKind.i64.wrap (c.fx * size B) + IntKind.i64.wrap (c.to.x * size A))).tdiv (g4 p))) (IntKind.i64.wrap ((IntKind.i64.wrap (IntKind.i64.wrap (c.fy * size B) + IntKind.i64.wrap (c.to.y * size A))).tdiv (g4 p))) (IntKind.i64.wrap ((IntKind.i64.wrap (IntKind.i64.wrap (c.fz * size B) + IntKind.i64.wrap (c.to.z * size A))).tdiv (g4 p))) (IntKind.i64.wrap ((IntKind.i64.wrap (size B + IntKind.i64.wrap (c.to.d * size A))).tdiv (g4 p)))] ⟨Bo wl,[]⟩ := by
   rw [k4,k5,k6,k7]; exact hwl
  rw [<-hA,<-hBb] at hw2 hdv
  have hk2 := Zf hw2 (Zf hdv hk0)
  clear hw2 hwl hk0 hdv q
  rw [<-hA,<-hBb] at k4 k5 k6 k7 hs2
  clear k1 k2 k3
  refine bs.pv (sx := sxC) hk2 Tryz.func124 (by kernel_rfl) (by kernel_rfl) rfl ?_
  cases wl with
  | false =>
   rw [A1 rfl]
   repeat' (first | refine wk1 ?_ | (refine wk2 ?_ ?_ <;> intro _) | refine wk4 ?_ | fail); all_goals (conv => whnf)
   refine bs.sv (sx := sxC) hk2 Tryz.func159 (by kernel_rfl) (by kernel_rfl) ?_
   refine LpM.start 3 ?_
   refine LpM.succ (bs.av (sx := sxC) hk2 ?_)
   repeat' (first | refine wk1 ?_ | (refine wk2 ?_ ?_ <;> intro _) | refine wk4 ?_ | fail); all_goals (conv => whnf)
   refine bs.sv (sx := sxC) hk2 Tryz.func160 (by kernel_rfl) (by kernel_rfl) ?_
   repeat' (first | refine wk1 ?_ | (refine wk2 ?_ ?_ <;> intro _) | refine wk4 ?_ | fail); all_goals (conv => whnf)
   refine LpM.succ (bs.av (sx := sxC) hk2 ?_)
   repeat' (first | refine wk1 ?_ | (refine wk2 ?_ ?_ <;> intro _) | refine wk4 ?_ | fail); all_goals (conv => whnf)
   refine bs.sv (sx := sxC) hk2 Tryz.func163 (by kernel_rfl) (by kernel_rfl) ?_
   repeat' (first | refine wk1 ?_ | (refine wk2 ?_ ?_ <;> intro _) | refine wk4 ?_ | fail); all_goals (conv => whnf)
   refine LpM.succ (bs.av (sx := sxC) hk2 ?_)
   repeat' (first | refine wk1 ?_ | (refine wk2 ?_ ?_ <;> intro _) | refine wk4 ?_ | fail); all_goals (conv => whnf)
   exact Zg rfl rfl
  | true =>
   by_cases hd : 100000 < Q.d
   ·rw [A2 rfl hd]
    repeat' (first | refine wk1 ?_ | (refine wk2 ?_ ?_ <;> intro _) | refine wk4 ?_ | fail); all_goals (conv => whnf)
    refine bs.sv (sx := sxC) hk2 Tryz.func159 (by kernel_rfl) (by kernel_rfl) ?_
    refine LpM.start 3 ?_
    refine LpM.succ (bs.av (sx := sxC) hk2 ?_)
    repeat' (first | refine wk1 ?_ | (refine wk2 ?_ ?_ <;> intro _) | refine wk4 ?_ | fail); all_goals (conv => whnf)
    refine bs.sv (sx := sxC) hk2 Tryz.func160 (by kernel_rfl) (by kernel_rfl) ?_
    repeat' (first | refine wk1 ?_ | (refine wk2 ?_ ?_ <;> intro _) | refine wk4 ?_ | fail); all_goals (conv => whnf)
    refine LpM.succ (bs.av (sx := sxC) hk2 ?_)
    repeat' (first | refine wk1 ?_ | (refine wk2 ?_ ?_ <;> intro _) | refine wk4 ?_ | fail); all_goals (conv => whnf)
    refine bs.sv (sx := sxC) hk2 Tryz.func163 (by kernel_rfl) (by kernel_rfl) ?_
    repeat' (first | refine wk1 ?_ | (refine wk2 ?_ ?_ <;> intro _) | refine wk4 ?_ | fail); all_goals (conv => whnf)
    refine LpM.succ (bs.av (sx := sxC) hk2 ?_)
    repeat' (first | refine wk1 ?_ | (refine wk2 ?_ ?_ <;> intro _) | refine wk4 ?_ | fail); all_goals (conv => whnf)
    exact Zg rfl rfl
   ·rw [A3 rfl hd]
    repeat' (first | refine wk1 ?_ | (refine wk2 ?_ ?_ <;> intro _) | refine wk4 ?_ | fail); all_goals (conv => whnf)
    refine bs.sv (sx := sxC) hk2 Tryz.func159 (by kernel_rfl) (by kernel_rfl) ?_
    refine LpM.start 3 ?_
    refine LpM.succ (bs.av (sx := sxC) hk2 ?_)
    repeat' (first | refine wk1 ?_ | (refine wk2 ?_ ?_ <;> intro _) | refine wk4 ?_ | fail); all_goals (conv => whnf)
    refine bs.sv (sx := sxC) hk2 Tryz.func160 (by kernel_rfl) (by kernel_rfl) ?_
    repeat' (first | refine wk1 ?_ | (refine wk2 ?_ ?_ <;> intro _) | refine wk4 ?_ | fail); all_goals (conv => whnf)
    refine LpM.succ (bs.av (sx := sxC) hk2 ?_)
    repeat' (first | refine wk1 ?_ | (refine wk2 ?_ ?_ <;> intro _) | refine wk4 ?_ | fail); all_goals (conv => whnf)
    refine bs.sv (sx := sxC) hk2 Tryz.func163 (by kernel_rfl) (by kernel_rfl) ?_
    repeat' (first | refine wk1 ?_ | (refine wk2 ?_ ?_ <;> intro _) | refine wk4 ?_ | fail); all_goals (conv => whnf)
    refine LpM.succ (bs.av (sx := sxC) hk2 ?_)
    repeat' (first | refine wk1 ?_ | (refine wk2 ?_ ?_ <;> intro _) | refine wk4 ?_ | fail); all_goals (conv => whnf)
    exact Zg (by rw [k4,k5,k6,k7]) rfl
theorem c40 {h : Hal} (hk : h.ok) {s : Stg} (hs : s.few) {c : Crs} (hw : c.to.wf) : PCall Tryz.prog 124 [h.av,s.av,c.av] ⟨crAV (crsA h s c),[]⟩ := by
 unfold crsA
 by_cases he : crsE h s c = 0
 ·rw [if_pos he]; exact c40o hk hs hw he
 ·rw [if_neg he]; exact c40e hk hs hw he
theorem Ya0 {h : Hal} {s : Stg} {c : Crs} (g : Sit h s) (hi : SK h c.su) (ho : CrOk (Ze h s c.su) c) : Zal (Zbb h c.su) (Ze h s c.su) c = Zal (Zh6 h c.su) (Ze h s c.su) c := by
 by_cases hs : 0 <= sgn (crF (Ze h s c.su) c) * sgn (crG (Ze h s c.su) c)
 ·rw [Zhi hs,Zhi hs]
 ·have hb := (Zbh (Za8 ho hs)).2.2.1
  have e := Yc9 g hi (p := Xy (Ze h s c.su) c) hb.ok (Zft ho hs)
  unfold Zal
  rw [e]
def Yfb (p : Pt) : Prop := (-(5000 * p.d) <= p.x /\ p.x <= 5000 * p.d) /\ (-(5000 * p.d) <= p.y /\ p.y <= 5000 * p.d) /\ (-(5000 * p.d) <= p.z /\ p.z <= 5000 * p.d)
theorem Zu5 {h : Hal} {w : Wl} {n sx sy : Int} (hs : Str w n sx sy) {p : Pt} (hp : PtOk p.x p.y p.d) (ht : 2 <= h.ht /\ h.ht <= 5000) (hpl : valN (plW w).1 p.x p.y p.z = (plW w).2 * p.d) (hw : Zm7 h w p = true) : Yfb p := by
 obtain ⟨x,y,z,d⟩ := p
 dsimp only at hp hpl
 have hd := hp.hd
 have hD := hp.hD
 have a1 := Zh hs.b1 hd
 have a2 := Zh hs.b2 hd
 have a3 := Zh hs.b3 hd
 have a4 := Zh hs.b4 hd
 have hz0 := Zh (f := h.ht) (d := d) (by omega) hd
 have hz : IntKind.i64.wrap (h.ht * d) = h.ht * d := W_eq (by omega) (by omega)
 unfold Zm7 at hw
 rw [Zmh hs] at hpl
 unfold valN at hpl
 rw [Zd0,Zd0,Zd1,Zd1] at hw
 dsimp only at hw
 rw [hz,Zbp hd,Zbp hd,Zbq hd,Zbq hd] at hw
 rw [W_eq (n := min (w.fx * d) (w.tx * d)) (by omega) (by omega),W_eq (n := max (w.fx * d) (w.tx * d)) (by omega) (by omega),W_eq (n := min (w.fy * d) (w.ty * d)) (by omega) (by omega),W_eq (n := max (w.fy * d) (w.ty * d)) (by omega) (by omega)] at hw
 have ex : w.tx * d = w.fx * d + sx * (n * d) := by rw [hs.tx]; grind
 have ey : w.ty * d = w.fy * d + sy * (n * d) := by rw [hs.ty]; grind
 have d3 : (w.fx + w.fy) * d = w.fx * d + w.fy * d := by grind
 have d4 : (w.fx - w.fy) * d = w.fx * d - w.fy * d := by grind
 have cnd : (w.fx = w.tx) -> sx = 0 := by
  intro e
  have := hs.tx
  have hn := hs.hn
  have : n * sx = 0 := by omega
  rcases Int.mul_eq_zero.1 this with h | h
  ·omega
  ·exact h
 have nd : 0 < n * d := Int.mul_pos hs.hn hd
 unfold Yfb
 dsimp only
 simp only [Bool.and_eq_true,Bool.not_eq_true',Bool.or_eq_false_iff,decide_eq_false_iff_not] at hw
 obtain ⟨⟨z1,z2⟩,hw⟩ := hw
 have hxy := hs.hxy
 split at hw
 ·rename_i c
  have c0 := cnd c
  subst c0
  simp only [Bool.and_eq_true,decide_eq_true_eq] at hw
  simp at hpl
  omega
 ·rename_i c
  simp only [Bool.and_eq_true,decide_eq_true_eq] at hw
  have hx0 : sx ≠ 0 := fun e => c (by rw [hs.tx,e]; omega)
  rw [if_neg hx0] at hpl
  rcases hs.hy with rfl | rfl | rfl <;> rcases hs.hx with rfl | rfl | rfl
  all_goals simp at hpl hx0
  all_goals omega
theorem Zqh {h : Hal} {d z n : Int} (hd : 0 < d) (hn : 0 <= n /\ n <= 5000) (e : z = n * d) : -(5000 * d) <= z /\ z <= 5000 * d := by
 have := Zh (f := n) (d := d) (by omega) hd
 omega
theorem Zuz {h : Hal} {s : Stg} (g : Sit h s) {i : Int} (hi : SK h i) {p : Pt} (hp : PtOk p.x p.y p.d) (hpl : valN (Ze h s i).1 p.x p.y p.z = (Ze h s i).2 * p.d) (hw : Zbb h i p = true) : Yfb p := by
 have ht := g.fine.ht
 cases hi with
 | wall k hk =>
  have hk2 : k < h.cs.length := by have := g.fine.le; omega
  obtain ⟨n,sx,sy,hs⟩ := g.fine.st k hk2
  rw [Zaz hk] at hpl
  rw [Zgx hk] at hw
  exact Zu5 hs hp ht hpl hw
 | floor =>
  rw [Zfc] at hw
  rw [Zbj] at hpl
  have hb := Zlf g.fine.st hp hw
  have hpl : p.z = 0 * p.d := hpl
  exact ⟨hb.1,hb.2,Zqh (h := h) hp.hd (by omega) hpl⟩
 | ceil =>
  rw [Zgy] at hw
  rw [Zcm] at hpl
  have hb := Zlf g.fine.st hp hw
  have hpl : p.z = h.ht * p.d := hpl
  exact ⟨hb.1,hb.2,Zqh (h := h) hp.hd (by omega) hpl⟩
 | can j hj =>
  rw [Zio hj] at hw
  rw [Zee] at hpl
  have hpl : p.z = Zcr h s j * p.d := hpl
  have hg := Zsk g hj
  have hr := Zp5 (Zhm g.fine hj).1
  have hd : 0 < p.d /\ p.d <= 1000000000000000 := by have := hp.hd; have := hp.hD; omega
  have c0 := (Zhm g.fine hj).1
  generalize h.ks[j] = c at *
  obtain ⟨⟨e1,e2⟩,e3,e4⟩ := Zg7 c
  have c1 := Zh c0.b1 hd.1
  have c2 := Zh c0.b2 hd.1
  have c3 := Zh c0.b3 hd.1
  have c4 := Zh c0.b4 hd.1
  rw [Zed hr hd,e1,e2,e3,e4,Zbp hd.1,Zbq hd.1,Zbp hd.1,Zbq hd.1] at hw
  exact ⟨by omega,by omega,Zqh (h := h) hp.hd (by omega) hpl⟩
theorem Zq5 {h : Hal} {s : Stg} (g : Sit h s) {c : Crs} (hi : SK h c.su) (ho : CrOk (Ze h s c.su) c) (e : (Zal (Zbb h c.su) (Ze h s c.su) c).2 = 0) :
  Yv (Zal (Zbb h c.su) (Ze h s c.su) c).1 = 0 := by
 unfold Zal at e ⊢
 split at e
 ·cases e
 ·rename_i hs
  split at e
  ·rename_i hw
   split at e
   ·cases e
   ·rename_i hd
    rw [if_neg hs,if_pos hw,if_neg hd]
    have hbig := Za8 ho hs
    have hb := (Zbh hbig).2.2.1
    have hn := Zuz g hi (p := Xy (Ze h s c.su) c) hb.ok (Zft ho hs) hw
    have hg := Ycn hbig
    unfold Yv
    have hd0 := hb.d.1
    rw [if_neg (by
     intro q
     rcases q with q | q
     ·exact absurd hd0 (Int.not_lt.2 q)
     ·exact q hg),if_neg hd,if_pos]
    unfold ptIn
    obtain ⟨n1,n2,n3⟩ := hn
    simp only [Bool.and_eq_true,within_iff]
    exact ⟨⟨n1,n2⟩,n3⟩
  ·cases e
structure Pth where
 ss : List Int
 ps : List (Int × Int × Int × Int)
 sq : Int
abbrev hp4 (p : Int × Int × Int × Int) : List AV := [I p.1,I p.2.1,I p.2.2.1,I p.2.2.2]
abbrev Pth.av (p : Pth) : AV := .agg [.isl 1 (nl p.ss),.isl 4 (p.ps.map hp4),I p.sq]
def pthE (p : Pth) : Int := if (p.ps.length : Int) = p.ss.length then (if 4 < (p.ss.length : Int) then 8 else (if within p.sq 1 24300000000 then 0 else 2)) else 10
theorem Zv1 {p : Pth} (h : pthE p = 0) : (p.ss.length <= 4 /\ p.ps.length = p.ss.length) /\ 1 <= p.sq /\ p.sq <= 24300000000 := by
 unfold pthE at h
 split at h
 ·split at h
  ·cases h
  ·split at h
   ·rename_i a b c
    have := within_iff.1 c
    omega
   ·cases h
 ·cases h
theorem d210 (n lo hi : Int) : PCall Tryz.prog 101 [I n,I lo,I hi] ⟨Bo (within n lo hi),[]⟩ := by
 refine bs.pv (sx := nos) Zd Tryz.func101 (by kernel_rfl) (by kernel_rfl) rfl ?_
 repeat' (first | refine wk3 ?_ | (refine wk2 ?_ ?_ <;> intro _) | refine wk4 ?_ | fail); all_goals (conv => whnf)
 all_goals exact Zc (by simp_all [within] <;> omega)
theorem d209 (b : Bool) (e : Int) : PCall Tryz.prog 80 [Bo b,I e] ⟨I (unl b e),[]⟩ := by
 refine bs.pv (sx := nos) Zd Tryz.func80 (by kernel_rfl) (by kernel_rfl) rfl ?_
 repeat' (first | refine wk3 ?_ | (refine wk2 ?_ ?_ <;> intro _) | refine wk4 ?_ | fail); all_goals (conv => whnf)
 all_goals exact Za (by simp_all [unl])
def fstL : List Int -> Int
 | [] => 0
 | x :: l => if x ≠ 0 then x else fstL l
theorem Zxe (x : Int) (l : List Int) : fstL (x :: l) = if x ≠ 0 then x else fstL l := rfl
set_option maxRecDepth 100000 in
set_option maxHeartbeats 4000000 in
theorem d78 {l : List Int} (hl : l.length < 1000) : PCall Tryz.prog 78 [.isl 1 (nl l)] ⟨I (fstL l),[]⟩ := by
 have l2 := Zl l
 refine bs.pv (sx := nos) Zd Tryz.func78 (by kernel_rfl) (by kernel_rfl) rfl ?_
 repeat' (first | refine wk3 ?_ | (refine wk2 ?_ ?_ <;> intro _) | refine wk4 ?_ | fail); all_goals (conv => whnf)
 refine Yc (S := Nat × Int) (fun t => l.length - t.1) (fun t => [(5,.isl 1 (nl l)),(6,I (nl l).length),(7,I t.2)]) (fun _ => []) 0 0 (fun t => t.2 = t.1 /\ t.1 <= l.length /\ fstL (l.drop t.1) = fstL l) (0,0) ⟨rfl,Nat.zero_le _,rfl⟩ (Nat.le_refl _) [] rfl (kps) (kps) ?_
 rintro ⟨k,i⟩ ⟨hi,hk,hh⟩
 dsimp only at hi hk hh ⊢
 subst hi
 generalize fstL l = R at *
 refine bs.av (sx := nos) Zd ?_
 by_cases hlt : k < l.length
 ·have e1 := Ue hlt
  rw [List.drop_eq_getElem_cons hlt,Zxe] at hh
  generalize l[k] = x at *
  by_cases hx : x = 0
  ·rw [if_neg (fun c => c hx)] at hh
   repeat' (first | refine wk3 ?_ | (refine wk2 ?_ ?_ <;> intro _) | refine wk4 ?_ | fail); all_goals (conv => whnf)
   exact Done.mk ⟨(k + 1,_),[],rfl,kps,kps,⟨Zk (by omega),hlt,hh⟩,by dsimp only; omega⟩
  ·rw [if_pos hx] at hh
   subst hh
   repeat' (first | refine wk3 ?_ | (refine wk2 ?_ ?_ <;> intro _) | refine wk4 ?_ | fail); all_goals (conv => whnf)
   exact Za rfl
 ·rw [List.drop_of_length_le (by omega)] at hh
  repeat' (first | refine wk3 ?_ | (refine wk2 ?_ ?_ <;> intro _) | refine wk4 ?_ | fail); all_goals (conv => whnf)
  exact Za hh
def r78f : List AV -> Option PRes
 | [.isl 1 l] => match numsOf l with
  | some ns => asr (Nat.blt ns.length 1000) ⟨I (fstL ns),[]⟩
  | none => none
 | _ => none
where
 numsOf : List (List AV) -> Option (List Int)
  | [] => some []
  | [.int .i64 n] :: l => match numsOf l with
   | some ns => some (n :: ns)
   | none => none
  | _ => none
theorem Zny : ∀ {l : List (List AV)} {ns : List Int},r78f.numsOf l = some ns -> l = nl ns
 | [],ns,h => by cases h; rfl
 | e :: l,ns,h => by
  unfold r78f.numsOf at h
  split at h
  ·rename_i h0; cases h0
  ·rename_i n l' h0
   cases h0
   split at h
   ·rename_i ms hm
    cases h
    rw [Zny hm]; rfl
   ·cases h
  ·cases h
theorem d86 (n m : Int) : PCall Tryz.prog 86 [I n,I m] ⟨Bo (small n m),[]⟩ := by
 have hk : PCOK Tryz.prog (ins 101 (fun a => match a with
  | [.int .i64 n,.int .i64 lo,.int .i64 hi] => some ⟨Bo (within n lo hi),[]⟩
  | _ => none) pt0) := Zj (fun a res h => by split at h <;> cases h; exact d210 _ _ _) Zd
 refine bs.pv (sx := nos) hk Tryz.func86 (by kernel_rfl) (by kernel_rfl) rfl ?_
 repeat' (first | refine wk3 ?_ | (refine wk2 ?_ ?_ <;> intro _) | refine wk4 ?_ | fail); all_goals (conv => whnf)
 exact Zc rfl
def rWu : List AV -> Option PRes
 | [.int .i64 n,.int .i64 lo,.int .i64 hi] => some ⟨Bo (within n lo hi),[]⟩
 | _ => none
def rUn : List AV -> Option PRes
 | [.bool b,.int .i64 e] => some ⟨I (unl b e),[]⟩
 | _ => none
def kI0 : PC := ins 78 r78f (ins 80 rUn (ins 101 rWu (ins 86 r92 k78)))
theorem Ygj : PCOK Tryz.prog kI0 := by
 refine Zj (fun a res h => ?_) (Zj (fun a res h => ?_) (Zj (fun a res h => ?_) (Zj (fun a res h => ?_) Zwu)))
 ·unfold r78f at h
  split at h
  ·split at h
   ·rename_i ns hn
    obtain ⟨h1,rfl⟩ := Uq h
    rw [Zny hn]
    exact d78 (by simpa [Nat.blt_eq] using h1)
   ·cases h
  ·cases h
 ·unfold rUn at h; split at h <;> cases h; exact d209 _ _
 ·unfold rWu at h; split at h <;> cases h; exact d210 _ _ _
 ·unfold r92 at h; split at h <;> cases h; exact d86 _ _
theorem Zzx (p : Pth) : pthE p = fstL [unl (decide (((p.ps.map hp4).length : Int) = ((nl p.ss).length : Int))) 10,unl (decide (((nl p.ss).length : Int) <= 4)) 8,unl (within p.sq 1 24300000000) 2] := by
 have l1 : (p.ps.map hp4).length = p.ps.length := by simp
 rw [l1,Zl]
 unfold pthE fstL fstL fstL fstL unl
 by_cases c1 : (p.ps.length : Int) = p.ss.length
 ·by_cases c2 : 4 < (p.ss.length : Int)
  ·rw [if_pos c1,if_pos c2,decide_eq_true c1,decide_eq_false (by omega)]; rfl
  ·rw [if_pos c1,if_neg c2,decide_eq_true c1,decide_eq_true (by omega)]; cases within p.sq 1 24300000000 <;> rfl
 ·rw [if_neg c1,decide_eq_false c1]; rfl
set_option maxHeartbeats 4000000 in
theorem d162 (p : Pth) : PCall Tryz.prog 96 [p.av] ⟨I (pthE p),[]⟩ := by
 rw [Zzx]
 refine bs.pv (sx := nos) Ygj Tryz.func96 (by kernel_rfl) (by kernel_rfl) rfl ?_
 repeat' (first | refine wk3 ?_ | (refine wk2 ?_ ?_ <;> intro _) | refine wk4 ?_ | fail); all_goals (conv => whnf)
 exact Za rfl
abbrev Ygx (h : Hal) : Prop := (9 < h.ws.length /\ h.ws.length <= 12) \/ 14 < h.ws.length \/ 14 < h.cs.length \/ 4 < h.ms.length \/ 2 < h.ks.length \/ 3 < h.ss.length
def Zk9 (h : Hal) : Bool := Yk h.nm && Yk h.fl && Yk h.ce
def few2 (h : Hal) : Bool := (!decide (Ygx h) && Zk9 h) && (h.ws.all fewW && (h.ms.all fewM && (h.ks.all fewC && h.ss.all fewS)))
theorem Yew {h : Hal} (hb : few2 h = true) : h.ok := by
 unfold few2 Zk9 at hb
 simp only [Bool.and_eq_true,Bool.not_eq_true',decide_eq_false_iff_not] at hb
 obtain ⟨⟨hL,⟨n1,n2⟩,n3⟩,m2,m1,m3,m4⟩ := hb
 have hL : ¬ ((9 < h.ws.length /\ h.ws.length <= 12) \/ 14 < h.ws.length \/ 14 < h.cs.length \/ 4 < h.ms.length \/ 2 < h.ks.length \/ 3 < h.ss.length) := hL
 rw [List.all_eq_true] at m1 m2 m3 m4
 refine ⟨⟨by omega,by omega,by omega,by omega,by omega,fun c hc => ?_⟩,⟨Zbw n1,fun m hm => Zbw (m1 m hm),fun m hm => ?_,fun m hm => ?_,fun m hm => Zbw (m4 m hm)⟩⟩
 ·have := m3 c hc
  unfold fewC at this
  simp only [Bool.and_eq_true,Bool.not_eq_true',decide_eq_false_iff_not] at this
  omega
 ·have := m2 m hm
  unfold fewW at this
  simp only [Bool.and_eq_true] at this
  exact Zbw this.1.1
 ·have := m3 m hm
  unfold fewC at this
  simp only [Bool.and_eq_true] at this
  exact Zbw this.1.1
theorem sh_n {s : ByteArray} (h : Yk s = true) : ¬ (20 : Int) < (s.size : Int) := by
 unfold Yk at h
 simpa using h
set_option maxRecDepth 100000 in
set_option maxHeartbeats 16000000 in
theorem d80 (h : Hal) : PCall Tryz.prog 63 [h.av] ⟨Bo (few2 h),[]⟩ := by
 have l1 := Zdv h.ms
 have l2 : (h.cs.map pt).length = h.cs.length := by simp
 have l3 := Yo h.ws
 have l4 := Xe h.ks
 have l5 := Zdi h.ss
 by_cases hP : Ygx h
 ·have e0 : few2 h = false := by unfold few2; rw [decide_eq_true hP]; rfl
  rw [e0]
  clear e0
  have hP : (9 < h.ws.length /\ h.ws.length <= 12) \/ 14 < h.ws.length \/ 14 < h.cs.length \/ 4 < h.ms.length \/ 2 < h.ks.length \/ 3 < h.ss.length := hP
  refine bs.pv (sx := nos) Zd Tryz.func63 (by kernel_rfl) (by kernel_rfl) rfl ?_
  repeat' (first | refine wk3 ?_ | (refine wk2 ?_ ?_ <;> intro _) | refine wk4 ?_ | fail); all_goals (conv => whnf)
  all_goals first
   | exact Zc rfl
   | (exfalso; simp_all; omega)
 have hP' : ¬ ((9 < h.ws.length /\ h.ws.length <= 12) \/ 14 < h.ws.length \/ 14 < h.cs.length \/ 4 < h.ms.length \/ 2 < h.ks.length \/ 3 < h.ss.length) := hP
 have hw : h.ws.length <= 9 \/ 12 < h.ws.length := by omega
 unfold few2
 rw [decide_eq_false hP,Bool.not_false,Bool.true_and]
 clear hP
 by_cases hN : Zk9 h = true
 rotate_left
 ·have hN : Zk9 h = false := by simpa using hN
  rw [hN,Bool.false_and]
  unfold Zk9 at hN
  rcases hw with hw | hw
  all_goals
   refine bs.pv (sx := nos) Zd Tryz.func63 (by kernel_rfl) (by kernel_rfl) rfl ?_
   repeat' (first | refine wk3 ?_ | (refine wk2 ?_ ?_ <;> intro _) | refine wk4 ?_ | fail); all_goals (conv => whnf)
  all_goals first
   | exact Zc rfl
   | (exfalso; simp_all [Yk]; done)
   | (exfalso; simp_all [Yk]; omega)
 rw [hN,Bool.true_and]
 unfold Zk9 at hN
 simp only [Bool.and_eq_true] at hN
 obtain ⟨⟨n1,n2⟩,n3⟩ := hN
 have n1 := sh_n n1
 have n2 := sh_n n2
 have n3 := sh_n n3
 generalize hE : (h.ws.all fewW && (h.ms.all fewM && (h.ks.all fewC && h.ss.all fewS))) = R
 rcases hw with hw | hw
 all_goals
  refine bs.pv (sx := nos) Zd Tryz.func63 (by kernel_rfl) (by kernel_rfl) rfl ?_
  repeat' (first | refine wk3 ?_ | (refine wk2 ?_ ?_ <;> intro _) | refine wk4 ?_ | fail); all_goals (conv => whnf)
  clear n1 n2 n3
  subst hE
  generalize hV : (h.ms.all fewM && (h.ks.all fewC && h.ss.all fewS)) = V
  refine Yc (S := Nat × Int) (fun t => h.ws.length - t.1) (fun t => [(1,.ptr 0 0 0),(2,Bo false),(3,I t.2)]) (fun _ => [(0,.row 9 [h.cells] true false)]) 1 1 (fun t => t.2 = t.1 /\ t.1 <= h.ws.length /\ ((h.ws.drop t.1).all fewW && V) = (h.ws.all fewW && V)) (0,0) ⟨rfl,Nat.zero_le _,rfl⟩ (Nat.le_refl _) [] rfl (kps) (kps) ?_
  rintro ⟨k,i⟩ ⟨hi,hk,hh⟩
  dsimp only at hi hk hh ⊢
  subst hi
  generalize hB : (h.ws.all fewW && V) = B at *
  clear hB
  refine bs.av (sx := nos) Zd ?_
  by_cases hlt : k < h.ws.length
  ·clear hV
   have e1 := Zkx hlt
   rw [List.drop_eq_getElem_cons hlt,List.all_cons] at hh
   generalize h.ws[k] = m at *
   have hm : ∀ b,fewW m = b -> (b && (h.ws.drop (k + 1)).all fewW && V) = B := fun b e => by rw [<-e,Bool.and_assoc]; rw [Bool.and_assoc] at hh; exact hh
   clear hh
   repeat' (first | refine wk3 ?_ | (refine wk2 ?_ ?_ <;> intro _) | refine wk4 ?_ | fail); all_goals (conv => whnf)
   all_goals clear e1
   all_goals first
    | exact Zc (hm false (by clear hm; simp_all [fewW,Yk]; done))
    | exact Done.mk ⟨(k + 1,_),[],rfl,kps,kps,⟨Zk (by omega),hlt,hm true (by clear hm; simp_all [fewW,Yk]; done)⟩,by dsimp only; omega⟩
  rw [List.drop_of_length_le (by omega)] at hh
  have hh : V = B := hh
  subst hh
  subst hV
  repeat' (first | refine wk3 ?_ | (refine wk2 ?_ ?_ <;> intro _) | refine wk4 ?_ | fail); all_goals (conv => whnf)
  clear hlt hk
  generalize hV : (h.ks.all fewC && h.ss.all fewS) = V
  refine Yc (S := Nat × Int) (fun t => h.ms.length - t.1) (fun t => [(1,.ptr 0 0 0),(2,Bo false),(4,I t.2)]) (fun _ => [(0,.row 9 [h.cells] true false)]) 1 1 (fun t => t.2 = t.1 /\ t.1 <= h.ms.length /\ ((h.ms.drop t.1).all fewM && V) = (h.ms.all fewM && V)) (0,0) ⟨rfl,Nat.zero_le _,rfl⟩ (Nat.le_refl _) [] rfl (kps) (kps) ?_
  rintro ⟨k,i⟩ ⟨hi,hk,hh⟩
  dsimp only at hi hk hh ⊢
  subst hi
  generalize hB : (h.ms.all fewM && V) = B at *
  clear hB
  refine bs.av (sx := nos) Zd ?_
  by_cases hlt : k < h.ms.length
  ·clear hV
   have e1 := Zr6 hlt
   rw [List.drop_eq_getElem_cons hlt,List.all_cons] at hh
   generalize h.ms[k] = m at *
   have hm : ∀ b,fewM m = b -> (b && (h.ms.drop (k + 1)).all fewM && V) = B := fun b e => by rw [<-e,Bool.and_assoc]; rw [Bool.and_assoc] at hh; exact hh
   clear hh
   repeat' (first | refine wk3 ?_ | (refine wk2 ?_ ?_ <;> intro _) | refine wk4 ?_ | fail); all_goals (conv => whnf)
   all_goals clear e1
   all_goals first
    | exact Zc (hm false (by clear hm; simp_all [fewM,Yk]; done))
    | exact Done.mk ⟨(k + 1,_),[],rfl,kps,kps,⟨Zk (by omega),hlt,hm true (by clear hm; simp_all [fewM,Yk]; done)⟩,by dsimp only; omega⟩
  rw [List.drop_of_length_le (by omega)] at hh
  have hh : V = B := hh
  subst hh
  subst hV
  repeat' (first | refine wk3 ?_ | (refine wk2 ?_ ?_ <;> intro _) | refine wk4 ?_ | fail); all_goals (conv => whnf)
  clear hlt hk
  generalize hV : h.ss.all fewS = V
  refine Yc (S := Nat × Int) (fun t => h.ks.length - t.1) (fun t => [(1,.ptr 0 0 0),(2,Bo false),(5,I t.2)]) (fun _ => [(0,.row 9 [h.cells] true false)]) 1 1 (fun t => t.2 = t.1 /\ t.1 <= h.ks.length /\ ((h.ks.drop t.1).all fewC && V) = (h.ks.all fewC && V)) (0,0) ⟨rfl,Nat.zero_le _,rfl⟩ (Nat.le_refl _) [] rfl (kps) (kps) ?_
  rintro ⟨k,i⟩ ⟨hi,hk,hh⟩
  dsimp only at hi hk hh ⊢
  subst hi
  generalize hB : (h.ks.all fewC && V) = B at *
  clear hB
  refine bs.av (sx := nos) Zd ?_
  by_cases hlt : k < h.ks.length
  ·clear hV
   have e1 := Zd6 hlt
   rw [List.drop_eq_getElem_cons hlt,List.all_cons] at hh
   generalize h.ks[k] = m at *
   have e9 := Zl m.hs
   have hm : ∀ b,fewC m = b -> (b && (h.ks.drop (k + 1)).all fewC && V) = B := fun b e => by rw [<-e,Bool.and_assoc]; rw [Bool.and_assoc] at hh; exact hh
   clear hh
   repeat' (first | refine wk3 ?_ | (refine wk2 ?_ ?_ <;> intro _) | refine wk4 ?_ | fail); all_goals (conv => whnf)
   all_goals clear e1
   all_goals first
    | exact Zc (hm false (by clear hm; simp_all [fewC,Yk]; done))
    | exact Done.mk ⟨(k + 1,_),[],rfl,kps,kps,⟨Zk (by omega),hlt,hm true (by clear hm; simp_all [fewC,Yk]; done)⟩,by dsimp only; omega⟩
  rw [List.drop_of_length_le (by omega)] at hh
  have hh : V = B := hh
  subst hh
  subst hV
  repeat' (first | refine wk3 ?_ | (refine wk2 ?_ ?_ <;> intro _) | refine wk4 ?_ | fail); all_goals (conv => whnf)
  clear hlt hk
  refine Yc (S := Nat × Int) (fun t => h.ss.length - t.1) (fun t => [(1,.ptr 0 0 0),(2,Bo false),(6,I t.2)]) (fun _ => [(0,.row 9 [h.cells] true false)]) 1 1 (fun t => t.2 = t.1 /\ t.1 <= h.ss.length /\ ((h.ss.drop t.1).all fewS) = (h.ss.all fewS)) (0,0) ⟨rfl,Nat.zero_le _,rfl⟩ (Nat.le_refl _) [] rfl (kps) (kps) ?_
  rintro ⟨k,i⟩ ⟨hi,hk,hh⟩
  dsimp only at hi hk hh ⊢
  subst hi
  generalize hB : (h.ss.all fewS) = B at *
  clear hB
  refine bs.av (sx := nos) Zd ?_
  by_cases hlt : k < h.ss.length
  ·have e1 := Zru hlt
   rw [List.drop_eq_getElem_cons hlt,List.all_cons] at hh
   generalize h.ss[k] = m at *
   have hm : ∀ b,fewS m = b -> (b && (h.ss.drop (k + 1)).all fewS) = B := fun b e => by rw [<-e]; exact hh
   clear hh
   repeat' (first | refine wk3 ?_ | (refine wk2 ?_ ?_ <;> intro _) | refine wk4 ?_ | fail); all_goals (conv => whnf)
   all_goals clear e1
   all_goals first
    | exact Zc (hm false (by clear hm; simp_all [fewS,Yk]; done))
    | exact Done.mk ⟨(k + 1,_),[],rfl,kps,kps,⟨Zk (by omega),hlt,hm true (by clear hm; simp_all [fewS,Yk]; done)⟩,by dsimp only; omega⟩
  rw [List.drop_of_length_le (by omega)] at hh
  repeat' (first | refine wk3 ?_ | (refine wk2 ?_ ?_ <;> intro _) | refine wk4 ?_ | fail); all_goals (conv => whnf)
  exact Zc hh
def few3 (h : Hal) (s : Stg) : Bool := few2 h && (decide (s.hs.length <= 4) && decide (s.dr.length <= 10))
theorem Yev {h : Hal} {s : Stg} (r : few3 h s = true) : h.ok /\ s.few := by
 unfold few3 at r
 simp only [Bool.and_eq_true,decide_eq_true_eq] at r
 exact ⟨Yew r.1,by omega,by omega⟩
theorem d90 {h : Hal} (hk : h.ok) : PCall Tryz.prog 66 [h.av] ⟨I h.err,[]⟩ := by
 refine bs.pv (sx := nos) (Zf (c65k hk) Zd) Tryz.func66 (by kernel_rfl) (by kernel_rfl) rfl ?_
 repeat' (first | refine wk3 ?_ | (refine wk2 ?_ ?_ <;> intro _) | refine wk4 ?_ | fail); all_goals (conv => whnf)
 exact Za rfl
def nsN (h : Hal) : Nat := h.ws.length + 2 + h.ks.length
theorem Zwi (h : Hal) : (nsN h : Int) = nsur h := by unfold nsN nsur; omega
theorem Zzg (h : Hal) : (sl (surf h)).length = nsN h := by
 rw [Zix]; unfold surf Zfv Zgb nsN; simp; omega
def wkG (n : Int) : Option Int -> List Int -> Int
 | _,[] => 0
 | q,x :: l => if within x 0 n then (if q = some x then 26 else wkG n (some x) l) else 6
def suE (h : Hal) (l : List Int) : Int := if 4 < (l.length : Int) then 8 else wkG (nsur h - 1) none l
theorem Ybi {n : Int} : ∀ {l : List Int} {q : Option Int},wkG n q l = 0 -> ∀ x ∈ l,0 <= x /\ x <= n
 | [],_,_,x,hx => by simp at hx
 | y :: l,q,h,x,hx => by
  rw [wkG] at h
  split at h
  ·rename_i c
   split at h
   ·cases h
   ·rw [List.mem_cons] at hx
    rcases hx with rfl | hx
    ·exact within_iff.1 c
    ·exact Ybi h x hx
  ·cases h
theorem d17 (h : Hal) (s : Stg) : PCall Tryz.prog 13 [.agg (stgL h s)] ⟨Bo (few3 h s),[]⟩ := by
 have l1 := Zl s.hs
 have l2 := Zl s.dr
 have hk := Zf (d80 h) Zd
 unfold few3
 generalize few2 h = b at *
 by_cases c1 : s.hs.length <= 4 <;> by_cases c2 : s.dr.length <= 10 <;> cases b
 all_goals
  refine bs.pv (sx := nos) hk Tryz.func13 (by kernel_rfl) (by kernel_rfl) rfl ?_
  repeat' (first | refine wk3 ?_ | (refine wk2 ?_ ?_ <;> intro _) | refine wk4 ?_ | fail); all_goals (conv => whnf)
 all_goals first
  | exact Zc rfl
  | (refine Zc ?_; simp_all; done)
  | (refine Zc ?_; simp_all; omega)
  | (exfalso; simp_all; omega)
set_option maxRecDepth 100000 in
set_option maxHeartbeats 4000000 in
theorem d21 {p : Pth} (h1 : p.ss.length < 100000) (h2 : p.ps.length < 100000) : PCall Tryz.prog 35 [p.av] ⟨p.av,[]⟩ := by
 have o1 : Vc (p.ps.map hp4) = true := by simp [Vc,AV.one]
 have l2 : (p.ps.map hp4).length = p.ps.length := by simp
 have hk := Zf (c25f p.ss h1) Zd
 have key : PCall Tryz.prog 35 [p.av] ⟨.agg [.isl 1 (nl p.ss),.asl 0 0 (p.ps.map hp4).length,I p.sq],[(4,p.ps.map hp4)]⟩ := by
  obtain ⟨ss,ps,sq⟩ := p
  dsimp only at *
  cases ps with
  | nil =>
   refine bs.pv (sx := nos) hk Tryz.func35 (by kernel_rfl) (by kernel_rfl) rfl ?_
   repeat' (first | refine wk3 ?_ | (refine wk2 ?_ ?_ <;> intro _) | refine wk4 ?_ | fail); all_goals (conv => whnf)
   exact Xb [5] rfl rfl rfl
  | cons q ps =>
   refine bs.pv (sx := nos) hk Tryz.func35 (by kernel_rfl) (by kernel_rfl) rfl ?_
   repeat' (first | refine wk3 ?_ | (refine wk2 ?_ ?_ <;> intro _) | refine wk4 ?_ | fail); all_goals (conv => whnf)
   refine Yfa (ys := (q :: ps).map hp4) rfl rfl rfl rfl rfl rfl rfl rfl rfl o1 (by simp) rfl (by show 0 + _ <= _; rw [l2]; omega) ?_
   repeat' (first | refine wk3 ?_ | (refine wk2 ?_ ?_ <;> intro _) | refine wk4 ?_ | fail); all_goals (conv => whnf)
   refine Xb [8] rfl ?_ rfl
   show AV.agg [.isl 1 (nl ss),.asl 8 0 (0 + ((q :: ps).map hp4).length),I sq] = AV.agg [.isl 1 (nl ss),.asl 8 0 ((q :: ps).map hp4).length,I sq]
   rw [Nat.zero_add]
 exact key.freeze ⟨⟨rfl,rfl⟩,⟨rfl,rfl,rfl⟩,⟨rfl,rfl⟩,trivial⟩
def eqN : List Int -> List Int -> Bool
 | [],[] => true
 | x :: a,y :: b => decide (x = y) && eqN a b
 | _,_ => false
theorem Zqw : ∀ {a b : List Int},eqN a b = true ↔ a = b
 | [],[] => by simp [eqN]
 | x :: a,y :: b => by rw [eqN,Bool.and_eq_true,decide_eq_true_eq,Zqw]; simp
 | [],y :: b => by simp [eqN]
 | x :: a,[] => by simp [eqN]
theorem Ye0 {a b : List Int} (h : a.length ≠ b.length) : eqN a b = false := by
 rw [Bool.eq_false_iff,ne_eq,Zqw]
 intro e; exact h (by rw [e])
set_option maxRecDepth 100000 in
set_option maxHeartbeats 4000000 in
theorem c69 {a b : List Int} (hl : a.length < 1000000) (hb : b.length < 1000000) : PCall Tryz.prog 58 [.isl 1 (nl a),.isl 1 (nl b)] ⟨Bo (eqN a b),[]⟩ := by
 have l1 := Zl a
 have l2 := Zl b
 refine bs.pv (sx := nos) Zd Tryz.func58 (by kernel_rfl) (by kernel_rfl) rfl ?_
 by_cases hlen : a.length = b.length
 ·repeat' (first | refine wk1 ?_ | (refine wk2 ?_ ?_ <;> intro _) | refine wk4 ?_ | fail); all_goals (conv => whnf)
  refine Yc (S := Nat × Int) (fun t => a.length - t.1) (fun t => [(0,.isl 1 (nl a)),(1,.isl 1 (nl b)),(5,I t.2)]) (fun _ => []) 0 0 (fun t => t.2 = t.1 /\ t.1 <= a.length /\ eqN (a.drop t.1) (b.drop t.1) = eqN a b) (0,0) ⟨rfl,Nat.zero_le _,rfl⟩ (Nat.le_refl _) [] rfl (kps) (kps) ?_
  rintro ⟨k,i⟩ ⟨hi,hk,hh⟩
  dsimp only at hi hk hh ⊢
  subst hi
  refine bs.av (sx := nos) Zd ?_
  by_cases hlt : k < a.length
  ·have e1 := Ue hlt
   have e2 := Ue (ns := b) (k := k) (by omega)
   rw [List.drop_eq_getElem_cons hlt,List.drop_eq_getElem_cons (show k < b.length by omega),eqN] at hh
   by_cases he : a[k] = b[k]'(by omega)
   ·rw [decide_eq_true he,Bool.true_and] at hh
    repeat' (first | refine wk1 ?_ | (refine wk2 ?_ ?_ <;> intro _) | refine wk4 ?_ | fail); all_goals (conv => whnf)
    exact Done.mk ⟨(k + 1,_),[],rfl,kps,kps,⟨Zk (by omega),hlt,hh⟩,by dsimp only; omega⟩
   ·rw [decide_eq_false he,Bool.false_and] at hh
    rw [<-hh]
    repeat' (first | refine wk1 ?_ | (refine wk2 ?_ ?_ <;> intro _) | refine wk4 ?_ | fail); all_goals (conv => whnf)
    exact Zc rfl
  ·rw [List.drop_of_length_le (by omega),List.drop_of_length_le (by omega)] at hh
   rw [<-hh]
   repeat' (first | refine wk1 ?_ | (refine wk2 ?_ ?_ <;> intro _) | refine wk4 ?_ | fail); all_goals (conv => whnf)
   exact Zc rfl
 ·rw [Ye0 hlen]
  repeat' (first | refine wk1 ?_ | (refine wk2 ?_ ?_ <;> intro _) | refine wk4 ?_ | fail); all_goals (conv => whnf)
  exact Zc rfl
noncomputable abbrev Yek : List AV -> Option PRes := famA (fun p : List Int × List Int => p.1.length < 1000000 /\ p.2.length < 1000000) (fun p => [.isl 1 (nl p.1),.isl 1 (nl p.2)]) (fun p => ⟨Bo (eqN p.1 p.2),[]⟩)
theorem Yae {a b : List Int} (ha : a.length < 1000000) (hb : b.length < 1000000) : Yek [.isl 1 (nl a),.isl 1 (nl b)] = some ⟨Bo (eqN a b),[]⟩ :=
 Ya (p := fun p : List Int × List Int => p.1.length < 1000000 /\ p.2.length < 1000000) (g := fun p => [.isl 1 (nl p.1),.isl 1 (nl p.2)]) (r := fun p => ⟨Bo (eqN p.1 p.2),[]⟩) (k := (a,b)) (fun j hj => by
  simp only [List.cons.injEq,AV.isl.injEq,true_and,and_true] at hj
  rw [Zja hj.1,Zja hj.2]) ⟨ha,hb⟩
theorem Yaf {pt : PC} (h : PCOK Tryz.prog pt) : PCOK Tryz.prog (ins 58 Yek pt) := Yr (fun p hp => c69 hp.1 hp.2) h
def swG {α : Type} (d : α) (l : List α) (i j : Nat) : List α := (l.set i (l.getD j d)).set j (l.getD i d)
theorem Ztl {α : Type} (d : α) (l : List α) (i j : Nat) : (swG d l i j).length = l.length := by simp [swG]
theorem Zso {α : Type} {d : α} {l : List α} {i j : Nat} {x : α} (hi : i < l.length) : (l.set i x).getD j d = if i = j then x else l.getD j d := by
 rw [List.getD_eq_getElem?_getD,List.getD_eq_getElem?_getD,List.getElem?_set]
 by_cases e : i = j
 ·subst e; simp [hi]
 ·simp [e]
structure RevG {α : Type} (d : α) (o l : List α) (k : Nat) : Prop where
 len : l.length = o.length
 vl : ∀ j,j < o.length -> l.getD j d = if j < k \/ o.length <= j + k then o.getD (o.length - 1 - j) d else o.getD j d
theorem RevG.zero {α : Type} (d : α) (o : List α) : RevG d o o 0 := ⟨rfl,fun j hj => by rw [if_neg (by omega)]⟩
theorem RevG.succ {α : Type} {d : α} {o l : List α} {k : Nat} (h : RevG d o l k) (hk : k + k + 1 < o.length) : RevG d o (swG d l k (o.length - 1 - k)) (k + 1) := by
 refine ⟨by rw [Ztl,h.len],fun j hj => ?_⟩
 have h1 := h.vl k (by omega)
 have h2 := h.vl (o.length - 1 - k) (by omega)
 have h3 := h.vl j hj
 rw [if_neg (by omega)] at h1 h2
 unfold swG
 rw [Zso (by rw [List.length_set,h.len]; omega),Zso (by rw [h.len]; omega),h1,h2,h3]
 by_cases e1 : o.length - 1 - k = j
 ·subst e1
  rw [if_pos rfl,if_pos (by omega)]
  congr 1; omega
 ·rw [if_neg e1]
  by_cases e2 : k = j
  ·subst e2
   rw [if_pos rfl,if_pos (by omega)]
  ·rw [if_neg e2]
   by_cases e3 : j < k \/ o.length <= j + k
   ·rw [if_pos e3,if_pos (by omega)]
   ·rw [if_neg e3,if_neg (by omega)]
theorem RevG.fin {α : Type} {d : α} {o l : List α} {k : Nat} (h : RevG d o l k) (hk : o.length <= k + k + 1) : l = o.reverse := by
 refine List.ext_getElem (by rw [List.length_reverse,h.len]) fun j h1 h2 => ?_
 have h3 := h.vl j (by rw [<-h.len]; exact h1)
 have hj : j < o.length := by rw [<-h.len]; exact h1
 rw [List.getD_eq_getElem?_getD,List.getElem?_eq_getElem h1] at h3
 rw [List.getElem_reverse]
 have h4 : l[j] = if j < k \/ o.length <= j + k then o.getD (o.length - 1 - j) d else o.getD j d := h3
 rw [h4]
 by_cases e : j < k \/ o.length <= j + k
 ·rw [if_pos e,List.getD_eq_getElem?_getD,List.getElem?_eq_getElem (by omega)]; rfl
 ·rw [if_neg e,List.getD_eq_getElem?_getD,List.getElem?_eq_getElem hj]
  have : o.length - 1 - j = j := by omega
  simp only [this]; rfl
theorem Zid {α : Type} {d : α} {f : α -> List AV} {l : List α} {j : Nat} (h : j < l.length) : (l.map f)[j]? = some (f (l.getD j d)) := by
 rw [List.getD_eq_getElem?_getD,List.getElem?_eq_getElem h]
 simp [h]
theorem Zr9 {α : Type} (f : α -> List AV) (l : List α) (j : Nat) (x : α) : (l.map f).set j (f x) = (l.set j x).map f := by simp [List.map_set]
theorem Zwm {α : Type} {d : α} (f : α -> List AV) (l : List α) (i j : Nat) : ((l.map f).set i (f (l.getD j d))).set j (f (l.getD i d)) = (swG d l i j).map f := by rw [Zr9,Zr9]; rfl
def one1 (n : Int) : List AV := [I n]
theorem d103 {ns : List Int} (h0 : 0 < ns.length) (hl : ns.length < 100000) : PCall Tryz.prog 103 [.isl 1 (nl ns)] ⟨.asl 0 0 (nl ns).length,[(1,nl ns)]⟩ := by
 obtain ⟨x,l,rfl⟩ := List.exists_cons_of_length_pos h0
 have h1 := Znx (x :: l)
 have h2 := Zl (x :: l)
 refine bs.pv (sx := nos) Zd Tryz.func103 (by kernel_rfl) (by kernel_rfl) rfl ?_
 repeat' (first | refine wk3 ?_ | (refine wk2 ?_ ?_ <;> intro _) | refine wk4 ?_ | fail); all_goals (conv => whnf)
 refine Xb [1] rfl ?_ rfl
 show AV.asl 1 0 (0 + (nl (x :: l)).length) = AV.asl 1 0 (nl (x :: l)).length
 rw [Nat.zero_add]
set_option maxRecDepth 100000 in
set_option maxHeartbeats 4000000 in
theorem w103 (a : Option Addr) (cap : Nat) (w : World) : Calls Tryz.prog 103 #[.slice a 0 cap] w fun e w' => ∃ a' cap',e = .returned (.slice a' 0 cap') /\ RowKit.Below w.heap.size w w' := by
 have e : ∀ w : World,Sem.run Tryz.prog (binOp BinOp.eql 29 (Value.slice a 0 cap) (Value.slice none 0 0)) w = .ok (.bool a.isNone) w := by
  intro w
  cases a <;> rfl
 cases a with
 | none =>
  simp only [Option.isNone] at e
  go_enter Tryz.func103,Tryz.ntmps103
  go_wp2
  go_ret
  exact ⟨_,_,rfl,RowKit.Below.refl _ _⟩
 | some a =>
  simp only [Option.isNone] at e
  go_enter Tryz.func103,Tryz.ntmps103
  go_wp2
  go_ret
  exact ⟨_,_,rfl,Zj8 _ _⟩
theorem Yg7 : PCall Tryz.prog 103 [.isl 1 []] ⟨.isl 1 [],[]⟩ := Znu (FnOK.of Tryz.func103 (by kernel_rfl) (by kernel_rfl)) w103
theorem Zwe (l : List (Int × Int × Int × Int)) : Vc (l.map hp4) = true := by simp [Vc,AV.one]
theorem d104 {ps : List (Int × Int × Int × Int)} (h0 : 0 < ps.length) (hl : ps.length < 100000) : PCall Tryz.prog 104 [.isl 4 (ps.map hp4)] ⟨.asl 0 0 (ps.map hp4).length,[(4,ps.map hp4)]⟩ := by
 obtain ⟨x,l,rfl⟩ := List.exists_cons_of_length_pos h0
 have h1 := Zwe (x :: l)
 have h2 : ((x :: l).map hp4).length = (x :: l).length := by simp
 refine bs.pv (sx := nos) Zd Tryz.func104 (by kernel_rfl) (by kernel_rfl) rfl ?_
 repeat' (first | refine wk3 ?_ | (refine wk2 ?_ ?_ <;> intro _) | refine wk4 ?_ | fail); all_goals (conv => whnf)
 refine Xb [1] rfl ?_ rfl
 show AV.asl 1 0 (0 + ((x :: l).map hp4).length) = AV.asl 1 0 ((x :: l).map hp4).length
 rw [Nat.zero_add]
set_option maxRecDepth 100000 in
set_option maxHeartbeats 4000000 in
theorem w104 (a : Option Addr) (cap : Nat) (w : World) : Calls Tryz.prog 104 #[.slice a 0 cap] w fun e w' => ∃ a' cap',e = .returned (.slice a' 0 cap') /\ RowKit.Below w.heap.size w w' := by
 have e : ∀ w : World,Sem.run Tryz.prog (binOp BinOp.eql 40 (Value.slice a 0 cap) (Value.slice none 0 0)) w = .ok (.bool a.isNone) w := by
  intro w
  cases a <;> rfl
 cases a with
 | none =>
  simp only [Option.isNone] at e
  go_enter Tryz.func104,Tryz.ntmps104
  go_wp2
  go_ret
  exact ⟨_,_,rfl,RowKit.Below.refl _ _⟩
 | some a =>
  simp only [Option.isNone] at e
  go_enter Tryz.func104,Tryz.ntmps104
  go_wp2
  go_ret
  exact ⟨_,_,rfl,Zj8 _ _⟩
theorem Yg6 : PCall Tryz.prog 104 [.isl 4 []] ⟨.isl 4 [],[]⟩ := Znu (FnOK.of Tryz.func104 (by kernel_rfl) (by kernel_rfl)) w104
def trV (p : Pth) : Pth := ⟨p.ss.reverse,p.ps.reverse,p.sq⟩
def trP (p : Pth) : Pth := if pthE p = 0 then trV p else ⟨[],[],0⟩
def s40 : FuncId -> Bool := fun f => Nat.beq f 105 || Nat.beq f 106
set_option maxRecDepth 100000 in
set_option maxHeartbeats 8000000 in
theorem d40 (p : Pth) : PCall Tryz.prog 40 [p.av] ⟨.tup [(trP p).av,I (pthE p)],[]⟩ := by
 have h96 := d162 p
 unfold trP
 by_cases c : pthE p = 0
 rotate_left
 ·rw [if_neg c]
  generalize pthE p = E at *
  refine PCall.freeze (res := ⟨.tup [.agg [.nils,.nils,I 0],I E],[]⟩) ?_ ⟨⟨rfl,rfl,⟨rfl,rfl⟩,trivial⟩,⟨rfl,rfl⟩,trivial⟩
  refine bs.pv (sx := nos) (Zf h96 Zd) Tryz.func40 (by kernel_rfl) (by kernel_rfl) rfl ?_
  repeat' (first | refine wk3 ?_ | (refine wk2 ?_ ?_ <;> intro _) | refine wk4 ?_ | fail); all_goals (conv => whnf)
  exact Zg rfl rfl
 rw [if_pos c]
 obtain ⟨⟨k1,k2⟩,k3⟩ := Zv1 c
 rw [c] at h96 ⊢
 obtain ⟨ss,ps,sq⟩ := p
 dsimp only at k1 k2 k3
 cases ss with
 | nil =>
  have : ps = [] := List.eq_nil_of_length_eq_zero (by simpa using k2)
  subst this
  have hk := Zf h96 (Zf Yg7 (Zf Yg6 Zd))
  refine bs.pv (sx := s40) hk Tryz.func40 (by kernel_rfl) (by kernel_rfl) rfl ?_
  repeat' (first | refine wk3 ?_ | (refine wk2 ?_ ?_ <;> intro _) | refine wk4 ?_ | fail); all_goals (conv => whnf)
  refine bs.sv (sx := nos) hk Tryz.func105 (by kernel_rfl) (by kernel_rfl) ?_
  repeat' (first | refine wk3 ?_ | (refine wk2 ?_ ?_ <;> intro _) | refine wk4 ?_ | fail); all_goals (conv => whnf)
  refine LpM.start 1 (LpM.succ (bs.av (sx := nos) hk ?_))
  repeat' (first | refine wk3 ?_ | (refine wk2 ?_ ?_ <;> intro _) | refine wk4 ?_ | fail); all_goals (conv => whnf)
  refine bs.sv (sx := nos) hk Tryz.func106 (by kernel_rfl) (by kernel_rfl) ?_
  repeat' (first | refine wk3 ?_ | (refine wk2 ?_ ?_ <;> intro _) | refine wk4 ?_ | fail); all_goals (conv => whnf)
  refine LpM.start 1 (LpM.succ (bs.av (sx := nos) hk ?_))
  repeat' (first | refine wk3 ?_ | (refine wk2 ?_ ?_ <;> intro _) | refine wk4 ?_ | fail); all_goals (conv => whnf)
  exact Zg rfl rfl
 | cons s ss =>
  cases ps with
  | nil => simp at k2
  | cons q ps =>
   have m1 := Zl (s :: ss)
   have m2 : ((q :: ps).map hp4).length = (q :: ps).length := by simp
   have hk := Zf h96 (Zf (d103 (ns := s :: ss) (by simp) (by omega)) (Zf (d104 (ps := q :: ps) (by simp) (by omega)) Zd))
   generalize hS : s :: ss = S at *
   generalize hQ : q :: ps = Q at *
   have mS : 0 < S.length := by rw [<-hS]; simp
   refine PCall.freeze (res := ⟨.tup [.agg [.asl 0 0 (nl S).length,.asl 1 0 (Q.map hp4).length,I sq],I 0],[(1,nl S.reverse),(4,Q.reverse.map hp4)]⟩) ?_ ?_
   ·refine bs.pv (sx := s40) hk Tryz.func40 (by kernel_rfl) (by kernel_rfl) rfl ?_
    repeat' (first | refine wk3 ?_ | (refine wk2 ?_ ?_ <;> intro _) | refine wk4 ?_ | fail); all_goals (conv => whnf)
    refine bs.sv (sx := nos) hk Tryz.func105 (by kernel_rfl) (by kernel_rfl) ?_
    repeat' (first | refine wk3 ?_ | (refine wk2 ?_ ?_ <;> intro _) | refine wk4 ?_ | fail); all_goals (conv => whnf)
    have j0 : IntKind.i64.wrap ((((nl S).length : Nat) : Int) - 1) = ((nl S).length : Int) - 1 := W_eq (by omega) (by omega)
    refine Yc (S := Nat × Int × Int × List (List AV) × List Int) (fun t => S.length - t.1) (fun t => [(0,.asl 4 0 (nl S).length),(2,I t.2.1),(3,I t.2.2.1)]) (fun t => [(13,.row 3 [[.asl 4 0 (nl S).length,.asl 8 0 (Q.map hp4).length,I sq]] true false),(8,.row 4 (Q.map hp4) true true),(4,.row 1 t.2.2.2.1 true true),(1,.row 3 [[.nils,.nils,I 0]] true false)]) 15 15
     (fun t => t.2.1 = t.1 /\ t.2.2.1 = (S.length : Int) - 1 - t.1 /\ t.1 <= S.length /\ t.2.2.2.1 = t.2.2.2.2.map one1 /\ RevG (0 : Int) S t.2.2.2.2 t.1) (0,0,IntKind.i64.wrap ((((nl S).length : Nat) : Int) - 1),nl S,S) ⟨rfl,by dsimp only; rw [j0]; omega,Nat.zero_le _,rfl,RevG.zero _ _⟩ (Nat.le_refl _) [] rfl (kps) (kps) ?_
    rintro ⟨k,i,b,es,l⟩ ⟨hi,hb,hkk,hes,hri⟩
    dsimp only at hi hb hkk hes hri ⊢
    subst hi
    refine bs.av (sx := nos) hk ?_
    by_cases hlt : k + k + 1 < S.length
    ·have hkl : k < l.length := by rw [hri.len]; omega
     have hbl : S.length - 1 - k < l.length := by rw [hri.len]; omega
     have hbn : 0 + b.toNat = S.length - 1 - k := by omega
     have e1 : es[0 + b.toNat]? = some (one1 (l.getD (S.length - 1 - k) (0 : Int))) := by rw [hbn,hes]; exact Zid hbl
     have e2 : es[0 + ((k : Nat) : Int).toNat]? = some (one1 (l.getD k (0 : Int))) := by rw [hes,Nat.zero_add,Int.toNat_natCast]; exact Zid hkl
     have e3 : ∀ y,(Zc9 es (0 + ((k : Nat) : Int).toNat) y)[0 + b.toNat]? = some (one1 (l.getD (S.length - 1 - k) (0 : Int))) := fun y => by rw [Xn,List.getElem?_set_ne (by omega),e1]
     have e4 := e3 (one1 (l.getD (S.length - 1 - k) (0 : Int)))
     have e5 : IntKind.i64.wrap (b - 1) = b - 1 := W_eq (by omega) (by omega)
     repeat' (first | refine wk3 ?_ | (refine wk2 ?_ ?_ <;> intro _) | refine wk4 ?_ | fail); all_goals (conv => whnf)
     refine Done.mk ⟨(k + 1,_,_,_,swG (0 : Int) l k (S.length - 1 - k)),[],rfl,kps,kps,⟨Zk (by omega),?_,by dsimp only; omega,?_,hri.succ hlt⟩,by dsimp only; omega⟩
     ·exact e5.trans (by omega)
     ·show Zc9 (Zc9 es (0 + ((k : Nat) : Int).toNat) (one1 (l.getD (S.length - 1 - k) (0 : Int)))) (0 + b.toNat) (one1 (l.getD k (0 : Int))) = _
      rw [Xn,Xn,hbn,Nat.zero_add,Int.toNat_natCast,hes]
      exact Zwm _ _ _ _
    ·have hfin := hri.fin (by omega)
     subst hfin
     subst hes
     repeat' (first | refine wk3 ?_ | (refine wk2 ?_ ?_ <;> intro _) | refine wk4 ?_ | fail); all_goals (conv => whnf)
     refine bs.sv (sx := nos) hk Tryz.func106 (by kernel_rfl) (by kernel_rfl) ?_
     repeat' (first | refine wk3 ?_ | (refine wk2 ?_ ?_ <;> intro _) | refine wk4 ?_ | fail); all_goals (conv => whnf)
     have j0 : IntKind.i64.wrap ((((Q.map hp4).length : Nat) : Int) - 1) = ((Q.map hp4).length : Int) - 1 := W_eq (by omega) (by omega)
     refine Yc (S := Nat × Int × Int × List (List AV) × List (Int × Int × Int × Int)) (fun t => Q.length - t.1) (fun t => [(0,.asl 8 0 (Q.map hp4).length),(2,I t.2.1),(3,I t.2.2.1)]) (fun t => [(13,.row 3 [[.asl 4 0 (nl S).length,.asl 8 0 (Q.map hp4).length,I sq]] true false),(8,.row 4 t.2.2.2.1 true true),(4,.row 1 (S.reverse.map one1) true true),(1,.row 3 [[.nils,.nils,I 0]] true false)]) 15 15
      (fun t => t.2.1 = t.1 /\ t.2.2.1 = (Q.length : Int) - 1 - t.1 /\ t.1 <= Q.length /\ t.2.2.2.1 = t.2.2.2.2.map hp4 /\ RevG ((0,0,0,0) : Int × Int × Int × Int) Q t.2.2.2.2 t.1) (0,0,IntKind.i64.wrap ((((Q.map hp4).length : Nat) : Int) - 1),Q.map hp4,Q) ⟨rfl,by dsimp only; rw [j0]; omega,Nat.zero_le _,rfl,RevG.zero _ _⟩ (Nat.le_refl _) [] rfl (kps) (kps) ?_
     rintro ⟨k,i,b,es,l⟩ ⟨hi,hb,hkk,hes,hri⟩
     dsimp only at hi hb hkk hes hri ⊢
     subst hi
     refine bs.av (sx := nos) hk ?_
     by_cases hlt : k + k + 1 < Q.length
     ·have hkl : k < l.length := by rw [hri.len]; omega
      have hbl : Q.length - 1 - k < l.length := by rw [hri.len]; omega
      have hbn : 0 + b.toNat = Q.length - 1 - k := by omega
      have e1 : es[0 + b.toNat]? = some (hp4 (l.getD (Q.length - 1 - k) ((0,0,0,0) : Int × Int × Int × Int))) := by rw [hbn,hes]; exact Zid hbl
      have e2 : es[0 + ((k : Nat) : Int).toNat]? = some (hp4 (l.getD k ((0,0,0,0) : Int × Int × Int × Int))) := by rw [hes,Nat.zero_add,Int.toNat_natCast]; exact Zid hkl
      have e3 : ∀ y,(Zc9 es (0 + ((k : Nat) : Int).toNat) y)[0 + b.toNat]? = some (hp4 (l.getD (Q.length - 1 - k) ((0,0,0,0) : Int × Int × Int × Int))) := fun y => by rw [Xn,List.getElem?_set_ne (by omega),e1]
      have e4 := e3 (hp4 (l.getD (Q.length - 1 - k) ((0,0,0,0) : Int × Int × Int × Int)))
      have e5 : IntKind.i64.wrap (b - 1) = b - 1 := W_eq (by omega) (by omega)
      repeat' (first | refine wk3 ?_ | (refine wk2 ?_ ?_ <;> intro _) | refine wk4 ?_ | fail); all_goals (conv => whnf)
      refine Done.mk ⟨(k + 1,_,_,_,swG ((0,0,0,0) : Int × Int × Int × Int) l k (Q.length - 1 - k)),[],rfl,kps,kps,⟨Zk (by omega),?_,by dsimp only; omega,?_,hri.succ hlt⟩,by dsimp only; omega⟩
      ·exact e5.trans (by omega)
      ·show Zc9 (Zc9 es (0 + ((k : Nat) : Int).toNat) (hp4 (l.getD (Q.length - 1 - k) ((0,0,0,0) : Int × Int × Int × Int)))) (0 + b.toNat) (hp4 (l.getD k ((0,0,0,0) : Int × Int × Int × Int))) = _
       rw [Xn,Xn,hbn,Nat.zero_add,Int.toNat_natCast,hes]
       exact Zwm _ _ _ _
     ·have hfin := hri.fin (by omega)
      subst hfin
      subst hes
      repeat' (first | refine wk3 ?_ | (refine wk2 ?_ ?_ <;> intro _) | refine wk4 ?_ | fail); all_goals (conv => whnf)
      exact Xb [4,8] rfl rfl rfl
   ·have g1 : (nl S).length = (nl S.reverse).length := by rw [Zl,Zl,List.length_reverse]
    have g2 : (Q.map hp4).length = (Q.reverse.map hp4).length := by simp
    exact ⟨⟨⟨rfl,rfl,g1⟩,⟨rfl,rfl,g2⟩,⟨rfl,rfl⟩,trivial⟩,⟨rfl,rfl⟩,trivial⟩
abbrev Pl3 := Int × Int × Int
def plcB (x y z : Int) : Bool := within x (-5000) 5000 && within y (-5000) 5000 && within z (-5000) 5000
def plaE (h : Hal) (x y z : Int) : Int := if plcB x y z = true then unl (Zag h ⟨x,y,z,1⟩) 24 else 2
theorem d123 (x y z : Int) : PCall Tryz.prog 123 [P3 x y z] ⟨P4 x y z 1,[]⟩ := by
 refine bs.pv (sx := nos) Zd Tryz.func123 (by kernel_rfl) (by kernel_rfl) rfl ?_
 repeat' (first | refine wk3 ?_ | (refine wk2 ?_ ?_ <;> intro _) | refine wk4 ?_ | fail); all_goals (conv => whnf)
 all_goals exact Zg rfl rfl
theorem d83 (n : Int) : PCall Tryz.prog 83 [I n] ⟨Bo (within n (-5000) 5000),[]⟩ := by
 refine bs.pv (sx := nos) (Zf (c30 n (-5000) 5000) Zd) Tryz.func83 (by kernel_rfl) (by kernel_rfl) rfl ?_
 repeat' (first | refine wk3 ?_ | (refine wk2 ?_ ?_ <;> intro _) | refine wk4 ?_ | fail); all_goals (conv => whnf)
 exact Zc rfl
theorem d81 (n : Int) : PCall Tryz.prog 81 [I n] ⟨I (unl (within n 0 4) 2),[]⟩ := by
 refine bs.pv (sx := nos) (Zf (d210 n 0 4) (Zf (d209 (within n 0 4) 2) Zd)) Tryz.func81 (by kernel_rfl) (by kernel_rfl) rfl ?_
 repeat' (first | refine wk3 ?_ | (refine wk2 ?_ ?_ <;> intro _) | refine wk4 ?_ | fail); all_goals (conv => whnf)
 exact Za rfl
theorem d68 (n : Int) : PCall Tryz.prog 68 [I n] ⟨I (unl (within n 0 4) 2),[]⟩ := by
 refine bs.pv (sx := nos) (Zf (c30 n 0 4) Zd) Tryz.func68 (by kernel_rfl) (by kernel_rfl) rfl ?_
 repeat' (first | refine wk3 ?_ | (refine wk2 ?_ ?_ <;> intro _) | refine wk4 ?_ | fail); all_goals (conv => whnf)
 all_goals exact Za (by simp_all [unl])
theorem Zrr (n : Int) : small n 5000 = within n (-5000) 5000 := rfl
theorem Yf7 {x y z : Int} (c : plcB x y z = true) : Yv ⟨x,y,z,1⟩ = 0 := by
 simp only [plcB,Bool.and_eq_true,within_iff] at c
 have hg : g4 ⟨x,y,z,1⟩ = 1 := by
  simp [g4]
 unfold Yv
 rw [if_neg (by simp [hg]),if_neg (by simp),if_pos]
 unfold ptIn
 simp only [Bool.and_eq_true,within_iff]
 simp
 omega
def r86 : List AV -> Option PRes
 | [.int .i64 n,.int .i64 m] => some ⟨Bo (small n m),[]⟩
 | _ => none
theorem Yfw {pt : PC} (h : PCOK Tryz.prog pt) : PCOK Tryz.prog (ins 86 r86 pt) := Zj (fun a res h => by unfold r86 at h; split at h <;> cases h; exact d86 _ _) h
def r83 : List AV -> Option PRes
 | [.int .i64 n] => some ⟨Bo (within n (-5000) 5000),[]⟩
 | _ => none
theorem Yfx {pt : PC} (h : PCOK Tryz.prog pt) : PCOK Tryz.prog (ins 83 r83 pt) := Zj (fun a res h => by unfold r83 at h; split at h <;> cases h; exact d83 _) h
set_option maxHeartbeats 8000000 in
theorem d79 {h : Hal} (hk : h.ok) (he : h.err = 0) (x y z : Int) : PCall Tryz.prog 79 [h.av,P3 x y z] ⟨I (plaE h x y z),[]⟩ := by
 have hk0 := Yfw (Zf (d123 x y z) Zd)
 by_cases c : plcB x y z = true
 ·have hp := Yf7 c
  have hi : insE h ⟨x,y,z,1⟩ = 0 := by unfold insE; rw [if_pos he,hp]
  have hw : Pt.wf ⟨x,y,z,1⟩ := by
   simp only [plcB,Bool.and_eq_true,within_iff] at c
   refine ⟨⟨?_,?_⟩,⟨?_,?_⟩,⟨?_,?_⟩,⟨?_,?_⟩⟩ <;> dsimp only <;> omega
  have h50 := c50 hk hw
  rw [hi] at h50
  unfold plaE
  rw [if_pos c]
  generalize Zag h ⟨x,y,z,1⟩ = b at *
  have hk1 := Zf h50 (Zf (d209 b 24) hk0)
  simp only [plcB,Bool.and_eq_true,<-Zrr] at c
  refine bs.pv (sx := nos) hk1 Tryz.func79 (by kernel_rfl) (by kernel_rfl) rfl ?_
  repeat' (first | refine wk3 ?_ | (refine wk2 ?_ ?_ <;> intro _) | refine wk4 ?_ | fail); all_goals (conv => whnf)
  all_goals first
   | exact Za rfl
   | (exfalso; clear hk1 h50 hk0 hp hi; simp_all; done)
 ·unfold plaE
  rw [if_neg c]
  simp only [plcB,<-Zrr] at c
  refine bs.pv (sx := nos) hk0 Tryz.func79 (by kernel_rfl) (by kernel_rfl) rfl ?_
  repeat' (first | refine wk3 ?_ | (refine wk2 ?_ ?_ <;> intro _) | refine wk4 ?_ | fail); all_goals (conv => whnf)
  all_goals first
   | exact Za rfl
   | (exfalso; clear hk0; simp_all; done)
set_option maxHeartbeats 8000000 in
theorem d27 {h : Hal} (hk : h.ok) (he : h.err = 0) (x y z : Int) : PCall Tryz.prog 27 [h.av,P3 x y z] ⟨I (plaE h x y z),[]⟩ := by
 have hf := Zjt hk he
 have hk0 := Zf (c52 hk.f hf.le.2.2.1 (Yf9 hf.st) ⟨x,y,z,1⟩) (Yfx (Zf (c36 x y z) Zd))
 unfold plaE plcB
 generalize Zag h ⟨x,y,z,1⟩ = b at *
 refine bs.pv (sx := nos) hk0 Tryz.func27 (by kernel_rfl) (by kernel_rfl) rfl ?_
 repeat' (first | refine wk3 ?_ | (refine wk2 ?_ ?_ <;> intro _) | refine wk4 ?_ | fail); all_goals (conv => whnf)
 all_goals clear hk0
 all_goals exact Za (by simp_all [unl])
abbrev pl3 (p : Pl3) : List AV := [I p.1,I p.2.1,I p.2.2]
def im1 (h : Hal) (s : Stg) (n : Int) (p : Pl3) : Pl3 := rmir (Ze h s n).1 (Ze h s n).2 p.1 p.2.1 p.2.2
def imA (f : Int -> Pl3 -> Pl3) (p : Pl3) (l : List Int) (k : Nat) : Pl3 := (l.take k).foldl (fun q n => f n q) p
theorem Zsj (f : Int -> Pl3 -> Pl3) (p : Pl3) {l : List Int} {k : Nat} (hk : k < l.length) : imA f p l (k + 1) = f l[k] (imA f p l k) := by
 unfold imA
 rw [List.take_succ_eq_append_getElem hk,List.foldl_append]
 rfl
def imC (f : Int -> Pl3 -> Pl3) (p : Pl3) (l : List Int) (k : Nat) : List (List AV) := (List.range (k + 1)).map fun j => pl3 (imA f p l j)
theorem Zjo (f : Int -> Pl3 -> Pl3) (p : Pl3) (l : List Int) (k : Nat) : (imC f p l k).length = k + 1 := by simp [imC]
theorem Zmp (f : Int -> Pl3 -> Pl3) (p : Pl3) (l : List Int) (k : Nat) : (imC f p l k)[k]? = some (pl3 (imA f p l k)) := by simp [imC]
theorem Yai (f : Int -> Pl3 -> Pl3) (p : Pl3) (l : List Int) (k : Nat) : imC f p l (k + 1) = imC f p l k ++ [pl3 (imA f p l (k + 1))] := by
 unfold imC
 rw [List.range_succ,List.map_append]
 rfl
theorem Zzy {h : Hal} {s : Stg} (g : Sit h s) {i : Int} (hi : SK h i) : (Ze h s i).1 <= 2 -> (-5000 <= (Ze h s i).2 /\ (Ze h s i).2 <= 5000) := by
 have ht := g.fine.ht
 cases hi with
 | wall k hk =>
  have hk2 : k < h.cs.length := by have := g.fine.le; omega
  obtain ⟨n,sx,sy,hs⟩ := g.fine.st k hk2
  rw [Zaz hk,Zmh hs]
  have := hs.b1
  have := hs.b2
  repeat' split
  all_goals (dsimp only; omega)
 | floor => rw [Zbj]; dsimp only; omega
 | ceil => rw [Zcm]; dsimp only; omega
 | can j hj =>
  rw [Zee]
  have := Zsk g hj
  dsimp only; omega
def Near (m : Int) (p : Pl3) : Prop := (-m <= p.1 /\ p.1 <= m) /\ (-m <= p.2.1 /\ p.2.1 <= m) /\ (-m <= p.2.2 /\ p.2.2 <= m)
theorem Zbm {h : Hal} {s : Stg} (g : Sit h s) {i : Int} (hi : SK h i) {m : Int} (hm : m <= 35000) {p : Pl3} (hp : Near m p) : Near (m + 10000) (im1 h s i p) /\ Vn (Ze h s i).1 (Ze h s i).2 p.1 p.2.1 p.2.2 = 0 /\ mirP (Ze h s i).1 (Ze h s i).2 p.1 p.2.1 p.2.2 = im1 h s i p := by
 have b := Zcl g hi
 have b2 := Zzy g hi
 obtain ⟨x,y,z⟩ := p
 obtain ⟨hx,hy,hz⟩ := hp
 dsimp only at hx hy hz
 unfold im1
 generalize (Ze h s i).1 = k at *
 generalize (Ze h s i).2 = a at *
 have key : Near (m + 10000) (rmir k a x y z) := by
  unfold rmir Near
  have w2 : IntKind.i64.wrap (2 * a) = 2 * a := W_eq (by omega) (by omega)
  by_cases k0 : k = 0
  ·subst k0; have := b2 (by omega); simp only [if_pos]; rw [w2,W_eq (by omega) (by omega)]; omega
  by_cases k1 : k = 1
  ·subst k1; have := b2 (by omega); simp; rw [w2,W_eq (by omega) (by omega)]; omega
  by_cases k2 : k = 2
  ·subst k2; have := b2 (by omega); simp; rw [w2,W_eq (by omega) (by omega)]; omega
  by_cases k3 : k = 3
  ·subst k3; simp; rw [W_eq (by omega) (by omega),W_eq (by omega) (by omega)]; omega
  have k4 : k = 4 := by omega
  subst k4; simp; rw [W_eq (by omega) (by omega),W_eq (by omega) (by omega)]; omega
 have e := Ztt b.1 b.2 (x := x) (y := y) (z := z) (by omega) (by omega) (by omega) (u := (rmir k a x y z).1) (v := (rmir k a x y z).2.1) (w := (rmir k a x y z).2.2) rfl
  (by have := key.1; omega) (by have := key.2.1; omega) (by have := key.2.2; omega)
 refine ⟨key,by rw [Zn2]; exact e,?_⟩
 rw [Yd4]
 unfold Ydm
 rw [if_pos e]
theorem Zmq {h : Hal} {s : Stg} (g : Sit h s) {p : Pl3} (hp : Near 5000 p) {l : List Int} (hl : l.length <= 4) (hi : ∀ n ∈ l,SK h n) : ∀ k,k <= l.length -> Near (5000 + 10000 * k) (imA (im1 h s) p l k)
 | 0,_ => by simpa [imA] using hp
 | k + 1,hk => by
  rw [Zsj _ _ (by omega)]
  have := (Zbm g (hi l[k] (List.getElem_mem _)) (m := 5000 + 10000 * k) (by omega) (Zmq g hp hl hi k (by omega))).1
  rw [show (5000 : Int) + 10000 * ((k + 1 : Nat) : Int) = 5000 + 10000 * k + 10000 by omega]
  exact this
theorem Yf0 {pt : PC} (h : PCOK Tryz.prog pt) : PCOK Tryz.prog (ins 137 r32 pt) := Zj (fun a res h => by unfold r32 at h; split at h <;> cases h; exact c32 _ _ _ _ _) h
noncomputable abbrev plT (h : Hal) (s : Stg) : List AV -> Option PRes := famA (fun i : Int => 0 <= i /\ i < nsur h) (fun i => [h.av,s.av,I i]) (fun i => ⟨.tup [P2 (Ze h s i).1 (Ze h s i).2,I 0],[]⟩)
theorem Yf5 {h : Hal} (hk : h.ok) {s : Stg} (hs : s.few) (h0 : serr h s = 0) {pt : PC} (hp : PCOK Tryz.prog pt) : PCOK Tryz.prog (ins 136 (plT h s) pt) :=
 Yr (fun i hi => by
  have e : surE h s i = 0 := by
   unfold surE
   rw [if_pos h0,if_pos (within_iff.2 (by omega))]
  have e2 : Zhx h s i = Ze h s i := by unfold Zhx; rw [if_pos e]
  have := c54 hk hs i
  rw [e,e2] at this
  exact this) hp
theorem Ydw {h : Hal} {s : Stg} {i : Int} (hi : 0 <= i /\ i < nsur h) : plT h s [h.av,s.av,I i] = some ⟨.tup [P2 (Ze h s i).1 (Ze h s i).2,I 0],[]⟩ :=
 Ya (p := fun i : Int => 0 <= i /\ i < nsur h) (g := fun i => [h.av,s.av,I i]) (r := fun i => ⟨.tup [P2 (Ze h s i).1 (Ze h s i).2,I 0],[]⟩) (fun j hj => by
  simp only [List.cons.injEq,AV.int.injEq,true_and,and_true] at hj
  rw [hj]) hi
set_option maxRecDepth 100000 in
set_option maxHeartbeats 8000000 in
theorem d82 {h : Hal} (hk : h.ok) {s : Stg} (hs : s.few) (h0 : serr h s = 0) {p : Pl3} (hp : Near 5000 p) {l : List Int} (hl : l.length <= 4) (hi : ∀ n ∈ l,0 <= n /\ n < nsur h) :
  PCall Tryz.prog 82 [.agg (stgL h s),P3 p.1 p.2.1 p.2.2,.isl 1 (nl l)] ⟨.asl 0 0 (l.length + 1),[(3,imC (im1 h s) p l l.length)]⟩ := by
 have g := Zk2 hk hs h0
 have hkk := Yf5 hk hs h0 (Yf0 Zd)
 have ll := Zl l
 refine bs.pv (sx := nos) hkk Tryz.func82 (by kernel_rfl) (by kernel_rfl) rfl ?_
 refine Yc (S := Nat × Int × Nat × List (List AV)) (fun t => l.length - t.1) (fun t => [(3,.ptr 0 0 0),(7,.asl (nm2 2 3 t.1) 0 t.2.2.1),(16,.isl 1 (nl l)),(17,I (nl l).length),(18,I t.2.1)]) (fun t => [(nm2 2 3 t.1,.row 3 t.2.2.2 true true),(0,.row 11 [stgL h s] true false)]) 3 4
  (fun t => t.2.1 = t.1 /\ t.1 <= l.length /\ t.2.2.1 = t.2.2.2.length /\ t.2.2.2 = imC (im1 h s) p l t.1) (0,0,1,[pl3 p]) ⟨rfl,Nat.zero_le _,rfl,rfl⟩ (Nat.le_refl _) [] rfl (kps) (kps) ?_
 rintro ⟨k,i,len,els⟩ ⟨hi',hk',hlen,hels⟩
 dsimp only at hi' hk' hlen hels ⊢
 subst hi'
 refine bs.av (sx := nos) hkk ?_
 have e1 : els.length = k + 1 := by rw [hels,Zjo]
 have e2 : els[0 + (IntKind.i64.wrap ((len : Int) - 1)).toNat]? = some (pl3 (imA (im1 h s) p l k)) := by
  rw [Nat.zero_add,hlen,e1,W_eq (by omega) (by omega),show (((k + 1 : Nat) : Int) - 1).toNat = k by omega,hels,Zmp]
 have e8 : IntKind.i64.wrap ((len : Int) - 1) = k := by rw [hlen,e1,W_eq (by omega) (by omega)]; omega
 have hnr := Zmq g hp hl (fun n hn => Zmb (hi n hn).1 (hi n hn).2) k hk'
 by_cases hlt : k < l.length
 ·have e3 : (nl l)[((k : Nat) : Int).toNat]? = some [I l[k]] := by simp [nl,hlt]
  have hin := hi l[k] (List.getElem_mem _)
  have e4 := Ydw (s := s) hin
  have e5 := Zbm g (Zmb hin.1 hin.2) (by omega) hnr
  have e6 := Zsj (im1 h s) p hlt
  have e7 := Yai (im1 h s) p l k
  rw [<-hels,e6] at e7
  rw [<-e5.2.2] at e7
  clear e6 hels
  generalize imA (im1 h s) p l k = q at *
  generalize l[k] = n at *
  cases k with
  | zero =>
   repeat' (first | refine wk3 ?_ | (refine wk2 ?_ ?_ <;> intro _) | refine wk4 ?_ | fail); all_goals (conv => whnf)
   exact Done.mk ⟨(1,_,_,_),[(3,20)],rfl,kps,kps,⟨Zk (k := 0) (by omega),hlt,by exact List.length_append.symm,e7.symm⟩,by dsimp only; omega⟩
  | succ k =>
   repeat' (first | refine wk3 ?_ | (refine wk2 ?_ ?_ <;> intro _) | refine wk4 ?_ | fail); all_goals (conv => whnf)
   exact Done.mk ⟨(k + 1 + 1,_,_,_),[(3,20)],rfl,kps,kps,⟨Zk (k := k + 1) (by omega),hlt,by exact List.length_append.symm,e7.symm⟩,by dsimp only; omega⟩
 ·have ek : k = l.length := by omega
  subst ek
  rw [hels]
  rw [hels,Zjo] at hlen
  subst hlen
  cases l with
  | nil =>
   repeat' (first | refine wk3 ?_ | (refine wk2 ?_ ?_ <;> intro _) | refine wk4 ?_ | fail); all_goals (conv => whnf)
   exact Xb [2] rfl rfl rfl
  | cons a l =>
   repeat' (first | refine wk3 ?_ | (refine wk2 ?_ ?_ <;> intro _) | refine wk4 ?_ | fail); all_goals (conv => whnf)
   exact Xb [3] rfl rfl rfl
structure Ask where
 fx : Int
 fy : Int
 fz : Int
 tx : Int
 ty : Int
 tz : Int
 n : Int
abbrev Ask.av (a : Ask) : AV := .agg [I a.fx,I a.fy,I a.fz,I a.tx,I a.ty,I a.tz,I a.n]
def Ask.same (a : Ask) : Bool := decide (a.fx = a.tx) && (decide (a.fy = a.ty) && decide (a.fz = a.tz))
def askE (h : Hal) (s : Stg) (a : Ask) : Int := if serr h s = 0 then fstL [plaE h a.fx a.fy a.fz,plaE h a.tx a.ty a.tz,unl (!a.same) 11,unl (within a.n 0 4) 2] else serr h s
theorem Zfz {h : Hal} {s : Stg} (e : serr h s = 0) : h.err = 0 := by
 unfold serr at e
 split at e
 ·assumption
 ·rename_i q; exact absurd e q
def r80 : List AV -> Option PRes
 | [.bool b,.int .i64 e] => some ⟨I (unl b e),[]⟩
 | _ => none
theorem Yfy {pt : PC} (h : PCOK Tryz.prog pt) : PCOK Tryz.prog (ins 80 r80 pt) := Zj (fun a res h => by unfold r80 at h; split at h <;> cases h; exact d209 _ _) h
noncomputable abbrev r79 (h : Hal) : List AV -> Option PRes := famA (fun _ : Pl3 => True) (fun p => [h.av,P3 p.1 p.2.1 p.2.2]) (fun p => ⟨I (plaE h p.1 p.2.1 p.2.2),[]⟩)
theorem Yfz {h : Hal} (hk : h.ok) (he : h.err = 0) {pt : PC} (hp : PCOK Tryz.prog pt) : PCOK Tryz.prog (ins 79 (r79 h) pt) := Yr (fun p _ => d79 hk he p.1 p.2.1 p.2.2) hp
theorem Zmg (h : Hal) (x y z : Int) : r79 h [h.av,P3 x y z] = some ⟨I (plaE h x y z),[]⟩ :=
 Ya (p := fun _ : Pl3 => True) (g := fun p => [h.av,P3 p.1 p.2.1 p.2.2]) (r := fun p => ⟨I (plaE h p.1 p.2.1 p.2.2),[]⟩) (k := (x,y,z)) (fun j hj => by
  simp only [List.cons.injEq,AV.agg.injEq,AV.int.injEq,true_and,and_true] at hj
  obtain ⟨h1,h2,h3⟩ := hj
  rw [h1,h2,h3]) trivial
theorem Yf1 {h : Hal} (hk : h.ok) (he : h.err = 0) {pt : PC} (hp : PCOK Tryz.prog pt) : PCOK Tryz.prog (ins 27 (r79 h) pt) := Yr (fun p _ => d27 hk he p.1 p.2.1 p.2.2) hp
noncomputable abbrev rFst : List AV -> Option PRes := famA (fun l : List Int => l.length < 1000) (fun l => [.isl 1 (nl l)]) (fun l => ⟨I (fstL l),[]⟩)
theorem Yds {pt : PC} (hp : PCOK Tryz.prog pt) : PCOK Tryz.prog (ins 78 rFst pt) := Yr (fun l hl => d78 hl) hp
theorem Zzs {l : List Int} (h : l.length < 1000) : rFst [.isl 1 (nl l)] = some ⟨I (fstL l),[]⟩ :=
 Ya (p := fun l : List Int => l.length < 1000) (g := fun l => [.isl 1 (nl l)]) (r := fun l => ⟨I (fstL l),[]⟩) (fun j hj => by
  simp only [List.cons.injEq,AV.isl.injEq,true_and,and_true] at hj
  rw [Zja hj]) h
set_option maxRecDepth 100000 in
set_option maxHeartbeats 8000000 in
theorem d24 {h : Hal} (hk : h.ok) {s : Stg} (hs : s.few) (a : Ask) : PCall Tryz.prog 24 [h.av,s.av,a.av] ⟨I (askE h s a),[]⟩ := by
 have hk0 := Zf (c47 hk hs) Zd
 by_cases e : serr h s = 0
 ·have he := Zfz e
  obtain ⟨fx,fy,fz,tx,ty,tz,n⟩ := a
  unfold askE
  rw [if_pos e]
  rw [e] at hk0
  dsimp only
  have hk1 := Yfz hk he (Yfy (Zf (d81 n) (Yds hk0)))
  have q1 := Zmg h fx fy fz
  have q2 := Zmg h tx ty tz
  refine bs.pv (sx := nos) hk1 Tryz.func24 (by kernel_rfl) (by kernel_rfl) rfl ?_
  repeat' (first | refine wk3 ?_ | (refine wk2 ?_ ?_ <;> intro _) | refine wk4 ?_ | fail); all_goals (conv => whnf)
  refine wxG (Zzs (l := [_,_,_,_]) (by simp)) ?_
  conv => whnf
  repeat' (first | refine wk3 ?_ | (refine wk2 ?_ ?_ <;> intro _) | refine wk4 ?_ | fail); all_goals (conv => whnf)
  exact Za (by simp [Ask.same])
 ·rw [show askE h s a = serr h s by unfold askE; rw [if_neg e]]
  refine bs.pv (sx := nos) hk0 Tryz.func24 (by kernel_rfl) (by kernel_rfl) rfl ?_
  repeat' (first | refine wk3 ?_ | (refine wk2 ?_ ?_ <;> intro _) | refine wk4 ?_ | fail); all_goals (conv => whnf)
  all_goals first
   | exact Za rfl
   | (exfalso; simp_all; done)
theorem d82f {h : Hal} (hk : h.ok) {s : Stg} (hs : s.few) (h0 : serr h s = 0) {p : Pl3} (hp : Near 5000 p) {l : List Int} (hl : l.length <= 4) (hi : ∀ n ∈ l,0 <= n /\ n < nsur h) :
  PCall Tryz.prog 82 [.agg (stgL h s),P3 p.1 p.2.1 p.2.2,.isl 1 (nl l)] ⟨.isl 3 (imC (im1 h s) p l l.length),[]⟩ := by
 have := d82 hk hs h0 hp hl hi
 rw [show l.length + 1 = (imC (im1 h s) p l l.length).length by rw [Zjo]] at this
 exact this.freeze ⟨rfl,rfl,rfl⟩
theorem Zrp {h : Hal} {l : List Int} (e : suE h l = 0) : l.length <= 4 /\ ∀ n ∈ l,0 <= n /\ n < nsur h := by
 unfold suE at e
 split at e
 ·cases e
 ·exact ⟨by omega,fun n hn => by have := Ybi e n hn; omega⟩
theorem Zf5 {h : Hal} {x y z : Int} (e : plaE h x y z = 0) : Near 5000 (x,y,z) /\ Zag h ⟨x,y,z,1⟩ = true := by
 unfold plaE at e
 split at e
 ·rename_i c
  simp only [plcB,Bool.and_eq_true,within_iff] at c
  refine ⟨⟨by dsimp only; omega,by dsimp only; omega,by dsimp only; omega⟩,?_⟩
  unfold unl at e
  cases hb : Zag h ⟨x,y,z,1⟩ with
  | true => rfl
  | false => rw [hb] at e; cases e
 ·cases e
def atW (c : Int × Int) (l m : Int) : Int := l * c.1 + m * c.2
def Zoc (cs : List (Int × Int)) : Prop := ∃ l m : Int,0 < l /\ 0 < m /\ ∀ c ∈ cs,0 <= atW c l m
theorem Yha {l0 m0 : Int} (h1 : 0 < l0) (h2 : 0 < m0) {l m : Int} (hl : 0 < l) (hm : 0 < m) : ∀ cs : List (Int × Int),(∀ c ∈ cs,0 <= atW c l m) -> ∃ a b : Int,0 < a /\ 0 < b /\ (∀ c ∈ cs,0 <= atW c a b) /\ ((a = l0 /\ b = m0) \/ ∃ c ∈ cs,atW c a b = 0)
 | [],_ => ⟨l0,m0,h1,h2,by simp,.inl ⟨rfl,rfl⟩⟩
 | c :: cs,h => by
  obtain ⟨a,b,ha,hb,k1,k2⟩ := Yha h1 h2 hl hm cs fun c' hc => h c' (by simp [hc])
  have hT := h c (by simp)
  by_cases hc : 0 <= atW c a b
  ·refine ⟨a,b,ha,hb,fun c' hc' => ?_,?_⟩
   ·rcases List.mem_cons.1 hc' with rfl | hc'
    ·exact hc
    ·exact k1 c' hc'
   ·rcases k2 with k2 | ⟨c',g1,g2⟩
    ·exact .inl k2
    ·exact .inr ⟨c',by simp [g1],g2⟩
  ·have hN : 0 < -atW c a b := by omega
   have comb : ∀ c' : Int × Int,atW c' (-atW c a b * l + atW c l m * a) (-atW c a b * m + atW c l m * b) = -atW c a b * atW c' l m + atW c l m * atW c' a b := by
    intro c'
    generalize atW c a b = N
    generalize atW c l m = T
    unfold atW; grind
   refine ⟨-atW c a b * l + atW c l m * a,-atW c a b * m + atW c l m * b,?_,?_,fun c' hc' => ?_,.inr ⟨c,by simp,?_⟩⟩
   ·have := Int.mul_pos hN hl
    have := Int.mul_nonneg hT (Int.le_of_lt ha)
    omega
   ·have := Int.mul_pos hN hm
    have := Int.mul_nonneg hT (Int.le_of_lt hb)
    omega
   ·rw [comb]
    rcases List.mem_cons.1 hc' with rfl | hc'
    ·have : -atW c' a b * atW c' l m + atW c' l m * atW c' a b = 0 := by grind
     omega
    ·have := Int.mul_nonneg (Int.le_of_lt hN) (h c' (by simp [hc']))
     have := Int.mul_nonneg hT (k1 c' hc')
     omega
   ·rw [comb]; grind
def rcN (r : Rc) (p q : P2d) : List (Int × Int) := [(p.x - r.xl * p.d,q.x - r.xl * q.d),(r.xh * p.d - p.x,r.xh * q.d - q.x),(p.y - r.yl * p.d,q.y - r.yl * q.d),(r.yh * p.d - p.y,r.yh * q.d - q.y)]
def edgP (r : Rc) : List Wl := [⟨0,r.xl,r.yl,r.xh,r.yl⟩,⟨0,r.xh,r.yl,r.xh,r.yh⟩,⟨0,r.xh,r.yh,r.xl,r.yh⟩,⟨0,r.xl,r.yh,r.xl,r.yl⟩]
def midX (p q : Pt) : Int := IntKind.i64.wrap (IntKind.i64.wrap (p.x * q.d) + IntKind.i64.wrap (q.x * p.d))
def midY (p q : Pt) : Int := IntKind.i64.wrap (IntKind.i64.wrap (p.y * q.d) + IntKind.i64.wrap (q.y * p.d))
def midD (p q : Pt) : Int := IntKind.i64.wrap (IntKind.i64.wrap (2 * p.d) * q.d)
def Zum (r : Rc) (p q : Pt) : Bool := r.has (midX p q) (midY p q) (midD p q) || (edgP r).any (touP p q) || (r.holds p.x p.y p.d || r.holds q.x q.y q.d)
theorem Zwk {p q : Pt} (hp : PtR p) (hq : PtR q) : midX p q = p.x * q.d + q.x * p.d /\ midY p q = p.y * q.d + q.y * p.d /\ midD p q = 2 * p.d * q.d := by
 obtain ⟨a1,a2,a3,a4⟩ := hp
 obtain ⟨b1,b2,b3,b4⟩ := hq
 have m1 := Zu (a := q.x) (b := p.d) (A := 500000000) (B := 100000) (by omega) (by omega)
 have m2 := Zu (a := p.x) (b := q.d) (A := 500000000) (B := 100000) (by omega) (by omega)
 have m3 := Zu (a := q.y) (b := p.d) (A := 500000000) (B := 100000) (by omega) (by omega)
 have m4 := Zu (a := p.y) (b := q.d) (A := 500000000) (B := 100000) (by omega) (by omega)
 have m5 := Zu (a := 2 * p.d) (b := q.d) (A := 200000) (B := 100000) (by omega) (by omega)
 unfold midX midY midD
 rw [W_eq (n := q.x * p.d) (by omega) (by omega),W_eq (n := p.x * q.d) (by omega) (by omega),W_eq (n := q.y * p.d) (by omega) (by omega),W_eq (n := p.y * q.d) (by omega) (by omega),W_eq (n := 2 * p.d) (by omega) (by omega)]
 exact ⟨W_eq (by omega) (by omega),W_eq (by omega) (by omega),W_eq (by omega) (by omega)⟩
theorem Ye2 {r : Rc} (hr : RcOk r) : Str ⟨0,r.xl,r.yl,r.xh,r.yl⟩ (r.xh - r.xl) 1 0 /\ Str ⟨0,r.xh,r.yl,r.xh,r.yh⟩ (r.yh - r.yl) 0 1 /\ Str ⟨0,r.xh,r.yh,r.xl,r.yh⟩ (r.xh - r.xl) (-1) 0 /\ Str ⟨0,r.xl,r.yh,r.xl,r.yl⟩ (r.yh - r.yl) 0 (-1) := by
 obtain ⟨h1,h2,h3,h4,h5,h6⟩ := hr
 refine ⟨⟨?_,?_,?_,?_,?_,?_,?_,?_,?_,?_⟩,⟨?_,?_,?_,?_,?_,?_,?_,?_,?_,?_⟩,⟨?_,?_,?_,?_,?_,?_,?_,?_,?_,?_⟩,⟨?_,?_,?_,?_,?_,?_,?_,?_,?_,?_⟩⟩ <;> (try dsimp only) <;> omega
theorem rcN_mem {r : Rc} {p q : P2d} {l m : Int} : (∀ c ∈ rcN r p q,0 <= atW c l m) ↔ 0 <= l * (p.x - r.xl * p.d) + m * (q.x - r.xl * q.d) /\ 0 <= l * (r.xh * p.d - p.x) + m * (r.xh * q.d - q.x) /\ 0 <= l * (p.y - r.yl * p.d) + m * (q.y - r.yl * q.d) /\ 0 <= l * (r.yh * p.d - p.y) + m * (r.yh * q.d - q.y) := by
 simp [rcN,atW]
theorem Zxy {r : Rc} (hr : RcOk r) {p q : P2d} (h1 : 0 < p.d) (h2 : 0 < q.d) (l m : Int) (hl : 0 < l) (hm : 0 < m) :
  ((∀ c ∈ rcN r p q,0 <= atW c l m) /\ ∃ c ∈ rcN r p q,atW c l m = 0) -> (Uc ⟨0,r.xl,r.yl,r.xh,r.yl⟩ (r.xh - r.xl) 1 0 p q \/ Uc ⟨0,r.xh,r.yl,r.xh,r.yh⟩ (r.yh - r.yl) 0 1 p q \/ Uc ⟨0,r.xh,r.yh,r.xl,r.yh⟩ (r.xh - r.xl) (-1) 0 p q \/ Uc ⟨0,r.xl,r.yh,r.xl,r.yl⟩ (r.yh - r.yl) 0 (-1) p q) := by
 rintro ⟨h,c,hc,h0⟩
 rw [rcN_mem] at h
 obtain ⟨k1,k2,k3,k4⟩ := h
 have e1 : l * (r.xh * p.d - p.x) + m * (r.xh * q.d - q.x) = (r.xh - r.xl) * (l * p.d + m * q.d) - (l * (p.x - r.xl * p.d) + m * (q.x - r.xl * q.d)) := by grind
 have e2 : l * (r.yh * p.d - p.y) + m * (r.yh * q.d - q.y) = (r.yh - r.yl) * (l * p.d + m * q.d) - (l * (p.y - r.yl * p.d) + m * (q.y - r.yl * q.d)) := by grind
 unfold Uc bsP alP ful bes alo
 dsimp only
 simp only [rcN,List.mem_cons,List.not_mem_nil,or_false] at hc
 rcases hc with rfl | rfl | rfl | rfl <;> unfold atW at h0 <;> dsimp only at h0
 ·refine .inr (.inr (.inr ⟨l,m,hl,hm,?_,?_,?_⟩))
  ·grind
  ·grind
  ·grind
 ·refine .inr (.inl ⟨l,m,hl,hm,?_,?_,?_⟩)
  ·grind
  ·grind
  ·grind
 ·refine .inl ⟨l,m,hl,hm,?_,?_,?_⟩
  ·grind
  ·grind
  ·grind
 ·refine .inr (.inr (.inl ⟨l,m,hl,hm,?_,?_,?_⟩))
  ·grind
  ·grind
  ·grind
theorem Zwl {r : Rc} (hr : RcOk r) {p q : P2d} (h1 : 0 < p.d) (h2 : 0 < q.d) (h : Uc ⟨0,r.xl,r.yl,r.xh,r.yl⟩ (r.xh - r.xl) 1 0 p q \/ Uc ⟨0,r.xh,r.yl,r.xh,r.yh⟩ (r.yh - r.yl) 0 1 p q \/ Uc ⟨0,r.xh,r.yh,r.xl,r.yh⟩ (r.xh - r.xl) (-1) 0 p q \/ Uc ⟨0,r.xl,r.yh,r.xl,r.yl⟩ (r.yh - r.yl) 0 (-1) p q) : Zoc (rcN r p q) := by
 have key : ∀ l m : Int,0 < l -> 0 < m -> 0 <= (r.xh - r.xl) * (l * p.d + m * q.d) /\ 0 <= (r.yh - r.yl) * (l * p.d + m * q.d) := by
  intro l m hl hm
  have k1 := Int.mul_pos hl h1
  have k2 := Int.mul_pos hm h2
  have := hr.x
  have := hr.y
  exact ⟨Int.mul_nonneg (by omega) (by omega),Int.mul_nonneg (by omega) (by omega)⟩
 unfold Uc bsP alP ful bes alo at h
 dsimp only at h
 unfold Zoc
 rcases h with ⟨l,m,hl,hm,k1,k2,k3⟩ | ⟨l,m,hl,hm,k1,k2,k3⟩ | ⟨l,m,hl,hm,k1,k2,k3⟩ | ⟨l,m,hl,hm,k1,k2,k3⟩ <;> refine ⟨l,m,hl,hm,rcN_mem.2 ?_⟩ <;> obtain ⟨g1,g2⟩ := key l m hl hm <;> refine ⟨?_,?_,?_,?_⟩ <;> grind
theorem Zx7 {r : Rc} (hr : RcOk r) {p q : Pt} (hp : PtR p) (hq : PtR q) : Zum r p q = true ↔ Zoc (rcN r p.pl q.pl) := by
 obtain ⟨e1,e2,e3⟩ := Zwk hp hq
 obtain ⟨s1,s2,s3,s4⟩ := Ye2 hr
 have dp := hp.d0
 have dq := hq.d0
 have dp1 := hp.d1
 have dq1 := hq.d1
 have hD := Int.mul_pos (show 0 < 2 * p.d by omega) dq
 have hD2 := (Zu (a := 2 * p.d) (b := q.d) (A := 200000) (B := 100000) (by omega) (by omega)).2
 unfold Zum
 rw [e1,e2,e3,Bool.or_eq_true,Bool.or_eq_true,Bool.or_eq_true,Zrx hr ⟨hD,by omega⟩,Zed hr ⟨dp,by omega⟩,Zed hr ⟨dq,by omega⟩]
 have ea : (edgP r).any (touP p q) = true ↔ (Uc ⟨0,r.xl,r.yl,r.xh,r.yl⟩ (r.xh - r.xl) 1 0 p.pl q.pl \/ Uc ⟨0,r.xh,r.yl,r.xh,r.yh⟩ (r.yh - r.yl) 0 1 p.pl q.pl \/ Uc ⟨0,r.xh,r.yh,r.xl,r.yh⟩ (r.xh - r.xl) (-1) 0 p.pl q.pl \/ Uc ⟨0,r.xl,r.yh,r.xl,r.yl⟩ (r.yh - r.yl) 0 (-1) p.pl q.pl) := by
  simp only [edgP,List.any_cons,List.any_nil,Bool.or_false,Bool.or_eq_true]
  rw [Zec s1 hp hq,Zec s2 hp hq,Zec s3 hp hq,Zec s4 hp hq]
 rw [ea]
 have mm : (0 <= p.x * q.d + q.x * p.d - r.xl * (2 * p.d * q.d) /\ 0 <= r.xh * (2 * p.d * q.d) - (p.x * q.d + q.x * p.d) /\ 0 <= p.y * q.d + q.y * p.d - r.yl * (2 * p.d * q.d) /\ 0 <= r.yh * (2 * p.d * q.d) - (p.y * q.d + q.y * p.d)) ↔ ∀ c ∈ rcN r p.pl q.pl,0 <= atW c q.d p.d := by
  rw [rcN_mem]
  unfold Pt.pl
  dsimp only
  have k1 : q.d * (p.x - r.xl * p.d) + p.d * (q.x - r.xl * q.d) = p.x * q.d + q.x * p.d - r.xl * (2 * p.d * q.d) := by grind
  have k2 : q.d * (r.xh * p.d - p.x) + p.d * (r.xh * q.d - q.x) = r.xh * (2 * p.d * q.d) - (p.x * q.d + q.x * p.d) := by grind
  have k3 : q.d * (p.y - r.yl * p.d) + p.d * (q.y - r.yl * q.d) = p.y * q.d + q.y * p.d - r.yl * (2 * p.d * q.d) := by grind
  have k4 : q.d * (r.yh * p.d - p.y) + p.d * (r.yh * q.d - q.y) = r.yh * (2 * p.d * q.d) - (p.y * q.d + q.y * p.d) := by grind
  rw [k1,k2,k3,k4]
 rw [mm]
 have big : ∀ a b : Int,0 < a -> 0 <= (b.natAbs + 1 : Int) * a + b := fun a b ha => by
  have := Int.mul_le_mul_of_nonneg_left (show 1 <= a by omega) (show (0 : Int) <= (b.natAbs : Int) + 1 by omega)
  omega
 have holdsIn : ∀ p q : P2d,(0 < p.x - r.xl * p.d /\ 0 < r.xh * p.d - p.x /\ 0 < p.y - r.yl * p.d /\ 0 < r.yh * p.d - p.y) -> ∃ N : Int,0 < N /\ 0 <= N * (p.x - r.xl * p.d) + 1 * (q.x - r.xl * q.d) /\ 0 <= N * (r.xh * p.d - p.x) + 1 * (r.xh * q.d - q.x) /\ 0 <= N * (p.y - r.yl * p.d) + 1 * (q.y - r.yl * q.d) /\ 0 <= N * (r.yh * p.d - p.y) + 1 * (r.yh * q.d - q.y) := by
  rintro p q ⟨h1,h2,h3,h4⟩
  have mono : ∀ a b N : Int,0 < a -> (b.natAbs : Int) <= N -> 0 <= N * a + 1 * b := fun a b N ha hN => by
   have := Int.mul_le_mul_of_nonneg_left (show 1 <= a by omega) (show 0 <= N by omega)
   omega
  refine ⟨((q.x - r.xl * q.d).natAbs : Int) + (r.xh * q.d - q.x).natAbs + (q.y - r.yl * q.d).natAbs + (r.yh * q.d - q.y).natAbs + 1,by omega,mono _ _ _ h1 (by omega),mono _ _ _ h2 (by omega),mono _ _ _ h3 (by omega),mono _ _ _ h4 (by omega)⟩
 constructor
 ·rintro ((h | h) | h | h)
  ·exact ⟨q.d,p.d,dq,dp,h⟩
  ·exact Zwl hr dp dq h
  ·obtain ⟨N,h0,h1,h2,h3,h4⟩ := holdsIn p.pl q.pl h
   exact ⟨N,1,h0,by omega,rcN_mem.2 ⟨h1,h2,h3,h4⟩⟩
  ·obtain ⟨N,h0,h1,h2,h3,h4⟩ := holdsIn q.pl p.pl h
   exact ⟨1,N,by omega,h0,rcN_mem.2 ⟨by omega,by omega,by omega,by omega⟩⟩
 ·rintro ⟨l,m,hl,hm,h⟩
  obtain ⟨a,b,ha,hb,k1,k2⟩ := Yha (l0 := q.d) (m0 := p.d) dq dp hl hm _ h
  rcases k2 with ⟨rfl,rfl⟩ | k2
  ·exact .inl (.inl k1)
  ·exact .inl (.inr (Zxy hr dp dq a b ha hb ⟨k1,k2⟩))
end Go.Proofs.YtdaliaafmcjikaaGreat
