/- A part of the proof: lemmas. -/
import Derived.Test.YtdaliaafmcjikaaGreatV12
import Derived.Test.YtdaliaafmcjikaaGreatV11
import Derived.Test.YtdaliaafmcjikaaGreatV7
import Derived.Test.YtdaliaafmcjikaaGreatV6
import Derived.Laws.Bits64b
import Derived.Lib.Mul64
set_option linter.unusedVariables false
set_option linter.unusedSimpArgs false
namespace Go.Proofs.YtdaliaafmcjikaaGreat
open Go Go.Sx
structure PtH (p : Pt) : Prop where
 r : PtR p
 z : -(5000 * p.d) <= p.z /\ p.z <= 5000 * p.d
theorem Yb0 {p : Pt} (h : Yv p = 0) : PtH p := by
 obtain ⟨h1,h2,_,h4⟩ := Zby h
 unfold ptIn at h4
 simp only [Bool.and_eq_true,within_iff] at h4
 exact ⟨⟨h1,h2,h4.1.1,h4.1.2⟩,h4.2⟩
def zOff (ht : Int) (p : Pt) : Int := IntKind.i64.wrap (p.z - IntKind.i64.wrap (ht * p.d))
theorem Zlw {ht : Int} (hh : 0 <= ht /\ ht <= 5000) {p : Pt} (hp : PtH p) : zOff ht p = p.z - ht * p.d /\ IntKind.i64.wrap (ht * p.d) = ht * p.d /\ (-1000000000 <= p.z - ht * p.d /\ p.z - ht * p.d <= 1000000000) := by
 obtain ⟨⟨a1,a2,_,_⟩,a5⟩ := hp
 have c1 := Zh (f := ht) (d := p.d) (by omega) a1
 unfold zOff
 rw [W_eq (n := ht * p.d) (by omega) (by omega)]
 exact ⟨W_eq (by omega) (by omega),rfl,by omega⟩
def blkS (r : Rc) (ht : Int) (p q : Pt) : Prop := ∃ l m : Int,0 < l /\ 0 < m /\ l * (p.z - ht * p.d) + m * (q.z - ht * q.d) = 0 /\ ∀ c ∈ rcN r p.pl q.pl,0 <= atW c l m
theorem Zyl {r : Rc} {ht : Int} {p q : Pt} (h1 : p.z - ht * p.d = 0) (h2 : q.z - ht * q.d = 0) : blkS r ht p q ↔ Zoc (rcN r p.pl q.pl) := by
 unfold blkS Zoc
 rw [h1,h2]
 exact ⟨fun ⟨l,m,a,b,_,c⟩ => ⟨l,m,a,b,c⟩,fun ⟨l,m,a,b,c⟩ => ⟨l,m,a,b,by omega,c⟩⟩
theorem Zyk {r : Rc} {ht : Int} {p q : Pt} (h0 : ¬(p.z - ht * p.d = 0 /\ q.z - ht * q.d = 0)) (h1 : 0 <= sgn (p.z - ht * p.d) * sgn (q.z - ht * q.d)) : ¬ blkS r ht p q := by
 rintro ⟨l,m,hl,hm,e,_⟩
 have hs : ¬ (sgn (p.z - ht * p.d) * sgn (q.z - ht * q.d) < 0) := by omega
 rw [sgn_mul_neg] at hs
 generalize p.z - ht * p.d = a at *
 generalize q.z - ht * q.d = b at *
 by_cases ha : 0 < a
 ·have := (Zdr hl).2 ha
  have := (nn_l hm).2 (show 0 <= b by omega)
  omega
 by_cases hb : a < 0
 ·have := (Zf7 hl).2 hb
  have := (np_l hm).2 (show b <= 0 by omega)
  omega
 have : a = 0 := by omega
 subst this
 have : m * b ≠ 0 := Int.mul_ne_zero (by omega) (by omega)
 omega
theorem blkS_swap {r : Rc} {ht : Int} {p q : Pt} : blkS r ht p q ↔ blkS r ht q p := by
 have key : ∀ p q,blkS r ht p q -> blkS r ht q p := by
  rintro p q ⟨l,m,h1,h2,h3,h4⟩
  refine ⟨m,l,h2,h1,by omega,?_⟩
  rw [rcN_mem] at h4 ⊢
  omega
 exact ⟨key _ _,key _ _⟩
theorem Zls {r : Rc} {ht : Int} {p q : Pt} {f g : Int} (hf : p.z - ht * p.d = f) (hg : q.z - ht * q.d = g) (h1 : f < 0 /\ 0 < g) : blkS r ht p q ↔ ∀ c ∈ rcN r p.pl q.pl,0 <= atW c g (-f) := by
 unfold blkS
 rw [hf,hg]
 constructor
 ·rintro ⟨l,m,hl,hm,e,h⟩ c hc
  have k1 : g * atW c l m = l * atW c g (-f) := by unfold atW; grind
  have q1 := (nn_l h1.2).2 (h c hc)
  rw [k1,nn_l hl] at q1
  exact q1
 ·intro h
  exact ⟨g,-f,h1.2,by omega,by grind,h⟩
theorem Zo5 {r : Rc} (hr : RcOk r) {p q : Pt} (hp : PtR p) (hq : PtR q) {f g : Int} (h1 : f < 0 /\ 0 < g) (h2 : -1000000000 <= f /\ g <= 1000000000) : r.has (p.x * g - q.x * f) (p.y * g - q.y * f) (p.d * g - q.d * f) = true ↔ ∀ c ∈ rcN r p.pl q.pl,0 <= atW c g (-f) := by
 obtain ⟨a1,a2,a3,a4⟩ := hp
 obtain ⟨b1,b2,b3,b4⟩ := hq
 have k1 := Int.mul_pos a1 h1.2
 have k2 := Int.mul_pos b1 (show 0 < -f by omega)
 rw [Int.mul_neg] at k2
 have m1 := Zu (a := p.d) (b := g) (A := 100000) (B := 1000000000) (by omega) (by omega)
 have m2 := Zu (a := q.d) (b := f) (A := 100000) (B := 1000000000) (by omega) (by omega)
 rw [Zrx hr ⟨by omega,by omega⟩,rcN_mem]
 unfold Pt.pl
 dsimp only
 have e1 : g * (p.x - r.xl * p.d) + -f * (q.x - r.xl * q.d) = p.x * g - q.x * f - r.xl * (p.d * g - q.d * f) := by grind
 have e2 : g * (r.xh * p.d - p.x) + -f * (r.xh * q.d - q.x) = r.xh * (p.d * g - q.d * f) - (p.x * g - q.x * f) := by grind
 have e3 : g * (p.y - r.yl * p.d) + -f * (q.y - r.yl * q.d) = p.y * g - q.y * f - r.yl * (p.d * g - q.d * f) := by grind
 have e4 : g * (r.yh * p.d - p.y) + -f * (r.yh * q.d - q.y) = r.yh * (p.d * g - q.d * f) - (p.y * g - q.y * f) := by grind
 rw [e1,e2,e3,e4]
def atX (a b : Int) (u v : Int) : Int := IntKind.i64.wrap (IntKind.i64.wrap (a * u) + IntKind.i64.wrap (b * v))
def blkP (r : Rc) (ht : Int) (p q : Pt) : Bool :=
 if p.z = IntKind.i64.wrap (ht * p.d) /\ q.z = IntKind.i64.wrap (ht * q.d) then Zum r p q
 else if 0 <= IntKind.i64.wrap (sgn (zOff ht p) * sgn (zOff ht q)) then false
 else r.has (atX p.x q.x (size (zOff ht q)) (size (zOff ht p))) (atX p.y q.y (size (zOff ht q)) (size (zOff ht p))) (atX p.d q.d (size (zOff ht q)) (size (zOff ht p)))
theorem x_bd {a d f : Int} (hd : 0 < d /\ d <= 100000) (ha : -(5000 * d) <= a /\ a <= 5000 * d) (hf : -1000000000 <= f /\ f <= 1000000000) : -500000000000000000 <= a * f /\ a * f <= 500000000000000000 := by
 have := Zu (a := a) (b := f) (A := 500000000) (B := 1000000000) (by omega) (by omega)
 omega
theorem d_bd {d f : Int} (hd : 0 < d /\ d <= 100000) (hf : -1000000000 <= f /\ f <= 1000000000) : -100000000000000 <= d * f /\ d * f <= 100000000000000 := by
 have := Zu (a := d) (b := f) (A := 100000) (B := 1000000000) (by omega) (by omega)
 omega
theorem Ye5 {ht : Int} (hh : 0 <= ht /\ ht <= 5000) {p q : Pt} (hp : PtH p) (hq : PtH q) : (p.z = IntKind.i64.wrap (ht * p.d) /\ q.z = IntKind.i64.wrap (ht * q.d)) ↔ (p.z - ht * p.d = 0 /\ q.z - ht * q.d = 0) := by
 rw [(Zlw hh hp).2.1,(Zlw hh hq).2.1]; omega
theorem Ya8 {r : Rc} (hr : RcOk r) {ht : Int} (hh : 0 <= ht /\ ht <= 5000) {p q : Pt} (hp : PtH p) (hq : PtH q) : blkP r ht p q = true ↔ blkS r ht p q := by
 obtain ⟨e1,_,b1⟩ := Zlw hh hp
 obtain ⟨e2,_,b2⟩ := Zlw hh hq
 unfold blkP
 simp only [Ye5 hh hp hq]
 rw [e1,e2]
 by_cases h0 : p.z - ht * p.d = 0 /\ q.z - ht * q.d = 0
 ·rw [if_pos h0,Zyl h0.1 h0.2,Zx7 hr hp.r hq.r]
 rw [if_neg h0,Zhq]
 by_cases h1 : 0 <= sgn (p.z - ht * p.d) * sgn (q.z - ht * q.d)
 ·rw [if_pos h1]
  exact ⟨fun h => by simp at h,fun h => absurd h (Zyk h0 h1)⟩
 rw [if_neg h1]
 have h2 := sgn_mul_neg.1 (show sgn (p.z - ht * p.d) * sgn (q.z - ht * q.d) < 0 by omega)
 generalize hf : p.z - ht * p.d = f at *
 generalize hg : q.z - ht * q.d = g at *
 have hp1 := hp.r
 have hq1 := hq.r
 have x1 := x_bd (f := g) ⟨hp1.d0,hp1.d1⟩ hp1.x (by omega)
 have x2 := x_bd (f := f) ⟨hq1.d0,hq1.d1⟩ hq1.x (by omega)
 have y1 := x_bd (f := g) ⟨hp1.d0,hp1.d1⟩ hp1.y (by omega)
 have y2 := x_bd (f := f) ⟨hq1.d0,hq1.d1⟩ hq1.y (by omega)
 have d1 := d_bd (f := g) ⟨hp1.d0,hp1.d1⟩ (by omega)
 have d2 := d_bd (f := f) ⟨hq1.d0,hq1.d1⟩ (by omega)
 rcases h2 with h2 | h2
 ·have s1 : size g = g := by rw [Zcf (by omega),if_neg (by omega)]
  have s2 : size f = -f := by rw [Zcf (by omega),if_pos (by omega)]
  have ax : ∀ a b : Int,(-500000000000000000 <= a * g /\ a * g <= 500000000000000000) -> (-500000000000000000 <= b * f /\ b * f <= 500000000000000000) -> atX a b (size g) (size f) = a * g - b * f := by
   intro a b k1 k2
   unfold atX
   rw [s1,s2,Int.mul_neg,W_eq (n := a * g) (by omega) (by omega),W_eq (n := -(b * f)) (by omega) (by omega),W_eq (by omega) (by omega)]
   omega
  rw [ax _ _ x1 x2,ax _ _ y1 y2,ax _ _ (by omega) (by omega),Zo5 hr hp1 hq1 h2 (by omega),Zls hf hg h2]
 ·have s1 : size g = -g := by rw [Zcf (by omega),if_pos (by omega)]
  have s2 : size f = f := by rw [Zcf (by omega),if_neg (by omega)]
  have ax : ∀ a b : Int,(-500000000000000000 <= a * g /\ a * g <= 500000000000000000) -> (-500000000000000000 <= b * f /\ b * f <= 500000000000000000) -> atX a b (size g) (size f) = b * f - a * g := by
   intro a b k1 k2
   unfold atX
   rw [s1,s2,Int.mul_neg,W_eq (n := b * f) (by omega) (by omega),W_eq (n := -(a * g)) (by omega) (by omega),W_eq (by omega) (by omega)]
   omega
  rw [ax _ _ x1 x2,ax _ _ y1 y2,ax _ _ (by omega) (by omega),Zo5 hr hq1 hp1 (by omega) (by omega),blkS_swap,Zls hg hf (by omega)]
abbrev U (n : Int) : AV := .int .u64 n
abbrev wayA (p q : Pt) : AV := .agg [I p.x,I p.y,I p.z,I p.d,I q.x,I q.y,I q.z,I q.d]
theorem c204 (p q : Pt) : PCall Tryz.prog 287 [wayA p q] ⟨.tup [I (Zps p q),I (Zpr p q)],[]⟩ := by
 refine bs.pv (sx := nos) Zd Tryz.func287 (by kernel_rfl) (by kernel_rfl) rfl ?_
 repeat' (first | refine wk0 ?_ | (refine wk2 ?_ ?_ <;> intro _) | refine wk4 ?_ | fail); all_goals (conv => whnf)
 exact Zg rfl rfl
theorem c207 (fr den to oth a b : Int) : PCall Tryz.prog 288 [I fr,I den,I to,I oth,I a,I b] ⟨Bo (ovl fr den to oth a b),[]⟩ := by
 refine bs.pv (sx := nos) Zd Tryz.func288 (by kernel_rfl) (by kernel_rfl) rfl ?_
 repeat' (first | refine wk0 ?_ | (refine wk2 ?_ ?_ <;> intro _) | refine wk4 ?_ | fail); all_goals (conv => whnf)
 all_goals (refine Zc ?_; simp_all [ovl] <;> (intro _; omega))
theorem c182 (p q : Pt) : PCall Tryz.prog 263 [wayA p q] ⟨.tup [I (midX p q),I (midY p q),I (midD p q)],[]⟩ := by
 refine bs.pv (sx := nos) Zd Tryz.func263 (by kernel_rfl) (by kernel_rfl) rfl ?_
 repeat' (first | refine wk0 ?_ | (refine wk2 ?_ ?_ <;> intro _) | refine wk4 ?_ | fail); all_goals (conv => whnf)
 exact Zg rfl rfl
def u64 (n : Int) : Prop := 0 <= n /\ n < 18446744073709551616
theorem mkN (a : Nat) (ha : a < 18446744073709551616) : IntKind.u64.wrap (((BitVec.ofInt IntKind.u64.bits (a : Int) &&& BitVec.ofInt IntKind.u64.bits 4294967295).toNat : Nat) : Int) = ((a % 4294967296 : Nat) : Int) := by
 have h := bits_and_u64_nat a 4294967295 ha (by omega)
 have e : a &&& 4294967295 = a % 4294967296 := Nat.and_two_pow_sub_one_eq_mod a 32
 rw [e] at h
 exact h
theorem fdN (a : Nat) : (a : Int).fdiv (2 ^ min (Int.toNat 32) IntKind.u64.bits) = ((a / 4294967296 : Nat) : Int) := by
 rw [show (2 ^ min (Int.toNat 32) IntKind.u64.bits : Int) = 4294967296 from rfl,Int.fdiv_eq_ediv_of_nonneg _ (by omega)]; omega
theorem mulN (a b : Nat) : (a : Int) * (b : Int) = ((a * b : Nat) : Int) := (Int.natCast_mul a b).symm
theorem addN (a b : Nat) : (a : Int) + (b : Int) = ((a + b : Nat) : Int) := (Int.natCast_add a b).symm
theorem Zm5 (a : Nat) (ha : a < 18446744073709551616) : IntKind.u64.wrap (a : Int) = (a : Int) := by rw [IntKind.wrap_u64]; omega
theorem Yhm (a : Nat) : IntKind.u64.wrap (a : Int) = ((a % 18446744073709551616 : Nat) : Int) := by rw [IntKind.wrap_u64]; omega
set_option maxRecDepth 100000 in
set_option maxHeartbeats 8000000 in
theorem Zz3 (x y : Nat) (hx : x < 18446744073709551616) (hy : y < 18446744073709551616) : AV.tup [AV.int IntKind.u64 (IntKind.u64.wrap (IntKind.u64.wrap (IntKind.u64.wrap (((x : Int)).fdiv (2 ^ min (Int.toNat 32) IntKind.u64.bits) * ((y : Int)).fdiv (2 ^ min (Int.toNat 32) IntKind.u64.bits)) + ((IntKind.u64.wrap (IntKind.u64.wrap (((x : Int)).fdiv (2 ^ min (Int.toNat 32) IntKind.u64.bits) * IntKind.u64.wrap ((BitVec.ofInt IntKind.u64.bits ((y : Int)) &&& BitVec.ofInt IntKind.u64.bits 4294967295).toNat : Int)) + ((IntKind.u64.wrap ((IntKind.u64.wrap ((BitVec.ofInt IntKind.u64.bits ((x : Int)) &&& BitVec.ofInt IntKind.u64.bits 4294967295).toNat : Int)) * (IntKind.u64.wrap ((BitVec.ofInt IntKind.u64.bits ((y : Int)) &&& BitVec.ofInt IntKind.u64.bits 4294967295).toNat : Int)))).fdiv (2 ^ min (Int.toNat 32) IntKind.u64.bits)))).fdiv (2 ^ min (Int.toNat 32) IntKind.u64.bits))) + ((IntKind.u64.wrap (IntKind.u64.wrap ((BitVec.ofInt IntKind.u64.bits (IntKind.u64.wrap (IntKind.u64.wrap (((x : Int)).fdiv (2 ^ min (Int.toNat 32) IntKind.u64.bits) * IntKind.u64.wrap ((BitVec.ofInt IntKind.u64.bits ((y : Int)) &&& BitVec.ofInt IntKind.u64.bits 4294967295).toNat : Int)) + ((IntKind.u64.wrap ((IntKind.u64.wrap ((BitVec.ofInt IntKind.u64.bits ((x : Int)) &&& BitVec.ofInt IntKind.u64.bits 4294967295).toNat : Int)) * (IntKind.u64.wrap ((BitVec.ofInt IntKind.u64.bits ((y : Int)) &&& BitVec.ofInt IntKind.u64.bits 4294967295).toNat : Int)))).fdiv (2 ^ min (Int.toNat 32) IntKind.u64.bits)))) &&& BitVec.ofInt IntKind.u64.bits 4294967295).toNat : Int) + IntKind.u64.wrap (IntKind.u64.wrap ((BitVec.ofInt IntKind.u64.bits ((x : Int)) &&& BitVec.ofInt IntKind.u64.bits 4294967295).toNat : Int) * ((y : Int)).fdiv (2 ^ min (Int.toNat 32) IntKind.u64.bits)))).fdiv (2 ^ min (Int.toNat 32) IntKind.u64.bits)))),AV.int IntKind.u64 (IntKind.u64.wrap ((x : Int) * (y : Int)))] = AV.tup [U ((x : Int) * (y : Int) / 18446744073709551616),U ((x : Int) * (y : Int) % 18446744073709551616)] := by
 obtain ⟨bd,bt,bw,hhi⟩ := Go.Lib.mul64_hi x y hx hy
 have ba := Go.Lib.half_mul_le (a := x / 4294967296) (b := y / 4294967296) (by omega) (by omega)
 have bb := Go.Lib.half_mul_le (a := x / 4294967296) (b := y % 4294967296) (by omega) (by omega)
 have bc := Go.Lib.half_mul_le (a := x % 4294967296) (b := y / 4294967296) (by omega) (by omega)
 have ba' : x / 4294967296 * (y / 4294967296) < 18446744073709551616 := by omega
 have bb' : x / 4294967296 * (y % 4294967296) < 18446744073709551616 := by omega
 have bc' : x % 4294967296 * (y / 4294967296) < 18446744073709551616 := by omega
 have bh1 : x / 4294967296 * (y / 4294967296) + (x / 4294967296 * (y % 4294967296) + x % 4294967296 * (y % 4294967296) / 4294967296) / 4294967296 < 18446744073709551616 := by omega
 have bh : x / 4294967296 * (y / 4294967296) + (x / 4294967296 * (y % 4294967296) + x % 4294967296 * (y % 4294967296) / 4294967296) / 4294967296 + ((x / 4294967296 * (y % 4294967296) + x % 4294967296 * (y % 4294967296) / 4294967296) % 4294967296 + x % 4294967296 * (y / 4294967296)) / 4294967296 < 18446744073709551616 := by omega
 simp only [mkN x hx,mkN y hy,fdN,mulN,addN,Zm5 _ bd,Zm5 _ bb',Zm5 _ bt,mkN _ bt,Zm5 _ bc',Zm5 _ bw,Zm5 _ ba',Zm5 _ bh1,Zm5 _ bh,Yhm (x * y)]
 rw [hhi]
 rfl
set_option maxRecDepth 100000 in
set_option maxHeartbeats 8000000 in
theorem c216 {x y : Int} (hx : u64 x) (hy : u64 y) : PCall Tryz.prog 305 [U x,U y] ⟨.tup [U (x * y / 18446744073709551616),U (x * y % 18446744073709551616)],[]⟩ := by
 refine bs.pv (sx := nos) Zd Tryz.func305 (by kernel_rfl) (by kernel_rfl) rfl ?_
 repeat' (first | refine wk1 ?_ | (refine wk2 ?_ ?_ <;> intro _) | refine wk4 ?_ | fail); all_goals (conv => whnf)
 refine Zg ?_ rfl
 obtain ⟨h0,hx⟩ := hx
 obtain ⟨h1,hy⟩ := hy
 obtain ⟨a,rfl⟩ := Int.eq_ofNat_of_zero_le h0
 obtain ⟨b,rfl⟩ := Int.eq_ofNat_of_zero_le h1
 exact Zz3 a b (by omega) (by omega)
theorem Zml {a b : Int} : sgn (a * b) = sgn a * sgn b := by
 unfold sgn
 rcases Int.lt_trichotomy a 0 with ha | ha | ha <;> rcases Int.lt_trichotomy b 0 with hb | hb | hb
 ·have := Int.mul_pos_of_neg_of_neg ha hb
  rw [if_pos this,if_neg (by omega),if_pos ha,if_neg (by omega),if_pos hb]; rfl
 ·subst hb; simp
 ·have := Int.mul_neg_of_neg_of_pos ha hb
  rw [if_neg (by omega),if_pos this,if_neg (by omega),if_pos ha,if_pos hb]; rfl
 ·subst ha; simp
 ·subst ha; simp
 ·subst ha; simp
 ·have := Int.mul_neg_of_pos_of_neg ha hb
  rw [if_neg (by omega),if_pos this,if_pos ha,if_neg (by omega),if_pos hb]; rfl
 ·subst hb; simp
 ·have := Int.mul_pos ha hb
  rw [if_pos this,if_pos ha,if_pos hb]; rfl
theorem Zic {a : Int} (h : i64 a) : IntKind.u64.wrap (size a) = (a.natAbs : Int) /\ u64 (a.natAbs : Int) := by
 have hs := Yby h
 obtain ⟨h1,h2⟩ := h
 rw [hs]
 refine ⟨?_,?_⟩
 ·simp only [IntKind.wrap_i64,IntKind.wrap_u64]; omega
 ·unfold u64; omega
theorem Zyz (a b : Int) : ((a.natAbs : Int) * (b.natAbs : Int)) = (a * b) \/ ((a.natAbs : Int) * (b.natAbs : Int)) = -(a * b) := by
 have := Int.natAbs_mul a b
 omega
theorem Zyd {a b c d X Y : Int} (hX : (a.natAbs : Int) * (b.natAbs : Int) = X) (hY : (c.natAbs : Int) * (d.natAbs : Int) = Y) (h : sgn a * sgn b = sgn c * sgn d) :
  (X = Y -> cmpP a b c d = 0) /\ (Y < X -> cmpP a b c d = sgn a * sgn b) /\ (X < Y -> cmpP a b c d = -(sgn a * sgn b)) := by
 have h1 := Zyz a b
 have h2 := Zyz c d
 have p1 : 0 <= X := by rw [<-hX]; exact Int.mul_nonneg (by omega) (by omega)
 have p2 : 0 <= Y := by rw [<-hY]; exact Int.mul_nonneg (by omega) (by omega)
 have s1 := Zml (a := a) (b := b)
 have s2 := Zml (a := c) (b := d)
 unfold cmpP
 rw [hX] at h1
 rw [hY] at h2
 rw [<-s1]
 rw [<-s1,<-s2] at h
 clear s1 s2 hX hY
 generalize a * b = u at *
 generalize c * d = v at *
 unfold sgn at *
 refine ⟨fun e => ?_,fun e => ?_,fun e => ?_⟩
 ·repeat' split at h
  all_goals repeat' split
  all_goals omega
 ·repeat' split at h
  all_goals repeat' split
  all_goals omega
 ·repeat' split at h
  all_goals repeat' split
  all_goals omega
theorem Ya2 {a b c d : Int} (h : sgn a * sgn b ≠ sgn c * sgn d) : cmpP a b c d = sgn (sgn a * sgn b - sgn c * sgn d) := by
 rw [<-Zml,<-Zml] at h ⊢
 unfold cmpP
 generalize a * b = u at *
 generalize c * d = v at *
 unfold sgn at *
 repeat' split at h
 all_goals repeat' split
 all_goals omega
instance (n : Int) : Decidable (u64 n) := by unfold u64; exact inferInstance
def r216 : List AV -> Option PRes
 | [.int .u64 x,.int .u64 y] => asr (decide (u64 x /\ u64 y)) ⟨.tup [U (x * y / 18446744073709551616),U (x * y % 18446744073709551616)],[]⟩
 | _ => none
def kF1 : PC := ins 305 r216 (ins 168 r115 (ins 169 r116 pt0))
theorem Yce : PCOK Tryz.prog kF1 := by
 refine Zj (fun a res h => ?_) (Zj (fun a res h => ?_) (Zj (fun a res h => ?_) Zd))
 ·unfold r216 at h; split at h
  ·obtain ⟨h1,rfl⟩ := Uq h
   have := of_decide_eq_true h1
   exact c216 this.1 this.2
  ·cases h
 ·unfold r115 at h; split at h <;> cases h; exact c115 _
 ·unfold r116 at h; split at h <;> cases h; exact c116 _
set_option maxRecDepth 100000 in
set_option maxHeartbeats 8000000 in
theorem c215 {a b c d : Int} (ha : i64 a) (hb : i64 b) (hc : i64 c) (hd : i64 d) : PCall Tryz.prog 296 [I a,I b,I c,I d] ⟨I (cmpP a b c d),[]⟩ := by
 obtain ⟨a1,a2⟩ := Zic ha
 obtain ⟨b1,b2⟩ := Zic hb
 obtain ⟨c1,c2⟩ := Zic hc
 obtain ⟨d1,d2⟩ := Zic hd
 by_cases h : sgn a * sgn b = sgn c * sgn d
 ·have hX : (a.natAbs : Int) * (b.natAbs : Int) = (a.natAbs : Int) * (b.natAbs : Int) := rfl
  have hY : (c.natAbs : Int) * (d.natAbs : Int) = (c.natAbs : Int) * (d.natAbs : Int) := rfl
  obtain ⟨k1,k2,k3⟩ := Zyd hX hY h
  have t1 : asr (decide (u64 (IntKind.u64.wrap (size a)) /\ u64 (IntKind.u64.wrap (size b)))) ⟨.tup [U (IntKind.u64.wrap (size a) * IntKind.u64.wrap (size b) / 18446744073709551616),U (IntKind.u64.wrap (size a) * IntKind.u64.wrap (size b) % 18446744073709551616)],[]⟩ = some ⟨.tup [U ((a.natAbs : Int) * (b.natAbs : Int) / 18446744073709551616),U ((a.natAbs : Int) * (b.natAbs : Int) % 18446744073709551616)],[]⟩ := by
   rw [a1,b1,Zb8 ⟨a2,b2⟩]
  have t2 : asr (decide (u64 (IntKind.u64.wrap (size c)) /\ u64 (IntKind.u64.wrap (size d)))) ⟨.tup [U (IntKind.u64.wrap (size c) * IntKind.u64.wrap (size d) / 18446744073709551616),U (IntKind.u64.wrap (size c) * IntKind.u64.wrap (size d) % 18446744073709551616)],[]⟩ = some ⟨.tup [U ((c.natAbs : Int) * (d.natAbs : Int) / 18446744073709551616),U ((c.natAbs : Int) * (d.natAbs : Int) % 18446744073709551616)],[]⟩ := by
   rw [c1,d1,Zb8 ⟨c2,d2⟩]
  have w1 : IntKind.i64.wrap (sgn a * sgn b) = IntKind.i64.wrap (sgn c * sgn d) := by rw [h]
  have w2 := Zhq a b
  have hr : -1 <= sgn a * sgn b /\ sgn a * sgn b <= 1 := by
   have := Zu (A := 1) (B := 1) (Zht a) (Zht b); omega
  have w3 : IntKind.i64.wrap (0 - IntKind.i64.wrap (sgn a * sgn b)) = -(sgn a * sgn b) := by rw [w2,W_eq (by omega) (by omega)]; omega
  generalize (a.natAbs : Int) * (b.natAbs : Int) = X at *
  generalize (c.natAbs : Int) * (d.natAbs : Int) = Y at *
  generalize cmpP a b c d = r at *
  refine bs.pv (sx := nos) Yce Tryz.func296 (by kernel_rfl) (by kernel_rfl) rfl ?_
  rcases Int.lt_trichotomy X Y with hxy | hxy | hxy
  ·rw [k3 hxy,<-w3]
   repeat' (first | refine wk1 ?_ | (refine wk2 ?_ ?_ <;> intro _) | refine wk4 ?_ | fail); all_goals (conv => whnf)
   all_goals first
    | exact Za rfl
    | (exfalso; simp_all; done)
    | (exfalso; simp_all; omega)
  ·rw [k1 hxy]
   subst hxy
   repeat' (first | refine wk1 ?_ | (refine wk2 ?_ ?_ <;> intro _) | refine wk4 ?_ | fail); all_goals (conv => whnf)
   all_goals first
    | exact Za rfl
    | (exfalso; simp_all; done)
    | (exfalso; simp_all; omega)
  ·rw [k2 hxy,<-w2]
   repeat' (first | refine wk1 ?_ | (refine wk2 ?_ ?_ <;> intro _) | refine wk4 ?_ | fail); all_goals (conv => whnf)
   all_goals first
    | exact Za rfl
    | (exfalso; simp_all; done)
    | (exfalso; simp_all; omega)
 ·have hr1 := Zu (A := 1) (B := 1) (Zht a) (Zht b)
  have hr2 := Zu (A := 1) (B := 1) (Zht c) (Zht d)
  have w : sgn (IntKind.i64.wrap (IntKind.i64.wrap (sgn a * sgn b) - IntKind.i64.wrap (sgn c * sgn d))) = cmpP a b c d := by
   rw [Ya2 h,Zhq,Zhq,W_eq (by omega) (by omega)]
  have w2 : ¬ IntKind.i64.wrap (sgn a * sgn b) = IntKind.i64.wrap (sgn c * sgn d) := by rw [Zhq,Zhq]; exact h
  refine bs.pv (sx := nos) Yce Tryz.func296 (by kernel_rfl) (by kernel_rfl) rfl ?_
  rw [<-w]
  repeat' (first | refine wk1 ?_ | (refine wk2 ?_ ?_ <;> intro _) | refine wk4 ?_ | fail); all_goals (conv => whnf)
  exact Za rfl
def r204 : List AV -> Option PRes
 | [.agg [.int .i64 a,.int .i64 b,.int .i64 c,.int .i64 d,.int .i64 x,.int .i64 y,.int .i64 z,.int .i64 w]] => some ⟨.tup [I (Zps ⟨a,b,c,d⟩ ⟨x,y,z,w⟩),I (Zpr ⟨a,b,c,d⟩ ⟨x,y,z,w⟩)],[]⟩
 | _ => none
def r207 : List AV -> Option PRes
 | [.int .i64 fr,.int .i64 den,.int .i64 to,.int .i64 oth,.int .i64 a,.int .i64 b] => some ⟨Bo (ovl fr den to oth a b),[]⟩
 | _ => none
def r182 : List AV -> Option PRes
 | [.agg [.int .i64 a,.int .i64 b,.int .i64 c,.int .i64 d,.int .i64 x,.int .i64 y,.int .i64 z,.int .i64 w]] => some ⟨.tup [I (midX ⟨a,b,c,d⟩ ⟨x,y,z,w⟩),I (midY ⟨a,b,c,d⟩ ⟨x,y,z,w⟩),I (midD ⟨a,b,c,d⟩ ⟨x,y,z,w⟩)],[]⟩
 | _ => none
def kF2 : PC := ins 287 r204 (ins 288 r207 (ins 263 r182 kG3))
theorem Ycd : PCOK Tryz.prog kF2 := by
 refine Zj (fun a res h => ?_) (Zj (fun a res h => ?_) (Zj (fun a res h => ?_) Ve))
 ·unfold r204 at h; split at h <;> cases h; exact c204 ⟨_,_,_,_⟩ ⟨_,_,_,_⟩
 ·unfold r207 at h; split at h <;> cases h; exact c207 _ _ _ _ _ _
 ·unfold r182 at h; split at h <;> cases h; exact c182 ⟨_,_,_,_⟩ ⟨_,_,_,_⟩
set_option maxHeartbeats 4000000 in
theorem c208 (p q : Pt) (x y : Int) : PCall Tryz.prog 289 [wayA p q,P2 x y] ⟨I (Zgz p q x y),[]⟩ := by
 have hk := Zf (c215 (a := Zps p q) (b := IntKind.i64.wrap (IntKind.i64.wrap (y * p.d) - p.y)) (c := Zpr p q) (d := IntKind.i64.wrap (IntKind.i64.wrap (x * p.d) - p.x)) (Zue _) (Zue _) (Zue _) (Zue _)) Ycd
 refine bs.pv (sx := nos) hk Tryz.func289 (by kernel_rfl) (by kernel_rfl) rfl ?_
 repeat' (first | refine wk0 ?_ | (refine wk2 ?_ ?_ <;> intro _) | refine wk4 ?_ | fail); all_goals (conv => whnf)
 exact Za rfl
def r208 : List AV -> Option PRes
 | [.agg [.int .i64 a,.int .i64 b,.int .i64 c,.int .i64 d,.int .i64 x,.int .i64 y,.int .i64 z,.int .i64 w],.agg [.int .i64 u,.int .i64 v]] => some ⟨I (Zgz ⟨a,b,c,d⟩ ⟨x,y,z,w⟩ u v),[]⟩
 | _ => none
def kF3 : PC := ins 289 r208 kF2
theorem Ygo : PCOK Tryz.prog kF3 := by
 refine Zj (fun a res h => ?_) Ycd
 unfold r208 at h; split at h <;> cases h; exact c208 ⟨_,_,_,_⟩ ⟨_,_,_,_⟩ _ _
set_option maxRecDepth 100000 in
set_option maxHeartbeats 8000000 in
theorem c181 (p q : Pt) (w : Wl) : PCall Tryz.prog 262 [wayA p q,w.av] ⟨Bo (touP p q w),[]⟩ := by
 obtain ⟨pa,pb,pc,pd⟩ := p
 obtain ⟨qa,qb,qc,qd⟩ := q
 obtain ⟨wn,wa,wb,wc,wd⟩ := w
 refine bs.pv (sx := nos) Ygo Tryz.func262 (by kernel_rfl) (by kernel_rfl) rfl ?_
 repeat' (first | refine wk0 ?_ | (refine wk2 ?_ ?_ <;> intro _) | refine wk4 ?_ | fail); all_goals (conv => whnf)
 all_goals exact Zc (by simp_all [touP] <;> omega)
def r181 : List AV -> Option PRes
 | [.agg [.int .i64 a,.int .i64 b,.int .i64 c,.int .i64 d,.int .i64 x,.int .i64 y,.int .i64 z,.int .i64 w],.agg [.int .i64 n,.int .i64 fx,.int .i64 fy,.int .i64 tx,.int .i64 ty]] => some ⟨Bo (touP ⟨a,b,c,d⟩ ⟨x,y,z,w⟩ ⟨n,fx,fy,tx,ty⟩),[]⟩
 | _ => none
def Yfp : List AV -> Option PRes
 | [.agg [.int .i64 a,.int .i64 b,.int .i64 c,.int .i64 d],.int .i64 x,.int .i64 y,.int .i64 z] => some ⟨Bo (Rc.has ⟨a,b,c,d⟩ x y z),[]⟩
 | _ => none
def Yfq : List AV -> Option PRes
 | [.agg [.int .i64 a,.int .i64 b,.int .i64 c,.int .i64 d],.int .i64 x,.int .i64 y,.int .i64 z] => some ⟨Bo (Rc.holds ⟨a,b,c,d⟩ x y z),[]⟩
 | _ => none
def kF4 : PC := ins 262 r181 (ins 292 Yfp (ins 259 Yfq (ins 263 r182 (ins 258 r170 kG3))))
theorem Zsh : PCOK Tryz.prog kF4 := by
 refine Zj (fun a res h => ?_) (Zj (fun a res h => ?_) (Zj (fun a res h => ?_) (Zj (fun a res h => ?_) (Zj (fun a res h => ?_) Ve))))
 ·unfold r181 at h; split at h <;> cases h; exact c181 ⟨_,_,_,_⟩ ⟨_,_,_,_⟩ ⟨_,_,_,_,_⟩
 ·unfold Yfp at h; split at h <;> cases h; exact c211 ⟨_,_,_,_⟩ _ _ _
 ·unfold Yfq at h; split at h <;> cases h; exact c193 ⟨_,_,_,_⟩ _ _ _
 ·unfold r182 at h; split at h <;> cases h; exact c182 ⟨_,_,_,_⟩ ⟨_,_,_,_⟩
 ·unfold r170 at h; split at h <;> cases h; exact c170 _ _ _ _ _ _ _
set_option maxRecDepth 100000 in
set_option maxHeartbeats 8000000 in
theorem c209 (r : Rc) (p q : Pt) : PCall Tryz.prog 290 [r.av,wayA p q] ⟨Bo (Zum r p q),[]⟩ := by
 obtain ⟨ra,rb,rc,rd⟩ := r
 obtain ⟨pa,pb,pc,pd⟩ := p
 obtain ⟨qa,qb,qc,qd⟩ := q
 refine bs.pv (sx := nos) Zsh Tryz.func290 (by kernel_rfl) (by kernel_rfl) rfl ?_
 repeat' (first | refine wk0 ?_ | (refine wk2 ?_ ?_ <;> intro _) | refine wk4 ?_ | fail); all_goals (conv => whnf)
 all_goals try (refine LpM.start 5 ?_)
 iterate 5
  all_goals try (refine LpM.succ (bs.av (sx := nos) Zsh ?_))
  repeat' (first | refine wk0 ?_ | (refine wk2 ?_ ?_ <;> intro _) | refine wk4 ?_ | fail); all_goals (conv => whnf)
 all_goals exact Zc (by simp_all [Zum,edgP])
def atP (ht : Int) (p q : Pt) : Int × Int × Int × Bool := if 0 <= IntKind.i64.wrap (sgn (zOff ht p) * sgn (zOff ht q)) then (0,0,0,false) else (atX p.x q.x (size (zOff ht q)) (size (zOff ht p)),atX p.y q.y (size (zOff ht q)) (size (zOff ht p)),atX p.d q.d (size (zOff ht q)) (size (zOff ht p)),true)
set_option maxRecDepth 100000 in
set_option maxHeartbeats 8000000 in
theorem c210 (ht : Int) (p q : Pt) : PCall Tryz.prog 291 [wayA p q,I ht] ⟨.tup [I (atP ht p q).1,I (atP ht p q).2.1,I (atP ht p q).2.2.1,Bo (atP ht p q).2.2.2],[]⟩ := by
 refine bs.pv (sx := nos) Ve Tryz.func291 (by kernel_rfl) (by kernel_rfl) rfl ?_
 unfold atP
 by_cases hc : 0 <= IntKind.i64.wrap (sgn (zOff ht p) * sgn (zOff ht q))
 ·rw [if_pos hc]
  unfold zOff at hc
  repeat' (first | refine wk3 ?_ | (refine wk2 ?_ ?_ <;> intro _) | refine wk4 ?_ | fail); all_goals (conv => whnf)
  exact Zg rfl rfl
 ·rw [if_neg hc]
  unfold zOff at hc
  repeat' (first | refine wk3 ?_ | (refine wk2 ?_ ?_ <;> intro _) | refine wk4 ?_ | fail); all_goals (conv => whnf)
  exact Zg rfl rfl
def r210 : List AV -> Option PRes
 | [.agg [.int .i64 a,.int .i64 b,.int .i64 c,.int .i64 d,.int .i64 x,.int .i64 y,.int .i64 z,.int .i64 w],.int .i64 ht] => some ⟨.tup [I (atP ht ⟨a,b,c,d⟩ ⟨x,y,z,w⟩).1,I (atP ht ⟨a,b,c,d⟩ ⟨x,y,z,w⟩).2.1,I (atP ht ⟨a,b,c,d⟩ ⟨x,y,z,w⟩).2.2.1,Bo (atP ht ⟨a,b,c,d⟩ ⟨x,y,z,w⟩).2.2.2],[]⟩
 | _ => none
def r209 : List AV -> Option PRes
 | [.agg [.int .i64 e,.int .i64 f,.int .i64 g,.int .i64 h],.agg [.int .i64 a,.int .i64 b,.int .i64 c,.int .i64 d,.int .i64 x,.int .i64 y,.int .i64 z,.int .i64 w]] => some ⟨Bo (Zum ⟨e,f,g,h⟩ ⟨a,b,c,d⟩ ⟨x,y,z,w⟩),[]⟩
 | _ => none
def kF5 : PC := ins 290 r209 (ins 291 r210 kF4)
theorem Ygn : PCOK Tryz.prog kF5 := by
 refine Zj (fun a res h => ?_) (Zj (fun a res h => ?_) Zsh)
 ·unfold r209 at h; split at h <;> cases h; exact c209 ⟨_,_,_,_⟩ ⟨_,_,_,_⟩ ⟨_,_,_,_⟩
 ·unfold r210 at h; split at h <;> cases h; exact c210 _ ⟨_,_,_,_⟩ ⟨_,_,_,_⟩
set_option maxRecDepth 100000 in
set_option maxHeartbeats 8000000 in
theorem c184 {h : Hal} {s : Stg} (g : Sit h s) {j : Nat} (hj : j < h.ks.length) (p q : Pt) : PCall Tryz.prog 264 [.agg (stgL h s),I j,wayA p q] ⟨Bo (blkP h.ks[j].rc (Zcr h s j) p q),[]⟩ := by
 have hk := Zf (c192 g hj) Ygn
 have e5 := Zd6 hj
 have l2 := Xe h.ks
 generalize Zcr h s j = ht at *
 generalize h.ks[j] = c at *
 unfold blkP
 by_cases hc : p.z = IntKind.i64.wrap (ht * p.d) /\ q.z = IntKind.i64.wrap (ht * q.d)
 ·rw [if_pos hc]
  obtain ⟨h1,h2⟩ := hc
  refine bs.pv (sx := nos) hk Tryz.func264 (by kernel_rfl) (by kernel_rfl) rfl ?_
  repeat' (first | refine wk3 ?_ | (refine wk2 ?_ ?_ <;> intro _) | refine wk4 ?_ | fail); all_goals (conv => whnf)
  exact Zc rfl
 ·rw [if_neg hc]
  have hat : atP ht p q = if 0 <= IntKind.i64.wrap (sgn (zOff ht p) * sgn (zOff ht q)) then (0,0,0,false) else (atX p.x q.x (size (zOff ht q)) (size (zOff ht p)),atX p.y q.y (size (zOff ht q)) (size (zOff ht p)),atX p.d q.d (size (zOff ht q)) (size (zOff ht p)),true) := rfl
  have hk2 := Zf (c210 ht p q) hk
  rw [hat] at hk2
  clear hk hat
  have hc2 : ¬ p.z = IntKind.i64.wrap (ht * p.d) \/ (p.z = IntKind.i64.wrap (ht * p.d) /\ ¬ q.z = IntKind.i64.wrap (ht * q.d)) := by
   by_cases h1 : p.z = IntKind.i64.wrap (ht * p.d)
   ·exact .inr ⟨h1,fun h2 => hc ⟨h1,h2⟩⟩
   ·exact .inl h1
  clear hc
  by_cases hs : 0 <= IntKind.i64.wrap (sgn (zOff ht p) * sgn (zOff ht q))
  ·rw [if_pos hs] at hk2 ⊢
   clear hs
   rcases hc2 with h1 | ⟨h1,h2⟩
   all_goals
    refine bs.pv (sx := nos) hk2 Tryz.func264 (by kernel_rfl) (by kernel_rfl) rfl ?_
    repeat' (first | refine wk3 ?_ | (refine wk2 ?_ ?_ <;> intro _) | refine wk4 ?_ | fail); all_goals (conv => whnf)
    exact Zc rfl
  ·rw [if_neg hs] at hk2 ⊢
   clear hs
   rcases hc2 with h1 | ⟨h1,h2⟩
   all_goals
    refine bs.pv (sx := nos) hk2 Tryz.func264 (by kernel_rfl) (by kernel_rfl) rfl ?_
    repeat' (first | refine wk3 ?_ | (refine wk2 ?_ ?_ <;> intro _) | refine wk4 ?_ | fail); all_goals (conv => whnf)
    exact Zc rfl
def zBad (h : Hal) (p q : Pt) : Bool := (decide (p.z = 0) && decide (q.z = 0)) || (decide (p.z = IntKind.i64.wrap (h.ht * p.d)) && decide (q.z = IntKind.i64.wrap (h.ht * q.d))) || decide (p.z < 0) || decide (q.z < 0) || decide (IntKind.i64.wrap (h.ht * p.d) < p.z) || decide (IntKind.i64.wrap (h.ht * q.d) < q.z)
def blkA (h : Hal) (s : Stg) (p q : Pt) : Nat -> List Can -> Bool
 | _,[] => false
 | j,c :: l => blkP c.rc (Zcr h s j) p q || blkA h s p q (j + 1) l
def Zd2 (h : Hal) (s : Stg) (p q : Pt) : Bool := !zBad h p q && (!(wls h.cs).any (touP p q) && (Ye h (midX p q) (midY p q) (midD p q) && !blkA h s p q 0 h.ks))
noncomputable abbrev blks (h : Hal) (s : Stg) (p q : Pt) : List AV -> Option PRes := famA (fun j : Nat => j < h.ks.length) (fun j => [.agg (stgL h s),I j,wayA p q]) (fun j => ⟨Bo (blkP ((h.ks[j]?).getD ⟨⟨#[]⟩,⟨#[]⟩,0,0,0,0,[]⟩).rc (Zcr h s j) p q),[]⟩)
theorem Ya7 {h : Hal} {s : Stg} {p q : Pt} {j : Nat} (hj : j < h.ks.length) : blks h s p q [.agg (stgL h s),I j,wayA p q] = some ⟨Bo (blkP h.ks[j].rc (Zcr h s j) p q),[]⟩ := by
 have := Ya (p := fun j : Nat => j < h.ks.length) (g := fun j : Nat => [.agg (stgL h s),I j,wayA p q]) (r := fun j => ⟨Bo (blkP ((h.ks[j]?).getD ⟨⟨#[]⟩,⟨#[]⟩,0,0,0,0,[]⟩).rc (Zcr h s j) p q),[]⟩) (k := j) (fun i hi => by
  simp only [List.cons.injEq,AV.int.injEq,true_and,and_true] at hi
  have : i = j := by omega
  subst this; rfl) hj
 refine this.trans ?_
 rw [List.getElem?_eq_getElem hj]; rfl
noncomputable def kF6 (h : Hal) (s : Stg) (p q : Pt) : PC := ins 264 (blks h s p q) (ins 260 (one [h.av,I (midX p q),I (midY p q),I (midD p q)] ⟨Bo (Ye h (midX p q) (midY p q) (midD p q)),[]⟩) kF4)
theorem Ygm {h : Hal} {s : Stg} (g : Sit h s) (p q : Pt) : PCOK Tryz.prog (kF6 h s p q) := Yr (fun j hj => by rw [List.getElem?_eq_getElem hj]; exact c184 g hj p q) (Zf (c183 g.ok.f _ _ _) Zsh)
set_option maxRecDepth 100000 in
set_option maxHeartbeats 16000000 in
theorem c103 {h : Hal} {s : Stg} (g : Sit h s) (p q : Pt) : PCall Tryz.prog 176 [.agg (stgL h s),wayA p q] ⟨Bo (Zd2 h s p q),[]⟩ := by
 have hk := Ygm g p q
 refine bs.pv (sx := nos) hk Tryz.func176 (by kernel_rfl) (by kernel_rfl) rfl ?_
 cases hz : zBad h p q with
 | true =>
  unfold Zd2
  rw [hz]
  repeat' (first | refine wk3 ?_ | (refine wk2 ?_ ?_ <;> intro _) | refine wk4 ?_ | fail); all_goals (conv => whnf)
  all_goals first
   | exact Zc rfl
   | (exfalso; clear hk; simp_all [zBad]; done)
   | (exfalso; clear hk; simp_all [zBad]; omega)
 | false =>
  have e : Zd2 h s p q = (!(wls h.cs).any (touP p q) && (Ye h (midX p q) (midY p q) (midD p q) && !blkA h s p q 0 h.ks)) := by unfold Zd2; rw [hz]; rfl
  rw [e]
  clear e
  unfold zBad at hz
  simp only [Bool.or_eq_false_iff,Bool.and_eq_false_iff,decide_eq_false_iff_not] at hz
  obtain ⟨⟨⟨⟨⟨z1,z2⟩,z3⟩,z4⟩,z5⟩,z6⟩ := hz
  repeat' (first | refine wk3 ?_ | (refine wk2 ?_ ?_ <;> intro _) | refine wk4 ?_ | fail); all_goals (conv => whnf)
  all_goals try (exfalso; clear hk; simp_all; done)
  all_goals
   refine Rg.ren (env2 := [(2,.ptr 0 0 0),(4,.ptr 2 0 0),(9,.ptr 43 0 0),(92,.func 261 [h.av] [])]) (σ2 := ⟨[(43,.row 8 [[I p.x,I p.y,I p.z,I p.d,I q.x,I q.y,I q.z,I q.d]] true false),(2,.row 1 [[Bo false]] true false),(0,.row 11 [stgL h s] true false)],44⟩) (Ren.of [] rfl (kps) (kps)) ?_
   clear z1 z2 z3 z4 z5 z6
   refine rngV (itW g.ok.f) rfl rfl rfl rfl (Zff (S := Unit) (fun _ => [(43,.row 8 [[I p.x,I p.y,I p.z,I p.d,I q.x,I q.y,I q.z,I q.d]] true false),(2,.row 1 [[Bo false]] true false),(0,.row 11 [stgL h s] true false)]) 44 44 (fun xs _ => ∃ l : List Wl,xs = l.map (fun w => [w.av]) /\ (!l.any (touP p q) && (Ye h (midX p q) (midY p q) (midD p q) && !blkA h s p q 0 h.ks)) = (!(wls h.cs).any (touP p q) && (Ye h (midX p q) (midY p q) (midD p q) && !blkA h s p q 0 h.ks))) ?_ ?_ _ () ⟨_,rfl,rfl⟩)
   ·rintro u us _ ⟨l,h1,h2⟩
    cases l with
    | nil => simp at h1
    | cons w l =>
     simp only [List.map_cons,List.cons.injEq] at h1
     obtain ⟨rfl,rfl⟩ := h1
     obtain ⟨wn,wa,wb,wc,wd⟩ := w
     rw [List.any_cons] at h2
     refine ⟨rfl,bs.av (sx := nos) hk ?_⟩
     repeat' (first | refine wk3 ?_ | (refine wk2 ?_ ?_ <;> intro _) | refine wk4 ?_ | fail); all_goals (conv => whnf)
     refine Bd.mk (bs.av (sx := nos) hk ?_)
     repeat' (first | refine wk3 ?_ | (refine wk2 ?_ ?_ <;> intro _) | refine wk4 ?_ | fail); all_goals (conv => whnf)
     ·rename_i hx
      rw [<-h2,hx]
      exact Zc rfl
     ·rename_i hx
      rw [hx,Bool.false_or] at h2
      exact Done.mk ⟨(),[],rfl,kps,l,rfl,h2⟩
   ·rintro _ ⟨l,h1,h2⟩
    cases l with
    | cons w l => simp at h1
    | nil =>
     rw [<-h2]
     clear h1 h2
     rw [List.any_nil]
     repeat' (first | refine wk3 ?_ | (refine wk2 ?_ ?_ <;> intro _) | refine wk4 ?_ | fail); all_goals (conv => whnf)
     ·rename_i hx
      have hx : Ye h (midX p q) (midY p q) (midD p q) = false := by simpa using hx
      rw [hx]
      exact Zc rfl
     ·rename_i hx
      have hx : Ye h (midX p q) (midY p q) (midD p q) = true := by simpa using hx
      rw [hx]
      have l4 := Xe h.ks
      have f4 := g.ok.f.2.2.2.1
      refine Yc (S := Nat × Int) (fun t => h.ks.length - t.1) (fun t => [(2,.ptr 0 0 0),(4,.ptr 2 0 0),(9,.ptr 43 0 0),(114,I (h.ks.map Can.av).length),(115,I t.2)]) (fun _ => [(43,.row 8 [[I p.x,I p.y,I p.z,I p.d,I q.x,I q.y,I q.z,I q.d]] true false),(2,.row 1 [[Bo false]] true false),(0,.row 11 [stgL h s] true false)]) 60 60 (fun t => t.2 = t.1 /\ t.1 <= h.ks.length /\ blkA h s p q t.1 (h.ks.drop t.1) = blkA h s p q 0 h.ks) (0,0) ⟨rfl,Nat.zero_le _,rfl⟩ (Nat.le_of_ble_eq_true rfl) [] rfl (kps) (kps) ?_
      rintro ⟨k,i⟩ ⟨hi,hkk,hh⟩
      dsimp only at hi hkk hh ⊢
      subst hi
      refine bs.av (sx := nos) hk ?_
      by_cases hlt : k < h.ks.length
      ·rw [List.drop_eq_getElem_cons hlt,blkA] at hh
       have hb := Ya7 (p := p) (q := q) (s := s) hlt
       generalize blkP h.ks[k].rc (Zcr h s k) p q = b at *
       cases b with
       | true =>
        rw [<-hh]
        repeat' (first | refine wk3 ?_ | (refine wk2 ?_ ?_ <;> intro _) | refine wk4 ?_ | fail); all_goals (conv => whnf)
        exact Zc rfl
       | false =>
        rw [Bool.false_or] at hh
        repeat' (first | refine wk3 ?_ | (refine wk2 ?_ ?_ <;> intro _) | refine wk4 ?_ | fail); all_goals (conv => whnf)
        exact Done.mk ⟨(k + 1,_),[],rfl,kps,kps,⟨Zk (by omega),hlt,hh⟩,by dsimp only; omega⟩
      ·rw [List.drop_of_length_le (by omega),blkA] at hh
       rw [<-hh]
       repeat' (first | refine wk3 ?_ | (refine wk2 ?_ ?_ <;> intro _) | refine wk4 ?_ | fail); all_goals (conv => whnf)
       exact Zc rfl
def ptEq (p q : Pt) : Bool := decide (p.x = q.x) && decide (p.y = q.y) && decide (p.z = q.z) && decide (p.d = q.d)
def wayE (h : Hal) (s : Stg) (p q : Pt) : Int := if serr h s = 0 then (if Yv p = 0 then (if Yv q = 0 then (if ptEq p q then 11 else 0) else Yv q) else Yv p) else serr h s
abbrev sxF : FuncId -> Bool := fun f => Nat.beq f 159 || Nat.beq f 173 || Nat.beq f 174 || Nat.beq f 175
noncomputable abbrev ptEs : List AV -> Option PRes := famA (fun p : Pt => p.wf) (fun p => [p.av]) (fun p => ⟨I (Yv p),[]⟩)
theorem Zr1 {p : Pt} (h : p.wf) : ptEs [p.av] = some ⟨I (Yv p),[]⟩ :=
 Ya (p := fun p : Pt => p.wf) (g := fun p => [p.av]) (r := fun p => ⟨I (Yv p),[]⟩) (fun j hj => by
  obtain ⟨a,b,c,d⟩ := j
  obtain ⟨a',b',c',d'⟩ := p
  simp only [List.cons.injEq,AV.agg.injEq,AV.int.injEq,true_and,and_true] at hj
  obtain ⟨rfl,rfl,rfl,rfl⟩ := hj
  rfl) h
set_option maxRecDepth 100000 in
set_option maxHeartbeats 16000000 in
theorem c37 {h : Hal} (hk : h.ok) {s : Stg} (hs : s.few) {p q : Pt} (hp : p.wf) (hq : q.wf) : PCall Tryz.prog 125 [h.av,s.av,wayA p q] ⟨.tup [Bo (decide (wayE h s p q = 0) && Zd2 h s p q),I (wayE h s p q)],[]⟩ := by
 have hk0 : PCOK Tryz.prog (ins 164 ptEs (ins 172 (one [h.av,s.av] ⟨.tup [.agg (stgL h s),I (serr h s)],[]⟩) kG4)) := Yr (fun p hp => c99 hp) (Zf (c83 hk hs) Uu)
 have t1 := Zr1 hp
 have t2 := Zr1 hq
 unfold wayE
 by_cases h0 : serr h s = 0
 ·have g := Zk2 hk hs h0
  rw [h0] at hk0
  rw [if_pos h0]
  have hk1 := Zf (c103 g p q) hk0
  clear hk0 h0
  generalize Zd2 h s p q = fr at *
  generalize Yv p = e1 at *
  generalize Yv q = e2 at *
  by_cases h1 : e1 = 0
  ·rw [if_pos h1]
   subst h1
   by_cases h2 : e2 = 0
   ·rw [if_pos h2]
    subst h2
    have hx : (true ^^ (decide (p.x = q.x) && (decide (p.y = q.y) && (decide (p.z = q.z) && (decide (p.d = q.d) && true))))) = !ptEq p q := by
     unfold ptEq
     cases decide (p.x = q.x) <;> cases decide (p.y = q.y) <;> cases decide (p.z = q.z) <;> cases decide (p.d = q.d) <;> rfl
    cases hq : ptEq p q with
    | true =>
     rw [hq] at hx
     have hu : unl (true ^^ (decide (p.x = q.x) && (decide (p.y = q.y) && (decide (p.z = q.z) && (decide (p.d = q.d) && true))))) 11 = 11 := by rw [hx]; rfl
     clear hx hq
     refine bs.pv (sx := sxF) hk1 Tryz.func125 (by kernel_rfl) (by kernel_rfl) rfl ?_
     repeat' (first | refine wk3 ?_ | (refine wk2 ?_ ?_ <;> intro _) | refine wk4 ?_ | fail); all_goals (conv => whnf)
     refine bs.sv (sx := sxF) hk1 Tryz.func159 (by kernel_rfl) (by kernel_rfl) ?_
     refine LpM.start 4 ?_
     refine LpM.succ (bs.av (sx := sxF) hk1 ?_)
     repeat' (first | refine wk3 ?_ | (refine wk2 ?_ ?_ <;> intro _) | refine wk4 ?_ | fail); all_goals (conv => whnf)
     refine bs.sv (sx := sxF) hk1 Tryz.func173 (by kernel_rfl) (by kernel_rfl) ?_
     repeat' (first | refine wk3 ?_ | (refine wk2 ?_ ?_ <;> intro _) | refine wk4 ?_ | fail); all_goals (conv => whnf)
     refine LpM.succ (bs.av (sx := sxF) hk1 ?_)
     repeat' (first | refine wk3 ?_ | (refine wk2 ?_ ?_ <;> intro _) | refine wk4 ?_ | fail); all_goals (conv => whnf)
     refine bs.sv (sx := sxF) hk1 Tryz.func174 (by kernel_rfl) (by kernel_rfl) ?_
     repeat' (first | refine wk3 ?_ | (refine wk2 ?_ ?_ <;> intro _) | refine wk4 ?_ | fail); all_goals (conv => whnf)
     refine LpM.succ (bs.av (sx := sxF) hk1 ?_)
     repeat' (first | refine wk3 ?_ | (refine wk2 ?_ ?_ <;> intro _) | refine wk4 ?_ | fail); all_goals (conv => whnf)
     refine bs.sv (sx := sxF) hk1 Tryz.func175 (by kernel_rfl) (by kernel_rfl) ?_
     repeat' (first | refine wk3 ?_ | (refine wk2 ?_ ?_ <;> intro _) | refine wk4 ?_ | fail); all_goals (conv => whnf)
     exact Zg (by rw [hu]; rfl) rfl
    | false =>
     rw [hq] at hx
     have hu : unl (true ^^ (decide (p.x = q.x) && (decide (p.y = q.y) && (decide (p.z = q.z) && (decide (p.d = q.d) && true))))) 11 = 0 := by rw [hx]; rfl
     clear hx hq
     refine bs.pv (sx := sxF) hk1 Tryz.func125 (by kernel_rfl) (by kernel_rfl) rfl ?_
     repeat' (first | refine wk3 ?_ | (refine wk2 ?_ ?_ <;> intro _) | refine wk4 ?_ | fail); all_goals (conv => whnf)
     refine bs.sv (sx := sxF) hk1 Tryz.func159 (by kernel_rfl) (by kernel_rfl) ?_
     refine LpM.start 4 ?_
     refine LpM.succ (bs.av (sx := sxF) hk1 ?_)
     repeat' (first | refine wk3 ?_ | (refine wk2 ?_ ?_ <;> intro _) | refine wk4 ?_ | fail); all_goals (conv => whnf)
     refine bs.sv (sx := sxF) hk1 Tryz.func173 (by kernel_rfl) (by kernel_rfl) ?_
     repeat' (first | refine wk3 ?_ | (refine wk2 ?_ ?_ <;> intro _) | refine wk4 ?_ | fail); all_goals (conv => whnf)
     refine LpM.succ (bs.av (sx := sxF) hk1 ?_)
     repeat' (first | refine wk3 ?_ | (refine wk2 ?_ ?_ <;> intro _) | refine wk4 ?_ | fail); all_goals (conv => whnf)
     refine bs.sv (sx := sxF) hk1 Tryz.func174 (by kernel_rfl) (by kernel_rfl) ?_
     repeat' (first | refine wk3 ?_ | (refine wk2 ?_ ?_ <;> intro _) | refine wk4 ?_ | fail); all_goals (conv => whnf)
     refine LpM.succ (bs.av (sx := sxF) hk1 ?_)
     repeat' (first | refine wk3 ?_ | (refine wk2 ?_ ?_ <;> intro _) | refine wk4 ?_ | fail); all_goals (conv => whnf)
     refine bs.sv (sx := sxF) hk1 Tryz.func175 (by kernel_rfl) (by kernel_rfl) ?_
     repeat' (first | refine wk3 ?_ | (refine wk2 ?_ ?_ <;> intro _) | refine wk4 ?_ | fail); all_goals (conv => whnf)
     refine LpM.succ (bs.av (sx := sxF) hk1 ?_)
     repeat' (first | refine wk3 ?_ | (refine wk2 ?_ ?_ <;> intro _) | refine wk4 ?_ | fail); all_goals (conv => whnf)
     exact Zg (by cases fr <;> rfl) rfl
   ·rw [if_neg h2]
    refine bs.pv (sx := sxF) hk1 Tryz.func125 (by kernel_rfl) (by kernel_rfl) rfl ?_
    repeat' (first | refine wk3 ?_ | (refine wk2 ?_ ?_ <;> intro _) | refine wk4 ?_ | fail); all_goals (conv => whnf)
    refine bs.sv (sx := sxF) hk1 Tryz.func159 (by kernel_rfl) (by kernel_rfl) ?_
    refine LpM.start 4 ?_
    refine LpM.succ (bs.av (sx := sxF) hk1 ?_)
    repeat' (first | refine wk3 ?_ | (refine wk2 ?_ ?_ <;> intro _) | refine wk4 ?_ | fail); all_goals (conv => whnf)
    refine bs.sv (sx := sxF) hk1 Tryz.func173 (by kernel_rfl) (by kernel_rfl) ?_
    repeat' (first | refine wk3 ?_ | (refine wk2 ?_ ?_ <;> intro _) | refine wk4 ?_ | fail); all_goals (conv => whnf)
    refine LpM.succ (bs.av (sx := sxF) hk1 ?_)
    repeat' (first | refine wk3 ?_ | (refine wk2 ?_ ?_ <;> intro _) | refine wk4 ?_ | fail); all_goals (conv => whnf)
    refine bs.sv (sx := sxF) hk1 Tryz.func174 (by kernel_rfl) (by kernel_rfl) ?_
    repeat' (first | refine wk3 ?_ | (refine wk2 ?_ ?_ <;> intro _) | refine wk4 ?_ | fail); all_goals (conv => whnf)
    exact Zg (by rw [decide_eq_false h2]; rfl) rfl
  ·rw [if_neg h1]
   refine bs.pv (sx := sxF) hk1 Tryz.func125 (by kernel_rfl) (by kernel_rfl) rfl ?_
   repeat' (first | refine wk3 ?_ | (refine wk2 ?_ ?_ <;> intro _) | refine wk4 ?_ | fail); all_goals (conv => whnf)
   refine bs.sv (sx := sxF) hk1 Tryz.func159 (by kernel_rfl) (by kernel_rfl) ?_
   refine LpM.start 4 ?_
   refine LpM.succ (bs.av (sx := sxF) hk1 ?_)
   repeat' (first | refine wk3 ?_ | (refine wk2 ?_ ?_ <;> intro _) | refine wk4 ?_ | fail); all_goals (conv => whnf)
   refine bs.sv (sx := sxF) hk1 Tryz.func173 (by kernel_rfl) (by kernel_rfl) ?_
   repeat' (first | refine wk3 ?_ | (refine wk2 ?_ ?_ <;> intro _) | refine wk4 ?_ | fail); all_goals (conv => whnf)
   exact Zg (by rw [decide_eq_false h1]; rfl) rfl
 ·rw [if_neg h0]
  generalize Zd2 h s p q = fr at *
  refine bs.pv (sx := sxF) hk0 Tryz.func125 (by kernel_rfl) (by kernel_rfl) rfl ?_
  repeat' (first | refine wk3 ?_ | (refine wk2 ?_ ?_ <;> intro _) | refine wk4 ?_ | fail); all_goals (conv => whnf)
  exact Zg (by rw [decide_eq_false h0]; rfl) rfl
noncomputable abbrev crsT (h : Hal) (s : Stg) : List AV -> Option PRes := famA (fun c : Crs => c.to.wf) (fun c => [h.av,s.av,c.av]) (fun c => ⟨crAV (crsA h s c),[]⟩)
theorem Zsy {h : Hal} {s : Stg} {c : Crs} (hw : c.to.wf) : crsT h s [h.av,s.av,c.av] = some ⟨crAV (crsA h s c),[]⟩ :=
 Ya (p := fun c : Crs => c.to.wf) (g := fun c => [h.av,s.av,c.av]) (r := fun c => ⟨crAV (crsA h s c),[]⟩) (fun j hj => by
  obtain ⟨a,b,d,e,x,y,z,w⟩ := j
  obtain ⟨a',b',d',e',x',y',z',w'⟩ := c
  simp only [List.cons.injEq,AV.agg.injEq,AV.int.injEq,true_and,and_true] at hj
  obtain ⟨rfl,rfl,rfl,rfl,rfl,rfl,rfl,rfl⟩ := hj
  rfl) hw
theorem Zx5 {h : Hal} (hk : h.ok) {s : Stg} (hs : s.few) {pt : PC} (hp : PCOK Tryz.prog pt) : PCOK Tryz.prog (ins 124 (crsT h s) pt) := Yr (fun c hc => c40 hk hs hc) hp
noncomputable abbrev wayT (h : Hal) (s : Stg) : List AV -> Option PRes := famA (fun p : Pt × Pt => p.1.wf /\ p.2.wf) (fun p => [h.av,s.av,wayA p.1 p.2]) (fun p => ⟨.tup [Bo (decide (wayE h s p.1 p.2 = 0) && Zd2 h s p.1 p.2),I (wayE h s p.1 p.2)],[]⟩)
theorem Zrh {h : Hal} {s : Stg} {p q : Pt} (hp : p.wf) (hq : q.wf) : wayT h s [h.av,s.av,wayA p q] = some ⟨.tup [Bo (decide (wayE h s p q = 0) && Zd2 h s p q),I (wayE h s p q)],[]⟩ :=
 Ya (p := fun p : Pt × Pt => p.1.wf /\ p.2.wf) (g := fun p => [h.av,s.av,wayA p.1 p.2]) (r := fun p => ⟨.tup [Bo (decide (wayE h s p.1 p.2 = 0) && Zd2 h s p.1 p.2),I (wayE h s p.1 p.2)],[]⟩) (k := (p,q)) (fun j hj => by
  obtain ⟨⟨a,b,c,d⟩,⟨a2,b2,c2,d2⟩⟩ := j
  obtain ⟨x,y,z,w⟩ := p
  obtain ⟨x2,y2,z2,w2⟩ := q
  simp only [List.cons.injEq,AV.agg.injEq,AV.int.injEq,true_and,and_true] at hj
  obtain ⟨rfl,rfl,rfl,rfl,rfl,rfl,rfl,rfl⟩ := hj
  rfl) ⟨hp,hq⟩
theorem Zu1 {h : Hal} (hk : h.ok) {s : Stg} (hs : s.few) {pt : PC} (hp : PCOK Tryz.prog pt) : PCOK Tryz.prog (ins 125 (wayT h s) pt) := Yr (fun p hw => c37 hk hs hw.1 hw.2) hp
def r123 : List AV -> Option PRes
 | [.agg [.int .i64 x,.int .i64 y,.int .i64 z]] => some ⟨P4 x y z 1,[]⟩
 | _ => none
theorem Zvy {pt : PC} (h : PCOK Tryz.prog pt) : PCOK Tryz.prog (ins 123 r123 pt) := Zj (fun a res h => by unfold r123 at h; split at h <;> cases h; exact d123 _ _ _) h
def sqV (a b c x y z : Int) : Int := IntKind.i64.wrap (IntKind.i64.wrap (IntKind.i64.wrap (IntKind.i64.wrap (a - x) * IntKind.i64.wrap (a - x)) + IntKind.i64.wrap (IntKind.i64.wrap (b - y) * IntKind.i64.wrap (b - y))) + IntKind.i64.wrap (IntKind.i64.wrap (c - z) * IntKind.i64.wrap (c - z)))
theorem d126 (a b c x y z : Int) : PCall Tryz.prog 126 [P3 a b c,P3 x y z] ⟨I (sqV a b c x y z),[]⟩ := by
 refine bs.pv (sx := nos) Zd Tryz.func126 (by kernel_rfl) (by kernel_rfl) rfl ?_
 repeat' (first | refine wk3 ?_ | (refine wk2 ?_ ?_ <;> intro _) | refine wk4 ?_ | fail); all_goals (conv => whnf)
 exact Za rfl
def r126 : List AV -> Option PRes
 | [.agg [.int .i64 a,.int .i64 b,.int .i64 c],.agg [.int .i64 x,.int .i64 y,.int .i64 z]] => some ⟨I (sqV a b c x y z),[]⟩
 | _ => none
theorem Zvx {pt : PC} (h : PCOK Tryz.prog pt) : PCOK Tryz.prog (ins 126 r126 pt) := Zj (fun a res h => by unfold r126 at h; split at h <;> cases h; exact d126 _ _ _ _ _ _) h
theorem Yh4 {ns : List Int} (hl : ns.length < 100000) : PCall Tryz.prog 103 [.isl 1 (nl ns)] ⟨.isl 1 (nl ns),[]⟩ := by
 cases ns with
 | nil => exact Yg7
 | cons n ns => exact (d103 (by simp) hl).freeze ⟨rfl,rfl,rfl⟩
theorem Yh3 {ps : List (Int × Int × Int × Int)} (hl : ps.length < 100000) : PCall Tryz.prog 104 [.isl 4 (ps.map hp4)] ⟨.isl 4 (ps.map hp4),[]⟩ := by
 cases ps with
 | nil => exact Yg6
 | cons n ns => exact (d104 (by simp) hl).freeze ⟨rfl,rfl,rfl⟩
noncomputable abbrev clT : List AV -> Option PRes := famA (fun ps : List (Int × Int × Int × Int) => ps.length < 100000) (fun ps => [.isl 4 (ps.map hp4)]) (fun ps => ⟨.isl 4 (ps.map hp4),[]⟩)
theorem Yhb {pt : PC} (hp : PCOK Tryz.prog pt) : PCOK Tryz.prog (ins 104 clT pt) := Yr (fun ps hl => Yh3 hl) hp
theorem Ye6 {ps : List (Int × Int × Int × Int)} (h : ps.length < 100000) : clT [.isl 4 (ps.map hp4)] = some ⟨.isl 4 (ps.map hp4),[]⟩ :=
 Ya (p := fun ps : List (Int × Int × Int × Int) => ps.length < 100000) (g := fun ps => [.isl 4 (ps.map hp4)]) (r := fun ps => ⟨.isl 4 (ps.map hp4),[]⟩) (fun j hj => by
  simp only [List.cons.injEq,AV.isl.injEq,true_and,and_true] at hj
  rw [hj]) h
def goP (f : Int -> Pl3 -> Pt -> Pt × Int) : List (Int × Pl3) -> Pt -> List Pt -> Option (List Pt)
 | [],_,P => some P
 | (a,q) :: r,to,P => if (f a q to).2 = 0 then goP f r (f a q to).1 ((f a q to).1 :: P) else none
def chkW (w : Pt -> Pt -> Bool) : List Pt -> Bool
 | p :: q :: r => w p q && chkW w (q :: r)
 | _ => true
def pnt (q : Pl3) : Pt := ⟨q.1,q.2.1,q.2.2,1⟩
def tup4 (p : Pt) : Int × Int × Int × Int := (p.x,p.y,p.z,p.d)
def fP (h : Hal) (s : Stg) (a : Int) (q : Pl3) (to : Pt) : Pt × Int := crsA h s ⟨a,q.1,q.2.1,q.2.2,to⟩
def wP (h : Hal) (s : Stg) (p q : Pt) : Bool := decide (wayE h s p q = 0) && Zd2 h s p q
def pthQ (h : Hal) (s : Stg) (q0 q1 : Pl3) (l : List (Int × Pl3)) : Option Pth :=
 match goP (fP h s) l.reverse (pnt q1) [] with
 | none => none
 | some P => if chkW (wP h s) (pnt q0 :: P ++ [pnt q1]) then some ⟨l.map (·.1),P.map tup4,sqV (l.getLastD (0,q0)).2.1 (l.getLastD (0,q0)).2.2.1 (l.getLastD (0,q0)).2.2.2 q1.1 q1.2.1 q1.2.2⟩ else none
def ansP : Option Pth -> AV
 | none => .tup [.agg [.isl 1 [],.isl 4 [],I 0],Bo false]
 | some p => .tup [p.av,Bo true]
theorem Zk6 : Pt.wf ptZ := ⟨⟨by decide,by decide⟩,⟨by decide,by decide⟩,⟨by decide,by decide⟩,⟨by decide,by decide⟩⟩
theorem Zx6 {h : Hal} {s : Stg} (c : Crs) (hk : h.ok) (hs : s.few) : (crsA h s c).1.wf := by
 unfold crsA
 split
 ·rename_i e
  obtain ⟨g,hi,ho,_⟩ := Zx9 hk hs e
  unfold Zal
  split
  ·exact Zk6
  ·rename_i hsn
   split
   ·split
    ·exact Zk6
    ·exact (Zbh (Za8 ho hsn)).2.2.1.wf
   ·exact Zk6
 ·exact Zk6
theorem Zr3 {q : Pl3} (h : Near 5000 q) : (pnt q).wf := by
 obtain ⟨h1,h2,h3⟩ := h
 unfold pnt
 exact ⟨⟨by dsimp only; omega,by dsimp only; omega⟩,⟨by dsimp only; omega,by dsimp only; omega⟩,⟨by dsimp only; omega,by dsimp only; omega⟩,⟨by dsimp only; omega,by dsimp only; omega⟩⟩
def rawP : Option Pth -> AV
 | none => .tup [.agg [.nils,.nils,I 0],Bo false]
 | some p => .tup [p.av,Bo true]
theorem Zzr (o : Option Pth) : Frz [] (rawP o) (ansP o) := by
 cases o with
 | none => exact ⟨⟨rfl,rfl,⟨rfl,rfl⟩,trivial⟩,⟨rfl,rfl⟩,trivial⟩
 | some p => exact ⟨⟨⟨rfl,rfl⟩,⟨rfl,rfl⟩,⟨rfl,rfl⟩,trivial⟩,⟨rfl,rfl⟩,trivial⟩
theorem Zzq (o : Option Pth) : Vf 0 (rawP o) = true := by cases o <;> rfl
noncomputable abbrev oneA (a : List AV) (r : PRes) : List AV -> Option PRes := famA (fun _ : Unit => True) (fun _ => a) (fun _ => r)
theorem Zfk {f : FuncId} {a : List AV} {r : PRes} (h : PCall Tryz.prog f a r) {pt : PC} (hp : PCOK Tryz.prog pt) : PCOK Tryz.prog (ins f (oneA a r) pt) := Yr (fun _ _ => h) hp
theorem Zcn (a : List AV) (r : PRes) : oneA a r a = some r := Ya (p := fun _ : Unit => True) (g := fun _ => a) (r := fun _ => r) (k := ()) (fun _ _ => rfl) trivial
def lkG (f : Int -> Pl3 -> Pl3) : Pl3 -> List Int -> List (Int × Pl3)
 | _,[] => []
 | q,n :: r => (n,f n q) :: lkG f (f n q) r
theorem Yaj (f : Int -> Pl3 -> Pl3) (q : Pl3) (n : Int) (r : List Int) (k : Nat) : imA f q (n :: r) (k + 1) = imA f (f n q) r k := rfl
theorem Zao (f : Int -> Pl3 -> Pl3) : ∀ (q : Pl3) (ns : List Int),(lkG f q ns).length = ns.length
 | _,[] => rfl
 | q,n :: r => by rw [lkG,List.length_cons,Zao f _ r,List.length_cons]
theorem Zwp (f : Int -> Pl3 -> Pl3) : ∀ (q : Pl3) (ns : List Int) (k : Nat) (hk : k < ns.length),(lkG f q ns)[k]? = some (ns[k],imA f q ns (k + 1))
 | q,n :: r,0,hk => rfl
 | q,n :: r,k + 1,hk => by
  rw [lkG,List.getElem?_cons_succ,Zwp f _ r k (by simpa using hk),Yaj]
  rfl
theorem Zwo (f : Int -> Pl3 -> Pl3) : ∀ (q : Pl3) (ns : List Int),(lkG f q ns).map (·.1) = ns
 | _,[] => rfl
 | q,n :: r => by rw [lkG,List.map_cons,Zwo f _ r]
theorem Zsa (f : Int -> Pl3 -> Pl3) : ∀ (q : Pl3) (ns : List Int) (x : Int),((lkG f q ns).getLastD (x,q)).2 = imA f q ns ns.length
 | _,[],_ => rfl
 | q,n :: r,x => by
  rw [lkG,List.getLastD_cons,Zsa f _ r n]
  rfl
theorem Zmo {f : Int -> Pl3 -> Pl3} {q : Pl3} {ns : List Int} {k : Nat} (hk : k < ns.length) : ((lkG f q ns).take (k + 1)).reverse = (ns[k],imA f q ns (k + 1)) :: ((lkG f q ns).take k).reverse := by
 have hk2 : k < (lkG f q ns).length := by rw [Zao]; exact hk
 have e := Zwp f q ns k hk
 rw [List.getElem?_eq_getElem hk2,Option.some.injEq] at e
 rw [List.take_succ_eq_append_getElem hk2,List.reverse_append,e]
 rfl
def Yq (h : Hal) (s : Stg) (q0 q1 : Pl3) (ns : List Int) : Option Pth := pthQ h s q0 q1 (lkG (im1 h s) q0 ns)
theorem Zbk (h : Hal) (s : Stg) (q0 q1 : Pl3) (ns : List Int) : Yq h s q0 q1 ns = match goP (fP h s) (lkG (im1 h s) q0 ns).reverse (pnt q1) [] with
  | none => none
  | some P => if chkW (wP h s) (pnt q0 :: P ++ [pnt q1]) then some ⟨ns,P.map tup4,sqV (imA (im1 h s) q0 ns ns.length).1 (imA (im1 h s) q0 ns ns.length).2.1 (imA (im1 h s) q0 ns ns.length).2.2 q1.1 q1.2.1 q1.2.2⟩ else none := by
 unfold Yq pthQ
 rw [Zwo,Zsa]
 all_goals (cases goP (fP h s) (lkG (im1 h s) q0 ns).reverse (pnt q1) [] <;> rfl)
abbrev ptc (p : Pt) : List AV := [I p.x,I p.y,I p.z,I p.d]
theorem Zg8 {l : List Pt} {k : Nat} (hk : k < l.length) : (l.map ptc)[k]? = some (ptc l[k]) := by simp [hk]
theorem Zni (l : List Pt) (i : Nat) (p : Pt) : Zc9 (l.map ptc) i (ptc p) = (l.set i p).map ptc := by rw [Xn,List.map_set]
theorem Zcw {l : List Pt} {k : Nat} (hk : k < l.length) (p : Pt) : (l.set k p).drop k = p :: l.drop (k + 1) := by
 rw [List.drop_eq_getElem_cons (by rw [List.length_set]; exact hk),List.getElem_set_self,List.drop_set,if_pos (by omega)]
theorem Zpc {w : Pt -> Pt -> Bool} {l : List Pt} {k : Nat} (hk : k + 1 < l.length) : chkW w (l.drop k) = (w l[k] l[k + 1] && chkW w (l.drop (k + 1))) := by
 rw [List.drop_eq_getElem_cons (show k < l.length by omega),List.drop_eq_getElem_cons hk,chkW]
theorem Zpd {w : Pt -> Pt -> Bool} {l : List Pt} {k : Nat} (hk : k + 1 = l.length) : chkW w (l.drop k) = true := by
 rw [List.drop_eq_getElem_cons (show k < l.length by omega),List.drop_of_length_le (by omega)]; rfl
noncomputable def kPth (h : Hal) (s : Stg) (q0 : Pl3) (ns : List Int) : PC := ins 82 (oneA [.agg (stgL h s),P3 q0.1 q0.2.1 q0.2.2,.isl 1 (nl ns)] ⟨.isl 3 (imC (im1 h s) q0 ns ns.length),[]⟩) (ins 123 r123 (ins 124 (crsT h s) (ins 125 (wayT h s) (ins 126 r126 (ins 104 clT (ins 103 (oneA [.isl 1 (nl ns)] ⟨.isl 1 (nl ns),[]⟩) pt0))))))
theorem Yec {h : Hal} (hk : h.ok) {s : Stg} (hs : s.few) (e0 : serr h s = 0) {q0 : Pl3} (hf : Near 5000 q0) {ns : List Int} (hl : ns.length <= 4) (hi : ∀ n ∈ ns,0 <= n /\ n < nsur h) : PCOK Tryz.prog (kPth h s q0 ns) :=
 Zfk (d82f hk hs e0 hf hl hi) (Zvy (Zx5 hk hs (Zu1 hk hs (Zvx (Yhb (Zfk (Yh4 (ns := ns) (by omega)) Zd))))))
set_option maxRecDepth 100000 in
set_option maxHeartbeats 16000000 in
theorem d65 {h : Hal} (hk : h.ok) {s : Stg} (hs : s.few) (e0 : serr h s = 0) (a : Ask) (hf : Near 5000 (a.fx,a.fy,a.fz)) (ht : Near 5000 (a.tx,a.ty,a.tz)) {ns : List Int} (hl : ns.length <= 4) (hi : ∀ n ∈ ns,0 <= n /\ n < nsur h) :
  PCall Tryz.prog 65 [.agg (stgL h s),a.av,.isl 1 (nl ns)] ⟨rawP (Yq h s (a.fx,a.fy,a.fz) (a.tx,a.ty,a.tz) ns),[]⟩ := by
 obtain ⟨fx,fy,fz,tx,ty,tz,n⟩ := a
 dsimp only at hf ht ⊢
 have hk0 := Yec hk hs e0 hf hl hi
 unfold kPth at hk0
 have w0 := Zr3 hf
 have wT := Zr3 ht
 have ll := Zl ns
 have o1 := Zcn [.agg (stgL h s),P3 fx fy fz,.isl 1 (nl ns)] ⟨.isl 3 (imC (im1 h s) (fx,fy,fz) ns ns.length),[]⟩
 have o2 := Zcn [.isl 1 (nl ns)] ⟨.isl 1 (nl ns),[]⟩
 have hR := Zbk h s (fx,fy,fz) (tx,ty,tz) ns
 generalize Yq h s (fx,fy,fz) (tx,ty,tz) ns = R at *
 have il := Zjo (im1 h s) (fx,fy,fz) ns ns.length
 have x2 : IntKind.i64.wrap (((nl ns).length : Int) + 2) = ((ns.length + 2 : Nat) : Int) := by rw [ll,W_eq (by omega) (by omega)]; omega
 have x1 : IntKind.i64.wrap (((nl ns).length : Int) + 1) = ((ns.length + 1 : Nat) : Int) := by rw [ll,W_eq (by omega) (by omega)]; omega
 have a1 : decide (0 <= IntKind.i64.wrap (((nl ns).length : Int) + 2) /\ (IntKind.i64.wrap (((nl ns).length : Int) + 2)).toNat <= 1000000) = true := by rw [x2]; exact decide_eq_true ⟨by omega,by omega⟩
 have g0 : (List.replicate (IntKind.i64.wrap (((nl ns).length : Int) + 2)).toNat (ptc ptZ))[0 + Int.toNat 0]? = some (ptc ptZ) := by
  rw [x2,Int.toNat_natCast,List.getElem?_replicate,if_pos (by omega)]
 have g1 : (Zc9 (List.replicate (IntKind.i64.wrap (((nl ns).length : Int) + 2)).toNat (ptc ptZ)) (0 + Int.toNat 0) (ptc (pnt (fx,fy,fz))))[0 + (IntKind.i64.wrap (((nl ns).length : Int) + 1)).toNat]? = some (ptc ptZ) := by
  rw [Xn,x2,x1,List.getElem?_set,if_neg (by omega)]; simp
 have hE0 : Zc9 (Zc9 (List.replicate (IntKind.i64.wrap (((nl ns).length : Int) + 2)).toNat (ptc ptZ)) (0 + Int.toNat 0) (ptc (pnt (fx,fy,fz)))) (0 + (IntKind.i64.wrap (((nl ns).length : Int) + 1)).toNat) (ptc (pnt (tx,ty,tz))) = (((List.replicate (ns.length + 2) ptZ).set 0 (pnt (fx,fy,fz))).set (ns.length + 1) (pnt (tx,ty,tz))).map ptc := by
  rw [Xn,Xn,x2,x1,List.map_set,List.map_set,List.map_replicate]
  congr 1
  omega
 refine bs.pv (sx := nos) hk0 Tryz.func65 (by kernel_rfl) (by kernel_rfl) (Zzq _) ?_
 unfold Zhs
 conv => whnf
 repeat' (first | refine wk3 ?_ | (refine wk2 ?_ ?_ <;> intro _) | refine wk4 ?_ | fail); all_goals (conv => whnf)
 obtain ⟨l,hlk⟩ : ∃ l,l = lkG (im1 h s) (fx,fy,fz) ns := ⟨_,rfl⟩
 have hll : l.length = ns.length := by rw [hlk,Zao]
 have hlt' : ∀ {k : Nat} (hk : k < ns.length),(l.take (k + 1)).reverse = (ns[k],imA (im1 h s) (fx,fy,fz) ns (k + 1)) :: (l.take k).reverse := fun hk => by rw [hlk]; exact Zmo hk
 rw [<-hlk] at hR
 clear hlk
 refine Yc (S := Nat × Int × List (List AV) × List Pt) (fun t => t.1) (fun t => [(2,.isl 1 (nl ns)),(3,.ptr 0 0 0),(4,.ptr 1 0 0),(6,.ptr 2 0 0),(8,.isl 3 (imC (im1 h s) (fx,fy,fz) ns ns.length)),(9,I (nl ns).length),(10,.asl 3 0 (IntKind.i64.wrap (((nl ns).length : Int) + 2)).toNat),(11,I t.2.1)])
  (fun t => [(3,.row 4 t.2.2.1 true true),(2,.row 3 [[.nils,.nils,I 0]] true false),(1,.row 7 [[I fx,I fy,I fz,I tx,I ty,I tz,I n]] true false),(0,.row 11 [stgL h s] true false)]) 18 18
  (fun t => t.2.1 = t.1 /\ t.1 <= ns.length /\ t.2.2.1 = t.2.2.2.map ptc /\ t.2.2.2.length = ns.length + 2 /\ t.2.2.2[0]? = some (pnt (fx,fy,fz)) /\ (∀ p ∈ t.2.2.2,p.wf) /\ ∃ to P Q,t.2.2.2.drop (t.1 + 1) = to :: Q /\ P ++ [pnt (tx,ty,tz)] = to :: Q /\ goP (fP h s) (l.take t.1).reverse to P = goP (fP h s) l.reverse (pnt (tx,ty,tz)) [])
  (ns.length,(nl ns).length,_,(((List.replicate (ns.length + 2) ptZ).set 0 (pnt (fx,fy,fz))).set (ns.length + 1) (pnt (tx,ty,tz)))) ⟨by dsimp only; rw [ll],Nat.le_refl _,hE0,by simp,by simp,?_,pnt (tx,ty,tz),[],[],by rw [Zcw (by simp)]; simp,rfl,by rw [<-hll,List.take_length]⟩ (Nat.le_refl _) [] rfl (kps) (kps) ?_
 ·intro p hp
  rcases List.mem_or_eq_of_mem_set hp with hp | rfl
  ·rcases List.mem_or_eq_of_mem_set hp with hp | rfl
   ·rw [List.eq_of_mem_replicate hp]; exact Zk6
   ·exact w0
  ·exact wT
 clear g0 g1 hE0 a1
 rintro ⟨k,i,els,pts⟩ ⟨hi1,hk1,hels,hpl,hp0,hwf,to,P,Q,hd,hPQ,hgo⟩
 dsimp only at hi1 hk1 hels hpl hp0 hwf hd hPQ hgo ⊢
 subst hi1 hels
 have lp : (pts.map ptc).length = ns.length + 2 := by rw [List.length_map,hpl]
 refine bs.av (sx := nos) hk0 ?_
 cases k with
 | succ j =>
  have b0 : ((j + 1 : Nat) : Int) >= 1 := by omega
  have b1 : IntKind.i64.wrap (((j + 1 : Nat) : Int) - 1) = j := by rw [W_eq (by omega) (by omega)]; omega
  have b2 : IntKind.i64.wrap (((j + 1 : Nat) : Int) + 1) = ((j + 2 : Nat) : Int) := by rw [W_eq (by omega) (by omega)]; omega
  have e1 : (nl ns)[(IntKind.i64.wrap (((j + 1 : Nat) : Int) - 1)).toNat]? = some [I ns[j]] := by rw [b1]; simp [nl]
  have e2 : (imC (im1 h s) (fx,fy,fz) ns ns.length)[((j + 1 : Nat) : Int).toNat]? = some (pl3 (imA (im1 h s) (fx,fy,fz) ns (j + 1))) := by
   rw [Int.toNat_natCast]; unfold imC; rw [List.getElem?_map,List.getElem?_range (by omega)]; rfl
  have hto : pts[j + 2]? = some to := by rw [<-List.head?_drop,hd]; rfl
  have e3 : (pts.map ptc)[0 + (IntKind.i64.wrap (((j + 1 : Nat) : Int) + 1)).toNat]? = some (ptc to) := by rw [b2,Int.toNat_natCast,Nat.zero_add,List.getElem?_map,hto]; rfl
  have e4 : (pts.map ptc)[0 + ((j + 1 : Nat) : Int).toNat]? = some (ptc (pts[j + 1]'(by omega))) := by rw [Int.toNat_natCast,Nat.zero_add]; exact Zg8 (by omega)
  have wto : to.wf := hwf _ (List.mem_of_getElem? hto)
  rw [hlt' (by omega),goP] at hgo
  have c1 := Zsy (h := h) (s := s) (c := ⟨ns[j],(imA (im1 h s) (fx,fy,fz) ns (j + 1)).1,(imA (im1 h s) (fx,fy,fz) ns (j + 1)).2.1,(imA (im1 h s) (fx,fy,fz) ns (j + 1)).2.2,to⟩) wto
  have w1 := Zx6 (h := h) (s := s) ⟨ns[j],(imA (im1 h s) (fx,fy,fz) ns (j + 1)).1,(imA (im1 h s) (fx,fy,fz) ns (j + 1)).2.1,(imA (im1 h s) (fx,fy,fz) ns (j + 1)).2.2,to⟩ hk hs
  have hfp : fP h s ns[j] (imA (im1 h s) (fx,fy,fz) ns (j + 1)) to = crsA h s ⟨ns[j],(imA (im1 h s) (fx,fy,fz) ns (j + 1)).1,(imA (im1 h s) (fx,fy,fz) ns (j + 1)).2.1,(imA (im1 h s) (fx,fy,fz) ns (j + 1)).2.2,to⟩ := rfl
  rw [hfp] at hgo
  clear hfp
  generalize crsA h s ⟨ns[j],(imA (im1 h s) (fx,fy,fz) ns (j + 1)).1,(imA (im1 h s) (fx,fy,fz) ns (j + 1)).2.1,(imA (im1 h s) (fx,fy,fz) ns (j + 1)).2.2,to⟩ = r at *
  obtain ⟨⟨x,y,z,d⟩,E⟩ := r
  generalize imA (im1 h s) (fx,fy,fz) ns (j + 1) = q at *
  obtain ⟨qx,qy,qz⟩ := q
  obtain ⟨X,Y,Z,V⟩ := to
  dsimp only at hgo w1 c1
  by_cases hE : E = 0
  ·subst hE
   rw [if_pos rfl] at hgo
   have hs1 : Zc9 (pts.map ptc) (0 + ((j + 1 : Nat) : Int).toNat) (ptc ⟨x,y,z,d⟩) = (pts.set (j + 1) ⟨x,y,z,d⟩).map ptc := by
    rw [Int.toNat_natCast,Nat.zero_add]; exact Zni _ _ _
   repeat' (first | refine wk3 ?_ | (refine wk2 ?_ ?_ <;> intro _) | refine wk4 ?_ | fail); all_goals (conv => whnf)
   exact Done.mk ⟨(j,_,_,pts.set (j + 1) ⟨x,y,z,d⟩),[],rfl,kps,kps,⟨b1,by dsimp only; omega,hs1,by dsimp only; rw [List.length_set,hpl],by dsimp only; rw [List.getElem?_set,if_neg (by omega)]; exact hp0,(fun p hp => by
    rcases List.mem_or_eq_of_mem_set hp with hp | rfl
    ·exact hwf p hp
    ·exact w1),⟨x,y,z,d⟩,⟨x,y,z,d⟩ :: P,⟨X,Y,Z,V⟩ :: Q,by dsimp only; rw [Zcw (by omega),hd],by rw [List.cons_append,hPQ],hgo⟩,by dsimp only; omega⟩
  ·rw [if_neg hE] at hgo
   rw [<-hgo] at hR
   dsimp only at hR
   subst hR
   repeat' (first | refine wk3 ?_ | (refine wk2 ?_ ?_ <;> intro _) | refine wk4 ?_ | fail); all_goals (conv => whnf)
   all_goals exact Zg rfl rfl
 | zero =>
  have hpe : pts = pnt (fx,fy,fz) :: P ++ [pnt (tx,ty,tz)] := by
   rw [List.cons_append,hPQ,<-hd]
   clear hk0 hwf lp hpl
   cases pts with
   | nil => cases hp0
   | cons p r => cases hp0; rfl
  rw [List.take_zero,List.reverse_nil,goP] at hgo
  rw [<-hgo] at hR
  dsimp only at hR
  rw [<-hpe] at hR
  have hPl : P.length = ns.length := by
   have := congrArg List.length hpe
   simp at this; omega
  clear hgo hlt' hd hPQ Q to
  repeat' (first | refine wk3 ?_ | (refine wk2 ?_ ?_ <;> intro _) | refine wk4 ?_ | fail); all_goals (conv => whnf)
  refine Yc (S := Nat × Int) (fun t => ns.length + 1 - t.1) (fun t => [(2,.isl 1 (nl ns)),(3,.ptr 0 0 0),(4,.ptr 1 0 0),(6,.ptr 2 0 0),(8,.isl 3 (imC (im1 h s) (fx,fy,fz) ns ns.length)),(9,I (nl ns).length),(10,.asl 3 0 (IntKind.i64.wrap (((nl ns).length : Int) + 2)).toNat),(75,I (IntKind.i64.wrap (((nl ns).length : Int) + 1))),(76,I t.2)])
   (fun t => [(3,.row 4 (pts.map ptc) true true),(2,.row 3 [[.nils,.nils,I 0]] true false),(1,.row 7 [[I fx,I fy,I fz,I tx,I ty,I tz,I n]] true false),(0,.row 11 [stgL h s] true false)]) 18 18
   (fun t => t.2 = t.1 /\ t.1 <= ns.length + 1 /\ chkW (wP h s) (pts.drop t.1) = chkW (wP h s) pts) (0,0) ⟨rfl,Nat.zero_le _,rfl⟩ (Nat.le_refl _) [] rfl (kps) (kps) ?_
  rintro ⟨k,i⟩ ⟨hi1,hk1,hck⟩
  dsimp only at hi1 hk1 hck ⊢
  subst hi1
  by_cases hlt : k < ns.length + 1
  ·have b0 : ((k : Nat) : Int) < IntKind.i64.wrap (((nl ns).length : Int) + 1) := by rw [x1]; omega
   have b2 : IntKind.i64.wrap (((k : Nat) : Int) + 1) = ((k + 1 : Nat) : Int) := by rw [W_eq (by omega) (by omega)]; omega
   have e3 : (pts.map ptc)[0 + ((k : Nat) : Int).toNat]? = some (ptc (pts[k]'(by omega))) := by rw [Int.toNat_natCast,Nat.zero_add]; exact Zg8 (by omega)
   have e4 : (pts.map ptc)[0 + (IntKind.i64.wrap (((k : Nat) : Int) + 1)).toNat]? = some (ptc (pts[k + 1]'(by omega))) := by rw [b2,Int.toNat_natCast,Nat.zero_add]; exact Zg8 (by omega)
   rw [Zpc (by omega)] at hck
   have v1 := Zrh (h := h) (s := s) (hwf (pts[k]'(by omega)) (List.getElem_mem _)) (hwf (pts[k + 1]'(by omega)) (List.getElem_mem _))
   have hw : wP h s (pts[k]'(by omega)) (pts[k + 1]'(by omega)) = (decide (wayE h s (pts[k]'(by omega)) (pts[k + 1]'(by omega)) = 0) && Zd2 h s (pts[k]'(by omega)) (pts[k + 1]'(by omega))) := rfl
   rw [hw] at hck
   clear hw
   generalize (pts[k]'(by omega)) = p1 at *
   generalize (pts[k + 1]'(by omega)) = p2 at *
   generalize wayE h s p1 p2 = u at *
   generalize Zd2 h s p1 p2 = f at *
   obtain ⟨x1,y1,z1,d1⟩ := p1
   obtain ⟨x2,y2,z2,d2⟩ := p2
   refine bs.av (sx := nos) hk0 ?_
   cases hb : (decide (u = 0) && f) with
   | true =>
    rw [hb,Bool.true_and] at hck
    repeat' (first | refine wk3 ?_ | (refine wk2 ?_ ?_ <;> intro _) | refine wk4 ?_ | fail); all_goals (conv => whnf)
    all_goals first
     | (exfalso; clear hk0; simp_all; done)
     | exact Done.mk ⟨(k + 1,_),[],rfl,kps,kps,⟨b2,hlt,hck⟩,by dsimp only; omega⟩
   | false =>
    rw [hb,Bool.false_and] at hck
    rw [<-hck,if_neg (by simp)] at hR
    subst hR
    repeat' (first | refine wk3 ?_ | (refine wk2 ?_ ?_ <;> intro _) | refine wk4 ?_ | fail); all_goals (conv => whnf)
    all_goals first
     | exact Zg rfl rfl
     | (exfalso; clear hk0; simp_all; done)
  ·have hke : k = ns.length + 1 := by omega
   subst hke
   rw [Zpd (by omega)] at hck
   rw [<-hck,if_pos rfl] at hR
   subst hR
   refine Awp.froz [3] rfl (bs.av (sx := nos) hk0 ?_)
   conv => whnf
   repeat' (first | refine wk3 ?_ | (refine wk2 ?_ ?_ <;> intro _) | refine wk4 ?_ | fail); all_goals (conv => whnf)
   have y1 : Zet (some (I (IntKind.i64.wrap (((nl ns).length : Int) + 1)))) (IntKind.i64.wrap (((nl ns).length : Int) + 2)).toNat = some (ns.length + 1) := by
    show cond (decide (0 <= IntKind.i64.wrap (((nl ns).length : Int) + 1))) (some (IntKind.i64.wrap (((nl ns).length : Int) + 1)).toNat) none = _
    rw [x1,decide_eq_true (by omega)]
    simp only [cond_true,Option.some.injEq]; omega
   have cl : clT [.isl 4 (List.take (ns.length + 1 - Int.toNat 1) (List.drop (0 + Int.toNat 1) (pts.map ptc)))] = some ⟨.isl 4 ((P.map tup4).map hp4),[]⟩ := by
    have e : List.take (ns.length + 1 - Int.toNat 1) (List.drop (0 + Int.toNat 1) (pts.map ptc)) = (P.map tup4).map hp4 := by
     rw [hpe,List.cons_append,List.map_cons,show (0 + Int.toNat 1) = 1 from rfl,List.drop_succ_cons,List.drop_zero,List.map_append,show ns.length + 1 - Int.toNat 1 = (P.map ptc).length by rw [List.length_map,hPl]; omega,List.take_left,List.map_map]
     rfl
    rw [e]
    exact Ye6 (by rw [List.length_map]; omega)
   have e5 : (imC (im1 h s) (fx,fy,fz) ns ns.length)[((nl ns).length : Int).toNat]? = some (pl3 (imA (im1 h s) (fx,fy,fz) ns ns.length)) := by
    rw [Int.toNat_natCast,ll]; exact Zmp _ _ _ _
   refine Zlu rfl rfl rfl rfl rfl rfl y1 (by omega) (by rw [x2]; omega) (by rw [x2]; omega) ?_
   conv => whnf
   generalize imA (im1 h s) (fx,fy,fz) ns ns.length = q at *
   obtain ⟨qx,qy,qz⟩ := q
   repeat' (first | refine wk3 ?_ | (refine wk2 ?_ ?_ <;> intro _) | refine wk4 ?_ | fail); all_goals (conv => whnf)
   exact Zg rfl rfl
theorem Zj4 {h : Hal} {s : Stg} (g : Sit h s) (e0 : serr h s = 0) {n : Int} (hn : 0 <= n /\ n < nsur h) {q : Pl3} (hq : Near 45000 q) {to : Pt} (hto : Yv to = 0) :
  CrOk (Ze h s n) ⟨n,q.1,q.2.1,q.2.2,to⟩ /\ SK h n /\ crsA h s ⟨n,q.1,q.2.1,q.2.2,to⟩ = Zal (Zh6 h n) (Ze h s n) ⟨n,q.1,q.2.1,q.2.2,to⟩ /\
  ((crsA h s ⟨n,q.1,q.2.1,q.2.2,to⟩).2 = 0 -> Yv (crsA h s ⟨n,q.1,q.2.1,q.2.2,to⟩).1 = 0 /\ valN (Ze h s n).1 (crsA h s ⟨n,q.1,q.2.1,q.2.2,to⟩).1.x (crsA h s ⟨n,q.1,q.2.1,q.2.2,to⟩).1.y (crsA h s ⟨n,q.1,q.2.1,q.2.2,to⟩).1.z = (Ze h s n).2 * (crsA h s ⟨n,q.1,q.2.1,q.2.2,to⟩).1.d) := by
 have hi := Zmb hn.1 hn.2
 obtain ⟨⟨b1,b2⟩,b3⟩ := Zcl g hi
 obtain ⟨h1,h2,h3⟩ := hq
 obtain ⟨p1,p2,_,p4⟩ := Zby hto
 unfold ptIn at p4
 simp only [Bool.and_eq_true,within_iff] at p4
 have ho : CrOk (Ze h s n) ⟨n,q.1,q.2.1,q.2.2,to⟩ := ⟨b1,b2,b3,h1,h2,h3,p1,p2,p4.1.1,p4.1.2,p4.2⟩
 have he : crsE h s ⟨n,q.1,q.2.1,q.2.2,to⟩ = 0 := by
  unfold crsE surE Vt img
  rw [if_pos e0,if_pos (within_iff.2 (by dsimp only; omega)),if_pos rfl,if_pos (by simp only [Bool.and_eq_true,within_iff]; omega)]
  exact hto
 have hA : crsA h s ⟨n,q.1,q.2.1,q.2.2,to⟩ = Zal (Zbb h n) (Ze h s n) ⟨n,q.1,q.2.1,q.2.2,to⟩ := by unfold crsA; rw [if_pos he]
 refine ⟨ho,hi,by rw [hA]; exact Ya0 (c := ⟨n,q.1,q.2.1,q.2.2,to⟩) g hi ho,fun hz => ?_⟩
 rw [hA] at hz ⊢
 refine ⟨Zq5 (c := ⟨n,q.1,q.2.1,q.2.2,to⟩) g hi ho hz,?_⟩
 unfold Zal at hz ⊢
 split at hz
 ·cases hz
 ·rename_i hs
  split at hz
  ·rename_i hw
   split at hz
   ·cases hz
   ·rename_i hd
    rw [if_neg hs,if_pos hw,if_neg hd]
    exact Zft ho hs
  ·cases hz
theorem Yen (a b c : Int) : Nat.gcd (Nat.gcd a.natAbs b.natAbs) (Nat.gcd c.natAbs (1 : Int).natAbs) = 1 := by
 rw [show (1 : Int).natAbs = 1 from rfl,Nat.gcd_one_right,Nat.gcd_one_right]
theorem Zds {q : Pl3} (h : Near 5000 q) : Yv (pnt q) = 0 := by
 obtain ⟨h1,h2,h3⟩ := h
 unfold Yv pnt g4 ptIn
 dsimp only
 rw [Yen,if_neg (by simp),if_neg (by omega),if_pos (by simp only [Bool.and_eq_true,within_iff]; omega)]
theorem Yfl {h : Hal} {ns : List Int} (hi : ∀ n ∈ ns,0 <= n /\ n < nsur h) : ∀ n ∈ ns,SK h n := fun n hn => Zmb (hi n hn).1 (hi n hn).2
theorem Zo {m k : Int} (h : k <= m) {p : Pl3} (hp : Near k p) : Near m p := by
 obtain ⟨h1,h2,h3⟩ := hp
 exact ⟨by omega,by omega,by omega⟩
abbrev Pt4 := Int × Int × Int × Int
def eqP4 (a b : Pt4) : Bool := decide (a.1 = b.1) && (decide (a.2.1 = b.2.1) && (decide (a.2.2.1 = b.2.2.1) && decide (a.2.2.2 = b.2.2.2)))
def eqP : List Pt4 -> List Pt4 -> Bool
 | [],[] => true
 | x :: a,y :: b => eqP4 x y && eqP a b
 | _,_ => false
theorem eqP4_iff {a b : Pt4} : eqP4 a b = true ↔ a = b := by
 obtain ⟨a1,a2,a3,a4⟩ := a
 obtain ⟨b1,b2,b3,b4⟩ := b
 simp [eqP4]
theorem Zqv : ∀ {a b : List Pt4},eqP a b = true ↔ a = b
 | [],[] => by simp [eqP]
 | x :: a,y :: b => by rw [eqP,Bool.and_eq_true,eqP4_iff,Zqv]; simp
 | [],y :: b => by simp [eqP]
 | x :: a,[] => by simp [eqP]
theorem Yey {a b : List Pt4} (h : a.length ≠ b.length) : eqP a b = false := by
 rw [Bool.eq_false_iff,ne_eq,Zqv]
 intro e; exact h (by rw [e])
def same (a b : Pth) : Bool := eqN a.ss b.ss && (decide (a.sq = b.sq) && eqP a.ps b.ps)
theorem same_iff {a b : Pth} : same a b = true ↔ a = b := by
 obtain ⟨a1,a2,a3⟩ := a
 obtain ⟨b1,b2,b3⟩ := b
 unfold same
 rw [Bool.and_eq_true,Bool.and_eq_true,Zqw,Zqv,decide_eq_true_eq]
 simp only [Pth.mk.injEq]
 exact ⟨fun ⟨h1,h2,h3⟩ => ⟨h1,h3,h2⟩,fun ⟨h1,h2,h3⟩ => ⟨h1,h3,h2⟩⟩
theorem Ycj (l : List Pt4) : (l.map hp4).length = l.length := by simp
theorem Yck {l : List Pt4} {k : Nat} (h : k < l.length) : (l.map hp4)[((k : Nat) : Int).toNat]? = some (hp4 l[k]) := by simp [h]
set_option maxRecDepth 100000 in
set_option maxHeartbeats 8000000 in
theorem d20 {a b : Pth} (ha : a.ss.length < 1000000) (hb : b.ss.length < 1000000) (ka : a.ps.length < 1000000) (kb : b.ps.length < 1000000) : PCall Tryz.prog 20 [a.av,b.av] ⟨Bo (same a b),[]⟩ := by
 obtain ⟨a1,a2,a3⟩ := a
 obtain ⟨b1,b2,b3⟩ := b
 dsimp only at ha hb ka kb
 have l1 := Ycj a2
 have l2 := Ycj b2
 have q1 := Yae ha hb
 have hk : PCOK Tryz.prog (ins 58 Yek pt0) := Yaf Zd
 unfold same
 dsimp only
 cases h1 : eqN a1 b1
 ·rw [h1] at q1
  refine bs.pv (sx := nos) hk Tryz.func20 (by kernel_rfl) (by kernel_rfl) rfl ?_
  repeat' (first | refine wk3 ?_ | (refine wk2 ?_ ?_ <;> intro _) | refine wk4 ?_ | fail); all_goals (conv => whnf)
  exact Zc rfl
 rw [h1] at q1
 by_cases h2 : a3 = b3
 rotate_left
 ·rw [decide_eq_false h2]
  refine bs.pv (sx := nos) hk Tryz.func20 (by kernel_rfl) (by kernel_rfl) rfl ?_
  repeat' (first | refine wk3 ?_ | (refine wk2 ?_ ?_ <;> intro _) | refine wk4 ?_ | fail); all_goals (conv => whnf)
  exact Zc rfl
 rw [decide_eq_true h2]
 by_cases h3 : a2.length = b2.length
 rotate_left
 ·rw [Yey h3]
  refine bs.pv (sx := nos) hk Tryz.func20 (by kernel_rfl) (by kernel_rfl) rfl ?_
  repeat' (first | refine wk3 ?_ | (refine wk2 ?_ ?_ <;> intro _) | refine wk4 ?_ | fail); all_goals (conv => whnf)
  all_goals first | exact Zc rfl | (exfalso; simp_all <;> omega)
 refine bs.pv (sx := nos) hk Tryz.func20 (by kernel_rfl) (by kernel_rfl) rfl ?_
 repeat' (first | refine wk3 ?_ | (refine wk2 ?_ ?_ <;> intro _) | refine wk4 ?_ | fail); all_goals (conv => whnf)
 ·exfalso; simp_all
 refine Yc (S := Nat × Int) (fun t => a2.length - t.1) (fun t => [(2,.ptr 0 0 0),(3,.ptr 1 0 0),(5,I t.2)]) (fun _ => [(1,.row 3 [[.isl 1 (nl b1),.isl 4 (b2.map hp4),I b3]] true false),(0,.row 3 [[.isl 1 (nl a1),.isl 4 (a2.map hp4),I a3]] true false)]) 2 2 (fun t => t.2 = t.1 /\ t.1 <= a2.length /\ eqP (a2.drop t.1) (b2.drop t.1) = eqP a2 b2) (0,0) ⟨rfl,Nat.zero_le _,rfl⟩ (Nat.le_refl _) [] rfl (kps) (kps) ?_
 rintro ⟨k,i⟩ ⟨hi,hkk,hh⟩
 dsimp only at hi hkk hh ⊢
 subst hi
 generalize eqP a2 b2 = R at *
 refine bs.av (sx := nos) hk ?_
 by_cases hlt : k < a2.length
 ·have e1 := Yck hlt
  have e2 := Yck (l := b2) (k := k) (by omega)
  rw [List.drop_eq_getElem_cons hlt,List.drop_eq_getElem_cons (show k < b2.length by omega),eqP] at hh
  generalize a2[k] = x at *
  generalize b2[k]'(by omega) = y at *
  cases h4 : eqP4 x y
  ·have h5 : ¬ x = y := fun e => by rw [eqP4_iff.2 e] at h4; cases h4
   rw [h4] at hh
   have hh : false = R := hh
   subst hh
   obtain ⟨x1,x2,x3,x4⟩ := x
   obtain ⟨y1,y2,y3,y4⟩ := y
   repeat' (first | refine wk3 ?_ | (refine wk2 ?_ ?_ <;> intro _) | refine wk4 ?_ | fail); all_goals (conv => whnf)
   all_goals first | exact Zc rfl | (exfalso; rename_i q; simp [eqP4] at h4 q; omega)
  ·have h5 := eqP4_iff.1 h4
   subst h5
   rw [h4,Bool.true_and] at hh
   obtain ⟨x1,x2,x3,x4⟩ := x
   repeat' (first | refine wk3 ?_ | (refine wk2 ?_ ?_ <;> intro _) | refine wk4 ?_ | fail); all_goals (conv => whnf)
   all_goals first | exact Done.mk ⟨(k + 1,_),[],rfl,kps,kps,⟨Zk (by omega),hlt,hh⟩,by dsimp only; omega⟩ | (exfalso; rename_i q; simp at q; done)
 ·rw [List.drop_of_length_le (by omega),List.drop_of_length_le (by omega)] at hh
  repeat' (first | refine wk3 ?_ | (refine wk2 ?_ ?_ <;> intro _) | refine wk4 ?_ | fail); all_goals (conv => whnf)
  exact Zc hh
theorem Ygt {a b : List Pt4} (h : a.map hp4 = b.map hp4) : a = b := by
 refine (List.map_inj_right (fun x y hxy => ?_)).1 h
 obtain ⟨x1,x2,x3,x4⟩ := x
 obtain ⟨y1,y2,y3,y4⟩ := y
 simpa using hxy
theorem Zp7 {a b : Pth} (h : a.av = b.av) : a = b := by
 obtain ⟨a1,a2,a3⟩ := a
 obtain ⟨b1,b2,b3⟩ := b
 simp only [AV.agg.injEq,List.cons.injEq,AV.isl.injEq,AV.int.injEq,true_and,and_true] at h
 rw [Zja h.1,Ygt h.2.1,h.2.2]
abbrev zPth : Pth := ⟨[],[],0⟩
abbrev zAV : AV := .agg [.nils,.nils,I 0]
noncomputable def r20 : List AV -> Option PRes := famA (fun q : Pth × Option Pth => q.1.ss.length < 1000000 /\ q.1.ps.length < 1000000 /\ match q.2 with
 | some b => b.ss.length < 1000000 /\ b.ps.length < 1000000
 | none => True) (fun q => match q.2 with
 | some b => [q.1.av,b.av]
 | none => [q.1.av,zAV]) (fun q => match q.2 with
 | some b => ⟨Bo (same q.1 b),[]⟩
 | none => ⟨Bo (same q.1 zPth),[]⟩)
theorem Yf2 {pt : PC} (h : PCOK Tryz.prog pt) : PCOK Tryz.prog (ins 20 r20 pt) := by
 refine Yr (fun q hq => ?_) h
 obtain ⟨a,b⟩ := q
 cases b with
 | some b => exact d20 hq.1 hq.2.2.1 hq.2.1 hq.2.2.2
 | none =>
  refine (d20 (a := a) (b := zPth) hq.1 (by simp) hq.2.1 (by simp)).nilArgs ?_
  exact ⟨NA.rfl,.inr ⟨_,_,rfl,rfl,.inr ⟨rfl,_,rfl⟩,.inr ⟨rfl,_,rfl⟩,.inl rfl,trivial⟩,trivial⟩
theorem Yh9 {b : Pth} (h : b.av = zAV) : False := by
 simp only [AV.agg.injEq,List.cons.injEq] at h
 cases h.1
theorem Zzm {a b : Pth} (h1 : a.ss.length < 1000000) (h2 : a.ps.length < 1000000) (h3 : b.ss.length < 1000000) (h4 : b.ps.length < 1000000) : r20 [a.av,b.av] = some ⟨Bo (same a b),[]⟩ :=
 Ya (k := (a,some b)) (g := fun q : Pth × Option Pth => match q.2 with
 | some b => [q.1.av,b.av]
 | none => [q.1.av,zAV]) (fun j hj => by
  obtain ⟨x,y⟩ := j
  cases y with
  | some y =>
   simp only [List.cons.injEq,and_true] at hj
   dsimp only
   rw [Zp7 hj.1,Zp7 hj.2]
  | none =>
   simp only [List.cons.injEq,and_true] at hj
   exact (Yh9 hj.2.symm).elim) ⟨h1,h2,h3,h4⟩
structure AskOk (h : Hal) (s : Stg) (a : Ask) : Prop where
 e0 : serr h s = 0
 f : Near 5000 (a.fx,a.fy,a.fz)
 t : Near 5000 (a.tx,a.ty,a.tz)
 fi : Zag h ⟨a.fx,a.fy,a.fz,1⟩ = true
 ti : Zag h ⟨a.tx,a.ty,a.tz,1⟩ = true
 ne : a.same = false
 n : 0 <= a.n /\ a.n <= 4
theorem Xu {h : Hal} {s : Stg} {a : Ask} (e : askE h s a = 0) : AskOk h s a := by
 unfold askE at e
 split at e
 ·rename_i e0
  simp only [fstL] at e
  by_cases c1 : plaE h a.fx a.fy a.fz = 0
  rotate_left
  ·rw [if_pos (fun k => c1 k)] at e; exact absurd e c1
  by_cases c2 : plaE h a.tx a.ty a.tz = 0
  rotate_left
  ·rw [if_neg (fun k => k c1),if_pos (fun k => c2 k)] at e; exact absurd e c2
  by_cases c3 : unl (!a.same) 11 = 0
  rotate_left
  ·rw [if_neg (fun k => k c1),if_neg (fun k => k c2),if_pos (fun k => c3 k)] at e; exact absurd e c3
  by_cases c4 : unl (within a.n 0 4) 2 = 0
  rotate_left
  ·rw [if_neg (fun k => k c1),if_neg (fun k => k c2),if_neg (fun k => k c3),if_pos (fun k => c4 k)] at e; exact absurd e c4
  refine ⟨e0,(Zf5 c1).1,(Zf5 c2).1,(Zf5 c1).2,(Zf5 c2).2,?_,?_⟩
  ·cases hs : a.same with
   | false => rfl
   | true => rw [hs] at c3; cases c3
  ·cases hw : within a.n 0 4 with
   | true => exact within_iff.1 hw
   | false => rw [hw] at c4; cases c4
 ·rename_i e0; exact absurd e e0
theorem Zeg {h : Hal} {s : Stg} {q0 q1 : Pl3} {ns : List Int} {p : Pth} (e : Yq h s q0 q1 ns = some p) : p.ss = ns := by
 rw [Zbk] at e
 split at e
 ·cases e
 ·split at e
  ·cases e; rfl
  ·cases e
theorem Zxc {f : Int -> Pl3 -> Pt -> Pt × Int} : ∀ {l : List (Int × Pl3)} {to : Pt} {P R : List Pt},goP f l to P = some R -> R.length = l.length + P.length
 | [],_,_,_,h => by rw [goP,Option.some.injEq] at h; subst h; simp
 | (a,q) :: r,to,P,R,h => by
  rw [goP] at h
  split at h
  ·have := Zxc h
   rw [this,List.length_cons,List.length_cons]; omega
  ·cases h
theorem Zr4 {h : Hal} {s : Stg} {q0 q1 : Pl3} {ns : List Int} {p : Pth} (e : Yq h s q0 q1 ns = some p) : p.ps.length = ns.length := by
 rw [Zbk] at e
 split at e
 ·cases e
 ·rename_i P hP
  have := Zxc hP
  rw [List.length_reverse,Zao,List.length_nil] at this
  split at e
  ·cases e; rw [List.length_map]; exact this
  ·cases e
abbrev qF (a : Ask) : Pl3 := (a.fx,a.fy,a.fz)
abbrev qT (a : Ask) : Pl3 := (a.tx,a.ty,a.tz)
def rowP (o : Option Pth) : PRes := match o with
 | none => ⟨.tup [.agg [.nils,.nils,I 0],Bo false],[]⟩
 | some p => ⟨.tup [.agg [.asl 0 0 (nl p.ss).length,.asl 1 0 (p.ps.map hp4).length,I p.sq],Bo true],[(1,nl p.ss),(4,p.ps.map hp4)]⟩
theorem Zzn (o : Option Pth) : Vf (rowP o).blks.length (rowP o).v = true := by cases o <;> rfl
noncomputable abbrev clR : List AV -> Option PRes := famA (fun ps : List (Int × Int × Int × Int) => 0 < ps.length /\ ps.length < 100000) (fun ps => [.isl 4 (ps.map hp4)]) (fun ps => ⟨.asl 0 0 (ps.map hp4).length,[(4,ps.map hp4)]⟩)
theorem Yhc {pt : PC} (hp : PCOK Tryz.prog pt) : PCOK Tryz.prog (ins 104 clR pt) := Yr (fun ps hl => d104 hl.1 hl.2) hp
theorem Ye7 {ps : List (Int × Int × Int × Int)} (h0 : 0 < ps.length) (h : ps.length < 100000) : clR [.isl 4 (ps.map hp4)] = some ⟨.asl 0 0 (ps.map hp4).length,[(4,ps.map hp4)]⟩ :=
 Ya (p := fun ps : List (Int × Int × Int × Int) => 0 < ps.length /\ ps.length < 100000) (g := fun ps => [.isl 4 (ps.map hp4)]) (r := fun ps => ⟨.asl 0 0 (ps.map hp4).length,[(4,ps.map hp4)]⟩) (fun j hj => by
  simp only [List.cons.injEq,AV.isl.injEq,true_and,and_true] at hj
  rw [hj]) ⟨h0,h⟩
noncomputable def Ygh (h : Hal) (s : Stg) (q0 : Pl3) (ns : List Int) : PC := ins 82 (oneA [.agg (stgL h s),P3 q0.1 q0.2.1 q0.2.2,.isl 1 (nl ns)] ⟨.isl 3 (imC (im1 h s) q0 ns ns.length),[]⟩) (ins 123 r123 (ins 124 (crsT h s) (ins 125 (wayT h s) (ins 126 r126 (ins 104 clR (ins 103 (oneA [.isl 1 (nl ns)] ⟨.asl 0 0 (nl ns).length,[(1,nl ns)]⟩) pt0))))))
theorem Yab {h : Hal} (hk : h.ok) {s : Stg} (hs : s.few) (e0 : serr h s = 0) {q0 : Pl3} (hf : Near 5000 q0) {ns : List Int} (h0 : 0 < ns.length) (hl : ns.length <= 4) (hi : ∀ n ∈ ns,0 <= n /\ n < nsur h) : PCOK Tryz.prog (Ygh h s q0 ns) :=
 Zfk (d82f hk hs e0 hf hl hi) (Zvy (Zx5 hk hs (Zu1 hk hs (Zvx (Yhc (Zfk (d103 (ns := ns) h0 (by omega)) Zd))))))
set_option maxRecDepth 100000 in
set_option maxHeartbeats 16000000 in
theorem d65r {h : Hal} (hk : h.ok) {s : Stg} (hs : s.few) (e0 : serr h s = 0) (a : Ask) (hf : Near 5000 (a.fx,a.fy,a.fz)) (ht : Near 5000 (a.tx,a.ty,a.tz)) {ns : List Int} (h0 : 0 < ns.length) (hl : ns.length <= 4) (hi : ∀ n ∈ ns,0 <= n /\ n < nsur h) :
  PCall Tryz.prog 65 [.agg (stgL h s),a.av,.isl 1 (nl ns)] (rowP (Yq h s (a.fx,a.fy,a.fz) (a.tx,a.ty,a.tz) ns)) := by
 obtain ⟨fx,fy,fz,tx,ty,tz,n⟩ := a
 dsimp only at hf ht ⊢
 have hk0 := Yab hk hs e0 hf h0 hl hi
 unfold Ygh at hk0
 have w0 := Zr3 hf
 have wT := Zr3 ht
 have ll := Zl ns
 have o1 := Zcn [.agg (stgL h s),P3 fx fy fz,.isl 1 (nl ns)] ⟨.isl 3 (imC (im1 h s) (fx,fy,fz) ns ns.length),[]⟩
 have o2 := Zcn [.isl 1 (nl ns)] ⟨.asl 0 0 (nl ns).length,[(1,nl ns)]⟩
 have hR := Zbk h s (fx,fy,fz) (tx,ty,tz) ns
 generalize Yq h s (fx,fy,fz) (tx,ty,tz) ns = R at *
 have il := Zjo (im1 h s) (fx,fy,fz) ns ns.length
 have x2 : IntKind.i64.wrap (((nl ns).length : Int) + 2) = ((ns.length + 2 : Nat) : Int) := by rw [ll,W_eq (by omega) (by omega)]; omega
 have x1 : IntKind.i64.wrap (((nl ns).length : Int) + 1) = ((ns.length + 1 : Nat) : Int) := by rw [ll,W_eq (by omega) (by omega)]; omega
 have a1 : decide (0 <= IntKind.i64.wrap (((nl ns).length : Int) + 2) /\ (IntKind.i64.wrap (((nl ns).length : Int) + 2)).toNat <= 1000000) = true := by rw [x2]; exact decide_eq_true ⟨by omega,by omega⟩
 have g0 : (List.replicate (IntKind.i64.wrap (((nl ns).length : Int) + 2)).toNat (ptc ptZ))[0 + Int.toNat 0]? = some (ptc ptZ) := by
  rw [x2,Int.toNat_natCast,List.getElem?_replicate,if_pos (by omega)]
 have g1 : (Zc9 (List.replicate (IntKind.i64.wrap (((nl ns).length : Int) + 2)).toNat (ptc ptZ)) (0 + Int.toNat 0) (ptc (pnt (fx,fy,fz))))[0 + (IntKind.i64.wrap (((nl ns).length : Int) + 1)).toNat]? = some (ptc ptZ) := by
  rw [Xn,x2,x1,List.getElem?_set,if_neg (by omega)]; simp
 have hE0 : Zc9 (Zc9 (List.replicate (IntKind.i64.wrap (((nl ns).length : Int) + 2)).toNat (ptc ptZ)) (0 + Int.toNat 0) (ptc (pnt (fx,fy,fz)))) (0 + (IntKind.i64.wrap (((nl ns).length : Int) + 1)).toNat) (ptc (pnt (tx,ty,tz))) = (((List.replicate (ns.length + 2) ptZ).set 0 (pnt (fx,fy,fz))).set (ns.length + 1) (pnt (tx,ty,tz))).map ptc := by
  rw [Xn,Xn,x2,x1,List.map_set,List.map_set,List.map_replicate]
  congr 1
  omega
 refine bs.pv (sx := nos) hk0 Tryz.func65 (by kernel_rfl) (by kernel_rfl) (Zzn _) ?_
 unfold Zhs
 conv => whnf
 repeat' (first | refine wk3 ?_ | (refine wk2 ?_ ?_ <;> intro _) | refine wk4 ?_ | fail); all_goals (conv => whnf)
 obtain ⟨l,hlk⟩ : ∃ l,l = lkG (im1 h s) (fx,fy,fz) ns := ⟨_,rfl⟩
 have hll : l.length = ns.length := by rw [hlk,Zao]
 have hlt' : ∀ {k : Nat} (hk : k < ns.length),(l.take (k + 1)).reverse = (ns[k],imA (im1 h s) (fx,fy,fz) ns (k + 1)) :: (l.take k).reverse := fun hk => by rw [hlk]; exact Zmo hk
 rw [<-hlk] at hR
 clear hlk
 refine Yc (S := Nat × Int × List (List AV) × List Pt) (fun t => t.1) (fun t => [(2,.isl 1 (nl ns)),(3,.ptr 0 0 0),(4,.ptr 1 0 0),(6,.ptr 2 0 0),(8,.isl 3 (imC (im1 h s) (fx,fy,fz) ns ns.length)),(9,I (nl ns).length),(10,.asl 3 0 (IntKind.i64.wrap (((nl ns).length : Int) + 2)).toNat),(11,I t.2.1)])
  (fun t => [(3,.row 4 t.2.2.1 true true),(2,.row 3 [[.nils,.nils,I 0]] true false),(1,.row 7 [[I fx,I fy,I fz,I tx,I ty,I tz,I n]] true false),(0,.row 11 [stgL h s] true false)]) 18 18
  (fun t => t.2.1 = t.1 /\ t.1 <= ns.length /\ t.2.2.1 = t.2.2.2.map ptc /\ t.2.2.2.length = ns.length + 2 /\ t.2.2.2[0]? = some (pnt (fx,fy,fz)) /\ (∀ p ∈ t.2.2.2,p.wf) /\ ∃ to P Q,t.2.2.2.drop (t.1 + 1) = to :: Q /\ P ++ [pnt (tx,ty,tz)] = to :: Q /\ goP (fP h s) (l.take t.1).reverse to P = goP (fP h s) l.reverse (pnt (tx,ty,tz)) [])
  (ns.length,(nl ns).length,_,(((List.replicate (ns.length + 2) ptZ).set 0 (pnt (fx,fy,fz))).set (ns.length + 1) (pnt (tx,ty,tz)))) ⟨by dsimp only; rw [ll],Nat.le_refl _,hE0,by simp,by simp,?_,pnt (tx,ty,tz),[],[],by rw [Zcw (by simp)]; simp,rfl,by rw [<-hll,List.take_length]⟩ (Nat.le_refl _) [] rfl (kps) (kps) ?_
 ·intro p hp
  rcases List.mem_or_eq_of_mem_set hp with hp | rfl
  ·rcases List.mem_or_eq_of_mem_set hp with hp | rfl
   ·rw [List.eq_of_mem_replicate hp]; exact Zk6
   ·exact w0
  ·exact wT
 clear g0 g1 hE0 a1
 rintro ⟨k,i,els,pts⟩ ⟨hi1,hk1,hels,hpl,hp0,hwf,to,P,Q,hd,hPQ,hgo⟩
 dsimp only at hi1 hk1 hels hpl hp0 hwf hd hPQ hgo ⊢
 subst hi1 hels
 have lp : (pts.map ptc).length = ns.length + 2 := by rw [List.length_map,hpl]
 refine bs.av (sx := nos) hk0 ?_
 cases k with
 | succ j =>
  have b0 : ((j + 1 : Nat) : Int) >= 1 := by omega
  have b1 : IntKind.i64.wrap (((j + 1 : Nat) : Int) - 1) = j := by rw [W_eq (by omega) (by omega)]; omega
  have b2 : IntKind.i64.wrap (((j + 1 : Nat) : Int) + 1) = ((j + 2 : Nat) : Int) := by rw [W_eq (by omega) (by omega)]; omega
  have e1 : (nl ns)[(IntKind.i64.wrap (((j + 1 : Nat) : Int) - 1)).toNat]? = some [I ns[j]] := by rw [b1]; simp [nl]
  have e2 : (imC (im1 h s) (fx,fy,fz) ns ns.length)[((j + 1 : Nat) : Int).toNat]? = some (pl3 (imA (im1 h s) (fx,fy,fz) ns (j + 1))) := by
   rw [Int.toNat_natCast]; unfold imC; rw [List.getElem?_map,List.getElem?_range (by omega)]; rfl
  have hto : pts[j + 2]? = some to := by rw [<-List.head?_drop,hd]; rfl
  have e3 : (pts.map ptc)[0 + (IntKind.i64.wrap (((j + 1 : Nat) : Int) + 1)).toNat]? = some (ptc to) := by rw [b2,Int.toNat_natCast,Nat.zero_add,List.getElem?_map,hto]; rfl
  have e4 : (pts.map ptc)[0 + ((j + 1 : Nat) : Int).toNat]? = some (ptc (pts[j + 1]'(by omega))) := by rw [Int.toNat_natCast,Nat.zero_add]; exact Zg8 (by omega)
  have wto : to.wf := hwf _ (List.mem_of_getElem? hto)
  rw [hlt' (by omega),goP] at hgo
  have c1 := Zsy (h := h) (s := s) (c := ⟨ns[j],(imA (im1 h s) (fx,fy,fz) ns (j + 1)).1,(imA (im1 h s) (fx,fy,fz) ns (j + 1)).2.1,(imA (im1 h s) (fx,fy,fz) ns (j + 1)).2.2,to⟩) wto
  have w1 := Zx6 (h := h) (s := s) ⟨ns[j],(imA (im1 h s) (fx,fy,fz) ns (j + 1)).1,(imA (im1 h s) (fx,fy,fz) ns (j + 1)).2.1,(imA (im1 h s) (fx,fy,fz) ns (j + 1)).2.2,to⟩ hk hs
  have hfp : fP h s ns[j] (imA (im1 h s) (fx,fy,fz) ns (j + 1)) to = crsA h s ⟨ns[j],(imA (im1 h s) (fx,fy,fz) ns (j + 1)).1,(imA (im1 h s) (fx,fy,fz) ns (j + 1)).2.1,(imA (im1 h s) (fx,fy,fz) ns (j + 1)).2.2,to⟩ := rfl
  rw [hfp] at hgo
  clear hfp
  generalize crsA h s ⟨ns[j],(imA (im1 h s) (fx,fy,fz) ns (j + 1)).1,(imA (im1 h s) (fx,fy,fz) ns (j + 1)).2.1,(imA (im1 h s) (fx,fy,fz) ns (j + 1)).2.2,to⟩ = r at *
  obtain ⟨⟨x,y,z,d⟩,E⟩ := r
  generalize imA (im1 h s) (fx,fy,fz) ns (j + 1) = q at *
  obtain ⟨qx,qy,qz⟩ := q
  obtain ⟨X,Y,Z,V⟩ := to
  dsimp only at hgo w1 c1
  by_cases hE : E = 0
  ·subst hE
   rw [if_pos rfl] at hgo
   have hs1 : Zc9 (pts.map ptc) (0 + ((j + 1 : Nat) : Int).toNat) (ptc ⟨x,y,z,d⟩) = (pts.set (j + 1) ⟨x,y,z,d⟩).map ptc := by
    rw [Int.toNat_natCast,Nat.zero_add]; exact Zni _ _ _
   repeat' (first | refine wk3 ?_ | (refine wk2 ?_ ?_ <;> intro _) | refine wk4 ?_ | fail); all_goals (conv => whnf)
   exact Done.mk ⟨(j,_,_,pts.set (j + 1) ⟨x,y,z,d⟩),[],rfl,kps,kps,⟨b1,by dsimp only; omega,hs1,by dsimp only; rw [List.length_set,hpl],by dsimp only; rw [List.getElem?_set,if_neg (by omega)]; exact hp0,(fun p hp => by
    rcases List.mem_or_eq_of_mem_set hp with hp | rfl
    ·exact hwf p hp
    ·exact w1),⟨x,y,z,d⟩,⟨x,y,z,d⟩ :: P,⟨X,Y,Z,V⟩ :: Q,by dsimp only; rw [Zcw (by omega),hd],by rw [List.cons_append,hPQ],hgo⟩,by dsimp only; omega⟩
  ·rw [if_neg hE] at hgo
   rw [<-hgo] at hR
   dsimp only at hR
   subst hR
   repeat' (first | refine wk3 ?_ | (refine wk2 ?_ ?_ <;> intro _) | refine wk4 ?_ | fail); all_goals (conv => whnf)
   all_goals exact Zg rfl rfl
 | zero =>
  have hpe : pts = pnt (fx,fy,fz) :: P ++ [pnt (tx,ty,tz)] := by
   rw [List.cons_append,hPQ,<-hd]
   clear hk0 hwf lp hpl
   cases pts with
   | nil => cases hp0
   | cons p r => cases hp0; rfl
  rw [List.take_zero,List.reverse_nil,goP] at hgo
  rw [<-hgo] at hR
  dsimp only at hR
  rw [<-hpe] at hR
  have hPl : P.length = ns.length := by
   have := congrArg List.length hpe
   simp at this; omega
  clear hgo hlt' hd hPQ Q to
  repeat' (first | refine wk3 ?_ | (refine wk2 ?_ ?_ <;> intro _) | refine wk4 ?_ | fail); all_goals (conv => whnf)
  refine Yc (S := Nat × Int) (fun t => ns.length + 1 - t.1) (fun t => [(2,.isl 1 (nl ns)),(3,.ptr 0 0 0),(4,.ptr 1 0 0),(6,.ptr 2 0 0),(8,.isl 3 (imC (im1 h s) (fx,fy,fz) ns ns.length)),(9,I (nl ns).length),(10,.asl 3 0 (IntKind.i64.wrap (((nl ns).length : Int) + 2)).toNat),(75,I (IntKind.i64.wrap (((nl ns).length : Int) + 1))),(76,I t.2)])
   (fun t => [(3,.row 4 (pts.map ptc) true true),(2,.row 3 [[.nils,.nils,I 0]] true false),(1,.row 7 [[I fx,I fy,I fz,I tx,I ty,I tz,I n]] true false),(0,.row 11 [stgL h s] true false)]) 18 18
   (fun t => t.2 = t.1 /\ t.1 <= ns.length + 1 /\ chkW (wP h s) (pts.drop t.1) = chkW (wP h s) pts) (0,0) ⟨rfl,Nat.zero_le _,rfl⟩ (Nat.le_refl _) [] rfl (kps) (kps) ?_
  rintro ⟨k,i⟩ ⟨hi1,hk1,hck⟩
  dsimp only at hi1 hk1 hck ⊢
  subst hi1
  by_cases hlt : k < ns.length + 1
  ·have b0 : ((k : Nat) : Int) < IntKind.i64.wrap (((nl ns).length : Int) + 1) := by rw [x1]; omega
   have b2 : IntKind.i64.wrap (((k : Nat) : Int) + 1) = ((k + 1 : Nat) : Int) := by rw [W_eq (by omega) (by omega)]; omega
   have e3 : (pts.map ptc)[0 + ((k : Nat) : Int).toNat]? = some (ptc (pts[k]'(by omega))) := by rw [Int.toNat_natCast,Nat.zero_add]; exact Zg8 (by omega)
   have e4 : (pts.map ptc)[0 + (IntKind.i64.wrap (((k : Nat) : Int) + 1)).toNat]? = some (ptc (pts[k + 1]'(by omega))) := by rw [b2,Int.toNat_natCast,Nat.zero_add]; exact Zg8 (by omega)
   rw [Zpc (by omega)] at hck
   have v1 := Zrh (h := h) (s := s) (hwf (pts[k]'(by omega)) (List.getElem_mem _)) (hwf (pts[k + 1]'(by omega)) (List.getElem_mem _))
   have hw : wP h s (pts[k]'(by omega)) (pts[k + 1]'(by omega)) = (decide (wayE h s (pts[k]'(by omega)) (pts[k + 1]'(by omega)) = 0) && Zd2 h s (pts[k]'(by omega)) (pts[k + 1]'(by omega))) := rfl
   rw [hw] at hck
   clear hw
   generalize (pts[k]'(by omega)) = p1 at *
   generalize (pts[k + 1]'(by omega)) = p2 at *
   generalize wayE h s p1 p2 = u at *
   generalize Zd2 h s p1 p2 = f at *
   obtain ⟨x1,y1,z1,d1⟩ := p1
   obtain ⟨x2,y2,z2,d2⟩ := p2
   refine bs.av (sx := nos) hk0 ?_
   cases hb : (decide (u = 0) && f) with
   | true =>
    rw [hb,Bool.true_and] at hck
    repeat' (first | refine wk3 ?_ | (refine wk2 ?_ ?_ <;> intro _) | refine wk4 ?_ | fail); all_goals (conv => whnf)
    all_goals first
     | (exfalso; clear hk0; simp_all; done)
     | exact Done.mk ⟨(k + 1,_),[],rfl,kps,kps,⟨b2,hlt,hck⟩,by dsimp only; omega⟩
   | false =>
    rw [hb,Bool.false_and] at hck
    rw [<-hck,if_neg (by simp)] at hR
    subst hR
    repeat' (first | refine wk3 ?_ | (refine wk2 ?_ ?_ <;> intro _) | refine wk4 ?_ | fail); all_goals (conv => whnf)
    all_goals first
     | exact Zg rfl rfl
     | (exfalso; clear hk0; simp_all; done)
  ·have hke : k = ns.length + 1 := by omega
   subst hke
   rw [Zpd (by omega)] at hck
   rw [<-hck,if_pos rfl] at hR
   subst hR
   refine Awp.froz [3] rfl (bs.av (sx := nos) hk0 ?_)
   conv => whnf
   repeat' (first | refine wk3 ?_ | (refine wk2 ?_ ?_ <;> intro _) | refine wk4 ?_ | fail); all_goals (conv => whnf)
   have y1 : Zet (some (I (IntKind.i64.wrap (((nl ns).length : Int) + 1)))) (IntKind.i64.wrap (((nl ns).length : Int) + 2)).toNat = some (ns.length + 1) := by
    show cond (decide (0 <= IntKind.i64.wrap (((nl ns).length : Int) + 1))) (some (IntKind.i64.wrap (((nl ns).length : Int) + 1)).toNat) none = _
    rw [x1,decide_eq_true (by omega)]
    simp only [cond_true,Option.some.injEq]; omega
   have cl : clR [.isl 4 (List.take (ns.length + 1 - Int.toNat 1) (List.drop (0 + Int.toNat 1) (pts.map ptc)))] = some ⟨.asl 0 0 ((P.map tup4).map hp4).length,[(4,(P.map tup4).map hp4)]⟩ := by
    have e : List.take (ns.length + 1 - Int.toNat 1) (List.drop (0 + Int.toNat 1) (pts.map ptc)) = (P.map tup4).map hp4 := by
     rw [hpe,List.cons_append,List.map_cons,show (0 + Int.toNat 1) = 1 from rfl,List.drop_succ_cons,List.drop_zero,List.map_append,show ns.length + 1 - Int.toNat 1 = (P.map ptc).length by rw [List.length_map,hPl]; omega,List.take_left,List.map_map]
     rfl
    rw [e]
    exact Ye7 (by rw [List.length_map]; omega) (by rw [List.length_map]; omega)
   have e5 : (imC (im1 h s) (fx,fy,fz) ns ns.length)[((nl ns).length : Int).toNat]? = some (pl3 (imA (im1 h s) (fx,fy,fz) ns ns.length)) := by
    rw [Int.toNat_natCast,ll]; exact Zmp _ _ _ _
   refine Zlu rfl rfl rfl rfl rfl rfl y1 (by omega) (by rw [x2]; omega) (by rw [x2]; omega) ?_
   conv => whnf
   generalize imA (im1 h s) (fx,fy,fz) ns ns.length = q at *
   obtain ⟨qx,qy,qz⟩ := q
   repeat' (first | refine wk3 ?_ | (refine wk2 ?_ ?_ <;> intro _) | refine wk4 ?_ | fail); all_goals (conv => whnf)
   exact Xb [19,25] rfl rfl rfl
theorem Zwv {r : Locs} {I : Imm} {w : World} {D : Nat -> Prop} {es : Nat} {x : Value} (h : VR r I w D (.isl es []) x) (r' : Locs) (I' : Imm) (w' : World) (D' : Nat -> Prop) : VR r' I' w' D' (.isl es []) x := by
 cases h with
 | isl0 => exact .isl0 _ _ _ _
 | isl _ _ _ _ _ _ h1 => exact .isl0 _ _ _ _
theorem d65f {h : Hal} (hk : h.ok) {s : Stg} (hs : s.few) {a : Ask} (e : askE h s a = 0) {ns : List Int} (hl : ns.length <= 4) (hi : ∀ n ∈ ns,0 <= n /\ n < nsur h) :
  Zpl Tryz.prog 65 [.agg (stgL h s),a.av,.isl 1 (nl ns)] (ansP (Yq h s (qF a) (qT a) ns)) := by
 by_cases h0 : 0 < ns.length
 ·refine Zv4 (d65r hk hs (Xu e).e0 a (Xu e).f (Xu e).t h0 hl hi) ?_ ?_ ?_
  ·cases Yq h s (qF a) (qT a) ns <;> rfl
  ·show Zaj (rowP (Yq h s (qF a) (qT a) ns)).blks = true
   cases Yq h s (qF a) (qT a) ns with
   | none => rfl
   | some p => (simp [rowP,Zaj,Zp0,Zew,nl]; exact ⟨fun _ _ => rfl,fun _ _ _ _ _ => rfl⟩)
  ·show Frz (rowP (Yq h s (qF a) (qT a) ns)).blks (rowP (Yq h s (qF a) (qT a) ns)).v _
   cases Yq h s (qF a) (qT a) ns with
   | none => exact ⟨⟨rfl,rfl,⟨rfl,rfl⟩,trivial⟩,⟨rfl,rfl⟩,trivial⟩
   | some p => exact ⟨⟨⟨rfl,rfl,rfl⟩,⟨rfl,rfl,rfl⟩,⟨rfl,rfl⟩,trivial⟩,⟨rfl,rfl⟩,trivial⟩
 ·obtain rfl : ns = [] := List.length_eq_zero_iff.1 (by omega)
  have hd := (d65 hk hs (Xu e).e0 a (Xu e).f (Xu e).t hl hi).freeze (Zzr _)
  obtain ⟨n,b,hv⟩ : ∃ n b,ansP (Yq h s (a.fx,a.fy,a.fz) (a.tx,a.ty,a.tz) []) = .tup [.agg [.isl 1 [],.isl 4 [],I n],Bo b] := by
   cases hp : Yq h s (a.fx,a.fy,a.fz) (a.tx,a.ty,a.tz) [] with
   | none => exact ⟨0,false,rfl⟩
   | some p =>
    have h1 := Zeg hp
    have h2 := Zr4 hp
    obtain ⟨ss,ps,sq⟩ := p
    dsimp only at h1 h2
    subst h1
    obtain rfl : ps = [] := List.length_eq_zero_iff.1 (by simpa using h2)
    exact ⟨sq,true,rfl⟩
  show Zpl Tryz.prog 65 _ (ansP (Yq h s (a.fx,a.fy,a.fz) (a.tx,a.ty,a.tz) []))
  rw [hv] at hd ⊢
  refine ⟨hd.1,fun I w vs hI hv => (hd.2 I w vs hI hv).mono fun e w' hh => ?_⟩
  obtain ⟨x,r',I',rfl,hp⟩ := hh
  refine ⟨x,fun _ _ => False,rfl,hp.below,fun b o h => h.elim,?_⟩
  have hval := hp.val
  cases hval with
  | tup _ _ vs h1 h2 =>
   refine .tup _ _ _ h1 fun i c v hc hx => ?_
   have := h2 i c v hc hx
   match i with
   | 0 =>
    cases hc
    cases this with
    | agg _ _ vs h3 h4 =>
     refine .agg _ _ _ h3 fun i c v hc hx => ?_
     have := h4 i c v hc hx
     match i with
     | 0 => cases hc; exact Zwv this _ _ _ _
     | 1 => cases hc; exact Zwv this _ _ _ _
     | 2 => cases hc; cases this; exact .int _ _ _
     | i + 3 => simp at hc
   | 1 => cases hc; cases this; exact .bool _ _
   | i + 2 => simp at hc
set_option maxRecDepth 100000 in
set_option maxHeartbeats 8000000 in
theorem d18 {h : Hal} (hk : h.ok) {s : Stg} (hs : s.few) (a : Ask) : PCall Tryz.prog 18 [h.av,s.av,a.av] ⟨I (askE h s a),[]⟩ := by
 have hk0 := Zf (d90 hk) (Zf (c75 hk.f hs) Zd)
 by_cases e : serr h s = 0
 ·have he := Zfz e
  have e2 : setE h s = 0 := by unfold serr at e; rw [if_pos he] at e; exact e
  obtain ⟨fx,fy,fz,tx,ty,tz,n⟩ := a
  unfold askE
  rw [if_pos e]
  rw [he,e2] at hk0
  dsimp only
  have hk1 := Yf1 hk he (Zf (d68 n) hk0)
  have q1 := Zmg h fx fy fz
  have q2 := Zmg h tx ty tz
  simp only [fstL]
  refine bs.pv (sx := nos) hk1 Tryz.func18 (by kernel_rfl) (by kernel_rfl) rfl ?_
  clear hk1 hk0
  repeat' (first | refine wk3 ?_ | (refine wk2 ?_ ?_ <;> intro _) | refine wk4 ?_ | fail); all_goals (conv => whnf)
  all_goals first
   | (refine Za ?_; simp_all [Ask.same,unl]; done)
   | (refine Za ?_; clear q1 q2; cases hw : within n 0 4 <;> by_cases c1 : fx = tx <;> by_cases c2 : fy = ty <;> by_cases c3 : fz = tz <;> simp_all [Ask.same,unl] <;> done)
   | (exfalso; simp_all; done)
 ·rw [show askE h s a = serr h s by unfold askE; rw [if_neg e]]
  unfold serr at e ⊢
  refine bs.pv (sx := nos) hk0 Tryz.func18 (by kernel_rfl) (by kernel_rfl) rfl ?_
  clear hk0
  repeat' (first | refine wk3 ?_ | (refine wk2 ?_ ?_ <;> intro _) | refine wk4 ?_ | fail); all_goals (conv => whnf)
  all_goals first
   | (refine Za ?_; simp_all; done)
   | (exfalso; simp_all; done)
theorem Znk (p : Pth) : same p p = true := same_iff.2 rfl
def chkP (h : Hal) (s : Stg) (a : Ask) (p : Pth) : Int := match Yq h s (qF a) (qT a) p.ss with
 | none => 20
 | some q => if q.sq = p.sq /\ eqP q.ps p.ps = true then 0 else 20
def cpE (h : Hal) (s : Stg) (a : Ask) (p : Pth) : Int := if pthE p = 0 then (if suE h p.ss = 0 then (if (p.ss.length : Int) <= a.n then chkP h s a p else 2) else suE h p.ss) else pthE p
def cmpI (a b : Int) : Int := if a < b then -1 else if b < a then 1 else 0
def cmpL : List Int -> List Int -> Int
 | [],[] => 0
 | [],_ :: _ => -1
 | _ :: _,[] => 1
 | x :: a,y :: b => if cmpI x y = 0 then cmpL a b else cmpI x y
def ordP (a b : Pth) : Int := fstL [cmpI a.sq b.sq,cmpI a.ss.length b.ss.length,cmpL a.ss b.ss]
theorem Yh1 (n : Int) : PCall Tryz.prog 208 [I n] ⟨Bo false,[]⟩ := by
 refine bs.pv (sx := nos) Zd Tryz.func208 (by kernel_rfl) (by kernel_rfl) rfl ?_
 repeat' (first | refine wk3 ?_ | (refine wk2 ?_ ?_ <;> intro _) | refine wk4 ?_ | fail); all_goals (conv => whnf)
 all_goals exact Zc (by simp)
def Yf3 : List AV -> Option PRes
 | [.int .i64 _] => some ⟨Bo false,[]⟩
 | _ => none
theorem Zzt {pt : PC} (h : PCOK Tryz.prog pt) : PCOK Tryz.prog (ins 208 Yf3 pt) := Zj (fun a res h => by unfold Yf3 at h; split at h <;> cases h; exact Yh1 _) h
theorem d147 (a b : Int) : PCall Tryz.prog 147 [I a,I b] ⟨I (cmpI a b),[]⟩ := by
 have key : cmpI a b = cond (decide (a < b)) (-1) (cond (decide (b < a)) 1 0) := by
  unfold cmpI
  by_cases c1 : a < b
  ·simp [c1]
  ·by_cases c2 : b < a <;> simp [c1,c2]
 rw [key]
 refine bs.pv (sx := nos) (Zzt Zd) Tryz.func147 (by kernel_rfl) (by kernel_rfl) rfl ?_
 repeat' (first | refine wk3 ?_ | (refine wk2 ?_ ?_ <;> intro _) | refine wk4 ?_ | fail); all_goals (conv => whnf)
 all_goals (refine Za ?_; clear key; generalize decide (a < b) = p at *; generalize decide (b < a) = q at *; simp_all)
def r147 : List AV -> Option PRes
 | [.int .i64 a,.int .i64 b] => some ⟨I (cmpI a b),[]⟩
 | _ => none
theorem Zvw {pt : PC} (h : PCOK Tryz.prog pt) : PCOK Tryz.prog (ins 147 r147 pt) := Zj (fun a res h => by unfold r147 at h; split at h <;> cases h; exact d147 _ _) h
set_option maxHeartbeats 4000000 in
theorem d148 {a b : List Int} (ha : a.length < 1000000) (hb : b.length < 1000000) : PCall Tryz.prog 148 [.isl 1 (nl a),.isl 1 (nl b)] ⟨I (cmpL a b),[]⟩ := by
 have la := Zl a
 have lb := Zl b
 have hk := Zvw Zd
 refine bs.pv (sx := nos) hk Tryz.func148 (by kernel_rfl) (by kernel_rfl) rfl ?_
 repeat' (first | refine wk3 ?_ | (refine wk2 ?_ ?_ <;> intro _) | refine wk4 ?_ | fail); all_goals (conv => whnf)
 refine Yc (S := Nat × Int) (fun t => a.length - t.1) (fun t => [(0,.isl 1 (nl a)),(1,.isl 1 (nl b)),(9,.isl 1 (nl a)),(10,I (nl a).length),(11,I t.2)]) (fun _ => []) 0 0
  (fun t => t.2 = t.1 /\ t.1 <= a.length /\ t.1 <= b.length /\ cmpL (a.drop t.1) (b.drop t.1) = cmpL a b) (0,0) ⟨rfl,Nat.zero_le _,Nat.zero_le _,rfl⟩ (Nat.le_refl _) [] rfl (kps) (kps) ?_
 rintro ⟨k,i⟩ ⟨hi,h1,h2,hh⟩
 dsimp only at hi h1 h2 hh ⊢
 subst hi
 generalize cmpL a b = R at *
 refine bs.av (sx := nos) hk ?_
 by_cases c1 : k < a.length
 ·have e1 := Ue c1
  by_cases c2 : k < b.length
  ·have e2 := Ue c2
   rw [List.drop_eq_getElem_cons c1,List.drop_eq_getElem_cons c2,cmpL] at hh
   generalize a[k] = x at *
   generalize b[k] = y at *
   generalize hz : cmpI x y = z at *
   have hz2 : r147 [I x,I y] = some ⟨I z,[]⟩ := by rw [<-hz]; rfl
   by_cases c3 : z = 0
   ·rw [if_pos c3] at hh
    repeat' (first | refine wk3 ?_ | (refine wk2 ?_ ?_ <;> intro _) | refine wk4 ?_ | fail); all_goals (conv => whnf)
    all_goals first
     | (exfalso; clear hk; simp_all; done)
     | exact Done.mk ⟨(k + 1,_),[],rfl,kps,kps,⟨Zk (by omega),c1,c2,hh⟩,by dsimp only; omega⟩
   ·rw [if_neg c3] at hh
    subst hh
    repeat' (first | refine wk3 ?_ | (refine wk2 ?_ ?_ <;> intro _) | refine wk4 ?_ | fail); all_goals (conv => whnf)
    all_goals first
     | exact Za (by assumption)
     | exact Za rfl
     | (exfalso; clear hk; simp_all; done)
  ·rw [List.drop_eq_getElem_cons c1,show b.drop k = [] from List.drop_of_length_le (by omega),cmpL] at hh
   subst hh
   repeat' (first | refine wk3 ?_ | (refine wk2 ?_ ?_ <;> intro _) | refine wk4 ?_ | fail); all_goals (conv => whnf)
   exact Za rfl
 ·rw [show a.drop k = [] from List.drop_of_length_le (by omega)] at hh
  by_cases c2 : k < b.length
  ·rw [List.drop_eq_getElem_cons c2,cmpL] at hh
   subst hh
   repeat' (first | refine wk3 ?_ | (refine wk2 ?_ ?_ <;> intro _) | refine wk4 ?_ | fail); all_goals (conv => whnf)
   exact Za rfl
  ·rw [List.drop_of_length_le (by omega),cmpL] at hh
   subst hh
   repeat' (first | refine wk3 ?_ | (refine wk2 ?_ ?_ <;> intro _) | refine wk4 ?_ | fail); all_goals (conv => whnf)
   exact Za rfl
noncomputable abbrev r148 : List AV -> Option PRes := famA (fun q : List Int × List Int => q.1.length < 1000000 /\ q.2.length < 1000000) (fun q => [.isl 1 (nl q.1),.isl 1 (nl q.2)]) (fun q => ⟨I (cmpL q.1 q.2),[]⟩)
theorem Ydu {pt : PC} (hp : PCOK Tryz.prog pt) : PCOK Tryz.prog (ins 148 r148 pt) := Yr (fun q hq => d148 hq.1 hq.2) hp
theorem Zzu {a b : List Int} (h1 : a.length < 1000000) (h2 : b.length < 1000000) : r148 [.isl 1 (nl a),.isl 1 (nl b)] = some ⟨I (cmpL a b),[]⟩ :=
 Ya (p := fun q : List Int × List Int => q.1.length < 1000000 /\ q.2.length < 1000000) (g := fun q => [.isl 1 (nl q.1),.isl 1 (nl q.2)]) (r := fun q => ⟨I (cmpL q.1 q.2),[]⟩) (k := (a,b)) (fun j hj => by
  simp only [List.cons.injEq,AV.isl.injEq,true_and,and_true] at hj
  rw [Zja hj.1,Zja hj.2]) ⟨h1,h2⟩
theorem d146 {l : List Int} (hl : l.length < 1000) : PCall Tryz.prog 146 [.isl 1 (nl l)] ⟨I (fstL l),[]⟩ := by
 have ll := Zl l
 refine bs.pv (sx := nos) Zd Tryz.func146 (by kernel_rfl) (by kernel_rfl) rfl ?_
 repeat' (first | refine wk3 ?_ | (refine wk2 ?_ ?_ <;> intro _) | refine wk4 ?_ | fail); all_goals (conv => whnf)
 refine Yc (S := Nat × Int) (fun t => l.length - t.1) (fun t => [(3,I 0),(6,.isl 1 (nl l)),(7,I (nl l).length),(8,I t.2)]) (fun _ => []) 0 0
  (fun t => t.2 = t.1 /\ t.1 <= l.length /\ fstL (l.drop t.1) = fstL l) (0,0) ⟨rfl,Nat.zero_le _,rfl⟩ (Nat.le_refl _) [] rfl (kps) (kps) ?_
 rintro ⟨k,i⟩ ⟨hi,hk,hh⟩
 dsimp only at hi hk hh ⊢
 subst hi
 generalize fstL l = R at *
 refine bs.av (sx := nos) Zd ?_
 by_cases hlt : k < l.length
 ·have e1 := Ue hlt
  rw [List.drop_eq_getElem_cons hlt,fstL] at hh
  generalize l[k] = x at *
  by_cases c : x = 0
  ·rw [if_neg (fun q => q c)] at hh
   repeat' (first | refine wk3 ?_ | (refine wk2 ?_ ?_ <;> intro _) | refine wk4 ?_ | fail); all_goals (conv => whnf)
   all_goals first
    | (exfalso; simp_all; done)
    | exact Done.mk ⟨(k + 1,_),[],rfl,kps,kps,⟨Zk (by omega),hlt,hh⟩,by dsimp only; omega⟩
  ·rw [if_pos c] at hh
   subst hh
   repeat' (first | refine wk3 ?_ | (refine wk2 ?_ ?_ <;> intro _) | refine wk4 ?_ | fail); all_goals (conv => whnf)
   all_goals first
    | exact Za rfl
    | (exfalso; simp_all; done)
 ·rw [List.drop_of_length_le (by omega),fstL] at hh
  subst hh
  repeat' (first | refine wk3 ?_ | (refine wk2 ?_ ?_ <;> intro _) | refine wk4 ?_ | fail); all_goals (conv => whnf)
  exact Za rfl
noncomputable abbrev rOr : List AV -> Option PRes := famA (fun l : List Int => l.length < 1000) (fun l => [.isl 1 (nl l)]) (fun l => ⟨I (fstL l),[]⟩)
theorem Yfu {pt : PC} (hp : PCOK Tryz.prog pt) : PCOK Tryz.prog (ins 146 rOr pt) := Yr (fun l hl => d146 hl) hp
theorem Ydr {l : List Int} (h : l.length < 1000) : rOr [.isl 1 (nl l)] = some ⟨I (fstL l),[]⟩ :=
 Ya (p := fun l : List Int => l.length < 1000) (g := fun l => [.isl 1 (nl l)]) (r := fun l => ⟨I (fstL l),[]⟩) (fun j hj => by
  simp only [List.cons.injEq,AV.isl.injEq,true_and,and_true] at hj
  rw [Zja hj]) h
theorem d115 {a b : Pth} (ha : a.ss.length < 1000000) (hb : b.ss.length < 1000000) : PCall Tryz.prog 115 [a.av,b.av] ⟨I (ordP a b),[]⟩ := by
 obtain ⟨s1,p1,q1⟩ := a
 obtain ⟨s2,p2,q2⟩ := b
 dsimp only at ha hb
 have l1 := Zl s1
 have l2 := Zl s2
 have e1 := Zzu ha hb
 have e2 := Ydr (l := [cmpI q1 q2,cmpI ((nl s1).length : Int) ((nl s2).length : Int),cmpL s1 s2]) (by simp)
 unfold ordP
 dsimp only
 rw [<-l1,<-l2]
 refine bs.pv (sx := nos) (Zvw (Ydu (Yfu Zd))) Tryz.func115 (by kernel_rfl) (by kernel_rfl) rfl ?_
 repeat' (first | refine wk3 ?_ | (refine wk2 ?_ ?_ <;> intro _) | refine wk4 ?_ | fail); all_goals (conv => whnf)
 exact Za rfl
end Go.Proofs.YtdaliaafmcjikaaGreat
