/- A part of the proof: lemmas. -/
import Derived.Test.YtdaliaafmcjikaaGreatY11
import Derived.Test.YtdaliaafmcjikaaGreatY7
import Derived.Test.YtdaliaafmcjikaaGreatY10
set_option linter.unusedVariables false
set_option linter.unusedSimpArgs false
namespace Go.Proofs.YtdaliaafmcjikaaGreat
open Go Go.Sx
set_option maxHeartbeats 4000000 in
theorem c113 (k : Int) (p : Pt) : PCall Tryz.prog 166 [I k, p.av] ⟨I (offN k p.x p.y p.z), []⟩ := by
 refine bs.pv (sx := nos) Ze Tryz.func166 (by kernel_rfl) (by kernel_rfl) rfl ?_
 repeat' (first | refine wk0 ?_ | (refine wk2 ?_ ?_ <;> intro _) | refine wk4 ?_ | fail); all_goals (conv => whnf)
 all_goals exact Za (by simp_all [offN])
def Zly (h : Hal) (w : Wl) (p : Pt) : Bool := !(decide (p.z <= 0) || decide (IntKind.i64.wrap (h.ht * p.d) <= p.z)) && (if w.fx = w.tx then decide (IntKind.i64.wrap (imin w.fy w.ty * p.d) < p.y) && decide (p.y < IntKind.i64.wrap (imax w.fy w.ty * p.d)) else decide (IntKind.i64.wrap (imin w.fx w.tx * p.d) < p.x) && decide (p.x < IntKind.i64.wrap (imax w.fx w.tx * p.d)))
def Za4 (h : Hal) (i : Int) (p : Pt) : Bool := if i < h.ws.length then Zly h (wlOf h.cs i.toNat) p else if i < (h.ws.length : Int) + 2 then Yh h p.x p.y p.d else (kat h i).rc.holds p.x p.y p.d
theorem Zgb {h : Hal} {k : Nat} {p : Pt} (hk : k < h.ws.length) : Za4 h k p = Zly h (wlOf h.cs k) p := by unfold Za4; rw [if_pos (by omega)]; rfl
theorem Zeo {h : Hal} {p : Pt} : Za4 h h.ws.length p = Yh h p.x p.y p.d := by unfold Za4; rw [if_neg (by omega), if_pos (by omega)]
theorem Zgc {h : Hal} {p : Pt} : Za4 h ((h.ws.length : Int) + 1) p = Yh h p.x p.y p.d := by unfold Za4; rw [if_neg (by omega), if_pos (by omega)]
theorem Zhx {h : Hal} {j : Nat} {p : Pt} (hj : j < h.ks.length) : Za4 h ((h.ws.length : Int) + 2 + j) p = h.ks[j].rc.holds p.x p.y p.d := by unfold Za4; rw [if_neg (by omega), if_neg (by omega), Zqp hj]
set_option maxRecDepth 100000 in
set_option maxHeartbeats 16000000 in
theorem c118 {h : Hal} {s : Stg} (g : Sit h s) {i : Int} (hi : SK h i) (p : Pt) : PCall Tryz.prog 171 [.agg (stgL h s), I i, p.av] ⟨Bo (Za4 h i p), []⟩ := by
 have f3 := g.ok.f.2.2.1
 have f4 := g.ok.f.2.2.2.1
 have hk0 := Zd (c87 g.ok.f s hi) (Zd (c183 g.ok.f p.x p.y p.d) (Yc6 g))
 cases hi with
 | wall k hk =>
  have hk2 : k < h.cs.length := by have := g.fine.le; omega
  rw [Zgb hk]
  obtain ⟨v1, v2⟩ := Zls (h := h) (i := k) (by omega)
  rw [v1, v2] at hk0
  have hk1 := Zd (Yb7 g.ok.f hk2) hk0
  generalize wlOf h.cs k = w at *
  refine bs.pv (sx := nos) hk1 Tryz.func171 (by kernel_rfl) (by kernel_rfl) rfl ?_
  repeat' (first | refine wk0 ?_ | (refine wk2 ?_ ?_ <;> intro _) | refine wk4 ?_ | fail); all_goals (conv => whnf)
  all_goals clear hk0 hk1
  all_goals first
   | (exfalso; rename_i hx; have hx := of_decide_eq_true (show decide ((k : Int) = (h.ws.length : Int) + 1) = true from hx); omega)
   | (exfalso; rename_i hx; have hx := of_decide_eq_true (show decide ((k : Int) = (h.ws.length : Int)) = true from hx); omega)
   | (refine Zb ?_; simp_all [Zly]; done)
   | (refine Zb ?_; simp_all [Zly]; intro _; omega)
   | (exfalso; simp_all; omega)
 | floor =>
  rw [Zeo]
  obtain ⟨v1, v2⟩ := Zls (h := h) (i := h.ws.length) (by omega)
  rw [v1, v2] at hk0
  refine bs.pv (sx := nos) hk0 Tryz.func171 (by kernel_rfl) (by kernel_rfl) rfl ?_
  repeat' (first | refine wk1 ?_ | (refine wk2 ?_ ?_ <;> intro _) | refine wk4 ?_ | fail); all_goals (conv => whnf)
  exact Zb rfl
 | ceil =>
  rw [Zgc]
  obtain ⟨v1, v2⟩ := Zls (h := h) (i := (h.ws.length : Int) + 1) (by omega)
  rw [v1, v2] at hk0
  refine bs.pv (sx := nos) hk0 Tryz.func171 (by kernel_rfl) (by kernel_rfl) rfl ?_
  repeat' (first | refine wk1 ?_ | (refine wk2 ?_ ?_ <;> intro _) | refine wk4 ?_ | fail); all_goals (conv => whnf)
  ·exact Zb rfl
  all_goals (exfalso; simp_all; done)
 | can j hj =>
  rw [Zhx hj]
  obtain ⟨v1, v2⟩ := Zyd hj
  rw [v1, v2] at hk0
  generalize h.ks[j] = c at *
  have hk1 := Zd (c193 c.rc p.x p.y p.d) hk0
  refine bs.pv (sx := nos) hk1 Tryz.func171 (by kernel_rfl) (by kernel_rfl) rfl ?_
  repeat' (first | refine wk1 ?_ | (refine wk2 ?_ ?_ <;> intro _) | refine wk4 ?_ | fail); all_goals (conv => whnf)
  exact Zb rfl
def Zs3 (c : Can) (p : Pt) : Bool := Ze0 c p && !decide (p.x = IntKind.i64.wrap (c.fx * p.d)) && !decide (p.x = IntKind.i64.wrap (c.tx * p.d)) && !decide (p.y = IntKind.i64.wrap (c.fy * p.d)) && !decide (p.y = IntKind.i64.wrap (c.ty * p.d))
set_option maxRecDepth 100000 in
set_option maxHeartbeats 8000000 in
theorem c194 (c : Can) (p : Pt) : PCall Tryz.prog 186 [.agg c.av, p.av] ⟨Bo (Zs3 c p), []⟩ := by
 have hk0 := Zd (c191 c p) Ze
 refine bs.pv (sx := nos) hk0 Tryz.func186 (by kernel_rfl) (by kernel_rfl) rfl ?_
 unfold Zs3
 cases hb : Ze0 c p with
 | false =>
  rw [hb] at hk0
  repeat' (first | refine wk0 ?_ | (refine wk2 ?_ ?_ <;> intro _) | refine wk4 ?_ | fail); all_goals (conv => whnf)
  all_goals first
   | exact Zb rfl
   | exact Zb (by simp_all; done)
   | (exfalso; simp_all; done)
 | true =>
  rw [hb] at hk0
  repeat' (first | refine wk0 ?_ | (refine wk2 ?_ ?_ <;> intro _) | refine wk4 ?_ | fail); all_goals (conv => whnf)
  all_goals first
   | exact Zb (by simp_all; done)
   | (exfalso; simp_all; done)
def Zs2 (h : Hal) (l : Ln) (p : Pt) : Bool := within (l.along p) 1 (IntKind.i64.wrap (IntKind.i64.wrap (l.full * p.d) - 1)) && within p.z 1 (IntKind.i64.wrap (IntKind.i64.wrap (h.ht * p.d) - 1))
def Zbf (h : Hal) (i : Int) (p : Pt) : Bool := if i < h.ws.length then Zs2 h (lnOf h.cs i.toNat) p else if i < (h.ws.length : Int) + 2 then Zq h p else Zs3 (kat h i) p
theorem Zjv {h : Hal} {k : Nat} {p : Pt} (hk : k < h.ws.length) : Zbf h k p = Zs2 h (lnOf h.cs k) p := by unfold Zbf; rw [if_pos (by omega)]; rfl
theorem Zhw {h : Hal} {p : Pt} : Zbf h h.ws.length p = Zq h p := by unfold Zbf; rw [if_neg (by omega), if_pos (by omega)]
theorem Zjw {h : Hal} {p : Pt} : Zbf h ((h.ws.length : Int) + 1) p = Zq h p := by unfold Zbf; rw [if_neg (by omega), if_pos (by omega)]
theorem Zlz {h : Hal} {j : Nat} {p : Pt} (hj : j < h.ks.length) : Zbf h ((h.ws.length : Int) + 2 + j) p = Zs3 h.ks[j] p := by unfold Zbf; rw [if_neg (by omega), if_neg (by omega), Zqp hj]
set_option maxRecDepth 100000 in
set_option maxHeartbeats 16000000 in
theorem c121 {h : Hal} {s : Stg} (g : Sit h s) {i : Int} (hi : SK h i) (p : Pt) : PCall Tryz.prog 129 [h.av, I i, p.av] ⟨Bo (Zbf h i p), []⟩ := by
 have f3 := g.ok.f.2.2.1
 have f4 := g.ok.f.2.2.2.1
 have hk0 := Zd (c89 g.ok.f hi) (Zd (c106 g.ok.f g.fine.le.2.2.1 (Zt5 g.fine.st) p) (Zke g.ok.f))
 cases hi with
 | wall k hk =>
  have hk2 : k < h.cs.length := by have := g.fine.le; omega
  have e1 := Xu hk2
  have hn := Zt5 g.fine.st k hk2
  rw [show Zcd h k = (0, (k : Int)) by unfold Zcd; rw [if_pos (by omega)]] at hk0
  rw [Zjv hk]
  generalize lnOf h.cs k = l at *
  obtain ⟨x, y, dx, dy⟩ := l
  have ha := Xy (res := ⟨I ((Ln.mk x y dx dy).along ⟨p.x, p.y, p.z, p.d⟩), []⟩) hn
  have hb := Xy (res := ⟨I (Ln.mk x y dx dy).full, []⟩) hn
  refine bs.pv (sx := nos) hk0 Tryz.func129 (by kernel_rfl) (by kernel_rfl) rfl ?_
  repeat' (first | refine wk0 ?_ | (refine wk2 ?_ ?_ <;> intro _) | refine wk4 ?_ | fail); all_goals (conv => whnf)
  all_goals clear hk0
  all_goals first
   | (refine Zb ?_; simp_all [Zs2]; done)
   | (exfalso; simp_all; done)
   | (exfalso; simp_all; omega)
 | floor =>
  rw [show Zcd h h.ws.length = (1, 0) by unfold Zcd; rw [if_neg (by omega), if_pos rfl]] at hk0
  rw [Zhw]
  refine bs.pv (sx := nos) hk0 Tryz.func129 (by kernel_rfl) (by kernel_rfl) rfl ?_
  repeat' (first | refine wk1 ?_ | (refine wk2 ?_ ?_ <;> intro _) | refine wk4 ?_ | fail); all_goals (conv => whnf)
  exact Zb rfl
 | ceil =>
  rw [show Zcd h ((h.ws.length : Int) + 1) = (2, 0) by unfold Zcd; rw [if_neg (by omega), if_neg (by omega), if_pos rfl]] at hk0
  rw [Zjw]
  refine bs.pv (sx := nos) hk0 Tryz.func129 (by kernel_rfl) (by kernel_rfl) rfl ?_
  repeat' (first | refine wk1 ?_ | (refine wk2 ?_ ?_ <;> intro _) | refine wk4 ?_ | fail); all_goals (conv => whnf)
  exact Zb rfl
 | can j hj =>
  rw [show Zcd h ((h.ws.length : Int) + 2 + j) = (3, (j : Int)) by unfold Zcd; rw [if_neg (by omega), if_neg (by omega), if_neg (by omega)]; simp; omega] at hk0
  rw [Zlz hj]
  have e1 := Zbe hj
  generalize h.ks[j] = c at *
  have hk1 := Zd (c194 c p) hk0
  refine bs.pv (sx := nos) hk1 Tryz.func129 (by kernel_rfl) (by kernel_rfl) rfl ?_
  repeat' (first | refine wk1 ?_ | (refine wk2 ?_ ?_ <;> intro _) | refine wk4 ?_ | fail); all_goals (conv => whnf)
  exact Zb rfl
def valN (k x y z : Int) : Int := if k = 0 then x else if k = 1 then y else if k = 2 then z else if k = 3 then x + y else x - y
theorem Zk5 {w : Wl} {n sx sy : Int} (h : Str w n sx sy) : plW w = if sx = 0 then (0, w.fx) else if sy = 0 then (1, w.fy) else if sx = sy then (4, w.fx - w.fy) else (3, w.fx + w.fy) := by
 have hn := h.hn
 have b1 := h.b1
 have b2 := h.b2
 have hxy := h.hxy
 have w4 : IntKind.i64.wrap (w.fx - w.fy) = w.fx - w.fy := W_eq (by omega) (by omega)
 have w3 : IntKind.i64.wrap (w.fx + w.fy) = w.fx + w.fy := W_eq (by omega) (by omega)
 unfold plW
 rw [h.dx, h.dy, w3, w4]
 rcases h.hx with rfl | rfl | rfl <;> rcases h.hy with rfl | rfl | rfl <;> (try (exact absurd ⟨rfl, rfl⟩ hxy)) <;> simp only [Int.mul_zero, Int.mul_one, Int.mul_neg] <;> (repeat' split) <;> first | rfl | (exfalso; omega)
set_option maxHeartbeats 8000000 in
theorem Zs5 {h : Hal} {w : Wl} {n sx sy : Int} (hs : Str w n sx sy) {p : Pt} (hp : PtOk p.x p.y p.d) (ht : 2 <= h.ht /\ h.ht <= 5000) (hpl : valN (plW w).1 p.x p.y p.z = (plW w).2 * p.d) : Zly h w p = Zs2 h w.ln p := by
 obtain ⟨x, y, z, d⟩ := p
 dsimp only at hp hpl
 have hd := hp.hd
 have hD := hp.hD
 have nd := Yaz hs.hn hs.nle hd
 have a1 := Zh hs.b1 hd
 have a2 := Zh hs.b2 hd
 have a3 := Zh hs.b3 hd
 have a4 := Zh hs.b4 hd
 have hz : IntKind.i64.wrap (h.ht * d) = h.ht * d /\ IntKind.i64.wrap (h.ht * d - 1) = h.ht * d - 1 /\ 0 < h.ht * d := by
  have := Zh (f := h.ht) (d := d) (by omega) hd
  have := Int.mul_pos (a := h.ht) (b := d) (by omega) hd
  exact ⟨W_eq (by omega) (by omega), W_eq (by omega) (by omega), this⟩
 unfold Zly Zs2
 rw [Zd5 hs hp, Zlj hs]
 rw [Zk5 hs] at hpl
 unfold valN at hpl
 rw [Zac, Zac, Zad, Zad]
 dsimp only
 rw [hz.1, hz.2.1]
 rw [Zbh hd, Zbh hd, Zbi hd, Zbi hd]
 rw [W_eq (n := min (w.fx * d) (w.tx * d)) (by omega) (by omega), W_eq (n := max (w.fx * d) (w.tx * d)) (by omega) (by omega), W_eq (n := min (w.fy * d) (w.ty * d)) (by omega) (by omega), W_eq (n := max (w.fy * d) (w.ty * d)) (by omega) (by omega)]
 have etx := hs.tx
 have ety := hs.ty
 have b1 := hs.b1
 have b2 := hs.b2
 have hn := hs.hn
 have cnd : (w.fx = w.tx) ↔ sx = 0 := by
  rw [etx]
  constructor
  ·intro e
   have : n * sx = 0 := by omega
   rcases Int.mul_eq_zero.1 this with h | h
   ·omega
   ·exact h
  ·intro e; rw [e]; omega
 have ex : w.tx * d = w.fx * d + sx * (n * d) := by rw [etx]; grind
 have ey : w.ty * d = w.fy * d + sy * (n * d) := by rw [ety]; grind
 have full : n * (sx * sx + sy * sy) * d = (sx * sx + sy * sy) * (n * d) := by grind
 have d3 : (w.fx + w.fy) * d = w.fx * d + w.fy * d := by grind
 have d4 : (w.fx - w.fy) * d = w.fx * d - w.fy * d := by grind
 rw [full, ex, ey]
 unfold alo
 simp only [cnd]
 have hx := hs.hx
 have hy := hs.hy
 have hxy := hs.hxy
 clear full etx ety cnd hs hp hz
 generalize w.fx * d = A at *
 generalize w.fy * d = C at *
 generalize n * d = N at *
 generalize h.ht * d = H at *
 rcases hx with rfl | rfl | rfl <;> rcases hy with rfl | rfl | rfl <;> (try (exact absurd ⟨rfl, rfl⟩ hxy)) <;> simp [IntKind.wrap_i64] at hpl ⊢ <;> rw [Bool.eq_iff_iff] <;> simp [within_iff]
 all_goals omega
structure Crs where
 su : Int
 fx : Int
 fy : Int
 fz : Int
 to : Pt
abbrev Crs.av (c : Crs) : AV := .agg [I c.su, I c.fx, I c.fy, I c.fz, I c.to.x, I c.to.y, I c.to.z, I c.to.d]
def crF (pl : Int × Int) (c : Crs) : Int := valN pl.1 c.fx c.fy c.fz - pl.2
def crG (pl : Int × Int) (c : Crs) : Int := valN pl.1 c.to.x c.to.y c.to.z - pl.2 * c.to.d
def crPt (c : Crs) (u v : Int) : Pt := ⟨c.fx * u + c.to.x * v, c.fy * u + c.to.y * v, c.fz * u + c.to.z * v, u + c.to.d * v⟩
def redP (p : Pt) : Pt := ⟨p.x / (g4 p : Int), p.y / (g4 p : Int), p.z / (g4 p : Int), p.d / (g4 p : Int)⟩
def iabs (n : Int) : Int := if n < 0 then -n else n
def Xn (pl : Int × Int) (c : Crs) : Pt := redP (crPt c (iabs (crG pl c)) (iabs (crF pl c)))
def ptZ : Pt := ⟨0, 0, 0, 0⟩
def Uy (well : Pt -> Bool) (pl : Int × Int) (c : Crs) : Pt × Int :=
 if 0 <= sgn (crF pl c) * sgn (crG pl c) then (ptZ, 12)
 else if well (Xn pl c) then (if 100000 < (Xn pl c).d then (ptZ, 8) else (Xn pl c, 0))
 else (ptZ, 12)
structure CrOk (pl : Int × Int) (c : Crs) : Prop where
 k0 : 0 <= pl.1
 k4 : pl.1 <= 4
 at' : -10000 <= pl.2 /\ pl.2 <= 10000
 fx : -45000 <= c.fx /\ c.fx <= 45000
 fy : -45000 <= c.fy /\ c.fy <= 45000
 fz : -45000 <= c.fz /\ c.fz <= 45000
 d0 : 0 < c.to.d
 d1 : c.to.d <= 100000
 x : -(5000 * c.to.d) <= c.to.x /\ c.to.x <= 5000 * c.to.d
 y : -(5000 * c.to.d) <= c.to.y /\ c.to.y <= 5000 * c.to.d
 z : -(5000 * c.to.d) <= c.to.z /\ c.to.z <= 5000 * c.to.d
theorem Zvv {pl : Int × Int} {c : Crs} (h : CrOk pl c) : IntKind.i64.wrap (offN pl.1 c.fx c.fy c.fz - pl.2) = crF pl c /\ IntKind.i64.wrap (offN pl.1 c.fx c.fy c.fz - IntKind.i64.wrap (pl.2 * 1)) = crF pl c /\ -100000 <= crF pl c /\ crF pl c <= 100000 := by
 obtain ⟨h1, h2, h3, h4, h5, h6, _⟩ := h
 unfold crF valN offN
 rw [Int.mul_one, W_eq (n := pl.2) (by omega) (by omega)]
 repeat' split
 all_goals (try rw [W_eq (n := c.fx + c.fy) (by omega) (by omega)])
 all_goals (try rw [W_eq (n := c.fx - c.fy) (by omega) (by omega)])
 all_goals (refine ⟨W_eq (by omega) (by omega), W_eq (by omega) (by omega), by omega, by omega⟩)
theorem Zra {pl : Int × Int} {c : Crs} (h : CrOk pl c) : IntKind.i64.wrap (offN pl.1 c.to.x c.to.y c.to.z - IntKind.i64.wrap (pl.2 * c.to.d)) = crG pl c /\ -2000000000 <= crG pl c /\ crG pl c <= 2000000000 := by
 obtain ⟨h1, h2, h3, h4, h5, h6, h7, h8, h9, h10, h11⟩ := h
 have m := Zn (a := pl.2) (b := c.to.d) (A := 10000) (B := 100000) (by omega) (by omega)
 unfold crG valN offN
 rw [W_eq (n := pl.2 * c.to.d) (by omega) (by omega)]
 generalize pl.2 * c.to.d = m at *
 repeat' split
 all_goals (try rw [W_eq (n := c.to.x + c.to.y) (by omega) (by omega)])
 all_goals (try rw [W_eq (n := c.to.x - c.to.y) (by omega) (by omega)])
 all_goals (refine ⟨W_eq (by omega) (by omega), by omega, by omega⟩)
theorem Zpk {pl : Int × Int} {c : Crs} (h : CrOk pl c) {u v : Int} (hu : 0 <= u /\ u <= 2000000000) (hv : 0 <= v /\ v <= 100000) :
  (-90000000000000 <= c.fx * u /\ c.fx * u <= 90000000000000) /\ (-90000000000000 <= c.fy * u /\ c.fy * u <= 90000000000000) /\ (-90000000000000 <= c.fz * u /\ c.fz * u <= 90000000000000) /\
  (-50000000000000 <= c.to.x * v /\ c.to.x * v <= 50000000000000) /\ (-50000000000000 <= c.to.y * v /\ c.to.y * v <= 50000000000000) /\ (-50000000000000 <= c.to.z * v /\ c.to.z * v <= 50000000000000) /\ (0 <= c.to.d * v /\ c.to.d * v <= 10000000000) := by
 obtain ⟨h1, h2, h3, h4, h5, h6, h7, h8, h9, h10, h11⟩ := h
 have m1 := Zn (a := c.fx) (b := u) (A := 45000) (B := 2000000000) (by omega) (by omega)
 have m2 := Zn (a := c.fy) (b := u) (A := 45000) (B := 2000000000) (by omega) (by omega)
 have m3 := Zn (a := c.fz) (b := u) (A := 45000) (B := 2000000000) (by omega) (by omega)
 have m4 := Zn (a := c.to.x) (b := v) (A := 500000000) (B := 100000) (by omega) (by omega)
 have m5 := Zn (a := c.to.y) (b := v) (A := 500000000) (B := 100000) (by omega) (by omega)
 have m6 := Zn (a := c.to.z) (b := v) (A := 500000000) (B := 100000) (by omega) (by omega)
 have m7 := Zn (a := c.to.d) (b := v) (A := 100000) (B := 100000) (by omega) (by omega)
 have m8 := Int.mul_nonneg (Int.le_of_lt h7) hv.1
 refine ⟨by omega, by omega, by omega, by omega, by omega, by omega, by omega, by omega⟩
structure Big (p : Pt) : Prop where
 x : -140000000000000 <= p.x /\ p.x <= 140000000000000
 y : -140000000000000 <= p.y /\ p.y <= 140000000000000
 z : -140000000000000 <= p.z /\ p.z <= 140000000000000
 d : 0 < p.d /\ p.d <= 12000000000
theorem Big.wf {p : Pt} (h : Big p) : p.wf := by
 obtain ⟨h1, h2, h3, h4⟩ := h
 exact ⟨⟨by omega, by omega⟩, ⟨by omega, by omega⟩, ⟨by omega, by omega⟩, ⟨by omega, by omega⟩⟩
theorem Zx8 {pl : Int × Int} {c : Crs} (h : CrOk pl c) {u v : Int} (hu : 0 < u /\ u <= 2000000000) (hv : 0 < v /\ v <= 100000) : Big (crPt c u v) := by
 have hb := Zpk h (u := u) (v := v) (by omega) (by omega)
 unfold crPt
 refine ⟨?_, ?_, ?_, ?_⟩ <;> dsimp only <;> omega
theorem Ydl (p : Pt) : ((g4 p : Int) ∣ p.x /\ (g4 p : Int) ∣ p.y) /\ ((g4 p : Int) ∣ p.z /\ (g4 p : Int) ∣ p.d) := by
 unfold g4
 have a := Nat.gcd_dvd_left (Nat.gcd p.x.natAbs p.y.natAbs) (Nat.gcd p.z.natAbs p.d.natAbs)
 have b := Nat.gcd_dvd_right (Nat.gcd p.x.natAbs p.y.natAbs) (Nat.gcd p.z.natAbs p.d.natAbs)
 exact ⟨⟨Int.ofNat_dvd_left.2 (Nat.dvd_trans a (Nat.gcd_dvd_left _ _)), Int.ofNat_dvd_left.2 (Nat.dvd_trans a (Nat.gcd_dvd_right _ _))⟩, ⟨Int.ofNat_dvd_left.2 (Nat.dvd_trans b (Nat.gcd_dvd_left _ _)), Int.ofNat_dvd_left.2 (Nat.dvd_trans b (Nat.gcd_dvd_right _ _))⟩⟩
theorem Zb1 {a g : Int} (hg : 0 < g) (h : g ∣ a) : a.tdiv g = a / g /\ a / g * g = a /\ (∀ B, -B <= a /\ a <= B -> -B <= a / g /\ a / g <= B) := by
 obtain ⟨k, rfl⟩ := h
 rw [Int.mul_tdiv_cancel_left _ (by omega), Int.mul_ediv_cancel_left _ (by omega)]
 refine ⟨rfl, Int.mul_comm _ _, fun B hB => ?_⟩
 rcases Int.lt_or_le k 0 with hk | hk
 ·have := Int.mul_le_mul_of_nonneg_right (show 1 <= g by omega) (show 0 <= -k by omega)
  have e : g * -k = -(g * k) := Int.mul_neg _ _
  omega
 ·have := Int.mul_le_mul_of_nonneg_right (show 1 <= g by omega) hk
  omega
theorem Zds {p : Pt} (h : Big p) : (0 < (g4 p : Int) /\ (g4 p : Int) <= 12000000000) /\ (IntKind.i64.wrap (p.x.tdiv (g4 p)) = (redP p).x /\ IntKind.i64.wrap (p.y.tdiv (g4 p)) = (redP p).y /\ IntKind.i64.wrap (p.z.tdiv (g4 p)) = (redP p).z /\ IntKind.i64.wrap (p.d.tdiv (g4 p)) = (redP p).d) /\ Big (redP p) /\ ((redP p).x * g4 p = p.x /\ (redP p).y * g4 p = p.y /\ (redP p).z * g4 p = p.z /\ (redP p).d * g4 p = p.d) := by
 obtain ⟨g1, g2⟩ := Ydk h.wf h.d.1
 obtain ⟨⟨d1, d2⟩, d3, d4⟩ := Ydl p
 have hg : (0 : Int) < g4 p := by omega
 obtain ⟨x1, x2, x3⟩ := Zb1 hg d1
 obtain ⟨y1, y2, y3⟩ := Zb1 hg d2
 obtain ⟨z1, z2, z3⟩ := Zb1 hg d3
 obtain ⟨e1, e2, e3⟩ := Zb1 hg d4
 obtain ⟨h1, h2, h3, h4⟩ := h
 have x3 := x3 140000000000000 h1
 have y3 := y3 140000000000000 h2
 have z3 := z3 140000000000000 h3
 have e3 := e3 12000000000 (by omega)
 have hd : 0 < p.d / (g4 p : Int) := by
  rcases Int.lt_or_le 0 (p.d / (g4 p : Int)) with k | k
  ·exact k
  ·have := Int.mul_nonneg (show 0 <= -(p.d / (g4 p : Int)) by omega) (Int.le_of_lt hg)
   rw [Int.neg_mul] at this
   omega
 refine ⟨by omega, ⟨?_, ?_, ?_, ?_⟩, ⟨x3, y3, z3, hd, e3.2⟩, x2, y2, z2, e2⟩
 ·rw [x1]; exact W_eq (by omega) (by omega)
 ·rw [y1]; exact W_eq (by omega) (by omega)
 ·rw [z1]; exact W_eq (by omega) (by omega)
 ·rw [e1]; exact W_eq (by omega) (by omega)
theorem Big.ok {p : Pt} (h : Big p) : PtOk p.x p.y p.d := by
 obtain ⟨h1, h2, h3, h4⟩ := h
 exact ⟨h4.1, by omega, by omega, by omega⟩
theorem Zlw {pl : Int × Int} {c : Crs} (h : CrOk pl c) (hs : ¬ 0 <= sgn (crF pl c) * sgn (crG pl c)) : (0 < iabs (crG pl c) /\ iabs (crG pl c) <= 2000000000) /\ (0 < iabs (crF pl c) /\ iabs (crF pl c) <= 100000) := by
 have h1 := (Zvv h).2.2
 have h2 := (Zra h).2
 have h3 := sgn_mul_neg.1 (show sgn (crF pl c) * sgn (crG pl c) < 0 by omega)
 unfold iabs
 refine ⟨?_, ?_⟩ <;> split <;> omega
theorem Zby {pl : Int × Int} {c : Crs} (h : CrOk pl c) (hs : ¬ 0 <= sgn (crF pl c) * sgn (crG pl c)) : Big (crPt c (iabs (crG pl c)) (iabs (crF pl c))) := by
 obtain ⟨a, b⟩ := Zlw h hs
 exact Zx8 h a b
theorem Zww (k a b c a' b' c' u v : Int) : valN k (a * u + a' * v) (b * u + b' * v) (c * u + c' * v) = valN k a b c * u + valN k a' b' c' * v := by
 unfold valN
 repeat' split
 all_goals grind
theorem Zwv (k a b c g : Int) : valN k (a * g) (b * g) (c * g) = valN k a b c * g := by
 unfold valN
 repeat' split
 all_goals grind
theorem Ze6 {pl : Int × Int} {c : Crs} (h : CrOk pl c) (hs : ¬ 0 <= sgn (crF pl c) * sgn (crG pl c)) : valN pl.1 (Xn pl c).x (Xn pl c).y (Xn pl c).z = pl.2 * (Xn pl c).d := by
 obtain ⟨⟨g1, _⟩, _, _, e1, e2, e3, e4⟩ := Zds (Zby h hs)
 have h3 := sgn_mul_neg.1 (show sgn (crF pl c) * sgn (crG pl c) < 0 by omega)
 have k : valN pl.1 (crPt c (iabs (crG pl c)) (iabs (crF pl c))).x (crPt c (iabs (crG pl c)) (iabs (crF pl c))).y (crPt c (iabs (crG pl c)) (iabs (crF pl c))).z = pl.2 * (crPt c (iabs (crG pl c)) (iabs (crF pl c))).d := by
  unfold crPt
  dsimp only
  rw [Zww]
  have hF : valN pl.1 c.fx c.fy c.fz = crF pl c + pl.2 := by unfold crF; omega
  have hG : valN pl.1 c.to.x c.to.y c.to.z = crG pl c + pl.2 * c.to.d := by unfold crG; omega
  rw [hF, hG]
  have : crF pl c * iabs (crG pl c) + crG pl c * iabs (crF pl c) = 0 := by
   unfold iabs
   rcases h3 with ⟨p1, p2⟩ | ⟨p1, p2⟩
   ·rw [if_neg (by omega), if_pos p1]; grind
   ·rw [if_pos p2, if_neg (by omega)]; grind
  grind
 unfold Xn
 rw [<-e1, <-e2, <-e3, <-e4, Zwv] at k
 generalize redP (crPt c (iabs (crG pl c)) (iabs (crF pl c))) = q at *
 have k2 : (valN pl.1 q.x q.y q.z - pl.2 * q.d) * (g4 (crPt c (iabs (crG pl c)) (iabs (crF pl c))) : Int) = 0 := by
  rw [Int.sub_mul, k]; grind
 rcases Int.mul_eq_zero.1 k2 with k3 | k3 <;> omega
theorem Ze7 {h : Hal} (g : h.fine) {j : Nat} (hj : j < h.ks.length) : CanOk h.ks[j] /\ Zce h.ht none h.ks[j].hs = 0 := by
 have := g.can j hj
 unfold Zgt at this
 split at this
 ·split at this
  ·cases this
  ·split at this
   ·cases this
   ·split at this
    ·cases this
    ·split at this
     ·cases this
     ·split at this
      ·split at this
       ·rename_i hz
        split at this
        ·rename_i hp
         split at this
         ·cases this
         ·rename_i hd
          simp only [Bool.and_eq_true] at hp
          simp only [Bool.or_eq_true, decide_eq_true_eq, not_or] at hd
          exact ⟨⟨within_iff.1 hp.1.1.1, within_iff.1 hp.1.1.2, within_iff.1 hp.1.2, within_iff.1 hp.2, hd.1, hd.2⟩, hz⟩
        ·cases this
       ·rename_i hx; exact absurd this hx
      ·cases this
 ·cases this
theorem ite9 {b : Bool} {x : Int} (h : (if b = true then 9 else x) = 0) : x = 0 := by
 cases b
 ·exact h
 ·rw [if_pos rfl] at h; exact absurd h (by decide)
theorem Ydh {ht : Int} (h0 : 2 <= ht /\ ht <= 5000) : ∀ (l : List Int) (p : Option Int), Zce ht p l = 0 -> ∀ n ∈ l, 1 <= n /\ n < ht
 | [], _, _, n, hn => by simp at hn
 | m :: l, p, h, n, hn => by
  rw [Zgo] at h
  split at h
  ·rename_i hw
   rw [W_eq (by omega) (by omega), within_iff] at hw
   have h2 := ite9 h
   rcases List.mem_cons.1 hn with rfl | hn
   ·omega
   ·exact Ydh h0 l _ h2 n hn
  ·cases h
theorem Zqx {h : Hal} {s : Stg} (g : Sit h s) {j : Nat} (hj : j < h.ks.length) : 1 <= Ue h s j /\ Ue h s j < h.ht := by
 obtain ⟨n, e1, e2, e3, e4⟩ := Zix g.set hj
 have hm : Ue h s j ∈ h.ks[j].hs := by
  have := List.mem_of_getElem? e4
  simp only [nl, List.mem_map, List.cons.injEq, AV.int.injEq, true_and, and_true] at this
  obtain ⟨m, hm, rfl⟩ := this
  exact hm
 exact Ydh g.fine.ht _ _ (Ze7 g.fine hj).2 _ hm
theorem Zor {c : Can} (h : CanOk c) : RcOk c.rc := by
 obtain ⟨h1, h2, h3, h4, h5, h6⟩ := h
 obtain ⟨⟨e1, e2⟩, e3, e4⟩ := Zev c
 refine ⟨?_, ?_, ?_, ?_, ?_, ?_⟩ <;> omega
theorem Zfg {h : Hal} {s : Stg} (g : Sit h s) {i : Int} (hi : SK h i) : (0 <= (Zg h s i).1 /\ (Zg h s i).1 <= 4) /\ (-10000 <= (Zg h s i).2 /\ (Zg h s i).2 <= 10000) := by
 have ht := g.fine.ht
 cases hi with
 | wall k hk =>
  have hk2 : k < h.cs.length := by have := g.fine.le; omega
  obtain ⟨n, sx, sy, hs⟩ := g.fine.st k hk2
  rw [Un hk, Zk5 hs]
  have := hs.b1
  have := hs.b2
  repeat' split
  all_goals (dsimp only; omega)
 | floor => rw [Ut]; dsimp only; omega
 | ceil => rw [Zav]; dsimp only; omega
 | can j hj =>
  rw [Zbq]
  have := Zqx g hj
  dsimp only; omega
theorem Yab {h : Hal} {s : Stg} (g : Sit h s) {i : Int} (hi : SK h i) {p : Pt} (hp : PtOk p.x p.y p.d) (hpl : valN (Zg h s i).1 p.x p.y p.z = (Zg h s i).2 * p.d) : Za4 h i p = Zbf h i p := by
 cases hi with
 | wall k hk =>
  have hk2 : k < h.cs.length := by have := g.fine.le; omega
  obtain ⟨n, sx, sy, hs⟩ := g.fine.st k hk2
  rw [Un hk] at hpl
  rw [Zgb hk, Zjv hk, Zbj]
  exact Zs5 hs hp g.fine.ht hpl
 | floor =>
  rw [Zeo, Zhw]
  exact Ub g.fine.st p.z hp
 | ceil =>
  rw [Zgc, Zjw]
  exact Ub g.fine.st p.z hp
 | can j hj =>
  rw [Zhx hj, Zlz hj]
  have hr := Zor (Ze7 g.fine hj).1
  have hd : 0 < p.d /\ p.d <= 1000000000000000 := by have := hp.hd; have := hp.hD; omega
  have c0 := (Ze7 g.fine hj).1
  generalize h.ks[j] = c at *
  obtain ⟨⟨e1, e2⟩, e3, e4⟩ := Zev c
  have c1 := Zh c0.b1 hd.1
  have c2 := Zh c0.b2 hd.1
  have c3 := Zh c0.b3 hd.1
  have c4 := Zh c0.b4 hd.1
  rw [Bool.eq_iff_iff, Zdr hr hd, e1, e2, e3, e4]
  unfold Zs3 Ze0
  rw [Zac, Zac, Zad, Zad, Zbh hd.1, Zbi hd.1, Zbh hd.1, Zbi hd.1]
  rw [W_eq (n := c.fx * p.d) (by omega) (by omega), W_eq (n := c.tx * p.d) (by omega) (by omega), W_eq (n := c.fy * p.d) (by omega) (by omega), W_eq (n := c.ty * p.d) (by omega) (by omega)]
  rw [W_eq (n := min (c.fx * p.d) (c.tx * p.d)) (by omega) (by omega), W_eq (n := max (c.fx * p.d) (c.tx * p.d)) (by omega) (by omega), W_eq (n := min (c.fy * p.d) (c.ty * p.d)) (by omega) (by omega), W_eq (n := max (c.fy * p.d) (c.ty * p.d)) (by omega) (by omega)]
  simp only [Bool.and_eq_true, Bool.not_eq_true', decide_eq_false_iff_not, within_iff]
  omega
theorem Zvt {p : Pt} (hb : Big p) {X Y Z D : Int} (hX : X = p.x) (hY : Y = p.y) (hZ : Z = p.z) (hD : D = p.d) :
  gcds [I X, I Y] = some ⟨I (IntKind.i64.wrap ((Nat.gcd p.x.natAbs p.y.natAbs : Nat) : Int)), []⟩ /\ gcds [I Z, I D] = some ⟨I (IntKind.i64.wrap ((Nat.gcd p.z.natAbs p.d.natAbs : Nat) : Int)), []⟩ /\ gcds [I (IntKind.i64.wrap ((Nat.gcd p.x.natAbs p.y.natAbs : Nat) : Int)), I (IntKind.i64.wrap ((Nat.gcd p.z.natAbs p.d.natAbs : Nat) : Int))] = some ⟨I (g4 p : Int), []⟩ /\
  IntKind.i64.wrap (X.tdiv (g4 p)) = (redP p).x /\ IntKind.i64.wrap (Y.tdiv (g4 p)) = (redP p).y /\ IntKind.i64.wrap (Z.tdiv (g4 p)) = (redP p).z /\ IntKind.i64.wrap (D.tdiv (g4 p)) = (redP p).d /\ (0 < (g4 p : Int) /\ (g4 p : Int) <= 12000000000) := by
 subst hX hY hZ hD
 have hw := hb.wf
 have h3' := Zli (Zsk ((Nat.gcd p.x.natAbs p.y.natAbs : Nat) : Int)) (Zsk ((Nat.gcd p.z.natAbs p.d.natAbs : Nat) : Int))
 rw [Zqh (Zzu hw.x hw.y), Zqh (Zzu hw.z hw.d)] at h3'
 change gcds _ = some ⟨I (IntKind.i64.wrap ((g4 p : Nat) : Int)), []⟩ at h3'
 obtain ⟨g1, ⟨r1, r2, r3, r4⟩, _, _⟩ := Zds hb
 rw [W_eq (n := ((g4 p : Nat) : Int)) (by omega) (by omega)] at h3'
 exact ⟨Zli hw.x hw.y, Zli hw.z hw.d, h3', r1, r2, r3, r4, g1⟩
theorem Ydj {p : Pt} (h : Big p) : g4 (redP p) = 1 := by
 obtain ⟨⟨g1, _⟩, _, _, e1, e2, e3, e4⟩ := Zds h
 have key : g4 p = g4 (redP p) * g4 p := by
  have hx : p.x.natAbs = (redP p).x.natAbs * g4 p := by rw [<-e1, Int.natAbs_mul, Int.natAbs_natCast]
  have hy : p.y.natAbs = (redP p).y.natAbs * g4 p := by rw [<-e2, Int.natAbs_mul, Int.natAbs_natCast]
  have hz : p.z.natAbs = (redP p).z.natAbs * g4 p := by rw [<-e3, Int.natAbs_mul, Int.natAbs_natCast]
  have hd : p.d.natAbs = (redP p).d.natAbs * g4 p := by rw [<-e4, Int.natAbs_mul, Int.natAbs_natCast]
  have : g4 p = Nat.gcd (Nat.gcd ((redP p).x.natAbs * g4 p) ((redP p).y.natAbs * g4 p)) (Nat.gcd ((redP p).z.natAbs * g4 p) ((redP p).d.natAbs * g4 p)) := by rw [<-hx, <-hy, <-hz, <-hd]; rfl
  rw [Nat.gcd_mul_right, Nat.gcd_mul_right, Nat.gcd_mul_right] at this
  exact this
 have h0 : 0 < g4 p := by omega
 have : g4 (redP p) * g4 p = 1 * g4 p := by omega
 exact Nat.eq_of_mul_eq_mul_right h0 this
def crsE (h : Hal) (s : Stg) (c : Crs) : Int := if surE h s c.su = 0 then (if Vz c.fx c.fy c.fz = 0 then Yw c.to else Vz c.fx c.fy c.fz) else surE h s c.su
theorem Zvu {h : Hal} {s : Stg} {c : Crs} (hk : h.ok) (hs : s.few) (h0 : crsE h s c = 0) : Sit h s /\ SK h c.su /\ CrOk (Zg h s c.su) c /\ surE h s c.su = 0 /\ Vz c.fx c.fy c.fz = 0 /\ Yw c.to = 0 := by
 unfold crsE at h0
 split at h0
 ·rename_i h1
  split at h0
  ·rename_i h2
   have e := Zl4 h1
   have g := Zh6 hk hs e.1
   have hi := Zr0 e.2.1 e.2.2
   obtain ⟨⟨b1, b2⟩, b3⟩ := Zfg g hi
   obtain ⟨p1, p2, _, p4⟩ := Zbp h0
   unfold ptIn at p4
   simp only [Bool.and_eq_true, within_iff] at p4
   have h3 := h2
   unfold Vz img at h3
   split at h3
   ·rename_i h4
    simp only [Bool.and_eq_true, within_iff] at h4
    exact ⟨g, hi, ⟨b1, b2, b3, by omega, by omega, by omega, p1, p2, p4.1.1, p4.1.2, p4.2⟩, h1, h2, h0⟩
   ·cases h3
  ·rename_i h2; exact absurd h0 h2
 ·rename_i h1; exact absurd h0 h1
abbrev crAV (r : Pt × Int) : AV := .tup [r.1.av, I r.2]
theorem Zd2 {well : Pt -> Bool} {pl : Int × Int} {c : Crs} (hs : 0 <= sgn (crF pl c) * sgn (crG pl c)) : Uy well pl c = (ptZ, 12) := by unfold Uy; rw [if_pos hs]
theorem Zrc {well : Pt -> Bool} {pl : Int × Int} {c : Crs} (hw : well (Xn pl c) = false) : Uy well pl c = (ptZ, 12) := by unfold Uy; rw [hw]; split <;> rfl
theorem Zny {well : Pt -> Bool} {pl : Int × Int} {c : Crs} (hs : ¬ 0 <= sgn (crF pl c) * sgn (crG pl c)) (hw : well (Xn pl c) = true) (hd : 100000 < (Xn pl c).d) : Uy well pl c = (ptZ, 8) := by unfold Uy; rw [if_neg hs, hw, if_pos rfl, if_pos hd]
theorem Zrb {well : Pt -> Bool} {pl : Int × Int} {c : Crs} (hs : ¬ 0 <= sgn (crF pl c) * sgn (crG pl c)) (hw : well (Xn pl c) = true) (hd : ¬ 100000 < (Xn pl c).d) : Uy well pl c = (Xn pl c, 0) := by unfold Uy; rw [if_neg hs, hw, if_pos rfl, if_neg hd]
set_option maxRecDepth 100000 in
set_option maxHeartbeats 16000000 in
theorem c42 {h : Hal} {s : Stg} {c : Crs} (g : Sit h s) (hi : SK h c.su) (ho : CrOk (Zg h s c.su) c) : PCall Tryz.prog 71 [h.av, s.av, c.av] ⟨crAV (Uy (Zbf h c.su) (Zg h s c.su) c), []⟩ := by
 obtain ⟨f1, f2, f3⟩ := Zvv ho
 obtain ⟨g1, g2⟩ := Zra ho
 have hk0 := Zd (c59 g hi) Yc8
 generalize hpl : Zg h s c.su = pl at *
 have hkk : 0 <= pl.1 /\ pl.1 < 5 := ⟨ho.k0, by have := ho.k4; omega⟩
 have hk1 : PCOK Tryz.prog (ins 22 r35 (ins 23 (one [h.av, s.av, I c.su] ⟨P2 pl.1 pl.2, []⟩) kGc)) := Zi (fun a res h => by
  unfold r35 at h; split at h
  ·obtain ⟨h1, rfl⟩ := Vl h
   have := of_decide_eq_true h1
   exact c35 _ _ _ _ _ this.1 this.2
  ·cases h) hk0
 have a1 : asr (decide (0 <= pl.1 /\ pl.1 < 5)) ⟨I (off pl.1 pl.2 c.fx c.fy c.fz 1), []⟩ = some ⟨I (crF pl c), []⟩ := by rw [Xy hkk]; exact congrArg some (congrArg (PRes.mk · []) (congrArg I f2))
 have a2 : asr (decide (0 <= pl.1 /\ pl.1 < 5)) ⟨I (off pl.1 pl.2 c.to.x c.to.y c.to.z c.to.d), []⟩ = some ⟨I (crG pl c), []⟩ := by rw [Xy hkk]; exact congrArg some (congrArg (PRes.mk · []) (congrArg I g1))
 by_cases hs : 0 <= sgn (crF pl c) * sgn (crG pl c)
 ·rw [Zd2 hs]
  have hs2 : 0 <= IntKind.i64.wrap (sgn (crF pl c) * sgn (crG pl c)) := by rw [Zdn]; exact hs
  refine bs.pv (sx := nos) hk1 Tryz.func71 (by kernel_rfl) (by kernel_rfl) rfl ?_
  generalize crF pl c = F at *
  generalize crG pl c = G at *
  repeat' (first | refine wk1 ?_ | (refine wk2 ?_ ?_ <;> intro _) | refine wk4 ?_ | fail); all_goals (conv => whnf)
  exact Zf rfl rfl
 ·have hs2 : ¬ 0 <= IntKind.i64.wrap (sgn (crF pl c) * sgn (crG pl c)) := by rw [Zdn]; exact hs
  have hB := Zby ho hs
  have hx := Zpk ho (u := iabs (crG pl c)) (v := iabs (crF pl c)) (by have := Zlw ho hs; omega) (by have := Zlw ho hs; omega)
  have h3 := sgn_mul_neg.1 (show sgn (crF pl c) * sgn (crG pl c) < 0 by omega)
  have hcr : Xn pl c = redP (crPt c (iabs (crG pl c)) (iabs (crF pl c))) := rfl
  have hwl := c121 g hi (Xn pl c)
  have A1 := Zrc (well := Zbf h c.su) (pl := pl) (c := c)
  have A2 := Zny (well := Zbf h c.su) hs
  have A3 := Zrb (well := Zbf h c.su) hs
  generalize Uy (Zbf h c.su) pl c = ans at *
  have iF : iabs (crF pl c) = if crF pl c < 0 then -crF pl c else crF pl c := rfl
  have iG : iabs (crG pl c) = if crG pl c < 0 then -crG pl c else crG pl c := rfl
  generalize Zbf h c.su (Xn pl c) = wl at *
  generalize Xn pl c = Q at *
  generalize crF pl c = F at *
  generalize crG pl c = G at *
  generalize iabs F = v at *
  generalize iabs G = u at *
  generalize hp : crPt c u v = p at *
  have px : c.fx * u + c.to.x * v = p.x := by rw [<-hp]; rfl
  have py : c.fy * u + c.to.y * v = p.y := by rw [<-hp]; rfl
  have pz : c.fz * u + c.to.z * v = p.z := by rw [<-hp]; rfl
  have pd : u + c.to.d * v = p.d := by rw [<-hp]; rfl
  obtain ⟨x1, x2, x3, x4, x5, x6, x7⟩ := hx
  have hDd := hB.d
  rcases h3 with ⟨n1, n2⟩ | ⟨n1, n2⟩
  ·rw [if_pos n1] at iF
   rw [if_neg (by omega)] at iG
   subst iF iG
   have q : ∀ a b : Int, (-90000000000000 <= a * u /\ a * u <= 90000000000000) -> (-50000000000000 <= b * -F /\ b * -F <= 50000000000000) -> IntKind.i64.wrap (IntKind.i64.wrap (a * u) - IntKind.i64.wrap (b * F)) = a * u + b * -F := by
    intro a b k1 k2
    rw [Int.mul_neg] at k2 ⊢
    rw [W_eq (n := a * u) (by omega) (by omega), W_eq (n := b * F) (by omega) (by omega), W_eq (by omega) (by omega)]
    omega
   have qd : IntKind.i64.wrap (u - IntKind.i64.wrap (F * c.to.d)) = p.d := by
    rw [Int.mul_comm F]
    rw [Int.mul_neg] at x7 pd
    rw [W_eq (n := c.to.d * F) (by omega) (by omega), W_eq (by omega) (by omega)]; omega
   obtain ⟨k1, k2, k3, k4, k5, k6, k7, k8⟩ := Zvt hB (X := IntKind.i64.wrap (IntKind.i64.wrap (c.fx * u) - IntKind.i64.wrap (c.to.x * F))) (Y := IntKind.i64.wrap (IntKind.i64.wrap (c.fy * u) - IntKind.i64.wrap (c.to.y * F))) (Z := IntKind.i64.wrap (IntKind.i64.wrap (c.fz * u) - IntKind.i64.wrap (c.to.z * F))) (D := IntKind.i64.wrap (u - IntKind.i64.wrap (F * c.to.d))) (by rw [q _ _ x1 x4, px]) (by rw [q _ _ x2 x5, py]) (by rw [q _ _ x3 x6, pz]) qd
   rw [<-hcr] at k4 k5 k6 k7
   have hw2 : PCall Tryz.prog 129 [h.av, I c.su, P4 (IntKind.i64.wrap ((IntKind.i64.wrap (IntKind.i64.wrap (c.fx * u) - IntKind.i64.wrap (c.to.x * F))).tdiv (g4 p))) (IntKind.i64.wrap ((IntKind.i64.wrap (IntKind.i64.wrap (c.fy * u) - IntKind.i64.wrap (c.to.y * F))).tdiv (g4 p))) (IntKind.i64.wrap ((IntKind.i64.wrap (IntKind.i64.wrap (c.fz * u) - IntKind.i64.wrap (c.to.z * F))).tdiv (g4 p))) (IntKind.i64.wrap ((IntKind.i64.wrap (u - IntKind.i64.wrap (F * c.to.d))).tdiv (g4 p)))] ⟨Bo wl, []⟩ := by
    rw [k4, k5, k6, k7]; exact hwl
   have hk2 := Zd hw2 hk1
   clear hw2 hwl hk0 hk1
   refine bs.pv (sx := nos) hk2 Tryz.func71 (by kernel_rfl) (by kernel_rfl) rfl ?_
   cases wl with
   | false =>
    rw [A1 rfl]
    repeat' (first | refine wk1 ?_ | (refine wk2 ?_ ?_ <;> intro _) | refine wk4 ?_ | fail); all_goals (conv => whnf)
    exact Zf rfl rfl
   | true =>
    by_cases hd : 100000 < Q.d
    ·rw [A2 rfl hd]
     repeat' (first | refine wk1 ?_ | (refine wk2 ?_ ?_ <;> intro _) | refine wk4 ?_ | fail); all_goals (conv => whnf)
     exact Zf rfl rfl
    ·rw [A3 rfl hd]
     repeat' (first | refine wk1 ?_ | (refine wk2 ?_ ?_ <;> intro _) | refine wk4 ?_ | fail); all_goals (conv => whnf)
     exact Zf (by rw [k4, k5, k6, k7]) rfl
  ·rw [if_neg (by omega)] at iF
   rw [if_pos n2] at iG
   subst iF iG
   have q : ∀ a b : Int, (-90000000000000 <= a * -G /\ a * -G <= 90000000000000) -> (-50000000000000 <= b * v /\ b * v <= 50000000000000) -> IntKind.i64.wrap (0 - IntKind.i64.wrap (IntKind.i64.wrap (a * G) - IntKind.i64.wrap (b * v))) = a * -G + b * v := by
    intro a b k1 k2
    rw [Int.mul_neg] at k1 ⊢
    rw [W_eq (n := a * G) (by omega) (by omega), W_eq (n := b * v) (by omega) (by omega), W_eq (n := a * G - b * v) (by omega) (by omega), W_eq (by omega) (by omega)]
    omega
   have qn : IntKind.i64.wrap (G - IntKind.i64.wrap (v * c.to.d)) = -p.d := by
    rw [Int.mul_comm v]
    rw [W_eq (n := c.to.d * v) (by omega) (by omega), W_eq (by omega) (by omega)]; omega
   have qd : IntKind.i64.wrap (0 - IntKind.i64.wrap (G - IntKind.i64.wrap (v * c.to.d))) = p.d := by
    rw [qn, W_eq (by omega) (by omega)]; omega
   obtain ⟨k1, k2, k3, k4, k5, k6, k7, k8⟩ := Zvt hB (X := IntKind.i64.wrap (0 - IntKind.i64.wrap (IntKind.i64.wrap (c.fx * G) - IntKind.i64.wrap (c.to.x * v)))) (Y := IntKind.i64.wrap (0 - IntKind.i64.wrap (IntKind.i64.wrap (c.fy * G) - IntKind.i64.wrap (c.to.y * v)))) (Z := IntKind.i64.wrap (0 - IntKind.i64.wrap (IntKind.i64.wrap (c.fz * G) - IntKind.i64.wrap (c.to.z * v)))) (D := IntKind.i64.wrap (0 - IntKind.i64.wrap (G - IntKind.i64.wrap (v * c.to.d)))) (by rw [q _ _ x1 x4, px]) (by rw [q _ _ x2 x5, py]) (by rw [q _ _ x3 x6, pz]) qd
   rw [<-hcr] at k4 k5 k6 k7
   have hw2 : PCall Tryz.prog 129 [h.av, I c.su, P4 (IntKind.i64.wrap ((IntKind.i64.wrap (0 - IntKind.i64.wrap (IntKind.i64.wrap (c.fx * G) - IntKind.i64.wrap (c.to.x * v)))).tdiv (g4 p))) (IntKind.i64.wrap ((IntKind.i64.wrap (0 - IntKind.i64.wrap (IntKind.i64.wrap (c.fy * G) - IntKind.i64.wrap (c.to.y * v)))).tdiv (g4 p))) (IntKind.i64.wrap ((IntKind.i64.wrap (0 - IntKind.i64.wrap (IntKind.i64.wrap (c.fz * G) - IntKind.i64.wrap (c.to.z * v)))).tdiv (g4 p))) (IntKind.i64.wrap ((IntKind.i64.wrap (0 - IntKind.i64.wrap (G - IntKind.i64.wrap (v * c.to.d)))).tdiv (g4 p)))] ⟨Bo wl, []⟩ := by
    rw [k4, k5, k6, k7]; exact hwl
   have hk2 := Zd hw2 hk1
   clear hw2 hwl hk0 hk1
   refine bs.pv (sx := nos) hk2 Tryz.func71 (by kernel_rfl) (by kernel_rfl) rfl ?_
   cases wl with
   | false =>
    rw [A1 rfl]
    repeat' (first | refine wk1 ?_ | (refine wk2 ?_ ?_ <;> intro _) | refine wk4 ?_ | fail); all_goals (conv => whnf)
    exact Zf rfl rfl
   | true =>
    by_cases hd : 100000 < Q.d
    ·rw [A2 rfl hd]
     repeat' (first | refine wk1 ?_ | (refine wk2 ?_ ?_ <;> intro _) | refine wk4 ?_ | fail); all_goals (conv => whnf)
     exact Zf rfl rfl
    ·rw [A3 rfl hd]
     repeat' (first | refine wk1 ?_ | (refine wk2 ?_ ?_ <;> intro _) | refine wk4 ?_ | fail); all_goals (conv => whnf)
     exact Zf (by rw [k4, k5, k6, k7]) rfl
abbrev sxC : FuncId -> Bool := fun f => Nat.beq f 159 || Nat.beq f 160 || Nat.beq f 163
def r113 : List AV -> Option PRes
 | [.int .i64 k, .agg [.int .i64 x, .int .i64 y, .int .i64 z, .int .i64 d]] => some ⟨I (offN k x y z), []⟩
 | _ => none
def crsA (h : Hal) (s : Stg) (c : Crs) : Pt × Int := if crsE h s c = 0 then Uy (Za4 h c.su) (Zg h s c.su) c else (ptZ, crsE h s c)
theorem Zzr (x y z : Int) : Vz x y z = if Xv x y z then 0 else 2 := by rw [Zgn]; rfl
set_option maxRecDepth 100000 in
set_option maxHeartbeats 16000000 in
theorem c40e {h : Hal} (hk : h.ok) {s : Stg} (hs : s.few) {c : Crs} (hw : c.to.wf) (he : crsE h s c ≠ 0) : PCall Tryz.prog 124 [h.av, s.av, c.av] ⟨crAV (ptZ, crsE h s c), []⟩ := by
 have hk0 := Zd (c109 hk hs c.su) (Zd (c99 hw) Uv)
 by_cases h1 : surE h s c.su = 0
 ·have e1 : crsE h s c = if Xv c.fx c.fy c.fz then Yw c.to else 2 := by
   unfold crsE; rw [if_pos h1, Zzr]
   split
   ·rw [if_pos rfl]
   ·rw [if_neg (by decide)]
  rw [e1] at he ⊢
  rw [h1] at hk0
  cases h2 : Xv c.fx c.fy c.fz with
  | false =>
   have hu : unl (Xv c.fx c.fy c.fz) 2 = 2 := by rw [h2]; rfl
   rw [if_neg (by decide)]
   refine bs.pv (sx := sxC) hk0 Tryz.func124 (by kernel_rfl) (by kernel_rfl) rfl ?_
   repeat' (first | refine wk1 ?_ | (refine wk2 ?_ ?_ <;> intro _) | refine wk4 ?_ | fail); all_goals (conv => whnf)
   refine bs.sv (sx := sxC) hk0 Tryz.func159 (by kernel_rfl) (by kernel_rfl) ?_
   refine LpM.start 3 ?_
   refine LpM.succ (bs.av (sx := sxC) hk0 ?_)
   repeat' (first | refine wk1 ?_ | (refine wk2 ?_ ?_ <;> intro _) | refine wk4 ?_ | fail); all_goals (conv => whnf)
   refine bs.sv (sx := sxC) hk0 Tryz.func160 (by kernel_rfl) (by kernel_rfl) ?_
   repeat' (first | refine wk1 ?_ | (refine wk2 ?_ ?_ <;> intro _) | refine wk4 ?_ | fail); all_goals (conv => whnf)
   exact Zf (by rw [hu]; rfl) rfl
  | true =>
   have hu : unl (Xv c.fx c.fy c.fz) 2 = 0 := by rw [h2]; rfl
   rw [h2, if_pos rfl] at he
   rw [if_pos rfl]
   generalize Yw c.to = pe at *
   refine bs.pv (sx := sxC) hk0 Tryz.func124 (by kernel_rfl) (by kernel_rfl) rfl ?_
   repeat' (first | refine wk1 ?_ | (refine wk2 ?_ ?_ <;> intro _) | refine wk4 ?_ | fail); all_goals (conv => whnf)
   refine bs.sv (sx := sxC) hk0 Tryz.func159 (by kernel_rfl) (by kernel_rfl) ?_
   refine LpM.start 3 ?_
   refine LpM.succ (bs.av (sx := sxC) hk0 ?_)
   repeat' (first | refine wk1 ?_ | (refine wk2 ?_ ?_ <;> intro _) | refine wk4 ?_ | fail); all_goals (conv => whnf)
   refine bs.sv (sx := sxC) hk0 Tryz.func160 (by kernel_rfl) (by kernel_rfl) ?_
   repeat' (first | refine wk1 ?_ | (refine wk2 ?_ ?_ <;> intro _) | refine wk4 ?_ | fail); all_goals (conv => whnf)
   refine LpM.succ (bs.av (sx := sxC) hk0 ?_)
   repeat' (first | refine wk1 ?_ | (refine wk2 ?_ ?_ <;> intro _) | refine wk4 ?_ | fail); all_goals (conv => whnf)
   refine bs.sv (sx := sxC) hk0 Tryz.func163 (by kernel_rfl) (by kernel_rfl) ?_
   repeat' (first | refine wk1 ?_ | (refine wk2 ?_ ?_ <;> intro _) | refine wk4 ?_ | fail); all_goals (conv => whnf)
   exact Zf rfl rfl
 ·have e1 : crsE h s c = surE h s c.su := by unfold crsE; rw [if_neg h1]
  rw [e1]
  refine bs.pv (sx := sxC) hk0 Tryz.func124 (by kernel_rfl) (by kernel_rfl) rfl ?_
  repeat' (first | refine wk1 ?_ | (refine wk2 ?_ ?_ <;> intro _) | refine wk4 ?_ | fail); all_goals (conv => whnf)
  exact Zf rfl rfl
theorem Zp1 {n : Int} (h : -9000000000000000000 <= n /\ n <= 9000000000000000000) : size n = iabs n := by rw [Zb4 h]; rfl
set_option maxRecDepth 100000 in
set_option maxHeartbeats 16000000 in
theorem c40o {h : Hal} (hk : h.ok) {s : Stg} (hs : s.few) {c : Crs} (hw : c.to.wf) (he : crsE h s c = 0) : PCall Tryz.prog 124 [h.av, s.av, c.av] ⟨crAV (Uy (Za4 h c.su) (Zg h s c.su) c), []⟩ := by
 obtain ⟨g, hi, ho, h1, h2, h3⟩ := Zvu hk hs he
 have h2' : Xv c.fx c.fy c.fz = true := by
  rw [Zzr] at h2
  cases hx : Xv c.fx c.fy c.fz
  ·rw [hx] at h2; exact absurd h2 (by decide)
  ·rfl
 have hu : unl (Xv c.fx c.fy c.fz) 2 = 0 := by rw [h2']; rfl
 obtain ⟨f1, f2, f3⟩ := Zvv ho
 obtain ⟨g1, g2⟩ := Zra ho
 have hk0 := Zd (c109 hk hs c.su) (Zd (c99 hw) Uv)
 rw [h1, h3] at hk0
 have hk0 := Zd (c112 g hi) (Zi (f0 := 166) (r := r113) (fun a res h => by unfold r113 at h; split at h <;> cases h; exact c113 _ ⟨_, _, _, _⟩) hk0)
 generalize hpl : Zg h s c.su = pl at *
 by_cases hsg : 0 <= sgn (crF pl c) * sgn (crG pl c)
 ·rw [Zd2 hsg]
  have hs2 : 0 <= IntKind.i64.wrap (sgn (IntKind.i64.wrap (offN pl.1 c.fx c.fy c.fz - pl.2)) * sgn (IntKind.i64.wrap (offN pl.1 c.to.x c.to.y c.to.z - IntKind.i64.wrap (pl.2 * c.to.d)))) := by rw [f1, g1, Zdn]; exact hsg
  refine bs.pv (sx := sxC) hk0 Tryz.func124 (by kernel_rfl) (by kernel_rfl) rfl ?_
  repeat' (first | refine wk1 ?_ | (refine wk2 ?_ ?_ <;> intro _) | refine wk4 ?_ | fail); all_goals (conv => whnf)
  refine bs.sv (sx := sxC) hk0 Tryz.func159 (by kernel_rfl) (by kernel_rfl) ?_
  refine LpM.start 3 ?_
  refine LpM.succ (bs.av (sx := sxC) hk0 ?_)
  repeat' (first | refine wk1 ?_ | (refine wk2 ?_ ?_ <;> intro _) | refine wk4 ?_ | fail); all_goals (conv => whnf)
  refine bs.sv (sx := sxC) hk0 Tryz.func160 (by kernel_rfl) (by kernel_rfl) ?_
  repeat' (first | refine wk1 ?_ | (refine wk2 ?_ ?_ <;> intro _) | refine wk4 ?_ | fail); all_goals (conv => whnf)
  refine LpM.succ (bs.av (sx := sxC) hk0 ?_)
  repeat' (first | refine wk1 ?_ | (refine wk2 ?_ ?_ <;> intro _) | refine wk4 ?_ | fail); all_goals (conv => whnf)
  refine bs.sv (sx := sxC) hk0 Tryz.func163 (by kernel_rfl) (by kernel_rfl) ?_
  repeat' (first | refine wk1 ?_ | (refine wk2 ?_ ?_ <;> intro _) | refine wk4 ?_ | fail); all_goals (conv => whnf)
  refine LpM.succ (bs.av (sx := sxC) hk0 ?_)
  repeat' (first | refine wk1 ?_ | (refine wk2 ?_ ?_ <;> intro _) | refine wk4 ?_ | fail); all_goals (conv => whnf)
  exact Zf rfl rfl
 ·have hs2 : ¬ 0 <= IntKind.i64.wrap (sgn (IntKind.i64.wrap (offN pl.1 c.fx c.fy c.fz - pl.2)) * sgn (IntKind.i64.wrap (offN pl.1 c.to.x c.to.y c.to.z - IntKind.i64.wrap (pl.2 * c.to.d)))) := by rw [f1, g1, Zdn]; exact hsg
  have hB := Zby ho hsg
  have hx := Zpk ho (u := iabs (crG pl c)) (v := iabs (crF pl c)) (by have := Zlw ho hsg; omega) (by have := Zlw ho hsg; omega)
  have hcr : Xn pl c = redP (crPt c (iabs (crG pl c)) (iabs (crF pl c))) := rfl
  have hwl := c118 g hi (Xn pl c)
  have A1 := Zrc (well := Za4 h c.su) (pl := pl) (c := c)
  have A2 := Zny (well := Za4 h c.su) hsg
  have A3 := Zrb (well := Za4 h c.su) hsg
  generalize Uy (Za4 h c.su) pl c = ans at *
  generalize Za4 h c.su (Xn pl c) = wl at *
  generalize Xn pl c = Q at *
  have su : size (IntKind.i64.wrap (offN pl.1 c.to.x c.to.y c.to.z - IntKind.i64.wrap (pl.2 * c.to.d))) = iabs (crG pl c) := by rw [g1]; exact Zp1 (by omega)
  have sv : size (IntKind.i64.wrap (offN pl.1 c.fx c.fy c.fz - pl.2)) = iabs (crF pl c) := by rw [f1]; exact Zp1 (by omega)
  generalize hp : crPt c (iabs (crG pl c)) (iabs (crF pl c)) = p at *
  generalize iabs (crF pl c) = v at *
  generalize iabs (crG pl c) = u at *
  have px : c.fx * u + c.to.x * v = p.x := by rw [<-hp]; rfl
  have py : c.fy * u + c.to.y * v = p.y := by rw [<-hp]; rfl
  have pz : c.fz * u + c.to.z * v = p.z := by rw [<-hp]; rfl
  have pd : u + c.to.d * v = p.d := by rw [<-hp]; rfl
  obtain ⟨x1, x2, x3, x4, x5, x6, x7⟩ := hx
  have hDd := hB.d
  generalize hA : IntKind.i64.wrap (offN pl.1 c.fx c.fy c.fz - pl.2) = A at *
  generalize hBb : IntKind.i64.wrap (offN pl.1 c.to.x c.to.y c.to.z - IntKind.i64.wrap (pl.2 * c.to.d)) = B at *
  have q : ∀ a b : Int, (-90000000000000 <= a * u /\ a * u <= 90000000000000) -> (-50000000000000 <= b * v /\ b * v <= 50000000000000) -> IntKind.i64.wrap (IntKind.i64.wrap (a * size B) + IntKind.i64.wrap (b * size A)) = a * u + b * v := by
   intro a b k1 k2
   rw [su, sv]
   rw [W_eq (n := a * u) (by omega) (by omega), W_eq (n := b * v) (by omega) (by omega), W_eq (by omega) (by omega)]
  have qd : IntKind.i64.wrap (size B + IntKind.i64.wrap (c.to.d * size A)) = p.d := by
   rw [su, sv]
   rw [W_eq (n := c.to.d * v) (by omega) (by omega), W_eq (by omega) (by omega)]; omega
  obtain ⟨k1, k2, k3, k4, k5, k6, k7, k8⟩ := Zvt hB (X := IntKind.i64.wrap (IntKind.i64.wrap (c.fx * size B) + IntKind.i64.wrap (c.to.x * size A))) (Y := IntKind.i64.wrap (IntKind.i64.wrap (c.fy * size B) + IntKind.i64.wrap (c.to.y * size A))) (Z := IntKind.i64.wrap (IntKind.i64.wrap (c.fz * size B) + IntKind.i64.wrap (c.to.z * size A))) (D := IntKind.i64.wrap (size B + IntKind.i64.wrap (c.to.d * size A))) (by rw [q _ _ x1 x4, px]) (by rw [q _ _ x2 x5, py]) (by rw [q _ _ x3 x6, pz]) qd
  rw [<-hcr] at k4 k5 k6 k7
  have hdv : PCall Tryz.prog 170 [.isl 1 (nl [IntKind.i64.wrap (IntKind.i64.wrap (c.fx * size B) + IntKind.i64.wrap (c.to.x * size A)), IntKind.i64.wrap (IntKind.i64.wrap (c.fy * size B) + IntKind.i64.wrap (c.to.y * size A)), IntKind.i64.wrap (IntKind.i64.wrap (c.fz * size B) + IntKind.i64.wrap (c.to.z * size A)), IntKind.i64.wrap (size B + IntKind.i64.wrap (c.to.d * size A))])] ⟨I (g4 p : Int), []⟩ := by
   rw [q _ _ x1 x4, q _ _ x2 x5, q _ _ x3 x6, qd, px, py, pz]
   have hwf := hB.wf
   have hc := c117 (ns := [p.x, p.y, p.z, p.d]) (by simp) (by
    intro n hn
    simp only [List.mem_cons, List.not_mem_nil, or_false] at hn
    rcases hn with rfl | rfl | rfl | rfl
    ·exact hwf.x
    ·exact hwf.y
    ·exact hwf.z
    ·exact hwf.d)
   have hg : gl 0 [p.x, p.y, p.z, p.d] = g4 p := by
    simp only [gl, Nat.gcd_zero_left]
    exact Zkl _ _ _ _
   rw [hg, W_eq (n := ((g4 p : Nat) : Int)) (by omega) (by omega)] at hc
   exact hc
  have hw2 : PCall Tryz.prog 171 [.agg (stgL h s), I c.su, P4 (IntKind.i64.wrap ((IntKind.i64.wrap (IntKind.i64.wrap (c.fx * size B) + IntKind.i64.wrap (c.to.x * size A))).tdiv (g4 p))) (IntKind.i64.wrap ((IntKind.i64.wrap (IntKind.i64.wrap (c.fy * size B) + IntKind.i64.wrap (c.to.y * size A))).tdiv (g4 p))) (IntKind.i64.wrap ((IntKind.i64.wrap (IntKind.i64.wrap (c.fz * size B) + IntKind.i64.wrap (c.to.z * size A))).tdiv (g4 p))) (IntKind.i64.wrap ((IntKind.i64.wrap (size B + IntKind.i64.wrap (c.to.d * size A))).tdiv (g4 p)))] ⟨Bo wl, []⟩ := by
   rw [k4, k5, k6, k7]; exact hwl
  rw [<-hA, <-hBb] at hw2 hdv
  have hk2 := Zd hw2 (Zd hdv hk0)
  clear hw2 hwl hk0 hdv q
  rw [<-hA, <-hBb] at k4 k5 k6 k7 hs2
  clear k1 k2 k3
  refine bs.pv (sx := sxC) hk2 Tryz.func124 (by kernel_rfl) (by kernel_rfl) rfl ?_
  cases wl with
  | false =>
   rw [A1 rfl]
   repeat' (first | refine wk1 ?_ | (refine wk2 ?_ ?_ <;> intro _) | refine wk4 ?_ | fail); all_goals (conv => whnf)
   refine bs.sv (sx := sxC) hk2 Tryz.func159 (by kernel_rfl) (by kernel_rfl) ?_
   refine LpM.start 3 ?_
   refine LpM.succ (bs.av (sx := sxC) hk2 ?_)
   repeat' (first | refine wk1 ?_ | (refine wk2 ?_ ?_ <;> intro _) | refine wk4 ?_ | fail); all_goals (conv => whnf)
   refine bs.sv (sx := sxC) hk2 Tryz.func160 (by kernel_rfl) (by kernel_rfl) ?_
   repeat' (first | refine wk1 ?_ | (refine wk2 ?_ ?_ <;> intro _) | refine wk4 ?_ | fail); all_goals (conv => whnf)
   refine LpM.succ (bs.av (sx := sxC) hk2 ?_)
   repeat' (first | refine wk1 ?_ | (refine wk2 ?_ ?_ <;> intro _) | refine wk4 ?_ | fail); all_goals (conv => whnf)
   refine bs.sv (sx := sxC) hk2 Tryz.func163 (by kernel_rfl) (by kernel_rfl) ?_
   repeat' (first | refine wk1 ?_ | (refine wk2 ?_ ?_ <;> intro _) | refine wk4 ?_ | fail); all_goals (conv => whnf)
   refine LpM.succ (bs.av (sx := sxC) hk2 ?_)
   repeat' (first | refine wk1 ?_ | (refine wk2 ?_ ?_ <;> intro _) | refine wk4 ?_ | fail); all_goals (conv => whnf)
   exact Zf rfl rfl
  | true =>
   by_cases hd : 100000 < Q.d
   ·rw [A2 rfl hd]
    repeat' (first | refine wk1 ?_ | (refine wk2 ?_ ?_ <;> intro _) | refine wk4 ?_ | fail); all_goals (conv => whnf)
    refine bs.sv (sx := sxC) hk2 Tryz.func159 (by kernel_rfl) (by kernel_rfl) ?_
    refine LpM.start 3 ?_
    refine LpM.succ (bs.av (sx := sxC) hk2 ?_)
    repeat' (first | refine wk1 ?_ | (refine wk2 ?_ ?_ <;> intro _) | refine wk4 ?_ | fail); all_goals (conv => whnf)
    refine bs.sv (sx := sxC) hk2 Tryz.func160 (by kernel_rfl) (by kernel_rfl) ?_
    repeat' (first | refine wk1 ?_ | (refine wk2 ?_ ?_ <;> intro _) | refine wk4 ?_ | fail); all_goals (conv => whnf)
    refine LpM.succ (bs.av (sx := sxC) hk2 ?_)
    repeat' (first | refine wk1 ?_ | (refine wk2 ?_ ?_ <;> intro _) | refine wk4 ?_ | fail); all_goals (conv => whnf)
    refine bs.sv (sx := sxC) hk2 Tryz.func163 (by kernel_rfl) (by kernel_rfl) ?_
    repeat' (first | refine wk1 ?_ | (refine wk2 ?_ ?_ <;> intro _) | refine wk4 ?_ | fail); all_goals (conv => whnf)
    refine LpM.succ (bs.av (sx := sxC) hk2 ?_)
    repeat' (first | refine wk1 ?_ | (refine wk2 ?_ ?_ <;> intro _) | refine wk4 ?_ | fail); all_goals (conv => whnf)
    exact Zf rfl rfl
   ·rw [A3 rfl hd]
    repeat' (first | refine wk1 ?_ | (refine wk2 ?_ ?_ <;> intro _) | refine wk4 ?_ | fail); all_goals (conv => whnf)
    refine bs.sv (sx := sxC) hk2 Tryz.func159 (by kernel_rfl) (by kernel_rfl) ?_
    refine LpM.start 3 ?_
    refine LpM.succ (bs.av (sx := sxC) hk2 ?_)
    repeat' (first | refine wk1 ?_ | (refine wk2 ?_ ?_ <;> intro _) | refine wk4 ?_ | fail); all_goals (conv => whnf)
    refine bs.sv (sx := sxC) hk2 Tryz.func160 (by kernel_rfl) (by kernel_rfl) ?_
    repeat' (first | refine wk1 ?_ | (refine wk2 ?_ ?_ <;> intro _) | refine wk4 ?_ | fail); all_goals (conv => whnf)
    refine LpM.succ (bs.av (sx := sxC) hk2 ?_)
    repeat' (first | refine wk1 ?_ | (refine wk2 ?_ ?_ <;> intro _) | refine wk4 ?_ | fail); all_goals (conv => whnf)
    refine bs.sv (sx := sxC) hk2 Tryz.func163 (by kernel_rfl) (by kernel_rfl) ?_
    repeat' (first | refine wk1 ?_ | (refine wk2 ?_ ?_ <;> intro _) | refine wk4 ?_ | fail); all_goals (conv => whnf)
    refine LpM.succ (bs.av (sx := sxC) hk2 ?_)
    repeat' (first | refine wk1 ?_ | (refine wk2 ?_ ?_ <;> intro _) | refine wk4 ?_ | fail); all_goals (conv => whnf)
    exact Zf (by rw [k4, k5, k6, k7]) rfl
theorem c40 {h : Hal} (hk : h.ok) {s : Stg} (hs : s.few) {c : Crs} (hw : c.to.wf) : PCall Tryz.prog 124 [h.av, s.av, c.av] ⟨crAV (crsA h s c), []⟩ := by
 unfold crsA
 by_cases he : crsE h s c = 0
 ·rw [if_pos he]; exact c40o hk hs hw he
 ·rw [if_neg he]; exact c40e hk hs hw he
theorem Zx9 {h : Hal} {s : Stg} {c : Crs} (g : Sit h s) (hi : SK h c.su) (ho : CrOk (Zg h s c.su) c) : Uy (Za4 h c.su) (Zg h s c.su) c = Uy (Zbf h c.su) (Zg h s c.su) c := by
 by_cases hs : 0 <= sgn (crF (Zg h s c.su) c) * sgn (crG (Zg h s c.su) c)
 ·rw [Zd2 hs, Zd2 hs]
 ·have hb := (Zds (Zby ho hs)).2.2.1
  have e := Yab g hi (p := Xn (Zg h s c.su) c) hb.ok (Ze6 ho hs)
  unfold Uy
  rw [e]
def Yb8 (p : Pt) : Prop := (-(5000 * p.d) <= p.x /\ p.x <= 5000 * p.d) /\ (-(5000 * p.d) <= p.y /\ p.y <= 5000 * p.d) /\ (-(5000 * p.d) <= p.z /\ p.z <= 5000 * p.d)
theorem Zs6 {h : Hal} {w : Wl} {n sx sy : Int} (hs : Str w n sx sy) {p : Pt} (hp : PtOk p.x p.y p.d) (ht : 2 <= h.ht /\ h.ht <= 5000) (hpl : valN (plW w).1 p.x p.y p.z = (plW w).2 * p.d) (hw : Zly h w p = true) : Yb8 p := by
 obtain ⟨x, y, z, d⟩ := p
 dsimp only at hp hpl
 have hd := hp.hd
 have hD := hp.hD
 have a1 := Zh hs.b1 hd
 have a2 := Zh hs.b2 hd
 have a3 := Zh hs.b3 hd
 have a4 := Zh hs.b4 hd
 have hz0 := Zh (f := h.ht) (d := d) (by omega) hd
 have hz : IntKind.i64.wrap (h.ht * d) = h.ht * d := W_eq (by omega) (by omega)
 unfold Zly at hw
 rw [Zk5 hs] at hpl
 unfold valN at hpl
 rw [Zac, Zac, Zad, Zad] at hw
 dsimp only at hw
 rw [hz, Zbh hd, Zbh hd, Zbi hd, Zbi hd] at hw
 rw [W_eq (n := min (w.fx * d) (w.tx * d)) (by omega) (by omega), W_eq (n := max (w.fx * d) (w.tx * d)) (by omega) (by omega), W_eq (n := min (w.fy * d) (w.ty * d)) (by omega) (by omega), W_eq (n := max (w.fy * d) (w.ty * d)) (by omega) (by omega)] at hw
 have ex : w.tx * d = w.fx * d + sx * (n * d) := by rw [hs.tx]; grind
 have ey : w.ty * d = w.fy * d + sy * (n * d) := by rw [hs.ty]; grind
 have d3 : (w.fx + w.fy) * d = w.fx * d + w.fy * d := by grind
 have d4 : (w.fx - w.fy) * d = w.fx * d - w.fy * d := by grind
 have cnd : (w.fx = w.tx) -> sx = 0 := by
  intro e
  have := hs.tx
  have hn := hs.hn
  have : n * sx = 0 := by omega
  rcases Int.mul_eq_zero.1 this with h | h
  ·omega
  ·exact h
 have nd : 0 < n * d := Int.mul_pos hs.hn hd
 unfold Yb8
 dsimp only
 simp only [Bool.and_eq_true, Bool.not_eq_true', Bool.or_eq_false_iff, decide_eq_false_iff_not] at hw
 obtain ⟨⟨z1, z2⟩, hw⟩ := hw
 have hxy := hs.hxy
 split at hw
 ·rename_i c
  have c0 := cnd c
  subst c0
  simp only [Bool.and_eq_true, decide_eq_true_eq] at hw
  simp at hpl
  omega
 ·rename_i c
  simp only [Bool.and_eq_true, decide_eq_true_eq] at hw
  have hx0 : sx ≠ 0 := fun e => c (by rw [hs.tx, e]; omega)
  rw [if_neg hx0] at hpl
  rcases hs.hy with rfl | rfl | rfl <;> rcases hs.hx with rfl | rfl | rfl
  all_goals simp at hpl hx0
  all_goals omega
theorem Zo2 {h : Hal} {d z n : Int} (hd : 0 < d) (hn : 0 <= n /\ n <= 5000) (e : z = n * d) : -(5000 * d) <= z /\ z <= 5000 * d := by
 have := Zh (f := n) (d := d) (by omega) hd
 omega
theorem Zs1 {h : Hal} {s : Stg} (g : Sit h s) {i : Int} (hi : SK h i) {p : Pt} (hp : PtOk p.x p.y p.d) (hpl : valN (Zg h s i).1 p.x p.y p.z = (Zg h s i).2 * p.d) (hw : Za4 h i p = true) : Yb8 p := by
 have ht := g.fine.ht
 cases hi with
 | wall k hk =>
  have hk2 : k < h.cs.length := by have := g.fine.le; omega
  obtain ⟨n, sx, sy, hs⟩ := g.fine.st k hk2
  rw [Un hk] at hpl
  rw [Zgb hk] at hw
  exact Zs6 hs hp ht hpl hw
 | floor =>
  rw [Zeo] at hw
  rw [Ut] at hpl
  have hb := Zkg g.fine.st hp hw
  have hpl : p.z = 0 * p.d := hpl
  exact ⟨hb.1, hb.2, Zo2 (h := h) hp.hd (by omega) hpl⟩
 | ceil =>
  rw [Zgc] at hw
  rw [Zav] at hpl
  have hb := Zkg g.fine.st hp hw
  have hpl : p.z = h.ht * p.d := hpl
  exact ⟨hb.1, hb.2, Zo2 (h := h) hp.hd (by omega) hpl⟩
 | can j hj =>
  rw [Zhx hj] at hw
  rw [Zbq] at hpl
  have hpl : p.z = Ue h s j * p.d := hpl
  have hg := Zqx g hj
  have hr := Zor (Ze7 g.fine hj).1
  have hd : 0 < p.d /\ p.d <= 1000000000000000 := by have := hp.hd; have := hp.hD; omega
  have c0 := (Ze7 g.fine hj).1
  generalize h.ks[j] = c at *
  obtain ⟨⟨e1, e2⟩, e3, e4⟩ := Zev c
  have c1 := Zh c0.b1 hd.1
  have c2 := Zh c0.b2 hd.1
  have c3 := Zh c0.b3 hd.1
  have c4 := Zh c0.b4 hd.1
  rw [Zdr hr hd, e1, e2, e3, e4, Zbh hd.1, Zbi hd.1, Zbh hd.1, Zbi hd.1] at hw
  exact ⟨by omega, by omega, Zo2 (h := h) hp.hd (by omega) hpl⟩
theorem Zpj {h : Hal} {s : Stg} (g : Sit h s) {c : Crs} (hi : SK h c.su) (ho : CrOk (Zg h s c.su) c) (e : (Uy (Za4 h c.su) (Zg h s c.su) c).2 = 0) :
  Yw (Uy (Za4 h c.su) (Zg h s c.su) c).1 = 0 := by
 unfold Uy at e ⊢
 split at e
 ·cases e
 ·rename_i hs
  split at e
  ·rename_i hw
   split at e
   ·cases e
   ·rename_i hd
    rw [if_neg hs, if_pos hw, if_neg hd]
    have hbig := Zby ho hs
    have hb := (Zds hbig).2.2.1
    have hn := Zs1 g hi (p := Xn (Zg h s c.su) c) hb.ok (Ze6 ho hs) hw
    have hg := Ydj hbig
    unfold Yw
    have hd0 := hb.d.1
    rw [if_neg (by
     intro q
     rcases q with q | q
     ·exact absurd hd0 (Int.not_lt.2 q)
     ·exact q hg), if_neg hd, if_pos]
    unfold ptIn
    obtain ⟨n1, n2, n3⟩ := hn
    simp only [Bool.and_eq_true, within_iff]
    exact ⟨⟨n1, n2⟩, n3⟩
  ·cases e
abbrev kV0 : PC := k78
theorem Zuc : PCOK Tryz.prog kV0 := Zqt
structure Pth where
 ss : List Int
 ps : List (Int × Int × Int × Int)
 sq : Int
abbrev hp4 (p : Int × Int × Int × Int) : List AV := [I p.1, I p.2.1, I p.2.2.1, I p.2.2.2]
abbrev Pth.av (p : Pth) : AV := .agg [.isl 1 (nl p.ss), .isl 4 (p.ps.map hp4), I p.sq]
def pthE (p : Pth) : Int := if (p.ps.length : Int) = p.ss.length then (if 4 < (p.ss.length : Int) then 8 else (if within p.sq 1 24300000000 then 0 else 2)) else 10
set_option maxHeartbeats 4000000 in
theorem d92 (p : Pth) : PCall Tryz.prog 41 [p.av] ⟨I (pthE p), []⟩ := by
 have l1 : (p.ps.map hp4).length = p.ps.length := by simp
 have l2 := Zl p.ss
 unfold pthE
 by_cases c1 : (p.ps.length : Int) = p.ss.length
 ·rw [if_pos c1]
  by_cases c2 : 4 < (p.ss.length : Int)
  ·rw [if_pos c2]
   refine bs.pv (sx := nos) Zuc Tryz.func41 (by kernel_rfl) (by kernel_rfl) rfl ?_
   repeat' (first | refine wk3 ?_ | (refine wk2 ?_ ?_ <;> intro _) | refine wk4 ?_ | fail); all_goals (conv => whnf)
   all_goals exact Za rfl
  ·rw [if_neg c2]
   cases hw : within p.sq 1 24300000000
   all_goals
    refine bs.pv (sx := nos) Zuc Tryz.func41 (by kernel_rfl) (by kernel_rfl) rfl ?_
    repeat' (first | refine wk3 ?_ | (refine wk2 ?_ ?_ <;> intro _) | refine wk4 ?_ | fail); all_goals (conv => whnf)
   all_goals first
    | exact Za rfl
    | (exfalso; simp_all; done)
 ·rw [if_neg c1]
  refine bs.pv (sx := nos) Zuc Tryz.func41 (by kernel_rfl) (by kernel_rfl) rfl ?_
  repeat' (first | refine wk3 ?_ | (refine wk2 ?_ ?_ <;> intro _) | refine wk4 ?_ | fail); all_goals (conv => whnf)
  all_goals exact Za rfl
theorem d210 (n lo hi : Int) : PCall Tryz.prog 101 [I n, I lo, I hi] ⟨Bo (within n lo hi), []⟩ := by
 refine bs.pv (sx := nos) Ze Tryz.func101 (by kernel_rfl) (by kernel_rfl) rfl ?_
 repeat' (first | refine wk3 ?_ | (refine wk2 ?_ ?_ <;> intro _) | refine wk4 ?_ | fail); all_goals (conv => whnf)
 all_goals exact Zb (by simp_all [within] <;> omega)
theorem d209 (b : Bool) (e : Int) : PCall Tryz.prog 80 [Bo b, I e] ⟨I (unl b e), []⟩ := by
 refine bs.pv (sx := nos) Ze Tryz.func80 (by kernel_rfl) (by kernel_rfl) rfl ?_
 repeat' (first | refine wk3 ?_ | (refine wk2 ?_ ?_ <;> intro _) | refine wk4 ?_ | fail); all_goals (conv => whnf)
 all_goals exact Za (by simp_all [unl])
def fstL : List Int -> Int
 | [] => 0
 | x :: l => if x ≠ 0 then x else fstL l
theorem Zuz (x : Int) (l : List Int) : fstL (x :: l) = if x ≠ 0 then x else fstL l := rfl
set_option maxRecDepth 100000 in
set_option maxHeartbeats 4000000 in
theorem d78 {l : List Int} (hl : l.length < 1000) : PCall Tryz.prog 78 [.isl 1 (nl l)] ⟨I (fstL l), []⟩ := by
 have l2 := Zl l
 refine bs.pv (sx := nos) Ze Tryz.func78 (by kernel_rfl) (by kernel_rfl) rfl ?_
 repeat' (first | refine wk3 ?_ | (refine wk2 ?_ ?_ <;> intro _) | refine wk4 ?_ | fail); all_goals (conv => whnf)
 refine Zx (S := Nat × Int) (fun t => l.length - t.1) (fun t => [(5, .isl 1 (nl l)), (6, I (nl l).length), (7, I t.2)]) (fun _ => []) 0 0 (fun t => t.2 = t.1 /\ t.1 <= l.length /\ fstL (l.drop t.1) = fstL l) (0, 0) ⟨rfl, Nat.zero_le _, rfl⟩ (Nat.le_refl _) [] rfl (kps) (kps) ?_
 rintro ⟨k, i⟩ ⟨hi, hk, hh⟩
 dsimp only at hi hk hh ⊢
 subst hi
 generalize fstL l = R at *
 refine bs.av (sx := nos) Ze ?_
 by_cases hlt : k < l.length
 ·have e1 := Vq hlt
  rw [List.drop_eq_getElem_cons hlt, Zuz] at hh
  generalize l[k] = x at *
  by_cases hx : x = 0
  ·rw [if_neg (fun c => c hx)] at hh
   repeat' (first | refine wk3 ?_ | (refine wk2 ?_ ?_ <;> intro _) | refine wk4 ?_ | fail); all_goals (conv => whnf)
   exact Done.mk ⟨(k + 1, _), [], rfl, kps, kps, ⟨Zk (by omega), hlt, hh⟩, by dsimp only; omega⟩
  ·rw [if_pos hx] at hh
   subst hh
   repeat' (first | refine wk3 ?_ | (refine wk2 ?_ ?_ <;> intro _) | refine wk4 ?_ | fail); all_goals (conv => whnf)
   exact Za rfl
 ·rw [List.drop_of_length_le (by omega)] at hh
  repeat' (first | refine wk3 ?_ | (refine wk2 ?_ ?_ <;> intro _) | refine wk4 ?_ | fail); all_goals (conv => whnf)
  exact Za hh
def r78f : List AV -> Option PRes
 | [.isl 1 l] => match numsOf l with
  | some ns => asr (Nat.blt ns.length 1000) ⟨I (fstL ns), []⟩
  | none => none
 | _ => none
where
 numsOf : List (List AV) -> Option (List Int)
  | [] => some []
  | [.int .i64 n] :: l => match numsOf l with
   | some ns => some (n :: ns)
   | none => none
  | _ => none
theorem Zmo : ∀ {l : List (List AV)} {ns : List Int}, r78f.numsOf l = some ns -> l = nl ns
 | [], ns, h => by cases h; rfl
 | e :: l, ns, h => by
  unfold r78f.numsOf at h
  split at h
  ·rename_i h0; cases h0
  ·rename_i n l' h0
   cases h0
   split at h
   ·rename_i ms hm
    cases h
    rw [Zmo hm]; rfl
   ·cases h
  ·cases h
theorem d86 (n m : Int) : PCall Tryz.prog 86 [I n, I m] ⟨Bo (small n m), []⟩ := by
 have hk : PCOK Tryz.prog (ins 101 (fun a => match a with
  | [.int .i64 n, .int .i64 lo, .int .i64 hi] => some ⟨Bo (within n lo hi), []⟩
  | _ => none) pt0) := Zi (fun a res h => by split at h <;> cases h; exact d210 _ _ _) Ze
 refine bs.pv (sx := nos) hk Tryz.func86 (by kernel_rfl) (by kernel_rfl) rfl ?_
 repeat' (first | refine wk3 ?_ | (refine wk2 ?_ ?_ <;> intro _) | refine wk4 ?_ | fail); all_goals (conv => whnf)
 exact Zb rfl
def rWu : List AV -> Option PRes
 | [.int .i64 n, .int .i64 lo, .int .i64 hi] => some ⟨Bo (within n lo hi), []⟩
 | _ => none
def rUn : List AV -> Option PRes
 | [.bool b, .int .i64 e] => some ⟨I (unl b e), []⟩
 | _ => none
def kI0 : PC := ins 78 r78f (ins 80 rUn (ins 101 rWu (ins 86 r92 k78)))
theorem Yc7 : PCOK Tryz.prog kI0 := by
 refine Zi (fun a res h => ?_) (Zi (fun a res h => ?_) (Zi (fun a res h => ?_) (Zi (fun a res h => ?_) Zqt)))
 ·unfold r78f at h
  split at h
  ·split at h
   ·rename_i ns hn
    obtain ⟨h1, rfl⟩ := Vl h
    rw [Zmo hn]
    exact d78 (by simpa [Nat.blt_eq] using h1)
   ·cases h
  ·cases h
 ·unfold rUn at h; split at h <;> cases h; exact d209 _ _
 ·unfold rWu at h; split at h <;> cases h; exact d210 _ _ _
 ·unfold r92 at h; split at h <;> cases h; exact d86 _ _
theorem Zxa (p : Pth) : pthE p = fstL [unl (decide (((p.ps.map hp4).length : Int) = ((nl p.ss).length : Int))) 10, unl (decide (((nl p.ss).length : Int) <= 4)) 8, unl (within p.sq 1 24300000000) 2] := by
 have l1 : (p.ps.map hp4).length = p.ps.length := by simp
 rw [l1, Zl]
 unfold pthE fstL fstL fstL fstL unl
 by_cases c1 : (p.ps.length : Int) = p.ss.length
 ·by_cases c2 : 4 < (p.ss.length : Int)
  ·rw [if_pos c1, if_pos c2, decide_eq_true c1, decide_eq_false (by omega)]; rfl
  ·rw [if_pos c1, if_neg c2, decide_eq_true c1, decide_eq_true (by omega)]; cases within p.sq 1 24300000000 <;> rfl
 ·rw [if_neg c1, decide_eq_false c1]; rfl
set_option maxHeartbeats 4000000 in
theorem d162 (p : Pth) : PCall Tryz.prog 96 [p.av] ⟨I (pthE p), []⟩ := by
 rw [Zxa]
 refine bs.pv (sx := nos) Yc7 Tryz.func96 (by kernel_rfl) (by kernel_rfl) rfl ?_
 repeat' (first | refine wk3 ?_ | (refine wk2 ?_ ?_ <;> intro _) | refine wk4 ?_ | fail); all_goals (conv => whnf)
 exact Za rfl
abbrev Ydn (h : Hal) : Prop := (9 < h.ws.length /\ h.ws.length <= 12) \/ 14 < h.ws.length \/ 14 < h.cs.length \/ 4 < h.ms.length \/ 2 < h.ks.length \/ 3 < h.ss.length
def Zj8 (h : Hal) : Bool := Yl h.nm && Yl h.fl && Yl h.ce
def few2 (h : Hal) : Bool := (!decide (Ydn h) && Zj8 h) && (h.ws.all fewW && (h.ms.all fewM && (h.ks.all fewC && h.ss.all fewS)))
theorem Ybs {h : Hal} (hb : few2 h = true) : h.ok := by
 unfold few2 Zj8 at hb
 simp only [Bool.and_eq_true, Bool.not_eq_true', decide_eq_false_iff_not] at hb
 obtain ⟨⟨hL, ⟨n1, n2⟩, n3⟩, m2, m1, m3, m4⟩ := hb
 have hL : ¬ ((9 < h.ws.length /\ h.ws.length <= 12) \/ 14 < h.ws.length \/ 14 < h.cs.length \/ 4 < h.ms.length \/ 2 < h.ks.length \/ 3 < h.ss.length) := hL
 rw [List.all_eq_true] at m1 m2 m3 m4
 refine ⟨⟨by omega, by omega, by omega, by omega, by omega, fun c hc => ?_⟩, ⟨Zbo n1, fun m hm => Zbo (m1 m hm), fun m hm => ?_, fun m hm => ?_, fun m hm => Zbo (m4 m hm)⟩⟩
 ·have := m3 c hc
  unfold fewC at this
  simp only [Bool.and_eq_true, Bool.not_eq_true', decide_eq_false_iff_not] at this
  omega
 ·have := m2 m hm
  unfold fewW at this
  simp only [Bool.and_eq_true] at this
  exact Zbo this.1.1
 ·have := m3 m hm
  unfold fewC at this
  simp only [Bool.and_eq_true] at this
  exact Zbo this.1.1
theorem sh_n {s : ByteArray} (h : Yl s = true) : ¬ (20 : Int) < (s.size : Int) := by
 unfold Yl at h
 simpa using h
set_option maxRecDepth 100000 in
set_option maxHeartbeats 16000000 in
theorem d80 (h : Hal) : PCall Tryz.prog 63 [h.av] ⟨Bo (few2 h), []⟩ := by
 have l1 := Zdc h.ms
 have l2 : (h.cs.map pt).length = h.cs.length := by simp
 have l3 := Yf h.ws
 have l4 := Xa h.ks
 have l5 := Zc4 h.ss
 by_cases hP : Ydn h
 ·have e0 : few2 h = false := by unfold few2; rw [decide_eq_true hP]; rfl
  rw [e0]
  clear e0
  have hP : (9 < h.ws.length /\ h.ws.length <= 12) \/ 14 < h.ws.length \/ 14 < h.cs.length \/ 4 < h.ms.length \/ 2 < h.ks.length \/ 3 < h.ss.length := hP
  refine bs.pv (sx := nos) Ze Tryz.func63 (by kernel_rfl) (by kernel_rfl) rfl ?_
  repeat' (first | refine wk3 ?_ | (refine wk2 ?_ ?_ <;> intro _) | refine wk4 ?_ | fail); all_goals (conv => whnf)
  all_goals first
   | exact Zb rfl
   | (exfalso; simp_all; omega)
 have hP' : ¬ ((9 < h.ws.length /\ h.ws.length <= 12) \/ 14 < h.ws.length \/ 14 < h.cs.length \/ 4 < h.ms.length \/ 2 < h.ks.length \/ 3 < h.ss.length) := hP
 have hw : h.ws.length <= 9 \/ 12 < h.ws.length := by omega
 unfold few2
 rw [decide_eq_false hP, Bool.not_false, Bool.true_and]
 clear hP
 by_cases hN : Zj8 h = true
 rotate_left
 ·have hN : Zj8 h = false := by simpa using hN
  rw [hN, Bool.false_and]
  unfold Zj8 at hN
  rcases hw with hw | hw
  all_goals
   refine bs.pv (sx := nos) Ze Tryz.func63 (by kernel_rfl) (by kernel_rfl) rfl ?_
   repeat' (first | refine wk3 ?_ | (refine wk2 ?_ ?_ <;> intro _) | refine wk4 ?_ | fail); all_goals (conv => whnf)
  all_goals first
   | exact Zb rfl
   | (exfalso; simp_all [Yl]; done)
   | (exfalso; simp_all [Yl]; omega)
 rw [hN, Bool.true_and]
 unfold Zj8 at hN
 simp only [Bool.and_eq_true] at hN
 obtain ⟨⟨n1, n2⟩, n3⟩ := hN
 have n1 := sh_n n1
 have n2 := sh_n n2
 have n3 := sh_n n3
 generalize hE : (h.ws.all fewW && (h.ms.all fewM && (h.ks.all fewC && h.ss.all fewS))) = R
 rcases hw with hw | hw
 all_goals
  refine bs.pv (sx := nos) Ze Tryz.func63 (by kernel_rfl) (by kernel_rfl) rfl ?_
  repeat' (first | refine wk3 ?_ | (refine wk2 ?_ ?_ <;> intro _) | refine wk4 ?_ | fail); all_goals (conv => whnf)
  clear n1 n2 n3
  subst hE
  generalize hV : (h.ms.all fewM && (h.ks.all fewC && h.ss.all fewS)) = V
  refine Zx (S := Nat × Int) (fun t => h.ws.length - t.1) (fun t => [(1, .ptr 0 0 0), (2, Bo false), (3, I t.2)]) (fun _ => [(0, .row 9 [h.cells] true false)]) 1 1 (fun t => t.2 = t.1 /\ t.1 <= h.ws.length /\ ((h.ws.drop t.1).all fewW && V) = (h.ws.all fewW && V)) (0, 0) ⟨rfl, Nat.zero_le _, rfl⟩ (Nat.le_refl _) [] rfl (kps) (kps) ?_
  rintro ⟨k, i⟩ ⟨hi, hk, hh⟩
  dsimp only at hi hk hh ⊢
  subst hi
  generalize hB : (h.ws.all fewW && V) = B at *
  clear hB
  refine bs.av (sx := nos) Ze ?_
  by_cases hlt : k < h.ws.length
  ·clear hV
   have e1 := Zjy hlt
   rw [List.drop_eq_getElem_cons hlt, List.all_cons] at hh
   generalize h.ws[k] = m at *
   have hm : ∀ b, fewW m = b -> (b && (h.ws.drop (k + 1)).all fewW && V) = B := fun b e => by rw [<-e, Bool.and_assoc]; rw [Bool.and_assoc] at hh; exact hh
   clear hh
   repeat' (first | refine wk3 ?_ | (refine wk2 ?_ ?_ <;> intro _) | refine wk4 ?_ | fail); all_goals (conv => whnf)
   all_goals clear e1
   all_goals first
    | exact Zb (hm false (by clear hm; simp_all [fewW, Yl]; done))
    | exact Done.mk ⟨(k + 1, _), [], rfl, kps, kps, ⟨Zk (by omega), hlt, hm true (by clear hm; simp_all [fewW, Yl]; done)⟩, by dsimp only; omega⟩
  rw [List.drop_of_length_le (by omega)] at hh
  have hh : V = B := hh
  subst hh
  subst hV
  repeat' (first | refine wk3 ?_ | (refine wk2 ?_ ?_ <;> intro _) | refine wk4 ?_ | fail); all_goals (conv => whnf)
  clear hlt hk
  generalize hV : (h.ks.all fewC && h.ss.all fewS) = V
  refine Zx (S := Nat × Int) (fun t => h.ms.length - t.1) (fun t => [(1, .ptr 0 0 0), (2, Bo false), (4, I t.2)]) (fun _ => [(0, .row 9 [h.cells] true false)]) 1 1 (fun t => t.2 = t.1 /\ t.1 <= h.ms.length /\ ((h.ms.drop t.1).all fewM && V) = (h.ms.all fewM && V)) (0, 0) ⟨rfl, Nat.zero_le _, rfl⟩ (Nat.le_refl _) [] rfl (kps) (kps) ?_
  rintro ⟨k, i⟩ ⟨hi, hk, hh⟩
  dsimp only at hi hk hh ⊢
  subst hi
  generalize hB : (h.ms.all fewM && V) = B at *
  clear hB
  refine bs.av (sx := nos) Ze ?_
  by_cases hlt : k < h.ms.length
  ·clear hV
   have e1 := Zqi hlt
   rw [List.drop_eq_getElem_cons hlt, List.all_cons] at hh
   generalize h.ms[k] = m at *
   have hm : ∀ b, fewM m = b -> (b && (h.ms.drop (k + 1)).all fewM && V) = B := fun b e => by rw [<-e, Bool.and_assoc]; rw [Bool.and_assoc] at hh; exact hh
   clear hh
   repeat' (first | refine wk3 ?_ | (refine wk2 ?_ ?_ <;> intro _) | refine wk4 ?_ | fail); all_goals (conv => whnf)
   all_goals clear e1
   all_goals first
    | exact Zb (hm false (by clear hm; simp_all [fewM, Yl]; done))
    | exact Done.mk ⟨(k + 1, _), [], rfl, kps, kps, ⟨Zk (by omega), hlt, hm true (by clear hm; simp_all [fewM, Yl]; done)⟩, by dsimp only; omega⟩
  rw [List.drop_of_length_le (by omega)] at hh
  have hh : V = B := hh
  subst hh
  subst hV
  repeat' (first | refine wk3 ?_ | (refine wk2 ?_ ?_ <;> intro _) | refine wk4 ?_ | fail); all_goals (conv => whnf)
  clear hlt hk
  generalize hV : h.ss.all fewS = V
  refine Zx (S := Nat × Int) (fun t => h.ks.length - t.1) (fun t => [(1, .ptr 0 0 0), (2, Bo false), (5, I t.2)]) (fun _ => [(0, .row 9 [h.cells] true false)]) 1 1 (fun t => t.2 = t.1 /\ t.1 <= h.ks.length /\ ((h.ks.drop t.1).all fewC && V) = (h.ks.all fewC && V)) (0, 0) ⟨rfl, Nat.zero_le _, rfl⟩ (Nat.le_refl _) [] rfl (kps) (kps) ?_
  rintro ⟨k, i⟩ ⟨hi, hk, hh⟩
  dsimp only at hi hk hh ⊢
  subst hi
  generalize hB : (h.ks.all fewC && V) = B at *
  clear hB
  refine bs.av (sx := nos) Ze ?_
  by_cases hlt : k < h.ks.length
  ·clear hV
   have e1 := Zbe hlt
   rw [List.drop_eq_getElem_cons hlt, List.all_cons] at hh
   generalize h.ks[k] = m at *
   have e9 := Zl m.hs
   have hm : ∀ b, fewC m = b -> (b && (h.ks.drop (k + 1)).all fewC && V) = B := fun b e => by rw [<-e, Bool.and_assoc]; rw [Bool.and_assoc] at hh; exact hh
   clear hh
   repeat' (first | refine wk3 ?_ | (refine wk2 ?_ ?_ <;> intro _) | refine wk4 ?_ | fail); all_goals (conv => whnf)
   all_goals clear e1
   all_goals first
    | exact Zb (hm false (by clear hm; simp_all [fewC, Yl]; done))
    | exact Done.mk ⟨(k + 1, _), [], rfl, kps, kps, ⟨Zk (by omega), hlt, hm true (by clear hm; simp_all [fewC, Yl]; done)⟩, by dsimp only; omega⟩
  rw [List.drop_of_length_le (by omega)] at hh
  have hh : V = B := hh
  subst hh
  subst hV
  repeat' (first | refine wk3 ?_ | (refine wk2 ?_ ?_ <;> intro _) | refine wk4 ?_ | fail); all_goals (conv => whnf)
  clear hlt hk
  refine Zx (S := Nat × Int) (fun t => h.ss.length - t.1) (fun t => [(1, .ptr 0 0 0), (2, Bo false), (6, I t.2)]) (fun _ => [(0, .row 9 [h.cells] true false)]) 1 1 (fun t => t.2 = t.1 /\ t.1 <= h.ss.length /\ ((h.ss.drop t.1).all fewS) = (h.ss.all fewS)) (0, 0) ⟨rfl, Nat.zero_le _, rfl⟩ (Nat.le_refl _) [] rfl (kps) (kps) ?_
  rintro ⟨k, i⟩ ⟨hi, hk, hh⟩
  dsimp only at hi hk hh ⊢
  subst hi
  generalize hB : (h.ss.all fewS) = B at *
  clear hB
  refine bs.av (sx := nos) Ze ?_
  by_cases hlt : k < h.ss.length
  ·have e1 := Zp4 hlt
   rw [List.drop_eq_getElem_cons hlt, List.all_cons] at hh
   generalize h.ss[k] = m at *
   have hm : ∀ b, fewS m = b -> (b && (h.ss.drop (k + 1)).all fewS) = B := fun b e => by rw [<-e]; exact hh
   clear hh
   repeat' (first | refine wk3 ?_ | (refine wk2 ?_ ?_ <;> intro _) | refine wk4 ?_ | fail); all_goals (conv => whnf)
   all_goals clear e1
   all_goals first
    | exact Zb (hm false (by clear hm; simp_all [fewS, Yl]; done))
    | exact Done.mk ⟨(k + 1, _), [], rfl, kps, kps, ⟨Zk (by omega), hlt, hm true (by clear hm; simp_all [fewS, Yl]; done)⟩, by dsimp only; omega⟩
  rw [List.drop_of_length_le (by omega)] at hh
  repeat' (first | refine wk3 ?_ | (refine wk2 ?_ ?_ <;> intro _) | refine wk4 ?_ | fail); all_goals (conv => whnf)
  exact Zb hh
def few3 (h : Hal) (s : Stg) : Bool := few2 h && (decide (s.hs.length <= 4) && decide (s.dr.length <= 10))
theorem Zu8 {h : Hal} {s : Stg} (r : few3 h s = true) : h.ok /\ s.few := by
 unfold few3 at r
 simp only [Bool.and_eq_true, decide_eq_true_eq] at r
 exact ⟨Ybs r.1, by omega, by omega⟩
theorem d90 {h : Hal} (hk : h.ok) : PCall Tryz.prog 66 [h.av] ⟨I h.err, []⟩ := by
 refine bs.pv (sx := nos) (Zd (c65k hk) Ze) Tryz.func66 (by kernel_rfl) (by kernel_rfl) rfl ?_
 repeat' (first | refine wk3 ?_ | (refine wk2 ?_ ?_ <;> intro _) | refine wk4 ?_ | fail); all_goals (conv => whnf)
 exact Za rfl
noncomputable abbrev cHas (h : Hal) : List AV -> Option PRes := famA (fun _ : Int => True) (fun i => [h.av, I i]) (fun i => ⟨Bo (within i 0 (nsur h - 1)), []⟩)
theorem Ybi (h : Hal) (i : Int) : cHas h [h.av, I i] = some ⟨Bo (within i 0 (nsur h - 1)), []⟩ :=
 Zr (p := fun _ : Int => True) (g := fun i => [h.av, I i]) (r := fun i => ⟨Bo (within i 0 (nsur h - 1)), []⟩) (fun j hj => by
  simp only [List.cons.injEq, AV.int.injEq, true_and, and_true] at hj
  rw [hj]) trivial
def nsN (h : Hal) : Nat := h.ws.length + 2 + h.ks.length
theorem Ycz (h : Hal) : (nsN h : Int) = nsur h := by unfold nsN nsur; omega
theorem Zw1 (h : Hal) : (sl (surf h)).length = nsN h := by
 rw [Zh5]; unfold surf Ze8 Zfn nsN; simp; omega
def prvL (l : List Int) : Nat -> Option Int
 | 0 => none
 | k + 1 => l[k]?
def wkG (n : Int) : Option Int -> List Int -> Int
 | _, [] => 0
 | q, x :: l => if within x 0 n then (if q = some x then 26 else wkG n (some x) l) else 6
theorem Zpt {n : Int} {l : List Int} {k : Nat} (hk : k < l.length) : wkG n (prvL l k) (l.drop k) = if within l[k] 0 n then (if prvL l k = some l[k] then 26 else wkG n (prvL l (k + 1)) (l.drop (k + 1))) else 6 := by
 rw [List.drop_eq_getElem_cons hk, wkG, show prvL l (k + 1) = some l[k] by rw [prvL, List.getElem?_eq_getElem hk]]
def suE (h : Hal) (l : List Int) : Int := if 4 < (l.length : Int) then 8 else wkG (nsur h - 1) none l
theorem Zys {n : Int} : ∀ {l : List Int} {q : Option Int}, wkG n q l = 0 -> ∀ x ∈ l, 0 <= x /\ x <= n
 | [], _, _, x, hx => by simp at hx
 | y :: l, q, h, x, hx => by
  rw [wkG] at h
  split at h
  ·rename_i c
   split at h
   ·cases h
   ·rw [List.mem_cons] at hx
    rcases hx with rfl | hx
    ·exact within_iff.1 c
    ·exact Zys h x hx
  ·cases h
set_option maxRecDepth 100000 in
set_option maxHeartbeats 8000000 in
theorem d93 {h : Hal} (hf : h.few) (l : List Int) (hl : l.length < 1000) : PCall Tryz.prog 19 [h.av, .isl 1 (nl l)] ⟨I (suE h l), []⟩ := by
 have l2 := Zl l
 have hk : PCOK Tryz.prog (ins 69 (cHas h) pt0) := Ye (fun i _ => c88 hf i) Ze
 unfold suE
 by_cases c : 4 < (l.length : Int)
 ·rw [if_pos c]
  refine bs.pv (sx := nos) Ze Tryz.func19 (by kernel_rfl) (by kernel_rfl) rfl ?_
  repeat' (first | refine wk3 ?_ | (refine wk2 ?_ ?_ <;> intro _) | refine wk4 ?_ | fail); all_goals (conv => whnf)
  exact Za rfl
 rw [if_neg c]
 refine bs.pv (sx := nos) hk Tryz.func19 (by kernel_rfl) (by kernel_rfl) rfl ?_
 repeat' (first | refine wk3 ?_ | (refine wk2 ?_ ?_ <;> intro _) | refine wk4 ?_ | fail); all_goals (conv => whnf)
 refine Zx (S := Nat × Int) (fun t => l.length - t.1) (fun t => [(1, .isl 1 (nl l)), (2, .ptr 0 0 0), (5, I t.2)]) (fun _ => [(0, .row 9 [h.cells] true false)]) 1 1 (fun t => t.2 = t.1 /\ t.1 <= l.length /\ wkG (nsur h - 1) (prvL l t.1) (l.drop t.1) = wkG (nsur h - 1) none l) (0, 0) ⟨rfl, Nat.zero_le _, rfl⟩ (Nat.le_refl _) [] rfl (kps) (kps) ?_
 rintro ⟨k, i⟩ ⟨hi, hk1, hh⟩
 dsimp only at hi hk1 hh ⊢
 subst hi
 generalize wkG (nsur h - 1) none l = R at *
 refine bs.av (sx := nos) hk ?_
 by_cases hlt : k < l.length
 ·have e1 := Vq hlt
  have g1 := Ybi h l[k]
  rw [Zpt hlt] at hh
  cases k with
  | zero =>
   rw [show prvL l 0 = none from rfl] at hh
   rw [if_neg (c := none = some l[0]) (by simp)] at hh
   generalize l[0] = x at *
   cases hw : within x 0 (nsur h - 1)
   ·rw [hw] at hh g1
    have hh : (6 : Int) = R := hh
    subst hh
    repeat' (first | refine wk3 ?_ | (refine wk2 ?_ ?_ <;> intro _) | refine wk4 ?_ | fail); all_goals (conv => whnf)
    exact Za rfl
   ·rw [hw, if_pos rfl] at hh
    rw [hw] at g1
    repeat' (first | refine wk3 ?_ | (refine wk2 ?_ ?_ <;> intro _) | refine wk4 ?_ | fail); all_goals (conv => whnf)
    exact Done.mk ⟨(1, _), [], rfl, kps, kps, ⟨Zk (k := 0) (by omega), hlt, hh⟩, by dsimp only; omega⟩
  | succ k =>
   have w : IntKind.i64.wrap (((k + 1 : Nat) : Int) - 1) = (k : Int) := by rw [W_eq (by omega) (by omega)]; omega
   have hlt' : k < l.length := by omega
   have e2 : (nl l)[(IntKind.i64.wrap (((k + 1 : Nat) : Int) - 1)).toNat]? = some [I l[k]] := by rw [w]; exact Vq hlt'
   rw [show prvL l (k + 1) = some l[k] by rw [prvL, List.getElem?_eq_getElem hlt']] at hh
   generalize l[k + 1] = x at *
   generalize l[k] = y at *
   cases hw : within x 0 (nsur h - 1)
   ·rw [hw] at hh g1
    have hh : (6 : Int) = R := hh
    subst hh
    repeat' (first | refine wk3 ?_ | (refine wk2 ?_ ?_ <;> intro _) | refine wk4 ?_ | fail); all_goals (conv => whnf)
    exact Za rfl
   ·rw [hw, if_pos rfl] at hh
    rw [hw] at g1
    by_cases hxy : x = y
    ·rw [if_pos (by rw [hxy])] at hh
     subst hh
     repeat' (first | refine wk3 ?_ | (refine wk2 ?_ ?_ <;> intro _) | refine wk4 ?_ | fail); all_goals (conv => whnf)
     exact Za rfl
    ·rw [if_neg (fun c => hxy (by simpa using c.symm))] at hh
     repeat' (first | refine wk3 ?_ | (refine wk2 ?_ ?_ <;> intro _) | refine wk4 ?_ | fail); all_goals (conv => whnf)
     exact Done.mk ⟨(k + 1 + 1, _), [], rfl, kps, kps, ⟨Zk (k := k + 1) (by omega), hlt, hh⟩, by dsimp only; omega⟩
 ·rw [List.drop_of_length_le (by omega), wkG] at hh
  repeat' (first | refine wk3 ?_ | (refine wk2 ?_ ?_ <;> intro _) | refine wk4 ?_ | fail); all_goals (conv => whnf)
  exact Za hh
set_option maxRecDepth 100000 in
set_option maxHeartbeats 8000000 in
theorem d165 {h : Hal} (hk : h.ok) (he : h.err = 0) (l : List Int) (hl : l.length < 1000) : PCall Tryz.prog 64 [h.av, .isl 1 (nl l)] ⟨I (suE h l), []⟩ := by
 have l2 := Zl l
 have h64 := c64 hk
 rw [he, if_pos rfl] at h64
 have l3 := Zw1 h
 have hn := Ycz h
 have hf := hk.f
 have hnb : nsN h < 10000 := by obtain ⟨f1, f2, f3, f4, f5, f6⟩ := hf; unfold nsN; omega
 have hk := Zd h64 (Zi (f0 := 101) (r := rWu) (fun a res h => by unfold rWu at h; split at h <;> cases h; exact d210 _ _ _) Ze)
 unfold suE
 by_cases c : 4 < (l.length : Int)
 ·rw [if_pos c]
  refine bs.pv (sx := nos) Ze Tryz.func64 (by kernel_rfl) (by kernel_rfl) rfl ?_
  repeat' (first | refine wk3 ?_ | (refine wk2 ?_ ?_ <;> intro _) | refine wk4 ?_ | fail); all_goals (conv => whnf)
  exact Za rfl
 rw [if_neg c]
 have w0 : IntKind.i64.wrap (((sl (surf h)).length : Int) - 1) = nsur h - 1 := by rw [l3, W_eq (by omega) (by omega)]; omega
 rw [<-w0]
 refine bs.pv (sx := nos) hk Tryz.func64 (by kernel_rfl) (by kernel_rfl) rfl ?_
 repeat' (first | refine wk3 ?_ | (refine wk2 ?_ ?_ <;> intro _) | refine wk4 ?_ | fail); all_goals (conv => whnf)
 refine Zx (S := Nat × Int) (fun t => l.length - t.1) (fun t => [(1, .isl 1 (nl l)), (5, .isl 1 (sl (surf h))), (17, .isl 1 (nl l)), (18, I (nl l).length), (19, I t.2)]) (fun _ => []) 1 1 (fun t => t.2 = t.1 /\ t.1 <= l.length /\ wkG (IntKind.i64.wrap (((sl (surf h)).length : Int) - 1)) (prvL l t.1) (l.drop t.1) = wkG (IntKind.i64.wrap (((sl (surf h)).length : Int) - 1)) none l) (0, 0) ⟨rfl, Nat.zero_le _, rfl⟩ (Nat.le_refl _) [] rfl (kps) (kps) ?_
 rintro ⟨k, i⟩ ⟨hi, hk1, hh⟩
 dsimp only at hi hk1 hh ⊢
 subst hi
 generalize wkG (IntKind.i64.wrap (((sl (surf h)).length : Int) - 1)) none l = R at *
 refine bs.av (sx := nos) hk ?_
 by_cases hlt : k < l.length
 ·have e1 := Vq hlt
  rw [Zpt hlt] at hh
  cases k with
  | zero =>
   rw [show prvL l 0 = none from rfl] at hh
   rw [if_neg (c := none = some l[0]) (by simp)] at hh
   generalize l[0] = x at *
   cases hw : within x 0 (IntKind.i64.wrap (((sl (surf h)).length : Int) - 1))
   ·rw [hw] at hh
    have hh : (6 : Int) = R := hh
    subst hh
    repeat' (first | refine wk3 ?_ | (refine wk2 ?_ ?_ <;> intro _) | refine wk4 ?_ | fail); all_goals (conv => whnf)
    all_goals first
     | exact Za rfl
     | (exfalso; simp_all; done)
   ·rw [hw, if_pos rfl] at hh
    repeat' (first | refine wk3 ?_ | (refine wk2 ?_ ?_ <;> intro _) | refine wk4 ?_ | fail); all_goals (conv => whnf)
    all_goals first
     | exact Done.mk ⟨(1, _), [], rfl, kps, kps, ⟨Zk (k := 0) (by omega), hlt, hh⟩, by dsimp only; omega⟩
     | (exfalso; simp_all; done)
  | succ k =>
   have w : IntKind.i64.wrap (((k + 1 : Nat) : Int) - 1) = (k : Int) := by rw [W_eq (by omega) (by omega)]; omega
   have hlt' : k < l.length := by omega
   have e2 : (nl l)[(IntKind.i64.wrap (((k + 1 : Nat) : Int) - 1)).toNat]? = some [I l[k]] := by rw [w]; exact Vq hlt'
   rw [show prvL l (k + 1) = some l[k] by rw [prvL, List.getElem?_eq_getElem hlt']] at hh
   generalize l[k + 1] = x at *
   generalize l[k] = y at *
   cases hw : within x 0 (IntKind.i64.wrap (((sl (surf h)).length : Int) - 1))
   ·rw [hw] at hh
    have hh : (6 : Int) = R := hh
    subst hh
    repeat' (first | refine wk3 ?_ | (refine wk2 ?_ ?_ <;> intro _) | refine wk4 ?_ | fail); all_goals (conv => whnf)
    all_goals first
     | exact Za rfl
     | (exfalso; simp_all; done)
   ·rw [hw, if_pos rfl] at hh
    by_cases hxy : x = y
    ·rw [if_pos (by rw [hxy])] at hh
     subst hh
     repeat' (first | refine wk3 ?_ | (refine wk2 ?_ ?_ <;> intro _) | refine wk4 ?_ | fail); all_goals (conv => whnf)
     all_goals first
      | exact Za rfl
      | (exfalso; simp_all; done)
    ·rw [if_neg (fun c => hxy (by simpa using c.symm))] at hh
     repeat' (first | refine wk3 ?_ | (refine wk2 ?_ ?_ <;> intro _) | refine wk4 ?_ | fail); all_goals (conv => whnf)
     all_goals first
      | exact Done.mk ⟨(k + 1 + 1, _), [], rfl, kps, kps, ⟨Zk (k := k + 1) (by omega), hlt, hh⟩, by dsimp only; omega⟩
      | (exfalso; simp_all; done)
 ·rw [List.drop_of_length_le (by omega), wkG] at hh
  repeat' (first | refine wk3 ?_ | (refine wk2 ?_ ?_ <;> intro _) | refine wk4 ?_ | fail); all_goals (conv => whnf)
  exact Za hh
theorem d17 (h : Hal) (s : Stg) : PCall Tryz.prog 13 [.agg (stgL h s)] ⟨Bo (few3 h s), []⟩ := by
 have l1 := Zl s.hs
 have l2 := Zl s.dr
 have hk := Zd (d80 h) Ze
 unfold few3
 generalize few2 h = b at *
 by_cases c1 : s.hs.length <= 4 <;> by_cases c2 : s.dr.length <= 10 <;> cases b
 all_goals
  refine bs.pv (sx := nos) hk Tryz.func13 (by kernel_rfl) (by kernel_rfl) rfl ?_
  repeat' (first | refine wk3 ?_ | (refine wk2 ?_ ?_ <;> intro _) | refine wk4 ?_ | fail); all_goals (conv => whnf)
 all_goals first
  | exact Zb rfl
  | (refine Zb ?_; simp_all; done)
  | (refine Zb ?_; simp_all; omega)
  | (exfalso; simp_all; omega)
set_option maxRecDepth 100000 in
set_option maxHeartbeats 4000000 in
theorem d21 {p : Pth} (h1 : p.ss.length < 100000) (h2 : p.ps.length < 100000) : PCall Tryz.prog 35 [p.av] ⟨p.av, []⟩ := by
 have o1 : Vf (p.ps.map hp4) = true := by simp [Vf, AV.one]
 have l2 : (p.ps.map hp4).length = p.ps.length := by simp
 have hk := Zd (c25f p.ss h1) Ze
 have key : PCall Tryz.prog 35 [p.av] ⟨.agg [.isl 1 (nl p.ss), .asl 0 0 (p.ps.map hp4).length, I p.sq], [(4, p.ps.map hp4)]⟩ := by
  obtain ⟨ss, ps, sq⟩ := p
  dsimp only at *
  cases ps with
  | nil =>
   refine bs.pv (sx := nos) hk Tryz.func35 (by kernel_rfl) (by kernel_rfl) rfl ?_
   repeat' (first | refine wk3 ?_ | (refine wk2 ?_ ?_ <;> intro _) | refine wk4 ?_ | fail); all_goals (conv => whnf)
   exact Xe [5] rfl rfl rfl
  | cons q ps =>
   refine bs.pv (sx := nos) hk Tryz.func35 (by kernel_rfl) (by kernel_rfl) rfl ?_
   repeat' (first | refine wk3 ?_ | (refine wk2 ?_ ?_ <;> intro _) | refine wk4 ?_ | fail); all_goals (conv => whnf)
   refine Zlu (ys := (q :: ps).map hp4) rfl rfl rfl rfl rfl rfl rfl rfl rfl o1 (by simp) rfl (by show 0 + _ <= _; rw [l2]; omega) ?_
   repeat' (first | refine wk3 ?_ | (refine wk2 ?_ ?_ <;> intro _) | refine wk4 ?_ | fail); all_goals (conv => whnf)
   refine Xe [8] rfl ?_ rfl
   show AV.agg [.isl 1 (nl ss), .asl 8 0 (0 + ((q :: ps).map hp4).length), I sq] = AV.agg [.isl 1 (nl ss), .asl 8 0 ((q :: ps).map hp4).length, I sq]
   rw [Nat.zero_add]
 exact key.freeze ⟨⟨rfl, rfl⟩, ⟨rfl, rfl, rfl⟩, ⟨rfl, rfl⟩, trivial⟩
def eqN : List Int -> List Int -> Bool
 | [], [] => true
 | x :: a, y :: b => decide (x = y) && eqN a b
 | _, _ => false
theorem Zpe : ∀ {a b : List Int}, eqN a b = true ↔ a = b
 | [], [] => by simp [eqN]
 | x :: a, y :: b => by rw [eqN, Bool.and_eq_true, decide_eq_true_eq, Zpe]; simp
 | [], y :: b => by simp [eqN]
 | x :: a, [] => by simp [eqN]
theorem Ybv {a b : List Int} (h : a.length ≠ b.length) : eqN a b = false := by
 rw [Bool.eq_false_iff, ne_eq, Zpe]
 intro e; exact h (by rw [e])
set_option maxRecDepth 100000 in
set_option maxHeartbeats 4000000 in
theorem c69 {a b : List Int} (hl : a.length < 1000000) (hb : b.length < 1000000) : PCall Tryz.prog 58 [.isl 1 (nl a), .isl 1 (nl b)] ⟨Bo (eqN a b), []⟩ := by
 have l1 := Zl a
 have l2 := Zl b
 refine bs.pv (sx := nos) Ze Tryz.func58 (by kernel_rfl) (by kernel_rfl) rfl ?_
 by_cases hlen : a.length = b.length
 ·repeat' (first | refine wk1 ?_ | (refine wk2 ?_ ?_ <;> intro _) | refine wk4 ?_ | fail); all_goals (conv => whnf)
  refine Zx (S := Nat × Int) (fun t => a.length - t.1) (fun t => [(0, .isl 1 (nl a)), (1, .isl 1 (nl b)), (5, I t.2)]) (fun _ => []) 0 0 (fun t => t.2 = t.1 /\ t.1 <= a.length /\ eqN (a.drop t.1) (b.drop t.1) = eqN a b) (0, 0) ⟨rfl, Nat.zero_le _, rfl⟩ (Nat.le_refl _) [] rfl (kps) (kps) ?_
  rintro ⟨k, i⟩ ⟨hi, hk, hh⟩
  dsimp only at hi hk hh ⊢
  subst hi
  refine bs.av (sx := nos) Ze ?_
  by_cases hlt : k < a.length
  ·have e1 := Vq hlt
   have e2 := Vq (ns := b) (k := k) (by omega)
   rw [List.drop_eq_getElem_cons hlt, List.drop_eq_getElem_cons (show k < b.length by omega), eqN] at hh
   by_cases he : a[k] = b[k]'(by omega)
   ·rw [decide_eq_true he, Bool.true_and] at hh
    repeat' (first | refine wk1 ?_ | (refine wk2 ?_ ?_ <;> intro _) | refine wk4 ?_ | fail); all_goals (conv => whnf)
    exact Done.mk ⟨(k + 1, _), [], rfl, kps, kps, ⟨Zk (by omega), hlt, hh⟩, by dsimp only; omega⟩
   ·rw [decide_eq_false he, Bool.false_and] at hh
    rw [<-hh]
    repeat' (first | refine wk1 ?_ | (refine wk2 ?_ ?_ <;> intro _) | refine wk4 ?_ | fail); all_goals (conv => whnf)
    exact Zb rfl
  ·rw [List.drop_of_length_le (by omega), List.drop_of_length_le (by omega)] at hh
   rw [<-hh]
   repeat' (first | refine wk1 ?_ | (refine wk2 ?_ ?_ <;> intro _) | refine wk4 ?_ | fail); all_goals (conv => whnf)
   exact Zb rfl
 ·rw [Ybv hlen]
  repeat' (first | refine wk1 ?_ | (refine wk2 ?_ ?_ <;> intro _) | refine wk4 ?_ | fail); all_goals (conv => whnf)
  exact Zb rfl
noncomputable abbrev Ybf : List AV -> Option PRes := famA (fun p : List Int × List Int => p.1.length < 1000000 /\ p.2.length < 1000000) (fun p => [.isl 1 (nl p.1), .isl 1 (nl p.2)]) (fun p => ⟨Bo (eqN p.1 p.2), []⟩)
theorem Zxq {a b : List Int} (ha : a.length < 1000000) (hb : b.length < 1000000) : Ybf [.isl 1 (nl a), .isl 1 (nl b)] = some ⟨Bo (eqN a b), []⟩ :=
 Zr (p := fun p : List Int × List Int => p.1.length < 1000000 /\ p.2.length < 1000000) (g := fun p => [.isl 1 (nl p.1), .isl 1 (nl p.2)]) (r := fun p => ⟨Bo (eqN p.1 p.2), []⟩) (k := (a, b)) (fun j hj => by
  simp only [List.cons.injEq, AV.isl.injEq, true_and, and_true] at hj
  rw [Zqg hj.1, Zqg hj.2]) ⟨ha, hb⟩
theorem Zxr {pt : PC} (h : PCOK Tryz.prog pt) : PCOK Tryz.prog (ins 58 Ybf pt) := Ye (fun p hp => c69 hp.1 hp.2) h
theorem d103 {ns : List Int} (h0 : 0 < ns.length) (hl : ns.length < 100000) : PCall Tryz.prog 103 [.isl 1 (nl ns)] ⟨.asl 0 0 (nl ns).length, [(1, nl ns)]⟩ := by
 obtain ⟨x, l, rfl⟩ := List.exists_cons_of_length_pos h0
 have h1 := Zmm (x :: l)
 have h2 := Zl (x :: l)
 refine bs.pv (sx := nos) Ze Tryz.func103 (by kernel_rfl) (by kernel_rfl) rfl ?_
 repeat' (first | refine wk3 ?_ | (refine wk2 ?_ ?_ <;> intro _) | refine wk4 ?_ | fail); all_goals (conv => whnf)
 refine Xe [1] rfl ?_ rfl
 show AV.asl 1 0 (0 + (nl (x :: l)).length) = AV.asl 1 0 (nl (x :: l)).length
 rw [Nat.zero_add]
set_option maxRecDepth 100000 in
set_option maxHeartbeats 4000000 in
theorem w103 (a : Option Addr) (cap : Nat) (w : World) : Calls Tryz.prog 103 #[.slice a 0 cap] w fun e w' => ∃ a' cap', e = .returned (.slice a' 0 cap') /\ RowKit.Below w.heap.size w w' := by
 have e : ∀ w : World, Sem.run Tryz.prog (binOp BinOp.eql 29 (Value.slice a 0 cap) (Value.slice none 0 0)) w = .ok (.bool a.isNone) w := by
  intro w
  cases a <;> rfl
 cases a with
 | none =>
  simp only [Option.isNone] at e
  go_enter Tryz.func103, Tryz.ntmps103
  go_wp2
  go_ret
  exact ⟨_, _, rfl, RowKit.Below.refl _ _⟩
 | some a =>
  simp only [Option.isNone] at e
  go_enter Tryz.func103, Tryz.ntmps103
  go_wp2
  go_ret
  exact ⟨_, _, rfl, Zjb _ _⟩
theorem Yem : PCall Tryz.prog 103 [.isl 1 []] ⟨.isl 1 [], []⟩ := Zmk (FnOK.of Tryz.func103 (by kernel_rfl) (by kernel_rfl)) w103
theorem Zmn (l : List (Int × Int × Int × Int)) : Vf (l.map hp4) = true := by simp [Vf, AV.one]
theorem d104 {ps : List (Int × Int × Int × Int)} (h0 : 0 < ps.length) (hl : ps.length < 100000) : PCall Tryz.prog 104 [.isl 4 (ps.map hp4)] ⟨.asl 0 0 (ps.map hp4).length, [(4, ps.map hp4)]⟩ := by
 obtain ⟨x, l, rfl⟩ := List.exists_cons_of_length_pos h0
 have h1 := Zmn (x :: l)
 have h2 : ((x :: l).map hp4).length = (x :: l).length := by simp
 refine bs.pv (sx := nos) Ze Tryz.func104 (by kernel_rfl) (by kernel_rfl) rfl ?_
 repeat' (first | refine wk3 ?_ | (refine wk2 ?_ ?_ <;> intro _) | refine wk4 ?_ | fail); all_goals (conv => whnf)
 refine Xe [1] rfl ?_ rfl
 show AV.asl 1 0 (0 + ((x :: l).map hp4).length) = AV.asl 1 0 ((x :: l).map hp4).length
 rw [Nat.zero_add]
set_option maxRecDepth 100000 in
set_option maxHeartbeats 4000000 in
theorem w104 (a : Option Addr) (cap : Nat) (w : World) : Calls Tryz.prog 104 #[.slice a 0 cap] w fun e w' => ∃ a' cap', e = .returned (.slice a' 0 cap') /\ RowKit.Below w.heap.size w w' := by
 have e : ∀ w : World, Sem.run Tryz.prog (binOp BinOp.eql 40 (Value.slice a 0 cap) (Value.slice none 0 0)) w = .ok (.bool a.isNone) w := by
  intro w
  cases a <;> rfl
 cases a with
 | none =>
  simp only [Option.isNone] at e
  go_enter Tryz.func104, Tryz.ntmps104
  go_wp2
  go_ret
  exact ⟨_, _, rfl, RowKit.Below.refl _ _⟩
 | some a =>
  simp only [Option.isNone] at e
  go_enter Tryz.func104, Tryz.ntmps104
  go_wp2
  go_ret
  exact ⟨_, _, rfl, Zjb _ _⟩
theorem Yek : PCall Tryz.prog 104 [.isl 4 []] ⟨.isl 4 [], []⟩ := Zmk (FnOK.of Tryz.func104 (by kernel_rfl) (by kernel_rfl)) w104
abbrev Pl3 := Int × Int × Int
def plcB (x y z : Int) : Bool := within x (-5000) 5000 && within y (-5000) 5000 && within z (-5000) 5000
def plaE (h : Hal) (x y z : Int) : Int := if plcB x y z = true then unl (Zag h ⟨x, y, z, 1⟩) 24 else 2
theorem d123 (x y z : Int) : PCall Tryz.prog 123 [P3 x y z] ⟨P4 x y z 1, []⟩ := by
 refine bs.pv (sx := nos) Ze Tryz.func123 (by kernel_rfl) (by kernel_rfl) rfl ?_
 repeat' (first | refine wk3 ?_ | (refine wk2 ?_ ?_ <;> intro _) | refine wk4 ?_ | fail); all_goals (conv => whnf)
 all_goals exact Zf rfl rfl
theorem d83 (n : Int) : PCall Tryz.prog 83 [I n] ⟨Bo (within n (-5000) 5000), []⟩ := by
 refine bs.pv (sx := nos) (Zd (c30 n (-5000) 5000) Ze) Tryz.func83 (by kernel_rfl) (by kernel_rfl) rfl ?_
 repeat' (first | refine wk3 ?_ | (refine wk2 ?_ ?_ <;> intro _) | refine wk4 ?_ | fail); all_goals (conv => whnf)
 exact Zb rfl
theorem d81 (n : Int) : PCall Tryz.prog 81 [I n] ⟨I (unl (within n 0 4) 2), []⟩ := by
 refine bs.pv (sx := nos) (Zd (d210 n 0 4) (Zd (d209 (within n 0 4) 2) Ze)) Tryz.func81 (by kernel_rfl) (by kernel_rfl) rfl ?_
 repeat' (first | refine wk3 ?_ | (refine wk2 ?_ ?_ <;> intro _) | refine wk4 ?_ | fail); all_goals (conv => whnf)
 exact Za rfl
theorem d68 (n : Int) : PCall Tryz.prog 68 [I n] ⟨I (unl (within n 0 4) 2), []⟩ := by
 refine bs.pv (sx := nos) (Zd (c30 n 0 4) Ze) Tryz.func68 (by kernel_rfl) (by kernel_rfl) rfl ?_
 repeat' (first | refine wk3 ?_ | (refine wk2 ?_ ?_ <;> intro _) | refine wk4 ?_ | fail); all_goals (conv => whnf)
 all_goals exact Za (by simp_all [unl])
theorem Zp0 (n : Int) : small n 5000 = within n (-5000) 5000 := rfl
theorem Ycy {x y z : Int} (c : plcB x y z = true) : Yw ⟨x, y, z, 1⟩ = 0 := by
 simp only [plcB, Bool.and_eq_true, within_iff] at c
 have hg : g4 ⟨x, y, z, 1⟩ = 1 := by
  simp [g4]
 unfold Yw
 rw [if_neg (by simp [hg]), if_neg (by simp), if_pos]
 unfold ptIn
 simp only [Bool.and_eq_true, within_iff]
 simp
 omega
def r86 : List AV -> Option PRes
 | [.int .i64 n, .int .i64 m] => some ⟨Bo (small n m), []⟩
 | _ => none
theorem Yco {pt : PC} (h : PCOK Tryz.prog pt) : PCOK Tryz.prog (ins 86 r86 pt) := Zi (fun a res h => by unfold r86 at h; split at h <;> cases h; exact d86 _ _) h
def r83 : List AV -> Option PRes
 | [.int .i64 n] => some ⟨Bo (within n (-5000) 5000), []⟩
 | _ => none
theorem Ycq {pt : PC} (h : PCOK Tryz.prog pt) : PCOK Tryz.prog (ins 83 r83 pt) := Zi (fun a res h => by unfold r83 at h; split at h <;> cases h; exact d83 _) h
set_option maxHeartbeats 8000000 in
theorem d79 {h : Hal} (hk : h.ok) (he : h.err = 0) (x y z : Int) : PCall Tryz.prog 79 [h.av, P3 x y z] ⟨I (plaE h x y z), []⟩ := by
 have hk0 := Yco (Zd (d123 x y z) Ze)
 by_cases c : plcB x y z = true
 ·have hp := Ycy c
  have hi : insE h ⟨x, y, z, 1⟩ = 0 := by unfold insE; rw [if_pos he, hp]
  have hw : Pt.wf ⟨x, y, z, 1⟩ := by
   simp only [plcB, Bool.and_eq_true, within_iff] at c
   refine ⟨⟨?_, ?_⟩, ⟨?_, ?_⟩, ⟨?_, ?_⟩, ⟨?_, ?_⟩⟩ <;> dsimp only <;> omega
  have h50 := c50 hk hw
  rw [hi] at h50
  unfold plaE
  rw [if_pos c]
  generalize Zag h ⟨x, y, z, 1⟩ = b at *
  have hk1 := Zd h50 (Zd (d209 b 24) hk0)
  simp only [plcB, Bool.and_eq_true, <-Zp0] at c
  refine bs.pv (sx := nos) hk1 Tryz.func79 (by kernel_rfl) (by kernel_rfl) rfl ?_
  repeat' (first | refine wk3 ?_ | (refine wk2 ?_ ?_ <;> intro _) | refine wk4 ?_ | fail); all_goals (conv => whnf)
  all_goals first
   | exact Za rfl
   | (exfalso; clear hk1 h50 hk0 hp hi; simp_all; done)
 ·unfold plaE
  rw [if_neg c]
  simp only [plcB, <-Zp0] at c
  refine bs.pv (sx := nos) hk0 Tryz.func79 (by kernel_rfl) (by kernel_rfl) rfl ?_
  repeat' (first | refine wk3 ?_ | (refine wk2 ?_ ?_ <;> intro _) | refine wk4 ?_ | fail); all_goals (conv => whnf)
  all_goals first
   | exact Za rfl
   | (exfalso; clear hk0; simp_all; done)
set_option maxHeartbeats 8000000 in
theorem d27 {h : Hal} (hk : h.ok) (he : h.err = 0) (x y z : Int) : PCall Tryz.prog 27 [h.av, P3 x y z] ⟨I (plaE h x y z), []⟩ := by
 have hf := Zlk hk he
 have hk0 := Zd (c52 hk.f hf.le.2.2.1 (Zt5 hf.st) ⟨x, y, z, 1⟩) (Ycq (Zd (c36 x y z) Ze))
 unfold plaE plcB
 generalize Zag h ⟨x, y, z, 1⟩ = b at *
 refine bs.pv (sx := nos) hk0 Tryz.func27 (by kernel_rfl) (by kernel_rfl) rfl ?_
 repeat' (first | refine wk3 ?_ | (refine wk2 ?_ ?_ <;> intro _) | refine wk4 ?_ | fail); all_goals (conv => whnf)
 all_goals clear hk0
 all_goals exact Za (by simp_all [unl])
abbrev pl3 (p : Pl3) : List AV := [I p.1, I p.2.1, I p.2.2]
def im1 (h : Hal) (s : Stg) (n : Int) (p : Pl3) : Pl3 := rmir (Zg h s n).1 (Zg h s n).2 p.1 p.2.1 p.2.2
def imA (f : Int -> Pl3 -> Pl3) (p : Pl3) (l : List Int) (k : Nat) : Pl3 := (l.take k).foldl (fun q n => f n q) p
theorem Zlf (f : Int -> Pl3 -> Pl3) (p : Pl3) {l : List Int} {k : Nat} (hk : k < l.length) : imA f p l (k + 1) = f l[k] (imA f p l k) := by
 unfold imA
 rw [List.take_succ_eq_append_getElem hk, List.foldl_append]
 rfl
def imC (f : Int -> Pl3 -> Pl3) (p : Pl3) (l : List Int) (k : Nat) : List (List AV) := (List.range (k + 1)).map fun j => pl3 (imA f p l j)
theorem Zdh (f : Int -> Pl3 -> Pl3) (p : Pl3) (l : List Int) (k : Nat) : (imC f p l k).length = k + 1 := by simp [imC]
theorem Zhj (f : Int -> Pl3 -> Pl3) (p : Pl3) (l : List Int) (k : Nat) : (imC f p l k)[k]? = some (pl3 (imA f p l k)) := by simp [imC]
theorem Zqv (f : Int -> Pl3 -> Pl3) (p : Pl3) (l : List Int) (k : Nat) : imC f p l (k + 1) = imC f p l k ++ [pl3 (imA f p l (k + 1))] := by
 unfold imC
 rw [List.range_succ, List.map_append]
 rfl
theorem Zxb {h : Hal} {s : Stg} (g : Sit h s) {i : Int} (hi : SK h i) : (Zg h s i).1 <= 2 -> (-5000 <= (Zg h s i).2 /\ (Zg h s i).2 <= 5000) := by
 have ht := g.fine.ht
 cases hi with
 | wall k hk =>
  have hk2 : k < h.cs.length := by have := g.fine.le; omega
  obtain ⟨n, sx, sy, hs⟩ := g.fine.st k hk2
  rw [Un hk, Zk5 hs]
  have := hs.b1
  have := hs.b2
  repeat' split
  all_goals (dsimp only; omega)
 | floor => rw [Ut]; dsimp only; omega
 | ceil => rw [Zav]; dsimp only; omega
 | can j hj =>
  rw [Zbq]
  have := Zqx g hj
  dsimp only; omega
def Near (m : Int) (p : Pl3) : Prop := (-m <= p.1 /\ p.1 <= m) /\ (-m <= p.2.1 /\ p.2.1 <= m) /\ (-m <= p.2.2 /\ p.2.2 <= m)
theorem Zqw {h : Hal} {s : Stg} (g : Sit h s) {i : Int} (hi : SK h i) {m : Int} (hm : m <= 35000) {p : Pl3} (hp : Near m p) : Near (m + 10000) (im1 h s i p) /\ Vr (Zg h s i).1 (Zg h s i).2 p.1 p.2.1 p.2.2 = 0 /\ mirP (Zg h s i).1 (Zg h s i).2 p.1 p.2.1 p.2.2 = im1 h s i p := by
 have b := Zfg g hi
 have b2 := Zxb g hi
 obtain ⟨x, y, z⟩ := p
 obtain ⟨hx, hy, hz⟩ := hp
 dsimp only at hx hy hz
 unfold im1
 generalize (Zg h s i).1 = k at *
 generalize (Zg h s i).2 = a at *
 have key : Near (m + 10000) (rmir k a x y z) := by
  unfold rmir Near
  have w2 : IntKind.i64.wrap (2 * a) = 2 * a := W_eq (by omega) (by omega)
  by_cases k0 : k = 0
  ·subst k0; have := b2 (by omega); simp only [if_pos]; rw [w2, W_eq (by omega) (by omega)]; omega
  by_cases k1 : k = 1
  ·subst k1; have := b2 (by omega); simp; rw [w2, W_eq (by omega) (by omega)]; omega
  by_cases k2 : k = 2
  ·subst k2; have := b2 (by omega); simp; rw [w2, W_eq (by omega) (by omega)]; omega
  by_cases k3 : k = 3
  ·subst k3; simp; rw [W_eq (by omega) (by omega), W_eq (by omega) (by omega)]; omega
  have k4 : k = 4 := by omega
  subst k4; simp; rw [W_eq (by omega) (by omega), W_eq (by omega) (by omega)]; omega
 have e := Zr5 b.1 b.2 (x := x) (y := y) (z := z) (by omega) (by omega) (by omega) (u := (rmir k a x y z).1) (v := (rmir k a x y z).2.1) (w := (rmir k a x y z).2.2) rfl
  (by have := key.1; omega) (by have := key.2.1; omega) (by have := key.2.2; omega)
 refine ⟨key, by rw [Zmt]; exact e, ?_⟩
 rw [Ya1]
 unfold Yam
 rw [if_pos e]
theorem Zhk {h : Hal} {s : Stg} (g : Sit h s) {p : Pl3} (hp : Near 5000 p) {l : List Int} (hl : l.length <= 4) (hi : ∀ n ∈ l, SK h n) : ∀ k, k <= l.length -> Near (5000 + 10000 * k) (imA (im1 h s) p l k)
 | 0, _ => by simpa [imA] using hp
 | k + 1, hk => by
  rw [Zlf _ _ (by omega)]
  have := (Zqw g (hi l[k] (List.getElem_mem _)) (m := 5000 + 10000 * k) (by omega) (Zhk g hp hl hi k (by omega))).1
  rw [show (5000 : Int) + 10000 * ((k + 1 : Nat) : Int) = 5000 + 10000 * k + 10000 by omega]
  exact this
end Go.Proofs.YtdaliaafmcjikaaGreat
