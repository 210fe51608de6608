/- A part of the proof: lemmas. -/
import Derived.Test.YtjpmeaagnhojgaaGreatW1
set_option linter.unusedVariables false
set_option linter.unusedSimpArgs false
namespace Go.Proofs.YtjpmeaagnhojgaaGreat
open Go Go.Sx

/-! ### The point is right -/
theorem mir_in {h : Hal} {s : Stg} {su : Int} (g : Sit h s) (hi : SK h su) {x y z u v w : Int} (hp : Plc x y z) (hq : Plc u v w) (hs : ¬ 0 ≤ sgn (crF (planeV h s su) (mirC su (planeV h s su) x y z u v w)) * sgn (crG (planeV h s su) (mirC su (planeV h s su) x y z u v w)))
    (hw : wellP h su (crossP (planeV h s su) (mirC su (planeV h s su) x y z u v w)) = true) : ptErr (crossP (planeV h s su) (mirC su (planeV h s su) x y z u v w)) = 0 := by
  obtain ⟨hk, ha⟩ := plane_bd g hi
  have ho := mirC_ok (su := su) hk ha hp hq
  have hb := cross_big ho hs
  obtain ⟨⟨g1, _⟩, _, hr, e1, e2, e3, e4⟩ := red_spec hb
  have hpl := cross_plane ho hs
  obtain ⟨d1, d2, _⟩ := mir_den hk ha hp hq hs
  have hg4 : g4 (crossP (planeV h s su) (mirC su (planeV h s su) x y z u v w)) = 1 := g4_red hb
  have U0 := iabs_nn (crG (planeV h s su) (mirC su (planeV h s su) x y z u v w))
  have V0 := iabs_nn (crF (planeV h s su) (mirC su (planeV h s su) x y z u v w))
  -- a number that the mirror keeps
  have keep : ∀ (N n f t : Int), N * (g4 (crPt (mirC su (planeV h s su) x y z u v w) (iabs (crG (planeV h s su) (mirC su (planeV h s su) x y z u v w))) (iabs (crF (planeV h s su) (mirC su (planeV h s su) x y z u v w)))) : Int) = n →
      n = f * iabs (crG (planeV h s su) (mirC su (planeV h s su) x y z u v w)) + t * iabs (crF (planeV h s su) (mirC su (planeV h s su) x y z u v w)) → -5000 ≤ f ∧ f ≤ 5000 → -5000 ≤ t ∧ t ≤ 5000 → -(5000 * (crossP (planeV h s su) (mirC su (planeV h s su) x y z u v w)).d) ≤ N ∧ N ≤ 5000 * (crossP (planeV h s su) (mirC su (planeV h s su) x y z u v w)).d := by
    intro N n f t h1 h2 h3 h4
    refine red_bd g1 h1 e4 ?_
    have := mean_bd h3 h4 U0 V0
    rw [h2]
    show _ ∧ _ ≤ 5000 * (_ + 1 * _)
    show -(5000 * (_ + 1 * _)) ≤ _ ∧ _
    rw [Int.one_mul]
    exact this
  have fin : ptIn (crossP (planeV h s su) (mirC su (planeV h s su) x y z u v w)) = true → ptErr (crossP (planeV h s su) (mirC su (planeV h s su) x y z u v w)) = 0 := by
    intro hin
    unfold ptErr
    rw [if_neg (by omega), if_neg (by omega), if_pos hin]
  have hPd : (crossP (planeV h s su) (mirC su (planeV h s su) x y z u v w)).d * _ = _ := e4
  apply fin
  unfold ptIn
  simp only [Bool.and_eq_true, within_iff]
  have kx := keep (crossP (planeV h s su) (mirC su (planeV h s su) x y z u v w)).x _ x u e1
  have ky := keep (crossP (planeV h s su) (mirC su (planeV h s su) x y z u v w)).y _ y v e2
  have kz := keep (crossP (planeV h s su) (mirC su (planeV h s su) x y z u v w)).z _ z w e3
  clear keep fin e1 e2 e3 e4 hPd hb hr hs ho
  have mx : (mirC su (planeV h s su) x y z u v w).fx = (mirU (planeV h s su).1 (planeV h s su).2 x y z).1 := rfl
  have my : (mirC su (planeV h s su) x y z u v w).fy = (mirU (planeV h s su).1 (planeV h s su).2 x y z).2.1 := rfl
  have mz : (mirC su (planeV h s su) x y z u v w).fz = (mirU (planeV h s su).1 (planeV h s su).2 x y z).2.2 := rfl
  have tx : (mirC su (planeV h s su) x y z u v w).to.x = u := rfl
  have ty : (mirC su (planeV h s su) x y z u v w).to.y = v := rfl
  have tz : (mirC su (planeV h s su) x y z u v w).to.z = w := rfl
  unfold crPt at kx ky kz
  dsimp only at kx ky kz
  rw [mx, tx] at kx
  rw [my, ty] at ky
  rw [mz, tz] at kz
  generalize crossP (planeV h s su) (mirC su (planeV h s su) x y z u v w) = P at *
  generalize iabs (crG (planeV h s su) (mirC su (planeV h s su) x y z u v w)) = A at *
  generalize iabs (crF (planeV h s su) (mirC su (planeV h s su) x y z u v w)) = B at *
  clear mx my mz tx ty tz
  -- in a level plane
  have level : ∀ at', planeV h s su = (2, at') → -5000 ≤ at' ∧ at' ≤ 5000 → ((-(5000 * P.d) ≤ P.x ∧ P.x ≤ 5000 * P.d) ∧ (-(5000 * P.d) ≤ P.y ∧ P.y ≤ 5000 * P.d)) ∧ (-(5000 * P.d) ≤ P.z ∧ P.z ≤ 5000 * P.d) := by
    intro at' he hat
    rw [he] at kx ky hpl
    have hz : P.z = at' * P.d := hpl
    have := coord_bd hat d1
    exact ⟨⟨kx rfl hp.x hq.x, ky rfl hp.y hq.y⟩, by omega⟩
  have ht := g.fine.ht
  cases hi with
  | floor => exact level 0 planeV_floor (by omega)
  | ceil => exact level h.ht planeV_ceil (by omega)
  | can j hj =>
    have := hgt_bd g hj
    exact level (hgtAt h s j) planeV_can (by omega)
  | wall k hk' =>
    have hk2 : k < h.cs.length := by have := g.fine.le; omega
    obtain ⟨n, sx, sy, hst⟩ := g.fine.st k hk2
    rw [wellP_wall hk'] at hw
    rw [planeV_wall hk', plW_str hst] at hpl kx ky kz
    generalize wlOf h.cs k = l at *
    have f1 := coord_bd hst.b1 d1
    have f2 := coord_bd hst.b2 d1
    have f3 := coord_bd hst.b3 d1
    have f4 := coord_bd hst.b4 d1
    have hn := hst.hn
    by_cases c1 : sx = 0
    · rw [if_pos c1] at hpl kx ky kz
      have hx : P.x = l.fx * P.d := hpl
      exact ⟨⟨by omega, ky rfl hp.y hq.y⟩, kz rfl hp.z hq.z⟩
    by_cases c2 : sy = 0
    · rw [if_neg c1, if_pos c2] at hpl kx ky kz
      have hx : P.y = l.fy * P.d := hpl
      exact ⟨⟨kx rfl hp.x hq.x, by omega⟩, kz rfl hp.z hq.z⟩
    have hne : ¬ l.fx = l.tx := by
      rw [hst.tx]
      rcases hst.hx with rfl | rfl | rfl
      · exact absurd rfl c1
      · omega
      · omega
    have hw2 : min (l.fx * P.d) (l.tx * P.d) < P.x ∧ P.x < max (l.fx * P.d) (l.tx * P.d) := by
      unfold wellW at hw
      rw [Bool.and_eq_true, if_neg hne, Bool.and_eq_true, decide_eq_true_eq, decide_eq_true_eq, imin_eq, imax_eq, min_mul d1, max_mul d1, W_eq (n := min (l.fx * P.d) (l.tx * P.d)) (by omega) (by omega), W_eq (n := max (l.fx * P.d) (l.tx * P.d)) (by omega) (by omega)] at hw
      exact hw.2
    by_cases c3 : sx = sy
    · rw [if_neg c1, if_neg c2, if_pos c3] at hpl kz
      have hx : P.x - P.y = (l.fx - l.fy) * P.d := hpl
      rw [Int.sub_mul] at hx
      have ht2 : l.tx * P.d - l.ty * P.d = l.fx * P.d - l.fy * P.d := by rw [← Int.sub_mul, ← Int.sub_mul]; congr 1; rw [hst.tx, hst.ty, c3]; omega
      exact ⟨⟨by omega, by omega⟩, kz rfl hp.z hq.z⟩
    · rw [if_neg c1, if_neg c2, if_neg c3] at hpl kz
      have hx : P.x + P.y = (l.fx + l.fy) * P.d := hpl
      rw [Int.add_mul] at hx
      have ht2 : l.tx * P.d + l.ty * P.d = l.fx * P.d + l.fy * P.d := by
        rw [← Int.add_mul, ← Int.add_mul]; congr 1; rw [hst.tx, hst.ty]
        rcases hst.hx with rfl | rfl | rfl <;> rcases hst.hy with rfl | rfl | rfl <;> simp at * <;> omega
      exact ⟨⟨by omega, by omega⟩, kz rfl hp.z hq.z⟩

/-! ### Both are equally far away -/
def awayV (p : Pt) (x y z : Int) : Int := IntKind.i64.wrap (IntKind.i64.wrap (IntKind.i64.wrap (IntKind.i64.wrap (p.x - IntKind.i64.wrap (x * p.d)) * IntKind.i64.wrap (p.x - IntKind.i64.wrap (x * p.d))) + IntKind.i64.wrap (IntKind.i64.wrap (p.y - IntKind.i64.wrap (y * p.d)) * IntKind.i64.wrap (p.y - IntKind.i64.wrap (y * p.d)))) + IntKind.i64.wrap (IntKind.i64.wrap (p.z - IntKind.i64.wrap (z * p.d)) * IntKind.i64.wrap (p.z - IntKind.i64.wrap (z * p.d))))
theorem c55 (p : Pt) (x y z : Int) : PCall Tryz.prog 55 [p.av, P3 x y z] ⟨I (awayV p x y z), []⟩ := by
  refine bs.pv (sx := nos) pt0_ok Tryz.func55 (by kernel_rfl) (by kernel_rfl) rfl ?_
  repeat' (first | refine wk0 ?_ | (refine wk2 ?_ ?_ <;> intro _) | refine wk4 ?_ | fail); all_goals (conv => whnf)
  exact ret_int rfl
theorem away_eq {p : Pt} (hd : 0 < p.d ∧ p.d ≤ 40000) (hx : -(5000 * p.d) ≤ p.x ∧ p.x ≤ 5000 * p.d) (hy : -(5000 * p.d) ≤ p.y ∧ p.y ≤ 5000 * p.d) (hz : -(5000 * p.d) ≤ p.z ∧ p.z ≤ 5000 * p.d) {x y z : Int} (bx : -25000 ≤ x ∧ x ≤ 25000) (by' : -25000 ≤ y ∧ y ≤ 25000) (bz : -25000 ≤ z ∧ z ≤ 25000) :
    awayV p x y z = (p.x - x * p.d) * (p.x - x * p.d) + (p.y - y * p.d) * (p.y - y * p.d) + (p.z - z * p.d) * (p.z - z * p.d) := by
  have m1 := mul_bd (a := x) (b := p.d) (A := 25000) (B := p.d) (by omega) (by omega)
  have m2 := mul_bd (a := y) (b := p.d) (A := 25000) (B := p.d) (by omega) (by omega)
  have m3 := mul_bd (a := z) (b := p.d) (A := 25000) (B := p.d) (by omega) (by omega)
  unfold awayV
  rw [W_eq (n := x * p.d) (by omega) (by omega), W_eq (n := y * p.d) (by omega) (by omega), W_eq (n := z * p.d) (by omega) (by omega)]
  generalize x * p.d = a at *
  generalize y * p.d = b at *
  generalize z * p.d = c at *
  rw [W_eq (n := p.x - a) (by omega) (by omega), W_eq (n := p.y - b) (by omega) (by omega), W_eq (n := p.z - c) (by omega) (by omega)]
  have q1 := mul_bd (a := p.x - a) (b := p.x - a) (A := 1200000000) (B := 1200000000) (by omega) (by omega)
  have q2 := mul_bd (a := p.y - b) (b := p.y - b) (A := 1200000000) (B := 1200000000) (by omega) (by omega)
  have q3 := mul_bd (a := p.z - c) (b := p.z - c) (A := 1200000000) (B := 1200000000) (by omega) (by omega)
  generalize (p.x - a) * (p.x - a) = A at *
  generalize (p.y - b) * (p.y - b) = B at *
  generalize (p.z - c) * (p.z - c) = C at *
  rw [W_eq (n := A) (by omega) (by omega), W_eq (n := B) (by omega) (by omega), W_eq (n := C) (by omega) (by omega), W_eq (n := A + B) (by omega) (by omega), W_eq (by omega) (by omega)]
theorem away_mir {p : Pt} {k a : Int} (hk : 0 ≤ k ∧ k ≤ 4) (ha : -10000 ≤ a ∧ a ≤ 10000) (hd : 0 < p.d ∧ p.d ≤ 40000) (hx : -(5000 * p.d) ≤ p.x ∧ p.x ≤ 5000 * p.d) (hy : -(5000 * p.d) ≤ p.y ∧ p.y ≤ 5000 * p.d) (hz : -(5000 * p.d) ≤ p.z ∧ p.z ≤ 5000 * p.d) {x y z : Int} (hp : Plc x y z) (hpl : valN k p.x p.y p.z = a * p.d) :
    awayV p x y z = awayV p (mirU k a x y z).1 (mirU k a x y z).2.1 (mirU k a x y z).2.2 := by
  have hb := mirU_bd hk ha hp
  have h1 := hp.x
  have h2 := hp.y
  have h3 := hp.z
  rw [away_eq hd hx hy hz (by omega) (by omega) (by omega), away_eq hd hx hy hz hb.1 hb.2.1 hb.2.2]
  clear hb h1 h2 h3 hx hy hz hd ha hp
  obtain ⟨px, py, pz, pd⟩ := p
  dsimp only at *
  rcases k_cases hk with rfl | rfl | rfl | rfl | rfl <;> simp [mirU, valN] at hpl ⊢
  · subst hpl; grind
  · subst hpl; grind
  · subst hpl; grind
  · have : px = a * pd - py := by omega
    subst this; grind
  · have : px = a * pd + py := by omega
    subst this; grind
end Go.Proofs.YtjpmeaagnhojgaaGreat
