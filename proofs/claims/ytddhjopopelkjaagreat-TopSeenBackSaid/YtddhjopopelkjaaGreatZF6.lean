/- A part of the proof: lemmas. -/
import Derived.Test.YtddhjopopelkjaaGreatZF5
set_option linter.unusedVariables false
set_option linter.unusedSimpArgs false
namespace Go.Proofs.YtddhjopopelkjaaGreat
open Go Go.Sx

/-! ### Plain law: the plan along a way that meets no wall -/
instance (p : P2d) (D ax ay bx by' : Int) : Decidable (upE p D ax ay bx by') := by unfold upE; exact inferInstance
instance (N M : P2d) (D x y : Int) : Decidable (rgE N M D x y) := by unfold rgE; exact inferInstance
/-- Without roundings. -/
def flZ (p : P2d) (w : Wl) : Bool := if w.fy ≤ w.ty then decide (upE p p.d w.fx w.fy w.tx w.ty) else decide (upE p p.d w.tx w.ty w.fx w.fy)
theorem det_bes {w : Wl} {n sx sy : Int} (h : Str w n sx sy) (p : P2d) : detE p p.d w.fx w.fy w.tx w.ty = n * bsP w sx sy p ∧ detE p p.d w.tx w.ty w.fx w.fy = -(n * bsP w sx sy p) := by
  unfold detE bsP bes
  rw [h.tx, h.ty]
  constructor <;> grind
theorem flips_z {w : Wl} {n sx sy x y d : Int} (h : Str w n sx sy) (hp : PtOk x y d) : flips x y d w = flZ ⟨x, y, d⟩ w := by
  have a2 := coord_bd h.b2 hp.hd
  have a4 := coord_bd h.b4 hp.hd
  have hD := hp.hD
  have hd := hp.hd
  obtain ⟨e1, e2⟩ := det_bes h ⟨x, y, d⟩
  have hn := h.hn
  unfold flips flZ
  rw [side_eq h hp, W_eq (n := w.fy * d) (by omega) (by omega), W_eq (n := w.ty * d) (by omega) (by omega)]
  change detE ⟨x, y, d⟩ d w.fx w.fy w.tx w.ty = _ at e1
  change detE ⟨x, y, d⟩ d w.tx w.ty w.fx w.fy = _ at e2
  have p1 := pos_l (a := bsP w sx sy ⟨x, y, d⟩) hn
  have p2 := neg_l (a := bsP w sx sy ⟨x, y, d⟩) hn
  have es : bes w sx sy x y d = bsP w sx sy ⟨x, y, d⟩ := rfl
  rw [es]
  have u1 : upE ⟨x, y, d⟩ d w.fx w.fy w.tx w.ty ↔ w.fy * d ≤ y ∧ y < w.ty * d ∧ 0 < n * bsP w sx sy ⟨x, y, d⟩ := by rw [← e1]; exact Iff.rfl
  have u2 : upE ⟨x, y, d⟩ d w.tx w.ty w.fx w.fy ↔ w.ty * d ≤ y ∧ y < w.fy * d ∧ 0 < -(n * bsP w sx sy ⟨x, y, d⟩) := by rw [← e2]; exact Iff.rfl
  show _ = if w.fy ≤ w.ty then decide (upE ⟨x, y, d⟩ d w.fx w.fy w.tx w.ty) else decide (upE ⟨x, y, d⟩ d w.tx w.ty w.fx w.fy)
  by_cases hc : w.fy ≤ w.ty
  · have hm : w.fy * d ≤ w.ty * d := Int.mul_le_mul_of_nonneg_right hc (Int.le_of_lt hd)
    rw [if_pos hc, Bool.eq_iff_iff]
    simp only [Bool.or_eq_true, Bool.and_eq_true, decide_eq_true_eq, sgn_pos_iff, sgn_neg_iff, u1]
    generalize bsP w sx sy ⟨x, y, d⟩ = B at *
    omega
  · have hm : w.ty * d ≤ w.fy * d := Int.mul_le_mul_of_nonneg_right (by omega) (Int.le_of_lt hd)
    rw [if_neg hc, Bool.eq_iff_iff]
    simp only [Bool.or_eq_true, Bool.and_eq_true, decide_eq_true_eq, sgn_pos_iff, sgn_neg_iff, u2]
    generalize bsP w sx sy ⟨x, y, d⟩ = B at *
    omega
def mulP (k : Int) (p : P2d) : P2d := ⟨k * p.x, k * p.y, k * p.d⟩
def addP (p q : P2d) : P2d := ⟨p.x + q.x, p.y + q.y, p.d + q.d⟩
theorem upE_mul {k : Int} (hk : 0 < k) (p : P2d) (ax ay bx by' : Int) : upE (mulP k p) (k * p.d) ax ay bx by' ↔ upE p p.d ax ay bx by' := by
  unfold upE
  have e : detE (mulP k p) (k * p.d) ax ay bx by' = k * detE p p.d ax ay bx by' := by unfold detE mulP; dsimp only; grind
  rw [e, pos_l hk]
  have e1 : ay * (k * p.d) ≤ (mulP k p).y ↔ ay * p.d ≤ p.y := by
    show _ ≤ k * p.y ↔ _
    rw [show ay * (k * p.d) = ay * p.d * k by grind, Int.mul_comm k]; exact le_pos hk
  have e2 : (mulP k p).y < by' * (k * p.d) ↔ p.y < by' * p.d := by
    show k * p.y < _ ↔ _
    rw [show by' * (k * p.d) = by' * p.d * k by grind, Int.mul_comm k]; exact lt_pos hk
  rw [e1, e2]
theorem flZ_mul {k : Int} (hk : 0 < k) (p : P2d) (w : Wl) : flZ (mulP k p) w = flZ p w := by
  unfold flZ
  show (if _ then decide (upE (mulP k p) (k * p.d) _ _ _ _) else decide (upE (mulP k p) (k * p.d) _ _ _ _)) = _
  simp only [upE_mul hk]
/-- Two points over one denominator: the edge between. -/
theorem edge_flip {N M : P2d} {D : Int} (hN : N.d = D) (hM : M.d = D) (hD : 0 < D) (hy : N.y ≤ M.y) {w : Wl} (nt : ¬ tch N M D w.fx w.fy w.tx w.ty) : (flZ N w ^^ flZ M w) = (decide (rgE N M D w.fx w.fy) ^^ decide (rgE N M D w.tx w.ty)) := by
  unfold flZ
  rw [hN, hM]
  by_cases hc : w.fy ≤ w.ty
  · rw [if_pos hc, if_pos hc]
    exact xor_dec (edge_up hD hy hc nt)
  · rw [if_neg hc, if_neg hc, Bool.xor_comm (decide (rgE N M D w.fx w.fy))]
    exact xor_dec (edge_up hD hy (by omega) fun h => nt (tch_swap h))
theorem xor_move {N M : P2d} {D : Int} (hN : N.d = D) (hM : M.d = D) (hD : 0 < D) {cs : List (Int × Int)} (nt : ∀ w ∈ wls cs, ¬ tch N M D w.fx w.fy w.tx w.ty) : xorL ((wls cs).map (flZ N)) = xorL ((wls cs).map (flZ M)) := by
  have key : ∀ N M : P2d, N.d = D → M.d = D → N.y ≤ M.y → (∀ w ∈ wls cs, ¬ tch N M D w.fx w.fy w.tx w.ty) → (xorL ((wls cs).map (flZ N)) ^^ xorL ((wls cs).map (flZ M))) = false := by
    intro N M h1 h2 hy h3
    rw [xorL_pair, ← tele (fun x y => decide (rgE N M D x y)) cs]
    congr 1
    refine List.map_congr_left fun w hw => ?_
    exact edge_flip h1 h2 hD hy (h3 w hw)
  have fin : ∀ a b : Bool, (a ^^ b) = false → a = b := by decide
  rcases Int.le_total N.y M.y with hy | hy
  · exact fin _ _ (key N M hN hM hy nt)
  · exact (fin _ _ (key M N hM hN hy fun w hw h => nt w hw (tch_turn h))).symm
theorem lin_id {l k' a b m k c e x y nx mx : Int} (n1 : k * nx = a * x + b * y) (m1 : k' * mx = c * x + e * y) : (l * k' * a + m * k * c) * x + (l * k' * b + m * k * e) * y = k * k' * (l * nx + m * mx) := by
  have : (l * k' * a + m * k * c) * x + (l * k' * b + m * k * e) * y = l * k' * (a * x + b * y) + m * k * (c * x + e * y) := by grind
  rw [this, ← n1, ← m1]; grind
theorem lin_two {U K s t f x g : Int} (h : U * (s + t) = K * (s * f + t * x)) (hx : x = f + g) : (s + t) * (U - f * K) = K * (t * g) := by subst hx; grind
theorem lin_bes {s t K sx sy n U V f g : Int} (hu : (s + t) * (U - f * K) = K * (t * (n * sx))) (hv : (s + t) * (V - g * K) = K * (t * (n * sy))) : (s + t) * (sx * (V - g * K) - sy * (U - f * K)) = 0 := by
  have : (s + t) * (sx * (V - g * K) - sy * (U - f * K)) = sx * ((s + t) * (V - g * K)) - sy * ((s + t) * (U - f * K)) := by grind
  rw [this, hu, hv]; grind
theorem lin_alo {s t K sx sy n U V f g : Int} (hu : (s + t) * (U - f * K) = K * (t * (n * sx))) (hv : (s + t) * (V - g * K) = K * (t * (n * sy))) : (s + t) * (sx * (U - f * K) + sy * (V - g * K)) = K * (t * ful n sx sy) := by
  have : (s + t) * (sx * (U - f * K) + sy * (V - g * K)) = sx * ((s + t) * (U - f * K)) + sy * ((s + t) * (V - g * K)) := by grind
  rw [this, hu, hv]; unfold ful; grind
/-- A wall that is met between two points of a way is met by the way. -/
theorem tch_meet {w : Wl} {n sx sy : Int} (h : Str w n sx sy) {p q : P2d} {a b c e k k' : Int} (ha : 0 < a) (hb : 0 < b) (hc : 0 < c) (he : 0 < e) (hk : 0 < k) (hk' : 0 < k') {N M : P2d} {D : Int} (hD : 0 < D) (hNd : N.d = D) (hMd : M.d = D) (hN : mulP k N = addP (mulP a p) (mulP b q)) (hM : mulP k' M = addP (mulP c p) (mulP e q)) (ht : tch N M D w.fx w.fy w.tx w.ty) : meetW w n sx sy p q := by
  obtain ⟨s, t, l, m, s0, t0, st, l0, m0, lm, e1, e2⟩ := ht
  obtain ⟨nx, ny, nd⟩ := N
  obtain ⟨mx, my, md⟩ := M
  dsimp only at hNd hMd e1 e2
  subst hNd
  subst hMd
  unfold mulP addP at hN hM
  simp only [P2d.mk.injEq] at hN hM
  obtain ⟨n1, n2, n3⟩ := hN
  obtain ⟨m1, m2, m3⟩ := hM
  -- the weights on both ends, times k k' (s + t)
  have hL : 0 < l * k' * a + m * k * c := by
    rcases Int.lt_or_eq_of_le l0 with hl | hl
    · have := Int.mul_pos (Int.mul_pos hl hk') ha
      have := Int.mul_nonneg (Int.mul_nonneg m0 (Int.le_of_lt hk)) (Int.le_of_lt hc)
      omega
    · have hm : 0 < m := by omega
      have := Int.mul_pos (Int.mul_pos hm hk) hc
      rw [← hl]; omega
  have hM' : 0 < l * k' * b + m * k * e := by
    rcases Int.lt_or_eq_of_le l0 with hl | hl
    · have := Int.mul_pos (Int.mul_pos hl hk') hb
      have := Int.mul_nonneg (Int.mul_nonneg m0 (Int.le_of_lt hk)) (Int.le_of_lt he)
      omega
    · have hm : 0 < m := by omega
      have := Int.mul_pos (Int.mul_pos hm hk) he
      rw [← hl]; omega
  generalize hLd : l * k' * a + m * k * c = L at *
  generalize hMd : l * k' * b + m * k * e = R at *
  have X : (L * p.x + R * q.x) * (s + t) = k * k' * ((l + m) * (md * (s * w.fx + t * w.tx))) := by
    rw [← e1, ← hLd, ← hMd, lin_id n1 m1, Int.mul_assoc (k * k')]
  have Y : (L * p.y + R * q.y) * (s + t) = k * k' * ((l + m) * (md * (s * w.fy + t * w.ty))) := by
    rw [← e2, ← hLd, ← hMd, lin_id n2 m2, Int.mul_assoc (k * k')]
  have Z : L * p.d + R * q.d = k * k' * ((l + m) * md) := by
    rw [← hLd, ← hMd, lin_id n3 m3, Int.add_mul]
  have hK : 0 < k * k' * ((l + m) * md) := Int.mul_pos (Int.mul_pos hk hk') (Int.mul_pos lm hD)
  rw [← Int.mul_assoc (l + m) md, ← Int.mul_assoc (k * k')] at X Y
  clear e1 e2 n1 n2 n3 m1 m2 m3 hLd hMd
  generalize k * k' * ((l + m) * md) = K at *
  have eb : L * bsP w sx sy p + R * bsP w sx sy q = sx * ((L * p.y + R * q.y) - w.fy * (L * p.d + R * q.d)) - sy * ((L * p.x + R * q.x) - w.fx * (L * p.d + R * q.d)) := by unfold bsP bes; grind
  have ea : L * alP w sx sy p + R * alP w sx sy q = sx * ((L * p.x + R * q.x) - w.fx * (L * p.d + R * q.d)) + sy * ((L * p.y + R * q.y) - w.fy * (L * p.d + R * q.d)) := by unfold alP alo; grind
  rw [Z] at eb ea
  generalize L * p.x + R * q.x = U at *
  generalize L * p.y + R * q.y = V at *
  have hu : (s + t) * (U - w.fx * K) = K * (t * (n * sx)) := lin_two X h.tx
  have hv : (s + t) * (V - w.fy * K) = K * (t * (n * sy)) := lin_two Y h.ty
  refine ⟨L, R, hL, hM', ?_, ?_, ?_⟩
  · rw [eb]
    rcases Int.mul_eq_zero.1 (lin_bes hu hv) with g | g
    · omega
    · exact g
  · rw [ea]
    have := Int.mul_nonneg (Int.le_of_lt hK) (Int.mul_nonneg t0 (Int.le_of_lt (ful_pos h)))
    rw [← lin_alo hu hv] at this
    exact (nn_l st).1 this
  · rw [ea, Z]
    have e : (s + t) * (ful n sx sy * K - (sx * (U - w.fx * K) + sy * (V - w.fy * K))) = K * (s * ful n sx sy) := by
      rw [Int.mul_sub, lin_alo hu hv]
      generalize ful n sx sy = F
      clear hu hv X Y eb ea Z
      grind
    have := Int.mul_nonneg (Int.le_of_lt hK) (Int.mul_nonneg s0 (Int.le_of_lt (ful_pos h)))
    rw [← e] at this
    have := (nn_l st).1 this
    omega
/-- A point on a wall is met. -/
theorem onW_tch {w : Wl} {n sx sy : Int} (h : Str w n sx sy) {N M : P2d} {D : Int} (hD : 0 < D) (hN : N.d = D) (ho : onW w n sx sy N.x N.y N.d) : tch N M D w.fx w.fy w.tx w.ty := by
  obtain ⟨nx, ny, nd⟩ := N
  dsimp only at hN ho
  subst hN
  obtain ⟨h1, h2, h3⟩ := ho
  have hF := ful_pos h
  have hS : ful n sx sy = n * (sx * sx + sy * sy) := rfl
  change _ ≤ ful n sx sy * nd at h3
  refine ⟨ful n sx sy * nd - alo w sx sy nx ny nd, alo w sx sy nx ny nd, 1, 0, by omega, h2, by have := Int.mul_pos hF hD; omega, by omega, by omega, by omega, ?_, ?_⟩
  · have k : (sx * sx + sy * sy) * (nx - w.fx * nd) = sx * alo w sx sy nx ny nd := by
      unfold bes at h1; unfold alo; grind
    rw [h.tx]
    generalize alo w sx sy nx ny nd = A at *
    rw [hS]
    dsimp only
    grind
  · have k : (sx * sx + sy * sy) * (ny - w.fy * nd) = sy * alo w sx sy nx ny nd := by
      unfold bes at h1; unfold alo; grind
    rw [h.ty]
    generalize alo w sx sy nx ny nd = A at *
    rw [hS]
    dsimp only
    grind
/-- Two points of a way that meets no wall are both inside, or both outside. -/
theorem inPlan_move {h : Hal} (hs : AllStr h.cs) {p q : P2d} (nm : ∀ w ∈ wls h.cs, ∀ n sx sy, Str w n sx sy → ¬ meetW w n sx sy p q) {a b c e k k' : Int} (ha : 0 < a) (hb : 0 < b) (hc : 0 < c) (he : 0 < e) (hk : 0 < k) (hk' : 0 < k')
    {x y d x' y' d' : Int} (hN : PtOk x y d) (hM : PtOk x' y' d') (e1 : mulP k ⟨x, y, d⟩ = addP (mulP a p) (mulP b q)) (e2 : mulP k' ⟨x', y', d'⟩ = addP (mulP c p) (mulP e q)) : inPlan h x y d = inPlan h x' y' d' := by
  have hd := hN.hd
  have hd' := hM.hd
  have hD : 0 < d * d' := Int.mul_pos hd hd'
  have f1 : mulP k (mulP d' ⟨x, y, d⟩) = addP (mulP (d' * a) p) (mulP (d' * b) q) := by
    unfold mulP addP at *
    simp only [P2d.mk.injEq] at *
    grind
  have f2 : mulP k' (mulP d ⟨x', y', d'⟩) = addP (mulP (d * c) p) (mulP (d * e) q) := by
    unfold mulP addP at *
    simp only [P2d.mk.injEq] at *
    grind
  have nt : ∀ w ∈ wls h.cs, ¬ tch (mulP d' ⟨x, y, d⟩) (mulP d ⟨x', y', d'⟩) (d * d') w.fx w.fy w.tx w.ty := by
    intro w hw ht
    obtain ⟨n, sx, sy, g⟩ := wls_str hs w hw
    exact nm w hw n sx sy g (tch_meet g (Int.mul_pos hd' ha) (Int.mul_pos hd' hb) (Int.mul_pos hd hc) (Int.mul_pos hd he) hk hk' hD (Int.mul_comm _ _) rfl f1 f2 ht)
  have nh : ∀ (x y d : Int), PtOk x y d → (∀ w ∈ wls h.cs, ∀ n sx sy, Str w n sx sy → ¬ onW w n sx sy x y d) → inPlan h x y d = xorL ((wls h.cs).map (flZ ⟨x, y, d⟩)) := by
    intro x y d hp ho
    unfold inPlan
    rw [inPl_xor _ _ (fun w hw => by
      obtain ⟨n, sx, sy, g⟩ := wls_str hs w hw
      rw [Bool.eq_false_iff]
      intro hh
      exact ho w hw n sx sy g ((whas_iff g hp).1 hh)), Bool.false_xor]
    congr 1
    refine List.map_congr_left fun w hw => ?_
    obtain ⟨n, sx, sy, g⟩ := wls_str hs w hw
    exact flips_z g hp
  have scale : ∀ {w n sx sy}, Str w n sx sy → ∀ {j : Int}, 0 < j → ∀ {x y d : Int}, onW w n sx sy x y d → onW w n sx sy (j * x) (j * y) (j * d) := by
    rintro w n sx sy g j hj x y d ⟨h1, h2, h3⟩
    have e1 : bes w sx sy (j * x) (j * y) (j * d) = j * bes w sx sy x y d := by unfold bes; grind
    have e2 : alo w sx sy (j * x) (j * y) (j * d) = j * alo w sx sy x y d := by unfold alo; grind
    unfold onW
    rw [e1, e2, h1]
    refine ⟨by omega, Int.mul_nonneg (Int.le_of_lt hj) h2, ?_⟩
    have := Int.mul_le_mul_of_nonneg_left h3 (Int.le_of_lt hj)
    have e3 : n * (sx * sx + sy * sy) * (j * d) = j * (n * (sx * sx + sy * sy) * d) := by grind
    omega
  rw [nh x y d hN (fun w hw n sx sy g ho => nt w hw (onW_tch g hD (Int.mul_comm _ _) (scale g hd' ho))), nh x' y' d' hM (fun w hw n sx sy g ho => nt w hw (tch_turn (onW_tch g hD rfl (scale g hd ho))))]
  rw [show (wls h.cs).map (flZ ⟨x, y, d⟩) = (wls h.cs).map (flZ (mulP d' ⟨x, y, d⟩)) from List.map_congr_left fun w _ => (flZ_mul hd' _ _).symm, show (wls h.cs).map (flZ ⟨x', y', d'⟩) = (wls h.cs).map (flZ (mulP d ⟨x', y', d'⟩)) from List.map_congr_left fun w _ => (flZ_mul hd _ _).symm]
  exact xor_move (Int.mul_comm _ _) rfl hD nt
end Go.Proofs.YtddhjopopelkjaaGreat
