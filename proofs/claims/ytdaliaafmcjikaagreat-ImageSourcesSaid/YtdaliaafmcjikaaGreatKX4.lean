/- A part of the proof: lemmas. -/
import Derived.Test.YtdaliaafmcjikaaGreatKX3
set_option linter.unusedVariables false
set_option linter.unusedSimpArgs false
namespace Go.Proofs.YtdaliaafmcjikaaGreat
open Go Go.Sx

/-! ### Canopies of a right hall -/
theorem can_all {h : Hal} (g : h.fine) {j : Nat} (hj : j < h.ks.length) : CanOk h.ks[j] ∧ hsErr h.ht none h.ks[j].hs = 0 := by
  have := g.can j hj
  unfold cErrR at this
  split at this
  · split at this
    · cases this
    · split at this
      · cases this
      · split at this
        · cases this
        · split at this
          · cases this
          · split at this
            · split at this
              · rename_i hz
                split at this
                · rename_i hp
                  split at this
                  · cases this
                  · rename_i hd
                    simp only [Bool.and_eq_true] at hp
                    simp only [Bool.or_eq_true, decide_eq_true_eq, not_or] at hd
                    exact ⟨⟨within_iff.1 hp.1.1.1, within_iff.1 hp.1.1.2, within_iff.1 hp.1.2, within_iff.1 hp.2, hd.1, hd.2⟩, hz⟩
                · cases this
              · rename_i hx; exact absurd this hx
            · cases this
  · cases this
theorem ite9 {b : Bool} {x : Int} (h : (if b = true then 9 else x) = 0) : x = 0 := by
  cases b
  · exact h
  · rw [if_pos rfl] at h; exact absurd h (by decide)
theorem hs_bd {ht : Int} (h0 : 2 ≤ ht ∧ ht ≤ 5000) : ∀ (l : List Int) (p : Option Int), hsErr ht p l = 0 → ∀ n ∈ l, 1 ≤ n ∧ n < ht
  | [], _, _, n, hn => by simp at hn
  | m :: l, p, h, n, hn => by
    rw [hsErr_cons] at h
    split at h
    · rename_i hw
      rw [W_eq (by omega) (by omega), within_iff] at hw
      have h2 := ite9 h
      rcases List.mem_cons.1 hn with rfl | hn
      · omega
      · exact hs_bd h0 l _ h2 n hn
    · cases h
theorem hgt_bd {h : Hal} {s : Stg} (g : Sit h s) {j : Nat} (hj : j < h.ks.length) : 1 ≤ hgtAt h s j ∧ hgtAt h s j < h.ht := by
  obtain ⟨n, e1, e2, e3, e4⟩ := hgt_facts g.set hj
  have hm : hgtAt h s j ∈ h.ks[j].hs := by
    have := List.mem_of_getElem? e4
    simp only [nl, List.mem_map, List.cons.injEq, AV.int.injEq, true_and, and_true] at this
    obtain ⟨m, hm, rfl⟩ := this
    exact hm
  exact hs_bd g.fine.ht _ _ (can_all g.fine hj).2 _ hm
theorem rcOk_of {c : Can} (h : CanOk c) : RcOk c.rc := by
  obtain ⟨h1, h2, h3, h4, h5, h6⟩ := h
  obtain ⟨⟨e1, e2⟩, e3, e4⟩ := rc_vals c
  refine ⟨?_, ?_, ?_, ?_, ?_, ?_⟩ <;> omega
theorem plane_bd {h : Hal} {s : Stg} (g : Sit h s) {i : Int} (hi : SK h i) : (0 ≤ (planeV h s i).1 ∧ (planeV h s i).1 ≤ 4) ∧ (-10000 ≤ (planeV h s i).2 ∧ (planeV h s i).2 ≤ 10000) := by
  have ht := g.fine.ht
  cases hi with
  | wall k hk =>
    have hk2 : k < h.cs.length := by have := g.fine.le; omega
    obtain ⟨n, sx, sy, hs⟩ := g.fine.st k hk2
    rw [planeV_wall hk, plW_str hs]
    have := hs.b1
    have := hs.b2
    repeat' split
    all_goals (dsimp only; omega)
  | floor => rw [planeV_floor]; dsimp only; omega
  | ceil => rw [planeV_ceil]; dsimp only; omega
  | can j hj =>
    rw [planeV_can]
    have := hgt_bd g hj
    dsimp only; omega

/-! ### Well met: both say the same of a point in the plane -/
theorem well_eq {h : Hal} {s : Stg} (g : Sit h s) {i : Int} (hi : SK h i) {p : Pt} (hp : PtOk p.x p.y p.d) (hpl : valN (planeV h s i).1 p.x p.y p.z = (planeV h s i).2 * p.d) : wellP h i p = wellR h i p := by
  cases hi with
  | wall k hk =>
    have hk2 : k < h.cs.length := by have := g.fine.le; omega
    obtain ⟨n, sx, sy, hs⟩ := g.fine.st k hk2
    rw [planeV_wall hk] at hpl
    rw [wellP_wall hk, wellR_wall hk, lnOf_eq]
    exact wall_well hs hp g.fine.ht hpl
  | floor =>
    rw [wellP_floor, wellR_floor]
    exact inPlan_eq g.fine.st p.z hp
  | ceil =>
    rw [wellP_ceil, wellR_ceil]
    exact inPlan_eq g.fine.st p.z hp
  | can j hj =>
    rw [wellP_can hj, wellR_can hj]
    have hr := rcOk_of (can_all g.fine hj).1
    have hd : 0 < p.d ∧ p.d ≤ 1000000000000000 := by have := hp.hd; have := hp.hD; omega
    have c0 := (can_all g.fine hj).1
    generalize h.ks[j] = c at *
    obtain ⟨⟨e1, e2⟩, e3, e4⟩ := rc_vals c
    have c1 := coord_bd c0.b1 hd.1
    have c2 := coord_bd c0.b2 hd.1
    have c3 := coord_bd c0.b3 hd.1
    have c4 := coord_bd c0.b4 hd.1
    rw [Bool.eq_iff_iff, rholds_iff hr hd, e1, e2, e3, e4]
    unfold wellC inBnd
    rw [imin_eq, imin_eq, imax_eq, imax_eq, min_mul hd.1, max_mul hd.1, min_mul hd.1, max_mul hd.1]
    rw [W_eq (n := c.fx * p.d) (by omega) (by omega), W_eq (n := c.tx * p.d) (by omega) (by omega), W_eq (n := c.fy * p.d) (by omega) (by omega), W_eq (n := c.ty * p.d) (by omega) (by omega)]
    rw [W_eq (n := min (c.fx * p.d) (c.tx * p.d)) (by omega) (by omega), W_eq (n := max (c.fx * p.d) (c.tx * p.d)) (by omega) (by omega), W_eq (n := min (c.fy * p.d) (c.ty * p.d)) (by omega) (by omega), W_eq (n := max (c.fy * p.d) (c.ty * p.d)) (by omega) (by omega)]
    simp only [Bool.and_eq_true, Bool.not_eq_true', decide_eq_false_iff_not, within_iff]
    omega

/-! ### Lowest terms -/
theorem cr_raw {p : Pt} (hb : Big p) {X Y Z D : Int} (hX : X = p.x) (hY : Y = p.y) (hZ : Z = p.z) (hD : D = p.d) :
    gcds [I X, I Y] = some ⟨I (IntKind.i64.wrap ((Nat.gcd p.x.natAbs p.y.natAbs : Nat) : Int)), []⟩ ∧ gcds [I Z, I D] = some ⟨I (IntKind.i64.wrap ((Nat.gcd p.z.natAbs p.d.natAbs : Nat) : Int)), []⟩ ∧ gcds [I (IntKind.i64.wrap ((Nat.gcd p.x.natAbs p.y.natAbs : Nat) : Int)), I (IntKind.i64.wrap ((Nat.gcd p.z.natAbs p.d.natAbs : Nat) : Int))] = some ⟨I (g4 p : Int), []⟩ ∧
    IntKind.i64.wrap (X.tdiv (g4 p)) = (redP p).x ∧ IntKind.i64.wrap (Y.tdiv (g4 p)) = (redP p).y ∧ IntKind.i64.wrap (Z.tdiv (g4 p)) = (redP p).z ∧ IntKind.i64.wrap (D.tdiv (g4 p)) = (redP p).d ∧ (0 < (g4 p : Int) ∧ (g4 p : Int) ≤ 12000000000) := by
  subst hX hY hZ hD
  have hw := hb.wf
  have h3' := gcds_hit (i64_W ((Nat.gcd p.x.natAbs p.y.natAbs : Nat) : Int)) (i64_W ((Nat.gcd p.z.natAbs p.d.natAbs : Nat) : Int))
  rw [natAbs_W (gcd_le hw.x hw.y), natAbs_W (gcd_le hw.z hw.d)] at h3'
  change gcds _ = some ⟨I (IntKind.i64.wrap ((g4 p : Nat) : Int)), []⟩ at h3'
  obtain ⟨g1, ⟨r1, r2, r3, r4⟩, _, _⟩ := red_spec hb
  rw [W_eq (n := ((g4 p : Nat) : Int)) (by omega) (by omega)] at h3'
  exact ⟨gcds_hit hw.x hw.y, gcds_hit hw.z hw.d, h3', r1, r2, r3, r4, g1⟩
theorem g4_red {p : Pt} (h : Big p) : g4 (redP p) = 1 := by
  obtain ⟨⟨g1, _⟩, _, _, e1, e2, e3, e4⟩ := red_spec h
  have key : g4 p = g4 (redP p) * g4 p := by
    have hx : p.x.natAbs = (redP p).x.natAbs * g4 p := by rw [← e1, Int.natAbs_mul, Int.natAbs_natCast]
    have hy : p.y.natAbs = (redP p).y.natAbs * g4 p := by rw [← e2, Int.natAbs_mul, Int.natAbs_natCast]
    have hz : p.z.natAbs = (redP p).z.natAbs * g4 p := by rw [← e3, Int.natAbs_mul, Int.natAbs_natCast]
    have hd : p.d.natAbs = (redP p).d.natAbs * g4 p := by rw [← e4, Int.natAbs_mul, Int.natAbs_natCast]
    have : g4 p = Nat.gcd (Nat.gcd ((redP p).x.natAbs * g4 p) ((redP p).y.natAbs * g4 p)) (Nat.gcd ((redP p).z.natAbs * g4 p) ((redP p).d.natAbs * g4 p)) := by rw [← hx, ← hy, ← hz, ← hd]; rfl
    rw [Nat.gcd_mul_right, Nat.gcd_mul_right, Nat.gcd_mul_right] at this
    exact this
  have h0 : 0 < g4 p := by omega
  have : g4 (redP p) * g4 p = 1 * g4 p := by omega
  exact Nat.eq_of_mul_eq_mul_right h0 this
/-- Between two numbers, with weights. -/
theorem mean_bd {a b u v : Int} (ha : -5000 ≤ a ∧ a ≤ 5000) (hb : -5000 ≤ b ∧ b ≤ 5000) (hu : 0 ≤ u) (hv : 0 ≤ v) : -(5000 * (u + v)) ≤ a * u + b * v ∧ a * u + b * v ≤ 5000 * (u + v) := by
  have h1 := Int.mul_le_mul_of_nonneg_right ha.1 hu
  have h2 := Int.mul_le_mul_of_nonneg_right ha.2 hu
  have h3 := Int.mul_le_mul_of_nonneg_right hb.1 hv
  have h4 := Int.mul_le_mul_of_nonneg_right hb.2 hv
  omega
theorem red_bd {n g N D d : Int} (hg : 0 < g) (h1 : N * g = n) (h2 : D * g = d) (h : -(5000 * d) ≤ n ∧ n ≤ 5000 * d) : -(5000 * D) ≤ N ∧ N ≤ 5000 * D := by
  subst h1 h2
  have e : 5000 * (D * g) = 5000 * D * g := by rw [Int.mul_assoc]
  rw [e, ← Int.neg_mul] at h
  exact ⟨(le_pos hg).1 h.1, (le_pos hg).1 h.2⟩
end Go.Proofs.YtdaliaafmcjikaaGreat
