/- A part of the proof: lemmas. -/
import Derived.Test.YtjpmeaagnhojgaaGreatA1
set_option linter.unusedVariables false
set_option linter.unusedSimpArgs false
namespace Go.Proofs.YtjpmeaagnhojgaaGreat
open Go Go.Sx

/-! ### Areas -/
theorem can_ok {h : Hal} (g : h.fine) {j : Nat} (hj : j < h.ks.length) : CanOk h.ks[j] := by
  have := g.can j hj
  unfold cErrR at this
  split at this
  · split at this
    · cases this
    · split at this
      · cases this
      · split at this
        · cases this
        · split at this
          · cases this
          · split at this
            · split at this
              · split at this
                · rename_i hp
                  split at this
                  · cases this
                  · rename_i hd
                    simp only [Bool.and_eq_true] at hp
                    simp only [Bool.or_eq_true, decide_eq_true_eq, not_or] at hd
                    exact ⟨within_iff.1 hp.1.1.1, within_iff.1 hp.1.1.2, within_iff.1 hp.1.2, within_iff.1 hp.2, hd.1, hd.2⟩
                · cases this
              · rename_i hx; exact absurd this hx
            · cases this
  · cases this
theorem sq_abs {a B : Int} (h0 : -B ≤ a) (h1 : a ≤ B) : 0 ≤ a * a ∧ a * a ≤ B * B := by
  rcases Int.le_total 0 a with h | h
  · exact ⟨Int.mul_nonneg h h, sq_mono h h1⟩
  · have e : a * a = -a * -a := by rw [Int.neg_mul_neg]
    rw [e]
    exact ⟨Int.mul_nonneg (by omega) (by omega), sq_mono (by omega) (by omega)⟩
theorem mul_abs {a b A B : Int} (h0 : -A ≤ a) (h1 : a ≤ A) (g0 : -B ≤ b) (g1 : b ≤ B) : -(A * B) ≤ a * b ∧ a * b ≤ A * B := by
  have hA : 0 ≤ A := by omega
  have hB : 0 ≤ B := by omega
  have k1 : 0 ≤ (A - a) * (B + b) := Int.mul_nonneg (by omega) (by omega)
  have k2 : 0 ≤ (A + a) * (B - b) := Int.mul_nonneg (by omega) (by omega)
  have k3 : 0 ≤ (A - a) * (B - b) := Int.mul_nonneg (by omega) (by omega)
  have k4 : 0 ≤ (A + a) * (B + b) := Int.mul_nonneg (by omega) (by omega)
  have e1 : (A - a) * (B + b) = A * B + A * b - a * B - a * b := by grind
  have e2 : (A + a) * (B - b) = A * B - A * b + a * B - a * b := by grind
  have e3 : (A - a) * (B - b) = A * B - A * b - a * B + a * b := by grind
  have e4 : (A + a) * (B + b) = A * B + A * b + a * B + a * b := by grind
  omega
def BdW (w : Wl) : Prop := ((-5000 ≤ w.fx ∧ w.fx ≤ 5000) ∧ (-5000 ≤ w.fy ∧ w.fy ≤ 5000)) ∧ ((-5000 ≤ w.tx ∧ w.tx ≤ 5000) ∧ (-5000 ≤ w.ty ∧ w.ty ≤ 5000))
theorem bdW {cs : List (Int × Int)} (hb : CorOk cs) {i : Nat} (hi : i < cs.length) : BdW (wlOf cs i) := wl_bd hb hi
theorem area2_bd {w : Wl} (hw : BdW w) {n : Int} (h0 : -1000000000000 ≤ n) (h1 : n ≤ 1000000000000) : n - 50000000 ≤ area2 n w ∧ area2 n w ≤ n + 50000000 := by
  obtain ⟨⟨a1, a2⟩, a3, a4⟩ := hw
  have k1 := mul_abs a1.1 a1.2 a4.1 a4.2
  have k2 := mul_abs a3.1 a3.2 a2.1 a2.2
  unfold area2
  rw [W_eq (n := w.fx * w.ty) (by omega) (by omega), W_eq (n := w.tx * w.fy) (by omega) (by omega), W_eq (n := w.fx * w.ty - w.tx * w.fy) (by omega) (by omega), W_eq (by omega) (by omega)]
  omega
theorem foldA_bd (l : List Wl) (hw : ∀ w ∈ l, BdW w) : ∀ (n B : Int), -B ≤ n → n ≤ B → B + 50000000 * (l.length : Int) ≤ 1000000000000 → l.foldl area2 n ≤ B + 50000000 * (l.length : Int) := by
  induction l with
  | nil => intro n B h0 h1 h2; simp only [List.foldl_nil, List.length_nil]; omega
  | cons w l ih =>
    intro n B h0 h1 h2
    rw [List.foldl_cons]
    rw [List.length_cons] at h2 ⊢
    have k := area2_bd (hw w List.mem_cons_self) (n := n) (by omega) (by omega)
    have := ih (fun v hv => hw v (List.mem_cons_of_mem _ hv)) (area2 n w) (B + 50000000) (by omega) (by omega) (by omega)
    omega
theorem twArea_bd {h : Hal} (g : h.fine) : 0 < twArea h ∧ twArea h ≤ 600000000 := by
  refine ⟨g.area, ?_⟩
  have hl := g.le
  have := foldA_bd (wls h.cs) (fun w hw => by
    unfold wls at hw
    rw [List.mem_map] at hw
    obtain ⟨i, hi, rfl⟩ := hw
    exact bdW g.bd (List.mem_range.1 hi)) 0 0 (by decide) (by decide) (by rw [wls_length]; omega)
  rw [wls_length] at this
  unfold twArea
  omega
def qn (h : Hal) (k : Nat) : Int := ((wlOf h.cs k).dx * (wlOf h.cs k).dx + (wlOf h.cs k).dy * (wlOf h.cs k).dy) * h.ht * h.ht
noncomputable def cr (n : Int) : Int := if isq n * isq n < n then isq n + 1 else isq n
noncomputable def areaV (h : Hal) (i : Int) : Int × Int := if i < h.ws.length then (isq (qn h i.toNat), cr (qn h i.toNat)) else if i < (h.ws.length : Int) + 2 then (twArea h / 2, (twArea h + 1) / 2) else ((kat h i).rc.area, (kat h i).rc.area)
theorem areaV_wall {h : Hal} {k : Nat} (hk : k < h.ws.length) : areaV h k = (isq (qn h k), cr (qn h k)) := by unfold areaV; rw [if_pos (by omega)]; rfl
theorem areaV_floor {h : Hal} : areaV h h.ws.length = (twArea h / 2, (twArea h + 1) / 2) := by unfold areaV; rw [if_neg (by omega), if_pos (by omega)]
theorem areaV_ceil {h : Hal} : areaV h ((h.ws.length : Int) + 1) = (twArea h / 2, (twArea h + 1) / 2) := by unfold areaV; rw [if_neg (by omega), if_pos (by omega)]
theorem areaV_can {h : Hal} {j : Nat} (hj : j < h.ks.length) : areaV h ((h.ws.length : Int) + 2 + j) = (h.ks[j].rc.area, h.ks[j].rc.area) := by unfold areaV; rw [if_neg (by omega), if_neg (by omega), kat_eq hj]
theorem dx_bd {w : Wl} (hw : BdW w) : (-10000 ≤ w.dx ∧ w.dx ≤ 10000) ∧ (-10000 ≤ w.dy ∧ w.dy ≤ 10000) := by
  obtain ⟨⟨a1, a2⟩, a3, a4⟩ := hw
  unfold Wl.dx Wl.dy
  rw [W_eq (n := w.tx - w.fx) (by omega) (by omega), W_eq (n := w.ty - w.fy) (by omega) (by omega)]
  omega
/-- The steps of the product, without roundings. -/
theorem qn_bd {h : Hal} (g : h.fine) {k : Nat} (hk : k < h.cs.length) :
    0 ≤ qn h k ∧ qn h k ≤ 5000000000000000 ∧ IntKind.i64.wrap (IntKind.i64.wrap (IntKind.i64.wrap (IntKind.i64.wrap ((wlOf h.cs k).dx * (wlOf h.cs k).dx) + IntKind.i64.wrap ((wlOf h.cs k).dy * (wlOf h.cs k).dy)) * h.ht) * h.ht) = qn h k := by
  have hb := dx_bd (bdW g.bd hk)
  have ht := g.ht
  unfold qn
  generalize (wlOf h.cs k).dx = x at *
  generalize (wlOf h.cs k).dy = y at *
  generalize h.ht = t at *
  have k1 := sq_abs hb.1.1 hb.1.2
  have k2 := sq_abs hb.2.1 hb.2.2
  rw [W_eq (n := x * x) (by omega) (by omega), W_eq (n := y * y) (by omega) (by omega), W_eq (n := x * x + y * y) (by omega) (by omega)]
  have k3 : 0 ≤ x * x + y * y ∧ x * x + y * y ≤ 200000000 := by omega
  generalize x * x + y * y = s at *
  have k4 := mul_abs (a := s) (b := t) (A := 200000000) (B := 5000) (by omega) (by omega) (by omega) (by omega)
  have k5 : 0 ≤ s * t := Int.mul_nonneg (by omega) (by omega)
  rw [W_eq (n := s * t) (by omega) (by omega)]
  generalize s * t = u at *
  have k6 := mul_abs (a := u) (b := t) (A := 1000000000000) (B := 5000) (by omega) (by omega) (by omega) (by omega)
  have k7 : 0 ≤ u * t := Int.mul_nonneg (by omega) (by omega)
  rw [W_eq (n := u * t) (by omega) (by omega)]
  exact ⟨k7, by omega, rfl⟩
theorem rc_area {c : Can} (hc : CanOk c) : (0 ≤ c.rc.area ∧ c.rc.area ≤ 100000000) ∧ IntKind.i64.wrap (size (IntKind.i64.wrap (c.tx - c.fx)) * size (IntKind.i64.wrap (c.ty - c.fy))) = c.rc.area := by
  obtain ⟨⟨e1, e2⟩, e3, e4⟩ := rc_vals c
  obtain ⟨b1, b2, b3, b4, hx, hy⟩ := hc
  have s1 : size (IntKind.i64.wrap (c.tx - c.fx)) = c.rc.xh - c.rc.xl := by
    rw [W_eq (n := c.tx - c.fx) (by omega) (by omega)]
    unfold size imax
    rw [W_eq (by omega) (by omega)]
    by_cases hh : c.tx - c.fx < 0 - (c.tx - c.fx)
    · rw [decide_eq_true hh, cond_true]; omega
    · rw [decide_eq_false hh, cond_false]; omega
  have s2 : size (IntKind.i64.wrap (c.ty - c.fy)) = c.rc.yh - c.rc.yl := by
    rw [W_eq (n := c.ty - c.fy) (by omega) (by omega)]
    unfold size imax
    rw [W_eq (by omega) (by omega)]
    by_cases hh : c.ty - c.fy < 0 - (c.ty - c.fy)
    · rw [decide_eq_true hh, cond_true]; omega
    · rw [decide_eq_false hh, cond_false]; omega
  rw [s1, s2]
  unfold Rc.area
  rw [W_eq (n := c.rc.xh - c.rc.xl) (by omega) (by omega), W_eq (n := c.rc.yh - c.rc.yl) (by omega) (by omega)]
  have k1 := mul_abs (a := c.rc.xh - c.rc.xl) (b := c.rc.yh - c.rc.yl) (A := 10000) (B := 10000) (by omega) (by omega) (by omega) (by omega)
  have k2 : 0 ≤ (c.rc.xh - c.rc.xl) * (c.rc.yh - c.rc.yl) := Int.mul_nonneg (by omega) (by omega)
  refine ⟨?_, rfl⟩
  rw [W_eq (by omega) (by omega)]
  omega
theorem fl_cases {n b : Int} (hb : 0 < b) : (n.tmod b < 0 ∧ n / b = n.tdiv b - 1) ∨ (¬ n.tmod b < 0 ∧ n / b = n.tdiv b) := by
  have e1 := Int.tmod_add_mul_tdiv n b
  have e2 := Int.tmod_lt_of_pos n hb
  have e3 := Int.lt_tmod_of_pos n hb
  by_cases h : n.tmod b < 0
  · exact .inl ⟨h, ((Int.ediv_emod_unique hb (r := n.tmod b + b)).2 ⟨by rw [Int.mul_sub]; omega, by omega, by omega⟩).1⟩
  · exact .inr ⟨h, ((Int.ediv_emod_unique hb (r := n.tmod b)).2 ⟨by omega, by omega, by omega⟩).1⟩
set_option maxHeartbeats 4000000 in
theorem c90 {n b : Int} (hb : 0 < b) (h0 : -9223372036854775807 ≤ n) (h1 : n ≤ 9223372036854775807) : PCall Tryz.prog 90 [I n, I b] ⟨I (n / b), []⟩ := by
  have hq := Int.natAbs_tdiv_le_natAbs n b
  have e : IntKind.i64.wrap (n.tdiv b) = n.tdiv b := W_eq (by omega) (by omega)
  have hm : IntKind.i64.wrap (n.tmod b) = n.tmod b := by
    have := Int.tmod_lt_of_pos n hb
    have e3 := Int.lt_tmod_of_pos n hb
    have e4 : (n.tmod b).natAbs ≤ n.natAbs := by rw [Int.natAbs_tmod]; exact Nat.mod_le _ _
    exact W_eq (by omega) (by omega)
  have hz : ¬ b = 0 := by omega
  refine bs.pv (sx := nos) pt0_ok Tryz.func90 (by kernel_rfl) (by kernel_rfl) rfl ?_
  rcases fl_cases (n := n) hb with ⟨c1, c2⟩ | ⟨c1, c2⟩
  · have e5 : IntKind.i64.wrap (n.tdiv b - 1) = n.tdiv b - 1 := W_eq (by omega) (by omega)
    rw [c2]
    repeat' (first | refine wk1 ?_ | (refine wk2 ?_ ?_ <;> intro _) | refine wk4 ?_ | fail); all_goals (conv => whnf)
    all_goals exact ret_int (by rw [e, e5])
  · rw [c2]
    repeat' (first | refine wk1 ?_ | (refine wk2 ?_ ?_ <;> intro _) | refine wk4 ?_ | fail); all_goals (conv => whnf)
    all_goals exact ret_int (by omega)
set_option maxHeartbeats 4000000 in
theorem c91 {n b : Int} (hb : 0 < b) (h0 : -9223372036854775807 ≤ n) (h1 : n ≤ 9223372036854775807) : PCall Tryz.prog 91 [I n, I b] ⟨I (-((-n) / b)), []⟩ := by
  have e1 : IntKind.i64.wrap (0 - n) = -n := by rw [W_eq (by omega) (by omega)]; omega
  have hk := one_ok (c90 (n := -n) hb (by omega) (by omega)) pt0_ok
  rw [← e1] at hk
  refine bs.pv (sx := nos) hk Tryz.func91 (by kernel_rfl) (by kernel_rfl) rfl ?_
  have hq : (-n / b).natAbs ≤ (-n).natAbs := Int.natAbs_ediv_le_natAbs _ _
  repeat' (first | refine wk1 ?_ | (refine wk2 ?_ ?_ <;> intro _) | refine wk4 ?_ | fail); all_goals (conv => whnf)
  rw [e1]
  exact ret_int (by rw [W_eq (by omega) (by omega)]; omega)
end Go.Proofs.YtjpmeaagnhojgaaGreat
