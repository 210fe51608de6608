/- A part of the proof: lemmas. -/
import Derived.Test.YtdaliaafmcjikaaGreatZw10
import Derived.Test.YtdaliaafmcjikaaGreatZx7
import Derived.Test.YtdaliaafmcjikaaGreatZx6
import Derived.Test.YtdaliaafmcjikaaGreatRows
set_option linter.unusedVariables false
set_option linter.unusedSimpArgs false
namespace Go.Proofs.YtdaliaafmcjikaaGreat
open Go Go.Sx

/-! ### Whole roots -/
theorem sq_ex (n : Nat) : ∃ r, r * r ≤ n ∧ n < (r + 1) * (r + 1) := by
  induction n with
  | zero => exact ⟨0, by decide, by decide⟩
  | succ n ih =>
    obtain ⟨r, h1, h2⟩ := ih
    by_cases h : (r + 1) * (r + 1) ≤ n + 1
    · refine ⟨r + 1, h, ?_⟩
      have : (r + 1 + 1) * (r + 1 + 1) = (r + 1) * (r + 1) + 2 * (r + 1) + 1 := by grind
      omega
    · exact ⟨r, by omega, by omega⟩
noncomputable def isq (n : Int) : Int := (Classical.choose (sq_ex n.toNat) : Nat)
theorem isq_spec {n : Int} (h : 0 ≤ n) : 0 ≤ isq n ∧ isq n * isq n ≤ n ∧ n < (isq n + 1) * (isq n + 1) := by
  obtain ⟨h1, h2⟩ := Classical.choose_spec (sq_ex n.toNat)
  unfold isq
  generalize Classical.choose (sq_ex n.toNat) = r at *
  refine ⟨by omega, ?_, ?_⟩
  · have : ((r * r : Nat) : Int) ≤ (n.toNat : Int) := by exact_mod_cast h1
    rw [Int.natCast_mul] at this; omega
  · have : ((n.toNat : Nat) : Int) < (((r + 1) * (r + 1) : Nat) : Int) := by exact_mod_cast h2
    rw [Int.natCast_mul] at this
    have e : ((r + 1 : Nat) : Int) = (r : Int) + 1 := by omega
    rw [e] at this; omega
theorem sq_mono {a b : Int} (ha : 0 ≤ a) (h : a ≤ b) : a * a ≤ b * b := Int.mul_le_mul h h ha (by omega)
theorem sq_lt {a b : Int} (hb : 0 ≤ b) (h : a * a < b * b) (ha : 0 ≤ a) : a < b := by
  rcases Int.lt_or_le a b with h1 | h1
  · exact h1
  · have := sq_mono hb h1; omega
theorem isq_unique {n r : Int} (h0 : 0 ≤ n) (hr : 0 ≤ r) (h1 : r * r ≤ n) (h2 : n < (r + 1) * (r + 1)) : r = isq n := by
  obtain ⟨g0, g1, g2⟩ := isq_spec h0
  have a1 := sq_lt (a := r) (b := isq n + 1) (by omega) (by omega) hr
  have a2 := sq_lt (a := isq n) (b := r + 1) (by omega) (by omega) g0
  omega
theorem sq_bd {r B : Int} (h0 : 0 ≤ r) (h1 : r ≤ B) : 0 ≤ r * r ∧ r * r ≤ B * B := ⟨Int.mul_nonneg h0 h0, sq_mono h0 h1⟩
theorem conv_int {y : Nat} {r : Int} (h : floatToIntVal .f64 y .i64 = some r) : convFAV (tget tbl) 275 3 (.flt .f64 y) = some (I r) := by
  unfold floatToIntVal at h
  show (match (FloatKind.f64.decode y).toInt .zero with
    | some n => cond (decide (IntKind.i64.min ≤ n ∧ n ≤ IntKind.i64.max)) (some (AV.int .i64 n)) none
    | none => none) = _
  split at h
  · rename_i n hn
    rw [hn]
    dsimp only
    split at h
    · rename_i hr
      cases h
      rw [decide_eq_true hr]; rfl
    · cases h
  · cases h
def bk : Nat → Int
  | 0 => 0
  | k + 1 => ((2 ^ k : Nat) : Int)
theorem bk_half (k : Nat) : IntKind.i64.wrap ((bk (k + 1)).tdiv 2) = bk k ∨ 62 ≤ k := by
  by_cases hk : 62 ≤ k
  · exact .inr hk
  refine .inl ?_
  have hb : 2 ^ k ≤ 2 ^ 62 := Nat.pow_le_pow_right (by decide) (by omega)
  unfold bk
  cases k with
  | zero => decide
  | succ k =>
    dsimp only
    have e : ((2 ^ (k + 1) : Nat) : Int).tdiv 2 = ((2 ^ k : Nat) : Int) := by
      rw [Int.tdiv_eq_ediv_of_nonneg (Int.natCast_nonneg _)]
      rw [Nat.pow_succ]; omega
    rw [e]
    rw [Nat.pow_succ] at hb
    have h1 : (0 : Int) ≤ ((2 ^ k : Nat) : Int) := Int.natCast_nonneg _
    exact W_eq (by omega) (by omega)
set_option maxRecDepth 100000 in
set_option maxHeartbeats 8000000 in
theorem c126 {n : Int} (h0 : 0 ≤ n) (h1 : n < 9007199254740992) : PCall Tryz.prog 107 [I n] ⟨I (isq n), []⟩ := by
  refine bs.pv (sx := nos) pt0_ok Tryz.func107 (by kernel_rfl) (by kernel_rfl) rfl ?_
  conv => whnf
  refine loopV (S := Nat × Int) (fun t => t.1) (fun t => [(0, I n), (3, I t.2), (4, I (bk t.1))]) (fun _ => []) 0 0 (fun t => t.1 ≤ 31 ∧ 0 ≤ t.2 ∧ t.2 * t.2 ≤ n ∧ n < (t.2 + ((2 ^ t.1 : Nat) : Int)) * (t.2 + ((2 ^ t.1 : Nat) : Int))) (31, 0) ⟨by decide, by decide, by simpa using h0, by
    have : ((0 : Int) + ((2 ^ 31 : Nat) : Int)) * (0 + ((2 ^ 31 : Nat) : Int)) = 4611686018427387904 := by decide
    show n < ((0 : Int) + ((2 ^ 31 : Nat) : Int)) * (0 + ((2 ^ 31 : Nat) : Int))
    omega⟩ (Nat.le_refl _) [] rfl (kps) (kps) ?_
  rintro ⟨k, r⟩ ⟨g0, g1, g2, g3⟩
  dsimp only at g0 g1 g2 g3 ⊢
  have g4 : r < 94906267 := sq_lt (by omega) (by omega) g1
  refine bs.av (sx := nos) pt0_ok ?_
  cases k with
  | zero =>
    repeat' (first | refine wk1 ?_ | (refine wk2 ?_ ?_ <;> intro _) | refine wk4 ?_ | fail); all_goals (conv => whnf)
    exact ret_int (isq_unique h0 g1 g2 (by simpa using g3))
  | succ k =>
    have hb : 2 ^ k ≤ 2 ^ 30 := Nat.pow_le_pow_right (by decide) (by omega)
    have hp : 0 < 2 ^ k := Nat.pow_pos (by decide)
    have hh : IntKind.i64.wrap ((bk (k + 1)).tdiv 2) = bk k := (bk_half k).resolve_right (by omega)
    have hk1 : bk (k + 1) = ((2 ^ k : Nat) : Int) := rfl
    have e2 : ((2 ^ (k + 1) : Nat) : Int) = 2 * ((2 ^ k : Nat) : Int) := by rw [Nat.pow_succ]; omega
    rw [e2] at g3
    rw [hk1] at hh ⊢
    generalize hbk : ((2 ^ k : Nat) : Int) = b at *
    have hb' : 0 < b ∧ b ≤ 1073741824 := by omega
    have hw1 : IntKind.i64.wrap (r + b) = r + b := W_eq (by omega) (by omega)
    have hq := sq_bd (r := r + b) (B := 1168648091) (by omega) (by omega)
    have hw2 : IntKind.i64.wrap (IntKind.i64.wrap (r + b) * IntKind.i64.wrap (r + b)) = (r + b) * (r + b) := by rw [hw1]; exact W_eq (by omega) (by omega)
    by_cases hc : (r + b) * (r + b) ≤ n
    · repeat' (first | refine wk1 ?_ | (refine wk2 ?_ ?_ <;> intro _) | refine wk4 ?_ | fail); all_goals (conv => whnf)
      exact Done.mk ⟨(k, IntKind.i64.wrap (r + b)), [], rfl, by rw [← hh]; exact kps, kps, ⟨by omega, by dsimp only; omega, by dsimp only; rw [hw1]; exact hc, by
        dsimp only
        rw [hw1]
        have : r + b + b = r + 2 * b := by omega
        rw [hbk, this]; exact g3⟩, by dsimp only; omega⟩
    · repeat' (first | refine wk1 ?_ | (refine wk2 ?_ ?_ <;> intro _) | refine wk4 ?_ | fail); all_goals (conv => whnf)
      exact Done.mk ⟨(k, r), [], rfl, by rw [← hh]; exact kps, kps, ⟨by omega, g1, g2, by dsimp only; rw [hbk]; omega⟩, by dsimp only; omega⟩
set_option maxHeartbeats 4000000 in
theorem c127 {n : Int} (h0 : 0 ≤ n) (h1 : n < 9007199254740992) : PCall Tryz.prog 108 [I n] ⟨I (if isq n * isq n < n then isq n + 1 else isq n), []⟩ := by
  obtain ⟨g1, g2, g3⟩ := isq_spec h0
  have g4 : isq n < 94906267 := sq_lt (by omega) (by omega) g1
  have hb := sq_bd g1 (show isq n ≤ 94906267 by omega)
  have hw : IntKind.i64.wrap (isq n * isq n) = isq n * isq n := W_eq (by omega) (by omega)
  have hw2 : IntKind.i64.wrap (isq n + 1) = isq n + 1 := W_eq (by omega) (by omega)
  refine bs.pv (sx := nos) (one_ok (c126 h0 h1) pt0_ok) Tryz.func108 (by kernel_rfl) (by kernel_rfl) rfl ?_
  by_cases hc : isq n * isq n < n
  · rw [if_pos hc]
    repeat' (first | refine wk1 ?_ | (refine wk2 ?_ ?_ <;> intro _) | refine wk4 ?_ | fail); all_goals (conv => whnf)
    exact ret_int hw2
  · rw [if_neg hc]
    repeat' (first | refine wk1 ?_ | (refine wk2 ?_ ?_ <;> intro _) | refine wk4 ?_ | fail); all_goals (conv => whnf)
    exact ret_int rfl
end Go.Proofs.YtdaliaafmcjikaaGreat
namespace Go.Proofs.YtdaliaafmcjikaaGreat
open Go Go.Sx

/-! ### Areas -/
theorem can_ok {h : Hal} (g : h.fine) {j : Nat} (hj : j < h.ks.length) : CanOk h.ks[j] := by
  have := g.can j hj
  unfold cErrR at this
  split at this
  · split at this
    · cases this
    · split at this
      · cases this
      · split at this
        · cases this
        · split at this
          · cases this
          · split at this
            · split at this
              · split at this
                · rename_i hp
                  split at this
                  · cases this
                  · rename_i hd
                    simp only [Bool.and_eq_true] at hp
                    simp only [Bool.or_eq_true, decide_eq_true_eq, not_or] at hd
                    exact ⟨within_iff.1 hp.1.1.1, within_iff.1 hp.1.1.2, within_iff.1 hp.1.2, within_iff.1 hp.2, hd.1, hd.2⟩
                · cases this
              · rename_i hx; exact absurd this hx
            · cases this
  · cases this
theorem sq_abs {a B : Int} (h0 : -B ≤ a) (h1 : a ≤ B) : 0 ≤ a * a ∧ a * a ≤ B * B := by
  rcases Int.le_total 0 a with h | h
  · exact ⟨Int.mul_nonneg h h, sq_mono h h1⟩
  · have e : a * a = -a * -a := by rw [Int.neg_mul_neg]
    rw [e]
    exact ⟨Int.mul_nonneg (by omega) (by omega), sq_mono (by omega) (by omega)⟩
theorem mul_abs {a b A B : Int} (h0 : -A ≤ a) (h1 : a ≤ A) (g0 : -B ≤ b) (g1 : b ≤ B) : -(A * B) ≤ a * b ∧ a * b ≤ A * B := by
  have hA : 0 ≤ A := by omega
  have hB : 0 ≤ B := by omega
  have k1 : 0 ≤ (A - a) * (B + b) := Int.mul_nonneg (by omega) (by omega)
  have k2 : 0 ≤ (A + a) * (B - b) := Int.mul_nonneg (by omega) (by omega)
  have k3 : 0 ≤ (A - a) * (B - b) := Int.mul_nonneg (by omega) (by omega)
  have k4 : 0 ≤ (A + a) * (B + b) := Int.mul_nonneg (by omega) (by omega)
  have e1 : (A - a) * (B + b) = A * B + A * b - a * B - a * b := by grind
  have e2 : (A + a) * (B - b) = A * B - A * b + a * B - a * b := by grind
  have e3 : (A - a) * (B - b) = A * B - A * b - a * B + a * b := by grind
  have e4 : (A + a) * (B + b) = A * B + A * b + a * B + a * b := by grind
  omega
def BdW (w : Wl) : Prop := ((-5000 ≤ w.fx ∧ w.fx ≤ 5000) ∧ (-5000 ≤ w.fy ∧ w.fy ≤ 5000)) ∧ ((-5000 ≤ w.tx ∧ w.tx ≤ 5000) ∧ (-5000 ≤ w.ty ∧ w.ty ≤ 5000))
theorem bdW {cs : List (Int × Int)} (hb : CorOk cs) {i : Nat} (hi : i < cs.length) : BdW (wlOf cs i) := wl_bd hb hi
theorem area2_bd {w : Wl} (hw : BdW w) {n : Int} (h0 : -1000000000000 ≤ n) (h1 : n ≤ 1000000000000) : n - 50000000 ≤ area2 n w ∧ area2 n w ≤ n + 50000000 := by
  obtain ⟨⟨a1, a2⟩, a3, a4⟩ := hw
  have k1 := mul_abs a1.1 a1.2 a4.1 a4.2
  have k2 := mul_abs a3.1 a3.2 a2.1 a2.2
  unfold area2
  rw [W_eq (n := w.fx * w.ty) (by omega) (by omega), W_eq (n := w.tx * w.fy) (by omega) (by omega), W_eq (n := w.fx * w.ty - w.tx * w.fy) (by omega) (by omega), W_eq (by omega) (by omega)]
  omega
theorem foldA_bd (l : List Wl) (hw : ∀ w ∈ l, BdW w) : ∀ (n B : Int), -B ≤ n → n ≤ B → B + 50000000 * (l.length : Int) ≤ 1000000000000 → l.foldl area2 n ≤ B + 50000000 * (l.length : Int) := by
  induction l with
  | nil => intro n B h0 h1 h2; simp only [List.foldl_nil, List.length_nil]; omega
  | cons w l ih =>
    intro n B h0 h1 h2
    rw [List.foldl_cons]
    rw [List.length_cons] at h2 ⊢
    have k := area2_bd (hw w List.mem_cons_self) (n := n) (by omega) (by omega)
    have := ih (fun v hv => hw v (List.mem_cons_of_mem _ hv)) (area2 n w) (B + 50000000) (by omega) (by omega) (by omega)
    omega
theorem twArea_bd {h : Hal} (g : h.fine) : 0 < twArea h ∧ twArea h ≤ 600000000 := by
  refine ⟨g.area, ?_⟩
  have hl := g.le
  have := foldA_bd (wls h.cs) (fun w hw => by
    unfold wls at hw
    rw [List.mem_map] at hw
    obtain ⟨i, hi, rfl⟩ := hw
    exact bdW g.bd (List.mem_range.1 hi)) 0 0 (by decide) (by decide) (by rw [wls_length]; omega)
  rw [wls_length] at this
  unfold twArea
  omega
def qn (h : Hal) (k : Nat) : Int := ((wlOf h.cs k).dx * (wlOf h.cs k).dx + (wlOf h.cs k).dy * (wlOf h.cs k).dy) * h.ht * h.ht
noncomputable def cr (n : Int) : Int := if isq n * isq n < n then isq n + 1 else isq n
noncomputable def areaV (h : Hal) (i : Int) : Int × Int := if i < h.ws.length then (isq (qn h i.toNat), cr (qn h i.toNat)) else if i < (h.ws.length : Int) + 2 then (twArea h / 2, (twArea h + 1) / 2) else ((kat h i).rc.area, (kat h i).rc.area)
theorem areaV_wall {h : Hal} {k : Nat} (hk : k < h.ws.length) : areaV h k = (isq (qn h k), cr (qn h k)) := by unfold areaV; rw [if_pos (by omega)]; rfl
theorem areaV_floor {h : Hal} : areaV h h.ws.length = (twArea h / 2, (twArea h + 1) / 2) := by unfold areaV; rw [if_neg (by omega), if_pos (by omega)]
theorem areaV_ceil {h : Hal} : areaV h ((h.ws.length : Int) + 1) = (twArea h / 2, (twArea h + 1) / 2) := by unfold areaV; rw [if_neg (by omega), if_pos (by omega)]
theorem areaV_can {h : Hal} {j : Nat} (hj : j < h.ks.length) : areaV h ((h.ws.length : Int) + 2 + j) = (h.ks[j].rc.area, h.ks[j].rc.area) := by unfold areaV; rw [if_neg (by omega), if_neg (by omega), kat_eq hj]
theorem dx_bd {w : Wl} (hw : BdW w) : (-10000 ≤ w.dx ∧ w.dx ≤ 10000) ∧ (-10000 ≤ w.dy ∧ w.dy ≤ 10000) := by
  obtain ⟨⟨a1, a2⟩, a3, a4⟩ := hw
  unfold Wl.dx Wl.dy
  rw [W_eq (n := w.tx - w.fx) (by omega) (by omega), W_eq (n := w.ty - w.fy) (by omega) (by omega)]
  omega
/-- The steps of the product, without roundings. -/
theorem qn_bd {h : Hal} (g : h.fine) {k : Nat} (hk : k < h.cs.length) :
    0 ≤ qn h k ∧ qn h k ≤ 5000000000000000 ∧ IntKind.i64.wrap (IntKind.i64.wrap (IntKind.i64.wrap (IntKind.i64.wrap ((wlOf h.cs k).dx * (wlOf h.cs k).dx) + IntKind.i64.wrap ((wlOf h.cs k).dy * (wlOf h.cs k).dy)) * h.ht) * h.ht) = qn h k := by
  have hb := dx_bd (bdW g.bd hk)
  have ht := g.ht
  unfold qn
  generalize (wlOf h.cs k).dx = x at *
  generalize (wlOf h.cs k).dy = y at *
  generalize h.ht = t at *
  have k1 := sq_abs hb.1.1 hb.1.2
  have k2 := sq_abs hb.2.1 hb.2.2
  rw [W_eq (n := x * x) (by omega) (by omega), W_eq (n := y * y) (by omega) (by omega), W_eq (n := x * x + y * y) (by omega) (by omega)]
  have k3 : 0 ≤ x * x + y * y ∧ x * x + y * y ≤ 200000000 := by omega
  generalize x * x + y * y = s at *
  have k4 := mul_abs (a := s) (b := t) (A := 200000000) (B := 5000) (by omega) (by omega) (by omega) (by omega)
  have k5 : 0 ≤ s * t := Int.mul_nonneg (by omega) (by omega)
  rw [W_eq (n := s * t) (by omega) (by omega)]
  generalize s * t = u at *
  have k6 := mul_abs (a := u) (b := t) (A := 1000000000000) (B := 5000) (by omega) (by omega) (by omega) (by omega)
  have k7 : 0 ≤ u * t := Int.mul_nonneg (by omega) (by omega)
  rw [W_eq (n := u * t) (by omega) (by omega)]
  exact ⟨k7, by omega, rfl⟩
theorem rc_area {c : Can} (hc : CanOk c) : (0 ≤ c.rc.area ∧ c.rc.area ≤ 100000000) ∧ IntKind.i64.wrap (size (IntKind.i64.wrap (c.tx - c.fx)) * size (IntKind.i64.wrap (c.ty - c.fy))) = c.rc.area := by
  obtain ⟨⟨e1, e2⟩, e3, e4⟩ := rc_vals c
  obtain ⟨b1, b2, b3, b4, hx, hy⟩ := hc
  have s1 : size (IntKind.i64.wrap (c.tx - c.fx)) = c.rc.xh - c.rc.xl := by
    rw [W_eq (n := c.tx - c.fx) (by omega) (by omega)]
    unfold size imax
    rw [W_eq (by omega) (by omega)]
    by_cases hh : c.tx - c.fx < 0 - (c.tx - c.fx)
    · rw [decide_eq_true hh, cond_true]; omega
    · rw [decide_eq_false hh, cond_false]; omega
  have s2 : size (IntKind.i64.wrap (c.ty - c.fy)) = c.rc.yh - c.rc.yl := by
    rw [W_eq (n := c.ty - c.fy) (by omega) (by omega)]
    unfold size imax
    rw [W_eq (by omega) (by omega)]
    by_cases hh : c.ty - c.fy < 0 - (c.ty - c.fy)
    · rw [decide_eq_true hh, cond_true]; omega
    · rw [decide_eq_false hh, cond_false]; omega
  rw [s1, s2]
  unfold Rc.area
  rw [W_eq (n := c.rc.xh - c.rc.xl) (by omega) (by omega), W_eq (n := c.rc.yh - c.rc.yl) (by omega) (by omega)]
  have k1 := mul_abs (a := c.rc.xh - c.rc.xl) (b := c.rc.yh - c.rc.yl) (A := 10000) (B := 10000) (by omega) (by omega) (by omega) (by omega)
  have k2 : 0 ≤ (c.rc.xh - c.rc.xl) * (c.rc.yh - c.rc.yl) := Int.mul_nonneg (by omega) (by omega)
  refine ⟨?_, rfl⟩
  rw [W_eq (by omega) (by omega)]
  omega
theorem fl_cases {n b : Int} (hb : 0 < b) : (n.tmod b < 0 ∧ n / b = n.tdiv b - 1) ∨ (¬ n.tmod b < 0 ∧ n / b = n.tdiv b) := by
  have e1 := Int.tmod_add_mul_tdiv n b
  have e2 := Int.tmod_lt_of_pos n hb
  have e3 := Int.lt_tmod_of_pos n hb
  by_cases h : n.tmod b < 0
  · exact .inl ⟨h, ((Int.ediv_emod_unique hb (r := n.tmod b + b)).2 ⟨by rw [Int.mul_sub]; omega, by omega, by omega⟩).1⟩
  · exact .inr ⟨h, ((Int.ediv_emod_unique hb (r := n.tmod b)).2 ⟨by omega, by omega, by omega⟩).1⟩
set_option maxHeartbeats 4000000 in
theorem c90 {n b : Int} (hb : 0 < b) (h0 : -9223372036854775807 ≤ n) (h1 : n ≤ 9223372036854775807) : PCall Tryz.prog 109 [I n, I b] ⟨I (n / b), []⟩ := by
  have hq := Int.natAbs_tdiv_le_natAbs n b
  have e : IntKind.i64.wrap (n.tdiv b) = n.tdiv b := W_eq (by omega) (by omega)
  have hm : IntKind.i64.wrap (n.tmod b) = n.tmod b := by
    have := Int.tmod_lt_of_pos n hb
    have e3 := Int.lt_tmod_of_pos n hb
    have e4 : (n.tmod b).natAbs ≤ n.natAbs := by rw [Int.natAbs_tmod]; exact Nat.mod_le _ _
    exact W_eq (by omega) (by omega)
  have hz : ¬ b = 0 := by omega
  refine bs.pv (sx := nos) pt0_ok Tryz.func109 (by kernel_rfl) (by kernel_rfl) rfl ?_
  rcases fl_cases (n := n) hb with ⟨c1, c2⟩ | ⟨c1, c2⟩
  · have e5 : IntKind.i64.wrap (n.tdiv b - 1) = n.tdiv b - 1 := W_eq (by omega) (by omega)
    rw [c2]
    repeat' (first | refine wk1 ?_ | (refine wk2 ?_ ?_ <;> intro _) | refine wk4 ?_ | fail); all_goals (conv => whnf)
    all_goals exact ret_int (by rw [e, e5])
  · rw [c2]
    repeat' (first | refine wk1 ?_ | (refine wk2 ?_ ?_ <;> intro _) | refine wk4 ?_ | fail); all_goals (conv => whnf)
    all_goals exact ret_int (by omega)
set_option maxHeartbeats 4000000 in
theorem c91 {n b : Int} (hb : 0 < b) (h0 : -9223372036854775807 ≤ n) (h1 : n ≤ 9223372036854775807) : PCall Tryz.prog 110 [I n, I b] ⟨I (-((-n) / b)), []⟩ := by
  have e1 : IntKind.i64.wrap (0 - n) = -n := by rw [W_eq (by omega) (by omega)]; omega
  have hk := one_ok (c90 (n := -n) hb (by omega) (by omega)) pt0_ok
  rw [← e1] at hk
  refine bs.pv (sx := nos) hk Tryz.func110 (by kernel_rfl) (by kernel_rfl) rfl ?_
  have hq : (-n / b).natAbs ≤ (-n).natAbs := Int.natAbs_ediv_le_natAbs _ _
  repeat' (first | refine wk1 ?_ | (refine wk2 ?_ ?_ <;> intro _) | refine wk4 ?_ | fail); all_goals (conv => whnf)
  rw [e1]
  exact ret_int (by rw [W_eq (by omega) (by omega)]; omega)
end Go.Proofs.YtdaliaafmcjikaaGreat
namespace Go.Proofs.YtdaliaafmcjikaaGreat
open Go Go.Sx
/-! ### Corners that are seen -/
theorem d87 (a b c d : Int) : PCall Tryz.prog 87 [P2 a b, P2 c d] ⟨P2 (IntKind.i64.wrap (c - a)) (IntKind.i64.wrap (d - b)), []⟩ := by
  refine bs.pv (sx := nos) pt0_ok Tryz.func87 (by kernel_rfl) (by kernel_rfl) rfl ?_
  repeat' (first | refine wk3 ?_ | (refine wk2 ?_ ?_ <;> intro _) | refine wk4 ?_ | fail); all_goals (conv => whnf)
  exact ret_of rfl rfl
def seenX (ax ay : Int) (vis : Int × Int → Bool) : List (Int × Int) → List (List AV)
  | [] => []
  | p :: l => if p.1 = ax ∧ p.2 = ay then seenX ax ay vis l else if vis p = true then [P2 (IntKind.i64.wrap (p.1 - ax)) (IntKind.i64.wrap (p.2 - ay))] :: seenX ax ay vis l else seenX ax ay vis l
theorem seenX_cons (ax ay : Int) (vis : Int × Int → Bool) (p : Int × Int) (l : List (Int × Int)) : seenX ax ay vis (p :: l) = if p.1 = ax ∧ p.2 = ay then seenX ax ay vis l else if vis p = true then [P2 (IntKind.i64.wrap (p.1 - ax)) (IntKind.i64.wrap (p.2 - ay))] :: seenX ax ay vis l else seenX ax ay vis l := rfl
def rFr : List AV → Option PRes
  | [.agg [.int .i64 a, .int .i64 b], .agg [.int .i64 c, .int .i64 d]] => some ⟨P2 (IntKind.i64.wrap (c - a)) (IntKind.i64.wrap (d - b)), []⟩
  | _ => none
/-- A list, or none. -/
def LN (es : Nat) (a : AV) : Prop := a = .nils ∨ ∃ L, a = .isl es L
structure Pl where
  nm : ByteArray
  ht : Int
  fl : ByteArray
  ce : ByteArray
  ms : List (List AV)
  ps : List (Int × Int)
  wa : List (List AV)
  ca : AV
  se : AV
abbrev Pl.c (p : Pl) : List AV := [.str p.nm, I p.ht, .str p.fl, .str p.ce, .isl 6 p.ms, .isl 2 (p.ps.map pt), .isl 3 p.wa, p.ca, p.se]
abbrev rayA (ax ay dx dy last : Int) : AV := .agg [I ax, I ay, I dx, I dy, I last]
set_option maxHeartbeats 4000000 in
theorem it279 {q : Pl} (h1 : LN 7 q.ca) (h2 : LN 4 q.se) (hn : q.ps.length < 1000) (ax ay last : Int) (bB bA : Int × Int → Bool)
    (hB : ∀ p ∈ q.ps, PCall Tryz.prog 250 [.agg q.c, rayA ax ay (IntKind.i64.wrap (p.1 - ax)) (IntKind.i64.wrap (p.2 - ay)) last, P2 1 1] ⟨Bo (bB p), []⟩)
    (hA : ∀ p ∈ q.ps, PCall Tryz.prog 280 [.agg q.c, rayA ax ay (IntKind.i64.wrap (p.1 - ax)) (IntKind.i64.wrap (p.2 - ay)) last, P2 1 1] ⟨Bo (bA p), []⟩) :
    ItOK Tryz.prog 279 [] [.ipt q.c, .ipt [I ax, I ay], .ipt [I last]] (seenX ax ay (fun p => bB p && !bA p) q.ps) := by
  obtain ⟨nm, ht, fl, ce, ms, ps, wa, ca, se⟩ := q
  dsimp only at h1 h2 hn hB hA ⊢
  have l1 : (ps.map pt).length = ps.length := by simp
  refine bs.yiter (sx := nos) pt0_ok Tryz.func279 (by kernel_rfl) rfl (by kernel_rfl) fun B Ig l JX hI => ?_
  rcases h1 with rfl | ⟨L1, rfl⟩ <;> rcases h2 with rfl | ⟨L2, rfl⟩
  all_goals
    conv => whnf
    refine loopY (S := Nat × Int) (fun t => ps.length - t.1) (fun t => [(0, .yld l), (1, .ipt [.str nm, I ht, .str fl, .str ce, .isl 6 ms, .isl 2 (ps.map pt), .isl 3 wa, _, _]), (2, .ipt [I ax, I ay]), (3, .ipt [I last]), (11, .isl 2 (ps.map pt)), (12, I (ps.map pt).length), (13, I t.2)]) (fun _ => []) (fun t => some (seenX ax ay (fun p => bB p && !bA p) (ps.drop t.1))) 0 (fun _ => 0) (fun t => t.2 = t.1 ∧ t.1 ≤ ps.length) (0, 0) ⟨rfl, Nat.zero_le _⟩ (Nat.le_refl _) rfl [] rfl (kps) (kps) ?_
    rintro ⟨k, i⟩ ⟨hi, hk⟩
    dsimp only at hi hk
    subst hi
    by_cases hlt : k < ps.length
    · have e1 : (ps.map pt)[((k : Nat) : Int).toNat]? = some (pt ps[k]) := by simp [hlt]
      have hm := List.getElem_mem hlt
      have hT := one_ok (hB _ hm) (one_ok (hA _ hm) (ins_ok (f0 := 87) (r := rFr) (fun a res h => by unfold rFr at h; split at h <;> cases h; exact d87 _ _ _ _) pt0_ok))
      have hG : (IntKind.i64.wrap ((k : Int) + 1) = ((k + 1 : Nat) : Int) ∧ k + 1 ≤ ps.length) ∧ ps.length - (k + 1) < ps.length - k := ⟨⟨W_succ (by omega), hlt⟩, by omega⟩
      dsimp only
      rw [List.drop_eq_getElem_cons hlt]
      rw [seenX_cons]
      generalize ps[k] = p at *
      clear hB hA hm
      obtain ⟨px, py⟩ := p
      dsimp only at e1 hT ⊢
      generalize bB (px, py) = b1 at *
      generalize bA (px, py) = b2 at *
      by_cases c : px = ax ∧ py = ay
      · rw [if_pos c]
        refine bs.yv hT hI (sx := nos) ?_
        repeat' (first | refine wk3 ?_ | (refine wk2 ?_ ?_ <;> intro _) | refine wk4 ?_ | fail); all_goals (conv => whnf)
        all_goals first
          | (refine Done.mk ?_; exact ⟨(k + 1, _), [], rfl, kps, kps, rfl, hG.1, hG.2⟩)
          | (exfalso; clear hT e1; simp_all; done)
      · rw [if_neg c]
        cases b1 <;> cases b2
        all_goals
          refine bs.yv hT hI (sx := nos) ?_
          repeat' (first | refine wk3 ?_ | (refine wk2 ?_ ?_ <;> intro _) | refine wk4 ?_ | fail); all_goals (conv => whnf)
        all_goals first
          | (refine Done.mk ?_; exact ⟨(k + 1, _), [], rfl, kps, kps, rfl, hG.1, hG.2⟩)
          | (exfalso; rename_i q; simp at q; exact c q)
          | skip
        all_goals
          refine Yd.mk ⟨rfl, rfl, ⟨_, rfl⟩, fun _ => rfl, ?_, ?_⟩
          all_goals repeat' (first | refine wk3 ?_ | (refine wk2 ?_ ?_ <;> intro _) | refine wk4 ?_ | fail); all_goals (conv => whnf)
        all_goals first
          | (refine Done.mk ?_; exact ⟨(k + 1, _), [], rfl, kps, kps, rfl, hG.1, hG.2⟩)
          | exact Done.mk (.inr rfl)
    · dsimp only
      rw [List.drop_of_length_le (by omega)]
      unfold seenX
      refine bs.yv pt0_ok hI (sx := nos) ?_
      repeat' (first | refine wk3 ?_ | (refine wk2 ?_ ?_ <;> intro _) | refine wk4 ?_ | fail); all_goals (conv => whnf)
      exact Done.mk (.inl rfl)
end Go.Proofs.YtdaliaafmcjikaaGreat
namespace Go.Proofs.YtdaliaafmcjikaaGreat
open Go Go.Sx
/-! ### The examples of chapter 2 -/
def bxP : Pl := ⟨⟨⟨[104]⟩⟩, 600, ⟨⟨[119]⟩⟩, ⟨⟨[119]⟩⟩, [[.str ⟨⟨[119]⟩⟩, I 100, I 100, I 100, I 100, I 0]], [(0, 0), (1000, 0), (1000, 2000), (0, 2000)],
  [[.str ⟨⟨[97]⟩⟩, .str ⟨⟨[119]⟩⟩, .str ⟨⟨[]⟩⟩], [.str ⟨⟨[98]⟩⟩, .str ⟨⟨[119]⟩⟩, .str ⟨⟨[]⟩⟩], [.str ⟨⟨[99]⟩⟩, .str ⟨⟨[119]⟩⟩, .str ⟨⟨[]⟩⟩], [.str ⟨⟨[100]⟩⟩, .str ⟨⟨[119]⟩⟩, .str ⟨⟨[]⟩⟩]], .nils, .nils⟩
abbrev seenA (p : Int × Int) : List AV := [.agg bxP.c, rayA 500 1000 (IntKind.i64.wrap (p.1 - 500)) (IntKind.i64.wrap (p.2 - 1000)) (-1), P2 1 1]
noncomputable def allR (f : FuncId) (v : AV) (l : List (List AV)) : Bool := l.all fun a => isR v (pcF (exT [197] sqrtT) f a)
set_option maxRecDepth 1000000 in
theorem sB : allR 250 (.bool true) (bxP.ps.map seenA) = true := by kernel_rfl
set_option maxRecDepth 1000000 in
theorem sA : allR 280 (.bool false) (bxP.ps.map seenA) = true := by kernel_rfl
theorem allR_get {f : FuncId} {v : AV} {l : List (List AV)} (h : allR f v l = true) {a : List AV} (ha : a ∈ l) : PCall Tryz.prog f a ⟨v, []⟩ := reckoned sqrtT_ok (List.all_eq_true.1 h a ha)
def bxX : List (List AV) := [[P2 (-500) (-1000)], [P2 500 (-1000)], [P2 500 1000], [P2 (-500) 1000]]
theorem seenB : ItOK Tryz.prog 279 [] [.ipt bxP.c, .ipt [I 500, I 1000], .ipt [I (-1)]] bxX :=
  it279 (q := bxP) (.inl rfl) (.inl rfl) (by decide) 500 1000 (-1) (fun _ => true) (fun _ => false) (fun p hp => allR_get sB (List.mem_map_of_mem hp)) (fun p hp => allR_get sA (List.mem_map_of_mem hp))
def itT5 : ITab := fun g c0 c1 => cond (Nat.beq g 279 && (eqL c0 [] && eqL c1 [.ipt bxP.c, .ipt [I 500, I 1000], .ipt [I (-1)]])) (some bxX) (itT g c0 c1)
theorem itT5_ok : ∀ g c0 c1 xs, itT5 g c0 c1 = some xs → ItOK Tryz.prog g c0 c1 xs := by
  intro g c0 c1 xs h
  unfold itT5 at h
  cases hb : (Nat.beq g 279 && (eqL c0 [] && eqL c1 [.ipt bxP.c, .ipt [I 500, I 1000], .ipt [I (-1)]])) with
  | true =>
    rw [hb] at h
    cases h
    simp only [Bool.and_eq_true] at hb
    rw [Nat.eq_of_beq_eq_true hb.1, eqL_eq _ _ hb.2.1, eqL_eq _ _ hb.2.2]
    exact seenB
  | false => rw [hb] at h; exact itT_ok g c0 c1 xs h
noncomputable def exT5 (xs : List Nat) (pt : PC) : CF := exG Tryz.prog (tget tbl) (memN eqs) itT5 (memN xs) pt 1000 60
theorem exT5_ok {xs : List Nat} {pt : PC} (hpt : PCOK Tryz.prog pt) : CFOK Tryz.prog (exT5 xs pt) := exG_sound tabOK eqOK itT5_ok mixed hpt 60
theorem reckoned5 {xs : List Nat} {pt : PC} (hpt : PCOK Tryz.prog pt) {f : FuncId} {a : List AV} {v : AV} (h : isR v (pcF (exT5 xs pt) f a) = true) : PCall Tryz.prog f a ⟨v, []⟩ := pcall_ex (exT5_ok hpt) (isR_eq h)
/-! What is handed back, as a tree. -/
mutual
def toFz (bl : List (Nat × List (List AV))) : AV → Option AV
  | .asl id 0 len => match bl[id]? with
    | some (es, els) => cond (Nat.beq len els.length) (some (.isl es els)) none
    | none => none
  | .agg cs => match toFzL bl cs with
    | some ds => some (.agg ds)
    | none => none
  | .tup cs => match toFzL bl cs with
    | some ds => some (.tup ds)
    | none => none
  | .int k n => some (.int k n)
  | .bool b => some (.bool b)
  | .nils => some .nils
  | _ => none
def toFzL (bl : List (Nat × List (List AV))) : List AV → Option (List AV)
  | [] => some []
  | c :: cs => match toFz bl c, toFzL bl cs with
    | some d, some ds => some (d :: ds)
    | _, _ => none
end
mutual
theorem toFz_ok (bl : List (Nat × List (List AV))) : ∀ (v : AV) {v' : AV}, toFz bl v = some v' → Frz bl v v'
  | .asl id 0 len, v', h => by
    simp only [toFz] at h
    split at h
    · rename_i es els hb
      obtain ⟨h1, h⟩ := cond_some h
      cases h
      exact ⟨hb, rfl, Nat.eq_of_beq_eq_true h1⟩
    · cases h
  | .agg cs, v', h => by
    simp only [toFz] at h
    split at h
    · rename_i ds hd
      cases h
      exact toFzL_ok bl cs hd
    · cases h
  | .tup cs, v', h => by
    simp only [toFz] at h
    split at h
    · rename_i ds hd
      cases h
      exact toFzL_ok bl cs hd
    · cases h
  | .int k n, v', h => by simp only [toFz] at h; cases h; exact ⟨rfl, rfl⟩
  | .bool b, v', h => by simp only [toFz] at h; cases h; exact ⟨rfl, rfl⟩
  | .nils, v', h => by simp only [toFz] at h; cases h; exact ⟨rfl, rfl⟩
  | .any, _, h | .flt _ _, _, h | .cpx _ _ _, _, h | .str _, _, h | .ptr _ _ _, _, h | .ipt _, _, h | .nilp, _, h | .bsl _ _ _ _ _, _, h | .isl _ _, _, h | .amap _, _, h | .func _ _ _, _, h | .yld _, _, h | .asl _ (_ + 1) _, _, h => by simp [toFz] at h
theorem toFzL_ok (bl : List (Nat × List (List AV))) : ∀ (v : List AV) {v' : List AV}, toFzL bl v = some v' → FrzL bl v v'
  | [], v', h => by simp only [toFzL] at h; cases h; exact trivial
  | c :: cs, v', h => by
    simp only [toFzL] at h
    split at h
    · rename_i d ds h1 h2
      cases h
      exact ⟨toFz_ok bl c h1, toFzL_ok bl cs h2⟩
    · cases h
end
def isRF (v0 : AV) : Option PRes → Bool
  | some ⟨v, bl⟩ => match toFz bl v with
    | some u => eqA u v0
    | none => false
  | _ => false
theorem reckonedF {xs : List Nat} {pt : PC} (hpt : PCOK Tryz.prog pt) {f : FuncId} {a : List AV} {v : AV} (h : isRF v (pcF (exT5 xs pt) f a) = true) : PCall Tryz.prog f a ⟨v, []⟩ := by
  unfold isRF at h
  split at h
  · rename_i u bl hu
    split at h
    · rename_i d hd
      rw [← eqA_eq _ _ h]
      exact (pcall_ex (exT5_ok hpt) hu).freeze (toFz_ok bl u hd)
    · cases h
  · cases h
set_option maxRecDepth 1000000 in
theorem aw153 : isR (.tup [.agg [I 0, I 0], I 0]) (pcF (exT [197] sqrtT) 153 [.agg bxP.c]) = true := by kernel_rfl
theorem box_ok : PCall Tryz.prog 153 [.agg bxP.c] ⟨.tup [.agg [I 0, I 0], I 0], []⟩ := reckoned sqrtT_ok aw153
noncomputable def boxT : PC := withC 153 [.agg bxP.c] (.tup [.agg [I 0, I 0], I 0]) sqrtT
theorem boxT_ok : PCOK Tryz.prog boxT := withC_ok box_ok sqrtT_ok
set_option maxRecDepth 1000000 in
theorem aw77 : isR (I 0) (pcF (exT5 [153, 197] boxT) 77 [.agg bxP.c, .agg [.nils, .nils]]) = true := by kernel_rfl
noncomputable def t77 : PC := withC 77 [.agg bxP.c, .agg [.nils, .nils]] (I 0) boxT
theorem t77_ok : PCOK Tryz.prog t77 := withC_ok (reckoned5 boxT_ok aw77) boxT_ok
set_option maxRecDepth 1000000 in
theorem aw24 : isR (I 0) (pcF (exT5 [77, 153, 197] t77) 24 [.agg bxP.c, .agg [.nils, .nils], .agg [I 300, I 700, I 150, I 300, I 800, I 50, I 2]]) = true := by kernel_rfl
noncomputable def t24 : PC := withC 24 [.agg bxP.c, .agg [.nils, .nils], .agg [I 300, I 700, I 150, I 300, I 800, I 50, I 2]] (I 0) t77
theorem t24_ok : PCOK Tryz.prog t24 := withC_ok (reckoned5 t77_ok aw24) t77_ok
set_option maxRecDepth 1000000 in
theorem aw64 : isR (I 0) (pcF (exT5 [24, 77, 153, 197] t24) 64 [.agg bxP.c, .isl 1 [[I 1]]]) = true := by kernel_rfl
noncomputable def t64 : PC := withC 64 [.agg bxP.c, .isl 1 [[I 1]]] (I 0) t24
theorem t64_ok : PCOK Tryz.prog t64 := withC_ok (reckoned5 t24_ok aw64) t24_ok
set_option maxRecDepth 1000000 in
theorem aw124 : isR (.tup [.agg [I 1000, I 750, I 100, I 1], I 0]) (pcF (exT5 [24, 64, 77, 153, 197] t64) 124 [.agg bxP.c, .agg [.nils, .nils], .agg [I 1, I 1700, I 700, I 150, I 300, I 800, I 50, I 1]]) = true := by kernel_rfl
noncomputable def t124 : PC := withC 124 [.agg bxP.c, .agg [.nils, .nils], .agg [I 1, I 1700, I 700, I 150, I 300, I 800, I 50, I 1]] (.tup [.agg [I 1000, I 750, I 100, I 1], I 0]) t64
theorem t124_ok : PCOK Tryz.prog t124 := withC_ok (reckoned5 t64_ok aw124) t64_ok
set_option maxRecDepth 1000000 in
theorem aw125a : isR (.tup [.bool true, I 0]) (pcF (exT5 [24, 64, 77, 124, 153, 197] t124) 125 [.agg bxP.c, .agg [.nils, .nils], .agg [I 300, I 700, I 150, I 1, I 1000, I 750, I 100, I 1]]) = true := by kernel_rfl
noncomputable def t125a : PC := withC 125 [.agg bxP.c, .agg [.nils, .nils], .agg [I 300, I 700, I 150, I 1, I 1000, I 750, I 100, I 1]] (.tup [.bool true, I 0]) t124
theorem t125a_ok : PCOK Tryz.prog t125a := withC_ok (reckoned5 t124_ok aw125a) t124_ok
set_option maxRecDepth 1000000 in
theorem aw125b : isR (.tup [.bool true, I 0]) (pcF (exT5 [24, 64, 77, 124, 125, 153, 197] t125a) 125 [.agg bxP.c, .agg [.nils, .nils], .agg [I 1000, I 750, I 100, I 1, I 300, I 800, I 50, I 1]]) = true := by kernel_rfl
noncomputable def t125b : PC := withC 125 [.agg bxP.c, .agg [.nils, .nils], .agg [I 1000, I 750, I 100, I 1, I 300, I 800, I 50, I 1]] (.tup [.bool true, I 0]) t125a
theorem t125b_ok : PCOK Tryz.prog t125b := withC_ok (reckoned5 t125a_ok aw125b) t125a_ok
set_option maxRecDepth 1000000 in
theorem aw136 : isR (.tup [.agg [I 0, I 1000], I 0]) (pcF (exT5 [24, 64, 77, 124, 125, 153, 197] t125b) 136 [.agg bxP.c, .agg [.nils, .nils], I 1]) = true := by kernel_rfl
noncomputable def t136 : PC := withC 136 [.agg bxP.c, .agg [.nils, .nils], I 1] (.tup [.agg [I 0, I 1000], I 0]) t125b
theorem t136_ok : PCOK Tryz.prog t136 := withC_ok (reckoned5 t125b_ok aw136) t125b_ok
set_option maxRecDepth 1000000 in
theorem aw14 : isRF (.tup [.agg [.isl 1 [[I 1]], .isl 4 [[I 1000, I 750, I 100, I 1]], I 1980000], I 0]) (pcF (exT5 [24, 64, 77, 124, 125, 136, 153, 197] t136) 14 [.agg bxP.c, .agg [.nils, .nils], .agg [I 300, I 700, I 150, I 300, I 800, I 50, I 2], .isl 1 [[I 1]]]) = true := by kernel_rfl
noncomputable def t14 : PC := withC 14 [.agg bxP.c, .agg [.nils, .nils], .agg [I 300, I 700, I 150, I 300, I 800, I 50, I 2], .isl 1 [[I 1]]] (.tup [.agg [.isl 1 [[I 1]], .isl 4 [[I 1000, I 750, I 100, I 1]], I 1980000], I 0]) t136
theorem t14_ok : PCOK Tryz.prog t14 := withC_ok (reckonedF t136_ok aw14) t136_ok
set_option maxRecDepth 1000000 in
theorem aw38 : isR (.tup [.agg [I 4159, I 4160], I 0]) (pcF (exT5 [14, 24, 64, 77, 124, 125, 136, 153, 197] t14) 38 [.agg [.nils, .nils, I 20000], I 34000]) = true := by kernel_rfl
noncomputable def t38 : PC := withC 38 [.agg [.nils, .nils, I 20000], I 34000] (.tup [.agg [I 4159, I 4160], I 0]) t14
theorem t38_ok : PCOK Tryz.prog t38 := withC_ok (reckoned5 t14_ok aw38) t14_ok
set_option maxRecDepth 1000000 in
theorem aw117 : isR (.tup [.agg bxP.c, I 0]) (pcF (exT5 [14, 24, 38, 64, 77, 124, 125, 136, 153, 197] t38) 117 [.agg bxP.c, .agg [I 500, I 1000], I 0]) = true := by kernel_rfl
noncomputable def t117 : PC := withC 117 [.agg bxP.c, .agg [I 500, I 1000], I 0] (.tup [.agg bxP.c, I 0]) t38
theorem t117_ok : PCOK Tryz.prog t117 := withC_ok (reckoned5 t38_ok aw117) t38_ok
set_option maxRecDepth 1000000 in
theorem awn0 : isR (.tup [.agg [I 1000000, I 4000, I 2, .bool true], .bool true]) (pcF (exT5 [14, 24, 38, 64, 77, 117, 124, 125, 136, 153, 197] t117) 121 [.agg bxP.c, .agg [I 500, I 1000, I 0, I 4, I (-1)]]) = true := by kernel_rfl
noncomputable def tn0 : PC := withC 121 [.agg bxP.c, .agg [I 500, I 1000, I 0, I 4, I (-1)]] (.tup [.agg [I 1000000, I 4000, I 2, .bool true], .bool true]) t117
theorem tn0_ok : PCOK Tryz.prog tn0 := withC_ok (reckoned5 t117_ok awn0) t117_ok
set_option maxRecDepth 1000000 in
theorem awn1 : isR (.tup [.agg [I 1000000, I 4000, I 3, .bool true], .bool true]) (pcF (exT5 [14, 24, 38, 64, 77, 117, 121, 124, 125, 136, 153, 197] tn0) 121 [.agg bxP.c, .agg [I 500, I 1000, I (-2), I 0, I (-1)]]) = true := by kernel_rfl
noncomputable def tn1 : PC := withC 121 [.agg bxP.c, .agg [I 500, I 1000, I (-2), I 0, I (-1)]] (.tup [.agg [I 1000000, I 4000, I 3, .bool true], .bool true]) tn0
theorem tn1_ok : PCOK Tryz.prog tn1 := withC_ok (reckoned5 tn0_ok awn1) tn0_ok
set_option maxRecDepth 1000000 in
theorem awn2 : isR (.tup [.agg [I 1000000, I 4000, I 0, .bool true], .bool true]) (pcF (exT5 [14, 24, 38, 64, 77, 117, 121, 124, 125, 136, 153, 197] tn1) 121 [.agg bxP.c, .agg [I 500, I 1000, I 0, I (-4), I (-1)]]) = true := by kernel_rfl
noncomputable def tn2 : PC := withC 121 [.agg bxP.c, .agg [I 500, I 1000, I 0, I (-4), I (-1)]] (.tup [.agg [I 1000000, I 4000, I 0, .bool true], .bool true]) tn1
theorem tn2_ok : PCOK Tryz.prog tn2 := withC_ok (reckoned5 tn1_ok awn2) tn1_ok
set_option maxRecDepth 1000000 in
theorem awn3 : isR (.tup [.agg [I 1000000, I 4000, I 1, .bool true], .bool true]) (pcF (exT5 [14, 24, 38, 64, 77, 117, 121, 124, 125, 136, 153, 197] tn2) 121 [.agg bxP.c, .agg [I 500, I 1000, I 2, I 0, I (-1)]]) = true := by kernel_rfl
noncomputable def tn3 : PC := withC 121 [.agg bxP.c, .agg [I 500, I 1000, I 2, I 0, I (-1)]] (.tup [.agg [I 1000000, I 4000, I 1, .bool true], .bool true]) tn2
theorem tn3_ok : PCOK Tryz.prog tn3 := withC_ok (reckoned5 tn2_ok awn3) tn2_ok
set_option maxRecDepth 1000000 in
theorem awr0 : isR (.tup [.agg [I 1000000, I 2000, I 1, .bool true], .bool true]) (pcF (exT5 [14, 24, 38, 64, 77, 117, 121, 124, 125, 136, 153, 197] tn3) 121 [.agg bxP.c, .agg [I 500, I 1000, I 1, I 0, I (-1)]]) = true := by kernel_rfl
noncomputable def tr0 : PC := withC 121 [.agg bxP.c, .agg [I 500, I 1000, I 1, I 0, I (-1)]] (.tup [.agg [I 1000000, I 2000, I 1, .bool true], .bool true]) tn3
theorem tr0_ok : PCOK Tryz.prog tr0 := withC_ok (reckoned5 tn3_ok awr0) tn3_ok
set_option maxRecDepth 1000000 in
theorem awr1 : isR (.tup [.agg [I 3000000, I 2000, I 3, .bool true], .bool true]) (pcF (exT5 [14, 24, 38, 64, 77, 117, 121, 124, 125, 136, 153, 197] tr0) 121 [.agg bxP.c, .agg [I 1500, I 1000, I (-1), I 0, I 1]]) = true := by kernel_rfl
noncomputable def tr1 : PC := withC 121 [.agg bxP.c, .agg [I 1500, I 1000, I (-1), I 0, I 1]] (.tup [.agg [I 3000000, I 2000, I 3, .bool true], .bool true]) tr0
theorem tr1_ok : PCOK Tryz.prog tr1 := withC_ok (reckoned5 tr0_ok awr1) tr0_ok
set_option maxRecDepth 1000000 in
theorem awr2 : isR (.tup [.agg [I 5000000, I 2000, I 1, .bool true], .bool true]) (pcF (exT5 [14, 24, 38, 64, 77, 117, 121, 124, 125, 136, 153, 197] tr1) 121 [.agg bxP.c, .agg [I (-1500), I 1000, I 1, I 0, I 3]]) = true := by kernel_rfl
noncomputable def tr2 : PC := withC 121 [.agg bxP.c, .agg [I (-1500), I 1000, I 1, I 0, I 3]] (.tup [.agg [I 5000000, I 2000, I 1, .bool true], .bool true]) tr1
theorem tr2_ok : PCOK Tryz.prog tr2 := withC_ok (reckoned5 tr1_ok awr2) tr1_ok
set_option maxRecDepth 1000000 in
theorem aw61 : isRF (.tup [.isl 8 [[.nils, I 500, I 1000, I 1, I 2, I (-1), I 2, I 2], [.nils, I 500, I 1000, I (-1), I 2, I (-1), I (-2), I 3], [.nils, I 500, I 1000, I (-1), I (-2), I 1, I (-2), I 0], [.nils, I 500, I 1000, I 1, I (-2), I 1, I 2, I 1]], I 0]) (pcF (exT5 [14, 24, 38, 64, 77, 117, 121, 124, 125, 136, 153, 197] tr2) 61 [.agg bxP.c, .agg [I 500, I 1000], I 0]) = true := by kernel_rfl
noncomputable def t61 : PC := withC 61 [.agg bxP.c, .agg [I 500, I 1000], I 0] (.tup [.isl 8 [[.nils, I 500, I 1000, I 1, I 2, I (-1), I 2, I 2], [.nils, I 500, I 1000, I (-1), I 2, I (-1), I (-2), I 3], [.nils, I 500, I 1000, I (-1), I (-2), I 1, I (-2), I 0], [.nils, I 500, I 1000, I 1, I (-2), I 1, I 2, I 1]], I 0]) tr2
theorem t61_ok : PCOK Tryz.prog t61 := withC_ok (reckonedF tr2_ok aw61) tr2_ok
set_option maxRecDepth 1000000 in
theorem aw62 : isRF (.tup [.isl 1 [[I 1], [I 3], [I 1]], I 0]) (pcF (exT5 [14, 24, 38, 61, 64, 77, 117, 121, 124, 125, 136, 153, 197] t61) 62 [.agg bxP.c, .agg [I 500, I 1000], .agg [I 1, I 0], I 3]) = true := by kernel_rfl
noncomputable def t62 : PC := withC 62 [.agg bxP.c, .agg [I 500, I 1000], .agg [I 1, I 0], I 3] (.tup [.isl 1 [[I 1], [I 3], [I 1]], I 0]) t61
theorem t62_ok : PCOK Tryz.prog t62 := withC_ok (reckonedF t61_ok aw62) t61_ok
set_option maxRecDepth 1000000 in
theorem aw12 : isR (.bool true) (pcF (exT5 [14, 24, 38, 61, 62, 64, 77, 117, 121, 124, 125, 136, 153, 197] t62) 12 []) = true := by kernel_rfl
theorem awake_ok : PCall Tryz.prog 12 [] ⟨.bool true, []⟩ := reckoned5 t62_ok aw12
end Go.Proofs.YtdaliaafmcjikaaGreat
namespace Go.Proofs.YtdaliaafmcjikaaGreat
open Go Go.Sx

theorem own : ownKnob Tryz.prog.godebug = none := by kernel_rfl
theorem laidOut : laidOutB Tryz.prog = true := by kernel_rfl
theorem fLaid : laidOutB Tryz.checked.prog = true := by kernel_rfl
theorem fMaps : mapsRowed Tryz.checked.prog = true := by kernel_rfl
theorem fPlain : Tryz.checked.prog.plainKeys = Rows.imageDelaysRow.plainKeys := by kernel_rfl
theorem fHeard : Tryz.checked.prog.stopsHeard = true := by kernel_rfl
theorem fMay : Tryz.checked.prog.mayEnter = true := by kernel_rfl
theorem fLifts : Tryz.checked.prog.liftsFinal = Rows.imageDelaysRow.lifted := by kernel_rfl
theorem fMake : Tryz.checked.prog.make = some Rows.imageDelaysRow.make := by kernel_rfl
end Go.Proofs.YtdaliaafmcjikaaGreat
namespace Go.Proofs.YtdaliaafmcjikaaGreat
open Go Go.Sx

/-! ### Divisors -/
def i64 (n : Int) : Prop := -9223372036854775808 ≤ n ∧ n ≤ 9223372036854775807
theorem size_W {a : Int} (h : i64 a) : size a = IntKind.i64.wrap (a.natAbs : Int) := by
  unfold size imax
  obtain ⟨h1, h2⟩ := h
  by_cases h3 : a = -9223372036854775808
  · subst h3; decide
  · rw [W_eq (n := 0 - a) (by omega) (by omega), W_eq (by omega) (by omega)]
    by_cases h4 : a < 0 - a
    · rw [decide_eq_true h4]; simp only [cond_true]; omega
    · rw [decide_eq_false h4]; simp only [cond_false]; omega
theorem i64_W (a : Int) : i64 (IntKind.i64.wrap a) := by unfold i64; simp only [IntKind.wrap_i64]; omega
theorem natAbs_W {g : Nat} (h : g ≤ 9223372036854775808) : (IntKind.i64.wrap (g : Int)).natAbs = g := by
  by_cases h3 : g = 9223372036854775808
  · subst h3; decide
  · rw [W_eq (by omega) (by omega)]; simp
theorem tmod_i64 {a b : Int} (ha : i64 a) (hb : b ≠ 0) : i64 (a.tmod b) := by
  obtain ⟨h1, h2⟩ := ha
  have h3 : (a.tmod b).natAbs ≤ a.natAbs := by rw [Int.natAbs_tmod]; exact Nat.mod_le _ _
  have h4 : 0 ≤ a → 0 ≤ a.tmod b := fun h => Int.tmod_nonneg b h
  have h5 : a ≤ 0 → a.tmod b ≤ 0 := fun h => by have := Int.tmod_nonneg b (a := -a) (by omega); rw [Int.neg_tmod] at this; omega
  unfold i64
  omega
theorem gcd_step {a b : Int} : Nat.gcd b.natAbs (a.tmod b).natAbs = Nat.gcd a.natAbs b.natAbs := by
  rw [Int.natAbs_tmod, Nat.gcd_comm, ← Nat.gcd_rec, Nat.gcd_comm]
set_option maxHeartbeats 4000000 in
theorem c120 {a b : Int} (ha : i64 a) (hb : i64 b) : PCall Tryz.prog 94 [I a, I b] ⟨I (IntKind.i64.wrap ((Nat.gcd a.natAbs b.natAbs : Nat) : Int)), []⟩ := by
  refine bs.pv (sx := nos) kR1_ok Tryz.func94 (by kernel_rfl) (by kernel_rfl) rfl ?_
  generalize hG : Nat.gcd a.natAbs b.natAbs = G
  refine loopV (S := Int × Int) (fun t => t.2.natAbs) (fun t => [(0, I t.1), (1, I t.2)]) (fun _ => []) 0 0 (fun t => (i64 t.1 ∧ i64 t.2) ∧ Nat.gcd t.1.natAbs t.2.natAbs = G) (a, b) ⟨⟨ha, hb⟩, hG⟩ (Nat.le_refl _) [] rfl (kps) (kps) ?_
  clear hG ha hb
  rintro ⟨a, b⟩ ⟨⟨ha, hb⟩, hG⟩
  dsimp only at ha hb hG ⊢
  refine bs.av (sx := nos) kR1_ok ?_
  by_cases h0 : b = 0
  · subst h0
    repeat' (first | refine wk1 ?_ | (refine wk2 ?_ ?_ <;> intro _) | refine wk4 ?_ | fail); all_goals (conv => whnf)
    exact ret_int (by rw [size_W ha, ← hG]; simp)
  · repeat' (first | refine wk1 ?_ | (refine wk2 ?_ ?_ <;> intro _) | refine wk4 ?_ | fail); all_goals (conv => whnf)
    exact Done.mk ⟨(b, a.tmod b), [], rfl, kps, kps, ⟨⟨hb, tmod_i64 ha h0⟩, by rw [← hG]; exact gcd_step⟩, by
      show (a.tmod b).natAbs < b.natAbs
      rw [Int.natAbs_tmod]; exact Nat.mod_lt _ (by omega)⟩
end Go.Proofs.YtdaliaafmcjikaaGreat
namespace Go.Proofs.YtdaliaafmcjikaaGreat
open Go Go.Sx

/-! ### Points -/
def g4 (p : Pt) : Nat := Nat.gcd (Nat.gcd p.x.natAbs p.y.natAbs) (Nat.gcd p.z.natAbs p.d.natAbs)
structure Pt.wf (p : Pt) : Prop where
  x : i64 p.x
  y : i64 p.y
  z : i64 p.z
  d : i64 p.d
theorem gcd_le {a b : Int} (ha : i64 a) (hb : i64 b) : Nat.gcd a.natAbs b.natAbs ≤ 9223372036854775808 := by
  obtain ⟨a1, a2⟩ := ha
  obtain ⟨b1, b2⟩ := hb
  by_cases h : a.natAbs = 0
  · rw [h, Nat.gcd_zero_left]; omega
  · exact Nat.le_trans (Nat.gcd_le_left _ (by omega)) (by omega)
theorem g4_le {p : Pt} (hp : p.wf) (hd : 0 < p.d) : 0 < g4 p ∧ (g4 p : Int) ≤ p.d := by
  have h1 : g4 p ∣ p.d.natAbs := Nat.dvd_trans (Nat.gcd_dvd_right _ _) (Nat.gcd_dvd_right _ _)
  have h2 := Nat.le_of_dvd (by omega) h1
  have h3 : 0 < g4 p := Nat.pos_of_dvd_of_pos h1 (by omega)
  omega
/-- The bounds of a point. -/
def ptIn (p : Pt) : Bool := within p.x (-(5000 * p.d)) (5000 * p.d) && within p.y (-(5000 * p.d)) (5000 * p.d) && within p.z (-(5000 * p.d)) (5000 * p.d)
def ptErr (p : Pt) : Int := if p.d ≤ 0 ∨ g4 p ≠ 1 then 3 else if 100000 < p.d then 2 else if ptIn p then 0 else 2
theorem ptErr_zero {p : Pt} (h : ptErr p = 0) : 0 < p.d ∧ p.d ≤ 100000 ∧ g4 p = 1 ∧ ptIn p = true := by
  unfold ptErr at h
  split at h
  · cases h
  · rename_i h1
    split at h
    · cases h
    · split at h
      · rename_i h3; exact ⟨by omega, by omega, by omega, h3⟩
      · cases h

/-! The program's divisor of four numbers. -/
theorem gcd4_assoc (a b c d : Nat) : Nat.gcd (Nat.gcd (Nat.gcd a b) c) d = Nat.gcd (Nat.gcd a b) (Nat.gcd c d) := by rw [Nat.gcd_assoc (Nat.gcd a b)]
def gl : Nat → List Int → Nat
  | g, [] => g
  | g, n :: l => gl (Nat.gcd g n.natAbs) l
set_option maxRecDepth 100000 in
set_option maxHeartbeats 8000000 in
theorem c117 {ns : List Int} (hl : ns.length < 1000) (hw : ∀ n ∈ ns, i64 n) : PCall Tryz.prog 170 [.isl 1 (nl ns)] ⟨I (IntKind.i64.wrap ((gl 0 ns : Nat) : Int)), []⟩ := by
  have e3 := nl_length ns
  refine bs.pv (sx := nos) kG1_ok Tryz.func170 (by kernel_rfl) (by kernel_rfl) rfl ?_
  repeat' (first | refine wk1 ?_ | (refine wk2 ?_ ?_ <;> intro _) | refine wk4 ?_ | fail); all_goals (conv => whnf)
  refine loopV (S := Nat × Int × Int) (fun t => ns.length - t.1) (fun t => [(3, I t.2.2), (6, .isl 1 (nl ns)), (7, I (nl ns).length), (8, I t.2.1)]) (fun _ => []) 0 0 (fun t => t.2.1 = t.1 ∧ t.1 ≤ ns.length ∧ i64 t.2.2 ∧ gl t.2.2.natAbs (ns.drop t.1) = gl 0 ns) (0, 0, 0) ⟨rfl, Nat.zero_le _, (by unfold i64; decide), rfl⟩ (Nat.le_refl _) [] rfl (kps) (kps) ?_
  rintro ⟨k, i, g⟩ ⟨hi, hk, hg, hh⟩
  dsimp only at hi hk hg hh ⊢
  subst hi
  refine bs.av (sx := nos) kG1_ok ?_
  by_cases hlt : k < ns.length
  · have e1 := nl_get hlt
    have hn := hw _ (List.getElem_mem hlt)
    rw [List.drop_eq_getElem_cons hlt, gl] at hh
    repeat' (first | refine wk1 ?_ | (refine wk2 ?_ ?_ <;> intro _) | refine wk4 ?_ | fail); all_goals (conv => whnf)
    refine loopV (S := Int × Int) (fun t => t.2.natAbs) (fun t => [(3, I t.1), (5, I t.2), (6, .isl 1 (nl ns)), (7, I (nl ns).length), (8, I k)]) (fun _ => []) 0 0 (fun t => (i64 t.1 ∧ i64 t.2) ∧ Nat.gcd t.1.natAbs t.2.natAbs = Nat.gcd g.natAbs ns[k].natAbs) (g, ns[k]) ⟨⟨hg, hn⟩, rfl⟩ (Nat.le_refl _) [] rfl (kps) (kps) ?_
    rintro ⟨a, b⟩ ⟨⟨ha, hb⟩, hG⟩
    dsimp only at ha hb hG ⊢
    refine bs.av (sx := nos) kG1_ok ?_
    by_cases h0 : b = 0
    · subst h0
      repeat' (first | refine wk1 ?_ | (refine wk2 ?_ ?_ <;> intro _) | refine wk4 ?_ | fail); all_goals (conv => whnf)
      exact Done.mk ⟨(k + 1, _, a), [], rfl, kps, kps, ⟨W_succ (by omega), hlt, ha, by rw [← hh, ← hG]; simp⟩, by dsimp only; omega⟩
    · repeat' (first | refine wk1 ?_ | (refine wk2 ?_ ?_ <;> intro _) | refine wk4 ?_ | fail); all_goals (conv => whnf)
      exact Done.mk ⟨(b, a.tmod b), [], rfl, kps, kps, ⟨⟨hb, tmod_i64 ha h0⟩, by rw [← hG]; exact gcd_step⟩, by
        show (a.tmod b).natAbs < b.natAbs
        rw [Int.natAbs_tmod]; exact Nat.mod_lt _ (by omega)⟩
  rw [List.drop_of_length_le (by omega)] at hh
  repeat' (first | refine wk1 ?_ | (refine wk2 ?_ ?_ <;> intro _) | refine wk4 ?_ | fail); all_goals (conv => whnf)
  exact ret_int (by show size g = _; rw [size_W hg, ← hh]; rfl)

theorem most_eq {d : Int} (h0 : 0 < d) (h1 : d ≤ 100000) : IntKind.i64.wrap (5000 * d) = 5000 * d ∧ IntKind.i64.wrap (0 - IntKind.i64.wrap (5000 * d)) = -(5000 * d) := by
  have e : IntKind.i64.wrap (5000 * d) = 5000 * d := W_eq (by omega) (by omega)
  refine ⟨e, ?_⟩
  rw [e, W_eq (by omega) (by omega)]; omega
set_option maxRecDepth 100000 in
set_option maxHeartbeats 8000000 in
theorem c99 {p : Pt} (hp : p.wf) : PCall Tryz.prog 164 [p.av] ⟨I (ptErr p), []⟩ := by
  have hc := c117 (ns := [p.x, p.y, p.z, p.d]) (by simp) (by
    intro n hn
    simp only [List.mem_cons, List.not_mem_nil, or_false] at hn
    rcases hn with rfl | rfl | rfl | rfl
    · exact hp.x
    · exact hp.y
    · exact hp.z
    · exact hp.d)
  have hg : gl 0 [p.x, p.y, p.z, p.d] = g4 p := by
    simp only [gl, Nat.gcd_zero_left]
    exact gcd4_assoc _ _ _ _
  rw [hg] at hc
  have hk := one_ok hc kG4_ok
  by_cases h1 : p.d ≤ 0
  · have e : ptErr p = 3 := by unfold ptErr; rw [if_pos (.inl h1)]
    rw [e]
    refine bs.pv (sx := nos) hk Tryz.func164 (by kernel_rfl) (by kernel_rfl) rfl ?_
    repeat' (first | refine wk1 ?_ | (refine wk2 ?_ ?_ <;> intro _) | refine wk4 ?_ | fail); all_goals (conv => whnf)
    exact ret_int rfl
  · obtain ⟨g1, g2⟩ := g4_le hp (by omega)
    have hd := hp.d
    unfold i64 at hd
    have hw : IntKind.i64.wrap ((g4 p : Nat) : Int) = (g4 p : Nat) := W_eq (by omega) (by omega)
    rw [hw] at hk
    by_cases h2 : g4 p = 1
    · rw [h2] at hk
      by_cases h3 : 100000 < p.d
      · have e : ptErr p = 2 := by unfold ptErr; rw [if_neg (by omega), if_pos h3]
        rw [e]
        refine bs.pv (sx := nos) hk Tryz.func164 (by kernel_rfl) (by kernel_rfl) rfl ?_
        repeat' (first | refine wk1 ?_ | (refine wk2 ?_ ?_ <;> intro _) | refine wk4 ?_ | fail); all_goals (conv => whnf)
        exact ret_int rfl
      · obtain ⟨m1, m2⟩ := most_eq (d := p.d) (by omega) (by omega)
        have e : ptErr p = if ptIn p then 0 else 2 := by unfold ptErr; rw [if_neg (by omega), if_neg h3]
        have e2 : ∀ x, small x (IntKind.i64.wrap (5000 * p.d)) = within x (-(5000 * p.d)) (5000 * p.d) := fun x => by unfold small; rw [m2, m1]
        rw [e]
        unfold ptIn
        rw [← e2, ← e2, ← e2]
        refine bs.pv (sx := nos) hk Tryz.func164 (by kernel_rfl) (by kernel_rfl) rfl ?_
        repeat' (first | refine wk1 ?_ | (refine wk2 ?_ ?_ <;> intro _) | refine wk4 ?_ | fail); all_goals (conv => whnf)
        all_goals (clear hk hc m1 m2 e2)
        all_goals exact ret_int (by simp_all [unl])
    · have e : ptErr p = 3 := by unfold ptErr; rw [if_pos (.inr h2)]
      rw [e]
      have h4 : (1 : Int) < (g4 p : Nat) := by omega
      refine bs.pv (sx := nos) hk Tryz.func164 (by kernel_rfl) (by kernel_rfl) rfl ?_
      repeat' (first | refine wk1 ?_ | (refine wk2 ?_ ?_ <;> intro _) | refine wk4 ?_ | fail); all_goals (conv => whnf)
      all_goals clear hk hc
      all_goals first
        | exact ret_int rfl
        | (exfalso; simp_all; done)
        | (exfalso; simp_all; omega)
noncomputable abbrev gcds : List AV → Option PRes := famA (fun p : Int × Int => i64 p.1 ∧ i64 p.2) (fun p => [I p.1, I p.2]) (fun p => ⟨I (IntKind.i64.wrap ((Nat.gcd p.1.natAbs p.2.natAbs : Nat) : Int)), []⟩)
theorem gcds_hit {a b : Int} (ha : i64 a) (hb : i64 b) : gcds [I a, I b] = some ⟨I (IntKind.i64.wrap ((Nat.gcd a.natAbs b.natAbs : Nat) : Int)), []⟩ :=
  famA_hit (p := fun p : Int × Int => i64 p.1 ∧ i64 p.2) (g := fun p => [I p.1, I p.2]) (r := fun p => ⟨I (IntKind.i64.wrap ((Nat.gcd p.1.natAbs p.2.natAbs : Nat) : Int)), []⟩) (k := (a, b)) (fun j hj => by
    simp only [List.cons.injEq, AV.int.injEq, true_and, and_true] at hj
    obtain ⟨h1, h2⟩ := hj
    dsimp only
    rw [h1, h2]) ⟨ha, hb⟩
noncomputable def kGc : PC := ins 94 gcds kR1
theorem kGc_ok : PCOK Tryz.prog kGc := famA_ok (fun p hp => c120 hp.1 hp.2) kR1_ok
/-! ### HallInside -/
def insE (h : Hal) (p : Pt) : Int := if h.err = 0 then ptErr p else h.err
theorem ptOk_of {p : Pt} (h : ptErr p = 0) : PtOk p.x p.y p.d := by
  obtain ⟨h1, h2, _, h4⟩ := ptErr_zero h
  unfold ptIn at h4
  simp only [Bool.and_eq_true, within_iff] at h4
  exact ⟨h1, by omega, by omega, by omega⟩
set_option maxRecDepth 100000 in
set_option maxHeartbeats 8000000 in
theorem c50 {h : Hal} (hk : h.ok) {p : Pt} (hp : p.wf) : PCall Tryz.prog 135 [h.av, p.av] ⟨.tup [Bo (decide (insE h p = 0) && isInsR h p), I (insE h p)], []⟩ := by
  have hk0 := one_ok (c76 hk) (one_ok (c99 hp) pt0_ok)
  by_cases he : h.err = 0
  · have hi : insE h p = ptErr p := by unfold insE; rw [if_pos he]
    rw [hi]
    by_cases hq : ptErr p = 0
    · have hf := fine_of hk he
      have e : isInsR h p = hasPt h p.x p.y p.z p.d := by
        unfold isInsR hasPt
        rw [inPlan_eq hf.st p.z (ptOk_of hq)]
      have hk1 := one_ok (c124 hk.f p.x p.y p.z p.d) hk0
      rw [hq, he] at hk1
      rw [hq, e]
      refine bs.pv (sx := nos) hk1 Tryz.func135 (by kernel_rfl) (by kernel_rfl) rfl ?_
      repeat' (first | refine wk1 ?_ | (refine wk2 ?_ ?_ <;> intro _) | refine wk4 ?_ | fail); all_goals (conv => whnf)
      exact ret_of (by simp) rfl
    · rw [he] at hk0
      rw [decide_eq_false hq]
      refine bs.pv (sx := nos) hk0 Tryz.func135 (by kernel_rfl) (by kernel_rfl) rfl ?_
      repeat' (first | refine wk1 ?_ | (refine wk2 ?_ ?_ <;> intro _) | refine wk4 ?_ | fail); all_goals (conv => whnf)
      exact ret_of rfl rfl
  · have hi : insE h p = h.err := by unfold insE; rw [if_neg he]
    rw [hi, decide_eq_false he]
    refine bs.pv (sx := nos) hk0 Tryz.func135 (by kernel_rfl) (by kernel_rfl) rfl ?_
    repeat' (first | refine wk1 ?_ | (refine wk2 ?_ ?_ <;> intro _) | refine wk4 ?_ | fail); all_goals (conv => whnf)
    exact ret_of rfl rfl
end Go.Proofs.YtdaliaafmcjikaaGreat
