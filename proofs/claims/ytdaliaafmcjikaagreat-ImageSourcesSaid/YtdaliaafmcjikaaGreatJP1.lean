/- A part of the proof: lemmas. -/
import Derived.Test.YtdaliaafmcjikaaGreatJP0
set_option linter.unusedVariables false
set_option linter.unusedSimpArgs false
namespace Go.Proofs.YtdaliaafmcjikaaGreat
open Go Go.Sx
theorem conv_intL {y : Nat} {r : Int} (h : floatToIntVal .f64 y .i64 = some r) : convFAV (tget tbl) 275 3 (.flt .f64 y) = some (I r) := by
  unfold floatToIntVal at h
  show (match (FloatKind.f64.decode y).toInt .zero with
    | some n => cond (decide (IntKind.i64.min ≤ n ∧ n ≤ IntKind.i64.max)) (some (AV.int .i64 n)) none
    | none => none) = _
  split at h
  · rename_i n hn
    rw [hn]
    dsimp only
    split at h
    · rename_i hr
      cases h
      rw [decide_eq_true hr]; rfl
    · cases h
  · cases h
set_option maxRecDepth 100000 in
set_option maxHeartbeats 8000000 in
theorem d211 {n : Int} (h0 : 0 ≤ n) (h1 : n < 4611686018427387000) : PCall Tryz.prog 141 [I n] ⟨I (isq n), []⟩ := by
  obtain ⟨y, r0, e1, e2, e3, e4⟩ := sqrt_big h0 h1
  refine bs.pv (sx := nos) (one_ok (c202 e1) pt0_ok) Tryz.func141 (by kernel_rfl) (by kernel_rfl) rfl ?_
  have hc := conv_intL e2
  repeat' (first | refine wk1 ?_ | (refine wk2 ?_ ?_ <;> intro _) | refine wk4 ?_ | fail); all_goals (conv => whnf)
  split
  rotate_left
  · rename_i hx
    exfalso
    change ret (convFAV (tget tbl) 275 3 (.flt .f64 y)) = none at hx
    rw [hc] at hx
    cases hx
  rename_i x hx
  change ret (convFAV (tget tbl) 275 3 (.flt .f64 y)) = some x at hx
  rw [hc] at hx
  cases hx
  repeat' (first | refine wk1 ?_ | (refine wk2 ?_ ?_ <;> intro _) | refine wk4 ?_ | fail); all_goals (conv => whnf)
  refine loopV (S := Int) (fun t => t.toNat) (fun t => [(0, I n), (3, I t)]) (fun _ => []) 0 0 (fun t => 0 ≤ t ∧ t ≤ 2147483648) r0 ⟨e3, e4⟩ (Nat.le_refl _) [] rfl (kps) (kps) ?_
  clear e1 e2 e3 e4
  rintro r ⟨g1, g2⟩
  try dsimp only at g1 g2 ⊢
  have hb := sq_bd g1 g2
  have hw : IntKind.i64.wrap (r * r) = r * r := W_eq (by omega) (by omega)
  refine bs.av (sx := nos) pt0_ok ?_
  by_cases hc : n < r * r
  · have hp : 0 < r := by
      rcases Int.lt_or_le 0 r with h | h
      · exact h
      · have : r = 0 := by omega
        subst this; omega
    repeat' (first | refine wk1 ?_ | (refine wk2 ?_ ?_ <;> intro _) | refine wk4 ?_ | fail); all_goals (conv => whnf)
    have hv : IntKind.i64.wrap (r - 1) = r - 1 := W_eq (by omega) (by omega)
    exact Done.mk ⟨_, [], rfl, kps, kps, ⟨by omega, by omega⟩, by omega⟩
  · repeat' (first | refine wk1 ?_ | (refine wk2 ?_ ?_ <;> intro _) | refine wk4 ?_ | fail); all_goals (conv => whnf)
    refine loopV (S := Int) (fun t => (n - t).toNat) (fun t => [(0, I n), (3, I t)]) (fun _ => []) 0 0 (fun t => 0 ≤ t ∧ t * t ≤ n) r ⟨g1, by omega⟩ (Nat.le_refl _) [] rfl (kps) (kps) ?_
    clear hc hw hb g1 g2
    rintro r ⟨g1, g2⟩
    try dsimp only at g1 g2 ⊢
    have g3 : r < 2147483648 := sq_lt (by omega) (by omega) g1
    have hw1 : IntKind.i64.wrap (r + 1) = r + 1 := W_eq (by omega) (by omega)
    have hb := sq_bd (r := r + 1) (B := 2147483648) (by omega) (by omega)
    have hw2 : IntKind.i64.wrap (IntKind.i64.wrap (r + 1) * IntKind.i64.wrap (r + 1)) = (r + 1) * (r + 1) := by rw [hw1]; exact W_eq (by omega) (by omega)
    refine bs.av (sx := nos) pt0_ok ?_
    by_cases hc : (r + 1) * (r + 1) ≤ n
    · repeat' (first | refine wk1 ?_ | (refine wk2 ?_ ?_ <;> intro _) | refine wk4 ?_ | fail); all_goals (conv => whnf)
      have hrn : r < n := by
        have : (r + 1) * (r + 1) = r * r + 2 * r + 1 := by grind
        have hz := Int.mul_nonneg g1 g1
        omega
      exact Done.mk ⟨_, [], rfl, kps, kps, ⟨by omega, by rw [hw1]; exact hc⟩, by rw [hw1]; omega⟩
    · repeat' (first | refine wk1 ?_ | (refine wk2 ?_ ?_ <;> intro _) | refine wk4 ?_ | fail); all_goals (conv => whnf)
      exact ret_int (isq_unique h0 g1 g2 (by omega))
set_option maxRecDepth 100000 in
set_option maxHeartbeats 8000000 in
theorem d172 {n : Int} (h0 : 0 ≤ n) (h1 : n < 4611686018427387000) : PCall Tryz.prog 107 [I n] ⟨I (isq n), []⟩ := by
  refine bs.pv (sx := nos) pt0_ok Tryz.func107 (by kernel_rfl) (by kernel_rfl) rfl ?_
  conv => whnf
  refine loopV (S := Nat × Int) (fun t => t.1) (fun t => [(0, I n), (3, I t.2), (4, I (bk t.1))]) (fun _ => []) 0 0 (fun t => t.1 ≤ 31 ∧ (0 ≤ t.2 ∧ t.2 + ((2 ^ t.1 : Nat) : Int) ≤ 2147483648) ∧ t.2 * t.2 ≤ n ∧ n < (t.2 + ((2 ^ t.1 : Nat) : Int)) * (t.2 + ((2 ^ t.1 : Nat) : Int))) (31, 0) ⟨by decide, ⟨by decide, by decide⟩, by simpa using h0, by
    have : ((0 : Int) + ((2 ^ 31 : Nat) : Int)) * (0 + ((2 ^ 31 : Nat) : Int)) = 4611686018427387904 := by decide
    show n < ((0 : Int) + ((2 ^ 31 : Nat) : Int)) * (0 + ((2 ^ 31 : Nat) : Int))
    omega⟩ (Nat.le_refl _) [] rfl (kps) (kps) ?_
  rintro ⟨k, r⟩ ⟨g0, ⟨g1, g5⟩, g2, g3⟩
  dsimp only at g0 g1 g2 g3 g5 ⊢
  have g4 : r < 2147483648 := sq_lt (by omega) (by omega) g1
  refine bs.av (sx := nos) pt0_ok ?_
  cases k with
  | zero =>
    repeat' (first | refine wk1 ?_ | (refine wk2 ?_ ?_ <;> intro _) | refine wk4 ?_ | fail); all_goals (conv => whnf)
    exact ret_int (isq_unique h0 g1 g2 (by simpa using g3))
  | succ k =>
    have hb : 2 ^ k ≤ 2 ^ 30 := Nat.pow_le_pow_right (by decide) (by omega)
    have hp : 0 < 2 ^ k := Nat.pow_pos (by decide)
    have hh : IntKind.i64.wrap ((bk (k + 1)).tdiv 2) = bk k := (bk_half k).resolve_right (by omega)
    have hk1 : bk (k + 1) = ((2 ^ k : Nat) : Int) := rfl
    have e2 : ((2 ^ (k + 1) : Nat) : Int) = 2 * ((2 ^ k : Nat) : Int) := by rw [Nat.pow_succ]; omega
    rw [e2] at g3 g5
    rw [hk1] at hh ⊢
    generalize hbk : ((2 ^ k : Nat) : Int) = b at *
    have hb' : 0 < b ∧ b ≤ 1073741824 := by omega
    have hw1 : IntKind.i64.wrap (r + b) = r + b := W_eq (by omega) (by omega)
    have hq := sq_bd (r := r + b) (B := 2147483648) (by omega) (by omega)
    have hw2 : IntKind.i64.wrap (IntKind.i64.wrap (r + b) * IntKind.i64.wrap (r + b)) = (r + b) * (r + b) := by rw [hw1]; exact W_eq (by omega) (by omega)
    by_cases hc : (r + b) * (r + b) ≤ n
    · repeat' (first | refine wk1 ?_ | (refine wk2 ?_ ?_ <;> intro _) | refine wk4 ?_ | fail); all_goals (conv => whnf)
      exact Done.mk ⟨(k, IntKind.i64.wrap (r + b)), [], rfl, by rw [← hh]; exact kps, kps, ⟨by omega, ⟨by dsimp only; omega, by dsimp only; rw [hbk, hw1]; omega⟩, by dsimp only; rw [hw1]; exact hc, by
        dsimp only
        rw [hw1]
        have : r + b + b = r + 2 * b := by omega
        rw [hbk, this]; exact g3⟩, by dsimp only; omega⟩
    · repeat' (first | refine wk1 ?_ | (refine wk2 ?_ ?_ <;> intro _) | refine wk4 ?_ | fail); all_goals (conv => whnf)
      exact Done.mk ⟨(k, r), [], rfl, by rw [← hh]; exact kps, kps, ⟨by omega, ⟨g1, by dsimp only; rw [hbk]; omega⟩, g2, by dsimp only; rw [hbk]; omega⟩, by dsimp only; omega⟩
set_option maxHeartbeats 4000000 in
theorem d173 {n : Int} (h0 : 0 ≤ n) (h1 : n < 4611686018427387000) : PCall Tryz.prog 108 [I n] ⟨I (if isq n * isq n < n then isq n + 1 else isq n), []⟩ := by
  obtain ⟨g1, g2, g3⟩ := isq_spec h0
  have g4 : isq n < 2147483648 := sq_lt (by omega) (by omega) g1
  have hb := sq_bd g1 (show isq n ≤ 2147483648 by omega)
  have hw : IntKind.i64.wrap (isq n * isq n) = isq n * isq n := W_eq (by omega) (by omega)
  have hw2 : IntKind.i64.wrap (isq n + 1) = isq n + 1 := W_eq (by omega) (by omega)
  refine bs.pv (sx := nos) (one_ok (d172 h0 h1) pt0_ok) Tryz.func108 (by kernel_rfl) (by kernel_rfl) rfl ?_
  by_cases hc : isq n * isq n < n
  · rw [if_pos hc]
    repeat' (first | refine wk1 ?_ | (refine wk2 ?_ ?_ <;> intro _) | refine wk4 ?_ | fail); all_goals (conv => whnf)
    exact ret_int hw2
  · rw [if_neg hc]
    repeat' (first | refine wk1 ?_ | (refine wk2 ?_ ?_ <;> intro _) | refine wk4 ?_ | fail); all_goals (conv => whnf)
    exact ret_int rfl
structure Pth where
  ss : List Int
  ps : List (Int × Int × Int × Int)
  sq : Int
abbrev hp4 (p : Int × Int × Int × Int) : List AV := [I p.1, I p.2.1, I p.2.2.1, I p.2.2.2]
abbrev Pth.av (p : Pth) : AV := .agg [.isl 1 (nl p.ss), .isl 4 (p.ps.map hp4), I p.sq]
def pthE (p : Pth) : Int := if (p.ps.length : Int) = p.ss.length then (if 4 < (p.ss.length : Int) then 8 else (if within p.sq 1 24300000000 then 0 else 2)) else 10
theorem pthE_zero {p : Pth} (h : pthE p = 0) : (p.ss.length ≤ 4 ∧ p.ps.length = p.ss.length) ∧ 1 ≤ p.sq ∧ p.sq ≤ 24300000000 := by
  unfold pthE at h
  split at h
  · split at h
    · cases h
    · split at h
      · rename_i a b c
        have := within_iff.1 c
        omega
      · cases h
  · cases h
set_option maxHeartbeats 4000000 in
theorem d92 (p : Pth) : PCall Tryz.prog 41 [p.av] ⟨I (pthE p), []⟩ := by
  have l1 : (p.ps.map hp4).length = p.ps.length := by simp
  have l2 := nl_length p.ss
  unfold pthE
  by_cases c1 : (p.ps.length : Int) = p.ss.length
  · rw [if_pos c1]
    by_cases c2 : 4 < (p.ss.length : Int)
    · rw [if_pos c2]
      refine bs.pv (sx := nos) kV0_ok Tryz.func41 (by kernel_rfl) (by kernel_rfl) rfl ?_
      repeat' (first | refine wk3 ?_ | (refine wk2 ?_ ?_ <;> intro _) | refine wk4 ?_ | fail); all_goals (conv => whnf)
      all_goals exact ret_int rfl
    · rw [if_neg c2]
      cases hw : within p.sq 1 24300000000
      all_goals
        refine bs.pv (sx := nos) kV0_ok Tryz.func41 (by kernel_rfl) (by kernel_rfl) rfl ?_
        repeat' (first | refine wk3 ?_ | (refine wk2 ?_ ?_ <;> intro _) | refine wk4 ?_ | fail); all_goals (conv => whnf)
      all_goals first
        | exact ret_int rfl
        | (exfalso; simp_all; done)
  · rw [if_neg c1]
    refine bs.pv (sx := nos) kV0_ok Tryz.func41 (by kernel_rfl) (by kernel_rfl) rfl ?_
    repeat' (first | refine wk3 ?_ | (refine wk2 ?_ ?_ <;> intro _) | refine wk4 ?_ | fail); all_goals (conv => whnf)
    all_goals exact ret_int rfl
theorem d210 (n lo hi : Int) : PCall Tryz.prog 101 [I n, I lo, I hi] ⟨Bo (within n lo hi), []⟩ := by
  refine bs.pv (sx := nos) pt0_ok Tryz.func101 (by kernel_rfl) (by kernel_rfl) rfl ?_
  repeat' (first | refine wk3 ?_ | (refine wk2 ?_ ?_ <;> intro _) | refine wk4 ?_ | fail); all_goals (conv => whnf)
  all_goals exact ret_bool (by simp_all [within] <;> omega)
theorem d209 (b : Bool) (e : Int) : PCall Tryz.prog 80 [Bo b, I e] ⟨I (unl b e), []⟩ := by
  refine bs.pv (sx := nos) pt0_ok Tryz.func80 (by kernel_rfl) (by kernel_rfl) rfl ?_
  repeat' (first | refine wk3 ?_ | (refine wk2 ?_ ?_ <;> intro _) | refine wk4 ?_ | fail); all_goals (conv => whnf)
  all_goals exact ret_int (by simp_all [unl])
noncomputable def lenV (sq : Int) : Int × Int := (isq (sq * 100000000), cr (sq * 100000000))
theorem lenV_bd {sq : Int} (h0 : 1 ≤ sq) (h1 : sq ≤ 24300000000) : (0 ≤ (lenV sq).1 ∧ (lenV sq).1 < 2147483648) ∧ (lenV sq).1 ≤ (lenV sq).2 ∧ (lenV sq).2 ≤ (lenV sq).1 + 1 := by
  obtain ⟨g1, g2, g3⟩ := isq_spec (n := sq * 100000000) (by omega)
  have g4 : isq (sq * 100000000) < 2147483648 := sq_lt (by omega) (by omega) g1
  unfold lenV cr
  dsimp only
  split <;> omega
set_option maxHeartbeats 4000000 in
theorem d163 {p : Pth} (h : pthE p = 0) : PCall Tryz.prog 98 [p.av] ⟨P2 (lenV p.sq).1 (lenV p.sq).2, []⟩ := by
  obtain ⟨_, s1, s2⟩ := pthE_zero h
  have w1 : IntKind.i64.wrap (p.sq * 100000000) = p.sq * 100000000 := W_eq (by omega) (by omega)
  obtain ⟨g1, g2, g3⟩ := isq_spec (n := p.sq * 100000000) (by omega)
  have g4 : isq (p.sq * 100000000) < 2147483648 := sq_lt (by omega) (by omega) g1
  have hb := sq_bd g1 (show isq (p.sq * 100000000) ≤ 2147483648 by omega)
  have h0 := one_ok (d211 (n := p.sq * 100000000) (by omega) (by omega)) pt0_ok
  unfold lenV cr
  rw [← w1] at g1 g2 g3 g4 hb h0 ⊢
  have w2 : IntKind.i64.wrap (isq (IntKind.i64.wrap (p.sq * 100000000)) * isq (IntKind.i64.wrap (p.sq * 100000000))) = isq (IntKind.i64.wrap (p.sq * 100000000)) * isq (IntKind.i64.wrap (p.sq * 100000000)) := W_eq (by omega) (by omega)
  have w3 : IntKind.i64.wrap (isq (IntKind.i64.wrap (p.sq * 100000000)) + 1) = isq (IntKind.i64.wrap (p.sq * 100000000)) + 1 := W_eq (by omega) (by omega)
  generalize isq (IntKind.i64.wrap (p.sq * 100000000)) = r at *
  dsimp only
  by_cases c : r * r < IntKind.i64.wrap (p.sq * 100000000)
  · rw [if_pos c, ← w3]
    rw [← w2] at c
    refine bs.pv (sx := nos) h0 Tryz.func98 (by kernel_rfl) (by kernel_rfl) rfl ?_
    repeat' (first | refine wk3 ?_ | (refine wk2 ?_ ?_ <;> intro _) | refine wk4 ?_ | fail); all_goals (conv => whnf)
    all_goals exact ret_of rfl rfl
  · rw [if_neg c]
    rw [← w2] at c
    refine bs.pv (sx := nos) h0 Tryz.func98 (by kernel_rfl) (by kernel_rfl) rfl ?_
    repeat' (first | refine wk3 ?_ | (refine wk2 ?_ ?_ <;> intro _) | refine wk4 ?_ | fail); all_goals (conv => whnf)
    all_goals exact ret_of rfl rfl
noncomputable def lenP (p : Pth) : Int × Int := if pthE p = 0 then lenV p.sq else (0, 0)
theorem d99 {sq : Int} (s1 : 1 ≤ sq) (s2 : sq ≤ 24300000000) : PCall Tryz.prog 42 [I sq] ⟨P2 (lenV sq).1 (lenV sq).2, []⟩ := by
  have w1 : IntKind.i64.wrap (sq * 100000000) = sq * 100000000 := W_eq (by omega) (by omega)
  have h0 := one_ok (d172 (n := sq * 100000000) (by omega) (by omega)) (one_ok (d173 (n := sq * 100000000) (by omega) (by omega)) pt0_ok)
  unfold lenV cr
  rw [← w1] at h0 ⊢
  dsimp only
  refine bs.pv (sx := nos) h0 Tryz.func42 (by kernel_rfl) (by kernel_rfl) rfl ?_
  repeat' (first | refine wk3 ?_ | (refine wk2 ?_ ?_ <;> intro _) | refine wk4 ?_ | fail); all_goals (conv => whnf)
  exact ret_of rfl rfl
abbrev flOk (n b : Int) : Prop := 0 < b ∧ -9223372036854775807 ≤ n ∧ n ≤ 9223372036854775807
set_option maxHeartbeats 4000000 in
theorem d95 {n b : Int} (h : flOk n b) : PCall Tryz.prog 109 [I n, I b] ⟨I (n / b), []⟩ := by
  obtain ⟨hb, h0, h1⟩ := h
  have hq := Int.natAbs_tdiv_le_natAbs n b
  have e : IntKind.i64.wrap (n.tdiv b) = n.tdiv b := W_eq (by omega) (by omega)
  have hz : ¬ b = 0 := by omega
  refine bs.pv (sx := nos) pt0_ok Tryz.func109 (by kernel_rfl) (by kernel_rfl) rfl ?_
  rcases fl_cases (n := n) hb with ⟨c1, c2⟩ | ⟨c1, c2⟩
  · have e5 : IntKind.i64.wrap (n.tdiv b - 1) = n.tdiv b - 1 := W_eq (by omega) (by omega)
    rw [c2]
    repeat' (first | refine wk1 ?_ | (refine wk2 ?_ ?_ <;> intro _) | refine wk4 ?_ | fail); all_goals (conv => whnf)
    all_goals exact ret_int (by rw [e, e5])
  · rw [c2]
    repeat' (first | refine wk1 ?_ | (refine wk2 ?_ ?_ <;> intro _) | refine wk4 ?_ | fail); all_goals (conv => whnf)
    all_goals exact ret_int (by omega)
set_option maxHeartbeats 4000000 in
theorem d96 {n b : Int} (h : flOk n b) : PCall Tryz.prog 110 [I n, I b] ⟨I (-((-n) / b)), []⟩ := by
  obtain ⟨hb, h0, h1⟩ := h
  have e1 : IntKind.i64.wrap (0 - n) = -n := by rw [W_eq (by omega) (by omega)]; omega
  have hk := one_ok (d95 (n := -n) (b := b) ⟨hb, by omega, by omega⟩) pt0_ok
  rw [← e1] at hk
  refine bs.pv (sx := nos) hk Tryz.func110 (by kernel_rfl) (by kernel_rfl) rfl ?_
  have hq : (-n / b).natAbs ≤ (-n).natAbs := Int.natAbs_ediv_le_natAbs _ _
  repeat' (first | refine wk1 ?_ | (refine wk2 ?_ ?_ <;> intro _) | refine wk4 ?_ | fail); all_goals (conv => whnf)
  rw [e1]
  exact ret_int (by rw [W_eq (by omega) (by omega)]; omega)
def rFl : List AV → Option PRes
  | [.int .i64 n, .int .i64 b] => asr (decide (flOk n b)) ⟨I (n / b), []⟩
  | _ => none
def rCl : List AV → Option PRes
  | [.int .i64 n, .int .i64 b] => asr (decide (flOk n b)) ⟨I (-((-n) / b)), []⟩
  | _ => none
theorem fl_hit {n b : Int} (h : flOk n b) : rFl [I n, I b] = some ⟨I (n / b), []⟩ := asr_of h
theorem cl_hit {n b : Int} (h : flOk n b) : rCl [I n, I b] = some ⟨I (-((-n) / b)), []⟩ := asr_of h
end Go.Proofs.YtdaliaafmcjikaaGreat
