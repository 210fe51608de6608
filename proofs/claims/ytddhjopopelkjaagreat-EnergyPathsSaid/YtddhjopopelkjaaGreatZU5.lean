/- A part of the proof: lemmas. -/
import Derived.Test.YtddhjopopelkjaaGreatZU4
import Derived.Test.YtddhjopopelkjaaGreatZw8
set_option linter.unusedVariables false
set_option linter.unusedSimpArgs false
namespace Go.Proofs.YtddhjopopelkjaaGreat
open Go Go.Sx
/-! ### The mean path -/
theorem area_pos {h : Hal} (g : h.fine) : 1 ≤ (areaV h ((0 : Nat) : Int)).1 ∧ 1 ≤ (areaV h ((0 : Nat) : Int)).2 := by
  have hle := g.le
  have h0 : 0 < h.ws.length := by omega
  have h1 : 0 < h.cs.length := by omega
  rw [areaV_wall h0]
  obtain ⟨n, sx, sy, hs⟩ := g.st 0 h1
  obtain ⟨q1, q2, q3⟩ := qn_bd g h1
  obtain ⟨r1, r2, r3⟩ := isq_spec q1
  have hq : 0 < qn h 0 := by
    unfold qn
    have hht := g.ht
    have e1 : (wlOf h.cs 0).dx = n * sx := by
      unfold Wl.dx
      have := hs.tx; have := hs.b1; have := hs.b3
      rw [W_eq (by omega) (by omega)]; omega
    have e2 : (wlOf h.cs 0).dy = n * sy := by
      unfold Wl.dy
      have := hs.ty; have := hs.b2; have := hs.b4
      rw [W_eq (by omega) (by omega)]; omega
    have hn := hs.hn
    have hnn : 0 < n * n := Int.mul_pos hn hn
    have p : 0 < (wlOf h.cs 0).dx * (wlOf h.cs 0).dx + (wlOf h.cs 0).dy * (wlOf h.cs 0).dy := by
      rw [e1, e2]
      rcases hs.hx with rfl | rfl | rfl <;> rcases hs.hy with rfl | rfl | rfl
      · exact absurd ⟨rfl, rfl⟩ hs.hxy
      all_goals (simp only [Int.mul_zero, Int.mul_one, Int.mul_neg, Int.neg_mul, Int.neg_neg]; omega)
    exact Int.mul_pos (Int.mul_pos p (by omega)) (by omega)
  have hi : 1 ≤ isq (qn h 0) := by
    by_cases c : 1 ≤ isq (qn h 0)
    · exact c
    · have : isq (qn h 0) = 0 := by omega
      rw [this] at r3
      omega
  unfold cr
  dsimp only
  split <;> omega
theorem sd_12 (h : Hal) (i : Nat) : sd h i = 1 ∨ sd h i = 2 := by unfold sd; split <;> simp
theorem srG_bd {h : Hal} {s : Stg} (g : Sit h s) : ∀ (c k : Nat) (r : Int × Int), k + c = nsN h → 0 ≤ r.1 → r.1 ≤ 700000000 * k → 0 ≤ r.2 → r.2 ≤ 700000000 * k →
    (r.1 ≤ (srG h (areaV h) k c r).1 ∧ (srG h (areaV h) k c r).1 ≤ 700000000 * (nsN h : Int)) ∧ (r.2 ≤ (srG h (areaV h) k c r).2 ∧ (srG h (areaV h) k c r).2 ≤ 700000000 * (nsN h : Int))
  | 0, k, r, hk, a, b, c, d => by rw [srG]; exact ⟨⟨Int.le_refl _, by omega⟩, ⟨Int.le_refl _, by omega⟩⟩
  | c + 1, k, r, hk, a, b, e, d => by
    obtain ⟨⟨x1, x2⟩, ⟨y1, y2⟩⟩ := areaV_bd g (sk_n (h := h) (i := k) (by omega))
    have hf : nsN h < 10000 := by obtain ⟨f1, f2, f3, f4, f5, f6⟩ := g.ok.f; unfold nsN; omega
    have hx : IntKind.i64.wrap (r.1 + IntKind.i64.wrap ((areaV h k).1 * sd h k)) = r.1 + (areaV h k).1 * sd h k ∧ 0 ≤ (areaV h k).1 * sd h k ∧ (areaV h k).1 * sd h k ≤ 600000002 := by
      rcases sd_12 h k with q | q <;> rw [q] <;> (rw [W_eq (n := (areaV h k).1 * _) (by omega) (by omega), W_eq (by omega) (by omega)]; omega)
    have hy : IntKind.i64.wrap (r.2 + IntKind.i64.wrap ((areaV h k).2 * sd h k)) = r.2 + (areaV h k).2 * sd h k ∧ 0 ≤ (areaV h k).2 * sd h k ∧ (areaV h k).2 * sd h k ≤ 600000002 := by
      rcases sd_12 h k with q | q <;> rw [q] <;> (rw [W_eq (n := (areaV h k).2 * _) (by omega) (by omega), W_eq (by omega) (by omega)]; omega)
    have ih := srG_bd g c (k + 1) (IntKind.i64.wrap (r.1 + IntKind.i64.wrap ((areaV h k).1 * sd h k)), IntKind.i64.wrap (r.2 + IntKind.i64.wrap ((areaV h k).2 * sd h k))) (by omega) (by dsimp only; omega) (by dsimp only; omega) (by dsimp only; omega) (by dsimp only; omega)
    rw [srG]
    dsimp only at ih
    omega
theorem srV_bd {h : Hal} {s : Stg} (g : Sit h s) : (1 ≤ (srV h).1 ∧ (srV h).1 ≤ 7000000000000) ∧ (1 ≤ (srV h).2 ∧ (srV h).2 ≤ 7000000000000) := by
  have hle := g.fine.le
  have hf : nsN h < 10000 := by obtain ⟨f1, f2, f3, f4, f5, f6⟩ := g.ok.f; unfold nsN; omega
  have hn : nsN h = (nsN h - 1) + 1 := by unfold nsN; omega
  obtain ⟨p1, p2⟩ := area_pos g.fine
  obtain ⟨⟨x1, x2⟩, ⟨y1, y2⟩⟩ := areaV_bd g (sk_n (h := h) (i := 0) (by omega))
  have hs : sd h 0 = 1 := by unfold sd; rw [if_pos (by omega)]
  have e : srV h = srG h (areaV h) 1 (nsN h - 1) ((areaV h ((0 : Nat) : Int)).1, (areaV h ((0 : Nat) : Int)).2) := by
    unfold srV
    rw [hn, srG, hs, Int.mul_one, Int.mul_one, W_eq (n := (areaV h ((0 : Nat) : Int)).1) (by omega) (by omega), W_eq (n := (areaV h ((0 : Nat) : Int)).2) (by omega) (by omega), Int.zero_add, Int.zero_add, W_eq (by omega) (by omega), W_eq (by omega) (by omega)]
    rfl
  have b := srG_bd g (nsN h - 1) 1 ((areaV h ((0 : Nat) : Int)).1, (areaV h ((0 : Nat) : Int)).2) (by omega) (by dsimp only; omega) (by dsimp only; omega) (by dsimp only; omega) (by dsimp only; omega)
  rw [e]
  dsimp only at b
  omega
noncomputable def sfV (h : Hal) (s : Stg) : Int × Int := if serr h s = 0 then srV h else (0, 0)
theorem d63 {h : Hal} (hk : h.ok) {s : Stg} (hs : s.few) : PCall Tryz.prog 63 [h.av, s.av] ⟨.tup [P2 (sfV h s).1 (sfV h s).2, I (serr h s)], []⟩ := by
  unfold sfV
  by_cases z : serr h s = 0
  · have g := sit_of hk hs z
    have h47 := c47 hk hs
    rw [z] at h47 ⊢
    rw [if_pos rfl]
    refine bs.pv (sx := nos) (one_ok h47 (one_ok (d137 g z) pt0_ok)) Tryz.func63 (by kernel_rfl) (by kernel_rfl) rfl ?_
    repeat' (first | refine wk3 ?_ | (refine wk2 ?_ ?_ <;> intro _) | refine wk4 ?_ | fail); all_goals (conv => whnf)
    exact ret_of rfl rfl
  · rw [if_neg z]
    refine bs.pv (sx := nos) (one_ok (c47 hk hs) pt0_ok) Tryz.func63 (by kernel_rfl) (by kernel_rfl) rfl ?_
    repeat' (first | refine wk3 ?_ | (refine wk2 ?_ ?_ <;> intro _) | refine wk4 ?_ | fail); all_goals (conv => whnf)
    exact ret_of rfl rfl
theorem d142 {h : Hal} (hk : h.ok) : PCall Tryz.prog 142 [h.av] ⟨I (IntKind.i64.wrap (twAreaR h.cs * h.ht)), []⟩ := by
  refine bs.pv (sx := nos) (one_ok (c46 hk.f) pt0_ok) Tryz.func142 (by kernel_rfl) (by kernel_rfl) rfl ?_
  repeat' (first | refine wk3 ?_ | (refine wk2 ?_ ?_ <;> intro _) | refine wk4 ?_ | fail); all_goals (conv => whnf)
  exact ret_int rfl
def abvU (n b : Int) : Int := IntKind.i64.wrap ((IntKind.i64.wrap (IntKind.i64.wrap (n + b) - 1)).tdiv b)
theorem d135 {n b : Int} (hb : 0 < b) : PCall Tryz.prog 135 [I n, I b] ⟨I (abvU n b), []⟩ := by
  have hz : ¬ b = 0 := by omega
  refine bs.pv (sx := nos) pt0_ok Tryz.func135 (by kernel_rfl) (by kernel_rfl) rfl ?_
  repeat' (first | refine wk3 ?_ | (refine wk2 ?_ ?_ <;> intro _) | refine wk4 ?_ | fail); all_goals (conv => whnf)
  all_goals exact ret_int rfl
def rAbU : List AV → Option PRes
  | [.int .i64 n, .int .i64 b] => asr (decide (0 < b)) ⟨I (abvU n b), []⟩
  | _ => none
/-- Twice the volume. -/
def vol2 (h : Hal) : Int := twArea h * h.ht
theorem vol_bd {h : Hal} (g : h.fine) : IntKind.i64.wrap (twArea h * h.ht) = vol2 h ∧ 0 ≤ vol2 h ∧ vol2 h ≤ 3000000000000 := by
  obtain ⟨a, b⟩ := twArea_bd g
  have ht := g.ht
  have p : 0 ≤ twArea h * h.ht := Int.mul_nonneg (by omega) (by omega)
  have q : twArea h * h.ht ≤ 600000000 * 5000 := Int.mul_le_mul b (by omega) (by omega) (by omega)
  exact ⟨W_eq (by omega) (by omega), p, by unfold vol2; omega⟩
noncomputable def mpV (h : Hal) : Int × Int := (2 * vol2 h / (srV h).2, (2 * vol2 h + (srV h).1 - 1) / (srV h).1)
noncomputable def mpS (h : Hal) (s : Stg) : Int × Int := if serr h s = 0 then mpV h else (0, 0)
theorem ceil_up {n b : Int} (h0 : 0 ≤ n) (hb : 0 < b) : -((-n) / b) = (n + b - 1) / b := by
  have e1 := Int.mul_ediv_add_emod (n + b - 1) b
  have e2 := Int.emod_nonneg (n + b - 1) (show b ≠ 0 by omega)
  have e3 := Int.emod_lt_of_pos (n + b - 1) hb
  have : (-n) / b = -((n + b - 1) / b) := by
    refine ((Int.ediv_emod_unique hb (r := (-n) - b * (-((n + b - 1) / b))) (q := -((n + b - 1) / b))).2 ⟨by omega, ?_, ?_⟩).1
    · rw [Int.mul_neg]; omega
    · rw [Int.mul_neg]; omega
  omega
set_option maxHeartbeats 4000000 in
theorem d64 {h : Hal} (hk : h.ok) {s : Stg} (hs : s.few) : PCall Tryz.prog 64 [h.av, s.av] ⟨.tup [P2 (mpS h s).1 (mpS h s).2, I (serr h s)], []⟩ := by
  unfold mpS
  by_cases z : serr h s = 0
  · have g := sit_of hk hs z
    have h63 := d63 hk hs
    have h44 := c44 hk
    have ea : areaP h = twArea h := by unfold areaP; rw [if_pos (err_of z)]
    unfold sfV at h63
    rw [if_pos z, z] at h63
    rw [ea, (vol_bd g.fine).1, err_of z] at h44
    rw [if_pos z, z]
    obtain ⟨_, v1, v2⟩ := vol_bd g.fine
    obtain ⟨⟨s1, s2⟩, ⟨s3, s4⟩⟩ := srV_bd g
    have hab : PCOK Tryz.prog (ins 135 rAbU pt0) := by
      refine ins_ok (fun a res h => ?_) pt0_ok
      unfold rAbU at h; split at h
      · obtain ⟨h1, h2⟩ := asr_some h; subst h2; exact d135 (of_decide_eq_true h1)
      · cases h
    have hn : mpV h = (IntKind.i64.wrap ((IntKind.i64.wrap (2 * vol2 h)).tdiv (srV h).2), abvU (IntKind.i64.wrap (2 * vol2 h)) (srV h).1) := by
      have w : IntKind.i64.wrap (2 * vol2 h) = 2 * vol2 h := W_eq (by omega) (by omega)
      have d1 := Int.ediv_nonneg (show 0 ≤ 2 * vol2 h by omega) (show 0 ≤ (srV h).2 by omega)
      have d2 := Int.ediv_le_self (srV h).2 (show 0 ≤ 2 * vol2 h by omega)
      have d3 := Int.ediv_nonneg (show 0 ≤ 2 * vol2 h + (srV h).1 - 1 by omega) (show 0 ≤ (srV h).1 by omega)
      have d4 := Int.ediv_le_self (srV h).1 (show 0 ≤ 2 * vol2 h + (srV h).1 - 1 by omega)
      unfold mpV abvU
      rw [w, Int.tdiv_eq_ediv_of_nonneg (by omega), W_eq (n := 2 * vol2 h / (srV h).2) (by omega) (by omega), W_eq (n := 2 * vol2 h + (srV h).1) (by omega) (by omega), W_eq (n := 2 * vol2 h + (srV h).1 - 1) (by omega) (by omega), Int.tdiv_eq_ediv_of_nonneg (by omega), W_eq (by omega) (by omega)]
    rw [hn]
    have ha : rAbU [I (IntKind.i64.wrap (2 * vol2 h)), I (srV h).1] = some ⟨I (abvU (IntKind.i64.wrap (2 * vol2 h)) (srV h).1), []⟩ := asr_of (by omega)
    have hk0 := one_ok h63 (one_ok h44 hab)
    generalize vol2 h = V at *
    generalize srV h = S at *
    refine bs.pv (sx := nos) hk0 Tryz.func64 (by kernel_rfl) (by kernel_rfl) rfl ?_
    repeat' (first | refine wk3 ?_ | (refine wk2 ?_ ?_ <;> intro _) | refine wk4 ?_ | fail); all_goals (conv => whnf)
    all_goals exact ret_of rfl rfl
  · rw [if_neg z]
    have h63 := d63 hk hs
    unfold sfV at h63
    rw [if_neg z] at h63
    refine bs.pv (sx := nos) (one_ok h63 pt0_ok) Tryz.func64 (by kernel_rfl) (by kernel_rfl) rfl ?_
    repeat' (first | refine wk3 ?_ | (refine wk2 ?_ ?_ <;> intro _) | refine wk4 ?_ | fail); all_goals (conv => whnf)
    exact ret_of rfl rfl
set_option maxHeartbeats 4000000 in
theorem d66 {h : Hal} {s : Stg} (g : Sit h s) : PCall Tryz.prog 66 [h.av] ⟨P2 (mpV h).1 (mpV h).2, []⟩ := by
  have h142 := d142 g.ok
  rw [← twArea_eq, (vol_bd g.fine).1] at h142
  obtain ⟨_, v1, v2⟩ := vol_bd g.fine
  obtain ⟨⟨s1, s2⟩, ⟨s3, s4⟩⟩ := srV_bd g
  have w : IntKind.i64.wrap (2 * vol2 h) = 2 * vol2 h := W_eq (by omega) (by omega)
  have h95 := c90 (n := IntKind.i64.wrap (2 * vol2 h)) (b := (srV h).2) (by omega) (by omega) (by omega)
  have h96 := c91 (n := IntKind.i64.wrap (2 * vol2 h)) (b := (srV h).1) (by omega) (by omega) (by omega)
  have hn : mpV h = (IntKind.i64.wrap (2 * vol2 h) / (srV h).2, -((-(IntKind.i64.wrap (2 * vol2 h))) / (srV h).1)) := by
    unfold mpV
    rw [w, ceil_up (by omega) (by omega)]
  rw [hn]
  have hk0 := one_ok (d65 g) (one_ok h142 (one_ok h95 (one_ok h96 pt0_ok)))
  refine bs.pv (sx := nos) hk0 Tryz.func66 (by kernel_rfl) (by kernel_rfl) rfl ?_
  repeat' (first | refine wk3 ?_ | (refine wk2 ?_ ?_ <;> intro _) | refine wk4 ?_ | fail); all_goals (conv => whnf)
  all_goals exact ret_of rfl rfl
/-! ### The law -/
noncomputable def kU5 (h : Hal) (s : Stg) : PC := ins 63 (one [h.av, s.av] ⟨.tup [P2 (sfV h s).1 (sfV h s).2, I (serr h s)], []⟩) (ins 64 (one [h.av, s.av] ⟨.tup [P2 (mpS h s).1 (mpS h s).2, I (serr h s)], []⟩) (ins 22 (one [h.av, s.av] ⟨I (serr h s), []⟩) (ins 19 (one [h.av] ⟨h.av, []⟩) (ins 20 (one [s.av] ⟨s.av, []⟩) pt0))))
theorem kU5_ok {h : Hal} {s : Stg} (hk : h.ok) (hs : s.few) : PCOK Tryz.prog (kU5 h s) := one_ok (d63 hk hs) (one_ok (d64 hk hs) (one_ok (d22 hk hs) (one_ok (c22f hk.f) (one_ok (c29 hs) pt0_ok))))
def r16 : List AV → Option PRes
  | [] => some ⟨Bo true, []⟩
  | _ => none
set_option maxRecDepth 100000 in
set_option maxHeartbeats 8000000 in
theorem d12 (h : Hal) (s : Stg) : PCall Tryz.prog 12 [.agg (stgL h s)] ⟨Bo true, []⟩ := by
  have haw : PCOK Tryz.prog (ins 16 r16 (ins 17 (one [.agg (stgL h s)] ⟨Bo (few3 h s), []⟩) pt0)) := by
    refine ins_ok (fun a res h => ?_) (one_ok (d17 h s) pt0_ok)
    unfold r16 at h; split at h <;> cases h; exact awake_ok
  by_cases r : few3 h s = true
  rotate_left
  · have r : few3 h s = false := by simpa using r
    rw [r] at haw
    refine bs.pv (sx := nos) haw Tryz.func12 (by kernel_rfl) (by kernel_rfl) rfl ?_
    repeat' (first | refine wk3 ?_ | (refine wk2 ?_ ?_ <;> intro _) | refine wk4 ?_ | fail); all_goals (conv => whnf)
    all_goals exact ret_bool rfl
  obtain ⟨hk, hs⟩ := few3_ok r
  have h17 := d17 h s
  rw [r] at h17
  have hU : PCOK Tryz.prog (ins 16 r16 (ins 17 (one [.agg (stgL h s)] ⟨Bo true, []⟩) (kU5 h s))) := by
    refine ins_ok (fun a res h => ?_) (one_ok h17 (kU5_ok hk hs))
    unfold r16 at h; split at h <;> cases h; exact awake_ok
  by_cases z : serr h s = 0
  rotate_left
  · have e1 : sfV h s = (0, 0) := by unfold sfV; rw [if_neg z]
    have e2 : mpS h s = (0, 0) := by unfold mpS; rw [if_neg z]
    unfold kU5 at hU
    rw [e1, e2] at hU
    generalize serr h s = E at *
    refine bs.pv (sx := nos) hU Tryz.func12 (by kernel_rfl) (by kernel_rfl) rfl ?_
    repeat' (first | refine wk3 ?_ | (refine wk2 ?_ ?_ <;> intro _) | refine wk4 ?_ | fail); all_goals (conv => whnf)
    all_goals first
      | exact ret_bool rfl
      | (refine ret_bool ?_; simp_all; done)
      | (exfalso; simp_all; done)
  have g := sit_of hk hs z
  have e1 : sfV h s = srV h := by unfold sfV; rw [if_pos z]
  have e2 : mpS h s = mpV h := by unfold mpS; rw [if_pos z]
  unfold kU5 at hU
  rw [e1, e2, z] at hU
  have hV : PCOK Tryz.prog (ins 65 (one [h.av] ⟨P2 (srV h).1 (srV h).2, []⟩) (ins 66 (one [h.av] ⟨P2 (mpV h).1 (mpV h).2, []⟩) (ins 16 r16 (ins 17 (one [.agg (stgL h s)] ⟨Bo true, []⟩) (ins 63 (one [h.av, s.av] ⟨.tup [P2 (srV h).1 (srV h).2, I 0], []⟩) (ins 64 (one [h.av, s.av] ⟨.tup [P2 (mpV h).1 (mpV h).2, I 0], []⟩) (ins 22 (one [h.av, s.av] ⟨I 0, []⟩) (ins 19 (one [h.av] ⟨h.av, []⟩) (ins 20 (one [s.av] ⟨s.av, []⟩) pt0))))))))) := one_ok (d65 g) (one_ok (d66 g) hU)
  generalize srV h = S at *
  generalize mpV h = M at *
  refine bs.pv (sx := nos) hV Tryz.func12 (by kernel_rfl) (by kernel_rfl) rfl ?_
  repeat' (first | refine wk3 ?_ | (refine wk2 ?_ ?_ <;> intro _) | refine wk4 ?_ | fail); all_goals (conv => whnf)
  all_goals first
    | exact ret_bool rfl
    | (refine ret_bool ?_; simp_all; done)
    | (exfalso; simp_all; done)
end Go.Proofs.YtddhjopopelkjaaGreat
