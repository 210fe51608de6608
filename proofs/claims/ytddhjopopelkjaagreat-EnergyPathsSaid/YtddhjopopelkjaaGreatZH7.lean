/- A part of the proof: lemmas. -/
import Derived.Test.YtddhjopopelkjaaGreatZH6
set_option linter.unusedVariables false
set_option linter.unusedSimpArgs false
namespace Go.Proofs.YtddhjopopelkjaaGreat
open Go Go.Sx
/-! ### Hits as the reference reckons them -/
def rFq : List AV → Option PRes
  | [.int .i64 n, .int .i64 b] => asr (decide (0 < b ∧ -9223372036854775807 ≤ n ∧ n ≤ 9223372036854775807)) ⟨I (n / b), []⟩
  | _ => none
def rCq : List AV → Option PRes
  | [.int .i64 n, .int .i64 b] => asr (decide (0 < b ∧ -9223372036854775807 ≤ n ∧ n ≤ 9223372036854775807)) ⟨I (-((-n) / b)), []⟩
  | _ => none
theorem fq_hit {n b : Int} (h : 0 < b ∧ -9223372036854775807 ≤ n ∧ n ≤ 9223372036854775807) : rFq [I n, I b] = some ⟨I (n / b), []⟩ := asr_of h
theorem cq_hit {n b : Int} (h : 0 < b ∧ -9223372036854775807 ≤ n ∧ n ≤ 9223372036854775807) : rCq [I n, I b] = some ⟨I (-((-n) / b)), []⟩ := asr_of h
theorem fc_ok {pt : PC} (h : PCOK Tryz.prog pt) : PCOK Tryz.prog (ins 95 rFq (ins 96 rCq pt)) := by
  refine ins_ok (fun a res h => ?_) (ins_ok (fun a res h => ?_) h)
  · unfold rFq at h; split at h
    · obtain ⟨h1, h2⟩ := asr_some h; subst h2
      have := of_decide_eq_true h1
      exact c90 this.1 this.2.1 this.2.2
    · cases h
  · unfold rCq at h; split at h
    · obtain ⟨h1, h2⟩ := asr_some h; subst h2
      have := of_decide_eq_true h1
      exact c91 this.1 this.2.1 this.2.2
    · cases h
theorem lo_raw2 {S A : Int × Int} (r : En.Rv S A) : IntKind.i64.wrap (1000000 * imax 0 (IntKind.i64.wrap (S.1 - A.2))) / S.1 = En.loSh S A ∧ -9223372036854775807 ≤ IntKind.i64.wrap (1000000 * imax 0 (IntKind.i64.wrap (S.1 - A.2))) ∧ IntKind.i64.wrap (1000000 * imax 0 (IntKind.i64.wrap (S.1 - A.2))) ≤ 9223372036854775807 := by
  obtain ⟨s1, s2, s3, a1, a2, a3, a4⟩ := r
  unfold En.loSh
  rw [W_eq (n := S.1 - A.2) (by omega) (by omega), imaxH_eq, W_eq (n := 1000000 * _) (by omega) (by omega)]
  exact ⟨rfl, by omega, by omega⟩
theorem hi_raw2 {S A : Int × Int} (r : En.Rv S A) : -((-(IntKind.i64.wrap (1000000 * IntKind.i64.wrap (S.2 - A.1)))) / S.2) = En.hiSh S A ∧ -9223372036854775807 ≤ IntKind.i64.wrap (1000000 * IntKind.i64.wrap (S.2 - A.1)) ∧ IntKind.i64.wrap (1000000 * IntKind.i64.wrap (S.2 - A.1)) ≤ 9223372036854775807 := by
  obtain ⟨s1, s2, s3, a1, a2, a3, a4⟩ := r
  unfold En.hiSh
  rw [W_eq (n := S.2 - A.1) (by omega) (by omega), W_eq (n := 1000000 * _) (by omega) (by omega), ceil_up (by omega) (by omega)]
  exact ⟨rfl, by omega, by omega⟩
theorem d71e {h : Hal} {s : Stg} {b : Int} (g : Sit h s) (hb : within b 0 3 = true) (a v : Int) (e : ¬ 1 ≤ (absV h s b).1) : PCall Tryz.prog 71 [h.av, s.av, P3 b a v] ⟨.tup [P2 0 0, I 11], []⟩ := by
  have h146 := c31 g hb
  obtain ⟨s1, s2, s3, a1, a2, a3, a4⟩ := rv_of g b
  have e0 : (absV h s b).1 = 0 := by omega
  have hk0 := one_ok h146 (one_ok (d65 g) pt0_ok)
  generalize absV h s b = A at *
  generalize srV h = S at *
  refine bs.pv (sx := nos) hk0 Tryz.func71 (by kernel_rfl) (by kernel_rfl) rfl ?_
  repeat' (first | refine wk3 ?_ | (refine wk2 ?_ ?_ <;> intro _) | refine wk4 ?_ | fail); all_goals (conv => whnf)
  all_goals exact ret_of rfl rfl
set_option maxRecDepth 100000 in
set_option maxHeartbeats 8000000 in
theorem d71 {h : Hal} {s : Stg} {b a v : Int} (r : Rg h s b a v) : PCall Tryz.prog 71 [h.av, s.av, P3 b a v] ⟨.tup [P2 (hitX h s b).1.1 (hitX h s b).1.2, I (hitX h s b).2], []⟩ := by
  have g := r.g
  obtain ⟨hb, _, w1, w2⟩ := air_iff r.air
  have h146 := c31 g hb
  have h65 := d65 g
  have rv := rv_of g b
  have hl := En.loSh_bd rv
  have hh := En.hiSh_bd rv
  have hlo := fun k => En.hits_lo (k := k) rv
  obtain ⟨el, f1⟩ := lo_raw2 rv
  obtain ⟨eh, f2⟩ := hi_raw2 rv
  obtain ⟨s1, s2, s3, a1, a2, a3, a4⟩ := rv
  have pos := r.pos
  unfold hitX En.hitsV
  have hk0 := one_ok h146 (one_ok h65 (fc_ok pt0_ok))
  generalize srV h = S at *
  generalize absV h s b = A at *
  have t1 := fq_hit ⟨(by omega : 0 < S.1), f1⟩
  have t2 := cq_hit ⟨(by omega : 0 < S.2), f2⟩
  rw [el] at t1
  rw [eh] at t2
  generalize En.loSh S A = lo at *
  generalize En.hiSh S A = hi at *
  refine bs.pv (sx := nos) hk0 Tryz.func71 (by kernel_rfl) (by kernel_rfl) rfl ?_
  repeat' (first | refine wk3 ?_ | (refine wk2 ?_ ?_ <;> intro _) | refine wk4 ?_ | fail); all_goals (conv => whnf)
  refine loopV (S := Nat × Int × Int) (fun t => 1001 - t.1) (fun t => [(6, .ptr 3 0 0), (10, I lo), (11, I hi), (12, .ptr 36 0 0), (13, I t.2.2)]) (fun t => [(36, .row 2 [[I 0, I t.2.1]] true false), (3, .row 2 [[I 0, I 0]] true false)]) 37 37 (fun t => t.2.1 = t.1 ∧ t.1 ≤ 1000 ∧ (0 ≤ t.2.2 ∧ t.2.2 ≤ 1000000000000) ∧ En.hitG (En.dC hi) t.1 (1001 - t.1) t.2.2 = En.hitsC hi) (0, 0, 1000000000000) ⟨rfl, Nat.zero_le _, by dsimp only; omega, rfl⟩ (Nat.le_refl _) [] rfl (kps) (kps) ?_
  rintro ⟨k, i, e⟩ ⟨hi1, hk1, he, hS⟩
  dsimp only at hi1 hk1 he hS ⊢
  subst hi1
  obtain ⟨⟨q1, q2⟩, q3, q4⟩ := En.dC_bd hh.1 hh.2 he.1 he.2
  have x1 : IntKind.i64.wrap (e * hi) = e * hi := W_eq (by omega) (by omega)
  have t3 := cq_hit (n := IntKind.i64.wrap (e * hi)) (b := 1000000) (by omega)
  have x2 : -((-(IntKind.i64.wrap (e * hi))) / 1000000) = En.dC hi e := by rw [x1, ceil_up q1 (by omega), show e * hi + 1000000 - 1 = e * hi + 999999 by omega]; rfl
  rw [x2] at t3
  rw [En.hitG_step (by omega)] at hS
  refine bs.av (sx := nos) hk0 ?_
  by_cases c : e ≤ 1000000
  · rw [if_pos c] at hS
    obtain ⟨j0, hj0, hjk⟩ := hlo k hS.symm
    rw [← hS, hj0]
    clear hlo t3 x2 x1 q1 q2 q3 q4 hS
    repeat' (first | refine wk3 ?_ | (refine wk2 ?_ ?_ <;> intro _) | refine wk4 ?_ | fail); all_goals (conv => whnf)
    refine loopV (S := Nat × Int × Int) (fun t => 1001 - t.1) (fun t => [(6, .ptr 3 0 0), (10, I lo), (12, .ptr 36 0 0), (14, I t.2.2)]) (fun t => [(36, .row 2 [[I t.2.1, I k]] true false), (3, .row 2 [[I 0, I 0]] true false)]) 37 37 (fun t => t.2.1 = t.1 ∧ t.1 ≤ 1000 ∧ (0 ≤ t.2.2 ∧ t.2.2 ≤ 1000000000000) ∧ En.hitG (En.dF lo) t.1 (1001 - t.1) t.2.2 = some j0) (0, 0, 1000000000000) ⟨rfl, Nat.zero_le _, by dsimp only; omega, hj0⟩ (Nat.le_refl _) [] rfl (kps) (kps) ?_
    clear he hj0 c e
    rintro ⟨m, i, e⟩ ⟨hi1, hm1, he, hS⟩
    dsimp only at hi1 hm1 he hS ⊢
    subst hi1
    obtain ⟨⟨q1, q2⟩, q3, q4⟩ := En.dF_bd hl.1 hl.2 he.1 he.2
    have x1 : IntKind.i64.wrap (e * lo) = e * lo := W_eq (by omega) (by omega)
    have t3 := fq_hit (n := IntKind.i64.wrap (e * lo)) (b := 1000000) (by omega)
    have x2 : IntKind.i64.wrap (e * lo) / 1000000 = En.dF lo e := by rw [x1]; rfl
    rw [x2] at t3
    rw [En.hitG_step (by omega)] at hS
    refine bs.av (sx := nos) hk0 ?_
    by_cases c : e ≤ 1000000
    · rw [if_pos c] at hS
      cases hS
      repeat' (first | refine wk3 ?_ | (refine wk2 ?_ ?_ <;> intro _) | refine wk4 ?_ | fail); all_goals (conv => whnf)
      exact ret_of rfl rfl
    · rw [if_neg c] at hS
      have cm : m + 1 ≤ 1000 := by have := (En.hitG_ge hS); omega
      repeat' (first | refine wk3 ?_ | (refine wk2 ?_ ?_ <;> intro _) | refine wk4 ?_ | fail); all_goals (conv => whnf)
      exact Done.mk ⟨(m + 1, _, _), [], rfl, kps, kps, ⟨W_succ (by omega), cm, ⟨q3, q4⟩, hS⟩, by dsimp only; omega⟩
  · rw [if_neg c] at hS
    by_cases ck : k = 1000
    · subst ck
      rw [show 1001 - (1000 + 1) = 0 from rfl, En.hitG] at hS
      rw [← hS]
      clear hS
      repeat' (first | refine wk3 ?_ | (refine wk2 ?_ ?_ <;> intro _) | refine wk4 ?_ | fail); all_goals (conv => whnf)
      exact ret_of rfl rfl
    · have x3 : IntKind.i64.wrap ((k : Int) + 1) = (k : Int) + 1 := W_eq (by omega) (by omega)
      repeat' (first | refine wk3 ?_ | (refine wk2 ?_ ?_ <;> intro _) | refine wk4 ?_ | fail); all_goals (conv => whnf)
      exact Done.mk ⟨(k + 1, _, _), [], rfl, kps, kps, ⟨W_succ (by omega), (by omega : k + 1 ≤ 1000), ⟨q3, q4⟩, hS⟩, by dsimp only; omega⟩
end Go.Proofs.YtddhjopopelkjaaGreat
