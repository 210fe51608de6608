/- A part of the proof: lemmas. -/
import Derived.Test.YtddhjopopelkjaaGreatZH3
import Derived.Test.YtddhjopopelkjaaGreatN6
import Derived.Test.YtddhjopopelkjaaGreatZw11
set_option linter.unusedVariables false
set_option linter.unusedSimpArgs false
namespace Go.Proofs.YtddhjopopelkjaaGreat
open Go Go.Sx
/-! ### Surface and absorption area belong together -/
theorem areaV_le {h : Hal} {s : Stg} (g : Sit h s) {i : Int} (hi : SK h i) : (areaV h i).1 ≤ (areaV h i).2 := by
  cases hi with
  | wall k hk =>
    rw [areaV_wall hk]
    unfold cr
    dsimp only
    split <;> omega
  | floor => rw [areaV_floor]; dsimp only; omega
  | ceil => rw [areaV_ceil]; dsimp only; omega
  | can j hj =>
    rw [areaV_can hj]
    dsimp only; omega
/-- The sum of the first areas, without roundings. -/
noncomputable def arS (h : Hal) : Nat → Int × Int
  | 0 => (0, 0)
  | k + 1 => ((arS h k).1 + (areaV h k).1 * sd h k, (arS h k).2 + (areaV h k).2 * sd h k)
theorem arS_bd {h : Hal} {s : Stg} (g : Sit h s) : ∀ k : Nat, k ≤ nsN h → (0 ≤ (arS h k).1 ∧ (arS h k).1 ≤ (arS h k).2) ∧ (arS h k).2 ≤ 700000000 * k
  | 0, _ => by simp [arS]
  | k + 1, hk => by
    have ih := arS_bd g k (by omega)
    obtain ⟨⟨x1, x2⟩, ⟨y1, y2⟩⟩ := areaV_bd g (sk_n (h := h) (i := k) (by omega))
    have l := areaV_le g (sk_n (h := h) (i := k) (by omega))
    rw [arS]
    dsimp only
    rcases sd_12 h k with q | q <;> rw [q] <;> omega
theorem srG_arS {h : Hal} {s : Stg} (g : Sit h s) : ∀ (c k : Nat), k + c = nsN h → srG h (areaV h) k c (arS h k) = arS h (nsN h)
  | 0, k, hk => by rw [srG, ← hk, Nat.add_zero]
  | c + 1, k, hk => by
    have hf : nsN h < 10000 := by obtain ⟨f1, f2, f3, f4, f5, f6⟩ := g.ok.f; unfold nsN; omega
    obtain ⟨⟨x1, x2⟩, ⟨y1, y2⟩⟩ := areaV_bd g (sk_n (h := h) (i := k) (by omega))
    have b := arS_bd g k (by omega)
    rw [srG]
    rw [show (IntKind.i64.wrap ((arS h k).1 + IntKind.i64.wrap ((areaV h k).1 * sd h k)), IntKind.i64.wrap ((arS h k).2 + IntKind.i64.wrap ((areaV h k).2 * sd h k))) = arS h (k + 1) by
      rw [arS]
      rcases sd_12 h k with q | q <;> rw [q] <;> rw [W_eq (n := (areaV h k).1 * _) (by omega) (by omega), W_eq (n := (areaV h k).2 * _) (by omega) (by omega), W_eq (by omega) (by omega), W_eq (by omega) (by omega)]]
    exact srG_arS g c (k + 1) (by omega)
theorem srV_sum {h : Hal} {s : Stg} (g : Sit h s) : srV h = arS h (nsN h) := by
  unfold srV
  exact srG_arS g (nsN h) 0 (by omega)
theorem absK_sd {h : Hal} {s : Stg} (g : Sit h s) (b : Int) {k : Nat} (hk : k < nsN h) : 0 ≤ absK h s b k ∧ absK h s b k ≤ 1000 * sd h k := by
  have q := absK_bd g (b := b) (sk_n hk)
  refine ⟨q.2.1, ?_⟩
  unfold absK sd isK
  by_cases c : k < h.ws.length + 2
  · rw [if_pos c, if_neg (by simp; omega)]; omega
  · rw [if_neg c, if_pos (by simp; omega)]; omega
theorem sumS_le {h : Hal} {s : Stg} (g : Sit h s) (b : Int) : ∀ k : Nat, k ≤ nsN h → (0 ≤ (sumS h s b k).1 ∧ (sumS h s b k).1 ≤ (sumS h s b k).2) ∧ (sumS h s b k).1 ≤ 1000 * (arS h k).1 ∧ (sumS h s b k).2 ≤ 1000 * (arS h k).2
  | 0, _ => by simp [sumS, arS]
  | k + 1, hk => by
    have ih := sumS_le g b k (by omega)
    have hi := sk_n (h := h) (i := k) (by omega)
    obtain ⟨⟨x1, x2⟩, ⟨y1, y2⟩⟩ := areaV_bd g hi
    have l := areaV_le g hi
    obtain ⟨c0, c1⟩ := absK_sd g b (k := k) (by omega)
    have m1 : (areaV h k).1 * absK h s b k ≤ (areaV h k).1 * (1000 * sd h k) := Int.mul_le_mul_of_nonneg_left c1 x1
    have m2 : (areaV h k).2 * absK h s b k ≤ (areaV h k).2 * (1000 * sd h k) := Int.mul_le_mul_of_nonneg_left c1 y1
    have m3 : (areaV h k).1 * absK h s b k ≤ (areaV h k).2 * absK h s b k := Int.mul_le_mul_of_nonneg_right l c0
    have n1 : 0 ≤ (areaV h k).1 * absK h s b k := Int.mul_nonneg x1 c0
    rw [Int.mul_left_comm] at m1 m2
    rw [sumS, arS]
    dsimp only
    rw [Int.mul_add, Int.mul_add]
    omega
theorem rv_of {h : Hal} {s : Stg} (g : Sit h s) (b : Int) : En.Rv (srV h) (absV h s b) := by
  obtain ⟨⟨p1, p2⟩, ⟨p3, p4⟩⟩ := srV_bd g
  have e := srV_sum g
  have hn : (nsur h).toNat = nsN h := by have := nsN_eq h; omega
  have a := arS_bd g (nsN h) (Nat.le_refl _)
  have q := sumS_le g b (nsN h) (Nat.le_refl _)
  unfold absV
  rw [hn]
  rw [e] at p1 p2 p3 p4 ⊢
  refine ⟨p1, a.1.2, p4, ?_, ?_, ?_, ?_⟩ <;> dsimp only <;> omega
/-! ### The rounds of the program and those without roundings -/
theorem dvF_eq {sh x : Int} (h0 : 0 ≤ sh) (h1 : sh ≤ 1000000) (x0 : 0 ≤ x) (x1 : x ≤ 1000000000000) : dvF sh x = En.dF sh x := by
  obtain ⟨⟨a, b⟩, c, d⟩ := En.dF_bd h0 h1 x0 x1
  unfold En.dF at c d
  unfold dvF En.dF
  rw [W_eq (n := x * sh) (by omega) (by omega), Int.tdiv_eq_ediv_of_nonneg a, W_eq (by omega) (by omega)]
theorem dvC_eq {sh x : Int} (h0 : 0 ≤ sh) (h1 : sh ≤ 1000000) (x0 : 0 ≤ x) (x1 : x ≤ 1000000000000) : dvC sh x = En.dC sh x := by
  obtain ⟨⟨a, b⟩, c, d⟩ := En.dC_bd h0 h1 x0 x1
  unfold En.dC at c d
  unfold dvC abvU En.dC
  rw [W_eq (n := x * sh) (by omega) (by omega), W_eq (n := x * sh + 1000000) (by omega) (by omega), W_eq (n := x * sh + 1000000 - 1) (by omega) (by omega), Int.tdiv_eq_ediv_of_nonneg (by omega), show x * sh + 1000000 - 1 = x * sh + 999999 by omega, W_eq (by omega) (by omega)]
theorem hitsF_eq {sh : Int} (h0 : 0 ≤ sh) (h1 : sh ≤ 1000000) : En.hitG (dvF sh) 0 1001 1000000000000 = En.hitsF sh :=
  En.hitG_congr (fun x x0 x1 => ⟨dvF_eq h0 h1 x0 x1, (En.dF_bd h0 h1 x0 x1).2⟩) _ _ _ (by omega) (by omega)
theorem hitsC_eq {sh : Int} (h0 : 0 ≤ sh) (h1 : sh ≤ 1000000) : En.hitG (dvC sh) 0 1001 1000000000000 = En.hitsC sh :=
  En.hitG_congr (fun x x0 x1 => ⟨dvC_eq h0 h1 x0 x1, (En.dC_bd h0 h1 x0 x1).2⟩) _ _ _ (by omega) (by omega)
/-- What is known of a right scene with right air that absorbs something surely. -/
structure Rg (h : Hal) (s : Stg) (b a v : Int) : Prop where
  g : Sit h s
  z : serr h s = 0
  air : airE b a v = 0
  pos : 1 ≤ (absV h s b).1
theorem air_iff {b a v : Int} (h : airE b a v = 0) : within b 0 3 = true ∧ (0 ≤ a ∧ a ≤ 100000) ∧ 30000 ≤ v ∧ v ≤ 40000 := by
  unfold airE at h
  split at h
  · rename_i hb
    split at h
    · rename_i hc
      simp only [Bool.and_eq_true] at hc
      exact ⟨hb, within_iff.1 hc.1, within_iff.1 hc.2⟩
    · cases h
  · cases h
theorem absA_eq {h : Hal} {s : Stg} {b a v : Int} (z : serr h s = 0) (y : airE b a v = 0) : absA h s b = absV h s b := by
  unfold absA bandE
  rw [if_pos z, (air_iff y).1, if_pos rfl, if_pos rfl]
noncomputable abbrev sabX (h : Hal) (s : Stg) (b v : Int) : Int × Int := En.sabV (vol2 h) v (absV h s b)
noncomputable abbrev hitX (h : Hal) (s : Stg) (b : Int) : (Int × Int) × Int := En.hitsV (srV h) (absV h s b)
noncomputable abbrev eyrX (h : Hal) (s : Stg) (b v : Int) : Int × Int := En.eyrV (vol2 h) v (srV h) (hitX h s b).1
end Go.Proofs.YtddhjopopelkjaaGreat
