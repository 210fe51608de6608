/- A part of the proof: lemmas. -/
import Derived.Test.YtddhjopopelkjaaGreatN5
set_option linter.unusedVariables false
set_option linter.unusedSimpArgs false
namespace Go.En
/-! ### Plain law: reverberation -/
def dF (sh left : Int) : Int := left * sh / 1000000
def dC (sh left : Int) : Int := (left * sh + 999999) / 1000000
/-- Surface and absorption area that belong together. -/
structure Rv (S A : Int × Int) : Prop where
  s1 : 1 ≤ S.1
  s2 : S.1 ≤ S.2
  s3 : S.2 ≤ 7000000000000
  a1 : 0 ≤ A.1
  a2 : A.1 ≤ A.2
  a3 : A.2 ≤ S.2
  a4 : A.1 ≤ S.1
def loSh (S A : Int × Int) : Int := 1000000 * max 0 (S.1 - A.2) / S.1
def hiSh (S A : Int × Int) : Int := (1000000 * (S.2 - A.1) + S.2 - 1) / S.2
theorem le_div {q n b : Int} (hb : 0 < b) (h : q * b ≤ n) : q ≤ n / b := (Int.le_ediv_iff_mul_le hb).2 h
theorem div_le {q n b : Int} (hb : 0 < b) (h : n ≤ q * b) : n / b ≤ q := by
  have h1 := Int.ediv_le_ediv hb h
  rwa [Int.mul_ediv_cancel q (by omega)] at h1
theorem div_mul {n b : Int} (hb : 0 < b) : n / b * b ≤ n := Int.ediv_mul_le n (by omega)
theorem up_le {q n b : Int} (hb : 0 < b) (h : n ≤ q * b) : (n + b - 1) / b ≤ q := by
  have : (n + b - 1) / b < q + 1 := by
    refine Int.ediv_lt_of_lt_mul hb ?_
    rw [Int.add_mul]; omega
  omega
theorem le_up {q n b : Int} (hb : 0 < b) (h : q * b ≤ n) : q ≤ (n + b - 1) / b := le_div hb (by omega)
theorem up_mul {n b : Int} (hb : 0 < b) : n ≤ (n + b - 1) / b * b := by
  have e1 := Int.mul_ediv_add_emod (n + b - 1) b
  have e3 := Int.emod_lt_of_pos (n + b - 1) hb
  rw [Int.mul_comm] at e1
  omega
theorem loSh_bd {S A : Int × Int} (g : Rv S A) : 0 ≤ loSh S A ∧ loSh S A ≤ 1000000 := by
  obtain ⟨s1, s2, s3, a1, a2, a3, a4⟩ := g
  unfold loSh
  have : 0 ≤ max 0 (S.1 - A.2) ∧ max 0 (S.1 - A.2) ≤ S.1 := by omega
  exact ⟨Int.ediv_nonneg (by omega) (by omega), div_le (by omega) (by omega)⟩
theorem hiSh_bd {S A : Int × Int} (g : Rv S A) : 0 ≤ hiSh S A ∧ hiSh S A ≤ 1000000 := by
  obtain ⟨s1, s2, s3, a1, a2, a3, a4⟩ := g
  unfold hiSh
  exact ⟨Int.ediv_nonneg (by omega) (by omega), up_le (by omega) (by omega)⟩
theorem sh_le {S A B : Int × Int} (g : Rv S A) (k : Rv S B) (h : A.1 ≤ B.2) : loSh S B ≤ hiSh S A := by
  obtain ⟨s1, s2, s3, a1, a2, a3, a4⟩ := g
  obtain ⟨_, _, _, b1, b2, b3, b4⟩ := k
  have l := loSh_bd ⟨s1, s2, s3, b1, b2, b3, b4⟩
  unfold hiSh
  refine le_up (by omega) ?_
  by_cases c : S.1 ≤ B.2
  · have : loSh S B = 0 := by
      unfold loSh
      rw [show max 0 (S.1 - B.2) = 0 by omega]
      simp
    rw [this]; omega
  · have e : loSh S B * S.1 ≤ 1000000 * (S.1 - B.2) := by
      have := div_mul (n := 1000000 * max 0 (S.1 - B.2)) (b := S.1) (by omega)
      unfold loSh
      rw [show max 0 (S.1 - B.2) = S.1 - B.2 by omega] at this ⊢
      exact this
    have e2 : loSh S B * (S.2 - S.1) ≤ 1000000 * (S.2 - S.1) := Int.mul_le_mul_of_nonneg_right l.2 (by omega)
    rw [Int.mul_sub] at e2
    omega
theorem dF_bd {sh x : Int} (h0 : 0 ≤ sh) (h1 : sh ≤ 1000000) (x0 : 0 ≤ x) (x1 : x ≤ 1000000000000) : (0 ≤ x * sh ∧ x * sh ≤ 1000000000000000000) ∧ 0 ≤ dF sh x ∧ dF sh x ≤ 1000000000000 := by
  have p : 0 ≤ x * sh := Int.mul_nonneg x0 h0
  have q : x * sh ≤ 1000000000000 * 1000000 := Int.mul_le_mul x1 h1 h0 (by omega)
  unfold dF
  omega
theorem dC_bd {sh x : Int} (h0 : 0 ≤ sh) (h1 : sh ≤ 1000000) (x0 : 0 ≤ x) (x1 : x ≤ 1000000000000) : (0 ≤ x * sh ∧ x * sh ≤ 1000000000000000000) ∧ 0 ≤ dC sh x ∧ dC sh x ≤ 1000000000000 := by
  have p : 0 ≤ x * sh := Int.mul_nonneg x0 h0
  have q : x * sh ≤ 1000000000000 * 1000000 := Int.mul_le_mul x1 h1 h0 (by omega)
  unfold dC
  omega
theorem dFC {s t x y : Int} (s0 : 0 ≤ s) (st : s ≤ t) (x0 : 0 ≤ x) (xy : x ≤ y) : 0 ≤ dF s x ∧ dF s x ≤ dC t y := by
  have p : 0 ≤ x * s := Int.mul_nonneg x0 s0
  have q : x * s ≤ y * t := Int.mul_le_mul xy st s0 (by omega)
  unfold dF dC
  omega
theorem dFF {s t x y : Int} (s0 : 0 ≤ s) (st : s ≤ t) (x0 : 0 ≤ x) (xy : x ≤ y) : 0 ≤ dF s x ∧ dF s x ≤ dF t y := by
  have p : 0 ≤ x * s := Int.mul_nonneg x0 s0
  have q : x * s ≤ y * t := Int.mul_le_mul xy st s0 (by omega)
  unfold dF
  omega
theorem dCC {s t x y : Int} (s0 : 0 ≤ s) (st : s ≤ t) (x0 : 0 ≤ x) (xy : x ≤ y) : 0 ≤ dC s x ∧ dC s x ≤ dC t y := by
  have p : 0 ≤ x * s := Int.mul_nonneg x0 s0
  have q : x * s ≤ y * t := Int.mul_le_mul xy st s0 (by omega)
  unfold dC
  omega
/-- Two ways to divide that agree as long as what is left is in its bounds. -/
theorem hitG_congr {dv dw : Int → Int} (h : ∀ x, 0 ≤ x → x ≤ 1000000000000 → dv x = dw x ∧ 0 ≤ dw x ∧ dw x ≤ 1000000000000) : ∀ (c n : Nat) (l : Int), 0 ≤ l → l ≤ 1000000000000 → hitG dv n c l = hitG dw n c l
  | 0, _, _, _, _ => rfl
  | c + 1, n, l, l0, l1 => by
    obtain ⟨e, x0, x1⟩ := h l l0 l1
    rw [hitG, hitG, e, hitG_congr h c (n + 1) (dw l) x0 x1]
abbrev hitsC (sh : Int) : Option Nat := hitG (dC sh) 0 1001 1000000000000
abbrev hitsF (sh : Int) : Option Nat := hitG (dF sh) 0 1001 1000000000000
theorem hits_pos {dv : Int → Int} {k : Nat} (h : hitG dv 0 1001 1000000000000 = some k) : 1 ≤ k ∧ k ≤ 1000 := by
  have b := hitG_ge h
  rw [show (1001 : Nat) = 1000 + 1 from rfl, hitG, if_neg (by omega)] at h
  have := hitG_ge h
  omega
/-- The hits: both ends, or that they are too many. -/
def hitsV (S A : Int × Int) : (Int × Int) × Int := match hitsC (hiSh S A) with
  | none => ((0, 0), 8)
  | some k => match hitsF (loSh S A) with
    | none => ((0, 0), 8)
    | some j => (((j : Int), (k : Int)), 0)
theorem hits_lo {S A : Int × Int} (g : Rv S A) {k : Nat} (h : hitsC (hiSh S A) = some k) : ∃ j, hitsF (loSh S A) = some j ∧ j ≤ k := by
  have l := loSh_bd g
  have s := sh_le g g (by have := g.a2; omega)
  exact hitG_mono (fun x y x0 xy => dFC l.1 s x0 xy) (by omega) (Int.le_refl _) h
def sabV (V v : Int) (A : Int × Int) : Int × Int := (55262 * V / (2 * v * A.2), (55263 * V + 2 * v * A.1 - 1) / (2 * v * A.1))
def eyrV (V v : Int) (S n : Int × Int) : Int × Int := (2000 * V * (n.1 - 1) / (S.2 * v), (2000 * V * n.2 + S.1 * v - 1) / (S.1 * v))
end Go.En
