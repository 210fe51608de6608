/- A part of the proof: lemmas. -/
import Derived.Test.YtjpmeaagnhojgaaGreatX7
set_option linter.unusedVariables false
set_option linter.unusedSimpArgs false
namespace Go.Proofs.YtjpmeaagnhojgaaGreat
open Go Go.Sx

/-! ### Plain law: the way by the mirror -/
def mirU (k a x y z : Int) : Int × Int × Int := if k = 0 then (2 * a - x, y, z) else if k = 1 then (x, 2 * a - y, z) else if k = 2 then (x, y, 2 * a - z) else if k = 3 then (a - y, a - x, z) else (y + a, x - a, z)
theorem k_cases {k : Int} (h : 0 ≤ k ∧ k ≤ 4) : k = 0 ∨ k = 1 ∨ k = 2 ∨ k = 3 ∨ k = 4 := by omega
/-- A place of a hall. -/
structure Plc (x y z : Int) : Prop where
  x : -5000 ≤ x ∧ x ≤ 5000
  y : -5000 ≤ y ∧ y ≤ 5000
  z : -5000 ≤ z ∧ z ≤ 5000
theorem mirU_bd {k a x y z : Int} (hk : 0 ≤ k ∧ k ≤ 4) (ha : -10000 ≤ a ∧ a ≤ 10000) (hp : Plc x y z) : (-25000 ≤ (mirU k a x y z).1 ∧ (mirU k a x y z).1 ≤ 25000) ∧ (-25000 ≤ (mirU k a x y z).2.1 ∧ (mirU k a x y z).2.1 ≤ 25000) ∧ (-25000 ≤ (mirU k a x y z).2.2 ∧ (mirU k a x y z).2.2 ≤ 25000) := by
  obtain ⟨h1, h2, h3⟩ := hp
  rcases k_cases hk with rfl | rfl | rfl | rfl | rfl <;> simp [mirU] <;> omega
theorem mirV_ok {k a x y z : Int} (hk : 0 ≤ k ∧ k ≤ 4) (ha : -10000 ≤ a ∧ a ≤ 10000) (hp : Plc x y z) : mirErr k a x y z = 0 ∧ mirP k a x y z = mirU k a x y z := by
  have hb := mirU_bd hk ha hp
  obtain ⟨h1, h2, h3⟩ := hp
  have e := rmir_plain hk ha (x := x) (y := y) (z := z) (by omega) (by omega) (by omega)
  change _ = mirU k a x y z at e
  have e0 : rmirErr k a x y z = 0 := rmirErr_of hk ha (by omega) (by omega) (by omega) (u := (mirU k a x y z).1) (v := (mirU k a x y z).2.1) (w := (mirU k a x y z).2.2) e (by omega) (by omega) (by omega)
  refine ⟨by rw [mirErr_eq]; exact e0, ?_⟩
  rw [mirP_eq]
  unfold rmirP
  rw [if_pos e0, e]
theorem mirU_val {k : Int} (hk : 0 ≤ k ∧ k ≤ 4) (a x y z : Int) : valN k (mirU k a x y z).1 (mirU k a x y z).2.1 (mirU k a x y z).2.2 - a = -(valN k x y z - a) := by
  rcases k_cases hk with rfl | rfl | rfl | rfl | rfl <;> simp [mirU, valN] <;> omega
/-- From the image of one place to the other one. -/
def mirC (su : Int) (pl : Int × Int) (x y z u v w : Int) : Crs := ⟨su, (mirU pl.1 pl.2 x y z).1, (mirU pl.1 pl.2 x y z).2.1, (mirU pl.1 pl.2 x y z).2.2, ⟨u, v, w, 1⟩⟩
theorem mirC_F {su : Int} {pl : Int × Int} (hk : 0 ≤ pl.1 ∧ pl.1 ≤ 4) (x y z u v w : Int) : crF pl (mirC su pl x y z u v w) = -(valN pl.1 x y z - pl.2) := mirU_val hk pl.2 x y z
theorem mirC_G {su : Int} {pl : Int × Int} (x y z u v w : Int) : crG pl (mirC su pl x y z u v w) = valN pl.1 u v w - pl.2 := by unfold crG mirC; dsimp only; omega
theorem iabs_neg (n : Int) : iabs (-n) = iabs n := by unfold iabs; split <;> split <;> omega
theorem sgn_neg' (n : Int) : sgn (-n) = -sgn n := by unfold sgn; split <;> split <;> (try split) <;> (try split) <;> omega
set_option maxHeartbeats 4000000 in
theorem crPt_mir {su : Int} {pl : Int × Int} (hk : 0 ≤ pl.1 ∧ pl.1 ≤ 4) {x y z u v w : Int} (hs : (valN pl.1 x y z - pl.2 < 0 ∧ valN pl.1 u v w - pl.2 < 0) ∨ (0 < valN pl.1 x y z - pl.2 ∧ 0 < valN pl.1 u v w - pl.2)) :
    crPt (mirC su pl x y z u v w) (iabs (valN pl.1 u v w - pl.2)) (iabs (valN pl.1 x y z - pl.2)) = crPt (mirC su pl u v w x y z) (iabs (valN pl.1 x y z - pl.2)) (iabs (valN pl.1 u v w - pl.2)) := by
  obtain ⟨k, a⟩ := pl
  dsimp only at hk hs ⊢
  rcases hs with ⟨h1, h2⟩ | ⟨h1, h2⟩
  · have e1 : iabs (valN k x y z - a) = -(valN k x y z - a) := by unfold iabs; rw [if_pos h1]
    have e2 : iabs (valN k u v w - a) = -(valN k u v w - a) := by unfold iabs; rw [if_pos h2]
    rw [e1, e2]
    clear e1 e2 h1 h2
    unfold crPt mirC
    rcases k_cases hk with rfl | rfl | rfl | rfl | rfl <;> simp [mirU, valN] <;> grind
  · have e1 : iabs (valN k x y z - a) = valN k x y z - a := by unfold iabs; rw [if_neg (by omega)]
    have e2 : iabs (valN k u v w - a) = valN k u v w - a := by unfold iabs; rw [if_neg (by omega)]
    rw [e1, e2]
    clear e1 e2 h1 h2
    unfold crPt mirC
    rcases k_cases hk with rfl | rfl | rfl | rfl | rfl <;> simp [mirU, valN] <;> grind
theorem crAns_mir {well : Pt → Bool} {su : Int} {pl : Int × Int} (hk : 0 ≤ pl.1 ∧ pl.1 ≤ 4) (x y z u v w : Int) : crAns well pl (mirC su pl x y z u v w) = crAns well pl (mirC su pl u v w x y z) := by
  have s1 : sgn (crF pl (mirC su pl x y z u v w)) * sgn (crG pl (mirC su pl x y z u v w)) = -(sgn (valN pl.1 x y z - pl.2) * sgn (valN pl.1 u v w - pl.2)) := by rw [mirC_F hk, mirC_G, sgn_neg', Int.neg_mul]
  have s2 : sgn (crF pl (mirC su pl u v w x y z)) * sgn (crG pl (mirC su pl u v w x y z)) = -(sgn (valN pl.1 x y z - pl.2) * sgn (valN pl.1 u v w - pl.2)) := by rw [mirC_F hk, mirC_G, sgn_neg', Int.neg_mul, Int.mul_comm]
  by_cases hs : 0 ≤ -(sgn (valN pl.1 x y z - pl.2) * sgn (valN pl.1 u v w - pl.2))
  · rw [crAns_side (by rw [s1]; exact hs), crAns_side (by rw [s2]; exact hs)]
  · have hp : crossP pl (mirC su pl x y z u v w) = crossP pl (mirC su pl u v w x y z) := by
      unfold crossP
      rw [mirC_F hk, mirC_G, mirC_F hk, mirC_G, iabs_neg, iabs_neg]
      rw [crPt_mir hk]
      have hq : 0 < sgn (valN pl.1 x y z - pl.2) * sgn (valN pl.1 u v w - pl.2) := by omega
      generalize valN pl.1 x y z - pl.2 = A at *
      generalize valN pl.1 u v w - pl.2 = B at *
      have := (not_congr (sgn_mul_le (a := A) (b := B))).1 (by omega)
      omega
    unfold crAns
    rw [s1, s2, hp]
/-- Both are right to ask. -/
theorem mirC_ok {su : Int} {pl : Int × Int} (hk : 0 ≤ pl.1 ∧ pl.1 ≤ 4) (ha : -10000 ≤ pl.2 ∧ pl.2 ≤ 10000) {x y z u v w : Int} (hp : Plc x y z) (hq : Plc u v w) : CrOk pl (mirC su pl x y z u v w) := by
  have hb := mirU_bd hk ha hp
  obtain ⟨h1, h2, h3⟩ := hq
  unfold mirC
  refine ⟨hk.1, hk.2, ha, ?_, ?_, ?_, ?_, ?_, ?_, ?_, ?_⟩ <;> dsimp only <;> omega
theorem iabs_bd {n B : Int} (h : -B ≤ n ∧ n ≤ B) : 0 ≤ iabs n ∧ iabs n ≤ B := by unfold iabs; split <;> omega
theorem valN_bd {k x y z : Int} (hp : Plc x y z) : -10000 ≤ valN k x y z ∧ valN k x y z ≤ 10000 := by
  obtain ⟨h1, h2, h3⟩ := hp
  unfold valN
  repeat' split
  all_goals omega
/-- The denominator is small. -/
theorem mir_den {su : Int} {pl : Int × Int} (hk : 0 ≤ pl.1 ∧ pl.1 ≤ 4) (ha : -10000 ≤ pl.2 ∧ pl.2 ≤ 10000) {x y z u v w : Int} (hp : Plc x y z) (hq : Plc u v w) (hs : ¬ 0 ≤ sgn (crF pl (mirC su pl x y z u v w)) * sgn (crG pl (mirC su pl x y z u v w))) :
    0 < (crossP pl (mirC su pl x y z u v w)).d ∧ (crossP pl (mirC su pl x y z u v w)).d ≤ 40000 ∧ (crPt (mirC su pl x y z u v w) (iabs (crG pl (mirC su pl x y z u v w))) (iabs (crF pl (mirC su pl x y z u v w)))).d ≤ 40000 := by
  have hb := cross_big (mirC_ok hk ha hp hq) hs
  obtain ⟨⟨g1, _⟩, _, hr, _, _, _, e4⟩ := red_spec hb
  have hd : (crPt (mirC su pl x y z u v w) (iabs (crG pl (mirC su pl x y z u v w))) (iabs (crF pl (mirC su pl x y z u v w)))).d ≤ 40000 := by
    show iabs _ + 1 * iabs _ ≤ 40000
    rw [mirC_F hk, mirC_G, iabs_neg]
    have v1 := valN_bd (k := pl.1) hp
    have v2 := valN_bd (k := pl.1) hq
    have i1 := iabs_bd (n := valN pl.1 x y z - pl.2) (B := 20000) (by omega)
    have i2 := iabs_bd (n := valN pl.1 u v w - pl.2) (B := 20000) (by omega)
    omega
  refine ⟨hr.d.1, ?_, hd⟩
  have h1 := Int.mul_le_mul_of_nonneg_left (show (1 : Int) ≤ (g4 (crPt (mirC su pl x y z u v w) (iabs (crG pl (mirC su pl x y z u v w))) (iabs (crF pl (mirC su pl x y z u v w)))) : Int) by omega) (Int.le_of_lt hr.d.1)
  show (redP _).d ≤ 40000
  omega
end Go.Proofs.YtjpmeaagnhojgaaGreat
