/- A part of the proof: lemmas. -/
import Derived.Test.YtdaliaafmcjikaaGreatJE1
import Derived.Test.YtdaliaafmcjikaaGreatKX4
set_option linter.unusedVariables false
set_option linter.unusedSimpArgs false
namespace Go.Proofs.YtdaliaafmcjikaaGreat
open Go Go.Sx
/-! ### The images of a place -/

abbrev pl3 (p : Pl3) : List AV := [I p.1, I p.2.1, I p.2.2]
def im1 (h : Hal) (s : Stg) (n : Int) (p : Pl3) : Pl3 := rmir (planeV h s n).1 (planeV h s n).2 p.1 p.2.1 p.2.2
def imA (f : Int → Pl3 → Pl3) (p : Pl3) (l : List Int) (k : Nat) : Pl3 := (l.take k).foldl (fun q n => f n q) p
theorem imA_succ (f : Int → Pl3 → Pl3) (p : Pl3) {l : List Int} {k : Nat} (hk : k < l.length) : imA f p l (k + 1) = f l[k] (imA f p l k) := by
  unfold imA
  rw [List.take_succ_eq_append_getElem hk, List.foldl_append]
  rfl
def imC (f : Int → Pl3 → Pl3) (p : Pl3) (l : List Int) (k : Nat) : List (List AV) := (List.range (k + 1)).map fun j => pl3 (imA f p l j)
theorem imC_len (f : Int → Pl3 → Pl3) (p : Pl3) (l : List Int) (k : Nat) : (imC f p l k).length = k + 1 := by simp [imC]
theorem imC_last (f : Int → Pl3 → Pl3) (p : Pl3) (l : List Int) (k : Nat) : (imC f p l k)[k]? = some (pl3 (imA f p l k)) := by simp [imC]
theorem imC_succ (f : Int → Pl3 → Pl3) (p : Pl3) (l : List Int) (k : Nat) : imC f p l (k + 1) = imC f p l k ++ [pl3 (imA f p l (k + 1))] := by
  unfold imC
  rw [List.range_succ, List.map_append]
  rfl
/-- A plane of an axis is nearer. -/
theorem plane_ax {h : Hal} {s : Stg} (g : Sit h s) {i : Int} (hi : SK h i) : (planeV h s i).1 ≤ 2 → (-5000 ≤ (planeV h s i).2 ∧ (planeV h s i).2 ≤ 5000) := by
  have ht := g.fine.ht
  cases hi with
  | wall k hk =>
    have hk2 : k < h.cs.length := by have := g.fine.le; omega
    obtain ⟨n, sx, sy, hs⟩ := g.fine.st k hk2
    rw [planeV_wall hk, plW_str hs]
    have := hs.b1
    have := hs.b2
    repeat' split
    all_goals (dsimp only; omega)
  | floor => rw [planeV_floor]; dsimp only; omega
  | ceil => rw [planeV_ceil]; dsimp only; omega
  | can j hj =>
    rw [planeV_can]
    have := hgt_bd g hj
    dsimp only; omega
def Near (m : Int) (p : Pl3) : Prop := (-m ≤ p.1 ∧ p.1 ≤ m) ∧ (-m ≤ p.2.1 ∧ p.2.1 ≤ m) ∧ (-m ≤ p.2.2 ∧ p.2.2 ≤ m)
theorem im1_near {h : Hal} {s : Stg} (g : Sit h s) {i : Int} (hi : SK h i) {m : Int} (hm : m ≤ 35000) {p : Pl3} (hp : Near m p) : Near (m + 10000) (im1 h s i p) ∧ mirErr (planeV h s i).1 (planeV h s i).2 p.1 p.2.1 p.2.2 = 0 ∧ mirP (planeV h s i).1 (planeV h s i).2 p.1 p.2.1 p.2.2 = im1 h s i p := by
  have b := plane_bd g hi
  have b2 := plane_ax g hi
  obtain ⟨x, y, z⟩ := p
  obtain ⟨hx, hy, hz⟩ := hp
  dsimp only at hx hy hz
  unfold im1
  generalize (planeV h s i).1 = k at *
  generalize (planeV h s i).2 = a at *
  have key : Near (m + 10000) (rmir k a x y z) := by
    unfold rmir Near
    have w2 : IntKind.i64.wrap (2 * a) = 2 * a := W_eq (by omega) (by omega)
    by_cases k0 : k = 0
    · subst k0; have := b2 (by omega); simp only [if_pos]; rw [w2, W_eq (by omega) (by omega)]; omega
    by_cases k1 : k = 1
    · subst k1; have := b2 (by omega); simp; rw [w2, W_eq (by omega) (by omega)]; omega
    by_cases k2 : k = 2
    · subst k2; have := b2 (by omega); simp; rw [w2, W_eq (by omega) (by omega)]; omega
    by_cases k3 : k = 3
    · subst k3; simp; rw [W_eq (by omega) (by omega), W_eq (by omega) (by omega)]; omega
    have k4 : k = 4 := by omega
    subst k4; simp; rw [W_eq (by omega) (by omega), W_eq (by omega) (by omega)]; omega
  have e := rmirErr_of b.1 b.2 (x := x) (y := y) (z := z) (by omega) (by omega) (by omega) (u := (rmir k a x y z).1) (v := (rmir k a x y z).2.1) (w := (rmir k a x y z).2.2) rfl
    (by have := key.1; omega) (by have := key.2.1; omega) (by have := key.2.2; omega)
  refine ⟨key, by rw [mirErr_eq]; exact e, ?_⟩
  rw [mirP_eq]
  unfold rmirP
  rw [if_pos e]
theorem imA_near {h : Hal} {s : Stg} (g : Sit h s) {p : Pl3} (hp : Near 5000 p) {l : List Int} (hl : l.length ≤ 4) (hi : ∀ n ∈ l, SK h n) : ∀ k, k ≤ l.length → Near (5000 + 10000 * k) (imA (im1 h s) p l k)
  | 0, _ => by simpa [imA] using hp
  | k + 1, hk => by
    rw [imA_succ _ _ (by omega)]
    have := (im1_near g (hi l[k] (List.getElem_mem _)) (m := 5000 + 10000 * k) (by omega) (imA_near g hp hl hi k (by omega))).1
    rw [show (5000 : Int) + 10000 * ((k + 1 : Nat) : Int) = 5000 + 10000 * k + 10000 by omega]
    exact this
end Go.Proofs.YtdaliaafmcjikaaGreat
