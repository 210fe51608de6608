/- A part of the proof: lemmas. -/
import Derived.Test.YtddhjopopelkjaaGreatZF13
import Derived.Test.YtddhjopopelkjaaGreatZF14
set_option linter.unusedVariables false
set_option linter.unusedSimpArgs false
namespace Go.Proofs.YtddhjopopelkjaaGreat
open Go Go.Sx

/-! ### Both say the same -/
theorem wl_str {h : Hal} (g : h.fine) {k : Nat} (hk : k < h.cs.length) : ∃ n sx sy, Str (wlOf h.cs k) n sx sy := g.st k hk
theorem wlA_eq {h : Hal} (g : h.fine) {p q : Pt} (hp : PtR p) (hq : PtR q) : ∀ (n k : Nat), k + n ≤ h.cs.length → wlA h.cs p q k n = ((List.range' k n).map (wlOf h.cs)).any (touP p q)
  | 0, _, _ => by simp [wlA]
  | n + 1, k, hk => by
    rw [wlA, List.range'_succ, List.map_cons, List.any_cons, wlA_eq g hp hq n (k + 1) (by omega)]
    congr 1
    obtain ⟨m, sx, sy, hs⟩ := g.st k (by omega)
    rw [Bool.eq_iff_iff, touP_iff hs hp hq, lnOf_eq, onWallR_iff hs hp hq]
theorem blkB_eq {h : Hal} {s : Stg} (g : Sit h s) {p q : Pt} (hp : PtH p) (hq : PtH q) : ∀ (l : List Can) (j : Nat), h.ks.drop j = l → blkB h s p q j l = blkA h s p q j l
  | [], _, _ => by simp [blkA, blkB]
  | c :: l, j, hl => by
    have hj : j < h.ks.length := by
      rcases Nat.lt_or_ge j h.ks.length with hj | hj
      · exact hj
      · rw [List.drop_of_length_le hj] at hl; cases hl
    rw [List.drop_eq_getElem_cons hj] at hl
    simp only [List.cons.injEq] at hl
    obtain ⟨rfl, hl⟩ := hl
    have hb := hgt_bd g hj
    have ht := g.fine.ht
    rw [blkA, blkB, blkB_eq g hp hq l (j + 1) hl, blk_eq (rcOk_of (can_all g.fine hj).1) ⟨by omega, by omega⟩ hp hq]
theorem mid_ok {p q : Pt} (hp : PtR p) (hq : PtR q) : PtOk (midX p q) (midY p q) (midD p q) := by
  obtain ⟨e1, e2, e3⟩ := mid_eq hp hq
  rw [e1, e2, e3]
  obtain ⟨a1, a2, a3, a4⟩ := hp
  obtain ⟨b1, b2, b3, b4⟩ := hq
  have m1 := mul_bd (a := q.x) (b := p.d) (A := 500000000) (B := 100000) (by omega) (by omega)
  have m2 := mul_bd (a := p.x) (b := q.d) (A := 500000000) (B := 100000) (by omega) (by omega)
  have m3 := mul_bd (a := q.y) (b := p.d) (A := 500000000) (B := 100000) (by omega) (by omega)
  have m4 := mul_bd (a := p.y) (b := q.d) (A := 500000000) (B := 100000) (by omega) (by omega)
  have m5 := mul_bd (a := 2 * p.d) (b := q.d) (A := 200000) (B := 100000) (by omega) (by omega)
  have m6 := Int.mul_pos (show 0 < 2 * p.d by omega) b1
  exact ⟨m6, by omega, by omega, by omega⟩
theorem free_eq {h : Hal} {s : Stg} (g : Sit h s) {p q : Pt} (hp : PtH p) (hq : PtH q) : freeP h s p q = freeR h s p q := by
  unfold freeP freeR
  have hwc := g.fine.le.2.2.1
  rw [wlA_eq g.fine hp.r hq.r _ 0 (by omega), hwc, blkB_eq g hp hq h.ks 0 rfl, inPlan_eq g.fine.st 0 (mid_ok hp.r hq.r)]
  have : (List.range' 0 h.cs.length).map (wlOf h.cs) = wls h.cs := by unfold wls; rw [List.range_eq_range']
  rw [this]
  rfl

/-! ### HallFree -/
noncomputable abbrev ptRs : List AV → Option PRes := ptEs
end Go.Proofs.YtddhjopopelkjaaGreat
