/- A part of the proof: lemmas. -/
import Derived.Test.YtddhjopopelkjaaGreatZV1
set_option linter.unusedVariables false
set_option linter.unusedSimpArgs false
namespace Go.Proofs.YtddhjopopelkjaaGreat
open Go Go.Sx

theorem small_eq (x : Int) : small x 5000 = within x (-5000) 5000 := rfl
theorem hasPt_eq {h : Hal} (g : h.fine) {x y z : Int} (hx : -5000 ≤ x ∧ x ≤ 5000) (hy : -5000 ≤ y ∧ y ≤ 5000) : hasPt h x y z 1 = isInsR h ⟨x, y, z, 1⟩ := by
  unfold isInsR hasPt
  rw [inPlan_eq g.st z ⟨by omega, by omega, by omega, by omega⟩]
theorem sea_pt {h : Hal} (g : h.fine) {i : Nat} (hi : i < h.ss.length) : PtH ⟨h.ss[i].x, h.ss[i].y, h.ss[i].z, 1⟩ := by
  have := g.sea i hi
  unfold sErrR at this
  split at this
  · split at this
    · cases this
    · split at this
      · rename_i hp
        unfold plc at hp
        simp only [Bool.and_eq_true, within_iff] at hp
        obtain ⟨⟨h1, h2⟩, h3⟩ := hp
        exact ⟨⟨by dsimp only; omega, by dsimp only; omega, by dsimp only; omega, by dsimp only; omega⟩, by dsimp only; omega⟩
      · cases this
  · cases this
theorem seeL_congr {f f' : Pt → Pt → Bool} {x y z : Int} : ∀ (l : List Sea) (i : Nat), (∀ c ∈ l, f ⟨x, y, z, 1⟩ ⟨c.x, c.y, c.z, 1⟩ = f' ⟨x, y, z, 1⟩ ⟨c.x, c.y, c.z, 1⟩) → seeL f x y z i l = seeL f' x y z i l
  | [], _, _ => rfl
  | c :: l, i, h => by rw [seeL, seeL, h c (by simp), seeL_congr l (i + 1) fun d hd => h d (by simp [hd])]
set_option maxRecDepth 100000 in
set_option maxHeartbeats 16000000 in
theorem c68e {h : Hal} (hk : h.ok) {s : Stg} (hs : s.few) {x y z : Int} (h0 : seeE h s x y z ≠ 0) : PCall Tryz.prog 73 [h.av, s.av, P3 x y z] ⟨.tup [.isl 1 (nl []), I (seeE h s x y z)], []⟩ := by
  have a83 := c83 hk hs
  have a160 := c160 hk.f x y z
  refine PCall.freeze (res := ⟨.tup [.nils, I (seeE h s x y z)], []⟩) ?_ ⟨rfl, ⟨rfl, rfl⟩, trivial⟩
  unfold seeE at h0 ⊢
  by_cases h1 : serr h s = 0
  · rw [if_pos h1] at h0 ⊢
    rw [h1] at a83
    have hk0 : PCOK Tryz.prog (ins 147 (one [h.av, s.av] ⟨.tup [.agg (stgL h s), I 0], []⟩) (ins 148 (one [h.av, P3 x y z] ⟨I (plErr h x y z), []⟩) kG4)) := one_ok a83 (one_ok a160 kG4_ok)
    generalize plErr h x y z = E at *
    refine bs.pv (sx := nos) hk0 Tryz.func73 (by kernel_rfl) (by kernel_rfl) rfl ?_
    repeat' (first | refine wk3 ?_ | (refine wk2 ?_ ?_ <;> intro _) | refine wk4 ?_ | fail); all_goals (conv => whnf)
    exact ret_of rfl rfl
  · rw [if_neg h1] at h0 ⊢
    have hk0 : PCOK Tryz.prog (ins 147 (one [h.av, s.av] ⟨.tup [.agg (stgL h s), I (serr h s)], []⟩) kG4) := one_ok a83 kG4_ok
    generalize serr h s = E at *
    refine bs.pv (sx := nos) hk0 Tryz.func73 (by kernel_rfl) (by kernel_rfl) rfl ?_
    repeat' (first | refine wk3 ?_ | (refine wk2 ?_ ?_ <;> intro _) | refine wk4 ?_ | fail); all_goals (conv => whnf)
    exact ret_of rfl rfl

/-! ### The reference -/
noncomputable abbrev frR (h : Hal) (s : Stg) : List AV → Option PRes := famA (fun w : Pt × Pt => PtR w.1 ∧ PtR w.2) (fun w => [h.av, s.av, wayA w.1 w.2]) (fun w => ⟨Bo (freeR h s w.1 w.2), []⟩)
theorem frR_hit {h : Hal} {s : Stg} {p q : Pt} (hp : PtR p) (hq : PtR q) : frR h s [h.av, s.av, wayA p q] = some ⟨Bo (freeR h s p q), []⟩ :=
  famA_hit (p := fun w : Pt × Pt => PtR w.1 ∧ PtR w.2) (g := fun w => [h.av, s.av, wayA w.1 w.2]) (r := fun w => ⟨Bo (freeR h s w.1 w.2), []⟩) (k := (p, q)) (fun j hj => by
    obtain ⟨⟨a, b, c, d⟩, ⟨x, y, z, w⟩⟩ := j
    obtain ⟨a', b', c', d'⟩ := p
    obtain ⟨x', y', z', w'⟩ := q
    simp only [List.cons.injEq, AV.agg.injEq, AV.int.injEq, true_and, and_true] at hj
    obtain ⟨rfl, rfl, rfl, rfl, rfl, rfl, rfl, rfl⟩ := hj
    rfl) ⟨hp, hq⟩
theorem plErr_cases {h : Hal} (g : h.fine) (x y z : Int) : plErr h x y z = if within x (-5000) 5000 && within y (-5000) 5000 && within z (-5000) 5000 then (if isInsR h ⟨x, y, z, 1⟩ then 0 else 24) else 2 := by
  unfold plErr
  rw [small_eq, small_eq, small_eq]
  by_cases hw : (within x (-5000) 5000 && within y (-5000) 5000 && within z (-5000) 5000) = true
  · rw [if_pos hw, if_pos hw]
    simp only [Bool.and_eq_true, within_iff] at hw
    rw [hasPt_eq g hw.1.1 hw.1.2]
  · rw [if_neg hw, if_neg hw]
end Go.Proofs.YtddhjopopelkjaaGreat
