/- A part of the proof: lemmas. -/
import Derived.Test.YtdaliaafmcjikaaGreatJE3
import Derived.Test.YtdaliaafmcjikaaGreatJE4
set_option linter.unusedVariables false
set_option linter.unusedSimpArgs false
namespace Go.Proofs.YtdaliaafmcjikaaGreat
open Go Go.Sx
/-! ### ImageAt -/
theorem d82f {h : Hal} (hk : h.ok) {s : Stg} (hs : s.few) (h0 : serr h s = 0) {p : Pl3} (hp : Near 5000 p) {l : List Int} (hl : l.length ≤ 4) (hi : ∀ n ∈ l, 0 ≤ n ∧ n < nsur h) :
    PCall Tryz.prog 82 [.agg (stgL h s), P3 p.1 p.2.1 p.2.2, .isl 1 (nl l)] ⟨.isl 3 (imC (im1 h s) p l l.length), []⟩ := by
  have := d82 hk hs h0 hp hl hi
  rw [show l.length + 1 = (imC (im1 h s) p l l.length).length by rw [imC_len]] at this
  exact this.freeze ⟨rfl, rfl, rfl⟩
theorem d28f {h : Hal} {s : Stg} (g : Sit h s) {p : Pl3} {l : List Int} (hl : l.length ≤ 4) (hi : ∀ n ∈ l, SK h n) :
    PCall Tryz.prog 28 [h.av, s.av, P3 p.1 p.2.1 p.2.2, .isl 1 (nl l)] ⟨.isl 3 (imC (im1 h s) p l l.length), []⟩ := by
  have := d28 g (p := p) hl hi
  rw [show l.length + 1 = (imC (im1 h s) p l l.length).length by rw [imC_len]] at this
  exact this.freeze ⟨rfl, rfl, rfl⟩
def imgE (h : Hal) (s : Stg) (p : Pl3) (l : List Int) : Int := if serr h s = 0 then fstL [plaE h p.1 p.2.1 p.2.2, suE h l] else serr h s
def imgA (h : Hal) (s : Stg) (p : Pl3) (l : List Int) : Pl3 := if imgE h s p l = 0 then imA (im1 h s) p l l.length else (0, 0, 0)
theorem fst2 {a b : Int} (h : fstL [a, b] = 0) : a = 0 ∧ b = 0 := by
  simp only [fstL] at h
  split at h
  · exact absurd h ‹_›
  · split at h
    · exact absurd h ‹_›
    · omega
theorem suE_zero {h : Hal} {l : List Int} (e : suE h l = 0) : l.length ≤ 4 ∧ ∀ n ∈ l, 0 ≤ n ∧ n < nsur h := by
  unfold suE at e
  split at e
  · cases e
  · exact ⟨by omega, fun n hn => by have := wkG_in e n hn; omega⟩
theorem plaE_zero {h : Hal} {x y z : Int} (e : plaE h x y z = 0) : Near 5000 (x, y, z) ∧ isInsR h ⟨x, y, z, 1⟩ = true := by
  unfold plaE at e
  split at e
  · rename_i c
    simp only [plcB, Bool.and_eq_true, within_iff] at c
    refine ⟨⟨by dsimp only; omega, by dsimp only; omega, by dsimp only; omega⟩, ?_⟩
    unfold unl at e
    cases hb : isInsR h ⟨x, y, z, 1⟩ with
    | true => rfl
    | false => rw [hb] at e; cases e
  · cases e
set_option maxRecDepth 100000 in
set_option maxHeartbeats 8000000 in
theorem d25 {h : Hal} (hk : h.ok) {s : Stg} (hs : s.few) (x y z : Int) {l : List Int} (hl : l.length < 1000) :
    PCall Tryz.prog 25 [h.av, s.av, P3 x y z, .isl 1 (nl l)] ⟨.tup [P3 (imgA h s (x, y, z) l).1 (imgA h s (x, y, z) l).2.1 (imgA h s (x, y, z) l).2.2, I (imgE h s (x, y, z) l)], []⟩ := by
  have hk0 := one_ok (c47 hk hs) pt0_ok
  by_cases e : serr h s = 0
  · have he := serr_herr e
    have hi : imgE h s (x, y, z) l = fstL [plaE h x y z, suE h l] := by unfold imgE; rw [if_pos e]
    unfold imgA
    rw [hi]
    rw [e] at hk0
    have hk1 := r79_ok hk he (one_ok (d165 hk he l hl) (rFst_ok hk0))
    have q1 := r79_hit h x y z
    by_cases e2 : fstL [plaE h x y z, suE h l] = 0
    · rw [if_pos e2]
      obtain ⟨a1, a2⟩ := fst2 e2
      obtain ⟨b1, b2⟩ := suE_zero a2
      have hk2 := one_ok (d82f hk hs e (plaE_zero a1).1 b1 b2) hk1
      have ql := imC_last (im1 h s) (x, y, z) l l.length
      have qn := imC_len (im1 h s) (x, y, z) l l.length
      rw [e2]
      generalize imC (im1 h s) (x, y, z) l l.length = els at *
      generalize imA (im1 h s) (x, y, z) l l.length = q at *
      have ql2 : els[(IntKind.i64.wrap ((els.length : Int) - 1)).toNat]? = some (pl3 q) := by
        rw [qn, W_eq (by omega) (by omega), show (((l.length + 1 : Nat) : Int) - 1).toNat = l.length by omega]
        exact ql
      have qb : IntKind.i64.wrap ((els.length : Int) - 1) = l.length := by rw [qn, W_eq (by omega) (by omega)]; omega
      refine bs.pv (sx := nos) hk2 Tryz.func25 (by kernel_rfl) (by kernel_rfl) rfl ?_
      repeat' (first | refine wk3 ?_ | (refine wk2 ?_ ?_ <;> intro _) | refine wk4 ?_ | fail); all_goals (conv => whnf)
      refine wxG (rFst_hit (l := [plaE h x y z, suE h l]) (by simp)) ?_
      conv => whnf
      repeat' (first | refine wk3 ?_ | (refine wk2 ?_ ?_ <;> intro _) | refine wk4 ?_ | fail); all_goals (conv => whnf)
      all_goals first
        | exact ret_of rfl rfl
        | (exfalso; clear hk2 hk1 hk0; simp_all; done)
    · rw [if_neg e2]
      refine bs.pv (sx := nos) hk1 Tryz.func25 (by kernel_rfl) (by kernel_rfl) rfl ?_
      repeat' (first | refine wk3 ?_ | (refine wk2 ?_ ?_ <;> intro _) | refine wk4 ?_ | fail); all_goals (conv => whnf)
      refine wxG (rFst_hit (l := [plaE h x y z, suE h l]) (by simp)) ?_
      conv => whnf
      repeat' (first | refine wk3 ?_ | (refine wk2 ?_ ?_ <;> intro _) | refine wk4 ?_ | fail); all_goals (conv => whnf)
      all_goals first
        | exact ret_of rfl rfl
        | (exfalso; clear hk1 hk0; simp_all; done)
  · have hi : imgE h s (x, y, z) l = serr h s := by unfold imgE; rw [if_neg e]
    unfold imgA
    rw [hi, if_neg e]
    refine bs.pv (sx := nos) hk0 Tryz.func25 (by kernel_rfl) (by kernel_rfl) rfl ?_
    repeat' (first | refine wk3 ?_ | (refine wk2 ?_ ?_ <;> intro _) | refine wk4 ?_ | fail); all_goals (conv => whnf)
    all_goals first
      | exact ret_of rfl rfl
      | (exfalso; simp_all; done)
end Go.Proofs.YtdaliaafmcjikaaGreat
