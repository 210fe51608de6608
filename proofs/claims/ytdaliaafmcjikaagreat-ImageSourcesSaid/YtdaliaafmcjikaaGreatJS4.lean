/- A part of the proof: lemmas. -/
import Derived.Test.YtdaliaafmcjikaaGreatJE6
set_option linter.unusedVariables false
set_option linter.unusedSimpArgs false
namespace Go.Proofs.YtdaliaafmcjikaaGreat
open Go Go.Sx
set_option maxRecDepth 100000 in
set_option maxHeartbeats 16000000 in
theorem d4 (aw : PCall Tryz.prog 12 [] ⟨Bo true, []⟩) (h : Hal) (s : Stg) (a : Ask) (l : List Int) : PCall Tryz.prog 4 [.agg (stgL h s), a.av, .isl 1 (nl l)] ⟨Bo true, []⟩ := by
  have ll := nl_length l
  by_cases hb : few3 h s = true
  rotate_left
  · have hb : few3 h s = false := by simpa using hb
    have hk0 := one_ok (d17 h s) (one_ok aw pt0_ok)
    rw [hb] at hk0
    refine bs.pv (sx := nos) hk0 Tryz.func4 (by kernel_rfl) (by kernel_rfl) rfl ?_
    repeat' (first | refine wk3 ?_ | (refine wk2 ?_ ?_ <;> intro _) | refine wk4 ?_ | fail); all_goals (conv => whnf)
    all_goals exact ret_bool rfl
  by_cases h6 : 6 < l.length
  · have hk0 := one_ok (d17 h s) (one_ok aw pt0_ok)
    rw [hb] at hk0
    refine bs.pv (sx := nos) hk0 Tryz.func4 (by kernel_rfl) (by kernel_rfl) rfl ?_
    repeat' (first | refine wk3 ?_ | (refine wk2 ?_ ?_ <;> intro _) | refine wk4 ?_ | fail); all_goals (conv => whnf)
    all_goals exact ret_bool rfl
  obtain ⟨hk, hs⟩ := few3_ok hb
  obtain ⟨fx, fy, fz, tx, ty, tz, n⟩ := a
  have hk0 := one_ok (d17 h s) (one_ok aw (one_ok (c22f hk.f) (one_ok (c29 hs) (one_ok (d24 hk hs ⟨fx, fy, fz, tx, ty, tz, n⟩) (one_ok (d18 hk hs ⟨fx, fy, fz, tx, ty, tz, n⟩) (one_ok (c25f l (by omega)) (one_ok (d25 hk hs fx fy fz (l := l) (by omega)) (one_ok (d26 hk hs) (one_ok (d93 hk.f l (by omega)) pt0_ok)))))))))
  rw [hb] at hk0
  generalize askE h s ⟨fx, fy, fz, tx, ty, tz, n⟩ = E at *
  by_cases e : serr h s = 0
  rotate_left
  · have i1 : imgE h s (fx, fy, fz) l = serr h s := by unfold imgE; rw [if_neg e]
    have i2 : imgA h s (fx, fy, fz) l = (0, 0, 0) := by unfold imgA; rw [i1, if_neg e]
    rw [i1, i2] at hk0
    generalize serr h s = q at *
    refine bs.pv (sx := nos) hk0 Tryz.func4 (by kernel_rfl) (by kernel_rfl) rfl ?_
    clear hk0
    repeat' (first | refine wk3 ?_ | (refine wk2 ?_ ?_ <;> intro _) | refine wk4 ?_ | fail); all_goals (conv => whnf)
    all_goals first
      | exact ret_bool rfl
      | (refine ret_bool ?_; simp_all; done)
      | (exfalso; simp_all; done)
  have he := serr_herr e
  have i1 : imgE h s (fx, fy, fz) l = fstL [plaE h fx fy fz, suE h l] := by unfold imgE; rw [if_pos e]
  have q1 := r79_hit h fx fy fz
  by_cases e2 : imgE h s (fx, fy, fz) l = 0
  rotate_left
  · have i2 : imgA h s (fx, fy, fz) l = (0, 0, 0) := by unfold imgA; rw [if_neg e2]
    rw [i2] at hk0
    have hk1 := r27_ok hk he hk0
    rw [e, i1] at hk1
    rw [i1] at e2
    simp only [fstL] at e2 hk1
    generalize plaE h fx fy fz = u at *
    generalize suE h l = v at *
    refine bs.pv (sx := nos) hk1 Tryz.func4 (by kernel_rfl) (by kernel_rfl) rfl ?_
    clear hk0 hk1 hb aw
    repeat' (first | refine wk3 ?_ | (refine wk2 ?_ ?_ <;> intro _) | refine wk4 ?_ | fail); all_goals (conv => whnf)
    all_goals first
      | exact ret_bool rfl
      | (refine ret_bool ?_; simp_all; done)
      | (exfalso; simp_all; done)
  have e3 := e2
  rw [i1] at e3
  obtain ⟨a1, a2⟩ := fst2 e3
  obtain ⟨b1, b2⟩ := suE_zero a2
  have i2 : imgA h s (fx, fy, fz) l = imA (im1 h s) (fx, fy, fz) l l.length := by unfold imgA; rw [if_pos e2]
  have hk1 := r27_ok hk he (one_ok (d28f (sit_of hk hs e) (p := (fx, fy, fz)) b1 (fun m hm => sk_of (b2 m hm).1 (b2 m hm).2)) hk0)
  have ql := imC_last (im1 h s) (fx, fy, fz) l l.length
  have qn := imC_len (im1 h s) (fx, fy, fz) l l.length
  rw [e, e2, i2, a2] at hk1
  rw [a1] at q1
  generalize imC (im1 h s) (fx, fy, fz) l l.length = els at *
  generalize imA (im1 h s) (fx, fy, fz) l l.length = q at *
  have ql2 : els[(IntKind.i64.wrap ((els.length : Int) - 1)).toNat]? = some (pl3 q) := by
    rw [qn, W_eq (by omega) (by omega), show (((l.length + 1 : Nat) : Int) - 1).toNat = l.length by omega]
    exact ql
  have qb : IntKind.i64.wrap ((els.length : Int) - 1) = l.length := by rw [qn, W_eq (by omega) (by omega)]; omega
  refine bs.pv (sx := nos) hk1 Tryz.func4 (by kernel_rfl) (by kernel_rfl) rfl ?_
  clear hk0 hk1 hb aw
  repeat' (first | refine wk3 ?_ | (refine wk2 ?_ ?_ <;> intro _) | refine wk4 ?_ | fail); all_goals (conv => whnf)
  all_goals clear ql ql2 qb qn q1
  all_goals first
    | exact ret_bool rfl
    | (refine ret_bool ?_; simp; done)
end Go.Proofs.YtdaliaafmcjikaaGreat
