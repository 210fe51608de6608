/- A part of the proof: lemmas. -/
import Derived.Test.YtmbgehpcjihfpaaAL17
import Derived.Test.YtmbgehpcjihfpaaSxCut
set_option linter.unusedVariables false
set_option linter.unusedSimpArgs false
namespace Go.Proofs.Ytmbgehpcjihfpaa
open Go Go.Sx
noncomputable def code3 : Code := match Try.f3.body with
  | some c => c
  | none => .skip
abbrev arL (r v : Int) (L : List (List AV)) : AV := .agg [I r, I v, .isl 5 L]
structure FK (x : Nat) (k : Int) : Prop where
  gt : (FloatKind.f64.format.order x 4741671816366391296 == some .gt) = false
  lt : (FloatKind.f64.format.order x 13965043853221167104 == some .lt) = false
  cv : convFAV (tget tbl) 43 3 (.flt .f64 x) = some (I k)
set_option maxRecDepth 100000 in
set_option maxHeartbeats 16000000 in
theorem tail3 {r v px py pz : Int} {A M : List (List AV)} {n : Nat} {x0 x1 x2 x3 : Nat} {k0 k1 k2 k3 e0 e1 : Int} {T6 T8 T9 T10 : List AV → Option PRes} (hn : n = M.length)
    (hk : PCOK Try.prog (ins 6 T6 (ins 8 T8 (ins 9 T9 (ins 10 T10 pt0)))))
    (c1 : T6 [arL r v A] = some ⟨arL r v A, []⟩)
    (c2 : T8 [arL r v A, P3 px py pz] = some ⟨.tup [.cpx .f64 x0 x1, I 0], []⟩)
    (c3 : T8 [arL r v ((M.drop 0).take n), P3 px py pz] = some ⟨.tup [.cpx .f64 x2 x3, I 0], []⟩)
    (c4 : T9 [arL r v A, P3 px py pz] = some ⟨.tup [P2 e0 e1, I 0], []⟩)
    (d0 : T10 [.flt .f64 x0] = some ⟨Bo true, []⟩) (d1 : T10 [.flt .f64 x1] = some ⟨Bo true, []⟩) (d2 : T10 [.flt .f64 x2] = some ⟨Bo true, []⟩) (d3 : T10 [.flt .f64 x3] = some ⟨Bo true, []⟩)
    (f0 : FK x0 k0) (f1 : FK x1 k1) (f2 : FK x2 k2) (f3 : FK x3 k3)
    (hF : IntKind.i64.wrap (IntKind.i64.wrap (k2 * k2) + IntKind.i64.wrap (k3 * k3)) ≤ IntKind.i64.wrap (IntKind.i64.wrap (k0 * k0) + IntKind.i64.wrap (k1 * k1)) ∧ e0 ≤ IntKind.i64.wrap (IntKind.i64.wrap (k0 * k0) + IntKind.i64.wrap (k1 * k1))) :
    Awp Try.prog Try.f3.ntmps (dropS 2 (dropS 5 code3)) [(4, .ptr 1 0 0), (7, .ptr 9 0 0), (9, .ptr 21 0 0)]
      ⟨[(21, .row 3 [[I r, I v, .asl 20 0 n]] true false), (20, .row 5 M true true), (9, .row 3 [[I r, I v, .isl 5 A]] true false), (1, .row 3 [[I px, I py, I pz]] true false)], 22⟩ (retQ (tget tbl) Try.f3.results.toList fun v σ => fA v fun v => Ret ⟨Bo true, []⟩ v σ) := by
  refine bs.cut 4 (sx := nos) hk ?_
  repeat' (first | refine wk3 ?_ | (refine wk2 ?_ ?_ <;> intro _) | refine wk4 ?_ | fail); all_goals (conv => whnf)
  refine Cut.of (env2 := [(11, .cpx .f64 x0 x1), (13, .cpx .f64 x2 x3), (15, .ptr 31 0 0)]) (σ2 := ⟨[(31, .row 2 [[I e0, I e1]] true false)], 40⟩) (Ren.of [] rfl (kps) (kps)) ?_
  clear c1 c2 c3 c4
  obtain ⟨g0, h0, v0⟩ := f0
  obtain ⟨g1, h1, v1⟩ := f1
  obtain ⟨g2, h2, v2⟩ := f2
  obtain ⟨g3, h3, v3⟩ := f3
  refine bs.av (sx := nos) hk ?_
  repeat' (first | refine wk3 ?_ | (refine wk2 ?_ ?_ <;> intro _) | refine wk4 ?_ | fail); all_goals (conv => whnf)
  refine LpM.start 6 ?_
  refine LpM.succ (bs.av (sx := nos) hk ?_)
  repeat' (first | refine wk3 ?_ | (refine wk2 ?_ ?_ <;> intro _) | refine wk4 ?_ | fail); all_goals (conv => whnf)
  · rename_i hh
    exact absurd hh (by rw [g0]; decide)
  · rename_i hh
    exact absurd hh (by rw [h0]; decide)
  split
  rotate_left
  · rename_i hx
    exfalso
    change ret (convFAV (tget tbl) 43 3 (.flt .f64 x0)) = none at hx
    rw [v0] at hx
    cases hx
  rename_i y hy
  change ret (convFAV (tget tbl) 43 3 (.flt .f64 x0)) = some y at hy
  rw [v0] at hy
  cases hy
  repeat' (first | refine wk3 ?_ | (refine wk2 ?_ ?_ <;> intro _) | refine wk4 ?_ | fail); all_goals (conv => whnf)
  refine LpM.succ (bs.av (sx := nos) hk ?_)
  repeat' (first | refine wk3 ?_ | (refine wk2 ?_ ?_ <;> intro _) | refine wk4 ?_ | fail); all_goals (conv => whnf)
  · rename_i hh
    exact absurd hh (by rw [g1]; decide)
  · rename_i hh
    exact absurd hh (by rw [h1]; decide)
  split
  rotate_left
  · rename_i hx
    exfalso
    change ret (convFAV (tget tbl) 43 3 (.flt .f64 x1)) = none at hx
    rw [v1] at hx
    cases hx
  rename_i y hy
  change ret (convFAV (tget tbl) 43 3 (.flt .f64 x1)) = some y at hy
  rw [v1] at hy
  cases hy
  repeat' (first | refine wk3 ?_ | (refine wk2 ?_ ?_ <;> intro _) | refine wk4 ?_ | fail); all_goals (conv => whnf)
  refine LpM.succ (bs.av (sx := nos) hk ?_)
  repeat' (first | refine wk3 ?_ | (refine wk2 ?_ ?_ <;> intro _) | refine wk4 ?_ | fail); all_goals (conv => whnf)
  · rename_i hh
    exact absurd hh (by rw [g2]; decide)
  · rename_i hh
    exact absurd hh (by rw [h2]; decide)
  split
  rotate_left
  · rename_i hx
    exfalso
    change ret (convFAV (tget tbl) 43 3 (.flt .f64 x2)) = none at hx
    rw [v2] at hx
    cases hx
  rename_i y hy
  change ret (convFAV (tget tbl) 43 3 (.flt .f64 x2)) = some y at hy
  rw [v2] at hy
  cases hy
  repeat' (first | refine wk3 ?_ | (refine wk2 ?_ ?_ <;> intro _) | refine wk4 ?_ | fail); all_goals (conv => whnf)
  refine LpM.succ (bs.av (sx := nos) hk ?_)
  repeat' (first | refine wk3 ?_ | (refine wk2 ?_ ?_ <;> intro _) | refine wk4 ?_ | fail); all_goals (conv => whnf)
  · rename_i hh
    exact absurd hh (by rw [g3]; decide)
  · rename_i hh
    exact absurd hh (by rw [h3]; decide)
  split
  rotate_left
  · rename_i hx
    exfalso
    change ret (convFAV (tget tbl) 43 3 (.flt .f64 x3)) = none at hx
    rw [v3] at hx
    cases hx
  rename_i y hy
  change ret (convFAV (tget tbl) 43 3 (.flt .f64 x3)) = some y at hy
  rw [v3] at hy
  cases hy
  repeat' (first | refine wk3 ?_ | (refine wk2 ?_ ?_ <;> intro _) | refine wk4 ?_ | fail); all_goals (conv => whnf)
  refine LpM.succ (bs.av (sx := nos) hk ?_)
  repeat' (first | refine wk3 ?_ | (refine wk2 ?_ ?_ <;> intro _) | refine wk4 ?_ | fail); all_goals (conv => whnf)
  all_goals exact ret_bool (by simp_all)
end Go.Proofs.Ytmbgehpcjihfpaa
