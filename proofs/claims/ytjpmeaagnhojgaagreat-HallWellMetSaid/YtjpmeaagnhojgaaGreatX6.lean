/- A part of the proof: lemmas. -/
import Derived.Test.YtjpmeaagnhojgaaGreatX5
set_option linter.unusedVariables false
set_option linter.unusedSimpArgs false
namespace Go.Proofs.YtjpmeaagnhojgaaGreat
open Go Go.Sx

/-! The program. -/
abbrev sxC : FuncId → Bool := fun f => Nat.beq f 97 || Nat.beq f 110 || Nat.beq f 111
def r113 : List AV → Option PRes
  | [.int .i64 k, .agg [.int .i64 x, .int .i64 y, .int .i64 z, .int .i64 d]] => some ⟨I (offN k x y z), []⟩
  | _ => none
def crsA (h : Hal) (s : Stg) (c : Crs) : Pt × Int := if crsE h s c = 0 then crAns (wellP h c.su) (planeV h s c.su) c else (ptZ, crsE h s c)
theorem img_eq (x y z : Int) : placeErr x y z = if isImage x y z then 0 else 2 := by rw [isImage_eq]; rfl
set_option maxRecDepth 100000 in
set_option maxHeartbeats 16000000 in
theorem c40e {h : Hal} (hk : h.ok) {s : Stg} (hs : s.few) {c : Crs} (hw : c.to.wf) (he : crsE h s c ≠ 0) : PCall Tryz.prog 40 [h.av, s.av, c.av] ⟨crAV (ptZ, crsE h s c), []⟩ := by
  have hk0 := one_ok (c109 hk hs c.su) (one_ok (c99 hw) kG4_ok)
  by_cases h1 : surE h s c.su = 0
  · have e1 : crsE h s c = if isImage c.fx c.fy c.fz then ptErr c.to else 2 := by
      unfold crsE; rw [if_pos h1, img_eq]
      split
      · rw [if_pos rfl]
      · rw [if_neg (by decide)]
    rw [e1] at he ⊢
    rw [h1] at hk0
    cases h2 : isImage c.fx c.fy c.fz with
    | false =>
      have hu : unl (isImage c.fx c.fy c.fz) 2 = 2 := by rw [h2]; rfl
      rw [if_neg (by decide)]
      refine bs.pv (sx := sxC) hk0 Tryz.func40 (by kernel_rfl) (by kernel_rfl) rfl ?_
      repeat' (first | refine wk1 ?_ | (refine wk2 ?_ ?_ <;> intro _) | refine wk4 ?_ | fail); all_goals (conv => whnf)
      refine bs.sv (sx := sxC) hk0 Tryz.func97 (by kernel_rfl) (by kernel_rfl) ?_
      refine LpM.start 3 ?_
      refine LpM.succ (bs.av (sx := sxC) hk0 ?_)
      repeat' (first | refine wk1 ?_ | (refine wk2 ?_ ?_ <;> intro _) | refine wk4 ?_ | fail); all_goals (conv => whnf)
      refine bs.sv (sx := sxC) hk0 Tryz.func110 (by kernel_rfl) (by kernel_rfl) ?_
      repeat' (first | refine wk1 ?_ | (refine wk2 ?_ ?_ <;> intro _) | refine wk4 ?_ | fail); all_goals (conv => whnf)
      exact ret_of (by rw [hu]; rfl) rfl
    | true =>
      have hu : unl (isImage c.fx c.fy c.fz) 2 = 0 := by rw [h2]; rfl
      rw [h2, if_pos rfl] at he
      rw [if_pos rfl]
      generalize ptErr c.to = pe at *
      refine bs.pv (sx := sxC) hk0 Tryz.func40 (by kernel_rfl) (by kernel_rfl) rfl ?_
      repeat' (first | refine wk1 ?_ | (refine wk2 ?_ ?_ <;> intro _) | refine wk4 ?_ | fail); all_goals (conv => whnf)
      refine bs.sv (sx := sxC) hk0 Tryz.func97 (by kernel_rfl) (by kernel_rfl) ?_
      refine LpM.start 3 ?_
      refine LpM.succ (bs.av (sx := sxC) hk0 ?_)
      repeat' (first | refine wk1 ?_ | (refine wk2 ?_ ?_ <;> intro _) | refine wk4 ?_ | fail); all_goals (conv => whnf)
      refine bs.sv (sx := sxC) hk0 Tryz.func110 (by kernel_rfl) (by kernel_rfl) ?_
      repeat' (first | refine wk1 ?_ | (refine wk2 ?_ ?_ <;> intro _) | refine wk4 ?_ | fail); all_goals (conv => whnf)
      refine LpM.succ (bs.av (sx := sxC) hk0 ?_)
      repeat' (first | refine wk1 ?_ | (refine wk2 ?_ ?_ <;> intro _) | refine wk4 ?_ | fail); all_goals (conv => whnf)
      refine bs.sv (sx := sxC) hk0 Tryz.func111 (by kernel_rfl) (by kernel_rfl) ?_
      repeat' (first | refine wk1 ?_ | (refine wk2 ?_ ?_ <;> intro _) | refine wk4 ?_ | fail); all_goals (conv => whnf)
      exact ret_of rfl rfl
  · have e1 : crsE h s c = surE h s c.su := by unfold crsE; rw [if_neg h1]
    rw [e1]
    refine bs.pv (sx := sxC) hk0 Tryz.func40 (by kernel_rfl) (by kernel_rfl) rfl ?_
    repeat' (first | refine wk1 ?_ | (refine wk2 ?_ ?_ <;> intro _) | refine wk4 ?_ | fail); all_goals (conv => whnf)
    exact ret_of rfl rfl
theorem size_abs {n : Int} (h : -9000000000000000000 ≤ n ∧ n ≤ 9000000000000000000) : size n = iabs n := by rw [size_eq h]; rfl
set_option maxRecDepth 100000 in
set_option maxHeartbeats 16000000 in
theorem c40o {h : Hal} (hk : h.ok) {s : Stg} (hs : s.few) {c : Crs} (hw : c.to.wf) (he : crsE h s c = 0) : PCall Tryz.prog 40 [h.av, s.av, c.av] ⟨crAV (crAns (wellP h c.su) (planeV h s c.su) c), []⟩ := by
  obtain ⟨g, hi, ho, h1, h2, h3⟩ := crOk_of hk hs he
  have h2' : isImage c.fx c.fy c.fz = true := by
    rw [img_eq] at h2
    cases hx : isImage c.fx c.fy c.fz
    · rw [hx] at h2; exact absurd h2 (by decide)
    · rfl
  have hu : unl (isImage c.fx c.fy c.fz) 2 = 0 := by rw [h2']; rfl
  obtain ⟨f1, f2, f3⟩ := crF_bd ho
  obtain ⟨g1, g2⟩ := crG_bd ho
  have hk0 := one_ok (c109 hk hs c.su) (one_ok (c99 hw) kG4_ok)
  rw [h1, h3] at hk0
  have hk0 := one_ok (c112 g hi) (ins_ok (f0 := 113) (r := r113) (fun a res h => by unfold r113 at h; split at h <;> cases h; exact c113 _ ⟨_, _, _, _⟩) hk0)
  generalize hpl : planeV h s c.su = pl at *
  by_cases hsg : 0 ≤ sgn (crF pl c) * sgn (crG pl c)
  · rw [crAns_side hsg]
    have hs2 : 0 ≤ IntKind.i64.wrap (sgn (IntKind.i64.wrap (offN pl.1 c.fx c.fy c.fz - pl.2)) * sgn (IntKind.i64.wrap (offN pl.1 c.to.x c.to.y c.to.z - IntKind.i64.wrap (pl.2 * c.to.d)))) := by rw [f1, g1, W_sgn]; exact hsg
    refine bs.pv (sx := sxC) hk0 Tryz.func40 (by kernel_rfl) (by kernel_rfl) rfl ?_
    repeat' (first | refine wk1 ?_ | (refine wk2 ?_ ?_ <;> intro _) | refine wk4 ?_ | fail); all_goals (conv => whnf)
    refine bs.sv (sx := sxC) hk0 Tryz.func97 (by kernel_rfl) (by kernel_rfl) ?_
    refine LpM.start 3 ?_
    refine LpM.succ (bs.av (sx := sxC) hk0 ?_)
    repeat' (first | refine wk1 ?_ | (refine wk2 ?_ ?_ <;> intro _) | refine wk4 ?_ | fail); all_goals (conv => whnf)
    refine bs.sv (sx := sxC) hk0 Tryz.func110 (by kernel_rfl) (by kernel_rfl) ?_
    repeat' (first | refine wk1 ?_ | (refine wk2 ?_ ?_ <;> intro _) | refine wk4 ?_ | fail); all_goals (conv => whnf)
    refine LpM.succ (bs.av (sx := sxC) hk0 ?_)
    repeat' (first | refine wk1 ?_ | (refine wk2 ?_ ?_ <;> intro _) | refine wk4 ?_ | fail); all_goals (conv => whnf)
    refine bs.sv (sx := sxC) hk0 Tryz.func111 (by kernel_rfl) (by kernel_rfl) ?_
    repeat' (first | refine wk1 ?_ | (refine wk2 ?_ ?_ <;> intro _) | refine wk4 ?_ | fail); all_goals (conv => whnf)
    refine LpM.succ (bs.av (sx := sxC) hk0 ?_)
    repeat' (first | refine wk1 ?_ | (refine wk2 ?_ ?_ <;> intro _) | refine wk4 ?_ | fail); all_goals (conv => whnf)
    exact ret_of rfl rfl
  · have hs2 : ¬ 0 ≤ IntKind.i64.wrap (sgn (IntKind.i64.wrap (offN pl.1 c.fx c.fy c.fz - pl.2)) * sgn (IntKind.i64.wrap (offN pl.1 c.to.x c.to.y c.to.z - IntKind.i64.wrap (pl.2 * c.to.d)))) := by rw [f1, g1, W_sgn]; exact hsg
    have hB := cross_big ho hsg
    have hx := crPt_bd ho (u := iabs (crG pl c)) (v := iabs (crF pl c)) (by have := wts_of ho hsg; omega) (by have := wts_of ho hsg; omega)
    have hcr : crossP pl c = redP (crPt c (iabs (crG pl c)) (iabs (crF pl c))) := rfl
    have hwl := c118 g hi (crossP pl c)
    have A1 := crAns_no (well := wellP h c.su) (pl := pl) (c := c)
    have A2 := crAns_big (well := wellP h c.su) hsg
    have A3 := crAns_ok (well := wellP h c.su) hsg
    generalize crAns (wellP h c.su) pl c = ans at *
    generalize wellP h c.su (crossP pl c) = wl at *
    generalize crossP pl c = Q at *
    have su : size (IntKind.i64.wrap (offN pl.1 c.to.x c.to.y c.to.z - IntKind.i64.wrap (pl.2 * c.to.d))) = iabs (crG pl c) := by rw [g1]; exact size_abs (by omega)
    have sv : size (IntKind.i64.wrap (offN pl.1 c.fx c.fy c.fz - pl.2)) = iabs (crF pl c) := by rw [f1]; exact size_abs (by omega)
    generalize hp : crPt c (iabs (crG pl c)) (iabs (crF pl c)) = p at *
    generalize iabs (crF pl c) = v at *
    generalize iabs (crG pl c) = u at *
    have px : c.fx * u + c.to.x * v = p.x := by rw [← hp]; rfl
    have py : c.fy * u + c.to.y * v = p.y := by rw [← hp]; rfl
    have pz : c.fz * u + c.to.z * v = p.z := by rw [← hp]; rfl
    have pd : u + c.to.d * v = p.d := by rw [← hp]; rfl
    obtain ⟨x1, x2, x3, x4, x5, x6, x7⟩ := hx
    have hDd := hB.d
    generalize hA : IntKind.i64.wrap (offN pl.1 c.fx c.fy c.fz - pl.2) = A at *
    generalize hBb : IntKind.i64.wrap (offN pl.1 c.to.x c.to.y c.to.z - IntKind.i64.wrap (pl.2 * c.to.d)) = B at *
    have q : ∀ a b : Int, (-90000000000000 ≤ a * u ∧ a * u ≤ 90000000000000) → (-50000000000000 ≤ b * v ∧ b * v ≤ 50000000000000) → IntKind.i64.wrap (IntKind.i64.wrap (a * size B) + IntKind.i64.wrap (b * size A)) = a * u + b * v := by
      intro a b k1 k2
      rw [su, sv]
      rw [W_eq (n := a * u) (by omega) (by omega), W_eq (n := b * v) (by omega) (by omega), W_eq (by omega) (by omega)]
    have qd : IntKind.i64.wrap (size B + IntKind.i64.wrap (c.to.d * size A)) = p.d := by
      rw [su, sv]
      rw [W_eq (n := c.to.d * v) (by omega) (by omega), W_eq (by omega) (by omega)]; omega
    obtain ⟨k1, k2, k3, k4, k5, k6, k7, k8⟩ := cr_raw hB (X := IntKind.i64.wrap (IntKind.i64.wrap (c.fx * size B) + IntKind.i64.wrap (c.to.x * size A))) (Y := IntKind.i64.wrap (IntKind.i64.wrap (c.fy * size B) + IntKind.i64.wrap (c.to.y * size A))) (Z := IntKind.i64.wrap (IntKind.i64.wrap (c.fz * size B) + IntKind.i64.wrap (c.to.z * size A))) (D := IntKind.i64.wrap (size B + IntKind.i64.wrap (c.to.d * size A))) (by rw [q _ _ x1 x4, px]) (by rw [q _ _ x2 x5, py]) (by rw [q _ _ x3 x6, pz]) qd
    rw [← hcr] at k4 k5 k6 k7
    have hdv : PCall Tryz.prog 117 [.isl 1 (nl [IntKind.i64.wrap (IntKind.i64.wrap (c.fx * size B) + IntKind.i64.wrap (c.to.x * size A)), IntKind.i64.wrap (IntKind.i64.wrap (c.fy * size B) + IntKind.i64.wrap (c.to.y * size A)), IntKind.i64.wrap (IntKind.i64.wrap (c.fz * size B) + IntKind.i64.wrap (c.to.z * size A)), IntKind.i64.wrap (size B + IntKind.i64.wrap (c.to.d * size A))])] ⟨I (g4 p : Int), []⟩ := by
      rw [q _ _ x1 x4, q _ _ x2 x5, q _ _ x3 x6, qd, px, py, pz]
      have hwf := hB.wf
      have hc := c117 (ns := [p.x, p.y, p.z, p.d]) (by simp) (by
        intro n hn
        simp only [List.mem_cons, List.not_mem_nil, or_false] at hn
        rcases hn with rfl | rfl | rfl | rfl
        · exact hwf.x
        · exact hwf.y
        · exact hwf.z
        · exact hwf.d)
      have hg : gl 0 [p.x, p.y, p.z, p.d] = g4 p := by
        simp only [gl, Nat.gcd_zero_left]
        exact gcd4_assoc _ _ _ _
      rw [hg, W_eq (n := ((g4 p : Nat) : Int)) (by omega) (by omega)] at hc
      exact hc
    have hw2 : PCall Tryz.prog 118 [.agg (stgL h s), I c.su, P4 (IntKind.i64.wrap ((IntKind.i64.wrap (IntKind.i64.wrap (c.fx * size B) + IntKind.i64.wrap (c.to.x * size A))).tdiv (g4 p))) (IntKind.i64.wrap ((IntKind.i64.wrap (IntKind.i64.wrap (c.fy * size B) + IntKind.i64.wrap (c.to.y * size A))).tdiv (g4 p))) (IntKind.i64.wrap ((IntKind.i64.wrap (IntKind.i64.wrap (c.fz * size B) + IntKind.i64.wrap (c.to.z * size A))).tdiv (g4 p))) (IntKind.i64.wrap ((IntKind.i64.wrap (size B + IntKind.i64.wrap (c.to.d * size A))).tdiv (g4 p)))] ⟨Bo wl, []⟩ := by
      rw [k4, k5, k6, k7]; exact hwl
    rw [← hA, ← hBb] at hw2 hdv
    have hk2 := one_ok hw2 (one_ok hdv hk0)
    clear hw2 hwl hk0 hdv q
    rw [← hA, ← hBb] at k4 k5 k6 k7 hs2
    clear k1 k2 k3
    refine bs.pv (sx := sxC) hk2 Tryz.func40 (by kernel_rfl) (by kernel_rfl) rfl ?_
    cases wl with
    | false =>
      rw [A1 rfl]
      repeat' (first | refine wk1 ?_ | (refine wk2 ?_ ?_ <;> intro _) | refine wk4 ?_ | fail); all_goals (conv => whnf)
      refine bs.sv (sx := sxC) hk2 Tryz.func97 (by kernel_rfl) (by kernel_rfl) ?_
      refine LpM.start 3 ?_
      refine LpM.succ (bs.av (sx := sxC) hk2 ?_)
      repeat' (first | refine wk1 ?_ | (refine wk2 ?_ ?_ <;> intro _) | refine wk4 ?_ | fail); all_goals (conv => whnf)
      refine bs.sv (sx := sxC) hk2 Tryz.func110 (by kernel_rfl) (by kernel_rfl) ?_
      repeat' (first | refine wk1 ?_ | (refine wk2 ?_ ?_ <;> intro _) | refine wk4 ?_ | fail); all_goals (conv => whnf)
      refine LpM.succ (bs.av (sx := sxC) hk2 ?_)
      repeat' (first | refine wk1 ?_ | (refine wk2 ?_ ?_ <;> intro _) | refine wk4 ?_ | fail); all_goals (conv => whnf)
      refine bs.sv (sx := sxC) hk2 Tryz.func111 (by kernel_rfl) (by kernel_rfl) ?_
      repeat' (first | refine wk1 ?_ | (refine wk2 ?_ ?_ <;> intro _) | refine wk4 ?_ | fail); all_goals (conv => whnf)
      refine LpM.succ (bs.av (sx := sxC) hk2 ?_)
      repeat' (first | refine wk1 ?_ | (refine wk2 ?_ ?_ <;> intro _) | refine wk4 ?_ | fail); all_goals (conv => whnf)
      exact ret_of rfl rfl
    | true =>
      by_cases hd : 100000 < Q.d
      · rw [A2 rfl hd]
        repeat' (first | refine wk1 ?_ | (refine wk2 ?_ ?_ <;> intro _) | refine wk4 ?_ | fail); all_goals (conv => whnf)
        refine bs.sv (sx := sxC) hk2 Tryz.func97 (by kernel_rfl) (by kernel_rfl) ?_
        refine LpM.start 3 ?_
        refine LpM.succ (bs.av (sx := sxC) hk2 ?_)
        repeat' (first | refine wk1 ?_ | (refine wk2 ?_ ?_ <;> intro _) | refine wk4 ?_ | fail); all_goals (conv => whnf)
        refine bs.sv (sx := sxC) hk2 Tryz.func110 (by kernel_rfl) (by kernel_rfl) ?_
        repeat' (first | refine wk1 ?_ | (refine wk2 ?_ ?_ <;> intro _) | refine wk4 ?_ | fail); all_goals (conv => whnf)
        refine LpM.succ (bs.av (sx := sxC) hk2 ?_)
        repeat' (first | refine wk1 ?_ | (refine wk2 ?_ ?_ <;> intro _) | refine wk4 ?_ | fail); all_goals (conv => whnf)
        refine bs.sv (sx := sxC) hk2 Tryz.func111 (by kernel_rfl) (by kernel_rfl) ?_
        repeat' (first | refine wk1 ?_ | (refine wk2 ?_ ?_ <;> intro _) | refine wk4 ?_ | fail); all_goals (conv => whnf)
        refine LpM.succ (bs.av (sx := sxC) hk2 ?_)
        repeat' (first | refine wk1 ?_ | (refine wk2 ?_ ?_ <;> intro _) | refine wk4 ?_ | fail); all_goals (conv => whnf)
        exact ret_of rfl rfl
      · rw [A3 rfl hd]
        repeat' (first | refine wk1 ?_ | (refine wk2 ?_ ?_ <;> intro _) | refine wk4 ?_ | fail); all_goals (conv => whnf)
        refine bs.sv (sx := sxC) hk2 Tryz.func97 (by kernel_rfl) (by kernel_rfl) ?_
        refine LpM.start 3 ?_
        refine LpM.succ (bs.av (sx := sxC) hk2 ?_)
        repeat' (first | refine wk1 ?_ | (refine wk2 ?_ ?_ <;> intro _) | refine wk4 ?_ | fail); all_goals (conv => whnf)
        refine bs.sv (sx := sxC) hk2 Tryz.func110 (by kernel_rfl) (by kernel_rfl) ?_
        repeat' (first | refine wk1 ?_ | (refine wk2 ?_ ?_ <;> intro _) | refine wk4 ?_ | fail); all_goals (conv => whnf)
        refine LpM.succ (bs.av (sx := sxC) hk2 ?_)
        repeat' (first | refine wk1 ?_ | (refine wk2 ?_ ?_ <;> intro _) | refine wk4 ?_ | fail); all_goals (conv => whnf)
        refine bs.sv (sx := sxC) hk2 Tryz.func111 (by kernel_rfl) (by kernel_rfl) ?_
        repeat' (first | refine wk1 ?_ | (refine wk2 ?_ ?_ <;> intro _) | refine wk4 ?_ | fail); all_goals (conv => whnf)
        refine LpM.succ (bs.av (sx := sxC) hk2 ?_)
        repeat' (first | refine wk1 ?_ | (refine wk2 ?_ ?_ <;> intro _) | refine wk4 ?_ | fail); all_goals (conv => whnf)
        exact ret_of (by rw [k4, k5, k6, k7]) rfl
end Go.Proofs.YtjpmeaagnhojgaaGreat
