/- A part of the proof: lemmas. -/
import Derived.Test.YtdaliaafmcjikaaGreatZw10
import Derived.Test.YtdaliaafmcjikaaGreatZw11
set_option linter.unusedVariables false
set_option linter.unusedSimpArgs false
namespace Go.Proofs.YtdaliaafmcjikaaGreat
open Go Go.Sx

/-! ### Where a way crosses a surface: contracts -/
set_option maxHeartbeats 4000000 in
theorem c113 (k : Int) (p : Pt) : PCall Tryz.prog 166 [I k, p.av] ⟨I (offN k p.x p.y p.z), []⟩ := by
  refine bs.pv (sx := nos) pt0_ok Tryz.func166 (by kernel_rfl) (by kernel_rfl) rfl ?_
  repeat' (first | refine wk0 ?_ | (refine wk2 ?_ ?_ <;> intro _) | refine wk4 ?_ | fail); all_goals (conv => whnf)
  all_goals exact ret_int (by simp_all [offN])
/-- In the program: the point lies well in the surface. -/
def wellW (h : Hal) (w : Wl) (p : Pt) : Bool := !(decide (p.z ≤ 0) || decide (IntKind.i64.wrap (h.ht * p.d) ≤ p.z)) && (if w.fx = w.tx then decide (IntKind.i64.wrap (imin w.fy w.ty * p.d) < p.y) && decide (p.y < IntKind.i64.wrap (imax w.fy w.ty * p.d)) else decide (IntKind.i64.wrap (imin w.fx w.tx * p.d) < p.x) && decide (p.x < IntKind.i64.wrap (imax w.fx w.tx * p.d)))
def wellP (h : Hal) (i : Int) (p : Pt) : Bool := if i < h.ws.length then wellW h (wlOf h.cs i.toNat) p else if i < (h.ws.length : Int) + 2 then inPlan h p.x p.y p.d else (kat h i).rc.holds p.x p.y p.d
theorem wellP_wall {h : Hal} {k : Nat} {p : Pt} (hk : k < h.ws.length) : wellP h k p = wellW h (wlOf h.cs k) p := by unfold wellP; rw [if_pos (by omega)]; rfl
theorem wellP_floor {h : Hal} {p : Pt} : wellP h h.ws.length p = inPlan h p.x p.y p.d := by unfold wellP; rw [if_neg (by omega), if_pos (by omega)]
theorem wellP_ceil {h : Hal} {p : Pt} : wellP h ((h.ws.length : Int) + 1) p = inPlan h p.x p.y p.d := by unfold wellP; rw [if_neg (by omega), if_pos (by omega)]
theorem wellP_can {h : Hal} {j : Nat} {p : Pt} (hj : j < h.ks.length) : wellP h ((h.ws.length : Int) + 2 + j) p = h.ks[j].rc.holds p.x p.y p.d := by unfold wellP; rw [if_neg (by omega), if_neg (by omega), kat_eq hj]
set_option maxRecDepth 100000 in
set_option maxHeartbeats 16000000 in
theorem c118 {h : Hal} {s : Stg} (g : Sit h s) {i : Int} (hi : SK h i) (p : Pt) : PCall Tryz.prog 171 [.agg (stgL h s), I i, p.av] ⟨Bo (wellP h i p), []⟩ := by
  have f3 := g.ok.f.2.2.1
  have f4 := g.ok.f.2.2.2.1
  have hk0 := one_ok (c87 g.ok.f s hi) (one_ok (c183 g.ok.f p.x p.y p.d) (kP_ok g))
  cases hi with
  | wall k hk =>
    have hk2 : k < h.cs.length := by have := g.fine.le; omega
    rw [wellP_wall hk]
    obtain ⟨v1, v2⟩ := canV_low (h := h) (i := k) (by omega)
    rw [v1, v2] at hk0
    have hk1 := one_ok (c145w g.ok.f hk2) hk0
    generalize wlOf h.cs k = w at *
    refine bs.pv (sx := nos) hk1 Tryz.func171 (by kernel_rfl) (by kernel_rfl) rfl ?_
    repeat' (first | refine wk0 ?_ | (refine wk2 ?_ ?_ <;> intro _) | refine wk4 ?_ | fail); all_goals (conv => whnf)
    all_goals clear hk0 hk1
    all_goals first
      | (exfalso; rename_i hx; have hx := of_decide_eq_true (show decide ((k : Int) = (h.ws.length : Int) + 1) = true from hx); omega)
      | (exfalso; rename_i hx; have hx := of_decide_eq_true (show decide ((k : Int) = (h.ws.length : Int)) = true from hx); omega)
      | (refine ret_bool ?_; simp_all [wellW]; done)
      | (refine ret_bool ?_; simp_all [wellW]; intro _; omega)
      | (exfalso; simp_all; omega)
  | floor =>
    rw [wellP_floor]
    obtain ⟨v1, v2⟩ := canV_low (h := h) (i := h.ws.length) (by omega)
    rw [v1, v2] at hk0
    refine bs.pv (sx := nos) hk0 Tryz.func171 (by kernel_rfl) (by kernel_rfl) rfl ?_
    repeat' (first | refine wk1 ?_ | (refine wk2 ?_ ?_ <;> intro _) | refine wk4 ?_ | fail); all_goals (conv => whnf)
    exact ret_bool rfl
  | ceil =>
    rw [wellP_ceil]
    obtain ⟨v1, v2⟩ := canV_low (h := h) (i := (h.ws.length : Int) + 1) (by omega)
    rw [v1, v2] at hk0
    refine bs.pv (sx := nos) hk0 Tryz.func171 (by kernel_rfl) (by kernel_rfl) rfl ?_
    repeat' (first | refine wk1 ?_ | (refine wk2 ?_ ?_ <;> intro _) | refine wk4 ?_ | fail); all_goals (conv => whnf)
    · exact ret_bool rfl
    all_goals (exfalso; simp_all; done)
  | can j hj =>
    rw [wellP_can hj]
    obtain ⟨v1, v2⟩ := canV_can hj
    rw [v1, v2] at hk0
    generalize h.ks[j] = c at *
    have hk1 := one_ok (c193 c.rc p.x p.y p.d) hk0
    refine bs.pv (sx := nos) hk1 Tryz.func171 (by kernel_rfl) (by kernel_rfl) rfl ?_
    repeat' (first | refine wk1 ?_ | (refine wk2 ?_ ?_ <;> intro _) | refine wk4 ?_ | fail); all_goals (conv => whnf)
    exact ret_bool rfl

/-! In the reference. -/
def wellC (c : Can) (p : Pt) : Bool := inBnd c p && !decide (p.x = IntKind.i64.wrap (c.fx * p.d)) && !decide (p.x = IntKind.i64.wrap (c.tx * p.d)) && !decide (p.y = IntKind.i64.wrap (c.fy * p.d)) && !decide (p.y = IntKind.i64.wrap (c.ty * p.d))
set_option maxRecDepth 100000 in
set_option maxHeartbeats 8000000 in
theorem c194 (c : Can) (p : Pt) : PCall Tryz.prog 186 [.agg c.av, p.av] ⟨Bo (wellC c p), []⟩ := by
  have hk0 := one_ok (c191 c p) pt0_ok
  refine bs.pv (sx := nos) hk0 Tryz.func186 (by kernel_rfl) (by kernel_rfl) rfl ?_
  unfold wellC
  cases hb : inBnd c p with
  | false =>
    rw [hb] at hk0
    repeat' (first | refine wk0 ?_ | (refine wk2 ?_ ?_ <;> intro _) | refine wk4 ?_ | fail); all_goals (conv => whnf)
    all_goals first
      | exact ret_bool rfl
      | exact ret_bool (by simp_all; done)
      | (exfalso; simp_all; done)
  | true =>
    rw [hb] at hk0
    repeat' (first | refine wk0 ?_ | (refine wk2 ?_ ?_ <;> intro _) | refine wk4 ?_ | fail); all_goals (conv => whnf)
    all_goals first
      | exact ret_bool (by simp_all; done)
      | (exfalso; simp_all; done)
def wellL (h : Hal) (l : Ln) (p : Pt) : Bool := within (l.along p) 1 (IntKind.i64.wrap (IntKind.i64.wrap (l.full * p.d) - 1)) && within p.z 1 (IntKind.i64.wrap (IntKind.i64.wrap (h.ht * p.d) - 1))
def wellR (h : Hal) (i : Int) (p : Pt) : Bool := if i < h.ws.length then wellL h (lnOf h.cs i.toNat) p else if i < (h.ws.length : Int) + 2 then inPlanR h p else wellC (kat h i) p
theorem wellR_wall {h : Hal} {k : Nat} {p : Pt} (hk : k < h.ws.length) : wellR h k p = wellL h (lnOf h.cs k) p := by unfold wellR; rw [if_pos (by omega)]; rfl
theorem wellR_floor {h : Hal} {p : Pt} : wellR h h.ws.length p = inPlanR h p := by unfold wellR; rw [if_neg (by omega), if_pos (by omega)]
theorem wellR_ceil {h : Hal} {p : Pt} : wellR h ((h.ws.length : Int) + 1) p = inPlanR h p := by unfold wellR; rw [if_neg (by omega), if_pos (by omega)]
theorem wellR_can {h : Hal} {j : Nat} {p : Pt} (hj : j < h.ks.length) : wellR h ((h.ws.length : Int) + 2 + j) p = wellC h.ks[j] p := by unfold wellR; rw [if_neg (by omega), if_neg (by omega), kat_eq hj]
set_option maxRecDepth 100000 in
set_option maxHeartbeats 16000000 in
theorem c121 {h : Hal} {s : Stg} (g : Sit h s) {i : Int} (hi : SK h i) (p : Pt) : PCall Tryz.prog 129 [h.av, I i, p.av] ⟨Bo (wellR h i p), []⟩ := by
  have f3 := g.ok.f.2.2.1
  have f4 := g.ok.f.2.2.2.1
  have hk0 := one_ok (c89 g.ok.f hi) (one_ok (c106 g.ok.f g.fine.le.2.2.1 (nz_of g.fine.st) p) (kR5_ok g.ok.f))
  cases hi with
  | wall k hk =>
    have hk2 : k < h.cs.length := by have := g.fine.le; omega
    have e1 := lines_hit hk2
    have hn := nz_of g.fine.st k hk2
    rw [show kindV h k = (0, (k : Int)) by unfold kindV; rw [if_pos (by omega)]] at hk0
    rw [wellR_wall hk]
    generalize lnOf h.cs k = l at *
    obtain ⟨x, y, dx, dy⟩ := l
    have ha := asr_of (res := ⟨I ((Ln.mk x y dx dy).along ⟨p.x, p.y, p.z, p.d⟩), []⟩) hn
    have hb := asr_of (res := ⟨I (Ln.mk x y dx dy).full, []⟩) hn
    refine bs.pv (sx := nos) hk0 Tryz.func129 (by kernel_rfl) (by kernel_rfl) rfl ?_
    repeat' (first | refine wk0 ?_ | (refine wk2 ?_ ?_ <;> intro _) | refine wk4 ?_ | fail); all_goals (conv => whnf)
    all_goals clear hk0
    all_goals first
      | (refine ret_bool ?_; simp_all [wellL]; done)
      | (exfalso; simp_all; done)
      | (exfalso; simp_all; omega)
  | floor =>
    rw [show kindV h h.ws.length = (1, 0) by unfold kindV; rw [if_neg (by omega), if_pos rfl]] at hk0
    rw [wellR_floor]
    refine bs.pv (sx := nos) hk0 Tryz.func129 (by kernel_rfl) (by kernel_rfl) rfl ?_
    repeat' (first | refine wk1 ?_ | (refine wk2 ?_ ?_ <;> intro _) | refine wk4 ?_ | fail); all_goals (conv => whnf)
    exact ret_bool rfl
  | ceil =>
    rw [show kindV h ((h.ws.length : Int) + 1) = (2, 0) by unfold kindV; rw [if_neg (by omega), if_neg (by omega), if_pos rfl]] at hk0
    rw [wellR_ceil]
    refine bs.pv (sx := nos) hk0 Tryz.func129 (by kernel_rfl) (by kernel_rfl) rfl ?_
    repeat' (first | refine wk1 ?_ | (refine wk2 ?_ ?_ <;> intro _) | refine wk4 ?_ | fail); all_goals (conv => whnf)
    exact ret_bool rfl
  | can j hj =>
    rw [show kindV h ((h.ws.length : Int) + 2 + j) = (3, (j : Int)) by unfold kindV; rw [if_neg (by omega), if_neg (by omega), if_neg (by omega)]; simp; omega] at hk0
    rw [wellR_can hj]
    have e1 := ca_get hj
    generalize h.ks[j] = c at *
    have hk1 := one_ok (c194 c p) hk0
    refine bs.pv (sx := nos) hk1 Tryz.func129 (by kernel_rfl) (by kernel_rfl) rfl ?_
    repeat' (first | refine wk1 ?_ | (refine wk2 ?_ ?_ <;> intro _) | refine wk4 ?_ | fail); all_goals (conv => whnf)
    exact ret_bool rfl
end Go.Proofs.YtdaliaafmcjikaaGreat
