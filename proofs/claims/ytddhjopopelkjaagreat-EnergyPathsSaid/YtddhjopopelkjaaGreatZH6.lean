/- A part of the proof: lemmas. -/
import Derived.Test.YtddhjopopelkjaaGreatZH5
set_option linter.unusedVariables false
set_option linter.unusedSimpArgs false
namespace Go.Proofs.YtddhjopopelkjaaGreat
open Go Go.Sx
/-! ### Hits -/
/-- A table with two entries. -/
noncomputable def two (a1 : List AV) (r1 : PRes) (a2 : List AV) (r2 : PRes) (a : List AV) : Option PRes := by
  classical exact if a = a1 then some r1 else if a = a2 then some r2 else none
theorem two_1 (a1 : List AV) (r1 : PRes) (a2 : List AV) (r2 : PRes) : two a1 r1 a2 r2 a1 = some r1 := by unfold two; simp
theorem two_2 {a1 a2 : List AV} (h : a2 ≠ a1) (r1 r2 : PRes) : two a1 r1 a2 r2 a2 = some r2 := by unfold two; simp [h]
theorem two_ok {f0 : FuncId} {a1 a2 : List AV} {r1 r2 : PRes} {pt : PC} (h1 : PCall Tryz.prog f0 a1 r1) (h2 : PCall Tryz.prog f0 a2 r2) (h : PCOK Tryz.prog pt) : PCOK Tryz.prog (ins f0 (two a1 r1 a2 r2) pt) := by
  refine ins_ok (fun a res hr => ?_) h
  unfold two at hr
  split at hr
  · rename_i e; subst e; cases hr; exact h1
  · split at hr
    · rename_i e; subst e; cases hr; exact h2
    · cases hr
theorem d68e {h : Hal} (hk : h.ok) {s : Stg} (hs : s.few) {b a v : Int} (e : abE h s b a v ≠ 0) : PCall Tryz.prog 68 [h.av, s.av, P3 b a v] ⟨.tup [P2 0 0, I (abE h s b a v)], []⟩ := by
  have h0 := one_ok (d143 hk hs b a v) pt0_ok
  generalize abE h s b a v = E at *
  generalize abV h s b a v = A at *
  refine bs.pv (sx := nos) h0 Tryz.func68 (by kernel_rfl) (by kernel_rfl) rfl ?_
  repeat' (first | refine wk3 ?_ | (refine wk2 ?_ ?_ <;> intro _) | refine wk4 ?_ | fail); all_goals (conv => whnf)
  exact ret_of rfl rfl
theorem imaxH_eq (x : Int) : imax 0 x = max 0 x := by
  unfold imax
  by_cases c : 0 < x
  · rw [decide_eq_true c]; dsimp only [cond_true]; omega
  · rw [decide_eq_false c]; dsimp only [cond_false]; omega
/-- The shares that are left, as the program reckons them. -/
theorem lo_raw {S A : Int × Int} (r : En.Rv S A) : IntKind.i64.wrap ((IntKind.i64.wrap (1000000 * imax 0 (IntKind.i64.wrap (S.1 - A.2)))).tdiv S.1) = En.loSh S A := by
  obtain ⟨s1, s2, s3, a1, a2, a3, a4⟩ := r
  unfold En.loSh
  rw [W_eq (n := S.1 - A.2) (by omega) (by omega), imaxH_eq, W_eq (n := 1000000 * _) (by omega) (by omega), dv_eq (by omega) (by omega) s1]
theorem hi_raw {S A : Int × Int} (r : En.Rv S A) : abvU (IntKind.i64.wrap (1000000 * IntKind.i64.wrap (S.2 - A.1))) S.2 = En.hiSh S A := by
  obtain ⟨s1, s2, s3, a1, a2, a3, a4⟩ := r
  unfold En.hiSh
  rw [W_eq (n := S.2 - A.1) (by omega) (by omega), W_eq (n := 1000000 * _) (by omega) (by omega), abvU_eq (by omega) (by omega) (by omega) (by omega)]
set_option maxHeartbeats 4000000 in
theorem d68 {h : Hal} {s : Stg} {b a v : Int} (r : Rg h s b a v) : PCall Tryz.prog 68 [h.av, s.av, P3 b a v] ⟨.tup [P2 (hitX h s b).1.1 (hitX h s b).1.2, I (hitX h s b).2], []⟩ := by
  have g := r.g
  have h143 := d143 g.ok g.sf b a v
  obtain ⟨e1, e2⟩ := ab_of r
  rw [e1, e2] at h143
  have h137 := d137 g r.z
  have rv := rv_of g b
  have hl := En.loSh_bd rv
  have hh := En.hiSh_bd rv
  have hlo := fun k => En.hits_lo (k := k) rv
  have el := lo_raw rv
  have eh := hi_raw rv
  obtain ⟨s1, s2, s3, a1, a2, a3, a4⟩ := rv
  have pos := r.pos
  have hF := d144F (En.loSh (srV h) (absV h s b))
  have hC := d144C (En.hiSh (srV h) (absV h s b))
  rw [hitsF_eq hl.1 hl.2, ← el] at hF
  rw [hitsC_eq hh.1 hh.2, ← eh] at hC
  unfold hitX En.hitsV
  rw [el] at hF
  rw [eh] at hC
  generalize srV h = S at *
  generalize absV h s b = A at *
  generalize hf : En.hitsF (En.loSh S A) = F at *
  generalize hc : En.hitsC (En.hiSh S A) = C at *
  rw [← el] at hF
  rw [← eh] at hC
  have ha : rAbU [I (IntKind.i64.wrap (1000000 * IntKind.i64.wrap (S.2 - A.1))), I S.2] = some ⟨I (abvU (IntKind.i64.wrap (1000000 * IntKind.i64.wrap (S.2 - A.1))) S.2), []⟩ := asr_of (by omega)
  have hk0 := one_ok h143 (one_ok h137 (two_ok hF hC rAb_ok))
  clear hl hh el eh hf hc h143 h137
  have t1 := two_1 [I (IntKind.i64.wrap ((IntKind.i64.wrap (1000000 * imax 0 (IntKind.i64.wrap (S.1 - A.2)))).tdiv S.1)), .func 145 [] []] ⟨.tup [I (htV F).1, I (htV F).2], []⟩ [I (abvU (IntKind.i64.wrap (1000000 * IntKind.i64.wrap (S.2 - A.1))) S.2), .func 135 [] []] ⟨.tup [I (htV C).1, I (htV C).2], []⟩
  have t2 := two_2 (a1 := [I (IntKind.i64.wrap ((IntKind.i64.wrap (1000000 * imax 0 (IntKind.i64.wrap (S.1 - A.2)))).tdiv S.1)), .func 145 [] []]) (a2 := [I (abvU (IntKind.i64.wrap (1000000 * IntKind.i64.wrap (S.2 - A.1))) S.2), .func 135 [] []]) (by simp) ⟨.tup [I (htV F).1, I (htV F).2], []⟩ ⟨.tup [I (htV C).1, I (htV C).2], []⟩
  cases F with
  | none =>
    cases C with
    | none =>
      refine bs.pv (sx := nos) hk0 Tryz.func68 (by kernel_rfl) (by kernel_rfl) rfl ?_
      repeat' (first | refine wk3 ?_ | (refine wk2 ?_ ?_ <;> intro _) | refine wk4 ?_ | fail); all_goals (conv => whnf)
      all_goals exact ret_of rfl rfl
    | some k => obtain ⟨j, c, _⟩ := hlo k rfl; cases c
  | some j =>
    cases C with
    | none =>
      refine bs.pv (sx := nos) hk0 Tryz.func68 (by kernel_rfl) (by kernel_rfl) rfl ?_
      repeat' (first | refine wk3 ?_ | (refine wk2 ?_ ?_ <;> intro _) | refine wk4 ?_ | fail); all_goals (conv => whnf)
      all_goals exact ret_of rfl rfl
    | some k =>
      refine bs.pv (sx := nos) hk0 Tryz.func68 (by kernel_rfl) (by kernel_rfl) rfl ?_
      repeat' (first | refine wk3 ?_ | (refine wk2 ?_ ?_ <;> intro _) | refine wk4 ?_ | fail); all_goals (conv => whnf)
      all_goals exact ret_of rfl rfl
end Go.Proofs.YtddhjopopelkjaaGreat
