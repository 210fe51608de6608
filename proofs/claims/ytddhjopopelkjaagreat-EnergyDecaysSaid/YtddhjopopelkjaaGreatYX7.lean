/- A part of the proof: lemmas. -/
import Derived.Test.YtddhjopopelkjaaGreatYX6
import Derived.Test.YtddhjopopelkjaaGreatLw8
set_option linter.unusedVariables false
set_option linter.unusedSimpArgs false
namespace Go.Proofs.YtddhjopopelkjaaGreat
open Go Go.Sx Go.En
/-! ### Some steps -/
theorem StH.of {rows : List (List Int)} {ls e : List Int} (h1 : (exV rows ls).2 = 0) (h2 : enE rows.length e = 0) : StH rows ls e := by
  obtain ⟨a, b⟩ := exV_zero h1
  obtain ⟨c, d⟩ := enE_zero h2
  obtain ⟨t0, t1⟩ := tot_bd d
  exact ⟨a, b, c, fun x hx => (d x hx).1, by rw [c] at t1; omega⟩
theorem StH.run {rows : List (List Int)} {ls e : List Int} (h : StH rows ls e) (k : Nat) : StH rows ls (En.run rows ls k e).1 := by
  obtain ⟨a, b, c, d⟩ := run_ok h.x k h.l h.nn
  have := h.t
  exact ⟨h.x, h.n, a, b, by omega⟩
theorem StH.all {rows : List (List Int)} {ls e : List Int} (h : StH rows ls e) (k : Nat) : 0 ≤ (En.run rows ls k e).2 ∧ (En.run rows ls k e).2 ≤ 13000000000000 := by
  obtain ⟨a, b, c, d⟩ := run_ok h.x k h.l h.nn
  have := h.t
  have := tot_nn b
  exact ⟨c, by omega⟩
theorem d113 {ns : List Int} (h0 : 0 < ns.length) (hl : ns.length < 100000) : PCall Tryz.prog 113 [.isl 1 (nl ns)] ⟨.isl 1 (nl ns), []⟩ := by
  obtain ⟨x, l, rfl⟩ := List.exists_cons_of_length_pos h0
  have h1 := oneEls_nl (x :: l)
  have h2 := nl_length (x :: l)
  refine PCall.freeze (res := ⟨.asl 0 0 (nl (x :: l)).length, [(1, nl (x :: l))]⟩) ?_ ⟨rfl, rfl, rfl⟩
  refine bs.pv (sx := nos) pt0_ok Tryz.func113 (by kernel_rfl) (by kernel_rfl) rfl ?_
  repeat' (first | refine wk3 ?_ | (refine wk2 ?_ ?_ <;> intro _) | refine wk4 ?_ | fail); all_goals (conv => whnf)
  refine ret_rows [1] rfl ?_ rfl
  show AV.asl 1 0 (0 + (nl (x :: l)).length) = AV.asl 1 0 (nl (x :: l)).length
  rw [Nat.zero_add]
/-- The error of steps. -/
def runE (rows : List (List Int)) (ls e : List Int) (s : Int) : Int := if owE rows ls e ≠ 0 then owE rows ls e else unl (within s 0 1000) 2
def runV (rows : List (List Int)) (ls e : List Int) (s : Int) : List Int × Int := if runE rows ls e s ≠ 0 then ([], 0) else En.run rows ls s.toNat e
abbrev rStep (rows : List (List Int)) (ls e : List Int) : PRes := ⟨.tup [.isl 1 (nl (En.step rows ls e).1), I (En.step rows ls e).2], []⟩
noncomputable abbrev cClone : List AV → Option PRes := famN (fun ns => 0 < ns.length ∧ ns.length < 100000) (fun ns => ⟨.isl 1 (nl ns), []⟩)
noncomputable def kX4 : PC := ins 111 (famXE ExL fun rows ls e => ⟨.tup [exA rows ls, I (owE rows ls e)], []⟩) (ins 113 cClone (ins 114 (famXE StH rStep) (ins 34 (famXE StH rStep) (ins 33 (famXE ExL fun rows ls e => ⟨I (owE rows ls e), []⟩) kX3))))
theorem kX4_ok : PCOK Tryz.prog kX4 := famA_ok (fun q h => d111 h) (famA_ok (fun ns h => d113 h.1 h.2) (famA_ok (fun q h => d114 h) (famA_ok (fun q h => d34 h) (famA_ok (fun q h => d33 h) kX3_ok))))
theorem owE_of {rows : List (List Int)} {ls e : List Int} (h : owE rows ls e = 0) : StH rows ls e := by
  unfold owE at h
  by_cases z : (exV rows ls).2 = 0
  · rw [if_neg (fun c => c z)] at h
    exact StH.of z h
  · rw [if_pos z] at h; exact absurd h z
set_option maxRecDepth 100000 in
set_option maxHeartbeats 8000000 in
theorem d31 {rows : List (List Int)} {ls e : List Int} {s : Int} (h : ExL rows ls e) : PCall Tryz.prog 31 [exA rows ls, .isl 1 (nl e), I s] ⟨.tup [.isl 1 (nl (runV rows ls e s).1), I (runV rows ls e s).2, I (runE rows ls e s)], []⟩ := by
  have g1 := famXE_hit (fun rows ls e => ⟨.tup [exA rows ls, I (owE rows ls e)], []⟩) h
  by_cases z : owE rows ls e = 0
  rotate_left
  · have e0 : runE rows ls e s = owE rows ls e := by unfold runE; rw [if_pos z]
    unfold runV
    rw [e0, if_pos z]
    refine PCall.freeze (res := ⟨.tup [.nils, I 0, I (owE rows ls e)], []⟩) ?_ ⟨rfl, ⟨rfl, rfl⟩, ⟨rfl, rfl⟩, trivial⟩
    refine bs.pv (sx := nos) kX4_ok Tryz.func31 (by kernel_rfl) (by kernel_rfl) rfl ?_
    repeat' (first | refine wk3 ?_ | (refine wk2 ?_ ?_ <;> intro _) | refine wk4 ?_ | fail); all_goals (conv => whnf)
    exact ret_of rfl rfl
  have e0 : runE rows ls e s = unl (within s 0 1000) 2 := by unfold runE; rw [if_neg (fun c => c z)]
  unfold runV
  rw [e0]
  rw [z] at g1
  by_cases y : within s 0 1000 = true
  rotate_left
  · have y : within s 0 1000 = false := by simpa using y
    have y2 : unl (within s 0 1000) 2 = 2 := by rw [y]; rfl
    rw [if_pos (by omega)]
    refine PCall.freeze (res := ⟨.tup [.nils, I 0, I (unl (within s 0 1000) 2)], []⟩) ?_ ⟨rfl, ⟨rfl, rfl⟩, ⟨rfl, rfl⟩, trivial⟩
    refine bs.pv (sx := nos) kX4_ok Tryz.func31 (by kernel_rfl) (by kernel_rfl) rfl ?_
    repeat' (first | refine wk3 ?_ | (refine wk2 ?_ ?_ <;> intro _) | refine wk4 ?_ | fail); all_goals (conv => whnf)
    exact ret_of rfl rfl
  have y2 : unl (within s 0 1000) 2 = 0 := by rw [y]; rfl
  have y3 := within_iff.1 y
  have hst := owE_of z
  rw [if_neg (by omega), y2]
  have l1 := nl_length e
  have g2 := famN_hit (p := fun ns => 0 < ns.length ∧ ns.length < 100000) (fun ns => ⟨.isl 1 (nl ns), []⟩) (ns := e) ⟨by have := hst.x.pos; have := hst.l; omega, h.2⟩
  refine bs.pv (sx := nos) kX4_ok Tryz.func31 (by kernel_rfl) (by kernel_rfl) rfl ?_
  repeat' (first | refine wk3 ?_ | (refine wk2 ?_ ?_ <;> intro _) | refine wk4 ?_ | fail); all_goals (conv => whnf)
  refine loopV (S := Nat × Int × List Int × Int) (fun t => s.toNat - t.1) (fun t => [(1, .isl 1 (nl t.2.2.1)), (9, .ptr 1 0 0), (11, I t.2.2.2), (29, I s), (30, I t.2.1)]) (fun _ => [(1, .row 2 [[.isl 1 (rows.map rv), .isl 1 (nl ls)]] true false), (0, .row 2 [[.isl 1 (rows.map rv), .isl 1 (nl ls)]] true false)]) 2 2 (fun t => t.2.1 = t.1 ∧ t.1 ≤ s.toNat ∧ En.run rows ls t.1 e = t.2.2) (0, 0, e, 0) ⟨rfl, Nat.zero_le _, rfl⟩ (Nat.le_refl _) [] rfl (kps) (kps) ?_
  rintro ⟨k, i, cur, all⟩ ⟨hi, hk, hh⟩
  dsimp only at hi hk hh ⊢
  subst hi
  refine bs.av (sx := nos) kX4_ok ?_
  by_cases hlt : k < s.toNat
  · have hc := hst.run k
    have hb := (hst.all k).1
    have hb2 := (hst.all (k + 1)).2
    have hr := run_succ (rows := rows) (ls := ls) k e
    rw [hr] at hb2
    rw [hh] at hr hc hb hb2
    have hp := famXE_hit (p := StH) rStep hc
    have hn := (step_nn hc.x hc.l hc.nn).1
    dsimp only at hr hc hb hb2 hp hn
    have w : IntKind.i64.wrap (all + (En.step rows ls cur).2) = all + (En.step rows ls cur).2 := W_eq (by omega) (by omega)
    rw [← w] at hr
    repeat' (first | refine wk3 ?_ | (refine wk2 ?_ ?_ <;> intro _) | refine wk4 ?_ | fail); all_goals (conv => whnf)
    exact Done.mk ⟨(k + 1, IntKind.i64.wrap ((k : Int) + 1), (En.step rows ls cur).1, IntKind.i64.wrap (all + (En.step rows ls cur).2)), [], rfl, kps, kps, ⟨W_succ (by omega), hlt, hr⟩, by dsimp only; omega⟩
  · have e1 : k = s.toNat := by omega
    subst e1
    repeat' (first | refine wk3 ?_ | (refine wk2 ?_ ?_ <;> intro _) | refine wk4 ?_ | fail); all_goals (conv => whnf)
    exact ret_of (by rw [hh]) rfl
/-- One step. -/
abbrev rSt1 (rows : List (List Int)) (ls e : List Int) : PRes := ⟨.tup [.isl 1 (nl (runV rows ls e 1).1), I (runV rows ls e 1).2, I (runE rows ls e 1)], []⟩
abbrev rRun (rows : List (List Int)) (ls e : List Int) (s : Int) : PRes := ⟨.tup [.isl 1 (nl (runV rows ls e s).1), I (runV rows ls e s).2, I (runE rows ls e s)], []⟩
theorem d29 {rows : List (List Int)} {ls e : List Int} (h : ExL rows ls e) : PCall Tryz.prog 29 [exA rows ls, .isl 1 (nl e)] (rSt1 rows ls e) := by
  have hk := one_ok (d31 (s := 1) h) kX4_ok
  refine bs.pv (sx := nos) hk Tryz.func29 (by kernel_rfl) (by kernel_rfl) rfl ?_
  repeat' (first | refine wk3 ?_ | (refine wk2 ?_ ?_ <;> intro _) | refine wk4 ?_ | fail); all_goals (conv => whnf)
  exact ret_of rfl rfl
abbrev RunOk (rows : List (List Int)) (ls e : List Int) (s : Int) : Prop := StH rows ls e ∧ 0 ≤ s ∧ s ≤ 1000
abbrev rRunR (rows : List (List Int)) (ls e : List Int) (s : Int) : PRes := ⟨.tup [.isl 1 (nl (En.run rows ls s.toNat e).1), I (En.run rows ls s.toNat e).2], []⟩
set_option maxRecDepth 100000 in
set_option maxHeartbeats 8000000 in
theorem d37 {rows : List (List Int)} {ls e : List Int} {s : Int} (h : RunOk rows ls e s) : PCall Tryz.prog 37 [exA rows ls, .isl 1 (nl e), I s] (rRunR rows ls e s) := by
  obtain ⟨hst, y3⟩ := h
  have g2 := cints_hit (ns := e) (by have := hst.l; have := hst.n; omega)
  have l1 := nl_length e
  refine bs.pv (sx := nos) kX4_ok Tryz.func37 (by kernel_rfl) (by kernel_rfl) rfl ?_
  repeat' (first | refine wk3 ?_ | (refine wk2 ?_ ?_ <;> intro _) | refine wk4 ?_ | fail); all_goals (conv => whnf)
  refine loopV (S := Nat × Int × List Int × Int) (fun t => s.toNat - t.1) (fun t => [(2, I s), (3, .ptr 0 0 0), (8, .isl 1 (nl t.2.2.1)), (9, I t.2.2.2), (10, I t.2.1)]) (fun _ => [(0, .row 2 [[.isl 1 (rows.map rv), .isl 1 (nl ls)]] true false)]) 1 1 (fun t => t.2.1 = t.1 ∧ t.1 ≤ s.toNat ∧ En.run rows ls t.1 e = t.2.2) (0, 0, e, 0) ⟨rfl, Nat.zero_le _, rfl⟩ (Nat.le_refl _) [] rfl (kps) (kps) ?_
  rintro ⟨k, i, cur, all⟩ ⟨hi, hk, hh⟩
  dsimp only at hi hk hh ⊢
  subst hi
  refine bs.av (sx := nos) kX4_ok ?_
  by_cases hlt : k < s.toNat
  · have hc := hst.run k
    have hb := (hst.all k).1
    have hb2 := (hst.all (k + 1)).2
    have hr := run_succ (rows := rows) (ls := ls) k e
    rw [hr] at hb2
    rw [hh] at hr hc hb hb2
    have hp := famXE_hit (p := StH) rStep hc
    have hn := (step_nn hc.x hc.l hc.nn).1
    dsimp only at hr hc hb hb2 hp hn
    have w : IntKind.i64.wrap (all + (En.step rows ls cur).2) = all + (En.step rows ls cur).2 := W_eq (by omega) (by omega)
    rw [← w] at hr
    repeat' (first | refine wk3 ?_ | (refine wk2 ?_ ?_ <;> intro _) | refine wk4 ?_ | fail); all_goals (conv => whnf)
    exact Done.mk ⟨(k + 1, IntKind.i64.wrap ((k : Int) + 1), (En.step rows ls cur).1, IntKind.i64.wrap (all + (En.step rows ls cur).2)), [], rfl, kps, kps, ⟨W_succ (by omega), hlt, hr⟩, by dsimp only; omega⟩
  · have e1 : k = s.toNat := by omega
    subst e1
    repeat' (first | refine wk3 ?_ | (refine wk2 ?_ ?_ <;> intro _) | refine wk4 ?_ | fail); all_goals (conv => whnf)
    exact ret_of (by rw [hh]) rfl
def rAwk : List AV → Option PRes
  | [] => some ⟨Bo true, []⟩
  | _ => none
noncomputable abbrev cPat : List AV → Option PRes := famXE (fun _ _ _ => True) fun rows ls e => ⟨Bo (patB rows ls e), []⟩
abbrev EnL (rows : List (List Int)) (_ls e : List Int) : Prop := rows.length < 100000 ∧ e.length < 1000000
noncomputable abbrev cEnE : List AV → Option PRes := famXE EnL fun rows _ e => ⟨I (enE rows.length e), []⟩
noncomputable abbrev cArE : List AV → Option PRes := famXE EnL fun rows _ e => ⟨I (arE rows.length e), []⟩
noncomputable def kX5 : PC := ins 16 rAwk (ins 26 cPat (ins 29 (famXE ExL rSt1) (ins 31 (famXEI (fun rows ls e _ => ExL rows ls e) rRun) (ins 37 (famXEI RunOk rRunR) (ins 40 cEnE (ins 42 cArE (ins 35 intsT kX4)))))))
theorem kX5_ok : PCOK Tryz.prog kX5 := by
  refine ins_ok (fun a res h => ?_) (famA_ok (fun q _ => d26 _ _ _) (famA_ok (fun q h => d29 h) (famA_ok (fun q h => d31 h) (famA_ok (fun q h => d37 h) (famA_ok (fun q h => d40 h.1 h.2) (famA_ok (fun q h => d42 h.1 h.2) (intsT_ok kX4_ok)))))))
  unfold rAwk at h; split at h <;> cases h; exact awake_ok
/-- With the copies as trees. -/
noncomputable def kX6 : PC := ins 28 (famX ExS fun rows ls => ⟨exA rows ls, []⟩) kX5
theorem kX6_ok : PCOK Tryz.prog kX6 := famA_ok (fun q h => d28f h) kX5_ok
theorem eqN_self (a : List Int) : eqN a a = true := eqN_iff.2 rfl
theorem run_one (rows : List (List Int)) (ls e : List Int) : En.run rows ls 1 e = En.step rows ls e := by
  show (_, _) = _
  simp [En.run]
end Go.Proofs.YtddhjopopelkjaaGreat
