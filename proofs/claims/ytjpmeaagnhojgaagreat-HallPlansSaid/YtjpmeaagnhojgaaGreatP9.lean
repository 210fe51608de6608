/- A part of the proof: lemmas. -/
import Derived.Test.YtjpmeaagnhojgaaGreatP8
import Derived.Test.YtjpmeaagnhojgaaGreatLw10
import Derived.Test.YtjpmeaagnhojgaaGreatSxNil
import Derived.Test.YtjpmeaagnhojgaaGreatSxFn3
set_option linter.unusedVariables false
set_option linter.unusedSimpArgs false
namespace Go.Proofs.YtjpmeaagnhojgaaGreat
open Go Go.Sx

/-! ### HallPlans -/
/-- The area of a hall's plan, twice; nought for a wrong hall. -/
def areaP (h : Hal) : Int := if h.err = 0 then twArea h else 0
set_option maxHeartbeats 4000000 in
theorem c43 {h : Hal} (hk : h.ok) : PCall Tryz.prog 43 [h.av] ⟨.tup [I (areaP h), I h.err], []⟩ := by
  have h0 : PCOK Tryz.prog (ins 76 (one [h.av] ⟨.tup [h.av, I h.err], []⟩) (ins 122 (one [h.av] ⟨I (twArea h), []⟩) pt0)) := one_ok (c76 hk) (one_ok (c122 hk.f) pt0_ok)
  unfold areaP
  by_cases he : h.err = 0
  · rw [if_pos he]
    rw [he] at h0 ⊢
    refine bs.pv (sx := nos) h0 Tryz.func43 (by kernel_rfl) (by kernel_rfl) rfl ?_
    repeat' (first | refine wk3 ?_ | (refine wk2 ?_ ?_ <;> intro _) | refine wk4 ?_ | fail); all_goals (conv => whnf)
    exact ret_of rfl rfl
  · rw [if_neg he]
    refine bs.pv (sx := nos) h0 Tryz.func43 (by kernel_rfl) (by kernel_rfl) rfl ?_
    repeat' (first | refine wk3 ?_ | (refine wk2 ?_ ?_ <;> intro _) | refine wk4 ?_ | fail); all_goals (conv => whnf)
    exact ret_of rfl rfl
set_option maxHeartbeats 4000000 in
theorem c44 {h : Hal} (hk : h.ok) : PCall Tryz.prog 44 [h.av] ⟨.tup [I (IntKind.i64.wrap (areaP h * h.ht)), I h.err], []⟩ := by
  have h0 : PCOK Tryz.prog (ins 43 (one [h.av] ⟨.tup [I (areaP h), I h.err], []⟩) pt0) := one_ok (c43 hk) pt0_ok
  refine bs.pv (sx := nos) h0 Tryz.func44 (by kernel_rfl) (by kernel_rfl) rfl ?_
  repeat' (first | refine wk3 ?_ | (refine wk2 ?_ ?_ <;> intro _) | refine wk4 ?_ | fail); all_goals (conv => whnf)
  exact ret_of rfl rfl

noncomputable def both (a0 a1 : List AV) (r : PRes) (a : List AV) : Option PRes := by
  classical exact if a = a0 ∨ a = a1 then some r else none
theorem both_l (a0 a1 : List AV) (r : PRes) : both a0 a1 r a0 = some r := by unfold both; simp
theorem both_r (a0 a1 : List AV) (r : PRes) : both a0 a1 r a1 = some r := by unfold both; simp
theorem both_ok {f0 : FuncId} {a0 a1 : List AV} {r : PRes} {pt : PC} (h0 : PCall Tryz.prog f0 a0 r) (h1 : PCall Tryz.prog f0 a1 r) (h : PCOK Tryz.prog pt) : PCOK Tryz.prog (ins f0 (both a0 a1 r) pt) := by
  refine ins_ok (fun a res hr => ?_) h
  unfold both at hr
  split at hr
  · rename_i e
    cases hr
    rcases e with rfl | rfl
    · exact h0
    · exact h1
  · cases hr
/-- The rows of a copy, as they are seen. -/
abbrev seen (els : List (List AV)) : List (List AV) := (els.drop 0).take els.length
theorem seen_eq (els : List (List AV)) : seen els = els := by simp [seen]
/-- The hall turned by one corner, as it lies. -/
abbrev turnRaw (h : Hal) (c : Int × Int) (l : List (Int × Int)) (w : Wal) (lw : List Wal) (ks : AV) : AV := .agg [.str h.nm, I h.ht, .str h.fl, .str h.ce, .isl 6 (seen (h.ms.map Mat.av)),
  .isl 2 (((l.map pt ++ [pt c]).drop 0).take ((l.map pt).length + 1)), .isl 3 (((lw.map Wal.av ++ [w.av]).drop 0).take ((lw.map Wal.av).length + 1)), ks, .isl 4 (seen (h.ss.map Sea.av))]
theorem turnRaw_eq {h : Hal} {c l w lw} (hc : h.cs = c :: l) (hw : h.ws = w :: lw) (ks : AV) : turnRaw h c l w lw ks = .agg [.str h.nm, I h.ht, .str h.fl, .str h.ce, .isl 6 (h.ms.map Mat.av), .isl 2 (h.turn.cs.map pt), .isl 3 (h.turn.ws.map Wal.av), ks, .isl 4 (h.ss.map Sea.av)] := by
  have e1 : h.turn.cs = l ++ [c] := by unfold Hal.turn; rw [hc]; rfl
  have e2 : h.turn.ws = lw ++ [w] := by unfold Hal.turn; rw [hw]; rfl
  rw [e1, e2]
  unfold turnRaw
  rw [seen_eq, seen_eq, List.drop_zero, List.drop_zero, List.map_append, List.map_append, List.take_of_length_le (by simp), List.take_of_length_le (by simp)]
  rfl
set_option maxRecDepth 100000 in
set_option maxHeartbeats 16000000 in
theorem c8 (h : Hal) : PCall Tryz.prog 8 [h.av] ⟨Bo true, []⟩ := by
  by_cases hb : fewB h = true
  · have hk := few_ok hb
    have h0 := one_ok (c44 hk) (one_ok (c45 hk) (one_ok (c46 hk.f) (kL_ok hk)))
    by_cases he : h.err = 0
    · have g := fine_of hk he
      obtain ⟨l1, l2, l3, l4, l5, l6⟩ := g.le
      have ha : areaP h = twArea h := by unfold areaP; rw [if_pos he]
      have hA := twArea_eq h
      rw [ha, he, ← hA] at h0
      have k1 := c43 hk
      rw [ha, he] at k1
      have k2 := c43 (turn_ok hk)
      have ha2 : areaP h.turn = twArea h := by
        unfold areaP
        rw [if_pos (turn_err hk he), twArea_eq, twArea_eq]
        exact area_rot (by intro e; rw [e] at l2; simp at l2)
      rw [ha2, turn_err hk he] at k2
      generalize twArea h = A at *
      obtain ⟨c, l, hcs⟩ : ∃ c l, h.cs = c :: l := by
        cases hq : h.cs with
        | nil => rw [hq] at l2; simp at l2
        | cons c l => exact ⟨c, l, rfl⟩
      obtain ⟨w, lw, hws⟩ : ∃ w lw, h.ws = w :: lw := by
        cases hq : h.ws with
        | nil => rw [hq, hcs] at l3; simp at l3
        | cons c l => exact ⟨c, l, rfl⟩
      have hcp := c22 hk.f
      unfold cpyV cpyB at hcp
      rw [hcs, hws] at hcp
      have hm1 : (List.map pt (c :: l)).length = l.length + 1 := by simp
      have hm2 : (List.map Wal.av (w :: lw)).length = lw.length + 1 := by simp
      have t7 : 0 < l.length := by rw [hcs] at l2; simp at l2; omega
      have t8 : 0 < lw.length := by rw [hcs, hws] at l3; simp at l3; omega
      have t5 : l.length < 2000 := by have := hk.f.2.1; rw [hcs] at this; simp at this; omega
      have t6 : lw.length < 2000 := by have := hk.f.2.2.1; rw [hws] at this; simp at this; omega
      cases hks : h.ks with
      | nil =>
        rw [hks] at hcp
        have k3 : PCall Tryz.prog 43 [turnRaw h c l w lw .nils] ⟨.tup [I A, I 0], []⟩ := by
          rw [turnRaw_eq hcs hws]
          refine k2.nilArgs ⟨.inr ⟨_, _, rfl, rfl, .inl rfl, .inl rfl, .inl rfl, .inl rfl, .inl rfl, .inl rfl, .inl rfl, .inr ⟨rfl, 7, ?_⟩, .inl rfl, trivial⟩, trivial⟩
          show AV.isl 7 (h.ks.map Can.av) = _
          rw [hks]; rfl
        have h1 := both_ok k1 k3 h0
        have e1 := both_l [h.av] [turnRaw h c l w lw .nils] ⟨.tup [I A, I 0], []⟩
        have e2 := both_r [h.av] [turnRaw h c l w lw .nils] ⟨.tup [I A, I 0], []⟩
        refine bs.pv (sx := fun n => Nat.beq n 22) h1 Tryz.func8 (by kernel_rfl) (by kernel_rfl) rfl ?_
        clear hb g
        repeat' (first | refine wk3 ?_ | (refine wk2 ?_ ?_ <;> intro _) | refine wk4 ?_ | fail); all_goals (conv => whnf)
        · exact ret_bool rfl
        refine SCt.pc (c22f hk.f) rfl ?_
        repeat' (first | refine wk3 ?_ | (refine wk2 ?_ ?_ <;> intro _) | refine wk4 ?_ | fail); all_goals (conv => whnf)
        refine SCt.pc (c22f hk.f) rfl ?_
        repeat' (first | refine wk3 ?_ | (refine wk2 ?_ ?_ <;> intro _) | refine wk4 ?_ | fail); all_goals (conv => whnf)
        refine SCt.pc hcp rfl ?_
        conv => whnf
        refine aop_slice rfl rfl rfl rfl rfl rfl ?_ ?_
        · show 1 < _; omega
        repeat' (first | refine wk3 ?_ | (refine wk2 ?_ ?_ <;> intro _) | refine wk4 ?_ | fail); all_goals (conv => whnf)
        refine aop_appD (xs := l.map pt) (ys := [pt c]) rfl rfl rfl rfl rfl rfl rfl rfl rfl rfl (by simp) rfl ?_ ?_ ?_ ?_
        · rw [hm1]; omega
        · show _ - 1 = _; rw [hm1]; simp
        · simp only [List.length_map, List.length_cons, List.length_nil]; omega
        repeat' (first | refine wk3 ?_ | (refine wk2 ?_ ?_ <;> intro _) | refine wk4 ?_ | fail); all_goals (conv => whnf)
        refine aop_slice rfl rfl rfl rfl rfl rfl ?_ ?_
        · show 1 < _; omega
        repeat' (first | refine wk3 ?_ | (refine wk2 ?_ ?_ <;> intro _) | refine wk4 ?_ | fail); all_goals (conv => whnf)
        refine aop_appD (xs := lw.map Wal.av) (ys := [w.av]) rfl rfl rfl rfl rfl rfl rfl rfl rfl rfl (by simp) rfl ?_ ?_ ?_ ?_
        · rw [hm2]; omega
        · show _ - 1 = _; rw [hm2]; simp
        · simp only [List.length_map, List.length_cons, List.length_nil]; omega
        repeat' (first | refine wk3 ?_ | (refine wk2 ?_ ?_ <;> intro _) | refine wk4 ?_ | fail); all_goals (conv => whnf)
        exact ret_bool (by simp)
      | cons k lk =>
        rw [hks] at hcp
        have k3 : PCall Tryz.prog 43 [turnRaw h c l w lw (.isl 7 (seen (canL (k :: lk))))] ⟨.tup [I A, I 0], []⟩ := by
          rw [turnRaw_eq hcs hws, seen_eq, ← hks]
          exact k2
        have h1 := both_ok k1 k3 h0
        have e1 := both_l [h.av] [turnRaw h c l w lw (.isl 7 (seen (canL (k :: lk))))] ⟨.tup [I A, I 0], []⟩
        have e2 := both_r [h.av] [turnRaw h c l w lw (.isl 7 (seen (canL (k :: lk))))] ⟨.tup [I A, I 0], []⟩
        refine bs.pv (sx := fun n => Nat.beq n 22) h1 Tryz.func8 (by kernel_rfl) (by kernel_rfl) rfl ?_
        clear hb g
        repeat' (first | refine wk3 ?_ | (refine wk2 ?_ ?_ <;> intro _) | refine wk4 ?_ | fail); all_goals (conv => whnf)
        · exact ret_bool rfl
        refine SCt.pc (c22f hk.f) rfl ?_
        repeat' (first | refine wk3 ?_ | (refine wk2 ?_ ?_ <;> intro _) | refine wk4 ?_ | fail); all_goals (conv => whnf)
        refine SCt.pc (c22f hk.f) rfl ?_
        repeat' (first | refine wk3 ?_ | (refine wk2 ?_ ?_ <;> intro _) | refine wk4 ?_ | fail); all_goals (conv => whnf)
        refine SCt.pc hcp rfl ?_
        conv => whnf
        refine aop_slice rfl rfl rfl rfl rfl rfl ?_ ?_
        · show 1 < _; omega
        repeat' (first | refine wk3 ?_ | (refine wk2 ?_ ?_ <;> intro _) | refine wk4 ?_ | fail); all_goals (conv => whnf)
        refine aop_appD (xs := l.map pt) (ys := [pt c]) rfl rfl rfl rfl rfl rfl rfl rfl rfl rfl (by simp) rfl ?_ ?_ ?_ ?_
        · rw [hm1]; omega
        · show _ - 1 = _; rw [hm1]; simp
        · simp only [List.length_map, List.length_cons, List.length_nil]; omega
        repeat' (first | refine wk3 ?_ | (refine wk2 ?_ ?_ <;> intro _) | refine wk4 ?_ | fail); all_goals (conv => whnf)
        refine aop_slice rfl rfl rfl rfl rfl rfl ?_ ?_
        · show 1 < _; omega
        repeat' (first | refine wk3 ?_ | (refine wk2 ?_ ?_ <;> intro _) | refine wk4 ?_ | fail); all_goals (conv => whnf)
        refine aop_appD (xs := lw.map Wal.av) (ys := [w.av]) rfl rfl rfl rfl rfl rfl rfl rfl rfl rfl (by simp) rfl ?_ ?_ ?_ ?_
        · rw [hm2]; omega
        · show _ - 1 = _; rw [hm2]; simp
        · simp only [List.length_map, List.length_cons, List.length_nil]; omega
        repeat' (first | refine wk3 ?_ | (refine wk2 ?_ ?_ <;> intro _) | refine wk4 ?_ | fail); all_goals (conv => whnf)
        exact ret_bool (by simp)
    · have ha : areaP h = 0 := by unfold areaP; rw [if_neg he]
      have h1 := one_ok (c43 hk) h0
      rw [ha, Int.zero_mul] at h1
      clear h0
      refine bs.pv (sx := nos) h1 Tryz.func8 (by kernel_rfl) (by kernel_rfl) rfl ?_
      repeat' (first | refine wk3 ?_ | (refine wk2 ?_ ?_ <;> intro _) | refine wk4 ?_ | fail); all_goals (conv => whnf)
      clear h1
      all_goals first
        | exact ret_bool rfl
        | (exfalso; simp_all; done)
        | exact ret_bool (by simp_all; done)
  · refine bs.pv (sx := nos) (kN_ok h) Tryz.func8 (by kernel_rfl) (by kernel_rfl) rfl ?_
    repeat' (first | refine wk1 ?_ | (refine wk2 ?_ ?_ <;> intro _) | refine wk4 ?_ | fail); all_goals (conv => whnf)
    all_goals first
      | exact ret_bool rfl
      | (exfalso; simp_all; done)
end Go.Proofs.YtjpmeaagnhojgaaGreat
