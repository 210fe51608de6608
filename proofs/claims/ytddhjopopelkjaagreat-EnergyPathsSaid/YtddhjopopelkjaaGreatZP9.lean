/- A part of the proof: lemmas. -/
import Derived.Test.YtddhjopopelkjaaGreatZP8
import Derived.Test.YtddhjopopelkjaaGreatZw11
import Derived.Test.YtddhjopopelkjaaGreatSxNil
import Derived.Test.YtddhjopopelkjaaGreatSxFn3
set_option linter.unusedVariables false
set_option linter.unusedSimpArgs false
namespace Go.Proofs.YtddhjopopelkjaaGreat
open Go Go.Sx

/-! ### HallPlans -/
/-- The area of a hall's plan, twice; nought for a wrong hall. -/
def areaP (h : Hal) : Int := if h.err = 0 then twArea h else 0
set_option maxHeartbeats 4000000 in
theorem c43 {h : Hal} (hk : h.ok) : PCall Tryz.prog 117 [h.av] ⟨.tup [I (areaP h), I h.err], []⟩ := by
  have h0 : PCOK Tryz.prog (ins 160 (one [h.av] ⟨.tup [h.av, I h.err], []⟩) (ins 177 (one [h.av] ⟨I (twArea h), []⟩) pt0)) := one_ok (c76 hk) (one_ok (c122 hk.f) pt0_ok)
  unfold areaP
  by_cases he : h.err = 0
  · rw [if_pos he]
    rw [he] at h0 ⊢
    refine bs.pv (sx := nos) h0 Tryz.func117 (by kernel_rfl) (by kernel_rfl) rfl ?_
    repeat' (first | refine wk3 ?_ | (refine wk2 ?_ ?_ <;> intro _) | refine wk4 ?_ | fail); all_goals (conv => whnf)
    exact ret_of rfl rfl
  · rw [if_neg he]
    refine bs.pv (sx := nos) h0 Tryz.func117 (by kernel_rfl) (by kernel_rfl) rfl ?_
    repeat' (first | refine wk3 ?_ | (refine wk2 ?_ ?_ <;> intro _) | refine wk4 ?_ | fail); all_goals (conv => whnf)
    exact ret_of rfl rfl
set_option maxHeartbeats 4000000 in
theorem c44 {h : Hal} (hk : h.ok) : PCall Tryz.prog 138 [h.av] ⟨.tup [I (IntKind.i64.wrap (areaP h * h.ht)), I h.err], []⟩ := by
  have h0 : PCOK Tryz.prog (ins 117 (one [h.av] ⟨.tup [I (areaP h), I h.err], []⟩) pt0) := one_ok (c43 hk) pt0_ok
  refine bs.pv (sx := nos) h0 Tryz.func138 (by kernel_rfl) (by kernel_rfl) rfl ?_
  repeat' (first | refine wk3 ?_ | (refine wk2 ?_ ?_ <;> intro _) | refine wk4 ?_ | fail); all_goals (conv => whnf)
  exact ret_of rfl rfl

noncomputable def both (a0 a1 : List AV) (r : PRes) (a : List AV) : Option PRes := by
  classical exact if a = a0 ∨ a = a1 then some r else none
theorem both_l (a0 a1 : List AV) (r : PRes) : both a0 a1 r a0 = some r := by unfold both; simp
theorem both_r (a0 a1 : List AV) (r : PRes) : both a0 a1 r a1 = some r := by unfold both; simp
theorem both_ok {f0 : FuncId} {a0 a1 : List AV} {r : PRes} {pt : PC} (h0 : PCall Tryz.prog f0 a0 r) (h1 : PCall Tryz.prog f0 a1 r) (h : PCOK Tryz.prog pt) : PCOK Tryz.prog (ins f0 (both a0 a1 r) pt) := by
  refine ins_ok (fun a res hr => ?_) h
  unfold both at hr
  split at hr
  · rename_i e
    cases hr
    rcases e with rfl | rfl
    · exact h0
    · exact h1
  · cases hr
/-- The rows of a copy, as they are seen. -/
abbrev seen (els : List (List AV)) : List (List AV) := (els.drop 0).take els.length
theorem seen_eq (els : List (List AV)) : seen els = els := by simp [seen]
/-- The hall turned by one corner, as it lies. -/
abbrev turnRaw (h : Hal) (c : Int × Int) (l : List (Int × Int)) (w : Wal) (lw : List Wal) (ks : AV) : AV := .agg [.str h.nm, I h.ht, .str h.fl, .str h.ce, .isl 6 (seen (h.ms.map Mat.av)),
  .isl 2 (((l.map pt ++ [pt c]).drop 0).take ((l.map pt).length + 1)), .isl 3 (((lw.map Wal.av ++ [w.av]).drop 0).take ((lw.map Wal.av).length + 1)), ks, .isl 4 (seen (h.ss.map Sea.av))]
theorem turnRaw_eq {h : Hal} {c l w lw} (hc : h.cs = c :: l) (hw : h.ws = w :: lw) (ks : AV) : turnRaw h c l w lw ks = .agg [.str h.nm, I h.ht, .str h.fl, .str h.ce, .isl 6 (h.ms.map Mat.av), .isl 2 (h.turn.cs.map pt), .isl 3 (h.turn.ws.map Wal.av), ks, .isl 4 (h.ss.map Sea.av)] := by
  have e1 : h.turn.cs = l ++ [c] := by unfold Hal.turn; rw [hc]; rfl
  have e2 : h.turn.ws = lw ++ [w] := by unfold Hal.turn; rw [hw]; rfl
  rw [e1, e2]
  unfold turnRaw
  rw [seen_eq, seen_eq, List.drop_zero, List.drop_zero, List.map_append, List.map_append, List.take_of_length_le (by simp), List.take_of_length_le (by simp)]
  rfl
end Go.Proofs.YtddhjopopelkjaaGreat
