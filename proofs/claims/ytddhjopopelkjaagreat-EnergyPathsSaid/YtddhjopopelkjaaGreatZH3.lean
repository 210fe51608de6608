/- A part of the proof: lemmas. -/
import Derived.Test.YtddhjopopelkjaaGreatZH2
set_option linter.unusedVariables false
set_option linter.unusedSimpArgs false
namespace Go.Proofs.YtddhjopopelkjaaGreat
open Go Go.Sx
/-! ### The absorption area of a scene -/
theorem d103u (b : Bool) (e : Int) : PCall Tryz.prog 103 [Bo b, I e] ⟨I (unl b e), []⟩ := by
  refine bs.pv (sx := nos) pt0_ok Tryz.func103 (by kernel_rfl) (by kernel_rfl) rfl ?_
  repeat' (first | refine wk3 ?_ | (refine wk2 ?_ ?_ <;> intro _) | refine wk4 ?_ | fail); all_goals (conv => whnf)
  all_goals exact ret_int (by simp_all [unl])
def r103u : List AV → Option PRes
  | [.bool b, .int .i64 e] => some ⟨I (unl b e), []⟩
  | _ => none
def r88 : List AV → Option PRes
  | [.agg [.int .i64 b, .int .i64 a, .int .i64 v]] => some ⟨I (airE b a v), []⟩
  | _ => none
noncomputable def kAb (h : Hal) (s : Stg) (b : Int) : PC := ins 103 r103u (ins 88 r88 (ins 83 (one [h.av, s.av] ⟨I (serr h s), []⟩) (ins 191 (one [h.av, s.av, I b] ⟨.tup [.agg [I (absA h s b).1, I (absA h s b).2], I (bandE h s b)], []⟩) pt0)))
theorem kAb_ok {h : Hal} {s : Stg} (hk : h.ok) (hs : s.few) (b : Int) : PCOK Tryz.prog (kAb h s b) := by
  refine ins_ok (fun a res h => ?_) (ins_ok (fun a res h => ?_) (one_ok (c47 hk hs) (one_ok (c28 hk hs b) pt0_ok)))
  · unfold r103u at h; split at h <;> cases h; exact d103u _ _
  · unfold r88 at h; split at h <;> cases h; exact d88 _ _ _
noncomputable def abE (h : Hal) (s : Stg) (b a v : Int) : Int := if serr h s ≠ 0 then serr h s else if airE b a v ≠ 0 then airE b a v else unl (decide (0 < (absA h s b).1)) 11
noncomputable def abV (h : Hal) (s : Stg) (b a v : Int) : Int × Int := if serr h s ≠ 0 then (0, 0) else if airE b a v ≠ 0 then (0, 0) else absA h s b
abbrev sxA : FuncId → Bool := fun f => Nat.beq f 81 || Nat.beq f 190
set_option maxRecDepth 100000 in
set_option maxHeartbeats 8000000 in
theorem d143 {h : Hal} (hk : h.ok) {s : Stg} (hs : s.few) (b a v : Int) : PCall Tryz.prog 143 [h.av, s.av, P3 b a v] ⟨.tup [P2 (abV h s b a v).1 (abV h s b a v).2, I (abE h s b a v)], []⟩ := by
  have hA := kAb_ok hk hs b
  by_cases z : serr h s = 0
  rotate_left
  · rw [show abV h s b a v = (0, 0) by unfold abV; rw [if_pos z], show abE h s b a v = serr h s by unfold abE; rw [if_pos z]]
    unfold kAb at hA
    generalize serr h s = E at *
    refine bs.pv (sx := sxA) hA Tryz.func143 (by kernel_rfl) (by kernel_rfl) rfl ?_
    repeat' (first | refine wk3 ?_ | (refine wk2 ?_ ?_ <;> intro _) | refine wk4 ?_ | fail); all_goals (conv => whnf)
    refine bs.sv (sx := sxA) hA Tryz.func81 (by kernel_rfl) (by kernel_rfl) ?_
    repeat' (first | refine wk3 ?_ | (refine wk2 ?_ ?_ <;> intro _) | refine wk4 ?_ | fail); all_goals (conv => whnf)
    refine LpM.start 3 ?_
    refine LpM.succ (bs.av (sx := sxA) hA ?_)
    repeat' (first | refine wk3 ?_ | (refine wk2 ?_ ?_ <;> intro _) | refine wk4 ?_ | fail); all_goals (conv => whnf)
    refine bs.sv (sx := sxA) hA Tryz.func190 (by kernel_rfl) (by kernel_rfl) ?_
    repeat' (first | refine wk3 ?_ | (refine wk2 ?_ ?_ <;> intro _) | refine wk4 ?_ | fail); all_goals (conv => whnf)
    all_goals exact ret_of rfl rfl
  unfold kAb at hA
  rw [z] at hA
  by_cases y : airE b a v = 0
  rotate_left
  · rw [show abV h s b a v = (0, 0) by unfold abV; rw [if_neg (fun c => c z), if_pos y], show abE h s b a v = airE b a v by unfold abE; rw [if_neg (fun c => c z), if_pos y]]
    refine bs.pv (sx := sxA) hA Tryz.func143 (by kernel_rfl) (by kernel_rfl) rfl ?_
    repeat' (first | refine wk3 ?_ | (refine wk2 ?_ ?_ <;> intro _) | refine wk4 ?_ | fail); all_goals (conv => whnf)
    refine bs.sv (sx := sxA) hA Tryz.func81 (by kernel_rfl) (by kernel_rfl) ?_
    repeat' (first | refine wk3 ?_ | (refine wk2 ?_ ?_ <;> intro _) | refine wk4 ?_ | fail); all_goals (conv => whnf)
    refine LpM.start 3 ?_
    refine LpM.succ (bs.av (sx := sxA) hA ?_)
    repeat' (first | refine wk3 ?_ | (refine wk2 ?_ ?_ <;> intro _) | refine wk4 ?_ | fail); all_goals (conv => whnf)
    refine bs.sv (sx := sxA) hA Tryz.func190 (by kernel_rfl) (by kernel_rfl) ?_
    repeat' (first | refine wk3 ?_ | (refine wk2 ?_ ?_ <;> intro _) | refine wk4 ?_ | fail); all_goals (conv => whnf)
    refine LpM.succ (bs.av (sx := sxA) hA ?_)
    repeat' (first | refine wk3 ?_ | (refine wk2 ?_ ?_ <;> intro _) | refine wk4 ?_ | fail); all_goals (conv => whnf)
    all_goals exact ret_of rfl rfl
  rw [show abV h s b a v = absA h s b by unfold abV; rw [if_neg (fun c => c z), if_neg (fun c => c y)], show abE h s b a v = unl (decide (0 < (absA h s b).1)) 11 by unfold abE; rw [if_neg (fun c => c z), if_neg (fun c => c y)]]
  generalize absA h s b = A at *
  refine bs.pv (sx := sxA) hA Tryz.func143 (by kernel_rfl) (by kernel_rfl) rfl ?_
  repeat' (first | refine wk3 ?_ | (refine wk2 ?_ ?_ <;> intro _) | refine wk4 ?_ | fail); all_goals (conv => whnf)
  refine bs.sv (sx := sxA) hA Tryz.func81 (by kernel_rfl) (by kernel_rfl) ?_
  repeat' (first | refine wk3 ?_ | (refine wk2 ?_ ?_ <;> intro _) | refine wk4 ?_ | fail); all_goals (conv => whnf)
  refine LpM.start 3 ?_
  refine LpM.succ (bs.av (sx := sxA) hA ?_)
  repeat' (first | refine wk3 ?_ | (refine wk2 ?_ ?_ <;> intro _) | refine wk4 ?_ | fail); all_goals (conv => whnf)
  refine bs.sv (sx := sxA) hA Tryz.func190 (by kernel_rfl) (by kernel_rfl) ?_
  repeat' (first | refine wk3 ?_ | (refine wk2 ?_ ?_ <;> intro _) | refine wk4 ?_ | fail); all_goals (conv => whnf)
  refine LpM.succ (bs.av (sx := sxA) hA ?_)
  repeat' (first | refine wk3 ?_ | (refine wk2 ?_ ?_ <;> intro _) | refine wk4 ?_ | fail); all_goals (conv => whnf)
  refine LpM.succ (bs.av (sx := sxA) hA ?_)
  repeat' (first | refine wk3 ?_ | (refine wk2 ?_ ?_ <;> intro _) | refine wk4 ?_ | fail); all_goals (conv => whnf)
  all_goals exact ret_of rfl rfl
end Go.Proofs.YtddhjopopelkjaaGreat
