/- A part of the proof: lemmas. -/
import Derived.Test.YtddhjopopelkjaaGreatZU5
set_option linter.unusedVariables false
set_option linter.unusedSimpArgs false
namespace Go.Proofs.YtddhjopopelkjaaGreat
open Go Go.Sx
/-! ### Air, and the absorption area of a scene -/
theorem d101u (n lo hi : Int) : PCall Tryz.prog 101 [I n, I lo, I hi] ⟨Bo (within n lo hi), []⟩ := by
  refine bs.pv (sx := nos) pt0_ok Tryz.func101 (by kernel_rfl) (by kernel_rfl) rfl ?_
  repeat' (first | refine wk3 ?_ | (refine wk2 ?_ ?_ <;> intro _) | refine wk4 ?_ | fail); all_goals (conv => whnf)
  all_goals exact ret_bool (by simp_all [within] <;> omega)
theorem d38u (n lo hi : Int) : PCall Tryz.prog 38 [I n, I lo, I hi] ⟨Bo (within n lo hi), []⟩ := c30 n lo hi
def rWu : List AV → Option PRes
  | [.int .i64 n, .int .i64 lo, .int .i64 hi] => some ⟨Bo (within n lo hi), []⟩
  | _ => none
def kV0 : PC := ins 38 rWu (ins 101 rWu pt0)
theorem kV0_ok : PCOK Tryz.prog kV0 := by
  refine ins_ok (fun a res h => ?_) (ins_ok (fun a res h => ?_) pt0_ok)
  · unfold rWu at h; split at h <;> cases h; exact d38u _ _ _
  · unfold rWu at h; split at h <;> cases h; exact d101u _ _ _
theorem d94 (n : Int) : PCall Tryz.prog 94 [I n] ⟨I (unl (within n 30000 40000) 2), []⟩ := by
  refine bs.pv (sx := nos) kV0_ok Tryz.func94 (by kernel_rfl) (by kernel_rfl) rfl ?_
  repeat' (first | refine wk3 ?_ | (refine wk2 ?_ ?_ <;> intro _) | refine wk4 ?_ | fail); all_goals (conv => whnf)
  all_goals exact ret_int (by simp_all [unl])
/-- The error of air. -/
def airE (b a v : Int) : Int := if within b 0 3 then (if within a 0 100000 && within v 30000 40000 then 0 else 2) else 6
def rSpE : List AV → Option PRes
  | [.int .i64 n] => some ⟨I (unl (within n 30000 40000) 2), []⟩
  | _ => none
def kV1 : PC := ins 94 rSpE kV0
theorem kV1_ok : PCOK Tryz.prog kV1 := by
  refine ins_ok (fun a res h => ?_) kV0_ok
  unfold rSpE at h; split at h <;> cases h; exact d94 _
theorem d24 (b a v : Int) : PCall Tryz.prog 24 [P3 b a v] ⟨I (airE b a v), []⟩ := by
  unfold airE
  cases h1 : within b 0 3 <;> cases h2 : within a 0 100000 <;> cases h3 : within v 30000 40000
  all_goals
    refine bs.pv (sx := nos) kV1_ok Tryz.func24 (by kernel_rfl) (by kernel_rfl) rfl ?_
    repeat' (first | refine wk3 ?_ | (refine wk2 ?_ ?_ <;> intro _) | refine wk4 ?_ | fail); all_goals (conv => whnf)
  all_goals first
    | exact ret_int rfl
    | (refine ret_int ?_; simp_all [unl]; done)
    | (exfalso; simp_all [unl]; done)
theorem d88 (b a v : Int) : PCall Tryz.prog 88 [P3 b a v] ⟨I (airE b a v), []⟩ := by
  unfold airE
  cases h1 : within b 0 3 <;> cases h2 : within a 0 100000 <;> cases h3 : within v 30000 40000
  all_goals
    refine bs.pv (sx := nos) kV0_ok Tryz.func88 (by kernel_rfl) (by kernel_rfl) rfl ?_
    repeat' (first | refine wk3 ?_ | (refine wk2 ?_ ?_ <;> intro _) | refine wk4 ?_ | fail); all_goals (conv => whnf)
  all_goals first
    | exact ret_int rfl
    | (refine ret_int ?_; simp_all; done)
    | (exfalso; simp_all; done)
end Go.Proofs.YtddhjopopelkjaaGreat
