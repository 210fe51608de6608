/- A part of the proof: lemmas. -/
import Derived.Test.YtdaliaafmcjikaaGreatJP4
import Derived.Test.YtdaliaafmcjikaaGreatJA4
set_option linter.unusedVariables false
set_option linter.unusedSimpArgs false
namespace Go.Proofs.YtdaliaafmcjikaaGreat
open Go Go.Sx
/-! ### Errors of asks -/
abbrev Pl3 := Int × Int × Int
/-- Where a place is wrong. -/
def plcB (x y z : Int) : Bool := within x (-5000) 5000 && within y (-5000) 5000 && within z (-5000) 5000
def plaE (h : Hal) (x y z : Int) : Int := if plcB x y z = true then unl (isInsR h ⟨x, y, z, 1⟩) 24 else 2
theorem d123 (x y z : Int) : PCall Tryz.prog 123 [P3 x y z] ⟨P4 x y z 1, []⟩ := by
  refine bs.pv (sx := nos) pt0_ok Tryz.func123 (by kernel_rfl) (by kernel_rfl) rfl ?_
  repeat' (first | refine wk3 ?_ | (refine wk2 ?_ ?_ <;> intro _) | refine wk4 ?_ | fail); all_goals (conv => whnf)
  all_goals exact ret_of rfl rfl
theorem d83 (n : Int) : PCall Tryz.prog 83 [I n] ⟨Bo (within n (-5000) 5000), []⟩ := by
  refine bs.pv (sx := nos) (one_ok (c30 n (-5000) 5000) pt0_ok) Tryz.func83 (by kernel_rfl) (by kernel_rfl) rfl ?_
  repeat' (first | refine wk3 ?_ | (refine wk2 ?_ ?_ <;> intro _) | refine wk4 ?_ | fail); all_goals (conv => whnf)
  exact ret_bool rfl
theorem d81 (n : Int) : PCall Tryz.prog 81 [I n] ⟨I (unl (within n 0 4) 2), []⟩ := by
  refine bs.pv (sx := nos) (one_ok (d210 n 0 4) (one_ok (d209 (within n 0 4) 2) pt0_ok)) Tryz.func81 (by kernel_rfl) (by kernel_rfl) rfl ?_
  repeat' (first | refine wk3 ?_ | (refine wk2 ?_ ?_ <;> intro _) | refine wk4 ?_ | fail); all_goals (conv => whnf)
  exact ret_int rfl
theorem d68 (n : Int) : PCall Tryz.prog 68 [I n] ⟨I (unl (within n 0 4) 2), []⟩ := by
  refine bs.pv (sx := nos) (one_ok (c30 n 0 4) pt0_ok) Tryz.func68 (by kernel_rfl) (by kernel_rfl) rfl ?_
  repeat' (first | refine wk3 ?_ | (refine wk2 ?_ ?_ <;> intro _) | refine wk4 ?_ | fail); all_goals (conv => whnf)
  all_goals exact ret_int (by simp_all [unl])
theorem small_eq (n : Int) : small n 5000 = within n (-5000) 5000 := rfl
theorem one_pt {x y z : Int} (c : plcB x y z = true) : ptErr ⟨x, y, z, 1⟩ = 0 := by
  simp only [plcB, Bool.and_eq_true, within_iff] at c
  have hg : g4 ⟨x, y, z, 1⟩ = 1 := by
    simp [g4]
  unfold ptErr
  rw [if_neg (by simp [hg]), if_neg (by simp), if_pos]
  unfold ptIn
  simp only [Bool.and_eq_true, within_iff]
  simp
  omega
def r86 : List AV → Option PRes
  | [.int .i64 n, .int .i64 m] => some ⟨Bo (small n m), []⟩
  | _ => none
theorem r86_ok {pt : PC} (h : PCOK Tryz.prog pt) : PCOK Tryz.prog (ins 86 r86 pt) := ins_ok (fun a res h => by unfold r86 at h; split at h <;> cases h; exact d86 _ _) h
def r83 : List AV → Option PRes
  | [.int .i64 n] => some ⟨Bo (within n (-5000) 5000), []⟩
  | _ => none
theorem r83_ok {pt : PC} (h : PCOK Tryz.prog pt) : PCOK Tryz.prog (ins 83 r83 pt) := ins_ok (fun a res h => by unfold r83 at h; split at h <;> cases h; exact d83 _) h
set_option maxHeartbeats 8000000 in
theorem d79 {h : Hal} (hk : h.ok) (he : h.err = 0) (x y z : Int) : PCall Tryz.prog 79 [h.av, P3 x y z] ⟨I (plaE h x y z), []⟩ := by
  have hk0 := r86_ok (one_ok (d123 x y z) pt0_ok)
  by_cases c : plcB x y z = true
  · have hp := one_pt c
    have hi : insE h ⟨x, y, z, 1⟩ = 0 := by unfold insE; rw [if_pos he, hp]
    have hw : Pt.wf ⟨x, y, z, 1⟩ := by
      simp only [plcB, Bool.and_eq_true, within_iff] at c
      refine ⟨⟨?_, ?_⟩, ⟨?_, ?_⟩, ⟨?_, ?_⟩, ⟨?_, ?_⟩⟩ <;> dsimp only <;> omega
    have h50 := c50 hk hw
    rw [hi] at h50
    unfold plaE
    rw [if_pos c]
    generalize isInsR h ⟨x, y, z, 1⟩ = b at *
    have hk1 := one_ok h50 (one_ok (d209 b 24) hk0)
    simp only [plcB, Bool.and_eq_true, ← small_eq] at c
    refine bs.pv (sx := nos) hk1 Tryz.func79 (by kernel_rfl) (by kernel_rfl) rfl ?_
    repeat' (first | refine wk3 ?_ | (refine wk2 ?_ ?_ <;> intro _) | refine wk4 ?_ | fail); all_goals (conv => whnf)
    all_goals first
      | exact ret_int rfl
      | (exfalso; clear hk1 h50 hk0 hp hi; simp_all; done)
  · unfold plaE
    rw [if_neg c]
    simp only [plcB, ← small_eq] at c
    refine bs.pv (sx := nos) hk0 Tryz.func79 (by kernel_rfl) (by kernel_rfl) rfl ?_
    repeat' (first | refine wk3 ?_ | (refine wk2 ?_ ?_ <;> intro _) | refine wk4 ?_ | fail); all_goals (conv => whnf)
    all_goals first
      | exact ret_int rfl
      | (exfalso; clear hk0; simp_all; done)
set_option maxHeartbeats 8000000 in
theorem d27 {h : Hal} (hk : h.ok) (he : h.err = 0) (x y z : Int) : PCall Tryz.prog 27 [h.av, P3 x y z] ⟨I (plaE h x y z), []⟩ := by
  have hf := fine_of hk he
  have hk0 := one_ok (c52 hk.f hf.le.2.2.1 (nz_of hf.st) ⟨x, y, z, 1⟩) (r83_ok (one_ok (c36 x y z) pt0_ok))
  unfold plaE plcB
  generalize isInsR h ⟨x, y, z, 1⟩ = b at *
  refine bs.pv (sx := nos) hk0 Tryz.func27 (by kernel_rfl) (by kernel_rfl) rfl ?_
  repeat' (first | refine wk3 ?_ | (refine wk2 ?_ ?_ <;> intro _) | refine wk4 ?_ | fail); all_goals (conv => whnf)
  all_goals clear hk0
  all_goals exact ret_int (by simp_all [unl])
end Go.Proofs.YtdaliaafmcjikaaGreat
