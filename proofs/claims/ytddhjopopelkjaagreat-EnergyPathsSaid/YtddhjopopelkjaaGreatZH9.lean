/- A part of the proof: lemmas. -/
import Derived.Test.YtddhjopopelkjaaGreatZH8
set_option linter.unusedVariables false
set_option linter.unusedSimpArgs false
namespace Go.Proofs.YtddhjopopelkjaaGreat
open Go Go.Sx
/-! ### The law of the rings -/
def rAir : List AV → Option PRes
  | [.agg [.int .i64 b, .int .i64 a, .int .i64 v]] => some ⟨I (airE b a v), []⟩
  | _ => none
noncomputable def kRg (h : Hal) (s : Stg) : PC := ins 16 r16 (ins 17 (one [.agg (stgL h s)] ⟨Bo true, []⟩) (ins 22 (one [h.av, s.av] ⟨I (serr h s), []⟩) (ins 24 rAir (ins 19 (one [h.av] ⟨h.av, []⟩) (ins 20 (one [s.av] ⟨s.av, []⟩) pt0)))))
theorem kRg_ok {h : Hal} {s : Stg} (r : few3 h s = true) : PCOK Tryz.prog (kRg h s) := by
  obtain ⟨hk, hs⟩ := few3_ok r
  have h17 := d17 h s
  rw [r] at h17
  refine ins_ok (fun a res h => ?_) (one_ok h17 (one_ok (d22 hk hs) (ins_ok (fun a res h => ?_) (one_ok (c22f hk.f) (one_ok (c29 hs) pt0_ok)))))
  · unfold r16 at h; split at h <;> cases h; exact awake_ok
  · unfold rAir at h; split at h <;> cases h; exact d24 _ _ _
set_option maxRecDepth 100000 in
set_option maxHeartbeats 8000000 in
theorem d13 (h : Hal) (s : Stg) (b a v : Int) : PCall Tryz.prog 13 [.agg (stgL h s), P3 b a v] ⟨Bo true, []⟩ := by
  by_cases r : few3 h s = true
  rotate_left
  · have haw : PCOK Tryz.prog (ins 16 r16 (ins 17 (one [.agg (stgL h s)] ⟨Bo (few3 h s), []⟩) pt0)) := by
      refine ins_ok (fun a res h => ?_) (one_ok (d17 h s) pt0_ok)
      unfold r16 at h; split at h <;> cases h; exact awake_ok
    have r : few3 h s = false := by simpa using r
    rw [r] at haw
    refine bs.pv (sx := nos) haw Tryz.func13 (by kernel_rfl) (by kernel_rfl) rfl ?_
    repeat' (first | refine wk3 ?_ | (refine wk2 ?_ ?_ <;> intro _) | refine wk4 ?_ | fail); all_goals (conv => whnf)
    all_goals exact ret_bool rfl
  obtain ⟨hk, hs⟩ := few3_ok r
  have h1 := kRg_ok r
  by_cases e : abE h s b a v = 0
  rotate_left
  · have k0 := one_ok (d67e hk hs e) (one_ok (d68e hk hs e) (one_ok (d69e hk hs e) h1))
    by_cases z : serr h s = 0
    rotate_left
    · have e1 : abE h s b a v = serr h s := by unfold abE; rw [if_pos z]
      rw [e1] at k0
      unfold kRg at k0
      generalize serr h s = E at *
      refine bs.pv (sx := nos) k0 Tryz.func13 (by kernel_rfl) (by kernel_rfl) rfl ?_
      repeat' (first | refine wk3 ?_ | (refine wk2 ?_ ?_ <;> intro _) | refine wk4 ?_ | fail); all_goals (conv => whnf)
      all_goals first
        | exact ret_bool rfl
        | (refine ret_bool ?_; simp_all; done)
        | (exfalso; simp_all; done)
    by_cases y : airE b a v = 0
    rotate_left
    · have e1 : abE h s b a v = airE b a v := by unfold abE; rw [if_neg (fun c => c z), if_pos y]
      rw [e1] at k0
      unfold kRg at k0
      rw [z] at k0
      refine bs.pv (sx := nos) k0 Tryz.func13 (by kernel_rfl) (by kernel_rfl) rfl ?_
      repeat' (first | refine wk3 ?_ | (refine wk2 ?_ ?_ <;> intro _) | refine wk4 ?_ | fail); all_goals (conv => whnf)
      all_goals first
        | exact ret_bool rfl
        | (refine ret_bool ?_; simp_all; done)
        | (exfalso; simp_all; done)
    have g := sit_of hk hs z
    have np : ¬ 1 ≤ (absV h s b).1 := fun c => e (ab_of ⟨g, z, y, c⟩).2
    have e1 : abE h s b a v = 11 := by
      unfold abE
      rw [if_neg (fun c => c z), if_neg (fun c => c y), absA_eq z y]
      unfold unl
      rw [decide_eq_false (by omega)]
      rfl
    obtain ⟨hb, _⟩ := air_iff y
    rw [e1] at k0
    unfold kRg at k0
    rw [z] at k0
    have k1 := one_ok (d70e g hb a v np) (one_ok (d71e g hb a v np) (one_ok (d72e g hb a v np) k0))
    refine bs.pv (sx := nos) k1 Tryz.func13 (by kernel_rfl) (by kernel_rfl) rfl ?_
    repeat' (first | refine wk3 ?_ | (refine wk2 ?_ ?_ <;> intro _) | refine wk4 ?_ | fail); all_goals (conv => whnf)
    all_goals first
      | exact ret_bool rfl
      | (refine ret_bool ?_; simp_all; done)
      | (exfalso; simp_all; done)
  have rg := rg_of hk hs e
  have k1 := one_ok (d70 rg) (one_ok (d71 rg) (one_ok (d72 rg) (one_ok (d67 rg) (one_ok (d68 rg) (one_ok (d69 rg) h1)))))
  have y := rg.air
  unfold kRg at k1
  rw [rg.z] at k1
  generalize sabX h s b v = X at *
  generalize hitX h s b = Y at *
  generalize eyrY h s b v = Z at *
  obtain ⟨⟨y1, y2⟩, y3⟩ := Y
  obtain ⟨x1, x2⟩ := X
  obtain ⟨z1, z2⟩ := Z
  dsimp only at k1
  refine bs.pv (sx := nos) k1 Tryz.func13 (by kernel_rfl) (by kernel_rfl) rfl ?_
  repeat' (first | refine wk3 ?_ | (refine wk2 ?_ ?_ <;> intro _) | refine wk4 ?_ | fail); all_goals (conv => whnf)
  all_goals first
    | exact ret_bool rfl
    | (refine ret_bool ?_; simp_all; done)
    | (exfalso; simp_all; done)
end Go.Proofs.YtddhjopopelkjaaGreat
