/- A part of the proof: lemmas. -/
import Derived.Test.YtdaliaafmcjikaaGreatJA8
import Derived.Test.YtdaliaafmcjikaaGreatZw11
set_option linter.unusedVariables false
set_option linter.unusedSimpArgs false
namespace Go.Proofs.YtdaliaafmcjikaaGreat
open Go Go.Sx
/-! ### Turns -/
abbrev gcW (a b : Int) : Int := IntKind.i64.wrap ((Nat.gcd a.natAbs b.natAbs : Nat) : Int)
set_option maxHeartbeats 4000000 in
theorem d138 {a b : Int} (ha : i64 a) (hb : i64 b) : PCall Tryz.prog 138 [I a, I b] ⟨I (gcW a b), []⟩ := by
  refine bs.pv (sx := nos) pt0_ok Tryz.func138 (by kernel_rfl) (by kernel_rfl) rfl ?_
  unfold gcW
  generalize hG : Nat.gcd a.natAbs b.natAbs = G
  conv => whnf
  refine loopV (S := Int × Int) (fun t => t.2.natAbs) (fun t => [(0, I t.1), (1, I t.2)]) (fun _ => []) 0 0 (fun t => (i64 t.1 ∧ i64 t.2) ∧ Nat.gcd t.1.natAbs t.2.natAbs = G) (a, b) ⟨⟨ha, hb⟩, hG⟩ (Nat.le_refl _) [] rfl (kps) (kps) ?_
  clear hG ha hb
  rintro ⟨a, b⟩ ⟨⟨ha, hb⟩, hG⟩
  dsimp only at ha hb hG ⊢
  refine bs.av (sx := nos) pt0_ok ?_
  by_cases h0 : b = 0
  · subst h0
    repeat' (first | refine wk3 ?_ | (refine wk2 ?_ ?_ <;> intro _) | refine wk4 ?_ | fail); all_goals (conv => whnf)
    all_goals first | exact ret_int ((size_W ha).trans (by rw [← hG]; simp)) | (exfalso; simp_all; done)
  · repeat' (first | refine wk3 ?_ | (refine wk2 ?_ ?_ <;> intro _) | refine wk4 ?_ | fail); all_goals (conv => whnf)
    all_goals first
      | exact Done.mk ⟨(b, a.tmod b), [], rfl, kps, kps, ⟨⟨hb, tmod_i64 ha h0⟩, by rw [← hG]; exact gcd_step⟩, by
          show (a.tmod b).natAbs < b.natAbs
          rw [Int.natAbs_tmod]; exact Nat.mod_lt _ (by omega)⟩
      | (exfalso; simp_all; done)
def crW (a b c d : Int) : Int := IntKind.i64.wrap (IntKind.i64.wrap (a * d) - IntKind.i64.wrap (b * c))
theorem d139 (a b c d : Int) : PCall Tryz.prog 139 [P2 a b, P2 c d] ⟨I (crW a b c d), []⟩ := by
  refine bs.pv (sx := nos) pt0_ok Tryz.func139 (by kernel_rfl) (by kernel_rfl) rfl ?_
  repeat' (first | refine wk3 ?_ | (refine wk2 ?_ ?_ <;> intro _) | refine wk4 ?_ | fail); all_goals (conv => whnf)
  exact ret_int rfl
theorem d95c (a b c d : Int) : PCall Tryz.prog 95 [P2 a b, P2 c d] ⟨I (crW a b c d), []⟩ := by
  refine bs.pv (sx := nos) pt0_ok Tryz.func95 (by kernel_rfl) (by kernel_rfl) rfl ?_
  repeat' (first | refine wk3 ?_ | (refine wk2 ?_ ?_ <;> intro _) | refine wk4 ?_ | fail); all_goals (conv => whnf)
  exact ret_int rfl
theorem d93 (a b : Int) : PCall Tryz.prog 93 [P2 a b] ⟨P2 a b, []⟩ := by
  refine bs.pv (sx := nos) pt0_ok Tryz.func93 (by kernel_rfl) (by kernel_rfl) rfl ?_
  repeat' (first | refine wk3 ?_ | (refine wk2 ?_ ?_ <;> intro _) | refine wk4 ?_ | fail); all_goals (conv => whnf)
  exact ret_of rfl rfl
def rCr : List AV → Option PRes
  | [.agg [.int .i64 a, .int .i64 b], .agg [.int .i64 c, .int .i64 d]] => some ⟨I (crW a b c d), []⟩
  | _ => none
def rWy : List AV → Option PRes
  | [.agg [.int .i64 a, .int .i64 b]] => some ⟨P2 a b, []⟩
  | _ => none
def kT0 : PC := ins 139 rCr (ins 95 rCr (ins 93 rWy (ins 87 rFr kI0)))
theorem kT0_ok : PCOK Tryz.prog kT0 := by
  refine ins_ok (fun a res h => ?_) (ins_ok (fun a res h => ?_) (ins_ok (fun a res h => ?_) (ins_ok (fun a res h => ?_) kI0_ok)))
  · unfold rCr at h; split at h <;> cases h; exact d139 _ _ _ _
  · unfold rCr at h; split at h <;> cases h; exact d95c _ _ _ _
  · unfold rWy at h; split at h <;> cases h; exact d93 _ _
  · unfold rFr at h; split at h <;> cases h; exact d87 _ _ _ _
abbrev Tn := Int × Int
def btW (a b x : Tn) : Bool := decide (0 < crW a.1 a.2 b.1 b.2) && (decide (0 < crW a.1 a.2 x.1 x.2) && decide (0 < crW x.1 x.2 b.1 b.2))
theorem d92b (a b x : Tn) : PCall Tryz.prog 92 [P2 a.1 a.2, P2 b.1 b.2, P2 x.1 x.2] ⟨Bo (btW a b x), []⟩ := by
  unfold btW
  by_cases c1 : 0 < crW a.1 a.2 b.1 b.2 <;> by_cases c2 : 0 < crW a.1 a.2 x.1 x.2 <;> by_cases c3 : 0 < crW x.1 x.2 b.1 b.2
  all_goals
    refine bs.pv (sx := nos) kT0_ok Tryz.func92 (by kernel_rfl) (by kernel_rfl) rfl ?_
    repeat' (first | refine wk3 ?_ | (refine wk2 ?_ ?_ <;> intro _) | refine wk4 ?_ | fail); all_goals (conv => whnf)
    all_goals first | exact ret_bool rfl | (refine ret_bool ?_; simp_all; done) | (exfalso; simp_all; done)
theorem d33b (a b x : Tn) : PCall Tryz.prog 33 [P2 a.1 a.2, P2 b.1 b.2, P2 x.1 x.2] ⟨Bo (btW a b x), []⟩ := by
  unfold btW
  by_cases c1 : 0 < crW a.1 a.2 b.1 b.2 <;> by_cases c2 : 0 < crW a.1 a.2 x.1 x.2 <;> by_cases c3 : 0 < crW x.1 x.2 b.1 b.2
  all_goals
    refine bs.pv (sx := nos) kT0_ok Tryz.func33 (by kernel_rfl) (by kernel_rfl) rfl ?_
    repeat' (first | refine wk3 ?_ | (refine wk2 ?_ ?_ <;> intro _) | refine wk4 ?_ | fail); all_goals (conv => whnf)
    all_goals first | exact ret_bool rfl | (refine ret_bool ?_; simp_all; done) | (exfalso; simp_all; done)
/-! ### Errors of turns -/
def tnE (t : Tn) : Int := fstL [unl (decide (gcW t.1 t.2 = 1)) 3, unl (small t.1 100000 && small t.2 100000) 2]
theorem small_w (n : Int) : small n 100000 = within n (-100000) 100000 := rfl
theorem d91 {t : Tn} (h1 : i64 t.1) (h2 : i64 t.2) : PCall Tryz.prog 91 [P2 t.1 t.2] ⟨I (tnE t), []⟩ := by
  have hk := one_ok (d138 h1 h2) kI0_ok
  unfold tnE
  generalize gcW t.1 t.2 = G at *
  cases q1 : small t.1 100000 <;> cases q2 : small t.2 100000
  all_goals
    refine bs.pv (sx := nos) hk Tryz.func91 (by kernel_rfl) (by kernel_rfl) rfl ?_
    repeat' (first | refine wk3 ?_ | (refine wk2 ?_ ?_ <;> intro _) | refine wk4 ?_ | fail); all_goals (conv => whnf)
    all_goals first | exact ret_int rfl | (refine ret_int ?_; simp_all; done) | (exfalso; simp_all; done)
theorem d32 {t : Tn} (h1 : i64 t.1) (h2 : i64 t.2) : PCall Tryz.prog 32 [P2 t.1 t.2] ⟨I (tnE t), []⟩ := by
  have hk := one_ok (c120 h1 h2) k78_ok
  change PCOK Tryz.prog (ins 94 (one [I t.1, I t.2] ⟨I (gcW t.1 t.2), []⟩) k78) at hk
  unfold tnE
  rw [small_w, small_w]
  generalize gcW t.1 t.2 = G at *
  by_cases q0 : G = 1 <;> cases q1 : within t.1 (-100000) 100000 <;> cases q2 : within t.2 (-100000) 100000
  all_goals
    refine bs.pv (sx := nos) hk Tryz.func32 (by kernel_rfl) (by kernel_rfl) rfl ?_
    repeat' (first | refine wk3 ?_ | (refine wk2 ?_ ?_ <;> intro _) | refine wk4 ?_ | fail); all_goals (conv => whnf)
    all_goals first | exact ret_int rfl | (refine ret_int ?_; simp_all [fstL, unl]; done) | (exfalso; simp_all; done)
/-! ### The turn from a place to another one -/
def tuV (x y : Int) : Int × Int := (IntKind.i64.wrap (x.tdiv (gcW x y)), IntKind.i64.wrap (y.tdiv (gcW x y)))
theorem gcW_pos {x y : Int} (hx : x.natAbs ≤ 1000000) (hy : y.natAbs ≤ 1000000) (h : ¬ (x = 0 ∧ y = 0)) : ¬ gcW x y = 0 := by
  have hg : Nat.gcd x.natAbs y.natAbs ≠ 0 := by
    intro e
    rw [Nat.gcd_eq_zero_iff] at e
    exact h ⟨by omega, by omega⟩
  have hle : Nat.gcd x.natAbs y.natAbs ≤ 1000000 := by
    by_cases e : x.natAbs = 0
    · rw [e, Nat.gcd_zero_left]; exact hy
    · exact Nat.le_trans (Nat.gcd_le_left _ (by omega)) hx
  unfold gcW
  rw [W_eq (by omega) (by omega)]
  omega
theorem d88 {x y : Int} (h1 : i64 x) (h2 : i64 y) (hz : ¬ gcW x y = 0) : PCall Tryz.prog 88 [P2 x y] ⟨P2 (tuV x y).1 (tuV x y).2, []⟩ := by
  have hk := one_ok (d138 h1 h2) pt0_ok
  unfold tuV
  generalize gcW x y = G at *
  refine bs.pv (sx := nos) hk Tryz.func88 (by kernel_rfl) (by kernel_rfl) rfl ?_
  repeat' (first | refine wk3 ?_ | (refine wk2 ?_ ?_ <;> intro _) | refine wk4 ?_ | fail); all_goals (conv => whnf)
  all_goals first | exact ret_of rfl rfl | (exfalso; simp_all; done)
theorem d90 {x y : Int} (h1 : i64 x) (h2 : i64 y) (hz : ¬ gcW x y = 0) : PCall Tryz.prog 90 [I x, I y] ⟨P2 (tuV x y).1 (tuV x y).2, []⟩ := by
  have hk := one_ok (c120 h1 h2) pt0_ok
  change PCOK Tryz.prog (ins 94 (one [I x, I y] ⟨I (gcW x y), []⟩) pt0) at hk
  unfold tuV
  generalize gcW x y = G at *
  refine bs.pv (sx := nos) hk Tryz.func90 (by kernel_rfl) (by kernel_rfl) rfl ?_
  repeat' (first | refine wk3 ?_ | (refine wk2 ?_ ?_ <;> intro _) | refine wk4 ?_ | fail); all_goals (conv => whnf)
  all_goals first | exact ret_of rfl rfl | (exfalso; simp_all; done)
def coB (c : Tn) : Bool := small c.1 45000 && small c.2 45000
theorem d89 (c : Tn) : PCall Tryz.prog 89 [P2 c.1 c.2] ⟨I (unl (coB c) 2), []⟩ := by
  unfold coB
  rw [show ∀ n, small n 45000 = within n (-45000) 45000 from fun _ => rfl, show ∀ n, small n 45000 = within n (-45000) 45000 from fun _ => rfl]
  cases q1 : within c.1 (-45000) 45000 <;> cases q2 : within c.2 (-45000) 45000
  all_goals
    refine bs.pv (sx := nos) k78_ok Tryz.func89 (by kernel_rfl) (by kernel_rfl) rfl ?_
    repeat' (first | refine wk3 ?_ | (refine wk2 ?_ ?_ <;> intro _) | refine wk4 ?_ | fail); all_goals (conv => whnf)
    all_goals first | exact ret_int rfl | (refine ret_int ?_; simp_all [unl]; done) | (exfalso; simp_all; done)
def ttE (a b : Tn) : Int := if (coB a && coB b) = true then (if a.1 = b.1 ∧ a.2 = b.2 then 11 else 0) else 2
def ttV (a b : Tn) : Int × Int := okP (ttE a b) (tuV (IntKind.i64.wrap (b.1 - a.1)) (IntKind.i64.wrap (b.2 - a.2)))
theorem coB_bd {c : Tn} (h : coB c = true) : (-45000 ≤ c.1 ∧ c.1 ≤ 45000) ∧ -45000 ≤ c.2 ∧ c.2 ≤ 45000 := by
  unfold coB at h
  rw [Bool.and_eq_true] at h
  exact ⟨within_iff.1 h.1, within_iff.1 h.2⟩
theorem diff_ok {a b : Tn} (ha : coB a = true) (hb : coB b = true) (hne : ¬ (a.1 = b.1 ∧ a.2 = b.2)) : (i64 (IntKind.i64.wrap (b.1 - a.1)) ∧ i64 (IntKind.i64.wrap (b.2 - a.2))) ∧ ¬ gcW (IntKind.i64.wrap (b.1 - a.1)) (IntKind.i64.wrap (b.2 - a.2)) = 0 := by
  have h1 := coB_bd ha
  have h2 := coB_bd hb
  have w1 : IntKind.i64.wrap (b.1 - a.1) = b.1 - a.1 := W_eq (by omega) (by omega)
  have w2 : IntKind.i64.wrap (b.2 - a.2) = b.2 - a.2 := W_eq (by omega) (by omega)
  refine ⟨⟨i64_W _, i64_W _⟩, gcW_pos (by rw [w1]; omega) (by rw [w2]; omega) ?_⟩
  rw [w1, w2]
  intro h; exact hne ⟨by omega, by omega⟩
end Go.Proofs.YtdaliaafmcjikaaGreat
