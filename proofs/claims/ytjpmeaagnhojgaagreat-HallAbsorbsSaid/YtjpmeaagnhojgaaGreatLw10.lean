/- A part of the proof: lemmas. -/
import Derived.Test.YtjpmeaagnhojgaaGreatLw9
import Derived.Test.YtjpmeaagnhojgaaGreatLw7
import Derived.Test.YtjpmeaagnhojgaaGreatSx6
set_option linter.unusedVariables false
set_option linter.unusedSimpArgs false
namespace Go.Proofs.YtjpmeaagnhojgaaGreat
open Go Go.Sx

/-- In a right hall. -/
structure Hal.fine (h : Hal) : Prop where
  nms : h.names = (matsGo 0 [] h.ms).2.2
  le : h.ms.length ≤ 10 ∧ 3 ≤ h.cs.length ∧ h.ws.length = h.cs.length ∧ h.ws.length ≤ 12 ∧ h.ks.length ≤ 4 ∧ h.ss.length ≤ 40
  ht : 2 ≤ h.ht ∧ h.ht ≤ 5000
  mats : ∀ m ∈ h.ms, matErr m = 0
  fl : ∃ m ∈ h.ms, m.nm = h.fl
  ce : ∃ m ∈ h.ms, m.nm = h.ce
  bd : CorOk h.cs
  st : AllStr h.cs
  simple : isSimple h = true
  area : 0 < twArea h
  wal : ∀ i (hi : i < h.ws.length), wErrR h i h.ws[i] = 0
  can : ∀ i (hi : i < h.ks.length), cErrR h i h.ks[i] = 0
  sea : ∀ i (hi : i < h.ss.length), sErrR h i h.ss[i] = 0
theorem fe_zero {x : Int × Int × Int} {l : List (Int × Int × Int)} (h : (firstErr (x :: l)).2.2 = 0) : x.2.2 = 0 ∧ (firstErr l).2.2 = 0 := by
  rw [firstErr] at h
  by_cases c : x.2.2 = 0
  · rw [if_pos c] at h; exact ⟨c, h⟩
  · rw [if_neg c] at h; exact absurd h c
theorem fine_of {h : Hal} (hk : h.ok) (he : h.err = 0) : h.fine := by
  have h0 : (chkR h).2.2 = 0 := by rw [chk_eq hk.f]; exact he
  unfold chkR chkListR at h0
  obtain ⟨z1, h0⟩ := fe_zero h0
  obtain ⟨z2, h0⟩ := fe_zero h0
  obtain ⟨z3, h0⟩ := fe_zero h0
  obtain ⟨z4, h0⟩ := fe_zero h0
  obtain ⟨z5, h0⟩ := fe_zero h0
  obtain ⟨z6, h0⟩ := fe_zero h0
  obtain ⟨z7, h0⟩ := fe_zero h0
  obtain ⟨z8, h0⟩ := fe_zero h0
  obtain ⟨z9, h0⟩ := fe_zero h0
  obtain ⟨z10, h0⟩ := fe_zero h0
  obtain ⟨z11, h0⟩ := fe_zero h0
  obtain ⟨z12, h0⟩ := fe_zero h0
  obtain ⟨z13, h0⟩ := fe_zero h0
  obtain ⟨z14, h0⟩ := fe_zero h0
  obtain ⟨z15, h0⟩ := fe_zero h0
  have z2 := within_iff.1 (unl_zero z2 (by decide))
  have z3 := of_decide_eq_true (unl_zero z3 (by decide))
  have z6 := unl_zero z6 (by decide)
  have z7 := of_decide_eq_true (unl_zero z7 (by decide))
  have z10 := unl_zero z10 (by decide)
  have z11 := of_decide_eq_true (unl_zero z11 (by decide))
  have z12 := of_decide_eq_true (unl_zero z12 (by decide))
  have z14 := of_decide_eq_true (unl_zero z14 (by decide))
  simp only [Bool.and_eq_true, decide_eq_true_eq] at z6
  have hb : CorOk h.cs := corOk_of z8
  have hwc : h.ws.length = h.cs.length := by omega
  have hst : AllStr h.cs := allStr_of hb hwc z9
  have hfl : ¬(matIx h.fl 0 h.ms < 0) ∧ ¬(matIx h.ce 0 h.ms < 0) := by
    change flErrR h = 0 at z5
    unfold flErrR at z5
    split at z5
    · cases z5
    · rename_i hx
      simp only [Bool.or_eq_true, decide_eq_true_eq, not_or] at hx
      exact hx
  refine ⟨rfl, ⟨by omega, by omega, hwc, by omega, by omega, by omega⟩, z2, ?_, ?_, ?_, hb, hst, ?_, by rw [twArea_eq]; exact z11, ?_, ?_, ?_⟩
  · intro m hm
    obtain ⟨i, hi, rfl⟩ := List.mem_iff_getElem.1 hm
    have := fIx_zero (n := h.ms.length) _ 0 rfl z4 i (Nat.zero_le _) hi
    unfold mErrR at this
    rw [List.getElem?_eq_getElem hi] at this
    change mErr h i h.ms[i] = 0 at this
    unfold mErr at this
    unfold matErr
    split at this
    · split at this
      · cases this
      · split at this
        · rename_i hx
          rw [if_pos (by simp only [Bool.and_eq_true] at hx ⊢; simp [hx])]
        · cases this
    · cases this
  · have := mt (matIx_neg h.fl h.ms 0).2 hfl.1; exact Classical.not_not.1 this
  · have := mt (matIx_neg h.ce h.ms 0).2 hfl.2; exact Classical.not_not.1 this
  · rw [simple_eq hst (by omega) hk.f.2.1]; exact z10
  · intro i hi
    have := fIx_zero (n := h.ws.length) _ 0 rfl z9 i (Nat.zero_le _) hi
    unfold waErrR at this
    rw [List.getElem?_eq_getElem hi] at this
    exact this
  · intro i hi
    have := fIx_zero (n := h.ks.length) _ 0 rfl z13 i (Nat.zero_le _) hi
    unfold caErrR at this
    rw [List.getElem?_eq_getElem hi] at this
    exact this
  · intro i hi
    have := fIx_zero (n := h.ss.length) _ 0 rfl z15 i (Nat.zero_le _) hi
    unfold seErrR at this
    rw [List.getElem?_eq_getElem hi] at this
    exact this

/-! ### The program's names of surfaces -/
noncomputable def kS (h : Hal) : PC := ins 76 (one [h.av] ⟨.tup [h.av, I h.err], []⟩) kQ2
theorem kS_ok {h : Hal} (hk : h.ok) : PCOK Tryz.prog (kS h) := one_ok (c76 hk) kQ2_ok
set_option maxRecDepth 100000 in
set_option maxHeartbeats 16000000 in
theorem c64 {h : Hal} (hk : h.ok) : PCall Tryz.prog 64 [h.av] ⟨.tup [.isl 1 (sl (if h.err = 0 then surf h else [])), I h.err], []⟩ := by
  have hkS := kS_ok hk
  by_cases he : h.err = 0
  · have hfi := fine_of hk he
    obtain ⟨_, g2, g3, _⟩ := hfi.le
    have l3 := wa_length h.ws
    have l4 := ca_length h.ks
    obtain ⟨f1, f2, f3, f4, f5, f6⟩ := hk.f
    rw [if_pos he]
    refine PCall.freeze (res := ⟨.tup [.asl 0 0 (sl (surf h)).length, I h.err], [(1, sl (surf h))]⟩) ?_ ⟨⟨rfl, rfl, rfl⟩, ⟨rfl, rfl⟩, trivial⟩
    refine bs.pv (sx := nos) hkS Tryz.func64 (by kernel_rfl) (by kernel_rfl) rfl ?_
    repeat' ((conv => whnf); (fail_if_success with_reducible refine Stop.go ?_); first | with_reducible refine wkA ?_ | ((with_reducible refine wkS ?_ ?_); · exact wkU) | ((with_reducible refine wkY ?_ ?_); · omega) | ((with_reducible refine wkN ?_ ?_); · omega) | ((with_reducible refine wkQ ?_ ?_); · omega) | ((with_reducible refine wkR ?_ ?_); · omega) | with_reducible refine wkB (fun _ => ?_) (fun _ => ?_) | refine Got.intro (by assumption) ?_ | refine Got.intro (asr_of (by assumption)) ?_ | refine Got.intro (one_hit _ _) ?_ | with_reducible refine Ap.new ?_); all_goals (conv => whnf)
    refine Lp.ren (env2 := [(4, .ptr 1 0 0), (6, .nils), (21, .isl 3 (h.ws.map Wal.av)), (22, I (h.ws.map Wal.av).length), (23, I 0)]) (σ2 := ⟨[(1, .row 9 [h.cells] true false)], 3⟩) (Ren.of [] rfl (by (repeat' (first | exact trivial | refine And.intro ?_ ?_ | exact rfl | exact ⟨_, rfl, rfl, rfl⟩))) (by (repeat' (first | exact trivial | refine And.intro ?_ ?_ | exact rfl | exact ⟨_, rfl, rfl, rfl⟩)))) ?_
    refine loopV (S := Nat × Int × Nat × List (List AV)) (fun t => h.ws.length - t.1) (fun t => [(4, .ptr 1 0 0), (6, gv 3 t.1 t.2.2.1), (21, .isl 3 (h.ws.map Wal.av)), (22, I (h.ws.map Wal.av).length), (23, I t.2.1)]) (fun t => gz 3 1 t.1 t.2.2.2 [(1, .row 9 [h.cells] true false)]) 3 4
      (fun t => t.2.1 = t.1 ∧ t.1 ≤ h.ws.length ∧ t.2.2.1 = t.2.2.2.length ∧ t.2.2.2 = sl ((wNames h).take t.1)) (0, 0, 0, []) ⟨rfl, Nat.zero_le _, rfl, rfl⟩ (Nat.le_refl _) [] rfl (by (repeat' (first | exact trivial | refine And.intro ?_ ?_ | exact rfl | exact ⟨_, rfl, rfl, rfl⟩))) (by (repeat' (first | exact trivial | refine And.intro ?_ ?_ | exact rfl | exact ⟨_, rfl, rfl, rfl⟩))) ?_
    rintro ⟨k, i, len, els⟩ ⟨hi, hk, hlen, hels⟩
    dsimp only at hi hk hlen hels ⊢
    subst hi
    refine bs.av (sx := nos) hkS ?_
    have e4 : els.length < 2000 := by rw [hels, sl_length, List.length_take]; omega
    by_cases hlt : k < h.ws.length
    · have e1 := wa_get hlt
      have e3 := wN_take hlt
      cases k with
      | zero =>
        repeat' ((conv => whnf); (fail_if_success with_reducible refine Stop.go ?_); first | with_reducible refine wkA ?_ | ((with_reducible refine wkS ?_ ?_); · exact wkU) | ((with_reducible refine wkY ?_ ?_); · omega) | ((with_reducible refine wkN ?_ ?_); · omega) | ((with_reducible refine wkQ ?_ ?_); · omega) | ((with_reducible refine wkR ?_ ?_); · omega) | with_reducible refine wkB (fun _ => ?_) (fun _ => ?_) | refine Got.intro (by assumption) ?_ | refine Got.intro (asr_of (by assumption)) ?_ | refine Got.intro (one_hit _ _) ?_ | with_reducible refine Ap.new ?_); all_goals (conv => whnf)
        exact Done.mk ⟨(1, _, _, _), [(3, 6)], rfl, by (repeat' (first | exact trivial | refine And.intro ?_ ?_ | exact rfl | exact ⟨_, rfl, rfl, rfl⟩)), by (repeat' (first | exact trivial | refine And.intro ?_ ?_ | exact rfl | exact ⟨_, rfl, rfl, rfl⟩)), ⟨W_succ (k := 0) (by omega), hlt, rfl, e3.symm⟩, by dsimp only; omega⟩
      | succ k =>
        repeat' ((conv => whnf); (fail_if_success with_reducible refine Stop.go ?_); first | with_reducible refine wkA ?_ | ((with_reducible refine wkS ?_ ?_); · exact wkU) | ((with_reducible refine wkY ?_ ?_); · omega) | ((with_reducible refine wkN ?_ ?_); · omega) | ((with_reducible refine wkQ ?_ ?_); · omega) | ((with_reducible refine wkR ?_ ?_); · omega) | with_reducible refine wkB (fun _ => ?_) (fun _ => ?_) | refine Got.intro (by assumption) ?_ | refine Got.intro (asr_of (by assumption)) ?_ | refine Got.intro (one_hit _ _) ?_ | with_reducible refine Ap.new ?_); all_goals (conv => whnf)
        exact Done.mk ⟨(k + 1 + 1, _, _, _), [(3, 6)], rfl, by (repeat' (first | exact trivial | refine And.intro ?_ ?_ | exact rfl | exact ⟨_, rfl, rfl, rfl⟩)), by (repeat' (first | exact trivial | refine And.intro ?_ ?_ | exact rfl | exact ⟨_, rfl, rfl, rfl⟩)), ⟨W_succ (k := k + 1) (by omega), hlt, by exact List.length_append.symm, by show _ = sl _; rw [e3, ← hels]; rfl⟩, by dsimp only; omega⟩
    rw [List.take_of_length_le (by simp [wNames]; omega)] at hels
    cases k with
    | zero => exfalso; omega
    | succ k =>
    repeat' ((conv => whnf); (fail_if_success with_reducible refine Stop.go ?_); first | with_reducible refine wkA ?_ | ((with_reducible refine wkS ?_ ?_); · exact wkU) | ((with_reducible refine wkY ?_ ?_); · omega) | ((with_reducible refine wkN ?_ ?_); · omega) | ((with_reducible refine wkQ ?_ ?_); · omega) | ((with_reducible refine wkR ?_ ?_); · omega) | with_reducible refine wkB (fun _ => ?_) (fun _ => ?_) | refine Got.intro (by assumption) ?_ | refine Got.intro (asr_of (by assumption)) ?_ | refine Got.intro (one_hit _ _) ?_ | with_reducible refine Ap.new ?_); all_goals (conv => whnf)
    clear hlt
    refine loopV (S := Nat × Int × Nat × List (List AV)) (fun t => h.ks.length - t.1) (fun t => [(6, .asl (nm2 5 6 t.1) 0 t.2.2.1), (38, .isl 7 (h.ks.map Can.av)), (39, I (h.ks.map Can.av).length), (40, I t.2.1)]) (fun t => [(nm2 5 6 t.1, .row 1 t.2.2.2 true true)]) 6 7
      (fun t => t.2.1 = t.1 ∧ t.1 ≤ h.ks.length ∧ t.2.2.1 = t.2.2.2.length ∧ t.2.2.2 = els ++ [[.str floorS], [.str ceilS]] ++ sl ((kNames h).take t.1)) (0, 0, els.length + 2, els ++ [[.str floorS], [.str ceilS]]) ⟨rfl, Nat.zero_le _, by simp, by simp [sl]⟩ (Nat.le_refl _) [] rfl (by (repeat' (first | exact trivial | refine And.intro ?_ ?_ | exact rfl | exact ⟨_, rfl, rfl, rfl⟩))) (by (repeat' (first | exact trivial | refine And.intro ?_ ?_ | exact rfl | exact ⟨_, rfl, rfl, rfl⟩))) ?_
    rintro ⟨k2, i, len2, els2⟩ ⟨hi, hk2, hlen2, hels2⟩
    dsimp only at hi hk2 hlen2 hels2 ⊢
    subst hi
    refine bs.av (sx := nos) hkS ?_
    have e5 : els2.length < 4000 := by rw [hels2, List.length_append, sl_length, List.length_take, List.length_append]; simp; omega
    by_cases hlt : k2 < h.ks.length
    · have e1 := ca_get hlt
      have e3 := kN_take hlt
      cases k2 with
      | zero =>
        repeat' ((conv => whnf); (fail_if_success with_reducible refine Stop.go ?_); first | with_reducible refine wkA ?_ | ((with_reducible refine wkS ?_ ?_); · exact wkU) | ((with_reducible refine wkY ?_ ?_); · omega) | ((with_reducible refine wkN ?_ ?_); · omega) | ((with_reducible refine wkQ ?_ ?_); · omega) | ((with_reducible refine wkR ?_ ?_); · omega) | with_reducible refine wkB (fun _ => ?_) (fun _ => ?_) | refine Got.intro (by assumption) ?_ | refine Got.intro (asr_of (by assumption)) ?_ | refine Got.intro (one_hit _ _) ?_ | with_reducible refine Ap.new ?_); all_goals (conv => whnf)
        exact Done.mk ⟨(1, _, _, _), [(6, 9)], rfl, by (repeat' (first | exact trivial | refine And.intro ?_ ?_ | exact rfl | exact ⟨_, rfl, rfl, rfl⟩)), by (repeat' (first | exact trivial | refine And.intro ?_ ?_ | exact rfl | exact ⟨_, rfl, rfl, rfl⟩)), ⟨W_succ (k := 0) (by omega), hlt, by exact List.length_append.symm, by show _ = _; rw [e3, ← List.append_assoc, ← hels2]; rfl⟩, by dsimp only; omega⟩
      | succ k2 =>
        repeat' ((conv => whnf); (fail_if_success with_reducible refine Stop.go ?_); first | with_reducible refine wkA ?_ | ((with_reducible refine wkS ?_ ?_); · exact wkU) | ((with_reducible refine wkY ?_ ?_); · omega) | ((with_reducible refine wkN ?_ ?_); · omega) | ((with_reducible refine wkQ ?_ ?_); · omega) | ((with_reducible refine wkR ?_ ?_); · omega) | with_reducible refine wkB (fun _ => ?_) (fun _ => ?_) | refine Got.intro (by assumption) ?_ | refine Got.intro (asr_of (by assumption)) ?_ | refine Got.intro (one_hit _ _) ?_ | with_reducible refine Ap.new ?_); all_goals (conv => whnf)
        exact Done.mk ⟨(k2 + 1 + 1, _, _, _), [(6, 9)], rfl, by (repeat' (first | exact trivial | refine And.intro ?_ ?_ | exact rfl | exact ⟨_, rfl, rfl, rfl⟩)), by (repeat' (first | exact trivial | refine And.intro ?_ ?_ | exact rfl | exact ⟨_, rfl, rfl, rfl⟩)), ⟨W_succ (k := k2 + 1) (by omega), hlt, by exact List.length_append.symm, by show _ = _; rw [e3, ← List.append_assoc, ← hels2]; rfl⟩, by dsimp only; omega⟩
    rw [List.take_of_length_le (by simp [kNames]; omega)] at hels2
    have hfin : els2 = sl (surf h) := by rw [hels2, hels]; unfold surf; rw [sl_append, sl_append]; rfl
    subst hfin
    subst hlen2
    rw [he]
    cases k2 with
    | zero =>
      repeat' ((conv => whnf); (fail_if_success with_reducible refine Stop.go ?_); first | with_reducible refine wkA ?_ | ((with_reducible refine wkS ?_ ?_); · exact wkU) | ((with_reducible refine wkY ?_ ?_); · omega) | ((with_reducible refine wkN ?_ ?_); · omega) | ((with_reducible refine wkQ ?_ ?_); · omega) | ((with_reducible refine wkR ?_ ?_); · omega) | with_reducible refine wkB (fun _ => ?_) (fun _ => ?_) | refine Got.intro (by assumption) ?_ | refine Got.intro (asr_of (by assumption)) ?_ | refine Got.intro (one_hit _ _) ?_ | with_reducible refine Ap.new ?_); all_goals (conv => whnf)
      exact ret_rows [5] rfl rfl rfl
    | succ k2 =>
      repeat' ((conv => whnf); (fail_if_success with_reducible refine Stop.go ?_); first | with_reducible refine wkA ?_ | ((with_reducible refine wkS ?_ ?_); · exact wkU) | ((with_reducible refine wkY ?_ ?_); · omega) | ((with_reducible refine wkN ?_ ?_); · omega) | ((with_reducible refine wkQ ?_ ?_); · omega) | ((with_reducible refine wkR ?_ ?_); · omega) | with_reducible refine wkB (fun _ => ?_) (fun _ => ?_) | refine Got.intro (by assumption) ?_ | refine Got.intro (asr_of (by assumption)) ?_ | refine Got.intro (one_hit _ _) ?_ | with_reducible refine Ap.new ?_); all_goals (conv => whnf)
      exact ret_rows [6] rfl rfl rfl
  · rw [if_neg he]
    refine PCall.freeze (res := ⟨.tup [.nils, I h.err], []⟩) ?_ ⟨rfl, ⟨rfl, rfl⟩, trivial⟩
    refine bs.pv (sx := nos) hkS Tryz.func64 (by kernel_rfl) (by kernel_rfl) rfl ?_
    repeat' ((conv => whnf); (fail_if_success with_reducible refine Stop.go ?_); first | with_reducible refine wkA ?_ | ((with_reducible refine wkS ?_ ?_); · exact wkU) | ((with_reducible refine wkY ?_ ?_); · omega) | ((with_reducible refine wkN ?_ ?_); · omega) | ((with_reducible refine wkQ ?_ ?_); · omega) | ((with_reducible refine wkR ?_ ?_); · omega) | with_reducible refine wkB (fun _ => ?_) (fun _ => ?_) | refine Got.intro (by assumption) ?_ | refine Got.intro (asr_of (by assumption)) ?_ | refine Got.intro (one_hit _ _) ?_ | with_reducible refine Ap.new ?_); all_goals (conv => whnf)
    exact ret_of rfl rfl
end Go.Proofs.YtjpmeaagnhojgaaGreat
namespace Go.Proofs.YtjpmeaagnhojgaaGreat
open Go Go.Sx

def r17 : List AV → Option PRes
  | [] => some ⟨Bo true, []⟩
  | _ => none
def r33 : List AV → Option PRes
  | [.agg [.int .i64 k, .int .i64 a], .agg [.int .i64 x, .int .i64 y, .int .i64 z]] => some ⟨.tup [P3 (rmirP k a x y z).1 (rmirP k a x y z).2.1 (rmirP k a x y z).2.2, I (rmirErr k a x y z)], []⟩
  | _ => none
def r34 : List AV → Option PRes
  | [.agg [.int .i64 x, .int .i64 y, .int .i64 z], .agg [.int .i64 u, .int .i64 v, .int .i64 w]] => some ⟨I (square x y z u v w), []⟩
  | _ => none
def r35 : List AV → Option PRes
  | [.agg [.int .i64 k, .int .i64 a], .agg [.int .i64 x, .int .i64 y, .int .i64 z, .int .i64 d]] => asr (decide (0 ≤ k ∧ k < 5)) ⟨I (off k a x y z d), []⟩
  | _ => none
def r36 : List AV → Option PRes
  | [.agg [.int .i64 x, .int .i64 y, .int .i64 z]] => some ⟨P4 x y z 1, []⟩
  | _ => none
def k5 : PC := ins 17 r17 (ins 33 r33 (ins 34 r34 (ins 35 r35 (ins 36 r36 k96))))
theorem k5_ok : PCOK Tryz.prog k5 := by
  refine ins_ok (fun a res h => ?_) (ins_ok (fun a res h => ?_) (ins_ok (fun a res h => ?_) (ins_ok (fun a res h => ?_) (ins_ok (fun a res h => ?_) k96_ok))))
  · unfold r17 at h; split at h <;> cases h; exact awake_ok
  · unfold r33 at h; split at h <;> cases h; exact c33 _ _ _ _ _
  · unfold r34 at h; split at h <;> cases h; exact c34 _ _ _ _ _ _
  · unfold r35 at h; split at h
    · obtain ⟨h1, rfl⟩ := asr_some h
      have := of_decide_eq_true h1
      exact c35 _ _ _ _ _ this.1 this.2
    · cases h
  · unfold r36 at h; split at h <;> cases h; exact c36 _ _ _

theorem bo_true {b : Bool} {σ : St} (h : b = true) : Ret ⟨Bo true, []⟩ (.bool b) σ := ret_bool h

set_option maxHeartbeats 1000000 in
set_option maxRecDepth 100000 in
theorem c5a {k a x y z u v w : Int} (h1 : rmirErr k a x y z = 0) (h2 : rmirErr k a u v w = 0) : PCall Tryz.prog 5 [P2 k a, P3 x y z, P3 u v w] ⟨Bo true, []⟩ := by
  have hk : 0 ≤ k ∧ k < 5 := by have := (rmirErr_zero h1).1; omega
  have e1 := (mirErr_eq k a x y z).trans h1
  have e2 := (mirErr_eq k a u v w).trans h2
  have e3 := mirP_eq k a x y z
  have e4 := mirP_eq k a u v w
  have p1 : rmirP k a x y z = rmir k a x y z := by simp [rmirP, h1]
  have p2 : rmirP k a u v w = rmir k a u v w := by simp [rmirP, h2]
  have q1 := rmir_square h1 h2
  have q2 := rmir_off h1
  obtain ⟨b1, b2⟩ := rmir_back h1
  have b3 := (mirErr_eq k a (rmir k a x y z).1 (rmir k a x y z).2.1 (rmir k a x y z).2.2).trans b1
  have b4 : mirP k a (rmir k a x y z).1 (rmir k a x y z).2.1 (rmir k a x y z).2.2 = (x, y, z) := by rw [mirP_eq]; simp [rmirP, b1, b2]
  refine bs.pv (sx := nos) k5_ok Tryz.func5 (by kernel_rfl) (by kernel_rfl) rfl ?_
  repeat' ((conv => whnf); (fail_if_success with_reducible refine Ret.mk ?_); first | with_reducible refine And.intro (by kernel_rfl) ?_ | refine Br.intro (fun _ => ?_) (fun _ => ?_) | refine Got.intro (asr_of hk) ?_)
  all_goals refine bo_true ?_
  all_goals simp_all [Prod.ext_iff]
set_option maxHeartbeats 1000000 in
set_option maxRecDepth 100000 in
theorem c5b {k a x y z u v w : Int} (h1 : rmirErr k a x y z ≠ 0 ∨ rmirErr k a u v w ≠ 0) : PCall Tryz.prog 5 [P2 k a, P3 x y z, P3 u v w] ⟨Bo true, []⟩ := by
  have e1 := mirErr_eq k a x y z
  have e2 := mirErr_eq k a u v w
  have e3 := mirP_eq k a x y z
  have e4 := mirP_eq k a u v w
  refine bs.pv (sx := nos) k5_ok Tryz.func5 (by kernel_rfl) (by kernel_rfl) rfl ?_
  repeat' ((conv => whnf); (fail_if_success with_reducible refine Ret.mk ?_); first | with_reducible refine And.intro (by kernel_rfl) ?_ | refine Br.intro (fun _ => ?_) (fun _ => ?_))
  all_goals first | refine bo_true ?_ | exfalso
  all_goals simp_all
theorem c5 (k a x y z u v w : Int) : PCall Tryz.prog 5 [P2 k a, P3 x y z, P3 u v w] ⟨Bo true, []⟩ := by
  by_cases h1 : rmirErr k a x y z = 0
  · by_cases h2 : rmirErr k a u v w = 0
    · exact c5a h1 h2
    · exact c5b (.inr h2)
  · exact c5b (.inl h1)
end Go.Proofs.YtjpmeaagnhojgaaGreat
namespace Go.Proofs.YtjpmeaagnhojgaaGreat
open Go Go.Sx

theorem bytes_ne_self {s : ByteArray} : (!(s == s)) = false := by rw [bytes_beq]; rfl
set_option maxRecDepth 100000 in
set_option maxHeartbeats 16000000 in
theorem c66 {l : List ByteArray} (hl : l.length < 1000000) : PCall Tryz.prog 66 [.isl 1 (sl l), .isl 1 (sl l)] ⟨Bo true, []⟩ := by
  have e3 := sl_length l
  refine bs.pv (sx := nos) pt0_ok Tryz.func66 (by kernel_rfl) (by kernel_rfl) rfl ?_
  repeat' ((conv => whnf); (fail_if_success with_reducible refine Stop.go ?_); first | with_reducible refine wkA ?_ | ((with_reducible refine wkS ?_ ?_); · exact wkU) | ((with_reducible refine wkY ?_ ?_); · omega) | ((with_reducible refine wkN ?_ ?_); · omega) | ((with_reducible refine wkQ ?_ ?_); · omega) | ((with_reducible refine wkR ?_ ?_); · omega) | with_reducible refine wkB (fun _ => ?_) (fun _ => ?_) | refine Got.intro (by assumption) ?_ | refine Got.intro (asr_of (by assumption)) ?_ | refine Got.intro (one_hit _ _) ?_ | with_reducible refine Ap.new ?_); all_goals (conv => whnf)
  refine loopV (S := Nat × Int) (fun t => l.length - t.1) (fun t => [(0, .isl 1 (sl l)), (1, .isl 1 (sl l)), (5, I t.2)]) (fun _ => []) 0 0 (fun t => t.2 = t.1 ∧ t.1 ≤ l.length) (0, 0) ⟨rfl, Nat.zero_le _⟩ (Nat.le_refl _) [] rfl (by (repeat' (first | exact trivial | refine And.intro ?_ ?_ | exact rfl | exact ⟨_, rfl, rfl, rfl⟩))) (by (repeat' (first | exact trivial | refine And.intro ?_ ?_ | exact rfl | exact ⟨_, rfl, rfl, rfl⟩))) ?_
  rintro ⟨k, i⟩ ⟨hi, hk⟩
  dsimp only at hi hk ⊢
  subst hi
  refine bs.av (sx := nos) pt0_ok ?_
  by_cases hlt : k < l.length
  · have e1 := sl_get hlt
    have e2 := bytes_beq l[k]
    repeat' ((conv => whnf); (fail_if_success with_reducible refine Stop.go ?_); first | with_reducible refine wkA ?_ | ((with_reducible refine wkS ?_ ?_); · exact wkU) | ((with_reducible refine wkY ?_ ?_); · omega) | ((with_reducible refine wkN ?_ ?_); · omega) | ((with_reducible refine wkQ ?_ ?_); · omega) | ((with_reducible refine wkR ?_ ?_); · omega) | with_reducible refine wkB (fun _ => ?_) (fun _ => ?_) | refine Got.intro (by assumption) ?_ | refine Got.intro (asr_of (by assumption)) ?_ | refine Got.intro (one_hit _ _) ?_ | with_reducible refine Ap.new ?_); all_goals (conv => whnf)
    · rename_i hx; rw [e2] at hx; cases hx
    · exact Done.mk ⟨(k + 1, _), [], rfl, by (repeat' (first | exact trivial | refine And.intro ?_ ?_ | exact rfl | exact ⟨_, rfl, rfl, rfl⟩)), by (repeat' (first | exact trivial | refine And.intro ?_ ?_ | exact rfl | exact ⟨_, rfl, rfl, rfl⟩)), ⟨W_succ (by omega), hlt⟩, by dsimp only; omega⟩
  repeat' ((conv => whnf); (fail_if_success with_reducible refine Stop.go ?_); first | with_reducible refine wkA ?_ | ((with_reducible refine wkS ?_ ?_); · exact wkU) | ((with_reducible refine wkY ?_ ?_); · omega) | ((with_reducible refine wkN ?_ ?_); · omega) | ((with_reducible refine wkQ ?_ ?_); · omega) | ((with_reducible refine wkR ?_ ?_); · omega) | with_reducible refine wkB (fun _ => ?_) (fun _ => ?_) | refine Got.intro (by assumption) ?_ | refine Got.intro (asr_of (by assumption)) ?_ | refine Got.intro (one_hit _ _) ?_ | with_reducible refine Ap.new ?_); all_goals (conv => whnf)
  exact ret_bool rfl

/-! ### HallChecks -/
noncomputable def kL (h : Hal) : PC := ins 17 r17 (ins 18 (one [h.av] ⟨Bo (fewB h), []⟩) (ins 22 (one [h.av] ⟨h.av, []⟩) (kE h)))
theorem kL_ok {h : Hal} (hk : h.ok) : PCOK Tryz.prog (kL h) := by
  refine ins_ok (fun a res h => ?_) (one_ok (c18 h) (one_ok (c22f hk.f) (kE_ok hk)))
  unfold r17 at h; split at h <;> cases h; exact awake_ok
noncomputable def kN (h : Hal) : PC := ins 17 r17 (ins 18 (one [h.av] ⟨Bo (fewB h), []⟩) pt0)
theorem kN_ok (h : Hal) : PCOK Tryz.prog (kN h) := by
  refine ins_ok (fun a res h => ?_) (one_ok (c18 h) pt0_ok)
  unfold r17 at h; split at h <;> cases h; exact awake_ok
noncomputable def k15 (h : Hal) : PC := ins 64 (one [h.av] ⟨.tup [.isl 1 (sl (if h.err = 0 then surf h else [])), I h.err], []⟩) (ins 67 (one [h.av] ⟨.isl 1 (sl (surf h)), []⟩) (ins 66 (one [.isl 1 (sl (surf h)), .isl 1 (sl (surf h))] ⟨Bo true, []⟩) (kL h)))
set_option maxRecDepth 100000 in
set_option maxHeartbeats 16000000 in
theorem c15 (h : Hal) : PCall Tryz.prog 15 [h.av] ⟨Bo true, []⟩ := by
  by_cases hb : fewB h = true
  · have hk := few_ok hb
    by_cases he : h.err = 0
    · have hfi := fine_of hk he
      have hl : (surf h).length < 1000000 := by
        have := hfi.le
        have := hk.f.2.2.2.1
        simp [surf, wNames, kNames]; omega
      have hk15 : PCOK Tryz.prog (k15 h) := one_ok (c64 hk) (one_ok (c67 hk.f (by have := hfi.le; omega)) (one_ok (c66 hl) (kL_ok hk)))
      unfold k15 at hk15
      rw [if_pos he, he] at hk15
      refine bs.pv (sx := nos) hk15 Tryz.func15 (by kernel_rfl) (by kernel_rfl) rfl ?_
      repeat' ((conv => whnf); (fail_if_success with_reducible refine Stop.go ?_); first | with_reducible refine wkA ?_ | ((with_reducible refine wkS ?_ ?_); · exact wkU) | ((with_reducible refine wkY ?_ ?_); · omega) | ((with_reducible refine wkN ?_ ?_); · omega) | ((with_reducible refine wkQ ?_ ?_); · omega) | ((with_reducible refine wkR ?_ ?_); · omega) | with_reducible refine wkB (fun _ => ?_) (fun _ => ?_) | refine Got.intro (by assumption) ?_ | refine Got.intro (asr_of (by assumption)) ?_ | refine Got.intro (one_hit _ _) ?_ | with_reducible refine Ap.new ?_); all_goals (conv => whnf)
      clear hk15
      all_goals first
        | exact ret_bool rfl
        | (exfalso; simp_all; done)
    · have hk15 : PCOK Tryz.prog (ins 64 (one [h.av] ⟨.tup [.isl 1 (sl (if h.err = 0 then surf h else [])), I h.err], []⟩) (kL h)) := one_ok (c64 hk) (kL_ok hk)
      rw [if_neg he] at hk15
      refine bs.pv (sx := nos) hk15 Tryz.func15 (by kernel_rfl) (by kernel_rfl) rfl ?_
      repeat' ((conv => whnf); (fail_if_success with_reducible refine Stop.go ?_); first | with_reducible refine wkA ?_ | ((with_reducible refine wkS ?_ ?_); · exact wkU) | ((with_reducible refine wkY ?_ ?_); · omega) | ((with_reducible refine wkN ?_ ?_); · omega) | ((with_reducible refine wkQ ?_ ?_); · omega) | ((with_reducible refine wkR ?_ ?_); · omega) | with_reducible refine wkB (fun _ => ?_) (fun _ => ?_) | refine Got.intro (by assumption) ?_ | refine Got.intro (asr_of (by assumption)) ?_ | refine Got.intro (one_hit _ _) ?_ | with_reducible refine Ap.new ?_); all_goals (conv => whnf)
      clear hk15
      all_goals first
        | exact ret_bool rfl
        | (exfalso; simp_all; done)
  · refine bs.pv (sx := nos) (kN_ok h) Tryz.func15 (by kernel_rfl) (by kernel_rfl) rfl ?_
    repeat' ((conv => whnf); (fail_if_success with_reducible refine Stop.go ?_); first | with_reducible refine wkA ?_ | ((with_reducible refine wkS ?_ ?_); · exact wkU) | ((with_reducible refine wkY ?_ ?_); · omega) | ((with_reducible refine wkN ?_ ?_); · omega) | ((with_reducible refine wkQ ?_ ?_); · omega) | ((with_reducible refine wkR ?_ ?_); · omega) | with_reducible refine wkB (fun _ => ?_) (fun _ => ?_) | refine Got.intro (by assumption) ?_ | refine Got.intro (asr_of (by assumption)) ?_ | refine Got.intro (one_hit _ _) ?_ | with_reducible refine Ap.new ?_); all_goals (conv => whnf)
    all_goals first
      | exact ret_bool rfl
      | (exfalso; simp_all; done)
end Go.Proofs.YtjpmeaagnhojgaaGreat
namespace Go.Proofs.YtjpmeaagnhojgaaGreat
open Go Go.Sx

/-! ### Copies of settings; short settings -/
set_option maxHeartbeats 4000000 in
theorem c29 {s : Stg} (hs : s.few) : PCall Tryz.prog 29 [s.av] ⟨s.av, []⟩ := by
  have e1 := cints_hit (ns := s.hs) (by have := hs.1; omega)
  have e2 := cints_hit (ns := s.dr) (by have := hs.2; omega)
  refine bs.pv (sx := nos) kQ2_ok Tryz.func29 (by kernel_rfl) (by kernel_rfl) rfl ?_
  repeat' ((conv => whnf); (fail_if_success with_reducible refine Stop.go ?_); first | with_reducible refine wkA ?_ | ((with_reducible refine wkS ?_ ?_); · exact wkU) | with_reducible refine wkB (fun _ => ?_) (fun _ => ?_) | refine Got.intro (by assumption) ?_ | refine Got.intro (asr_of (by assumption)) ?_ | refine Got.intro (one_hit _ _) ?_ | with_reducible refine Ap.new ?_); all_goals (conv => whnf)
  exact ret_of rfl rfl
def shortB (s : Stg) : Bool := decide ((s.hs.length : Int) ≤ 6) && decide ((s.dr.length : Int) ≤ 15)
theorem c19 (s : Stg) : PCall Tryz.prog 19 [s.av] ⟨Bo (shortB s), []⟩ := by
  have l1 := nl_length s.hs
  have l2 := nl_length s.dr
  have e : shortB s = (decide (((nl s.hs).length : Int) ≤ 6) && decide (((nl s.dr).length : Int) ≤ 15)) := by unfold shortB; rw [l1, l2]
  rw [e]
  refine bs.pv (sx := nos) pt0_ok Tryz.func19 (by kernel_rfl) (by kernel_rfl) rfl ?_
  repeat' ((conv => whnf); (fail_if_success with_reducible refine Stop.go ?_); first | with_reducible refine wkA ?_ | ((with_reducible refine wkS ?_ ?_); · exact wkU) | with_reducible refine wkB (fun _ => ?_) (fun _ => ?_) | refine Got.intro (by assumption) ?_ | refine Got.intro (asr_of (by assumption)) ?_ | refine Got.intro (one_hit _ _) ?_ | with_reducible refine Ap.new ?_); all_goals (conv => whnf)
  all_goals exact ret_bool (by clear l1 l2 e; simp_all <;> omega)
theorem short_few {s : Stg} (h : shortB s = true) : s.few := by
  unfold shortB at h
  simp only [Bool.and_eq_true, decide_eq_true_eq] at h
  exact ⟨by omega, by omega⟩

/-! ### What a right setting is -/
structure SetOk (h : Hal) (s : Stg) : Prop where
  len : s.hs.length = h.ks.length
  hs : ∀ j (h1 : j < h.ks.length) (h2 : j < s.hs.length), 0 ≤ s.hs[j] ∧ s.hs[j] < h.ks[j].hs.length
  dr : ∀ d ∈ s.dr, 0 ≤ d ∧ d < h.ws.length ∧ curt h d ≠ ⟨#[]⟩
  up : s.dr.Pairwise (· < ·)
theorem hgE_zero {h : Hal} (hf : h.few) : ∀ (l : List Int) (i : Nat), hgE h i l = 0 → ∀ j (h1 : i + j < h.ks.length) (h2 : j < l.length), 0 ≤ l[j] ∧ l[j] < h.ks[i + j].hs.length
  | [], i, _, j, _, h2 => by simp at h2
  | n :: l, i, h0, j, h1, h2 => by
    rw [hgE] at h0
    split at h0
    · rename_i hw
      cases j with
      | zero =>
        have hk : i < h.ks.length := by omega
        have hl := hf.2.2.2.2.2 _ (List.getElem_mem hk)
        rw [show kLen h i = (h.ks[i].hs.length : Int) by unfold kLen; rw [List.getElem?_eq_getElem hk], W_eq (by omega) (by omega)] at hw
        have hw := within_iff.1 hw
        simp only [List.getElem_cons_zero, Nat.add_zero]
        omega
      | succ j =>
        have := hgE_zero hf l (i + 1) h0 j (by omega) (by simpa using h2)
        simp only [List.getElem_cons_succ]
        have e : i + 1 + j = i + (j + 1) := by omega
        simp only [e] at this
        exact this
    · cases h0
theorem drE_zero {h : Hal} (hf : h.few) : ∀ (l : List Int) (p : Option Int), drE h p l = 0 → (∀ d ∈ l, (0 ≤ d ∧ d < h.ws.length ∧ curt h d ≠ ⟨#[]⟩) ∧ (∀ q, p = some q → q < d)) ∧ l.Pairwise (· < ·)
  | [], p, _ => ⟨by simp, .nil⟩
  | n :: l, p, h0 => by
    rw [drE] at h0
    split at h0
    · rename_i ho
      split at h0
      · cases h0
      · rename_i hn
        obtain ⟨g1, g2⟩ := drE_zero hf l (some n) h0
        have hl := hf.2.2.1
        unfold drOk at ho
        rw [Bool.and_eq_true, W_eq (by omega) (by omega), within_iff, Bool.not_eq_true', beq_ba, decide_eq_false_iff_not] at ho
        have hp : ∀ q, p = some q → q < n := by
          rintro q rfl
          simp only [notUp, decide_eq_true_eq] at hn
          omega
        refine ⟨fun d hd => ?_, List.pairwise_cons.2 ⟨fun d hd => (g1 d hd).2 n rfl, g2⟩⟩
        rcases List.mem_cons.1 hd with rfl | hd
        · exact ⟨⟨by omega, by omega, ho.2⟩, hp⟩
        · refine ⟨(g1 d hd).1, fun q hq => ?_⟩
          have := (g1 d hd).2 n rfl
          have := hp q hq
          omega
    · cases h0
theorem setE_ok {h : Hal} (hf : h.few) {s : Stg} (h0 : setE h s = 0) : SetOk h s := by
  unfold setE at h0
  split at h0
  · rename_i hl
    split at h0
    · rename_i hg
      obtain ⟨g1, g2⟩ := drE_zero hf s.dr none h0
      refine ⟨by omega, fun j h1 h2 => ?_, fun d hd => (g1 d hd).1, g2⟩
      have := hgE_zero hf s.hs 0 hg j (by omega) h2
      simpa using this
    · rename_i hg; exact absurd h0 hg
  · cases h0

/-! ### Surfaces -/
def nsur (h : Hal) : Int := (h.ws.length : Int) + 2 + h.ks.length
def surE (h : Hal) (s : Stg) (i : Int) : Int := if serr h s = 0 then (if within i 0 (nsur h - 1) then 0 else 6) else serr h s
theorem c172 {h : Hal} (s : Stg) : PCall Tryz.prog 172 [.agg (stgL h s)] ⟨I (h.ws.length : Int), []⟩ := by
  have l := wa_length h.ws
  refine bs.pv (sx := nos) pt0_ok Tryz.func172 (by kernel_rfl) (by kernel_rfl) rfl ?_
  repeat' ((conv => whnf); (fail_if_success with_reducible refine Stop.go ?_); first | with_reducible refine wkA ?_ | ((with_reducible refine wkS ?_ ?_); · exact wkU) | with_reducible refine wkB (fun _ => ?_) (fun _ => ?_) | refine Got.intro (by assumption) ?_ | refine Got.intro (asr_of (by assumption)) ?_ | refine Got.intro (one_hit _ _) ?_ | with_reducible refine Ap.new ?_); all_goals (conv => whnf)
  exact ret_int (by omega)
theorem c173 {h : Hal} (hf : h.few) (s : Stg) : PCall Tryz.prog 173 [.agg (stgL h s)] ⟨I ((h.ws.length : Int) + 1), []⟩ := by
  have l := wa_length h.ws
  refine bs.pv (sx := nos) pt0_ok Tryz.func173 (by kernel_rfl) (by kernel_rfl) rfl ?_
  repeat' ((conv => whnf); (fail_if_success with_reducible refine Stop.go ?_); first | with_reducible refine wkA ?_ | ((with_reducible refine wkS ?_ ?_); · exact wkU) | with_reducible refine wkB (fun _ => ?_) (fun _ => ?_) | refine Got.intro (by assumption) ?_ | refine Got.intro (asr_of (by assumption)) ?_ | refine Got.intro (one_hit _ _) ?_ | with_reducible refine Ap.new ?_); all_goals (conv => whnf)
  exact ret_int (by show IntKind.i64.wrap (((h.ws.map Wal.av).length : Int) + 1) = _; have := hf.2.2.1; rw [W_eq (by omega) (by omega)]; omega)
theorem c84 {h : Hal} (hf : h.few) (s : Stg) : PCall Tryz.prog 84 [.agg (stgL h s)] ⟨I (nsur h), []⟩ := by
  have l := wa_length h.ws
  have l2 := ca_length h.ks
  refine bs.pv (sx := nos) pt0_ok Tryz.func84 (by kernel_rfl) (by kernel_rfl) rfl ?_
  repeat' ((conv => whnf); (fail_if_success with_reducible refine Stop.go ?_); first | with_reducible refine wkA ?_ | ((with_reducible refine wkS ?_ ?_); · exact wkU) | with_reducible refine wkB (fun _ => ?_) (fun _ => ?_) | refine Got.intro (by assumption) ?_ | refine Got.intro (asr_of (by assumption)) ?_ | refine Got.intro (one_hit _ _) ?_ | with_reducible refine Ap.new ?_); all_goals (conv => whnf)
  exact ret_int (by
    show IntKind.i64.wrap (IntKind.i64.wrap (((h.ws.map Wal.av).length : Int) + 2) + ((h.ks.map Can.av).length : Int)) = _
    have := hf.2.2.1; have := hf.2.2.2.1; unfold nsur; rw [W_eq (n := ((h.ws.map Wal.av).length : Int) + 2) (by omega) (by omega), W_eq (by omega) (by omega)]; omega)
theorem c88 {h : Hal} (hf : h.few) (i : Int) : PCall Tryz.prog 88 [h.av, I i] ⟨Bo (within i 0 (nsur h - 1)), []⟩ := by
  have l := wa_length h.ws
  have l2 := ca_length h.ks
  refine bs.pv (sx := nos) k93_ok Tryz.func88 (by kernel_rfl) (by kernel_rfl) rfl ?_
  repeat' ((conv => whnf); (fail_if_success with_reducible refine Stop.go ?_); first | with_reducible refine wkA ?_ | ((with_reducible refine wkS ?_ ?_); · exact wkU) | with_reducible refine wkB (fun _ => ?_) (fun _ => ?_) | refine Got.intro (by assumption) ?_ | refine Got.intro (asr_of (by assumption)) ?_ | refine Got.intro (one_hit _ _) ?_ | with_reducible refine Ap.new ?_); all_goals (conv => whnf)
  exact ret_bool (by
    show within i 0 (IntKind.i64.wrap (IntKind.i64.wrap (((h.ws.map Wal.av).length : Int) + 1) + ((h.ks.map Can.av).length : Int))) = _
    have := hf.2.2.1; have := hf.2.2.2.1; unfold nsur; rw [W_eq (n := ((h.ws.map Wal.av).length : Int) + 1) (by omega) (by omega), W_eq (by omega) (by omega)]; congr 1; omega)
noncomputable def kS1 (h : Hal) (s : Stg) (i : Int) : PC := ins 172 (one [.agg (stgL h s)] ⟨I (h.ws.length : Int), []⟩) (ins 173 (one [.agg (stgL h s)] ⟨I ((h.ws.length : Int) + 1), []⟩) (ins 84 (one [.agg (stgL h s)] ⟨I (nsur h), []⟩) (ins 88 (one [h.av, I i] ⟨Bo (within i 0 (nsur h - 1)), []⟩) (ins 83 (one [h.av, s.av] ⟨.tup [.agg (stgL h s), I (serr h s)], []⟩) (ins 20 (one [h.av, s.av] ⟨I (serr h s), []⟩) k93)))))
theorem kS1_ok {h : Hal} (hk : h.ok) {s : Stg} (hs : s.few) (i : Int) : PCOK Tryz.prog (kS1 h s i) := one_ok (c172 s) (one_ok (c173 hk.f s) (one_ok (c84 hk.f s) (one_ok (c88 hk.f i) (one_ok (c83 hk hs) (one_ok (c20 hk hs) k93_ok)))))
set_option maxHeartbeats 4000000 in
theorem c109 {h : Hal} (hk : h.ok) {s : Stg} (hs : s.few) (i : Int) : PCall Tryz.prog 109 [h.av, s.av, I i] ⟨.tup [.agg (stgL h s), I (surE h s i)], []⟩ := by
  have hw : IntKind.i64.wrap (nsur h - 1) = nsur h - 1 := W_eq (by have := hk.f.2.2.1; have := hk.f.2.2.2.1; unfold nsur; omega) (by have := hk.f.2.2.1; have := hk.f.2.2.2.1; unfold nsur; omega)
  refine bs.pv (sx := nos) (kS1_ok hk hs i) Tryz.func109 (by kernel_rfl) (by kernel_rfl) rfl ?_
  repeat' ((conv => whnf); (fail_if_success with_reducible refine Stop.go ?_); first | with_reducible refine wkA ?_ | ((with_reducible refine wkS ?_ ?_); · exact wkU) | with_reducible refine wkB (fun _ => ?_) (fun _ => ?_) | refine Got.intro (by assumption) ?_ | refine Got.intro (asr_of (by assumption)) ?_ | refine Got.intro (one_hit _ _) ?_ | with_reducible refine Ap.new ?_); all_goals (conv => whnf)
  · rename_i h1 h2
    have e : surE h s i = 6 := by unfold surE; rw [if_pos (of_decide_eq_true h1)]; rw [hw] at h2; simp_all
    rw [e]; exact ret_of rfl rfl
  · rename_i h1 h2
    have e0 : serr h s = 0 := of_decide_eq_true h1
    have e : surE h s i = 0 := by unfold surE; rw [if_pos e0]; rw [hw] at h2; simp_all
    rw [e, ← e0]; exact ret_of rfl rfl
  · rename_i h1
    have e : surE h s i = serr h s := by unfold surE; rw [if_neg (of_decide_eq_false h1)]
    rw [e]; exact ret_of rfl rfl
set_option maxHeartbeats 4000000 in
theorem c57 {h : Hal} (hk : h.ok) {s : Stg} (hs : s.few) (i : Int) : PCall Tryz.prog 57 [h.av, s.av, I i] ⟨I (surE h s i), []⟩ := by
  refine bs.pv (sx := nos) (kS1_ok hk hs i) Tryz.func57 (by kernel_rfl) (by kernel_rfl) rfl ?_
  repeat' ((conv => whnf); (fail_if_success with_reducible refine Stop.go ?_); first | with_reducible refine wkA ?_ | ((with_reducible refine wkS ?_ ?_); · exact wkU) | with_reducible refine wkB (fun _ => ?_) (fun _ => ?_) | refine Got.intro (by assumption) ?_ | refine Got.intro (asr_of (by assumption)) ?_ | refine Got.intro (one_hit _ _) ?_ | with_reducible refine Ap.new ?_); all_goals (conv => whnf)
  all_goals exact ret_int (by simp_all [surE])
end Go.Proofs.YtjpmeaagnhojgaaGreat
namespace Go.Proofs.YtjpmeaagnhojgaaGreat
open Go Go.Sx

/-! ### What a right hall with a right setting is, at a surface -/
structure Sit (h : Hal) (s : Stg) : Prop where
  ok : h.ok
  fine : h.fine
  sf : s.few
  set : SetOk h s
theorem sit_of {h : Hal} (hk : h.ok) {s : Stg} (hs : s.few) (h0 : serr h s = 0) : Sit h s := by
  unfold serr at h0
  split at h0
  · rename_i he
    exact ⟨hk, fine_of hk he, hs, setE_ok hk.f h0⟩
  · rename_i he; exact absurd h0 he
/-- The kinds of surfaces. -/
inductive SK (h : Hal) : Int → Prop
  | wall (k : Nat) (hk : k < h.ws.length) : SK h k
  | floor : SK h h.ws.length
  | ceil : SK h ((h.ws.length : Int) + 1)
  | can (j : Nat) (hj : j < h.ks.length) : SK h ((h.ws.length : Int) + 2 + j)
theorem sk_of {h : Hal} {i : Int} (h0 : 0 ≤ i) (h1 : i < nsur h) : SK h i := by
  unfold nsur at h1
  by_cases c1 : i < h.ws.length
  · have := SK.wall (h := h) i.toNat (by omega)
    rwa [Int.toNat_of_nonneg h0] at this
  by_cases c2 : i = h.ws.length
  · rw [c2]; exact .floor
  by_cases c3 : i = (h.ws.length : Int) + 1
  · rw [c3]; exact .ceil
  have := SK.can (h := h) (i - h.ws.length - 2).toNat (by omega)
  rwa [Int.toNat_of_nonneg (by omega), show (h.ws.length : Int) + 2 + (i - h.ws.length - 2) = i by omega] at this
theorem surE_zero {h : Hal} {s : Stg} {i : Int} (h0 : surE h s i = 0) : serr h s = 0 ∧ 0 ≤ i ∧ i < nsur h := by
  unfold surE at h0
  split at h0
  · rename_i he
    split at h0
    · rename_i hw
      have := within_iff.1 hw
      exact ⟨he, by omega, by omega⟩
    · cases h0
  · rename_i he; exact absurd h0 he

/-- The number of a canopy, and its name among the surfaces. -/
def kix (h : Hal) (i : Int) : Nat := (i - h.ws.length - 2).toNat
def kat (h : Hal) (i : Int) : Can := (h.ks[kix h i]?).getD ⟨⟨#[]⟩, ⟨#[]⟩, 0, 0, 0, 0, []⟩
theorem kat_eq {h : Hal} {j : Nat} (hj : j < h.ks.length) : kat h ((h.ws.length : Int) + 2 + j) = h.ks[j] := by
  unfold kat kix
  rw [show ((h.ws.length : Int) + 2 + j - h.ws.length - 2).toNat = j by omega, List.getElem?_eq_getElem hj]; rfl
def isK (h : Hal) (i : Int) : Bool := decide ((h.ws.length : Int) + 2 ≤ i)
abbrev canZ : List AV := [.str ⟨#[]⟩, .str ⟨#[]⟩, I 0, I 0, I 0, I 0, .nils]
def canV (h : Hal) (i : Int) : AV := .agg (match isK h i with
  | true => (kat h i).av
  | false => canZ)
set_option maxHeartbeats 4000000 in
theorem c87 {h : Hal} (hf : h.few) (s : Stg) {i : Int} (hi : SK h i) : PCall Tryz.prog 87 [.agg (stgL h s), I i] ⟨.tup [canV h i, Bo (isK h i)], []⟩ := by
  have l := wa_length h.ws
  have l2 := ca_length h.ks
  obtain ⟨_, _, f3, f4, _⟩ := hf
  have low : ∀ i : Int, 0 ≤ i → i < (h.ws.length : Int) + 2 → PCall Tryz.prog 87 [.agg (stgL h s), I i] ⟨.tup [.agg canZ, Bo false], []⟩ := by
    intro i h0 h1
    have hv : IntKind.i64.wrap (IntKind.i64.wrap (i - ((h.ws.map Wal.av).length : Int)) - 2) = i - h.ws.length - 2 := by rw [W_eq (n := i - ((h.ws.map Wal.av).length : Int)) (by omega) (by omega), W_eq (by omega) (by omega)]; omega
    refine bs.pv (sx := nos) pt0_ok Tryz.func87 (by kernel_rfl) (by kernel_rfl) rfl ?_
    have hn : ¬ (0 ≤ IntKind.i64.wrap (IntKind.i64.wrap (i - ((h.ws.map Wal.av).length : Int)) - 2)) := by rw [hv]; omega
    repeat' ((conv => whnf); (fail_if_success with_reducible refine Stop.go ?_); first | with_reducible refine wkA ?_ | ((with_reducible refine wkS ?_ ?_); · exact wkU) | with_reducible refine wkB (fun _ => ?_) (fun _ => ?_) | refine Got.intro (by assumption) ?_ | refine Got.intro (asr_of (by assumption)) ?_ | refine Got.intro (one_hit _ _) ?_ | with_reducible refine Ap.new ?_); all_goals (conv => whnf)
    all_goals first
      | exact ret_of rfl rfl
      | (exfalso; rename_i hx; have := of_decide_eq_true hx; rw [hv] at this; omega)
      | (exfalso; rename_i hx; have := of_decide_eq_true hx; exact hn this)
  cases hi with
  | wall k hk =>
    have e1 : isK h k = false := decide_eq_false (by omega)
    unfold canV; rw [e1]; exact low _ (by omega) (by omega)
  | floor =>
    have e1 : isK h h.ws.length = false := decide_eq_false (by omega)
    unfold canV; rw [e1]; exact low _ (by omega) (by omega)
  | ceil =>
    have e1 : isK h ((h.ws.length : Int) + 1) = false := decide_eq_false (by omega)
    unfold canV; rw [e1]; exact low _ (by omega) (by omega)
  | can j hj =>
    have e1 : isK h ((h.ws.length : Int) + 2 + j) = true := decide_eq_true (by omega)
    unfold canV
    rw [e1]
    dsimp only
    rw [kat_eq hj]
    have hv : IntKind.i64.wrap (IntKind.i64.wrap ((h.ws.length : Int) + 2 + j - ((h.ws.map Wal.av).length : Int)) - 2) = j := by rw [W_eq (n := (h.ws.length : Int) + 2 + j - ((h.ws.map Wal.av).length : Int)) (by omega) (by omega), W_eq (by omega) (by omega)]; omega
    have e2 : (h.ks.map Can.av)[(IntKind.i64.wrap (IntKind.i64.wrap ((h.ws.length : Int) + 2 + j - ((h.ws.map Wal.av).length : Int)) - 2)).toNat]? = some (Can.av h.ks[j]) := by rw [hv]; exact ca_get hj
    have e3 : 0 ≤ IntKind.i64.wrap (IntKind.i64.wrap ((h.ws.length : Int) + 2 + j - ((h.ws.map Wal.av).length : Int)) - 2) := by omega
    have e4 : decide (0 ≤ IntKind.i64.wrap (IntKind.i64.wrap ((h.ws.length : Int) + 2 + j - ((h.ws.map Wal.av).length : Int)) - 2)) = true := decide_eq_true e3
    refine bs.pv (sx := nos) pt0_ok Tryz.func87 (by kernel_rfl) (by kernel_rfl) rfl ?_
    repeat' ((conv => whnf); (fail_if_success with_reducible refine Stop.go ?_); first | with_reducible refine wkA ?_ | ((with_reducible refine wkS ?_ ?_); · exact wkU) | with_reducible refine wkB (fun _ => ?_) (fun _ => ?_) | refine Got.intro (by assumption) ?_ | refine Got.intro (asr_of (by assumption)) ?_ | refine Got.intro (one_hit _ _) ?_ | with_reducible refine Ap.new ?_); all_goals (conv => whnf)
    all_goals first
      | exact ret_of rfl rfl
      | (exfalso; rename_i hx; rw [e4] at hx; cases hx)

/-! ### Heights -/
def hgtAt (h : Hal) (s : Stg) (j : Nat) : Int := match h.ks[j]?, s.hs[j]? with
  | some c, some n => c.hs.getD n.toNat 0
  | _, _ => 0
theorem hgt_facts {h : Hal} {s : Stg} (g : SetOk h s) {j : Nat} (hj : j < h.ks.length) : ∃ n, (nl s.hs)[((j : Nat) : Int).toNat]? = some [I n] ∧ 0 ≤ n ∧ n < h.ks[j].hs.length ∧ (nl h.ks[j].hs)[n.toNat]? = some [I (hgtAt h s j)] := by
  have h2 : j < s.hs.length := by rw [g.len]; exact hj
  obtain ⟨g1, g2⟩ := g.hs j hj h2
  refine ⟨s.hs[j], nl_get h2, g1, g2, ?_⟩
  have h3 : s.hs[j].toNat < h.ks[j].hs.length := by omega
  have e : hgtAt h s j = h.ks[j].hs[s.hs[j].toNat] := by unfold hgtAt; rw [List.getElem?_eq_getElem hj, List.getElem?_eq_getElem h2]; simp [h3]
  rw [e]
  simp [nl, h3]
set_option maxHeartbeats 4000000 in
theorem c192 {h : Hal} {s : Stg} (g : Sit h s) {j : Nat} (hj : j < h.ks.length) : PCall Tryz.prog 192 [.agg (stgL h s), I j] ⟨I (hgtAt h s j), []⟩ := by
  obtain ⟨n, e1, e2, e3, e4⟩ := hgt_facts g.set hj
  have e5 := ca_get hj
  generalize h.ks[j] = c at *
  have e6 := nl_length c.hs
  refine bs.pv (sx := nos) pt0_ok Tryz.func192 (by kernel_rfl) (by kernel_rfl) rfl ?_
  repeat' ((conv => whnf); (fail_if_success with_reducible refine Stop.go ?_); first | with_reducible refine wkA ?_ | ((with_reducible refine wkS ?_ ?_); · exact wkU) | ((with_reducible refine wkY ?_ ?_); · omega) | ((with_reducible refine wkN ?_ ?_); · omega) | ((with_reducible refine wkQ ?_ ?_); · omega) | ((with_reducible refine wkR ?_ ?_); · omega) | with_reducible refine wkB (fun _ => ?_) (fun _ => ?_) | refine Got.intro (by assumption) ?_ | refine Got.intro (asr_of (by assumption)) ?_ | refine Got.intro (one_hit _ _) ?_ | with_reducible refine Ap.new ?_); all_goals (conv => whnf)
  exact ret_int rfl
set_option maxHeartbeats 4000000 in
theorem c108 {h : Hal} {s : Stg} (g : Sit h s) {j : Nat} (hj : j < h.ks.length) : PCall Tryz.prog 108 [h.av, s.av, I j] ⟨I (hgtAt h s j), []⟩ := by
  obtain ⟨n, e1, e2, e3, e4⟩ := hgt_facts g.set hj
  have e5 := ca_get hj
  generalize h.ks[j] = c at *
  have e6 := nl_length c.hs
  refine bs.pv (sx := nos) pt0_ok Tryz.func108 (by kernel_rfl) (by kernel_rfl) rfl ?_
  repeat' ((conv => whnf); (fail_if_success with_reducible refine Stop.go ?_); first | with_reducible refine wkA ?_ | ((with_reducible refine wkS ?_ ?_); · exact wkU) | ((with_reducible refine wkY ?_ ?_); · omega) | ((with_reducible refine wkN ?_ ?_); · omega) | ((with_reducible refine wkQ ?_ ?_); · omega) | ((with_reducible refine wkR ?_ ?_); · omega) | with_reducible refine wkB (fun _ => ?_) (fun _ => ?_) | refine Got.intro (by assumption) ?_ | refine Got.intro (asr_of (by assumption)) ?_ | refine Got.intro (one_hit _ _) ?_ | with_reducible refine Ap.new ?_); all_goals (conv => whnf)
  exact ret_int rfl

/-! ### Kinds of surfaces, in the reference -/
def kindV (h : Hal) (i : Int) : Int × Int := if i < h.ws.length then (0, i) else if i = h.ws.length then (1, 0) else if i = (h.ws.length : Int) + 1 then (2, 0) else (3, i - h.ws.length - 2)
set_option maxHeartbeats 4000000 in
theorem c89 {h : Hal} (hf : h.few) {i : Int} (hi : SK h i) : PCall Tryz.prog 89 [h.av, I i] ⟨.tup [I (kindV h i).1, I (kindV h i).2], []⟩ := by
  have l := wa_length h.ws
  obtain ⟨_, _, f3, f4, _⟩ := hf
  have hw : IntKind.i64.wrap (((h.ws.map Wal.av).length : Int) + 1) = h.ws.length + 1 := by rw [W_eq (by omega) (by omega)]; omega
  have hr : 0 ≤ i ∧ i < 100000 := by cases hi <;> omega
  have hv : IntKind.i64.wrap (IntKind.i64.wrap (i - ((h.ws.map Wal.av).length : Int)) - 2) = i - h.ws.length - 2 := by rw [W_eq (n := i - ((h.ws.map Wal.av).length : Int)) (by omega) (by omega), W_eq (by omega) (by omega)]; omega
  unfold kindV
  refine bs.pv (sx := nos) pt0_ok Tryz.func89 (by kernel_rfl) (by kernel_rfl) rfl ?_
  repeat' ((conv => whnf); (fail_if_success with_reducible refine Stop.go ?_); first | with_reducible refine wkA ?_ | ((with_reducible refine wkS ?_ ?_); · exact wkU) | with_reducible refine wkB (fun _ => ?_) (fun _ => ?_) | refine Got.intro (by assumption) ?_ | refine Got.intro (asr_of (by assumption)) ?_ | refine Got.intro (one_hit _ _) ?_ | with_reducible refine Ap.new ?_); all_goals (conv => whnf)
  · rename_i hx
    rw [l] at hx
    rw [if_pos (of_decide_eq_true hx)]; exact ret_of rfl rfl
  · rename_i h1 hx
    rw [l] at hx h1
    rw [if_neg (of_decide_eq_false h1), if_pos (of_decide_eq_true hx)]; exact ret_of rfl rfl
  · rename_i h1 h2 hx
    rw [hw] at hx
    rw [l] at h1 h2
    rw [if_neg (of_decide_eq_false h1), if_neg (of_decide_eq_false h2), if_pos (of_decide_eq_true hx)]; exact ret_of rfl rfl
  · rename_i h1 h2 hx
    rw [hw] at hx
    rw [l] at h1 h2
    rw [if_neg (of_decide_eq_false h1), if_neg (of_decide_eq_false h2), if_neg (of_decide_eq_false hx), ← hv]; exact ret_of rfl rfl
end Go.Proofs.YtjpmeaagnhojgaaGreat
namespace Go.Proofs.YtjpmeaagnhojgaaGreat
open Go Go.Sx

/-! ### Planes -/
def plW (w : Wl) : Int × Int := if w.dx = 0 then (0, w.fx) else if w.dy = 0 then (1, w.fy) else if w.dx = w.dy then (4, IntKind.i64.wrap (w.fx - w.fy)) else (3, IntKind.i64.wrap (w.fx + w.fy))
def planeV (h : Hal) (s : Stg) (i : Int) : Int × Int := if i < h.ws.length then plW (wlOf h.cs i.toNat) else if i = h.ws.length then (2, 0) else if i = (h.ws.length : Int) + 1 then (2, h.ht) else (2, hgtAt h s (kix h i))
theorem planeV_wall {h : Hal} {s : Stg} {k : Nat} (hk : k < h.ws.length) : planeV h s k = plW (wlOf h.cs k) := by unfold planeV; rw [if_pos (by omega)]; rfl
theorem planeV_floor {h : Hal} {s : Stg} : planeV h s h.ws.length = (2, 0) := by unfold planeV; rw [if_neg (by omega), if_pos rfl]
theorem planeV_ceil {h : Hal} {s : Stg} : planeV h s ((h.ws.length : Int) + 1) = (2, h.ht) := by unfold planeV; rw [if_neg (by omega), if_neg (by omega), if_pos rfl]
theorem planeV_can {h : Hal} {s : Stg} {j : Nat} : planeV h s ((h.ws.length : Int) + 2 + j) = (2, hgtAt h s j) := by
  unfold planeV kix
  rw [if_neg (by omega), if_neg (by omega), if_neg (by omega), show ((h.ws.length : Int) + 2 + j - h.ws.length - 2).toNat = j by omega]
noncomputable def kP (h : Hal) (s : Stg) : PC := ins 172 (one [.agg (stgL h s)] ⟨I (h.ws.length : Int), []⟩) (ins 173 (one [.agg (stgL h s)] ⟨I ((h.ws.length : Int) + 1), []⟩) kG4)
theorem kP_ok {h : Hal} {s : Stg} (g : Sit h s) : PCOK Tryz.prog (kP h s) := one_ok (c172 s) (one_ok (c173 g.ok.f s) kG4_ok)
set_option maxRecDepth 100000 in
set_option maxHeartbeats 8000000 in
theorem c112 {h : Hal} {s : Stg} (g : Sit h s) {i : Int} (hi : SK h i) : PCall Tryz.prog 112 [.agg (stgL h s), I i] ⟨P2 (planeV h s i).1 (planeV h s i).2, []⟩ := by
  have hk0 := kP_ok g
  have f3 := g.ok.f.2.2.1
  have f4 := g.ok.f.2.2.2.1
  cases hi with
  | wall k hk =>
    have hk2 : k < h.cs.length := by have := g.fine.le; omega
    rw [planeV_wall hk]
    have hk1 := one_ok (c145w g.ok.f hk2) hk0
    refine bs.pv (sx := nos) hk1 Tryz.func112 (by kernel_rfl) (by kernel_rfl) rfl ?_
    generalize wlOf h.cs k = w at *
    repeat' ((conv => whnf); (fail_if_success with_reducible refine Stop.go ?_); first | with_reducible refine wkA ?_ | ((with_reducible refine wkS ?_ ?_); · exact wkU) | ((with_reducible refine wkY ?_ ?_); · omega) | ((with_reducible refine wkN ?_ ?_); · omega) | ((with_reducible refine wkQ ?_ ?_); · omega) | ((with_reducible refine wkR ?_ ?_); · omega) | with_reducible refine wkB (fun _ => ?_) (fun _ => ?_) | refine Got.intro (by assumption) ?_ | refine Got.intro (asr_of (by assumption)) ?_ | refine Got.intro (one_hit _ _) ?_ | with_reducible refine Ap.new ?_); all_goals (conv => whnf)
    all_goals exact ret_of (by clear hk0 hk1; simp_all [plW]) rfl
  | floor =>
    rw [planeV_floor]
    refine bs.pv (sx := nos) hk0 Tryz.func112 (by kernel_rfl) (by kernel_rfl) rfl ?_
    repeat' ((conv => whnf); (fail_if_success with_reducible refine Stop.go ?_); first | with_reducible refine wkA ?_ | ((with_reducible refine wkS ?_ ?_); · exact wkU) | ((with_reducible refine wkY ?_ ?_); · omega) | ((with_reducible refine wkN ?_ ?_); · omega) | ((with_reducible refine wkQ ?_ ?_); · omega) | ((with_reducible refine wkR ?_ ?_); · omega) | with_reducible refine wkB (fun _ => ?_) (fun _ => ?_) | refine Got.intro (by assumption) ?_ | refine Got.intro (asr_of (by assumption)) ?_ | refine Got.intro (one_hit _ _) ?_ | with_reducible refine Ap.new ?_); all_goals (conv => whnf)
    exact ret_of rfl rfl
  | ceil =>
    rw [planeV_ceil]
    refine bs.pv (sx := nos) hk0 Tryz.func112 (by kernel_rfl) (by kernel_rfl) rfl ?_
    repeat' ((conv => whnf); (fail_if_success with_reducible refine Stop.go ?_); first | with_reducible refine wkA ?_ | ((with_reducible refine wkS ?_ ?_); · exact wkU) | ((with_reducible refine wkY ?_ ?_); · omega) | ((with_reducible refine wkN ?_ ?_); · omega) | ((with_reducible refine wkQ ?_ ?_); · omega) | ((with_reducible refine wkR ?_ ?_); · omega) | with_reducible refine wkB (fun _ => ?_) (fun _ => ?_) | refine Got.intro (by assumption) ?_ | refine Got.intro (asr_of (by assumption)) ?_ | refine Got.intro (one_hit _ _) ?_ | with_reducible refine Ap.new ?_); all_goals (conv => whnf)
    exact ret_of rfl rfl
  | can j hj =>
    rw [planeV_can]
    have hv : IntKind.i64.wrap (IntKind.i64.wrap ((h.ws.length : Int) + 2 + j - ((h.ws.length : Int) + 1)) - 1) = j := by rw [W_eq (n := (h.ws.length : Int) + 2 + j - ((h.ws.length : Int) + 1)) (by omega) (by omega), W_eq (by omega) (by omega)]; omega
    have hc := c192 g hj
    rw [← hv] at hc
    have hk1 := one_ok hc hk0
    refine bs.pv (sx := nos) hk1 Tryz.func112 (by kernel_rfl) (by kernel_rfl) rfl ?_
    repeat' ((conv => whnf); (fail_if_success with_reducible refine Stop.go ?_); first | with_reducible refine wkA ?_ | ((with_reducible refine wkS ?_ ?_); · exact wkU) | ((with_reducible refine wkY ?_ ?_); · omega) | ((with_reducible refine wkN ?_ ?_); · omega) | ((with_reducible refine wkQ ?_ ?_); · omega) | ((with_reducible refine wkR ?_ ?_); · omega) | with_reducible refine wkB (fun _ => ?_) (fun _ => ?_) | refine Got.intro (by assumption) ?_ | refine Got.intro (asr_of (by assumption)) ?_ | refine Got.intro (one_hit _ _) ?_ | with_reducible refine Ap.new ?_); all_goals (conv => whnf)
    exact ret_of rfl rfl
set_option maxRecDepth 100000 in
set_option maxHeartbeats 8000000 in
theorem c59 {h : Hal} {s : Stg} (g : Sit h s) {i : Int} (hi : SK h i) : PCall Tryz.prog 59 [h.av, s.av, I i] ⟨P2 (planeV h s i).1 (planeV h s i).2, []⟩ := by
  have hk0 := one_ok (c89 g.ok.f hi) (kR5_ok g.ok.f)
  have f3 := g.ok.f.2.2.1
  have f4 := g.ok.f.2.2.2.1
  cases hi with
  | wall k hk =>
    have hk2 : k < h.cs.length := by have := g.fine.le; omega
    have e1 := lines_hit hk2
    rw [show kindV h k = (0, (k : Int)) by unfold kindV; rw [if_pos (by omega)]] at hk0
    rw [planeV_wall hk]
    rw [lnOf_eq] at e1
    refine bs.pv (sx := nos) hk0 Tryz.func59 (by kernel_rfl) (by kernel_rfl) rfl ?_
    generalize wlOf h.cs k = w at *
    have hp : plW w = if w.ln.dx = 0 then (0, w.ln.x) else if w.ln.dy = 0 then (1, w.ln.y) else if w.ln.dx = w.ln.dy then (4, IntKind.i64.wrap (w.ln.x - w.ln.y)) else (3, IntKind.i64.wrap (w.ln.x + w.ln.y)) := rfl
    rw [hp]
    repeat' ((conv => whnf); (fail_if_success with_reducible refine Stop.go ?_); first | with_reducible refine wkA ?_ | ((with_reducible refine wkS ?_ ?_); · exact wkU) | ((with_reducible refine wkY ?_ ?_); · omega) | ((with_reducible refine wkN ?_ ?_); · omega) | ((with_reducible refine wkQ ?_ ?_); · omega) | ((with_reducible refine wkR ?_ ?_); · omega) | with_reducible refine wkB (fun _ => ?_) (fun _ => ?_) | refine Got.intro (by assumption) ?_ | refine Got.intro (asr_of (by assumption)) ?_ | refine Got.intro (one_hit _ _) ?_ | with_reducible refine Ap.new ?_); all_goals (conv => whnf)
    · rename_i h1; rw [if_pos (of_decide_eq_true h1)]; exact ret_of rfl rfl
    · rename_i h1 h2; rw [if_neg (of_decide_eq_false h1), if_pos (of_decide_eq_true h2)]; exact ret_of rfl rfl
    · rename_i h1 h2 h3; rw [if_neg (of_decide_eq_false h1), if_neg (of_decide_eq_false h2), if_pos (of_decide_eq_true h3)]; exact ret_of rfl rfl
    · rename_i h1 h2 h3; rw [if_neg (of_decide_eq_false h1), if_neg (of_decide_eq_false h2), if_neg (of_decide_eq_false h3)]; exact ret_of rfl rfl
  | floor =>
    rw [show kindV h h.ws.length = (1, 0) by unfold kindV; rw [if_neg (by omega), if_pos rfl]] at hk0
    rw [planeV_floor]
    refine bs.pv (sx := nos) hk0 Tryz.func59 (by kernel_rfl) (by kernel_rfl) rfl ?_
    repeat' ((conv => whnf); (fail_if_success with_reducible refine Stop.go ?_); first | with_reducible refine wkA ?_ | ((with_reducible refine wkS ?_ ?_); · exact wkU) | ((with_reducible refine wkY ?_ ?_); · omega) | ((with_reducible refine wkN ?_ ?_); · omega) | ((with_reducible refine wkQ ?_ ?_); · omega) | ((with_reducible refine wkR ?_ ?_); · omega) | with_reducible refine wkB (fun _ => ?_) (fun _ => ?_) | refine Got.intro (by assumption) ?_ | refine Got.intro (asr_of (by assumption)) ?_ | refine Got.intro (one_hit _ _) ?_ | with_reducible refine Ap.new ?_); all_goals (conv => whnf)
    exact ret_of rfl rfl
  | ceil =>
    rw [show kindV h ((h.ws.length : Int) + 1) = (2, 0) by unfold kindV; rw [if_neg (by omega), if_neg (by omega), if_pos rfl]] at hk0
    rw [planeV_ceil]
    refine bs.pv (sx := nos) hk0 Tryz.func59 (by kernel_rfl) (by kernel_rfl) rfl ?_
    repeat' ((conv => whnf); (fail_if_success with_reducible refine Stop.go ?_); first | with_reducible refine wkA ?_ | ((with_reducible refine wkS ?_ ?_); · exact wkU) | ((with_reducible refine wkY ?_ ?_); · omega) | ((with_reducible refine wkN ?_ ?_); · omega) | ((with_reducible refine wkQ ?_ ?_); · omega) | ((with_reducible refine wkR ?_ ?_); · omega) | with_reducible refine wkB (fun _ => ?_) (fun _ => ?_) | refine Got.intro (by assumption) ?_ | refine Got.intro (asr_of (by assumption)) ?_ | refine Got.intro (one_hit _ _) ?_ | with_reducible refine Ap.new ?_); all_goals (conv => whnf)
    exact ret_of rfl rfl
  | can j hj =>
    rw [show kindV h ((h.ws.length : Int) + 2 + j) = (3, (j : Int)) by unfold kindV; rw [if_neg (by omega), if_neg (by omega), if_neg (by omega)]; simp; omega] at hk0
    rw [planeV_can]
    have hk1 := one_ok (c108 g hj) hk0
    refine bs.pv (sx := nos) hk1 Tryz.func59 (by kernel_rfl) (by kernel_rfl) rfl ?_
    repeat' ((conv => whnf); (fail_if_success with_reducible refine Stop.go ?_); first | with_reducible refine wkA ?_ | ((with_reducible refine wkS ?_ ?_); · exact wkU) | ((with_reducible refine wkY ?_ ?_); · omega) | ((with_reducible refine wkN ?_ ?_); · omega) | ((with_reducible refine wkQ ?_ ?_); · omega) | ((with_reducible refine wkR ?_ ?_); · omega) | with_reducible refine wkB (fun _ => ?_) (fun _ => ?_) | refine Got.intro (by assumption) ?_ | refine Got.intro (asr_of (by assumption)) ?_ | refine Got.intro (one_hit _ _) ?_ | with_reducible refine Ap.new ?_); all_goals (conv => whnf)
    exact ret_of rfl rfl
/-- The plane that the program answers. -/
def planeA (h : Hal) (s : Stg) (i : Int) : Int × Int := if surE h s i = 0 then planeV h s i else (0, 0)
set_option maxRecDepth 100000 in
set_option maxHeartbeats 8000000 in
theorem c54 {h : Hal} (hk : h.ok) {s : Stg} (hs : s.few) (i : Int) : PCall Tryz.prog 54 [h.av, s.av, I i] ⟨.tup [P2 (planeA h s i).1 (planeA h s i).2, I (surE h s i)], []⟩ := by
  have hk0 := one_ok (c109 hk hs i) pt0_ok
  by_cases he : surE h s i = 0
  · have e := surE_zero he
    have g := sit_of hk hs e.1
    have hk1 := one_ok (c112 g (sk_of e.2.1 e.2.2)) hk0
    have e2 : planeA h s i = planeV h s i := by unfold planeA; rw [if_pos he]
    rw [e2]
    rw [he] at hk1 ⊢
    refine bs.pv (sx := nos) hk1 Tryz.func54 (by kernel_rfl) (by kernel_rfl) rfl ?_
    repeat' ((conv => whnf); (fail_if_success with_reducible refine Stop.go ?_); first | with_reducible refine wkA ?_ | ((with_reducible refine wkS ?_ ?_); · exact wkU) | ((with_reducible refine wkY ?_ ?_); · omega) | ((with_reducible refine wkN ?_ ?_); · omega) | ((with_reducible refine wkQ ?_ ?_); · omega) | ((with_reducible refine wkR ?_ ?_); · omega) | with_reducible refine wkB (fun _ => ?_) (fun _ => ?_) | refine Got.intro (by assumption) ?_ | refine Got.intro (asr_of (by assumption)) ?_ | refine Got.intro (one_hit _ _) ?_ | with_reducible refine Ap.new ?_); all_goals (conv => whnf)
    exact ret_of rfl rfl
  · have e2 : planeA h s i = (0, 0) := by unfold planeA; rw [if_neg he]
    rw [e2]
    refine bs.pv (sx := nos) hk0 Tryz.func54 (by kernel_rfl) (by kernel_rfl) rfl ?_
    repeat' ((conv => whnf); (fail_if_success with_reducible refine Stop.go ?_); first | with_reducible refine wkA ?_ | ((with_reducible refine wkS ?_ ?_); · exact wkU) | ((with_reducible refine wkY ?_ ?_); · omega) | ((with_reducible refine wkN ?_ ?_); · omega) | ((with_reducible refine wkQ ?_ ?_); · omega) | ((with_reducible refine wkR ?_ ?_); · omega) | with_reducible refine wkB (fun _ => ?_) (fun _ => ?_) | refine Got.intro (by assumption) ?_ | refine Got.intro (asr_of (by assumption)) ?_ | refine Got.intro (one_hit _ _) ?_ | with_reducible refine Ap.new ?_); all_goals (conv => whnf)
    exact ret_of rfl rfl

/-! ### Materials -/
def idxN (n : Int) : Nat → List Int → Int
  | _, [] => -1
  | i, m :: l => if n = m then i else idxN n (i + 1) l
theorem idxN_has (n : Int) : ∀ (l : List Int) (i : Nat), decide (0 ≤ idxN n i l) = hasN l n
  | [], i => rfl
  | m :: l, i => by
    rw [idxN, hasN_cons]
    by_cases h : n = m
    · rw [if_pos h, decide_eq_true (show m = n from h.symm), decide_eq_true (by omega)]; rfl
    · rw [if_neg h, decide_eq_false (show ¬ m = n from fun e => h e.symm), Bool.false_or]; exact idxN_has n l _
set_option maxHeartbeats 4000000 in
theorem c203 {ns : List Int} (hl : ns.length < 1000000) (n : Int) : PCall Tryz.prog 203 [.isl 1 (nl ns), I n] ⟨I (idxN n 0 ns), []⟩ := by
  have e3 := nl_length ns
  refine bs.pv (sx := nos) pt0_ok Tryz.func203 (by kernel_rfl) (by kernel_rfl) rfl ?_
  repeat' ((conv => whnf); (fail_if_success with_reducible refine Stop.go ?_); first | with_reducible refine wkA ?_ | ((with_reducible refine wkS ?_ ?_); · exact wkU) | ((with_reducible refine wkY ?_ ?_); · omega) | ((with_reducible refine wkN ?_ ?_); · omega) | ((with_reducible refine wkQ ?_ ?_); · omega) | ((with_reducible refine wkR ?_ ?_); · omega) | with_reducible refine wkB (fun _ => ?_) (fun _ => ?_) | refine Got.intro (by assumption) ?_ | refine Got.intro (asr_of (by assumption)) ?_ | refine Got.intro (one_hit _ _) ?_ | with_reducible refine Ap.new ?_); all_goals (conv => whnf)
  refine loopV (S := Nat × Int) (fun t => ns.length - t.1) (fun t => [(0, .isl 1 (nl ns)), (1, I n), (7, I (nl ns).length), (8, I t.2)]) (fun _ => []) 0 0 (fun t => t.2 = t.1 ∧ t.1 ≤ ns.length ∧ idxN n t.1 (ns.drop t.1) = idxN n 0 ns) (0, 0) ⟨rfl, Nat.zero_le _, rfl⟩ (Nat.le_refl _) [] rfl (by (repeat' (first | exact trivial | refine And.intro ?_ ?_ | exact rfl | exact ⟨_, rfl, rfl, rfl⟩))) (by (repeat' (first | exact trivial | refine And.intro ?_ ?_ | exact rfl | exact ⟨_, rfl, rfl, rfl⟩))) ?_
  rintro ⟨k, i⟩ ⟨hi, hk, hh⟩
  dsimp only at hi hk hh ⊢
  subst hi
  refine bs.av (sx := nos) pt0_ok ?_
  by_cases hlt : k < ns.length
  · have e1 := nl_get hlt
    rw [List.drop_eq_getElem_cons hlt, idxN] at hh
    repeat' ((conv => whnf); (fail_if_success with_reducible refine Stop.go ?_); first | with_reducible refine wkA ?_ | ((with_reducible refine wkS ?_ ?_); · exact wkU) | ((with_reducible refine wkY ?_ ?_); · omega) | ((with_reducible refine wkN ?_ ?_); · omega) | ((with_reducible refine wkQ ?_ ?_); · omega) | ((with_reducible refine wkR ?_ ?_); · omega) | with_reducible refine wkB (fun _ => ?_) (fun _ => ?_) | refine Got.intro (by assumption) ?_ | refine Got.intro (asr_of (by assumption)) ?_ | refine Got.intro (one_hit _ _) ?_ | with_reducible refine Ap.new ?_); all_goals (conv => whnf)
    · rename_i hx; exact ret_int (by rw [← hh, if_pos (of_decide_eq_true hx)])
    · rename_i hx; exact Done.mk ⟨(k + 1, _), [], rfl, by (repeat' (first | exact trivial | refine And.intro ?_ ?_ | exact rfl | exact ⟨_, rfl, rfl, rfl⟩)), by (repeat' (first | exact trivial | refine And.intro ?_ ?_ | exact rfl | exact ⟨_, rfl, rfl, rfl⟩)), ⟨W_succ (by omega), hlt, by rw [← hh, if_neg (of_decide_eq_false hx)]⟩, by dsimp only; omega⟩
  rw [List.drop_of_length_le (by omega)] at hh
  repeat' ((conv => whnf); (fail_if_success with_reducible refine Stop.go ?_); first | with_reducible refine wkA ?_ | ((with_reducible refine wkS ?_ ?_); · exact wkU) | ((with_reducible refine wkY ?_ ?_); · omega) | ((with_reducible refine wkN ?_ ?_); · omega) | ((with_reducible refine wkQ ?_ ?_); · omega) | ((with_reducible refine wkR ?_ ?_); · omega) | with_reducible refine wkB (fun _ => ?_) (fun _ => ?_) | refine Got.intro (by assumption) ?_ | refine Got.intro (asr_of (by assumption)) ?_ | refine Got.intro (one_hit _ _) ?_ | with_reducible refine Ap.new ?_); all_goals (conv => whnf)
  exact ret_int hh
set_option maxHeartbeats 4000000 in
theorem c176 {ns : List Int} (hl : ns.length < 1000000) (n : Int) : PCall Tryz.prog 176 [.isl 1 (nl ns), I n] ⟨Bo (hasN ns n), []⟩ := by
  refine bs.pv (sx := nos) (one_ok (c203 hl n) pt0_ok) Tryz.func176 (by kernel_rfl) (by kernel_rfl) rfl ?_
  repeat' ((conv => whnf); (fail_if_success with_reducible refine Stop.go ?_); first | with_reducible refine wkA ?_ | ((with_reducible refine wkS ?_ ?_); · exact wkU) | with_reducible refine wkB (fun _ => ?_) (fun _ => ?_) | refine Got.intro (by assumption) ?_ | refine Got.intro (asr_of (by assumption)) ?_ | refine Got.intro (one_hit _ _) ?_ | with_reducible refine Ap.new ?_); all_goals (conv => whnf)
  exact ret_bool (idxN_has n ns 0)
set_option maxHeartbeats 4000000 in
theorem c178 (m : Mat) (nm : ByteArray) : PCall Tryz.prog 178 [.agg m.av, .ipt [.str nm]] ⟨Bo (m.nm == nm), []⟩ := by
  refine bs.pv (sx := nos) pt0_ok Tryz.func178 (by kernel_rfl) (by kernel_rfl) rfl ?_
  repeat' ((conv => whnf); (fail_if_success with_reducible refine Stop.go ?_); first | with_reducible refine wkA ?_ | ((with_reducible refine wkS ?_ ?_); · exact wkU) | with_reducible refine wkB (fun _ => ?_) (fun _ => ?_) | refine Got.intro (by assumption) ?_ | refine Got.intro (asr_of (by assumption)) ?_ | refine Got.intro (one_hit _ _) ?_ | with_reducible refine Ap.new ?_); all_goals (conv => whnf)
  exact ret_bool (by simp)
def r178 (nm : ByteArray) : List AV → Option PRes
  | [.agg [.str a, .int .i64 x, .int .i64 y, .int .i64 z, .int .i64 u, .int .i64 v], .ipt [.str _]] => some ⟨Bo (a == nm), []⟩
  | _ => none
set_option maxRecDepth 100000 in
set_option maxHeartbeats 4000000 in
theorem c177 {ms : List Mat} (hl : ms.length < 1000) (nm : ByteArray) : PCall Tryz.prog 177 [.isl 6 (ms.map Mat.av), .func 178 [] [.ipt [.str nm]]] ⟨I (matIx nm 0 ms), []⟩ := by
  have e3 := mt_length ms
  refine bs.pv (sx := nos) pt0_ok Tryz.func177 (by kernel_rfl) (by kernel_rfl) rfl ?_
  repeat' ((conv => whnf); (fail_if_success with_reducible refine Stop.go ?_); first | with_reducible refine wkA ?_ | ((with_reducible refine wkS ?_ ?_); · exact wkU) | ((with_reducible refine wkY ?_ ?_); · omega) | ((with_reducible refine wkN ?_ ?_); · omega) | ((with_reducible refine wkQ ?_ ?_); · omega) | ((with_reducible refine wkR ?_ ?_); · omega) | with_reducible refine wkB (fun _ => ?_) (fun _ => ?_) | refine Got.intro (by assumption) ?_ | refine Got.intro (asr_of (by assumption)) ?_ | refine Got.intro (one_hit _ _) ?_ | with_reducible refine Ap.new ?_); all_goals (conv => whnf)
  refine loopV (S := Nat × Int) (fun t => ms.length - t.1) (fun t => [(0, .isl 6 (ms.map Mat.av)), (1, .func 178 [] [.ipt [.str nm]]), (7, I (ms.map Mat.av).length), (8, I t.2)]) (fun _ => []) 0 0 (fun t => t.2 = t.1 ∧ t.1 ≤ ms.length ∧ matIx nm t.1 (ms.drop t.1) = matIx nm 0 ms) (0, 0) ⟨rfl, Nat.zero_le _, rfl⟩ (Nat.le_refl _) [] rfl (by (repeat' (first | exact trivial | refine And.intro ?_ ?_ | exact rfl | exact ⟨_, rfl, rfl, rfl⟩))) (by (repeat' (first | exact trivial | refine And.intro ?_ ?_ | exact rfl | exact ⟨_, rfl, rfl, rfl⟩))) ?_
  rintro ⟨k, i⟩ ⟨hi, hk, hh⟩
  dsimp only at hi hk hh ⊢
  subst hi
  by_cases hlt : k < ms.length
  · have e1 := mt_get hlt
    rw [List.drop_eq_getElem_cons hlt, matIx] at hh
    refine bs.av (sx := nos) (one_ok (c178 ms[k] nm) pt0_ok) ?_
    repeat' ((conv => whnf); (fail_if_success with_reducible refine Stop.go ?_); first | with_reducible refine wkA ?_ | ((with_reducible refine wkS ?_ ?_); · exact wkU) | ((with_reducible refine wkY ?_ ?_); · omega) | ((with_reducible refine wkN ?_ ?_); · omega) | ((with_reducible refine wkQ ?_ ?_); · omega) | ((with_reducible refine wkR ?_ ?_); · omega) | with_reducible refine wkB (fun _ => ?_) (fun _ => ?_) | refine Got.intro (by assumption) ?_ | refine Got.intro (asr_of (by assumption)) ?_ | refine Got.intro (one_hit _ _) ?_ | with_reducible refine Ap.new ?_); all_goals (conv => whnf)
    · rename_i hx; exact ret_int (by rw [← hh, if_pos hx])
    · rename_i hx; exact Done.mk ⟨(k + 1, _), [], rfl, by (repeat' (first | exact trivial | refine And.intro ?_ ?_ | exact rfl | exact ⟨_, rfl, rfl, rfl⟩)), by (repeat' (first | exact trivial | refine And.intro ?_ ?_ | exact rfl | exact ⟨_, rfl, rfl, rfl⟩)), ⟨W_succ (by omega), hlt, by rw [← hh, hx]; rfl⟩, by dsimp only; omega⟩
  rw [List.drop_of_length_le (by omega)] at hh
  refine bs.av (sx := nos) pt0_ok ?_
  repeat' ((conv => whnf); (fail_if_success with_reducible refine Stop.go ?_); first | with_reducible refine wkA ?_ | ((with_reducible refine wkS ?_ ?_); · exact wkU) | ((with_reducible refine wkY ?_ ?_); · omega) | ((with_reducible refine wkN ?_ ?_); · omega) | ((with_reducible refine wkQ ?_ ?_); · omega) | ((with_reducible refine wkR ?_ ?_); · omega) | with_reducible refine wkB (fun _ => ?_) (fun _ => ?_) | refine Got.intro (by assumption) ?_ | refine Got.intro (asr_of (by assumption)) ?_ | refine Got.intro (one_hit _ _) ?_ | with_reducible refine Ap.new ?_); all_goals (conv => whnf)
  exact ret_int hh
/-- The material of a name. -/
def mat0 : Mat := ⟨⟨#[]⟩, 0, 0, 0, 0, 0⟩
def matG (h : Hal) (nm : ByteArray) : Mat := (h.ms[(matIx nm 0 h.ms).toNat]?).getD mat0
theorem matIx_lt_len (s : ByteArray) : ∀ (l : List Mat) (i : Nat), matIx s i l < ((i + l.length : Nat) : Int)
  | [], i => by simp [matIx]; omega
  | m :: l, i => by
    rw [matIx]
    have := matIx_lt_len s l (i + 1)
    split
    · simp; omega
    · simp only [List.length_cons]; omega
theorem matG_get {h : Hal} {nm : ByteArray} (h0 : 0 ≤ matIx nm 0 h.ms) : (h.ms.map Mat.av)[(matIx nm 0 h.ms).toNat]? = some (matG h nm).av := by
  have h1 := matIx_lt_len nm h.ms 0
  have hi : (matIx nm 0 h.ms).toNat < h.ms.length := by omega
  unfold matG
  rw [List.getElem?_map, List.getElem?_eq_getElem hi]; rfl
def mName (h : Hal) (s : Stg) (i : Int) : ByteArray := if i < h.ws.length then (if hasN s.dr i then curt h i else ((h.ws[i.toNat]?).map Wal.mt).getD ⟨#[]⟩) else if i = h.ws.length then h.fl else if i = (h.ws.length : Int) + 1 then h.ce else (kat h i).mt
theorem ix_of_mem {h : Hal} {nm : ByteArray} (hm : ∃ m ∈ h.ms, m.nm = nm) : 0 ≤ matIx nm 0 h.ms := by
  have := mt (matIx_neg nm h.ms 0).1 (by simpa using hm)
  omega
theorem wal_names {h : Hal} (g : h.fine) {k : Nat} (hk : k < h.ws.length) : 0 ≤ matIx h.ws[k].mt 0 h.ms ∧ (h.ws[k].cu ≠ ⟨#[]⟩ → 0 ≤ matIx h.ws[k].cu 0 h.ms) := by
  have := g.wal k hk
  unfold wErrR at this
  split at this
  · split at this
    · cases this
    · split at this
      · cases this
      · split at this
        · cases this
        · rename_i hx
          simp only [Bool.or_eq_true, Bool.and_eq_true, decide_eq_true_eq, Bool.not_eq_true', beq_ba, decide_eq_false_iff_not, not_or, not_and] at hx
          exact ⟨by omega, fun hc => by have := hx.2 hc; omega⟩
  · cases this
theorem can_names {h : Hal} (g : h.fine) {k : Nat} (hk : k < h.ks.length) : 0 ≤ matIx h.ks[k].mt 0 h.ms := by
  have := g.can k hk
  unfold cErrR at this
  split at this
  · split at this
    · cases this
    · split at this
      · cases this
      · split at this
        · cases this
        · split at this
          · cases this
          · rename_i hx
            simp only [decide_eq_true_eq] at hx
            omega
  · cases this
theorem mName_ix {h : Hal} {s : Stg} (g : Sit h s) {i : Int} (hi : SK h i) : 0 ≤ matIx (mName h s i) 0 h.ms := by
  unfold mName
  cases hi with
  | wall k hk =>
    rw [if_pos (by omega), Int.toNat_natCast, List.getElem?_eq_getElem hk]
    have hc : curt h k = h.ws[k].cu := by unfold curt; rw [Int.toNat_natCast, List.getElem?_eq_getElem hk]
    split
    · rename_i hd
      have hd : ∃ d ∈ s.dr, d = (k : Int) := by unfold hasN at hd; rw [List.any_eq_true] at hd; simpa using hd
      obtain ⟨d, hd, rfl⟩ := hd
      rw [hc]
      exact (wal_names g.fine hk).2 (by rw [← hc]; exact (g.set.dr _ hd).2.2)
    · exact (wal_names g.fine hk).1
  | floor => rw [if_neg (by omega), if_pos rfl]; exact ix_of_mem g.fine.fl
  | ceil => rw [if_neg (by omega), if_neg (by omega), if_pos rfl]; exact ix_of_mem g.fine.ce
  | can j hj => rw [if_neg (by omega), if_neg (by omega), if_neg (by omega), kat_eq hj]; exact can_names g.fine hj
def matS (h : Hal) (s : Stg) (i : Int) : Mat := matG h (mName h s i)
end Go.Proofs.YtjpmeaagnhojgaaGreat
namespace Go.Proofs.YtjpmeaagnhojgaaGreat
open Go Go.Sx

theorem canV_low {h : Hal} {i : Int} (hi : i < (h.ws.length : Int) + 2) : canV h i = .agg canZ ∧ isK h i = false := by
  have e1 : isK h i = false := decide_eq_false (by omega)
  unfold canV; rw [e1]; exact ⟨rfl, rfl⟩
theorem canV_can {h : Hal} {j : Nat} (hj : j < h.ks.length) : canV h ((h.ws.length : Int) + 2 + j) = .agg (Can.av h.ks[j]) ∧ isK h ((h.ws.length : Int) + 2 + j) = true := by
  have e1 : isK h ((h.ws.length : Int) + 2 + j) = true := decide_eq_true (by omega)
  unfold canV; rw [e1, ← kat_eq hj]; exact ⟨rfl, rfl⟩
theorem mName_wall {h : Hal} {s : Stg} {k : Nat} (hk : k < h.ws.length) : mName h s k = if hasN s.dr k then h.ws[k].cu else h.ws[k].mt := by
  unfold mName
  rw [if_pos (by omega), Int.toNat_natCast, List.getElem?_eq_getElem hk]
  rw [show curt h k = h.ws[k].cu by unfold curt; rw [Int.toNat_natCast, List.getElem?_eq_getElem hk]]
  rfl
theorem mName_floor {h : Hal} {s : Stg} : mName h s h.ws.length = h.fl := by unfold mName; rw [if_neg (by omega), if_pos rfl]
theorem mName_ceil {h : Hal} {s : Stg} : mName h s ((h.ws.length : Int) + 1) = h.ce := by unfold mName; rw [if_neg (by omega), if_neg (by omega), if_pos rfl]
theorem mName_can {h : Hal} {s : Stg} {j : Nat} (hj : j < h.ks.length) : mName h s ((h.ws.length : Int) + 2 + j) = h.ks[j].mt := by
  unfold mName
  rw [if_neg (by omega), if_neg (by omega), if_neg (by omega), kat_eq hj]
set_option maxRecDepth 100000 in
set_option maxHeartbeats 16000000 in
theorem c86 {h : Hal} {s : Stg} (g : Sit h s) {i : Int} (hi : SK h i) : PCall Tryz.prog 86 [.agg (stgL h s), I i] ⟨.agg (matS h s i).av, []⟩ := by
  have f3 := g.ok.f.2.2.1
  have f4 := g.ok.f.2.2.2.1
  have h0 := mName_ix g hi
  have hG := matG_get h0
  have hk0 := one_ok (c87 g.ok.f s hi) (one_ok (c172 (h := h) s) (one_ok (c173 g.ok.f s) (one_ok (c176 (ns := s.dr) (by have := g.sf.2; omega) i) (one_ok (c177 g.ok.f.1 (mName h s i)) pt0_ok))))
  unfold matS
  have l1 := mt_length h.ms
  have hlt := matIx_lt_len (mName h s i) h.ms 0
  cases hi with
  | wall k hk =>
    obtain ⟨v1, v2⟩ := canV_low (h := h) (i := k) (by omega)
    rw [v1, v2] at hk0
    have e1 := wa_get hk
    have hn := mName_wall (s := s) hk
    generalize matG h (mName h s k) = M at *
    cases hd : hasN s.dr k with
    | true =>
      rw [hd] at hn hk0
      rw [if_pos rfl] at hn
      rw [hn] at hk0 h0 hG hlt
      refine bs.pv (sx := nos) hk0 Tryz.func86 (by kernel_rfl) (by kernel_rfl) rfl ?_
      repeat' ((conv => whnf); (fail_if_success with_reducible refine Stop.go ?_); first | with_reducible refine wkA ?_ | ((with_reducible refine wkS ?_ ?_); · exact wkU) | ((with_reducible refine wkY ?_ ?_); · omega) | ((with_reducible refine wkN ?_ ?_); · omega) | ((with_reducible refine wkQ ?_ ?_); · omega) | ((with_reducible refine wkR ?_ ?_); · omega) | with_reducible refine wkB (fun _ => ?_) (fun _ => ?_) | refine Got.intro (by assumption) ?_ | refine Got.intro (asr_of (by assumption)) ?_ | refine Got.intro (one_hit _ _) ?_ | with_reducible refine Ap.new ?_); all_goals (conv => whnf)
      exact ret_of rfl rfl
    | false =>
      rw [hd] at hn hk0
      rw [if_neg (by simp)] at hn
      rw [hn] at hk0 h0 hG hlt
      refine bs.pv (sx := nos) hk0 Tryz.func86 (by kernel_rfl) (by kernel_rfl) rfl ?_
      repeat' ((conv => whnf); (fail_if_success with_reducible refine Stop.go ?_); first | with_reducible refine wkA ?_ | ((with_reducible refine wkS ?_ ?_); · exact wkU) | ((with_reducible refine wkY ?_ ?_); · omega) | ((with_reducible refine wkN ?_ ?_); · omega) | ((with_reducible refine wkQ ?_ ?_); · omega) | ((with_reducible refine wkR ?_ ?_); · omega) | with_reducible refine wkB (fun _ => ?_) (fun _ => ?_) | refine Got.intro (by assumption) ?_ | refine Got.intro (asr_of (by assumption)) ?_ | refine Got.intro (one_hit _ _) ?_ | with_reducible refine Ap.new ?_); all_goals (conv => whnf)
      exact ret_of rfl rfl
  | floor =>
    obtain ⟨v1, v2⟩ := canV_low (h := h) (i := h.ws.length) (by omega)
    rw [v1, v2] at hk0
    have hn := mName_floor (h := h) (s := s)
    generalize matG h (mName h s h.ws.length) = M at *
    rw [hn] at hk0 h0 hG hlt
    refine bs.pv (sx := nos) hk0 Tryz.func86 (by kernel_rfl) (by kernel_rfl) rfl ?_
    repeat' ((conv => whnf); (fail_if_success with_reducible refine Stop.go ?_); first | with_reducible refine wkA ?_ | ((with_reducible refine wkS ?_ ?_); · exact wkU) | ((with_reducible refine wkY ?_ ?_); · omega) | ((with_reducible refine wkN ?_ ?_); · omega) | ((with_reducible refine wkQ ?_ ?_); · omega) | ((with_reducible refine wkR ?_ ?_); · omega) | with_reducible refine wkB (fun _ => ?_) (fun _ => ?_) | refine Got.intro (by assumption) ?_ | refine Got.intro (asr_of (by assumption)) ?_ | refine Got.intro (one_hit _ _) ?_ | with_reducible refine Ap.new ?_); all_goals (conv => whnf)
    exact ret_of rfl rfl
  | ceil =>
    obtain ⟨v1, v2⟩ := canV_low (h := h) (i := (h.ws.length : Int) + 1) (by omega)
    rw [v1, v2] at hk0
    have hn := mName_ceil (h := h) (s := s)
    generalize matG h (mName h s ((h.ws.length : Int) + 1)) = M at *
    rw [hn] at hk0 h0 hG hlt
    refine bs.pv (sx := nos) hk0 Tryz.func86 (by kernel_rfl) (by kernel_rfl) rfl ?_
    repeat' ((conv => whnf); (fail_if_success with_reducible refine Stop.go ?_); first | with_reducible refine wkA ?_ | ((with_reducible refine wkS ?_ ?_); · exact wkU) | ((with_reducible refine wkY ?_ ?_); · omega) | ((with_reducible refine wkN ?_ ?_); · omega) | ((with_reducible refine wkQ ?_ ?_); · omega) | ((with_reducible refine wkR ?_ ?_); · omega) | with_reducible refine wkB (fun _ => ?_) (fun _ => ?_) | refine Got.intro (by assumption) ?_ | refine Got.intro (asr_of (by assumption)) ?_ | refine Got.intro (one_hit _ _) ?_ | with_reducible refine Ap.new ?_); all_goals (conv => whnf)
    exact ret_of rfl rfl
  | can j hj =>
    obtain ⟨v1, v2⟩ := canV_can hj
    rw [v1, v2] at hk0
    have hn := mName_can (s := s) hj
    generalize matG h (mName h s ((h.ws.length : Int) + 2 + j)) = M at *
    rw [hn] at hk0 h0 hG hlt
    refine bs.pv (sx := nos) hk0 Tryz.func86 (by kernel_rfl) (by kernel_rfl) rfl ?_
    repeat' ((conv => whnf); (fail_if_success with_reducible refine Stop.go ?_); first | with_reducible refine wkA ?_ | ((with_reducible refine wkS ?_ ?_); · exact wkU) | ((with_reducible refine wkY ?_ ?_); · omega) | ((with_reducible refine wkN ?_ ?_); · omega) | ((with_reducible refine wkQ ?_ ?_); · omega) | ((with_reducible refine wkR ?_ ?_); · omega) | with_reducible refine wkB (fun _ => ?_) (fun _ => ?_) | refine Got.intro (by assumption) ?_ | refine Got.intro (asr_of (by assumption)) ?_ | refine Got.intro (one_hit _ _) ?_ | with_reducible refine Ap.new ?_); all_goals (conv => whnf)
    exact ret_of rfl rfl
set_option maxRecDepth 100000 in
set_option maxHeartbeats 16000000 in
theorem c62 {h : Hal} {s : Stg} (g : Sit h s) {i : Int} (hi : SK h i) : PCall Tryz.prog 62 [h.av, s.av, I i] ⟨.agg (matS h s i).av, []⟩ := by
  have f3 := g.ok.f.2.2.1
  have f4 := g.ok.f.2.2.2.1
  have h0 := mName_ix g hi
  have hG := matG_get h0
  have hmx := mats_hit h (mName h s i)
  have hk0 := one_ok (c89 g.ok.f hi) (one_ok (c26 (ns := s.dr) (by have := g.sf.2; omega) i) (kR7_ok g.ok.f))
  unfold matS
  have l1 := mt_length h.ms
  have hlt := matIx_lt_len (mName h s i) h.ms 0
  cases hi with
  | wall k hk =>
    rw [show kindV h k = (0, (k : Int)) by unfold kindV; rw [if_pos (by omega)]] at hk0
    have e1 := wa_get hk
    have hn := mName_wall (s := s) hk
    generalize matG h (mName h s k) = M at *
    cases hd : hasN s.dr k with
    | true =>
      rw [hd] at hn hk0
      rw [if_pos rfl] at hn
      rw [hn] at h0 hG hlt hmx
      refine bs.pv (sx := nos) hk0 Tryz.func62 (by kernel_rfl) (by kernel_rfl) rfl ?_
      repeat' ((conv => whnf); (fail_if_success with_reducible refine Stop.go ?_); first | with_reducible refine wkA ?_ | ((with_reducible refine wkS ?_ ?_); · exact wkU) | ((with_reducible refine wkY ?_ ?_); · omega) | ((with_reducible refine wkN ?_ ?_); · omega) | ((with_reducible refine wkQ ?_ ?_); · omega) | ((with_reducible refine wkR ?_ ?_); · omega) | with_reducible refine wkB (fun _ => ?_) (fun _ => ?_) | refine Got.intro (by assumption) ?_ | refine Got.intro (asr_of (by assumption)) ?_ | refine Got.intro (one_hit _ _) ?_ | with_reducible refine Ap.new ?_); all_goals (conv => whnf)
      exact ret_of rfl rfl
    | false =>
      rw [hd] at hn hk0
      rw [if_neg (by simp)] at hn
      rw [hn] at h0 hG hlt hmx
      refine bs.pv (sx := nos) hk0 Tryz.func62 (by kernel_rfl) (by kernel_rfl) rfl ?_
      repeat' ((conv => whnf); (fail_if_success with_reducible refine Stop.go ?_); first | with_reducible refine wkA ?_ | ((with_reducible refine wkS ?_ ?_); · exact wkU) | ((with_reducible refine wkY ?_ ?_); · omega) | ((with_reducible refine wkN ?_ ?_); · omega) | ((with_reducible refine wkQ ?_ ?_); · omega) | ((with_reducible refine wkR ?_ ?_); · omega) | with_reducible refine wkB (fun _ => ?_) (fun _ => ?_) | refine Got.intro (by assumption) ?_ | refine Got.intro (asr_of (by assumption)) ?_ | refine Got.intro (one_hit _ _) ?_ | with_reducible refine Ap.new ?_); all_goals (conv => whnf)
      exact ret_of rfl rfl
  | floor =>
    rw [show kindV h h.ws.length = (1, 0) by unfold kindV; rw [if_neg (by omega), if_pos rfl]] at hk0
    have hn := mName_floor (h := h) (s := s)
    generalize matG h (mName h s h.ws.length) = M at *
    rw [hn] at h0 hG hlt hmx
    refine bs.pv (sx := nos) hk0 Tryz.func62 (by kernel_rfl) (by kernel_rfl) rfl ?_
    repeat' ((conv => whnf); (fail_if_success with_reducible refine Stop.go ?_); first | with_reducible refine wkA ?_ | ((with_reducible refine wkS ?_ ?_); · exact wkU) | ((with_reducible refine wkY ?_ ?_); · omega) | ((with_reducible refine wkN ?_ ?_); · omega) | ((with_reducible refine wkQ ?_ ?_); · omega) | ((with_reducible refine wkR ?_ ?_); · omega) | with_reducible refine wkB (fun _ => ?_) (fun _ => ?_) | refine Got.intro (by assumption) ?_ | refine Got.intro (asr_of (by assumption)) ?_ | refine Got.intro (one_hit _ _) ?_ | with_reducible refine Ap.new ?_); all_goals (conv => whnf)
    exact ret_of rfl rfl
  | ceil =>
    rw [show kindV h ((h.ws.length : Int) + 1) = (2, 0) by unfold kindV; rw [if_neg (by omega), if_neg (by omega), if_pos rfl]] at hk0
    have hn := mName_ceil (h := h) (s := s)
    generalize matG h (mName h s ((h.ws.length : Int) + 1)) = M at *
    rw [hn] at h0 hG hlt hmx
    refine bs.pv (sx := nos) hk0 Tryz.func62 (by kernel_rfl) (by kernel_rfl) rfl ?_
    repeat' ((conv => whnf); (fail_if_success with_reducible refine Stop.go ?_); first | with_reducible refine wkA ?_ | ((with_reducible refine wkS ?_ ?_); · exact wkU) | ((with_reducible refine wkY ?_ ?_); · omega) | ((with_reducible refine wkN ?_ ?_); · omega) | ((with_reducible refine wkQ ?_ ?_); · omega) | ((with_reducible refine wkR ?_ ?_); · omega) | with_reducible refine wkB (fun _ => ?_) (fun _ => ?_) | refine Got.intro (by assumption) ?_ | refine Got.intro (asr_of (by assumption)) ?_ | refine Got.intro (one_hit _ _) ?_ | with_reducible refine Ap.new ?_); all_goals (conv => whnf)
    exact ret_of rfl rfl
  | can j hj =>
    rw [show kindV h ((h.ws.length : Int) + 2 + j) = (3, (j : Int)) by unfold kindV; rw [if_neg (by omega), if_neg (by omega), if_neg (by omega)]; simp; omega] at hk0
    have e1 := ca_get hj
    have hn := mName_can (s := s) hj
    generalize matG h (mName h s ((h.ws.length : Int) + 2 + j)) = M at *
    rw [hn] at h0 hG hlt hmx
    refine bs.pv (sx := nos) hk0 Tryz.func62 (by kernel_rfl) (by kernel_rfl) rfl ?_
    repeat' ((conv => whnf); (fail_if_success with_reducible refine Stop.go ?_); first | with_reducible refine wkA ?_ | ((with_reducible refine wkS ?_ ?_); · exact wkU) | ((with_reducible refine wkY ?_ ?_); · omega) | ((with_reducible refine wkN ?_ ?_); · omega) | ((with_reducible refine wkQ ?_ ?_); · omega) | ((with_reducible refine wkR ?_ ?_); · omega) | with_reducible refine wkB (fun _ => ?_) (fun _ => ?_) | refine Got.intro (by assumption) ?_ | refine Got.intro (asr_of (by assumption)) ?_ | refine Got.intro (one_hit _ _) ?_ | with_reducible refine Ap.new ?_); all_goals (conv => whnf)
    exact ret_of rfl rfl
def matA (h : Hal) (s : Stg) (i : Int) : Mat := if surE h s i = 0 then matS h s i else mat0
abbrev abs4 (m : Mat) : AV := .agg [I m.a, I m.b, I m.c, I m.d]
set_option maxRecDepth 100000 in
set_option maxHeartbeats 8000000 in
theorem c60 {h : Hal} (hk : h.ok) {s : Stg} (hs : s.few) (i : Int) : PCall Tryz.prog 60 [h.av, s.av, I i] ⟨.tup [abs4 (matA h s i), I (surE h s i)], []⟩ := by
  have hk0 := one_ok (c109 hk hs i) pt0_ok
  by_cases he : surE h s i = 0
  · have e := surE_zero he
    have g := sit_of hk hs e.1
    have hk1 := one_ok (c86 g (sk_of e.2.1 e.2.2)) hk0
    have e2 : matA h s i = matS h s i := by unfold matA; rw [if_pos he]
    rw [e2]
    rw [he] at hk1 ⊢
    refine bs.pv (sx := nos) hk1 Tryz.func60 (by kernel_rfl) (by kernel_rfl) rfl ?_
    repeat' ((conv => whnf); (fail_if_success with_reducible refine Stop.go ?_); first | with_reducible refine wkA ?_ | ((with_reducible refine wkS ?_ ?_); · exact wkU) | ((with_reducible refine wkY ?_ ?_); · omega) | ((with_reducible refine wkN ?_ ?_); · omega) | ((with_reducible refine wkQ ?_ ?_); · omega) | ((with_reducible refine wkR ?_ ?_); · omega) | with_reducible refine wkB (fun _ => ?_) (fun _ => ?_) | refine Got.intro (by assumption) ?_ | refine Got.intro (asr_of (by assumption)) ?_ | refine Got.intro (one_hit _ _) ?_ | with_reducible refine Ap.new ?_); all_goals (conv => whnf)
    exact ret_of rfl rfl
  · have e2 : matA h s i = mat0 := by unfold matA; rw [if_neg he]
    rw [e2]
    refine bs.pv (sx := nos) hk0 Tryz.func60 (by kernel_rfl) (by kernel_rfl) rfl ?_
    repeat' ((conv => whnf); (fail_if_success with_reducible refine Stop.go ?_); first | with_reducible refine wkA ?_ | ((with_reducible refine wkS ?_ ?_); · exact wkU) | ((with_reducible refine wkY ?_ ?_); · omega) | ((with_reducible refine wkN ?_ ?_); · omega) | ((with_reducible refine wkQ ?_ ?_); · omega) | ((with_reducible refine wkR ?_ ?_); · omega) | with_reducible refine wkB (fun _ => ?_) (fun _ => ?_) | refine Got.intro (by assumption) ?_ | refine Got.intro (asr_of (by assumption)) ?_ | refine Got.intro (one_hit _ _) ?_ | with_reducible refine Ap.new ?_); all_goals (conv => whnf)
    exact ret_of rfl rfl
set_option maxRecDepth 100000 in
set_option maxHeartbeats 8000000 in
theorem c61 {h : Hal} (hk : h.ok) {s : Stg} (hs : s.few) (i : Int) : PCall Tryz.prog 61 [h.av, s.av, I i] ⟨.tup [I (matA h s i).sc, I (surE h s i)], []⟩ := by
  have hk0 := one_ok (c109 hk hs i) pt0_ok
  by_cases he : surE h s i = 0
  · have e := surE_zero he
    have g := sit_of hk hs e.1
    have hk1 := one_ok (c86 g (sk_of e.2.1 e.2.2)) hk0
    have e2 : matA h s i = matS h s i := by unfold matA; rw [if_pos he]
    rw [e2]
    rw [he] at hk1 ⊢
    refine bs.pv (sx := nos) hk1 Tryz.func61 (by kernel_rfl) (by kernel_rfl) rfl ?_
    repeat' ((conv => whnf); (fail_if_success with_reducible refine Stop.go ?_); first | with_reducible refine wkA ?_ | ((with_reducible refine wkS ?_ ?_); · exact wkU) | ((with_reducible refine wkY ?_ ?_); · omega) | ((with_reducible refine wkN ?_ ?_); · omega) | ((with_reducible refine wkQ ?_ ?_); · omega) | ((with_reducible refine wkR ?_ ?_); · omega) | with_reducible refine wkB (fun _ => ?_) (fun _ => ?_) | refine Got.intro (by assumption) ?_ | refine Got.intro (asr_of (by assumption)) ?_ | refine Got.intro (one_hit _ _) ?_ | with_reducible refine Ap.new ?_); all_goals (conv => whnf)
    exact ret_of rfl rfl
  · have e2 : matA h s i = mat0 := by unfold matA; rw [if_neg he]
    rw [e2]
    refine bs.pv (sx := nos) hk0 Tryz.func61 (by kernel_rfl) (by kernel_rfl) rfl ?_
    repeat' ((conv => whnf); (fail_if_success with_reducible refine Stop.go ?_); first | with_reducible refine wkA ?_ | ((with_reducible refine wkS ?_ ?_); · exact wkU) | ((with_reducible refine wkY ?_ ?_); · omega) | ((with_reducible refine wkN ?_ ?_); · omega) | ((with_reducible refine wkQ ?_ ?_); · omega) | ((with_reducible refine wkR ?_ ?_); · omega) | with_reducible refine wkB (fun _ => ?_) (fun _ => ?_) | refine Got.intro (by assumption) ?_ | refine Got.intro (asr_of (by assumption)) ?_ | refine Got.intro (one_hit _ _) ?_ | with_reducible refine Ap.new ?_); all_goals (conv => whnf)
    exact ret_of rfl rfl

/-! ### HallMaterials -/
noncomputable def kNs (h : Hal) (s : Stg) : PC := ins 19 (one [s.av] ⟨Bo (shortB s), []⟩) (kN h)
theorem kNs_ok (h : Hal) (s : Stg) : PCOK Tryz.prog (kNs h s) := one_ok (c19 s) (kN_ok h)
noncomputable def kLs (h : Hal) (s : Stg) : PC := ins 19 (one [s.av] ⟨Bo (shortB s), []⟩) (ins 29 (one [s.av] ⟨s.av, []⟩) (kL h))
theorem kLs_ok {h : Hal} (hk : h.ok) {s : Stg} (hs : s.few) : PCOK Tryz.prog (kLs h s) := one_ok (c19 s) (one_ok (c29 hs) (kL_ok hk))
set_option maxRecDepth 100000 in
set_option maxHeartbeats 16000000 in
theorem c14 (h : Hal) (s : Stg) (i : Int) : PCall Tryz.prog 14 [h.av, s.av, I i] ⟨Bo true, []⟩ := by
  by_cases hb : (fewB h && shortB s) = true
  · rw [Bool.and_eq_true] at hb
    have hk := few_ok hb.1
    have hs := short_few hb.2
    obtain ⟨hb1, hb2⟩ := hb
    have hk1 := one_ok (c60 hk hs i) (one_ok (c61 hk hs i) (one_ok (c57 hk hs i) (kLs_ok hk hs)))
    by_cases he : surE h s i = 0
    · have e := surE_zero he
      have g := sit_of hk hs e.1
      have hk2 := one_ok (c62 g (sk_of e.2.1 e.2.2)) hk1
      have e2 : matA h s i = matS h s i := by unfold matA; rw [if_pos he]
      rw [e2, he] at hk2
      clear hk1
      refine bs.pv (sx := nos) hk2 Tryz.func14 (by kernel_rfl) (by kernel_rfl) rfl ?_
      repeat' ((conv => whnf); (fail_if_success with_reducible refine Stop.go ?_); first | with_reducible refine wkA ?_ | ((with_reducible refine wkS ?_ ?_); · exact wkU) | ((with_reducible refine wkY ?_ ?_); · omega) | ((with_reducible refine wkN ?_ ?_); · omega) | ((with_reducible refine wkQ ?_ ?_); · omega) | ((with_reducible refine wkR ?_ ?_); · omega) | with_reducible refine wkB (fun _ => ?_) (fun _ => ?_) | refine Got.intro (by assumption) ?_ | refine Got.intro (asr_of (by assumption)) ?_ | refine Got.intro (one_hit _ _) ?_ | with_reducible refine Ap.new ?_); all_goals (conv => whnf)
      clear hk2
      all_goals first
        | exact ret_bool rfl
        | (exfalso; simp_all; done)
        | exact ret_bool (by simp_all; done)
    · have e2 : matA h s i = mat0 := by unfold matA; rw [if_neg he]
      rw [e2] at hk1
      refine bs.pv (sx := nos) hk1 Tryz.func14 (by kernel_rfl) (by kernel_rfl) rfl ?_
      repeat' ((conv => whnf); (fail_if_success with_reducible refine Stop.go ?_); first | with_reducible refine wkA ?_ | ((with_reducible refine wkS ?_ ?_); · exact wkU) | ((with_reducible refine wkY ?_ ?_); · omega) | ((with_reducible refine wkN ?_ ?_); · omega) | ((with_reducible refine wkQ ?_ ?_); · omega) | ((with_reducible refine wkR ?_ ?_); · omega) | with_reducible refine wkB (fun _ => ?_) (fun _ => ?_) | refine Got.intro (by assumption) ?_ | refine Got.intro (asr_of (by assumption)) ?_ | refine Got.intro (one_hit _ _) ?_ | with_reducible refine Ap.new ?_); all_goals (conv => whnf)
      clear hk1
      all_goals first
        | exact ret_bool rfl
        | (exfalso; simp_all; done)
        | exact ret_bool (by simp_all; done)
  · refine bs.pv (sx := nos) (kNs_ok h s) Tryz.func14 (by kernel_rfl) (by kernel_rfl) rfl ?_
    repeat' ((conv => whnf); (fail_if_success with_reducible refine Stop.go ?_); first | with_reducible refine wkA ?_ | ((with_reducible refine wkS ?_ ?_); · exact wkU) | ((with_reducible refine wkY ?_ ?_); · omega) | ((with_reducible refine wkN ?_ ?_); · omega) | ((with_reducible refine wkQ ?_ ?_); · omega) | ((with_reducible refine wkR ?_ ?_); · omega) | with_reducible refine wkB (fun _ => ?_) (fun _ => ?_) | refine Got.intro (by assumption) ?_ | refine Got.intro (asr_of (by assumption)) ?_ | refine Got.intro (one_hit _ _) ?_ | with_reducible refine Ap.new ?_); all_goals (conv => whnf)
    all_goals first
      | exact ret_bool rfl
      | (exfalso; simp_all; done)
end Go.Proofs.YtjpmeaagnhojgaaGreat
namespace Go.Proofs.YtjpmeaagnhojgaaGreat
open Go Go.Sx

/-! ### Whole roots -/
theorem sq_ex (n : Nat) : ∃ r, r * r ≤ n ∧ n < (r + 1) * (r + 1) := by
  induction n with
  | zero => exact ⟨0, by decide, by decide⟩
  | succ n ih =>
    obtain ⟨r, h1, h2⟩ := ih
    by_cases h : (r + 1) * (r + 1) ≤ n + 1
    · refine ⟨r + 1, h, ?_⟩
      have : (r + 1 + 1) * (r + 1 + 1) = (r + 1) * (r + 1) + 2 * (r + 1) + 1 := by grind
      omega
    · exact ⟨r, by omega, by omega⟩
noncomputable def isq (n : Int) : Int := (Classical.choose (sq_ex n.toNat) : Nat)
theorem isq_spec {n : Int} (h : 0 ≤ n) : 0 ≤ isq n ∧ isq n * isq n ≤ n ∧ n < (isq n + 1) * (isq n + 1) := by
  obtain ⟨h1, h2⟩ := Classical.choose_spec (sq_ex n.toNat)
  unfold isq
  generalize Classical.choose (sq_ex n.toNat) = r at *
  refine ⟨by omega, ?_, ?_⟩
  · have : ((r * r : Nat) : Int) ≤ (n.toNat : Int) := by exact_mod_cast h1
    rw [Int.natCast_mul] at this; omega
  · have : ((n.toNat : Nat) : Int) < (((r + 1) * (r + 1) : Nat) : Int) := by exact_mod_cast h2
    rw [Int.natCast_mul] at this
    have e : ((r + 1 : Nat) : Int) = (r : Int) + 1 := by omega
    rw [e] at this; omega
theorem sq_mono {a b : Int} (ha : 0 ≤ a) (h : a ≤ b) : a * a ≤ b * b := Int.mul_le_mul h h ha (by omega)
theorem sq_lt {a b : Int} (hb : 0 ≤ b) (h : a * a < b * b) (ha : 0 ≤ a) : a < b := by
  rcases Int.lt_or_le a b with h1 | h1
  · exact h1
  · have := sq_mono hb h1; omega
theorem isq_unique {n r : Int} (h0 : 0 ≤ n) (hr : 0 ≤ r) (h1 : r * r ≤ n) (h2 : n < (r + 1) * (r + 1)) : r = isq n := by
  obtain ⟨g0, g1, g2⟩ := isq_spec h0
  have a1 := sq_lt (a := r) (b := isq n + 1) (by omega) (by omega) hr
  have a2 := sq_lt (a := isq n) (b := r + 1) (by omega) (by omega) g0
  omega
theorem sq_bd {r B : Int} (h0 : 0 ≤ r) (h1 : r ≤ B) : 0 ≤ r * r ∧ r * r ≤ B * B := ⟨Int.mul_nonneg h0 h0, sq_mono h0 h1⟩
theorem conv_int {y : Nat} {r : Int} (h : floatToIntVal .f64 y .i64 = some r) : convFAV (tget tbl) 228 3 (.flt .f64 y) = some (I r) := by
  unfold floatToIntVal at h
  show (match (FloatKind.f64.decode y).toInt .zero with
    | some n => cond (decide (IntKind.i64.min ≤ n ∧ n ≤ IntKind.i64.max)) (some (AV.int .i64 n)) none
    | none => none) = _
  split at h
  · rename_i n hn
    rw [hn]
    dsimp only
    split at h
    · rename_i hr
      cases h
      rw [decide_eq_true hr]; rfl
    · cases h
  · cases h
set_option maxRecDepth 100000 in
set_option maxHeartbeats 8000000 in
theorem c175 {n : Int} (h0 : 0 ≤ n) (h1 : n < 9007199254740992) : PCall Tryz.prog 175 [I n] ⟨I (isq n), []⟩ := by
  obtain ⟨y, r0, e1, e2, e3, e4⟩ := sqrt_int h0 h1
  refine bs.pv (sx := nos) (one_ok (c202 e1) pt0_ok) Tryz.func175 (by kernel_rfl) (by kernel_rfl) rfl ?_
  have hc := conv_int e2
  repeat' ((conv => whnf); (fail_if_success with_reducible refine Stop.go ?_); first | with_reducible refine wkA ?_ | ((with_reducible refine wkS ?_ ?_); · exact wkU) | ((with_reducible refine wkY ?_ ?_); · omega) | ((with_reducible refine wkN ?_ ?_); · omega) | ((with_reducible refine wkQ ?_ ?_); · omega) | ((with_reducible refine wkR ?_ ?_); · omega) | with_reducible refine wkB (fun _ => ?_) (fun _ => ?_) | refine Got.intro (by assumption) ?_ | refine Got.intro (asr_of (by assumption)) ?_ | refine Got.intro (one_hit _ _) ?_ | with_reducible refine Ap.new ?_); all_goals (conv => whnf)
  split
  rotate_left
  · rename_i hx
    exfalso
    change ret (convFAV (tget tbl) 228 3 (.flt .f64 y)) = none at hx
    rw [hc] at hx
    cases hx
  rename_i x hx
  change ret (convFAV (tget tbl) 228 3 (.flt .f64 y)) = some x at hx
  rw [hc] at hx
  cases hx
  repeat' ((conv => whnf); (fail_if_success with_reducible refine Stop.go ?_); first | with_reducible refine wkA ?_ | ((with_reducible refine wkS ?_ ?_); · exact wkU) | ((with_reducible refine wkY ?_ ?_); · omega) | ((with_reducible refine wkN ?_ ?_); · omega) | ((with_reducible refine wkQ ?_ ?_); · omega) | ((with_reducible refine wkR ?_ ?_); · omega) | with_reducible refine wkB (fun _ => ?_) (fun _ => ?_) | refine Got.intro (by assumption) ?_ | refine Got.intro (asr_of (by assumption)) ?_ | refine Got.intro (one_hit _ _) ?_ | with_reducible refine Ap.new ?_); all_goals (conv => whnf)
  refine loopV (S := Int) (fun t => t.toNat) (fun t => [(0, I n), (3, I t)]) (fun _ => []) 0 0 (fun t => 0 ≤ t ∧ t ≤ 268435456) r0 ⟨e3, e4⟩ (Nat.le_refl _) [] rfl (by (repeat' (first | exact trivial | refine And.intro ?_ ?_ | exact rfl | exact ⟨_, rfl, rfl, rfl⟩))) (by (repeat' (first | exact trivial | refine And.intro ?_ ?_ | exact rfl | exact ⟨_, rfl, rfl, rfl⟩))) ?_
  clear e1 e2 e3 e4
  rintro r ⟨g1, g2⟩
  try dsimp only at g1 g2 ⊢
  have hb := sq_bd g1 g2
  have hw : IntKind.i64.wrap (r * r) = r * r := W_eq (by omega) (by omega)
  refine bs.av (sx := nos) pt0_ok ?_
  by_cases hc : n < r * r
  · have hp : 0 < r := by
      rcases Int.lt_or_le 0 r with h | h
      · exact h
      · have : r = 0 := by omega
        subst this; omega
    repeat' ((conv => whnf); (fail_if_success with_reducible refine Stop.go ?_); first | with_reducible refine wkA ?_ | ((with_reducible refine wkS ?_ ?_); · exact wkU) | ((with_reducible refine wkY ?_ ?_); · omega) | ((with_reducible refine wkN ?_ ?_); · omega) | ((with_reducible refine wkQ ?_ ?_); · omega) | ((with_reducible refine wkR ?_ ?_); · omega) | with_reducible refine wkB (fun _ => ?_) (fun _ => ?_) | refine Got.intro (by assumption) ?_ | refine Got.intro (asr_of (by assumption)) ?_ | refine Got.intro (one_hit _ _) ?_ | with_reducible refine Ap.new ?_); all_goals (conv => whnf)
    have hv : IntKind.i64.wrap (r - 1) = r - 1 := W_eq (by omega) (by omega)
    exact Done.mk ⟨_, [], rfl, by (repeat' (first | exact trivial | refine And.intro ?_ ?_ | exact rfl | exact ⟨_, rfl, rfl, rfl⟩)), by (repeat' (first | exact trivial | refine And.intro ?_ ?_ | exact rfl | exact ⟨_, rfl, rfl, rfl⟩)), ⟨by omega, by omega⟩, by omega⟩
  · repeat' ((conv => whnf); (fail_if_success with_reducible refine Stop.go ?_); first | with_reducible refine wkA ?_ | ((with_reducible refine wkS ?_ ?_); · exact wkU) | ((with_reducible refine wkY ?_ ?_); · omega) | ((with_reducible refine wkN ?_ ?_); · omega) | ((with_reducible refine wkQ ?_ ?_); · omega) | ((with_reducible refine wkR ?_ ?_); · omega) | with_reducible refine wkB (fun _ => ?_) (fun _ => ?_) | refine Got.intro (by assumption) ?_ | refine Got.intro (asr_of (by assumption)) ?_ | refine Got.intro (one_hit _ _) ?_ | with_reducible refine Ap.new ?_); all_goals (conv => whnf)
    refine loopV (S := Int) (fun t => (n - t).toNat) (fun t => [(0, I n), (3, I t)]) (fun _ => []) 0 0 (fun t => 0 ≤ t ∧ t * t ≤ n) r ⟨g1, by omega⟩ (Nat.le_refl _) [] rfl (by (repeat' (first | exact trivial | refine And.intro ?_ ?_ | exact rfl | exact ⟨_, rfl, rfl, rfl⟩))) (by (repeat' (first | exact trivial | refine And.intro ?_ ?_ | exact rfl | exact ⟨_, rfl, rfl, rfl⟩))) ?_
    clear hc hw hb g1 g2
    rintro r ⟨g1, g2⟩
    try dsimp only at g1 g2 ⊢
    have g3 : r < 94906267 := sq_lt (by omega) (by omega) g1
    have hw1 : IntKind.i64.wrap (r + 1) = r + 1 := W_eq (by omega) (by omega)
    have hb := sq_bd (r := r + 1) (B := 94906267) (by omega) (by omega)
    have hw2 : IntKind.i64.wrap (IntKind.i64.wrap (r + 1) * IntKind.i64.wrap (r + 1)) = (r + 1) * (r + 1) := by rw [hw1]; exact W_eq (by omega) (by omega)
    refine bs.av (sx := nos) pt0_ok ?_
    by_cases hc : (r + 1) * (r + 1) ≤ n
    · repeat' ((conv => whnf); (fail_if_success with_reducible refine Stop.go ?_); first | with_reducible refine wkA ?_ | ((with_reducible refine wkS ?_ ?_); · exact wkU) | ((with_reducible refine wkY ?_ ?_); · omega) | ((with_reducible refine wkN ?_ ?_); · omega) | ((with_reducible refine wkQ ?_ ?_); · omega) | ((with_reducible refine wkR ?_ ?_); · omega) | with_reducible refine wkB (fun _ => ?_) (fun _ => ?_) | refine Got.intro (by assumption) ?_ | refine Got.intro (asr_of (by assumption)) ?_ | refine Got.intro (one_hit _ _) ?_ | with_reducible refine Ap.new ?_); all_goals (conv => whnf)
      have hrn : r < n := by
        have : (r + 1) * (r + 1) = r * r + 2 * r + 1 := by grind
        have hz := Int.mul_nonneg g1 g1
        omega
      exact Done.mk ⟨_, [], rfl, by (repeat' (first | exact trivial | refine And.intro ?_ ?_ | exact rfl | exact ⟨_, rfl, rfl, rfl⟩)), by (repeat' (first | exact trivial | refine And.intro ?_ ?_ | exact rfl | exact ⟨_, rfl, rfl, rfl⟩)), ⟨by omega, by rw [hw1]; exact hc⟩, by rw [hw1]; omega⟩
    · repeat' ((conv => whnf); (fail_if_success with_reducible refine Stop.go ?_); first | with_reducible refine wkA ?_ | ((with_reducible refine wkS ?_ ?_); · exact wkU) | ((with_reducible refine wkY ?_ ?_); · omega) | ((with_reducible refine wkN ?_ ?_); · omega) | ((with_reducible refine wkQ ?_ ?_); · omega) | ((with_reducible refine wkR ?_ ?_); · omega) | with_reducible refine wkB (fun _ => ?_) (fun _ => ?_) | refine Got.intro (by assumption) ?_ | refine Got.intro (asr_of (by assumption)) ?_ | refine Got.intro (one_hit _ _) ?_ | with_reducible refine Ap.new ?_); all_goals (conv => whnf)
      exact ret_int (isq_unique h0 g1 g2 (by omega))
def bk : Nat → Int
  | 0 => 0
  | k + 1 => ((2 ^ k : Nat) : Int)
theorem bk_half (k : Nat) : IntKind.i64.wrap ((bk (k + 1)).tdiv 2) = bk k ∨ 62 ≤ k := by
  by_cases hk : 62 ≤ k
  · exact .inr hk
  refine .inl ?_
  have hb : 2 ^ k ≤ 2 ^ 62 := Nat.pow_le_pow_right (by decide) (by omega)
  unfold bk
  cases k with
  | zero => decide
  | succ k =>
    dsimp only
    have e : ((2 ^ (k + 1) : Nat) : Int).tdiv 2 = ((2 ^ k : Nat) : Int) := by
      rw [Int.tdiv_eq_ediv_of_nonneg (Int.natCast_nonneg _)]
      rw [Nat.pow_succ]; omega
    rw [e]
    rw [Nat.pow_succ] at hb
    have h1 : (0 : Int) ≤ ((2 ^ k : Nat) : Int) := Int.natCast_nonneg _
    exact W_eq (by omega) (by omega)
set_option maxRecDepth 100000 in
set_option maxHeartbeats 8000000 in
theorem c126 {n : Int} (h0 : 0 ≤ n) (h1 : n < 9007199254740992) : PCall Tryz.prog 126 [I n] ⟨I (isq n), []⟩ := by
  refine bs.pv (sx := nos) pt0_ok Tryz.func126 (by kernel_rfl) (by kernel_rfl) rfl ?_
  conv => whnf
  refine loopV (S := Nat × Int) (fun t => t.1) (fun t => [(0, I n), (3, I t.2), (4, I (bk t.1))]) (fun _ => []) 0 0 (fun t => t.1 ≤ 31 ∧ 0 ≤ t.2 ∧ t.2 * t.2 ≤ n ∧ n < (t.2 + ((2 ^ t.1 : Nat) : Int)) * (t.2 + ((2 ^ t.1 : Nat) : Int))) (31, 0) ⟨by decide, by decide, by simpa using h0, by
    have : ((0 : Int) + ((2 ^ 31 : Nat) : Int)) * (0 + ((2 ^ 31 : Nat) : Int)) = 4611686018427387904 := by decide
    show n < ((0 : Int) + ((2 ^ 31 : Nat) : Int)) * (0 + ((2 ^ 31 : Nat) : Int))
    omega⟩ (Nat.le_refl _) [] rfl (by (repeat' (first | exact trivial | refine And.intro ?_ ?_ | exact rfl | exact ⟨_, rfl, rfl, rfl⟩))) (by (repeat' (first | exact trivial | refine And.intro ?_ ?_ | exact rfl | exact ⟨_, rfl, rfl, rfl⟩))) ?_
  rintro ⟨k, r⟩ ⟨g0, g1, g2, g3⟩
  dsimp only at g0 g1 g2 g3 ⊢
  have g4 : r < 94906267 := sq_lt (by omega) (by omega) g1
  refine bs.av (sx := nos) pt0_ok ?_
  cases k with
  | zero =>
    repeat' ((conv => whnf); (fail_if_success with_reducible refine Stop.go ?_); first | with_reducible refine wkA ?_ | ((with_reducible refine wkS ?_ ?_); · exact wkU) | ((with_reducible refine wkY ?_ ?_); · omega) | ((with_reducible refine wkN ?_ ?_); · omega) | ((with_reducible refine wkQ ?_ ?_); · omega) | ((with_reducible refine wkR ?_ ?_); · omega) | with_reducible refine wkB (fun _ => ?_) (fun _ => ?_) | refine Got.intro (by assumption) ?_ | refine Got.intro (asr_of (by assumption)) ?_ | refine Got.intro (one_hit _ _) ?_ | with_reducible refine Ap.new ?_); all_goals (conv => whnf)
    exact ret_int (isq_unique h0 g1 g2 (by simpa using g3))
  | succ k =>
    have hb : 2 ^ k ≤ 2 ^ 30 := Nat.pow_le_pow_right (by decide) (by omega)
    have hp : 0 < 2 ^ k := Nat.pow_pos (by decide)
    have hh : IntKind.i64.wrap ((bk (k + 1)).tdiv 2) = bk k := (bk_half k).resolve_right (by omega)
    have hk1 : bk (k + 1) = ((2 ^ k : Nat) : Int) := rfl
    have e2 : ((2 ^ (k + 1) : Nat) : Int) = 2 * ((2 ^ k : Nat) : Int) := by rw [Nat.pow_succ]; omega
    rw [e2] at g3
    rw [hk1] at hh ⊢
    generalize hbk : ((2 ^ k : Nat) : Int) = b at *
    have hb' : 0 < b ∧ b ≤ 1073741824 := by omega
    have hw1 : IntKind.i64.wrap (r + b) = r + b := W_eq (by omega) (by omega)
    have hq := sq_bd (r := r + b) (B := 1168648091) (by omega) (by omega)
    have hw2 : IntKind.i64.wrap (IntKind.i64.wrap (r + b) * IntKind.i64.wrap (r + b)) = (r + b) * (r + b) := by rw [hw1]; exact W_eq (by omega) (by omega)
    by_cases hc : (r + b) * (r + b) ≤ n
    · repeat' ((conv => whnf); (fail_if_success with_reducible refine Stop.go ?_); first | with_reducible refine wkA ?_ | ((with_reducible refine wkS ?_ ?_); · exact wkU) | ((with_reducible refine wkY ?_ ?_); · omega) | ((with_reducible refine wkN ?_ ?_); · omega) | ((with_reducible refine wkQ ?_ ?_); · omega) | ((with_reducible refine wkR ?_ ?_); · omega) | with_reducible refine wkB (fun _ => ?_) (fun _ => ?_) | refine Got.intro (by assumption) ?_ | refine Got.intro (asr_of (by assumption)) ?_ | refine Got.intro (one_hit _ _) ?_ | with_reducible refine Ap.new ?_); all_goals (conv => whnf)
      exact Done.mk ⟨(k, IntKind.i64.wrap (r + b)), [], rfl, by rw [← hh]; (repeat' (first | exact trivial | refine And.intro ?_ ?_ | exact rfl | exact ⟨_, rfl, rfl, rfl⟩)), by (repeat' (first | exact trivial | refine And.intro ?_ ?_ | exact rfl | exact ⟨_, rfl, rfl, rfl⟩)), ⟨by omega, by dsimp only; omega, by dsimp only; rw [hw1]; exact hc, by
        dsimp only
        rw [hw1]
        have : r + b + b = r + 2 * b := by omega
        rw [hbk, this]; exact g3⟩, by dsimp only; omega⟩
    · repeat' ((conv => whnf); (fail_if_success with_reducible refine Stop.go ?_); first | with_reducible refine wkA ?_ | ((with_reducible refine wkS ?_ ?_); · exact wkU) | ((with_reducible refine wkY ?_ ?_); · omega) | ((with_reducible refine wkN ?_ ?_); · omega) | ((with_reducible refine wkQ ?_ ?_); · omega) | ((with_reducible refine wkR ?_ ?_); · omega) | with_reducible refine wkB (fun _ => ?_) (fun _ => ?_) | refine Got.intro (by assumption) ?_ | refine Got.intro (asr_of (by assumption)) ?_ | refine Got.intro (one_hit _ _) ?_ | with_reducible refine Ap.new ?_); all_goals (conv => whnf)
      exact Done.mk ⟨(k, r), [], rfl, by rw [← hh]; (repeat' (first | exact trivial | refine And.intro ?_ ?_ | exact rfl | exact ⟨_, rfl, rfl, rfl⟩)), by (repeat' (first | exact trivial | refine And.intro ?_ ?_ | exact rfl | exact ⟨_, rfl, rfl, rfl⟩)), ⟨by omega, g1, g2, by dsimp only; rw [hbk]; omega⟩, by dsimp only; omega⟩
set_option maxHeartbeats 4000000 in
theorem c127 {n : Int} (h0 : 0 ≤ n) (h1 : n < 9007199254740992) : PCall Tryz.prog 127 [I n] ⟨I (if isq n * isq n < n then isq n + 1 else isq n), []⟩ := by
  obtain ⟨g1, g2, g3⟩ := isq_spec h0
  have g4 : isq n < 94906267 := sq_lt (by omega) (by omega) g1
  have hb := sq_bd g1 (show isq n ≤ 94906267 by omega)
  have hw : IntKind.i64.wrap (isq n * isq n) = isq n * isq n := W_eq (by omega) (by omega)
  have hw2 : IntKind.i64.wrap (isq n + 1) = isq n + 1 := W_eq (by omega) (by omega)
  refine bs.pv (sx := nos) (one_ok (c126 h0 h1) pt0_ok) Tryz.func127 (by kernel_rfl) (by kernel_rfl) rfl ?_
  by_cases hc : isq n * isq n < n
  · rw [if_pos hc]
    repeat' ((conv => whnf); (fail_if_success with_reducible refine Stop.go ?_); first | with_reducible refine wkA ?_ | ((with_reducible refine wkS ?_ ?_); · exact wkU) | ((with_reducible refine wkY ?_ ?_); · omega) | ((with_reducible refine wkN ?_ ?_); · omega) | ((with_reducible refine wkQ ?_ ?_); · omega) | ((with_reducible refine wkR ?_ ?_); · omega) | with_reducible refine wkB (fun _ => ?_) (fun _ => ?_) | refine Got.intro (by assumption) ?_ | refine Got.intro (asr_of (by assumption)) ?_ | refine Got.intro (one_hit _ _) ?_ | with_reducible refine Ap.new ?_); all_goals (conv => whnf)
    exact ret_int hw2
  · rw [if_neg hc]
    repeat' ((conv => whnf); (fail_if_success with_reducible refine Stop.go ?_); first | with_reducible refine wkA ?_ | ((with_reducible refine wkS ?_ ?_); · exact wkU) | ((with_reducible refine wkY ?_ ?_); · omega) | ((with_reducible refine wkN ?_ ?_); · omega) | ((with_reducible refine wkQ ?_ ?_); · omega) | ((with_reducible refine wkR ?_ ?_); · omega) | with_reducible refine wkB (fun _ => ?_) (fun _ => ?_) | refine Got.intro (by assumption) ?_ | refine Got.intro (asr_of (by assumption)) ?_ | refine Got.intro (one_hit _ _) ?_ | with_reducible refine Ap.new ?_); all_goals (conv => whnf)
    exact ret_int rfl
end Go.Proofs.YtjpmeaagnhojgaaGreat
namespace Go.Proofs.YtjpmeaagnhojgaaGreat
open Go Go.Sx

/-! ### Areas -/
theorem can_ok {h : Hal} (g : h.fine) {j : Nat} (hj : j < h.ks.length) : CanOk h.ks[j] := by
  have := g.can j hj
  unfold cErrR at this
  split at this
  · split at this
    · cases this
    · split at this
      · cases this
      · split at this
        · cases this
        · split at this
          · cases this
          · split at this
            · split at this
              · split at this
                · rename_i hp
                  split at this
                  · cases this
                  · rename_i hd
                    simp only [Bool.and_eq_true] at hp
                    simp only [Bool.or_eq_true, decide_eq_true_eq, not_or] at hd
                    exact ⟨within_iff.1 hp.1.1.1, within_iff.1 hp.1.1.2, within_iff.1 hp.1.2, within_iff.1 hp.2, hd.1, hd.2⟩
                · cases this
              · rename_i hx; exact absurd this hx
            · cases this
  · cases this
theorem sq_abs {a B : Int} (h0 : -B ≤ a) (h1 : a ≤ B) : 0 ≤ a * a ∧ a * a ≤ B * B := by
  rcases Int.le_total 0 a with h | h
  · exact ⟨Int.mul_nonneg h h, sq_mono h h1⟩
  · have e : a * a = -a * -a := by rw [Int.neg_mul_neg]
    rw [e]
    exact ⟨Int.mul_nonneg (by omega) (by omega), sq_mono (by omega) (by omega)⟩
theorem mul_abs {a b A B : Int} (h0 : -A ≤ a) (h1 : a ≤ A) (g0 : -B ≤ b) (g1 : b ≤ B) : -(A * B) ≤ a * b ∧ a * b ≤ A * B := by
  have hA : 0 ≤ A := by omega
  have hB : 0 ≤ B := by omega
  have k1 : 0 ≤ (A - a) * (B + b) := Int.mul_nonneg (by omega) (by omega)
  have k2 : 0 ≤ (A + a) * (B - b) := Int.mul_nonneg (by omega) (by omega)
  have k3 : 0 ≤ (A - a) * (B - b) := Int.mul_nonneg (by omega) (by omega)
  have k4 : 0 ≤ (A + a) * (B + b) := Int.mul_nonneg (by omega) (by omega)
  have e1 : (A - a) * (B + b) = A * B + A * b - a * B - a * b := by grind
  have e2 : (A + a) * (B - b) = A * B - A * b + a * B - a * b := by grind
  have e3 : (A - a) * (B - b) = A * B - A * b - a * B + a * b := by grind
  have e4 : (A + a) * (B + b) = A * B + A * b + a * B + a * b := by grind
  omega
def BdW (w : Wl) : Prop := ((-5000 ≤ w.fx ∧ w.fx ≤ 5000) ∧ (-5000 ≤ w.fy ∧ w.fy ≤ 5000)) ∧ ((-5000 ≤ w.tx ∧ w.tx ≤ 5000) ∧ (-5000 ≤ w.ty ∧ w.ty ≤ 5000))
theorem bdW {cs : List (Int × Int)} (hb : CorOk cs) {i : Nat} (hi : i < cs.length) : BdW (wlOf cs i) := wl_bd hb hi
theorem area2_bd {w : Wl} (hw : BdW w) {n : Int} (h0 : -1000000000000 ≤ n) (h1 : n ≤ 1000000000000) : n - 50000000 ≤ area2 n w ∧ area2 n w ≤ n + 50000000 := by
  obtain ⟨⟨a1, a2⟩, a3, a4⟩ := hw
  have k1 := mul_abs a1.1 a1.2 a4.1 a4.2
  have k2 := mul_abs a3.1 a3.2 a2.1 a2.2
  unfold area2
  rw [W_eq (n := w.fx * w.ty) (by omega) (by omega), W_eq (n := w.tx * w.fy) (by omega) (by omega), W_eq (n := w.fx * w.ty - w.tx * w.fy) (by omega) (by omega), W_eq (by omega) (by omega)]
  omega
theorem foldA_bd (l : List Wl) (hw : ∀ w ∈ l, BdW w) : ∀ (n B : Int), -B ≤ n → n ≤ B → B + 50000000 * (l.length : Int) ≤ 1000000000000 → l.foldl area2 n ≤ B + 50000000 * (l.length : Int) := by
  induction l with
  | nil => intro n B h0 h1 h2; simp only [List.foldl_nil, List.length_nil]; omega
  | cons w l ih =>
    intro n B h0 h1 h2
    rw [List.foldl_cons]
    rw [List.length_cons] at h2 ⊢
    have k := area2_bd (hw w List.mem_cons_self) (n := n) (by omega) (by omega)
    have := ih (fun v hv => hw v (List.mem_cons_of_mem _ hv)) (area2 n w) (B + 50000000) (by omega) (by omega) (by omega)
    omega
theorem twArea_bd {h : Hal} (g : h.fine) : 0 < twArea h ∧ twArea h ≤ 600000000 := by
  refine ⟨g.area, ?_⟩
  have hl := g.le
  have := foldA_bd (wls h.cs) (fun w hw => by
    unfold wls at hw
    rw [List.mem_map] at hw
    obtain ⟨i, hi, rfl⟩ := hw
    exact bdW g.bd (List.mem_range.1 hi)) 0 0 (by decide) (by decide) (by rw [wls_length]; omega)
  rw [wls_length] at this
  unfold twArea
  omega
def qn (h : Hal) (k : Nat) : Int := ((wlOf h.cs k).dx * (wlOf h.cs k).dx + (wlOf h.cs k).dy * (wlOf h.cs k).dy) * h.ht * h.ht
noncomputable def cr (n : Int) : Int := if isq n * isq n < n then isq n + 1 else isq n
noncomputable def areaV (h : Hal) (i : Int) : Int × Int := if i < h.ws.length then (isq (qn h i.toNat), cr (qn h i.toNat)) else if i < (h.ws.length : Int) + 2 then (twArea h / 2, (twArea h + 1) / 2) else ((kat h i).rc.area, (kat h i).rc.area)
theorem areaV_wall {h : Hal} {k : Nat} (hk : k < h.ws.length) : areaV h k = (isq (qn h k), cr (qn h k)) := by unfold areaV; rw [if_pos (by omega)]; rfl
theorem areaV_floor {h : Hal} : areaV h h.ws.length = (twArea h / 2, (twArea h + 1) / 2) := by unfold areaV; rw [if_neg (by omega), if_pos (by omega)]
theorem areaV_ceil {h : Hal} : areaV h ((h.ws.length : Int) + 1) = (twArea h / 2, (twArea h + 1) / 2) := by unfold areaV; rw [if_neg (by omega), if_pos (by omega)]
theorem areaV_can {h : Hal} {j : Nat} (hj : j < h.ks.length) : areaV h ((h.ws.length : Int) + 2 + j) = (h.ks[j].rc.area, h.ks[j].rc.area) := by unfold areaV; rw [if_neg (by omega), if_neg (by omega), kat_eq hj]
theorem dx_bd {w : Wl} (hw : BdW w) : (-10000 ≤ w.dx ∧ w.dx ≤ 10000) ∧ (-10000 ≤ w.dy ∧ w.dy ≤ 10000) := by
  obtain ⟨⟨a1, a2⟩, a3, a4⟩ := hw
  unfold Wl.dx Wl.dy
  rw [W_eq (n := w.tx - w.fx) (by omega) (by omega), W_eq (n := w.ty - w.fy) (by omega) (by omega)]
  omega
/-- The steps of the product, without roundings. -/
theorem qn_bd {h : Hal} (g : h.fine) {k : Nat} (hk : k < h.cs.length) :
    0 ≤ qn h k ∧ qn h k ≤ 5000000000000000 ∧ IntKind.i64.wrap (IntKind.i64.wrap (IntKind.i64.wrap (IntKind.i64.wrap ((wlOf h.cs k).dx * (wlOf h.cs k).dx) + IntKind.i64.wrap ((wlOf h.cs k).dy * (wlOf h.cs k).dy)) * h.ht) * h.ht) = qn h k := by
  have hb := dx_bd (bdW g.bd hk)
  have ht := g.ht
  unfold qn
  generalize (wlOf h.cs k).dx = x at *
  generalize (wlOf h.cs k).dy = y at *
  generalize h.ht = t at *
  have k1 := sq_abs hb.1.1 hb.1.2
  have k2 := sq_abs hb.2.1 hb.2.2
  rw [W_eq (n := x * x) (by omega) (by omega), W_eq (n := y * y) (by omega) (by omega), W_eq (n := x * x + y * y) (by omega) (by omega)]
  have k3 : 0 ≤ x * x + y * y ∧ x * x + y * y ≤ 200000000 := by omega
  generalize x * x + y * y = s at *
  have k4 := mul_abs (a := s) (b := t) (A := 200000000) (B := 5000) (by omega) (by omega) (by omega) (by omega)
  have k5 : 0 ≤ s * t := Int.mul_nonneg (by omega) (by omega)
  rw [W_eq (n := s * t) (by omega) (by omega)]
  generalize s * t = u at *
  have k6 := mul_abs (a := u) (b := t) (A := 1000000000000) (B := 5000) (by omega) (by omega) (by omega) (by omega)
  have k7 : 0 ≤ u * t := Int.mul_nonneg (by omega) (by omega)
  rw [W_eq (n := u * t) (by omega) (by omega)]
  exact ⟨k7, by omega, rfl⟩
theorem rc_area {c : Can} (hc : CanOk c) : (0 ≤ c.rc.area ∧ c.rc.area ≤ 100000000) ∧ IntKind.i64.wrap (size (IntKind.i64.wrap (c.tx - c.fx)) * size (IntKind.i64.wrap (c.ty - c.fy))) = c.rc.area := by
  obtain ⟨⟨e1, e2⟩, e3, e4⟩ := rc_vals c
  obtain ⟨b1, b2, b3, b4, hx, hy⟩ := hc
  have s1 : size (IntKind.i64.wrap (c.tx - c.fx)) = c.rc.xh - c.rc.xl := by
    rw [W_eq (n := c.tx - c.fx) (by omega) (by omega)]
    unfold size imax
    rw [W_eq (by omega) (by omega)]
    by_cases hh : c.tx - c.fx < 0 - (c.tx - c.fx)
    · rw [decide_eq_true hh, cond_true]; omega
    · rw [decide_eq_false hh, cond_false]; omega
  have s2 : size (IntKind.i64.wrap (c.ty - c.fy)) = c.rc.yh - c.rc.yl := by
    rw [W_eq (n := c.ty - c.fy) (by omega) (by omega)]
    unfold size imax
    rw [W_eq (by omega) (by omega)]
    by_cases hh : c.ty - c.fy < 0 - (c.ty - c.fy)
    · rw [decide_eq_true hh, cond_true]; omega
    · rw [decide_eq_false hh, cond_false]; omega
  rw [s1, s2]
  unfold Rc.area
  rw [W_eq (n := c.rc.xh - c.rc.xl) (by omega) (by omega), W_eq (n := c.rc.yh - c.rc.yl) (by omega) (by omega)]
  have k1 := mul_abs (a := c.rc.xh - c.rc.xl) (b := c.rc.yh - c.rc.yl) (A := 10000) (B := 10000) (by omega) (by omega) (by omega) (by omega)
  have k2 : 0 ≤ (c.rc.xh - c.rc.xl) * (c.rc.yh - c.rc.yl) := Int.mul_nonneg (by omega) (by omega)
  refine ⟨?_, rfl⟩
  rw [W_eq (by omega) (by omega)]
  omega
theorem fl_cases {n b : Int} (hb : 0 < b) : (n.tmod b < 0 ∧ n / b = n.tdiv b - 1) ∨ (¬ n.tmod b < 0 ∧ n / b = n.tdiv b) := by
  have e1 := Int.tmod_add_mul_tdiv n b
  have e2 := Int.tmod_lt_of_pos n hb
  have e3 := Int.lt_tmod_of_pos n hb
  by_cases h : n.tmod b < 0
  · exact .inl ⟨h, ((Int.ediv_emod_unique hb (r := n.tmod b + b)).2 ⟨by rw [Int.mul_sub]; omega, by omega, by omega⟩).1⟩
  · exact .inr ⟨h, ((Int.ediv_emod_unique hb (r := n.tmod b)).2 ⟨by omega, by omega, by omega⟩).1⟩
set_option maxHeartbeats 4000000 in
theorem c90 {n b : Int} (hb : 0 < b) (h0 : -9223372036854775807 ≤ n) (h1 : n ≤ 9223372036854775807) : PCall Tryz.prog 90 [I n, I b] ⟨I (n / b), []⟩ := by
  have hq := Int.natAbs_tdiv_le_natAbs n b
  have e : IntKind.i64.wrap (n.tdiv b) = n.tdiv b := W_eq (by omega) (by omega)
  have hm : IntKind.i64.wrap (n.tmod b) = n.tmod b := by
    have := Int.tmod_lt_of_pos n hb
    have e3 := Int.lt_tmod_of_pos n hb
    have e4 : (n.tmod b).natAbs ≤ n.natAbs := by rw [Int.natAbs_tmod]; exact Nat.mod_le _ _
    exact W_eq (by omega) (by omega)
  have hz : ¬ b = 0 := by omega
  refine bs.pv (sx := nos) pt0_ok Tryz.func90 (by kernel_rfl) (by kernel_rfl) rfl ?_
  rcases fl_cases (n := n) hb with ⟨c1, c2⟩ | ⟨c1, c2⟩
  · have e5 : IntKind.i64.wrap (n.tdiv b - 1) = n.tdiv b - 1 := W_eq (by omega) (by omega)
    rw [c2]
    repeat' ((conv => whnf); (fail_if_success with_reducible refine Stop.go ?_); first | with_reducible refine wkA ?_ | ((with_reducible refine wkS ?_ ?_); · exact wkU) | ((with_reducible refine wkY ?_ ?_); · omega) | ((with_reducible refine wkN ?_ ?_); · omega) | ((with_reducible refine wkQ ?_ ?_); · omega) | ((with_reducible refine wkR ?_ ?_); · omega) | with_reducible refine wkB (fun _ => ?_) (fun _ => ?_) | refine Got.intro (by assumption) ?_ | refine Got.intro (asr_of (by assumption)) ?_ | refine Got.intro (one_hit _ _) ?_ | with_reducible refine Ap.new ?_); all_goals (conv => whnf)
    all_goals exact ret_int (by rw [e, e5])
  · rw [c2]
    repeat' ((conv => whnf); (fail_if_success with_reducible refine Stop.go ?_); first | with_reducible refine wkA ?_ | ((with_reducible refine wkS ?_ ?_); · exact wkU) | ((with_reducible refine wkY ?_ ?_); · omega) | ((with_reducible refine wkN ?_ ?_); · omega) | ((with_reducible refine wkQ ?_ ?_); · omega) | ((with_reducible refine wkR ?_ ?_); · omega) | with_reducible refine wkB (fun _ => ?_) (fun _ => ?_) | refine Got.intro (by assumption) ?_ | refine Got.intro (asr_of (by assumption)) ?_ | refine Got.intro (one_hit _ _) ?_ | with_reducible refine Ap.new ?_); all_goals (conv => whnf)
    all_goals exact ret_int (by omega)
set_option maxHeartbeats 4000000 in
theorem c91 {n b : Int} (hb : 0 < b) (h0 : -9223372036854775807 ≤ n) (h1 : n ≤ 9223372036854775807) : PCall Tryz.prog 91 [I n, I b] ⟨I (-((-n) / b)), []⟩ := by
  have e1 : IntKind.i64.wrap (0 - n) = -n := by rw [W_eq (by omega) (by omega)]; omega
  have hk := one_ok (c90 (n := -n) hb (by omega) (by omega)) pt0_ok
  rw [← e1] at hk
  refine bs.pv (sx := nos) hk Tryz.func91 (by kernel_rfl) (by kernel_rfl) rfl ?_
  have hq : (-n / b).natAbs ≤ (-n).natAbs := Int.natAbs_ediv_le_natAbs _ _
  repeat' ((conv => whnf); (fail_if_success with_reducible refine Stop.go ?_); first | with_reducible refine wkA ?_ | ((with_reducible refine wkS ?_ ?_); · exact wkU) | ((with_reducible refine wkY ?_ ?_); · omega) | ((with_reducible refine wkN ?_ ?_); · omega) | ((with_reducible refine wkQ ?_ ?_); · omega) | ((with_reducible refine wkR ?_ ?_); · omega) | with_reducible refine wkB (fun _ => ?_) (fun _ => ?_) | refine Got.intro (by assumption) ?_ | refine Got.intro (asr_of (by assumption)) ?_ | refine Got.intro (one_hit _ _) ?_ | with_reducible refine Ap.new ?_); all_goals (conv => whnf)
  rw [e1]
  exact ret_int (by rw [W_eq (by omega) (by omega)]; omega)
end Go.Proofs.YtjpmeaagnhojgaaGreat
namespace Go.Proofs.YtjpmeaagnhojgaaGreat
open Go Go.Sx

def qW (w : Wl) (t : Int) : Int := IntKind.i64.wrap (IntKind.i64.wrap (IntKind.i64.wrap (IntKind.i64.wrap (w.dx * w.dx) + IntKind.i64.wrap (w.dy * w.dy)) * t) * t)
set_option maxRecDepth 100000 in
set_option maxHeartbeats 8000000 in
theorem c85 {h : Hal} {s : Stg} (g : Sit h s) {i : Int} (hi : SK h i) : PCall Tryz.prog 85 [.agg (stgL h s), I i] ⟨.agg [I (areaV h i).1, I (areaV h i).2], []⟩ := by
  have f3 := g.ok.f.2.2.1
  have f4 := g.ok.f.2.2.2.1
  have hk0 := one_ok (c87 g.ok.f s hi) (kP_ok g)
  have ht := twArea_bd g.fine
  have hk0 := one_ok (c122 g.ok.f) hk0
  cases hi with
  | wall k hk =>
    have hk2 : k < h.cs.length := by have := g.fine.le; omega
    rw [areaV_wall hk]
    obtain ⟨v1, v2⟩ := canV_low (h := h) (i := k) (by omega)
    rw [v1, v2] at hk0
    obtain ⟨q1, q2, q3⟩ := qn_bd g.fine hk2
    obtain ⟨r1, r2, r3⟩ := isq_spec q1
    have r4 : isq (qn h k) < 94906267 := sq_lt (by omega) (by omega) r1
    have r5 := sq_bd r1 (show isq (qn h k) ≤ 94906267 by omega)
    have w1 : IntKind.i64.wrap (isq (qn h k) * isq (qn h k)) = isq (qn h k) * isq (qn h k) := W_eq (by omega) (by omega)
    have w2 : IntKind.i64.wrap (isq (qn h k) + 1) = isq (qn h k) + 1 := W_eq (by omega) (by omega)
    have hk1 := one_ok (c175 q1 (by omega)) (one_ok (c145w g.ok.f hk2) hk0)
    rw [← q3] at hk1
    unfold cr
    generalize wlOf h.cs k = w at *
    refine bs.pv (sx := nos) hk1 Tryz.func85 (by kernel_rfl) (by kernel_rfl) rfl ?_
    have q4 : qW w h.ht = qn h k := q3
    by_cases hc : isq (qn h k) * isq (qn h k) < qn h k
    · rw [if_pos hc]
      repeat' ((conv => whnf); (fail_if_success with_reducible refine Stop.go ?_); first | with_reducible refine wkA ?_ | ((with_reducible refine wkS ?_ ?_); · exact wkU) | ((with_reducible refine wkY ?_ ?_); · omega) | ((with_reducible refine wkN ?_ ?_); · omega) | ((with_reducible refine wkQ ?_ ?_); · omega) | ((with_reducible refine wkR ?_ ?_); · omega) | with_reducible refine wkB (fun _ => ?_) (fun _ => ?_) | refine Got.intro (by assumption) ?_ | refine Got.intro (asr_of (by assumption)) ?_ | refine Got.intro (one_hit _ _) ?_ | with_reducible refine Ap.new ?_); all_goals (conv => whnf)
      · exfalso
        rename_i hx
        have hx := of_decide_eq_true (show decide ((k : Int) = (h.ws.length : Int) + 1) = true from hx)
        omega
      · exact ret_of (by rw [q3, w2]) rfl
      · exfalso
        rename_i hx
        change decide (IntKind.i64.wrap (isq (qW w h.ht) * isq (qW w h.ht)) < qW w h.ht) = false at hx
        rw [q4, w1] at hx
        exact of_decide_eq_false hx hc
    · rw [if_neg hc]
      repeat' ((conv => whnf); (fail_if_success with_reducible refine Stop.go ?_); first | with_reducible refine wkA ?_ | ((with_reducible refine wkS ?_ ?_); · exact wkU) | ((with_reducible refine wkY ?_ ?_); · omega) | ((with_reducible refine wkN ?_ ?_); · omega) | ((with_reducible refine wkQ ?_ ?_); · omega) | ((with_reducible refine wkR ?_ ?_); · omega) | with_reducible refine wkB (fun _ => ?_) (fun _ => ?_) | refine Got.intro (by assumption) ?_ | refine Got.intro (asr_of (by assumption)) ?_ | refine Got.intro (one_hit _ _) ?_ | with_reducible refine Ap.new ?_); all_goals (conv => whnf)
      · exfalso
        rename_i hx
        have hx := of_decide_eq_true (show decide ((k : Int) = (h.ws.length : Int) + 1) = true from hx)
        omega
      · exfalso
        rename_i hx
        change decide (IntKind.i64.wrap (isq (qW w h.ht) * isq (qW w h.ht)) < qW w h.ht) = true at hx
        rw [q4, w1] at hx
        exact hc (of_decide_eq_true hx)
      · exact ret_of (by rw [q3]) rfl
  | floor =>
    rw [areaV_floor]
    obtain ⟨v1, v2⟩ := canV_low (h := h) (i := h.ws.length) (by omega)
    rw [v1, v2] at hk0
    have w1 : IntKind.i64.wrap ((twArea h).tdiv 2) = twArea h / 2 := by rw [Int.tdiv_eq_ediv_of_nonneg (by omega)]; exact W_eq (by omega) (by omega)
    have w2 : IntKind.i64.wrap (twArea h + 1) = twArea h + 1 := W_eq (by omega) (by omega)
    have w3 : IntKind.i64.wrap ((twArea h + 1).tdiv 2) = (twArea h + 1) / 2 := by rw [Int.tdiv_eq_ediv_of_nonneg (by omega)]; exact W_eq (by omega) (by omega)
    refine bs.pv (sx := nos) hk0 Tryz.func85 (by kernel_rfl) (by kernel_rfl) rfl ?_
    repeat' ((conv => whnf); (fail_if_success with_reducible refine Stop.go ?_); first | with_reducible refine wkA ?_ | ((with_reducible refine wkS ?_ ?_); · exact wkU) | ((with_reducible refine wkY ?_ ?_); · omega) | ((with_reducible refine wkN ?_ ?_); · omega) | ((with_reducible refine wkQ ?_ ?_); · omega) | ((with_reducible refine wkR ?_ ?_); · omega) | with_reducible refine wkB (fun _ => ?_) (fun _ => ?_) | refine Got.intro (by assumption) ?_ | refine Got.intro (asr_of (by assumption)) ?_ | refine Got.intro (one_hit _ _) ?_ | with_reducible refine Ap.new ?_); all_goals (conv => whnf)
    exact ret_of (by rw [w1, w2, w3]) rfl
  | ceil =>
    rw [areaV_ceil]
    obtain ⟨v1, v2⟩ := canV_low (h := h) (i := (h.ws.length : Int) + 1) (by omega)
    rw [v1, v2] at hk0
    have w1 : IntKind.i64.wrap ((twArea h).tdiv 2) = twArea h / 2 := by rw [Int.tdiv_eq_ediv_of_nonneg (by omega)]; exact W_eq (by omega) (by omega)
    have w2 : IntKind.i64.wrap (twArea h + 1) = twArea h + 1 := W_eq (by omega) (by omega)
    have w3 : IntKind.i64.wrap ((twArea h + 1).tdiv 2) = (twArea h + 1) / 2 := by rw [Int.tdiv_eq_ediv_of_nonneg (by omega)]; exact W_eq (by omega) (by omega)
    refine bs.pv (sx := nos) hk0 Tryz.func85 (by kernel_rfl) (by kernel_rfl) rfl ?_
    repeat' ((conv => whnf); (fail_if_success with_reducible refine Stop.go ?_); first | with_reducible refine wkA ?_ | ((with_reducible refine wkS ?_ ?_); · exact wkU) | ((with_reducible refine wkY ?_ ?_); · omega) | ((with_reducible refine wkN ?_ ?_); · omega) | ((with_reducible refine wkQ ?_ ?_); · omega) | ((with_reducible refine wkR ?_ ?_); · omega) | with_reducible refine wkB (fun _ => ?_) (fun _ => ?_) | refine Got.intro (by assumption) ?_ | refine Got.intro (asr_of (by assumption)) ?_ | refine Got.intro (one_hit _ _) ?_ | with_reducible refine Ap.new ?_); all_goals (conv => whnf)
    · exact ret_of (by rw [w1, w2, w3]) rfl
    · rename_i hx; exact absurd rfl (of_decide_eq_false (show decide ((h.ws.length : Int) + 1 = (h.ws.length : Int) + 1) = false from hx))
  | can j hj =>
    rw [areaV_can hj]
    obtain ⟨v1, v2⟩ := canV_can hj
    rw [v1, v2] at hk0
    generalize h.ks[j] = c at *
    have hk1 := one_ok (c171 c.rc) hk0
    refine bs.pv (sx := nos) hk1 Tryz.func85 (by kernel_rfl) (by kernel_rfl) rfl ?_
    repeat' ((conv => whnf); (fail_if_success with_reducible refine Stop.go ?_); first | with_reducible refine wkA ?_ | ((with_reducible refine wkS ?_ ?_); · exact wkU) | ((with_reducible refine wkY ?_ ?_); · omega) | ((with_reducible refine wkN ?_ ?_); · omega) | ((with_reducible refine wkQ ?_ ?_); · omega) | ((with_reducible refine wkR ?_ ?_); · omega) | with_reducible refine wkB (fun _ => ?_) (fun _ => ?_) | refine Got.intro (by assumption) ?_ | refine Got.intro (asr_of (by assumption)) ?_ | refine Got.intro (one_hit _ _) ?_ | with_reducible refine Ap.new ?_); all_goals (conv => whnf)
    exact ret_of rfl rfl
set_option maxRecDepth 100000 in
set_option maxHeartbeats 8000000 in
theorem c58 {h : Hal} {s : Stg} (g : Sit h s) {i : Int} (hi : SK h i) : PCall Tryz.prog 58 [h.av, I i] ⟨.agg [I (areaV h i).1, I (areaV h i).2], []⟩ := by
  have ht := twArea_bd g.fine
  have hA := twArea_eq h
  have hk0 := one_ok (c89 g.ok.f hi) (kR5_ok g.ok.f)
  have hk0 := one_ok (c46 g.ok.f) (one_ok (c90 (n := twAreaR h.cs) (b := 2) (by decide) (by omega) (by omega)) (one_ok (c91 (n := twAreaR h.cs) (b := 2) (by decide) (by omega) (by omega)) hk0))
  have w2 : -((-twAreaR h.cs) / 2) = (twArea h + 1) / 2 := by omega
  have w1 : twAreaR h.cs / 2 = twArea h / 2 := by omega
  cases hi with
  | wall k hk =>
    have hk2 : k < h.cs.length := by have := g.fine.le; omega
    rw [areaV_wall hk]
    have e1 := lines_hit hk2
    rw [show kindV h k = (0, (k : Int)) by unfold kindV; rw [if_pos (by omega)]] at hk0
    rw [lnOf_eq] at e1
    obtain ⟨q1, q2, q3⟩ := qn_bd g.fine hk2
    have hk1 := one_ok (c126 q1 (by omega)) (one_ok (c127 q1 (by omega)) hk0)
    rw [← q3] at hk1
    generalize wlOf h.cs k = w at *
    refine bs.pv (sx := nos) hk1 Tryz.func58 (by kernel_rfl) (by kernel_rfl) rfl ?_
    repeat' ((conv => whnf); (fail_if_success with_reducible refine Stop.go ?_); first | with_reducible refine wkA ?_ | ((with_reducible refine wkS ?_ ?_); · exact wkU) | ((with_reducible refine wkY ?_ ?_); · omega) | ((with_reducible refine wkN ?_ ?_); · omega) | ((with_reducible refine wkQ ?_ ?_); · omega) | ((with_reducible refine wkR ?_ ?_); · omega) | with_reducible refine wkB (fun _ => ?_) (fun _ => ?_) | refine Got.intro (by assumption) ?_ | refine Got.intro (asr_of (by assumption)) ?_ | refine Got.intro (one_hit _ _) ?_ | with_reducible refine Ap.new ?_); all_goals (conv => whnf)
    exact ret_of (by rw [q3]; rfl) rfl
  | floor =>
    rw [show kindV h h.ws.length = (1, 0) by unfold kindV; rw [if_neg (by omega), if_pos rfl]] at hk0
    rw [areaV_floor, ← w1, ← w2]
    refine bs.pv (sx := nos) hk0 Tryz.func58 (by kernel_rfl) (by kernel_rfl) rfl ?_
    repeat' ((conv => whnf); (fail_if_success with_reducible refine Stop.go ?_); first | with_reducible refine wkA ?_ | ((with_reducible refine wkS ?_ ?_); · exact wkU) | ((with_reducible refine wkY ?_ ?_); · omega) | ((with_reducible refine wkN ?_ ?_); · omega) | ((with_reducible refine wkQ ?_ ?_); · omega) | ((with_reducible refine wkR ?_ ?_); · omega) | with_reducible refine wkB (fun _ => ?_) (fun _ => ?_) | refine Got.intro (by assumption) ?_ | refine Got.intro (asr_of (by assumption)) ?_ | refine Got.intro (one_hit _ _) ?_ | with_reducible refine Ap.new ?_); all_goals (conv => whnf)
    exact ret_of rfl rfl
  | ceil =>
    rw [show kindV h ((h.ws.length : Int) + 1) = (2, 0) by unfold kindV; rw [if_neg (by omega), if_neg (by omega), if_pos rfl]] at hk0
    rw [areaV_ceil, ← w1, ← w2]
    refine bs.pv (sx := nos) hk0 Tryz.func58 (by kernel_rfl) (by kernel_rfl) rfl ?_
    repeat' ((conv => whnf); (fail_if_success with_reducible refine Stop.go ?_); first | with_reducible refine wkA ?_ | ((with_reducible refine wkS ?_ ?_); · exact wkU) | ((with_reducible refine wkY ?_ ?_); · omega) | ((with_reducible refine wkN ?_ ?_); · omega) | ((with_reducible refine wkQ ?_ ?_); · omega) | ((with_reducible refine wkR ?_ ?_); · omega) | with_reducible refine wkB (fun _ => ?_) (fun _ => ?_) | refine Got.intro (by assumption) ?_ | refine Got.intro (asr_of (by assumption)) ?_ | refine Got.intro (one_hit _ _) ?_ | with_reducible refine Ap.new ?_); all_goals (conv => whnf)
    exact ret_of rfl rfl
  | can j hj =>
    rw [show kindV h ((h.ws.length : Int) + 2 + j) = (3, (j : Int)) by unfold kindV; rw [if_neg (by omega), if_neg (by omega), if_neg (by omega)]; simp; omega] at hk0
    rw [areaV_can hj]
    have hc := (rc_area (can_ok g.fine hj)).2
    have e1 := ca_get hj
    generalize h.ks[j] = c at *
    rw [← hc]
    refine bs.pv (sx := nos) hk0 Tryz.func58 (by kernel_rfl) (by kernel_rfl) rfl ?_
    repeat' ((conv => whnf); (fail_if_success with_reducible refine Stop.go ?_); first | with_reducible refine wkA ?_ | ((with_reducible refine wkS ?_ ?_); · exact wkU) | ((with_reducible refine wkY ?_ ?_); · omega) | ((with_reducible refine wkN ?_ ?_); · omega) | ((with_reducible refine wkQ ?_ ?_); · omega) | ((with_reducible refine wkR ?_ ?_); · omega) | with_reducible refine wkB (fun _ => ?_) (fun _ => ?_) | refine Got.intro (by assumption) ?_ | refine Got.intro (asr_of (by assumption)) ?_ | refine Got.intro (one_hit _ _) ?_ | with_reducible refine Ap.new ?_); all_goals (conv => whnf)
    exact ret_of rfl rfl
noncomputable def areaA (h : Hal) (s : Stg) (i : Int) : Int × Int := if surE h s i = 0 then areaV h i else (0, 0)
set_option maxRecDepth 100000 in
set_option maxHeartbeats 8000000 in
theorem c56 {h : Hal} (hk : h.ok) {s : Stg} (hs : s.few) (i : Int) : PCall Tryz.prog 56 [h.av, s.av, I i] ⟨.tup [.agg [I (areaA h s i).1, I (areaA h s i).2], I (surE h s i)], []⟩ := by
  have hk0 := one_ok (c109 hk hs i) pt0_ok
  by_cases he : surE h s i = 0
  · have e := surE_zero he
    have g := sit_of hk hs e.1
    have hk1 := one_ok (c85 g (sk_of e.2.1 e.2.2)) hk0
    have e2 : areaA h s i = areaV h i := by unfold areaA; rw [if_pos he]
    rw [e2]
    rw [he] at hk1 ⊢
    refine bs.pv (sx := nos) hk1 Tryz.func56 (by kernel_rfl) (by kernel_rfl) rfl ?_
    repeat' ((conv => whnf); (fail_if_success with_reducible refine Stop.go ?_); first | with_reducible refine wkA ?_ | ((with_reducible refine wkS ?_ ?_); · exact wkU) | ((with_reducible refine wkY ?_ ?_); · omega) | ((with_reducible refine wkN ?_ ?_); · omega) | ((with_reducible refine wkQ ?_ ?_); · omega) | ((with_reducible refine wkR ?_ ?_); · omega) | with_reducible refine wkB (fun _ => ?_) (fun _ => ?_) | refine Got.intro (by assumption) ?_ | refine Got.intro (asr_of (by assumption)) ?_ | refine Got.intro (one_hit _ _) ?_ | with_reducible refine Ap.new ?_); all_goals (conv => whnf)
    exact ret_of rfl rfl
  · have e2 : areaA h s i = (0, 0) := by unfold areaA; rw [if_neg he]
    rw [e2]
    refine bs.pv (sx := nos) hk0 Tryz.func56 (by kernel_rfl) (by kernel_rfl) rfl ?_
    repeat' ((conv => whnf); (fail_if_success with_reducible refine Stop.go ?_); first | with_reducible refine wkA ?_ | ((with_reducible refine wkS ?_ ?_); · exact wkU) | ((with_reducible refine wkY ?_ ?_); · omega) | ((with_reducible refine wkN ?_ ?_); · omega) | ((with_reducible refine wkQ ?_ ?_); · omega) | ((with_reducible refine wkR ?_ ?_); · omega) | with_reducible refine wkB (fun _ => ?_) (fun _ => ?_) | refine Got.intro (by assumption) ?_ | refine Got.intro (asr_of (by assumption)) ?_ | refine Got.intro (one_hit _ _) ?_ | with_reducible refine Ap.new ?_); all_goals (conv => whnf)
    exact ret_of rfl rfl
end Go.Proofs.YtjpmeaagnhojgaaGreat
namespace Go.Proofs.YtjpmeaagnhojgaaGreat
open Go Go.Sx

/-! ### HallAreas -/
noncomputable abbrev areas (h : Hal) (s : Stg) : List AV → Option PRes := famA (fun _ => True) (fun i : Int => [h.av, s.av, I i]) (fun i => ⟨.tup [.agg [I (areaA h s i).1, I (areaA h s i).2], I (surE h s i)], []⟩)
theorem areas_hit (h : Hal) (s : Stg) (i : Int) : areas h s [h.av, s.av, I i] = some ⟨.tup [.agg [I (areaA h s i).1, I (areaA h s i).2], I (surE h s i)], []⟩ :=
  famA_hit (g := fun i : Int => [h.av, s.av, I i]) (r := fun i => ⟨.tup [.agg [I (areaA h s i).1, I (areaA h s i).2], I (surE h s i)], []⟩) (fun j hj => by
    simp only [List.cons.injEq, AV.int.injEq, true_and, and_true] at hj
    rw [hj]) trivial
theorem surE_ok {h : Hal} {s : Stg} {i : Int} (e : serr h s = 0) (h0 : 0 ≤ i) (h1 : i < nsur h) : surE h s i = 0 := by
  unfold surE; rw [if_pos e, if_pos (within_iff.2 ⟨h0, by omega⟩)]
set_option maxRecDepth 100000 in
set_option maxHeartbeats 16000000 in
theorem c13 (h : Hal) (s : Stg) (i : Int) : PCall Tryz.prog 13 [h.av, s.av, I i] ⟨Bo true, []⟩ := by
  by_cases hb : (fewB h && shortB s) = true
  · rw [Bool.and_eq_true] at hb
    have hk := few_ok hb.1
    have hs := short_few hb.2
    obtain ⟨hb1, hb2⟩ := hb
    have l := wa_length h.ws
    have f3 := hk.f.2.2.1
    have hw : IntKind.i64.wrap (((h.ws.map Wal.av).length : Int) + 1) = h.ws.length + 1 := by rw [W_eq (by omega) (by omega)]; omega
    have h1 := areas_hit h s i
    have h2 := areas_hit h s ((h.ws.map Wal.av).length : Int)
    have h3 := areas_hit h s (IntKind.i64.wrap (((h.ws.map Wal.av).length : Int) + 1))
    have hk1 : PCOK Tryz.prog (ins 56 (areas h s) (ins 54 (one [h.av, s.av, I i] ⟨.tup [P2 (planeA h s i).1 (planeA h s i).2, I (surE h s i)], []⟩) (ins 57 (one [h.av, s.av, I i] ⟨I (surE h s i), []⟩) (kLs h s)))) :=
      famA_ok (fun i _ => c56 hk hs i) (one_ok (c54 hk hs i) (one_ok (c57 hk hs i) (kLs_ok hk hs)))
    by_cases he : surE h s i = 0
    · have e := surE_zero he
      have g := sit_of hk hs e.1
      have s1 : surE h s h.ws.length = 0 := surE_ok e.1 (by omega) (by unfold nsur; omega)
      have s2 : surE h s ((h.ws.length : Int) + 1) = 0 := surE_ok e.1 (by omega) (by unfold nsur; omega)
      have a1 : areaA h s i = areaV h i := by unfold areaA; rw [if_pos he]
      have a2 : areaA h s h.ws.length = areaV h h.ws.length := by unfold areaA; rw [if_pos s1]
      have a3 : areaA h s ((h.ws.length : Int) + 1) = areaV h h.ws.length := by unfold areaA; rw [if_pos s2, areaV_floor, areaV_ceil]
      have e2 : planeA h s i = planeV h s i := by unfold planeA; rw [if_pos he]
      rw [e2, he] at hk1
      rw [l] at h2
      rw [hw] at h3
      rw [a1, he] at h1
      rw [a2, s1] at h2
      rw [a3, s2] at h3
      rw [← l] at h2
      rw [← hw] at h3
      have hk2 := one_ok (c58 g (sk_of e.2.1 e.2.2)) (one_ok (c59 g (sk_of e.2.1 e.2.2)) hk1)
      clear hk1
      refine bs.pv (sx := nos) hk2 Tryz.func13 (by kernel_rfl) (by kernel_rfl) rfl ?_
      repeat' ((conv => whnf); (fail_if_success with_reducible refine Stop.go ?_); first | with_reducible refine wkA ?_ | ((with_reducible refine wkS ?_ ?_); · exact wkU) | ((with_reducible refine wkY ?_ ?_); · omega) | ((with_reducible refine wkN ?_ ?_); · omega) | ((with_reducible refine wkQ ?_ ?_); · omega) | ((with_reducible refine wkR ?_ ?_); · omega) | with_reducible refine wkB (fun _ => ?_) (fun _ => ?_) | refine Got.intro (by assumption) ?_ | refine Got.intro (asr_of (by assumption)) ?_ | refine Got.intro (one_hit _ _) ?_ | with_reducible refine Ap.new ?_); all_goals (conv => whnf)
      clear hk2
      all_goals first
        | exact ret_bool rfl
        | (exfalso; simp_all; done)
        | exact ret_bool (by simp_all; done)
    · have e1 : areaA h s i = (0, 0) := by unfold areaA; rw [if_neg he]
      have e2 : planeA h s i = (0, 0) := by unfold planeA; rw [if_neg he]
      rw [e2] at hk1
      rw [e1] at h1
      refine bs.pv (sx := nos) hk1 Tryz.func13 (by kernel_rfl) (by kernel_rfl) rfl ?_
      repeat' ((conv => whnf); (fail_if_success with_reducible refine Stop.go ?_); first | with_reducible refine wkA ?_ | ((with_reducible refine wkS ?_ ?_); · exact wkU) | ((with_reducible refine wkY ?_ ?_); · omega) | ((with_reducible refine wkN ?_ ?_); · omega) | ((with_reducible refine wkQ ?_ ?_); · omega) | ((with_reducible refine wkR ?_ ?_); · omega) | with_reducible refine wkB (fun _ => ?_) (fun _ => ?_) | refine Got.intro (by assumption) ?_ | refine Got.intro (asr_of (by assumption)) ?_ | refine Got.intro (one_hit _ _) ?_ | with_reducible refine Ap.new ?_); all_goals (conv => whnf)
      clear hk1
      all_goals first
        | exact ret_bool rfl
        | (exfalso; simp_all; done)
        | exact ret_bool (by simp_all; done)
  · refine bs.pv (sx := nos) (kNs_ok h s) Tryz.func13 (by kernel_rfl) (by kernel_rfl) rfl ?_
    repeat' ((conv => whnf); (fail_if_success with_reducible refine Stop.go ?_); first | with_reducible refine wkA ?_ | ((with_reducible refine wkS ?_ ?_); · exact wkU) | ((with_reducible refine wkY ?_ ?_); · omega) | ((with_reducible refine wkN ?_ ?_); · omega) | ((with_reducible refine wkQ ?_ ?_); · omega) | ((with_reducible refine wkR ?_ ?_); · omega) | with_reducible refine wkB (fun _ => ?_) (fun _ => ?_) | refine Got.intro (by assumption) ?_ | refine Got.intro (asr_of (by assumption)) ?_ | refine Got.intro (one_hit _ _) ?_ | with_reducible refine Ap.new ?_); all_goals (conv => whnf)
    all_goals first
      | exact ret_bool rfl
      | (exfalso; simp_all; done)
end Go.Proofs.YtjpmeaagnhojgaaGreat
namespace Go.Proofs.YtjpmeaagnhojgaaGreat
open Go Go.Sx

/-! ### HallAbsorbs -/
def absB (m : Mat) (b : Int) : Int := if b = 0 then m.a else if b = 1 then m.b else if b = 2 then m.c else m.d
/-- What counts of a surface in a band: a canopy has two sides. -/
def absK (h : Hal) (s : Stg) (b i : Int) : Int := if isK h i then absB (matS h s i) b * 2 else absB (matS h s i) b
noncomputable def sumS (h : Hal) (s : Stg) (b : Int) : Nat → Int × Int
  | 0 => (0, 0)
  | k + 1 => ((sumS h s b k).1 + (areaV h k).1 * absK h s b k, (sumS h s b k).2 + (areaV h k).2 * absK h s b k)
theorem mat_fit {h : Hal} (g : h.fine) {m : Mat} (hm : m ∈ h.ms) : (0 ≤ m.a ∧ m.a ≤ 1000) ∧ (0 ≤ m.b ∧ m.b ≤ 1000) ∧ (0 ≤ m.c ∧ m.c ≤ 1000) ∧ (0 ≤ m.d ∧ m.d ≤ 1000) := by
  have := g.mats m hm
  unfold matErr at this
  split at this
  · rename_i hx
    simp only [Bool.and_eq_true] at hx
    exact ⟨within_iff.1 hx.1.1.1.1, within_iff.1 hx.1.1.1.2, within_iff.1 hx.1.1.2, within_iff.1 hx.1.2⟩
  · cases this
theorem matS_mem {h : Hal} {s : Stg} (g : Sit h s) {i : Int} (hi : SK h i) : matS h s i ∈ h.ms := by
  have h0 := mName_ix g hi
  have h1 := matIx_lt_len (mName h s i) h.ms 0
  unfold matS matG
  have hl : (matIx (mName h s i) 0 h.ms).toNat < h.ms.length := by omega
  rw [List.getElem?_eq_getElem hl]
  exact List.getElem_mem hl
theorem absK_bd {h : Hal} {s : Stg} (g : Sit h s) {b i : Int} (hi : SK h i) : (0 ≤ absB (matS h s i) b ∧ absB (matS h s i) b ≤ 1000) ∧ 0 ≤ absK h s b i ∧ absK h s b i ≤ 2000 := by
  have := mat_fit g.fine (matS_mem g hi)
  have k : 0 ≤ absB (matS h s i) b ∧ absB (matS h s i) b ≤ 1000 := by
    unfold absB
    repeat' split
    all_goals omega
  refine ⟨k, ?_⟩
  unfold absK
  split <;> omega
theorem areaV_bd {h : Hal} {s : Stg} (g : Sit h s) {i : Int} (hi : SK h i) : (0 ≤ (areaV h i).1 ∧ (areaV h i).1 ≤ 300000001) ∧ (0 ≤ (areaV h i).2 ∧ (areaV h i).2 ≤ 300000001) := by
  have ht := twArea_bd g.fine
  cases hi with
  | wall k hk =>
    have hk2 : k < h.cs.length := by have := g.fine.le; omega
    rw [areaV_wall hk]
    obtain ⟨q1, q2, q3⟩ := qn_bd g.fine hk2
    obtain ⟨r1, r2, r3⟩ := isq_spec q1
    have r4 : isq (qn h k) < 94906267 := sq_lt (by omega) (by omega) r1
    unfold cr
    dsimp only
    split <;> omega
  | floor => rw [areaV_floor]; dsimp only; omega
  | ceil => rw [areaV_ceil]; dsimp only; omega
  | can j hj =>
    rw [areaV_can hj]
    have hc := (rc_area (can_ok g.fine hj)).1
    dsimp only; omega
theorem nsur_bd {h : Hal} (g : h.fine) : 0 < nsur h ∧ nsur h ≤ 18 := by
  have := g.le
  unfold nsur; omega
theorem sumS_bd {h : Hal} {s : Stg} (g : Sit h s) (b : Int) : ∀ k : Nat, (k : Int) ≤ nsur h → (0 ≤ (sumS h s b k).1 ∧ (sumS h s b k).1 ≤ 600000002000 * k) ∧ (0 ≤ (sumS h s b k).2 ∧ (sumS h s b k).2 ≤ 600000002000 * k)
  | 0, _ => by simp [sumS]
  | k + 1, hk => by
    have ih := sumS_bd g b k (by omega)
    have hi : SK h k := sk_of (by omega) (by omega)
    have a := areaV_bd g hi
    have c := absK_bd g (b := b) hi
    have m1 := mul_abs (a := (areaV h k).1) (b := absK h s b k) (A := 300000001) (B := 2000) (by omega) (by omega) (by omega) (by omega)
    have m2 := mul_abs (a := (areaV h k).2) (b := absK h s b k) (A := 300000001) (B := 2000) (by omega) (by omega) (by omega) (by omega)
    have n1 : 0 ≤ (areaV h k).1 * absK h s b k := Int.mul_nonneg (by omega) (by omega)
    have n2 : 0 ≤ (areaV h k).2 * absK h s b k := Int.mul_nonneg (by omega) (by omega)
    rw [sumS]
    dsimp only
    omega
noncomputable def absV (h : Hal) (s : Stg) (b : Int) : Int × Int := ((sumS h s b (nsur h).toNat).1 / 1000, ((sumS h s b (nsur h).toNat).2 + 999) / 1000)
def bandE (h : Hal) (s : Stg) (b : Int) : Int := if serr h s = 0 then (if within b 0 3 then 0 else 6) else serr h s
noncomputable def absA (h : Hal) (s : Stg) (b : Int) : Int × Int := if bandE h s b = 0 then absV h s b else (0, 0)
set_option maxRecDepth 100000 in
set_option maxHeartbeats 16000000 in
theorem c28 {h : Hal} (hk : h.ok) {s : Stg} (hs : s.few) (b : Int) : PCall Tryz.prog 28 [h.av, s.av, I b] ⟨.tup [.agg [I (absA h s b).1, I (absA h s b).2], I (bandE h s b)], []⟩ := by
  have hk0 := one_ok (c83 hk hs) (one_ok (c84 hk.f s) k78_ok)
  by_cases he : serr h s = 0
  · have g := sit_of hk hs he
    have hn := nsur_bd g.fine
    cases hw : within b 0 3 with
    | false =>
      have e1 : bandE h s b = 6 := by unfold bandE; rw [if_pos he, hw]; rfl
      have e2 : absA h s b = (0, 0) := by unfold absA; rw [if_neg (by omega)]
      rw [e1, e2]
      rw [he] at hk0
      refine bs.pv (sx := nos) hk0 Tryz.func28 (by kernel_rfl) (by kernel_rfl) rfl ?_
      repeat' ((conv => whnf); (fail_if_success with_reducible refine Stop.go ?_); first | with_reducible refine wkA ?_ | ((with_reducible refine wkS ?_ ?_); · exact wkU) | ((with_reducible refine wkY ?_ ?_); · omega) | ((with_reducible refine wkN ?_ ?_); · omega) | ((with_reducible refine wkQ ?_ ?_); · omega) | ((with_reducible refine wkR ?_ ?_); · omega) | with_reducible refine wkB (fun _ => ?_) (fun _ => ?_) | refine Got.intro (by assumption) ?_ | refine Got.intro (asr_of (by assumption)) ?_ | refine Got.intro (one_hit _ _) ?_ | with_reducible refine Ap.new ?_); all_goals (conv => whnf)
      · exact ret_of rfl rfl
      all_goals (exfalso; simp_all; done)
    | true =>
      have e1 : bandE h s b = 0 := by unfold bandE; rw [if_pos he, hw]; rfl
      have e2 : absA h s b = absV h s b := by unfold absA; rw [if_pos e1]
      have hb := within_iff.1 hw
      rw [e1, e2]
      rw [he] at hk0
      have hb4 : b = 0 ∨ b = 1 ∨ b = 2 ∨ b = 3 := by omega
      clear hb
      refine bs.pv (sx := nos) hk0 Tryz.func28 (by kernel_rfl) (by kernel_rfl) rfl ?_
      repeat' ((conv => whnf); (fail_if_success with_reducible refine Stop.go ?_); first | with_reducible refine wkA ?_ | ((with_reducible refine wkS ?_ ?_); · exact wkU) | ((with_reducible refine wkY ?_ ?_); · omega) | ((with_reducible refine wkN ?_ ?_); · omega) | ((with_reducible refine wkQ ?_ ?_); · omega) | ((with_reducible refine wkR ?_ ?_); · omega) | with_reducible refine wkB (fun _ => ?_) (fun _ => ?_) | refine Got.intro (by assumption) ?_ | refine Got.intro (asr_of (by assumption)) ?_ | refine Got.intro (one_hit _ _) ?_ | with_reducible refine Ap.new ?_); all_goals (conv => whnf)
      · exfalso; simp_all; done
      refine loopV (S := Nat × Int × Int × Int) (fun t => (nsur h).toNat - t.1) (fun t => [(2, I b), (6, .ptr 2 0 0), (8, .ptr 3 0 0), (10, .ptr 4 0 0), (31, I (nsur h)), (32, I t.2.1)]) (fun t => [(4, .row 2 [[I t.2.2.1, I t.2.2.2]] true false), (3, .row 11 [stgL h s] true false), (2, .row 2 [[I 0, I 0]] true false)]) 5 5
        (fun t => t.2.1 = t.1 ∧ (t.1 : Int) ≤ nsur h ∧ t.2.2 = sumS h s b t.1) (0, 0, 0, 0) ⟨rfl, by omega, rfl⟩ (Nat.le_refl _) [] rfl (by (repeat' (first | exact trivial | refine And.intro ?_ ?_ | exact rfl | exact ⟨_, rfl, rfl, rfl⟩))) (by (repeat' (first | exact trivial | refine And.intro ?_ ?_ | exact rfl | exact ⟨_, rfl, rfl, rfl⟩))) ?_
      rintro ⟨k, i, lo, hi⟩ ⟨hi1, hk1, hS⟩
      dsimp only at hi1 hk1 hS ⊢
      subst hi1
      have hB := sumS_bd g b k hk1
      rw [← hS] at hB
      dsimp only at hB
      by_cases hlt : (k : Int) < nsur h
      · have hsk : SK h k := sk_of (by omega) hlt
        have hA := areaV_bd g hsk
        have hK := absK_bd g (b := b) hsk
        have hstep : ∀ M, M = absK h s b k → (IntKind.i64.wrap (lo + IntKind.i64.wrap ((areaV h k).1 * M)), IntKind.i64.wrap (hi + IntKind.i64.wrap ((areaV h k).2 * M))) = sumS h s b (k + 1) := by
          rintro M rfl
          have hB2 := sumS_bd g b (k + 1) (by omega)
          have m1 := mul_abs (a := (areaV h k).1) (b := absK h s b k) (A := 300000001) (B := 2000) (by omega) (by omega) (by omega) (by omega)
          have m2 := mul_abs (a := (areaV h k).2) (b := absK h s b k) (A := 300000001) (B := 2000) (by omega) (by omega) (by omega) (by omega)
          rw [sumS, ← hS]
          rw [W_eq (n := (areaV h k).1 * absK h s b k) (by omega) (by omega), W_eq (n := (areaV h k).2 * absK h s b k) (by omega) (by omega), W_eq (by omega) (by omega), W_eq (by omega) (by omega)]
        have hkk := one_ok (c85 g hsk) (one_ok (c86 g hsk) (one_ok (c87 g.ok.f s hsk) pt0_ok))
        have habs : absK h s b k = if isK h k then absB (matS h s k) b * 2 else absB (matS h s k) b := rfl
        generalize matS h s k = m at *
        have hb0 : 0 ≤ absB m b ∧ absB m b ≤ 1000 := hK.1
        have hn18 := hn.2
        clear hK hA hB hS
        cases hc : isK h k
        · rw [hc, if_neg (by simp)] at habs
          rw [hc, show canV h k = .agg canZ by unfold canV; rw [hc]] at hkk
          rcases hb4 with rfl | rfl | rfl | rfl
          all_goals
            refine bs.av (sx := nos) hkk ?_
            repeat' ((conv => whnf); (fail_if_success with_reducible refine Stop.go ?_); first | with_reducible refine wkA ?_ | ((with_reducible refine wkS ?_ ?_); · exact wkU) | ((with_reducible refine wkY ?_ ?_); · omega) | ((with_reducible refine wkN ?_ ?_); · omega) | ((with_reducible refine wkQ ?_ ?_); · omega) | ((with_reducible refine wkR ?_ ?_); · omega) | with_reducible refine wkB (fun _ => ?_) (fun _ => ?_) | refine Got.intro (by assumption) ?_ | refine Got.intro (asr_of (by assumption)) ?_ | refine Got.intro (one_hit _ _) ?_ | with_reducible refine Ap.new ?_); all_goals (conv => whnf)
            exact Done.mk ⟨(k + 1, _, _, _), [], rfl, by (repeat' (first | exact trivial | refine And.intro ?_ ?_ | exact rfl | exact ⟨_, rfl, rfl, rfl⟩)), by (repeat' (first | exact trivial | refine And.intro ?_ ?_ | exact rfl | exact ⟨_, rfl, rfl, rfl⟩)), ⟨W_succ (by omega), by omega, hstep _ habs.symm⟩, by dsimp only; omega⟩
        · rw [hc, if_pos rfl] at habs
          rw [hc, show canV h k = .agg (kat h k).av by unfold canV; rw [hc]] at hkk
          have hw2 : IntKind.i64.wrap (absB m b * 2) = absK h s b k := by rw [habs]; exact W_eq (by omega) (by omega)
          rcases hb4 with rfl | rfl | rfl | rfl
          all_goals
            refine bs.av (sx := nos) hkk ?_
            repeat' ((conv => whnf); (fail_if_success with_reducible refine Stop.go ?_); first | with_reducible refine wkA ?_ | ((with_reducible refine wkS ?_ ?_); · exact wkU) | ((with_reducible refine wkY ?_ ?_); · omega) | ((with_reducible refine wkN ?_ ?_); · omega) | ((with_reducible refine wkQ ?_ ?_); · omega) | ((with_reducible refine wkR ?_ ?_); · omega) | with_reducible refine wkB (fun _ => ?_) (fun _ => ?_) | refine Got.intro (by assumption) ?_ | refine Got.intro (asr_of (by assumption)) ?_ | refine Got.intro (one_hit _ _) ?_ | with_reducible refine Ap.new ?_); all_goals (conv => whnf)
            exact Done.mk ⟨(k + 1, _, _, _), [], rfl, by (repeat' (first | exact trivial | refine And.intro ?_ ?_ | exact rfl | exact ⟨_, rfl, rfl, rfl⟩)), by (repeat' (first | exact trivial | refine And.intro ?_ ?_ | exact rfl | exact ⟨_, rfl, rfl, rfl⟩)), ⟨W_succ (by omega), by omega, hstep _ hw2⟩, by dsimp only; omega⟩
      · have hkn : k = (nsur h).toNat := by omega
        have hV : absV h s b = (lo / 1000, (hi + 999) / 1000) := by unfold absV; rw [← hkn, ← hS]
        have w1 : IntKind.i64.wrap (lo.tdiv 1000) = lo / 1000 := by rw [Int.tdiv_eq_ediv_of_nonneg (by omega)]; exact W_eq (by omega) (by omega)
        have w2 : IntKind.i64.wrap (hi + 1000) = hi + 1000 := W_eq (by omega) (by omega)
        have w3 : IntKind.i64.wrap (hi + 1000 - 1) = hi + 999 := by rw [W_eq (by omega) (by omega)]; omega
        have w4 : IntKind.i64.wrap ((hi + 999).tdiv 1000) = (hi + 999) / 1000 := by rw [Int.tdiv_eq_ediv_of_nonneg (by omega)]; exact W_eq (by omega) (by omega)
        rw [hV]
        refine bs.av (sx := nos) pt0_ok ?_
        repeat' ((conv => whnf); (fail_if_success with_reducible refine Stop.go ?_); first | with_reducible refine wkA ?_ | ((with_reducible refine wkS ?_ ?_); · exact wkU) | ((with_reducible refine wkY ?_ ?_); · omega) | ((with_reducible refine wkN ?_ ?_); · omega) | ((with_reducible refine wkQ ?_ ?_); · omega) | ((with_reducible refine wkR ?_ ?_); · omega) | with_reducible refine wkB (fun _ => ?_) (fun _ => ?_) | refine Got.intro (by assumption) ?_ | refine Got.intro (asr_of (by assumption)) ?_ | refine Got.intro (one_hit _ _) ?_ | with_reducible refine Ap.new ?_); all_goals (conv => whnf)
        exact ret_of (by rw [w1, w2, w3, w4]) rfl
  · have e1 : bandE h s b = serr h s := by unfold bandE; rw [if_neg he]
    have e2 : absA h s b = (0, 0) := by unfold absA; rw [if_neg (by omega)]
    rw [e1, e2]
    refine bs.pv (sx := nos) hk0 Tryz.func28 (by kernel_rfl) (by kernel_rfl) rfl ?_
    repeat' ((conv => whnf); (fail_if_success with_reducible refine Stop.go ?_); first | with_reducible refine wkA ?_ | ((with_reducible refine wkS ?_ ?_); · exact wkU) | ((with_reducible refine wkY ?_ ?_); · omega) | ((with_reducible refine wkN ?_ ?_); · omega) | ((with_reducible refine wkQ ?_ ?_); · omega) | ((with_reducible refine wkR ?_ ?_); · omega) | with_reducible refine wkB (fun _ => ?_) (fun _ => ?_) | refine Got.intro (by assumption) ?_ | refine Got.intro (asr_of (by assumption)) ?_ | refine Got.intro (one_hit _ _) ?_ | with_reducible refine Ap.new ?_); all_goals (conv => whnf)
    exact ret_of rfl rfl
end Go.Proofs.YtjpmeaagnhojgaaGreat
namespace Go.Proofs.YtjpmeaagnhojgaaGreat
open Go Go.Sx

theorem n03 : ¬ (0 : Int) = 3 := by decide
theorem n13 : ¬ (1 : Int) = 3 := by decide
theorem n23 : ¬ (2 : Int) = 3 := by decide
theorem kind3 (h : Hal) {i : Int} (hi : SK h i) : decide ((kindV h i).1 = 3) = isK h i := by
  unfold kindV isK
  split
  · rw [decide_eq_false (by first | exact n03 | exact n13 | exact n23), decide_eq_false (by omega)]
  · split
    · rw [decide_eq_false (by first | exact n03 | exact n13 | exact n23), decide_eq_false (by omega)]
    · split
      · rw [decide_eq_false (by first | exact n03 | exact n13 | exact n23), decide_eq_false (by omega)]
      · rw [decide_eq_true (by rfl)]
        symm; apply decide_eq_true
        cases hi <;> omega
set_option maxRecDepth 100000 in
set_option maxHeartbeats 16000000 in
theorem c31 {h : Hal} {s : Stg} (g : Sit h s) {b : Int} (hw : within b 0 3 = true) : PCall Tryz.prog 31 [h.av, s.av, I b] ⟨.agg [I (absV h s b).1, I (absV h s b).2], []⟩ := by
  have hn := nsur_bd g.fine
  have hb := within_iff.1 hw
  have hb4 : b = 0 ∨ b = 1 ∨ b = 2 ∨ b = 3 := by omega
  clear hb
  have hBo := sumS_bd g b (nsur h).toNat (by omega)
  have hko := one_ok (c90 (n := (sumS h s b (nsur h).toNat).1) (b := 1000) (by decide) (by omega) (by omega)) (one_ok (c91 (n := (sumS h s b (nsur h).toNat).2) (b := 1000) (by decide) (by omega) (by omega)) pt0_ok)
  refine bs.pv (sx := nos) hko Tryz.func31 (by kernel_rfl) (by kernel_rfl) rfl ?_
  repeat' ((conv => whnf); (fail_if_success with_reducible refine Stop.go ?_); first | with_reducible refine wkA ?_ | ((with_reducible refine wkS ?_ ?_); · exact wkU) | with_reducible refine wkB (fun _ => ?_) (fun _ => ?_) | refine Got.intro (by assumption) ?_ | refine Got.intro (asr_of (by assumption)) ?_ | refine Got.intro (one_hit _ _) ?_ | with_reducible refine Ap.new ?_); all_goals (conv => whnf)
  conv => whnf
  refine loopV (S := Nat × Int × Int × Int) (fun t => (nsur h).toNat - t.1) (fun t => [(3, .ptr 0 0 0), (4, .ptr 1 0 0), (2, I b), (6, .ptr 2 0 0), (7, I t.2.2.1), (8, I t.2.2.2), (9, I t.2.1)]) (fun t => [(2, .row 2 [[I 0, I 0]] true false), (1, .row 2 [[.isl 1 (nl s.hs), .isl 1 (nl s.dr)]] true false), (0, .row 9 [h.cells] true false)]) 3 3
    (fun t => t.2.1 = t.1 ∧ (t.1 : Int) ≤ nsur h ∧ t.2.2 = sumS h s b t.1) (0, 0, 0, 0) ⟨rfl, by omega, rfl⟩ (Nat.le_refl _) [] rfl (by (repeat' (first | exact trivial | refine And.intro ?_ ?_ | exact rfl | exact ⟨_, rfl, rfl, rfl⟩))) (by (repeat' (first | exact trivial | refine And.intro ?_ ?_ | exact rfl | exact ⟨_, rfl, rfl, rfl⟩))) ?_
  rintro ⟨k, i, lo, hi⟩ ⟨hi1, hk1, hS⟩
  dsimp only at hi1 hk1 hS ⊢
  subst hi1
  have hB := sumS_bd g b k hk1
  rw [← hS] at hB
  dsimp only at hB
  have hk0 := one_ok (c88 g.ok.f (k : Int)) pt0_ok
  by_cases hlt : (k : Int) < nsur h
  · have hsk : SK h k := sk_of (by omega) hlt
    have hA := areaV_bd g hsk
    have hK := absK_bd g (b := b) hsk
    have hstep : ∀ M, M = absK h s b k → (IntKind.i64.wrap (lo + IntKind.i64.wrap ((areaV h k).1 * M)), IntKind.i64.wrap (hi + IntKind.i64.wrap ((areaV h k).2 * M))) = sumS h s b (k + 1) := by
      rintro M rfl
      have m1 := mul_abs (a := (areaV h k).1) (b := absK h s b k) (A := 300000001) (B := 2000) (by omega) (by omega) (by omega) (by omega)
      have m2 := mul_abs (a := (areaV h k).2) (b := absK h s b k) (A := 300000001) (B := 2000) (by omega) (by omega) (by omega) (by omega)
      rw [sumS, ← hS]
      rw [W_eq (n := (areaV h k).1 * absK h s b k) (by omega) (by omega), W_eq (n := (areaV h k).2 * absK h s b k) (by omega) (by omega), W_eq (by omega) (by omega), W_eq (by omega) (by omega)]
    have hin : within (k : Int) 0 (nsur h - 1) = true := within_iff.2 ⟨by omega, by omega⟩
    rw [hin] at hk0
    have hkk := one_ok (c58 g hsk) (one_ok (c62 g hsk) (one_ok (c89 g.ok.f hsk) hk0))
    have h3 := kind3 h hsk
    have habs : absK h s b k = if isK h k then absB (matS h s k) b * 2 else absB (matS h s k) b := rfl
    generalize matS h s k = m at *
    have hb0 : 0 ≤ absB m b ∧ absB m b ≤ 1000 := hK.1
    have hn18 := hn.2
    clear hK hA hB hS
    generalize kindV h k = kv at *
    cases hc : isK h k
    · rw [hc, if_neg (by simp)] at habs
      rw [hc] at h3
      have h3' := of_decide_eq_false h3
      rcases hb4 with rfl | rfl | rfl | rfl
      all_goals
        refine bs.av (sx := nos) hkk ?_
        repeat' ((conv => whnf); (fail_if_success with_reducible refine Stop.go ?_); first | with_reducible refine wkA ?_ | ((with_reducible refine wkS ?_ ?_); · exact wkU) | ((with_reducible refine wkY ?_ ?_); · omega) | ((with_reducible refine wkN ?_ ?_); · omega) | ((with_reducible refine wkQ ?_ ?_); · omega) | ((with_reducible refine wkR ?_ ?_); · omega) | with_reducible refine wkB (fun _ => ?_) (fun _ => ?_) | refine Got.intro (by assumption) ?_ | refine Got.intro (asr_of (by assumption)) ?_ | refine Got.intro (one_hit _ _) ?_ | with_reducible refine Ap.new ?_); all_goals (conv => whnf)
        exact Done.mk ⟨(k + 1, _, _, _), [], rfl, by (repeat' (first | exact trivial | refine And.intro ?_ ?_ | exact rfl | exact ⟨_, rfl, rfl, rfl⟩)), by (repeat' (first | exact trivial | refine And.intro ?_ ?_ | exact rfl | exact ⟨_, rfl, rfl, rfl⟩)), ⟨W_succ (by omega), by omega, hstep _ habs.symm⟩, by dsimp only; omega⟩
    · rw [hc, if_pos rfl] at habs
      rw [hc] at h3
      have h3' := of_decide_eq_true h3
      have hw2 : IntKind.i64.wrap (2 * absB m b) = absK h s b k := by rw [habs, Int.mul_comm]; exact W_eq (by omega) (by omega)
      rcases hb4 with rfl | rfl | rfl | rfl
      all_goals
        refine bs.av (sx := nos) hkk ?_
        repeat' ((conv => whnf); (fail_if_success with_reducible refine Stop.go ?_); first | with_reducible refine wkA ?_ | ((with_reducible refine wkS ?_ ?_); · exact wkU) | ((with_reducible refine wkY ?_ ?_); · omega) | ((with_reducible refine wkN ?_ ?_); · omega) | ((with_reducible refine wkQ ?_ ?_); · omega) | ((with_reducible refine wkR ?_ ?_); · omega) | with_reducible refine wkB (fun _ => ?_) (fun _ => ?_) | refine Got.intro (by assumption) ?_ | refine Got.intro (asr_of (by assumption)) ?_ | refine Got.intro (one_hit _ _) ?_ | with_reducible refine Ap.new ?_); all_goals (conv => whnf)
        exact Done.mk ⟨(k + 1, _, _, _), [], rfl, by (repeat' (first | exact trivial | refine And.intro ?_ ?_ | exact rfl | exact ⟨_, rfl, rfl, rfl⟩)), by (repeat' (first | exact trivial | refine And.intro ?_ ?_ | exact rfl | exact ⟨_, rfl, rfl, rfl⟩)), ⟨W_succ (by omega), by omega, hstep _ hw2⟩, by dsimp only; omega⟩
  · have hkn : k = (nsur h).toNat := by omega
    have hin : within (k : Int) 0 (nsur h - 1) = false := by
      cases hx : within (k : Int) 0 (nsur h - 1)
      · rfl
      · have := within_iff.1 hx; omega
    rw [hin] at hk0
    have e1 : lo = (sumS h s b (nsur h).toNat).1 := by rw [← hkn, ← hS]
    have e2 : hi = (sumS h s b (nsur h).toNat).2 := by rw [← hkn, ← hS]
    have hV : absV h s b = ((sumS h s b (nsur h).toNat).1 / 1000, -((-(sumS h s b (nsur h).toNat).2) / 1000)) := by unfold absV; exact Prod.ext rfl (by dsimp only; omega)
    rw [hV, e1, e2]
    refine bs.av (sx := nos) hk0 ?_
    repeat' ((conv => whnf); (fail_if_success with_reducible refine Stop.go ?_); first | with_reducible refine wkA ?_ | ((with_reducible refine wkS ?_ ?_); · exact wkU) | ((with_reducible refine wkY ?_ ?_); · omega) | ((with_reducible refine wkN ?_ ?_); · omega) | ((with_reducible refine wkQ ?_ ?_); · omega) | ((with_reducible refine wkR ?_ ?_); · omega) | with_reducible refine wkB (fun _ => ?_) (fun _ => ?_) | refine Got.intro (by assumption) ?_ | refine Got.intro (asr_of (by assumption)) ?_ | refine Got.intro (one_hit _ _) ?_ | with_reducible refine Ap.new ?_); all_goals (conv => whnf)
    exact ret_of rfl rfl
end Go.Proofs.YtjpmeaagnhojgaaGreat
namespace Go.Proofs.YtjpmeaagnhojgaaGreat
open Go Go.Sx

set_option maxRecDepth 100000 in
set_option maxHeartbeats 16000000 in
theorem c4 (h : Hal) (s : Stg) (b : Int) : PCall Tryz.prog 4 [h.av, s.av, I b] ⟨Bo true, []⟩ := by
  by_cases hb : (fewB h && shortB s) = true
  · rw [Bool.and_eq_true] at hb
    have hk := few_ok hb.1
    have hs := short_few hb.2
    obtain ⟨hb1, hb2⟩ := hb
    have hk1 := one_ok (c28 hk hs b) (one_ok (c20 hk hs) (one_ok (c30 b 0 3) (kLs_ok hk hs)))
    by_cases h0 : serr h s = 0
    · have g := sit_of hk hs h0
      cases hw : within b 0 3 with
      | true =>
        have e1 : bandE h s b = 0 := by unfold bandE; rw [if_pos h0, hw]; rfl
        have e2 : absA h s b = absV h s b := by unfold absA; rw [if_pos e1]
        have hk2 := one_ok (c31 g hw) hk1
        rw [e1, e2, h0, hw] at hk2
        clear hk1
        refine bs.pv (sx := nos) hk2 Tryz.func4 (by kernel_rfl) (by kernel_rfl) rfl ?_
        repeat' ((conv => whnf); (fail_if_success with_reducible refine Stop.go ?_); first | with_reducible refine wkA ?_ | ((with_reducible refine wkS ?_ ?_); · exact wkU) | ((with_reducible refine wkY ?_ ?_); · omega) | ((with_reducible refine wkN ?_ ?_); · omega) | ((with_reducible refine wkQ ?_ ?_); · omega) | ((with_reducible refine wkR ?_ ?_); · omega) | with_reducible refine wkB (fun _ => ?_) (fun _ => ?_) | refine Got.intro (by assumption) ?_ | refine Got.intro (asr_of (by assumption)) ?_ | refine Got.intro (one_hit _ _) ?_ | with_reducible refine Ap.new ?_); all_goals (conv => whnf)
        clear hk2
        all_goals first
          | exact ret_bool rfl
          | (exfalso; simp_all; done)
          | exact ret_bool (by simp_all; done)
      | false =>
        have e1 : bandE h s b = 6 := by unfold bandE; rw [if_pos h0, hw]; rfl
        have e2 : absA h s b = (0, 0) := by unfold absA; rw [if_neg (by omega)]
        rw [e1, e2, h0, hw] at hk1
        refine bs.pv (sx := nos) hk1 Tryz.func4 (by kernel_rfl) (by kernel_rfl) rfl ?_
        repeat' ((conv => whnf); (fail_if_success with_reducible refine Stop.go ?_); first | with_reducible refine wkA ?_ | ((with_reducible refine wkS ?_ ?_); · exact wkU) | ((with_reducible refine wkY ?_ ?_); · omega) | ((with_reducible refine wkN ?_ ?_); · omega) | ((with_reducible refine wkQ ?_ ?_); · omega) | ((with_reducible refine wkR ?_ ?_); · omega) | with_reducible refine wkB (fun _ => ?_) (fun _ => ?_) | refine Got.intro (by assumption) ?_ | refine Got.intro (asr_of (by assumption)) ?_ | refine Got.intro (one_hit _ _) ?_ | with_reducible refine Ap.new ?_); all_goals (conv => whnf)
        clear hk1
        all_goals first
          | exact ret_bool rfl
          | (exfalso; simp_all; done)
          | exact ret_bool (by simp_all; done)
    · have e1 : bandE h s b = serr h s := by unfold bandE; rw [if_neg h0]
      have e2 : absA h s b = (0, 0) := by unfold absA; rw [if_neg (by omega)]
      rw [e1, e2] at hk1
      refine bs.pv (sx := nos) hk1 Tryz.func4 (by kernel_rfl) (by kernel_rfl) rfl ?_
      repeat' ((conv => whnf); (fail_if_success with_reducible refine Stop.go ?_); first | with_reducible refine wkA ?_ | ((with_reducible refine wkS ?_ ?_); · exact wkU) | ((with_reducible refine wkY ?_ ?_); · omega) | ((with_reducible refine wkN ?_ ?_); · omega) | ((with_reducible refine wkQ ?_ ?_); · omega) | ((with_reducible refine wkR ?_ ?_); · omega) | with_reducible refine wkB (fun _ => ?_) (fun _ => ?_) | refine Got.intro (by assumption) ?_ | refine Got.intro (asr_of (by assumption)) ?_ | refine Got.intro (one_hit _ _) ?_ | with_reducible refine Ap.new ?_); all_goals (conv => whnf)
      clear hk1
      all_goals first
        | exact ret_bool rfl
        | (exfalso; simp_all; done)
        | exact ret_bool (by simp_all; done)
  · refine bs.pv (sx := nos) (kNs_ok h s) Tryz.func4 (by kernel_rfl) (by kernel_rfl) rfl ?_
    repeat' ((conv => whnf); (fail_if_success with_reducible refine Stop.go ?_); first | with_reducible refine wkA ?_ | ((with_reducible refine wkS ?_ ?_); · exact wkU) | ((with_reducible refine wkY ?_ ?_); · omega) | ((with_reducible refine wkN ?_ ?_); · omega) | ((with_reducible refine wkQ ?_ ?_); · omega) | ((with_reducible refine wkR ?_ ?_); · omega) | with_reducible refine wkB (fun _ => ?_) (fun _ => ?_) | refine Got.intro (by assumption) ?_ | refine Got.intro (asr_of (by assumption)) ?_ | refine Got.intro (one_hit _ _) ?_ | with_reducible refine Ap.new ?_); all_goals (conv => whnf)
    all_goals first
      | exact ret_bool rfl
      | (exfalso; simp_all; done)
end Go.Proofs.YtjpmeaagnhojgaaGreat
