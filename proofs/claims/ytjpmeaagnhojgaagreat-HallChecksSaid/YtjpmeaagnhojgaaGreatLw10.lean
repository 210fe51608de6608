/- A part of the proof: lemmas. -/
import Derived.Test.YtjpmeaagnhojgaaGreatLw9
import Derived.Test.YtjpmeaagnhojgaaGreatLw7
import Derived.Test.YtjpmeaagnhojgaaGreatRows
set_option linter.unusedVariables false
set_option linter.unusedSimpArgs false
namespace Go.Proofs.YtjpmeaagnhojgaaGreat
open Go Go.Sx

/-- In a right hall. -/
structure Hal.fine (h : Hal) : Prop where
  nms : h.names = (matsGo 0 [] h.ms).2.2
  le : h.ms.length ≤ 10 ∧ 3 ≤ h.cs.length ∧ h.ws.length = h.cs.length ∧ h.ws.length ≤ 12 ∧ h.ks.length ≤ 4 ∧ h.ss.length ≤ 40
  ht : 2 ≤ h.ht ∧ h.ht ≤ 5000
  mats : ∀ m ∈ h.ms, matErr m = 0
  fl : ∃ m ∈ h.ms, m.nm = h.fl
  ce : ∃ m ∈ h.ms, m.nm = h.ce
  bd : CorOk h.cs
  st : AllStr h.cs
  simple : isSimple h = true
  area : 0 < twArea h
  wal : ∀ i (hi : i < h.ws.length), wErrR h i h.ws[i] = 0
  can : ∀ i (hi : i < h.ks.length), cErrR h i h.ks[i] = 0
  sea : ∀ i (hi : i < h.ss.length), sErrR h i h.ss[i] = 0
theorem fe_zero {x : Int × Int × Int} {l : List (Int × Int × Int)} (h : (firstErr (x :: l)).2.2 = 0) : x.2.2 = 0 ∧ (firstErr l).2.2 = 0 := by
  rw [firstErr] at h
  by_cases c : x.2.2 = 0
  · rw [if_pos c] at h; exact ⟨c, h⟩
  · rw [if_neg c] at h; exact absurd h c
theorem fine_of {h : Hal} (hk : h.ok) (he : h.err = 0) : h.fine := by
  have h0 : (chkR h).2.2 = 0 := by rw [chk_eq hk.f]; exact he
  unfold chkR chkListR at h0
  obtain ⟨z1, h0⟩ := fe_zero h0
  obtain ⟨z2, h0⟩ := fe_zero h0
  obtain ⟨z3, h0⟩ := fe_zero h0
  obtain ⟨z4, h0⟩ := fe_zero h0
  obtain ⟨z5, h0⟩ := fe_zero h0
  obtain ⟨z6, h0⟩ := fe_zero h0
  obtain ⟨z7, h0⟩ := fe_zero h0
  obtain ⟨z8, h0⟩ := fe_zero h0
  obtain ⟨z9, h0⟩ := fe_zero h0
  obtain ⟨z10, h0⟩ := fe_zero h0
  obtain ⟨z11, h0⟩ := fe_zero h0
  obtain ⟨z12, h0⟩ := fe_zero h0
  obtain ⟨z13, h0⟩ := fe_zero h0
  obtain ⟨z14, h0⟩ := fe_zero h0
  obtain ⟨z15, h0⟩ := fe_zero h0
  have z2 := within_iff.1 (unl_zero z2 (by decide))
  have z3 := of_decide_eq_true (unl_zero z3 (by decide))
  have z6 := unl_zero z6 (by decide)
  have z7 := of_decide_eq_true (unl_zero z7 (by decide))
  have z10 := unl_zero z10 (by decide)
  have z11 := of_decide_eq_true (unl_zero z11 (by decide))
  have z12 := of_decide_eq_true (unl_zero z12 (by decide))
  have z14 := of_decide_eq_true (unl_zero z14 (by decide))
  simp only [Bool.and_eq_true, decide_eq_true_eq] at z6
  have hb : CorOk h.cs := corOk_of z8
  have hwc : h.ws.length = h.cs.length := by omega
  have hst : AllStr h.cs := allStr_of hb hwc z9
  have hfl : ¬(matIx h.fl 0 h.ms < 0) ∧ ¬(matIx h.ce 0 h.ms < 0) := by
    change flErrR h = 0 at z5
    unfold flErrR at z5
    split at z5
    · cases z5
    · rename_i hx
      simp only [Bool.or_eq_true, decide_eq_true_eq, not_or] at hx
      exact hx
  refine ⟨rfl, ⟨by omega, by omega, hwc, by omega, by omega, by omega⟩, z2, ?_, ?_, ?_, hb, hst, ?_, by rw [twArea_eq]; exact z11, ?_, ?_, ?_⟩
  · intro m hm
    obtain ⟨i, hi, rfl⟩ := List.mem_iff_getElem.1 hm
    have := fIx_zero (n := h.ms.length) _ 0 rfl z4 i (Nat.zero_le _) hi
    unfold mErrR at this
    rw [List.getElem?_eq_getElem hi] at this
    change mErr h i h.ms[i] = 0 at this
    unfold mErr at this
    unfold matErr
    split at this
    · split at this
      · cases this
      · split at this
        · rename_i hx
          rw [if_pos (by simp only [Bool.and_eq_true] at hx ⊢; simp [hx])]
        · cases this
    · cases this
  · have := mt (matIx_neg h.fl h.ms 0).2 hfl.1; exact Classical.not_not.1 this
  · have := mt (matIx_neg h.ce h.ms 0).2 hfl.2; exact Classical.not_not.1 this
  · rw [simple_eq hst (by omega) hk.f.2.1]; exact z10
  · intro i hi
    have := fIx_zero (n := h.ws.length) _ 0 rfl z9 i (Nat.zero_le _) hi
    unfold waErrR at this
    rw [List.getElem?_eq_getElem hi] at this
    exact this
  · intro i hi
    have := fIx_zero (n := h.ks.length) _ 0 rfl z13 i (Nat.zero_le _) hi
    unfold caErrR at this
    rw [List.getElem?_eq_getElem hi] at this
    exact this
  · intro i hi
    have := fIx_zero (n := h.ss.length) _ 0 rfl z15 i (Nat.zero_le _) hi
    unfold seErrR at this
    rw [List.getElem?_eq_getElem hi] at this
    exact this

/-! ### The program's names of surfaces -/
noncomputable def kS (h : Hal) : PC := ins 76 (one [h.av] ⟨.tup [h.av, I h.err], []⟩) kQ2
theorem kS_ok {h : Hal} (hk : h.ok) : PCOK Tryz.prog (kS h) := one_ok (c76 hk) kQ2_ok
set_option maxRecDepth 100000 in
set_option maxHeartbeats 16000000 in
theorem c64 {h : Hal} (hk : h.ok) : PCall Tryz.prog 64 [h.av] ⟨.tup [.isl 1 (sl (if h.err = 0 then surf h else [])), I h.err], []⟩ := by
  have hkS := kS_ok hk
  by_cases he : h.err = 0
  · have hfi := fine_of hk he
    obtain ⟨_, g2, g3, _⟩ := hfi.le
    have l3 := wa_length h.ws
    have l4 := ca_length h.ks
    obtain ⟨f1, f2, f3, f4, f5, f6⟩ := hk.f
    rw [if_pos he]
    refine PCall.freeze (res := ⟨.tup [.asl 0 0 (sl (surf h)).length, I h.err], [(1, sl (surf h))]⟩) ?_ ⟨⟨rfl, rfl, rfl⟩, ⟨rfl, rfl⟩, trivial⟩
    refine bs.pv (sx := nos) hkS Tryz.func64 (by kernel_rfl) (by kernel_rfl) rfl ?_
    repeat' ((conv => whnf); (fail_if_success with_reducible refine Stop.go ?_); first | with_reducible refine wkA ?_ | ((with_reducible refine wkS ?_ ?_); · exact wkU) | ((with_reducible refine wkY ?_ ?_); · omega) | ((with_reducible refine wkN ?_ ?_); · omega) | ((with_reducible refine wkQ ?_ ?_); · omega) | ((with_reducible refine wkR ?_ ?_); · omega) | with_reducible refine wkB (fun _ => ?_) (fun _ => ?_) | refine Got.intro (by assumption) ?_ | refine Got.intro (asr_of (by assumption)) ?_ | refine Got.intro (one_hit _ _) ?_ | with_reducible refine Ap.new ?_); all_goals (conv => whnf)
    refine Lp.ren (env2 := [(4, .ptr 1 0 0), (6, .nils), (21, .isl 3 (h.ws.map Wal.av)), (22, I (h.ws.map Wal.av).length), (23, I 0)]) (σ2 := ⟨[(1, .row 9 [h.cells] true false)], 3⟩) (Ren.of [] rfl (by (repeat' (first | exact trivial | refine And.intro ?_ ?_ | exact rfl | exact ⟨_, rfl, rfl, rfl⟩))) (by (repeat' (first | exact trivial | refine And.intro ?_ ?_ | exact rfl | exact ⟨_, rfl, rfl, rfl⟩)))) ?_
    refine loopV (S := Nat × Int × Nat × List (List AV)) (fun t => h.ws.length - t.1) (fun t => [(4, .ptr 1 0 0), (6, gv 3 t.1 t.2.2.1), (21, .isl 3 (h.ws.map Wal.av)), (22, I (h.ws.map Wal.av).length), (23, I t.2.1)]) (fun t => gz 3 1 t.1 t.2.2.2 [(1, .row 9 [h.cells] true false)]) 3 4
      (fun t => t.2.1 = t.1 ∧ t.1 ≤ h.ws.length ∧ t.2.2.1 = t.2.2.2.length ∧ t.2.2.2 = sl ((wNames h).take t.1)) (0, 0, 0, []) ⟨rfl, Nat.zero_le _, rfl, rfl⟩ (Nat.le_refl _) [] rfl (by (repeat' (first | exact trivial | refine And.intro ?_ ?_ | exact rfl | exact ⟨_, rfl, rfl, rfl⟩))) (by (repeat' (first | exact trivial | refine And.intro ?_ ?_ | exact rfl | exact ⟨_, rfl, rfl, rfl⟩))) ?_
    rintro ⟨k, i, len, els⟩ ⟨hi, hk, hlen, hels⟩
    dsimp only at hi hk hlen hels ⊢
    subst hi
    refine bs.av (sx := nos) hkS ?_
    have e4 : els.length < 2000 := by rw [hels, sl_length, List.length_take]; omega
    by_cases hlt : k < h.ws.length
    · have e1 := wa_get hlt
      have e3 := wN_take hlt
      cases k with
      | zero =>
        repeat' ((conv => whnf); (fail_if_success with_reducible refine Stop.go ?_); first | with_reducible refine wkA ?_ | ((with_reducible refine wkS ?_ ?_); · exact wkU) | ((with_reducible refine wkY ?_ ?_); · omega) | ((with_reducible refine wkN ?_ ?_); · omega) | ((with_reducible refine wkQ ?_ ?_); · omega) | ((with_reducible refine wkR ?_ ?_); · omega) | with_reducible refine wkB (fun _ => ?_) (fun _ => ?_) | refine Got.intro (by assumption) ?_ | refine Got.intro (asr_of (by assumption)) ?_ | refine Got.intro (one_hit _ _) ?_ | with_reducible refine Ap.new ?_); all_goals (conv => whnf)
        exact Done.mk ⟨(1, _, _, _), [(3, 6)], rfl, by (repeat' (first | exact trivial | refine And.intro ?_ ?_ | exact rfl | exact ⟨_, rfl, rfl, rfl⟩)), by (repeat' (first | exact trivial | refine And.intro ?_ ?_ | exact rfl | exact ⟨_, rfl, rfl, rfl⟩)), ⟨W_succ (k := 0) (by omega), hlt, rfl, e3.symm⟩, by dsimp only; omega⟩
      | succ k =>
        repeat' ((conv => whnf); (fail_if_success with_reducible refine Stop.go ?_); first | with_reducible refine wkA ?_ | ((with_reducible refine wkS ?_ ?_); · exact wkU) | ((with_reducible refine wkY ?_ ?_); · omega) | ((with_reducible refine wkN ?_ ?_); · omega) | ((with_reducible refine wkQ ?_ ?_); · omega) | ((with_reducible refine wkR ?_ ?_); · omega) | with_reducible refine wkB (fun _ => ?_) (fun _ => ?_) | refine Got.intro (by assumption) ?_ | refine Got.intro (asr_of (by assumption)) ?_ | refine Got.intro (one_hit _ _) ?_ | with_reducible refine Ap.new ?_); all_goals (conv => whnf)
        exact Done.mk ⟨(k + 1 + 1, _, _, _), [(3, 6)], rfl, by (repeat' (first | exact trivial | refine And.intro ?_ ?_ | exact rfl | exact ⟨_, rfl, rfl, rfl⟩)), by (repeat' (first | exact trivial | refine And.intro ?_ ?_ | exact rfl | exact ⟨_, rfl, rfl, rfl⟩)), ⟨W_succ (k := k + 1) (by omega), hlt, by exact List.length_append.symm, by show _ = sl _; rw [e3, ← hels]; rfl⟩, by dsimp only; omega⟩
    rw [List.take_of_length_le (by simp [wNames]; omega)] at hels
    cases k with
    | zero => exfalso; omega
    | succ k =>
    repeat' ((conv => whnf); (fail_if_success with_reducible refine Stop.go ?_); first | with_reducible refine wkA ?_ | ((with_reducible refine wkS ?_ ?_); · exact wkU) | ((with_reducible refine wkY ?_ ?_); · omega) | ((with_reducible refine wkN ?_ ?_); · omega) | ((with_reducible refine wkQ ?_ ?_); · omega) | ((with_reducible refine wkR ?_ ?_); · omega) | with_reducible refine wkB (fun _ => ?_) (fun _ => ?_) | refine Got.intro (by assumption) ?_ | refine Got.intro (asr_of (by assumption)) ?_ | refine Got.intro (one_hit _ _) ?_ | with_reducible refine Ap.new ?_); all_goals (conv => whnf)
    clear hlt
    refine loopV (S := Nat × Int × Nat × List (List AV)) (fun t => h.ks.length - t.1) (fun t => [(6, .asl (nm2 5 6 t.1) 0 t.2.2.1), (38, .isl 7 (h.ks.map Can.av)), (39, I (h.ks.map Can.av).length), (40, I t.2.1)]) (fun t => [(nm2 5 6 t.1, .row 1 t.2.2.2 true true)]) 6 7
      (fun t => t.2.1 = t.1 ∧ t.1 ≤ h.ks.length ∧ t.2.2.1 = t.2.2.2.length ∧ t.2.2.2 = els ++ [[.str floorS], [.str ceilS]] ++ sl ((kNames h).take t.1)) (0, 0, els.length + 2, els ++ [[.str floorS], [.str ceilS]]) ⟨rfl, Nat.zero_le _, by simp, by simp [sl]⟩ (Nat.le_refl _) [] rfl (by (repeat' (first | exact trivial | refine And.intro ?_ ?_ | exact rfl | exact ⟨_, rfl, rfl, rfl⟩))) (by (repeat' (first | exact trivial | refine And.intro ?_ ?_ | exact rfl | exact ⟨_, rfl, rfl, rfl⟩))) ?_
    rintro ⟨k2, i, len2, els2⟩ ⟨hi, hk2, hlen2, hels2⟩
    dsimp only at hi hk2 hlen2 hels2 ⊢
    subst hi
    refine bs.av (sx := nos) hkS ?_
    have e5 : els2.length < 4000 := by rw [hels2, List.length_append, sl_length, List.length_take, List.length_append]; simp; omega
    by_cases hlt : k2 < h.ks.length
    · have e1 := ca_get hlt
      have e3 := kN_take hlt
      cases k2 with
      | zero =>
        repeat' ((conv => whnf); (fail_if_success with_reducible refine Stop.go ?_); first | with_reducible refine wkA ?_ | ((with_reducible refine wkS ?_ ?_); · exact wkU) | ((with_reducible refine wkY ?_ ?_); · omega) | ((with_reducible refine wkN ?_ ?_); · omega) | ((with_reducible refine wkQ ?_ ?_); · omega) | ((with_reducible refine wkR ?_ ?_); · omega) | with_reducible refine wkB (fun _ => ?_) (fun _ => ?_) | refine Got.intro (by assumption) ?_ | refine Got.intro (asr_of (by assumption)) ?_ | refine Got.intro (one_hit _ _) ?_ | with_reducible refine Ap.new ?_); all_goals (conv => whnf)
        exact Done.mk ⟨(1, _, _, _), [(6, 9)], rfl, by (repeat' (first | exact trivial | refine And.intro ?_ ?_ | exact rfl | exact ⟨_, rfl, rfl, rfl⟩)), by (repeat' (first | exact trivial | refine And.intro ?_ ?_ | exact rfl | exact ⟨_, rfl, rfl, rfl⟩)), ⟨W_succ (k := 0) (by omega), hlt, by exact List.length_append.symm, by show _ = _; rw [e3, ← List.append_assoc, ← hels2]; rfl⟩, by dsimp only; omega⟩
      | succ k2 =>
        repeat' ((conv => whnf); (fail_if_success with_reducible refine Stop.go ?_); first | with_reducible refine wkA ?_ | ((with_reducible refine wkS ?_ ?_); · exact wkU) | ((with_reducible refine wkY ?_ ?_); · omega) | ((with_reducible refine wkN ?_ ?_); · omega) | ((with_reducible refine wkQ ?_ ?_); · omega) | ((with_reducible refine wkR ?_ ?_); · omega) | with_reducible refine wkB (fun _ => ?_) (fun _ => ?_) | refine Got.intro (by assumption) ?_ | refine Got.intro (asr_of (by assumption)) ?_ | refine Got.intro (one_hit _ _) ?_ | with_reducible refine Ap.new ?_); all_goals (conv => whnf)
        exact Done.mk ⟨(k2 + 1 + 1, _, _, _), [(6, 9)], rfl, by (repeat' (first | exact trivial | refine And.intro ?_ ?_ | exact rfl | exact ⟨_, rfl, rfl, rfl⟩)), by (repeat' (first | exact trivial | refine And.intro ?_ ?_ | exact rfl | exact ⟨_, rfl, rfl, rfl⟩)), ⟨W_succ (k := k2 + 1) (by omega), hlt, by exact List.length_append.symm, by show _ = _; rw [e3, ← List.append_assoc, ← hels2]; rfl⟩, by dsimp only; omega⟩
    rw [List.take_of_length_le (by simp [kNames]; omega)] at hels2
    have hfin : els2 = sl (surf h) := by rw [hels2, hels]; unfold surf; rw [sl_append, sl_append]; rfl
    subst hfin
    subst hlen2
    rw [he]
    cases k2 with
    | zero =>
      repeat' ((conv => whnf); (fail_if_success with_reducible refine Stop.go ?_); first | with_reducible refine wkA ?_ | ((with_reducible refine wkS ?_ ?_); · exact wkU) | ((with_reducible refine wkY ?_ ?_); · omega) | ((with_reducible refine wkN ?_ ?_); · omega) | ((with_reducible refine wkQ ?_ ?_); · omega) | ((with_reducible refine wkR ?_ ?_); · omega) | with_reducible refine wkB (fun _ => ?_) (fun _ => ?_) | refine Got.intro (by assumption) ?_ | refine Got.intro (asr_of (by assumption)) ?_ | refine Got.intro (one_hit _ _) ?_ | with_reducible refine Ap.new ?_); all_goals (conv => whnf)
      exact ret_rows [5] rfl rfl rfl
    | succ k2 =>
      repeat' ((conv => whnf); (fail_if_success with_reducible refine Stop.go ?_); first | with_reducible refine wkA ?_ | ((with_reducible refine wkS ?_ ?_); · exact wkU) | ((with_reducible refine wkY ?_ ?_); · omega) | ((with_reducible refine wkN ?_ ?_); · omega) | ((with_reducible refine wkQ ?_ ?_); · omega) | ((with_reducible refine wkR ?_ ?_); · omega) | with_reducible refine wkB (fun _ => ?_) (fun _ => ?_) | refine Got.intro (by assumption) ?_ | refine Got.intro (asr_of (by assumption)) ?_ | refine Got.intro (one_hit _ _) ?_ | with_reducible refine Ap.new ?_); all_goals (conv => whnf)
      exact ret_rows [6] rfl rfl rfl
  · rw [if_neg he]
    refine PCall.freeze (res := ⟨.tup [.nils, I h.err], []⟩) ?_ ⟨rfl, ⟨rfl, rfl⟩, trivial⟩
    refine bs.pv (sx := nos) hkS Tryz.func64 (by kernel_rfl) (by kernel_rfl) rfl ?_
    repeat' ((conv => whnf); (fail_if_success with_reducible refine Stop.go ?_); first | with_reducible refine wkA ?_ | ((with_reducible refine wkS ?_ ?_); · exact wkU) | ((with_reducible refine wkY ?_ ?_); · omega) | ((with_reducible refine wkN ?_ ?_); · omega) | ((with_reducible refine wkQ ?_ ?_); · omega) | ((with_reducible refine wkR ?_ ?_); · omega) | with_reducible refine wkB (fun _ => ?_) (fun _ => ?_) | refine Got.intro (by assumption) ?_ | refine Got.intro (asr_of (by assumption)) ?_ | refine Got.intro (one_hit _ _) ?_ | with_reducible refine Ap.new ?_); all_goals (conv => whnf)
    exact ret_of rfl rfl
end Go.Proofs.YtjpmeaagnhojgaaGreat
namespace Go.Proofs.YtjpmeaagnhojgaaGreat
open Go Go.Sx
abbrev S (l : List UInt8) : AV := .str ⟨⟨l⟩⟩
def boxA : AV := .agg [S [104], I 600, S [119], S [119], .isl 6 [[S [119], I 100, I 100, I 100, I 100, I 0], [S [118], I 500, I 500, I 500, I 500, I 0]], .isl 2 [[I 0, I 0], [I 1000, I 0], [I 1000, I 2000], [I 0, I 2000]],
  .isl 3 [[S [97], S [119], S []], [S [98], S [119], S [118]], [S [99], S [119], S []], [S [100], S [119], S []]], .isl 7 [[S [107], S [119], I 200, I 500, I 800, I 900, .isl 1 [[I 400], [I 500]]]], .nils]
def fine : AV := .tup [.agg [I 0, I 0], I 0]
set_option maxRecDepth 1000000 in
theorem aw63 : isR fine (pcF (exT [202] sqrtT) 63 [boxA]) = true := by kernel_rfl
theorem box_ok : PCall Tryz.prog 63 [boxA] ⟨fine, []⟩ := reckoned sqrtT_ok aw63
def boxT : PC := withC 63 [boxA] fine sqrtT
theorem boxT_ok : PCOK Tryz.prog boxT := withC_ok box_ok sqrtT_ok
end Go.Proofs.YtjpmeaagnhojgaaGreat
namespace Go.Proofs.YtjpmeaagnhojgaaGreat
open Go Go.Sx
set_option maxRecDepth 1000000 in
theorem aw17 : isR (.bool true) (pcF (exT [202, 63] boxT) 17 []) = true := by kernel_rfl
theorem awake_ok : PCall Tryz.prog 17 [] ⟨.bool true, []⟩ := reckoned boxT_ok aw17
end Go.Proofs.YtjpmeaagnhojgaaGreat
namespace Go.Proofs.YtjpmeaagnhojgaaGreat
open Go Go.Sx

def r17 : List AV → Option PRes
  | [] => some ⟨Bo true, []⟩
  | _ => none
def r33 : List AV → Option PRes
  | [.agg [.int .i64 k, .int .i64 a], .agg [.int .i64 x, .int .i64 y, .int .i64 z]] => some ⟨.tup [P3 (rmirP k a x y z).1 (rmirP k a x y z).2.1 (rmirP k a x y z).2.2, I (rmirErr k a x y z)], []⟩
  | _ => none
def r34 : List AV → Option PRes
  | [.agg [.int .i64 x, .int .i64 y, .int .i64 z], .agg [.int .i64 u, .int .i64 v, .int .i64 w]] => some ⟨I (square x y z u v w), []⟩
  | _ => none
def r35 : List AV → Option PRes
  | [.agg [.int .i64 k, .int .i64 a], .agg [.int .i64 x, .int .i64 y, .int .i64 z, .int .i64 d]] => asr (decide (0 ≤ k ∧ k < 5)) ⟨I (off k a x y z d), []⟩
  | _ => none
def r36 : List AV → Option PRes
  | [.agg [.int .i64 x, .int .i64 y, .int .i64 z]] => some ⟨P4 x y z 1, []⟩
  | _ => none
def k5 : PC := ins 17 r17 (ins 33 r33 (ins 34 r34 (ins 35 r35 (ins 36 r36 k96))))
theorem k5_ok : PCOK Tryz.prog k5 := by
  refine ins_ok (fun a res h => ?_) (ins_ok (fun a res h => ?_) (ins_ok (fun a res h => ?_) (ins_ok (fun a res h => ?_) (ins_ok (fun a res h => ?_) k96_ok))))
  · unfold r17 at h; split at h <;> cases h; exact awake_ok
  · unfold r33 at h; split at h <;> cases h; exact c33 _ _ _ _ _
  · unfold r34 at h; split at h <;> cases h; exact c34 _ _ _ _ _ _
  · unfold r35 at h; split at h
    · obtain ⟨h1, rfl⟩ := asr_some h
      have := of_decide_eq_true h1
      exact c35 _ _ _ _ _ this.1 this.2
    · cases h
  · unfold r36 at h; split at h <;> cases h; exact c36 _ _ _

theorem bo_true {b : Bool} {σ : St} (h : b = true) : Ret ⟨Bo true, []⟩ (.bool b) σ := ret_bool h

set_option maxHeartbeats 1000000 in
set_option maxRecDepth 100000 in
theorem c5a {k a x y z u v w : Int} (h1 : rmirErr k a x y z = 0) (h2 : rmirErr k a u v w = 0) : PCall Tryz.prog 5 [P2 k a, P3 x y z, P3 u v w] ⟨Bo true, []⟩ := by
  have hk : 0 ≤ k ∧ k < 5 := by have := (rmirErr_zero h1).1; omega
  have e1 := (mirErr_eq k a x y z).trans h1
  have e2 := (mirErr_eq k a u v w).trans h2
  have e3 := mirP_eq k a x y z
  have e4 := mirP_eq k a u v w
  have p1 : rmirP k a x y z = rmir k a x y z := by simp [rmirP, h1]
  have p2 : rmirP k a u v w = rmir k a u v w := by simp [rmirP, h2]
  have q1 := rmir_square h1 h2
  have q2 := rmir_off h1
  obtain ⟨b1, b2⟩ := rmir_back h1
  have b3 := (mirErr_eq k a (rmir k a x y z).1 (rmir k a x y z).2.1 (rmir k a x y z).2.2).trans b1
  have b4 : mirP k a (rmir k a x y z).1 (rmir k a x y z).2.1 (rmir k a x y z).2.2 = (x, y, z) := by rw [mirP_eq]; simp [rmirP, b1, b2]
  refine bs.pv (sx := nos) k5_ok Tryz.func5 (by kernel_rfl) (by kernel_rfl) rfl ?_
  repeat' ((conv => whnf); (fail_if_success with_reducible refine Ret.mk ?_); first | with_reducible refine And.intro (by kernel_rfl) ?_ | refine Br.intro (fun _ => ?_) (fun _ => ?_) | refine Got.intro (asr_of hk) ?_)
  all_goals refine bo_true ?_
  all_goals simp_all [Prod.ext_iff]
set_option maxHeartbeats 1000000 in
set_option maxRecDepth 100000 in
theorem c5b {k a x y z u v w : Int} (h1 : rmirErr k a x y z ≠ 0 ∨ rmirErr k a u v w ≠ 0) : PCall Tryz.prog 5 [P2 k a, P3 x y z, P3 u v w] ⟨Bo true, []⟩ := by
  have e1 := mirErr_eq k a x y z
  have e2 := mirErr_eq k a u v w
  have e3 := mirP_eq k a x y z
  have e4 := mirP_eq k a u v w
  refine bs.pv (sx := nos) k5_ok Tryz.func5 (by kernel_rfl) (by kernel_rfl) rfl ?_
  repeat' ((conv => whnf); (fail_if_success with_reducible refine Ret.mk ?_); first | with_reducible refine And.intro (by kernel_rfl) ?_ | refine Br.intro (fun _ => ?_) (fun _ => ?_))
  all_goals first | refine bo_true ?_ | exfalso
  all_goals simp_all
theorem c5 (k a x y z u v w : Int) : PCall Tryz.prog 5 [P2 k a, P3 x y z, P3 u v w] ⟨Bo true, []⟩ := by
  by_cases h1 : rmirErr k a x y z = 0
  · by_cases h2 : rmirErr k a u v w = 0
    · exact c5a h1 h2
    · exact c5b (.inr h2)
  · exact c5b (.inl h1)
end Go.Proofs.YtjpmeaagnhojgaaGreat
namespace Go.Proofs.YtjpmeaagnhojgaaGreat
open Go Go.Sx

theorem bytes_ne_self {s : ByteArray} : (!(s == s)) = false := by rw [bytes_beq]; rfl
set_option maxRecDepth 100000 in
set_option maxHeartbeats 16000000 in
theorem c66 {l : List ByteArray} (hl : l.length < 1000000) : PCall Tryz.prog 66 [.isl 1 (sl l), .isl 1 (sl l)] ⟨Bo true, []⟩ := by
  have e3 := sl_length l
  refine bs.pv (sx := nos) pt0_ok Tryz.func66 (by kernel_rfl) (by kernel_rfl) rfl ?_
  repeat' ((conv => whnf); (fail_if_success with_reducible refine Stop.go ?_); first | with_reducible refine wkA ?_ | ((with_reducible refine wkS ?_ ?_); · exact wkU) | ((with_reducible refine wkY ?_ ?_); · omega) | ((with_reducible refine wkN ?_ ?_); · omega) | ((with_reducible refine wkQ ?_ ?_); · omega) | ((with_reducible refine wkR ?_ ?_); · omega) | with_reducible refine wkB (fun _ => ?_) (fun _ => ?_) | refine Got.intro (by assumption) ?_ | refine Got.intro (asr_of (by assumption)) ?_ | refine Got.intro (one_hit _ _) ?_ | with_reducible refine Ap.new ?_); all_goals (conv => whnf)
  refine loopV (S := Nat × Int) (fun t => l.length - t.1) (fun t => [(0, .isl 1 (sl l)), (1, .isl 1 (sl l)), (5, I t.2)]) (fun _ => []) 0 0 (fun t => t.2 = t.1 ∧ t.1 ≤ l.length) (0, 0) ⟨rfl, Nat.zero_le _⟩ (Nat.le_refl _) [] rfl (by (repeat' (first | exact trivial | refine And.intro ?_ ?_ | exact rfl | exact ⟨_, rfl, rfl, rfl⟩))) (by (repeat' (first | exact trivial | refine And.intro ?_ ?_ | exact rfl | exact ⟨_, rfl, rfl, rfl⟩))) ?_
  rintro ⟨k, i⟩ ⟨hi, hk⟩
  dsimp only at hi hk ⊢
  subst hi
  refine bs.av (sx := nos) pt0_ok ?_
  by_cases hlt : k < l.length
  · have e1 := sl_get hlt
    have e2 := bytes_beq l[k]
    repeat' ((conv => whnf); (fail_if_success with_reducible refine Stop.go ?_); first | with_reducible refine wkA ?_ | ((with_reducible refine wkS ?_ ?_); · exact wkU) | ((with_reducible refine wkY ?_ ?_); · omega) | ((with_reducible refine wkN ?_ ?_); · omega) | ((with_reducible refine wkQ ?_ ?_); · omega) | ((with_reducible refine wkR ?_ ?_); · omega) | with_reducible refine wkB (fun _ => ?_) (fun _ => ?_) | refine Got.intro (by assumption) ?_ | refine Got.intro (asr_of (by assumption)) ?_ | refine Got.intro (one_hit _ _) ?_ | with_reducible refine Ap.new ?_); all_goals (conv => whnf)
    · rename_i hx; rw [e2] at hx; cases hx
    · exact Done.mk ⟨(k + 1, _), [], rfl, by (repeat' (first | exact trivial | refine And.intro ?_ ?_ | exact rfl | exact ⟨_, rfl, rfl, rfl⟩)), by (repeat' (first | exact trivial | refine And.intro ?_ ?_ | exact rfl | exact ⟨_, rfl, rfl, rfl⟩)), ⟨W_succ (by omega), hlt⟩, by dsimp only; omega⟩
  repeat' ((conv => whnf); (fail_if_success with_reducible refine Stop.go ?_); first | with_reducible refine wkA ?_ | ((with_reducible refine wkS ?_ ?_); · exact wkU) | ((with_reducible refine wkY ?_ ?_); · omega) | ((with_reducible refine wkN ?_ ?_); · omega) | ((with_reducible refine wkQ ?_ ?_); · omega) | ((with_reducible refine wkR ?_ ?_); · omega) | with_reducible refine wkB (fun _ => ?_) (fun _ => ?_) | refine Got.intro (by assumption) ?_ | refine Got.intro (asr_of (by assumption)) ?_ | refine Got.intro (one_hit _ _) ?_ | with_reducible refine Ap.new ?_); all_goals (conv => whnf)
  exact ret_bool rfl

/-! ### HallChecks -/
noncomputable def kL (h : Hal) : PC := ins 17 r17 (ins 18 (one [h.av] ⟨Bo (fewB h), []⟩) (ins 22 (one [h.av] ⟨h.av, []⟩) (kE h)))
theorem kL_ok {h : Hal} (hk : h.ok) : PCOK Tryz.prog (kL h) := by
  refine ins_ok (fun a res h => ?_) (one_ok (c18 h) (one_ok (c22f hk.f) (kE_ok hk)))
  unfold r17 at h; split at h <;> cases h; exact awake_ok
noncomputable def kN (h : Hal) : PC := ins 17 r17 (ins 18 (one [h.av] ⟨Bo (fewB h), []⟩) pt0)
theorem kN_ok (h : Hal) : PCOK Tryz.prog (kN h) := by
  refine ins_ok (fun a res h => ?_) (one_ok (c18 h) pt0_ok)
  unfold r17 at h; split at h <;> cases h; exact awake_ok
noncomputable def k15 (h : Hal) : PC := ins 64 (one [h.av] ⟨.tup [.isl 1 (sl (if h.err = 0 then surf h else [])), I h.err], []⟩) (ins 67 (one [h.av] ⟨.isl 1 (sl (surf h)), []⟩) (ins 66 (one [.isl 1 (sl (surf h)), .isl 1 (sl (surf h))] ⟨Bo true, []⟩) (kL h)))
set_option maxRecDepth 100000 in
set_option maxHeartbeats 16000000 in
theorem c15 (h : Hal) : PCall Tryz.prog 15 [h.av] ⟨Bo true, []⟩ := by
  by_cases hb : fewB h = true
  · have hk := few_ok hb
    by_cases he : h.err = 0
    · have hfi := fine_of hk he
      have hl : (surf h).length < 1000000 := by
        have := hfi.le
        have := hk.f.2.2.2.1
        simp [surf, wNames, kNames]; omega
      have hk15 : PCOK Tryz.prog (k15 h) := one_ok (c64 hk) (one_ok (c67 hk.f (by have := hfi.le; omega)) (one_ok (c66 hl) (kL_ok hk)))
      unfold k15 at hk15
      rw [if_pos he, he] at hk15
      refine bs.pv (sx := nos) hk15 Tryz.func15 (by kernel_rfl) (by kernel_rfl) rfl ?_
      repeat' ((conv => whnf); (fail_if_success with_reducible refine Stop.go ?_); first | with_reducible refine wkA ?_ | ((with_reducible refine wkS ?_ ?_); · exact wkU) | ((with_reducible refine wkY ?_ ?_); · omega) | ((with_reducible refine wkN ?_ ?_); · omega) | ((with_reducible refine wkQ ?_ ?_); · omega) | ((with_reducible refine wkR ?_ ?_); · omega) | with_reducible refine wkB (fun _ => ?_) (fun _ => ?_) | refine Got.intro (by assumption) ?_ | refine Got.intro (asr_of (by assumption)) ?_ | refine Got.intro (one_hit _ _) ?_ | with_reducible refine Ap.new ?_); all_goals (conv => whnf)
      clear hk15
      all_goals first
        | exact ret_bool rfl
        | (exfalso; simp_all; done)
    · have hk15 : PCOK Tryz.prog (ins 64 (one [h.av] ⟨.tup [.isl 1 (sl (if h.err = 0 then surf h else [])), I h.err], []⟩) (kL h)) := one_ok (c64 hk) (kL_ok hk)
      rw [if_neg he] at hk15
      refine bs.pv (sx := nos) hk15 Tryz.func15 (by kernel_rfl) (by kernel_rfl) rfl ?_
      repeat' ((conv => whnf); (fail_if_success with_reducible refine Stop.go ?_); first | with_reducible refine wkA ?_ | ((with_reducible refine wkS ?_ ?_); · exact wkU) | ((with_reducible refine wkY ?_ ?_); · omega) | ((with_reducible refine wkN ?_ ?_); · omega) | ((with_reducible refine wkQ ?_ ?_); · omega) | ((with_reducible refine wkR ?_ ?_); · omega) | with_reducible refine wkB (fun _ => ?_) (fun _ => ?_) | refine Got.intro (by assumption) ?_ | refine Got.intro (asr_of (by assumption)) ?_ | refine Got.intro (one_hit _ _) ?_ | with_reducible refine Ap.new ?_); all_goals (conv => whnf)
      clear hk15
      all_goals first
        | exact ret_bool rfl
        | (exfalso; simp_all; done)
  · refine bs.pv (sx := nos) (kN_ok h) Tryz.func15 (by kernel_rfl) (by kernel_rfl) rfl ?_
    repeat' ((conv => whnf); (fail_if_success with_reducible refine Stop.go ?_); first | with_reducible refine wkA ?_ | ((with_reducible refine wkS ?_ ?_); · exact wkU) | ((with_reducible refine wkY ?_ ?_); · omega) | ((with_reducible refine wkN ?_ ?_); · omega) | ((with_reducible refine wkQ ?_ ?_); · omega) | ((with_reducible refine wkR ?_ ?_); · omega) | with_reducible refine wkB (fun _ => ?_) (fun _ => ?_) | refine Got.intro (by assumption) ?_ | refine Got.intro (asr_of (by assumption)) ?_ | refine Got.intro (one_hit _ _) ?_ | with_reducible refine Ap.new ?_); all_goals (conv => whnf)
    all_goals first
      | exact ret_bool rfl
      | (exfalso; simp_all; done)
end Go.Proofs.YtjpmeaagnhojgaaGreat
namespace Go.Proofs.YtjpmeaagnhojgaaGreat
open Go Go.Sx

theorem own : ownKnob Tryz.prog.godebug = none := by kernel_rfl
theorem laidOut : laidOutB Tryz.prog = true := by kernel_rfl
def tys : List TypeId := [28, 3, 9, 22, 23, 24, 25, 26, 108, 103, 85, 87, 129, 29, 131, 58, 31, 56, 66, 70, 76]
theorem tysOK : tys.all (suppT (tget tbl) tys) = true := by kernel_rfl
theorem fLaid : laidOutB Tryz.checked.prog = true := by kernel_rfl
theorem fMaps : mapsRowed Tryz.checked.prog = true := by kernel_rfl
theorem fPlain : Tryz.checked.prog.plainKeys = Rows.hallChecksRow.plainKeys := by kernel_rfl
theorem fHeard : Tryz.checked.prog.stopsHeard = true := by kernel_rfl
theorem fMay : Tryz.checked.prog.mayEnter = true := by kernel_rfl
theorem fLifts : Tryz.checked.prog.liftsFinal = Rows.hallChecksRow.lifted := by kernel_rfl
theorem fMake : Tryz.checked.prog.make = some Rows.hallChecksRow.make := by kernel_rfl
end Go.Proofs.YtjpmeaagnhojgaaGreat
