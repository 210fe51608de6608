/- A part of the proof: lemmas. -/
import Derived.Test.YtjpmeaagnhojgaaGreatLw9
import Derived.Test.YtjpmeaagnhojgaaGreatLw7
set_option linter.unusedVariables false
set_option linter.unusedSimpArgs false
namespace Go.Proofs.YtjpmeaagnhojgaaGreat
open Go Go.Sx

/-- In a right hall. -/
structure Hal.fine (h : Hal) : Prop where
  nms : h.names = (matsGo 0 [] h.ms).2.2
  le : h.ms.length ≤ 10 ∧ 3 ≤ h.cs.length ∧ h.ws.length = h.cs.length ∧ h.ws.length ≤ 12 ∧ h.ks.length ≤ 4 ∧ h.ss.length ≤ 40
  ht : 2 ≤ h.ht ∧ h.ht ≤ 5000
  mats : ∀ m ∈ h.ms, matErr m = 0
  fl : ∃ m ∈ h.ms, m.nm = h.fl
  ce : ∃ m ∈ h.ms, m.nm = h.ce
  bd : CorOk h.cs
  st : AllStr h.cs
  simple : isSimple h = true
  area : 0 < twArea h
  wal : ∀ i (hi : i < h.ws.length), wErrR h i h.ws[i] = 0
  can : ∀ i (hi : i < h.ks.length), cErrR h i h.ks[i] = 0
  sea : ∀ i (hi : i < h.ss.length), sErrR h i h.ss[i] = 0
theorem fe_zero {x : Int × Int × Int} {l : List (Int × Int × Int)} (h : (firstErr (x :: l)).2.2 = 0) : x.2.2 = 0 ∧ (firstErr l).2.2 = 0 := by
  rw [firstErr] at h
  by_cases c : x.2.2 = 0
  · rw [if_pos c] at h; exact ⟨c, h⟩
  · rw [if_neg c] at h; exact absurd h c
theorem fine_of {h : Hal} (hk : h.ok) (he : h.err = 0) : h.fine := by
  have h0 : (chkR h).2.2 = 0 := by rw [chk_eq hk.f]; exact he
  unfold chkR chkListR at h0
  obtain ⟨z1, h0⟩ := fe_zero h0
  obtain ⟨z2, h0⟩ := fe_zero h0
  obtain ⟨z3, h0⟩ := fe_zero h0
  obtain ⟨z4, h0⟩ := fe_zero h0
  obtain ⟨z5, h0⟩ := fe_zero h0
  obtain ⟨z6, h0⟩ := fe_zero h0
  obtain ⟨z7, h0⟩ := fe_zero h0
  obtain ⟨z8, h0⟩ := fe_zero h0
  obtain ⟨z9, h0⟩ := fe_zero h0
  obtain ⟨z10, h0⟩ := fe_zero h0
  obtain ⟨z11, h0⟩ := fe_zero h0
  obtain ⟨z12, h0⟩ := fe_zero h0
  obtain ⟨z13, h0⟩ := fe_zero h0
  obtain ⟨z14, h0⟩ := fe_zero h0
  obtain ⟨z15, h0⟩ := fe_zero h0
  have z2 := within_iff.1 (unl_zero z2 (by decide))
  have z3 := of_decide_eq_true (unl_zero z3 (by decide))
  have z6 := unl_zero z6 (by decide)
  have z7 := of_decide_eq_true (unl_zero z7 (by decide))
  have z10 := unl_zero z10 (by decide)
  have z11 := of_decide_eq_true (unl_zero z11 (by decide))
  have z12 := of_decide_eq_true (unl_zero z12 (by decide))
  have z14 := of_decide_eq_true (unl_zero z14 (by decide))
  simp only [Bool.and_eq_true, decide_eq_true_eq] at z6
  have hb : CorOk h.cs := corOk_of z8
  have hwc : h.ws.length = h.cs.length := by omega
  have hst : AllStr h.cs := allStr_of hb hwc z9
  have hfl : ¬(matIx h.fl 0 h.ms < 0) ∧ ¬(matIx h.ce 0 h.ms < 0) := by
    change flErrR h = 0 at z5
    unfold flErrR at z5
    split at z5
    · cases z5
    · rename_i hx
      simp only [Bool.or_eq_true, decide_eq_true_eq, not_or] at hx
      exact hx
  refine ⟨rfl, ⟨by omega, by omega, hwc, by omega, by omega, by omega⟩, z2, ?_, ?_, ?_, hb, hst, ?_, by rw [twArea_eq]; exact z11, ?_, ?_, ?_⟩
  · intro m hm
    obtain ⟨i, hi, rfl⟩ := List.mem_iff_getElem.1 hm
    have := fIx_zero (n := h.ms.length) _ 0 rfl z4 i (Nat.zero_le _) hi
    unfold mErrR at this
    rw [List.getElem?_eq_getElem hi] at this
    change mErr h i h.ms[i] = 0 at this
    unfold mErr at this
    unfold matErr
    split at this
    · split at this
      · cases this
      · split at this
        · rename_i hx
          rw [if_pos (by simp only [Bool.and_eq_true] at hx ⊢; simp [hx])]
        · cases this
    · cases this
  · have := mt (matIx_neg h.fl h.ms 0).2 hfl.1; exact Classical.not_not.1 this
  · have := mt (matIx_neg h.ce h.ms 0).2 hfl.2; exact Classical.not_not.1 this
  · rw [simple_eq hst (by omega) hk.f.2.1]; exact z10
  · intro i hi
    have := fIx_zero (n := h.ws.length) _ 0 rfl z9 i (Nat.zero_le _) hi
    unfold waErrR at this
    rw [List.getElem?_eq_getElem hi] at this
    exact this
  · intro i hi
    have := fIx_zero (n := h.ks.length) _ 0 rfl z13 i (Nat.zero_le _) hi
    unfold caErrR at this
    rw [List.getElem?_eq_getElem hi] at this
    exact this
  · intro i hi
    have := fIx_zero (n := h.ss.length) _ 0 rfl z15 i (Nat.zero_le _) hi
    unfold seErrR at this
    rw [List.getElem?_eq_getElem hi] at this
    exact this

/-! ### The program's names of surfaces -/
noncomputable def kS (h : Hal) : PC := ins 76 (one [h.av] ⟨.tup [h.av, I h.err], []⟩) kQ2
theorem kS_ok {h : Hal} (hk : h.ok) : PCOK Tryz.prog (kS h) := one_ok (c76 hk) kQ2_ok
set_option maxRecDepth 100000 in
set_option maxHeartbeats 16000000 in
theorem c64 {h : Hal} (hk : h.ok) : PCall Tryz.prog 64 [h.av] ⟨.tup [.isl 1 (sl (if h.err = 0 then surf h else [])), I h.err], []⟩ := by
  have hkS := kS_ok hk
  by_cases he : h.err = 0
  · have hfi := fine_of hk he
    obtain ⟨_, g2, g3, _⟩ := hfi.le
    have l3 := wa_length h.ws
    have l4 := ca_length h.ks
    obtain ⟨f1, f2, f3, f4, f5, f6⟩ := hk.f
    rw [if_pos he]
    refine PCall.freeze (res := ⟨.tup [.asl 0 0 (sl (surf h)).length, I h.err], [(1, sl (surf h))]⟩) ?_ ⟨⟨rfl, rfl, rfl⟩, ⟨rfl, rfl⟩, trivial⟩
    refine bs.pv (sx := nos) hkS Tryz.func64 (by kernel_rfl) (by kernel_rfl) rfl ?_
    repeat' (first | refine wk1 ?_ | (refine wk2 ?_ ?_ <;> intro _) | refine wk4 ?_ | fail); all_goals (conv => whnf)
    refine Lp.ren (env2 := [(4, .ptr 1 0 0), (6, .nils), (21, .isl 3 (h.ws.map Wal.av)), (22, I (h.ws.map Wal.av).length), (23, I 0)]) (σ2 := ⟨[(1, .row 9 [h.cells] true false)], 3⟩) (Ren.of [] rfl (kps) (kps)) ?_
    refine loopV (S := Nat × Int × Nat × List (List AV)) (fun t => h.ws.length - t.1) (fun t => [(4, .ptr 1 0 0), (6, gv 3 t.1 t.2.2.1), (21, .isl 3 (h.ws.map Wal.av)), (22, I (h.ws.map Wal.av).length), (23, I t.2.1)]) (fun t => gz 3 1 t.1 t.2.2.2 [(1, .row 9 [h.cells] true false)]) 3 4
      (fun t => t.2.1 = t.1 ∧ t.1 ≤ h.ws.length ∧ t.2.2.1 = t.2.2.2.length ∧ t.2.2.2 = sl ((wNames h).take t.1)) (0, 0, 0, []) ⟨rfl, Nat.zero_le _, rfl, rfl⟩ (Nat.le_refl _) [] rfl (kps) (kps) ?_
    rintro ⟨k, i, len, els⟩ ⟨hi, hk, hlen, hels⟩
    dsimp only at hi hk hlen hels ⊢
    subst hi
    refine bs.av (sx := nos) hkS ?_
    have e4 : els.length < 2000 := by rw [hels, sl_length, List.length_take]; omega
    by_cases hlt : k < h.ws.length
    · have e1 := wa_get hlt
      have e3 := wN_take hlt
      cases k with
      | zero =>
        repeat' (first | refine wk1 ?_ | (refine wk2 ?_ ?_ <;> intro _) | refine wk4 ?_ | fail); all_goals (conv => whnf)
        exact Done.mk ⟨(1, _, _, _), [(3, 6)], rfl, kps, kps, ⟨W_succ (k := 0) (by omega), hlt, rfl, e3.symm⟩, by dsimp only; omega⟩
      | succ k =>
        repeat' (first | refine wk1 ?_ | (refine wk2 ?_ ?_ <;> intro _) | refine wk4 ?_ | fail); all_goals (conv => whnf)
        exact Done.mk ⟨(k + 1 + 1, _, _, _), [(3, 6)], rfl, kps, kps, ⟨W_succ (k := k + 1) (by omega), hlt, by exact List.length_append.symm, by show _ = sl _; rw [e3, ← hels]; rfl⟩, by dsimp only; omega⟩
    rw [List.take_of_length_le (by simp [wNames]; omega)] at hels
    cases k with
    | zero => exfalso; omega
    | succ k =>
    repeat' (first | refine wk1 ?_ | (refine wk2 ?_ ?_ <;> intro _) | refine wk4 ?_ | fail); all_goals (conv => whnf)
    clear hlt
    refine loopV (S := Nat × Int × Nat × List (List AV)) (fun t => h.ks.length - t.1) (fun t => [(6, .asl (nm2 5 6 t.1) 0 t.2.2.1), (38, .isl 7 (h.ks.map Can.av)), (39, I (h.ks.map Can.av).length), (40, I t.2.1)]) (fun t => [(nm2 5 6 t.1, .row 1 t.2.2.2 true true)]) 6 7
      (fun t => t.2.1 = t.1 ∧ t.1 ≤ h.ks.length ∧ t.2.2.1 = t.2.2.2.length ∧ t.2.2.2 = els ++ [[.str floorS], [.str ceilS]] ++ sl ((kNames h).take t.1)) (0, 0, els.length + 2, els ++ [[.str floorS], [.str ceilS]]) ⟨rfl, Nat.zero_le _, by simp, by simp [sl]⟩ (Nat.le_refl _) [] rfl (kps) (kps) ?_
    rintro ⟨k2, i, len2, els2⟩ ⟨hi, hk2, hlen2, hels2⟩
    dsimp only at hi hk2 hlen2 hels2 ⊢
    subst hi
    refine bs.av (sx := nos) hkS ?_
    have e5 : els2.length < 4000 := by rw [hels2, List.length_append, sl_length, List.length_take, List.length_append]; simp; omega
    by_cases hlt : k2 < h.ks.length
    · have e1 := ca_get hlt
      have e3 := kN_take hlt
      cases k2 with
      | zero =>
        repeat' (first | refine wk1 ?_ | (refine wk2 ?_ ?_ <;> intro _) | refine wk4 ?_ | fail); all_goals (conv => whnf)
        exact Done.mk ⟨(1, _, _, _), [(6, 9)], rfl, kps, kps, ⟨W_succ (k := 0) (by omega), hlt, by exact List.length_append.symm, by show _ = _; rw [e3, ← List.append_assoc, ← hels2]; rfl⟩, by dsimp only; omega⟩
      | succ k2 =>
        repeat' (first | refine wk1 ?_ | (refine wk2 ?_ ?_ <;> intro _) | refine wk4 ?_ | fail); all_goals (conv => whnf)
        exact Done.mk ⟨(k2 + 1 + 1, _, _, _), [(6, 9)], rfl, kps, kps, ⟨W_succ (k := k2 + 1) (by omega), hlt, by exact List.length_append.symm, by show _ = _; rw [e3, ← List.append_assoc, ← hels2]; rfl⟩, by dsimp only; omega⟩
    rw [List.take_of_length_le (by simp [kNames]; omega)] at hels2
    have hfin : els2 = sl (surf h) := by rw [hels2, hels]; unfold surf; rw [sl_append, sl_append]; rfl
    subst hfin
    subst hlen2
    rw [he]
    cases k2 with
    | zero =>
      repeat' (first | refine wk1 ?_ | (refine wk2 ?_ ?_ <;> intro _) | refine wk4 ?_ | fail); all_goals (conv => whnf)
      exact ret_rows [5] rfl rfl rfl
    | succ k2 =>
      repeat' (first | refine wk1 ?_ | (refine wk2 ?_ ?_ <;> intro _) | refine wk4 ?_ | fail); all_goals (conv => whnf)
      exact ret_rows [6] rfl rfl rfl
  · rw [if_neg he]
    refine PCall.freeze (res := ⟨.tup [.nils, I h.err], []⟩) ?_ ⟨rfl, ⟨rfl, rfl⟩, trivial⟩
    refine bs.pv (sx := nos) hkS Tryz.func64 (by kernel_rfl) (by kernel_rfl) rfl ?_
    repeat' (first | refine wk1 ?_ | (refine wk2 ?_ ?_ <;> intro _) | refine wk4 ?_ | fail); all_goals (conv => whnf)
    exact ret_of rfl rfl
end Go.Proofs.YtjpmeaagnhojgaaGreat
namespace Go.Proofs.YtjpmeaagnhojgaaGreat
open Go Go.Sx

def r17 : List AV → Option PRes
  | [] => some ⟨Bo true, []⟩
  | _ => none
def r33 : List AV → Option PRes
  | [.agg [.int .i64 k, .int .i64 a], .agg [.int .i64 x, .int .i64 y, .int .i64 z]] => some ⟨.tup [P3 (rmirP k a x y z).1 (rmirP k a x y z).2.1 (rmirP k a x y z).2.2, I (rmirErr k a x y z)], []⟩
  | _ => none
def r34 : List AV → Option PRes
  | [.agg [.int .i64 x, .int .i64 y, .int .i64 z], .agg [.int .i64 u, .int .i64 v, .int .i64 w]] => some ⟨I (square x y z u v w), []⟩
  | _ => none
def r35 : List AV → Option PRes
  | [.agg [.int .i64 k, .int .i64 a], .agg [.int .i64 x, .int .i64 y, .int .i64 z, .int .i64 d]] => asr (decide (0 ≤ k ∧ k < 5)) ⟨I (off k a x y z d), []⟩
  | _ => none
def r36 : List AV → Option PRes
  | [.agg [.int .i64 x, .int .i64 y, .int .i64 z]] => some ⟨P4 x y z 1, []⟩
  | _ => none
def k5 : PC := ins 17 r17 (ins 33 r33 (ins 34 r34 (ins 35 r35 (ins 36 r36 k96))))
theorem k5_ok : PCOK Tryz.prog k5 := by
  refine ins_ok (fun a res h => ?_) (ins_ok (fun a res h => ?_) (ins_ok (fun a res h => ?_) (ins_ok (fun a res h => ?_) (ins_ok (fun a res h => ?_) k96_ok))))
  · unfold r17 at h; split at h <;> cases h; exact awake_ok
  · unfold r33 at h; split at h <;> cases h; exact c33 _ _ _ _ _
  · unfold r34 at h; split at h <;> cases h; exact c34 _ _ _ _ _ _
  · unfold r35 at h; split at h
    · obtain ⟨h1, rfl⟩ := asr_some h
      have := of_decide_eq_true h1
      exact c35 _ _ _ _ _ this.1 this.2
    · cases h
  · unfold r36 at h; split at h <;> cases h; exact c36 _ _ _

theorem bo_true {b : Bool} {σ : St} (h : b = true) : Ret ⟨Bo true, []⟩ (.bool b) σ := ret_bool h

set_option maxHeartbeats 1000000 in
set_option maxRecDepth 100000 in
theorem c5a {k a x y z u v w : Int} (h1 : rmirErr k a x y z = 0) (h2 : rmirErr k a u v w = 0) : PCall Tryz.prog 5 [P2 k a, P3 x y z, P3 u v w] ⟨Bo true, []⟩ := by
  have hk : 0 ≤ k ∧ k < 5 := by have := (rmirErr_zero h1).1; omega
  have e1 := (mirErr_eq k a x y z).trans h1
  have e2 := (mirErr_eq k a u v w).trans h2
  have e3 := mirP_eq k a x y z
  have e4 := mirP_eq k a u v w
  have p1 : rmirP k a x y z = rmir k a x y z := by simp [rmirP, h1]
  have p2 : rmirP k a u v w = rmir k a u v w := by simp [rmirP, h2]
  have q1 := rmir_square h1 h2
  have q2 := rmir_off h1
  obtain ⟨b1, b2⟩ := rmir_back h1
  have b3 := (mirErr_eq k a (rmir k a x y z).1 (rmir k a x y z).2.1 (rmir k a x y z).2.2).trans b1
  have b4 : mirP k a (rmir k a x y z).1 (rmir k a x y z).2.1 (rmir k a x y z).2.2 = (x, y, z) := by rw [mirP_eq]; simp [rmirP, b1, b2]
  refine bs.pv (sx := nos) k5_ok Tryz.func5 (by kernel_rfl) (by kernel_rfl) rfl ?_
  repeat' ((conv => whnf); (fail_if_success with_reducible refine Ret.mk ?_); first | with_reducible refine And.intro (by kernel_rfl) ?_ | refine Br.intro (fun _ => ?_) (fun _ => ?_) | refine Got.intro (asr_of hk) ?_)
  all_goals refine bo_true ?_
  all_goals simp_all [Prod.ext_iff]
set_option maxHeartbeats 1000000 in
set_option maxRecDepth 100000 in
theorem c5b {k a x y z u v w : Int} (h1 : rmirErr k a x y z ≠ 0 ∨ rmirErr k a u v w ≠ 0) : PCall Tryz.prog 5 [P2 k a, P3 x y z, P3 u v w] ⟨Bo true, []⟩ := by
  have e1 := mirErr_eq k a x y z
  have e2 := mirErr_eq k a u v w
  have e3 := mirP_eq k a x y z
  have e4 := mirP_eq k a u v w
  refine bs.pv (sx := nos) k5_ok Tryz.func5 (by kernel_rfl) (by kernel_rfl) rfl ?_
  repeat' ((conv => whnf); (fail_if_success with_reducible refine Ret.mk ?_); first | with_reducible refine And.intro (by kernel_rfl) ?_ | refine Br.intro (fun _ => ?_) (fun _ => ?_))
  all_goals first | refine bo_true ?_ | exfalso
  all_goals simp_all
theorem c5 (k a x y z u v w : Int) : PCall Tryz.prog 5 [P2 k a, P3 x y z, P3 u v w] ⟨Bo true, []⟩ := by
  by_cases h1 : rmirErr k a x y z = 0
  · by_cases h2 : rmirErr k a u v w = 0
    · exact c5a h1 h2
    · exact c5b (.inr h2)
  · exact c5b (.inl h1)
end Go.Proofs.YtjpmeaagnhojgaaGreat
namespace Go.Proofs.YtjpmeaagnhojgaaGreat
open Go Go.Sx

theorem bytes_ne_self {s : ByteArray} : (!(s == s)) = false := by rw [bytes_beq]; rfl
set_option maxRecDepth 100000 in
set_option maxHeartbeats 16000000 in
theorem c66 {l : List ByteArray} (hl : l.length < 1000000) : PCall Tryz.prog 66 [.isl 1 (sl l), .isl 1 (sl l)] ⟨Bo true, []⟩ := by
  have e3 := sl_length l
  refine bs.pv (sx := nos) pt0_ok Tryz.func66 (by kernel_rfl) (by kernel_rfl) rfl ?_
  repeat' (first | refine wk1 ?_ | (refine wk2 ?_ ?_ <;> intro _) | refine wk4 ?_ | fail); all_goals (conv => whnf)
  refine loopV (S := Nat × Int) (fun t => l.length - t.1) (fun t => [(0, .isl 1 (sl l)), (1, .isl 1 (sl l)), (5, I t.2)]) (fun _ => []) 0 0 (fun t => t.2 = t.1 ∧ t.1 ≤ l.length) (0, 0) ⟨rfl, Nat.zero_le _⟩ (Nat.le_refl _) [] rfl (kps) (kps) ?_
  rintro ⟨k, i⟩ ⟨hi, hk⟩
  dsimp only at hi hk ⊢
  subst hi
  refine bs.av (sx := nos) pt0_ok ?_
  by_cases hlt : k < l.length
  · have e1 := sl_get hlt
    have e2 := bytes_beq l[k]
    repeat' (first | refine wk1 ?_ | (refine wk2 ?_ ?_ <;> intro _) | refine wk4 ?_ | fail); all_goals (conv => whnf)
    · rename_i hx; rw [e2] at hx; cases hx
    · exact Done.mk ⟨(k + 1, _), [], rfl, kps, kps, ⟨W_succ (by omega), hlt⟩, by dsimp only; omega⟩
  repeat' (first | refine wk1 ?_ | (refine wk2 ?_ ?_ <;> intro _) | refine wk4 ?_ | fail); all_goals (conv => whnf)
  exact ret_bool rfl

/-! ### HallChecks -/
noncomputable def kL (h : Hal) : PC := ins 17 r17 (ins 18 (one [h.av] ⟨Bo (fewB h), []⟩) (ins 22 (one [h.av] ⟨h.av, []⟩) (kE h)))
theorem kL_ok {h : Hal} (hk : h.ok) : PCOK Tryz.prog (kL h) := by
  refine ins_ok (fun a res h => ?_) (one_ok (c18 h) (one_ok (c22f hk.f) (kE_ok hk)))
  unfold r17 at h; split at h <;> cases h; exact awake_ok
noncomputable def kN (h : Hal) : PC := ins 17 r17 (ins 18 (one [h.av] ⟨Bo (fewB h), []⟩) pt0)
theorem kN_ok (h : Hal) : PCOK Tryz.prog (kN h) := by
  refine ins_ok (fun a res h => ?_) (one_ok (c18 h) pt0_ok)
  unfold r17 at h; split at h <;> cases h; exact awake_ok
noncomputable def k15 (h : Hal) : PC := ins 64 (one [h.av] ⟨.tup [.isl 1 (sl (if h.err = 0 then surf h else [])), I h.err], []⟩) (ins 67 (one [h.av] ⟨.isl 1 (sl (surf h)), []⟩) (ins 66 (one [.isl 1 (sl (surf h)), .isl 1 (sl (surf h))] ⟨Bo true, []⟩) (kL h)))
set_option maxRecDepth 100000 in
set_option maxHeartbeats 16000000 in
theorem c15 (h : Hal) : PCall Tryz.prog 15 [h.av] ⟨Bo true, []⟩ := by
  by_cases hb : fewB h = true
  · have hk := few_ok hb
    by_cases he : h.err = 0
    · have hfi := fine_of hk he
      have hl : (surf h).length < 1000000 := by
        have := hfi.le
        have := hk.f.2.2.2.1
        simp [surf, wNames, kNames]; omega
      have hk15 : PCOK Tryz.prog (k15 h) := one_ok (c64 hk) (one_ok (c67 hk.f (by have := hfi.le; omega)) (one_ok (c66 hl) (kL_ok hk)))
      unfold k15 at hk15
      rw [if_pos he, he] at hk15
      refine bs.pv (sx := nos) hk15 Tryz.func15 (by kernel_rfl) (by kernel_rfl) rfl ?_
      repeat' (first | refine wk1 ?_ | (refine wk2 ?_ ?_ <;> intro _) | refine wk4 ?_ | fail); all_goals (conv => whnf)
      clear hk15
      all_goals first
        | exact ret_bool rfl
        | (exfalso; simp_all; done)
    · have hk15 : PCOK Tryz.prog (ins 64 (one [h.av] ⟨.tup [.isl 1 (sl (if h.err = 0 then surf h else [])), I h.err], []⟩) (kL h)) := one_ok (c64 hk) (kL_ok hk)
      rw [if_neg he] at hk15
      refine bs.pv (sx := nos) hk15 Tryz.func15 (by kernel_rfl) (by kernel_rfl) rfl ?_
      repeat' (first | refine wk1 ?_ | (refine wk2 ?_ ?_ <;> intro _) | refine wk4 ?_ | fail); all_goals (conv => whnf)
      clear hk15
      all_goals first
        | exact ret_bool rfl
        | (exfalso; simp_all; done)
  · refine bs.pv (sx := nos) (kN_ok h) Tryz.func15 (by kernel_rfl) (by kernel_rfl) rfl ?_
    repeat' (first | refine wk1 ?_ | (refine wk2 ?_ ?_ <;> intro _) | refine wk4 ?_ | fail); all_goals (conv => whnf)
    all_goals first
      | exact ret_bool rfl
      | (exfalso; simp_all; done)
end Go.Proofs.YtjpmeaagnhojgaaGreat
namespace Go.Proofs.YtjpmeaagnhojgaaGreat
open Go Go.Sx

/-! ### Copies of settings; short settings -/
set_option maxHeartbeats 4000000 in
theorem c29 {s : Stg} (hs : s.few) : PCall Tryz.prog 29 [s.av] ⟨s.av, []⟩ := by
  have e1 := cints_hit (ns := s.hs) (by have := hs.1; omega)
  have e2 := cints_hit (ns := s.dr) (by have := hs.2; omega)
  refine bs.pv (sx := nos) kQ2_ok Tryz.func29 (by kernel_rfl) (by kernel_rfl) rfl ?_
  repeat' (first | refine wk0 ?_ | (refine wk2 ?_ ?_ <;> intro _) | refine wk4 ?_ | fail); all_goals (conv => whnf)
  exact ret_of rfl rfl
def shortB (s : Stg) : Bool := decide ((s.hs.length : Int) ≤ 6) && decide ((s.dr.length : Int) ≤ 15)
theorem c19 (s : Stg) : PCall Tryz.prog 19 [s.av] ⟨Bo (shortB s), []⟩ := by
  have l1 := nl_length s.hs
  have l2 := nl_length s.dr
  have e : shortB s = (decide (((nl s.hs).length : Int) ≤ 6) && decide (((nl s.dr).length : Int) ≤ 15)) := by unfold shortB; rw [l1, l2]
  rw [e]
  refine bs.pv (sx := nos) pt0_ok Tryz.func19 (by kernel_rfl) (by kernel_rfl) rfl ?_
  repeat' (first | refine wk0 ?_ | (refine wk2 ?_ ?_ <;> intro _) | refine wk4 ?_ | fail); all_goals (conv => whnf)
  all_goals exact ret_bool (by clear l1 l2 e; simp_all <;> omega)
theorem short_few {s : Stg} (h : shortB s = true) : s.few := by
  unfold shortB at h
  simp only [Bool.and_eq_true, decide_eq_true_eq] at h
  exact ⟨by omega, by omega⟩

/-! ### What a right setting is -/
structure SetOk (h : Hal) (s : Stg) : Prop where
  len : s.hs.length = h.ks.length
  hs : ∀ j (h1 : j < h.ks.length) (h2 : j < s.hs.length), 0 ≤ s.hs[j] ∧ s.hs[j] < h.ks[j].hs.length
  dr : ∀ d ∈ s.dr, 0 ≤ d ∧ d < h.ws.length ∧ curt h d ≠ ⟨#[]⟩
  up : s.dr.Pairwise (· < ·)
theorem hgE_zero {h : Hal} (hf : h.few) : ∀ (l : List Int) (i : Nat), hgE h i l = 0 → ∀ j (h1 : i + j < h.ks.length) (h2 : j < l.length), 0 ≤ l[j] ∧ l[j] < h.ks[i + j].hs.length
  | [], i, _, j, _, h2 => by simp at h2
  | n :: l, i, h0, j, h1, h2 => by
    rw [hgE] at h0
    split at h0
    · rename_i hw
      cases j with
      | zero =>
        have hk : i < h.ks.length := by omega
        have hl := hf.2.2.2.2.2 _ (List.getElem_mem hk)
        rw [show kLen h i = (h.ks[i].hs.length : Int) by unfold kLen; rw [List.getElem?_eq_getElem hk], W_eq (by omega) (by omega)] at hw
        have hw := within_iff.1 hw
        simp only [List.getElem_cons_zero, Nat.add_zero]
        omega
      | succ j =>
        have := hgE_zero hf l (i + 1) h0 j (by omega) (by simpa using h2)
        simp only [List.getElem_cons_succ]
        have e : i + 1 + j = i + (j + 1) := by omega
        simp only [e] at this
        exact this
    · cases h0
theorem drE_zero {h : Hal} (hf : h.few) : ∀ (l : List Int) (p : Option Int), drE h p l = 0 → (∀ d ∈ l, (0 ≤ d ∧ d < h.ws.length ∧ curt h d ≠ ⟨#[]⟩) ∧ (∀ q, p = some q → q < d)) ∧ l.Pairwise (· < ·)
  | [], p, _ => ⟨by simp, .nil⟩
  | n :: l, p, h0 => by
    rw [drE] at h0
    split at h0
    · rename_i ho
      split at h0
      · cases h0
      · rename_i hn
        obtain ⟨g1, g2⟩ := drE_zero hf l (some n) h0
        have hl := hf.2.2.1
        unfold drOk at ho
        rw [Bool.and_eq_true, W_eq (by omega) (by omega), within_iff, Bool.not_eq_true', beq_ba, decide_eq_false_iff_not] at ho
        have hp : ∀ q, p = some q → q < n := by
          rintro q rfl
          simp only [notUp, decide_eq_true_eq] at hn
          omega
        refine ⟨fun d hd => ?_, List.pairwise_cons.2 ⟨fun d hd => (g1 d hd).2 n rfl, g2⟩⟩
        rcases List.mem_cons.1 hd with rfl | hd
        · exact ⟨⟨by omega, by omega, ho.2⟩, hp⟩
        · refine ⟨(g1 d hd).1, fun q hq => ?_⟩
          have := (g1 d hd).2 n rfl
          have := hp q hq
          omega
    · cases h0
theorem setE_ok {h : Hal} (hf : h.few) {s : Stg} (h0 : setE h s = 0) : SetOk h s := by
  unfold setE at h0
  split at h0
  · rename_i hl
    split at h0
    · rename_i hg
      obtain ⟨g1, g2⟩ := drE_zero hf s.dr none h0
      refine ⟨by omega, fun j h1 h2 => ?_, fun d hd => (g1 d hd).1, g2⟩
      have := hgE_zero hf s.hs 0 hg j (by omega) h2
      simpa using this
    · rename_i hg; exact absurd h0 hg
  · cases h0

/-! ### Surfaces -/
def nsur (h : Hal) : Int := (h.ws.length : Int) + 2 + h.ks.length
def surE (h : Hal) (s : Stg) (i : Int) : Int := if serr h s = 0 then (if within i 0 (nsur h - 1) then 0 else 6) else serr h s
theorem c172 {h : Hal} (s : Stg) : PCall Tryz.prog 172 [.agg (stgL h s)] ⟨I (h.ws.length : Int), []⟩ := by
  have l := wa_length h.ws
  refine bs.pv (sx := nos) pt0_ok Tryz.func172 (by kernel_rfl) (by kernel_rfl) rfl ?_
  repeat' (first | refine wk0 ?_ | (refine wk2 ?_ ?_ <;> intro _) | refine wk4 ?_ | fail); all_goals (conv => whnf)
  exact ret_int (by omega)
theorem c173 {h : Hal} (hf : h.few) (s : Stg) : PCall Tryz.prog 173 [.agg (stgL h s)] ⟨I ((h.ws.length : Int) + 1), []⟩ := by
  have l := wa_length h.ws
  refine bs.pv (sx := nos) pt0_ok Tryz.func173 (by kernel_rfl) (by kernel_rfl) rfl ?_
  repeat' (first | refine wk0 ?_ | (refine wk2 ?_ ?_ <;> intro _) | refine wk4 ?_ | fail); all_goals (conv => whnf)
  exact ret_int (by show IntKind.i64.wrap (((h.ws.map Wal.av).length : Int) + 1) = _; have := hf.2.2.1; rw [W_eq (by omega) (by omega)]; omega)
theorem c84 {h : Hal} (hf : h.few) (s : Stg) : PCall Tryz.prog 84 [.agg (stgL h s)] ⟨I (nsur h), []⟩ := by
  have l := wa_length h.ws
  have l2 := ca_length h.ks
  refine bs.pv (sx := nos) pt0_ok Tryz.func84 (by kernel_rfl) (by kernel_rfl) rfl ?_
  repeat' (first | refine wk0 ?_ | (refine wk2 ?_ ?_ <;> intro _) | refine wk4 ?_ | fail); all_goals (conv => whnf)
  exact ret_int (by
    show IntKind.i64.wrap (IntKind.i64.wrap (((h.ws.map Wal.av).length : Int) + 2) + ((h.ks.map Can.av).length : Int)) = _
    have := hf.2.2.1; have := hf.2.2.2.1; unfold nsur; rw [W_eq (n := ((h.ws.map Wal.av).length : Int) + 2) (by omega) (by omega), W_eq (by omega) (by omega)]; omega)
theorem c88 {h : Hal} (hf : h.few) (i : Int) : PCall Tryz.prog 88 [h.av, I i] ⟨Bo (within i 0 (nsur h - 1)), []⟩ := by
  have l := wa_length h.ws
  have l2 := ca_length h.ks
  refine bs.pv (sx := nos) k93_ok Tryz.func88 (by kernel_rfl) (by kernel_rfl) rfl ?_
  repeat' (first | refine wk0 ?_ | (refine wk2 ?_ ?_ <;> intro _) | refine wk4 ?_ | fail); all_goals (conv => whnf)
  exact ret_bool (by
    show within i 0 (IntKind.i64.wrap (IntKind.i64.wrap (((h.ws.map Wal.av).length : Int) + 1) + ((h.ks.map Can.av).length : Int))) = _
    have := hf.2.2.1; have := hf.2.2.2.1; unfold nsur; rw [W_eq (n := ((h.ws.map Wal.av).length : Int) + 1) (by omega) (by omega), W_eq (by omega) (by omega)]; congr 1; omega)
noncomputable def kS1 (h : Hal) (s : Stg) (i : Int) : PC := ins 172 (one [.agg (stgL h s)] ⟨I (h.ws.length : Int), []⟩) (ins 173 (one [.agg (stgL h s)] ⟨I ((h.ws.length : Int) + 1), []⟩) (ins 84 (one [.agg (stgL h s)] ⟨I (nsur h), []⟩) (ins 88 (one [h.av, I i] ⟨Bo (within i 0 (nsur h - 1)), []⟩) (ins 83 (one [h.av, s.av] ⟨.tup [.agg (stgL h s), I (serr h s)], []⟩) (ins 20 (one [h.av, s.av] ⟨I (serr h s), []⟩) k93)))))
theorem kS1_ok {h : Hal} (hk : h.ok) {s : Stg} (hs : s.few) (i : Int) : PCOK Tryz.prog (kS1 h s i) := one_ok (c172 s) (one_ok (c173 hk.f s) (one_ok (c84 hk.f s) (one_ok (c88 hk.f i) (one_ok (c83 hk hs) (one_ok (c20 hk hs) k93_ok)))))
set_option maxHeartbeats 4000000 in
theorem c109 {h : Hal} (hk : h.ok) {s : Stg} (hs : s.few) (i : Int) : PCall Tryz.prog 109 [h.av, s.av, I i] ⟨.tup [.agg (stgL h s), I (surE h s i)], []⟩ := by
  have hw : IntKind.i64.wrap (nsur h - 1) = nsur h - 1 := W_eq (by have := hk.f.2.2.1; have := hk.f.2.2.2.1; unfold nsur; omega) (by have := hk.f.2.2.1; have := hk.f.2.2.2.1; unfold nsur; omega)
  refine bs.pv (sx := nos) (kS1_ok hk hs i) Tryz.func109 (by kernel_rfl) (by kernel_rfl) rfl ?_
  repeat' (first | refine wk0 ?_ | (refine wk2 ?_ ?_ <;> intro _) | refine wk4 ?_ | fail); all_goals (conv => whnf)
  · rename_i h1 h2
    have e : surE h s i = 6 := by unfold surE; rw [if_pos (of_decide_eq_true h1)]; rw [hw] at h2; simp_all
    rw [e]; exact ret_of rfl rfl
  · rename_i h1 h2
    have e0 : serr h s = 0 := of_decide_eq_true h1
    have e : surE h s i = 0 := by unfold surE; rw [if_pos e0]; rw [hw] at h2; simp_all
    rw [e, ← e0]; exact ret_of rfl rfl
  · rename_i h1
    have e : surE h s i = serr h s := by unfold surE; rw [if_neg (of_decide_eq_false h1)]
    rw [e]; exact ret_of rfl rfl
set_option maxHeartbeats 4000000 in
theorem c57 {h : Hal} (hk : h.ok) {s : Stg} (hs : s.few) (i : Int) : PCall Tryz.prog 57 [h.av, s.av, I i] ⟨I (surE h s i), []⟩ := by
  refine bs.pv (sx := nos) (kS1_ok hk hs i) Tryz.func57 (by kernel_rfl) (by kernel_rfl) rfl ?_
  repeat' (first | refine wk0 ?_ | (refine wk2 ?_ ?_ <;> intro _) | refine wk4 ?_ | fail); all_goals (conv => whnf)
  all_goals exact ret_int (by simp_all [surE])
end Go.Proofs.YtjpmeaagnhojgaaGreat
namespace Go.Proofs.YtjpmeaagnhojgaaGreat
open Go Go.Sx

/-! ### What a right hall with a right setting is, at a surface -/
structure Sit (h : Hal) (s : Stg) : Prop where
  ok : h.ok
  fine : h.fine
  sf : s.few
  set : SetOk h s
theorem sit_of {h : Hal} (hk : h.ok) {s : Stg} (hs : s.few) (h0 : serr h s = 0) : Sit h s := by
  unfold serr at h0
  split at h0
  · rename_i he
    exact ⟨hk, fine_of hk he, hs, setE_ok hk.f h0⟩
  · rename_i he; exact absurd h0 he
/-- The kinds of surfaces. -/
inductive SK (h : Hal) : Int → Prop
  | wall (k : Nat) (hk : k < h.ws.length) : SK h k
  | floor : SK h h.ws.length
  | ceil : SK h ((h.ws.length : Int) + 1)
  | can (j : Nat) (hj : j < h.ks.length) : SK h ((h.ws.length : Int) + 2 + j)
theorem sk_of {h : Hal} {i : Int} (h0 : 0 ≤ i) (h1 : i < nsur h) : SK h i := by
  unfold nsur at h1
  by_cases c1 : i < h.ws.length
  · have := SK.wall (h := h) i.toNat (by omega)
    rwa [Int.toNat_of_nonneg h0] at this
  by_cases c2 : i = h.ws.length
  · rw [c2]; exact .floor
  by_cases c3 : i = (h.ws.length : Int) + 1
  · rw [c3]; exact .ceil
  have := SK.can (h := h) (i - h.ws.length - 2).toNat (by omega)
  rwa [Int.toNat_of_nonneg (by omega), show (h.ws.length : Int) + 2 + (i - h.ws.length - 2) = i by omega] at this
theorem surE_zero {h : Hal} {s : Stg} {i : Int} (h0 : surE h s i = 0) : serr h s = 0 ∧ 0 ≤ i ∧ i < nsur h := by
  unfold surE at h0
  split at h0
  · rename_i he
    split at h0
    · rename_i hw
      have := within_iff.1 hw
      exact ⟨he, by omega, by omega⟩
    · cases h0
  · rename_i he; exact absurd h0 he

/-- The number of a canopy, and its name among the surfaces. -/
def kix (h : Hal) (i : Int) : Nat := (i - h.ws.length - 2).toNat
def kat (h : Hal) (i : Int) : Can := (h.ks[kix h i]?).getD ⟨⟨#[]⟩, ⟨#[]⟩, 0, 0, 0, 0, []⟩
theorem kat_eq {h : Hal} {j : Nat} (hj : j < h.ks.length) : kat h ((h.ws.length : Int) + 2 + j) = h.ks[j] := by
  unfold kat kix
  rw [show ((h.ws.length : Int) + 2 + j - h.ws.length - 2).toNat = j by omega, List.getElem?_eq_getElem hj]; rfl
def isK (h : Hal) (i : Int) : Bool := decide ((h.ws.length : Int) + 2 ≤ i)
abbrev canZ : List AV := [.str ⟨#[]⟩, .str ⟨#[]⟩, I 0, I 0, I 0, I 0, .nils]
def canV (h : Hal) (i : Int) : AV := .agg (match isK h i with
  | true => (kat h i).av
  | false => canZ)
set_option maxHeartbeats 4000000 in
theorem c87 {h : Hal} (hf : h.few) (s : Stg) {i : Int} (hi : SK h i) : PCall Tryz.prog 87 [.agg (stgL h s), I i] ⟨.tup [canV h i, Bo (isK h i)], []⟩ := by
  have l := wa_length h.ws
  have l2 := ca_length h.ks
  obtain ⟨_, _, f3, f4, _⟩ := hf
  have low : ∀ i : Int, 0 ≤ i → i < (h.ws.length : Int) + 2 → PCall Tryz.prog 87 [.agg (stgL h s), I i] ⟨.tup [.agg canZ, Bo false], []⟩ := by
    intro i h0 h1
    have hv : IntKind.i64.wrap (IntKind.i64.wrap (i - ((h.ws.map Wal.av).length : Int)) - 2) = i - h.ws.length - 2 := by rw [W_eq (n := i - ((h.ws.map Wal.av).length : Int)) (by omega) (by omega), W_eq (by omega) (by omega)]; omega
    refine bs.pv (sx := nos) pt0_ok Tryz.func87 (by kernel_rfl) (by kernel_rfl) rfl ?_
    have hn : ¬ (0 ≤ IntKind.i64.wrap (IntKind.i64.wrap (i - ((h.ws.map Wal.av).length : Int)) - 2)) := by rw [hv]; omega
    repeat' (first | refine wk0 ?_ | (refine wk2 ?_ ?_ <;> intro _) | refine wk4 ?_ | fail); all_goals (conv => whnf)
    all_goals first
      | exact ret_of rfl rfl
      | (exfalso; rename_i hx; have := of_decide_eq_true hx; rw [hv] at this; omega)
      | (exfalso; rename_i hx; have := of_decide_eq_true hx; exact hn this)
  cases hi with
  | wall k hk =>
    have e1 : isK h k = false := decide_eq_false (by omega)
    unfold canV; rw [e1]; exact low _ (by omega) (by omega)
  | floor =>
    have e1 : isK h h.ws.length = false := decide_eq_false (by omega)
    unfold canV; rw [e1]; exact low _ (by omega) (by omega)
  | ceil =>
    have e1 : isK h ((h.ws.length : Int) + 1) = false := decide_eq_false (by omega)
    unfold canV; rw [e1]; exact low _ (by omega) (by omega)
  | can j hj =>
    have e1 : isK h ((h.ws.length : Int) + 2 + j) = true := decide_eq_true (by omega)
    unfold canV
    rw [e1]
    dsimp only
    rw [kat_eq hj]
    have hv : IntKind.i64.wrap (IntKind.i64.wrap ((h.ws.length : Int) + 2 + j - ((h.ws.map Wal.av).length : Int)) - 2) = j := by rw [W_eq (n := (h.ws.length : Int) + 2 + j - ((h.ws.map Wal.av).length : Int)) (by omega) (by omega), W_eq (by omega) (by omega)]; omega
    have e2 : (h.ks.map Can.av)[(IntKind.i64.wrap (IntKind.i64.wrap ((h.ws.length : Int) + 2 + j - ((h.ws.map Wal.av).length : Int)) - 2)).toNat]? = some (Can.av h.ks[j]) := by rw [hv]; exact ca_get hj
    have e3 : 0 ≤ IntKind.i64.wrap (IntKind.i64.wrap ((h.ws.length : Int) + 2 + j - ((h.ws.map Wal.av).length : Int)) - 2) := by omega
    have e4 : decide (0 ≤ IntKind.i64.wrap (IntKind.i64.wrap ((h.ws.length : Int) + 2 + j - ((h.ws.map Wal.av).length : Int)) - 2)) = true := decide_eq_true e3
    refine bs.pv (sx := nos) pt0_ok Tryz.func87 (by kernel_rfl) (by kernel_rfl) rfl ?_
    repeat' (first | refine wk0 ?_ | (refine wk2 ?_ ?_ <;> intro _) | refine wk4 ?_ | fail); all_goals (conv => whnf)
    all_goals first
      | exact ret_of rfl rfl
      | (exfalso; rename_i hx; rw [e4] at hx; cases hx)

/-! ### Heights -/
def hgtAt (h : Hal) (s : Stg) (j : Nat) : Int := match h.ks[j]?, s.hs[j]? with
  | some c, some n => c.hs.getD n.toNat 0
  | _, _ => 0
theorem hgt_facts {h : Hal} {s : Stg} (g : SetOk h s) {j : Nat} (hj : j < h.ks.length) : ∃ n, (nl s.hs)[((j : Nat) : Int).toNat]? = some [I n] ∧ 0 ≤ n ∧ n < h.ks[j].hs.length ∧ (nl h.ks[j].hs)[n.toNat]? = some [I (hgtAt h s j)] := by
  have h2 : j < s.hs.length := by rw [g.len]; exact hj
  obtain ⟨g1, g2⟩ := g.hs j hj h2
  refine ⟨s.hs[j], nl_get h2, g1, g2, ?_⟩
  have h3 : s.hs[j].toNat < h.ks[j].hs.length := by omega
  have e : hgtAt h s j = h.ks[j].hs[s.hs[j].toNat] := by unfold hgtAt; rw [List.getElem?_eq_getElem hj, List.getElem?_eq_getElem h2]; simp [h3]
  rw [e]
  simp [nl, h3]
set_option maxHeartbeats 4000000 in
theorem c192 {h : Hal} {s : Stg} (g : Sit h s) {j : Nat} (hj : j < h.ks.length) : PCall Tryz.prog 192 [.agg (stgL h s), I j] ⟨I (hgtAt h s j), []⟩ := by
  obtain ⟨n, e1, e2, e3, e4⟩ := hgt_facts g.set hj
  have e5 := ca_get hj
  generalize h.ks[j] = c at *
  have e6 := nl_length c.hs
  refine bs.pv (sx := nos) pt0_ok Tryz.func192 (by kernel_rfl) (by kernel_rfl) rfl ?_
  repeat' (first | refine wk1 ?_ | (refine wk2 ?_ ?_ <;> intro _) | refine wk4 ?_ | fail); all_goals (conv => whnf)
  exact ret_int rfl
set_option maxHeartbeats 4000000 in
theorem c108 {h : Hal} {s : Stg} (g : Sit h s) {j : Nat} (hj : j < h.ks.length) : PCall Tryz.prog 108 [h.av, s.av, I j] ⟨I (hgtAt h s j), []⟩ := by
  obtain ⟨n, e1, e2, e3, e4⟩ := hgt_facts g.set hj
  have e5 := ca_get hj
  generalize h.ks[j] = c at *
  have e6 := nl_length c.hs
  refine bs.pv (sx := nos) pt0_ok Tryz.func108 (by kernel_rfl) (by kernel_rfl) rfl ?_
  repeat' (first | refine wk1 ?_ | (refine wk2 ?_ ?_ <;> intro _) | refine wk4 ?_ | fail); all_goals (conv => whnf)
  exact ret_int rfl

/-! ### Kinds of surfaces, in the reference -/
def kindV (h : Hal) (i : Int) : Int × Int := if i < h.ws.length then (0, i) else if i = h.ws.length then (1, 0) else if i = (h.ws.length : Int) + 1 then (2, 0) else (3, i - h.ws.length - 2)
set_option maxHeartbeats 4000000 in
theorem c89 {h : Hal} (hf : h.few) {i : Int} (hi : SK h i) : PCall Tryz.prog 89 [h.av, I i] ⟨.tup [I (kindV h i).1, I (kindV h i).2], []⟩ := by
  have l := wa_length h.ws
  obtain ⟨_, _, f3, f4, _⟩ := hf
  have hw : IntKind.i64.wrap (((h.ws.map Wal.av).length : Int) + 1) = h.ws.length + 1 := by rw [W_eq (by omega) (by omega)]; omega
  have hr : 0 ≤ i ∧ i < 100000 := by cases hi <;> omega
  have hv : IntKind.i64.wrap (IntKind.i64.wrap (i - ((h.ws.map Wal.av).length : Int)) - 2) = i - h.ws.length - 2 := by rw [W_eq (n := i - ((h.ws.map Wal.av).length : Int)) (by omega) (by omega), W_eq (by omega) (by omega)]; omega
  unfold kindV
  refine bs.pv (sx := nos) pt0_ok Tryz.func89 (by kernel_rfl) (by kernel_rfl) rfl ?_
  repeat' (first | refine wk0 ?_ | (refine wk2 ?_ ?_ <;> intro _) | refine wk4 ?_ | fail); all_goals (conv => whnf)
  · rename_i hx
    rw [l] at hx
    rw [if_pos (of_decide_eq_true hx)]; exact ret_of rfl rfl
  · rename_i h1 hx
    rw [l] at hx h1
    rw [if_neg (of_decide_eq_false h1), if_pos (of_decide_eq_true hx)]; exact ret_of rfl rfl
  · rename_i h1 h2 hx
    rw [hw] at hx
    rw [l] at h1 h2
    rw [if_neg (of_decide_eq_false h1), if_neg (of_decide_eq_false h2), if_pos (of_decide_eq_true hx)]; exact ret_of rfl rfl
  · rename_i h1 h2 hx
    rw [hw] at hx
    rw [l] at h1 h2
    rw [if_neg (of_decide_eq_false h1), if_neg (of_decide_eq_false h2), if_neg (of_decide_eq_false hx), ← hv]; exact ret_of rfl rfl
end Go.Proofs.YtjpmeaagnhojgaaGreat
namespace Go.Proofs.YtjpmeaagnhojgaaGreat
open Go Go.Sx

/-! ### Planes -/
def plW (w : Wl) : Int × Int := if w.dx = 0 then (0, w.fx) else if w.dy = 0 then (1, w.fy) else if w.dx = w.dy then (4, IntKind.i64.wrap (w.fx - w.fy)) else (3, IntKind.i64.wrap (w.fx + w.fy))
def planeV (h : Hal) (s : Stg) (i : Int) : Int × Int := if i < h.ws.length then plW (wlOf h.cs i.toNat) else if i = h.ws.length then (2, 0) else if i = (h.ws.length : Int) + 1 then (2, h.ht) else (2, hgtAt h s (kix h i))
theorem planeV_wall {h : Hal} {s : Stg} {k : Nat} (hk : k < h.ws.length) : planeV h s k = plW (wlOf h.cs k) := by unfold planeV; rw [if_pos (by omega)]; rfl
theorem planeV_floor {h : Hal} {s : Stg} : planeV h s h.ws.length = (2, 0) := by unfold planeV; rw [if_neg (by omega), if_pos rfl]
theorem planeV_ceil {h : Hal} {s : Stg} : planeV h s ((h.ws.length : Int) + 1) = (2, h.ht) := by unfold planeV; rw [if_neg (by omega), if_neg (by omega), if_pos rfl]
theorem planeV_can {h : Hal} {s : Stg} {j : Nat} : planeV h s ((h.ws.length : Int) + 2 + j) = (2, hgtAt h s j) := by
  unfold planeV kix
  rw [if_neg (by omega), if_neg (by omega), if_neg (by omega), show ((h.ws.length : Int) + 2 + j - h.ws.length - 2).toNat = j by omega]
noncomputable def kP (h : Hal) (s : Stg) : PC := ins 172 (one [.agg (stgL h s)] ⟨I (h.ws.length : Int), []⟩) (ins 173 (one [.agg (stgL h s)] ⟨I ((h.ws.length : Int) + 1), []⟩) kG4)
theorem kP_ok {h : Hal} {s : Stg} (g : Sit h s) : PCOK Tryz.prog (kP h s) := one_ok (c172 s) (one_ok (c173 g.ok.f s) kG4_ok)
set_option maxRecDepth 100000 in
set_option maxHeartbeats 8000000 in
theorem c112 {h : Hal} {s : Stg} (g : Sit h s) {i : Int} (hi : SK h i) : PCall Tryz.prog 112 [.agg (stgL h s), I i] ⟨P2 (planeV h s i).1 (planeV h s i).2, []⟩ := by
  have hk0 := kP_ok g
  have f3 := g.ok.f.2.2.1
  have f4 := g.ok.f.2.2.2.1
  cases hi with
  | wall k hk =>
    have hk2 : k < h.cs.length := by have := g.fine.le; omega
    rw [planeV_wall hk]
    have hk1 := one_ok (c145w g.ok.f hk2) hk0
    refine bs.pv (sx := nos) hk1 Tryz.func112 (by kernel_rfl) (by kernel_rfl) rfl ?_
    generalize wlOf h.cs k = w at *
    repeat' (first | refine wk1 ?_ | (refine wk2 ?_ ?_ <;> intro _) | refine wk4 ?_ | fail); all_goals (conv => whnf)
    all_goals exact ret_of (by clear hk0 hk1; simp_all [plW]) rfl
  | floor =>
    rw [planeV_floor]
    refine bs.pv (sx := nos) hk0 Tryz.func112 (by kernel_rfl) (by kernel_rfl) rfl ?_
    repeat' (first | refine wk1 ?_ | (refine wk2 ?_ ?_ <;> intro _) | refine wk4 ?_ | fail); all_goals (conv => whnf)
    exact ret_of rfl rfl
  | ceil =>
    rw [planeV_ceil]
    refine bs.pv (sx := nos) hk0 Tryz.func112 (by kernel_rfl) (by kernel_rfl) rfl ?_
    repeat' (first | refine wk1 ?_ | (refine wk2 ?_ ?_ <;> intro _) | refine wk4 ?_ | fail); all_goals (conv => whnf)
    exact ret_of rfl rfl
  | can j hj =>
    rw [planeV_can]
    have hv : IntKind.i64.wrap (IntKind.i64.wrap ((h.ws.length : Int) + 2 + j - ((h.ws.length : Int) + 1)) - 1) = j := by rw [W_eq (n := (h.ws.length : Int) + 2 + j - ((h.ws.length : Int) + 1)) (by omega) (by omega), W_eq (by omega) (by omega)]; omega
    have hc := c192 g hj
    rw [← hv] at hc
    have hk1 := one_ok hc hk0
    refine bs.pv (sx := nos) hk1 Tryz.func112 (by kernel_rfl) (by kernel_rfl) rfl ?_
    repeat' (first | refine wk1 ?_ | (refine wk2 ?_ ?_ <;> intro _) | refine wk4 ?_ | fail); all_goals (conv => whnf)
    exact ret_of rfl rfl
set_option maxRecDepth 100000 in
set_option maxHeartbeats 8000000 in
theorem c59 {h : Hal} {s : Stg} (g : Sit h s) {i : Int} (hi : SK h i) : PCall Tryz.prog 59 [h.av, s.av, I i] ⟨P2 (planeV h s i).1 (planeV h s i).2, []⟩ := by
  have hk0 := one_ok (c89 g.ok.f hi) (kR5_ok g.ok.f)
  have f3 := g.ok.f.2.2.1
  have f4 := g.ok.f.2.2.2.1
  cases hi with
  | wall k hk =>
    have hk2 : k < h.cs.length := by have := g.fine.le; omega
    have e1 := lines_hit hk2
    rw [show kindV h k = (0, (k : Int)) by unfold kindV; rw [if_pos (by omega)]] at hk0
    rw [planeV_wall hk]
    rw [lnOf_eq] at e1
    refine bs.pv (sx := nos) hk0 Tryz.func59 (by kernel_rfl) (by kernel_rfl) rfl ?_
    generalize wlOf h.cs k = w at *
    have hp : plW w = if w.ln.dx = 0 then (0, w.ln.x) else if w.ln.dy = 0 then (1, w.ln.y) else if w.ln.dx = w.ln.dy then (4, IntKind.i64.wrap (w.ln.x - w.ln.y)) else (3, IntKind.i64.wrap (w.ln.x + w.ln.y)) := rfl
    rw [hp]
    repeat' (first | refine wk1 ?_ | (refine wk2 ?_ ?_ <;> intro _) | refine wk4 ?_ | fail); all_goals (conv => whnf)
    · rename_i h1; rw [if_pos (of_decide_eq_true h1)]; exact ret_of rfl rfl
    · rename_i h1 h2; rw [if_neg (of_decide_eq_false h1), if_pos (of_decide_eq_true h2)]; exact ret_of rfl rfl
    · rename_i h1 h2 h3; rw [if_neg (of_decide_eq_false h1), if_neg (of_decide_eq_false h2), if_pos (of_decide_eq_true h3)]; exact ret_of rfl rfl
    · rename_i h1 h2 h3; rw [if_neg (of_decide_eq_false h1), if_neg (of_decide_eq_false h2), if_neg (of_decide_eq_false h3)]; exact ret_of rfl rfl
  | floor =>
    rw [show kindV h h.ws.length = (1, 0) by unfold kindV; rw [if_neg (by omega), if_pos rfl]] at hk0
    rw [planeV_floor]
    refine bs.pv (sx := nos) hk0 Tryz.func59 (by kernel_rfl) (by kernel_rfl) rfl ?_
    repeat' (first | refine wk1 ?_ | (refine wk2 ?_ ?_ <;> intro _) | refine wk4 ?_ | fail); all_goals (conv => whnf)
    exact ret_of rfl rfl
  | ceil =>
    rw [show kindV h ((h.ws.length : Int) + 1) = (2, 0) by unfold kindV; rw [if_neg (by omega), if_neg (by omega), if_pos rfl]] at hk0
    rw [planeV_ceil]
    refine bs.pv (sx := nos) hk0 Tryz.func59 (by kernel_rfl) (by kernel_rfl) rfl ?_
    repeat' (first | refine wk1 ?_ | (refine wk2 ?_ ?_ <;> intro _) | refine wk4 ?_ | fail); all_goals (conv => whnf)
    exact ret_of rfl rfl
  | can j hj =>
    rw [show kindV h ((h.ws.length : Int) + 2 + j) = (3, (j : Int)) by unfold kindV; rw [if_neg (by omega), if_neg (by omega), if_neg (by omega)]; simp; omega] at hk0
    rw [planeV_can]
    have hk1 := one_ok (c108 g hj) hk0
    refine bs.pv (sx := nos) hk1 Tryz.func59 (by kernel_rfl) (by kernel_rfl) rfl ?_
    repeat' (first | refine wk1 ?_ | (refine wk2 ?_ ?_ <;> intro _) | refine wk4 ?_ | fail); all_goals (conv => whnf)
    exact ret_of rfl rfl
/-- The plane that the program answers. -/
def planeA (h : Hal) (s : Stg) (i : Int) : Int × Int := if surE h s i = 0 then planeV h s i else (0, 0)
set_option maxRecDepth 100000 in
set_option maxHeartbeats 8000000 in
theorem c54 {h : Hal} (hk : h.ok) {s : Stg} (hs : s.few) (i : Int) : PCall Tryz.prog 54 [h.av, s.av, I i] ⟨.tup [P2 (planeA h s i).1 (planeA h s i).2, I (surE h s i)], []⟩ := by
  have hk0 := one_ok (c109 hk hs i) pt0_ok
  by_cases he : surE h s i = 0
  · have e := surE_zero he
    have g := sit_of hk hs e.1
    have hk1 := one_ok (c112 g (sk_of e.2.1 e.2.2)) hk0
    have e2 : planeA h s i = planeV h s i := by unfold planeA; rw [if_pos he]
    rw [e2]
    rw [he] at hk1 ⊢
    refine bs.pv (sx := nos) hk1 Tryz.func54 (by kernel_rfl) (by kernel_rfl) rfl ?_
    repeat' (first | refine wk1 ?_ | (refine wk2 ?_ ?_ <;> intro _) | refine wk4 ?_ | fail); all_goals (conv => whnf)
    exact ret_of rfl rfl
  · have e2 : planeA h s i = (0, 0) := by unfold planeA; rw [if_neg he]
    rw [e2]
    refine bs.pv (sx := nos) hk0 Tryz.func54 (by kernel_rfl) (by kernel_rfl) rfl ?_
    repeat' (first | refine wk1 ?_ | (refine wk2 ?_ ?_ <;> intro _) | refine wk4 ?_ | fail); all_goals (conv => whnf)
    exact ret_of rfl rfl

/-! ### Materials -/
def idxN (n : Int) : Nat → List Int → Int
  | _, [] => -1
  | i, m :: l => if n = m then i else idxN n (i + 1) l
theorem idxN_has (n : Int) : ∀ (l : List Int) (i : Nat), decide (0 ≤ idxN n i l) = hasN l n
  | [], i => rfl
  | m :: l, i => by
    rw [idxN, hasN_cons]
    by_cases h : n = m
    · rw [if_pos h, decide_eq_true (show m = n from h.symm), decide_eq_true (by omega)]; rfl
    · rw [if_neg h, decide_eq_false (show ¬ m = n from fun e => h e.symm), Bool.false_or]; exact idxN_has n l _
set_option maxHeartbeats 4000000 in
theorem c203 {ns : List Int} (hl : ns.length < 1000000) (n : Int) : PCall Tryz.prog 203 [.isl 1 (nl ns), I n] ⟨I (idxN n 0 ns), []⟩ := by
  have e3 := nl_length ns
  refine bs.pv (sx := nos) pt0_ok Tryz.func203 (by kernel_rfl) (by kernel_rfl) rfl ?_
  repeat' (first | refine wk1 ?_ | (refine wk2 ?_ ?_ <;> intro _) | refine wk4 ?_ | fail); all_goals (conv => whnf)
  refine loopV (S := Nat × Int) (fun t => ns.length - t.1) (fun t => [(0, .isl 1 (nl ns)), (1, I n), (7, I (nl ns).length), (8, I t.2)]) (fun _ => []) 0 0 (fun t => t.2 = t.1 ∧ t.1 ≤ ns.length ∧ idxN n t.1 (ns.drop t.1) = idxN n 0 ns) (0, 0) ⟨rfl, Nat.zero_le _, rfl⟩ (Nat.le_refl _) [] rfl (kps) (kps) ?_
  rintro ⟨k, i⟩ ⟨hi, hk, hh⟩
  dsimp only at hi hk hh ⊢
  subst hi
  refine bs.av (sx := nos) pt0_ok ?_
  by_cases hlt : k < ns.length
  · have e1 := nl_get hlt
    rw [List.drop_eq_getElem_cons hlt, idxN] at hh
    repeat' (first | refine wk1 ?_ | (refine wk2 ?_ ?_ <;> intro _) | refine wk4 ?_ | fail); all_goals (conv => whnf)
    · rename_i hx; exact ret_int (by rw [← hh, if_pos (of_decide_eq_true hx)])
    · rename_i hx; exact Done.mk ⟨(k + 1, _), [], rfl, kps, kps, ⟨W_succ (by omega), hlt, by rw [← hh, if_neg (of_decide_eq_false hx)]⟩, by dsimp only; omega⟩
  rw [List.drop_of_length_le (by omega)] at hh
  repeat' (first | refine wk1 ?_ | (refine wk2 ?_ ?_ <;> intro _) | refine wk4 ?_ | fail); all_goals (conv => whnf)
  exact ret_int hh
set_option maxHeartbeats 4000000 in
theorem c176 {ns : List Int} (hl : ns.length < 1000000) (n : Int) : PCall Tryz.prog 176 [.isl 1 (nl ns), I n] ⟨Bo (hasN ns n), []⟩ := by
  refine bs.pv (sx := nos) (one_ok (c203 hl n) pt0_ok) Tryz.func176 (by kernel_rfl) (by kernel_rfl) rfl ?_
  repeat' (first | refine wk0 ?_ | (refine wk2 ?_ ?_ <;> intro _) | refine wk4 ?_ | fail); all_goals (conv => whnf)
  exact ret_bool (idxN_has n ns 0)
set_option maxHeartbeats 4000000 in
theorem c178 (m : Mat) (nm : ByteArray) : PCall Tryz.prog 178 [.agg m.av, .ipt [.str nm]] ⟨Bo (m.nm == nm), []⟩ := by
  refine bs.pv (sx := nos) pt0_ok Tryz.func178 (by kernel_rfl) (by kernel_rfl) rfl ?_
  repeat' (first | refine wk0 ?_ | (refine wk2 ?_ ?_ <;> intro _) | refine wk4 ?_ | fail); all_goals (conv => whnf)
  exact ret_bool (by simp)
def r178 (nm : ByteArray) : List AV → Option PRes
  | [.agg [.str a, .int .i64 x, .int .i64 y, .int .i64 z, .int .i64 u, .int .i64 v], .ipt [.str _]] => some ⟨Bo (a == nm), []⟩
  | _ => none
set_option maxRecDepth 100000 in
set_option maxHeartbeats 4000000 in
theorem c177 {ms : List Mat} (hl : ms.length < 1000) (nm : ByteArray) : PCall Tryz.prog 177 [.isl 6 (ms.map Mat.av), .func 178 [] [.ipt [.str nm]]] ⟨I (matIx nm 0 ms), []⟩ := by
  have e3 := mt_length ms
  refine bs.pv (sx := nos) pt0_ok Tryz.func177 (by kernel_rfl) (by kernel_rfl) rfl ?_
  repeat' (first | refine wk1 ?_ | (refine wk2 ?_ ?_ <;> intro _) | refine wk4 ?_ | fail); all_goals (conv => whnf)
  refine loopV (S := Nat × Int) (fun t => ms.length - t.1) (fun t => [(0, .isl 6 (ms.map Mat.av)), (1, .func 178 [] [.ipt [.str nm]]), (7, I (ms.map Mat.av).length), (8, I t.2)]) (fun _ => []) 0 0 (fun t => t.2 = t.1 ∧ t.1 ≤ ms.length ∧ matIx nm t.1 (ms.drop t.1) = matIx nm 0 ms) (0, 0) ⟨rfl, Nat.zero_le _, rfl⟩ (Nat.le_refl _) [] rfl (kps) (kps) ?_
  rintro ⟨k, i⟩ ⟨hi, hk, hh⟩
  dsimp only at hi hk hh ⊢
  subst hi
  by_cases hlt : k < ms.length
  · have e1 := mt_get hlt
    rw [List.drop_eq_getElem_cons hlt, matIx] at hh
    refine bs.av (sx := nos) (one_ok (c178 ms[k] nm) pt0_ok) ?_
    repeat' (first | refine wk1 ?_ | (refine wk2 ?_ ?_ <;> intro _) | refine wk4 ?_ | fail); all_goals (conv => whnf)
    · rename_i hx; exact ret_int (by rw [← hh, if_pos hx])
    · rename_i hx; exact Done.mk ⟨(k + 1, _), [], rfl, kps, kps, ⟨W_succ (by omega), hlt, by rw [← hh, hx]; rfl⟩, by dsimp only; omega⟩
  rw [List.drop_of_length_le (by omega)] at hh
  refine bs.av (sx := nos) pt0_ok ?_
  repeat' (first | refine wk1 ?_ | (refine wk2 ?_ ?_ <;> intro _) | refine wk4 ?_ | fail); all_goals (conv => whnf)
  exact ret_int hh
/-- The material of a name. -/
def mat0 : Mat := ⟨⟨#[]⟩, 0, 0, 0, 0, 0⟩
def matG (h : Hal) (nm : ByteArray) : Mat := (h.ms[(matIx nm 0 h.ms).toNat]?).getD mat0
theorem matIx_lt_len (s : ByteArray) : ∀ (l : List Mat) (i : Nat), matIx s i l < ((i + l.length : Nat) : Int)
  | [], i => by simp [matIx]; omega
  | m :: l, i => by
    rw [matIx]
    have := matIx_lt_len s l (i + 1)
    split
    · simp; omega
    · simp only [List.length_cons]; omega
theorem matG_get {h : Hal} {nm : ByteArray} (h0 : 0 ≤ matIx nm 0 h.ms) : (h.ms.map Mat.av)[(matIx nm 0 h.ms).toNat]? = some (matG h nm).av := by
  have h1 := matIx_lt_len nm h.ms 0
  have hi : (matIx nm 0 h.ms).toNat < h.ms.length := by omega
  unfold matG
  rw [List.getElem?_map, List.getElem?_eq_getElem hi]; rfl
def mName (h : Hal) (s : Stg) (i : Int) : ByteArray := if i < h.ws.length then (if hasN s.dr i then curt h i else ((h.ws[i.toNat]?).map Wal.mt).getD ⟨#[]⟩) else if i = h.ws.length then h.fl else if i = (h.ws.length : Int) + 1 then h.ce else (kat h i).mt
theorem ix_of_mem {h : Hal} {nm : ByteArray} (hm : ∃ m ∈ h.ms, m.nm = nm) : 0 ≤ matIx nm 0 h.ms := by
  have := mt (matIx_neg nm h.ms 0).1 (by simpa using hm)
  omega
theorem wal_names {h : Hal} (g : h.fine) {k : Nat} (hk : k < h.ws.length) : 0 ≤ matIx h.ws[k].mt 0 h.ms ∧ (h.ws[k].cu ≠ ⟨#[]⟩ → 0 ≤ matIx h.ws[k].cu 0 h.ms) := by
  have := g.wal k hk
  unfold wErrR at this
  split at this
  · split at this
    · cases this
    · split at this
      · cases this
      · split at this
        · cases this
        · rename_i hx
          simp only [Bool.or_eq_true, Bool.and_eq_true, decide_eq_true_eq, Bool.not_eq_true', beq_ba, decide_eq_false_iff_not, not_or, not_and] at hx
          exact ⟨by omega, fun hc => by have := hx.2 hc; omega⟩
  · cases this
theorem can_names {h : Hal} (g : h.fine) {k : Nat} (hk : k < h.ks.length) : 0 ≤ matIx h.ks[k].mt 0 h.ms := by
  have := g.can k hk
  unfold cErrR at this
  split at this
  · split at this
    · cases this
    · split at this
      · cases this
      · split at this
        · cases this
        · split at this
          · cases this
          · rename_i hx
            simp only [decide_eq_true_eq] at hx
            omega
  · cases this
theorem mName_ix {h : Hal} {s : Stg} (g : Sit h s) {i : Int} (hi : SK h i) : 0 ≤ matIx (mName h s i) 0 h.ms := by
  unfold mName
  cases hi with
  | wall k hk =>
    rw [if_pos (by omega), Int.toNat_natCast, List.getElem?_eq_getElem hk]
    have hc : curt h k = h.ws[k].cu := by unfold curt; rw [Int.toNat_natCast, List.getElem?_eq_getElem hk]
    split
    · rename_i hd
      have hd : ∃ d ∈ s.dr, d = (k : Int) := by unfold hasN at hd; rw [List.any_eq_true] at hd; simpa using hd
      obtain ⟨d, hd, rfl⟩ := hd
      rw [hc]
      exact (wal_names g.fine hk).2 (by rw [← hc]; exact (g.set.dr _ hd).2.2)
    · exact (wal_names g.fine hk).1
  | floor => rw [if_neg (by omega), if_pos rfl]; exact ix_of_mem g.fine.fl
  | ceil => rw [if_neg (by omega), if_neg (by omega), if_pos rfl]; exact ix_of_mem g.fine.ce
  | can j hj => rw [if_neg (by omega), if_neg (by omega), if_neg (by omega), kat_eq hj]; exact can_names g.fine hj
def matS (h : Hal) (s : Stg) (i : Int) : Mat := matG h (mName h s i)
end Go.Proofs.YtjpmeaagnhojgaaGreat
namespace Go.Proofs.YtjpmeaagnhojgaaGreat
open Go Go.Sx

theorem canV_low {h : Hal} {i : Int} (hi : i < (h.ws.length : Int) + 2) : canV h i = .agg canZ ∧ isK h i = false := by
  have e1 : isK h i = false := decide_eq_false (by omega)
  unfold canV; rw [e1]; exact ⟨rfl, rfl⟩
theorem canV_can {h : Hal} {j : Nat} (hj : j < h.ks.length) : canV h ((h.ws.length : Int) + 2 + j) = .agg (Can.av h.ks[j]) ∧ isK h ((h.ws.length : Int) + 2 + j) = true := by
  have e1 : isK h ((h.ws.length : Int) + 2 + j) = true := decide_eq_true (by omega)
  unfold canV; rw [e1, ← kat_eq hj]; exact ⟨rfl, rfl⟩
theorem mName_wall {h : Hal} {s : Stg} {k : Nat} (hk : k < h.ws.length) : mName h s k = if hasN s.dr k then h.ws[k].cu else h.ws[k].mt := by
  unfold mName
  rw [if_pos (by omega), Int.toNat_natCast, List.getElem?_eq_getElem hk]
  rw [show curt h k = h.ws[k].cu by unfold curt; rw [Int.toNat_natCast, List.getElem?_eq_getElem hk]]
  rfl
theorem mName_floor {h : Hal} {s : Stg} : mName h s h.ws.length = h.fl := by unfold mName; rw [if_neg (by omega), if_pos rfl]
theorem mName_ceil {h : Hal} {s : Stg} : mName h s ((h.ws.length : Int) + 1) = h.ce := by unfold mName; rw [if_neg (by omega), if_neg (by omega), if_pos rfl]
theorem mName_can {h : Hal} {s : Stg} {j : Nat} (hj : j < h.ks.length) : mName h s ((h.ws.length : Int) + 2 + j) = h.ks[j].mt := by
  unfold mName
  rw [if_neg (by omega), if_neg (by omega), if_neg (by omega), kat_eq hj]
set_option maxRecDepth 100000 in
set_option maxHeartbeats 16000000 in
theorem c86 {h : Hal} {s : Stg} (g : Sit h s) {i : Int} (hi : SK h i) : PCall Tryz.prog 86 [.agg (stgL h s), I i] ⟨.agg (matS h s i).av, []⟩ := by
  have f3 := g.ok.f.2.2.1
  have f4 := g.ok.f.2.2.2.1
  have h0 := mName_ix g hi
  have hG := matG_get h0
  have hk0 := one_ok (c87 g.ok.f s hi) (one_ok (c172 (h := h) s) (one_ok (c173 g.ok.f s) (one_ok (c176 (ns := s.dr) (by have := g.sf.2; omega) i) (one_ok (c177 g.ok.f.1 (mName h s i)) pt0_ok))))
  unfold matS
  have l1 := mt_length h.ms
  have hlt := matIx_lt_len (mName h s i) h.ms 0
  cases hi with
  | wall k hk =>
    obtain ⟨v1, v2⟩ := canV_low (h := h) (i := k) (by omega)
    rw [v1, v2] at hk0
    have e1 := wa_get hk
    have hn := mName_wall (s := s) hk
    generalize matG h (mName h s k) = M at *
    cases hd : hasN s.dr k with
    | true =>
      rw [hd] at hn hk0
      rw [if_pos rfl] at hn
      rw [hn] at hk0 h0 hG hlt
      refine bs.pv (sx := nos) hk0 Tryz.func86 (by kernel_rfl) (by kernel_rfl) rfl ?_
      repeat' (first | refine wk1 ?_ | (refine wk2 ?_ ?_ <;> intro _) | refine wk4 ?_ | fail); all_goals (conv => whnf)
      exact ret_of rfl rfl
    | false =>
      rw [hd] at hn hk0
      rw [if_neg (by simp)] at hn
      rw [hn] at hk0 h0 hG hlt
      refine bs.pv (sx := nos) hk0 Tryz.func86 (by kernel_rfl) (by kernel_rfl) rfl ?_
      repeat' (first | refine wk1 ?_ | (refine wk2 ?_ ?_ <;> intro _) | refine wk4 ?_ | fail); all_goals (conv => whnf)
      exact ret_of rfl rfl
  | floor =>
    obtain ⟨v1, v2⟩ := canV_low (h := h) (i := h.ws.length) (by omega)
    rw [v1, v2] at hk0
    have hn := mName_floor (h := h) (s := s)
    generalize matG h (mName h s h.ws.length) = M at *
    rw [hn] at hk0 h0 hG hlt
    refine bs.pv (sx := nos) hk0 Tryz.func86 (by kernel_rfl) (by kernel_rfl) rfl ?_
    repeat' (first | refine wk1 ?_ | (refine wk2 ?_ ?_ <;> intro _) | refine wk4 ?_ | fail); all_goals (conv => whnf)
    exact ret_of rfl rfl
  | ceil =>
    obtain ⟨v1, v2⟩ := canV_low (h := h) (i := (h.ws.length : Int) + 1) (by omega)
    rw [v1, v2] at hk0
    have hn := mName_ceil (h := h) (s := s)
    generalize matG h (mName h s ((h.ws.length : Int) + 1)) = M at *
    rw [hn] at hk0 h0 hG hlt
    refine bs.pv (sx := nos) hk0 Tryz.func86 (by kernel_rfl) (by kernel_rfl) rfl ?_
    repeat' (first | refine wk1 ?_ | (refine wk2 ?_ ?_ <;> intro _) | refine wk4 ?_ | fail); all_goals (conv => whnf)
    exact ret_of rfl rfl
  | can j hj =>
    obtain ⟨v1, v2⟩ := canV_can hj
    rw [v1, v2] at hk0
    have hn := mName_can (s := s) hj
    generalize matG h (mName h s ((h.ws.length : Int) + 2 + j)) = M at *
    rw [hn] at hk0 h0 hG hlt
    refine bs.pv (sx := nos) hk0 Tryz.func86 (by kernel_rfl) (by kernel_rfl) rfl ?_
    repeat' (first | refine wk1 ?_ | (refine wk2 ?_ ?_ <;> intro _) | refine wk4 ?_ | fail); all_goals (conv => whnf)
    exact ret_of rfl rfl
set_option maxRecDepth 100000 in
set_option maxHeartbeats 16000000 in
theorem c62 {h : Hal} {s : Stg} (g : Sit h s) {i : Int} (hi : SK h i) : PCall Tryz.prog 62 [h.av, s.av, I i] ⟨.agg (matS h s i).av, []⟩ := by
  have f3 := g.ok.f.2.2.1
  have f4 := g.ok.f.2.2.2.1
  have h0 := mName_ix g hi
  have hG := matG_get h0
  have hmx := mats_hit h (mName h s i)
  have hk0 := one_ok (c89 g.ok.f hi) (one_ok (c26 (ns := s.dr) (by have := g.sf.2; omega) i) (kR7_ok g.ok.f))
  unfold matS
  have l1 := mt_length h.ms
  have hlt := matIx_lt_len (mName h s i) h.ms 0
  cases hi with
  | wall k hk =>
    rw [show kindV h k = (0, (k : Int)) by unfold kindV; rw [if_pos (by omega)]] at hk0
    have e1 := wa_get hk
    have hn := mName_wall (s := s) hk
    generalize matG h (mName h s k) = M at *
    cases hd : hasN s.dr k with
    | true =>
      rw [hd] at hn hk0
      rw [if_pos rfl] at hn
      rw [hn] at h0 hG hlt hmx
      refine bs.pv (sx := nos) hk0 Tryz.func62 (by kernel_rfl) (by kernel_rfl) rfl ?_
      repeat' (first | refine wk1 ?_ | (refine wk2 ?_ ?_ <;> intro _) | refine wk4 ?_ | fail); all_goals (conv => whnf)
      exact ret_of rfl rfl
    | false =>
      rw [hd] at hn hk0
      rw [if_neg (by simp)] at hn
      rw [hn] at h0 hG hlt hmx
      refine bs.pv (sx := nos) hk0 Tryz.func62 (by kernel_rfl) (by kernel_rfl) rfl ?_
      repeat' (first | refine wk1 ?_ | (refine wk2 ?_ ?_ <;> intro _) | refine wk4 ?_ | fail); all_goals (conv => whnf)
      exact ret_of rfl rfl
  | floor =>
    rw [show kindV h h.ws.length = (1, 0) by unfold kindV; rw [if_neg (by omega), if_pos rfl]] at hk0
    have hn := mName_floor (h := h) (s := s)
    generalize matG h (mName h s h.ws.length) = M at *
    rw [hn] at h0 hG hlt hmx
    refine bs.pv (sx := nos) hk0 Tryz.func62 (by kernel_rfl) (by kernel_rfl) rfl ?_
    repeat' (first | refine wk1 ?_ | (refine wk2 ?_ ?_ <;> intro _) | refine wk4 ?_ | fail); all_goals (conv => whnf)
    exact ret_of rfl rfl
  | ceil =>
    rw [show kindV h ((h.ws.length : Int) + 1) = (2, 0) by unfold kindV; rw [if_neg (by omega), if_neg (by omega), if_pos rfl]] at hk0
    have hn := mName_ceil (h := h) (s := s)
    generalize matG h (mName h s ((h.ws.length : Int) + 1)) = M at *
    rw [hn] at h0 hG hlt hmx
    refine bs.pv (sx := nos) hk0 Tryz.func62 (by kernel_rfl) (by kernel_rfl) rfl ?_
    repeat' (first | refine wk1 ?_ | (refine wk2 ?_ ?_ <;> intro _) | refine wk4 ?_ | fail); all_goals (conv => whnf)
    exact ret_of rfl rfl
  | can j hj =>
    rw [show kindV h ((h.ws.length : Int) + 2 + j) = (3, (j : Int)) by unfold kindV; rw [if_neg (by omega), if_neg (by omega), if_neg (by omega)]; simp; omega] at hk0
    have e1 := ca_get hj
    have hn := mName_can (s := s) hj
    generalize matG h (mName h s ((h.ws.length : Int) + 2 + j)) = M at *
    rw [hn] at h0 hG hlt hmx
    refine bs.pv (sx := nos) hk0 Tryz.func62 (by kernel_rfl) (by kernel_rfl) rfl ?_
    repeat' (first | refine wk1 ?_ | (refine wk2 ?_ ?_ <;> intro _) | refine wk4 ?_ | fail); all_goals (conv => whnf)
    exact ret_of rfl rfl
def matA (h : Hal) (s : Stg) (i : Int) : Mat := if surE h s i = 0 then matS h s i else mat0
abbrev abs4 (m : Mat) : AV := .agg [I m.a, I m.b, I m.c, I m.d]
set_option maxRecDepth 100000 in
set_option maxHeartbeats 8000000 in
theorem c60 {h : Hal} (hk : h.ok) {s : Stg} (hs : s.few) (i : Int) : PCall Tryz.prog 60 [h.av, s.av, I i] ⟨.tup [abs4 (matA h s i), I (surE h s i)], []⟩ := by
  have hk0 := one_ok (c109 hk hs i) pt0_ok
  by_cases he : surE h s i = 0
  · have e := surE_zero he
    have g := sit_of hk hs e.1
    have hk1 := one_ok (c86 g (sk_of e.2.1 e.2.2)) hk0
    have e2 : matA h s i = matS h s i := by unfold matA; rw [if_pos he]
    rw [e2]
    rw [he] at hk1 ⊢
    refine bs.pv (sx := nos) hk1 Tryz.func60 (by kernel_rfl) (by kernel_rfl) rfl ?_
    repeat' (first | refine wk1 ?_ | (refine wk2 ?_ ?_ <;> intro _) | refine wk4 ?_ | fail); all_goals (conv => whnf)
    exact ret_of rfl rfl
  · have e2 : matA h s i = mat0 := by unfold matA; rw [if_neg he]
    rw [e2]
    refine bs.pv (sx := nos) hk0 Tryz.func60 (by kernel_rfl) (by kernel_rfl) rfl ?_
    repeat' (first | refine wk1 ?_ | (refine wk2 ?_ ?_ <;> intro _) | refine wk4 ?_ | fail); all_goals (conv => whnf)
    exact ret_of rfl rfl
set_option maxRecDepth 100000 in
set_option maxHeartbeats 8000000 in
theorem c61 {h : Hal} (hk : h.ok) {s : Stg} (hs : s.few) (i : Int) : PCall Tryz.prog 61 [h.av, s.av, I i] ⟨.tup [I (matA h s i).sc, I (surE h s i)], []⟩ := by
  have hk0 := one_ok (c109 hk hs i) pt0_ok
  by_cases he : surE h s i = 0
  · have e := surE_zero he
    have g := sit_of hk hs e.1
    have hk1 := one_ok (c86 g (sk_of e.2.1 e.2.2)) hk0
    have e2 : matA h s i = matS h s i := by unfold matA; rw [if_pos he]
    rw [e2]
    rw [he] at hk1 ⊢
    refine bs.pv (sx := nos) hk1 Tryz.func61 (by kernel_rfl) (by kernel_rfl) rfl ?_
    repeat' (first | refine wk1 ?_ | (refine wk2 ?_ ?_ <;> intro _) | refine wk4 ?_ | fail); all_goals (conv => whnf)
    exact ret_of rfl rfl
  · have e2 : matA h s i = mat0 := by unfold matA; rw [if_neg he]
    rw [e2]
    refine bs.pv (sx := nos) hk0 Tryz.func61 (by kernel_rfl) (by kernel_rfl) rfl ?_
    repeat' (first | refine wk1 ?_ | (refine wk2 ?_ ?_ <;> intro _) | refine wk4 ?_ | fail); all_goals (conv => whnf)
    exact ret_of rfl rfl

/-! ### HallMaterials -/
noncomputable def kNs (h : Hal) (s : Stg) : PC := ins 19 (one [s.av] ⟨Bo (shortB s), []⟩) (kN h)
theorem kNs_ok (h : Hal) (s : Stg) : PCOK Tryz.prog (kNs h s) := one_ok (c19 s) (kN_ok h)
noncomputable def kLs (h : Hal) (s : Stg) : PC := ins 19 (one [s.av] ⟨Bo (shortB s), []⟩) (ins 29 (one [s.av] ⟨s.av, []⟩) (kL h))
theorem kLs_ok {h : Hal} (hk : h.ok) {s : Stg} (hs : s.few) : PCOK Tryz.prog (kLs h s) := one_ok (c19 s) (one_ok (c29 hs) (kL_ok hk))
set_option maxRecDepth 100000 in
set_option maxHeartbeats 16000000 in
theorem c14 (h : Hal) (s : Stg) (i : Int) : PCall Tryz.prog 14 [h.av, s.av, I i] ⟨Bo true, []⟩ := by
  by_cases hb : (fewB h && shortB s) = true
  · rw [Bool.and_eq_true] at hb
    have hk := few_ok hb.1
    have hs := short_few hb.2
    obtain ⟨hb1, hb2⟩ := hb
    have hk1 := one_ok (c60 hk hs i) (one_ok (c61 hk hs i) (one_ok (c57 hk hs i) (kLs_ok hk hs)))
    by_cases he : surE h s i = 0
    · have e := surE_zero he
      have g := sit_of hk hs e.1
      have hk2 := one_ok (c62 g (sk_of e.2.1 e.2.2)) hk1
      have e2 : matA h s i = matS h s i := by unfold matA; rw [if_pos he]
      rw [e2, he] at hk2
      clear hk1
      refine bs.pv (sx := nos) hk2 Tryz.func14 (by kernel_rfl) (by kernel_rfl) rfl ?_
      repeat' (first | refine wk1 ?_ | (refine wk2 ?_ ?_ <;> intro _) | refine wk4 ?_ | fail); all_goals (conv => whnf)
      clear hk2
      all_goals first
        | exact ret_bool rfl
        | (exfalso; simp_all; done)
        | exact ret_bool (by simp_all; done)
    · have e2 : matA h s i = mat0 := by unfold matA; rw [if_neg he]
      rw [e2] at hk1
      refine bs.pv (sx := nos) hk1 Tryz.func14 (by kernel_rfl) (by kernel_rfl) rfl ?_
      repeat' (first | refine wk1 ?_ | (refine wk2 ?_ ?_ <;> intro _) | refine wk4 ?_ | fail); all_goals (conv => whnf)
      clear hk1
      all_goals first
        | exact ret_bool rfl
        | (exfalso; simp_all; done)
        | exact ret_bool (by simp_all; done)
  · refine bs.pv (sx := nos) (kNs_ok h s) Tryz.func14 (by kernel_rfl) (by kernel_rfl) rfl ?_
    repeat' (first | refine wk1 ?_ | (refine wk2 ?_ ?_ <;> intro _) | refine wk4 ?_ | fail); all_goals (conv => whnf)
    all_goals first
      | exact ret_bool rfl
      | (exfalso; simp_all; done)
end Go.Proofs.YtjpmeaagnhojgaaGreat
namespace Go.Proofs.YtjpmeaagnhojgaaGreat
open Go Go.Sx

/-! ### Divisors -/
def i64 (n : Int) : Prop := -9223372036854775808 ≤ n ∧ n ≤ 9223372036854775807
theorem size_W {a : Int} (h : i64 a) : size a = IntKind.i64.wrap (a.natAbs : Int) := by
  unfold size imax
  obtain ⟨h1, h2⟩ := h
  by_cases h3 : a = -9223372036854775808
  · subst h3; decide
  · rw [W_eq (n := 0 - a) (by omega) (by omega), W_eq (by omega) (by omega)]
    by_cases h4 : a < 0 - a
    · rw [decide_eq_true h4]; simp only [cond_true]; omega
    · rw [decide_eq_false h4]; simp only [cond_false]; omega
theorem i64_W (a : Int) : i64 (IntKind.i64.wrap a) := by unfold i64; simp only [IntKind.wrap_i64]; omega
theorem natAbs_W {g : Nat} (h : g ≤ 9223372036854775808) : (IntKind.i64.wrap (g : Int)).natAbs = g := by
  by_cases h3 : g = 9223372036854775808
  · subst h3; decide
  · rw [W_eq (by omega) (by omega)]; simp
theorem tmod_i64 {a b : Int} (ha : i64 a) (hb : b ≠ 0) : i64 (a.tmod b) := by
  obtain ⟨h1, h2⟩ := ha
  have h3 : (a.tmod b).natAbs ≤ a.natAbs := by rw [Int.natAbs_tmod]; exact Nat.mod_le _ _
  have h4 : 0 ≤ a → 0 ≤ a.tmod b := fun h => Int.tmod_nonneg b h
  have h5 : a ≤ 0 → a.tmod b ≤ 0 := fun h => by have := Int.tmod_nonneg b (a := -a) (by omega); rw [Int.neg_tmod] at this; omega
  unfold i64
  omega
theorem gcd_step {a b : Int} : Nat.gcd b.natAbs (a.tmod b).natAbs = Nat.gcd a.natAbs b.natAbs := by
  rw [Int.natAbs_tmod, Nat.gcd_comm, ← Nat.gcd_rec, Nat.gcd_comm]
set_option maxHeartbeats 4000000 in
theorem c120 {a b : Int} (ha : i64 a) (hb : i64 b) : PCall Tryz.prog 120 [I a, I b] ⟨I (IntKind.i64.wrap ((Nat.gcd a.natAbs b.natAbs : Nat) : Int)), []⟩ := by
  refine bs.pv (sx := nos) kR1_ok Tryz.func120 (by kernel_rfl) (by kernel_rfl) rfl ?_
  generalize hG : Nat.gcd a.natAbs b.natAbs = G
  refine loopV (S := Int × Int) (fun t => t.2.natAbs) (fun t => [(0, I t.1), (1, I t.2)]) (fun _ => []) 0 0 (fun t => (i64 t.1 ∧ i64 t.2) ∧ Nat.gcd t.1.natAbs t.2.natAbs = G) (a, b) ⟨⟨ha, hb⟩, hG⟩ (Nat.le_refl _) [] rfl (kps) (kps) ?_
  clear hG ha hb
  rintro ⟨a, b⟩ ⟨⟨ha, hb⟩, hG⟩
  dsimp only at ha hb hG ⊢
  refine bs.av (sx := nos) kR1_ok ?_
  by_cases h0 : b = 0
  · subst h0
    repeat' (first | refine wk1 ?_ | (refine wk2 ?_ ?_ <;> intro _) | refine wk4 ?_ | fail); all_goals (conv => whnf)
    exact ret_int (by rw [size_W ha, ← hG]; simp)
  · repeat' (first | refine wk1 ?_ | (refine wk2 ?_ ?_ <;> intro _) | refine wk4 ?_ | fail); all_goals (conv => whnf)
    exact Done.mk ⟨(b, a.tmod b), [], rfl, kps, kps, ⟨⟨hb, tmod_i64 ha h0⟩, by rw [← hG]; exact gcd_step⟩, by
      show (a.tmod b).natAbs < b.natAbs
      rw [Int.natAbs_tmod]; exact Nat.mod_lt _ (by omega)⟩
end Go.Proofs.YtjpmeaagnhojgaaGreat
namespace Go.Proofs.YtjpmeaagnhojgaaGreat
open Go Go.Sx

/-! ### Points -/
def g4 (p : Pt) : Nat := Nat.gcd (Nat.gcd p.x.natAbs p.y.natAbs) (Nat.gcd p.z.natAbs p.d.natAbs)
structure Pt.wf (p : Pt) : Prop where
  x : i64 p.x
  y : i64 p.y
  z : i64 p.z
  d : i64 p.d
theorem gcd_le {a b : Int} (ha : i64 a) (hb : i64 b) : Nat.gcd a.natAbs b.natAbs ≤ 9223372036854775808 := by
  obtain ⟨a1, a2⟩ := ha
  obtain ⟨b1, b2⟩ := hb
  by_cases h : a.natAbs = 0
  · rw [h, Nat.gcd_zero_left]; omega
  · exact Nat.le_trans (Nat.gcd_le_left _ (by omega)) (by omega)
theorem g4_le {p : Pt} (hp : p.wf) (hd : 0 < p.d) : 0 < g4 p ∧ (g4 p : Int) ≤ p.d := by
  have h1 : g4 p ∣ p.d.natAbs := Nat.dvd_trans (Nat.gcd_dvd_right _ _) (Nat.gcd_dvd_right _ _)
  have h2 := Nat.le_of_dvd (by omega) h1
  have h3 : 0 < g4 p := Nat.pos_of_dvd_of_pos h1 (by omega)
  omega
/-- The bounds of a point. -/
def ptIn (p : Pt) : Bool := within p.x (-(5000 * p.d)) (5000 * p.d) && within p.y (-(5000 * p.d)) (5000 * p.d) && within p.z (-(5000 * p.d)) (5000 * p.d)
def ptErr (p : Pt) : Int := if p.d ≤ 0 ∨ g4 p ≠ 1 then 3 else if 100000 < p.d then 2 else if ptIn p then 0 else 2
theorem ptErr_zero {p : Pt} (h : ptErr p = 0) : 0 < p.d ∧ p.d ≤ 100000 ∧ g4 p = 1 ∧ ptIn p = true := by
  unfold ptErr at h
  split at h
  · cases h
  · rename_i h1
    split at h
    · cases h
    · split at h
      · rename_i h3; exact ⟨by omega, by omega, by omega, h3⟩
      · cases h

/-! The program's divisor of four numbers. -/
theorem gcd4_assoc (a b c d : Nat) : Nat.gcd (Nat.gcd (Nat.gcd a b) c) d = Nat.gcd (Nat.gcd a b) (Nat.gcd c d) := by rw [Nat.gcd_assoc (Nat.gcd a b)]
def gl : Nat → List Int → Nat
  | g, [] => g
  | g, n :: l => gl (Nat.gcd g n.natAbs) l
set_option maxRecDepth 100000 in
set_option maxHeartbeats 8000000 in
theorem c117 {ns : List Int} (hl : ns.length < 1000) (hw : ∀ n ∈ ns, i64 n) : PCall Tryz.prog 117 [.isl 1 (nl ns)] ⟨I (IntKind.i64.wrap ((gl 0 ns : Nat) : Int)), []⟩ := by
  have e3 := nl_length ns
  refine bs.pv (sx := nos) kG1_ok Tryz.func117 (by kernel_rfl) (by kernel_rfl) rfl ?_
  repeat' (first | refine wk1 ?_ | (refine wk2 ?_ ?_ <;> intro _) | refine wk4 ?_ | fail); all_goals (conv => whnf)
  refine loopV (S := Nat × Int × Int) (fun t => ns.length - t.1) (fun t => [(3, I t.2.2), (6, .isl 1 (nl ns)), (7, I (nl ns).length), (8, I t.2.1)]) (fun _ => []) 0 0 (fun t => t.2.1 = t.1 ∧ t.1 ≤ ns.length ∧ i64 t.2.2 ∧ gl t.2.2.natAbs (ns.drop t.1) = gl 0 ns) (0, 0, 0) ⟨rfl, Nat.zero_le _, (by unfold i64; decide), rfl⟩ (Nat.le_refl _) [] rfl (kps) (kps) ?_
  rintro ⟨k, i, g⟩ ⟨hi, hk, hg, hh⟩
  dsimp only at hi hk hg hh ⊢
  subst hi
  refine bs.av (sx := nos) kG1_ok ?_
  by_cases hlt : k < ns.length
  · have e1 := nl_get hlt
    have hn := hw _ (List.getElem_mem hlt)
    rw [List.drop_eq_getElem_cons hlt, gl] at hh
    repeat' (first | refine wk1 ?_ | (refine wk2 ?_ ?_ <;> intro _) | refine wk4 ?_ | fail); all_goals (conv => whnf)
    refine loopV (S := Int × Int) (fun t => t.2.natAbs) (fun t => [(3, I t.1), (5, I t.2), (6, .isl 1 (nl ns)), (7, I (nl ns).length), (8, I k)]) (fun _ => []) 0 0 (fun t => (i64 t.1 ∧ i64 t.2) ∧ Nat.gcd t.1.natAbs t.2.natAbs = Nat.gcd g.natAbs ns[k].natAbs) (g, ns[k]) ⟨⟨hg, hn⟩, rfl⟩ (Nat.le_refl _) [] rfl (kps) (kps) ?_
    rintro ⟨a, b⟩ ⟨⟨ha, hb⟩, hG⟩
    dsimp only at ha hb hG ⊢
    refine bs.av (sx := nos) kG1_ok ?_
    by_cases h0 : b = 0
    · subst h0
      repeat' (first | refine wk1 ?_ | (refine wk2 ?_ ?_ <;> intro _) | refine wk4 ?_ | fail); all_goals (conv => whnf)
      exact Done.mk ⟨(k + 1, _, a), [], rfl, kps, kps, ⟨W_succ (by omega), hlt, ha, by rw [← hh, ← hG]; simp⟩, by dsimp only; omega⟩
    · repeat' (first | refine wk1 ?_ | (refine wk2 ?_ ?_ <;> intro _) | refine wk4 ?_ | fail); all_goals (conv => whnf)
      exact Done.mk ⟨(b, a.tmod b), [], rfl, kps, kps, ⟨⟨hb, tmod_i64 ha h0⟩, by rw [← hG]; exact gcd_step⟩, by
        show (a.tmod b).natAbs < b.natAbs
        rw [Int.natAbs_tmod]; exact Nat.mod_lt _ (by omega)⟩
  rw [List.drop_of_length_le (by omega)] at hh
  repeat' (first | refine wk1 ?_ | (refine wk2 ?_ ?_ <;> intro _) | refine wk4 ?_ | fail); all_goals (conv => whnf)
  exact ret_int (by show size g = _; rw [size_W hg, ← hh]; rfl)

theorem most_eq {d : Int} (h0 : 0 < d) (h1 : d ≤ 100000) : IntKind.i64.wrap (5000 * d) = 5000 * d ∧ IntKind.i64.wrap (0 - IntKind.i64.wrap (5000 * d)) = -(5000 * d) := by
  have e : IntKind.i64.wrap (5000 * d) = 5000 * d := W_eq (by omega) (by omega)
  refine ⟨e, ?_⟩
  rw [e, W_eq (by omega) (by omega)]; omega
set_option maxRecDepth 100000 in
set_option maxHeartbeats 8000000 in
theorem c99 {p : Pt} (hp : p.wf) : PCall Tryz.prog 99 [p.av] ⟨I (ptErr p), []⟩ := by
  have hc := c117 (ns := [p.x, p.y, p.z, p.d]) (by simp) (by
    intro n hn
    simp only [List.mem_cons, List.not_mem_nil, or_false] at hn
    rcases hn with rfl | rfl | rfl | rfl
    · exact hp.x
    · exact hp.y
    · exact hp.z
    · exact hp.d)
  have hg : gl 0 [p.x, p.y, p.z, p.d] = g4 p := by
    simp only [gl, Nat.gcd_zero_left]
    exact gcd4_assoc _ _ _ _
  rw [hg] at hc
  have hk := one_ok hc kG4_ok
  by_cases h1 : p.d ≤ 0
  · have e : ptErr p = 3 := by unfold ptErr; rw [if_pos (.inl h1)]
    rw [e]
    refine bs.pv (sx := nos) hk Tryz.func99 (by kernel_rfl) (by kernel_rfl) rfl ?_
    repeat' (first | refine wk1 ?_ | (refine wk2 ?_ ?_ <;> intro _) | refine wk4 ?_ | fail); all_goals (conv => whnf)
    exact ret_int rfl
  · obtain ⟨g1, g2⟩ := g4_le hp (by omega)
    have hd := hp.d
    unfold i64 at hd
    have hw : IntKind.i64.wrap ((g4 p : Nat) : Int) = (g4 p : Nat) := W_eq (by omega) (by omega)
    rw [hw] at hk
    by_cases h2 : g4 p = 1
    · rw [h2] at hk
      by_cases h3 : 100000 < p.d
      · have e : ptErr p = 2 := by unfold ptErr; rw [if_neg (by omega), if_pos h3]
        rw [e]
        refine bs.pv (sx := nos) hk Tryz.func99 (by kernel_rfl) (by kernel_rfl) rfl ?_
        repeat' (first | refine wk1 ?_ | (refine wk2 ?_ ?_ <;> intro _) | refine wk4 ?_ | fail); all_goals (conv => whnf)
        exact ret_int rfl
      · obtain ⟨m1, m2⟩ := most_eq (d := p.d) (by omega) (by omega)
        have e : ptErr p = if ptIn p then 0 else 2 := by unfold ptErr; rw [if_neg (by omega), if_neg h3]
        have e2 : ∀ x, small x (IntKind.i64.wrap (5000 * p.d)) = within x (-(5000 * p.d)) (5000 * p.d) := fun x => by unfold small; rw [m2, m1]
        rw [e]
        unfold ptIn
        rw [← e2, ← e2, ← e2]
        refine bs.pv (sx := nos) hk Tryz.func99 (by kernel_rfl) (by kernel_rfl) rfl ?_
        repeat' (first | refine wk1 ?_ | (refine wk2 ?_ ?_ <;> intro _) | refine wk4 ?_ | fail); all_goals (conv => whnf)
        all_goals (clear hk hc m1 m2 e2)
        all_goals exact ret_int (by simp_all [unl])
    · have e : ptErr p = 3 := by unfold ptErr; rw [if_pos (.inr h2)]
      rw [e]
      have h4 : (1 : Int) < (g4 p : Nat) := by omega
      refine bs.pv (sx := nos) hk Tryz.func99 (by kernel_rfl) (by kernel_rfl) rfl ?_
      repeat' (first | refine wk1 ?_ | (refine wk2 ?_ ?_ <;> intro _) | refine wk4 ?_ | fail); all_goals (conv => whnf)
      all_goals clear hk hc
      all_goals first
        | exact ret_int rfl
        | (exfalso; simp_all; done)
        | (exfalso; simp_all; omega)
noncomputable abbrev gcds : List AV → Option PRes := famA (fun p : Int × Int => i64 p.1 ∧ i64 p.2) (fun p => [I p.1, I p.2]) (fun p => ⟨I (IntKind.i64.wrap ((Nat.gcd p.1.natAbs p.2.natAbs : Nat) : Int)), []⟩)
theorem gcds_hit {a b : Int} (ha : i64 a) (hb : i64 b) : gcds [I a, I b] = some ⟨I (IntKind.i64.wrap ((Nat.gcd a.natAbs b.natAbs : Nat) : Int)), []⟩ :=
  famA_hit (p := fun p : Int × Int => i64 p.1 ∧ i64 p.2) (g := fun p => [I p.1, I p.2]) (r := fun p => ⟨I (IntKind.i64.wrap ((Nat.gcd p.1.natAbs p.2.natAbs : Nat) : Int)), []⟩) (k := (a, b)) (fun j hj => by
    simp only [List.cons.injEq, AV.int.injEq, true_and, and_true] at hj
    obtain ⟨h1, h2⟩ := hj
    dsimp only
    rw [h1, h2]) ⟨ha, hb⟩
noncomputable def kGc : PC := ins 120 gcds kR1
theorem kGc_ok : PCOK Tryz.prog kGc := famA_ok (fun p hp => c120 hp.1 hp.2) kR1_ok
set_option maxRecDepth 100000 in
set_option maxHeartbeats 8000000 in
theorem c51 {p : Pt} (hp : p.wf) : PCall Tryz.prog 51 [p.av] ⟨I (ptErr p), []⟩ := by
  have h1' := gcds_hit hp.x hp.y
  have h2' := gcds_hit hp.z hp.d
  have h3' := gcds_hit (i64_W ((Nat.gcd p.x.natAbs p.y.natAbs : Nat) : Int)) (i64_W ((Nat.gcd p.z.natAbs p.d.natAbs : Nat) : Int))
  rw [natAbs_W (gcd_le hp.x hp.y), natAbs_W (gcd_le hp.z hp.d)] at h3'
  change gcds _ = some ⟨I (IntKind.i64.wrap ((g4 p : Nat) : Int)), []⟩ at h3'
  have hk := kGc_ok
  by_cases h1 : p.d ≤ 0
  · have e : ptErr p = 3 := by unfold ptErr; rw [if_pos (.inl h1)]
    rw [e]
    refine bs.pv (sx := nos) hk Tryz.func51 (by kernel_rfl) (by kernel_rfl) rfl ?_
    repeat' (first | refine wk1 ?_ | (refine wk2 ?_ ?_ <;> intro _) | refine wk4 ?_ | fail); all_goals (conv => whnf)
    exact ret_int rfl
  · obtain ⟨g1, g2⟩ := g4_le hp (by omega)
    have hd := hp.d
    unfold i64 at hd
    have hw : IntKind.i64.wrap ((g4 p : Nat) : Int) = (g4 p : Nat) := W_eq (by omega) (by omega)
    rw [hw] at h3'
    by_cases h2 : g4 p = 1
    · rw [h2] at h3'
      by_cases h3 : 100000 < p.d
      · have e : ptErr p = 2 := by unfold ptErr; rw [if_neg (by omega), if_pos h3]
        rw [e]
        refine bs.pv (sx := nos) hk Tryz.func51 (by kernel_rfl) (by kernel_rfl) rfl ?_
        repeat' (first | refine wk1 ?_ | (refine wk2 ?_ ?_ <;> intro _) | refine wk4 ?_ | fail); all_goals (conv => whnf)
        all_goals exact ret_int rfl
      · obtain ⟨m1, m2⟩ := most_eq (d := p.d) (by omega) (by omega)
        have e : ptErr p = if ptIn p then 0 else 2 := by unfold ptErr; rw [if_neg (by omega), if_neg h3]
        have e2 : ∀ x, within x (IntKind.i64.wrap (0 - IntKind.i64.wrap (5000 * p.d))) (IntKind.i64.wrap (5000 * p.d)) = within x (-(5000 * p.d)) (5000 * p.d) := fun x => by rw [m2, m1]
        rw [e]
        unfold ptIn
        rw [← e2, ← e2, ← e2]
        refine bs.pv (sx := nos) hk Tryz.func51 (by kernel_rfl) (by kernel_rfl) rfl ?_
        repeat' (first | refine wk1 ?_ | (refine wk2 ?_ ?_ <;> intro _) | refine wk4 ?_ | fail); all_goals (conv => whnf)
        all_goals (clear hk m1 m2 e2 h1' h2' h3')
        all_goals exact ret_int (by simp_all)
    · have e : ptErr p = 3 := by unfold ptErr; rw [if_pos (.inr h2)]
      rw [e]
      have h4 : ¬ ((g4 p : Nat) : Int) = 1 := by omega
      refine bs.pv (sx := nos) hk Tryz.func51 (by kernel_rfl) (by kernel_rfl) rfl ?_
      repeat' (first | refine wk1 ?_ | (refine wk2 ?_ ?_ <;> intro _) | refine wk4 ?_ | fail); all_goals (conv => whnf)
      all_goals clear hk h1' h2' h3'
      all_goals first
        | exact ret_int rfl
        | (exfalso; simp_all; done)
        | (exfalso; simp_all; omega)

/-! ### HallInside -/
def insE (h : Hal) (p : Pt) : Int := if h.err = 0 then ptErr p else h.err
theorem ptOk_of {p : Pt} (h : ptErr p = 0) : PtOk p.x p.y p.d := by
  obtain ⟨h1, h2, _, h4⟩ := ptErr_zero h
  unfold ptIn at h4
  simp only [Bool.and_eq_true, within_iff] at h4
  exact ⟨h1, by omega, by omega, by omega⟩
set_option maxRecDepth 100000 in
set_option maxHeartbeats 8000000 in
theorem c50 {h : Hal} (hk : h.ok) {p : Pt} (hp : p.wf) : PCall Tryz.prog 50 [h.av, p.av] ⟨.tup [Bo (decide (insE h p = 0) && isInsR h p), I (insE h p)], []⟩ := by
  have hk0 := one_ok (c76 hk) (one_ok (c99 hp) pt0_ok)
  by_cases he : h.err = 0
  · have hi : insE h p = ptErr p := by unfold insE; rw [if_pos he]
    rw [hi]
    by_cases hq : ptErr p = 0
    · have hf := fine_of hk he
      have e : isInsR h p = hasPt h p.x p.y p.z p.d := by
        unfold isInsR hasPt
        rw [inPlan_eq hf.st p.z (ptOk_of hq)]
      have hk1 := one_ok (c124 hk.f p.x p.y p.z p.d) hk0
      rw [hq, he] at hk1
      rw [hq, e]
      refine bs.pv (sx := nos) hk1 Tryz.func50 (by kernel_rfl) (by kernel_rfl) rfl ?_
      repeat' (first | refine wk1 ?_ | (refine wk2 ?_ ?_ <;> intro _) | refine wk4 ?_ | fail); all_goals (conv => whnf)
      exact ret_of (by simp) rfl
    · rw [he] at hk0
      rw [decide_eq_false hq]
      refine bs.pv (sx := nos) hk0 Tryz.func50 (by kernel_rfl) (by kernel_rfl) rfl ?_
      repeat' (first | refine wk1 ?_ | (refine wk2 ?_ ?_ <;> intro _) | refine wk4 ?_ | fail); all_goals (conv => whnf)
      exact ret_of rfl rfl
  · have hi : insE h p = h.err := by unfold insE; rw [if_neg he]
    rw [hi, decide_eq_false he]
    refine bs.pv (sx := nos) hk0 Tryz.func50 (by kernel_rfl) (by kernel_rfl) rfl ?_
    repeat' (first | refine wk1 ?_ | (refine wk2 ?_ ?_ <;> intro _) | refine wk4 ?_ | fail); all_goals (conv => whnf)
    exact ret_of rfl rfl
set_option maxRecDepth 100000 in
set_option maxHeartbeats 16000000 in
theorem c10 (h : Hal) {p : Pt} (hp : p.wf) : PCall Tryz.prog 10 [h.av, p.av] ⟨Bo true, []⟩ := by
  by_cases hb : fewB h = true
  · have hk := few_ok hb
    have hk0 := one_ok (c50 hk hp) (one_ok (c45 hk) (one_ok (c51 hp) (kL_ok hk)))
    by_cases he : h.err = 0
    · have hi : insE h p = ptErr p := by unfold insE; rw [if_pos he]
      have hf := fine_of hk he
      rw [hi] at hk0
      by_cases hq : ptErr p = 0
      · have hk1 := one_ok (c52 hk.f hf.le.2.2.1 (nz_of hf.st) p) hk0
        rw [hq, he] at hk1
        clear hk0
        refine bs.pv (sx := nos) hk1 Tryz.func10 (by kernel_rfl) (by kernel_rfl) rfl ?_
        repeat' (first | refine wk1 ?_ | (refine wk2 ?_ ?_ <;> intro _) | refine wk4 ?_ | fail); all_goals (conv => whnf)
        all_goals clear hk1
        all_goals first
          | exact ret_bool rfl
          | (exfalso; simp_all; done)
          | exact ret_bool (by simp_all; done)
      · rw [he, decide_eq_false hq] at hk0
        refine bs.pv (sx := nos) hk0 Tryz.func10 (by kernel_rfl) (by kernel_rfl) rfl ?_
        repeat' (first | refine wk1 ?_ | (refine wk2 ?_ ?_ <;> intro _) | refine wk4 ?_ | fail); all_goals (conv => whnf)
        all_goals clear hk0
        all_goals first
          | exact ret_bool rfl
          | (exfalso; simp_all; done)
          | exact ret_bool (by simp_all; done)
    · have hi : insE h p = h.err := by unfold insE; rw [if_neg he]
      rw [hi, decide_eq_false he] at hk0
      refine bs.pv (sx := nos) hk0 Tryz.func10 (by kernel_rfl) (by kernel_rfl) rfl ?_
      repeat' (first | refine wk1 ?_ | (refine wk2 ?_ ?_ <;> intro _) | refine wk4 ?_ | fail); all_goals (conv => whnf)
      all_goals clear hk0
      all_goals first
        | exact ret_bool rfl
        | (exfalso; simp_all; done)
        | exact ret_bool (by simp_all; done)
  · refine bs.pv (sx := nos) (kN_ok h) Tryz.func10 (by kernel_rfl) (by kernel_rfl) rfl ?_
    repeat' (first | refine wk1 ?_ | (refine wk2 ?_ ?_ <;> intro _) | refine wk4 ?_ | fail); all_goals (conv => whnf)
    all_goals first
      | exact ret_bool rfl
      | (exfalso; simp_all; done)
end Go.Proofs.YtjpmeaagnhojgaaGreat
