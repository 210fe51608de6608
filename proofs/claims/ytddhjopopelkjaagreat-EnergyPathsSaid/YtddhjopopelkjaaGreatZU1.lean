/- A part of the proof: lemmas. -/
import Derived.Test.YtddhjopopelkjaaGreatZw11
set_option linter.unusedVariables false
set_option linter.unusedSimpArgs false
namespace Go.Proofs.YtddhjopopelkjaaGreat
open Go Go.Sx
/-! ### The bounds of chapters 2 and 3 -/
abbrev fewP2 (h : Hal) : Prop := (9 < h.ws.length ∧ h.ws.length ≤ 12) ∨ 14 < h.ws.length ∨ 14 < h.cs.length ∨ 4 < h.ms.length ∨ 2 < h.ks.length ∨ 3 < h.ss.length
def names3 (h : Hal) : Bool := short20 h.nm && short20 h.fl && short20 h.ce
def few2 (h : Hal) : Bool := (!decide (fewP2 h) && names3 h) && (h.ws.all fewW && (h.ms.all fewM && (h.ks.all fewC && h.ss.all fewS)))
theorem few2_ok {h : Hal} (hb : few2 h = true) : h.ok := by
  unfold few2 names3 at hb
  simp only [Bool.and_eq_true, Bool.not_eq_true', decide_eq_false_iff_not] at hb
  obtain ⟨⟨hL, ⟨n1, n2⟩, n3⟩, m2, m1, m3, m4⟩ := hb
  have hL : ¬ ((9 < h.ws.length ∧ h.ws.length ≤ 12) ∨ 14 < h.ws.length ∨ 14 < h.cs.length ∨ 4 < h.ms.length ∨ 2 < h.ks.length ∨ 3 < h.ss.length) := hL
  rw [List.all_eq_true] at m1 m2 m3 m4
  refine ⟨⟨by omega, by omega, by omega, by omega, by omega, fun c hc => ?_⟩, ⟨short20_le n1, fun m hm => short20_le (m1 m hm), fun m hm => ?_, fun m hm => ?_, fun m hm => short20_le (m4 m hm)⟩⟩
  · have := m3 c hc
    unfold fewC at this
    simp only [Bool.and_eq_true, Bool.not_eq_true', decide_eq_false_iff_not] at this
    omega
  · have := m2 m hm
    unfold fewW at this
    simp only [Bool.and_eq_true] at this
    exact short20_le this.1.1
  · have := m3 m hm
    unfold fewC at this
    simp only [Bool.and_eq_true] at this
    exact short20_le this.1.1
theorem sh_n {s : ByteArray} (h : short20 s = true) : ¬ (20 : Int) < (s.size : Int) := by
  unfold short20 at h
  simpa using h
theorem sh_y {s : ByteArray} (h : short20 s = false) : (20 : Int) < (s.size : Int) := by
  unfold short20 at h
  simpa using h
set_option maxRecDepth 100000 in
set_option maxHeartbeats 16000000 in
theorem d80 (h : Hal) : PCall Tryz.prog 80 [h.av] ⟨Bo (few2 h), []⟩ := by
  have l1 := mt_length h.ms
  have l2 : (h.cs.map pt).length = h.cs.length := by simp
  have l3 := wa_length h.ws
  have l4 := ca_length h.ks
  have l5 := se_length h.ss
  by_cases hP : fewP2 h
  · have e0 : few2 h = false := by unfold few2; rw [decide_eq_true hP]; rfl
    rw [e0]
    clear e0
    have hP : (9 < h.ws.length ∧ h.ws.length ≤ 12) ∨ 14 < h.ws.length ∨ 14 < h.cs.length ∨ 4 < h.ms.length ∨ 2 < h.ks.length ∨ 3 < h.ss.length := hP
    refine bs.pv (sx := nos) pt0_ok Tryz.func80 (by kernel_rfl) (by kernel_rfl) rfl ?_
    repeat' (first | refine wk3 ?_ | (refine wk2 ?_ ?_ <;> intro _) | refine wk4 ?_ | fail); all_goals (conv => whnf)
    all_goals first
      | exact ret_bool rfl
      | (exfalso; simp_all; omega)
  have hP' : ¬ ((9 < h.ws.length ∧ h.ws.length ≤ 12) ∨ 14 < h.ws.length ∨ 14 < h.cs.length ∨ 4 < h.ms.length ∨ 2 < h.ks.length ∨ 3 < h.ss.length) := hP
  have hw : h.ws.length ≤ 9 ∨ 12 < h.ws.length := by omega
  unfold few2
  rw [decide_eq_false hP, Bool.not_false, Bool.true_and]
  clear hP
  by_cases hN : names3 h = true
  rotate_left
  · have hN : names3 h = false := by simpa using hN
    rw [hN, Bool.false_and]
    unfold names3 at hN
    rcases hw with hw | hw
    all_goals
      refine bs.pv (sx := nos) pt0_ok Tryz.func80 (by kernel_rfl) (by kernel_rfl) rfl ?_
      repeat' (first | refine wk3 ?_ | (refine wk2 ?_ ?_ <;> intro _) | refine wk4 ?_ | fail); all_goals (conv => whnf)
    all_goals first
      | exact ret_bool rfl
      | (exfalso; simp_all [short20]; done)
      | (exfalso; simp_all [short20]; omega)
  rw [hN, Bool.true_and]
  unfold names3 at hN
  simp only [Bool.and_eq_true] at hN
  obtain ⟨⟨n1, n2⟩, n3⟩ := hN
  have n1 := sh_n n1
  have n2 := sh_n n2
  have n3 := sh_n n3
  generalize hE : (h.ws.all fewW && (h.ms.all fewM && (h.ks.all fewC && h.ss.all fewS))) = R
  rcases hw with hw | hw
  all_goals
    refine bs.pv (sx := nos) pt0_ok Tryz.func80 (by kernel_rfl) (by kernel_rfl) rfl ?_
    repeat' (first | refine wk3 ?_ | (refine wk2 ?_ ?_ <;> intro _) | refine wk4 ?_ | fail); all_goals (conv => whnf)
    clear n1 n2 n3
    subst hE
    generalize hV : (h.ms.all fewM && (h.ks.all fewC && h.ss.all fewS)) = V
    refine loopV (S := Nat × Int) (fun t => h.ws.length - t.1) (fun t => [(1, .ptr 0 0 0), (2, Bo false), (3, I t.2)]) (fun _ => [(0, .row 9 [h.cells] true false)]) 1 1 (fun t => t.2 = t.1 ∧ t.1 ≤ h.ws.length ∧ ((h.ws.drop t.1).all fewW && V) = (h.ws.all fewW && V)) (0, 0) ⟨rfl, Nat.zero_le _, rfl⟩ (Nat.le_refl _) [] rfl (kps) (kps) ?_
    rintro ⟨k, i⟩ ⟨hi, hk, hh⟩
    dsimp only at hi hk hh ⊢
    subst hi
    generalize hB : (h.ws.all fewW && V) = B at *
    clear hB
    refine bs.av (sx := nos) pt0_ok ?_
    by_cases hlt : k < h.ws.length
    · clear hV
      have e1 := wa_get hlt
      rw [List.drop_eq_getElem_cons hlt, List.all_cons] at hh
      generalize h.ws[k] = m at *
      have hm : ∀ b, fewW m = b → (b && (h.ws.drop (k + 1)).all fewW && V) = B := fun b e => by rw [← e, Bool.and_assoc]; rw [Bool.and_assoc] at hh; exact hh
      clear hh
      repeat' (first | refine wk3 ?_ | (refine wk2 ?_ ?_ <;> intro _) | refine wk4 ?_ | fail); all_goals (conv => whnf)
      all_goals clear e1
      all_goals first
        | exact ret_bool (hm false (by clear hm; simp_all [fewW, short20]; done))
        | exact Done.mk ⟨(k + 1, _), [], rfl, kps, kps, ⟨W_succ (by omega), hlt, hm true (by clear hm; simp_all [fewW, short20]; done)⟩, by dsimp only; omega⟩
    rw [List.drop_of_length_le (by omega)] at hh
    have hh : V = B := hh
    subst hh
    subst hV
    repeat' (first | refine wk3 ?_ | (refine wk2 ?_ ?_ <;> intro _) | refine wk4 ?_ | fail); all_goals (conv => whnf)
    clear hlt hk
    generalize hV : (h.ks.all fewC && h.ss.all fewS) = V
    refine loopV (S := Nat × Int) (fun t => h.ms.length - t.1) (fun t => [(1, .ptr 0 0 0), (2, Bo false), (4, I t.2)]) (fun _ => [(0, .row 9 [h.cells] true false)]) 1 1 (fun t => t.2 = t.1 ∧ t.1 ≤ h.ms.length ∧ ((h.ms.drop t.1).all fewM && V) = (h.ms.all fewM && V)) (0, 0) ⟨rfl, Nat.zero_le _, rfl⟩ (Nat.le_refl _) [] rfl (kps) (kps) ?_
    rintro ⟨k, i⟩ ⟨hi, hk, hh⟩
    dsimp only at hi hk hh ⊢
    subst hi
    generalize hB : (h.ms.all fewM && V) = B at *
    clear hB
    refine bs.av (sx := nos) pt0_ok ?_
    by_cases hlt : k < h.ms.length
    · clear hV
      have e1 := mt_get hlt
      rw [List.drop_eq_getElem_cons hlt, List.all_cons] at hh
      generalize h.ms[k] = m at *
      have hm : ∀ b, fewM m = b → (b && (h.ms.drop (k + 1)).all fewM && V) = B := fun b e => by rw [← e, Bool.and_assoc]; rw [Bool.and_assoc] at hh; exact hh
      clear hh
      repeat' (first | refine wk3 ?_ | (refine wk2 ?_ ?_ <;> intro _) | refine wk4 ?_ | fail); all_goals (conv => whnf)
      all_goals clear e1
      all_goals first
        | exact ret_bool (hm false (by clear hm; simp_all [fewM, short20]; done))
        | exact Done.mk ⟨(k + 1, _), [], rfl, kps, kps, ⟨W_succ (by omega), hlt, hm true (by clear hm; simp_all [fewM, short20]; done)⟩, by dsimp only; omega⟩
    rw [List.drop_of_length_le (by omega)] at hh
    have hh : V = B := hh
    subst hh
    subst hV
    repeat' (first | refine wk3 ?_ | (refine wk2 ?_ ?_ <;> intro _) | refine wk4 ?_ | fail); all_goals (conv => whnf)
    clear hlt hk
    generalize hV : h.ss.all fewS = V
    refine loopV (S := Nat × Int) (fun t => h.ks.length - t.1) (fun t => [(1, .ptr 0 0 0), (2, Bo false), (5, I t.2)]) (fun _ => [(0, .row 9 [h.cells] true false)]) 1 1 (fun t => t.2 = t.1 ∧ t.1 ≤ h.ks.length ∧ ((h.ks.drop t.1).all fewC && V) = (h.ks.all fewC && V)) (0, 0) ⟨rfl, Nat.zero_le _, rfl⟩ (Nat.le_refl _) [] rfl (kps) (kps) ?_
    rintro ⟨k, i⟩ ⟨hi, hk, hh⟩
    dsimp only at hi hk hh ⊢
    subst hi
    generalize hB : (h.ks.all fewC && V) = B at *
    clear hB
    refine bs.av (sx := nos) pt0_ok ?_
    by_cases hlt : k < h.ks.length
    · clear hV
      have e1 := ca_get hlt
      rw [List.drop_eq_getElem_cons hlt, List.all_cons] at hh
      generalize h.ks[k] = m at *
      have e9 := nl_length m.hs
      have hm : ∀ b, fewC m = b → (b && (h.ks.drop (k + 1)).all fewC && V) = B := fun b e => by rw [← e, Bool.and_assoc]; rw [Bool.and_assoc] at hh; exact hh
      clear hh
      repeat' (first | refine wk3 ?_ | (refine wk2 ?_ ?_ <;> intro _) | refine wk4 ?_ | fail); all_goals (conv => whnf)
      all_goals clear e1
      all_goals first
        | exact ret_bool (hm false (by clear hm; simp_all [fewC, short20]; done))
        | exact Done.mk ⟨(k + 1, _), [], rfl, kps, kps, ⟨W_succ (by omega), hlt, hm true (by clear hm; simp_all [fewC, short20]; done)⟩, by dsimp only; omega⟩
    rw [List.drop_of_length_le (by omega)] at hh
    have hh : V = B := hh
    subst hh
    subst hV
    repeat' (first | refine wk3 ?_ | (refine wk2 ?_ ?_ <;> intro _) | refine wk4 ?_ | fail); all_goals (conv => whnf)
    clear hlt hk
    refine loopV (S := Nat × Int) (fun t => h.ss.length - t.1) (fun t => [(1, .ptr 0 0 0), (2, Bo false), (6, I t.2)]) (fun _ => [(0, .row 9 [h.cells] true false)]) 1 1 (fun t => t.2 = t.1 ∧ t.1 ≤ h.ss.length ∧ ((h.ss.drop t.1).all fewS) = (h.ss.all fewS)) (0, 0) ⟨rfl, Nat.zero_le _, rfl⟩ (Nat.le_refl _) [] rfl (kps) (kps) ?_
    rintro ⟨k, i⟩ ⟨hi, hk, hh⟩
    dsimp only at hi hk hh ⊢
    subst hi
    generalize hB : (h.ss.all fewS) = B at *
    clear hB
    refine bs.av (sx := nos) pt0_ok ?_
    by_cases hlt : k < h.ss.length
    · have e1 := se_get hlt
      rw [List.drop_eq_getElem_cons hlt, List.all_cons] at hh
      generalize h.ss[k] = m at *
      have hm : ∀ b, fewS m = b → (b && (h.ss.drop (k + 1)).all fewS) = B := fun b e => by rw [← e]; exact hh
      clear hh
      repeat' (first | refine wk3 ?_ | (refine wk2 ?_ ?_ <;> intro _) | refine wk4 ?_ | fail); all_goals (conv => whnf)
      all_goals clear e1
      all_goals first
        | exact ret_bool (hm false (by clear hm; simp_all [fewS, short20]; done))
        | exact Done.mk ⟨(k + 1, _), [], rfl, kps, kps, ⟨W_succ (by omega), hlt, hm true (by clear hm; simp_all [fewS, short20]; done)⟩, by dsimp only; omega⟩
    rw [List.drop_of_length_le (by omega)] at hh
    repeat' (first | refine wk3 ?_ | (refine wk2 ?_ ?_ <;> intro _) | refine wk4 ?_ | fail); all_goals (conv => whnf)
    exact ret_bool hh
/-- A scene is small. -/
def few3 (h : Hal) (s : Stg) : Bool := few2 h && (decide (s.hs.length ≤ 4) && decide (s.dr.length ≤ 10))
theorem few3_ok {h : Hal} {s : Stg} (r : few3 h s = true) : h.ok ∧ s.few := by
  unfold few3 at r
  simp only [Bool.and_eq_true, decide_eq_true_eq] at r
  exact ⟨few2_ok r.1, by omega, by omega⟩
theorem d17 (h : Hal) (s : Stg) : PCall Tryz.prog 17 [.agg (stgL h s)] ⟨Bo (few3 h s), []⟩ := by
  have l1 := nl_length s.hs
  have l2 := nl_length s.dr
  have hk := one_ok (d80 h) pt0_ok
  unfold few3
  generalize few2 h = b at *
  by_cases c1 : s.hs.length ≤ 4 <;> by_cases c2 : s.dr.length ≤ 10 <;> cases b
  all_goals
    refine bs.pv (sx := nos) hk Tryz.func17 (by kernel_rfl) (by kernel_rfl) rfl ?_
    repeat' (first | refine wk3 ?_ | (refine wk2 ?_ ?_ <;> intro _) | refine wk4 ?_ | fail); all_goals (conv => whnf)
  all_goals first
    | exact ret_bool rfl
    | (refine ret_bool ?_; simp_all; done)
    | (refine ret_bool ?_; simp_all; omega)
    | (exfalso; simp_all; omega)
/-! ### Errors of a scene -/
theorem d90 {h : Hal} (hk : h.ok) : PCall Tryz.prog 90 [h.av] ⟨I h.err, []⟩ := by
  refine bs.pv (sx := nos) (one_ok (c65k hk) pt0_ok) Tryz.func90 (by kernel_rfl) (by kernel_rfl) rfl ?_
  repeat' (first | refine wk3 ?_ | (refine wk2 ?_ ?_ <;> intro _) | refine wk4 ?_ | fail); all_goals (conv => whnf)
  exact ret_int rfl
theorem d22 {h : Hal} (hk : h.ok) {s : Stg} (hs : s.few) : PCall Tryz.prog 22 [h.av, s.av] ⟨I (serr h s), []⟩ := by
  refine bs.pv (sx := nos) (one_ok (d90 hk) (one_ok (c75 hk.f hs) pt0_ok)) Tryz.func22 (by kernel_rfl) (by kernel_rfl) rfl ?_
  repeat' (first | refine wk3 ?_ | (refine wk2 ?_ ?_ <;> intro _) | refine wk4 ?_ | fail); all_goals (conv => whnf)
  all_goals exact ret_int (by simp_all [serr])
end Go.Proofs.YtddhjopopelkjaaGreat
