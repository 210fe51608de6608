/- A part of the proof: lemmas. -/
import Derived.Test.YtdaliaafmcjikaaGreatZw10
import Derived.Test.YtdaliaafmcjikaaGreatZw11
import Derived.Test.YtdaliaafmcjikaaGreatJA1
set_option linter.unusedVariables false
set_option linter.unusedSimpArgs false
namespace Go.Proofs.YtdaliaafmcjikaaGreat
open Go Go.Sx
abbrev fewP2 (h : Hal) : Prop := (9 < h.ws.length ∧ h.ws.length ≤ 12) ∨ 14 < h.ws.length ∨ 14 < h.cs.length ∨ 4 < h.ms.length ∨ 2 < h.ks.length ∨ 3 < h.ss.length
def names3 (h : Hal) : Bool := short20 h.nm && short20 h.fl && short20 h.ce
def few2 (h : Hal) : Bool := (!decide (fewP2 h) && names3 h) && (h.ws.all fewW && (h.ms.all fewM && (h.ks.all fewC && h.ss.all fewS)))
theorem few2_ok {h : Hal} (hb : few2 h = true) : h.ok := by
  unfold few2 names3 at hb
  simp only [Bool.and_eq_true, Bool.not_eq_true', decide_eq_false_iff_not] at hb
  obtain ⟨⟨hL, ⟨n1, n2⟩, n3⟩, m2, m1, m3, m4⟩ := hb
  have hL : ¬ ((9 < h.ws.length ∧ h.ws.length ≤ 12) ∨ 14 < h.ws.length ∨ 14 < h.cs.length ∨ 4 < h.ms.length ∨ 2 < h.ks.length ∨ 3 < h.ss.length) := hL
  rw [List.all_eq_true] at m1 m2 m3 m4
  refine ⟨⟨by omega, by omega, by omega, by omega, by omega, fun c hc => ?_⟩, ⟨short20_le n1, fun m hm => short20_le (m1 m hm), fun m hm => ?_, fun m hm => ?_, fun m hm => short20_le (m4 m hm)⟩⟩
  · have := m3 c hc
    unfold fewC at this
    simp only [Bool.and_eq_true, Bool.not_eq_true', decide_eq_false_iff_not] at this
    omega
  · have := m2 m hm
    unfold fewW at this
    simp only [Bool.and_eq_true] at this
    exact short20_le this.1.1
  · have := m3 m hm
    unfold fewC at this
    simp only [Bool.and_eq_true] at this
    exact short20_le this.1.1
theorem sh_n {s : ByteArray} (h : short20 s = true) : ¬ (20 : Int) < (s.size : Int) := by
  unfold short20 at h
  simpa using h
theorem sh_y {s : ByteArray} (h : short20 s = false) : (20 : Int) < (s.size : Int) := by
  unfold short20 at h
  simpa using h
set_option maxRecDepth 100000 in
set_option maxHeartbeats 16000000 in
theorem d80 (h : Hal) : PCall Tryz.prog 63 [h.av] ⟨Bo (few2 h), []⟩ := by
  have l1 := mt_length h.ms
  have l2 : (h.cs.map pt).length = h.cs.length := by simp
  have l3 := wa_length h.ws
  have l4 := ca_length h.ks
  have l5 := se_length h.ss
  by_cases hP : fewP2 h
  · have e0 : few2 h = false := by unfold few2; rw [decide_eq_true hP]; rfl
    rw [e0]
    clear e0
    have hP : (9 < h.ws.length ∧ h.ws.length ≤ 12) ∨ 14 < h.ws.length ∨ 14 < h.cs.length ∨ 4 < h.ms.length ∨ 2 < h.ks.length ∨ 3 < h.ss.length := hP
    refine bs.pv (sx := nos) pt0_ok Tryz.func63 (by kernel_rfl) (by kernel_rfl) rfl ?_
    repeat' (first | refine wk3 ?_ | (refine wk2 ?_ ?_ <;> intro _) | refine wk4 ?_ | fail); all_goals (conv => whnf)
    all_goals first
      | exact ret_bool rfl
      | (exfalso; simp_all; omega)
  have hP' : ¬ ((9 < h.ws.length ∧ h.ws.length ≤ 12) ∨ 14 < h.ws.length ∨ 14 < h.cs.length ∨ 4 < h.ms.length ∨ 2 < h.ks.length ∨ 3 < h.ss.length) := hP
  have hw : h.ws.length ≤ 9 ∨ 12 < h.ws.length := by omega
  unfold few2
  rw [decide_eq_false hP, Bool.not_false, Bool.true_and]
  clear hP
  by_cases hN : names3 h = true
  rotate_left
  · have hN : names3 h = false := by simpa using hN
    rw [hN, Bool.false_and]
    unfold names3 at hN
    rcases hw with hw | hw
    all_goals
      refine bs.pv (sx := nos) pt0_ok Tryz.func63 (by kernel_rfl) (by kernel_rfl) rfl ?_
      repeat' (first | refine wk3 ?_ | (refine wk2 ?_ ?_ <;> intro _) | refine wk4 ?_ | fail); all_goals (conv => whnf)
    all_goals first
      | exact ret_bool rfl
      | (exfalso; simp_all [short20]; done)
      | (exfalso; simp_all [short20]; omega)
  rw [hN, Bool.true_and]
  unfold names3 at hN
  simp only [Bool.and_eq_true] at hN
  obtain ⟨⟨n1, n2⟩, n3⟩ := hN
  have n1 := sh_n n1
  have n2 := sh_n n2
  have n3 := sh_n n3
  generalize hE : (h.ws.all fewW && (h.ms.all fewM && (h.ks.all fewC && h.ss.all fewS))) = R
  rcases hw with hw | hw
  all_goals
    refine bs.pv (sx := nos) pt0_ok Tryz.func63 (by kernel_rfl) (by kernel_rfl) rfl ?_
    repeat' (first | refine wk3 ?_ | (refine wk2 ?_ ?_ <;> intro _) | refine wk4 ?_ | fail); all_goals (conv => whnf)
    clear n1 n2 n3
    subst hE
    generalize hV : (h.ms.all fewM && (h.ks.all fewC && h.ss.all fewS)) = V
    refine loopV (S := Nat × Int) (fun t => h.ws.length - t.1) (fun t => [(1, .ptr 0 0 0), (2, Bo false), (3, I t.2)]) (fun _ => [(0, .row 9 [h.cells] true false)]) 1 1 (fun t => t.2 = t.1 ∧ t.1 ≤ h.ws.length ∧ ((h.ws.drop t.1).all fewW && V) = (h.ws.all fewW && V)) (0, 0) ⟨rfl, Nat.zero_le _, rfl⟩ (Nat.le_refl _) [] rfl (kps) (kps) ?_
    rintro ⟨k, i⟩ ⟨hi, hk, hh⟩
    dsimp only at hi hk hh ⊢
    subst hi
    generalize hB : (h.ws.all fewW && V) = B at *
    clear hB
    refine bs.av (sx := nos) pt0_ok ?_
    by_cases hlt : k < h.ws.length
    · clear hV
      have e1 := wa_get hlt
      rw [List.drop_eq_getElem_cons hlt, List.all_cons] at hh
      generalize h.ws[k] = m at *
      have hm : ∀ b, fewW m = b → (b && (h.ws.drop (k + 1)).all fewW && V) = B := fun b e => by rw [← e, Bool.and_assoc]; rw [Bool.and_assoc] at hh; exact hh
      clear hh
      repeat' (first | refine wk3 ?_ | (refine wk2 ?_ ?_ <;> intro _) | refine wk4 ?_ | fail); all_goals (conv => whnf)
      all_goals clear e1
      all_goals first
        | exact ret_bool (hm false (by clear hm; simp_all [fewW, short20]; done))
        | exact Done.mk ⟨(k + 1, _), [], rfl, kps, kps, ⟨W_succ (by omega), hlt, hm true (by clear hm; simp_all [fewW, short20]; done)⟩, by dsimp only; omega⟩
    rw [List.drop_of_length_le (by omega)] at hh
    have hh : V = B := hh
    subst hh
    subst hV
    repeat' (first | refine wk3 ?_ | (refine wk2 ?_ ?_ <;> intro _) | refine wk4 ?_ | fail); all_goals (conv => whnf)
    clear hlt hk
    generalize hV : (h.ks.all fewC && h.ss.all fewS) = V
    refine loopV (S := Nat × Int) (fun t => h.ms.length - t.1) (fun t => [(1, .ptr 0 0 0), (2, Bo false), (4, I t.2)]) (fun _ => [(0, .row 9 [h.cells] true false)]) 1 1 (fun t => t.2 = t.1 ∧ t.1 ≤ h.ms.length ∧ ((h.ms.drop t.1).all fewM && V) = (h.ms.all fewM && V)) (0, 0) ⟨rfl, Nat.zero_le _, rfl⟩ (Nat.le_refl _) [] rfl (kps) (kps) ?_
    rintro ⟨k, i⟩ ⟨hi, hk, hh⟩
    dsimp only at hi hk hh ⊢
    subst hi
    generalize hB : (h.ms.all fewM && V) = B at *
    clear hB
    refine bs.av (sx := nos) pt0_ok ?_
    by_cases hlt : k < h.ms.length
    · clear hV
      have e1 := mt_get hlt
      rw [List.drop_eq_getElem_cons hlt, List.all_cons] at hh
      generalize h.ms[k] = m at *
      have hm : ∀ b, fewM m = b → (b && (h.ms.drop (k + 1)).all fewM && V) = B := fun b e => by rw [← e, Bool.and_assoc]; rw [Bool.and_assoc] at hh; exact hh
      clear hh
      repeat' (first | refine wk3 ?_ | (refine wk2 ?_ ?_ <;> intro _) | refine wk4 ?_ | fail); all_goals (conv => whnf)
      all_goals clear e1
      all_goals first
        | exact ret_bool (hm false (by clear hm; simp_all [fewM, short20]; done))
        | exact Done.mk ⟨(k + 1, _), [], rfl, kps, kps, ⟨W_succ (by omega), hlt, hm true (by clear hm; simp_all [fewM, short20]; done)⟩, by dsimp only; omega⟩
    rw [List.drop_of_length_le (by omega)] at hh
    have hh : V = B := hh
    subst hh
    subst hV
    repeat' (first | refine wk3 ?_ | (refine wk2 ?_ ?_ <;> intro _) | refine wk4 ?_ | fail); all_goals (conv => whnf)
    clear hlt hk
    generalize hV : h.ss.all fewS = V
    refine loopV (S := Nat × Int) (fun t => h.ks.length - t.1) (fun t => [(1, .ptr 0 0 0), (2, Bo false), (5, I t.2)]) (fun _ => [(0, .row 9 [h.cells] true false)]) 1 1 (fun t => t.2 = t.1 ∧ t.1 ≤ h.ks.length ∧ ((h.ks.drop t.1).all fewC && V) = (h.ks.all fewC && V)) (0, 0) ⟨rfl, Nat.zero_le _, rfl⟩ (Nat.le_refl _) [] rfl (kps) (kps) ?_
    rintro ⟨k, i⟩ ⟨hi, hk, hh⟩
    dsimp only at hi hk hh ⊢
    subst hi
    generalize hB : (h.ks.all fewC && V) = B at *
    clear hB
    refine bs.av (sx := nos) pt0_ok ?_
    by_cases hlt : k < h.ks.length
    · clear hV
      have e1 := ca_get hlt
      rw [List.drop_eq_getElem_cons hlt, List.all_cons] at hh
      generalize h.ks[k] = m at *
      have e9 := nl_length m.hs
      have hm : ∀ b, fewC m = b → (b && (h.ks.drop (k + 1)).all fewC && V) = B := fun b e => by rw [← e, Bool.and_assoc]; rw [Bool.and_assoc] at hh; exact hh
      clear hh
      repeat' (first | refine wk3 ?_ | (refine wk2 ?_ ?_ <;> intro _) | refine wk4 ?_ | fail); all_goals (conv => whnf)
      all_goals clear e1
      all_goals first
        | exact ret_bool (hm false (by clear hm; simp_all [fewC, short20]; done))
        | exact Done.mk ⟨(k + 1, _), [], rfl, kps, kps, ⟨W_succ (by omega), hlt, hm true (by clear hm; simp_all [fewC, short20]; done)⟩, by dsimp only; omega⟩
    rw [List.drop_of_length_le (by omega)] at hh
    have hh : V = B := hh
    subst hh
    subst hV
    repeat' (first | refine wk3 ?_ | (refine wk2 ?_ ?_ <;> intro _) | refine wk4 ?_ | fail); all_goals (conv => whnf)
    clear hlt hk
    refine loopV (S := Nat × Int) (fun t => h.ss.length - t.1) (fun t => [(1, .ptr 0 0 0), (2, Bo false), (6, I t.2)]) (fun _ => [(0, .row 9 [h.cells] true false)]) 1 1 (fun t => t.2 = t.1 ∧ t.1 ≤ h.ss.length ∧ ((h.ss.drop t.1).all fewS) = (h.ss.all fewS)) (0, 0) ⟨rfl, Nat.zero_le _, rfl⟩ (Nat.le_refl _) [] rfl (kps) (kps) ?_
    rintro ⟨k, i⟩ ⟨hi, hk, hh⟩
    dsimp only at hi hk hh ⊢
    subst hi
    generalize hB : (h.ss.all fewS) = B at *
    clear hB
    refine bs.av (sx := nos) pt0_ok ?_
    by_cases hlt : k < h.ss.length
    · have e1 := se_get hlt
      rw [List.drop_eq_getElem_cons hlt, List.all_cons] at hh
      generalize h.ss[k] = m at *
      have hm : ∀ b, fewS m = b → (b && (h.ss.drop (k + 1)).all fewS) = B := fun b e => by rw [← e]; exact hh
      clear hh
      repeat' (first | refine wk3 ?_ | (refine wk2 ?_ ?_ <;> intro _) | refine wk4 ?_ | fail); all_goals (conv => whnf)
      all_goals clear e1
      all_goals first
        | exact ret_bool (hm false (by clear hm; simp_all [fewS, short20]; done))
        | exact Done.mk ⟨(k + 1, _), [], rfl, kps, kps, ⟨W_succ (by omega), hlt, hm true (by clear hm; simp_all [fewS, short20]; done)⟩, by dsimp only; omega⟩
    rw [List.drop_of_length_le (by omega)] at hh
    repeat' (first | refine wk3 ?_ | (refine wk2 ?_ ?_ <;> intro _) | refine wk4 ?_ | fail); all_goals (conv => whnf)
    exact ret_bool hh
/-- A scene is small. -/
def few3 (h : Hal) (s : Stg) : Bool := few2 h && (decide (s.hs.length ≤ 4) && decide (s.dr.length ≤ 10))
theorem few3_ok {h : Hal} {s : Stg} (r : few3 h s = true) : h.ok ∧ s.few := by
  unfold few3 at r
  simp only [Bool.and_eq_true, decide_eq_true_eq] at r
  exact ⟨few2_ok r.1, by omega, by omega⟩
theorem d90 {h : Hal} (hk : h.ok) : PCall Tryz.prog 66 [h.av] ⟨I h.err, []⟩ := by
  refine bs.pv (sx := nos) (one_ok (c65k hk) pt0_ok) Tryz.func66 (by kernel_rfl) (by kernel_rfl) rfl ?_
  repeat' (first | refine wk3 ?_ | (refine wk2 ?_ ?_ <;> intro _) | refine wk4 ?_ | fail); all_goals (conv => whnf)
  exact ret_int rfl
noncomputable abbrev cHas (h : Hal) : List AV → Option PRes := famA (fun _ : Int => True) (fun i => [h.av, I i]) (fun i => ⟨Bo (within i 0 (nsur h - 1)), []⟩)
theorem has_hit (h : Hal) (i : Int) : cHas h [h.av, I i] = some ⟨Bo (within i 0 (nsur h - 1)), []⟩ :=
  famA_hit (p := fun _ : Int => True) (g := fun i => [h.av, I i]) (r := fun i => ⟨Bo (within i 0 (nsur h - 1)), []⟩) (fun j hj => by
    simp only [List.cons.injEq, AV.int.injEq, true_and, and_true] at hj
    rw [hj]) trivial
def nsN (h : Hal) : Nat := h.ws.length + 2 + h.ks.length
theorem nsN_eq (h : Hal) : (nsN h : Int) = nsur h := by unfold nsN nsur; omega
theorem surf_len (h : Hal) : (sl (surf h)).length = nsN h := by
  rw [sl_length]; unfold surf wNames kNames nsN; simp; omega
def prvL (l : List Int) : Nat → Option Int
  | 0 => none
  | k + 1 => l[k]?
def wkG (n : Int) : Option Int → List Int → Int
  | _, [] => 0
  | q, x :: l => if within x 0 n then (if q = some x then 26 else wkG n (some x) l) else 6
theorem wkG_step {n : Int} {l : List Int} {k : Nat} (hk : k < l.length) : wkG n (prvL l k) (l.drop k) = if within l[k] 0 n then (if prvL l k = some l[k] then 26 else wkG n (prvL l (k + 1)) (l.drop (k + 1))) else 6 := by
  rw [List.drop_eq_getElem_cons hk, wkG, show prvL l (k + 1) = some l[k] by rw [prvL, List.getElem?_eq_getElem hk]]
def suE (h : Hal) (l : List Int) : Int := if 4 < (l.length : Int) then 8 else wkG (nsur h - 1) none l
theorem wkG_in {n : Int} : ∀ {l : List Int} {q : Option Int}, wkG n q l = 0 → ∀ x ∈ l, 0 ≤ x ∧ x ≤ n
  | [], _, _, x, hx => by simp at hx
  | y :: l, q, h, x, hx => by
    rw [wkG] at h
    split at h
    · rename_i c
      split at h
      · cases h
      · rw [List.mem_cons] at hx
        rcases hx with rfl | hx
        · exact within_iff.1 c
        · exact wkG_in h x hx
    · cases h
set_option maxRecDepth 100000 in
set_option maxHeartbeats 8000000 in
theorem d93 {h : Hal} (hf : h.few) (l : List Int) (hl : l.length < 1000) : PCall Tryz.prog 19 [h.av, .isl 1 (nl l)] ⟨I (suE h l), []⟩ := by
  have l2 := nl_length l
  have hk : PCOK Tryz.prog (ins 69 (cHas h) pt0) := famA_ok (fun i _ => c88 hf i) pt0_ok
  unfold suE
  by_cases c : 4 < (l.length : Int)
  · rw [if_pos c]
    refine bs.pv (sx := nos) pt0_ok Tryz.func19 (by kernel_rfl) (by kernel_rfl) rfl ?_
    repeat' (first | refine wk3 ?_ | (refine wk2 ?_ ?_ <;> intro _) | refine wk4 ?_ | fail); all_goals (conv => whnf)
    exact ret_int rfl
  rw [if_neg c]
  refine bs.pv (sx := nos) hk Tryz.func19 (by kernel_rfl) (by kernel_rfl) rfl ?_
  repeat' (first | refine wk3 ?_ | (refine wk2 ?_ ?_ <;> intro _) | refine wk4 ?_ | fail); all_goals (conv => whnf)
  refine loopV (S := Nat × Int) (fun t => l.length - t.1) (fun t => [(1, .isl 1 (nl l)), (2, .ptr 0 0 0), (5, I t.2)]) (fun _ => [(0, .row 9 [h.cells] true false)]) 1 1 (fun t => t.2 = t.1 ∧ t.1 ≤ l.length ∧ wkG (nsur h - 1) (prvL l t.1) (l.drop t.1) = wkG (nsur h - 1) none l) (0, 0) ⟨rfl, Nat.zero_le _, rfl⟩ (Nat.le_refl _) [] rfl (kps) (kps) ?_
  rintro ⟨k, i⟩ ⟨hi, hk1, hh⟩
  dsimp only at hi hk1 hh ⊢
  subst hi
  generalize wkG (nsur h - 1) none l = R at *
  refine bs.av (sx := nos) hk ?_
  by_cases hlt : k < l.length
  · have e1 := nl_get hlt
    have g1 := has_hit h l[k]
    rw [wkG_step hlt] at hh
    cases k with
    | zero =>
      rw [show prvL l 0 = none from rfl] at hh
      rw [if_neg (c := none = some l[0]) (by simp)] at hh
      generalize l[0] = x at *
      cases hw : within x 0 (nsur h - 1)
      · rw [hw] at hh g1
        have hh : (6 : Int) = R := hh
        subst hh
        repeat' (first | refine wk3 ?_ | (refine wk2 ?_ ?_ <;> intro _) | refine wk4 ?_ | fail); all_goals (conv => whnf)
        exact ret_int rfl
      · rw [hw, if_pos rfl] at hh
        rw [hw] at g1
        repeat' (first | refine wk3 ?_ | (refine wk2 ?_ ?_ <;> intro _) | refine wk4 ?_ | fail); all_goals (conv => whnf)
        exact Done.mk ⟨(1, _), [], rfl, kps, kps, ⟨W_succ (k := 0) (by omega), hlt, hh⟩, by dsimp only; omega⟩
    | succ k =>
      have w : IntKind.i64.wrap (((k + 1 : Nat) : Int) - 1) = (k : Int) := by rw [W_eq (by omega) (by omega)]; omega
      have hlt' : k < l.length := by omega
      have e2 : (nl l)[(IntKind.i64.wrap (((k + 1 : Nat) : Int) - 1)).toNat]? = some [I l[k]] := by rw [w]; exact nl_get hlt'
      rw [show prvL l (k + 1) = some l[k] by rw [prvL, List.getElem?_eq_getElem hlt']] at hh
      generalize l[k + 1] = x at *
      generalize l[k] = y at *
      cases hw : within x 0 (nsur h - 1)
      · rw [hw] at hh g1
        have hh : (6 : Int) = R := hh
        subst hh
        repeat' (first | refine wk3 ?_ | (refine wk2 ?_ ?_ <;> intro _) | refine wk4 ?_ | fail); all_goals (conv => whnf)
        exact ret_int rfl
      · rw [hw, if_pos rfl] at hh
        rw [hw] at g1
        by_cases hxy : x = y
        · rw [if_pos (by rw [hxy])] at hh
          subst hh
          repeat' (first | refine wk3 ?_ | (refine wk2 ?_ ?_ <;> intro _) | refine wk4 ?_ | fail); all_goals (conv => whnf)
          exact ret_int rfl
        · rw [if_neg (fun c => hxy (by simpa using c.symm))] at hh
          repeat' (first | refine wk3 ?_ | (refine wk2 ?_ ?_ <;> intro _) | refine wk4 ?_ | fail); all_goals (conv => whnf)
          exact Done.mk ⟨(k + 1 + 1, _), [], rfl, kps, kps, ⟨W_succ (k := k + 1) (by omega), hlt, hh⟩, by dsimp only; omega⟩
  · rw [List.drop_of_length_le (by omega), wkG] at hh
    repeat' (first | refine wk3 ?_ | (refine wk2 ?_ ?_ <;> intro _) | refine wk4 ?_ | fail); all_goals (conv => whnf)
    exact ret_int hh
set_option maxRecDepth 100000 in
set_option maxHeartbeats 8000000 in
theorem d165 {h : Hal} (hk : h.ok) (he : h.err = 0) (l : List Int) (hl : l.length < 1000) : PCall Tryz.prog 64 [h.av, .isl 1 (nl l)] ⟨I (suE h l), []⟩ := by
  have l2 := nl_length l
  have h64 := c64 hk
  rw [he, if_pos rfl] at h64
  have l3 := surf_len h
  have hn := nsN_eq h
  have hf := hk.f
  have hnb : nsN h < 10000 := by obtain ⟨f1, f2, f3, f4, f5, f6⟩ := hf; unfold nsN; omega
  have hk := one_ok h64 (ins_ok (f0 := 101) (r := rWu) (fun a res h => by unfold rWu at h; split at h <;> cases h; exact d210 _ _ _) pt0_ok)
  unfold suE
  by_cases c : 4 < (l.length : Int)
  · rw [if_pos c]
    refine bs.pv (sx := nos) pt0_ok Tryz.func64 (by kernel_rfl) (by kernel_rfl) rfl ?_
    repeat' (first | refine wk3 ?_ | (refine wk2 ?_ ?_ <;> intro _) | refine wk4 ?_ | fail); all_goals (conv => whnf)
    exact ret_int rfl
  rw [if_neg c]
  have w0 : IntKind.i64.wrap (((sl (surf h)).length : Int) - 1) = nsur h - 1 := by rw [l3, W_eq (by omega) (by omega)]; omega
  rw [← w0]
  refine bs.pv (sx := nos) hk Tryz.func64 (by kernel_rfl) (by kernel_rfl) rfl ?_
  repeat' (first | refine wk3 ?_ | (refine wk2 ?_ ?_ <;> intro _) | refine wk4 ?_ | fail); all_goals (conv => whnf)
  refine loopV (S := Nat × Int) (fun t => l.length - t.1) (fun t => [(1, .isl 1 (nl l)), (5, .isl 1 (sl (surf h))), (17, .isl 1 (nl l)), (18, I (nl l).length), (19, I t.2)]) (fun _ => []) 1 1 (fun t => t.2 = t.1 ∧ t.1 ≤ l.length ∧ wkG (IntKind.i64.wrap (((sl (surf h)).length : Int) - 1)) (prvL l t.1) (l.drop t.1) = wkG (IntKind.i64.wrap (((sl (surf h)).length : Int) - 1)) none l) (0, 0) ⟨rfl, Nat.zero_le _, rfl⟩ (Nat.le_refl _) [] rfl (kps) (kps) ?_
  rintro ⟨k, i⟩ ⟨hi, hk1, hh⟩
  dsimp only at hi hk1 hh ⊢
  subst hi
  generalize wkG (IntKind.i64.wrap (((sl (surf h)).length : Int) - 1)) none l = R at *
  refine bs.av (sx := nos) hk ?_
  by_cases hlt : k < l.length
  · have e1 := nl_get hlt
    rw [wkG_step hlt] at hh
    cases k with
    | zero =>
      rw [show prvL l 0 = none from rfl] at hh
      rw [if_neg (c := none = some l[0]) (by simp)] at hh
      generalize l[0] = x at *
      cases hw : within x 0 (IntKind.i64.wrap (((sl (surf h)).length : Int) - 1))
      · rw [hw] at hh
        have hh : (6 : Int) = R := hh
        subst hh
        repeat' (first | refine wk3 ?_ | (refine wk2 ?_ ?_ <;> intro _) | refine wk4 ?_ | fail); all_goals (conv => whnf)
        all_goals first
          | exact ret_int rfl
          | (exfalso; simp_all; done)
      · rw [hw, if_pos rfl] at hh
        repeat' (first | refine wk3 ?_ | (refine wk2 ?_ ?_ <;> intro _) | refine wk4 ?_ | fail); all_goals (conv => whnf)
        all_goals first
          | exact Done.mk ⟨(1, _), [], rfl, kps, kps, ⟨W_succ (k := 0) (by omega), hlt, hh⟩, by dsimp only; omega⟩
          | (exfalso; simp_all; done)
    | succ k =>
      have w : IntKind.i64.wrap (((k + 1 : Nat) : Int) - 1) = (k : Int) := by rw [W_eq (by omega) (by omega)]; omega
      have hlt' : k < l.length := by omega
      have e2 : (nl l)[(IntKind.i64.wrap (((k + 1 : Nat) : Int) - 1)).toNat]? = some [I l[k]] := by rw [w]; exact nl_get hlt'
      rw [show prvL l (k + 1) = some l[k] by rw [prvL, List.getElem?_eq_getElem hlt']] at hh
      generalize l[k + 1] = x at *
      generalize l[k] = y at *
      cases hw : within x 0 (IntKind.i64.wrap (((sl (surf h)).length : Int) - 1))
      · rw [hw] at hh
        have hh : (6 : Int) = R := hh
        subst hh
        repeat' (first | refine wk3 ?_ | (refine wk2 ?_ ?_ <;> intro _) | refine wk4 ?_ | fail); all_goals (conv => whnf)
        all_goals first
          | exact ret_int rfl
          | (exfalso; simp_all; done)
      · rw [hw, if_pos rfl] at hh
        by_cases hxy : x = y
        · rw [if_pos (by rw [hxy])] at hh
          subst hh
          repeat' (first | refine wk3 ?_ | (refine wk2 ?_ ?_ <;> intro _) | refine wk4 ?_ | fail); all_goals (conv => whnf)
          all_goals first
            | exact ret_int rfl
            | (exfalso; simp_all; done)
        · rw [if_neg (fun c => hxy (by simpa using c.symm))] at hh
          repeat' (first | refine wk3 ?_ | (refine wk2 ?_ ?_ <;> intro _) | refine wk4 ?_ | fail); all_goals (conv => whnf)
          all_goals first
            | exact Done.mk ⟨(k + 1 + 1, _), [], rfl, kps, kps, ⟨W_succ (k := k + 1) (by omega), hlt, hh⟩, by dsimp only; omega⟩
            | (exfalso; simp_all; done)
  · rw [List.drop_of_length_le (by omega), wkG] at hh
    repeat' (first | refine wk3 ?_ | (refine wk2 ?_ ?_ <;> intro _) | refine wk4 ?_ | fail); all_goals (conv => whnf)
    exact ret_int hh
theorem d164 {h : Hal} (hk : h.ok) : PCall Tryz.prog 119 [h.av] ⟨I h.err, []⟩ := by
  refine bs.pv (sx := nos) (one_ok (c63k hk) pt0_ok) Tryz.func119 (by kernel_rfl) (by kernel_rfl) rfl ?_
  repeat' (first | refine wk3 ?_ | (refine wk2 ?_ ?_ <;> intro _) | refine wk4 ?_ | fail); all_goals (conv => whnf)
  exact ret_int rfl
theorem d17 (h : Hal) (s : Stg) : PCall Tryz.prog 13 [.agg (stgL h s)] ⟨Bo (few3 h s), []⟩ := by
  have l1 := nl_length s.hs
  have l2 := nl_length s.dr
  have hk := one_ok (d80 h) pt0_ok
  unfold few3
  generalize few2 h = b at *
  by_cases c1 : s.hs.length ≤ 4 <;> by_cases c2 : s.dr.length ≤ 10 <;> cases b
  all_goals
    refine bs.pv (sx := nos) hk Tryz.func13 (by kernel_rfl) (by kernel_rfl) rfl ?_
    repeat' (first | refine wk3 ?_ | (refine wk2 ?_ ?_ <;> intro _) | refine wk4 ?_ | fail); all_goals (conv => whnf)
  all_goals first
    | exact ret_bool rfl
    | (refine ret_bool ?_; simp_all; done)
    | (refine ret_bool ?_; simp_all; omega)
    | (exfalso; simp_all; omega)

end Go.Proofs.YtdaliaafmcjikaaGreat
