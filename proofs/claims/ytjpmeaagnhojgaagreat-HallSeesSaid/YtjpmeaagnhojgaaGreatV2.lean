/- A part of the proof: lemmas. -/
import Derived.Test.YtjpmeaagnhojgaaGreatV1
set_option linter.unusedVariables false
set_option linter.unusedSimpArgs false
namespace Go.Proofs.YtjpmeaagnhojgaaGreat
open Go Go.Sx

theorem small_eq (x : Int) : small x 5000 = within x (-5000) 5000 := rfl
theorem hasPt_eq {h : Hal} (g : h.fine) {x y z : Int} (hx : -5000 ≤ x ∧ x ≤ 5000) (hy : -5000 ≤ y ∧ y ≤ 5000) : hasPt h x y z 1 = isInsR h ⟨x, y, z, 1⟩ := by
  unfold isInsR hasPt
  rw [inPlan_eq g.st z ⟨by omega, by omega, by omega, by omega⟩]
theorem sea_pt {h : Hal} (g : h.fine) {i : Nat} (hi : i < h.ss.length) : PtH ⟨h.ss[i].x, h.ss[i].y, h.ss[i].z, 1⟩ := by
  have := g.sea i hi
  unfold sErrR at this
  split at this
  · split at this
    · cases this
    · split at this
      · rename_i hp
        unfold plc at hp
        simp only [Bool.and_eq_true, within_iff] at hp
        obtain ⟨⟨h1, h2⟩, h3⟩ := hp
        exact ⟨⟨by dsimp only; omega, by dsimp only; omega, by dsimp only; omega, by dsimp only; omega⟩, by dsimp only; omega⟩
      · cases this
  · cases this
theorem seeL_congr {f f' : Pt → Pt → Bool} {x y z : Int} : ∀ (l : List Sea) (i : Nat), (∀ c ∈ l, f ⟨x, y, z, 1⟩ ⟨c.x, c.y, c.z, 1⟩ = f' ⟨x, y, z, 1⟩ ⟨c.x, c.y, c.z, 1⟩) → seeL f x y z i l = seeL f' x y z i l
  | [], _, _ => rfl
  | c :: l, i, h => by rw [seeL, seeL, h c (by simp), seeL_congr l (i + 1) fun d hd => h d (by simp [hd])]
set_option maxRecDepth 100000 in
set_option maxHeartbeats 16000000 in
theorem c68e {h : Hal} (hk : h.ok) {s : Stg} (hs : s.few) {x y z : Int} (h0 : seeE h s x y z ≠ 0) : PCall Tryz.prog 68 [h.av, s.av, P3 x y z] ⟨.tup [.isl 1 (nl []), I (seeE h s x y z)], []⟩ := by
  have a83 := c83 hk hs
  have a160 := c160 hk.f x y z
  refine PCall.freeze (res := ⟨.tup [.nils, I (seeE h s x y z)], []⟩) ?_ ⟨rfl, ⟨rfl, rfl⟩, trivial⟩
  unfold seeE at h0 ⊢
  by_cases h1 : serr h s = 0
  · rw [if_pos h1] at h0 ⊢
    rw [h1] at a83
    have hk0 : PCOK Tryz.prog (ins 83 (one [h.av, s.av] ⟨.tup [.agg (stgL h s), I 0], []⟩) (ins 160 (one [h.av, P3 x y z] ⟨I (plErr h x y z), []⟩) kG4)) := one_ok a83 (one_ok a160 kG4_ok)
    generalize plErr h x y z = E at *
    refine bs.pv (sx := nos) hk0 Tryz.func68 (by kernel_rfl) (by kernel_rfl) rfl ?_
    repeat' (first | refine wk3 ?_ | (refine wk2 ?_ ?_ <;> intro _) | refine wk4 ?_ | fail); all_goals (conv => whnf)
    exact ret_of rfl rfl
  · rw [if_neg h1] at h0 ⊢
    have hk0 : PCOK Tryz.prog (ins 83 (one [h.av, s.av] ⟨.tup [.agg (stgL h s), I (serr h s)], []⟩) kG4) := one_ok a83 kG4_ok
    generalize serr h s = E at *
    refine bs.pv (sx := nos) hk0 Tryz.func68 (by kernel_rfl) (by kernel_rfl) rfl ?_
    repeat' (first | refine wk3 ?_ | (refine wk2 ?_ ?_ <;> intro _) | refine wk4 ?_ | fail); all_goals (conv => whnf)
    exact ret_of rfl rfl

/-! ### The reference -/
noncomputable abbrev frR (h : Hal) (s : Stg) : List AV → Option PRes := famA (fun w : Pt × Pt => PtR w.1 ∧ PtR w.2) (fun w => [h.av, s.av, wayA w.1 w.2]) (fun w => ⟨Bo (freeR h s w.1 w.2), []⟩)
theorem frR_hit {h : Hal} {s : Stg} {p q : Pt} (hp : PtR p) (hq : PtR q) : frR h s [h.av, s.av, wayA p q] = some ⟨Bo (freeR h s p q), []⟩ :=
  famA_hit (p := fun w : Pt × Pt => PtR w.1 ∧ PtR w.2) (g := fun w => [h.av, s.av, wayA w.1 w.2]) (r := fun w => ⟨Bo (freeR h s w.1 w.2), []⟩) (k := (p, q)) (fun j hj => by
    obtain ⟨⟨a, b, c, d⟩, ⟨x, y, z, w⟩⟩ := j
    obtain ⟨a', b', c', d'⟩ := p
    obtain ⟨x', y', z', w'⟩ := q
    simp only [List.cons.injEq, AV.agg.injEq, AV.int.injEq, true_and, and_true] at hj
    obtain ⟨rfl, rfl, rfl, rfl, rfl, rfl, rfl, rfl⟩ := hj
    rfl) ⟨hp, hq⟩
set_option maxRecDepth 100000 in
set_option maxHeartbeats 16000000 in
theorem c70 {h : Hal} {s : Stg} (g : Sit h s) {x y z : Int} (hp : PtR ⟨x, y, z, 1⟩) : PCall Tryz.prog 70 [h.av, s.av, P3 x y z] ⟨.isl 1 (nl (seeL (freeR h s) x y z 0 h.ss)), []⟩ := by
  have hk0 : PCOK Tryz.prog (ins 39 (frR h s) (ins 36 r36 pt0)) := famA_ok (fun w hw => c39 g hw.1 hw.2) (ins_ok (fun a res hr => by unfold r36 at hr; split at hr <;> cases hr; exact c36 _ _ _) pt0_ok)
  have hlen := seeL_len (freeR h s) x y z h.ss 0
  have f5 := g.ok.f.2.2.2.2.1
  have l5 := se_length h.ss
  generalize hL : seeL (freeR h s) x y z 0 h.ss = L at *
  refine PCall.freeze (res := lstR L fun v => v) ?_ (by
    cases L with
    | nil => exact rfl
    | cons a l => exact ⟨rfl, rfl, rfl⟩)
  refine bs.pv (sx := nos) hk0 Tryz.func70 (by kernel_rfl) (by kernel_rfl) (by cases L <;> rfl) ?_
  repeat' (first | refine wk3 ?_ | (refine wk2 ?_ ?_ <;> intro _) | refine wk4 ?_ | fail); all_goals (conv => whnf)
  refine loopV (S := Nat × Int × Nat × Nat × List (List AV) × List Int) (fun t => h.ss.length - t.1) (fun t => [(3, .ptr 0 0 0), (4, .ptr 1 0 0), (5, .ptr 2 0 0), (7, gv 3 t.2.2.1 t.2.2.2.1), (8, I t.2.1)]) (fun t => gz 3 1 t.2.2.1 t.2.2.2.2.1 [(2, .row 3 [[I x, I y, I z]] true false), (1, .row 2 [s.cells] true false), (0, .row 9 [h.cells] true false)]) 3 4
    (fun t => t.2.1 = t.1 ∧ t.1 ≤ h.ss.length ∧ t.2.2.2.1 = t.2.2.2.2.1.length ∧ t.2.2.2.2.1 = nl t.2.2.2.2.2 ∧ (t.2.2.1 = 0 ↔ t.2.2.2.2.2 = []) ∧ t.2.2.2.2.2.length ≤ t.1 ∧ t.2.2.2.2.2 ++ seeL (freeR h s) x y z t.1 (h.ss.drop t.1) = L) (0, 0, 0, 0, [], []) ⟨rfl, Nat.zero_le _, rfl, rfl, by simp, Nat.zero_le _, hL⟩ (Nat.le_refl _) [] rfl (kps) (kps) ?_
  clear hL
  rintro ⟨k, i, m, len, els, acc⟩ ⟨hi, hkk, hlen2, hels, hm, hacc, hh⟩
  dsimp only at hi hkk hlen2 hels hm hacc hh ⊢
  subst hi
  refine bs.av (sx := nos) hk0 ?_
  have e4 : els.length < 2000 := by rw [hels, nl_length]; omega
  by_cases hlt : k < h.ss.length
  · have e1 := se_get hlt
    have hq := sea_pt g.fine hlt
    rw [List.drop_eq_getElem_cons hlt, seeL] at hh
    generalize h.ss[k] = c at *
    have hf := frR_hit (h := h) (s := s) (p := ⟨x, y, z, 1⟩) (q := ⟨c.x, c.y, c.z, 1⟩) hp hq.r
    have hpe : plcEq c x y z = (decide (c.x = x) && (decide (c.y = y) && (decide (c.z = z) && true))) := rfl
    generalize freeR h s ⟨x, y, z, 1⟩ ⟨c.x, c.y, c.z, 1⟩ = fr at *
    rw [hpe] at hh
    clear hpe g hp hq
    generalize hb : (decide (c.x = x) && (decide (c.y = y) && (decide (c.z = z) && true)) || fr) = b at hh
    cases b with
    | true =>
      rw [if_pos rfl] at hh
      cases m with
      | zero =>
        have h0 : acc = [] := hm.1 rfl
        subst h0
        repeat' (first | refine wk3 ?_ | (refine wk2 ?_ ?_ <;> intro _) | refine wk4 ?_ | fail); all_goals (conv => whnf)
        clear hf e1 hk0
        all_goals first
          | (exfalso; clear hh; simp_all; done)
          | exact Done.mk ⟨(k + 1, _, 1, _, _, [(k : Int)]), [(3, 19)], rfl, kps, kps, ⟨W_succ (by omega), hlt, rfl, rfl, by simp, by dsimp only [List.length_cons, List.length_nil]; omega, hh⟩, by dsimp only; omega⟩
      | succ m =>
        repeat' (first | refine wk3 ?_ | (refine wk2 ?_ ?_ <;> intro _) | refine wk4 ?_ | fail); all_goals (conv => whnf)
        clear hf e1 hk0
        all_goals first
          | (exfalso; clear hh; simp_all; done)
          | exact Done.mk ⟨(k + 1, _, m + 2, _, _, acc ++ [(k : Int)]), [(3, 19)], rfl, kps, kps, ⟨W_succ (by omega), hlt, by exact List.length_append.symm, by show _ = nl _; rw [nl_append, ← hels]; rfl, by simp, by simp; omega, by rw [List.append_assoc]; exact hh⟩, by dsimp only; omega⟩
    | false =>
      simp only [Bool.false_eq_true, if_false] at hh
      cases m with
      | zero =>
        have h0 : acc = [] := hm.1 rfl
        subst h0
        repeat' (first | refine wk3 ?_ | (refine wk2 ?_ ?_ <;> intro _) | refine wk4 ?_ | fail); all_goals (conv => whnf)
        clear hf e1 hk0
        all_goals first
          | (exfalso; clear hh; simp_all; done)
          | exact Done.mk ⟨(k + 1, _, 0, len, els, []), [], rfl, kps, kps, ⟨W_succ (by omega), hlt, hlen2, hels, hm, by simp, hh⟩, by dsimp only; omega⟩
      | succ m =>
        repeat' (first | refine wk3 ?_ | (refine wk2 ?_ ?_ <;> intro _) | refine wk4 ?_ | fail); all_goals (conv => whnf)
        clear hf e1 hk0
        all_goals first
          | (exfalso; clear hh; simp_all; done)
          | exact Done.mk ⟨(k + 1, _, m + 1, len, els, acc), [(3, 3)], rfl, kps, kps, ⟨W_succ (by omega), hlt, hlen2, hels, hm, by dsimp only; omega, hh⟩, by dsimp only; omega⟩
  · rw [List.drop_of_length_le (by omega), seeL, List.append_nil] at hh
    subst hh
    cases m with
    | zero =>
      have h0 : acc = [] := hm.1 rfl
      subst h0
      repeat' (first | refine wk3 ?_ | (refine wk2 ?_ ?_ <;> intro _) | refine wk4 ?_ | fail); all_goals (conv => whnf)
      exact ret_of rfl rfl
    | succ m =>
      subst hels
      subst hlen2
      cases acc with
      | nil => have := hm.2 rfl; omega
      | cons a l =>
        repeat' (first | refine wk3 ?_ | (refine wk2 ?_ ?_ <;> intro _) | refine wk4 ?_ | fail); all_goals (conv => whnf)
        exact ret_rows [3] rfl rfl rfl

theorem plErr_cases {h : Hal} (g : h.fine) (x y z : Int) : plErr h x y z = if within x (-5000) 5000 && within y (-5000) 5000 && within z (-5000) 5000 then (if isInsR h ⟨x, y, z, 1⟩ then 0 else 24) else 2 := by
  unfold plErr
  rw [small_eq, small_eq, small_eq]
  by_cases hw : (within x (-5000) 5000 && within y (-5000) 5000 && within z (-5000) 5000) = true
  · rw [if_pos hw, if_pos hw]
    simp only [Bool.and_eq_true, within_iff] at hw
    rw [hasPt_eq g hw.1.1 hw.1.2]
  · rw [if_neg hw, if_neg hw]
set_option maxRecDepth 100000 in
set_option maxHeartbeats 16000000 in
theorem c16 (h : Hal) (s : Stg) (x y z : Int) : PCall Tryz.prog 16 [h.av, s.av, P3 x y z] ⟨Bo true, []⟩ := by
  by_cases hb : (fewB h && shortB s) = true
  · rw [Bool.and_eq_true] at hb
    have hk := few_ok hb.1
    have hs := short_few hb.2
    obtain ⟨hb1, hb2⟩ := hb
    have a20 := c20 hk hs
    have hL : PCOK Tryz.prog (ins 36 r36 (ins 30 r30 (kLs h s))) := ins_ok (fun a res hr => by unfold r36 at hr; split at hr <;> cases hr; exact c36 _ _ _) (ins_ok (fun a res hr => by unfold r30 at hr; split at hr <;> cases hr; exact c30 _ _ _) (kLs_ok hk hs))
    by_cases h1 : serr h s = 0
    · have g := sit_of hk hs h1
      have e1 : seeE h s x y z = plErr h x y z := by unfold seeE; rw [if_pos h1]
      have a52 := c52 hk.f g.fine.le.2.2.1 (nz_of g.fine.st) ⟨x, y, z, 1⟩
      have hpl := plErr_cases g.fine x y z
      rw [h1] at a20
      by_cases h2 : plErr h x y z = 0
      · have a68 := c68o hk hs (x := x) (y := y) (z := z) (by rw [e1]; exact h2)
        have hw : (within x (-5000) 5000 && within y (-5000) 5000 && within z (-5000) 5000) = true ∧ isInsR h ⟨x, y, z, 1⟩ = true := by
          rw [h2] at hpl
          split at hpl
          · rename_i h3
            split at hpl
            · rename_i h4; exact ⟨h3, h4⟩
            · cases hpl
          · cases hpl
        obtain ⟨hw1, hw2⟩ := hw
        have hw3 := hw1
        simp only [Bool.and_eq_true, within_iff] at hw3
        have hp : PtH ⟨x, y, z, 1⟩ := ⟨⟨by dsimp only; omega, by dsimp only; omega, by dsimp only; omega, by dsimp only; omega⟩, by dsimp only; omega⟩
        have a70 := c70 g hp.r
        have ec : seeL (freeP h s) x y z 0 h.ss = seeL (freeR h s) x y z 0 h.ss := seeL_congr h.ss 0 fun c hc => by
          obtain ⟨i, hi, rfl⟩ := List.mem_iff_getElem.1 hc
          exact free_eq g hp (sea_pt g.fine hi)
        rw [ec] at a68
        have hln := seeL_len (freeR h s) x y z h.ss 0
        have f5 := hk.f.2.2.2.2.1
        generalize seeL (freeR h s) x y z 0 h.ss = L at *
        have a69 := c69 (a := L) (b := L) (by omega) (by omega)
        rw [eqN_iff.2 rfl] at a69
        rw [hw2] at a52
        have h0 := one_ok a68 (one_ok a70 (one_ok a69 (one_ok a52 (one_ok a20 hL))))
        clear ec hpl e1 h2 a68 a70 a69 a52 a20 hp
        simp only [Bool.and_eq_true] at hw1
        obtain ⟨⟨w1, w2⟩, w3⟩ := hw1
        refine bs.pv (sx := nos) h0 Tryz.func16 (by kernel_rfl) (by kernel_rfl) rfl ?_
        repeat' (first | refine wk3 ?_ | (refine wk2 ?_ ?_ <;> intro _) | refine wk4 ?_ | fail); all_goals (conv => whnf)
        clear h0 hL g hk hs
        all_goals first
          | exact ret_bool rfl
          | (exfalso; simp_all; done)
          | exact ret_bool (by simp_all; done)
      · have a68 := c68e hk hs (x := x) (y := y) (z := z) (by rw [e1]; exact h2)
        rw [e1] at a68
        have h0 := one_ok a68 (one_ok a52 (one_ok a20 hL))
        rw [hpl] at h0 h2
        generalize isInsR h ⟨x, y, z, 1⟩ = b at *
        clear hpl e1 a68 a52 a20
        cases hw : (within x (-5000) 5000 && within y (-5000) 5000 && within z (-5000) 5000) with
        | true =>
          rw [hw, if_pos rfl] at h0 h2
          cases b with
          | true => exact absurd rfl h2
          | false =>
            simp only [Bool.false_eq_true, if_false] at h0
            simp only [Bool.and_eq_true] at hw
            obtain ⟨⟨w1, w2⟩, w3⟩ := hw
            refine bs.pv (sx := nos) h0 Tryz.func16 (by kernel_rfl) (by kernel_rfl) rfl ?_
            repeat' (first | refine wk3 ?_ | (refine wk2 ?_ ?_ <;> intro _) | refine wk4 ?_ | fail); all_goals (conv => whnf)
            clear h0 hL g hk hs
            all_goals first
              | exact ret_bool rfl
              | (exfalso; simp_all; done)
              | exact ret_bool (by simp_all; done)
        | false =>
          rw [hw] at h0
          simp only [Bool.false_eq_true, if_false] at h0
          refine bs.pv (sx := nos) h0 Tryz.func16 (by kernel_rfl) (by kernel_rfl) rfl ?_
          repeat' (first | refine wk3 ?_ | (refine wk2 ?_ ?_ <;> intro _) | refine wk4 ?_ | fail); all_goals (conv => whnf)
          clear h0 hL g hk hs
          all_goals first
            | exact ret_bool rfl
            | (exfalso; simp_all; done)
            | exact ret_bool (by simp_all; done)
    · have e1 : seeE h s x y z = serr h s := by unfold seeE; rw [if_neg h1]
      have a68 := c68e hk hs (x := x) (y := y) (z := z) (by rw [e1]; exact h1)
      rw [e1] at a68
      have h0 := one_ok a68 (one_ok a20 hL)
      generalize serr h s = E at *
      refine bs.pv (sx := nos) h0 Tryz.func16 (by kernel_rfl) (by kernel_rfl) rfl ?_
      repeat' (first | refine wk3 ?_ | (refine wk2 ?_ ?_ <;> intro _) | refine wk4 ?_ | fail); all_goals (conv => whnf)
      clear h0 hL a68 a20
      all_goals first
        | exact ret_bool rfl
        | (exfalso; simp_all; done)
        | exact ret_bool (by simp_all; done)
  · refine bs.pv (sx := nos) (kNs_ok h s) Tryz.func16 (by kernel_rfl) (by kernel_rfl) rfl ?_
    repeat' (first | refine wk1 ?_ | (refine wk2 ?_ ?_ <;> intro _) | refine wk4 ?_ | fail); all_goals (conv => whnf)
    all_goals first
      | exact ret_bool rfl
      | (exfalso; simp_all; done)
end Go.Proofs.YtjpmeaagnhojgaaGreat
