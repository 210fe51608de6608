/- A part of the proof: lemmas. -/
import Derived.Test.YtjpmeaagnhojgaaGreatE9
set_option linter.unusedVariables false
set_option linter.unusedSimpArgs false
namespace Go.Proofs.YtjpmeaagnhojgaaGreat
open Go Go.Sx

/-! ### The order of lists -/
theorem bef_nil (a : List Int) : bef a [] = false := by cases a <;> rfl
theorem bef_end {a b : List Int} {k : Nat} (h : a.length ≤ k ∨ b.length ≤ k) (ha : k ≤ a.length) (hb : k ≤ b.length) : bef (a.drop k) (b.drop k) = decide ((a.length : Int) < b.length) := by
  by_cases h1 : b.length ≤ k
  · rw [List.drop_of_length_le h1, bef_nil, decide_eq_false (by omega)]
  · have h2 : a.length ≤ k := by omega
    rw [List.drop_of_length_le h2, List.drop_eq_getElem_cons (show k < b.length by omega), decide_eq_true (by omega)]; rfl
set_option maxRecDepth 100000 in
set_option maxHeartbeats 4000000 in
theorem c27 {a b : List Int} (hl : a.length < 1000000) (hb : b.length < 1000000) : PCall Tryz.prog 27 [.isl 1 (nl a), .isl 1 (nl b)] ⟨Bo (bef a b), []⟩ := by
  have l1 := nl_length a
  have l2 := nl_length b
  refine bs.pv (sx := nos) pt0_ok Tryz.func27 (by kernel_rfl) (by kernel_rfl) rfl ?_
  repeat' (first | refine wk3 ?_ | (refine wk2 ?_ ?_ <;> intro _) | refine wk4 ?_ | fail); all_goals (conv => whnf)
  refine loopV (S := Nat × Int) (fun t => a.length - t.1) (fun t => [(0, .isl 1 (nl a)), (1, .isl 1 (nl b)), (5, I t.2)]) (fun _ => []) 0 0 (fun t => t.2 = t.1 ∧ t.1 ≤ a.length ∧ t.1 ≤ b.length ∧ bef (a.drop t.1) (b.drop t.1) = bef a b) (0, 0) ⟨rfl, Nat.zero_le _, Nat.zero_le _, rfl⟩ (Nat.le_refl _) [] rfl (kps) (kps) ?_
  rintro ⟨k, i⟩ ⟨hi, hk, hk2, hh⟩
  dsimp only at hi hk hk2 hh ⊢
  subst hi
  generalize bef a b = B at *
  refine bs.av (sx := nos) pt0_ok ?_
  by_cases hlt : k < a.length ∧ k < b.length
  · obtain ⟨g1, g2⟩ := hlt
    have e1 := nl_get g1
    have e2 := nl_get g2
    rw [List.drop_eq_getElem_cons g1, List.drop_eq_getElem_cons g2, bef] at hh
    by_cases he : a[k] = b[k]
    · rw [if_pos he] at hh
      repeat' (first | refine wk3 ?_ | (refine wk2 ?_ ?_ <;> intro _) | refine wk4 ?_ | fail); all_goals (conv => whnf)
      exact Done.mk ⟨(k + 1, _), [], rfl, kps, kps, ⟨W_succ (by omega), g1, g2, hh⟩, by dsimp only; omega⟩
    · rw [if_neg he] at hh
      repeat' (first | refine wk3 ?_ | (refine wk2 ?_ ?_ <;> intro _) | refine wk4 ?_ | fail); all_goals (conv => whnf)
      exact ret_bool hh
  · rw [bef_end (by omega) hk hk2] at hh
    by_cases g1 : k < a.length
    · have g2 : ¬ k < b.length := by omega
      repeat' (first | refine wk3 ?_ | (refine wk2 ?_ ?_ <;> intro _) | refine wk4 ?_ | fail); all_goals (conv => whnf)
      exact ret_bool (by show decide (((nl a).length : Int) < (nl b).length) = B; rw [← hh, l1, l2])
    repeat' (first | refine wk3 ?_ | (refine wk2 ?_ ?_ <;> intro _) | refine wk4 ?_ | fail); all_goals (conv => whnf)
    all_goals exact ret_bool (by show decide (((nl a).length : Int) < (nl b).length) = B; rw [← hh, l1, l2])
theorem hasN_eq (d : List Int) (n : Int) : hasN d n = d.contains n := by
  rw [Bool.eq_iff_iff]
  simp [hasN, List.any_eq_true]
theorem flags_take {h : Hal} {d : List Int} {k : Nat} (hk : k < h.ws.length) : (flags 0 h.ws d).take (k + 1) = (flags 0 h.ws d).take k ++ [if hasN d k then 1 else 0] := by
  have key : ∀ (l : List Wal) (i k : Nat) (hk : k < (flags i l d).length), (flags i l d)[k] = if d.contains ((i + k : Nat) : Int) then 1 else 0 := by
    intro l
    induction l with
    | nil => intro i k hk; simp [flags] at hk
    | cons w l ih =>
      intro i k hk
      cases k with
      | zero => rfl
      | succ k =>
        simp only [flags, List.getElem_cons_succ]
        rw [ih (i + 1) k (by simpa [flags] using hk)]
        have : i + 1 + k = i + (k + 1) := by omega
        rw [this]
  have hk' : k < (flags 0 h.ws d).length := by rw [flags_len]; exact hk
  rw [List.take_succ_eq_append_getElem hk', key _ 0 k hk', hasN_eq]
  simp
noncomputable abbrev atT (h : Hal) : List AV → Option PRes := famA (fun _ : Int => True) (fun n => [h.av, I n]) (fun n => ⟨.tup [(setAV h n).av, I (setAE h n)], []⟩)
theorem at_hit {h : Hal} (n : Int) : atT h [h.av, I n] = some ⟨.tup [(setAV h n).av, I (setAE h n)], []⟩ :=
  famA_hit (p := fun _ : Int => True) (g := fun n => [h.av, I n]) (r := fun n => ⟨.tup [(setAV h n).av, I (setAE h n)], []⟩) (k := n) (fun j hj => by
    simp only [List.cons.injEq, AV.int.injEq, true_and, and_true] at hj
    rw [hj]) trivial
noncomputable abbrev befT : List AV → Option PRes := famA (fun p : List Int × List Int => p.1.length < 1000000 ∧ p.2.length < 1000000) (fun p => [.isl 1 (nl p.1), .isl 1 (nl p.2)]) (fun p => ⟨Bo (bef p.1 p.2), []⟩)
theorem bef_hit {a b : List Int} (ha : a.length < 1000000) (hb : b.length < 1000000) : befT [.isl 1 (nl a), .isl 1 (nl b)] = some ⟨Bo (bef a b), []⟩ :=
  famA_hit (p := fun p : List Int × List Int => p.1.length < 1000000 ∧ p.2.length < 1000000) (g := fun p => [.isl 1 (nl p.1), .isl 1 (nl p.2)]) (r := fun p => ⟨Bo (bef p.1 p.2), []⟩) (k := (a, b)) (fun j hj => by
    simp only [List.cons.injEq, AV.isl.injEq, true_and, and_true] at hj
    rw [nl_inj hj.1, nl_inj hj.2]) ⟨ha, hb⟩
noncomputable abbrev hasT : List AV → Option PRes := famA (fun p : List Int × Int => p.1.length < 1000000) (fun p => [.isl 1 (nl p.1), I p.2]) (fun p => ⟨Bo (hasN p.1 p.2), []⟩)
theorem has_hit {a : List Int} (n : Int) (ha : a.length < 1000000) : hasT [.isl 1 (nl a), I n] = some ⟨Bo (hasN a n), []⟩ :=
  famA_hit (p := fun p : List Int × Int => p.1.length < 1000000) (g := fun p => [.isl 1 (nl p.1), I p.2]) (r := fun p => ⟨Bo (hasN p.1 p.2), []⟩) (k := (a, n)) (fun j hj => by
    simp only [List.cons.injEq, AV.isl.injEq, AV.int.injEq, true_and, and_true] at hj
    rw [nl_inj hj.1, hj.2]) ha
theorem setD_drl (h : Hal) (n : Int) : (setD h n).dr.length ≤ h.ws.length := by
  have key : ∀ (l : List Wal) (i : Nat), (drW i l n).1.length ≤ l.length := by
    intro l
    induction l with
    | nil => intro i; simp [drW]
    | cons w l ih =>
      intro i
      have := ih (i + 1)
      rw [drW]
      split
      · simp only [List.length_cons]; omega
      · dsimp only
        split <;> simp only [List.length_cons] <;> omega
  exact key h.ws 0
set_option maxRecDepth 100000 in
set_option maxHeartbeats 16000000 in
theorem c3 (h : Hal) (s : Stg) : PCall Tryz.prog 3 [h.av, s.av] ⟨Bo true, []⟩ := by
  by_cases hb : (fewB h && shortB s) = true
  · rw [Bool.and_eq_true] at hb
    have hk := few_ok hb.1
    have hs := short_few hb.2
    obtain ⟨hb1, hb2⟩ := hb
    have hL := kLs_ok hk hs
    have a20 := c20 hk hs
    by_cases hz : serr h s = 0
    · have gs := sit_of hk hs hz
      have g := gs.fine
      have he : h.err = 0 := by
        unfold serr at hz
        split at hz
        · assumption
        · rename_i hx; exact absurd hz hx
      rw [hz] at a20
      have a21 := c21 hk
      have h0 := famA_ok (f0 := 23) (p := fun _ : Int => True) (g := fun n => [h.av, I n]) (r := fun n => ⟨.tup [(setAV h n).av, I (setAE h n)], []⟩) (fun n _ => c23f hk n) (famA_ok (f0 := 27) (p := fun p : List Int × List Int => p.1.length < 1000000 ∧ p.2.length < 1000000) (g := fun p => [.isl 1 (nl p.1), .isl 1 (nl p.2)]) (r := fun p => ⟨Bo (bef p.1 p.2), []⟩) (fun p hp => c27 hp.1 hp.2)
        (famA_ok (f0 := 26) (p := fun p : List Int × Int => p.1.length < 1000000) (g := fun p => [.isl 1 (nl p.1), I p.2]) (r := fun p => ⟨Bo (hasN p.1 p.2), []⟩) (fun p hp => c26 hp p.2) (sameT_ok (one_ok a20 (one_ok a21 hL)))))
      by_cases hc : cntE h = 0
      · obtain ⟨b1, b2, b3⟩ := cntV_bd hc
        rw [hc, b1] at h0
        by_cases h64 : nset h ≤ 64
        · have hv := numS_bd gs.set
          have hp := pos_hgs g
          refine bs.pv (sx := fun f => Nat.beq f 25) h0 Tryz.func3 (by kernel_rfl) (by kernel_rfl) rfl ?_
          repeat' (first | refine wk3 ?_ | (refine wk2 ?_ ?_ <;> intro _) | refine wk4 ?_ | fail); all_goals (conv => whnf)
          · exact ret_bool rfl
          · exact ret_bool rfl
          refine loopV (S := Nat × Int × Int × Nat × List (List AV) × List Int) (fun t => (nset h).toNat - t.1) (fun t => [(2, .ptr 0 0 0), (3, .ptr 1 0 0), (5, I (nset h)), (7, I t.2.2.1), (8, gv 2 t.1 t.2.2.2.1), (9, I t.2.1)]) (fun t => gz 2 1 t.1 t.2.2.2.2.1 [(1, .row 2 [s.cells] true false), (0, .row 9 [h.cells] true false)]) 2 3
            (fun t => t.2.1 = t.1 ∧ (t.1 : Int) ≤ nset h ∧ t.2.2.1 = (if numS h s < t.1 then 1 else 0) ∧ t.2.2.2.1 = t.2.2.2.2.1.length ∧ t.2.2.2.2.1 = nl t.2.2.2.2.2 ∧ (0 < t.1 → t.2.2.2.2.2 = ownS h (setD h ((t.1 : Int) - 1))) ∧ t.2.2.2.2.2.length < 5000) (0, 0, 0, 0, [], []) ⟨rfl, by show (0 : Int) ≤ _; omega, by rw [if_neg (by show ¬ _ < ((0 : Nat) : Int); omega)], rfl, rfl, fun h => by simp at h, by show 0 < 5000; omega⟩ (Nat.le_refl _) [] rfl (kps) (kps) ?_
          rintro ⟨k, i, fd, len, els, bl⟩ ⟨hi, hkk, hfd, hl, hels, hbl, hbn⟩
          dsimp only at hi hkk hfd hl hels hbl hbn ⊢
          subst hi
          refine bs.av (sx := fun f => Nat.beq f 25) h0 ?_
          by_cases hlt : (k : Int) < nset h
          · have e23 := at_hit (h := h) (k : Int)
            have hAE : setAE h k = 0 := by unfold setAE; rw [if_pos hc, if_pos (by rw [within_iff]; omega)]
            have hAV : setAV h k = setD h k := by unfold setAV; rw [if_pos hAE]
            rw [hAE, hAV] at e23
            have hxo := setD_ok hp (k : Int)
            have hxf := setD_few hk (k : Int)
            have e24 := same_hit hxf hs
            have hx1 := nl_length (setD h k).hs
            have hx2 := nl_length (setD h k).dr
            have hx3 := hxo.len
            have hx4 := setD_drl h k
            have hx5 := ca_length h.ks
            have hx6 := wa_length h.ws
            have hsame : sameS (setD h k) s = decide ((k : Int) = numS h s) := by
              rw [Bool.eq_iff_iff, sameS_iff, setD_iff hp gs.set (by omega) hlt, decide_eq_true_eq]
            rw [hsame] at e24
            have hnext : 0 < k → bef bl (ownS h (setD h k)) = true := fun hk0 => by
              rw [hbl hk0]
              have := bef_next hp (n := (k : Int) - 1) (by omega) (by omega)
              rw [show (k : Int) - 1 + 1 = k by omega] at this
              exact this
            have hown : ownS h (setD h k) = (setD h k).hs ++ flags 0 h.ws (setD h k).dr := rfl
            generalize hx : setD h k = x at *
            have f3 := hk.f.2.2.1
            have hle := g.le
            have hown2 : (ownS h x).length < 5000 := by rw [hown, List.length_append, flags_len]; have := hxf.1; omega
            by_cases hn : (k : Int) = numS h s
            · rw [decide_eq_true hn] at e24
              cases k with
              | zero =>
                repeat' (first | refine wk3 ?_ | (refine wk2 ?_ ?_ <;> intro _) | refine wk4 ?_ | fail); all_goals (conv => whnf)
                refine SCt.pc (c25 x.hs (by have := hxf.1; omega)) rfl ?_
                conv => whnf
                refine loopV (S := Nat × Int × Nat × List (List AV)) (fun t => h.ws.length - t.1) (fun t => [(2, .ptr 0 0 0), (3, .ptr 1 0 0), (5, I (nset h)), (7, I (IntKind.i64.wrap (fd + 1))), (8, .nils), (9, I ((0 : Nat) : Int)), (10, .ptr 3 0 0), (12, .asl (nm2 4 5 t.1) 0 t.2.2.1), (13, I t.2.1)]) (fun t => [(nm2 4 5 t.1, .row 1 t.2.2.2 true true), (3, .row 2 [x.cells] true false), (1, .row 2 [s.cells] true false), (0, .row 9 [h.cells] true false)]) 5 6
                  (fun t => t.2.1 = t.1 ∧ t.1 ≤ h.ws.length ∧ t.2.2.1 = t.2.2.2.length ∧ t.2.2.2 = nl (x.hs ++ (flags 0 h.ws x.dr).take t.1)) (0, 0, (nl x.hs).length, nl x.hs) ⟨rfl, Nat.zero_le _, rfl, by simp⟩ (Nat.le_refl _) [] rfl (kps) (kps) ?_
                rintro ⟨j, i2, len2, es2⟩ ⟨hi2, hj, hl2, he2⟩
                dsimp only at hi2 hj hl2 he2 ⊢
                subst hi2
                refine bs.av (sx := fun f => Nat.beq f 25) h0 ?_
                have e4 : es2.length < 4000 := by rw [he2, nl_length, List.length_append, List.length_take]; have := hxf.1; omega
                by_cases hjl : j < h.ws.length
                · have e26 := has_hit (a := x.dr) (j : Int) (by have := hxf.2; omega)
                  have e3 := flags_take (h := h) (d := x.dr) hjl
                  cases hb : hasN x.dr (j : Int) with
                  | true =>
                    rw [hb] at e26
                    have e5 : (if hasN x.dr (j : Int) = true then (1 : Int) else 0) = 1 := by rw [hb]; rfl
                    rw [e5] at e3
                    cases j with
                    | zero =>
                      repeat' (first | refine wk3 ?_ | (refine wk2 ?_ ?_ <;> intro _) | refine wk4 ?_ | fail); all_goals (conv => whnf)
                      exact Done.mk ⟨(1, _, _, _), [(5, 7)], rfl, kps, kps, ⟨W_succ (k := 0) (by omega), hjl, by exact List.length_append.symm, by show _ = nl _; rw [e3, ← List.append_assoc, nl_append, ← he2]; rfl⟩, by dsimp only; omega⟩
                    | succ j =>
                      repeat' (first | refine wk3 ?_ | (refine wk2 ?_ ?_ <;> intro _) | refine wk4 ?_ | fail); all_goals (conv => whnf)
                      exact Done.mk ⟨(j + 1 + 1, _, _, _), [(5, 7)], rfl, kps, kps, ⟨W_succ (k := j + 1) (by omega), hjl, by exact List.length_append.symm, by show _ = nl _; rw [e3, ← List.append_assoc, nl_append, ← he2]; rfl⟩, by dsimp only; omega⟩
                  | false =>
                    rw [hb] at e26
                    have e5 : (if hasN x.dr (j : Int) = true then (1 : Int) else 0) = 0 := by rw [hb]; rfl
                    rw [e5] at e3
                    cases j with
                    | zero =>
                      repeat' (first | refine wk3 ?_ | (refine wk2 ?_ ?_ <;> intro _) | refine wk4 ?_ | fail); all_goals (conv => whnf)
                      exact Done.mk ⟨(1, _, _, _), [(5, 7)], rfl, kps, kps, ⟨W_succ (k := 0) (by omega), hjl, by exact List.length_append.symm, by show _ = nl _; rw [e3, ← List.append_assoc, nl_append, ← he2]; rfl⟩, by dsimp only; omega⟩
                    | succ j =>
                      repeat' (first | refine wk3 ?_ | (refine wk2 ?_ ?_ <;> intro _) | refine wk4 ?_ | fail); all_goals (conv => whnf)
                      exact Done.mk ⟨(j + 1 + 1, _, _, _), [(5, 7)], rfl, kps, kps, ⟨W_succ (k := j + 1) (by omega), hjl, by exact List.length_append.symm, by show _ = nl _; rw [e3, ← List.append_assoc, nl_append, ← he2]; rfl⟩, by dsimp only; omega⟩
                · have he3 : es2 = nl (ownS h x) := by rw [he2, hown, List.take_of_length_le (by rw [flags_len]; omega)]
                  clear he2
                  cases j with
                  | zero => exfalso; omega
                  | succ j =>
                  repeat' (first | refine wk3 ?_ | (refine wk2 ?_ ?_ <;> intro _) | refine wk4 ?_ | fail); all_goals (conv => whnf)
                  refine Done.mk ⟨(0 + 1, _, _, _, _, ownS h x), [(2, 5)], rfl, kps, kps, ⟨W_succ (k := 0) (by omega), by omega, ?_, hl2, he3, fun _ => by rw [show (((0 + 1 : Nat) : Int) - 1) = ((0 : Nat) : Int) by omega, hx], hown2⟩, by dsimp only; omega⟩
                  · show IntKind.i64.wrap (fd + 1) = _
                    rw [hfd, if_neg (by omega), if_pos (by omega)]; rfl
              | succ k =>
                repeat' (first | refine wk3 ?_ | (refine wk2 ?_ ?_ <;> intro _) | refine wk4 ?_ | fail); all_goals (conv => whnf)
                refine SCt.pc (c25 x.hs (by have := hxf.1; omega)) rfl ?_
                conv => whnf
                refine loopV (S := Nat × Int × Nat × List (List AV)) (fun t => h.ws.length - t.1) (fun t => [(2, .ptr 0 0 0), (3, .ptr 1 0 0), (5, I (nset h)), (7, I (IntKind.i64.wrap (fd + 1))), (8, .asl 2 0 len), (9, I (((k + 1) : Nat) : Int)), (10, .ptr 3 0 0), (12, .asl (nm2 4 5 t.1) 0 t.2.2.1), (13, I t.2.1)]) (fun t => [(nm2 4 5 t.1, .row 1 t.2.2.2 true true), (3, .row 2 [x.cells] true false), (1, .row 2 [s.cells] true false), (0, .row 9 [h.cells] true false), (2, .row 1 els true true)]) 5 6
                  (fun t => t.2.1 = t.1 ∧ t.1 ≤ h.ws.length ∧ t.2.2.1 = t.2.2.2.length ∧ t.2.2.2 = nl (x.hs ++ (flags 0 h.ws x.dr).take t.1)) (0, 0, (nl x.hs).length, nl x.hs) ⟨rfl, Nat.zero_le _, rfl, by simp⟩ (Nat.le_refl _) [] rfl (kps) (kps) ?_
                rintro ⟨j, i2, len2, es2⟩ ⟨hi2, hj, hl2, he2⟩
                dsimp only at hi2 hj hl2 he2 ⊢
                subst hi2
                refine bs.av (sx := fun f => Nat.beq f 25) h0 ?_
                have e4 : es2.length < 4000 := by rw [he2, nl_length, List.length_append, List.length_take]; have := hxf.1; omega
                by_cases hjl : j < h.ws.length
                · have e26 := has_hit (a := x.dr) (j : Int) (by have := hxf.2; omega)
                  have e3 := flags_take (h := h) (d := x.dr) hjl
                  cases hb : hasN x.dr (j : Int) with
                  | true =>
                    rw [hb] at e26
                    have e5 : (if hasN x.dr (j : Int) = true then (1 : Int) else 0) = 1 := by rw [hb]; rfl
                    rw [e5] at e3
                    cases j with
                    | zero =>
                      repeat' (first | refine wk3 ?_ | (refine wk2 ?_ ?_ <;> intro _) | refine wk4 ?_ | fail); all_goals (conv => whnf)
                      exact Done.mk ⟨(1, _, _, _), [(5, 7)], rfl, kps, kps, ⟨W_succ (k := 0) (by omega), hjl, by exact List.length_append.symm, by show _ = nl _; rw [e3, ← List.append_assoc, nl_append, ← he2]; rfl⟩, by dsimp only; omega⟩
                    | succ j =>
                      repeat' (first | refine wk3 ?_ | (refine wk2 ?_ ?_ <;> intro _) | refine wk4 ?_ | fail); all_goals (conv => whnf)
                      exact Done.mk ⟨(j + 1 + 1, _, _, _), [(5, 7)], rfl, kps, kps, ⟨W_succ (k := j + 1) (by omega), hjl, by exact List.length_append.symm, by show _ = nl _; rw [e3, ← List.append_assoc, nl_append, ← he2]; rfl⟩, by dsimp only; omega⟩
                  | false =>
                    rw [hb] at e26
                    have e5 : (if hasN x.dr (j : Int) = true then (1 : Int) else 0) = 0 := by rw [hb]; rfl
                    rw [e5] at e3
                    cases j with
                    | zero =>
                      repeat' (first | refine wk3 ?_ | (refine wk2 ?_ ?_ <;> intro _) | refine wk4 ?_ | fail); all_goals (conv => whnf)
                      exact Done.mk ⟨(1, _, _, _), [(5, 7)], rfl, kps, kps, ⟨W_succ (k := 0) (by omega), hjl, by exact List.length_append.symm, by show _ = nl _; rw [e3, ← List.append_assoc, nl_append, ← he2]; rfl⟩, by dsimp only; omega⟩
                    | succ j =>
                      repeat' (first | refine wk3 ?_ | (refine wk2 ?_ ?_ <;> intro _) | refine wk4 ?_ | fail); all_goals (conv => whnf)
                      exact Done.mk ⟨(j + 1 + 1, _, _, _), [(5, 7)], rfl, kps, kps, ⟨W_succ (k := j + 1) (by omega), hjl, by exact List.length_append.symm, by show _ = nl _; rw [e3, ← List.append_assoc, nl_append, ← he2]; rfl⟩, by dsimp only; omega⟩
                · have he3 : es2 = nl (ownS h x) := by rw [he2, hown, List.take_of_length_le (by rw [flags_len]; omega)]
                  clear he2
                  have e27 : befT [.isl 1 ((els.drop 0).take len), .isl 1 ((es2.drop 0).take len2)] = some ⟨Bo true, []⟩ := by
                    rw [take_self hl, take_self hl2, hels, he3, bef_hit (by omega) (by omega), hnext (by omega)]
                  cases j with
                  | zero => exfalso; omega
                  | succ j =>
                  repeat' (first | refine wk3 ?_ | (refine wk2 ?_ ?_ <;> intro _) | refine wk4 ?_ | fail); all_goals (conv => whnf)
                  refine Done.mk ⟨((k + 1) + 1, _, _, _, _, ownS h x), [(2, 5)], rfl, kps, kps, ⟨W_succ (k := (k + 1)) (by omega), by omega, ?_, hl2, he3, fun _ => by rw [show ((((k + 1) + 1 : Nat) : Int) - 1) = (((k + 1) : Nat) : Int) by omega, hx], hown2⟩, by dsimp only; omega⟩
                  · show IntKind.i64.wrap (fd + 1) = _
                    rw [hfd, if_neg (by omega), if_pos (by omega)]; rfl
            · rw [decide_eq_false hn] at e24
              cases k with
              | zero =>
                repeat' (first | refine wk3 ?_ | (refine wk2 ?_ ?_ <;> intro _) | refine wk4 ?_ | fail); all_goals (conv => whnf)
                refine SCt.pc (c25 x.hs (by have := hxf.1; omega)) rfl ?_
                conv => whnf
                refine loopV (S := Nat × Int × Nat × List (List AV)) (fun t => h.ws.length - t.1) (fun t => [(2, .ptr 0 0 0), (3, .ptr 1 0 0), (5, I (nset h)), (7, I (fd)), (8, .nils), (9, I ((0 : Nat) : Int)), (10, .ptr 3 0 0), (12, .asl (nm2 4 5 t.1) 0 t.2.2.1), (13, I t.2.1)]) (fun t => [(nm2 4 5 t.1, .row 1 t.2.2.2 true true), (3, .row 2 [x.cells] true false), (1, .row 2 [s.cells] true false), (0, .row 9 [h.cells] true false)]) 5 6
                  (fun t => t.2.1 = t.1 ∧ t.1 ≤ h.ws.length ∧ t.2.2.1 = t.2.2.2.length ∧ t.2.2.2 = nl (x.hs ++ (flags 0 h.ws x.dr).take t.1)) (0, 0, (nl x.hs).length, nl x.hs) ⟨rfl, Nat.zero_le _, rfl, by simp⟩ (Nat.le_refl _) [] rfl (kps) (kps) ?_
                rintro ⟨j, i2, len2, es2⟩ ⟨hi2, hj, hl2, he2⟩
                dsimp only at hi2 hj hl2 he2 ⊢
                subst hi2
                refine bs.av (sx := fun f => Nat.beq f 25) h0 ?_
                have e4 : es2.length < 4000 := by rw [he2, nl_length, List.length_append, List.length_take]; have := hxf.1; omega
                by_cases hjl : j < h.ws.length
                · have e26 := has_hit (a := x.dr) (j : Int) (by have := hxf.2; omega)
                  have e3 := flags_take (h := h) (d := x.dr) hjl
                  cases hb : hasN x.dr (j : Int) with
                  | true =>
                    rw [hb] at e26
                    have e5 : (if hasN x.dr (j : Int) = true then (1 : Int) else 0) = 1 := by rw [hb]; rfl
                    rw [e5] at e3
                    cases j with
                    | zero =>
                      repeat' (first | refine wk3 ?_ | (refine wk2 ?_ ?_ <;> intro _) | refine wk4 ?_ | fail); all_goals (conv => whnf)
                      exact Done.mk ⟨(1, _, _, _), [(5, 7)], rfl, kps, kps, ⟨W_succ (k := 0) (by omega), hjl, by exact List.length_append.symm, by show _ = nl _; rw [e3, ← List.append_assoc, nl_append, ← he2]; rfl⟩, by dsimp only; omega⟩
                    | succ j =>
                      repeat' (first | refine wk3 ?_ | (refine wk2 ?_ ?_ <;> intro _) | refine wk4 ?_ | fail); all_goals (conv => whnf)
                      exact Done.mk ⟨(j + 1 + 1, _, _, _), [(5, 7)], rfl, kps, kps, ⟨W_succ (k := j + 1) (by omega), hjl, by exact List.length_append.symm, by show _ = nl _; rw [e3, ← List.append_assoc, nl_append, ← he2]; rfl⟩, by dsimp only; omega⟩
                  | false =>
                    rw [hb] at e26
                    have e5 : (if hasN x.dr (j : Int) = true then (1 : Int) else 0) = 0 := by rw [hb]; rfl
                    rw [e5] at e3
                    cases j with
                    | zero =>
                      repeat' (first | refine wk3 ?_ | (refine wk2 ?_ ?_ <;> intro _) | refine wk4 ?_ | fail); all_goals (conv => whnf)
                      exact Done.mk ⟨(1, _, _, _), [(5, 7)], rfl, kps, kps, ⟨W_succ (k := 0) (by omega), hjl, by exact List.length_append.symm, by show _ = nl _; rw [e3, ← List.append_assoc, nl_append, ← he2]; rfl⟩, by dsimp only; omega⟩
                    | succ j =>
                      repeat' (first | refine wk3 ?_ | (refine wk2 ?_ ?_ <;> intro _) | refine wk4 ?_ | fail); all_goals (conv => whnf)
                      exact Done.mk ⟨(j + 1 + 1, _, _, _), [(5, 7)], rfl, kps, kps, ⟨W_succ (k := j + 1) (by omega), hjl, by exact List.length_append.symm, by show _ = nl _; rw [e3, ← List.append_assoc, nl_append, ← he2]; rfl⟩, by dsimp only; omega⟩
                · have he3 : es2 = nl (ownS h x) := by rw [he2, hown, List.take_of_length_le (by rw [flags_len]; omega)]
                  clear he2
                  cases j with
                  | zero => exfalso; omega
                  | succ j =>
                  repeat' (first | refine wk3 ?_ | (refine wk2 ?_ ?_ <;> intro _) | refine wk4 ?_ | fail); all_goals (conv => whnf)
                  refine Done.mk ⟨(0 + 1, _, _, _, _, ownS h x), [(2, 5)], rfl, kps, kps, ⟨W_succ (k := 0) (by omega), by omega, ?_, hl2, he3, fun _ => by rw [show (((0 + 1 : Nat) : Int) - 1) = ((0 : Nat) : Int) by omega, hx], hown2⟩, by dsimp only; omega⟩
                  · show fd = _
                    rw [hfd]
                    by_cases q : numS h s < (0 : Nat)
                    · rw [if_pos q, if_pos (by omega)]
                    · rw [if_neg q, if_neg (by omega)]
              | succ k =>
                repeat' (first | refine wk3 ?_ | (refine wk2 ?_ ?_ <;> intro _) | refine wk4 ?_ | fail); all_goals (conv => whnf)
                refine SCt.pc (c25 x.hs (by have := hxf.1; omega)) rfl ?_
                conv => whnf
                refine loopV (S := Nat × Int × Nat × List (List AV)) (fun t => h.ws.length - t.1) (fun t => [(2, .ptr 0 0 0), (3, .ptr 1 0 0), (5, I (nset h)), (7, I (fd)), (8, .asl 2 0 len), (9, I (((k + 1) : Nat) : Int)), (10, .ptr 3 0 0), (12, .asl (nm2 4 5 t.1) 0 t.2.2.1), (13, I t.2.1)]) (fun t => [(nm2 4 5 t.1, .row 1 t.2.2.2 true true), (3, .row 2 [x.cells] true false), (1, .row 2 [s.cells] true false), (0, .row 9 [h.cells] true false), (2, .row 1 els true true)]) 5 6
                  (fun t => t.2.1 = t.1 ∧ t.1 ≤ h.ws.length ∧ t.2.2.1 = t.2.2.2.length ∧ t.2.2.2 = nl (x.hs ++ (flags 0 h.ws x.dr).take t.1)) (0, 0, (nl x.hs).length, nl x.hs) ⟨rfl, Nat.zero_le _, rfl, by simp⟩ (Nat.le_refl _) [] rfl (kps) (kps) ?_
                rintro ⟨j, i2, len2, es2⟩ ⟨hi2, hj, hl2, he2⟩
                dsimp only at hi2 hj hl2 he2 ⊢
                subst hi2
                refine bs.av (sx := fun f => Nat.beq f 25) h0 ?_
                have e4 : es2.length < 4000 := by rw [he2, nl_length, List.length_append, List.length_take]; have := hxf.1; omega
                by_cases hjl : j < h.ws.length
                · have e26 := has_hit (a := x.dr) (j : Int) (by have := hxf.2; omega)
                  have e3 := flags_take (h := h) (d := x.dr) hjl
                  cases hb : hasN x.dr (j : Int) with
                  | true =>
                    rw [hb] at e26
                    have e5 : (if hasN x.dr (j : Int) = true then (1 : Int) else 0) = 1 := by rw [hb]; rfl
                    rw [e5] at e3
                    cases j with
                    | zero =>
                      repeat' (first | refine wk3 ?_ | (refine wk2 ?_ ?_ <;> intro _) | refine wk4 ?_ | fail); all_goals (conv => whnf)
                      exact Done.mk ⟨(1, _, _, _), [(5, 7)], rfl, kps, kps, ⟨W_succ (k := 0) (by omega), hjl, by exact List.length_append.symm, by show _ = nl _; rw [e3, ← List.append_assoc, nl_append, ← he2]; rfl⟩, by dsimp only; omega⟩
                    | succ j =>
                      repeat' (first | refine wk3 ?_ | (refine wk2 ?_ ?_ <;> intro _) | refine wk4 ?_ | fail); all_goals (conv => whnf)
                      exact Done.mk ⟨(j + 1 + 1, _, _, _), [(5, 7)], rfl, kps, kps, ⟨W_succ (k := j + 1) (by omega), hjl, by exact List.length_append.symm, by show _ = nl _; rw [e3, ← List.append_assoc, nl_append, ← he2]; rfl⟩, by dsimp only; omega⟩
                  | false =>
                    rw [hb] at e26
                    have e5 : (if hasN x.dr (j : Int) = true then (1 : Int) else 0) = 0 := by rw [hb]; rfl
                    rw [e5] at e3
                    cases j with
                    | zero =>
                      repeat' (first | refine wk3 ?_ | (refine wk2 ?_ ?_ <;> intro _) | refine wk4 ?_ | fail); all_goals (conv => whnf)
                      exact Done.mk ⟨(1, _, _, _), [(5, 7)], rfl, kps, kps, ⟨W_succ (k := 0) (by omega), hjl, by exact List.length_append.symm, by show _ = nl _; rw [e3, ← List.append_assoc, nl_append, ← he2]; rfl⟩, by dsimp only; omega⟩
                    | succ j =>
                      repeat' (first | refine wk3 ?_ | (refine wk2 ?_ ?_ <;> intro _) | refine wk4 ?_ | fail); all_goals (conv => whnf)
                      exact Done.mk ⟨(j + 1 + 1, _, _, _), [(5, 7)], rfl, kps, kps, ⟨W_succ (k := j + 1) (by omega), hjl, by exact List.length_append.symm, by show _ = nl _; rw [e3, ← List.append_assoc, nl_append, ← he2]; rfl⟩, by dsimp only; omega⟩
                · have he3 : es2 = nl (ownS h x) := by rw [he2, hown, List.take_of_length_le (by rw [flags_len]; omega)]
                  clear he2
                  have e27 : befT [.isl 1 ((els.drop 0).take len), .isl 1 ((es2.drop 0).take len2)] = some ⟨Bo true, []⟩ := by
                    rw [take_self hl, take_self hl2, hels, he3, bef_hit (by omega) (by omega), hnext (by omega)]
                  cases j with
                  | zero => exfalso; omega
                  | succ j =>
                  repeat' (first | refine wk3 ?_ | (refine wk2 ?_ ?_ <;> intro _) | refine wk4 ?_ | fail); all_goals (conv => whnf)
                  refine Done.mk ⟨((k + 1) + 1, _, _, _, _, ownS h x), [(2, 5)], rfl, kps, kps, ⟨W_succ (k := (k + 1)) (by omega), by omega, ?_, hl2, he3, fun _ => by rw [show ((((k + 1) + 1 : Nat) : Int) - 1) = (((k + 1) : Nat) : Int) by omega, hx], hown2⟩, by dsimp only; omega⟩
                  · show fd = _
                    rw [hfd]
                    by_cases q : numS h s < ((k + 1) : Nat)
                    · rw [if_pos q, if_pos (by omega)]
                    · rw [if_neg q, if_neg (by omega)]
          · repeat' (first | refine wk3 ?_ | (refine wk2 ?_ ?_ <;> intro _) | refine wk4 ?_ | fail); all_goals (conv => whnf)
            refine ret_bool ?_
            rw [hfd, if_pos (by omega)]; rfl
        · refine bs.pv (sx := nos) h0 Tryz.func3 (by kernel_rfl) (by kernel_rfl) rfl ?_
          repeat' (first | refine wk3 ?_ | (refine wk2 ?_ ?_ <;> intro _) | refine wk4 ?_ | fail); all_goals (conv => whnf)
          all_goals exact ret_bool rfl
      · have hc8 : cntE h = 8 := by
          unfold cntE at hc ⊢
          rw [if_pos he] at hc ⊢
          split at hc
          · rename_i h1; rw [if_pos h1]
          · exact absurd rfl hc
        rw [hc8] at h0
        refine bs.pv (sx := nos) h0 Tryz.func3 (by kernel_rfl) (by kernel_rfl) rfl ?_
        repeat' (first | refine wk3 ?_ | (refine wk2 ?_ ?_ <;> intro _) | refine wk4 ?_ | fail); all_goals (conv => whnf)
        all_goals exact ret_bool rfl
    · have h0 := one_ok a20 hL
      refine bs.pv (sx := nos) h0 Tryz.func3 (by kernel_rfl) (by kernel_rfl) rfl ?_
      repeat' (first | refine wk3 ?_ | (refine wk2 ?_ ?_ <;> intro _) | refine wk4 ?_ | fail); all_goals (conv => whnf)
      all_goals first
        | exact ret_bool rfl
        | (exfalso; simp_all; done)
  · refine bs.pv (sx := nos) (kNs_ok h s) Tryz.func3 (by kernel_rfl) (by kernel_rfl) rfl ?_
    repeat' (first | refine wk3 ?_ | (refine wk2 ?_ ?_ <;> intro _) | refine wk4 ?_ | fail); all_goals (conv => whnf)
    all_goals first
      | exact ret_bool rfl
      | (exfalso; simp_all; done)
end Go.Proofs.YtjpmeaagnhojgaaGreat
