/- A part of the proof: lemmas. -/
import Derived.Test.YtjpmeaagnhojgaaGreatE6
set_option linter.unusedVariables false
set_option linter.unusedSimpArgs false
namespace Go.Proofs.YtjpmeaagnhojgaaGreat
open Go Go.Sx

/-! ### The setting of a number: the reference -/
theorem take_self {α : Type} {l : List α} {n : Nat} (h : n = l.length) : (l.drop 0).take n = l := by rw [List.drop_zero, h, List.take_length]
set_option maxRecDepth 100000 in
set_option maxHeartbeats 4000000 in
theorem c49 {h : Hal} (hk : h.ok) (n : Int) (g : h.fine) (hc : cntE h = 0) (hw : within n 0 (cntV h - 1) = true) : PCall Tryz.prog 49 [h.av, I n] ⟨.tup [(setD h n).av, I 0], []⟩ := by
  have a48 := c48 hk g
  obtain ⟨b1, b2, b3⟩ := cntV_bd hc
  have b4 := within_iff.1 hw
  have hw2 : within n 0 (IntKind.i64.wrap (nset h - 1)) = true := by rw [W_eq (by omega) (by omega), ← b1]; exact hw
  rw [if_neg (by omega), if_neg (by omega)] at a48
  have h0 : PCOK Tryz.prog (ins 48 (one [h.av] ⟨.tup [I (nset h), I 0], []⟩) k93) := one_ok a48 k93_ok
  have l3 := wa_length h.ws
  have l4 := ca_length h.ks
  have f3 := hk.f.2.2.1
  have f4 := hk.f.2.2.2.1
  refine PCall.freeze (res := stgR (setD h n).hs (setD h n).dr) ?_ (stgR_frz _ _)
  refine bs.pv (sx := nos) h0 Tryz.func49 (by kernel_rfl) (by kernel_rfl) (stgR_ids _ _) ?_
  repeat' (first | refine wk3 ?_ | (refine wk2 ?_ ?_ <;> intro _) | refine wk4 ?_ | fail); all_goals (conv => whnf)
  · exfalso; simp_all
  refine loopV (S := Nat × Int × Int × Nat × Nat × List (List AV) × List Int) (fun t => t.1) (fun t => [(1, I t.2.2.1), (2, .ptr 0 0 0), (4, .ptr 1 0 0), (8, .ptr 2 0 0), (9, I t.2.1)]) (fun t => [(2, .row 2 [[.nils, gv 3 t.2.2.2.1 t.2.2.2.2.1]] true false), (1, .row 2 [[.nils, .nils]] true false), (0, .row 9 [h.cells] true false)] ++ gz 3 1 t.2.2.2.1 t.2.2.2.2.2.1 []) 3 4
    (fun t => t.2.1 = (t.1 : Int) - 1 ∧ t.1 ≤ h.ws.length ∧ drW t.1 (h.ws.drop t.1) n = (t.2.2.2.2.2.2, t.2.2.1) ∧ 0 ≤ t.2.2.1 ∧ t.2.2.1 ≤ n ∧ t.2.2.2.2.1 = t.2.2.2.2.2.1.length ∧ t.2.2.2.2.2.1 = nl t.2.2.2.2.2.2 ∧ (t.2.2.2.1 = 0 ↔ t.2.2.2.2.2.2 = []) ∧ t.2.2.2.2.2.2.length + t.1 ≤ h.ws.length) (h.ws.length, IntKind.i64.wrap (((h.ws.map Wal.av).length : Int) - 1), n, 0, 0, [], []) ⟨by dsimp only; rw [W_eq (by omega) (by omega)]; omega, Nat.le_refl _, by rw [List.drop_length]; rfl, b4.1, Int.le_refl _, rfl, rfl, by simp, by simp⟩ (Nat.le_of_ble_eq_true rfl) [] rfl (kps) (kps) ?_
  rintro ⟨j, i, v, m, len, els, acc⟩ ⟨hi, hj, hd, hv0, hv1, hl, he, hm, ha⟩
  dsimp only at hi hj hd hv0 hv1 hl he hm ha ⊢
  subst hi
  refine bs.av (sx := nos) h0 ?_
  cases j with
  | succ j =>
    have hjl : j < h.ws.length := by omega
    have hi2 : (((j + 1 : Nat) : Int) - 1) = (j : Int) := by omega
    rw [hi2]
    have e1 := wa_get hjl
    have e4 : els.length < 2000 := by rw [he, nl_length]; omega
    have ho : oneEls ((els.drop 0).take len) = true := by rw [take_self hl, he]; exact oneEls_nl _
    have hlt : ((els.drop 0).take len).length = els.length := by rw [take_self hl]
    have hd2 : drW j (h.ws.drop j) n = if noCu h.ws[j] then (acc, v) else (if v % 2 = 1 then (j : Int) :: acc else acc, v / 2) := by
      rw [List.drop_eq_getElem_cons hjl, drW, hd]
    generalize h.ws[j] = c at *
    have hcu : (c.cu == ⟨#[]⟩) = noCu c := rfl
    have ht := tm2 hv0
    have hq : IntKind.i64.wrap (v.tdiv 2) = v / 2 := by rw [td2 hv0, W_eq (by omega) (by omega)]
    have hjw : IntKind.i64.wrap ((j : Int) - 1) = (j : Int) - 1 := W_eq (by omega) (by omega)
    cases hx : noCu c with
    | true =>
      rw [hx] at hcu hd2
      rw [if_pos rfl] at hd2
      repeat' (first | refine wk3 ?_ | (refine wk2 ?_ ?_ <;> intro _) | refine wk4 ?_ | fail); all_goals (conv => whnf)
      · exact Done.mk ⟨(j, _, v, m, len, els, acc), [(3, 3)], by cases m <;> rfl, kps, by cases m <;> exact kps, ⟨hjw, by dsimp only; omega, hd2, hv0, hv1, hl, he, hm, by dsimp only; omega⟩, by dsimp only; omega⟩
      · exfalso; clear hm hi2 ho hlt; simp_all
      · exfalso; clear hm hi2 ho hlt; simp_all
    | false =>
      rw [hx] at hcu hd2
      simp only [Bool.false_eq_true, if_false] at hd2
      by_cases hb : v % 2 = 1
      · have hb' : v.tmod 2 = 1 := by omega
        rw [if_pos hb] at hd2
        cases m with
        | zero =>
          have h1 : acc = [] := hm.1 rfl
          subst h1
          repeat' (first | refine wk3 ?_ | (refine wk2 ?_ ?_ <;> intro _) | refine wk4 ?_ | fail); all_goals (conv => whnf)
          · exfalso; rename_i hy; rw [hcu] at hy; cases hy
          · exact Done.mk ⟨(j, _, IntKind.i64.wrap (v.tdiv 2), 1, 1, [[I (j : Int)]], [(j : Int)]), [(3, 5)], rfl, kps, kps, ⟨hjw, by dsimp only; omega, by rw [hd2, hq], by dsimp only; rw [hq]; omega, by dsimp only; rw [hq]; omega, rfl, rfl, by simp, by dsimp only [List.length_cons, List.length_nil] at ha ⊢; omega⟩, by dsimp only; omega⟩
        | succ m =>
          repeat' (first | refine wk3 ?_ | (refine wk2 ?_ ?_ <;> intro _) | refine wk4 ?_ | fail); all_goals (conv => whnf)
          · exfalso; rename_i hy; rw [hcu] at hy; cases hy
          · exact Done.mk ⟨(j, _, IntKind.i64.wrap (v.tdiv 2), m + 2, _, [[I (j : Int)]] ++ (els.drop 0).take len, (j : Int) :: acc), [(3, 5)], rfl, kps, kps, ⟨hjw, by dsimp only; omega, by rw [hd2, hq], by dsimp only; rw [hq]; omega, by dsimp only; rw [hq]; omega, by exact List.length_append.symm, by show _ ++ _ = _; rw [take_self hl, he]; rfl, by simp, by dsimp only [List.length_cons]; omega⟩, by dsimp only; omega⟩
      · have hb' : ¬ v.tmod 2 = 1 := by omega
        rw [if_neg hb] at hd2
        repeat' (first | refine wk3 ?_ | (refine wk2 ?_ ?_ <;> intro _) | refine wk4 ?_ | fail); all_goals (conv => whnf)
        · exfalso; rename_i hy; rw [hcu] at hy; cases hy
        · exact Done.mk ⟨(j, _, IntKind.i64.wrap (v.tdiv 2), m, len, els, acc), [(3, 3)], by cases m <;> rfl, kps, by cases m <;> exact kps, ⟨hjw, by dsimp only; omega, by rw [hd2, hq], by dsimp only; rw [hq]; omega, by dsimp only; rw [hq]; omega, hl, he, hm, by dsimp only; omega⟩, by dsimp only; omega⟩
  | zero =>
    rw [List.drop_zero] at hd
    repeat' (first | refine wk3 ?_ | (refine wk2 ?_ ?_ <;> intro _) | refine wk4 ?_ | fail); all_goals (conv => whnf)
    have hlr : (hrad h).length = h.ks.length := by unfold hrad; rw [List.length_map]
    refine loopV (S := Nat × Int × Int × Nat × Nat × List (List AV) × List Int) (fun t => t.1) (fun t => [(1, I t.2.2.1), (2, .ptr 0 0 0), (4, .ptr 1 0 0), (8, .ptr 2 0 0), (10, I t.2.1)]) (fun t => [(2, .row 2 [[gv 4 t.2.2.2.1 t.2.2.2.2.1, gv 3 m len]] true false), (1, .row 2 [[.nils, .nils]] true false), (0, .row 9 [h.cells] true false)] ++ gz 4 1 t.2.2.2.1 t.2.2.2.2.2.1 (gz 3 1 m els [])) 4 5
      (fun t => t.2.1 = (t.1 : Int) - 1 ∧ t.1 ≤ h.ks.length ∧ dgs ((hrad h).drop t.1) v = (t.2.2.2.2.2.2, t.2.2.1) ∧ 0 ≤ t.2.2.1 ∧ t.2.2.1 ≤ n ∧ t.2.2.2.2.1 = t.2.2.2.2.2.1.length ∧ t.2.2.2.2.2.1 = nl t.2.2.2.2.2.2 ∧ (t.2.2.2.1 = 0 ↔ t.2.2.2.2.2.2 = []) ∧ t.2.2.2.2.2.2.length + t.1 ≤ h.ks.length) (h.ks.length, IntKind.i64.wrap (((h.ks.map Can.av).length : Int) - 1), v, 0, 0, [], []) ⟨by dsimp only; rw [W_eq (by omega) (by omega)]; omega, Nat.le_refl _, by rw [List.drop_of_length_le (by omega)]; rfl, hv0, hv1, rfl, rfl, by simp, by simp⟩ (Nat.le_refl _) [] (by cases m <;> rfl) (kps) (by cases m <;> exact kps) ?_
    rintro ⟨j, i, u, m2, len2, els2, acc2⟩ ⟨hi, hj, hd2, hu0, hu1, hl2, he2, hm2, ha2⟩
    dsimp only at hi hj hd2 hu0 hu1 hl2 he2 hm2 ha2 ⊢
    subst hi
    refine bs.av (sx := nos) h0 ?_
    cases j with
    | succ j =>
      have hjl : j < h.ks.length := by omega
      have hi2 : (((j + 1 : Nat) : Int) - 1) = (j : Int) := by omega
      rw [hi2]
      have e1 := ca_get hjl
      have e4 : els2.length < 2000 := by rw [he2, nl_length]; omega
      have hd3 := dgs_drop hjl hd2
      have hcl := hgs_of g _ (List.getElem_mem hjl)
      generalize h.ks[j] = c at *
      obtain ⟨q1, q2, q3⟩ := digit hu0 (by omega) hcl
      have hjw : IntKind.i64.wrap ((j : Int) - 1) = (j : Int) - 1 := W_eq (by omega) (by omega)
      cases m2 with
      | zero =>
        have h1 : acc2 = [] := hm2.1 rfl
        subst h1
        cases m
        all_goals (
          repeat' (first | refine wk3 ?_ | (refine wk2 ?_ ?_ <;> intro _) | refine wk4 ?_ | fail); all_goals (conv => whnf)
          exact Done.mk ⟨(j, _, IntKind.i64.wrap (u.tdiv ((nl c.hs).length : Int)), 1, 1, [[I (u.tmod ((nl c.hs).length : Int))]], [u.tmod ((nl c.hs).length : Int)]), [(4, 8)], rfl, kps, kps, ⟨hjw, by dsimp only; omega, by rw [hd3, q2, q3], by dsimp only; rw [q3]; exact Int.ediv_nonneg hu0 (by omega), by dsimp only; rw [q3]; exact Int.le_trans (Int.ediv_le_self _ hu0) hu1, rfl, rfl, by simp, by dsimp only [List.length_cons, List.length_nil] at ha2 ⊢; omega⟩, by dsimp only; omega⟩)
      | succ m2 =>
        have hne : els2 ≠ [] := by
          intro e
          rw [he2] at e
          cases acc2 with
          | nil => have := hm2.2 rfl; omega
          | cons a l => cases e
        cases m
        all_goals (
          repeat' (first | refine wk3 ?_ | (refine wk2 ?_ ?_ <;> intro _) | refine wk4 ?_ | fail); all_goals (conv => whnf)
          refine aop_app (ys := els2) rfl rfl rfl rfl rfl rfl rfl (sliceEls_row rfl hl2) rfl (by rw [he2]; exact oneEls_nl _) hne rfl (by show 1 + _ ≤ _; omega) ?_
          repeat' (first | refine wk3 ?_ | (refine wk2 ?_ ?_ <;> intro _) | refine wk4 ?_ | fail); all_goals (conv => whnf)
          exact Done.mk ⟨(j, _, IntKind.i64.wrap (u.tdiv ((nl c.hs).length : Int)), m2 + 2, _, [[I (u.tmod ((nl c.hs).length : Int))]] ++ els2, u.tmod ((nl c.hs).length : Int) :: acc2), [(4, 11)], rfl, kps, kps, ⟨hjw, by dsimp only; omega, by rw [hd3, q2, q3], by dsimp only; rw [q3]; exact Int.ediv_nonneg hu0 (by omega), by dsimp only; rw [q3]; exact Int.le_trans (Int.ediv_le_self _ hu0) hu1, by exact List.length_append.symm, by show _ ++ _ = _; rw [he2]; rfl, by simp, by dsimp only [List.length_cons]; omega⟩, by dsimp only; omega⟩)
    | zero =>
      rw [List.drop_zero] at hd2
      have hx : len = (nl acc).length := by rw [hl, he]
      have hx2 : len2 = (nl acc2).length := by rw [hl2, he2]
      subst he
      subst he2
      subst hx
      subst hx2
      cases m with
      | zero =>
        have h1 : acc = [] := hm.1 rfl
        subst h1
        cases m2 with
        | zero =>
          have h2 : acc2 = [] := hm2.1 rfl
          subst h2
          repeat' (first | refine wk3 ?_ | (refine wk2 ?_ ?_ <;> intro _) | refine wk4 ?_ | fail); all_goals (conv => whnf)
          rw [setD_dr hd, setD_hs hd hd2]
          exact ret_of rfl rfl
        | succ m2 =>
          cases acc2 with
          | nil => have := hm2.2 rfl; omega
          | cons a l =>
            repeat' (first | refine wk3 ?_ | (refine wk2 ?_ ?_ <;> intro _) | refine wk4 ?_ | fail); all_goals (conv => whnf)
            rw [setD_dr hd, setD_hs hd hd2]
            exact ret_rows [4] rfl rfl rfl
      | succ m =>
        cases acc with
        | nil => have := hm.2 rfl; omega
        | cons b k =>
          cases m2 with
          | zero =>
            have h2 : acc2 = [] := hm2.1 rfl
            subst h2
            repeat' (first | refine wk3 ?_ | (refine wk2 ?_ ?_ <;> intro _) | refine wk4 ?_ | fail); all_goals (conv => whnf)
            rw [setD_dr hd, setD_hs hd hd2]
            exact ret_rows [3] rfl rfl rfl
          | succ m2 =>
            cases acc2 with
            | nil => have := hm2.2 rfl; omega
            | cons a l =>
              repeat' (first | refine wk3 ?_ | (refine wk2 ?_ ?_ <;> intro _) | refine wk4 ?_ | fail); all_goals (conv => whnf)
              rw [setD_dr hd, setD_hs hd hd2]
              exact ret_rows [4, 3] rfl rfl rfl
end Go.Proofs.YtjpmeaagnhojgaaGreat
