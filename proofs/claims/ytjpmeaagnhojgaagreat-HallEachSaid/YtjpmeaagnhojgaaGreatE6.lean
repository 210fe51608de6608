/- A part of the proof: lemmas. -/
import Derived.Test.YtjpmeaagnhojgaaGreatE5
import Derived.Test.YtjpmeaagnhojgaaGreatSxFn2
set_option linter.unusedVariables false
set_option linter.unusedSimpArgs false
namespace Go.Proofs.YtjpmeaagnhojgaaGreat
open Go Go.Sx

/-! ### The setting of a number: the program -/
def setAE (h : Hal) (n : Int) : Int := if cntE h = 0 then (if within n 0 (cntV h - 1) then 0 else 6) else cntE h
def setAV (h : Hal) (n : Int) : Stg := if setAE h n = 0 then setD h n else ⟨[], []⟩
theorem tm2 {v : Int} (h : 0 ≤ v) : v.tmod 2 = v % 2 := Int.tmod_eq_emod_of_nonneg h
theorem td2 {v k : Int} (h : 0 ≤ v) : v.tdiv k = v / k := Int.tdiv_eq_ediv_of_nonneg h
theorem hd_nl {L : List Int} {j : Nat} (h : j < L.length) : hd1 ((nl L).getD j []) = I L[j] := by
  have := nl_get h
  rw [Int.toNat_natCast] at this
  rw [List.getD_eq_getElem?_getD, this]; rfl
theorem nl_pure (L : List Int) : (nl L).all (fun e => pureL e && Nat.beq e.length 1) = true := by
  rw [List.all_eq_true]
  intro e he
  obtain ⟨x, _, rfl⟩ := List.mem_map.1 he
  rfl
theorem cntV_bd {h : Hal} (h0 : cntE h = 0) : cntV h = nset h ∧ nset h ≤ 1000 ∧ h.err = 0 := by
  unfold cntE at h0
  split at h0
  · rename_i he
    split at h0
    · cases h0
    · rename_i hn
      unfold cntV
      rw [if_pos he, if_neg hn]
      exact ⟨rfl, by omega, he⟩
  · rename_i he; exact absurd h0 he
theorem c79 (L : List Int) : PCall Tryz.prog 79 [.isl 1 (nl L)] ⟨.func 168 [] [.ipt [.isl 1 (nl L)]], []⟩ := by
  refine PCall.frzFn (es := 1) ?_
  refine bs.pv (sx := nos) pt0_ok Tryz.func79 (by kernel_rfl) (by kernel_rfl) rfl ?_
  conv => whnf
  exact ret_rows [0] rfl rfl rfl
theorem c81 (l : List Can) : PCall Tryz.prog 81 [.isl 7 (l.map Can.av)] ⟨.func 169 [] [.ipt [.isl 7 (l.map Can.av)]], []⟩ := by
  refine PCall.frzFn (es := 1) ?_
  refine bs.pv (sx := nos) pt0_ok Tryz.func81 (by kernel_rfl) (by kernel_rfl) rfl ?_
  conv => whnf
  exact ret_rows [0] rfl rfl rfl
theorem ca_pure1 (c : Can) : (pureL c.av && Nat.beq c.av.length 7) = true := rfl
theorem cav_pure (l : List Can) : (l.map Can.av).all (fun e => pureL e && Nat.beq e.length 7) = true := by
  rw [List.all_eq_true]
  intro e he
  obtain ⟨x, _, rfl⟩ := List.mem_map.1 he
  exact ca_pure1 x
theorem hd_ca {l : List Can} {j : Nat} (h : j < l.length) : AV.agg ((l.map Can.av).getD j []) = .agg l[j].av := by
  rw [List.getD_eq_getElem?_getD, List.getElem?_map, List.getElem?_eq_getElem h]; rfl
theorem dgs_drop {h : Hal} {j : Nat} (hj : j < h.ks.length) {v u : Int} {a : List Int} (hd : dgs ((hrad h).drop (j + 1)) v = (a, u)) : dgs ((hrad h).drop j) v = (u % (h.ks[j].hs.length : Int) :: a, u / (h.ks[j].hs.length : Int)) := by
  have hl : j < (hrad h).length := by unfold hrad; rw [List.length_map]; exact hj
  have e3 : (hrad h)[j] = (h.ks[j].hs.length : Int) := by simp [hrad]
  rw [List.drop_eq_getElem_cons hl, dgs, hd, e3]
theorem nl_set2 (l : List Int) (i j : Nat) : ((nl l).set i [I (l.getD j 0)]).set j [I (l.getD i 0)] = nl (swp l i j) := by rw [nl_set, nl_set]; rfl
theorem setD_dr {h : Hal} {n v : Int} {a : List Int} (hd : drW 0 h.ws n = (a, v)) : (setD h n).dr = a := by unfold setD; rw [hd]
theorem setD_hs {h : Hal} {n v u : Int} {a b : List Int} (hd : drW 0 h.ws n = (a, v)) (hd2 : dgs (hrad h) v = (b, u)) : (setD h n).hs = b := by unfold setD; rw [hd]; dsimp only; rw [hd2]
/-- How a setting is handed back. -/
def stgR : List Int → List Int → PRes
  | [], [] => ⟨.tup [.agg [.nils, .nils], I 0], []⟩
  | [], d :: D => ⟨.tup [.agg [.nils, .asl 0 0 (nl (d :: D)).length], I 0], [(1, nl (d :: D))]⟩
  | c :: C, [] => ⟨.tup [.agg [.asl 0 0 (nl (c :: C)).length, .nils], I 0], [(1, nl (c :: C))]⟩
  | c :: C, d :: D => ⟨.tup [.agg [.asl 0 0 (nl (c :: C)).length, .asl 1 0 (nl (d :: D)).length], I 0], [(1, nl (c :: C)), (1, nl (d :: D))]⟩
theorem stgR_frz (C D : List Int) : Frz (stgR C D).blks (stgR C D).v (.tup [.agg [.isl 1 (nl C), .isl 1 (nl D)], I 0]) := by
  cases C with
  | nil => cases D with
    | nil => exact ⟨⟨rfl, rfl, trivial⟩, ⟨rfl, rfl⟩, trivial⟩
    | cons d D => exact ⟨⟨rfl, ⟨rfl, rfl, rfl⟩, trivial⟩, ⟨rfl, rfl⟩, trivial⟩
  | cons c C => cases D with
    | nil => exact ⟨⟨⟨rfl, rfl, rfl⟩, rfl, trivial⟩, ⟨rfl, rfl⟩, trivial⟩
    | cons d D => exact ⟨⟨⟨rfl, rfl, rfl⟩, ⟨rfl, rfl, rfl⟩, trivial⟩, ⟨rfl, rfl⟩, trivial⟩
theorem stgR_ids (C D : List Int) : idsLt (stgR C D).blks.length (stgR C D).v = true := by cases C <;> cases D <;> rfl
theorem digit {u : Int} {c : Can} (h0 : 0 ≤ u) (h1 : u < 1000000) (hc : 1 ≤ c.hs.length ∧ c.hs.length ≤ 4) :
    (!decide (((nl c.hs).length : Int) = 0)) = true ∧ u.tmod ((nl c.hs).length : Int) = u % (c.hs.length : Int) ∧ IntKind.i64.wrap (u.tdiv ((nl c.hs).length : Int)) = u / (c.hs.length : Int) := by
  rw [nl_length]
  have a := Int.ediv_nonneg (b := (c.hs.length : Int)) h0 (by omega)
  have b := Int.ediv_le_self (c.hs.length : Int) h0
  exact ⟨nq_of (by omega), Int.tmod_eq_emod_of_nonneg h0, by rw [td2 h0, W_eq (by omega) (by omega)]⟩
set_option maxRecDepth 100000 in
set_option maxHeartbeats 4000000 in
theorem c23 {h : Hal} (hk : h.ok) (n : Int) (g : h.fine) (hc : cntE h = 0) (hw : within n 0 (cntV h - 1) = true) : PCall Tryz.prog 23 [h.av, I n] ⟨.tup [(setD h n).av, I 0], []⟩ := by
  have a21 := c21 hk
  obtain ⟨b1, b2, b3⟩ := cntV_bd hc
  have b4 := within_iff.1 hw
  have hw2 : within n 0 (IntKind.i64.wrap (cntV h - 1)) = true := by rw [W_eq (by omega) (by omega)]; exact hw
  rw [hc] at a21
  have h0 : PCOK Tryz.prog (ins 21 (one [h.av] ⟨.tup [I (cntV h), I 0], []⟩) (ins 80 (one [h.av] ⟨.isl 1 (nl (curG 0 h.ws)), []⟩) (ins 79 (one [.isl 1 (nl (curG 0 h.ws))] ⟨.func 168 [] [.ipt [.isl 1 (nl (curG 0 h.ws))]], []⟩) (ins 81 (one [.isl 7 (h.ks.map Can.av)] ⟨.func 169 [] [.ipt [.isl 7 (h.ks.map Can.av)]], []⟩) k93)))) := one_ok a21 (one_ok (c80 hk.f) (one_ok (c79 _) (one_ok (c81 _) k93_ok)))
  have hcl := curG_len h.ws 0
  have f3 := hk.f.2.2.1
  have hdC := drC_eq (n := n) h.ws 0
  have l4 := ca_length h.ks
  have f4 := hk.f.2.2.2.1
  have hlr : (hrad h).length = h.ks.length := by unfold hrad; rw [List.length_map]
  generalize curG 0 h.ws = L at *
  refine PCall.freeze (res := stgR (setD h n).hs (setD h n).dr) ?_ (stgR_frz _ _)
  refine bs.pv (sx := fun f => Nat.beq f 82) h0 Tryz.func23 (by kernel_rfl) (by kernel_rfl) (stgR_ids _ _) ?_
  repeat' (first | refine wk3 ?_ | (refine wk2 ?_ ?_ <;> intro _) | refine wk4 ?_ | fail); all_goals (conv => whnf)
  · exfalso; simp_all
  refine Rg.ren (env2 := [(3, .ptr 1 0 0), (4, .ptr 2 0 0), (8, .ptr 3 0 0), (9, .ptr 4 0 0), (33, .func 168 [] [.ipt [.isl 1 (nl L)]])]) (σ2 := ⟨[(4, .row 2 [[.nils, .nils]] true false), (3, .row 9 [h.cells] true false), (2, .row 2 [[.nils, .nils]] true false), (1, .row 1 [[I n]] true false)], 5⟩) (Ren.of [] rfl (kps) (kps)) ?_
  refine rngV (it168 (nl_pure L) (by rw [nl_length]; omega)) rfl rfl rfl rfl (roundsW (S := Int × Nat × Nat × List (List AV) × List Int) (fun s => gz 5 1 s.2.1 s.2.2.2.1 [(4, .row 2 [[.nils, gv 5 s.2.1 s.2.2.1]] true false), (3, .row 9 [h.cells] true false), (2, .row 2 [[.nils, .nils]] true false), (1, .row 1 [[I s.1]] true false)]) 5 (fun s => nm2 5 6 s.2.1)
    (fun xs s => ∃ j, j ≤ L.length ∧ xs = backX hd1 (nl L) j ∧ drC (L.drop j) n = (s.2.2.2.2.reverse, s.1) ∧ 0 ≤ s.1 ∧ s.1 ≤ n ∧ s.2.2.1 = s.2.2.2.1.length ∧ s.2.2.2.1 = nl s.2.2.2.2 ∧ (s.2.1 = 0 ↔ s.2.2.2.2 = []) ∧ s.2.2.2.2.length + j ≤ L.length) ?_ ?_ _ (n, 0, 0, [], []) ⟨L.length, Nat.le_refl _, by rw [nl_length], by rw [List.drop_length]; rfl, b4.1, Int.le_refl _, rfl, rfl, by simp, by simp⟩)
  · rintro x xs ⟨v, m, len, els, acc⟩ ⟨j, hj, hx, hd, hv0, hv1, hl, he, hm, ha⟩
    dsimp only at hd hv0 hv1 hl he hm ha ⊢
    cases j with
    | zero => cases hx
    | succ j =>
      rw [backX] at hx
      obtain ⟨rfl, rfl⟩ := List.cons.inj hx
      rw [hd_nl (show j < L.length by omega)]
      have e4 : els.length < 2000 := by rw [he, nl_length]; omega
      have hd2 : drC (L.drop j) n = (if v % 2 = 1 then L[j] :: acc.reverse else acc.reverse, v / 2) := by
        rw [List.drop_eq_getElem_cons (show j < L.length by omega), drC, hd]
      have ht := tm2 hv0
      have hq : IntKind.i64.wrap (v.tdiv 2) = v / 2 := by rw [td2 hv0, W_eq (by omega) (by omega)]
      generalize L[j] = c at *
      refine ⟨rfl, ?_⟩
      by_cases hb : v % 2 = 1
      · have hb' : v.tmod 2 = 1 := by omega
        rw [if_pos hb] at hd2
        cases m with
        | zero =>
          have h1 : acc = [] := hm.1 rfl
          subst h1
          refine bs.av (sx := nos) h0 ?_
          repeat' (first | refine wk3 ?_ | (refine wk2 ?_ ?_ <;> intro _) | refine wk4 ?_ | fail); all_goals (conv => whnf)
          refine Bd.mk (bs.av (sx := nos) h0 ?_)
          repeat' (first | refine wk3 ?_ | (refine wk2 ?_ ?_ <;> intro _) | refine wk4 ?_ | fail); all_goals (conv => whnf)
          exact Done.mk ⟨(IntKind.i64.wrap (v.tdiv 2), 1, _, _, [c]), [(5, 6)], rfl, kps, j, by omega, rfl, by rw [hd2, hq]; rfl, by dsimp only; rw [hq]; omega, by dsimp only; rw [hq]; omega, rfl, rfl, by simp, by dsimp only [List.length_cons, List.length_nil]; omega⟩
        | succ m =>
          refine bs.av (sx := nos) h0 ?_
          repeat' (first | refine wk3 ?_ | (refine wk2 ?_ ?_ <;> intro _) | refine wk4 ?_ | fail); all_goals (conv => whnf)
          refine Bd.mk (bs.av (sx := nos) h0 ?_)
          repeat' (first | refine wk3 ?_ | (refine wk2 ?_ ?_ <;> intro _) | refine wk4 ?_ | fail); all_goals (conv => whnf)
          exact Done.mk ⟨(IntKind.i64.wrap (v.tdiv 2), m + 2, _, _, acc ++ [c]), [(5, 7)], rfl, kps, j, by omega, rfl, by rw [hd2, hq]; simp, by dsimp only; rw [hq]; omega, by dsimp only; rw [hq]; omega, by exact List.length_append.symm, by show _ = nl _; rw [nl_append, ← he]; rfl, by simp, by simp; omega⟩
      · have hb' : ¬ v.tmod 2 = 1 := by omega
        rw [if_neg hb] at hd2
        cases m with
        | zero =>
          refine bs.av (sx := nos) h0 ?_
          repeat' (first | refine wk3 ?_ | (refine wk2 ?_ ?_ <;> intro _) | refine wk4 ?_ | fail); all_goals (conv => whnf)
          refine Bd.mk (bs.av (sx := nos) h0 ?_)
          repeat' (first | refine wk3 ?_ | (refine wk2 ?_ ?_ <;> intro _) | refine wk4 ?_ | fail); all_goals (conv => whnf)
          exact Done.mk ⟨(IntKind.i64.wrap (v.tdiv 2), 0, len, els, acc), [], rfl, kps, j, by omega, rfl, by rw [hd2, hq], by dsimp only; rw [hq]; omega, by dsimp only; rw [hq]; omega, hl, he, hm, by dsimp only; omega⟩
        | succ m =>
          refine bs.av (sx := nos) h0 ?_
          repeat' (first | refine wk3 ?_ | (refine wk2 ?_ ?_ <;> intro _) | refine wk4 ?_ | fail); all_goals (conv => whnf)
          refine Bd.mk (bs.av (sx := nos) h0 ?_)
          repeat' (first | refine wk3 ?_ | (refine wk2 ?_ ?_ <;> intro _) | refine wk4 ?_ | fail); all_goals (conv => whnf)
          exact Done.mk ⟨(IntKind.i64.wrap (v.tdiv 2), m + 1, len, els, acc), [(5, 5)], rfl, kps, j, by omega, rfl, by rw [hd2, hq], by dsimp only; rw [hq]; omega, by dsimp only; rw [hq]; omega, hl, he, hm, by dsimp only; omega⟩
  · rintro ⟨v, m, len, els, acc⟩ ⟨j, hj, hx, hd, hv0, hv1, hl, he, hm, ha⟩
    dsimp only at hd hv0 hv1 hl he hm ha ⊢
    cases j with
    | succ j => cases hx
    | zero =>
      clear hx
      rw [List.drop_zero, hdC] at hd
      cases m with
      | zero =>
        repeat' (first | refine wk3 ?_ | (refine wk2 ?_ ?_ <;> intro _) | refine wk4 ?_ | fail); all_goals (conv => whnf)
        refine Rg.ren (env2 := [(3, .ptr 1 0 0), (4, .ptr 2 0 0), (9, .ptr 4 0 0), (50, .func 169 [] [.ipt [.isl 7 (h.ks.map Can.av)]])]) (σ2 := ⟨[(4, .row 2 [[.nils, .nils]] true false), (2, .row 2 [[.nils, .nils]] true false), (1, .row 1 [[I v]] true false)], 5⟩) (Ren.of [] rfl (kps) (kps)) ?_
        refine rngV (it169 (cav_pure h.ks) (by rw [l4]; omega)) rfl rfl rfl rfl (roundsW (S := Int × Nat × Nat × List (List AV) × List Int) (fun s => gz 5 1 s.2.1 s.2.2.2.1 [(4, .row 2 [[gv 5 s.2.1 s.2.2.1, .nils]] true false), (2, .row 2 [[.nils, .nils]] true false), (1, .row 1 [[I s.1]] true false)]) 5 (fun s => nm2 5 6 s.2.1)
          (fun xs s => ∃ j, j ≤ h.ks.length ∧ xs = backX AV.agg (h.ks.map Can.av) j ∧ dgs ((hrad h).drop j) v = (s.2.2.2.2.reverse, s.1) ∧ 0 ≤ s.1 ∧ s.1 ≤ n ∧ s.2.2.1 = s.2.2.2.1.length ∧ s.2.2.2.1 = nl s.2.2.2.2 ∧ (s.2.1 = 0 ↔ s.2.2.2.2 = []) ∧ s.2.2.2.2.length + j ≤ h.ks.length) ?_ ?_ _ (v, 0, 0, [], []) ⟨h.ks.length, Nat.le_refl _, by rw [l4], by rw [List.drop_of_length_le (by omega)]; rfl, hv0, hv1, rfl, rfl, by simp, by simp⟩)
        · rintro x xs ⟨u, m2, len2, els2, acc2⟩ ⟨j, hj, hx, hd2, hu0, hu1, hl2, he2, hm2, ha2⟩
          dsimp only at hd2 hu0 hu1 hl2 he2 hm2 ha2 ⊢
          cases j with
          | zero => cases hx
          | succ j =>
            rw [backX] at hx
            obtain ⟨rfl, rfl⟩ := List.cons.inj hx
            have hjl : j < h.ks.length := by omega
            rw [hd_ca hjl]
            have e4 : els2.length < 2000 := by rw [he2, nl_length]; omega
            have hd3 := dgs_drop hjl hd2
            have hcl := hgs_of g _ (List.getElem_mem hjl)
            generalize h.ks[j] = c at *
            obtain ⟨q1, q2, q3⟩ := digit hu0 (by omega) hcl
            refine ⟨rfl, ?_⟩
            cases m2 with
            | zero =>
              have h1 : acc2 = [] := hm2.1 rfl
              subst h1
              refine bs.av (sx := nos) h0 ?_
              repeat' (first | refine wk3 ?_ | (refine wk2 ?_ ?_ <;> intro _) | refine wk4 ?_ | fail); all_goals (conv => whnf)
              refine Bd.mk (bs.av (sx := nos) h0 ?_)
              repeat' (first | refine wk3 ?_ | (refine wk2 ?_ ?_ <;> intro _) | refine wk4 ?_ | fail); all_goals (conv => whnf)
              exact Done.mk ⟨(IntKind.i64.wrap (u.tdiv ((nl c.hs).length : Int)), 1, 1, [[I (u.tmod ((nl c.hs).length : Int))]], [u.tmod ((nl c.hs).length : Int)]), [(5, 14)], rfl, kps, j, by omega, rfl, by rw [hd3, q2, q3]; rfl, by dsimp only; rw [q3]; exact Int.ediv_nonneg hu0 (by omega), by dsimp only; rw [q3]; exact Int.le_trans (Int.ediv_le_self _ hu0) hu1, rfl, rfl, by simp, by dsimp only [List.length_cons, List.length_nil]; omega⟩
            | succ m2 =>
              refine bs.av (sx := nos) h0 ?_
              repeat' (first | refine wk3 ?_ | (refine wk2 ?_ ?_ <;> intro _) | refine wk4 ?_ | fail); all_goals (conv => whnf)
              refine Bd.mk (bs.av (sx := nos) h0 ?_)
              repeat' (first | refine wk3 ?_ | (refine wk2 ?_ ?_ <;> intro _) | refine wk4 ?_ | fail); all_goals (conv => whnf)
              refine aop_app (ys := [[I (u.tmod ((nl c.hs).length : Int))]]) rfl rfl rfl rfl rfl rfl rfl rfl rfl rfl (by simp) hl2 (by simp only [List.length_cons, List.length_nil]; omega) ?_
              repeat' (first | refine wk3 ?_ | (refine wk2 ?_ ?_ <;> intro _) | refine wk4 ?_ | fail); all_goals (conv => whnf)
              exact Done.mk ⟨(IntKind.i64.wrap (u.tdiv ((nl c.hs).length : Int)), m2 + 2, _, els2 ++ [[I (u.tmod ((nl c.hs).length : Int))]], acc2 ++ [u.tmod ((nl c.hs).length : Int)]), [(5, 15)], rfl, kps, j, by omega, rfl, by rw [hd3, q2, q3]; simp, by dsimp only; rw [q3]; exact Int.ediv_nonneg hu0 (by omega), by dsimp only; rw [q3]; exact Int.le_trans (Int.ediv_le_self _ hu0) hu1, by exact List.length_append.symm, by show _ = nl _; rw [nl_append, ← he2]; rfl, by simp, by simp; omega⟩
        · rintro ⟨u, m2, len2, els2, acc2⟩ ⟨j, hj, hx, hd2, hu0, hu1, hl2, he2, hm2, ha2⟩
          dsimp only at hd2 hu0 hu1 hl2 he2 hm2 ha2 ⊢
          cases j with
          | succ j => cases hx
          | zero =>
            clear hx
            rw [List.drop_zero] at hd2
            cases m2 with
            | zero =>
              repeat' (first | refine wk3 ?_ | (refine wk2 ?_ ?_ <;> intro _) | refine wk4 ?_ | fail); all_goals (conv => whnf)
              refine bs.sv (sx := nos) h0 Tryz.func82 (by kernel_rfl) (by kernel_rfl) ?_
              conv => whnf
              refine LpM.start 1 (LpM.succ (bs.av (sx := nos) h0 ?_))
              repeat' (first | refine wk3 ?_ | (refine wk2 ?_ ?_ <;> intro _) | refine wk4 ?_ | fail); all_goals (conv => whnf)
              refine bs.sv (sx := nos) h0 Tryz.func82 (by kernel_rfl) (by kernel_rfl) ?_
              conv => whnf
              refine LpM.start 1 (LpM.succ (bs.av (sx := nos) h0 ?_))
              repeat' (first | refine wk3 ?_ | (refine wk2 ?_ ?_ <;> intro _) | refine wk4 ?_ | fail); all_goals (conv => whnf)
              have h1 : acc = [] := hm.1 rfl
              have h2 : acc2 = [] := hm2.1 rfl
              rw [setD_dr hd, setD_hs hd hd2, h1, h2]
              exact ret_of rfl rfl
            | succ m2 =>
              repeat' (first | refine wk3 ?_ | (refine wk2 ?_ ?_ <;> intro _) | refine wk4 ?_ | fail); all_goals (conv => whnf)
              refine bs.sv (sx := nos) h0 Tryz.func82 (by kernel_rfl) (by kernel_rfl) ?_
              conv => whnf
              refine LpM.start 1 (LpM.succ (bs.av (sx := nos) h0 ?_))
              repeat' (first | refine wk3 ?_ | (refine wk2 ?_ ?_ <;> intro _) | refine wk4 ?_ | fail); all_goals (conv => whnf)
              have hq_len2 : len2 = acc2.length := by rw [hl2, he2, nl_length]
              refine bs.sv (sx := nos) h0 Tryz.func82 (by kernel_rfl) (by kernel_rfl) ?_
              repeat' (first | refine wk3 ?_ | (refine wk2 ?_ ?_ <;> intro _) | refine wk4 ?_ | fail); all_goals (conv => whnf)
              refine loopV (S := Nat × Int × Int × List (List AV) × List Int) (fun t => acc2.length - t.1) (fun t => [(0, .asl 5 0 len2), (2, I t.2.1), (3, I t.2.2.1)]) (fun t => [(5, .row 1 t.2.2.2.1 true true), (4, .row 2 [[.asl 5 0 len2, .nils]] true false), (2, .row 2 [[.nils, .nils]] true false)]) 6 6
                (fun t => t.2.1 = t.1 ∧ t.2.2.1 = (acc2.length : Int) - 1 - t.1 ∧ t.1 ≤ acc2.length ∧ t.2.2.2.1 = nl t.2.2.2.2 ∧ RevInv acc2 t.2.2.2.2 t.1) (0, 0, IntKind.i64.wrap ((len2 : Int) - 1), els2, acc2) ⟨rfl, by dsimp only; rw [W_eq (by omega) (by omega)]; omega, Nat.zero_le _, he2, RevInv.zero _⟩ (Nat.le_refl _) [] rfl (kps) (kps) ?_
              rintro ⟨k, i, b, es, l⟩ ⟨hi, hb, hkk, hes, hri⟩
              dsimp only at hi hb hkk hes hri ⊢
              subst hi
              refine bs.av (sx := nos) h0 ?_
              by_cases hlt : k + k + 1 < acc2.length
              · have hkl : k < l.length := by rw [hri.len]; omega
                have hbl : acc2.length - 1 - k < l.length := by rw [hri.len]; omega
                have hbn : 0 + b.toNat = acc2.length - 1 - k := by omega
                have e1 : es[0 + b.toNat]? = some [I (l.getD (acc2.length - 1 - k) 0)] := by rw [hbn, hes]; exact nl_getD hbl
                have e2 : es[0 + ((k : Nat) : Int).toNat]? = some [I (l.getD k 0)] := by rw [hes, Nat.zero_add, Int.toNat_natCast]; exact nl_getD hkl
                have e3 : ∀ y, (setEl es (0 + ((k : Nat) : Int).toNat) [I y])[0 + b.toNat]? = some [I (l.getD (acc2.length - 1 - k) 0)] := fun y => by rw [setEl_eq, List.getElem?_set_ne (by omega), e1]
                have e4 := e3 (l.getD (acc2.length - 1 - k) 0)
                repeat' (first | refine wk3 ?_ | (refine wk2 ?_ ?_ <;> intro _) | refine wk4 ?_ | fail); all_goals (conv => whnf)
                refine Done.mk ⟨(k + 1, _, _, _, swp l k (acc2.length - 1 - k)), [], rfl, kps, kps, ⟨W_succ (by omega), ?_, by dsimp only; omega, ?_, hri.succ hlt⟩, by dsimp only; omega⟩
                · show IntKind.i64.wrap (b - 1) = _; rw [W_eq (by omega) (by omega)]; omega
                · show setEl (setEl es _ _) _ _ = _
                  rw [setEl_eq, setEl_eq, hbn, hes, Nat.zero_add, Int.toNat_natCast]
                  exact nl_set2 l k _
              · have hfin := hri.fin (by omega)
                repeat' (first | refine wk3 ?_ | (refine wk2 ?_ ?_ <;> intro _) | refine wk4 ?_ | fail); all_goals (conv => whnf)
                have h1 : acc = [] := hm.1 rfl
                rw [setD_dr hd, setD_hs hd hd2, h1]
                subst hfin
                subst hes
                have hx_len2 : len2 = (nl acc2.reverse).length := by rw [hq_len2, nl_length, List.length_reverse]
                have hne_len2 : acc2.reverse ≠ [] := by rw [ne_eq, List.reverse_eq_nil_iff]; exact fun e => by have := hm2.2 e; omega
                generalize acc2.reverse = D2 at *
                subst hx_len2
                cases D2 with
                | nil => exact absurd rfl hne_len2
                | cons b D2 => exact ret_rows [5] rfl rfl rfl
      | succ m =>
        repeat' (first | refine wk3 ?_ | (refine wk2 ?_ ?_ <;> intro _) | refine wk4 ?_ | fail); all_goals (conv => whnf)
        refine Rg.ren (env2 := [(3, .ptr 1 0 0), (4, .ptr 2 0 0), (9, .ptr 4 0 0), (50, .func 169 [] [.ipt [.isl 7 (h.ks.map Can.av)]])]) (σ2 := ⟨[(4, .row 2 [[.nils, .asl 5 0 len]] true false), (2, .row 2 [[.nils, .nils]] true false), (1, .row 1 [[I v]] true false), (5, .row 1 els true true)], 6⟩) (Ren.of [] rfl (kps) (kps)) ?_
        refine rngV (it169 (cav_pure h.ks) (by rw [l4]; omega)) rfl rfl rfl rfl (roundsW (S := Int × Nat × Nat × List (List AV) × List Int) (fun s => gz 6 1 s.2.1 s.2.2.2.1 [(4, .row 2 [[gv 6 s.2.1 s.2.2.1, .asl 5 0 len]] true false), (2, .row 2 [[.nils, .nils]] true false), (1, .row 1 [[I s.1]] true false), (5, .row 1 els true true)]) 6 (fun s => nm2 6 7 s.2.1)
          (fun xs s => ∃ j, j ≤ h.ks.length ∧ xs = backX AV.agg (h.ks.map Can.av) j ∧ dgs ((hrad h).drop j) v = (s.2.2.2.2.reverse, s.1) ∧ 0 ≤ s.1 ∧ s.1 ≤ n ∧ s.2.2.1 = s.2.2.2.1.length ∧ s.2.2.2.1 = nl s.2.2.2.2 ∧ (s.2.1 = 0 ↔ s.2.2.2.2 = []) ∧ s.2.2.2.2.length + j ≤ h.ks.length) ?_ ?_ _ (v, 0, 0, [], []) ⟨h.ks.length, Nat.le_refl _, by rw [l4], by rw [List.drop_of_length_le (by omega)]; rfl, hv0, hv1, rfl, rfl, by simp, by simp⟩)
        · rintro x xs ⟨u, m2, len2, els2, acc2⟩ ⟨j, hj, hx, hd2, hu0, hu1, hl2, he2, hm2, ha2⟩
          dsimp only at hd2 hu0 hu1 hl2 he2 hm2 ha2 ⊢
          cases j with
          | zero => cases hx
          | succ j =>
            rw [backX] at hx
            obtain ⟨rfl, rfl⟩ := List.cons.inj hx
            have hjl : j < h.ks.length := by omega
            rw [hd_ca hjl]
            have e4 : els2.length < 2000 := by rw [he2, nl_length]; omega
            have hd3 := dgs_drop hjl hd2
            have hcl := hgs_of g _ (List.getElem_mem hjl)
            generalize h.ks[j] = c at *
            obtain ⟨q1, q2, q3⟩ := digit hu0 (by omega) hcl
            refine ⟨rfl, ?_⟩
            cases m2 with
            | zero =>
              have h1 : acc2 = [] := hm2.1 rfl
              subst h1
              refine bs.av (sx := nos) h0 ?_
              repeat' (first | refine wk3 ?_ | (refine wk2 ?_ ?_ <;> intro _) | refine wk4 ?_ | fail); all_goals (conv => whnf)
              refine Bd.mk (bs.av (sx := nos) h0 ?_)
              repeat' (first | refine wk3 ?_ | (refine wk2 ?_ ?_ <;> intro _) | refine wk4 ?_ | fail); all_goals (conv => whnf)
              exact Done.mk ⟨(IntKind.i64.wrap (u.tdiv ((nl c.hs).length : Int)), 1, 1, [[I (u.tmod ((nl c.hs).length : Int))]], [u.tmod ((nl c.hs).length : Int)]), [(6, 15)], rfl, kps, j, by omega, rfl, by rw [hd3, q2, q3]; rfl, by dsimp only; rw [q3]; exact Int.ediv_nonneg hu0 (by omega), by dsimp only; rw [q3]; exact Int.le_trans (Int.ediv_le_self _ hu0) hu1, rfl, rfl, by simp, by dsimp only [List.length_cons, List.length_nil]; omega⟩
            | succ m2 =>
              refine bs.av (sx := nos) h0 ?_
              repeat' (first | refine wk3 ?_ | (refine wk2 ?_ ?_ <;> intro _) | refine wk4 ?_ | fail); all_goals (conv => whnf)
              refine Bd.mk (bs.av (sx := nos) h0 ?_)
              repeat' (first | refine wk3 ?_ | (refine wk2 ?_ ?_ <;> intro _) | refine wk4 ?_ | fail); all_goals (conv => whnf)
              refine aop_app (ys := [[I (u.tmod ((nl c.hs).length : Int))]]) rfl rfl rfl rfl rfl rfl rfl rfl rfl rfl (by simp) hl2 (by simp only [List.length_cons, List.length_nil]; omega) ?_
              repeat' (first | refine wk3 ?_ | (refine wk2 ?_ ?_ <;> intro _) | refine wk4 ?_ | fail); all_goals (conv => whnf)
              exact Done.mk ⟨(IntKind.i64.wrap (u.tdiv ((nl c.hs).length : Int)), m2 + 2, _, els2 ++ [[I (u.tmod ((nl c.hs).length : Int))]], acc2 ++ [u.tmod ((nl c.hs).length : Int)]), [(6, 16)], rfl, kps, j, by omega, rfl, by rw [hd3, q2, q3]; simp, by dsimp only; rw [q3]; exact Int.ediv_nonneg hu0 (by omega), by dsimp only; rw [q3]; exact Int.le_trans (Int.ediv_le_self _ hu0) hu1, by exact List.length_append.symm, by show _ = nl _; rw [nl_append, ← he2]; rfl, by simp, by simp; omega⟩
        · rintro ⟨u, m2, len2, els2, acc2⟩ ⟨j, hj, hx, hd2, hu0, hu1, hl2, he2, hm2, ha2⟩
          dsimp only at hd2 hu0 hu1 hl2 he2 hm2 ha2 ⊢
          cases j with
          | succ j => cases hx
          | zero =>
            clear hx
            rw [List.drop_zero] at hd2
            cases m2 with
            | zero =>
              repeat' (first | refine wk3 ?_ | (refine wk2 ?_ ?_ <;> intro _) | refine wk4 ?_ | fail); all_goals (conv => whnf)
              have hq_len : len = acc.length := by rw [hl, he, nl_length]
              refine bs.sv (sx := nos) h0 Tryz.func82 (by kernel_rfl) (by kernel_rfl) ?_
              repeat' (first | refine wk3 ?_ | (refine wk2 ?_ ?_ <;> intro _) | refine wk4 ?_ | fail); all_goals (conv => whnf)
              refine loopV (S := Nat × Int × Int × List (List AV) × List Int) (fun t => acc.length - t.1) (fun t => [(0, .asl 5 0 len), (2, I t.2.1), (3, I t.2.2.1)]) (fun t => [(5, .row 1 t.2.2.2.1 true true), (4, .row 2 [[.nils, .asl 5 0 len]] true false), (2, .row 2 [[.nils, .nils]] true false)]) 6 6
                (fun t => t.2.1 = t.1 ∧ t.2.2.1 = (acc.length : Int) - 1 - t.1 ∧ t.1 ≤ acc.length ∧ t.2.2.2.1 = nl t.2.2.2.2 ∧ RevInv acc t.2.2.2.2 t.1) (0, 0, IntKind.i64.wrap ((len : Int) - 1), els, acc) ⟨rfl, by dsimp only; rw [W_eq (by omega) (by omega)]; omega, Nat.zero_le _, he, RevInv.zero _⟩ (Nat.le_refl _) [] rfl (kps) (kps) ?_
              rintro ⟨k, i, b, es, l⟩ ⟨hi, hb, hkk, hes, hri⟩
              dsimp only at hi hb hkk hes hri ⊢
              subst hi
              refine bs.av (sx := nos) h0 ?_
              by_cases hlt : k + k + 1 < acc.length
              · have hkl : k < l.length := by rw [hri.len]; omega
                have hbl : acc.length - 1 - k < l.length := by rw [hri.len]; omega
                have hbn : 0 + b.toNat = acc.length - 1 - k := by omega
                have e1 : es[0 + b.toNat]? = some [I (l.getD (acc.length - 1 - k) 0)] := by rw [hbn, hes]; exact nl_getD hbl
                have e2 : es[0 + ((k : Nat) : Int).toNat]? = some [I (l.getD k 0)] := by rw [hes, Nat.zero_add, Int.toNat_natCast]; exact nl_getD hkl
                have e3 : ∀ y, (setEl es (0 + ((k : Nat) : Int).toNat) [I y])[0 + b.toNat]? = some [I (l.getD (acc.length - 1 - k) 0)] := fun y => by rw [setEl_eq, List.getElem?_set_ne (by omega), e1]
                have e4 := e3 (l.getD (acc.length - 1 - k) 0)
                repeat' (first | refine wk3 ?_ | (refine wk2 ?_ ?_ <;> intro _) | refine wk4 ?_ | fail); all_goals (conv => whnf)
                refine Done.mk ⟨(k + 1, _, _, _, swp l k (acc.length - 1 - k)), [], rfl, kps, kps, ⟨W_succ (by omega), ?_, by dsimp only; omega, ?_, hri.succ hlt⟩, by dsimp only; omega⟩
                · show IntKind.i64.wrap (b - 1) = _; rw [W_eq (by omega) (by omega)]; omega
                · show setEl (setEl es _ _) _ _ = _
                  rw [setEl_eq, setEl_eq, hbn, hes, Nat.zero_add, Int.toNat_natCast]
                  exact nl_set2 l k _
              · have hfin := hri.fin (by omega)
                repeat' (first | refine wk3 ?_ | (refine wk2 ?_ ?_ <;> intro _) | refine wk4 ?_ | fail); all_goals (conv => whnf)
                subst hfin
                subst hes
                refine bs.sv (sx := nos) h0 Tryz.func82 (by kernel_rfl) (by kernel_rfl) ?_
                conv => whnf
                refine LpM.start 1 (LpM.succ (bs.av (sx := nos) h0 ?_))
                repeat' (first | refine wk3 ?_ | (refine wk2 ?_ ?_ <;> intro _) | refine wk4 ?_ | fail); all_goals (conv => whnf)
                have h2 : acc2 = [] := hm2.1 rfl
                rw [setD_dr hd, setD_hs hd hd2, h2]
                have hx_len : len = (nl acc.reverse).length := by rw [hq_len, nl_length, List.length_reverse]
                have hne_len : acc.reverse ≠ [] := by rw [ne_eq, List.reverse_eq_nil_iff]; exact fun e => by have := hm.2 e; omega
                generalize acc.reverse = D1 at *
                subst hx_len
                cases D1 with
                | nil => exact absurd rfl hne_len
                | cons a D1 => exact ret_rows [5] rfl rfl rfl
            | succ m2 =>
              repeat' (first | refine wk3 ?_ | (refine wk2 ?_ ?_ <;> intro _) | refine wk4 ?_ | fail); all_goals (conv => whnf)
              have hq_len : len = acc.length := by rw [hl, he, nl_length]
              refine bs.sv (sx := nos) h0 Tryz.func82 (by kernel_rfl) (by kernel_rfl) ?_
              repeat' (first | refine wk3 ?_ | (refine wk2 ?_ ?_ <;> intro _) | refine wk4 ?_ | fail); all_goals (conv => whnf)
              refine loopV (S := Nat × Int × Int × List (List AV) × List Int) (fun t => acc.length - t.1) (fun t => [(0, .asl 5 0 len), (2, I t.2.1), (3, I t.2.2.1)]) (fun t => [(5, .row 1 t.2.2.2.1 true true), (4, .row 2 [[.asl 6 0 len2, .asl 5 0 len]] true false), (2, .row 2 [[.nils, .nils]] true false), (6, .row 1 els2 true true)]) 7 7
                (fun t => t.2.1 = t.1 ∧ t.2.2.1 = (acc.length : Int) - 1 - t.1 ∧ t.1 ≤ acc.length ∧ t.2.2.2.1 = nl t.2.2.2.2 ∧ RevInv acc t.2.2.2.2 t.1) (0, 0, IntKind.i64.wrap ((len : Int) - 1), els, acc) ⟨rfl, by dsimp only; rw [W_eq (by omega) (by omega)]; omega, Nat.zero_le _, he, RevInv.zero _⟩ (Nat.le_refl _) [] rfl (kps) (kps) ?_
              rintro ⟨k, i, b, es, l⟩ ⟨hi, hb, hkk, hes, hri⟩
              dsimp only at hi hb hkk hes hri ⊢
              subst hi
              refine bs.av (sx := nos) h0 ?_
              by_cases hlt : k + k + 1 < acc.length
              · have hkl : k < l.length := by rw [hri.len]; omega
                have hbl : acc.length - 1 - k < l.length := by rw [hri.len]; omega
                have hbn : 0 + b.toNat = acc.length - 1 - k := by omega
                have e1 : es[0 + b.toNat]? = some [I (l.getD (acc.length - 1 - k) 0)] := by rw [hbn, hes]; exact nl_getD hbl
                have e2 : es[0 + ((k : Nat) : Int).toNat]? = some [I (l.getD k 0)] := by rw [hes, Nat.zero_add, Int.toNat_natCast]; exact nl_getD hkl
                have e3 : ∀ y, (setEl es (0 + ((k : Nat) : Int).toNat) [I y])[0 + b.toNat]? = some [I (l.getD (acc.length - 1 - k) 0)] := fun y => by rw [setEl_eq, List.getElem?_set_ne (by omega), e1]
                have e4 := e3 (l.getD (acc.length - 1 - k) 0)
                repeat' (first | refine wk3 ?_ | (refine wk2 ?_ ?_ <;> intro _) | refine wk4 ?_ | fail); all_goals (conv => whnf)
                refine Done.mk ⟨(k + 1, _, _, _, swp l k (acc.length - 1 - k)), [], rfl, kps, kps, ⟨W_succ (by omega), ?_, by dsimp only; omega, ?_, hri.succ hlt⟩, by dsimp only; omega⟩
                · show IntKind.i64.wrap (b - 1) = _; rw [W_eq (by omega) (by omega)]; omega
                · show setEl (setEl es _ _) _ _ = _
                  rw [setEl_eq, setEl_eq, hbn, hes, Nat.zero_add, Int.toNat_natCast]
                  exact nl_set2 l k _
              · have hfin := hri.fin (by omega)
                repeat' (first | refine wk3 ?_ | (refine wk2 ?_ ?_ <;> intro _) | refine wk4 ?_ | fail); all_goals (conv => whnf)
                subst hfin
                subst hes
                have hq_len2 : len2 = acc2.length := by rw [hl2, he2, nl_length]
                refine bs.sv (sx := nos) h0 Tryz.func82 (by kernel_rfl) (by kernel_rfl) ?_
                repeat' (first | refine wk3 ?_ | (refine wk2 ?_ ?_ <;> intro _) | refine wk4 ?_ | fail); all_goals (conv => whnf)
                refine loopV (S := Nat × Int × Int × List (List AV) × List Int) (fun t => acc2.length - t.1) (fun t => [(0, .asl 6 0 len2), (2, I t.2.1), (3, I t.2.2.1)]) (fun t => [(6, .row 1 t.2.2.2.1 true true), (4, .row 2 [[.asl 6 0 len2, .asl 5 0 len]] true false), (2, .row 2 [[.nils, .nils]] true false), (5, .row 1 (nl acc.reverse) true true)]) 7 7
                  (fun t => t.2.1 = t.1 ∧ t.2.2.1 = (acc2.length : Int) - 1 - t.1 ∧ t.1 ≤ acc2.length ∧ t.2.2.2.1 = nl t.2.2.2.2 ∧ RevInv acc2 t.2.2.2.2 t.1) (0, 0, IntKind.i64.wrap ((len2 : Int) - 1), els2, acc2) ⟨rfl, by dsimp only; rw [W_eq (by omega) (by omega)]; omega, Nat.zero_le _, he2, RevInv.zero _⟩ (Nat.le_refl _) [] rfl (kps) (kps) ?_
                rintro ⟨k, i, b, es, l⟩ ⟨hi, hb, hkk, hes, hri⟩
                dsimp only at hi hb hkk hes hri ⊢
                subst hi
                refine bs.av (sx := nos) h0 ?_
                by_cases hlt : k + k + 1 < acc2.length
                · have hkl : k < l.length := by rw [hri.len]; omega
                  have hbl : acc2.length - 1 - k < l.length := by rw [hri.len]; omega
                  have hbn : 0 + b.toNat = acc2.length - 1 - k := by omega
                  have e1 : es[0 + b.toNat]? = some [I (l.getD (acc2.length - 1 - k) 0)] := by rw [hbn, hes]; exact nl_getD hbl
                  have e2 : es[0 + ((k : Nat) : Int).toNat]? = some [I (l.getD k 0)] := by rw [hes, Nat.zero_add, Int.toNat_natCast]; exact nl_getD hkl
                  have e3 : ∀ y, (setEl es (0 + ((k : Nat) : Int).toNat) [I y])[0 + b.toNat]? = some [I (l.getD (acc2.length - 1 - k) 0)] := fun y => by rw [setEl_eq, List.getElem?_set_ne (by omega), e1]
                  have e4 := e3 (l.getD (acc2.length - 1 - k) 0)
                  repeat' (first | refine wk3 ?_ | (refine wk2 ?_ ?_ <;> intro _) | refine wk4 ?_ | fail); all_goals (conv => whnf)
                  refine Done.mk ⟨(k + 1, _, _, _, swp l k (acc2.length - 1 - k)), [], rfl, kps, kps, ⟨W_succ (by omega), ?_, by dsimp only; omega, ?_, hri.succ hlt⟩, by dsimp only; omega⟩
                  · show IntKind.i64.wrap (b - 1) = _; rw [W_eq (by omega) (by omega)]; omega
                  · show setEl (setEl es _ _) _ _ = _
                    rw [setEl_eq, setEl_eq, hbn, hes, Nat.zero_add, Int.toNat_natCast]
                    exact nl_set2 l k _
                · have hfin := hri.fin (by omega)
                  repeat' (first | refine wk3 ?_ | (refine wk2 ?_ ?_ <;> intro _) | refine wk4 ?_ | fail); all_goals (conv => whnf)
                  rw [setD_dr hd, setD_hs hd hd2]
                  subst hfin
                  subst hes
                  have hx_len : len = (nl acc.reverse).length := by rw [hq_len, nl_length, List.length_reverse]
                  have hne_len : acc.reverse ≠ [] := by rw [ne_eq, List.reverse_eq_nil_iff]; exact fun e => by have := hm.2 e; omega
                  generalize acc.reverse = D1 at *
                  subst hx_len
                  have hx_len2 : len2 = (nl acc2.reverse).length := by rw [hq_len2, nl_length, List.length_reverse]
                  have hne_len2 : acc2.reverse ≠ [] := by rw [ne_eq, List.reverse_eq_nil_iff]; exact fun e => by have := hm2.2 e; omega
                  generalize acc2.reverse = D2 at *
                  subst hx_len2
                  cases D1 with
                  | nil => exact absurd rfl hne_len
                  | cons a D1 =>
                  cases D2 with
                  | nil => exact absurd rfl hne_len2
                  | cons b D2 => exact ret_rows [6, 5] rfl rfl rfl
end Go.Proofs.YtjpmeaagnhojgaaGreat
