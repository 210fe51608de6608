/- A part of the proof: lemmas. -/
import Derived.Test.YtdaliaafmcjikaaGreatJC3
set_option linter.unusedVariables false
set_option linter.unusedSimpArgs false
namespace Go.Proofs.YtdaliaafmcjikaaGreat
open Go Go.Sx
/-! ### The law of arrivals -/
def smP (p : Pth) : Bool := decide (p.ss.length ≤ 6) && decide (p.ps.length ≤ 6)
theorem smP_iff {p : Pth} : smP p = true ↔ p.ss.length ≤ 6 ∧ p.ps.length ≤ 6 := by simp [smP]
theorem fst3_a {a b c : Int} (h : a ≠ 0) : fstL [a, b, c] = a := if_pos h
theorem fst3_b {b c : Int} (h : b ≠ 0) : fstL [0, b, c] = b := if_pos h
theorem fst3_c {c : Int} : fstL [0, 0, c] = c := by simp only [fstL]; by_cases h : c = 0 <;> simp [h]
noncomputable def kA8 (l : List Pth) (v m : Int) : PC :=
  ins 12 r12 (ins 49 (one [.isl 3 (l.map pv)] ⟨.isl 3 (l.map pv), []⟩) (ins 48 (one [.isl 3 (l.map pv), I v] ⟨.tup [P2 (okP (gaE l v) (gapV l v)).1 (okP (gaE l v) (gapV l v)).2, I (gaE l v)], []⟩)
  (ins 50 (one [.isl 3 (l.map pv), I v, I m] ⟨.tup [P2 (okP (arE l v m) (arrG v m (0, 0) l)).1 (okP (arE l v m) (arrG v m (0, 0) l)).2, I (arE l v m)], []⟩) (ins 51 (one [.isl 3 (l.map pv)] ⟨I (lsE l), []⟩) (ins 44 (one [I v] ⟨I (spE v), []⟩) k78)))))
theorem kA8_ok (aw : PCall Tryz.prog 12 [] ⟨Bo true, []⟩) {l : List Pth} (hl : l.length < 100000) (hs : PthS l) (v m : Int) : PCOK Tryz.prog (kA8 l v m) := by
  refine ins_ok (fun a res h => ?_) (one_ok (d49 hl hs) (one_ok (d48 hl v) (one_ok (d50 hl v m) (one_ok (d51 hl) (one_ok (d44 v) k78_ok)))))
  unfold r12 at h; split at h <;> cases h; exact aw
set_option maxRecDepth 100000 in
set_option maxHeartbeats 16000000 in
theorem d8 (aw : PCall Tryz.prog 12 [] ⟨Bo true, []⟩) {l : List Pth} (v r m : Int) : PCall Tryz.prog 8 [.isl 3 (l.map pv), P3 v r m] ⟨Bo true, []⟩ := by
  have l1 := pv_len l
  have hk0 : PCOK Tryz.prog (ins 12 r12 pt0) := ins_ok (fun a res h => by unfold r12 at h; split at h <;> cases h; exact aw) pt0_ok
  by_cases q1 : 12 < l.length ∧ l.length ≤ 200
  · refine bs.pv (sx := nos) hk0 Tryz.func8 (by kernel_rfl) (by kernel_rfl) rfl ?_
    repeat' (first | refine wk3 ?_ | (refine wk2 ?_ ?_ <;> intro _) | refine wk4 ?_ | fail); all_goals (conv => whnf)
    all_goals first | exact ret_bool rfl | (exfalso; simp_all; done) | (exfalso; simp_all; omega)
  by_cases q2 : 202 < l.length
  · refine bs.pv (sx := nos) hk0 Tryz.func8 (by kernel_rfl) (by kernel_rfl) rfl ?_
    repeat' (first | refine wk3 ?_ | (refine wk2 ?_ ?_ <;> intro _) | refine wk4 ?_ | fail); all_goals (conv => whnf)
    all_goals first | exact ret_bool rfl | (exfalso; simp_all; done) | (exfalso; simp_all; omega)
  by_cases q3 : ∀ p ∈ l, smP p = true
  rotate_left
  · have hT := hk0
    by_cases q4 : 12 < l.length
    all_goals
      refine bs.pv (sx := nos) hT Tryz.func8 (by kernel_rfl) (by kernel_rfl) rfl ?_
      repeat' (first | refine wk3 ?_ | (refine wk2 ?_ ?_ <;> intro _) | refine wk4 ?_ | fail); all_goals (conv => whnf)
      all_goals (try (exfalso; simp_all; omega))
      refine loopV (S := Nat × Int) (fun t => l.length - t.1) (fun t => [(0, .isl 3 (l.map pv)), (3, .ptr 0 0 0), (5, I t.2)]) (fun _ => [(0, .row 3 [[I v, I r, I m]] true false)]) 1 1 (fun t => t.2 = t.1 ∧ t.1 ≤ l.length ∧ ¬ ∀ p ∈ l.drop t.1, smP p = true) (0, 0) ⟨rfl, Nat.zero_le _, q3⟩ (Nat.le_refl _) [] rfl (kps) (kps) ?_
      rintro ⟨k, i⟩ ⟨hi, hkk, hq⟩
      dsimp only at hi hkk ⊢
      subst hi
      refine bs.av (sx := nos) hT ?_
      by_cases hlt : k < l.length
      · have e1 := pv_get hlt
        by_cases hs : smP l[k] = true
        · have hq2 : ¬ ∀ p ∈ l.drop (k + 1), smP p = true := fun h => hq (by
            rw [List.drop_eq_getElem_cons hlt]
            intro p hp
            rw [List.mem_cons] at hp
            rcases hp with rfl | hp
            · exact hs
            · exact h p hp)
          have hs := smP_iff.1 hs
          generalize l[k] = x at *
          have n1 := nl_length x.ss
          have n2 := hp_len x.ps
          repeat' (first | refine wk3 ?_ | (refine wk2 ?_ ?_ <;> intro _) | refine wk4 ?_ | fail); all_goals (conv => whnf)
          all_goals first
            | (refine Done.mk ?_; exact ⟨(k + 1, _), [], rfl, kps, kps, ⟨W_succ (by omega), hlt, hq2⟩, by dsimp only; omega⟩)
            | (exfalso; clear hq hq2; simp_all; omega)
        · have hs2 : 6 < l[k].ss.length ∨ 6 < l[k].ps.length := by
            rcases Nat.lt_or_ge 6 l[k].ss.length with q | q
            · exact .inl q
            · rcases Nat.lt_or_ge 6 l[k].ps.length with q2 | q2
              · exact .inr q2
              · exact absurd (smP_iff.2 ⟨by omega, by omega⟩) hs
          clear hs
          generalize l[k] = x at *
          have n1 := nl_length x.ss
          have n2 := hp_len x.ps
          repeat' (first | refine wk3 ?_ | (refine wk2 ?_ ?_ <;> intro _) | refine wk4 ?_ | fail); all_goals (conv => whnf)
          all_goals first | exact ret_bool rfl | (exfalso; clear hq; simp_all; done) | (exfalso; clear hq; simp_all; omega)
      · exfalso
        rw [List.drop_of_length_le (by omega)] at hq
        exact hq (by simp)
  have hl : l.length < 100000 := by omega
  have hT := kA8_ok aw hl (fun p hp => by have := smP_iff.1 (q3 p hp); omega) v m
  unfold kA8 at hT
  by_cases c1 : lsE l = 0
  rotate_left
  · rw [show gaE l v = lsE l from fst3_a c1, show arE l v m = lsE l from fst3_a c1, show ∀ x, okP (lsE l) x = (0, 0) from fun x => if_neg c1, show ∀ x, okP (lsE l) x = (0, 0) from fun x => if_neg c1] at hT
    generalize lsE l = E at *
    generalize spE v = F at *
    by_cases q4 : 12 < l.length
    all_goals
      refine bs.pv (sx := nos) hT Tryz.func8 (by kernel_rfl) (by kernel_rfl) rfl ?_
      repeat' (first | refine wk3 ?_ | (refine wk2 ?_ ?_ <;> intro _) | refine wk4 ?_ | fail); all_goals (conv => whnf)
      all_goals (try (exfalso; simp_all; omega))
      refine loopV (S := Nat × Int) (fun t => l.length - t.1) (fun t => [(0, .isl 3 (l.map pv)), (3, .ptr 0 0 0), (5, I t.2)]) (fun _ => [(0, .row 3 [[I v, I r, I m]] true false)]) 1 1 (fun t => t.2 = t.1 ∧ t.1 ≤ l.length) (0, 0) ⟨rfl, Nat.zero_le _⟩ (Nat.le_refl _) [] rfl (kps) (kps) ?_
      rintro ⟨k, i⟩ ⟨hi, hkk⟩
      dsimp only at hi hkk ⊢
      subst hi
      refine bs.av (sx := nos) hT ?_
      by_cases hlt : k < l.length
      · have e1 := pv_get hlt
        have hs := smP_iff.1 (q3 _ (List.getElem_mem hlt))
        generalize l[k] = x at *
        have n1 := nl_length x.ss
        have n2 := hp_len x.ps
        repeat' (first | refine wk3 ?_ | (refine wk2 ?_ ?_ <;> intro _) | refine wk4 ?_ | fail); all_goals (conv => whnf)
        all_goals first
          | (refine Done.mk ?_; exact ⟨(k + 1, _), [], rfl, kps, kps, ⟨W_succ (by omega), hlt⟩, by dsimp only; omega⟩)
          | (exfalso; clear hT; simp_all; omega)
      · clear hkk
        repeat' (first | refine wk3 ?_ | (refine wk2 ?_ ?_ <;> intro _) | refine wk4 ?_ | fail); all_goals (conv => whnf)
        all_goals first | exact ret_bool rfl | (refine ret_bool ?_; clear hT; simp_all; done) | (exfalso; clear hT; simp_all; done) | (exfalso; clear hT; simp_all; omega)
  have hok := (lsE_ok c1).1
  by_cases c2 : spE v = 0
  rotate_left
  · rw [show gaE l v = spE v by unfold gaE; rw [c1, fst3_b c2], show arE l v m = spE v by unfold arE; rw [c1, fst3_b c2], show ∀ x, okP (spE v) x = (0, 0) from fun x => if_neg c2, show ∀ x, okP (spE v) x = (0, 0) from fun x => if_neg c2, c1] at hT
    clear hok c1
    generalize spE v = F at *
    by_cases q4 : 12 < l.length
    all_goals
      refine bs.pv (sx := nos) hT Tryz.func8 (by kernel_rfl) (by kernel_rfl) rfl ?_
      repeat' (first | refine wk3 ?_ | (refine wk2 ?_ ?_ <;> intro _) | refine wk4 ?_ | fail); all_goals (conv => whnf)
      all_goals (try (exfalso; simp_all; omega))
      refine loopV (S := Nat × Int) (fun t => l.length - t.1) (fun t => [(0, .isl 3 (l.map pv)), (3, .ptr 0 0 0), (5, I t.2)]) (fun _ => [(0, .row 3 [[I v, I r, I m]] true false)]) 1 1 (fun t => t.2 = t.1 ∧ t.1 ≤ l.length) (0, 0) ⟨rfl, Nat.zero_le _⟩ (Nat.le_refl _) [] rfl (kps) (kps) ?_
      rintro ⟨k, i⟩ ⟨hi, hkk⟩
      dsimp only at hi hkk ⊢
      subst hi
      refine bs.av (sx := nos) hT ?_
      by_cases hlt : k < l.length
      · have e1 := pv_get hlt
        have hs := smP_iff.1 (q3 _ (List.getElem_mem hlt))
        generalize l[k] = x at *
        have n1 := nl_length x.ss
        have n2 := hp_len x.ps
        repeat' (first | refine wk3 ?_ | (refine wk2 ?_ ?_ <;> intro _) | refine wk4 ?_ | fail); all_goals (conv => whnf)
        all_goals first
          | (refine Done.mk ?_; exact ⟨(k + 1, _), [], rfl, kps, kps, ⟨W_succ (by omega), hlt⟩, by dsimp only; omega⟩)
          | (exfalso; clear hT; simp_all; omega)
      · clear hkk
        repeat' (first | refine wk3 ?_ | (refine wk2 ?_ ?_ <;> intro _) | refine wk4 ?_ | fail); all_goals (conv => whnf)
        all_goals first | exact ret_bool rfl | (refine ret_bool ?_; clear hT; simp_all; done) | (exfalso; clear hT; simp_all; done) | (exfalso; clear hT; simp_all; omega)
  rw [show gaE l v = unl (decide ((2 : Int) ≤ ((l.map pv).length : Int))) 10 by unfold gaE; rw [c1, c2, fst3_c], show arE l v m = unl (within m 0 10000000) 2 by unfold arE; rw [c1, c2, fst3_c], c1, c2] at hT
  have hT := one_ok (d53 hl hok c2 m) hT
  have hle := arrG_le (m := m) (n := (0, 0)) c2 hok (Int.le_refl _) (Int.le_refl _) (by dsimp only; omega)
  by_cases h2 : 2 ≤ l.length
  · have hT := one_ok (d52 h2 hl hok c2) hT
    rw [decide_eq_true (show (2 : Int) ≤ ((l.map pv).length : Int) by omega), show ∀ x, okP (unl true 10) x = x from fun x => if_pos rfl, show unl true 10 = 0 from rfl] at hT
    clear hok c1
    cases hw : within m 0 10000000
    · rw [hw, show ∀ x, okP (unl false 2) x = (0, 0) from fun x => if_neg (by decide), show unl false 2 = 2 from rfl] at hT
      generalize gapV l v = G at *
      by_cases q4 : 12 < l.length
      all_goals
        refine bs.pv (sx := nos) hT Tryz.func8 (by kernel_rfl) (by kernel_rfl) rfl ?_
        repeat' (first | refine wk3 ?_ | (refine wk2 ?_ ?_ <;> intro _) | refine wk4 ?_ | fail); all_goals (conv => whnf)
        all_goals (try (exfalso; simp_all; omega))
        refine loopV (S := Nat × Int) (fun t => l.length - t.1) (fun t => [(0, .isl 3 (l.map pv)), (3, .ptr 0 0 0), (5, I t.2)]) (fun _ => [(0, .row 3 [[I v, I r, I m]] true false)]) 1 1 (fun t => t.2 = t.1 ∧ t.1 ≤ l.length) (0, 0) ⟨rfl, Nat.zero_le _⟩ (Nat.le_refl _) [] rfl (kps) (kps) ?_
        rintro ⟨k, i⟩ ⟨hi, hkk⟩
        dsimp only at hi hkk ⊢
        subst hi
        refine bs.av (sx := nos) hT ?_
        by_cases hlt : k < l.length
        · have e1 := pv_get hlt
          have hs := smP_iff.1 (q3 _ (List.getElem_mem hlt))
          generalize l[k] = x at *
          have n1 := nl_length x.ss
          have n2 := hp_len x.ps
          repeat' (first | refine wk3 ?_ | (refine wk2 ?_ ?_ <;> intro _) | refine wk4 ?_ | fail); all_goals (conv => whnf)
          all_goals first
            | (refine Done.mk ?_; exact ⟨(k + 1, _), [], rfl, kps, kps, ⟨W_succ (by omega), hlt⟩, by dsimp only; omega⟩)
            | (exfalso; clear hT; simp_all; omega)
        · clear hkk
          repeat' (first | refine wk3 ?_ | (refine wk2 ?_ ?_ <;> intro _) | refine wk4 ?_ | fail); all_goals (conv => whnf)
          all_goals first | exact ret_bool rfl | (refine ret_bool ?_; clear hT; simp_all; done) | (exfalso; clear hT; simp_all; done) | (exfalso; clear hT; simp_all; omega)
    · rw [hw, show ∀ x, okP (unl true 2) x = x from fun x => if_pos rfl, show unl true 2 = 0 from rfl] at hT
      generalize gapV l v = G at *
      generalize arrG v m (0, 0) l = A at *
      by_cases q4 : 12 < l.length
      all_goals
        refine bs.pv (sx := nos) hT Tryz.func8 (by kernel_rfl) (by kernel_rfl) rfl ?_
        repeat' (first | refine wk3 ?_ | (refine wk2 ?_ ?_ <;> intro _) | refine wk4 ?_ | fail); all_goals (conv => whnf)
        all_goals (try (exfalso; simp_all; omega))
        refine loopV (S := Nat × Int) (fun t => l.length - t.1) (fun t => [(0, .isl 3 (l.map pv)), (3, .ptr 0 0 0), (5, I t.2)]) (fun _ => [(0, .row 3 [[I v, I r, I m]] true false)]) 1 1 (fun t => t.2 = t.1 ∧ t.1 ≤ l.length) (0, 0) ⟨rfl, Nat.zero_le _⟩ (Nat.le_refl _) [] rfl (kps) (kps) ?_
        rintro ⟨k, i⟩ ⟨hi, hkk⟩
        dsimp only at hi hkk ⊢
        subst hi
        refine bs.av (sx := nos) hT ?_
        by_cases hlt : k < l.length
        · have e1 := pv_get hlt
          have hs := smP_iff.1 (q3 _ (List.getElem_mem hlt))
          generalize l[k] = x at *
          have n1 := nl_length x.ss
          have n2 := hp_len x.ps
          repeat' (first | refine wk3 ?_ | (refine wk2 ?_ ?_ <;> intro _) | refine wk4 ?_ | fail); all_goals (conv => whnf)
          all_goals first
            | (refine Done.mk ?_; exact ⟨(k + 1, _), [], rfl, kps, kps, ⟨W_succ (by omega), hlt⟩, by dsimp only; omega⟩)
            | (exfalso; clear hT; simp_all; omega)
        · clear hkk
          repeat' (first | refine wk3 ?_ | (refine wk2 ?_ ?_ <;> intro _) | refine wk4 ?_ | fail); all_goals (conv => whnf)
          all_goals first | exact ret_bool rfl | (refine ret_bool ?_; clear hT; simp_all; done) | (exfalso; clear hT; simp_all; done) | (exfalso; clear hT; simp_all; omega)
  · rw [decide_eq_false (show ¬ (2 : Int) ≤ ((l.map pv).length : Int) by omega), show ∀ x, okP (unl false 10) x = (0, 0) from fun x => if_neg (by decide), show unl false 10 = 10 from rfl] at hT
    clear hok c1
    cases hw : within m 0 10000000
    · rw [hw, show ∀ x, okP (unl false 2) x = (0, 0) from fun x => if_neg (by decide), show unl false 2 = 2 from rfl] at hT
      have q4 : ¬ 12 < l.length := by omega
      all_goals
        refine bs.pv (sx := nos) hT Tryz.func8 (by kernel_rfl) (by kernel_rfl) rfl ?_
        repeat' (first | refine wk3 ?_ | (refine wk2 ?_ ?_ <;> intro _) | refine wk4 ?_ | fail); all_goals (conv => whnf)
        all_goals (try (exfalso; simp_all; omega))
        refine loopV (S := Nat × Int) (fun t => l.length - t.1) (fun t => [(0, .isl 3 (l.map pv)), (3, .ptr 0 0 0), (5, I t.2)]) (fun _ => [(0, .row 3 [[I v, I r, I m]] true false)]) 1 1 (fun t => t.2 = t.1 ∧ t.1 ≤ l.length) (0, 0) ⟨rfl, Nat.zero_le _⟩ (Nat.le_refl _) [] rfl (kps) (kps) ?_
        rintro ⟨k, i⟩ ⟨hi, hkk⟩
        dsimp only at hi hkk ⊢
        subst hi
        refine bs.av (sx := nos) hT ?_
        by_cases hlt : k < l.length
        · have e1 := pv_get hlt
          have hs := smP_iff.1 (q3 _ (List.getElem_mem hlt))
          generalize l[k] = x at *
          have n1 := nl_length x.ss
          have n2 := hp_len x.ps
          repeat' (first | refine wk3 ?_ | (refine wk2 ?_ ?_ <;> intro _) | refine wk4 ?_ | fail); all_goals (conv => whnf)
          all_goals first
            | (refine Done.mk ?_; exact ⟨(k + 1, _), [], rfl, kps, kps, ⟨W_succ (by omega), hlt⟩, by dsimp only; omega⟩)
            | (exfalso; clear hT; simp_all; omega)
        · clear hkk
          repeat' (first | refine wk3 ?_ | (refine wk2 ?_ ?_ <;> intro _) | refine wk4 ?_ | fail); all_goals (conv => whnf)
          all_goals first | exact ret_bool rfl | (refine ret_bool ?_; clear hT; simp_all; done) | (exfalso; clear hT; simp_all; done) | (exfalso; clear hT; simp_all; omega)
    · rw [hw, show ∀ x, okP (unl true 2) x = x from fun x => if_pos rfl, show unl true 2 = 0 from rfl] at hT
      generalize arrG v m (0, 0) l = A at *
      have q4 : ¬ 12 < l.length := by omega
      all_goals
        refine bs.pv (sx := nos) hT Tryz.func8 (by kernel_rfl) (by kernel_rfl) rfl ?_
        repeat' (first | refine wk3 ?_ | (refine wk2 ?_ ?_ <;> intro _) | refine wk4 ?_ | fail); all_goals (conv => whnf)
        all_goals (try (exfalso; simp_all; omega))
        refine loopV (S := Nat × Int) (fun t => l.length - t.1) (fun t => [(0, .isl 3 (l.map pv)), (3, .ptr 0 0 0), (5, I t.2)]) (fun _ => [(0, .row 3 [[I v, I r, I m]] true false)]) 1 1 (fun t => t.2 = t.1 ∧ t.1 ≤ l.length) (0, 0) ⟨rfl, Nat.zero_le _⟩ (Nat.le_refl _) [] rfl (kps) (kps) ?_
        rintro ⟨k, i⟩ ⟨hi, hkk⟩
        dsimp only at hi hkk ⊢
        subst hi
        refine bs.av (sx := nos) hT ?_
        by_cases hlt : k < l.length
        · have e1 := pv_get hlt
          have hs := smP_iff.1 (q3 _ (List.getElem_mem hlt))
          generalize l[k] = x at *
          have n1 := nl_length x.ss
          have n2 := hp_len x.ps
          repeat' (first | refine wk3 ?_ | (refine wk2 ?_ ?_ <;> intro _) | refine wk4 ?_ | fail); all_goals (conv => whnf)
          all_goals first
            | (refine Done.mk ?_; exact ⟨(k + 1, _), [], rfl, kps, kps, ⟨W_succ (by omega), hlt⟩, by dsimp only; omega⟩)
            | (exfalso; clear hT; simp_all; omega)
        · clear hkk
          repeat' (first | refine wk3 ?_ | (refine wk2 ?_ ?_ <;> intro _) | refine wk4 ?_ | fail); all_goals (conv => whnf)
          all_goals first | exact ret_bool rfl | (refine ret_bool ?_; clear hT; simp_all; done) | (exfalso; clear hT; simp_all; done) | (exfalso; clear hT; simp_all; omega)
end Go.Proofs.YtdaliaafmcjikaaGreat
