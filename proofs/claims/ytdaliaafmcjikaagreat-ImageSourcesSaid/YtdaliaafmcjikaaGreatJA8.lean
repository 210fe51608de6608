/- A part of the proof: lemmas. -/
import Derived.Test.YtdaliaafmcjikaaGreatJA7
set_option linter.unusedVariables false
set_option linter.unusedSimpArgs false
namespace Go.Proofs.YtdaliaafmcjikaaGreat
open Go Go.Sx
theorem pthE_tr {p : Pth} : pthE (trV p) = pthE p := by
  unfold pthE trV
  simp
theorem tr_tr (p : Pth) : trV (trV p) = p := by
  unfold trV
  simp
theorem trP_tr {p : Pth} (c : pthE p = 0) : trP (trV p) = p := by
  unfold trP
  rw [if_pos (pthE_tr.trans c), tr_tr]
theorem trP_len (p : Pth) : (trP p).ss.length ≤ 4 ∧ (trP p).ps.length ≤ 4 := by
  unfold trP
  by_cases c : pthE p = 0
  · rw [if_pos c]
    obtain ⟨⟨h1, h2⟩, _⟩ := pthE_zero c
    unfold trV
    simp only [List.length_reverse]
    omega
  · rw [if_neg c]
    simp
/-- The table of the law of delays. -/
noncomputable def kD7 (p : Pth) (v r : Int) : PC :=
  ins 12 r12 (ins 35 (one [p.av] ⟨p.av, []⟩) (ins 37 (one [p.av] ⟨.tup [P2 (lenP p).1 (lenP p).2, I (pthE p)], []⟩) (ins 38 (one [p.av, I v] ⟨.tup [P2 (okP (deE p v) (delV p.sq v)).1 (okP (deE p v) (delV p.sq v)).2, I (deE p v)], []⟩)
  (ins 39 (one [p.av, I v, I r] ⟨.tup [P2 (okP (saE p v r) (samV p.sq v r)).1 (okP (saE p v r) (samV p.sq v r)).2, I (saE p v r)], []⟩) (ins 40 (famP fun p => ⟨.tup [(trP p).av, I (pthE p)], []⟩) (ins 41 (one [p.av] ⟨I (pthE p), []⟩) (ins 44 (one [I v] ⟨I (spE v), []⟩) (ins 20 r20 k78))))))))
theorem kD7_ok (aw : PCall Tryz.prog 12 [] ⟨Bo true, []⟩) {p : Pth} (h1 : p.ss.length < 100000) (h2 : p.ps.length < 100000) (v r : Int) : PCOK Tryz.prog (kD7 p v r) := by
  refine ins_ok (fun a res h => ?_) (one_ok (d21 h1 h2) (one_ok (d85 p) (one_ok (d38 p v) (one_ok (d39 p v r) (famA_ok (fun p _ => d40 p) (one_ok (d92 p) (one_ok (d44 v) (r20_ok k78_ok))))))))
  · unfold r12 at h; split at h <;> cases h; exact aw
theorem fst_ne {a : Int} {l : List Int} (h : a ≠ 0) : fstL (a :: l) = a := if_pos h
theorem fst_eq {l : List Int} : fstL (0 :: l) = fstL l := rfl
set_option maxRecDepth 100000 in
set_option maxHeartbeats 8000000 in
theorem d7 (aw : PCall Tryz.prog 12 [] ⟨Bo true, []⟩) (p : Pth) (v r m : Int) : PCall Tryz.prog 7 [p.av, P3 v r m] ⟨Bo true, []⟩ := by
  have n1 := nl_length p.ss
  have n2 := hp_len p.ps
  by_cases q : 6 < p.ss.length
  · have hk : PCOK Tryz.prog (ins 12 r12 pt0) := ins_ok (fun a res h => by unfold r12 at h; split at h <;> cases h; exact aw) pt0_ok
    refine bs.pv (sx := nos) hk Tryz.func7 (by kernel_rfl) (by kernel_rfl) rfl ?_
    repeat' (first | refine wk3 ?_ | (refine wk2 ?_ ?_ <;> intro _) | refine wk4 ?_ | fail); all_goals (conv => whnf)
    all_goals first | exact ret_bool rfl | (exfalso; simp_all; done) | (exfalso; simp_all; omega)
  by_cases q2 : 6 < p.ps.length
  · have hk : PCOK Tryz.prog (ins 12 r12 pt0) := ins_ok (fun a res h => by unfold r12 at h; split at h <;> cases h; exact aw) pt0_ok
    refine bs.pv (sx := nos) hk Tryz.func7 (by kernel_rfl) (by kernel_rfl) rfl ?_
    repeat' (first | refine wk3 ?_ | (refine wk2 ?_ ?_ <;> intro _) | refine wk4 ?_ | fail); all_goals (conv => whnf)
    all_goals first | exact ret_bool rfl | (exfalso; simp_all; done) | (exfalso; simp_all; omega)
  obtain ⟨t1, t2⟩ := trP_len p
  have hk := kD7_ok aw (p := p) (by omega) (by omega) v r
  have f1 := famP_hit (fun p => ⟨.tup [(trP p).av, I (pthE p)], []⟩) p
  unfold kD7 at hk
  by_cases c : pthE p = 0
  rotate_left
  · have s0 := same_hit0 (a := trP p) (by omega) (by omega)
    have e0 : trP p = zPth := if_neg c
    rw [e0] at f1 s0
    have e1 : deE p v = pthE p := fst_ne c
    have e2 : saE p v r = pthE p := fst_ne c
    rw [e1, e2, show ∀ x, okP (pthE p) x = (0, 0) from fun x => if_neg c, show ∀ x, okP (pthE p) x = (0, 0) from fun x => if_neg c, show lenP p = (0, 0) from if_neg c] at hk
    generalize pthE p = E at *
    have s1 : same zPth zPth = true := same_iff.2 rfl
    rw [s1] at s0
    refine bs.pv (sx := nos) hk Tryz.func7 (by kernel_rfl) (by kernel_rfl) rfl ?_
    repeat' (first | refine wk3 ?_ | (refine wk2 ?_ ?_ <;> intro _) | refine wk4 ?_ | fail); all_goals (conv => whnf)
    all_goals first | exact ret_bool rfl | (refine ret_bool ?_; simp_all; done) | (exfalso; simp_all; done) | (exfalso; simp_all; omega)
  obtain ⟨⟨k1, k2⟩, s1, s2⟩ := pthE_zero c
  have c' : pthE (trV p) = 0 := pthE_tr.trans c
  have hk := one_ok (d99 s1 s2) (one_ok (d43 c) hk)
  have f2 := famP_hit (fun p => ⟨.tup [(trP p).av, I (pthE p)], []⟩) (trV p)
  have e0 : trP p = trV p := if_pos c
  rw [e0] at f1 t1 t2
  rw [trP_tr c, c'] at f2
  have g1 := same_hit (a := trV p) (b := trV p) (by omega) (by omega) (by omega) (by omega)
  have g2 := same_hit (a := p) (b := p) (by omega) (by omega) (by omega) (by omega)
  rw [same_iff.2 rfl] at g1 g2
  have e1 : deE p v = spE v := by unfold deE; rw [c, fst_eq]; unfold fstL fstL; by_cases z : spE v = 0 <;> simp [z]
  have el : lenP p = lenV p.sq := if_pos c
  rw [e1, el] at hk
  rw [c] at hk f1
  by_cases z : spE v = 0
  rotate_left
  · have e2 : saE p v r = spE v := by unfold saE; rw [c, fst_eq, fst_ne z]
    rw [e2, show ∀ x, okP (spE v) x = (0, 0) from fun x => if_neg z, show ∀ x, okP (spE v) x = (0, 0) from fun x => if_neg z] at hk
    generalize spE v = F at *
    generalize lenV p.sq = L at *
    generalize trV p = T at *
    refine bs.pv (sx := nos) hk Tryz.func7 (by kernel_rfl) (by kernel_rfl) rfl ?_
    repeat' (first | refine wk3 ?_ | (refine wk2 ?_ ?_ <;> intro _) | refine wk4 ?_ | fail); all_goals (conv => whnf)
    all_goals first | exact ret_bool rfl | (refine ret_bool ?_; simp_all; done) | (exfalso; simp_all; done) | (exfalso; simp_all; omega)
  have hk := one_ok (d45 s1 s2 z) hk
  rw [z, show ∀ x, okP 0 x = x from fun x => if_pos rfl] at hk
  have e2 : saE p v r = raE r := by unfold saE; rw [c, z, fst_eq, fst_eq]; unfold fstL fstL; by_cases z : raE r = 0 <;> simp [z]
  rw [e2] at hk
  by_cases y : raE r = 0
  rotate_left
  · rw [show ∀ x, okP (raE r) x = (0, 0) from fun x => if_neg y] at hk
    cases hw : within r 8000 192000
    rotate_left
    · exact absurd (by unfold raE; rw [hw]; rfl) y
    have y2 : raE r = 2 := by unfold raE; rw [hw]; rfl
    rw [y2] at hk
    generalize lenV p.sq = L at *
    generalize delV p.sq v = D at *
    generalize trV p = T at *
    refine bs.pv (sx := nos) hk Tryz.func7 (by kernel_rfl) (by kernel_rfl) rfl ?_
    repeat' (first | refine wk3 ?_ | (refine wk2 ?_ ?_ <;> intro _) | refine wk4 ?_ | fail); all_goals (conv => whnf)
    all_goals first | exact ret_bool rfl | (refine ret_bool ?_; simp_all; done) | (exfalso; simp_all; done) | (exfalso; simp_all; omega)
  have hk := one_ok (d47 s1 s2 z y) hk
  rw [y, show ∀ x, okP 0 x = x from fun x => if_pos rfl] at hk
  cases hw : within r 8000 192000
  · exact absurd (by unfold raE at y; rw [hw] at y; exact y) (by decide)
  generalize lenV p.sq = L at *
  generalize delV p.sq v = D at *
  generalize samV p.sq v r = S at *
  generalize trV p = T at *
  refine bs.pv (sx := nos) hk Tryz.func7 (by kernel_rfl) (by kernel_rfl) rfl ?_
  repeat' (first | refine wk3 ?_ | (refine wk2 ?_ ?_ <;> intro _) | refine wk4 ?_ | fail); all_goals (conv => whnf)
  all_goals first | exact ret_bool rfl | (refine ret_bool ?_; simp_all; done) | (exfalso; simp_all; done) | (exfalso; simp_all; omega)
end Go.Proofs.YtdaliaafmcjikaaGreat
