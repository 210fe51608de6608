/- A part of the proof: lemmas. -/
import Derived.Test.YtddhjopopelkjaaGreatZw11
import Derived.Test.YtddhjopopelkjaaGreatZw8
set_option linter.unusedVariables false
set_option linter.unusedSimpArgs false
namespace Go.Proofs.YtddhjopopelkjaaGreat
open Go Go.Sx
/-! ### The law of mirrors there and back -/
set_option maxRecDepth 1000000 in
theorem aw44 : isR (.bool true) (pcF (exT [264, 207] boxT) 44 []) = true := by kernel_rfl
theorem housed_ok : PCall Tryz.prog 44 [] ⟨.bool true, []⟩ := reckoned boxT_ok aw44
/-- A right hall with a right setting, within the limits. -/
def rightB (h : Hal) (s : Stg) : Bool := (fewB h && (decide (s.hs.length ≤ 6) && decide (s.dr.length ≤ 15))) && (decide (h.err = 0) && decide (setE h s = 0))
theorem right_sit {h : Hal} {s : Stg} (r : rightB h s = true) : Sit h s := by
  unfold rightB at r
  simp only [Bool.and_eq_true, decide_eq_true_eq] at r
  obtain ⟨⟨r1, r2, r3⟩, r4, r5⟩ := r
  exact sit_of (few_ok r1) ⟨by omega, by omega⟩ (by unfold serr; rw [if_pos r4]; exact r5)
set_option maxRecDepth 100000 in
set_option maxHeartbeats 8000000 in
theorem d45 (h : Hal) (s : Stg) : PCall Tryz.prog 45 [.agg (stgL h s)] ⟨Bo (rightB h s), []⟩ := by
  have l1 := nl_length s.hs
  have l2 := nl_length s.dr
  unfold rightB
  by_cases hF : fewB h = true
  rotate_left
  · have hF : fewB h = false := by simpa using hF
    have hk := one_ok (c18 h) pt0_ok
    rw [hF] at hk ⊢
    refine bs.pv (sx := nos) hk Tryz.func45 (by kernel_rfl) (by kernel_rfl) rfl ?_
    repeat' (first | refine wk3 ?_ | (refine wk2 ?_ ?_ <;> intro _) | refine wk4 ?_ | fail); all_goals (conv => whnf)
    all_goals exact ret_bool rfl
  have ok := few_ok hF
  by_cases hl : s.hs.length ≤ 6 ∧ s.dr.length ≤ 15
  rotate_left
  · have hk := one_ok (c18 h) pt0_ok
    have e : (decide (s.hs.length ≤ 6) && decide (s.dr.length ≤ 15)) = false := by
      rw [Bool.eq_false_iff, ne_eq, Bool.and_eq_true, decide_eq_true_eq, decide_eq_true_eq]; exact hl
    rw [e, Bool.and_false, Bool.false_and]
    rw [hF] at hk
    refine bs.pv (sx := nos) hk Tryz.func45 (by kernel_rfl) (by kernel_rfl) rfl ?_
    repeat' (first | refine wk3 ?_ | (refine wk2 ?_ ?_ <;> intro _) | refine wk4 ?_ | fail); all_goals (conv => whnf)
    all_goals first
      | exact ret_bool rfl
      | (exfalso; simp_all; omega)
  have hs : s.few := ⟨by omega, by omega⟩
  have hk := one_ok (c18 h) (one_ok (c65k ok) (one_ok (c75 ok.f hs) pt0_ok))
  rw [decide_eq_true hl.1, decide_eq_true hl.2]
  rw [hF] at hk ⊢
  by_cases e1 : h.err = 0 <;> by_cases e2 : setE h s = 0
  all_goals
    refine bs.pv (sx := nos) hk Tryz.func45 (by kernel_rfl) (by kernel_rfl) rfl ?_
    repeat' (first | refine wk3 ?_ | (refine wk2 ?_ ?_ <;> intro _) | refine wk4 ?_ | fail); all_goals (conv => whnf)
  all_goals first
    | (refine ret_bool ?_; simp_all; done)
    | (exfalso; simp_all; done)
theorem d49 (x y z u v w : Int) : PCall Tryz.prog 49 [P3 x y z, P3 u v w] ⟨I (square x y z u v w), []⟩ := by
  refine bs.pv (sx := nos) pt0_ok Tryz.func49 (by kernel_rfl) (by kernel_rfl) rfl ?_
  repeat' (first | refine wk3 ?_ | (refine wk2 ?_ ?_ <;> intro _) | refine wk4 ?_ | fail); all_goals (conv => whnf)
  all_goals exact ret_int rfl
theorem emod_tmod {n b : Int} (hb : 0 < b) : (n.tmod b < 0 ∧ n % b = n.tmod b + b) ∨ (¬ n.tmod b < 0 ∧ n % b = n.tmod b) := by
  have e1 := Int.tmod_add_mul_tdiv n b
  have e2 := Int.tmod_lt_of_pos n hb
  have e3 := Int.lt_tmod_of_pos n hb
  by_cases h : n.tmod b < 0
  · exact .inl ⟨h, ((Int.ediv_emod_unique hb (r := n.tmod b + b) (q := n.tdiv b - 1)).2 ⟨by rw [Int.mul_sub]; omega, by omega, by omega⟩).2⟩
  · exact .inr ⟨h, ((Int.ediv_emod_unique hb (r := n.tmod b) (q := n.tdiv b)).2 ⟨by omega, by omega, by omega⟩).2⟩
abbrev mdOk (b : Int) : Prop := 0 < b ∧ b < 4611686018427387904
theorem d46 {n b : Int} (h : mdOk b) : PCall Tryz.prog 46 [I n, I b] ⟨I (n % b), []⟩ := by
  obtain ⟨hb, hb2⟩ := h
  have hz : ¬ b = 0 := by omega
  have e3 := Int.lt_tmod_of_pos n hb
  rcases emod_tmod (n := n) hb with ⟨c1, c2⟩ | ⟨c1, c2⟩
  · have w : IntKind.i64.wrap (n.tmod b + b) = n.tmod b + b := W_eq (by omega) (by omega)
    rw [c2, ← w]
    refine bs.pv (sx := nos) pt0_ok Tryz.func46 (by kernel_rfl) (by kernel_rfl) rfl ?_
    repeat' (first | refine wk3 ?_ | (refine wk2 ?_ ?_ <;> intro _) | refine wk4 ?_ | fail); all_goals (conv => whnf)
    all_goals exact ret_int rfl
  · rw [c2]
    refine bs.pv (sx := nos) pt0_ok Tryz.func46 (by kernel_rfl) (by kernel_rfl) rfl ?_
    repeat' (first | refine wk3 ?_ | (refine wk2 ?_ ?_ <;> intro _) | refine wk4 ?_ | fail); all_goals (conv => whnf)
    all_goals exact ret_int rfl
def r46 : List AV → Option PRes
  | [.int .i64 n, .int .i64 b] => asr (decide (mdOk b)) ⟨I (n % b), []⟩
  | _ => none
noncomputable abbrev cPl (h : Hal) (s : Stg) : List AV → Option PRes := famA (fun _ : Int => True) (fun i => [h.av, s.av, I i]) (fun i => ⟨.tup [P2 (planeA h s i).1 (planeA h s i).2, I (surE h s i)], []⟩)
noncomputable abbrev cMir : List AV → Option PRes := famA (fun _ : Int × Int × Int × Int × Int => True) (fun v => [P2 v.1 v.2.1, P3 v.2.2.1 v.2.2.2.1 v.2.2.2.2]) (fun v => ⟨mirV v.1 v.2.1 v.2.2.1 v.2.2.2.1 v.2.2.2.2, []⟩)
noncomputable abbrev cAwy : List AV → Option PRes := famA (fun _ : (Int × Int × Int) × (Int × Int × Int) => True) (fun v => [P3 v.1.1 v.1.2.1 v.1.2.2, P3 v.2.1 v.2.2.1 v.2.2.2]) (fun v => ⟨I (square v.1.1 v.1.2.1 v.1.2.2 v.2.1 v.2.2.1 v.2.2.2), []⟩)
def r44 : List AV → Option PRes
  | [] => some ⟨Bo true, []⟩
  | _ => none
noncomputable def kT7 (h : Hal) (s : Stg) : PC := ins 44 r44 (ins 45 (one [.agg (stgL h s)] ⟨Bo true, []⟩) (ins 46 r46 (ins 47 (cPl h s) (ins 48 cMir (ins 49 cAwy (ins 19 (one [h.av] ⟨h.av, []⟩) (ins 20 (one [s.av] ⟨s.av, []⟩) k78)))))))
theorem kT7_ok {h : Hal} {s : Stg} (r : rightB h s = true) (hk : h.ok) (hs : s.few) : PCOK Tryz.prog (kT7 h s) := by
  have h45 := d45 h s
  rw [r] at h45
  refine ins_ok (fun a res h => ?_) (one_ok h45 (ins_ok (fun a res h => ?_) (famA_ok (fun i _ => c54 hk hs i) (famA_ok (fun v _ => c32 _ _ _ _ _) (famA_ok (fun v _ => d49 _ _ _ _ _ _) (one_ok (c22f hk.f) (one_ok (c29 hs) k78_ok)))))))
  · unfold r44 at h; split at h <;> cases h; exact housed_ok
  · unfold r46 at h; split at h
    · obtain ⟨h1, rfl⟩ := asr_some h; exact d46 (of_decide_eq_true h1)
    · cases h
/-- So many surfaces. -/
abbrev rawN (h : Hal) : Int := IntKind.i64.wrap (IntKind.i64.wrap (((h.ws.map Wal.av).length : Int) + 2) + ((h.ks.map Can.av).length : Int))
theorem rawN_eq {h : Hal} {s : Stg} (g : Sit h s) : rawN h = nsur h := by
  obtain ⟨f1, f2, f3, f4, f5, f6⟩ := g.ok.f
  unfold rawN nsur
  rw [List.length_map, List.length_map, W_eq (n := (h.ws.length : Int) + 2) (by omega) (by omega), W_eq (by omega) (by omega)]
theorem nsur_pos (h : Hal) : 0 < nsur h := by unfold nsur; omega
theorem md_hit {h : Hal} {s : Stg} (g : Sit h s) (n : Int) : r46 [I n, I (rawN h)] = some ⟨I (n % nsur h), []⟩ := by
  have e := rawN_eq g
  have hp := nsur_pos h
  obtain ⟨f1, f2, f3, f4, f5, f6⟩ := g.ok.f
  refine (asr_of ⟨by omega, ?_⟩).trans (by rw [e])
  rw [e]; unfold nsur; omega
theorem sk_mod {h : Hal} (n : Int) : SK h (n % nsur h) := by
  have hp := nsur_pos h
  exact sk_of (Int.emod_nonneg _ (by omega)) (Int.emod_lt_of_pos _ hp)
theorem serr_sit {h : Hal} {s : Stg} (r : rightB h s = true) : serr h s = 0 := by
  unfold rightB at r
  simp only [Bool.and_eq_true, decide_eq_true_eq] at r
  unfold serr; rw [if_pos r.2.1]; exact r.2.2
theorem pl_hit {h : Hal} {s : Stg} (r : rightB h s = true) (n : Int) : cPl h s [h.av, s.av, I (n % nsur h)] = some ⟨.tup [P2 (planeV h s (n % nsur h)).1 (planeV h s (n % nsur h)).2, I 0], []⟩ := by
  have hp := nsur_pos h
  have h0 := Int.emod_nonneg n (show nsur h ≠ 0 by omega)
  have h1 := Int.emod_lt_of_pos n hp
  have e0 : surE h s (n % nsur h) = 0 := by
    unfold surE
    rw [if_pos (serr_sit r), if_pos (within_iff.2 ⟨h0, by omega⟩)]
  have e1 : planeA h s (n % nsur h) = planeV h s (n % nsur h) := by unfold planeA; rw [if_pos e0]
  rw [← e1, ← e0]
  exact famA_hit (p := fun _ : Int => True) (g := fun i => [h.av, s.av, I i]) (r := fun i => ⟨.tup [P2 (planeA h s i).1 (planeA h s i).2, I (surE h s i)], []⟩) (fun j hj => by
    simp only [List.cons.injEq, AV.int.injEq, true_and, and_true] at hj
    rw [hj]) trivial
theorem mir_hit (k a x y z : Int) : cMir [P2 k a, P3 x y z] = some ⟨mirV k a x y z, []⟩ :=
  famA_hit (p := fun _ : Int × Int × Int × Int × Int => True) (g := fun v => [P2 v.1 v.2.1, P3 v.2.2.1 v.2.2.2.1 v.2.2.2.2]) (r := fun v => ⟨mirV v.1 v.2.1 v.2.2.1 v.2.2.2.1 v.2.2.2.2, []⟩) (k := (k, a, x, y, z)) (fun j hj => by
    simp only [List.cons.injEq, AV.agg.injEq, AV.int.injEq, true_and, and_true] at hj
    obtain ⟨⟨h1, h2⟩, h3, h4, h5⟩ := hj
    rw [h1, h2, h3, h4, h5]) trivial
theorem awy_hit (p q : Int × Int × Int) : cAwy [P3 p.1 p.2.1 p.2.2, P3 q.1 q.2.1 q.2.2] = some ⟨I (square p.1 p.2.1 p.2.2 q.1 q.2.1 q.2.2), []⟩ :=
  famA_hit (p := fun _ : (Int × Int × Int) × (Int × Int × Int) => True) (g := fun v => [P3 v.1.1 v.1.2.1 v.1.2.2, P3 v.2.1 v.2.2.1 v.2.2.2]) (r := fun v => ⟨I (square v.1.1 v.1.2.1 v.1.2.2 v.2.1 v.2.2.1 v.2.2.2), []⟩) (k := (p, q)) (fun j hj => by
    simp only [List.cons.injEq, AV.agg.injEq, AV.int.injEq, true_and, and_true] at hj
    obtain ⟨⟨h1, h2, h3⟩, h4, h5, h6⟩ := hj
    rw [h1, h2, h3, h4, h5, h6]) trivial
abbrev A3 (p : Int × Int × Int) : AV := P3 p.1 p.2.1 p.2.2
abbrev sqr (p q : Int × Int × Int) : Int := square p.1 p.2.1 p.2.2 q.1 q.2.1 q.2.2
structure MirS (q : Int × Int) (p p' u u' : Int × Int × Int) (D : Int) : Prop where
  a : cMir [P2 q.1 q.2, A3 p] = some ⟨.tup [A3 p', I 0], []⟩
  b : cMir [P2 q.1 q.2, A3 u] = some ⟨.tup [A3 u', I 0], []⟩
  s : cAwy [A3 p, A3 u] = some ⟨I D, []⟩
  t : cAwy [A3 p', A3 u'] = some ⟨I D, []⟩
theorem mir_one {q : Int × Int} {p : Int × Int × Int} (h : rmirErr q.1 q.2 p.1 p.2.1 p.2.2 = 0) : cMir [P2 q.1 q.2, A3 p] = some ⟨.tup [A3 (mv q p), I 0], []⟩ := by
  rw [mir_hit]
  unfold mirV
  rw [mirErr_eq, mirP_eq, h]
  have : rmirP q.1 q.2 p.1 p.2.1 p.2.2 = mv q p := by unfold rmirP mv; rw [if_pos h]
  rw [this]
theorem mir_all {qs : List (Int × Int)} (hq : ∀ q ∈ qs, PlB q) (hl : qs.length ≤ 4) {p u : Int × Int × Int} (hp : Sup 5000 p) (hu : Sup 5000 u) {i : Nat} (hi : i < (qs ++ qs.reverse).length) :
    ∃ D, MirS (qs ++ qs.reverse)[i] (posn qs p i) (posn qs p (i + 1)) (posn qs u i) (posn qs u (i + 1)) D := by
  obtain ⟨a1, a2⟩ := posn_step hq hl hp hi
  obtain ⟨b1, b2⟩ := posn_step hq hl hu hi
  generalize (qs ++ qs.reverse)[i] = q at *
  rw [← a2, ← b2]
  refine ⟨sqr (posn qs p i) (posn qs u i), mir_one a1, mir_one b1, awy_hit _ _, ?_⟩
  rw [awy_hit]
  have e := rmir_square a1 b1
  show some (⟨I (sqr (mv q (posn qs p i)) (mv q (posn qs u i))), []⟩ : PRes) = _
  unfold sqr mv
  rw [e]
/-- The two ends lie within the greatest place. -/
def endsB (p u : Int × Int × Int) : Bool := ((within p.1 (-5000) 5000 && within p.2.1 (-5000) 5000) && within p.2.2 (-5000) 5000) && ((within u.1 (-5000) 5000 && within u.2.1 (-5000) 5000) && within u.2.2 (-5000) 5000)
theorem ends_sup {p u : Int × Int × Int} (h : endsB p u = true) : Sup 5000 p ∧ Sup 5000 u := by
  unfold endsB at h
  simp only [Bool.and_eq_true, within_iff] at h
  exact ⟨⟨h.1.1.1, h.1.1.2, h.1.2⟩, ⟨h.2.1.1, h.2.1.2, h.2.2⟩⟩
abbrev E6 (p u : Int × Int × Int) : AV := .agg [I p.1, I p.2.1, I p.2.2, I u.1, I u.2.1, I u.2.2]
set_option maxRecDepth 100000 in
set_option maxHeartbeats 8000000 in
theorem d7_no {h : Hal} {s : Stg} {sf : List Int} {p u : Int × Int × Int} (n : ¬ (rightB h s = true ∧ sf.length ≤ 4)) : PCall Tryz.prog 7 [.agg (stgL h s), .isl 1 (nl sf), E6 p u] ⟨Bo true, []⟩ := by
  have l1 := nl_length sf
  have hk : PCOK Tryz.prog (ins 44 r44 (ins 45 (one [.agg (stgL h s)] ⟨Bo (rightB h s), []⟩) pt0)) := by
    refine ins_ok (fun a res h => ?_) (one_ok (d45 h s) pt0_ok)
    unfold r44 at h; split at h <;> cases h; exact housed_ok
  by_cases r : rightB h s = true
  · rw [r] at hk
    have n : 4 < sf.length := Nat.lt_of_not_le fun c => n ⟨r, c⟩
    refine bs.pv (sx := nos) hk Tryz.func7 (by kernel_rfl) (by kernel_rfl) rfl ?_
    repeat' (first | refine wk3 ?_ | (refine wk2 ?_ ?_ <;> intro _) | refine wk4 ?_ | fail); all_goals (conv => whnf)
    all_goals exact ret_bool rfl
  · have r : rightB h s = false := by simpa using r
    rw [r] at hk
    refine bs.pv (sx := nos) hk Tryz.func7 (by kernel_rfl) (by kernel_rfl) rfl ?_
    repeat' (first | refine wk3 ?_ | (refine wk2 ?_ ?_ <;> intro _) | refine wk4 ?_ | fail); all_goals (conv => whnf)
    all_goals exact ret_bool rfl
end Go.Proofs.YtddhjopopelkjaaGreat
