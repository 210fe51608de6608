/- A part of the proof: lemmas. -/
import Derived.Test.YtmbgehpcjihfpaaAL5
set_option linter.unusedVariables false
set_option linter.unusedSimpArgs false
namespace Go.Proofs.Ytmbgehpcjihfpaa
open Go Go.Sx
/-! ### Loudspeakers and their seats -/
structure Sp where
  p : Pl
  g : Int
  d : Int
abbrev sv (s : Sp) : List AV := [I s.p.x, I s.p.y, I s.p.z, I s.g, I s.d]
theorem sv_length (l : List Sp) : (l.map sv).length = l.length := by simp
theorem sv_get {l : List Sp} {k : Nat} (h : k < l.length) : (l.map sv)[((k : Nat) : Int).toNat]? = some (sv l[k]) := by simp [h]
theorem sv_inj {a b : List Sp} (h : a.map sv = b.map sv) : a = b := by
  refine List.map_inj_right (fun x y hxy => ?_) |>.1 h
  obtain ⟨⟨a, b, c⟩, d, e⟩ := x
  obtain ⟨⟨a', b', c'⟩, d', e'⟩ := y
  simp only [sv, List.cons.injEq, AV.int.injEq, true_and, and_true] at hxy
  obtain ⟨rfl, rfl, rfl, rfl, rfl⟩ := hxy
  rfl
/-- The first that is so. -/
def ixf (f : Sp → Bool) : Nat → List Sp → Int
  | _, [] => -1
  | i, s :: l => if f s = true then i else ixf f (i + 1) l
theorem ixf_any (f : Sp → Bool) : ∀ (l : List Sp) (i : Nat), decide (0 ≤ ixf f i l) = l.any f
  | [], _ => rfl
  | s :: l, i => by
    rw [ixf, List.any_cons]
    cases h : f s with
    | true => rw [if_pos rfl, Bool.true_or]; exact decide_eq_true (by omega)
    | false => rw [if_neg (by simp), Bool.false_or]; exact ixf_any f l _
def nr (p : Pl) (s : Sp) : Bool := decide (sqW s.p p < 100)
abbrev pcs (p : Pl) : List AV := [I p.x, I p.y, I p.z]
theorem famW30_ok : PCOK Try.prog (ins 30 (famW (fun _ => True) fun q => ⟨Bo (decide (sqW q.1 q.2 < 100)), []⟩) pt0) := famA_ok (fun q h => e30 q.1 q.2) pt0_ok
theorem e29 (p : Pl) (s : Sp) : PCall Try.prog 29 [.agg (sv s), .ipt (pcs p)] ⟨Bo (nr p s), []⟩ := by
  have g := famW_hit (p := fun _ => True) (fun q => ⟨Bo (decide (sqW q.1 q.2 < 100)), []⟩) (a := s.p) (b := p) trivial
  dsimp only at g
  unfold nr
  generalize decide (sqW s.p p < 100) = S at *
  obtain ⟨⟨ax, ay, az⟩, sg, d⟩ := s
  obtain ⟨bx, hby, bz⟩ := p
  refine bs.pv (sx := nos) famW30_ok Try.func29 (by kernel_rfl) (by kernel_rfl) rfl ?_
  repeat' (first | refine wk3 ?_ | (refine wk2 ?_ ?_ <;> intro _) | refine wk4 ?_ | fail); all_goals (conv => whnf)
  all_goals exact ret_bool rfl
theorem e18 (s : Sp) : PCall Try.prog 18 [.agg (sv s)] ⟨Bo (decide (10000 < s.d)), []⟩ := by
  obtain ⟨⟨ax, ay, az⟩, sg, d⟩ := s
  refine bs.pv (sx := nos) pt0_ok Try.func18 (by kernel_rfl) (by kernel_rfl) rfl ?_
  repeat' (first | refine wk3 ?_ | (refine wk2 ?_ ?_ <;> intro _) | refine wk4 ?_ | fail); all_goals (conv => whnf)
  all_goals exact ret_bool rfl
def r18 : List AV → Option PRes
  | [.agg [_, _, _, _, .int .i64 d]] => some ⟨Bo (decide (10000 < d)), []⟩
  | _ => none
noncomputable def kB1 : PC := ins 29 (famA (fun _ : Sp × Pl => True) (fun q => [.agg (sv q.1), .ipt (pcs q.2)]) (fun q => ⟨Bo (nr q.2 q.1), []⟩)) (ins 18 (famA (fun _ : Sp => True) (fun s => [.agg (sv s)]) (fun s => ⟨Bo (decide (10000 < s.d)), []⟩)) pt0)
theorem kB1_ok : PCOK Try.prog kB1 := famA_ok (fun q h => e29 q.2 q.1) (famA_ok (fun s h => e18 s) pt0_ok)
theorem h29 (p : Pl) (s : Sp) : famA (fun _ : Sp × Pl => True) (fun q => [.agg (sv q.1), .ipt (pcs q.2)]) (fun q => ⟨Bo (nr q.2 q.1), []⟩) [.agg (sv s), .ipt (pcs p)] = some ⟨Bo (nr p s), []⟩ :=
  famA_hit (p := fun _ : Sp × Pl => True) (g := fun q => [.agg (sv q.1), .ipt (pcs q.2)]) (r := fun q => ⟨Bo (nr q.2 q.1), []⟩) (k := (s, p)) (fun j hj => by
    obtain ⟨⟨⟨a, b, c⟩, d, e⟩, a1, b1, c1⟩ := j
    obtain ⟨⟨x, y, z⟩, g, dd⟩ := s
    obtain ⟨px, py, pz⟩ := p
    simp only [sv, pcs, List.cons.injEq, AV.agg.injEq, AV.ipt.injEq, AV.int.injEq, true_and, and_true] at hj
    obtain ⟨⟨rfl, rfl, rfl, rfl, rfl⟩, rfl, rfl, rfl⟩ := hj
    rfl) trivial
theorem h18 (s : Sp) : famA (fun _ : Sp => True) (fun s => [.agg (sv s)]) (fun s => ⟨Bo (decide (10000 < s.d)), []⟩) [.agg (sv s)] = some ⟨Bo (decide (10000 < s.d)), []⟩ :=
  famA_hit (p := fun _ : Sp => True) (g := fun s => [.agg (sv s)]) (r := fun s => ⟨Bo (decide (10000 < s.d)), []⟩) (k := s) (fun j hj => by
    obtain ⟨⟨a, b, c⟩, d, e⟩ := j
    obtain ⟨⟨x, y, z⟩, g, dd⟩ := s
    simp only [sv, List.cons.injEq, AV.agg.injEq, AV.int.injEq, true_and, and_true] at hj
    obtain ⟨rfl, rfl, rfl, rfl, rfl⟩ := hj
    rfl) trivial
set_option maxRecDepth 100000 in
set_option maxHeartbeats 4000000 in
theorem e27_29 {p : Pl} {ls : List Sp} (hl : ls.length < 100000) : PCall Try.prog 27 [.isl 5 (ls.map sv), .func 29 [] [.ipt (pcs p)]] ⟨I (ixf (nr p) 0 ls), []⟩ := by
  have e3 := sv_length ls
  refine bs.pv (sx := nos) kB1_ok Try.func27 (by kernel_rfl) (by kernel_rfl) rfl ?_
  repeat' (first | refine wk3 ?_ | (refine wk2 ?_ ?_ <;> intro _) | refine wk4 ?_ | fail); all_goals (conv => whnf)
  refine loopV (S := Nat × Int) (fun t => ls.length - t.1) (fun t => [(0, .isl 5 (ls.map sv)), (1, .func 29 [] [.ipt (pcs p)]), (7, I (ls.map sv).length), (8, I t.2)]) (fun _ => []) 0 0 (fun t => t.2 = t.1 ∧ t.1 ≤ ls.length ∧ ixf (nr p) t.1 (ls.drop t.1) = ixf (nr p) 0 ls) (0, 0) ⟨rfl, Nat.zero_le _, rfl⟩ (Nat.le_refl _) [] rfl (kps) (kps) ?_
  rintro ⟨k, i⟩ ⟨hi, hk, hh⟩
  dsimp only at hi hk hh ⊢
  subst hi
  generalize ixf (nr p) 0 ls = R at *
  refine bs.av (sx := nos) kB1_ok ?_
  by_cases hlt : k < ls.length
  · have e1 := sv_get hlt
    rw [List.drop_eq_getElem_cons hlt, ixf] at hh
    generalize ls[k] = x at *
    obtain ⟨⟨x, y, z⟩, g, d⟩ := x
    have g1 := h29 p ⟨⟨x, y, z⟩, g, d⟩
    by_cases hb : (nr p) ⟨⟨x, y, z⟩, g, d⟩ = true
    · rw [if_pos hb] at hh
      try rw [hb] at g1
      try rw [Bool.eq_false_iff.2 hb] at g1
      repeat' (first | refine wk3 ?_ | (refine wk2 ?_ ?_ <;> intro _) | refine wk4 ?_ | fail); all_goals (conv => whnf)
      exact ret_int hh
    · rw [if_neg hb] at hh
      try rw [hb] at g1
      try rw [Bool.eq_false_iff.2 hb] at g1
      repeat' (first | refine wk3 ?_ | (refine wk2 ?_ ?_ <;> intro _) | refine wk4 ?_ | fail); all_goals (conv => whnf)
      exact Done.mk ⟨(k + 1, _), [], rfl, kps, kps, ⟨W_succ (by omega), hlt, hh⟩, by dsimp only; omega⟩
  · rw [List.drop_of_length_le (by omega)] at hh
    repeat' (first | refine wk3 ?_ | (refine wk2 ?_ ?_ <;> intro _) | refine wk4 ?_ | fail); all_goals (conv => whnf)
    exact ret_int hh
theorem e17_29 {p : Pl} {ls : List Sp} (hl : ls.length < 100000) : PCall Try.prog 17 [.isl 5 (ls.map sv), .func 29 [] [.ipt (pcs p)]] ⟨Bo (ls.any (nr p)), []⟩ := by
  refine bs.pv (sx := nos) (one_ok (e27_29 (p := p) hl) pt0_ok) Try.func17 (by kernel_rfl) (by kernel_rfl) rfl ?_
  have g0 := one_hit [.isl 5 (ls.map sv), .func 29 [] [.ipt (pcs p)]] ⟨I (ixf (nr p) 0 ls), []⟩
  have hx := ixf_any (nr p) ls 0
  generalize ixf (nr p) 0 ls = R at *
  repeat' (first | refine wk3 ?_ | (refine wk2 ?_ ?_ <;> intro _) | refine wk4 ?_ | fail); all_goals (conv => whnf)
  all_goals exact ret_bool hx
set_option maxRecDepth 100000 in
set_option maxHeartbeats 4000000 in
theorem e27_18  {ls : List Sp} (hl : ls.length < 100000) : PCall Try.prog 27 [.isl 5 (ls.map sv), .func 18 [] []] ⟨I (ixf (fun s : Sp => decide (10000 < s.d)) 0 ls), []⟩ := by
  have e3 := sv_length ls
  refine bs.pv (sx := nos) kB1_ok Try.func27 (by kernel_rfl) (by kernel_rfl) rfl ?_
  repeat' (first | refine wk3 ?_ | (refine wk2 ?_ ?_ <;> intro _) | refine wk4 ?_ | fail); all_goals (conv => whnf)
  refine loopV (S := Nat × Int) (fun t => ls.length - t.1) (fun t => [(0, .isl 5 (ls.map sv)), (1, .func 18 [] []), (7, I (ls.map sv).length), (8, I t.2)]) (fun _ => []) 0 0 (fun t => t.2 = t.1 ∧ t.1 ≤ ls.length ∧ ixf (fun s : Sp => decide (10000 < s.d)) t.1 (ls.drop t.1) = ixf (fun s : Sp => decide (10000 < s.d)) 0 ls) (0, 0) ⟨rfl, Nat.zero_le _, rfl⟩ (Nat.le_refl _) [] rfl (kps) (kps) ?_
  rintro ⟨k, i⟩ ⟨hi, hk, hh⟩
  dsimp only at hi hk hh ⊢
  subst hi
  generalize ixf (fun s : Sp => decide (10000 < s.d)) 0 ls = R at *
  refine bs.av (sx := nos) kB1_ok ?_
  by_cases hlt : k < ls.length
  · have e1 := sv_get hlt
    rw [List.drop_eq_getElem_cons hlt, ixf] at hh
    generalize ls[k] = x at *
    obtain ⟨⟨x, y, z⟩, g, d⟩ := x
    have g1 := h18 ⟨⟨x, y, z⟩, g, d⟩
    dsimp only at g1
    by_cases hb : (fun s : Sp => decide (10000 < s.d)) ⟨⟨x, y, z⟩, g, d⟩ = true
    · rw [if_pos hb] at hh
      dsimp only at hb
      try rw [hb] at g1
      try rw [Bool.eq_false_iff.2 hb] at g1
      repeat' (first | refine wk3 ?_ | (refine wk2 ?_ ?_ <;> intro _) | refine wk4 ?_ | fail); all_goals (conv => whnf)
      exact ret_int hh
    · rw [if_neg hb] at hh
      dsimp only at hb
      try rw [hb] at g1
      try rw [Bool.eq_false_iff.2 hb] at g1
      repeat' (first | refine wk3 ?_ | (refine wk2 ?_ ?_ <;> intro _) | refine wk4 ?_ | fail); all_goals (conv => whnf)
      exact Done.mk ⟨(k + 1, _), [], rfl, kps, kps, ⟨W_succ (by omega), hlt, hh⟩, by dsimp only; omega⟩
  · rw [List.drop_of_length_le (by omega)] at hh
    repeat' (first | refine wk3 ?_ | (refine wk2 ?_ ?_ <;> intro _) | refine wk4 ?_ | fail); all_goals (conv => whnf)
    exact ret_int hh
theorem e17_18  {ls : List Sp} (hl : ls.length < 100000) : PCall Try.prog 17 [.isl 5 (ls.map sv), .func 18 [] []] ⟨Bo (ls.any (fun s : Sp => decide (10000 < s.d))), []⟩ := by
  refine bs.pv (sx := nos) (one_ok (e27_18 hl) pt0_ok) Try.func17 (by kernel_rfl) (by kernel_rfl) rfl ?_
  have g0 := one_hit [.isl 5 (ls.map sv), .func 18 [] []] ⟨I (ixf (fun s : Sp => decide (10000 < s.d)) 0 ls), []⟩
  have hx := ixf_any (fun s : Sp => decide (10000 < s.d)) ls 0
  generalize ixf (fun s : Sp => decide (10000 < s.d)) 0 ls = R at *
  repeat' (first | refine wk3 ?_ | (refine wk2 ?_ ?_ <;> intro _) | refine wk4 ?_ | fail); all_goals (conv => whnf)
  all_goals exact ret_bool hx
end Go.Proofs.Ytmbgehpcjihfpaa
