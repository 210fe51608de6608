/- A part of the proof: lemmas. -/
import Derived.Test.YtdaliaafmcjikaaGreatJE2
set_option linter.unusedVariables false
set_option linter.unusedSimpArgs false
namespace Go.Proofs.YtdaliaafmcjikaaGreat
open Go Go.Sx
theorem r32_ok {pt : PC} (h : PCOK Tryz.prog pt) : PCOK Tryz.prog (ins 137 r32 pt) := ins_ok (fun a res h => by unfold r32 at h; split at h <;> cases h; exact c32 _ _ _ _ _) h
noncomputable abbrev plT (h : Hal) (s : Stg) : List AV → Option PRes := famA (fun i : Int => 0 ≤ i ∧ i < nsur h) (fun i => [h.av, s.av, I i]) (fun i => ⟨.tup [P2 (planeV h s i).1 (planeV h s i).2, I 0], []⟩)
theorem plT_ok {h : Hal} (hk : h.ok) {s : Stg} (hs : s.few) (h0 : serr h s = 0) {pt : PC} (hp : PCOK Tryz.prog pt) : PCOK Tryz.prog (ins 136 (plT h s) pt) :=
  famA_ok (fun i hi => by
    have e : surE h s i = 0 := by
      unfold surE
      rw [if_pos h0, if_pos (within_iff.2 (by omega))]
    have e2 : planeA h s i = planeV h s i := by unfold planeA; rw [if_pos e]
    have := c54 hk hs i
    rw [e, e2] at this
    exact this) hp
theorem plT_hit {h : Hal} {s : Stg} {i : Int} (hi : 0 ≤ i ∧ i < nsur h) : plT h s [h.av, s.av, I i] = some ⟨.tup [P2 (planeV h s i).1 (planeV h s i).2, I 0], []⟩ :=
  famA_hit (p := fun i : Int => 0 ≤ i ∧ i < nsur h) (g := fun i => [h.av, s.av, I i]) (r := fun i => ⟨.tup [P2 (planeV h s i).1 (planeV h s i).2, I 0], []⟩) (fun j hj => by
    simp only [List.cons.injEq, AV.int.injEq, true_and, and_true] at hj
    rw [hj]) hi
set_option maxRecDepth 100000 in
set_option maxHeartbeats 8000000 in
theorem d82 {h : Hal} (hk : h.ok) {s : Stg} (hs : s.few) (h0 : serr h s = 0) {p : Pl3} (hp : Near 5000 p) {l : List Int} (hl : l.length ≤ 4) (hi : ∀ n ∈ l, 0 ≤ n ∧ n < nsur h) :
    PCall Tryz.prog 82 [.agg (stgL h s), P3 p.1 p.2.1 p.2.2, .isl 1 (nl l)] ⟨.asl 0 0 (l.length + 1), [(3, imC (im1 h s) p l l.length)]⟩ := by
  have g := sit_of hk hs h0
  have hkk := plT_ok hk hs h0 (r32_ok pt0_ok)
  have ll := nl_length l
  refine bs.pv (sx := nos) hkk Tryz.func82 (by kernel_rfl) (by kernel_rfl) rfl ?_
  refine loopV (S := Nat × Int × Nat × List (List AV)) (fun t => l.length - t.1) (fun t => [(3, .ptr 0 0 0), (7, .asl (nm2 2 3 t.1) 0 t.2.2.1), (16, .isl 1 (nl l)), (17, I (nl l).length), (18, I t.2.1)]) (fun t => [(nm2 2 3 t.1, .row 3 t.2.2.2 true true), (0, .row 11 [stgL h s] true false)]) 3 4
    (fun t => t.2.1 = t.1 ∧ t.1 ≤ l.length ∧ t.2.2.1 = t.2.2.2.length ∧ t.2.2.2 = imC (im1 h s) p l t.1) (0, 0, 1, [pl3 p]) ⟨rfl, Nat.zero_le _, rfl, rfl⟩ (Nat.le_refl _) [] rfl (kps) (kps) ?_
  rintro ⟨k, i, len, els⟩ ⟨hi', hk', hlen, hels⟩
  dsimp only at hi' hk' hlen hels ⊢
  subst hi'
  refine bs.av (sx := nos) hkk ?_
  have e1 : els.length = k + 1 := by rw [hels, imC_len]
  have e2 : els[0 + (IntKind.i64.wrap ((len : Int) - 1)).toNat]? = some (pl3 (imA (im1 h s) p l k)) := by
    rw [Nat.zero_add, hlen, e1, W_eq (by omega) (by omega), show (((k + 1 : Nat) : Int) - 1).toNat = k by omega, hels, imC_last]
  have e8 : IntKind.i64.wrap ((len : Int) - 1) = k := by rw [hlen, e1, W_eq (by omega) (by omega)]; omega
  have hnr := imA_near g hp hl (fun n hn => sk_of (hi n hn).1 (hi n hn).2) k hk'
  by_cases hlt : k < l.length
  · have e3 : (nl l)[((k : Nat) : Int).toNat]? = some [I l[k]] := by simp [nl, hlt]
    have hin := hi l[k] (List.getElem_mem _)
    have e4 := plT_hit (s := s) hin
    have e5 := im1_near g (sk_of hin.1 hin.2) (by omega) hnr
    have e6 := imA_succ (im1 h s) p hlt
    have e7 := imC_succ (im1 h s) p l k
    rw [← hels, e6] at e7
    rw [← e5.2.2] at e7
    clear e6 hels
    generalize imA (im1 h s) p l k = q at *
    generalize l[k] = n at *
    cases k with
    | zero =>
      repeat' (first | refine wk3 ?_ | (refine wk2 ?_ ?_ <;> intro _) | refine wk4 ?_ | fail); all_goals (conv => whnf)
      exact Done.mk ⟨(1, _, _, _), [(3, 20)], rfl, kps, kps, ⟨W_succ (k := 0) (by omega), hlt, by exact List.length_append.symm, e7.symm⟩, by dsimp only; omega⟩
    | succ k =>
      repeat' (first | refine wk3 ?_ | (refine wk2 ?_ ?_ <;> intro _) | refine wk4 ?_ | fail); all_goals (conv => whnf)
      exact Done.mk ⟨(k + 1 + 1, _, _, _), [(3, 20)], rfl, kps, kps, ⟨W_succ (k := k + 1) (by omega), hlt, by exact List.length_append.symm, e7.symm⟩, by dsimp only; omega⟩
  · have ek : k = l.length := by omega
    subst ek
    rw [hels]
    rw [hels, imC_len] at hlen
    subst hlen
    cases l with
    | nil =>
      repeat' (first | refine wk3 ?_ | (refine wk2 ?_ ?_ <;> intro _) | refine wk4 ?_ | fail); all_goals (conv => whnf)
      exact ret_rows [2] rfl rfl rfl
    | cons a l =>
      repeat' (first | refine wk3 ?_ | (refine wk2 ?_ ?_ <;> intro _) | refine wk4 ?_ | fail); all_goals (conv => whnf)
      exact ret_rows [3] rfl rfl rfl
theorem r85_ok {pt : PC} (h : PCOK Tryz.prog pt) : PCOK Tryz.prog (ins 85 r96 pt) := ins_ok (fun a res h => by unfold r96 at h; split at h <;> cases h; exact c96 _ _ _ _ _) h
noncomputable abbrev plR (h : Hal) (s : Stg) : List AV → Option PRes := famA (fun i : Int => SK h i) (fun i => [h.av, s.av, I i]) (fun i => ⟨P2 (planeV h s i).1 (planeV h s i).2, []⟩)
theorem plR_ok {h : Hal} {s : Stg} (g : Sit h s) {pt : PC} (hp : PCOK Tryz.prog pt) : PCOK Tryz.prog (ins 23 (plR h s) pt) := famA_ok (fun i hi => c59 g hi) hp
theorem plR_hit {h : Hal} {s : Stg} {i : Int} (hi : SK h i) : plR h s [h.av, s.av, I i] = some ⟨P2 (planeV h s i).1 (planeV h s i).2, []⟩ :=
  famA_hit (p := fun i : Int => SK h i) (g := fun i => [h.av, s.av, I i]) (r := fun i => ⟨P2 (planeV h s i).1 (planeV h s i).2, []⟩) (fun j hj => by
    simp only [List.cons.injEq, AV.int.injEq, true_and, and_true] at hj
    rw [hj]) hi
set_option maxRecDepth 100000 in
set_option maxHeartbeats 8000000 in
theorem d28 {h : Hal} {s : Stg} (g : Sit h s) {p : Pl3} {l : List Int} (hl : l.length ≤ 4) (hi : ∀ n ∈ l, SK h n) :
    PCall Tryz.prog 28 [h.av, s.av, P3 p.1 p.2.1 p.2.2, .isl 1 (nl l)] ⟨.asl 0 0 (l.length + 1), [(3, imC (im1 h s) p l l.length)]⟩ := by
  have hkk := plR_ok g (r85_ok pt0_ok)
  have ll := nl_length l
  refine bs.pv (sx := nos) hkk Tryz.func28 (by kernel_rfl) (by kernel_rfl) rfl ?_
  refine loopV (S := Nat × Int × Nat × List (List AV)) (fun t => l.length - t.1) (fun t => [(3, .isl 1 (nl l)), (4, .ptr 0 0 0), (5, .ptr 1 0 0), (9, .asl (nm2 3 4 t.1) 0 t.2.2.1), (10, I t.2.1)]) (fun t => [(nm2 3 4 t.1, .row 3 t.2.2.2 true true), (1, .row 2 [[.isl 1 (nl s.hs), .isl 1 (nl s.dr)]] true false), (0, .row 9 [h.cells] true false)]) 4 5
    (fun t => t.2.1 = t.1 ∧ t.1 ≤ l.length ∧ t.2.2.1 = t.2.2.2.length ∧ t.2.2.2 = imC (im1 h s) p l t.1) (0, 0, 1, [pl3 p]) ⟨rfl, Nat.zero_le _, rfl, rfl⟩ (Nat.le_refl _) [] rfl (kps) (kps) ?_
  rintro ⟨k, i, len, els⟩ ⟨hi', hk', hlen, hels⟩
  dsimp only at hi' hk' hlen hels ⊢
  subst hi'
  refine bs.av (sx := nos) hkk ?_
  have e1 : els.length = k + 1 := by rw [hels, imC_len]
  have e2 : els[0 + ((k : Nat) : Int).toNat]? = some (pl3 (imA (im1 h s) p l k)) := by
    rw [Nat.zero_add, show ((k : Nat) : Int).toNat = k by omega, hels, imC_last]
  by_cases hlt : k < l.length
  · have e3 : (nl l)[((k : Nat) : Int).toNat]? = some [I l[k]] := by simp [nl, hlt]
    have e4 := plR_hit (s := s) (hi l[k] (List.getElem_mem _))
    have e6 := imA_succ (im1 h s) p hlt
    have e7 := imC_succ (im1 h s) p l k
    rw [← hels, e6] at e7
    clear e6 hels
    generalize imA (im1 h s) p l k = q at *
    generalize l[k] = n at *
    cases k with
    | zero =>
      repeat' (first | refine wk3 ?_ | (refine wk2 ?_ ?_ <;> intro _) | refine wk4 ?_ | fail); all_goals (conv => whnf)
      refine aop_app (ys := [pl3 (rmir (planeV h s n).1 (planeV h s n).2 q.1 q.2.1 q.2.2)]) rfl rfl rfl rfl rfl rfl rfl rfl rfl rfl (by simp) hlen (by simp only [List.length_cons, List.length_nil]; omega) ?_
      conv => whnf
      repeat' (first | refine wk3 ?_ | (refine wk2 ?_ ?_ <;> intro _) | refine wk4 ?_ | fail); all_goals (conv => whnf)
      exact Done.mk ⟨(1, _, _, _), [(4, 19)], rfl, kps, kps, ⟨W_succ (k := 0) (by omega), hlt, by exact List.length_append.symm, e7.symm⟩, by dsimp only; omega⟩
    | succ k =>
      repeat' (first | refine wk3 ?_ | (refine wk2 ?_ ?_ <;> intro _) | refine wk4 ?_ | fail); all_goals (conv => whnf)
      refine aop_app (ys := [pl3 (rmir (planeV h s n).1 (planeV h s n).2 q.1 q.2.1 q.2.2)]) rfl rfl rfl rfl rfl rfl rfl rfl rfl rfl (by simp) hlen (by simp only [List.length_cons, List.length_nil]; omega) ?_
      conv => whnf
      repeat' (first | refine wk3 ?_ | (refine wk2 ?_ ?_ <;> intro _) | refine wk4 ?_ | fail); all_goals (conv => whnf)
      exact Done.mk ⟨(k + 1 + 1, _, _, _), [(4, 19)], rfl, kps, kps, ⟨W_succ (k := k + 1) (by omega), hlt, by exact List.length_append.symm, e7.symm⟩, by dsimp only; omega⟩
  · have ek : k = l.length := by omega
    subst ek
    rw [hels]
    rw [hels, imC_len] at hlen
    subst hlen
    cases l with
    | nil =>
      repeat' (first | refine wk3 ?_ | (refine wk2 ?_ ?_ <;> intro _) | refine wk4 ?_ | fail); all_goals (conv => whnf)
      exact ret_rows [3] rfl rfl rfl
    | cons a l =>
      repeat' (first | refine wk3 ?_ | (refine wk2 ?_ ?_ <;> intro _) | refine wk4 ?_ | fail); all_goals (conv => whnf)
      exact ret_rows [4] rfl rfl rfl
end Go.Proofs.YtdaliaafmcjikaaGreat
