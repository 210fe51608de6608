/- A part of the proof: lemmas. -/
import Derived.Test.YtddhjopopelkjaaGreatZJ4
set_option linter.unusedVariables false
set_option linter.unusedSimpArgs false
namespace Go.Proofs.YtddhjopopelkjaaGreat
open Go Go.Sx
/-! ### The energy of a path, as the reference reckons it -/
noncomputable abbrev cMat (h : Hal) (s : Stg) : List AV → Option PRes := famA (fun i : Int => 0 ≤ i ∧ i ≤ nsur h - 1) (fun i => [h.av, s.av, I i]) (fun i => ⟨.agg (matS h s i).av, []⟩)
theorem mat_hit {h : Hal} {s : Stg} {i : Int} (hi : 0 ≤ i ∧ i ≤ nsur h - 1) : cMat h s [h.av, s.av, I i] = some ⟨.agg (matS h s i).av, []⟩ :=
  famA_hit (p := fun i : Int => 0 ≤ i ∧ i ≤ nsur h - 1) (g := fun i => [h.av, s.av, I i]) (r := fun i => ⟨.agg (matS h s i).av, []⟩) (k := i) (fun j hj => by
    simp only [List.cons.injEq, AV.int.injEq, true_and, and_true] at hj
    rw [hj]) hi
noncomputable def kEr (h : Hal) (s : Stg) (p : Pth) : PC := ins 97 (cMat h s) (ins 98 r98 (ins 99 (one [I p.sq] ⟨P2 (lenV p.sq).1 (lenV p.sq).2, []⟩) (ins 95 rFq (ins 96 rCq pt0))))
theorem kEr_ok {h : Hal} {s : Stg} (g : Sit h s) {p : Pth} (s1 : 1 ≤ p.sq) (s2 : p.sq ≤ 24300000000) : PCOK Tryz.prog (kEr h s p) := by
  refine famA_ok (fun i hi => c62 g (sk_of hi.1 (by omega))) (ins_ok (fun a res h => ?_) (one_ok (d99 s1 s2) (fc_ok pt0_ok)))
  unfold r98 at h; split at h
  · obtain ⟨h1, h2⟩ := asr_some h; subst h2
    have := of_decide_eq_true h1
    exact d98 this.1 this.2
  · cases h
theorem lft_ref {h : Hal} {s : Stg} (g : Sit h s) {i b : Int} (hi : SK h i) {lo hi' : Int} (he : EB (lo, hi')) (c : Int) (hc : absB (matS h s i) b = c) :
    (IntKind.i64.wrap (IntKind.i64.wrap (lo * IntKind.i64.wrap (1000 - c)) / 1000 * IntKind.i64.wrap (1000 - (matS h s i).sc)) / 1000, -((-(IntKind.i64.wrap (-((-(IntKind.i64.wrap (hi' * IntKind.i64.wrap (1000 - c)))) / 1000) * IntKind.i64.wrap (1000 - (matS h s i).sc)))) / 1000)) = lft (matS h s i) b (lo, hi') ∧
    r98 [P2 lo hi', I (IntKind.i64.wrap (1000 - c)), I 1000] = some ⟨P2 (IntKind.i64.wrap (lo * IntKind.i64.wrap (1000 - c)) / 1000) (-((-(IntKind.i64.wrap (hi' * IntKind.i64.wrap (1000 - c)))) / 1000)), []⟩ ∧
    r98 [P2 (IntKind.i64.wrap (lo * IntKind.i64.wrap (1000 - c)) / 1000) (-((-(IntKind.i64.wrap (hi' * IntKind.i64.wrap (1000 - c)))) / 1000)), I (IntKind.i64.wrap (1000 - (matS h s i).sc)), I 1000] = some ⟨P2 (IntKind.i64.wrap (IntKind.i64.wrap (lo * IntKind.i64.wrap (1000 - c)) / 1000 * IntKind.i64.wrap (1000 - (matS h s i).sc)) / 1000) (-((-(IntKind.i64.wrap (-((-(IntKind.i64.wrap (hi' * IntKind.i64.wrap (1000 - c)))) / 1000) * IntKind.i64.wrap (1000 - (matS h s i).sc)))) / 1000)), []⟩ := by
  have h1 := (absK_bd g (b := b) hi).1
  have h2 := mat_sc g.fine (matS_mem g hi)
  rw [hc] at h1
  obtain ⟨k1, _, ⟨k2, k3⟩, k4, k5⟩ := shr_ok (s := 1000 - c) (p := 1000) ⟨by omega, by omega⟩ ⟨by omega, by omega⟩ he
  obtain ⟨j1, _, ⟨j2, j3⟩, j4, j5⟩ := shr_ok (s := 1000 - (matS h s i).sc) (p := 1000) ⟨by omega, by omega⟩ ⟨by omega, by omega⟩ k1
  have w1 : IntKind.i64.wrap (1000 - c) = 1000 - c := W_eq (by omega) (by omega)
  have w2 : IntKind.i64.wrap (1000 - (matS h s i).sc) = 1000 - (matS h s i).sc := W_eq (by omega) (by omega)
  dsimp only at k2 k3 k4 k5
  refine ⟨?_, ?_, ?_⟩
  · unfold lft
    rw [hc, w1, w2, k2, k3, j2, j3]
  · rw [w1]; exact hit98 ⟨by omega, by omega, by omega⟩ ⟨by omega, by omega, by omega⟩
  · rw [w1, w2, k2, k3]; exact hit98 ⟨by omega, by omega, by omega⟩ ⟨by omega, by omega, by omega⟩
theorem shrB {a lo hi : Int} (ha : 0 ≤ a ∧ a ≤ 100000) (he : EB (lo, hi)) :
    (IntKind.i64.wrap (lo * IntKind.i64.wrap (1000000 - a)) / 1000000 = lo * (1000000 - a) / 1000000 ∧ -((-(IntKind.i64.wrap (hi * IntKind.i64.wrap (1000000 - a)))) / 1000000) = (hi * (1000000 - a) + 1000000 - 1) / 1000000) ∧ EB (lo * (1000000 - a) / 1000000, (hi * (1000000 - a) + 1000000 - 1) / 1000000) ∧
    rFq [I (IntKind.i64.wrap (lo * IntKind.i64.wrap (1000000 - a))), I 1000000] = some ⟨I (IntKind.i64.wrap (lo * IntKind.i64.wrap (1000000 - a)) / 1000000), []⟩ ∧ rCq [I (IntKind.i64.wrap (hi * IntKind.i64.wrap (1000000 - a))), I 1000000] = some ⟨I (-((-(IntKind.i64.wrap (hi * IntKind.i64.wrap (1000000 - a)))) / 1000000)), []⟩ := by
  obtain ⟨k1, _, ⟨k2, k3⟩, k4, k5⟩ := shr_ok (s := 1000000 - a) (p := 1000000) ⟨by omega, by omega⟩ ⟨by omega, by omega⟩ he
  rw [W_eq (n := 1000000 - a) (by omega) (by omega)]
  dsimp only at k2 k3 k4 k5
  exact ⟨⟨k2, k3⟩, k1, fq_hit ⟨by omega, by omega, by omega⟩, cq_hit ⟨by omega, by omega, by omega⟩⟩
theorem far_ref {sq : Int} (h0 : 1 ≤ sq) (h1 : sq ≤ 24300000000) :
    (rCq [I (lenV sq).2, I 1000000] = some ⟨I ((farN sq : Nat) : Int), []⟩ ∧ rFq [I (lenV sq).1, I 1000000] = some ⟨I ((nearN sq : Nat) : Int), []⟩) ∧
    (rFq [I 1000000000000, I sq] = some ⟨I (enA sq).1, []⟩ ∧ rCq [I 1000000000000, I sq] = some ⟨I (enA sq).2, []⟩) := by
  have b := lenV_bd h0 h1
  have c1 := cq_hit (n := (lenV sq).2) (b := 1000000) ⟨by omega, by omega, by omega⟩
  have c2 := fq_hit (n := (lenV sq).1) (b := 1000000) ⟨by omega, by omega, by omega⟩
  have c3 := fq_hit (n := 1000000000000) (b := sq) ⟨by omega, by omega, by omega⟩
  have c4 := cq_hit (n := 1000000000000) (b := sq) ⟨by omega, by omega, by omega⟩
  have e1 : -((-(lenV sq).2) / 1000000) = ((farN sq : Nat) : Int) := by
    rw [ceil_up (by omega) (by omega)]; unfold farN; omega
  have e2 : (lenV sq).1 / 1000000 = ((nearN sq : Nat) : Int) := by unfold nearN; omega
  have e4 : -((-(1000000000000 : Int)) / sq) = (enA sq).2 := by rw [ceil_up (by omega) (by omega)]; rfl
  rw [e1] at c1
  rw [e2] at c2
  rw [e4] at c4
  exact ⟨⟨c1, c2⟩, c3, c4⟩
set_option maxRecDepth 100000 in
set_option maxHeartbeats 16000000 in
theorem d25 {h : Hal} {s : Stg} {p : Pth} {b a v : Int} (g : Sit h s) (z : serr h s = 0) (hp : pthE p = 0) (hw : suE h p.ss = 0) (hair : airE b a v = 0) : PCall Tryz.prog 25 [h.av, s.av, p.av, P3 b a v] ⟨P2 (enV h s p b a).1 (enV h s p b a).2, []⟩ := by
  obtain ⟨⟨l4, _⟩, s1, s2⟩ := pthE_zero hp
  have hk := kEr_ok g s1 s2
  obtain ⟨hb, ⟨a1, a2⟩, _⟩ := air_iff hair
  have hb4 : b = 0 ∨ b = 1 ∨ b = 2 ∨ b = 3 := by have := within_iff.1 hb; omega
  have l2 := nl_length p.ss
  have hw : wkG (nsur h - 1) none p.ss = 0 := by unfold suE at hw; rwa [if_neg (by omega)] at hw
  have hin := wkG_in hw
  obtain ⟨⟨c1, c2⟩, c3, c4⟩ := far_ref s1 s2
  have f3 := (far_eq s1 s2).2.2
  have hA := enA_ok s1 s2
  unfold kEr at hk
  unfold enV enZ
  generalize farN p.sq = FN at *
  generalize nearN p.sq = NN at *
  generalize lenV p.sq = L at *
  generalize enA p.sq = A at *
  obtain ⟨A1, A2⟩ := A
  dsimp only at c3 c4
  refine bs.pv (sx := nos) hk Tryz.func25 (by kernel_rfl) (by kernel_rfl) rfl ?_
  repeat' (first | refine wk3 ?_ | (refine wk2 ?_ ?_ <;> intro _) | refine wk4 ?_ | fail); all_goals (conv => whnf)
  refine loopV (S := Nat × Int × Int × Int) (fun t => p.ss.length - t.1) (fun t => [(4, .ptr 0 0 0), (5, .ptr 1 0 0), (6, .ptr 2 0 0), (7, .ptr 3 0 0), (8, .ptr 4 0 0), (9, .ptr 12 0 0), (10, I t.2.1)])
    (fun t => [(12, .row 2 [[I t.2.2.1, I t.2.2.2]] true false), (4, .row 2 [[I 0, I 0]] true false), (3, .row 3 [[I b, I a, I v]] true false), (2, .row 3 [[.isl 1 (nl p.ss), .isl 4 (p.ps.map hp4), I p.sq]] true false), (1, .row 2 [[.isl 1 (nl s.hs), .isl 1 (nl s.dr)]] true false), (0, .row 9 [h.cells] true false)]) 14 14
    (fun t => t.2.1 = t.1 ∧ t.1 ≤ p.ss.length ∧ EB t.2.2 ∧ enL h s b (p.ss.drop t.1) t.2.2 = enL h s b p.ss (A1, A2)) (0, 0, A1, A2) ⟨rfl, Nat.zero_le _, hA, rfl⟩ (Nat.le_refl _) [] rfl (kps) (kps) ?_
  rintro ⟨k, i, lo, hi⟩ ⟨hi1, hk1, he, hS⟩
  dsimp only at hi1 hk1 he hS ⊢
  subst hi1
  clear hA c3 c4
  generalize enL h s b p.ss (A1, A2) = R at *
  by_cases hlt : k < p.ss.length
  · have e1 := nl_get hlt
    have hx := hin _ (List.getElem_mem hlt)
    rw [List.drop_eq_getElem_cons hlt, enL] at hS
    generalize p.ss[k] = x at *
    have hsk : SK h x := sk_of hx.1 (by omega)
    have g1 := mat_hit (s := s) hx
    have hf := lft_ref g (b := b) hsk he
    have hE := lft_ok g (b := b) hsk he
    generalize matS h s x = m at *
    rcases hb4 with rfl | rfl | rfl | rfl
    · obtain ⟨q0, u1, u2⟩ := hf m.a rfl
      have q1 : EB (IntKind.i64.wrap (IntKind.i64.wrap (lo * IntKind.i64.wrap (1000 - m.a)) / 1000 * IntKind.i64.wrap (1000 - m.sc)) / 1000, -((-(IntKind.i64.wrap (-((-(IntKind.i64.wrap (hi * IntKind.i64.wrap (1000 - m.a)))) / 1000) * IntKind.i64.wrap (1000 - m.sc)))) / 1000)) := by rw [q0]; exact hE
      have q2 : enL h s 0 (p.ss.drop (k + 1)) (IntKind.i64.wrap (IntKind.i64.wrap (lo * IntKind.i64.wrap (1000 - m.a)) / 1000 * IntKind.i64.wrap (1000 - m.sc)) / 1000, -((-(IntKind.i64.wrap (-((-(IntKind.i64.wrap (hi * IntKind.i64.wrap (1000 - m.a)))) / 1000) * IntKind.i64.wrap (1000 - m.sc)))) / 1000)) = R := by rw [q0]; exact hS
      clear q0 hE hS hf he hsk hin
      refine bs.av (sx := nos) hk ?_
      repeat' (first | refine wk3 ?_ | (refine wk2 ?_ ?_ <;> intro _) | refine wk4 ?_ | fail); all_goals (conv => whnf)
      exact Done.mk ⟨(k + 1, _, _, _), [], rfl, kps, kps, ⟨W_succ (by omega), hlt, q1, q2⟩, by dsimp only; omega⟩
    · obtain ⟨q0, u1, u2⟩ := hf m.b rfl
      have q1 : EB (IntKind.i64.wrap (IntKind.i64.wrap (lo * IntKind.i64.wrap (1000 - m.b)) / 1000 * IntKind.i64.wrap (1000 - m.sc)) / 1000, -((-(IntKind.i64.wrap (-((-(IntKind.i64.wrap (hi * IntKind.i64.wrap (1000 - m.b)))) / 1000) * IntKind.i64.wrap (1000 - m.sc)))) / 1000)) := by rw [q0]; exact hE
      have q2 : enL h s 1 (p.ss.drop (k + 1)) (IntKind.i64.wrap (IntKind.i64.wrap (lo * IntKind.i64.wrap (1000 - m.b)) / 1000 * IntKind.i64.wrap (1000 - m.sc)) / 1000, -((-(IntKind.i64.wrap (-((-(IntKind.i64.wrap (hi * IntKind.i64.wrap (1000 - m.b)))) / 1000) * IntKind.i64.wrap (1000 - m.sc)))) / 1000)) = R := by rw [q0]; exact hS
      clear q0 hE hS hf he hsk hin
      refine bs.av (sx := nos) hk ?_
      repeat' (first | refine wk3 ?_ | (refine wk2 ?_ ?_ <;> intro _) | refine wk4 ?_ | fail); all_goals (conv => whnf)
      exact Done.mk ⟨(k + 1, _, _, _), [], rfl, kps, kps, ⟨W_succ (by omega), hlt, q1, q2⟩, by dsimp only; omega⟩
    · obtain ⟨q0, u1, u2⟩ := hf m.c rfl
      have q1 : EB (IntKind.i64.wrap (IntKind.i64.wrap (lo * IntKind.i64.wrap (1000 - m.c)) / 1000 * IntKind.i64.wrap (1000 - m.sc)) / 1000, -((-(IntKind.i64.wrap (-((-(IntKind.i64.wrap (hi * IntKind.i64.wrap (1000 - m.c)))) / 1000) * IntKind.i64.wrap (1000 - m.sc)))) / 1000)) := by rw [q0]; exact hE
      have q2 : enL h s 2 (p.ss.drop (k + 1)) (IntKind.i64.wrap (IntKind.i64.wrap (lo * IntKind.i64.wrap (1000 - m.c)) / 1000 * IntKind.i64.wrap (1000 - m.sc)) / 1000, -((-(IntKind.i64.wrap (-((-(IntKind.i64.wrap (hi * IntKind.i64.wrap (1000 - m.c)))) / 1000) * IntKind.i64.wrap (1000 - m.sc)))) / 1000)) = R := by rw [q0]; exact hS
      clear q0 hE hS hf he hsk hin
      refine bs.av (sx := nos) hk ?_
      repeat' (first | refine wk3 ?_ | (refine wk2 ?_ ?_ <;> intro _) | refine wk4 ?_ | fail); all_goals (conv => whnf)
      exact Done.mk ⟨(k + 1, _, _, _), [], rfl, kps, kps, ⟨W_succ (by omega), hlt, q1, q2⟩, by dsimp only; omega⟩
    · obtain ⟨q0, u1, u2⟩ := hf m.d rfl
      have q1 : EB (IntKind.i64.wrap (IntKind.i64.wrap (lo * IntKind.i64.wrap (1000 - m.d)) / 1000 * IntKind.i64.wrap (1000 - m.sc)) / 1000, -((-(IntKind.i64.wrap (-((-(IntKind.i64.wrap (hi * IntKind.i64.wrap (1000 - m.d)))) / 1000) * IntKind.i64.wrap (1000 - m.sc)))) / 1000)) := by rw [q0]; exact hE
      have q2 : enL h s 3 (p.ss.drop (k + 1)) (IntKind.i64.wrap (IntKind.i64.wrap (lo * IntKind.i64.wrap (1000 - m.d)) / 1000 * IntKind.i64.wrap (1000 - m.sc)) / 1000, -((-(IntKind.i64.wrap (-((-(IntKind.i64.wrap (hi * IntKind.i64.wrap (1000 - m.d)))) / 1000) * IntKind.i64.wrap (1000 - m.sc)))) / 1000)) = R := by rw [q0]; exact hS
      clear q0 hE hS hf he hsk hin
      refine bs.av (sx := nos) hk ?_
      repeat' (first | refine wk3 ?_ | (refine wk2 ?_ ?_ <;> intro _) | refine wk4 ?_ | fail); all_goals (conv => whnf)
      exact Done.mk ⟨(k + 1, _, _, _), [], rfl, kps, kps, ⟨W_succ (by omega), hlt, q1, q2⟩, by dsimp only; omega⟩
  rw [List.drop_of_length_le (by omega), enL] at hS
  subst hS
  refine bs.av (sx := nos) hk ?_
  repeat' (first | refine wk3 ?_ | (refine wk2 ?_ ?_ <;> intro _) | refine wk4 ?_ | fail); all_goals (conv => whnf)
  clear hk1 hlt
  refine loopV (S := Nat × Int × Int) (fun t => FN - t.1) (fun t => [(7, .ptr 3 0 0), (8, .ptr 4 0 0), (9, .ptr 12 0 0), (12, .ptr 14 0 0), (13, I t.2.1)])
    (fun t => [(14, .row 2 [[I L.1, I L.2]] true false), (12, .row 2 [[I t.2.2, I hi]] true false), (4, .row 2 [[I 0, I 0]] true false), (3, .row 3 [[I b, I a, I v]] true false)]) 15 15
    (fun t => t.2.1 = t.1 ∧ t.1 ≤ FN ∧ EB (t.2.2, hi) ∧ itN (fun x => x * (1000000 - a) / 1000000) (FN - t.1) t.2.2 = itN (fun x => x * (1000000 - a) / 1000000) FN lo) (0, 0, lo) ⟨rfl, Nat.zero_le _, he, rfl⟩ (Nat.le_refl _) [] rfl (kps) (kps) ?_
  clear he
  rintro ⟨k, i, lo2⟩ ⟨hi1, hk1, he, hA⟩
  dsimp only at hi1 hk1 he hA ⊢
  subst hi1
  generalize itN (fun x => x * (1000000 - a) / 1000000) FN lo = R1 at *
  by_cases hlt : k < FN
  · obtain ⟨⟨q1, q2⟩, q3, u1, u2⟩ := shrB ⟨a1, a2⟩ he
    rw [show FN - k = (FN - (k + 1)) + 1 by omega, itN, ← q1] at hA
    have e2 : EB (IntKind.i64.wrap (lo2 * IntKind.i64.wrap (1000000 - a)) / 1000000, hi) := ⟨by rw [q1]; exact q3.a, he.b⟩
    clear q1 q2 q3 he
    refine bs.av (sx := nos) hk ?_
    repeat' (first | refine wk3 ?_ | (refine wk2 ?_ ?_ <;> intro _) | refine wk4 ?_ | fail); all_goals (conv => whnf)
    exact Done.mk ⟨(k + 1, _, _), [], rfl, kps, kps, ⟨W_succ (by omega), hlt, e2, hA⟩, by dsimp only; omega⟩
  rw [show FN - k = 0 by omega, itN] at hA
  subst hA
  refine bs.av (sx := nos) hk ?_
  repeat' (first | refine wk3 ?_ | (refine wk2 ?_ ?_ <;> intro _) | refine wk4 ?_ | fail); all_goals (conv => whnf)
  clear hk1 hlt
  refine loopV (S := Nat × Int × Int) (fun t => NN - t.1) (fun t => [(7, .ptr 3 0 0), (8, .ptr 4 0 0), (9, .ptr 12 0 0), (12, .ptr 14 0 0), (14, I t.2.1)])
    (fun t => [(14, .row 2 [[I L.1, I L.2]] true false), (12, .row 2 [[I lo2, I t.2.2]] true false), (4, .row 2 [[I 0, I 0]] true false), (3, .row 3 [[I b, I a, I v]] true false)]) 15 15
    (fun t => t.2.1 = t.1 ∧ t.1 ≤ NN ∧ EB (lo2, t.2.2) ∧ itN (fun x => (x * (1000000 - a) + 1000000 - 1) / 1000000) (NN - t.1) t.2.2 = itN (fun x => (x * (1000000 - a) + 1000000 - 1) / 1000000) NN hi) (0, 0, hi) ⟨rfl, Nat.zero_le _, he, rfl⟩ (Nat.le_refl _) [] rfl (kps) (kps) ?_
  clear he
  rintro ⟨k, i, hi2⟩ ⟨hi1, hk1, he, hB⟩
  dsimp only at hi1 hk1 he hB ⊢
  subst hi1
  generalize itN (fun x => (x * (1000000 - a) + 1000000 - 1) / 1000000) NN hi = R2 at *
  by_cases hlt : k < NN
  · obtain ⟨⟨q1, q2⟩, q3, u1, u2⟩ := shrB ⟨a1, a2⟩ he
    rw [show NN - k = (NN - (k + 1)) + 1 by omega, itN, ← q2] at hB
    have e2 : EB (lo2, -((-(IntKind.i64.wrap (hi2 * IntKind.i64.wrap (1000000 - a)))) / 1000000)) := ⟨he.a, by rw [q2]; exact q3.b⟩
    clear q1 q2 q3 he
    refine bs.av (sx := nos) hk ?_
    repeat' (first | refine wk3 ?_ | (refine wk2 ?_ ?_ <;> intro _) | refine wk4 ?_ | fail); all_goals (conv => whnf)
    exact Done.mk ⟨(k + 1, _, _), [], rfl, kps, kps, ⟨W_succ (by omega), hlt, e2, hB⟩, by dsimp only; omega⟩
  rw [show NN - k = 0 by omega, itN] at hB
  subst hB
  refine bs.av (sx := nos) hk ?_
  repeat' (first | refine wk3 ?_ | (refine wk2 ?_ ?_ <;> intro _) | refine wk4 ?_ | fail); all_goals (conv => whnf)
  exact ret_of rfl rfl
end Go.Proofs.YtddhjopopelkjaaGreat
