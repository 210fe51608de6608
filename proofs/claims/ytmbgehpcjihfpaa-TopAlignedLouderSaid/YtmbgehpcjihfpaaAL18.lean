/- A part of the proof: lemmas. -/
import Derived.Test.YtmbgehpcjihfpaaAL21
set_option linter.unusedVariables false
set_option linter.unusedSimpArgs false
namespace Go.Proofs.Ytmbgehpcjihfpaa
open Go Go.Sx
noncomputable def kF1 (r v : Int) (p : Pl) (ls : List Sp) : PC := ins 4 (one [] ⟨Bo true, []⟩) (ins 6 (one [arr r v ls] ⟨arr r v ls, []⟩) (ins 5 (one [arr r v ls, p.av] ⟨.tup [alV r v p ls, I (alE r v p ls)], []⟩) pt0))
theorem kF1_ok {r v : Int} {p : Pl} {ls : List Sp} (hl : ls.length < 100000) : PCOK Try.prog (kF1 r v p ls) := one_ok e4 (one_ok (e6f hl) (one_ok (e5 hl) pt0_ok))
noncomputable def kF2 (r v : Int) (ls : List Sp) : PC := ins 6 (one [arr r v ls] ⟨.agg [I r, I v, .asl 0 0 (ls.map sv).length], [(5, ls.map sv)]⟩) (ins 7 (famA (fun _ : Int => True) (fun n => [I n, I 20]) (fun n => ⟨I (md n), []⟩)) pt0)
theorem kF2_ok {r v : Int} {ls : List Sp} (hl : ls.length < 100000) : PCOK Try.prog (kF2 r v ls) := one_ok (e6 hl) (famA_ok (fun n h => e7 n) pt0_ok)
noncomputable def kF3 : PC := ins 6 (famR Few fun q => ⟨arr q.1 q.2.1 q.2.2, []⟩) (ins 8 (famRP FewS fun q => ⟨.tup [prV q.1.1 q.1.2.1 q.2 q.1.2.2, I (opE q.1.1 q.1.2.1 q.2 q.1.2.2)], []⟩)
  (ins 9 (famRP FewS fun q => ⟨.tup [enV q.1.1 q.1.2.1 q.2 q.1.2.2, I (opE q.1.1 q.1.2.1 q.2 q.1.2.2)], []⟩) (ins 10 (famA (fun a : Int => a.natAbs ≤ 1000000000) (fun a => [Fl a]) (fun _ => ⟨Bo true, []⟩)) pt0)))
theorem kF3_ok : PCOK Try.prog kF3 := famA_ok (fun q h => e6f h) (famA_ok (fun q h => e8 h) (famA_ok (fun q h => e9 h) (famA_ok (fun a h => e10 h) pt0_ok)))
theorem h10 {a : Int} (h : a.natAbs ≤ 1000000000) : famA (fun a : Int => a.natAbs ≤ 1000000000) (fun a => [Fl a]) (fun _ => ⟨Bo true, []⟩) [Fl a] = some ⟨Bo true, []⟩ :=
  famA_hit (p := fun a : Int => a.natAbs ≤ 1000000000) (g := fun a => [Fl a]) (r := fun _ => ⟨Bo true, []⟩) (k := a) (fun j hj => rfl) h
theorem tailL {r v px py pz : Int} {A c ls : List Sp} {k0 k1 k2 k3 e0 e1 : Int} (hA : A.length < 100000) (hc : c.length = ls.length) (hl : ls.length < 100000) (L : Loud r v ⟨px, py, pz⟩ A c k0 k1 k2 k3 e0 e1) :
    Awp Try.prog Try.f3.ntmps (dropS 2 (dropS 5 code3)) [(4, .ptr 1 0 0), (7, .ptr 9 0 0), (9, .ptr 21 0 0)]
      ⟨[(21, .row 3 [[I r, I v, .asl 20 0 (ls.map sv).length]] true false), (20, .row 5 (c.map sv) true true), (9, .row 3 [[I r, I v, .isl 5 (A.map sv)]] true false), (1, .row 3 [[I px, I py, I pz]] true false)], 22⟩ (retQ (tget tbl) Try.f3.results.toList fun v σ => fA v fun v => Ret ⟨Bo true, []⟩ v σ) := by
  have hn : (ls.map sv).length = (c.map sv).length := by simp [hc]
  have c1 := famR_hit (p := Few) (fun q => ⟨arr q.1 q.2.1 q.2.2, []⟩) (a := r) (b := v) (ls := A) hA
  have c2 := famRP_hit (pp := FewS) (fun q => ⟨.tup [prV q.1.1 q.1.2.1 q.2 q.1.2.2, I (opE q.1.1 q.1.2.1 q.2 q.1.2.2)], []⟩) (a := r) (b := v) (ls := A) (p := ⟨px, py, pz⟩) hA
  have c3 := famRP_hit (pp := FewS) (fun q => ⟨.tup [prV q.1.1 q.1.2.1 q.2 q.1.2.2, I (opE q.1.1 q.1.2.1 q.2 q.1.2.2)], []⟩) (a := r) (b := v) (ls := c) (p := ⟨px, py, pz⟩) (by show c.length < 100000; omega)
  have c4 := famRP_hit (pp := FewS) (fun q => ⟨.tup [enV q.1.1 q.1.2.1 q.2 q.1.2.2, I (opE q.1.1 q.1.2.1 q.2 q.1.2.2)], []⟩) (a := r) (b := v) (ls := A) (p := ⟨px, py, pz⟩) hA
  dsimp only at c1 c2 c3 c4
  rw [L.pA, L.oA] at c2
  rw [L.pC, L.oC] at c3
  rw [L.eA, L.oA] at c4
  refine tail3 hn kF3_ok c1 c2 ?_ c4 (h10 L.b0) (h10 L.b1) (h10 L.b2) (h10 L.b3) (FK.of L.b0) (FK.of L.b1) (FK.of L.b2) (FK.of L.b3) L.fin
  rw [List.drop_zero, hn, List.take_length]
  exact c3
set_option maxRecDepth 100000 in
set_option maxHeartbeats 8000000 in
theorem l3 {r v : Int} {p : Pl} {ls : List Sp} {ds : List Int} (hl : ls.length < 100000) : PCall Try.prog 3 [arr r v ls, p.av, .isl 1 (nl ds)] ⟨Bo true, []⟩ := by
  have e3 := sv_length ls
  have e4 := nl_length ds
  have hk := kF1_ok (r := r) (v := v) (p := p) hl
  have g1 := one_hit [] ⟨Bo true, []⟩
  have g2 := one_hit [arr r v ls] ⟨arr r v ls, []⟩
  have g3 := one_hit [arr r v ls, p.av] ⟨.tup [alV r v p ls, I (alE r v p ls)], []⟩
  unfold kF1 at hk
  by_cases h8 : 8 < ls.length
  · generalize alV r v p ls = A at *
    generalize alE r v p ls = E at *
    obtain ⟨px, py, pz⟩ := p
    refine bs.pvc 3 (sx := nos) hk Try.func3 (by kernel_rfl) (by kernel_rfl) rfl ?_
    repeat' (first | refine wk3 ?_ | (refine wk2 ?_ ?_ <;> intro _) | refine wk4 ?_ | fail); all_goals (conv => whnf)
    exact ret_bool rfl
  by_cases h8' : 8 < ds.length
  · generalize alV r v p ls = A at *
    generalize alE r v p ls = E at *
    obtain ⟨px, py, pz⟩ := p
    refine bs.pvc 3 (sx := nos) hk Try.func3 (by kernel_rfl) (by kernel_rfl) rfl ?_
    repeat' (first | refine wk3 ?_ | (refine wk2 ?_ ?_ <;> intro _) | refine wk4 ?_ | fail); all_goals (conv => whnf)
    exact ret_bool rfl
  by_cases hz : alE r v p ls = 0
  rotate_left
  · have a1 : alV r v p ls = arr 0 0 [] := by unfold alV; rw [if_neg hz]
    rw [a1] at g3 hk
    generalize alE r v p ls = E at *
    obtain ⟨px, py, pz⟩ := p
    refine bs.pvc 5 (sx := nos) hk Try.func3 (by kernel_rfl) (by kernel_rfl) rfl ?_
    repeat' (first | refine wk3 ?_ | (refine wk2 ?_ ?_ <;> intro _) | refine wk4 ?_ | fail); all_goals (conv => whnf)
    exact ret_bool rfl
  have a1 : alV r v p ls = arr r v (alL r v p ls) := by unfold alV; rw [if_pos hz]
  rw [a1, hz] at g3 hk
  generalize hA : alL r v p ls = A at *
  obtain ⟨px, py, pz⟩ := p
  refine bs.pvc 5 (sx := nos) hk Try.func3 (by kernel_rfl) (by kernel_rfl) rfl ?_
  repeat' (first | refine wk3 ?_ | (refine wk2 ?_ ?_ <;> intro _) | refine wk4 ?_ | fail); all_goals (conv => whnf)
  have hk2 := kF2_ok (r := r) (v := v) hl
  have hmd : ∀ n, famA (fun _ : Int => True) (fun n => [I n, I 20]) (fun n => ⟨I (md n), []⟩) [I n, I 20] = some ⟨I (md n), []⟩ := fun n => famA_hit (p := fun _ : Int => True) (g := fun n => [I n, I 20]) (r := fun n => ⟨I (md n), []⟩) (k := n) (fun j hj => by
    simp only [List.cons.injEq, AV.int.injEq, true_and, and_true] at hj
    rw [hj]) trivial
  clear g1 g2 g3
  have g1 := one_hit [arr r v ls] ⟨.agg [I r, I v, .asl 0 0 (ls.map sv).length], [(5, ls.map sv)]⟩
  unfold kF2 at hk2
  refine Cut.of (env2 := [(2, .isl 1 (nl ds)), (3, .ptr 0 0 0), (4, .ptr 1 0 0), (7, .ptr 9 0 0)]) (σ2 := ⟨[(9, .row 3 [[I r, I v, .isl 5 (A.map sv)]] true false), (1, .row 3 [[I px, I py, I pz]] true false), (0, .row 3 [[I r, I v, .isl 5 (ls.map sv)]] true false)], 20⟩) (Ren.of [] rfl (kps) (kps)) ?_
  refine bs.cut 2 (sx := nos) hk2 ?_
  repeat' (first | refine wk3 ?_ | (refine wk2 ?_ ?_ <;> intro _) | refine wk4 ?_ | fail); all_goals (conv => whnf)
  have hAL : ∀ c, Alike c ls → ∃ k0 k1 k2 k3 e0 e1, Loud r v ⟨px, py, pz⟩ A c k0 k1 k2 k3 e0 e1 := fun c hc => by
    rw [← hA]; exact loud hz hc
  refine loopV (S := Nat × Int × List (List AV)) (fun t => ds.length - t.1) (fun t => [(2, .isl 1 (nl ds)), (4, .ptr 1 0 0), (7, .ptr 9 0 0), (9, .ptr 21 0 0), (10, I t.2.1)]) (fun t => [(21, .row 3 [[I r, I v, .asl 20 0 (ls.map sv).length]] true false), (20, .row 5 t.2.2 true true), (9, .row 3 [[I r, I v, .isl 5 (A.map sv)]] true false), (1, .row 3 [[I px, I py, I pz]] true false)]) 22 22 (fun t => t.2.1 = t.1 ∧ t.1 ≤ ds.length ∧ ∃ c, t.2.2 = c.map sv ∧ Alike c ls) (0, 0, ls.map sv) ⟨rfl, Nat.zero_le _, ls, rfl, Alike.refl ls⟩ (Nat.le_refl _) [] rfl (kps) (kps) ?_
  rintro ⟨k, i, els⟩ ⟨hi, hkd, c, hel, hc⟩
  dsimp only at hi hkd hel ⊢
  subst hi
  clear g1
  have hcl := hc.len
  have hll : els.length = ls.length := by rw [hel, sv_length, hcl]
  refine bs.av (sx := nos) hk2 ?_
  by_cases h12 : k < ds.length ∧ k < ls.length
  · obtain ⟨h1, h2⟩ := h12
    have e1 := nl_get h1
    have hm := hmd ds[k]
    have hb := md_bd ds[k]
    generalize ds[k] = n at *
    have h3 : k < c.length := by omega
    have e2 := sv_get h3
    have hset := hc.set h3 (n := md n) ⟨hb.1, by omega⟩
    have hrow := setEl_sv c k { c[k] with d := md n }
    have e2 : els[0 + ((k : Nat) : Int).toNat]? = some (sv c[k]) := by rw [hel, Nat.zero_add]; exact e2
    rw [← hel] at hrow
    generalize c[k] = s at *
    obtain ⟨⟨x, y, z⟩, gg, d⟩ := s
    dsimp only at e2 hrow hset
    repeat' (first | refine wk3 ?_ | (refine wk2 ?_ ?_ <;> intro _) | refine wk4 ?_ | fail); all_goals (conv => whnf)
    exact Done.mk ⟨(k + 1, _, setEl els (0 + ((k : Nat) : Int).toNat) [I x, I y, I z, I gg, I (md n)]), [], rfl, kps, kps, ⟨W_succ (by omega), h1, _, hrow, hset⟩, by dsimp only; omega⟩
  · obtain ⟨k0, k1, k2, k3, e0, e1, L⟩ := hAL c hc
    have hAl : A.length < 100000 := by rw [← hA]; unfold alL; simpa using hl
    have ht := tailL hAl hcl hl L
    clear L hAL
    subst hel
    have hcase : (k < ds.length ∧ ls.length ≤ k) ∨ ds.length ≤ k := by omega
    rcases hcase with ⟨h1, h2⟩ | h1
    · repeat' (first | refine wk3 ?_ | (refine wk2 ?_ ?_ <;> intro _) | refine wk4 ?_ | fail); all_goals (conv => whnf)
      refine Cut.of (env2 := [(4, .ptr 1 0 0), (7, .ptr 9 0 0), (9, .ptr 21 0 0)]) (σ2 := ⟨[(21, .row 3 [[I r, I v, .asl 20 0 (ls.map sv).length]] true false), (20, .row 5 (c.map sv) true true), (9, .row 3 [[I r, I v, .isl 5 (A.map sv)]] true false), (1, .row 3 [[I px, I py, I pz]] true false)], 22⟩) (Ren.of [] rfl (kps) (kps)) ?_
      exact ht
    · repeat' (first | refine wk3 ?_ | (refine wk2 ?_ ?_ <;> intro _) | refine wk4 ?_ | fail); all_goals (conv => whnf)
      refine Cut.of (env2 := [(4, .ptr 1 0 0), (7, .ptr 9 0 0), (9, .ptr 21 0 0)]) (σ2 := ⟨[(21, .row 3 [[I r, I v, .asl 20 0 (ls.map sv).length]] true false), (20, .row 5 (c.map sv) true true), (9, .row 3 [[I r, I v, .isl 5 (A.map sv)]] true false), (1, .row 3 [[I px, I py, I pz]] true false)], 22⟩) (Ren.of [] rfl (kps) (kps)) ?_
      exact ht
end Go.Proofs.Ytmbgehpcjihfpaa
