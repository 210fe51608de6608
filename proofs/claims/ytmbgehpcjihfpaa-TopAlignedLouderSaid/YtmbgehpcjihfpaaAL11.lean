/- A part of the proof: lemmas. -/
import Derived.Test.YtmbgehpcjihfpaaAL10
set_option linter.unusedVariables false
set_option linter.unusedSimpArgs false
namespace Go.Proofs.Ytmbgehpcjihfpaa
open Go Go.Sx
noncomputable def enG (r v : Int) (p : Pl) : Int × Int → List Sp → Int × Int
  | q, [] => q
  | q, s :: l => enG r v p (IntKind.i64.wrap (q.1 + IntKind.i64.wrap (IntKind.i64.wrap (s.g * sLo s.p p) * IntKind.i64.wrap (s.g * sLo s.p p))), IntKind.i64.wrap (q.2 + IntKind.i64.wrap (IntKind.i64.wrap (s.g * sHi s.p p) * IntKind.i64.wrap (s.g * sHi s.p p)))) l
noncomputable def enV (r v : Int) (p : Pl) (ls : List Sp) : AV := if opE r v p ls = 0 then P2 (enG r v p (0, 0) ls).1 (enG r v p (0, 0) ls).2 else P2 0 0
set_option maxRecDepth 100000 in
set_option maxHeartbeats 8000000 in
theorem e9 {r v : Int} {p : Pl} {ls : List Sp} (hl : ls.length < 100000) : PCall Try.prog 9 [arr r v ls, p.av] ⟨.tup [enV r v p ls, I (opE r v p ls)], []⟩ := by
  have g1 := famRP_hit (pp := FewS) (fun q => ⟨.tup [.isl 9 (opV q.1.1 q.1.2.1 q.2 q.1.2.2), I (opE q.1.1 q.1.2.1 q.2 q.1.2.2)], []⟩) (a := r) (b := v) (ls := ls) (p := p) hl
  unfold enV
  by_cases hz : opE r v p ls = 0
  rotate_left
  · rw [if_neg hz]
    unfold opV at g1
    dsimp only at g1
    rw [if_neg hz] at g1
    generalize opE r v p ls = E at *
    obtain ⟨px, py, pz⟩ := p
    refine bs.pv (sx := nos) kC1_ok Try.func9 (by kernel_rfl) (by kernel_rfl) rfl ?_
    repeat' (first | refine wk3 ?_ | (refine wk2 ?_ ?_ <;> intro _) | refine wk4 ?_ | fail); all_goals (conv => whnf)
    exact ret_of rfl rfl
  rw [if_pos hz]
  unfold opV at g1
  dsimp only at g1
  rw [if_pos hz, hz] at g1
  rw [hz]
  have e3 : (ls.map (rayV r v p)).length = ls.length := by simp
  have hget : ∀ {k : Nat} (h : k < ls.length), (ls.map (rayV r v p))[((k : Nat) : Int).toNat]? = some (rayV r v p ls[k]) := fun h => rv_get h
  have hpc : ∀ q (s : Sp) l, enG r v p q (s :: l) = enG r v p (IntKind.i64.wrap (q.1 + IntKind.i64.wrap (IntKind.i64.wrap (s.g * sLo s.p p) * IntKind.i64.wrap (s.g * sLo s.p p))), IntKind.i64.wrap (q.2 + IntKind.i64.wrap (IntKind.i64.wrap (s.g * sHi s.p p) * IntKind.i64.wrap (s.g * sHi s.p p)))) l := fun q s l => rfl
  have hpn : ∀ q, enG r v p q [] = q := fun q => rfl
  generalize hM : ls.map (rayV r v p) = M at *
  generalize enG r v p = G at *
  have hray : ∀ s : Sp, rayV r v p s = rayA s (sLo s.p p) (sHi s.p p) (nLo r v s.p p) (nHi r v s.p p) := fun s => rfl
  obtain ⟨px, py, pz⟩ := p
  refine bs.pv (sx := nos) kC1_ok Try.func9 (by kernel_rfl) (by kernel_rfl) rfl ?_
  repeat' (first | refine wk3 ?_ | (refine wk2 ?_ ?_ <;> intro _) | refine wk4 ?_ | fail); all_goals (conv => whnf)
  clear g1
  refine loopV (S := Nat × Int × Int × Int) (fun t => ls.length - t.1) (fun t => [(4, .ptr 2 0 0), (8, .ptr 3 0 0), (23, .isl 9 M), (24, I M.length), (25, I t.2.1)]) (fun t => [(3, .row 2 [[I t.2.2.1, I t.2.2.2]] true false), (2, .row 2 [[I 0, I 0]] true false)]) 4 4 (fun t => t.2.1 = t.1 ∧ t.1 ≤ ls.length ∧ G t.2.2 (ls.drop t.1) = G (0, 0) ls) (0, 0, 0, 0) ⟨rfl, Nat.zero_le _, rfl⟩ (Nat.le_refl _) [] rfl (kps) (kps) ?_
  rintro ⟨k, i, a, b⟩ ⟨hi, hk, hh⟩
  dsimp only at hi hk hh ⊢
  subst hi
  generalize G (0, 0) ls = R at *
  by_cases hlt : k < ls.length
  · have e1 := hget hlt
    rw [List.drop_eq_getElem_cons hlt, hpc] at hh
    rw [hray] at e1
    generalize ls[k] = s at *
    generalize sLo s.p ⟨px, py, pz⟩ = S1 at *
    generalize sHi s.p ⟨px, py, pz⟩ = S2 at *
    generalize nLo r v s.p ⟨px, py, pz⟩ = N1 at *
    generalize nHi r v s.p ⟨px, py, pz⟩ = N2 at *
    obtain ⟨⟨x, y, z⟩, g, d⟩ := s
    dsimp only at hh e1
    refine bs.av (sx := nos) kC1_ok ?_
    repeat' (first | refine wk3 ?_ | (refine wk2 ?_ ?_ <;> intro _) | refine wk4 ?_ | fail); all_goals (conv => whnf)
    exact Done.mk ⟨(k + 1, _, IntKind.i64.wrap (a + IntKind.i64.wrap (IntKind.i64.wrap (g * S1) * IntKind.i64.wrap (g * S1))), IntKind.i64.wrap (b + IntKind.i64.wrap (IntKind.i64.wrap (g * S2) * IntKind.i64.wrap (g * S2)))), [], rfl, kps, kps, ⟨W_succ (by omega), hlt, hh⟩, by dsimp only; omega⟩
  · rw [List.drop_of_length_le (by omega), hpn] at hh
    refine bs.av (sx := nos) kC1_ok ?_
    repeat' (first | refine wk3 ?_ | (refine wk2 ?_ ?_ <;> intro _) | refine wk4 ?_ | fail); all_goals (conv => whnf)
    exact ret_of (by rw [← hh]) rfl
end Go.Proofs.Ytmbgehpcjihfpaa
