/- A part of the proof: lemmas. -/
import Derived.Test.YtmbgehpcjihfpaaAL8
set_option linter.unusedVariables false
set_option linter.unusedSimpArgs false
namespace Go.Proofs.Ytmbgehpcjihfpaa
open Go Go.Sx
set_option maxRecDepth 100000 in
set_option maxHeartbeats 8000000 in
theorem e14r {r v : Int} {p : Pl} {ls : List Sp} (ha : OkA r v ls) (hs : OkS p ls) : PCall Try.prog 14 [arr r v ls, p.av] ⟨.tup [.asl 0 0 (ls.map (rayV r v p)).length, I 0], [(9, ls.map (rayV r v p))]⟩ := by
  have hl : ls.length < 100000 := by have := ha.n8; omega
  have e3 := sv_length ls
  have g1 := famR_hit (p := Few) (fun q => ⟨I (chkA q.1 q.2.1 q.2.2).2, []⟩) (a := r) (b := v) (ls := ls) hl
  have g2 := famRP_hit (pp := FewS) (fun q => ⟨I (seE q.2 q.1.2.2), []⟩) (a := r) (b := v) (ls := ls) (p := p) hl
  dsimp only at g1 g2
  rw [chkA_zero.2 ha] at g1
  rw [seE_zero.2 hs] at g2
  have hfar : ∀ s ∈ ls, Wf (s.p, p) := fun s h => hs.far ha h
  have hso := ha.so
  have hn8 := ha.n8
  have hn0 := ha.n0
  have hray : ∀ s : Sp, rayV r v p s = rayV r v p s := fun s => rfl
  obtain ⟨px, py, pz⟩ := p
  refine bs.pv (sx := nos) kB3_ok Try.func14 (by kernel_rfl) (by kernel_rfl) rfl ?_
  repeat' (first | refine wk3 ?_ | (refine wk2 ?_ ?_ <;> intro _) | refine wk4 ?_ | fail); all_goals (conv => whnf)
  refine loopV (S := Nat × Int × Nat × List (List AV)) (fun t => ls.length - t.1) (fun t => [(2, .ptr 0 0 0), (3, .ptr 1 0 0), (8, gv 20 t.1 t.2.2.1), (24, .isl 5 (ls.map sv)), (25, I (ls.map sv).length), (26, I t.2.1)]) (fun t => gz 20 9 t.1 t.2.2.2 [(1, .row 3 [[I px, I py, I pz]] true false), (0, .row 3 [[I r, I v, .isl 5 (ls.map sv)]] true false)]) 20 21 (fun t => t.2.1 = t.1 ∧ t.1 ≤ ls.length ∧ t.2.2.1 = t.2.2.2.length ∧ t.2.2.2 = (ls.take t.1).map (rayV r v ⟨px, py, pz⟩)) (0, 0, 0, []) ⟨rfl, Nat.zero_le _, rfl, rfl⟩ (Nat.le_of_ble_eq_true rfl) [] rfl (kps) (kps) ?_
  rintro ⟨k, i, len, els⟩ ⟨hi, hk, hln, hel⟩
  dsimp only at hi hk hln hel ⊢
  subst hi
  clear g1 g2
  by_cases hlt : k < ls.length
  · have e1 := sv_get hlt
    have hr := ray_take (r := r) (v := v) (p := ⟨px, py, pz⟩) hlt
    rw [← hel] at hr
    have hf := hfar _ (List.getElem_mem hlt)
    generalize ls[k] = x at *
    have g3 := famW_hit (p := Wf) (fun q => ⟨P2 (sLo q.1 q.2) (sHi q.1 q.2), []⟩) hf
    have g4 := famWS_hit (pp := fun q => SoOk q.2.1 q.2.2 ∧ Wp q.1) (fun q => ⟨P2 (nLo q.2.1 q.2.2 q.1.1 q.1.2) (nHi q.2.1 q.2.2 q.1.1 q.1.2), []⟩) (a := x.p) (b := ⟨px, py, pz⟩) (r := r) (v := v) ⟨hso, hf.w⟩
    dsimp only at g3 g4
    unfold rayV at hr
    generalize sLo x.p ⟨px, py, pz⟩ = S1 at *
    generalize sHi x.p ⟨px, py, pz⟩ = S2 at *
    generalize nLo r v x.p ⟨px, py, pz⟩ = N1 at *
    generalize nHi r v x.p ⟨px, py, pz⟩ = N2 at *
    clear hf hfar
    obtain ⟨⟨ax, ay, az⟩, g, d⟩ := x
    dsimp only at hr g3 g4
    have el : els.length < 100 := by rw [hel]; simp; omega
    cases k with
    | zero =>
      have : els = [] := by rw [hel]; rfl
      subst this
      refine bs.av (sx := nos) kB3_ok ?_
      repeat' (first | refine wk3 ?_ | (refine wk2 ?_ ?_ <;> intro _) | refine wk4 ?_ | fail); all_goals (conv => whnf)
      exact Done.mk ⟨(1, _, _, [] ++ [[I ax, I ay, I az, I g, I d, I S1, I S2, I N1, I N2]]), [(20, 33)], rfl, kps, kps, ⟨W_succ (k := 0) (by omega), hlt, rfl, hr.symm⟩, by dsimp only; omega⟩
    | succ k =>
      refine bs.av (sx := nos) kB3_ok ?_
      repeat' (first | refine wk3 ?_ | (refine wk2 ?_ ?_ <;> intro _) | refine wk4 ?_ | fail); all_goals (conv => whnf)
      refine aop_app (ys := [[I ax, I ay, I az, I g, I d, I S1, I S2, I N1, I N2]]) rfl rfl rfl rfl rfl rfl rfl rfl rfl rfl (by simp) hln (by simp only [List.length_cons, List.length_nil]; omega) ?_
      repeat' (first | refine wk3 ?_ | (refine wk2 ?_ ?_ <;> intro _) | refine wk4 ?_ | fail); all_goals (conv => whnf)
      exact Done.mk ⟨(k + 2, _, _, els ++ [[I ax, I ay, I az, I g, I d, I S1, I S2, I N1, I N2]]), [(20, 33)], rfl, kps, kps, ⟨W_succ (k := k + 1) (by omega), hlt, List.length_append.symm, hr.symm⟩, by dsimp only; omega⟩
  · refine bs.av (sx := nos) kB3_ok ?_
    cases k with
    | zero => omega
    | succ k =>
      repeat' (first | refine wk3 ?_ | (refine wk2 ?_ ?_ <;> intro _) | refine wk4 ?_ | fail); all_goals (conv => whnf)
      have h1 : els = ls.map (rayV r v ⟨px, py, pz⟩) := by rw [hel, List.take_of_length_le (by omega)]
      rw [h1] at hln ⊢
      rw [hln]
      exact ret_rows [20] rfl rfl rfl
theorem opE_zero {r v : Int} {p : Pl} {ls : List Sp} : opE r v p ls = 0 ↔ OkA r v ls ∧ OkS p ls := by
  unfold opE
  rw [← chkA_zero, ← seE_zero]
  by_cases h : (chkA r v ls).2 = 0
  · rw [if_neg (fun c => c h)]; simp [h]
  · rw [if_pos h]; simp [h]
theorem e14 {r v : Int} {p : Pl} {ls : List Sp} (hl : ls.length < 100000) : PCall Try.prog 14 [arr r v ls, p.av] ⟨.tup [.isl 9 (opV r v p ls), I (opE r v p ls)], []⟩ := by
  unfold opV
  by_cases hz : opE r v p ls = 0
  · obtain ⟨ha, hs⟩ := opE_zero.1 hz
    rw [if_pos hz, hz]
    exact (e14r ha hs).freeze ⟨⟨rfl, rfl, rfl⟩, ⟨rfl, rfl⟩, trivial⟩
  rw [if_neg hz]
  have g1 := famR_hit (p := Few) (fun q => ⟨I (chkA q.1 q.2.1 q.2.2).2, []⟩) (a := r) (b := v) (ls := ls) hl
  have g2 := famRP_hit (pp := FewS) (fun q => ⟨I (seE q.2 q.1.2.2), []⟩) (a := r) (b := v) (ls := ls) (p := p) hl
  dsimp only at g1 g2
  unfold opE at hz ⊢
  generalize (chkA r v ls).2 = C at *
  generalize seE p ls = S at *
  obtain ⟨px, py, pz⟩ := p
  by_cases h : C = 0
  · subst h
    rw [if_neg (fun c => c rfl)] at hz ⊢
    refine PCall.freeze (res := ⟨.tup [.nils, I S], []⟩) ?_ ⟨rfl, ⟨rfl, rfl⟩, trivial⟩
    refine bs.pv (sx := nos) kB3_ok Try.func14 (by kernel_rfl) (by kernel_rfl) rfl ?_
    repeat' (first | refine wk3 ?_ | (refine wk2 ?_ ?_ <;> intro _) | refine wk4 ?_ | fail); all_goals (conv => whnf)
    exact ret_of rfl rfl
  · rw [if_pos h]
    refine PCall.freeze (res := ⟨.tup [.nils, I C], []⟩) ?_ ⟨rfl, ⟨rfl, rfl⟩, trivial⟩
    refine bs.pv (sx := nos) kB3_ok Try.func14 (by kernel_rfl) (by kernel_rfl) rfl ?_
    repeat' (first | refine wk3 ?_ | (refine wk2 ?_ ?_ <;> intro _) | refine wk4 ?_ | fail); all_goals (conv => whnf)
    exact ret_of rfl rfl
end Go.Proofs.Ytmbgehpcjihfpaa
