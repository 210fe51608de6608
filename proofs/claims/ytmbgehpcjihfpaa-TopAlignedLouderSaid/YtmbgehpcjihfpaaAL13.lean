/- A part of the proof: lemmas. -/
import Derived.Test.YtmbgehpcjihfpaaAL12
set_option linter.unusedVariables false
set_option linter.unusedSimpArgs false
namespace Go.Proofs.Ytmbgehpcjihfpaa
open Go Go.Sx
theorem e15f {r v : Int} {p : Pl} {ls : List Sp} {last : Int} (h0 : 0 < ls.length) (hl : ls.length < 100000) : PCall Try.prog 15 [arr r v ls, .func 16 [] [.ipt [I last], .ipt [.isl 9 (ls.map (rayV r v p))]]] ⟨arr r v (ls.map (al r v p last)), []⟩ := by
  have h := e15 (r := r) (v := v) (p := p) (last := last) h0 hl
  have e : (ls.map sv).length = ((ls.map (al r v p last)).map sv).length := by simp
  rw [e] at h
  exact h.freeze ⟨⟨rfl, rfl⟩, ⟨rfl, rfl⟩, ⟨rfl, rfl, rfl⟩, trivial⟩
noncomputable def lastG (r v : Int) (p : Pl) : Int → List Sp → Int
  | m, [] => m
  | m, s :: l => lastG r v p (imax m (nLo r v s.p p)) l
def tooL (l : List Sp) : Bool := l.any fun s : Sp => decide (10000 < s.d)
noncomputable def alL (r v : Int) (p : Pl) (ls : List Sp) : List Sp := ls.map (al r v p (lastG r v p 0 ls))
noncomputable def alE (r v : Int) (p : Pl) (ls : List Sp) : Int := if opE r v p ls ≠ 0 then opE r v p ls else if tooL (alL r v p ls) = true then 8 else 0
noncomputable def alV (r v : Int) (p : Pl) (ls : List Sp) : AV := if alE r v p ls = 0 then arr r v (alL r v p ls) else arr 0 0 []
noncomputable def kD1 (r v : Int) (p : Pl) (ls : List Sp) : PC := ins 14 (famRP FewS fun q => ⟨.tup [.isl 9 (opV q.1.1 q.1.2.1 q.2 q.1.2.2), I (opE q.1.1 q.1.2.1 q.2 q.1.2.2)], []⟩)
  (ins 15 (one [arr r v ls, .func 16 [] [.ipt [I (lastG r v p 0 ls)], .ipt [.isl 9 (ls.map (rayV r v p))]]] ⟨arr r v (alL r v p ls), []⟩) (ins 17 (one [.isl 5 ((alL r v p ls).map sv), .func 18 [] []] ⟨Bo (tooL (alL r v p ls)), []⟩) pt0))
theorem kD1_ok {r v : Int} {p : Pl} {ls : List Sp} (h0 : 0 < ls.length) (hl : ls.length < 100000) : PCOK Try.prog (kD1 r v p ls) :=
  famA_ok (fun q h => e14 h) (one_ok (e15f h0 hl) (one_ok (e17_18 (by unfold alL; simpa using hl)) pt0_ok))
set_option maxRecDepth 100000 in
set_option maxHeartbeats 8000000 in
theorem e5 {r v : Int} {p : Pl} {ls : List Sp} (hl : ls.length < 100000) : PCall Try.prog 5 [arr r v ls, p.av] ⟨.tup [alV r v p ls, I (alE r v p ls)], []⟩ := by
  have g1 := famRP_hit (pp := FewS) (fun q => ⟨.tup [.isl 9 (opV q.1.1 q.1.2.1 q.2 q.1.2.2), I (opE q.1.1 q.1.2.1 q.2 q.1.2.2)], []⟩) (a := r) (b := v) (ls := ls) (p := p) hl
  dsimp only at g1
  by_cases hz : opE r v p ls = 0
  rotate_left
  · have ho : opV r v p ls = [] := by unfold opV; rw [if_neg hz]
    rw [ho] at g1
    have a1 : alE r v p ls = opE r v p ls := by unfold alE; rw [if_pos hz]
    unfold alV
    rw [a1, if_neg hz]
    have hk := kC1_ok
    generalize opE r v p ls = E at *
    obtain ⟨px, py, pz⟩ := p
    refine PCall.freeze (res := ⟨.tup [.agg [I 0, I 0, .nils], I E], []⟩) ?_ ⟨⟨⟨rfl, rfl⟩, ⟨rfl, rfl⟩, rfl, trivial⟩, ⟨rfl, rfl⟩, trivial⟩
    refine bs.pv (sx := nos) hk Try.func5 (by kernel_rfl) (by kernel_rfl) rfl ?_
    repeat' (first | refine wk3 ?_ | (refine wk2 ?_ ?_ <;> intro _) | refine wk4 ?_ | fail); all_goals (conv => whnf)
    exact ret_of rfl rfl
  have h0 : 0 < ls.length := (opE_zero.1 hz).1.n0
  have ho : opV r v p ls = ls.map (rayV r v p) := by unfold opV; rw [if_pos hz]
  rw [ho, hz] at g1
  clear ho
  have hk := kD1_ok (r := r) (v := v) (p := p) h0 hl
  have g2 := one_hit [arr r v ls, .func 16 [] [.ipt [I (lastG r v p 0 ls)], .ipt [.isl 9 (ls.map (rayV r v p))]]] ⟨arr r v (alL r v p ls), []⟩
  have g3 := one_hit [.isl 5 ((alL r v p ls).map sv), .func 18 [] []] ⟨Bo (tooL (alL r v p ls)), []⟩
  have a1 : alE r v p ls = if tooL (alL r v p ls) = true then 8 else 0 := by unfold alE; rw [if_neg (fun c => c hz)]
  unfold alV
  rw [a1]
  unfold kD1 at hk
  have e3 : (ls.map (rayV r v p)).length = ls.length := by simp
  have hget : ∀ {k : Nat} (h : k < ls.length), (ls.map (rayV r v p))[((k : Nat) : Int).toNat]? = some (rayV r v p ls[k]) := fun h => rv_get h
  have hray : ∀ s : Sp, rayV r v p s = rayA s (sLo s.p p) (sHi s.p p) (nLo r v s.p p) (nHi r v s.p p) := fun s => rfl
  have hlc : ∀ m (s : Sp) l, lastG r v p m (s :: l) = lastG r v p (imax m (nLo r v s.p p)) l := fun m s l => rfl
  have hln : ∀ m, lastG r v p m [] = m := fun m => rfl
  generalize hM : ls.map (rayV r v p) = M at *
  generalize hA : alL r v p ls = A at *
  generalize hR : lastG r v p 0 ls = R at *
  generalize lastG r v p = G at *
  have hN : ∀ s : Sp, ∃ n, n = nLo r v s.p p := fun s => ⟨_, rfl⟩
  obtain ⟨px, py, pz⟩ := p
  generalize hT : tooL A = T at *
  cases T
  · rw [show (if (false : Bool) = true then (8 : Int) else 0) = 0 from rfl, if_pos rfl]
    refine bs.pv (sx := nos) hk Try.func5 (by kernel_rfl) (by kernel_rfl) rfl ?_
    repeat' (first | refine wk3 ?_ | (refine wk2 ?_ ?_ <;> intro _) | refine wk4 ?_ | fail); all_goals (conv => whnf)
    refine loopV (S := Nat × Int × Int) (fun t => ls.length - t.1) (fun t => [(2, .ptr 0 0 0), (4, .ptr 2 0 0), (6, .ptr 3 0 0), (8, .ptr 4 0 0), (22, .isl 9 M), (23, I M.length), (24, I t.2.1)]) (fun t => [(4, .row 1 [[I t.2.2]] true false), (3, .row 1 [[.isl 9 M]] true false), (2, .row 3 [[I 0, I 0, .nils]] true false), (0, .row 3 [[I r, I v, .isl 5 (ls.map sv)]] true false)]) 5 5 (fun t => t.2.1 = t.1 ∧ t.1 ≤ ls.length ∧ G t.2.2 (ls.drop t.1) = R) (0, 0, 0) ⟨rfl, Nat.zero_le _, hR⟩ (Nat.le_refl _) [] rfl (kps) (kps) ?_
    rintro ⟨k, i, m⟩ ⟨hi, hk2, hh⟩
    dsimp only at hi hk2 hh ⊢
    subst hi
    by_cases hlt : k < ls.length
    · have e1 := hget hlt
      rw [List.drop_eq_getElem_cons hlt, hlc] at hh
      rw [hray] at e1
      generalize ls[k] = s at *
      generalize sLo s.p ⟨px, py, pz⟩ = S1 at *
      generalize sHi s.p ⟨px, py, pz⟩ = S2 at *
      generalize nLo r v s.p ⟨px, py, pz⟩ = N1 at *
      generalize nHi r v s.p ⟨px, py, pz⟩ = N2 at *
      obtain ⟨⟨x, y, z⟩, g, d⟩ := s
      refine bs.av (sx := nos) hk ?_
      repeat' (first | refine wk3 ?_ | (refine wk2 ?_ ?_ <;> intro _) | refine wk4 ?_ | fail); all_goals (conv => whnf)
      exact Done.mk ⟨(k + 1, _, imax m N1), [], rfl, kps, kps, ⟨W_succ (by omega), hlt, hh⟩, by dsimp only; omega⟩
    · rw [List.drop_of_length_le (by omega), hln] at hh
      subst hh
      refine bs.av (sx := nos) hk ?_
      repeat' (first | refine wk3 ?_ | (refine wk2 ?_ ?_ <;> intro _) | refine wk4 ?_ | fail); all_goals (conv => whnf)
      exact ret_of rfl rfl
  · rw [show (if (true : Bool) = true then (8 : Int) else 0) = 8 from rfl, if_neg (by decide)]
    refine PCall.freeze (res := ⟨.tup [.agg [I 0, I 0, .nils], I 8], []⟩) ?_ ⟨⟨⟨rfl, rfl⟩, ⟨rfl, rfl⟩, rfl, trivial⟩, ⟨rfl, rfl⟩, trivial⟩
    refine bs.pv (sx := nos) hk Try.func5 (by kernel_rfl) (by kernel_rfl) rfl ?_
    repeat' (first | refine wk3 ?_ | (refine wk2 ?_ ?_ <;> intro _) | refine wk4 ?_ | fail); all_goals (conv => whnf)
    refine loopV (S := Nat × Int × Int) (fun t => ls.length - t.1) (fun t => [(2, .ptr 0 0 0), (4, .ptr 2 0 0), (6, .ptr 3 0 0), (8, .ptr 4 0 0), (22, .isl 9 M), (23, I M.length), (24, I t.2.1)]) (fun t => [(4, .row 1 [[I t.2.2]] true false), (3, .row 1 [[.isl 9 M]] true false), (2, .row 3 [[I 0, I 0, .nils]] true false), (0, .row 3 [[I r, I v, .isl 5 (ls.map sv)]] true false)]) 5 5 (fun t => t.2.1 = t.1 ∧ t.1 ≤ ls.length ∧ G t.2.2 (ls.drop t.1) = R) (0, 0, 0) ⟨rfl, Nat.zero_le _, hR⟩ (Nat.le_refl _) [] rfl (kps) (kps) ?_
    rintro ⟨k, i, m⟩ ⟨hi, hk2, hh⟩
    dsimp only at hi hk2 hh ⊢
    subst hi
    by_cases hlt : k < ls.length
    · have e1 := hget hlt
      rw [List.drop_eq_getElem_cons hlt, hlc] at hh
      rw [hray] at e1
      generalize ls[k] = s at *
      generalize sLo s.p ⟨px, py, pz⟩ = S1 at *
      generalize sHi s.p ⟨px, py, pz⟩ = S2 at *
      generalize nLo r v s.p ⟨px, py, pz⟩ = N1 at *
      generalize nHi r v s.p ⟨px, py, pz⟩ = N2 at *
      obtain ⟨⟨x, y, z⟩, g, d⟩ := s
      refine bs.av (sx := nos) hk ?_
      repeat' (first | refine wk3 ?_ | (refine wk2 ?_ ?_ <;> intro _) | refine wk4 ?_ | fail); all_goals (conv => whnf)
      exact Done.mk ⟨(k + 1, _, imax m N1), [], rfl, kps, kps, ⟨W_succ (by omega), hlt, hh⟩, by dsimp only; omega⟩
    · rw [List.drop_of_length_le (by omega), hln] at hh
      subst hh
      refine bs.av (sx := nos) hk ?_
      repeat' (first | refine wk3 ?_ | (refine wk2 ?_ ?_ <;> intro _) | refine wk4 ?_ | fail); all_goals (conv => whnf)
      exact ret_of rfl rfl
end Go.Proofs.Ytmbgehpcjihfpaa
