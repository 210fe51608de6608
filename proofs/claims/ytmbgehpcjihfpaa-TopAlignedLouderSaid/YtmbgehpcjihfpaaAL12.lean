/- A part of the proof: lemmas. -/
import Derived.Test.YtmbgehpcjihfpaaAL11
set_option linter.unusedVariables false
set_option linter.unusedSimpArgs false
namespace Go.Proofs.Ytmbgehpcjihfpaa
open Go Go.Sx
/-! ### Aligned arrays -/
theorem oneEls_sv (ls : List Sp) : oneEls (ls.map sv) = true := by simp [oneEls, AV.one]
theorem e26 {ls : List Sp} (h0 : 0 < ls.length) (hl : ls.length < 100000) : PCall Try.prog 26 [.isl 5 (ls.map sv)] ⟨.asl 0 0 (ls.map sv).length, [(5, ls.map sv)]⟩ := by
  obtain ⟨x, l, rfl⟩ := List.exists_cons_of_length_pos h0
  have h1 := oneEls_sv (x :: l)
  have h2 := sv_length (x :: l)
  refine bs.pv (sx := nos) pt0_ok Try.func26 (by kernel_rfl) (by kernel_rfl) rfl ?_
  repeat' (first | refine wk3 ?_ | (refine wk2 ?_ ?_ <;> intro _) | refine wk4 ?_ | fail); all_goals (conv => whnf)
  refine ret_rows [1] rfl ?_ rfl
  show AV.asl 1 0 (0 + (sv x :: l.map sv).length) = AV.asl 1 0 ((x :: l).map sv).length
  rw [Nat.zero_add]; rfl
noncomputable def al (r v : Int) (p : Pl) (last : Int) (s : Sp) : Sp := { s with d := IntKind.i64.wrap (last - nLo r v s.p p) }
def sxA : FuncId → Bool := fun f => Nat.beq f 16
theorem setEl_sv (l : List Sp) (j : Nat) (s : Sp) : setEl (l.map sv) (0 + ((j : Nat) : Int).toNat) (sv s) = (l.set j s).map sv := by
  rw [Nat.zero_add, setEl_eq, List.map_set]; rfl
set_option maxRecDepth 100000 in
set_option maxHeartbeats 8000000 in
theorem e15 {r v : Int} {p : Pl} {ls : List Sp} {last : Int} (h0 : 0 < ls.length) (hl : ls.length < 100000) : PCall Try.prog 15 [arr r v ls, .func 16 [] [.ipt [I last], .ipt [.isl 9 (ls.map (rayV r v p))]]] ⟨.agg [I r, I v, .asl 0 0 (ls.map sv).length], [(5, (ls.map (al r v p last)).map sv)]⟩ := by
  have e3 : (ls.map (rayV r v p)).length = ls.length := by simp
  have hget : ∀ {k : Nat} (h : k < ls.length), (ls.map (rayV r v p))[((k : Nat) : Int).toNat]? = some (rayV r v p ls[k]) := fun h => rv_get h
  have hray : ∀ s : Sp, rayV r v p s = rayA s (sLo s.p p) (sHi s.p p) (nLo r v s.p p) (nHi r v s.p p) := fun s => rfl
  have hk := one_ok (e26 h0 hl) pt0_ok
  have g := one_hit [.isl 5 (ls.map sv)] ⟨.asl 0 0 (ls.map sv).length, [(5, ls.map sv)]⟩
  have e4 := sv_length ls
  generalize hM : ls.map (rayV r v p) = M at *
  refine bs.pv (sx := sxA) hk Try.func15 (by kernel_rfl) (by kernel_rfl) rfl ?_
  repeat' (first | refine wk3 ?_ | (refine wk2 ?_ ?_ <;> intro _) | refine wk4 ?_ | fail); all_goals (conv => whnf)
  refine loopV (S := Nat × Int × List (List AV)) (fun t => ls.length - t.1) (fun t => [(1, .func 16 [] [.ipt [I last], .ipt [.isl 9 M]]), (2, .ptr 0 0 0), (4, .ptr 1 0 0), (11, .asl 2 0 (ls.map sv).length), (12, I (ls.map sv).length), (13, I t.2.1)]) (fun t => [(2, .row 5 t.2.2 true true), (1, .row 3 [[I 0, I 0, .nils]] true false), (0, .row 3 [[I r, I v, .asl 2 0 (ls.map sv).length]] true false)]) 3 3 (fun t => t.2.1 = t.1 ∧ t.1 ≤ ls.length ∧ t.2.2 = ((ls.take t.1).map (al r v p last) ++ ls.drop t.1).map sv) (0, 0, ls.map sv) ⟨rfl, Nat.zero_le _, by simp⟩ (Nat.le_refl _) [] rfl (kps) (kps) ?_
  rintro ⟨k, i, els⟩ ⟨hi, hk2, hel⟩
  dsimp only at hi hk2 hel ⊢
  subst hi
  obtain ⟨cur, hc⟩ : ∃ cur, cur = (ls.take k).map (al r v p last) ++ ls.drop k := ⟨_, rfl⟩
  rw [← hc] at hel
  clear g
  by_cases hlt : k < ls.length
  · have e1 := hget hlt
    have hlen : cur.length = ls.length := by rw [hc]; simp; omega
    have hcl : k < cur.length := by omega
    have hck : cur[k] = ls[k] := by
      simp only [hc]
      rw [List.getElem_append_right (by simp; omega)]
      have hmin : min k ls.length = k := by omega
      simp [hmin]
    have e2 := sv_get hcl
    rw [hck] at e2
    have hset : cur.set k (al r v p last ls[k]) = (ls.take (k + 1)).map (al r v p last) ++ ls.drop (k + 1) := by
      rw [hc, List.set_append_right _ _ (by simp; omega)]
      have : k - (List.map (al r v p last) (List.take k ls)).length = 0 := by simp; omega
      rw [this, List.drop_eq_getElem_cons hlt, List.set_cons_zero, List.take_succ_eq_append_getElem hlt, List.map_append, List.append_assoc]
      rfl
    have hrow := setEl_sv cur k (al r v p last ls[k])
    rw [hray] at e1
    have hfin : setEl els (0 + ((k : Nat) : Int).toNat) (sv (al r v p last ls[k])) = ((ls.take (k + 1)).map (al r v p last) ++ ls.drop (k + 1)).map sv := by rw [hel, hrow, hset]
    have e2 : els[0 + ((k : Nat) : Int).toNat]? = some (sv ls[k]) := by rw [hel, Nat.zero_add]; exact e2
    have hals : sv (al r v p last ls[k]) = [I ls[k].p.x, I ls[k].p.y, I ls[k].p.z, I ls[k].g, I (IntKind.i64.wrap (last - nLo r v ls[k].p p))] := rfl
    rw [hals] at hfin
    clear hrow hset hals hck
    generalize ls[k] = s at *
    generalize sLo s.p p = S1 at *
    generalize sHi s.p p = S2 at *
    generalize nLo r v s.p p = N1 at *
    generalize nHi r v s.p p = N2 at *
    obtain ⟨⟨x, y, z⟩, gg, d⟩ := s
    dsimp only at e1 e2 hfin
    refine bs.av (sx := sxA) hk ?_
    have e5 : els.length = ls.length := by rw [hel, sv_length, hlen]
    repeat' (first | refine wk3 ?_ | (refine wk2 ?_ ?_ <;> intro _) | refine wk4 ?_ | fail); all_goals (conv => whnf)
    refine bs.sv (sx := sxA) hk Try.func16 (by kernel_rfl) (by kernel_rfl) ?_
    repeat' (first | refine wk3 ?_ | (refine wk2 ?_ ?_ <;> intro _) | refine wk4 ?_ | fail); all_goals (conv => whnf)
    exact Done.mk ⟨(k + 1, _, setEl els (0 + ((k : Nat) : Int).toNat) [I x, I y, I z, I gg, I (IntKind.i64.wrap (last - N1))]), [], rfl, kps, kps, ⟨W_succ (by omega), hlt, hfin⟩, by dsimp only; omega⟩
  · refine bs.av (sx := sxA) hk ?_
    repeat' (first | refine wk3 ?_ | (refine wk2 ?_ ?_ <;> intro _) | refine wk4 ?_ | fail); all_goals (conv => whnf)
    have h1 : cur = ls.map (al r v p last) := by rw [hc, List.take_of_length_le (by omega), List.drop_of_length_le (by omega), List.append_nil]
    rw [hel, h1]
    exact ret_rows [2] rfl rfl rfl
end Go.Proofs.Ytmbgehpcjihfpaa
