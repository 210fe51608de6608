/- A part of the proof: lemmas. -/
import Derived.Test.YtmbgehpcjihfpaaAL6
set_option linter.unusedVariables false
set_option linter.unusedSimpArgs false
namespace Go.Proofs.Ytmbgehpcjihfpaa
open Go Go.Sx
/-! ### Arrays and their errors -/
abbrev arr (r v : Int) (ls : List Sp) : AV := .agg [I r, I v, .isl 5 (ls.map sv)]
def r25 : List AV → Option PRes
  | [.agg [.int .i64 r, .int .i64 v, _]] => some ⟨P2 r v, []⟩
  | _ => none
theorem e25 (r v : Int) (L : AV) : PCall Try.prog 25 [.agg [I r, I v, L]] ⟨P2 r v, []⟩ := by
  refine bs.pv (sx := nos) pt0_ok Try.func25 (by kernel_rfl) (by kernel_rfl) rfl ?_
  repeat' (first | refine wk3 ?_ | (refine wk2 ?_ ?_ <;> intro _) | refine wk4 ?_ | fail); all_goals (conv => whnf)
  exact ret_of rfl rfl
noncomputable def kB2 : PC := ins 25 r25 kA3
theorem kB2_ok : PCOK Try.prog kB2 := ins_ok (fun a res h => by unfold r25 at h; split at h <;> cases h; exact e25 _ _ _) kA3_ok
def soE (r v : Int) : Int := unl (within r 8000 192000 && within v 30000 40000) 2
def spE (s : Sp) : Int := fst [unl s.p.bo 2, unl (within s.g 0 1000 && within s.d 0 10000) 2]
def headE (r v : Int) (n : Int) : Int := fst [soE r v, unl (decide (n > 0)) 10, unl (decide (n ≤ 8)) 8]
def goC : Nat → List Sp → Int × Int
  | _, [] => (0, 0)
  | i, s :: l => if spE s ≠ 0 then (i, spE s) else goC (i + 1) l
def chkA (r v : Int) (ls : List Sp) : Int × Int := if headE r v (ls.map sv).length ≠ 0 then (0, headE r v (ls.map sv).length) else goC 0 ls
set_option maxRecDepth 100000 in
set_option maxHeartbeats 4000000 in
theorem e28 {r v : Int} {ls : List Sp} (hl : ls.length < 100000) : PCall Try.prog 28 [arr r v ls] ⟨.tup [I (chkA r v ls).1, I (chkA r v ls).2], []⟩ := by
  have e3 := sv_length ls
  have g := c31_hit (ns := [soE r v, unl (decide (((ls.map sv).length : Int) > 0)) 10, unl (decide (((ls.map sv).length : Int) ≤ 8)) 8]) (by simp)
  have g' : c31 [.isl 1 (nl [soE r v, unl (decide (((ls.map sv).length : Int) > 0)) 10, unl (decide (((ls.map sv).length : Int) ≤ 8)) 8])] = some ⟨I (headE r v (ls.map sv).length), []⟩ := g
  clear g
  unfold chkA
  unfold soE at g'
  generalize headE r v (ls.map sv).length = H at *
  by_cases hz : H = 0
  rotate_left
  · rw [if_pos hz]
    refine bs.pv (sx := nos) kB2_ok Try.func28 (by kernel_rfl) (by kernel_rfl) rfl ?_
    repeat' (first | refine wk3 ?_ | (refine wk2 ?_ ?_ <;> intro _) | refine wk4 ?_ | fail); all_goals (conv => whnf)
    exact ret_of rfl rfl
  rw [if_neg (fun c => c hz)]
  subst hz
  refine bs.pv (sx := nos) kB2_ok Try.func28 (by kernel_rfl) (by kernel_rfl) rfl ?_
  repeat' (first | refine wk3 ?_ | (refine wk2 ?_ ?_ <;> intro _) | refine wk4 ?_ | fail); all_goals (conv => whnf)
  refine loopV (S := Nat × Int) (fun t => ls.length - t.1) (fun t => [(27, .isl 5 (ls.map sv)), (28, I (ls.map sv).length), (29, I t.2)]) (fun _ => []) 60 60 (fun t => t.2 = t.1 ∧ t.1 ≤ ls.length ∧ goC t.1 (ls.drop t.1) = goC 0 ls) (0, 0) ⟨rfl, Nat.zero_le _, rfl⟩ (Nat.le_of_ble_eq_true rfl) [] rfl (kps) (kps) ?_
  rintro ⟨k, i⟩ ⟨hi, hk, hh⟩
  dsimp only at hi hk hh ⊢
  subst hi
  clear g'
  generalize goC 0 ls = R at *
  refine bs.av (sx := nos) kB2_ok ?_
  by_cases hlt : k < ls.length
  · have e1 := sv_get hlt
    rw [List.drop_eq_getElem_cons hlt, goC] at hh
    generalize ls[k] = x at *
    have g := c31_hit (ns := [unl x.p.bo 2, unl (within x.g 0 1000 && within x.d 0 10000) 2]) (by simp)
    have g' : c31 [.isl 1 (nl [unl x.p.bo 2, unl (within x.g 0 1000 && within x.d 0 10000) 2])] = some ⟨I (spE x), []⟩ := g
    clear g
    obtain ⟨⟨x, y, z⟩, g, d⟩ := x
    dsimp only at g'
    generalize spE _ = E at *
    by_cases hb : E = 0
    · subst hb
      rw [if_neg (by omega)] at hh
      repeat' (first | refine wk3 ?_ | (refine wk2 ?_ ?_ <;> intro _) | refine wk4 ?_ | fail); all_goals (conv => whnf)
      exact Done.mk ⟨(k + 1, _), [], rfl, kps, kps, ⟨W_succ (by omega), hlt, hh⟩, by dsimp only; omega⟩
    · rw [if_pos hb] at hh
      repeat' (first | refine wk3 ?_ | (refine wk2 ?_ ?_ <;> intro _) | refine wk4 ?_ | fail); all_goals (conv => whnf)
      exact ret_of (by rw [← hh]) rfl
  · rw [List.drop_of_length_le (by omega)] at hh
    repeat' (first | refine wk3 ?_ | (refine wk2 ?_ ?_ <;> intro _) | refine wk4 ?_ | fail); all_goals (conv => whnf)
    exact ret_of (by rw [← hh]; rfl) rfl
abbrev Few (q : Int × Int × List Sp) : Prop := q.2.2.length < 100000
theorem arr_inj {q q' : Int × Int × List Sp} (h : arr q.1 q.2.1 q.2.2 = arr q'.1 q'.2.1 q'.2.2) : q = q' := by
  obtain ⟨a, b, c⟩ := q
  obtain ⟨a', b', c'⟩ := q'
  simp only [arr, AV.agg.injEq, List.cons.injEq, AV.int.injEq, AV.isl.injEq, true_and, and_true] at h
  obtain ⟨rfl, rfl, h⟩ := h
  rw [sv_inj h]
noncomputable abbrev famR (p : Int × Int × List Sp → Prop) (r : Int × Int × List Sp → PRes) : List AV → Option PRes := famA p (fun q => [arr q.1 q.2.1 q.2.2]) r
theorem famR_hit {p : Int × Int × List Sp → Prop} (r : Int × Int × List Sp → PRes) {a b : Int} {ls : List Sp} (h : p (a, b, ls)) : famR p r [arr a b ls] = some (r (a, b, ls)) :=
  famA_hit (p := p) (g := fun q => [arr q.1 q.2.1 q.2.2]) (r := r) (k := (a, b, ls)) (fun j hj => by rw [arr_inj (List.cons.inj hj).1]) h
theorem e21 {r v : Int} {ls : List Sp} (hl : ls.length < 100000) : PCall Try.prog 21 [arr r v ls] ⟨I (chkA r v ls).2, []⟩ := by
  have g := one_hit [arr r v ls] ⟨.tup [I (chkA r v ls).1, I (chkA r v ls).2], []⟩
  have hk := one_ok (e28 (r := r) (v := v) hl) pt0_ok
  generalize chkA r v ls = R at *
  refine bs.pv (sx := nos) hk Try.func21 (by kernel_rfl) (by kernel_rfl) rfl ?_
  repeat' (first | refine wk3 ?_ | (refine wk2 ?_ ?_ <;> intro _) | refine wk4 ?_ | fail); all_goals (conv => whnf)
  exact ret_int rfl
/-- The error of a seat. -/
def seE (p : Pl) (ls : List Sp) : Int := fst [unl p.bo 2, unl (!(ls.any (nr p))) 11]
noncomputable def cSe (p : Pl) (ls : List Sp) : PC := ins 17 (one [.isl 5 (ls.map sv), .func 29 [] [.ipt (pcs p)]] ⟨Bo (ls.any (nr p)), []⟩) kA3
theorem cSe_ok (p : Pl) {ls : List Sp} (hl : ls.length < 100000) : PCOK Try.prog (cSe p ls) := one_ok (e17_29 (p := p) hl) kA3_ok
set_option maxHeartbeats 4000000 in
theorem e22 {r v : Int} {ls : List Sp} (p : Pl) (hl : ls.length < 100000) : PCall Try.prog 22 [arr r v ls, p.av] ⟨I (seE p ls), []⟩ := by
  have g := one_hit [.isl 5 (ls.map sv), .func 29 [] [.ipt (pcs p)]] ⟨Bo (ls.any (nr p)), []⟩
  have g1 := c31_hit (ns := [unl p.bo 2, unl (!(ls.any (nr p))) 11]) (by simp)
  have g2 : c31 [.isl 1 (nl [unl p.bo 2, unl (!(ls.any (nr p))) 11])] = some ⟨I (seE p ls), []⟩ := g1
  clear g1
  have hk := cSe_ok p hl
  generalize seE p ls = S at *
  obtain ⟨x, y, z⟩ := p
  refine bs.pv (sx := nos) hk Try.func22 (by kernel_rfl) (by kernel_rfl) rfl ?_
  repeat' (first | refine wk3 ?_ | (refine wk2 ?_ ?_ <;> intro _) | refine wk4 ?_ | fail); all_goals (conv => whnf)
  exact ret_int rfl
end Go.Proofs.Ytmbgehpcjihfpaa
