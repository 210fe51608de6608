/- A part of the proof: lemmas. -/
import Derived.Test.YtdaliaafmcjikaaGreatJC1
set_option linter.unusedVariables false
set_option linter.unusedSimpArgs false
namespace Go.Proofs.YtdaliaafmcjikaaGreat
open Go Go.Sx
/-! ### Copies of lists of paths -/
def lspR : List Pth → PRes
  | [] => ⟨.nils, []⟩
  | p :: l => ⟨.asl 0 0 ((p :: l).map pv).length, [(3, (p :: l).map pv)]⟩
theorem lspR_frz (l : List Pth) : Frz (lspR l).blks (lspR l).v (.isl 3 (l.map pv)) := by
  cases l with
  | nil => exact rfl
  | cons p l => exact ⟨rfl, rfl, rfl⟩
theorem lspR_ids (l : List Pth) : idsLt (lspR l).blks.length (lspR l).v = true := by cases l <;> rfl
def PthS (l : List Pth) : Prop := ∀ p ∈ l, p.ss.length < 100000 ∧ p.ps.length < 100000
def lspZ : Nat → List (List AV) → List (Nat × ABlk)
  | 0, _ => []
  | _ + 1, A => [(0, .row 3 A true true)]
def lspV : Nat → Nat → AV
  | 0, _ => .nils
  | _ + 1, a => .asl 0 0 a
set_option maxRecDepth 100000 in
set_option maxHeartbeats 8000000 in
theorem d49 {l : List Pth} (hl : l.length < 100000) (hs : PthS l) : PCall Tryz.prog 49 [.isl 3 (l.map pv)] ⟨.isl 3 (l.map pv), []⟩ := by
  have l1 := pv_len l
  refine PCall.freeze (res := lspR l) ?_ (lspR_frz l)
  have hk : PCOK Tryz.prog (ins 35 (famA (fun p : Pth => p.ss.length < 100000 ∧ p.ps.length < 100000) (fun p => [p.av]) (fun p => ⟨p.av, []⟩)) pt0) := famA_ok (fun p h => d21 h.1 h.2) pt0_ok
  refine bs.pv (sx := nos) hk Tryz.func49 (by kernel_rfl) (by kernel_rfl) (lspR_ids l) ?_
  conv => whnf
  refine loopV (S := Nat × Int × Nat × List (List AV)) (fun t => l.length - t.1) (fun t => [(0, .isl 3 (l.map pv)), (3, lspV t.1 t.2.2.1), (4, I t.2.1)]) (fun t => lspZ t.1 t.2.2.2) 0 1
    (fun t => t.2.1 = t.1 ∧ t.1 ≤ l.length ∧ t.2.2.1 = t.2.2.2.length ∧ t.2.2.2 = (l.take t.1).map pv) (0, 0, 0, []) ⟨rfl, Nat.zero_le _, rfl, rfl⟩ (Nat.le_refl _) [] rfl (kps) (kps) ?_
  rintro ⟨k, i, a, A⟩ ⟨hi, hk1, ha, hA⟩
  dsimp only at hi hk1 ha hA ⊢
  subst hi
  refine bs.av (sx := nos) hk ?_
  have lA : A.length = k := by rw [hA, pv_len, List.length_take]; omega
  by_cases hlt : k < l.length
  · have e1 := pv_get hlt
    have q := hs _ (List.getElem_mem hlt)
    have f1 : famA (fun p : Pth => p.ss.length < 100000 ∧ p.ps.length < 100000) (fun p => [p.av]) (fun p => ⟨p.av, []⟩) [l[k].av] = some ⟨l[k].av, []⟩ := famA_hit (p := fun p : Pth => p.ss.length < 100000 ∧ p.ps.length < 100000) (g := fun p => [p.av]) (r := fun p => ⟨p.av, []⟩) (k := l[k]) (fun j hj => by
      simp only [List.cons.injEq, and_true] at hj
      rw [pav_inj hj]) q
    have a1 : (l.take (k + 1)).map pv = A ++ [pv l[k]] := by rw [hA, List.take_add_one, List.getElem?_eq_getElem hlt, List.map_append]; rfl
    generalize l[k] = x at *
    cases k with
    | zero =>
      have nA : A = [] := List.eq_nil_of_length_eq_zero lA
      subst nA
      repeat' (first | refine wk3 ?_ | (refine wk2 ?_ ?_ <;> intro _) | refine wk4 ?_ | fail); all_goals (conv => whnf)
      exact Done.mk ⟨(1, _, _, [pv x]), [(0, 2)], rfl, kps, kps, ⟨rfl, hlt, rfl, a1.symm⟩, by dsimp only; omega⟩
    | succ k =>
      repeat' (first | refine wk3 ?_ | (refine wk2 ?_ ?_ <;> intro _) | refine wk4 ?_ | fail); all_goals (conv => whnf)
      exact Done.mk ⟨(k + 2, _, _, A ++ [pv x]), [(0, 2)], rfl, kps, kps, ⟨W_succ (by omega), hlt, List.length_append.symm, a1.symm⟩, by dsimp only; omega⟩
  · have hk2 : k = l.length := by omega
    subst hk2
    rw [List.take_length] at hA
    cases l with
    | nil =>
      repeat' (first | refine wk3 ?_ | (refine wk2 ?_ ?_ <;> intro _) | refine wk4 ?_ | fail); all_goals (conv => whnf)
      exact ret_of rfl rfl
    | cons p l =>
      have ha2 : a = ((p :: l).map pv).length := by rw [ha, hA]
      subst hA ha2
      repeat' (first | refine wk3 ?_ | (refine wk2 ?_ ?_ <;> intro _) | refine wk4 ?_ | fail); all_goals (conv => whnf)
      exact ret_rows [0] rfl rfl rfl
end Go.Proofs.YtdaliaafmcjikaaGreat
