/- A part of the proof: lemmas. -/
import Derived.Test.YtdaliaafmcjikaaGreatJA3
set_option linter.unusedVariables false
set_option linter.unusedSimpArgs false
namespace Go.Proofs.YtdaliaafmcjikaaGreat
open Go Go.Sx
/-! ### A path turned -/
def trV (p : Pth) : Pth := ⟨p.ss.reverse, p.ps.reverse, p.sq⟩
def trP (p : Pth) : Pth := if pthE p = 0 then trV p else ⟨[], [], 0⟩
def s40 : FuncId → Bool := fun f => Nat.beq f 105 || Nat.beq f 106
set_option maxRecDepth 100000 in
set_option maxHeartbeats 8000000 in
theorem d40 (p : Pth) : PCall Tryz.prog 40 [p.av] ⟨.tup [(trP p).av, I (pthE p)], []⟩ := by
  have h96 := d162 p
  unfold trP
  by_cases c : pthE p = 0
  rotate_left
  · rw [if_neg c]
    generalize pthE p = E at *
    refine PCall.freeze (res := ⟨.tup [.agg [.nils, .nils, I 0], I E], []⟩) ?_ ⟨⟨rfl, rfl, ⟨rfl, rfl⟩, trivial⟩, ⟨rfl, rfl⟩, trivial⟩
    refine bs.pv (sx := nos) (one_ok h96 pt0_ok) Tryz.func40 (by kernel_rfl) (by kernel_rfl) rfl ?_
    repeat' (first | refine wk3 ?_ | (refine wk2 ?_ ?_ <;> intro _) | refine wk4 ?_ | fail); all_goals (conv => whnf)
    exact ret_of rfl rfl
  rw [if_pos c]
  obtain ⟨⟨k1, k2⟩, k3⟩ := pthE_zero c
  rw [c] at h96 ⊢
  obtain ⟨ss, ps, sq⟩ := p
  dsimp only at k1 k2 k3
  cases ss with
  | nil =>
    have : ps = [] := List.eq_nil_of_length_eq_zero (by simpa using k2)
    subst this
    have hk := one_ok h96 (one_ok d103e (one_ok d104e pt0_ok))
    refine bs.pv (sx := s40) hk Tryz.func40 (by kernel_rfl) (by kernel_rfl) rfl ?_
    repeat' (first | refine wk3 ?_ | (refine wk2 ?_ ?_ <;> intro _) | refine wk4 ?_ | fail); all_goals (conv => whnf)
    refine bs.sv (sx := nos) hk Tryz.func105 (by kernel_rfl) (by kernel_rfl) ?_
    repeat' (first | refine wk3 ?_ | (refine wk2 ?_ ?_ <;> intro _) | refine wk4 ?_ | fail); all_goals (conv => whnf)
    refine LpM.start 1 (LpM.succ (bs.av (sx := nos) hk ?_))
    repeat' (first | refine wk3 ?_ | (refine wk2 ?_ ?_ <;> intro _) | refine wk4 ?_ | fail); all_goals (conv => whnf)
    refine bs.sv (sx := nos) hk Tryz.func106 (by kernel_rfl) (by kernel_rfl) ?_
    repeat' (first | refine wk3 ?_ | (refine wk2 ?_ ?_ <;> intro _) | refine wk4 ?_ | fail); all_goals (conv => whnf)
    refine LpM.start 1 (LpM.succ (bs.av (sx := nos) hk ?_))
    repeat' (first | refine wk3 ?_ | (refine wk2 ?_ ?_ <;> intro _) | refine wk4 ?_ | fail); all_goals (conv => whnf)
    exact ret_of rfl rfl
  | cons s ss =>
    cases ps with
    | nil => simp at k2
    | cons q ps =>
      have m1 := nl_length (s :: ss)
      have m2 : ((q :: ps).map hp4).length = (q :: ps).length := by simp
      have hk := one_ok h96 (one_ok (d103 (ns := s :: ss) (by simp) (by omega)) (one_ok (d104 (ps := q :: ps) (by simp) (by omega)) pt0_ok))
      generalize hS : s :: ss = S at *
      generalize hQ : q :: ps = Q at *
      have mS : 0 < S.length := by rw [← hS]; simp
      refine PCall.freeze (res := ⟨.tup [.agg [.asl 0 0 (nl S).length, .asl 1 0 (Q.map hp4).length, I sq], I 0], [(1, nl S.reverse), (4, Q.reverse.map hp4)]⟩) ?_ ?_
      · refine bs.pv (sx := s40) hk Tryz.func40 (by kernel_rfl) (by kernel_rfl) rfl ?_
        repeat' (first | refine wk3 ?_ | (refine wk2 ?_ ?_ <;> intro _) | refine wk4 ?_ | fail); all_goals (conv => whnf)
        refine bs.sv (sx := nos) hk Tryz.func105 (by kernel_rfl) (by kernel_rfl) ?_
        repeat' (first | refine wk3 ?_ | (refine wk2 ?_ ?_ <;> intro _) | refine wk4 ?_ | fail); all_goals (conv => whnf)
        have j0 : IntKind.i64.wrap ((((nl S).length : Nat) : Int) - 1) = ((nl S).length : Int) - 1 := W_eq (by omega) (by omega)
        refine loopV (S := Nat × Int × Int × List (List AV) × List Int) (fun t => S.length - t.1) (fun t => [(0, .asl 4 0 (nl S).length), (2, I t.2.1), (3, I t.2.2.1)]) (fun t => [(13, .row 3 [[.asl 4 0 (nl S).length, .asl 8 0 (Q.map hp4).length, I sq]] true false), (8, .row 4 (Q.map hp4) true true), (4, .row 1 t.2.2.2.1 true true), (1, .row 3 [[.nils, .nils, I 0]] true false)]) 15 15
          (fun t => t.2.1 = t.1 ∧ t.2.2.1 = (S.length : Int) - 1 - t.1 ∧ t.1 ≤ S.length ∧ t.2.2.2.1 = t.2.2.2.2.map one1 ∧ RevG (0 : Int) S t.2.2.2.2 t.1) (0, 0, IntKind.i64.wrap ((((nl S).length : Nat) : Int) - 1), nl S, S) ⟨rfl, by dsimp only; rw [j0]; omega, Nat.zero_le _, rfl, RevG.zero _ _⟩ (Nat.le_refl _) [] rfl (kps) (kps) ?_
        rintro ⟨k, i, b, es, l⟩ ⟨hi, hb, hkk, hes, hri⟩
        dsimp only at hi hb hkk hes hri ⊢
        subst hi
        refine bs.av (sx := nos) hk ?_
        by_cases hlt : k + k + 1 < S.length
        · have hkl : k < l.length := by rw [hri.len]; omega
          have hbl : S.length - 1 - k < l.length := by rw [hri.len]; omega
          have hbn : 0 + b.toNat = S.length - 1 - k := by omega
          have e1 : es[0 + b.toNat]? = some (one1 (l.getD (S.length - 1 - k) (0 : Int))) := by rw [hbn, hes]; exact mapG_get hbl
          have e2 : es[0 + ((k : Nat) : Int).toNat]? = some (one1 (l.getD k (0 : Int))) := by rw [hes, Nat.zero_add, Int.toNat_natCast]; exact mapG_get hkl
          have e3 : ∀ y, (setEl es (0 + ((k : Nat) : Int).toNat) y)[0 + b.toNat]? = some (one1 (l.getD (S.length - 1 - k) (0 : Int))) := fun y => by rw [setEl_eq, List.getElem?_set_ne (by omega), e1]
          have e4 := e3 (one1 (l.getD (S.length - 1 - k) (0 : Int)))
          have e5 : IntKind.i64.wrap (b - 1) = b - 1 := W_eq (by omega) (by omega)
          repeat' (first | refine wk3 ?_ | (refine wk2 ?_ ?_ <;> intro _) | refine wk4 ?_ | fail); all_goals (conv => whnf)
          refine Done.mk ⟨(k + 1, _, _, _, swG (0 : Int) l k (S.length - 1 - k)), [], rfl, kps, kps, ⟨W_succ (by omega), ?_, by dsimp only; omega, ?_, hri.succ hlt⟩, by dsimp only; omega⟩
          · exact e5.trans (by omega)
          · show setEl (setEl es (0 + ((k : Nat) : Int).toNat) (one1 (l.getD (S.length - 1 - k) (0 : Int)))) (0 + b.toNat) (one1 (l.getD k (0 : Int))) = _
            rw [setEl_eq, setEl_eq, hbn, Nat.zero_add, Int.toNat_natCast, hes]
            exact mapG_sw _ _ _ _
        · have hfin := hri.fin (by omega)
          subst hfin
          subst hes
          repeat' (first | refine wk3 ?_ | (refine wk2 ?_ ?_ <;> intro _) | refine wk4 ?_ | fail); all_goals (conv => whnf)
          refine bs.sv (sx := nos) hk Tryz.func106 (by kernel_rfl) (by kernel_rfl) ?_
          repeat' (first | refine wk3 ?_ | (refine wk2 ?_ ?_ <;> intro _) | refine wk4 ?_ | fail); all_goals (conv => whnf)
          have j0 : IntKind.i64.wrap ((((Q.map hp4).length : Nat) : Int) - 1) = ((Q.map hp4).length : Int) - 1 := W_eq (by omega) (by omega)
          refine loopV (S := Nat × Int × Int × List (List AV) × List (Int × Int × Int × Int)) (fun t => Q.length - t.1) (fun t => [(0, .asl 8 0 (Q.map hp4).length), (2, I t.2.1), (3, I t.2.2.1)]) (fun t => [(13, .row 3 [[.asl 4 0 (nl S).length, .asl 8 0 (Q.map hp4).length, I sq]] true false), (8, .row 4 t.2.2.2.1 true true), (4, .row 1 (S.reverse.map one1) true true), (1, .row 3 [[.nils, .nils, I 0]] true false)]) 15 15
            (fun t => t.2.1 = t.1 ∧ t.2.2.1 = (Q.length : Int) - 1 - t.1 ∧ t.1 ≤ Q.length ∧ t.2.2.2.1 = t.2.2.2.2.map hp4 ∧ RevG ((0, 0, 0, 0) : Int × Int × Int × Int) Q t.2.2.2.2 t.1) (0, 0, IntKind.i64.wrap ((((Q.map hp4).length : Nat) : Int) - 1), Q.map hp4, Q) ⟨rfl, by dsimp only; rw [j0]; omega, Nat.zero_le _, rfl, RevG.zero _ _⟩ (Nat.le_refl _) [] rfl (kps) (kps) ?_
          rintro ⟨k, i, b, es, l⟩ ⟨hi, hb, hkk, hes, hri⟩
          dsimp only at hi hb hkk hes hri ⊢
          subst hi
          refine bs.av (sx := nos) hk ?_
          by_cases hlt : k + k + 1 < Q.length
          · have hkl : k < l.length := by rw [hri.len]; omega
            have hbl : Q.length - 1 - k < l.length := by rw [hri.len]; omega
            have hbn : 0 + b.toNat = Q.length - 1 - k := by omega
            have e1 : es[0 + b.toNat]? = some (hp4 (l.getD (Q.length - 1 - k) ((0, 0, 0, 0) : Int × Int × Int × Int))) := by rw [hbn, hes]; exact mapG_get hbl
            have e2 : es[0 + ((k : Nat) : Int).toNat]? = some (hp4 (l.getD k ((0, 0, 0, 0) : Int × Int × Int × Int))) := by rw [hes, Nat.zero_add, Int.toNat_natCast]; exact mapG_get hkl
            have e3 : ∀ y, (setEl es (0 + ((k : Nat) : Int).toNat) y)[0 + b.toNat]? = some (hp4 (l.getD (Q.length - 1 - k) ((0, 0, 0, 0) : Int × Int × Int × Int))) := fun y => by rw [setEl_eq, List.getElem?_set_ne (by omega), e1]
            have e4 := e3 (hp4 (l.getD (Q.length - 1 - k) ((0, 0, 0, 0) : Int × Int × Int × Int)))
            have e5 : IntKind.i64.wrap (b - 1) = b - 1 := W_eq (by omega) (by omega)
            repeat' (first | refine wk3 ?_ | (refine wk2 ?_ ?_ <;> intro _) | refine wk4 ?_ | fail); all_goals (conv => whnf)
            refine Done.mk ⟨(k + 1, _, _, _, swG ((0, 0, 0, 0) : Int × Int × Int × Int) l k (Q.length - 1 - k)), [], rfl, kps, kps, ⟨W_succ (by omega), ?_, by dsimp only; omega, ?_, hri.succ hlt⟩, by dsimp only; omega⟩
            · exact e5.trans (by omega)
            · show setEl (setEl es (0 + ((k : Nat) : Int).toNat) (hp4 (l.getD (Q.length - 1 - k) ((0, 0, 0, 0) : Int × Int × Int × Int)))) (0 + b.toNat) (hp4 (l.getD k ((0, 0, 0, 0) : Int × Int × Int × Int))) = _
              rw [setEl_eq, setEl_eq, hbn, Nat.zero_add, Int.toNat_natCast, hes]
              exact mapG_sw _ _ _ _
          · have hfin := hri.fin (by omega)
            subst hfin
            subst hes
            repeat' (first | refine wk3 ?_ | (refine wk2 ?_ ?_ <;> intro _) | refine wk4 ?_ | fail); all_goals (conv => whnf)
            exact ret_rows [4, 8] rfl rfl rfl
      · have g1 : (nl S).length = (nl S.reverse).length := by rw [nl_length, nl_length, List.length_reverse]
        have g2 : (Q.map hp4).length = (Q.reverse.map hp4).length := by simp
        exact ⟨⟨⟨rfl, rfl, g1⟩, ⟨rfl, rfl, g2⟩, ⟨rfl, rfl⟩, trivial⟩, ⟨rfl, rfl⟩, trivial⟩
end Go.Proofs.YtdaliaafmcjikaaGreat
