/- A part of the proof: lemmas. -/
import Derived.Test.YtmbgehpcjihfpaaAL4
set_option linter.unusedVariables false
set_option linter.unusedSimpArgs false
namespace Go.Proofs.Ytmbgehpcjihfpaa
open Go Go.Sx
/-! ### Strengths and numbers -/
theorem td_bd {n d : Int} (h0 : 0 ≤ n) (h1 : 1 ≤ d) : 0 ≤ n.tdiv d ∧ n.tdiv d ≤ n := by
  rw [Int.tdiv_eq_ediv_of_nonneg h0]
  exact ⟨Int.ediv_nonneg h0 (by omega), Int.ediv_le_self _ h0⟩
abbrev Ab (q : Int × Int) : Prop := (0 ≤ q.1 ∧ q.1 ≤ 1000000000000000) ∧ 1 ≤ q.2 ∧ q.2 ≤ 1000000000
def abv (n d : Int) : Int := (n + d - 1).tdiv d
theorem abv_bd {n d : Int} (h : Ab (n, d)) : 0 ≤ abv n d ∧ abv n d ≤ n + d - 1 := by
  obtain ⟨⟨h1, h2⟩, h3, h4⟩ := h
  exact td_bd (by dsimp only at *; omega) (by dsimp only at *; omega)
theorem e35 {n d : Int} (h : Ab (n, d)) : PCall Try.prog 35 [I n, I d] ⟨I (abv n d), []⟩ := by
  have hb := abv_bd h
  obtain ⟨⟨h1, h2⟩, h3, h4⟩ := h
  dsimp only at *
  have w1 : IntKind.i64.wrap (n + d) = n + d := W_eq (by omega) (by omega)
  have w2 : IntKind.i64.wrap (IntKind.i64.wrap (n + d) - 1) = n + d - 1 := by rw [w1]; exact W_eq (by omega) (by omega)
  refine bs.pv (sx := nos) pt0_ok Try.func35 (by kernel_rfl) (by kernel_rfl) rfl ?_
  repeat' (first | refine wk3 ?_ | (refine wk2 ?_ ?_ <;> intro _) | refine wk4 ?_ | fail); all_goals (conv => whnf)
  refine ret_int ?_
  show IntKind.i64.wrap ((IntKind.i64.wrap (IntKind.i64.wrap (n + d) - 1)).tdiv d) = abv n d
  rw [w2]
  exact W_eq (by unfold abv at hb; omega) (by unfold abv at hb; omega)
def nst (n : Int) : Int := (n + 500).tdiv 1000
theorem e36 {n : Int} (h : 0 ≤ n ∧ n ≤ 1000000000000000) : PCall Try.prog 36 [I n] ⟨I (nst n), []⟩ := by
  have w1 : IntKind.i64.wrap (n + 500) = n + 500 := W_eq (by omega) (by omega)
  have hb := td_bd (n := n + 500) (d := 1000) (by omega) (by omega)
  refine bs.pv (sx := nos) pt0_ok Try.func36 (by kernel_rfl) (by kernel_rfl) rfl ?_
  repeat' (first | refine wk3 ?_ | (refine wk2 ?_ ?_ <;> intro _) | refine wk4 ?_ | fail); all_goals (conv => whnf)
  refine ret_int ?_
  show IntKind.i64.wrap ((IntKind.i64.wrap (n + 500)).tdiv 1000) = nst n
  rw [w1]
  exact W_eq (by omega) (by omega)
noncomputable def kA6 : PC := ins 34 (famW Wp fun q => ⟨P2 (lo q.1 q.2) (hi q.1 q.2), []⟩) (ins 35 (famA Ab (fun q : Int × Int => [I q.1, I q.2]) (fun q => ⟨I (abv q.1 q.2), []⟩)) (ins 36 (famA (fun n : Int => 0 ≤ n ∧ n ≤ 1000000000000000) (fun n => [I n]) (fun n => ⟨I (nst n), []⟩)) pt0))
theorem kA6_ok : PCOK Try.prog kA6 := famA_ok (fun q h => e34 h.a h.b) (famA_ok (fun q h => e35 h) (famA_ok (fun n h => e36 h) pt0_ok))
theorem famII_hit {p : Int × Int → Prop} (r : Int × Int → PRes) {n m : Int} (h : p (n, m)) : famA p (fun q : Int × Int => [I q.1, I q.2]) r [I n, I m] = some (r (n, m)) :=
  famA_hit (p := p) (g := fun q : Int × Int => [I q.1, I q.2]) (r := r) (k := (n, m)) (fun j hj => by
    obtain ⟨a, b⟩ := j
    simp only [List.cons.injEq, AV.int.injEq, true_and, and_true] at hj
    rw [hj.1, hj.2]) h
noncomputable def sLo (a b : Pl) : Int := Int.tdiv 1000000000 (hi a b)
noncomputable def sHi (a b : Pl) : Int := abv 1000000000 (lo a b)
structure Wf (q : Pl × Pl) : Prop where
  w : Wp q
  f : 100 ≤ sqd q.1 q.2
theorem sLo_bd {a b : Pl} (h : Wf (a, b)) : 0 ≤ sLo a b ∧ sLo a b ≤ 100000 := by
  have h1 := lo_far h.f
  have h2 := lo_bd h.w.a h.w.b
  dsimp only at *
  unfold sLo
  rw [Int.tdiv_eq_ediv_of_nonneg (by omega)]
  refine ⟨Int.ediv_nonneg (by omega) (by omega), ?_⟩
  have : 1000000000 / hi a b ≤ 1000000000 / 10000 := by
    refine Int.le_of_lt_add_one ?_
    refine Int.ediv_lt_of_lt_mul (by omega) ?_
    omega
  exact this
theorem e23 {a b : Pl} (h : Wf (a, b)) : PCall Try.prog 23 [wav a b] ⟨P2 (sLo a b) (sHi a b), []⟩ := by
  have h1 := lo_far h.f
  have h2 := lo_bd h.w.a h.w.b
  have h3 := sLo_bd h
  dsimp only at h1 h2
  have g := famW_hit (p := Wp) (fun q => ⟨P2 (lo q.1 q.2) (hi q.1 q.2), []⟩) (a := a) (b := b) h.w
  have g1 := famII_hit (p := Ab) (fun q => ⟨I (abv q.1 q.2), []⟩) (n := 1000000000) (m := lo a b) ⟨⟨by dsimp only; omega, by dsimp only; omega⟩, by dsimp only; omega, by dsimp only; omega⟩
  have w1 : IntKind.i64.wrap (Int.tdiv 1000000000 (hi a b)) = sLo a b := W_eq (by unfold sLo at h3; omega) (by unfold sLo at h3; omega)
  have e1 : abv 1000000000 (lo a b) = sHi a b := rfl
  dsimp only at g g1
  rw [e1] at g1
  generalize sLo a b = S at *
  generalize sHi a b = T at *
  generalize lo a b = L at *
  generalize hi a b = H at *
  clear h e1 h3
  obtain ⟨ax, ay, az⟩ := a
  obtain ⟨bx, hby, bz⟩ := b
  refine bs.pv (sx := nos) kA6_ok Try.func23 (by kernel_rfl) (by kernel_rfl) rfl ?_
  repeat' (first | refine wk3 ?_ | (refine wk2 ?_ ?_ <;> intro _) | refine wk4 ?_ | fail); all_goals (conv => whnf)
  exact ret_of (by rw [← w1]) rfl
def SoOk (r v : Int) : Prop := (8000 ≤ r ∧ r ≤ 192000) ∧ 30000 ≤ v ∧ v ≤ 40000
noncomputable def nLo (r v : Int) (a b : Pl) : Int := nst ((lo a b * r).tdiv v)
noncomputable def nHi (r v : Int) (a b : Pl) : Int := nst (abv (hi a b * r) v)
theorem mul_bd {x r X R : Int} (h0 : 0 ≤ x) (h1 : x ≤ X) (h2 : 0 ≤ r) (h3 : r ≤ R) : 0 ≤ x * r ∧ x * r ≤ X * R :=
  ⟨Int.mul_nonneg h0 h2, Int.mul_le_mul h1 h3 h2 (by omega)⟩
theorem nLo_bd {r v : Int} {a b : Pl} (hs : SoOk r v) (h : Wp (a, b)) : 0 ≤ nLo r v a b ∧ nLo r v a b ≤ 4000000000000 := by
  have h2 := lo_bd h.a h.b
  obtain ⟨s1, s2, s3⟩ := hs
  dsimp only at h2
  have m1 := mul_bd (x := lo a b) (r := r) (X := 17320509) (R := 192000) (by omega) (by omega) (by omega) (by omega)
  have t1 := td_bd (n := lo a b * r) (d := v) m1.1 (by omega)
  have t2 := td_bd (n := (lo a b * r).tdiv v + 500) (d := 1000) (by omega) (by omega)
  unfold nLo nst
  omega
theorem e24 {r v : Int} {a b : Pl} (hs : SoOk r v) (h : Wp (a, b)) : PCall Try.prog 24 [wav a b, P2 r v] ⟨P2 (nLo r v a b) (nHi r v a b), []⟩ := by
  have h2 := lo_bd h.a h.b
  obtain ⟨s1, s2, s3⟩ := hs
  dsimp only at h2
  have m1 := mul_bd (x := lo a b) (r := r) (X := 17320509) (R := 192000) (by omega) (by omega) (by omega) (by omega)
  have m2 := mul_bd (x := hi a b) (r := r) (X := 17320510) (R := 192000) (by omega) (by omega) (by omega) (by omega)
  have w1 : IntKind.i64.wrap (lo a b * r) = lo a b * r := W_eq (by omega) (by omega)
  have w2 : IntKind.i64.wrap (hi a b * r) = hi a b * r := W_eq (by omega) (by omega)
  have t1 := td_bd (n := lo a b * r) (d := v) m1.1 (by omega)
  have w3 : IntKind.i64.wrap ((IntKind.i64.wrap (lo a b * r)).tdiv v) = (lo a b * r).tdiv v := by rw [w1]; exact W_eq (by omega) (by omega)
  have ab : Ab (IntKind.i64.wrap (hi a b * r), v) := ⟨⟨by dsimp only; omega, by dsimp only; omega⟩, by dsimp only; omega, by dsimp only; omega⟩
  have t2 := abv_bd ab
  have g := famW_hit (p := Wp) (fun q => ⟨P2 (lo q.1 q.2) (hi q.1 q.2), []⟩) (a := a) (b := b) h
  have g1 := famII_hit (p := Ab) (fun q => ⟨I (abv q.1 q.2), []⟩) (n := IntKind.i64.wrap (hi a b * r)) (m := v) ab
  have g2 := famI_hit (p := fun n : Int => 0 ≤ n ∧ n ≤ 1000000000000000) (fun n => ⟨I (nst n), []⟩) (n := IntKind.i64.wrap ((IntKind.i64.wrap (lo a b * r)).tdiv v)) ⟨by omega, by omega⟩
  have g3 := famI_hit (p := fun n : Int => 0 ≤ n ∧ n ≤ 1000000000000000) (fun n => ⟨I (nst n), []⟩) (n := abv (IntKind.i64.wrap (hi a b * r)) v) ⟨by omega, by omega⟩
  have e1 : nst (IntKind.i64.wrap ((IntKind.i64.wrap (lo a b * r)).tdiv v)) = nLo r v a b := by rw [w3]; rfl
  have e2 : nst (abv (IntKind.i64.wrap (hi a b * r)) v) = nHi r v a b := by rw [w2]; rfl
  dsimp only at g g1 g2 g3
  rw [e1] at g2
  rw [e2] at g3
  generalize abv (IntKind.i64.wrap (hi a b * r)) v = A at *
  generalize nLo r v a b = S at *
  generalize nHi r v a b = T at *
  generalize lo a b = L at *
  generalize hi a b = H at *
  clear h e1 e2 w1 w2 w3 m1 m2 t1 t2
  obtain ⟨ax, ay, az⟩ := a
  obtain ⟨bx, hby, bz⟩ := b
  refine bs.pv (sx := nos) kA6_ok Try.func24 (by kernel_rfl) (by kernel_rfl) rfl ?_
  repeat' (first | refine wk3 ?_ | (refine wk2 ?_ ?_ <;> intro _) | refine wk4 ?_ | fail); all_goals (conv => whnf)
  exact ret_of rfl rfl
end Go.Proofs.Ytmbgehpcjihfpaa
