/- A part of the proof: lemmas. -/
import Derived.Test.YtddhjopopelkjaaGreatYF8
import Derived.Test.YtddhjopopelkjaaGreatYE9
set_option linter.unusedVariables false
set_option linter.unusedSimpArgs false
namespace Go.Proofs.YtddhjopopelkjaaGreat
open Go Go.Sx Go.En
set_option maxHeartbeats 8000000 in
theorem d9 (l : List Ech) (x y : Int) : PCall Tryz.prog 9 [.isl 5 (l.map ev), I x, I y] ⟨Bo true, []⟩ := by
  have l1 := ev_length l
  have g1 := cE50_hit l
  by_cases hF : fewE l = true
  rotate_left
  · have hf : fewE l = false := by simpa using hF
    rw [hf] at g1
    refine bs.pv (sx := nos) kY6_ok Tryz.func9 (by kernel_rfl) (by kernel_rfl) rfl ?_
    repeat' (first | refine wk3 ?_ | (refine wk2 ?_ ?_ <;> intro _) | refine wk4 ?_ | fail); all_goals (conv => whnf)
    all_goals exact ret_bool rfl
  have hs := few_sh hF
  rw [hF] at g1
  have hl := hs.1
  have g2 := cE52_hit hs
  have g3 := cecV_hit hl
  by_cases hz : (ecV l).2 = 0
  rotate_left
  · refine bs.pv (sx := nos) kY6_ok Tryz.func9 (by kernel_rfl) (by kernel_rfl) rfl ?_
    repeat' (first | refine wk3 ?_ | (refine wk2 ?_ ?_ <;> intro _) | refine wk4 ?_ | fail); all_goals (conv => whnf)
    all_goals exact ret_bool rfl
  by_cases z : l.length = 0
  · refine bs.pv (sx := nos) kY6_ok Tryz.func9 (by kernel_rfl) (by kernel_rfl) rfl ?_
    repeat' (first | refine wk3 ?_ | (refine wk2 ?_ ?_ <;> intro _) | refine wk4 ?_ | fail); all_goals (conv => whnf)
    all_goals exact ret_bool rfl
  by_cases hx : within x 0 y = true
  rotate_left
  · have hx : within x 0 y = false := by simpa using hx
    generalize hw : within x 0 y = bw at *
    subst hx
    refine bs.pv (sx := nos) kY6_ok Tryz.func9 (by kernel_rfl) (by kernel_rfl) rfl ?_
    repeat' (first | refine wk3 ?_ | (refine wk2 ?_ ?_ <;> intro _) | refine wk4 ?_ | fail); all_goals (conv => whnf)
    all_goals first
      | exact ret_bool rfl
      | (exfalso; simp_all; done)
  by_cases hy : within y 0 10000000 = true
  rotate_left
  · have hy : within y 0 10000000 = false := by simpa using hy
    refine bs.pv (sx := nos) kY6_ok Tryz.func9 (by kernel_rfl) (by kernel_rfl) rfl ?_
    repeat' (first | refine wk3 ?_ | (refine wk2 ?_ ?_ <;> intro _) | refine wk4 ?_ | fail); all_goals (conv => whnf)
    all_goals first
      | exact ret_bool rfl
      | (exfalso; simp_all; done)
  have hxy := within_iff.1 hx
  have hy0 := within_iff.1 hy
  have G := grows hz hxy.2
  have q : ∀ t, 0 ≤ t → t ≤ 10000000 → eeV l t = 0 := fun t h0 h1 => by unfold eeV; rw [if_neg (fun h => h hz), within_iff.2 ⟨h0, h1⟩]; rfl
  have q2 : ∀ t, 0 ≤ t → t ≤ 10000000 → utV l t = upF t 0 0 l := fun t h0 h1 => by unfold utV; rw [q t h0 h1, if_neg (fun h => h rfl)]
  have q3 : ∀ t, 0 ≤ t → t ≤ 10000000 → boE l t = 0 := fun t h0 h1 => by unfold boE; rw [q t h0 h1, if_neg (fun h => h rfl), if_neg z]
  have q4 : ∀ t, 0 ≤ t → t ≤ 10000000 → boV l t = bstF t 0 (0, 0, -1) l := fun t h0 h1 => by unfold boV; rw [q3 t h0 h1, if_neg (fun h => h rfl)]
  have a1 := famEI_hit r53 hl x
  have a2 := famEI_hit r53 hl y
  have a3 := famEI_hit r53 hl 10000000
  have b1 := famEI_hit r54 hl x
  have b2 := famEI_hit r54 hl y
  unfold r53 at a1 a2 a3; unfold r54 at b1 b2
  rw [q x (by omega) (by omega), q2 x (by omega) (by omega)] at a1
  rw [q y (by omega) (by omega), q2 y (by omega) (by omega)] at a2
  rw [q 10000000 (by omega) (by omega), q2 10000000 (by omega) (by omega)] at a3
  rw [q3 x (by omega) (by omega), q4 x (by omega) (by omega)] at b1
  rw [q3 y (by omega) (by omega), q4 y (by omega) (by omega)] at b2
  clear q q2 q3 q4 hs hF
  generalize upF x 0 0 l = A at *
  generalize upF y 0 0 l = B at *
  generalize upF 10000000 0 0 l = C at *
  generalize bstF x 0 (0, 0, -1) l = P at *
  generalize bstF y 0 (0, 0, -1) l = Q at *
  obtain ⟨A1, A2⟩ := A
  obtain ⟨B1, B2⟩ := B
  obtain ⟨C1, C2⟩ := C
  obtain ⟨P1, P2', P3'⟩ := P
  obtain ⟨Q1, Q2, Q3⟩ := Q
  obtain ⟨G1, G2, G3, G4, G5, G6⟩ := G
  dsimp only at *
  refine bs.pv (sx := nos) kY6_ok Tryz.func9 (by kernel_rfl) (by kernel_rfl) rfl ?_
  repeat' (first | refine wk3 ?_ | (refine wk2 ?_ ?_ <;> intro _) | refine wk4 ?_ | fail); all_goals (conv => whnf)
  · exact ret_bool rfl
  · exact ret_bool rfl
  clear a1 a2 a3 b1 b2 g1 g2 g3
  refine loopV (S := Nat × Int × Int × Int) (fun s => l.length - s.1) (fun s => [(0, .isl 5 (l.map ev)), (9, .ptr 0 0 0), (11, .ptr 1 0 0), (13, .ptr 2 0 0), (15, .ptr 3 0 0), (17, .ptr 4 0 0), (19, I s.2.2.1), (20, I s.2.2.2), (21, I s.2.1)]) (fun _ => [(4, .row 3 [[I Q1, I Q2, I Q3]] true false), (3, .row 3 [[I P1, I P2', I P3']] true false), (2, .row 2 [[I C1, I C2]] true false), (1, .row 2 [[I B1, I B2]] true false), (0, .row 2 [[I A1, I A2]] true false)]) 5 5 (fun s => s.2.1 = s.1 ∧ s.1 ≤ l.length ∧ smF s.2.2.1 s.2.2.2 (l.drop s.1) = smF 0 0 l) (0, 0, 0, 0) ⟨rfl, Nat.zero_le _, rfl⟩ (Nat.le_refl _) [] rfl (kps) (kps) ?_
  rintro ⟨k, i, lo, hi'⟩ ⟨hi, hk, hh⟩
  dsimp only at hi hk hh ⊢
  subst hi
  generalize smF 0 0 l = R at *
  refine bs.av (sx := nos) kY6_ok ?_
  by_cases hlt : k < l.length
  · have e1 := ev_get hlt
    rw [List.drop_eq_getElem_cons hlt, smF] at hh
    generalize hx : l[k] = u at *
    repeat' (first | refine wk3 ?_ | (refine wk2 ?_ ?_ <;> intro _) | refine wk4 ?_ | fail); all_goals (conv => whnf)
    all_goals exact Done.mk ⟨(k + 1, _, _, _), [], rfl, kps, kps, ⟨W_succ (k := k) (by omega), hlt, hh⟩, by dsimp only; omega⟩
  · rw [List.drop_of_length_le (by omega), smF] at hh
    rw [← hh] at G4 G6
    dsimp only at G6
    cases G4
    repeat' (first | refine wk3 ?_ | (refine wk2 ?_ ?_ <;> intro _) | refine wk4 ?_ | fail); all_goals (conv => whnf)
    all_goals first
      | exact ret_bool rfl
      | (refine ret_bool ?_; simp_all; done)
      | (exfalso; simp_all; done)
end Go.Proofs.YtddhjopopelkjaaGreat
