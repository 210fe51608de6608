/- A part of the proof: lemmas. -/
import Derived.Test.YtmbgehpcjihfpaaAL2
set_option linter.unusedVariables false
set_option linter.unusedSimpArgs false
namespace Go.Proofs.Ytmbgehpcjihfpaa
open Go Go.Sx
/-! ### Small functions of the chapter -/
def unl (b : Bool) (e : Int) : Int := cond b 0 e
theorem e33 (b : Bool) (e : Int) : PCall Try.prog 33 [Bo b, I e] ⟨I (unl b e), []⟩ := by
  refine bs.pv (sx := nos) pt0_ok Try.func33 (by kernel_rfl) (by kernel_rfl) rfl ?_
  repeat' (first | refine wk0 ?_ | (refine wk2 ?_ ?_ <;> intro _) | refine wk4 ?_ | fail); all_goals (conv => whnf)
  all_goals exact ret_int (by simp_all [unl])
theorem e43 (n lo hi : Int) : PCall Try.prog 43 [I n, I lo, I hi] ⟨Bo (within n lo hi), []⟩ := by
  refine bs.pv (sx := nos) pt0_ok Try.func43 (by kernel_rfl) (by kernel_rfl) rfl ?_
  repeat' (first | refine wk0 ?_ | (refine wk2 ?_ ?_ <;> intro _) | refine wk4 ?_ | fail); all_goals (conv => whnf)
  all_goals exact ret_bool (by simp_all [within] <;> omega)
def rW : List AV → Option PRes
  | [.int .i64 n, .int .i64 lo, .int .i64 hi] => some ⟨Bo (within n lo hi), []⟩
  | _ => none
def rU : List AV → Option PRes
  | [.bool b, .int .i64 e] => some ⟨I (unl b e), []⟩
  | _ => none
def kA1 : PC := ins 43 rW (ins 33 rU pt0)
theorem kA1_ok : PCOK Try.prog kA1 := by
  refine ins_ok (fun a res h => ?_) (ins_ok (fun a res h => ?_) pt0_ok)
  · unfold rW at h; split at h <;> cases h; exact e43 _ _ _
  · unfold rU at h; split at h <;> cases h; exact e33 _ _
theorem e40 (n : Int) : PCall Try.prog 40 [I n, I 5000] ⟨Bo (within n (-5000) 5000), []⟩ := by
  refine bs.pv (sx := nos) kA1_ok Try.func40 (by kernel_rfl) (by kernel_rfl) rfl ?_
  repeat' (first | refine wk3 ?_ | (refine wk2 ?_ ?_ <;> intro _) | refine wk4 ?_ | fail); all_goals (conv => whnf)
  all_goals exact ret_bool rfl
def r40 : List AV → Option PRes
  | [.int .i64 n, .int .i64 5000] => some ⟨Bo (within n (-5000) 5000), []⟩
  | _ => none
def kA2 : PC := ins 40 r40 kA1
theorem kA2_ok : PCOK Try.prog kA2 := by
  refine ins_ok (fun a res h => ?_) kA1_ok
  unfold r40 at h; split at h <;> cases h; exact e40 _
structure Pl where
  x : Int
  y : Int
  z : Int
abbrev Pl.av (p : Pl) : AV := .agg [I p.x, I p.y, I p.z]
def Pl.bo (p : Pl) : Bool := within p.x (-5000) 5000 && within p.y (-5000) 5000 && within p.z (-5000) 5000
theorem e32 (p : Pl) : PCall Try.prog 32 [p.av] ⟨I (unl p.bo 2), []⟩ := by
  obtain ⟨x, y, z⟩ := p
  unfold Pl.bo
  refine bs.pv (sx := nos) kA2_ok Try.func32 (by kernel_rfl) (by kernel_rfl) rfl ?_
  repeat' (first | refine wk3 ?_ | (refine wk2 ?_ ?_ <;> intro _) | refine wk4 ?_ | fail); all_goals (conv => whnf)
  all_goals exact ret_int (by simp_all)
theorem e37 (rate speed : Int) : PCall Try.prog 37 [P2 rate speed] ⟨I (unl (within rate 8000 192000 && within speed 30000 40000) 2), []⟩ := by
  refine bs.pv (sx := nos) kA2_ok Try.func37 (by kernel_rfl) (by kernel_rfl) rfl ?_
  repeat' (first | refine wk3 ?_ | (refine wk2 ?_ ?_ <;> intro _) | refine wk4 ?_ | fail); all_goals (conv => whnf)
  all_goals exact ret_int (by simp_all)
theorem e38 (g d : Int) : PCall Try.prog 38 [I g, I d] ⟨I (unl (within g 0 1000 && within d 0 10000) 2), []⟩ := by
  refine bs.pv (sx := nos) kA2_ok Try.func38 (by kernel_rfl) (by kernel_rfl) rfl ?_
  repeat' (first | refine wk3 ?_ | (refine wk2 ?_ ?_ <;> intro _) | refine wk4 ?_ | fail); all_goals (conv => whnf)
  all_goals exact ret_int (by simp_all)
def r32 : List AV → Option PRes
  | [.agg [.int .i64 x, .int .i64 y, .int .i64 z]] => some ⟨I (unl (Pl.mk x y z).bo 2), []⟩
  | _ => none
def r37 : List AV → Option PRes
  | [.agg [.int .i64 x, .int .i64 y]] => some ⟨I (unl (within x 8000 192000 && within y 30000 40000) 2), []⟩
  | _ => none
def r38 : List AV → Option PRes
  | [.int .i64 x, .int .i64 y] => some ⟨I (unl (within x 0 1000 && within y 0 10000) 2), []⟩
  | _ => none
/-- The first error. -/
def fst : List Int → Int
  | [] => 0
  | e :: l => if e ≠ 0 then e else fst l
set_option maxRecDepth 100000 in
theorem e31 {ns : List Int} (hl : ns.length < 100000) : PCall Try.prog 31 [.isl 1 (nl ns)] ⟨I (fst ns), []⟩ := by
  have e3 := nl_length ns
  refine bs.pv (sx := nos) kA2_ok Try.func31 (by kernel_rfl) (by kernel_rfl) rfl ?_
  repeat' (first | refine wk3 ?_ | (refine wk2 ?_ ?_ <;> intro _) | refine wk4 ?_ | fail); all_goals (conv => whnf)
  refine loopV (S := Nat × Int) (fun t => ns.length - t.1) (fun t => [(5, .isl 1 (nl ns)), (6, I (nl ns).length), (7, I t.2)]) (fun _ => []) 0 0 (fun t => t.2 = t.1 ∧ t.1 ≤ ns.length ∧ fst (ns.drop t.1) = fst ns) (0, 0) ⟨rfl, Nat.zero_le _, rfl⟩ (Nat.le_refl _) [] rfl (kps) (kps) ?_
  rintro ⟨k, i⟩ ⟨hi, hk, hh⟩
  dsimp only at hi hk hh ⊢
  subst hi
  generalize fst ns = R at *
  refine bs.av (sx := nos) kA2_ok ?_
  by_cases hlt : k < ns.length
  · have e1 := nl_get hlt
    rw [List.drop_eq_getElem_cons hlt, fst] at hh
    generalize ns[k] = x at *
    by_cases hb : x = 0
    · subst hb
      rw [if_neg (by omega)] at hh
      repeat' (first | refine wk3 ?_ | (refine wk2 ?_ ?_ <;> intro _) | refine wk4 ?_ | fail); all_goals (conv => whnf)
      exact Done.mk ⟨(k + 1, _), [], rfl, kps, kps, ⟨W_succ (by omega), hlt, hh⟩, by dsimp only; omega⟩
    · rw [if_pos hb] at hh
      repeat' (first | refine wk3 ?_ | (refine wk2 ?_ ?_ <;> intro _) | refine wk4 ?_ | fail); all_goals (conv => whnf)
      exact ret_int hh
  · rw [List.drop_of_length_le (by omega)] at hh
    repeat' (first | refine wk3 ?_ | (refine wk2 ?_ ?_ <;> intro _) | refine wk4 ?_ | fail); all_goals (conv => whnf)
    exact ret_int hh
theorem nl_inj {a b : List Int} (h : nl a = nl b) : a = b := by
  unfold nl at h
  exact List.map_inj_right (fun x y hxy => by simpa using hxy) |>.1 h
noncomputable abbrev c31 : List AV → Option PRes := famA (fun ns : List Int => ns.length < 100000) (fun ns => [.isl 1 (nl ns)]) (fun ns => ⟨I (fst ns), []⟩)
theorem c31_hit {ns : List Int} (h : ns.length < 100000) : c31 [.isl 1 (nl ns)] = some ⟨I (fst ns), []⟩ :=
  famA_hit (p := fun ns : List Int => ns.length < 100000) (g := fun ns => [.isl 1 (nl ns)]) (r := fun ns => ⟨I (fst ns), []⟩) (fun j hj => by
    simp only [List.cons.injEq, AV.isl.injEq, true_and, and_true] at hj
    rw [nl_inj hj]) h
noncomputable def kA3 : PC := ins 31 c31 (ins 32 r32 (ins 37 r37 (ins 38 r38 kA2)))
theorem kA3_ok : PCOK Try.prog kA3 := by
  refine famA_ok (fun ns h => e31 h) (ins_ok (fun a res h => ?_) (ins_ok (fun a res h => ?_) (ins_ok (fun a res h => ?_) kA2_ok)))
  · unfold r32 at h; split at h <;> cases h; exact e32 ⟨_, _, _⟩
  · unfold r37 at h; split at h <;> cases h; exact e37 _ _
  · unfold r38 at h; split at h <;> cases h; exact e38 _ _
end Go.Proofs.Ytmbgehpcjihfpaa
