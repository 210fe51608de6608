/- A part of the proof: lemmas. -/
import Derived.Test.YtddhjopopelkjaaGreatLw8
import Derived.Test.YtddhjopopelkjaaGreatN4
set_option linter.unusedVariables false
set_option linter.unusedSimpArgs false
namespace Go.Proofs.YtddhjopopelkjaaGreat
open Go Go.Sx Go.En
/-- The first number that is not from lo to hi. -/
def badI (lo hi : Int) : Nat → List Int → Int
  | _, [] => -1
  | i, m :: l => if within m lo hi then badI lo hi (i + 1) l else i
theorem badI_any (lo hi : Int) : ∀ (l : List Int) (i : Nat), decide (0 ≤ badI lo hi i l) = !(l.all fun n => within n lo hi)
  | [], _ => rfl
  | m :: l, i => by
    rw [badI, List.all_cons]
    cases h : within m lo hi with
    | true => rw [if_pos rfl, Bool.true_and]; exact badI_any lo hi l _
    | false => rw [if_neg (by simp), Bool.false_and, decide_eq_true (by omega)]; rfl
theorem d100 (n : Int) : PCall Tryz.prog 100 [I n] ⟨Bo (within n 0 1000), []⟩ := by
  refine bs.pv (sx := nos) kY1_ok Tryz.func100 (by kernel_rfl) (by kernel_rfl) rfl ?_
  repeat' (first | refine wk3 ?_ | (refine wk2 ?_ ?_ <;> intro _) | refine wk4 ?_ | fail); all_goals (conv => whnf)
  all_goals exact ret_bool rfl
def r100 : List AV → Option PRes
  | [.int .i64 n] => some ⟨Bo (within n 0 1000), []⟩
  | _ => none
def kX0 : PC := ins 100 r100 kY1
theorem kX0_ok : PCOK Tryz.prog kX0 := by
  refine ins_ok (fun a res h => ?_) kY1_ok
  unfold r100 at h; split at h <;> cases h; exact d100 _

theorem d106 (n : Int) : PCall Tryz.prog 106 [I n, .ipt [.func 100 [] []]] ⟨Bo (!within n 0 1000), []⟩ := by
  refine bs.pv (sx := nos) kX0_ok Tryz.func106 (by kernel_rfl) (by kernel_rfl) rfl ?_
  repeat' (first | refine wk3 ?_ | (refine wk2 ?_ ?_ <;> intro _) | refine wk4 ?_ | fail); all_goals (conv => whnf)
  all_goals exact ret_bool rfl
def r106 : List AV → Option PRes
  | [.int .i64 n, .ipt [.func 100 [] []]] => some ⟨Bo (!within n 0 1000), []⟩
  | _ => none
def kX106 : PC := ins 106 r106 kX0
theorem kX106_ok : PCOK Tryz.prog kX106 := by
  refine ins_ok (fun a res h => ?_) kX0_ok
  unfold r106 at h; split at h <;> cases h; exact d106 _
set_option maxRecDepth 100000 in
set_option maxHeartbeats 4000000 in
theorem d174_106 {ns : List Int} (hl : ns.length < 1000000) : PCall Tryz.prog 174 [.isl 1 (nl ns), .func 106 [] [.ipt [.func 100 [] []]]] ⟨I (badI 0 1000 0 ns), []⟩ := by
  have e3 := nl_length ns
  refine bs.pv (sx := nos) kX106_ok Tryz.func174 (by kernel_rfl) (by kernel_rfl) rfl ?_
  repeat' (first | refine wk3 ?_ | (refine wk2 ?_ ?_ <;> intro _) | refine wk4 ?_ | fail); all_goals (conv => whnf)
  refine loopV (S := Nat × Int) (fun t => ns.length - t.1) (fun t => [(0, .isl 1 (nl ns)), (1, .func 106 [] [.ipt [.func 100 [] []]]), (7, I (nl ns).length), (8, I t.2)]) (fun _ => []) 0 0 (fun t => t.2 = t.1 ∧ t.1 ≤ ns.length ∧ badI 0 1000 t.1 (ns.drop t.1) = badI 0 1000 0 ns) (0, 0) ⟨rfl, Nat.zero_le _, rfl⟩ (Nat.le_refl _) [] rfl (kps) (kps) ?_
  rintro ⟨k, i⟩ ⟨hi, hk, hh⟩
  dsimp only at hi hk hh ⊢
  subst hi
  generalize badI 0 1000 0 ns = R at *
  refine bs.av (sx := nos) kX106_ok ?_
  by_cases hlt : k < ns.length
  · have e1 := nl_get hlt
    rw [List.drop_eq_getElem_cons hlt, badI] at hh
    generalize ns[k] = x at *
    generalize hb : within x 0 1000 = b at *
    cases b
    · rw [if_neg (by simp)] at hh
      repeat' (first | refine wk3 ?_ | (refine wk2 ?_ ?_ <;> intro _) | refine wk4 ?_ | fail); all_goals (conv => whnf)
      all_goals first
        | exact ret_int hh
        | (exfalso; simp_all; done)
    · rw [if_pos rfl] at hh
      repeat' (first | refine wk3 ?_ | (refine wk2 ?_ ?_ <;> intro _) | refine wk4 ?_ | fail); all_goals (conv => whnf)
      all_goals first
        | exact Done.mk ⟨(k + 1, _), [], rfl, kps, kps, ⟨W_succ (by omega), hlt, hh⟩, by dsimp only; omega⟩
        | (exfalso; simp_all; done)
  · rw [List.drop_of_length_le (by omega)] at hh
    repeat' (first | refine wk3 ?_ | (refine wk2 ?_ ?_ <;> intro _) | refine wk4 ?_ | fail); all_goals (conv => whnf)
    exact ret_int hh
theorem d105_106 {ns : List Int} (hl : ns.length < 1000000) : PCall Tryz.prog 105 [.isl 1 (nl ns), .func 106 [] [.ipt [.func 100 [] []]]] ⟨Bo (!(ns.all fun n => within n 0 1000)), []⟩ := by
  refine bs.pv (sx := nos) (one_ok (d174_106 hl) pt0_ok) Tryz.func105 (by kernel_rfl) (by kernel_rfl) rfl ?_
  repeat' (first | refine wk0 ?_ | (refine wk2 ?_ ?_ <;> intro _) | refine wk4 ?_ | fail); all_goals (conv => whnf)
  exact ret_bool (badI_any _ _ ns 0)

theorem d116 (n : Int) : PCall Tryz.prog 116 [I n] ⟨Bo (!within n 1 1000000000), []⟩ := by
  refine bs.pv (sx := nos) kX0_ok Tryz.func116 (by kernel_rfl) (by kernel_rfl) rfl ?_
  repeat' (first | refine wk3 ?_ | (refine wk2 ?_ ?_ <;> intro _) | refine wk4 ?_ | fail); all_goals (conv => whnf)
  all_goals exact ret_bool rfl
def r116 : List AV → Option PRes
  | [.int .i64 n] => some ⟨Bo (!within n 1 1000000000), []⟩
  | _ => none
def kX116 : PC := ins 116 r116 kX0
theorem kX116_ok : PCOK Tryz.prog kX116 := by
  refine ins_ok (fun a res h => ?_) kX0_ok
  unfold r116 at h; split at h <;> cases h; exact d116 _
set_option maxRecDepth 100000 in
set_option maxHeartbeats 4000000 in
theorem d174_116 {ns : List Int} (hl : ns.length < 1000000) : PCall Tryz.prog 174 [.isl 1 (nl ns), .func 116 [] []] ⟨I (badI 1 1000000000 0 ns), []⟩ := by
  have e3 := nl_length ns
  refine bs.pv (sx := nos) kX116_ok Tryz.func174 (by kernel_rfl) (by kernel_rfl) rfl ?_
  repeat' (first | refine wk3 ?_ | (refine wk2 ?_ ?_ <;> intro _) | refine wk4 ?_ | fail); all_goals (conv => whnf)
  refine loopV (S := Nat × Int) (fun t => ns.length - t.1) (fun t => [(0, .isl 1 (nl ns)), (1, .func 116 [] []), (7, I (nl ns).length), (8, I t.2)]) (fun _ => []) 0 0 (fun t => t.2 = t.1 ∧ t.1 ≤ ns.length ∧ badI 1 1000000000 t.1 (ns.drop t.1) = badI 1 1000000000 0 ns) (0, 0) ⟨rfl, Nat.zero_le _, rfl⟩ (Nat.le_refl _) [] rfl (kps) (kps) ?_
  rintro ⟨k, i⟩ ⟨hi, hk, hh⟩
  dsimp only at hi hk hh ⊢
  subst hi
  generalize badI 1 1000000000 0 ns = R at *
  refine bs.av (sx := nos) kX116_ok ?_
  by_cases hlt : k < ns.length
  · have e1 := nl_get hlt
    rw [List.drop_eq_getElem_cons hlt, badI] at hh
    generalize ns[k] = x at *
    generalize hb : within x 1 1000000000 = b at *
    cases b
    · rw [if_neg (by simp)] at hh
      repeat' (first | refine wk3 ?_ | (refine wk2 ?_ ?_ <;> intro _) | refine wk4 ?_ | fail); all_goals (conv => whnf)
      all_goals first
        | exact ret_int hh
        | (exfalso; simp_all; done)
    · rw [if_pos rfl] at hh
      repeat' (first | refine wk3 ?_ | (refine wk2 ?_ ?_ <;> intro _) | refine wk4 ?_ | fail); all_goals (conv => whnf)
      all_goals first
        | exact Done.mk ⟨(k + 1, _), [], rfl, kps, kps, ⟨W_succ (by omega), hlt, hh⟩, by dsimp only; omega⟩
        | (exfalso; simp_all; done)
  · rw [List.drop_of_length_le (by omega)] at hh
    repeat' (first | refine wk3 ?_ | (refine wk2 ?_ ?_ <;> intro _) | refine wk4 ?_ | fail); all_goals (conv => whnf)
    exact ret_int hh
theorem d105_116 {ns : List Int} (hl : ns.length < 1000000) : PCall Tryz.prog 105 [.isl 1 (nl ns), .func 116 [] []] ⟨Bo (!(ns.all fun n => within n 1 1000000000)), []⟩ := by
  refine bs.pv (sx := nos) (one_ok (d174_116 hl) pt0_ok) Tryz.func105 (by kernel_rfl) (by kernel_rfl) rfl ?_
  repeat' (first | refine wk0 ?_ | (refine wk2 ?_ ?_ <;> intro _) | refine wk4 ?_ | fail); all_goals (conv => whnf)
  exact ret_bool (badI_any _ _ ns 0)

theorem d175 (n : Int) : PCall Tryz.prog 175 [I n] ⟨Bo (!within n 0 1000000000000), []⟩ := by
  refine bs.pv (sx := nos) kX0_ok Tryz.func175 (by kernel_rfl) (by kernel_rfl) rfl ?_
  repeat' (first | refine wk3 ?_ | (refine wk2 ?_ ?_ <;> intro _) | refine wk4 ?_ | fail); all_goals (conv => whnf)
  all_goals exact ret_bool rfl
def r175 : List AV → Option PRes
  | [.int .i64 n] => some ⟨Bo (!within n 0 1000000000000), []⟩
  | _ => none
def kX175 : PC := ins 175 r175 kX0
theorem kX175_ok : PCOK Tryz.prog kX175 := by
  refine ins_ok (fun a res h => ?_) kX0_ok
  unfold r175 at h; split at h <;> cases h; exact d175 _
set_option maxRecDepth 100000 in
set_option maxHeartbeats 4000000 in
theorem d174_175 {ns : List Int} (hl : ns.length < 1000000) : PCall Tryz.prog 174 [.isl 1 (nl ns), .func 175 [] []] ⟨I (badI 0 1000000000000 0 ns), []⟩ := by
  have e3 := nl_length ns
  refine bs.pv (sx := nos) kX175_ok Tryz.func174 (by kernel_rfl) (by kernel_rfl) rfl ?_
  repeat' (first | refine wk3 ?_ | (refine wk2 ?_ ?_ <;> intro _) | refine wk4 ?_ | fail); all_goals (conv => whnf)
  refine loopV (S := Nat × Int) (fun t => ns.length - t.1) (fun t => [(0, .isl 1 (nl ns)), (1, .func 175 [] []), (7, I (nl ns).length), (8, I t.2)]) (fun _ => []) 0 0 (fun t => t.2 = t.1 ∧ t.1 ≤ ns.length ∧ badI 0 1000000000000 t.1 (ns.drop t.1) = badI 0 1000000000000 0 ns) (0, 0) ⟨rfl, Nat.zero_le _, rfl⟩ (Nat.le_refl _) [] rfl (kps) (kps) ?_
  rintro ⟨k, i⟩ ⟨hi, hk, hh⟩
  dsimp only at hi hk hh ⊢
  subst hi
  generalize badI 0 1000000000000 0 ns = R at *
  refine bs.av (sx := nos) kX175_ok ?_
  by_cases hlt : k < ns.length
  · have e1 := nl_get hlt
    rw [List.drop_eq_getElem_cons hlt, badI] at hh
    generalize ns[k] = x at *
    generalize hb : within x 0 1000000000000 = b at *
    cases b
    · rw [if_neg (by simp)] at hh
      repeat' (first | refine wk3 ?_ | (refine wk2 ?_ ?_ <;> intro _) | refine wk4 ?_ | fail); all_goals (conv => whnf)
      all_goals first
        | exact ret_int hh
        | (exfalso; simp_all; done)
    · rw [if_pos rfl] at hh
      repeat' (first | refine wk3 ?_ | (refine wk2 ?_ ?_ <;> intro _) | refine wk4 ?_ | fail); all_goals (conv => whnf)
      all_goals first
        | exact Done.mk ⟨(k + 1, _), [], rfl, kps, kps, ⟨W_succ (by omega), hlt, hh⟩, by dsimp only; omega⟩
        | (exfalso; simp_all; done)
  · rw [List.drop_of_length_le (by omega)] at hh
    repeat' (first | refine wk3 ?_ | (refine wk2 ?_ ?_ <;> intro _) | refine wk4 ?_ | fail); all_goals (conv => whnf)
    exact ret_int hh
theorem d105_175 {ns : List Int} (hl : ns.length < 1000000) : PCall Tryz.prog 105 [.isl 1 (nl ns), .func 175 [] []] ⟨Bo (!(ns.all fun n => within n 0 1000000000000)), []⟩ := by
  refine bs.pv (sx := nos) (one_ok (d174_175 hl) pt0_ok) Tryz.func105 (by kernel_rfl) (by kernel_rfl) rfl ?_
  repeat' (first | refine wk0 ?_ | (refine wk2 ?_ ?_ <;> intro _) | refine wk4 ?_ | fail); all_goals (conv => whnf)
  exact ret_bool (badI_any _ _ ns 0)
end Go.Proofs.YtddhjopopelkjaaGreat
