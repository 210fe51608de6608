/- A part of the proof: lemmas. -/
import Derived.Test.YtddhjopopelkjaaGreatZU2
set_option linter.unusedVariables false
set_option linter.unusedSimpArgs false
namespace Go.Proofs.YtddhjopopelkjaaGreat
open Go Go.Sx
/-! ### The surface of a hall -/
def srG (h : Hal) (f : Int → Int × Int) : Nat → Nat → Int × Int → Int × Int
  | _, 0, r => r
  | k, c + 1, r => srG h f (k + 1) c (IntKind.i64.wrap (r.1 + IntKind.i64.wrap ((f k).1 * sd h k)), IntKind.i64.wrap (r.2 + IntKind.i64.wrap ((f k).2 * sd h k)))
noncomputable def srV (h : Hal) : Int × Int := srG h (areaV h) 0 (nsN h) (0, 0)
set_option maxRecDepth 100000 in
theorem d168 (a b : Int) : PCall Tryz.prog 168 [I a, I b] ⟨P2 a b, []⟩ := by
  refine bs.pv (sx := nos) pt0_ok Tryz.func168 (by kernel_rfl) (by kernel_rfl) rfl ?_
  repeat' (first | refine wk3 ?_ | (refine wk2 ?_ ?_ <;> intro _) | refine wk4 ?_ | fail); all_goals (conv => whnf)
  exact ret_of rfl rfl
def r168 : List AV → Option PRes
  | [.int .i64 a, .int .i64 b] => some ⟨P2 a b, []⟩
  | _ => none
def kU1 : PC := ins 168 r168 pt0
theorem kU1_ok : PCOK Tryz.prog kU1 := by
  refine ins_ok (fun a res h => ?_) pt0_ok
  unfold r168 at h; split at h <;> cases h; exact d168 _ _
set_option maxRecDepth 100000 in
theorem d187 (a b c d : Int) : PCall Tryz.prog 187 [P2 a b, P2 c d] ⟨P2 (IntKind.i64.wrap (a + c)) (IntKind.i64.wrap (b + d)), []⟩ := by
  refine bs.pv (sx := nos) kU1_ok Tryz.func187 (by kernel_rfl) (by kernel_rfl) rfl ?_
  repeat' (first | refine wk3 ?_ | (refine wk2 ?_ ?_ <;> intro _) | refine wk4 ?_ | fail); all_goals (conv => whnf)
  exact ret_of rfl rfl
def r187 : List AV → Option PRes
  | [.agg [.int .i64 a, .int .i64 b], .agg [.int .i64 c, .int .i64 d]] => some ⟨P2 (IntKind.i64.wrap (a + c)) (IntKind.i64.wrap (b + d)), []⟩
  | _ => none
def kU2 : PC := ins 187 r187 kU1
theorem kU2_ok : PCOK Tryz.prog kU2 := by
  refine ins_ok (fun a res h => ?_) kU1_ok
  unfold r187 at h; split at h <;> cases h; exact d187 _ _ _ _
set_option maxRecDepth 100000 in
set_option maxHeartbeats 8000000 in
theorem d137 {h : Hal} {s : Stg} (g : Sit h s) (e : serr h s = 0) : PCall Tryz.prog 137 [.agg (stgL h s)] ⟨P2 (srV h).1 (srV h).2, []⟩ := by
  refine bs.pv (sx := nos) kU2_ok Tryz.func137 (by kernel_rfl) (by kernel_rfl) rfl ?_
  repeat' (first | refine wk3 ?_ | (refine wk2 ?_ ?_ <;> intro _) | refine wk4 ?_ | fail); all_goals (conv => whnf)
  refine Rg.ren (env2 := [(2, .ptr 1 0 0), (3, .ptr 2 0 0), (8, .func 186 [.agg (stgL h s)] [])]) (σ2 := ⟨[(2, .row 2 [[I 0, I 0]] true false), (1, .row 2 [[I 0, I 0]] true false)], 3⟩) (Ren.of [] rfl (kps) (kps)) ?_
  refine rngV (it186 g e) rfl rfl rfl rfl (roundsV (S := Int × Int) (fun s => [(2, .row 2 [[I s.1, I s.2]] true false), (1, .row 2 [[I 0, I 0]] true false)]) 3 3 (fun xs s => ∃ k, k ≤ nsN h ∧ xs = (arX h).drop k ∧ srG h (areaV h) k (nsN h - k) s = srV h) ?_ ?_ _ (0, 0) ⟨0, Nat.zero_le _, rfl, rfl⟩)
  · rintro x xs ⟨lo, hi'⟩ ⟨k, hk, h1, h2⟩
    dsimp only at h1 h2 ⊢
    by_cases hlt : k < nsN h
    · rw [arX_drop hlt] at h1
      obtain ⟨rfl, rfl⟩ := List.cons.inj h1
      rw [show nsN h - k = (nsN h - (k + 1)) + 1 by omega, srG] at h2
      generalize areaV h k = a at *
      generalize sd h k = d at *
      refine ⟨rfl, bs.av (sx := nos) kU2_ok ?_⟩
      repeat' (first | refine wk3 ?_ | (refine wk2 ?_ ?_ <;> intro _) | refine wk4 ?_ | fail); all_goals (conv => whnf)
      refine Bd.mk (bs.av (sx := nos) kU2_ok ?_)
      repeat' (first | refine wk3 ?_ | (refine wk2 ?_ ?_ <;> intro _) | refine wk4 ?_ | fail); all_goals (conv => whnf)
      exact Done.mk ⟨_, [], rfl, kps, k + 1, hlt, rfl, h2⟩
    · rw [List.drop_of_length_le (by rw [arX_len]; omega)] at h1
      cases h1
  · rintro ⟨lo, hi'⟩ ⟨k, hk, h1, h2⟩
    dsimp only at h1 h2 ⊢
    by_cases hlt : k < nsN h
    · rw [arX_drop hlt] at h1
      cases h1
    · rw [show nsN h - k = 0 by omega, srG] at h2
      rw [← h2]
      repeat' (first | refine wk3 ?_ | (refine wk2 ?_ ?_ <;> intro _) | refine wk4 ?_ | fail); all_goals (conv => whnf)
      exact ret_of rfl rfl
end Go.Proofs.YtddhjopopelkjaaGreat
