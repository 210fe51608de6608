/- A part of the proof: lemmas. -/
import Derived.Test.YtmbgehpcjihfpaaAL9
set_option linter.unusedVariables false
set_option linter.unusedSimpArgs false
namespace Go.Proofs.Ytmbgehpcjihfpaa
open Go Go.Sx
/-! ### Shares, pressure, energy: as the machine reckons them -/
def shV (m s : Int) : Int × Int := if m = 0 then (s, 0) else if m = 1 then (0, IntKind.i64.wrap (-s)) else if m = 2 then (IntKind.i64.wrap (-s), 0) else (0, s)
abbrev rayA (s : Sp) (a b c d : Int) : List AV := [I s.p.x, I s.p.y, I s.p.z, I s.g, I s.d, I a, I b, I c, I d]
theorem e19 (s : Sp) (a b c d n z : Int) : PCall Try.prog 19 [.agg (rayA s a b c d), I n, I z] ⟨P2 (shV ((IntKind.i64.wrap (n + s.d)).tmod 4) z).1 (shV ((IntKind.i64.wrap (n + s.d)).tmod 4) z).2, []⟩ := by
  obtain ⟨⟨x, y, w⟩, g, dl⟩ := s
  refine bs.pv (sx := nos) pt0_ok Try.func19 (by kernel_rfl) (by kernel_rfl) rfl ?_
  repeat' (first | refine wk3 ?_ | (refine wk2 ?_ ?_ <;> intro _) | refine wk4 ?_ | fail); all_goals (conv => whnf)
  all_goals exact ret_of (by simp_all [shV]) rfl
def r19 : List AV → Option PRes
  | [.agg [.int .i64 x, .int .i64 y, .int .i64 w, .int .i64 g, .int .i64 d, .int .i64 a, .int .i64 b, .int .i64 c, .int .i64 e], .int .i64 n, .int .i64 z] => some ⟨P2 (shV ((IntKind.i64.wrap (n + d)).tmod 4) z).1 (shV ((IntKind.i64.wrap (n + d)).tmod 4) z).2, []⟩
  | _ => none
noncomputable def kC1 : PC := ins 14 (famRP FewS fun q => ⟨.tup [.isl 9 (opV q.1.1 q.1.2.1 q.2 q.1.2.2), I (opE q.1.1 q.1.2.1 q.2 q.1.2.2)], []⟩) (ins 19 r19 pt0)
theorem kC1_ok : PCOK Try.prog kC1 := famA_ok (fun q h => e14 h) (ins_ok (fun a res h => by
  unfold r19 at h; split at h <;> cases h; exact e19 ⟨⟨_, _, _⟩, _, _⟩ _ _ _ _ _ _) pt0_ok)
noncomputable def shr (r v : Int) (p : Pl) (s : Sp) : Int × Int := shV ((IntKind.i64.wrap (nLo r v s.p p + s.d)).tmod 4) (IntKind.i64.wrap (s.g * sLo s.p p))
noncomputable def prG (r v : Int) (p : Pl) : Int × Int → List Sp → Int × Int
  | q, [] => q
  | q, s :: l => prG r v p (IntKind.i64.wrap (q.1 + (shr r v p s).1), IntKind.i64.wrap (q.2 + (shr r v p s).2)) l
noncomputable def prV (r v : Int) (p : Pl) (ls : List Sp) : AV := if opE r v p ls = 0 then .cpx .f64 (FloatKind.f64.nearest (prG r v p (0, 0) ls).1) (FloatKind.f64.nearest (prG r v p (0, 0) ls).2) else .cpx .f64 0 0
theorem rv_get {f : Sp → List AV} {l : List Sp} {k : Nat} (h : k < l.length) : (l.map f)[((k : Nat) : Int).toNat]? = some (f l[k]) := by simp [h]
set_option maxRecDepth 100000 in
set_option maxHeartbeats 8000000 in
theorem e8 {r v : Int} {p : Pl} {ls : List Sp} (hl : ls.length < 100000) : PCall Try.prog 8 [arr r v ls, p.av] ⟨.tup [prV r v p ls, I (opE r v p ls)], []⟩ := by
  have g1 := famRP_hit (pp := FewS) (fun q => ⟨.tup [.isl 9 (opV q.1.1 q.1.2.1 q.2 q.1.2.2), I (opE q.1.1 q.1.2.1 q.2 q.1.2.2)], []⟩) (a := r) (b := v) (ls := ls) (p := p) hl
  unfold prV
  by_cases hz : opE r v p ls = 0
  rotate_left
  · rw [if_neg hz]
    unfold opV at g1
    dsimp only at g1
    rw [if_neg hz] at g1
    generalize opE r v p ls = E at *
    obtain ⟨px, py, pz⟩ := p
    refine bs.pv (sx := nos) kC1_ok Try.func8 (by kernel_rfl) (by kernel_rfl) rfl ?_
    repeat' (first | refine wk3 ?_ | (refine wk2 ?_ ?_ <;> intro _) | refine wk4 ?_ | fail); all_goals (conv => whnf)
    exact ret_of rfl rfl
  rw [if_pos hz]
  unfold opV at g1
  dsimp only at g1
  rw [if_pos hz, hz] at g1
  rw [hz]
  have e3 : (ls.map (rayV r v p)).length = ls.length := by simp
  have hget : ∀ {k : Nat} (h : k < ls.length), (ls.map (rayV r v p))[((k : Nat) : Int).toNat]? = some (rayV r v p ls[k]) := fun h => rv_get h
  have hsh : ∀ s : Sp, shr r v p s = shV ((IntKind.i64.wrap (nLo r v s.p p + s.d)).tmod 4) (IntKind.i64.wrap (s.g * sLo s.p p)) := fun s => rfl
  have hpc : ∀ q (s : Sp) l, prG r v p q (s :: l) = prG r v p (IntKind.i64.wrap (q.1 + (shr r v p s).1), IntKind.i64.wrap (q.2 + (shr r v p s).2)) l := fun q s l => rfl
  have hpn : ∀ q, prG r v p q [] = q := fun q => rfl
  generalize hM : ls.map (rayV r v p) = M at *
  generalize prG r v p = G at *
  have hray : ∀ s : Sp, rayV r v p s = rayA s (sLo s.p p) (sHi s.p p) (nLo r v s.p p) (nHi r v s.p p) := fun s => rfl
  obtain ⟨px, py, pz⟩ := p
  refine bs.pv (sx := nos) kC1_ok Try.func8 (by kernel_rfl) (by kernel_rfl) rfl ?_
  repeat' (first | refine wk3 ?_ | (refine wk2 ?_ ?_ <;> intro _) | refine wk4 ?_ | fail); all_goals (conv => whnf)
  clear g1
  refine loopV (S := Nat × Int × Int × Int) (fun t => ls.length - t.1) (fun t => [(8, .ptr 2 0 0), (22, .isl 9 M), (23, I M.length), (24, I t.2.1)]) (fun t => [(2, .row 2 [[I t.2.2.1, I t.2.2.2]] true false)]) 3 3 (fun t => t.2.1 = t.1 ∧ t.1 ≤ ls.length ∧ G t.2.2 (ls.drop t.1) = G (0, 0) ls) (0, 0, 0, 0) ⟨rfl, Nat.zero_le _, rfl⟩ (Nat.le_refl _) [] rfl (kps) (kps) ?_
  rintro ⟨k, i, a, b⟩ ⟨hi, hk, hh⟩
  dsimp only at hi hk hh ⊢
  subst hi
  generalize G (0, 0) ls = R at *
  by_cases hlt : k < ls.length
  · have e1 := hget hlt
    rw [List.drop_eq_getElem_cons hlt, hpc, hsh] at hh
    rw [hray] at e1
    generalize ls[k] = s at *
    generalize sLo s.p ⟨px, py, pz⟩ = S1 at *
    generalize sHi s.p ⟨px, py, pz⟩ = S2 at *
    generalize nLo r v s.p ⟨px, py, pz⟩ = N1 at *
    generalize nHi r v s.p ⟨px, py, pz⟩ = N2 at *
    obtain ⟨⟨x, y, z⟩, g, d⟩ := s
    dsimp only at hh e1
    refine bs.av (sx := nos) kC1_ok ?_
    repeat' (first | refine wk3 ?_ | (refine wk2 ?_ ?_ <;> intro _) | refine wk4 ?_ | fail); all_goals (conv => whnf)
    refine LpM.start 5 ?_
    refine LpM.succ (bs.av (sx := nos) kC1_ok ?_)
    repeat' (first | refine wk3 ?_ | (refine wk2 ?_ ?_ <;> intro _) | refine wk4 ?_ | fail); all_goals (conv => whnf)
    refine LpM.succ (bs.av (sx := nos) kC1_ok ?_)
    repeat' (first | refine wk3 ?_ | (refine wk2 ?_ ?_ <;> intro _) | refine wk4 ?_ | fail); all_goals (conv => whnf)
    refine LpM.succ (bs.av (sx := nos) kC1_ok ?_)
    repeat' (first | refine wk3 ?_ | (refine wk2 ?_ ?_ <;> intro _) | refine wk4 ?_ | fail); all_goals (conv => whnf)
    exact Done.mk ⟨(k + 1, _, IntKind.i64.wrap (a + (shV ((IntKind.i64.wrap (N1 + d)).tmod 4) (IntKind.i64.wrap (g * S1))).1), IntKind.i64.wrap (b + (shV ((IntKind.i64.wrap (N1 + d)).tmod 4) (IntKind.i64.wrap (g * S1))).2)), [], rfl, kps, kps, ⟨W_succ (by omega), hlt, hh⟩, by dsimp only; omega⟩
  · rw [List.drop_of_length_le (by omega), hpn] at hh
    refine bs.av (sx := nos) kC1_ok ?_
    repeat' (first | refine wk3 ?_ | (refine wk2 ?_ ?_ <;> intro _) | refine wk4 ?_ | fail); all_goals (conv => whnf)
    exact ret_of (by rw [← hh]) rfl
end Go.Proofs.Ytmbgehpcjihfpaa
