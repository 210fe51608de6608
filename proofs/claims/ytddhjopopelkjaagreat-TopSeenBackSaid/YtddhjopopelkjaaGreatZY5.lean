/- A part of the proof: lemmas. -/
import Derived.Test.YtddhjopopelkjaaGreatZY4
set_option linter.unusedVariables false
set_option linter.unusedSimpArgs false
namespace Go.Proofs.YtddhjopopelkjaaGreat
open Go Go.Sx
/-! ### The law TopSeenBack -/
def r44h : List AV → Option PRes
  | [] => some ⟨Bo true, []⟩
  | _ => none
noncomputable def kSB (h : Hal) (s : Stg) (pt : PC) : PC := ins 44 r44h (ins 45 (one [.agg (stgL h s)] ⟨Bo true, []⟩) (ins 30 (one [.isl 1 (nl s.hs)] ⟨.isl 1 (nl s.hs), []⟩) (ins 19 cCpH (ins 20 (cCpS s) (ins 73 cSee (ins 35 intsT (ins 74 cHasT (ins 38 r78 pt))))))))
theorem kSB_ok {h : Hal} {s : Stg} (r : rightB h s = true) (hs : s.few) {pt : PC} (hp : PCOK Tryz.prog pt) : PCOK Tryz.prog (kSB h s pt) := by
  have h45 := d45 h s
  rw [r] at h45
  refine ins_ok (fun a res h => ?_) (one_ok h45 (one_ok (c25f s.hs (by have := hs.1; omega)) (famA_ok (fun x hx => c22f hx) (cpS_ok hs (famA_ok (fun t ht => c68o ht.1 ht.2.1 ht.2.2) (intsT_ok (famA_ok (fun t ht => c26 ht t.2) (ins_ok (fun a res h => ?_) hp))))))))
  · unfold r44h at h; split at h <;> cases h; exact housed_ok
  · unfold r78 at h; split at h <;> cases h; exact c30 _ _ _
theorem se_getA {l : List Sea} {k : Nat} (h : k < l.length) : (l.map Sea.av)[((k : Nat) : Int).toNat]? = some (Sea.av l[k]) := by simp [h]
/-- The lists of the seats that are seen, as they lie. -/
def allL (h : Hal) (s : Stg) (k : Nat) : List (List AV) := (h.ss.take k).map fun c => [.isl 1 (nl (seeS h s c))]
theorem allL_step {h : Hal} {s : Stg} {k : Nat} (hk : k < h.ss.length) : allL h s (k + 1) = allL h s k ++ [[.isl 1 (nl (seeS h s h.ss[k]))]] := by
  unfold allL
  rw [List.take_succ_eq_append_getElem hk, List.map_append]; rfl
theorem allL_get {h : Hal} {s : Stg} {n k : Nat} (hn : n = h.ss.length) (hk : k < h.ss.length) : (allL h s n)[0 + ((k : Nat) : Int).toNat]? = some [.isl 1 (nl (seeS h s h.ss[k]))] := by
  unfold allL
  rw [List.take_of_length_le (by omega), Nat.zero_add, Int.toNat_natCast, List.getElem?_map, List.getElem?_eq_getElem hk]; rfl
theorem allL_len (h : Hal) (s : Stg) {k : Nat} (hk : k ≤ h.ss.length) : (allL h s k).length = k := by
  unfold allL; simp; omega
theorem seeS_len (h : Hal) (s : Stg) (c : Sea) : (seeS h s c).length ≤ h.ss.length := seeL_len _ _ _ _ _ _
theorem seat_E {h : Hal} {s : Stg} (g : Sit h s) (z : serr h s = 0) {k : Nat} (hk : k < h.ss.length) : seeE h s h.ss[k].x h.ss[k].y h.ss[k].z = 0 := by
  unfold seeE
  rw [if_pos z]
  have := g.fine.sea k hk
  unfold sErrR at this
  rw [sea_same g.fine.st]
  split at this
  · split at this
    · cases this
    · exact this
  · cases this
noncomputable def T75 (h h' : Hal) (a b : Int) (x : List AV) : Option PRes := if within a (-1000) 1000 = true ∧ within b (-1000) 1000 = true then one [h.av, P2 a b] ⟨h'.av, []⟩ x else none
theorem T75_hit {h h' : Hal} {a b : Int} (w1 : within a (-1000) 1000 = true) (w2 : within b (-1000) 1000 = true) : T75 h h' a b [h.av, P2 a b] = some ⟨h'.av, []⟩ := by
  unfold T75; rw [if_pos ⟨w1, w2⟩]; exact one_hit _ _
theorem T75_ok {h h' : Hal} {a b : Int} (h75 : within a (-1000) 1000 = true → within b (-1000) 1000 = true → PCall Tryz.prog 75 [h.av, P2 a b] ⟨h'.av, []⟩) {pt : PC} (hp : PCOK Tryz.prog pt) : PCOK Tryz.prog (ins 75 (T75 h h' a b) pt) := by
  refine ins_ok (fun x res hr => ?_) hp
  unfold T75 at hr
  split at hr
  · rename_i w
    unfold one at hr
    split at hr
    · rename_i e; subst e; cases hr; exact h75 w.1 w.2
    · cases hr
  · cases hr
set_option maxRecDepth 100000 in
set_option maxHeartbeats 32000000 in
theorem d14m {h h' : Hal} {s : Stg} (r : rightB h s = true) (a b : Int)
    (h75 : within a (-1000) 1000 = true → within b (-1000) 1000 = true → PCall Tryz.prog 75 [h.av, P2 a b] ⟨h'.av, []⟩) (ok' : h'.ok)
    (er : within a (-1000) 1000 = true → within b (-1000) 1000 = true → h'.err = 0 ∨ h'.err = 2)
    (F3 : within a (-1000) 1000 = true → within b (-1000) 1000 = true → h'.err = 0 → ∀ k (hk : k < h.ss.length), ∃ c' : Sea, (h'.ss.map Sea.av)[((k : Nat) : Int).toNat]? = some (Sea.av c') ∧ cSee [h'.av, s.av, P3 c'.x c'.y c'.z] = some ⟨.tup [.isl 1 (nl (seeS h s h.ss[k])), I 0], []⟩) :
    PCall Tryz.prog 14 [.agg (stgL h s), P2 a b] ⟨Bo true, []⟩ := by
  have g := right_sit r
  have z := serr_sit r
  have zb := serr_bare z
  have hs := g.sf
  have hfb := few_bare hs
  have ls := se_length h.ss
  have fs := g.ok.f.2.2.2.2.1
  have hk := kSB_ok r hs (T75_ok h75 (one_ok (c65k ok') pt0_ok))
  unfold kSB at hk
  have p1 := cpH_hit g.ok.f
  have p2 := cpS_1 s
  have p3 := cpS_2 s
  refine bs.pv (sx := nos) hk Tryz.func14 (by kernel_rfl) (by kernel_rfl) rfl ?_
  repeat' (first | refine wk3 ?_ | (refine wk2 ?_ ?_ <;> intro _) | refine wk4 ?_ | fail); all_goals (conv => whnf)
  refine loopV (S := Nat × Int × Nat × List (List AV)) (fun t => h.ss.length - t.1) (fun t => [(2, .ptr 0 0 0), (3, .ptr 1 0 0), (5, .ptr 2 0 0), (6, .isl 4 (h.ss.map Sea.av)), (7, gv 3 t.1 t.2.2.1), (8, I t.2.1)])
    (fun t => gz 3 1 t.1 t.2.2.2 [(2, .row 2 [[.isl 1 (nl s.hs), .nils]] true false), (1, .row 2 [[I a, I b]] true false), (0, .row 11 [stgL h s] true false)]) 3 4
    (fun t => t.2.1 = t.1 ∧ t.1 ≤ h.ss.length ∧ t.2.2.1 = t.2.2.2.length ∧ t.2.2.2 = allL h s t.1) (0, 0, 0, []) ⟨rfl, Nat.zero_le _, rfl, rfl⟩ (Nat.le_refl _) [] rfl (kps) (kps) ?_
  rintro ⟨k, i, len, els⟩ ⟨hi, hk1, hlen, hels⟩
  dsimp only at hi hk1 hlen hels ⊢
  subst hi
  have e4 : els.length < 2000 := by rw [hels, allL_len h s hk1]; omega
  by_cases hlt : k < h.ss.length
  · have gb := sit_of g.ok hfb zb
    have e1 := se_getA hlt
    have p4 : cSee [h.av, s.av, P3 h.ss[k].x h.ss[k].y h.ss[k].z] = some ⟨.tup [.isl 1 (nl (seeS h s h.ss[k])), I 0], []⟩ := see_hit g.ok hs (seat_E g z hlt)
    have p5 : cSee [h.av, (bareS s).av, P3 h.ss[k].x h.ss[k].y h.ss[k].z] = some ⟨.tup [.isl 1 (nl (seeS h s h.ss[k])), I 0], []⟩ := (see_hit g.ok hfb (seat_E gb zb hlt)).trans (by rw [freeP_bare]; rfl)
    have hL := seeS_len h s h.ss[k]
    have p6 := ints_hit (a := seeS h s h.ss[k]) (b := seeS h s h.ss[k]) (by omega) (by omega)
    rw [eqN_iff.2 rfl] at p6
    have p7 := hasT_hit (l := seeS h s h.ss[k]) (by omega) (k : Int)
    rw [has_self s hlt] at p7
    have e3 := allL_step (s := s) hlt
    clear F3
    generalize seeS h s h.ss[k] = L at *
    generalize h.ss[k] = c at *
    refine bs.av (sx := nos) hk ?_
    cases k with
    | zero =>
      repeat' (first | refine wk3 ?_ | (refine wk2 ?_ ?_ <;> intro _) | refine wk4 ?_ | fail); all_goals (conv => whnf)
      exact Done.mk ⟨(1, _, _, _), [(3, 38)], rfl, kps, kps, ⟨W_succ (k := 0) (by omega), hlt, rfl, e3.symm⟩, by dsimp only; omega⟩
    | succ k =>
      repeat' (first | refine wk3 ?_ | (refine wk2 ?_ ?_ <;> intro _) | refine wk4 ?_ | fail); all_goals (conv => whnf)
      exact Done.mk ⟨(k + 1 + 1, _, _, _), [(3, 38)], rfl, kps, kps, ⟨W_succ (k := k + 1) (by omega), hlt, by exact List.length_append.symm, by show _ = allL h s _; rw [e3, ← hels]; rfl⟩, by dsimp only; omega⟩
  have hkn : k = h.ss.length := by omega
  have hEl : els.length = h.ss.length := by rw [hels, allL_len h s hk1, hkn]
  have hEg : ∀ j (hj : j < h.ss.length), els[0 + ((j : Nat) : Int).toNat]? = some [.isl 1 (nl (seeS h s h.ss[j]))] := fun j hj => by rw [hels]; exact allL_get hkn hj
  clear hels p3 zb hfb
  refine bs.av (sx := nos) hk ?_
  cases k with
  | zero =>
    repeat' (first | refine wk3 ?_ | (refine wk2 ?_ ?_ <;> intro _) | refine wk4 ?_ | fail); all_goals (conv => whnf)
    refine LpM.start 1 ?_
    refine LpM.succ (bs.av (sx := nos) hk ?_)
    by_cases w : within a (-1000) 1000 = true ∧ within b (-1000) 1000 = true
    · obtain ⟨w1, w2⟩ := w
      have q75 := T75_hit (h := h) (h' := h') w1 w2
      clear F3
      rcases er w1 w2 with e0 | e2
      · repeat' (first | refine wk3 ?_ | (refine wk2 ?_ ?_ <;> intro _) | refine wk4 ?_ | fail); all_goals (conv => whnf)
        all_goals try exact ret_bool rfl
        refine LpM.start 1 ?_
        refine LpM.succ (bs.av (sx := nos) hk ?_)
        repeat' (first | refine wk3 ?_ | (refine wk2 ?_ ?_ <;> intro _) | refine wk4 ?_ | fail); all_goals (conv => whnf)
        exact ret_bool rfl
      · repeat' (first | refine wk3 ?_ | (refine wk2 ?_ ?_ <;> intro _) | refine wk4 ?_ | fail); all_goals (conv => whnf)
        all_goals first
          | exact ret_bool rfl
          | exact ret_bool (decide_eq_true e2)
    · have w3 : within a (-1000) 1000 = false ∨ (within a (-1000) 1000 = true ∧ within b (-1000) 1000 = false) := by
        cases h1 : within a (-1000) 1000
        · exact .inl rfl
        · cases h2 : within b (-1000) 1000
          · exact .inr ⟨rfl, rfl⟩
          · exact absurd ⟨h1, h2⟩ w
      clear F3 er
      rcases w3 with w1 | ⟨w1, w2⟩
      · repeat' (first | refine wk3 ?_ | (refine wk2 ?_ ?_ <;> intro _) | refine wk4 ?_ | fail); all_goals (conv => whnf)
        all_goals first
          | exact ret_bool rfl
          | (exfalso; simp_all; done)
      · repeat' (first | refine wk3 ?_ | (refine wk2 ?_ ?_ <;> intro _) | refine wk4 ?_ | fail); all_goals (conv => whnf)
        all_goals first
          | exact ret_bool rfl
          | (exfalso; simp_all; done)
  | succ k =>
    repeat' (first | refine wk3 ?_ | (refine wk2 ?_ ?_ <;> intro _) | refine wk4 ?_ | fail); all_goals (conv => whnf)
    refine loopV (S := Nat × Int) (fun t => h.ss.length - t.1) (fun t => [(2, .ptr 0 0 0), (3, .ptr 1 0 0), (7, .asl 3 0 len), (13, I t.2)]) (fun _ => [(3, .row 1 els true true), (1, .row 2 [[I a, I b]] true false), (0, .row 11 [stgL h s] true false)]) 4 4 (fun t => t.2 = t.1 ∧ t.1 ≤ h.ss.length) (0, 0) ⟨rfl, Nat.zero_le _⟩ (Nat.le_refl _) [] rfl (kps) (kps) ?_
    rintro ⟨m, i⟩ ⟨hi, hm1⟩
    dsimp only at hi hm1 ⊢
    subst hi
    refine bs.av (sx := nos) hk ?_
    by_cases hml : m < h.ss.length
    · repeat' (first | refine wk3 ?_ | (refine wk2 ?_ ?_ <;> intro _) | refine wk4 ?_ | fail); all_goals (conv => whnf)
      refine loopV (S := Nat × Int) (fun t => h.ss.length - t.1) (fun t => [(2, .ptr 0 0 0), (3, .ptr 1 0 0), (7, .asl 3 0 len), (13, I m), (14, I t.2)]) (fun _ => [(3, .row 1 els true true), (1, .row 2 [[I a, I b]] true false), (0, .row 11 [stgL h s] true false)]) 4 4 (fun t => t.2 = t.1 ∧ t.1 ≤ h.ss.length) (0, 0) ⟨rfl, Nat.zero_le _⟩ (Nat.le_refl _) [] rfl (kps) (kps) ?_
      rintro ⟨j, i⟩ ⟨hi, hj1⟩
      dsimp only at hi hj1 ⊢
      subst hi
      refine bs.av (sx := nos) hk ?_
      by_cases hjl : j < h.ss.length
      · have c1 := hEg m hml
        have c2 := hEg j hjl
        have l1 := seeS_len h s h.ss[m]
        have l2 := seeS_len h s h.ss[j]
        have c3 := hasT_hit (l := seeS h s h.ss[m]) (by omega) (j : Int)
        have c4 := hasT_hit (l := seeS h s h.ss[j]) (by omega) (m : Int)
        rw [← has_comm g hml hjl] at c4
        clear F3 er hEg
        generalize hasN (seeS h s h.ss[m]) (j : Int) = B at *
        generalize seeS h s h.ss[m] = L1 at *
        generalize seeS h s h.ss[j] = L2 at *
        cases B
        all_goals
          repeat' (first | refine wk3 ?_ | (refine wk2 ?_ ?_ <;> intro _) | refine wk4 ?_ | fail); all_goals (conv => whnf)
          exact Done.mk ⟨(j + 1, _), [], rfl, kps, kps, ⟨W_succ (by omega), hjl⟩, by dsimp only; omega⟩
      · repeat' (first | refine wk3 ?_ | (refine wk2 ?_ ?_ <;> intro _) | refine wk4 ?_ | fail); all_goals (conv => whnf)
        exact Done.mk ⟨(m + 1, _), [], rfl, kps, kps, ⟨W_succ (by omega), hml⟩, by dsimp only; omega⟩
    by_cases w : within a (-1000) 1000 = true ∧ within b (-1000) 1000 = true
    · obtain ⟨w1, w2⟩ := w
      have q75 := T75_hit (h := h) (h' := h') w1 w2
      rcases er w1 w2 with e0 | e2
      · have F4 := F3 w1 w2 e0
        clear F3 er
        repeat' (first | refine wk3 ?_ | (refine wk2 ?_ ?_ <;> intro _) | refine wk4 ?_ | fail); all_goals (conv => whnf)
        all_goals try exact ret_bool rfl
        have p1' := cpH_hit ok'.f
        refine loopV (S := Nat × Int) (fun t => h.ss.length - t.1) (fun t => [(2, .ptr 0 0 0), (7, .asl 3 0 len), (15, .ptr 4 0 0), (18, I t.2)]) (fun _ => [(4, .row 9 [h'.cells] true false), (3, .row 1 els true true), (0, .row 11 [stgL h s] true false)]) 6 6 (fun t => t.2 = t.1 ∧ t.1 ≤ h.ss.length) (0, 0) ⟨rfl, Nat.zero_le _⟩ (Nat.le_refl _) [] rfl (kps) (kps) ?_
        rintro ⟨j, i⟩ ⟨hi, hj1⟩
        dsimp only at hi hj1 ⊢
        subst hi
        refine bs.av (sx := nos) hk ?_
        by_cases hjl : j < h.ss.length
        · obtain ⟨⟨cn, cx, cy, cz⟩, f1, f2⟩ := F4 j hjl
          dsimp only at f1 f2
          have c1 := hEg j hjl
          have l1 := seeS_len h s h.ss[j]
          have c3 := ints_hit (a := seeS h s h.ss[j]) (b := seeS h s h.ss[j]) (by omega) (by omega)
          rw [eqN_iff.2 rfl] at c3
          clear F4 hEg
          generalize seeS h s h.ss[j] = L1 at *
          repeat' (first | refine wk3 ?_ | (refine wk2 ?_ ?_ <;> intro _) | refine wk4 ?_ | fail); all_goals (conv => whnf)
          exact Done.mk ⟨(j + 1, _), [], rfl, kps, kps, ⟨W_succ (by omega), hjl⟩, by dsimp only; omega⟩
        · repeat' (first | refine wk3 ?_ | (refine wk2 ?_ ?_ <;> intro _) | refine wk4 ?_ | fail); all_goals (conv => whnf)
          exact ret_bool rfl
      · clear F3 er
        repeat' (first | refine wk3 ?_ | (refine wk2 ?_ ?_ <;> intro _) | refine wk4 ?_ | fail); all_goals (conv => whnf)
        all_goals first
          | exact ret_bool rfl
          | exact ret_bool (decide_eq_true e2)
    · have w3 : within a (-1000) 1000 = false ∨ (within a (-1000) 1000 = true ∧ within b (-1000) 1000 = false) := by
        cases h1 : within a (-1000) 1000
        · exact .inl rfl
        · cases h2 : within b (-1000) 1000
          · exact .inr ⟨rfl, rfl⟩
          · exact absurd ⟨h1, h2⟩ w
      clear F3 er
      rcases w3 with w1 | ⟨w1, w2⟩
      · repeat' (first | refine wk3 ?_ | (refine wk2 ?_ ?_ <;> intro _) | refine wk4 ?_ | fail); all_goals (conv => whnf)
        all_goals first
          | exact ret_bool rfl
          | (exfalso; simp_all; done)
      · repeat' (first | refine wk3 ?_ | (refine wk2 ?_ ?_ <;> intro _) | refine wk4 ?_ | fail); all_goals (conv => whnf)
        all_goals first
          | exact ret_bool rfl
          | (exfalso; simp_all; done)
set_option maxRecDepth 100000 in
set_option maxHeartbeats 8000000 in
theorem d14 (h : Hal) (s : Stg) (a b : Int) : PCall Tryz.prog 14 [.agg (stgL h s), P2 a b] ⟨Bo true, []⟩ := by
  by_cases r : rightB h s = true
  rotate_left
  · have r : rightB h s = false := by simpa using r
    have h45 := d45 h s
    rw [r] at h45
    have hk : PCOK Tryz.prog (ins 44 r44h (ins 45 (one [.agg (stgL h s)] ⟨Bo false, []⟩) pt0)) := by
      refine ins_ok (fun a res h => ?_) (one_ok h45 pt0_ok)
      unfold r44h at h; split at h <;> cases h; exact housed_ok
    refine bs.pv (sx := nos) hk Tryz.func14 (by kernel_rfl) (by kernel_rfl) rfl ?_
    repeat' (first | refine wk3 ?_ | (refine wk2 ?_ ?_ <;> intro _) | refine wk4 ?_ | fail); all_goals (conv => whnf)
    all_goals exact ret_bool rfl
  have g := right_sit r
  have z := serr_sit r
  have he : h.err = 0 := by
    unfold serr at z
    split at z
    · rename_i c; exact c
    · rename_i c; exact absurd z c
  refine d14m (h' := h.mv a b) r a b (fun w1 w2 => d75f g.ok.f g.fine (within_iff.1 w1) (within_iff.1 w2)) (ok_mv g.ok a b) (fun w1 w2 => err_mv g.ok he (within_iff.1 w1) (within_iff.1 w2)) fun w1 w2 e0 k hk => ?_
  have z' : serr (h.mv a b) s = 0 := by
    unfold serr at z ⊢
    rw [if_pos he] at z
    rw [if_pos e0, setE_mv]
    exact z
  have g' := sit_of (ok_mv g.ok a b) g.sf z'
  have hm := mvB_of g.fine.bd (within_iff.1 w1) (within_iff.1 w2)
  have hk' : k < (h.mv a b).ss.length := by show k < (h.ss.map _).length; simpa using hk
  have e : (h.mv a b).ss[k] = (h.ss[k]).mv a b := by
    show (h.ss.map fun c => c.mv a b)[k]'(by simpa using hk) = _
    rw [List.getElem_map]
  refine ⟨(h.mv a b).ss[k], se_getA hk', ?_⟩
  have h1 := see_hit g'.ok g.sf (seat_E g' z' hk')
  rw [e] at h1 ⊢
  have h2 := see_mv g g' hm hk
  refine h1.trans ?_
  show some (PRes.mk (.tup [.isl 1 (nl (seeL (freeP (h.mv a b) s) (h.ss[k].x + a) (h.ss[k].y + b) h.ss[k].z 0 (h.mv a b).ss)), I 0]) []) = _
  rw [h2]
  rfl
end Go.Proofs.YtddhjopopelkjaaGreat
