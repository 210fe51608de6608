/- A part of the proof: lemmas. -/
import Derived.Test.YtddhjopopelkjaaGreatZU1
import Derived.Test.YtddhjopopelkjaaGreatZP9
import Derived.Test.YtddhjopopelkjaaGreatSxItR
set_option linter.unusedVariables false
set_option linter.unusedSimpArgs false
namespace Go.Proofs.YtddhjopopelkjaaGreat
open Go Go.Sx
/-! ### All surfaces, with their areas -/
def nsN (h : Hal) : Nat := h.ws.length + 2 + h.ks.length
theorem nsN_eq (h : Hal) : (nsN h : Int) = nsur h := by unfold nsN nsur; omega
/-- How many sides a surface has. -/
def sd (h : Hal) (i : Nat) : Int := if i < h.ws.length + 2 then 1 else 2
noncomputable def arX (h : Hal) : List (List AV) := (List.range (nsN h)).map fun i : Nat => [.agg [I (areaV h i).1, I (areaV h i).2], I (sd h i)]
theorem arX_len (h : Hal) : (arX h).length = nsN h := by unfold arX; simp
theorem arX_drop {h : Hal} {k : Nat} (hk : k < nsN h) : (arX h).drop k = [.agg [I (areaV h k).1, I (areaV h k).2], I (sd h k)] :: (arX h).drop (k + 1) := by
  rw [List.drop_eq_getElem_cons (by rw [arX_len]; exact hk)]; simp [arX]
theorem surf_len (h : Hal) : (sl (surf h)).length = nsN h := by
  rw [sl_length]; unfold surf wNames kNames nsN; simp; omega
set_option maxRecDepth 100000 in
set_option maxHeartbeats 16000000 in
theorem c64n {h : Hal} (hk : h.ok) (he : h.err = 0) : PCall Tryz.prog 166 [h.av] ⟨.tup [.asl 0 0 (sl (surf h)).length, I 0], [(1, sl (surf h))]⟩ := by
  have hkS := kS_ok hk
  · have hfi := fine_of hk he
    obtain ⟨_, g2, g3, _⟩ := hfi.le
    have l3 := wa_length h.ws
    have l4 := ca_length h.ks
    obtain ⟨f1, f2, f3, f4, f5, f6⟩ := hk.f
    refine bs.pv (sx := nos) hkS Tryz.func166 (by kernel_rfl) (by kernel_rfl) rfl ?_
    repeat' (first | refine wk1 ?_ | (refine wk2 ?_ ?_ <;> intro _) | refine wk4 ?_ | fail); all_goals (conv => whnf)
    refine Lp.ren (env2 := [(4, .ptr 1 0 0), (6, .nils), (21, .isl 3 (h.ws.map Wal.av)), (22, I (h.ws.map Wal.av).length), (23, I 0)]) (σ2 := ⟨[(1, .row 9 [h.cells] true false)], 3⟩) (Ren.of [] rfl (kps) (kps)) ?_
    refine loopV (S := Nat × Int × Nat × List (List AV)) (fun t => h.ws.length - t.1) (fun t => [(4, .ptr 1 0 0), (6, gv 3 t.1 t.2.2.1), (21, .isl 3 (h.ws.map Wal.av)), (22, I (h.ws.map Wal.av).length), (23, I t.2.1)]) (fun t => gz 3 1 t.1 t.2.2.2 [(1, .row 9 [h.cells] true false)]) 3 4
      (fun t => t.2.1 = t.1 ∧ t.1 ≤ h.ws.length ∧ t.2.2.1 = t.2.2.2.length ∧ t.2.2.2 = sl ((wNames h).take t.1)) (0, 0, 0, []) ⟨rfl, Nat.zero_le _, rfl, rfl⟩ (Nat.le_refl _) [] rfl (kps) (kps) ?_
    rintro ⟨k, i, len, els⟩ ⟨hi, hk, hlen, hels⟩
    dsimp only at hi hk hlen hels ⊢
    subst hi
    refine bs.av (sx := nos) hkS ?_
    have e4 : els.length < 2000 := by rw [hels, sl_length, List.length_take]; omega
    by_cases hlt : k < h.ws.length
    · have e1 := wa_get hlt
      have e3 := wN_take hlt
      cases k with
      | zero =>
        repeat' (first | refine wk1 ?_ | (refine wk2 ?_ ?_ <;> intro _) | refine wk4 ?_ | fail); all_goals (conv => whnf)
        exact Done.mk ⟨(1, _, _, _), [(3, 6)], rfl, kps, kps, ⟨W_succ (k := 0) (by omega), hlt, rfl, e3.symm⟩, by dsimp only; omega⟩
      | succ k =>
        repeat' (first | refine wk1 ?_ | (refine wk2 ?_ ?_ <;> intro _) | refine wk4 ?_ | fail); all_goals (conv => whnf)
        exact Done.mk ⟨(k + 1 + 1, _, _, _), [(3, 6)], rfl, kps, kps, ⟨W_succ (k := k + 1) (by omega), hlt, by exact List.length_append.symm, by show _ = sl _; rw [e3, ← hels]; rfl⟩, by dsimp only; omega⟩
    rw [List.take_of_length_le (by simp [wNames]; omega)] at hels
    cases k with
    | zero => exfalso; omega
    | succ k =>
    repeat' (first | refine wk1 ?_ | (refine wk2 ?_ ?_ <;> intro _) | refine wk4 ?_ | fail); all_goals (conv => whnf)
    clear hlt
    refine loopV (S := Nat × Int × Nat × List (List AV)) (fun t => h.ks.length - t.1) (fun t => [(6, .asl (nm2 5 6 t.1) 0 t.2.2.1), (38, .isl 7 (h.ks.map Can.av)), (39, I (h.ks.map Can.av).length), (40, I t.2.1)]) (fun t => [(nm2 5 6 t.1, .row 1 t.2.2.2 true true)]) 6 7
      (fun t => t.2.1 = t.1 ∧ t.1 ≤ h.ks.length ∧ t.2.2.1 = t.2.2.2.length ∧ t.2.2.2 = els ++ [[.str floorS], [.str ceilS]] ++ sl ((kNames h).take t.1)) (0, 0, els.length + 2, els ++ [[.str floorS], [.str ceilS]]) ⟨rfl, Nat.zero_le _, by simp, by simp [sl]⟩ (Nat.le_refl _) [] rfl (kps) (kps) ?_
    rintro ⟨k2, i, len2, els2⟩ ⟨hi, hk2, hlen2, hels2⟩
    dsimp only at hi hk2 hlen2 hels2 ⊢
    subst hi
    refine bs.av (sx := nos) hkS ?_
    have e5 : els2.length < 4000 := by rw [hels2, List.length_append, sl_length, List.length_take, List.length_append]; simp; omega
    by_cases hlt : k2 < h.ks.length
    · have e1 := ca_get hlt
      have e3 := kN_take hlt
      cases k2 with
      | zero =>
        repeat' (first | refine wk1 ?_ | (refine wk2 ?_ ?_ <;> intro _) | refine wk4 ?_ | fail); all_goals (conv => whnf)
        exact Done.mk ⟨(1, _, _, _), [(6, 9)], rfl, kps, kps, ⟨W_succ (k := 0) (by omega), hlt, by exact List.length_append.symm, by show _ = _; rw [e3, ← List.append_assoc, ← hels2]; rfl⟩, by dsimp only; omega⟩
      | succ k2 =>
        repeat' (first | refine wk1 ?_ | (refine wk2 ?_ ?_ <;> intro _) | refine wk4 ?_ | fail); all_goals (conv => whnf)
        exact Done.mk ⟨(k2 + 1 + 1, _, _, _), [(6, 9)], rfl, kps, kps, ⟨W_succ (k := k2 + 1) (by omega), hlt, by exact List.length_append.symm, by show _ = _; rw [e3, ← List.append_assoc, ← hels2]; rfl⟩, by dsimp only; omega⟩
    rw [List.take_of_length_le (by simp [kNames]; omega)] at hels2
    have hfin : els2 = sl (surf h) := by rw [hels2, hels]; unfold surf; rw [sl_append, sl_append]; rfl
    subst hfin
    subst hlen2
    cases k2 with
    | zero =>
      repeat' (first | refine wk1 ?_ | (refine wk2 ?_ ?_ <;> intro _) | refine wk4 ?_ | fail); all_goals (conv => whnf)
      exact ret_rows [5] rfl rfl rfl
    | succ k2 =>
      repeat' (first | refine wk1 ?_ | (refine wk2 ?_ ?_ <;> intro _) | refine wk4 ?_ | fail); all_goals (conv => whnf)
      exact ret_rows [6] rfl rfl rfl
theorem sl_scalar (l : List ByteArray) : (sl l).all scalarL = true := by
  rw [List.all_eq_true]
  intro e he
  obtain ⟨b, _, rfl⟩ := List.mem_map.1 he
  rfl
theorem cond_of {b : Bool} {A : Prop} (h : b = true) (ha : A) : cond b A False := by rw [h]; exact ha
noncomputable abbrev cAr (h : Hal) (s : Stg) : List AV → Option PRes := famA (fun i : Nat => i < nsN h) (fun i => [h.av, s.av, I (i : Int)]) (fun i => ⟨.tup [.agg [I (areaV h i).1, I (areaV h i).2], I 0], []⟩)
theorem ar_hit {h : Hal} {s : Stg} {i : Nat} (hi : i < nsN h) : cAr h s [h.av, s.av, I (i : Int)] = some ⟨.tup [.agg [I (areaV h i).1, I (areaV h i).2], I 0], []⟩ :=
  famA_hit (p := fun i : Nat => i < nsN h) (g := fun i => [h.av, s.av, I (i : Int)]) (r := fun i => ⟨.tup [.agg [I (areaV h i).1, I (areaV h i).2], I 0], []⟩) (k := i) (fun j hj => by
    simp only [List.cons.injEq, AV.int.injEq, true_and, and_true] at hj
    have : j = i := by omega
    rw [this]) hi
noncomputable def kU (h : Hal) (s : Stg) : PC := ins 166 (one [h.av] ⟨.tup [.asl 0 0 (sl (surf h)).length, I 0], [(1, sl (surf h))]⟩) (ins 216 (cAr h s) pt0)
theorem serr_set {h : Hal} {s : Stg} (g : Sit h s) (e : serr h s = 0) {i : Nat} (hi : i < nsN h) : surE h s i = 0 := by
  have := nsN_eq h
  exact surE_ok e (by omega) (by omega)
theorem err_of {h : Hal} {s : Stg} (e : serr h s = 0) : h.err = 0 := by
  unfold serr at e
  by_cases z : h.err = 0
  · exact z
  · rw [if_neg z] at e; exact absurd e z
theorem kU_ok {h : Hal} {s : Stg} (g : Sit h s) (e : serr h s = 0) : PCOK Tryz.prog (kU h s) := by
  refine one_ok (c64n g.ok (err_of e)) (famA_ok (fun i hi => ?_) pt0_ok)
  have h56 := c56 g.ok g.sf (i : Int)
  have e0 := serr_set g e hi
  have e1 : areaA h s i = areaV h i := by unfold areaA; rw [if_pos e0]
  rw [e0, e1] at h56
  exact h56
set_option maxRecDepth 100000 in
set_option maxHeartbeats 8000000 in
theorem it186 {h : Hal} {s : Stg} (g : Sit h s) (e : serr h s = 0) : ItOK Tryz.prog 186 [.agg (stgL h s)] [] (arX h) := by
  have hk := kU_ok g e
  have l1 := surf_len h
  have l2 := ca_length h.ks
  obtain ⟨f1, f2, f3, f4, f5, f6⟩ := g.ok.f
  have hns : nsN h < 10000 := by unfold nsN; omega
  have wn : IntKind.i64.wrap (((sl (surf h)).length : Int) - ((h.ks.map Can.av).length : Int)) = ((h.ws.length + 2 : Nat) : Int) := by rw [l1, l2]; unfold nsN; rw [W_eq (by omega) (by omega)]; omega
  refine bs.iter hk Tryz.func186 (by kernel_rfl) rfl (by kernel_rfl) fun B Ig l JX hI => ?_
  refine Got.intro (x := ⟨.tup [.asl 0 0 (sl (surf h)).length, I 0], [(1, sl (surf h))]⟩) (one_hit _ _) ?_
  refine cond_of (b := slimAV (.tup [.asl 0 0 (sl (surf h)).length, I 0]) && slimRows [(1, sl (surf h))]) (by simp [slimAV, slimL, slimRows, sl_scalar]) ?_
  refine iloop_ren (S := Nat) (fun k => nsN h - k) (fun k => [(1, .yld l), (2, .ptr 0 0 0), (4, .asl 1 0 (sl (surf h)).length), (17, I (sl (surf h)).length), (18, I k)]) (fun _ => [(0, .row 11 [stgL h s] true false), (1, .row 1 (sl (surf h)) true true)]) (fun k => some ((arX h).drop k)) 2 2 (fun k => k ≤ nsN h) ?_ 0 (Nat.zero_le _) [] rfl ?_ ?_ rfl
  · intro k hk2
    have hw : IntKind.i64.wrap ((k : Int) + 1) = ((k + 1 : Nat) : Int) := W_succ (by omega)
    refine bs.awpi hk hI ?_
    refine Br.dec (fun hlt => ?_) (fun hge => ?_)
    · have hlt : k < nsN h := by rw [l1] at hlt; omega
      rw [arX_drop hlt]
      refine Got.intro (ar_hit hlt) ?_
      refine Br.intro (fun c => ?_) (fun c => ?_)
      · have c : IntKind.i64.wrap (((sl (surf h)).length : Int) - ((h.ks.map Can.av).length : Int)) ≤ (k : Int) := of_decide_eq_true c
        rw [show sd h k = 2 from if_neg (by omega)]
        refine ⟨rfl, rfl, rfl, rfl, ?_, ?_⟩
        · refine ⟨k + 1, [], rfl, ?_, ?_, by omega, by omega, rfl⟩
          · rw [← hw]; exact kps
          · exact kps
        · exact ⟨.inr rfl, .inr rfl, [], rfl⟩
      · have c : ¬ IntKind.i64.wrap (((sl (surf h)).length : Int) - ((h.ks.map Can.av).length : Int)) ≤ (k : Int) := of_decide_eq_false c
        rw [show sd h k = 1 from if_pos (by omega)]
        refine ⟨rfl, rfl, rfl, rfl, ?_, ?_⟩
        · refine ⟨k + 1, [], rfl, ?_, ?_, by omega, by omega, rfl⟩
          · rw [← hw]; exact kps
          · exact kps
        · exact ⟨.inr rfl, .inr rfl, [], rfl⟩
    · have : k = nsN h := by rw [l1] at hge; omega
      subst this
      refine ⟨.inl rfl, .inl ?_, [], rfl⟩
      rw [List.drop_of_length_le (by rw [arX_len]; exact Nat.le_refl _)]
  · exact kps
  · exact kps
end Go.Proofs.YtddhjopopelkjaaGreat
