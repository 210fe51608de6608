/- A part of the proof: lemmas. -/
import Derived.Test.YtddhjopopelkjaaGreatZF8
set_option linter.unusedVariables false
set_option linter.unusedSimpArgs false
namespace Go.Proofs.YtddhjopopelkjaaGreat
open Go Go.Sx

/-! ### Contracts: whether a way is free -/
def zBad (h : Hal) (p q : Pt) : Bool := (decide (p.z = 0) && decide (q.z = 0)) || (decide (p.z = IntKind.i64.wrap (h.ht * p.d)) && decide (q.z = IntKind.i64.wrap (h.ht * q.d))) || decide (p.z < 0) || decide (q.z < 0) || decide (IntKind.i64.wrap (h.ht * p.d) < p.z) || decide (IntKind.i64.wrap (h.ht * q.d) < q.z)
def blkA (h : Hal) (s : Stg) (p q : Pt) : Nat → List Can → Bool
  | _, [] => false
  | j, c :: l => blkP c.rc (hgtAt h s j) p q || blkA h s p q (j + 1) l
def freeP (h : Hal) (s : Stg) (p q : Pt) : Bool := !zBad h p q && (!(wls h.cs).any (touP p q) && (inPlan h (midX p q) (midY p q) (midD p q) && !blkA h s p q 0 h.ks))
noncomputable abbrev blks (h : Hal) (s : Stg) (p q : Pt) : List AV → Option PRes := famA (fun j : Nat => j < h.ks.length) (fun j => [.agg (stgL h s), I j, wayA p q]) (fun j => ⟨Bo (blkP ((h.ks[j]?).getD ⟨⟨#[]⟩, ⟨#[]⟩, 0, 0, 0, 0, []⟩).rc (hgtAt h s j) p q), []⟩)
theorem blks_hit {h : Hal} {s : Stg} {p q : Pt} {j : Nat} (hj : j < h.ks.length) : blks h s p q [.agg (stgL h s), I j, wayA p q] = some ⟨Bo (blkP h.ks[j].rc (hgtAt h s j) p q), []⟩ := by
  have := famA_hit (p := fun j : Nat => j < h.ks.length) (g := fun j : Nat => [.agg (stgL h s), I j, wayA p q]) (r := fun j => ⟨Bo (blkP ((h.ks[j]?).getD ⟨⟨#[]⟩, ⟨#[]⟩, 0, 0, 0, 0, []⟩).rc (hgtAt h s j) p q), []⟩) (k := j) (fun i hi => by
    simp only [List.cons.injEq, AV.int.injEq, true_and, and_true] at hi
    have : i = j := by omega
    subst this; rfl) hj
  refine this.trans ?_
  rw [List.getElem?_eq_getElem hj]; rfl
noncomputable def kF6 (h : Hal) (s : Stg) (p q : Pt) : PC := ins 197 (blks h s p q) (ins 196 (one [h.av, I (midX p q), I (midY p q), I (midD p q)] ⟨Bo (inPlan h (midX p q) (midY p q) (midD p q)), []⟩) kF4)
theorem kF6_ok {h : Hal} {s : Stg} (g : Sit h s) (p q : Pt) : PCOK Tryz.prog (kF6 h s p q) := famA_ok (fun j hj => by rw [List.getElem?_eq_getElem hj]; exact c184 g hj p q) (one_ok (c183 g.ok.f _ _ _) kF4_ok)
set_option maxRecDepth 100000 in
set_option maxHeartbeats 16000000 in
theorem c103 {h : Hal} {s : Stg} (g : Sit h s) (p q : Pt) : PCall Tryz.prog 149 [.agg (stgL h s), wayA p q] ⟨Bo (freeP h s p q), []⟩ := by
  have hk := kF6_ok g p q
  refine bs.pv (sx := nos) hk Tryz.func149 (by kernel_rfl) (by kernel_rfl) rfl ?_
  cases hz : zBad h p q with
  | true =>
    unfold freeP
    rw [hz]
    repeat' (first | refine wk3 ?_ | (refine wk2 ?_ ?_ <;> intro _) | refine wk4 ?_ | fail); all_goals (conv => whnf)
    all_goals first
      | exact ret_bool rfl
      | (exfalso; clear hk; simp_all [zBad]; done)
      | (exfalso; clear hk; simp_all [zBad]; omega)
  | false =>
    have e : freeP h s p q = (!(wls h.cs).any (touP p q) && (inPlan h (midX p q) (midY p q) (midD p q) && !blkA h s p q 0 h.ks)) := by unfold freeP; rw [hz]; rfl
    rw [e]
    clear e
    unfold zBad at hz
    simp only [Bool.or_eq_false_iff, Bool.and_eq_false_iff, decide_eq_false_iff_not] at hz
    obtain ⟨⟨⟨⟨⟨z1, z2⟩, z3⟩, z4⟩, z5⟩, z6⟩ := hz
    repeat' (first | refine wk3 ?_ | (refine wk2 ?_ ?_ <;> intro _) | refine wk4 ?_ | fail); all_goals (conv => whnf)
    all_goals try (exfalso; clear hk; simp_all; done)
    all_goals
      refine Rg.ren (env2 := [(2, .ptr 0 0 0), (4, .ptr 2 0 0), (9, .ptr 43 0 0), (92, .func 193 [h.av] [])]) (σ2 := ⟨[(43, .row 8 [[I p.x, I p.y, I p.z, I p.d, I q.x, I q.y, I q.z, I q.d]] true false), (2, .row 1 [[Bo false]] true false), (0, .row 11 [stgL h s] true false)], 44⟩) (Ren.of [] rfl (kps) (kps)) ?_
      clear z1 z2 z3 z4 z5 z6
      refine rngV (itW g.ok.f) rfl rfl rfl rfl (roundsV (S := Unit) (fun _ => [(43, .row 8 [[I p.x, I p.y, I p.z, I p.d, I q.x, I q.y, I q.z, I q.d]] true false), (2, .row 1 [[Bo false]] true false), (0, .row 11 [stgL h s] true false)]) 44 44 (fun xs _ => ∃ l : List Wl, xs = l.map (fun w => [w.av]) ∧ (!l.any (touP p q) && (inPlan h (midX p q) (midY p q) (midD p q) && !blkA h s p q 0 h.ks)) = (!(wls h.cs).any (touP p q) && (inPlan h (midX p q) (midY p q) (midD p q) && !blkA h s p q 0 h.ks))) ?_ ?_ _ () ⟨_, rfl, rfl⟩)
      · rintro u us _ ⟨l, h1, h2⟩
        cases l with
        | nil => simp at h1
        | cons w l =>
          simp only [List.map_cons, List.cons.injEq] at h1
          obtain ⟨rfl, rfl⟩ := h1
          obtain ⟨wn, wa, wb, wc, wd⟩ := w
          rw [List.any_cons] at h2
          refine ⟨rfl, bs.av (sx := nos) hk ?_⟩
          repeat' (first | refine wk3 ?_ | (refine wk2 ?_ ?_ <;> intro _) | refine wk4 ?_ | fail); all_goals (conv => whnf)
          refine Bd.mk (bs.av (sx := nos) hk ?_)
          repeat' (first | refine wk3 ?_ | (refine wk2 ?_ ?_ <;> intro _) | refine wk4 ?_ | fail); all_goals (conv => whnf)
          · rename_i hx
            rw [← h2, hx]
            exact ret_bool rfl
          · rename_i hx
            rw [hx, Bool.false_or] at h2
            exact Done.mk ⟨(), [], rfl, kps, l, rfl, h2⟩
      · rintro _ ⟨l, h1, h2⟩
        cases l with
        | cons w l => simp at h1
        | nil =>
          rw [← h2]
          clear h1 h2
          rw [List.any_nil]
          repeat' (first | refine wk3 ?_ | (refine wk2 ?_ ?_ <;> intro _) | refine wk4 ?_ | fail); all_goals (conv => whnf)
          · rename_i hx
            have hx : inPlan h (midX p q) (midY p q) (midD p q) = false := by simpa using hx
            rw [hx]
            exact ret_bool rfl
          · rename_i hx
            have hx : inPlan h (midX p q) (midY p q) (midD p q) = true := by simpa using hx
            rw [hx]
            have l4 := ca_length h.ks
            have f4 := g.ok.f.2.2.2.1
            refine loopV (S := Nat × Int) (fun t => h.ks.length - t.1) (fun t => [(2, .ptr 0 0 0), (4, .ptr 2 0 0), (9, .ptr 43 0 0), (114, I (h.ks.map Can.av).length), (115, I t.2)]) (fun _ => [(43, .row 8 [[I p.x, I p.y, I p.z, I p.d, I q.x, I q.y, I q.z, I q.d]] true false), (2, .row 1 [[Bo false]] true false), (0, .row 11 [stgL h s] true false)]) 60 60 (fun t => t.2 = t.1 ∧ t.1 ≤ h.ks.length ∧ blkA h s p q t.1 (h.ks.drop t.1) = blkA h s p q 0 h.ks) (0, 0) ⟨rfl, Nat.zero_le _, rfl⟩ (Nat.le_of_ble_eq_true rfl) [] rfl (kps) (kps) ?_
            rintro ⟨k, i⟩ ⟨hi, hkk, hh⟩
            dsimp only at hi hkk hh ⊢
            subst hi
            refine bs.av (sx := nos) hk ?_
            by_cases hlt : k < h.ks.length
            · rw [List.drop_eq_getElem_cons hlt, blkA] at hh
              have hb := blks_hit (p := p) (q := q) (s := s) hlt
              generalize blkP h.ks[k].rc (hgtAt h s k) p q = b at *
              cases b with
              | true =>
                rw [← hh]
                repeat' (first | refine wk3 ?_ | (refine wk2 ?_ ?_ <;> intro _) | refine wk4 ?_ | fail); all_goals (conv => whnf)
                exact ret_bool rfl
              | false =>
                rw [Bool.false_or] at hh
                repeat' (first | refine wk3 ?_ | (refine wk2 ?_ ?_ <;> intro _) | refine wk4 ?_ | fail); all_goals (conv => whnf)
                exact Done.mk ⟨(k + 1, _), [], rfl, kps, kps, ⟨W_succ (by omega), hlt, hh⟩, by dsimp only; omega⟩
            · rw [List.drop_of_length_le (by omega), blkA] at hh
              rw [← hh]
              repeat' (first | refine wk3 ?_ | (refine wk2 ?_ ?_ <;> intro _) | refine wk4 ?_ | fail); all_goals (conv => whnf)
              exact ret_bool rfl
end Go.Proofs.YtddhjopopelkjaaGreat
