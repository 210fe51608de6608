/- A part of the proof: lemmas. -/
import Derived.Test.YtjpmeaagnhojgaaGreatF11
import Derived.Test.YtjpmeaagnhojgaaGreatF12
set_option linter.unusedVariables false
set_option linter.unusedSimpArgs false
namespace Go.Proofs.YtjpmeaagnhojgaaGreat
open Go Go.Sx

/-! ### The reference: whether a way is free -/
def wlA (cs : List (Int × Int)) (p q : Pt) : Nat → Nat → Bool
  | _, 0 => false
  | k, n + 1 => onWallR (lnOf cs k) p q || wlA cs p q (k + 1) n
def blkB (h : Hal) (s : Stg) (p q : Pt) : Nat → List Can → Bool
  | _, [] => false
  | j, c :: l => blkR c.rc (hgtAt h s j) p q || blkB h s p q (j + 1) l
def midR (p q : Pt) : Pt := ⟨midX p q, midY p q, 0, midD p q⟩
def freeR (h : Hal) (s : Stg) (p q : Pt) : Bool := !zBad h p q && (!wlA h.cs p q 0 h.ws.length && (inPlanR h (midR p q) && !blkB h s p q 0 h.ks))
noncomputable abbrev onWs (h : Hal) (p q : Pt) : List AV → Option PRes := famA (fun k : Nat => k < h.cs.length) (fun k => [(lnOf h.cs k).av, p.av, q.av]) (fun k => ⟨Bo (onWallR (lnOf h.cs k) p q), []⟩)
theorem onWs_hit {h : Hal} {p q : Pt} {k : Nat} (hk : k < h.cs.length) : onWs h p q [(lnOf h.cs k).av, p.av, q.av] = some ⟨Bo (onWallR (lnOf h.cs k) p q), []⟩ :=
  famA_hit (p := fun k : Nat => k < h.cs.length) (g := fun k => [(lnOf h.cs k).av, p.av, q.av]) (r := fun k => ⟨Bo (onWallR (lnOf h.cs k) p q), []⟩) (k := k) (fun j hj => by
    have e : lnOf h.cs j = lnOf h.cs k := by
      simp only [List.cons.injEq, AV.agg.injEq, AV.int.injEq, true_and, and_true] at hj
      generalize lnOf h.cs j = a at *
      generalize lnOf h.cs k = b at *
      obtain ⟨a1, a2, a3, a4⟩ := a
      obtain ⟨b1, b2, b3, b4⟩ := b
      simp_all
    rw [e]) hk
noncomputable abbrev onCs (h : Hal) (s : Stg) (p q : Pt) : List AV → Option PRes := famA (fun j : Nat => j < h.ks.length) (fun j => [.agg (Can.av ((h.ks[j]?).getD ⟨⟨#[]⟩, ⟨#[]⟩, 0, 0, 0, 0, []⟩)), I (hgtAt h s j), p.av, q.av]) (fun j => ⟨Bo (blkR ((h.ks[j]?).getD ⟨⟨#[]⟩, ⟨#[]⟩, 0, 0, 0, 0, []⟩).rc (hgtAt h s j) p q), []⟩)
theorem onCs_hit {h : Hal} {s : Stg} {p q : Pt} {j : Nat} (hj : j < h.ks.length) : onCs h s p q [.agg (Can.av h.ks[j]), I (hgtAt h s j), p.av, q.av] = some ⟨Bo (blkR h.ks[j].rc (hgtAt h s j) p q), []⟩ := by
  have := famA_hit (p := fun j : Nat => j < h.ks.length) (g := fun j => [.agg (Can.av ((h.ks[j]?).getD ⟨⟨#[]⟩, ⟨#[]⟩, 0, 0, 0, 0, []⟩)), I (hgtAt h s j), p.av, q.av]) (r := fun j => ⟨Bo (blkR ((h.ks[j]?).getD ⟨⟨#[]⟩, ⟨#[]⟩, 0, 0, 0, 0, []⟩).rc (hgtAt h s j) p q), []⟩) (k := j) (fun i hi => by
    simp only [List.cons.injEq, AV.agg.injEq, AV.int.injEq, true_and, and_true] at hi
    generalize ((h.ks[i]?).getD ⟨⟨#[]⟩, ⟨#[]⟩, 0, 0, 0, 0, []⟩ : Can) = a at *
    generalize ((h.ks[j]?).getD ⟨⟨#[]⟩, ⟨#[]⟩, 0, 0, 0, 0, []⟩ : Can) = b at *
    obtain ⟨a1, a2, a3, a4, a5, a6, a7⟩ := a
    obtain ⟨b1, b2, b3, b4, b5, b6, b7⟩ := b
    obtain ⟨⟨_, _, h3, h4, h5, h6, _⟩, h7⟩ := hi
    simp only at h3 h4 h5 h6
    subst h3 h4 h5 h6
    rw [h7]) hj
  rw [List.getElem?_eq_getElem hj] at this
  exact this
noncomputable abbrev hgts (h : Hal) (s : Stg) : List AV → Option PRes := famA (fun j : Nat => j < h.ks.length) (fun j => [h.av, s.av, I j]) (fun j => ⟨I (hgtAt h s j), []⟩)
theorem hgts_hit {h : Hal} {s : Stg} {j : Nat} (hj : j < h.ks.length) : hgts h s [h.av, s.av, I j] = some ⟨I (hgtAt h s j), []⟩ :=
  famA_hit (p := fun j : Nat => j < h.ks.length) (g := fun j : Nat => [h.av, s.av, I j]) (r := fun j => ⟨I (hgtAt h s j), []⟩) (k := j) (fun i hi => by
    simp only [List.cons.injEq, AV.int.injEq, true_and, and_true] at hi
    have : i = j := by omega
    subst this; rfl) hj
noncomputable def kF7 (h : Hal) (s : Stg) (p q : Pt) : PC := ins 104 (onWs h p q) (ins 107 (onCs h s p q) (ins 108 (hgts h s) (ins 106 (one [h.av, (midR p q).av] ⟨Bo (inPlanR h (midR p q)), []⟩) (kR5 h))))
theorem kF7_ok {h : Hal} {s : Stg} (g : Sit h s) {p q : Pt} (hp : PtR p) (hq : PtR q) : PCOK Tryz.prog (kF7 h s p q) := by
  refine famA_ok (fun k hk => ?_) (famA_ok (fun j hj => ?_) (famA_ok (fun j hj => c108 g hj) (one_ok (c106 g.ok.f g.fine.le.2.2.1 (nz_of g.fine.st) (midR p q)) (kR5_ok g.ok.f))))
  · obtain ⟨n, sx, sy, hs⟩ := g.fine.st k hk
    rw [lnOf_eq]
    exact c104 hs hp hq
  · rw [List.getElem?_eq_getElem hj]
    exact c107 (can_all g.fine hj).1 _ hp hq
set_option maxRecDepth 100000 in
set_option maxHeartbeats 16000000 in
theorem c39 {h : Hal} {s : Stg} (g : Sit h s) {p q : Pt} (hp : PtR p) (hq : PtR q) : PCall Tryz.prog 39 [h.av, s.av, wayA p q] ⟨Bo (freeR h s p q), []⟩ := by
  have hk := kF7_ok g hp hq
  refine bs.pv (sx := nos) hk Tryz.func39 (by kernel_rfl) (by kernel_rfl) rfl ?_
  cases hz : zBad h p q with
  | true =>
    unfold freeR
    rw [hz]
    repeat' (first | refine wk3 ?_ | (refine wk2 ?_ ?_ <;> intro _) | refine wk4 ?_ | fail); all_goals (conv => whnf)
    all_goals first
      | exact ret_bool rfl
      | (exfalso; clear hk; simp_all [zBad]; done)
      | (exfalso; clear hk; simp_all [zBad]; omega)
  | false =>
    have e : freeR h s p q = (!wlA h.cs p q 0 h.ws.length && (inPlanR h (midR p q) && !blkB h s p q 0 h.ks)) := by unfold freeR; rw [hz]; rfl
    rw [e]
    clear e
    unfold zBad at hz
    simp only [Bool.or_eq_false_iff, Bool.and_eq_false_iff, decide_eq_false_iff_not] at hz
    obtain ⟨⟨⟨⟨⟨z1, z2⟩, z3⟩, z4⟩, z5⟩, z6⟩ := hz
    repeat' (first | refine wk3 ?_ | (refine wk2 ?_ ?_ <;> intro _) | refine wk4 ?_ | fail); all_goals (conv => whnf)
    all_goals try (exfalso; clear hk; simp_all; done)
    all_goals
      clear z1 z2 z3 z4 z5 z6
      have l3 := wa_length h.ws
      have l4 := ca_length h.ks
      have f3 := g.ok.f.2.2.1
      have f4 := g.ok.f.2.2.2.1
      have hwc := g.fine.le.2.2.1
      refine loopV (S := Nat × Int) (fun t => h.ws.length - t.1) (fun t => [(3, .ptr 0 0 0), (4, .ptr 1 0 0), (6, Bo false), (7, .ptr 7 0 0), (8, .ptr 8 0 0), (9, I t.2)]) (fun _ => [(8, .row 4 [[I q.x, I q.y, I q.z, I q.d]] true false), (7, .row 4 [[I p.x, I p.y, I p.z, I p.d]] true false), (1, .row 2 [s.cells] true false), (0, .row 9 [h.cells] true false)]) 20 20 (fun t => t.2 = t.1 ∧ t.1 ≤ h.ws.length ∧ wlA h.cs p q t.1 (h.ws.length - t.1) = wlA h.cs p q 0 h.ws.length) (0, 0) ⟨rfl, Nat.zero_le _, rfl⟩ (Nat.le_of_ble_eq_true rfl) [] rfl (kps) (kps) ?_
      rintro ⟨k, i⟩ ⟨hi, hkk, hh⟩
      dsimp only at hi hkk hh ⊢
      subst hi
      refine bs.av (sx := nos) hk ?_
      by_cases hlt : k < h.ws.length
      · have e : h.ws.length - k = (h.ws.length - (k + 1)) + 1 := by omega
        rw [e, wlA] at hh
        have hl := lines_hit (h := h) (k := k) (by omega)
        have hb := onWs_hit (h := h) (p := p) (q := q) (k := k) (by omega)
        generalize onWallR (lnOf h.cs k) p q = b at *
        cases b with
        | true =>
          rw [← hh]
          repeat' (first | refine wk3 ?_ | (refine wk2 ?_ ?_ <;> intro _) | refine wk4 ?_ | fail); all_goals (conv => whnf)
          exact ret_bool rfl
        | false =>
          rw [Bool.false_or] at hh
          repeat' (first | refine wk3 ?_ | (refine wk2 ?_ ?_ <;> intro _) | refine wk4 ?_ | fail); all_goals (conv => whnf)
          exact Done.mk ⟨(k + 1, _), [], rfl, kps, kps, ⟨W_succ (by omega), hlt, hh⟩, by dsimp only; omega⟩
      · rw [show h.ws.length - k = 0 by omega, wlA] at hh
        rw [← hh]
        have hm : midR p q = ⟨midX p q, midY p q, 0, midD p q⟩ := rfl
        cases hin : inPlanR h (midR p q) with
        | false =>
          unfold kF7
          rw [hin]
          repeat' (first | refine wk3 ?_ | (refine wk2 ?_ ?_ <;> intro _) | refine wk4 ?_ | fail); all_goals (conv => whnf)
          all_goals first
            | exact ret_bool rfl
            | (exfalso; simp_all; done)
        | true =>
          unfold kF7
          rw [hin]
          repeat' (first | refine wk3 ?_ | (refine wk2 ?_ ?_ <;> intro _) | refine wk4 ?_ | fail); all_goals (conv => whnf)
          refine loopV (S := Nat × Int) (fun t => h.ks.length - t.1) (fun t => [(3, .ptr 0 0 0), (4, .ptr 1 0 0), (6, Bo false), (7, .ptr 7 0 0), (8, .ptr 8 0 0), (10, I t.2)]) (fun _ => [(8, .row 4 [[I q.x, I q.y, I q.z, I q.d]] true false), (7, .row 4 [[I p.x, I p.y, I p.z, I p.d]] true false), (1, .row 2 [s.cells] true false), (0, .row 9 [h.cells] true false)]) 40 40 (fun t => t.2 = t.1 ∧ t.1 ≤ h.ks.length ∧ blkB h s p q t.1 (h.ks.drop t.1) = blkB h s p q 0 h.ks) (0, 0) ⟨rfl, Nat.zero_le _, rfl⟩ (Nat.le_of_ble_eq_true rfl) [] rfl (kps) (kps) ?_
          clear hh hlt hkk
          rintro ⟨k, i⟩ ⟨hi, hkk, hh⟩
          dsimp only at hi hkk hh ⊢
          subst hi
          refine bs.av (sx := nos) hk ?_
          by_cases hlt : k < h.ks.length
          · rw [List.drop_eq_getElem_cons hlt, blkB] at hh
            have e1 := ca_get hlt
            have hl := hgts_hit (s := s) hlt
            have hb := onCs_hit (p := p) (q := q) (s := s) hlt
            generalize blkR h.ks[k].rc (hgtAt h s k) p q = b at *
            cases b with
            | true =>
              rw [← hh]
              repeat' (first | refine wk3 ?_ | (refine wk2 ?_ ?_ <;> intro _) | refine wk4 ?_ | fail); all_goals (conv => whnf)
              exact ret_bool rfl
            | false =>
              rw [Bool.false_or] at hh
              repeat' (first | refine wk3 ?_ | (refine wk2 ?_ ?_ <;> intro _) | refine wk4 ?_ | fail); all_goals (conv => whnf)
              exact Done.mk ⟨(k + 1, _), [], rfl, kps, kps, ⟨W_succ (by omega), hlt, hh⟩, by dsimp only; omega⟩
          · rw [List.drop_of_length_le (by omega), blkB] at hh
            rw [← hh]
            repeat' (first | refine wk3 ?_ | (refine wk2 ?_ ?_ <;> intro _) | refine wk4 ?_ | fail); all_goals (conv => whnf)
            exact ret_bool rfl
end Go.Proofs.YtjpmeaagnhojgaaGreat
