/- A part of the proof: lemmas. -/
import Derived.Test.YtmbgehpcjihfpaaAL7
set_option linter.unusedVariables false
set_option linter.unusedSimpArgs false
namespace Go.Proofs.Ytmbgehpcjihfpaa
open Go Go.Sx
/-! ### What comes to a seat -/
def Sp.ok (s : Sp) : Prop := s.p.ok ∧ (0 ≤ s.g ∧ s.g ≤ 1000) ∧ 0 ≤ s.d ∧ s.d ≤ 10000
structure OkA (r v : Int) (ls : List Sp) : Prop where
  so : SoOk r v
  n0 : 0 < ls.length
  n8 : ls.length ≤ 8
  sp : ∀ s ∈ ls, s.ok
theorem unl_zero {b : Bool} {e : Int} (he : e ≠ 0) : unl b e = 0 ↔ b = true := by cases b <;> simp [unl, he]
theorem fst_zero {l : List Int} : fst l = 0 ↔ ∀ e ∈ l, e = 0 := by
  induction l with
  | nil => simp [fst]
  | cons a l ih =>
    rw [fst]
    by_cases h : a = 0
    · simp [h, ih]
    · simp [h]
theorem spE_zero {s : Sp} : spE s = 0 ↔ s.ok := by
  unfold spE Sp.ok
  rw [fst_zero]
  simp only [List.mem_cons, List.not_mem_nil, or_false, forall_eq_or_imp, forall_eq]
  rw [unl_zero (by decide), unl_zero (by decide), Pl.ok_iff, Bool.and_eq_true, within_iff, within_iff]
theorem goC_zero {l : List Sp} : ∀ {i : Nat}, (goC i l).2 = 0 ↔ ∀ s ∈ l, s.ok := by
  induction l with
  | nil => intro i; simp [goC]
  | cons a l ih =>
    intro i
    rw [goC]
    by_cases h : spE a = 0
    · rw [if_neg (fun c => c h), ih]
      simp [spE_zero.1 h]
    · rw [if_pos h]
      simp only [h, false_iff]
      intro c
      exact h (spE_zero.2 (c a (by simp)))
theorem chkA_zero {r v : Int} {ls : List Sp} : (chkA r v ls).2 = 0 ↔ OkA r v ls := by
  have hH : headE r v (ls.map sv).length = 0 ↔ SoOk r v ∧ 0 < ls.length ∧ ls.length ≤ 8 := by
    unfold headE soE SoOk
    rw [fst_zero]
    simp only [List.mem_cons, List.not_mem_nil, or_false, forall_eq_or_imp, forall_eq]
    rw [unl_zero (by decide), unl_zero (by decide), unl_zero (by decide), Bool.and_eq_true, within_iff, within_iff, decide_eq_true_eq, decide_eq_true_eq, sv_length]
    omega
  unfold chkA
  by_cases h : headE r v (ls.map sv).length = 0
  · rw [if_neg (fun c => c h), goC_zero]
    obtain ⟨a, b, c⟩ := hH.1 h
    exact ⟨fun d => ⟨a, b, c, d⟩, fun d => d.sp⟩
  · rw [if_pos h]
    dsimp only
    exact ⟨fun c => absurd c h, fun c => absurd (hH.2 ⟨c.so, c.n0, c.n8⟩) h⟩
def OkS (p : Pl) (ls : List Sp) : Prop := p.ok ∧ ∀ s ∈ ls, nr p s = false
theorem seE_zero {p : Pl} {ls : List Sp} : seE p ls = 0 ↔ OkS p ls := by
  unfold seE OkS
  rw [fst_zero]
  simp only [List.mem_cons, List.not_mem_nil, or_false, forall_eq_or_imp, forall_eq]
  rw [unl_zero (by decide), unl_zero (by decide), Pl.ok_iff]
  simp
theorem OkS.far {r v : Int} {p : Pl} {ls : List Sp} (h : OkS p ls) (ha : OkA r v ls) {s : Sp} (hs : s ∈ ls) : Wf (s.p, p) := by
  have h1 := h.2 s hs
  have h2 := (ha.sp s hs).1
  refine ⟨⟨h2, h.1⟩, ?_⟩
  dsimp only
  unfold nr at h1
  rw [sqW_eq h2 h.1] at h1
  simp only [decide_eq_false_iff_not] at h1
  omega
noncomputable abbrev rayV (r v : Int) (p : Pl) (s : Sp) : List AV := [I s.p.x, I s.p.y, I s.p.z, I s.g, I s.d, I (sLo s.p p), I (sHi s.p p), I (nLo r v s.p p), I (nHi r v s.p p)]
noncomputable def opE (r v : Int) (p : Pl) (ls : List Sp) : Int := if (chkA r v ls).2 ≠ 0 then (chkA r v ls).2 else seE p ls
noncomputable def opV (r v : Int) (p : Pl) (ls : List Sp) : List (List AV) := if opE r v p ls = 0 then ls.map (rayV r v p) else []
abbrev FewS (q : (Int × Int × List Sp) × Pl) : Prop := q.1.2.2.length < 100000
noncomputable abbrev famRP (p : (Int × Int × List Sp) × Pl → Prop) (r : (Int × Int × List Sp) × Pl → PRes) : List AV → Option PRes := famA p (fun q => [arr q.1.1 q.1.2.1 q.1.2.2, q.2.av]) r
theorem famRP_hit {pp : (Int × Int × List Sp) × Pl → Prop} (rr : (Int × Int × List Sp) × Pl → PRes) {a b : Int} {ls : List Sp} {p : Pl} (h : pp ((a, b, ls), p)) : famRP pp rr [arr a b ls, p.av] = some (rr ((a, b, ls), p)) :=
  famA_hit (p := pp) (g := fun q => [arr q.1.1 q.1.2.1 q.1.2.2, q.2.av]) (r := rr) (k := ((a, b, ls), p)) (fun j hj => by
    obtain ⟨q, x, y, z⟩ := j
    obtain ⟨px, py, pz⟩ := p
    obtain ⟨h1, h2⟩ := List.cons.inj hj
    have hq : q = (a, b, ls) := arr_inj (q' := (a, b, ls)) h1
    simp only [Pl.av, List.cons.injEq, AV.agg.injEq, AV.int.injEq, true_and, and_true] at h2
    obtain ⟨rfl, rfl, rfl⟩ := h2
    subst hq
    rfl) h
noncomputable abbrev famWS (p : (Pl × Pl) × Int × Int → Prop) (r : (Pl × Pl) × Int × Int → PRes) : List AV → Option PRes := famA p (fun q => [wav q.1.1 q.1.2, P2 q.2.1 q.2.2]) r
theorem famWS_hit {pp : (Pl × Pl) × Int × Int → Prop} (rr : (Pl × Pl) × Int × Int → PRes) {a b : Pl} {r v : Int} (h : pp ((a, b), r, v)) : famWS pp rr [wav a b, P2 r v] = some (rr ((a, b), r, v)) :=
  famA_hit (p := pp) (g := fun q => [wav q.1.1 q.1.2, P2 q.2.1 q.2.2]) (r := rr) (k := ((a, b), r, v)) (fun j hj => by
    obtain ⟨q, x, y⟩ := j
    obtain ⟨h1, h2⟩ := List.cons.inj hj
    have hq : q = (a, b) := wav_inj (q := q) (q' := (a, b)) (congrArg (fun x => [x]) h1)
    simp only [List.cons.injEq, AV.agg.injEq, AV.int.injEq, true_and, and_true] at h2
    obtain ⟨rfl, rfl⟩ := h2
    subst hq
    rfl) h
noncomputable def kB3 : PC := ins 21 (famR Few fun q => ⟨I (chkA q.1 q.2.1 q.2.2).2, []⟩) (ins 22 (famRP FewS fun q => ⟨I (seE q.2 q.1.2.2), []⟩) (ins 23 (famW Wf fun q => ⟨P2 (sLo q.1 q.2) (sHi q.1 q.2), []⟩) (ins 24 (famWS (fun q => SoOk q.2.1 q.2.2 ∧ Wp q.1) fun q => ⟨P2 (nLo q.2.1 q.2.2 q.1.1 q.1.2) (nHi q.2.1 q.2.2 q.1.1 q.1.2), []⟩) (ins 25 r25 pt0))))
theorem kB3_ok : PCOK Try.prog kB3 := famA_ok (fun q h => e21 h) (famA_ok (fun q h => e22 q.2 h) (famA_ok (fun q h => e23 h) (famA_ok (fun q h => e24 h.1 h.2) (ins_ok (fun a res h => by unfold r25 at h; split at h <;> cases h; exact e25 _ _ _) pt0_ok))))
theorem ray_take {r v : Int} {p : Pl} {ls : List Sp} {k : Nat} (h : k < ls.length) : (ls.take (k + 1)).map (rayV r v p) = (ls.take k).map (rayV r v p) ++ [rayV r v p ls[k]] := by
  rw [List.take_succ_eq_append_getElem h, List.map_append]; rfl
end Go.Proofs.Ytmbgehpcjihfpaa
