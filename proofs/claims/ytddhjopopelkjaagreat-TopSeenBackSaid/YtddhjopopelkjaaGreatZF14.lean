/- A part of the proof: lemmas. -/
import Derived.Test.YtddhjopopelkjaaGreatZF11
import Derived.Test.YtddhjopopelkjaaGreatZF12
set_option linter.unusedVariables false
set_option linter.unusedSimpArgs false
namespace Go.Proofs.YtddhjopopelkjaaGreat
open Go Go.Sx

/-! ### The reference: whether a way is free -/
def wlA (cs : List (Int × Int)) (p q : Pt) : Nat → Nat → Bool
  | _, 0 => false
  | k, n + 1 => onWallR (lnOf cs k) p q || wlA cs p q (k + 1) n
def blkB (h : Hal) (s : Stg) (p q : Pt) : Nat → List Can → Bool
  | _, [] => false
  | j, c :: l => blkR c.rc (hgtAt h s j) p q || blkB h s p q (j + 1) l
def midR (p q : Pt) : Pt := ⟨midX p q, midY p q, 0, midD p q⟩
def freeR (h : Hal) (s : Stg) (p q : Pt) : Bool := !zBad h p q && (!wlA h.cs p q 0 h.ws.length && (inPlanR h (midR p q) && !blkB h s p q 0 h.ks))
noncomputable abbrev onWs (h : Hal) (p q : Pt) : List AV → Option PRes := famA (fun k : Nat => k < h.cs.length) (fun k => [(lnOf h.cs k).av, p.av, q.av]) (fun k => ⟨Bo (onWallR (lnOf h.cs k) p q), []⟩)
theorem onWs_hit {h : Hal} {p q : Pt} {k : Nat} (hk : k < h.cs.length) : onWs h p q [(lnOf h.cs k).av, p.av, q.av] = some ⟨Bo (onWallR (lnOf h.cs k) p q), []⟩ :=
  famA_hit (p := fun k : Nat => k < h.cs.length) (g := fun k => [(lnOf h.cs k).av, p.av, q.av]) (r := fun k => ⟨Bo (onWallR (lnOf h.cs k) p q), []⟩) (k := k) (fun j hj => by
    have e : lnOf h.cs j = lnOf h.cs k := by
      simp only [List.cons.injEq, AV.agg.injEq, AV.int.injEq, true_and, and_true] at hj
      generalize lnOf h.cs j = a at *
      generalize lnOf h.cs k = b at *
      obtain ⟨a1, a2, a3, a4⟩ := a
      obtain ⟨b1, b2, b3, b4⟩ := b
      simp_all
    rw [e]) hk
noncomputable abbrev onCs (h : Hal) (s : Stg) (p q : Pt) : List AV → Option PRes := famA (fun j : Nat => j < h.ks.length) (fun j => [.agg (Can.av ((h.ks[j]?).getD ⟨⟨#[]⟩, ⟨#[]⟩, 0, 0, 0, 0, []⟩)), I (hgtAt h s j), p.av, q.av]) (fun j => ⟨Bo (blkR ((h.ks[j]?).getD ⟨⟨#[]⟩, ⟨#[]⟩, 0, 0, 0, 0, []⟩).rc (hgtAt h s j) p q), []⟩)
theorem onCs_hit {h : Hal} {s : Stg} {p q : Pt} {j : Nat} (hj : j < h.ks.length) : onCs h s p q [.agg (Can.av h.ks[j]), I (hgtAt h s j), p.av, q.av] = some ⟨Bo (blkR h.ks[j].rc (hgtAt h s j) p q), []⟩ := by
  have := famA_hit (p := fun j : Nat => j < h.ks.length) (g := fun j => [.agg (Can.av ((h.ks[j]?).getD ⟨⟨#[]⟩, ⟨#[]⟩, 0, 0, 0, 0, []⟩)), I (hgtAt h s j), p.av, q.av]) (r := fun j => ⟨Bo (blkR ((h.ks[j]?).getD ⟨⟨#[]⟩, ⟨#[]⟩, 0, 0, 0, 0, []⟩).rc (hgtAt h s j) p q), []⟩) (k := j) (fun i hi => by
    simp only [List.cons.injEq, AV.agg.injEq, AV.int.injEq, true_and, and_true] at hi
    generalize ((h.ks[i]?).getD ⟨⟨#[]⟩, ⟨#[]⟩, 0, 0, 0, 0, []⟩ : Can) = a at *
    generalize ((h.ks[j]?).getD ⟨⟨#[]⟩, ⟨#[]⟩, 0, 0, 0, 0, []⟩ : Can) = b at *
    obtain ⟨a1, a2, a3, a4, a5, a6, a7⟩ := a
    obtain ⟨b1, b2, b3, b4, b5, b6, b7⟩ := b
    obtain ⟨⟨_, _, h3, h4, h5, h6, _⟩, h7⟩ := hi
    simp only at h3 h4 h5 h6
    subst h3 h4 h5 h6
    rw [h7]) hj
  rw [List.getElem?_eq_getElem hj] at this
  exact this
noncomputable abbrev hgts (h : Hal) (s : Stg) : List AV → Option PRes := famA (fun j : Nat => j < h.ks.length) (fun j => [h.av, s.av, I j]) (fun j => ⟨I (hgtAt h s j), []⟩)
theorem hgts_hit {h : Hal} {s : Stg} {j : Nat} (hj : j < h.ks.length) : hgts h s [h.av, s.av, I j] = some ⟨I (hgtAt h s j), []⟩ :=
  famA_hit (p := fun j : Nat => j < h.ks.length) (g := fun j : Nat => [h.av, s.av, I j]) (r := fun j => ⟨I (hgtAt h s j), []⟩) (k := j) (fun i hi => by
    simp only [List.cons.injEq, AV.int.injEq, true_and, and_true] at hi
    have : i = j := by omega
    subst this; rfl) hj
end Go.Proofs.YtddhjopopelkjaaGreat
