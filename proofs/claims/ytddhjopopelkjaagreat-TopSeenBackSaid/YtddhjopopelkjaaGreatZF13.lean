/- A part of the proof: lemmas. -/
import Derived.Test.YtddhjopopelkjaaGreatZF12
set_option linter.unusedVariables false
set_option linter.unusedSimpArgs false
namespace Go.Proofs.YtddhjopopelkjaaGreat
open Go Go.Sx

def ptEq (p q : Pt) : Bool := decide (p.x = q.x) && decide (p.y = q.y) && decide (p.z = q.z) && decide (p.d = q.d)
def wayE (h : Hal) (s : Stg) (p q : Pt) : Int := if serr h s = 0 then (if ptErr p = 0 then (if ptErr q = 0 then (if ptEq p q then 11 else 0) else ptErr q) else ptErr p) else serr h s
noncomputable abbrev ptEs : List AV → Option PRes := famA (fun p : Pt => p.wf) (fun p => [p.av]) (fun p => ⟨I (ptErr p), []⟩)
theorem ptEs_hit {p : Pt} (h : p.wf) : ptEs [p.av] = some ⟨I (ptErr p), []⟩ :=
  famA_hit (p := fun p : Pt => p.wf) (g := fun p => [p.av]) (r := fun p => ⟨I (ptErr p), []⟩) (fun j hj => by
    obtain ⟨a, b, c, d⟩ := j
    obtain ⟨a', b', c', d'⟩ := p
    simp only [List.cons.injEq, AV.agg.injEq, AV.int.injEq, true_and, and_true] at hj
    obtain ⟨rfl, rfl, rfl, rfl⟩ := hj
    rfl) h
end Go.Proofs.YtddhjopopelkjaaGreat
