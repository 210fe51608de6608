/- A part of the proof: lemmas. -/
import Derived.Test.YtddhjopopelkjaaGreatZF10
set_option linter.unusedVariables false
set_option linter.unusedSimpArgs false
namespace Go.Proofs.YtddhjopopelkjaaGreat
open Go Go.Sx

theorem sg_bd (a b : Int) : -1 ≤ sgn a * sgn b ∧ sgn a * sgn b ≤ 1 := by
  have := mul_bd (A := 1) (B := 1) (sgn_bd a) (sgn_bd b); omega
end Go.Proofs.YtddhjopopelkjaaGreat
