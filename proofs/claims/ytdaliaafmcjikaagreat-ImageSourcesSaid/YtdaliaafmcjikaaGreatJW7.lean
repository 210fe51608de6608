/- A part of the proof: lemmas. -/
import Derived.Test.YtdaliaafmcjikaaGreatJP3
set_option linter.unusedVariables false
set_option linter.unusedSimpArgs false
namespace Go.Proofs.YtdaliaafmcjikaaGreat
open Go Go.Sx
def tysD : List TypeId := [42, 40, 59, 87, 29, 3]
theorem tysDOK : tysD.all (suppT (tget tbl) tysD) = true := by kernel_rfl
end Go.Proofs.YtdaliaafmcjikaaGreat
