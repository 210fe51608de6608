/- A part of the proof: lemmas. -/
import Derived.Test.YtdaliaafmcjikaaGreatZw11
import Derived.Test.YtdaliaafmcjikaaGreatSxFlt2
import Derived.Test.YtdaliaafmcjikaaGreatSxFn2
import Derived.Test.YtdaliaafmcjikaaGreatSxFzK
set_option linter.unusedVariables false
set_option linter.unusedSimpArgs false
namespace Go.Proofs.YtdaliaafmcjikaaGreat
open Go Go.Sx
abbrev kV0 : PC := k78
theorem kV0_ok : PCOK Tryz.prog kV0 := k78_ok
end Go.Proofs.YtdaliaafmcjikaaGreat
