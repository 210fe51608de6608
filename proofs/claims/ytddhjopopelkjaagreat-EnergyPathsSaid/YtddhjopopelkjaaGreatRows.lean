/-
  No cell of these rows narrows 'for every input' (looked for: loops, veiled, ifaces, maps, wideKeys, modest, calm, conditions, laid).
  DERIVED. THE GIVEN ROWS OF THIS SEAT. 13 by the template 'for every input the law returns true; each argument reads behind the call as it read before'; 0 by the template 'total and deterministic' (their statements: YtddhjopopelkjaaGreatTotals.lean).
  GIVEN WITH THE SEED: the statements are not yours to turn. If you find one false, say at which input.
  Laid BY PROGRAM, IN A SANDBOX (cutbox-rows.mjs): the forced cells as the released guide's own fill.sh prints them over the translation 6e57b011b0eae8c9… (all of the seat's roots in one cut). By AI agents, Wed Nov 11 2026. No macro, syntax, notation, axiom, sorry.
-/
import Derived.Test.YtddhjopopelkjaaGreatChecked
import GoSem.Claim
import GoSem.ClaimJoined
import GoSem.ClaimMapViews
import Derived.JoinedTies
import Derived.KernelRfl
namespace Go.Proofs.YtddhjopopelkjaaGreat
/- THE CELL 'sum', in the pinned program and in every row, IS THE sha256 OF THE DUMP (.gsa) THAT YtddhjopopelkjaaGreatProg.lean LOADS. Nothing in Lean hashes anything: it is a label: what it is worth is what the hold of that sum in a sandbox is worth. -/
noncomputable def Tryz.pinned : Pinned := { name := "ytddhjopopelkjaagreat", sum := "6e57b011b0eae8c99b8fa04ef30a4007792a475e0e045ee18e5121221d2fa7f7", checked := Tryz.checked }
namespace Rows
def none {H : Type} : Left H := { results := [], args := [] }

/-- 'shoeboxlaw03.EnergyPaths': WHATEVER THE INPUT: true; the input reads as it did. -/
def energyPathsSpec : ChangeSpec := { name := "energyPaths", fn := fun _ => fun
  | [d1, d2, d3] => { results := [.lit (.bool true)], args := [d1, d2, d3] }
  | _ => none }
def energyPathsRow : OpenClaim := { program := "ytddhjopopelkjaagreat", sum := "6e57b011b0eae8c99b8fa04ef30a4007792a475e0e045ee18e5121221d2fa7f7", func := "shoebox/shoeboxlaw03.EnergyPaths", spec := "energyPaths", inPlace := ["math.sqrt", "internal/abi.NoEscape", "internal/bytealg.MakeNoZero"], unfollowed := true, recurses := true, apart := false }
def EnergyPathsSaid : Prop := energyPathsRow.holds Tryz.pinned (OpenSpec.ofChange energyPathsSpec)

/-- ITS FALSE NEIGHBOUR: 'it returns false'. Refute it at one input. -/
def energyPathsWrong : ChangeSpec := { name := "energyPaths", fn := fun _ => fun
  | [d1, d2, d3] => { results := [.lit (.bool false)], args := [d1, d2, d3] }
  | _ => none }
def EnergyPathsWrongFalsely : Prop := energyPathsRow.holds Tryz.pinned (OpenSpec.ofChange energyPathsWrong)

/-- 'shoeboxlaw03.EnergySteps': WHATEVER THE INPUT: true; the input reads as it did. -/
def energyStepsSpec : ChangeSpec := { name := "energySteps", fn := fun _ => fun
  | [d1, d2, d3] => { results := [.lit (.bool true)], args := [d1, d2, d3] }
  | _ => none }
def energyStepsRow : OpenClaim := { program := "ytddhjopopelkjaagreat", sum := "6e57b011b0eae8c99b8fa04ef30a4007792a475e0e045ee18e5121221d2fa7f7", func := "shoebox/shoeboxlaw03.EnergySteps", spec := "energySteps", inPlace := ["math.sqrt", "internal/abi.NoEscape", "internal/bytealg.MakeNoZero"], unfollowed := true, recurses := true, apart := false }
def EnergyStepsSaid : Prop := energyStepsRow.holds Tryz.pinned (OpenSpec.ofChange energyStepsSpec)

/-- ITS FALSE NEIGHBOUR: 'it returns false'. Refute it at one input. -/
def energyStepsWrong : ChangeSpec := { name := "energySteps", fn := fun _ => fun
  | [d1, d2, d3] => { results := [.lit (.bool false)], args := [d1, d2, d3] }
  | _ => none }
def EnergyStepsWrongFalsely : Prop := energyStepsRow.holds Tryz.pinned (OpenSpec.ofChange energyStepsWrong)

/-- 'shoeboxlaw03.EnergyKept': WHATEVER THE INPUT: true; the input reads as it did. -/
def energyKeptSpec : ChangeSpec := { name := "energyKept", fn := fun _ => fun
  | [d1, d2, d3] => { results := [.lit (.bool true)], args := [d1, d2, d3] }
  | _ => none }
def energyKeptRow : OpenClaim := { program := "ytddhjopopelkjaagreat", sum := "6e57b011b0eae8c99b8fa04ef30a4007792a475e0e045ee18e5121221d2fa7f7", func := "shoebox/shoeboxlaw03.EnergyKept", spec := "energyKept", inPlace := ["math.sqrt", "internal/abi.NoEscape", "internal/bytealg.MakeNoZero"], unfollowed := true, recurses := true, apart := false }
def EnergyKeptSaid : Prop := energyKeptRow.holds Tryz.pinned (OpenSpec.ofChange energyKeptSpec)

/-- ITS FALSE NEIGHBOUR: 'it returns false'. Refute it at one input. -/
def energyKeptWrong : ChangeSpec := { name := "energyKept", fn := fun _ => fun
  | [d1, d2, d3] => { results := [.lit (.bool false)], args := [d1, d2, d3] }
  | _ => none }
def EnergyKeptWrongFalsely : Prop := energyKeptRow.holds Tryz.pinned (OpenSpec.ofChange energyKeptWrong)

/-- 'shoeboxlaw03.EnergyReciprocals': WHATEVER THE INPUT: true; the input reads as it did. -/
def energyReciprocalsSpec : ChangeSpec := { name := "energyReciprocals", fn := fun _ => fun
  | [d1, d2] => { results := [.lit (.bool true)], args := [d1, d2] }
  | _ => none }
def energyReciprocalsRow : OpenClaim := { program := "ytddhjopopelkjaagreat", sum := "6e57b011b0eae8c99b8fa04ef30a4007792a475e0e045ee18e5121221d2fa7f7", func := "shoebox/shoeboxlaw03.EnergyReciprocals", spec := "energyReciprocals", inPlace := ["math.sqrt", "internal/abi.NoEscape", "internal/bytealg.MakeNoZero"], unfollowed := true, recurses := true, apart := false }
def EnergyReciprocalsSaid : Prop := energyReciprocalsRow.holds Tryz.pinned (OpenSpec.ofChange energyReciprocalsSpec)

/-- ITS FALSE NEIGHBOUR: 'it returns false'. Refute it at one input. -/
def energyReciprocalsWrong : ChangeSpec := { name := "energyReciprocals", fn := fun _ => fun
  | [d1, d2] => { results := [.lit (.bool false)], args := [d1, d2] }
  | _ => none }
def EnergyReciprocalsWrongFalsely : Prop := energyReciprocalsRow.holds Tryz.pinned (OpenSpec.ofChange energyReciprocalsWrong)

/-- 'shoeboxtop.TopMirrorsBack': WHATEVER THE INPUT: true; the input reads as it did. -/
def topMirrorsBackSpec : ChangeSpec := { name := "topMirrorsBack", fn := fun _ => fun
  | [d1, d2, d3] => { results := [.lit (.bool true)], args := [d1, d2, d3] }
  | _ => none }
def topMirrorsBackRow : OpenClaim := { program := "ytddhjopopelkjaagreat", sum := "6e57b011b0eae8c99b8fa04ef30a4007792a475e0e045ee18e5121221d2fa7f7", func := "shoebox/shoeboxtop.TopMirrorsBack", spec := "topMirrorsBack", unfollowed := true, recurses := true, apart := false }
def TopMirrorsBackSaid : Prop := topMirrorsBackRow.holds Tryz.pinned (OpenSpec.ofChange topMirrorsBackSpec)

/-- ITS FALSE NEIGHBOUR: 'it returns false'. Refute it at one input. -/
def topMirrorsBackWrong : ChangeSpec := { name := "topMirrorsBack", fn := fun _ => fun
  | [d1, d2, d3] => { results := [.lit (.bool false)], args := [d1, d2, d3] }
  | _ => none }
def TopMirrorsBackWrongFalsely : Prop := topMirrorsBackRow.holds Tryz.pinned (OpenSpec.ofChange topMirrorsBackWrong)

/-- 'shoeboxlaw03.EnergyArrives': WHATEVER THE INPUT: true; the input reads as it did. -/
def energyArrivesSpec : ChangeSpec := { name := "energyArrives", fn := fun _ => fun
  | [d1, d2, d3] => { results := [.lit (.bool true)], args := [d1, d2, d3] }
  | _ => none }
def energyArrivesRow : OpenClaim := { program := "ytddhjopopelkjaagreat", sum := "6e57b011b0eae8c99b8fa04ef30a4007792a475e0e045ee18e5121221d2fa7f7", func := "shoebox/shoeboxlaw03.EnergyArrives", spec := "energyArrives", inPlace := ["math.sqrt", "internal/abi.NoEscape", "internal/bytealg.MakeNoZero"], unfollowed := true, recurses := true, apart := false }
def EnergyArrivesSaid : Prop := energyArrivesRow.holds Tryz.pinned (OpenSpec.ofChange energyArrivesSpec)

/-- ITS FALSE NEIGHBOUR: 'it returns false'. Refute it at one input. -/
def energyArrivesWrong : ChangeSpec := { name := "energyArrives", fn := fun _ => fun
  | [d1, d2, d3] => { results := [.lit (.bool false)], args := [d1, d2, d3] }
  | _ => none }
def EnergyArrivesWrongFalsely : Prop := energyArrivesRow.holds Tryz.pinned (OpenSpec.ofChange energyArrivesWrong)

/-- 'shoeboxlaw03.EnergyGrows': WHATEVER THE INPUT: true; the input reads as it did. -/
def energyGrowsSpec : ChangeSpec := { name := "energyGrows", fn := fun _ => fun
  | [d1, d2, d3] => { results := [.lit (.bool true)], args := [d1, d2, d3] }
  | _ => none }
def energyGrowsRow : OpenClaim := { program := "ytddhjopopelkjaagreat", sum := "6e57b011b0eae8c99b8fa04ef30a4007792a475e0e045ee18e5121221d2fa7f7", func := "shoebox/shoeboxlaw03.EnergyGrows", spec := "energyGrows", inPlace := ["math.sqrt", "internal/abi.NoEscape", "internal/bytealg.MakeNoZero"], unfollowed := true, recurses := true, apart := false }
def EnergyGrowsSaid : Prop := energyGrowsRow.holds Tryz.pinned (OpenSpec.ofChange energyGrowsSpec)

/-- ITS FALSE NEIGHBOUR: 'it returns false'. Refute it at one input. -/
def energyGrowsWrong : ChangeSpec := { name := "energyGrows", fn := fun _ => fun
  | [d1, d2, d3] => { results := [.lit (.bool false)], args := [d1, d2, d3] }
  | _ => none }
def EnergyGrowsWrongFalsely : Prop := energyGrowsRow.holds Tryz.pinned (OpenSpec.ofChange energyGrowsWrong)

/-- 'shoeboxlaw03.EnergyBounded': WHATEVER THE INPUT: true; the input reads as it did. -/
def energyBoundedSpec : ChangeSpec := { name := "energyBounded", fn := fun _ => fun
  | [d1, d2, d3] => { results := [.lit (.bool true)], args := [d1, d2, d3] }
  | _ => none }
def energyBoundedRow : OpenClaim := { program := "ytddhjopopelkjaagreat", sum := "6e57b011b0eae8c99b8fa04ef30a4007792a475e0e045ee18e5121221d2fa7f7", func := "shoebox/shoeboxlaw03.EnergyBounded", spec := "energyBounded", inPlace := ["math.sqrt", "internal/abi.NoEscape", "internal/bytealg.MakeNoZero"], unfollowed := true, recurses := true, apart := false }
def EnergyBoundedSaid : Prop := energyBoundedRow.holds Tryz.pinned (OpenSpec.ofChange energyBoundedSpec)

/-- ITS FALSE NEIGHBOUR: 'it returns false'. Refute it at one input. -/
def energyBoundedWrong : ChangeSpec := { name := "energyBounded", fn := fun _ => fun
  | [d1, d2, d3] => { results := [.lit (.bool false)], args := [d1, d2, d3] }
  | _ => none }
def EnergyBoundedWrongFalsely : Prop := energyBoundedRow.holds Tryz.pinned (OpenSpec.ofChange energyBoundedWrong)

/-- 'shoeboxlaw03.EnergyDecays': WHATEVER THE INPUT: true; the input reads as it did. -/
def energyDecaysSpec : ChangeSpec := { name := "energyDecays", fn := fun _ => fun
  | [d1, d2, d3] => { results := [.lit (.bool true)], args := [d1, d2, d3] }
  | _ => none }
def energyDecaysRow : OpenClaim := { program := "ytddhjopopelkjaagreat", sum := "6e57b011b0eae8c99b8fa04ef30a4007792a475e0e045ee18e5121221d2fa7f7", func := "shoebox/shoeboxlaw03.EnergyDecays", spec := "energyDecays", inPlace := ["math.sqrt", "internal/abi.NoEscape", "internal/bytealg.MakeNoZero"], unfollowed := true, recurses := true, apart := false }
def EnergyDecaysSaid : Prop := energyDecaysRow.holds Tryz.pinned (OpenSpec.ofChange energyDecaysSpec)

/-- ITS FALSE NEIGHBOUR: 'it returns false'. Refute it at one input. -/
def energyDecaysWrong : ChangeSpec := { name := "energyDecays", fn := fun _ => fun
  | [d1, d2, d3] => { results := [.lit (.bool false)], args := [d1, d2, d3] }
  | _ => none }
def EnergyDecaysWrongFalsely : Prop := energyDecaysRow.holds Tryz.pinned (OpenSpec.ofChange energyDecaysWrong)

/-- 'shoeboxlaw03.EnergySurfaces': WHATEVER THE INPUT: true; the input reads as it did. -/
def energySurfacesSpec : ChangeSpec := { name := "energySurfaces", fn := fun _ => fun
  | [d] => { results := [.lit (.bool true)], args := [d] }
  | _ => none }
def energySurfacesRow : OpenClaim := { program := "ytddhjopopelkjaagreat", sum := "6e57b011b0eae8c99b8fa04ef30a4007792a475e0e045ee18e5121221d2fa7f7", func := "shoebox/shoeboxlaw03.EnergySurfaces", spec := "energySurfaces", inPlace := ["math.sqrt", "internal/abi.NoEscape", "internal/bytealg.MakeNoZero"], unfollowed := true, recurses := true, apart := false }
def EnergySurfacesSaid : Prop := energySurfacesRow.holds Tryz.pinned (OpenSpec.ofChange energySurfacesSpec)

/-- ITS FALSE NEIGHBOUR: 'it returns false'. Refute it at one input. -/
def energySurfacesWrong : ChangeSpec := { name := "energySurfaces", fn := fun _ => fun
  | [d] => { results := [.lit (.bool false)], args := [d] }
  | _ => none }
def EnergySurfacesWrongFalsely : Prop := energySurfacesRow.holds Tryz.pinned (OpenSpec.ofChange energySurfacesWrong)

/-- 'shoeboxlaw03.EnergyRings': WHATEVER THE INPUT: true; the input reads as it did. -/
def energyRingsSpec : ChangeSpec := { name := "energyRings", fn := fun _ => fun
  | [d1, d2] => { results := [.lit (.bool true)], args := [d1, d2] }
  | _ => none }
def energyRingsRow : OpenClaim := { program := "ytddhjopopelkjaagreat", sum := "6e57b011b0eae8c99b8fa04ef30a4007792a475e0e045ee18e5121221d2fa7f7", func := "shoebox/shoeboxlaw03.EnergyRings", spec := "energyRings", inPlace := ["math.sqrt", "internal/abi.NoEscape", "internal/bytealg.MakeNoZero"], unfollowed := true, recurses := true, apart := false }
def EnergyRingsSaid : Prop := energyRingsRow.holds Tryz.pinned (OpenSpec.ofChange energyRingsSpec)

/-- ITS FALSE NEIGHBOUR: 'it returns false'. Refute it at one input. -/
def energyRingsWrong : ChangeSpec := { name := "energyRings", fn := fun _ => fun
  | [d1, d2] => { results := [.lit (.bool false)], args := [d1, d2] }
  | _ => none }
def EnergyRingsWrongFalsely : Prop := energyRingsRow.holds Tryz.pinned (OpenSpec.ofChange energyRingsWrong)

/-- 'shoeboxtop.TopSeenBack': WHATEVER THE INPUT: true; the input reads as it did. -/
def topSeenBackSpec : ChangeSpec := { name := "topSeenBack", fn := fun _ => fun
  | [d1, d2] => { results := [.lit (.bool true)], args := [d1, d2] }
  | _ => none }
def topSeenBackRow : OpenClaim := { program := "ytddhjopopelkjaagreat", sum := "6e57b011b0eae8c99b8fa04ef30a4007792a475e0e045ee18e5121221d2fa7f7", func := "shoebox/shoeboxtop.TopSeenBack", spec := "topSeenBack", unfollowed := true, recurses := true, apart := false }
def TopSeenBackSaid : Prop := topSeenBackRow.holds Tryz.pinned (OpenSpec.ofChange topSeenBackSpec)

/-- ITS FALSE NEIGHBOUR: 'it returns false'. Refute it at one input. -/
def topSeenBackWrong : ChangeSpec := { name := "topSeenBack", fn := fun _ => fun
  | [d1, d2] => { results := [.lit (.bool false)], args := [d1, d2] }
  | _ => none }
def TopSeenBackWrongFalsely : Prop := topSeenBackRow.holds Tryz.pinned (OpenSpec.ofChange topSeenBackWrong)

/-- 'shoeboxlaw03.EnergyCurtains': WHATEVER THE INPUT: true; the input reads as it did. -/
def energyCurtainsSpec : ChangeSpec := { name := "energyCurtains", fn := fun _ => fun
  | [d1, d2, d3] => { results := [.lit (.bool true)], args := [d1, d2, d3] }
  | _ => none }
def energyCurtainsRow : OpenClaim := { program := "ytddhjopopelkjaagreat", sum := "6e57b011b0eae8c99b8fa04ef30a4007792a475e0e045ee18e5121221d2fa7f7", func := "shoebox/shoeboxlaw03.EnergyCurtains", spec := "energyCurtains", inPlace := ["math.sqrt", "internal/abi.NoEscape", "internal/bytealg.MakeNoZero"], unfollowed := true, recurses := true, apart := false }
def EnergyCurtainsSaid : Prop := energyCurtainsRow.holds Tryz.pinned (OpenSpec.ofChange energyCurtainsSpec)

/-- ITS FALSE NEIGHBOUR: 'it returns false'. Refute it at one input. -/
def energyCurtainsWrong : ChangeSpec := { name := "energyCurtains", fn := fun _ => fun
  | [d1, d2, d3] => { results := [.lit (.bool false)], args := [d1, d2, d3] }
  | _ => none }
def EnergyCurtainsWrongFalsely : Prop := energyCurtainsRow.holds Tryz.pinned (OpenSpec.ofChange energyCurtainsWrong)

/- THE SECOND FORM. 'bulk': how many values and letters a reading holds, each counted each time it is reached (what is shared counts as often as it is met; a slice's spare places count too). A statement '..UptoSaid' is the law's where the arguments, and the package variables that the reading takes, are together of bulk at most 1048576: NARROWER than '..Said'. Prove '..Said' where nothing that the law and all that it calls make is longer than what came in: it says more and counts as full. Else prove '..UptoSaid'. A law counts once. -/
mutual
def uptoBulk {H : Type} : DataW H → Nat
  | .lit (.string bytes) => bytes.length + 1
  | .lit _ => 1
  | .nil => 1
  | .ptr d => uptoBulk d + 1
  | .slice elems spare => uptoBulkAll elems + uptoBulkAll spare + 1
  | .agg parts => uptoBulkAll parts + 1
  | .iface _ d => uptoBulk d + 1
  | .map entries => uptoBulkEntries entries + 1
  | .held _ => 1
def uptoBulkAll {H : Type} : List (DataW H) → Nat
  | [] => 0
  | d :: r => uptoBulk d + uptoBulkAll r
def uptoBulkEntries {H : Type} : List (Lit × DataW H) → Nat
  | [] => 0
  | x :: r => uptoBulkEntry x + uptoBulkEntries r
def uptoBulkEntry {H : Type} : Lit × DataW H → Nat
  | (.string bytes, d) => bytes.length + uptoBulk d + 1
  | (_, d) => uptoBulk d + 1
 end
def uptoSmall : (H : Type) → List (DataW H) → Bool := fun _ ds => decide (uptoBulkAll ds ≤ 1048576)
def OpenSpec.upto (s : _root_.Go.ChangeSpec) : _root_.Go.OpenSpec := { _root_.Go.OpenSpec.ofChange s with cond := some uptoSmall }

/-- 'shoeboxlaw03.EnergyPaths', WHERE WHAT IT READS IS OF BULK AT MOST 1048576: true; the input reads as it did. -/
def energyPathsUptoRow : OpenClaim := { program := "ytddhjopopelkjaagreat", sum := "6e57b011b0eae8c99b8fa04ef30a4007792a475e0e045ee18e5121221d2fa7f7", func := "shoebox/shoeboxlaw03.EnergyPaths", spec := "energyPaths", inPlace := ["math.sqrt", "internal/abi.NoEscape", "internal/bytealg.MakeNoZero"], unfollowed := true, recurses := true, apart := false, narrowed := true }
def EnergyPathsUptoSaid : Prop := energyPathsUptoRow.holds Tryz.pinned (OpenSpec.upto energyPathsSpec)

/-- 'shoeboxlaw03.EnergySteps', WHERE WHAT IT READS IS OF BULK AT MOST 1048576: true; the input reads as it did. -/
def energyStepsUptoRow : OpenClaim := { program := "ytddhjopopelkjaagreat", sum := "6e57b011b0eae8c99b8fa04ef30a4007792a475e0e045ee18e5121221d2fa7f7", func := "shoebox/shoeboxlaw03.EnergySteps", spec := "energySteps", inPlace := ["math.sqrt", "internal/abi.NoEscape", "internal/bytealg.MakeNoZero"], unfollowed := true, recurses := true, apart := false, narrowed := true }
def EnergyStepsUptoSaid : Prop := energyStepsUptoRow.holds Tryz.pinned (OpenSpec.upto energyStepsSpec)

/-- 'shoeboxlaw03.EnergyKept', WHERE WHAT IT READS IS OF BULK AT MOST 1048576: true; the input reads as it did. -/
def energyKeptUptoRow : OpenClaim := { program := "ytddhjopopelkjaagreat", sum := "6e57b011b0eae8c99b8fa04ef30a4007792a475e0e045ee18e5121221d2fa7f7", func := "shoebox/shoeboxlaw03.EnergyKept", spec := "energyKept", inPlace := ["math.sqrt", "internal/abi.NoEscape", "internal/bytealg.MakeNoZero"], unfollowed := true, recurses := true, apart := false, narrowed := true }
def EnergyKeptUptoSaid : Prop := energyKeptUptoRow.holds Tryz.pinned (OpenSpec.upto energyKeptSpec)

/-- 'shoeboxlaw03.EnergyReciprocals', WHERE WHAT IT READS IS OF BULK AT MOST 1048576: true; the input reads as it did. -/
def energyReciprocalsUptoRow : OpenClaim := { program := "ytddhjopopelkjaagreat", sum := "6e57b011b0eae8c99b8fa04ef30a4007792a475e0e045ee18e5121221d2fa7f7", func := "shoebox/shoeboxlaw03.EnergyReciprocals", spec := "energyReciprocals", inPlace := ["math.sqrt", "internal/abi.NoEscape", "internal/bytealg.MakeNoZero"], unfollowed := true, recurses := true, apart := false, narrowed := true }
def EnergyReciprocalsUptoSaid : Prop := energyReciprocalsUptoRow.holds Tryz.pinned (OpenSpec.upto energyReciprocalsSpec)

/-- 'shoeboxtop.TopMirrorsBack', WHERE WHAT IT READS IS OF BULK AT MOST 1048576: true; the input reads as it did. -/
def topMirrorsBackUptoRow : OpenClaim := { program := "ytddhjopopelkjaagreat", sum := "6e57b011b0eae8c99b8fa04ef30a4007792a475e0e045ee18e5121221d2fa7f7", func := "shoebox/shoeboxtop.TopMirrorsBack", spec := "topMirrorsBack", unfollowed := true, recurses := true, apart := false, narrowed := true }
def TopMirrorsBackUptoSaid : Prop := topMirrorsBackUptoRow.holds Tryz.pinned (OpenSpec.upto topMirrorsBackSpec)

/-- 'shoeboxlaw03.EnergyArrives', WHERE WHAT IT READS IS OF BULK AT MOST 1048576: true; the input reads as it did. -/
def energyArrivesUptoRow : OpenClaim := { program := "ytddhjopopelkjaagreat", sum := "6e57b011b0eae8c99b8fa04ef30a4007792a475e0e045ee18e5121221d2fa7f7", func := "shoebox/shoeboxlaw03.EnergyArrives", spec := "energyArrives", inPlace := ["math.sqrt", "internal/abi.NoEscape", "internal/bytealg.MakeNoZero"], unfollowed := true, recurses := true, apart := false, narrowed := true }
def EnergyArrivesUptoSaid : Prop := energyArrivesUptoRow.holds Tryz.pinned (OpenSpec.upto energyArrivesSpec)

/-- 'shoeboxlaw03.EnergyGrows', WHERE WHAT IT READS IS OF BULK AT MOST 1048576: true; the input reads as it did. -/
def energyGrowsUptoRow : OpenClaim := { program := "ytddhjopopelkjaagreat", sum := "6e57b011b0eae8c99b8fa04ef30a4007792a475e0e045ee18e5121221d2fa7f7", func := "shoebox/shoeboxlaw03.EnergyGrows", spec := "energyGrows", inPlace := ["math.sqrt", "internal/abi.NoEscape", "internal/bytealg.MakeNoZero"], unfollowed := true, recurses := true, apart := false, narrowed := true }
def EnergyGrowsUptoSaid : Prop := energyGrowsUptoRow.holds Tryz.pinned (OpenSpec.upto energyGrowsSpec)

/-- 'shoeboxlaw03.EnergyBounded', WHERE WHAT IT READS IS OF BULK AT MOST 1048576: true; the input reads as it did. -/
def energyBoundedUptoRow : OpenClaim := { program := "ytddhjopopelkjaagreat", sum := "6e57b011b0eae8c99b8fa04ef30a4007792a475e0e045ee18e5121221d2fa7f7", func := "shoebox/shoeboxlaw03.EnergyBounded", spec := "energyBounded", inPlace := ["math.sqrt", "internal/abi.NoEscape", "internal/bytealg.MakeNoZero"], unfollowed := true, recurses := true, apart := false, narrowed := true }
def EnergyBoundedUptoSaid : Prop := energyBoundedUptoRow.holds Tryz.pinned (OpenSpec.upto energyBoundedSpec)

/-- 'shoeboxlaw03.EnergyDecays', WHERE WHAT IT READS IS OF BULK AT MOST 1048576: true; the input reads as it did. -/
def energyDecaysUptoRow : OpenClaim := { program := "ytddhjopopelkjaagreat", sum := "6e57b011b0eae8c99b8fa04ef30a4007792a475e0e045ee18e5121221d2fa7f7", func := "shoebox/shoeboxlaw03.EnergyDecays", spec := "energyDecays", inPlace := ["math.sqrt", "internal/abi.NoEscape", "internal/bytealg.MakeNoZero"], unfollowed := true, recurses := true, apart := false, narrowed := true }
def EnergyDecaysUptoSaid : Prop := energyDecaysUptoRow.holds Tryz.pinned (OpenSpec.upto energyDecaysSpec)

/-- 'shoeboxlaw03.EnergySurfaces', WHERE WHAT IT READS IS OF BULK AT MOST 1048576: true; the input reads as it did. -/
def energySurfacesUptoRow : OpenClaim := { program := "ytddhjopopelkjaagreat", sum := "6e57b011b0eae8c99b8fa04ef30a4007792a475e0e045ee18e5121221d2fa7f7", func := "shoebox/shoeboxlaw03.EnergySurfaces", spec := "energySurfaces", inPlace := ["math.sqrt", "internal/abi.NoEscape", "internal/bytealg.MakeNoZero"], unfollowed := true, recurses := true, apart := false, narrowed := true }
def EnergySurfacesUptoSaid : Prop := energySurfacesUptoRow.holds Tryz.pinned (OpenSpec.upto energySurfacesSpec)

/-- 'shoeboxlaw03.EnergyRings', WHERE WHAT IT READS IS OF BULK AT MOST 1048576: true; the input reads as it did. -/
def energyRingsUptoRow : OpenClaim := { program := "ytddhjopopelkjaagreat", sum := "6e57b011b0eae8c99b8fa04ef30a4007792a475e0e045ee18e5121221d2fa7f7", func := "shoebox/shoeboxlaw03.EnergyRings", spec := "energyRings", inPlace := ["math.sqrt", "internal/abi.NoEscape", "internal/bytealg.MakeNoZero"], unfollowed := true, recurses := true, apart := false, narrowed := true }
def EnergyRingsUptoSaid : Prop := energyRingsUptoRow.holds Tryz.pinned (OpenSpec.upto energyRingsSpec)

/-- 'shoeboxtop.TopSeenBack', WHERE WHAT IT READS IS OF BULK AT MOST 1048576: true; the input reads as it did. -/
def topSeenBackUptoRow : OpenClaim := { program := "ytddhjopopelkjaagreat", sum := "6e57b011b0eae8c99b8fa04ef30a4007792a475e0e045ee18e5121221d2fa7f7", func := "shoebox/shoeboxtop.TopSeenBack", spec := "topSeenBack", unfollowed := true, recurses := true, apart := false, narrowed := true }
def TopSeenBackUptoSaid : Prop := topSeenBackUptoRow.holds Tryz.pinned (OpenSpec.upto topSeenBackSpec)

/-- 'shoeboxlaw03.EnergyCurtains', WHERE WHAT IT READS IS OF BULK AT MOST 1048576: true; the input reads as it did. -/
def energyCurtainsUptoRow : OpenClaim := { program := "ytddhjopopelkjaagreat", sum := "6e57b011b0eae8c99b8fa04ef30a4007792a475e0e045ee18e5121221d2fa7f7", func := "shoebox/shoeboxlaw03.EnergyCurtains", spec := "energyCurtains", inPlace := ["math.sqrt", "internal/abi.NoEscape", "internal/bytealg.MakeNoZero"], unfollowed := true, recurses := true, apart := false, narrowed := true }
def EnergyCurtainsUptoSaid : Prop := energyCurtainsUptoRow.holds Tryz.pinned (OpenSpec.upto energyCurtainsSpec)

end Rows
end Go.Proofs.YtddhjopopelkjaaGreat
