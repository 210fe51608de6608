/-
  No cell of these rows narrows 'for every input' (looked for: loops, veiled, ifaces, maps, wideKeys, modest, calm, conditions, laid).
  DERIVED. THE GIVEN ROWS OF THIS SEAT. 14 by the template 'for every input the law returns true; each argument reads behind the call as it read before'; 0 by the template 'total and deterministic' (their statements: YtjpmeaagnhojgaaGreatTotals.lean).
  GIVEN WITH THE SEED: the statements are not yours to turn. If you find one false, say at which input.
  Laid BY PROGRAM, IN A SANDBOX (cutbox-rows.mjs): the forced cells as the released guide's own fill.sh prints them over the translation b4158ca2f8e2e752… (all of the seat's roots in one cut). By AI agents, Wed Nov 11 2026. No macro, syntax, notation, axiom, sorry.
-/
import Derived.Test.YtjpmeaagnhojgaaGreatChecked
import GoSem.Claim
import GoSem.ClaimJoined
import GoSem.ClaimMapViews
import Derived.JoinedTies
import Derived.KernelRfl
namespace Go.Proofs.YtjpmeaagnhojgaaGreat
/- THE CELL 'sum', in the pinned program and in every row, IS THE sha256 OF THE DUMP (.gsa) THAT YtjpmeaagnhojgaaGreatProg.lean LOADS. Nothing in Lean hashes anything: it is a label: what it is worth is what the hold of that sum in a sandbox is worth. -/
noncomputable def Tryz.pinned : Pinned := { name := "ytjpmeaagnhojgaagreat", sum := "b4158ca2f8e2e752ed987e2d9fd6ca36750c06db6d58336434e8fee83543da45", checked := Tryz.checked }
namespace Rows
def none {H : Type} : Left H := { results := [], args := [] }

/-- 'shoeboxlaw01.HallEach': WHATEVER THE INPUT: true; the input reads as it did. -/
def hallEachSpec : ChangeSpec := { name := "hallEach", fn := fun _ => fun
  | [d1, d2] => { results := [.lit (.bool true)], args := [d1, d2] }
  | _ => none }
def hallEachRow : OpenClaim := { program := "ytjpmeaagnhojgaagreat", sum := "b4158ca2f8e2e752ed987e2d9fd6ca36750c06db6d58336434e8fee83543da45", func := "shoebox/shoeboxlaw01.HallEach", spec := "hallEach", inPlace := ["math.sqrt"], unfollowed := true, recurses := true, apart := false }
def HallEachSaid : Prop := hallEachRow.holds Tryz.pinned (OpenSpec.ofChange hallEachSpec)

/-- ITS FALSE NEIGHBOUR: 'it returns false'. Refute it at one input. -/
def hallEachWrong : ChangeSpec := { name := "hallEach", fn := fun _ => fun
  | [d1, d2] => { results := [.lit (.bool false)], args := [d1, d2] }
  | _ => none }
def HallEachWrongFalsely : Prop := hallEachRow.holds Tryz.pinned (OpenSpec.ofChange hallEachWrong)

/-- 'shoeboxlaw01.HallAbsorbs': WHATEVER THE INPUT: true; the input reads as it did. -/
def hallAbsorbsSpec : ChangeSpec := { name := "hallAbsorbs", fn := fun _ => fun
  | [d1, d2, d3] => { results := [.lit (.bool true)], args := [d1, d2, d3] }
  | _ => none }
def hallAbsorbsRow : OpenClaim := { program := "ytjpmeaagnhojgaagreat", sum := "b4158ca2f8e2e752ed987e2d9fd6ca36750c06db6d58336434e8fee83543da45", func := "shoebox/shoeboxlaw01.HallAbsorbs", spec := "hallAbsorbs", inPlace := ["math.sqrt"], unfollowed := true, recurses := true, apart := false }
def HallAbsorbsSaid : Prop := hallAbsorbsRow.holds Tryz.pinned (OpenSpec.ofChange hallAbsorbsSpec)

/-- ITS FALSE NEIGHBOUR: 'it returns false'. Refute it at one input. -/
def hallAbsorbsWrong : ChangeSpec := { name := "hallAbsorbs", fn := fun _ => fun
  | [d1, d2, d3] => { results := [.lit (.bool false)], args := [d1, d2, d3] }
  | _ => none }
def HallAbsorbsWrongFalsely : Prop := hallAbsorbsRow.holds Tryz.pinned (OpenSpec.ofChange hallAbsorbsWrong)

/-- 'shoeboxlaw01.HallMirrors': WHATEVER THE INPUT: true; the input reads as it did. -/
def hallMirrorsSpec : ChangeSpec := { name := "hallMirrors", fn := fun _ => fun
  | [d1, d2, d3] => { results := [.lit (.bool true)], args := [d1, d2, d3] }
  | _ => none }
def hallMirrorsRow : OpenClaim := { program := "ytjpmeaagnhojgaagreat", sum := "b4158ca2f8e2e752ed987e2d9fd6ca36750c06db6d58336434e8fee83543da45", func := "shoebox/shoeboxlaw01.HallMirrors", spec := "hallMirrors", inPlace := ["math.sqrt"], unfollowed := true, recurses := true, apart := false }
def HallMirrorsSaid : Prop := hallMirrorsRow.holds Tryz.pinned (OpenSpec.ofChange hallMirrorsSpec)

/-- ITS FALSE NEIGHBOUR: 'it returns false'. Refute it at one input. -/
def hallMirrorsWrong : ChangeSpec := { name := "hallMirrors", fn := fun _ => fun
  | [d1, d2, d3] => { results := [.lit (.bool false)], args := [d1, d2, d3] }
  | _ => none }
def HallMirrorsWrongFalsely : Prop := hallMirrorsRow.holds Tryz.pinned (OpenSpec.ofChange hallMirrorsWrong)

/-- 'shoeboxlaw01.HallFree': WHATEVER THE INPUT: true; the input reads as it did. -/
def hallFreeSpec : ChangeSpec := { name := "hallFree", fn := fun _ => fun
  | [d1, d2, d3] => { results := [.lit (.bool true)], args := [d1, d2, d3] }
  | _ => none }
def hallFreeRow : OpenClaim := { program := "ytjpmeaagnhojgaagreat", sum := "b4158ca2f8e2e752ed987e2d9fd6ca36750c06db6d58336434e8fee83543da45", func := "shoebox/shoeboxlaw01.HallFree", spec := "hallFree", inPlace := ["math.sqrt"], unfollowed := true, recurses := true, apart := false }
def HallFreeSaid : Prop := hallFreeRow.holds Tryz.pinned (OpenSpec.ofChange hallFreeSpec)

/-- ITS FALSE NEIGHBOUR: 'it returns false'. Refute it at one input. -/
def hallFreeWrong : ChangeSpec := { name := "hallFree", fn := fun _ => fun
  | [d1, d2, d3] => { results := [.lit (.bool false)], args := [d1, d2, d3] }
  | _ => none }
def HallFreeWrongFalsely : Prop := hallFreeRow.holds Tryz.pinned (OpenSpec.ofChange hallFreeWrong)

/-- 'shoeboxlaw01.HallCrosses': WHATEVER THE INPUT: true; the input reads as it did. -/
def hallCrossesSpec : ChangeSpec := { name := "hallCrosses", fn := fun _ => fun
  | [d1, d2, d3] => { results := [.lit (.bool true)], args := [d1, d2, d3] }
  | _ => none }
def hallCrossesRow : OpenClaim := { program := "ytjpmeaagnhojgaagreat", sum := "b4158ca2f8e2e752ed987e2d9fd6ca36750c06db6d58336434e8fee83543da45", func := "shoebox/shoeboxlaw01.HallCrosses", spec := "hallCrosses", inPlace := ["math.sqrt"], unfollowed := true, recurses := true, apart := false }
def HallCrossesSaid : Prop := hallCrossesRow.holds Tryz.pinned (OpenSpec.ofChange hallCrossesSpec)

/-- ITS FALSE NEIGHBOUR: 'it returns false'. Refute it at one input. -/
def hallCrossesWrong : ChangeSpec := { name := "hallCrosses", fn := fun _ => fun
  | [d1, d2, d3] => { results := [.lit (.bool false)], args := [d1, d2, d3] }
  | _ => none }
def HallCrossesWrongFalsely : Prop := hallCrossesRow.holds Tryz.pinned (OpenSpec.ofChange hallCrossesWrong)

/-- 'shoeboxlaw01.HallPlans': WHATEVER THE INPUT: true; the input reads as it did. -/
def hallPlansSpec : ChangeSpec := { name := "hallPlans", fn := fun _ => fun
  | [d] => { results := [.lit (.bool true)], args := [d] }
  | _ => none }
def hallPlansRow : OpenClaim := { program := "ytjpmeaagnhojgaagreat", sum := "b4158ca2f8e2e752ed987e2d9fd6ca36750c06db6d58336434e8fee83543da45", func := "shoebox/shoeboxlaw01.HallPlans", spec := "hallPlans", inPlace := ["math.sqrt"], unfollowed := true, recurses := true, apart := false }
def HallPlansSaid : Prop := hallPlansRow.holds Tryz.pinned (OpenSpec.ofChange hallPlansSpec)

/-- ITS FALSE NEIGHBOUR: 'it returns false'. Refute it at one input. -/
def hallPlansWrong : ChangeSpec := { name := "hallPlans", fn := fun _ => fun
  | [d] => { results := [.lit (.bool false)], args := [d] }
  | _ => none }
def HallPlansWrongFalsely : Prop := hallPlansRow.holds Tryz.pinned (OpenSpec.ofChange hallPlansWrong)

/-- 'shoeboxlaw01.HallSettings': WHATEVER THE INPUT: true; the input reads as it did. -/
def hallSettingsSpec : ChangeSpec := { name := "hallSettings", fn := fun _ => fun
  | [d1, d2, d3] => { results := [.lit (.bool true)], args := [d1, d2, d3] }
  | _ => none }
def hallSettingsRow : OpenClaim := { program := "ytjpmeaagnhojgaagreat", sum := "b4158ca2f8e2e752ed987e2d9fd6ca36750c06db6d58336434e8fee83543da45", func := "shoebox/shoeboxlaw01.HallSettings", spec := "hallSettings", inPlace := ["math.sqrt"], unfollowed := true, recurses := true, apart := false }
def HallSettingsSaid : Prop := hallSettingsRow.holds Tryz.pinned (OpenSpec.ofChange hallSettingsSpec)

/-- ITS FALSE NEIGHBOUR: 'it returns false'. Refute it at one input. -/
def hallSettingsWrong : ChangeSpec := { name := "hallSettings", fn := fun _ => fun
  | [d1, d2, d3] => { results := [.lit (.bool false)], args := [d1, d2, d3] }
  | _ => none }
def HallSettingsWrongFalsely : Prop := hallSettingsRow.holds Tryz.pinned (OpenSpec.ofChange hallSettingsWrong)

/-- 'shoeboxlaw01.HallInside': WHATEVER THE INPUT: true; the input reads as it did. -/
def hallInsideSpec : ChangeSpec := { name := "hallInside", fn := fun _ => fun
  | [d1, d2] => { results := [.lit (.bool true)], args := [d1, d2] }
  | _ => none }
def hallInsideRow : OpenClaim := { program := "ytjpmeaagnhojgaagreat", sum := "b4158ca2f8e2e752ed987e2d9fd6ca36750c06db6d58336434e8fee83543da45", func := "shoebox/shoeboxlaw01.HallInside", spec := "hallInside", inPlace := ["math.sqrt"], unfollowed := true, recurses := true, apart := false }
def HallInsideSaid : Prop := hallInsideRow.holds Tryz.pinned (OpenSpec.ofChange hallInsideSpec)

/-- ITS FALSE NEIGHBOUR: 'it returns false'. Refute it at one input. -/
def hallInsideWrong : ChangeSpec := { name := "hallInside", fn := fun _ => fun
  | [d1, d2] => { results := [.lit (.bool false)], args := [d1, d2] }
  | _ => none }
def HallInsideWrongFalsely : Prop := hallInsideRow.holds Tryz.pinned (OpenSpec.ofChange hallInsideWrong)

/-- 'shoeboxlaw01.HallBothWays': WHATEVER THE INPUT: true; the input reads as it did. -/
def hallBothWaysSpec : ChangeSpec := { name := "hallBothWays", fn := fun _ => fun
  | [d1, d2, d3] => { results := [.lit (.bool true)], args := [d1, d2, d3] }
  | _ => none }
def hallBothWaysRow : OpenClaim := { program := "ytjpmeaagnhojgaagreat", sum := "b4158ca2f8e2e752ed987e2d9fd6ca36750c06db6d58336434e8fee83543da45", func := "shoebox/shoeboxlaw01.HallBothWays", spec := "hallBothWays", inPlace := ["math.sqrt"], unfollowed := true, recurses := true, apart := false }
def HallBothWaysSaid : Prop := hallBothWaysRow.holds Tryz.pinned (OpenSpec.ofChange hallBothWaysSpec)

/-- ITS FALSE NEIGHBOUR: 'it returns false'. Refute it at one input. -/
def hallBothWaysWrong : ChangeSpec := { name := "hallBothWays", fn := fun _ => fun
  | [d1, d2, d3] => { results := [.lit (.bool false)], args := [d1, d2, d3] }
  | _ => none }
def HallBothWaysWrongFalsely : Prop := hallBothWaysRow.holds Tryz.pinned (OpenSpec.ofChange hallBothWaysWrong)

/-- 'shoeboxlaw01.HallWellMet': WHATEVER THE INPUT: true; the input reads as it did. -/
def hallWellMetSpec : ChangeSpec := { name := "hallWellMet", fn := fun _ => fun
  | [d1, d2, d3] => { results := [.lit (.bool true)], args := [d1, d2, d3] }
  | _ => none }
def hallWellMetRow : OpenClaim := { program := "ytjpmeaagnhojgaagreat", sum := "b4158ca2f8e2e752ed987e2d9fd6ca36750c06db6d58336434e8fee83543da45", func := "shoebox/shoeboxlaw01.HallWellMet", spec := "hallWellMet", inPlace := ["math.sqrt"], unfollowed := true, recurses := true, apart := false }
def HallWellMetSaid : Prop := hallWellMetRow.holds Tryz.pinned (OpenSpec.ofChange hallWellMetSpec)

/-- ITS FALSE NEIGHBOUR: 'it returns false'. Refute it at one input. -/
def hallWellMetWrong : ChangeSpec := { name := "hallWellMet", fn := fun _ => fun
  | [d1, d2, d3] => { results := [.lit (.bool false)], args := [d1, d2, d3] }
  | _ => none }
def HallWellMetWrongFalsely : Prop := hallWellMetRow.holds Tryz.pinned (OpenSpec.ofChange hallWellMetWrong)

/-- 'shoeboxlaw01.HallAreas': WHATEVER THE INPUT: true; the input reads as it did. -/
def hallAreasSpec : ChangeSpec := { name := "hallAreas", fn := fun _ => fun
  | [d1, d2, d3] => { results := [.lit (.bool true)], args := [d1, d2, d3] }
  | _ => none }
def hallAreasRow : OpenClaim := { program := "ytjpmeaagnhojgaagreat", sum := "b4158ca2f8e2e752ed987e2d9fd6ca36750c06db6d58336434e8fee83543da45", func := "shoebox/shoeboxlaw01.HallAreas", spec := "hallAreas", inPlace := ["math.sqrt"], unfollowed := true, recurses := true, apart := false }
def HallAreasSaid : Prop := hallAreasRow.holds Tryz.pinned (OpenSpec.ofChange hallAreasSpec)

/-- ITS FALSE NEIGHBOUR: 'it returns false'. Refute it at one input. -/
def hallAreasWrong : ChangeSpec := { name := "hallAreas", fn := fun _ => fun
  | [d1, d2, d3] => { results := [.lit (.bool false)], args := [d1, d2, d3] }
  | _ => none }
def HallAreasWrongFalsely : Prop := hallAreasRow.holds Tryz.pinned (OpenSpec.ofChange hallAreasWrong)

/-- 'shoeboxlaw01.HallMaterials': WHATEVER THE INPUT: true; the input reads as it did. -/
def hallMaterialsSpec : ChangeSpec := { name := "hallMaterials", fn := fun _ => fun
  | [d1, d2, d3] => { results := [.lit (.bool true)], args := [d1, d2, d3] }
  | _ => none }
def hallMaterialsRow : OpenClaim := { program := "ytjpmeaagnhojgaagreat", sum := "b4158ca2f8e2e752ed987e2d9fd6ca36750c06db6d58336434e8fee83543da45", func := "shoebox/shoeboxlaw01.HallMaterials", spec := "hallMaterials", inPlace := ["math.sqrt"], unfollowed := true, recurses := true, apart := false }
def HallMaterialsSaid : Prop := hallMaterialsRow.holds Tryz.pinned (OpenSpec.ofChange hallMaterialsSpec)

/-- ITS FALSE NEIGHBOUR: 'it returns false'. Refute it at one input. -/
def hallMaterialsWrong : ChangeSpec := { name := "hallMaterials", fn := fun _ => fun
  | [d1, d2, d3] => { results := [.lit (.bool false)], args := [d1, d2, d3] }
  | _ => none }
def HallMaterialsWrongFalsely : Prop := hallMaterialsRow.holds Tryz.pinned (OpenSpec.ofChange hallMaterialsWrong)

/-- 'shoeboxlaw01.HallChecks': WHATEVER THE INPUT: true; the input reads as it did. -/
def hallChecksSpec : ChangeSpec := { name := "hallChecks", fn := fun _ => fun
  | [d] => { results := [.lit (.bool true)], args := [d] }
  | _ => none }
def hallChecksRow : OpenClaim := { program := "ytjpmeaagnhojgaagreat", sum := "b4158ca2f8e2e752ed987e2d9fd6ca36750c06db6d58336434e8fee83543da45", func := "shoebox/shoeboxlaw01.HallChecks", spec := "hallChecks", inPlace := ["math.sqrt"], unfollowed := true, recurses := true, apart := false }
def HallChecksSaid : Prop := hallChecksRow.holds Tryz.pinned (OpenSpec.ofChange hallChecksSpec)

/-- ITS FALSE NEIGHBOUR: 'it returns false'. Refute it at one input. -/
def hallChecksWrong : ChangeSpec := { name := "hallChecks", fn := fun _ => fun
  | [d] => { results := [.lit (.bool false)], args := [d] }
  | _ => none }
def HallChecksWrongFalsely : Prop := hallChecksRow.holds Tryz.pinned (OpenSpec.ofChange hallChecksWrong)

/-- 'shoeboxlaw01.HallSees': WHATEVER THE INPUT: true; the input reads as it did. -/
def hallSeesSpec : ChangeSpec := { name := "hallSees", fn := fun _ => fun
  | [d1, d2, d3] => { results := [.lit (.bool true)], args := [d1, d2, d3] }
  | _ => none }
def hallSeesRow : OpenClaim := { program := "ytjpmeaagnhojgaagreat", sum := "b4158ca2f8e2e752ed987e2d9fd6ca36750c06db6d58336434e8fee83543da45", func := "shoebox/shoeboxlaw01.HallSees", spec := "hallSees", inPlace := ["math.sqrt"], unfollowed := true, recurses := true, apart := false }
def HallSeesSaid : Prop := hallSeesRow.holds Tryz.pinned (OpenSpec.ofChange hallSeesSpec)

/-- ITS FALSE NEIGHBOUR: 'it returns false'. Refute it at one input. -/
def hallSeesWrong : ChangeSpec := { name := "hallSees", fn := fun _ => fun
  | [d1, d2, d3] => { results := [.lit (.bool false)], args := [d1, d2, d3] }
  | _ => none }
def HallSeesWrongFalsely : Prop := hallSeesRow.holds Tryz.pinned (OpenSpec.ofChange hallSeesWrong)

/- THE SECOND FORM. 'bulk': how many values and letters a reading holds, each counted each time it is reached (what is shared counts as often as it is met; a slice's spare places count too). A statement '..UptoSaid' is the law's where the arguments, and the package variables that the reading takes, are together of bulk at most 1048576: NARROWER than '..Said'. Prove '..Said' where nothing that the law and all that it calls make is longer than what came in: it says more and counts as full. Else prove '..UptoSaid'. A law counts once. -/
mutual
def uptoBulk {H : Type} : DataW H → Nat
  | .lit (.string bytes) => bytes.length + 1
  | .lit _ => 1
  | .nil => 1
  | .ptr d => uptoBulk d + 1
  | .slice elems spare => uptoBulkAll elems + uptoBulkAll spare + 1
  | .agg parts => uptoBulkAll parts + 1
  | .iface _ d => uptoBulk d + 1
  | .map entries => uptoBulkEntries entries + 1
  | .held _ => 1
def uptoBulkAll {H : Type} : List (DataW H) → Nat
  | [] => 0
  | d :: r => uptoBulk d + uptoBulkAll r
def uptoBulkEntries {H : Type} : List (Lit × DataW H) → Nat
  | [] => 0
  | x :: r => uptoBulkEntry x + uptoBulkEntries r
def uptoBulkEntry {H : Type} : Lit × DataW H → Nat
  | (.string bytes, d) => bytes.length + uptoBulk d + 1
  | (_, d) => uptoBulk d + 1
 end
def uptoSmall : (H : Type) → List (DataW H) → Bool := fun _ ds => decide (uptoBulkAll ds ≤ 1048576)
def OpenSpec.upto (s : _root_.Go.ChangeSpec) : _root_.Go.OpenSpec := { _root_.Go.OpenSpec.ofChange s with cond := some uptoSmall }

/-- 'shoeboxlaw01.HallEach', WHERE WHAT IT READS IS OF BULK AT MOST 1048576: true; the input reads as it did. -/
def hallEachUptoRow : OpenClaim := { program := "ytjpmeaagnhojgaagreat", sum := "b4158ca2f8e2e752ed987e2d9fd6ca36750c06db6d58336434e8fee83543da45", func := "shoebox/shoeboxlaw01.HallEach", spec := "hallEach", inPlace := ["math.sqrt"], unfollowed := true, recurses := true, apart := false, narrowed := true }
def HallEachUptoSaid : Prop := hallEachUptoRow.holds Tryz.pinned (OpenSpec.upto hallEachSpec)

/-- 'shoeboxlaw01.HallAbsorbs', WHERE WHAT IT READS IS OF BULK AT MOST 1048576: true; the input reads as it did. -/
def hallAbsorbsUptoRow : OpenClaim := { program := "ytjpmeaagnhojgaagreat", sum := "b4158ca2f8e2e752ed987e2d9fd6ca36750c06db6d58336434e8fee83543da45", func := "shoebox/shoeboxlaw01.HallAbsorbs", spec := "hallAbsorbs", inPlace := ["math.sqrt"], unfollowed := true, recurses := true, apart := false, narrowed := true }
def HallAbsorbsUptoSaid : Prop := hallAbsorbsUptoRow.holds Tryz.pinned (OpenSpec.upto hallAbsorbsSpec)

/-- 'shoeboxlaw01.HallMirrors', WHERE WHAT IT READS IS OF BULK AT MOST 1048576: true; the input reads as it did. -/
def hallMirrorsUptoRow : OpenClaim := { program := "ytjpmeaagnhojgaagreat", sum := "b4158ca2f8e2e752ed987e2d9fd6ca36750c06db6d58336434e8fee83543da45", func := "shoebox/shoeboxlaw01.HallMirrors", spec := "hallMirrors", inPlace := ["math.sqrt"], unfollowed := true, recurses := true, apart := false, narrowed := true }
def HallMirrorsUptoSaid : Prop := hallMirrorsUptoRow.holds Tryz.pinned (OpenSpec.upto hallMirrorsSpec)

/-- 'shoeboxlaw01.HallFree', WHERE WHAT IT READS IS OF BULK AT MOST 1048576: true; the input reads as it did. -/
def hallFreeUptoRow : OpenClaim := { program := "ytjpmeaagnhojgaagreat", sum := "b4158ca2f8e2e752ed987e2d9fd6ca36750c06db6d58336434e8fee83543da45", func := "shoebox/shoeboxlaw01.HallFree", spec := "hallFree", inPlace := ["math.sqrt"], unfollowed := true, recurses := true, apart := false, narrowed := true }
def HallFreeUptoSaid : Prop := hallFreeUptoRow.holds Tryz.pinned (OpenSpec.upto hallFreeSpec)

/-- 'shoeboxlaw01.HallCrosses', WHERE WHAT IT READS IS OF BULK AT MOST 1048576: true; the input reads as it did. -/
def hallCrossesUptoRow : OpenClaim := { program := "ytjpmeaagnhojgaagreat", sum := "b4158ca2f8e2e752ed987e2d9fd6ca36750c06db6d58336434e8fee83543da45", func := "shoebox/shoeboxlaw01.HallCrosses", spec := "hallCrosses", inPlace := ["math.sqrt"], unfollowed := true, recurses := true, apart := false, narrowed := true }
def HallCrossesUptoSaid : Prop := hallCrossesUptoRow.holds Tryz.pinned (OpenSpec.upto hallCrossesSpec)

/-- 'shoeboxlaw01.HallPlans', WHERE WHAT IT READS IS OF BULK AT MOST 1048576: true; the input reads as it did. -/
def hallPlansUptoRow : OpenClaim := { program := "ytjpmeaagnhojgaagreat", sum := "b4158ca2f8e2e752ed987e2d9fd6ca36750c06db6d58336434e8fee83543da45", func := "shoebox/shoeboxlaw01.HallPlans", spec := "hallPlans", inPlace := ["math.sqrt"], unfollowed := true, recurses := true, apart := false, narrowed := true }
def HallPlansUptoSaid : Prop := hallPlansUptoRow.holds Tryz.pinned (OpenSpec.upto hallPlansSpec)

/-- 'shoeboxlaw01.HallSettings', WHERE WHAT IT READS IS OF BULK AT MOST 1048576: true; the input reads as it did. -/
def hallSettingsUptoRow : OpenClaim := { program := "ytjpmeaagnhojgaagreat", sum := "b4158ca2f8e2e752ed987e2d9fd6ca36750c06db6d58336434e8fee83543da45", func := "shoebox/shoeboxlaw01.HallSettings", spec := "hallSettings", inPlace := ["math.sqrt"], unfollowed := true, recurses := true, apart := false, narrowed := true }
def HallSettingsUptoSaid : Prop := hallSettingsUptoRow.holds Tryz.pinned (OpenSpec.upto hallSettingsSpec)

/-- 'shoeboxlaw01.HallInside', WHERE WHAT IT READS IS OF BULK AT MOST 1048576: true; the input reads as it did. -/
def hallInsideUptoRow : OpenClaim := { program := "ytjpmeaagnhojgaagreat", sum := "b4158ca2f8e2e752ed987e2d9fd6ca36750c06db6d58336434e8fee83543da45", func := "shoebox/shoeboxlaw01.HallInside", spec := "hallInside", inPlace := ["math.sqrt"], unfollowed := true, recurses := true, apart := false, narrowed := true }
def HallInsideUptoSaid : Prop := hallInsideUptoRow.holds Tryz.pinned (OpenSpec.upto hallInsideSpec)

/-- 'shoeboxlaw01.HallBothWays', WHERE WHAT IT READS IS OF BULK AT MOST 1048576: true; the input reads as it did. -/
def hallBothWaysUptoRow : OpenClaim := { program := "ytjpmeaagnhojgaagreat", sum := "b4158ca2f8e2e752ed987e2d9fd6ca36750c06db6d58336434e8fee83543da45", func := "shoebox/shoeboxlaw01.HallBothWays", spec := "hallBothWays", inPlace := ["math.sqrt"], unfollowed := true, recurses := true, apart := false, narrowed := true }
def HallBothWaysUptoSaid : Prop := hallBothWaysUptoRow.holds Tryz.pinned (OpenSpec.upto hallBothWaysSpec)

/-- 'shoeboxlaw01.HallWellMet', WHERE WHAT IT READS IS OF BULK AT MOST 1048576: true; the input reads as it did. -/
def hallWellMetUptoRow : OpenClaim := { program := "ytjpmeaagnhojgaagreat", sum := "b4158ca2f8e2e752ed987e2d9fd6ca36750c06db6d58336434e8fee83543da45", func := "shoebox/shoeboxlaw01.HallWellMet", spec := "hallWellMet", inPlace := ["math.sqrt"], unfollowed := true, recurses := true, apart := false, narrowed := true }
def HallWellMetUptoSaid : Prop := hallWellMetUptoRow.holds Tryz.pinned (OpenSpec.upto hallWellMetSpec)

/-- 'shoeboxlaw01.HallAreas', WHERE WHAT IT READS IS OF BULK AT MOST 1048576: true; the input reads as it did. -/
def hallAreasUptoRow : OpenClaim := { program := "ytjpmeaagnhojgaagreat", sum := "b4158ca2f8e2e752ed987e2d9fd6ca36750c06db6d58336434e8fee83543da45", func := "shoebox/shoeboxlaw01.HallAreas", spec := "hallAreas", inPlace := ["math.sqrt"], unfollowed := true, recurses := true, apart := false, narrowed := true }
def HallAreasUptoSaid : Prop := hallAreasUptoRow.holds Tryz.pinned (OpenSpec.upto hallAreasSpec)

/-- 'shoeboxlaw01.HallMaterials', WHERE WHAT IT READS IS OF BULK AT MOST 1048576: true; the input reads as it did. -/
def hallMaterialsUptoRow : OpenClaim := { program := "ytjpmeaagnhojgaagreat", sum := "b4158ca2f8e2e752ed987e2d9fd6ca36750c06db6d58336434e8fee83543da45", func := "shoebox/shoeboxlaw01.HallMaterials", spec := "hallMaterials", inPlace := ["math.sqrt"], unfollowed := true, recurses := true, apart := false, narrowed := true }
def HallMaterialsUptoSaid : Prop := hallMaterialsUptoRow.holds Tryz.pinned (OpenSpec.upto hallMaterialsSpec)

/-- 'shoeboxlaw01.HallChecks', WHERE WHAT IT READS IS OF BULK AT MOST 1048576: true; the input reads as it did. -/
def hallChecksUptoRow : OpenClaim := { program := "ytjpmeaagnhojgaagreat", sum := "b4158ca2f8e2e752ed987e2d9fd6ca36750c06db6d58336434e8fee83543da45", func := "shoebox/shoeboxlaw01.HallChecks", spec := "hallChecks", inPlace := ["math.sqrt"], unfollowed := true, recurses := true, apart := false, narrowed := true }
def HallChecksUptoSaid : Prop := hallChecksUptoRow.holds Tryz.pinned (OpenSpec.upto hallChecksSpec)

/-- 'shoeboxlaw01.HallSees', WHERE WHAT IT READS IS OF BULK AT MOST 1048576: true; the input reads as it did. -/
def hallSeesUptoRow : OpenClaim := { program := "ytjpmeaagnhojgaagreat", sum := "b4158ca2f8e2e752ed987e2d9fd6ca36750c06db6d58336434e8fee83543da45", func := "shoebox/shoeboxlaw01.HallSees", spec := "hallSees", inPlace := ["math.sqrt"], unfollowed := true, recurses := true, apart := false, narrowed := true }
def HallSeesUptoSaid : Prop := hallSeesUptoRow.holds Tryz.pinned (OpenSpec.upto hallSeesSpec)

end Rows
end Go.Proofs.YtjpmeaagnhojgaaGreat
