/-
  No cell of these rows narrows 'for every input' (looked for: loops, veiled, ifaces, maps, wideKeys, modest, calm, conditions, laid).
  DERIVED. THE GIVEN ROWS OF THIS SEAT. 4 by the template 'for every input the law returns true; each argument reads behind the call as it read before'; 0 by the template 'total and deterministic' (their statements: YtanbhfpalahjcaaGreatTotals.lean).
  GIVEN WITH THE SEED: the statements are not yours to turn. If you find one false, say at which input.
  Laid BY PROGRAM, IN A SANDBOX (cutbox-rows.mjs): the forced cells as the released guide's own fill.sh prints them over the translation f911d47573845a31… (all of the seat's roots in one cut). By AI agents, Wed Nov 11 2026. No macro, syntax, notation, axiom, sorry.
-/
import Derived.Test.YtanbhfpalahjcaaGreatChecked
import GoSem.Claim
import GoSem.ClaimJoined
import GoSem.ClaimMapViews
import Derived.JoinedTies
import Derived.KernelRfl
namespace Go.Proofs.YtanbhfpalahjcaaGreat
/- THE CELL 'sum', in the pinned program and in every row, IS THE sha256 OF THE DUMP (.gsa) THAT YtanbhfpalahjcaaGreatProg.lean LOADS. Nothing in Lean hashes anything: it is a label: what it is worth is what the hold of that sum in a sandbox is worth. -/
noncomputable def Tryz.pinned : Pinned := { name := "ytanbhfpalahjcaagreat", sum := "f911d47573845a31c61019c8ce91b73b3d8bad13c477adf7d9b1c5f29648f794", checked := Tryz.checked }
namespace Rows
def none {H : Type} : Left H := { results := [], args := [] }

/-- 'shoeboxlaw02.ImageFollows': WHATEVER THE INPUT: true; the input reads as it did. -/
def imageFollowsSpec : ChangeSpec := { name := "imageFollows", fn := fun _ => fun
  | [d1, d2, d3] => { results := [.lit (.bool true)], args := [d1, d2, d3] }
  | _ => none }
def imageFollowsRow : OpenClaim := { program := "ytanbhfpalahjcaagreat", sum := "f911d47573845a31c61019c8ce91b73b3d8bad13c477adf7d9b1c5f29648f794", func := "shoebox/shoeboxlaw02.ImageFollows", spec := "imageFollows", inPlace := ["math.sqrt"], unfollowed := true, recurses := true, apart := false }
def ImageFollowsSaid : Prop := imageFollowsRow.holds Tryz.pinned (OpenSpec.ofChange imageFollowsSpec)

/-- ITS FALSE NEIGHBOUR: 'it returns false'. Refute it at one input. -/
def imageFollowsWrong : ChangeSpec := { name := "imageFollows", fn := fun _ => fun
  | [d1, d2, d3] => { results := [.lit (.bool false)], args := [d1, d2, d3] }
  | _ => none }
def ImageFollowsWrongFalsely : Prop := imageFollowsRow.holds Tryz.pinned (OpenSpec.ofChange imageFollowsWrong)

/-- 'shoeboxlaw02.ImageSectors': WHATEVER THE INPUT: true; the input reads as it did. -/
def imageSectorsSpec : ChangeSpec := { name := "imageSectors", fn := fun _ => fun
  | [d1, d2, d3] => { results := [.lit (.bool true)], args := [d1, d2, d3] }
  | _ => none }
def imageSectorsRow : OpenClaim := { program := "ytanbhfpalahjcaagreat", sum := "f911d47573845a31c61019c8ce91b73b3d8bad13c477adf7d9b1c5f29648f794", func := "shoebox/shoeboxlaw02.ImageSectors", spec := "imageSectors", inPlace := ["math.sqrt"], unfollowed := true, recurses := true, apart := false }
def ImageSectorsSaid : Prop := imageSectorsRow.holds Tryz.pinned (OpenSpec.ofChange imageSectorsSpec)

/-- ITS FALSE NEIGHBOUR: 'it returns false'. Refute it at one input. -/
def imageSectorsWrong : ChangeSpec := { name := "imageSectors", fn := fun _ => fun
  | [d1, d2, d3] => { results := [.lit (.bool false)], args := [d1, d2, d3] }
  | _ => none }
def ImageSectorsWrongFalsely : Prop := imageSectorsRow.holds Tryz.pinned (OpenSpec.ofChange imageSectorsWrong)

/-- 'shoeboxlaw02.ImageBeams': WHATEVER THE INPUT: true; the input reads as it did. -/
def imageBeamsSpec : ChangeSpec := { name := "imageBeams", fn := fun _ => fun
  | [d1, d2, d3] => { results := [.lit (.bool true)], args := [d1, d2, d3] }
  | _ => none }
def imageBeamsRow : OpenClaim := { program := "ytanbhfpalahjcaagreat", sum := "f911d47573845a31c61019c8ce91b73b3d8bad13c477adf7d9b1c5f29648f794", func := "shoebox/shoeboxlaw02.ImageBeams", spec := "imageBeams", inPlace := ["math.sqrt"], unfollowed := true, recurses := true, apart := false }
def ImageBeamsSaid : Prop := imageBeamsRow.holds Tryz.pinned (OpenSpec.ofChange imageBeamsSpec)

/-- ITS FALSE NEIGHBOUR: 'it returns false'. Refute it at one input. -/
def imageBeamsWrong : ChangeSpec := { name := "imageBeams", fn := fun _ => fun
  | [d1, d2, d3] => { results := [.lit (.bool false)], args := [d1, d2, d3] }
  | _ => none }
def ImageBeamsWrongFalsely : Prop := imageBeamsRow.holds Tryz.pinned (OpenSpec.ofChange imageBeamsWrong)

/-- 'shoeboxlaw02.ImageReached': WHATEVER THE INPUT: true; the input reads as it did. -/
def imageReachedSpec : ChangeSpec := { name := "imageReached", fn := fun _ => fun
  | [d1, d2] => { results := [.lit (.bool true)], args := [d1, d2] }
  | _ => none }
def imageReachedRow : OpenClaim := { program := "ytanbhfpalahjcaagreat", sum := "f911d47573845a31c61019c8ce91b73b3d8bad13c477adf7d9b1c5f29648f794", func := "shoebox/shoeboxlaw02.ImageReached", spec := "imageReached", inPlace := ["math.sqrt"], unfollowed := true, recurses := true, apart := false }
def ImageReachedSaid : Prop := imageReachedRow.holds Tryz.pinned (OpenSpec.ofChange imageReachedSpec)

/-- ITS FALSE NEIGHBOUR: 'it returns false'. Refute it at one input. -/
def imageReachedWrong : ChangeSpec := { name := "imageReached", fn := fun _ => fun
  | [d1, d2] => { results := [.lit (.bool false)], args := [d1, d2] }
  | _ => none }
def ImageReachedWrongFalsely : Prop := imageReachedRow.holds Tryz.pinned (OpenSpec.ofChange imageReachedWrong)

/- THE SECOND FORM. 'bulk': how many values and letters a reading holds, each counted each time it is reached (what is shared counts as often as it is met; a slice's spare places count too). A statement '..UptoSaid' is the law's where the arguments, and the package variables that the reading takes, are together of bulk at most 1048576: NARROWER than '..Said'. Prove '..Said' where nothing that the law and all that it calls make is longer than what came in: it says more and counts as full. Else prove '..UptoSaid'. A law counts once. -/
mutual
def uptoBulk {H : Type} : DataW H → Nat
  | .lit (.string bytes) => bytes.length + 1
  | .lit _ => 1
  | .nil => 1
  | .ptr d => uptoBulk d + 1
  | .slice elems spare => uptoBulkAll elems + uptoBulkAll spare + 1
  | .agg parts => uptoBulkAll parts + 1
  | .iface _ d => uptoBulk d + 1
  | .map entries => uptoBulkEntries entries + 1
  | .held _ => 1
def uptoBulkAll {H : Type} : List (DataW H) → Nat
  | [] => 0
  | d :: r => uptoBulk d + uptoBulkAll r
def uptoBulkEntries {H : Type} : List (Lit × DataW H) → Nat
  | [] => 0
  | x :: r => uptoBulkEntry x + uptoBulkEntries r
def uptoBulkEntry {H : Type} : Lit × DataW H → Nat
  | (.string bytes, d) => bytes.length + uptoBulk d + 1
  | (_, d) => uptoBulk d + 1
 end
def uptoSmall : (H : Type) → List (DataW H) → Bool := fun _ ds => decide (uptoBulkAll ds ≤ 1048576)
def OpenSpec.upto (s : _root_.Go.ChangeSpec) : _root_.Go.OpenSpec := { _root_.Go.OpenSpec.ofChange s with cond := some uptoSmall }

/-- 'shoeboxlaw02.ImageFollows', WHERE WHAT IT READS IS OF BULK AT MOST 1048576: true; the input reads as it did. -/
def imageFollowsUptoRow : OpenClaim := { program := "ytanbhfpalahjcaagreat", sum := "f911d47573845a31c61019c8ce91b73b3d8bad13c477adf7d9b1c5f29648f794", func := "shoebox/shoeboxlaw02.ImageFollows", spec := "imageFollows", inPlace := ["math.sqrt"], unfollowed := true, recurses := true, apart := false, narrowed := true }
def ImageFollowsUptoSaid : Prop := imageFollowsUptoRow.holds Tryz.pinned (OpenSpec.upto imageFollowsSpec)

/-- 'shoeboxlaw02.ImageSectors', WHERE WHAT IT READS IS OF BULK AT MOST 1048576: true; the input reads as it did. -/
def imageSectorsUptoRow : OpenClaim := { program := "ytanbhfpalahjcaagreat", sum := "f911d47573845a31c61019c8ce91b73b3d8bad13c477adf7d9b1c5f29648f794", func := "shoebox/shoeboxlaw02.ImageSectors", spec := "imageSectors", inPlace := ["math.sqrt"], unfollowed := true, recurses := true, apart := false, narrowed := true }
def ImageSectorsUptoSaid : Prop := imageSectorsUptoRow.holds Tryz.pinned (OpenSpec.upto imageSectorsSpec)

/-- 'shoeboxlaw02.ImageBeams', WHERE WHAT IT READS IS OF BULK AT MOST 1048576: true; the input reads as it did. -/
def imageBeamsUptoRow : OpenClaim := { program := "ytanbhfpalahjcaagreat", sum := "f911d47573845a31c61019c8ce91b73b3d8bad13c477adf7d9b1c5f29648f794", func := "shoebox/shoeboxlaw02.ImageBeams", spec := "imageBeams", inPlace := ["math.sqrt"], unfollowed := true, recurses := true, apart := false, narrowed := true }
def ImageBeamsUptoSaid : Prop := imageBeamsUptoRow.holds Tryz.pinned (OpenSpec.upto imageBeamsSpec)

/-- 'shoeboxlaw02.ImageReached', WHERE WHAT IT READS IS OF BULK AT MOST 1048576: true; the input reads as it did. -/
def imageReachedUptoRow : OpenClaim := { program := "ytanbhfpalahjcaagreat", sum := "f911d47573845a31c61019c8ce91b73b3d8bad13c477adf7d9b1c5f29648f794", func := "shoebox/shoeboxlaw02.ImageReached", spec := "imageReached", inPlace := ["math.sqrt"], unfollowed := true, recurses := true, apart := false, narrowed := true }
def ImageReachedUptoSaid : Prop := imageReachedUptoRow.holds Tryz.pinned (OpenSpec.upto imageReachedSpec)

end Rows
end Go.Proofs.YtanbhfpalahjcaaGreat
