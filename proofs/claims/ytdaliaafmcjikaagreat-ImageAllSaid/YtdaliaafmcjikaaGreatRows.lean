/-
  No cell of these rows narrows 'for every input' (looked for: loops, veiled, ifaces, maps, wideKeys, modest, calm, conditions, laid).
  DERIVED. THE GIVEN ROWS OF THIS SEAT. 9 by the template 'for every input the law returns true; each argument reads behind the call as it read before'; 0 by the template 'total and deterministic' (their statements: YtdaliaafmcjikaaGreatTotals.lean).
  GIVEN WITH THE SEED: the statements are not yours to turn. If you find one false, say at which input.
  Laid BY PROGRAM, IN A SANDBOX (cutbox-rows.mjs): the forced cells as the released guide's own fill.sh prints them over the translation 98887b8e47440be3… (all of the seat's roots in one cut). By AI agents, Wed Nov 11 2026. No macro, syntax, notation, axiom, sorry.
-/
import Derived.Test.YtdaliaafmcjikaaGreatChecked
import GoSem.Claim
import GoSem.ClaimJoined
import GoSem.ClaimMapViews
import Derived.JoinedTies
import Derived.KernelRfl
namespace Go.Proofs.YtdaliaafmcjikaaGreat
/- THE CELL 'sum', in the pinned program and in every row, IS THE sha256 OF THE DUMP (.gsa) THAT YtdaliaafmcjikaaGreatProg.lean LOADS. Nothing in Lean hashes anything: it is a label: what it is worth is what the hold of that sum in a sandbox is worth. -/
noncomputable def Tryz.pinned : Pinned := { name := "ytdaliaafmcjikaagreat", sum := "98887b8e47440be3d05d06165d7b450b52e9e2520dc5217f75e5bbc6ad8e41e5", checked := Tryz.checked }
namespace Rows
def none {H : Type} : Left H := { results := [], args := [] }

/-- 'shoeboxlaw02.ImagePathsBy': WHATEVER THE INPUT: true; the input reads as it did. -/
def imagePathsBySpec : ChangeSpec := { name := "imagePathsBy", fn := fun _ => fun
  | [d1, d2, d3] => { results := [.lit (.bool true)], args := [d1, d2, d3] }
  | _ => none }
def imagePathsByRow : OpenClaim := { program := "ytdaliaafmcjikaagreat", sum := "98887b8e47440be3d05d06165d7b450b52e9e2520dc5217f75e5bbc6ad8e41e5", func := "shoebox/shoeboxlaw02.ImagePathsBy", spec := "imagePathsBy", inPlace := ["math.sqrt"], unfollowed := true, recurses := true, apart := false }
def ImagePathsBySaid : Prop := imagePathsByRow.holds Tryz.pinned (OpenSpec.ofChange imagePathsBySpec)

/-- ITS FALSE NEIGHBOUR: 'it returns false'. Refute it at one input. -/
def imagePathsByWrong : ChangeSpec := { name := "imagePathsBy", fn := fun _ => fun
  | [d1, d2, d3] => { results := [.lit (.bool false)], args := [d1, d2, d3] }
  | _ => none }
def ImagePathsByWrongFalsely : Prop := imagePathsByRow.holds Tryz.pinned (OpenSpec.ofChange imagePathsByWrong)

/-- 'shoeboxlaw02.ImageSources': WHATEVER THE INPUT: true; the input reads as it did. -/
def imageSourcesSpec : ChangeSpec := { name := "imageSources", fn := fun _ => fun
  | [d1, d2, d3] => { results := [.lit (.bool true)], args := [d1, d2, d3] }
  | _ => none }
def imageSourcesRow : OpenClaim := { program := "ytdaliaafmcjikaagreat", sum := "98887b8e47440be3d05d06165d7b450b52e9e2520dc5217f75e5bbc6ad8e41e5", func := "shoebox/shoeboxlaw02.ImageSources", spec := "imageSources", inPlace := ["math.sqrt"], unfollowed := true, recurses := true, apart := false }
def ImageSourcesSaid : Prop := imageSourcesRow.holds Tryz.pinned (OpenSpec.ofChange imageSourcesSpec)

/-- ITS FALSE NEIGHBOUR: 'it returns false'. Refute it at one input. -/
def imageSourcesWrong : ChangeSpec := { name := "imageSources", fn := fun _ => fun
  | [d1, d2, d3] => { results := [.lit (.bool false)], args := [d1, d2, d3] }
  | _ => none }
def ImageSourcesWrongFalsely : Prop := imageSourcesRow.holds Tryz.pinned (OpenSpec.ofChange imageSourcesWrong)

/-- 'shoeboxlaw02.ImageTurns': WHATEVER THE INPUT: true; the input reads as it did. -/
def imageTurnsSpec : ChangeSpec := { name := "imageTurns", fn := fun _ => fun
  | [d] => { results := [.lit (.bool true)], args := [d] }
  | _ => none }
def imageTurnsRow : OpenClaim := { program := "ytdaliaafmcjikaagreat", sum := "98887b8e47440be3d05d06165d7b450b52e9e2520dc5217f75e5bbc6ad8e41e5", func := "shoebox/shoeboxlaw02.ImageTurns", spec := "imageTurns", inPlace := ["math.sqrt"], unfollowed := true, recurses := true, apart := false }
def ImageTurnsSaid : Prop := imageTurnsRow.holds Tryz.pinned (OpenSpec.ofChange imageTurnsSpec)

/-- ITS FALSE NEIGHBOUR: 'it returns false'. Refute it at one input. -/
def imageTurnsWrong : ChangeSpec := { name := "imageTurns", fn := fun _ => fun
  | [d] => { results := [.lit (.bool false)], args := [d] }
  | _ => none }
def ImageTurnsWrongFalsely : Prop := imageTurnsRow.holds Tryz.pinned (OpenSpec.ofChange imageTurnsWrong)

/-- 'shoeboxlaw02.ImageChecks': WHATEVER THE INPUT: true; the input reads as it did. -/
def imageChecksSpec : ChangeSpec := { name := "imageChecks", fn := fun _ => fun
  | [d1, d2, d3] => { results := [.lit (.bool true)], args := [d1, d2, d3] }
  | _ => none }
def imageChecksRow : OpenClaim := { program := "ytdaliaafmcjikaagreat", sum := "98887b8e47440be3d05d06165d7b450b52e9e2520dc5217f75e5bbc6ad8e41e5", func := "shoebox/shoeboxlaw02.ImageChecks", spec := "imageChecks", inPlace := ["math.sqrt"], unfollowed := true, recurses := true, apart := false }
def ImageChecksSaid : Prop := imageChecksRow.holds Tryz.pinned (OpenSpec.ofChange imageChecksSpec)

/-- ITS FALSE NEIGHBOUR: 'it returns false'. Refute it at one input. -/
def imageChecksWrong : ChangeSpec := { name := "imageChecks", fn := fun _ => fun
  | [d1, d2, d3] => { results := [.lit (.bool false)], args := [d1, d2, d3] }
  | _ => none }
def ImageChecksWrongFalsely : Prop := imageChecksRow.holds Tryz.pinned (OpenSpec.ofChange imageChecksWrong)

/-- 'shoeboxlaw02.ImageDelays': WHATEVER THE INPUT: true; the input reads as it did. -/
def imageDelaysSpec : ChangeSpec := { name := "imageDelays", fn := fun _ => fun
  | [d1, d2] => { results := [.lit (.bool true)], args := [d1, d2] }
  | _ => none }
def imageDelaysRow : OpenClaim := { program := "ytdaliaafmcjikaagreat", sum := "98887b8e47440be3d05d06165d7b450b52e9e2520dc5217f75e5bbc6ad8e41e5", func := "shoebox/shoeboxlaw02.ImageDelays", spec := "imageDelays", inPlace := ["math.sqrt"], unfollowed := true, recurses := true, apart := false }
def ImageDelaysSaid : Prop := imageDelaysRow.holds Tryz.pinned (OpenSpec.ofChange imageDelaysSpec)

/-- ITS FALSE NEIGHBOUR: 'it returns false'. Refute it at one input. -/
def imageDelaysWrong : ChangeSpec := { name := "imageDelays", fn := fun _ => fun
  | [d1, d2] => { results := [.lit (.bool false)], args := [d1, d2] }
  | _ => none }
def ImageDelaysWrongFalsely : Prop := imageDelaysRow.holds Tryz.pinned (OpenSpec.ofChange imageDelaysWrong)

/-- 'shoeboxlaw02.ImageArrivals': WHATEVER THE INPUT: true; the input reads as it did. -/
def imageArrivalsSpec : ChangeSpec := { name := "imageArrivals", fn := fun _ => fun
  | [d1, d2] => { results := [.lit (.bool true)], args := [d1, d2] }
  | _ => none }
def imageArrivalsRow : OpenClaim := { program := "ytdaliaafmcjikaagreat", sum := "98887b8e47440be3d05d06165d7b450b52e9e2520dc5217f75e5bbc6ad8e41e5", func := "shoebox/shoeboxlaw02.ImageArrivals", spec := "imageArrivals", inPlace := ["math.sqrt"], unfollowed := true, recurses := true, apart := false }
def ImageArrivalsSaid : Prop := imageArrivalsRow.holds Tryz.pinned (OpenSpec.ofChange imageArrivalsSpec)

/-- ITS FALSE NEIGHBOUR: 'it returns false'. Refute it at one input. -/
def imageArrivalsWrong : ChangeSpec := { name := "imageArrivals", fn := fun _ => fun
  | [d1, d2] => { results := [.lit (.bool false)], args := [d1, d2] }
  | _ => none }
def ImageArrivalsWrongFalsely : Prop := imageArrivalsRow.holds Tryz.pinned (OpenSpec.ofChange imageArrivalsWrong)

/-- 'shoeboxlaw02.ImageAll': WHATEVER THE INPUT: true; the input reads as it did. -/
def imageAllSpec : ChangeSpec := { name := "imageAll", fn := fun _ => fun
  | [d1, d2] => { results := [.lit (.bool true)], args := [d1, d2] }
  | _ => none }
def imageAllRow : OpenClaim := { program := "ytdaliaafmcjikaagreat", sum := "98887b8e47440be3d05d06165d7b450b52e9e2520dc5217f75e5bbc6ad8e41e5", func := "shoebox/shoeboxlaw02.ImageAll", spec := "imageAll", inPlace := ["math.sqrt"], unfollowed := true, recurses := true, apart := false }
def ImageAllSaid : Prop := imageAllRow.holds Tryz.pinned (OpenSpec.ofChange imageAllSpec)

/-- ITS FALSE NEIGHBOUR: 'it returns false'. Refute it at one input. -/
def imageAllWrong : ChangeSpec := { name := "imageAll", fn := fun _ => fun
  | [d1, d2] => { results := [.lit (.bool false)], args := [d1, d2] }
  | _ => none }
def ImageAllWrongFalsely : Prop := imageAllRow.holds Tryz.pinned (OpenSpec.ofChange imageAllWrong)

/-- 'shoeboxlaw02.ImageReciprocal': WHATEVER THE INPUT: true; the input reads as it did. -/
def imageReciprocalSpec : ChangeSpec := { name := "imageReciprocal", fn := fun _ => fun
  | [d1, d2] => { results := [.lit (.bool true)], args := [d1, d2] }
  | _ => none }
def imageReciprocalRow : OpenClaim := { program := "ytdaliaafmcjikaagreat", sum := "98887b8e47440be3d05d06165d7b450b52e9e2520dc5217f75e5bbc6ad8e41e5", func := "shoebox/shoeboxlaw02.ImageReciprocal", spec := "imageReciprocal", inPlace := ["math.sqrt"], unfollowed := true, recurses := true, apart := false }
def ImageReciprocalSaid : Prop := imageReciprocalRow.holds Tryz.pinned (OpenSpec.ofChange imageReciprocalSpec)

/-- ITS FALSE NEIGHBOUR: 'it returns false'. Refute it at one input. -/
def imageReciprocalWrong : ChangeSpec := { name := "imageReciprocal", fn := fun _ => fun
  | [d1, d2] => { results := [.lit (.bool false)], args := [d1, d2] }
  | _ => none }
def ImageReciprocalWrongFalsely : Prop := imageReciprocalRow.holds Tryz.pinned (OpenSpec.ofChange imageReciprocalWrong)

/-- 'shoeboxlaw02.ImageComplete': WHATEVER THE INPUT: true; the input reads as it did. -/
def imageCompleteSpec : ChangeSpec := { name := "imageComplete", fn := fun _ => fun
  | [d1, d2, d3] => { results := [.lit (.bool true)], args := [d1, d2, d3] }
  | _ => none }
def imageCompleteRow : OpenClaim := { program := "ytdaliaafmcjikaagreat", sum := "98887b8e47440be3d05d06165d7b450b52e9e2520dc5217f75e5bbc6ad8e41e5", func := "shoebox/shoeboxlaw02.ImageComplete", spec := "imageComplete", inPlace := ["math.sqrt"], unfollowed := true, recurses := true, apart := false }
def ImageCompleteSaid : Prop := imageCompleteRow.holds Tryz.pinned (OpenSpec.ofChange imageCompleteSpec)

/-- ITS FALSE NEIGHBOUR: 'it returns false'. Refute it at one input. -/
def imageCompleteWrong : ChangeSpec := { name := "imageComplete", fn := fun _ => fun
  | [d1, d2, d3] => { results := [.lit (.bool false)], args := [d1, d2, d3] }
  | _ => none }
def ImageCompleteWrongFalsely : Prop := imageCompleteRow.holds Tryz.pinned (OpenSpec.ofChange imageCompleteWrong)

/- THE SECOND FORM. 'bulk': how many values and letters a reading holds, each counted each time it is reached (what is shared counts as often as it is met; a slice's spare places count too). A statement '..UptoSaid' is the law's where the arguments, and the package variables that the reading takes, are together of bulk at most 1048576: NARROWER than '..Said'. Prove '..Said' where nothing that the law and all that it calls make is longer than what came in: it says more and counts as full. Else prove '..UptoSaid'. A law counts once. -/
mutual
def uptoBulk {H : Type} : DataW H → Nat
  | .lit (.string bytes) => bytes.length + 1
  | .lit _ => 1
  | .nil => 1
  | .ptr d => uptoBulk d + 1
  | .slice elems spare => uptoBulkAll elems + uptoBulkAll spare + 1
  | .agg parts => uptoBulkAll parts + 1
  | .iface _ d => uptoBulk d + 1
  | .map entries => uptoBulkEntries entries + 1
  | .held _ => 1
def uptoBulkAll {H : Type} : List (DataW H) → Nat
  | [] => 0
  | d :: r => uptoBulk d + uptoBulkAll r
def uptoBulkEntries {H : Type} : List (Lit × DataW H) → Nat
  | [] => 0
  | x :: r => uptoBulkEntry x + uptoBulkEntries r
def uptoBulkEntry {H : Type} : Lit × DataW H → Nat
  | (.string bytes, d) => bytes.length + uptoBulk d + 1
  | (_, d) => uptoBulk d + 1
 end
def uptoSmall : (H : Type) → List (DataW H) → Bool := fun _ ds => decide (uptoBulkAll ds ≤ 1048576)
def OpenSpec.upto (s : _root_.Go.ChangeSpec) : _root_.Go.OpenSpec := { _root_.Go.OpenSpec.ofChange s with cond := some uptoSmall }

/-- 'shoeboxlaw02.ImagePathsBy', WHERE WHAT IT READS IS OF BULK AT MOST 1048576: true; the input reads as it did. -/
def imagePathsByUptoRow : OpenClaim := { program := "ytdaliaafmcjikaagreat", sum := "98887b8e47440be3d05d06165d7b450b52e9e2520dc5217f75e5bbc6ad8e41e5", func := "shoebox/shoeboxlaw02.ImagePathsBy", spec := "imagePathsBy", inPlace := ["math.sqrt"], unfollowed := true, recurses := true, apart := false, narrowed := true }
def ImagePathsByUptoSaid : Prop := imagePathsByUptoRow.holds Tryz.pinned (OpenSpec.upto imagePathsBySpec)

/-- 'shoeboxlaw02.ImageSources', WHERE WHAT IT READS IS OF BULK AT MOST 1048576: true; the input reads as it did. -/
def imageSourcesUptoRow : OpenClaim := { program := "ytdaliaafmcjikaagreat", sum := "98887b8e47440be3d05d06165d7b450b52e9e2520dc5217f75e5bbc6ad8e41e5", func := "shoebox/shoeboxlaw02.ImageSources", spec := "imageSources", inPlace := ["math.sqrt"], unfollowed := true, recurses := true, apart := false, narrowed := true }
def ImageSourcesUptoSaid : Prop := imageSourcesUptoRow.holds Tryz.pinned (OpenSpec.upto imageSourcesSpec)

/-- 'shoeboxlaw02.ImageTurns', WHERE WHAT IT READS IS OF BULK AT MOST 1048576: true; the input reads as it did. -/
def imageTurnsUptoRow : OpenClaim := { program := "ytdaliaafmcjikaagreat", sum := "98887b8e47440be3d05d06165d7b450b52e9e2520dc5217f75e5bbc6ad8e41e5", func := "shoebox/shoeboxlaw02.ImageTurns", spec := "imageTurns", inPlace := ["math.sqrt"], unfollowed := true, recurses := true, apart := false, narrowed := true }
def ImageTurnsUptoSaid : Prop := imageTurnsUptoRow.holds Tryz.pinned (OpenSpec.upto imageTurnsSpec)

/-- 'shoeboxlaw02.ImageChecks', WHERE WHAT IT READS IS OF BULK AT MOST 1048576: true; the input reads as it did. -/
def imageChecksUptoRow : OpenClaim := { program := "ytdaliaafmcjikaagreat", sum := "98887b8e47440be3d05d06165d7b450b52e9e2520dc5217f75e5bbc6ad8e41e5", func := "shoebox/shoeboxlaw02.ImageChecks", spec := "imageChecks", inPlace := ["math.sqrt"], unfollowed := true, recurses := true, apart := false, narrowed := true }
def ImageChecksUptoSaid : Prop := imageChecksUptoRow.holds Tryz.pinned (OpenSpec.upto imageChecksSpec)

/-- 'shoeboxlaw02.ImageDelays', WHERE WHAT IT READS IS OF BULK AT MOST 1048576: true; the input reads as it did. -/
def imageDelaysUptoRow : OpenClaim := { program := "ytdaliaafmcjikaagreat", sum := "98887b8e47440be3d05d06165d7b450b52e9e2520dc5217f75e5bbc6ad8e41e5", func := "shoebox/shoeboxlaw02.ImageDelays", spec := "imageDelays", inPlace := ["math.sqrt"], unfollowed := true, recurses := true, apart := false, narrowed := true }
def ImageDelaysUptoSaid : Prop := imageDelaysUptoRow.holds Tryz.pinned (OpenSpec.upto imageDelaysSpec)

/-- 'shoeboxlaw02.ImageArrivals', WHERE WHAT IT READS IS OF BULK AT MOST 1048576: true; the input reads as it did. -/
def imageArrivalsUptoRow : OpenClaim := { program := "ytdaliaafmcjikaagreat", sum := "98887b8e47440be3d05d06165d7b450b52e9e2520dc5217f75e5bbc6ad8e41e5", func := "shoebox/shoeboxlaw02.ImageArrivals", spec := "imageArrivals", inPlace := ["math.sqrt"], unfollowed := true, recurses := true, apart := false, narrowed := true }
def ImageArrivalsUptoSaid : Prop := imageArrivalsUptoRow.holds Tryz.pinned (OpenSpec.upto imageArrivalsSpec)

/-- 'shoeboxlaw02.ImageAll', WHERE WHAT IT READS IS OF BULK AT MOST 1048576: true; the input reads as it did. -/
def imageAllUptoRow : OpenClaim := { program := "ytdaliaafmcjikaagreat", sum := "98887b8e47440be3d05d06165d7b450b52e9e2520dc5217f75e5bbc6ad8e41e5", func := "shoebox/shoeboxlaw02.ImageAll", spec := "imageAll", inPlace := ["math.sqrt"], unfollowed := true, recurses := true, apart := false, narrowed := true }
def ImageAllUptoSaid : Prop := imageAllUptoRow.holds Tryz.pinned (OpenSpec.upto imageAllSpec)

/-- 'shoeboxlaw02.ImageReciprocal', WHERE WHAT IT READS IS OF BULK AT MOST 1048576: true; the input reads as it did. -/
def imageReciprocalUptoRow : OpenClaim := { program := "ytdaliaafmcjikaagreat", sum := "98887b8e47440be3d05d06165d7b450b52e9e2520dc5217f75e5bbc6ad8e41e5", func := "shoebox/shoeboxlaw02.ImageReciprocal", spec := "imageReciprocal", inPlace := ["math.sqrt"], unfollowed := true, recurses := true, apart := false, narrowed := true }
def ImageReciprocalUptoSaid : Prop := imageReciprocalUptoRow.holds Tryz.pinned (OpenSpec.upto imageReciprocalSpec)

/-- 'shoeboxlaw02.ImageComplete', WHERE WHAT IT READS IS OF BULK AT MOST 1048576: true; the input reads as it did. -/
def imageCompleteUptoRow : OpenClaim := { program := "ytdaliaafmcjikaagreat", sum := "98887b8e47440be3d05d06165d7b450b52e9e2520dc5217f75e5bbc6ad8e41e5", func := "shoebox/shoeboxlaw02.ImageComplete", spec := "imageComplete", inPlace := ["math.sqrt"], unfollowed := true, recurses := true, apart := false, narrowed := true }
def ImageCompleteUptoSaid : Prop := imageCompleteUptoRow.holds Tryz.pinned (OpenSpec.upto imageCompleteSpec)

end Rows
end Go.Proofs.YtdaliaafmcjikaaGreat
