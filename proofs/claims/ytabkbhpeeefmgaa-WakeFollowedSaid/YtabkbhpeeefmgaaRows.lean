/-
  No cell of these rows narrows 'for every input' (looked for: loops, veiled, ifaces, maps, wideKeys, modest, calm, conditions, laid).
  DERIVED. THE GIVEN ROWS OF THIS SEAT. 10 by the template 'for every input the law returns true; each argument reads behind the call as it read before'; 0 by the template 'total and deterministic' (their statements: YtabkbhpeeefmgaaTotals.lean).
  GIVEN WITH THE SEED: the statements are not yours to turn. If you find one false, say at which input.
  Laid BY PROGRAM, IN A SANDBOX (cutbox-rows.mjs): the forced cells as the released guide's own fill.sh prints them over the translation fecbe5a42ee8da61… (all of the seat's roots in one cut). By AI agents, Wed Nov 11 2026. No macro, syntax, notation, axiom, sorry.
-/
import Derived.Test.YtabkbhpeeefmgaaChecked
import GoSem.Claim
import GoSem.ClaimJoined
import GoSem.ClaimMapViews
import Derived.JoinedTies
import Derived.KernelRfl
namespace Go.Proofs.Ytabkbhpeeefmgaa
/- THE CELL 'sum', in the pinned program and in every row, IS THE sha256 OF THE DUMP (.gsa) THAT YtabkbhpeeefmgaaProg.lean LOADS. Nothing in Lean hashes anything: it is a label: what it is worth is what the hold of that sum in a sandbox is worth. -/
noncomputable def Try.pinned : Pinned := { name := "ytabkbhpeeefmgaa", sum := "fecbe5a42ee8da6176ce59a99a67b0da91b6451c7cb89cf6bda1237cfa86f28e", checked := Try.checked }
namespace Rows
def none {H : Type} : Left H := { results := [], args := [] }

/-- 'glidepathlaw06.WakeTracks': WHATEVER THE INPUT: true; the input reads as it did. -/
def wakeTracksSpec : ChangeSpec := { name := "wakeTracks", fn := fun _ => fun
  | [d1, d2] => { results := [.lit (.bool true)], args := [d1, d2] }
  | _ => none }
def wakeTracksRow : OpenClaim := { program := "ytabkbhpeeefmgaa", sum := "fecbe5a42ee8da6176ce59a99a67b0da91b6451c7cb89cf6bda1237cfa86f28e", func := "glidepath/glidepathlaw06.WakeTracks", spec := "wakeTracks", unfollowed := true, recurses := true, apart := false }
def WakeTracksSaid : Prop := wakeTracksRow.holds Try.pinned (OpenSpec.ofChange wakeTracksSpec)

/-- ITS FALSE NEIGHBOUR: 'it returns false'. Refute it at one input. -/
def wakeTracksWrong : ChangeSpec := { name := "wakeTracks", fn := fun _ => fun
  | [d1, d2] => { results := [.lit (.bool false)], args := [d1, d2] }
  | _ => none }
def WakeTracksWrongFalsely : Prop := wakeTracksRow.holds Try.pinned (OpenSpec.ofChange wakeTracksWrong)

/-- 'glidepathlaw06.WakeFollowed': WHATEVER THE INPUT: true; the input reads as it did. -/
def wakeFollowedSpec : ChangeSpec := { name := "wakeFollowed", fn := fun _ => fun
  | [d1, d2] => { results := [.lit (.bool true)], args := [d1, d2] }
  | _ => none }
def wakeFollowedRow : OpenClaim := { program := "ytabkbhpeeefmgaa", sum := "fecbe5a42ee8da6176ce59a99a67b0da91b6451c7cb89cf6bda1237cfa86f28e", func := "glidepath/glidepathlaw06.WakeFollowed", spec := "wakeFollowed", unfollowed := true, recurses := true, apart := false }
def WakeFollowedSaid : Prop := wakeFollowedRow.holds Try.pinned (OpenSpec.ofChange wakeFollowedSpec)

/-- ITS FALSE NEIGHBOUR: 'it returns false'. Refute it at one input. -/
def wakeFollowedWrong : ChangeSpec := { name := "wakeFollowed", fn := fun _ => fun
  | [d1, d2] => { results := [.lit (.bool false)], args := [d1, d2] }
  | _ => none }
def WakeFollowedWrongFalsely : Prop := wakeFollowedRow.holds Try.pinned (OpenSpec.ofChange wakeFollowedWrong)

/-- 'glidepathlaw06.WakeBoxes': WHATEVER THE INPUT: true; the input reads as it did. -/
def wakeBoxesSpec : ChangeSpec := { name := "wakeBoxes", fn := fun _ => fun
  | [d1, d2, d3] => { results := [.lit (.bool true)], args := [d1, d2, d3] }
  | _ => none }
def wakeBoxesRow : OpenClaim := { program := "ytabkbhpeeefmgaa", sum := "fecbe5a42ee8da6176ce59a99a67b0da91b6451c7cb89cf6bda1237cfa86f28e", func := "glidepath/glidepathlaw06.WakeBoxes", spec := "wakeBoxes", unfollowed := true, recurses := true, apart := false }
def WakeBoxesSaid : Prop := wakeBoxesRow.holds Try.pinned (OpenSpec.ofChange wakeBoxesSpec)

/-- ITS FALSE NEIGHBOUR: 'it returns false'. Refute it at one input. -/
def wakeBoxesWrong : ChangeSpec := { name := "wakeBoxes", fn := fun _ => fun
  | [d1, d2, d3] => { results := [.lit (.bool false)], args := [d1, d2, d3] }
  | _ => none }
def WakeBoxesWrongFalsely : Prop := wakeBoxesRow.holds Try.pinned (OpenSpec.ofChange wakeBoxesWrong)

/-- 'glidepathlaw06.WakeMatrices': WHATEVER THE INPUT: true; the input reads as it did. -/
def wakeMatricesSpec : ChangeSpec := { name := "wakeMatrices", fn := fun _ => fun
  | [d] => { results := [.lit (.bool true)], args := [d] }
  | _ => none }
def wakeMatricesRow : OpenClaim := { program := "ytabkbhpeeefmgaa", sum := "fecbe5a42ee8da6176ce59a99a67b0da91b6451c7cb89cf6bda1237cfa86f28e", func := "glidepath/glidepathlaw06.WakeMatrices", spec := "wakeMatrices", unfollowed := true, recurses := true, apart := false }
def WakeMatricesSaid : Prop := wakeMatricesRow.holds Try.pinned (OpenSpec.ofChange wakeMatricesSpec)

/-- ITS FALSE NEIGHBOUR: 'it returns false'. Refute it at one input. -/
def wakeMatricesWrong : ChangeSpec := { name := "wakeMatrices", fn := fun _ => fun
  | [d] => { results := [.lit (.bool false)], args := [d] }
  | _ => none }
def WakeMatricesWrongFalsely : Prop := wakeMatricesRow.holds Try.pinned (OpenSpec.ofChange wakeMatricesWrong)

/-- 'glidepathlaw06.WakeLinks': WHATEVER THE INPUT: true; the input reads as it did. -/
def wakeLinksSpec : ChangeSpec := { name := "wakeLinks", fn := fun _ => fun
  | [d1, d2, d3] => { results := [.lit (.bool true)], args := [d1, d2, d3] }
  | _ => none }
def wakeLinksRow : OpenClaim := { program := "ytabkbhpeeefmgaa", sum := "fecbe5a42ee8da6176ce59a99a67b0da91b6451c7cb89cf6bda1237cfa86f28e", func := "glidepath/glidepathlaw06.WakeLinks", spec := "wakeLinks", unfollowed := true, recurses := true, apart := false }
def WakeLinksSaid : Prop := wakeLinksRow.holds Try.pinned (OpenSpec.ofChange wakeLinksSpec)

/-- ITS FALSE NEIGHBOUR: 'it returns false'. Refute it at one input. -/
def wakeLinksWrong : ChangeSpec := { name := "wakeLinks", fn := fun _ => fun
  | [d1, d2, d3] => { results := [.lit (.bool false)], args := [d1, d2, d3] }
  | _ => none }
def WakeLinksWrongFalsely : Prop := wakeLinksRow.holds Try.pinned (OpenSpec.ofChange wakeLinksWrong)

/-- 'glidepathlaw06.WakePattern': WHATEVER THE INPUT: true; the input reads as it did. -/
def wakePatternSpec : ChangeSpec := { name := "wakePattern", fn := fun _ => fun
  | [d1, d2, d3] => { results := [.lit (.bool true)], args := [d1, d2, d3] }
  | _ => none }
def wakePatternRow : OpenClaim := { program := "ytabkbhpeeefmgaa", sum := "fecbe5a42ee8da6176ce59a99a67b0da91b6451c7cb89cf6bda1237cfa86f28e", func := "glidepath/glidepathlaw06.WakePattern", spec := "wakePattern", unfollowed := true, recurses := true, apart := false }
def WakePatternSaid : Prop := wakePatternRow.holds Try.pinned (OpenSpec.ofChange wakePatternSpec)

/-- ITS FALSE NEIGHBOUR: 'it returns false'. Refute it at one input. -/
def wakePatternWrong : ChangeSpec := { name := "wakePattern", fn := fun _ => fun
  | [d1, d2, d3] => { results := [.lit (.bool false)], args := [d1, d2, d3] }
  | _ => none }
def WakePatternWrongFalsely : Prop := wakePatternRow.holds Try.pinned (OpenSpec.ofChange wakePatternWrong)

/-- 'glidepathlaw06.WakeFound': WHATEVER THE INPUT: true; the input reads as it did. -/
def wakeFoundSpec : ChangeSpec := { name := "wakeFound", fn := fun _ => fun
  | [d1, d2] => { results := [.lit (.bool true)], args := [d1, d2] }
  | _ => none }
def wakeFoundRow : OpenClaim := { program := "ytabkbhpeeefmgaa", sum := "fecbe5a42ee8da6176ce59a99a67b0da91b6451c7cb89cf6bda1237cfa86f28e", func := "glidepath/glidepathlaw06.WakeFound", spec := "wakeFound", unfollowed := true, recurses := true, apart := false }
def WakeFoundSaid : Prop := wakeFoundRow.holds Try.pinned (OpenSpec.ofChange wakeFoundSpec)

/-- ITS FALSE NEIGHBOUR: 'it returns false'. Refute it at one input. -/
def wakeFoundWrong : ChangeSpec := { name := "wakeFound", fn := fun _ => fun
  | [d1, d2] => { results := [.lit (.bool false)], args := [d1, d2] }
  | _ => none }
def WakeFoundWrongFalsely : Prop := wakeFoundRow.holds Try.pinned (OpenSpec.ofChange wakeFoundWrong)

/-- 'glidepathlaw06.WakeFree': WHATEVER THE INPUT: true; the input reads as it did. -/
def wakeFreeSpec : ChangeSpec := { name := "wakeFree", fn := fun _ => fun
  | [d1, d2, d3] => { results := [.lit (.bool true)], args := [d1, d2, d3] }
  | _ => none }
def wakeFreeRow : OpenClaim := { program := "ytabkbhpeeefmgaa", sum := "fecbe5a42ee8da6176ce59a99a67b0da91b6451c7cb89cf6bda1237cfa86f28e", func := "glidepath/glidepathlaw06.WakeFree", spec := "wakeFree", unfollowed := true, recurses := true, apart := false }
def WakeFreeSaid : Prop := wakeFreeRow.holds Try.pinned (OpenSpec.ofChange wakeFreeSpec)

/-- ITS FALSE NEIGHBOUR: 'it returns false'. Refute it at one input. -/
def wakeFreeWrong : ChangeSpec := { name := "wakeFree", fn := fun _ => fun
  | [d1, d2, d3] => { results := [.lit (.bool false)], args := [d1, d2, d3] }
  | _ => none }
def WakeFreeWrongFalsely : Prop := wakeFreeRow.holds Try.pinned (OpenSpec.ofChange wakeFreeWrong)

/-- 'glidepathlaw06.WakePaths': WHATEVER THE INPUT: true; the input reads as it did. -/
def wakePathsSpec : ChangeSpec := { name := "wakePaths", fn := fun _ => fun
  | [d1, d2, d3] => { results := [.lit (.bool true)], args := [d1, d2, d3] }
  | _ => none }
def wakePathsRow : OpenClaim := { program := "ytabkbhpeeefmgaa", sum := "fecbe5a42ee8da6176ce59a99a67b0da91b6451c7cb89cf6bda1237cfa86f28e", func := "glidepath/glidepathlaw06.WakePaths", spec := "wakePaths", unfollowed := true, recurses := true, apart := false }
def WakePathsSaid : Prop := wakePathsRow.holds Try.pinned (OpenSpec.ofChange wakePathsSpec)

/-- ITS FALSE NEIGHBOUR: 'it returns false'. Refute it at one input. -/
def wakePathsWrong : ChangeSpec := { name := "wakePaths", fn := fun _ => fun
  | [d1, d2, d3] => { results := [.lit (.bool false)], args := [d1, d2, d3] }
  | _ => none }
def WakePathsWrongFalsely : Prop := wakePathsRow.holds Try.pinned (OpenSpec.ofChange wakePathsWrong)

/-- 'glidepathlaw06.WakeEvery': WHATEVER THE INPUT: true; the input reads as it did. -/
def wakeEverySpec : ChangeSpec := { name := "wakeEvery", fn := fun _ => fun
  | [d1, d2, d3] => { results := [.lit (.bool true)], args := [d1, d2, d3] }
  | _ => none }
def wakeEveryRow : OpenClaim := { program := "ytabkbhpeeefmgaa", sum := "fecbe5a42ee8da6176ce59a99a67b0da91b6451c7cb89cf6bda1237cfa86f28e", func := "glidepath/glidepathlaw06.WakeEvery", spec := "wakeEvery", unfollowed := true, recurses := true, apart := false }
def WakeEverySaid : Prop := wakeEveryRow.holds Try.pinned (OpenSpec.ofChange wakeEverySpec)

/-- ITS FALSE NEIGHBOUR: 'it returns false'. Refute it at one input. -/
def wakeEveryWrong : ChangeSpec := { name := "wakeEvery", fn := fun _ => fun
  | [d1, d2, d3] => { results := [.lit (.bool false)], args := [d1, d2, d3] }
  | _ => none }
def WakeEveryWrongFalsely : Prop := wakeEveryRow.holds Try.pinned (OpenSpec.ofChange wakeEveryWrong)

/- THE SECOND FORM. 'bulk': how many values and letters a reading holds, each counted each time it is reached (what is shared counts as often as it is met; a slice's spare places count too). A statement '..UptoSaid' is the law's where the arguments, and the package variables that the reading takes, are together of bulk at most 1048576: NARROWER than '..Said'. Prove '..Said' where nothing that the law and all that it calls make is longer than what came in: it says more and counts as full. Else prove '..UptoSaid'. A law counts once. -/
mutual
def uptoBulk {H : Type} : DataW H → Nat
  | .lit (.string bytes) => bytes.length + 1
  | .lit _ => 1
  | .nil => 1
  | .ptr d => uptoBulk d + 1
  | .slice elems spare => uptoBulkAll elems + uptoBulkAll spare + 1
  | .agg parts => uptoBulkAll parts + 1
  | .iface _ d => uptoBulk d + 1
  | .map entries => uptoBulkEntries entries + 1
  | .held _ => 1
def uptoBulkAll {H : Type} : List (DataW H) → Nat
  | [] => 0
  | d :: r => uptoBulk d + uptoBulkAll r
def uptoBulkEntries {H : Type} : List (Lit × DataW H) → Nat
  | [] => 0
  | x :: r => uptoBulkEntry x + uptoBulkEntries r
def uptoBulkEntry {H : Type} : Lit × DataW H → Nat
  | (.string bytes, d) => bytes.length + uptoBulk d + 1
  | (_, d) => uptoBulk d + 1
 end
def uptoSmall : (H : Type) → List (DataW H) → Bool := fun _ ds => decide (uptoBulkAll ds ≤ 1048576)
def OpenSpec.upto (s : _root_.Go.ChangeSpec) : _root_.Go.OpenSpec := { _root_.Go.OpenSpec.ofChange s with cond := some uptoSmall }

/-- 'glidepathlaw06.WakeTracks', WHERE WHAT IT READS IS OF BULK AT MOST 1048576: true; the input reads as it did. -/
def wakeTracksUptoRow : OpenClaim := { program := "ytabkbhpeeefmgaa", sum := "fecbe5a42ee8da6176ce59a99a67b0da91b6451c7cb89cf6bda1237cfa86f28e", func := "glidepath/glidepathlaw06.WakeTracks", spec := "wakeTracks", unfollowed := true, recurses := true, apart := false, narrowed := true }
def WakeTracksUptoSaid : Prop := wakeTracksUptoRow.holds Try.pinned (OpenSpec.upto wakeTracksSpec)

/-- 'glidepathlaw06.WakeFollowed', WHERE WHAT IT READS IS OF BULK AT MOST 1048576: true; the input reads as it did. -/
def wakeFollowedUptoRow : OpenClaim := { program := "ytabkbhpeeefmgaa", sum := "fecbe5a42ee8da6176ce59a99a67b0da91b6451c7cb89cf6bda1237cfa86f28e", func := "glidepath/glidepathlaw06.WakeFollowed", spec := "wakeFollowed", unfollowed := true, recurses := true, apart := false, narrowed := true }
def WakeFollowedUptoSaid : Prop := wakeFollowedUptoRow.holds Try.pinned (OpenSpec.upto wakeFollowedSpec)

/-- 'glidepathlaw06.WakeBoxes', WHERE WHAT IT READS IS OF BULK AT MOST 1048576: true; the input reads as it did. -/
def wakeBoxesUptoRow : OpenClaim := { program := "ytabkbhpeeefmgaa", sum := "fecbe5a42ee8da6176ce59a99a67b0da91b6451c7cb89cf6bda1237cfa86f28e", func := "glidepath/glidepathlaw06.WakeBoxes", spec := "wakeBoxes", unfollowed := true, recurses := true, apart := false, narrowed := true }
def WakeBoxesUptoSaid : Prop := wakeBoxesUptoRow.holds Try.pinned (OpenSpec.upto wakeBoxesSpec)

/-- 'glidepathlaw06.WakeMatrices', WHERE WHAT IT READS IS OF BULK AT MOST 1048576: true; the input reads as it did. -/
def wakeMatricesUptoRow : OpenClaim := { program := "ytabkbhpeeefmgaa", sum := "fecbe5a42ee8da6176ce59a99a67b0da91b6451c7cb89cf6bda1237cfa86f28e", func := "glidepath/glidepathlaw06.WakeMatrices", spec := "wakeMatrices", unfollowed := true, recurses := true, apart := false, narrowed := true }
def WakeMatricesUptoSaid : Prop := wakeMatricesUptoRow.holds Try.pinned (OpenSpec.upto wakeMatricesSpec)

/-- 'glidepathlaw06.WakeLinks', WHERE WHAT IT READS IS OF BULK AT MOST 1048576: true; the input reads as it did. -/
def wakeLinksUptoRow : OpenClaim := { program := "ytabkbhpeeefmgaa", sum := "fecbe5a42ee8da6176ce59a99a67b0da91b6451c7cb89cf6bda1237cfa86f28e", func := "glidepath/glidepathlaw06.WakeLinks", spec := "wakeLinks", unfollowed := true, recurses := true, apart := false, narrowed := true }
def WakeLinksUptoSaid : Prop := wakeLinksUptoRow.holds Try.pinned (OpenSpec.upto wakeLinksSpec)

/-- 'glidepathlaw06.WakePattern', WHERE WHAT IT READS IS OF BULK AT MOST 1048576: true; the input reads as it did. -/
def wakePatternUptoRow : OpenClaim := { program := "ytabkbhpeeefmgaa", sum := "fecbe5a42ee8da6176ce59a99a67b0da91b6451c7cb89cf6bda1237cfa86f28e", func := "glidepath/glidepathlaw06.WakePattern", spec := "wakePattern", unfollowed := true, recurses := true, apart := false, narrowed := true }
def WakePatternUptoSaid : Prop := wakePatternUptoRow.holds Try.pinned (OpenSpec.upto wakePatternSpec)

/-- 'glidepathlaw06.WakeFound', WHERE WHAT IT READS IS OF BULK AT MOST 1048576: true; the input reads as it did. -/
def wakeFoundUptoRow : OpenClaim := { program := "ytabkbhpeeefmgaa", sum := "fecbe5a42ee8da6176ce59a99a67b0da91b6451c7cb89cf6bda1237cfa86f28e", func := "glidepath/glidepathlaw06.WakeFound", spec := "wakeFound", unfollowed := true, recurses := true, apart := false, narrowed := true }
def WakeFoundUptoSaid : Prop := wakeFoundUptoRow.holds Try.pinned (OpenSpec.upto wakeFoundSpec)

/-- 'glidepathlaw06.WakeFree', WHERE WHAT IT READS IS OF BULK AT MOST 1048576: true; the input reads as it did. -/
def wakeFreeUptoRow : OpenClaim := { program := "ytabkbhpeeefmgaa", sum := "fecbe5a42ee8da6176ce59a99a67b0da91b6451c7cb89cf6bda1237cfa86f28e", func := "glidepath/glidepathlaw06.WakeFree", spec := "wakeFree", unfollowed := true, recurses := true, apart := false, narrowed := true }
def WakeFreeUptoSaid : Prop := wakeFreeUptoRow.holds Try.pinned (OpenSpec.upto wakeFreeSpec)

/-- 'glidepathlaw06.WakePaths', WHERE WHAT IT READS IS OF BULK AT MOST 1048576: true; the input reads as it did. -/
def wakePathsUptoRow : OpenClaim := { program := "ytabkbhpeeefmgaa", sum := "fecbe5a42ee8da6176ce59a99a67b0da91b6451c7cb89cf6bda1237cfa86f28e", func := "glidepath/glidepathlaw06.WakePaths", spec := "wakePaths", unfollowed := true, recurses := true, apart := false, narrowed := true }
def WakePathsUptoSaid : Prop := wakePathsUptoRow.holds Try.pinned (OpenSpec.upto wakePathsSpec)

/-- 'glidepathlaw06.WakeEvery', WHERE WHAT IT READS IS OF BULK AT MOST 1048576: true; the input reads as it did. -/
def wakeEveryUptoRow : OpenClaim := { program := "ytabkbhpeeefmgaa", sum := "fecbe5a42ee8da6176ce59a99a67b0da91b6451c7cb89cf6bda1237cfa86f28e", func := "glidepath/glidepathlaw06.WakeEvery", spec := "wakeEvery", unfollowed := true, recurses := true, apart := false, narrowed := true }
def WakeEveryUptoSaid : Prop := wakeEveryUptoRow.holds Try.pinned (OpenSpec.upto wakeEverySpec)

end Rows
end Go.Proofs.Ytabkbhpeeefmgaa
