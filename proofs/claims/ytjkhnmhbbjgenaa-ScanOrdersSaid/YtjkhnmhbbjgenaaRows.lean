/-
  NARROWER THAN 'FOR EVERY INPUT', by the rows' own cells (each row's printed sentence says how): ScanPrograms: loops · ScanRuns: loops · ScanWritten: loops · ScanNeverLit: loops · ScanRequests: loops.
  DERIVED. THE GIVEN ROWS OF THIS SEAT. 12 by the template 'for every input the law returns true; each argument reads behind the call as it read before'; 0 by the template 'total and deterministic' (their statements: YtjkhnmhbbjgenaaTotals.lean).
  GIVEN WITH THE SEED: the statements are not yours to turn. If you find one false, say at which input.
  Laid BY PROGRAM, IN A SANDBOX (cutbox-rows.mjs): the forced cells as the released guide's own fill.sh prints them over the translation 5cfe4f53ae892915… (all of the seat's roots in one cut). By AI agents, Wed Nov 11 2026. No macro, syntax, notation, axiom, sorry.
-/
import Derived.Test.YtjkhnmhbbjgenaaChecked
import GoSem.Claim
import GoSem.ClaimJoined
import GoSem.ClaimMapViews
import Derived.JoinedTies
import Derived.KernelRfl
namespace Go.Proofs.Ytjkhnmhbbjgenaa
/- THE CELL 'sum', in the pinned program and in every row, IS THE sha256 OF THE DUMP (.gsa) THAT YtjkhnmhbbjgenaaProg.lean LOADS. Nothing in Lean hashes anything: it is a label: what it is worth is what the hold of that sum in a sandbox is worth. -/
noncomputable def Try.pinned : Pinned := { name := "ytjkhnmhbbjgenaa", sum := "5cfe4f53ae892915665b22d50323b170e968a9baac27e0915b1bfa3908714304", checked := Try.checked }
namespace Rows
def none {H : Type} : Left H := { results := [], args := [] }

/-- 'glidepathlaw03.ScanPrograms': WHATEVER THE INPUT: true; the input reads as it did. -/
def scanProgramsSpec : ChangeSpec := { name := "scanPrograms", fn := fun _ => fun
  | [d] => { results := [.lit (.bool true)], args := [d] }
  | _ => none }
def scanProgramsRow : OpenClaim := { program := "ytjkhnmhbbjgenaa", sum := "5cfe4f53ae892915665b22d50323b170e968a9baac27e0915b1bfa3908714304", func := "glidepath/glidepathlaw03.ScanPrograms", spec := "scanPrograms", unfollowed := true, recurses := true, loops := true, apart := false }
def ScanProgramsSaid : Prop := scanProgramsRow.holds Try.pinned (OpenSpec.ofChange scanProgramsSpec)

/-- ITS FALSE NEIGHBOUR: 'it returns false'. Refute it at one input. -/
def scanProgramsWrong : ChangeSpec := { name := "scanPrograms", fn := fun _ => fun
  | [d] => { results := [.lit (.bool false)], args := [d] }
  | _ => none }
def ScanProgramsWrongFalsely : Prop := scanProgramsRow.holds Try.pinned (OpenSpec.ofChange scanProgramsWrong)

/-- 'glidepathlaw03.ScanRuns': WHATEVER THE INPUT: true; the input reads as it did. -/
def scanRunsSpec : ChangeSpec := { name := "scanRuns", fn := fun _ => fun
  | [d1, d2] => { results := [.lit (.bool true)], args := [d1, d2] }
  | _ => none }
def scanRunsRow : OpenClaim := { program := "ytjkhnmhbbjgenaa", sum := "5cfe4f53ae892915665b22d50323b170e968a9baac27e0915b1bfa3908714304", func := "glidepath/glidepathlaw03.ScanRuns", spec := "scanRuns", unfollowed := true, recurses := true, loops := true, apart := false }
def ScanRunsSaid : Prop := scanRunsRow.holds Try.pinned (OpenSpec.ofChange scanRunsSpec)

/-- ITS FALSE NEIGHBOUR: 'it returns false'. Refute it at one input. -/
def scanRunsWrong : ChangeSpec := { name := "scanRuns", fn := fun _ => fun
  | [d1, d2] => { results := [.lit (.bool false)], args := [d1, d2] }
  | _ => none }
def ScanRunsWrongFalsely : Prop := scanRunsRow.holds Try.pinned (OpenSpec.ofChange scanRunsWrong)

/-- 'glidepathlaw03.ScanDrives': WHATEVER THE INPUT: true; the input reads as it did. -/
def scanDrivesSpec : ChangeSpec := { name := "scanDrives", fn := fun _ => fun
  | [d1, d2, d3] => { results := [.lit (.bool true)], args := [d1, d2, d3] }
  | _ => none }
def scanDrivesRow : OpenClaim := { program := "ytjkhnmhbbjgenaa", sum := "5cfe4f53ae892915665b22d50323b170e968a9baac27e0915b1bfa3908714304", func := "glidepath/glidepathlaw03.ScanDrives", spec := "scanDrives", unfollowed := true, recurses := true, apart := false }
def ScanDrivesSaid : Prop := scanDrivesRow.holds Try.pinned (OpenSpec.ofChange scanDrivesSpec)

/-- ITS FALSE NEIGHBOUR: 'it returns false'. Refute it at one input. -/
def scanDrivesWrong : ChangeSpec := { name := "scanDrives", fn := fun _ => fun
  | [d1, d2, d3] => { results := [.lit (.bool false)], args := [d1, d2, d3] }
  | _ => none }
def ScanDrivesWrongFalsely : Prop := scanDrivesRow.holds Try.pinned (OpenSpec.ofChange scanDrivesWrong)

/-- 'glidepathlaw03.ScanSoonest': WHATEVER THE INPUT: true; the input reads as it did. -/
def scanSoonestSpec : ChangeSpec := { name := "scanSoonest", fn := fun _ => fun
  | [d1, d2] => { results := [.lit (.bool true)], args := [d1, d2] }
  | _ => none }
def scanSoonestRow : OpenClaim := { program := "ytjkhnmhbbjgenaa", sum := "5cfe4f53ae892915665b22d50323b170e968a9baac27e0915b1bfa3908714304", func := "glidepath/glidepathlaw03.ScanSoonest", spec := "scanSoonest", unfollowed := true, recurses := true, apart := false }
def ScanSoonestSaid : Prop := scanSoonestRow.holds Try.pinned (OpenSpec.ofChange scanSoonestSpec)

/-- ITS FALSE NEIGHBOUR: 'it returns false'. Refute it at one input. -/
def scanSoonestWrong : ChangeSpec := { name := "scanSoonest", fn := fun _ => fun
  | [d1, d2] => { results := [.lit (.bool false)], args := [d1, d2] }
  | _ => none }
def ScanSoonestWrongFalsely : Prop := scanSoonestRow.holds Try.pinned (OpenSpec.ofChange scanSoonestWrong)

/-- 'glidepathlaw03.ScanHeads': WHATEVER THE INPUT: true; the input reads as it did. -/
def scanHeadsSpec : ChangeSpec := { name := "scanHeads", fn := fun _ => fun
  | [d1, d2] => { results := [.lit (.bool true)], args := [d1, d2] }
  | _ => none }
def scanHeadsRow : OpenClaim := { program := "ytjkhnmhbbjgenaa", sum := "5cfe4f53ae892915665b22d50323b170e968a9baac27e0915b1bfa3908714304", func := "glidepath/glidepathlaw03.ScanHeads", spec := "scanHeads", unfollowed := true, recurses := true, apart := false }
def ScanHeadsSaid : Prop := scanHeadsRow.holds Try.pinned (OpenSpec.ofChange scanHeadsSpec)

/-- ITS FALSE NEIGHBOUR: 'it returns false'. Refute it at one input. -/
def scanHeadsWrong : ChangeSpec := { name := "scanHeads", fn := fun _ => fun
  | [d1, d2] => { results := [.lit (.bool false)], args := [d1, d2] }
  | _ => none }
def ScanHeadsWrongFalsely : Prop := scanHeadsRow.holds Try.pinned (OpenSpec.ofChange scanHeadsWrong)

/-- 'glidepathlaw03.ScanWritten': WHATEVER THE INPUT: true; the input reads as it did. -/
def scanWrittenSpec : ChangeSpec := { name := "scanWritten", fn := fun _ => fun
  | [d1, d2] => { results := [.lit (.bool true)], args := [d1, d2] }
  | _ => none }
def scanWrittenRow : OpenClaim := { program := "ytjkhnmhbbjgenaa", sum := "5cfe4f53ae892915665b22d50323b170e968a9baac27e0915b1bfa3908714304", func := "glidepath/glidepathlaw03.ScanWritten", spec := "scanWritten", unfollowed := true, recurses := true, loops := true, apart := false }
def ScanWrittenSaid : Prop := scanWrittenRow.holds Try.pinned (OpenSpec.ofChange scanWrittenSpec)

/-- ITS FALSE NEIGHBOUR: 'it returns false'. Refute it at one input. -/
def scanWrittenWrong : ChangeSpec := { name := "scanWritten", fn := fun _ => fun
  | [d1, d2] => { results := [.lit (.bool false)], args := [d1, d2] }
  | _ => none }
def ScanWrittenWrongFalsely : Prop := scanWrittenRow.holds Try.pinned (OpenSpec.ofChange scanWrittenWrong)

/-- 'glidepathlaw03.ScanNeverLit': WHATEVER THE INPUT: true; the input reads as it did. -/
def scanNeverLitSpec : ChangeSpec := { name := "scanNeverLit", fn := fun _ => fun
  | [d1, d2] => { results := [.lit (.bool true)], args := [d1, d2] }
  | _ => none }
def scanNeverLitRow : OpenClaim := { program := "ytjkhnmhbbjgenaa", sum := "5cfe4f53ae892915665b22d50323b170e968a9baac27e0915b1bfa3908714304", func := "glidepath/glidepathlaw03.ScanNeverLit", spec := "scanNeverLit", unfollowed := true, recurses := true, loops := true, apart := false }
def ScanNeverLitSaid : Prop := scanNeverLitRow.holds Try.pinned (OpenSpec.ofChange scanNeverLitSpec)

/-- ITS FALSE NEIGHBOUR: 'it returns false'. Refute it at one input. -/
def scanNeverLitWrong : ChangeSpec := { name := "scanNeverLit", fn := fun _ => fun
  | [d1, d2] => { results := [.lit (.bool false)], args := [d1, d2] }
  | _ => none }
def ScanNeverLitWrongFalsely : Prop := scanNeverLitRow.holds Try.pinned (OpenSpec.ofChange scanNeverLitWrong)

/-- 'glidepathlaw03.ScanRequests': WHATEVER THE INPUT: true; the input reads as it did. -/
def scanRequestsSpec : ChangeSpec := { name := "scanRequests", fn := fun _ => fun
  | [d1, d2, d3] => { results := [.lit (.bool true)], args := [d1, d2, d3] }
  | _ => none }
def scanRequestsRow : OpenClaim := { program := "ytjkhnmhbbjgenaa", sum := "5cfe4f53ae892915665b22d50323b170e968a9baac27e0915b1bfa3908714304", func := "glidepath/glidepathlaw03.ScanRequests", spec := "scanRequests", unfollowed := true, recurses := true, loops := true, apart := false }
def ScanRequestsSaid : Prop := scanRequestsRow.holds Try.pinned (OpenSpec.ofChange scanRequestsSpec)

/-- ITS FALSE NEIGHBOUR: 'it returns false'. Refute it at one input. -/
def scanRequestsWrong : ChangeSpec := { name := "scanRequests", fn := fun _ => fun
  | [d1, d2, d3] => { results := [.lit (.bool false)], args := [d1, d2, d3] }
  | _ => none }
def ScanRequestsWrongFalsely : Prop := scanRequestsRow.holds Try.pinned (OpenSpec.ofChange scanRequestsWrong)

/-- 'glidepathlaw03.ScanOrders': WHATEVER THE INPUT: true; the input reads as it did. -/
def scanOrdersSpec : ChangeSpec := { name := "scanOrders", fn := fun _ => fun
  | [d1, d2, d3] => { results := [.lit (.bool true)], args := [d1, d2, d3] }
  | _ => none }
def scanOrdersRow : OpenClaim := { program := "ytjkhnmhbbjgenaa", sum := "5cfe4f53ae892915665b22d50323b170e968a9baac27e0915b1bfa3908714304", func := "glidepath/glidepathlaw03.ScanOrders", spec := "scanOrders", unfollowed := true, recurses := true, apart := false }
def ScanOrdersSaid : Prop := scanOrdersRow.holds Try.pinned (OpenSpec.ofChange scanOrdersSpec)

/-- ITS FALSE NEIGHBOUR: 'it returns false'. Refute it at one input. -/
def scanOrdersWrong : ChangeSpec := { name := "scanOrders", fn := fun _ => fun
  | [d1, d2, d3] => { results := [.lit (.bool false)], args := [d1, d2, d3] }
  | _ => none }
def ScanOrdersWrongFalsely : Prop := scanOrdersRow.holds Try.pinned (OpenSpec.ofChange scanOrdersWrong)

/-- 'glidepathlaw03.ScanBest': WHATEVER THE INPUT: true; the input reads as it did. -/
def scanBestSpec : ChangeSpec := { name := "scanBest", fn := fun _ => fun
  | [d1, d2, d3] => { results := [.lit (.bool true)], args := [d1, d2, d3] }
  | _ => none }
def scanBestRow : OpenClaim := { program := "ytjkhnmhbbjgenaa", sum := "5cfe4f53ae892915665b22d50323b170e968a9baac27e0915b1bfa3908714304", func := "glidepath/glidepathlaw03.ScanBest", spec := "scanBest", unfollowed := true, recurses := true, apart := false }
def ScanBestSaid : Prop := scanBestRow.holds Try.pinned (OpenSpec.ofChange scanBestSpec)

/-- ITS FALSE NEIGHBOUR: 'it returns false'. Refute it at one input. -/
def scanBestWrong : ChangeSpec := { name := "scanBest", fn := fun _ => fun
  | [d1, d2, d3] => { results := [.lit (.bool false)], args := [d1, d2, d3] }
  | _ => none }
def ScanBestWrongFalsely : Prop := scanBestRow.holds Try.pinned (OpenSpec.ofChange scanBestWrong)

/-- 'glidepathlaw03.ScanMoves': WHATEVER THE INPUT: true; the input reads as it did. -/
def scanMovesSpec : ChangeSpec := { name := "scanMoves", fn := fun _ => fun
  | [d1, d2, d3] => { results := [.lit (.bool true)], args := [d1, d2, d3] }
  | _ => none }
def scanMovesRow : OpenClaim := { program := "ytjkhnmhbbjgenaa", sum := "5cfe4f53ae892915665b22d50323b170e968a9baac27e0915b1bfa3908714304", func := "glidepath/glidepathlaw03.ScanMoves", spec := "scanMoves", unfollowed := true, recurses := true, apart := false }
def ScanMovesSaid : Prop := scanMovesRow.holds Try.pinned (OpenSpec.ofChange scanMovesSpec)

/-- ITS FALSE NEIGHBOUR: 'it returns false'. Refute it at one input. -/
def scanMovesWrong : ChangeSpec := { name := "scanMoves", fn := fun _ => fun
  | [d1, d2, d3] => { results := [.lit (.bool false)], args := [d1, d2, d3] }
  | _ => none }
def ScanMovesWrongFalsely : Prop := scanMovesRow.holds Try.pinned (OpenSpec.ofChange scanMovesWrong)

/-- 'glidepathlaw03.ScanWays': WHATEVER THE INPUT: true; the input reads as it did. -/
def scanWaysSpec : ChangeSpec := { name := "scanWays", fn := fun _ => fun
  | [d1, d2, d3] => { results := [.lit (.bool true)], args := [d1, d2, d3] }
  | _ => none }
def scanWaysRow : OpenClaim := { program := "ytjkhnmhbbjgenaa", sum := "5cfe4f53ae892915665b22d50323b170e968a9baac27e0915b1bfa3908714304", func := "glidepath/glidepathlaw03.ScanWays", spec := "scanWays", unfollowed := true, recurses := true, apart := false }
def ScanWaysSaid : Prop := scanWaysRow.holds Try.pinned (OpenSpec.ofChange scanWaysSpec)

/-- ITS FALSE NEIGHBOUR: 'it returns false'. Refute it at one input. -/
def scanWaysWrong : ChangeSpec := { name := "scanWays", fn := fun _ => fun
  | [d1, d2, d3] => { results := [.lit (.bool false)], args := [d1, d2, d3] }
  | _ => none }
def ScanWaysWrongFalsely : Prop := scanWaysRow.holds Try.pinned (OpenSpec.ofChange scanWaysWrong)

/- THE SECOND FORM. 'bulk': how many values and letters a reading holds, each counted each time it is reached (what is shared counts as often as it is met; a slice's spare places count too). A statement '..UptoSaid' is the law's where the arguments, and the package variables that the reading takes, are together of bulk at most 1048576: NARROWER than '..Said'. Prove '..Said' where nothing that the law and all that it calls make is longer than what came in: it says more and counts as full. Else prove '..UptoSaid'. A law counts once. -/
mutual
def uptoBulk {H : Type} : DataW H → Nat
  | .lit (.string bytes) => bytes.length + 1
  | .lit _ => 1
  | .nil => 1
  | .ptr d => uptoBulk d + 1
  | .slice elems spare => uptoBulkAll elems + uptoBulkAll spare + 1
  | .agg parts => uptoBulkAll parts + 1
  | .iface _ d => uptoBulk d + 1
  | .map entries => uptoBulkEntries entries + 1
  | .held _ => 1
def uptoBulkAll {H : Type} : List (DataW H) → Nat
  | [] => 0
  | d :: r => uptoBulk d + uptoBulkAll r
def uptoBulkEntries {H : Type} : List (Lit × DataW H) → Nat
  | [] => 0
  | x :: r => uptoBulkEntry x + uptoBulkEntries r
def uptoBulkEntry {H : Type} : Lit × DataW H → Nat
  | (.string bytes, d) => bytes.length + uptoBulk d + 1
  | (_, d) => uptoBulk d + 1
 end
def uptoSmall : (H : Type) → List (DataW H) → Bool := fun _ ds => decide (uptoBulkAll ds ≤ 1048576)
def OpenSpec.upto (s : _root_.Go.ChangeSpec) : _root_.Go.OpenSpec := { _root_.Go.OpenSpec.ofChange s with cond := some uptoSmall }

/-- 'glidepathlaw03.ScanPrograms', WHERE WHAT IT READS IS OF BULK AT MOST 1048576: true; the input reads as it did. -/
def scanProgramsUptoRow : OpenClaim := { program := "ytjkhnmhbbjgenaa", sum := "5cfe4f53ae892915665b22d50323b170e968a9baac27e0915b1bfa3908714304", func := "glidepath/glidepathlaw03.ScanPrograms", spec := "scanPrograms", unfollowed := true, recurses := true, loops := true, apart := false, narrowed := true }
def ScanProgramsUptoSaid : Prop := scanProgramsUptoRow.holds Try.pinned (OpenSpec.upto scanProgramsSpec)

/-- 'glidepathlaw03.ScanRuns', WHERE WHAT IT READS IS OF BULK AT MOST 1048576: true; the input reads as it did. -/
def scanRunsUptoRow : OpenClaim := { program := "ytjkhnmhbbjgenaa", sum := "5cfe4f53ae892915665b22d50323b170e968a9baac27e0915b1bfa3908714304", func := "glidepath/glidepathlaw03.ScanRuns", spec := "scanRuns", unfollowed := true, recurses := true, loops := true, apart := false, narrowed := true }
def ScanRunsUptoSaid : Prop := scanRunsUptoRow.holds Try.pinned (OpenSpec.upto scanRunsSpec)

/-- 'glidepathlaw03.ScanDrives', WHERE WHAT IT READS IS OF BULK AT MOST 1048576: true; the input reads as it did. -/
def scanDrivesUptoRow : OpenClaim := { program := "ytjkhnmhbbjgenaa", sum := "5cfe4f53ae892915665b22d50323b170e968a9baac27e0915b1bfa3908714304", func := "glidepath/glidepathlaw03.ScanDrives", spec := "scanDrives", unfollowed := true, recurses := true, apart := false, narrowed := true }
def ScanDrivesUptoSaid : Prop := scanDrivesUptoRow.holds Try.pinned (OpenSpec.upto scanDrivesSpec)

/-- 'glidepathlaw03.ScanSoonest', WHERE WHAT IT READS IS OF BULK AT MOST 1048576: true; the input reads as it did. -/
def scanSoonestUptoRow : OpenClaim := { program := "ytjkhnmhbbjgenaa", sum := "5cfe4f53ae892915665b22d50323b170e968a9baac27e0915b1bfa3908714304", func := "glidepath/glidepathlaw03.ScanSoonest", spec := "scanSoonest", unfollowed := true, recurses := true, apart := false, narrowed := true }
def ScanSoonestUptoSaid : Prop := scanSoonestUptoRow.holds Try.pinned (OpenSpec.upto scanSoonestSpec)

/-- 'glidepathlaw03.ScanHeads', WHERE WHAT IT READS IS OF BULK AT MOST 1048576: true; the input reads as it did. -/
def scanHeadsUptoRow : OpenClaim := { program := "ytjkhnmhbbjgenaa", sum := "5cfe4f53ae892915665b22d50323b170e968a9baac27e0915b1bfa3908714304", func := "glidepath/glidepathlaw03.ScanHeads", spec := "scanHeads", unfollowed := true, recurses := true, apart := false, narrowed := true }
def ScanHeadsUptoSaid : Prop := scanHeadsUptoRow.holds Try.pinned (OpenSpec.upto scanHeadsSpec)

/-- 'glidepathlaw03.ScanWritten', WHERE WHAT IT READS IS OF BULK AT MOST 1048576: true; the input reads as it did. -/
def scanWrittenUptoRow : OpenClaim := { program := "ytjkhnmhbbjgenaa", sum := "5cfe4f53ae892915665b22d50323b170e968a9baac27e0915b1bfa3908714304", func := "glidepath/glidepathlaw03.ScanWritten", spec := "scanWritten", unfollowed := true, recurses := true, loops := true, apart := false, narrowed := true }
def ScanWrittenUptoSaid : Prop := scanWrittenUptoRow.holds Try.pinned (OpenSpec.upto scanWrittenSpec)

/-- 'glidepathlaw03.ScanNeverLit', WHERE WHAT IT READS IS OF BULK AT MOST 1048576: true; the input reads as it did. -/
def scanNeverLitUptoRow : OpenClaim := { program := "ytjkhnmhbbjgenaa", sum := "5cfe4f53ae892915665b22d50323b170e968a9baac27e0915b1bfa3908714304", func := "glidepath/glidepathlaw03.ScanNeverLit", spec := "scanNeverLit", unfollowed := true, recurses := true, loops := true, apart := false, narrowed := true }
def ScanNeverLitUptoSaid : Prop := scanNeverLitUptoRow.holds Try.pinned (OpenSpec.upto scanNeverLitSpec)

/-- 'glidepathlaw03.ScanRequests', WHERE WHAT IT READS IS OF BULK AT MOST 1048576: true; the input reads as it did. -/
def scanRequestsUptoRow : OpenClaim := { program := "ytjkhnmhbbjgenaa", sum := "5cfe4f53ae892915665b22d50323b170e968a9baac27e0915b1bfa3908714304", func := "glidepath/glidepathlaw03.ScanRequests", spec := "scanRequests", unfollowed := true, recurses := true, loops := true, apart := false, narrowed := true }
def ScanRequestsUptoSaid : Prop := scanRequestsUptoRow.holds Try.pinned (OpenSpec.upto scanRequestsSpec)

/-- 'glidepathlaw03.ScanOrders', WHERE WHAT IT READS IS OF BULK AT MOST 1048576: true; the input reads as it did. -/
def scanOrdersUptoRow : OpenClaim := { program := "ytjkhnmhbbjgenaa", sum := "5cfe4f53ae892915665b22d50323b170e968a9baac27e0915b1bfa3908714304", func := "glidepath/glidepathlaw03.ScanOrders", spec := "scanOrders", unfollowed := true, recurses := true, apart := false, narrowed := true }
def ScanOrdersUptoSaid : Prop := scanOrdersUptoRow.holds Try.pinned (OpenSpec.upto scanOrdersSpec)

/-- 'glidepathlaw03.ScanBest', WHERE WHAT IT READS IS OF BULK AT MOST 1048576: true; the input reads as it did. -/
def scanBestUptoRow : OpenClaim := { program := "ytjkhnmhbbjgenaa", sum := "5cfe4f53ae892915665b22d50323b170e968a9baac27e0915b1bfa3908714304", func := "glidepath/glidepathlaw03.ScanBest", spec := "scanBest", unfollowed := true, recurses := true, apart := false, narrowed := true }
def ScanBestUptoSaid : Prop := scanBestUptoRow.holds Try.pinned (OpenSpec.upto scanBestSpec)

/-- 'glidepathlaw03.ScanMoves', WHERE WHAT IT READS IS OF BULK AT MOST 1048576: true; the input reads as it did. -/
def scanMovesUptoRow : OpenClaim := { program := "ytjkhnmhbbjgenaa", sum := "5cfe4f53ae892915665b22d50323b170e968a9baac27e0915b1bfa3908714304", func := "glidepath/glidepathlaw03.ScanMoves", spec := "scanMoves", unfollowed := true, recurses := true, apart := false, narrowed := true }
def ScanMovesUptoSaid : Prop := scanMovesUptoRow.holds Try.pinned (OpenSpec.upto scanMovesSpec)

/-- 'glidepathlaw03.ScanWays', WHERE WHAT IT READS IS OF BULK AT MOST 1048576: true; the input reads as it did. -/
def scanWaysUptoRow : OpenClaim := { program := "ytjkhnmhbbjgenaa", sum := "5cfe4f53ae892915665b22d50323b170e968a9baac27e0915b1bfa3908714304", func := "glidepath/glidepathlaw03.ScanWays", spec := "scanWays", unfollowed := true, recurses := true, apart := false, narrowed := true }
def ScanWaysUptoSaid : Prop := scanWaysUptoRow.holds Try.pinned (OpenSpec.upto scanWaysSpec)

end Rows
end Go.Proofs.Ytjkhnmhbbjgenaa
