/-
  No cell of these rows narrows 'for every input' (looked for: loops, veiled, ifaces, maps, wideKeys, modest, calm, conditions, laid).
  DERIVED. THE GIVEN ROWS OF THIS SEAT. 3 by the template 'for every input the law returns true; each argument reads behind the call as it read before'; 0 by the template 'total and deterministic' (their statements: YtabkbhpeeefmgabTotals.lean).
  GIVEN WITH THE SEED: the statements are not yours to turn. If you find one false, say at which input.
  Laid BY PROGRAM, IN A SANDBOX (cutbox-rows.mjs): the forced cells as the released guide's own fill.sh prints them over the translation 94da210d8607e01f… (all of the seat's roots in one cut). By AI agents, Wed Nov 11 2026. No macro, syntax, notation, axiom, sorry.
-/
import Derived.Test.YtabkbhpeeefmgabChecked
import GoSem.Claim
import GoSem.ClaimJoined
import GoSem.ClaimMapViews
import Derived.JoinedTies
import Derived.KernelRfl
namespace Go.Proofs.Ytabkbhpeeefmgab
/- THE CELL 'sum', in the pinned program and in every row, IS THE sha256 OF THE DUMP (.gsa) THAT YtabkbhpeeefmgabProg.lean LOADS. Nothing in Lean hashes anything: it is a label: what it is worth is what the hold of that sum in a sandbox is worth. -/
noncomputable def Try.pinned : Pinned := { name := "ytabkbhpeeefmgab", sum := "94da210d8607e01f7ea3e28431a3230b608511c700f576273d38f23aa1a943cb", checked := Try.checked }
namespace Rows
def none {H : Type} : Left H := { results := [], args := [] }

/-- 'glidepathlaw06.WakeAccepted': WHATEVER THE INPUT: true; the input reads as it did. -/
def wakeAcceptedSpec : ChangeSpec := { name := "wakeAccepted", fn := fun _ => fun
  | [d1, d2] => { results := [.lit (.bool true)], args := [d1, d2] }
  | _ => none }
def wakeAcceptedRow : OpenClaim := { program := "ytabkbhpeeefmgab", sum := "94da210d8607e01f7ea3e28431a3230b608511c700f576273d38f23aa1a943cb", func := "glidepath/glidepathlaw06.WakeAccepted", spec := "wakeAccepted", unfollowed := true, recurses := true, apart := false }
def WakeAcceptedSaid : Prop := wakeAcceptedRow.holds Try.pinned (OpenSpec.ofChange wakeAcceptedSpec)

/-- ITS FALSE NEIGHBOUR: 'it returns false'. Refute it at one input. -/
def wakeAcceptedWrong : ChangeSpec := { name := "wakeAccepted", fn := fun _ => fun
  | [d1, d2] => { results := [.lit (.bool false)], args := [d1, d2] }
  | _ => none }
def WakeAcceptedWrongFalsely : Prop := wakeAcceptedRow.holds Try.pinned (OpenSpec.ofChange wakeAcceptedWrong)

/-- 'glidepathlaw06.WakeCrossed': WHATEVER THE INPUT: true; the input reads as it did. -/
def wakeCrossedSpec : ChangeSpec := { name := "wakeCrossed", fn := fun _ => fun
  | [d1, d2, d3] => { results := [.lit (.bool true)], args := [d1, d2, d3] }
  | _ => none }
def wakeCrossedRow : OpenClaim := { program := "ytabkbhpeeefmgab", sum := "94da210d8607e01f7ea3e28431a3230b608511c700f576273d38f23aa1a943cb", func := "glidepath/glidepathlaw06.WakeCrossed", spec := "wakeCrossed", unfollowed := true, recurses := true, apart := false }
def WakeCrossedSaid : Prop := wakeCrossedRow.holds Try.pinned (OpenSpec.ofChange wakeCrossedSpec)

/-- ITS FALSE NEIGHBOUR: 'it returns false'. Refute it at one input. -/
def wakeCrossedWrong : ChangeSpec := { name := "wakeCrossed", fn := fun _ => fun
  | [d1, d2, d3] => { results := [.lit (.bool false)], args := [d1, d2, d3] }
  | _ => none }
def WakeCrossedWrongFalsely : Prop := wakeCrossedRow.holds Try.pinned (OpenSpec.ofChange wakeCrossedWrong)

/-- 'glidepathlaw06.WakeCheapest': WHATEVER THE INPUT: true; the input reads as it did. -/
def wakeCheapestSpec : ChangeSpec := { name := "wakeCheapest", fn := fun _ => fun
  | [d1, d2] => { results := [.lit (.bool true)], args := [d1, d2] }
  | _ => none }
def wakeCheapestRow : OpenClaim := { program := "ytabkbhpeeefmgab", sum := "94da210d8607e01f7ea3e28431a3230b608511c700f576273d38f23aa1a943cb", func := "glidepath/glidepathlaw06.WakeCheapest", spec := "wakeCheapest", unfollowed := true, recurses := true, apart := false }
def WakeCheapestSaid : Prop := wakeCheapestRow.holds Try.pinned (OpenSpec.ofChange wakeCheapestSpec)

/-- ITS FALSE NEIGHBOUR: 'it returns false'. Refute it at one input. -/
def wakeCheapestWrong : ChangeSpec := { name := "wakeCheapest", fn := fun _ => fun
  | [d1, d2] => { results := [.lit (.bool false)], args := [d1, d2] }
  | _ => none }
def WakeCheapestWrongFalsely : Prop := wakeCheapestRow.holds Try.pinned (OpenSpec.ofChange wakeCheapestWrong)

/- THE SECOND FORM. 'bulk': how many values and letters a reading holds, each counted each time it is reached (what is shared counts as often as it is met; a slice's spare places count too). A statement '..UptoSaid' is the law's where the arguments, and the package variables that the reading takes, are together of bulk at most 1048576: NARROWER than '..Said'. Prove '..Said' where nothing that the law and all that it calls make is longer than what came in: it says more and counts as full. Else prove '..UptoSaid'. A law counts once. -/
mutual
def uptoBulk {H : Type} : DataW H → Nat
  | .lit (.string bytes) => bytes.length + 1
  | .lit _ => 1
  | .nil => 1
  | .ptr d => uptoBulk d + 1
  | .slice elems spare => uptoBulkAll elems + uptoBulkAll spare + 1
  | .agg parts => uptoBulkAll parts + 1
  | .iface _ d => uptoBulk d + 1
  | .map entries => uptoBulkEntries entries + 1
  | .held _ => 1
def uptoBulkAll {H : Type} : List (DataW H) → Nat
  | [] => 0
  | d :: r => uptoBulk d + uptoBulkAll r
def uptoBulkEntries {H : Type} : List (Lit × DataW H) → Nat
  | [] => 0
  | x :: r => uptoBulkEntry x + uptoBulkEntries r
def uptoBulkEntry {H : Type} : Lit × DataW H → Nat
  | (.string bytes, d) => bytes.length + uptoBulk d + 1
  | (_, d) => uptoBulk d + 1
 end
def uptoSmall : (H : Type) → List (DataW H) → Bool := fun _ ds => decide (uptoBulkAll ds ≤ 1048576)
def OpenSpec.upto (s : _root_.Go.ChangeSpec) : _root_.Go.OpenSpec := { _root_.Go.OpenSpec.ofChange s with cond := some uptoSmall }

/-- 'glidepathlaw06.WakeAccepted', WHERE WHAT IT READS IS OF BULK AT MOST 1048576: true; the input reads as it did. -/
def wakeAcceptedUptoRow : OpenClaim := { program := "ytabkbhpeeefmgab", sum := "94da210d8607e01f7ea3e28431a3230b608511c700f576273d38f23aa1a943cb", func := "glidepath/glidepathlaw06.WakeAccepted", spec := "wakeAccepted", unfollowed := true, recurses := true, apart := false, narrowed := true }
def WakeAcceptedUptoSaid : Prop := wakeAcceptedUptoRow.holds Try.pinned (OpenSpec.upto wakeAcceptedSpec)

/-- 'glidepathlaw06.WakeCrossed', WHERE WHAT IT READS IS OF BULK AT MOST 1048576: true; the input reads as it did. -/
def wakeCrossedUptoRow : OpenClaim := { program := "ytabkbhpeeefmgab", sum := "94da210d8607e01f7ea3e28431a3230b608511c700f576273d38f23aa1a943cb", func := "glidepath/glidepathlaw06.WakeCrossed", spec := "wakeCrossed", unfollowed := true, recurses := true, apart := false, narrowed := true }
def WakeCrossedUptoSaid : Prop := wakeCrossedUptoRow.holds Try.pinned (OpenSpec.upto wakeCrossedSpec)

/-- 'glidepathlaw06.WakeCheapest', WHERE WHAT IT READS IS OF BULK AT MOST 1048576: true; the input reads as it did. -/
def wakeCheapestUptoRow : OpenClaim := { program := "ytabkbhpeeefmgab", sum := "94da210d8607e01f7ea3e28431a3230b608511c700f576273d38f23aa1a943cb", func := "glidepath/glidepathlaw06.WakeCheapest", spec := "wakeCheapest", unfollowed := true, recurses := true, apart := false, narrowed := true }
def WakeCheapestUptoSaid : Prop := wakeCheapestUptoRow.holds Try.pinned (OpenSpec.upto wakeCheapestSpec)

end Rows
end Go.Proofs.Ytabkbhpeeefmgab
