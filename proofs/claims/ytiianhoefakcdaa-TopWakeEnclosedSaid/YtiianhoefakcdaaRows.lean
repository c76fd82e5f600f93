/-
  NARROWER THAN 'FOR EVERY INPUT', by the rows' own cells (each row's printed sentence says how): TopScanTurned: loops.
  DERIVED. THE GIVEN ROWS OF THIS SEAT. 3 by the template 'for every input the law returns true; each argument reads behind the call as it read before'; 0 by the template 'total and deterministic' (their statements: YtiianhoefakcdaaTotals.lean).
  GIVEN WITH THE SEED: the statements are not yours to turn. If you find one false, say at which input.
  Laid BY PROGRAM, IN A SANDBOX (cutbox-rows.mjs): the forced cells as the released guide's own fill.sh prints them over the translation 444d88dc5fc6a90b… (all of the seat's roots in one cut). By AI agents, Wed Nov 11 2026. No macro, syntax, notation, axiom, sorry.
-/
import Derived.Test.YtiianhoefakcdaaChecked
import GoSem.Claim
import GoSem.ClaimJoined
import GoSem.ClaimMapViews
import Derived.JoinedTies
import Derived.KernelRfl
namespace Go.Proofs.Ytiianhoefakcdaa
/- THE CELL 'sum', in the pinned program and in every row, IS THE sha256 OF THE DUMP (.gsa) THAT YtiianhoefakcdaaProg.lean LOADS. Nothing in Lean hashes anything: it is a label: what it is worth is what the hold of that sum in a sandbox is worth. -/
noncomputable def Try.pinned : Pinned := { name := "ytiianhoefakcdaa", sum := "444d88dc5fc6a90bea8f5a0b98b7d44349b17aa230a106d033e017f83ae2143c", checked := Try.checked }
namespace Rows
def none {H : Type} : Left H := { results := [], args := [] }

/-- 'glidepathtop.TopWakeEnclosed': WHATEVER THE INPUT: true; the input reads as it did. -/
def topWakeEnclosedSpec : ChangeSpec := { name := "topWakeEnclosed", fn := fun _ => fun
  | [d1, d2, d3] => { results := [.lit (.bool true)], args := [d1, d2, d3] }
  | _ => none }
def topWakeEnclosedRow : OpenClaim := { program := "ytiianhoefakcdaa", sum := "444d88dc5fc6a90bea8f5a0b98b7d44349b17aa230a106d033e017f83ae2143c", func := "glidepath/glidepathtop.TopWakeEnclosed", spec := "topWakeEnclosed", apart := false }
def TopWakeEnclosedSaid : Prop := topWakeEnclosedRow.holds Try.pinned (OpenSpec.ofChange topWakeEnclosedSpec)

/-- ITS FALSE NEIGHBOUR: 'it returns false'. Refute it at one input. -/
def topWakeEnclosedWrong : ChangeSpec := { name := "topWakeEnclosed", fn := fun _ => fun
  | [d1, d2, d3] => { results := [.lit (.bool false)], args := [d1, d2, d3] }
  | _ => none }
def TopWakeEnclosedWrongFalsely : Prop := topWakeEnclosedRow.holds Try.pinned (OpenSpec.ofChange topWakeEnclosedWrong)

/-- 'glidepathtop.TopPulseSpeed': WHATEVER THE INPUT: true; the input reads as it did. -/
def topPulseSpeedSpec : ChangeSpec := { name := "topPulseSpeed", fn := fun _ => fun
  | [d1, d2, d3] => { results := [.lit (.bool true)], args := [d1, d2, d3] }
  | _ => none }
def topPulseSpeedRow : OpenClaim := { program := "ytiianhoefakcdaa", sum := "444d88dc5fc6a90bea8f5a0b98b7d44349b17aa230a106d033e017f83ae2143c", func := "glidepath/glidepathtop.TopPulseSpeed", spec := "topPulseSpeed", unfollowed := true, recurses := true, apart := false }
def TopPulseSpeedSaid : Prop := topPulseSpeedRow.holds Try.pinned (OpenSpec.ofChange topPulseSpeedSpec)

/-- ITS FALSE NEIGHBOUR: 'it returns false'. Refute it at one input. -/
def topPulseSpeedWrong : ChangeSpec := { name := "topPulseSpeed", fn := fun _ => fun
  | [d1, d2, d3] => { results := [.lit (.bool false)], args := [d1, d2, d3] }
  | _ => none }
def TopPulseSpeedWrongFalsely : Prop := topPulseSpeedRow.holds Try.pinned (OpenSpec.ofChange topPulseSpeedWrong)

/-- 'glidepathtop.TopScanTurned': WHATEVER THE INPUT: true; the input reads as it did. -/
def topScanTurnedSpec : ChangeSpec := { name := "topScanTurned", fn := fun _ => fun
  | [d1, d2, d3] => { results := [.lit (.bool true)], args := [d1, d2, d3] }
  | _ => none }
def topScanTurnedRow : OpenClaim := { program := "ytiianhoefakcdaa", sum := "444d88dc5fc6a90bea8f5a0b98b7d44349b17aa230a106d033e017f83ae2143c", func := "glidepath/glidepathtop.TopScanTurned", spec := "topScanTurned", unfollowed := true, recurses := true, loops := true, apart := false }
def TopScanTurnedSaid : Prop := topScanTurnedRow.holds Try.pinned (OpenSpec.ofChange topScanTurnedSpec)

/-- ITS FALSE NEIGHBOUR: 'it returns false'. Refute it at one input. -/
def topScanTurnedWrong : ChangeSpec := { name := "topScanTurned", fn := fun _ => fun
  | [d1, d2, d3] => { results := [.lit (.bool false)], args := [d1, d2, d3] }
  | _ => none }
def TopScanTurnedWrongFalsely : Prop := topScanTurnedRow.holds Try.pinned (OpenSpec.ofChange topScanTurnedWrong)

/- THE SECOND FORM. 'bulk': how many values and letters a reading holds, each counted each time it is reached (what is shared counts as often as it is met; a slice's spare places count too). A statement '..UptoSaid' is the law's where the arguments, and the package variables that the reading takes, are together of bulk at most 1048576: NARROWER than '..Said'. Prove '..Said' where nothing that the law and all that it calls make is longer than what came in: it says more and counts as full. Else prove '..UptoSaid'. A law counts once. -/
mutual
def uptoBulk {H : Type} : DataW H → Nat
  | .lit (.string bytes) => bytes.length + 1
  | .lit _ => 1
  | .nil => 1
  | .ptr d => uptoBulk d + 1
  | .slice elems spare => uptoBulkAll elems + uptoBulkAll spare + 1
  | .agg parts => uptoBulkAll parts + 1
  | .iface _ d => uptoBulk d + 1
  | .map entries => uptoBulkEntries entries + 1
  | .held _ => 1
def uptoBulkAll {H : Type} : List (DataW H) → Nat
  | [] => 0
  | d :: r => uptoBulk d + uptoBulkAll r
def uptoBulkEntries {H : Type} : List (Lit × DataW H) → Nat
  | [] => 0
  | x :: r => uptoBulkEntry x + uptoBulkEntries r
def uptoBulkEntry {H : Type} : Lit × DataW H → Nat
  | (.string bytes, d) => bytes.length + uptoBulk d + 1
  | (_, d) => uptoBulk d + 1
 end
def uptoSmall : (H : Type) → List (DataW H) → Bool := fun _ ds => decide (uptoBulkAll ds ≤ 1048576)
def OpenSpec.upto (s : _root_.Go.ChangeSpec) : _root_.Go.OpenSpec := { _root_.Go.OpenSpec.ofChange s with cond := some uptoSmall }

/-- 'glidepathtop.TopWakeEnclosed', WHERE WHAT IT READS IS OF BULK AT MOST 1048576: true; the input reads as it did. -/
def topWakeEnclosedUptoRow : OpenClaim := { program := "ytiianhoefakcdaa", sum := "444d88dc5fc6a90bea8f5a0b98b7d44349b17aa230a106d033e017f83ae2143c", func := "glidepath/glidepathtop.TopWakeEnclosed", spec := "topWakeEnclosed", apart := false, narrowed := true }
def TopWakeEnclosedUptoSaid : Prop := topWakeEnclosedUptoRow.holds Try.pinned (OpenSpec.upto topWakeEnclosedSpec)

/-- 'glidepathtop.TopPulseSpeed', WHERE WHAT IT READS IS OF BULK AT MOST 1048576: true; the input reads as it did. -/
def topPulseSpeedUptoRow : OpenClaim := { program := "ytiianhoefakcdaa", sum := "444d88dc5fc6a90bea8f5a0b98b7d44349b17aa230a106d033e017f83ae2143c", func := "glidepath/glidepathtop.TopPulseSpeed", spec := "topPulseSpeed", unfollowed := true, recurses := true, apart := false, narrowed := true }
def TopPulseSpeedUptoSaid : Prop := topPulseSpeedUptoRow.holds Try.pinned (OpenSpec.upto topPulseSpeedSpec)

/-- 'glidepathtop.TopScanTurned', WHERE WHAT IT READS IS OF BULK AT MOST 1048576: true; the input reads as it did. -/
def topScanTurnedUptoRow : OpenClaim := { program := "ytiianhoefakcdaa", sum := "444d88dc5fc6a90bea8f5a0b98b7d44349b17aa230a106d033e017f83ae2143c", func := "glidepath/glidepathtop.TopScanTurned", spec := "topScanTurned", unfollowed := true, recurses := true, loops := true, apart := false, narrowed := true }
def TopScanTurnedUptoSaid : Prop := topScanTurnedUptoRow.holds Try.pinned (OpenSpec.upto topScanTurnedSpec)

end Rows
end Go.Proofs.Ytiianhoefakcdaa
