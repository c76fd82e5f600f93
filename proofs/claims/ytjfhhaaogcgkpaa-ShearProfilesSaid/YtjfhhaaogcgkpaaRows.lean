/-
  No cell of these rows narrows 'for every input' (looked for: loops, veiled, ifaces, maps, wideKeys, modest, calm, conditions, laid).
  DERIVED. THE GIVEN ROWS OF THIS SEAT. 11 by the template 'for every input the law returns true; each argument reads behind the call as it read before'; 0 by the template 'total and deterministic' (their statements: YtjfhhaaogcgkpaaTotals.lean).
  GIVEN WITH THE SEED: the statements are not yours to turn. If you find one false, say at which input.
  Laid BY PROGRAM, IN A SANDBOX (cutbox-rows.mjs): the forced cells as the released guide's own fill.sh prints them over the translation 11db411748f0464c… (all of the seat's roots in one cut). By AI agents, Wed Nov 11 2026. No macro, syntax, notation, axiom, sorry.
-/
import Derived.Test.YtjfhhaaogcgkpaaChecked
import GoSem.Claim
import GoSem.ClaimJoined
import GoSem.ClaimMapViews
import Derived.JoinedTies
import Derived.KernelRfl
namespace Go.Proofs.Ytjfhhaaogcgkpaa
/- THE CELL 'sum', in the pinned program and in every row, IS THE sha256 OF THE DUMP (.gsa) THAT YtjfhhaaogcgkpaaProg.lean LOADS. Nothing in Lean hashes anything: it is a label: what it is worth is what the hold of that sum in a sandbox is worth. -/
noncomputable def Try.pinned : Pinned := { name := "ytjfhhaaogcgkpaa", sum := "11db411748f0464ced47c843f6ce4c4e16fc2b2f80f4e0887b75c37025ecebd1", checked := Try.checked }
namespace Rows
def none {H : Type} : Left H := { results := [], args := [] }

/-- 'glidepathlaw05.ShearTelegrams': WHATEVER THE INPUT: true; the input reads as it did. -/
def shearTelegramsSpec : ChangeSpec := { name := "shearTelegrams", fn := fun _ => fun
  | [d1, d2] => { results := [.lit (.bool true)], args := [d1, d2] }
  | _ => none }
def shearTelegramsRow : OpenClaim := { program := "ytjfhhaaogcgkpaa", sum := "11db411748f0464ced47c843f6ce4c4e16fc2b2f80f4e0887b75c37025ecebd1", func := "glidepath/glidepathlaw05.ShearTelegrams", spec := "shearTelegrams", unfollowed := true, recurses := true, plainKeys := false, apart := false }
def ShearTelegramsSaid : Prop := shearTelegramsRow.holds Try.pinned (OpenSpec.ofChange shearTelegramsSpec)

/-- ITS FALSE NEIGHBOUR: 'it returns false'. Refute it at one input. -/
def shearTelegramsWrong : ChangeSpec := { name := "shearTelegrams", fn := fun _ => fun
  | [d1, d2] => { results := [.lit (.bool false)], args := [d1, d2] }
  | _ => none }
def ShearTelegramsWrongFalsely : Prop := shearTelegramsRow.holds Try.pinned (OpenSpec.ofChange shearTelegramsWrong)

/-- 'glidepathlaw05.ShearTampered': WHATEVER THE INPUT: true; the input reads as it did. -/
def shearTamperedSpec : ChangeSpec := { name := "shearTampered", fn := fun _ => fun
  | [d1, d2] => { results := [.lit (.bool true)], args := [d1, d2] }
  | _ => none }
def shearTamperedRow : OpenClaim := { program := "ytjfhhaaogcgkpaa", sum := "11db411748f0464ced47c843f6ce4c4e16fc2b2f80f4e0887b75c37025ecebd1", func := "glidepath/glidepathlaw05.ShearTampered", spec := "shearTampered", unfollowed := true, recurses := true, plainKeys := false, apart := false }
def ShearTamperedSaid : Prop := shearTamperedRow.holds Try.pinned (OpenSpec.ofChange shearTamperedSpec)

/-- ITS FALSE NEIGHBOUR: 'it returns false'. Refute it at one input. -/
def shearTamperedWrong : ChangeSpec := { name := "shearTampered", fn := fun _ => fun
  | [d1, d2] => { results := [.lit (.bool false)], args := [d1, d2] }
  | _ => none }
def ShearTamperedWrongFalsely : Prop := shearTamperedRow.holds Try.pinned (OpenSpec.ofChange shearTamperedWrong)

/-- 'glidepathlaw05.ShearAlerts': WHATEVER THE INPUT: true; the input reads as it did. -/
def shearAlertsSpec : ChangeSpec := { name := "shearAlerts", fn := fun _ => fun
  | [d1, d2, d3] => { results := [.lit (.bool true)], args := [d1, d2, d3] }
  | _ => none }
def shearAlertsRow : OpenClaim := { program := "ytjfhhaaogcgkpaa", sum := "11db411748f0464ced47c843f6ce4c4e16fc2b2f80f4e0887b75c37025ecebd1", func := "glidepath/glidepathlaw05.ShearAlerts", spec := "shearAlerts", unfollowed := true, recurses := true, plainKeys := false, apart := false }
def ShearAlertsSaid : Prop := shearAlertsRow.holds Try.pinned (OpenSpec.ofChange shearAlertsSpec)

/-- ITS FALSE NEIGHBOUR: 'it returns false'. Refute it at one input. -/
def shearAlertsWrong : ChangeSpec := { name := "shearAlerts", fn := fun _ => fun
  | [d1, d2, d3] => { results := [.lit (.bool false)], args := [d1, d2, d3] }
  | _ => none }
def ShearAlertsWrongFalsely : Prop := shearAlertsRow.holds Try.pinned (OpenSpec.ofChange shearAlertsWrong)

/-- 'glidepathlaw05.ShearSilent': WHATEVER THE INPUT: true; the input reads as it did. -/
def shearSilentSpec : ChangeSpec := { name := "shearSilent", fn := fun _ => fun
  | [d1, d2, d3] => { results := [.lit (.bool true)], args := [d1, d2, d3] }
  | _ => none }
def shearSilentRow : OpenClaim := { program := "ytjfhhaaogcgkpaa", sum := "11db411748f0464ced47c843f6ce4c4e16fc2b2f80f4e0887b75c37025ecebd1", func := "glidepath/glidepathlaw05.ShearSilent", spec := "shearSilent", unfollowed := true, recurses := true, plainKeys := false, apart := false }
def ShearSilentSaid : Prop := shearSilentRow.holds Try.pinned (OpenSpec.ofChange shearSilentSpec)

/-- ITS FALSE NEIGHBOUR: 'it returns false'. Refute it at one input. -/
def shearSilentWrong : ChangeSpec := { name := "shearSilent", fn := fun _ => fun
  | [d1, d2, d3] => { results := [.lit (.bool false)], args := [d1, d2, d3] }
  | _ => none }
def ShearSilentWrongFalsely : Prop := shearSilentRow.holds Try.pinned (OpenSpec.ofChange shearSilentWrong)

/-- 'glidepathlaw05.ShearSeen': WHATEVER THE INPUT: true; the input reads as it did. -/
def shearSeenSpec : ChangeSpec := { name := "shearSeen", fn := fun _ => fun
  | [d1, d2, d3] => { results := [.lit (.bool true)], args := [d1, d2, d3] }
  | _ => none }
def shearSeenRow : OpenClaim := { program := "ytjfhhaaogcgkpaa", sum := "11db411748f0464ced47c843f6ce4c4e16fc2b2f80f4e0887b75c37025ecebd1", func := "glidepath/glidepathlaw05.ShearSeen", spec := "shearSeen", unfollowed := true, recurses := true, plainKeys := false, apart := false }
def ShearSeenSaid : Prop := shearSeenRow.holds Try.pinned (OpenSpec.ofChange shearSeenSpec)

/-- ITS FALSE NEIGHBOUR: 'it returns false'. Refute it at one input. -/
def shearSeenWrong : ChangeSpec := { name := "shearSeen", fn := fun _ => fun
  | [d1, d2, d3] => { results := [.lit (.bool false)], args := [d1, d2, d3] }
  | _ => none }
def ShearSeenWrongFalsely : Prop := shearSeenRow.holds Try.pinned (OpenSpec.ofChange shearSeenWrong)

/-- 'glidepathlaw05.ShearSteps': WHATEVER THE INPUT: true; the input reads as it did. -/
def shearStepsSpec : ChangeSpec := { name := "shearSteps", fn := fun _ => fun
  | [d1, d2, d3] => { results := [.lit (.bool true)], args := [d1, d2, d3] }
  | _ => none }
def shearStepsRow : OpenClaim := { program := "ytjfhhaaogcgkpaa", sum := "11db411748f0464ced47c843f6ce4c4e16fc2b2f80f4e0887b75c37025ecebd1", func := "glidepath/glidepathlaw05.ShearSteps", spec := "shearSteps", unfollowed := true, recurses := true, plainKeys := false, apart := false }
def ShearStepsSaid : Prop := shearStepsRow.holds Try.pinned (OpenSpec.ofChange shearStepsSpec)

/-- ITS FALSE NEIGHBOUR: 'it returns false'. Refute it at one input. -/
def shearStepsWrong : ChangeSpec := { name := "shearSteps", fn := fun _ => fun
  | [d1, d2, d3] => { results := [.lit (.bool false)], args := [d1, d2, d3] }
  | _ => none }
def ShearStepsWrongFalsely : Prop := shearStepsRow.holds Try.pinned (OpenSpec.ofChange shearStepsWrong)

/-- 'glidepathlaw05.ShearHeadwinds': WHATEVER THE INPUT: true; the input reads as it did. -/
def shearHeadwindsSpec : ChangeSpec := { name := "shearHeadwinds", fn := fun _ => fun
  | [d1, d2, d3] => { results := [.lit (.bool true)], args := [d1, d2, d3] }
  | _ => none }
def shearHeadwindsRow : OpenClaim := { program := "ytjfhhaaogcgkpaa", sum := "11db411748f0464ced47c843f6ce4c4e16fc2b2f80f4e0887b75c37025ecebd1", func := "glidepath/glidepathlaw05.ShearHeadwinds", spec := "shearHeadwinds", unfollowed := true, recurses := true, plainKeys := false, apart := false }
def ShearHeadwindsSaid : Prop := shearHeadwindsRow.holds Try.pinned (OpenSpec.ofChange shearHeadwindsSpec)

/-- ITS FALSE NEIGHBOUR: 'it returns false'. Refute it at one input. -/
def shearHeadwindsWrong : ChangeSpec := { name := "shearHeadwinds", fn := fun _ => fun
  | [d1, d2, d3] => { results := [.lit (.bool false)], args := [d1, d2, d3] }
  | _ => none }
def ShearHeadwindsWrongFalsely : Prop := shearHeadwindsRow.holds Try.pinned (OpenSpec.ofChange shearHeadwindsWrong)

/-- 'glidepathlaw05.ShearIssued': WHATEVER THE INPUT: true; the input reads as it did. -/
def shearIssuedSpec : ChangeSpec := { name := "shearIssued", fn := fun _ => fun
  | [d1, d2, d3] => { results := [.lit (.bool true)], args := [d1, d2, d3] }
  | _ => none }
def shearIssuedRow : OpenClaim := { program := "ytjfhhaaogcgkpaa", sum := "11db411748f0464ced47c843f6ce4c4e16fc2b2f80f4e0887b75c37025ecebd1", func := "glidepath/glidepathlaw05.ShearIssued", spec := "shearIssued", unfollowed := true, recurses := true, plainKeys := false, apart := false }
def ShearIssuedSaid : Prop := shearIssuedRow.holds Try.pinned (OpenSpec.ofChange shearIssuedSpec)

/-- ITS FALSE NEIGHBOUR: 'it returns false'. Refute it at one input. -/
def shearIssuedWrong : ChangeSpec := { name := "shearIssued", fn := fun _ => fun
  | [d1, d2, d3] => { results := [.lit (.bool false)], args := [d1, d2, d3] }
  | _ => none }
def ShearIssuedWrongFalsely : Prop := shearIssuedRow.holds Try.pinned (OpenSpec.ofChange shearIssuedWrong)

/-- 'glidepathlaw05.ShearCertified': WHATEVER THE INPUT: true; the input reads as it did. -/
def shearCertifiedSpec : ChangeSpec := { name := "shearCertified", fn := fun _ => fun
  | [d1, d2, d3] => { results := [.lit (.bool true)], args := [d1, d2, d3] }
  | _ => none }
def shearCertifiedRow : OpenClaim := { program := "ytjfhhaaogcgkpaa", sum := "11db411748f0464ced47c843f6ce4c4e16fc2b2f80f4e0887b75c37025ecebd1", func := "glidepath/glidepathlaw05.ShearCertified", spec := "shearCertified", unfollowed := true, recurses := true, plainKeys := false, apart := false }
def ShearCertifiedSaid : Prop := shearCertifiedRow.holds Try.pinned (OpenSpec.ofChange shearCertifiedSpec)

/-- ITS FALSE NEIGHBOUR: 'it returns false'. Refute it at one input. -/
def shearCertifiedWrong : ChangeSpec := { name := "shearCertified", fn := fun _ => fun
  | [d1, d2, d3] => { results := [.lit (.bool false)], args := [d1, d2, d3] }
  | _ => none }
def ShearCertifiedWrongFalsely : Prop := shearCertifiedRow.holds Try.pinned (OpenSpec.ofChange shearCertifiedWrong)

/-- 'glidepathlaw05.ShearProfiles': WHATEVER THE INPUT: true; the input reads as it did. -/
def shearProfilesSpec : ChangeSpec := { name := "shearProfiles", fn := fun _ => fun
  | [d1, d2, d3] => { results := [.lit (.bool true)], args := [d1, d2, d3] }
  | _ => none }
def shearProfilesRow : OpenClaim := { program := "ytjfhhaaogcgkpaa", sum := "11db411748f0464ced47c843f6ce4c4e16fc2b2f80f4e0887b75c37025ecebd1", func := "glidepath/glidepathlaw05.ShearProfiles", spec := "shearProfiles", unfollowed := true, recurses := true, plainKeys := false, apart := false }
def ShearProfilesSaid : Prop := shearProfilesRow.holds Try.pinned (OpenSpec.ofChange shearProfilesSpec)

/-- ITS FALSE NEIGHBOUR: 'it returns false'. Refute it at one input. -/
def shearProfilesWrong : ChangeSpec := { name := "shearProfiles", fn := fun _ => fun
  | [d1, d2, d3] => { results := [.lit (.bool false)], args := [d1, d2, d3] }
  | _ => none }
def ShearProfilesWrongFalsely : Prop := shearProfilesRow.holds Try.pinned (OpenSpec.ofChange shearProfilesWrong)

/-- 'glidepathlaw05.ShearDelivered': WHATEVER THE INPUT: true; the input reads as it did. -/
def shearDeliveredSpec : ChangeSpec := { name := "shearDelivered", fn := fun _ => fun
  | [d1, d2, d3] => { results := [.lit (.bool true)], args := [d1, d2, d3] }
  | _ => none }
def shearDeliveredRow : OpenClaim := { program := "ytjfhhaaogcgkpaa", sum := "11db411748f0464ced47c843f6ce4c4e16fc2b2f80f4e0887b75c37025ecebd1", func := "glidepath/glidepathlaw05.ShearDelivered", spec := "shearDelivered", unfollowed := true, recurses := true, plainKeys := false, apart := false }
def ShearDeliveredSaid : Prop := shearDeliveredRow.holds Try.pinned (OpenSpec.ofChange shearDeliveredSpec)

/-- ITS FALSE NEIGHBOUR: 'it returns false'. Refute it at one input. -/
def shearDeliveredWrong : ChangeSpec := { name := "shearDelivered", fn := fun _ => fun
  | [d1, d2, d3] => { results := [.lit (.bool false)], args := [d1, d2, d3] }
  | _ => none }
def ShearDeliveredWrongFalsely : Prop := shearDeliveredRow.holds Try.pinned (OpenSpec.ofChange shearDeliveredWrong)

/- THE SECOND FORM. 'bulk': how many values and letters a reading holds, each counted each time it is reached (what is shared counts as often as it is met; a slice's spare places count too). A statement '..UptoSaid' is the law's where the arguments, and the package variables that the reading takes, are together of bulk at most 1048576: NARROWER than '..Said'. Prove '..Said' where nothing that the law and all that it calls make is longer than what came in: it says more and counts as full. Else prove '..UptoSaid'. A law counts once. -/
mutual
def uptoBulk {H : Type} : DataW H → Nat
  | .lit (.string bytes) => bytes.length + 1
  | .lit _ => 1
  | .nil => 1
  | .ptr d => uptoBulk d + 1
  | .slice elems spare => uptoBulkAll elems + uptoBulkAll spare + 1
  | .agg parts => uptoBulkAll parts + 1
  | .iface _ d => uptoBulk d + 1
  | .map entries => uptoBulkEntries entries + 1
  | .held _ => 1
def uptoBulkAll {H : Type} : List (DataW H) → Nat
  | [] => 0
  | d :: r => uptoBulk d + uptoBulkAll r
def uptoBulkEntries {H : Type} : List (Lit × DataW H) → Nat
  | [] => 0
  | x :: r => uptoBulkEntry x + uptoBulkEntries r
def uptoBulkEntry {H : Type} : Lit × DataW H → Nat
  | (.string bytes, d) => bytes.length + uptoBulk d + 1
  | (_, d) => uptoBulk d + 1
 end
def uptoSmall : (H : Type) → List (DataW H) → Bool := fun _ ds => decide (uptoBulkAll ds ≤ 1048576)
def OpenSpec.upto (s : _root_.Go.ChangeSpec) : _root_.Go.OpenSpec := { _root_.Go.OpenSpec.ofChange s with cond := some uptoSmall }

/-- 'glidepathlaw05.ShearTelegrams', WHERE WHAT IT READS IS OF BULK AT MOST 1048576: true; the input reads as it did. -/
def shearTelegramsUptoRow : OpenClaim := { program := "ytjfhhaaogcgkpaa", sum := "11db411748f0464ced47c843f6ce4c4e16fc2b2f80f4e0887b75c37025ecebd1", func := "glidepath/glidepathlaw05.ShearTelegrams", spec := "shearTelegrams", unfollowed := true, recurses := true, plainKeys := false, apart := false, narrowed := true }
def ShearTelegramsUptoSaid : Prop := shearTelegramsUptoRow.holds Try.pinned (OpenSpec.upto shearTelegramsSpec)

/-- 'glidepathlaw05.ShearTampered', WHERE WHAT IT READS IS OF BULK AT MOST 1048576: true; the input reads as it did. -/
def shearTamperedUptoRow : OpenClaim := { program := "ytjfhhaaogcgkpaa", sum := "11db411748f0464ced47c843f6ce4c4e16fc2b2f80f4e0887b75c37025ecebd1", func := "glidepath/glidepathlaw05.ShearTampered", spec := "shearTampered", unfollowed := true, recurses := true, plainKeys := false, apart := false, narrowed := true }
def ShearTamperedUptoSaid : Prop := shearTamperedUptoRow.holds Try.pinned (OpenSpec.upto shearTamperedSpec)

/-- 'glidepathlaw05.ShearAlerts', WHERE WHAT IT READS IS OF BULK AT MOST 1048576: true; the input reads as it did. -/
def shearAlertsUptoRow : OpenClaim := { program := "ytjfhhaaogcgkpaa", sum := "11db411748f0464ced47c843f6ce4c4e16fc2b2f80f4e0887b75c37025ecebd1", func := "glidepath/glidepathlaw05.ShearAlerts", spec := "shearAlerts", unfollowed := true, recurses := true, plainKeys := false, apart := false, narrowed := true }
def ShearAlertsUptoSaid : Prop := shearAlertsUptoRow.holds Try.pinned (OpenSpec.upto shearAlertsSpec)

/-- 'glidepathlaw05.ShearSilent', WHERE WHAT IT READS IS OF BULK AT MOST 1048576: true; the input reads as it did. -/
def shearSilentUptoRow : OpenClaim := { program := "ytjfhhaaogcgkpaa", sum := "11db411748f0464ced47c843f6ce4c4e16fc2b2f80f4e0887b75c37025ecebd1", func := "glidepath/glidepathlaw05.ShearSilent", spec := "shearSilent", unfollowed := true, recurses := true, plainKeys := false, apart := false, narrowed := true }
def ShearSilentUptoSaid : Prop := shearSilentUptoRow.holds Try.pinned (OpenSpec.upto shearSilentSpec)

/-- 'glidepathlaw05.ShearSeen', WHERE WHAT IT READS IS OF BULK AT MOST 1048576: true; the input reads as it did. -/
def shearSeenUptoRow : OpenClaim := { program := "ytjfhhaaogcgkpaa", sum := "11db411748f0464ced47c843f6ce4c4e16fc2b2f80f4e0887b75c37025ecebd1", func := "glidepath/glidepathlaw05.ShearSeen", spec := "shearSeen", unfollowed := true, recurses := true, plainKeys := false, apart := false, narrowed := true }
def ShearSeenUptoSaid : Prop := shearSeenUptoRow.holds Try.pinned (OpenSpec.upto shearSeenSpec)

/-- 'glidepathlaw05.ShearSteps', WHERE WHAT IT READS IS OF BULK AT MOST 1048576: true; the input reads as it did. -/
def shearStepsUptoRow : OpenClaim := { program := "ytjfhhaaogcgkpaa", sum := "11db411748f0464ced47c843f6ce4c4e16fc2b2f80f4e0887b75c37025ecebd1", func := "glidepath/glidepathlaw05.ShearSteps", spec := "shearSteps", unfollowed := true, recurses := true, plainKeys := false, apart := false, narrowed := true }
def ShearStepsUptoSaid : Prop := shearStepsUptoRow.holds Try.pinned (OpenSpec.upto shearStepsSpec)

/-- 'glidepathlaw05.ShearHeadwinds', WHERE WHAT IT READS IS OF BULK AT MOST 1048576: true; the input reads as it did. -/
def shearHeadwindsUptoRow : OpenClaim := { program := "ytjfhhaaogcgkpaa", sum := "11db411748f0464ced47c843f6ce4c4e16fc2b2f80f4e0887b75c37025ecebd1", func := "glidepath/glidepathlaw05.ShearHeadwinds", spec := "shearHeadwinds", unfollowed := true, recurses := true, plainKeys := false, apart := false, narrowed := true }
def ShearHeadwindsUptoSaid : Prop := shearHeadwindsUptoRow.holds Try.pinned (OpenSpec.upto shearHeadwindsSpec)

/-- 'glidepathlaw05.ShearIssued', WHERE WHAT IT READS IS OF BULK AT MOST 1048576: true; the input reads as it did. -/
def shearIssuedUptoRow : OpenClaim := { program := "ytjfhhaaogcgkpaa", sum := "11db411748f0464ced47c843f6ce4c4e16fc2b2f80f4e0887b75c37025ecebd1", func := "glidepath/glidepathlaw05.ShearIssued", spec := "shearIssued", unfollowed := true, recurses := true, plainKeys := false, apart := false, narrowed := true }
def ShearIssuedUptoSaid : Prop := shearIssuedUptoRow.holds Try.pinned (OpenSpec.upto shearIssuedSpec)

/-- 'glidepathlaw05.ShearCertified', WHERE WHAT IT READS IS OF BULK AT MOST 1048576: true; the input reads as it did. -/
def shearCertifiedUptoRow : OpenClaim := { program := "ytjfhhaaogcgkpaa", sum := "11db411748f0464ced47c843f6ce4c4e16fc2b2f80f4e0887b75c37025ecebd1", func := "glidepath/glidepathlaw05.ShearCertified", spec := "shearCertified", unfollowed := true, recurses := true, plainKeys := false, apart := false, narrowed := true }
def ShearCertifiedUptoSaid : Prop := shearCertifiedUptoRow.holds Try.pinned (OpenSpec.upto shearCertifiedSpec)

/-- 'glidepathlaw05.ShearProfiles', WHERE WHAT IT READS IS OF BULK AT MOST 1048576: true; the input reads as it did. -/
def shearProfilesUptoRow : OpenClaim := { program := "ytjfhhaaogcgkpaa", sum := "11db411748f0464ced47c843f6ce4c4e16fc2b2f80f4e0887b75c37025ecebd1", func := "glidepath/glidepathlaw05.ShearProfiles", spec := "shearProfiles", unfollowed := true, recurses := true, plainKeys := false, apart := false, narrowed := true }
def ShearProfilesUptoSaid : Prop := shearProfilesUptoRow.holds Try.pinned (OpenSpec.upto shearProfilesSpec)

/-- 'glidepathlaw05.ShearDelivered', WHERE WHAT IT READS IS OF BULK AT MOST 1048576: true; the input reads as it did. -/
def shearDeliveredUptoRow : OpenClaim := { program := "ytjfhhaaogcgkpaa", sum := "11db411748f0464ced47c843f6ce4c4e16fc2b2f80f4e0887b75c37025ecebd1", func := "glidepath/glidepathlaw05.ShearDelivered", spec := "shearDelivered", unfollowed := true, recurses := true, plainKeys := false, apart := false, narrowed := true }
def ShearDeliveredUptoSaid : Prop := shearDeliveredUptoRow.holds Try.pinned (OpenSpec.upto shearDeliveredSpec)

end Rows
end Go.Proofs.Ytjfhhaaogcgkpaa
