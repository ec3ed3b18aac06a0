/-
  NARROWER THAN 'FOR EVERY INPUT', by the rows' own cells (each row's printed sentence says how): RunqTake: laid · RunqPush: laid · RunqBack: laid.
  DERIVED. THE GIVEN ROWS OF THIS SEAT. 3 by the template 'for every input the law returns true; each argument reads behind the call as it read before'; 0 by the template 'total and deterministic' (their statements: YtpaeidaekhijlaaDoorTotals.lean).
  GIVEN WITH THE SEED: the statements are not yours to turn. If you find one false, say at which input.
  Laid BY PROGRAM, IN A SANDBOX (cutbox-rows.mjs): the forced cells as the released guide's own fill.sh prints them over the translation 974d8601ae807da3… (all of the seat's roots in one cut). By AI agents, Wed Nov 11 2026. No macro, syntax, notation, axiom, sorry.
-/
import Derived.Test.YtpaeidaekhijlaaDoorChecked
import GoSem.Claim
import GoSem.ClaimJoined
import GoSem.ClaimMapViews
import Derived.JoinedTies
import Derived.KernelRfl
namespace Go.Proofs.YtpaeidaekhijlaaDoor
/- THE CELL 'sum', in the pinned program and in every row, IS THE sha256 OF THE DUMP (.gsa) THAT YtpaeidaekhijlaaDoorProg.lean LOADS. Nothing in Lean hashes anything: it is a label: what it is worth is what the hold of that sum in a sandbox is worth. -/
noncomputable def Tryd.pinned : Pinned := { name := "ytpaeidaekhijlaadoor", sum := "974d8601ae807da3e6f7a4ba1a92b8a8d6874c101f07b5c7609bf5bf37b90cce", checked := Tryd.checked }
namespace Rows
def none {H : Type} : Left H := { results := [], args := [] }

/- WHAT THE LISTED PACKAGE-LEVEL VARIABLES READ AS WHEN THE CALL BEGINS. Each datum BY PROGRAM (the guide's laid-datum.mjs) off the statement by which the dump's own 'gosem.cut.vars' lays the variable. In a bare row this is a premise. The card (YtpaeidaekhijlaaDoorCards.lean) ties it to the program's text. -/
def laid_errors_errorType {H : Type} : DataW H := .iface "internal/reflectlite.rtype" (.agg [.ptr (.lit (.string [101, 114, 114, 111, 114]))])

/-- 'sigillumlaw11.RunqTake': WHATEVER THE INPUT: true; the input reads as it did. -/
def runqTakeSpec : ChangeSpec := { name := "runqTake", fn := fun _ => fun
  | [d1, d2] => { results := [.lit (.bool true)], args := [d1, d2] }
  | _ => none }
def runqTakeRow : OpenClaim := { program := "ytpaeidaekhijlaadoor", sum := "974d8601ae807da3e6f7a4ba1a92b8a8d6874c101f07b5c7609bf5bf37b90cce", func := "sigillum/sigillumlaw11.RunqTake", spec := "runqTake", inPlace := ["internal/reflectlite.ValueOf", "(internal/reflectlite.Value).Type", "(internal/reflectlite.Value).IsNil", "internal/reflectlite.TypeOf", "(internal/reflectlite.Value).Elem", "(internal/reflectlite.Value).Set"], unfollowed := true, recurses := true, named := ["errors.errorType"], apart := false, laid := [("errors.errorType", laid_errors_errorType)] }
def RunqTakeSaid : Prop := runqTakeRow.holds Tryd.pinned (OpenSpec.ofChange runqTakeSpec)

/-- ITS FALSE NEIGHBOUR: 'it returns false'. Refute it at one input. -/
def runqTakeWrong : ChangeSpec := { name := "runqTake", fn := fun _ => fun
  | [d1, d2] => { results := [.lit (.bool false)], args := [d1, d2] }
  | _ => none }
def RunqTakeWrongFalsely : Prop := runqTakeRow.holds Tryd.pinned (OpenSpec.ofChange runqTakeWrong)

/-- 'sigillumlaw11.RunqPush': WHATEVER THE INPUT: true; the input reads as it did. -/
def runqPushSpec : ChangeSpec := { name := "runqPush", fn := fun _ => fun
  | [d1, d2] => { results := [.lit (.bool true)], args := [d1, d2] }
  | _ => none }
def runqPushRow : OpenClaim := { program := "ytpaeidaekhijlaadoor", sum := "974d8601ae807da3e6f7a4ba1a92b8a8d6874c101f07b5c7609bf5bf37b90cce", func := "sigillum/sigillumlaw11.RunqPush", spec := "runqPush", inPlace := ["internal/reflectlite.ValueOf", "(internal/reflectlite.Value).Type", "(internal/reflectlite.Value).IsNil", "internal/reflectlite.TypeOf", "(internal/reflectlite.Value).Elem", "(internal/reflectlite.Value).Set"], unfollowed := true, recurses := true, named := ["errors.errorType"], apart := false, laid := [("errors.errorType", laid_errors_errorType)] }
def RunqPushSaid : Prop := runqPushRow.holds Tryd.pinned (OpenSpec.ofChange runqPushSpec)

/-- ITS FALSE NEIGHBOUR: 'it returns false'. Refute it at one input. -/
def runqPushWrong : ChangeSpec := { name := "runqPush", fn := fun _ => fun
  | [d1, d2] => { results := [.lit (.bool false)], args := [d1, d2] }
  | _ => none }
def RunqPushWrongFalsely : Prop := runqPushRow.holds Tryd.pinned (OpenSpec.ofChange runqPushWrong)

/-- 'sigillumlaw11.RunqBack': WHATEVER THE INPUT: true; the input reads as it did. -/
def runqBackSpec : ChangeSpec := { name := "runqBack", fn := fun _ => fun
  | [d1, d2] => { results := [.lit (.bool true)], args := [d1, d2] }
  | _ => none }
def runqBackRow : OpenClaim := { program := "ytpaeidaekhijlaadoor", sum := "974d8601ae807da3e6f7a4ba1a92b8a8d6874c101f07b5c7609bf5bf37b90cce", func := "sigillum/sigillumlaw11.RunqBack", spec := "runqBack", inPlace := ["internal/reflectlite.ValueOf", "(internal/reflectlite.Value).Type", "(internal/reflectlite.Value).IsNil", "internal/reflectlite.TypeOf", "(internal/reflectlite.Value).Elem", "(internal/reflectlite.Value).Set"], unfollowed := true, recurses := true, named := ["errors.errorType"], apart := false, laid := [("errors.errorType", laid_errors_errorType)] }
def RunqBackSaid : Prop := runqBackRow.holds Tryd.pinned (OpenSpec.ofChange runqBackSpec)

/-- ITS FALSE NEIGHBOUR: 'it returns false'. Refute it at one input. -/
def runqBackWrong : ChangeSpec := { name := "runqBack", fn := fun _ => fun
  | [d1, d2] => { results := [.lit (.bool false)], args := [d1, d2] }
  | _ => none }
def RunqBackWrongFalsely : Prop := runqBackRow.holds Tryd.pinned (OpenSpec.ofChange runqBackWrong)

/- THE SECOND FORM. 'bulk': how many values and letters a reading holds, each counted each time it is reached (what is shared counts as often as it is met; a slice's spare places count too). A statement '..UptoSaid' is the law's where the arguments, and the package variables that the reading takes, are together of bulk at most 1048576: NARROWER than '..Said'. Prove '..Said' where nothing that the law and all that it calls make is longer than what came in: it says more and counts as full. Else prove '..UptoSaid'. A law counts once. -/
mutual
def uptoBulk {H : Type} : DataW H → Nat
  | .lit (.string bytes) => bytes.length + 1
  | .lit _ => 1
  | .nil => 1
  | .ptr d => uptoBulk d + 1
  | .slice elems spare => uptoBulkAll elems + uptoBulkAll spare + 1
  | .agg parts => uptoBulkAll parts + 1
  | .iface _ d => uptoBulk d + 1
  | .map entries => uptoBulkEntries entries + 1
  | .held _ => 1
def uptoBulkAll {H : Type} : List (DataW H) → Nat
  | [] => 0
  | d :: r => uptoBulk d + uptoBulkAll r
def uptoBulkEntries {H : Type} : List (Lit × DataW H) → Nat
  | [] => 0
  | x :: r => uptoBulkEntry x + uptoBulkEntries r
def uptoBulkEntry {H : Type} : Lit × DataW H → Nat
  | (.string bytes, d) => bytes.length + uptoBulk d + 1
  | (_, d) => uptoBulk d + 1
 end
def uptoSmall : (H : Type) → List (DataW H) → Bool := fun _ ds => decide (uptoBulkAll ds ≤ 1048576)
def OpenSpec.upto (s : _root_.Go.ChangeSpec) : _root_.Go.OpenSpec := { _root_.Go.OpenSpec.ofChange s with cond := some uptoSmall }

/-- 'sigillumlaw11.RunqTake', WHERE WHAT IT READS IS OF BULK AT MOST 1048576: true; the input reads as it did. -/
def runqTakeUptoRow : OpenClaim := { program := "ytpaeidaekhijlaadoor", sum := "974d8601ae807da3e6f7a4ba1a92b8a8d6874c101f07b5c7609bf5bf37b90cce", func := "sigillum/sigillumlaw11.RunqTake", spec := "runqTake", inPlace := ["internal/reflectlite.ValueOf", "(internal/reflectlite.Value).Type", "(internal/reflectlite.Value).IsNil", "internal/reflectlite.TypeOf", "(internal/reflectlite.Value).Elem", "(internal/reflectlite.Value).Set"], unfollowed := true, recurses := true, named := ["errors.errorType"], apart := false, laid := [("errors.errorType", laid_errors_errorType)], narrowed := true }
def RunqTakeUptoSaid : Prop := runqTakeUptoRow.holds Tryd.pinned (OpenSpec.upto runqTakeSpec)

/-- 'sigillumlaw11.RunqPush', WHERE WHAT IT READS IS OF BULK AT MOST 1048576: true; the input reads as it did. -/
def runqPushUptoRow : OpenClaim := { program := "ytpaeidaekhijlaadoor", sum := "974d8601ae807da3e6f7a4ba1a92b8a8d6874c101f07b5c7609bf5bf37b90cce", func := "sigillum/sigillumlaw11.RunqPush", spec := "runqPush", inPlace := ["internal/reflectlite.ValueOf", "(internal/reflectlite.Value).Type", "(internal/reflectlite.Value).IsNil", "internal/reflectlite.TypeOf", "(internal/reflectlite.Value).Elem", "(internal/reflectlite.Value).Set"], unfollowed := true, recurses := true, named := ["errors.errorType"], apart := false, laid := [("errors.errorType", laid_errors_errorType)], narrowed := true }
def RunqPushUptoSaid : Prop := runqPushUptoRow.holds Tryd.pinned (OpenSpec.upto runqPushSpec)

/-- 'sigillumlaw11.RunqBack', WHERE WHAT IT READS IS OF BULK AT MOST 1048576: true; the input reads as it did. -/
def runqBackUptoRow : OpenClaim := { program := "ytpaeidaekhijlaadoor", sum := "974d8601ae807da3e6f7a4ba1a92b8a8d6874c101f07b5c7609bf5bf37b90cce", func := "sigillum/sigillumlaw11.RunqBack", spec := "runqBack", inPlace := ["internal/reflectlite.ValueOf", "(internal/reflectlite.Value).Type", "(internal/reflectlite.Value).IsNil", "internal/reflectlite.TypeOf", "(internal/reflectlite.Value).Elem", "(internal/reflectlite.Value).Set"], unfollowed := true, recurses := true, named := ["errors.errorType"], apart := false, laid := [("errors.errorType", laid_errors_errorType)], narrowed := true }
def RunqBackUptoSaid : Prop := runqBackUptoRow.holds Tryd.pinned (OpenSpec.upto runqBackSpec)

end Rows
end Go.Proofs.YtpaeidaekhijlaaDoor
