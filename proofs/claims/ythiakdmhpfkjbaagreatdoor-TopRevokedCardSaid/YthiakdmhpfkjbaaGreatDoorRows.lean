/-
  NARROWER THAN 'FOR EVERY INPUT', by the rows' own cells (each row's printed sentence says how): TopLost: laid · TopDoubled: laid · TopDown: laid · TopRevoked: laid.
  DERIVED. THE GIVEN ROWS OF THIS SEAT. 4 by the template 'for every input the law returns true; each argument reads behind the call as it read before'; 0 by the template 'total and deterministic' (their statements: YthiakdmhpfkjbaaGreatDoorTotals.lean).
  GIVEN WITH THE SEED: the statements are not yours to turn. If you find one false, say at which input.
  Laid BY PROGRAM, IN A SANDBOX (cutbox-rows.mjs): the forced cells as the released guide's own fill.sh prints them over the translation cbbe6582ab579950… (all of the seat's roots in one cut). By AI agents, Wed Nov 11 2026. No macro, syntax, notation, axiom, sorry.
-/
import Derived.Test.YthiakdmhpfkjbaaGreatDoorChecked
import GoSem.Claim
import GoSem.ClaimJoined
import GoSem.ClaimMapViews
import Derived.JoinedTies
import Derived.KernelRfl
namespace Go.Proofs.YthiakdmhpfkjbaaGreatDoor
/- THE CELL 'sum', in the pinned program and in every row, IS THE sha256 OF THE DUMP (.gsa) THAT YthiakdmhpfkjbaaGreatDoorProg.lean LOADS. Nothing in Lean hashes anything: it is a label: what it is worth is what the hold of that sum in a sandbox is worth. -/
noncomputable def Tryz.pinned : Pinned := { name := "ythiakdmhpfkjbaagreatdoor", sum := "cbbe6582ab5799503e4cac13afef1d68f7a9f215a9aeff1be14ddd5ce93e3688", checked := Tryz.checked }
namespace Rows
def none {H : Type} : Left H := { results := [], args := [] }

/- WHAT THE LISTED PACKAGE-LEVEL VARIABLES READ AS WHEN THE CALL BEGINS. Each datum BY PROGRAM (the guide's laid-datum.mjs) off the statement by which the dump's own 'gosem.cut.vars' lays the variable. In a bare row this is a premise. The card (YthiakdmhpfkjbaaGreatDoorCards.lean) ties it to the program's text. -/
def laid_errors_errorType {H : Type} : DataW H := .iface "internal/reflectlite.rtype" (.agg [.ptr (.lit (.string [101, 114, 114, 111, 114]))])

/-- 'sigillumtop.TopLost': WHATEVER THE INPUT: true; the input reads as it did. -/
def topLostSpec : ChangeSpec := { name := "topLost", fn := fun _ => fun
  | [d1, d2] => { results := [.lit (.bool true)], args := [d1, d2] }
  | _ => none }
def topLostRow : OpenClaim := { program := "ythiakdmhpfkjbaagreatdoor", sum := "cbbe6582ab5799503e4cac13afef1d68f7a9f215a9aeff1be14ddd5ce93e3688", func := "sigillum/sigillumtop.TopLost", spec := "topLost", inPlace := ["internal/reflectlite.ValueOf", "(internal/reflectlite.Value).Type", "(internal/reflectlite.Value).IsNil", "internal/reflectlite.TypeOf", "(internal/reflectlite.Value).Elem", "(internal/reflectlite.Value).Set"], unfollowed := true, recurses := true, named := ["errors.errorType"], apart := false, laid := [("errors.errorType", laid_errors_errorType)] }
def TopLostSaid : Prop := topLostRow.holds Tryz.pinned (OpenSpec.ofChange topLostSpec)

/-- ITS FALSE NEIGHBOUR: 'it returns false'. Refute it at one input. -/
def topLostWrong : ChangeSpec := { name := "topLost", fn := fun _ => fun
  | [d1, d2] => { results := [.lit (.bool false)], args := [d1, d2] }
  | _ => none }
def TopLostWrongFalsely : Prop := topLostRow.holds Tryz.pinned (OpenSpec.ofChange topLostWrong)

/-- 'sigillumtop.TopDoubled': WHATEVER THE INPUT: true; the input reads as it did. -/
def topDoubledSpec : ChangeSpec := { name := "topDoubled", fn := fun _ => fun
  | [d1, d2, d3] => { results := [.lit (.bool true)], args := [d1, d2, d3] }
  | _ => none }
def topDoubledRow : OpenClaim := { program := "ythiakdmhpfkjbaagreatdoor", sum := "cbbe6582ab5799503e4cac13afef1d68f7a9f215a9aeff1be14ddd5ce93e3688", func := "sigillum/sigillumtop.TopDoubled", spec := "topDoubled", inPlace := ["internal/reflectlite.ValueOf", "(internal/reflectlite.Value).Type", "(internal/reflectlite.Value).IsNil", "internal/reflectlite.TypeOf", "(internal/reflectlite.Value).Elem", "(internal/reflectlite.Value).Set"], unfollowed := true, recurses := true, named := ["errors.errorType"], apart := false, laid := [("errors.errorType", laid_errors_errorType)] }
def TopDoubledSaid : Prop := topDoubledRow.holds Tryz.pinned (OpenSpec.ofChange topDoubledSpec)

/-- ITS FALSE NEIGHBOUR: 'it returns false'. Refute it at one input. -/
def topDoubledWrong : ChangeSpec := { name := "topDoubled", fn := fun _ => fun
  | [d1, d2, d3] => { results := [.lit (.bool false)], args := [d1, d2, d3] }
  | _ => none }
def TopDoubledWrongFalsely : Prop := topDoubledRow.holds Tryz.pinned (OpenSpec.ofChange topDoubledWrong)

/-- 'sigillumtop.TopDown': WHATEVER THE INPUT: true; the input reads as it did. -/
def topDownSpec : ChangeSpec := { name := "topDown", fn := fun _ => fun
  | [d1, d2] => { results := [.lit (.bool true)], args := [d1, d2] }
  | _ => none }
def topDownRow : OpenClaim := { program := "ythiakdmhpfkjbaagreatdoor", sum := "cbbe6582ab5799503e4cac13afef1d68f7a9f215a9aeff1be14ddd5ce93e3688", func := "sigillum/sigillumtop.TopDown", spec := "topDown", inPlace := ["internal/reflectlite.ValueOf", "(internal/reflectlite.Value).Type", "(internal/reflectlite.Value).IsNil", "internal/reflectlite.TypeOf", "(internal/reflectlite.Value).Elem", "(internal/reflectlite.Value).Set"], unfollowed := true, recurses := true, named := ["errors.errorType"], apart := false, laid := [("errors.errorType", laid_errors_errorType)] }
def TopDownSaid : Prop := topDownRow.holds Tryz.pinned (OpenSpec.ofChange topDownSpec)

/-- ITS FALSE NEIGHBOUR: 'it returns false'. Refute it at one input. -/
def topDownWrong : ChangeSpec := { name := "topDown", fn := fun _ => fun
  | [d1, d2] => { results := [.lit (.bool false)], args := [d1, d2] }
  | _ => none }
def TopDownWrongFalsely : Prop := topDownRow.holds Tryz.pinned (OpenSpec.ofChange topDownWrong)

/-- 'sigillumtop.TopRevoked': WHATEVER THE INPUT: true; the input reads as it did. -/
def topRevokedSpec : ChangeSpec := { name := "topRevoked", fn := fun _ => fun
  | [d1, d2] => { results := [.lit (.bool true)], args := [d1, d2] }
  | _ => none }
def topRevokedRow : OpenClaim := { program := "ythiakdmhpfkjbaagreatdoor", sum := "cbbe6582ab5799503e4cac13afef1d68f7a9f215a9aeff1be14ddd5ce93e3688", func := "sigillum/sigillumtop.TopRevoked", spec := "topRevoked", inPlace := ["internal/reflectlite.ValueOf", "(internal/reflectlite.Value).Type", "(internal/reflectlite.Value).IsNil", "internal/reflectlite.TypeOf", "(internal/reflectlite.Value).Elem", "(internal/reflectlite.Value).Set"], unfollowed := true, recurses := true, named := ["errors.errorType"], apart := false, laid := [("errors.errorType", laid_errors_errorType)] }
def TopRevokedSaid : Prop := topRevokedRow.holds Tryz.pinned (OpenSpec.ofChange topRevokedSpec)

/-- ITS FALSE NEIGHBOUR: 'it returns false'. Refute it at one input. -/
def topRevokedWrong : ChangeSpec := { name := "topRevoked", fn := fun _ => fun
  | [d1, d2] => { results := [.lit (.bool false)], args := [d1, d2] }
  | _ => none }
def TopRevokedWrongFalsely : Prop := topRevokedRow.holds Tryz.pinned (OpenSpec.ofChange topRevokedWrong)

/- THE SECOND FORM. 'bulk': how many values and letters a reading holds, each counted each time it is reached (what is shared counts as often as it is met; a slice's spare places count too). A statement '..UptoSaid' is the law's where the arguments, and the package variables that the reading takes, are together of bulk at most 1048576: NARROWER than '..Said'. Prove '..Said' where nothing that the law and all that it calls make is longer than what came in: it says more and counts as full. Else prove '..UptoSaid'. A law counts once. -/
mutual
def uptoBulk {H : Type} : DataW H → Nat
  | .lit (.string bytes) => bytes.length + 1
  | .lit _ => 1
  | .nil => 1
  | .ptr d => uptoBulk d + 1
  | .slice elems spare => uptoBulkAll elems + uptoBulkAll spare + 1
  | .agg parts => uptoBulkAll parts + 1
  | .iface _ d => uptoBulk d + 1
  | .map entries => uptoBulkEntries entries + 1
  | .held _ => 1
def uptoBulkAll {H : Type} : List (DataW H) → Nat
  | [] => 0
  | d :: r => uptoBulk d + uptoBulkAll r
def uptoBulkEntries {H : Type} : List (Lit × DataW H) → Nat
  | [] => 0
  | x :: r => uptoBulkEntry x + uptoBulkEntries r
def uptoBulkEntry {H : Type} : Lit × DataW H → Nat
  | (.string bytes, d) => bytes.length + uptoBulk d + 1
  | (_, d) => uptoBulk d + 1
 end
def uptoSmall : (H : Type) → List (DataW H) → Bool := fun _ ds => decide (uptoBulkAll ds ≤ 1048576)
def OpenSpec.upto (s : _root_.Go.ChangeSpec) : _root_.Go.OpenSpec := { _root_.Go.OpenSpec.ofChange s with cond := some uptoSmall }

/-- 'sigillumtop.TopLost', WHERE WHAT IT READS IS OF BULK AT MOST 1048576: true; the input reads as it did. -/
def topLostUptoRow : OpenClaim := { program := "ythiakdmhpfkjbaagreatdoor", sum := "cbbe6582ab5799503e4cac13afef1d68f7a9f215a9aeff1be14ddd5ce93e3688", func := "sigillum/sigillumtop.TopLost", spec := "topLost", inPlace := ["internal/reflectlite.ValueOf", "(internal/reflectlite.Value).Type", "(internal/reflectlite.Value).IsNil", "internal/reflectlite.TypeOf", "(internal/reflectlite.Value).Elem", "(internal/reflectlite.Value).Set"], unfollowed := true, recurses := true, named := ["errors.errorType"], apart := false, laid := [("errors.errorType", laid_errors_errorType)], narrowed := true }
def TopLostUptoSaid : Prop := topLostUptoRow.holds Tryz.pinned (OpenSpec.upto topLostSpec)

/-- 'sigillumtop.TopDoubled', WHERE WHAT IT READS IS OF BULK AT MOST 1048576: true; the input reads as it did. -/
def topDoubledUptoRow : OpenClaim := { program := "ythiakdmhpfkjbaagreatdoor", sum := "cbbe6582ab5799503e4cac13afef1d68f7a9f215a9aeff1be14ddd5ce93e3688", func := "sigillum/sigillumtop.TopDoubled", spec := "topDoubled", inPlace := ["internal/reflectlite.ValueOf", "(internal/reflectlite.Value).Type", "(internal/reflectlite.Value).IsNil", "internal/reflectlite.TypeOf", "(internal/reflectlite.Value).Elem", "(internal/reflectlite.Value).Set"], unfollowed := true, recurses := true, named := ["errors.errorType"], apart := false, laid := [("errors.errorType", laid_errors_errorType)], narrowed := true }
def TopDoubledUptoSaid : Prop := topDoubledUptoRow.holds Tryz.pinned (OpenSpec.upto topDoubledSpec)

/-- 'sigillumtop.TopDown', WHERE WHAT IT READS IS OF BULK AT MOST 1048576: true; the input reads as it did. -/
def topDownUptoRow : OpenClaim := { program := "ythiakdmhpfkjbaagreatdoor", sum := "cbbe6582ab5799503e4cac13afef1d68f7a9f215a9aeff1be14ddd5ce93e3688", func := "sigillum/sigillumtop.TopDown", spec := "topDown", inPlace := ["internal/reflectlite.ValueOf", "(internal/reflectlite.Value).Type", "(internal/reflectlite.Value).IsNil", "internal/reflectlite.TypeOf", "(internal/reflectlite.Value).Elem", "(internal/reflectlite.Value).Set"], unfollowed := true, recurses := true, named := ["errors.errorType"], apart := false, laid := [("errors.errorType", laid_errors_errorType)], narrowed := true }
def TopDownUptoSaid : Prop := topDownUptoRow.holds Tryz.pinned (OpenSpec.upto topDownSpec)

/-- 'sigillumtop.TopRevoked', WHERE WHAT IT READS IS OF BULK AT MOST 1048576: true; the input reads as it did. -/
def topRevokedUptoRow : OpenClaim := { program := "ythiakdmhpfkjbaagreatdoor", sum := "cbbe6582ab5799503e4cac13afef1d68f7a9f215a9aeff1be14ddd5ce93e3688", func := "sigillum/sigillumtop.TopRevoked", spec := "topRevoked", inPlace := ["internal/reflectlite.ValueOf", "(internal/reflectlite.Value).Type", "(internal/reflectlite.Value).IsNil", "internal/reflectlite.TypeOf", "(internal/reflectlite.Value).Elem", "(internal/reflectlite.Value).Set"], unfollowed := true, recurses := true, named := ["errors.errorType"], apart := false, laid := [("errors.errorType", laid_errors_errorType)], narrowed := true }
def TopRevokedUptoSaid : Prop := topRevokedUptoRow.holds Tryz.pinned (OpenSpec.upto topRevokedSpec)

end Rows
end Go.Proofs.YthiakdmhpfkjbaaGreatDoor
