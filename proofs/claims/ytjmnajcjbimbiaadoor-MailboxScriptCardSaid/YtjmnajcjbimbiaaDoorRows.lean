/-
  NARROWER THAN 'FOR EVERY INPUT', by the rows' own cells (each row's printed sentence says how): MailboxOrder: laid · MailboxRoom: laid · MailboxOwn: laid · MailboxScript: laid.
  DERIVED. THE GIVEN ROWS OF THIS SEAT. 4 by the template 'for every input the law returns true; each argument reads behind the call as it read before'; 0 by the template 'total and deterministic' (their statements: YtjmnajcjbimbiaaDoorTotals.lean).
  GIVEN WITH THE SEED: the statements are not yours to turn. If you find one false, say at which input.
  Laid BY PROGRAM, IN A SANDBOX (cutbox-rows.mjs): the forced cells as the released guide's own fill.sh prints them over the translation 6c9a118358e5cac7… (all of the seat's roots in one cut). By AI agents, Wed Nov 11 2026. No macro, syntax, notation, axiom, sorry.
-/
import Derived.Test.YtjmnajcjbimbiaaDoorChecked
import GoSem.Claim
import GoSem.ClaimJoined
import GoSem.ClaimMapViews
import Derived.JoinedTies
import Derived.KernelRfl
namespace Go.Proofs.YtjmnajcjbimbiaaDoor
/- THE CELL 'sum', in the pinned program and in every row, IS THE sha256 OF THE DUMP (.gsa) THAT YtjmnajcjbimbiaaDoorProg.lean LOADS. Nothing in Lean hashes anything: it is a label: what it is worth is what the hold of that sum in a sandbox is worth. -/
noncomputable def Tryd.pinned : Pinned := { name := "ytjmnajcjbimbiaadoor", sum := "6c9a118358e5cac75a3b826190bab379d7d7285cafe3c0f19cc61f1dc556d13a", checked := Tryd.checked }
namespace Rows
def none {H : Type} : Left H := { results := [], args := [] }

/- WHAT THE LISTED PACKAGE-LEVEL VARIABLES READ AS WHEN THE CALL BEGINS. Each datum BY PROGRAM (the guide's laid-datum.mjs) off the statement by which the dump's own 'gosem.cut.vars' lays the variable. In a bare row this is a premise. The card (YtjmnajcjbimbiaaDoorCards.lean) ties it to the program's text. -/
def laid_errors_errorType {H : Type} : DataW H := .iface "internal/reflectlite.rtype" (.agg [.ptr (.lit (.string [101, 114, 114, 111, 114]))])

/-- 'sigillumlaw19.MailboxOrder': WHATEVER THE INPUT: true; the input reads as it did. -/
def mailboxOrderSpec : ChangeSpec := { name := "mailboxOrder", fn := fun _ => fun
  | [d] => { results := [.lit (.bool true)], args := [d] }
  | _ => none }
def mailboxOrderRow : OpenClaim := { program := "ytjmnajcjbimbiaadoor", sum := "6c9a118358e5cac75a3b826190bab379d7d7285cafe3c0f19cc61f1dc556d13a", func := "sigillum/sigillumlaw19.MailboxOrder", spec := "mailboxOrder", inPlace := ["internal/reflectlite.ValueOf", "(internal/reflectlite.Value).Type", "(internal/reflectlite.Value).IsNil", "internal/reflectlite.TypeOf", "(internal/reflectlite.Value).Elem", "(internal/reflectlite.Value).Set"], unfollowed := true, recurses := true, named := ["errors.errorType"], apart := false, laid := [("errors.errorType", laid_errors_errorType)] }
def MailboxOrderSaid : Prop := mailboxOrderRow.holds Tryd.pinned (OpenSpec.ofChange mailboxOrderSpec)

/-- ITS FALSE NEIGHBOUR: 'it returns false'. Refute it at one input. -/
def mailboxOrderWrong : ChangeSpec := { name := "mailboxOrder", fn := fun _ => fun
  | [d] => { results := [.lit (.bool false)], args := [d] }
  | _ => none }
def MailboxOrderWrongFalsely : Prop := mailboxOrderRow.holds Tryd.pinned (OpenSpec.ofChange mailboxOrderWrong)

/-- 'sigillumlaw19.MailboxRoom': WHATEVER THE INPUT: true; the input reads as it did. -/
def mailboxRoomSpec : ChangeSpec := { name := "mailboxRoom", fn := fun _ => fun
  | [d1, d2] => { results := [.lit (.bool true)], args := [d1, d2] }
  | _ => none }
def mailboxRoomRow : OpenClaim := { program := "ytjmnajcjbimbiaadoor", sum := "6c9a118358e5cac75a3b826190bab379d7d7285cafe3c0f19cc61f1dc556d13a", func := "sigillum/sigillumlaw19.MailboxRoom", spec := "mailboxRoom", inPlace := ["internal/reflectlite.ValueOf", "(internal/reflectlite.Value).Type", "(internal/reflectlite.Value).IsNil", "internal/reflectlite.TypeOf", "(internal/reflectlite.Value).Elem", "(internal/reflectlite.Value).Set"], unfollowed := true, recurses := true, named := ["errors.errorType"], apart := false, laid := [("errors.errorType", laid_errors_errorType)] }
def MailboxRoomSaid : Prop := mailboxRoomRow.holds Tryd.pinned (OpenSpec.ofChange mailboxRoomSpec)

/-- ITS FALSE NEIGHBOUR: 'it returns false'. Refute it at one input. -/
def mailboxRoomWrong : ChangeSpec := { name := "mailboxRoom", fn := fun _ => fun
  | [d1, d2] => { results := [.lit (.bool false)], args := [d1, d2] }
  | _ => none }
def MailboxRoomWrongFalsely : Prop := mailboxRoomRow.holds Tryd.pinned (OpenSpec.ofChange mailboxRoomWrong)

/-- 'sigillumlaw19.MailboxOwn': WHATEVER THE INPUT: true; the input reads as it did. -/
def mailboxOwnSpec : ChangeSpec := { name := "mailboxOwn", fn := fun _ => fun
  | [d1, d2, d3] => { results := [.lit (.bool true)], args := [d1, d2, d3] }
  | _ => none }
def mailboxOwnRow : OpenClaim := { program := "ytjmnajcjbimbiaadoor", sum := "6c9a118358e5cac75a3b826190bab379d7d7285cafe3c0f19cc61f1dc556d13a", func := "sigillum/sigillumlaw19.MailboxOwn", spec := "mailboxOwn", inPlace := ["internal/reflectlite.ValueOf", "(internal/reflectlite.Value).Type", "(internal/reflectlite.Value).IsNil", "internal/reflectlite.TypeOf", "(internal/reflectlite.Value).Elem", "(internal/reflectlite.Value).Set"], unfollowed := true, recurses := true, named := ["errors.errorType"], apart := false, laid := [("errors.errorType", laid_errors_errorType)] }
def MailboxOwnSaid : Prop := mailboxOwnRow.holds Tryd.pinned (OpenSpec.ofChange mailboxOwnSpec)

/-- ITS FALSE NEIGHBOUR: 'it returns false'. Refute it at one input. -/
def mailboxOwnWrong : ChangeSpec := { name := "mailboxOwn", fn := fun _ => fun
  | [d1, d2, d3] => { results := [.lit (.bool false)], args := [d1, d2, d3] }
  | _ => none }
def MailboxOwnWrongFalsely : Prop := mailboxOwnRow.holds Tryd.pinned (OpenSpec.ofChange mailboxOwnWrong)

/-- 'sigillumlaw19.MailboxScript': WHATEVER THE INPUT: true; the input reads as it did. -/
def mailboxScriptSpec : ChangeSpec := { name := "mailboxScript", fn := fun _ => fun
  | [d1, d2] => { results := [.lit (.bool true)], args := [d1, d2] }
  | _ => none }
def mailboxScriptRow : OpenClaim := { program := "ytjmnajcjbimbiaadoor", sum := "6c9a118358e5cac75a3b826190bab379d7d7285cafe3c0f19cc61f1dc556d13a", func := "sigillum/sigillumlaw19.MailboxScript", spec := "mailboxScript", inPlace := ["internal/reflectlite.ValueOf", "(internal/reflectlite.Value).Type", "(internal/reflectlite.Value).IsNil", "internal/reflectlite.TypeOf", "(internal/reflectlite.Value).Elem", "(internal/reflectlite.Value).Set"], unfollowed := true, recurses := true, named := ["errors.errorType"], apart := false, laid := [("errors.errorType", laid_errors_errorType)] }
def MailboxScriptSaid : Prop := mailboxScriptRow.holds Tryd.pinned (OpenSpec.ofChange mailboxScriptSpec)

/-- ITS FALSE NEIGHBOUR: 'it returns false'. Refute it at one input. -/
def mailboxScriptWrong : ChangeSpec := { name := "mailboxScript", fn := fun _ => fun
  | [d1, d2] => { results := [.lit (.bool false)], args := [d1, d2] }
  | _ => none }
def MailboxScriptWrongFalsely : Prop := mailboxScriptRow.holds Tryd.pinned (OpenSpec.ofChange mailboxScriptWrong)

/- THE SECOND FORM. 'bulk': how many values and letters a reading holds, each counted each time it is reached (what is shared counts as often as it is met; a slice's spare places count too). A statement '..UptoSaid' is the law's where the arguments, and the package variables that the reading takes, are together of bulk at most 1048576: NARROWER than '..Said'. Prove '..Said' where nothing that the law and all that it calls make is longer than what came in: it says more and counts as full. Else prove '..UptoSaid'. A law counts once. -/
mutual
def uptoBulk {H : Type} : DataW H → Nat
  | .lit (.string bytes) => bytes.length + 1
  | .lit _ => 1
  | .nil => 1
  | .ptr d => uptoBulk d + 1
  | .slice elems spare => uptoBulkAll elems + uptoBulkAll spare + 1
  | .agg parts => uptoBulkAll parts + 1
  | .iface _ d => uptoBulk d + 1
  | .map entries => uptoBulkEntries entries + 1
  | .held _ => 1
def uptoBulkAll {H : Type} : List (DataW H) → Nat
  | [] => 0
  | d :: r => uptoBulk d + uptoBulkAll r
def uptoBulkEntries {H : Type} : List (Lit × DataW H) → Nat
  | [] => 0
  | x :: r => uptoBulkEntry x + uptoBulkEntries r
def uptoBulkEntry {H : Type} : Lit × DataW H → Nat
  | (.string bytes, d) => bytes.length + uptoBulk d + 1
  | (_, d) => uptoBulk d + 1
 end
def uptoSmall : (H : Type) → List (DataW H) → Bool := fun _ ds => decide (uptoBulkAll ds ≤ 1048576)
def OpenSpec.upto (s : _root_.Go.ChangeSpec) : _root_.Go.OpenSpec := { _root_.Go.OpenSpec.ofChange s with cond := some uptoSmall }

/-- 'sigillumlaw19.MailboxOrder', WHERE WHAT IT READS IS OF BULK AT MOST 1048576: true; the input reads as it did. -/
def mailboxOrderUptoRow : OpenClaim := { program := "ytjmnajcjbimbiaadoor", sum := "6c9a118358e5cac75a3b826190bab379d7d7285cafe3c0f19cc61f1dc556d13a", func := "sigillum/sigillumlaw19.MailboxOrder", spec := "mailboxOrder", inPlace := ["internal/reflectlite.ValueOf", "(internal/reflectlite.Value).Type", "(internal/reflectlite.Value).IsNil", "internal/reflectlite.TypeOf", "(internal/reflectlite.Value).Elem", "(internal/reflectlite.Value).Set"], unfollowed := true, recurses := true, named := ["errors.errorType"], apart := false, laid := [("errors.errorType", laid_errors_errorType)], narrowed := true }
def MailboxOrderUptoSaid : Prop := mailboxOrderUptoRow.holds Tryd.pinned (OpenSpec.upto mailboxOrderSpec)

/-- 'sigillumlaw19.MailboxRoom', WHERE WHAT IT READS IS OF BULK AT MOST 1048576: true; the input reads as it did. -/
def mailboxRoomUptoRow : OpenClaim := { program := "ytjmnajcjbimbiaadoor", sum := "6c9a118358e5cac75a3b826190bab379d7d7285cafe3c0f19cc61f1dc556d13a", func := "sigillum/sigillumlaw19.MailboxRoom", spec := "mailboxRoom", inPlace := ["internal/reflectlite.ValueOf", "(internal/reflectlite.Value).Type", "(internal/reflectlite.Value).IsNil", "internal/reflectlite.TypeOf", "(internal/reflectlite.Value).Elem", "(internal/reflectlite.Value).Set"], unfollowed := true, recurses := true, named := ["errors.errorType"], apart := false, laid := [("errors.errorType", laid_errors_errorType)], narrowed := true }
def MailboxRoomUptoSaid : Prop := mailboxRoomUptoRow.holds Tryd.pinned (OpenSpec.upto mailboxRoomSpec)

/-- 'sigillumlaw19.MailboxOwn', WHERE WHAT IT READS IS OF BULK AT MOST 1048576: true; the input reads as it did. -/
def mailboxOwnUptoRow : OpenClaim := { program := "ytjmnajcjbimbiaadoor", sum := "6c9a118358e5cac75a3b826190bab379d7d7285cafe3c0f19cc61f1dc556d13a", func := "sigillum/sigillumlaw19.MailboxOwn", spec := "mailboxOwn", inPlace := ["internal/reflectlite.ValueOf", "(internal/reflectlite.Value).Type", "(internal/reflectlite.Value).IsNil", "internal/reflectlite.TypeOf", "(internal/reflectlite.Value).Elem", "(internal/reflectlite.Value).Set"], unfollowed := true, recurses := true, named := ["errors.errorType"], apart := false, laid := [("errors.errorType", laid_errors_errorType)], narrowed := true }
def MailboxOwnUptoSaid : Prop := mailboxOwnUptoRow.holds Tryd.pinned (OpenSpec.upto mailboxOwnSpec)

/-- 'sigillumlaw19.MailboxScript', WHERE WHAT IT READS IS OF BULK AT MOST 1048576: true; the input reads as it did. -/
def mailboxScriptUptoRow : OpenClaim := { program := "ytjmnajcjbimbiaadoor", sum := "6c9a118358e5cac75a3b826190bab379d7d7285cafe3c0f19cc61f1dc556d13a", func := "sigillum/sigillumlaw19.MailboxScript", spec := "mailboxScript", inPlace := ["internal/reflectlite.ValueOf", "(internal/reflectlite.Value).Type", "(internal/reflectlite.Value).IsNil", "internal/reflectlite.TypeOf", "(internal/reflectlite.Value).Elem", "(internal/reflectlite.Value).Set"], unfollowed := true, recurses := true, named := ["errors.errorType"], apart := false, laid := [("errors.errorType", laid_errors_errorType)], narrowed := true }
def MailboxScriptUptoSaid : Prop := mailboxScriptUptoRow.holds Tryd.pinned (OpenSpec.upto mailboxScriptSpec)

end Rows
end Go.Proofs.YtjmnajcjbimbiaaDoor
