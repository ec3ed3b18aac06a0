/-
  NARROWER THAN 'FOR EVERY INPUT', by the rows' own cells (each row's printed sentence says how): AmapAdd: laid · AmapPieces: laid · AmapBounds: laid · AmapOrder: laid · AmapFind: laid.
  DERIVED. THE GIVEN ROWS OF THIS SEAT. 5 by the template 'for every input the law returns true; each argument reads behind the call as it read before'; 0 by the template 'total and deterministic' (their statements: YtplhgbfibiinaaaDoorTotals.lean).
  GIVEN WITH THE SEED: the statements are not yours to turn. If you find one false, say at which input.
  Laid BY PROGRAM, IN A SANDBOX (cutbox-rows.mjs): the forced cells as the released guide's own fill.sh prints them over the translation ef1b2449ac6db409… (all of the seat's roots in one cut). By AI agents, Wed Nov 11 2026. No macro, syntax, notation, axiom, sorry.
-/
import Derived.Test.YtplhgbfibiinaaaDoorChecked
import GoSem.Claim
import GoSem.ClaimJoined
import GoSem.ClaimMapViews
import Derived.JoinedTies
import Derived.KernelRfl
namespace Go.Proofs.YtplhgbfibiinaaaDoor
/- THE CELL 'sum', in the pinned program and in every row, IS THE sha256 OF THE DUMP (.gsa) THAT YtplhgbfibiinaaaDoorProg.lean LOADS. Nothing in Lean hashes anything: it is a label: what it is worth is what the hold of that sum in a sandbox is worth. -/
noncomputable def Tryd.pinned : Pinned := { name := "ytplhgbfibiinaaadoor", sum := "ef1b2449ac6db4095854314053f5519c9c23e617b22deb46d4cb2e4d1f7cc00b", checked := Tryd.checked }
namespace Rows
def none {H : Type} : Left H := { results := [], args := [] }

/- WHAT THE LISTED PACKAGE-LEVEL VARIABLES READ AS WHEN THE CALL BEGINS. Each datum BY PROGRAM (the guide's laid-datum.mjs) off the statement by which the dump's own 'gosem.cut.vars' lays the variable. In a bare row this is a premise. The card (YtplhgbfibiinaaaDoorCards.lean) ties it to the program's text. -/
def laid_errors_errorType {H : Type} : DataW H := .iface "internal/reflectlite.rtype" (.agg [.ptr (.lit (.string [101, 114, 114, 111, 114]))])

/-- 'sigillumlaw10.AmapAdd': WHATEVER THE INPUT: true; the input reads as it did. -/
def amapAddSpec : ChangeSpec := { name := "amapAdd", fn := fun _ => fun
  | [d1, d2, d3] => { results := [.lit (.bool true)], args := [d1, d2, d3] }
  | _ => none }
def amapAddRow : OpenClaim := { program := "ytplhgbfibiinaaadoor", sum := "ef1b2449ac6db4095854314053f5519c9c23e617b22deb46d4cb2e4d1f7cc00b", func := "sigillum/sigillumlaw10.AmapAdd", spec := "amapAdd", inPlace := ["slices.overlaps[sigillum/amap.Area]", "internal/reflectlite.ValueOf", "(internal/reflectlite.Value).Type", "(internal/reflectlite.Value).IsNil", "internal/reflectlite.TypeOf", "(internal/reflectlite.Value).Elem", "(internal/reflectlite.Value).Set"], unfollowed := true, recurses := true, named := ["errors.errorType"], apart := false, laid := [("errors.errorType", laid_errors_errorType)] }
def AmapAddSaid : Prop := amapAddRow.holds Tryd.pinned (OpenSpec.ofChange amapAddSpec)

/-- ITS FALSE NEIGHBOUR: 'it returns false'. Refute it at one input. -/
def amapAddWrong : ChangeSpec := { name := "amapAdd", fn := fun _ => fun
  | [d1, d2, d3] => { results := [.lit (.bool false)], args := [d1, d2, d3] }
  | _ => none }
def AmapAddWrongFalsely : Prop := amapAddRow.holds Tryd.pinned (OpenSpec.ofChange amapAddWrong)

/-- 'sigillumlaw10.AmapPieces': WHATEVER THE INPUT: true; the input reads as it did. -/
def amapPiecesSpec : ChangeSpec := { name := "amapPieces", fn := fun _ => fun
  | [d1, d2, d3, d4] => { results := [.lit (.bool true)], args := [d1, d2, d3, d4] }
  | _ => none }
def amapPiecesRow : OpenClaim := { program := "ytplhgbfibiinaaadoor", sum := "ef1b2449ac6db4095854314053f5519c9c23e617b22deb46d4cb2e4d1f7cc00b", func := "sigillum/sigillumlaw10.AmapPieces", spec := "amapPieces", inPlace := ["slices.overlaps[sigillum/amap.Area]", "internal/reflectlite.ValueOf", "(internal/reflectlite.Value).Type", "(internal/reflectlite.Value).IsNil", "internal/reflectlite.TypeOf", "(internal/reflectlite.Value).Elem", "(internal/reflectlite.Value).Set"], unfollowed := true, recurses := true, named := ["errors.errorType"], apart := false, laid := [("errors.errorType", laid_errors_errorType)] }
def AmapPiecesSaid : Prop := amapPiecesRow.holds Tryd.pinned (OpenSpec.ofChange amapPiecesSpec)

/-- ITS FALSE NEIGHBOUR: 'it returns false'. Refute it at one input. -/
def amapPiecesWrong : ChangeSpec := { name := "amapPieces", fn := fun _ => fun
  | [d1, d2, d3, d4] => { results := [.lit (.bool false)], args := [d1, d2, d3, d4] }
  | _ => none }
def AmapPiecesWrongFalsely : Prop := amapPiecesRow.holds Tryd.pinned (OpenSpec.ofChange amapPiecesWrong)

/-- 'sigillumlaw10.AmapBounds': WHATEVER THE INPUT: true; the input reads as it did. -/
def amapBoundsSpec : ChangeSpec := { name := "amapBounds", fn := fun _ => fun
  | [d1, d2, d3, d4] => { results := [.lit (.bool true)], args := [d1, d2, d3, d4] }
  | _ => none }
def amapBoundsRow : OpenClaim := { program := "ytplhgbfibiinaaadoor", sum := "ef1b2449ac6db4095854314053f5519c9c23e617b22deb46d4cb2e4d1f7cc00b", func := "sigillum/sigillumlaw10.AmapBounds", spec := "amapBounds", inPlace := ["slices.overlaps[sigillum/amap.Area]", "internal/reflectlite.ValueOf", "(internal/reflectlite.Value).Type", "(internal/reflectlite.Value).IsNil", "internal/reflectlite.TypeOf", "(internal/reflectlite.Value).Elem", "(internal/reflectlite.Value).Set"], unfollowed := true, recurses := true, named := ["errors.errorType"], apart := false, laid := [("errors.errorType", laid_errors_errorType)] }
def AmapBoundsSaid : Prop := amapBoundsRow.holds Tryd.pinned (OpenSpec.ofChange amapBoundsSpec)

/-- ITS FALSE NEIGHBOUR: 'it returns false'. Refute it at one input. -/
def amapBoundsWrong : ChangeSpec := { name := "amapBounds", fn := fun _ => fun
  | [d1, d2, d3, d4] => { results := [.lit (.bool false)], args := [d1, d2, d3, d4] }
  | _ => none }
def AmapBoundsWrongFalsely : Prop := amapBoundsRow.holds Tryd.pinned (OpenSpec.ofChange amapBoundsWrong)

/-- 'sigillumlaw10.AmapOrder': WHATEVER THE INPUT: true; the input reads as it did. -/
def amapOrderSpec : ChangeSpec := { name := "amapOrder", fn := fun _ => fun
  | [d1, d2] => { results := [.lit (.bool true)], args := [d1, d2] }
  | _ => none }
def amapOrderRow : OpenClaim := { program := "ytplhgbfibiinaaadoor", sum := "ef1b2449ac6db4095854314053f5519c9c23e617b22deb46d4cb2e4d1f7cc00b", func := "sigillum/sigillumlaw10.AmapOrder", spec := "amapOrder", inPlace := ["slices.overlaps[sigillum/amap.Area]", "internal/reflectlite.ValueOf", "(internal/reflectlite.Value).Type", "(internal/reflectlite.Value).IsNil", "internal/reflectlite.TypeOf", "(internal/reflectlite.Value).Elem", "(internal/reflectlite.Value).Set"], unfollowed := true, recurses := true, named := ["errors.errorType"], apart := false, laid := [("errors.errorType", laid_errors_errorType)] }
def AmapOrderSaid : Prop := amapOrderRow.holds Tryd.pinned (OpenSpec.ofChange amapOrderSpec)

/-- ITS FALSE NEIGHBOUR: 'it returns false'. Refute it at one input. -/
def amapOrderWrong : ChangeSpec := { name := "amapOrder", fn := fun _ => fun
  | [d1, d2] => { results := [.lit (.bool false)], args := [d1, d2] }
  | _ => none }
def AmapOrderWrongFalsely : Prop := amapOrderRow.holds Tryd.pinned (OpenSpec.ofChange amapOrderWrong)

/-- 'sigillumlaw10.AmapFind': WHATEVER THE INPUT: true; the input reads as it did. -/
def amapFindSpec : ChangeSpec := { name := "amapFind", fn := fun _ => fun
  | [d1, d2] => { results := [.lit (.bool true)], args := [d1, d2] }
  | _ => none }
def amapFindRow : OpenClaim := { program := "ytplhgbfibiinaaadoor", sum := "ef1b2449ac6db4095854314053f5519c9c23e617b22deb46d4cb2e4d1f7cc00b", func := "sigillum/sigillumlaw10.AmapFind", spec := "amapFind", inPlace := ["slices.overlaps[sigillum/amap.Area]", "internal/reflectlite.ValueOf", "(internal/reflectlite.Value).Type", "(internal/reflectlite.Value).IsNil", "internal/reflectlite.TypeOf", "(internal/reflectlite.Value).Elem", "(internal/reflectlite.Value).Set"], unfollowed := true, recurses := true, named := ["errors.errorType"], apart := false, laid := [("errors.errorType", laid_errors_errorType)] }
def AmapFindSaid : Prop := amapFindRow.holds Tryd.pinned (OpenSpec.ofChange amapFindSpec)

/-- ITS FALSE NEIGHBOUR: 'it returns false'. Refute it at one input. -/
def amapFindWrong : ChangeSpec := { name := "amapFind", fn := fun _ => fun
  | [d1, d2] => { results := [.lit (.bool false)], args := [d1, d2] }
  | _ => none }
def AmapFindWrongFalsely : Prop := amapFindRow.holds Tryd.pinned (OpenSpec.ofChange amapFindWrong)

/- THE SECOND FORM. 'bulk': how many values and letters a reading holds, each counted each time it is reached (what is shared counts as often as it is met; a slice's spare places count too). A statement '..UptoSaid' is the law's where the arguments, and the package variables that the reading takes, are together of bulk at most 1048576: NARROWER than '..Said'. Prove '..Said' where nothing that the law and all that it calls make is longer than what came in: it says more and counts as full. Else prove '..UptoSaid'. A law counts once. -/
mutual
def uptoBulk {H : Type} : DataW H → Nat
  | .lit (.string bytes) => bytes.length + 1
  | .lit _ => 1
  | .nil => 1
  | .ptr d => uptoBulk d + 1
  | .slice elems spare => uptoBulkAll elems + uptoBulkAll spare + 1
  | .agg parts => uptoBulkAll parts + 1
  | .iface _ d => uptoBulk d + 1
  | .map entries => uptoBulkEntries entries + 1
  | .held _ => 1
def uptoBulkAll {H : Type} : List (DataW H) → Nat
  | [] => 0
  | d :: r => uptoBulk d + uptoBulkAll r
def uptoBulkEntries {H : Type} : List (Lit × DataW H) → Nat
  | [] => 0
  | x :: r => uptoBulkEntry x + uptoBulkEntries r
def uptoBulkEntry {H : Type} : Lit × DataW H → Nat
  | (.string bytes, d) => bytes.length + uptoBulk d + 1
  | (_, d) => uptoBulk d + 1
 end
def uptoSmall : (H : Type) → List (DataW H) → Bool := fun _ ds => decide (uptoBulkAll ds ≤ 1048576)
def OpenSpec.upto (s : _root_.Go.ChangeSpec) : _root_.Go.OpenSpec := { _root_.Go.OpenSpec.ofChange s with cond := some uptoSmall }

/-- 'sigillumlaw10.AmapAdd', WHERE WHAT IT READS IS OF BULK AT MOST 1048576: true; the input reads as it did. -/
def amapAddUptoRow : OpenClaim := { program := "ytplhgbfibiinaaadoor", sum := "ef1b2449ac6db4095854314053f5519c9c23e617b22deb46d4cb2e4d1f7cc00b", func := "sigillum/sigillumlaw10.AmapAdd", spec := "amapAdd", inPlace := ["slices.overlaps[sigillum/amap.Area]", "internal/reflectlite.ValueOf", "(internal/reflectlite.Value).Type", "(internal/reflectlite.Value).IsNil", "internal/reflectlite.TypeOf", "(internal/reflectlite.Value).Elem", "(internal/reflectlite.Value).Set"], unfollowed := true, recurses := true, named := ["errors.errorType"], apart := false, laid := [("errors.errorType", laid_errors_errorType)], narrowed := true }
def AmapAddUptoSaid : Prop := amapAddUptoRow.holds Tryd.pinned (OpenSpec.upto amapAddSpec)

/-- 'sigillumlaw10.AmapPieces', WHERE WHAT IT READS IS OF BULK AT MOST 1048576: true; the input reads as it did. -/
def amapPiecesUptoRow : OpenClaim := { program := "ytplhgbfibiinaaadoor", sum := "ef1b2449ac6db4095854314053f5519c9c23e617b22deb46d4cb2e4d1f7cc00b", func := "sigillum/sigillumlaw10.AmapPieces", spec := "amapPieces", inPlace := ["slices.overlaps[sigillum/amap.Area]", "internal/reflectlite.ValueOf", "(internal/reflectlite.Value).Type", "(internal/reflectlite.Value).IsNil", "internal/reflectlite.TypeOf", "(internal/reflectlite.Value).Elem", "(internal/reflectlite.Value).Set"], unfollowed := true, recurses := true, named := ["errors.errorType"], apart := false, laid := [("errors.errorType", laid_errors_errorType)], narrowed := true }
def AmapPiecesUptoSaid : Prop := amapPiecesUptoRow.holds Tryd.pinned (OpenSpec.upto amapPiecesSpec)

/-- 'sigillumlaw10.AmapBounds', WHERE WHAT IT READS IS OF BULK AT MOST 1048576: true; the input reads as it did. -/
def amapBoundsUptoRow : OpenClaim := { program := "ytplhgbfibiinaaadoor", sum := "ef1b2449ac6db4095854314053f5519c9c23e617b22deb46d4cb2e4d1f7cc00b", func := "sigillum/sigillumlaw10.AmapBounds", spec := "amapBounds", inPlace := ["slices.overlaps[sigillum/amap.Area]", "internal/reflectlite.ValueOf", "(internal/reflectlite.Value).Type", "(internal/reflectlite.Value).IsNil", "internal/reflectlite.TypeOf", "(internal/reflectlite.Value).Elem", "(internal/reflectlite.Value).Set"], unfollowed := true, recurses := true, named := ["errors.errorType"], apart := false, laid := [("errors.errorType", laid_errors_errorType)], narrowed := true }
def AmapBoundsUptoSaid : Prop := amapBoundsUptoRow.holds Tryd.pinned (OpenSpec.upto amapBoundsSpec)

/-- 'sigillumlaw10.AmapOrder', WHERE WHAT IT READS IS OF BULK AT MOST 1048576: true; the input reads as it did. -/
def amapOrderUptoRow : OpenClaim := { program := "ytplhgbfibiinaaadoor", sum := "ef1b2449ac6db4095854314053f5519c9c23e617b22deb46d4cb2e4d1f7cc00b", func := "sigillum/sigillumlaw10.AmapOrder", spec := "amapOrder", inPlace := ["slices.overlaps[sigillum/amap.Area]", "internal/reflectlite.ValueOf", "(internal/reflectlite.Value).Type", "(internal/reflectlite.Value).IsNil", "internal/reflectlite.TypeOf", "(internal/reflectlite.Value).Elem", "(internal/reflectlite.Value).Set"], unfollowed := true, recurses := true, named := ["errors.errorType"], apart := false, laid := [("errors.errorType", laid_errors_errorType)], narrowed := true }
def AmapOrderUptoSaid : Prop := amapOrderUptoRow.holds Tryd.pinned (OpenSpec.upto amapOrderSpec)

/-- 'sigillumlaw10.AmapFind', WHERE WHAT IT READS IS OF BULK AT MOST 1048576: true; the input reads as it did. -/
def amapFindUptoRow : OpenClaim := { program := "ytplhgbfibiinaaadoor", sum := "ef1b2449ac6db4095854314053f5519c9c23e617b22deb46d4cb2e4d1f7cc00b", func := "sigillum/sigillumlaw10.AmapFind", spec := "amapFind", inPlace := ["slices.overlaps[sigillum/amap.Area]", "internal/reflectlite.ValueOf", "(internal/reflectlite.Value).Type", "(internal/reflectlite.Value).IsNil", "internal/reflectlite.TypeOf", "(internal/reflectlite.Value).Elem", "(internal/reflectlite.Value).Set"], unfollowed := true, recurses := true, named := ["errors.errorType"], apart := false, laid := [("errors.errorType", laid_errors_errorType)], narrowed := true }
def AmapFindUptoSaid : Prop := amapFindUptoRow.holds Tryd.pinned (OpenSpec.upto amapFindSpec)

end Rows
end Go.Proofs.YtplhgbfibiinaaaDoor
